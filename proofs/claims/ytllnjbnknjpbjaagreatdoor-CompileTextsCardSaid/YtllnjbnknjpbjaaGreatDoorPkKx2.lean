/- Texts of this proof, put together by pack.py: what its declarations name. -/
import Derived.Test.YtllnjbnknjpbjaaGreatDoorPkKx1
import Derived.Test.YtllnjbnknjpbjaaGreatDoorCards
import Derived.Test.YtllnjbnknjpbjaaGreatDoorChecked
import Derived.Test.YtllnjbnknjpbjaaGreatDoorProg
import Derived.Test.YtllnjbnknjpbjaaGreatDoorRows
import Derived.Test.YtllnjbnknjpbjaaGreatDoorTie
set_option linter.unusedVariables false
set_option linter.unusedSimpArgs false
namespace Go.Proofs.YtllnjbnknjpbjaaGreatDoor
open Go.X
structure Ins where
 Op:Int
 A:Int
 B:Int
 S:List UInt8
structure Code where
 Names:List (List UInt8)
 Ins:List (Ins)
structure Compiler where
 Code:Code
structure Arr7_Int where
 e0:Int
 e1:Int
 e2:Int
 e3:Int
 e4:Int
 e5:Int
 e6:Int
def Arr7_Int.list (a:Arr7_Int):List (Int):=[a.e0,a.e1,a.e2,a.e3,a.e4,a.e5,a.e6]
def Arr7_Int.of:List (Int) → Option Arr7_Int
 | [x0,x1,x2,x3,x4,x5,x6]=>some ⟨x0,x1,x2,x3,x4,x5,x6⟩
 | _=>none
def Arr7_Int.get (a:Arr7_Int) (i:Int):Option (Int):=idx a.list i
def Arr7_Int.set (a:Arr7_Int) (i:Int) (x:Int):Option Arr7_Int:=(setI a.list i x).bind Arr7_Int.of
structure Arr14_List_UInt8 where
 e0:List UInt8
 e1:List UInt8
 e2:List UInt8
 e3:List UInt8
 e4:List UInt8
 e5:List UInt8
 e6:List UInt8
 e7:List UInt8
 e8:List UInt8
 e9:List UInt8
 e10:List UInt8
 e11:List UInt8
 e12:List UInt8
 e13:List UInt8
def Arr14_List_UInt8.list (a:Arr14_List_UInt8):List (List UInt8):=[a.e0,a.e1,a.e2,a.e3,a.e4,a.e5,a.e6,a.e7,a.e8,a.e9,a.e10,a.e11,a.e12,a.e13]
def Arr14_List_UInt8.of:List (List UInt8) → Option Arr14_List_UInt8
 | [x0,x1,x2,x3,x4,x5,x6,x7,x8,x9,x10,x11,x12,x13]=>some ⟨x0,x1,x2,x3,x4,x5,x6,x7,x8,x9,x10,x11,x12,x13⟩
 | _=>none
def Arr14_List_UInt8.get (a:Arr14_List_UInt8) (i:Int):Option (List UInt8):=idx a.list i
def Arr14_List_UInt8.set (a:Arr14_List_UInt8) (i:Int) (x:List UInt8):Option Arr14_List_UInt8:=(setI a.list i x).bind Arr14_List_UInt8.of
structure NoCopy where
structure BoolT where
 blank:NoCopy
 v:Int
structure Mutex where
 state:Int
 sema:Int
structure Mutex2 where
 blank:NoCopy
 mu:Mutex
structure Once where
 blank:NoCopy
 done:BoolT
 m:Mutex2
structure Replacer where
 once:Once
 r:Unit
 oldnew:List (List UInt8)
def qa8 (_N:Nat) (x_1:Ins) (x0:Compiler):Option (Int × Compiler) :=
 (show Option Compiler from
  (app x0.Code.Ins ([x_1]:List (Ins))).bind fun l28 =>
  some (Compiler.mk (Code.mk x0.Code.Names l28))).bind fun o18 =>
 some ((IntKind.wrap .i64 ((o18.Code.Ins.length:Int) - 1)),o18)
def qdo (_N:Nat) (s_0:List (List UInt8)) (v_1:List UInt8) (x_4:Int):Option (Int ⊕ ((Unit ⊕ Int))) :=
 bif (decide (x_4 < (s_0.length:Int))) then
  (idx s_0 x_4).bind fun x7 =>
  bif (v_1 == x7) then
   some (.inr (.inr x_4))
  else
   some (.inl (x_4 + 1))
 else
  some (.inr (.inl ()))
def qdW (N:Nat) (s_0:List (List UInt8)) (v_1:List UInt8):Option Int :=
 (iter (fun s=>qdo N s_0 v_1 s) N 0).bind fun o2 =>
 Sum.elim (fun _o2 =>
  some (-1))
 (fun o2 =>
  some o2) o2
def qcu (N:Nat) (s_1:List UInt8) (x0:Compiler):Option (Int × Compiler) :=
 (qdW N x0.Code.Names s_1).bind fun r18 =>
 bif (decide (r18 < 0)) then
  (app x0.Code.Names ([s_1]:List (List UInt8))).bind fun l25 =>
  some ((x0.Code.Names.length:Int),(Compiler.mk (Code.mk l25 x0.Code.Ins)))
 else
  some (r18,x0)
def qeD (_N:Nat) (kind_0:Int):Option Int :=
 (idx [(0:Int),(0:Int),(5:Int),(6:Int),(7:Int),(8:Int),(9:Int)] kind_0).bind fun z1 =>
 some z1
def qea (r_compile_compiler_parts:List (Part) → List UInt8 → Compiler → Option Compiler) (r_compile_compiler_selection:Part → List UInt8 → Compiler → Option Compiler) (N:Nat) (l_1:List (Part)) (count_2:List UInt8) (x_30:Int) (x_31:Compiler):Option ((Int × Compiler) ⊕ Compiler) :=
 bif (decide (x_30 < (l_1.length:Int))) then
  (idx l_1 x_30).bind fun x41 =>
  bif (x41.Kind == 1) then
   (qa8 N (Ins.mk 1 0 0 x41.Text) x_31).bind fun r60 =>
   some (.inl ((x_30 + 1),r60.2))
  else
   bif (x41.Kind == 10) then
    (qcu N count_2 x_31).bind fun r71 =>
    (qa8 N (Ins.mk 6 r71.1 0 ([])) r71.2).bind fun r81 =>
    some (.inl ((x_30 + 1),r81.2))
   else
    bif (x41.Kind == 11) then
     bif ((x41.Parts.length:Int) == 0) then
      (qa8 N (Ins.mk 4 0 0 x41.Name) x_31).bind fun r93 =>
      some (.inl ((x_30 + 1),r93.2))
     else
      bif (x41.Kind == 11) then
       (qa8 N (Ins.mk 2 0 0 x41.Name) x_31).bind fun r104 =>
       (r_compile_compiler_parts x41.Parts count_2 r104.2).bind fun r114 =>
       (qa8 N (Ins.mk 3 0 0 x41.Name) r114).bind fun r123 =>
       some (.inl ((x_30 + 1),r123.2))
      else
       (qb6 N x41.Kind).bind fun r133 =>
       bif r133 then
        (r_compile_compiler_selection x41 count_2 x_31).bind fun r136 =>
        some (.inl ((x_30 + 1),r136))
       else
        (show Option Compiler from
         (qeD N x41.Kind).bind fun r153 =>
         (qcu N x41.Name x_31).bind fun r156 =>
         (qa8 N (Ins.mk r153 r156.1 0 x41.Style) r156.2).bind fun r166 =>
         some r166.2).bind fun o145 =>
        some (.inl ((x_30 + 1),o145))
    else
     bif (x41.Kind == 11) then
      (qa8 N (Ins.mk 2 0 0 x41.Name) x_31).bind fun r201 =>
      (r_compile_compiler_parts x41.Parts count_2 r201.2).bind fun r211 =>
      (qa8 N (Ins.mk 3 0 0 x41.Name) r211).bind fun r220 =>
      some (.inl ((x_30 + 1),r220.2))
     else
      (qb6 N x41.Kind).bind fun r230 =>
      bif r230 then
       (r_compile_compiler_selection x41 count_2 x_31).bind fun r233 =>
       some (.inl ((x_30 + 1),r233))
      else
       (show Option Compiler from
        (qeD N x41.Kind).bind fun r250 =>
        (qcu N x41.Name x_31).bind fun r253 =>
        (qa8 N (Ins.mk r250 r253.1 0 x41.Style) r253.2).bind fun r263 =>
        some r263.2).bind fun o242 =>
       some (.inl ((x_30 + 1),o242))
 else
  some (.inr x_31)
def qdO (r_compile_compiler_parts:List (Part) → List UInt8 → Compiler → Option Compiler) (r_compile_compiler_selection:Part → List UInt8 → Compiler → Option Compiler) (N:Nat) (l_1:List (Part)) (count_2:List UInt8) (x0:Compiler):Option Compiler :=
 (iter (fun s=>qea r_compile_compiler_parts r_compile_compiler_selection N l_1 count_2 s.1 s.2) N (0,x0)).bind fun o21 =>
 some o21
def qdn (r_compile_compiler_parts:List (Part) → List UInt8 → Compiler → Option Compiler) (r_compile_compiler_selection:Part → List UInt8 → Compiler → Option Compiler) (N:Nat) (x_1:Part) (x_94:Int) (x_95:Compiler):Option ((Int × Compiler) ⊕ Compiler) :=
 bif (decide (x_94 < (x_1.Cases.length:Int))) then
  (idx x_1.Cases x_94).bind fun x105 =>
  (qa8 N (Ins.mk 11 0 0 x105.Key) x_95).bind fun r118 =>
  some (.inl ((x_94 + 1),r118.2))
 else
  some (.inr x_95)
def qdm (r_compile_compiler_parts:List (Part) → List UInt8 → Compiler → Option Compiler) (r_compile_compiler_selection:Part → List UInt8 → Compiler → Option Compiler) (N:Nat) (x_1:Part) (o22:((List UInt8))) (o26:Compiler) (jumps_160:List (Int)) (x_161:Int) (x_162:Compiler):Option (((List (Int)) × Int × Compiler) ⊕ ((Compiler × (List (Int))))) :=
 bif (decide (x_161 < (x_1.Cases.length:Int))) then
  (idx x_1.Cases x_161).bind fun x175 =>
  (show Option Compiler from
   (idx x_162.Code.Ins (IntKind.wrap .i64 ((o26.Code.Ins.length:Int) + x_161))).bind fun x195 =>
   (setI x_162.Code.Ins (IntKind.wrap .i64 ((o26.Code.Ins.length:Int) + x_161)) (Ins.mk x195.Op (x_162.Code.Ins.length:Int) x195.B x195.S)).bind fun l205 =>
   some (Compiler.mk (Code.mk x_162.Code.Names l205))).bind fun o188 =>
  (r_compile_compiler_parts x175.Parts o22 o188).bind fun r235 =>
  (qa8 N (Ins.mk 12 0 0 ([])) r235).bind fun r244 =>
  (app jumps_160 ([r244.1]:List (Int))).bind fun l257 =>
  some (.inl (l257,(x_161 + 1),r244.2))
 else
  some (.inr (x_162,jumps_160))
def qdp (r_compile_compiler_parts:List (Part) → List UInt8 → Compiler → Option Compiler) (r_compile_compiler_selection:Part → List UInt8 → Compiler → Option Compiler) (_N:Nat) (o148:(Compiler × (List (Int)))) (x_288:Int) (x_289:Compiler):Option ((Int × Compiler) ⊕ Compiler) :=
 bif (decide (x_288 < (o148.2.length:Int))) then
  (idx o148.2 x_288).bind fun x298 =>
  (show Option Compiler from
   (idx x_289.Code.Ins x298).bind fun x316 =>
   (setI x_289.Code.Ins x298 (Ins.mk x316.Op (x_289.Code.Ins.length:Int) x316.B x316.S)).bind fun l326 =>
   some (Compiler.mk (Code.mk x_289.Code.Names l326))).bind fun o309 =>
  some (.inl ((x_288 + 1),o309))
 else
  some (.inr x_289)
def qc7 (r_compile_compiler_parts:List (Part) → List UInt8 → Compiler → Option Compiler) (r_compile_compiler_selection:Part → List UInt8 → Compiler → Option Compiler) (N:Nat) (x_1:Part) (count_2:List UInt8) (x0:Compiler):Option Compiler :=
 (show Option ((List UInt8)) from
  bif (x_1.Kind != 9) then
   some x_1.Name
  else
   some count_2).bind fun o22 =>
 (show Option Compiler from
  (qcu N x_1.Name x0).bind fun r34 =>
  (qa8 N (Ins.mk 10 r34.1 x_1.Kind ([])) r34.2).bind fun r44 =>
  some r44.2).bind fun o26 =>
 (iter (fun s=>qdn r_compile_compiler_parts r_compile_compiler_selection N x_1 s.1 s.2) N (0,o26)).bind fun o85 =>
 (iter (fun s=>qdm r_compile_compiler_parts r_compile_compiler_selection N x_1 o22 o26 s.1 s.2.1 s.2.2) N ([],0,o85)).bind fun o148 =>
 (iter (fun s=>qdp r_compile_compiler_parts r_compile_compiler_selection N o148 s.1 s.2) N (0,o148.1)).bind fun o280 =>
 some o280
def qb1:Nat → (List (Part) → List UInt8 → Compiler → Option Compiler) × (Part → List UInt8 → Compiler → Option Compiler)
 | 0=>(fun _ _ _=>none,fun _ _ _=>none)
 | N + 1=>(qdO (qb1 N).1 (qb1 N).2 N,qc7 (qb1 N).1 (qb1 N).2 N)
def qbH (N:Nat):List (Part) → List UInt8 → Compiler → Option Compiler:=(qb1 N).1
def qbN (N:Nat):Part → List UInt8 → Compiler → Option Compiler:=(qb1 N).2
def qgq (N:Nat) (parts_0:List (Part)):Option (Code × Int) :=
 (qhI N parts_0).bind fun r2 =>
 bif (!r2) then
  some ((Code.mk ([]) ([])),1)
 else
  (qbH N parts_0 ([]) (Compiler.mk (Code.mk ([]) ([])))).bind fun r10 =>
  (qa8 N (Ins.mk 13 0 0 ([])) r10).bind fun r19 =>
  some (r19.2.Code,0)
def qbP (_N:Nat) (s1_0:List (List UInt8)) (s2_1:List (List UInt8)) (x_5:Int):Option (Int ⊕ ((Unit ⊕ Bool))) :=
 bif (decide (x_5 < (s1_0.length:Int))) then
  (idx s1_0 x_5).bind fun x8 =>
  (idx s2_1 x_5).bind fun x18 =>
  bif (x8 != x18) then
   some (.inr (.inr false))
  else
   some (.inl (x_5 + 1))
 else
  some (.inr (.inl ()))
def qcT (N:Nat) (s1_0:List (List UInt8)) (s2_1:List (List UInt8)):Option Bool :=
 bif ((s1_0.length:Int) != (s2_1.length:Int)) then
  some false
 else
  (iter (fun s=>qbP N s1_0 s2_1 s) N 0).bind fun o3 =>
  Sum.elim (fun _o3 =>
   some true)
  (fun o3 =>
   some o3) o3
def qbi (_N:Nat) (s1_0:List (Ins)) (s2_1:List (Ins)) (x_5:Int):Option (Int ⊕ ((Unit ⊕ Bool))) :=
 bif (decide (x_5 < (s1_0.length:Int))) then
  (idx s1_0 x_5).bind fun x8 =>
  (idx s2_1 x_5).bind fun x21 =>
  bif (!((x8.Op == x21.Op) && ((x8.A == x21.A) && ((x8.B == x21.B) && (x8.S == x21.S))))) then
   some (.inr (.inr false))
  else
   some (.inl (x_5 + 1))
 else
  some (.inr (.inl ()))
def qb2 (N:Nat) (s1_0:List (Ins)) (s2_1:List (Ins)):Option Bool :=
 bif ((s1_0.length:Int) != (s2_1.length:Int)) then
  some false
 else
  (iter (fun s=>qbi N s1_0 s2_1 s) N 0).bind fun o3 =>
  Sum.elim (fun _o3 =>
   some true)
  (fun o3 =>
   some o3) o3
def qdY (N:Nat) (a_0:Code) (b_1:Code):Option Bool :=
 (qcT N a_0.Names b_1.Names).bind fun r11 =>
 bif r11 then
  (qb2 N a_0.Ins b_1.Ins).bind fun r14 =>
  some r14
 else
  some false
def qcM (_N:Nat) (oldnew_0:List (List UInt8)):Option Replacer :=
 (rm (oldnew_0.length:Int) 2).bind fun q7 =>
 (show Option Unit from
  bif (q7 == 1) then
   none
  else
   some ()).bind fun _o9 =>
 (app ([]:List (List UInt8)) oldnew_0).bind fun l13 =>
 some (Replacer.mk (Once.mk (NoCopy.mk ) (BoolT.mk (NoCopy.mk ) 0) (Mutex2.mk (NoCopy.mk ) (Mutex.mk 0 0))) () l13)
def qa0 (_N:Nat) (s_1:List UInt8) (x0:Builder):Option (Int × Unit × Builder) :=
 (app x0.buf (ints s_1)).bind fun l11 =>
 some ((s_1.length:Int),(),(Builder.mk () l11))
end Go.Proofs.YtllnjbnknjpbjaaGreatDoor
namespace Go.Proofs.YtllnjbnknjpbjaaGreatDoor
open Go.X
def rpk (k c:Nat):Option (List UInt8):=if c = 10 ∧ 0 < k then some [92,110] else if c = 92 ∧ 1 < k then some [92,92] else if c = 34 ∧ 2 < k then some [92,34] else none
abbrev Bs:=List UInt8
def rp (c:UInt8):Option Bs:=rpk 3 c.toNat
def quo (s:Bs):Bs:=s.flatMap fun c=>(rp c).getD [c]
def qbT (_N:Nat) (s:List UInt8):Option (List UInt8):=if s.length ≤ 1000000000 then some (quo s) else none
end Go.Proofs.YtllnjbnknjpbjaaGreatDoor
namespace Go.Proofs.YtllnjbnknjpbjaaGreatDoor
open Go.X
def qch (N:Nat) (x48:Ins) (x_126:Int) (x_127:Builder):Option ((Int × Builder) ⊕ Builder) :=
 bif (decide (x_126 < (([x48.A,x48.B]:List (Int)).length:Int))) then
  (idx ([x48.A,x48.B]:List (Int)) x_126).bind fun x135 =>
  bif (x135 != 0) then
   (qcA N x135).bind fun r147 =>
   (cat ([32]) r147).bind fun s150 =>
   (qa0 N s150 (Builder.mk () x_127.buf)).bind fun r152 =>
   some (.inl ((x_126 + 1),(Builder.mk () r152.2.2.buf)))
  else
   some (.inl ((x_126 + 1),(Builder.mk () x_127.buf)))
 else
  some (.inr (Builder.mk () x_127.buf))
def qfn (N:Nat) (x48:Ins) (x_228:Int) (x_229:Builder):Option ((Int × Builder) ⊕ Builder) :=
 bif (decide (x_228 < (([x48.A,x48.B]:List (Int)).length:Int))) then
  (idx ([x48.A,x48.B]:List (Int)) x_228).bind fun x237 =>
  bif (x237 != 0) then
   (qcA N x237).bind fun r249 =>
   (cat ([32]) r249).bind fun s252 =>
   (qa0 N s252 (Builder.mk () x_229.buf)).bind fun r254 =>
   some (.inl ((x_228 + 1),(Builder.mk () r254.2.2.buf)))
  else
   some (.inl ((x_228 + 1),(Builder.mk () x_229.buf)))
 else
  some (.inr (Builder.mk () x_229.buf))
def qde (N:Nat) (c_0:Code) (x_39:Int) (x_40:Builder):Option ((Int × Builder) ⊕ Builder) :=
 bif (decide (x_39 < (c_0.Ins.length:Int))) then
  (idx c_0.Ins x_39).bind fun x48 =>
  bif (decide (x48.Op ≥ 1)) then
   (show Option Int from
    bif (decide (x48.Op ≤ 13)) then
     some x48.Op
    else
     some 0).bind fun o63 =>
   (show Option Builder from
    (qcA N x_39).bind fun r73 =>
    (cat r73 ([58,32])).bind fun s76 =>
    (Arr14_List_UInt8.get (Arr14_List_UInt8.mk ([63]) ([101,109,105,116]) ([111,112,101,110]) ([99,108,111,115,101]) ([118,111,105,100]) ([97,114,103]) ([110,117,109,98,101,114]) ([117,110,105,116]) ([100,97,116,101]) ([108,105,115,116]) ([115,119,105,116,99,104]) ([99,97,115,101]) ([106,117,109,112]) ([115,116,111,112])) o63).bind fun x78 =>
    (cat s76 x78).bind fun s80 =>
    (qa0 N s80 (Builder.mk () x_40.buf)).bind fun r82 =>
    some (Builder.mk () r82.2.2.buf)).bind fun o67 =>
   (iter (fun s=>qch N x48 s.1 s.2) N (0,(Builder.mk () o67.buf))).bind fun o119 =>
   bif (x48.S != ([])) then
    (show Option Builder from
     (qbT N x48.S).bind fun rR =>
     (cat ([32,34]) rR).bind fun sA =>
     (cat sA ([34])).bind fun sB =>
     (qa0 N sB (Builder.mk () o119.buf)).bind fun rW =>
     some (Builder.mk () rW.2.2.buf)).bind fun oW =>
    (qa1 N 10 (Builder.mk () oW.buf)).bind fun r166 =>
    some (.inl ((x_39 + 1),(Builder.mk () r166.2.buf)))
   else
    (qa1 N 10 (Builder.mk () o119.buf)).bind fun r166 =>
    some (.inl ((x_39 + 1),(Builder.mk () r166.2.buf)))
  else
   (show Option Builder from
    (qcA N x_39).bind fun r184 =>
    (cat r184 ([58,32])).bind fun s187 =>
    (cat s187 ([63])).bind fun s189 =>
    (qa0 N s189 (Builder.mk () x_40.buf)).bind fun r191 =>
    some (Builder.mk () r191.2.2.buf)).bind fun o178 =>
   (iter (fun s=>qfn N x48 s.1 s.2) N (0,(Builder.mk () o178.buf))).bind fun o221 =>
   bif (x48.S != ([])) then
    (show Option Builder from
     (qbT N x48.S).bind fun rR =>
     (cat ([32,34]) rR).bind fun sA =>
     (cat sA ([34])).bind fun sB =>
     (qa0 N sB (Builder.mk () o221.buf)).bind fun rW =>
     some (Builder.mk () rW.2.2.buf)).bind fun oW =>
    (qa1 N 10 (Builder.mk () oW.buf)).bind fun r268 =>
    some (.inl ((x_39 + 1),(Builder.mk () r268.2.buf)))
   else
    (qa1 N 10 (Builder.mk () o221.buf)).bind fun r268 =>
    some (.inl ((x_39 + 1),(Builder.mk () r268.2.buf)))
 else
  some (.inr (Builder.mk () x_40.buf))
def qeG (N:Nat) (c_0:Code):Option (List UInt8) :=
 (qcM N ([[34],[92,34],[92],[92,92],[10],[92,110]]:List (List UInt8))).bind fun _r12 =>
 (iter (fun s=>qde N c_0 s.1 s.2) N (0,(Builder.mk () ([])))).bind fun o32 =>
 some (bytesOf o32.buf)
end Go.Proofs.YtllnjbnknjpbjaaGreatDoor
namespace Go.Proofs.YtllnjbnknjpbjaaGreatDoor
open Go.X
structure Number2 where
 Neg:Bool
 Whole:List UInt8
 Frac:List UInt8
def qfO (_N:Nat) (l_0:List (List UInt8)) (s_1:List UInt8) (i_4:Int):Option (Int ⊕ ((Unit ⊕ Bool))) :=
 bif (decide (i_4 < (l_0.length:Int))) then
  (idx l_0 i_4).bind fun x7 =>
  bif (x7 == s_1) then
   some (.inr (.inr true))
  else
   some (.inl (i_4 + 1))
 else
  some (.inr (.inl ()))
def qec (N:Nat) (l_0:List (List UInt8)) (s_1:List UInt8):Option Bool :=
 (iter (fun s=>qfO N l_0 s_1 s) N 0).bind fun o2 =>
 Sum.elim (fun _o2 =>
  some false)
 (fun o2 =>
  some o2) o2
def qc1 (_N:Nat) (kind_0:Int):Option Bool :=
 bif (kind_0 == 7) then
  some true
 else
  bif (kind_0 == 8) then
   some true
  else
   some (kind_0 == 9)
def qcL (_N:Nat) (kind_0:Int):Option Bool :=
 bif (kind_0 == 7) then
  some true
 else
  some (kind_0 == 8)
def qeE (_N:Nat) (c_0:Int):Option Bool :=
 bif (decide (c_0 ≥ 97)) then
  some (decide (c_0 ≤ 122))
 else
  some false
def qft (N:Nat) (c_0:Int):Option Bool :=
 (qeE N c_0).bind fun r1 =>
 bif r1 then
  some true
 else
  bif (decide (c_0 ≥ 65)) then
   some (decide (c_0 ≤ 90))
  else
   some false
def qdh (N:Nat) (c_0:Int):Option Bool :=
 (qft N c_0).bind fun r1 =>
 bif r1 then
  some true
 else
  bif (decide (c_0 ≥ 48)) then
   bif (decide (c_0 ≤ 57)) then
    some true
   else
    bif (c_0 == 95) then
     some true
    else
     some (c_0 == 45)
  else
   bif (c_0 == 95) then
    some true
   else
    some (c_0 == 45)
def qe9 (N:Nat) (s_0:List UInt8) (i_4:Int):Option (Int ⊕ ((Unit ⊕ Bool))) :=
 bif (decide (i_4 < (s_0.length:Int))) then
  (idx s_0 i_4).bind fun c7 =>
  (qdh N (c7.toNat:Int)).bind fun r9 =>
  bif (!r9) then
   some (.inr (.inr false))
  else
   some (.inl (i_4 + 1))
 else
  some (.inr (.inl ()))
def qbd (N:Nat) (s_0:List UInt8):Option Bool :=
 (iter (fun s=>qe9 N s_0 s) N 0).bind fun o2 =>
 Sum.elim (fun _o2 =>
  bif (decide ((s_0.length:Int) ≥ 1)) then
   bif (decide ((s_0.length:Int) ≤ 40)) then
    (idx s_0 0).bind fun c14 =>
    (qeE N (c14.toNat:Int)).bind fun r16 =>
    some r16
   else
    some false
  else
   some false)
 (fun o2 =>
  some o2) o2
def qfM (_N:Nat) (s_0:List UInt8):Option Bool :=
 bif (s_0 == ([122,101,114,111])) then
  some true
 else
  bif (s_0 == ([111,110,101])) then
   some true
  else
   bif (s_0 == ([116,119,111])) then
    some true
   else
    bif (s_0 == ([102,101,119])) then
     some true
    else
     bif (s_0 == ([109,97,110,121])) then
      some true
     else
      some (s_0 == ([111,116,104,101,114]))
def qeP (_N:Nat) (s_0:List UInt8) (i_4:Int):Option (Int ⊕ ((Unit ⊕ Bool))) :=
 bif (decide (i_4 < (s_0.length:Int))) then
  (idx s_0 i_4).bind fun c7 =>
  bif (decide ((c7.toNat:Int) < 48)) then
   some (.inr (.inr false))
  else
   (idx s_0 i_4).bind fun c10 =>
   bif (decide ((c10.toNat:Int) > 57)) then
    some (.inr (.inr false))
   else
    some (.inl (i_4 + 1))
 else
  some (.inr (.inl ()))
def qey (N:Nat) (s_0:List UInt8):Option Bool :=
 (iter (fun s=>qeP N s_0 s) N 0).bind fun o2 =>
 Sum.elim (fun _o2 =>
  some true)
 (fun o2 =>
  some o2) o2
def qfl (_N:Nat) (s_0:List UInt8) (i_4:Int):Option (Int ⊕ ((Unit ⊕ Bool))) :=
 bif (decide (i_4 < (s_0.length:Int))) then
  (idx s_0 i_4).bind fun c7 =>
  bif ((c7.toNat:Int) != 48) then
   some (.inr (.inr false))
  else
   some (.inl (i_4 + 1))
 else
  some (.inr (.inl ()))
def qdB (N:Nat) (s_0:List UInt8):Option Bool :=
 (iter (fun s=>qfl N s_0 s) N 0).bind fun o2 =>
 Sum.elim (fun _o2 =>
  some true)
 (fun o2 =>
  some o2) o2
end Go.Proofs.YtllnjbnknjpbjaaGreatDoor
namespace Go.Proofs.YtllnjbnknjpbjaaGreatDoor
open Go.X
def qeZ (_N:Nat) (o6:((List UInt8) × Number2)) (k_26:Int):Option (Int ⊕ Int) :=
 bif (decide (k_26 < (o6.1.length:Int))) then
  (idx o6.1 k_26).bind fun c29 =>
  bif ((c29.toNat:Int) != 46) then
   some (.inl (k_26 + 1))
  else
   some (.inr k_26)
 else
  some (.inr k_26)
def qeW (_N:Nat) (s_0:List UInt8) (k_75:Int):Option (Int ⊕ Int) :=
 bif (decide (k_75 < (s_0.length:Int))) then
  (idx s_0 k_75).bind fun c78 =>
  bif ((c78.toNat:Int) != 46) then
   some (.inl (k_75 + 1))
  else
   some (.inr k_75)
 else
  some (.inr k_75)
def qfK (N:Nat) (s_0:List UInt8):Option (Number2 × Bool) :=
 bif (decide ((s_0.length:Int) > 0)) then
  (idx s_0 0).bind fun c4 =>
  (show Option ((List UInt8) × Number2) from
   bif ((c4.toNat:Int) == 45) then
    (show Option ((List UInt8) × Number2) from
     (slc s_0 1 (s_0.length:Int)).bind fun s15 =>
     some (s15,(Number2.mk true ([]) ([])))).bind fun o11 =>
    some (o11.1,o11.2)
   else
    some (s_0,(Number2.mk false ([]) ([])))).bind fun o6 =>
  (iter (fun s=>qeZ N o6 s) N 0).bind fun o24 =>
  (slc o6.1 0 o24).bind fun s33 =>
  (show Option (Number2 ⊕ (Number2 × Bool)) from
   bif (decide (o24 < (o6.1.length:Int))) then
    (slc o6.1 (o24 + 1) (o6.1.length:Int)).bind fun s41 =>
    bif ((s41.length:Int) == 0) then
     some (.inr ((Number2.mk false ([]) ([])),false))
    else
     some (.inl (Number2.mk o6.2.Neg s33 s41))
   else
    some (.inl (Number2.mk o6.2.Neg s33 o6.2.Frac))).bind fun o35 =>
  Sum.elim (fun o35 =>
   (cat o35.Whole o35.Frac).bind fun s46 =>
   (qey N s46).bind fun r48 =>
   bif (!r48) then
    some ((Number2.mk false ([]) ([])),false)
   else
    bif (decide ((o35.Whole.length:Int) < 1)) then
     some ((Number2.mk false ([]) ([])),false)
    else
     bif (decide ((o35.Whole.length:Int) > 15)) then
      some ((Number2.mk false ([]) ([])),false)
     else
      bif (decide ((o35.Whole.length:Int) > 1)) then
       (idx o35.Whole 0).bind fun c54 =>
       bif ((c54.toNat:Int) == 48) then
        some ((Number2.mk false ([]) ([])),false)
       else
        bif (decide ((o35.Frac.length:Int) > 6)) then
         some ((Number2.mk false ([]) ([])),false)
        else
         bif o35.Neg then
          (cat o35.Whole o35.Frac).bind fun s59 =>
          (qdB N s59).bind fun r61 =>
          bif r61 then
           some ((Number2.mk false ([]) ([])),false)
          else
           some (o35,true)
         else
          some (o35,true)
      else
       bif (decide ((o35.Frac.length:Int) > 6)) then
        some ((Number2.mk false ([]) ([])),false)
       else
        bif o35.Neg then
         (cat o35.Whole o35.Frac).bind fun s66 =>
         (qdB N s66).bind fun r68 =>
         bif r68 then
          some ((Number2.mk false ([]) ([])),false)
         else
          some (o35,true)
        else
         some (o35,true))
  (fun o35 =>
   some o35) o35
 else
  (iter (fun s=>qeW N s_0 s) N 0).bind fun o73 =>
  (slc s_0 0 o73).bind fun s82 =>
  (show Option (Number2 ⊕ (Number2 × Bool)) from
   bif (decide (o73 < (s_0.length:Int))) then
    (slc s_0 (o73 + 1) (s_0.length:Int)).bind fun s90 =>
    bif ((s90.length:Int) == 0) then
     some (.inr ((Number2.mk false ([]) ([])),false))
    else
     some (.inl (Number2.mk false s82 s90))
   else
    some (.inl (Number2.mk false s82 ([])))).bind fun o84 =>
  Sum.elim (fun o84 =>
   (cat o84.Whole o84.Frac).bind fun s95 =>
   (qey N s95).bind fun r97 =>
   bif (!r97) then
    some ((Number2.mk false ([]) ([])),false)
   else
    bif (decide ((o84.Whole.length:Int) < 1)) then
     some ((Number2.mk false ([]) ([])),false)
    else
     bif (decide ((o84.Whole.length:Int) > 15)) then
      some ((Number2.mk false ([]) ([])),false)
     else
      bif (decide ((o84.Whole.length:Int) > 1)) then
       (idx o84.Whole 0).bind fun c103 =>
       bif ((c103.toNat:Int) == 48) then
        some ((Number2.mk false ([]) ([])),false)
       else
        bif (decide ((o84.Frac.length:Int) > 6)) then
         some ((Number2.mk false ([]) ([])),false)
        else
         bif o84.Neg then
          (cat o84.Whole o84.Frac).bind fun s108 =>
          (qdB N s108).bind fun r110 =>
          bif r110 then
           some ((Number2.mk false ([]) ([])),false)
          else
           some (o84,true)
         else
          some (o84,true)
      else
       bif (decide ((o84.Frac.length:Int) > 6)) then
        some ((Number2.mk false ([]) ([])),false)
       else
        bif o84.Neg then
         (cat o84.Whole o84.Frac).bind fun s115 =>
         (qdB N s115).bind fun r117 =>
         bif r117 then
          some ((Number2.mk false ([]) ([])),false)
         else
          some (o84,true)
        else
         some (o84,true))
  (fun o84 =>
   some o84) o84
def qfL (N:Nat) (s_0:List UInt8):Option Bool :=
 (qfK N s_0).bind fun r1 =>
 some r1.2
def qcI (N:Nat) (kind_0:Int) (s_1:List UInt8):Option Bool :=
 bif (kind_0 == 9) then
  (qbd N s_1).bind fun r2 =>
  some r2
 else
  (qfM N s_1).bind fun r4 =>
  bif r4 then
   some true
  else
   bif (decide ((s_1.length:Int) > 1)) then
    (idx s_1 0).bind fun c8 =>
    bif ((c8.toNat:Int) == 61) then
     (slc s_1 1 (s_1.length:Int)).bind fun s11 =>
     (qfL N s11).bind fun r13 =>
     some r13
    else
     some false
   else
    some false
def qen (_N:Nat) (s_0:List UInt8) (i_4:Int):Option (Int ⊕ ((Unit ⊕ Bool))) :=
 bif (decide (i_4 < (s_0.length:Int))) then
  (idx s_0 i_4).bind fun c7 =>
  (show Option Bool from
   bif (decide ((c7.toNat:Int) ≥ 97)) then
    bif (decide ((c7.toNat:Int) ≤ 122)) then
     some (!true)
    else
     bif (decide ((c7.toNat:Int) ≥ 65)) then
      some (!(decide ((c7.toNat:Int) ≤ 90)))
     else
      some (!false)
   else
    bif (decide ((c7.toNat:Int) ≥ 65)) then
     some (!(decide ((c7.toNat:Int) ≤ 90)))
    else
     some (!false)).bind fun o9 =>
  bif o9 then
   some (.inr (.inr false))
  else
   some (.inl (i_4 + 1))
 else
  some (.inr (.inl ()))
def qcE (N:Nat) (s_0:List UInt8):Option Bool :=
 (iter (fun s=>qen N s_0 s) N 0).bind fun o2 =>
 Sum.elim (fun _o2 =>
  bif (decide ((s_0.length:Int) ≥ 1)) then
   some (decide ((s_0.length:Int) ≤ 40))
  else
   some false)
 (fun o2 =>
  some o2) o2
end Go.Proofs.YtllnjbnknjpbjaaGreatDoor
namespace Go.Proofs.YtllnjbnknjpbjaaGreatDoor
open Go.X
def qbF (_N:Nat) (c_0:Int):Option Bool :=
 bif (c_0 == 123) then
  some true
 else
  bif (c_0 == 125) then
   some true
  else
   bif (c_0 == 60) then
    some true
   else
    bif (c_0 == 62) then
     some true
    else
     bif (c_0 == 35) then
      some true
     else
      some (c_0 == 92)
def qeJ (N:Nat) (s_0:List UInt8) (out_13:List (Int)) (i_14:Int):Option (((List (Int)) × Int) ⊕ (((List (Int))))) :=
 bif (decide (i_14 < (s_0.length:Int))) then
  (idx s_0 i_14).bind fun c20 =>
  (qbF N (c20.toNat:Int)).bind fun r22 =>
  (show Option ((List (Int))) from
   bif r22 then
    (app out_13 ([92]:List (Int))).bind fun l32 =>
    some l32
   else
    some out_13).bind fun o24 =>
  (idx s_0 i_14).bind fun c40 =>
  (app o24 ([(c40.toNat:Int)]:List (Int))).bind fun l45 =>
  some (.inl (l45,(i_14 + 1)))
 else
  some (.inr out_13)
def qfq (N:Nat) (s_0:List UInt8):Option (List UInt8) :=
 (iter (fun s=>qeJ N s_0 s.1 s.2) N ([],0)).bind fun o8 =>
 some (bytesOf o8)
end Go.Proofs.YtllnjbnknjpbjaaGreatDoor
namespace Go.Proofs.YtllnjbnknjpbjaaGreatDoor
open Go.X
def qfk (r_calqueref26_Text:List (Part) → List UInt8 → Option (List UInt8)) (N:Nat) (gap_1:List UInt8) (x14:Part) (s_120:List UInt8) (k_121:Int):Option (((List UInt8) × Int) ⊕ (((List UInt8)))) :=
 bif (decide (k_121 < (x14.Cases.length:Int))) then
  (idx x14.Cases k_121).bind fun x125 =>
  (cat gap_1 x125.Key).bind fun s137 =>
  (cat s137 gap_1).bind fun s139 =>
  (cat s139 ([123])).bind fun s141 =>
  (idx x14.Cases k_121).bind fun x143 =>
  (r_calqueref26_Text x143.Parts gap_1).bind fun r155 =>
  (cat s141 r155).bind fun s158 =>
  (cat s158 ([125])).bind fun s160 =>
  (cat s_120 s160).bind fun s162 =>
  some (.inl (s162,(k_121 + 1)))
 else
  some (.inr s_120)
def qfb (r_calqueref26_Text:List (Part) → List UInt8 → Option (List UInt8)) (N:Nat) (gap_1:List UInt8) (x14:Part) (s_239:List UInt8) (k_240:Int):Option (((List UInt8) × Int) ⊕ (((List UInt8)))) :=
 bif (decide (k_240 < (x14.Cases.length:Int))) then
  (idx x14.Cases k_240).bind fun x244 =>
  (cat gap_1 x244.Key).bind fun s256 =>
  (cat s256 gap_1).bind fun s258 =>
  (cat s258 ([123])).bind fun s260 =>
  (idx x14.Cases k_240).bind fun x262 =>
  (r_calqueref26_Text x262.Parts gap_1).bind fun r274 =>
  (cat s260 r274).bind fun s277 =>
  (cat s277 ([125])).bind fun s279 =>
  (cat s_239 s279).bind fun s281 =>
  some (.inl (s281,(k_240 + 1)))
 else
  some (.inr s_239)
def qfc (r_calqueref26_Text:List (Part) → List UInt8 → Option (List UInt8)) (N:Nat) (parts_0:List (Part)) (gap_1:List UInt8) (s_9:List UInt8) (i_10:Int):Option (((List UInt8) × Int) ⊕ (((List UInt8)))) :=
 bif (decide (i_10 < (parts_0.length:Int))) then
  (idx parts_0 i_10).bind fun x14 =>
  bif (x14.Kind == 1) then
   (qfq N x14.Text).bind fun r33 =>
   (cat s_9 r33).bind fun s36 =>
   some (.inl (s36,(i_10 + 1)))
  else
   bif (x14.Kind == 10) then
    (cat s_9 ([35])).bind fun s39 =>
    some (.inl (s39,(i_10 + 1)))
   else
    bif (x14.Kind == 11) then
     bif ((x14.Parts.length:Int) == 0) then
      (cat ([60]) x14.Name).bind fun s43 =>
      (cat s43 ([47,62])).bind fun s45 =>
      (cat s_9 s45).bind fun s47 =>
      some (.inl (s47,(i_10 + 1)))
     else
      bif (x14.Kind == 11) then
       (cat ([60]) x14.Name).bind fun s50 =>
       (cat s50 ([62])).bind fun s52 =>
       (r_calqueref26_Text x14.Parts gap_1).bind fun r54 =>
       (cat s52 r54).bind fun s57 =>
       (cat s57 ([60,47])).bind fun s59 =>
       (cat s59 x14.Name).bind fun s61 =>
       (cat s61 ([62])).bind fun s63 =>
       (cat s_9 s63).bind fun s65 =>
       some (.inl (s65,(i_10 + 1)))
      else
       bif (x14.Kind == 2) then
        (cat ([123]) x14.Name).bind fun s68 =>
        (cat s68 ([125])).bind fun s70 =>
        (cat s_9 s70).bind fun s72 =>
        some (.inl (s72,(i_10 + 1)))
       else
        bif (decide (x14.Kind ≥ 3)) then
         bif (decide (x14.Kind ≤ 9)) then
          (cat ([123]) x14.Name).bind fun s76 =>
          (cat s76 ([44])).bind fun s78 =>
          (cat s78 gap_1).bind fun s80 =>
          (idx ([[110,117,109,98,101,114],[117,110,105,116],[100,97,116,101],[108,105,115,116],[112,108,117,114,97,108],[111,114,100,105,110,97,108],[115,101,108,101,99,116]]:List (List UInt8)) (IntKind.wrap .i64 (x14.Kind - 3))).bind fun x82 =>
          (cat s80 x82).bind fun s93 =>
          (cat s_9 s93).bind fun s95 =>
          (show Option ((List UInt8)) from
           bif (x14.Style != ([])) then
            (cat ([44]) gap_1).bind fun s100 =>
            (cat s100 x14.Style).bind fun s102 =>
            (cat s95 s102).bind fun s104 =>
            some s104
           else
            some s95).bind fun o97 =>
          (qc1 N x14.Kind).bind fun r107 =>
          (show Option ((List UInt8)) from
           bif r107 then
            (cat o97 ([44])).bind fun s112 =>
            some s112
           else
            some o97).bind fun o109 =>
          (iter (fun s=>qfk r_calqueref26_Text N gap_1 x14 s.1 s.2) N (o109,0)).bind fun o117 =>
          (cat o117 ([125])).bind fun s165 =>
          some (.inl (s165,(i_10 + 1)))
         else
          some (.inl (s_9,(i_10 + 1)))
        else
         some (.inl (s_9,(i_10 + 1)))
    else
     bif (x14.Kind == 11) then
      (cat ([60]) x14.Name).bind fun s169 =>
      (cat s169 ([62])).bind fun s171 =>
      (r_calqueref26_Text x14.Parts gap_1).bind fun r173 =>
      (cat s171 r173).bind fun s176 =>
      (cat s176 ([60,47])).bind fun s178 =>
      (cat s178 x14.Name).bind fun s180 =>
      (cat s180 ([62])).bind fun s182 =>
      (cat s_9 s182).bind fun s184 =>
      some (.inl (s184,(i_10 + 1)))
     else
      bif (x14.Kind == 2) then
       (cat ([123]) x14.Name).bind fun s187 =>
       (cat s187 ([125])).bind fun s189 =>
       (cat s_9 s189).bind fun s191 =>
       some (.inl (s191,(i_10 + 1)))
      else
       bif (decide (x14.Kind ≥ 3)) then
        bif (decide (x14.Kind ≤ 9)) then
         (cat ([123]) x14.Name).bind fun s195 =>
         (cat s195 ([44])).bind fun s197 =>
         (cat s197 gap_1).bind fun s199 =>
         (idx ([[110,117,109,98,101,114],[117,110,105,116],[100,97,116,101],[108,105,115,116],[112,108,117,114,97,108],[111,114,100,105,110,97,108],[115,101,108,101,99,116]]:List (List UInt8)) (IntKind.wrap .i64 (x14.Kind - 3))).bind fun x201 =>
         (cat s199 x201).bind fun s212 =>
         (cat s_9 s212).bind fun s214 =>
         (show Option ((List UInt8)) from
          bif (x14.Style != ([])) then
           (cat ([44]) gap_1).bind fun s219 =>
           (cat s219 x14.Style).bind fun s221 =>
           (cat s214 s221).bind fun s223 =>
           some s223
          else
           some s214).bind fun o216 =>
         (qc1 N x14.Kind).bind fun r226 =>
         (show Option ((List UInt8)) from
          bif r226 then
           (cat o216 ([44])).bind fun s231 =>
           some s231
          else
           some o216).bind fun o228 =>
         (iter (fun s=>qfb r_calqueref26_Text N gap_1 x14 s.1 s.2) N (o228,0)).bind fun o236 =>
         (cat o236 ([125])).bind fun s284 =>
         some (.inl (s284,(i_10 + 1)))
        else
         some (.inl (s_9,(i_10 + 1)))
       else
        some (.inl (s_9,(i_10 + 1)))
 else
  some (.inr s_9)
def qeN (r_calqueref26_Text:List (Part) → List UInt8 → Option (List UInt8)) (N:Nat) (parts_0:List (Part)) (gap_1:List UInt8):Option (List UInt8) :=
 (iter (fun s=>qfc r_calqueref26_Text N parts_0 gap_1 s.1 s.2) N ([],0)).bind fun o6 =>
 some o6
def qgn:Nat → (List (Part) → List UInt8 → Option (List UInt8))
 | 0=>(fun _ _=>none)
 | N + 1=>(qeN (qgn N) N)
def qcz (N:Nat):List (Part) → List UInt8 → Option (List UInt8):=(qgn N)
end Go.Proofs.YtllnjbnknjpbjaaGreatDoor
namespace Go.Proofs.YtllnjbnknjpbjaaGreatDoor
open Go.X
structure Position where
 Offset:Int
 Line:Int
 Column:Int
structure Token where
 Kind:Int
 Text:List UInt8
 From:Int
 To:Int
structure State where
 left:List (Token)
 end_:Int
 names:List (List UInt8)
 at_:Int
 e:Int
def qfJ (_N:Nat) (c_0:Int):Option Bool :=
 bif (c_0 == 32) then
  some true
 else
  bif (c_0 == 9) then
   some true
  else
   some (c_0 == 10)
def qfR (N:Nat) (c_0:Int):Option Bool :=
 (qdh N c_0).bind fun r1 =>
 bif r1 then
  some true
 else
  bif (c_0 == 46) then
   some true
  else
   some (c_0 == 61)
def qeR (N:Nat) (s_0:List UInt8) (to_5:Int):Option (Int ⊕ Int) :=
 bif (decide (to_5 < (s_0.length:Int))) then
  (idx s_0 to_5).bind fun c8 =>
  (qfR N (c8.toNat:Int)).bind fun r10 =>
  bif r10 then
   some (.inl (to_5 + 1))
  else
   some (.inr to_5)
 else
  some (.inr to_5)
def qez (N:Nat) (s_0:List UInt8) (at_1:Int):Option Token :=
 (iter (fun s=>qeR N s_0 s) N at_1).bind fun o3 =>
 bif (decide (o3 > at_1)) then
  (slc s_0 at_1 o3).bind fun s15 =>
  some (Token.mk 9 s15 at_1 o3)
 else
  (idx s_0 at_1).bind fun c17 =>
  bif ((c17.toNat:Int) == 123) then
   some (Token.mk 2 ([123]) at_1 (IntKind.wrap .i64 (at_1 + 1)))
  else
   (idx s_0 at_1).bind fun c20 =>
   bif ((c20.toNat:Int) == 125) then
    some (Token.mk 3 ([125]) at_1 (IntKind.wrap .i64 (at_1 + 1)))
   else
    (idx s_0 at_1).bind fun c23 =>
    bif ((c23.toNat:Int) == 44) then
     some (Token.mk 8 ([44]) at_1 (IntKind.wrap .i64 (at_1 + 1)))
    else
     some (Token.mk 0 ([]) 0 0)
def qe8 (N:Nat) (s_0:List UInt8) (at_4:Int):Option (Int ⊕ ((Int ⊕ Int))) :=
 bif (decide (at_4 < (s_0.length:Int))) then
  (idx s_0 at_4).bind fun c7 =>
  bif ((c7.toNat:Int) == 92) then
   bif (decide ((at_4 + 1) < (s_0.length:Int))) then
    (idx s_0 (at_4 + 1)).bind fun c11 =>
    (qbF N (c11.toNat:Int)).bind fun r13 =>
    bif r13 then
     some (.inl (IntKind.wrap .i64 (at_4 + 2)))
    else
     (idx s_0 at_4).bind fun c16 =>
     (qbF N (c16.toNat:Int)).bind fun r18 =>
     bif (!r18) then
      some (.inl (at_4 + 1))
     else
      some (.inr (.inr at_4))
   else
    (idx s_0 at_4).bind fun c21 =>
    (qbF N (c21.toNat:Int)).bind fun r23 =>
    bif (!r23) then
     some (.inl (at_4 + 1))
    else
     some (.inr (.inr at_4))
  else
   (idx s_0 at_4).bind fun c26 =>
   (qbF N (c26.toNat:Int)).bind fun r28 =>
   bif (!r28) then
    some (.inl (at_4 + 1))
   else
    some (.inr (.inr at_4))
 else
  some (.inr (.inl at_4))
def qf1 (N:Nat) (s_0:List UInt8) (at_1:Int):Option Int :=
 (iter (fun s=>qe8 N s_0 s) N at_1).bind fun o2 =>
 Sum.elim (fun o2 =>
  some o2)
 (fun o2 =>
  some o2) o2
def qfe (N:Nat) (s_0:List UInt8) (to_14:Int):Option (Int ⊕ Int) :=
 bif (decide (to_14 < (s_0.length:Int))) then
  (idx s_0 to_14).bind fun c17 =>
  (qdh N (c17.toNat:Int)).bind fun r19 =>
  bif r19 then
   some (.inl (to_14 + 1))
  else
   some (.inr to_14)
 else
  some (.inr to_14)
def qfd (N:Nat) (s_0:List UInt8) (to_69:Int):Option (Int ⊕ Int) :=
 bif (decide (to_69 < (s_0.length:Int))) then
  (idx s_0 to_69).bind fun c72 =>
  (qdh N (c72.toNat:Int)).bind fun r74 =>
  bif r74 then
   some (.inl (to_69 + 1))
  else
   some (.inr to_69)
 else
  some (.inr to_69)
def qeU (N:Nat) (s_0:List UInt8) (at_1:Int):Option Token :=
 bif (decide ((IntKind.wrap .i64 (at_1 + 1)) < (s_0.length:Int))) then
  (idx s_0 (IntKind.wrap .i64 (at_1 + 1))).bind fun c3 =>
  (show Option (Int × Int) from
   bif ((c3.toNat:Int) == 47) then
    some (6,((IntKind.wrap .i64 (at_1 + 1)) + 1))
   else
    some (5,(IntKind.wrap .i64 (at_1 + 1)))).bind fun o5 =>
  (iter (fun s=>qfe N s_0 s) N o5.2).bind fun o12 =>
  (slc s_0 (min o5.2 (s_0.length:Int)) o12).bind fun s23 =>
  bif (o5.1 == 5) then
   bif (decide (o12 < (s_0.length:Int))) then
    (idx s_0 o12).bind fun c27 =>
    (show Option (Int × Int) from
     bif ((c27.toNat:Int) == 47) then
      some (7,(o12 + 1))
     else
      some (o5.1,o12)).bind fun o29 =>
    (idx s_0 at_1).bind fun c35 =>
    bif ((c35.toNat:Int) != 60) then
     some (Token.mk 0 ([]) 0 0)
    else
     (qbd N s23).bind fun r38 =>
     bif (!r38) then
      some (Token.mk 0 ([]) 0 0)
     else
      bif (decide (o29.2 ≥ (s_0.length:Int))) then
       some (Token.mk 0 ([]) 0 0)
      else
       (idx s_0 o29.2).bind fun c42 =>
       bif ((c42.toNat:Int) != 62) then
        some (Token.mk 0 ([]) 0 0)
       else
        some (Token.mk o29.1 s23 at_1 (IntKind.wrap .i64 (o29.2 + 1)))
   else
    (idx s_0 at_1).bind fun c45 =>
    bif ((c45.toNat:Int) != 60) then
     some (Token.mk 0 ([]) 0 0)
    else
     (qbd N s23).bind fun r48 =>
     bif (!r48) then
      some (Token.mk 0 ([]) 0 0)
     else
      bif (decide (o12 ≥ (s_0.length:Int))) then
       some (Token.mk 0 ([]) 0 0)
      else
       (idx s_0 o12).bind fun c52 =>
       bif ((c52.toNat:Int) != 62) then
        some (Token.mk 0 ([]) 0 0)
       else
        some (Token.mk o5.1 s23 at_1 (IntKind.wrap .i64 (o12 + 1)))
  else
   (idx s_0 at_1).bind fun c55 =>
   bif ((c55.toNat:Int) != 60) then
    some (Token.mk 0 ([]) 0 0)
   else
    (qbd N s23).bind fun r58 =>
    bif (!r58) then
     some (Token.mk 0 ([]) 0 0)
    else
     bif (decide (o12 ≥ (s_0.length:Int))) then
      some (Token.mk 0 ([]) 0 0)
     else
      (idx s_0 o12).bind fun c62 =>
      bif ((c62.toNat:Int) != 62) then
       some (Token.mk 0 ([]) 0 0)
      else
       some (Token.mk o5.1 s23 at_1 (IntKind.wrap .i64 (o12 + 1)))
 else
  (iter (fun s=>qfd N s_0 s) N (IntKind.wrap .i64 (at_1 + 1))).bind fun o67 =>
  (slc s_0 (min (IntKind.wrap .i64 (at_1 + 1)) (s_0.length:Int)) o67).bind fun s78 =>
  bif ((5:Int) == 5) then
   bif (decide (o67 < (s_0.length:Int))) then
    (idx s_0 o67).bind fun c82 =>
    (show Option (Int × Int) from
     bif ((c82.toNat:Int) == 47) then
      some (7,(o67 + 1))
     else
      some (5,o67)).bind fun o84 =>
    (idx s_0 at_1).bind fun c90 =>
    bif ((c90.toNat:Int) != 60) then
     some (Token.mk 0 ([]) 0 0)
    else
     (qbd N s78).bind fun r93 =>
     bif (!r93) then
      some (Token.mk 0 ([]) 0 0)
     else
      bif (decide (o84.2 ≥ (s_0.length:Int))) then
       some (Token.mk 0 ([]) 0 0)
      else
       (idx s_0 o84.2).bind fun c97 =>
       bif ((c97.toNat:Int) != 62) then
        some (Token.mk 0 ([]) 0 0)
       else
        some (Token.mk o84.1 s78 at_1 (IntKind.wrap .i64 (o84.2 + 1)))
   else
    (idx s_0 at_1).bind fun c100 =>
    bif ((c100.toNat:Int) != 60) then
     some (Token.mk 0 ([]) 0 0)
    else
     (qbd N s78).bind fun r103 =>
     bif (!r103) then
      some (Token.mk 0 ([]) 0 0)
     else
      bif (decide (o67 ≥ (s_0.length:Int))) then
       some (Token.mk 0 ([]) 0 0)
      else
       (idx s_0 o67).bind fun c107 =>
       bif ((c107.toNat:Int) != 62) then
        some (Token.mk 0 ([]) 0 0)
       else
        some (Token.mk 5 s78 at_1 (IntKind.wrap .i64 (o67 + 1)))
  else
   (idx s_0 at_1).bind fun c110 =>
   bif ((c110.toNat:Int) != 60) then
    some (Token.mk 0 ([]) 0 0)
   else
    (qbd N s78).bind fun r113 =>
    bif (!r113) then
     some (Token.mk 0 ([]) 0 0)
    else
     bif (decide (o67 ≥ (s_0.length:Int))) then
      some (Token.mk 0 ([]) 0 0)
     else
      (idx s_0 o67).bind fun c117 =>
      bif ((c117.toNat:Int) != 62) then
       some (Token.mk 0 ([]) 0 0)
      else
       some (Token.mk 5 s78 at_1 (IntKind.wrap .i64 (o67 + 1)))
def qdS (N:Nat) (s_0:List UInt8) (at_1:Int) (depth_2:Int):Option Token :=
 (qf1 N s_0 at_1).bind fun r2 =>
 bif (decide (r2 > at_1)) then
  (slc s_0 at_1 r2).bind fun s6 =>
  some (Token.mk 1 s6 at_1 r2)
 else
  (idx s_0 at_1).bind fun c8 =>
  bif ((c8.toNat:Int) == 123) then
   some (Token.mk 2 ([123]) at_1 (IntKind.wrap .i64 (at_1 + 1)))
  else
   (idx s_0 at_1).bind fun c11 =>
   bif ((c11.toNat:Int) == 125) then
    bif (decide (depth_2 > 0)) then
     some (Token.mk 3 ([125]) at_1 (IntKind.wrap .i64 (at_1 + 1)))
    else
     (idx s_0 at_1).bind fun c15 =>
     bif ((c15.toNat:Int) == 35) then
      some (Token.mk 4 ([35]) at_1 (IntKind.wrap .i64 (at_1 + 1)))
     else
      (qeU N s_0 at_1).bind fun r18 =>
      some r18
   else
    (idx s_0 at_1).bind fun c27 =>
    bif ((c27.toNat:Int) == 35) then
     some (Token.mk 4 ([35]) at_1 (IntKind.wrap .i64 (at_1 + 1)))
    else
     (qeU N s_0 at_1).bind fun r30 =>
     some r30
def qeO (N:Nat) (s_0:List UInt8) (out_18:List (Token)) (at_19:Int) (depth_20:Int):Option (((List (Token)) × Int × Int) ⊕ ((((List (Token)) × Int) ⊕ ((List (Token)) × Int × Int)))) :=
 bif (decide (at_19 < (s_0.length:Int))) then
  (rm depth_20 2).bind fun q28 =>
  bif (q28 == 1) then
   (idx s_0 at_19).bind fun c31 =>
   (qfJ N (c31.toNat:Int)).bind fun r33 =>
   bif r33 then
    some (.inl (out_18,(at_19 + 1),depth_20))
   else
    (show Option Token from
     bif (q28 == 1) then
      (qez N s_0 at_19).bind fun r44 =>
      some r44
     else
      (qdS N s_0 at_19 depth_20).bind fun r53 =>
      some r53).bind fun o37 =>
    bif (o37.Kind == 0) then
     some (.inr (.inr ([],at_19,3)))
    else
     (show Option Int from
      bif (o37.Kind == 2) then
       some (IntKind.wrap .i64 (depth_20 + 1))
      else
       bif (o37.Kind == 3) then
        some (IntKind.wrap .i64 (depth_20 - 1))
       else
        some depth_20).bind fun o68 =>
     (app out_18 ([o37]:List (Token))).bind fun l76 =>
     some (.inl (l76,o37.To,o68))
  else
   (show Option Token from
    bif (q28 == 1) then
     (qez N s_0 at_19).bind fun r89 =>
     some r89
    else
     (qdS N s_0 at_19 depth_20).bind fun r98 =>
     some r98).bind fun o82 =>
   bif (o82.Kind == 0) then
    some (.inr (.inr ([],at_19,3)))
   else
    (show Option Int from
     bif (o82.Kind == 2) then
      some (IntKind.wrap .i64 (depth_20 + 1))
     else
      bif (o82.Kind == 3) then
       some (IntKind.wrap .i64 (depth_20 - 1))
      else
       some depth_20).bind fun o113 =>
    (app out_18 ([o82]:List (Token))).bind fun l121 =>
    some (.inl (l121,o82.To,o113))
 else
  some (.inr (.inl (out_18,depth_20)))
def qfx (N:Nat) (s_0:List UInt8):Option ((List (Token)) × Int × Int) :=
 bif (decide ((s_0.length:Int) > 4000)) then
  some ([],4000,6)
 else
  (iter (fun s=>qeO N s_0 s.1 s.2.1 s.2.2) N ([],0,0)).bind fun o11 =>
  Sum.elim (fun o11 =>
   bif (decide (o11.2 > 0)) then
    some ([],(s_0.length:Int),3)
   else
    some (o11.1,0,0))
  (fun o11 =>
   some o11) o11
end Go.Proofs.YtllnjbnknjpbjaaGreatDoor
namespace Go.Proofs.YtllnjbnknjpbjaaGreatDoor
open Go.X
def qaF (_N:Nat) (x0:State):Option Token :=
 bif ((x0.left.length:Int) == 0) then
  (show Option Token from
   some (Token.mk 0 ([]) x0.end_ x0.end_)).bind fun o11 =>
  some o11
 else
  (idx x0.left 0).bind fun x20 =>
  some x20
def qaZ (N:Nat) (e_1:Int) (x0:State):Option State :=
 bif (x0.e == 0) then
  (qaF N x0).bind fun r18 =>
  some (State.mk x0.left x0.end_ x0.names r18.From e_1)
 else
  some x0
def qek (N:Nat) (s_0:List UInt8) (out_13:List (Int)) (i_14:Int):Option (((List (Int)) × Int) ⊕ ((((List (Int))) ⊕ ((List UInt8) × Int × Int)))) :=
 bif (decide (i_14 < (s_0.length:Int))) then
  (idx s_0 i_14).bind fun c20 =>
  bif ((c20.toNat:Int) == 92) then
   bif (decide ((i_14 + 1) < (s_0.length:Int))) then
    (idx s_0 (i_14 + 1)).bind fun c24 =>
    (qbF N (c24.toNat:Int)).bind fun r26 =>
    (show Option (Int ⊕ ((List UInt8) × Int × Int)) from
     bif r26 then
      some (.inl (i_14 + 1))
     else
      (idx s_0 i_14).bind fun c33 =>
      (qbF N (c33.toNat:Int)).bind fun r35 =>
      bif r35 then
       some (.inr ([],i_14,3))
      else
       some (.inl i_14)).bind fun o28 =>
    Sum.elim (fun o28 =>
     (idx s_0 o28).bind fun c39 =>
     (app out_13 ([(c39.toNat:Int)]:List (Int))).bind fun l44 =>
     some (.inl (l44,(IntKind.wrap .i64 (o28 + 1)))))
    (fun o28 =>
     some (.inr (.inr o28))) o28
   else
    (idx s_0 i_14).bind fun c49 =>
    (qbF N (c49.toNat:Int)).bind fun r51 =>
    bif r51 then
     some (.inr (.inr ([],i_14,3)))
    else
     (idx s_0 i_14).bind fun c54 =>
     (app out_13 ([(c54.toNat:Int)]:List (Int))).bind fun l59 =>
     some (.inl (l59,(i_14 + 1)))
  else
   (idx s_0 i_14).bind fun c64 =>
   (qbF N (c64.toNat:Int)).bind fun r66 =>
   bif r66 then
    some (.inr (.inr ([],i_14,3)))
   else
    (idx s_0 i_14).bind fun c69 =>
    (app out_13 ([(c69.toNat:Int)]:List (Int))).bind fun l74 =>
    some (.inl (l74,(i_14 + 1)))
 else
  some (.inr (.inl out_13))
def qeV (N:Nat) (s_0:List UInt8):Option ((List UInt8) × Int × Int) :=
 (iter (fun s=>qek N s_0 s.1 s.2) N ([],0)).bind fun o8 =>
 Sum.elim (fun o8 =>
  some ((bytesOf o8),0,0))
 (fun o8 =>
  some o8) o8
def qaw (N:Nat) (kind_1:Int) (x0:State):Option ((List UInt8) × State) :=
 (qaF N x0).bind fun r17 =>
 (show Option State from
  bif (r17.Kind != kind_1) then
   (qaZ N 3 x0).bind fun r38 =>
   some r38
  else
   some x0).bind fun o27 =>
 bif (o27.e != 0) then
  some ([],o27)
 else
  (slc o27.left 1 (o27.left.length:Int)).bind fun l59 =>
  some (r17.Text,(State.mk l59 o27.end_ o27.names o27.at_ o27.e))
def qb8 (N:Nat) (depth_1:Int) (x0:State):Option State :=
 bif (decide (depth_1 > 8)) then
  (qaZ N 6 x0).bind fun r18 =>
  some r18
 else
  some x0
def qay (N:Nat) (ok_1:Bool) (x0:State):Option ((List UInt8) × State) :=
 (qaF N x0).bind fun r17 =>
 bif (r17.Kind != 9) then
  (qaZ N 3 x0).bind fun r27 =>
  (qaw N 9 r27).bind fun r38 =>
  some (r38.1,r38.2)
 else
  bif (!ok_1) then
   (qaZ N 3 x0).bind fun r51 =>
   (qaw N 9 r51).bind fun r62 =>
   some (r62.1,r62.2)
  else
   (qaw N 9 x0).bind fun r74 =>
   some (r74.1,r74.2)
def qeA (N:Nat) (x0:State):Option ((List UInt8) × State) :=
 (qaF N x0).bind fun r17 =>
 (qaF N x0).bind fun r26 =>
 bif (r26.Kind == 9) then
  (qbd N r17.Text).bind fun r36 =>
  bif r36 then
   (qec N x0.names r17.Text).bind fun r44 =>
   (show Option State from
    bif (!r44) then
     (show Option State from
      bif (decide ((x0.names.length:Int) ≥ 20)) then
       (qaZ N 6 x0).bind fun r68 =>
       some r68
      else
       some x0).bind fun o57 =>
     (app o57.names ([r17.Text]:List (List UInt8))).bind fun l91 =>
     some (State.mk o57.left o57.end_ l91 o57.at_ o57.e)
    else
     some x0).bind fun o46 =>
   (qbd N r17.Text).bind fun r105 =>
   (qay N r105 o46).bind fun r107 =>
   some (r107.1,r107.2)
  else
   (qbd N r17.Text).bind fun r119 =>
   (qay N r119 x0).bind fun r121 =>
   some (r121.1,r121.2)
 else
  (qbd N r17.Text).bind fun r133 =>
  (qay N r133 x0).bind fun r135 =>
  some (r135.1,r135.2)
def qfa (_N:Nat) (word_0:List UInt8) (i_7:Int):Option (Int ⊕ ((Unit ⊕ Int))) :=
 bif (decide (i_7 < (([[110,117,109,98,101,114],[117,110,105,116],[100,97,116,101],[108,105,115,116],[112,108,117,114,97,108],[111,114,100,105,110,97,108],[115,101,108,101,99,116]]:List (List UInt8)).length:Int))) then
  (idx ([[110,117,109,98,101,114],[117,110,105,116],[100,97,116,101],[108,105,115,116],[112,108,117,114,97,108],[111,114,100,105,110,97,108],[115,101,108,101,99,116]]:List (List UInt8)) i_7).bind fun x10 =>
  bif (x10 == word_0) then
   some (.inr (.inr (IntKind.wrap .i64 ((3:Int) + i_7))))
  else
   some (.inl (i_7 + 1))
 else
  some (.inr (.inl ()))
def qfZ (N:Nat) (word_0:List UInt8):Option Int :=
 (iter (fun s=>qfa N word_0 s) N 0).bind fun o5 =>
 Sum.elim (fun _o5 =>
  some 0)
 (fun o5 =>
  some o5) o5
end Go.Proofs.YtllnjbnknjpbjaaGreatDoor
namespace Go.Proofs.YtllnjbnknjpbjaaGreatDoor
open Go.X
def qdC (r_calqueref26_state_message:Int → Bool → State → Option ((List (Part)) × State)) (r_calqueref26_state_argument:Int → Bool → State → Option (Part × State)) (r_calqueref26_state_use:Int → Bool → State → Part → Option (State × Part)) (r_calqueref26_state_cases:Int → Bool → State → Part → Option (State × Part)) (N:Nat) (depth_1:Int) (counted_2:Bool) (out_43:List (Part)) (x_44:State):Option (((List (Part)) × State) ⊕ ((State ⊕ ((List (Part)) × State)))) :=
 bif (x_44.e == 0) then
  (qaF N x_44).bind fun r58 =>
  bif (r58.Kind == 1) then
   (qaw N r58.Kind x_44).bind fun r69 =>
   (qeV N r69.1).bind fun r81 =>
   (app out_43 ([(Part.mk 1 r81.1 ([]) ([]) ([]) ([]))]:List (Part))).bind fun l89 =>
   some (.inl (l89,r69.2))
  else
   bif (r58.Kind == 4) then
    bif counted_2 then
     (qaw N r58.Kind x_44).bind fun r96 =>
     (app out_43 ([(Part.mk 10 ([]) ([]) ([]) ([]) ([]))]:List (Part))).bind fun l111 =>
     some (.inl (l111,r96.2))
    else
     bif (r58.Kind == 7) then
      (qb8 N depth_1 x_44).bind fun r117 =>
      (qaw N r58.Kind r117).bind fun r128 =>
      (app out_43 ([(Part.mk 11 ([]) r128.1 ([]) ([]) ([]))]:List (Part))).bind fun l143 =>
      some (.inl (l143,r128.2))
     else
      bif (r58.Kind == 5) then
       (qb8 N depth_1 x_44).bind fun r149 =>
       (qaw N r58.Kind r149).bind fun r160 =>
       (r_calqueref26_state_message (IntKind.wrap .i64 (depth_1 + 1)) counted_2 r160.2).bind fun r173 =>
       (show Option Bool from
        (qaF N r173.2).bind fun r188 =>
        bif (r188.Kind == 6) then
         (qaF N r173.2).bind fun r198 =>
         some (r198.Text != r160.1)
        else
         some false).bind fun o186 =>
       (show Option State from
        bif o186 then
         (qaZ N 3 r173.2).bind fun r240 =>
         some r240
        else
         some r173.2).bind fun o229 =>
       (qaw N 6 o229).bind fun r260 =>
       (app out_43 ([(Part.mk 11 ([]) r160.1 ([]) ([]) r173.1)]:List (Part))).bind fun l275 =>
       some (.inl (l275,r260.2))
      else
       bif (r58.Kind == 2) then
        (r_calqueref26_state_argument depth_1 counted_2 x_44).bind fun r281 =>
        (app out_43 ([r281.1]:List (Part))).bind fun l305 =>
        some (.inl (l305,r281.2))
       else
        some (.inr (.inr (out_43,x_44)))
   else
    bif (r58.Kind == 7) then
     (qb8 N depth_1 x_44).bind fun r313 =>
     (qaw N r58.Kind r313).bind fun r324 =>
     (app out_43 ([(Part.mk 11 ([]) r324.1 ([]) ([]) ([]))]:List (Part))).bind fun l339 =>
     some (.inl (l339,r324.2))
    else
     bif (r58.Kind == 5) then
      (qb8 N depth_1 x_44).bind fun r345 =>
      (qaw N r58.Kind r345).bind fun r356 =>
      (r_calqueref26_state_message (IntKind.wrap .i64 (depth_1 + 1)) counted_2 r356.2).bind fun r369 =>
      (show Option Bool from
       (qaF N r369.2).bind fun r384 =>
       bif (r384.Kind == 6) then
        (qaF N r369.2).bind fun r394 =>
        some (r394.Text != r356.1)
       else
        some false).bind fun o382 =>
      (show Option State from
       bif o382 then
        (qaZ N 3 r369.2).bind fun r436 =>
        some r436
       else
        some r369.2).bind fun o425 =>
      (qaw N 6 o425).bind fun r456 =>
      (app out_43 ([(Part.mk 11 ([]) r356.1 ([]) ([]) r369.1)]:List (Part))).bind fun l471 =>
      some (.inl (l471,r456.2))
     else
      bif (r58.Kind == 2) then
       (r_calqueref26_state_argument depth_1 counted_2 x_44).bind fun r477 =>
       (app out_43 ([r477.1]:List (Part))).bind fun l501 =>
       some (.inl (l501,r477.2))
      else
       some (.inr (.inr (out_43,x_44)))
 else
  some (.inr (.inl x_44))
def qdc (r_calqueref26_state_message:Int → Bool → State → Option ((List (Part)) × State)) (r_calqueref26_state_argument:Int → Bool → State → Option (Part × State)) (r_calqueref26_state_use:Int → Bool → State → Part → Option (State × Part)) (r_calqueref26_state_cases:Int → Bool → State → Part → Option (State × Part)) (N:Nat) (depth_1:Int) (counted_2:Bool) (x0:State):Option ((List (Part)) × State) :=
 (iter (fun s=>qdC r_calqueref26_state_message r_calqueref26_state_argument r_calqueref26_state_use r_calqueref26_state_cases N depth_1 counted_2 s.1 s.2) N ([],x0)).bind fun o30 =>
 Sum.elim (fun o30 =>
  some ([],o30))
 (fun o30 =>
  some o30) o30
def qc6 (r_calqueref26_state_message:Int → Bool → State → Option ((List (Part)) × State)) (r_calqueref26_state_argument:Int → Bool → State → Option (Part × State)) (r_calqueref26_state_use:Int → Bool → State → Part → Option (State × Part)) (r_calqueref26_state_cases:Int → Bool → State → Part → Option (State × Part)) (N:Nat) (depth_1:Int) (counted_2:Bool) (x0:State):Option (Part × State) :=
 (qaw N 2 x0).bind fun r18 =>
 (qeA N r18.2).bind fun r30 =>
 bif (r30.2.e == 0) then
  (qaF N r30.2).bind fun r44 =>
  bif (r44.Kind == 8) then
   (qaw N 8 r30.2).bind fun r54 =>
   (r_calqueref26_state_use depth_1 counted_2 r54.2 (Part.mk 2 ([]) r30.1 ([]) ([]) ([]))).bind fun r70 =>
   (qaw N 3 r70.1).bind fun r91 =>
   some (r70.2,r91.2)
  else
   (qaw N 3 r30.2).bind fun r107 =>
   some ((Part.mk 2 ([]) r30.1 ([]) ([]) ([])),r107.2)
 else
  (qaw N 3 r30.2).bind fun r119 =>
  some ((Part.mk 2 ([]) r30.1 ([]) ([]) ([])),r119.2)
def qdX (r_calqueref26_state_message:Int → Bool → State → Option ((List (Part)) × State)) (r_calqueref26_state_argument:Int → Bool → State → Option (Part × State)) (r_calqueref26_state_use:Int → Bool → State → Part → Option (State × Part)) (r_calqueref26_state_cases:Int → Bool → State → Part → Option (State × Part)) (N:Nat) (depth_2:Int) (counted_3:Bool) (x0:State) (x1:Part):Option (State × Part) :=
 (qaF N x0).bind fun r37 =>
 (qfZ N r37.Text).bind fun r46 =>
 (qaF N x0).bind fun r49 =>
 bif (r49.Kind == 9) then
  (qc1 N r46).bind fun r59 =>
  (show Option State from
   bif r59 then
    (qb8 N depth_2 x0).bind fun r72 =>
    some r72
   else
    some x0).bind fun o61 =>
  (qay N (r46 != 0) o61).bind fun r92 =>
  bif (r92.2.e != 0) then
   some (r92.2,(Part.mk r46 x1.Text x1.Name x1.Style x1.Cases x1.Parts))
  else
   bif (r46 == 3) then
    (qaF N r92.2).bind fun r106 =>
    bif (r106.Kind != 8) then
     some (r92.2,(Part.mk r46 x1.Text x1.Name x1.Style x1.Cases x1.Parts))
    else
     (qaw N 8 r92.2).bind fun r116 =>
     (qaF N r116.2).bind fun r128 =>
     bif (r46 == 3) then
      bif (r128.Text == ([105,110,116,101,103,101,114])) then
       (qay N true r116.2).bind fun r139 =>
       some (r139.2,(Part.mk r46 x1.Text x1.Name r139.1 x1.Cases x1.Parts))
      else
       (qay N (r128.Text == ([112,101,114,99,101,110,116])) r116.2).bind fun r151 =>
       some (r151.2,(Part.mk r46 x1.Text x1.Name r151.1 x1.Cases x1.Parts))
     else
      bif (r46 == 5) then
       (qcE N r128.Text).bind fun r164 =>
       (qay N r164 r116.2).bind fun r166 =>
       some (r166.2,(Part.mk r46 x1.Text x1.Name r166.1 x1.Cases x1.Parts))
      else
       (show Option Bool from
        bif (r46 == 4) then
         some (r46 == 4)
        else
         some (r46 == 6)).bind fun o178 =>
       bif o178 then
        (qbd N r128.Text).bind fun r181 =>
        (qay N r181 r116.2).bind fun r183 =>
        some (r183.2,(Part.mk r46 x1.Text x1.Name r183.1 x1.Cases x1.Parts))
       else
        bif counted_3 then
         (r_calqueref26_state_cases depth_2 true r116.2 (Part.mk r46 x1.Text x1.Name x1.Style x1.Cases x1.Parts)).bind fun r196 =>
         some (r196.1,r196.2)
        else
         (qcL N r46).bind fun r217 =>
         (r_calqueref26_state_cases depth_2 r217 r116.2 (Part.mk r46 x1.Text x1.Name x1.Style x1.Cases x1.Parts)).bind fun r219 =>
         some (r219.1,r219.2)
   else
    (qaw N 8 r92.2).bind fun r240 =>
    (qaF N r240.2).bind fun r252 =>
    bif (r46 == 3) then
     bif (r252.Text == ([105,110,116,101,103,101,114])) then
      (qay N true r240.2).bind fun r263 =>
      some (r263.2,(Part.mk r46 x1.Text x1.Name r263.1 x1.Cases x1.Parts))
     else
      (qay N (r252.Text == ([112,101,114,99,101,110,116])) r240.2).bind fun r275 =>
      some (r275.2,(Part.mk r46 x1.Text x1.Name r275.1 x1.Cases x1.Parts))
    else
     bif (r46 == 5) then
      (qcE N r252.Text).bind fun r288 =>
      (qay N r288 r240.2).bind fun r290 =>
      some (r290.2,(Part.mk r46 x1.Text x1.Name r290.1 x1.Cases x1.Parts))
     else
      (show Option Bool from
       bif (r46 == 4) then
        some (r46 == 4)
       else
        some (r46 == 6)).bind fun o302 =>
      bif o302 then
       (qbd N r252.Text).bind fun r305 =>
       (qay N r305 r240.2).bind fun r307 =>
       some (r307.2,(Part.mk r46 x1.Text x1.Name r307.1 x1.Cases x1.Parts))
      else
       bif counted_3 then
        (r_calqueref26_state_cases depth_2 true r240.2 (Part.mk r46 x1.Text x1.Name x1.Style x1.Cases x1.Parts)).bind fun r320 =>
        some (r320.1,r320.2)
       else
        (qcL N r46).bind fun r341 =>
        (r_calqueref26_state_cases depth_2 r341 r240.2 (Part.mk r46 x1.Text x1.Name x1.Style x1.Cases x1.Parts)).bind fun r343 =>
        some (r343.1,r343.2)
 else
  (qay N (r46 != 0) x0).bind fun r364 =>
  bif (r364.2.e != 0) then
   some (r364.2,(Part.mk r46 x1.Text x1.Name x1.Style x1.Cases x1.Parts))
  else
   bif (r46 == 3) then
    (qaF N r364.2).bind fun r378 =>
    bif (r378.Kind != 8) then
     some (r364.2,(Part.mk r46 x1.Text x1.Name x1.Style x1.Cases x1.Parts))
    else
     (qaw N 8 r364.2).bind fun r388 =>
     (qaF N r388.2).bind fun r400 =>
     bif (r46 == 3) then
      bif (r400.Text == ([105,110,116,101,103,101,114])) then
       (qay N true r388.2).bind fun r411 =>
       some (r411.2,(Part.mk r46 x1.Text x1.Name r411.1 x1.Cases x1.Parts))
      else
       (qay N (r400.Text == ([112,101,114,99,101,110,116])) r388.2).bind fun r423 =>
       some (r423.2,(Part.mk r46 x1.Text x1.Name r423.1 x1.Cases x1.Parts))
     else
      bif (r46 == 5) then
       (qcE N r400.Text).bind fun r436 =>
       (qay N r436 r388.2).bind fun r438 =>
       some (r438.2,(Part.mk r46 x1.Text x1.Name r438.1 x1.Cases x1.Parts))
      else
       (show Option Bool from
        bif (r46 == 4) then
         some (r46 == 4)
        else
         some (r46 == 6)).bind fun o450 =>
       bif o450 then
        (qbd N r400.Text).bind fun r453 =>
        (qay N r453 r388.2).bind fun r455 =>
        some (r455.2,(Part.mk r46 x1.Text x1.Name r455.1 x1.Cases x1.Parts))
       else
        bif counted_3 then
         (r_calqueref26_state_cases depth_2 true r388.2 (Part.mk r46 x1.Text x1.Name x1.Style x1.Cases x1.Parts)).bind fun r468 =>
         some (r468.1,r468.2)
        else
         (qcL N r46).bind fun r489 =>
         (r_calqueref26_state_cases depth_2 r489 r388.2 (Part.mk r46 x1.Text x1.Name x1.Style x1.Cases x1.Parts)).bind fun r491 =>
         some (r491.1,r491.2)
   else
    (qaw N 8 r364.2).bind fun r512 =>
    (qaF N r512.2).bind fun r524 =>
    bif (r46 == 3) then
     bif (r524.Text == ([105,110,116,101,103,101,114])) then
      (qay N true r512.2).bind fun r535 =>
      some (r535.2,(Part.mk r46 x1.Text x1.Name r535.1 x1.Cases x1.Parts))
     else
      (qay N (r524.Text == ([112,101,114,99,101,110,116])) r512.2).bind fun r547 =>
      some (r547.2,(Part.mk r46 x1.Text x1.Name r547.1 x1.Cases x1.Parts))
    else
     bif (r46 == 5) then
      (qcE N r524.Text).bind fun r560 =>
      (qay N r560 r512.2).bind fun r562 =>
      some (r562.2,(Part.mk r46 x1.Text x1.Name r562.1 x1.Cases x1.Parts))
     else
      (show Option Bool from
       bif (r46 == 4) then
        some (r46 == 4)
       else
        some (r46 == 6)).bind fun o574 =>
      bif o574 then
       (qbd N r524.Text).bind fun r577 =>
       (qay N r577 r512.2).bind fun r579 =>
       some (r579.2,(Part.mk r46 x1.Text x1.Name r579.1 x1.Cases x1.Parts))
      else
       bif counted_3 then
        (r_calqueref26_state_cases depth_2 true r512.2 (Part.mk r46 x1.Text x1.Name x1.Style x1.Cases x1.Parts)).bind fun r592 =>
        some (r592.1,r592.2)
       else
        (qcL N r46).bind fun r613 =>
        (r_calqueref26_state_cases depth_2 r613 r512.2 (Part.mk r46 x1.Text x1.Name x1.Style x1.Cases x1.Parts)).bind fun r615 =>
        some (r615.1,r615.2)
def qdZ (r_calqueref26_state_message:Int → Bool → State → Option ((List (Part)) × State)) (r_calqueref26_state_argument:Int → Bool → State → Option (Part × State)) (r_calqueref26_state_use:Int → Bool → State → Part → Option (State × Part)) (r_calqueref26_state_cases:Int → Bool → State → Part → Option (State × Part)) (N:Nat) (depth_2:Int) (counted_3:Bool) (keys_83:List (List UInt8)) (x_84:State) (x_85:Part):Option (((List (List UInt8)) × State × Part) ⊕ ((State × Part × (List (List UInt8))))) :=
 bif (x_84.e == 0) then
  bif ((keys_83.length:Int) == 0) then
   (qaF N x_84).bind fun r110 =>
   bif (r110.Kind == 9) then
    (qcI N x_85.Kind r110.Text).bind fun r121 =>
    (show Option State from
     bif r121 then
      (show Option State from
       bif (decide ((keys_83.length:Int) ≥ 20)) then
        (qaZ N 6 x_84).bind fun r145 =>
        some r145
       else
        some x_84).bind fun o134 =>
      (qec N keys_83 r110.Text).bind fun r170 =>
      bif r170 then
       (qaZ N 9 o134).bind fun r173 =>
       some r173
      else
       some o134
     else
      some x_84).bind fun o123 =>
    (show Option ((List UInt8) × State) from
     (qcI N x_85.Kind r110.Text).bind fun r204 =>
     (qay N r204 o123).bind fun r206 =>
     some (r206.1,r206.2)).bind fun o193 =>
    (app keys_83 ([o193.1]:List (List UInt8))).bind fun l241 =>
    (qaw N 2 o193.2).bind fun r246 =>
    (r_calqueref26_state_message (IntKind.wrap .i64 (depth_2 + 1)) counted_3 r246.2).bind fun r258 =>
    (qaw N 3 r258.2).bind fun r271 =>
    (app x_85.Cases ([(Case.mk o193.1 r258.1)]:List (Case))).bind fun l286 =>
    some (.inl (l241,r271.2,(Part.mk x_85.Kind x_85.Text x_85.Name x_85.Style l286 x_85.Parts)))
   else
    (show Option ((List UInt8) × State) from
     (qcI N x_85.Kind r110.Text).bind fun r302 =>
     (qay N r302 x_84).bind fun r304 =>
     some (r304.1,r304.2)).bind fun o291 =>
    (app keys_83 ([o291.1]:List (List UInt8))).bind fun l339 =>
    (qaw N 2 o291.2).bind fun r344 =>
    (r_calqueref26_state_message (IntKind.wrap .i64 (depth_2 + 1)) counted_3 r344.2).bind fun r356 =>
    (qaw N 3 r356.2).bind fun r369 =>
    (app x_85.Cases ([(Case.mk o291.1 r356.1)]:List (Case))).bind fun l384 =>
    some (.inl (l339,r369.2,(Part.mk x_85.Kind x_85.Text x_85.Name x_85.Style l384 x_85.Parts)))
  else
   (qaF N x_84).bind fun r389 =>
   bif (r389.Kind != 3) then
    (qaF N x_84).bind fun r399 =>
    bif (r399.Kind == 9) then
     (qcI N x_85.Kind r399.Text).bind fun r410 =>
     (show Option State from
      bif r410 then
       (show Option State from
        bif (decide ((keys_83.length:Int) ≥ 20)) then
         (qaZ N 6 x_84).bind fun r434 =>
         some r434
        else
         some x_84).bind fun o423 =>
       (qec N keys_83 r399.Text).bind fun r459 =>
       bif r459 then
        (qaZ N 9 o423).bind fun r462 =>
        some r462
       else
        some o423
      else
       some x_84).bind fun o412 =>
     (show Option ((List UInt8) × State) from
      (qcI N x_85.Kind r399.Text).bind fun r493 =>
      (qay N r493 o412).bind fun r495 =>
      some (r495.1,r495.2)).bind fun o482 =>
     (app keys_83 ([o482.1]:List (List UInt8))).bind fun l530 =>
     (qaw N 2 o482.2).bind fun r535 =>
     (r_calqueref26_state_message (IntKind.wrap .i64 (depth_2 + 1)) counted_3 r535.2).bind fun r547 =>
     (qaw N 3 r547.2).bind fun r560 =>
     (app x_85.Cases ([(Case.mk o482.1 r547.1)]:List (Case))).bind fun l575 =>
     some (.inl (l530,r560.2,(Part.mk x_85.Kind x_85.Text x_85.Name x_85.Style l575 x_85.Parts)))
    else
     (show Option ((List UInt8) × State) from
      (qcI N x_85.Kind r399.Text).bind fun r591 =>
      (qay N r591 x_84).bind fun r593 =>
      some (r593.1,r593.2)).bind fun o580 =>
     (app keys_83 ([o580.1]:List (List UInt8))).bind fun l628 =>
     (qaw N 2 o580.2).bind fun r633 =>
     (r_calqueref26_state_message (IntKind.wrap .i64 (depth_2 + 1)) counted_3 r633.2).bind fun r645 =>
     (qaw N 3 r645.2).bind fun r658 =>
     (app x_85.Cases ([(Case.mk o580.1 r645.1)]:List (Case))).bind fun l673 =>
     some (.inl (l628,r658.2,(Part.mk x_85.Kind x_85.Text x_85.Name x_85.Style l673 x_85.Parts)))
   else
    some (.inr (x_84,x_85,keys_83))
 else
  some (.inr (x_84,x_85,keys_83))
def qdy (r_calqueref26_state_message:Int → Bool → State → Option ((List (Part)) × State)) (r_calqueref26_state_argument:Int → Bool → State → Option (Part × State)) (r_calqueref26_state_use:Int → Bool → State → Part → Option (State × Part)) (r_calqueref26_state_cases:Int → Bool → State → Part → Option (State × Part)) (N:Nat) (depth_2:Int) (counted_3:Bool) (x0:State) (x1:Part):Option (State × Part) :=
 (iter (fun s=>qdZ r_calqueref26_state_message r_calqueref26_state_argument r_calqueref26_state_use r_calqueref26_state_cases N depth_2 counted_3 s.1 s.2.1 s.2.2) N ([],x0,x1)).bind fun o60 =>
 bif (o60.1.e == 0) then
  (qec N o60.2.2 ([111,116,104,101,114])).bind fun r706 =>
  bif (!r706) then
   (qaZ N 13 o60.1).bind fun r709 =>
   some (r709,o60.2.1)
  else
   some (o60.1,o60.2.1)
 else
  some (o60.1,o60.2.1)
def qaA:Nat → (Int → Bool → State → Option ((List (Part)) × State)) × (Int → Bool → State → Option (Part × State)) × (Int → Bool → State → Part → Option (State × Part)) × (Int → Bool → State → Part → Option (State × Part))
 | 0=>(fun _ _ _=>none,fun _ _ _=>none,fun _ _ _ _=>none,fun _ _ _ _=>none)
 | N + 1=>(qdc (qaA N).1 (qaA N).2.1 (qaA N).2.2.1 (qaA N).2.2.2 N,qc6 (qaA N).1 (qaA N).2.1 (qaA N).2.2.1 (qaA N).2.2.2 N,qdX (qaA N).1 (qaA N).2.1 (qaA N).2.2.1 (qaA N).2.2.2 N,qdy (qaA N).1 (qaA N).2.1 (qaA N).2.2.1 (qaA N).2.2.2 N)
def qbu (N:Nat):Int → Bool → State → Option ((List (Part)) × State):=(qaA N).1
def qbO (N:Nat):Int → Bool → State → Option (Part × State):=(qaA N).2.1
def qce (N:Nat):Int → Bool → State → Part → Option (State × Part):=(qaA N).2.2.1
def qbY (N:Nat):Int → Bool → State → Part → Option (State × Part):=(qaA N).2.2.2
end Go.Proofs.YtllnjbnknjpbjaaGreatDoor
namespace Go.Proofs.YtllnjbnknjpbjaaGreatDoor
open Go.X
def qd5 (_N:Nat) (n_0:Int):Option Bool :=
 bif (decide (n_0 ≥ 0)) then
  bif (decide (n_0 ≤ 1114111)) then
   bif (decide (n_0 < 55296)) then
    some true
   else
    some (decide (n_0 > 57343))
  else
   some false
 else
  some false
def qet (_N:Nat) (n_0:Int):Option (List UInt8) :=
 bif (decide (n_0 < 128)) then
  some (bytesOf ([(IntKind.wrap .u8 n_0)]:List (Int)))
 else
  bif (decide (n_0 < 2048)) then
   (rm n_0 64).bind fun q6 =>
   some (bytesOf ([(IntKind.wrap .u8 (IntKind.wrap .i64 ((192:Int) + (IntKind.wrap .i64 (n_0.tdiv 64))))),(IntKind.wrap .u8 (IntKind.wrap .i64 ((128:Int) + q6)))]:List (Int)))
  else
   bif (decide (n_0 < 65536)) then
    (rm (IntKind.wrap .i64 (n_0.tdiv 64)) 64).bind fun q12 =>
    (rm n_0 64).bind fun q14 =>
    some (bytesOf ([(IntKind.wrap .u8 (IntKind.wrap .i64 ((224:Int) + (IntKind.wrap .i64 (n_0.tdiv 4096))))),(IntKind.wrap .u8 (IntKind.wrap .i64 ((128:Int) + q12))),(IntKind.wrap .u8 (IntKind.wrap .i64 ((128:Int) + q14)))]:List (Int)))
   else
    (rm (IntKind.wrap .i64 (n_0.tdiv 4096)) 64).bind fun q19 =>
    (rm (IntKind.wrap .i64 (n_0.tdiv 64)) 64).bind fun q21 =>
    (rm n_0 64).bind fun q23 =>
    some (bytesOf ([(IntKind.wrap .u8 (IntKind.wrap .i64 ((240:Int) + (IntKind.wrap .i64 (n_0.tdiv 262144))))),(IntKind.wrap .u8 (IntKind.wrap .i64 ((128:Int) + q19))),(IntKind.wrap .u8 (IntKind.wrap .i64 ((128:Int) + q21))),(IntKind.wrap .u8 (IntKind.wrap .i64 ((128:Int) + q23)))]:List (Int)))
def qfg (_N:Nat) (s_0:List UInt8) (o5:Int × Int) (n_25:Int) (i_26:Int):Option ((Int × Int) ⊕ ((Int ⊕ (Int × Int)))) :=
 bif (decide (i_26 < o5.2)) then
  (idx s_0 i_26).bind fun c30 =>
  bif (decide ((c30.toNat:Int) < 128)) then
   some (.inr (.inr (65533,1)))
  else
   (idx s_0 i_26).bind fun c33 =>
   bif (decide ((c33.toNat:Int) > 191)) then
    some (.inr (.inr (65533,1)))
   else
    (idx s_0 i_26).bind fun c36 =>
    some (.inl ((IntKind.wrap .i64 ((IntKind.wrap .i64 ((IntKind.wrap .i64 ((64:Int) * n_25)) + (c36.toNat:Int))) - 128)),(i_26 + 1)))
 else
  some (.inr (.inl n_25))
def qfm (_N:Nat) (s_0:List UInt8) (o52:Int × Int) (n_68:Int) (i_69:Int):Option ((Int × Int) ⊕ ((Int ⊕ (Int × Int)))) :=
 bif (decide (i_69 < o52.2)) then
  (idx s_0 i_69).bind fun c73 =>
  bif (decide ((c73.toNat:Int) < 128)) then
   some (.inr (.inr (65533,1)))
  else
   (idx s_0 i_69).bind fun c76 =>
   bif (decide ((c76.toNat:Int) > 191)) then
    some (.inr (.inr (65533,1)))
   else
    (idx s_0 i_69).bind fun c79 =>
    some (.inl ((IntKind.wrap .i64 ((IntKind.wrap .i64 ((IntKind.wrap .i64 ((64:Int) * n_68)) + (c79.toNat:Int))) - 128)),(i_69 + 1)))
 else
  some (.inr (.inl n_68))
def qfi (_N:Nat) (s_0:List UInt8) (n_102:Int) (i_103:Int):Option ((Int × Int) ⊕ ((Int ⊕ (Int × Int)))) :=
 bif (decide (i_103 < 4)) then
  (idx s_0 i_103).bind fun c107 =>
  bif (decide ((c107.toNat:Int) < 128)) then
   some (.inr (.inr (65533,1)))
  else
   (idx s_0 i_103).bind fun c110 =>
   bif (decide ((c110.toNat:Int) > 191)) then
    some (.inr (.inr (65533,1)))
   else
    (idx s_0 i_103).bind fun c113 =>
    some (.inl ((IntKind.wrap .i64 ((IntKind.wrap .i64 ((IntKind.wrap .i64 ((64:Int) * n_102)) + (c113.toNat:Int))) - 128)),(i_103 + 1)))
 else
  some (.inr (.inl n_102))
def qf2 (N:Nat) (s_0:List UInt8):Option (Int × Int) :=
 (idx s_0 0).bind fun c1 =>
 bif (decide ((c1.toNat:Int) < 128)) then
  some ((c1.toNat:Int),1)
 else
  bif (decide ((c1.toNat:Int) ≥ 192)) then
   (show Option ((Int × Int) ⊕ (Int × Int)) from
    bif (decide ((c1.toNat:Int) < 224)) then
     some (.inl ((IntKind.wrap .i64 ((c1.toNat:Int) - 192)),2))
    else
     bif (decide ((c1.toNat:Int) ≥ 224)) then
      bif (decide ((c1.toNat:Int) < 240)) then
       some (.inl ((IntKind.wrap .i64 ((c1.toNat:Int) - 224)),3))
      else
       bif (decide ((c1.toNat:Int) ≥ 240)) then
        bif (decide ((c1.toNat:Int) < 248)) then
         some (.inl ((IntKind.wrap .i64 ((c1.toNat:Int) - 240)),4))
        else
         some (.inr (65533,1))
       else
        some (.inr (65533,1))
     else
      bif (decide ((c1.toNat:Int) ≥ 240)) then
       bif (decide ((c1.toNat:Int) < 248)) then
        some (.inl ((IntKind.wrap .i64 ((c1.toNat:Int) - 240)),4))
       else
        some (.inr (65533,1))
      else
       some (.inr (65533,1))).bind fun o5 =>
   Sum.elim (fun o5 =>
    bif (decide (o5.2 > (s_0.length:Int))) then
     some (65533,1)
    else
     (iter (fun s=>qfg N s_0 o5 s.1 s.2) N (o5.1,1)).bind fun o22 =>
     Sum.elim (fun o22 =>
      (qd5 N o22).bind fun r39 =>
      bif (!r39) then
       some (65533,1)
      else
       (qet N o22).bind fun r42 =>
       (slc s_0 0 o5.2).bind fun s45 =>
       bif (r42 != s45) then
        some (65533,1)
       else
        some (o22,o5.2))
     (fun o22 =>
      some o22) o22)
   (fun o5 =>
    some o5) o5
  else
   bif (decide ((c1.toNat:Int) ≥ 224)) then
    (show Option ((Int × Int) ⊕ (Int × Int)) from
     bif (decide ((c1.toNat:Int) < 240)) then
      some (.inl ((IntKind.wrap .i64 ((c1.toNat:Int) - 224)),3))
     else
      bif (decide ((c1.toNat:Int) ≥ 240)) then
       bif (decide ((c1.toNat:Int) < 248)) then
        some (.inl ((IntKind.wrap .i64 ((c1.toNat:Int) - 240)),4))
       else
        some (.inr (65533,1))
      else
       some (.inr (65533,1))).bind fun o52 =>
    Sum.elim (fun o52 =>
     bif (decide (o52.2 > (s_0.length:Int))) then
      some (65533,1)
     else
      (iter (fun s=>qfm N s_0 o52 s.1 s.2) N (o52.1,1)).bind fun o65 =>
      Sum.elim (fun o65 =>
       (qd5 N o65).bind fun r82 =>
       bif (!r82) then
        some (65533,1)
       else
        (qet N o65).bind fun r85 =>
        (slc s_0 0 o52.2).bind fun s88 =>
        bif (r85 != s88) then
         some (65533,1)
        else
         some (o65,o52.2))
      (fun o65 =>
       some o65) o65)
    (fun o52 =>
     some o52) o52
   else
    bif (decide ((c1.toNat:Int) ≥ 240)) then
     bif (decide ((c1.toNat:Int) < 248)) then
      bif (decide ((4:Int) > (s_0.length:Int))) then
       some (65533,1)
      else
       (iter (fun s=>qfi N s_0 s.1 s.2) N ((IntKind.wrap .i64 ((c1.toNat:Int) - 240)),1)).bind fun o99 =>
       Sum.elim (fun o99 =>
        (qd5 N o99).bind fun r116 =>
        bif (!r116) then
         some (65533,1)
        else
         (qet N o99).bind fun r119 =>
         (slc s_0 0 4).bind fun s122 =>
         bif (r119 != s122) then
          some (65533,1)
         else
          some (o99,4))
       (fun o99 =>
        some o99) o99
     else
      some (65533,1)
    else
     some (65533,1)
def qfP (N:Nat) (s_0:List UInt8) (offset_1:Int) (x_10:Position):Option (Position ⊕ Position) :=
 bif (decide (x_10.Offset < (s_0.length:Int))) then
  bif (x_10.Offset != offset_1) then
   (slc s_0 x_10.Offset (s_0.length:Int)).bind fun s16 =>
   (qf2 N s16).bind fun r18 =>
   bif (r18.1 == 10) then
    some (.inl (Position.mk (IntKind.wrap .i64 (x_10.Offset + r18.2)) (IntKind.wrap .i64 (x_10.Line + 1)) 1))
   else
    some (.inl (Position.mk (IntKind.wrap .i64 (x_10.Offset + r18.2)) x_10.Line (IntKind.wrap .i64 (x_10.Column + 1))))
  else
   some (.inr x_10)
 else
  some (.inr x_10)
def qfG (N:Nat) (s_0:List UInt8) (offset_1:Int):Option (Position × Int) :=
 (iter (fun s=>qfP N s_0 offset_1 s) N (Position.mk 0 1 1)).bind fun o6 =>
 bif (o6.Offset != offset_1) then
  some ((Position.mk 0 0 0),2)
 else
  some (o6,0)
def qfN (N:Nat) (s_0:List UInt8) (counted_1:Bool):Option ((List (Part)) × Position × Int) :=
 (qfx N s_0).bind fun r2 =>
 bif (r2.2.2 == 6) then
  some ([],(Position.mk r2.2.1 0 0),r2.2.2)
 else
  (qbu N 1 counted_1 (State.mk r2.1 (s_0.length:Int) ([]) r2.2.1 r2.2.2)).bind fun r13 =>
  bif (r13.2.e == 0) then
   (show Option State from
    bif (decide ((r13.2.left.length:Int) > 0)) then
     (qaZ N 3 r13.2).bind fun r38 =>
     some r38
    else
     some r13.2).bind fun o27 =>
   bif (o27.e != 0) then
    (qfG N s_0 o27.at_).bind fun r59 =>
    (show Option (Int × Position) from
     some (o27.e,r59.1)).bind fun o69 =>
    some ([],o69.2,o69.1)
   else
    (qcz N r13.1 ([32])).bind fun r78 =>
    bif (decide ((r78.length:Int) > 4000)) then
     some ([],(Position.mk 0 0 0),6)
    else
     some (r13.1,(Position.mk 0 0 0),0)
  else
   bif (r13.2.e != 0) then
    (qfG N s_0 r13.2.at_).bind fun r83 =>
    (show Option (Int × Position) from
     some (r13.2.e,r83.1)).bind fun o93 =>
    some ([],o93.2,o93.1)
   else
    (qcz N r13.1 ([32])).bind fun r102 =>
    bif (decide ((r102.length:Int) > 4000)) then
     some ([],(Position.mk 0 0 0),6)
    else
     some (r13.1,(Position.mk 0 0 0),0)
def qfS (N:Nat) (s_0:List UInt8):Option ((List (Part)) × Position × Int) :=
 (qfN N s_0 false).bind fun r2 =>
 some (r2.1,r2.2.1,r2.2.2)
end Go.Proofs.YtllnjbnknjpbjaaGreatDoor
namespace Go.Proofs.YtllnjbnknjpbjaaGreatDoor
open Go.X
def qcB (_N:Nat) (a_0:Code) (b_1:Code) (i_16:Int):Option (Int ⊕ ((Unit ⊕ Bool))) :=
 bif (decide (i_16 < (a_0.Names.length:Int))) then
  (idx a_0.Names i_16).bind fun x19 =>
  (idx b_1.Names i_16).bind fun x29 =>
  bif (x19 != x29) then
   some (.inr (.inr false))
  else
   some (.inl (i_16 + 1))
 else
  some (.inr (.inl ()))
def qcF (_N:Nat) (a_0:Code) (b_1:Code) (i_43:Int):Option (Int ⊕ ((Unit ⊕ Bool))) :=
 bif (decide (i_43 < (a_0.Ins.length:Int))) then
  (idx a_0.Ins i_43).bind fun x46 =>
  (idx b_1.Ins i_43).bind fun x59 =>
  bif (!((x46.Op == x59.Op) && ((x46.A == x59.A) && ((x46.B == x59.B) && (x46.S == x59.S))))) then
   some (.inr (.inr false))
  else
   some (.inl (i_43 + 1))
 else
  some (.inr (.inl ()))
def qd2 (N:Nat) (a_0:Code) (b_1:Code):Option Bool :=
 bif ((a_0.Names.length:Int) != (b_1.Names.length:Int)) then
  some false
 else
  bif ((a_0.Ins.length:Int) != (b_1.Ins.length:Int)) then
   some false
  else
   (iter (fun s=>qcB N a_0 b_1 s) N 0).bind fun o14 =>
   Sum.elim (fun _o14 =>
    (iter (fun s=>qcF N a_0 b_1 s) N 0).bind fun o41 =>
    Sum.elim (fun _o41 =>
     some true)
    (fun o41 =>
     some o41) o41)
   (fun o14 =>
    some o14) o14
def qc2 (_N:Nat) (c_0:Code) (i_9:Int):Option (Int ⊕ ((Unit ⊕ Bool))) :=
 bif (decide (i_9 < (c_0.Names.length:Int))) then
  (idx c_0.Names i_9).bind fun x12 =>
  bif (decide ((x12.length:Int) > 100)) then
   some (.inr (.inr false))
  else
   some (.inl (i_9 + 1))
 else
  some (.inr (.inl ()))
def qc3 (_N:Nat) (c_0:Code) (i_26:Int):Option (Int ⊕ ((Unit ⊕ Bool))) :=
 bif (decide (i_26 < (c_0.Ins.length:Int))) then
  (idx c_0.Ins i_26).bind fun x29 =>
  bif (decide ((x29.S.length:Int) > 300)) then
   some (.inr (.inr false))
  else
   some (.inl (i_26 + 1))
 else
  some (.inr (.inl ()))
def qdP (N:Nat) (c_0:Code):Option Bool :=
 (iter (fun s=>qc2 N c_0 s) N 0).bind fun o7 =>
 Sum.elim (fun _o7 =>
  (iter (fun s=>qc3 N c_0 s) N 0).bind fun o24 =>
  Sum.elim (fun _o24 =>
   bif (decide ((c_0.Names.length:Int) ≤ 30)) then
    some (decide ((c_0.Ins.length:Int) ≤ 400))
   else
    some false)
  (fun o24 =>
   some o24) o24)
 (fun o7 =>
  some o7) o7
end Go.Proofs.YtllnjbnknjpbjaaGreatDoor
namespace Go.Proofs.YtllnjbnknjpbjaaGreatDoor
open Go.X
def qbZ (r_calqueref33_digits:Int → Option (List UInt8)) (N:Nat) (n_0:Int):Option (List UInt8) :=
 bif (decide (n_0 ≥ 0)) then
  bif (decide (n_0 < 10)) then
   some (qim (IntKind.wrap .i32 (IntKind.wrap .i64 ((48:Int) + n_0))))
  else
   bif (decide (n_0 < 0)) then
    bif (decide (n_0 > (-10))) then
     (r_calqueref33_digits (IntKind.wrap .i64 (-n_0))).bind fun r5 =>
     (cat ([45]) r5).bind fun s8 =>
     some s8
    else
     (r_calqueref33_digits (IntKind.wrap .i64 (n_0.tdiv 10))).bind fun r10 =>
     (rm n_0 10).bind fun q13 =>
     (r_calqueref33_digits (IntKind.wrap .i64 (-q13))).bind fun r15 =>
     (cat r10 r15).bind fun s18 =>
     some s18
   else
    (r_calqueref33_digits (IntKind.wrap .i64 (n_0.tdiv 10))).bind fun r20 =>
    (rm n_0 10).bind fun q23 =>
    (r_calqueref33_digits q23).bind fun r25 =>
    (cat r20 r25).bind fun s28 =>
    some s28
 else
  bif (decide (n_0 < 0)) then
   bif (decide (n_0 > (-10))) then
    (r_calqueref33_digits (IntKind.wrap .i64 (-n_0))).bind fun r32 =>
    (cat ([45]) r32).bind fun s35 =>
    some s35
   else
    (r_calqueref33_digits (IntKind.wrap .i64 (n_0.tdiv 10))).bind fun r37 =>
    (rm n_0 10).bind fun q40 =>
    (r_calqueref33_digits (IntKind.wrap .i64 (-q40))).bind fun r42 =>
    (cat r37 r42).bind fun s45 =>
    some s45
  else
   (r_calqueref33_digits (IntKind.wrap .i64 (n_0.tdiv 10))).bind fun r47 =>
   (rm n_0 10).bind fun q50 =>
   (r_calqueref33_digits q50).bind fun r52 =>
   (cat r47 r52).bind fun s55 =>
   some s55
def qcQ:Nat → (Int → Option (List UInt8))
 | 0=>(fun _=>none)
 | N + 1=>(qbZ (qcQ N) N)
def qbq (N:Nat):Int → Option (List UInt8):=(qcQ N)
def qbV (_N:Nat) (x19:Ins) (out_84:List UInt8) (k_85:Int):Option (((List UInt8) × Int) ⊕ (((List UInt8)))) :=
 bif (decide (k_85 < (x19.S.length:Int))) then
  (idx x19.S k_85).bind fun c89 =>
  bif ((c89.toNat:Int) == 10) then
   (cat out_84 ([92,110])).bind fun s92 =>
   some (.inl (s92,(k_85 + 1)))
  else
   (idx x19.S k_85).bind fun c94 =>
   bif ((c94.toNat:Int) == 34) then
    (slc x19.S k_85 (k_85 + 1)).bind fun s97 =>
    (cat ([92]) s97).bind fun s99 =>
    (cat out_84 s99).bind fun s101 =>
    some (.inl (s101,(k_85 + 1)))
   else
    (idx x19.S k_85).bind fun c103 =>
    bif ((c103.toNat:Int) == 92) then
     (slc x19.S k_85 (k_85 + 1)).bind fun s106 =>
     (cat ([92]) s106).bind fun s108 =>
     (cat out_84 s108).bind fun s110 =>
     some (.inl (s110,(k_85 + 1)))
    else
     (slc x19.S k_85 (k_85 + 1)).bind fun s112 =>
     (cat out_84 s112).bind fun s114 =>
     some (.inl (s114,(k_85 + 1)))
 else
  some (.inr out_84)
def qei (_N:Nat) (x19:Ins) (out_178:List UInt8) (k_179:Int):Option (((List UInt8) × Int) ⊕ (((List UInt8)))) :=
 bif (decide (k_179 < (x19.S.length:Int))) then
  (idx x19.S k_179).bind fun c183 =>
  bif ((c183.toNat:Int) == 10) then
   (cat out_178 ([92,110])).bind fun s186 =>
   some (.inl (s186,(k_179 + 1)))
  else
   (idx x19.S k_179).bind fun c188 =>
   bif ((c188.toNat:Int) == 34) then
    (slc x19.S k_179 (k_179 + 1)).bind fun s191 =>
    (cat ([92]) s191).bind fun s193 =>
    (cat out_178 s193).bind fun s195 =>
    some (.inl (s195,(k_179 + 1)))
   else
    (idx x19.S k_179).bind fun c197 =>
    bif ((c197.toNat:Int) == 92) then
     (slc x19.S k_179 (k_179 + 1)).bind fun s200 =>
     (cat ([92]) s200).bind fun s202 =>
     (cat out_178 s202).bind fun s204 =>
     some (.inl (s204,(k_179 + 1)))
    else
     (slc x19.S k_179 (k_179 + 1)).bind fun s206 =>
     (cat out_178 s206).bind fun s208 =>
     some (.inl (s208,(k_179 + 1)))
 else
  some (.inr out_178)
def qcq (N:Nat) (c_0:Code) (out_14:List UInt8) (i_15:Int):Option (((List UInt8) × Int) ⊕ (((List UInt8)))) :=
 bif (decide (i_15 < (c_0.Ins.length:Int))) then
  (idx c_0.Ins i_15).bind fun x19 =>
  bif (decide (x19.Op < 0)) then
   (qbq N i_15).bind fun r34 =>
   (cat r34 ([58,32])).bind fun s37 =>
   (idx ([[63],[101,109,105,116],[111,112,101,110],[99,108,111,115,101],[118,111,105,100],[97,114,103],[110,117,109,98,101,114],[117,110,105,116],[100,97,116,101],[108,105,115,116],[115,119,105,116,99,104],[99,97,115,101],[106,117,109,112],[115,116,111,112]]:List (List UInt8)) 0).bind fun x39 =>
   (cat s37 x39).bind fun s50 =>
   (cat out_14 s50).bind fun s52 =>
   (show Option ((List UInt8)) from
    bif (x19.A != 0) then
     (qbq N x19.A).bind fun r57 =>
     (cat ([32]) r57).bind fun s60 =>
     (cat s52 s60).bind fun s62 =>
     some s62
    else
     some s52).bind fun o54 =>
   (show Option ((List UInt8)) from
    bif (x19.B != 0) then
     (qbq N x19.B).bind fun r68 =>
     (cat ([32]) r68).bind fun s71 =>
     (cat o54 s71).bind fun s73 =>
     some s73
    else
     some o54).bind fun o65 =>
   bif (x19.S != ([])) then
    (cat o65 ([32,34])).bind fun s77 =>
    (iter (fun s=>qbV N x19 s.1 s.2) N (s77,0)).bind fun o81 =>
    (cat o81 ([34])).bind fun s117 =>
    (cat s117 ([10])).bind fun s119 =>
    some (.inl (s119,(i_15 + 1)))
   else
    (cat o65 ([10])).bind fun s122 =>
    some (.inl (s122,(i_15 + 1)))
  else
   (show Option Int from
    bif (decide (x19.Op ≥ (([[63],[101,109,105,116],[111,112,101,110],[99,108,111,115,101],[118,111,105,100],[97,114,103],[110,117,109,98,101,114],[117,110,105,116],[100,97,116,101],[108,105,115,116],[115,119,105,116,99,104],[99,97,115,101],[106,117,109,112],[115,116,111,112]]:List (List UInt8)).length:Int))) then
     some 0
    else
     some x19.Op).bind fun o124 =>
   (qbq N i_15).bind fun r128 =>
   (cat r128 ([58,32])).bind fun s131 =>
   (idx ([[63],[101,109,105,116],[111,112,101,110],[99,108,111,115,101],[118,111,105,100],[97,114,103],[110,117,109,98,101,114],[117,110,105,116],[100,97,116,101],[108,105,115,116],[115,119,105,116,99,104],[99,97,115,101],[106,117,109,112],[115,116,111,112]]:List (List UInt8)) o124).bind fun x133 =>
   (cat s131 x133).bind fun s144 =>
   (cat out_14 s144).bind fun s146 =>
   (show Option ((List UInt8)) from
    bif (x19.A != 0) then
     (qbq N x19.A).bind fun r151 =>
     (cat ([32]) r151).bind fun s154 =>
     (cat s146 s154).bind fun s156 =>
     some s156
    else
     some s146).bind fun o148 =>
   (show Option ((List UInt8)) from
    bif (x19.B != 0) then
     (qbq N x19.B).bind fun r162 =>
     (cat ([32]) r162).bind fun s165 =>
     (cat o148 s165).bind fun s167 =>
     some s167
    else
     some o148).bind fun o159 =>
   bif (x19.S != ([])) then
    (cat o159 ([32,34])).bind fun s171 =>
    (iter (fun s=>qei N x19 s.1 s.2) N (s171,0)).bind fun o175 =>
    (cat o175 ([34])).bind fun s211 =>
    (cat s211 ([10])).bind fun s213 =>
    some (.inl (s213,(i_15 + 1)))
   else
    (cat o159 ([10])).bind fun s216 =>
    some (.inl (s216,(i_15 + 1)))
 else
  some (.inr out_14)
def qef (N:Nat) (c_0:Code):Option (List UInt8) :=
 (iter (fun s=>qcq N c_0 s.1 s.2) N ([],0)).bind fun o11 =>
 some o11
end Go.Proofs.YtllnjbnknjpbjaaGreatDoor
namespace Go.Proofs.YtllnjbnknjpbjaaGreatDoor
open Go.X
def qd4 (N:Nat):Option Bool :=
 (qfS N ([97,123,110,44,32,112,108,117,114,97,108,44,32,111,110,101,32,123,120,125,32,111,116,104,101,114,32,123,35,125,125])).bind fun r1 =>
 (qgq N r1.1).bind fun r13 =>
 bif (r13.2 == 0) then
  bif ((r13.1.Ins.length:Int) == 9) then
   (idx r13.1.Ins 2).bind fun x26 =>
   bif ((x26.Op == 11) && ((x26.A == 4) && ((x26.B == 0) && (x26.S == ([111,110,101]))))) then
    (qdY N r13.1 r13.1).bind fun r40 =>
    bif r40 then
     (slc r13.1.Ins 8 (r13.1.Ins.length:Int)).bind fun l43 =>
     (qeG N (Code.mk ([]) l43)).bind fun r48 =>
     some (r48 == ([48,58,32,115,116,111,112,10]))
    else
     some false
   else
    some false
  else
   some false
 else
  some false
def qcU (_N:Nat) (c_0:Code) (i_24:Int) (x_25:Code):Option ((Int × Code) ⊕ Code) :=
 bif (decide (i_24 < (c_0.Ins.length:Int))) then
  (show Option Code from
   (idx c_0.Ins i_24).bind fun x39 =>
   (app x_25.Ins ([x39]:List (Ins))).bind fun l55 =>
   some (Code.mk x_25.Names l55)).bind fun o33 =>
  some (.inl ((i_24 + 1),o33))
 else
  some (.inr x_25)
def qcr (N:Nat) (c_0:Code):Option Code :=
 (iter (fun s=>qcU N c_0 s.1 s.2) N (0,(Code.mk c_0.Names ([])))).bind fun o17 =>
 some o17
end Go.Proofs.YtllnjbnknjpbjaaGreatDoor
namespace Go.Proofs.YtllnjbnknjpbjaaGreatDoor
open Go.X
def qbU (N:Nat) (a_0:Code) (b_1:Code):Option Bool :=
 (qd4 N ).bind fun r11 =>
 bif (!r11) then
  some false
 else
  (qdP N a_0).bind fun r14 =>
  bif (!r14) then
   some true
  else
   (qdP N b_1).bind fun r17 =>
   bif (!r17) then
    some true
   else
    (show Option Bool from
     (qcr N a_0).bind fun r22 =>
     (qeG N r22).bind fun r31 =>
     (qef N a_0).bind fun r34 =>
     bif (r31 == r34) then
      (qcr N a_0).bind fun r38 =>
      (qcr N b_1).bind fun r47 =>
      (qdY N r38 r47).bind fun r56 =>
      (qd2 N a_0 b_1).bind fun r58 =>
      bif (r56 == r58) then
       (qcr N a_0).bind fun r61 =>
       (qcr N a_0).bind fun r70 =>
       (qdY N r61 r70).bind fun r79 =>
       some r79
      else
       some false
     else
      some false).bind fun o20 =>
    some o20
end Go.Proofs.YtllnjbnknjpbjaaGreatDoor
namespace Go.Proofs
open Go.Shelf
def Tryz.lays169_ren:Go.Shelf.Ren:=⟨fun | 169=>39 | n=>n,fun | 70=>65 | 9=>9 | 0=>0 | 72=>68 | 37=>66 | 127=>112 | 3=>3 | 5=>5 | n=>n,fun | n=>n⟩
theorem Tryz.lays169:Go.Proofs.Lays.n169 Tryz.prog Tryz.lays169_ren:={
 mixed:=by kernel_rfl
 f169:=Tryz.func39.trans (congrArg some (by kernel_rfl))
 t0:=Tryz.underlying0
 a0:=Tryz.isAgg0
 z0:=Tryz.sizeOf0
 v0:=Tryz.zeroValue0
 t3:=Tryz.underlying3
 a3:=Tryz.isAgg3
 z3:=Tryz.sizeOf3
 v3:=Tryz.zeroValue3
 t9:=Tryz.underlying9
 a9:=Tryz.isAgg9
 z9:=Tryz.sizeOf9
 v9:=Tryz.zeroValue9
 t37:=Tryz.underlying66
 a37:=Tryz.isAgg66
 z37:=Tryz.sizeOf66
 v37:=Tryz.zeroValue66
 t70:=Tryz.underlying65
 a70:=Tryz.isAgg65
 z70:=Tryz.sizeOf65
 v70:=Tryz.zeroValue65
 t72:=Tryz.underlying68
 a72:=Tryz.isAgg68
 z72:=Tryz.sizeOf68
 v72:=Tryz.zeroValue68
 t127:=Tryz.underlying112
 a127:=Tryz.isAgg112
 z127:=Tryz.sizeOf112
 v127:=Tryz.zeroValue112 }
theorem Tryz.Builder_Extra_169:Builder.Extra Tryz.prog Tryz.lays169_ren:={
 sizeBuilder:=by kernel_rfl
 liesBuilder:=by kernel_rfl
 t5:=Tryz.underlying5
 a5:=Tryz.isAgg5
 z5:=Tryz.sizeOf5
 v5:=Tryz.zeroValue5
 infoByte:=by kernel_rfl
 cellsByte:=by kernel_rfl
 sizeByte:=by kernel_rfl
 neB5:=by decide }
def Tryz.lays160_ren:Go.Shelf.Ren:=⟨fun | 160=>163 | 232=>167 | 231=>166 | 227=>168 | 234=>170 | 233=>169 | 236=>172 | 235=>171 | 228=>177 | 271=>180 | 151=>179 | 197=>178 | 120=>185 | 152=>184 | 260=>183 | 137=>186 | 119=>187 | 224=>175 | 225=>174 | 217=>173 | 266=>181 | n=>n,fun | 9=>9 | 4=>4 | 3=>3 | 5=>5 | 117=>228 | 116=>227 | 0=>0 | 124=>231 | 21=>21 | 105=>233 | 46=>182 | 119=>165 | 139=>241 | 138=>240 | n=>n,fun | 3=>4 | 4=>5 | n=>n⟩
theorem Tryz.lays160:Go.Proofs.Lays.n160 Tryz.prog Tryz.lays160_ren:={
 mixed:=by kernel_rfl
 f119:=Tryz.func187.trans (congrArg some (by kernel_rfl))
 f120:=Tryz.func185.trans (congrArg some (by kernel_rfl))
 f137:=Tryz.func186.trans (congrArg some (by kernel_rfl))
 f151:=Tryz.func179.trans (congrArg some (by kernel_rfl))
 f152:=Tryz.func184.trans (congrArg some (by kernel_rfl))
 f160:=Tryz.func163.trans (congrArg some (by kernel_rfl))
 f197:=Tryz.func178.trans (congrArg some (by kernel_rfl))
 f217:=Tryz.func173.trans (congrArg some (by kernel_rfl))
 f224:=Tryz.func175.trans (congrArg some (by kernel_rfl))
 f225:=Tryz.func174.trans (congrArg some (by kernel_rfl))
 f227:=Tryz.func168.trans (congrArg some (by kernel_rfl))
 f228:=Tryz.func177.trans (congrArg some (by kernel_rfl))
 f231:=Tryz.func166.trans (congrArg some (by kernel_rfl))
 f232:=Tryz.func167.trans (congrArg some (by kernel_rfl))
 f233:=Tryz.func169.trans (congrArg some (by kernel_rfl))
 f234:=Tryz.func170.trans (congrArg some (by kernel_rfl))
 f235:=Tryz.func171.trans (congrArg some (by kernel_rfl))
 f236:=Tryz.func172.trans (congrArg some (by kernel_rfl))
 f260:=Tryz.func183.trans (congrArg some (by kernel_rfl))
 f266:=Tryz.func181.trans (congrArg some (by kernel_rfl))
 f271:=Tryz.func180.trans (congrArg some (by kernel_rfl))
 t0:=Tryz.underlying0
 a0:=Tryz.isAgg0
 z0:=Tryz.sizeOf0
 v0:=Tryz.zeroValue0
 t3:=Tryz.underlying3
 a3:=Tryz.isAgg3
 z3:=Tryz.sizeOf3
 v3:=Tryz.zeroValue3
 t4:=Tryz.underlying4
 a4:=Tryz.isAgg4
 z4:=Tryz.sizeOf4
 v4:=Tryz.zeroValue4
 t5:=Tryz.underlying5
 a5:=Tryz.isAgg5
 z5:=Tryz.sizeOf5
 v5:=Tryz.zeroValue5
 t9:=Tryz.underlying9
 a9:=Tryz.isAgg9
 z9:=Tryz.sizeOf9
 v9:=Tryz.zeroValue9
 t21:=Tryz.underlying21
 a21:=Tryz.isAgg21
 z21:=Tryz.sizeOf21
 v21:=Tryz.zeroValue21
 t46:=Tryz.underlying182
 a46:=Tryz.isAgg182
 z46:=Tryz.sizeOf182
 v46:=Tryz.zeroValue182
 t105:=Tryz.underlying233
 a105:=Tryz.isAgg233
 z105:=Tryz.sizeOf233
 v105:=Tryz.zeroValue233
 t116:=Tryz.underlying227
 a116:=Tryz.isAgg227
 z116:=Tryz.sizeOf227
 t117:=Tryz.underlying228
 a117:=Tryz.isAgg228
 z117:=Tryz.sizeOf228
 v117:=Tryz.zeroValue228
 t119:=Tryz.underlying165
 a119:=Tryz.isAgg165
 z119:=Tryz.sizeOf165
 t124:=Tryz.underlying231
 a124:=Tryz.isAgg231
 z124:=Tryz.sizeOf231
 v124:=Tryz.zeroValue231
 t138:=Tryz.underlying240
 a138:=Tryz.isAgg240
 z138:=Tryz.sizeOf240
 v138:=Tryz.zeroValue240
 t139:=Tryz.underlying241
 a139:=Tryz.isAgg241
 z139:=Tryz.sizeOf241
 v139:=Tryz.zeroValue241
 g3:=by kernel_rfl
 g4:=by kernel_rfl }
def Tryz.lays103_ren:Go.Shelf.Ren:=⟨fun | 103=>134 | 210=>149 | 206=>158 | n=>n,fun | 9=>9 | 4=>4 | 24=>199 | 3=>3 | n=>n,fun | n=>n⟩
theorem Tryz.lays103:Go.Proofs.Lays.n103 Tryz.prog Tryz.lays103_ren:={
 mixed:=by kernel_rfl
 f103:=Tryz.func134.trans (congrArg some (by kernel_rfl))
 f206:=Tryz.func158.trans (congrArg some (by kernel_rfl))
 f210:=Tryz.func149.trans (congrArg some (by kernel_rfl))
 t3:=Tryz.underlying3
 a3:=Tryz.isAgg3
 z3:=Tryz.sizeOf3
 v3:=Tryz.zeroValue3
 t4:=Tryz.underlying4
 a4:=Tryz.isAgg4
 z4:=Tryz.sizeOf4
 v4:=Tryz.zeroValue4
 t9:=Tryz.underlying9
 a9:=Tryz.isAgg9
 z9:=Tryz.sizeOf9
 v9:=Tryz.zeroValue9
 t24:=Tryz.underlying199
 a24:=Tryz.isAgg199
 z24:=Tryz.sizeOf199
 v24:=Tryz.zeroValue199 }
def Tryz.laysM171_ren:Go.Shelf.Ren:=⟨fun | 171=>36 | 243=>56 | 246=>71 | 283=>94 | 284=>95 | 285=>96 | 286=>97 | 129=>118 | 317=>117 | 318=>119 | 319=>120 | 320=>121 | 337=>137 | 338=>138 | n=>n,fun | 3=>3 | 9=>9 | 2=>2 | 4=>4 | 171=>151 | 0=>0 | 53=>152 | 37=>66 | 5=>5 | 173=>155 | 212=>180 | 51=>98 | 20=>20 | 213=>181 | 46=>182 | 232=>217 | 233=>218 | n=>n,fun | 17=>0 | 18=>1 | 19=>2 | n=>n⟩
theorem Tryz.laysM171:Go.Proofs.LaysM.n171 Tryz.prog Tryz.laysM171_ren:={
 mixed:=by kernel_rfl
 f129:=Tryz.func118.trans (congrArg some (by kernel_rfl))
 f171:=Tryz.func36.trans (congrArg some (by kernel_rfl))
 f243:=Tryz.func56.trans (congrArg some (by kernel_rfl))
 f246:=Tryz.func71.trans (congrArg some (by kernel_rfl))
 f283:=Tryz.func94.trans (congrArg some (by kernel_rfl))
 f284:=Tryz.func95.trans (congrArg some (by kernel_rfl))
 f285:=Tryz.func96.trans (congrArg some (by kernel_rfl))
 f286:=Tryz.func97.trans (congrArg some (by kernel_rfl))
 f317:=Tryz.func117.trans (congrArg some (by kernel_rfl))
 f318:=Tryz.func119.trans (congrArg some (by kernel_rfl))
 f319:=Tryz.func120.trans (congrArg some (by kernel_rfl))
 f320:=Tryz.func121.trans (congrArg some (by kernel_rfl))
 f337:=Tryz.func137.trans (congrArg some (by kernel_rfl))
 f338:=Tryz.func138.trans (congrArg some (by kernel_rfl))
 t0:=Tryz.underlying0
 a0:=Tryz.isAgg0
 z0:=Tryz.sizeOf0
 v0:=Tryz.zeroValue0
 t2:=Tryz.underlying2
 a2:=Tryz.isAgg2
 z2:=Tryz.sizeOf2
 v2:=Tryz.zeroValue2
 t3:=Tryz.underlying3
 a3:=Tryz.isAgg3
 z3:=Tryz.sizeOf3
 v3:=Tryz.zeroValue3
 t4:=Tryz.underlying4
 a4:=Tryz.isAgg4
 z4:=Tryz.sizeOf4
 v4:=Tryz.zeroValue4
 t5:=Tryz.underlying5
 a5:=Tryz.isAgg5
 z5:=Tryz.sizeOf5
 v5:=Tryz.zeroValue5
 t9:=Tryz.underlying9
 a9:=Tryz.isAgg9
 z9:=Tryz.sizeOf9
 v9:=Tryz.zeroValue9
 t20:=Tryz.underlying20
 a20:=Tryz.isAgg20
 z20:=Tryz.sizeOf20
 v20:=Tryz.zeroValue20
 t37:=Tryz.underlying66
 a37:=Tryz.isAgg66
 z37:=Tryz.sizeOf66
 v37:=Tryz.zeroValue66
 t46:=Tryz.underlying182
 a46:=Tryz.isAgg182
 z46:=Tryz.sizeOf182
 v46:=Tryz.zeroValue182
 t51:=Tryz.underlying98
 a51:=Tryz.isAgg98
 z51:=Tryz.sizeOf98
 v51:=Tryz.zeroValue98
 t53:=Tryz.underlying152
 a53:=Tryz.isAgg152
 z53:=Tryz.sizeOf152
 v53:=Tryz.zeroValue152
 t171:=Tryz.underlying151
 a171:=Tryz.isAgg151
 z171:=Tryz.sizeOf151
 v171:=Tryz.zeroValue151
 t173:=Tryz.underlying155
 a173:=Tryz.isAgg155
 z173:=Tryz.sizeOf155
 v173:=Tryz.zeroValue155
 t212:=Tryz.underlying180
 a212:=Tryz.isAgg180
 z212:=Tryz.sizeOf180
 v212:=Tryz.zeroValue180
 t213:=Tryz.underlying181
 a213:=Tryz.isAgg181
 z213:=Tryz.sizeOf181
 t232:=Tryz.underlying217
 a232:=Tryz.isAgg217
 z232:=Tryz.sizeOf217
 v232:=Tryz.zeroValue217
 t233:=Tryz.underlying218
 a233:=Tryz.isAgg218
 z233:=Tryz.sizeOf218
 v233:=Tryz.zeroValue218
 g17:=by kernel_rfl
 g18:=by kernel_rfl
 g19:=by kernel_rfl
 i0:=by kernel_rfl
 i2:=by kernel_rfl
 i3:=by kernel_rfl
 i4:=by kernel_rfl
 i5:=by kernel_rfl
 i9:=by kernel_rfl
 i20:=by kernel_rfl
 i37:=by kernel_rfl
 i46:=by kernel_rfl
 i51:=by kernel_rfl
 i53:=by kernel_rfl
 i171:=by kernel_rfl
 i173:=by kernel_rfl
 i212:=by kernel_rfl
 i232:=by kernel_rfl
 i233:=by kernel_rfl
 m17:=by kernel_rfl
 m18:=by kernel_rfl
 m19:=by kernel_rfl }
def Tryz.lays145_ren:Go.Shelf.Ren:=⟨fun | 145=>159 | 220=>162 | 219=>165 | 217=>173 | 225=>174 | 224=>175 | 267=>176 | 266=>181 | 314=>182 | n=>n,fun | 9=>9 | 4=>4 | 59=>222 | 3=>3 | 5=>5 | 46=>182 | 146=>236 | 51=>98 | n=>n,fun | 1=>3 | n=>n⟩
theorem Tryz.lays145:Go.Proofs.Lays.n145 Tryz.prog Tryz.lays145_ren:={
 mixed:=by kernel_rfl
 f145:=Tryz.func159.trans (congrArg some (by kernel_rfl))
 f217:=Tryz.func173.trans (congrArg some (by kernel_rfl))
 f219:=Tryz.func165.trans (congrArg some (by kernel_rfl))
 f220:=Tryz.func162.trans (congrArg some (by kernel_rfl))
 f224:=Tryz.func175.trans (congrArg some (by kernel_rfl))
 f225:=Tryz.func174.trans (congrArg some (by kernel_rfl))
 f266:=Tryz.func181.trans (congrArg some (by kernel_rfl))
 f267:=Tryz.func176.trans (congrArg some (by kernel_rfl))
 f314:=Tryz.func182.trans (congrArg some (by kernel_rfl))
 t3:=Tryz.underlying3
 a3:=Tryz.isAgg3
 z3:=Tryz.sizeOf3
 v3:=Tryz.zeroValue3
 t4:=Tryz.underlying4
 a4:=Tryz.isAgg4
 z4:=Tryz.sizeOf4
 v4:=Tryz.zeroValue4
 t5:=Tryz.underlying5
 a5:=Tryz.isAgg5
 z5:=Tryz.sizeOf5
 v5:=Tryz.zeroValue5
 t9:=Tryz.underlying9
 a9:=Tryz.isAgg9
 z9:=Tryz.sizeOf9
 v9:=Tryz.zeroValue9
 t46:=Tryz.underlying182
 a46:=Tryz.isAgg182
 z46:=Tryz.sizeOf182
 v46:=Tryz.zeroValue182
 t51:=Tryz.underlying98
 a51:=Tryz.isAgg98
 z51:=Tryz.sizeOf98
 v51:=Tryz.zeroValue98
 t59:=Tryz.underlying222
 a59:=Tryz.isAgg222
 z59:=Tryz.sizeOf222
 v59:=Tryz.zeroValue222
 t146:=Tryz.underlying236
 a146:=Tryz.isAgg236
 z146:=Tryz.sizeOf236
 v146:=Tryz.zeroValue236
 g1:=by kernel_rfl }
def Tryz.lays138_ren:Go.Shelf.Ren:=⟨fun | 138=>219 | 195=>220 | 218=>221 | 143=>222 | 219=>165 | 217=>173 | 225=>174 | 224=>175 | 267=>176 | 266=>181 | 314=>182 | n=>n,fun | 9=>9 | 3=>3 | 4=>4 | 5=>5 | 0=>0 | 46=>182 | 146=>236 | 51=>98 | n=>n,fun | 1=>3 | n=>n⟩
theorem Tryz.lays138:Go.Proofs.Lays.n138 Tryz.prog Tryz.lays138_ren:={
 mixed:=by kernel_rfl
 f138:=Tryz.func219.trans (congrArg some (by kernel_rfl))
 f143:=Tryz.func222.trans (congrArg some (by kernel_rfl))
 f195:=Tryz.func220.trans (congrArg some (by kernel_rfl))
 f217:=Tryz.func173.trans (congrArg some (by kernel_rfl))
 f218:=Tryz.func221.trans (congrArg some (by kernel_rfl))
 f219:=Tryz.func165.trans (congrArg some (by kernel_rfl))
 f224:=Tryz.func175.trans (congrArg some (by kernel_rfl))
 f225:=Tryz.func174.trans (congrArg some (by kernel_rfl))
 f266:=Tryz.func181.trans (congrArg some (by kernel_rfl))
 f267:=Tryz.func176.trans (congrArg some (by kernel_rfl))
 f314:=Tryz.func182.trans (congrArg some (by kernel_rfl))
 t0:=Tryz.underlying0
 a0:=Tryz.isAgg0
 z0:=Tryz.sizeOf0
 v0:=Tryz.zeroValue0
 t3:=Tryz.underlying3
 a3:=Tryz.isAgg3
 z3:=Tryz.sizeOf3
 v3:=Tryz.zeroValue3
 t4:=Tryz.underlying4
 a4:=Tryz.isAgg4
 z4:=Tryz.sizeOf4
 v4:=Tryz.zeroValue4
 t5:=Tryz.underlying5
 a5:=Tryz.isAgg5
 z5:=Tryz.sizeOf5
 v5:=Tryz.zeroValue5
 t9:=Tryz.underlying9
 a9:=Tryz.isAgg9
 z9:=Tryz.sizeOf9
 v9:=Tryz.zeroValue9
 t46:=Tryz.underlying182
 a46:=Tryz.isAgg182
 z46:=Tryz.sizeOf182
 v46:=Tryz.zeroValue182
 t51:=Tryz.underlying98
 a51:=Tryz.isAgg98
 z51:=Tryz.sizeOf98
 v51:=Tryz.zeroValue98
 t146:=Tryz.underlying236
 a146:=Tryz.isAgg236
 z146:=Tryz.sizeOf236
 v146:=Tryz.zeroValue236
 g1:=by kernel_rfl }
end Go.Proofs
namespace Go.Proofs.YtllnjbnknjpbjaaGreatDoor
open Go.X
variable {u:World} {m0:Mem} {S:Segs} {w:World}
set_option maxHeartbeats 4000000
set_option maxRecDepth 100000
def Glob (u:World):Prop:=∃ mx,u.cell? ⟨3,0,none⟩ = some (.int .i64 mx)
def qiv (R:Rp Part):Rp Case:=fun m cs x=>∃ c1,cs = [.string (bs x.Key),c1] ∧ x.Key.length ≤ LIMS ∧ (pL 6 R) m [c1] x.Parts
def qfW:Nat → Rp Part
 | 0=>fun _ _ _=>False
 | d + 1=>fun m cs x=>∃ c4 c5,cs = [.int .i64 x.Kind,.string (bs x.Text),.string (bs x.Name),.string (bs x.Style),c4,c5] ∧ InR .i64 x.Kind ∧ x.Text.length ≤ LIMS ∧ x.Name.length ≤ LIMS ∧ x.Style.length ≤ LIMS ∧ (pL 2 (qiv (qfW d))) m [c4] x.Cases ∧ (pL 6 (qfW d)) m [c5] x.Parts
def qbg:Rp Part:=fun m cs x=>∃ d,qfW d m cs x
def qdR:Rp Case:=fun m cs x=>∃ c1,cs = [.string (bs x.Key),c1] ∧ x.Key.length ≤ LIMS ∧ (pL 6 qbg) m [c1] x.Parts
theorem qhf {R R':Rp Part} {m:Mem} {cs:List Value} {x:Case} (hR:∀ {cs:List Value} {x:Part},R m cs x → R' m cs x) (h:qiv R m cs x):qiv R' m cs x:=by
 obtain ⟨c1,e,h0,h1⟩:=h
 exact ⟨c1,e,h0,qgQ (fun _ _ _ h=>hR h) h1⟩
theorem qh8:∀ (d:Nat) {m:Mem} {cs:List Value} {x:Part},qfW d m cs x → qfW (d + 1) m cs x
 | 0,_,_,_,h=>h.elim
 | d + 1,_,_,_,h=>by
  obtain ⟨c4,c5,e,h0,h1,h2,h3,h4,h5⟩:=h
  exact ⟨c4,c5,e,h0,h1,h2,h3,qgQ (fun _ _ _ h=>qhf (fun h=>qh8 d h) h) h4,qgQ (fun _ _ _ h=>qh8 d h) h5⟩
theorem qgU {d d':Nat} (hd:d ≤ d') {m:Mem} {cs:List Value} {x:Part} (h:qfW d m cs x):qfW d' m cs x:=by
 induction hd with
 | refl=>exact h
 | step _ ih=>exact qh8 _ ih
theorem qmO {m:Mem} {cs:List Value} {x:Case} (h:qdR m cs x):∃ d,qiv (qfW d) m cs x:=by
 obtain ⟨c1,e,h0,h1⟩:=h
 obtain ⟨d,hd⟩:=qkZ (fun d d' hd _ _ h=>qgU hd h) h1
 exact ⟨d,c1,e,h0,hd⟩
theorem qbp {m:Mem} {cs:List Value} {x:Part}:qbg m cs x ↔ (∃ c4 c5,cs = [.int .i64 x.Kind,.string (bs x.Text),.string (bs x.Name),.string (bs x.Style),c4,c5] ∧ InR .i64 x.Kind ∧ x.Text.length ≤ LIMS ∧ x.Name.length ≤ LIMS ∧ x.Style.length ≤ LIMS ∧ (pL 2 qdR) m [c4] x.Cases ∧ (pL 6 qbg) m [c5] x.Parts):=by
 constructor
 ·rintro ⟨d,h⟩
  cases d with
  | zero=>exact h.elim
  | succ d =>
   obtain ⟨c4,c5,e,h0,h1,h2,h3,h4,h5⟩:=h
   exact ⟨c4,c5,e,h0,h1,h2,h3,qgQ (fun _ _ _ h=>qhf (R':=qbg) (fun h=>⟨d,h⟩) h) h4,qgQ (fun _ _ _ h=>⟨d,h⟩) h5⟩
 ·rintro ⟨c4,c5,e,h0,h1,h2,h3,h4,h5⟩
  obtain ⟨d4,g4⟩:=qkZ (P:=fun d=>qiv (qfW d)) (fun d d' hd _ _ h=>qhf (fun h=>qgU hd h) h) (qgQ (fun _ _ _ h=>qmO h) h4)
  obtain ⟨d5,g5⟩:=qkZ (fun d d' hd _ _ h=>qgU hd h) h5
  exact ⟨d4 + d5 + 1,c4,c5,e,h0,h1,h2,h3,qgQ (fun _ _ _ h=>qhf (fun h=>qgU (by omega) h) h) g4,qgQ (fun _ _ _ h=>qgU (by omega) h) g5⟩
theorem qlP {R:Rp Part} (M:Mono R):Mono (qiv R):=⟨fun hm h=>by
 obtain ⟨c1,e,h0,h1⟩:=h
 exact ⟨c1,e,h0,(mL M).up hm h1⟩,fun h=>by
 obtain ⟨c1,rfl,h0,h1⟩:=h
 exact ⟨rfl,((mL M).one h1).1,trivial⟩⟩
theorem qif:∀ d,Mono (qfW d)
 | 0=>⟨fun _ h=>h.elim,fun h=>h.elim⟩
 | d + 1=>⟨fun hm h=>by
  obtain ⟨c4,c5,e,h0,h1,h2,h3,h4,h5⟩:=h
  exact ⟨c4,c5,e,h0,h1,h2,h3,(mL (qlP (qif d))).up hm h4,(mL (qif d)).up hm h5⟩,fun h=>by
  obtain ⟨c4,c5,rfl,h0,h1,h2,h3,h4,h5⟩:=h
  exact ⟨rfl,rfl,rfl,rfl,((mL (qlP (qif d))).one h4).1,((mL (qif d)).one h5).1,trivial⟩⟩
theorem qak:Mono qbg:=⟨fun hm ⟨d,h⟩=>⟨d,(qif d).up hm h⟩,fun ⟨d,h⟩=>(qif d).one h⟩
theorem qaG:Mono qdR:=qlP qak
def qk0:Rp Number:=fun _ cs x=>cs = [.bool x.negative,.string (bs x.whole),.string (bs x.fraction)] ∧ x.whole.length ≤ LIMS ∧ x.fraction.length ≤ LIMS
theorem qih:aggB Tryz.prog 128 1 = true:=by kernel_rfl
theorem qa9:aggB Tryz.prog 214 3 = true:=by kernel_rfl
theorem qdJ:aggB Tryz.prog 82 6 = true:=by kernel_rfl
theorem qkh:aggB Tryz.prog 85 2 = true:=by kernel_rfl
theorem qhQ:qaO Tryz.prog 128 0 0 = true:=by kernel_rfl
theorem qnN:qaO Tryz.prog 214 1 1 = true:=by kernel_rfl
theorem qn3:qaO Tryz.prog 214 2 2 = true:=by kernel_rfl
theorem qjK:qaO Tryz.prog 68 0 0 = true:=by kernel_rfl
theorem qjC:qaO Tryz.prog 68 1 1 = true:=by kernel_rfl
theorem qaH:qaO Tryz.prog 82 0 0 = true:=by kernel_rfl
theorem qep:qaO Tryz.prog 82 1 1 = true:=by kernel_rfl
theorem qa2:qaO Tryz.prog 82 2 2 = true:=by kernel_rfl
theorem qbc:qaO Tryz.prog 82 3 3 = true:=by kernel_rfl
theorem qcj:qaO Tryz.prog 82 4 4 = true:=by kernel_rfl
theorem qcV:qaO Tryz.prog 82 5 5 = true:=by kernel_rfl
theorem qgE:qaO Tryz.prog 85 0 0 = true:=by kernel_rfl
theorem qiw:qaO Tryz.prog 85 1 1 = true:=by kernel_rfl
theorem qkp:goB Tryz.prog 113 = true:=by kernel_rfl
theorem qpK:goB Tryz.prog 114 = true:=by kernel_rfl
theorem qpf:goB Tryz.prog 115 = true:=by kernel_rfl
theorem qpx:goB Tryz.prog 116 = true:=by kernel_rfl
theorem qpA:goB Tryz.prog 133 = true:=by kernel_rfl
theorem qnf:goB Tryz.prog 134 = true:=by kernel_rfl
theorem qpM:goB Tryz.prog 135 = true:=by kernel_rfl
theorem qpq:goB Tryz.prog 136 = true:=by kernel_rfl
theorem qpw:goB Tryz.prog 150 = true:=by kernel_rfl
theorem qpF:goB Tryz.prog 159 = true:=by kernel_rfl
theorem qju:goB Tryz.prog 160 = true:=by kernel_rfl
theorem qka:goB Tryz.prog 161 = true:=by kernel_rfl
theorem qmY:goB Tryz.prog 163 = true:=by kernel_rfl
theorem qnx:goB Tryz.prog 164 = true:=by kernel_rfl
theorem qiP:goB Tryz.prog 38 = true:=by kernel_rfl
theorem qom:goB Tryz.prog 39 = true:=by kernel_rfl
theorem qp9:goB Tryz.prog 49 = true:=by kernel_rfl
theorem qh2:goB Tryz.prog 51 = true:=by kernel_rfl
theorem qov:goB Tryz.prog 55 = true:=by kernel_rfl
theorem qls:goB Tryz.prog 67 = true:=by kernel_rfl
theorem qmQ:goB Tryz.prog 68 = true:=by kernel_rfl
theorem qpT:goB Tryz.prog 90 = true:=by kernel_rfl
theorem qop:goB Tryz.prog 91 = true:=by kernel_rfl
theorem qp3:goB Tryz.prog 92 = true:=by kernel_rfl
theorem qpZ:goB Tryz.prog 93 = true:=by kernel_rfl
theorem qoV:∃ i,Tryz.prog.info? 128 = some i ∧ i.size = 1:=⟨_,rfl,by kernel_rfl⟩
theorem qb9:∃ i,Tryz.prog.info? 214 = some i ∧ i.size = 3:=⟨_,rfl,by kernel_rfl⟩
theorem qpH:∃ i,Tryz.prog.info? 65 = some i ∧ i.size = 1:=⟨_,rfl,by kernel_rfl⟩
theorem qng:∃ i,Tryz.prog.info? 66 = some i ∧ i.size = 1:=⟨_,rfl,by kernel_rfl⟩
theorem qpC:∃ i,Tryz.prog.info? 68 = some i ∧ i.size = 2:=⟨_,rfl,by kernel_rfl⟩
theorem qfy:∃ i,Tryz.prog.info? 82 = some i ∧ i.size = 6:=⟨_,rfl,by kernel_rfl⟩
theorem qkj:∃ i,Tryz.prog.info? 85 = some i ∧ i.size = 2:=⟨_,rfl,by kernel_rfl⟩
theorem qcv:∃ i,Tryz.prog.info? 9 = some i ∧ i.size = 1:=⟨_,rfl,by kernel_rfl⟩
theorem qmp:∃ i,Tryz.prog.info? 68 = some i:=⟨_,rfl⟩
theorem qoG:liesAt Tryz.prog Tryz.prog.depth 68 (2 / Tryz.prog.cellsOf 68) 0 68 1 = true:=by kernel_rfl
theorem qic:oneB Tryz.prog 126 = true:=by kernel_rfl
theorem qcW:oneB Tryz.prog 22 = true:=by kernel_rfl
theorem qaq:oneB Tryz.prog 3 = true:=by kernel_rfl
theorem qlU:oneB Tryz.prog 65 = true:=by kernel_rfl
theorem qnd:oneB Tryz.prog 66 = true:=by kernel_rfl
theorem qdu:oneB Tryz.prog 80 = true:=by kernel_rfl
theorem qao:oneB Tryz.prog 9 = true:=by kernel_rfl
theorem qmM:qdz Tryz.prog 128 = some [(0,1)]:=by kernel_rfl
theorem qmU:qdz Tryz.prog 214 = some [(0,1),(1,1),(2,1)]:=by kernel_rfl
theorem qeT:qdz Tryz.prog 82 = some [(0,1),(1,1),(2,1),(3,1),(4,1),(5,1)]:=by kernel_rfl
theorem qb5:SlT Tryz.prog 22 82 6:=SlT.of (by kernel_rfl)
theorem qex:SlT Tryz.prog 66 5 1:=SlT.of (by kernel_rfl)
theorem qcK:SlT Tryz.prog 80 85 2:=SlT.of (by kernel_rfl)
theorem qmu:qlt Tryz.prog 4 = some (vb false):=by kernel_rfl
theorem qlO:qbX Tryz.prog 128 = some [(Value.map none)]:=by kernel_rfl
theorem qiI:qbX Tryz.prog 214 = some [vb false,(vs ([])),(vs ([]))]:=by kernel_rfl
theorem qdN:qbX Tryz.prog 5 = some [(Value.int .u8 0)]:=by kernel_rfl
theorem qmE:qbX Tryz.prog 68 = some [(Value.pointer none),(Value.slice none 0 0)]:=by kernel_rfl
theorem qby:qbX Tryz.prog 82 = some [vi 0,(vs ([])),(vs ([])),(vs ([])),(Value.slice none 0 0),(Value.slice none 0 0)]:=by kernel_rfl
theorem qdl:qbX Tryz.prog 85 = some [(vs ([])),(Value.slice none 0 0)]:=by kernel_rfl
def qjh (u:World) (m0:Mem) (S:Segs) (r:Bool) (a:Act) (w:World):Prop :=
 Ok u m0 S w ∧ a.defers = [] ∧ RVs Tryz.prog a w [.t 2 (.bool r)]
theorem qci (N:Nat) (kind_0:Int) (rkind_0:InR .i64 kind_0) {r:Bool} (hF:qb6 N kind_0 = some r) (hG:Glob u) (ok:Ok u m0 S w) :
  Calls Tryz.prog 51 [vi kind_0].toArray w fun e w'=>(e = .returned (.bool r) ∧ Ok u m0 S w'):=by
 unfold qb6 at hF
 refine en (qjh u m0 S) r Tryz.func51 rfl rfl rfl (fun _ _ h=>ra h rfl) fun fin a E=>sg<|aw E rfl fun a E=>sg<|mv E rfl fun a E=>lw E (qbK rfl rfl) fun a E=>mv E rfl fun a E=>bu E 5 hF (fun c1 hF E=>?_) fun c1 hF E=>?_
 ·refine mv E rfl fun a E=>lw E (qcC rfl rfl) fun a E=>pt E rfl rfl fun a E=>aw E rfl fun a E=>wp_ret ?_
  exact fin hF ⟨ok,E.d,rz E rfl⟩
 refine lsq E fun a E=>pf E rfl rfl fun a E=>aw E rfl fun a E=>wp_ret ?_
 exact fin hF ⟨ok,E.d,rz E rfl⟩
def qk1 (u:World) (m0:Mem) (S:Segs) (r:Bool) (a:Act) (w:World):Prop :=
 Ok u m0 S w ∧ a.defers = [] ∧ RVs Tryz.prog a w [.t 2 (.bool r)]
theorem qkP (N:Nat) (c_0:Int) (rc_0:InR .u8 c_0) {r:Bool} (hF:qhR N c_0 = some r) (hG:Glob u) (ok:Ok u m0 S w) :
  Calls Tryz.prog 133 [Value.int .u8 c_0].toArray w fun e w'=>(e = .returned (.bool r) ∧ Ok u m0 S w'):=by
 unfold qhR at hF
 refine en (qk1 u m0 S) r Tryz.func133 rfl rfl rfl (fun _ _ h=>ra h rfl) fun fin a E=>sg<|aw E rfl fun a E=>sg<|mv E rfl fun a E=>lw E (qbK rfl rfl) fun a E=>mv E rfl fun a E=>bw E 5 hF (fun c1 hF E=>?_) fun c1 hF E=>?_
 ·as_aux_lemma =>
   refine lsq E fun a E=>pf E rfl rfl fun a E=>mz E rfl rfl fun a E=>lw E (qbK rfl rfl) fun a E=>mv E rfl fun a E=>bw E 12 hF (fun c7 hF E=>?_) fun c7 hF E=>?_
   ·refine lsq E fun a E=>pf E rfl rfl fun a E=>pf E rfl rfl fun a E=>mz E rfl rfl fun a E=>lw E (qbK rfl rfl) fun a E=>mv E rfl fun a E=>bu E 20 hF (fun c10 hF E=>?_) fun c10 hF E=>?_
    ·refine mv E rfl fun a E=>lw E (qcC rfl rfl) fun a E=>pt E rfl rfl fun a E=>pf E rfl rfl fun a E=>aw E rfl fun a E=>wp_ret ?_
     exact fin hF ⟨ok,E.d,rz E rfl⟩
    refine lsq E fun a E=>pf E rfl rfl fun a E=>pf E rfl rfl fun a E=>aw E rfl fun a E=>wp_ret ?_
    exact fin hF ⟨ok,E.d,rz E rfl⟩
   refine mv E rfl fun a E=>lw E (qcC rfl rfl) fun a E=>pt E rfl rfl fun a E=>pf E rfl rfl fun a E=>mv E rfl fun a E=>bu E 17 hF (fun c8 hF E=>?_) fun c8 hF E=>?_
   ·refine lsz E fun a E=>lsq E fun a E=>pt E rfl rfl fun a E=>av E rfl fun a E=>wn<|wp_ret ?_
    exact fin hF ⟨ok,E.d,rz E rfl⟩
   refine mv E rfl fun a E=>lw E (qbK rfl rfl) fun a E=>mv E rfl fun a E=>bu E 20 hF (fun c9 hF E=>?_) fun c9 hF E=>?_
   ·refine mv E rfl fun a E=>lw E (qcC rfl rfl) fun a E=>pt E rfl rfl fun a E=>pf E rfl rfl fun a E=>aw E rfl fun a E=>wp_ret ?_
    exact fin hF ⟨ok,E.d,rz E rfl⟩
   refine lsq E fun a E=>pf E rfl rfl fun a E=>pf E rfl rfl fun a E=>aw E rfl fun a E=>wp_ret ?_
   exact fin hF ⟨ok,E.d,rz E rfl⟩
 refine mv E rfl fun a E=>lw E (qcC rfl rfl) fun a E=>pt E rfl rfl fun a E=>mv E rfl fun a E=>bu E 9 hF (fun c2 hF E=>?_) fun c2 hF E=>?_
 ·refine lsz E fun a E=>lsq E fun a E=>pt E rfl rfl fun a E=>mv E rfl fun a E=>lsz E fun a E=>lsq E fun a E=>pt E rfl rfl fun a E=>av E rfl fun a E=>?_
  refine wn<|wp_ret ?_
  exact fin hF ⟨ok,E.d,rz E rfl⟩
 refine mv E rfl fun a E=>lw E (qbK rfl rfl) fun a E=>mv E rfl fun a E=>bw E 12 hF (fun c3 hF E=>?_) fun c3 hF E=>?_
 ·refine lsq E fun a E=>pf E rfl rfl fun a E=>pf E rfl rfl fun a E=>mz E rfl rfl fun a E=>lw E (qbK rfl rfl) fun a E=>mv E rfl fun a E=>bu E 20 hF (fun c6 hF E=>?_) fun c6 hF E=>?_
  ·refine mv E rfl fun a E=>lw E (qcC rfl rfl) fun a E=>pt E rfl rfl fun a E=>pf E rfl rfl fun a E=>aw E rfl fun a E=>wp_ret ?_
   exact fin hF ⟨ok,E.d,rz E rfl⟩
  refine lsq E fun a E=>pf E rfl rfl fun a E=>pf E rfl rfl fun a E=>aw E rfl fun a E=>wp_ret ?_
  exact fin hF ⟨ok,E.d,rz E rfl⟩
 refine mv E rfl fun a E=>lw E (qcC rfl rfl) fun a E=>pt E rfl rfl fun a E=>pf E rfl rfl fun a E=>mv E rfl fun a E=>bu E 17 hF (fun c4 hF E=>?_) fun c4 hF E=>?_
 ·refine lsz E fun a E=>lsq E fun a E=>pt E rfl rfl fun a E=>av E rfl fun a E=>wn<|wp_ret ?_
  exact fin hF ⟨ok,E.d,rz E rfl⟩
 refine mv E rfl fun a E=>lw E (qbK rfl rfl) fun a E=>mv E rfl fun a E=>bu E 20 hF (fun c5 hF E=>?_) fun c5 hF E=>?_
 ·refine mv E rfl fun a E=>lw E (qcC rfl rfl) fun a E=>pt E rfl rfl fun a E=>pf E rfl rfl fun a E=>aw E rfl fun a E=>wp_ret ?_
  exact fin hF ⟨ok,E.d,rz E rfl⟩
 refine lsq E fun a E=>pf E rfl rfl fun a E=>pf E rfl rfl fun a E=>aw E rfl fun a E=>wp_ret ?_
 exact fin hF ⟨ok,E.d,rz E rfl⟩
def qjz (u:World) (m0:Mem) (S:Segs) (r:Bool) (a:Act) (w:World):Prop :=
 Ok u m0 S w ∧ a.defers = [] ∧ RVs Tryz.prog a w [.t 2 (.bool r)]
theorem qgp (N:Nat) (s_0:List UInt8) (ls_0:s_0.length ≤ LIMS) {r:Bool} (hF:qfB N s_0 = some r) (hG:Glob u) (ok:Ok u m0 S w) :
  Calls Tryz.prog 113 [vs s_0].toArray w fun e w'=>(e = .returned (.bool r) ∧ Ok u m0 S w'):=by
 unfold qfB at hF
 refine en (qjz u m0 S) r Tryz.func113 rfl rfl rfl (fun _ _ h=>ra h rfl) fun fin a E=>sg<|aw E rfl fun a E=>wp_seq<|sg<|mv E rfl fun a E=>lw E (qbm rfl rfl) fun a E=>mv E rfl fun a E=>bu E 6 hF (fun c1 hF E=>?_) fun c1 hF E=>?_
 ·refine lsq E fun a E=>ls E fun a E=>pt E rfl rfl fun a E=>mv E rfl fun a E=>lsq E fun a E=>ls E fun a E=>pt E rfl rfl fun a E=>mv E rfl fun a E=>lsq E fun a E=>ls E fun a E=>pt E rfl rfl fun a E=>wn<|c_if E rfl (fun _=>?_) (fun h=>by cases h)
  refine sg<|aw E rfl fun a E=>wp_ret<|qam ?_
  exact fin hF ⟨ok,E.d,rz E rfl⟩
 refine mv E rfl fun a E=>lw E (qaJ Tryz.underlying9 rfl) fun a E=>lw E (qbD rfl rfl) fun a E=>pf E rfl rfl fun a E=>mv E rfl fun a E=>bu E 11 hF (fun c2 hF E=>?_) fun c2 hF E=>?_
 ·refine lsq E fun a E=>ls E fun a E=>pt E rfl rfl fun a E=>mv E rfl fun a E=>lsq E fun a E=>ls E fun a E=>pt E rfl rfl fun a E=>wn<|c_if E rfl (fun _=>?_) (fun h=>by cases h)
  refine sg<|aw E rfl fun a E=>wp_ret<|qam ?_
  exact fin hF ⟨ok,E.d,rz E rfl⟩
 refine mv E rfl fun a E=>bd hF fun c3 e4 hF=>lv E ok (qaD Tryz.underlying9 rfl rfl e4) fun a E=>lw E (qaS rfl rfl) fun a E=>pf E rfl rfl fun a E=>mv E rfl fun a E=>bu E 16 hF (fun c5 hF E=>?_) fun c5 hF E=>?_
 ·refine lsq E fun a E=>ls E fun a E=>pt E rfl rfl fun a E=>wn<|c_if E rfl (fun _=>?_) (fun h=>by cases h)
  refine sg<|aw E rfl fun a E=>wp_ret<|qam ?_
  exact fin hF ⟨ok,E.d,rz E rfl⟩
 refine mv E rfl fun a E=>bd hF fun c6 e7 hF=>lv E ok (qaD Tryz.underlying9 rfl rfl e7) fun a E=>lw E (qbD rfl rfl) fun a E=>pf E rfl rfl fun a E=>wn<|cf E rfl hF (fun c8 hF=>?_) fun c8 hF=>?_
 ·refine sg<|aw E rfl fun a E=>wp_ret<|qam ?_
  exact fin hF ⟨ok,E.d,rz E rfl⟩
 refine wp_skip<|qaa<|wp_seq<|sg<|mv E rfl fun a E=>lw E (qaJ Tryz.underlying9 rfl) fun a E=>mv E rfl fun a E=>wn<|wp_block<|bd hF fun o10 hL hF=>qa6 _ (fun (s:Int) a w=>Ok u m0 (S) w ∧ Env 44 a [(0,vs s_0),(22,(vi (s_0.length:Int))),(23,vi s)] ∧ InR .i64 s) (fun (b:(Unit ⊕ Bool)) e a w=>(Sum.elim (fun b26=>e = (.exit 0) ∧ Ok u m0 (S) w ∧ Env 44 a []) (fun b27=>e = .ret ∧ qjz u m0 S b27 a w)) b) ?_ ?_ N _ a w hL ⟨ok,E.keep [0,22,23],(ir 0)⟩
 rotate_left
 ·intro e a w _ hO
  rcases o10 with o10 | o10
  rotate_left
  ·obtain ⟨rfl,hret⟩:=hO
   refine qaL<|qam ?_
   exact fin hF hret
  have hF:=qb4 hF
  obtain ⟨rfl,ok,E⟩:=hO
  refine qbf<|qaa<|sg<|aw E rfl fun a E=>wp_ret ?_
  exact fin hF ⟨ok,E.d,rz E rfl⟩
 rintro v12 a w r ⟨ok,E,r13⟩ hF
 replace hF:qg4 N s_0 v12 = some r:=hF
 unfold qg4 at hF
 refine sg<|lw E (qaS rfl rfl) fun a E=>wn<|wp_seq<|cg E rfl hF (fun c14 hF=>?_) fun c14 hF=>?_
 ·refine wp_exit<|qaX ?_
  cases hF
  exact so (sl ⟨rfl,⟨ok,E.keep []⟩⟩)
 refine wp_skip<|qaa<|wp_seq<|wp_block<|sg<|mv E rfl fun a E=>av E rfl fun a E=>wn<|sg<|mz E rfl rfl fun a E=>bd hF fun c15 e16 hF=>lv E ok (qaD Tryz.underlying9 rfl rfl e16) fun a E=>bd hF fun r17 e18 hF=>lc E qpA rfl (qkP N (c15.toNat:Int) (InR.byte c15) e18 hG ok) fun w ok a E=>lw E (qbh rfl) fun a E=>mv E rfl fun a E=>bw E 31 hF (fun c19 hF E=>?_) fun c19 hF E=>?_
 ·refine lsz E fun a E=>pf E rfl rfl fun a E=>mv E rfl fun a E=>lsz E fun a E=>pf E rfl rfl fun a E=>wn<|c_if E rfl (fun h=>by cases h) (fun _=>?_)
  refine wp_skip<|qag<|qaa<|qab<|lw E (qaC rfl rfl (InR.inc r13 (InR.len ls_0) c14)) fun a E=>mv E rfl fun a E=>wpList_nil ?_
  cases hF
  exact qat ⟨ok,E.keep [0,22,23],(InR.inc r13 (InR.len ls_0) c14)⟩
 refine mz E rfl rfl fun a E=>bd hF fun c20 e21 hF=>lv E ok (qaD Tryz.underlying9 rfl rfl e21) fun a E=>lw E (qbj rfl rfl) fun a E=>pt E rfl rfl fun a E=>mv E rfl fun a E=>bw E 37 hF (fun c22 hF E=>?_) fun c22 hF E=>?_
 ·refine lsz E fun a E=>pf E rfl rfl fun a E=>wn<|c_if E rfl (fun h=>by cases h) (fun _=>?_)
  refine wp_skip<|qag<|qaa<|qab<|lw E (qaC rfl rfl (InR.inc r13 (InR.len ls_0) c14)) fun a E=>mv E rfl fun a E=>wpList_nil ?_
  cases hF
  exact qat ⟨ok,E.keep [0,22,23],(InR.inc r13 (InR.len ls_0) c14)⟩
 refine mz E rfl rfl fun a E=>bd hF fun c23 e24 hF=>lv E ok (qaD Tryz.underlying9 rfl rfl e24) fun a E=>lw E (qbj rfl rfl) fun a E=>pt E rfl rfl fun a E=>wn<|cg E rfl hF (fun c25 hF=>?_) fun c25 hF=>?_
 ·refine wp_skip<|qag<|qaa<|qab<|lw E (qaC rfl rfl (InR.inc r13 (InR.len ls_0) c14)) fun a E=>mv E rfl fun a E=>wpList_nil ?_
  cases hF
  exact qat ⟨ok,E.keep [0,22,23],(InR.inc r13 (InR.len ls_0) c14)⟩
 refine sg<|aw E rfl fun a E=>wp_ret<|qaL<|qam ?_
 cases hF
 exact so (sr ⟨rfl,⟨ok,E.d,rz E rfl⟩⟩)
def qhc (u:World) (m0:Mem) (S:Segs) (r:Bool) (a:Act) (w:World):Prop :=
 Ok u m0 S w ∧ a.defers = [] ∧ RVs Tryz.prog a w [.t 2 (.bool r)]
theorem qjQ (N:Nat) (s_0:List UInt8) (ls_0:s_0.length ≤ LIMS) {r:Bool} (hF:qgk N s_0 = some r) (hG:Glob u) (ok:Ok u m0 S w) :
  Calls Tryz.prog 114 [vs s_0].toArray w fun e w'=>(e = .returned (.bool r) ∧ Ok u m0 S w'):=by
 unfold qgk at hF
 refine en (qhc u m0 S) r Tryz.func114 rfl rfl rfl (fun _ _ h=>ra h rfl) fun fin a E=>sg<|aw E rfl fun a E=>wp_seq<|sg<|mv E rfl fun a E=>lw E (qaJ Tryz.underlying9 rfl) fun a E=>mv E rfl fun a E=>wn<|wp_block<|bd hF fun o2 hL hF=>qa6 _ (fun (s:Int) a w=>Ok u m0 (S) w ∧ Env 35 a [(0,vs s_0),(6,(vi (s_0.length:Int))),(7,vi s)] ∧ InR .i64 s) (fun (b:(Unit ⊕ Bool)) e a w=>(Sum.elim (fun b16=>e = (.exit 0) ∧ Ok u m0 (S) w ∧ Env 35 a [(0,vs s_0)]) (fun b17=>e = .ret ∧ qhc u m0 S b17 a w)) b) ?_ ?_ N _ a w hL ⟨ok,E.keep [0,6,7],(ir 0)⟩
 rotate_left
 ·intro e a w _ hO
  rcases o2 with o2 | o2
  rotate_left
  ·obtain ⟨rfl,hret⟩:=hO
   refine qaL<|qam ?_
   exact fin hF hret
  have hF:=qb4 hF
  obtain ⟨rfl,ok,E⟩:=hO
  refine qbf<|qaa<|sg<|mv E rfl fun a E=>lw E (qcP rfl rfl) fun a E=>mv E rfl fun a E=>bu E 30 hF (fun c15 hF E=>?_) fun c15 hF E=>?_
  ·refine mv E rfl fun a E=>lw E (qaJ Tryz.underlying9 rfl) fun a E=>lw E (qcC rfl rfl) fun a E=>pt E rfl rfl fun a E=>aw E rfl fun a E=>wp_ret ?_
   exact fin hF ⟨ok,E.d,rz E rfl⟩
  refine lsq E fun a E=>ls E fun a E=>pf E rfl rfl fun a E=>aw E rfl fun a E=>wp_ret ?_
  exact fin hF ⟨ok,E.d,rz E rfl⟩
 rintro v4 a w r ⟨ok,E,r5⟩ hF
 replace hF:qfv N s_0 v4 = some r:=hF
 unfold qfv at hF
 refine sg<|lw E (qaS rfl rfl) fun a E=>wn<|wp_seq<|cg E rfl hF (fun c6 hF=>?_) fun c6 hF=>?_
 ·refine wp_exit<|qaX ?_
  cases hF
  exact so (sl ⟨rfl,⟨ok,E.keep [0]⟩⟩)
 refine wp_skip<|qaa<|wp_seq<|wp_block<|sg<|mv E rfl fun a E=>av E rfl fun a E=>wn<|sg<|mz E rfl rfl fun a E=>bd hF fun c7 e8 hF=>lv E ok (qaD Tryz.underlying9 rfl rfl e8) fun a E=>aw E rfl fun a E=>wp_seq<|bd hF fun o9 hJ hF=>qaK (Q':=fun e a w=>e = .normal ∧ Ok u m0 (S) w ∧ Env 35 a [(0,vs s_0),(6,(vi (s_0.length:Int))),(7,vi v4),(26,vb o9)]) ?_ ?_
 rotate_left
 ·intro e a w hO
  obtain ⟨rfl,ok,E⟩:=hO
  refine qaa<|cg E rfl hF (fun c14 hF=>?_) fun c14 hF=>?_
  ·refine wp_skip<|qag<|qaa<|qab<|lw E (qaC rfl rfl (InR.inc r5 (InR.len ls_0) c6)) fun a E=>mv E rfl fun a E=>wpList_nil ?_
   cases hF
   exact qat ⟨ok,E.keep [0,6,7],(InR.inc r5 (InR.len ls_0) c6)⟩
  refine sg<|aw E rfl fun a E=>wp_ret<|qaL<|qam ?_
  cases hF
  exact so (sr ⟨rfl,⟨ok,E.d,rz E rfl⟩⟩)
 have hF:=hJ
 refine qab<|mv E rfl fun a E=>lw E (qaS rfl rfl) fun a E=>mv E rfl fun a E=>bu E 15 hF (fun c10 hF E=>?_) fun c10 hF E=>?_
 ·refine lsq E fun a E=>pt E rfl rfl fun a E=>mz E rfl rfl fun a E=>lw E (qaS rfl rfl) fun a E=>mv E rfl fun a E=>bu E 22 hF (fun c11 hF E=>?_) fun c11 hF E=>?_
  ·refine lsq E fun a E=>pt E rfl rfl fun a E=>pt E rfl rfl fun a E=>wpList_nil ?_
   cases hF
   exact ⟨rfl,⟨ok,E.keep [0,6,7,26]⟩⟩
  refine mv E rfl fun a E=>lw E (qbD rfl rfl) fun a E=>pf E rfl rfl fun a E=>pt E rfl rfl fun a E=>wpList_nil ?_
  cases hF
  exact ⟨rfl,⟨ok,E.keep [0,6,7,26]⟩⟩
 refine mv E rfl fun a E=>lw E (qbD rfl rfl) fun a E=>pf E rfl rfl fun a E=>mv E rfl fun a E=>bw E 19 hF (fun c12 hF E=>?_) fun c12 hF E=>?_
 ·refine lsz E fun a E=>lsq E fun a E=>pf E rfl rfl fun a E=>wpList_nil ?_
  cases hF
  exact ⟨rfl,⟨ok,E.keep [0,6,7,26]⟩⟩
 refine mv E rfl fun a E=>lw E (qaS rfl rfl) fun a E=>mv E rfl fun a E=>bu E 22 hF (fun c13 hF E=>?_) fun c13 hF E=>?_
 ·refine lsq E fun a E=>pt E rfl rfl fun a E=>pt E rfl rfl fun a E=>wpList_nil ?_
  cases hF
  exact ⟨rfl,⟨ok,E.keep [0,6,7,26]⟩⟩
 refine mv E rfl fun a E=>lw E (qbD rfl rfl) fun a E=>pf E rfl rfl fun a E=>pt E rfl rfl fun a E=>wpList_nil ?_
 cases hF
 exact ⟨rfl,⟨ok,E.keep [0,6,7,26]⟩⟩
def qks (u:World) (m0:Mem) (S:Segs) (r:Bool) (a:Act) (w:World):Prop :=
 Ok u m0 S w ∧ a.defers = [] ∧ RVs Tryz.prog a w [.t 2 (.bool r)]
theorem qj6 (N:Nat) (vx_0:List Value) (x_0:Part) (hx_0:qbg m0 vx_0 x_0) {r:Bool} (hF:qg5 N x_0 = some r) (hG:Glob u) (ok:Ok u m0 S w) :
  Calls Tryz.prog 90 [.agg vx_0.toArray].toArray w fun e w'=>(e = .returned (.bool r) ∧ Ok u m0 S w'):=by
 obtain ⟨c5,c7,rfl,r1,l2,l3,l4,h6,h8⟩:=(qbp.1 hx_0)
 have le_m0:=Mem.le.refl m0
 unfold qg5 at hF
 refine en (qks u m0 S) r Tryz.func90 rfl rfl rfl (fun _ _ h=>ra h rfl) fun fin a E=>sg<|qdV E ok rfl rfl rfl fun b9 a w E ok=>aw E rfl fun a E=>sg<|fk E ok qaH qaq rfl 0 rfl rfl fun a E=>lw E (qau (ps:=[(0,.tmp 6)]) (qs:=[(0,[vi x_0.Kind])]) (cs:=[vi x_0.Kind,(vs ([])),(vs ([])),(vs ([])),(Value.slice none 0 0),(Value.slice none 0 0)]) qby qeT rfl ⟨rfl,rfl,rfl,trivial⟩ rfl) fun a E=>qa3 E ok qby rfl rfl fun b10 a w E ok=>qad E ok 0 rfl rfl rfl qfy rfl rfl ⟨rfl,rfl,rfl,rfl,rfl,rfl,trivial⟩ rfl rfl fun w ok=>wn<|sg<|aw E rfl fun a E=>wp_seq<|sg<|fk E ok qaH qaq rfl 1 rfl rfl fun a E=>wn<|wp_block<|sg<|lw E (qap rfl rfl) fun a E=>?_
 refine aw E rfl fun a E=>bd hF fun o11 hJ hF=>qaK (Q':=fun e a w=>e = .normal ∧ Ok u m0 ([(b10,oc 82 [vi o11.2.Kind,vs o11.2.Text,vs o11.2.Name,vs o11.2.Style,(Value.slice none 0 0),(Value.slice none 0 0)])] :: [(b9,oc 82 [vi x_0.Kind,vs x_0.Text,vs x_0.Name,vs x_0.Style,c5,c7])] :: S) w ∧ Env 136 a [(1,vp b9),(3,vp b10),(4,vb o11.1)] ∧ InR .i64 o11.2.Kind ∧ o11.2.Text.length ≤ LIMS ∧ o11.2.Name.length ≤ LIMS ∧ o11.2.Style.length ≤ LIMS) ?_ ?_
 ·as_aux_lemma =>
   have hF:=hJ
   refine cf E rfl hF (fun c16 hF=>?_) fun c16 hF=>?_
   ·refine sg<|fk E ok qep qao rfl 1 rfl rfl fun a E=>fv E qep rfl fun a E=>qad E ok 0 rfl rfl rfl qcv rfl rfl ⟨rfl,trivial⟩ rfl rfl fun w ok=>wn<|qab<|fk E ok qep qao rfl 1 rfl rfl fun a E=>lw E (qcP rfl rfl) fun a E=>av E rfl fun a E=>wpList_nil ?_
    cases hF
    exact ⟨rfl,⟨ok,E.keep [1,3,4],r1,l2,(Nat.zero_le _),(Nat.zero_le _)⟩⟩
   refine wp_seq<|sg<|lw E (qap rfl rfl) fun a E=>aw E rfl fun a E=>bd hF fun o17 hJ hF=>qaK (Q':=fun e a w=>e = .normal ∧ Ok u m0 ([(b10,oc 82 [vi x_0.Kind,(vs ([])),(vs ([])),(vs ([])),(Value.slice none 0 0),(Value.slice none 0 0)])] :: [(b9,oc 82 [vi x_0.Kind,vs x_0.Text,vs x_0.Name,vs x_0.Style,c5,c7])] :: S) w ∧ Env 136 a [(1,vp b9),(3,vp b10),(4,vb true),(9,vi x_0.Kind),(18,vb o17)]) ?_ ?_
   ·have hF:=hJ
    refine cf E rfl hF (fun c18 hF=>?_) fun c18 hF=>?_
    ·refine wp_skip ?_
     cases hF
     exact ⟨rfl,⟨ok,E.keep [1,3,4,9,18]⟩⟩
    refine sg<|lw E (qap rfl rfl) fun a E=>aw E rfl fun a E=>cf E rfl hF (fun c19 hF=>?_) fun c19 hF=>?_
    ·refine wp_skip ?_
     cases hF
     exact ⟨rfl,⟨ok,E.keep [1,3,4,9,18]⟩⟩
    refine sg<|lw E (qap rfl rfl) fun a E=>aw E rfl fun a E=>cf E rfl hF (fun c20 hF=>?_) fun c20 hF=>?_
    ·refine wp_skip ?_
     cases hF
     exact ⟨rfl,⟨ok,E.keep [1,3,4,9,18]⟩⟩
    refine sg<|lw E (qap rfl rfl) fun a E=>aw E rfl fun a E=>cf E rfl hF (fun c21 hF=>?_) fun c21 hF=>?_
    ·refine wp_skip ?_
     cases hF
     exact ⟨rfl,⟨ok,E.keep [1,3,4,9,18]⟩⟩
    refine qab<|lw E (qap rfl rfl) fun a E=>av E rfl fun a E=>wpList_nil ?_
    cases hF
    exact ⟨rfl,⟨ok,E.keep [1,3,4,9,18]⟩⟩
   intro e a w hO
   obtain ⟨rfl,ok,E⟩:=hO
   refine qaa<|cf E rfl hF (fun c22 hF=>?_) fun c22 hF=>?_
   ·refine qab<|fk E ok qa2 qao rfl 1 rfl rfl fun a E=>fv E qa2 rfl fun a E=>qad E ok 0 rfl rfl rfl qcv rfl rfl ⟨rfl,trivial⟩ rfl rfl fun w ok=>wpList_nil ?_
    cases hF
    exact ⟨rfl,⟨ok,E.keep [1,3,4],r1,(Nat.zero_le _),l3,(Nat.zero_le _)⟩⟩
   refine sg<|lw E (qap rfl rfl) fun a E=>aw E rfl fun a E=>cf E rfl hF (fun c23 hF=>?_) fun c23 hF=>?_
   ·as_aux_lemma =>
     refine wp_seq<|bd hF fun o24 hJ hF=>qaK (Q':=fun e a w=>e = .normal ∧ Ok u m0 ([(b10,oc 82 [vi o24.Kind,vs o24.Text,vs o24.Name,vs o24.Style,(Value.slice none 0 0),(Value.slice none 0 0)])] :: [(b9,oc 82 [vi x_0.Kind,vs x_0.Text,vs x_0.Name,vs x_0.Style,c5,c7])] :: S) w ∧ Env 136 a [(1,vp b9),(3,vp b10)] ∧ InR .i64 o24.Kind ∧ o24.Text.length ≤ LIMS ∧ o24.Name.length ≤ LIMS ∧ o24.Style.length ≤ LIMS) ?_ ?_
     ·have hF:=hJ
      cases hF
      refine qbl [1] (Cls u m0 ([(b10,oc 82 [vi x_0.Kind,(vs ([])),(vs ([])),(vs ([])),(Value.slice none 0 0),(Value.slice none 0 0)])] :: [(b9,oc 82 [vi x_0.Kind,vs x_0.Text,vs x_0.Name,vs x_0.Style,c5,c7])] :: [])) (Cls u m0 ([(b9,oc 82 [vi x_0.Kind,vs x_0.Text,vs x_0.Name,vs x_0.Style,c5,c7])] :: [])) (by kernel_rfl) ?_
      intro w hw
      replace ok:=qbE ok hw
      clear hw
      refine qar (cl1 (cq le_m0 ok [0,1] rfl) (cq le_m0 ok [1] rfl)) fun hT=>kt 0 E rfl hT (qai qa2 rfl) fun a E=>qct 1 E rfl (by kernel_rfl) nP hT (qaz qao rfl (qae.cown 1 rfl rfl)) rfl rfl fun a E=>kt 2 E rfl hT (qai qbc rfl) fun a E=>kt 3 E rfl hT (qaz qao rfl (qae.cown 0 rfl rfl)) fun a E=>kt 4 E rfl hT (qai qa2 rfl) fun a E=>qaP [5] (by kernel_rfl) rfl (qaT ?_)
      ·refine wo rfl<|qad E ok 0 rfl rfl rfl qcv rfl rfl ⟨rfl,trivial⟩ rfl rfl fun w ok=>wn<|qar (cl2 (by kernel_rfl) (cq le_m0 ok [1] rfl)) fun hT=>kt 6 E rfl hT (qai qbc rfl) fun a E=>qaP [7] (by kernel_rfl) rfl (qaT ?_)
       ·refine wo rfl<|qad E ok 0 rfl rfl rfl qcv rfl rfl ⟨rfl,trivial⟩ rfl rfl fun w ok=>wn<|qar (cl2 (by kernel_rfl) (cq le_m0 ok [1] rfl)) fun hT=>qbw (by kernel_rfl) ?_
        exact ⟨rfl,⟨ok,E.keep [1,3],r1,(Nat.zero_le _),l3,l4⟩⟩
     intro e a w hO
     obtain ⟨rfl,ok,E,r29,l30,l31,l32⟩:=hO
     refine qaa<|qab<|fk E ok qbc qao rfl 1 rfl rfl fun a E=>lw E (qbm rfl rfl) fun a E=>mv E rfl fun a E=>bu E 38 hF (fun c33 hF E=>?_) fun c33 hF E=>?_
     ·refine lsq E fun a E=>ls E fun a E=>pt E rfl rfl fun a E=>mv E rfl fun a E=>lsq E fun a E=>ls E fun a E=>pt E rfl rfl fun a E=>av E rfl fun a E=>wpList_nil ?_
      cases hF
      exact ⟨rfl,⟨ok,E.keep [1,3,4],r29,l30,l31,l32⟩⟩
     refine fk E ok qbc qao rfl 1 rfl rfl fun a E=>lw E (qbm rfl rfl) fun a E=>pf E rfl rfl fun a E=>mv E rfl fun a E=>bu E 43 hF (fun c34 hF E=>?_) fun c34 hF E=>?_
     ·refine lsq E fun a E=>ls E fun a E=>pt E rfl rfl fun a E=>av E rfl fun a E=>wpList_nil ?_
      cases hF
      exact ⟨rfl,⟨ok,E.keep [1,3,4],r29,l30,l31,l32⟩⟩
     refine fk E ok qbc qao rfl 1 rfl rfl fun a E=>lw E (qbm rfl rfl) fun a E=>pf E rfl rfl fun a E=>av E rfl fun a E=>wpList_nil ?_
     cases hF
     exact ⟨rfl,⟨ok,E.keep [1,3,4],r29,l30,l31,l32⟩⟩
   refine wp_seq<|sg<|lw E (qap rfl rfl) fun a E=>aw E rfl fun a E=>bd hF fun o35 hJ hF=>qaK (Q':=fun e a w=>e = .normal ∧ Ok u m0 ([(b10,oc 82 [vi x_0.Kind,(vs ([])),(vs ([])),(vs ([])),(Value.slice none 0 0),(Value.slice none 0 0)])] :: [(b9,oc 82 [vi x_0.Kind,vs x_0.Text,vs x_0.Name,vs x_0.Style,c5,c7])] :: S) w ∧ Env 136 a [(1,vp b9),(3,vp b10),(4,vb true),(9,vi x_0.Kind),(48,vb o35)]) ?_ ?_
   ·have hF:=hJ
    refine cf E rfl hF (fun c36 hF=>?_) fun c36 hF=>?_
    ·refine wp_skip ?_
     cases hF
     exact ⟨rfl,⟨ok,E.keep [1,3,4,9,48]⟩⟩
    refine qab<|lw E (qap rfl rfl) fun a E=>av E rfl fun a E=>wpList_nil ?_
    cases hF
    exact ⟨rfl,⟨ok,E.keep [1,3,4,9,48]⟩⟩
   intro e a w hO
   obtain ⟨rfl,ok,E⟩:=hO
   refine qaa<|cf E rfl hF (fun c37 hF=>?_) fun c37 hF=>?_
   ·refine wp_seq<|bd hF fun o38 hJ hF=>qaK (Q':=fun e a w=>e = .normal ∧ Ok u m0 ([(b10,oc 82 [vi o38.Kind,vs o38.Text,vs o38.Name,vs o38.Style,(Value.slice none 0 0),(Value.slice none 0 0)])] :: [(b9,oc 82 [vi x_0.Kind,vs x_0.Text,vs x_0.Name,vs x_0.Style,c5,c7])] :: S) w ∧ Env 136 a [(1,vp b9),(3,vp b10)] ∧ InR .i64 o38.Kind ∧ o38.Text.length ≤ LIMS ∧ o38.Name.length ≤ LIMS ∧ o38.Style.length ≤ LIMS) ?_ ?_
    rotate_left
    ·intro e a w hO
     obtain ⟨rfl,ok,E,r43,l44,l45,l46⟩:=hO
     refine qaa<|qab<|fk E ok qbc qao rfl 1 rfl rfl fun a E=>bd hF fun r47 e48 hF=>lc E qkp rfl (qgp N x_0.Style l4 e48 hG ok) fun w ok a E=>av E rfl fun a E=>wpList_nil ?_
     cases hF
     exact ⟨rfl,⟨ok,E.keep [1,3,4],r43,l44,l45,l46⟩⟩
    have hF:=hJ
    cases hF
    refine qbl [1] (Cls u m0 ([(b10,oc 82 [vi x_0.Kind,(vs ([])),(vs ([])),(vs ([])),(Value.slice none 0 0),(Value.slice none 0 0)])] :: [(b9,oc 82 [vi x_0.Kind,vs x_0.Text,vs x_0.Name,vs x_0.Style,c5,c7])] :: [])) (Cls u m0 ([(b9,oc 82 [vi x_0.Kind,vs x_0.Text,vs x_0.Name,vs x_0.Style,c5,c7])] :: [])) (by kernel_rfl) ?_
    intro w hw
    replace ok:=qbE ok hw
    clear hw
    refine qar (cl1 (cq le_m0 ok [0,1] rfl) (cq le_m0 ok [1] rfl)) fun hT=>kt 0 E rfl hT (qai qa2 rfl) fun a E=>qct 1 E rfl (by kernel_rfl) nP hT (qaz qao rfl (qae.cown 1 rfl rfl)) rfl rfl fun a E=>kt 2 E rfl hT (qai qbc rfl) fun a E=>kt 3 E rfl hT (qaz qao rfl (qae.cown 0 rfl rfl)) fun a E=>kt 4 E rfl hT (qai qa2 rfl) fun a E=>qaP [5] (by kernel_rfl) rfl (qaT ?_)
    ·refine wo rfl<|qad E ok 0 rfl rfl rfl qcv rfl rfl ⟨rfl,trivial⟩ rfl rfl fun w ok=>wn<|qar (cl2 (by kernel_rfl) (cq le_m0 ok [1] rfl)) fun hT=>kt 6 E rfl hT (qai qbc rfl) fun a E=>qaP [7] (by kernel_rfl) rfl (qaT ?_)
     ·refine wo rfl<|qad E ok 0 rfl rfl rfl qcv rfl rfl ⟨rfl,trivial⟩ rfl rfl fun w ok=>wn<|qar (cl2 (by kernel_rfl) (cq le_m0 ok [1] rfl)) fun hT=>qbw (by kernel_rfl) ?_
      exact ⟨rfl,⟨ok,E.keep [1,3],r1,(Nat.zero_le _),l3,l4⟩⟩
   refine sg<|lw E (qap rfl rfl) fun a E=>aw E rfl fun a E=>cg E rfl hF (fun c49 hF=>?_) fun c49 hF=>?_
   ·refine sg<|lw E (qap rfl rfl) fun a E=>aw E rfl fun a E=>cf E rfl hF (fun c61 hF=>?_) fun c61 hF=>?_
    ·refine wp_skip ?_
     cases hF
     exact ⟨rfl,⟨ok,E.keep [1,3,4],r1,(Nat.zero_le _),(Nat.zero_le _),(Nat.zero_le _)⟩⟩
    refine qab<|av E rfl fun a E=>wpList_nil ?_
    cases hF
    exact ⟨rfl,⟨ok,E.keep [1,3,4],r1,(Nat.zero_le _),(Nat.zero_le _),(Nat.zero_le _)⟩⟩
   refine wp_seq<|bd hF fun o50 hJ hF=>qaK (Q':=fun e a w=>e = .normal ∧ Ok u m0 ([(b10,oc 82 [vi o50.Kind,vs o50.Text,vs o50.Name,vs o50.Style,(Value.slice none 0 0),(Value.slice none 0 0)])] :: [(b9,oc 82 [vi x_0.Kind,vs x_0.Text,vs x_0.Name,vs x_0.Style,c5,c7])] :: S) w ∧ Env 136 a [(1,vp b9),(3,vp b10)] ∧ InR .i64 o50.Kind ∧ o50.Text.length ≤ LIMS ∧ o50.Name.length ≤ LIMS ∧ o50.Style.length ≤ LIMS) ?_ ?_
   rotate_left
   ·intro e a w hO
    obtain ⟨rfl,ok,E,r55,l56,l57,l58⟩:=hO
    refine qaa<|qab<|fk E ok qbc qao rfl 1 rfl rfl fun a E=>bd hF fun r59 e60 hF=>lc E qpK rfl (qjQ N x_0.Style l4 e60 hG ok) fun w ok a E=>av E rfl fun a E=>wpList_nil ?_
    cases hF
    exact ⟨rfl,⟨ok,E.keep [1,3,4],r55,l56,l57,l58⟩⟩
   have hF:=hJ
   cases hF
   refine qbl [1] (Cls u m0 ([(b10,oc 82 [vi x_0.Kind,(vs ([])),(vs ([])),(vs ([])),(Value.slice none 0 0),(Value.slice none 0 0)])] :: [(b9,oc 82 [vi x_0.Kind,vs x_0.Text,vs x_0.Name,vs x_0.Style,c5,c7])] :: [])) (Cls u m0 ([(b9,oc 82 [vi x_0.Kind,vs x_0.Text,vs x_0.Name,vs x_0.Style,c5,c7])] :: [])) (by kernel_rfl) ?_
   intro w hw
   replace ok:=qbE ok hw
   clear hw
   refine qar (cl1 (cq le_m0 ok [0,1] rfl) (cq le_m0 ok [1] rfl)) fun hT=>kt 0 E rfl hT (qai qa2 rfl) fun a E=>qct 1 E rfl (by kernel_rfl) nP hT (qaz qao rfl (qae.cown 1 rfl rfl)) rfl rfl fun a E=>kt 2 E rfl hT (qai qbc rfl) fun a E=>kt 3 E rfl hT (qaz qao rfl (qae.cown 0 rfl rfl)) fun a E=>kt 4 E rfl hT (qai qa2 rfl) fun a E=>qaP [5] (by kernel_rfl) rfl (qaT ?_)
   ·refine wo rfl<|qad E ok 0 rfl rfl rfl qcv rfl rfl ⟨rfl,trivial⟩ rfl rfl fun w ok=>wn<|qar (cl2 (by kernel_rfl) (cq le_m0 ok [1] rfl)) fun hT=>kt 6 E rfl hT (qai qbc rfl) fun a E=>qaP [7] (by kernel_rfl) rfl (qaT ?_)
    ·refine wo rfl<|qad E ok 0 rfl rfl rfl qcv rfl rfl ⟨rfl,trivial⟩ rfl rfl fun w ok=>wn<|qar (cl2 (by kernel_rfl) (cq le_m0 ok [1] rfl)) fun hT=>qbw (by kernel_rfl) ?_
     exact ⟨rfl,⟨ok,E.keep [1,3],r1,(Nat.zero_le _),l3,l4⟩⟩
 intro e a w hO
 obtain ⟨rfl,ok,E,r62,l63,l64,l65⟩:=hO
 refine qag<|qaa<|wp_seq<|sg<|fk E ok qa2 qao rfl 0 rfl rfl fun a E=>lw E (qcP rfl rfl) fun a E=>mv E rfl fun a E=>bu E 76 hF (fun c66 hF E=>?_) fun c66 hF E=>?_
 ·as_aux_lemma =>
   refine lsz E fun a E=>lsz E fun a E=>pt E rfl rfl fun a E=>wn<|c_if E rfl (fun _=>?_) (fun h=>by cases h)
   refine qab<|mz E rfl rfl fun a E=>qbr o11.1 (fun c67=>?_) (fun c67=>?_)
   rotate_left
   ·have hF:=qbn c67 hF
    have E:=E.upd 87 c67 rfl
    refine lsq E fun a E=>ls E fun a E=>pf E rfl rfl fun a E=>aw E rfl fun a E=>sg<|mz E rfl rfl fun a E=>lsz E fun a E=>ls E fun a E=>?_
    refine pf E rfl rfl fun a E=>mv E rfl fun a E=>lsz E fun a E=>ls E fun a E=>pf E rfl rfl fun a E=>mv E rfl fun a E=>lsz E fun a E=>ls E fun a E=>pf E rfl rfl fun a E=>mv E rfl fun a E=>?_
    refine lsz E fun a E=>lsz E fun a E=>ls E fun a E=>pf E rfl rfl fun a E=>mv E rfl fun a E=>lsz E fun a E=>ls E fun a E=>?_
    refine lsz E fun a E=>pf E rfl rfl fun a E=>aw E rfl fun a E=>wp_ret ?_
    exact fin hF ⟨ok.drop.drop,E.d,rz E rfl⟩
   have hF:=qbo c67 hF
   have E:=E.upd 87 c67 rfl
   refine fk E ok qa2 qao rfl 1 rfl rfl fun a E=>bd hF fun r68 e69 hF=>lc E qkp rfl (qgp N x_0.Name l3 e69 hG ok) fun w ok a E=>pt E rfl rfl fun a E=>aw E rfl fun a E=>sg<|mz E rfl rfl fun a E=>qbr r68 (fun c70=>?_) (fun c70=>?_)
   rotate_left
   ·have hF:=qbn c70 hF
    have E:=E.upd 93 c70 rfl
    refine lsz E fun a E=>ls E fun a E=>pf E rfl rfl fun a E=>mv E rfl fun a E=>lsz E fun a E=>ls E fun a E=>pf E rfl rfl fun a E=>mv E rfl fun a E=>lsq E fun a E=>?_
    refine lsq E fun a E=>ls E fun a E=>pf E rfl rfl fun a E=>mv E rfl fun a E=>lsz E fun a E=>lsz E fun a E=>ls E fun a E=>pf E rfl rfl fun a E=>mv E rfl fun a E=>?_
    refine lsz E fun a E=>lsz E fun a E=>ls E fun a E=>pf E rfl rfl fun a E=>aw E rfl fun a E=>wp_ret ?_
    exact fin hF ⟨ok.drop.drop,E.d,rz E rfl⟩
   have hF:=qbo c70 hF
   have E:=E.upd 93 c70 rfl
   refine fk E ok qep qao rfl 1 rfl rfl fun a E=>fk E ok qep qao rfl 0 rfl rfl fun a E=>lw E (qbm rfl rfl) fun a E=>pt E rfl rfl fun a E=>mv E rfl fun a E=>bw E 100 hF (fun c71 hF E=>?_) fun c71 hF E=>?_
   ·refine lsz E fun a E=>ls E fun a E=>pf E rfl rfl fun a E=>mv E rfl fun a E=>lsz E fun a E=>ls E fun a E=>pf E rfl rfl fun a E=>mv E rfl fun a E=>lsq E fun a E=>?_
    refine lsz E fun a E=>lsq E fun a E=>ls E fun a E=>pf E rfl rfl fun a E=>mv E rfl fun a E=>lsz E fun a E=>lsq E fun a E=>ls E fun a E=>?_
    refine lsq E fun a E=>pf E rfl rfl fun a E=>aw E rfl fun a E=>wp_ret ?_
    exact fin hF ⟨ok.drop.drop,E.d,rz E rfl⟩
   refine fk E ok qa2 qao rfl 1 rfl rfl fun a E=>fk E ok qa2 qao rfl 0 rfl rfl fun a E=>lw E (qbm rfl rfl) fun a E=>pt E rfl rfl fun a E=>mv E rfl fun a E=>bw E 107 hF (fun c72 hF E=>?_) fun c72 hF E=>?_
   ·refine lsz E fun a E=>ls E fun a E=>pf E rfl rfl fun a E=>mv E rfl fun a E=>lsz E fun a E=>lsz E fun a E=>ls E fun a E=>?_
    refine pf E rfl rfl fun a E=>mv E rfl fun a E=>lsz E fun a E=>lsz E fun a E=>ls E fun a E=>pf E rfl rfl fun a E=>aw E rfl fun a E=>wp_ret ?_
    exact fin hF ⟨ok.drop.drop,E.d,rz E rfl⟩
   refine fk E ok qbc qao rfl 1 rfl rfl fun a E=>fk E ok qbc qao rfl 0 rfl rfl fun a E=>lw E (qbm rfl rfl) fun a E=>pt E rfl rfl fun a E=>mv E rfl fun a E=>bw E 114 hF (fun c73 hF E=>?_) fun c73 hF E=>?_
   ·refine lsz E fun a E=>lsz E fun a E=>ls E fun a E=>pf E rfl rfl fun a E=>mv E rfl fun a E=>lsz E fun a E=>ls E fun a E=>?_
    refine lsz E fun a E=>pf E rfl rfl fun a E=>aw E rfl fun a E=>wp_ret ?_
    exact fin hF ⟨ok.drop.drop,E.d,rz E rfl⟩
   refine fk E ok qcj qdu rfl 1 rfl rfl fun a E=>lv E ok (qbb qcK h6 rfl) fun a E=>lw E (qap rfl rfl) fun a E=>mv E rfl fun a E=>bu E 119 hF (fun c74 hF E=>?_) fun c74 hF E=>?_
   ·refine lsq E fun a E=>ls E fun a E=>pt E rfl rfl fun a E=>pt E rfl rfl fun a E=>mv E rfl fun a E=>fk E ok qcV qcW rfl 1 rfl rfl fun a E=>lv E ok (qbb qb5 h8 rfl) fun a E=>lw E (qap rfl rfl) fun a E=>mv E rfl fun a E=>bu E 130 hF (fun c75 hF E=>?_) fun c75 hF E=>?_
    ·refine lsq E fun a E=>ls E fun a E=>pt E rfl rfl fun a E=>pt E rfl rfl fun a E=>aw E rfl fun a E=>wp_ret ?_
     exact fin hF ⟨ok.drop.drop,E.d,rz E rfl⟩
    refine fk E ok qaH qaq rfl 1 rfl rfl fun a E=>lw E (qap rfl rfl) fun a E=>pf E rfl rfl fun a E=>pt E rfl rfl fun a E=>aw E rfl fun a E=>wp_ret ?_
    exact fin hF ⟨ok.drop.drop,E.d,rz E rfl⟩
   refine fk E ok qaH qaq rfl 1 rfl rfl fun a E=>bd hF fun r76 e77 hF=>lc E qh2 rfl (qci N x_0.Kind r1 e77 hG ok) fun w ok a E=>pf E rfl rfl fun a E=>pt E rfl rfl fun a E=>mv E rfl fun a E=>qbr r76 (fun c78=>?_) (fun c78=>?_)
   rotate_left
   ·have hF:=qbn c78 hF
    have E:=E.upd 125 c78 rfl
    refine lsz E fun a E=>lsz E fun a E=>ls E fun a E=>pf E rfl rfl fun a E=>aw E rfl fun a E=>wp_ret ?_
    exact fin hF ⟨ok.drop.drop,E.d,rz E rfl⟩
   have hF:=qbo c78 hF
   have E:=E.upd 125 c78 rfl
   refine fk E ok qcV qcW rfl 1 rfl rfl fun a E=>lv E ok (qbb qb5 h8 rfl) fun a E=>lw E (qap rfl rfl) fun a E=>mv E rfl fun a E=>bu E 130 hF (fun c79 hF E=>?_) fun c79 hF E=>?_
   ·refine lsq E fun a E=>ls E fun a E=>pt E rfl rfl fun a E=>pt E rfl rfl fun a E=>aw E rfl fun a E=>wp_ret ?_
    exact fin hF ⟨ok.drop.drop,E.d,rz E rfl⟩
   refine fk E ok qaH qaq rfl 1 rfl rfl fun a E=>lw E (qap rfl rfl) fun a E=>pf E rfl rfl fun a E=>pt E rfl rfl fun a E=>aw E rfl fun a E=>wp_ret ?_
   exact fin hF ⟨ok.drop.drop,E.d,rz E rfl⟩
 refine fk E ok qaH qaq rfl 1 rfl rfl fun a E=>lw E (qbj rfl rfl) fun a E=>mv E rfl fun a E=>bw E 80 hF (fun c80 hF E=>?_) fun c80 hF E=>?_
 ·as_aux_lemma =>
   refine lsq E fun a E=>ls E fun a E=>pf E rfl rfl fun a E=>pf E rfl rfl fun a E=>wn<|c_if E rfl (fun h=>by cases h) (fun _=>?_)
   refine wp_skip<|qaa<|sg<|mz E rfl rfl fun a E=>qbr o11.1 (fun c96=>?_) (fun c96=>?_)
   rotate_left
   ·have hF:=qbn c96 hF
    have E:=E.upd 93 c96 rfl
    refine lsz E fun a E=>ls E fun a E=>pf E rfl rfl fun a E=>mv E rfl fun a E=>lsz E fun a E=>ls E fun a E=>pf E rfl rfl fun a E=>mv E rfl fun a E=>lsq E fun a E=>?_
    refine lsq E fun a E=>ls E fun a E=>pf E rfl rfl fun a E=>mv E rfl fun a E=>lsz E fun a E=>lsz E fun a E=>ls E fun a E=>pf E rfl rfl fun a E=>mv E rfl fun a E=>?_
    refine lsz E fun a E=>lsz E fun a E=>ls E fun a E=>pf E rfl rfl fun a E=>aw E rfl fun a E=>wp_ret ?_
    exact fin hF ⟨ok.drop.drop,E.d,rz E rfl⟩
   have hF:=qbo c96 hF
   have E:=E.upd 93 c96 rfl
   refine fk E ok qep qao rfl 1 rfl rfl fun a E=>fk E ok qep qao rfl 0 rfl rfl fun a E=>lw E (qbm rfl rfl) fun a E=>pt E rfl rfl fun a E=>mv E rfl fun a E=>bw E 100 hF (fun c97 hF E=>?_) fun c97 hF E=>?_
   ·refine lsz E fun a E=>ls E fun a E=>pf E rfl rfl fun a E=>mv E rfl fun a E=>lsz E fun a E=>ls E fun a E=>pf E rfl rfl fun a E=>mv E rfl fun a E=>lsq E fun a E=>?_
    refine lsz E fun a E=>lsq E fun a E=>ls E fun a E=>pf E rfl rfl fun a E=>mv E rfl fun a E=>lsz E fun a E=>lsq E fun a E=>ls E fun a E=>?_
    refine lsq E fun a E=>pf E rfl rfl fun a E=>aw E rfl fun a E=>wp_ret ?_
    exact fin hF ⟨ok.drop.drop,E.d,rz E rfl⟩
   refine fk E ok qa2 qao rfl 1 rfl rfl fun a E=>fk E ok qa2 qao rfl 0 rfl rfl fun a E=>lw E (qbm rfl rfl) fun a E=>pt E rfl rfl fun a E=>mv E rfl fun a E=>bw E 107 hF (fun c98 hF E=>?_) fun c98 hF E=>?_
   ·refine lsz E fun a E=>ls E fun a E=>pf E rfl rfl fun a E=>mv E rfl fun a E=>lsz E fun a E=>lsz E fun a E=>ls E fun a E=>?_
    refine pf E rfl rfl fun a E=>mv E rfl fun a E=>lsz E fun a E=>lsz E fun a E=>ls E fun a E=>pf E rfl rfl fun a E=>aw E rfl fun a E=>wp_ret ?_
    exact fin hF ⟨ok.drop.drop,E.d,rz E rfl⟩
   refine fk E ok qbc qao rfl 1 rfl rfl fun a E=>fk E ok qbc qao rfl 0 rfl rfl fun a E=>lw E (qbm rfl rfl) fun a E=>pt E rfl rfl fun a E=>mv E rfl fun a E=>bw E 114 hF (fun c99 hF E=>?_) fun c99 hF E=>?_
   ·refine lsz E fun a E=>lsz E fun a E=>ls E fun a E=>pf E rfl rfl fun a E=>mv E rfl fun a E=>lsz E fun a E=>ls E fun a E=>?_
    refine lsz E fun a E=>pf E rfl rfl fun a E=>aw E rfl fun a E=>wp_ret ?_
    exact fin hF ⟨ok.drop.drop,E.d,rz E rfl⟩
   refine fk E ok qcj qdu rfl 1 rfl rfl fun a E=>lv E ok (qbb qcK h6 rfl) fun a E=>lw E (qap rfl rfl) fun a E=>mv E rfl fun a E=>bu E 119 hF (fun c100 hF E=>?_) fun c100 hF E=>?_
   ·refine lsq E fun a E=>ls E fun a E=>pt E rfl rfl fun a E=>pt E rfl rfl fun a E=>mv E rfl fun a E=>fk E ok qcV qcW rfl 1 rfl rfl fun a E=>lv E ok (qbb qb5 h8 rfl) fun a E=>lw E (qap rfl rfl) fun a E=>mv E rfl fun a E=>bu E 130 hF (fun c101 hF E=>?_) fun c101 hF E=>?_
    ·refine lsq E fun a E=>ls E fun a E=>pt E rfl rfl fun a E=>pt E rfl rfl fun a E=>aw E rfl fun a E=>wp_ret ?_
     exact fin hF ⟨ok.drop.drop,E.d,rz E rfl⟩
    refine fk E ok qaH qaq rfl 1 rfl rfl fun a E=>lw E (qap rfl rfl) fun a E=>pf E rfl rfl fun a E=>pt E rfl rfl fun a E=>aw E rfl fun a E=>wp_ret ?_
    exact fin hF ⟨ok.drop.drop,E.d,rz E rfl⟩
   refine fk E ok qaH qaq rfl 1 rfl rfl fun a E=>bd hF fun r102 e103 hF=>lc E qh2 rfl (qci N x_0.Kind r1 e103 hG ok) fun w ok a E=>pf E rfl rfl fun a E=>pt E rfl rfl fun a E=>mv E rfl fun a E=>qbr r102 (fun c104=>?_) (fun c104=>?_)
   rotate_left
   ·have hF:=qbn c104 hF
    have E:=E.upd 125 c104 rfl
    refine lsz E fun a E=>lsz E fun a E=>ls E fun a E=>pf E rfl rfl fun a E=>aw E rfl fun a E=>wp_ret ?_
    exact fin hF ⟨ok.drop.drop,E.d,rz E rfl⟩
   have hF:=qbo c104 hF
   have E:=E.upd 125 c104 rfl
   refine fk E ok qcV qcW rfl 1 rfl rfl fun a E=>lv E ok (qbb qb5 h8 rfl) fun a E=>lw E (qap rfl rfl) fun a E=>mv E rfl fun a E=>bu E 130 hF (fun c105 hF E=>?_) fun c105 hF E=>?_
   ·refine lsq E fun a E=>ls E fun a E=>pt E rfl rfl fun a E=>pt E rfl rfl fun a E=>aw E rfl fun a E=>wp_ret ?_
    exact fin hF ⟨ok.drop.drop,E.d,rz E rfl⟩
   refine fk E ok qaH qaq rfl 1 rfl rfl fun a E=>lw E (qap rfl rfl) fun a E=>pf E rfl rfl fun a E=>pt E rfl rfl fun a E=>aw E rfl fun a E=>wp_ret ?_
   exact fin hF ⟨ok.drop.drop,E.d,rz E rfl⟩
 refine fk E ok qaH qaq rfl 1 rfl rfl fun a E=>lw E (qbj rfl rfl) fun a E=>pt E rfl rfl fun a E=>pf E rfl rfl fun a E=>wn<|bd hF fun o81 hJ hF=>qaK (Q':=fun e a w=>e = .normal ∧ Ok u m0 ([(b10,oc 82 [vi o11.2.Kind,vs o11.2.Text,vs o11.2.Name,vs o11.2.Style,(Value.slice none 0 0),(Value.slice none 0 0)])] :: [(b9,oc 82 [vi x_0.Kind,vs x_0.Text,vs x_0.Name,vs x_0.Style,c5,c7])] :: S) w ∧ Env 136 a [(1,vp b9),(3,vp b10),(4,vb o81)]) ?_ ?_
 ·have hF:=hJ
  refine cg E rfl hF (fun c82 hF=>?_) fun c82 hF=>?_
  ·refine wp_skip ?_
   cases hF
   exact ⟨rfl,⟨ok,E.keep [1,3,4]⟩⟩
  refine qab<|mz E rfl rfl fun a E=>qbr o11.1 (fun c83=>?_) (fun c83=>?_)
  rotate_left
  ·have hF:=qbn c83 hF
   have E:=E.upd 87 c83 rfl
   refine lsq E fun a E=>ls E fun a E=>pf E rfl rfl fun a E=>av E rfl fun a E=>wpList_nil ?_
   cases hF
   exact ⟨rfl,⟨ok,E.keep [1,3,4]⟩⟩
  have hF:=qbo c83 hF
  have E:=E.upd 87 c83 rfl
  refine fk E ok qa2 qao rfl 1 rfl rfl fun a E=>bd hF fun r84 e85 hF=>lc E qkp rfl (qgp N x_0.Name l3 e85 hG ok) fun w ok a E=>pt E rfl rfl fun a E=>av E rfl fun a E=>wpList_nil ?_
  cases hF
  exact ⟨rfl,⟨ok,E.keep [1,3,4]⟩⟩
 intro e a w hO
 obtain ⟨rfl,ok,E⟩:=hO
 refine qaa<|sg<|mz E rfl rfl fun a E=>qbr o81 (fun c86=>?_) (fun c86=>?_)
 rotate_left
 ·have hF:=qbn c86 hF
  have E:=E.upd 93 c86 rfl
  refine lsz E fun a E=>ls E fun a E=>pf E rfl rfl fun a E=>mv E rfl fun a E=>lsz E fun a E=>ls E fun a E=>pf E rfl rfl fun a E=>mv E rfl fun a E=>lsq E fun a E=>?_
  refine lsq E fun a E=>ls E fun a E=>pf E rfl rfl fun a E=>mv E rfl fun a E=>lsz E fun a E=>lsz E fun a E=>ls E fun a E=>pf E rfl rfl fun a E=>mv E rfl fun a E=>?_
  refine lsz E fun a E=>lsz E fun a E=>ls E fun a E=>pf E rfl rfl fun a E=>aw E rfl fun a E=>wp_ret ?_
  exact fin hF ⟨ok.drop.drop,E.d,rz E rfl⟩
 have hF:=qbo c86 hF
 have E:=E.upd 93 c86 rfl
 refine fk E ok qep qao rfl 1 rfl rfl fun a E=>fk E ok qep qao rfl 0 rfl rfl fun a E=>lw E (qbm rfl rfl) fun a E=>pt E rfl rfl fun a E=>mv E rfl fun a E=>bw E 100 hF (fun c87 hF E=>?_) fun c87 hF E=>?_
 ·refine lsz E fun a E=>ls E fun a E=>pf E rfl rfl fun a E=>mv E rfl fun a E=>lsz E fun a E=>ls E fun a E=>pf E rfl rfl fun a E=>mv E rfl fun a E=>lsq E fun a E=>?_
  refine lsz E fun a E=>lsq E fun a E=>ls E fun a E=>pf E rfl rfl fun a E=>mv E rfl fun a E=>lsz E fun a E=>lsq E fun a E=>ls E fun a E=>?_
  refine lsq E fun a E=>pf E rfl rfl fun a E=>aw E rfl fun a E=>wp_ret ?_
  exact fin hF ⟨ok.drop.drop,E.d,rz E rfl⟩
 refine fk E ok qa2 qao rfl 1 rfl rfl fun a E=>fk E ok qa2 qao rfl 0 rfl rfl fun a E=>lw E (qbm rfl rfl) fun a E=>pt E rfl rfl fun a E=>mv E rfl fun a E=>bw E 107 hF (fun c88 hF E=>?_) fun c88 hF E=>?_
 ·refine lsz E fun a E=>ls E fun a E=>pf E rfl rfl fun a E=>mv E rfl fun a E=>lsz E fun a E=>lsz E fun a E=>ls E fun a E=>?_
  refine pf E rfl rfl fun a E=>mv E rfl fun a E=>lsz E fun a E=>lsz E fun a E=>ls E fun a E=>pf E rfl rfl fun a E=>aw E rfl fun a E=>wp_ret ?_
  exact fin hF ⟨ok.drop.drop,E.d,rz E rfl⟩
 refine fk E ok qbc qao rfl 1 rfl rfl fun a E=>fk E ok qbc qao rfl 0 rfl rfl fun a E=>lw E (qbm rfl rfl) fun a E=>pt E rfl rfl fun a E=>mv E rfl fun a E=>bw E 114 hF (fun c89 hF E=>?_) fun c89 hF E=>?_
 ·refine lsz E fun a E=>lsz E fun a E=>ls E fun a E=>pf E rfl rfl fun a E=>mv E rfl fun a E=>lsz E fun a E=>ls E fun a E=>?_
  refine lsz E fun a E=>pf E rfl rfl fun a E=>aw E rfl fun a E=>wp_ret ?_
  exact fin hF ⟨ok.drop.drop,E.d,rz E rfl⟩
 refine fk E ok qcj qdu rfl 1 rfl rfl fun a E=>lv E ok (qbb qcK h6 rfl) fun a E=>lw E (qap rfl rfl) fun a E=>mv E rfl fun a E=>bu E 119 hF (fun c90 hF E=>?_) fun c90 hF E=>?_
 ·refine lsq E fun a E=>ls E fun a E=>pt E rfl rfl fun a E=>pt E rfl rfl fun a E=>mv E rfl fun a E=>fk E ok qcV qcW rfl 1 rfl rfl fun a E=>lv E ok (qbb qb5 h8 rfl) fun a E=>lw E (qap rfl rfl) fun a E=>mv E rfl fun a E=>bu E 130 hF (fun c91 hF E=>?_) fun c91 hF E=>?_
  ·refine lsq E fun a E=>ls E fun a E=>pt E rfl rfl fun a E=>pt E rfl rfl fun a E=>aw E rfl fun a E=>wp_ret ?_
   exact fin hF ⟨ok.drop.drop,E.d,rz E rfl⟩
  refine fk E ok qaH qaq rfl 1 rfl rfl fun a E=>lw E (qap rfl rfl) fun a E=>pf E rfl rfl fun a E=>pt E rfl rfl fun a E=>aw E rfl fun a E=>wp_ret ?_
  exact fin hF ⟨ok.drop.drop,E.d,rz E rfl⟩
 refine fk E ok qaH qaq rfl 1 rfl rfl fun a E=>bd hF fun r92 e93 hF=>lc E qh2 rfl (qci N x_0.Kind r1 e93 hG ok) fun w ok a E=>pf E rfl rfl fun a E=>pt E rfl rfl fun a E=>mv E rfl fun a E=>qbr r92 (fun c94=>?_) (fun c94=>?_)
 rotate_left
 ·have hF:=qbn c94 hF
  have E:=E.upd 125 c94 rfl
  refine lsz E fun a E=>lsz E fun a E=>ls E fun a E=>pf E rfl rfl fun a E=>aw E rfl fun a E=>wp_ret ?_
  exact fin hF ⟨ok.drop.drop,E.d,rz E rfl⟩
 have hF:=qbo c94 hF
 have E:=E.upd 125 c94 rfl
 refine fk E ok qcV qcW rfl 1 rfl rfl fun a E=>lv E ok (qbb qb5 h8 rfl) fun a E=>lw E (qap rfl rfl) fun a E=>mv E rfl fun a E=>bu E 130 hF (fun c95 hF E=>?_) fun c95 hF E=>?_
 ·refine lsq E fun a E=>ls E fun a E=>pt E rfl rfl fun a E=>pt E rfl rfl fun a E=>aw E rfl fun a E=>wp_ret ?_
  exact fin hF ⟨ok.drop.drop,E.d,rz E rfl⟩
 refine fk E ok qaH qaq rfl 1 rfl rfl fun a E=>lw E (qap rfl rfl) fun a E=>pf E rfl rfl fun a E=>pt E rfl rfl fun a E=>aw E rfl fun a E=>wp_ret ?_
 exact fin hF ⟨ok.drop.drop,E.d,rz E rfl⟩
theorem qgw {u:World} {m0:Mem} {S:Segs} {w:World} (N:Nat) (p0_0:List UInt8) (lp0_0:p0_0.length ≤ LIMS) (p1_1:List UInt8) (lp1_1:p1_1.length ≤ LIMS) {r:(List UInt8) × Bool} (hF:strings_CutPrefix N p0_0 p1_1 = some r) (hG:Glob u) (ok:Ok u m0 S w) :
 Calls Tryz.prog 134 [vs p0_0,vs p1_1].toArray w fun e w'=>(e = .returned (.tuple [(.string (bs r.1)),(.bool r.2)].toArray) ∧ Ok u m0 S w') ∧ r.1.length ≤ LIMS:=qln Tryz.lays103 p0_0 p1_1 hF lp0_0 ok
def qk3 (u:World) (m0:Mem) (S:Segs) (r:Bool) (a:Act) (w:World):Prop :=
 Ok u m0 S w ∧ a.defers = [] ∧ RVs Tryz.prog a w [.t 2 (.bool r)]
theorem qkL (N:Nat) (s_0:List UInt8) (ls_0:s_0.length ≤ LIMS) {r:Bool} (hF:qhE N s_0 = some r) (hG:Glob u) (ok:Ok u m0 S w) :
  Calls Tryz.prog 135 [vs s_0].toArray w fun e w'=>(e = .returned (.bool r) ∧ Ok u m0 S w'):=by
 unfold qhE at hF
 refine en (qk3 u m0 S) r Tryz.func135 rfl rfl rfl (fun _ _ h=>ra h rfl) fun fin a E=>sg<|aw E rfl fun a E=>wp_seq<|sg<|mv E rfl fun a E=>wn<|wp_block<|wp_seq<|sg<|lw E (qbm rfl rfl) fun a E=>aw E rfl fun a E=>bd hF fun o1 hJ hF=>qaK (Q':=fun e a w=>e = .normal ∧ Ok u m0 (S) w ∧ Env 11 a [(4,vb o1)]) ?_ ?_
 rotate_left
 ·intro e a w hO
  obtain ⟨rfl,ok,E⟩:=hO
  refine qaa<|cf E rfl hF (fun c7 hF=>?_) fun c7 hF=>?_
  ·refine sg<|aw E rfl fun a E=>wp_ret<|qaL<|qam ?_
   exact fin hF ⟨ok,E.d,rz E rfl⟩
  refine wp_skip<|qag<|qaa<|sg<|aw E rfl fun a E=>wp_ret ?_
  exact fin hF ⟨ok,E.d,rz E rfl⟩
 have hF:=hJ
 refine cf E rfl hF (fun c2 hF=>?_) fun c2 hF=>?_
 ·refine wp_skip ?_
  cases hF
  exact ⟨rfl,⟨ok,E.keep [4]⟩⟩
 refine sg<|lw E (qbm rfl rfl) fun a E=>aw E rfl fun a E=>cf E rfl hF (fun c3 hF=>?_) fun c3 hF=>?_
 ·refine wp_skip ?_
  cases hF
  exact ⟨rfl,⟨ok,E.keep [4]⟩⟩
 refine sg<|lw E (qbm rfl rfl) fun a E=>aw E rfl fun a E=>cf E rfl hF (fun c4 hF=>?_) fun c4 hF=>?_
 ·refine wp_skip ?_
  cases hF
  exact ⟨rfl,⟨ok,E.keep [4]⟩⟩
 refine sg<|lw E (qbm rfl rfl) fun a E=>aw E rfl fun a E=>cf E rfl hF (fun c5 hF=>?_) fun c5 hF=>?_
 ·refine wp_skip ?_
  cases hF
  exact ⟨rfl,⟨ok,E.keep [4]⟩⟩
 refine sg<|lw E (qbm rfl rfl) fun a E=>aw E rfl fun a E=>cf E rfl hF (fun c6 hF=>?_) fun c6 hF=>?_
 ·refine wp_skip ?_
  cases hF
  exact ⟨rfl,⟨ok,E.keep [4]⟩⟩
 refine qab<|lw E (qbm rfl rfl) fun a E=>av E rfl fun a E=>wpList_nil ?_
 cases hF
 exact ⟨rfl,⟨ok,E.keep [4]⟩⟩
theorem qlm (N:Nat) (p0_0:List UInt8) (lp0_0:p0_0.length ≤ LIMS) (p1_1:List UInt8) (lp1_1:p1_1.length ≤ LIMS) {r:(List UInt8) × (List UInt8) × Bool} (hF:strings_Cut N p0_0 p1_1 = some r) (hG:Glob u) (ok:Ok u m0 S w) :
  Calls Tryz.prog 159 [vs p0_0,vs p1_1].toArray w fun e w'=>(e = .returned (.tuple [(.string (bs r.1)),(.string (bs r.2.1)),(.bool r.2.2)].toArray) ∧ Ok u m0 S w') ∧ r.1.length ≤ LIMS ∧ r.2.1.length ≤ LIMS:=by
 obtain ⟨mx,hmx⟩:=hG
 exact qoJ Tryz.lays145 hmx p0_0 p1_1 hF lp0_0 ok
theorem qid {u:World} {m0:Mem} {S:Segs} {w:World} (N:Nat) (p0_0:List UInt8) (lp0_0:p0_0.length ≤ LIMS) (p1_1:List UInt8) (lp1_1:p1_1.length ≤ LIMS) {r:(List UInt8)} (hF:qfz N p0_0 p1_1 = some r) (hG:Glob u) (ok:Ok u m0 S w) :
 Calls Tryz.prog 163 [vs p0_0,vs p1_1].toArray w fun e w'=>(e = .returned (.string (bs r)) ∧ Ok u m0 S w') ∧ r.length ≤ LIMS:=qnH Tryz.lays160 (by kernel_rfl) p0_0 p1_1 hF lp0_0 ok
def qj0 (u:World) (m0:Mem) (S:Segs) (r:Bool) (a:Act) (w:World):Prop :=
 Ok u m0 S w ∧ a.defers = [] ∧ RVs Tryz.prog a w [.t 2 (.bool r)]
theorem qeg (N:Nat) (s_0:List UInt8) (ls_0:s_0.length ≤ LIMS) {r:Bool} (hF:qdA N s_0 = some r) (hG:Glob u) (ok:Ok u m0 S w) :
  Calls Tryz.prog 160 [vs s_0].toArray w fun e w'=>(e = .returned (.bool r) ∧ Ok u m0 S w'):=by
 unfold qdA at hF
 refine en (qj0 u m0 S) r Tryz.func160 rfl rfl rfl (fun _ _ h=>ra h rfl) fun fin a E=>sg<|aw E rfl fun a E=>sg<|mv E rfl fun a E=>bd hF fun r1 e2 hF=>qaf E qmY rfl (qid N s_0 ls_0 ([48,49,50,51,52,53,54,55,56,57]) (show ([48,49,50,51,52,53,54,55,56,57]:List UInt8).length ≤ LIMS by decide) e2 hG ok) rfl rfl ?_
 rintro _ w ⟨⟨rfl,ok⟩,l3⟩
 refine ⟨_,rfl,fun a E=>?_⟩
 refine lw E (qbm rfl rfl) fun a E=>aw E rfl fun a E=>wp_ret ?_
 exact fin hF ⟨ok,E.d,rz E rfl⟩
def qkW (u:World) (m0:Mem) (S:Segs) (r:Bool) (a:Act) (w:World):Prop :=
 Ok u m0 S w ∧ a.defers = [] ∧ RVs Tryz.prog a w [.t 2 (.bool r)]
theorem qip (N:Nat) (s_0:List UInt8) (ls_0:s_0.length ≤ LIMS) {r:Bool} (hF:qgd N s_0 = some r) (hG:Glob u) (ok:Ok u m0 S w) :
  Calls Tryz.prog 164 [vs s_0].toArray w fun e w'=>(e = .returned (.bool r) ∧ Ok u m0 S w'):=by
 unfold qgd at hF
 refine en (qkW u m0 S) r Tryz.func164 rfl rfl rfl (fun _ _ h=>ra h rfl) fun fin a E=>sg<|aw E rfl fun a E=>sg<|mv E rfl fun a E=>bd hF fun r1 e2 hF=>qaf E qmY rfl (qid N s_0 ls_0 ([48]) (show ([48]:List UInt8).length ≤ LIMS by decide) e2 hG ok) rfl rfl ?_
 rintro _ w ⟨⟨rfl,ok⟩,l3⟩
 refine ⟨_,rfl,fun a E=>?_⟩
 refine lw E (qbm rfl rfl) fun a E=>aw E rfl fun a E=>wp_ret ?_
 exact fin hF ⟨ok,E.d,rz E rfl⟩
def qii (u:World) (m0:Mem) (S:Segs) (r:Bool) (a:Act) (w:World):Prop :=
 Ok u m0 S w ∧ a.defers = [] ∧ RVs Tryz.prog a w [.t 2 (.bool r)]
theorem qdT (N:Nat) (vx_0:List Value) (x_0:Number) (hx_0:qk0 m0 vx_0 x_0) {r:Bool} (hF:qcN N x_0 = some r) (hG:Glob u) (ok:Ok u m0 S w) :
  Calls Tryz.prog 161 [.agg vx_0.toArray].toArray w fun e w'=>(e = .returned (.bool r) ∧ Ok u m0 S w'):=by
 obtain ⟨rfl,l1,l2⟩:=hx_0
 unfold qcN at hF
 refine en (qii u m0 S) r Tryz.func161 rfl rfl rfl (fun _ _ h=>ra h rfl) fun fin a E=>sg<|qdV E ok rfl rfl rfl fun b3 a w E ok=>aw E rfl fun a E=>sg<|fk E ok qnN qao rfl 0 rfl rfl fun a E=>bd hF fun r4 e5 hF=>lc E qnx rfl (qip N x_0.whole l1 e5 hG ok) fun w ok a E=>mv E rfl fun a E=>qbr r4 (fun c6=>?_) (fun c6=>?_)
 rotate_left
 ·have hF:=qbn c6 hF
  have E:=E.upd 6 c6 rfl
  refine lsq E fun a E=>ls E fun a E=>pf E rfl rfl fun a E=>aw E rfl fun a E=>wp_ret ?_
  exact fin hF ⟨ok.drop,E.d,rz E rfl⟩
 have hF:=qbo c6 hF
 have E:=E.upd 6 c6 rfl
 refine fk E ok qn3 qao rfl 0 rfl rfl fun a E=>bd hF fun r7 e8 hF=>lc E qnx rfl (qip N x_0.fraction l2 e8 hG ok) fun w ok a E=>pt E rfl rfl fun a E=>aw E rfl fun a E=>wp_ret ?_
 exact fin hF ⟨ok.drop,E.d,rz E rfl⟩
end Go.Proofs.YtllnjbnknjpbjaaGreatDoor
namespace Go.Proofs.YtllnjbnknjpbjaaGreatDoor
open Go.X
variable {u:World} {m0:Mem} {S:Segs} {w:World}
set_option maxHeartbeats 4000000
set_option maxRecDepth 100000
def qj8 (u:World) (m0:Mem) (S:Segs) (r:Number × Bool) (a:Act) (w:World):Prop :=
 ∃ m1 v0,m0.le m1 ∧ Ok u m1 S w ∧ a.defers = [] ∧ RVs Tryz.prog a w [.c 2 214 (.agg v0.toArray),.t 3 (.bool r.2)] ∧ qk0 m1 v0 r.1
theorem qku (N:Nat) (s_0:List UInt8) (ls_0:s_0.length ≤ LIMS) {r:Number × Bool} (hF:qg8 N s_0 = some r) (hG:Glob u) (ok:Ok u m0 S w) :
  Calls Tryz.prog 150 [vs s_0].toArray w fun e w'=>∃ m1 v0,e = .returned (.tuple [(.agg v0.toArray),(.bool r.2)].toArray) ∧ m0.le m1 ∧ Ok u m1 S w' ∧ qk0 m1 v0 r.1:=by
 have le_m0:=Mem.le.refl m0
 unfold qg8 at hF
 refine en (qj8 u m0 S) r Tryz.func150 rfl rfl rfl (by rintro a w ⟨m1,v0,hle,ok,hd,hrv,h0⟩; exact qbs [.c 2 214 (.agg v0.toArray),.t 3 (.bool r.2)] hd rfl hrv ⟨m1,v0,rfl,hle,ok,h0⟩) fun fin a E=>sg<|qa3 E ok qiI rfl rfl fun b1 a w E ok=>aw E rfl fun a E=>sg<|mv E rfl fun a E=>bd hF fun r2 e3 hF=>qaf E qnf rfl (qgw N s_0 ls_0 ([45]) (show ([45]:List UInt8).length ≤ LIMS by decide) e3 hG ok) rfl rfl ?_
 rintro _ w ⟨⟨rfl,ok⟩,l4⟩
 refine ⟨_,rfl,fun a E=>?_⟩
 refine mv E rfl fun a E=>lw E (qa7 rfl rfl) fun a E=>lw E (qa7 rfl rfl) fun a E=>av E rfl fun a E=>aw E rfl fun a E=>sg<|mv E rfl fun a E=>bd hF fun r5 e6 hF=>qaf E qpF rfl (qlm N r2.1 l4 ([46]) (show ([46]:List UInt8).length ≤ LIMS by decide) e6 hG ok) rfl rfl ?_
 rintro _ w ⟨⟨rfl,ok⟩,l7,l8⟩
 refine ⟨_,rfl,fun a E=>?_⟩
 refine mv E rfl fun a E=>lw E (qa7 rfl rfl) fun a E=>lw E (qa7 rfl rfl) fun a E=>lw E (qa7 rfl rfl) fun a E=>av E rfl fun a E=>av E rfl fun a E=>av E rfl fun a E=>wn<|sg<|mz E rfl rfl fun a E=>mv E rfl fun a E=>lw E (qau (ps:=[(0,.tmp 21),(1,.tmp 22),(2,.tmp 23)]) (qs:=[(0,[vb r2.2]),(1,[vs r5.1]),(2,[vs r5.2.1])]) (cs:=[vb r2.2,vs r5.1,vs r5.2.1]) qiI qmU rfl ⟨rfl,rfl,rfl,⟨rfl,rfl,rfl,⟨rfl,rfl,rfl,trivial⟩⟩⟩ rfl) fun a E=>qa3 E ok qiI rfl rfl fun b9 a w E ok=>?_
 refine qad E ok 0 rfl rfl rfl qb9 rfl rfl ⟨rfl,rfl,rfl,trivial⟩ rfl rfl fun w ok=>wn<|wp_seq<|wp_block<|sg<|mv E rfl fun a E=>lw E (qaJ Tryz.underlying9 rfl) fun a E=>lw E (qaS rfl rfl) fun a E=>mv E rfl fun a E=>bu E 29 hF (fun c10 hF E=>?_) fun c10 hF E=>?_
 ·refine lsq E fun a E=>ls E fun a E=>pt E rfl rfl fun a E=>mv E rfl fun a E=>lsq E fun a E=>ls E fun a E=>pt E rfl rfl fun a E=>mv E rfl fun a E=>lsz E fun a E=>lsq E fun a E=>?_
  refine lsq E fun a E=>pt E rfl rfl fun a E=>aw E rfl fun a E=>c_if E rfl (fun _=>?_) (fun h=>by cases h)
  refine sg<|lv E ok (qan (cs:=[vb r2.2,vs r5.1,vs r5.2.1]) qa9 rfl rfl (qae.own 0 rfl rfl)) fun a E=>qad E ok 1 rfl rfl rfl qb9 rfl rfl ⟨rfl,rfl,rfl,trivial⟩ rfl rfl fun w ok=>aw E rfl fun a E=>wp_ret<|qaL<|qam ?_
  exact fin hF ⟨m0,[vb r2.2,vs r5.1,vs r5.2.1],le_m0,ok.drop.drop,E.d,⟨rv_c (cs:=[vb r2.2,vs r5.1,vs r5.2.1]) E ok rfl qa9 rfl (qae.own 1 rfl rfl),rv_t E rfl,trivial⟩,⟨rfl,l7,l8⟩⟩
 refine mv E rfl fun a E=>lw E (qaJ Tryz.underlying9 rfl) fun a E=>lw E (qbD rfl rfl) fun a E=>pf E rfl rfl fun a E=>mv E rfl fun a E=>bu E 34 hF (fun c11 hF E=>?_) fun c11 hF E=>?_
 ·refine lsq E fun a E=>ls E fun a E=>pt E rfl rfl fun a E=>mv E rfl fun a E=>lsz E fun a E=>lsz E fun a E=>pt E rfl rfl fun a E=>av E rfl fun a E=>wn<|c_if E rfl (fun _=>?_) (fun h=>by cases h)
  refine sg<|lv E ok (qan (cs:=[vb r2.2,vs r5.1,vs r5.2.1]) qa9 rfl rfl (qae.own 0 rfl rfl)) fun a E=>qad E ok 1 rfl rfl rfl qb9 rfl rfl ⟨rfl,rfl,rfl,trivial⟩ rfl rfl fun w ok=>aw E rfl fun a E=>wp_ret<|qaL<|qam ?_
  exact fin hF ⟨m0,[vb r2.2,vs r5.1,vs r5.2.1],le_m0,ok.drop.drop,E.d,⟨rv_c (cs:=[vb r2.2,vs r5.1,vs r5.2.1]) E ok rfl qa9 rfl (qae.own 1 rfl rfl),rv_t E rfl,trivial⟩,⟨rfl,l7,l8⟩⟩
 refine mv E rfl fun a E=>bd hF fun r12 e13 hF=>lc E qju rfl (qeg N r5.1 l7 e13 hG ok) fun w ok a E=>lw E (qbh rfl) fun a E=>pf E rfl rfl fun a E=>mv E rfl fun a E=>bu E 39 hF (fun c14 hF E=>?_) fun c14 hF E=>?_
 ·refine lsz E fun a E=>lsz E fun a E=>pt E rfl rfl fun a E=>aw E rfl fun a E=>c_if E rfl (fun _=>?_) (fun h=>by cases h)
  refine sg<|lv E ok (qan (cs:=[vb r2.2,vs r5.1,vs r5.2.1]) qa9 rfl rfl (qae.own 0 rfl rfl)) fun a E=>qad E ok 1 rfl rfl rfl qb9 rfl rfl ⟨rfl,rfl,rfl,trivial⟩ rfl rfl fun w ok=>aw E rfl fun a E=>wp_ret<|qaL<|qam ?_
  exact fin hF ⟨m0,[vb r2.2,vs r5.1,vs r5.2.1],le_m0,ok.drop.drop,E.d,⟨rv_c (cs:=[vb r2.2,vs r5.1,vs r5.2.1]) E ok rfl qa9 rfl (qae.own 1 rfl rfl),rv_t E rfl,trivial⟩,⟨rfl,l7,l8⟩⟩
 refine mv E rfl fun a E=>lw E (qaJ Tryz.underlying9 rfl) fun a E=>lw E (qbD rfl rfl) fun a E=>mv E rfl fun a E=>bw E 43 hF (fun c15 hF E=>?_) fun c15 hF E=>?_
 ·as_aux_lemma =>
   refine lsq E fun a E=>ls E fun a E=>pf E rfl rfl fun a E=>pf E rfl rfl fun a E=>aw E rfl fun a E=>c_if E rfl (fun h=>by cases h) (fun _=>?_)
   refine sg<|mz E rfl rfl fun a E=>qbr r5.2.2 (fun c45=>?_) (fun c45=>?_)
   rotate_left
   ·as_aux_lemma =>
     have hF:=qbn c45 hF
     have E:=E.upd 52 c45 rfl
     refine lsq E fun a E=>ls E fun a E=>pf E rfl rfl fun a E=>mz E rfl rfl fun a E=>lw E (qaJ Tryz.underlying9 rfl) fun a E=>lw E (qbD rfl rfl) fun a E=>pf E rfl rfl fun a E=>mv E rfl fun a E=>bu E 62 hF (fun c59 hF E=>?_) fun c59 hF E=>?_
     ·refine lsq E fun a E=>ls E fun a E=>pt E rfl rfl fun a E=>aw E rfl fun a E=>c_if E rfl (fun _=>?_) (fun h=>by cases h)
      refine sg<|lv E ok (qan (cs:=[vb r2.2,vs r5.1,vs r5.2.1]) qa9 rfl rfl (qae.own 0 rfl rfl)) fun a E=>qad E ok 1 rfl rfl rfl qb9 rfl rfl ⟨rfl,rfl,rfl,trivial⟩ rfl rfl fun w ok=>aw E rfl fun a E=>wp_ret<|qaL<|qam ?_
      exact fin hF ⟨m0,[vb r2.2,vs r5.1,vs r5.2.1],le_m0,ok.drop.drop,E.d,⟨rv_c (cs:=[vb r2.2,vs r5.1,vs r5.2.1]) E ok rfl qa9 rfl (qae.own 1 rfl rfl),rv_t E rfl,trivial⟩,⟨rfl,l7,l8⟩⟩
     refine mv E rfl fun a E=>bd hF fun r60 e61 hF=>lc E qju rfl (qeg N r5.2.1 l8 e61 hG ok) fun w ok a E=>lw E (qbh rfl) fun a E=>pf E rfl rfl fun a E=>aw E rfl fun a E=>cf E rfl hF (fun c62 hF=>?_) fun c62 hF=>?_
     ·refine sg<|lv E ok (qan (cs:=[vb r2.2,vs r5.1,vs r5.2.1]) qa9 rfl rfl (qae.own 0 rfl rfl)) fun a E=>qad E ok 1 rfl rfl rfl qb9 rfl rfl ⟨rfl,rfl,rfl,trivial⟩ rfl rfl fun w ok=>aw E rfl fun a E=>wp_ret<|qaL<|qam ?_
      exact fin hF ⟨m0,[vb r2.2,vs r5.1,vs r5.2.1],le_m0,ok.drop.drop,E.d,⟨rv_c (cs:=[vb r2.2,vs r5.1,vs r5.2.1]) E ok rfl qa9 rfl (qae.own 1 rfl rfl),rv_t E rfl,trivial⟩,⟨rfl,l7,l8⟩⟩
     refine wp_skip<|qag<|qaa<|wp_seq<|bd hF fun o63 hJ hF=>qaK (Q':=fun e a w=>e = .normal ∧ Ok u m0 ([(b9,oc 214 [vb r2.2,vs r5.1,vs r5.2.1])] :: [(b1,oc 214 [vb o63.2.negative,vs o63.2.whole,vs o63.2.fraction])] :: S) w ∧ Env 76 a [(2,vp b1),(3,vb o63.1)] ∧ o63.2.whole.length ≤ LIMS ∧ o63.2.fraction.length ≤ LIMS) ?_ ?_
     rotate_left
     ·intro e a w hO
      obtain ⟨rfl,ok,E,l69,l70⟩:=hO
      refine qaa<|wp_ret ?_
      exact fin hF ⟨m0,[vb o63.2.negative,vs o63.2.whole,vs o63.2.fraction],le_m0,ok.drop.drop,E.d,⟨rv_c (cs:=[vb o63.2.negative,vs o63.2.whole,vs o63.2.fraction]) E ok rfl qa9 rfl (qae.own 1 rfl rfl),rv_t E rfl,trivial⟩,⟨rfl,l69,l70⟩⟩
     have hF:=hJ
     refine qbr (!r2.2) (fun c66=>?_) (fun c66=>?_)
     ·have hF:=qbo c66 hF
      cases hF
      refine qbl [0] (Cls u m0 ([(b9,oc 214 [vb r2.2,vs r5.1,vs r5.2.1])] :: [(b1,oc 214 [vb false,(vs ([])),(vs ([]))])] :: [])) (Cls u m0 ([(b9,oc 214 [vb r2.2,vs r5.1,vs r5.2.1])] :: [])) (by kernel_rfl) ?_
      intro w hw
      replace ok:=qbE ok hw
      clear hw
      refine qar (cl1 (cq le_m0 ok [0,1] rfl) (cq le_m0 ok [0] rfl)) fun hT=>qct 0 E rfl (by kernel_rfl) nP hT (qan (cs:=[vb r2.2,vs r5.1,vs r5.2.1]) qa9 rfl rfl (qae.cown 0 rfl rfl)) rfl rfl fun a E=>kt 1 E rfl hT (qah rfl) fun a E=>kt 2 E rfl hT (qbh rfl) fun a E=>kt 3 E rfl hT (qah rfl) fun a E=>?_
      have E:=E.upd 71 c66 rfl
      refine qbk 4 false E rfl (by kernel_rfl) nP hT rfl rfl fun a E=>qbk 5 false E rfl (by kernel_rfl) nP hT rfl rfl fun a E=>qbk 6 false E rfl (by kernel_rfl) nP hT rfl rfl fun a E=>kt 7 E rfl hT (qdD rfl rfl) fun a E=>qaP [8] (by kernel_rfl) rfl (qaT ?_)
      ·refine wo rfl<|qad E ok 1 rfl rfl rfl qb9 rfl rfl ⟨rfl,rfl,rfl,trivial⟩ rfl rfl fun w ok=>wn<|qar (cl2 (by kernel_rfl) (cq le_m0 ok [0] rfl)) fun hT=>kt 9 E rfl hT (qaI rfl) fun a E=>qbw (by kernel_rfl) ?_
       exact ⟨rfl,⟨ok,E.keep [2,3],l7,l8⟩⟩
     have hF:=qbn c66 hF
     obtain ⟨r67,e68,hF⟩:=bnd hF
     obtain rfl:=sj hF
     refine qbl [0] (Cls u m0 ([(b9,oc 214 [vb r2.2,vs r5.1,vs r5.2.1])] :: [(b1,oc 214 [vb false,(vs ([])),(vs ([]))])] :: [])) (Cls u m0 ([(b9,oc 214 [vb r2.2,vs r5.1,vs r5.2.1])] :: [])) (by kernel_rfl) ?_
     intro w hw
     replace ok:=qbE ok hw
     clear hw
     refine qar (cl1 (cq le_m0 ok [0,1] rfl) (cq le_m0 ok [0] rfl)) fun hT=>qct 0 E rfl (by kernel_rfl) nP hT (qan (cs:=[vb r2.2,vs r5.1,vs r5.2.1]) qa9 rfl rfl (qae.cown 0 rfl rfl)) rfl rfl fun a E=>kt 1 E rfl hT (qah rfl) fun a E=>kt 2 E rfl hT (qbh rfl) fun a E=>kt 3 E rfl hT (qah rfl) fun a E=>?_
     have E:=E.upd 71 c66 rfl
     refine kt 4 E rfl hT (qan (cs:=[vb r2.2,vs r5.1,vs r5.2.1]) qa9 rfl rfl (qae.cown 0 rfl rfl)) fun a E=>qaP [5] (by kernel_rfl) rfl (qaT ?_)
     ·refine wo rfl<|lc E qka rfl (qdT N _ (Number.mk r2.2 r5.1 r5.2.1) ⟨rfl,l7,l8⟩ e68 hG ok) fun w ok a E=>wn<|qar (cl1 (cq le_m0 ok [0,1] rfl) (cq le_m0 ok [0] rfl)) fun hT=>kt 6 E rfl hT (qbh rfl) fun a E=>kt 7 E rfl hT (qdk rfl rfl) fun a E=>qaP [8] (by kernel_rfl) rfl (qaT ?_)
      ·refine wo rfl<|qad E ok 1 rfl rfl rfl qb9 rfl rfl ⟨rfl,rfl,rfl,trivial⟩ rfl rfl fun w ok=>wn<|qar (cl2 (by kernel_rfl) (cq le_m0 ok [0] rfl)) fun hT=>kt 9 E rfl hT (qaI rfl) fun a E=>qbw (by kernel_rfl) ?_
       exact ⟨rfl,⟨ok,E.keep [2,3],l7,l8⟩⟩
   have hF:=qbo c45 hF
   have E:=E.upd 52 c45 rfl
   refine mv E rfl fun a E=>lw E (qaJ Tryz.underlying9 rfl) fun a E=>lw E (qap rfl rfl) fun a E=>pt E rfl rfl fun a E=>mv E rfl fun a E=>bu E 57 hF (fun c46 hF E=>?_) fun c46 hF E=>?_
   ·refine lsq E fun a E=>ls E fun a E=>pt E rfl rfl fun a E=>mv E rfl fun a E=>lsq E fun a E=>ls E fun a E=>pt E rfl rfl fun a E=>aw E rfl fun a E=>c_if E rfl (fun _=>?_) (fun h=>by cases h)
    refine sg<|lv E ok (qan (cs:=[vb r2.2,vs r5.1,vs r5.2.1]) qa9 rfl rfl (qae.own 0 rfl rfl)) fun a E=>qad E ok 1 rfl rfl rfl qb9 rfl rfl ⟨rfl,rfl,rfl,trivial⟩ rfl rfl fun w ok=>aw E rfl fun a E=>wp_ret<|qaL<|qam ?_
    exact fin hF ⟨m0,[vb r2.2,vs r5.1,vs r5.2.1],le_m0,ok.drop.drop,E.d,⟨rv_c (cs:=[vb r2.2,vs r5.1,vs r5.2.1]) E ok rfl qa9 rfl (qae.own 1 rfl rfl),rv_t E rfl,trivial⟩,⟨rfl,l7,l8⟩⟩
   refine mv E rfl fun a E=>lw E (qaJ Tryz.underlying9 rfl) fun a E=>lw E (qbD rfl rfl) fun a E=>pf E rfl rfl fun a E=>mv E rfl fun a E=>bu E 62 hF (fun c47 hF E=>?_) fun c47 hF E=>?_
   ·refine lsq E fun a E=>ls E fun a E=>pt E rfl rfl fun a E=>aw E rfl fun a E=>c_if E rfl (fun _=>?_) (fun h=>by cases h)
    refine sg<|lv E ok (qan (cs:=[vb r2.2,vs r5.1,vs r5.2.1]) qa9 rfl rfl (qae.own 0 rfl rfl)) fun a E=>qad E ok 1 rfl rfl rfl qb9 rfl rfl ⟨rfl,rfl,rfl,trivial⟩ rfl rfl fun w ok=>aw E rfl fun a E=>wp_ret<|qaL<|qam ?_
    exact fin hF ⟨m0,[vb r2.2,vs r5.1,vs r5.2.1],le_m0,ok.drop.drop,E.d,⟨rv_c (cs:=[vb r2.2,vs r5.1,vs r5.2.1]) E ok rfl qa9 rfl (qae.own 1 rfl rfl),rv_t E rfl,trivial⟩,⟨rfl,l7,l8⟩⟩
   refine mv E rfl fun a E=>bd hF fun r48 e49 hF=>lc E qju rfl (qeg N r5.2.1 l8 e49 hG ok) fun w ok a E=>lw E (qbh rfl) fun a E=>pf E rfl rfl fun a E=>aw E rfl fun a E=>cf E rfl hF (fun c50 hF=>?_) fun c50 hF=>?_
   ·refine sg<|lv E ok (qan (cs:=[vb r2.2,vs r5.1,vs r5.2.1]) qa9 rfl rfl (qae.own 0 rfl rfl)) fun a E=>qad E ok 1 rfl rfl rfl qb9 rfl rfl ⟨rfl,rfl,rfl,trivial⟩ rfl rfl fun w ok=>aw E rfl fun a E=>wp_ret<|qaL<|qam ?_
    exact fin hF ⟨m0,[vb r2.2,vs r5.1,vs r5.2.1],le_m0,ok.drop.drop,E.d,⟨rv_c (cs:=[vb r2.2,vs r5.1,vs r5.2.1]) E ok rfl qa9 rfl (qae.own 1 rfl rfl),rv_t E rfl,trivial⟩,⟨rfl,l7,l8⟩⟩
   refine wp_skip<|qag<|qaa<|wp_seq<|bd hF fun o51 hJ hF=>qaK (Q':=fun e a w=>e = .normal ∧ Ok u m0 ([(b9,oc 214 [vb r2.2,vs r5.1,vs r5.2.1])] :: [(b1,oc 214 [vb o51.2.negative,vs o51.2.whole,vs o51.2.fraction])] :: S) w ∧ Env 76 a [(2,vp b1),(3,vb o51.1)] ∧ o51.2.whole.length ≤ LIMS ∧ o51.2.fraction.length ≤ LIMS) ?_ ?_
   rotate_left
   ·intro e a w hO
    obtain ⟨rfl,ok,E,l57,l58⟩:=hO
    refine qaa<|wp_ret ?_
    exact fin hF ⟨m0,[vb o51.2.negative,vs o51.2.whole,vs o51.2.fraction],le_m0,ok.drop.drop,E.d,⟨rv_c (cs:=[vb o51.2.negative,vs o51.2.whole,vs o51.2.fraction]) E ok rfl qa9 rfl (qae.own 1 rfl rfl),rv_t E rfl,trivial⟩,⟨rfl,l57,l58⟩⟩
   have hF:=hJ
   refine qbr (!r2.2) (fun c54=>?_) (fun c54=>?_)
   ·have hF:=qbo c54 hF
    cases hF
    refine qbl [0] (Cls u m0 ([(b9,oc 214 [vb r2.2,vs r5.1,vs r5.2.1])] :: [(b1,oc 214 [vb false,(vs ([])),(vs ([]))])] :: [])) (Cls u m0 ([(b9,oc 214 [vb r2.2,vs r5.1,vs r5.2.1])] :: [])) (by kernel_rfl) ?_
    intro w hw
    replace ok:=qbE ok hw
    clear hw
    refine qar (cl1 (cq le_m0 ok [0,1] rfl) (cq le_m0 ok [0] rfl)) fun hT=>qct 0 E rfl (by kernel_rfl) nP hT (qan (cs:=[vb r2.2,vs r5.1,vs r5.2.1]) qa9 rfl rfl (qae.cown 0 rfl rfl)) rfl rfl fun a E=>kt 1 E rfl hT (qah rfl) fun a E=>kt 2 E rfl hT (qbh rfl) fun a E=>kt 3 E rfl hT (qah rfl) fun a E=>?_
    have E:=E.upd 71 c54 rfl
    refine qbk 4 false E rfl (by kernel_rfl) nP hT rfl rfl fun a E=>qbk 5 false E rfl (by kernel_rfl) nP hT rfl rfl fun a E=>qbk 6 false E rfl (by kernel_rfl) nP hT rfl rfl fun a E=>kt 7 E rfl hT (qdD rfl rfl) fun a E=>qaP [8] (by kernel_rfl) rfl (qaT ?_)
    ·refine wo rfl<|qad E ok 1 rfl rfl rfl qb9 rfl rfl ⟨rfl,rfl,rfl,trivial⟩ rfl rfl fun w ok=>wn<|qar (cl2 (by kernel_rfl) (cq le_m0 ok [0] rfl)) fun hT=>kt 9 E rfl hT (qaI rfl) fun a E=>qbw (by kernel_rfl) ?_
     exact ⟨rfl,⟨ok,E.keep [2,3],l7,l8⟩⟩
   have hF:=qbn c54 hF
   obtain ⟨r55,e56,hF⟩:=bnd hF
   obtain rfl:=sj hF
   refine qbl [0] (Cls u m0 ([(b9,oc 214 [vb r2.2,vs r5.1,vs r5.2.1])] :: [(b1,oc 214 [vb false,(vs ([])),(vs ([]))])] :: [])) (Cls u m0 ([(b9,oc 214 [vb r2.2,vs r5.1,vs r5.2.1])] :: [])) (by kernel_rfl) ?_
   intro w hw
   replace ok:=qbE ok hw
   clear hw
   refine qar (cl1 (cq le_m0 ok [0,1] rfl) (cq le_m0 ok [0] rfl)) fun hT=>qct 0 E rfl (by kernel_rfl) nP hT (qan (cs:=[vb r2.2,vs r5.1,vs r5.2.1]) qa9 rfl rfl (qae.cown 0 rfl rfl)) rfl rfl fun a E=>kt 1 E rfl hT (qah rfl) fun a E=>kt 2 E rfl hT (qbh rfl) fun a E=>kt 3 E rfl hT (qah rfl) fun a E=>?_
   have E:=E.upd 71 c54 rfl
   refine kt 4 E rfl hT (qan (cs:=[vb r2.2,vs r5.1,vs r5.2.1]) qa9 rfl rfl (qae.cown 0 rfl rfl)) fun a E=>qaP [5] (by kernel_rfl) rfl (qaT ?_)
   ·refine wo rfl<|lc E qka rfl (qdT N _ (Number.mk r2.2 r5.1 r5.2.1) ⟨rfl,l7,l8⟩ e56 hG ok) fun w ok a E=>wn<|qar (cl1 (cq le_m0 ok [0,1] rfl) (cq le_m0 ok [0] rfl)) fun hT=>kt 6 E rfl hT (qbh rfl) fun a E=>kt 7 E rfl hT (qdk rfl rfl) fun a E=>qaP [8] (by kernel_rfl) rfl (qaT ?_)
    ·refine wo rfl<|qad E ok 1 rfl rfl rfl qb9 rfl rfl ⟨rfl,rfl,rfl,trivial⟩ rfl rfl fun w ok=>wn<|qar (cl2 (by kernel_rfl) (cq le_m0 ok [0] rfl)) fun hT=>kt 9 E rfl hT (qaI rfl) fun a E=>qbw (by kernel_rfl) ?_
     exact ⟨rfl,⟨ok,E.keep [2,3],l7,l8⟩⟩
 refine mv E rfl fun a E=>bd hF fun c16 e17 hF=>lv E ok (qaD Tryz.underlying9 rfl rfl e17) fun a E=>lw E (qap rfl rfl) fun a E=>pt E rfl rfl fun a E=>pf E rfl rfl fun a E=>aw E rfl fun a E=>cf E rfl hF (fun c18 hF=>?_) fun c18 hF=>?_
 ·refine sg<|lv E ok (qan (cs:=[vb r2.2,vs r5.1,vs r5.2.1]) qa9 rfl rfl (qae.own 0 rfl rfl)) fun a E=>qad E ok 1 rfl rfl rfl qb9 rfl rfl ⟨rfl,rfl,rfl,trivial⟩ rfl rfl fun w ok=>aw E rfl fun a E=>wp_ret<|qaL<|qam ?_
  exact fin hF ⟨m0,[vb r2.2,vs r5.1,vs r5.2.1],le_m0,ok.drop.drop,E.d,⟨rv_c (cs:=[vb r2.2,vs r5.1,vs r5.2.1]) E ok rfl qa9 rfl (qae.own 1 rfl rfl),rv_t E rfl,trivial⟩,⟨rfl,l7,l8⟩⟩
 refine sg<|mz E rfl rfl fun a E=>qbr r5.2.2 (fun c19=>?_) (fun c19=>?_)
 rotate_left
 ·as_aux_lemma =>
   have hF:=qbn c19 hF
   have E:=E.upd 52 c19 rfl
   refine lsq E fun a E=>ls E fun a E=>pf E rfl rfl fun a E=>mz E rfl rfl fun a E=>lw E (qaJ Tryz.underlying9 rfl) fun a E=>lw E (qbD rfl rfl) fun a E=>pf E rfl rfl fun a E=>mv E rfl fun a E=>bu E 62 hF (fun c33 hF E=>?_) fun c33 hF E=>?_
   ·refine lsq E fun a E=>ls E fun a E=>pt E rfl rfl fun a E=>aw E rfl fun a E=>c_if E rfl (fun _=>?_) (fun h=>by cases h)
    refine sg<|lv E ok (qan (cs:=[vb r2.2,vs r5.1,vs r5.2.1]) qa9 rfl rfl (qae.own 0 rfl rfl)) fun a E=>qad E ok 1 rfl rfl rfl qb9 rfl rfl ⟨rfl,rfl,rfl,trivial⟩ rfl rfl fun w ok=>aw E rfl fun a E=>wp_ret<|qaL<|qam ?_
    exact fin hF ⟨m0,[vb r2.2,vs r5.1,vs r5.2.1],le_m0,ok.drop.drop,E.d,⟨rv_c (cs:=[vb r2.2,vs r5.1,vs r5.2.1]) E ok rfl qa9 rfl (qae.own 1 rfl rfl),rv_t E rfl,trivial⟩,⟨rfl,l7,l8⟩⟩
   refine mv E rfl fun a E=>bd hF fun r34 e35 hF=>lc E qju rfl (qeg N r5.2.1 l8 e35 hG ok) fun w ok a E=>lw E (qbh rfl) fun a E=>pf E rfl rfl fun a E=>aw E rfl fun a E=>cf E rfl hF (fun c36 hF=>?_) fun c36 hF=>?_
   ·refine sg<|lv E ok (qan (cs:=[vb r2.2,vs r5.1,vs r5.2.1]) qa9 rfl rfl (qae.own 0 rfl rfl)) fun a E=>qad E ok 1 rfl rfl rfl qb9 rfl rfl ⟨rfl,rfl,rfl,trivial⟩ rfl rfl fun w ok=>aw E rfl fun a E=>wp_ret<|qaL<|qam ?_
    exact fin hF ⟨m0,[vb r2.2,vs r5.1,vs r5.2.1],le_m0,ok.drop.drop,E.d,⟨rv_c (cs:=[vb r2.2,vs r5.1,vs r5.2.1]) E ok rfl qa9 rfl (qae.own 1 rfl rfl),rv_t E rfl,trivial⟩,⟨rfl,l7,l8⟩⟩
   refine wp_skip<|qag<|qaa<|wp_seq<|bd hF fun o37 hJ hF=>qaK (Q':=fun e a w=>e = .normal ∧ Ok u m0 ([(b9,oc 214 [vb r2.2,vs r5.1,vs r5.2.1])] :: [(b1,oc 214 [vb o37.2.negative,vs o37.2.whole,vs o37.2.fraction])] :: S) w ∧ Env 76 a [(2,vp b1),(3,vb o37.1)] ∧ o37.2.whole.length ≤ LIMS ∧ o37.2.fraction.length ≤ LIMS) ?_ ?_
   rotate_left
   ·intro e a w hO
    obtain ⟨rfl,ok,E,l43,l44⟩:=hO
    refine qaa<|wp_ret ?_
    exact fin hF ⟨m0,[vb o37.2.negative,vs o37.2.whole,vs o37.2.fraction],le_m0,ok.drop.drop,E.d,⟨rv_c (cs:=[vb o37.2.negative,vs o37.2.whole,vs o37.2.fraction]) E ok rfl qa9 rfl (qae.own 1 rfl rfl),rv_t E rfl,trivial⟩,⟨rfl,l43,l44⟩⟩
   have hF:=hJ
   refine qbr (!r2.2) (fun c40=>?_) (fun c40=>?_)
   ·have hF:=qbo c40 hF
    cases hF
    refine qbl [0] (Cls u m0 ([(b9,oc 214 [vb r2.2,vs r5.1,vs r5.2.1])] :: [(b1,oc 214 [vb false,(vs ([])),(vs ([]))])] :: [])) (Cls u m0 ([(b9,oc 214 [vb r2.2,vs r5.1,vs r5.2.1])] :: [])) (by kernel_rfl) ?_
    intro w hw
    replace ok:=qbE ok hw
    clear hw
    refine qar (cl1 (cq le_m0 ok [0,1] rfl) (cq le_m0 ok [0] rfl)) fun hT=>qct 0 E rfl (by kernel_rfl) nP hT (qan (cs:=[vb r2.2,vs r5.1,vs r5.2.1]) qa9 rfl rfl (qae.cown 0 rfl rfl)) rfl rfl fun a E=>kt 1 E rfl hT (qah rfl) fun a E=>kt 2 E rfl hT (qbh rfl) fun a E=>kt 3 E rfl hT (qah rfl) fun a E=>?_
    have E:=E.upd 71 c40 rfl
    refine qbk 4 false E rfl (by kernel_rfl) nP hT rfl rfl fun a E=>qbk 5 false E rfl (by kernel_rfl) nP hT rfl rfl fun a E=>qbk 6 false E rfl (by kernel_rfl) nP hT rfl rfl fun a E=>kt 7 E rfl hT (qdD rfl rfl) fun a E=>qaP [8] (by kernel_rfl) rfl (qaT ?_)
    ·refine wo rfl<|qad E ok 1 rfl rfl rfl qb9 rfl rfl ⟨rfl,rfl,rfl,trivial⟩ rfl rfl fun w ok=>wn<|qar (cl2 (by kernel_rfl) (cq le_m0 ok [0] rfl)) fun hT=>kt 9 E rfl hT (qaI rfl) fun a E=>qbw (by kernel_rfl) ?_
     exact ⟨rfl,⟨ok,E.keep [2,3],l7,l8⟩⟩
   have hF:=qbn c40 hF
   obtain ⟨r41,e42,hF⟩:=bnd hF
   obtain rfl:=sj hF
   refine qbl [0] (Cls u m0 ([(b9,oc 214 [vb r2.2,vs r5.1,vs r5.2.1])] :: [(b1,oc 214 [vb false,(vs ([])),(vs ([]))])] :: [])) (Cls u m0 ([(b9,oc 214 [vb r2.2,vs r5.1,vs r5.2.1])] :: [])) (by kernel_rfl) ?_
   intro w hw
   replace ok:=qbE ok hw
   clear hw
   refine qar (cl1 (cq le_m0 ok [0,1] rfl) (cq le_m0 ok [0] rfl)) fun hT=>qct 0 E rfl (by kernel_rfl) nP hT (qan (cs:=[vb r2.2,vs r5.1,vs r5.2.1]) qa9 rfl rfl (qae.cown 0 rfl rfl)) rfl rfl fun a E=>kt 1 E rfl hT (qah rfl) fun a E=>kt 2 E rfl hT (qbh rfl) fun a E=>kt 3 E rfl hT (qah rfl) fun a E=>?_
   have E:=E.upd 71 c40 rfl
   refine kt 4 E rfl hT (qan (cs:=[vb r2.2,vs r5.1,vs r5.2.1]) qa9 rfl rfl (qae.cown 0 rfl rfl)) fun a E=>qaP [5] (by kernel_rfl) rfl (qaT ?_)
   ·refine wo rfl<|lc E qka rfl (qdT N _ (Number.mk r2.2 r5.1 r5.2.1) ⟨rfl,l7,l8⟩ e42 hG ok) fun w ok a E=>wn<|qar (cl1 (cq le_m0 ok [0,1] rfl) (cq le_m0 ok [0] rfl)) fun hT=>kt 6 E rfl hT (qbh rfl) fun a E=>kt 7 E rfl hT (qdk rfl rfl) fun a E=>qaP [8] (by kernel_rfl) rfl (qaT ?_)
    ·refine wo rfl<|qad E ok 1 rfl rfl rfl qb9 rfl rfl ⟨rfl,rfl,rfl,trivial⟩ rfl rfl fun w ok=>wn<|qar (cl2 (by kernel_rfl) (cq le_m0 ok [0] rfl)) fun hT=>kt 9 E rfl hT (qaI rfl) fun a E=>qbw (by kernel_rfl) ?_
     exact ⟨rfl,⟨ok,E.keep [2,3],l7,l8⟩⟩
 have hF:=qbo c19 hF
 have E:=E.upd 52 c19 rfl
 refine mv E rfl fun a E=>lw E (qaJ Tryz.underlying9 rfl) fun a E=>lw E (qap rfl rfl) fun a E=>pt E rfl rfl fun a E=>mv E rfl fun a E=>bu E 57 hF (fun c20 hF E=>?_) fun c20 hF E=>?_
 ·refine lsq E fun a E=>ls E fun a E=>pt E rfl rfl fun a E=>mv E rfl fun a E=>lsq E fun a E=>ls E fun a E=>pt E rfl rfl fun a E=>aw E rfl fun a E=>c_if E rfl (fun _=>?_) (fun h=>by cases h)
  refine sg<|lv E ok (qan (cs:=[vb r2.2,vs r5.1,vs r5.2.1]) qa9 rfl rfl (qae.own 0 rfl rfl)) fun a E=>qad E ok 1 rfl rfl rfl qb9 rfl rfl ⟨rfl,rfl,rfl,trivial⟩ rfl rfl fun w ok=>aw E rfl fun a E=>wp_ret<|qaL<|qam ?_
  exact fin hF ⟨m0,[vb r2.2,vs r5.1,vs r5.2.1],le_m0,ok.drop.drop,E.d,⟨rv_c (cs:=[vb r2.2,vs r5.1,vs r5.2.1]) E ok rfl qa9 rfl (qae.own 1 rfl rfl),rv_t E rfl,trivial⟩,⟨rfl,l7,l8⟩⟩
 refine mv E rfl fun a E=>lw E (qaJ Tryz.underlying9 rfl) fun a E=>lw E (qbD rfl rfl) fun a E=>pf E rfl rfl fun a E=>mv E rfl fun a E=>bu E 62 hF (fun c21 hF E=>?_) fun c21 hF E=>?_
 ·refine lsq E fun a E=>ls E fun a E=>pt E rfl rfl fun a E=>aw E rfl fun a E=>c_if E rfl (fun _=>?_) (fun h=>by cases h)
  refine sg<|lv E ok (qan (cs:=[vb r2.2,vs r5.1,vs r5.2.1]) qa9 rfl rfl (qae.own 0 rfl rfl)) fun a E=>qad E ok 1 rfl rfl rfl qb9 rfl rfl ⟨rfl,rfl,rfl,trivial⟩ rfl rfl fun w ok=>aw E rfl fun a E=>wp_ret<|qaL<|qam ?_
  exact fin hF ⟨m0,[vb r2.2,vs r5.1,vs r5.2.1],le_m0,ok.drop.drop,E.d,⟨rv_c (cs:=[vb r2.2,vs r5.1,vs r5.2.1]) E ok rfl qa9 rfl (qae.own 1 rfl rfl),rv_t E rfl,trivial⟩,⟨rfl,l7,l8⟩⟩
 refine mv E rfl fun a E=>bd hF fun r22 e23 hF=>lc E qju rfl (qeg N r5.2.1 l8 e23 hG ok) fun w ok a E=>lw E (qbh rfl) fun a E=>pf E rfl rfl fun a E=>aw E rfl fun a E=>cf E rfl hF (fun c24 hF=>?_) fun c24 hF=>?_
 ·refine sg<|lv E ok (qan (cs:=[vb r2.2,vs r5.1,vs r5.2.1]) qa9 rfl rfl (qae.own 0 rfl rfl)) fun a E=>qad E ok 1 rfl rfl rfl qb9 rfl rfl ⟨rfl,rfl,rfl,trivial⟩ rfl rfl fun w ok=>aw E rfl fun a E=>wp_ret<|qaL<|qam ?_
  exact fin hF ⟨m0,[vb r2.2,vs r5.1,vs r5.2.1],le_m0,ok.drop.drop,E.d,⟨rv_c (cs:=[vb r2.2,vs r5.1,vs r5.2.1]) E ok rfl qa9 rfl (qae.own 1 rfl rfl),rv_t E rfl,trivial⟩,⟨rfl,l7,l8⟩⟩
 refine wp_skip<|qag<|qaa<|wp_seq<|bd hF fun o25 hJ hF=>qaK (Q':=fun e a w=>e = .normal ∧ Ok u m0 ([(b9,oc 214 [vb r2.2,vs r5.1,vs r5.2.1])] :: [(b1,oc 214 [vb o25.2.negative,vs o25.2.whole,vs o25.2.fraction])] :: S) w ∧ Env 76 a [(2,vp b1),(3,vb o25.1)] ∧ o25.2.whole.length ≤ LIMS ∧ o25.2.fraction.length ≤ LIMS) ?_ ?_
 rotate_left
 ·intro e a w hO
  obtain ⟨rfl,ok,E,l31,l32⟩:=hO
  refine qaa<|wp_ret ?_
  exact fin hF ⟨m0,[vb o25.2.negative,vs o25.2.whole,vs o25.2.fraction],le_m0,ok.drop.drop,E.d,⟨rv_c (cs:=[vb o25.2.negative,vs o25.2.whole,vs o25.2.fraction]) E ok rfl qa9 rfl (qae.own 1 rfl rfl),rv_t E rfl,trivial⟩,⟨rfl,l31,l32⟩⟩
 have hF:=hJ
 refine qbr (!r2.2) (fun c28=>?_) (fun c28=>?_)
 ·have hF:=qbo c28 hF
  cases hF
  refine qbl [0] (Cls u m0 ([(b9,oc 214 [vb r2.2,vs r5.1,vs r5.2.1])] :: [(b1,oc 214 [vb false,(vs ([])),(vs ([]))])] :: [])) (Cls u m0 ([(b9,oc 214 [vb r2.2,vs r5.1,vs r5.2.1])] :: [])) (by kernel_rfl) ?_
  intro w hw
  replace ok:=qbE ok hw
  clear hw
  refine qar (cl1 (cq le_m0 ok [0,1] rfl) (cq le_m0 ok [0] rfl)) fun hT=>qct 0 E rfl (by kernel_rfl) nP hT (qan (cs:=[vb r2.2,vs r5.1,vs r5.2.1]) qa9 rfl rfl (qae.cown 0 rfl rfl)) rfl rfl fun a E=>kt 1 E rfl hT (qah rfl) fun a E=>kt 2 E rfl hT (qbh rfl) fun a E=>kt 3 E rfl hT (qah rfl) fun a E=>?_
  have E:=E.upd 71 c28 rfl
  refine qbk 4 false E rfl (by kernel_rfl) nP hT rfl rfl fun a E=>qbk 5 false E rfl (by kernel_rfl) nP hT rfl rfl fun a E=>qbk 6 false E rfl (by kernel_rfl) nP hT rfl rfl fun a E=>kt 7 E rfl hT (qdD rfl rfl) fun a E=>qaP [8] (by kernel_rfl) rfl (qaT ?_)
  ·refine wo rfl<|qad E ok 1 rfl rfl rfl qb9 rfl rfl ⟨rfl,rfl,rfl,trivial⟩ rfl rfl fun w ok=>wn<|qar (cl2 (by kernel_rfl) (cq le_m0 ok [0] rfl)) fun hT=>kt 9 E rfl hT (qaI rfl) fun a E=>qbw (by kernel_rfl) ?_
   exact ⟨rfl,⟨ok,E.keep [2,3],l7,l8⟩⟩
 have hF:=qbn c28 hF
 obtain ⟨r29,e30,hF⟩:=bnd hF
 obtain rfl:=sj hF
 refine qbl [0] (Cls u m0 ([(b9,oc 214 [vb r2.2,vs r5.1,vs r5.2.1])] :: [(b1,oc 214 [vb false,(vs ([])),(vs ([]))])] :: [])) (Cls u m0 ([(b9,oc 214 [vb r2.2,vs r5.1,vs r5.2.1])] :: [])) (by kernel_rfl) ?_
 intro w hw
 replace ok:=qbE ok hw
 clear hw
 refine qar (cl1 (cq le_m0 ok [0,1] rfl) (cq le_m0 ok [0] rfl)) fun hT=>qct 0 E rfl (by kernel_rfl) nP hT (qan (cs:=[vb r2.2,vs r5.1,vs r5.2.1]) qa9 rfl rfl (qae.cown 0 rfl rfl)) rfl rfl fun a E=>kt 1 E rfl hT (qah rfl) fun a E=>kt 2 E rfl hT (qbh rfl) fun a E=>kt 3 E rfl hT (qah rfl) fun a E=>?_
 have E:=E.upd 71 c28 rfl
 refine kt 4 E rfl hT (qan (cs:=[vb r2.2,vs r5.1,vs r5.2.1]) qa9 rfl rfl (qae.cown 0 rfl rfl)) fun a E=>qaP [5] (by kernel_rfl) rfl (qaT ?_)
 ·refine wo rfl<|lc E qka rfl (qdT N _ (Number.mk r2.2 r5.1 r5.2.1) ⟨rfl,l7,l8⟩ e30 hG ok) fun w ok a E=>wn<|qar (cl1 (cq le_m0 ok [0,1] rfl) (cq le_m0 ok [0] rfl)) fun hT=>kt 6 E rfl hT (qbh rfl) fun a E=>kt 7 E rfl hT (qdk rfl rfl) fun a E=>qaP [8] (by kernel_rfl) rfl (qaT ?_)
  ·refine wo rfl<|qad E ok 1 rfl rfl rfl qb9 rfl rfl ⟨rfl,rfl,rfl,trivial⟩ rfl rfl fun w ok=>wn<|qar (cl2 (by kernel_rfl) (cq le_m0 ok [0] rfl)) fun hT=>kt 9 E rfl hT (qaI rfl) fun a E=>qbw (by kernel_rfl) ?_
   exact ⟨rfl,⟨ok,E.keep [2,3],l7,l8⟩⟩
def qke (u:World) (m0:Mem) (S:Segs) (r:Bool) (a:Act) (w:World):Prop :=
 Ok u m0 S w ∧ a.defers = [] ∧ RVs Tryz.prog a w [.t 2 (.bool r)]
theorem qkt (N:Nat) (s_0:List UInt8) (ls_0:s_0.length ≤ LIMS) {r:Bool} (hF:qg3 N s_0 = some r) (hG:Glob u) (ok:Ok u m0 S w) :
  Calls Tryz.prog 136 [vs s_0].toArray w fun e w'=>(e = .returned (.bool r) ∧ Ok u m0 S w'):=by
 have hb0:=ok.base
 have le_m0:=Mem.le.refl m0
 unfold qg3 at hF
 refine en (qke u m0 S) r Tryz.func136 rfl rfl rfl (fun _ _ h=>ra h rfl) fun fin a E=>sg<|aw E rfl fun a E=>sg<|mv E rfl fun a E=>bd hF fun r1 e2 hF=>qaf E qpw rfl (qku N s_0 ls_0 e2 hG ok) rfl rfl ?_
 rintro _ w ⟨m3,vs4,rfl,hle,ok,h5⟩
 have le_m0:=le_m0.trans hle
 obtain ⟨rfl,l6,l7⟩:=h5
 refine ⟨_,rfl,fun a E=>?_⟩
 refine mv E rfl fun a E=>lw E (qa7 rfl rfl) fun a E=>lw E (qa7 rfl rfl) fun a E=>qa3 E ok qiI rfl rfl fun b8 a w E ok=>qad E ok 0 rfl rfl rfl qb9 rfl rfl ⟨rfl,rfl,rfl,trivial⟩ rfl rfl fun w ok=>aw E rfl fun a E=>sg<|mv E rfl fun a E=>aw E rfl fun a E=>wp_ret ?_
 exact fin hF ⟨(ok.drop).down hb0 le_m0,E.d,rz E rfl⟩
def qmb (u:World) (m0:Mem) (S:Segs) (r:Bool) (a:Act) (w:World):Prop :=
 Ok u m0 S w ∧ a.defers = [] ∧ RVs Tryz.prog a w [.t 4 (.bool r)]
theorem ql1 (N:Nat) (kind_0:Int) (rkind_0:InR .i64 kind_0) (s_1:List UInt8) (ls_1:s_1.length ≤ LIMS) {r:Bool} (hF:qiO N kind_0 s_1 = some r) (hG:Glob u) (ok:Ok u m0 S w) :
  Calls Tryz.prog 115 [vi kind_0,vs s_1].toArray w fun e w'=>(e = .returned (.bool r) ∧ Ok u m0 S w'):=by
 unfold qiO at hF
 refine en (qmb u m0 S) r Tryz.func115 rfl rfl rfl (fun _ _ h=>ra h rfl) fun fin a E=>sg<|aw E rfl fun a E=>wp_seq<|sg<|mv E rfl fun a E=>lw E (qap rfl rfl) fun a E=>wn<|cf E rfl hF (fun c1 hF=>?_) fun c1 hF=>?_
 ·refine sg<|mv E rfl fun a E=>bd hF fun r2 e3 hF=>lc E qkp rfl (qgp N s_1 ls_1 e3 hG ok) fun w ok a E=>aw E rfl fun a E=>wp_ret<|qam ?_
  exact fin hF ⟨ok,E.d,rz E rfl⟩
 refine wp_skip<|qaa<|sg<|mv E rfl fun a E=>bd hF fun r4 e5 hF=>qaf E qnf rfl (qgw N s_1 ls_1 ([61]) (show ([61]:List UInt8).length ≤ LIMS by decide) e5 hG ok) rfl rfl ?_
 rintro _ w ⟨⟨rfl,ok⟩,l6⟩
 refine ⟨_,rfl,fun a E=>?_⟩
 refine mv E rfl fun a E=>lw E (qa7 rfl rfl) fun a E=>lw E (qa7 rfl rfl) fun a E=>av E rfl fun a E=>aw E rfl fun a E=>sg<|mv E rfl fun a E=>bd hF fun r7 e8 hF=>lc E qpM rfl (qkL N s_1 ls_1 e8 hG ok) fun w ok a E=>mv E rfl fun a E=>qbr r7 (fun c9=>?_) (fun c9=>?_)
 ·have hF:=qbo c9 hF
  have E:=E.upd 18 c9 rfl
  refine lsz E fun a E=>ls E fun a E=>pt E rfl rfl fun a E=>av E rfl fun a E=>wn<|wp_ret ?_
  exact fin hF ⟨ok,E.d,rz E rfl⟩
 have hF:=qbn c9 hF
 have E:=E.upd 18 c9 rfl
 refine mz E rfl rfl fun a E=>qbr r4.2 (fun c10=>?_) (fun c10=>?_)
 rotate_left
 ·have hF:=qbn c10 hF
  have E:=E.upd 20 c10 rfl
  refine lsq E fun a E=>pf E rfl rfl fun a E=>pf E rfl rfl fun a E=>aw E rfl fun a E=>wp_ret ?_
  exact fin hF ⟨ok,E.d,rz E rfl⟩
 have hF:=qbo c10 hF
 have E:=E.upd 20 c10 rfl
 refine mv E rfl fun a E=>bd hF fun r11 e12 hF=>lc E qpq rfl (qkt N r4.1 l6 e12 hG ok) fun w ok a E=>pt E rfl rfl fun a E=>pf E rfl rfl fun a E=>aw E rfl fun a E=>wp_ret ?_
 exact fin hF ⟨ok,E.d,rz E rfl⟩
def qfU (u:World) (m0:Mem) (S:Segs) (x0:List (List UInt8 × Bool)) (vm0:Value) (Mm0:List (Nat × Obj)) (r:Bool × (List (List UInt8 × Bool))) (a:Act) (w:World):Prop :=
 ∃ m1 M1,m0.le m1 ∧ Ok u m1 ([] :: M1 :: S) w ∧ a.defers = [] ∧ RVs Tryz.prog a w [.t 8 (.bool r.1)] ∧ OMap kS (oneV pB) m1 vm0 r.2 M1
def qfV (u:World) (m0:Mem) (S:Segs) (x0:List (List UInt8 × Bool)) (vm0:Value) (Mm0:List (Nat × Obj)) (r:Bool × (List (List UInt8 × Bool))) (a:Act) (w:World):Prop :=
 ∃ m1 M9,m0.le m1 ∧ Ok u m1 ([] :: M9 :: S) w ∧ a.defers = [] ∧ RVs Tryz.prog a w [.t 8 (.bool r.1)] ∧ OMap kS (oneV pB) m1 vm0 r.2 M9
def qcR (N:Nat):Prop:=∀ {u:World} {m0:Mem} {S:Segs} {w:World} (vl_1:Value) (l_1:List (Part)) (hl_1:(pL 6 qbg) m0 [vl_1] l_1) (depth_2:Int) (rdepth_2:InR .i64 depth_2) (counting_3:Bool) {vm0:Value} {Mm0:List (Nat × Obj)} (x0:List (List UInt8 × Bool)) (hm0:OMap kS (oneV pB) m0 vm0 x0 Mm0) {r:Bool × (List (List UInt8 × Bool))} (hF:qcm N l_1 depth_2 counting_3 x0 = some r) (hG:Glob u) (ok:Ok u m0 ([] :: Mm0 :: S) w),Calls Tryz.prog 67 [Value.agg [vm0].toArray,vl_1,vi depth_2,vb counting_3].toArray w fun e w'=>∃ m1 M1,e = .returned (.bool r.1) ∧ m0.le m1 ∧ Ok u m1 ([] :: M1 :: S) w' ∧ OMap kS (oneV pB) m1 vm0 r.2 M1
def qcO (N:Nat):Prop:=∀ {u:World} {m0:Mem} {S:Segs} {w:World} (vx_1:List Value) (x_1:Part) (hx_1:qbg m0 vx_1 x_1) (depth_2:Int) (rdepth_2:InR .i64 depth_2) (counting_3:Bool) {vm0:Value} {Mm0:List (Nat × Obj)} (x0:List (List UInt8 × Bool)) (hm0:OMap kS (oneV pB) m0 vm0 x0 Mm0) {r:Bool × (List (List UInt8 × Bool))} (hF:qdb N x_1 depth_2 counting_3 x0 = some r) (hG:Glob u) (ok:Ok u m0 ([] :: Mm0 :: S) w),Calls Tryz.prog 91 [Value.agg [vm0].toArray,.agg vx_1.toArray,vi depth_2,vb counting_3].toArray w fun e w'=>∃ m1 M9,e = .returned (.bool r.1) ∧ m0.le m1 ∧ Ok u m1 ([] :: M9 :: S) w' ∧ OMap kS (oneV pB) m1 vm0 r.2 M9
theorem qhm (N:Nat) (ih_syntax_checker_parts:qcR N) (ih_syntax_checker_cases:qcO N):qcR (N + 1):=by
 intro u m0 S w vl_1 l_1 hl_1 depth_2 rdepth_2 counting_3 vm0 Mm0 x0 hm0 r hF hG ok
 have le_m0:=Mem.le.refl m0
 have hF0:qd7 (qcm N) (qdb N) N l_1 depth_2 counting_3 x0 = some r:=hF
 have hF:=hF0
 clear hF0
 unfold qd7 at hF
 refine en (qfU u m0 S x0 vm0 Mm0) r Tryz.func67 rfl rfl rfl (by rintro a w ⟨m1,M1,hle,ok,hd,hrv,h0⟩; exact qbs [.t 8 (.bool r.1)] hd rfl hrv ⟨m1,M1,rfl,hle,ok,h0⟩) fun fin a E=>sg<|qdV E ok rfl rfl rfl fun b3 a w E ok=>aw E rfl fun a E=>wp_seq<|sg<|mv E rfl fun a E=>lv E ok (qbb qb5 hl_1 rfl) fun a E=>mv E rfl fun a E=>wn<|wp_block<|bd hF fun o8 hL hF=>qa6 _ (fun (s:Int × (List (List UInt8 × Bool))) a w=>∃ m9 M11,m0.le m9 ∧ Ok u m9 ([(b3,oc 128 [vm0])] :: [] :: M11 :: S) w ∧ Env 94 a [(1,vl_1),(2,vi depth_2),(3,vb counting_3),(4,vp b3),(11,vl_1),(12,(vi (l_1.length:Int))),(13,vi s.1)] ∧ InR .i64 s.1 ∧ OMap kS (oneV pB) m9 vm0 s.2 M11) (fun (b:(((List (List UInt8 × Bool))) ⊕ (Bool × (List (List UInt8 × Bool))))) e a w=>(Sum.elim (fun b138=>e = (.exit 0) ∧ ∃ m139 M140,m0.le m139 ∧ Ok u m139 ([(b3,oc 128 [vm0])] :: [] :: M140 :: S) w ∧ Env 94 a [] ∧ OMap kS (oneV pB) m139 vm0 b138 M140) (fun b142=>e = .ret ∧ qfU u m0 S x0 vm0 Mm0 b142 a w)) b) ?_ ?_ N _ a w hL ⟨m0,Mm0,Mem.le.refl _,ok,E.keep [1,2,3,4,11,12,13],(ir 0),hm0⟩
 rotate_left
 ·intro e a w _ hO
  rcases o8 with o8 | o8
  rotate_left
  ·obtain ⟨rfl,hret⟩:=hO
   refine qaL<|qam ?_
   exact fin hF hret
  have hF:=qb4 hF
  obtain ⟨rfl,m135,M136,hle,ok,E,h137⟩:=hO
  have le_m0:=le_m0.trans hle
  have hl_1:=(mL qak).up hle hl_1
  refine qbf<|qaa<|sg<|aw E rfl fun a E=>wp_ret ?_
  exact fin hF ⟨m135,M136,le_m0,ok.drop,E.d,rz E rfl,h137⟩
 rintro ⟨v13,v14⟩ a w r ⟨m15,M17,hle,ok,E,r16,h18⟩ hF
 replace hF:qeo (qcm N) (qdb N) N l_1 depth_2 counting_3 v13 v14 = some r:=hF
 unfold qeo at hF
 have le_m0:=le_m0.trans hle
 have hl_1:=(mL qak).up hle hl_1
 refine sg<|lw E (qaS rfl rfl) fun a E=>wn<|wp_seq<|cg E rfl hF (fun c19 hF=>?_) fun c19 hF=>?_
 ·refine wp_exit<|qaX ?_
  cases hF
  exact so (sl ⟨rfl,⟨m15,M17,le_m0,ok,E.keep [],h18⟩⟩)
 refine wp_skip<|qaa<|wp_seq<|wp_block<|sg<|mv E rfl fun a E=>?_
 obtain ⟨x20,e21,hF⟩:=bnd hF
 obtain ⟨b22,o23,es24,hl25,rr26,at27,yy28⟩:=ia E 11 13 qb5 hl_1 e21
 obtain ⟨c33,c35,rfl,r29,l30,l31,l32,h34,h36⟩:=(qbp.1 rr26)
 refine lv E ok (yy28 _ _) fun a E=>lv E ok (qan (cs:=[vi x20.Kind,vs x20.Text,vs x20.Name,vs x20.Style,c33,c35]) qdJ rfl rfl (qae.ro at27)) fun a E=>qa3 E ok qby rfl rfl fun b37 a w E ok=>av E rfl fun a E=>qad E ok 0 rfl rfl rfl qfy rfl rfl ⟨rfl,rfl,rfl,rfl,(qc9 h34),(qc9 h36),trivial⟩ rfl rfl fun w ok=>wn<|wp_seq<|wp_seq<|bd hF fun o38 hJ hF=>qaK (Q':=fun e a w=>e = .normal ∧ Ok u m15 ([(b37,oc 82 [vi x20.Kind,vs x20.Text,vs x20.Name,vs x20.Style,c33,c35])] :: [(b3,oc 128 [vm0])] :: [] :: M17 :: S) w ∧ Env 94 a [(1,vl_1),(2,vi depth_2),(3,vb counting_3),(4,vp b3),(10,vp b37),(11,vl_1),(12,(vi (l_1.length:Int))),(13,vi v13),(47,vb o38)]) ?_ ?_
 ·as_aux_lemma =>
   have hF:=hJ
   refine qab<|lv E ok (qan (cs:=[vi x20.Kind,vs x20.Text,vs x20.Name,vs x20.Style,c33,c35]) qdJ rfl rfl (qae.own 0 rfl rfl)) fun a E=>bd hF fun r39 e40 hF=>lc E qpT rfl (qj6 N _ x20 (qbp.2 ⟨_,_,rfl,r29,l30,l31,l32,h34,h36⟩) e40 hG ok) fun w ok a E=>lw E (qbh rfl) fun a E=>mv E rfl fun a E=>bu E 21 hF (fun c41 hF E=>?_) fun c41 hF E=>?_
   ·refine lsz E fun a E=>lsq E fun a E=>ls E fun a E=>pt E rfl rfl fun a E=>mv E rfl fun a E=>lsz E fun a E=>lsq E fun a E=>ls E fun a E=>?_
    refine lsz E fun a E=>lsz E fun a E=>ls E fun a E=>pt E rfl rfl fun a E=>wpList_nil ?_
    cases hF
    exact ⟨rfl,⟨ok,E.keep [1,2,3,4,10,11,12,13,47]⟩⟩
   refine fk E ok qaH qaq rfl 0 rfl rfl fun a E=>lw E (qap rfl rfl) fun a E=>mv E rfl fun a E=>bw E 25 hF (fun c42 hF E=>?_) fun c42 hF E=>?_
   ·refine lsq E fun a E=>pf E rfl rfl fun a E=>pf E rfl rfl fun a E=>mz E rfl rfl fun a E=>lw E (qbD rfl rfl) fun a E=>mv E rfl fun a E=>bw E 33 hF (fun c63 hF E=>?_) fun c63 hF E=>?_
    ·refine lsq E fun a E=>ls E fun a E=>pf E rfl rfl fun a E=>mv E rfl fun a E=>lsz E fun a E=>lsq E fun a E=>ls E fun a E=>pf E rfl rfl fun a E=>pf E rfl rfl fun a E=>wpList_nil ?_
     cases hF
     exact ⟨rfl,⟨ok,E.keep [1,2,3,4,10,11,12,13,47]⟩⟩
    refine fk E ok qaH qaq rfl 0 rfl rfl fun a E=>lw E (qap rfl rfl) fun a E=>pt E rfl rfl fun a E=>mv E rfl fun a E=>bw E 38 hF (fun c64 hF E=>?_) fun c64 hF E=>?_
    ·refine lsz E fun a E=>lsq E fun a E=>ls E fun a E=>pf E rfl rfl fun a E=>pf E rfl rfl fun a E=>wpList_nil ?_
     cases hF
     exact ⟨rfl,⟨ok,E.keep [1,2,3,4,10,11,12,13,47]⟩⟩
    refine mz E rfl rfl fun a E=>lw E (qou rfl rfl (InR.dec r16 (ir 0) c63)) fun a E=>?_
    obtain ⟨x65,e66,hF⟩:=bnd hF
    obtain ⟨b67,o68,es69,hl70,rr71,at72,yy73⟩:=ia E 39 41 qb5 hl_1 e66
    obtain ⟨c78,c80,rfl,r74,l75,l76,l77,h79,h81⟩:=(qbp.1 rr71)
    refine lv E ok (yy73 _ _) fun a E=>fv E qaH rfl fun a E=>lv E ok (qaz qaq rfl (qae.ro (At.sub 0 1 at72))) fun a E=>lw E (qap rfl rfl) fun a E=>pt E rfl rfl fun a E=>pf E rfl rfl fun a E=>wpList_nil ?_
    cases hF
    exact ⟨rfl,⟨ok,E.keep [1,2,3,4,10,11,12,13,47]⟩⟩
   refine mv E rfl fun a E=>lw E (qbh rfl) fun a E=>pt E rfl rfl fun a E=>pf E rfl rfl fun a E=>mv E rfl fun a E=>bu E 30 hF (fun c43 hF E=>?_) fun c43 hF E=>?_
   ·refine lsz E fun a E=>lsz E fun a E=>lsz E fun a E=>lsz E fun a E=>?_
    refine pt E rfl rfl fun a E=>wpList_nil ?_
    cases hF
    exact ⟨rfl,⟨ok,E.keep [1,2,3,4,10,11,12,13,47]⟩⟩
   refine mv E rfl fun a E=>lw E (qbD rfl rfl) fun a E=>mv E rfl fun a E=>bw E 33 hF (fun c44 hF E=>?_) fun c44 hF E=>?_
   ·refine lsq E fun a E=>ls E fun a E=>pf E rfl rfl fun a E=>mv E rfl fun a E=>lsz E fun a E=>lsq E fun a E=>ls E fun a E=>pf E rfl rfl fun a E=>pf E rfl rfl fun a E=>wpList_nil ?_
    cases hF
    exact ⟨rfl,⟨ok,E.keep [1,2,3,4,10,11,12,13,47]⟩⟩
   refine fk E ok qaH qaq rfl 0 rfl rfl fun a E=>lw E (qap rfl rfl) fun a E=>pt E rfl rfl fun a E=>mv E rfl fun a E=>bw E 38 hF (fun c45 hF E=>?_) fun c45 hF E=>?_
   ·refine lsz E fun a E=>lsq E fun a E=>ls E fun a E=>pf E rfl rfl fun a E=>pf E rfl rfl fun a E=>wpList_nil ?_
    cases hF
    exact ⟨rfl,⟨ok,E.keep [1,2,3,4,10,11,12,13,47]⟩⟩
   refine mz E rfl rfl fun a E=>lw E (qou rfl rfl (InR.dec r16 (ir 0) c44)) fun a E=>?_
   obtain ⟨x46,e47,hF⟩:=bnd hF
   obtain ⟨b48,o49,es50,hl51,rr52,at53,yy54⟩:=ia E 39 41 qb5 hl_1 e47
   obtain ⟨c59,c61,rfl,r55,l56,l57,l58,h60,h62⟩:=(qbp.1 rr52)
   refine lv E ok (yy54 _ _) fun a E=>fv E qaH rfl fun a E=>lv E ok (qaz qaq rfl (qae.ro (At.sub 0 1 at53))) fun a E=>lw E (qap rfl rfl) fun a E=>pt E rfl rfl fun a E=>pf E rfl rfl fun a E=>wpList_nil ?_
   cases hF
   exact ⟨rfl,⟨ok,E.keep [1,2,3,4,10,11,12,13,47]⟩⟩
 intro e a w hO
 obtain ⟨rfl,ok,E⟩:=hO
 refine qaa<|cf E rfl hF (fun c82 hF=>?_) fun c82 hF=>?_
 ·refine sg<|aw E rfl fun a E=>wp_ret<|qam<|qaL<|qam ?_
  cases hF
  exact so (sr ⟨rfl,⟨m15,M17,le_m0,ok.drop.drop,E.d,rz E rfl,h18⟩⟩)
 refine wp_skip<|qaa<|wp_seq<|sg<|fk E ok qaH qaq rfl 0 rfl rfl fun a E=>lw E (qap rfl rfl) fun a E=>mv E rfl fun a E=>bw E 51 hF (fun c83 hF E=>?_) fun c83 hF E=>?_
 ·as_aux_lemma =>
   refine lsz E fun a E=>lsz E fun a E=>lsz E fun a E=>pf E rfl rfl fun a E=>wn<|c_if E rfl (fun h=>by cases h) (fun _=>?_)
   refine wp_skip<|qaa<|wp_seq<|sg<|fk E ok qaH qaq rfl 0 rfl rfl fun a E=>bd hF fun r113 e114 hF=>lc E qh2 rfl (qci N x20.Kind r29 e114 hG ok) fun w ok a E=>mv E rfl fun a E=>qbr r113 (fun c115=>?_) (fun c115=>?_)
   rotate_left
   ·as_aux_lemma =>
     have hF:=qbn c115 hF
     have E:=E.upd 68 c115 rfl
     refine lsz E fun a E=>lsz E fun a E=>lsq E fun a E=>ls E fun a E=>pf E rfl rfl fun a E=>wn<|c_if E rfl (fun h=>by cases h) (fun _=>?_)
     refine wp_skip<|qaa<|sg<|fk E ok qaH qaq rfl 0 rfl rfl fun a E=>lw E (qbj rfl rfl) fun a E=>mv E rfl fun a E=>bw E 84 hF (fun c129 hF E=>?_) fun c129 hF E=>?_
     ·refine lsq E fun a E=>ls E fun a E=>pf E rfl rfl fun a E=>wn<|c_if E rfl (fun h=>by cases h) (fun _=>?_)
      refine wp_skip<|qag<|qaa<|qab<|lw E (qaC rfl rfl (InR.inc r16 (qas hl_1) c19)) fun a E=>mv E rfl fun a E=>wpList_nil ?_
      cases hF
      exact qat ⟨m15,M17,le_m0,(ok.pk 4 [1,2,3] rfl (by decide)),E.keep [1,2,3,4,11,12,13],(InR.inc r16 (qas hl_1) c19),h18⟩
     refine fk E ok qa2 qao rfl 0 rfl rfl fun a E=>lw E (qcP rfl rfl) fun a E=>pt E rfl rfl fun a E=>wn<|cg E rfl hF (fun c130 hF=>?_) fun c130 hF=>?_
     ·refine wp_skip<|qag<|qaa<|qab<|lw E (qaC rfl rfl (InR.inc r16 (qas hl_1) c19)) fun a E=>mv E rfl fun a E=>wpList_nil ?_
      cases hF
      exact qat ⟨m15,M17,le_m0,(ok.pk 4 [1,2,3] rfl (by decide)),E.keep [1,2,3,4,11,12,13],(InR.inc r16 (qas hl_1) c19),h18⟩
     refine qab<|fk E ok qhQ qic rfl 1 rfl rfl fun a E=>fk E ok qa2 qao rfl 0 rfl rfl fun a E=>bd hF fun l131 e132 hF=>qjj (.inl rfl) E ok 3 (qda Tryz.underlying9) Tryz.underlying126 h18 rfl rfl rfl rfl ⟨rfl,l31⟩ qiK e132 rfl fun M133 w ok h134=>wpList_nil<|qag<|qaa<|qab<|lw E (qaC rfl rfl (InR.inc r16 (qas hl_1) c19)) fun a E=>mv E rfl fun a E=>wpList_nil ?_
     cases hF
     exact qat ⟨m15,M133,le_m0,(ok.pk 4 [1,2,3] rfl (by decide)),E.keep [1,2,3,4,11,12,13],(InR.inc r16 (qas hl_1) c19),h134⟩
   have hF:=qbo c115 hF
   have E:=E.upd 68 c115 rfl
   refine mv E rfl fun a E=>lw E (qbK rfl rfl) fun a E=>mv E rfl fun a E=>bu E 71 hF (fun c116 hF E=>?_) fun c116 hF E=>?_
   ·refine lsz E fun a E=>lsq E fun a E=>ls E fun a E=>pt E rfl rfl fun a E=>pt E rfl rfl fun a E=>wn<|c_if E rfl (fun _=>?_) (fun h=>by cases h)
    refine sg<|aw E rfl fun a E=>wp_ret<|qam<|qaL<|qam ?_
    cases hF
    exact so (sr ⟨rfl,⟨m15,M17,le_m0,ok.drop.drop,E.d,rz E rfl,h18⟩⟩)
   refine lv E ok (qan (cs:=[vm0]) qih rfl rfl (qae.own 1 rfl rfl)) fun a E=>lv E ok (qan (cs:=[vi x20.Kind,vs x20.Text,vs x20.Name,vs x20.Style,c33,c35]) qdJ rfl rfl (qae.own 0 rfl rfl)) fun a E=>mv E rfl fun a E=>lw E (qaQ rfl rfl) fun a E=>mv E rfl fun a E=>?_
   obtain ⟨r117,e118,hF⟩:=bnd hF
   replace ok:Ok u m15 ([] :: M17 :: [(b37,oc 82 [vi x20.Kind,vs x20.Text,vs x20.Name,vs x20.Style,c33,c35])] :: [(b3,oc 128 [vm0])] :: S) w:=(ok.pk 4 [2,3,0,1] rfl (by decide))
   refine qaf E qop rfl (ih_syntax_checker_cases _ x20 (qbp.2 ⟨_,_,rfl,r29,l30,l31,l32,h34,h36⟩) (IntKind.wrap .i64 (depth_2 + 1)) (InR.wrap _ _) counting_3 v14 h18 e118 hG ok) rfl rfl ?_
   rintro _ w ⟨m119,M120,rfl,hle,ok,h121⟩
   have le_m0:=le_m0.trans hle
   have hl_1:=(mL qak).up hle hl_1
   have h34:=(mL qaG).up hle h34
   have h36:=(mL qak).up hle h36
   have at27:=At.up hle at27
   refine ⟨_,rfl,fun a E=>?_⟩
   refine lw E (qbh rfl) fun a E=>pf E rfl rfl fun a E=>pt E rfl rfl fun a E=>wn<|cf E rfl hF (fun c122 hF=>?_) fun c122 hF=>?_
   ·refine sg<|aw E rfl fun a E=>wp_ret<|qam<|qaL<|qam ?_
    cases hF
    exact so (sr ⟨rfl,⟨m119,M120,le_m0,(ok.pk 4 [0,1] rfl (by decide)),E.d,rz E rfl,h121⟩⟩)
   refine wp_skip<|qaa<|sg<|fk E ok qaH qaq rfl 2 rfl rfl fun a E=>lw E (qbj rfl rfl) fun a E=>mv E rfl fun a E=>bw E 84 hF (fun c123 hF E=>?_) fun c123 hF E=>?_
   ·refine lsq E fun a E=>ls E fun a E=>pf E rfl rfl fun a E=>wn<|c_if E rfl (fun h=>by cases h) (fun _=>?_)
    refine wp_skip<|qag<|qaa<|qab<|lw E (qaC rfl rfl (InR.inc r16 (qas hl_1) c19)) fun a E=>mv E rfl fun a E=>wpList_nil ?_
    cases hF
    exact qat ⟨m119,M120,le_m0,(ok.pk 4 [3,0,1] rfl (by decide)),E.keep [1,2,3,4,11,12,13],(InR.inc r16 (qas hl_1) c19),h121⟩
   refine fk E ok qa2 qao rfl 2 rfl rfl fun a E=>lw E (qcP rfl rfl) fun a E=>pt E rfl rfl fun a E=>wn<|cg E rfl hF (fun c124 hF=>?_) fun c124 hF=>?_
   ·refine wp_skip<|qag<|qaa<|qab<|lw E (qaC rfl rfl (InR.inc r16 (qas hl_1) c19)) fun a E=>mv E rfl fun a E=>wpList_nil ?_
    cases hF
    exact qat ⟨m119,M120,le_m0,(ok.pk 4 [3,0,1] rfl (by decide)),E.keep [1,2,3,4,11,12,13],(InR.inc r16 (qas hl_1) c19),h121⟩
   refine qab<|fk E ok qhQ qic rfl 3 rfl rfl fun a E=>fk E ok qa2 qao rfl 2 rfl rfl fun a E=>bd hF fun l125 e126 hF=>qjj (.inl rfl) E ok 1 (qda Tryz.underlying9) Tryz.underlying126 h121 rfl rfl rfl rfl ⟨rfl,l31⟩ qiK e126 rfl fun M127 w ok h128=>wpList_nil<|qag<|qaa<|qab<|lw E (qaC rfl rfl (InR.inc r16 (qas hl_1) c19)) fun a E=>mv E rfl fun a E=>wpList_nil ?_
   cases hF
   exact qat ⟨m119,M127,le_m0,(ok.pk 4 [3,0,1] rfl (by decide)),E.keep [1,2,3,4,11,12,13],(InR.inc r16 (qas hl_1) c19),h128⟩
 refine mv E rfl fun a E=>lw E (qbK rfl rfl) fun a E=>mv E rfl fun a E=>bu E 54 hF (fun c84 hF E=>?_) fun c84 hF E=>?_
 ·refine lsz E fun a E=>lsz E fun a E=>pt E rfl rfl fun a E=>pt E rfl rfl fun a E=>wn<|c_if E rfl (fun _=>?_) (fun h=>by cases h)
  refine sg<|aw E rfl fun a E=>wp_ret<|qam<|qaL<|qam ?_
  cases hF
  exact so (sr ⟨rfl,⟨m15,M17,le_m0,ok.drop.drop,E.d,rz E rfl,h18⟩⟩)
 refine lv E ok (qan (cs:=[vm0]) qih rfl rfl (qae.own 1 rfl rfl)) fun a E=>fk E ok qcV qcW rfl 0 rfl rfl fun a E=>mv E rfl fun a E=>lw E (qaQ rfl rfl) fun a E=>mv E rfl fun a E=>?_
 obtain ⟨r85,e86,hF⟩:=bnd hF
 replace ok:Ok u m15 ([] :: M17 :: [(b37,oc 82 [vi x20.Kind,vs x20.Text,vs x20.Name,vs x20.Style,c33,c35])] :: [(b3,oc 128 [vm0])] :: S) w:=(ok.pk 4 [2,3,0,1] rfl (by decide))
 refine qaf E qls rfl (ih_syntax_checker_parts _ x20.Parts h36 (IntKind.wrap .i64 (depth_2 + 1)) (InR.wrap _ _) counting_3 v14 h18 e86 hG ok) rfl rfl ?_
 rintro _ w ⟨m87,M88,rfl,hle,ok,h89⟩
 have le_m0:=le_m0.trans hle
 have hl_1:=(mL qak).up hle hl_1
 have h34:=(mL qaG).up hle h34
 have h36:=(mL qak).up hle h36
 have at27:=At.up hle at27
 refine ⟨_,rfl,fun a E=>?_⟩
 refine lw E (qbh rfl) fun a E=>pf E rfl rfl fun a E=>pt E rfl rfl fun a E=>wn<|cf E rfl hF (fun c90 hF=>?_) fun c90 hF=>?_
 ·refine sg<|aw E rfl fun a E=>wp_ret<|qam<|qaL<|qam ?_
  cases hF
  exact so (sr ⟨rfl,⟨m87,M88,le_m0,(ok.pk 4 [0,1] rfl (by decide)),E.d,rz E rfl,h89⟩⟩)
 refine wp_skip<|qaa<|wp_seq<|sg<|fk E ok qaH qaq rfl 2 rfl rfl fun a E=>bd hF fun r91 e92 hF=>lc E qh2 rfl (qci N x20.Kind r29 e92 hG ok) fun w ok a E=>mv E rfl fun a E=>qbr r91 (fun c93=>?_) (fun c93=>?_)
 rotate_left
 ·as_aux_lemma =>
   have hF:=qbn c93 hF
   have E:=E.upd 68 c93 rfl
   refine lsz E fun a E=>lsz E fun a E=>lsq E fun a E=>ls E fun a E=>pf E rfl rfl fun a E=>wn<|c_if E rfl (fun h=>by cases h) (fun _=>?_)
   refine wp_skip<|qaa<|sg<|fk E ok qaH qaq rfl 2 rfl rfl fun a E=>lw E (qbj rfl rfl) fun a E=>mv E rfl fun a E=>bw E 84 hF (fun c107 hF E=>?_) fun c107 hF E=>?_
   ·refine lsq E fun a E=>ls E fun a E=>pf E rfl rfl fun a E=>wn<|c_if E rfl (fun h=>by cases h) (fun _=>?_)
    refine wp_skip<|qag<|qaa<|qab<|lw E (qaC rfl rfl (InR.inc r16 (qas hl_1) c19)) fun a E=>mv E rfl fun a E=>wpList_nil ?_
    cases hF
    exact qat ⟨m87,M88,le_m0,(ok.pk 4 [3,0,1] rfl (by decide)),E.keep [1,2,3,4,11,12,13],(InR.inc r16 (qas hl_1) c19),h89⟩
   refine fk E ok qa2 qao rfl 2 rfl rfl fun a E=>lw E (qcP rfl rfl) fun a E=>pt E rfl rfl fun a E=>wn<|cg E rfl hF (fun c108 hF=>?_) fun c108 hF=>?_
   ·refine wp_skip<|qag<|qaa<|qab<|lw E (qaC rfl rfl (InR.inc r16 (qas hl_1) c19)) fun a E=>mv E rfl fun a E=>wpList_nil ?_
    cases hF
    exact qat ⟨m87,M88,le_m0,(ok.pk 4 [3,0,1] rfl (by decide)),E.keep [1,2,3,4,11,12,13],(InR.inc r16 (qas hl_1) c19),h89⟩
   refine qab<|fk E ok qhQ qic rfl 3 rfl rfl fun a E=>fk E ok qa2 qao rfl 2 rfl rfl fun a E=>bd hF fun l109 e110 hF=>qjj (.inl rfl) E ok 1 (qda Tryz.underlying9) Tryz.underlying126 h89 rfl rfl rfl rfl ⟨rfl,l31⟩ qiK e110 rfl fun M111 w ok h112=>wpList_nil<|qag<|qaa<|qab<|lw E (qaC rfl rfl (InR.inc r16 (qas hl_1) c19)) fun a E=>mv E rfl fun a E=>wpList_nil ?_
   cases hF
   exact qat ⟨m87,M111,le_m0,(ok.pk 4 [3,0,1] rfl (by decide)),E.keep [1,2,3,4,11,12,13],(InR.inc r16 (qas hl_1) c19),h112⟩
 have hF:=qbo c93 hF
 have E:=E.upd 68 c93 rfl
 refine mv E rfl fun a E=>lw E (qbK rfl rfl) fun a E=>mv E rfl fun a E=>bu E 71 hF (fun c94 hF E=>?_) fun c94 hF E=>?_
 ·refine lsz E fun a E=>lsq E fun a E=>ls E fun a E=>pt E rfl rfl fun a E=>pt E rfl rfl fun a E=>wn<|c_if E rfl (fun _=>?_) (fun h=>by cases h)
  refine sg<|aw E rfl fun a E=>wp_ret<|qam<|qaL<|qam ?_
  cases hF
  exact so (sr ⟨rfl,⟨m87,M88,le_m0,(ok.pk 4 [0,1] rfl (by decide)),E.d,rz E rfl,h89⟩⟩)
 refine lv E ok (qan (cs:=[vm0]) qih rfl rfl (qae.own 3 rfl rfl)) fun a E=>lv E ok (qan (cs:=[vi x20.Kind,vs x20.Text,vs x20.Name,vs x20.Style,c33,c35]) qdJ rfl rfl (qae.own 2 rfl rfl)) fun a E=>mv E rfl fun a E=>lw E (qaQ rfl rfl) fun a E=>mv E rfl fun a E=>bd hF fun r95 e96 hF=>qaf E qop rfl (ih_syntax_checker_cases _ x20 (qbp.2 ⟨_,_,rfl,r29,l30,l31,l32,h34,h36⟩) (IntKind.wrap .i64 (depth_2 + 1)) (InR.wrap _ _) counting_3 r85.2 h89 e96 hG ok) rfl rfl ?_
 rintro _ w ⟨m97,M98,rfl,hle,ok,h99⟩
 have le_m0:=le_m0.trans hle
 have hl_1:=(mL qak).up hle hl_1
 have h34:=(mL qaG).up hle h34
 have h36:=(mL qak).up hle h36
 have at27:=At.up hle at27
 refine ⟨_,rfl,fun a E=>?_⟩
 refine lw E (qbh rfl) fun a E=>pf E rfl rfl fun a E=>pt E rfl rfl fun a E=>wn<|cf E rfl hF (fun c100 hF=>?_) fun c100 hF=>?_
 ·refine sg<|aw E rfl fun a E=>wp_ret<|qam<|qaL<|qam ?_
  cases hF
  exact so (sr ⟨rfl,⟨m97,M98,le_m0,(ok.pk 4 [0,1] rfl (by decide)),E.d,rz E rfl,h99⟩⟩)
 refine wp_skip<|qaa<|sg<|fk E ok qaH qaq rfl 2 rfl rfl fun a E=>lw E (qbj rfl rfl) fun a E=>mv E rfl fun a E=>bw E 84 hF (fun c101 hF E=>?_) fun c101 hF E=>?_
 ·refine lsq E fun a E=>ls E fun a E=>pf E rfl rfl fun a E=>wn<|c_if E rfl (fun h=>by cases h) (fun _=>?_)
  refine wp_skip<|qag<|qaa<|qab<|lw E (qaC rfl rfl (InR.inc r16 (qas hl_1) c19)) fun a E=>mv E rfl fun a E=>wpList_nil ?_
  cases hF
  exact qat ⟨m97,M98,le_m0,(ok.pk 4 [3,0,1] rfl (by decide)),E.keep [1,2,3,4,11,12,13],(InR.inc r16 (qas hl_1) c19),h99⟩
 refine fk E ok qa2 qao rfl 2 rfl rfl fun a E=>lw E (qcP rfl rfl) fun a E=>pt E rfl rfl fun a E=>wn<|cg E rfl hF (fun c102 hF=>?_) fun c102 hF=>?_
 ·refine wp_skip<|qag<|qaa<|qab<|lw E (qaC rfl rfl (InR.inc r16 (qas hl_1) c19)) fun a E=>mv E rfl fun a E=>wpList_nil ?_
  cases hF
  exact qat ⟨m97,M98,le_m0,(ok.pk 4 [3,0,1] rfl (by decide)),E.keep [1,2,3,4,11,12,13],(InR.inc r16 (qas hl_1) c19),h99⟩
 refine qab<|fk E ok qhQ qic rfl 3 rfl rfl fun a E=>fk E ok qa2 qao rfl 2 rfl rfl fun a E=>bd hF fun l103 e104 hF=>qjj (.inl rfl) E ok 1 (qda Tryz.underlying9) Tryz.underlying126 h99 rfl rfl rfl rfl ⟨rfl,l31⟩ qiK e104 rfl fun M105 w ok h106=>wpList_nil<|qag<|qaa<|qab<|lw E (qaC rfl rfl (InR.inc r16 (qas hl_1) c19)) fun a E=>mv E rfl fun a E=>wpList_nil ?_
 cases hF
 exact qat ⟨m97,M105,le_m0,(ok.pk 4 [3,0,1] rfl (by decide)),E.keep [1,2,3,4,11,12,13],(InR.inc r16 (qas hl_1) c19),h106⟩
theorem qhl (N:Nat) (ih_syntax_checker_parts:qcR N) (ih_syntax_checker_cases:qcO N):qcO (N + 1):=by
 intro u m0 S w vx_1 x_1 hx_1 depth_2 rdepth_2 counting_3 vm0 Mm0 x0 hm0 r hF hG ok
 obtain ⟨c5,c7,rfl,r1,l2,l3,l4,h6,h8⟩:=(qbp.1 hx_1)
 have le_m0:=Mem.le.refl m0
 have hF0:qd8 (qcm N) (qdb N) N x_1 depth_2 counting_3 x0 = some r:=hF
 have hF:=hF0
 clear hF0
 unfold qd8 at hF
 refine en (qfV u m0 S x0 vm0 Mm0) r Tryz.func91 rfl rfl rfl (by rintro a w ⟨m1,M9,hle,ok,hd,hrv,h0⟩; exact qbs [.t 8 (.bool r.1)] hd rfl hrv ⟨m1,M9,rfl,hle,ok,h0⟩) fun fin a E=>sg<|qdV E ok rfl rfl rfl fun b11 a w E ok=>qdV E ok rfl rfl rfl fun b12 a w E ok=>aw E rfl fun a E=>sg<|qlk kS (oneV pB) E ok rfl rfl fun c13 M14 a w E ok h15=>aw E rfl fun a E=>wp_seq<|sg<|fk E ok qcj qdu rfl 1 rfl rfl fun a E=>lv E ok (qbb qcK h6 rfl) fun a E=>mv E rfl fun a E=>wn<|wp_block<|bd hF fun o23 hL hF=>qa6 _ (fun (s:Int × (List (List UInt8 × Bool)) × (List (List UInt8 × Bool))) a w=>∃ m24 M26 c28 M29,m0.le m24 ∧ Ok u m24 (M29 :: [(b12,oc 82 [vi x_1.Kind,vs x_1.Text,vs x_1.Name,vs x_1.Style,c5,c7])] :: [(b11,oc 128 [vm0])] :: [] :: M26 :: S) w ∧ Env 58 a [(2,vi depth_2),(3,vb counting_3),(4,vp b11),(5,vp b12),(9,c28),(14,c5),(15,(vi (x_1.Cases.length:Int))),(16,vi s.1)] ∧ InR .i64 s.1 ∧ OMap kS (oneV pB) m24 vm0 s.2.1 M26 ∧ OMap kS (oneV pB) m24 c28 s.2.2 M29) (fun (b:(((List (List UInt8 × Bool)) × (List (List UInt8 × Bool))) ⊕ (Bool × (List (List UInt8 × Bool))))) e a w=>(Sum.elim (fun b97=>e = (.exit 0) ∧ ∃ m98 M99 c101 M102,m0.le m98 ∧ Ok u m98 (M102 :: [(b12,oc 82 [vi x_1.Kind,vs x_1.Text,vs x_1.Name,vs x_1.Style,c5,c7])] :: [(b11,oc 128 [vm0])] :: [] :: M99 :: S) w ∧ Env 58 a [(5,vp b12),(9,c101)] ∧ OMap kS (oneV pB) m98 vm0 b97.1 M99 ∧ OMap kS (oneV pB) m98 c101 b97.2 M102) (fun b104=>e = .ret ∧ qfV u m0 S x0 vm0 Mm0 b104 a w)) b) ?_ ?_ N _ a w hL ⟨m0,Mm0,c13,M14,Mem.le.refl _,ok,E.keep [2,3,4,5,9,14,15,16],(ir 0),hm0,h15⟩
 rotate_left
 ·intro e a w _ hO
  rcases o23 with o23 | o23
  rotate_left
  ·obtain ⟨rfl,hret⟩:=hO
   refine qaL<|qam ?_
   exact fin hF hret
  have hF:=qb4 hF
  obtain ⟨rfl,m86,M87,c89,M90,hle,ok,E,h88,h91⟩:=hO
  have le_m0:=le_m0.trans hle
  have h6:=(mL qaG).up hle h6
  have h8:=(mL qak).up hle h8
  refine qbf<|qaa<|sg<|fk E ok qcj qdu rfl 1 rfl rfl fun a E=>lv E ok (qbb qcK h6 rfl) fun a E=>lw E (qcC rfl rfl) fun a E=>mv E rfl fun a E=>bw E 54 hF (fun c92 hF E=>?_) fun c92 hF E=>?_
  ·refine lsq E fun a E=>pf E rfl rfl fun a E=>aw E rfl fun a E=>wp_ret ?_
   exact fin hF ⟨m86,M87,le_m0,ok.drop.drop.drop,E.d,rz E rfl,h88⟩
  refine mv E rfl fun a E=>?_
  obtain ⟨xv93,h94,yy95,yy96⟩:=qoo (P:=Tryz.prog) (mo:=.tmp 55) (ko:=.const (vs ([111,116,104,101,114]))) (zx:=(false:Bool)) ok 0 (qda Tryz.underlying9) Tryz.underlying126 h91 rfl (qbQ E rfl) (qbQ E rfl) ⟨rfl,(show ([111,116,104,101,114]:List UInt8).length ≤ LIMS by decide)⟩ qmu qiK
  obtain rfl:=qnu h94
  refine lv E ok (yy95 _) fun a E=>pt E rfl rfl fun a E=>aw E rfl fun a E=>wp_ret ?_
  exact fin hF ⟨m86,M87,le_m0,ok.drop.drop.drop,E.d,rz E rfl,h88⟩
 rintro ⟨v31,v32,v33⟩ a w r ⟨m34,M36,c38,M39,hle,ok,E,r35,h37,h40⟩ hF
 replace hF:qel (qcm N) (qdb N) N x_1 depth_2 counting_3 v31 v32 v33 = some r:=hF
 unfold qel at hF
 have le_m0:=le_m0.trans hle
 have h6:=(mL qaG).up hle h6
 have h8:=(mL qak).up hle h8
 refine sg<|lw E (qaS rfl rfl) fun a E=>wn<|wp_seq<|cg E rfl hF (fun c41 hF=>?_) fun c41 hF=>?_
 ·refine wp_exit<|qaX ?_
  cases hF
  exact so (sl ⟨rfl,⟨m34,M36,c38,M39,le_m0,ok,E.keep [5,9],h37,h40⟩⟩)
 refine wp_skip<|qaa<|wp_seq<|wp_block<|sg ?_
 obtain ⟨x42,e43,hF⟩:=bnd hF
 obtain ⟨b44,o45,es46,hl47,rr48,at49,yy50⟩:=ia E 14 16 qcK h6 e43
 obtain ⟨c52,rfl,l51,h53⟩:=rr48
 refine lv E ok (yy50 _ _) fun a E=>lv E ok (qan (cs:=[vs x42.Key,c52]) qkh rfl rfl (qae.ro at49)) fun a E=>qa3 E ok qdl rfl rfl fun b54 a w E ok=>qad E ok 0 rfl rfl rfl qkj rfl rfl ⟨rfl,(qc9 h53),trivial⟩ rfl rfl fun w ok=>wn<|wp_seq<|wp_seq<|bd hF fun o55 hJ hF=>qaK (Q':=fun e a w=>e = .normal ∧ ∃ m56 M57,m34.le m56 ∧ Ok u m56 ([(b54,oc 85 [vs x42.Key,c52])] :: M39 :: [(b12,oc 82 [vi x_1.Kind,vs x_1.Text,vs x_1.Name,vs x_1.Style,c5,c7])] :: [(b11,oc 128 [vm0])] :: [] :: M57 :: S) w ∧ Env 58 a [(2,vi depth_2),(3,vb counting_3),(4,vp b11),(5,vp b12),(9,c38),(11,vp b54),(14,c5),(15,(vi (x_1.Cases.length:Int))),(16,vi v31),(45,vb o55.1)] ∧ OMap kS (oneV pB) m56 vm0 o55.2 M57) ?_ ?_
 rotate_left
 ·intro e a w hO
  obtain ⟨rfl,m78,M79,hle,ok,E,h80⟩:=hO
  have le_m0:=le_m0.trans hle
  have h6:=(mL qaG).up hle h6
  have h8:=(mL qak).up hle h8
  have h40:=OMap.up (qk2 mB) hle h40
  have h53:=(mL qak).up hle h53
  have at49:=At.up hle at49
  refine qaa<|cf E rfl hF (fun c81 hF=>?_) fun c81 hF=>?_
  ·refine sg<|aw E rfl fun a E=>wp_ret<|qam<|qaL<|qam ?_
   cases hF
   exact so (sr ⟨rfl,⟨m78,M79,le_m0,ok.drop.drop.drop.drop,E.d,rz E rfl,h80⟩⟩)
  refine wp_skip<|qaa<|qab<|mv E rfl fun a E=>fk E ok qgE qao rfl 0 rfl rfl fun a E=>bd hF fun l82 e83 hF=>qjj (.inl rfl) E ok 1 (qda Tryz.underlying9) Tryz.underlying126 h40 rfl rfl rfl rfl ⟨rfl,l51⟩ qiK e83 rfl fun M84 w ok h85=>wpList_nil<|qag<|qaa<|qab<|lw E (qaC rfl rfl (InR.inc r35 (qas h6) c41)) fun a E=>mv E rfl fun a E=>wpList_nil ?_
  cases hF
  exact qat ⟨m78,M79,c38,M84,le_m0,(ok.pk 6 [1,2,3,4,5] rfl (by decide)),E.keep [2,3,4,5,9,14,15,16],(InR.inc r35 (qas h6) c41),h80,h85⟩
 have hF:=hJ
 have le_m34:=Mem.le.refl m34
 refine qab<|fk E ok qaH qaq rfl 2 rfl rfl fun a E=>fk E ok qgE qao rfl 0 rfl rfl fun a E=>bd hF fun r59 e60 hF=>lc E qpf rfl (ql1 N x_1.Kind r1 x42.Key l51 e60 hG ok) fun w ok a E=>lw E (qbh rfl) fun a E=>mv E rfl fun a E=>bu E 26 hF (fun c61 hF E=>?_) fun c61 hF E=>?_
 ·refine lsz E fun a E=>pt E rfl rfl fun a E=>mv E rfl fun a E=>lsz E fun a E=>lsz E fun a E=>lsq E fun a E=>?_
  refine lsq E fun a E=>pt E rfl rfl fun a E=>wpList_nil ?_
  cases hF
  exact ⟨rfl,⟨m34,M36,le_m34,ok,E.keep [2,3,4,5,9,11,14,15,16,45],h37⟩⟩
 refine mv E rfl fun a E=>fk E ok qgE qao rfl 0 rfl rfl fun a E=>?_
 obtain ⟨xv62,h63,yy64,yy65⟩:=qoo (P:=Tryz.prog) (mo:=.tmp 27) (ko:=.tmp 29) (zx:=(false:Bool)) ok 1 (qda Tryz.underlying9) Tryz.underlying126 h40 rfl (qbQ E rfl) (qbQ E rfl) ⟨rfl,l51⟩ qmu qiK
 obtain rfl:=qnu h63
 refine lv E ok (yy64 _) fun a E=>pf E rfl rfl fun a E=>mv E rfl fun a E=>bu E 32 hF (fun c66 hF E=>?_) fun c66 hF E=>?_
 ·refine lsz E fun a E=>lsz E fun a E=>lsz E fun a E=>pt E rfl rfl fun a E=>wpList_nil ?_
  cases hF
  exact ⟨rfl,⟨m34,M36,le_m34,ok,E.keep [2,3,4,5,9,11,14,15,16,45],h37⟩⟩
 refine lv E ok (qan (cs:=[vm0]) qih rfl rfl (qae.own 3 rfl rfl)) fun a E=>fk E ok qiw qcW rfl 0 rfl rfl fun a E=>mz E rfl rfl fun a E=>mv E rfl fun a E=>qbr counting_3 (fun c67=>?_) (fun c67=>?_)
 ·have hF:=qbo c67 hF
  have E:=E.upd 38 c67 rfl
  refine lsq E fun a E=>ls E fun a E=>pt E rfl rfl fun a E=>?_
  obtain ⟨r68,e69,hF⟩:=bnd hF
  replace ok:Ok u m34 ([] :: M36 :: [(b54,oc 85 [vs x42.Key,c52])] :: M39 :: [(b12,oc 82 [vi x_1.Kind,vs x_1.Text,vs x_1.Name,vs x_1.Style,c5,c7])] :: [(b11,oc 128 [vm0])] :: S) w:=(ok.pk 6 [4,5,0,1,2,3] rfl (by decide))
  refine qaf E qls rfl (ih_syntax_checker_parts _ x42.Parts h53 depth_2 rdepth_2 true v32 h37 e69 hG ok) rfl rfl ?_
  rintro _ w ⟨m70,M71,rfl,hle,ok,h72⟩
  have le_m0:=le_m0.trans hle
  have le_m34:=le_m34.trans hle
  have h6:=(mL qaG).up hle h6
  have h8:=(mL qak).up hle h8
  have h40:=OMap.up (qk2 mB) hle h40
  have h53:=(mL qak).up hle h53
  have at49:=At.up hle at49
  refine ⟨_,rfl,fun a E=>?_⟩
  refine lw E (qbh rfl) fun a E=>pf E rfl rfl fun a E=>wpList_nil ?_
  cases hF
  exact ⟨rfl,⟨m70,M71,le_m34,(ok.pk 6 [2,3,4,5,0,1] rfl (by decide)),E.keep [2,3,4,5,9,11,14,15,16,45],h72⟩⟩
 have hF:=qbn c67 hF
 have E:=E.upd 38 c67 rfl
 refine fk E ok qaH qaq rfl 2 rfl rfl fun a E=>lw E (qbj rfl rfl) fun a E=>pf E rfl rfl fun a E=>?_
 obtain ⟨r73,e74,hF⟩:=bnd hF
 replace ok:Ok u m34 ([] :: M36 :: [(b54,oc 85 [vs x42.Key,c52])] :: M39 :: [(b12,oc 82 [vi x_1.Kind,vs x_1.Text,vs x_1.Name,vs x_1.Style,c5,c7])] :: [(b11,oc 128 [vm0])] :: S) w:=(ok.pk 6 [4,5,0,1,2,3] rfl (by decide))
 refine qaf E qls rfl (ih_syntax_checker_parts _ x42.Parts h53 depth_2 rdepth_2 (x_1.Kind != 9) v32 h37 e74 hG ok) rfl rfl ?_
 rintro _ w ⟨m75,M76,rfl,hle,ok,h77⟩
 have le_m0:=le_m0.trans hle
 have le_m34:=le_m34.trans hle
 have h6:=(mL qaG).up hle h6
 have h8:=(mL qak).up hle h8
 have h40:=OMap.up (qk2 mB) hle h40
 have h53:=(mL qak).up hle h53
 have at49:=At.up hle at49
 refine ⟨_,rfl,fun a E=>?_⟩
 refine lw E (qbh rfl) fun a E=>pf E rfl rfl fun a E=>wpList_nil ?_
 cases hF
 exact ⟨rfl,⟨m75,M76,le_m34,(ok.pk 6 [2,3,4,5,0,1] rfl (by decide)),E.keep [2,3,4,5,9,11,14,15,16,45],h77⟩⟩
theorem qhg:qcR 0:=by
 intro u m0 S w vl_1 l_1 hl_1 depth_2 rdepth_2 counting_3 vm0 Mm0 x0 hm0 r hF hG ok
 replace hF:none = some r:=hF
 cases hF
theorem qhe:qcO 0:=by
 intro u m0 S w vx_1 x_1 hx_1 depth_2 rdepth_2 counting_3 vm0 Mm0 x0 hm0 r hF hG ok
 replace hF:none = some r:=hF
 cases hF
theorem qgD (N:Nat):qcR N ∧ qcO N:=by
 induction N with
 | zero=>exact ⟨qhg,qhe⟩
 | succ N h=>exact ⟨qhm N h.1 h.2,qhl N h.1 h.2⟩
theorem qh5 {u:World} {m0:Mem} {S:Segs} {w:World} (N:Nat) (vl_1:Value) (l_1:List (Part)) (hl_1:(pL 6 qbg) m0 [vl_1] l_1) (depth_2:Int) (rdepth_2:InR .i64 depth_2) (counting_3:Bool) {vm0:Value} {Mm0:List (Nat × Obj)} (x0:List (List UInt8 × Bool)) (hm0:OMap kS (oneV pB) m0 vm0 x0 Mm0) {r:Bool × (List (List UInt8 × Bool))} (hF:qcm N l_1 depth_2 counting_3 x0 = some r) (hG:Glob u) (ok:Ok u m0 ([] :: Mm0 :: S) w) :
 Calls Tryz.prog 67 [Value.agg [vm0].toArray,vl_1,vi depth_2,vb counting_3].toArray w fun e w'=>∃ m1 M1,e = .returned (.bool r.1) ∧ m0.le m1 ∧ Ok u m1 ([] :: M1 :: S) w' ∧ OMap kS (oneV pB) m1 vm0 r.2 M1:=(qgD N).1 vl_1 l_1 hl_1 depth_2 rdepth_2 counting_3 x0 hm0 hF hG ok
theorem qib {u:World} {m:Mem} {S:Segs} {w:World} {b:Nat} {v:Value} (ok:Ok u m ([(b,oc 68 [(Value.pointer none),v])] :: S) w) :
  Calls Tryz.prog 55 [.pointer (some ⟨b,0,none⟩)].toArray w fun e w'=>e = .returned (.tuple [].toArray) ∧ Ok u m ([(b,oc 68 [vp b,v])] :: S) w':=by
 have fin:∀ a w,(a.defers = [] ∧ Ok u m ([(b,oc 68 [vp b,v])] :: S) w) → bodyPost Tryz.prog Tryz.f55 (fun e w'=>e = .returned (.tuple [].toArray) ∧ Ok u m ([(b,oc 68 [vp b,v])] :: S) w') .ret a w:=fun a w h=>qbs [] h.1 rfl trivial ⟨rfl,h.2⟩
 refine enter Tryz.func55 rfl rfl rfl fun a E=>sg<|mv E rfl fun a E=>lw E (qaj rfl) fun a E=>fk E ok qjK qlU rfl 0 rfl rfl fun a E=>lv E ok (qni Tryz.underlying65 rfl rfl) fun a E=>wn<|c_if E rfl (fun _=>?_) (fun h=>by cases h)
 refine qab<|mz E rfl rfl fun a E=>lv E ok (qmT Tryz.underlying65 Tryz.underlying130 qpC (by decide) (qld (c:=[(Value.pointer none),v]) 0 rfl) (Nat.le_of_ble_eq_true rfl) rfl) fun a E=>lv E ok (qmR Tryz.func70 (by kernel_rfl) (by kernel_rfl) (by kernel_rfl) (by kernel_rfl) rfl) fun a E=>lv E ok (qme Tryz.underlying130 Tryz.underlying65 qmp (qld (c:=[(Value.pointer none),v]) 0 rfl) qoG rfl) fun a E=>lw E (qaj rfl) fun a E=>fv E qjK rfl fun a E=>qad E ok 0 rfl rfl rfl qpH rfl rfl ⟨rfl,trivial⟩ rfl rfl fun w ok=>wpList_nil ?_
 exact fin _ _ ⟨E.d,ok⟩
theorem qh6 {u:World} {m:Mem} {S:Segs} {w:World} {b:Nat} {v:Value} (ok:Ok u m ([(b,oc 68 [vp b,v])] :: S) w) :
  Calls Tryz.prog 55 [.pointer (some ⟨b,0,none⟩)].toArray w fun e w'=>e = .returned (.tuple [].toArray) ∧ Ok u m ([(b,oc 68 [vp b,v])] :: S) w':=by
 have fin:∀ a w,(a.defers = [] ∧ Ok u m ([(b,oc 68 [vp b,v])] :: S) w) → bodyPost Tryz.prog Tryz.f55 (fun e w'=>e = .returned (.tuple [].toArray) ∧ Ok u m ([(b,oc 68 [vp b,v])] :: S) w') .ret a w:=fun a w h=>qbs [] h.1 rfl trivial ⟨rfl,h.2⟩
 refine enter Tryz.func55 rfl rfl rfl fun a E=>sg<|mv E rfl fun a E=>lw E (qaj rfl) fun a E=>fk E ok qjK qlU rfl 0 rfl rfl fun a E=>lv E ok (qni Tryz.underlying65 rfl rfl) fun a E=>wn<|c_if E rfl (fun h=>by cases h) (fun _=>?_)
 refine sg<|mv E rfl fun a E=>lw E (qaj rfl) fun a E=>fk E ok qjK qlU rfl 0 rfl rfl fun a E=>mv E rfl fun a E=>lv E ok (qmZ Tryz.underlying65 qmp rfl rfl) fun a E=>wn<|c_if E rfl (fun h=>by cases h) (fun _=>?_)
 refine wp_skip ?_
 exact fin _ _ ⟨E.d,ok⟩
theorem qgs {u:World} {m:Mem} {S:Segs} {w:World} {b:Nat} {a v:Value} (ha:BAd b a) (ok:Ok u m ([(b,oc 68 [a,v])] :: S) w) :
  Calls Tryz.prog 55 [.pointer (some ⟨b,0,none⟩)].toArray w fun e w'=>e = .returned (.tuple [].toArray) ∧ Ok u m ([(b,oc 68 [vp b,v])] :: S) w':=by
 rcases ha with rfl | rfl
 ·exact qib ok
 ·exact qh6 ok
def qgP (u:World) (m0:Mem) (S:Segs) (pb0:Nat) (x0:Builder) (c1:Value) (c3:Value) (M4:List (Nat × Obj)) (r:Unit × Builder) (a:Act) (w:World):Prop :=
 ∃ c6 c8 M9,Ok u m0 ([(pb0,oc 68 [c6,c8])] :: M9 :: S) w ∧ a.defers = [] ∧ RVs Tryz.prog a w [.t 4 .nilIface] ∧ BAd pb0 c6 ∧ ORow 5 1 (pI .u8) m0 c8 r.2.buf M9
theorem qbJ (N:Nat) (c_1:Int) (rc_1:InR .u8 c_1) {pb0:Nat} {c1:Value} {c3:Value} {M4:List (Nat × Obj)} (x0:Builder) (h2:BAd pb0 c1) (h5:ORow 5 1 (pI .u8) m0 c3 x0.buf M4) {r:Unit × Builder} (hF:qa1 N c_1 x0 = some r) (hG:Glob u) (ok:Ok u m0 ([(pb0,oc 68 [c1,c3])] :: M4 :: S) w) :
  Calls Tryz.prog 38 [vp pb0,Value.int .u8 c_1].toArray w fun e w'=>∃ c6 c8 M9,(e = .returned .nilIface ∧ Ok u m0 ([(pb0,oc 68 [c6,c8])] :: M9 :: S) w') ∧ BAd pb0 c6 ∧ ORow 5 1 (pI .u8) m0 c8 r.2.buf M9:=by
 unfold qa1 at hF
 refine en (qgP u m0 S pb0 x0 c1 c3 M4) r Tryz.func38 rfl rfl rfl (by rintro a w ⟨c6,c8,M9,ok,hd,hrv,h0,h1⟩; exact qbs [.t 4 .nilIface] hd rfl hrv ⟨c6,c8,M9,⟨rfl,ok⟩,h0,h1⟩) fun fin a E=>sg<|aw E rfl fun a E=>sg<|mv E rfl fun a E=>lc E qov rfl (qgs h2 ok) fun w ok a E=>wn<|sg<|mz E rfl rfl fun a E=>lw E (qaj rfl) fun a E=>fv E qjC rfl fun a E=>ld E ok qnd 0 rfl rfl rfl fun a E=>mv E rfl fun a E=>qbt (R:=(pI .u8)) (xo:=[.tmp 12]) (xs:=([c_1]:List (Int))) E ok qex qdN rfl ⟨⟨_,rfl,rfl,(qdr rc_1)⟩,trivial⟩ rfl rfl rfl rfl fun c11 M12 a w E ok h13=>?_
 refine bd hF fun l14 e15 hF=>qcn (R:=(pI .u8)) E ok 2 (mI .u8) qex Tryz.underlying66 rfl h5 (qbz.ofRow h13 0 rfl ok) e15 ⟨_,qdN,rfl⟩ rfl rfl rfl rfl fun c16 M17 a w E ok h18=>lw E (qaj rfl) fun a E=>fv E qjC rfl fun a E=>qad E ok 1 rfl rfl rfl qng (ORow.cells h18) rfl ⟨(ORow.one h18),trivial⟩ rfl rfl fun w ok=>wn<|sg<|aw E rfl fun a E=>wp_ret ?_
 exact fin hF ⟨(vp pb0),c16,M17,ok.drop,E.d,rz E rfl,(.inr rfl),h18⟩
def qkF (u:World) (m0:Mem) (S:Segs) (r:Bool) (a:Act) (w:World):Prop :=
 Ok u m0 S w ∧ a.defers = [] ∧ RVs Tryz.prog a w [.t 2 (.bool r)]
theorem qky (N:Nat) (c_0:Int) (rc_0:InR .u8 c_0) {r:Bool} (hF:qg7 N c_0 = some r) (hG:Glob u) (ok:Ok u m0 S w) :
  Calls Tryz.prog 116 [Value.int .u8 c_0].toArray w fun e w'=>(e = .returned (.bool r) ∧ Ok u m0 S w'):=by
 unfold qg7 at hF
 refine en (qkF u m0 S) r Tryz.func116 rfl rfl rfl (fun _ _ h=>ra h rfl) fun fin a E=>sg<|aw E rfl fun a E=>wp_seq<|sg<|mv E rfl fun a E=>wn<|wp_block<|wp_seq<|sg<|lw E (qap rfl rfl) fun a E=>aw E rfl fun a E=>bd hF fun o1 hJ hF=>qaK (Q':=fun e a w=>e = .normal ∧ Ok u m0 (S) w ∧ Env 11 a [(4,vb o1)]) ?_ ?_
 rotate_left
 ·intro e a w hO
  obtain ⟨rfl,ok,E⟩:=hO
  refine qaa<|cf E rfl hF (fun c7 hF=>?_) fun c7 hF=>?_
  ·refine sg<|aw E rfl fun a E=>wp_ret<|qaL<|qam ?_
   exact fin hF ⟨ok,E.d,rz E rfl⟩
  refine wp_skip<|qag<|qaa<|sg<|aw E rfl fun a E=>wp_ret ?_
  exact fin hF ⟨ok,E.d,rz E rfl⟩
 have hF:=hJ
 refine cf E rfl hF (fun c2 hF=>?_) fun c2 hF=>?_
 ·refine wp_skip ?_
  cases hF
  exact ⟨rfl,⟨ok,E.keep [4]⟩⟩
 refine sg<|lw E (qap rfl rfl) fun a E=>aw E rfl fun a E=>cf E rfl hF (fun c3 hF=>?_) fun c3 hF=>?_
 ·refine wp_skip ?_
  cases hF
  exact ⟨rfl,⟨ok,E.keep [4]⟩⟩
 refine sg<|lw E (qap rfl rfl) fun a E=>aw E rfl fun a E=>cf E rfl hF (fun c4 hF=>?_) fun c4 hF=>?_
 ·refine wp_skip ?_
  cases hF
  exact ⟨rfl,⟨ok,E.keep [4]⟩⟩
 refine sg<|lw E (qap rfl rfl) fun a E=>aw E rfl fun a E=>cf E rfl hF (fun c5 hF=>?_) fun c5 hF=>?_
 ·refine wp_skip ?_
  cases hF
  exact ⟨rfl,⟨ok,E.keep [4]⟩⟩
 refine sg<|lw E (qap rfl rfl) fun a E=>aw E rfl fun a E=>cf E rfl hF (fun c6 hF=>?_) fun c6 hF=>?_
 ·refine wp_skip ?_
  cases hF
  exact ⟨rfl,⟨ok,E.keep [4]⟩⟩
 refine qab<|lw E (qap rfl rfl) fun a E=>av E rfl fun a E=>wpList_nil ?_
 cases hF
 exact ⟨rfl,⟨ok,E.keep [4]⟩⟩
def qkM (u:World) (m0:Mem) (S:Segs) (r:(List UInt8)) (a:Act) (w:World):Prop :=
 Ok u m0 S w ∧ a.defers = [] ∧ RVs Tryz.prog a w [.t 2 (.string (bs r))] ∧ r.length ≤ LIMS
theorem qk6 (N:Nat) (s_0:List UInt8) (ls_0:s_0.length ≤ LIMS) {r:(List UInt8)} (hF:qhO N s_0 = some r) (hG:Glob u) (ok:Ok u m0 S w) :
  Calls Tryz.prog 92 [vs s_0].toArray w fun e w'=>(e = .returned (.string (bs r)) ∧ Ok u m0 S w') ∧ r.length ≤ LIMS:=by
 unfold qhO at hF
 refine en (qkM u m0 S) r Tryz.func92 rfl rfl rfl (fun _ _ h=>rb h rfl) fun fin a E=>sg<|aw E rfl fun a E=>sg<|qa3 E ok qmE rfl rfl fun b1 a w E ok=>wn<|wp_seq<|sg<|mv E rfl fun a E=>lw E (qaJ Tryz.underlying9 rfl) fun a E=>mv E rfl fun a E=>wn<|wp_block ?_
 obtain ⟨M9,ok,h10⟩:=qee (e:=5) (k:=1) (R:=(pI .u8)) ok
 refine bd hF fun o11 hL hF=>qa6 _ (fun (s:Int × Builder) a w=>∃ c13 c15 M16,Ok u m0 (M16 :: [(b1,oc 68 [c13,c15])] :: S) w ∧ Env 21 a [(0,vs s_0),(3,vp b1),(6,(vi (s_0.length:Int))),(7,vi s.1)] ∧ InR .i64 s.1 ∧ BAd b1 c13 ∧ ORow 5 1 (pI .u8) m0 c15 s.2.buf M16) (fun (b:Builder) e a w=>e = (.exit 0) ∧ ∃ c63 c65 M66,Ok u m0 (M66 :: [(b1,oc 68 [c63,c65])] :: S) w ∧ Env 21 a [(3,vp b1)] ∧ BAd b1 c63 ∧ ORow 5 1 (pI .u8) m0 c65 b.buf M66) ?_ ?_ N _ a w hL ⟨(Value.pointer none),(Value.slice none 0 0),M9,ok,E.keep [0,3,6,7],(ir 0),(.inl rfl),h10⟩
 rotate_left
 ·intro e a w _ hO
  obtain ⟨rfl,c57,c59,M60,ok,E,h58,h61⟩:=hO
  refine qbf<|qaa<|sg ?_
  replace ok:Ok u m0 ([(b1,oc 68 [c57,c59])] :: M60 :: S) w:=(ok.pk 2 [1,0] rfl (by decide))
  refine qaf E qom rfl (qkx Tryz.lays169 Tryz.Builder_Extra_169 h61 ok) rfl rfl ?_
  rintro _ w ⟨⟨rfl,ok⟩,l62⟩
  refine ⟨_,rfl,fun a E=>?_⟩
  refine aw E rfl fun a E=>wp_ret ?_
  exact fin hF ⟨ok,E.d,rz E rfl,l62⟩
 rintro ⟨v18,v19⟩ a w r ⟨c21,c23,M24,ok,E,r20,h22,h25⟩ hF
 replace hF:qgh N s_0 v18 v19 = some r:=hF
 unfold qgh at hF
 refine sg<|lw E (qaS rfl rfl) fun a E=>wn<|wp_seq<|cg E rfl hF (fun c26 hF=>?_) fun c26 hF=>?_
 ·refine wp_exit<|qaX ?_
  cases hF
  exact so (⟨rfl,⟨c21,c23,M24,ok,E.keep [3],h22,h25⟩⟩)
 refine wp_skip<|qaa<|wp_seq<|wp_block<|sg<|mv E rfl fun a E=>av E rfl fun a E=>wn<|wp_seq<|sg<|mz E rfl rfl fun a E=>bd hF fun c27 e28 hF=>lv E ok (qaD Tryz.underlying9 rfl rfl e28) fun a E=>?_
 refine bd hF fun r29 e30 hF=>lc E qpx rfl (qky N (c27.toNat:Int) (InR.byte c27) e30 hG ok) fun w ok a E=>wn<|cg E rfl hF (fun c31 hF=>?_) fun c31 hF=>?_
 ·refine wp_skip<|qaa<|qab<|mz E rfl rfl fun a E=>bd hF fun c48 e49 hF=>lv E ok (qaD Tryz.underlying9 rfl rfl e49) fun a E=>?_
  obtain ⟨r50,e51,hF⟩:=bnd hF
  replace ok:Ok u m0 ([(b1,oc 68 [c21,c23])] :: M24 :: S) w:=(ok.pk 2 [1,0] rfl (by decide))
  refine qaf E qiP rfl (qbJ N (c48.toNat:Int) (InR.byte c48) (Builder.mk () v19.buf) h22 h25 e51 hG ok) rfl rfl ?_
  rintro _ w ⟨c52,c54,M55,⟨rfl,ok⟩,h53,h56⟩
  refine ⟨_,rfl,fun a E=>?_⟩
  refine wpList_nil<|qag<|qaa<|qab<|lw E (qaC rfl rfl (InR.inc r20 (InR.len ls_0) c26)) fun a E=>mv E rfl fun a E=>wpList_nil ?_
  cases hF
  exact qat ⟨c52,c54,M55,(ok.pk 2 [1,0] rfl (by decide)),E.keep [0,3,6,7],(InR.inc r20 (InR.len ls_0) c26),h53,h56⟩
 refine qab ?_
 obtain ⟨r32,e33,hF⟩:=bnd hF
 replace ok:Ok u m0 ([(b1,oc 68 [c21,c23])] :: M24 :: S) w:=(ok.pk 2 [1,0] rfl (by decide))
 refine qaf E qiP rfl (qbJ N 92 (show InR .u8 (92) by decide) (Builder.mk () v19.buf) h22 h25 e33 hG ok) rfl rfl ?_
 rintro _ w ⟨c34,c36,M37,⟨rfl,ok⟩,h35,h38⟩
 refine ⟨_,rfl,fun a E=>?_⟩
 refine wn<|qab<|mz E rfl rfl fun a E=>bd hF fun c39 e40 hF=>lv E ok (qaD Tryz.underlying9 rfl rfl e40) fun a E=>bd hF fun r41 e42 hF=>qaf E qiP rfl (qbJ N (c39.toNat:Int) (InR.byte c39) (Builder.mk () r32.2.buf) h35 h38 e42 hG ok) rfl rfl ?_
 rintro _ w ⟨c43,c45,M46,⟨rfl,ok⟩,h44,h47⟩
 refine ⟨_,rfl,fun a E=>?_⟩
 refine wpList_nil<|qag<|qaa<|qab<|lw E (qaC rfl rfl (InR.inc r20 (InR.len ls_0) c26)) fun a E=>mv E rfl fun a E=>wpList_nil ?_
 cases hF
 exact qat ⟨c43,c45,M46,(ok.pk 2 [1,0] rfl (by decide)),E.keep [0,3,6,7],(InR.inc r20 (InR.len ls_0) c26),h44,h47⟩
end Go.Proofs.YtllnjbnknjpbjaaGreatDoor
namespace Go.Proofs.YtllnjbnknjpbjaaGreatDoor
open Go.X
variable {u:World} {m0:Mem} {S:Segs} {w:World}
set_option maxHeartbeats 4000000
set_option maxRecDepth 100000
def qd6:List MapEntry:=[⟨.string (bs [110,117,109,98,101,114]),.int .i64 3,0⟩,⟨.string (bs [117,110,105,116]),.int .i64 4,1⟩,⟨.string (bs [100,97,116,101]),.int .i64 5,2⟩,⟨.string (bs [108,105,115,116]),.int .i64 6,3⟩,⟨.string (bs [112,108,117,114,97,108]),.int .i64 7,4⟩,⟨.string (bs [111,114,100,105,110,97,108]),.int .i64 8,5⟩,⟨.string (bs [115,101,108,101,99,116]),.int .i64 9,6⟩]
def ust (k n:Int) (seen:Array Nat) (q:Int):Prop:=q = match uhit k with | some (b,l)=>bif seen.contains b then IntKind.wrap .i64 (n + IntKind.wrap .i64 ((2:Int) + (l:Int))) else n | none=>n
theorem qqb {k n:Int}:ust k n #[] n:=by
 unfold ust
 cases uhit k with
 | none=>rfl
 | some p=>obtain ⟨b,l⟩:=p; simp
theorem qn9 {k:Int} {b l:Nat} (h:uhit k = some (b,l)):∃ e ∈ qd6,e.born = b ∧ e.val = .int .i64 k ∧ ∃ s,e.key = .string (bs s) ∧ s.length = l:=by
 unfold uhit at h
 split at h
 ·rename_i hk
  cases h
  exact ⟨⟨.string (bs [110,117,109,98,101,114]),.int .i64 3,0⟩,by simp [qd6],rfl,by rw [hk],[110,117,109,98,101,114],rfl,rfl⟩
 split at h
 ·rename_i hk
  cases h
  exact ⟨⟨.string (bs [117,110,105,116]),.int .i64 4,1⟩,by simp [qd6],rfl,by rw [hk],[117,110,105,116],rfl,rfl⟩
 split at h
 ·rename_i hk
  cases h
  exact ⟨⟨.string (bs [100,97,116,101]),.int .i64 5,2⟩,by simp [qd6],rfl,by rw [hk],[100,97,116,101],rfl,rfl⟩
 split at h
 ·rename_i hk
  cases h
  exact ⟨⟨.string (bs [108,105,115,116]),.int .i64 6,3⟩,by simp [qd6],rfl,by rw [hk],[108,105,115,116],rfl,rfl⟩
 split at h
 ·rename_i hk
  cases h
  exact ⟨⟨.string (bs [112,108,117,114,97,108]),.int .i64 7,4⟩,by simp [qd6],rfl,by rw [hk],[112,108,117,114,97,108],rfl,rfl⟩
 split at h
 ·rename_i hk
  cases h
  exact ⟨⟨.string (bs [111,114,100,105,110,97,108]),.int .i64 8,5⟩,by simp [qd6],rfl,by rw [hk],[111,114,100,105,110,97,108],rfl,rfl⟩
 split at h
 ·rename_i hk
  cases h
  exact ⟨⟨.string (bs [115,101,108,101,99,116]),.int .i64 9,6⟩,by simp [qd6],rfl,by rw [hk],[115,101,108,101,99,116],rfl,rfl⟩
 cases h
theorem qoS {k n q:Int} {seen:Array Nat} (h:ust k n seen q) (hall:∀ e ∈ qd6,seen.contains e.born = true):q = qhz k n:=by
 unfold ust at h
 unfold qhz
 cases hk:uhit k with
 | none=>rw [hk] at h; exact h
 | some p =>
  obtain ⟨b,l⟩:=p
  rw [hk] at h
  obtain ⟨e,he,hb,_⟩:=qn9 hk
  have:=hall e he
  rw [hb] at this
  simp only [this,cond_true] at h
  exact h
theorem qmn:(qd6.map (·.born)).Nodup:=by decide
theorem qnI {e:MapEntry} (he:e ∈ qd6):∃ s v,e.key = .string (bs s) ∧ e.val = .int .i64 v ∧ s.length ≤ LIMS ∧ InR .i64 v ∧ uhit v = some (e.born,s.length) ∧ ∀ k l,uhit k = some (e.born,l) → k = v:=by
 simp only [qd6,List.mem_cons,List.not_mem_nil,or_false] at he
 rcases he with rfl | rfl | rfl | rfl | rfl | rfl | rfl
 ·refine ⟨[110,117,109,98,101,114],3,rfl,rfl,by decide,by decide,by decide,fun k l h=>?_⟩
  unfold uhit at h
  repeat (split at h; · rename_i hk; first | exact hk | (simp at h))
  cases h
 ·refine ⟨[117,110,105,116],4,rfl,rfl,by decide,by decide,by decide,fun k l h=>?_⟩
  unfold uhit at h
  repeat (split at h; · rename_i hk; first | exact hk | (simp at h))
  cases h
 ·refine ⟨[100,97,116,101],5,rfl,rfl,by decide,by decide,by decide,fun k l h=>?_⟩
  unfold uhit at h
  repeat (split at h; · rename_i hk; first | exact hk | (simp at h))
  cases h
 ·refine ⟨[108,105,115,116],6,rfl,rfl,by decide,by decide,by decide,fun k l h=>?_⟩
  unfold uhit at h
  repeat (split at h; · rename_i hk; first | exact hk | (simp at h))
  cases h
 ·refine ⟨[112,108,117,114,97,108],7,rfl,rfl,by decide,by decide,by decide,fun k l h=>?_⟩
  unfold uhit at h
  repeat (split at h; · rename_i hk; first | exact hk | (simp at h))
  cases h
 ·refine ⟨[111,114,100,105,110,97,108],8,rfl,rfl,by decide,by decide,by decide,fun k l h=>?_⟩
  unfold uhit at h
  repeat (split at h; · rename_i hk; first | exact hk | (simp at h))
  cases h
 ·refine ⟨[115,101,108,101,99,116],9,rfl,rfl,by decide,by decide,by decide,fun k l h=>?_⟩
  unfold uhit at h
  repeat (split at h; · rename_i hk; first | exact hk | (simp at h))
  cases h
theorem qoH {k n q v:Int} {seen:Array Nat} {e:MapEntry} {s:List UInt8} (h:ust k n seen q) (hne:seen.contains e.born = false) (hu:uhit v = some (e.born,s.length)) (hk:v = k):ust k n (seen.push e.born) (IntKind.wrap .i64 (q + IntKind.wrap .i64 ((2:Int) + (s.length:Int)))):=by
 subst hk
 unfold ust at h ⊢
 rw [hu] at h ⊢
 simp only [hne,cond_false] at h
 subst h
 simp
theorem qn4 {k n q v:Int} {seen:Array Nat} {e:MapEntry} (h:ust k n seen q) (hu:∀ k l,uhit k = some (e.born,l) → k = v) (hk:v ≠ k):ust k n (seen.push e.born) q:=by
 unfold ust at h ⊢
 cases hh:uhit k with
 | none=>rw [hh] at h; exact h
 | some p =>
  obtain ⟨b,l⟩:=p
  rw [hh] at h
  have hb:b ≠ e.born:=fun e0=>hk (hu k l (by rw [hh,e0])).symm
  simp only [Array.contains_push]
  rw [show (b == e.born) = false by simpa using hb,Bool.or_false]
  exact h
theorem qmN {k n:Int} (h:InR .i64 n):InR .i64 (qhz k n):=by
 unfold qhz
 cases uhit k with
 | none=>exact h
 | some p=>exact InR.wrap _ _
theorem qll (ok:Ok u m0 S w):Calls Tryz.prog 93 [].toArray w fun e w'=>∃ b,e = .returned (.map (some b)) ∧ Ok u m0 ([(b,Obj.map qd6.toArray 7)] :: S) w':=by
 refine enter Tryz.func93 rfl rfl rfl fun a E=>sg<|aw E rfl fun a E=>sg<|qmG E ok rfl rfl fun b a w E ok=>qiR (KR:=kS) (R:=fun _ _ (_:Unit)=>True) (k:=[110,117,109,98,101,114]) (x:=()) (l0:=[]) E ok 0 (qda Tryz.underlying9) Tryz.underlying149 rfl trivial (by decide) rfl rfl rfl ⟨rfl,by decide⟩ (by decide) rfl fun w ok=>qiR (KR:=kS) (R:=fun _ _ (_:Unit)=>True) (k:=[117,110,105,116]) (x:=()) (l0:=[([110,117,109,98,101,114],())]) E ok 0 (qda Tryz.underlying9) Tryz.underlying149 rfl ⟨⟨rfl,by decide⟩,trivial,trivial⟩ (by decide) rfl rfl rfl ⟨rfl,by decide⟩ (by decide) rfl fun w ok=>qiR (KR:=kS) (R:=fun _ _ (_:Unit)=>True) (k:=[100,97,116,101]) (x:=()) (l0:=[([110,117,109,98,101,114],()),([117,110,105,116],())]) E ok 0 (qda Tryz.underlying9) Tryz.underlying149 rfl ⟨⟨rfl,by decide⟩,trivial,⟨rfl,by decide⟩,trivial,trivial⟩ (by decide) rfl rfl rfl ⟨rfl,by decide⟩ (by decide) rfl fun w ok=>qiR (KR:=kS) (R:=fun _ _ (_:Unit)=>True) (k:=[108,105,115,116]) (x:=()) (l0:=[([110,117,109,98,101,114],()),([117,110,105,116],()),([100,97,116,101],())]) E ok 0 (qda Tryz.underlying9) Tryz.underlying149 rfl ⟨⟨rfl,by decide⟩,trivial,⟨rfl,by decide⟩,trivial,⟨rfl,by decide⟩,trivial,trivial⟩ (by decide) rfl rfl rfl ⟨rfl,by decide⟩ (by decide) rfl fun w ok=>qiR (KR:=kS) (R:=fun _ _ (_:Unit)=>True) (k:=[112,108,117,114,97,108]) (x:=()) (l0:=[([110,117,109,98,101,114],()),([117,110,105,116],()),([100,97,116,101],()),([108,105,115,116],())]) E ok 0 (qda Tryz.underlying9) Tryz.underlying149 rfl ⟨⟨rfl,by decide⟩,trivial,⟨rfl,by decide⟩,trivial,⟨rfl,by decide⟩,trivial,⟨rfl,by decide⟩,trivial,trivial⟩ (by decide) rfl rfl rfl ⟨rfl,by decide⟩ (by decide) rfl fun w ok=>qiR (KR:=kS) (R:=fun _ _ (_:Unit)=>True) (k:=[111,114,100,105,110,97,108]) (x:=()) (l0:=[([110,117,109,98,101,114],()),([117,110,105,116],()),([100,97,116,101],()),([108,105,115,116],()),([112,108,117,114,97,108],())]) E ok 0 (qda Tryz.underlying9) Tryz.underlying149 rfl ⟨⟨rfl,by decide⟩,trivial,⟨rfl,by decide⟩,trivial,⟨rfl,by decide⟩,trivial,⟨rfl,by decide⟩,trivial,⟨rfl,by decide⟩,trivial,trivial⟩ (by decide) rfl rfl rfl ⟨rfl,by decide⟩ (by decide) rfl fun w ok=>qiR (KR:=kS) (R:=fun _ _ (_:Unit)=>True) (k:=[115,101,108,101,99,116]) (x:=()) (l0:=[([110,117,109,98,101,114],()),([117,110,105,116],()),([100,97,116,101],()),([108,105,115,116],()),([112,108,117,114,97,108],()),([111,114,100,105,110,97,108],())]) E ok 0 (qda Tryz.underlying9) Tryz.underlying149 rfl ⟨⟨rfl,by decide⟩,trivial,⟨rfl,by decide⟩,trivial,⟨rfl,by decide⟩,trivial,⟨rfl,by decide⟩,trivial,⟨rfl,by decide⟩,trivial,⟨rfl,by decide⟩,trivial,trivial⟩ (by decide) rfl rfl rfl ⟨rfl,by decide⟩ (by decide) rfl fun w ok=>mv E rfl fun a E=>aw E rfl fun a E=>wp_ret ?_
 exact qbs [.t 0 (.map (some b))] E.d rfl (rz E rfl) ⟨b,rfl,ok⟩
def qkf (u:World) (m0:Mem) (S:Segs) (r:Int) (a:Act) (w:World):Prop :=
 Ok u m0 S w ∧ a.defers = [] ∧ RVs Tryz.prog a w [.t 2 (.int .i64 r)] ∧ InR .i64 r
def qfo (N:Nat):Prop:=∀ {u:World} {m0:Mem} {S:Segs} {w:World} (vparts_0:Value) (parts_0:List (Part)) (hparts_0:(pL 6 qbg) m0 [vparts_0] parts_0) {r:Int} (hF:qer N parts_0 = some r) (hG:Glob u) (ok:Ok u m0 S w),Calls Tryz.prog 68 [vparts_0].toArray w fun e w'=>(e = .returned (.int .i64 r) ∧ Ok u m0 S w') ∧ InR .i64 r
theorem qjn (N:Nat) (ih_syntax_length:qfo N):qfo (N + 1):=by
 intro u m0 S w vparts_0 parts_0 hparts_0 r hF hG ok
 have hF0:qfw (qer N) N parts_0 = some r:=hF
 have hF:=hF0
 clear hF0
 unfold qfw at hF
 refine en (qkf u m0 S) r Tryz.func68 rfl rfl rfl (fun _ _ h=>rb h rfl) fun fin a E=>sg<|aw E rfl fun a E=>sg<|aw E rfl fun a E=>wp_seq<|sg<|mv E rfl fun a E=>lv E ok (qbb qb5 hparts_0 rfl) fun a E=>mv E rfl fun a E=>wn<|wp_block<|bd hF fun o3 hL hF=>qa6 _ (fun (s:Int × Int) a w=>Ok u m0 (S) w ∧ Env 108 a [(3,vi s.1),(10,vparts_0),(11,(vi (parts_0.length:Int))),(12,vi s.2)] ∧ InR .i64 s.1 ∧ InR .i64 s.2) (fun (b:Int) e a w=>e = (.exit 0) ∧ Ok u m0 (S) w ∧ Env 108 a [(3,vi b)] ∧ InR .i64 b) ?_ ?_ N _ a w hL ⟨ok,E.keep [3,10,11,12],(ir 0),(ir 0)⟩
 rotate_left
 ·intro e a w _ hO
  obtain ⟨rfl,ok,E,r79⟩:=hO
  refine qbf<|qaa<|sg<|mv E rfl fun a E=>aw E rfl fun a E=>wp_ret ?_
  exact fin hF ⟨ok,E.d,rz E rfl,r79⟩
 rintro ⟨v6,v7⟩ a w r ⟨ok,E,r8,r9⟩ hF
 replace hF:qf3 (qer N) N parts_0 v6 v7 = some r:=hF
 unfold qf3 at hF
 refine sg<|lw E (qaS rfl rfl) fun a E=>wn<|wp_seq<|cg E rfl hF (fun c10 hF=>?_) fun c10 hF=>?_
 ·refine wp_exit<|qaX ?_
  cases hF
  exact so (⟨rfl,⟨ok,E.keep [3],r8⟩⟩)
 refine wp_skip<|qaa<|wp_seq<|wp_block<|sg ?_
 obtain ⟨x11,e12,hF⟩:=bnd hF
 obtain ⟨b13,o14,es15,hl16,rr17,at18,yy19⟩:=ia E 10 12 qb5 hparts_0 e12
 obtain ⟨c24,c26,rfl,r20,l21,l22,l23,h25,h27⟩:=(qbp.1 rr17)
 refine lv E ok (yy19 _ _) fun a E=>lv E ok (qan (cs:=[vi x11.Kind,vs x11.Text,vs x11.Name,vs x11.Style,c24,c26]) qdJ rfl rfl (qae.ro at18)) fun a E=>qa3 E ok qby rfl rfl fun b28 a w E ok=>qad E ok 0 rfl rfl rfl qfy rfl rfl ⟨rfl,rfl,rfl,rfl,(qc9 h25),(qc9 h27),trivial⟩ rfl rfl fun w ok=>wn<|sg<|fk E ok qaH qaq rfl 0 rfl rfl fun a E=>wn<|wp_block<|sg<|lw E (qap rfl rfl) fun a E=>aw E rfl fun a E=>cf E rfl hF (fun c29 hF=>?_) fun c29 hF=>?_
 ·refine qab<|mv E rfl fun a E=>fk E ok qep qao rfl 0 rfl rfl fun a E=>bd hF fun r30 e31 hF=>qaf E qp3 rfl (qk6 N x11.Text l21 e31 hG ok) rfl rfl ?_
  rintro _ w ⟨⟨rfl,ok⟩,l32⟩
  refine ⟨_,rfl,fun a E=>?_⟩
  refine lw E (qaJ Tryz.underlying9 rfl) fun a E=>lw E (qaQ rfl rfl) fun a E=>av E rfl fun a E=>wpList_nil<|qag<|qag<|qaa<|qab<|lw E (qaC rfl rfl (InR.inc r9 (qas hparts_0) c10)) fun a E=>mv E rfl fun a E=>wpList_nil ?_
  cases hF
  exact qat ⟨(ok.pk 1 [] rfl (by decide)),E.keep [3,10,11,12],(InR.wrap _ _),(InR.inc r9 (qas hparts_0) c10)⟩
 refine sg<|lw E (qap rfl rfl) fun a E=>aw E rfl fun a E=>cf E rfl hF (fun c33 hF=>?_) fun c33 hF=>?_
 ·refine qab<|mv E rfl fun a E=>lw E (qaQ rfl rfl) fun a E=>av E rfl fun a E=>wpList_nil<|qag<|qag<|qaa<|qab<|lw E (qaC rfl rfl (InR.inc r9 (qas hparts_0) c10)) fun a E=>mv E rfl fun a E=>wpList_nil ?_
  cases hF
  exact qat ⟨(ok.pk 1 [] rfl (by decide)),E.keep [3,10,11,12],(InR.wrap _ _),(InR.inc r9 (qas hparts_0) c10)⟩
 refine sg<|lw E (qap rfl rfl) fun a E=>aw E rfl fun a E=>cf E rfl hF (fun c34 hF=>?_) fun c34 hF=>?_
 ·refine sg<|mv E rfl fun a E=>fk E ok qa2 qao rfl 0 rfl rfl fun a E=>lw E (qaJ Tryz.underlying9 rfl) fun a E=>lw E (qaQ rfl rfl) fun a E=>lw E (qaQ rfl rfl) fun a E=>aw E rfl fun a E=>sg<|fk E ok qcV qcW rfl 0 rfl rfl fun a E=>lv E ok (qbb qb5 h27 rfl) fun a E=>lw E (qbD rfl rfl) fun a E=>wn<|cg E rfl hF (fun c35 hF=>?_) fun c35 hF=>?_
  ·refine wp_skip<|qag<|qag<|qaa<|qab<|lw E (qaC rfl rfl (InR.inc r9 (qas hparts_0) c10)) fun a E=>mv E rfl fun a E=>wpList_nil ?_
   cases hF
   exact qat ⟨(ok.pk 1 [] rfl (by decide)),E.keep [3,10,11,12],(InR.wrap _ _),(InR.inc r9 (qas hparts_0) c10)⟩
  refine qcZ (by kernel_rfl) (by kernel_rfl) ok<|qv E (qah rfl) fun a E=>qv E (qai qa2 rfl) fun a E=>qv E (qaz qao rfl (qae.own 0 rfl rfl)) fun a E=>qv E (qaJ Tryz.underlying9 rfl) fun a E=>qv E (qaQ rfl rfl) fun a E=>qv E (qai qcV rfl) fun a E=>qv E (qaz qcW rfl (qae.own 0 rfl rfl)) fun a E=>?_
  obtain ⟨r36,e37,hF⟩:=bnd hF
  obtain ⟨_,_,⟨_,_⟩,r38⟩:=Go.X.Calls.get (ih_syntax_length _ x11.Parts h27 e37 hG ok)
  refine qd1 E qmQ rfl (fun w ok=>(ih_syntax_length _ x11.Parts h27 e37 hG ok).mono (fun _ _ h=>h.1)) rfl rfl fun a E=>qv E (qaQ rfl rfl) fun a E=>qv E (qaQ rfl rfl) fun a E=>qv E (qaI rfl) fun a E=>wpQuiet_nil ?_
  intro w ok
  refine qag<|qag<|qaa<|qab<|lw E (qaC rfl rfl (InR.inc r9 (qas hparts_0) c10)) fun a E=>mv E rfl fun a E=>wpList_nil ?_
  cases hF
  exact qat ⟨(ok.pk 1 [] rfl (by decide)),E.keep [3,10,11,12],(InR.wrap _ _),(InR.inc r9 (qas hparts_0) c10)⟩
 refine sg<|mv E rfl fun a E=>fk E ok qa2 qao rfl 0 rfl rfl fun a E=>lw E (qaJ Tryz.underlying9 rfl) fun a E=>lw E (qaQ rfl rfl) fun a E=>lw E (qaQ rfl rfl) fun a E=>aw E rfl fun a E=>wp_seq<|sg<|qaf E qpZ rfl (qll ok) rfl rfl ?_
 rintro _ w ⟨b39,rfl,ok⟩
 refine ⟨_,rfl,fun a E=>?_⟩
 refine qnS (clock:=7) (es:=qd6) E ok 0 rfl Tryz.underlying149 rfl rfl rfl fun b40 a w E ok=>wn<|qaK (Q':=fun e a w=>e = .normal ∧ Ok u m0 ([(b28,oc 82 [vi x11.Kind,vs x11.Text,vs x11.Name,vs x11.Style,c24,c26])] :: S) w ∧ Env 108 a [(5,vp b28),(10,vparts_0),(11,(vi (parts_0.length:Int))),(12,vi v7),(3,(vi (qhz x11.Kind (IntKind.wrap .i64 (v6 + (IntKind.wrap .i64 ((2:Int) + (x11.Name.length:Int))))))))]) ?_ ?_
 ·refine wp_block<|qoR (fun kk a w=>∃ (seen:Array Nat) (q:Int),kk = (qd6.filter fun e=>!seen.contains e.born).length ∧ ust x11.Kind (IntKind.wrap .i64 (v6 + (IntKind.wrap .i64 ((2:Int) + (x11.Name.length:Int))))) seen q ∧ Ok u m0 ([(b40,Obj.mapIter (some b39) 7 seen 7)] :: [(b39,Obj.map qd6.toArray 7)] :: [(b28,oc 82 [vi x11.Kind,vs x11.Text,vs x11.Name,vs x11.Style,c24,c26])] :: S) w ∧ Env 108 a [(25,vp b40),(5,vp b28),(10,vparts_0),(11,(vi (parts_0.length:Int))),(12,vi v7),(3,vi q)]) ?_ _ a w ⟨#[],_,rfl,qqb,ok,E.keep [25,5,10,11,12,3]⟩
  rintro kk a w ⟨seen,q,rfl,hu,ok,E⟩
  refine sg<|qoD (es:=qd6) E ok 0 rfl (by decide) rfl rfl rfl (fun hall a E=>?_) (fun e he hne a w E ok=>?_)
  ·refine lw E (qa7 rfl rfl) fun a E=>wn<|wp_seq<|c_if E rfl (fun hc=>by cases hc) (fun _=>?_)
   refine wp_exit<|qaX ?_
   obtain rfl:=qoS hu hall
   exact .inr ⟨by nofun,qbf ⟨rfl,ok.drop.drop,E.keep [5,10,11,12,3]⟩⟩
  refine lw E (qa7 rfl rfl) fun a E=>wn<|wp_seq<|c_if E rfl (fun _=>?_) (fun hc=>by cases hc)
  refine wp_skip<|qaa<|wp_block<|sg ?_
  obtain ⟨s_,v_,hk_,hv_,hl_,hr_,hu1,hu2⟩:=qnI he
  have hy:=fun ty=>qnX (P:=Tryz.prog) (u:=u) (m:=m0) (ty:=ty) (S:=[(b40,Obj.mapIter (some b39) 7 (seen.push e.born) 7)] :: [(b39,Obj.map qd6.toArray 7)] :: [(b28,oc 82 [vi x11.Kind,vs x11.Text,vs x11.Name,vs x11.Style,c24,c26])] :: S) (es:=qd6) (x:=.tmp 25) 1 0 rfl rfl he qmn (qbQ E rfl) hk_ hv_
  refine lv E ok (hy _) fun a E=>lw E (qa7 rfl rfl) fun a E=>lw E (qa7 rfl rfl) fun a E=>av E rfl fun a E=>aw E rfl fun a E=>sg<|mv E rfl fun a E=>fk E ok qaH qaq rfl 2 rfl rfl fun a E=>lw E (qap rfl rfl) fun a E=>wn<|c_if E rfl (fun hc=>?_) (fun hc=>?_)
  ·refine qab<|mz E rfl rfl fun a E=>lw E (qaJ Tryz.underlying9 rfl) fun a E=>lw E (qaQ rfl rfl) fun a E=>lw E (qaQ rfl rfl) fun a E=>av E rfl fun a E=>wpList_nil<|qag ?_
   exact .inl ⟨rfl,_,qmC he hne,seen.push e.born,_,rfl,qoH hu hne hu1 (by simpa using hc),ok,E.keep [25,5,10,11,12,3]⟩
  refine wp_skip<|qag ?_
  exact .inl ⟨rfl,_,qmC he hne,seen.push e.born,_,rfl,qn4 hu hu2 (by simpa using hc),ok,E.keep [25,5,10,11,12,3]⟩
 rintro e a w ⟨rfl,ok,E⟩
 refine qaa<|wp_seq<|sg<|fk E ok qbc qao rfl 0 rfl rfl fun a E=>lw E (qcP rfl rfl) fun a E=>wn<|bd hF fun o41 hJ hF=>qaK (Q':=fun e a w=>e = .normal ∧ Ok u m0 ([(b28,oc 82 [vi x11.Kind,vs x11.Text,vs x11.Name,vs x11.Style,c24,c26])] :: S) w ∧ Env 108 a [(3,vi o41),(5,vp b28),(10,vparts_0),(11,(vi (parts_0.length:Int))),(12,vi v7)] ∧ InR .i64 o41) ?_ ?_
 ·have hF:=hJ
  refine cg E rfl hF (fun c43 hF=>?_) fun c43 hF=>?_
  ·refine wp_skip ?_
   cases hF
   exact ⟨rfl,⟨ok,E.keep [3,5,10,11,12],(qmN (InR.wrap _ _))⟩⟩
  refine qab<|mv E rfl fun a E=>fk E ok qbc qao rfl 0 rfl rfl fun a E=>lw E (qaJ Tryz.underlying9 rfl) fun a E=>lw E (qaQ rfl rfl) fun a E=>lw E (qaQ rfl rfl) fun a E=>av E rfl fun a E=>wpList_nil ?_
  cases hF
  exact ⟨rfl,⟨ok,E.keep [3,5,10,11,12],(InR.wrap _ _)⟩⟩
 intro e a w hO
 obtain ⟨rfl,ok,E,r44⟩:=hO
 refine qaa<|wp_seq<|sg<|fk E ok qaH qaq rfl 0 rfl rfl fun a E=>bd hF fun r45 e46 hF=>lc E qh2 rfl (qci N x11.Kind r20 e46 hG ok) fun w ok a E=>wn<|bd hF fun o47 hJ hF=>qaK (Q':=fun e a w=>e = .normal ∧ Ok u m0 ([(b28,oc 82 [vi x11.Kind,vs x11.Text,vs x11.Name,vs x11.Style,c24,c26])] :: S) w ∧ Env 108 a [(3,vi o47),(5,vp b28),(10,vparts_0),(11,(vi (parts_0.length:Int))),(12,vi v7)] ∧ InR .i64 o47) ?_ ?_
 ·have hF:=hJ
  refine cg E rfl hF (fun c49 hF=>?_) fun c49 hF=>?_
  ·refine wp_skip ?_
   cases hF
   exact ⟨rfl,⟨ok,E.keep [3,5,10,11,12],r44⟩⟩
  refine qab<|mv E rfl fun a E=>lw E (qaQ rfl rfl) fun a E=>av E rfl fun a E=>wpList_nil ?_
  cases hF
  exact ⟨rfl,⟨ok,E.keep [3,5,10,11,12],(InR.wrap _ _)⟩⟩
 intro e a w hO
 obtain ⟨rfl,ok,E,r50⟩:=hO
 refine qaa<|sg<|fk E ok qcj qdu rfl 0 rfl rfl fun a E=>lv E ok (qbb qcK h25 rfl) fun a E=>mv E rfl fun a E=>wn<|wp_block<|bd hF fun o53 hL hF=>qa6 _ (fun (s:Int × Int) a w=>Ok u m0 ([(b28,oc 82 [vi x11.Kind,vs x11.Text,vs x11.Name,vs x11.Style,c24,c26])] :: S) w ∧ Env 108 a [(3,vi s.1),(10,vparts_0),(11,(vi (parts_0.length:Int))),(12,vi v7),(55,c24),(56,(vi (x11.Cases.length:Int))),(57,vi s.2)] ∧ InR .i64 s.1 ∧ InR .i64 s.2) (fun (b:Int) e a w=>e = (.exit 5) ∧ Ok u m0 ([(b28,oc 82 [vi x11.Kind,vs x11.Text,vs x11.Name,vs x11.Style,c24,c26])] :: S) w ∧ Env 108 a [(3,vi b),(10,vparts_0),(11,(vi (parts_0.length:Int))),(12,vi v7)] ∧ InR .i64 b) ?_ ?_ N _ a w hL ⟨ok,E.keep [3,10,11,12,55,56,57],r50,(ir 0)⟩
 rotate_left
 ·intro e a w _ hO
  obtain ⟨rfl,ok,E,r77⟩:=hO
  refine qbf<|qag<|qag<|qaa<|qab<|lw E (qaC rfl rfl (InR.inc r9 (qas hparts_0) c10)) fun a E=>mv E rfl fun a E=>wpList_nil ?_
  cases hF
  exact qat ⟨(ok.pk 1 [] rfl (by decide)),E.keep [3,10,11,12],r77,(InR.inc r9 (qas hparts_0) c10)⟩
 rintro ⟨v56,v57⟩ a w r ⟨ok,E,r58,r59⟩ hF
 replace hF:qf0 (qer N) N x11 v56 v57 = some r:=hF
 unfold qf0 at hF
 refine sg<|lw E (qaS rfl rfl) fun a E=>wn<|wp_seq<|cg E rfl hF (fun c60 hF=>?_) fun c60 hF=>?_
 ·refine wp_exit<|qaX ?_
  cases hF
  exact so (⟨rfl,⟨ok,E.keep [3,10,11,12],r58⟩⟩)
 refine wp_skip<|qaa<|wp_seq<|wp_block<|sg ?_
 obtain ⟨x61,e62,hF⟩:=bnd hF
 obtain ⟨b63,o64,es65,hl66,rr67,at68,yy69⟩:=ia E 55 57 qcK h25 e62
 obtain ⟨c71,rfl,l70,h72⟩:=rr67
 refine lv E ok (yy69 _ _) fun a E=>lv E ok (qan (cs:=[vs x61.Key,c71]) qkh rfl rfl (qae.ro at68)) fun a E=>qa3 E ok qdl rfl rfl fun b73 a w E ok=>qad E ok 0 rfl rfl rfl qkj rfl rfl ⟨rfl,(qc9 h72),trivial⟩ rfl rfl fun w ok=>wn<|qcZ (by kernel_rfl) (by kernel_rfl) ok<|qv E (qah rfl) fun a E=>qv E (qai qgE rfl) fun a E=>qv E (qaz qao rfl (qae.own 0 rfl rfl)) fun a E=>qv E (qaJ Tryz.underlying9 rfl) fun a E=>qv E (qaQ rfl rfl) fun a E=>qv E (qai qiw rfl) fun a E=>qv E (qaz qcW rfl (qae.own 0 rfl rfl)) fun a E=>?_
 obtain ⟨r74,e75,hF⟩:=bnd hF
 obtain ⟨_,_,⟨_,_⟩,r76⟩:=Go.X.Calls.get (ih_syntax_length _ x61.Parts h72 e75 hG ok)
 refine qd1 E qmQ rfl (fun w ok=>(ih_syntax_length _ x61.Parts h72 e75 hG ok).mono (fun _ _ h=>h.1)) rfl rfl fun a E=>qv E (qaQ rfl rfl) fun a E=>qv E (qaQ rfl rfl) fun a E=>qv E (qaI rfl) fun a E=>wpQuiet_nil ?_
 intro w ok
 refine qag<|qaa<|qab<|lw E (qaC rfl rfl (InR.inc r59 (qas h25) c60)) fun a E=>mv E rfl fun a E=>wpList_nil ?_
 cases hF
 exact qat ⟨(ok.pk 2 [1] rfl (by decide)),E.keep [3,10,11,12,55,56,57],(InR.wrap _ _),(InR.inc r59 (qas h25) c60)⟩
theorem qjo:qfo 0:=by
 intro u m0 S w vparts_0 parts_0 hparts_0 r hF hG ok
 replace hF:none = some r:=hF
 cases hF
theorem qig (N:Nat):qfo N:=by
 induction N with
 | zero=>exact qjo
 | succ N h=>exact qjn N h
theorem qkB {u:World} {m0:Mem} {S:Segs} {w:World} (N:Nat) (vparts_0:Value) (parts_0:List (Part)) (hparts_0:(pL 6 qbg) m0 [vparts_0] parts_0) {r:Int} (hF:qer N parts_0 = some r) (hG:Glob u) (ok:Ok u m0 S w) :
 Calls Tryz.prog 68 [vparts_0].toArray w fun e w'=>(e = .returned (.int .i64 r) ∧ Ok u m0 S w') ∧ InR .i64 r:=(qig N) vparts_0 parts_0 hparts_0 hF hG ok
def qkK (u:World) (m0:Mem) (S:Segs) (r:Bool) (a:Act) (w:World):Prop :=
 Ok u m0 S w ∧ a.defers = [] ∧ RVs Tryz.prog a w [.t 4 (.bool r)]
theorem qk4 (N:Nat) (vparts_0:Value) (parts_0:List (Part)) (hparts_0:(pL 6 qbg) m0 [vparts_0] parts_0) (counting_1:Bool) {r:Bool} (hF:qhB N parts_0 counting_1 = some r) (hG:Glob u) (ok:Ok u m0 S w) :
  Calls Tryz.prog 49 [vparts_0,vb counting_1].toArray w fun e w'=>(e = .returned (.bool r) ∧ Ok u m0 S w'):=by
 have hb0:=ok.base
 have le_m0:=Mem.le.refl m0
 unfold qhB at hF
 refine en (qkK u m0 S) r Tryz.func49 rfl rfl rfl (fun _ _ h=>ra h rfl) fun fin a E=>sg<|aw E rfl fun a E=>sg<|qlk kS (oneV pB) E ok rfl rfl fun c1 M2 a w E ok h3=>lw E (qau (ps:=[(0,.tmp 6)]) (qs:=[(0,[c1])]) (cs:=[c1]) qlO qmM rfl ⟨rfl,(OMap.cells h3),rfl,trivial⟩ rfl) fun a E=>qa3 E ok qlO rfl rfl fun b4 a w E ok=>qad E ok 0 rfl rfl rfl qoV rfl rfl ⟨(OMap.one h3),trivial⟩ rfl rfl fun w ok=>wn<|sg<|lv E ok (qan (cs:=[c1]) qih rfl rfl (qae.own 0 rfl rfl)) fun a E=>mz E rfl rfl fun a E=>?_
 replace ok:=ok.addnil
 obtain ⟨r6,e7,hF⟩:=bnd hF
 replace ok:Ok u m0 ([] :: M2 :: [(b4,oc 128 [c1])] :: S) w:=(ok.pk 3 [0,2,1] rfl (by decide))
 refine qaf E qls rfl (qh5 N _ parts_0 hparts_0 0 (ir 0) counting_1 ([]:List (List UInt8 × Bool)) h3 e7 hG ok) rfl rfl ?_
 rintro _ w ⟨m8,M9,rfl,hle,ok,h10⟩
 have le_m0:=le_m0.trans hle
 have hparts_0:=(mL qak).up hle hparts_0
 refine ⟨_,rfl,fun a E=>?_⟩
 refine mv E rfl fun a E=>qbr r6.1 (fun c11=>?_) (fun c11=>?_)
 rotate_left
 ·have hF:=qbn c11 hF
  have E:=E.upd 12 c11 rfl
  refine lsz E fun a E=>pf E rfl rfl fun a E=>mv E rfl fun a E=>lsq E fun a E=>ls E fun a E=>pf E rfl rfl fun a E=>aw E rfl fun a E=>wp_ret ?_
  exact fin hF ⟨(ok.drop.drop.drop).down hb0 le_m0,E.d,rz E rfl⟩
 have hF:=qbo c11 hF
 have E:=E.upd 12 c11 rfl
 refine fk E ok qhQ qic rfl 2 rfl rfl fun a E=>lv E ok (qnT 1 rfl Tryz.underlying126 h10 rfl) fun a E=>lw E (qcC rfl rfl) fun a E=>pt E rfl rfl fun a E=>mv E rfl fun a E=>bw E 18 hF (fun c12 hF E=>?_) fun c12 hF E=>?_
 ·refine lsq E fun a E=>ls E fun a E=>pf E rfl rfl fun a E=>aw E rfl fun a E=>wp_ret ?_
  exact fin hF ⟨(ok.drop.drop.drop).down hb0 le_m0,E.d,rz E rfl⟩
 refine mv E rfl fun a E=>bd hF fun r13 e14 hF=>qaf E qmQ rfl (qkB N _ parts_0 hparts_0 e14 hG ok) rfl rfl ?_
 rintro _ w ⟨⟨rfl,ok⟩,r15⟩
 refine ⟨_,rfl,fun a E=>?_⟩
 refine lw E (qcC rfl rfl) fun a E=>pt E rfl rfl fun a E=>aw E rfl fun a E=>wp_ret ?_
 exact fin hF ⟨(ok.drop.drop.drop).down hb0 le_m0,E.d,rz E rfl⟩
def qkN (u:World) (m0:Mem) (S:Segs) (r:Bool) (a:Act) (w:World):Prop :=
 Ok u m0 S w ∧ a.defers = [] ∧ RVs Tryz.prog a w [.t 2 (.bool r)]
theorem qk7 (N:Nat) (vparts_0:Value) (parts_0:List (Part)) (hparts_0:(pL 6 qbg) m0 [vparts_0] parts_0) {r:Bool} (hF:qhI N parts_0 = some r) (hG:Glob u) (ok:Ok u m0 S w) :
  Calls Tryz.prog 30 [vparts_0].toArray w fun e w'=>(e = .returned (.bool r) ∧ Ok u m0 S w'):=by
 unfold qhI at hF
 refine en (qkN u m0 S) r Tryz.func30 rfl rfl rfl (fun _ _ h=>ra h rfl) fun fin a E=>sg<|aw E rfl fun a E=>sg<|mv E rfl fun a E=>bd hF fun r1 e2 hF=>lc E qp9 rfl (qk4 N _ parts_0 hparts_0 false e2 hG ok) fun w ok a E=>aw E rfl fun a E=>wp_ret ?_
 exact fin hF ⟨ok,E.d,rz E rfl⟩
end Go.Proofs.YtllnjbnknjpbjaaGreatDoor
