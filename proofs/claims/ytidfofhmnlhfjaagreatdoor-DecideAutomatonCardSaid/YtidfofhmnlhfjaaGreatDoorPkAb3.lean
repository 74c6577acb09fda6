/- Texts of this proof, put together by pack.py: what its declarations name. -/
import Derived.Test.YtidfofhmnlhfjaaGreatDoorPkAb2
import Derived.Test.YtidfofhmnlhfjaaGreatDoorCards
import Derived.Test.YtidfofhmnlhfjaaGreatDoorChecked
import Derived.Test.YtidfofhmnlhfjaaGreatDoorProg
import Derived.Test.YtidfofhmnlhfjaaGreatDoorRows
import Derived.Test.YtidfofhmnlhfjaaGreatDoorTie
set_option linter.unusedVariables false
set_option linter.unusedSimpArgs false
namespace Go.Proofs.YtidfofhmnlhfjaaGreatDoor
open Go.X
variable {u:World} {m0:Mem} {S:Segs} {w:World}
set_option maxHeartbeats 4000000
set_option maxRecDepth 100000
def qkI (u:World) (m0:Mem) (S:Segs) (pb0:Nat) (pb1:Nat) (pb2:Nat) (pb3:Nat) (pb4:Nat) (pb5:Nat) (x1:List (Int)) (c1:Value) (M2:List (Nat × Obj)) (x2:Int) (x3:Option (qaL)) (c5:Value) (x4:Part) (x5:Part) (r:Bool) (a:Act) (w:World):Prop :=
 Ok u m0 ([(pb0,oc 94 [(Value.func (.func 128) #[] #[.pointer (some ⟨pb3,0,none⟩),.pointer (some ⟨pb4,0,none⟩),.pointer (some ⟨pb5,0,none⟩)])])] :: [(pb1,oc 72 [c1])] :: M2 :: [(pb2,oc 3 [vi x2])] :: [(pb3,oc 143 [c5])] :: [(pb4,oc 181 [vu x4.bits,vs x4.text])] :: [(pb5,oc 181 [vu x5.bits,vs x5.text])] :: S) w ∧ a.defers = [] ∧ RVs Tryz.prog a w [.t 5 (.bool r)]
theorem qkS (N:Nat) (k_0:Int) (rk_0:InR .i64 k_0) {pb0:Nat} {pb1:Nat} {c1:Value} {M2:List (Nat × Obj)} (x1:List (Int)) (h3:ORow 3 1 (pI .i64) m0 c1 x1 M2) {pb2:Nat} (x2:Int) (r4:InR .i64 x2) {pb3:Nat} {c5:Value} (x3:Option (qaL)) (h6:(pP 3 qfH) m0 [c5] x3) {pb4:Nat} (x4:Part) (r7:InR .u64 x4.bits) (l8:x4.text.length ≤ LIMS) {pb5:Nat} (x5:Part) (r9:InR .u64 x5.bits) (l10:x5.text.length ≤ LIMS) {r:Bool} (hF:qg1 N k_0 x1 x2 x3 x4 x5 = some r) (hG:Glob u) (ok:Ok u m0 ([(pb0,oc 94 [(Value.func (.func 128) #[] #[.pointer (some ⟨pb3,0,none⟩),.pointer (some ⟨pb4,0,none⟩),.pointer (some ⟨pb5,0,none⟩)])])] :: [(pb1,oc 72 [c1])] :: M2 :: [(pb2,oc 3 [vi x2])] :: [(pb3,oc 143 [c5])] :: [(pb4,oc 181 [vu x4.bits,vs x4.text])] :: [(pb5,oc 181 [vu x5.bits,vs x5.text])] :: S) w) :
  Calls Tryz.prog 97 [vi k_0,vp pb0,vp pb1,vp pb2].toArray w fun e w'=>(e = .returned (.bool r) ∧ Ok u m0 ([(pb0,oc 94 [(Value.func (.func 128) #[] #[.pointer (some ⟨pb3,0,none⟩),.pointer (some ⟨pb4,0,none⟩),.pointer (some ⟨pb5,0,none⟩)])])] :: [(pb1,oc 72 [c1])] :: M2 :: [(pb2,oc 3 [vi x2])] :: [(pb3,oc 143 [c5])] :: [(pb4,oc 181 [vu x4.bits,vs x4.text])] :: [(pb5,oc 181 [vu x5.bits,vs x5.text])] :: S) w'):=by
 have le_m0:=Mem.le.refl m0
 unfold qg1 at hF
 refine en (qkI u m0 S pb0 pb1 pb2 pb3 pb4 pb5 x1 c1 M2 x2 x3 c5 x4 x5) r Tryz.func97 rfl rfl rfl (fun _ _ h=>ra h rfl) fun fin a E=>sg<|aw E rfl fun a E=>wp_seq<|bd hF fun o11 hJ hF=>qaG (Q':=fun e a w=>e = .normal ∧ Ok u m0 ([(pb0,oc 94 [(Value.func (.func 128) #[] #[.pointer (some ⟨pb3,0,none⟩),.pointer (some ⟨pb4,0,none⟩),.pointer (some ⟨pb5,0,none⟩)])])] :: [(pb1,oc 72 [c1])] :: M2 :: [(pb2,oc 3 [vi x2])] :: [(pb3,oc 143 [c5])] :: [(pb4,oc 181 [vu x4.bits,vs x4.text])] :: [(pb5,oc 181 [vu x5.bits,vs x5.text])] :: S) w ∧ Env 14 a [(5,vb o11)]) ?_ ?_
 rotate_left
 ·intro e a w hO
  obtain ⟨rfl,ok,E⟩:=hO
  refine qaa<|wp_ret ?_
  exact fin hF ⟨ok,E.d,rz E rfl⟩
 have hF:=hJ
 obtain ⟨x12,e13,hF⟩:=bnd hF
 obtain ⟨r23,e24,hF⟩:=bnd hF
 obtain rfl:=sj hF
 refine qaY [] (Cls u m0 ([(pb0,oc 94 [(Value.func (.func 128) #[] #[.pointer (some ⟨pb3,0,none⟩),.pointer (some ⟨pb4,0,none⟩),.pointer (some ⟨pb5,0,none⟩)])])] :: [(pb1,oc 72 [c1])] :: M2 :: [(pb2,oc 3 [vi x2])] :: [(pb3,oc 143 [c5])] :: [(pb4,oc 181 [vu x4.bits,vs x4.text])] :: [(pb5,oc 181 [vu x5.bits,vs x5.text])] :: [])) (Cls u m0 ([(pb0,oc 94 [(Value.func (.func 128) #[] #[.pointer (some ⟨pb3,0,none⟩),.pointer (some ⟨pb4,0,none⟩),.pointer (some ⟨pb5,0,none⟩)])])] :: [(pb1,oc 72 [c1])] :: M2 :: [(pb2,oc 3 [vi x2])] :: [(pb3,oc 143 [c5])] :: [(pb4,oc 181 [vu x4.bits,vs x4.text])] :: [(pb5,oc 181 [vu x5.bits,vs x5.text])] :: [])) (by kernel_rfl) ?_
 intro w hw
 replace ok:=qbd ok hw
 clear hw
 refine qai (cl1 (cq le_m0 ok [0,1,2,3,4,5,6] rfl) (cq le_m0 ok [0,1,2,3,4,5,6] rfl)) fun hT=>kt 0 E rfl hT (qaj qrR rfl (qab.cown 0 rfl rfl)) fun a E=>kt 1 E rfl hT (qaj qc3 rfl (qab.cown 1 rfl rfl)) fun a E=>kt 2 E rfl hT (qaj qak rfl (qab.cown 3 rfl rfl)) fun a E=>?_
 obtain ⟨b25,o26,hp27,yy28⟩:=qbR qaJ h3 e13 (P:=Tryz.prog) (X:=.tmp 7) (I:=.tmp 8) (kd:=.i64) (qaT E rfl) (qaT E rfl)
 refine kt 3 E rfl hT (yy28 _ _) fun a E=>?_
 obtain ⟨es29,hl30,rr31,hh32⟩:=qb9 h3 e13 hp27 (by decide)
 obtain ⟨rfl,r33⟩:=rr31
 refine kt 4 E rfl hT (qaj qak rfl (qab.crow hh32 2 rfl)) fun a E=>kt 5 E rfl hT (qah rfl) fun a E=>kt 6 E rfl hT (qbq rfl rfl) fun a E=>qao [7] (by kernel_rfl) rfl (qar ?_)
 ·refine qbm (o:=_) rfl ?_
  replace ok:Ok u m0 ([(pb3,oc 143 [c5])] :: [(pb4,oc 181 [vu x4.bits,vs x4.text])] :: [(pb5,oc 181 [vu x5.bits,vs x5.text])] :: [(pb0,oc 94 [(Value.func (.func 128) #[] #[.pointer (some ⟨pb3,0,none⟩),.pointer (some ⟨pb4,0,none⟩),.pointer (some ⟨pb5,0,none⟩)])])] :: [(pb1,oc 72 [c1])] :: M2 :: [(pb2,oc 3 [vi x2])] :: S) w:=(ok.pk 7 [4,5,6,0,1,2,3] rfl (by decide))
  refine qgW E rfl qrS rfl (qjd N (IntKind.wrap .i64 (x12 + k_0)) (InR.wrap _ _) x3 h6 x4 r7 l8 x5 r9 l10 e24 hG ok) rfl rfl ?_
  rintro _ w ⟨rfl,ok⟩
  refine ⟨_,rfl,fun a E=>?_⟩
  refine wn<|qai (cl1 (cq le_m0 ok [3,4,5,6,0,1,2] rfl) (cq le_m0 ok [3,4,5,6,0,1,2] rfl)) fun hT=>kt 8 E rfl hT (qcZ rfl) fun a E=>qaV (by kernel_rfl) ?_
  exact ⟨rfl,⟨(ok.pk 7 [3,4,5,6,0,1,2] rfl (by decide)),E.keep [5]⟩⟩
def qlr (u:World) (m0:Mem) (S:Segs) (pb0:Nat) (pb1:Nat) (pb2:Nat) (pb3:Nat) (pb4:Nat) (pb5:Nat) (x1:List (Int)) (c1:Value) (M2:List (Nat × Obj)) (x2:Int) (x3:Option (qaL)) (c5:Value) (x4:Part) (x5:Part) (r:Bool) (a:Act) (w:World):Prop :=
 Ok u m0 ([(pb0,oc 94 [(Value.func (.func 128) #[] #[.pointer (some ⟨pb3,0,none⟩),.pointer (some ⟨pb4,0,none⟩),.pointer (some ⟨pb5,0,none⟩)])])] :: [(pb1,oc 72 [c1])] :: M2 :: [(pb2,oc 3 [vi x2])] :: [(pb3,oc 143 [c5])] :: [(pb4,oc 181 [vu x4.bits,vs x4.text])] :: [(pb5,oc 181 [vu x5.bits,vs x5.text])] :: S) w ∧ a.defers = [] ∧ RVs Tryz.prog a w [.t 4 (.bool r)]
theorem qk9 (N:Nat) (vc_0:Value) (c_0:List (List (Relation))) (hc_0:(pL 1 (pL 4 qap)) m0 [vc_0] c_0) {pb0:Nat} {pb1:Nat} {c1:Value} {M2:List (Nat × Obj)} (x1:List (Int)) (h3:ORow 3 1 (pI .i64) m0 c1 x1 M2) {pb2:Nat} (x2:Int) (r4:InR .i64 x2) {pb3:Nat} {c5:Value} (x3:Option (qaL)) (h6:(pP 3 qfH) m0 [c5] x3) {pb4:Nat} (x4:Part) (r7:InR .u64 x4.bits) (l8:x4.text.length ≤ LIMS) {pb5:Nat} (x5:Part) (r9:InR .u64 x5.bits) (l10:x5.text.length ≤ LIMS) {r:Bool} (hF:qhj N c_0 x1 x2 x3 x4 x5 = some r) (hG:Glob u) (ok:Ok u m0 ([(pb0,oc 94 [(Value.func (.func 128) #[] #[.pointer (some ⟨pb3,0,none⟩),.pointer (some ⟨pb4,0,none⟩),.pointer (some ⟨pb5,0,none⟩)])])] :: [(pb1,oc 72 [c1])] :: M2 :: [(pb2,oc 3 [vi x2])] :: [(pb3,oc 143 [c5])] :: [(pb4,oc 181 [vu x4.bits,vs x4.text])] :: [(pb5,oc 181 [vu x5.bits,vs x5.text])] :: S) w) :
  Calls Tryz.prog 52 [vc_0,Value.func (.func 97) #[] #[.pointer (some ⟨pb0,0,none⟩),.pointer (some ⟨pb1,0,none⟩),.pointer (some ⟨pb2,0,none⟩)]].toArray w fun e w'=>(e = .returned (.bool r) ∧ Ok u m0 ([(pb0,oc 94 [(Value.func (.func 128) #[] #[.pointer (some ⟨pb3,0,none⟩),.pointer (some ⟨pb4,0,none⟩),.pointer (some ⟨pb5,0,none⟩)])])] :: [(pb1,oc 72 [c1])] :: M2 :: [(pb2,oc 3 [vi x2])] :: [(pb3,oc 143 [c5])] :: [(pb4,oc 181 [vu x4.bits,vs x4.text])] :: [(pb5,oc 181 [vu x5.bits,vs x5.text])] :: S) w'):=by
 unfold qhj at hF
 refine en (qlr u m0 S pb0 pb1 pb2 pb3 pb4 pb5 x1 c1 M2 x2 x3 c5 x4 x5) r Tryz.func52 rfl rfl rfl (fun _ _ h=>ra h rfl) fun fin a E=>sg<|aw E rfl fun a E=>sg<|aw E rfl fun a E=>sg<|aw E rfl fun a E=>wp_seq<|sg<|mv E rfl fun a E=>lv E ok (qaD qcM hc_0 rfl) fun a E=>mv E rfl fun a E=>wn<|wp_block<|bd hF fun o13 hL hF=>qaE _ (fun (s:Int × Bool × Int) a w=>Ok u m0 ([(pb0,oc 94 [(Value.func (.func 128) #[] #[.pointer (some ⟨pb3,0,none⟩),.pointer (some ⟨pb4,0,none⟩),.pointer (some ⟨pb5,0,none⟩)])])] :: [(pb1,oc 72 [c1])] :: M2 :: [(pb2,oc 3 [vi x2])] :: [(pb3,oc 143 [c5])] :: [(pb4,oc 181 [vu x4.bits,vs x4.text])] :: [(pb5,oc 181 [vu x5.bits,vs x5.text])] :: S) w ∧ Env 35 a [(1,(Value.func (.func 97) #[] #[.pointer (some ⟨pb0,0,none⟩),.pointer (some ⟨pb1,0,none⟩),.pointer (some ⟨pb2,0,none⟩)])),(5,vi s.1),(6,vb s.2.1),(10,vc_0),(11,(vi (c_0.length:Int))),(12,vi s.2.2)] ∧ InR .i64 s.1 ∧ InR .i64 s.2.2) (fun (b:Bool) e a w=>e = (.exit 0) ∧ Ok u m0 ([(pb0,oc 94 [(Value.func (.func 128) #[] #[.pointer (some ⟨pb3,0,none⟩),.pointer (some ⟨pb4,0,none⟩),.pointer (some ⟨pb5,0,none⟩)])])] :: [(pb1,oc 72 [c1])] :: M2 :: [(pb2,oc 3 [vi x2])] :: [(pb3,oc 143 [c5])] :: [(pb4,oc 181 [vu x4.bits,vs x4.text])] :: [(pb5,oc 181 [vu x5.bits,vs x5.text])] :: S) w ∧ Env 35 a [(6,vb b)]) ?_ ?_ N _ a w hL ⟨ok,E.keep [1,5,6,10,11,12],(ir 0),(ir 0)⟩
 rotate_left
 ·intro e a w _ hO
  obtain ⟨rfl,ok,E⟩:=hO
  refine qaM<|qaa<|sg<|mv E rfl fun a E=>aw E rfl fun a E=>wp_ret ?_
  exact fin hF ⟨ok,E.d,rz E rfl⟩
 rintro ⟨v16,v17,v18⟩ a w r ⟨ok,E,r19,r20⟩ hF
 replace hF:qgv N c_0 x1 x2 x3 x4 x5 v16 v17 v18 = some r:=hF
 unfold qgv at hF
 refine sg<|lw E (qav rfl rfl) fun a E=>wn<|wp_seq<|cg E rfl hF (fun c21 hF=>?_) fun c21 hF=>?_
 ·refine wp_exit<|qaA ?_
  cases hF
  exact so (⟨rfl,⟨ok,E.keep [6]⟩⟩)
 refine wp_skip<|qaa<|wp_seq<|wp_block<|sg ?_
 obtain ⟨x22,e23,hF⟩:=bnd hF
 obtain ⟨b24,o25,es26,hl27,rr28,at29,yy30⟩:=ia E 10 12 qcM hc_0 e23
 obtain ⟨c31,rfl,h32⟩:=qbK rr28
 refine lv E ok (yy30 _ _) fun a E=>lv E ok (qaj qci rfl (qab.ro at29)) fun a E=>aw E rfl fun a E=>sg<|av E rfl fun a E=>wn<|wp_seq<|sg<|mv E rfl fun a E=>lv E ok (qaD qa4 h32 rfl) fun a E=>mv E rfl fun a E=>wn<|wp_block<|bd hF fun o35 hL hF=>qaE _ (fun (s:Int × Bool × Int) a w=>Ok u m0 ([(pb0,oc 94 [(Value.func (.func 128) #[] #[.pointer (some ⟨pb3,0,none⟩),.pointer (some ⟨pb4,0,none⟩),.pointer (some ⟨pb5,0,none⟩)])])] :: [(pb1,oc 72 [c1])] :: M2 :: [(pb2,oc 3 [vi x2])] :: [(pb3,oc 143 [c5])] :: [(pb4,oc 181 [vu x4.bits,vs x4.text])] :: [(pb5,oc 181 [vu x5.bits,vs x5.text])] :: S) w ∧ Env 35 a [(1,(Value.func (.func 97) #[] #[.pointer (some ⟨pb0,0,none⟩),.pointer (some ⟨pb1,0,none⟩),.pointer (some ⟨pb2,0,none⟩)])),(5,vi s.1),(6,vb v17),(9,vb s.2.1),(10,vc_0),(11,(vi (c_0.length:Int))),(12,vi v18),(17,(vi (x22.length:Int))),(18,vi s.2.2)] ∧ InR .i64 s.1 ∧ InR .i64 s.2.2) (fun (b:(Int × Bool)) e a w=>e = (.exit 2) ∧ Ok u m0 ([(pb0,oc 94 [(Value.func (.func 128) #[] #[.pointer (some ⟨pb3,0,none⟩),.pointer (some ⟨pb4,0,none⟩),.pointer (some ⟨pb5,0,none⟩)])])] :: [(pb1,oc 72 [c1])] :: M2 :: [(pb2,oc 3 [vi x2])] :: [(pb3,oc 143 [c5])] :: [(pb4,oc 181 [vu x4.bits,vs x4.text])] :: [(pb5,oc 181 [vu x5.bits,vs x5.text])] :: S) w ∧ Env 35 a [(1,(Value.func (.func 97) #[] #[.pointer (some ⟨pb0,0,none⟩),.pointer (some ⟨pb1,0,none⟩),.pointer (some ⟨pb2,0,none⟩)])),(5,vi b.1),(6,vb v17),(9,vb b.2),(10,vc_0),(11,(vi (c_0.length:Int))),(12,vi v18)] ∧ InR .i64 b.1) ?_ ?_ N _ a w hL ⟨ok,E.keep [1,5,6,9,10,11,12,17,18],r19,(ir 0)⟩
 rotate_left
 ·intro e a w _ hO
  obtain ⟨rfl,ok,E,r47⟩:=hO
  refine qaM<|qaa<|qac<|mz E rfl rfl fun a E=>qcp v17 (fun c48=>?_) (fun c48=>?_)
  ·have hF:=qcg c48 hF
   have E:=E.upd 30 c48 rfl
   refine ls E fun a E=>pt E rfl rfl fun a E=>av E rfl fun a E=>wpList_nil<|qal<|qaa<|qac<|lw E (qaw rfl rfl (InR.inc r20 (qam hc_0) c21)) fun a E=>mv E rfl fun a E=>wpList_nil ?_
   cases hF
   exact qas ⟨ok,E.keep [1,5,6,10,11,12],r47,(InR.inc r20 (qam hc_0) c21)⟩
  have hF:=qcc c48 hF
  have E:=E.upd 30 c48 rfl
  refine mv E rfl fun a E=>pf E rfl rfl fun a E=>av E rfl fun a E=>wpList_nil<|qal<|qaa<|qac<|lw E (qaw rfl rfl (InR.inc r20 (qam hc_0) c21)) fun a E=>mv E rfl fun a E=>wpList_nil ?_
  cases hF
  exact qas ⟨ok,E.keep [1,5,6,10,11,12],r47,(InR.inc r20 (qam hc_0) c21)⟩
 rintro ⟨v38,v39,v40⟩ a w r ⟨ok,E,r41,r42⟩ hF
 replace hF:qgu N x1 x2 x3 x4 x5 x22 v38 v39 v40 = some r:=hF
 unfold qgu at hF
 refine sg<|lw E (qav rfl rfl) fun a E=>wn<|wp_seq<|cg E rfl hF (fun c43 hF=>?_) fun c43 hF=>?_
 ·refine wp_exit<|qaA ?_
  cases hF
  exact so (⟨rfl,⟨ok,E.keep [1,5,6,9,10,11,12],r41⟩⟩)
 refine wp_skip<|qaa<|wp_seq<|wp_block<|sg<|mz E rfl rfl fun a E=>qcp v39 (fun c44=>?_) (fun c44=>?_)
 rotate_left
 ·have hF:=qcc c44 hF
  have E:=E.upd 21 c44 rfl
  refine lsq E fun a E=>ls E fun a E=>pf E rfl rfl fun a E=>aw E rfl fun a E=>qac<|mv E rfl fun a E=>lw E (qbq rfl rfl) fun a E=>av E rfl fun a E=>wpList_nil<|qal<|qaa<|qac<|lw E (qaw rfl rfl (InR.inc r42 (qam h32) c43)) fun a E=>mv E rfl fun a E=>wpList_nil ?_
  cases hF
  exact qas ⟨ok,E.keep [1,5,6,9,10,11,12,17,18],(InR.wrap _ _),(InR.inc r42 (qam h32) c43)⟩
 have hF:=qcg c44 hF
 have E:=E.upd 21 c44 rfl
 refine mz E rfl rfl fun a E=>bd hF fun r45 e46 hF=>qgW E rfl qsX rfl (qkS N v38 r41 x1 h3 x2 r4 x3 h6 x4 r7 l8 x5 r9 l10 e46 hG ok) rfl rfl ?_
 rintro _ w ⟨rfl,ok⟩
 refine ⟨_,rfl,fun a E=>?_⟩
 refine pt E rfl rfl fun a E=>aw E rfl fun a E=>qac<|mv E rfl fun a E=>lw E (qbq rfl rfl) fun a E=>av E rfl fun a E=>wpList_nil<|qal<|qaa<|qac<|lw E (qaw rfl rfl (InR.inc r42 (qam h32) c43)) fun a E=>mv E rfl fun a E=>wpList_nil ?_
 cases hF
 exact qas ⟨ok,E.keep [1,5,6,9,10,11,12,17,18],(InR.wrap _ _),(InR.inc r42 (qam h32) c43)⟩
def qkJ (u:World) (m0:Mem) (S:Segs) (r:Bool) (a:Act) (w:World):Prop :=
 Ok u m0 S w ∧ a.defers = [] ∧ RVs Tryz.prog a w [.t 2 (.bool r)]
theorem qkU (N:Nat) (vl_0:Value) (l_0:List (Bool)) (hl_0:(pL 1 pB) m0 [vl_0] l_0) {r:Bool} (hF:qg2 N l_0 = some r) (hG:Glob u) (ok:Ok u m0 S w) :
  Calls Tryz.prog 62 [vl_0].toArray w fun e w'=>(e = .returned (.bool r) ∧ Ok u m0 S w'):=by
 unfold qg2 at hF
 refine en (qkJ u m0 S) r Tryz.func62 rfl rfl rfl (fun _ _ h=>ra h rfl) fun fin a E=>sg<|aw E rfl fun a E=>sg<|mv E rfl fun a E=>?_
 obtain ⟨x1,e2,hF⟩:=bnd hF
 obtain ⟨b3,o4,es5,hl6,rr7,at8,yy9⟩:=qo1 qce hl_0 e2 (P:=Tryz.prog) (X:=.tmp 3) (I:=.const (vi 0)) (kd:=.i64) (qaT E rfl) (qaT E rfl)
 obtain rfl:=rr7
 refine lv E ok (yy9 _ _) fun a E=>lv E ok (qaj qbx rfl (qab.ro at8)) fun a E=>mv E rfl fun a E=>qcp x1 (fun c10=>?_) (fun c10=>?_)
 rotate_left
 ·have hF:=qcc c10 hF
  have E:=E.upd 6 c10 rfl
  refine lsq E fun a E=>ls E fun a E=>pf E rfl rfl fun a E=>aw E rfl fun a E=>wp_ret ?_
  exact fin hF ⟨ok,E.d,rz E rfl⟩
 have hF:=qcg c10 hF
 have E:=E.upd 6 c10 rfl
 refine mv E rfl fun a E=>?_
 obtain ⟨x11,e12,hF⟩:=bnd hF
 obtain ⟨b13,o14,es15,hl16,rr17,at18,yy19⟩:=qo1 qce hl_0 e12 (P:=Tryz.prog) (X:=.tmp 7) (I:=.const (vi 1)) (kd:=.i64) (qaT E rfl) (qaT E rfl)
 obtain rfl:=rr17
 refine lv E ok (yy19 _ _) fun a E=>lv E ok (qaj qbx rfl (qab.ro at18)) fun a E=>pt E rfl rfl fun a E=>aw E rfl fun a E=>wp_ret ?_
 exact fin hF ⟨ok,E.d,rz E rfl⟩
def qjv (u:World) (m0:Mem) (S:Segs) (pb0:Nat) (pb1:Nat) (pb2:Nat) (pb3:Nat) (pb4:Nat) (pb5:Nat) (x0:Option (qaL)) (c1:Value) (x1:Part) (x2:Part) (x3:List (List (List (Relation)))) (c7:Value) (x4:List (Int)) (c9:Value) (M10:List (Nat × Obj)) (r:Bool) (a:Act) (w:World):Prop :=
 Ok u m0 ([(pb0,oc 143 [c1])] :: [(pb1,oc 181 [vu x1.bits,vs x1.text])] :: [(pb2,oc 181 [vu x2.bits,vs x2.text])] :: [(pb3,oc 26 [c7])] :: [(pb4,oc 72 [c9])] :: M10 :: [(pb5,oc 109 [(Value.func (.func 62) #[] #[])])] :: S) w ∧ a.defers = [] ∧ RVs Tryz.prog a w [.t 5 (.bool r)]
theorem qg4 (N:Nat) {pb0:Nat} {c1:Value} (x0:Option (qaL)) (h2:(pP 3 qfH) m0 [c1] x0) {pb1:Nat} (x1:Part) (r3:InR .u64 x1.bits) (l4:x1.text.length ≤ LIMS) {pb2:Nat} (x2:Part) (r5:InR .u64 x2.bits) (l6:x2.text.length ≤ LIMS) {pb3:Nat} {c7:Value} (x3:List (List (List (Relation)))) (h8:(pL 1 (pL 1 (pL 4 qap))) m0 [c7] x3) {pb4:Nat} {c9:Value} {M10:List (Nat × Obj)} (x4:List (Int)) (h11:ORow 3 1 (pI .i64) m0 c9 x4 M10) {pb5:Nat} {r:Bool} (hF:qe2 N x0 x1 x2 x3 x4 = some r) (hG:Glob u) (ok:Ok u m0 ([(pb0,oc 143 [c1])] :: [(pb1,oc 181 [vu x1.bits,vs x1.text])] :: [(pb2,oc 181 [vu x2.bits,vs x2.text])] :: [(pb3,oc 26 [c7])] :: [(pb4,oc 72 [c9])] :: M10 :: [(pb5,oc 109 [(Value.func (.func 62) #[] #[])])] :: S) w) :
  Calls Tryz.prog 96 [Value.func (.func 128) #[] #[.pointer (some ⟨pb0,0,none⟩),.pointer (some ⟨pb1,0,none⟩),.pointer (some ⟨pb2,0,none⟩)],vp pb3,vp pb4,vp pb5].toArray w fun e w'=>(e = .returned (.bool r) ∧ Ok u m0 ([(pb0,oc 143 [c1])] :: [(pb1,oc 181 [vu x1.bits,vs x1.text])] :: [(pb2,oc 181 [vu x2.bits,vs x2.text])] :: [(pb3,oc 26 [c7])] :: [(pb4,oc 72 [c9])] :: M10 :: [(pb5,oc 109 [(Value.func (.func 62) #[] #[])])] :: S) w'):=by
 have le_m0:=Mem.le.refl m0
 unfold qe2 at hF
 refine en (qjv u m0 S pb0 pb1 pb2 pb3 pb4 pb5 x0 c1 x1 x2 x3 c7 x4 c9 M10) r Tryz.func96 rfl rfl rfl (fun _ _ h=>ra h rfl) fun fin a E=>sg<|qbz E ok rfl rfl rfl fun b12 a w E ok=>aw E rfl fun a E=>sg<|ld E ok qmy 4 rfl rfl rfl fun a E=>lv E ok (qaD qfp h8 rfl) fun a E=>bd hF fun l13 e14 hF=>qeJ (R:=pB) E ok qce qdD rfl qgB rfl e14 rfl rfl fun c15 M16 a w E ok h17=>aw E rfl fun a E=>wp_seq<|sg<|ld E ok qmy 5 rfl rfl rfl fun a E=>lv E ok (qaD qfp h8 rfl) fun a E=>mv E rfl fun a E=>wn<|wp_block<|bd hF fun o23 hL hF=>qaE _ (fun (s:Int × (List (Bool))) a w=>∃ c25 M26,Ok u m0 (M26 :: [(b12,oc 94 [(Value.func (.func 128) #[] #[.pointer (some ⟨pb0,0,none⟩),.pointer (some ⟨pb1,0,none⟩),.pointer (some ⟨pb2,0,none⟩)])])] :: [(pb0,oc 143 [c1])] :: [(pb1,oc 181 [vu x1.bits,vs x1.text])] :: [(pb2,oc 181 [vu x2.bits,vs x2.text])] :: [(pb3,oc 26 [c7])] :: [(pb4,oc 72 [c9])] :: M10 :: [(pb5,oc 109 [(Value.func (.func 62) #[] #[])])] :: S) w ∧ Env 29 a [(2,vp pb4),(3,vp pb5),(4,vp b12),(6,c25),(12,c7),(13,(vi (x3.length:Int))),(14,vi s.1)] ∧ InR .i64 s.1 ∧ ORow 4 1 pB m0 c25 s.2 M26) (fun (b:((List (Bool)))) e a w=>e = (.exit 0) ∧ ∃ c82 M83,Ok u m0 (M83 :: [(b12,oc 94 [(Value.func (.func 128) #[] #[.pointer (some ⟨pb0,0,none⟩),.pointer (some ⟨pb1,0,none⟩),.pointer (some ⟨pb2,0,none⟩)])])] :: [(pb0,oc 143 [c1])] :: [(pb1,oc 181 [vu x1.bits,vs x1.text])] :: [(pb2,oc 181 [vu x2.bits,vs x2.text])] :: [(pb3,oc 26 [c7])] :: [(pb4,oc 72 [c9])] :: M10 :: [(pb5,oc 109 [(Value.func (.func 62) #[] #[])])] :: S) w ∧ Env 29 a [(3,vp pb5),(6,c82)] ∧ ORow 4 1 pB m0 c82 b M83) ?_ ?_ N _ a w hL ⟨c15,M16,ok,E.keep [2,3,4,6,12,13,14],(ir 0),h17⟩
 rotate_left
 ·intro e a w _ hO
  obtain ⟨rfl,c72,M73,ok,E,h74⟩:=hO
  refine qaM<|qaa<|sg<|ld E ok qrs 8 rfl rfl rfl fun a E=>mv E rfl fun a E=>?_
  obtain ⟨r80,e81,hF⟩:=bnd hF
  obtain ⟨m75,hle77,ok76,hfz78⟩:=(ok.frs 0 rfl).freeze
  have h79:=ORow.froz mB h74 hle77 hfz78 (by decide)
  refine qlw E rfl qsK rfl (qkU N _ o23 h79 e81 hG ok76) rfl rfl ?_
  rintro _ w ⟨rfl,okz⟩
  replace ok:=(Ok.thawAt 0 rfl ok hle77 hfz78 okz)
  refine ⟨_,rfl,fun a E=>?_⟩
  refine aw E rfl fun a E=>wp_ret ?_
  exact fin hF ⟨ok.drop.drop,E.d,rz E rfl⟩
 rintro ⟨v28,v29⟩ a w r ⟨c31,M32,ok,E,r30,h33⟩ hF
 replace hF:qfv N x0 x1 x2 x3 x4 v28 v29 = some r:=hF
 unfold qfv at hF
 refine sg<|lw E (qav rfl rfl) fun a E=>wn<|wp_seq<|cg E rfl hF (fun c34 hF=>?_) fun c34 hF=>?_
 ·refine wp_exit<|qaA ?_
  cases hF
  exact so (⟨rfl,⟨c31,M32,ok,E.keep [3,6],h33⟩⟩)
 refine wp_skip<|qaa<|wp_seq<|wp_block<|sg<|mv E rfl fun a E=>?_
 obtain ⟨x35,e36,hF⟩:=bnd hF
 obtain ⟨b37,o38,es39,hl40,rr41,at42,yy43⟩:=ia E 12 14 qfp h8 e36
 obtain ⟨c44,rfl,h45⟩:=qbK rr41
 refine lv E ok (yy43 _ _) fun a E=>lv E ok (qaj qfh rfl (qab.ro at42)) fun a E=>qax E ok qbl rfl rfl fun b46 a w E ok=>qad E ok 0 rfl rfl rfl qaZ rfl rfl ⟨rfl,trivial⟩ rfl rfl fun w ok=>aw E rfl fun a E=>bd hF fun o47 hJ hF=>qaG (Q':=fun e a w=>e = .normal ∧ ∃ c48 M49,Ok u m0 ([(b46,oc 3 [vi v28])] :: M49 :: [(b12,oc 94 [(Value.func (.func 128) #[] #[.pointer (some ⟨pb0,0,none⟩),.pointer (some ⟨pb1,0,none⟩),.pointer (some ⟨pb2,0,none⟩)])])] :: [(pb0,oc 143 [c1])] :: [(pb1,oc 181 [vu x1.bits,vs x1.text])] :: [(pb2,oc 181 [vu x2.bits,vs x2.text])] :: [(pb3,oc 26 [c7])] :: [(pb4,oc 72 [c9])] :: M10 :: [(pb5,oc 109 [(Value.func (.func 62) #[] #[])])] :: S) w ∧ Env 29 a [(2,vp pb4),(3,vp pb5),(4,vp b12),(6,c48),(12,c7),(13,(vi (x3.length:Int))),(14,vi v28)] ∧ ORow 4 1 pB m0 c48 o47 M49) ?_ ?_
 rotate_left
 ·intro e a w hO
  obtain ⟨rfl,c69,M70,ok,E,h71⟩:=hO
  refine qal<|qaa<|qac<|lw E (qaw rfl rfl (InR.inc r30 (qam h8) c34)) fun a E=>mv E rfl fun a E=>wpList_nil ?_
  cases hF
  exact qas ⟨c69,M70,(ok.pk 10 [1,2,3,4,5,6,7,8,9] rfl (by decide)),E.keep [2,3,4,6,12,13,14],(InR.inc r30 (qam h8) c34),h71⟩
 have hF:=hJ
 obtain ⟨r51,e52,hF⟩:=bnd hF
 obtain ⟨x53,e54,hF⟩:=bnd hF
 obtain ⟨l59,e60,hF⟩:=bnd hF
 obtain rfl:=sj hF
 refine qaY [] (Cls u m0 ([(b46,oc 3 [vi v28])] :: [(b12,oc 94 [(Value.func (.func 128) #[] #[.pointer (some ⟨pb0,0,none⟩),.pointer (some ⟨pb1,0,none⟩),.pointer (some ⟨pb2,0,none⟩)])])] :: [(pb0,oc 143 [c1])] :: [(pb1,oc 181 [vu x1.bits,vs x1.text])] :: [(pb2,oc 181 [vu x2.bits,vs x2.text])] :: [(pb3,oc 26 [c7])] :: [(pb4,oc 72 [c9])] :: M10 :: [(pb5,oc 109 [(Value.func (.func 62) #[] #[])])] :: [])) (Cls u m0 ([(b46,oc 3 [vi v28])] :: [(b12,oc 94 [(Value.func (.func 128) #[] #[.pointer (some ⟨pb0,0,none⟩),.pointer (some ⟨pb1,0,none⟩),.pointer (some ⟨pb2,0,none⟩)])])] :: [(pb0,oc 143 [c1])] :: [(pb1,oc 181 [vu x1.bits,vs x1.text])] :: [(pb2,oc 181 [vu x2.bits,vs x2.text])] :: [(pb3,oc 26 [c7])] :: [(pb4,oc 72 [c9])] :: M10 :: [(pb5,oc 109 [(Value.func (.func 62) #[] #[])])] :: [])) (by kernel_rfl) ?_
 intro w hw
 replace ok:=qbd ok hw
 clear hw
 refine qai (cl1 (cq le_m0 ok [0,2,3,4,5,6,7,8,9] rfl) (cq le_m0 ok [0,2,3,4,5,6,7,8,9] rfl)) fun hT=>kt 0 E rfl hT (qah rfl) fun a E=>kt 1 E rfl hT (qaj qak rfl (qab.cown 0 rfl rfl)) fun a E=>kt 2 E rfl hT (qah rfl) fun a E=>kt 3 E rfl hT (qez (caps:=[.tmp 4,.tmp 2,.tmp 7]) rfl) fun a E=>qao [4] (by kernel_rfl) rfl (qar ?_)
 ·refine qbm (o:=_) rfl ?_
  replace ok:Ok u m0 ([(b12,oc 94 [(Value.func (.func 128) #[] #[.pointer (some ⟨pb0,0,none⟩),.pointer (some ⟨pb1,0,none⟩),.pointer (some ⟨pb2,0,none⟩)])])] :: [(pb4,oc 72 [c9])] :: M10 :: [(b46,oc 3 [vi v28])] :: [(pb0,oc 143 [c1])] :: [(pb1,oc 181 [vu x1.bits,vs x1.text])] :: [(pb2,oc 181 [vu x2.bits,vs x2.text])] :: M32 :: [(pb3,oc 26 [c7])] :: [(pb5,oc 109 [(Value.func (.func 62) #[] #[])])] :: S) w:=(ok.pk 10 [2,7,8,0,3,4,5,1,6,9] rfl (by decide))
  refine lc E qoR rfl (qk9 N _ x35 h45 x4 h11 v28 r30 x0 h2 x1 r3 l4 x2 r5 l6 e52 hG ok) fun w ok a E=>wn<|qai (cl1 (cq le_m0 ok [3,0,4,5,6,8,1,2,9] rfl) (cq le_m0 ok [3,0,4,5,6,8,1,2,9] rfl)) fun hT=>?_
  obtain ⟨b63,o64,hp65,yy66⟩:=qbR qce h33 e54 (P:=Tryz.prog) (X:=.tmp 19) (I:=.tmp 20) (kd:=.i64) (qaT E rfl) (qaT E rfl)
  refine kt 5 E rfl hT (yy66 _ _) fun a E=>qao [6] (by kernel_rfl) rfl (qar ?_)
  ·refine wo rfl<|qgV (R:=pB) E ok 7 rfl h33 e54 hp65 rfl rfl qjq rfl rfl rfl ⟨rfl,trivial⟩ qgB e60 rfl fun M67 w ok h68=>wn<|qai (cl1 (cq le_m0 ok [3,0,4,5,6,8,1,2,9] rfl) (cq le_m0 ok [3,0,4,5,6,8,1,2,9] rfl)) fun hT=>qaV (by kernel_rfl) ?_
   exact ⟨rfl,⟨c31,M67,(ok.pk 10 [3,7,0,4,5,6,8,1,2,9] rfl (by decide)),E.keep [2,3,4,6,12,13,14],h68⟩⟩
def qjm (u:World) (m0:Mem) (S:Segs) (r:Bool) (a:Act) (w:World):Prop :=
 Ok u m0 S w ∧ a.defers = [] ∧ RVs Tryz.prog a w [.t 4 (.bool r)]
theorem qmp (N:Nat) (a_0:List UInt8) (la_0:a_0.length ≤ LIMS) (b_1:List UInt8) (lb_1:b_1.length ≤ LIMS) {r:Bool} (hF:qis N a_0 b_1 = some r) (hG:Glob u) (ok:Ok u m0 S w) :
  Calls Tryz.prog 127 [vs a_0,vs b_1].toArray w fun e w'=>(e = .returned (.bool r) ∧ Ok u m0 S w'):=by
 unfold qis at hF
 refine en (qjm u m0 S) r Tryz.func127 rfl rfl rfl (fun _ _ h=>ra h rfl) fun fin a E=>sg<|aw E rfl fun a E=>wp_seq<|sg<|mv E rfl fun a E=>lw E (qeZ Tryz.underlying9 rfl) fun a E=>mv E rfl fun a E=>lw E (qeZ Tryz.underlying9 rfl) fun a E=>lw E (qb7 rfl rfl) fun a E=>wn<|cf E rfl hF (fun c1 hF=>?_) fun c1 hF=>?_
 ·refine sg<|mv E rfl fun a E=>lw E (qeZ Tryz.underlying9 rfl) fun a E=>mv E rfl fun a E=>lw E (qeZ Tryz.underlying9 rfl) fun a E=>lw E (qav rfl rfl) fun a E=>av E rfl fun a E=>wn<|wp_ret<|qaq ?_
  exact fin hF ⟨ok,E.d,rz E rfl⟩
 refine wp_skip<|qaa<|wp_seq<|sg<|mv E rfl fun a E=>lw E (qeZ Tryz.underlying9 rfl) fun a E=>mv E rfl fun a E=>wn<|wp_block<|bd hF fun o3 hL hF=>qaE _ (fun (s:Int) a w=>Ok u m0 (S) w ∧ Env 48 a [(0,vs a_0),(1,vs b_1),(17,(vi (a_0.length:Int))),(18,vi s)] ∧ InR .i64 s) (fun (b:(Unit ⊕ Bool)) e a w=>(Sum.elim (fun b23=>e = (.exit 0) ∧ Ok u m0 (S) w ∧ Env 48 a []) (fun b24=>e = .ret ∧ qjm u m0 S b24 a w)) b) ?_ ?_ N _ a w hL ⟨ok,E.keep [0,1,17,18],(ir 0)⟩
 rotate_left
 ·intro e a w _ hO
  rcases o3 with o3 | o3
  rotate_left
  ·obtain ⟨rfl,hret⟩:=hO
   refine qaz<|qaq ?_
   exact fin hF hret
  have hF:=qca hF
  obtain ⟨rfl,ok,E⟩:=hO
  refine qaM<|qaa<|sg<|aw E rfl fun a E=>wp_ret ?_
  exact fin hF ⟨ok,E.d,rz E rfl⟩
 rintro v5 a w r ⟨ok,E,r6⟩ hF
 replace hF:qhi N a_0 b_1 v5 = some r:=hF
 unfold qhi at hF
 refine sg<|lw E (qav rfl rfl) fun a E=>wn<|wp_seq<|cg E rfl hF (fun c7 hF=>?_) fun c7 hF=>?_
 ·refine wp_exit<|qaA ?_
  cases hF
  exact so (sl ⟨rfl,⟨ok,E.keep []⟩⟩)
 refine wp_skip<|qaa<|wp_seq<|wp_block<|sg<|mv E rfl fun a E=>av E rfl fun a E=>wn<|wp_seq<|qdc (by kernel_rfl) (by kernel_rfl) ok<|qv E (qah rfl) fun a E=>qv E (qah rfl) fun a E=>bd hF fun c8 e9 hF=>qv E (qc7 Tryz.underlying9 rfl rfl e9) fun a E=>qv E (qah rfl) fun a E=>qv E (qah rfl) fun a E=>?_
 refine bd hF fun c10 e11 hF=>qv E (qc7 Tryz.underlying9 rfl rfl e11) fun a E=>qv E (qb7 rfl rfl) fun a E=>wpQuiet_nil ?_
 intro w ok
 refine qaa<|cg E rfl hF (fun c12 hF=>?_) fun c12 hF=>?_
 ·refine wp_skip<|qal<|qaa<|qac<|lw E (qaw rfl rfl (InR.inc r6 (InR.len la_0) c7)) fun a E=>mv E rfl fun a E=>wpList_nil ?_
  cases hF
  exact qas ⟨ok,E.keep [0,1,17,18],(InR.inc r6 (InR.len la_0) c7)⟩
 refine wp_seq<|qdc (by kernel_rfl) (by kernel_rfl) ok<|qv E (qah rfl) fun a E=>qv E (qah rfl) fun a E=>bd hF fun c13 e14 hF=>qv E (qc7 Tryz.underlying9 rfl rfl e14) fun a E=>qv E (qau rfl rfl) fun a E=>qv E (qah rfl) fun a E=>bu E 32 hF (fun c15 hF E=>?_) fun c15 hF E=>?_
 ·refine qs E fun a E=>qs E fun a E=>qs E fun a E=>qs E fun a E=>qs E fun a E=>qs E fun a E=>qs E fun a E=>qs E fun a E=>qs E fun a E=>qs E fun a E=>qs E fun a E=>qs E fun a E=>qs E fun a E=>qv E (qa8 rfl rfl) fun a E=>qv E (qcZ rfl) fun a E=>wpQuiet_nil ?_
  intro w ok
  refine qaa<|wp_ret<|qaz<|qaq ?_
  cases hF
  exact so (sr ⟨rfl,⟨ok,E.d,rz E rfl⟩⟩)
 refine qv E (qah rfl) fun a E=>qv E (qah rfl) fun a E=>bd hF fun c16 e17 hF=>qv E (qc7 Tryz.underlying9 rfl rfl e17) fun a E=>qv E (qb7 rfl rfl) fun a E=>qv E (qah rfl) fun a E=>bw E 37 hF (fun c18 hF E=>?_) fun c18 hF E=>?_
 ·refine qs E fun a E=>qs E fun a E=>qs E fun a E=>qs E fun a E=>qs E fun a E=>qs E fun a E=>qs E fun a E=>qv E (qa1 rfl rfl) fun a E=>qv E (qa1 rfl rfl) fun a E=>qv E (qcZ rfl) fun a E=>wpQuiet_nil ?_
  intro w ok
  refine qaa<|wp_ret<|qaz<|qaq ?_
  cases hF
  exact so (sr ⟨rfl,⟨ok,E.d,rz E rfl⟩⟩)
 refine qv E (qah rfl) fun a E=>qv E (qah rfl) fun a E=>bd hF fun c19 e20 hF=>qv E (qc7 Tryz.underlying9 rfl rfl e20) fun a E=>qv E (qah rfl) fun a E=>qv E (qah rfl) fun a E=>bd hF fun c21 e22 hF=>qv E (qc7 Tryz.underlying9 rfl rfl e22) fun a E=>qv E (qav rfl rfl) fun a E=>qv E (qa8 rfl rfl) fun a E=>qv E (qa1 rfl rfl) fun a E=>qv E (qcZ rfl) fun a E=>wpQuiet_nil ?_
 intro w ok
 refine qaa<|wp_ret<|qaz<|qaq ?_
 cases hF
 exact so (sr ⟨rfl,⟨ok,E.d,rz E rfl⟩⟩)
def qip (u:World) (m0:Mem) (S:Segs) (pb0:Nat) (pb1:Nat) (pb2:Nat) (x0:List (List (List (Relation)))) (c1:Value) (x1:List (Int)) (c3:Value) (M4:List (Nat × Obj)) (r:(List UInt8) × Bool) (a:Act) (w:World):Prop :=
 Ok u m0 ([(pb0,oc 26 [c1])] :: [(pb1,oc 72 [c3])] :: M4 :: [(pb2,oc 109 [(Value.func (.func 62) #[] #[])])] :: S) w ∧ a.defers = [] ∧ RVs Tryz.prog a w [.t 4 (.string (bs r.1)),.t 5 (.bool r.2)] ∧ r.1.length ≤ LIMS
theorem qir (N:Nat) (vx_0:Value) (x_0:Option (qaL)) (hx_0:(pP 3 qfH) m0 [vx_0] x_0) {pb0:Nat} {c1:Value} (x0:List (List (List (Relation)))) (h2:(pL 1 (pL 1 (pL 4 qap))) m0 [c1] x0) {pb1:Nat} {c3:Value} {M4:List (Nat × Obj)} (x1:List (Int)) (h5:ORow 3 1 (pI .i64) m0 c3 x1 M4) {pb2:Nat} {r:(List UInt8) × Bool} (hF:qfb N x_0 x0 x1 = some r) (hG:Glob u) (ok:Ok u m0 ([(pb0,oc 26 [c1])] :: [(pb1,oc 72 [c3])] :: M4 :: [(pb2,oc 109 [(Value.func (.func 62) #[] #[])])] :: S) w) :
  Calls Tryz.prog 95 [vx_0,Value.func (.func 96) #[] #[.pointer (some ⟨pb0,0,none⟩),.pointer (some ⟨pb1,0,none⟩),.pointer (some ⟨pb2,0,none⟩)]].toArray w fun e w'=>(e = .returned (.tuple [(.string (bs r.1)),(.bool r.2)].toArray) ∧ Ok u m0 ([(pb0,oc 26 [c1])] :: [(pb1,oc 72 [c3])] :: M4 :: [(pb2,oc 109 [(Value.func (.func 62) #[] #[])])] :: S) w') ∧ r.1.length ≤ LIMS:=by
 unfold qfb at hF
 refine en (qip u m0 S pb0 pb1 pb2 x0 c1 x1 c3 M4) r Tryz.func95 rfl rfl rfl (by rintro a w ⟨ok,hd,hrv,h0⟩; exact qbG [.t 4 (.string (bs r.1)),.t 5 (.bool r.2)] hd rfl hrv ⟨⟨rfl,ok⟩,h0⟩) fun fin a E=>sg<|qn5 (cs:=[vx_0]) E ok rfl (qp7 hx_0) rfl rfl fun b6 a w E ok=>av E rfl fun a E=>aw E rfl fun a E=>sg<|av E rfl fun a E=>aw E rfl fun a E=>wp_seq<|sg<|ld E ok qmR 0 rfl rfl rfl fun a E=>?_
 obtain ⟨y7,e8,hF⟩:=bnd hF
 obtain ⟨b9,o10,es11,hv12,hl13,hR14,at15⟩:=qm2 hx_0 e8
 obtain ⟨c16,c18,c20,rfl,h17,h19,h21⟩:=hR14
 refine lv E ok (qjz hv12 rfl) fun a E=>fv E qmb rfl fun a E=>lv E ok (qaj qlF rfl (qab.ro (At.sub 1 1 at15))) fun a E=>lv E ok (qaD qh8 h19 rfl) fun a E=>mv E rfl fun a E=>wn<|wp_block<|bd hF fun o24 hL hF=>qaE _ (fun (s:(List UInt8) × Bool × Int) a w=>Ok u m0 ([(b6,oc 143 [vx_0])] :: [(pb0,oc 26 [c1])] :: [(pb1,oc 72 [c3])] :: M4 :: [(pb2,oc 109 [(Value.func (.func 62) #[] #[])])] :: S) w ∧ Env 58 a [(1,(Value.func (.func 96) #[] #[.pointer (some ⟨pb0,0,none⟩),.pointer (some ⟨pb1,0,none⟩),.pointer (some ⟨pb2,0,none⟩)])),(2,vp b6),(6,vs s.1),(7,vb s.2.1),(16,c18),(17,(vi (y7.wholes.length:Int))),(18,vi s.2.2)] ∧ s.1.length ≤ LIMS ∧ InR .i64 s.2.2) (fun (b:((List UInt8) × Bool)) e a w=>e = (.exit 0) ∧ Ok u m0 ([(b6,oc 143 [vx_0])] :: [(pb0,oc 26 [c1])] :: [(pb1,oc 72 [c3])] :: M4 :: [(pb2,oc 109 [(Value.func (.func 62) #[] #[])])] :: S) w ∧ Env 58 a [(6,vs b.1),(7,vb b.2)] ∧ b.1.length ≤ LIMS) ?_ ?_ N _ a w hL ⟨ok,E.keep [1,2,6,7,16,17,18],(show ([]:List UInt8).length ≤ LIMS by decide),(ir 0)⟩
 rotate_left
 ·intro e a w _ hO
  obtain ⟨rfl,ok,E,l103⟩:=hO
  refine qaM<|qaa<|sg<|mz E rfl rfl fun a E=>av E rfl fun a E=>av E rfl fun a E=>wn<|wp_ret ?_
  exact fin hF ⟨ok.drop,E.d,⟨rv_t E rfl,rv_t E rfl,trivial⟩,l103⟩
 rintro ⟨v27,v28,v29⟩ a w r ⟨ok,E,l30,r31⟩ hF
 replace hF:qeE N x_0 x0 x1 y7 v27 v28 v29 = some r:=hF
 unfold qeE at hF
 refine sg<|lw E (qav rfl rfl) fun a E=>wn<|wp_seq<|cg E rfl hF (fun c32 hF=>?_) fun c32 hF=>?_
 ·refine wp_exit<|qaA ?_
  cases hF
  exact so (⟨rfl,⟨ok,E.keep [6,7],l30⟩⟩)
 refine wp_skip<|qaa<|wp_seq<|wp_block<|sg ?_
 obtain ⟨x33,e34,hF⟩:=bnd hF
 obtain ⟨b35,o36,es37,hl38,rr39,at40,yy41⟩:=ia E 16 18 qh8 h19 e34
 obtain ⟨rfl,r42,l43⟩:=rr39
 refine lv E ok (yy41 _ _) fun a E=>lv E ok (qag (cs:=[vu x33.bits,vs x33.text]) qiO rfl rfl (qab.ro at40)) fun a E=>qax E ok qhm rfl rfl fun b44 a w E ok=>qad E ok 0 rfl rfl rfl qm3 rfl rfl ⟨rfl,rfl,trivial⟩ rfl rfl fun w ok=>wn<|sg<|ld E ok qmR 1 rfl rfl rfl fun a E=>?_
 obtain ⟨y45,e46,hF⟩:=bnd hF
 obtain ⟨b47,o48,es49,hv50,hl51,hR52,at53⟩:=qm2 hx_0 e46
 obtain ⟨c54,c56,c58,rfl,h55,h57,h59⟩:=hR52
 refine lv E ok (qjz hv50 rfl) fun a E=>fv E ql3 rfl fun a E=>lv E ok (qaj qlF rfl (qab.ro (At.sub 2 1 at53))) fun a E=>lv E ok (qaD qh8 h59 rfl) fun a E=>mv E rfl fun a E=>wn<|wp_block<|bd hF fun o62 hL hF=>qaE _ (fun (s:(List UInt8) × Bool × Int) a w=>Ok u m0 ([(b44,oc 181 [vu x33.bits,vs x33.text])] :: [(b6,oc 143 [vx_0])] :: [(pb0,oc 26 [c1])] :: [(pb1,oc 72 [c3])] :: M4 :: [(pb2,oc 109 [(Value.func (.func 62) #[] #[])])] :: S) w ∧ Env 58 a [(1,(Value.func (.func 96) #[] #[.pointer (some ⟨pb0,0,none⟩),.pointer (some ⟨pb1,0,none⟩),.pointer (some ⟨pb2,0,none⟩)])),(2,vp b6),(6,vs s.1),(7,vb s.2.1),(9,vp b44),(16,c18),(17,(vi (y7.wholes.length:Int))),(18,vi v29),(25,c58),(26,(vi (y45.fraction.length:Int))),(27,vi s.2.2)] ∧ s.1.length ≤ LIMS ∧ InR .i64 s.2.2) (fun (b:((List UInt8) × Bool)) e a w=>e = (.exit 2) ∧ Ok u m0 ([(b44,oc 181 [vu x33.bits,vs x33.text])] :: [(b6,oc 143 [vx_0])] :: [(pb0,oc 26 [c1])] :: [(pb1,oc 72 [c3])] :: M4 :: [(pb2,oc 109 [(Value.func (.func 62) #[] #[])])] :: S) w ∧ Env 58 a [(1,(Value.func (.func 96) #[] #[.pointer (some ⟨pb0,0,none⟩),.pointer (some ⟨pb1,0,none⟩),.pointer (some ⟨pb2,0,none⟩)])),(2,vp b6),(6,vs b.1),(7,vb b.2),(16,c18),(17,(vi (y7.wholes.length:Int))),(18,vi v29)] ∧ b.1.length ≤ LIMS) ?_ ?_ N _ a w hL ⟨ok,E.keep [1,2,6,7,9,16,17,18,25,26,27],l30,(ir 0)⟩
 rotate_left
 ·intro e a w _ hO
  obtain ⟨rfl,ok,E,l101⟩:=hO
  refine qaM<|qal<|qaa<|qac<|lw E (qaw rfl rfl (InR.inc r31 (qam h19) c32)) fun a E=>mv E rfl fun a E=>wpList_nil ?_
  cases hF
  exact qas ⟨(ok.pk 6 [1,2,3,4,5] rfl (by decide)),E.keep [1,2,6,7,16,17,18],l101,(InR.inc r31 (qam h19) c32)⟩
 rintro ⟨v65,v66,v67⟩ a w r ⟨ok,E,l68,r69⟩ hF
 replace hF:qeH N x_0 x0 x1 x33 y45 v65 v66 v67 = some r:=hF
 unfold qeH at hF
 refine sg<|lw E (qav rfl rfl) fun a E=>wn<|wp_seq<|cg E rfl hF (fun c70 hF=>?_) fun c70 hF=>?_
 ·refine wp_exit<|qaA ?_
  cases hF
  exact so (⟨rfl,⟨ok,E.keep [1,2,6,7,16,17,18],l68⟩⟩)
 refine wp_skip<|qaa<|wp_seq<|wp_block<|sg ?_
 obtain ⟨x71,e72,hF⟩:=bnd hF
 obtain ⟨b73,o74,es75,hl76,rr77,at78,yy79⟩:=ia E 25 27 qh8 h59 e72
 obtain ⟨rfl,r80,l81⟩:=rr77
 refine lv E ok (yy79 _ _) fun a E=>lv E ok (qag (cs:=[vu x71.bits,vs x71.text]) qiO rfl rfl (qab.ro at78)) fun a E=>qax E ok qhm rfl rfl fun b82 a w E ok=>qad E ok 0 rfl rfl rfl qm3 rfl rfl ⟨rfl,rfl,trivial⟩ rfl rfl fun w ok=>wn<|sg<|fk E ok qi7 qfs rfl 1 rfl rfl fun a E=>aw E rfl fun a E=>wp_seq<|sg<|fk E ok qi7 qfs rfl 0 rfl rfl fun a E=>lw E (qrN rfl rfl) fun a E=>wn<|bd hF fun o83 hJ hF=>qaG (Q':=fun e a w=>e = .normal ∧ Ok u m0 ([(b82,oc 181 [vu x71.bits,vs x71.text])] :: [(b44,oc 181 [vu x33.bits,vs x33.text])] :: [(b6,oc 143 [vx_0])] :: [(pb0,oc 26 [c1])] :: [(pb1,oc 72 [c3])] :: M4 :: [(pb2,oc 109 [(Value.func (.func 62) #[] #[])])] :: S) w ∧ Env 58 a [(1,(Value.func (.func 96) #[] #[.pointer (some ⟨pb0,0,none⟩),.pointer (some ⟨pb1,0,none⟩),.pointer (some ⟨pb2,0,none⟩)])),(2,vp b6),(6,vs v65),(7,vb v66),(9,vp b44),(11,vp b82),(12,vs o83),(16,c18),(17,(vi (y7.wholes.length:Int))),(18,vi v29),(25,c58),(26,(vi (y45.fraction.length:Int))),(27,vi v67)] ∧ o83.length ≤ LIMS) ?_ ?_
 ·have hF:=hJ
  refine cg E rfl hF (fun c85 hF=>?_) fun c85 hF=>?_
  ·refine wp_skip ?_
   cases hF
   exact ⟨rfl,⟨ok,E.keep [1,2,6,7,9,11,12,16,17,18,25,26,27],l43⟩⟩
  refine qac<|mv E rfl fun a E=>fk E ok qi7 qfs rfl 0 rfl rfl fun a E=>bd hF fun s86 e87 hF=>lw E (qe1 rfl rfl e87) fun a E=>bd hF fun s88 e89 hF=>lw E (qe1 rfl rfl e89) fun a E=>av E rfl fun a E=>wpList_nil ?_
  cases hF
  exact ⟨rfl,⟨ok,E.keep [1,2,6,7,9,11,12,16,17,18,25,26,27],(qdX e89)⟩⟩
 intro e a w hO
 obtain ⟨rfl,ok,E,l90⟩:=hO
 refine qaa<|sg<|mv E rfl fun a E=>lw E (qbu rfl) fun a E=>mv E rfl fun a E=>bu E 43 hF (fun c91 hF E=>?_) fun c91 hF E=>?_
 ·refine lsq E fun a E=>ls E fun a E=>pt E rfl rfl fun a E=>mz E rfl rfl fun a E=>lv E ok (qez (caps:=[.tmp 2,.tmp 9,.tmp 11]) rfl) fun a E=>?_
  obtain ⟨r92,e93,hF⟩:=bnd hF
  replace ok:Ok u m0 ([(b6,oc 143 [vx_0])] :: [(b44,oc 181 [vu x33.bits,vs x33.text])] :: [(b82,oc 181 [vu x71.bits,vs x71.text])] :: [(pb0,oc 26 [c1])] :: [(pb1,oc 72 [c3])] :: M4 :: [(pb2,oc 109 [(Value.func (.func 62) #[] #[])])] :: S) w:=(ok.pk 7 [2,1,0,3,4,5,6] rfl (by decide))
  refine qgW E rfl qqu rfl (qg4 N x_0 hx_0 x33 r42 l43 x71 r80 l81 x0 h2 x1 h5 e93 hG ok) rfl rfl ?_
  rintro _ w ⟨rfl,ok⟩
  refine ⟨_,rfl,fun a E=>?_⟩
  refine pt E rfl rfl fun a E=>wn<|cg E rfl hF (fun c94 hF=>?_) fun c94 hF=>?_
  ·refine wp_skip<|qal<|qaa<|qac<|lw E (qaw rfl rfl (InR.inc r69 (qam h59) c70)) fun a E=>mv E rfl fun a E=>wpList_nil ?_
   cases hF
   exact qas ⟨(ok.pk 7 [1,0,3,4,5,6] rfl (by decide)),E.keep [1,2,6,7,9,16,17,18,25,26,27],l68,(InR.inc r69 (qam h59) c70)⟩
  refine qac<|mv E rfl fun a E=>av E rfl fun a E=>av E rfl fun a E=>wpList_nil<|qal<|qaa<|qac<|lw E (qaw rfl rfl (InR.inc r69 (qam h59) c70)) fun a E=>mv E rfl fun a E=>wpList_nil ?_
  cases hF
  exact qas ⟨(ok.pk 7 [1,0,3,4,5,6] rfl (by decide)),E.keep [1,2,6,7,9,16,17,18,25,26,27],l90,(InR.inc r69 (qam h59) c70)⟩
 refine mz E rfl rfl fun a E=>bd hF fun r95 e96 hF=>lc E qsb rfl (qmp N o83 l90 v65 l68 e96 hG ok) fun w ok a E=>pf E rfl rfl fun a E=>mv E rfl fun a E=>qcp r95 (fun c97=>?_) (fun c97=>?_)
 rotate_left
 ·have hF:=qcc c97 hF
  have E:=E.upd 48 c97 rfl
  refine lsq E fun a E=>ls E fun a E=>pf E rfl rfl fun a E=>wn<|c_if E rfl (fun h=>by cases h) (fun _=>?_)
  refine wp_skip<|qal<|qaa<|qac<|lw E (qaw rfl rfl (InR.inc r69 (qam h59) c70)) fun a E=>mv E rfl fun a E=>wpList_nil ?_
  cases hF
  exact qas ⟨(ok.pk 7 [1,2,3,4,5,6] rfl (by decide)),E.keep [1,2,6,7,9,16,17,18,25,26,27],l68,(InR.inc r69 (qam h59) c70)⟩
 have hF:=qcg c97 hF
 have E:=E.upd 48 c97 rfl
 refine mv E rfl fun a E=>lv E ok (qez (caps:=[.tmp 2,.tmp 9,.tmp 11]) rfl) fun a E=>?_
 obtain ⟨r98,e99,hF⟩:=bnd hF
 replace ok:Ok u m0 ([(b6,oc 143 [vx_0])] :: [(b44,oc 181 [vu x33.bits,vs x33.text])] :: [(b82,oc 181 [vu x71.bits,vs x71.text])] :: [(pb0,oc 26 [c1])] :: [(pb1,oc 72 [c3])] :: M4 :: [(pb2,oc 109 [(Value.func (.func 62) #[] #[])])] :: S) w:=(ok.pk 7 [2,1,0,3,4,5,6] rfl (by decide))
 refine qgW E rfl qqu rfl (qg4 N x_0 hx_0 x33 r42 l43 x71 r80 l81 x0 h2 x1 h5 e99 hG ok) rfl rfl ?_
 rintro _ w ⟨rfl,ok⟩
 refine ⟨_,rfl,fun a E=>?_⟩
 refine pt E rfl rfl fun a E=>wn<|cg E rfl hF (fun c100 hF=>?_) fun c100 hF=>?_
 ·refine wp_skip<|qal<|qaa<|qac<|lw E (qaw rfl rfl (InR.inc r69 (qam h59) c70)) fun a E=>mv E rfl fun a E=>wpList_nil ?_
  cases hF
  exact qas ⟨(ok.pk 7 [1,0,3,4,5,6] rfl (by decide)),E.keep [1,2,6,7,9,16,17,18,25,26,27],l68,(InR.inc r69 (qam h59) c70)⟩
 refine qac<|mv E rfl fun a E=>av E rfl fun a E=>av E rfl fun a E=>wpList_nil<|qal<|qaa<|qac<|lw E (qaw rfl rfl (InR.inc r69 (qam h59) c70)) fun a E=>mv E rfl fun a E=>wpList_nil ?_
 cases hF
 exact qas ⟨(ok.pk 7 [1,0,3,4,5,6] rfl (by decide)),E.keep [1,2,6,7,9,16,17,18,25,26,27],l90,(InR.inc r69 (qam h59) c70)⟩
def qkO (u:World) (m0:Mem) (S:Segs) (r:(List UInt8) × Bool) (a:Act) (w:World):Prop :=
 Ok u m0 S w ∧ a.defers = [] ∧ RVs Tryz.prog a w [.t 4 (.string (bs r.1)),.t 5 (.bool r.2)] ∧ r.1.length ≤ LIMS
theorem qkT (N:Nat) (vl_0:Value) (l_0:List (List (List (Relation)))) (hl_0:(pL 1 (pL 1 (pL 4 qap))) m0 [vl_0] l_0) {r:(List UInt8) × Bool} (hF:qgY N l_0 = some r) (hG:Glob u) (hTb:Tab u) (ok:Ok u m0 S w) :
  Calls Tryz.prog 61 [vl_0,.func (.func 62) #[] #[]].toArray w fun e w'=>(e = .returned (.tuple [(.string (bs r.1)),(.bool r.2)].toArray) ∧ Ok u m0 S w') ∧ r.1.length ≤ LIMS:=by
 have hb0:=ok.base
 have le_m0:=Mem.le.refl m0
 unfold qgY at hF
 refine en (qkO u m0 S) r Tryz.func61 rfl rfl rfl (by rintro a w ⟨ok,hd,hrv,h0⟩; exact qbG [.t 4 (.string (bs r.1)),.t 5 (.bool r.2)] hd rfl hrv ⟨⟨rfl,ok⟩,h0⟩) fun fin a E=>sg<|qn5 (cs:=[vl_0]) E ok rfl (qbW hl_0) rfl rfl fun b1 a w E ok=>qbz E ok rfl rfl rfl fun b2 a w E ok=>av E rfl fun a E=>av E rfl fun a E=>wn<|sg<|aw E rfl fun a E=>sg<|ld E ok qmy 1 rfl rfl rfl fun a E=>lv E ok (qaD qfp hl_0 rfl) fun a E=>bd hF fun l3 e4 hF=>qeJ (R:=(pI .i64)) E ok qaJ qbl rfl (qaX (ir 0)) rfl e4 rfl rfl fun c5 M6 a w E ok h7=>qax E ok qdC rfl rfl fun b8 a w E ok=>qad E ok 0 rfl rfl rfl qmB (ORow.cells h7) rfl ⟨(ORow.one h7),trivial⟩ rfl rfl fun w ok=>wn<|wp_seq<|sg ?_
 refine ld E ok qmy 3 rfl rfl rfl fun a E=>lv E ok (qaD qfp hl_0 rfl) fun a E=>mv E rfl fun a E=>wn<|wp_block ?_
 obtain ⟨M17,ok,h18⟩:=qcf (e:=69) (k:=4) (R:=qap) ok
 refine bd hF fun o19 hL hF=>qaE _ (fun (s:(List (Relation)) × Int × (List (Int))) a w=>∃ m20 c21 M22 c25 M26,m0.le m20 ∧ Ok u m20 (M22 :: [(b8,oc 72 [c25])] :: M26 :: [(b2,oc 109 [(Value.func (.func 62) #[] #[])])] :: [(b1,oc 26 [vl_0])] :: S) w ∧ Env 36 a [(2,vp b1),(3,vp b2),(6,c21),(7,vp b8),(13,vl_0),(14,(vi (l_0.length:Int))),(15,vi s.2.1)] ∧ ORow 69 4 qap m20 c21 s.1 M22 ∧ InR .i64 s.2.1 ∧ ORow 3 1 (pI .i64) m20 c25 s.2.2 M26) (fun (b:((List (Int)) × (List (Relation)))) e a w=>e = (.exit 0) ∧ ∃ m88 c89 M90 c92 M93,m0.le m88 ∧ Ok u m88 (M93 :: [(b8,oc 72 [c89])] :: M90 :: [(b2,oc 109 [(Value.func (.func 62) #[] #[])])] :: [(b1,oc 26 [vl_0])] :: S) w ∧ Env 36 a [(2,vp b1),(3,vp b2),(6,c92),(7,vp b8)] ∧ ORow 3 1 (pI .i64) m88 c89 b.1 M90 ∧ ORow 69 4 qap m88 c92 b.2 M93) ?_ ?_ N _ a w hL ⟨m0,(Value.slice none 0 0),M17,c5,M6,Mem.le.refl _,ok,E.keep [2,3,6,7,13,14,15],h18,(ir 0),h7⟩
 rotate_left
 ·intro e a w _ hO
  obtain ⟨rfl,m71,c72,M73,c75,M76,hle,ok,E,h74,h77⟩:=hO
  have le_m0:=le_m0.trans hle
  have hl_0:=(mL (mL (mL qaf))).up hle hl_0
  refine qaM<|qaa<|sg<|mv E rfl fun a E=>?_
  obtain ⟨m78,hle,ok,hfz⟩:=(ok.frs 0 rfl).freeze
  have h79:=ORow.froz qaf h77 hle hfz (by decide)
  have le_m0:=le_m0.trans hle
  have hl_0:=(mL (mL (mL qaf))).up hle hl_0
  have h74:=ORow.up (mI .i64) hle h74
  refine bd hF fun r80 e81 hF=>qan E qsQ rfl (qkQ N _ o19.2 h79 e81 hG hTb ok) rfl rfl ?_
  rintro _ w ⟨m82,c83,rfl,hle,ok,h84⟩
  have le_m0:=le_m0.trans hle
  have hl_0:=(mL (mL (mL qaf))).up hle hl_0
  have h74:=ORow.up (mI .i64) hle h74
  have h79:=(mL qaf).up hle h79
  refine ⟨_,rfl,fun a E=>?_⟩
  refine lv E ok (qez (caps:=[.tmp 2,.tmp 7,.tmp 3]) rfl) fun a E=>?_
  obtain ⟨r85,e86,hF⟩:=bnd hF
  replace ok:Ok u m82 ([(b1,oc 26 [vl_0])] :: [(b8,oc 72 [c72])] :: M73 :: [(b2,oc 109 [(Value.func (.func 62) #[] #[])])] :: S) w:=(ok.pk 4 [3,0,1,2] rfl (by decide))
  refine qan E qsS rfl (qir N _ r80 h84 l_0 hl_0 o19.1 h74 e86 hG ok) rfl rfl ?_
  rintro _ w ⟨⟨rfl,ok⟩,l87⟩
  refine ⟨_,rfl,fun a E=>?_⟩
  refine lw E (qaR rfl rfl) fun a E=>lw E (qaR rfl rfl) fun a E=>av E rfl fun a E=>aw E rfl fun a E=>wp_ret ?_
  exact fin hF ⟨(ok.drop.drop.drop.drop).down hb0 le_m0,E.d,⟨rv_t E rfl,rv_t E rfl,trivial⟩,l87⟩
 rintro ⟨v28,v29,v30⟩ a w r ⟨m31,c32,M33,c36,M37,hle,ok,E,h34,r35,h38⟩ hF
 replace hF:qgh N l_0 v28 v29 v30 = some r:=hF
 unfold qgh at hF
 have le_m0:=le_m0.trans hle
 have hl_0:=(mL (mL (mL qaf))).up hle hl_0
 refine sg<|lw E (qav rfl rfl) fun a E=>wn<|wp_seq<|cg E rfl hF (fun c39 hF=>?_) fun c39 hF=>?_
 ·refine wp_exit<|qaA ?_
  cases hF
  exact so (⟨rfl,⟨m31,c36,M37,c32,M33,le_m0,ok,E.keep [2,3,6,7],h38,h34⟩⟩)
 refine wp_skip<|qaa<|wp_seq<|wp_block<|sg<|mv E rfl fun a E=>?_
 obtain ⟨x40,e41,hF⟩:=bnd hF
 obtain ⟨b42,o43,es44,hl45,rr46,at47,yy48⟩:=ia E 13 15 qfp hl_0 e41
 obtain ⟨c49,rfl,h50⟩:=qbK rr46
 refine lv E ok (yy48 _ _) fun a E=>lv E ok (qaj qfh rfl (qab.ro at47)) fun a E=>av E rfl fun a E=>aw E rfl fun a E=>sg<|ld E ok qc3 1 rfl rfl rfl fun a E=>mz E rfl rfl fun a E=>lv E ok (qcF qa4 h34 rfl) fun a E=>?_
 obtain ⟨x51,e52,hF⟩:=bnd hF
 obtain ⟨b53,o54,hp55,yy56⟩:=qbR qaJ h38 e52 (P:=Tryz.prog) (X:=.tmp 20) (I:=.tmp 21) (kd:=.i64) (qaT E rfl) (qaT E rfl)
 refine lv E ok (yy56 _ _) fun a E=>bd hF fun l57 e58 hF=>qgV (R:=(pI .i64)) E ok 2 rfl h38 e52 hp55 rfl rfl qaZ rfl rfl rfl ⟨rfl,trivial⟩ (qaX (ORow.InR h34)) e58 rfl fun M59 w ok h60=>wn<|qac<|mz E rfl rfl fun a E=>bd hF fun r61 e62 hF=>qan E qqp rfl (qif N _ x40 h50 e62 hG ok) rfl rfl ?_
 rintro _ w ⟨m63,c64,rfl,hle,ok,h65⟩
 have le_m0:=le_m0.trans hle
 have hl_0:=(mL (mL (mL qaf))).up hle hl_0
 have h34:=ORow.up qaf hle h34
 have h50:=(mL (mL qaf)).up hle h50
 have at47:=At.up hle at47
 have h60:=ORow.up (mI .i64) hle h60
 refine ⟨_,rfl,fun a E=>?_⟩
 refine bd hF fun l66 e67 hF=>qbo (R:=qap) E ok 0 qaf qa4 Tryz.underlying66 rfl h34 (qa0.ofL h65 ok) e67 ⟨_,qcU,rfl⟩ rfl rfl rfl rfl fun c68 M69 a w E ok h70=>av E rfl fun a E=>wpList_nil<|qal<|qaa<|qac<|lw E (qaw rfl rfl (InR.inc r35 (qam hl_0) c39)) fun a E=>mv E rfl fun a E=>wpList_nil ?_
 cases hF
 exact qas ⟨m63,c68,M69,c36,M59,le_m0,ok,E.keep [2,3,6,7,13,14,15],h70,(InR.inc r35 (qam hl_0) c39),h60⟩
def qg3 (u:World) (m0:Mem) (S:Segs) (r:Int × Int × (List UInt8) × Int) (a:Act) (w:World):Prop :=
 Ok u m0 S w ∧ a.defers = [] ∧ RVs Tryz.prog a w [.t 2 (.int .i64 r.1),.t 3 (.int .i64 r.2.1),.t 4 (.string (bs r.2.2.1)),.t 5 (.int .i64 r.2.2.2)] ∧ InR .i64 r.1 ∧ InR .i64 r.2.1 ∧ r.2.2.1.length ≤ LIMS ∧ InR .i64 r.2.2.2
theorem qlK (N:Nat) (vl_0:Value) (l_0:List (Rule)) (hl_0:(pL 2 qo0) m0 [vl_0] l_0) {r:Int × Int × (List UInt8) × Int} (hF:qhA N l_0 = some r) (hG:Glob u) (hTb:Tab u) (ok:Ok u m0 S w) :
  Calls Tryz.prog 19 [vl_0].toArray w fun e w'=>(e = .returned (.tuple [(.int .i64 r.1),(.int .i64 r.2.1),(.string (bs r.2.2.1)),(.int .i64 r.2.2.2)].toArray) ∧ Ok u m0 S w') ∧ InR .i64 r.1 ∧ InR .i64 r.2.1 ∧ r.2.2.1.length ≤ LIMS ∧ InR .i64 r.2.2.2:=by
 have le_m0:=Mem.le.refl m0
 unfold qhA at hF
 refine en (qg3 u m0 S) r Tryz.func19 rfl rfl rfl (by rintro a w ⟨ok,hd,hrv,h0,h1,h2,h3⟩; exact qbG [.t 2 (.int .i64 r.1),.t 3 (.int .i64 r.2.1),.t 4 (.string (bs r.2.2.1)),.t 5 (.int .i64 r.2.2.2)] hd rfl hrv ⟨⟨rfl,ok⟩,h0,h1,h2,h3⟩) fun fin a E=>sg<|av E rfl fun a E=>av E rfl fun a E=>av E rfl fun a E=>av E rfl fun a E=>wn<|sg<|aw E rfl fun a E=>wp_seq<|sg<|mv E rfl fun a E=>lv E ok (qaD qme hl_0 rfl) fun a E=>mv E rfl fun a E=>wn<|wp_block ?_
 obtain ⟨M6,ok,h7⟩:=qcf (e:=23) (k:=1) (R:=(pL 1 (pL 4 qap))) ok
 refine bd hF fun o8 hL hF=>qaE _ (fun (s:(List (List (List (Relation)))) × Int) a w=>∃ c9 M10,Ok u m0 (M10 :: S) w ∧ Env 59 a [(0,vl_0),(6,c9),(13,vl_0),(14,(vi (l_0.length:Int))),(15,vi s.2)] ∧ ORow 23 1 (pL 1 (pL 4 qap)) m0 c9 s.1 M10 ∧ InR .i64 s.2) (fun (b:((List (List (List (Relation)))))) e a w=>e = (.exit 0) ∧ ∃ c136 M137,Ok u m0 (M137 :: S) w ∧ Env 59 a [(0,vl_0),(6,c136)] ∧ ORow 23 1 (pL 1 (pL 4 qap)) m0 c136 b M137) ?_ ?_ N _ a w hL ⟨(Value.slice none 0 0),M6,ok,E.keep [0,6,13,14,15],h7,(ir 0)⟩
 ·rintro ⟨v13,v14⟩ a w r ⟨c15,M16,ok,E,h17,r18⟩ hF
  replace hF:qgD N l_0 v13 v14 = some r:=hF
  unfold qgD at hF
  refine sg<|lw E (qav rfl rfl) fun a E=>wn<|wp_seq<|cg E rfl hF (fun c19 hF=>?_) fun c19 hF=>?_
  ·refine wp_exit<|qaA ?_
   cases hF
   exact so (⟨rfl,⟨c15,M16,ok,E.keep [0,6],h17⟩⟩)
  refine wp_skip<|qaa<|wp_seq<|wp_block<|sg ?_
  obtain ⟨x20,e21,hF⟩:=bnd hF
  obtain ⟨b22,o23,es24,hl25,rr26,at27,yy28⟩:=ia E 13 15 qme hl_0 e21
  obtain ⟨c30,rfl,l29,h31⟩:=rr26
  refine lv E ok (yy28 _ _) fun a E=>lv E ok (qag (cs:=[vs x20.Class,c30]) qse rfl rfl (qab.ro at27)) fun a E=>qax E ok qlI rfl rfl fun b32 a w E ok=>qad E ok 0 rfl rfl rfl qsm rfl rfl ⟨rfl,(qa5 h31),trivial⟩ rfl rfl fun w ok=>wn<|qac<|mv E rfl fun a E=>fk E ok qrf qfh rfl 0 rfl rfl fun a E=>qaW (R:=(pL 1 (pL 4 qap))) (xo:=[.tmp 21]) (xs:=([x20.Cond]:List (List (List (Relation))))) E ok qfp qlv rfl ⟨⟨_,(qbW h31),rfl,h31⟩,trivial⟩ rfl rfl rfl rfl fun c33 M34 a w E ok h35=>bd hF fun l36 e37 hF=>qbo (R:=(pL 1 (pL 4 qap))) E ok 2 (mL (mL qaf)) qfp Tryz.underlying26 rfl h17 (qa0.ofRow h35 0 rfl ok) e37 ⟨_,qlv,rfl⟩ rfl rfl rfl rfl fun c38 M39 a w E ok h40=>av E rfl fun a E=>wpList_nil<|qal<|qaa<|qac<|lw E (qaw rfl rfl (InR.inc r18 (qam hl_0) c19)) fun a E=>mv E rfl fun a E=>wpList_nil ?_
  cases hF
  exact qas ⟨c38,M39,(ok.pk 3 [2] rfl (by decide)),E.keep [0,6,13,14,15],h40,(InR.inc r18 (qam hl_0) c19)⟩
 intro e a w _ hO
 obtain ⟨rfl,c41,M42,ok,E,h43⟩:=hO
 refine qaM<|qaa<|wp_seq<|sg<|mv E rfl fun a E=>?_
 obtain ⟨r49,e50,hF⟩:=bnd hF
 obtain ⟨m44,hle46,ok45,hfz47⟩:=(ok.frs 0 rfl).freeze
 have h48:=ORow.froz (mL (mL qaf)) h43 hle46 hfz47 (by decide)
 refine qan E qsx rfl (qmV N _ o8 h48 e50 hG ok45) rfl rfl ?_
 rintro _ w ⟨rfl,okz⟩
 replace ok:=(Ok.thawAt 0 rfl ok hle46 hfz47 okz)
 refine ⟨_,rfl,fun a E=>?_⟩
 refine lw E (qbu rfl) fun a E=>wn<|cf E rfl hF (fun c51 hF=>?_) fun c51 hF=>?_
 ·refine sg<|av E rfl fun a E=>av E rfl fun a E=>av E rfl fun a E=>aw E rfl fun a E=>wp_ret<|qaq ?_
  exact fin hF ⟨ok.drop,E.d,⟨rv_t E rfl,rv_t E rfl,rv_t E rfl,rv_t E rfl,trivial⟩,(ir 0),(ir 0),(show ([]:List UInt8).length ≤ LIMS by decide),(ir 1)⟩
 refine wp_skip<|qaa<|wp_seq<|sg<|mv E rfl fun a E=>lv E ok (qaD qme hl_0 rfl) fun a E=>mv E rfl fun a E=>wn<|wp_block<|bd hF fun o53 hL hF=>qaE _ (fun (s:Int) a w=>Ok u m0 (M42 :: S) w ∧ Env 59 a [(0,vl_0),(6,c41),(29,(vi (l_0.length:Int))),(30,vi s)] ∧ InR .i64 s) (fun (b:(Unit ⊕ (Int × Int × (List UInt8) × Int))) e a w=>(Sum.elim (fun b134=>e = (.exit 2) ∧ Ok u m0 (M42 :: S) w ∧ Env 59 a []) (fun b135=>e = .ret ∧ qg3 u m0 S b135 a w)) b) ?_ ?_ N _ a w hL ⟨ok,E.keep [0,6,29,30],(ir 0)⟩
 rotate_left
 ·intro e a w _ hO
  rcases o53 with o53 | o53
  rotate_left
  ·obtain ⟨rfl,hret⟩:=hO
   refine qaz<|qaq ?_
   exact fin hF hret
  have hF:=qca hF
  obtain ⟨rfl,ok,E⟩:=hO
  refine qaM<|qaa<|sg<|av E rfl fun a E=>av E rfl fun a E=>av E rfl fun a E=>av E rfl fun a E=>wn<|wp_ret ?_
  exact fin hF ⟨ok.drop,E.d,⟨rv_t E rfl,rv_t E rfl,rv_t E rfl,rv_t E rfl,trivial⟩,(ir 0),(ir 0),(show ([]:List UInt8).length ≤ LIMS by decide),(ir 0)⟩
 rintro v55 a w r ⟨ok,E,r56⟩ hF
 replace hF:qgN N l_0 o8 v55 = some r:=hF
 unfold qgN at hF
 refine sg<|lw E (qav rfl rfl) fun a E=>wn<|wp_seq<|cg E rfl hF (fun c57 hF=>?_) fun c57 hF=>?_
 ·refine wp_exit<|qaA ?_
  cases hF
  exact so (sl ⟨rfl,⟨ok,E.keep []⟩⟩)
 refine wp_skip<|qaa<|wp_seq<|wp_block<|sg<|mv E rfl fun a E=>av E rfl fun a E=>wn<|sg<|mv E rfl fun a E=>lw E (qaw rfl rfl (InR.inc r56 (qam hl_0) c57)) fun a E=>av E rfl fun a E=>wn<|wp_block<|bd hF fun o59 hL hF=>qaE _ (fun (s:Int) a w=>Ok u m0 (M42 :: S) w ∧ Env 59 a [(0,vl_0),(6,c41),(9,vi v55),(10,vi s),(29,(vi (l_0.length:Int))),(30,vi v55)] ∧ InR .i64 s) (fun (b:(Unit ⊕ (Int × Int × (List UInt8) × Int))) e a w=>(Sum.elim (fun b132=>e = (.exit 4) ∧ Ok u m0 (M42 :: S) w ∧ Env 59 a [(0,vl_0),(6,c41),(29,(vi (l_0.length:Int))),(30,vi v55)]) (fun b133=>e = .ret ∧ qg3 u m0 S b133 a w)) b) ?_ ?_ N _ a w hL ⟨ok,E.keep [0,6,9,10,29,30],(InR.inc r56 (qam hl_0) c57)⟩
 rotate_left
 ·intro e a w _ hO
  rcases o59 with o59 | o59
  rotate_left
  ·have hF:=qmt hF
   obtain ⟨rfl,hret⟩:=hO
   refine qaz<|qaz<|qaq ?_
   cases hF
   exact so (sr ⟨rfl,hret⟩)
  have hF:=qca hF
  obtain ⟨rfl,ok,E⟩:=hO
  refine qaM<|qal<|qaa<|qac<|lw E (qaw rfl rfl (InR.inc r56 (qam hl_0) c57)) fun a E=>mv E rfl fun a E=>wpList_nil ?_
  cases hF
  exact qas ⟨ok,E.keep [0,6,29,30],(InR.inc r56 (qam hl_0) c57)⟩
 rintro v61 a w r ⟨ok,E,r62⟩ hF
 replace hF:qgE N l_0 o8 v55 v61 = some r:=hF
 unfold qgE at hF
 refine wp_seq<|sg<|mz E rfl rfl fun a E=>lv E ok (qaD qme hl_0 rfl) fun a E=>lw E (qav rfl rfl) fun a E=>wn<|cg E rfl hF (fun c63 hF=>?_) fun c63 hF=>?_
 ·refine wp_exit<|qaA ?_
  cases hF
  exact so (sl ⟨rfl,⟨ok,E.keep [0,6,29,30]⟩⟩)
 refine wp_skip<|qaa<|wp_seq<|wp_block<|wp_seq<|bd hF fun o64 hJ hF=>qaG (Q':=fun e a w=>e = .normal ∧ Ok u m0 (M42 :: S) w ∧ Env 59 a [(0,vl_0),(6,c41),(9,vi v55),(10,vi v61),(11,vs o64.1),(12,vb o64.2),(29,(vi (l_0.length:Int))),(30,vi v55)] ∧ o64.1.length ≤ LIMS) ?_ ?_
 rotate_left
 ·intro e a w hO
  obtain ⟨rfl,ok,E,l130⟩:=hO
  refine qaa<|sg<|mv E rfl fun a E=>wn<|cg E rfl hF (fun c131 hF=>?_) fun c131 hF=>?_
  ·refine wp_skip<|qal<|qaa<|qac<|mv E rfl fun a E=>lw E (qaw rfl rfl (InR.inc r62 (qam hl_0) c63)) fun a E=>av E rfl fun a E=>wpList_nil ?_
   cases hF
   exact qas ⟨ok,E.keep [0,6,9,10,29,30],(InR.inc r62 (qam hl_0) c63)⟩
  refine sg<|mz E rfl rfl fun a E=>mv E rfl fun a E=>av E rfl fun a E=>av E rfl fun a E=>av E rfl fun a E=>aw E rfl fun a E=>wp_ret<|qaz<|qaq ?_
  cases hF
  exact so (sr ⟨rfl,⟨ok.drop,E.d,⟨rv_t E rfl,rv_t E rfl,rv_t E rfl,rv_t E rfl,trivial⟩,r56,r62,l130,(ir 19)⟩⟩)
 have hF:=hJ
 obtain ⟨x66,e67,hF⟩:=bnd hF
 obtain ⟨x78,e79,hF⟩:=bnd hF
 obtain ⟨r98,e99,hF⟩:=bnd hF
 obtain rfl:=sj hF
 refine qaY [] (Cls u m0 (M42 :: [])) (Cls u m0 (M42 :: [])) (by kernel_rfl) ?_
 intro w hw
 replace ok:=qbd ok hw
 clear hw
 refine qai (cl1 (cq le_m0 ok [0] rfl) (cq le_m0 ok [0] rfl)) fun hT=>kt 0 E rfl hT (qah rfl) fun a E=>kt 1 E rfl hT (qah rfl) fun a E=>?_
 obtain ⟨b101,o102,hp103,yy104⟩:=qbR qfp h43 e67 (P:=Tryz.prog) (X:=.tmp 42) (I:=.tmp 43) (kd:=.i64) (qaT E rfl) (qaT E rfl)
 refine kt 2 E rfl hT (yy104 _ _) fun a E=>?_
 obtain ⟨es105,hl106,rr107,hh108⟩:=qb9 h43 e67 hp103 (by decide)
 obtain ⟨c109,rfl,h110⟩:=qbK rr107
 refine kt 3 E rfl hT (qaj qfh rfl (qab.crow hh108 0 rfl)) fun a E=>kt 4 E rfl hT (qah rfl) fun a E=>kt 5 E rfl hT (qah rfl) fun a E=>?_
 obtain ⟨b111,o112,hp113,yy114⟩:=qbR qfp h43 e79 (P:=Tryz.prog) (X:=.tmp 46) (I:=.tmp 47) (kd:=.i64) (qaT E rfl) (qaT E rfl)
 refine kt 6 E rfl hT (yy114 _ _) fun a E=>?_
 obtain ⟨es115,hl116,rr117,hh118⟩:=qb9 h43 e79 hp113 (by decide)
 obtain ⟨c119,rfl,h120⟩:=qbK rr117
 refine kt 7 E rfl hT (qaj qfh rfl (qab.crow hh118 0 rfl)) fun a E=>qao [8] (by kernel_rfl) rfl (qar ?_)
 ·refine wo rfl<|qaW (R:=(pL 1 (pL 4 qap))) (xo:=[.tmp 45,.tmp 49]) (xs:=([x66,x78]:List (List (List (Relation))))) E ok qfp qlv rfl ⟨⟨_,(qbW h110),rfl,h110⟩,⟨_,(qbW h120),rfl,h120⟩,trivial⟩ rfl rfl rfl rfl fun c121 M122 a w E ok h123=>wn<|qai (cl1 (cq le_m0 ok [1] rfl) (cq le_m0 ok [1] rfl)) fun hT=>qao [9] (by kernel_rfl) rfl (qar ?_)
  ·refine qbm (o:=_) rfl ?_
   obtain ⟨m124,hle126,ok125,hfz127⟩:=(ok.frs 0 rfl).freeze
   have h128:=ORow.froz (mL (mL qaf)) h123 hle126 hfz127 (by decide)
   refine qan E qsV rfl (qkT N _ ([x66,x78]:List (List (List (Relation)))) h128 e99 hG hTb ok125) rfl rfl ?_
   rintro _ w ⟨⟨rfl,okz⟩,l129⟩
   replace ok:=(Ok.thawAt 0 rfl ok hle126 hfz127 okz)
   refine ⟨_,rfl,fun a E=>?_⟩
   refine wn<|qai (cl1 (cq le_m0 ok [1] rfl) (cq le_m0 ok [1] rfl)) fun hT=>kt 10 E rfl hT (qah rfl) fun a E=>kt 11 E rfl hT (qaR rfl rfl) fun a E=>kt 12 E rfl hT (qaR rfl rfl) fun a E=>kt 13 E rfl hT (qcZ rfl) fun a E=>kt 14 E rfl hT (qcZ rfl) fun a E=>qaV (by kernel_rfl) ?_
   exact ⟨rfl,⟨(ok.pk 2 [1] rfl (by decide)),E.keep [0,6,9,10,11,12,29,30],l129⟩⟩
def qjK (u:World) (m0:Mem) (S:Segs) (r:Int) (a:Act) (w:World):Prop :=
 Ok u m0 S w ∧ a.defers = [] ∧ RVs Tryz.prog a w [.t 6 (.int .i64 r)] ∧ InR .i64 r
theorem qhu (N:Nat) (s_0:List UInt8) (ls_0:s_0.length ≤ LIMS) (from_1:Int) (rfrom_1:InR .u8 from_1) (to_2:Int) (rto_2:InR .u8 to_2) {r:Int} (hF:qfo N s_0 from_1 to_2 = some r) (hG:Glob u) (ok:Ok u m0 S w) :
  Calls Tryz.prog 163 [vs s_0,Value.int .u8 from_1,Value.int .u8 to_2].toArray w fun e w'=>(e = .returned (.int .i64 r) ∧ Ok u m0 S w') ∧ InR .i64 r:=by
 unfold qfo at hF
 refine en (qjK u m0 S) r Tryz.func163 rfl rfl rfl (fun _ _ h=>rb h rfl) fun fin a E=>sg<|aw E rfl fun a E=>sg<|aw E rfl fun a E=>wp_seq<|wp_block<|bd hF fun o2 hL hF=>qaE _ (fun (s:Int) a w=>Ok u m0 (S) w ∧ Env 29 a [(0,vs s_0),(1,(Value.int .u8 from_1)),(2,(Value.int .u8 to_2)),(7,vi s)] ∧ InR .i64 s) (fun (b:Int) e a w=>e = (.exit 0) ∧ Ok u m0 (S) w ∧ Env 29 a [(7,vi b)] ∧ InR .i64 b) ?_ ?_ N _ a w hL ⟨ok,E.keep [0,1,2,7],(ir 0)⟩
 rotate_left
 ·intro e a w _ hO
  obtain ⟨rfl,ok,E,r13⟩:=hO
  refine qaM<|qaa<|sg<|mv E rfl fun a E=>aw E rfl fun a E=>wp_ret ?_
  exact fin hF ⟨ok,E.d,rz E rfl,r13⟩
 rintro v4 a w r ⟨ok,E,r5⟩ hF
 replace hF:qfK N s_0 from_1 to_2 v4 = some r:=hF
 unfold qfK at hF
 refine wp_seq<|sg<|mz E rfl rfl fun a E=>lw E (qeZ Tryz.underlying9 rfl) fun a E=>lw E (qav rfl rfl) fun a E=>mv E rfl fun a E=>bw E 12 hF (fun c6 hF E=>?_) fun c6 hF E=>?_
 ·refine lsz E fun a E=>ls E fun a E=>pf E rfl rfl fun a E=>mv E rfl fun a E=>lsz E fun a E=>ls E fun a E=>pf E rfl rfl fun a E=>wn<|c_if E rfl (fun h=>by cases h) (fun _=>?_)
  refine wp_exit<|qaA ?_
  cases hF
  exact so (⟨rfl,⟨ok,E.keep [7],r5⟩⟩)
 refine mz E rfl rfl fun a E=>bd hF fun c7 e8 hF=>lv E ok (qc7 Tryz.underlying9 rfl rfl e8) fun a E=>mv E rfl fun a E=>lw E (qev rfl rfl) fun a E=>pt E rfl rfl fun a E=>mv E rfl fun a E=>bw E 19 hF (fun c9 hF E=>?_) fun c9 hF E=>?_
 ·refine lsz E fun a E=>ls E fun a E=>pf E rfl rfl fun a E=>wn<|c_if E rfl (fun h=>by cases h) (fun _=>?_)
  refine wp_exit<|qaA ?_
  cases hF
  exact so (⟨rfl,⟨ok,E.keep [7],r5⟩⟩)
 refine mz E rfl rfl fun a E=>bd hF fun c10 e11 hF=>lv E ok (qc7 Tryz.underlying9 rfl rfl e11) fun a E=>mv E rfl fun a E=>lw E (qeC rfl rfl) fun a E=>pt E rfl rfl fun a E=>wn<|cg E rfl hF (fun c12 hF=>?_) fun c12 hF=>?_
 ·refine wp_exit<|qaA ?_
  cases hF
  exact so (⟨rfl,⟨ok,E.keep [7],r5⟩⟩)
 refine wp_skip<|qaa<|wp_block<|qac<|mv E rfl fun a E=>lw E (qaw rfl rfl (InR.inc r5 (InR.len ls_0) c6)) fun a E=>av E rfl fun a E=>wpList_nil<|qal ?_
 cases hF
 exact qas ⟨ok,E.keep [0,1,2,7],(InR.inc r5 (InR.len ls_0) c6)⟩
def qli (u:World) (m0:Mem) (S:Segs) (r:Word × Int) (a:Act) (w:World):Prop :=
 ∃ m1 v0,m0.le m1 ∧ Ok u m1 S w ∧ a.defers = [] ∧ RVs Tryz.prog a w [.c 4 163 (.agg v0.toArray),.t 5 (.int .i64 r.2)] ∧ qqw m1 v0 r.1 ∧ InR .i64 r.2
theorem qls (N:Nat) (s_0:List UInt8) (ls_0:s_0.length ≤ LIMS) (at_1:Int) (rat_1:InR .i64 at_1) {r:Word × Int} (hF:qhh N s_0 at_1 = some r) (hG:Glob u) (ok:Ok u m0 S w) :
  Calls Tryz.prog 142 [vs s_0,vi at_1].toArray w fun e w'=>∃ m1 v0,e = .returned (.tuple [(.agg v0.toArray),(.int .i64 r.2)].toArray) ∧ m0.le m1 ∧ Ok u m1 S w' ∧ qqw m1 v0 r.1 ∧ InR .i64 r.2:=by
 have le_m0:=Mem.le.refl m0
 unfold qhh at hF
 refine en (qli u m0 S) r Tryz.func142 rfl rfl rfl (by rintro a w ⟨m1,v0,hle,ok,hd,hrv,h0,h1⟩; exact qbG [.c 4 163 (.agg v0.toArray),.t 5 (.int .i64 r.2)] hd rfl hrv ⟨m1,v0,rfl,hle,ok,h0,h1⟩) fun fin a E=>sg<|qax E ok qlV rfl rfl fun b1 a w E ok=>aw E rfl fun a E=>wp_seq<|wp_block<|bd hF fun o3 hL hF=>qaE _ (fun (s:Int) a w=>Ok u m0 ([(b1,oc 163 [(vs ([])),vi 0])] :: S) w ∧ Env 104 a [(0,vs s_0),(1,vi s),(4,vp b1)] ∧ InR .i64 s) (fun (b:Int) e a w=>e = (.exit 0) ∧ Ok u m0 ([(b1,oc 163 [(vs ([])),vi 0])] :: S) w ∧ Env 104 a [(0,vs s_0),(1,vi b),(4,vp b1)] ∧ InR .i64 b) ?_ ?_ N _ a w hL ⟨ok,E.keep [0,1,4],rat_1⟩
 ·as_aux_lemma =>
   rintro v5 a w r ⟨ok,E,r6⟩ hF
   replace hF:qgt N s_0 v5 = some r:=hF
   unfold qgt at hF
   refine wp_seq<|wp_seq<|bd hF fun o7 hJ hF=>qaG (Q':=fun e a w=>e = .normal ∧ Ok u m0 ([(b1,oc 163 [(vs ([])),vi 0])] :: S) w ∧ Env 104 a [(0,vs s_0),(1,vi v5),(4,vp b1),(28,vb o7)]) ?_ ?_
   rotate_left
   ·intro e a w hO
    obtain ⟨rfl,ok,E⟩:=hO
    refine qaa<|cg E rfl hF (fun c17 hF=>?_) fun c17 hF=>?_
    ·refine wp_exit<|qaA ?_
     cases hF
     exact so (⟨rfl,⟨ok,E.keep [0,1,4],r6⟩⟩)
    refine wp_skip<|qaa<|wp_block<|qac<|mv E rfl fun a E=>lw E (qbq rfl rfl) fun a E=>av E rfl fun a E=>wpList_nil<|qal ?_
    cases hF
    exact qas ⟨ok,E.keep [0,1,4],(InR.wrap _ _)⟩
   have hF:=hJ
   refine qac<|mz E rfl rfl fun a E=>lw E (qeZ Tryz.underlying9 rfl) fun a E=>lw E (qav rfl rfl) fun a E=>mv E rfl fun a E=>bw E 11 hF (fun c8 hF E=>?_) fun c8 hF E=>?_
   ·refine lsz E fun a E=>lsz E fun a E=>lsz E fun a E=>lsz E fun a E=>?_
    refine pf E rfl rfl fun a E=>wpList_nil ?_
    cases hF
    exact ⟨rfl,⟨ok,E.keep [0,1,4,28]⟩⟩
   refine mz E rfl rfl fun a E=>bd hF fun c9 e10 hF=>lv E ok (qc7 Tryz.underlying9 rfl rfl e10) fun a E=>lw E (qau rfl rfl) fun a E=>mv E rfl fun a E=>bu E 16 hF (fun c11 hF E=>?_) fun c11 hF E=>?_
   ·refine lsz E fun a E=>pt E rfl rfl fun a E=>mv E rfl fun a E=>lsz E fun a E=>pt E rfl rfl fun a E=>pt E rfl rfl fun a E=>wpList_nil ?_
    cases hF
    exact ⟨rfl,⟨ok,E.keep [0,1,4,28]⟩⟩
   refine mz E rfl rfl fun a E=>bd hF fun c12 e13 hF=>lv E ok (qc7 Tryz.underlying9 rfl rfl e13) fun a E=>lw E (qau rfl rfl) fun a E=>pf E rfl rfl fun a E=>mv E rfl fun a E=>bu E 22 hF (fun c14 hF E=>?_) fun c14 hF E=>?_
   ·refine lsz E fun a E=>pt E rfl rfl fun a E=>pt E rfl rfl fun a E=>wpList_nil ?_
    cases hF
    exact ⟨rfl,⟨ok,E.keep [0,1,4,28]⟩⟩
   refine mz E rfl rfl fun a E=>bd hF fun c15 e16 hF=>lv E ok (qc7 Tryz.underlying9 rfl rfl e16) fun a E=>lw E (qau rfl rfl) fun a E=>pf E rfl rfl fun a E=>pt E rfl rfl fun a E=>wpList_nil ?_
   cases hF
   exact ⟨rfl,⟨ok,E.keep [0,1,4,28]⟩⟩
 intro e a w _ hO
 obtain ⟨rfl,ok,E,r18⟩:=hO
 refine qaM<|qaa<|wp_seq<|sg<|mz E rfl rfl fun a E=>lw E (qeZ Tryz.underlying9 rfl) fun a E=>lw E (qau rfl rfl) fun a E=>wn<|cf E rfl hF (fun c19 hF=>?_) fun c19 hF=>?_
 ·refine sg<|mv E rfl fun a E=>lw E (qaF (ps:=[(0,.const (vs ([]))),(1,.tmp 35)]) (qs:=[(0,[(vs ([]))]),(1,[vi o3])]) (cs:=[(vs ([])),vi o3]) qlV qmi rfl ⟨rfl,rfl,rfl,⟨rfl,rfl,rfl,trivial⟩⟩ rfl) fun a E=>mv E rfl fun a E=>qad E ok 0 rfl rfl rfl qmN rfl rfl ⟨rfl,rfl,trivial⟩ rfl rfl fun w ok=>av E rfl fun a E=>wn<|wp_ret<|qaq ?_
  exact fin hF ⟨m0,[(vs ([])),vi o3],le_m0,ok.drop,E.d,⟨rv_c (cs:=[(vs ([])),vi o3]) E ok rfl qmK rfl (qab.own 0 rfl rfl),rv_t E rfl,trivial⟩,⟨rfl,(show ([]:List UInt8).length ≤ LIMS by decide),r18⟩,r18⟩
 refine wp_skip<|qaa<|sg<|mz E rfl rfl fun a E=>bd hF fun s20 e21 hF=>lw E (qhl Tryz.underlying9 e21 rfl ⟨_,rfl⟩ rfl) fun a E=>bd hF fun r22 e23 hF=>qan E qpM rfl (qhu N s20 (Nat.le_trans (qjY e21) ls_0) 97 (show InR .u8 (97) by decide) 122 (show InR .u8 (122) by decide) e23 hG ok) rfl rfl ?_
 rintro _ w ⟨⟨rfl,ok⟩,r24⟩
 refine ⟨_,rfl,fun a E=>?_⟩
 refine aw E rfl fun a E=>wp_seq<|sg<|mv E rfl fun a E=>lw E (qau rfl rfl) fun a E=>wn<|bd hF fun o25 hJ hF=>qaG (Q':=fun e a w=>e = .normal ∧ Ok u m0 ([(b1,oc 163 [(vs ([])),vi 0])] :: S) w ∧ Env 104 a [(0,vs s_0),(1,vi o3),(4,vp b1),(6,vi o25)] ∧ InR .i64 o25) ?_ ?_
 ·have hF:=hJ
  refine cg E rfl hF (fun c27 hF=>?_) fun c27 hF=>?_
  ·refine wp_skip ?_
   cases hF
   exact ⟨rfl,⟨ok,E.keep [0,1,4,6],r24⟩⟩
  refine qac<|mz E rfl rfl fun a E=>bd hF fun s28 e29 hF=>lw E (qhl Tryz.underlying9 e29 rfl ⟨_,rfl⟩ rfl) fun a E=>bd hF fun r30 e31 hF=>qan E qpM rfl (qhu N s28 (Nat.le_trans (qjY e29) ls_0) 48 (show InR .u8 (48) by decide) 57 (show InR .u8 (57) by decide) e31 hG ok) rfl rfl ?_
  rintro _ w ⟨⟨rfl,ok⟩,r32⟩
  refine ⟨_,rfl,fun a E=>?_⟩
  refine av E rfl fun a E=>wpList_nil ?_
  cases hF
  exact ⟨rfl,⟨ok,E.keep [0,1,4,6],r32⟩⟩
 intro e a w hO
 obtain ⟨rfl,ok,E,r33⟩:=hO
 refine qaa<|wp_seq<|wp_seq<|bd hF fun o34 hJ hF=>qaG (Q':=fun e a w=>e = .normal ∧ Ok u m0 ([(b1,oc 163 [(vs ([])),vi 0])] :: S) w ∧ Env 104 a [(0,vs s_0),(1,vi o3),(4,vp b1),(6,vi o25),(72,vb o34)]) ?_ ?_
 ·as_aux_lemma =>
   have hF:=hJ
   refine qac<|mv E rfl fun a E=>lw E (qau rfl rfl) fun a E=>mv E rfl fun a E=>bw E 50 hF (fun c35 hF E=>?_) fun c35 hF E=>?_
   ·refine lsz E fun a E=>ls E fun a E=>pf E rfl rfl fun a E=>mv E rfl fun a E=>lsz E fun a E=>lsz E fun a E=>ls E fun a E=>?_
    refine lsz E fun a E=>ls E fun a E=>pf E rfl rfl fun a E=>wpList_nil ?_
    cases hF
    exact ⟨rfl,⟨ok,E.keep [0,1,4,6,72]⟩⟩
   refine mv E rfl fun a E=>lw E (qbq rfl rfl) fun a E=>mv E rfl fun a E=>lw E (qeZ Tryz.underlying9 rfl) fun a E=>lw E (qav rfl rfl) fun a E=>pt E rfl rfl fun a E=>mv E rfl fun a E=>bw E 57 hF (fun c36 hF E=>?_) fun c36 hF E=>?_
   ·refine lsz E fun a E=>lsz E fun a E=>lsz E fun a E=>lsq E fun a E=>pf E rfl rfl fun a E=>wpList_nil ?_
    cases hF
    exact ⟨rfl,⟨ok,E.keep [0,1,4,6,72]⟩⟩
   refine mz E rfl rfl fun a E=>mv E rfl fun a E=>lw E (qbq rfl rfl) fun a E=>bd hF fun s37 e38 hF=>lw E (qhl Tryz.underlying9 e38 rfl ⟨_,rfl⟩ ⟨_,rfl⟩) fun a E=>lw E (qk8 rfl rfl) fun a E=>mv E rfl fun a E=>bu E 64 hF (fun c39 hF E=>?_) fun c39 hF E=>?_
   ·refine lsz E fun a E=>lsq E fun a E=>pt E rfl rfl fun a E=>pt E rfl rfl fun a E=>wpList_nil ?_
    cases hF
    exact ⟨rfl,⟨ok,E.keep [0,1,4,6,72]⟩⟩
   refine mz E rfl rfl fun a E=>mv E rfl fun a E=>lw E (qbq rfl rfl) fun a E=>bd hF fun s40 e41 hF=>lw E (qhl Tryz.underlying9 e41 rfl ⟨_,rfl⟩ ⟨_,rfl⟩) fun a E=>lw E (qk8 rfl rfl) fun a E=>pf E rfl rfl fun a E=>pt E rfl rfl fun a E=>wpList_nil ?_
   cases hF
   exact ⟨rfl,⟨ok,E.keep [0,1,4,6,72]⟩⟩
 intro e a w hO
 obtain ⟨rfl,ok,E⟩:=hO
 refine qaa<|bd hF fun o42 hJ hF=>qaG (Q':=fun e a w=>e = .normal ∧ Ok u m0 ([(b1,oc 163 [(vs ([])),vi 0])] :: S) w ∧ Env 104 a [(0,vs s_0),(1,vi o3),(4,vp b1),(6,vi o42)] ∧ InR .i64 o42) ?_ ?_
 ·have hF:=hJ
  refine cg E rfl hF (fun c44 hF=>?_) fun c44 hF=>?_
  ·refine wp_skip ?_
   cases hF
   exact ⟨rfl,⟨ok,E.keep [0,1,4,6],r33⟩⟩
  refine qac<|av E rfl fun a E=>wpList_nil ?_
  cases hF
  exact ⟨rfl,⟨ok,E.keep [0,1,4,6],(ir 2)⟩⟩
 intro e a w hO
 obtain ⟨rfl,ok,E,r45⟩:=hO
 refine qaa<|wp_seq<|wp_seq<|bd hF fun o46 hJ hF=>qaG (Q':=fun e a w=>e = .normal ∧ Ok u m0 ([(b1,oc 163 [(vs ([])),vi 0])] :: S) w ∧ Env 104 a [(0,vs s_0),(1,vi o3),(4,vp b1),(6,vi o42),(92,vb o46)]) ?_ ?_
 rotate_left
 ·intro e a w hO
  obtain ⟨rfl,ok,E⟩:=hO
  refine qaa<|bd hF fun o56 hJ hF=>qaG (Q':=fun e a w=>e = .normal ∧ Ok u m0 ([(b1,oc 163 [(vs ([])),vi 0])] :: S) w ∧ Env 104 a [(0,vs s_0),(1,vi o3),(4,vp b1),(6,vi o56)] ∧ InR .i64 o56) ?_ ?_
  ·have hF:=hJ
   refine cg E rfl hF (fun c58 hF=>?_) fun c58 hF=>?_
   ·refine wp_skip ?_
    cases hF
    exact ⟨rfl,⟨ok,E.keep [0,1,4,6],r45⟩⟩
   refine qac<|av E rfl fun a E=>wpList_nil ?_
   cases hF
   exact ⟨rfl,⟨ok,E.keep [0,1,4,6],(ir 1)⟩⟩
  intro e a w hO
  obtain ⟨rfl,ok,E,r59⟩:=hO
  refine qaa<|sg<|mz E rfl rfl fun a E=>mz E rfl rfl fun a E=>lw E (qbq rfl rfl) fun a E=>bd hF fun s60 e61 hF=>lw E (qhl Tryz.underlying9 e61 rfl ⟨_,rfl⟩ ⟨_,rfl⟩) fun a E=>mv E rfl fun a E=>lw E (qaF (ps:=[(0,.tmp 98),(1,.tmp 99)]) (qs:=[(0,[vs s60]),(1,[vi o3])]) (cs:=[vs s60,vi o3]) qlV qmi rfl ⟨rfl,rfl,rfl,⟨rfl,rfl,rfl,trivial⟩⟩ rfl) fun a E=>mz E rfl rfl fun a E=>lw E (qbq rfl rfl) fun a E=>qad E ok 0 rfl rfl rfl qmN rfl rfl ⟨rfl,rfl,trivial⟩ rfl rfl fun w ok=>av E rfl fun a E=>wn<|wp_ret ?_
  exact fin hF ⟨m0,[vs s60,vi o3],le_m0,ok.drop,E.d,⟨rv_c (cs:=[vs s60,vi o3]) E ok rfl qmK rfl (qab.own 0 rfl rfl),rv_t E rfl,trivial⟩,⟨rfl,(Nat.le_trans (qjY e61) ls_0),r18⟩,(InR.wrap _ _)⟩
 have hF:=hJ
 refine qac<|mv E rfl fun a E=>lw E (qau rfl rfl) fun a E=>mv E rfl fun a E=>bw E 75 hF (fun c47 hF E=>?_) fun c47 hF E=>?_
 ·refine lsz E fun a E=>lsz E fun a E=>lsz E fun a E=>lsz E fun a E=>?_
  refine pf E rfl rfl fun a E=>wpList_nil ?_
  cases hF
  exact ⟨rfl,⟨ok,E.keep [0,1,4,6,92]⟩⟩
 refine mz E rfl rfl fun a E=>bd hF fun c48 e49 hF=>lv E ok (qc7 Tryz.underlying9 rfl rfl e49) fun a E=>lw E (qau rfl rfl) fun a E=>mv E rfl fun a E=>bu E 80 hF (fun c50 hF E=>?_) fun c50 hF E=>?_
 ·refine lsz E fun a E=>pt E rfl rfl fun a E=>mv E rfl fun a E=>lsz E fun a E=>pt E rfl rfl fun a E=>pt E rfl rfl fun a E=>wpList_nil ?_
  cases hF
  exact ⟨rfl,⟨ok,E.keep [0,1,4,6,92]⟩⟩
 refine mz E rfl rfl fun a E=>bd hF fun c51 e52 hF=>lv E ok (qc7 Tryz.underlying9 rfl rfl e52) fun a E=>lw E (qau rfl rfl) fun a E=>pf E rfl rfl fun a E=>mv E rfl fun a E=>bu E 86 hF (fun c53 hF E=>?_) fun c53 hF E=>?_
 ·refine lsz E fun a E=>pt E rfl rfl fun a E=>pt E rfl rfl fun a E=>wpList_nil ?_
  cases hF
  exact ⟨rfl,⟨ok,E.keep [0,1,4,6,92]⟩⟩
 refine mz E rfl rfl fun a E=>bd hF fun c54 e55 hF=>lv E ok (qc7 Tryz.underlying9 rfl rfl e55) fun a E=>lw E (qau rfl rfl) fun a E=>pf E rfl rfl fun a E=>pt E rfl rfl fun a E=>wpList_nil ?_
 cases hF
 exact ⟨rfl,⟨ok,E.keep [0,1,4,6,92]⟩⟩
def qiM (u:World) (m0:Mem) (S:Segs) (pb0:Nat) (x0:Parser) (r:Parser) (a:Act) (w:World):Prop :=
 Ok u m0 ([(pb0,oc 165 [vs r.s,vi r.to_,vs r.w.text,vi r.w.at_,vi r.at_,vi r.e])] :: S) w ∧ a.defers = [] ∧ RVs Tryz.prog a w [] ∧ r.s.length ≤ LIMS ∧ InR .i64 r.to_ ∧ r.w.text.length ≤ LIMS ∧ InR .i64 r.w.at_ ∧ InR .i64 r.at_ ∧ InR .i64 r.e
theorem qaC (N:Nat) {pb0:Nat} (x0:Parser) (l1:x0.s.length ≤ LIMS) (r2:InR .i64 x0.to_) (l3:x0.w.text.length ≤ LIMS) (r4:InR .i64 x0.w.at_) (r5:InR .i64 x0.at_) (r6:InR .i64 x0.e) {r:Parser} (hF:qaB N x0 = some r) (hG:Glob u) (ok:Ok u m0 ([(pb0,oc 165 [vs x0.s,vi x0.to_,vs x0.w.text,vi x0.w.at_,vi x0.at_,vi x0.e])] :: S) w) :
  Calls Tryz.prog 111 [vp pb0].toArray w fun e w'=>(e = .returned (.tuple [].toArray) ∧ Ok u m0 ([(pb0,oc 165 [vs r.s,vi r.to_,vs r.w.text,vi r.w.at_,vi r.at_,vi r.e])] :: S) w') ∧ r.s.length ≤ LIMS ∧ InR .i64 r.to_ ∧ r.w.text.length ≤ LIMS ∧ InR .i64 r.w.at_ ∧ InR .i64 r.at_ ∧ InR .i64 r.e:=by
 have hb0:=ok.base
 have le_m0:=Mem.le.refl m0
 unfold qaB at hF
 refine en (qiM u m0 S pb0 x0) r Tryz.func111 rfl rfl rfl (by rintro a w ⟨ok,hd,hrv,h0,h1,h2,h3,h4,h5⟩; exact qbG [] hd rfl hrv ⟨⟨rfl,ok⟩,h0,h1,h2,h3,h4,h5⟩) fun fin a E=>sg<|mv E rfl fun a E=>lw E (qa6 rfl) fun a E=>fk E ok qhe qj7 rfl 0 rfl rfl fun a E=>lw E (qau rfl rfl) fun a E=>wn<|cg E rfl hF (fun c13 hF=>?_) fun c13 hF=>?_
 ·refine wp_skip ?_
  exact fin hF ⟨ok,E.d,trivial,l1,r2,l3,r4,r5,r6⟩
 refine bd hF fun o14 hJ hF=>qaG (Q':=fun e a w=>e = .normal ∧ ∃ m15,m0.le m15 ∧ Ok u m15 ([(pb0,oc 165 [vs o14.s,vi o14.to_,vs o14.w.text,vi o14.w.at_,vi o14.at_,vi o14.e])] :: S) w ∧ Env 25 a [] ∧ o14.s.length ≤ LIMS ∧ InR .i64 o14.to_ ∧ o14.w.text.length ≤ LIMS ∧ InR .i64 o14.w.at_ ∧ InR .i64 o14.at_ ∧ InR .i64 o14.e) ?_ ?_
 rotate_left
 ·intro e a w hO
  obtain ⟨rfl,m36,hle,ok,E,l37,r38,l39,r40,r41,r42⟩:=hO
  have le_m0:=le_m0.trans hle
  exact fin hF ⟨((ok).down hb0 le_m0),E.d,trivial,l37,r38,l39,r40,r41,r42⟩
 have hF:=hJ
 obtain ⟨r22,e23,hF⟩:=bnd hF
 obtain rfl:=sj hF
 refine qaY [5,9] (Cls u m0 ([(pb0,oc 165 [vs x0.s,vi x0.to_,vs x0.w.text,vi x0.w.at_,vi x0.at_,vi x0.e])] :: [])) (Cls u m0 ([])) (by kernel_rfl) ?_
 intro w hw
 replace ok:=qbd ok hw
 clear hw
 refine qai (cl1 (cq le_m0 ok [0] rfl) (cq le_m0 ok [] rfl)) fun hT=>kt 0 E rfl hT (qah rfl) fun a E=>kt 1 E rfl hT (qah rfl) fun a E=>kt 2 E rfl hT (qah rfl) fun a E=>kt 3 E rfl hT (qa6 rfl) fun a E=>kt 4 E rfl hT (qae qnX rfl) fun a E=>qaS 5 E rfl (by kernel_rfl) nP hT (qaj qfs rfl (qab.cown 0 rfl rfl)) rfl rfl fun a E=>kt 6 E rfl hT (qah rfl) fun a E=>kt 7 E rfl hT (qa6 rfl) fun a E=>kt 8 E rfl hT (qae qnL rfl) fun a E=>qaS 9 E rfl (by kernel_rfl) nP hT (qaj qak rfl (qab.cown 0 rfl rfl)) rfl rfl fun a E=>qao [10] (by kernel_rfl) rfl (qar ?_)
 ·refine wo rfl<|qan E qsi rfl (qls N x0.s l1 x0.to_ r2 e23 hG ok) rfl rfl ?_
  rintro _ w ⟨m30,vs31,rfl,hle,ok,h32,r33⟩
  have le_m0:=le_m0.trans hle
  obtain ⟨rfl,l34,r35⟩:=h32
  refine ⟨_,rfl,fun a E=>?_⟩
  refine wn<|qai (cl1 (cq le_m0 ok [0] rfl) (cq le_m0 ok [] rfl)) fun hT=>kt 11 E rfl hT (qah rfl) fun a E=>kt 12 E rfl hT (qaR rfl rfl) fun a E=>kt 13 E rfl hT (qaR rfl rfl) fun a E=>kt 14 E rfl hT (qa6 rfl) fun a E=>kt 15 E rfl hT (qae qgd rfl) fun a E=>qao [16] (by kernel_rfl) rfl (qar ?_)
  ·refine wo rfl<|qad E ok 0 rfl rfl rfl qmN rfl rfl ⟨rfl,rfl,trivial⟩ rfl rfl fun w ok=>wn<|qai (cl2 (by kernel_rfl) (cq le_m0 ok [] rfl)) fun hT=>kt 17 E rfl hT (qa6 rfl) fun a E=>kt 18 E rfl hT (qae qnL rfl) fun a E=>qao [19] (by kernel_rfl) rfl (qar ?_)
   ·refine wo rfl<|qad E ok 0 rfl rfl rfl qaZ rfl rfl ⟨rfl,trivial⟩ rfl rfl fun w ok=>wn<|qai (cl2 (by kernel_rfl) (cq le_m0 ok [] rfl)) fun hT=>qaV (by kernel_rfl) ?_
    exact ⟨rfl,⟨m30,le_m0,ok,E.keep [],l1,r33,l34,r35,r5,r6⟩⟩
def qji (u:World) (m0:Mem) (S:Segs) (pb0:Nat) (x0:Parser) (r:Bool) (a:Act) (w:World):Prop :=
 Ok u m0 ([(pb0,oc 165 [vs x0.s,vi x0.to_,vs x0.w.text,vi x0.w.at_,vi x0.at_,vi x0.e])] :: S) w ∧ a.defers = [] ∧ RVs Tryz.prog a w [.t 4 (.bool r)]
theorem qaP (N:Nat) (s_1:List UInt8) (ls_1:s_1.length ≤ LIMS) {pb0:Nat} (x0:Parser) (l1:x0.s.length ≤ LIMS) (r2:InR .i64 x0.to_) (l3:x0.w.text.length ≤ LIMS) (r4:InR .i64 x0.w.at_) (r5:InR .i64 x0.at_) (r6:InR .i64 x0.e) {r:Bool} (hF:qaO N s_1 x0 = some r) (hG:Glob u) (ok:Ok u m0 ([(pb0,oc 165 [vs x0.s,vi x0.to_,vs x0.w.text,vi x0.w.at_,vi x0.at_,vi x0.e])] :: S) w) :
  Calls Tryz.prog 115 [vp pb0,vs s_1].toArray w fun e w'=>(e = .returned (.bool r) ∧ Ok u m0 ([(pb0,oc 165 [vs x0.s,vi x0.to_,vs x0.w.text,vi x0.w.at_,vi x0.at_,vi x0.e])] :: S) w'):=by
 unfold qaO at hF
 refine en (qji u m0 S pb0 x0) r Tryz.func115 rfl rfl rfl (fun _ _ h=>ra h rfl) fun fin a E=>sg<|aw E rfl fun a E=>sg<|mv E rfl fun a E=>lw E (qa6 rfl) fun a E=>fk E ok qhe qj7 rfl 0 rfl rfl fun a E=>lw E (qau rfl rfl) fun a E=>mv E rfl fun a E=>bu E 10 hF (fun c7 hF E=>?_) fun c7 hF E=>?_
 ·refine mv E rfl fun a E=>lw E (qa6 rfl) fun a E=>fv E qgd rfl fun a E=>fk E ok qkn qfs rfl 0 rfl rfl fun a E=>mv E rfl fun a E=>lw E (qk8 rfl rfl) fun a E=>pt E rfl rfl fun a E=>aw E rfl fun a E=>wp_ret ?_
  exact fin hF ⟨ok,E.d,rz E rfl⟩
 refine lsz E fun a E=>lsq E fun a E=>ls E fun a E=>pf E rfl rfl fun a E=>aw E rfl fun a E=>wp_ret ?_
 exact fin hF ⟨ok,E.d,rz E rfl⟩
def qf6 (u:World) (m0:Mem) (S:Segs) (pb0:Nat) (x0:Parser) (r:Bool) (a:Act) (w:World):Prop :=
 Ok u m0 ([(pb0,oc 165 [vs x0.s,vi x0.to_,vs x0.w.text,vi x0.w.at_,vi x0.at_,vi x0.e])] :: S) w ∧ a.defers = [] ∧ RVs Tryz.prog a w [.t 2 (.bool r)]
theorem qij (N:Nat) {pb0:Nat} (x0:Parser) (l1:x0.s.length ≤ LIMS) (r2:InR .i64 x0.to_) (l3:x0.w.text.length ≤ LIMS) (r4:InR .i64 x0.w.at_) (r5:InR .i64 x0.at_) (r6:InR .i64 x0.e) {r:Bool} (hF:qe6 N x0 = some r) (hG:Glob u) (ok:Ok u m0 ([(pb0,oc 165 [vs x0.s,vi x0.to_,vs x0.w.text,vi x0.w.at_,vi x0.at_,vi x0.e])] :: S) w) :
  Calls Tryz.prog 112 [vp pb0].toArray w fun e w'=>(e = .returned (.bool r) ∧ Ok u m0 ([(pb0,oc 165 [vs x0.s,vi x0.to_,vs x0.w.text,vi x0.w.at_,vi x0.at_,vi x0.e])] :: S) w'):=by
 unfold qe6 at hF
 refine en (qf6 u m0 S pb0 x0) r Tryz.func112 rfl rfl rfl (fun _ _ h=>ra h rfl) fun fin a E=>sg<|aw E rfl fun a E=>wp_seq<|sg<|aw E rfl fun a E=>wp_block<|bd hF fun o8 hL hF=>qaE _ (fun (s:Int) a w=>Ok u m0 ([(pb0,oc 165 [vs x0.s,vi x0.to_,vs x0.w.text,vi x0.w.at_,vi x0.at_,vi x0.e])] :: S) w ∧ Env 14 a [(0,vp pb0),(3,vi s)] ∧ InR .i64 s) (fun (b:(Unit ⊕ Bool)) e a w=>(Sum.elim (fun b18=>e = (.exit 0) ∧ Ok u m0 ([(pb0,oc 165 [vs x0.s,vi x0.to_,vs x0.w.text,vi x0.w.at_,vi x0.at_,vi x0.e])] :: S) w ∧ Env 14 a []) (fun b19=>e = .ret ∧ qf6 u m0 S pb0 x0 b19 a w)) b) ?_ ?_ N _ a w hL ⟨ok,E.keep [0,3],(ir 0)⟩
 rotate_left
 ·intro e a w _ hO
  rcases o8 with o8 | o8
  rotate_left
  ·obtain ⟨rfl,hret⟩:=hO
   refine qaz<|qaq ?_
   exact fin hF hret
  have hF:=qca hF
  obtain ⟨rfl,ok,E⟩:=hO
  refine qaM<|qaa<|sg<|aw E rfl fun a E=>wp_ret ?_
  exact fin hF ⟨ok,E.d,rz E rfl⟩
 rintro v10 a w r ⟨ok,E,r11⟩ hF
 replace hF:qeo N x0 v10 = some r:=hF
 unfold qeo at hF
 refine wp_seq<|sg<|mv E rfl fun a E=>lw E (qav rfl rfl) fun a E=>wn<|cg E rfl hF (fun c12 hF=>?_) fun c12 hF=>?_
 ·refine wp_exit<|qaA ?_
  cases hF
  exact so (sl ⟨rfl,⟨ok,E.keep []⟩⟩)
 refine wp_skip<|qaa<|wp_seq<|wp_block<|sg<|mz E rfl rfl fun a E=>mv E rfl fun a E=>lw E (qaw rfl rfl (InR.inc r11 (ir 6) c12)) fun a E=>bd hF fun s13 e14 hF=>lw E (qhl Tryz.underlying9 e14 rfl ⟨_,rfl⟩ ⟨_,rfl⟩) fun a E=>bd hF fun r15 e16 hF=>lc E qel rfl (qaP N s13 (Nat.le_trans (qjY e14) (show ([110,105,118,119,102,116]:List UInt8).length ≤ LIMS by decide)) x0 l1 r2 l3 r4 r5 r6 e16 hG ok) fun w ok a E=>wn<|cg E rfl hF (fun c17 hF=>?_) fun c17 hF=>?_
 ·refine wp_skip<|qal<|qaa<|qac<|mv E rfl fun a E=>lw E (qaw rfl rfl (InR.inc r11 (ir 6) c12)) fun a E=>av E rfl fun a E=>wpList_nil ?_
  cases hF
  exact qas ⟨ok,E.keep [0,3],(InR.inc r11 (ir 6) c12)⟩
 refine sg<|aw E rfl fun a E=>wp_ret<|qaz<|qaq ?_
 cases hF
 exact so (sr ⟨rfl,⟨ok,E.d,rz E rfl⟩⟩)
def qiK (u:World) (m0:Mem) (S:Segs) (pb0:Nat) (x0:Parser) (r:Parser) (a:Act) (w:World):Prop :=
 Ok u m0 ([(pb0,oc 165 [vs r.s,vi r.to_,vs r.w.text,vi r.w.at_,vi r.at_,vi r.e])] :: S) w ∧ a.defers = [] ∧ RVs Tryz.prog a w [] ∧ r.s.length ≤ LIMS ∧ InR .i64 r.to_ ∧ r.w.text.length ≤ LIMS ∧ InR .i64 r.w.at_ ∧ InR .i64 r.at_ ∧ InR .i64 r.e
theorem qaK (N:Nat) (e_1:Int) (re_1:InR .i64 e_1) {pb0:Nat} (x0:Parser) (l1:x0.s.length ≤ LIMS) (r2:InR .i64 x0.to_) (l3:x0.w.text.length ≤ LIMS) (r4:InR .i64 x0.w.at_) (r5:InR .i64 x0.at_) (r6:InR .i64 x0.e) {r:Parser} (hF:qaI N e_1 x0 = some r) (hG:Glob u) (ok:Ok u m0 ([(pb0,oc 165 [vs x0.s,vi x0.to_,vs x0.w.text,vi x0.w.at_,vi x0.at_,vi x0.e])] :: S) w) :
  Calls Tryz.prog 113 [vp pb0,vi e_1].toArray w fun e w'=>(e = .returned (.tuple [].toArray) ∧ Ok u m0 ([(pb0,oc 165 [vs r.s,vi r.to_,vs r.w.text,vi r.w.at_,vi r.at_,vi r.e])] :: S) w') ∧ r.s.length ≤ LIMS ∧ InR .i64 r.to_ ∧ r.w.text.length ≤ LIMS ∧ InR .i64 r.w.at_ ∧ InR .i64 r.at_ ∧ InR .i64 r.e:=by
 unfold qaI at hF
 refine en (qiK u m0 S pb0 x0) r Tryz.func113 rfl rfl rfl (by rintro a w ⟨ok,hd,hrv,h0,h1,h2,h3,h4,h5⟩; exact qbG [] hd rfl hrv ⟨⟨rfl,ok⟩,h0,h1,h2,h3,h4,h5⟩) fun fin a E=>sg<|mv E rfl fun a E=>lw E (qa6 rfl) fun a E=>fk E ok qhe qj7 rfl 0 rfl rfl fun a E=>lw E (qau rfl rfl) fun a E=>wn<|cg E rfl hF (fun c13 hF=>?_) fun c13 hF=>?_
 ·refine wp_skip ?_
  exact fin hF ⟨ok,E.d,trivial,l1,r2,l3,r4,r5,r6⟩
 refine qac<|mz E rfl rfl fun a E=>mv E rfl fun a E=>lw E (qa6 rfl) fun a E=>fv E qgd rfl fun a E=>fk E ok qlU qak rfl 0 rfl rfl fun a E=>mv E rfl fun a E=>lw E (qa6 rfl) fun a E=>fv E qnV rfl fun a E=>qad E ok 0 rfl rfl rfl qaZ rfl rfl ⟨rfl,trivial⟩ rfl rfl fun w ok=>lw E (qa6 rfl) fun a E=>fv E qhe rfl fun a E=>qad E ok 0 rfl rfl rfl qsf rfl rfl ⟨rfl,trivial⟩ rfl rfl fun w ok=>wpList_nil ?_
 exact fin hF ⟨ok,E.d,trivial,l1,r2,l3,r4,r4,re_1⟩
end Go.Proofs.YtidfofhmnlhfjaaGreatDoor
namespace Go.Proofs.YtidfofhmnlhfjaaGreatDoor
open Go.X
variable {u:World} {m0:Mem} {S:Segs} {w:World}
set_option maxHeartbeats 4000000
set_option maxRecDepth 100000
def qiB (u:World) (m0:Mem) (S:Segs) (r:Bool) (a:Act) (w:World):Prop :=
 Ok u m0 S w ∧ a.defers = [] ∧ RVs Tryz.prog a w [.t 4 (.bool r)]
theorem qfR (N:Nat) (vl_0:Value) (l_0:List (Int)) (hl_0:(pL 1 (pI .i64)) m0 [vl_0] l_0) (n_1:Int) (rn_1:InR .i64 n_1) {r:Bool} (hF:qdv N l_0 n_1 = some r) (hG:Glob u) (ok:Ok u m0 S w) :
  Calls Tryz.prog 101 [vl_0,vi n_1].toArray w fun e w'=>(e = .returned (.bool r) ∧ Ok u m0 S w'):=by
 unfold qdv at hF
 refine en (qiB u m0 S) r Tryz.func101 rfl rfl rfl (fun _ _ h=>ra h rfl) fun fin a E=>sg<|aw E rfl fun a E=>wp_seq<|sg<|aw E rfl fun a E=>wp_block<|bd hF fun o2 hL hF=>qaE _ (fun (s:Int) a w=>Ok u m0 (S) w ∧ Env 18 a [(0,vl_0),(1,vi n_1),(5,vi s)] ∧ InR .i64 s) (fun (b:(Unit ⊕ Bool)) e a w=>(Sum.elim (fun b18=>e = (.exit 0) ∧ Ok u m0 (S) w ∧ Env 18 a []) (fun b19=>e = .ret ∧ qiB u m0 S b19 a w)) b) ?_ ?_ N _ a w hL ⟨ok,E.keep [0,1,5],(ir 0)⟩
 rotate_left
 ·intro e a w _ hO
  rcases o2 with o2 | o2
  rotate_left
  ·obtain ⟨rfl,hret⟩:=hO
   refine qaz<|qaq ?_
   exact fin hF hret
  have hF:=qca hF
  obtain ⟨rfl,ok,E⟩:=hO
  refine qaM<|qaa<|sg<|aw E rfl fun a E=>wp_ret ?_
  exact fin hF ⟨ok,E.d,rz E rfl⟩
 rintro v4 a w r ⟨ok,E,r5⟩ hF
 replace hF:qeG N l_0 n_1 v4 = some r:=hF
 unfold qeG at hF
 refine wp_seq<|sg<|mz E rfl rfl fun a E=>lv E ok (qaD qaJ hl_0 rfl) fun a E=>lw E (qav rfl rfl) fun a E=>wn<|cg E rfl hF (fun c6 hF=>?_) fun c6 hF=>?_
 ·refine wp_exit<|qaA ?_
  cases hF
  exact so (sl ⟨rfl,⟨ok,E.keep []⟩⟩)
 refine wp_skip<|qaa<|wp_seq<|wp_block<|sg<|mz E rfl rfl fun a E=>?_
 obtain ⟨x7,e8,hF⟩:=bnd hF
 obtain ⟨b9,o10,es11,hl12,rr13,at14,yy15⟩:=ia E 12 13 qaJ hl_0 e8
 obtain ⟨rfl,r16⟩:=rr13
 refine lv E ok (yy15 _ _) fun a E=>lv E ok (qaj qak rfl (qab.ro at14)) fun a E=>mv E rfl fun a E=>lw E (qau rfl rfl) fun a E=>wn<|cg E rfl hF (fun c17 hF=>?_) fun c17 hF=>?_
 ·refine wp_skip<|qal<|qaa<|qac<|mv E rfl fun a E=>lw E (qaw rfl rfl (InR.inc r5 (qam hl_0) c6)) fun a E=>av E rfl fun a E=>wpList_nil ?_
  cases hF
  exact qas ⟨ok,E.keep [0,1,5],(InR.inc r5 (qam hl_0) c6)⟩
 refine sg<|aw E rfl fun a E=>wp_ret<|qaz<|qaq ?_
 cases hF
 exact so (sr ⟨rfl,⟨ok,E.d,rz E rfl⟩⟩)
def qlb (u:World) (m0:Mem) (S:Segs) (r:(List (Int))) (a:Act) (w:World):Prop :=
 ∃ m1 v0,m0.le m1 ∧ Ok u m1 S w ∧ a.defers = [] ∧ RVs Tryz.prog a w [.t 2 v0] ∧ (pL 1 (pI .i64)) m1 [v0] r
theorem qfE (N:Nat) (operand_0:Int) (roperand_0:InR .i64 operand_0) {r:(List (Int))} (hF:qdJ N operand_0 = some r) (hG:Glob u) (ok:Ok u m0 S w) :
  Calls Tryz.prog 102 [vi operand_0].toArray w fun e w'=>∃ m1 v0,e = .returned v0 ∧ m0.le m1 ∧ Ok u m1 S w' ∧ (pL 1 (pI .i64)) m1 [v0] r:=by
 have le_m0:=Mem.le.refl m0
 unfold qdJ at hF
 refine en (qlb u m0 S) r Tryz.func102 rfl rfl rfl (fun _ _ h=>rc h fun _=>rfl) fun fin a E=>sg<|aw E rfl fun a E=>wp_seq<|sg<|mv E rfl fun a E=>wn<|wp_block<|wp_seq<|sg<|lw E (qau rfl rfl) fun a E=>aw E rfl fun a E=>bd hF fun o1 hJ hF=>qaG (Q':=fun e a w=>e = .normal ∧ Ok u m0 (S) w ∧ Env 12 a [(3,vi operand_0),(4,vb o1)]) ?_ ?_
 ·have hF:=hJ
  refine cf E rfl hF (fun c2 hF=>?_) fun c2 hF=>?_
  ·refine wp_skip ?_
   cases hF
   exact ⟨rfl,⟨ok,E.keep [3,4]⟩⟩
  refine qac<|lw E (qau rfl rfl) fun a E=>av E rfl fun a E=>wpList_nil ?_
  cases hF
  exact ⟨rfl,⟨ok,E.keep [3,4]⟩⟩
 intro e a w hO
 obtain ⟨rfl,ok,E⟩:=hO
 refine qaa<|cf E rfl hF (fun c3 hF=>?_) fun c3 hF=>?_
 ·refine sg<|qaW (R:=(pI .i64)) (xo:=[.const (vi 2),.const (vi 3),.const (vi 4),.const (vi 5),.const (vi 6),.const (vi 10),.const (vi 20),.const (vi 25),.const (vi 50),.const (vi 100)]) (xs:=([2,3,4,5,6,10,20,25,50,100]:List (Int))) E ok qaJ qbl rfl ⟨⟨_,rfl,rfl,(qaX (ir 2))⟩,⟨_,rfl,rfl,(qaX (ir 3))⟩,⟨_,rfl,rfl,(qaX (ir 4))⟩,⟨_,rfl,rfl,(qaX (ir 5))⟩,⟨_,rfl,rfl,(qaX (ir 6))⟩,⟨_,rfl,rfl,(qaX (ir 10))⟩,⟨_,rfl,rfl,(qaX (ir 20))⟩,⟨_,rfl,rfl,(qaX (ir 25))⟩,⟨_,rfl,rfl,(qaX (ir 50))⟩,⟨_,rfl,rfl,(qaX (ir 100))⟩,trivial⟩ rfl rfl rfl rfl fun c4 M5 a w E ok h6=>aw E rfl fun a E=>wp_ret<|qaz<|qaq ?_
  obtain ⟨m7,hle,ok,hfz⟩:=(ok.frs 0 rfl).freeze
  have h8:=ORow.froz (mI .i64) h6 hle hfz (by decide)
  have le_m0:=le_m0.trans hle
  exact fin hF ⟨m7,c4,le_m0,ok,E.d,rz E rfl,h8⟩
 refine wp_seq<|sg<|lw E (qau rfl rfl) fun a E=>aw E rfl fun a E=>bd hF fun o9 hJ hF=>qaG (Q':=fun e a w=>e = .normal ∧ Ok u m0 (S) w ∧ Env 12 a [(8,vb o9)]) ?_ ?_
 ·have hF:=hJ
  refine cf E rfl hF (fun c10 hF=>?_) fun c10 hF=>?_
  ·refine wp_skip ?_
   cases hF
   exact ⟨rfl,⟨ok,E.keep [8]⟩⟩
  refine qac<|lw E (qau rfl rfl) fun a E=>av E rfl fun a E=>wpList_nil ?_
  cases hF
  exact ⟨rfl,⟨ok,E.keep [8]⟩⟩
 intro e a w hO
 obtain ⟨rfl,ok,E⟩:=hO
 refine qaa<|cg E rfl hF (fun c11 hF=>?_) fun c11 hF=>?_
 ·refine wp_skip<|qal<|qaa<|sg<|aw E rfl fun a E=>wp_ret ?_
  exact fin hF ⟨m0,(.slice none 0 0),le_m0,ok,E.d,rz E rfl,qeO⟩
 refine sg<|qaW (R:=(pI .i64)) (xo:=[.const (vi 10),.const (vi 100)]) (xs:=([10,100]:List (Int))) E ok qaJ qbl rfl ⟨⟨_,rfl,rfl,(qaX (ir 10))⟩,⟨_,rfl,rfl,(qaX (ir 100))⟩,trivial⟩ rfl rfl rfl rfl fun c12 M13 a w E ok h14=>aw E rfl fun a E=>wp_ret<|qaz<|qaq ?_
 obtain ⟨m15,hle,ok,hfz⟩:=(ok.frs 0 rfl).freeze
 have h16:=ORow.froz (mI .i64) h14 hle hfz (by decide)
 have le_m0:=le_m0.trans hle
 exact fin hF ⟨m15,c12,le_m0,ok,E.d,rz E rfl,h16⟩
def qkY (u:World) (m0:Mem) (S:Segs) (r:Int) (a:Act) (w:World):Prop :=
 Ok u m0 S w ∧ a.defers = [] ∧ RVs Tryz.prog a w [.t 2 (.int .i64 r)] ∧ InR .i64 r
theorem qct (N:Nat) (operand_0:Int) (roperand_0:InR .i64 operand_0) {r:Int} (hF:qcW N operand_0 = some r) (hG:Glob u) (ok:Ok u m0 S w) :
  Calls Tryz.prog 103 [vi operand_0].toArray w fun e w'=>(e = .returned (.int .i64 r) ∧ Ok u m0 S w') ∧ InR .i64 r:=by
 unfold qcW at hF
 refine en (qkY u m0 S) r Tryz.func103 rfl rfl rfl (fun _ _ h=>rb h rfl) fun fin a E=>sg<|aw E rfl fun a E=>wp_seq<|sg<|mv E rfl fun a E=>lw E (qau rfl rfl) fun a E=>mv E rfl fun a E=>bu E 5 hF (fun c1 hF E=>?_) fun c1 hF E=>?_
 ·refine lsq E fun a E=>pt E rfl rfl fun a E=>wn<|c_if E rfl (fun _=>?_) (fun h=>by cases h)
  refine sg<|aw E rfl fun a E=>wp_ret<|qaq ?_
  exact fin hF ⟨ok,E.d,rz E rfl,(ir 6)⟩
 refine mv E rfl fun a E=>lw E (qau rfl rfl) fun a E=>pf E rfl rfl fun a E=>wn<|cf E rfl hF (fun c2 hF=>?_) fun c2 hF=>?_
 ·refine sg<|aw E rfl fun a E=>wp_ret<|qaq ?_
  exact fin hF ⟨ok,E.d,rz E rfl,(ir 6)⟩
 refine wp_skip<|qaa<|sg<|aw E rfl fun a E=>wp_ret ?_
 exact fin hF ⟨ok,E.d,rz E rfl,(ir 100)⟩
def qk3 (u:World) (m0:Mem) (S:Segs) (r:Int) (a:Act) (w:World):Prop :=
 Ok u m0 S w ∧ a.defers = [] ∧ RVs Tryz.prog a w [.t 2 (.int .i64 r)] ∧ InR .i64 r
theorem qfl (N:Nat) (s_0:List UInt8) (ls_0:s_0.length ≤ LIMS) {r:Int} (hF:qea N s_0 = some r) (hG:Glob u) (ok:Ok u m0 S w) :
  Calls Tryz.prog 146 [vs s_0].toArray w fun e w'=>(e = .returned (.int .i64 r) ∧ Ok u m0 S w') ∧ InR .i64 r:=by
 unfold qea at hF
 refine en (qk3 u m0 S) r Tryz.func146 rfl rfl rfl (fun _ _ h=>rb h rfl) fun fin a E=>sg<|aw E rfl fun a E=>sg<|aw E rfl fun a E=>wp_seq<|sg<|av E rfl fun a E=>wn<|wp_block<|bd hF fun o3 hL hF=>qaE _ (fun (s:Int × Int) a w=>Ok u m0 (S) w ∧ Env 20 a [(0,vs s_0),(3,vi s.1),(4,vi s.2)] ∧ InR .i64 s.1 ∧ InR .i64 s.2) (fun (b:Int) e a w=>e = (.exit 0) ∧ Ok u m0 (S) w ∧ Env 20 a [(3,vi b)] ∧ InR .i64 b) ?_ ?_ N _ a w hL ⟨ok,E.keep [0,3,4],(ir 0),(ir 0)⟩
 rotate_left
 ·intro e a w _ hO
  obtain ⟨rfl,ok,E,r13⟩:=hO
  refine qaM<|qaa<|sg<|mv E rfl fun a E=>aw E rfl fun a E=>wp_ret ?_
  exact fin hF ⟨ok,E.d,rz E rfl,r13⟩
 rintro ⟨v6,v7⟩ a w r ⟨ok,E,r8,r9⟩ hF
 replace hF:qgi N s_0 v6 v7 = some r:=hF
 unfold qgi at hF
 refine wp_seq<|sg<|mz E rfl rfl fun a E=>lw E (qeZ Tryz.underlying9 rfl) fun a E=>lw E (qav rfl rfl) fun a E=>wn<|cg E rfl hF (fun c10 hF=>?_) fun c10 hF=>?_
 ·refine wp_exit<|qaA ?_
  cases hF
  exact so (⟨rfl,⟨ok,E.keep [3],r8⟩⟩)
 refine wp_skip<|qaa<|wp_seq<|wp_block<|qac<|mv E rfl fun a E=>lw E (qfB rfl rfl) fun a E=>mv E rfl fun a E=>mv E rfl fun a E=>?_
 refine bd hF fun c11 e12 hF=>lv E ok (qc7 Tryz.underlying9 rfl rfl e12) fun a E=>lw E (qhI rfl rfl) fun a E=>lw E (qqV Tryz.underlying5 Tryz.underlying3 rfl (InR.wrap _ _) (by decide)) fun a E=>lw E (qbq rfl rfl) fun a E=>av E rfl fun a E=>wpList_nil<|qal<|qaa<|qac<|mv E rfl fun a E=>lw E (qaw rfl rfl (InR.inc r9 (InR.len ls_0) c10)) fun a E=>av E rfl fun a E=>wpList_nil ?_
 cases hF
 exact qas ⟨ok,E.keep [0,3,4],(InR.wrap _ _),(InR.inc r9 (InR.len ls_0) c10)⟩
def qil (u:World) (m0:Mem) (S:Segs) (pb0:Nat) (x0:Parser) (r:Int × Parser) (a:Act) (w:World):Prop :=
 Ok u m0 ([(pb0,oc 165 [vs r.2.s,vi r.2.to_,vs r.2.w.text,vi r.2.w.at_,vi r.2.at_,vi r.2.e])] :: S) w ∧ a.defers = [] ∧ RVs Tryz.prog a w [.t 2 (.int .i64 r.1)] ∧ InR .i64 r.1 ∧ r.2.s.length ≤ LIMS ∧ InR .i64 r.2.to_ ∧ r.2.w.text.length ≤ LIMS ∧ InR .i64 r.2.w.at_ ∧ InR .i64 r.2.at_ ∧ InR .i64 r.2.e
theorem qdw (N:Nat) {pb0:Nat} (x0:Parser) (l1:x0.s.length ≤ LIMS) (r2:InR .i64 x0.to_) (l3:x0.w.text.length ≤ LIMS) (r4:InR .i64 x0.w.at_) (r5:InR .i64 x0.at_) (r6:InR .i64 x0.e) {r:Int × Parser} (hF:qco N x0 = some r) (hG:Glob u) (ok:Ok u m0 ([(pb0,oc 165 [vs x0.s,vi x0.to_,vs x0.w.text,vi x0.w.at_,vi x0.at_,vi x0.e])] :: S) w) :
  Calls Tryz.prog 143 [vp pb0].toArray w fun e w'=>(e = .returned (.int .i64 r.1) ∧ Ok u m0 ([(pb0,oc 165 [vs r.2.s,vi r.2.to_,vs r.2.w.text,vi r.2.w.at_,vi r.2.at_,vi r.2.e])] :: S) w') ∧ InR .i64 r.1 ∧ r.2.s.length ≤ LIMS ∧ InR .i64 r.2.to_ ∧ r.2.w.text.length ≤ LIMS ∧ InR .i64 r.2.w.at_ ∧ InR .i64 r.2.at_ ∧ InR .i64 r.2.e:=by
 unfold qco at hF
 refine en (qil u m0 S pb0 x0) r Tryz.func143 rfl rfl rfl (by rintro a w ⟨ok,hd,hrv,h0,h1,h2,h3,h4,h5,h6⟩; exact qbG [.t 2 (.int .i64 r.1)] hd rfl hrv ⟨⟨rfl,ok⟩,h0,h1,h2,h3,h4,h5,h6⟩) fun fin a E=>sg<|aw E rfl fun a E=>sg<|mv E rfl fun a E=>lw E (qa6 rfl) fun a E=>fv E qgd rfl fun a E=>fk E ok qkn qfs rfl 0 rfl rfl fun a E=>aw E rfl fun a E=>wp_seq<|sg<|mv E rfl fun a E=>lw E (qk8 rfl rfl) fun a E=>mv E rfl fun a E=>bu E 11 hF (fun c13 hF E=>?_) fun c13 hF E=>?_
 ·refine lsq E fun a E=>ls E fun a E=>pt E rfl rfl fun a E=>mv E rfl fun a E=>lsq E fun a E=>ls E fun a E=>pt E rfl rfl fun a E=>mv E rfl fun a E=>lsq E fun a E=>ls E fun a E=>pt E rfl rfl fun a E=>mv E rfl fun a E=>ls E fun a E=>?_
  refine lsz E fun a E=>lsq E fun a E=>ls E fun a E=>pt E rfl rfl fun a E=>wn<|c_if E rfl (fun _=>?_) (fun h=>by cases h)
  refine sg<|mv E rfl fun a E=>bd hF fun r14 e15 hF=>qan E qeg rfl (qaK N 3 (ir 3) x0 l1 r2 l3 r4 r5 r6 e15 hG ok) rfl rfl ?_
  rintro _ w ⟨⟨rfl,ok⟩,l16,r17,l18,r19,r20,r21⟩
  refine ⟨_,rfl,fun a E=>?_⟩
  refine wn<|sg<|aw E rfl fun a E=>wp_ret<|qaq ?_
  exact fin hF ⟨ok,E.d,rz E rfl,(ir 0),l16,r17,l18,r19,r20,r21⟩
 refine mv E rfl fun a E=>bd hF fun c22 e23 hF=>lv E ok (qc7 Tryz.underlying9 rfl rfl e23) fun a E=>lw E (qav rfl rfl) fun a E=>pf E rfl rfl fun a E=>mv E rfl fun a E=>bu E 16 hF (fun c24 hF E=>?_) fun c24 hF E=>?_
 ·refine lsq E fun a E=>ls E fun a E=>pt E rfl rfl fun a E=>mv E rfl fun a E=>lsq E fun a E=>ls E fun a E=>pt E rfl rfl fun a E=>mv E rfl fun a E=>lsz E fun a E=>lsq E fun a E=>?_
  refine lsq E fun a E=>pt E rfl rfl fun a E=>wn<|c_if E rfl (fun _=>?_) (fun h=>by cases h)
  refine sg<|mv E rfl fun a E=>bd hF fun r25 e26 hF=>qan E qeg rfl (qaK N 3 (ir 3) x0 l1 r2 l3 r4 r5 r6 e26 hG ok) rfl rfl ?_
  rintro _ w ⟨⟨rfl,ok⟩,l27,r28,l29,r30,r31,r32⟩
  refine ⟨_,rfl,fun a E=>?_⟩
  refine wn<|sg<|aw E rfl fun a E=>wp_ret<|qaq ?_
  exact fin hF ⟨ok,E.d,rz E rfl,(ir 0),l27,r28,l29,r30,r31,r32⟩
 refine mv E rfl fun a E=>bd hF fun c33 e34 hF=>lv E ok (qc7 Tryz.underlying9 rfl rfl e34) fun a E=>lw E (qb1 rfl rfl) fun a E=>pf E rfl rfl fun a E=>mv E rfl fun a E=>bu E 21 hF (fun c35 hF E=>?_) fun c35 hF E=>?_
 ·refine lsq E fun a E=>ls E fun a E=>pt E rfl rfl fun a E=>mv E rfl fun a E=>lsz E fun a E=>lsz E fun a E=>pt E rfl rfl fun a E=>wn<|c_if E rfl (fun _=>?_) (fun h=>by cases h)
  refine sg<|mv E rfl fun a E=>bd hF fun r36 e37 hF=>qan E qeg rfl (qaK N 3 (ir 3) x0 l1 r2 l3 r4 r5 r6 e37 hG ok) rfl rfl ?_
  rintro _ w ⟨⟨rfl,ok⟩,l38,r39,l40,r41,r42,r43⟩
  refine ⟨_,rfl,fun a E=>?_⟩
  refine wn<|sg<|aw E rfl fun a E=>wp_ret<|qaq ?_
  exact fin hF ⟨ok,E.d,rz E rfl,(ir 0),l38,r39,l40,r41,r42,r43⟩
 refine mv E rfl fun a E=>lw E (qeZ Tryz.underlying9 rfl) fun a E=>lw E (qb1 rfl rfl) fun a E=>pf E rfl rfl fun a E=>mv E rfl fun a E=>bu E 26 hF (fun c44 hF E=>?_) fun c44 hF E=>?_
 ·refine lsz E fun a E=>lsz E fun a E=>pt E rfl rfl fun a E=>wn<|c_if E rfl (fun _=>?_) (fun h=>by cases h)
  refine sg<|mv E rfl fun a E=>bd hF fun r45 e46 hF=>qan E qeg rfl (qaK N 3 (ir 3) x0 l1 r2 l3 r4 r5 r6 e46 hG ok) rfl rfl ?_
  rintro _ w ⟨⟨rfl,ok⟩,l47,r48,l49,r50,r51,r52⟩
  refine ⟨_,rfl,fun a E=>?_⟩
  refine wn<|sg<|aw E rfl fun a E=>wp_ret<|qaq ?_
  exact fin hF ⟨ok,E.d,rz E rfl,(ir 0),l47,r48,l49,r50,r51,r52⟩
 refine mv E rfl fun a E=>lw E (qeZ Tryz.underlying9 rfl) fun a E=>lw E (qb1 rfl rfl) fun a E=>mv E rfl fun a E=>bw E 30 hF (fun c53 hF E=>?_) fun c53 hF E=>?_
 ·refine lsq E fun a E=>ls E fun a E=>pf E rfl rfl fun a E=>pf E rfl rfl fun a E=>wn<|c_if E rfl (fun h=>by cases h) (fun _=>?_)
  refine wp_skip<|qaa<|sg<|mv E rfl fun a E=>bd hF fun r68 e69 hF=>qan E qmq rfl (qfl N x0.w.text l3 e69 hG ok) rfl rfl ?_
  rintro _ w ⟨⟨rfl,ok⟩,r70⟩
  refine ⟨_,rfl,fun a E=>?_⟩
  refine aw E rfl fun a E=>wp_ret ?_
  exact fin hF ⟨ok,E.d,rz E rfl,r70,l1,r2,l3,r4,r5,r6⟩
 refine mv E rfl fun a E=>bd hF fun c54 e55 hF=>lv E ok (qc7 Tryz.underlying9 rfl rfl e55) fun a E=>lw E (qau rfl rfl) fun a E=>pt E rfl rfl fun a E=>pf E rfl rfl fun a E=>wn<|cg E rfl hF (fun c56 hF=>?_) fun c56 hF=>?_
 ·refine wp_skip<|qaa<|sg<|mv E rfl fun a E=>bd hF fun r65 e66 hF=>qan E qmq rfl (qfl N x0.w.text l3 e66 hG ok) rfl rfl ?_
  rintro _ w ⟨⟨rfl,ok⟩,r67⟩
  refine ⟨_,rfl,fun a E=>?_⟩
  refine aw E rfl fun a E=>wp_ret ?_
  exact fin hF ⟨ok,E.d,rz E rfl,r67,l1,r2,l3,r4,r5,r6⟩
 refine sg<|mv E rfl fun a E=>bd hF fun r57 e58 hF=>qan E qeg rfl (qaK N 3 (ir 3) x0 l1 r2 l3 r4 r5 r6 e58 hG ok) rfl rfl ?_
 rintro _ w ⟨⟨rfl,ok⟩,l59,r60,l61,r62,r63,r64⟩
 refine ⟨_,rfl,fun a E=>?_⟩
 refine wn<|sg<|aw E rfl fun a E=>wp_ret<|qaq ?_
 exact fin hF ⟨ok,E.d,rz E rfl,(ir 0),l59,r60,l61,r62,r63,r64⟩
def qiG (u:World) (m0:Mem) (S:Segs) (pb0:Nat) (x0:Parser) (r:Span × Parser) (a:Act) (w:World):Prop :=
 ∃ m1 v0,m0.le m1 ∧ Ok u m1 ([(pb0,oc 165 [vs r.2.s,vi r.2.to_,vs r.2.w.text,vi r.2.w.at_,vi r.2.at_,vi r.2.e])] :: S) w ∧ a.defers = [] ∧ RVs Tryz.prog a w [.c 4 126 (.agg v0.toArray)] ∧ qdI m1 v0 r.1 ∧ r.2.s.length ≤ LIMS ∧ InR .i64 r.2.to_ ∧ r.2.w.text.length ≤ LIMS ∧ InR .i64 r.2.w.at_ ∧ InR .i64 r.2.at_ ∧ InR .i64 r.2.e
theorem qdZ (N:Nat) (operand_1:Int) (roperand_1:InR .i64 operand_1) {pb0:Nat} (x0:Parser) (l1:x0.s.length ≤ LIMS) (r2:InR .i64 x0.to_) (l3:x0.w.text.length ≤ LIMS) (r4:InR .i64 x0.w.at_) (r5:InR .i64 x0.at_) (r6:InR .i64 x0.e) {r:Span × Parser} (hF:qcI N operand_1 x0 = some r) (hG:Glob u) (ok:Ok u m0 ([(pb0,oc 165 [vs x0.s,vi x0.to_,vs x0.w.text,vi x0.w.at_,vi x0.at_,vi x0.e])] :: S) w) :
  Calls Tryz.prog 144 [vp pb0,vi operand_1].toArray w fun e w'=>∃ m1 v0,e = .returned (.agg v0.toArray) ∧ m0.le m1 ∧ Ok u m1 ([(pb0,oc 165 [vs r.2.s,vi r.2.to_,vs r.2.w.text,vi r.2.w.at_,vi r.2.at_,vi r.2.e])] :: S) w' ∧ qdI m1 v0 r.1 ∧ r.2.s.length ≤ LIMS ∧ InR .i64 r.2.to_ ∧ r.2.w.text.length ≤ LIMS ∧ InR .i64 r.2.w.at_ ∧ InR .i64 r.2.at_ ∧ InR .i64 r.2.e:=by
 have le_m0:=Mem.le.refl m0
 unfold qcI at hF
 refine en (qiG u m0 S pb0 x0) r Tryz.func144 rfl rfl rfl (by rintro a w ⟨m1,v0,hle,ok,hd,hrv,h0,h1,h2,h3,h4,h5,h6⟩; exact qbG [.c 4 126 (.agg v0.toArray)] hd rfl hrv ⟨m1,v0,rfl,hle,ok,h0,h1,h2,h3,h4,h5,h6⟩) fun fin a E=>sg<|qax E ok qdd rfl rfl fun b13 a w E ok=>wn<|sg<|mv E rfl fun a E=>?_
 obtain ⟨r14,e15,hF⟩:=bnd hF
 replace ok:Ok u m0 ([(pb0,oc 165 [vs x0.s,vi x0.to_,vs x0.w.text,vi x0.w.at_,vi x0.at_,vi x0.e])] :: [(b13,oc 126 [vi 0,vi 0])] :: S) w:=(ok.pk 2 [1,0] rfl (by decide))
 refine qan E qmC rfl (qdw N x0 l1 r2 l3 r4 r5 r6 e15 hG ok) rfl rfl ?_
 rintro _ w ⟨⟨rfl,ok⟩,r16,l17,r18,l19,r20,r21,r22⟩
 refine ⟨_,rfl,fun a E=>?_⟩
 refine lw E (qaF (ps:=[(0,.tmp 7)]) (qs:=[(0,[vi r14.1])]) (cs:=[vi r14.1,vi 0]) qdd qoQ rfl ⟨rfl,rfl,rfl,trivial⟩ rfl) fun a E=>qax E ok qdd rfl rfl fun b23 a w E ok=>qad E ok 0 rfl rfl rfl qfW rfl rfl ⟨rfl,rfl,trivial⟩ rfl rfl fun w ok=>wn<|wp_seq<|wp_seq<|qdc (by kernel_rfl) (by kernel_rfl) ok<|qv E (qae qeS rfl) fun a E=>qv E (qaj qak rfl (qab.own 0 rfl rfl)) fun a E=>qv E (qah rfl) fun a E=>?_
 obtain ⟨r24,e25,hF⟩:=bnd hF
 obtain ⟨_,_,⟨_,_⟩,r26⟩:=Go.X.Calls.get (qct N operand_1 roperand_1 e25 hG ok)
 refine qgn E qll rfl (fun w ok=>(qct N operand_1 roperand_1 e25 hG ok).mono (fun _ _ h=>h.1)) rfl rfl fun a E=>qv E (qb1 rfl rfl) fun a E=>wpQuiet_nil ?_
 intro w ok
 refine qaa<|bd hF fun o27 hJ hF=>qaG (Q':=fun e a w=>e = .normal ∧ Ok u m0 ([(b23,oc 126 [vi r14.1,vi 0])] :: [(pb0,oc 165 [vs o27.s,vi o27.to_,vs o27.w.text,vi o27.w.at_,vi o27.at_,vi o27.e])] :: [(b13,oc 126 [vi 0,vi 0])] :: S) w ∧ Env 45 a [(0,vp pb0),(1,vi operand_1),(4,vp b13),(5,vp b23)] ∧ o27.s.length ≤ LIMS ∧ InR .i64 o27.to_ ∧ o27.w.text.length ≤ LIMS ∧ InR .i64 o27.w.at_ ∧ InR .i64 o27.at_ ∧ InR .i64 o27.e) ?_ ?_
 ·have hF:=hJ
  refine cg E rfl hF (fun c34 hF=>?_) fun c34 hF=>?_
  ·refine wp_skip ?_
   cases hF
   exact ⟨rfl,⟨ok,E.keep [0,1,4,5],l17,r18,l19,r20,r21,r22⟩⟩
  refine qac<|mv E rfl fun a E=>?_
  obtain ⟨r35,e36,hF⟩:=bnd hF
  replace ok:Ok u m0 ([(pb0,oc 165 [vs r14.2.s,vi r14.2.to_,vs r14.2.w.text,vi r14.2.w.at_,vi r14.2.at_,vi r14.2.e])] :: [(b23,oc 126 [vi r14.1,vi 0])] :: [(b13,oc 126 [vi 0,vi 0])] :: S) w:=(ok.pk 3 [1,0,2] rfl (by decide))
  refine qan E qeg rfl (qaK N 2 (ir 2) r14.2 l17 r18 l19 r20 r21 r22 e36 hG ok) rfl rfl ?_
  rintro _ w ⟨⟨rfl,ok⟩,l37,r38,l39,r40,r41,r42⟩
  refine ⟨_,rfl,fun a E=>?_⟩
  refine wpList_nil ?_
  cases hF
  exact ⟨rfl,⟨(ok.pk 3 [1,0,2] rfl (by decide)),E.keep [0,1,4,5],l37,r38,l39,r40,r41,r42⟩⟩
 intro e a w hO
 obtain ⟨rfl,ok,E,l43,r44,l45,r46,r47,r48⟩:=hO
 refine qaa<|sg<|mv E rfl fun a E=>?_
 obtain ⟨r49,e50,hF⟩:=bnd hF
 replace ok:Ok u m0 ([(pb0,oc 165 [vs o27.s,vi o27.to_,vs o27.w.text,vi o27.w.at_,vi o27.at_,vi o27.e])] :: [(b23,oc 126 [vi r14.1,vi 0])] :: [(b13,oc 126 [vi 0,vi 0])] :: S) w:=(ok.pk 3 [1,0,2] rfl (by decide))
 refine qan E qdp rfl (qaC N o27 l43 r44 l45 r46 r47 r48 e50 hG ok) rfl rfl ?_
 rintro _ w ⟨⟨rfl,ok⟩,l51,r52,l53,r54,r55,r56⟩
 refine ⟨_,rfl,fun a E=>?_⟩
 refine wn<|sg<|fk E ok qeS qak rfl 1 rfl rfl fun a E=>fv E qdK rfl fun a E=>qad E ok 1 rfl rfl rfl qaZ rfl rfl ⟨rfl,trivial⟩ rfl rfl fun w ok=>wn<|wp_seq<|sg<|mv E rfl fun a E=>bd hF fun r57 e58 hF=>lc E qel rfl (qaP N ([46,46]) (show ([46,46]:List UInt8).length ≤ LIMS by decide) r49 l51 r52 l53 r54 r55 r56 e58 hG ok) fun w ok a E=>wn<|cg E rfl hF (fun c59 hF=>?_) fun c59 hF=>?_
 ·refine wp_skip<|qaa<|sg<|lv E ok (qag (cs:=[vi r14.1,vi r14.1]) qeQ rfl rfl (qab.own 1 rfl rfl)) fun a E=>qad E ok 2 rfl rfl rfl qfW rfl rfl ⟨rfl,rfl,trivial⟩ rfl rfl fun w ok=>wn<|wp_ret ?_
  exact fin hF ⟨m0,[vi r14.1,vi r14.1],le_m0,(ok.pk 3 [0] rfl (by decide)),E.d,⟨rv_c (cs:=[vi r14.1,vi r14.1]) E ok rfl qeQ rfl (qab.own 2 rfl rfl),trivial⟩,⟨rfl,r16,r16⟩,l51,r52,l53,r54,r55,r56⟩
 refine sg<|mv E rfl fun a E=>bd hF fun r60 e61 hF=>qan E qdp rfl (qaC N r49 l51 r52 l53 r54 r55 r56 e61 hG ok) rfl rfl ?_
 rintro _ w ⟨⟨rfl,ok⟩,l62,r63,l64,r65,r66,r67⟩
 refine ⟨_,rfl,fun a E=>?_⟩
 refine wn<|sg<|mv E rfl fun a E=>bd hF fun r68 e69 hF=>qan E qmC rfl (qdw N r60 l62 r63 l64 r65 r66 r67 e69 hG ok) rfl rfl ?_
 rintro _ w ⟨⟨rfl,ok⟩,r70,l71,r72,l73,r74,r75,r76⟩
 refine ⟨_,rfl,fun a E=>?_⟩
 refine fv E qdK rfl fun a E=>qad E ok 1 rfl rfl rfl qaZ rfl rfl ⟨rfl,trivial⟩ rfl rfl fun w ok=>wn<|wp_seq<|wp_seq<|qdc (by kernel_rfl) (by kernel_rfl) ok<|qv E (qae qdK rfl) fun a E=>qv E (qaj qak rfl (qab.own 1 rfl rfl)) fun a E=>qv E (qah rfl) fun a E=>?_
 obtain ⟨r77,e78,hF⟩:=bnd hF
 obtain ⟨_,_,⟨_,_⟩,r79⟩:=Go.X.Calls.get (qct N operand_1 roperand_1 e78 hG ok)
 refine qgn E qll rfl (fun w ok=>(qct N operand_1 roperand_1 e78 hG ok).mono (fun _ _ h=>h.1)) rfl rfl fun a E=>qv E (qb1 rfl rfl) fun a E=>qv E (qah rfl) fun a E=>bu E 33 hF (fun c80 hF E=>?_) fun c80 hF E=>?_
 ·refine qs E fun a E=>qs E fun a E=>qs E fun a E=>qs E fun a E=>qs E fun a E=>qv E (qa8 rfl rfl) fun a E=>wpQuiet_nil ?_
  intro w ok
  refine qaa<|c_if E rfl (fun _=>?_) (fun h=>by cases h)
  refine qac<|mv E rfl fun a E=>bd hF fun r81 e82 hF=>qan E qeg rfl (qaK N 2 (ir 2) r68.2 l71 r72 l73 r74 r75 r76 e82 hG ok) rfl rfl ?_
  rintro _ w ⟨⟨rfl,ok⟩,l83,r84,l85,r86,r87,r88⟩
  refine ⟨_,rfl,fun a E=>?_⟩
  refine wn<|qac<|mv E rfl fun a E=>bd hF fun r89 e90 hF=>qan E qdp rfl (qaC N r81 l83 r84 l85 r86 r87 r88 e90 hG ok) rfl rfl ?_
  rintro _ w ⟨⟨rfl,ok⟩,l91,r92,l93,r94,r95,r96⟩
  refine ⟨_,rfl,fun a E=>?_⟩
  refine wn<|sg<|lv E ok (qag (cs:=[vi r14.1,vi r68.1]) qeQ rfl rfl (qab.own 1 rfl rfl)) fun a E=>qad E ok 2 rfl rfl rfl qfW rfl rfl ⟨rfl,rfl,trivial⟩ rfl rfl fun w ok=>wn<|wp_ret ?_
  exact fin hF ⟨m0,[vi r14.1,vi r68.1],le_m0,(ok.pk 3 [0] rfl (by decide)),E.d,⟨rv_c (cs:=[vi r14.1,vi r68.1]) E ok rfl qeQ rfl (qab.own 2 rfl rfl),trivial⟩,⟨rfl,r16,r70⟩,l91,r92,l93,r94,r95,r96⟩
 refine qv E (qae qdK rfl) fun a E=>qv E (qaj qak rfl (qab.own 1 rfl rfl)) fun a E=>qv E (qae qeS rfl) fun a E=>qv E (qaj qak rfl (qab.own 1 rfl rfl)) fun a E=>qv E (qav rfl rfl) fun a E=>qv E (qa1 rfl rfl) fun a E=>wpQuiet_nil ?_
 intro w ok
 refine qaa<|cg E rfl hF (fun c97 hF=>?_) fun c97 hF=>?_
 ·refine wp_skip<|qaa<|qac<|mv E rfl fun a E=>bd hF fun r114 e115 hF=>qan E qdp rfl (qaC N r68.2 l71 r72 l73 r74 r75 r76 e115 hG ok) rfl rfl ?_
  rintro _ w ⟨⟨rfl,ok⟩,l116,r117,l118,r119,r120,r121⟩
  refine ⟨_,rfl,fun a E=>?_⟩
  refine wn<|sg<|lv E ok (qag (cs:=[vi r14.1,vi r68.1]) qeQ rfl rfl (qab.own 1 rfl rfl)) fun a E=>qad E ok 2 rfl rfl rfl qfW rfl rfl ⟨rfl,rfl,trivial⟩ rfl rfl fun w ok=>wn<|wp_ret ?_
  exact fin hF ⟨m0,[vi r14.1,vi r68.1],le_m0,(ok.pk 3 [0] rfl (by decide)),E.d,⟨rv_c (cs:=[vi r14.1,vi r68.1]) E ok rfl qeQ rfl (qab.own 2 rfl rfl),trivial⟩,⟨rfl,r16,r70⟩,l116,r117,l118,r119,r120,r121⟩
 refine qac<|mv E rfl fun a E=>bd hF fun r98 e99 hF=>qan E qeg rfl (qaK N 2 (ir 2) r68.2 l71 r72 l73 r74 r75 r76 e99 hG ok) rfl rfl ?_
 rintro _ w ⟨⟨rfl,ok⟩,l100,r101,l102,r103,r104,r105⟩
 refine ⟨_,rfl,fun a E=>?_⟩
 refine wn<|qac<|mv E rfl fun a E=>bd hF fun r106 e107 hF=>qan E qdp rfl (qaC N r98 l100 r101 l102 r103 r104 r105 e107 hG ok) rfl rfl ?_
 rintro _ w ⟨⟨rfl,ok⟩,l108,r109,l110,r111,r112,r113⟩
 refine ⟨_,rfl,fun a E=>?_⟩
 refine wn<|sg<|lv E ok (qag (cs:=[vi r14.1,vi r68.1]) qeQ rfl rfl (qab.own 1 rfl rfl)) fun a E=>qad E ok 2 rfl rfl rfl qfW rfl rfl ⟨rfl,rfl,trivial⟩ rfl rfl fun w ok=>wn<|wp_ret ?_
 exact fin hF ⟨m0,[vi r14.1,vi r68.1],le_m0,(ok.pk 3 [0] rfl (by decide)),E.d,⟨rv_c (cs:=[vi r14.1,vi r68.1]) E ok rfl qeQ rfl (qab.own 2 rfl rfl),trivial⟩,⟨rfl,r16,r70⟩,l108,r109,l110,r111,r112,r113⟩
def qiw (u:World) (m0:Mem) (S:Segs) (pb0:Nat) (x0:Parser) (r:Bool) (a:Act) (w:World):Prop :=
 Ok u m0 ([(pb0,oc 165 [vs x0.s,vi x0.to_,vs x0.w.text,vi x0.w.at_,vi x0.at_,vi x0.e])] :: S) w ∧ a.defers = [] ∧ RVs Tryz.prog a w [.t 2 (.bool r)]
theorem qdH (N:Nat) {pb0:Nat} (x0:Parser) (l1:x0.s.length ≤ LIMS) (r2:InR .i64 x0.to_) (l3:x0.w.text.length ≤ LIMS) (r4:InR .i64 x0.w.at_) (r5:InR .i64 x0.at_) (r6:InR .i64 x0.e) {r:Bool} (hF:qd8 N x0 = some r) (hG:Glob u) (ok:Ok u m0 ([(pb0,oc 165 [vs x0.s,vi x0.to_,vs x0.w.text,vi x0.w.at_,vi x0.at_,vi x0.e])] :: S) w) :
  Calls Tryz.prog 145 [vp pb0].toArray w fun e w'=>(e = .returned (.bool r) ∧ Ok u m0 ([(pb0,oc 165 [vs x0.s,vi x0.to_,vs x0.w.text,vi x0.w.at_,vi x0.at_,vi x0.e])] :: S) w'):=by
 have le_m0:=Mem.le.refl m0
 unfold qd8 at hF
 refine en (qiw u m0 S pb0 x0) r Tryz.func145 rfl rfl rfl (fun _ _ h=>ra h rfl) fun fin a E=>sg<|aw E rfl fun a E=>wp_seq<|bd hF fun o7 hJ hF=>qaG (Q':=fun e a w=>e = .normal ∧ ∃ b14,Ok u m0 ([(b14,oc 165 [vs o7.s,vi o7.to_,vs o7.w.text,vi o7.w.at_,vi o7.at_,vi o7.e])] :: [(pb0,oc 165 [vs x0.s,vi x0.to_,vs x0.w.text,vi x0.w.at_,vi x0.at_,vi x0.e])] :: S) w ∧ Env 17 a [(3,vp b14)] ∧ o7.s.length ≤ LIMS ∧ InR .i64 o7.to_ ∧ o7.w.text.length ≤ LIMS ∧ InR .i64 o7.w.at_ ∧ InR .i64 o7.at_ ∧ InR .i64 o7.e) ?_ ?_
 rotate_left
 ·intro e a w hO
  obtain ⟨rfl,b23,ok,E,l17,r18,l19,r20,r21,r22⟩:=hO
  refine qaa<|sg<|bd hF fun r24 e25 hF=>qan E qmC rfl (qdw N o7 l17 r18 l19 r20 r21 r22 e25 hG ok) rfl rfl ?_
  rintro _ w ⟨⟨rfl,ok⟩,r26,l27,r28,l29,r30,r31,r32⟩
  refine ⟨_,rfl,fun a E=>?_⟩
  refine wn<|sg<|fk E ok qhe qj7 rfl 0 rfl rfl fun a E=>lw E (qau rfl rfl) fun a E=>av E rfl fun a E=>wn<|wp_ret ?_
  exact fin hF ⟨ok.drop,E.d,rz E rfl⟩
 have hF:=hJ
 cases hF
 refine qaY [] (Cls u m0 ([(pb0,oc 165 [vs x0.s,vi x0.to_,vs x0.w.text,vi x0.w.at_,vi x0.at_,vi x0.e])] :: [])) (Cls u m0 ([(pb0,oc 165 [vs x0.s,vi x0.to_,vs x0.w.text,vi x0.w.at_,vi x0.at_,vi x0.e])] :: [])) (by kernel_rfl) ?_
 intro w hw
 replace ok:=qbd ok hw
 clear hw
 refine qai (cl1 (cq le_m0 ok [0] rfl) (cq le_m0 ok [0] rfl)) fun hT=>kt 0 E rfl hT (qah rfl) fun a E=>kt 1 E rfl hT (qa6 rfl) fun a E=>kt 2 E rfl hT (qae qnX rfl) fun a E=>kt 3 E rfl hT (qaj qfs rfl (qab.cown 0 rfl rfl)) fun a E=>kt 4 E rfl hT (qah rfl) fun a E=>kt 5 E rfl hT (qa6 rfl) fun a E=>kt 6 E rfl hT (qae qgd rfl) fun a E=>kt 7 E rfl hT (qag (cs:=[vs x0.w.text,vi x0.w.at_]) qmK rfl rfl (qab.cown 0 rfl rfl)) fun a E=>kt 8 E rfl hT (qaF (ps:=[(0,.tmp 7),(2,.tmp 11)]) (qs:=[(0,[vs x0.s]),(2,[vs x0.w.text,vi x0.w.at_])]) (cs:=[vs x0.s,vi 0,vs x0.w.text,vi x0.w.at_,vi 0,vi 0]) qlY qmH rfl ⟨rfl,rfl,rfl,⟨rfl,rfl,rfl,trivial⟩⟩ rfl) fun a E=>qao [9] (by kernel_rfl) rfl (qar ?_)
 ·refine wo rfl<|qax E ok qlY rfl rfl fun b16 a w E ok=>wn<|qai (cl1 (cq le_m0 ok [1] rfl) (cq le_m0 ok [1] rfl)) fun hT=>qao [10] (by kernel_rfl) rfl (qar ?_)
  ·refine wo rfl<|qad E ok 0 rfl rfl rfl qqO rfl rfl ⟨rfl,rfl,rfl,rfl,rfl,rfl,trivial⟩ rfl rfl fun w ok=>wn<|qai (cl1 (cq le_m0 ok [1] rfl) (cq le_m0 ok [1] rfl)) fun hT=>qaV (by kernel_rfl) ?_
   exact ⟨rfl,⟨b16,ok,E.keep [3],l1,(ir 0),l3,r4,(ir 0),(ir 0)⟩⟩
def qhO (u:World) (m0:Mem) (S:Segs) (pb0:Nat) (x0:Parser) (r:Relation × Parser) (a:Act) (w:World):Prop :=
 ∃ m1 v0,m0.le m1 ∧ Ok u m1 ([(pb0,oc 165 [vs r.2.s,vi r.2.to_,vs r.2.w.text,vi r.2.w.at_,vi r.2.at_,vi r.2.e])] :: S) w ∧ a.defers = [] ∧ RVs Tryz.prog a w [.c 2 69 (.agg v0.toArray)] ∧ qap m1 v0 r.1 ∧ r.2.s.length ≤ LIMS ∧ InR .i64 r.2.to_ ∧ r.2.w.text.length ≤ LIMS ∧ InR .i64 r.2.w.at_ ∧ InR .i64 r.2.at_ ∧ InR .i64 r.2.e
theorem qfP (N:Nat) {pb0:Nat} (x0:Parser) (l1:x0.s.length ≤ LIMS) (r2:InR .i64 x0.to_) (l3:x0.w.text.length ≤ LIMS) (r4:InR .i64 x0.w.at_) (r5:InR .i64 x0.at_) (r6:InR .i64 x0.e) {r:Relation × Parser} (hF:qdx N x0 = some r) (hG:Glob u) (ok:Ok u m0 ([(pb0,oc 165 [vs x0.s,vi x0.to_,vs x0.w.text,vi x0.w.at_,vi x0.at_,vi x0.e])] :: S) w) :
  Calls Tryz.prog 114 [vp pb0].toArray w fun e w'=>∃ m1 v0,e = .returned (.agg v0.toArray) ∧ m0.le m1 ∧ Ok u m1 ([(pb0,oc 165 [vs r.2.s,vi r.2.to_,vs r.2.w.text,vi r.2.w.at_,vi r.2.at_,vi r.2.e])] :: S) w' ∧ qap m1 v0 r.1 ∧ r.2.s.length ≤ LIMS ∧ InR .i64 r.2.to_ ∧ r.2.w.text.length ≤ LIMS ∧ InR .i64 r.2.w.at_ ∧ InR .i64 r.2.at_ ∧ InR .i64 r.2.e:=by
 have le_m0:=Mem.le.refl m0
 unfold qdx at hF
 refine en (qhO u m0 S pb0 x0) r Tryz.func114 rfl rfl rfl (by rintro a w ⟨m1,v0,hle,ok,hd,hrv,h0,h1,h2,h3,h4,h5,h6⟩; exact qbG [.c 2 69 (.agg v0.toArray)] hd rfl hrv ⟨m1,v0,rfl,hle,ok,h0,h1,h2,h3,h4,h5,h6⟩) fun fin a E=>sg<|qax E ok qcU rfl rfl fun b13 a w E ok=>wn<|sg<|qax E ok qcU rfl rfl fun b14 a w E ok=>wn<|wp_seq<|sg<|av E rfl fun a E=>wn<|wp_block<|bd hF fun o19 hL hF=>qaE _ (fun (s:Int × Relation) a w=>Ok u m0 ([(b14,oc 69 [vi s.2.Operand,vi s.2.Mod,vb s.2.Not,(Value.slice none 0 0)])] :: [(b13,oc 69 [vi 0,vi 0,vb false,(Value.slice none 0 0)])] :: [(pb0,oc 165 [vs x0.s,vi x0.to_,vs x0.w.text,vi x0.w.at_,vi x0.at_,vi x0.e])] :: S) w ∧ Env 103 a [(0,vp pb0),(2,vp b13),(3,vp b14),(4,vi s.1)] ∧ InR .i64 s.1 ∧ InR .i64 s.2.Operand ∧ InR .i64 s.2.Mod) (fun (b:Relation) e a w=>e = (.exit 0) ∧ Ok u m0 ([(b14,oc 69 [vi b.Operand,vi b.Mod,vb b.Not,(Value.slice none 0 0)])] :: [(b13,oc 69 [vi 0,vi 0,vb false,(Value.slice none 0 0)])] :: [(pb0,oc 165 [vs x0.s,vi x0.to_,vs x0.w.text,vi x0.w.at_,vi x0.at_,vi x0.e])] :: S) w ∧ Env 103 a [(0,vp pb0),(2,vp b13),(3,vp b14)] ∧ InR .i64 b.Operand ∧ InR .i64 b.Mod) ?_ ?_ N _ a w hL ⟨ok,E.keep [0,2,3,4],(ir 0),(ir 0),(ir 0)⟩
 ·rintro ⟨v23,v24⟩ a w r ⟨ok,E,r25,r26,r27⟩ hF
  replace hF:qd7 N x0 v23 v24 = some r:=hF
  unfold qd7 at hF
  refine wp_seq<|sg<|mv E rfl fun a E=>lw E (qav rfl rfl) fun a E=>wn<|cg E rfl hF (fun c28 hF=>?_) fun c28 hF=>?_
  ·refine wp_exit<|qaA ?_
   cases hF
   exact so (⟨rfl,⟨ok,E.keep [0,2,3],r26,r27⟩⟩)
  refine wp_skip<|qaa<|wp_seq<|wp_block<|sg<|mz E rfl rfl fun a E=>mv E rfl fun a E=>lw E (qaw rfl rfl (InR.inc r25 (ir 6) c28)) fun a E=>bd hF fun s29 e30 hF=>lw E (qhl Tryz.underlying9 e30 rfl ⟨_,rfl⟩ ⟨_,rfl⟩) fun a E=>?_
  obtain ⟨r31,e32,hF⟩:=bnd hF
  replace ok:Ok u m0 ([(pb0,oc 165 [vs x0.s,vi x0.to_,vs x0.w.text,vi x0.w.at_,vi x0.at_,vi x0.e])] :: [(b14,oc 69 [vi v24.Operand,vi v24.Mod,vb v24.Not,(Value.slice none 0 0)])] :: [(b13,oc 69 [vi 0,vi 0,vb false,(Value.slice none 0 0)])] :: S) w:=(ok.pk 3 [2,0,1] rfl (by decide))
  refine lc E qel rfl (qaP N s29 (Nat.le_trans (qjY e30) (show ([110,105,118,119,102,116]:List UInt8).length ≤ LIMS by decide)) x0 l1 r2 l3 r4 r5 r6 e32 hG ok) fun w ok a E=>wn<|cg E rfl hF (fun c33 hF=>?_) fun c33 hF=>?_
  ·refine wp_skip<|qal<|qaa<|qac<|mv E rfl fun a E=>lw E (qaw rfl rfl (InR.inc r25 (ir 6) c28)) fun a E=>av E rfl fun a E=>wpList_nil ?_
   cases hF
   exact qas ⟨(ok.pk 3 [1,2,0] rfl (by decide)),E.keep [0,2,3,4],(InR.inc r25 (ir 6) c28),r26,r27⟩
  refine qac<|mv E rfl fun a E=>lw E (qaw rfl rfl (InR.inc r25 (ir 6) c28)) fun a E=>fv E qa2 rfl fun a E=>qad E ok 1 rfl rfl rfl qaZ rfl rfl ⟨rfl,trivial⟩ rfl rfl fun w ok=>wpList_nil<|qal<|qaa<|qac<|mv E rfl fun a E=>lw E (qaw rfl rfl (InR.inc r25 (ir 6) c28)) fun a E=>av E rfl fun a E=>wpList_nil ?_
  cases hF
  exact qas ⟨(ok.pk 3 [1,2,0] rfl (by decide)),E.keep [0,2,3,4],(InR.inc r25 (ir 6) c28),(InR.inc r25 (ir 6) c28),r27⟩
 intro e a w _ hO
 obtain ⟨rfl,ok,E,r34,r35⟩:=hO
 refine qaM<|qaa<|wp_seq<|sg<|fk E ok qa2 qak rfl 0 rfl rfl fun a E=>lw E (qau rfl rfl) fun a E=>wn<|bd hF fun o36 hJ hF=>qaG (Q':=fun e a w=>e = .normal ∧ Ok u m0 ([(b14,oc 69 [vi o19.Operand,vi o19.Mod,vb o19.Not,(Value.slice none 0 0)])] :: [(b13,oc 69 [vi 0,vi 0,vb false,(Value.slice none 0 0)])] :: [(pb0,oc 165 [vs o36.s,vi o36.to_,vs o36.w.text,vi o36.w.at_,vi o36.at_,vi o36.e])] :: S) w ∧ Env 103 a [(0,vp pb0),(2,vp b13),(3,vp b14)] ∧ o36.s.length ≤ LIMS ∧ InR .i64 o36.to_ ∧ o36.w.text.length ≤ LIMS ∧ InR .i64 o36.w.at_ ∧ InR .i64 o36.at_ ∧ InR .i64 o36.e) ?_ ?_
 ·have hF:=hJ
  refine cg E rfl hF (fun c43 hF=>?_) fun c43 hF=>?_
  ·refine wp_skip ?_
   cases hF
   exact ⟨rfl,⟨ok,E.keep [0,2,3],l1,r2,l3,r4,r5,r6⟩⟩
  refine qac<|mv E rfl fun a E=>?_
  obtain ⟨r44,e45,hF⟩:=bnd hF
  replace ok:Ok u m0 ([(pb0,oc 165 [vs x0.s,vi x0.to_,vs x0.w.text,vi x0.w.at_,vi x0.at_,vi x0.e])] :: [(b14,oc 69 [vi o19.Operand,vi o19.Mod,vb o19.Not,(Value.slice none 0 0)])] :: [(b13,oc 69 [vi 0,vi 0,vb false,(Value.slice none 0 0)])] :: S) w:=(ok.pk 3 [2,0,1] rfl (by decide))
  refine qan E qeg rfl (qaK N 3 (ir 3) x0 l1 r2 l3 r4 r5 r6 e45 hG ok) rfl rfl ?_
  rintro _ w ⟨⟨rfl,ok⟩,l46,r47,l48,r49,r50,r51⟩
  refine ⟨_,rfl,fun a E=>?_⟩
  refine wpList_nil ?_
  cases hF
  exact ⟨rfl,⟨(ok.pk 3 [1,2,0] rfl (by decide)),E.keep [0,2,3],l46,r47,l48,r49,r50,r51⟩⟩
 intro e a w hO
 obtain ⟨rfl,ok,E,l52,r53,l54,r55,r56,r57⟩:=hO
 refine qaa<|sg<|mv E rfl fun a E=>?_
 obtain ⟨r58,e59,hF⟩:=bnd hF
 replace ok:Ok u m0 ([(pb0,oc 165 [vs o36.s,vi o36.to_,vs o36.w.text,vi o36.w.at_,vi o36.at_,vi o36.e])] :: [(b14,oc 69 [vi o19.Operand,vi o19.Mod,vb o19.Not,(Value.slice none 0 0)])] :: [(b13,oc 69 [vi 0,vi 0,vb false,(Value.slice none 0 0)])] :: S) w:=(ok.pk 3 [2,0,1] rfl (by decide))
 refine qan E qdp rfl (qaC N o36 l52 r53 l54 r55 r56 r57 e59 hG ok) rfl rfl ?_
 rintro _ w ⟨⟨rfl,ok⟩,l60,r61,l62,r63,r64,r65⟩
 refine ⟨_,rfl,fun a E=>?_⟩
 refine wn<|wp_seq<|sg<|mv E rfl fun a E=>bd hF fun r66 e67 hF=>lc E qel rfl (qaP N ([37]) (show ([37]:List UInt8).length ≤ LIMS by decide) r58 l60 r61 l62 r63 r64 r65 e67 hG ok) fun w ok a E=>wn<|bd hF fun o68 hJ hF=>qaG (Q':=fun e a w=>e = .normal ∧ ∃ m69,m0.le m69 ∧ Ok u m69 ([(pb0,oc 165 [vs o68.1.s,vi o68.1.to_,vs o68.1.w.text,vi o68.1.w.at_,vi o68.1.at_,vi o68.1.e])] :: [(b14,oc 69 [vi o68.2.Operand,vi o68.2.Mod,vb o68.2.Not,(Value.slice none 0 0)])] :: [(b13,oc 69 [vi 0,vi 0,vb false,(Value.slice none 0 0)])] :: S) w ∧ Env 103 a [(0,vp pb0),(2,vp b13),(3,vp b14)] ∧ o68.1.s.length ≤ LIMS ∧ InR .i64 o68.1.to_ ∧ o68.1.w.text.length ≤ LIMS ∧ InR .i64 o68.1.w.at_ ∧ InR .i64 o68.1.at_ ∧ InR .i64 o68.1.e ∧ InR .i64 o68.2.Operand ∧ InR .i64 o68.2.Mod) ?_ ?_
 ·as_aux_lemma =>
   have hF:=hJ
   refine cg E rfl hF (fun c78 hF=>?_) fun c78 hF=>?_
   ·refine wp_skip ?_
    cases hF
    exact ⟨rfl,⟨m0,le_m0,ok,E.keep [0,2,3],l60,r61,l62,r63,r64,r65,r34,r35⟩⟩
   refine sg<|mv E rfl fun a E=>bd hF fun r79 e80 hF=>qan E qdp rfl (qaC N r58 l60 r61 l62 r63 r64 r65 e80 hG ok) rfl rfl ?_
   rintro _ w ⟨⟨rfl,ok⟩,l81,r82,l83,r84,r85,r86⟩
   refine ⟨_,rfl,fun a E=>?_⟩
   refine wn<|sg<|mv E rfl fun a E=>bd hF fun r87 e88 hF=>qan E qmC rfl (qdw N r79 l81 r82 l83 r84 r85 r86 e88 hG ok) rfl rfl ?_
   rintro _ w ⟨⟨rfl,ok⟩,r89,l90,r91,l92,r93,r94,r95⟩
   refine ⟨_,rfl,fun a E=>?_⟩
   refine fv E qcn rfl fun a E=>qad E ok 1 rfl rfl rfl qaZ rfl rfl ⟨rfl,trivial⟩ rfl rfl fun w ok=>wn<|wp_seq<|wp_seq<|bd hF fun o96 hJ hF=>qaG (Q':=fun e a w=>e = .normal ∧ ∃ m97,m0.le m97 ∧ Ok u m97 ([(pb0,oc 165 [vs r87.2.s,vi r87.2.to_,vs r87.2.w.text,vi r87.2.w.at_,vi r87.2.at_,vi r87.2.e])] :: [(b14,oc 69 [vi o19.Operand,vi r87.1,vb o19.Not,(Value.slice none 0 0)])] :: [(b13,oc 69 [vi 0,vi 0,vb false,(Value.slice none 0 0)])] :: S) w ∧ Env 103 a [(0,vp pb0),(2,vp b13),(3,vp b14),(38,vb o96)]) ?_ ?_
   ·have hF:=hJ
    obtain ⟨r98,e99,hF⟩:=bnd hF
    obtain ⟨r103,e104,hF⟩:=bnd hF
    obtain rfl:=sj hF
    refine qaY [] (Cls u m0 ([(pb0,oc 165 [vs r87.2.s,vi r87.2.to_,vs r87.2.w.text,vi r87.2.w.at_,vi r87.2.at_,vi r87.2.e])] :: [(b14,oc 69 [vi o19.Operand,vi r87.1,vb o19.Not,(Value.slice none 0 0)])] :: [(b13,oc 69 [vi 0,vi 0,vb false,(Value.slice none 0 0)])] :: [])) (Cls u m0 ([(pb0,oc 165 [vs r87.2.s,vi r87.2.to_,vs r87.2.w.text,vi r87.2.w.at_,vi r87.2.at_,vi r87.2.e])] :: [(b14,oc 69 [vi o19.Operand,vi r87.1,vb o19.Not,(Value.slice none 0 0)])] :: [(b13,oc 69 [vi 0,vi 0,vb false,(Value.slice none 0 0)])] :: [])) (by kernel_rfl) ?_
    intro w hw
    replace ok:=qbd ok hw
    clear hw
    refine qai (cl1 (cq le_m0 ok [0,1,2] rfl) (cq le_m0 ok [0,1,2] rfl)) fun hT=>kt 0 E rfl hT (qae qa2 rfl) fun a E=>kt 1 E rfl hT (qaj qak rfl (qab.cown 1 rfl rfl)) fun a E=>kt 3 E rfl hT (qae qcn rfl) fun a E=>kt 4 E rfl hT (qaj qak rfl (qab.cown 1 rfl rfl)) fun a E=>qao [2] (by kernel_rfl) rfl (qar ?_)
    ·refine wo rfl<|qan E qmg rfl (qfE N o19.Operand r34 e99 hG ok) rfl rfl ?_
     rintro _ w ⟨m105,c106,rfl,hle,ok,h107⟩
     have le_m0:=le_m0.trans hle
     refine ⟨_,rfl,fun a E=>?_⟩
     refine wn<|qai (cl1 (cq le_m0 ok [0,1,2] rfl) (cq le_m0 ok [0,1,2] rfl)) fun hT=>qao [5] (by kernel_rfl) rfl (qar ?_)
     ·refine wo rfl<|lc E qmG rfl (qfR N _ r98 h107 r87.1 r89 e104 hG ok) fun w ok a E=>wn<|qai (cl1 (cq le_m0 ok [0,1,2] rfl) (cq le_m0 ok [0,1,2] rfl)) fun hT=>kt 6 E rfl hT (qbu rfl) fun a E=>qaV (by kernel_rfl) ?_
      exact ⟨rfl,⟨m105,le_m0,ok,E.keep [0,2,3,38]⟩⟩
   intro e a w hO
   obtain ⟨rfl,m108,hle,ok,E⟩:=hO
   have le_m0:=le_m0.trans hle
   refine qaa<|cg E rfl hF (fun c109 hF=>?_) fun c109 hF=>?_
   ·refine wp_skip<|qaa<|qac<|mv E rfl fun a E=>bd hF fun r126 e127 hF=>qan E qdp rfl (qaC N r87.2 l90 r91 l92 r93 r94 r95 e127 hG ok) rfl rfl ?_
    rintro _ w ⟨⟨rfl,ok⟩,l128,r129,l130,r131,r132,r133⟩
    refine ⟨_,rfl,fun a E=>?_⟩
    refine wpList_nil ?_
    cases hF
    exact ⟨rfl,⟨m108,le_m0,ok,E.keep [0,2,3],l128,r129,l130,r131,r132,r133,r34,r89⟩⟩
   refine qac<|mv E rfl fun a E=>bd hF fun r110 e111 hF=>qan E qeg rfl (qaK N 2 (ir 2) r87.2 l90 r91 l92 r93 r94 r95 e111 hG ok) rfl rfl ?_
   rintro _ w ⟨⟨rfl,ok⟩,l112,r113,l114,r115,r116,r117⟩
   refine ⟨_,rfl,fun a E=>?_⟩
   refine wn<|qac<|mv E rfl fun a E=>bd hF fun r118 e119 hF=>qan E qdp rfl (qaC N r110 l112 r113 l114 r115 r116 r117 e119 hG ok) rfl rfl ?_
   rintro _ w ⟨⟨rfl,ok⟩,l120,r121,l122,r123,r124,r125⟩
   refine ⟨_,rfl,fun a E=>?_⟩
   refine wpList_nil ?_
   cases hF
   exact ⟨rfl,⟨m108,le_m0,ok,E.keep [0,2,3],l120,r121,l122,r123,r124,r125,r34,r89⟩⟩
 intro e a w hO
 obtain ⟨rfl,m134,hle,ok,E,l135,r136,l137,r138,r139,r140,r141,r142⟩:=hO
 have le_m0:=le_m0.trans hle
 refine qaa<|sg<|mv E rfl fun a E=>bd hF fun r143 e144 hF=>lc E qel rfl (qaP N ([33,61]) (show ([33,61]:List UInt8).length ≤ LIMS by decide) o68.1 l135 r136 l137 r138 r139 r140 e144 hG ok) fun w ok a E=>fv E qe9 rfl fun a E=>qad E ok 1 rfl rfl rfl qjq rfl rfl ⟨rfl,trivial⟩ rfl rfl fun w ok=>wn<|wp_seq<|sg<|mv E rfl fun a E=>bd hF fun r145 e146 hF=>lc E qel rfl (qaP N ([61]) (show ([61]:List UInt8).length ≤ LIMS by decide) o68.1 l135 r136 l137 r138 r139 r140 e146 hG ok) fun w ok a E=>lw E (qbu rfl) fun a E=>mv E rfl fun a E=>bw E 49 hF (fun c147 hF E=>?_) fun c147 hF E=>?_
 ·as_aux_lemma =>
   refine lsq E fun a E=>ls E fun a E=>pf E rfl rfl fun a E=>wn<|c_if E rfl (fun h=>by cases h) (fun _=>?_)
   refine wp_skip<|qaa<|sg<|mv E rfl fun a E=>bd hF fun r418 e419 hF=>qan E qdp rfl (qaC N o68.1 l135 r136 l137 r138 r139 r140 e419 hG ok) rfl rfl ?_
   rintro _ w ⟨⟨rfl,ok⟩,l420,r421,l422,r423,r424,r425⟩
   refine ⟨_,rfl,fun a E=>?_⟩
   refine wn<|wp_seq<|bd hF fun o426 hJ hF=>qaG (Q':=fun e a w=>e = .normal ∧ ∃ m427 c436 M437,m134.le m427 ∧ Ok u m427 (M437 :: [(pb0,oc 165 [vs o426.1.s,vi o426.1.to_,vs o426.1.w.text,vi o426.1.w.at_,vi o426.1.at_,vi o426.1.e])] :: [(b14,oc 69 [vi o426.2.Operand,vi o426.2.Mod,vb o426.2.Not,c436])] :: [(b13,oc 69 [vi 0,vi 0,vb false,(Value.slice none 0 0)])] :: S) w ∧ Env 103 a [(0,vp pb0),(2,vp b13),(3,vp b14)] ∧ o426.1.s.length ≤ LIMS ∧ InR .i64 o426.1.to_ ∧ o426.1.w.text.length ≤ LIMS ∧ InR .i64 o426.1.w.at_ ∧ InR .i64 o426.1.at_ ∧ InR .i64 o426.1.e ∧ InR .i64 o426.2.Operand ∧ InR .i64 o426.2.Mod ∧ ORow 126 2 qdI m427 c436 o426.2.Spans M437) ?_ ?_
   ·have hF:=hJ
    have le_m134:=Mem.le.refl m134
    obtain ⟨r439,e440,hF⟩:=bnd hF
    obtain ⟨l457,e458,hF⟩:=bnd hF
    obtain rfl:=sj hF
    refine qaY [1,4] (Cls u m134 ([(b14,oc 69 [vi o68.2.Operand,vi o68.2.Mod,vb r143,(Value.slice none 0 0)])] :: [(b13,oc 69 [vi 0,vi 0,vb false,(Value.slice none 0 0)])] :: [])) (Cls u m134 ([(b13,oc 69 [vi 0,vi 0,vb false,(Value.slice none 0 0)])] :: [])) (by kernel_rfl) ?_
    intro w hw
    replace ok:=qbd ok hw
    clear hw
    refine qai (cl1 (cq le_m134 ok [1,2] rfl) (cq le_m134 ok [2] rfl)) fun hT=>kt 0 E rfl hT (qae qbs rfl) fun a E=>qaS 1 E rfl (by kernel_rfl) nP hT (qaj qb3 rfl (qab.cown 0 rfl rfl)) rfl rfl fun a E=>kt 2 E rfl hT (qah rfl) fun a E=>kt 3 E rfl hT (qae qa2 rfl) fun a E=>qaS 4 E rfl (by kernel_rfl) nP hT (qaj qak rfl (qab.cown 0 rfl rfl)) rfl rfl fun a E=>qao [5] (by kernel_rfl) rfl (qar ?_)
    ·refine wo rfl<|qan E qmE rfl (qdZ N o68.2.Operand r141 r418 l420 r421 l422 r423 r424 r425 e440 hG ok) rfl rfl ?_
     rintro _ w ⟨m462,vs463,rfl,hle,ok,h464,l465,r466,l467,r468,r469,r470⟩
     have le_m0:=le_m0.trans hle
     have le_m134:=le_m134.trans hle
     obtain ⟨rfl,r471,r472⟩:=h464
     refine ⟨_,rfl,fun a E=>?_⟩
     refine wn<|qai (cl1 (cq le_m134 ok [1,2] rfl) (cq le_m134 ok [2] rfl)) fun hT=>qao [6] (by kernel_rfl) rfl (qar ?_)
     ·refine wo rfl<|qaW (R:=qdI) (xo:=[.tmp 63]) (xs:=([r439.1]:List (Span))) E ok qbO qdd rfl ⟨⟨_,rfl,rfl,⟨rfl,r471,r472⟩⟩,trivial⟩ rfl rfl rfl rfl fun c473 M474 a w E ok h475=>wn<|qai (cl1 (cq le_m134 ok [2,3] rfl) (cq le_m134 ok [3] rfl)) fun hT=>qao [7] (by kernel_rfl) rfl (qar ?_)
      ·refine qbm (o:=_) rfl ?_
       obtain ⟨M476,ok,h477⟩:=qcf (e:=126) (k:=2) (R:=qdI) ok
       refine qbo (R:=qdI) E ok 0 qdF qbO Tryz.underlying67 rfl h477 (qa0.ofRow h475 1 rfl ok) e458 ⟨_,qdd,rfl⟩ rfl rfl rfl rfl fun c478 M479 a w E ok h480=>wn<|qai (cl1 (cq le_m134 ok [3,4] rfl) (cq le_m134 ok [4] rfl)) fun hT=>kt 8 E rfl hT (qae qbs rfl) fun a E=>qao [9] (by kernel_rfl) rfl (qar ?_)
       ·refine wo rfl<|qad E ok 3 rfl rfl rfl qmx (ORow.cells h480) rfl ⟨(ORow.one h480),trivial⟩ rfl rfl fun w ok=>wn<|qai (cl2 (by kernel_rfl) (cq le_m134 ok [4] rfl)) fun hT=>qaV (by kernel_rfl) ?_
        exact ⟨rfl,⟨m462,c478,M479,le_m134,(ok.pk 5 [0,2,3,4] rfl (by decide)),E.keep [0,2,3],l465,r466,l467,r468,r469,r470,r141,r142,h480⟩⟩
   intro e a w hO
   obtain ⟨rfl,m481,c490,M491,hle,ok,E,l482,r483,l484,r485,r486,r487,r488,r489,h492⟩:=hO
   have le_m0:=le_m0.trans hle
   refine qaa<|wp_seq<|wp_block<|bd hF fun o504 hL hF=>qaE _ (fun (s:Parser × Relation) a w=>∃ m505 c514 M515,m481.le m505 ∧ Ok u m505 (M515 :: [(pb0,oc 165 [vs s.1.s,vi s.1.to_,vs s.1.w.text,vi s.1.w.at_,vi s.1.at_,vi s.1.e])] :: [(b14,oc 69 [vi s.2.Operand,vi s.2.Mod,vb s.2.Not,c514])] :: [(b13,oc 69 [vi 0,vi 0,vb false,(Value.slice none 0 0)])] :: S) w ∧ Env 103 a [(0,vp pb0),(2,vp b13),(3,vp b14)] ∧ s.1.s.length ≤ LIMS ∧ InR .i64 s.1.to_ ∧ s.1.w.text.length ≤ LIMS ∧ InR .i64 s.1.w.at_ ∧ InR .i64 s.1.at_ ∧ InR .i64 s.1.e ∧ InR .i64 s.2.Operand ∧ InR .i64 s.2.Mod ∧ ORow 126 2 qdI m505 c514 s.2.Spans M515) (fun (b:(Relation × Parser)) e a w=>e = (.exit 2) ∧ ∃ m654 c657 M658,m481.le m654 ∧ Ok u m654 (M658 :: [(pb0,oc 165 [vs b.2.s,vi b.2.to_,vs b.2.w.text,vi b.2.w.at_,vi b.2.at_,vi b.2.e])] :: [(b14,oc 69 [vi b.1.Operand,vi b.1.Mod,vb b.1.Not,c657])] :: [(b13,oc 69 [vi 0,vi 0,vb false,(Value.slice none 0 0)])] :: S) w ∧ Env 103 a [(2,vp b13),(3,vp b14)] ∧ InR .i64 b.1.Operand ∧ InR .i64 b.1.Mod ∧ ORow 126 2 qdI m654 c657 b.1.Spans M658 ∧ b.2.s.length ≤ LIMS ∧ InR .i64 b.2.to_ ∧ b.2.w.text.length ≤ LIMS ∧ InR .i64 b.2.w.at_ ∧ InR .i64 b.2.at_ ∧ InR .i64 b.2.e) ?_ ?_ N _ a w hL ⟨m481,c490,M491,Mem.le.refl _,ok,E.keep [0,2,3],l482,r483,l484,r485,r486,r487,r488,r489,h492⟩
   rotate_left
   ·intro e a w _ hO
    obtain ⟨rfl,m640,c643,M644,hle,ok,E,r641,r642,h645,l646,r647,l648,r649,r650,r651⟩:=hO
    have le_m0:=le_m0.trans hle
    refine qaM<|qaa<|sg<|lv E ok (qag (cs:=[vi o504.1.Operand,vi o504.1.Mod,vb o504.1.Not,c643]) qbc rfl rfl (qab.own 2 rfl rfl)) fun a E=>qad E ok 3 rfl rfl rfl qfF rfl rfl ⟨rfl,rfl,rfl,(ORow.one h645),trivial⟩ rfl rfl fun w ok=>wn<|wp_ret ?_
    obtain ⟨m652,hle,ok,hfz⟩:=(ok.frs 0 rfl).freeze
    have h653:=ORow.froz qdF h645 hle hfz (by decide)
    have le_m0:=le_m0.trans hle
    exact fin hF ⟨m652,[vi o504.1.Operand,vi o504.1.Mod,vb o504.1.Not,c643],le_m0,(ok.pk 3 [0] rfl (by decide)),E.d,⟨rv_c (cs:=[vi o504.1.Operand,vi o504.1.Mod,vb o504.1.Not,c643]) E ok rfl qbc rfl (qab.own 2 rfl rfl),trivial⟩,⟨_,rfl,r641,r642,h653⟩,l646,r647,l648,r649,r650,r651⟩
   rintro ⟨v517,v518⟩ a w r ⟨m519,c528,M529,hle,ok,E,l520,r521,l522,r523,r524,r525,r526,r527,h530⟩ hF
   replace hF:qd6 N v517 v518 = some r:=hF
   unfold qd6 at hF
   have le_m481:=Mem.le.refl m481
   have le_m0:=le_m0.trans hle
   have le_m481:=le_m481.trans hle
   refine wp_seq<|sg<|mv E rfl fun a E=>?_
   obtain ⟨r531,e532,hF⟩:=bnd hF
   replace ok:Ok u m519 ([(pb0,oc 165 [vs v517.s,vi v517.to_,vs v517.w.text,vi v517.w.at_,vi v517.at_,vi v517.e])] :: M529 :: [(b14,oc 69 [vi v518.Operand,vi v518.Mod,vb v518.Not,c528])] :: [(b13,oc 69 [vi 0,vi 0,vb false,(Value.slice none 0 0)])] :: S) w:=(ok.pk 4 [1,0,2,3] rfl (by decide))
   refine lc E qel rfl (qaP N ([44]) (show ([44]:List UInt8).length ≤ LIMS by decide) v517 l520 r521 l522 r523 r524 r525 e532 hG ok) fun w ok a E=>wn<|cg E rfl hF (fun c533 hF=>?_) fun c533 hF=>?_
   ·refine wp_exit<|qaA ?_
    cases hF
    exact so (⟨rfl,⟨m519,c528,M529,le_m481,(ok.pk 4 [1,0,2,3] rfl (by decide)),E.keep [2,3],r526,r527,h530,l520,r521,l522,r523,r524,r525⟩⟩)
   refine wp_skip<|qaa<|wp_block<|sg<|mv E rfl fun a E=>bd hF fun r534 e535 hF=>qan E qdp rfl (qaC N v517 l520 r521 l522 r523 r524 r525 e535 hG ok) rfl rfl ?_
   rintro _ w ⟨⟨rfl,ok⟩,l536,r537,l538,r539,r540,r541⟩
   refine ⟨_,rfl,fun a E=>?_⟩
   refine wn<|wp_seq<|wp_seq<|bd hF fun o542 hJ hF=>qaG (Q':=fun e a w=>e = .normal ∧ Ok u m519 ([(pb0,oc 165 [vs r534.s,vi r534.to_,vs r534.w.text,vi r534.w.at_,vi r534.at_,vi r534.e])] :: M529 :: [(b14,oc 69 [vi v518.Operand,vi v518.Mod,vb v518.Not,c528])] :: [(b13,oc 69 [vi 0,vi 0,vb false,(Value.slice none 0 0)])] :: S) w ∧ Env 103 a [(0,vp pb0),(2,vp b13),(3,vp b14),(90,vb o542)]) ?_ ?_
   rotate_left
   ·as_aux_lemma =>
     intro e a w hO
     obtain ⟨rfl,ok,E⟩:=hO
     refine qaa<|bd hF fun o555 hJ hF=>qaG (Q':=fun e a w=>e = .normal ∧ Ok u m519 ([(pb0,oc 165 [vs o555.s,vi o555.to_,vs o555.w.text,vi o555.w.at_,vi o555.at_,vi o555.e])] :: M529 :: [(b14,oc 69 [vi v518.Operand,vi v518.Mod,vb v518.Not,c528])] :: [(b13,oc 69 [vi 0,vi 0,vb false,(Value.slice none 0 0)])] :: S) w ∧ Env 103 a [(0,vp pb0),(2,vp b13),(3,vp b14)] ∧ o555.s.length ≤ LIMS ∧ InR .i64 o555.to_ ∧ o555.w.text.length ≤ LIMS ∧ InR .i64 o555.w.at_ ∧ InR .i64 o555.at_ ∧ InR .i64 o555.e) ?_ ?_
     ·have hF:=hJ
      refine cg E rfl hF (fun c562 hF=>?_) fun c562 hF=>?_
      ·refine wp_skip ?_
       cases hF
       exact ⟨rfl,⟨ok,E.keep [0,2,3],l536,r537,l538,r539,r540,r541⟩⟩
      refine qac<|mv E rfl fun a E=>bd hF fun r563 e564 hF=>qan E qeg rfl (qaK N 6 (ir 6) r534 l536 r537 l538 r539 r540 r541 e564 hG ok) rfl rfl ?_
      rintro _ w ⟨⟨rfl,ok⟩,l565,r566,l567,r568,r569,r570⟩
      refine ⟨_,rfl,fun a E=>?_⟩
      refine wpList_nil ?_
      cases hF
      exact ⟨rfl,⟨ok,E.keep [0,2,3],l565,r566,l567,r568,r569,r570⟩⟩
     intro e a w hO
     obtain ⟨rfl,ok,E,l571,r572,l573,r574,r575,r576⟩:=hO
     refine qaa<|bd hF fun o577 hJ hF=>qaG (Q':=fun e a w=>e = .normal ∧ ∃ m578 c587 M588,m519.le m578 ∧ Ok u m578 ([(pb0,oc 165 [vs o577.1.s,vi o577.1.to_,vs o577.1.w.text,vi o577.1.w.at_,vi o577.1.at_,vi o577.1.e])] :: M588 :: [(b14,oc 69 [vi o577.2.Operand,vi o577.2.Mod,vb o577.2.Not,c587])] :: [(b13,oc 69 [vi 0,vi 0,vb false,(Value.slice none 0 0)])] :: S) w ∧ Env 103 a [(0,vp pb0),(2,vp b13),(3,vp b14)] ∧ o577.1.s.length ≤ LIMS ∧ InR .i64 o577.1.to_ ∧ o577.1.w.text.length ≤ LIMS ∧ InR .i64 o577.1.w.at_ ∧ InR .i64 o577.1.at_ ∧ InR .i64 o577.1.e ∧ InR .i64 o577.2.Operand ∧ InR .i64 o577.2.Mod ∧ ORow 126 2 qdI m578 c587 o577.2.Spans M588) ?_ ?_
     rotate_left
     ·intro e a w hO
      obtain ⟨rfl,m628,c637,M638,hle,ok,E,l629,r630,l631,r632,r633,r634,r635,r636,h639⟩:=hO
      have le_m0:=le_m0.trans hle
      have le_m481:=le_m481.trans hle
      refine qal ?_
      cases hF
      exact qas ⟨m628,c637,M638,le_m481,(ok.pk 4 [1,0,2,3] rfl (by decide)),E.keep [0,2,3],l629,r630,l631,r632,r633,r634,r635,r636,h639⟩
     have hF:=hJ
     have le_m519:=Mem.le.refl m519
     obtain ⟨r590,e591,hF⟩:=bnd hF
     obtain ⟨l606,e607,hF⟩:=bnd hF
     obtain rfl:=sj hF
     refine qaY [1,4] (Cls u m519 ([(b14,oc 69 [vi v518.Operand,vi v518.Mod,vb v518.Not,c528])] :: [(b13,oc 69 [vi 0,vi 0,vb false,(Value.slice none 0 0)])] :: [])) (Cls u m519 ([(b13,oc 69 [vi 0,vi 0,vb false,(Value.slice none 0 0)])] :: [])) (by kernel_rfl) ?_
     intro w hw
     replace ok:=qbd ok hw
     clear hw
     refine qai (cl1 (cq le_m519 ok [2,3] rfl) (cq le_m519 ok [3] rfl)) fun hT=>kt 0 E rfl hT (qae qbs rfl) fun a E=>qaS 1 E rfl (by kernel_rfl) nP hT (qaj qb3 rfl (qab.cown 0 rfl rfl)) rfl rfl fun a E=>kt 2 E rfl hT (qah rfl) fun a E=>kt 3 E rfl hT (qae qa2 rfl) fun a E=>qaS 4 E rfl (by kernel_rfl) nP hT (qaj qak rfl (qab.cown 0 rfl rfl)) rfl rfl fun a E=>qao [5] (by kernel_rfl) rfl (qar ?_)
     ·refine wo rfl<|qan E qmE rfl (qdZ N v518.Operand r526 o555 l571 r572 l573 r574 r575 r576 e591 hG ok) rfl rfl ?_
      rintro _ w ⟨m611,vs612,rfl,hle,ok,h613,l614,r615,l616,r617,r618,r619⟩
      have le_m0:=le_m0.trans hle
      have le_m481:=le_m481.trans hle
      have le_m519:=le_m519.trans hle
      have h530:=ORow.up qdF hle h530
      obtain ⟨rfl,r620,r621⟩:=h613
      refine ⟨_,rfl,fun a E=>?_⟩
      refine wn<|qai (cl1 (cq le_m519 ok [2,3] rfl) (cq le_m519 ok [3] rfl)) fun hT=>qao [6] (by kernel_rfl) rfl (qar ?_)
      ·refine wo rfl<|qaW (R:=qdI) (xo:=[.tmp 98]) (xs:=([r590.1]:List (Span))) E ok qbO qdd rfl ⟨⟨_,rfl,rfl,⟨rfl,r620,r621⟩⟩,trivial⟩ rfl rfl rfl rfl fun c622 M623 a w E ok h624=>wn<|qai (cl1 (cq le_m519 ok [3,4] rfl) (cq le_m519 ok [4] rfl)) fun hT=>qao [7] (by kernel_rfl) rfl (qar ?_)
       ·refine wo rfl<|qbo (R:=qdI) E ok 2 qdF qbO Tryz.underlying67 rfl h530 (qa0.ofRow h624 0 rfl ok) e607 ⟨_,qdd,rfl⟩ rfl rfl rfl rfl fun c625 M626 a w E ok h627=>wn<|qai (cl1 (cq le_m519 ok [3,4] rfl) (cq le_m519 ok [4] rfl)) fun hT=>kt 8 E rfl hT (qae qbs rfl) fun a E=>qao [9] (by kernel_rfl) rfl (qar ?_)
        ·refine wo rfl<|qad E ok 3 rfl rfl rfl qmx (ORow.cells h627) rfl ⟨(ORow.one h627),trivial⟩ rfl rfl fun w ok=>wn<|qai (cl2 (by kernel_rfl) (cq le_m519 ok [4] rfl)) fun hT=>qaV (by kernel_rfl) ?_
         exact ⟨rfl,⟨m611,c625,M626,le_m519,(ok.pk 5 [1,2,3,4] rfl (by decide)),E.keep [0,2,3],l614,r615,l616,r617,r618,r619,r526,r527,h627⟩⟩
   have hF:=hJ
   refine qcp ((v518.Spans.length:Int) == 4) (fun c543=>?_) (fun c543=>?_)
   rotate_left
   ·have hF:=qcc c543 hF
    cases hF
    refine qaY [] (Cls u m519 ([(pb0,oc 165 [vs r534.s,vi r534.to_,vs r534.w.text,vi r534.w.at_,vi r534.at_,vi r534.e])] :: M529 :: [(b14,oc 69 [vi v518.Operand,vi v518.Mod,vb v518.Not,c528])] :: [(b13,oc 69 [vi 0,vi 0,vb false,(Value.slice none 0 0)])] :: [])) (Cls u m519 ([(pb0,oc 165 [vs r534.s,vi r534.to_,vs r534.w.text,vi r534.w.at_,vi r534.at_,vi r534.e])] :: M529 :: [(b14,oc 69 [vi v518.Operand,vi v518.Mod,vb v518.Not,c528])] :: [(b13,oc 69 [vi 0,vi 0,vb false,(Value.slice none 0 0)])] :: [])) (by kernel_rfl) ?_
    intro w hw
    replace ok:=qbd ok hw
    clear hw
    have le_m519:=Mem.le.refl m519
    refine qai (cl1 (cq le_m519 ok [0,1,2,3] rfl) (cq le_m519 ok [0,1,2,3] rfl)) fun hT=>kt 0 E rfl hT (qae qbs rfl) fun a E=>kt 1 E rfl hT (qaj qb3 rfl (qab.cown 2 rfl rfl)) fun a E=>kt 2 E rfl hT (qcF qbO h530 rfl) fun a E=>kt 3 E rfl hT (qau rfl rfl) fun a E=>kt 4 E rfl hT (qah rfl) fun a E=>?_
    have E:=E.upd 75 c543 rfl
    refine qat 5 false E rfl (by kernel_rfl) nP hT rfl rfl fun a E=>qat 6 false E rfl (by kernel_rfl) nP hT rfl rfl fun a E=>kt 7 E rfl hT (qa1 rfl rfl) fun a E=>kt 8 E rfl hT (qah rfl) fun a E=>qat 9 false E rfl (by kernel_rfl) nP hT rfl rfl fun a E=>qat 10 false E rfl (by kernel_rfl) nP hT rfl rfl fun a E=>qat 11 false E rfl (by kernel_rfl) nP hT rfl rfl fun a E=>qat 12 false E rfl (by kernel_rfl) nP hT rfl rfl fun a E=>qat 13 false E rfl (by kernel_rfl) nP hT rfl rfl fun a E=>qat 14 false E rfl (by kernel_rfl) nP hT rfl rfl fun a E=>qat 15 false E rfl (by kernel_rfl) nP hT rfl rfl fun a E=>qat 16 false E rfl (by kernel_rfl) nP hT rfl rfl fun a E=>qat 17 false E rfl (by kernel_rfl) nP hT rfl rfl fun a E=>qat 18 false E rfl (by kernel_rfl) nP hT rfl rfl fun a E=>kt 19 E rfl hT (qa1 rfl rfl) fun a E=>qaV (by kernel_rfl) ?_
    exact ⟨rfl,⟨ok,E.keep [0,2,3,90]⟩⟩
   have hF:=qcg c543 hF
   refine bd hF fun r544 e545 hF=>qcp r544 (fun c546=>?_) (fun c546=>?_)
   rotate_left
   ·have hF:=qcc c546 hF
    cases hF
    refine qaY [] (Cls u m519 ([(pb0,oc 165 [vs r534.s,vi r534.to_,vs r534.w.text,vi r534.w.at_,vi r534.at_,vi r534.e])] :: M529 :: [(b14,oc 69 [vi v518.Operand,vi v518.Mod,vb v518.Not,c528])] :: [(b13,oc 69 [vi 0,vi 0,vb false,(Value.slice none 0 0)])] :: [])) (Cls u m519 ([(pb0,oc 165 [vs r534.s,vi r534.to_,vs r534.w.text,vi r534.w.at_,vi r534.at_,vi r534.e])] :: M529 :: [(b14,oc 69 [vi v518.Operand,vi v518.Mod,vb v518.Not,c528])] :: [(b13,oc 69 [vi 0,vi 0,vb false,(Value.slice none 0 0)])] :: [])) (by kernel_rfl) ?_
    intro w hw
    replace ok:=qbd ok hw
    clear hw
    have le_m519:=Mem.le.refl m519
    refine qai (cl1 (cq le_m519 ok [0,1,2,3] rfl) (cq le_m519 ok [0,1,2,3] rfl)) fun hT=>kt 0 E rfl hT (qae qbs rfl) fun a E=>kt 1 E rfl hT (qaj qb3 rfl (qab.cown 2 rfl rfl)) fun a E=>kt 2 E rfl hT (qcF qbO h530 rfl) fun a E=>kt 3 E rfl hT (qau rfl rfl) fun a E=>kt 4 E rfl hT (qah rfl) fun a E=>?_
    have E:=E.upd 75 c543 rfl
    refine kt 5 E rfl hT (qah rfl) fun a E=>qao [6] (by kernel_rfl) rfl (qar ?_)
    ·refine wo rfl<|lc E qmj rfl (qdH N r534 l536 r537 l538 r539 r540 r541 e545 hG ok) fun w ok a E=>wn<|qai (cl1 (cq le_m519 ok [0,1,2,3] rfl) (cq le_m519 ok [0,1,2,3] rfl)) fun hT=>kt 7 E rfl hT (qa8 rfl rfl) fun a E=>kt 8 E rfl hT (qah rfl) fun a E=>?_
     have E:=E.upd 79 c546 rfl
     refine qat 9 false E rfl (by kernel_rfl) nP hT rfl rfl fun a E=>qat 10 false E rfl (by kernel_rfl) nP hT rfl rfl fun a E=>qat 11 false E rfl (by kernel_rfl) nP hT rfl rfl fun a E=>qat 12 false E rfl (by kernel_rfl) nP hT rfl rfl fun a E=>qat 13 false E rfl (by kernel_rfl) nP hT rfl rfl fun a E=>qat 14 false E rfl (by kernel_rfl) nP hT rfl rfl fun a E=>qat 15 false E rfl (by kernel_rfl) nP hT rfl rfl fun a E=>qat 16 false E rfl (by kernel_rfl) nP hT rfl rfl fun a E=>qat 17 false E rfl (by kernel_rfl) nP hT rfl rfl fun a E=>qat 18 false E rfl (by kernel_rfl) nP hT rfl rfl fun a E=>kt 19 E rfl hT (qa1 rfl rfl) fun a E=>qaV (by kernel_rfl) ?_
     exact ⟨rfl,⟨ok,E.keep [0,2,3,90]⟩⟩
   have hF:=qcg c546 hF
   obtain ⟨r547,e548,hF⟩:=bnd hF
   obtain ⟨r550,e551,hF⟩:=bnd hF
   obtain rfl:=sj hF
   refine qaY [] (Cls u m519 ([(pb0,oc 165 [vs r534.s,vi r534.to_,vs r534.w.text,vi r534.w.at_,vi r534.at_,vi r534.e])] :: M529 :: [(b14,oc 69 [vi v518.Operand,vi v518.Mod,vb v518.Not,c528])] :: [(b13,oc 69 [vi 0,vi 0,vb false,(Value.slice none 0 0)])] :: [])) (Cls u m519 ([(pb0,oc 165 [vs r534.s,vi r534.to_,vs r534.w.text,vi r534.w.at_,vi r534.at_,vi r534.e])] :: M529 :: [(b14,oc 69 [vi v518.Operand,vi v518.Mod,vb v518.Not,c528])] :: [(b13,oc 69 [vi 0,vi 0,vb false,(Value.slice none 0 0)])] :: [])) (by kernel_rfl) ?_
   intro w hw
   replace ok:=qbd ok hw
   clear hw
   have le_m519:=Mem.le.refl m519
   refine qai (cl1 (cq le_m519 ok [0,1,2,3] rfl) (cq le_m519 ok [0,1,2,3] rfl)) fun hT=>kt 0 E rfl hT (qae qbs rfl) fun a E=>kt 1 E rfl hT (qaj qb3 rfl (qab.cown 2 rfl rfl)) fun a E=>kt 2 E rfl hT (qcF qbO h530 rfl) fun a E=>kt 3 E rfl hT (qau rfl rfl) fun a E=>kt 4 E rfl hT (qah rfl) fun a E=>?_
   have E:=E.upd 75 c543 rfl
   refine kt 5 E rfl hT (qah rfl) fun a E=>qao [6] (by kernel_rfl) rfl (qar ?_)
   ·refine wo rfl<|lc E qmj rfl (qdH N r534 l536 r537 l538 r539 r540 r541 e545 hG ok) fun w ok a E=>wn<|qai (cl1 (cq le_m519 ok [0,1,2,3] rfl) (cq le_m519 ok [0,1,2,3] rfl)) fun hT=>kt 7 E rfl hT (qa8 rfl rfl) fun a E=>kt 8 E rfl hT (qah rfl) fun a E=>?_
    have E:=E.upd 79 c546 rfl
    refine kt 9 E rfl hT (qah rfl) fun a E=>kt 10 E rfl hT (qa6 rfl) fun a E=>kt 11 E rfl hT (qae qgd rfl) fun a E=>kt 12 E rfl hT (qae qkn rfl) fun a E=>kt 13 E rfl hT (qaj qfs rfl (qab.cown 0 rfl rfl)) fun a E=>kt 15 E rfl hT (qae qa2 rfl) fun a E=>kt 16 E rfl hT (qaj qak rfl (qab.cown 2 rfl rfl)) fun a E=>qao [14] (by kernel_rfl) rfl (qar ?_)
    ·refine wo rfl<|qan E qmq rfl (qfl N r534.w.text l538 e548 hG ok) rfl rfl ?_
     rintro _ w ⟨⟨rfl,ok⟩,r553⟩
     refine ⟨_,rfl,fun a E=>?_⟩
     refine wn<|qai (cl1 (cq le_m519 ok [0,1,2,3] rfl) (cq le_m519 ok [0,1,2,3] rfl)) fun hT=>qao [17] (by kernel_rfl) rfl (qar ?_)
     ·refine wo rfl<|qan E qll rfl (qct N v518.Operand r526 e551 hG ok) rfl rfl ?_
      rintro _ w ⟨⟨rfl,ok⟩,r554⟩
      refine ⟨_,rfl,fun a E=>?_⟩
      refine wn<|qai (cl1 (cq le_m519 ok [0,1,2,3] rfl) (cq le_m519 ok [0,1,2,3] rfl)) fun hT=>kt 18 E rfl hT (qeC rfl rfl) fun a E=>kt 19 E rfl hT (qa8 rfl rfl) fun a E=>qaV (by kernel_rfl) ?_
      exact ⟨rfl,⟨ok,E.keep [0,2,3,90]⟩⟩
 refine fk E ok qe9 qbx rfl 1 rfl rfl fun a E=>lw E (qbu rfl) fun a E=>pt E rfl rfl fun a E=>wn<|bd hF fun o148 hJ hF=>qaG (Q':=fun e a w=>e = .normal ∧ Ok u m134 ([(pb0,oc 165 [vs o148.s,vi o148.to_,vs o148.w.text,vi o148.w.at_,vi o148.at_,vi o148.e])] :: [(b14,oc 69 [vi o68.2.Operand,vi o68.2.Mod,vb r143,(Value.slice none 0 0)])] :: [(b13,oc 69 [vi 0,vi 0,vb false,(Value.slice none 0 0)])] :: S) w ∧ Env 103 a [(0,vp pb0),(2,vp b13),(3,vp b14)] ∧ o148.s.length ≤ LIMS ∧ InR .i64 o148.to_ ∧ o148.w.text.length ≤ LIMS ∧ InR .i64 o148.w.at_ ∧ InR .i64 o148.at_ ∧ InR .i64 o148.e) ?_ ?_
 ·have hF:=hJ
  refine cg E rfl hF (fun c155 hF=>?_) fun c155 hF=>?_
  ·refine wp_skip ?_
   cases hF
   exact ⟨rfl,⟨ok,E.keep [0,2,3],l135,r136,l137,r138,r139,r140⟩⟩
  refine qac<|mv E rfl fun a E=>bd hF fun r156 e157 hF=>qan E qeg rfl (qaK N 3 (ir 3) o68.1 l135 r136 l137 r138 r139 r140 e157 hG ok) rfl rfl ?_
  rintro _ w ⟨⟨rfl,ok⟩,l158,r159,l160,r161,r162,r163⟩
  refine ⟨_,rfl,fun a E=>?_⟩
  refine wpList_nil ?_
  cases hF
  exact ⟨rfl,⟨ok,E.keep [0,2,3],l158,r159,l160,r161,r162,r163⟩⟩
 intro e a w hO
 obtain ⟨rfl,ok,E,l164,r165,l166,r167,r168,r169⟩:=hO
 refine qaa<|sg<|mv E rfl fun a E=>bd hF fun r170 e171 hF=>qan E qdp rfl (qaC N o148 l164 r165 l166 r167 r168 r169 e171 hG ok) rfl rfl ?_
 rintro _ w ⟨⟨rfl,ok⟩,l172,r173,l174,r175,r176,r177⟩
 refine ⟨_,rfl,fun a E=>?_⟩
 refine wn<|wp_seq<|bd hF fun o178 hJ hF=>qaG (Q':=fun e a w=>e = .normal ∧ ∃ m179 c188 M189,m134.le m179 ∧ Ok u m179 (M189 :: [(pb0,oc 165 [vs o178.1.s,vi o178.1.to_,vs o178.1.w.text,vi o178.1.w.at_,vi o178.1.at_,vi o178.1.e])] :: [(b14,oc 69 [vi o178.2.Operand,vi o178.2.Mod,vb o178.2.Not,c188])] :: [(b13,oc 69 [vi 0,vi 0,vb false,(Value.slice none 0 0)])] :: S) w ∧ Env 103 a [(0,vp pb0),(2,vp b13),(3,vp b14)] ∧ o178.1.s.length ≤ LIMS ∧ InR .i64 o178.1.to_ ∧ o178.1.w.text.length ≤ LIMS ∧ InR .i64 o178.1.w.at_ ∧ InR .i64 o178.1.at_ ∧ InR .i64 o178.1.e ∧ InR .i64 o178.2.Operand ∧ InR .i64 o178.2.Mod ∧ ORow 126 2 qdI m179 c188 o178.2.Spans M189) ?_ ?_
 ·have hF:=hJ
  have le_m134:=Mem.le.refl m134
  obtain ⟨r191,e192,hF⟩:=bnd hF
  obtain ⟨l209,e210,hF⟩:=bnd hF
  obtain rfl:=sj hF
  refine qaY [1,4] (Cls u m134 ([(b14,oc 69 [vi o68.2.Operand,vi o68.2.Mod,vb r143,(Value.slice none 0 0)])] :: [(b13,oc 69 [vi 0,vi 0,vb false,(Value.slice none 0 0)])] :: [])) (Cls u m134 ([(b13,oc 69 [vi 0,vi 0,vb false,(Value.slice none 0 0)])] :: [])) (by kernel_rfl) ?_
  intro w hw
  replace ok:=qbd ok hw
  clear hw
  refine qai (cl1 (cq le_m134 ok [1,2] rfl) (cq le_m134 ok [2] rfl)) fun hT=>kt 0 E rfl hT (qae qbs rfl) fun a E=>qaS 1 E rfl (by kernel_rfl) nP hT (qaj qb3 rfl (qab.cown 0 rfl rfl)) rfl rfl fun a E=>kt 2 E rfl hT (qah rfl) fun a E=>kt 3 E rfl hT (qae qa2 rfl) fun a E=>qaS 4 E rfl (by kernel_rfl) nP hT (qaj qak rfl (qab.cown 0 rfl rfl)) rfl rfl fun a E=>qao [5] (by kernel_rfl) rfl (qar ?_)
  ·refine wo rfl<|qan E qmE rfl (qdZ N o68.2.Operand r141 r170 l172 r173 l174 r175 r176 r177 e192 hG ok) rfl rfl ?_
   rintro _ w ⟨m214,vs215,rfl,hle,ok,h216,l217,r218,l219,r220,r221,r222⟩
   have le_m0:=le_m0.trans hle
   have le_m134:=le_m134.trans hle
   obtain ⟨rfl,r223,r224⟩:=h216
   refine ⟨_,rfl,fun a E=>?_⟩
   refine wn<|qai (cl1 (cq le_m134 ok [1,2] rfl) (cq le_m134 ok [2] rfl)) fun hT=>qao [6] (by kernel_rfl) rfl (qar ?_)
   ·refine wo rfl<|qaW (R:=qdI) (xo:=[.tmp 63]) (xs:=([r191.1]:List (Span))) E ok qbO qdd rfl ⟨⟨_,rfl,rfl,⟨rfl,r223,r224⟩⟩,trivial⟩ rfl rfl rfl rfl fun c225 M226 a w E ok h227=>wn<|qai (cl1 (cq le_m134 ok [2,3] rfl) (cq le_m134 ok [3] rfl)) fun hT=>qao [7] (by kernel_rfl) rfl (qar ?_)
    ·refine qbm (o:=_) rfl ?_
     obtain ⟨M228,ok,h229⟩:=qcf (e:=126) (k:=2) (R:=qdI) ok
     refine qbo (R:=qdI) E ok 0 qdF qbO Tryz.underlying67 rfl h229 (qa0.ofRow h227 1 rfl ok) e210 ⟨_,qdd,rfl⟩ rfl rfl rfl rfl fun c230 M231 a w E ok h232=>wn<|qai (cl1 (cq le_m134 ok [3,4] rfl) (cq le_m134 ok [4] rfl)) fun hT=>kt 8 E rfl hT (qae qbs rfl) fun a E=>qao [9] (by kernel_rfl) rfl (qar ?_)
     ·refine wo rfl<|qad E ok 3 rfl rfl rfl qmx (ORow.cells h232) rfl ⟨(ORow.one h232),trivial⟩ rfl rfl fun w ok=>wn<|qai (cl2 (by kernel_rfl) (cq le_m134 ok [4] rfl)) fun hT=>qaV (by kernel_rfl) ?_
      exact ⟨rfl,⟨m214,c230,M231,le_m134,(ok.pk 5 [0,2,3,4] rfl (by decide)),E.keep [0,2,3],l217,r218,l219,r220,r221,r222,r141,r142,h232⟩⟩
 intro e a w hO
 obtain ⟨rfl,m233,c242,M243,hle,ok,E,l234,r235,l236,r237,r238,r239,r240,r241,h244⟩:=hO
 have le_m0:=le_m0.trans hle
 refine qaa<|wp_seq<|wp_block<|bd hF fun o256 hL hF=>qaE _ (fun (s:Parser × Relation) a w=>∃ m257 c266 M267,m233.le m257 ∧ Ok u m257 (M267 :: [(pb0,oc 165 [vs s.1.s,vi s.1.to_,vs s.1.w.text,vi s.1.w.at_,vi s.1.at_,vi s.1.e])] :: [(b14,oc 69 [vi s.2.Operand,vi s.2.Mod,vb s.2.Not,c266])] :: [(b13,oc 69 [vi 0,vi 0,vb false,(Value.slice none 0 0)])] :: S) w ∧ Env 103 a [(0,vp pb0),(2,vp b13),(3,vp b14)] ∧ s.1.s.length ≤ LIMS ∧ InR .i64 s.1.to_ ∧ s.1.w.text.length ≤ LIMS ∧ InR .i64 s.1.w.at_ ∧ InR .i64 s.1.at_ ∧ InR .i64 s.1.e ∧ InR .i64 s.2.Operand ∧ InR .i64 s.2.Mod ∧ ORow 126 2 qdI m257 c266 s.2.Spans M267) (fun (b:(Relation × Parser)) e a w=>e = (.exit 2) ∧ ∃ m406 c409 M410,m233.le m406 ∧ Ok u m406 (M410 :: [(pb0,oc 165 [vs b.2.s,vi b.2.to_,vs b.2.w.text,vi b.2.w.at_,vi b.2.at_,vi b.2.e])] :: [(b14,oc 69 [vi b.1.Operand,vi b.1.Mod,vb b.1.Not,c409])] :: [(b13,oc 69 [vi 0,vi 0,vb false,(Value.slice none 0 0)])] :: S) w ∧ Env 103 a [(2,vp b13),(3,vp b14)] ∧ InR .i64 b.1.Operand ∧ InR .i64 b.1.Mod ∧ ORow 126 2 qdI m406 c409 b.1.Spans M410 ∧ b.2.s.length ≤ LIMS ∧ InR .i64 b.2.to_ ∧ b.2.w.text.length ≤ LIMS ∧ InR .i64 b.2.w.at_ ∧ InR .i64 b.2.at_ ∧ InR .i64 b.2.e) ?_ ?_ N _ a w hL ⟨m233,c242,M243,Mem.le.refl _,ok,E.keep [0,2,3],l234,r235,l236,r237,r238,r239,r240,r241,h244⟩
 rotate_left
 ·intro e a w _ hO
  obtain ⟨rfl,m392,c395,M396,hle,ok,E,r393,r394,h397,l398,r399,l400,r401,r402,r403⟩:=hO
  have le_m0:=le_m0.trans hle
  refine qaM<|qaa<|sg<|lv E ok (qag (cs:=[vi o256.1.Operand,vi o256.1.Mod,vb o256.1.Not,c395]) qbc rfl rfl (qab.own 2 rfl rfl)) fun a E=>qad E ok 3 rfl rfl rfl qfF rfl rfl ⟨rfl,rfl,rfl,(ORow.one h397),trivial⟩ rfl rfl fun w ok=>wn<|wp_ret ?_
  obtain ⟨m404,hle,ok,hfz⟩:=(ok.frs 0 rfl).freeze
  have h405:=ORow.froz qdF h397 hle hfz (by decide)
  have le_m0:=le_m0.trans hle
  exact fin hF ⟨m404,[vi o256.1.Operand,vi o256.1.Mod,vb o256.1.Not,c395],le_m0,(ok.pk 3 [0] rfl (by decide)),E.d,⟨rv_c (cs:=[vi o256.1.Operand,vi o256.1.Mod,vb o256.1.Not,c395]) E ok rfl qbc rfl (qab.own 2 rfl rfl),trivial⟩,⟨_,rfl,r393,r394,h405⟩,l398,r399,l400,r401,r402,r403⟩
 rintro ⟨v269,v270⟩ a w r ⟨m271,c280,M281,hle,ok,E,l272,r273,l274,r275,r276,r277,r278,r279,h282⟩ hF
 replace hF:qd9 N v269 v270 = some r:=hF
 unfold qd9 at hF
 have le_m233:=Mem.le.refl m233
 have le_m0:=le_m0.trans hle
 have le_m233:=le_m233.trans hle
 refine wp_seq<|sg<|mv E rfl fun a E=>?_
 obtain ⟨r283,e284,hF⟩:=bnd hF
 replace ok:Ok u m271 ([(pb0,oc 165 [vs v269.s,vi v269.to_,vs v269.w.text,vi v269.w.at_,vi v269.at_,vi v269.e])] :: M281 :: [(b14,oc 69 [vi v270.Operand,vi v270.Mod,vb v270.Not,c280])] :: [(b13,oc 69 [vi 0,vi 0,vb false,(Value.slice none 0 0)])] :: S) w:=(ok.pk 4 [1,0,2,3] rfl (by decide))
 refine lc E qel rfl (qaP N ([44]) (show ([44]:List UInt8).length ≤ LIMS by decide) v269 l272 r273 l274 r275 r276 r277 e284 hG ok) fun w ok a E=>wn<|cg E rfl hF (fun c285 hF=>?_) fun c285 hF=>?_
 ·refine wp_exit<|qaA ?_
  cases hF
  exact so (⟨rfl,⟨m271,c280,M281,le_m233,(ok.pk 4 [1,0,2,3] rfl (by decide)),E.keep [2,3],r278,r279,h282,l272,r273,l274,r275,r276,r277⟩⟩)
 refine wp_skip<|qaa<|wp_block<|sg<|mv E rfl fun a E=>bd hF fun r286 e287 hF=>qan E qdp rfl (qaC N v269 l272 r273 l274 r275 r276 r277 e287 hG ok) rfl rfl ?_
 rintro _ w ⟨⟨rfl,ok⟩,l288,r289,l290,r291,r292,r293⟩
 refine ⟨_,rfl,fun a E=>?_⟩
 refine wn<|wp_seq<|wp_seq<|bd hF fun o294 hJ hF=>qaG (Q':=fun e a w=>e = .normal ∧ Ok u m271 ([(pb0,oc 165 [vs r286.s,vi r286.to_,vs r286.w.text,vi r286.w.at_,vi r286.at_,vi r286.e])] :: M281 :: [(b14,oc 69 [vi v270.Operand,vi v270.Mod,vb v270.Not,c280])] :: [(b13,oc 69 [vi 0,vi 0,vb false,(Value.slice none 0 0)])] :: S) w ∧ Env 103 a [(0,vp pb0),(2,vp b13),(3,vp b14),(90,vb o294)]) ?_ ?_
 rotate_left
 ·as_aux_lemma =>
   intro e a w hO
   obtain ⟨rfl,ok,E⟩:=hO
   refine qaa<|bd hF fun o307 hJ hF=>qaG (Q':=fun e a w=>e = .normal ∧ Ok u m271 ([(pb0,oc 165 [vs o307.s,vi o307.to_,vs o307.w.text,vi o307.w.at_,vi o307.at_,vi o307.e])] :: M281 :: [(b14,oc 69 [vi v270.Operand,vi v270.Mod,vb v270.Not,c280])] :: [(b13,oc 69 [vi 0,vi 0,vb false,(Value.slice none 0 0)])] :: S) w ∧ Env 103 a [(0,vp pb0),(2,vp b13),(3,vp b14)] ∧ o307.s.length ≤ LIMS ∧ InR .i64 o307.to_ ∧ o307.w.text.length ≤ LIMS ∧ InR .i64 o307.w.at_ ∧ InR .i64 o307.at_ ∧ InR .i64 o307.e) ?_ ?_
   ·have hF:=hJ
    refine cg E rfl hF (fun c314 hF=>?_) fun c314 hF=>?_
    ·refine wp_skip ?_
     cases hF
     exact ⟨rfl,⟨ok,E.keep [0,2,3],l288,r289,l290,r291,r292,r293⟩⟩
    refine qac<|mv E rfl fun a E=>bd hF fun r315 e316 hF=>qan E qeg rfl (qaK N 6 (ir 6) r286 l288 r289 l290 r291 r292 r293 e316 hG ok) rfl rfl ?_
    rintro _ w ⟨⟨rfl,ok⟩,l317,r318,l319,r320,r321,r322⟩
    refine ⟨_,rfl,fun a E=>?_⟩
    refine wpList_nil ?_
    cases hF
    exact ⟨rfl,⟨ok,E.keep [0,2,3],l317,r318,l319,r320,r321,r322⟩⟩
   intro e a w hO
   obtain ⟨rfl,ok,E,l323,r324,l325,r326,r327,r328⟩:=hO
   refine qaa<|bd hF fun o329 hJ hF=>qaG (Q':=fun e a w=>e = .normal ∧ ∃ m330 c339 M340,m271.le m330 ∧ Ok u m330 ([(pb0,oc 165 [vs o329.1.s,vi o329.1.to_,vs o329.1.w.text,vi o329.1.w.at_,vi o329.1.at_,vi o329.1.e])] :: M340 :: [(b14,oc 69 [vi o329.2.Operand,vi o329.2.Mod,vb o329.2.Not,c339])] :: [(b13,oc 69 [vi 0,vi 0,vb false,(Value.slice none 0 0)])] :: S) w ∧ Env 103 a [(0,vp pb0),(2,vp b13),(3,vp b14)] ∧ o329.1.s.length ≤ LIMS ∧ InR .i64 o329.1.to_ ∧ o329.1.w.text.length ≤ LIMS ∧ InR .i64 o329.1.w.at_ ∧ InR .i64 o329.1.at_ ∧ InR .i64 o329.1.e ∧ InR .i64 o329.2.Operand ∧ InR .i64 o329.2.Mod ∧ ORow 126 2 qdI m330 c339 o329.2.Spans M340) ?_ ?_
   rotate_left
   ·intro e a w hO
    obtain ⟨rfl,m380,c389,M390,hle,ok,E,l381,r382,l383,r384,r385,r386,r387,r388,h391⟩:=hO
    have le_m0:=le_m0.trans hle
    have le_m233:=le_m233.trans hle
    refine qal ?_
    cases hF
    exact qas ⟨m380,c389,M390,le_m233,(ok.pk 4 [1,0,2,3] rfl (by decide)),E.keep [0,2,3],l381,r382,l383,r384,r385,r386,r387,r388,h391⟩
   have hF:=hJ
   have le_m271:=Mem.le.refl m271
   obtain ⟨r342,e343,hF⟩:=bnd hF
   obtain ⟨l358,e359,hF⟩:=bnd hF
   obtain rfl:=sj hF
   refine qaY [1,4] (Cls u m271 ([(b14,oc 69 [vi v270.Operand,vi v270.Mod,vb v270.Not,c280])] :: [(b13,oc 69 [vi 0,vi 0,vb false,(Value.slice none 0 0)])] :: [])) (Cls u m271 ([(b13,oc 69 [vi 0,vi 0,vb false,(Value.slice none 0 0)])] :: [])) (by kernel_rfl) ?_
   intro w hw
   replace ok:=qbd ok hw
   clear hw
   refine qai (cl1 (cq le_m271 ok [2,3] rfl) (cq le_m271 ok [3] rfl)) fun hT=>kt 0 E rfl hT (qae qbs rfl) fun a E=>qaS 1 E rfl (by kernel_rfl) nP hT (qaj qb3 rfl (qab.cown 0 rfl rfl)) rfl rfl fun a E=>kt 2 E rfl hT (qah rfl) fun a E=>kt 3 E rfl hT (qae qa2 rfl) fun a E=>qaS 4 E rfl (by kernel_rfl) nP hT (qaj qak rfl (qab.cown 0 rfl rfl)) rfl rfl fun a E=>qao [5] (by kernel_rfl) rfl (qar ?_)
   ·refine wo rfl<|qan E qmE rfl (qdZ N v270.Operand r278 o307 l323 r324 l325 r326 r327 r328 e343 hG ok) rfl rfl ?_
    rintro _ w ⟨m363,vs364,rfl,hle,ok,h365,l366,r367,l368,r369,r370,r371⟩
    have le_m0:=le_m0.trans hle
    have le_m233:=le_m233.trans hle
    have le_m271:=le_m271.trans hle
    have h282:=ORow.up qdF hle h282
    obtain ⟨rfl,r372,r373⟩:=h365
    refine ⟨_,rfl,fun a E=>?_⟩
    refine wn<|qai (cl1 (cq le_m271 ok [2,3] rfl) (cq le_m271 ok [3] rfl)) fun hT=>qao [6] (by kernel_rfl) rfl (qar ?_)
    ·refine wo rfl<|qaW (R:=qdI) (xo:=[.tmp 98]) (xs:=([r342.1]:List (Span))) E ok qbO qdd rfl ⟨⟨_,rfl,rfl,⟨rfl,r372,r373⟩⟩,trivial⟩ rfl rfl rfl rfl fun c374 M375 a w E ok h376=>wn<|qai (cl1 (cq le_m271 ok [3,4] rfl) (cq le_m271 ok [4] rfl)) fun hT=>qao [7] (by kernel_rfl) rfl (qar ?_)
     ·refine wo rfl<|qbo (R:=qdI) E ok 2 qdF qbO Tryz.underlying67 rfl h282 (qa0.ofRow h376 0 rfl ok) e359 ⟨_,qdd,rfl⟩ rfl rfl rfl rfl fun c377 M378 a w E ok h379=>wn<|qai (cl1 (cq le_m271 ok [3,4] rfl) (cq le_m271 ok [4] rfl)) fun hT=>kt 8 E rfl hT (qae qbs rfl) fun a E=>qao [9] (by kernel_rfl) rfl (qar ?_)
      ·refine wo rfl<|qad E ok 3 rfl rfl rfl qmx (ORow.cells h379) rfl ⟨(ORow.one h379),trivial⟩ rfl rfl fun w ok=>wn<|qai (cl2 (by kernel_rfl) (cq le_m271 ok [4] rfl)) fun hT=>qaV (by kernel_rfl) ?_
       exact ⟨rfl,⟨m363,c377,M378,le_m271,(ok.pk 5 [1,2,3,4] rfl (by decide)),E.keep [0,2,3],l366,r367,l368,r369,r370,r371,r278,r279,h379⟩⟩
 have hF:=hJ
 refine qcp ((v270.Spans.length:Int) == 4) (fun c295=>?_) (fun c295=>?_)
 rotate_left
 ·have hF:=qcc c295 hF
  cases hF
  refine qaY [] (Cls u m271 ([(pb0,oc 165 [vs r286.s,vi r286.to_,vs r286.w.text,vi r286.w.at_,vi r286.at_,vi r286.e])] :: M281 :: [(b14,oc 69 [vi v270.Operand,vi v270.Mod,vb v270.Not,c280])] :: [(b13,oc 69 [vi 0,vi 0,vb false,(Value.slice none 0 0)])] :: [])) (Cls u m271 ([(pb0,oc 165 [vs r286.s,vi r286.to_,vs r286.w.text,vi r286.w.at_,vi r286.at_,vi r286.e])] :: M281 :: [(b14,oc 69 [vi v270.Operand,vi v270.Mod,vb v270.Not,c280])] :: [(b13,oc 69 [vi 0,vi 0,vb false,(Value.slice none 0 0)])] :: [])) (by kernel_rfl) ?_
  intro w hw
  replace ok:=qbd ok hw
  clear hw
  have le_m271:=Mem.le.refl m271
  refine qai (cl1 (cq le_m271 ok [0,1,2,3] rfl) (cq le_m271 ok [0,1,2,3] rfl)) fun hT=>kt 0 E rfl hT (qae qbs rfl) fun a E=>kt 1 E rfl hT (qaj qb3 rfl (qab.cown 2 rfl rfl)) fun a E=>kt 2 E rfl hT (qcF qbO h282 rfl) fun a E=>kt 3 E rfl hT (qau rfl rfl) fun a E=>kt 4 E rfl hT (qah rfl) fun a E=>?_
  have E:=E.upd 75 c295 rfl
  refine qat 5 false E rfl (by kernel_rfl) nP hT rfl rfl fun a E=>qat 6 false E rfl (by kernel_rfl) nP hT rfl rfl fun a E=>kt 7 E rfl hT (qa1 rfl rfl) fun a E=>kt 8 E rfl hT (qah rfl) fun a E=>qat 9 false E rfl (by kernel_rfl) nP hT rfl rfl fun a E=>qat 10 false E rfl (by kernel_rfl) nP hT rfl rfl fun a E=>qat 11 false E rfl (by kernel_rfl) nP hT rfl rfl fun a E=>qat 12 false E rfl (by kernel_rfl) nP hT rfl rfl fun a E=>qat 13 false E rfl (by kernel_rfl) nP hT rfl rfl fun a E=>qat 14 false E rfl (by kernel_rfl) nP hT rfl rfl fun a E=>qat 15 false E rfl (by kernel_rfl) nP hT rfl rfl fun a E=>qat 16 false E rfl (by kernel_rfl) nP hT rfl rfl fun a E=>qat 17 false E rfl (by kernel_rfl) nP hT rfl rfl fun a E=>qat 18 false E rfl (by kernel_rfl) nP hT rfl rfl fun a E=>kt 19 E rfl hT (qa1 rfl rfl) fun a E=>qaV (by kernel_rfl) ?_
  exact ⟨rfl,⟨ok,E.keep [0,2,3,90]⟩⟩
 have hF:=qcg c295 hF
 refine bd hF fun r296 e297 hF=>qcp r296 (fun c298=>?_) (fun c298=>?_)
 rotate_left
 ·have hF:=qcc c298 hF
  cases hF
  refine qaY [] (Cls u m271 ([(pb0,oc 165 [vs r286.s,vi r286.to_,vs r286.w.text,vi r286.w.at_,vi r286.at_,vi r286.e])] :: M281 :: [(b14,oc 69 [vi v270.Operand,vi v270.Mod,vb v270.Not,c280])] :: [(b13,oc 69 [vi 0,vi 0,vb false,(Value.slice none 0 0)])] :: [])) (Cls u m271 ([(pb0,oc 165 [vs r286.s,vi r286.to_,vs r286.w.text,vi r286.w.at_,vi r286.at_,vi r286.e])] :: M281 :: [(b14,oc 69 [vi v270.Operand,vi v270.Mod,vb v270.Not,c280])] :: [(b13,oc 69 [vi 0,vi 0,vb false,(Value.slice none 0 0)])] :: [])) (by kernel_rfl) ?_
  intro w hw
  replace ok:=qbd ok hw
  clear hw
  have le_m271:=Mem.le.refl m271
  refine qai (cl1 (cq le_m271 ok [0,1,2,3] rfl) (cq le_m271 ok [0,1,2,3] rfl)) fun hT=>kt 0 E rfl hT (qae qbs rfl) fun a E=>kt 1 E rfl hT (qaj qb3 rfl (qab.cown 2 rfl rfl)) fun a E=>kt 2 E rfl hT (qcF qbO h282 rfl) fun a E=>kt 3 E rfl hT (qau rfl rfl) fun a E=>kt 4 E rfl hT (qah rfl) fun a E=>?_
  have E:=E.upd 75 c295 rfl
  refine kt 5 E rfl hT (qah rfl) fun a E=>qao [6] (by kernel_rfl) rfl (qar ?_)
  ·refine wo rfl<|lc E qmj rfl (qdH N r286 l288 r289 l290 r291 r292 r293 e297 hG ok) fun w ok a E=>wn<|qai (cl1 (cq le_m271 ok [0,1,2,3] rfl) (cq le_m271 ok [0,1,2,3] rfl)) fun hT=>kt 7 E rfl hT (qa8 rfl rfl) fun a E=>kt 8 E rfl hT (qah rfl) fun a E=>?_
   have E:=E.upd 79 c298 rfl
   refine qat 9 false E rfl (by kernel_rfl) nP hT rfl rfl fun a E=>qat 10 false E rfl (by kernel_rfl) nP hT rfl rfl fun a E=>qat 11 false E rfl (by kernel_rfl) nP hT rfl rfl fun a E=>qat 12 false E rfl (by kernel_rfl) nP hT rfl rfl fun a E=>qat 13 false E rfl (by kernel_rfl) nP hT rfl rfl fun a E=>qat 14 false E rfl (by kernel_rfl) nP hT rfl rfl fun a E=>qat 15 false E rfl (by kernel_rfl) nP hT rfl rfl fun a E=>qat 16 false E rfl (by kernel_rfl) nP hT rfl rfl fun a E=>qat 17 false E rfl (by kernel_rfl) nP hT rfl rfl fun a E=>qat 18 false E rfl (by kernel_rfl) nP hT rfl rfl fun a E=>kt 19 E rfl hT (qa1 rfl rfl) fun a E=>qaV (by kernel_rfl) ?_
   exact ⟨rfl,⟨ok,E.keep [0,2,3,90]⟩⟩
 have hF:=qcg c298 hF
 obtain ⟨r299,e300,hF⟩:=bnd hF
 obtain ⟨r302,e303,hF⟩:=bnd hF
 obtain rfl:=sj hF
 refine qaY [] (Cls u m271 ([(pb0,oc 165 [vs r286.s,vi r286.to_,vs r286.w.text,vi r286.w.at_,vi r286.at_,vi r286.e])] :: M281 :: [(b14,oc 69 [vi v270.Operand,vi v270.Mod,vb v270.Not,c280])] :: [(b13,oc 69 [vi 0,vi 0,vb false,(Value.slice none 0 0)])] :: [])) (Cls u m271 ([(pb0,oc 165 [vs r286.s,vi r286.to_,vs r286.w.text,vi r286.w.at_,vi r286.at_,vi r286.e])] :: M281 :: [(b14,oc 69 [vi v270.Operand,vi v270.Mod,vb v270.Not,c280])] :: [(b13,oc 69 [vi 0,vi 0,vb false,(Value.slice none 0 0)])] :: [])) (by kernel_rfl) ?_
 intro w hw
 replace ok:=qbd ok hw
 clear hw
 have le_m271:=Mem.le.refl m271
 refine qai (cl1 (cq le_m271 ok [0,1,2,3] rfl) (cq le_m271 ok [0,1,2,3] rfl)) fun hT=>kt 0 E rfl hT (qae qbs rfl) fun a E=>kt 1 E rfl hT (qaj qb3 rfl (qab.cown 2 rfl rfl)) fun a E=>kt 2 E rfl hT (qcF qbO h282 rfl) fun a E=>kt 3 E rfl hT (qau rfl rfl) fun a E=>kt 4 E rfl hT (qah rfl) fun a E=>?_
 have E:=E.upd 75 c295 rfl
 refine kt 5 E rfl hT (qah rfl) fun a E=>qao [6] (by kernel_rfl) rfl (qar ?_)
 ·refine wo rfl<|lc E qmj rfl (qdH N r286 l288 r289 l290 r291 r292 r293 e297 hG ok) fun w ok a E=>wn<|qai (cl1 (cq le_m271 ok [0,1,2,3] rfl) (cq le_m271 ok [0,1,2,3] rfl)) fun hT=>kt 7 E rfl hT (qa8 rfl rfl) fun a E=>kt 8 E rfl hT (qah rfl) fun a E=>?_
  have E:=E.upd 79 c298 rfl
  refine kt 9 E rfl hT (qah rfl) fun a E=>kt 10 E rfl hT (qa6 rfl) fun a E=>kt 11 E rfl hT (qae qgd rfl) fun a E=>kt 12 E rfl hT (qae qkn rfl) fun a E=>kt 13 E rfl hT (qaj qfs rfl (qab.cown 0 rfl rfl)) fun a E=>kt 15 E rfl hT (qae qa2 rfl) fun a E=>kt 16 E rfl hT (qaj qak rfl (qab.cown 2 rfl rfl)) fun a E=>qao [14] (by kernel_rfl) rfl (qar ?_)
  ·refine wo rfl<|qan E qmq rfl (qfl N r286.w.text l290 e300 hG ok) rfl rfl ?_
   rintro _ w ⟨⟨rfl,ok⟩,r305⟩
   refine ⟨_,rfl,fun a E=>?_⟩
   refine wn<|qai (cl1 (cq le_m271 ok [0,1,2,3] rfl) (cq le_m271 ok [0,1,2,3] rfl)) fun hT=>qao [17] (by kernel_rfl) rfl (qar ?_)
   ·refine wo rfl<|qan E qll rfl (qct N v270.Operand r278 e303 hG ok) rfl rfl ?_
    rintro _ w ⟨⟨rfl,ok⟩,r306⟩
    refine ⟨_,rfl,fun a E=>?_⟩
    refine wn<|qai (cl1 (cq le_m271 ok [0,1,2,3] rfl) (cq le_m271 ok [0,1,2,3] rfl)) fun hT=>kt 18 E rfl hT (qeC rfl rfl) fun a E=>kt 19 E rfl hT (qa8 rfl rfl) fun a E=>qaV (by kernel_rfl) ?_
    exact ⟨rfl,⟨ok,E.keep [0,2,3,90]⟩⟩
end Go.Proofs.YtidfofhmnlhfjaaGreatDoor
namespace Go.Proofs.YtidfofhmnlhfjaaGreatDoor
open Go.X
variable {u:World} {m0:Mem} {S:Segs} {w:World}
set_option maxHeartbeats 4000000
set_option maxRecDepth 100000
def qhP (u:World) (m0:Mem) (S:Segs) (r:(List (List (Relation))) × Int × Int) (a:Act) (w:World):Prop :=
 ∃ m1 v0,m0.le m1 ∧ Ok u m1 S w ∧ a.defers = [] ∧ RVs Tryz.prog a w [.t 2 v0,.t 3 (.int .i64 r.2.1),.t 4 (.int .i64 r.2.2)] ∧ (pL 1 (pL 4 qap)) m1 [v0] r.1 ∧ InR .i64 r.2.1 ∧ InR .i64 r.2.2
theorem qkH (N:Nat) (s_0:List UInt8) (ls_0:s_0.length ≤ LIMS) {r:(List (List (Relation))) × Int × Int} (hF:qg0 N s_0 = some r) (hG:Glob u) (ok:Ok u m0 S w) :
  Calls Tryz.prog 80 [vs s_0].toArray w fun e w'=>∃ m1 v0,e = .returned (.tuple [v0,(.int .i64 r.2.1),(.int .i64 r.2.2)].toArray) ∧ m0.le m1 ∧ Ok u m1 S w' ∧ (pL 1 (pL 4 qap)) m1 [v0] r.1 ∧ InR .i64 r.2.1 ∧ InR .i64 r.2.2:=by
 have le_m0:=Mem.le.refl m0
 unfold qg0 at hF
 refine en (qhP u m0 S) r Tryz.func80 rfl rfl rfl (by rintro a w ⟨m1,v0,hle,ok,hd,hrv,h0,h1,h2⟩; exact qbG [.t 2 v0,.t 3 (.int .i64 r.2.1),.t 4 (.int .i64 r.2.2)] hd rfl hrv ⟨m1,v0,rfl,hle,ok,h0,h1,h2⟩) fun fin a E=>sg<|av E rfl fun a E=>av E rfl fun a E=>aw E rfl fun a E=>sg<|mv E rfl fun a E=>lw E (qaF (ps:=[(0,.tmp 8)]) (qs:=[(0,[vs s_0])]) (cs:=[vs s_0,vi 0,(vs ([])),vi 0,vi 0,vi 0]) qlY qmH rfl ⟨rfl,rfl,rfl,trivial⟩ rfl) fun a E=>qbz E ok rfl rfl rfl fun b1 a w E ok=>aw E rfl fun a E=>sg<|mv E rfl fun a E=>bd hF fun r2 e3 hF=>qan E qdp rfl (qaC N (Parser.mk s_0 0 (Word.mk ([]) 0) 0 0) ls_0 (ir 0) (Nat.zero_le _) (ir 0) (ir 0) (ir 0) e3 hG ok) rfl rfl ?_
 rintro _ w ⟨⟨rfl,ok⟩,l4,r5,l6,r7,r8,r9⟩
 refine ⟨_,rfl,fun a E=>?_⟩
 refine wn<|sg<|qqP (xo:=[.const (Value.slice none 0 0)]) (vs:=[(Value.slice none 0 0)]) (cs:=[(Value.slice none 0 0)]) E ok qcM qop rfl (fun v hv=>by rw [List.mem_singleton.1 hv]; rfl) rfl rfl rfl rfl rfl fun b10 a w E ok=>aw E rfl fun a E=>sg<|aw E rfl fun a E=>wp_seq<|wp_block ?_
 obtain ⟨M22,ok,h23⟩:=qcf (e:=69) (k:=4) (R:=qap) ok
 refine bd hF fun o24 hL hF=>qaE _ (fun (s:Int × (List (Relation)) × Parser) a w=>∃ m25 c27 M28,m0.le m25 ∧ Ok u m25 (M28 :: [(b10,oc 66 [c27])] :: [(b1,oc 165 [vs s.2.2.s,vi s.2.2.to_,vs s.2.2.w.text,vi s.2.2.w.at_,vi s.2.2.at_,vi s.2.2.e])] :: S) w ∧ Env 77 a [(0,vs s_0),(5,vp b1),(6,(.slice (some ⟨b10,0,none⟩) 1 1)),(7,vi s.1)] ∧ InR .i64 s.1 ∧ ORow 69 4 qap m25 c27 s.2.1 M28 ∧ s.2.2.s.length ≤ LIMS ∧ InR .i64 s.2.2.to_ ∧ s.2.2.w.text.length ≤ LIMS ∧ InR .i64 s.2.2.w.at_ ∧ InR .i64 s.2.2.at_ ∧ InR .i64 s.2.2.e) (fun (b:((Parser × (List (Relation))) ⊕ ((List (List (Relation))) × Int × Int))) e a w=>(Sum.elim (fun b352=>e = (.exit 0) ∧ ∃ m353 c360 M361,m0.le m353 ∧ Ok u m353 (M361 :: [(b10,oc 66 [c360])] :: [(b1,oc 165 [vs b352.1.s,vi b352.1.to_,vs b352.1.w.text,vi b352.1.w.at_,vi b352.1.at_,vi b352.1.e])] :: S) w ∧ Env 77 a [(5,vp b1)] ∧ b352.1.s.length ≤ LIMS ∧ InR .i64 b352.1.to_ ∧ b352.1.w.text.length ≤ LIMS ∧ InR .i64 b352.1.w.at_ ∧ InR .i64 b352.1.at_ ∧ InR .i64 b352.1.e ∧ ORow 69 4 qap m353 c360 b352.2 M361) (fun b363=>e = .ret ∧ qhP u m0 S b363 a w)) b) ?_ ?_ N _ a w hL ⟨m0,(Value.slice none 0 0),M22,Mem.le.refl _,ok,E.keep [0,5,6,7],(ir 0),h23,l4,r5,l6,r7,r8,r9⟩
 rotate_left
 ·intro e a w _ hO
  rcases o24 with o24 | o24
  rotate_left
  ·obtain ⟨rfl,hret⟩:=hO
   refine qaz<|qaq ?_
   exact fin hF hret
  have hF:=qca hF
  obtain ⟨rfl,m342,c349,M350,hle,ok,E,l343,r344,l345,r346,r347,r348,h351⟩:=hO
  have le_m0:=le_m0.trans hle
  refine qaM<|qaa<|wp_seq<|qdc (by kernel_rfl) (by kernel_rfl) ok<|qv E (qah rfl) fun a E=>qv E (qa6 rfl) fun a E=>qv E (qae qnV rfl) fun a E=>qv E (qaj qak rfl (qab.own 2 rfl rfl)) fun a E=>qv E (qah rfl) fun a E=>qv E (qa6 rfl) fun a E=>qv E (qae qhe rfl) fun a E=>qv E (qaj qj7 rfl (qab.own 2 rfl rfl)) fun a E=>qv E (qcZ rfl) fun a E=>qv E (qcZ rfl) fun a E=>qv E (qcZ rfl) fun a E=>wpQuiet_nil ?_
  intro w ok
  refine qaa<|wp_ret ?_
  exact fin hF ⟨m342,(.slice none 0 0),le_m0,ok.drop.drop.drop,E.d,⟨rv_t E rfl,rv_t E rfl,rv_t E rfl,trivial⟩,qeO,r347,r348⟩
 rintro ⟨v36,v37,v38⟩ a w r ⟨m39,c41,M42,hle,ok,E,r40,h43,l44,r45,l46,r47,r48,r49⟩ hF
 replace hF:qf8 N s_0 v36 v37 v38 = some r:=hF
 unfold qf8 at hF
 have le_m0:=le_m0.trans hle
 refine wp_seq<|sg<|mv E rfl fun a E=>lw E (qa6 rfl) fun a E=>fk E ok qhe qj7 rfl 2 rfl rfl fun a E=>lw E (qau rfl rfl) fun a E=>wn<|cg E rfl hF (fun c50 hF=>?_) fun c50 hF=>?_
 ·refine wp_exit<|qaA ?_
  cases hF
  exact so (sl ⟨rfl,⟨m39,c41,M42,le_m0,ok,E.keep [5],l44,r45,l46,r47,r48,r49,h43⟩⟩)
 refine wp_skip<|qaa<|wp_block<|wp_seq<|sg<|mv E rfl fun a E=>lw E (qau rfl rfl) fun a E=>mv E rfl fun a E=>bw E 21 hF (fun c51 hF E=>?_) fun c51 hF E=>?_
 ·as_aux_lemma =>
   refine lsq E fun a E=>pf E rfl rfl fun a E=>wn<|c_if E rfl (fun h=>by cases h) (fun _=>?_)
   refine wp_skip<|qaa<|sg<|mv E rfl fun a E=>lw E (qbq rfl rfl) fun a E=>av E rfl fun a E=>wn<|wp_seq<|bd hF fun o209 hJ hF=>qaG (Q':=fun e a w=>e = .normal ∧ ∃ m210 c211 M212,m39.le m210 ∧ Ok u m210 (M212 :: [(b10,oc 66 [c211])] :: [(b1,oc 165 [vs o209.2.s,vi o209.2.to_,vs o209.2.w.text,vi o209.2.w.at_,vi o209.2.at_,vi o209.2.e])] :: S) w ∧ Env 77 a [(0,vs s_0),(5,vp b1),(6,(.slice (some ⟨b10,0,none⟩) 1 1)),(7,(vi (IntKind.wrap .i64 (v36 + 1))))] ∧ ORow 69 4 qap m210 c211 o209.1 M212 ∧ o209.2.s.length ≤ LIMS ∧ InR .i64 o209.2.to_ ∧ o209.2.w.text.length ≤ LIMS ∧ InR .i64 o209.2.w.at_ ∧ InR .i64 o209.2.at_ ∧ InR .i64 o209.2.e) ?_ ?_
   ·have hF:=hJ
    have le_m39:=Mem.le.refl m39
    obtain ⟨r220,e221,hF⟩:=bnd hF
    obtain ⟨l238,e239,hF⟩:=bnd hF
    obtain rfl:=sj hF
    refine qaY [9] (Cls u m39 ([(b10,oc 66 [c41])] :: [])) (Cls u m39 ([])) (by kernel_rfl) ?_
    intro w hw
    replace ok:=qbd ok hw
    clear hw
    refine qai (cl1 (cq le_m39 ok [1] rfl) (cq le_m39 ok [] rfl)) fun hT=>kt 0 E rfl hT (qah rfl) fun a E=>kt 1 E rfl hT (qah rfl) fun a E=>kt 2 E rfl hT (qlE Tryz.underlying23 rfl) fun a E=>kt 3 E rfl hT (qhI rfl rfl) fun a E=>kt 4 E rfl hT (qah rfl) fun a E=>kt 5 E rfl hT (qah rfl) fun a E=>kt 6 E rfl hT (qlE Tryz.underlying23 rfl) fun a E=>kt 7 E rfl hT (qhI rfl rfl) fun a E=>kt 8 E rfl hT (qmo qcM rfl rfl rfl) fun a E=>qaS 9 E rfl (by kernel_rfl) nP hT (qaj qci rfl (qab.cown 0 rfl rfl)) rfl rfl fun a E=>kt 10 E rfl hT (qah rfl) fun a E=>qao [11] (by kernel_rfl) rfl (qar ?_)
    ·refine qbm (o:=_) rfl ?_
     replace ok:Ok u m39 ([(b1,oc 165 [vs v38.s,vi v38.to_,vs v38.w.text,vi v38.w.at_,vi v38.at_,vi v38.e])] :: M42 :: [(b10,oc 66 [c41])] :: S) w:=(ok.pk 3 [2,0,1] rfl (by decide))
     refine qan E qph rfl (qfP N v38 l44 r45 l46 r47 r48 r49 e221 hG ok) rfl rfl ?_
     rintro _ w ⟨m243,vs244,rfl,hle,ok,h245,l246,r247,l248,r249,r250,r251⟩
     have le_m0:=le_m0.trans hle
     have le_m39:=le_m39.trans hle
     have h43:=ORow.up qaf hle h43
     obtain ⟨c254,rfl,r252,r253,h255⟩:=h245
     refine ⟨_,rfl,fun a E=>?_⟩
     refine wn<|qai (cl1 (cq le_m39 ok [2] rfl) (cq le_m39 ok [] rfl)) fun hT=>qao [12] (by kernel_rfl) rfl (qar ?_)
     ·refine wo rfl<|qaW (R:=qap) (xo:=[.tmp 40]) (xs:=([r220.1]:List (Relation))) E ok qa4 qcU rfl ⟨⟨_,rfl,rfl,⟨_,rfl,r252,r253,h255⟩⟩,trivial⟩ rfl rfl rfl rfl fun c256 M257 a w E ok h258=>wn<|qai (cl1 (cq le_m39 ok [3] rfl) (cq le_m39 ok [] rfl)) fun hT=>qao [13] (by kernel_rfl) rfl (qar ?_)
      ·refine wo rfl<|qbo (R:=qap) E ok 2 qaf qa4 Tryz.underlying66 rfl h43 (qa0.ofRow h258 0 rfl ok) e239 ⟨_,qcU,rfl⟩ rfl rfl rfl rfl fun c259 M260 a w E ok h261=>wn<|qai (cl1 (cq le_m39 ok [3] rfl) (cq le_m39 ok [] rfl)) fun hT=>kt 14 E rfl hT (qmo qcM rfl rfl rfl) fun a E=>qao [15] (by kernel_rfl) rfl (qar ?_)
       ·refine wo rfl<|qad E ok 3 rfl rfl rfl qnE (ORow.cells h261) rfl ⟨(ORow.one h261),trivial⟩ rfl rfl fun w ok=>wn<|qai (cl2 (by kernel_rfl) (cq le_m39 ok [] rfl)) fun hT=>qaV (by kernel_rfl) ?_
        exact ⟨rfl,⟨m243,c259,M260,le_m39,(ok.pk 4 [2,3,1] rfl (by decide)),E.keep [0,5,6,7],h261,l246,r247,l248,r249,r250,r251⟩⟩
   intro e a w hO
   obtain ⟨rfl,m262,c263,M264,hle,ok,E,h265,l266,r267,l268,r269,r270,r271⟩:=hO
   have le_m0:=le_m0.trans hle
   refine qaa<|wp_seq<|sg<|mv E rfl fun a E=>?_
   obtain ⟨r272,e273,hF⟩:=bnd hF
   replace ok:Ok u m262 ([(b1,oc 165 [vs o209.2.s,vi o209.2.to_,vs o209.2.w.text,vi o209.2.w.at_,vi o209.2.at_,vi o209.2.e])] :: M264 :: [(b10,oc 66 [c263])] :: S) w:=(ok.pk 3 [2,0,1] rfl (by decide))
   refine lc E qel rfl (qaP N ([]) (show ([]:List UInt8).length ≤ LIMS by decide) o209.2 l266 r267 l268 r269 r270 r271 e273 hG ok) fun w ok a E=>mv E rfl fun a E=>qcp r272 (fun c274=>?_) (fun c274=>?_)
   rotate_left
   ·have hF:=qcc c274 hF
    have E:=E.upd 46 c274 rfl
    refine lsz E fun a E=>lsz E fun a E=>pf E rfl rfl fun a E=>wn<|c_if E rfl (fun h=>by cases h) (fun _=>?_)
    refine wp_skip<|qaa<|wp_seq<|sg<|mv E rfl fun a E=>bd hF fun r311 e312 hF=>lc E qel rfl (qaP N ([111,114]) (show ([111,114]:List UInt8).length ≤ LIMS by decide) o209.2 l266 r267 l268 r269 r270 r271 e312 hG ok) fun w ok a E=>wn<|cf E rfl hF (fun c313 hF=>?_) fun c313 hF=>?_
    ·cases hF
    refine sg<|mv E rfl fun a E=>bd hF fun r315 e316 hF=>lc E qel rfl (qaP N ([97,110,100]) (show ([97,110,100]:List UInt8).length ≤ LIMS by decide) o209.2 l266 r267 l268 r269 r270 r271 e316 hG ok) fun w ok a E=>lw E (qbu rfl) fun a E=>wn<|cg E rfl hF (fun c317 hF=>?_) fun c317 hF=>?_
    ·refine wp_skip<|qaa<|qac<|mv E rfl fun a E=>bd hF fun r334 e335 hF=>qan E qdp rfl (qaC N o209.2 l266 r267 l268 r269 r270 r271 e335 hG ok) rfl rfl ?_
     rintro _ w ⟨⟨rfl,ok⟩,l336,r337,l338,r339,r340,r341⟩
     refine ⟨_,rfl,fun a E=>?_⟩
     refine wpList_nil<|qal ?_
     cases hF
     exact qas ⟨m262,c263,M264,le_m0,(ok.pk 3 [1,2,0] rfl (by decide)),E.keep [0,5,6,7],(InR.wrap _ _),h265,l336,r337,l338,r339,r340,r341⟩
    refine qac<|mv E rfl fun a E=>bd hF fun r318 e319 hF=>qan E qeg rfl (qaK N 3 (ir 3) o209.2 l266 r267 l268 r269 r270 r271 e319 hG ok) rfl rfl ?_
    rintro _ w ⟨⟨rfl,ok⟩,l320,r321,l322,r323,r324,r325⟩
    refine ⟨_,rfl,fun a E=>?_⟩
    refine wn<|qac<|mv E rfl fun a E=>bd hF fun r326 e327 hF=>qan E qdp rfl (qaC N r318 l320 r321 l322 r323 r324 r325 e327 hG ok) rfl rfl ?_
    rintro _ w ⟨⟨rfl,ok⟩,l328,r329,l330,r331,r332,r333⟩
    refine ⟨_,rfl,fun a E=>?_⟩
    refine wpList_nil<|qal ?_
    cases hF
    exact qas ⟨m262,c263,M264,le_m0,(ok.pk 3 [1,2,0] rfl (by decide)),E.keep [0,5,6,7],(InR.wrap _ _),h265,l328,r329,l330,r331,r332,r333⟩
   have hF:=qcg c274 hF
   have E:=E.upd 46 c274 rfl
   refine mv E rfl fun a E=>lw E (qa6 rfl) fun a E=>fv E qgd rfl fun a E=>fk E ok qlU qak rfl 0 rfl rfl fun a E=>mv E rfl fun a E=>lw E (qeZ Tryz.underlying9 rfl) fun a E=>lw E (qau rfl rfl) fun a E=>pt E rfl rfl fun a E=>wn<|cf E rfl hF (fun c275 hF=>?_) fun c275 hF=>?_
   ·refine sg<|mv E rfl fun a E=>av E rfl fun a E=>av E rfl fun a E=>aw E rfl fun a E=>wp_ret<|qaq<|qaz ?_
    obtain ⟨m276,hle,ok,hfz⟩:=(ok.frs 1 rfl).freeze
    have h277:=ORow.froz qaf h265 hle hfz (by decide)
    have le_m0:=le_m0.trans hle
    have lits:=(show Lits 1 (pL 4 qap) m276 [c263] ([o209.1]:List (List (Relation))) from ⟨⟨_,(qbW h277),rfl,h277⟩,trivial⟩)
    obtain ⟨m278,hle,ok,hfz⟩:=(ok.frs 1 rfl).freeze
    have h279:=qmM (n:=1) (mL qaf) lits (qn3 (qbW h277)) hle hfz rfl rfl
    clear lits
    have le_m0:=le_m0.trans hle
    have h277:=(mL qaf).up hle h277
    cases hF
    exact so (sr ⟨rfl,⟨m278,(.slice (some ⟨b10,0,none⟩) 1 1),le_m0,ok.drop,E.d,⟨rv_t E rfl,rv_t E rfl,rv_t E rfl,trivial⟩,h279,(ir 0),(ir 0)⟩⟩)
   refine wp_skip<|qaa<|wp_seq<|sg<|mv E rfl fun a E=>bd hF fun r280 e281 hF=>lc E qel rfl (qaP N ([111,114]) (show ([111,114]:List UInt8).length ≤ LIMS by decide) o209.2 l266 r267 l268 r269 r270 r271 e281 hG ok) fun w ok a E=>wn<|cf E rfl hF (fun c282 hF=>?_) fun c282 hF=>?_
   ·cases hF
   refine sg<|mv E rfl fun a E=>bd hF fun r284 e285 hF=>lc E qel rfl (qaP N ([97,110,100]) (show ([97,110,100]:List UInt8).length ≤ LIMS by decide) o209.2 l266 r267 l268 r269 r270 r271 e285 hG ok) fun w ok a E=>lw E (qbu rfl) fun a E=>wn<|cg E rfl hF (fun c286 hF=>?_) fun c286 hF=>?_
   ·refine wp_skip<|qaa<|qac<|mv E rfl fun a E=>bd hF fun r303 e304 hF=>qan E qdp rfl (qaC N o209.2 l266 r267 l268 r269 r270 r271 e304 hG ok) rfl rfl ?_
    rintro _ w ⟨⟨rfl,ok⟩,l305,r306,l307,r308,r309,r310⟩
    refine ⟨_,rfl,fun a E=>?_⟩
    refine wpList_nil<|qal ?_
    cases hF
    exact qas ⟨m262,c263,M264,le_m0,(ok.pk 3 [1,2,0] rfl (by decide)),E.keep [0,5,6,7],(InR.wrap _ _),h265,l305,r306,l307,r308,r309,r310⟩
   refine qac<|mv E rfl fun a E=>bd hF fun r287 e288 hF=>qan E qeg rfl (qaK N 3 (ir 3) o209.2 l266 r267 l268 r269 r270 r271 e288 hG ok) rfl rfl ?_
   rintro _ w ⟨⟨rfl,ok⟩,l289,r290,l291,r292,r293,r294⟩
   refine ⟨_,rfl,fun a E=>?_⟩
   refine wn<|qac<|mv E rfl fun a E=>bd hF fun r295 e296 hF=>qan E qdp rfl (qaC N r287 l289 r290 l291 r292 r293 r294 e296 hG ok) rfl rfl ?_
   rintro _ w ⟨⟨rfl,ok⟩,l297,r298,l299,r300,r301,r302⟩
   refine ⟨_,rfl,fun a E=>?_⟩
   refine wpList_nil<|qal ?_
   cases hF
   exact qas ⟨m262,c263,M264,le_m0,(ok.pk 3 [1,2,0] rfl (by decide)),E.keep [0,5,6,7],(InR.wrap _ _),h265,l297,r298,l299,r300,r301,r302⟩
 refine mv E rfl fun a E=>?_
 obtain ⟨r52,e53,hF⟩:=bnd hF
 replace ok:Ok u m39 ([(b1,oc 165 [vs v38.s,vi v38.to_,vs v38.w.text,vi v38.w.at_,vi v38.at_,vi v38.e])] :: M42 :: [(b10,oc 66 [c41])] :: S) w:=(ok.pk 3 [2,0,1] rfl (by decide))
 refine lc E qr9 rfl (qij N v38 l44 r45 l46 r47 r48 r49 e53 hG ok) fun w ok a E=>pt E rfl rfl fun a E=>wn<|bd hF fun o54 hJ hF=>qaG (Q':=fun e a w=>e = .normal ∧ Ok u m39 ([(b1,oc 165 [vs o54.s,vi o54.to_,vs o54.w.text,vi o54.w.at_,vi o54.at_,vi o54.e])] :: M42 :: [(b10,oc 66 [c41])] :: S) w ∧ Env 77 a [(0,vs s_0),(5,vp b1),(6,(.slice (some ⟨b10,0,none⟩) 1 1)),(7,vi v36)] ∧ o54.s.length ≤ LIMS ∧ InR .i64 o54.to_ ∧ o54.w.text.length ≤ LIMS ∧ InR .i64 o54.w.at_ ∧ InR .i64 o54.at_ ∧ InR .i64 o54.e) ?_ ?_
 ·have hF:=hJ
  refine cg E rfl hF (fun c61 hF=>?_) fun c61 hF=>?_
  ·refine wp_skip ?_
   cases hF
   exact ⟨rfl,⟨ok,E.keep [0,5,6,7],l44,r45,l46,r47,r48,r49⟩⟩
  refine qac<|mv E rfl fun a E=>bd hF fun r62 e63 hF=>qan E qeg rfl (qaK N 6 (ir 6) v38 l44 r45 l46 r47 r48 r49 e63 hG ok) rfl rfl ?_
  rintro _ w ⟨⟨rfl,ok⟩,l64,r65,l66,r67,r68,r69⟩
  refine ⟨_,rfl,fun a E=>?_⟩
  refine wpList_nil ?_
  cases hF
  exact ⟨rfl,⟨ok,E.keep [0,5,6,7],l64,r65,l66,r67,r68,r69⟩⟩
 intro e a w hO
 obtain ⟨rfl,ok,E,l70,r71,l72,r73,r74,r75⟩:=hO
 refine qaa<|sg<|mv E rfl fun a E=>lw E (qbq rfl rfl) fun a E=>aw E rfl fun a E=>wp_seq<|bd hF fun o76 hJ hF=>qaG (Q':=fun e a w=>e = .normal ∧ ∃ m77 c84 M85,m39.le m77 ∧ Ok u m77 ([(b1,oc 165 [vs o76.1.s,vi o76.1.to_,vs o76.1.w.text,vi o76.1.w.at_,vi o76.1.at_,vi o76.1.e])] :: M85 :: [(b10,oc 66 [c84])] :: S) w ∧ Env 77 a [(0,vs s_0),(5,vp b1),(6,(.slice (some ⟨b10,0,none⟩) 1 1)),(7,(vi (IntKind.wrap .i64 (v36 + 1))))] ∧ o76.1.s.length ≤ LIMS ∧ InR .i64 o76.1.to_ ∧ o76.1.w.text.length ≤ LIMS ∧ InR .i64 o76.1.w.at_ ∧ InR .i64 o76.1.at_ ∧ InR .i64 o76.1.e ∧ ORow 69 4 qap m77 c84 o76.2 M85) ?_ ?_
 ·have hF:=hJ
  have le_m39:=Mem.le.refl m39
  obtain ⟨r87,e88,hF⟩:=bnd hF
  obtain ⟨l105,e106,hF⟩:=bnd hF
  obtain rfl:=sj hF
  refine qaY [9] (Cls u m39 ([(b10,oc 66 [c41])] :: [])) (Cls u m39 ([])) (by kernel_rfl) ?_
  intro w hw
  replace ok:=qbd ok hw
  clear hw
  refine qai (cl1 (cq le_m39 ok [2] rfl) (cq le_m39 ok [] rfl)) fun hT=>kt 0 E rfl hT (qah rfl) fun a E=>kt 1 E rfl hT (qah rfl) fun a E=>kt 2 E rfl hT (qlE Tryz.underlying23 rfl) fun a E=>kt 3 E rfl hT (qhI rfl rfl) fun a E=>kt 4 E rfl hT (qah rfl) fun a E=>kt 5 E rfl hT (qah rfl) fun a E=>kt 6 E rfl hT (qlE Tryz.underlying23 rfl) fun a E=>kt 7 E rfl hT (qhI rfl rfl) fun a E=>kt 8 E rfl hT (qmo qcM rfl rfl rfl) fun a E=>qaS 9 E rfl (by kernel_rfl) nP hT (qaj qci rfl (qab.cown 0 rfl rfl)) rfl rfl fun a E=>kt 10 E rfl hT (qah rfl) fun a E=>qao [11] (by kernel_rfl) rfl (qar ?_)
  ·refine wo rfl<|qan E qph rfl (qfP N o54 l70 r71 l72 r73 r74 r75 e88 hG ok) rfl rfl ?_
   rintro _ w ⟨m110,vs111,rfl,hle,ok,h112,l113,r114,l115,r116,r117,r118⟩
   have le_m0:=le_m0.trans hle
   have le_m39:=le_m39.trans hle
   have h43:=ORow.up qaf hle h43
   obtain ⟨c121,rfl,r119,r120,h122⟩:=h112
   refine ⟨_,rfl,fun a E=>?_⟩
   refine wn<|qai (cl1 (cq le_m39 ok [2] rfl) (cq le_m39 ok [] rfl)) fun hT=>qao [12] (by kernel_rfl) rfl (qar ?_)
   ·refine wo rfl<|qaW (R:=qap) (xo:=[.tmp 40]) (xs:=([r87.1]:List (Relation))) E ok qa4 qcU rfl ⟨⟨_,rfl,rfl,⟨_,rfl,r119,r120,h122⟩⟩,trivial⟩ rfl rfl rfl rfl fun c123 M124 a w E ok h125=>wn<|qai (cl1 (cq le_m39 ok [3] rfl) (cq le_m39 ok [] rfl)) fun hT=>qao [13] (by kernel_rfl) rfl (qar ?_)
    ·refine wo rfl<|qbo (R:=qap) E ok 2 qaf qa4 Tryz.underlying66 rfl h43 (qa0.ofRow h125 0 rfl ok) e106 ⟨_,qcU,rfl⟩ rfl rfl rfl rfl fun c126 M127 a w E ok h128=>wn<|qai (cl1 (cq le_m39 ok [3] rfl) (cq le_m39 ok [] rfl)) fun hT=>kt 14 E rfl hT (qmo qcM rfl rfl rfl) fun a E=>qao [15] (by kernel_rfl) rfl (qar ?_)
     ·refine wo rfl<|qad E ok 3 rfl rfl rfl qnE (ORow.cells h128) rfl ⟨(ORow.one h128),trivial⟩ rfl rfl fun w ok=>wn<|qai (cl2 (by kernel_rfl) (cq le_m39 ok [] rfl)) fun hT=>qaV (by kernel_rfl) ?_
      exact ⟨rfl,⟨m110,c126,M127,le_m39,(ok.pk 4 [1,2,3] rfl (by decide)),E.keep [0,5,6,7],l113,r114,l115,r116,r117,r118,h128⟩⟩
 intro e a w hO
 obtain ⟨rfl,m129,c136,M137,hle,ok,E,l130,r131,l132,r133,r134,r135,h138⟩:=hO
 have le_m0:=le_m0.trans hle
 refine qaa<|wp_seq<|sg<|mv E rfl fun a E=>bd hF fun r139 e140 hF=>lc E qel rfl (qaP N ([]) (show ([]:List UInt8).length ≤ LIMS by decide) o76.1 l130 r131 l132 r133 r134 r135 e140 hG ok) fun w ok a E=>mv E rfl fun a E=>qcp r139 (fun c141=>?_) (fun c141=>?_)
 rotate_left
 ·have hF:=qcc c141 hF
  have E:=E.upd 46 c141 rfl
  refine lsz E fun a E=>lsz E fun a E=>pf E rfl rfl fun a E=>wn<|c_if E rfl (fun h=>by cases h) (fun _=>?_)
  refine wp_skip<|qaa<|wp_seq<|sg<|mv E rfl fun a E=>bd hF fun r178 e179 hF=>lc E qel rfl (qaP N ([111,114]) (show ([111,114]:List UInt8).length ≤ LIMS by decide) o76.1 l130 r131 l132 r133 r134 r135 e179 hG ok) fun w ok a E=>wn<|cf E rfl hF (fun c180 hF=>?_) fun c180 hF=>?_
  ·cases hF
  refine sg<|mv E rfl fun a E=>bd hF fun r182 e183 hF=>lc E qel rfl (qaP N ([97,110,100]) (show ([97,110,100]:List UInt8).length ≤ LIMS by decide) o76.1 l130 r131 l132 r133 r134 r135 e183 hG ok) fun w ok a E=>lw E (qbu rfl) fun a E=>wn<|cg E rfl hF (fun c184 hF=>?_) fun c184 hF=>?_
  ·refine wp_skip<|qaa<|qac<|mv E rfl fun a E=>bd hF fun r201 e202 hF=>qan E qdp rfl (qaC N o76.1 l130 r131 l132 r133 r134 r135 e202 hG ok) rfl rfl ?_
   rintro _ w ⟨⟨rfl,ok⟩,l203,r204,l205,r206,r207,r208⟩
   refine ⟨_,rfl,fun a E=>?_⟩
   refine wpList_nil<|qal ?_
   cases hF
   exact qas ⟨m129,c136,M137,le_m0,(ok.pk 3 [1,2,0] rfl (by decide)),E.keep [0,5,6,7],(InR.wrap _ _),h138,l203,r204,l205,r206,r207,r208⟩
  refine qac<|mv E rfl fun a E=>bd hF fun r185 e186 hF=>qan E qeg rfl (qaK N 3 (ir 3) o76.1 l130 r131 l132 r133 r134 r135 e186 hG ok) rfl rfl ?_
  rintro _ w ⟨⟨rfl,ok⟩,l187,r188,l189,r190,r191,r192⟩
  refine ⟨_,rfl,fun a E=>?_⟩
  refine wn<|qac<|mv E rfl fun a E=>bd hF fun r193 e194 hF=>qan E qdp rfl (qaC N r185 l187 r188 l189 r190 r191 r192 e194 hG ok) rfl rfl ?_
  rintro _ w ⟨⟨rfl,ok⟩,l195,r196,l197,r198,r199,r200⟩
  refine ⟨_,rfl,fun a E=>?_⟩
  refine wpList_nil<|qal ?_
  cases hF
  exact qas ⟨m129,c136,M137,le_m0,(ok.pk 3 [1,2,0] rfl (by decide)),E.keep [0,5,6,7],(InR.wrap _ _),h138,l195,r196,l197,r198,r199,r200⟩
 have hF:=qcg c141 hF
 have E:=E.upd 46 c141 rfl
 refine mv E rfl fun a E=>lw E (qa6 rfl) fun a E=>fv E qgd rfl fun a E=>fk E ok qlU qak rfl 0 rfl rfl fun a E=>mv E rfl fun a E=>lw E (qeZ Tryz.underlying9 rfl) fun a E=>lw E (qau rfl rfl) fun a E=>pt E rfl rfl fun a E=>wn<|cf E rfl hF (fun c142 hF=>?_) fun c142 hF=>?_
 ·refine sg<|mv E rfl fun a E=>av E rfl fun a E=>av E rfl fun a E=>aw E rfl fun a E=>wp_ret<|qaq<|qaz ?_
  obtain ⟨m143,hle,ok,hfz⟩:=(ok.frs 1 rfl).freeze
  have h144:=ORow.froz qaf h138 hle hfz (by decide)
  have le_m0:=le_m0.trans hle
  have lits:=(show Lits 1 (pL 4 qap) m143 [c136] ([o76.2]:List (List (Relation))) from ⟨⟨_,(qbW h144),rfl,h144⟩,trivial⟩)
  obtain ⟨m145,hle,ok,hfz⟩:=(ok.frs 1 rfl).freeze
  have h146:=qmM (n:=1) (mL qaf) lits (qn3 (qbW h144)) hle hfz rfl rfl
  clear lits
  have le_m0:=le_m0.trans hle
  have h144:=(mL qaf).up hle h144
  cases hF
  exact so (sr ⟨rfl,⟨m145,(.slice (some ⟨b10,0,none⟩) 1 1),le_m0,ok.drop,E.d,⟨rv_t E rfl,rv_t E rfl,rv_t E rfl,trivial⟩,h146,(ir 0),(ir 0)⟩⟩)
 refine wp_skip<|qaa<|wp_seq<|sg<|mv E rfl fun a E=>bd hF fun r147 e148 hF=>lc E qel rfl (qaP N ([111,114]) (show ([111,114]:List UInt8).length ≤ LIMS by decide) o76.1 l130 r131 l132 r133 r134 r135 e148 hG ok) fun w ok a E=>wn<|cf E rfl hF (fun c149 hF=>?_) fun c149 hF=>?_
 ·cases hF
 refine sg<|mv E rfl fun a E=>bd hF fun r151 e152 hF=>lc E qel rfl (qaP N ([97,110,100]) (show ([97,110,100]:List UInt8).length ≤ LIMS by decide) o76.1 l130 r131 l132 r133 r134 r135 e152 hG ok) fun w ok a E=>lw E (qbu rfl) fun a E=>wn<|cg E rfl hF (fun c153 hF=>?_) fun c153 hF=>?_
 ·refine wp_skip<|qaa<|qac<|mv E rfl fun a E=>bd hF fun r170 e171 hF=>qan E qdp rfl (qaC N o76.1 l130 r131 l132 r133 r134 r135 e171 hG ok) rfl rfl ?_
  rintro _ w ⟨⟨rfl,ok⟩,l172,r173,l174,r175,r176,r177⟩
  refine ⟨_,rfl,fun a E=>?_⟩
  refine wpList_nil<|qal ?_
  cases hF
  exact qas ⟨m129,c136,M137,le_m0,(ok.pk 3 [1,2,0] rfl (by decide)),E.keep [0,5,6,7],(InR.wrap _ _),h138,l172,r173,l174,r175,r176,r177⟩
 refine qac<|mv E rfl fun a E=>bd hF fun r154 e155 hF=>qan E qeg rfl (qaK N 3 (ir 3) o76.1 l130 r131 l132 r133 r134 r135 e155 hG ok) rfl rfl ?_
 rintro _ w ⟨⟨rfl,ok⟩,l156,r157,l158,r159,r160,r161⟩
 refine ⟨_,rfl,fun a E=>?_⟩
 refine wn<|qac<|mv E rfl fun a E=>bd hF fun r162 e163 hF=>qan E qdp rfl (qaC N r154 l156 r157 l158 r159 r160 r161 e163 hG ok) rfl rfl ?_
 rintro _ w ⟨⟨rfl,ok⟩,l164,r165,l166,r167,r168,r169⟩
 refine ⟨_,rfl,fun a E=>?_⟩
 refine wpList_nil<|qal ?_
 cases hF
 exact qas ⟨m129,c136,M137,le_m0,(ok.pk 3 [1,2,0] rfl (by decide)),E.keep [0,5,6,7],(InR.wrap _ _),h138,l164,r165,l166,r167,r168,r169⟩
def qk5 (u:World) (m0:Mem) (S:Segs) (r:(List (List (Relation)))) (a:Act) (w:World):Prop :=
 ∃ m1 v0,m0.le m1 ∧ Ok u m1 S w ∧ a.defers = [] ∧ RVs Tryz.prog a w [.t 2 v0] ∧ (pL 1 (pL 4 qap)) m1 [v0] r
theorem qgO (N:Nat) (s_0:List UInt8) (ls_0:s_0.length ≤ LIMS) {r:(List (List (Relation)))} (hF:qfa N s_0 = some r) (hG:Glob u) (ok:Ok u m0 S w) :
  Calls Tryz.prog 35 [Value.string (bs s_0)].toArray w fun e w'=>∃ m1 v0,e = .returned v0 ∧ m0.le m1 ∧ Ok u m1 S w' ∧ (pL 1 (pL 4 qap)) m1 [v0] r:=by
 have le_m0:=Mem.le.refl m0
 unfold qfa at hF
 refine en (qk5 u m0 S) r Tryz.func35 rfl rfl rfl (fun _ _ h=>rc h fun _=>rfl) fun fin a E=>sg<|aw E rfl fun a E=>sg<|mv E rfl fun a E=>bd hF fun r1 e2 hF=>qan E qsP rfl (qkH N s_0 ls_0 e2 hG ok) rfl rfl ?_
 rintro _ w ⟨m3,c4,rfl,hle,ok,h5,r6,r7⟩
 have le_m0:=le_m0.trans hle
 refine ⟨_,rfl,fun a E=>?_⟩
 refine mv E rfl fun a E=>lw E (qaR rfl rfl) fun a E=>lw E (qaR rfl rfl) fun a E=>lw E (qaR rfl rfl) fun a E=>av E rfl fun a E=>av E rfl fun a E=>av E rfl fun a E=>wn<|sg<|mv E rfl fun a E=>aw E rfl fun a E=>wp_ret ?_
 exact fin hF ⟨m3,c4,le_m0,ok,E.d,rz E rfl,h5⟩
def qk0 (u:World) (m0:Mem) (S:Segs) (r:Bool) (a:Act) (w:World):Prop :=
 Ok u m0 S w ∧ a.defers = [] ∧ RVs Tryz.prog a w [.t 0 (.bool r)]
theorem qgw (N:Nat) {r:Bool} (hF:qdr N  = some r) (hG:Glob u) (hTb:Tab u) (ok:Ok u m0 S w) :
  Calls Tryz.prog 10 [].toArray w fun e w'=>(e = .returned (.bool r) ∧ Ok u m0 S w'):=by
 have hb0:=ok.base
 have le_m0:=Mem.le.refl m0
 unfold qdr at hF
 refine en (qk0 u m0 S) r Tryz.func10 rfl rfl rfl (fun _ _ h=>ra h rfl) fun fin a E=>sg<|aw E rfl fun a E=>sg<|bd hF fun r1 e2 hF=>qan E qoV rfl (qgO N ([110,32,37,32,49,48,32,61,32,49]) (show ([110,32,37,32,49,48,32,61,32,49]:List UInt8).length ≤ LIMS by decide) e2 hG ok) rfl rfl ?_
 rintro _ w ⟨m3,c4,rfl,hle,ok,h5⟩
 have le_m0:=le_m0.trans hle
 refine ⟨_,rfl,fun a E=>?_⟩
 refine lw E (qaF (ps:=[(0,.const (vs ([111,110,101]))),(1,.tmp 8)]) (qs:=[(0,[(vs ([111,110,101]))]),(1,[c4])]) (cs:=[(vs ([111,110,101])),c4]) qlI qni rfl ⟨rfl,rfl,rfl,⟨rfl,(qbW h5),rfl,trivial⟩⟩ rfl) fun a E=>bd hF fun r6 e7 hF=>qan E qoV rfl (qgO N ([110,32,37,32,49,48,48,32,61,32,49,49]) (show ([110,32,37,32,49,48,48,32,61,32,49,49]:List UInt8).length ≤ LIMS by decide) e7 hG ok) rfl rfl ?_
 rintro _ w ⟨m8,c9,rfl,hle,ok,h10⟩
 have le_m0:=le_m0.trans hle
 have h5:=(mL (mL qaf)).up hle h5
 refine ⟨_,rfl,fun a E=>?_⟩
 refine lw E (qaF (ps:=[(0,.const (vs ([116,119,111]))),(1,.tmp 10)]) (qs:=[(0,[(vs ([116,119,111]))]),(1,[c9])]) (cs:=[(vs ([116,119,111])),c9]) qlI qni rfl ⟨rfl,rfl,rfl,⟨rfl,(qbW h10),rfl,trivial⟩⟩ rfl) fun a E=>qaW (R:=qo0) (xo:=[.tmp 9,.tmp 11]) (xs:=([(Rule.mk ([111,110,101]) r1),(Rule.mk ([116,119,111]) r6)]:List (Rule))) E ok qme qlI rfl ⟨⟨_,rfl,rfl,⟨_,rfl,(show ([111,110,101]:List UInt8).length ≤ LIMS by decide),h5⟩⟩,⟨_,rfl,rfl,⟨_,rfl,(show ([116,119,111]:List UInt8).length ≤ LIMS by decide),h10⟩⟩,trivial⟩ rfl rfl rfl rfl fun c11 M12 a w E ok h13=>?_
 obtain ⟨r19,e20,hF⟩:=bnd hF
 obtain ⟨m14,hle16,ok15,hfz17⟩:=(ok.frs 0 rfl).freeze
 have h18:=ORow.froz qqy h13 hle16 hfz17 (by decide)
 refine qan E qs4 rfl (qlK N _ ([(Rule.mk ([111,110,101]) r1),(Rule.mk ([116,119,111]) r6)]:List (Rule)) h18 e20 hG hTb ok15) rfl rfl ?_
 rintro _ w ⟨⟨rfl,okz⟩,r21,r22,l23,r24⟩
 replace ok:=(Ok.thawAt 0 rfl ok hle16 hfz17 okz)
 refine ⟨_,rfl,fun a E=>?_⟩
 refine mv E rfl fun a E=>lw E (qaR rfl rfl) fun a E=>lw E (qaR rfl rfl) fun a E=>lw E (qaR rfl rfl) fun a E=>lw E (qaR rfl rfl) fun a E=>av E rfl fun a E=>av E rfl fun a E=>av E rfl fun a E=>aw E rfl fun a E=>sg<|bd hF fun r25 e26 hF=>qan E qoV rfl (qgO N ([105,32,61,32,49,32,97,110,100,32,118,32,61,32,48]) (show ([105,32,61,32,49,32,97,110,100,32,118,32,61,32,48]:List UInt8).length ≤ LIMS by decide) e26 hG ok) rfl rfl ?_
 rintro _ w ⟨m27,c28,rfl,hle,ok,h29⟩
 have le_m0:=le_m0.trans hle
 have h5:=(mL (mL qaf)).up hle h5
 have h10:=(mL (mL qaf)).up hle h10
 have h13:=ORow.up qqy hle h13
 refine ⟨_,rfl,fun a E=>?_⟩
 refine bd hF fun r30 e31 hF=>qan E qoO rfl (qhx N _ r25 h29 e31 hG ok) rfl rfl ?_
 rintro _ w ⟨⟨rfl,ok⟩,r32,r33⟩
 refine ⟨_,rfl,fun a E=>?_⟩
 refine mv E rfl fun a E=>lw E (qaR rfl rfl) fun a E=>lw E (qaR rfl rfl) fun a E=>av E rfl fun a E=>aw E rfl fun a E=>sg<|mv E rfl fun a E=>lw E (qau rfl rfl) fun a E=>mv E rfl fun a E=>bw E 25 hF (fun c34 hF E=>?_) fun c34 hF E=>?_
 ·refine lsq E fun a E=>pf E rfl rfl fun a E=>mv E rfl fun a E=>lsq E fun a E=>pf E rfl rfl fun a E=>mv E rfl fun a E=>lsq E fun a E=>pf E rfl rfl fun a E=>mv E rfl fun a E=>lsq E fun a E=>pf E rfl rfl fun a E=>mv E rfl fun a E=>?_
  refine lsq E fun a E=>pf E rfl rfl fun a E=>aw E rfl fun a E=>wp_ret ?_
  exact fin hF ⟨(ok.drop).down hb0 le_m0,E.d,rz E rfl⟩
 refine mv E rfl fun a E=>lw E (qau rfl rfl) fun a E=>pt E rfl rfl fun a E=>mv E rfl fun a E=>bw E 29 hF (fun c35 hF E=>?_) fun c35 hF E=>?_
 ·refine lsq E fun a E=>pf E rfl rfl fun a E=>mv E rfl fun a E=>lsq E fun a E=>pf E rfl rfl fun a E=>mv E rfl fun a E=>lsq E fun a E=>pf E rfl rfl fun a E=>mv E rfl fun a E=>lsq E fun a E=>pf E rfl rfl fun a E=>av E rfl fun a E=>?_
  refine wn<|wp_ret ?_
  exact fin hF ⟨(ok.drop).down hb0 le_m0,E.d,rz E rfl⟩
 refine mv E rfl fun a E=>lw E (qau rfl rfl) fun a E=>pt E rfl rfl fun a E=>mv E rfl fun a E=>bw E 33 hF (fun c36 hF E=>?_) fun c36 hF E=>?_
 ·refine lsq E fun a E=>pf E rfl rfl fun a E=>mv E rfl fun a E=>lsq E fun a E=>pf E rfl rfl fun a E=>mv E rfl fun a E=>lsq E fun a E=>pf E rfl rfl fun a E=>aw E rfl fun a E=>wp_ret ?_
  exact fin hF ⟨(ok.drop).down hb0 le_m0,E.d,rz E rfl⟩
 refine mv E rfl fun a E=>lw E (qau rfl rfl) fun a E=>pt E rfl rfl fun a E=>mv E rfl fun a E=>bw E 37 hF (fun c37 hF E=>?_) fun c37 hF E=>?_
 ·refine lsq E fun a E=>pf E rfl rfl fun a E=>mv E rfl fun a E=>lsq E fun a E=>pf E rfl rfl fun a E=>av E rfl fun a E=>wn<|wp_ret ?_
  exact fin hF ⟨(ok.drop).down hb0 le_m0,E.d,rz E rfl⟩
 refine mv E rfl fun a E=>lw E (qk8 rfl rfl) fun a E=>pt E rfl rfl fun a E=>mv E rfl fun a E=>bu E 41 hF (fun c38 hF E=>?_) fun c38 hF E=>?_
 ·refine mv E rfl fun a E=>lw E (qau rfl rfl) fun a E=>pt E rfl rfl fun a E=>aw E rfl fun a E=>wp_ret ?_
  exact fin hF ⟨(ok.drop).down hb0 le_m0,E.d,rz E rfl⟩
 refine lsq E fun a E=>pf E rfl rfl fun a E=>aw E rfl fun a E=>wp_ret ?_
 exact fin hF ⟨(ok.drop).down hb0 le_m0,E.d,rz E rfl⟩
def qix (u:World) (m0:Mem) (S:Segs) (r:Bool) (a:Act) (w:World):Prop :=
 Ok u m0 S w ∧ a.defers = [] ∧ RVs Tryz.prog a w [.t 2 (.bool r)]
theorem qlM (N:Nat) (vc_0:Value) (c_0:List (List (Relation))) (hc_0:(pL 1 (pL 4 qap)) m0 [vc_0] c_0) {r:Bool} (hF:qd0 N c_0 = some r) (hG:Glob u) (ok:Ok u m0 S w) :
  Calls Tryz.prog 36 [vc_0].toArray w fun e w'=>(e = .returned (.bool r) ∧ Ok u m0 S w'):=by
 unfold qd0 at hF
 refine en (qix u m0 S) r Tryz.func36 rfl rfl rfl (fun _ _ h=>ra h rfl) fun fin a E=>sg<|aw E rfl fun a E=>sg<|aw E rfl fun a E=>wp_seq<|sg<|av E rfl fun a E=>wn<|wp_block<|bd hF fun o3 hL hF=>qaE _ (fun (s:Int × Int) a w=>Ok u m0 (S) w ∧ Env 38 a [(0,vc_0),(3,vi s.1),(4,vi s.2)] ∧ InR .i64 s.1 ∧ InR .i64 s.2) (fun (b:(Unit ⊕ Bool)) e a w=>(Sum.elim (fun b59=>e = (.exit 0) ∧ Ok u m0 (S) w ∧ Env 38 a [(0,vc_0)]) (fun b60=>e = .ret ∧ qix u m0 S b60 a w)) b) ?_ ?_ N _ a w hL ⟨ok,E.keep [0,3,4],(ir 0),(ir 0)⟩
 rotate_left
 ·intro e a w _ hO
  rcases o3 with o3 | o3
  rotate_left
  ·obtain ⟨rfl,hret⟩:=hO
   refine qaz<|qaq ?_
   exact fin hF hret
  have hF:=qca hF
  obtain ⟨rfl,ok,E⟩:=hO
  refine qaM<|qaa<|sg<|mv E rfl fun a E=>lv E ok (qaD qcM hc_0 rfl) fun a E=>lw E (qeC rfl rfl) fun a E=>av E rfl fun a E=>wn<|wp_ret ?_
  exact fin hF ⟨ok,E.d,rz E rfl⟩
 rintro ⟨v6,v7⟩ a w r ⟨ok,E,r8,r9⟩ hF
 replace hF:qbB N c_0 v6 v7 = some r:=hF
 unfold qbB at hF
 refine wp_seq<|sg<|mz E rfl rfl fun a E=>lv E ok (qaD qcM hc_0 rfl) fun a E=>lw E (qav rfl rfl) fun a E=>wn<|cg E rfl hF (fun c10 hF=>?_) fun c10 hF=>?_
 ·refine wp_exit<|qaA ?_
  cases hF
  exact so (sl ⟨rfl,⟨ok,E.keep [0]⟩⟩)
 refine wp_skip<|qaa<|wp_seq<|wp_block<|wp_seq<|sg<|av E rfl fun a E=>wn<|wp_block<|bd hF fun o13 hL hF=>qaE _ (fun (s:Int × Int) a w=>Ok u m0 (S) w ∧ Env 38 a [(0,vc_0),(3,vi s.1),(4,vi v7),(5,vi s.2)] ∧ InR .i64 s.1 ∧ InR .i64 s.2) (fun (b:Int) e a w=>e = (.exit 2) ∧ Ok u m0 (S) w ∧ Env 38 a [(0,vc_0),(3,vi b),(4,vi v7)] ∧ InR .i64 b) ?_ ?_ N _ a w hL ⟨ok,E.keep [0,3,4,5],r8,(ir 0)⟩
 rotate_left
 ·intro e a w _ hO
  obtain ⟨rfl,ok,E,r56⟩:=hO
  refine qaM<|qaa<|sg<|mv E rfl fun a E=>lw E (qb1 rfl rfl) fun a E=>wn<|cg E rfl hF (fun c57 hF=>?_) fun c57 hF=>?_
  ·refine wp_skip<|qal<|qaa<|qac<|mv E rfl fun a E=>lw E (qaw rfl rfl (InR.inc r9 (qam hc_0) c10)) fun a E=>av E rfl fun a E=>wpList_nil ?_
   cases hF
   exact qas ⟨ok,E.keep [0,3,4],r56,(InR.inc r9 (qam hc_0) c10)⟩
  refine sg<|aw E rfl fun a E=>wp_ret<|qaz<|qaq ?_
  cases hF
  exact so (sr ⟨rfl,⟨ok,E.d,rz E rfl⟩⟩)
 rintro ⟨v16,v17⟩ a w r ⟨ok,E,r18,r19⟩ hF
 replace hF:qbN N c_0 v7 v16 v17 = some r:=hF
 unfold qbN at hF
 refine wp_seq<|sg<|mz E rfl rfl fun a E=>mv E rfl fun a E=>?_
 obtain ⟨x20,e21,hF⟩:=bnd hF
 obtain ⟨b22,o23,es24,hl25,rr26,at27,yy28⟩:=ia E 13 14 qcM hc_0 e21
 obtain ⟨c29,rfl,h30⟩:=qbK rr26
 refine lv E ok (yy28 _ _) fun a E=>lv E ok (qaj qci rfl (qab.ro at27)) fun a E=>lv E ok (qaD qa4 h30 rfl) fun a E=>lw E (qav rfl rfl) fun a E=>wn<|cg E rfl hF (fun c31 hF=>?_) fun c31 hF=>?_
 ·refine wp_exit<|qaA ?_
  cases hF
  exact so (⟨rfl,⟨ok,E.keep [0,3,4],r18⟩⟩)
 refine wp_skip<|qaa<|wp_seq<|wp_block<|qac<|mz E rfl rfl fun a E=>mv E rfl fun a E=>?_
 obtain ⟨x32,e33,hF⟩:=bnd hF
 obtain ⟨b34,o35,es36,hl37,rr38,at39,yy40⟩:=ia E 22 23 qcM hc_0 e33
 obtain ⟨c41,rfl,h42⟩:=qbK rr38
 refine lv E ok (yy40 _ _) fun a E=>lv E ok (qaj qci rfl (qab.ro at39)) fun a E=>mv E rfl fun a E=>?_
 obtain ⟨x43,e44,hF⟩:=bnd hF
 obtain ⟨b45,o46,es47,hl48,rr49,at50,yy51⟩:=ia E 25 26 qa4 h42 e44
 obtain ⟨c54,rfl,r52,r53,h55⟩:=rr49
 refine lv E ok (yy51 _ _) fun a E=>fv E qbs rfl fun a E=>lv E ok (qaj qb3 rfl (qab.ro (At.sub 3 1 at50))) fun a E=>lv E ok (qaD qbO h55 rfl) fun a E=>lw E (qbq rfl rfl) fun a E=>lw E (qbq rfl rfl) fun a E=>av E rfl fun a E=>wpList_nil<|qal<|qaa<|qac<|mv E rfl fun a E=>lw E (qaw rfl rfl (InR.inc r19 (qam h30) c31)) fun a E=>av E rfl fun a E=>wpList_nil ?_
 cases hF
 exact qas ⟨ok,E.keep [0,3,4,5],(InR.wrap _ _),(InR.inc r19 (qam h30) c31)⟩
def qiy (u:World) (m0:Mem) (S:Segs) (r:Bool) (a:Act) (w:World):Prop :=
 Ok u m0 S w ∧ a.defers = [] ∧ RVs Tryz.prog a w [.t 2 (.bool r)]
theorem qlN (N:Nat) (vl_0:Value) (l_0:List (List (List (Relation)))) (hl_0:(pL 1 (pL 1 (pL 4 qap))) m0 [vl_0] l_0) {r:Bool} (hF:qfA N l_0 = some r) (hG:Glob u) (ok:Ok u m0 S w) :
  Calls Tryz.prog 11 [vl_0].toArray w fun e w'=>(e = .returned (.bool r) ∧ Ok u m0 S w'):=by
 unfold qfA at hF
 refine en (qiy u m0 S) r Tryz.func11 rfl rfl rfl (fun _ _ h=>ra h rfl) fun fin a E=>sg<|aw E rfl fun a E=>wp_seq<|sg<|mv E rfl fun a E=>lv E ok (qaD qfp hl_0 rfl) fun a E=>mv E rfl fun a E=>wn<|wp_block<|bd hF fun o2 hL hF=>qaE _ (fun (s:Int) a w=>Ok u m0 (S) w ∧ Env 19 a [(0,vl_0),(5,(vi (l_0.length:Int))),(6,vi s)] ∧ InR .i64 s) (fun (b:(Unit ⊕ Bool)) e a w=>(Sum.elim (fun b21=>e = (.exit 0) ∧ Ok u m0 (S) w ∧ Env 19 a [(0,vl_0)]) (fun b22=>e = .ret ∧ qiy u m0 S b22 a w)) b) ?_ ?_ N _ a w hL ⟨ok,E.keep [0,5,6],(ir 0)⟩
 rotate_left
 ·intro e a w _ hO
  rcases o2 with o2 | o2
  rotate_left
  ·obtain ⟨rfl,hret⟩:=hO
   refine qaz<|qaq ?_
   exact fin hF hret
  have hF:=qca hF
  obtain ⟨rfl,ok,E⟩:=hO
  refine qaM<|qaa<|sg<|mv E rfl fun a E=>lv E ok (qaD qfp hl_0 rfl) fun a E=>lw E (qeC rfl rfl) fun a E=>av E rfl fun a E=>wn<|wp_ret ?_
  exact fin hF ⟨ok,E.d,rz E rfl⟩
 rintro v4 a w r ⟨ok,E,r5⟩ hF
 replace hF:qcC N l_0 v4 = some r:=hF
 unfold qcC at hF
 refine sg<|lw E (qav rfl rfl) fun a E=>wn<|wp_seq<|cg E rfl hF (fun c6 hF=>?_) fun c6 hF=>?_
 ·refine wp_exit<|qaA ?_
  cases hF
  exact so (sl ⟨rfl,⟨ok,E.keep [0]⟩⟩)
 refine wp_skip<|qaa<|wp_seq<|wp_block<|sg<|mv E rfl fun a E=>av E rfl fun a E=>wn<|sg<|mz E rfl rfl fun a E=>?_
 obtain ⟨x7,e8,hF⟩:=bnd hF
 obtain ⟨b9,o10,es11,hl12,rr13,at14,yy15⟩:=ia E 9 10 qfp hl_0 e8
 obtain ⟨c16,rfl,h17⟩:=qbK rr13
 refine lv E ok (yy15 _ _) fun a E=>lv E ok (qaj qfh rfl (qab.ro at14)) fun a E=>bd hF fun r18 e19 hF=>lc E qsC rfl (qlM N _ x7 h17 e19 hG ok) fun w ok a E=>lw E (qbu rfl) fun a E=>wn<|cg E rfl hF (fun c20 hF=>?_) fun c20 hF=>?_
 ·refine wp_skip<|qal<|qaa<|qac<|lw E (qaw rfl rfl (InR.inc r5 (qam hl_0) c6)) fun a E=>mv E rfl fun a E=>wpList_nil ?_
  cases hF
  exact qas ⟨ok,E.keep [0,5,6],(InR.inc r5 (qam hl_0) c6)⟩
 refine sg<|aw E rfl fun a E=>wp_ret<|qaz<|qaq ?_
 cases hF
 exact so (sr ⟨rfl,⟨ok,E.d,rz E rfl⟩⟩)
end Go.Proofs.YtidfofhmnlhfjaaGreatDoor
namespace Go.Proofs.YtidfofhmnlhfjaaGreatDoor
open Go.X
variable {u:World} {m0:Mem} {S:Segs} {w:World}
set_option maxHeartbeats 4000000
set_option maxRecDepth 100000
end Go.Proofs.YtidfofhmnlhfjaaGreatDoor
namespace Go.Proofs.YtidfofhmnlhfjaaGreatDoor
open Go.X
variable {u:World} {m0:Mem} {S:Segs} {w:World}
set_option maxHeartbeats 4000000
set_option maxRecDepth 100000
theorem qsG:goB Tryz.prog 65 = true:=by kernel_rfl
end Go.Proofs.YtidfofhmnlhfjaaGreatDoor
namespace Go.Proofs.YtidfofhmnlhfjaaGreatDoor
open Go.X
variable {u:World} {m0:Mem} {S:Segs} {w:World}
set_option maxHeartbeats 4000000
set_option maxRecDepth 100000
def qhE (u:World) (m0:Mem) (S:Segs) (r:Bool) (a:Act) (w:World):Prop :=
 Ok u m0 S w ∧ a.defers = [] ∧ RVs Tryz.prog a w [.t 2 (.bool r)]
theorem qkv (N:Nat) (vr_0:List Value) (r_0:Relation) (hr_0:qap m0 vr_0 r_0) {r:Bool} (hF:qeI N r_0 = some r) (hG:Glob u) (ok:Ok u m0 S w) :
  Calls Tryz.prog 65 [.agg vr_0.toArray].toArray w fun e w'=>(e = .returned (.bool r) ∧ Ok u m0 S w'):=by
 obtain ⟨c3,rfl,r1,r2,h4⟩:=hr_0
 have hb0:=ok.base
 have le_m0:=Mem.le.refl m0
 unfold qeI at hF
 refine en (qhE u m0 S) r Tryz.func65 rfl rfl rfl (fun _ _ h=>ra h rfl) fun fin a E=>sg<|qbz E ok rfl rfl rfl fun b5 a w E ok=>aw E rfl fun a E=>wp_seq<|wp_seq<|bd hF fun o6 hJ hF=>qaG (Q':=fun e a w=>e = .normal ∧ ∃ m7,m0.le m7 ∧ Ok u m7 ([(b5,oc 69 [vi r_0.Operand,vi r_0.Mod,vb r_0.Not,c3])] :: S) w ∧ Env 69 a [(1,vp b5),(38,vb o6)]) ?_ ?_
 rotate_left
 ·as_aux_lemma =>
   intro e a w hO
   obtain ⟨rfl,m30,hle,ok,E⟩:=hO
   have le_m0:=le_m0.trans hle
   have h4:=(mL qdF).up hle h4
   refine qaa<|cf E rfl hF (fun c31 hF=>?_) fun c31 hF=>?_
   ·refine sg<|aw E rfl fun a E=>wp_ret<|qaq ?_
    exact fin hF ⟨(ok.drop).down hb0 le_m0,E.d,rz E rfl⟩
   refine wp_skip<|qaa<|wp_seq<|sg<|aw E rfl fun a E=>wp_block<|bd hF fun o33 hL hF=>qaE _ (fun (s:Int) a w=>Ok u m30 ([(b5,oc 69 [vi r_0.Operand,vi r_0.Mod,vb r_0.Not,c3])] :: S) w ∧ Env 69 a [(1,vp b5),(3,vi s)] ∧ InR .i64 s) (fun (b:(Unit ⊕ Bool)) e a w=>(Sum.elim (fun b56=>e = (.exit 0) ∧ Ok u m30 ([(b5,oc 69 [vi r_0.Operand,vi r_0.Mod,vb r_0.Not,c3])] :: S) w ∧ Env 69 a []) (fun b57=>e = .ret ∧ qhE u m0 S b57 a w)) b) ?_ ?_ N _ a w hL ⟨ok,E.keep [1,3],(ir 0)⟩
   rotate_left
   ·intro e a w _ hO
    rcases o33 with o33 | o33
    rotate_left
    ·obtain ⟨rfl,hret⟩:=hO
     refine qaz<|qaq ?_
     exact fin hF hret
    have hF:=qca hF
    obtain ⟨rfl,ok,E⟩:=hO
    refine qaM<|qaa<|sg<|aw E rfl fun a E=>wp_ret ?_
    exact fin hF ⟨(ok.drop).down hb0 le_m0,E.d,rz E rfl⟩
   rintro v35 a w r ⟨ok,E,r36⟩ hF
   replace hF:qc8 N r_0 v35 = some r:=hF
   unfold qc8 at hF
   refine wp_seq<|sg<|mv E rfl fun a E=>fk E ok qbs qb3 rfl 0 rfl rfl fun a E=>lv E ok (qaD qbO h4 rfl) fun a E=>lw E (qav rfl rfl) fun a E=>wn<|cg E rfl hF (fun c37 hF=>?_) fun c37 hF=>?_
   ·refine wp_exit<|qaA ?_
    cases hF
    exact so (sl ⟨rfl,⟨ok,E.keep []⟩⟩)
   refine wp_skip<|qaa<|wp_seq<|wp_block<|sg<|fk E ok qbs qb3 rfl 0 rfl rfl fun a E=>mv E rfl fun a E=>?_
   obtain ⟨x38,e39,hF⟩:=bnd hF
   obtain ⟨b40,o41,es42,hl43,rr44,at45,yy46⟩:=ia E 47 48 qbO h4 e39
   obtain ⟨rfl,r47,r48⟩:=rr44
   refine lv E ok (yy46 _ _) fun a E=>lv E ok (qag (cs:=[vi x38.From,vi x38.To]) qeQ rfl rfl (qab.ro at45)) fun a E=>qax E ok qdd rfl rfl fun b49 a w E ok=>qad E ok 0 rfl rfl rfl qfW rfl rfl ⟨rfl,rfl,trivial⟩ rfl rfl fun w ok=>wn<|wp_seq<|qdc (by kernel_rfl) (by kernel_rfl) ok<|qv E (qae qeS rfl) fun a E=>qv E (qaj qak rfl (qab.own 0 rfl rfl)) fun a E=>qv E (qav rfl rfl) fun a E=>qv E (qah rfl) fun a E=>bu E 54 hF (fun c50 hF E=>?_) fun c50 hF E=>?_
   ·refine qs E fun a E=>qs E fun a E=>qs E fun a E=>qs E fun a E=>qs E fun a E=>qv E (qa8 rfl rfl) fun a E=>qv E (qah rfl) fun a E=>qs E fun a E=>qs E fun a E=>qs E fun a E=>qs E fun a E=>qs E fun a E=>qs E fun a E=>qv E (qa8 rfl rfl) fun a E=>wpQuiet_nil ?_
    intro w ok
    refine qaa<|c_if E rfl (fun _=>?_) (fun h=>by cases h)
    refine sg<|aw E rfl fun a E=>wp_ret<|qaz<|qaq ?_
    cases hF
    exact so (sr ⟨rfl,⟨(ok.drop.drop).down hb0 le_m0,E.d,rz E rfl⟩⟩)
   refine qv E (qae qeS rfl) fun a E=>qv E (qaj qak rfl (qab.own 0 rfl rfl)) fun a E=>qv E (qae qdK rfl) fun a E=>qv E (qaj qak rfl (qab.own 0 rfl rfl)) fun a E=>qv E (qb1 rfl rfl) fun a E=>qv E (qa1 rfl rfl) fun a E=>qv E (qah rfl) fun a E=>bu E 61 hF (fun c51 hF E=>?_) fun c51 hF E=>?_
   ·refine qs E fun a E=>qs E fun a E=>qs E fun a E=>qs E fun a E=>qs E fun a E=>qs E fun a E=>qv E (qa8 rfl rfl) fun a E=>wpQuiet_nil ?_
    intro w ok
    refine qaa<|c_if E rfl (fun _=>?_) (fun h=>by cases h)
    refine sg<|aw E rfl fun a E=>wp_ret<|qaz<|qaq ?_
    cases hF
    exact so (sr ⟨rfl,⟨(ok.drop.drop).down hb0 le_m0,E.d,rz E rfl⟩⟩)
   refine qv E (qae qdK rfl) fun a E=>qv E (qaj qak rfl (qab.own 0 rfl rfl)) fun a E=>qv E (qae qa2 rfl) fun a E=>qv E (qaj qak rfl (qab.own 1 rfl rfl)) fun a E=>?_
   obtain ⟨r52,e53,hF⟩:=bnd hF
   obtain ⟨_,_,⟨_,_⟩,r54⟩:=Go.X.Calls.get (qct N r_0.Operand r1 e53 hG ok)
   refine qgn E qll rfl (fun w ok=>(qct N r_0.Operand r1 e53 hG ok).mono (fun _ _ h=>h.1)) rfl rfl fun a E=>qv E (qb1 rfl rfl) fun a E=>qv E (qa1 rfl rfl) fun a E=>wpQuiet_nil ?_
   intro w ok
   refine qaa<|cg E rfl hF (fun c55 hF=>?_) fun c55 hF=>?_
   ·refine wp_skip<|qal<|qaa<|qac<|mv E rfl fun a E=>lw E (qaw rfl rfl (InR.inc r36 (qam h4) c37)) fun a E=>av E rfl fun a E=>wpList_nil ?_
    cases hF
    exact qas ⟨(ok.pk 2 [1] rfl (by decide)),E.keep [1,3],(InR.inc r36 (qam h4) c37)⟩
   refine sg<|aw E rfl fun a E=>wp_ret<|qaz<|qaq ?_
   cases hF
   exact so (sr ⟨rfl,⟨(ok.drop.drop).down hb0 le_m0,E.d,rz E rfl⟩⟩)
 have hF:=hJ
 refine qcp (decide (r_0.Operand < 1)) (fun c8=>?_) (fun c8=>?_)
 ·have hF:=qcg c8 hF
  cases hF
  refine qaY [] (Cls u m0 ([(b5,oc 69 [vi r_0.Operand,vi r_0.Mod,vb r_0.Not,c3])] :: [])) (Cls u m0 ([(b5,oc 69 [vi r_0.Operand,vi r_0.Mod,vb r_0.Not,c3])] :: [])) (by kernel_rfl) ?_
  intro w hw
  replace ok:=qbd ok hw
  clear hw
  have h4_o:=h4
  refine qai (cl1 (cq le_m0 ok [0] rfl) (cq le_m0 ok [0] rfl)) fun hT=>kt 0 E rfl hT (qae qa2 rfl) fun a E=>kt 1 E rfl hT (qaj qak rfl (qab.cown 0 rfl rfl)) fun a E=>kt 2 E rfl hT (qav rfl rfl) fun a E=>kt 3 E rfl hT (qah rfl) fun a E=>?_
  have E:=E.upd 8 c8 rfl
  refine qat 4 false E rfl (by kernel_rfl) nP hT rfl rfl fun a E=>qat 5 false E rfl (by kernel_rfl) nP hT rfl rfl fun a E=>qat 6 false E rfl (by kernel_rfl) nP hT rfl rfl fun a E=>kt 7 E rfl hT (qa8 rfl rfl) fun a E=>kt 8 E rfl hT (qah rfl) fun a E=>qat 9 false E rfl (by kernel_rfl) nP hT rfl rfl fun a E=>qat 10 false E rfl (by kernel_rfl) nP hT rfl rfl fun a E=>qat 11 false E rfl (by kernel_rfl) nP hT rfl rfl fun a E=>qat 12 false E rfl (by kernel_rfl) nP hT rfl rfl fun a E=>qat 13 false E rfl (by kernel_rfl) nP hT rfl rfl fun a E=>qat 14 false E rfl (by kernel_rfl) nP hT rfl rfl fun a E=>qat 15 false E rfl (by kernel_rfl) nP hT rfl rfl fun a E=>qat 16 false E rfl (by kernel_rfl) nP hT rfl rfl fun a E=>qat 17 false E rfl (by kernel_rfl) nP hT rfl rfl fun a E=>qat 18 false E rfl (by kernel_rfl) nP hT rfl rfl fun a E=>qat 19 false E rfl (by kernel_rfl) nP hT rfl rfl fun a E=>?_
  refine qat 20 false E rfl (by kernel_rfl) nP hT rfl rfl fun a E=>kt 21 E rfl hT (qa8 rfl rfl) fun a E=>kt 22 E rfl hT (qah rfl) fun a E=>qat 23 false E rfl (by kernel_rfl) nP hT rfl rfl fun a E=>qat 24 false E rfl (by kernel_rfl) nP hT rfl rfl fun a E=>qat 25 false E rfl (by kernel_rfl) nP hT rfl rfl fun a E=>qat 26 false E rfl (by kernel_rfl) nP hT rfl rfl fun a E=>kt 27 E rfl hT (qa8 rfl rfl) fun a E=>kt 28 E rfl hT (qah rfl) fun a E=>qat 29 false E rfl (by kernel_rfl) nP hT rfl rfl fun a E=>qat 30 false E rfl (by kernel_rfl) nP hT rfl rfl fun a E=>qat 31 false E rfl (by kernel_rfl) nP hT rfl rfl fun a E=>qat 32 false E rfl (by kernel_rfl) nP hT rfl rfl fun a E=>kt 33 E rfl hT (qa8 rfl rfl) fun a E=>qaV (by kernel_rfl) ?_
  exact ⟨rfl,⟨m0,le_m0,ok,E.keep [1,38]⟩⟩
 have hF:=qcc c8 hF
 refine qcp (decide (r_0.Operand > 6)) (fun c9=>?_) (fun c9=>?_)
 ·have hF:=qcg c9 hF
  cases hF
  refine qaY [] (Cls u m0 ([(b5,oc 69 [vi r_0.Operand,vi r_0.Mod,vb r_0.Not,c3])] :: [])) (Cls u m0 ([(b5,oc 69 [vi r_0.Operand,vi r_0.Mod,vb r_0.Not,c3])] :: [])) (by kernel_rfl) ?_
  intro w hw
  replace ok:=qbd ok hw
  clear hw
  have h4_o:=h4
  refine qai (cl1 (cq le_m0 ok [0] rfl) (cq le_m0 ok [0] rfl)) fun hT=>kt 0 E rfl hT (qae qa2 rfl) fun a E=>kt 1 E rfl hT (qaj qak rfl (qab.cown 0 rfl rfl)) fun a E=>kt 2 E rfl hT (qav rfl rfl) fun a E=>kt 3 E rfl hT (qah rfl) fun a E=>?_
  have E:=E.upd 8 c8 rfl
  refine kt 4 E rfl hT (qae qa2 rfl) fun a E=>kt 5 E rfl hT (qaj qak rfl (qab.cown 0 rfl rfl)) fun a E=>kt 6 E rfl hT (qb1 rfl rfl) fun a E=>kt 7 E rfl hT (qa1 rfl rfl) fun a E=>kt 8 E rfl hT (qah rfl) fun a E=>?_
  have E:=E.upd 13 c9 rfl
  refine qat 9 false E rfl (by kernel_rfl) nP hT rfl rfl fun a E=>qat 10 false E rfl (by kernel_rfl) nP hT rfl rfl fun a E=>qat 11 false E rfl (by kernel_rfl) nP hT rfl rfl fun a E=>qat 12 false E rfl (by kernel_rfl) nP hT rfl rfl fun a E=>qat 13 false E rfl (by kernel_rfl) nP hT rfl rfl fun a E=>qat 14 false E rfl (by kernel_rfl) nP hT rfl rfl fun a E=>qat 15 false E rfl (by kernel_rfl) nP hT rfl rfl fun a E=>qat 16 false E rfl (by kernel_rfl) nP hT rfl rfl fun a E=>qat 17 false E rfl (by kernel_rfl) nP hT rfl rfl fun a E=>qat 18 false E rfl (by kernel_rfl) nP hT rfl rfl fun a E=>qat 19 false E rfl (by kernel_rfl) nP hT rfl rfl fun a E=>qat 20 false E rfl (by kernel_rfl) nP hT rfl rfl fun a E=>kt 21 E rfl hT (qa8 rfl rfl) fun a E=>kt 22 E rfl hT (qah rfl) fun a E=>qat 23 false E rfl (by kernel_rfl) nP hT rfl rfl fun a E=>qat 24 false E rfl (by kernel_rfl) nP hT rfl rfl fun a E=>?_
  refine qat 25 false E rfl (by kernel_rfl) nP hT rfl rfl fun a E=>qat 26 false E rfl (by kernel_rfl) nP hT rfl rfl fun a E=>kt 27 E rfl hT (qa8 rfl rfl) fun a E=>kt 28 E rfl hT (qah rfl) fun a E=>qat 29 false E rfl (by kernel_rfl) nP hT rfl rfl fun a E=>qat 30 false E rfl (by kernel_rfl) nP hT rfl rfl fun a E=>qat 31 false E rfl (by kernel_rfl) nP hT rfl rfl fun a E=>qat 32 false E rfl (by kernel_rfl) nP hT rfl rfl fun a E=>kt 33 E rfl hT (qa8 rfl rfl) fun a E=>qaV (by kernel_rfl) ?_
  exact ⟨rfl,⟨m0,le_m0,ok,E.keep [1,38]⟩⟩
 have hF:=qcc c9 hF
 refine qcp (r_0.Mod != 0) (fun c10=>?_) (fun c10=>?_)
 rotate_left
 ·as_aux_lemma =>
   have hF:=qcc c10 hF
   refine qcp (decide ((r_0.Spans.length:Int) < 1)) (fun c29=>?_) (fun c29=>?_)
   ·have hF:=qcg c29 hF
    cases hF
    refine qaY [] (Cls u m0 ([(b5,oc 69 [vi r_0.Operand,vi r_0.Mod,vb r_0.Not,c3])] :: [])) (Cls u m0 ([(b5,oc 69 [vi r_0.Operand,vi r_0.Mod,vb r_0.Not,c3])] :: [])) (by kernel_rfl) ?_
    intro w hw
    replace ok:=qbd ok hw
    clear hw
    have h4_o:=h4
    refine qai (cl1 (cq le_m0 ok [0] rfl) (cq le_m0 ok [0] rfl)) fun hT=>kt 0 E rfl hT (qae qa2 rfl) fun a E=>kt 1 E rfl hT (qaj qak rfl (qab.cown 0 rfl rfl)) fun a E=>kt 2 E rfl hT (qav rfl rfl) fun a E=>kt 3 E rfl hT (qah rfl) fun a E=>?_
    have E:=E.upd 8 c8 rfl
    refine kt 4 E rfl hT (qae qa2 rfl) fun a E=>kt 5 E rfl hT (qaj qak rfl (qab.cown 0 rfl rfl)) fun a E=>kt 6 E rfl hT (qb1 rfl rfl) fun a E=>kt 7 E rfl hT (qa1 rfl rfl) fun a E=>kt 8 E rfl hT (qah rfl) fun a E=>?_
    have E:=E.upd 13 c9 rfl
    refine kt 9 E rfl hT (qae qcn rfl) fun a E=>kt 10 E rfl hT (qaj qak rfl (qab.cown 0 rfl rfl)) fun a E=>kt 11 E rfl hT (qb7 rfl rfl) fun a E=>kt 12 E rfl hT (qah rfl) fun a E=>?_
    have E:=E.upd 17 c10 rfl
    refine qat 13 false E rfl (by kernel_rfl) nP hT rfl rfl fun a E=>qat 14 false E rfl (by kernel_rfl) nP hT rfl rfl fun a E=>qat 15 false E rfl (by kernel_rfl) nP hT rfl rfl fun a E=>qat 16 false E rfl (by kernel_rfl) nP hT rfl rfl fun a E=>qat 17 false E rfl (by kernel_rfl) nP hT rfl rfl fun a E=>qat 18 false E rfl (by kernel_rfl) nP hT rfl rfl fun a E=>qat 19 false E rfl (by kernel_rfl) nP hT rfl rfl fun a E=>kt 20 E rfl hT (qa1 rfl rfl) fun a E=>kt 21 E rfl hT (qa1 rfl rfl) fun a E=>kt 22 E rfl hT (qah rfl) fun a E=>kt 23 E rfl hT (qae qbs rfl) fun a E=>kt 24 E rfl hT (qaj qb3 rfl (qab.cown 0 rfl rfl)) fun a E=>kt 25 E rfl hT (qaD qbO h4 rfl) fun a E=>kt 26 E rfl hT (qav rfl rfl) fun a E=>kt 27 E rfl hT (qa1 rfl rfl) fun a E=>kt 28 E rfl hT (qah rfl) fun a E=>?_
    have E:=E.upd 33 c29 rfl
    refine qat 29 false E rfl (by kernel_rfl) nP hT rfl rfl fun a E=>qat 30 false E rfl (by kernel_rfl) nP hT rfl rfl fun a E=>qat 31 false E rfl (by kernel_rfl) nP hT rfl rfl fun a E=>qat 32 false E rfl (by kernel_rfl) nP hT rfl rfl fun a E=>kt 33 E rfl hT (qa8 rfl rfl) fun a E=>qaV (by kernel_rfl) ?_
    exact ⟨rfl,⟨m0,le_m0,ok,E.keep [1,38]⟩⟩
   have hF:=qcc c29 hF
   cases hF
   refine qaY [] (Cls u m0 ([(b5,oc 69 [vi r_0.Operand,vi r_0.Mod,vb r_0.Not,c3])] :: [])) (Cls u m0 ([(b5,oc 69 [vi r_0.Operand,vi r_0.Mod,vb r_0.Not,c3])] :: [])) (by kernel_rfl) ?_
   intro w hw
   replace ok:=qbd ok hw
   clear hw
   have h4_o:=h4
   refine qai (cl1 (cq le_m0 ok [0] rfl) (cq le_m0 ok [0] rfl)) fun hT=>kt 0 E rfl hT (qae qa2 rfl) fun a E=>kt 1 E rfl hT (qaj qak rfl (qab.cown 0 rfl rfl)) fun a E=>kt 2 E rfl hT (qav rfl rfl) fun a E=>kt 3 E rfl hT (qah rfl) fun a E=>?_
   have E:=E.upd 8 c8 rfl
   refine kt 4 E rfl hT (qae qa2 rfl) fun a E=>kt 5 E rfl hT (qaj qak rfl (qab.cown 0 rfl rfl)) fun a E=>kt 6 E rfl hT (qb1 rfl rfl) fun a E=>kt 7 E rfl hT (qa1 rfl rfl) fun a E=>kt 8 E rfl hT (qah rfl) fun a E=>?_
   have E:=E.upd 13 c9 rfl
   refine kt 9 E rfl hT (qae qcn rfl) fun a E=>kt 10 E rfl hT (qaj qak rfl (qab.cown 0 rfl rfl)) fun a E=>kt 11 E rfl hT (qb7 rfl rfl) fun a E=>kt 12 E rfl hT (qah rfl) fun a E=>?_
   have E:=E.upd 17 c10 rfl
   refine qat 13 false E rfl (by kernel_rfl) nP hT rfl rfl fun a E=>qat 14 false E rfl (by kernel_rfl) nP hT rfl rfl fun a E=>qat 15 false E rfl (by kernel_rfl) nP hT rfl rfl fun a E=>qat 16 false E rfl (by kernel_rfl) nP hT rfl rfl fun a E=>qat 17 false E rfl (by kernel_rfl) nP hT rfl rfl fun a E=>qat 18 false E rfl (by kernel_rfl) nP hT rfl rfl fun a E=>qat 19 false E rfl (by kernel_rfl) nP hT rfl rfl fun a E=>kt 20 E rfl hT (qa1 rfl rfl) fun a E=>kt 21 E rfl hT (qa1 rfl rfl) fun a E=>kt 22 E rfl hT (qah rfl) fun a E=>kt 23 E rfl hT (qae qbs rfl) fun a E=>kt 24 E rfl hT (qaj qb3 rfl (qab.cown 0 rfl rfl)) fun a E=>kt 25 E rfl hT (qaD qbO h4 rfl) fun a E=>kt 26 E rfl hT (qav rfl rfl) fun a E=>kt 27 E rfl hT (qa1 rfl rfl) fun a E=>kt 28 E rfl hT (qah rfl) fun a E=>?_
   have E:=E.upd 33 c29 rfl
   refine kt 29 E rfl hT (qae qbs rfl) fun a E=>kt 30 E rfl hT (qaj qb3 rfl (qab.cown 0 rfl rfl)) fun a E=>kt 31 E rfl hT (qaD qbO h4 rfl) fun a E=>kt 32 E rfl hT (qb1 rfl rfl) fun a E=>kt 33 E rfl hT (qa1 rfl rfl) fun a E=>qaV (by kernel_rfl) ?_
   exact ⟨rfl,⟨m0,le_m0,ok,E.keep [1,38]⟩⟩
 have hF:=qcg c10 hF
 obtain ⟨r11,e12,hF⟩:=bnd hF
 refine bd hF fun r16 e17 hF=>qcp (!r16) (fun c18=>?_) (fun c18=>?_)
 ·have hF:=qcg c18 hF
  cases hF
  refine qaY [] (Cls u m0 ([(b5,oc 69 [vi r_0.Operand,vi r_0.Mod,vb r_0.Not,c3])] :: [])) (Cls u m0 ([(b5,oc 69 [vi r_0.Operand,vi r_0.Mod,vb r_0.Not,c3])] :: [])) (by kernel_rfl) ?_
  intro w hw
  replace ok:=qbd ok hw
  clear hw
  have h4_o:=h4
  refine qai (cl1 (cq le_m0 ok [0] rfl) (cq le_m0 ok [0] rfl)) fun hT=>kt 0 E rfl hT (qae qa2 rfl) fun a E=>kt 1 E rfl hT (qaj qak rfl (qab.cown 0 rfl rfl)) fun a E=>kt 2 E rfl hT (qav rfl rfl) fun a E=>kt 3 E rfl hT (qah rfl) fun a E=>?_
  have E:=E.upd 8 c8 rfl
  refine kt 4 E rfl hT (qae qa2 rfl) fun a E=>kt 5 E rfl hT (qaj qak rfl (qab.cown 0 rfl rfl)) fun a E=>kt 6 E rfl hT (qb1 rfl rfl) fun a E=>kt 7 E rfl hT (qa1 rfl rfl) fun a E=>kt 8 E rfl hT (qah rfl) fun a E=>?_
  have E:=E.upd 13 c9 rfl
  refine kt 9 E rfl hT (qae qcn rfl) fun a E=>kt 10 E rfl hT (qaj qak rfl (qab.cown 0 rfl rfl)) fun a E=>kt 11 E rfl hT (qb7 rfl rfl) fun a E=>kt 12 E rfl hT (qah rfl) fun a E=>?_
  have E:=E.upd 17 c10 rfl
  refine kt 13 E rfl hT (qae qa2 rfl) fun a E=>kt 14 E rfl hT (qaj qak rfl (qab.cown 0 rfl rfl)) fun a E=>kt 16 E rfl hT (qae qcn rfl) fun a E=>kt 17 E rfl hT (qaj qak rfl (qab.cown 0 rfl rfl)) fun a E=>qao [15] (by kernel_rfl) rfl (qar ?_)
  ·refine wo rfl<|qan E qmg rfl (qfE N r_0.Operand r1 e12 hG ok) rfl rfl ?_
   rintro _ w ⟨m19,c20,rfl,hle,ok,h21⟩
   have le_m0:=le_m0.trans hle
   have h4:=(mL qdF).up hle h4
   refine ⟨_,rfl,fun a E=>?_⟩
   refine wn<|qai (cl1 (cq le_m0 ok [0] rfl) (cq le_m0 ok [0] rfl)) fun hT=>qao [18] (by kernel_rfl) rfl (qar ?_)
   ·refine wo rfl<|lc E qmG rfl (qfR N _ r11 h21 r_0.Mod r2 e17 hG ok) fun w ok a E=>wn<|qai (cl1 (cq le_m0 ok [0] rfl) (cq le_m0 ok [0] rfl)) fun hT=>kt 19 E rfl hT (qbu rfl) fun a E=>kt 20 E rfl hT (qa8 rfl rfl) fun a E=>kt 21 E rfl hT (qa1 rfl rfl) fun a E=>kt 22 E rfl hT (qah rfl) fun a E=>?_
    have E:=E.upd 27 c18 rfl
    refine qat 23 false E rfl (by kernel_rfl) nP hT rfl rfl fun a E=>qat 24 false E rfl (by kernel_rfl) nP hT rfl rfl fun a E=>qat 25 false E rfl (by kernel_rfl) nP hT rfl rfl fun a E=>qat 26 false E rfl (by kernel_rfl) nP hT rfl rfl fun a E=>kt 27 E rfl hT (qa8 rfl rfl) fun a E=>kt 28 E rfl hT (qah rfl) fun a E=>qat 29 false E rfl (by kernel_rfl) nP hT rfl rfl fun a E=>qat 30 false E rfl (by kernel_rfl) nP hT rfl rfl fun a E=>qat 31 false E rfl (by kernel_rfl) nP hT rfl rfl fun a E=>qat 32 false E rfl (by kernel_rfl) nP hT rfl rfl fun a E=>kt 33 E rfl hT (qa8 rfl rfl) fun a E=>qaV (by kernel_rfl) ?_
    exact ⟨rfl,⟨m19,le_m0,ok,E.keep [1,38]⟩⟩
 have hF:=qcc c18 hF
 refine qcp (decide ((r_0.Spans.length:Int) < 1)) (fun c22=>?_) (fun c22=>?_)
 ·have hF:=qcg c22 hF
  cases hF
  refine qaY [] (Cls u m0 ([(b5,oc 69 [vi r_0.Operand,vi r_0.Mod,vb r_0.Not,c3])] :: [])) (Cls u m0 ([(b5,oc 69 [vi r_0.Operand,vi r_0.Mod,vb r_0.Not,c3])] :: [])) (by kernel_rfl) ?_
  intro w hw
  replace ok:=qbd ok hw
  clear hw
  have h4_o:=h4
  refine qai (cl1 (cq le_m0 ok [0] rfl) (cq le_m0 ok [0] rfl)) fun hT=>kt 0 E rfl hT (qae qa2 rfl) fun a E=>kt 1 E rfl hT (qaj qak rfl (qab.cown 0 rfl rfl)) fun a E=>kt 2 E rfl hT (qav rfl rfl) fun a E=>kt 3 E rfl hT (qah rfl) fun a E=>?_
  have E:=E.upd 8 c8 rfl
  refine kt 4 E rfl hT (qae qa2 rfl) fun a E=>kt 5 E rfl hT (qaj qak rfl (qab.cown 0 rfl rfl)) fun a E=>kt 6 E rfl hT (qb1 rfl rfl) fun a E=>kt 7 E rfl hT (qa1 rfl rfl) fun a E=>kt 8 E rfl hT (qah rfl) fun a E=>?_
  have E:=E.upd 13 c9 rfl
  refine kt 9 E rfl hT (qae qcn rfl) fun a E=>kt 10 E rfl hT (qaj qak rfl (qab.cown 0 rfl rfl)) fun a E=>kt 11 E rfl hT (qb7 rfl rfl) fun a E=>kt 12 E rfl hT (qah rfl) fun a E=>?_
  have E:=E.upd 17 c10 rfl
  refine kt 13 E rfl hT (qae qa2 rfl) fun a E=>kt 14 E rfl hT (qaj qak rfl (qab.cown 0 rfl rfl)) fun a E=>kt 16 E rfl hT (qae qcn rfl) fun a E=>kt 17 E rfl hT (qaj qak rfl (qab.cown 0 rfl rfl)) fun a E=>qao [15] (by kernel_rfl) rfl (qar ?_)
  ·refine wo rfl<|qan E qmg rfl (qfE N r_0.Operand r1 e12 hG ok) rfl rfl ?_
   rintro _ w ⟨m23,c24,rfl,hle,ok,h25⟩
   have le_m0:=le_m0.trans hle
   have h4:=(mL qdF).up hle h4
   refine ⟨_,rfl,fun a E=>?_⟩
   refine wn<|qai (cl1 (cq le_m0 ok [0] rfl) (cq le_m0 ok [0] rfl)) fun hT=>qao [18] (by kernel_rfl) rfl (qar ?_)
   ·refine wo rfl<|lc E qmG rfl (qfR N _ r11 h25 r_0.Mod r2 e17 hG ok) fun w ok a E=>wn<|qai (cl1 (cq le_m0 ok [0] rfl) (cq le_m0 ok [0] rfl)) fun hT=>kt 19 E rfl hT (qbu rfl) fun a E=>kt 20 E rfl hT (qa8 rfl rfl) fun a E=>kt 21 E rfl hT (qa1 rfl rfl) fun a E=>kt 22 E rfl hT (qah rfl) fun a E=>?_
    have E:=E.upd 27 c18 rfl
    refine kt 23 E rfl hT (qae qbs rfl) fun a E=>kt 24 E rfl hT (qaj qb3 rfl (qab.cown 0 rfl rfl)) fun a E=>kt 25 E rfl hT (qaD qbO h4 rfl) fun a E=>kt 26 E rfl hT (qav rfl rfl) fun a E=>kt 27 E rfl hT (qa1 rfl rfl) fun a E=>kt 28 E rfl hT (qah rfl) fun a E=>?_
    have E:=E.upd 33 c22 rfl
    refine qat 29 false E rfl (by kernel_rfl) nP hT rfl rfl fun a E=>qat 30 false E rfl (by kernel_rfl) nP hT rfl rfl fun a E=>qat 31 false E rfl (by kernel_rfl) nP hT rfl rfl fun a E=>qat 32 false E rfl (by kernel_rfl) nP hT rfl rfl fun a E=>kt 33 E rfl hT (qa8 rfl rfl) fun a E=>qaV (by kernel_rfl) ?_
    exact ⟨rfl,⟨m23,le_m0,ok,E.keep [1,38]⟩⟩
 have hF:=qcc c22 hF
 cases hF
 refine qaY [] (Cls u m0 ([(b5,oc 69 [vi r_0.Operand,vi r_0.Mod,vb r_0.Not,c3])] :: [])) (Cls u m0 ([(b5,oc 69 [vi r_0.Operand,vi r_0.Mod,vb r_0.Not,c3])] :: [])) (by kernel_rfl) ?_
 intro w hw
 replace ok:=qbd ok hw
 clear hw
 have h4_o:=h4
 refine qai (cl1 (cq le_m0 ok [0] rfl) (cq le_m0 ok [0] rfl)) fun hT=>kt 0 E rfl hT (qae qa2 rfl) fun a E=>kt 1 E rfl hT (qaj qak rfl (qab.cown 0 rfl rfl)) fun a E=>kt 2 E rfl hT (qav rfl rfl) fun a E=>kt 3 E rfl hT (qah rfl) fun a E=>?_
 have E:=E.upd 8 c8 rfl
 refine kt 4 E rfl hT (qae qa2 rfl) fun a E=>kt 5 E rfl hT (qaj qak rfl (qab.cown 0 rfl rfl)) fun a E=>kt 6 E rfl hT (qb1 rfl rfl) fun a E=>kt 7 E rfl hT (qa1 rfl rfl) fun a E=>kt 8 E rfl hT (qah rfl) fun a E=>?_
 have E:=E.upd 13 c9 rfl
 refine kt 9 E rfl hT (qae qcn rfl) fun a E=>kt 10 E rfl hT (qaj qak rfl (qab.cown 0 rfl rfl)) fun a E=>kt 11 E rfl hT (qb7 rfl rfl) fun a E=>kt 12 E rfl hT (qah rfl) fun a E=>?_
 have E:=E.upd 17 c10 rfl
 refine kt 13 E rfl hT (qae qa2 rfl) fun a E=>kt 14 E rfl hT (qaj qak rfl (qab.cown 0 rfl rfl)) fun a E=>kt 16 E rfl hT (qae qcn rfl) fun a E=>kt 17 E rfl hT (qaj qak rfl (qab.cown 0 rfl rfl)) fun a E=>qao [15] (by kernel_rfl) rfl (qar ?_)
 ·refine wo rfl<|qan E qmg rfl (qfE N r_0.Operand r1 e12 hG ok) rfl rfl ?_
  rintro _ w ⟨m26,c27,rfl,hle,ok,h28⟩
  have le_m0:=le_m0.trans hle
  have h4:=(mL qdF).up hle h4
  refine ⟨_,rfl,fun a E=>?_⟩
  refine wn<|qai (cl1 (cq le_m0 ok [0] rfl) (cq le_m0 ok [0] rfl)) fun hT=>qao [18] (by kernel_rfl) rfl (qar ?_)
  ·refine wo rfl<|lc E qmG rfl (qfR N _ r11 h28 r_0.Mod r2 e17 hG ok) fun w ok a E=>wn<|qai (cl1 (cq le_m0 ok [0] rfl) (cq le_m0 ok [0] rfl)) fun hT=>kt 19 E rfl hT (qbu rfl) fun a E=>kt 20 E rfl hT (qa8 rfl rfl) fun a E=>kt 21 E rfl hT (qa1 rfl rfl) fun a E=>kt 22 E rfl hT (qah rfl) fun a E=>?_
   have E:=E.upd 27 c18 rfl
   refine kt 23 E rfl hT (qae qbs rfl) fun a E=>kt 24 E rfl hT (qaj qb3 rfl (qab.cown 0 rfl rfl)) fun a E=>kt 25 E rfl hT (qaD qbO h4 rfl) fun a E=>kt 26 E rfl hT (qav rfl rfl) fun a E=>kt 27 E rfl hT (qa1 rfl rfl) fun a E=>kt 28 E rfl hT (qah rfl) fun a E=>?_
   have E:=E.upd 33 c22 rfl
   refine kt 29 E rfl hT (qae qbs rfl) fun a E=>kt 30 E rfl hT (qaj qb3 rfl (qab.cown 0 rfl rfl)) fun a E=>kt 31 E rfl hT (qaD qbO h4 rfl) fun a E=>kt 32 E rfl hT (qb1 rfl rfl) fun a E=>kt 33 E rfl hT (qa1 rfl rfl) fun a E=>qaV (by kernel_rfl) ?_
   exact ⟨rfl,⟨m26,le_m0,ok,E.keep [1,38]⟩⟩
def qgy (u:World) (m0:Mem) (S:Segs) (r:Bool) (a:Act) (w:World):Prop :=
 Ok u m0 S w ∧ a.defers = [] ∧ RVs Tryz.prog a w [.t 2 (.bool r)]
theorem qkP (N:Nat) (vc_0:Value) (c_0:List (List (Relation))) (hc_0:(pL 1 (pL 4 qap)) m0 [vc_0] c_0) {r:Bool} (hF:qeX N c_0 = some r) (hG:Glob u) (ok:Ok u m0 S w) :
  Calls Tryz.prog 23 [vc_0].toArray w fun e w'=>(e = .returned (.bool r) ∧ Ok u m0 S w'):=by
 unfold qeX at hF
 refine en (qgy u m0 S) r Tryz.func23 rfl rfl rfl (fun _ _ h=>ra h rfl) fun fin a E=>sg<|aw E rfl fun a E=>sg<|aw E rfl fun a E=>wp_seq<|sg<|av E rfl fun a E=>wn<|wp_block<|bd hF fun o3 hL hF=>qaE _ (fun (s:Int × Int) a w=>Ok u m0 (S) w ∧ Env 45 a [(0,vc_0),(3,vi s.1),(4,vi s.2)] ∧ InR .i64 s.1 ∧ InR .i64 s.2) (fun (b:(Int ⊕ Bool)) e a w=>(Sum.elim (fun b77=>e = (.exit 0) ∧ Ok u m0 (S) w ∧ Env 45 a [(0,vc_0),(3,vi b77)] ∧ InR .i64 b77) (fun b79=>e = .ret ∧ qgy u m0 S b79 a w)) b) ?_ ?_ N _ a w hL ⟨ok,E.keep [0,3,4],(ir 0),(ir 0)⟩
 rotate_left
 ·intro e a w _ hO
  rcases o3 with o3 | o3
  rotate_left
  ·obtain ⟨rfl,hret⟩:=hO
   refine qaz<|qaq ?_
   exact fin hF hret
  have hF:=qca hF
  obtain ⟨rfl,ok,E,r75⟩:=hO
  refine qaM<|qaa<|sg<|mv E rfl fun a E=>lv E ok (qaD qcM hc_0 rfl) fun a E=>lw E (qb1 rfl rfl) fun a E=>mv E rfl fun a E=>bu E 41 hF (fun c76 hF E=>?_) fun c76 hF E=>?_
  ·refine mv E rfl fun a E=>lw E (qeC rfl rfl) fun a E=>pt E rfl rfl fun a E=>aw E rfl fun a E=>wp_ret ?_
   exact fin hF ⟨ok,E.d,rz E rfl⟩
  refine lsq E fun a E=>pf E rfl rfl fun a E=>aw E rfl fun a E=>wp_ret ?_
  exact fin hF ⟨ok,E.d,rz E rfl⟩
 rintro ⟨v6,v7⟩ a w r ⟨ok,E,r8,r9⟩ hF
 replace hF:qch N c_0 v6 v7 = some r:=hF
 unfold qch at hF
 refine wp_seq<|sg<|mz E rfl rfl fun a E=>lv E ok (qaD qcM hc_0 rfl) fun a E=>lw E (qav rfl rfl) fun a E=>wn<|cg E rfl hF (fun c10 hF=>?_) fun c10 hF=>?_
 ·refine wp_exit<|qaA ?_
  cases hF
  exact so (sl ⟨rfl,⟨ok,E.keep [0,3],r8⟩⟩)
 refine wp_skip<|qaa<|wp_seq<|wp_block<|wp_seq<|sg<|mv E rfl fun a E=>mv E rfl fun a E=>?_
 obtain ⟨x11,e12,hF⟩:=bnd hF
 obtain ⟨b13,o14,es15,hl16,rr17,at18,yy19⟩:=ia E 12 13 qcM hc_0 e12
 obtain ⟨c20,rfl,h21⟩:=qbK rr17
 refine lv E ok (yy19 _ _) fun a E=>lv E ok (qaj qci rfl (qab.ro at18)) fun a E=>lv E ok (qaD qa4 h21 rfl) fun a E=>lw E (qau rfl rfl) fun a E=>wn<|cf E rfl hF (fun c22 hF=>?_) fun c22 hF=>?_
 ·refine sg<|aw E rfl fun a E=>wp_ret<|qaq<|qaz<|qaq ?_
  cases hF
  exact so (sr ⟨rfl,⟨ok,E.d,rz E rfl⟩⟩)
 refine wp_skip<|qaa<|sg<|aw E rfl fun a E=>wp_block<|bd hF fun o25 hL hF=>qaE _ (fun (s:Int × Int) a w=>Ok u m0 (S) w ∧ Env 45 a [(0,vc_0),(3,vi s.1),(4,vi v7),(5,vi s.2)] ∧ InR .i64 s.1 ∧ InR .i64 s.2) (fun (b:(Int ⊕ Bool)) e a w=>(Sum.elim (fun b72=>e = (.exit 2) ∧ Ok u m0 (S) w ∧ Env 45 a [(0,vc_0),(3,vi b72),(4,vi v7)] ∧ InR .i64 b72) (fun b74=>e = .ret ∧ qgy u m0 S b74 a w)) b) ?_ ?_ N _ a w hL ⟨ok,E.keep [0,3,4,5],r8,(ir 0)⟩
 rotate_left
 ·intro e a w _ hO
  rcases o25 with o25 | o25
  rotate_left
  ·have hF:=qmt hF
   obtain ⟨rfl,hret⟩:=hO
   refine qaz<|qaz<|qaq ?_
   cases hF
   exact so (sr ⟨rfl,hret⟩)
  have hF:=qca hF
  obtain ⟨rfl,ok,E,r71⟩:=hO
  refine qaM<|qal<|qaa<|qac<|mv E rfl fun a E=>lw E (qaw rfl rfl (InR.inc r9 (qam hc_0) c10)) fun a E=>av E rfl fun a E=>wpList_nil ?_
  cases hF
  exact qas ⟨ok,E.keep [0,3,4],r71,(InR.inc r9 (qam hc_0) c10)⟩
 rintro ⟨v28,v29⟩ a w r ⟨ok,E,r30,r31⟩ hF
 replace hF:qbX N c_0 v7 v28 v29 = some r:=hF
 unfold qbX at hF
 refine wp_seq<|sg<|mz E rfl rfl fun a E=>mv E rfl fun a E=>?_
 obtain ⟨x32,e33,hF⟩:=bnd hF
 obtain ⟨b34,o35,es36,hl37,rr38,at39,yy40⟩:=ia E 19 20 qcM hc_0 e33
 obtain ⟨c41,rfl,h42⟩:=qbK rr38
 refine lv E ok (yy40 _ _) fun a E=>lv E ok (qaj qci rfl (qab.ro at39)) fun a E=>lv E ok (qaD qa4 h42 rfl) fun a E=>lw E (qav rfl rfl) fun a E=>wn<|cg E rfl hF (fun c43 hF=>?_) fun c43 hF=>?_
 ·refine wp_exit<|qaA ?_
  cases hF
  exact so (sl ⟨rfl,⟨ok,E.keep [0,3,4],r30⟩⟩)
 refine wp_skip<|qaa<|wp_seq<|wp_block<|sg<|mv E rfl fun a E=>lw E (qbq rfl rfl) fun a E=>aw E rfl fun a E=>sg<|mz E rfl rfl fun a E=>?_
 obtain ⟨x44,e45,hF⟩:=bnd hF
 obtain ⟨b46,o47,es48,hl49,rr50,at51,yy52⟩:=ia E 29 30 qcM hc_0 e45
 obtain ⟨c53,rfl,h54⟩:=qbK rr50
 refine lv E ok (yy52 _ _) fun a E=>lv E ok (qaj qci rfl (qab.ro at51)) fun a E=>mv E rfl fun a E=>?_
 obtain ⟨x55,e56,hF⟩:=bnd hF
 obtain ⟨b57,o58,es59,hl60,rr61,at62,yy63⟩:=ia E 32 33 qa4 h54 e56
 obtain ⟨c66,rfl,r64,r65,h67⟩:=rr61
 refine lv E ok (yy63 _ _) fun a E=>lv E ok (qag (cs:=[vi x55.Operand,vi x55.Mod,vb x55.Not,c66]) qbc rfl rfl (qab.ro at62)) fun a E=>bd hF fun r68 e69 hF=>lc E qsG rfl (qkv N _ x55 ⟨_,rfl,r64,r65,h67⟩ e69 hG ok) fun w ok a E=>lw E (qbu rfl) fun a E=>wn<|cg E rfl hF (fun c70 hF=>?_) fun c70 hF=>?_
 ·refine wp_skip<|qal<|qaa<|qac<|mv E rfl fun a E=>lw E (qaw rfl rfl (InR.inc r31 (qam h42) c43)) fun a E=>av E rfl fun a E=>wpList_nil ?_
  cases hF
  exact qas ⟨ok,E.keep [0,3,4,5],(InR.wrap _ _),(InR.inc r31 (qam h42) c43)⟩
 refine sg<|aw E rfl fun a E=>wp_ret<|qaz<|qaq ?_
 cases hF
 exact so (sr ⟨rfl,⟨ok,E.d,rz E rfl⟩⟩)
end Go.Proofs.YtidfofhmnlhfjaaGreatDoor
