/- Texts of this proof, joined by pack.py. -/
import Derived.Test.YthhieiabfpkaaaaGreatDoorPkKz2
import Derived.Test.YthhieiabfpkaaaaGreatDoorCards
import Derived.Test.YthhieiabfpkaaaaGreatDoorChecked
import Derived.Test.YthhieiabfpkaaaaGreatDoorProg
import Derived.Test.YthhieiabfpkaaaaGreatDoorRows
import Derived.Test.YthhieiabfpkaaaaGreatDoorTie
set_option linter.unusedVariables false
set_option linter.unusedSimpArgs false
namespace Go.Proofs.YthhieiabfpkaaaaGreatDoor
open Go.X
variable {u:World} {m0:Mem} {S:Segs} {w:World}
set_option maxHeartbeats 4000000
set_option maxRecDepth 100000
def qh8:Rp Position:=fun _ cs x=>cs = [.int .i64 x.Offset,.int .i64 x.Line,.int .i64 x.Column] ∧ InR .i64 x.Offset ∧ InR .i64 x.Line ∧ InR .i64 x.Column
theorem ql2:aggB Tryz.prog 88 3 = true:=by kernel_rfl
theorem qeR:qar Tryz.prog 145 1 1 = true:=by kernel_rfl
theorem qdF:qar Tryz.prog 145 2 2 = true:=by kernel_rfl
theorem qjf:qar Tryz.prog 145 3 3 = true:=by kernel_rfl
theorem qqW:qar Tryz.prog 145 4 4 = true:=by kernel_rfl
theorem qlb:qar Tryz.prog 145 5 5 = true:=by kernel_rfl
theorem qqR:qar Tryz.prog 180 0 0 = true:=by kernel_rfl
theorem qfF:qar Tryz.prog 180 1 1 = true:=by kernel_rfl
theorem qgb:goB Tryz.prog 107 = true:=by kernel_rfl
theorem qsX:goB Tryz.prog 108 = true:=by kernel_rfl
theorem qiF:goB Tryz.prog 109 = true:=by kernel_rfl
theorem qsZ:goB Tryz.prog 112 = true:=by kernel_rfl
theorem qs3:goB Tryz.prog 155 = true:=by kernel_rfl
theorem qs0:goB Tryz.prog 157 = true:=by kernel_rfl
theorem qtN:goB Tryz.prog 48 = true:=by kernel_rfl
theorem qtB:goB Tryz.prog 71 = true:=by kernel_rfl
theorem qtw:goB Tryz.prog 72 = true:=by kernel_rfl
theorem qr1:∃ i,Tryz.prog.info? 156 = some i ∧ i.size = 1:=⟨_,rfl,by kernel_rfl⟩
theorem qe5:∃ i,Tryz.prog.info? 3 = some i ∧ i.size = 1:=⟨_,rfl,by kernel_rfl⟩
theorem qkj:∃ i,Tryz.prog.info? 88 = some i ∧ i.size = 3:=⟨_,rfl,by kernel_rfl⟩
theorem qfo:oneB Tryz.prog 140 = true:=by kernel_rfl
theorem qfq:oneB Tryz.prog 35 = true:=by kernel_rfl
theorem qpd:qcq Tryz.prog 145 = some [(0,1),(1,1),(2,1),(3,1),(4,1),(5,1)]:=by kernel_rfl
theorem qkn:qcq Tryz.prog 88 = some [(0,1),(1,1),(2,1)]:=by kernel_rfl
theorem qmC:qlR Tryz.prog 4 = some (vb false):=by kernel_rfl
theorem qqA:qbq Tryz.prog 145 = some [(vs ([])),(Value.slice none 0 0),vi 0,(Value.map none),vi 0,vi 0]:=by kernel_rfl
theorem qqH:qbq Tryz.prog 156 = some [(Value.map none)]:=by kernel_rfl
theorem qhx:qbq Tryz.prog 88 = some [vi 0,vi 0,vi 0]:=by kernel_rfl
def qju (u:World) (m0:Mem) (S:Segs) (pb0:Nat) (x0:Parser) (c2:Value) (c5:Value) (M6:List (Nat × Obj)) (r:Int) (a:Act) (w:World):Prop :=
 Ok u m0 ([(pb0,oc 145 [vs x0.s,c2,vi x0.next,c5,vi x0.at_,vi x0.e])] :: M6 :: S) w ∧ a.defers = [] ∧ RVs Tryz.prog a w [.t 2 (.int .i64 r)] ∧ InR .i64 r
theorem qbt (N:Nat) {pb0:Nat} {c2:Value} {c5:Value} {M6:List (Nat × Obj)} (x0:Parser) (l1:x0.s.length ≤ LIMS) (h3:(pL 4 qbB) m0 [c2] x0.l) (r4:InR .i64 x0.next) (h7:OMap kS (oneV pB) m0 c5 x0.names M6) (r8:InR .i64 x0.at_) (r9:InR .i64 x0.e) {r:Int} (hF:qbl N x0 = some r) (hG:Glob u) (ok:Ok u m0 ([(pb0,oc 145 [vs x0.s,c2,vi x0.next,c5,vi x0.at_,vi x0.e])] :: M6 :: S) w) :
  Calls Tryz.prog 107 [vp pb0].toArray w fun e w'=>(e = .returned (.int .i64 r) ∧ Ok u m0 ([(pb0,oc 145 [vs x0.s,c2,vi x0.next,c5,vi x0.at_,vi x0.e])] :: M6 :: S) w') ∧ InR .i64 r:=by
 unfold qbl at hF
 refine en (qju u m0 S pb0 x0 c2 c5 M6) r Tryz.func107 rfl rfl rfl (fun _ _ h=>rb h rfl) fun fin a E=>sg<|aw E rfl fun a E=>wp_seq<|wp_seq<|qce (by kernel_rfl) (by kernel_rfl) ok<|qv E (qai rfl) fun a E=>qv E (qae rfl) fun a E=>qv E (qag qlb rfl) fun a E=>qv E (qal qfq rfl (Holds.own 0 rfl rfl)) fun a E=>qv E (qbD rfl rfl) fun a E=>qv E (qai rfl) fun a E=>bu E 8 hF (fun c10 hF E=>?_) fun c10 hF E=>?_
 ·refine qs E fun a E=>qs E fun a E=>qs E fun a E=>qs E fun a E=>qs E fun a E=>qs E fun a E=>qs E fun a E=>qs E fun a E=>qs E fun a E=>qs E fun a E=>qv E (qbV rfl rfl) fun a E=>wpQuiet_nil ?_
  intro w ok
  refine qaa<|c_if E rfl (fun _=>?_) (fun h=>by cases h)
  refine sg<|aw E rfl fun a E=>wp_ret<|qad ?_
  exact fin hF ⟨ok,E.d,rz E rfl,(ir 0)⟩
 refine qv E (qai rfl) fun a E=>qv E (qae rfl) fun a E=>qv E (qag qdF rfl) fun a E=>qv E (qal qam rfl (Holds.own 0 rfl rfl)) fun a E=>qv E (qai rfl) fun a E=>qv E (qae rfl) fun a E=>qv E (qag qeR rfl) fun a E=>qv E (qal qfo rfl (Holds.own 0 rfl rfl)) fun a E=>qv E (qaP qeo h3 rfl) fun a E=>qv E (qaq rfl rfl) fun a E=>qv E (qcD rfl rfl) fun a E=>wpQuiet_nil ?_
 intro w ok
 refine qaa<|cf E rfl hF (fun c11 hF=>?_) fun c11 hF=>?_
 ·refine sg<|aw E rfl fun a E=>wp_ret<|qad ?_
  exact fin hF ⟨ok,E.d,rz E rfl,(ir 0)⟩
 refine wp_skip<|qaa<|wp_seq<|qce (by kernel_rfl) (by kernel_rfl) ok<|qv E (qai rfl) fun a E=>qv E (qae rfl) fun a E=>qv E (qag qeR rfl) fun a E=>qv E (qal qfo rfl (Holds.own 0 rfl rfl)) fun a E=>qv E (qai rfl) fun a E=>qv E (qae rfl) fun a E=>qv E (qag qdF rfl) fun a E=>qv E (qal qam rfl (Holds.own 0 rfl rfl)) fun a E=>?_
 obtain ⟨x12,e13,hF⟩:=bnd hF
 obtain ⟨b14,o15,es16,hl17,rr18,at19,yy20⟩:=ia E 23 27 qeo h3 e13
 obtain ⟨rfl,r21,l22,r23,r24⟩:=rr18
 refine qv E (yy20 _ _) fun a E=>qv E (qag qqR rfl) fun a E=>qv E (qal qam rfl (Holds.ro (At.sub 0 1 at19))) fun a E=>qv E (qaG rfl) fun a E=>wpQuiet_nil ?_
 intro w ok
 refine qaa<|wp_ret ?_
 exact fin hF ⟨ok,E.d,rz E rfl,r21⟩
def qjr (u:World) (m0:Mem) (S:Segs) (pb0:Nat) (x0:Parser) (c2:Value) (c5:Value) (M6:List (Nat × Obj)) (r:(List UInt8) × Parser) (a:Act) (w:World):Prop :=
 ∃ m1 c11 c14 M15,m0.le m1 ∧ Ok u m1 ([(pb0,oc 145 [vs r.2.s,c11,vi r.2.next,c14,vi r.2.at_,vi r.2.e])] :: M15 :: S) w ∧ a.defers = [] ∧ RVs Tryz.prog a w [.t 4 (.string (bs r.1))] ∧ r.1.length ≤ LIMS ∧ r.2.s.length ≤ LIMS ∧ (pL 4 qbB) m1 [c11] r.2.l ∧ InR .i64 r.2.next ∧ OMap kS (oneV pB) m1 c14 r.2.names M15 ∧ InR .i64 r.2.at_ ∧ InR .i64 r.2.e
theorem qcm (N:Nat) (kind_1:Int) (rkind_1:InR .i64 kind_1) {pb0:Nat} {c2:Value} {c5:Value} {M6:List (Nat × Obj)} (x0:Parser) (l1:x0.s.length ≤ LIMS) (h3:(pL 4 qbB) m0 [c2] x0.l) (r4:InR .i64 x0.next) (h7:OMap kS (oneV pB) m0 c5 x0.names M6) (r8:InR .i64 x0.at_) (r9:InR .i64 x0.e) {r:(List UInt8) × Parser} (hF:qbw N kind_1 x0 = some r) (hG:Glob u) (ok:Ok u m0 ([(pb0,oc 145 [vs x0.s,c2,vi x0.next,c5,vi x0.at_,vi x0.e])] :: M6 :: S) w) :
  Calls Tryz.prog 109 [vp pb0,vi kind_1].toArray w fun e w'=>∃ m1 c11 c14 M15,e = .returned (.string (bs r.1)) ∧ m0.le m1 ∧ Ok u m1 ([(pb0,oc 145 [vs r.2.s,c11,vi r.2.next,c14,vi r.2.at_,vi r.2.e])] :: M15 :: S) w' ∧ r.1.length ≤ LIMS ∧ r.2.s.length ≤ LIMS ∧ (pL 4 qbB) m1 [c11] r.2.l ∧ InR .i64 r.2.next ∧ OMap kS (oneV pB) m1 c14 r.2.names M15 ∧ InR .i64 r.2.at_ ∧ InR .i64 r.2.e:=by
 have le_m0:=Mem.le.refl m0
 unfold qbw at hF
 refine en (qjr u m0 S pb0 x0 c2 c5 M6) r Tryz.func109 rfl rfl rfl (by rintro a w ⟨m1,c11,c14,M15,hle,ok,hd,hrv,h0,h1,h2,h3,h4,h5,h6⟩; exact qaT [.t 4 (.string (bs r.1))] hd rfl hrv ⟨m1,c11,c14,M15,rfl,hle,ok,h0,h1,h2,h3,h4,h5,h6⟩) fun fin a E=>sg<|aw E rfl fun a E=>wp_seq<|sg<|mv E rfl fun a E=>bd hF fun r19 e20 hF=>qaf E qgb rfl (qbt N x0 l1 h3 r4 h7 r8 r9 e20 hG ok) rfl rfl ?_
 rintro _ w ⟨⟨rfl,ok⟩,r21⟩
 refine ⟨_,rfl,fun a E=>?_⟩
 refine mv E rfl fun a E=>lw E (qbD rfl rfl) fun a E=>wn<|cf E rfl hF (fun c22 hF=>?_) fun c22 hF=>?_
 ·refine sg<|mv E rfl fun a E=>?_
  cases hF
 refine wp_skip<|qaa<|sg<|mv E rfl fun a E=>lw E (qae rfl) fun a E=>fk E ok qdF qam rfl 0 rfl rfl fun a E=>lw E (qaF rfl rfl) fun a E=>lw E (qae rfl) fun a E=>fv E qdF rfl fun a E=>qax E ok 0 rfl rfl rfl qe5 rfl rfl ⟨rfl,trivial⟩ rfl rfl fun w ok=>wn<|wp_seq<|qce (by kernel_rfl) (by kernel_rfl) ok ?_
 refine qv E (qai rfl) fun a E=>qv E (qae rfl) fun a E=>qv E (qag qeR rfl) fun a E=>qv E (qal qfo rfl (Holds.own 0 rfl rfl)) fun a E=>qv E (qai rfl) fun a E=>qv E (qae rfl) fun a E=>qv E (qag qdF rfl) fun a E=>qv E (qal qam rfl (Holds.own 0 rfl rfl)) fun a E=>qv E (qbI rfl rfl) fun a E=>?_
 obtain ⟨x23,e24,hF⟩:=bnd hF
 obtain ⟨b25,o26,es27,hl28,rr29,at30,yy31⟩:=ia E 21 26 qeo h3 e24
 obtain ⟨rfl,r32,l33,r34,r35⟩:=rr29
 refine qv E (yy31 _ _) fun a E=>qv E (qag qfF rfl) fun a E=>qv E (qal qay rfl (Holds.ro (At.sub 1 1 at30))) fun a E=>qv E (qaG rfl) fun a E=>wpQuiet_nil ?_
 intro w ok
 refine qaa<|wp_ret ?_
 exact fin hF ⟨m0,c2,c5,M6,le_m0,ok,E.d,rz E rfl,l33,l1,h3,(InR.wrap _ _),h7,r8,r9⟩
def qhk (u:World) (m0:Mem) (S:Segs) (pb0:Nat) (x0:Parser) (c2:Value) (c5:Value) (M6:List (Nat × Obj)) (r:(List UInt8) × Parser) (a:Act) (w:World):Prop :=
 ∃ m1 c11 c14 M15,m0.le m1 ∧ Ok u m1 ([(pb0,oc 145 [vs r.2.s,c11,vi r.2.next,c14,vi r.2.at_,vi r.2.e])] :: M15 :: S) w ∧ a.defers = [] ∧ RVs Tryz.prog a w [.t 4 (.string (bs r.1))] ∧ r.1.length ≤ LIMS ∧ r.2.s.length ≤ LIMS ∧ (pL 4 qbB) m1 [c11] r.2.l ∧ InR .i64 r.2.next ∧ OMap kS (oneV pB) m1 c14 r.2.names M15 ∧ InR .i64 r.2.at_ ∧ InR .i64 r.2.e
theorem qhp (N:Nat) {pb0:Nat} {c2:Value} {c5:Value} {M6:List (Nat × Obj)} (x0:Parser) (l1:x0.s.length ≤ LIMS) (h3:(pL 4 qbB) m0 [c2] x0.l) (r4:InR .i64 x0.next) (h7:OMap kS (oneV pB) m0 c5 x0.names M6) (r8:InR .i64 x0.at_) (r9:InR .i64 x0.e) {r:(List UInt8) × Parser} (hF:qcs N x0 = some r) (hG:Glob u) (ok:Ok u m0 ([(pb0,oc 145 [vs x0.s,c2,vi x0.next,c5,vi x0.at_,vi x0.e])] :: M6 :: S) w) :
  Calls Tryz.prog 157 [vp pb0,Value.func (.func 117) #[] #[]].toArray w fun e w'=>∃ m1 c11 c14 M15,e = .returned (.string (bs r.1)) ∧ m0.le m1 ∧ Ok u m1 ([(pb0,oc 145 [vs r.2.s,c11,vi r.2.next,c14,vi r.2.at_,vi r.2.e])] :: M15 :: S) w' ∧ r.1.length ≤ LIMS ∧ r.2.s.length ≤ LIMS ∧ (pL 4 qbB) m1 [c11] r.2.l ∧ InR .i64 r.2.next ∧ OMap kS (oneV pB) m1 c14 r.2.names M15 ∧ InR .i64 r.2.at_ ∧ InR .i64 r.2.e:=by
 have le_m0:=Mem.le.refl m0
 unfold qcs at hF
 refine en (qhk u m0 S pb0 x0 c2 c5 M6) r Tryz.func157 rfl rfl rfl (by rintro a w ⟨m1,c11,c14,M15,hle,ok,hd,hrv,h0,h1,h2,h3,h4,h5,h6⟩; exact qaT [.t 4 (.string (bs r.1))] hd rfl hrv ⟨m1,c11,c14,M15,rfl,hle,ok,h0,h1,h2,h3,h4,h5,h6⟩) fun fin a E=>sg<|aw E rfl fun a E=>wp_seq<|wp_seq<|bd hF fun o19 hJ hF=>qaH (Q':=fun e a w=>e = .normal ∧ Ok u m0 ([(pb0,oc 145 [vs x0.s,c2,vi x0.next,c5,vi x0.at_,vi x0.e])] :: M6 :: S) w ∧ Env 28 a [(0,vp pb0),(23,vb o19)]) ?_ ?_
 rotate_left
 ·intro e a w hO
  obtain ⟨rfl,ok,E⟩:=hO
  refine qaa<|cf E rfl hF (fun c52 hF=>?_) fun c52 hF=>?_
  ·refine sg<|mv E rfl fun a E=>?_
   cases hF
  refine wp_skip<|qaa<|sg<|mv E rfl fun a E=>bd hF fun r53 e54 hF=>qaf E qiF rfl (qcm N 9 (ir 9) x0 l1 h3 r4 h7 r8 r9 e54 hG ok) rfl rfl ?_
  rintro _ w ⟨m55,c58,c61,M62,rfl,hle,ok,l56,l57,h59,r60,h63,r64,r65⟩
  have le_m0:=le_m0.trans hle
  have h3:=(mL qbH).up hle h3
  refine ⟨_,rfl,fun a E=>?_⟩
  refine aw E rfl fun a E=>wp_ret ?_
  exact fin hF ⟨m55,c58,c61,M62,le_m0,ok,E.d,rz E rfl,l56,l57,h59,r60,h63,r64,r65⟩
 have hF:=hJ
 refine bd hF fun r20 e21 hF=>qcu (r20 != 9) (fun c23=>?_) (fun c23=>?_)
 ·have hF:=qci c23 hF
  cases hF
  refine qco [] (Cls u m0 ([(pb0,oc 145 [vs x0.s,c2,vi x0.next,c5,vi x0.at_,vi x0.e])] :: M6 :: [])) (Cls u m0 ([(pb0,oc 145 [vs x0.s,c2,vi x0.next,c5,vi x0.at_,vi x0.e])] :: M6 :: [])) (by kernel_rfl) ?_
  intro w hw
  replace ok:=qc8 ok hw
  clear hw
  refine qas (cl1 (cq le_m0 ok [0,1] rfl) (cq le_m0 ok [0,1] rfl)) fun hT=>kt 0 E rfl hT (qai rfl) fun a E=>qaS [1] (by kernel_rfl) rfl (qaZ ?_)
  ·refine wo rfl<|qaf E qgb rfl (qbt N x0 l1 h3 r4 h7 r8 r9 e21 hG ok) rfl rfl ?_
   rintro _ w ⟨⟨rfl,ok⟩,r24⟩
   refine ⟨_,rfl,fun a E=>?_⟩
   refine wn<|qas (cl1 (cq le_m0 ok [0,1] rfl) (cq le_m0 ok [0,1] rfl)) fun hT=>kt 2 E rfl hT (qbD rfl rfl) fun a E=>kt 3 E rfl hT (qai rfl) fun a E=>?_
   have E:=E.upd 8 c23 rfl
   refine qaz 4 false E rfl (by kernel_rfl) nP hT rfl rfl fun a E=>qaz 5 false E rfl (by kernel_rfl) nP hT rfl rfl fun a E=>qaz 6 false E rfl (by kernel_rfl) nP hT rfl rfl fun a E=>qaz 7 false E rfl (by kernel_rfl) nP hT rfl rfl fun a E=>qaz 8 false E rfl (by kernel_rfl) nP hT rfl rfl fun a E=>qaz 9 false E rfl (by kernel_rfl) nP hT rfl rfl fun a E=>qaz 10 false E rfl (by kernel_rfl) nP hT rfl rfl fun a E=>qaz 11 false E rfl (by kernel_rfl) nP hT rfl rfl fun a E=>qaz 12 false E rfl (by kernel_rfl) nP hT rfl rfl fun a E=>qaz 13 false E rfl (by kernel_rfl) nP hT rfl rfl fun a E=>qaz 14 false E rfl (by kernel_rfl) nP hT rfl rfl fun a E=>qaz 15 false E rfl (by kernel_rfl) nP hT rfl rfl fun a E=>qaz 16 false E rfl (by kernel_rfl) nP hT rfl rfl fun a E=>qaz 17 false E rfl (by kernel_rfl) nP hT rfl rfl fun a E=>kt 18 E rfl hT (qbV rfl rfl) fun a E=>qbJ (by kernel_rfl) ?_
   exact ⟨rfl,⟨ok,E.keep [0,23]⟩⟩
 have hF:=qcc c23 hF
 obtain ⟨x25,e26,hF⟩:=bnd hF
 obtain ⟨r38,e39,hF⟩:=bnd hF
 obtain rfl:=sj hF
 refine qco [] (Cls u m0 ([(pb0,oc 145 [vs x0.s,c2,vi x0.next,c5,vi x0.at_,vi x0.e])] :: M6 :: [])) (Cls u m0 ([(pb0,oc 145 [vs x0.s,c2,vi x0.next,c5,vi x0.at_,vi x0.e])] :: M6 :: [])) (by kernel_rfl) ?_
 intro w hw
 replace ok:=qc8 ok hw
 clear hw
 refine qas (cl1 (cq le_m0 ok [0,1] rfl) (cq le_m0 ok [0,1] rfl)) fun hT=>kt 0 E rfl hT (qai rfl) fun a E=>qaS [1] (by kernel_rfl) rfl (qaZ ?_)
 ·refine wo rfl<|qaf E qgb rfl (qbt N x0 l1 h3 r4 h7 r8 r9 e21 hG ok) rfl rfl ?_
  rintro _ w ⟨⟨rfl,ok⟩,r40⟩
  refine ⟨_,rfl,fun a E=>?_⟩
  refine wn<|qas (cl1 (cq le_m0 ok [0,1] rfl) (cq le_m0 ok [0,1] rfl)) fun hT=>kt 2 E rfl hT (qbD rfl rfl) fun a E=>kt 3 E rfl hT (qai rfl) fun a E=>?_
  have E:=E.upd 8 c23 rfl
  refine kt 4 E rfl hT (qai rfl) fun a E=>kt 5 E rfl hT (qai rfl) fun a E=>kt 6 E rfl hT (qae rfl) fun a E=>kt 7 E rfl hT (qag qeR rfl) fun a E=>kt 8 E rfl hT (qal qfo rfl (Holds.cown 0 rfl rfl)) fun a E=>kt 9 E rfl hT (qai rfl) fun a E=>kt 10 E rfl hT (qae rfl) fun a E=>kt 11 E rfl hT (qag qdF rfl) fun a E=>kt 12 E rfl hT (qal qam rfl (Holds.cown 0 rfl rfl)) fun a E=>?_
  obtain ⟨b41,o42,es43,hl44,rr45,at46,yy47⟩:=ia E 13 17 qeo h3 e26
  obtain ⟨rfl,r48,l49,r50,r51⟩:=rr45
  refine kt 13 E rfl hT (yy47 _ _) fun a E=>kt 14 E rfl hT (qag qfF rfl) fun a E=>kt 15 E rfl hT (qal qay rfl (Holds.cro (At.sub 1 1 at46))) fun a E=>qaS [16] (by kernel_rfl) rfl (qaZ ?_)
  ·refine wo rfl<|qsB E rfl qf6 rfl (qc7 N x25.Text l49 e39 hG ok) rfl rfl ?_
   rintro _ w ⟨rfl,ok⟩
   refine ⟨_,rfl,fun a E=>?_⟩
   refine wn<|qas (cl1 (cq le_m0 ok [0,1] rfl) (cq le_m0 ok [0,1] rfl)) fun hT=>kt 17 E rfl hT (qbx rfl) fun a E=>kt 18 E rfl hT (qcD rfl rfl) fun a E=>qbJ (by kernel_rfl) ?_
   exact ⟨rfl,⟨ok,E.keep [0,23]⟩⟩
def qja (u:World) (m0:Mem) (S:Segs) (pb0:Nat) (x0:Parser) (c2:Value) (c5:Value) (M6:List (Nat × Obj)) (r:(List UInt8) × Parser) (a:Act) (w:World):Prop :=
 ∃ m1 c11 c14 M15,m0.le m1 ∧ Ok u m1 ([(pb0,oc 145 [vs r.2.s,c11,vi r.2.next,c14,vi r.2.at_,vi r.2.e])] :: M15 :: S) w ∧ a.defers = [] ∧ RVs Tryz.prog a w [.t 2 (.string (bs r.1))] ∧ r.1.length ≤ LIMS ∧ r.2.s.length ≤ LIMS ∧ (pL 4 qbB) m1 [c11] r.2.l ∧ InR .i64 r.2.next ∧ OMap kS (oneV pB) m1 c14 r.2.names M15 ∧ InR .i64 r.2.at_ ∧ InR .i64 r.2.e
theorem qjg (N:Nat) {pb0:Nat} {c2:Value} {c5:Value} {M6:List (Nat × Obj)} (x0:Parser) (l1:x0.s.length ≤ LIMS) (h3:(pL 4 qbB) m0 [c2] x0.l) (r4:InR .i64 x0.next) (h7:OMap kS (oneV pB) m0 c5 x0.names M6) (r8:InR .i64 x0.at_) (r9:InR .i64 x0.e) {r:(List UInt8) × Parser} (hF:qdz N x0 = some r) (hG:Glob u) (ok:Ok u m0 ([(pb0,oc 145 [vs x0.s,c2,vi x0.next,c5,vi x0.at_,vi x0.e])] :: M6 :: S) w) :
  Calls Tryz.prog 155 [vp pb0].toArray w fun e w'=>∃ m1 c11 c14 M15,e = .returned (.string (bs r.1)) ∧ m0.le m1 ∧ Ok u m1 ([(pb0,oc 145 [vs r.2.s,c11,vi r.2.next,c14,vi r.2.at_,vi r.2.e])] :: M15 :: S) w' ∧ r.1.length ≤ LIMS ∧ r.2.s.length ≤ LIMS ∧ (pL 4 qbB) m1 [c11] r.2.l ∧ InR .i64 r.2.next ∧ OMap kS (oneV pB) m1 c14 r.2.names M15 ∧ InR .i64 r.2.at_ ∧ InR .i64 r.2.e:=by
 have le_m0:=Mem.le.refl m0
 unfold qdz at hF
 refine en (qja u m0 S pb0 x0 c2 c5 M6) r Tryz.func155 rfl rfl rfl (by rintro a w ⟨m1,c11,c14,M15,hle,ok,hd,hrv,h0,h1,h2,h3,h4,h5,h6⟩; exact qaT [.t 2 (.string (bs r.1))] hd rfl hrv ⟨m1,c11,c14,M15,rfl,hle,ok,h0,h1,h2,h3,h4,h5,h6⟩) fun fin a E=>sg<|aw E rfl fun a E=>wp_seq<|wp_seq<|bd hF fun o19 hJ hF=>qaH (Q':=fun e a w=>e = .normal ∧ Ok u m0 ([(pb0,oc 145 [vs x0.s,c2,vi x0.next,c5,vi x0.at_,vi x0.e])] :: M6 :: S) w ∧ Env 60 a [(0,vp pb0),(47,vb o19)]) ?_ ?_
 rotate_left
 ·intro e a w hO
  obtain ⟨rfl,ok,E⟩:=hO
  refine qaa<|bd hF fun o125 hJ hF=>qaH (Q':=fun e a w=>e = .normal ∧ Ok u m0 ([(pb0,oc 145 [vs x0.s,c2,vi x0.next,c5,vi x0.at_,vi x0.e])] :: M6 :: S) w ∧ Env 60 a [(0,vp pb0)]) ?_ ?_
  ·have hF:=hJ
   refine cf E rfl hF (fun c126 hF=>?_) fun c126 hF=>?_
   ·refine qab<|mv E rfl fun a E=>?_
    cases hF
   refine wp_skip ?_
   cases hF
   exact ⟨rfl,⟨ok,E.keep [0]⟩⟩
  intro e a w hO
  obtain ⟨rfl,ok,E⟩:=hO
  refine qaa<|sg<|mv E rfl fun a E=>bd hF fun r127 e128 hF=>qaf E qs0 rfl (qhp N x0 l1 h3 r4 h7 r8 r9 e128 hG ok) rfl rfl ?_
  rintro _ w ⟨m129,c132,c135,M136,rfl,hle,ok,l130,l131,h133,r134,h137,r138,r139⟩
  have le_m0:=le_m0.trans hle
  have h3:=(mL qbH).up hle h3
  refine ⟨_,rfl,fun a E=>?_⟩
  refine aw E rfl fun a E=>wp_seq<|sg<|mv E rfl fun a E=>lw E (qdj rfl rfl) fun a E=>wn<|cg E rfl hF (fun c140 hF=>?_) fun c140 hF=>?_
  ·refine wp_skip<|qaa<|sg<|mv E rfl fun a E=>aw E rfl fun a E=>wp_ret ?_
   exact fin hF ⟨m129,c132,c135,M136,le_m0,ok,E.d,rz E rfl,l130,l131,h133,r134,h137,r138,r139⟩
  refine qab<|mv E rfl fun a E=>lw E (qae rfl) fun a E=>fk E ok qjf qgC rfl 0 rfl rfl fun a E=>mv E rfl fun a E=>bd hF fun l141 e142 hF=>qmb (.inl rfl) E ok 1 (qc6 Tryz.underlying9) Tryz.underlying120 h137 rfl rfl rfl rfl ⟨rfl,l130⟩ qdi e142 rfl fun M143 w ok h144=>wn<|sg<|mv E rfl fun a E=>av E rfl fun a E=>wn<|wp_ret ?_
  exact fin hF ⟨m129,c132,c135,M143,le_m0,ok,E.d,rz E rfl,l130,l131,h133,r134,h144,r138,r139⟩
 have hF:=hJ
 refine bd hF fun r20 e21 hF=>qcu (r20 == 9) (fun c23=>?_) (fun c23=>?_)
 rotate_left
 ·have hF:=qcc c23 hF
  cases hF
  refine qco [] (Cls u m0 ([(pb0,oc 145 [vs x0.s,c2,vi x0.next,c5,vi x0.at_,vi x0.e])] :: M6 :: [])) (Cls u m0 ([(pb0,oc 145 [vs x0.s,c2,vi x0.next,c5,vi x0.at_,vi x0.e])] :: M6 :: [])) (by kernel_rfl) ?_
  intro w hw
  replace ok:=qc8 ok hw
  clear hw
  refine qas (cl1 (cq le_m0 ok [0,1] rfl) (cq le_m0 ok [0,1] rfl)) fun hT=>kt 0 E rfl hT (qai rfl) fun a E=>qaS [1] (by kernel_rfl) rfl (qaZ ?_)
  ·refine wo rfl<|qaf E qgb rfl (qbt N x0 l1 h3 r4 h7 r8 r9 e21 hG ok) rfl rfl ?_
   rintro _ w ⟨⟨rfl,ok⟩,r124⟩
   refine ⟨_,rfl,fun a E=>?_⟩
   refine wn<|qas (cl1 (cq le_m0 ok [0,1] rfl) (cq le_m0 ok [0,1] rfl)) fun hT=>kt 2 E rfl hT (qah rfl rfl) fun a E=>kt 3 E rfl hT (qai rfl) fun a E=>?_
   have E:=E.upd 7 c23 rfl
   refine qaz 4 false E rfl (by kernel_rfl) nP hT rfl rfl fun a E=>qaz 5 false E rfl (by kernel_rfl) nP hT rfl rfl fun a E=>qaz 6 false E rfl (by kernel_rfl) nP hT rfl rfl fun a E=>qaz 7 false E rfl (by kernel_rfl) nP hT rfl rfl fun a E=>qaz 8 false E rfl (by kernel_rfl) nP hT rfl rfl fun a E=>qaz 9 false E rfl (by kernel_rfl) nP hT rfl rfl fun a E=>qaz 10 false E rfl (by kernel_rfl) nP hT rfl rfl fun a E=>qaz 11 false E rfl (by kernel_rfl) nP hT rfl rfl fun a E=>qaz 12 false E rfl (by kernel_rfl) nP hT rfl rfl fun a E=>qaz 13 false E rfl (by kernel_rfl) nP hT rfl rfl fun a E=>qaz 14 false E rfl (by kernel_rfl) nP hT rfl rfl fun a E=>qaz 15 false E rfl (by kernel_rfl) nP hT rfl rfl fun a E=>kt 16 E rfl hT (qcD rfl rfl) fun a E=>kt 17 E rfl hT (qai rfl) fun a E=>qaz 18 false E rfl (by kernel_rfl) nP hT rfl rfl fun a E=>qaz 19 false E rfl (by kernel_rfl) nP hT rfl rfl fun a E=>?_
   refine qaz 20 false E rfl (by kernel_rfl) nP hT rfl rfl fun a E=>qaz 21 false E rfl (by kernel_rfl) nP hT rfl rfl fun a E=>qaz 22 false E rfl (by kernel_rfl) nP hT rfl rfl fun a E=>qaz 23 false E rfl (by kernel_rfl) nP hT rfl rfl fun a E=>qaz 24 false E rfl (by kernel_rfl) nP hT rfl rfl fun a E=>qaz 25 false E rfl (by kernel_rfl) nP hT rfl rfl fun a E=>qaz 26 false E rfl (by kernel_rfl) nP hT rfl rfl fun a E=>qaz 27 false E rfl (by kernel_rfl) nP hT rfl rfl fun a E=>qaz 28 false E rfl (by kernel_rfl) nP hT rfl rfl fun a E=>qaz 29 false E rfl (by kernel_rfl) nP hT rfl rfl fun a E=>qaz 30 false E rfl (by kernel_rfl) nP hT rfl rfl fun a E=>qaz 31 false E rfl (by kernel_rfl) nP hT rfl rfl fun a E=>qaz 32 false E rfl (by kernel_rfl) nP hT rfl rfl fun a E=>qaz 33 false E rfl (by kernel_rfl) nP hT rfl rfl fun a E=>qaz 34 false E rfl (by kernel_rfl) nP hT rfl rfl fun a E=>kt 35 E rfl hT (qcD rfl rfl) fun a E=>?_
   refine kt 36 E rfl hT (qai rfl) fun a E=>qaz 37 false E rfl (by kernel_rfl) nP hT rfl rfl fun a E=>qaz 38 false E rfl (by kernel_rfl) nP hT rfl rfl fun a E=>qaz 39 false E rfl (by kernel_rfl) nP hT rfl rfl fun a E=>qaz 40 false E rfl (by kernel_rfl) nP hT rfl rfl fun a E=>qaz 41 false E rfl (by kernel_rfl) nP hT rfl rfl fun a E=>qaz 42 false E rfl (by kernel_rfl) nP hT rfl rfl fun a E=>kt 43 E rfl hT (qcD rfl rfl) fun a E=>qbJ (by kernel_rfl) ?_
   exact ⟨rfl,⟨ok,E.keep [0,47]⟩⟩
 have hF:=qci c23 hF
 obtain ⟨x24,e25,hF⟩:=bnd hF
 refine bd hF fun r37 e38 hF=>qcu r37 (fun c39=>?_) (fun c39=>?_)
 rotate_left
 ·have hF:=qcc c39 hF
  cases hF
  refine qco [] (Cls u m0 ([(pb0,oc 145 [vs x0.s,c2,vi x0.next,c5,vi x0.at_,vi x0.e])] :: M6 :: [])) (Cls u m0 ([(pb0,oc 145 [vs x0.s,c2,vi x0.next,c5,vi x0.at_,vi x0.e])] :: M6 :: [])) (by kernel_rfl) ?_
  intro w hw
  replace ok:=qc8 ok hw
  clear hw
  refine qas (cl1 (cq le_m0 ok [0,1] rfl) (cq le_m0 ok [0,1] rfl)) fun hT=>kt 0 E rfl hT (qai rfl) fun a E=>qaS [1] (by kernel_rfl) rfl (qaZ ?_)
  ·refine wo rfl<|qaf E qgb rfl (qbt N x0 l1 h3 r4 h7 r8 r9 e21 hG ok) rfl rfl ?_
   rintro _ w ⟨⟨rfl,ok⟩,r112⟩
   refine ⟨_,rfl,fun a E=>?_⟩
   refine wn<|qas (cl1 (cq le_m0 ok [0,1] rfl) (cq le_m0 ok [0,1] rfl)) fun hT=>kt 2 E rfl hT (qah rfl rfl) fun a E=>kt 3 E rfl hT (qai rfl) fun a E=>?_
   have E:=E.upd 7 c23 rfl
   refine kt 4 E rfl hT (qai rfl) fun a E=>kt 5 E rfl hT (qae rfl) fun a E=>kt 6 E rfl hT (qag qeR rfl) fun a E=>kt 7 E rfl hT (qal qfo rfl (Holds.cown 0 rfl rfl)) fun a E=>kt 8 E rfl hT (qai rfl) fun a E=>kt 9 E rfl hT (qae rfl) fun a E=>kt 10 E rfl hT (qag qdF rfl) fun a E=>kt 11 E rfl hT (qal qam rfl (Holds.cown 0 rfl rfl)) fun a E=>?_
   obtain ⟨b113,o114,es115,hl116,rr117,at118,yy119⟩:=ia E 11 15 qeo h3 e25
   obtain ⟨rfl,r120,l121,r122,r123⟩:=rr117
   refine kt 12 E rfl hT (yy119 _ _) fun a E=>kt 13 E rfl hT (qag qfF rfl) fun a E=>kt 14 E rfl hT (qal qay rfl (Holds.cro (At.sub 1 1 at118))) fun a E=>qaS [15] (by kernel_rfl) rfl (qaZ ?_)
   ·refine wo rfl<|lc E qf6 rfl (qc7 N x24.Text l121 e38 hG ok) fun w ok a E=>wn<|qas (cl1 (cq le_m0 ok [0,1] rfl) (cq le_m0 ok [0,1] rfl)) fun hT=>kt 16 E rfl hT (qbV rfl rfl) fun a E=>kt 17 E rfl hT (qai rfl) fun a E=>?_
    have E:=E.upd 21 c39 rfl
    refine qaz 18 false E rfl (by kernel_rfl) nP hT rfl rfl fun a E=>qaz 19 false E rfl (by kernel_rfl) nP hT rfl rfl fun a E=>qaz 20 false E rfl (by kernel_rfl) nP hT rfl rfl fun a E=>qaz 21 false E rfl (by kernel_rfl) nP hT rfl rfl fun a E=>qaz 22 false E rfl (by kernel_rfl) nP hT rfl rfl fun a E=>qaz 23 false E rfl (by kernel_rfl) nP hT rfl rfl fun a E=>qaz 24 false E rfl (by kernel_rfl) nP hT rfl rfl fun a E=>qaz 25 false E rfl (by kernel_rfl) nP hT rfl rfl fun a E=>qaz 26 false E rfl (by kernel_rfl) nP hT rfl rfl fun a E=>qaz 27 false E rfl (by kernel_rfl) nP hT rfl rfl fun a E=>qaz 28 false E rfl (by kernel_rfl) nP hT rfl rfl fun a E=>qaz 29 false E rfl (by kernel_rfl) nP hT rfl rfl fun a E=>qaz 30 false E rfl (by kernel_rfl) nP hT rfl rfl fun a E=>qaz 31 false E rfl (by kernel_rfl) nP hT rfl rfl fun a E=>qaz 32 false E rfl (by kernel_rfl) nP hT rfl rfl fun a E=>qaz 33 false E rfl (by kernel_rfl) nP hT rfl rfl fun a E=>?_
    refine qaz 34 false E rfl (by kernel_rfl) nP hT rfl rfl fun a E=>kt 35 E rfl hT (qcD rfl rfl) fun a E=>kt 36 E rfl hT (qai rfl) fun a E=>qaz 37 false E rfl (by kernel_rfl) nP hT rfl rfl fun a E=>qaz 38 false E rfl (by kernel_rfl) nP hT rfl rfl fun a E=>qaz 39 false E rfl (by kernel_rfl) nP hT rfl rfl fun a E=>qaz 40 false E rfl (by kernel_rfl) nP hT rfl rfl fun a E=>qaz 41 false E rfl (by kernel_rfl) nP hT rfl rfl fun a E=>qaz 42 false E rfl (by kernel_rfl) nP hT rfl rfl fun a E=>kt 43 E rfl hT (qcD rfl rfl) fun a E=>qbJ (by kernel_rfl) ?_
    exact ⟨rfl,⟨ok,E.keep [0,47]⟩⟩
 have hF:=qci c39 hF
 refine bd hF fun x40 e41 hF=>qcu (!((mget x0.names x40.Text).getD false)) (fun c57=>?_) (fun c57=>?_)
 ·as_aux_lemma =>
   have hF:=qci c57 hF
   cases hF
   refine qco [] (Cls u m0 ([(pb0,oc 145 [vs x0.s,c2,vi x0.next,c5,vi x0.at_,vi x0.e])] :: M6 :: [])) (Cls u m0 ([(pb0,oc 145 [vs x0.s,c2,vi x0.next,c5,vi x0.at_,vi x0.e])] :: M6 :: [])) (by kernel_rfl) ?_
   intro w hw
   replace ok:=qc8 ok hw
   clear hw
   refine qas (cl1 (cq le_m0 ok [0,1] rfl) (cq le_m0 ok [0,1] rfl)) fun hT=>kt 0 E rfl hT (qai rfl) fun a E=>qaS [1] (by kernel_rfl) rfl (qaZ ?_)
   ·refine wo rfl<|qaf E qgb rfl (qbt N x0 l1 h3 r4 h7 r8 r9 e21 hG ok) rfl rfl ?_
    rintro _ w ⟨⟨rfl,ok⟩,r58⟩
    refine ⟨_,rfl,fun a E=>?_⟩
    refine wn<|qas (cl1 (cq le_m0 ok [0,1] rfl) (cq le_m0 ok [0,1] rfl)) fun hT=>kt 2 E rfl hT (qah rfl rfl) fun a E=>kt 3 E rfl hT (qai rfl) fun a E=>?_
    have E:=E.upd 7 c23 rfl
    refine kt 4 E rfl hT (qai rfl) fun a E=>kt 5 E rfl hT (qae rfl) fun a E=>kt 6 E rfl hT (qag qeR rfl) fun a E=>kt 7 E rfl hT (qal qfo rfl (Holds.cown 0 rfl rfl)) fun a E=>kt 8 E rfl hT (qai rfl) fun a E=>kt 9 E rfl hT (qae rfl) fun a E=>kt 10 E rfl hT (qag qdF rfl) fun a E=>kt 11 E rfl hT (qal qam rfl (Holds.cown 0 rfl rfl)) fun a E=>?_
    obtain ⟨b59,o60,es61,hl62,rr63,at64,yy65⟩:=ia E 11 15 qeo h3 e25
    obtain ⟨rfl,r66,l67,r68,r69⟩:=rr63
    refine kt 12 E rfl hT (yy65 _ _) fun a E=>kt 13 E rfl hT (qag qfF rfl) fun a E=>kt 14 E rfl hT (qal qay rfl (Holds.cro (At.sub 1 1 at64))) fun a E=>qaS [15] (by kernel_rfl) rfl (qaZ ?_)
    ·refine wo rfl<|lc E qf6 rfl (qc7 N x24.Text l67 e38 hG ok) fun w ok a E=>wn<|qas (cl1 (cq le_m0 ok [0,1] rfl) (cq le_m0 ok [0,1] rfl)) fun hT=>kt 16 E rfl hT (qbV rfl rfl) fun a E=>kt 17 E rfl hT (qai rfl) fun a E=>?_
     have E:=E.upd 21 c39 rfl
     refine kt 18 E rfl hT (qai rfl) fun a E=>kt 19 E rfl hT (qae rfl) fun a E=>kt 20 E rfl hT (qag qjf rfl) fun a E=>kt 21 E rfl hT (qal qgC rfl (Holds.cown 0 rfl rfl)) fun a E=>kt 22 E rfl hT (qai rfl) fun a E=>kt 23 E rfl hT (qae rfl) fun a E=>kt 24 E rfl hT (qag qeR rfl) fun a E=>kt 25 E rfl hT (qal qfo rfl (Holds.cown 0 rfl rfl)) fun a E=>kt 26 E rfl hT (qai rfl) fun a E=>kt 27 E rfl hT (qae rfl) fun a E=>kt 28 E rfl hT (qag qdF rfl) fun a E=>kt 29 E rfl hT (qal qam rfl (Holds.cown 0 rfl rfl)) fun a E=>?_
     obtain ⟨b70,o71,es72,hl73,rr74,at75,yy76⟩:=ia E 29 33 qeo h3 e41
     obtain ⟨rfl,r77,l78,r79,r80⟩:=rr74
     refine kt 30 E rfl hT (yy76 _ _) fun a E=>kt 31 E rfl hT (qag qfF rfl) fun a E=>kt 32 E rfl hT (qal qay rfl (Holds.cro (At.sub 1 1 at75))) fun a E=>qaS [33] (by kernel_rfl) rfl (qaZ ?_)
     ·refine qdY (o:=_) rfl ?_
      obtain ⟨xv81,h82,yy83,yy84⟩:=qlo (P:=Tryz.prog) (mo:=.tmp 25) (ko:=.tmp 36) (zx:=(false:Bool)) ok 1 (qc6 Tryz.underlying9) Tryz.underlying120 h7 rfl (qaJ E rfl) (qaJ E rfl) ⟨rfl,l78⟩ qmC qdi
      obtain rfl:=ql0 h82
      refine lv E ok (yy83 _) fun a E=>wn<|qas (cl1 (cq le_m0 ok [0,1] rfl) (cq le_m0 ok [0,1] rfl)) fun hT=>kt 34 E rfl hT (qbx rfl) fun a E=>kt 35 E rfl hT (qbV rfl rfl) fun a E=>kt 36 E rfl hT (qai rfl) fun a E=>?_
      have E:=E.upd 40 c57 rfl
      refine kt 37 E rfl hT (qai rfl) fun a E=>kt 38 E rfl hT (qae rfl) fun a E=>kt 39 E rfl hT (qag qjf rfl) fun a E=>kt 40 E rfl hT (qal qgC rfl (Holds.cown 0 rfl rfl)) fun a E=>kt 41 E rfl hT (qqo 1 rfl Tryz.underlying120 h7 rfl) fun a E=>kt 42 E rfl hT (qaq rfl rfl) fun a E=>kt 43 E rfl hT (qbV rfl rfl) fun a E=>qbJ (by kernel_rfl) ?_
      exact ⟨rfl,⟨ok,E.keep [0,47]⟩⟩
 have hF:=qcc c57 hF
 cases hF
 refine qco [] (Cls u m0 ([(pb0,oc 145 [vs x0.s,c2,vi x0.next,c5,vi x0.at_,vi x0.e])] :: M6 :: [])) (Cls u m0 ([(pb0,oc 145 [vs x0.s,c2,vi x0.next,c5,vi x0.at_,vi x0.e])] :: M6 :: [])) (by kernel_rfl) ?_
 intro w hw
 replace ok:=qc8 ok hw
 clear hw
 refine qas (cl1 (cq le_m0 ok [0,1] rfl) (cq le_m0 ok [0,1] rfl)) fun hT=>kt 0 E rfl hT (qai rfl) fun a E=>qaS [1] (by kernel_rfl) rfl (qaZ ?_)
 ·refine wo rfl<|qaf E qgb rfl (qbt N x0 l1 h3 r4 h7 r8 r9 e21 hG ok) rfl rfl ?_
  rintro _ w ⟨⟨rfl,ok⟩,r85⟩
  refine ⟨_,rfl,fun a E=>?_⟩
  refine wn<|qas (cl1 (cq le_m0 ok [0,1] rfl) (cq le_m0 ok [0,1] rfl)) fun hT=>kt 2 E rfl hT (qah rfl rfl) fun a E=>kt 3 E rfl hT (qai rfl) fun a E=>?_
  have E:=E.upd 7 c23 rfl
  refine kt 4 E rfl hT (qai rfl) fun a E=>kt 5 E rfl hT (qae rfl) fun a E=>kt 6 E rfl hT (qag qeR rfl) fun a E=>kt 7 E rfl hT (qal qfo rfl (Holds.cown 0 rfl rfl)) fun a E=>kt 8 E rfl hT (qai rfl) fun a E=>kt 9 E rfl hT (qae rfl) fun a E=>kt 10 E rfl hT (qag qdF rfl) fun a E=>kt 11 E rfl hT (qal qam rfl (Holds.cown 0 rfl rfl)) fun a E=>?_
  obtain ⟨b86,o87,es88,hl89,rr90,at91,yy92⟩:=ia E 11 15 qeo h3 e25
  obtain ⟨rfl,r93,l94,r95,r96⟩:=rr90
  refine kt 12 E rfl hT (yy92 _ _) fun a E=>kt 13 E rfl hT (qag qfF rfl) fun a E=>kt 14 E rfl hT (qal qay rfl (Holds.cro (At.sub 1 1 at91))) fun a E=>qaS [15] (by kernel_rfl) rfl (qaZ ?_)
  ·refine wo rfl<|lc E qf6 rfl (qc7 N x24.Text l94 e38 hG ok) fun w ok a E=>wn<|qas (cl1 (cq le_m0 ok [0,1] rfl) (cq le_m0 ok [0,1] rfl)) fun hT=>kt 16 E rfl hT (qbV rfl rfl) fun a E=>kt 17 E rfl hT (qai rfl) fun a E=>?_
   have E:=E.upd 21 c39 rfl
   refine kt 18 E rfl hT (qai rfl) fun a E=>kt 19 E rfl hT (qae rfl) fun a E=>kt 20 E rfl hT (qag qjf rfl) fun a E=>kt 21 E rfl hT (qal qgC rfl (Holds.cown 0 rfl rfl)) fun a E=>kt 22 E rfl hT (qai rfl) fun a E=>kt 23 E rfl hT (qae rfl) fun a E=>kt 24 E rfl hT (qag qeR rfl) fun a E=>kt 25 E rfl hT (qal qfo rfl (Holds.cown 0 rfl rfl)) fun a E=>kt 26 E rfl hT (qai rfl) fun a E=>kt 27 E rfl hT (qae rfl) fun a E=>kt 28 E rfl hT (qag qdF rfl) fun a E=>kt 29 E rfl hT (qal qam rfl (Holds.cown 0 rfl rfl)) fun a E=>?_
   obtain ⟨b97,o98,es99,hl100,rr101,at102,yy103⟩:=ia E 29 33 qeo h3 e41
   obtain ⟨rfl,r104,l105,r106,r107⟩:=rr101
   refine kt 30 E rfl hT (yy103 _ _) fun a E=>kt 31 E rfl hT (qag qfF rfl) fun a E=>kt 32 E rfl hT (qal qay rfl (Holds.cro (At.sub 1 1 at102))) fun a E=>qaS [33] (by kernel_rfl) rfl (qaZ ?_)
   ·refine qdY (o:=_) rfl ?_
    obtain ⟨xv108,h109,yy110,yy111⟩:=qlo (P:=Tryz.prog) (mo:=.tmp 25) (ko:=.tmp 36) (zx:=(false:Bool)) ok 1 (qc6 Tryz.underlying9) Tryz.underlying120 h7 rfl (qaJ E rfl) (qaJ E rfl) ⟨rfl,l105⟩ qmC qdi
    obtain rfl:=ql0 h109
    refine lv E ok (yy110 _) fun a E=>wn<|qas (cl1 (cq le_m0 ok [0,1] rfl) (cq le_m0 ok [0,1] rfl)) fun hT=>kt 34 E rfl hT (qbx rfl) fun a E=>kt 35 E rfl hT (qbV rfl rfl) fun a E=>kt 36 E rfl hT (qai rfl) fun a E=>?_
    have E:=E.upd 40 c57 rfl
    refine qaz 37 false E rfl (by kernel_rfl) nP hT rfl rfl fun a E=>qaz 38 false E rfl (by kernel_rfl) nP hT rfl rfl fun a E=>qaz 39 false E rfl (by kernel_rfl) nP hT rfl rfl fun a E=>qaz 40 false E rfl (by kernel_rfl) nP hT rfl rfl fun a E=>qaz 41 false E rfl (by kernel_rfl) nP hT rfl rfl fun a E=>qaz 42 false E rfl (by kernel_rfl) nP hT rfl rfl fun a E=>kt 43 E rfl hT (qcD rfl rfl) fun a E=>qbJ (by kernel_rfl) ?_
    exact ⟨rfl,⟨ok,E.keep [0,47]⟩⟩
def qfp (u:World) (m0:Mem) (S:Segs) (pb0:Nat) (x0:Parser) (c2:Value) (c5:Value) (M6:List (Nat × Obj)) (r:(List (Part)) × Parser) (a:Act) (w:World):Prop :=
 ∃ m1 v0 c11 c14 M15,m0.le m1 ∧ Ok u m1 ([(pb0,oc 145 [vs r.2.s,c11,vi r.2.next,c14,vi r.2.at_,vi r.2.e])] :: M15 :: S) w ∧ a.defers = [] ∧ RVs Tryz.prog a w [.t 6 v0] ∧ (pL 6 qbp) m1 [v0] r.1 ∧ r.2.s.length ≤ LIMS ∧ (pL 4 qbB) m1 [c11] r.2.l ∧ InR .i64 r.2.next ∧ OMap kS (oneV pB) m1 c14 r.2.names M15 ∧ InR .i64 r.2.at_ ∧ InR .i64 r.2.e
def qhV (u:World) (m0:Mem) (S:Segs) (pb0:Nat) (x0:Parser) (c2:Value) (c5:Value) (M6:List (Nat × Obj)) (r:Part × Parser) (a:Act) (w:World):Prop :=
 ∃ m1 v0 c11 c14 M15,m0.le m1 ∧ Ok u m1 ([(pb0,oc 145 [vs r.2.s,c11,vi r.2.next,c14,vi r.2.at_,vi r.2.e])] :: M15 :: S) w ∧ a.defers = [] ∧ RVs Tryz.prog a w [.c 6 34 (.agg v0.toArray)] ∧ qbp m1 v0 r.1 ∧ r.2.s.length ≤ LIMS ∧ (pL 4 qbB) m1 [c11] r.2.l ∧ InR .i64 r.2.next ∧ OMap kS (oneV pB) m1 c14 r.2.names M15 ∧ InR .i64 r.2.at_ ∧ InR .i64 r.2.e
def qct (N:Nat):Prop:=∀ {u:World} {m0:Mem} {S:Segs} {w:World} (depth_1:Int) (rdepth_1:InR .i64 depth_1) (counting_2:Bool) {pb0:Nat} {c2:Value} {c5:Value} {M6:List (Nat × Obj)} (x0:Parser) (l1:x0.s.length ≤ LIMS) (h3:(pL 4 qbB) m0 [c2] x0.l) (r4:InR .i64 x0.next) (h7:OMap kS (oneV pB) m0 c5 x0.names M6) (r8:InR .i64 x0.at_) (r9:InR .i64 x0.e) {r:(List (Part)) × Parser} (hF:qbN N depth_1 counting_2 x0 = some r) (hG:Glob u) (ok:Ok u m0 ([(pb0,oc 145 [vs x0.s,c2,vi x0.next,c5,vi x0.at_,vi x0.e])] :: M6 :: S) w),Calls Tryz.prog 72 [vp pb0,vi depth_1,vb counting_2].toArray w fun e w'=>∃ m1 v0 c11 c14 M15,e = .returned v0 ∧ m0.le m1 ∧ Ok u m1 ([(pb0,oc 145 [vs r.2.s,c11,vi r.2.next,c14,vi r.2.at_,vi r.2.e])] :: M15 :: S) w' ∧ (pL 6 qbp) m1 [v0] r.1 ∧ r.2.s.length ≤ LIMS ∧ (pL 4 qbB) m1 [c11] r.2.l ∧ InR .i64 r.2.next ∧ OMap kS (oneV pB) m1 c14 r.2.names M15 ∧ InR .i64 r.2.at_ ∧ InR .i64 r.2.e
def qcf (N:Nat):Prop:=∀ {u:World} {m0:Mem} {S:Segs} {w:World} (depth_1:Int) (rdepth_1:InR .i64 depth_1) (counting_2:Bool) {pb0:Nat} {c2:Value} {c5:Value} {M6:List (Nat × Obj)} (x0:Parser) (l1:x0.s.length ≤ LIMS) (h3:(pL 4 qbB) m0 [c2] x0.l) (r4:InR .i64 x0.next) (h7:OMap kS (oneV pB) m0 c5 x0.names M6) (r8:InR .i64 x0.at_) (r9:InR .i64 x0.e) {r:Part × Parser} (hF:qdt N depth_1 counting_2 x0 = some r) (hG:Glob u) (ok:Ok u m0 ([(pb0,oc 145 [vs x0.s,c2,vi x0.next,c5,vi x0.at_,vi x0.e])] :: M6 :: S) w),Calls Tryz.prog 112 [vp pb0,vi depth_1,vb counting_2].toArray w fun e w'=>∃ m1 v0 c11 c14 M15,e = .returned (.agg v0.toArray) ∧ m0.le m1 ∧ Ok u m1 ([(pb0,oc 145 [vs r.2.s,c11,vi r.2.next,c14,vi r.2.at_,vi r.2.e])] :: M15 :: S) w' ∧ qbp m1 v0 r.1 ∧ r.2.s.length ≤ LIMS ∧ (pL 4 qbB) m1 [c11] r.2.l ∧ InR .i64 r.2.next ∧ OMap kS (oneV pB) m1 c14 r.2.names M15 ∧ InR .i64 r.2.at_ ∧ InR .i64 r.2.e
theorem qg1 (N:Nat) (ih_syntax_parser_message:qct N) (ih_syntax_parser_argument:qcf N):qct (N + 1):=by
 intro u m0 S w depth_1 rdepth_1 counting_2 pb0 c2 c5 M6 x0 l1 h3 r4 h7 r8 r9 r hF hG ok
 have le_m0:=Mem.le.refl m0
 have hF0:qbY (qbN N) (qdt N) N depth_1 counting_2 x0 = some r:=hF
 have hF:=hF0
 clear hF0
 unfold qbY at hF
 refine en (qfp u m0 S pb0 x0 c2 c5 M6) r Tryz.func72 rfl rfl rfl (by rintro a w ⟨m1,v0,c11,c14,M15,hle,ok,hd,hrv,h0,h1,h2,h3,h4,h5,h6⟩; exact qaT [.t 6 v0] hd rfl hrv ⟨m1,v0,c11,c14,M15,rfl,hle,ok,h0,h1,h2,h3,h4,h5,h6⟩) fun fin a E=>sg<|aw E rfl fun a E=>sg<|aw E rfl fun a E=>wp_seq<|wp_block ?_
 obtain ⟨M31,ok,h32⟩:=qcY (e:=34) (k:=6) (R:=qbp) ok
 refine bd hF fun o33 hL hF=>qa7 _ (fun (s:(List (Part)) × Parser) a w=>∃ m34 c35 M36 c39 c42 M43,m0.le m34 ∧ Ok u m34 (M36 :: [(pb0,oc 145 [vs s.2.s,c39,vi s.2.next,c42,vi s.2.at_,vi s.2.e])] :: M43 :: S) w ∧ Env 77 a [(0,vp pb0),(1,vi depth_1),(2,vb counting_2),(7,c35)] ∧ ORow 34 6 qbp m34 c35 s.1 M36 ∧ s.2.s.length ≤ LIMS ∧ (pL 4 qbB) m34 [c39] s.2.l ∧ InR .i64 s.2.next ∧ OMap kS (oneV pB) m34 c42 s.2.names M43 ∧ InR .i64 s.2.at_ ∧ InR .i64 s.2.e) (fun (b:((Parser × (List (Part))) ⊕ ((List (Part)) × Parser))) e a w=>(Sum.elim (fun b167=>e = (.exit 0) ∧ ∃ m168 c170 c173 M174 c178 M179,m0.le m168 ∧ Ok u m168 (M179 :: [(pb0,oc 145 [vs b167.1.s,c170,vi b167.1.next,c173,vi b167.1.at_,vi b167.1.e])] :: M174 :: S) w ∧ Env 77 a [(7,c178)] ∧ b167.1.s.length ≤ LIMS ∧ (pL 4 qbB) m168 [c170] b167.1.l ∧ InR .i64 b167.1.next ∧ OMap kS (oneV pB) m168 c173 b167.1.names M174 ∧ InR .i64 b167.1.at_ ∧ InR .i64 b167.1.e ∧ ORow 34 6 qbp m168 c178 b167.2 M179) (fun b181=>e = .ret ∧ qfp u m0 S pb0 x0 c2 c5 M6 b181 a w)) b) ?_ ?_ N _ a w hL ⟨m0,(Value.slice none 0 0),M31,c2,c5,M6,Mem.le.refl _,ok,E.keep [0,1,2,7],h32,l1,h3,r4,h7,r8,r9⟩
 rotate_left
 ·intro e a w _ hO
  rcases o33 with o33 | o33
  rotate_left
  ·obtain ⟨rfl,hret⟩:=hO
   refine qak<|qad ?_
   exact fin hF hret
  have hF:=qcj hF
  obtain ⟨rfl,m152,c154,c157,M158,c162,M163,hle,ok,E,l153,h155,r156,h159,r160,r161,h164⟩:=hO
  have le_m0:=le_m0.trans hle
  have h3:=(mL qbH).up hle h3
  refine qa0<|qaa<|sg<|mv E rfl fun a E=>aw E rfl fun a E=>wp_ret ?_
  obtain ⟨m165,hle,ok,hfz⟩:=(ok.frs 0 rfl).freeze
  have h166:=ORow.froz qa8 h164 hle hfz (by decide)
  have le_m0:=le_m0.trans hle
  have h3:=(mL qbH).up hle h3
  have h155:=(mL qbH).up hle h155
  have h159:=OMap.up (qoT mB) hle h159
  exact fin hF ⟨m165,c162,c154,c157,M158,le_m0,ok,E.d,rz E rfl,h166,l153,h155,r156,h159,r160,r161⟩
 rintro ⟨v47,v48⟩ a w r ⟨m49,c50,M51,c54,c57,M58,hle,ok,E,h52,l53,h55,r56,h59,r60,r61⟩ hF
 replace hF:qaY (qbN N) (qdt N) N depth_1 counting_2 v47 v48 = some r:=hF
 unfold qaY at hF
 have le_m0:=le_m0.trans hle
 have h3:=(mL qbH).up hle h3
 refine wp_seq<|sg<|mv E rfl fun a E=>lw E (qae rfl) fun a E=>fk E ok qlb qfq rfl 1 rfl rfl fun a E=>lw E (qah rfl rfl) fun a E=>wn<|cg E rfl hF (fun c62 hF=>?_) fun c62 hF=>?_
 ·refine wp_exit<|qaM ?_
  cases hF
  exact so (sl ⟨rfl,⟨m49,c54,c57,M58,c50,M51,le_m0,ok,E.keep [7],l53,h55,r56,h59,r60,r61,h52⟩⟩)
 refine wp_skip<|qaa<|wp_block<|sg<|mv E rfl fun a E=>?_
 obtain ⟨r63,e64,hF⟩:=bnd hF
 replace ok:Ok u m49 ([(pb0,oc 145 [vs v48.s,c54,vi v48.next,c57,vi v48.at_,vi v48.e])] :: M58 :: M51 :: S) w:=(ok.pk 3 [1,2,0] rfl (by decide))
 refine qaf E qgb rfl (qbt N v48 l53 h55 r56 h59 r60 r61 e64 hG ok) rfl rfl ?_
 rintro _ w ⟨⟨rfl,ok⟩,r65⟩
 refine ⟨_,rfl,fun a E=>?_⟩
 refine wn<|wp_block<|sg<|lw E (qah rfl rfl) fun a E=>av E rfl fun a E=>wn<|cf E rfl hF (fun c66 hF=>?_) fun c66 hF=>?_
 ·refine sg<|mv E rfl fun a E=>bd hF fun r67 e68 hF=>qaf E qiF rfl (qcm N 1 (ir 1) v48 l53 h55 r56 h59 r60 r61 e68 hG ok) rfl rfl ?_
  rintro _ w ⟨m69,c72,c75,M76,rfl,hle,ok,l70,l71,h73,r74,h77,r78,r79⟩
  have le_m0:=le_m0.trans hle
  have h3:=(mL qbH).up hle h3
  have h52:=ORow.up qa8 hle h52
  have h55:=(mL qbH).up hle h55
  refine ⟨_,rfl,fun a E=>?_⟩
  refine bd hF fun r80 e81 hF=>qaf E qsX rfl (qk9 N r67.1 l70 e81 hG ok) rfl rfl ?_
  rintro _ w ⟨⟨rfl,ok⟩,l82,r83,r84⟩
  refine ⟨_,rfl,fun a E=>?_⟩
  refine mv E rfl fun a E=>lw E (qav rfl rfl) fun a E=>lw E (qav rfl rfl) fun a E=>lw E (qav rfl rfl) fun a E=>av E rfl fun a E=>av E rfl fun a E=>av E rfl fun a E=>wn<|qab<|mz E rfl rfl fun a E=>lw E (qaL (ps:=[(0,.const (vi 1)),(1,.tmp 29)]) (qs:=[(0,[vi 1]),(1,[vs r80.1])]) (cs:=[vi 1,vs r80.1,(vs ([])),(vs ([])),(Value.slice none 0 0),(Value.slice none 0 0)]) qcn qgG rfl ⟨rfl,rfl,rfl,⟨rfl,rfl,rfl,trivial⟩⟩ rfl) fun a E=>qa6 (R:=qbp) (xo:=[.tmp 30]) (xs:=([(Part.mk 1 r80.1 ([]) ([]) ([]) ([]))]:List (Part))) E ok qcM qcn rfl ⟨⟨_,rfl,rfl,(qbK.2 ⟨_,_,rfl,(ir 1),l82,(Nat.zero_le _),(Nat.zero_le _),qaI,qaI⟩)⟩,trivial⟩ rfl rfl rfl rfl fun c85 M86 a w E ok h87=>bd hF fun l88 e89 hF=>qb0 (R:=qbp) E ok 3 qa8 qcM Tryz.underlying32 rfl h52 (qbf.ofRow h87 0 rfl ok) e89 ⟨_,qcn,rfl⟩ rfl rfl rfl rfl fun c90 M91 a w E ok h92=>av E rfl fun a E=>wpList_nil<|qac<|qac ?_
  cases hF
  exact qao ⟨m69,c90,M91,c72,c75,M76,le_m0,(ok.pk 4 [3,1,2] rfl (by decide)),E.keep [0,1,2,7],h92,l71,h73,r74,h77,r78,r79⟩
 refine sg<|lw E (qah rfl rfl) fun a E=>aw E rfl fun a E=>cf E rfl hF (fun c93 hF=>?_) fun c93 hF=>?_
 ·refine wp_seq<|sg<|mv E rfl fun a E=>lw E (qbx rfl) fun a E=>wn<|bd hF fun o94 hJ hF=>qaH (Q':=fun e a w=>e = .normal ∧ Ok u m49 ([(pb0,oc 145 [vs v48.s,c54,vi v48.next,c57,vi v48.at_,vi v48.e])] :: M58 :: M51 :: S) w ∧ Env 77 a [(0,vp pb0),(1,vi depth_1),(2,vb counting_2),(7,c50)]) ?_ ?_
  ·have hF:=hJ
   refine cf E rfl hF (fun c95 hF=>?_) fun c95 hF=>?_
   ·refine qab<|mv E rfl fun a E=>?_
    cases hF
   refine wp_skip ?_
   cases hF
   exact ⟨rfl,⟨ok,E.keep [0,1,2,7]⟩⟩
  intro e a w hO
  obtain ⟨rfl,ok,E⟩:=hO
  refine qaa<|sg<|mv E rfl fun a E=>bd hF fun r96 e97 hF=>qaf E qiF rfl (qcm N 4 (ir 4) v48 l53 h55 r56 h59 r60 r61 e97 hG ok) rfl rfl ?_
  rintro _ w ⟨m98,c101,c104,M105,rfl,hle,ok,l99,l100,h102,r103,h106,r107,r108⟩
  have le_m0:=le_m0.trans hle
  have h3:=(mL qbH).up hle h3
  have h52:=ORow.up qa8 hle h52
  have h55:=(mL qbH).up hle h55
  refine ⟨_,rfl,fun a E=>?_⟩
  refine wn<|qab<|mv E rfl fun a E=>lw E (qaL (ps:=[(0,.const (vi 10))]) (qs:=[(0,[vi 10])]) (cs:=[vi 10,(vs ([])),(vs ([])),(vs ([])),(Value.slice none 0 0),(Value.slice none 0 0)]) qcn qgG rfl ⟨rfl,rfl,rfl,trivial⟩ rfl) fun a E=>qa6 (R:=qbp) (xo:=[.tmp 42]) (xs:=([(Part.mk 10 ([]) ([]) ([]) ([]) ([]))]:List (Part))) E ok qcM qcn rfl ⟨⟨_,rfl,rfl,(qbK.2 ⟨_,_,rfl,(ir 10),(Nat.zero_le _),(Nat.zero_le _),(Nat.zero_le _),qaI,qaI⟩)⟩,trivial⟩ rfl rfl rfl rfl fun c109 M110 a w E ok h111=>bd hF fun l112 e113 hF=>qb0 (R:=qbp) E ok 3 qa8 qcM Tryz.underlying32 rfl h52 (qbf.ofRow h111 0 rfl ok) e113 ⟨_,qcn,rfl⟩ rfl rfl rfl rfl fun c114 M115 a w E ok h116=>av E rfl fun a E=>wpList_nil<|qac<|qac ?_
  cases hF
  exact qao ⟨m98,c114,M115,c101,c104,M105,le_m0,(ok.pk 4 [3,1,2] rfl (by decide)),E.keep [0,1,2,7],h116,l100,h102,r103,h106,r107,r108⟩
 refine sg<|lw E (qah rfl rfl) fun a E=>aw E rfl fun a E=>cf E rfl hF (fun c117 hF=>?_) fun c117 hF=>?_
 ·refine sg<|mz E rfl rfl fun a E=>lw E (qaF rfl rfl) fun a E=>?_
  cases hF
 refine sg<|lw E (qah rfl rfl) fun a E=>aw E rfl fun a E=>cf E rfl hF (fun c118 hF=>?_) fun c118 hF=>?_
 ·refine qab<|mz E rfl rfl fun a E=>mv E rfl fun a E=>lw E (qaF rfl rfl) fun a E=>mv E rfl fun a E=>?_
  cases hF
 refine sg<|lw E (qah rfl rfl) fun a E=>aw E rfl fun a E=>cg E rfl hF (fun c119 hF=>?_) fun c119 hF=>?_
 ·refine sg<|mv E rfl fun a E=>aw E rfl fun a E=>wp_ret<|qak<|qak ?_
  obtain ⟨m150,hle,ok,hfz⟩:=(ok.frs 2 rfl).freeze
  have h151:=ORow.froz qa8 h52 hle hfz (by decide)
  have le_m0:=le_m0.trans hle
  have h3:=(mL qbH).up hle h3
  have h55:=(mL qbH).up hle h55
  have h59:=OMap.up (qoT mB) hle h59
  cases hF
  exact so (sr ⟨rfl,⟨m150,c50,c54,c57,M58,le_m0,ok,E.d,rz E rfl,h151,l53,h55,r56,h59,r60,r61⟩⟩)
 refine qab<|mz E rfl rfl fun a E=>mz E rfl rfl fun a E=>bd hF fun r120 e121 hF=>qaf E qsZ rfl (ih_syntax_parser_argument depth_1 rdepth_1 counting_2 v48 l53 h55 r56 h59 r60 r61 e121 hG ok) rfl rfl ?_
 rintro _ w ⟨m122,vs123,c126,c129,M130,rfl,hle,ok,h124,l125,h127,r128,h131,r132,r133⟩
 have le_m0:=le_m0.trans hle
 have h3:=(mL qbH).up hle h3
 have h52:=ORow.up qa8 hle h52
 have h55:=(mL qbH).up hle h55
 obtain ⟨c138,c140,rfl,r134,l135,l136,l137,h139,h141⟩:=(qbK.1 h124)
 refine ⟨_,rfl,fun a E=>?_⟩
 refine qa6 (R:=qbp) (xo:=[.tmp 73]) (xs:=([r120.1]:List (Part))) E ok qcM qcn rfl ⟨⟨_,rfl,rfl,(qbK.2 ⟨_,_,rfl,r134,l135,l136,l137,h139,h141⟩)⟩,trivial⟩ rfl rfl rfl rfl fun c142 M143 a w E ok h144=>bd hF fun l145 e146 hF=>qb0 (R:=qbp) E ok 3 qa8 qcM Tryz.underlying32 rfl h52 (qbf.ofRow h144 0 rfl ok) e146 ⟨_,qcn,rfl⟩ rfl rfl rfl rfl fun c147 M148 a w E ok h149=>av E rfl fun a E=>wpList_nil<|qac<|qac ?_
 cases hF
 exact qao ⟨m122,c147,M148,c126,c129,M130,le_m0,(ok.pk 4 [3,1,2] rfl (by decide)),E.keep [0,1,2,7],h149,l125,h127,r128,h131,r132,r133⟩
theorem qgI (N:Nat) (ih_syntax_parser_message:qct N) (ih_syntax_parser_argument:qcf N):qcf (N + 1):=by
 intro u m0 S w depth_1 rdepth_1 counting_2 pb0 c2 c5 M6 x0 l1 h3 r4 h7 r8 r9 r hF hG ok
 have le_m0:=Mem.le.refl m0
 have hF0:qbT (qbN N) (qdt N) N depth_1 counting_2 x0 = some r:=hF
 have hF:=hF0
 clear hF0
 unfold qbT at hF
 refine en (qhV u m0 S pb0 x0 c2 c5 M6) r Tryz.func112 rfl rfl rfl (by rintro a w ⟨m1,v0,c11,c14,M15,hle,ok,hd,hrv,h0,h1,h2,h3,h4,h5,h6⟩; exact qaT [.c 6 34 (.agg v0.toArray)] hd rfl hrv ⟨m1,v0,c11,c14,M15,rfl,hle,ok,h0,h1,h2,h3,h4,h5,h6⟩) fun fin a E=>sg<|qa4 E ok qcn rfl rfl fun b19 a w E ok=>wn<|sg<|mv E rfl fun a E=>?_
 obtain ⟨r20,e21,hF⟩:=bnd hF
 replace ok:Ok u m0 ([(pb0,oc 145 [vs x0.s,c2,vi x0.next,c5,vi x0.at_,vi x0.e])] :: M6 :: [(b19,oc 34 [vi 0,(vs ([])),(vs ([])),(vs ([])),(Value.slice none 0 0),(Value.slice none 0 0)])] :: S) w:=(ok.pk 3 [1,2,0] rfl (by decide))
 refine qaf E qiF rfl (qcm N 2 (ir 2) x0 l1 h3 r4 h7 r8 r9 e21 hG ok) rfl rfl ?_
 rintro _ w ⟨m22,c25,c28,M29,rfl,hle,ok,l23,l24,h26,r27,h30,r31,r32⟩
 have le_m0:=le_m0.trans hle
 have h3:=(mL qbH).up hle h3
 refine ⟨_,rfl,fun a E=>?_⟩
 refine wn<|sg<|mv E rfl fun a E=>bd hF fun r33 e34 hF=>qaf E qs3 rfl (qjg N r20.2 l24 h26 r27 h30 r31 r32 e34 hG ok) rfl rfl ?_
 rintro _ w ⟨m35,c38,c41,M42,rfl,hle,ok,l36,l37,h39,r40,h43,r44,r45⟩
 have le_m0:=le_m0.trans hle
 have h3:=(mL qbH).up hle h3
 have h26:=(mL qbH).up hle h26
 refine ⟨_,rfl,fun a E=>?_⟩
 refine lw E (qaL (ps:=[(0,.const (vi 2)),(2,.tmp 13)]) (qs:=[(0,[vi 2]),(2,[vs r33.1])]) (cs:=[vi 2,(vs ([])),vs r33.1,(vs ([])),(Value.slice none 0 0),(Value.slice none 0 0)]) qcn qgG rfl ⟨rfl,rfl,rfl,⟨rfl,rfl,rfl,trivial⟩⟩ rfl) fun a E=>qa4 E ok qcn rfl rfl fun b46 a w E ok=>qax E ok 0 rfl rfl rfl qhH rfl rfl ⟨rfl,rfl,rfl,rfl,rfl,rfl,trivial⟩ rfl rfl fun w ok=>wn<|wp_seq<|sg<|mv E rfl fun a E=>?_
 obtain ⟨r47,e48,hF⟩:=bnd hF
 replace ok:Ok u m35 ([(pb0,oc 145 [vs r33.2.s,c38,vi r33.2.next,c41,vi r33.2.at_,vi r33.2.e])] :: M42 :: [(b46,oc 34 [vi 2,(vs ([])),vs r33.1,(vs ([])),(Value.slice none 0 0),(Value.slice none 0 0)])] :: [(b19,oc 34 [vi 0,(vs ([])),(vs ([])),(vs ([])),(Value.slice none 0 0),(Value.slice none 0 0)])] :: S) w:=(ok.pk 4 [1,2,0,3] rfl (by decide))
 refine qaf E qgb rfl (qbt N r33.2 l37 h39 r40 h43 r44 r45 e48 hG ok) rfl rfl ?_
 rintro _ w ⟨⟨rfl,ok⟩,r49⟩
 refine ⟨_,rfl,fun a E=>?_⟩
 refine lw E (qah rfl rfl) fun a E=>wn<|cf E rfl hF (fun c50 hF=>?_) fun c50 hF=>?_
 ·refine sg<|mv E rfl fun a E=>bd hF fun r51 e52 hF=>qaf E qiF rfl (qcm N 3 (ir 3) r33.2 l37 h39 r40 h43 r44 r45 e52 hG ok) rfl rfl ?_
  rintro _ w ⟨m53,c56,c59,M60,rfl,hle,ok,l54,l55,h57,r58,h61,r62,r63⟩
  have le_m0:=le_m0.trans hle
  have h3:=(mL qbH).up hle h3
  have h26:=(mL qbH).up hle h26
  have h39:=(mL qbH).up hle h39
  refine ⟨_,rfl,fun a E=>?_⟩
  refine wn<|sg<|lv E ok (qan (cs:=[vi 2,(vs ([])),vs r33.1,(vs ([])),(Value.slice none 0 0),(Value.slice none 0 0)]) qd5 rfl rfl (Holds.own 2 rfl rfl)) fun a E=>qax E ok 3 rfl rfl rfl qhH rfl rfl ⟨rfl,rfl,rfl,rfl,rfl,rfl,trivial⟩ rfl rfl fun w ok=>wn<|wp_ret<|qad ?_
  exact fin hF ⟨m53,[vi 2,(vs ([])),vs r33.1,(vs ([])),(Value.slice none 0 0),(Value.slice none 0 0)],c56,c59,M60,le_m0,(ok.pk 4 [0,1] rfl (by decide)),E.d,⟨rv_c (cs:=[vi 2,(vs ([])),vs r33.1,(vs ([])),(Value.slice none 0 0),(Value.slice none 0 0)]) E ok rfl qd5 rfl (Holds.own 3 rfl rfl),trivial⟩,(qbK.2 ⟨_,_,rfl,(ir 2),(Nat.zero_le _),l36,(Nat.zero_le _),qaI,qaI⟩),l55,h57,r58,h61,r62,r63⟩
 refine wp_skip<|qaa<|sg<|mv E rfl fun a E=>bd hF fun r64 e65 hF=>qaf E qiF rfl (qcm N 8 (ir 8) r33.2 l37 h39 r40 h43 r44 r45 e65 hG ok) rfl rfl ?_
 rintro _ w ⟨m66,c69,c72,M73,rfl,hle,ok,l67,l68,h70,r71,h74,r75,r76⟩
 have le_m0:=le_m0.trans hle
 have h3:=(mL qbH).up hle h3
 have h26:=(mL qbH).up hle h26
 have h39:=(mL qbH).up hle h39
 refine ⟨_,rfl,fun a E=>?_⟩
 refine wn<|sg<|qaf E qrx rfl (qjy ok) rfl rfl ?_
 rintro _ w ⟨b77,rfl,ok⟩
 refine ⟨_,rfl,fun a E=>?_⟩
 refine qa4 E ok qqH rfl rfl fun b78 a w E ok=>qax E ok 0 rfl rfl rfl qr1 rfl rfl ⟨rfl,trivial⟩ rfl rfl fun w ok=>wn<|sg ?_
 cases hF
theorem qgV:qct 0:=by
 intro u m0 S w depth_1 rdepth_1 counting_2 pb0 c2 c5 M6 x0 l1 h3 r4 h7 r8 r9 r hF hG ok
 replace hF:none = some r:=hF
 cases hF
theorem qgS:qcf 0:=by
 intro u m0 S w depth_1 rdepth_1 counting_2 pb0 c2 c5 M6 x0 l1 h3 r4 h7 r8 r9 r hF hG ok
 replace hF:none = some r:=hF
 cases hF
theorem qgm (N:Nat):qct N ∧ qcf N:=by
 induction N with
 | zero=>exact ⟨qgV,qgS⟩
 | succ N h=>exact ⟨qg1 N h.1 h.2,qgI N h.1 h.2⟩
theorem qh0 {u:World} {m0:Mem} {S:Segs} {w:World} (N:Nat) (depth_1:Int) (rdepth_1:InR .i64 depth_1) (counting_2:Bool) {pb0:Nat} {c2:Value} {c5:Value} {M6:List (Nat × Obj)} (x0:Parser) (l1:x0.s.length ≤ LIMS) (h3:(pL 4 qbB) m0 [c2] x0.l) (r4:InR .i64 x0.next) (h7:OMap kS (oneV pB) m0 c5 x0.names M6) (r8:InR .i64 x0.at_) (r9:InR .i64 x0.e) {r:(List (Part)) × Parser} (hF:qbN N depth_1 counting_2 x0 = some r) (hG:Glob u) (ok:Ok u m0 ([(pb0,oc 145 [vs x0.s,c2,vi x0.next,c5,vi x0.at_,vi x0.e])] :: M6 :: S) w) :
 Calls Tryz.prog 72 [vp pb0,vi depth_1,vb counting_2].toArray w fun e w'=>∃ m1 v0 c11 c14 M15,e = .returned v0 ∧ m0.le m1 ∧ Ok u m1 ([(pb0,oc 145 [vs r.2.s,c11,vi r.2.next,c14,vi r.2.at_,vi r.2.e])] :: M15 :: S) w' ∧ (pL 6 qbp) m1 [v0] r.1 ∧ r.2.s.length ≤ LIMS ∧ (pL 4 qbB) m1 [c11] r.2.l ∧ InR .i64 r.2.next ∧ OMap kS (oneV pB) m1 c14 r.2.names M15 ∧ InR .i64 r.2.at_ ∧ InR .i64 r.2.e:=(qgm N).1 depth_1 rdepth_1 counting_2 x0 l1 h3 r4 h7 r8 r9 hF hG ok
def qmV (u:World) (m0:Mem) (S:Segs) (r:(List (Part)) × Position × Int) (a:Act) (w:World):Prop :=
 ∃ m1 v0 v1,m0.le m1 ∧ Ok u m1 S w ∧ a.defers = [] ∧ RVs Tryz.prog a w [.t 4 v0,.c 5 88 (.agg v1.toArray),.t 6 (.int .i64 r.2.2)] ∧ (pL 6 qbp) m1 [v0] r.1 ∧ qh8 m1 v1 r.2.1 ∧ InR .i64 r.2.2
theorem qmp (N:Nat) (s_0:List UInt8) (ls_0:s_0.length ≤ LIMS) (counting_1:Bool) {r:(List (Part)) × Position × Int} (hF:qgk N s_0 counting_1 = some r) (hG:Glob u) (ok:Ok u m0 S w) :
  Calls Tryz.prog 48 [vs s_0,vb counting_1].toArray w fun e w'=>∃ m1 v0 v1,e = .returned (.tuple [v0,(.agg v1.toArray),(.int .i64 r.2.2)].toArray) ∧ m0.le m1 ∧ Ok u m1 S w' ∧ (pL 6 qbp) m1 [v0] r.1 ∧ qh8 m1 v1 r.2.1 ∧ InR .i64 r.2.2:=by
 have le_m0:=Mem.le.refl m0
 unfold qgk at hF
 refine en (qmV u m0 S) r Tryz.func48 rfl rfl rfl (by rintro a w ⟨m1,v0,v1,hle,ok,hd,hrv,h0,h1,h2⟩; exact qaT [.t 4 v0,.c 5 88 (.agg v1.toArray),.t 6 (.int .i64 r.2.2)] hd rfl hrv ⟨m1,v0,v1,rfl,hle,ok,h0,h1,h2⟩) fun fin a E=>sg<|av E rfl fun a E=>qa4 E ok qhx rfl rfl fun b1 a w E ok=>aw E rfl fun a E=>sg<|mv E rfl fun a E=>bd hF fun r2 e3 hF=>qaf E qtB rfl (qmO N s_0 ls_0 e3 hG ok) rfl rfl ?_
 rintro _ w ⟨m4,c5,rfl,hle,ok,h6,r7,r8⟩
 have le_m0:=le_m0.trans hle
 refine ⟨_,rfl,fun a E=>?_⟩
 refine mv E rfl fun a E=>lw E (qav rfl rfl) fun a E=>lw E (qav rfl rfl) fun a E=>lw E (qav rfl rfl) fun a E=>av E rfl fun a E=>av E rfl fun a E=>av E rfl fun a E=>wn<|wp_seq<|sg<|mv E rfl fun a E=>lw E (qah rfl rfl) fun a E=>wn<|cf E rfl hF (fun c9 hF=>?_) fun c9 hF=>?_
 ·refine sg<|lw E (qaL (ps:=[(0,.const (vi 4000))]) (qs:=[(0,[vi 4000])]) (cs:=[vi 4000,vi 0,vi 0]) qhx qkn rfl ⟨rfl,rfl,rfl,trivial⟩ rfl) fun a E=>mv E rfl fun a E=>av E rfl fun a E=>qax E ok 0 rfl rfl rfl qkj rfl rfl ⟨rfl,rfl,rfl,trivial⟩ rfl rfl fun w ok=>av E rfl fun a E=>wn<|wp_ret<|qad ?_
  exact fin hF ⟨m4,(.slice none 0 0),[vi 4000,vi 0,vi 0],le_m0,ok.drop,E.d,⟨rv_t E rfl,rv_c (cs:=[vi 4000,vi 0,vi 0]) E ok rfl ql2 rfl (Holds.own 0 rfl rfl),rv_t E rfl,trivial⟩,qaI,⟨rfl,(ir 4000),(ir 0),(ir 0)⟩,r8⟩
 refine wp_skip<|qaa<|sg<|aw E rfl fun a E=>wp_seq<|sg<|mv E rfl fun a E=>lw E (qah rfl rfl) fun a E=>wn<|bd hF fun o10 hJ hF=>qaH (Q':=fun e a w=>e = .normal ∧ ∃ m11 c14,m4.le m11 ∧ Ok u m11 ([(b1,oc 88 [vi 0,vi 0,vi 0])] :: S) w ∧ Env 67 a [(0,vs s_0),(5,vp b1),(8,vi o10.1),(9,vi o10.2.1),(10,c14)] ∧ InR .i64 o10.1 ∧ InR .i64 o10.2.1 ∧ (pL 6 qbp) m11 [c14] o10.2.2) ?_ ?_
 rotate_left
 ·intro e a w hO
  obtain ⟨rfl,m37,c40,hle,ok,E,r38,r39,h41⟩:=hO
  have le_m0:=le_m0.trans hle
  have h6:=(mL qbH).up hle h6
  refine qaa<|wp_seq<|sg<|mv E rfl fun a E=>lw E (qbD rfl rfl) fun a E=>wn<|cf E rfl hF (fun c42 hF=>?_) fun c42 hF=>?_
  ·refine sg<|mz E rfl rfl fun a E=>?_
   cases hF
  refine wp_skip<|qaa<|wp_seq<|sg<|mv E rfl fun a E=>bd hF fun r43 e44 hF=>qaf E qnu rfl (qh6 N _ o10.2.2 h41 e44 hG ok) rfl rfl ?_
  rintro _ w ⟨⟨rfl,ok⟩,r45⟩
  refine ⟨_,rfl,fun a E=>?_⟩
  refine lw E (qaK rfl rfl) fun a E=>wn<|cf E rfl hF (fun c46 hF=>?_) fun c46 hF=>?_
  ·refine sg<|lw E (qaL (ps:=[]) (qs:=[]) (cs:=[vi 0,vi 0,vi 0]) qhx qkn rfl trivial rfl) fun a E=>av E rfl fun a E=>qax E ok 0 rfl rfl rfl qkj rfl rfl ⟨rfl,rfl,rfl,trivial⟩ rfl rfl fun w ok=>aw E rfl fun a E=>wp_ret<|qad ?_
   exact fin hF ⟨m37,(.slice none 0 0),[vi 0,vi 0,vi 0],le_m0,ok.drop,E.d,⟨rv_t E rfl,rv_c (cs:=[vi 0,vi 0,vi 0]) E ok rfl ql2 rfl (Holds.own 0 rfl rfl),rv_t E rfl,trivial⟩,qaI,⟨rfl,(ir 0),(ir 0),(ir 0)⟩,(ir 6)⟩
  refine wp_skip<|qaa<|sg<|mv E rfl fun a E=>lw E (qaL (ps:=[]) (qs:=[]) (cs:=[vi 0,vi 0,vi 0]) qhx qkn rfl trivial rfl) fun a E=>av E rfl fun a E=>qax E ok 0 rfl rfl rfl qkj rfl rfl ⟨rfl,rfl,rfl,trivial⟩ rfl rfl fun w ok=>aw E rfl fun a E=>wp_ret ?_
  exact fin hF ⟨m37,c40,[vi 0,vi 0,vi 0],le_m0,ok.drop,E.d,⟨rv_t E rfl,rv_c (cs:=[vi 0,vi 0,vi 0]) E ok rfl ql2 rfl (Holds.own 0 rfl rfl),rv_t E rfl,trivial⟩,h41,⟨rfl,(ir 0),(ir 0),(ir 0)⟩,(ir 0)⟩
 have hF:=hJ
 have le_m4:=Mem.le.refl m4
 refine cg E rfl hF (fun c16 hF=>?_) fun c16 hF=>?_
 ·refine wp_skip ?_
  cases hF
  exact ⟨rfl,⟨m4,(Value.slice none 0 0),le_m4,ok,E.keep [0,5,8,9,10],r7,r8,qaI⟩⟩
 refine sg<|mz E rfl rfl fun a E=>qjW kS (oneV pB) E ok rfl rfl fun c17 M18 a w E ok h19=>lw E (qaL (ps:=[(0,.tmp 26),(1,.tmp 27),(3,.tmp 28)]) (qs:=[(0,[vs s_0]),(1,[c5]),(3,[c17])]) (cs:=[vs s_0,c5,vi 0,c17,vi 0,vi 0]) qqA qpd rfl ⟨rfl,rfl,rfl,⟨rfl,(qjw h6),rfl,⟨rfl,(OMap.cells h19),rfl,trivial⟩⟩⟩ rfl) fun a E=>qbF E ok rfl rfl rfl fun b20 a w E ok=>av E rfl fun a E=>wn<|sg<|mz E rfl rfl fun a E=>bd hF fun r21 e22 hF=>qaf E qtw rfl (qh0 N 0 (ir 0) counting_1 (Parser.mk s_0 r2.1 0 ([]:List (List UInt8 × Bool)) 0 0) ls_0 h6 (ir 0) h19 (ir 0) (ir 0) e22 hG ok) rfl rfl ?_
 rintro _ w ⟨m23,c24,c27,c30,M31,rfl,hle,ok,h25,l26,h28,r29,h32,r33,r34⟩
 have le_m0:=le_m0.trans hle
 have le_m4:=le_m4.trans hle
 have h6:=(mL qbH).up hle h6
 refine ⟨_,rfl,fun a E=>?_⟩
 refine aw E rfl fun a E=>wp_seq<|sg<|mv E rfl fun a E=>lw E (qae rfl) fun a E=>fk E ok qdF qam rfl 0 rfl rfl fun a E=>mv E rfl fun a E=>lv E ok (qaP qeo h6 rfl) fun a E=>lw E (qap rfl rfl) fun a E=>wn<|bd hF fun o35 hJ hF=>qaH (Q':=fun e a w=>e = .normal ∧ Ok u m23 ([(b20,oc 145 [vs r21.2.s,c27,vi r21.2.next,c30,vi r21.2.at_,vi r21.2.e])] :: M31 :: [(b1,oc 88 [vi 0,vi 0,vi 0])] :: S) w ∧ Env 67 a [(0,vs s_0),(5,vp b1),(10,c24),(11,vp b20)]) ?_ ?_
 ·have hF:=hJ
  refine cf E rfl hF (fun c36 hF=>?_) fun c36 hF=>?_
  ·refine qab<|mv E rfl fun a E=>?_
   cases hF
  refine wp_skip ?_
  cases hF
  exact ⟨rfl,⟨ok,E.keep [0,5,10,11]⟩⟩
 intro e a w hO
 obtain ⟨rfl,ok,E⟩:=hO
 refine qaa<|qce (by kernel_rfl) (by kernel_rfl) ok<|qv E (qai rfl) fun a E=>qv E (qae rfl) fun a E=>qv E (qag qqW rfl) fun a E=>qv E (qal qam rfl (Holds.own 0 rfl rfl)) fun a E=>qv E (qai rfl) fun a E=>qv E (qae rfl) fun a E=>qv E (qag qlb rfl) fun a E=>qv E (qal qfq rfl (Holds.own 0 rfl rfl)) fun a E=>qv E (qaG rfl) fun a E=>qv E (qaG rfl) fun a E=>wpQuiet_nil ?_
 intro w ok
 cases hF
 exact ⟨rfl,⟨m23,c24,le_m4,(ok.pk 3 [2] rfl (by decide)),E.keep [0,5,8,9,10],r33,r34,h25⟩⟩
def qmn (u:World) (m0:Mem) (S:Segs) (r:(List (Part)) × Position × Int) (a:Act) (w:World):Prop :=
 ∃ m1 v0 v1,m0.le m1 ∧ Ok u m1 S w ∧ a.defers = [] ∧ RVs Tryz.prog a w [.t 2 v0,.c 3 88 (.agg v1.toArray),.t 4 (.int .i64 r.2.2)] ∧ (pL 6 qbp) m1 [v0] r.1 ∧ qh8 m1 v1 r.2.1 ∧ InR .i64 r.2.2
theorem qmB (N:Nat) (s_0:List UInt8) (ls_0:s_0.length ≤ LIMS) {r:(List (Part)) × Position × Int} (hF:qfb N s_0 = some r) (hG:Glob u) (ok:Ok u m0 S w) :
  Calls Tryz.prog 28 [vs s_0].toArray w fun e w'=>∃ m1 v0 v1,e = .returned (.tuple [v0,(.agg v1.toArray),(.int .i64 r.2.2)].toArray) ∧ m0.le m1 ∧ Ok u m1 S w' ∧ (pL 6 qbp) m1 [v0] r.1 ∧ qh8 m1 v1 r.2.1 ∧ InR .i64 r.2.2:=by
 have le_m0:=Mem.le.refl m0
 unfold qfb at hF
 refine en (qmn u m0 S) r Tryz.func28 rfl rfl rfl (by rintro a w ⟨m1,v0,v1,hle,ok,hd,hrv,h0,h1,h2⟩; exact qaT [.t 2 v0,.c 3 88 (.agg v1.toArray),.t 4 (.int .i64 r.2.2)] hd rfl hrv ⟨m1,v0,v1,rfl,hle,ok,h0,h1,h2⟩) fun fin a E=>sg<|av E rfl fun a E=>qa4 E ok qhx rfl rfl fun b1 a w E ok=>aw E rfl fun a E=>sg<|mv E rfl fun a E=>bd hF fun r2 e3 hF=>qaf E qtN rfl (qmp N s_0 ls_0 false e3 hG ok) rfl rfl ?_
 rintro _ w ⟨m4,c5,vs7,rfl,hle,ok,h6,h8,r9⟩
 have le_m0:=le_m0.trans hle
 obtain ⟨rfl,r10,r11,r12⟩:=h8
 refine ⟨_,rfl,fun a E=>?_⟩
 refine lw E (qav rfl rfl) fun a E=>lw E (qav rfl rfl) fun a E=>lw E (qav rfl rfl) fun a E=>av E rfl fun a E=>qax E ok 0 rfl rfl rfl qkj rfl rfl ⟨rfl,rfl,rfl,trivial⟩ rfl rfl fun w ok=>aw E rfl fun a E=>wp_ret ?_
 exact fin hF ⟨m4,c5,[vi r2.2.1.Offset,vi r2.2.1.Line,vi r2.2.1.Column],le_m0,ok.drop,E.d,⟨rv_t E rfl,rv_c (cs:=[vi r2.2.1.Offset,vi r2.2.1.Line,vi r2.2.1.Column]) E ok rfl ql2 rfl (Holds.own 0 rfl rfl),rv_t E rfl,trivial⟩,h6,⟨rfl,r10,r11,r12⟩,r9⟩
end Go.Proofs.YthhieiabfpkaaaaGreatDoor
namespace Go.Proofs.YthhieiabfpkaaaaGreatDoor
open Go.X
def qf5 (_N:Nat) (n_0:Int):Option Bool :=
 bif (decide (n_0 ≥ 0)) then
  bif (decide (n_0 ≤ 1114111)) then
   bif (decide (n_0 < 55296)) then
    some true
   else
    some (decide (n_0 > 57343))
  else
   some false
 else
  some false
def qb1 (_N:Nat) (p_0:List (Int)) (r_1:Int):Option (List (Int)) :=
 bif (decide ((IntKind.wrap .u32 r_1) ≤ 2047)) then
  (ishr .i32 r_1 6).bind fun q2 =>
  (app p_0 ([(qbc .or .u8 192 (IntKind.wrap .u8 q2)),(qbc .or .u8 128 (qbc .and .u8 (IntKind.wrap .u8 r_1) 63))]:List (Int))).bind fun l7 =>
  some l7
 else
  (show Option Bool from
   bif (decide ((IntKind.wrap .u32 r_1) < 55296)) then
    some (decide ((IntKind.wrap .u32 r_1) < 55296))
   else
    bif (decide ((57343:Int) < (IntKind.wrap .u32 r_1))) then
     some (decide ((IntKind.wrap .u32 r_1) ≤ 65535))
    else
     some false).bind fun o12 =>
  bif o12 then
   (ishr .i32 r_1 12).bind fun q16 =>
   (ishr .i32 r_1 6).bind fun q18 =>
   (app p_0 ([(qbc .or .u8 224 (IntKind.wrap .u8 q16)),(qbc .or .u8 128 (qbc .and .u8 (IntKind.wrap .u8 q18) 63)),(qbc .or .u8 128 (qbc .and .u8 (IntKind.wrap .u8 r_1) 63))]:List (Int))).bind fun l23 =>
   some l23
  else
   bif (decide ((IntKind.wrap .u32 r_1) > 65535)) then
    bif (decide ((IntKind.wrap .u32 r_1) ≤ 1114111)) then
     (ishr .i32 r_1 18).bind fun q30 =>
     (ishr .i32 r_1 12).bind fun q32 =>
     (ishr .i32 r_1 6).bind fun q34 =>
     (app p_0 ([(qbc .or .u8 240 (IntKind.wrap .u8 q30)),(qbc .or .u8 128 (qbc .and .u8 (IntKind.wrap .u8 q32) 63)),(qbc .or .u8 128 (qbc .and .u8 (IntKind.wrap .u8 q34) 63)),(qbc .or .u8 128 (qbc .and .u8 (IntKind.wrap .u8 r_1) 63))]:List (Int))).bind fun l39 =>
     some l39
    else
     (app p_0 ([239,191,189]:List (Int))).bind fun l47 =>
     some l47
   else
    (app p_0 ([239,191,189]:List (Int))).bind fun l55 =>
    some l55
def qcv (N:Nat) (p_0:List (Int)) (r_1:Int):Option (List (Int)) :=
 bif (decide ((IntKind.wrap .u32 r_1) ≤ 127)) then
  (app p_0 ([(IntKind.wrap .u8 r_1)]:List (Int))).bind fun l5 =>
  some l5
 else
  (qb1 N p_0 r_1).bind fun r10 =>
  some r10
def qb8 (N:Nat) (r_1:Int) (x0:Builder):Option (Int × Unit × Builder) :=
 (qcv N x0.buf r_1).bind fun r11 =>
 some ((IntKind.wrap .i64 ((r11.length:Int) - (x0.buf.length:Int))),(),(Builder.mk () r11))
def qdX (N:Nat) (l_0:List (Int)) (x_18:Int) (x_19:Builder):Option ((Int × Builder) ⊕ Builder) :=
 bif (decide (x_18 < (l_0.length:Int))) then
  (idx l_0 x_18).bind fun x27 =>
  (qf5 N x27).bind fun r37 =>
  bif (!r37) then
   (qb8 N (IntKind.wrap .i32 65533) (Builder.mk () x_19.buf)).bind fun r40 =>
   some (.inl ((x_18 + 1),(Builder.mk () r40.2.2.buf)))
  else
   (qb8 N (IntKind.wrap .i32 x27) (Builder.mk () x_19.buf)).bind fun r48 =>
   some (.inl ((x_18 + 1),(Builder.mk () r48.2.2.buf)))
 else
  some (.inr (Builder.mk () x_19.buf))
def qck (N:Nat) (l_0:List (Int)):Option (List UInt8) :=
 (iter (fun s=>qdX N l_0 s.1 s.2) N (0,(Builder.mk () ([])))).bind fun o11 =>
 some (qaQ o11.buf)
def qdW (_N:Nat) (s_0:List UInt8) (out_11:List (Int)) (x_12:Nat):Option (((List (Int)) × Nat) ⊕ ((Nat × (List (Int))))) :=
 bif decide (x_12 < s_0.length) then
  (app out_11 ([(qgO s_0 x_12)]:List (Int))).bind fun l20 =>
  some (.inl (l20,(x_12 + qku s_0 x_12)))
 else
  some (.inr (x_12,out_11))
def qev (N:Nat) (s_0:List UInt8):Option (List (Int)) :=
 (iter (fun s=>qdW N s_0 s.1 s.2) N ([],0)).bind fun o7 =>
 some o7.2
def qc9 (_N:Nat) (c_0:Int):Option Bool :=
 bif (decide (c_0 ≥ 8294)) then
  some (decide (c_0 ≤ 8296))
 else
  some false
def qa3 (_N:Nat) (s_1:List UInt8) (x0:Builder):Option (Int × Unit × Builder) :=
 (app x0.buf (ints s_1)).bind fun l11 =>
 some ((s_1.length:Int),(),(Builder.mk () l11))
def qcP (N:Nat) (r2:(List (Int))) (open_34:List (Bool)) (kept_35:Int) (x_36:Int) (x_37:Builder):Option (((List (Bool)) × Int × Int × Builder) ⊕ ((Builder × Int))) :=
 bif (decide (x_36 < (r2.length:Int))) then
  (idx r2 x_36).bind fun x49 =>
  (qc9 N x49).bind fun r59 =>
  bif r59 then
   (app open_34 ([(decide (kept_35 < 8))]:List (Bool))).bind fun l65 =>
   bif (!(decide (kept_35 < 8))) then
    some (.inl (l65,kept_35,(x_36 + 1),(Builder.mk () x_37.buf)))
   else
    (qck N ([x49]:List (Int))).bind fun r79 =>
    (qa3 N r79 (Builder.mk () x_37.buf)).bind fun r82 =>
    some (.inl (l65,(IntKind.wrap .i64 (kept_35 + 1)),(x_36 + 1),(Builder.mk () r82.2.2.buf)))
  else
   bif (x49 == 8297) then
    bif ((open_34.length:Int) == 0) then
     some (.inl (open_34,kept_35,(x_36 + 1),(Builder.mk () x_37.buf)))
    else
     (idx open_34 (IntKind.wrap .i64 ((open_34.length:Int) - 1))).bind fun x92 =>
     (slc open_34 0 (IntKind.wrap .i64 ((open_34.length:Int) - 1))).bind fun l102 =>
     bif (!x92) then
      some (.inl (l102,kept_35,(x_36 + 1),(Builder.mk () x_37.buf)))
     else
      (qck N ([x49]:List (Int))).bind fun r116 =>
      (qa3 N r116 (Builder.mk () x_37.buf)).bind fun r119 =>
      some (.inl (l102,(IntKind.wrap .i64 (kept_35 - 1)),(x_36 + 1),(Builder.mk () r119.2.2.buf)))
   else
    (qck N ([x49]:List (Int))).bind fun r135 =>
    (qa3 N r135 (Builder.mk () x_37.buf)).bind fun r138 =>
    some (.inl (open_34,kept_35,(x_36 + 1),(Builder.mk () r138.2.2.buf)))
 else
  some (.inr ((Builder.mk () x_37.buf),kept_35))
def qcX (N:Nat) (o23:(Builder × Int)) (x_166:Int) (x_167:Builder):Option ((Int × Builder) ⊕ Builder) :=
 bif (decide (x_166 < o23.2)) then
  (qck N ([8297]:List (Int))).bind fun r183 =>
  (qa3 N r183 (Builder.mk () x_167.buf)).bind fun r186 =>
  some (.inl ((x_166 + 1),(Builder.mk () r186.2.2.buf)))
 else
  some (.inr (Builder.mk () x_167.buf))
def qel (N:Nat) (s_0:List UInt8):Option (List UInt8) :=
 (qev N s_0).bind fun r2 =>
 (iter (fun s=>qcP N r2 s.1 s.2.1 s.2.2.1 s.2.2.2) N ([],0,0,(Builder.mk () ([])))).bind fun o23 =>
 (iter (fun s=>qcX N o23 s.1 s.2) N (0,(Builder.mk () o23.1.buf))).bind fun o159 =>
 some (qaQ o159.buf)
def qd3 (N:Nat) (s_0:List UInt8):Option (List UInt8) :=
 (qck N ([8296]:List (Int))).bind fun r9 =>
 (qel N s_0).bind fun r12 =>
 (cat r9 r12).bind fun s15 =>
 (qck N ([8297]:List (Int))).bind fun r25 =>
 (cat s15 r25).bind fun s28 =>
 some s28
def qdr (N:Nat) (r1:(List (Int))) (out_18:List (Int)) (x_19:Int):Option (((List (Int)) × Int) ⊕ (((List (Int))))) :=
 bif (decide (x_19 < (r1.length:Int))) then
  (idx r1 x_19).bind fun x25 =>
  (qc9 N x25).bind fun r35 =>
  bif (!r35) then
   bif (x25 != 8297) then
    (app out_18 ([x25]:List (Int))).bind fun l42 =>
    some (.inl (l42,(x_19 + 1)))
   else
    some (.inl (out_18,(x_19 + 1)))
  else
   some (.inl (out_18,(x_19 + 1)))
 else
  some (.inr out_18)
def qcL (N:Nat) (s_0:List UInt8):Option (List UInt8) :=
 (qev N s_0).bind fun r1 =>
 (iter (fun s=>qdr N r1 s.1 s.2) N ([],0)).bind fun o13 =>
 (qck N o13).bind fun r55 =>
 some r55
def qcy (_N:Nat) (n_0:Int):Option Bool :=
 bif (decide (n_0 ≥ 0)) then
  bif (decide (n_0 ≤ 1114111)) then
   bif (decide (n_0 < 55296)) then
    some true
   else
    some (decide (n_0 > 57343))
  else
   some false
 else
  some false
def qcA (_N:Nat) (n_0:Int):Option (List UInt8) :=
 bif (decide (n_0 < 128)) then
  some (qaQ ([(IntKind.wrap .u8 n_0)]:List (Int)))
 else
  bif (decide (n_0 < 2048)) then
   (rm n_0 64).bind fun q6 =>
   some (qaQ ([(IntKind.wrap .u8 (IntKind.wrap .i64 ((192:Int) + (IntKind.wrap .i64 (n_0.tdiv 64))))),(IntKind.wrap .u8 (IntKind.wrap .i64 ((128:Int) + q6)))]:List (Int)))
  else
   bif (decide (n_0 < 65536)) then
    (rm (IntKind.wrap .i64 (n_0.tdiv 64)) 64).bind fun q12 =>
    (rm n_0 64).bind fun q14 =>
    some (qaQ ([(IntKind.wrap .u8 (IntKind.wrap .i64 ((224:Int) + (IntKind.wrap .i64 (n_0.tdiv 4096))))),(IntKind.wrap .u8 (IntKind.wrap .i64 ((128:Int) + q12))),(IntKind.wrap .u8 (IntKind.wrap .i64 ((128:Int) + q14)))]:List (Int)))
   else
    (rm (IntKind.wrap .i64 (n_0.tdiv 4096)) 64).bind fun q19 =>
    (rm (IntKind.wrap .i64 (n_0.tdiv 64)) 64).bind fun q21 =>
    (rm n_0 64).bind fun q23 =>
    some (qaQ ([(IntKind.wrap .u8 (IntKind.wrap .i64 ((240:Int) + (IntKind.wrap .i64 (n_0.tdiv 262144))))),(IntKind.wrap .u8 (IntKind.wrap .i64 ((128:Int) + q19))),(IntKind.wrap .u8 (IntKind.wrap .i64 ((128:Int) + q21))),(IntKind.wrap .u8 (IntKind.wrap .i64 ((128:Int) + q23)))]:List (Int)))
def qa5 (_N:Nat) (s_0:List UInt8) (o5:Int × Int) (n_25:Int) (i_26:Int):Option ((Int × Int) ⊕ ((Int ⊕ (Int × Int)))) :=
 bif (decide (i_26 < o5.2)) then
  (idx s_0 i_26).bind fun c30 =>
  bif (decide ((c30.toNat:Int) < 128)) then
   some (.inr (.inr (65533,1)))
  else
   (idx s_0 i_26).bind fun c33 =>
   bif (decide ((c33.toNat:Int) > 191)) then
    some (.inr (.inr (65533,1)))
   else
    (idx s_0 i_26).bind fun c36 =>
    some (.inl ((IntKind.wrap .i64 ((IntKind.wrap .i64 ((IntKind.wrap .i64 ((64:Int) * n_25)) + (c36.toNat:Int))) - 128)),(i_26 + 1)))
 else
  some (.inr (.inl n_25))
def qeZ (_N:Nat) (s_0:List UInt8) (o52:Int × Int) (n_68:Int) (i_69:Int):Option ((Int × Int) ⊕ ((Int ⊕ (Int × Int)))) :=
 bif (decide (i_69 < o52.2)) then
  (idx s_0 i_69).bind fun c73 =>
  bif (decide ((c73.toNat:Int) < 128)) then
   some (.inr (.inr (65533,1)))
  else
   (idx s_0 i_69).bind fun c76 =>
   bif (decide ((c76.toNat:Int) > 191)) then
    some (.inr (.inr (65533,1)))
   else
    (idx s_0 i_69).bind fun c79 =>
    some (.inl ((IntKind.wrap .i64 ((IntKind.wrap .i64 ((IntKind.wrap .i64 ((64:Int) * n_68)) + (c79.toNat:Int))) - 128)),(i_69 + 1)))
 else
  some (.inr (.inl n_68))
def qe1 (_N:Nat) (s_0:List UInt8) (n_102:Int) (i_103:Int):Option ((Int × Int) ⊕ ((Int ⊕ (Int × Int)))) :=
 bif (decide (i_103 < 4)) then
  (idx s_0 i_103).bind fun c107 =>
  bif (decide ((c107.toNat:Int) < 128)) then
   some (.inr (.inr (65533,1)))
  else
   (idx s_0 i_103).bind fun c110 =>
   bif (decide ((c110.toNat:Int) > 191)) then
    some (.inr (.inr (65533,1)))
   else
    (idx s_0 i_103).bind fun c113 =>
    some (.inl ((IntKind.wrap .i64 ((IntKind.wrap .i64 ((IntKind.wrap .i64 ((64:Int) * n_102)) + (c113.toNat:Int))) - 128)),(i_103 + 1)))
 else
  some (.inr (.inl n_102))
def qbe (N:Nat) (s_0:List UInt8):Option (Int × Int) :=
 (idx s_0 0).bind fun c1 =>
 bif (decide ((c1.toNat:Int) < 128)) then
  some ((c1.toNat:Int),1)
 else
  bif (decide ((c1.toNat:Int) ≥ 192)) then
   (show Option ((Int × Int) ⊕ (Int × Int)) from
    bif (decide ((c1.toNat:Int) < 224)) then
     some (.inl ((IntKind.wrap .i64 ((c1.toNat:Int) - 192)),2))
    else
     bif (decide ((c1.toNat:Int) ≥ 224)) then
      bif (decide ((c1.toNat:Int) < 240)) then
       some (.inl ((IntKind.wrap .i64 ((c1.toNat:Int) - 224)),3))
      else
       bif (decide ((c1.toNat:Int) ≥ 240)) then
        bif (decide ((c1.toNat:Int) < 248)) then
         some (.inl ((IntKind.wrap .i64 ((c1.toNat:Int) - 240)),4))
        else
         some (.inr (65533,1))
       else
        some (.inr (65533,1))
     else
      bif (decide ((c1.toNat:Int) ≥ 240)) then
       bif (decide ((c1.toNat:Int) < 248)) then
        some (.inl ((IntKind.wrap .i64 ((c1.toNat:Int) - 240)),4))
       else
        some (.inr (65533,1))
      else
       some (.inr (65533,1))).bind fun o5 =>
   Sum.elim (fun o5 =>
    bif (decide (o5.2 > (s_0.length:Int))) then
     some (65533,1)
    else
     (iter (fun s=>qa5 N s_0 o5 s.1 s.2) N (o5.1,1)).bind fun o22 =>
     Sum.elim (fun o22 =>
      (qcy N o22).bind fun r39 =>
      bif (!r39) then
       some (65533,1)
      else
       (qcA N o22).bind fun r42 =>
       (slc s_0 0 o5.2).bind fun s45 =>
       bif (r42 != s45) then
        some (65533,1)
       else
        some (o22,o5.2))
     (fun o22 =>
      some o22) o22)
   (fun o5 =>
    some o5) o5
  else
   bif (decide ((c1.toNat:Int) ≥ 224)) then
    (show Option ((Int × Int) ⊕ (Int × Int)) from
     bif (decide ((c1.toNat:Int) < 240)) then
      some (.inl ((IntKind.wrap .i64 ((c1.toNat:Int) - 224)),3))
     else
      bif (decide ((c1.toNat:Int) ≥ 240)) then
       bif (decide ((c1.toNat:Int) < 248)) then
        some (.inl ((IntKind.wrap .i64 ((c1.toNat:Int) - 240)),4))
       else
        some (.inr (65533,1))
      else
       some (.inr (65533,1))).bind fun o52 =>
    Sum.elim (fun o52 =>
     bif (decide (o52.2 > (s_0.length:Int))) then
      some (65533,1)
     else
      (iter (fun s=>qeZ N s_0 o52 s.1 s.2) N (o52.1,1)).bind fun o65 =>
      Sum.elim (fun o65 =>
       (qcy N o65).bind fun r82 =>
       bif (!r82) then
        some (65533,1)
       else
        (qcA N o65).bind fun r85 =>
        (slc s_0 0 o52.2).bind fun s88 =>
        bif (r85 != s88) then
         some (65533,1)
        else
         some (o65,o52.2))
      (fun o65 =>
       some o65) o65)
    (fun o52 =>
     some o52) o52
   else
    bif (decide ((c1.toNat:Int) ≥ 240)) then
     bif (decide ((c1.toNat:Int) < 248)) then
      bif (decide ((4:Int) > (s_0.length:Int))) then
       some (65533,1)
      else
       (iter (fun s=>qe1 N s_0 s.1 s.2) N ((IntKind.wrap .i64 ((c1.toNat:Int) - 240)),1)).bind fun o99 =>
       Sum.elim (fun o99 =>
        (qcy N o99).bind fun r116 =>
        bif (!r116) then
         some (65533,1)
        else
         (qcA N o99).bind fun r119 =>
         (slc s_0 0 4).bind fun s122 =>
         bif (r119 != s122) then
          some (65533,1)
         else
          some (o99,4))
       (fun o99 =>
        some o99) o99
     else
      some (65533,1)
    else
     some (65533,1)
def qb9 (N:Nat) (s_13:List UInt8) (out_14:List (Int)):Option (((List UInt8) × (List (Int))) ⊕ (((List (Int))))) :=
 bif (decide ((s_13.length:Int) > 0)) then
  (qbe N s_13).bind fun r20 =>
  (app out_14 ([r20.1]:List (Int))).bind fun l27 =>
  (slc s_13 r20.2 (s_13.length:Int)).bind fun s32 =>
  some (.inl (s32,l27))
 else
  some (.inr out_14)
def qcd (N:Nat) (s_0:List UInt8):Option (List (Int)) :=
 (iter (fun s=>qb9 N s.1 s.2) N (s_0,[])).bind fun o8 =>
 some o8
end Go.Proofs.YthhieiabfpkaaaaGreatDoor
namespace Go.Proofs.YthhieiabfpkaaaaGreatDoor
open Go.X
variable {u:World} {m0:Mem} {S:Segs} {w:World}
set_option maxHeartbeats 4000000
set_option maxRecDepth 100000
theorem qpI:goB Tryz.prog 11 = true:=by kernel_rfl
theorem qsQ:goB Tryz.prog 116 = true:=by kernel_rfl
theorem qrr:goB Tryz.prog 12 = true:=by kernel_rfl
theorem qty:goB Tryz.prog 25 = true:=by kernel_rfl
theorem qpJ:goB Tryz.prog 26 = true:=by kernel_rfl
theorem qtv:goB Tryz.prog 27 = true:=by kernel_rfl
theorem qi5:goB Tryz.prog 31 = true:=by kernel_rfl
theorem qtH:goB Tryz.prog 32 = true:=by kernel_rfl
theorem qpE:goB Tryz.prog 33 = true:=by kernel_rfl
theorem qru:goB Tryz.prog 34 = true:=by kernel_rfl
theorem qpo:goB Tryz.prog 46 = true:=by kernel_rfl
theorem qps:goB Tryz.prog 47 = true:=by kernel_rfl
theorem qtb:goB Tryz.prog 50 = true:=by kernel_rfl
theorem qrm:goB Tryz.prog 51 = true:=by kernel_rfl
theorem qkP:goB Tryz.prog 52 = true:=by kernel_rfl
theorem qt0:goB Tryz.prog 76 = true:=by kernel_rfl
theorem qat:SlT Tryz.prog 26 3 1:=SlT.of (by kernel_rfl)
theorem qbn:qbq Tryz.prog 3 = some [vi 0]:=by kernel_rfl
def qnJ (u:World) (m0:Mem) (S:Segs) (r:Bool) (a:Act) (w:World):Prop :=
 Ok u m0 S w ∧ a.defers = [] ∧ RVs Tryz.prog a w [.t 2 (.bool r)]
theorem qnV (N:Nat) (n_0:Int) (rn_0:InR .i64 n_0) {r:Bool} (hF:qf5 N n_0 = some r) (hG:Glob u) (ok:Ok u m0 S w) :
  Calls Tryz.prog 50 [vi n_0].toArray w fun e w'=>(e = .returned (.bool r) ∧ Ok u m0 S w'):=by
 unfold qf5 at hF
 refine en (qnJ u m0 S) r Tryz.func50 rfl rfl rfl (fun _ _ h=>ra h rfl) fun fin a E=>sg<|aw E rfl fun a E=>sg<|mv E rfl fun a E=>lw E (qaq rfl rfl) fun a E=>mv E rfl fun a E=>bw E 5 hF (fun c1 hF E=>?_) fun c1 hF E=>?_
 ·refine lsq E fun a E=>pf E rfl rfl fun a E=>mv E rfl fun a E=>lsz E fun a E=>lsq E fun a E=>pf E rfl rfl fun a E=>aw E rfl fun a E=>wp_ret ?_
  exact fin hF ⟨ok,E.d,rz E rfl⟩
 refine mv E rfl fun a E=>lw E (qaR rfl rfl) fun a E=>pt E rfl rfl fun a E=>mv E rfl fun a E=>bw E 9 hF (fun c2 hF E=>?_) fun c2 hF E=>?_
 ·refine lsz E fun a E=>lsq E fun a E=>pf E rfl rfl fun a E=>av E rfl fun a E=>wn<|wp_ret ?_
  exact fin hF ⟨ok,E.d,rz E rfl⟩
 refine mv E rfl fun a E=>lw E (qap rfl rfl) fun a E=>mv E rfl fun a E=>bu E 12 hF (fun c3 hF E=>?_) fun c3 hF E=>?_
 ·refine lsq E fun a E=>pt E rfl rfl fun a E=>pt E rfl rfl fun a E=>aw E rfl fun a E=>wp_ret ?_
  exact fin hF ⟨ok,E.d,rz E rfl⟩
 refine mv E rfl fun a E=>lw E (qaK rfl rfl) fun a E=>pf E rfl rfl fun a E=>pt E rfl rfl fun a E=>aw E rfl fun a E=>wp_ret ?_
 exact fin hF ⟨ok,E.d,rz E rfl⟩
def qft (u:World) (m0:Mem) (S:Segs) (r:(List (Int))) (a:Act) (w:World):Prop :=
 ∃ m1 v0 M0,m0.le m1 ∧ Ok u m1 (M0 :: S) w ∧ a.defers = [] ∧ RVs Tryz.prog a w [.t 4 v0] ∧ ORow 5 1 (pI .u8) m1 v0 r M0
theorem qfr (N:Nat) (vp_0:Value) (p_0:List (Int)) {Mp_0:List (Nat × Obj)} (hp_0:ORow 5 1 (pI .u8) m0 vp_0 p_0 Mp_0) (r_1:Int) (rr_1:InR .i32 r_1) {r:(List (Int))} (hF:qb1 N p_0 r_1 = some r) (hG:Glob u) (ok:Ok u m0 (Mp_0 :: S) w) :
  Calls Tryz.prog 116 [vp_0,Value.int .i32 r_1].toArray w fun e w'=>∃ m1 v0 M0,e = .returned v0 ∧ m0.le m1 ∧ Ok u m1 (M0 :: S) w' ∧ ORow 5 1 (pI .u8) m1 v0 r M0:=by
 have le_m0:=Mem.le.refl m0
 unfold qb1 at hF
 refine en (qft u m0 S) r Tryz.func116 rfl rfl rfl (by rintro a w ⟨m1,v0,M0,hle,ok,hd,hrv,h0⟩; exact qaT [.t 4 v0] hd rfl hrv ⟨m1,v0,M0,rfl,hle,ok,h0⟩) fun fin a E=>sg<|aw E rfl fun a E=>sg<|mv E rfl fun a E=>lv E ok (qbZ Tryz.underlying21 Tryz.underlying188 rfl) fun a E=>aw E rfl fun a E=>wp_block<|sg<|mv E rfl fun a E=>lw E (qaR rfl rfl) fun a E=>aw E rfl fun a E=>cf E rfl hF (fun c1 hF=>?_) fun c1 hF=>?_
 ·refine sg<|mz E rfl rfl fun a E=>bd hF fun q2 e3 hF=>lw E (qkH rfl rfl e3) fun a E=>lv E ok (qbZ Tryz.underlying21 Tryz.underlying5 rfl) fun a E=>lw E (qd1 .or (by decide) rfl rfl) fun a E=>mv E rfl fun a E=>lv E ok (qbZ Tryz.underlying21 Tryz.underlying5 rfl) fun a E=>lw E (qd1 .and (by decide) rfl rfl) fun a E=>lw E (qd1 .or (by decide) rfl rfl) fun a E=>qa6 (R:=(pI .u8)) (xo:=[.tmp 18,.tmp 22]) (xs:=([(qbc .or .u8 192 (IntKind.wrap .u8 q2)),(qbc .or .u8 128 (qbc .and .u8 (IntKind.wrap .u8 r_1) 63))]:List (Int))) E ok qcK qcF rfl ⟨⟨_,rfl,rfl,(qaX (qes .or .u8 192 (IntKind.wrap .u8 q2)))⟩,⟨_,rfl,rfl,(qaX (qes .or .u8 128 (qbc .and .u8 (IntKind.wrap .u8 r_1) 63)))⟩,trivial⟩ rfl rfl rfl rfl fun c4 M5 a w E ok h6=>bd hF fun l7 e8 hF=>qb0 (R:=(pI .u8)) E ok 1 (mI .u8) qcK Tryz.underlying66 rfl hp_0 (qbf.ofRow h6 0 rfl ok) e8 ⟨_,qcF,rfl⟩ rfl rfl rfl rfl fun c9 M10 a w E ok h11=>aw E rfl fun a E=>wp_ret<|qak ?_
  exact fin hF ⟨m0,c9,M10,le_m0,ok.drop,E.d,rz E rfl,h11⟩
 refine wp_seq<|sg<|mv E rfl fun a E=>lw E (qap rfl rfl) fun a E=>aw E rfl fun a E=>bd hF fun o12 hJ hF=>qaH (Q':=fun e a w=>e = .normal ∧ Ok u m0 (Mp_0 :: S) w ∧ Env 78 a [(0,vp_0),(1,(Value.int .i32 r_1)),(5,(Value.int .u32 (IntKind.wrap .u32 r_1))),(25,vb o12)]) ?_ ?_
 ·have hF:=hJ
  refine cf E rfl hF (fun c13 hF=>?_) fun c13 hF=>?_
  ·refine wp_skip ?_
   cases hF
   exact ⟨rfl,⟨ok,E.keep [0,1,5,25]⟩⟩
  refine qab<|mv E rfl fun a E=>lw E (qap rfl rfl) fun a E=>mv E rfl fun a E=>bu E 30 hF (fun c14 hF E=>?_) fun c14 hF E=>?_
  ·refine mv E rfl fun a E=>lw E (qaR rfl rfl) fun a E=>pt E rfl rfl fun a E=>av E rfl fun a E=>wpList_nil ?_
   cases hF
   exact ⟨rfl,⟨ok,E.keep [0,1,5,25]⟩⟩
  refine lsq E fun a E=>pf E rfl rfl fun a E=>av E rfl fun a E=>wpList_nil ?_
  cases hF
  exact ⟨rfl,⟨ok,E.keep [0,1,5,25]⟩⟩
 intro e a w hO
 obtain ⟨rfl,ok,E⟩:=hO
 refine qaa<|cf E rfl hF (fun c15 hF=>?_) fun c15 hF=>?_
 ·refine sg<|mz E rfl rfl fun a E=>bd hF fun q16 e17 hF=>lw E (qkH rfl rfl e17) fun a E=>lv E ok (qbZ Tryz.underlying21 Tryz.underlying5 rfl) fun a E=>lw E (qd1 .or (by decide) rfl rfl) fun a E=>mv E rfl fun a E=>bd hF fun q18 e19 hF=>lw E (qkH rfl rfl e19) fun a E=>lv E ok (qbZ Tryz.underlying21 Tryz.underlying5 rfl) fun a E=>lw E (qd1 .and (by decide) rfl rfl) fun a E=>lw E (qd1 .or (by decide) rfl rfl) fun a E=>mv E rfl fun a E=>lv E ok (qbZ Tryz.underlying21 Tryz.underlying5 rfl) fun a E=>lw E (qd1 .and (by decide) rfl rfl) fun a E=>lw E (qd1 .or (by decide) rfl rfl) fun a E=>qa6 (R:=(pI .u8)) (xo:=[.tmp 38,.tmp 43,.tmp 47]) (xs:=([(qbc .or .u8 224 (IntKind.wrap .u8 q16)),(qbc .or .u8 128 (qbc .and .u8 (IntKind.wrap .u8 q18) 63)),(qbc .or .u8 128 (qbc .and .u8 (IntKind.wrap .u8 r_1) 63))]:List (Int))) E ok qcK qcF rfl ⟨⟨_,rfl,rfl,(qaX (qes .or .u8 224 (IntKind.wrap .u8 q16)))⟩,⟨_,rfl,rfl,(qaX (qes .or .u8 128 (qbc .and .u8 (IntKind.wrap .u8 q18) 63)))⟩,⟨_,rfl,rfl,(qaX (qes .or .u8 128 (qbc .and .u8 (IntKind.wrap .u8 r_1) 63)))⟩,trivial⟩ rfl rfl rfl rfl fun c20 M21 a w E ok h22=>?_
  refine bd hF fun l23 e24 hF=>qb0 (R:=(pI .u8)) E ok 1 (mI .u8) qcK Tryz.underlying66 rfl hp_0 (qbf.ofRow h22 0 rfl ok) e24 ⟨_,qcF,rfl⟩ rfl rfl rfl rfl fun c25 M26 a w E ok h27=>aw E rfl fun a E=>wp_ret<|qak ?_
  exact fin hF ⟨m0,c25,M26,le_m0,ok.drop,E.d,rz E rfl,h27⟩
 refine sg<|mv E rfl fun a E=>lw E (qaK rfl rfl) fun a E=>mv E rfl fun a E=>bw E 53 hF (fun c28 hF E=>?_) fun c28 hF E=>?_
 ·refine lsq E fun a E=>pf E rfl rfl fun a E=>aw E rfl fun a E=>c_if E rfl (fun h=>by cases h) (fun _=>?_)
  refine sg<|mv E rfl fun a E=>qa6 (R:=(pI .u8)) (xo:=[.const (Value.int .u8 239),.const (Value.int .u8 191),.const (Value.int .u8 189)]) (xs:=([239,191,189]:List (Int))) E ok qcK qcF rfl ⟨⟨_,rfl,rfl,(qaX (show InR .u8 (239) by decide))⟩,⟨_,rfl,rfl,(qaX (show InR .u8 (191) by decide))⟩,⟨_,rfl,rfl,(qaX (show InR .u8 (189) by decide))⟩,trivial⟩ rfl rfl rfl rfl fun c52 M53 a w E ok h54=>bd hF fun l55 e56 hF=>qb0 (R:=(pI .u8)) E ok 1 (mI .u8) qcK Tryz.underlying66 rfl hp_0 (qbf.ofRow h54 0 rfl ok) e56 ⟨_,qcF,rfl⟩ rfl rfl rfl rfl fun c57 M58 a w E ok h59=>aw E rfl fun a E=>wp_ret<|qak ?_
  exact fin hF ⟨m0,c57,M58,le_m0,ok.drop,E.d,rz E rfl,h59⟩
 refine mv E rfl fun a E=>lw E (qaR rfl rfl) fun a E=>pt E rfl rfl fun a E=>aw E rfl fun a E=>cg E rfl hF (fun c29 hF=>?_) fun c29 hF=>?_
 ·refine sg<|mv E rfl fun a E=>qa6 (R:=(pI .u8)) (xo:=[.const (Value.int .u8 239),.const (Value.int .u8 191),.const (Value.int .u8 189)]) (xs:=([239,191,189]:List (Int))) E ok qcK qcF rfl ⟨⟨_,rfl,rfl,(qaX (show InR .u8 (239) by decide))⟩,⟨_,rfl,rfl,(qaX (show InR .u8 (191) by decide))⟩,⟨_,rfl,rfl,(qaX (show InR .u8 (189) by decide))⟩,trivial⟩ rfl rfl rfl rfl fun c44 M45 a w E ok h46=>bd hF fun l47 e48 hF=>qb0 (R:=(pI .u8)) E ok 1 (mI .u8) qcK Tryz.underlying66 rfl hp_0 (qbf.ofRow h46 0 rfl ok) e48 ⟨_,qcF,rfl⟩ rfl rfl rfl rfl fun c49 M50 a w E ok h51=>aw E rfl fun a E=>wp_ret<|qak ?_
  exact fin hF ⟨m0,c49,M50,le_m0,ok.drop,E.d,rz E rfl,h51⟩
 refine sg<|mz E rfl rfl fun a E=>bd hF fun q30 e31 hF=>lw E (qkH rfl rfl e31) fun a E=>lv E ok (qbZ Tryz.underlying21 Tryz.underlying5 rfl) fun a E=>lw E (qd1 .or (by decide) rfl rfl) fun a E=>mv E rfl fun a E=>bd hF fun q32 e33 hF=>lw E (qkH rfl rfl e33) fun a E=>lv E ok (qbZ Tryz.underlying21 Tryz.underlying5 rfl) fun a E=>lw E (qd1 .and (by decide) rfl rfl) fun a E=>lw E (qd1 .or (by decide) rfl rfl) fun a E=>mv E rfl fun a E=>?_
 refine bd hF fun q34 e35 hF=>lw E (qkH rfl rfl e35) fun a E=>lv E ok (qbZ Tryz.underlying21 Tryz.underlying5 rfl) fun a E=>lw E (qd1 .and (by decide) rfl rfl) fun a E=>lw E (qd1 .or (by decide) rfl rfl) fun a E=>mv E rfl fun a E=>lv E ok (qbZ Tryz.underlying21 Tryz.underlying5 rfl) fun a E=>lw E (qd1 .and (by decide) rfl rfl) fun a E=>lw E (qd1 .or (by decide) rfl rfl) fun a E=>qa6 (R:=(pI .u8)) (xo:=[.tmp 61,.tmp 66,.tmp 71,.tmp 75]) (xs:=([(qbc .or .u8 240 (IntKind.wrap .u8 q30)),(qbc .or .u8 128 (qbc .and .u8 (IntKind.wrap .u8 q32) 63)),(qbc .or .u8 128 (qbc .and .u8 (IntKind.wrap .u8 q34) 63)),(qbc .or .u8 128 (qbc .and .u8 (IntKind.wrap .u8 r_1) 63))]:List (Int))) E ok qcK qcF rfl ⟨⟨_,rfl,rfl,(qaX (qes .or .u8 240 (IntKind.wrap .u8 q30)))⟩,⟨_,rfl,rfl,(qaX (qes .or .u8 128 (qbc .and .u8 (IntKind.wrap .u8 q32) 63)))⟩,⟨_,rfl,rfl,(qaX (qes .or .u8 128 (qbc .and .u8 (IntKind.wrap .u8 q34) 63)))⟩,⟨_,rfl,rfl,(qaX (qes .or .u8 128 (qbc .and .u8 (IntKind.wrap .u8 r_1) 63)))⟩,trivial⟩ rfl rfl rfl rfl fun c36 M37 a w E ok h38=>bd hF fun l39 e40 hF=>qb0 (R:=(pI .u8)) E ok 1 (mI .u8) qcK Tryz.underlying66 rfl hp_0 (qbf.ofRow h38 0 rfl ok) e40 ⟨_,qcF,rfl⟩ rfl rfl rfl rfl fun c41 M42 a w E ok h43=>aw E rfl fun a E=>wp_ret<|qak ?_
 exact fin hF ⟨m0,c41,M42,le_m0,ok.drop,E.d,rz E rfl,h43⟩
def qhg (u:World) (m0:Mem) (S:Segs) (r:(List (Int))) (a:Act) (w:World):Prop :=
 ∃ m1 v0 M0,m0.le m1 ∧ Ok u m1 (M0 :: S) w ∧ a.defers = [] ∧ RVs Tryz.prog a w [.t 4 v0] ∧ ORow 5 1 (pI .u8) m1 v0 r M0
theorem qhc (N:Nat) (vp_0:Value) (p_0:List (Int)) {Mp_0:List (Nat × Obj)} (hp_0:ORow 5 1 (pI .u8) m0 vp_0 p_0 Mp_0) (r_1:Int) (rr_1:InR .i32 r_1) {r:(List (Int))} (hF:qcv N p_0 r_1 = some r) (hG:Glob u) (ok:Ok u m0 (Mp_0 :: S) w) :
  Calls Tryz.prog 76 [vp_0,Value.int .i32 r_1].toArray w fun e w'=>∃ m1 v0 M0,e = .returned v0 ∧ m0.le m1 ∧ Ok u m1 (M0 :: S) w' ∧ ORow 5 1 (pI .u8) m1 v0 r M0:=by
 have le_m0:=Mem.le.refl m0
 unfold qcv at hF
 refine en (qhg u m0 S) r Tryz.func76 rfl rfl rfl (by rintro a w ⟨m1,v0,M0,hle,ok,hd,hrv,h0⟩; exact qaT [.t 4 v0] hd rfl hrv ⟨m1,v0,M0,rfl,hle,ok,h0⟩) fun fin a E=>sg<|aw E rfl fun a E=>wp_seq<|sg<|mv E rfl fun a E=>lv E ok (qbZ Tryz.underlying21 Tryz.underlying188 rfl) fun a E=>lw E (qaR rfl rfl) fun a E=>wn<|cf E rfl hF (fun c1 hF=>?_) fun c1 hF=>?_
 ·refine sg<|mz E rfl rfl fun a E=>lv E ok (qbZ Tryz.underlying21 Tryz.underlying5 rfl) fun a E=>qa6 (R:=(pI .u8)) (xo:=[.tmp 10]) (xs:=([(IntKind.wrap .u8 r_1)]:List (Int))) E ok qcK qcF rfl ⟨⟨_,rfl,rfl,(qaX (InR.wrap _ _))⟩,trivial⟩ rfl rfl rfl rfl fun c2 M3 a w E ok h4=>bd hF fun l5 e6 hF=>qb0 (R:=(pI .u8)) E ok 1 (mI .u8) qcK Tryz.underlying66 rfl hp_0 (qbf.ofRow h4 0 rfl ok) e6 ⟨_,qcF,rfl⟩ rfl rfl rfl rfl fun c7 M8 a w E ok h9=>aw E rfl fun a E=>wp_ret<|qad ?_
  exact fin hF ⟨m0,c7,M8,le_m0,ok.drop,E.d,rz E rfl,h9⟩
 refine wp_skip<|qaa<|sg<|mz E rfl rfl fun a E=>bd hF fun r10 e11 hF=>qaf E qsQ rfl (qfr N _ p_0 hp_0 r_1 rr_1 e11 hG ok) rfl rfl ?_
 rintro _ w ⟨m12,c13,M14,rfl,hle,ok,h15⟩
 have le_m0:=le_m0.trans hle
 refine ⟨_,rfl,fun a E=>?_⟩
 refine aw E rfl fun a E=>wp_ret ?_
 exact fin hF ⟨m12,c13,M14,le_m0,ok,E.d,rz E rfl,h15⟩
def qgJ (u:World) (m0:Mem) (S:Segs) (pb0:Nat) (x0:Builder) (c1:Value) (c3:Value) (M4:List (Nat × Obj)) (r:Int × Unit × Builder) (a:Act) (w:World):Prop :=
 ∃ c6 c8 M9,Ok u m0 ([(pb0,oc 68 [c6,c8])] :: M9 :: S) w ∧ a.defers = [] ∧ RVs Tryz.prog a w [.t 4 (.int .i64 r.1),.t 5 .nilIface] ∧ InR .i64 r.1 ∧ BAd pb0 c6 ∧ ORow 5 1 (pI .u8) m0 c8 r.2.2.buf M9
theorem qeK (N:Nat) (r_1:Int) (rr_1:InR .i32 r_1) {pb0:Nat} {c1:Value} {c3:Value} {M4:List (Nat × Obj)} (x0:Builder) (h2:BAd pb0 c1) (h5:ORow 5 1 (pI .u8) m0 c3 x0.buf M4) {r:Int × Unit × Builder} (hF:qb8 N r_1 x0 = some r) (hG:Glob u) (ok:Ok u m0 ([(pb0,oc 68 [c1,c3])] :: M4 :: S) w) :
  Calls Tryz.prog 51 [vp pb0,Value.int .i32 r_1].toArray w fun e w'=>∃ c6 c8 M9,(e = .returned (.tuple [(.int .i64 r.1),.nilIface].toArray) ∧ Ok u m0 ([(pb0,oc 68 [c6,c8])] :: M9 :: S) w') ∧ InR .i64 r.1 ∧ BAd pb0 c6 ∧ ORow 5 1 (pI .u8) m0 c8 r.2.2.buf M9:=by
 have hb0:=ok.base
 have le_m0:=Mem.le.refl m0
 unfold qb8 at hF
 refine en (qgJ u m0 S pb0 x0 c1 c3 M4) r Tryz.func51 rfl rfl rfl (by rintro a w ⟨c6,c8,M9,ok,hd,hrv,h0,h1,h2⟩; exact qaT [.t 4 (.int .i64 r.1),.t 5 .nilIface] hd rfl hrv ⟨c6,c8,M9,⟨rfl,ok⟩,h0,h1,h2⟩) fun fin a E=>sg<|av E rfl fun a E=>aw E rfl fun a E=>sg<|mv E rfl fun a E=>lc E qlm rfl (qe3 h2 ok) fun w ok a E=>wn<|sg<|mv E rfl fun a E=>lw E (qae rfl) fun a E=>fk E ok qdA qf2 rfl 0 rfl rfl fun a E=>lv E ok (qb7 qcK h5 rfl) fun a E=>aw E rfl fun a E=>sg<|mz E rfl rfl fun a E=>?_
 refine lw E (qae rfl) fun a E=>fk E ok qdA qf2 rfl 0 rfl rfl fun a E=>mv E rfl fun a E=>?_
 obtain ⟨r11,e12,hF⟩:=bnd hF
 replace ok:Ok u m0 (M4 :: [(pb0,oc 68 [vp pb0,c3])] :: S) w:=(ok.pk 2 [1,0] rfl (by decide))
 refine qaf E qt0 rfl (qhc N _ x0.buf h5 r_1 rr_1 e12 hG ok) rfl rfl ?_
 rintro _ w ⟨m13,c14,M15,rfl,hle,ok,h16⟩
 have le_m0:=le_m0.trans hle
 refine ⟨_,rfl,fun a E=>?_⟩
 refine lw E (qae rfl) fun a E=>fv E qdA rfl fun a E=>qax E ok 1 rfl rfl rfl qjZ (ORow.cells h16) rfl ⟨(ORow.one h16),trivial⟩ rfl rfl fun w ok=>wn<|sg<|mv E rfl fun a E=>lw E (qae rfl) fun a E=>fk E ok qdA qf2 rfl 1 rfl rfl fun a E=>lv E ok (qb7 qcK h16 rfl) fun a E=>mv E rfl fun a E=>lw E (qbI rfl rfl) fun a E=>av E rfl fun a E=>av E rfl fun a E=>wn<|wp_ret ?_
 exact fin hF ⟨(vp pb0),c14,M15,(((ok.pk 2 [1,0] rfl (by decide))).down hb0 le_m0),E.d,⟨rv_t E rfl,rv_t E rfl,trivial⟩,(InR.wrap _ _),(.inr rfl),h16⟩
def qnf (u:World) (m0:Mem) (S:Segs) (r:(List UInt8)) (a:Act) (w:World):Prop :=
 Ok u m0 S w ∧ a.defers = [] ∧ RVs Tryz.prog a w [.t 2 (.string (bs r))] ∧ r.length ≤ LIMS
theorem qdE (N:Nat) (vl_0:Value) (l_0:List (Int)) (hl_0:(pL 1 (pI .i64)) m0 [vl_0] l_0) {r:(List UInt8)} (hF:qck N l_0 = some r) (hG:Glob u) (ok:Ok u m0 S w) :
  Calls Tryz.prog 31 [vl_0].toArray w fun e w'=>(e = .returned (.string (bs r)) ∧ Ok u m0 S w') ∧ r.length ≤ LIMS:=by
 unfold qck at hF
 refine en (qnf u m0 S) r Tryz.func31 rfl rfl rfl (fun _ _ h=>rb h rfl) fun fin a E=>sg<|aw E rfl fun a E=>sg<|qa4 E ok qkA rfl rfl fun b1 a w E ok=>wn<|wp_seq<|sg<|mv E rfl fun a E=>lv E ok (qaP qat hl_0 rfl) fun a E=>mv E rfl fun a E=>wn<|wp_block ?_
 obtain ⟨M9,ok,h10⟩:=qcY (e:=5) (k:=1) (R:=(pI .u8)) ok
 refine bd hF fun o11 hL hF=>qa7 _ (fun (s:Int × Builder) a w=>∃ c13 c15 M16,Ok u m0 (M16 :: [(b1,oc 68 [c13,c15])] :: S) w ∧ Env 20 a [(3,vp b1),(6,vl_0),(7,(vi (l_0.length:Int))),(8,vi s.1)] ∧ InR .i64 s.1 ∧ BAd b1 c13 ∧ ORow 5 1 (pI .u8) m0 c15 s.2.buf M16) (fun (b:Builder) e a w=>e = (.exit 0) ∧ ∃ c62 c64 M65,Ok u m0 (M65 :: [(b1,oc 68 [c62,c64])] :: S) w ∧ Env 20 a [(3,vp b1)] ∧ BAd b1 c62 ∧ ORow 5 1 (pI .u8) m0 c64 b.buf M65) ?_ ?_ N _ a w hL ⟨(Value.pointer none),(Value.slice none 0 0),M9,ok,E.keep [3,6,7,8],(ir 0),(.inl rfl),h10⟩
 rotate_left
 ·intro e a w _ hO
  obtain ⟨rfl,c56,c58,M59,ok,E,h57,h60⟩:=hO
  refine qa0<|qaa<|sg ?_
  replace ok:Ok u m0 ([(b1,oc 68 [c56,c58])] :: M59 :: S) w:=(ok.pk 2 [1,0] rfl (by decide))
  refine qaf E qkD rfl (qho Tryz.lays169 Tryz.Builder_Extra_169 h60 ok) rfl rfl ?_
  rintro _ w ⟨⟨rfl,ok⟩,l61⟩
  refine ⟨_,rfl,fun a E=>?_⟩
  refine aw E rfl fun a E=>wp_ret ?_
  exact fin hF ⟨ok,E.d,rz E rfl,l61⟩
 rintro ⟨v18,v19⟩ a w r ⟨c21,c23,M24,ok,E,r20,h22,h25⟩ hF
 replace hF:qdX N l_0 v18 v19 = some r:=hF
 unfold qdX at hF
 refine sg<|lw E (qap rfl rfl) fun a E=>wn<|wp_seq<|cg E rfl hF (fun c26 hF=>?_) fun c26 hF=>?_
 ·refine wp_exit<|qaM ?_
  cases hF
  exact so (⟨rfl,⟨c21,c23,M24,ok,E.keep [3],h22,h25⟩⟩)
 refine wp_skip<|qaa<|wp_seq<|wp_block<|sg ?_
 obtain ⟨x27,e28,hF⟩:=bnd hF
 obtain ⟨b29,o30,es31,hl32,rr33,at34,yy35⟩:=ia E 6 8 qat hl_0 e28
 obtain ⟨rfl,r36⟩:=rr33
 refine lv E ok (yy35 _ _) fun a E=>lv E ok (qal qam rfl (Holds.ro at34)) fun a E=>aw E rfl fun a E=>wp_seq<|sg<|mv E rfl fun a E=>bd hF fun r37 e38 hF=>lc E qtb rfl (qnV N x27 r36 e38 hG ok) fun w ok a E=>lw E (qbx rfl) fun a E=>wn<|cg E rfl hF (fun c39 hF=>?_) fun c39 hF=>?_
 ·refine wp_skip<|qaa<|qab<|mv E rfl fun a E=>lv E ok (qbZ Tryz.underlying3 Tryz.underlying21 rfl) fun a E=>?_
  obtain ⟨r48,e49,hF⟩:=bnd hF
  replace ok:Ok u m0 ([(b1,oc 68 [c21,c23])] :: M24 :: S) w:=(ok.pk 2 [1,0] rfl (by decide))
  refine qaf E qrm rfl (qeK N (IntKind.wrap .i32 x27) (InR.wrap _ _) (Builder.mk () v19.buf) h22 h25 e49 hG ok) rfl rfl ?_
  rintro _ w ⟨c51,c53,M54,⟨rfl,ok⟩,r50,h52,h55⟩
  refine ⟨_,rfl,fun a E=>?_⟩
  refine wpList_nil<|qac<|qaa<|qab<|lw E (qaE rfl rfl (InR.inc r20 (qaj hl_0) c26)) fun a E=>mv E rfl fun a E=>wpList_nil ?_
  cases hF
  exact qao ⟨c51,c53,M54,(ok.pk 2 [1,0] rfl (by decide)),E.keep [3,6,7,8],(InR.inc r20 (qaj hl_0) c26),h52,h55⟩
 refine qab<|aw E rfl fun a E=>qab<|mv E rfl fun a E=>lv E ok (qbZ Tryz.underlying3 Tryz.underlying21 rfl) fun a E=>?_
 obtain ⟨r40,e41,hF⟩:=bnd hF
 replace ok:Ok u m0 ([(b1,oc 68 [c21,c23])] :: M24 :: S) w:=(ok.pk 2 [1,0] rfl (by decide))
 refine qaf E qrm rfl (qeK N (IntKind.wrap .i32 65533) (InR.wrap _ _) (Builder.mk () v19.buf) h22 h25 e41 hG ok) rfl rfl ?_
 rintro _ w ⟨c43,c45,M46,⟨rfl,ok⟩,r42,h44,h47⟩
 refine ⟨_,rfl,fun a E=>?_⟩
 refine wpList_nil<|qac<|qaa<|qab<|lw E (qaE rfl rfl (InR.inc r20 (qaj hl_0) c26)) fun a E=>mv E rfl fun a E=>wpList_nil ?_
 cases hF
 exact qao ⟨c43,c45,M46,(ok.pk 2 [1,0] rfl (by decide)),E.keep [3,6,7,8],(InR.inc r20 (qaj hl_0) c26),h44,h47⟩
def qnc (u:World) (m0:Mem) (S:Segs) (r:(List (Int))) (a:Act) (w:World):Prop :=
 ∃ m1 v0,m0.le m1 ∧ Ok u m1 S w ∧ a.defers = [] ∧ RVs Tryz.prog a w [.t 2 v0] ∧ (pL 1 (pI .i64)) m1 [v0] r
theorem qgZ (N:Nat) (s_0:List UInt8) (ls_0:s_0.length ≤ LIMS) {r:(List (Int))} (hF:qev N s_0 = some r) (hG:Glob u) (ok:Ok u m0 S w) :
  Calls Tryz.prog 33 [vs s_0].toArray w fun e w'=>∃ m1 v0,e = .returned v0 ∧ m0.le m1 ∧ Ok u m1 S w' ∧ (pL 1 (pI .i64)) m1 [v0] r:=by
 have le_m0:=Mem.le.refl m0
 unfold qev at hF
 refine en (qnc u m0 S) r Tryz.func33 rfl rfl rfl (fun _ _ h=>rc h fun _=>rfl) fun fin a E=>sg<|aw E rfl fun a E=>sg<|aw E rfl fun a E=>wp_seq<|sg<|mv E rfl fun a E=>qrE E ok Tryz.underlying9 rfl rfl rfl fun b1 a w E ok=>wn<|wp_block ?_
 obtain ⟨M5,ok,h6⟩:=qcY (e:=3) (k:=1) (R:=(pI .i64)) ok
 refine bd hF fun o7 hL hF=>qa7 _ (fun (s:(List (Int)) × Nat) a w=>∃ c8 M9,Ok u m0 (M9 :: [(b1,Obj.stringIter (bs s_0) s.2)] :: S) w ∧ Env 17 a [(3,c8),(7,vp b1)] ∧ ORow 3 1 (pI .i64) m0 c8 s.1 M9) (fun (b:(Nat × (List (Int)))) e a w=>e = (.exit 0) ∧ ∃ c30 M31,Ok u m0 (M31 :: [(b1,Obj.stringIter (bs s_0) b.1)] :: S) w ∧ Env 17 a [(3,c30)] ∧ ORow 3 1 (pI .i64) m0 c30 b.2 M31) ?_ ?_ N _ a w hL ⟨(Value.slice none 0 0),M5,ok,E.keep [3,7],h6⟩
 rotate_left
 ·intro e a w _ hO
  obtain ⟨rfl,c25,M26,ok,E,h27⟩:=hO
  refine qa0<|qaa<|sg<|mv E rfl fun a E=>aw E rfl fun a E=>wp_ret ?_
  obtain ⟨m28,hle,ok,hfz⟩:=(ok.frs 0 rfl).freeze
  have h29:=ORow.froz (mI .i64) h27 hle hfz (by decide)
  have le_m0:=le_m0.trans hle
  exact fin hF ⟨m28,c25,le_m0,ok.drop,E.d,rz E rfl,h29⟩
 rintro ⟨v11,v12⟩ a w r ⟨c13,M14,ok,E,h15⟩ hF
 replace hF:qdW N s_0 v11 v12 = some r:=hF
 unfold qdW at hF
 refine sg<|qcu (decide (v12 < s_0.length)) (fun c16=>?_) (fun c16=>?_)
 rotate_left
 ·have hF:=qcc c16 hF
  refine qsr E ok 1 rfl rfl c16 rfl rfl fun a E=>lw E (qav rfl rfl) fun a E=>wn<|wp_seq<|c_if E rfl (fun h=>by cases h) (fun _=>?_)
  refine wp_exit<|qaM ?_
  cases hF
  exact so (⟨rfl,⟨c13,M14,ok,E.keep [3],h15⟩⟩)
 have hF:=qci c16 hF
 refine qr2 E ok 1 rfl rfl c16 rfl rfl fun a w E ok=>lw E (qav rfl rfl) fun a E=>wn<|wp_seq<|c_if E rfl (fun _=>?_) (fun h=>by cases h)
 refine wp_skip<|qaa<|wp_block<|sg<|lw E (qav rfl rfl) fun a E=>av E rfl fun a E=>wn<|qab<|mz E rfl rfl fun a E=>lw E (qiH Tryz.underlying21 Tryz.underlying3 rfl (qlu _ _) (by decide)) fun a E=>qa6 (R:=(pI .i64)) (xo:=[.tmp 13]) (xs:=([(qgO s_0 v12)]:List (Int))) E ok qat qbn rfl ⟨⟨_,rfl,rfl,(qaX (InR.widen (qlu _ _) (by decide)))⟩,trivial⟩ rfl rfl rfl rfl fun c17 M18 a w E ok h19=>bd hF fun l20 e21 hF=>qb0 (R:=(pI .i64)) E ok 2 (mI .i64) qat Tryz.underlying26 rfl h15 (qbf.ofRow h19 0 rfl ok) e21 ⟨_,qbn,rfl⟩ rfl rfl rfl rfl fun c22 M23 a w E ok h24=>av E rfl fun a E=>wpList_nil<|qac ?_
 cases hF
 exact qao ⟨c22,M23,(ok.pk 3 [2,1] rfl (by decide)),E.keep [3,7],h24⟩
def qjF (u:World) (m0:Mem) (S:Segs) (r:Bool) (a:Act) (w:World):Prop :=
 Ok u m0 S w ∧ a.defers = [] ∧ RVs Tryz.prog a w [.t 2 (.bool r)]
theorem qgo (N:Nat) (c_0:Int) (rc_0:InR .i64 c_0) {r:Bool} (hF:qc9 N c_0 = some r) (hG:Glob u) (ok:Ok u m0 S w) :
  Calls Tryz.prog 34 [vi c_0].toArray w fun e w'=>(e = .returned (.bool r) ∧ Ok u m0 S w'):=by
 unfold qc9 at hF
 refine en (qjF u m0 S) r Tryz.func34 rfl rfl rfl (fun _ _ h=>ra h rfl) fun fin a E=>sg<|aw E rfl fun a E=>sg<|mv E rfl fun a E=>lw E (qaq rfl rfl) fun a E=>mv E rfl fun a E=>bu E 5 hF (fun c1 hF E=>?_) fun c1 hF E=>?_
 ·refine mv E rfl fun a E=>lw E (qaR rfl rfl) fun a E=>pt E rfl rfl fun a E=>aw E rfl fun a E=>wp_ret ?_
  exact fin hF ⟨ok,E.d,rz E rfl⟩
 refine lsq E fun a E=>pf E rfl rfl fun a E=>aw E rfl fun a E=>wp_ret ?_
 exact fin hF ⟨ok,E.d,rz E rfl⟩
def qgn (u:World) (m0:Mem) (S:Segs) (pb0:Nat) (x0:Builder) (c1:Value) (c3:Value) (M4:List (Nat × Obj)) (r:Int × Unit × Builder) (a:Act) (w:World):Prop :=
 ∃ c6 c8 M9,Ok u m0 ([(pb0,oc 68 [c6,c8])] :: M9 :: S) w ∧ a.defers = [] ∧ RVs Tryz.prog a w [.t 4 (.int .i64 r.1),.t 5 .nilIface] ∧ InR .i64 r.1 ∧ BAd pb0 c6 ∧ ORow 5 1 (pI .u8) m0 c8 r.2.2.buf M9
theorem qcb (N:Nat) (s_1:List UInt8) (ls_1:s_1.length ≤ LIMS) {pb0:Nat} {c1:Value} {c3:Value} {M4:List (Nat × Obj)} (x0:Builder) (h2:BAd pb0 c1) (h5:ORow 5 1 (pI .u8) m0 c3 x0.buf M4) {r:Int × Unit × Builder} (hF:qa3 N s_1 x0 = some r) (hG:Glob u) (ok:Ok u m0 ([(pb0,oc 68 [c1,c3])] :: M4 :: S) w) :
  Calls Tryz.prog 52 [vp pb0,vs s_1].toArray w fun e w'=>∃ c6 c8 M9,(e = .returned (.tuple [(.int .i64 r.1),.nilIface].toArray) ∧ Ok u m0 ([(pb0,oc 68 [c6,c8])] :: M9 :: S) w') ∧ InR .i64 r.1 ∧ BAd pb0 c6 ∧ ORow 5 1 (pI .u8) m0 c8 r.2.2.buf M9:=by
 unfold qa3 at hF
 refine en (qgn u m0 S pb0 x0 c1 c3 M4) r Tryz.func52 rfl rfl rfl (by rintro a w ⟨c6,c8,M9,ok,hd,hrv,h0,h1,h2⟩; exact qaT [.t 4 (.int .i64 r.1),.t 5 .nilIface] hd rfl hrv ⟨c6,c8,M9,⟨rfl,ok⟩,h0,h1,h2⟩) fun fin a E=>sg<|av E rfl fun a E=>aw E rfl fun a E=>sg<|mv E rfl fun a E=>lc E qlm rfl (qe3 h2 ok) fun w ok a E=>wn<|sg<|mz E rfl rfl fun a E=>lw E (qae rfl) fun a E=>fv E qdA rfl fun a E=>ld E ok qf2 0 rfl rfl rfl fun a E=>mv E rfl fun a E=>?_
 refine bd hF fun l11 e12 hF=>qoa E ok 1 qcK Tryz.underlying9 rfl h5 e12 ⟨_,qcF,rfl⟩ rfl rfl rfl rfl fun c13 M14 a w E ok h15=>lw E (qae rfl) fun a E=>fv E qdA rfl fun a E=>qax E ok 0 rfl rfl rfl qjZ (ORow.cells h15) rfl ⟨(ORow.one h15),trivial⟩ rfl rfl fun w ok=>wn<|sg<|mv E rfl fun a E=>lw E (qbs Tryz.underlying9 rfl) fun a E=>av E rfl fun a E=>aw E rfl fun a E=>wp_ret ?_
 exact fin hF ⟨(vp pb0),c13,M14,ok,E.d,⟨rv_t E rfl,rv_t E rfl,trivial⟩,(InR.len ls_1),(.inr rfl),h15⟩
def qkT (u:World) (m0:Mem) (S:Segs) (r:(List UInt8)) (a:Act) (w:World):Prop :=
 Ok u m0 S w ∧ a.defers = [] ∧ RVs Tryz.prog a w [.t 2 (.string (bs r))] ∧ r.length ≤ LIMS
theorem qkZ (N:Nat) (s_0:List UInt8) (ls_0:s_0.length ≤ LIMS) {r:(List UInt8)} (hF:qel N s_0 = some r) (hG:Glob u) (ok:Ok u m0 S w) :
  Calls Tryz.prog 32 [vs s_0].toArray w fun e w'=>(e = .returned (.string (bs r)) ∧ Ok u m0 S w') ∧ r.length ≤ LIMS:=by
 have hb0:=ok.base
 have le_m0:=Mem.le.refl m0
 unfold qel at hF
 refine en (qkT u m0 S) r Tryz.func32 rfl rfl rfl (fun _ _ h=>rb h rfl) fun fin a E=>sg<|aw E rfl fun a E=>sg<|qa4 E ok qkA rfl rfl fun b1 a w E ok=>wn<|sg<|aw E rfl fun a E=>sg<|aw E rfl fun a E=>wp_seq<|sg<|mv E rfl fun a E=>bd hF fun r2 e3 hF=>qaf E qpE rfl (qgZ N s_0 ls_0 e3 hG ok) rfl rfl ?_
 rintro _ w ⟨m4,c5,rfl,hle,ok,h6⟩
 have le_m0:=le_m0.trans hle
 refine ⟨_,rfl,fun a E=>?_⟩
 refine lv E ok (qaP qat h6 rfl) fun a E=>mv E rfl fun a E=>wn<|wp_block ?_
 obtain ⟨M19,ok,h20⟩:=qcY (e:=4) (k:=1) (R:=pB) ok
 obtain ⟨M21,ok,h22⟩:=qcY (e:=5) (k:=1) (R:=(pI .u8)) ok
 refine bd hF fun o23 hL hF=>qa7 _ (fun (s:(List (Bool)) × Int × Int × Builder) a w=>∃ c24 M25 c29 c31 M32,Ok u m4 (M32 :: M25 :: [(b1,oc 68 [c29,c31])] :: S) w ∧ Env 64 a [(3,vp b1),(4,c24),(5,vi s.2.1),(11,c5),(12,(vi (r2.length:Int))),(13,vi s.2.2.1)] ∧ ORow 4 1 pB m4 c24 s.1 M25 ∧ InR .i64 s.2.1 ∧ InR .i64 s.2.2.1 ∧ BAd b1 c29 ∧ ORow 5 1 (pI .u8) m4 c31 s.2.2.2.buf M32) (fun (b:(Builder × Int)) e a w=>e = (.exit 0) ∧ ∃ c205 c207 M208,Ok u m4 (M208 :: [(b1,oc 68 [c205,c207])] :: S) w ∧ Env 64 a [(3,vp b1),(5,vi b.2)] ∧ BAd b1 c205 ∧ ORow 5 1 (pI .u8) m4 c207 b.1.buf M208 ∧ InR .i64 b.2) ?_ ?_ N _ a w hL ⟨(Value.slice none 0 0),M19,(Value.pointer none),(Value.slice none 0 0),M21,ok,E.keep [3,4,5,11,12,13],h20,(ir 0),(ir 0),(.inl rfl),h22⟩
 rotate_left
 ·intro e a w _ hO
  obtain ⟨rfl,c146,c148,M149,ok,E,h147,h150,r151⟩:=hO
  refine qa0<|qaa<|wp_seq<|sg<|mz E rfl rfl fun a E=>wn<|wp_block<|bd hF fun o159 hL hF=>qa7 _ (fun (s:Int × Builder) a w=>∃ c161 c163 M164,Ok u m4 (M164 :: [(b1,oc 68 [c161,c163])] :: S) w ∧ Env 64 a [(3,vp b1),(56,vi o23.2),(57,vi s.1)] ∧ InR .i64 s.1 ∧ BAd b1 c161 ∧ ORow 5 1 (pI .u8) m4 c163 s.2.buf M164) (fun (b:Builder) e a w=>e = (.exit 3) ∧ ∃ c200 c202 M203,Ok u m4 (M203 :: [(b1,oc 68 [c200,c202])] :: S) w ∧ Env 64 a [(3,vp b1)] ∧ BAd b1 c200 ∧ ORow 5 1 (pI .u8) m4 c202 b.buf M203) ?_ ?_ N _ a w hL ⟨c146,c148,M149,ok,E.keep [3,56,57],(ir 0),h147,h150⟩
  rotate_left
  ·intro e a w _ hO
   obtain ⟨rfl,c194,c196,M197,ok,E,h195,h198⟩:=hO
   refine qa0<|qaa<|sg ?_
   replace ok:Ok u m4 ([(b1,oc 68 [c194,c196])] :: M197 :: S) w:=(ok.pk 2 [1,0] rfl (by decide))
   refine qaf E qkD rfl (qho Tryz.lays169 Tryz.Builder_Extra_169 h198 ok) rfl rfl ?_
   rintro _ w ⟨⟨rfl,ok⟩,l199⟩
   refine ⟨_,rfl,fun a E=>?_⟩
   refine aw E rfl fun a E=>wp_ret ?_
   exact fin hF ⟨(ok).down hb0 le_m0,E.d,rz E rfl,l199⟩
  rintro ⟨v166,v167⟩ a w r ⟨c169,c171,M172,ok,E,r168,h170,h173⟩ hF
  replace hF:qcX N o23 v166 v167 = some r:=hF
  unfold qcX at hF
  refine sg<|lw E (qap rfl rfl) fun a E=>wn<|wp_seq<|cg E rfl hF (fun c174 hF=>?_) fun c174 hF=>?_
  ·refine wp_exit<|qaM ?_
   cases hF
   exact so (⟨rfl,⟨c169,c171,M172,ok,E.keep [3],h170,h173⟩⟩)
  refine wp_skip<|qaa<|wp_seq<|wp_block<|qab<|qa6 (R:=(pI .i64)) (xo:=[.const (vi 8297)]) (xs:=([8297]:List (Int))) E ok qat qbn rfl ⟨⟨_,rfl,rfl,(qaX (ir 8297))⟩,trivial⟩ rfl rfl rfl rfl fun c175 M176 a w E ok h177=>?_
  obtain ⟨r183,e184,hF⟩:=bnd hF
  obtain ⟨m178,hle180,ok179,hfz181⟩:=(ok.frs 0 rfl).freeze
  have h182:=ORow.froz (mI .i64) h177 hle180 hfz181 (by decide)
  refine qaf E qi5 rfl (qdE N _ ([8297]:List (Int)) h182 e184 hG ok179) rfl rfl ?_
  rintro _ w ⟨⟨rfl,okz⟩,l185⟩
  replace ok:=(Ok.thawAt 0 rfl ok hle180 hfz181 okz)
  refine ⟨_,rfl,fun a E=>?_⟩
  obtain ⟨r186,e187,hF⟩:=bnd hF
  replace ok:Ok u m4 ([(b1,oc 68 [c169,c171])] :: M172 :: M176 :: S) w:=(ok.pk 3 [2,1,0] rfl (by decide))
  refine qaf E qkP rfl (qcb N r183 l185 (Builder.mk () v167.buf) h170 h173 e187 hG ok) rfl rfl ?_
  rintro _ w ⟨c189,c191,M192,⟨rfl,ok⟩,r188,h190,h193⟩
  refine ⟨_,rfl,fun a E=>?_⟩
  refine wpList_nil<|qac<|qaa<|qab<|lw E (qaE rfl rfl (InR.inc r168 r151 c174)) fun a E=>mv E rfl fun a E=>wpList_nil ?_
  cases hF
  exact qao ⟨c189,c191,M192,(ok.pk 3 [1,0] rfl (by decide)),E.keep [3,56,57],(InR.inc r168 r151 c174),h190,h193⟩
 rintro ⟨v34,v35,v36,v37⟩ a w r ⟨c38,M39,c43,c45,M46,ok,E,h40,r41,r42,h44,h47⟩ hF
 replace hF:qcP N r2 v34 v35 v36 v37 = some r:=hF
 unfold qcP at hF
 refine sg<|lw E (qap rfl rfl) fun a E=>wn<|wp_seq<|cg E rfl hF (fun c48 hF=>?_) fun c48 hF=>?_
 ·refine wp_exit<|qaM ?_
  cases hF
  exact so (⟨rfl,⟨c43,c45,M46,(ok.pk 3 [0,2] rfl (by decide)),E.keep [3,5],h44,h47,r41⟩⟩)
 refine wp_skip<|qaa<|wp_seq<|wp_block<|sg ?_
 obtain ⟨x49,e50,hF⟩:=bnd hF
 obtain ⟨b51,o52,es53,hl54,rr55,at56,yy57⟩:=ia E 11 13 qat h6 e50
 obtain ⟨rfl,r58⟩:=rr55
 refine lv E ok (yy57 _ _) fun a E=>lv E ok (qal qam rfl (Holds.ro at56)) fun a E=>aw E rfl fun a E=>wp_seq<|wp_block<|sg<|mv E rfl fun a E=>bd hF fun r59 e60 hF=>lc E qru rfl (qgo N x49 r58 e60 hG ok) fun w ok a E=>aw E rfl fun a E=>cf E rfl hF (fun c61 hF=>?_) fun c61 hF=>?_
 ·refine sg<|mv E rfl fun a E=>lw E (qap rfl rfl) fun a E=>aw E rfl fun a E=>sg<|mz E rfl rfl fun a E=>qa6 (R:=pB) (xo:=[.tmp 23]) (xs:=([(decide (v35 < 8))]:List (Bool))) E ok qbh qdM rfl ⟨⟨_,rfl,rfl,qdi⟩,trivial⟩ rfl rfl rfl rfl fun c62 M63 a w E ok h64=>bd hF fun l65 e66 hF=>qb0 (R:=pB) E ok 2 mB qbh Tryz.underlying111 rfl h40 (qbf.ofRow h64 0 rfl ok) e66 ⟨_,qdM,rfl⟩ rfl rfl rfl rfl fun c67 M68 a w E ok h69=>aw E rfl fun a E=>wp_seq<|sg<|mv E rfl fun a E=>lw E (qbx rfl) fun a E=>wn<|cf E rfl hF (fun c70 hF=>?_) fun c70 hF=>?_
  ·refine wp_exit<|qaM<|qnE rfl<|qaM<|qa0<|qaa<|qab<|lw E (qaE rfl rfl (InR.inc r42 (qaj h6) c48)) fun a E=>mv E rfl fun a E=>wpList_nil ?_
   cases hF
   exact qao ⟨c67,M68,c43,c45,M46,(ok.pk 4 [1,2,3] rfl (by decide)),E.keep [3,4,5,11,12,13],h69,r41,(InR.inc r42 (qaj h6) c48),h44,h47⟩
  refine wp_skip<|qaa<|qab<|mv E rfl fun a E=>lw E (qaF rfl rfl) fun a E=>av E rfl fun a E=>wpList_nil<|qac<|qaa<|qab<|mv E rfl fun a E=>qa6 (R:=(pI .i64)) (xo:=[.tmp 51]) (xs:=([x49]:List (Int))) E ok qat qbn rfl ⟨⟨_,rfl,rfl,(qaX r58)⟩,trivial⟩ rfl rfl rfl rfl fun c71 M72 a w E ok h73=>?_
  obtain ⟨r79,e80,hF⟩:=bnd hF
  obtain ⟨m74,hle76,ok75,hfz77⟩:=(ok.frs 0 rfl).freeze
  have h78:=ORow.froz (mI .i64) h73 hle76 hfz77 (by decide)
  refine qaf E qi5 rfl (qdE N _ ([x49]:List (Int)) h78 e80 hG ok75) rfl rfl ?_
  rintro _ w ⟨⟨rfl,okz⟩,l81⟩
  replace ok:=(Ok.thawAt 0 rfl ok hle76 hfz77 okz)
  refine ⟨_,rfl,fun a E=>?_⟩
  obtain ⟨r82,e83,hF⟩:=bnd hF
  replace ok:Ok u m4 ([(b1,oc 68 [c43,c45])] :: M46 :: M72 :: M63 :: M68 :: S) w:=(ok.pk 5 [4,2,0,1,3] rfl (by decide))
  refine qaf E qkP rfl (qcb N r79 l81 (Builder.mk () v37.buf) h44 h47 e83 hG ok) rfl rfl ?_
  rintro _ w ⟨c85,c87,M88,⟨rfl,ok⟩,r84,h86,h89⟩
  refine ⟨_,rfl,fun a E=>?_⟩
  refine wpList_nil<|qac<|qaa<|qab<|lw E (qaE rfl rfl (InR.inc r42 (qaj h6) c48)) fun a E=>mv E rfl fun a E=>wpList_nil ?_
  cases hF
  exact qao ⟨c67,M68,c85,c87,M88,(ok.pk 5 [1,4,0] rfl (by decide)),E.keep [3,4,5,11,12,13],h69,(InR.wrap _ _),(InR.inc r42 (qaj h6) c48),h86,h89⟩
 refine sg<|mv E rfl fun a E=>lw E (qah rfl rfl) fun a E=>aw E rfl fun a E=>cg E rfl hF (fun c90 hF=>?_) fun c90 hF=>?_
 ·refine wp_skip<|qac<|qaa<|qab<|mv E rfl fun a E=>qa6 (R:=(pI .i64)) (xo:=[.tmp 51]) (xs:=([x49]:List (Int))) E ok qat qbn rfl ⟨⟨_,rfl,rfl,(qaX r58)⟩,trivial⟩ rfl rfl rfl rfl fun c127 M128 a w E ok h129=>?_
  obtain ⟨r135,e136,hF⟩:=bnd hF
  obtain ⟨m130,hle132,ok131,hfz133⟩:=(ok.frs 0 rfl).freeze
  have h134:=ORow.froz (mI .i64) h129 hle132 hfz133 (by decide)
  refine qaf E qi5 rfl (qdE N _ ([x49]:List (Int)) h134 e136 hG ok131) rfl rfl ?_
  rintro _ w ⟨⟨rfl,okz⟩,l137⟩
  replace ok:=(Ok.thawAt 0 rfl ok hle132 hfz133 okz)
  refine ⟨_,rfl,fun a E=>?_⟩
  obtain ⟨r138,e139,hF⟩:=bnd hF
  replace ok:Ok u m4 ([(b1,oc 68 [c43,c45])] :: M46 :: M128 :: M39 :: S) w:=(ok.pk 4 [3,1,0,2] rfl (by decide))
  refine qaf E qkP rfl (qcb N r135 l137 (Builder.mk () v37.buf) h44 h47 e139 hG ok) rfl rfl ?_
  rintro _ w ⟨c141,c143,M144,⟨rfl,ok⟩,r140,h142,h145⟩
  refine ⟨_,rfl,fun a E=>?_⟩
  refine wpList_nil<|qac<|qaa<|qab<|lw E (qaE rfl rfl (InR.inc r42 (qaj h6) c48)) fun a E=>mv E rfl fun a E=>wpList_nil ?_
  cases hF
  exact qao ⟨c38,M39,c141,c143,M144,(ok.pk 4 [1,3,0] rfl (by decide)),E.keep [3,4,5,11,12,13],h40,r41,(InR.inc r42 (qaj h6) c48),h142,h145⟩
 refine wp_seq<|sg<|mv E rfl fun a E=>lv E ok (qb7 qbh h40 rfl) fun a E=>lw E (qah rfl rfl) fun a E=>wn<|cf E rfl hF (fun c91 hF=>?_) fun c91 hF=>?_
 ·refine wp_exit<|qaM<|qnE rfl<|qaM<|qa0<|qaa<|qab<|lw E (qaE rfl rfl (InR.inc r42 (qaj h6) c48)) fun a E=>mv E rfl fun a E=>wpList_nil ?_
  cases hF
  exact qao ⟨c38,M39,c43,c45,M46,ok,E.keep [3,4,5,11,12,13],h40,r41,(InR.inc r42 (qaj h6) c48),h44,h47⟩
 refine wp_skip<|qaa<|sg<|mz E rfl rfl fun a E=>lv E ok (qb7 qbh h40 rfl) fun a E=>lw E (qbI rfl rfl) fun a E=>?_
 obtain ⟨x92,e93,hF⟩:=bnd hF
 obtain ⟨b94,o95,hp96,yy97⟩:=qbC qbh h40 e93 (P:=Tryz.prog) (X:=.tmp 36) (I:=.tmp 39) (kd:=.i64) (qaJ E rfl) (qaJ E rfl)
 refine lv E ok (yy97 _ _) fun a E=>?_
 obtain ⟨es98,hl99,rr100,hh101⟩:=qds h40 e93 hp96 (by decide)
 obtain rfl:=rr100
 refine lv E ok (qal qeP rfl (hh101 _ _ _ 1 rfl)) fun a E=>aw E rfl fun a E=>sg<|mz E rfl rfl fun a E=>lv E ok (qb7 qbh h40 rfl) fun a E=>lw E (qbI rfl rfl) fun a E=>?_
 obtain ⟨l102,e103,hF⟩:=bnd hF
 obtain ⟨c104,h105,yy106⟩:=ORow.slice qbh h40 e103 (P:=Tryz.prog) (X:=.tmp 42) (lov:=none) (hiv:=(some (.tmp 45))) (qaJ E rfl) (qey E rfl) (qey E ⟨_,rfl⟩)
 refine lv E ok (yy106 _ _) fun a E=>aw E rfl fun a E=>wp_seq<|sg<|mv E rfl fun a E=>lw E (qbx rfl) fun a E=>wn<|cf E rfl hF (fun c107 hF=>?_) fun c107 hF=>?_
 ·refine wp_exit<|qaM<|qnE rfl<|qaM<|qa0<|qaa<|qab<|lw E (qaE rfl rfl (InR.inc r42 (qaj h6) c48)) fun a E=>mv E rfl fun a E=>wpList_nil ?_
  cases hF
  exact qao ⟨c104,M39,c43,c45,M46,ok,E.keep [3,4,5,11,12,13],h105,r41,(InR.inc r42 (qaj h6) c48),h44,h47⟩
 refine wp_skip<|qaa<|qab<|mv E rfl fun a E=>lw E (qbI rfl rfl) fun a E=>av E rfl fun a E=>wpList_nil<|qac<|qaa<|qab<|mv E rfl fun a E=>qa6 (R:=(pI .i64)) (xo:=[.tmp 51]) (xs:=([x49]:List (Int))) E ok qat qbn rfl ⟨⟨_,rfl,rfl,(qaX r58)⟩,trivial⟩ rfl rfl rfl rfl fun c108 M109 a w E ok h110=>?_
 obtain ⟨r116,e117,hF⟩:=bnd hF
 obtain ⟨m111,hle113,ok112,hfz114⟩:=(ok.frs 0 rfl).freeze
 have h115:=ORow.froz (mI .i64) h110 hle113 hfz114 (by decide)
 refine qaf E qi5 rfl (qdE N _ ([x49]:List (Int)) h115 e117 hG ok112) rfl rfl ?_
 rintro _ w ⟨⟨rfl,okz⟩,l118⟩
 replace ok:=(Ok.thawAt 0 rfl ok hle113 hfz114 okz)
 refine ⟨_,rfl,fun a E=>?_⟩
 obtain ⟨r119,e120,hF⟩:=bnd hF
 replace ok:Ok u m4 ([(b1,oc 68 [c43,c45])] :: M46 :: M109 :: M39 :: S) w:=(ok.pk 4 [3,1,0,2] rfl (by decide))
 refine qaf E qkP rfl (qcb N r116 l118 (Builder.mk () v37.buf) h44 h47 e120 hG ok) rfl rfl ?_
 rintro _ w ⟨c122,c124,M125,⟨rfl,ok⟩,r121,h123,h126⟩
 refine ⟨_,rfl,fun a E=>?_⟩
 refine wpList_nil<|qac<|qaa<|qab<|lw E (qaE rfl rfl (InR.inc r42 (qaj h6) c48)) fun a E=>mv E rfl fun a E=>wpList_nil ?_
 cases hF
 exact qao ⟨c104,M39,c122,c124,M125,(ok.pk 4 [1,3,0] rfl (by decide)),E.keep [3,4,5,11,12,13],h105,(InR.wrap _ _),(InR.inc r42 (qaj h6) c48),h123,h126⟩
def qmz (u:World) (m0:Mem) (S:Segs) (r:(List UInt8)) (a:Act) (w:World):Prop :=
 Ok u m0 S w ∧ a.defers = [] ∧ RVs Tryz.prog a w [.t 2 (.string (bs r))] ∧ r.length ≤ LIMS
theorem qfi (N:Nat) (s_0:List UInt8) (ls_0:s_0.length ≤ LIMS) {r:(List UInt8)} (hF:qd3 N s_0 = some r) (hG:Glob u) (ok:Ok u m0 S w) :
  Calls Tryz.prog 15 [vs s_0].toArray w fun e w'=>(e = .returned (.string (bs r)) ∧ Ok u m0 S w') ∧ r.length ≤ LIMS:=by
 unfold qd3 at hF
 refine en (qmz u m0 S) r Tryz.func15 rfl rfl rfl (fun _ _ h=>rb h rfl) fun fin a E=>sg<|aw E rfl fun a E=>sg<|qa6 (R:=(pI .i64)) (xo:=[.const (vi 8296)]) (xs:=([8296]:List (Int))) E ok qat qbn rfl ⟨⟨_,rfl,rfl,(qaX (ir 8296))⟩,trivial⟩ rfl rfl rfl rfl fun c1 M2 a w E ok h3=>?_
 obtain ⟨r9,e10,hF⟩:=bnd hF
 obtain ⟨m4,hle6,ok5,hfz7⟩:=(ok.frs 0 rfl).freeze
 have h8:=ORow.froz (mI .i64) h3 hle6 hfz7 (by decide)
 refine qaf E qi5 rfl (qdE N _ ([8296]:List (Int)) h8 e10 hG ok5) rfl rfl ?_
 rintro _ w ⟨⟨rfl,okz⟩,l11⟩
 replace ok:=(Ok.thawAt 0 rfl ok hle6 hfz7 okz)
 refine ⟨_,rfl,fun a E=>?_⟩
 refine mv E rfl fun a E=>bd hF fun r12 e13 hF=>qaf E qtH rfl (qkZ N s_0 ls_0 e13 hG ok) rfl rfl ?_
 rintro _ w ⟨⟨rfl,ok⟩,l14⟩
 refine ⟨_,rfl,fun a E=>?_⟩
 refine bd hF fun s15 e16 hF=>lw E (qdS rfl rfl e16) fun a E=>qa6 (R:=(pI .i64)) (xo:=[.const (vi 8297)]) (xs:=([8297]:List (Int))) E ok qat qbn rfl ⟨⟨_,rfl,rfl,(qaX (ir 8297))⟩,trivial⟩ rfl rfl rfl rfl fun c17 M18 a w E ok h19=>?_
 obtain ⟨r25,e26,hF⟩:=bnd hF
 obtain ⟨m20,hle22,ok21,hfz23⟩:=(ok.frs 0 rfl).freeze
 have h24:=ORow.froz (mI .i64) h19 hle22 hfz23 (by decide)
 refine qaf E qi5 rfl (qdE N _ ([8297]:List (Int)) h24 e26 hG ok21) rfl rfl ?_
 rintro _ w ⟨⟨rfl,okz⟩,l27⟩
 replace ok:=(Ok.thawAt 0 rfl ok hle22 hfz23 okz)
 refine ⟨_,rfl,fun a E=>?_⟩
 refine bd hF fun s28 e29 hF=>lw E (qdS rfl rfl e29) fun a E=>aw E rfl fun a E=>wp_ret ?_
 exact fin hF ⟨ok.drop.drop,E.d,rz E rfl,(qgz e29)⟩
def qlp (u:World) (m0:Mem) (S:Segs) (r:(List UInt8)) (a:Act) (w:World):Prop :=
 Ok u m0 S w ∧ a.defers = [] ∧ RVs Tryz.prog a w [.t 2 (.string (bs r))] ∧ r.length ≤ LIMS
theorem qcB (N:Nat) (s_0:List UInt8) (ls_0:s_0.length ≤ LIMS) {r:(List UInt8)} (hF:qcL N s_0 = some r) (hG:Glob u) (ok:Ok u m0 S w) :
  Calls Tryz.prog 16 [vs s_0].toArray w fun e w'=>(e = .returned (.string (bs r)) ∧ Ok u m0 S w') ∧ r.length ≤ LIMS:=by
 have hb0:=ok.base
 have le_m0:=Mem.le.refl m0
 unfold qcL at hF
 refine en (qlp u m0 S) r Tryz.func16 rfl rfl rfl (fun _ _ h=>rb h rfl) fun fin a E=>sg<|aw E rfl fun a E=>sg<|aw E rfl fun a E=>wp_seq<|sg<|mv E rfl fun a E=>bd hF fun r1 e2 hF=>qaf E qpE rfl (qgZ N s_0 ls_0 e2 hG ok) rfl rfl ?_
 rintro _ w ⟨m3,c4,rfl,hle,ok,h5⟩
 have le_m0:=le_m0.trans hle
 refine ⟨_,rfl,fun a E=>?_⟩
 refine lv E ok (qaP qat h5 rfl) fun a E=>mv E rfl fun a E=>wn<|wp_block ?_
 obtain ⟨M11,ok,h12⟩:=qcY (e:=3) (k:=1) (R:=(pI .i64)) ok
 refine bd hF fun o13 hL hF=>qa7 _ (fun (s:(List (Int)) × Int) a w=>∃ c14 M15,Ok u m3 (M15 :: S) w ∧ Env 27 a [(3,c14),(7,c4),(8,(vi (r1.length:Int))),(9,vi s.2)] ∧ ORow 3 1 (pI .i64) m3 c14 s.1 M15 ∧ InR .i64 s.2) (fun (b:((List (Int)))) e a w=>e = (.exit 0) ∧ ∃ c58 M59,Ok u m3 (M59 :: S) w ∧ Env 27 a [(3,c58)] ∧ ORow 3 1 (pI .i64) m3 c58 b M59) ?_ ?_ N _ a w hL ⟨(Value.slice none 0 0),M11,ok,E.keep [3,7,8,9],h12,(ir 0)⟩
 rotate_left
 ·intro e a w _ hO
  obtain ⟨rfl,c47,M48,ok,E,h49⟩:=hO
  refine qa0<|qaa<|sg<|mv E rfl fun a E=>?_
  obtain ⟨r55,e56,hF⟩:=bnd hF
  obtain ⟨m50,hle52,ok51,hfz53⟩:=(ok.frs 0 rfl).freeze
  have h54:=ORow.froz (mI .i64) h49 hle52 hfz53 (by decide)
  refine qaf E qi5 rfl (qdE N _ o13 h54 e56 hG ok51) rfl rfl ?_
  rintro _ w ⟨⟨rfl,okz⟩,l57⟩
  replace ok:=(Ok.thawAt 0 rfl ok hle52 hfz53 okz)
  refine ⟨_,rfl,fun a E=>?_⟩
  refine aw E rfl fun a E=>wp_ret ?_
  exact fin hF ⟨(ok.drop).down hb0 le_m0,E.d,rz E rfl,l57⟩
 rintro ⟨v18,v19⟩ a w r ⟨c20,M21,ok,E,h22,r23⟩ hF
 replace hF:qdr N r1 v18 v19 = some r:=hF
 unfold qdr at hF
 refine sg<|lw E (qap rfl rfl) fun a E=>wn<|wp_seq<|cg E rfl hF (fun c24 hF=>?_) fun c24 hF=>?_
 ·refine wp_exit<|qaM ?_
  cases hF
  exact so (⟨rfl,⟨c20,M21,ok,E.keep [3],h22⟩⟩)
 refine wp_skip<|qaa<|wp_seq<|wp_block<|sg ?_
 obtain ⟨x25,e26,hF⟩:=bnd hF
 obtain ⟨b27,o28,es29,hl30,rr31,at32,yy33⟩:=ia E 7 9 qat h5 e26
 obtain ⟨rfl,r34⟩:=rr31
 refine lv E ok (yy33 _ _) fun a E=>lv E ok (qal qam rfl (Holds.ro at32)) fun a E=>aw E rfl fun a E=>sg<|mv E rfl fun a E=>bd hF fun r35 e36 hF=>lc E qru rfl (qgo N x25 r34 e36 hG ok) fun w ok a E=>lw E (qbx rfl) fun a E=>mv E rfl fun a E=>bw E 16 hF (fun c37 hF E=>?_) fun c37 hF E=>?_
 ·refine lsq E fun a E=>pf E rfl rfl fun a E=>wn<|c_if E rfl (fun h=>by cases h) (fun _=>?_)
  refine wp_skip<|qac<|qaa<|qab<|lw E (qaE rfl rfl (InR.inc r23 (qaj h5) c24)) fun a E=>mv E rfl fun a E=>wpList_nil ?_
  cases hF
  exact qao ⟨c20,M21,ok,E.keep [3,7,8,9],h22,(InR.inc r23 (qaj h5) c24)⟩
 refine mv E rfl fun a E=>lw E (qbD rfl rfl) fun a E=>pt E rfl rfl fun a E=>wn<|cg E rfl hF (fun c38 hF=>?_) fun c38 hF=>?_
 ·refine wp_skip<|qac<|qaa<|qab<|lw E (qaE rfl rfl (InR.inc r23 (qaj h5) c24)) fun a E=>mv E rfl fun a E=>wpList_nil ?_
  cases hF
  exact qao ⟨c20,M21,ok,E.keep [3,7,8,9],h22,(InR.inc r23 (qaj h5) c24)⟩
 refine qab<|mz E rfl rfl fun a E=>qa6 (R:=(pI .i64)) (xo:=[.tmp 21]) (xs:=([x25]:List (Int))) E ok qat qbn rfl ⟨⟨_,rfl,rfl,(qaX r34)⟩,trivial⟩ rfl rfl rfl rfl fun c39 M40 a w E ok h41=>bd hF fun l42 e43 hF=>qb0 (R:=(pI .i64)) E ok 1 (mI .i64) qat Tryz.underlying26 rfl h22 (qbf.ofRow h41 0 rfl ok) e43 ⟨_,qbn,rfl⟩ rfl rfl rfl rfl fun c44 M45 a w E ok h46=>av E rfl fun a E=>wpList_nil<|qac<|qaa<|qab<|lw E (qaE rfl rfl (InR.inc r23 (qaj h5) c24)) fun a E=>mv E rfl fun a E=>wpList_nil ?_
 cases hF
 exact qao ⟨c44,M45,(ok.pk 2 [1] rfl (by decide)),E.keep [3,7,8,9],h46,(InR.inc r23 (qaj h5) c24)⟩
def qjD (u:World) (m0:Mem) (S:Segs) (r:Bool) (a:Act) (w:World):Prop :=
 Ok u m0 S w ∧ a.defers = [] ∧ RVs Tryz.prog a w [.t 2 (.bool r)]
theorem qe4 (N:Nat) (n_0:Int) (rn_0:InR .i64 n_0) {r:Bool} (hF:qcy N n_0 = some r) (hG:Glob u) (ok:Ok u m0 S w) :
  Calls Tryz.prog 46 [vi n_0].toArray w fun e w'=>(e = .returned (.bool r) ∧ Ok u m0 S w'):=by
 unfold qcy at hF
 refine en (qjD u m0 S) r Tryz.func46 rfl rfl rfl (fun _ _ h=>ra h rfl) fun fin a E=>sg<|aw E rfl fun a E=>sg<|mv E rfl fun a E=>lw E (qaq rfl rfl) fun a E=>mv E rfl fun a E=>bw E 5 hF (fun c1 hF E=>?_) fun c1 hF E=>?_
 ·refine lsq E fun a E=>pf E rfl rfl fun a E=>mv E rfl fun a E=>lsz E fun a E=>lsq E fun a E=>pf E rfl rfl fun a E=>aw E rfl fun a E=>wp_ret ?_
  exact fin hF ⟨ok,E.d,rz E rfl⟩
 refine mv E rfl fun a E=>lw E (qaR rfl rfl) fun a E=>pt E rfl rfl fun a E=>mv E rfl fun a E=>bw E 9 hF (fun c2 hF E=>?_) fun c2 hF E=>?_
 ·refine lsz E fun a E=>lsq E fun a E=>pf E rfl rfl fun a E=>av E rfl fun a E=>wn<|wp_ret ?_
  exact fin hF ⟨ok,E.d,rz E rfl⟩
 refine mv E rfl fun a E=>lw E (qap rfl rfl) fun a E=>mv E rfl fun a E=>bu E 12 hF (fun c3 hF E=>?_) fun c3 hF E=>?_
 ·refine lsq E fun a E=>pt E rfl rfl fun a E=>pt E rfl rfl fun a E=>aw E rfl fun a E=>wp_ret ?_
  exact fin hF ⟨ok,E.d,rz E rfl⟩
 refine mv E rfl fun a E=>lw E (qaK rfl rfl) fun a E=>pf E rfl rfl fun a E=>pt E rfl rfl fun a E=>aw E rfl fun a E=>wp_ret ?_
 exact fin hF ⟨ok,E.d,rz E rfl⟩
def qkY (u:World) (m0:Mem) (S:Segs) (r:(List UInt8)) (a:Act) (w:World):Prop :=
 Ok u m0 S w ∧ a.defers = [] ∧ RVs Tryz.prog a w [.t 2 (.string (bs r))] ∧ r.length ≤ LIMS
theorem qdd (N:Nat) (n_0:Int) (rn_0:InR .i64 n_0) {r:(List UInt8)} (hF:qcA N n_0 = some r) (hG:Glob u) (ok:Ok u m0 S w) :
  Calls Tryz.prog 47 [vi n_0].toArray w fun e w'=>(e = .returned (.string (bs r)) ∧ Ok u m0 S w') ∧ r.length ≤ LIMS:=by
 unfold qcA at hF
 refine en (qkY u m0 S) r Tryz.func47 rfl rfl rfl (fun _ _ h=>rb h rfl) fun fin a E=>sg<|aw E rfl fun a E=>wp_seq<|wp_block<|sg<|mv E rfl fun a E=>lw E (qap rfl rfl) fun a E=>aw E rfl fun a E=>cf E rfl hF (fun c1 hF=>?_) fun c1 hF=>?_
 ·refine sg<|mv E rfl fun a E=>lv E ok (qbZ Tryz.underlying3 Tryz.underlying5 rfl) fun a E=>qa6 (R:=(pI .u8)) (xo:=[.tmp 7]) (xs:=([(IntKind.wrap .u8 n_0)]:List (Int))) E ok qcK qcF rfl ⟨⟨_,rfl,rfl,(qaX (InR.wrap _ _))⟩,trivial⟩ rfl rfl rfl rfl fun c2 M3 a w E ok h4=>lv E ok (qlD Tryz.underlying66 Tryz.underlying5 Tryz.underlying9 rfl (BR.ofRow h4 0 rfl)) fun a E=>av E rfl fun a E=>wn<|wp_ret<|qak<|qad ?_
  exact fin hF ⟨ok.drop,E.d,rz E rfl,(Nat.le_trans (Nat.le_of_eq qbQ) h4.form.2)⟩
 refine sg<|mv E rfl fun a E=>lw E (qap rfl rfl) fun a E=>aw E rfl fun a E=>cf E rfl hF (fun c5 hF=>?_) fun c5 hF=>?_
 ·refine sg<|mv E rfl fun a E=>lv E ok (qkN rfl rfl (by decide)) fun a E=>lw E (qaF rfl rfl) fun a E=>lv E ok (qbZ Tryz.underlying3 Tryz.underlying5 rfl) fun a E=>mv E rfl fun a E=>bd hF fun q6 e7 hF=>lw E (y_rm rfl rfl e7) fun a E=>lw E (qaF rfl rfl) fun a E=>lv E ok (qbZ Tryz.underlying3 Tryz.underlying5 rfl) fun a E=>qa6 (R:=(pI .u8)) (xo:=[.tmp 16,.tmp 20]) (xs:=([(IntKind.wrap .u8 (IntKind.wrap .i64 ((192:Int) + (IntKind.wrap .i64 (n_0.tdiv 64))))),(IntKind.wrap .u8 (IntKind.wrap .i64 ((128:Int) + q6)))]:List (Int))) E ok qcK qcF rfl ⟨⟨_,rfl,rfl,(qaX (InR.wrap _ _))⟩,⟨_,rfl,rfl,(qaX (InR.wrap _ _))⟩,trivial⟩ rfl rfl rfl rfl fun c8 M9 a w E ok h10=>lv E ok (qlD Tryz.underlying66 Tryz.underlying5 Tryz.underlying9 rfl (BR.ofRow h10 0 rfl)) fun a E=>aw E rfl fun a E=>wp_ret<|qak<|qad ?_
  exact fin hF ⟨ok.drop,E.d,rz E rfl,(Nat.le_trans (Nat.le_of_eq qbQ) h10.form.2)⟩
 refine sg<|mv E rfl fun a E=>lw E (qap rfl rfl) fun a E=>aw E rfl fun a E=>cf E rfl hF (fun c11 hF=>?_) fun c11 hF=>?_
 ·refine sg<|mv E rfl fun a E=>lv E ok (qkN rfl rfl (by decide)) fun a E=>lw E (qaF rfl rfl) fun a E=>lv E ok (qbZ Tryz.underlying3 Tryz.underlying5 rfl) fun a E=>mv E rfl fun a E=>lv E ok (qkN rfl rfl (by decide)) fun a E=>bd hF fun q12 e13 hF=>lw E (y_rm rfl rfl e13) fun a E=>lw E (qaF rfl rfl) fun a E=>lv E ok (qbZ Tryz.underlying3 Tryz.underlying5 rfl) fun a E=>mv E rfl fun a E=>?_
  refine bd hF fun q14 e15 hF=>lw E (y_rm rfl rfl e15) fun a E=>lw E (qaF rfl rfl) fun a E=>lv E ok (qbZ Tryz.underlying3 Tryz.underlying5 rfl) fun a E=>qa6 (R:=(pI .u8)) (xo:=[.tmp 29,.tmp 34,.tmp 38]) (xs:=([(IntKind.wrap .u8 (IntKind.wrap .i64 ((224:Int) + (IntKind.wrap .i64 (n_0.tdiv 4096))))),(IntKind.wrap .u8 (IntKind.wrap .i64 ((128:Int) + q12))),(IntKind.wrap .u8 (IntKind.wrap .i64 ((128:Int) + q14)))]:List (Int))) E ok qcK qcF rfl ⟨⟨_,rfl,rfl,(qaX (InR.wrap _ _))⟩,⟨_,rfl,rfl,(qaX (InR.wrap _ _))⟩,⟨_,rfl,rfl,(qaX (InR.wrap _ _))⟩,trivial⟩ rfl rfl rfl rfl fun c16 M17 a w E ok h18=>lv E ok (qlD Tryz.underlying66 Tryz.underlying5 Tryz.underlying9 rfl (BR.ofRow h18 0 rfl)) fun a E=>aw E rfl fun a E=>wp_ret<|qak<|qad ?_
  exact fin hF ⟨ok.drop,E.d,rz E rfl,(Nat.le_trans (Nat.le_of_eq qbQ) h18.form.2)⟩
 refine wp_skip<|qac<|qaa<|sg<|mv E rfl fun a E=>lv E ok (qkN rfl rfl (by decide)) fun a E=>lw E (qaF rfl rfl) fun a E=>lv E ok (qbZ Tryz.underlying3 Tryz.underlying5 rfl) fun a E=>mv E rfl fun a E=>lv E ok (qkN rfl rfl (by decide)) fun a E=>bd hF fun q19 e20 hF=>lw E (y_rm rfl rfl e20) fun a E=>lw E (qaF rfl rfl) fun a E=>lv E ok (qbZ Tryz.underlying3 Tryz.underlying5 rfl) fun a E=>mv E rfl fun a E=>lv E ok (qkN rfl rfl (by decide)) fun a E=>?_
 refine bd hF fun q21 e22 hF=>lw E (y_rm rfl rfl e22) fun a E=>lw E (qaF rfl rfl) fun a E=>lv E ok (qbZ Tryz.underlying3 Tryz.underlying5 rfl) fun a E=>mv E rfl fun a E=>bd hF fun q23 e24 hF=>lw E (y_rm rfl rfl e24) fun a E=>lw E (qaF rfl rfl) fun a E=>lv E ok (qbZ Tryz.underlying3 Tryz.underlying5 rfl) fun a E=>qa6 (R:=(pI .u8)) (xo:=[.tmp 44,.tmp 49,.tmp 54,.tmp 58]) (xs:=([(IntKind.wrap .u8 (IntKind.wrap .i64 ((240:Int) + (IntKind.wrap .i64 (n_0.tdiv 262144))))),(IntKind.wrap .u8 (IntKind.wrap .i64 ((128:Int) + q19))),(IntKind.wrap .u8 (IntKind.wrap .i64 ((128:Int) + q21))),(IntKind.wrap .u8 (IntKind.wrap .i64 ((128:Int) + q23)))]:List (Int))) E ok qcK qcF rfl ⟨⟨_,rfl,rfl,(qaX (InR.wrap _ _))⟩,⟨_,rfl,rfl,(qaX (InR.wrap _ _))⟩,⟨_,rfl,rfl,(qaX (InR.wrap _ _))⟩,⟨_,rfl,rfl,(qaX (InR.wrap _ _))⟩,trivial⟩ rfl rfl rfl rfl fun c25 M26 a w E ok h27=>lv E ok (qlD Tryz.underlying66 Tryz.underlying5 Tryz.underlying9 rfl (BR.ofRow h27 0 rfl)) fun a E=>aw E rfl fun a E=>wp_ret ?_
 exact fin hF ⟨ok.drop,E.d,rz E rfl,(Nat.le_trans (Nat.le_of_eq qbQ) h27.form.2)⟩
def qbg (u:World) (m0:Mem) (S:Segs) (r:Int × Int) (a:Act) (w:World):Prop :=
 Ok u m0 S w ∧ a.defers = [] ∧ RVs Tryz.prog a w [.t 2 (.int .i64 r.1),.t 3 (.int .i64 r.2)] ∧ InR .i64 r.1 ∧ InR .i64 r.2
theorem qkq (N:Nat) (s_0:List UInt8) (ls_0:s_0.length ≤ LIMS) {r:Int × Int} (hF:qbe N s_0 = some r) (hG:Glob u) (ok:Ok u m0 S w) :
  Calls Tryz.prog 25 [vs s_0].toArray w fun e w'=>(e = .returned (.tuple [(.int .i64 r.1),(.int .i64 r.2)].toArray) ∧ Ok u m0 S w') ∧ InR .i64 r.1 ∧ InR .i64 r.2:=by
 unfold qbe at hF
 refine en (qbg u m0 S) r Tryz.func25 rfl rfl rfl (by rintro a w ⟨ok,hd,hrv,h0,h1⟩; exact qaT [.t 2 (.int .i64 r.1),.t 3 (.int .i64 r.2)] hd rfl hrv ⟨⟨rfl,ok⟩,h0,h1⟩) fun fin a E=>sg<|av E rfl fun a E=>aw E rfl fun a E=>sg<|mv E rfl fun a E=>bd hF fun c1 e2 hF=>lv E ok (qbb Tryz.underlying9 rfl rfl e2) fun a E=>lw E (qiH Tryz.underlying5 Tryz.underlying3 rfl (InR.byte c1) (by decide)) fun a E=>av E rfl fun a E=>aw E rfl fun a E=>wp_seq<|wp_block ?_
 refine sg<|mv E rfl fun a E=>lw E (qap rfl rfl) fun a E=>aw E rfl fun a E=>cf E rfl hF (fun c3 hF=>?_) fun c3 hF=>?_
 ·refine sg<|mv E rfl fun a E=>av E rfl fun a E=>aw E rfl fun a E=>wp_ret<|qak<|qad ?_
  exact fin hF ⟨ok,E.d,⟨rv_t E rfl,rv_t E rfl,trivial⟩,(InR.widen (InR.byte c1) (by decide)),(ir 1)⟩
 refine sg<|mv E rfl fun a E=>lw E (qaq rfl rfl) fun a E=>mv E rfl fun a E=>bu E 17 hF (fun c4 hF E=>?_) fun c4 hF E=>?_
 ·as_aux_lemma =>
   refine mv E rfl fun a E=>lw E (qap rfl rfl) fun a E=>pt E rfl rfl fun a E=>aw E rfl fun a E=>bd hF fun o5 hJ hF=>qaH (Q':=fun e a w=>(Sum.elim (fun b6=>e = .normal ∧ Ok u m0 (S) w ∧ Env 81 a [(0,vs s_0),(4,vi b6.1),(5,vi b6.2)] ∧ InR .i64 b6.1 ∧ InR .i64 b6.2) (fun b9=>e = .ret ∧ qbg u m0 S b9 a w)) o5) ?_ ?_
   ·as_aux_lemma =>
     have hF:=hJ
     refine cf E rfl hF (fun c10 hF=>?_) fun c10 hF=>?_
     ·refine qab<|mv E rfl fun a E=>lw E (qbI rfl rfl) fun a E=>av E rfl fun a E=>av E rfl fun a E=>wpList_nil ?_
      cases hF
      exact (sl ⟨rfl,⟨ok,E.keep [0,4,5],(InR.wrap _ _),(ir 2)⟩⟩)
     refine sg<|mv E rfl fun a E=>lw E (qaq rfl rfl) fun a E=>mv E rfl fun a E=>bw E 26 hF (fun c11 hF E=>?_) fun c11 hF E=>?_
     ·refine lsq E fun a E=>pf E rfl rfl fun a E=>aw E rfl fun a E=>c_if E rfl (fun h=>by cases h) (fun _=>?_)
      refine sg<|mv E rfl fun a E=>lw E (qaq rfl rfl) fun a E=>mv E rfl fun a E=>bw E 35 hF (fun c15 hF E=>?_) fun c15 hF E=>?_
      ·refine lsq E fun a E=>pf E rfl rfl fun a E=>aw E rfl fun a E=>c_if E rfl (fun h=>by cases h) (fun _=>?_)
       refine sg<|av E rfl fun a E=>aw E rfl fun a E=>wp_ret ?_
       have hret:qbg u m0 S (65533,1) a w:=⟨ok,E.d,⟨rv_t E rfl,rv_t E rfl,trivial⟩,(ir 65533),(ir 1)⟩
       cases hF
       exact (sr ⟨rfl,hret⟩)
      refine mv E rfl fun a E=>lw E (qap rfl rfl) fun a E=>pt E rfl rfl fun a E=>aw E rfl fun a E=>cf E rfl hF (fun c16 hF=>?_) fun c16 hF=>?_
      ·refine qab<|mv E rfl fun a E=>lw E (qbI rfl rfl) fun a E=>av E rfl fun a E=>av E rfl fun a E=>wpList_nil ?_
       cases hF
       exact (sl ⟨rfl,⟨ok,E.keep [0,4,5],(InR.wrap _ _),(ir 4)⟩⟩)
      refine sg<|av E rfl fun a E=>aw E rfl fun a E=>wp_ret ?_
      have hret:qbg u m0 S (65533,1) a w:=⟨ok,E.d,⟨rv_t E rfl,rv_t E rfl,trivial⟩,(ir 65533),(ir 1)⟩
      cases hF
      exact (sr ⟨rfl,hret⟩)
     refine mv E rfl fun a E=>lw E (qap rfl rfl) fun a E=>pt E rfl rfl fun a E=>aw E rfl fun a E=>cf E rfl hF (fun c12 hF=>?_) fun c12 hF=>?_
     ·refine qab<|mv E rfl fun a E=>lw E (qbI rfl rfl) fun a E=>av E rfl fun a E=>av E rfl fun a E=>wpList_nil ?_
      cases hF
      exact (sl ⟨rfl,⟨ok,E.keep [0,4,5],(InR.wrap _ _),(ir 3)⟩⟩)
     refine sg<|mv E rfl fun a E=>lw E (qaq rfl rfl) fun a E=>mv E rfl fun a E=>bw E 35 hF (fun c13 hF E=>?_) fun c13 hF E=>?_
     ·refine lsq E fun a E=>pf E rfl rfl fun a E=>aw E rfl fun a E=>c_if E rfl (fun h=>by cases h) (fun _=>?_)
      refine sg<|av E rfl fun a E=>aw E rfl fun a E=>wp_ret ?_
      have hret:qbg u m0 S (65533,1) a w:=⟨ok,E.d,⟨rv_t E rfl,rv_t E rfl,trivial⟩,(ir 65533),(ir 1)⟩
      cases hF
      exact (sr ⟨rfl,hret⟩)
     refine mv E rfl fun a E=>lw E (qap rfl rfl) fun a E=>pt E rfl rfl fun a E=>aw E rfl fun a E=>cf E rfl hF (fun c14 hF=>?_) fun c14 hF=>?_
     ·refine qab<|mv E rfl fun a E=>lw E (qbI rfl rfl) fun a E=>av E rfl fun a E=>av E rfl fun a E=>wpList_nil ?_
      cases hF
      exact (sl ⟨rfl,⟨ok,E.keep [0,4,5],(InR.wrap _ _),(ir 4)⟩⟩)
     refine sg<|av E rfl fun a E=>aw E rfl fun a E=>wp_ret ?_
     have hret:qbg u m0 S (65533,1) a w:=⟨ok,E.d,⟨rv_t E rfl,rv_t E rfl,trivial⟩,(ir 65533),(ir 1)⟩
     cases hF
     exact (sr ⟨rfl,hret⟩)
   intro e a w hO
   rcases o5 with o5 | o5
   rotate_left
   ·obtain ⟨rfl,hret⟩:=hO
    refine qak<|qad ?_
    exact fin hF hret
   have hF:=qcj hF
   obtain ⟨rfl,ok,E,r17,r18⟩:=hO
   refine qac<|qaa<|wp_seq<|sg<|mz E rfl rfl fun a E=>lw E (qbs Tryz.underlying9 rfl) fun a E=>lw E (qaK rfl rfl) fun a E=>wn<|cf E rfl hF (fun c19 hF=>?_) fun c19 hF=>?_
   ·refine sg<|av E rfl fun a E=>aw E rfl fun a E=>wp_ret<|qad ?_
    exact fin hF ⟨ok,E.d,⟨rv_t E rfl,rv_t E rfl,trivial⟩,(ir 65533),(ir 1)⟩
   refine wp_skip<|qaa<|wp_seq<|sg<|aw E rfl fun a E=>wp_block<|bd hF fun o22 hL hF=>qa7 _ (fun (s:Int × Int) a w=>Ok u m0 (S) w ∧ Env 81 a [(0,vs s_0),(4,vi s.1),(5,vi o5.2),(6,vi s.2)] ∧ InR .i64 s.1 ∧ InR .i64 s.2) (fun (b:(Int ⊕ (Int × Int))) e a w=>(Sum.elim (fun b48=>e = (.exit 1) ∧ Ok u m0 (S) w ∧ Env 81 a [(0,vs s_0),(4,vi b48),(5,vi o5.2)] ∧ InR .i64 b48) (fun b50=>e = .ret ∧ qbg u m0 S b50 a w)) b) ?_ ?_ N _ a w hL ⟨ok,E.keep [0,4,5,6],r17,(ir 1)⟩
   rotate_left
   ·as_aux_lemma =>
     intro e a w _ hO
     rcases o22 with o22 | o22
     rotate_left
     ·obtain ⟨rfl,hret⟩:=hO
      refine qak<|qad ?_
      exact fin hF hret
     have hF:=qcj hF
     obtain ⟨rfl,ok,E,r38⟩:=hO
     refine qa0<|qaa<|wp_seq<|wp_seq<|qce (by kernel_rfl) (by kernel_rfl) ok<|qv E (qai rfl) fun a E=>bd hF fun r39 e40 hF=>qd0 E qpo rfl (fun w ok=>(qe4 N o22 r38 e40 hG ok).mono (fun _ _ h=>h)) rfl rfl fun a E=>qv E (qbx rfl) fun a E=>qv E (qai rfl) fun a E=>bu E 71 hF (fun c41 hF E=>?_) fun c41 hF E=>?_
     ·refine qs E fun a E=>qs E fun a E=>qs E fun a E=>qs E fun a E=>qs E fun a E=>qs E fun a E=>qv E (qbV rfl rfl) fun a E=>wpQuiet_nil ?_
      intro w ok
      refine qaa<|c_if E rfl (fun _=>?_) (fun h=>by cases h)
      refine sg<|av E rfl fun a E=>aw E rfl fun a E=>wp_ret<|qad ?_
      exact fin hF ⟨ok,E.d,⟨rv_t E rfl,rv_t E rfl,trivial⟩,(ir 65533),(ir 1)⟩
     refine qv E (qai rfl) fun a E=>?_
     obtain ⟨r42,e43,hF⟩:=bnd hF
     obtain ⟨_,_,⟨_,_⟩,l44⟩:=Go.X.Calls.get (qdd N o22 r38 e43 hG ok)
     refine qd0 E qps rfl (fun w ok=>(qdd N o22 r38 e43 hG ok).mono (fun _ _ h=>h.1)) rfl rfl fun a E=>qv E (qai rfl) fun a E=>qv E (qai rfl) fun a E=>bd hF fun s45 e46 hF=>qv E (qdq Tryz.underlying9 e46 rfl rfl ⟨_,rfl⟩) fun a E=>qv E (qdj rfl rfl) fun a E=>qv E (qcD rfl rfl) fun a E=>wpQuiet_nil ?_
     intro w ok
     refine qaa<|cf E rfl hF (fun c47 hF=>?_) fun c47 hF=>?_
     ·refine sg<|av E rfl fun a E=>aw E rfl fun a E=>wp_ret<|qad ?_
      exact fin hF ⟨ok,E.d,⟨rv_t E rfl,rv_t E rfl,trivial⟩,(ir 65533),(ir 1)⟩
     refine wp_skip<|qaa<|sg<|mz E rfl rfl fun a E=>av E rfl fun a E=>av E rfl fun a E=>wn<|wp_ret ?_
     exact fin hF ⟨ok,E.d,⟨rv_t E rfl,rv_t E rfl,trivial⟩,r38,r18⟩
   rintro ⟨v25,v26⟩ a w r ⟨ok,E,r27,r28⟩ hF
   replace hF:qa5 N s_0 o5 v25 v26 = some r:=hF
   unfold qa5 at hF
   refine wp_seq<|sg<|mz E rfl rfl fun a E=>lw E (qap rfl rfl) fun a E=>wn<|cg E rfl hF (fun c29 hF=>?_) fun c29 hF=>?_
   ·refine wp_exit<|qaM ?_
    cases hF
    exact so (sl ⟨rfl,⟨ok,E.keep [0,4,5],r27⟩⟩)
   refine wp_skip<|qaa<|wp_seq<|wp_block<|wp_seq<|sg<|mv E rfl fun a E=>mv E rfl fun a E=>bd hF fun c30 e31 hF=>lv E ok (qbb Tryz.underlying9 rfl rfl e31) fun a E=>lw E (qap rfl rfl) fun a E=>mv E rfl fun a E=>bu E 54 hF (fun c32 hF E=>?_) fun c32 hF E=>?_
   ·refine lsz E fun a E=>pt E rfl rfl fun a E=>wn<|c_if E rfl (fun _=>?_) (fun h=>by cases h)
    refine sg<|av E rfl fun a E=>aw E rfl fun a E=>wp_ret<|qad<|qak<|qad ?_
    cases hF
    exact so (sr ⟨rfl,⟨ok,E.d,⟨rv_t E rfl,rv_t E rfl,trivial⟩,(ir 65533),(ir 1)⟩⟩)
   refine mz E rfl rfl fun a E=>bd hF fun c33 e34 hF=>lv E ok (qbb Tryz.underlying9 rfl rfl e34) fun a E=>lw E (qaK rfl rfl) fun a E=>pf E rfl rfl fun a E=>wn<|cf E rfl hF (fun c35 hF=>?_) fun c35 hF=>?_
   ·refine sg<|av E rfl fun a E=>aw E rfl fun a E=>wp_ret<|qad<|qak<|qad ?_
    cases hF
    exact so (sr ⟨rfl,⟨ok,E.d,⟨rv_t E rfl,rv_t E rfl,trivial⟩,(ir 65533),(ir 1)⟩⟩)
   refine wp_skip<|qaa<|qab<|mv E rfl fun a E=>lw E (qnL rfl rfl) fun a E=>mz E rfl rfl fun a E=>bd hF fun c36 e37 hF=>lv E ok (qbb Tryz.underlying9 rfl rfl e37) fun a E=>lw E (qiH Tryz.underlying5 Tryz.underlying3 rfl (InR.byte c36) (by decide)) fun a E=>lw E (qaF rfl rfl) fun a E=>lw E (qbI rfl rfl) fun a E=>av E rfl fun a E=>wpList_nil<|qac<|qaa ?_
   refine qab<|mv E rfl fun a E=>lw E (qaE rfl rfl (InR.inc r28 r18 c29)) fun a E=>av E rfl fun a E=>wpList_nil ?_
   cases hF
   exact qao ⟨ok,E.keep [0,4,5,6],(InR.wrap _ _),(InR.inc r28 r18 c29)⟩
 refine lsq E fun a E=>pf E rfl rfl fun a E=>aw E rfl fun a E=>c_if E rfl (fun h=>by cases h) (fun _=>?_)
 refine sg<|mv E rfl fun a E=>lw E (qaq rfl rfl) fun a E=>mv E rfl fun a E=>bw E 26 hF (fun c51 hF E=>?_) fun c51 hF E=>?_
 ·as_aux_lemma =>
   refine lsq E fun a E=>pf E rfl rfl fun a E=>aw E rfl fun a E=>c_if E rfl (fun h=>by cases h) (fun _=>?_)
   refine sg<|mv E rfl fun a E=>lw E (qaq rfl rfl) fun a E=>mv E rfl fun a E=>bw E 35 hF (fun c94 hF E=>?_) fun c94 hF E=>?_
   ·refine lsq E fun a E=>pf E rfl rfl fun a E=>aw E rfl fun a E=>c_if E rfl (fun h=>by cases h) (fun _=>?_)
    refine sg<|av E rfl fun a E=>aw E rfl fun a E=>wp_ret<|qak<|qad ?_
    exact fin hF ⟨ok,E.d,⟨rv_t E rfl,rv_t E rfl,trivial⟩,(ir 65533),(ir 1)⟩
   refine mv E rfl fun a E=>lw E (qap rfl rfl) fun a E=>pt E rfl rfl fun a E=>aw E rfl fun a E=>cg E rfl hF (fun c95 hF=>?_) fun c95 hF=>?_
   ·refine sg<|av E rfl fun a E=>aw E rfl fun a E=>wp_ret<|qak<|qad ?_
    exact fin hF ⟨ok,E.d,⟨rv_t E rfl,rv_t E rfl,trivial⟩,(ir 65533),(ir 1)⟩
   refine qab<|mv E rfl fun a E=>lw E (qbI rfl rfl) fun a E=>av E rfl fun a E=>av E rfl fun a E=>wpList_nil<|qac<|qaa<|wp_seq<|sg<|mz E rfl rfl fun a E=>lw E (qbs Tryz.underlying9 rfl) fun a E=>lw E (qaK rfl rfl) fun a E=>wn<|cf E rfl hF (fun c96 hF=>?_) fun c96 hF=>?_
   ·refine sg<|av E rfl fun a E=>aw E rfl fun a E=>wp_ret<|qad ?_
    exact fin hF ⟨ok,E.d,⟨rv_t E rfl,rv_t E rfl,trivial⟩,(ir 65533),(ir 1)⟩
   refine wp_skip<|qaa<|wp_seq<|sg<|aw E rfl fun a E=>wp_block<|bd hF fun o99 hL hF=>qa7 _ (fun (s:Int × Int) a w=>Ok u m0 (S) w ∧ Env 81 a [(0,vs s_0),(4,vi s.1),(5,vi 4),(6,vi s.2)] ∧ InR .i64 s.1 ∧ InR .i64 s.2) (fun (b:(Int ⊕ (Int × Int))) e a w=>(Sum.elim (fun b125=>e = (.exit 1) ∧ Ok u m0 (S) w ∧ Env 81 a [(0,vs s_0),(4,vi b125),(5,vi 4)] ∧ InR .i64 b125) (fun b127=>e = .ret ∧ qbg u m0 S b127 a w)) b) ?_ ?_ N _ a w hL ⟨ok,E.keep [0,4,5,6],(InR.wrap _ _),(ir 1)⟩
   rotate_left
   ·as_aux_lemma =>
     intro e a w _ hO
     rcases o99 with o99 | o99
     rotate_left
     ·obtain ⟨rfl,hret⟩:=hO
      refine qak<|qad ?_
      exact fin hF hret
     have hF:=qcj hF
     obtain ⟨rfl,ok,E,r115⟩:=hO
     refine qa0<|qaa<|wp_seq<|wp_seq<|qce (by kernel_rfl) (by kernel_rfl) ok<|qv E (qai rfl) fun a E=>bd hF fun r116 e117 hF=>qd0 E qpo rfl (fun w ok=>(qe4 N o99 r115 e117 hG ok).mono (fun _ _ h=>h)) rfl rfl fun a E=>qv E (qbx rfl) fun a E=>qv E (qai rfl) fun a E=>bu E 71 hF (fun c118 hF E=>?_) fun c118 hF E=>?_
     ·refine qs E fun a E=>qs E fun a E=>qs E fun a E=>qs E fun a E=>qs E fun a E=>qs E fun a E=>qv E (qbV rfl rfl) fun a E=>wpQuiet_nil ?_
      intro w ok
      refine qaa<|c_if E rfl (fun _=>?_) (fun h=>by cases h)
      refine sg<|av E rfl fun a E=>aw E rfl fun a E=>wp_ret<|qad ?_
      exact fin hF ⟨ok,E.d,⟨rv_t E rfl,rv_t E rfl,trivial⟩,(ir 65533),(ir 1)⟩
     refine qv E (qai rfl) fun a E=>?_
     obtain ⟨r119,e120,hF⟩:=bnd hF
     obtain ⟨_,_,⟨_,_⟩,l121⟩:=Go.X.Calls.get (qdd N o99 r115 e120 hG ok)
     refine qd0 E qps rfl (fun w ok=>(qdd N o99 r115 e120 hG ok).mono (fun _ _ h=>h.1)) rfl rfl fun a E=>qv E (qai rfl) fun a E=>qv E (qai rfl) fun a E=>bd hF fun s122 e123 hF=>qv E (qdq Tryz.underlying9 e123 rfl rfl ⟨_,rfl⟩) fun a E=>qv E (qdj rfl rfl) fun a E=>qv E (qcD rfl rfl) fun a E=>wpQuiet_nil ?_
     intro w ok
     refine qaa<|cf E rfl hF (fun c124 hF=>?_) fun c124 hF=>?_
     ·refine sg<|av E rfl fun a E=>aw E rfl fun a E=>wp_ret<|qad ?_
      exact fin hF ⟨ok,E.d,⟨rv_t E rfl,rv_t E rfl,trivial⟩,(ir 65533),(ir 1)⟩
     refine wp_skip<|qaa<|sg<|mz E rfl rfl fun a E=>av E rfl fun a E=>av E rfl fun a E=>wn<|wp_ret ?_
     exact fin hF ⟨ok,E.d,⟨rv_t E rfl,rv_t E rfl,trivial⟩,r115,(ir 4)⟩
   rintro ⟨v102,v103⟩ a w r ⟨ok,E,r104,r105⟩ hF
   replace hF:qe1 N s_0 v102 v103 = some r:=hF
   unfold qe1 at hF
   refine wp_seq<|sg<|mz E rfl rfl fun a E=>lw E (qap rfl rfl) fun a E=>wn<|cg E rfl hF (fun c106 hF=>?_) fun c106 hF=>?_
   ·refine wp_exit<|qaM ?_
    cases hF
    exact so (sl ⟨rfl,⟨ok,E.keep [0,4,5],r104⟩⟩)
   refine wp_skip<|qaa<|wp_seq<|wp_block<|wp_seq<|sg<|mv E rfl fun a E=>mv E rfl fun a E=>bd hF fun c107 e108 hF=>lv E ok (qbb Tryz.underlying9 rfl rfl e108) fun a E=>lw E (qap rfl rfl) fun a E=>mv E rfl fun a E=>bu E 54 hF (fun c109 hF E=>?_) fun c109 hF E=>?_
   ·refine lsz E fun a E=>pt E rfl rfl fun a E=>wn<|c_if E rfl (fun _=>?_) (fun h=>by cases h)
    refine sg<|av E rfl fun a E=>aw E rfl fun a E=>wp_ret<|qad<|qak<|qad ?_
    cases hF
    exact so (sr ⟨rfl,⟨ok,E.d,⟨rv_t E rfl,rv_t E rfl,trivial⟩,(ir 65533),(ir 1)⟩⟩)
   refine mz E rfl rfl fun a E=>bd hF fun c110 e111 hF=>lv E ok (qbb Tryz.underlying9 rfl rfl e111) fun a E=>lw E (qaK rfl rfl) fun a E=>pf E rfl rfl fun a E=>wn<|cf E rfl hF (fun c112 hF=>?_) fun c112 hF=>?_
   ·refine sg<|av E rfl fun a E=>aw E rfl fun a E=>wp_ret<|qad<|qak<|qad ?_
    cases hF
    exact so (sr ⟨rfl,⟨ok,E.d,⟨rv_t E rfl,rv_t E rfl,trivial⟩,(ir 65533),(ir 1)⟩⟩)
   refine wp_skip<|qaa<|qab<|mv E rfl fun a E=>lw E (qnL rfl rfl) fun a E=>mz E rfl rfl fun a E=>bd hF fun c113 e114 hF=>lv E ok (qbb Tryz.underlying9 rfl rfl e114) fun a E=>lw E (qiH Tryz.underlying5 Tryz.underlying3 rfl (InR.byte c113) (by decide)) fun a E=>lw E (qaF rfl rfl) fun a E=>lw E (qbI rfl rfl) fun a E=>av E rfl fun a E=>wpList_nil<|qac<|qaa ?_
   refine qab<|mv E rfl fun a E=>lw E (qaE rfl rfl (InR.inc r105 (ir 4) c106)) fun a E=>av E rfl fun a E=>wpList_nil ?_
   cases hF
   exact qao ⟨ok,E.keep [0,4,5,6],(InR.wrap _ _),(InR.inc r105 (ir 4) c106)⟩
 refine mv E rfl fun a E=>lw E (qap rfl rfl) fun a E=>pt E rfl rfl fun a E=>aw E rfl fun a E=>bd hF fun o52 hJ hF=>qaH (Q':=fun e a w=>(Sum.elim (fun b53=>e = .normal ∧ Ok u m0 (S) w ∧ Env 81 a [(0,vs s_0),(4,vi b53.1),(5,vi b53.2)] ∧ InR .i64 b53.1 ∧ InR .i64 b53.2) (fun b56=>e = .ret ∧ qbg u m0 S b56 a w)) o52) ?_ ?_
 ·have hF:=hJ
  refine cf E rfl hF (fun c57 hF=>?_) fun c57 hF=>?_
  ·refine qab<|mv E rfl fun a E=>lw E (qbI rfl rfl) fun a E=>av E rfl fun a E=>av E rfl fun a E=>wpList_nil ?_
   cases hF
   exact (sl ⟨rfl,⟨ok,E.keep [0,4,5],(InR.wrap _ _),(ir 3)⟩⟩)
  refine sg<|mv E rfl fun a E=>lw E (qaq rfl rfl) fun a E=>mv E rfl fun a E=>bw E 35 hF (fun c58 hF E=>?_) fun c58 hF E=>?_
  ·refine lsq E fun a E=>pf E rfl rfl fun a E=>aw E rfl fun a E=>c_if E rfl (fun h=>by cases h) (fun _=>?_)
   refine sg<|av E rfl fun a E=>aw E rfl fun a E=>wp_ret ?_
   have hret:qbg u m0 S (65533,1) a w:=⟨ok,E.d,⟨rv_t E rfl,rv_t E rfl,trivial⟩,(ir 65533),(ir 1)⟩
   cases hF
   exact (sr ⟨rfl,hret⟩)
  refine mv E rfl fun a E=>lw E (qap rfl rfl) fun a E=>pt E rfl rfl fun a E=>aw E rfl fun a E=>cf E rfl hF (fun c59 hF=>?_) fun c59 hF=>?_
  ·refine qab<|mv E rfl fun a E=>lw E (qbI rfl rfl) fun a E=>av E rfl fun a E=>av E rfl fun a E=>wpList_nil ?_
   cases hF
   exact (sl ⟨rfl,⟨ok,E.keep [0,4,5],(InR.wrap _ _),(ir 4)⟩⟩)
  refine sg<|av E rfl fun a E=>aw E rfl fun a E=>wp_ret ?_
  have hret:qbg u m0 S (65533,1) a w:=⟨ok,E.d,⟨rv_t E rfl,rv_t E rfl,trivial⟩,(ir 65533),(ir 1)⟩
  cases hF
  exact (sr ⟨rfl,hret⟩)
 intro e a w hO
 rcases o52 with o52 | o52
 rotate_left
 ·obtain ⟨rfl,hret⟩:=hO
  refine qak<|qad ?_
  exact fin hF hret
 have hF:=qcj hF
 obtain ⟨rfl,ok,E,r60,r61⟩:=hO
 refine qac<|qaa<|wp_seq<|sg<|mz E rfl rfl fun a E=>lw E (qbs Tryz.underlying9 rfl) fun a E=>lw E (qaK rfl rfl) fun a E=>wn<|cf E rfl hF (fun c62 hF=>?_) fun c62 hF=>?_
 ·refine sg<|av E rfl fun a E=>aw E rfl fun a E=>wp_ret<|qad ?_
  exact fin hF ⟨ok,E.d,⟨rv_t E rfl,rv_t E rfl,trivial⟩,(ir 65533),(ir 1)⟩
 refine wp_skip<|qaa<|wp_seq<|sg<|aw E rfl fun a E=>wp_block<|bd hF fun o65 hL hF=>qa7 _ (fun (s:Int × Int) a w=>Ok u m0 (S) w ∧ Env 81 a [(0,vs s_0),(4,vi s.1),(5,vi o52.2),(6,vi s.2)] ∧ InR .i64 s.1 ∧ InR .i64 s.2) (fun (b:(Int ⊕ (Int × Int))) e a w=>(Sum.elim (fun b91=>e = (.exit 1) ∧ Ok u m0 (S) w ∧ Env 81 a [(0,vs s_0),(4,vi b91),(5,vi o52.2)] ∧ InR .i64 b91) (fun b93=>e = .ret ∧ qbg u m0 S b93 a w)) b) ?_ ?_ N _ a w hL ⟨ok,E.keep [0,4,5,6],r60,(ir 1)⟩
 rotate_left
 ·as_aux_lemma =>
   intro e a w _ hO
   rcases o65 with o65 | o65
   rotate_left
   ·obtain ⟨rfl,hret⟩:=hO
    refine qak<|qad ?_
    exact fin hF hret
   have hF:=qcj hF
   obtain ⟨rfl,ok,E,r81⟩:=hO
   refine qa0<|qaa<|wp_seq<|wp_seq<|qce (by kernel_rfl) (by kernel_rfl) ok<|qv E (qai rfl) fun a E=>bd hF fun r82 e83 hF=>qd0 E qpo rfl (fun w ok=>(qe4 N o65 r81 e83 hG ok).mono (fun _ _ h=>h)) rfl rfl fun a E=>qv E (qbx rfl) fun a E=>qv E (qai rfl) fun a E=>bu E 71 hF (fun c84 hF E=>?_) fun c84 hF E=>?_
   ·refine qs E fun a E=>qs E fun a E=>qs E fun a E=>qs E fun a E=>qs E fun a E=>qs E fun a E=>qv E (qbV rfl rfl) fun a E=>wpQuiet_nil ?_
    intro w ok
    refine qaa<|c_if E rfl (fun _=>?_) (fun h=>by cases h)
    refine sg<|av E rfl fun a E=>aw E rfl fun a E=>wp_ret<|qad ?_
    exact fin hF ⟨ok,E.d,⟨rv_t E rfl,rv_t E rfl,trivial⟩,(ir 65533),(ir 1)⟩
   refine qv E (qai rfl) fun a E=>?_
   obtain ⟨r85,e86,hF⟩:=bnd hF
   obtain ⟨_,_,⟨_,_⟩,l87⟩:=Go.X.Calls.get (qdd N o65 r81 e86 hG ok)
   refine qd0 E qps rfl (fun w ok=>(qdd N o65 r81 e86 hG ok).mono (fun _ _ h=>h.1)) rfl rfl fun a E=>qv E (qai rfl) fun a E=>qv E (qai rfl) fun a E=>bd hF fun s88 e89 hF=>qv E (qdq Tryz.underlying9 e89 rfl rfl ⟨_,rfl⟩) fun a E=>qv E (qdj rfl rfl) fun a E=>qv E (qcD rfl rfl) fun a E=>wpQuiet_nil ?_
   intro w ok
   refine qaa<|cf E rfl hF (fun c90 hF=>?_) fun c90 hF=>?_
   ·refine sg<|av E rfl fun a E=>aw E rfl fun a E=>wp_ret<|qad ?_
    exact fin hF ⟨ok,E.d,⟨rv_t E rfl,rv_t E rfl,trivial⟩,(ir 65533),(ir 1)⟩
   refine wp_skip<|qaa<|sg<|mz E rfl rfl fun a E=>av E rfl fun a E=>av E rfl fun a E=>wn<|wp_ret ?_
   exact fin hF ⟨ok,E.d,⟨rv_t E rfl,rv_t E rfl,trivial⟩,r81,r61⟩
 rintro ⟨v68,v69⟩ a w r ⟨ok,E,r70,r71⟩ hF
 replace hF:qeZ N s_0 o52 v68 v69 = some r:=hF
 unfold qeZ at hF
 refine wp_seq<|sg<|mz E rfl rfl fun a E=>lw E (qap rfl rfl) fun a E=>wn<|cg E rfl hF (fun c72 hF=>?_) fun c72 hF=>?_
 ·refine wp_exit<|qaM ?_
  cases hF
  exact so (sl ⟨rfl,⟨ok,E.keep [0,4,5],r70⟩⟩)
 refine wp_skip<|qaa<|wp_seq<|wp_block<|wp_seq<|sg<|mv E rfl fun a E=>mv E rfl fun a E=>bd hF fun c73 e74 hF=>lv E ok (qbb Tryz.underlying9 rfl rfl e74) fun a E=>lw E (qap rfl rfl) fun a E=>mv E rfl fun a E=>bu E 54 hF (fun c75 hF E=>?_) fun c75 hF E=>?_
 ·refine lsz E fun a E=>pt E rfl rfl fun a E=>wn<|c_if E rfl (fun _=>?_) (fun h=>by cases h)
  refine sg<|av E rfl fun a E=>aw E rfl fun a E=>wp_ret<|qad<|qak<|qad ?_
  cases hF
  exact so (sr ⟨rfl,⟨ok,E.d,⟨rv_t E rfl,rv_t E rfl,trivial⟩,(ir 65533),(ir 1)⟩⟩)
 refine mz E rfl rfl fun a E=>bd hF fun c76 e77 hF=>lv E ok (qbb Tryz.underlying9 rfl rfl e77) fun a E=>lw E (qaK rfl rfl) fun a E=>pf E rfl rfl fun a E=>wn<|cf E rfl hF (fun c78 hF=>?_) fun c78 hF=>?_
 ·refine sg<|av E rfl fun a E=>aw E rfl fun a E=>wp_ret<|qad<|qak<|qad ?_
  cases hF
  exact so (sr ⟨rfl,⟨ok,E.d,⟨rv_t E rfl,rv_t E rfl,trivial⟩,(ir 65533),(ir 1)⟩⟩)
 refine wp_skip<|qaa<|qab<|mv E rfl fun a E=>lw E (qnL rfl rfl) fun a E=>mz E rfl rfl fun a E=>bd hF fun c79 e80 hF=>lv E ok (qbb Tryz.underlying9 rfl rfl e80) fun a E=>lw E (qiH Tryz.underlying5 Tryz.underlying3 rfl (InR.byte c79) (by decide)) fun a E=>lw E (qaF rfl rfl) fun a E=>lw E (qbI rfl rfl) fun a E=>av E rfl fun a E=>wpList_nil<|qac<|qaa ?_
 refine qab<|mv E rfl fun a E=>lw E (qaE rfl rfl (InR.inc r71 r61 c72)) fun a E=>av E rfl fun a E=>wpList_nil ?_
 cases hF
 exact qao ⟨ok,E.keep [0,4,5,6],(InR.wrap _ _),(InR.inc r71 r61 c72)⟩
def qjq (u:World) (m0:Mem) (S:Segs) (r:(List (Int))) (a:Act) (w:World):Prop :=
 ∃ m1 v0,m0.le m1 ∧ Ok u m1 S w ∧ a.defers = [] ∧ RVs Tryz.prog a w [.t 2 v0] ∧ (pL 1 (pI .i64)) m1 [v0] r
theorem qeO (N:Nat) (s_0:List UInt8) (ls_0:s_0.length ≤ LIMS) {r:(List (Int))} (hF:qcd N s_0 = some r) (hG:Glob u) (ok:Ok u m0 S w) :
  Calls Tryz.prog 11 [vs s_0].toArray w fun e w'=>∃ m1 v0,e = .returned v0 ∧ m0.le m1 ∧ Ok u m1 S w' ∧ (pL 1 (pI .i64)) m1 [v0] r:=by
 have le_m0:=Mem.le.refl m0
 unfold qcd at hF
 refine en (qjq u m0 S) r Tryz.func11 rfl rfl rfl (fun _ _ h=>rc h fun _=>rfl) fun fin a E=>sg<|aw E rfl fun a E=>sg<|aw E rfl fun a E=>wp_seq<|wp_block ?_
 obtain ⟨M6,ok,h7⟩:=qcY (e:=3) (k:=1) (R:=(pI .i64)) ok
 refine bd hF fun o8 hL hF=>qa7 _ (fun (s:(List UInt8) × (List (Int))) a w=>∃ c10 M11,Ok u m0 (M11 :: S) w ∧ Env 22 a [(0,vs s.1),(3,c10)] ∧ s.1.length ≤ LIMS ∧ ORow 3 1 (pI .i64) m0 c10 s.2 M11) (fun (b:((List (Int)))) e a w=>e = (.exit 0) ∧ ∃ c39 M40,Ok u m0 (M40 :: S) w ∧ Env 22 a [(3,c39)] ∧ ORow 3 1 (pI .i64) m0 c39 b M40) ?_ ?_ N _ a w hL ⟨(Value.slice none 0 0),M6,ok,E.keep [0,3],ls_0,h7⟩
 rotate_left
 ·intro e a w _ hO
  obtain ⟨rfl,c34,M35,ok,E,h36⟩:=hO
  refine qa0<|qaa<|sg<|mv E rfl fun a E=>aw E rfl fun a E=>wp_ret ?_
  obtain ⟨m37,hle,ok,hfz⟩:=(ok.frs 0 rfl).freeze
  have h38:=ORow.froz (mI .i64) h36 hle hfz (by decide)
  have le_m0:=le_m0.trans hle
  exact fin hF ⟨m37,c34,le_m0,ok,E.d,rz E rfl,h38⟩
 rintro ⟨v13,v14⟩ a w r ⟨c16,M17,ok,E,l15,h18⟩ hF
 replace hF:qb9 N v13 v14 = some r:=hF
 unfold qb9 at hF
 refine wp_seq<|sg<|mv E rfl fun a E=>lw E (qbs Tryz.underlying9 rfl) fun a E=>lw E (qaK rfl rfl) fun a E=>wn<|cg E rfl hF (fun c19 hF=>?_) fun c19 hF=>?_
 ·refine wp_exit<|qaM ?_
  cases hF
  exact so (⟨rfl,⟨c16,M17,ok,E.keep [3],h18⟩⟩)
 refine wp_skip<|qaa<|wp_block<|sg<|mv E rfl fun a E=>bd hF fun r20 e21 hF=>qaf E qty rfl (qkq N v13 l15 e21 hG ok) rfl rfl ?_
 rintro _ w ⟨⟨rfl,ok⟩,r22,r23⟩
 refine ⟨_,rfl,fun a E=>?_⟩
 refine mv E rfl fun a E=>lw E (qav rfl rfl) fun a E=>lw E (qav rfl rfl) fun a E=>av E rfl fun a E=>aw E rfl fun a E=>sg<|mz E rfl rfl fun a E=>qa6 (R:=(pI .i64)) (xo:=[.tmp 15]) (xs:=([r20.1]:List (Int))) E ok qat qbn rfl ⟨⟨_,rfl,rfl,(qaX r22)⟩,trivial⟩ rfl rfl rfl rfl fun c24 M25 a w E ok h26=>bd hF fun l27 e28 hF=>qb0 (R:=(pI .i64)) E ok 1 (mI .i64) qat Tryz.underlying26 rfl h18 (qbf.ofRow h26 0 rfl ok) e28 ⟨_,qbn,rfl⟩ rfl rfl rfl rfl fun c29 M30 a w E ok h31=>aw E rfl fun a E=>qab<|mz E rfl rfl fun a E=>bd hF fun s32 e33 hF=>lw E (qdq Tryz.underlying9 e33 rfl ⟨_,rfl⟩ rfl) fun a E=>av E rfl fun a E=>wpList_nil<|qac ?_
 cases hF
 exact qao ⟨c29,M30,(ok.pk 2 [1] rfl (by decide)),E.keep [0,3],(Nat.le_trans (qeW e33) l15),h31⟩
end Go.Proofs.YthhieiabfpkaaaaGreatDoor
namespace Go.Proofs.YthhieiabfpkaaaaGreatDoor
open Go.X
def qbr (_N:Nat) (c_0:Int):Option Int :=
 bif (decide (c_0 ≥ 8294)) then
  bif (decide (c_0 ≤ 8296)) then
   some 4
  else
   bif (c_0 == 8297) then
    some 5
   else
    (show Option Bool from
     bif (decide (c_0 ≥ 1424)) then
      bif (decide (c_0 ≤ 2303)) then
       some true
      else
       bif (decide (c_0 ≥ 64285)) then
        some (decide (c_0 ≤ 65276))
       else
        some false
     else
      bif (decide (c_0 ≥ 64285)) then
       some (decide (c_0 ≤ 65276))
      else
       some false).bind fun o4 =>
    bif o4 then
     some 2
    else
     bif (decide (c_0 ≥ 48)) then
      bif (decide (c_0 ≤ 57)) then
       some 3
      else
       (show Option Bool from
        bif (decide (c_0 ≥ 65)) then
         bif (decide (c_0 ≤ 90)) then
          some true
         else
          bif (decide (c_0 ≥ 97)) then
           bif (decide (c_0 ≤ 122)) then
            some true
           else
            bif (decide (c_0 ≥ 192)) then
             bif (decide (c_0 < 8192)) then
              some true
             else
              some (decide (c_0 > 12287))
            else
             some false
          else
           bif (decide (c_0 ≥ 192)) then
            bif (decide (c_0 < 8192)) then
             some true
            else
             some (decide (c_0 > 12287))
           else
            some false
        else
         bif (decide (c_0 ≥ 97)) then
          bif (decide (c_0 ≤ 122)) then
           some true
          else
           bif (decide (c_0 ≥ 192)) then
            bif (decide (c_0 < 8192)) then
             some true
            else
             some (decide (c_0 > 12287))
           else
            some false
         else
          bif (decide (c_0 ≥ 192)) then
           bif (decide (c_0 < 8192)) then
            some true
           else
            some (decide (c_0 > 12287))
          else
           some false).bind fun o12 =>
       bif o12 then
        some 1
       else
        some 0
     else
      (show Option Bool from
       bif (decide (c_0 ≥ 65)) then
        bif (decide (c_0 ≤ 90)) then
         some true
        else
         bif (decide (c_0 ≥ 97)) then
          bif (decide (c_0 ≤ 122)) then
           some true
          else
           bif (decide (c_0 ≥ 192)) then
            bif (decide (c_0 < 8192)) then
             some true
            else
             some (decide (c_0 > 12287))
           else
            some false
         else
          bif (decide (c_0 ≥ 192)) then
           bif (decide (c_0 < 8192)) then
            some true
           else
            some (decide (c_0 > 12287))
          else
           some false
       else
        bif (decide (c_0 ≥ 97)) then
         bif (decide (c_0 ≤ 122)) then
          some true
         else
          bif (decide (c_0 ≥ 192)) then
           bif (decide (c_0 < 8192)) then
            some true
           else
            some (decide (c_0 > 12287))
          else
           some false
        else
         bif (decide (c_0 ≥ 192)) then
          bif (decide (c_0 < 8192)) then
           some true
          else
           some (decide (c_0 > 12287))
         else
          some false).bind fun o28 =>
      bif o28 then
       some 1
      else
       some 0
 else
  bif (c_0 == 8297) then
   some 5
  else
   (show Option Bool from
    bif (decide (c_0 ≥ 1424)) then
     bif (decide (c_0 ≤ 2303)) then
      some true
     else
      bif (decide (c_0 ≥ 64285)) then
       some (decide (c_0 ≤ 65276))
      else
       some false
    else
     bif (decide (c_0 ≥ 64285)) then
      some (decide (c_0 ≤ 65276))
     else
      some false).bind fun o45 =>
   bif o45 then
    some 2
   else
    bif (decide (c_0 ≥ 48)) then
     bif (decide (c_0 ≤ 57)) then
      some 3
     else
      (show Option Bool from
       bif (decide (c_0 ≥ 65)) then
        bif (decide (c_0 ≤ 90)) then
         some true
        else
         bif (decide (c_0 ≥ 97)) then
          bif (decide (c_0 ≤ 122)) then
           some true
          else
           bif (decide (c_0 ≥ 192)) then
            bif (decide (c_0 < 8192)) then
             some true
            else
             some (decide (c_0 > 12287))
           else
            some false
         else
          bif (decide (c_0 ≥ 192)) then
           bif (decide (c_0 < 8192)) then
            some true
           else
            some (decide (c_0 > 12287))
          else
           some false
       else
        bif (decide (c_0 ≥ 97)) then
         bif (decide (c_0 ≤ 122)) then
          some true
         else
          bif (decide (c_0 ≥ 192)) then
           bif (decide (c_0 < 8192)) then
            some true
           else
            some (decide (c_0 > 12287))
          else
           some false
        else
         bif (decide (c_0 ≥ 192)) then
          bif (decide (c_0 < 8192)) then
           some true
          else
           some (decide (c_0 > 12287))
         else
          some false).bind fun o53 =>
      bif o53 then
       some 1
      else
       some 0
    else
     (show Option Bool from
      bif (decide (c_0 ≥ 65)) then
       bif (decide (c_0 ≤ 90)) then
        some true
       else
        bif (decide (c_0 ≥ 97)) then
         bif (decide (c_0 ≤ 122)) then
          some true
         else
          bif (decide (c_0 ≥ 192)) then
           bif (decide (c_0 < 8192)) then
            some true
           else
            some (decide (c_0 > 12287))
          else
           some false
        else
         bif (decide (c_0 ≥ 192)) then
          bif (decide (c_0 < 8192)) then
           some true
          else
           some (decide (c_0 > 12287))
         else
          some false
      else
       bif (decide (c_0 ≥ 97)) then
        bif (decide (c_0 ≤ 122)) then
         some true
        else
         bif (decide (c_0 ≥ 192)) then
          bif (decide (c_0 < 8192)) then
           some true
          else
           some (decide (c_0 > 12287))
         else
          some false
       else
        bif (decide (c_0 ≥ 192)) then
         bif (decide (c_0 < 8192)) then
          some true
         else
          some (decide (c_0 > 12287))
        else
         some false).bind fun o69 =>
     bif o69 then
      some 1
     else
      some 0
def qbE (N:Nat) (l_0:List (Int)) (open_6:Int) (i_7:Int):Option ((Int × Int) ⊕ ((Unit ⊕ Int))) :=
 bif (decide (i_7 < (l_0.length:Int))) then
  (idx l_0 i_7).bind fun x11 =>
  (qbr N x11).bind fun r21 =>
  (show Option Int from
   bif (r21 == 4) then
    some (IntKind.wrap .i64 (open_6 + 1))
   else
    some open_6).bind fun o24 =>
  (idx l_0 i_7).bind fun x28 =>
  (qbr N x28).bind fun r38 =>
  bif (r38 == 5) then
   bif ((IntKind.wrap .i64 (o24 - 1)) == 0) then
    some (.inr (.inr i_7))
   else
    some (.inl ((IntKind.wrap .i64 (o24 - 1)),(i_7 + 1)))
  else
   some (.inl (o24,(i_7 + 1)))
 else
  some (.inr (.inl ()))
def qdL (N:Nat) (l_0:List (Int)) (at_1:Int):Option Int :=
 (iter (fun s=>qbE N l_0 s.1 s.2) N (0,at_1)).bind fun o3 =>
 Sum.elim (fun _o3 =>
  some (l_0.length:Int))
 (fun o3 =>
  some o3) o3
def qcp (r_calqueref23_depth:List (Int) → Int → Int → Option Int) (N:Nat) (l_0:List (Int)) (to_2:Int) (n_6:Int) (i_7:Int):Option ((Int × Int) ⊕ Int) :=
 bif (decide (i_7 < to_2)) then
  (idx l_0 i_7).bind fun x11 =>
  (qbr N x11).bind fun r21 =>
  bif (r21 == 4) then
   (qdL N l_0 i_7).bind fun r25 =>
   (r_calqueref23_depth l_0 (i_7 + 1) (min r25 to_2)).bind fun r28 =>
   some (.inl ((max n_6 (IntKind.wrap .i64 ((1:Int) + r28))),(IntKind.wrap .i64 ((min r25 to_2) + 1))))
  else
   some (.inl (n_6,(i_7 + 1)))
 else
  some (.inr n_6)
def qcG (r_calqueref23_depth:List (Int) → Int → Int → Option Int) (N:Nat) (l_0:List (Int)) (from_1:Int) (to_2:Int):Option Int :=
 (iter (fun s=>qcp r_calqueref23_depth N l_0 to_2 s.1 s.2) N (0,from_1)).bind fun o3 =>
 some o3
def qcV:Nat → (List (Int) → Int → Int → Option Int)
 | 0=>(fun _ _ _=>none)
 | N + 1=>(qcG (qcV N) N)
def qdf (N:Nat):List (Int) → Int → Int → Option Int:=(qcV N)
def qde (N:Nat) (s_0:List UInt8):Option Int :=
 (qcd N s_0).bind fun r1 =>
 (qdf N r1 0 (r1.length:Int)).bind fun r6 =>
 some r6
def qbU (_N:Nat) (a_0:List (Int)) (b_1:List (Int)) (i_5:Int):Option (Int ⊕ ((Unit ⊕ Bool))) :=
 bif (decide (i_5 < (a_0.length:Int))) then
  (idx a_0 i_5).bind fun x8 =>
  (idx b_1 i_5).bind fun x18 =>
  bif (x8 != x18) then
   some (.inr (.inr false))
  else
   some (.inl (i_5 + 1))
 else
  some (.inr (.inl ()))
def qc5 (N:Nat) (a_0:List (Int)) (b_1:List (Int)):Option Bool :=
 bif ((a_0.length:Int) != (b_1.length:Int)) then
  some false
 else
  (iter (fun s=>qbU N a_0 b_1 s) N 0).bind fun o3 =>
  Sum.elim (fun _o3 =>
   some true)
  (fun o3 =>
   some o3) o3
end Go.Proofs.YthhieiabfpkaaaaGreatDoor
namespace Go.Proofs.YthhieiabfpkaaaaGreatDoor
open Go.X
variable {u:World} {m0:Mem} {S:Segs} {w:World}
set_option maxHeartbeats 4000000
set_option maxRecDepth 100000
def qjI (u:World) (m0:Mem) (S:Segs) (r:Int) (a:Act) (w:World):Prop :=
 Ok u m0 S w ∧ a.defers = [] ∧ RVs Tryz.prog a w [.t 2 (.int .i64 r)] ∧ InR .i64 r
theorem qeY (N:Nat) (c_0:Int) (rc_0:InR .i64 c_0) {r:Int} (hF:qbr N c_0 = some r) (hG:Glob u) (ok:Ok u m0 S w) :
  Calls Tryz.prog 26 [vi c_0].toArray w fun e w'=>(e = .returned (.int .i64 r) ∧ Ok u m0 S w') ∧ InR .i64 r:=by
 unfold qbr at hF
 refine en (qjI u m0 S) r Tryz.func26 rfl rfl rfl (fun _ _ h=>rb h rfl) fun fin a E=>sg<|aw E rfl fun a E=>wp_seq<|wp_block<|sg<|mv E rfl fun a E=>lw E (qaq rfl rfl) fun a E=>mv E rfl fun a E=>bw E 6 hF (fun c1 hF E=>?_) fun c1 hF E=>?_
 ·as_aux_lemma =>
   refine lsq E fun a E=>pf E rfl rfl fun a E=>aw E rfl fun a E=>c_if E rfl (fun h=>by cases h) (fun _=>?_)
   refine sg<|mv E rfl fun a E=>lw E (qah rfl rfl) fun a E=>aw E rfl fun a E=>cf E rfl hF (fun c44 hF=>?_) fun c44 hF=>?_
   ·refine sg<|aw E rfl fun a E=>wp_ret<|qak<|qad ?_
    exact fin hF ⟨ok,E.d,rz E rfl,(ir 5)⟩
   refine wp_seq<|bd hF fun o45 hJ hF=>qaH (Q':=fun e a w=>e = .normal ∧ Ok u m0 (S) w ∧ Env 62 a [(0,vi c_0),(13,vb o45)]) ?_ ?_
   ·as_aux_lemma =>
     have hF:=hJ
     refine qab<|mv E rfl fun a E=>lw E (qaq rfl rfl) fun a E=>mv E rfl fun a E=>bw E 16 hF (fun c46 hF E=>?_) fun c46 hF E=>?_
     ·refine lsq E fun a E=>pf E rfl rfl fun a E=>mz E rfl rfl fun a E=>lw E (qaq rfl rfl) fun a E=>mv E rfl fun a E=>bu E 23 hF (fun c49 hF E=>?_) fun c49 hF E=>?_
      ·refine mv E rfl fun a E=>lw E (qaR rfl rfl) fun a E=>pt E rfl rfl fun a E=>pf E rfl rfl fun a E=>av E rfl fun a E=>wpList_nil ?_
       cases hF
       exact ⟨rfl,⟨ok,E.keep [0,13]⟩⟩
      refine lsq E fun a E=>pf E rfl rfl fun a E=>pf E rfl rfl fun a E=>av E rfl fun a E=>wpList_nil ?_
      cases hF
      exact ⟨rfl,⟨ok,E.keep [0,13]⟩⟩
     refine mv E rfl fun a E=>lw E (qaR rfl rfl) fun a E=>pt E rfl rfl fun a E=>mv E rfl fun a E=>bu E 20 hF (fun c47 hF E=>?_) fun c47 hF E=>?_
     ·refine lsz E fun a E=>lsq E fun a E=>pt E rfl rfl fun a E=>av E rfl fun a E=>wpList_nil ?_
      cases hF
      exact ⟨rfl,⟨ok,E.keep [0,13]⟩⟩
     refine mv E rfl fun a E=>lw E (qaq rfl rfl) fun a E=>mv E rfl fun a E=>bu E 23 hF (fun c48 hF E=>?_) fun c48 hF E=>?_
     ·refine mv E rfl fun a E=>lw E (qaR rfl rfl) fun a E=>pt E rfl rfl fun a E=>pf E rfl rfl fun a E=>av E rfl fun a E=>wpList_nil ?_
      cases hF
      exact ⟨rfl,⟨ok,E.keep [0,13]⟩⟩
     refine lsq E fun a E=>pf E rfl rfl fun a E=>pf E rfl rfl fun a E=>av E rfl fun a E=>wpList_nil ?_
     cases hF
     exact ⟨rfl,⟨ok,E.keep [0,13]⟩⟩
   intro e a w hO
   obtain ⟨rfl,ok,E⟩:=hO
   refine qaa<|cf E rfl hF (fun c50 hF=>?_) fun c50 hF=>?_
   ·refine sg<|aw E rfl fun a E=>wp_ret<|qak<|qad ?_
    exact fin hF ⟨ok,E.d,rz E rfl,(ir 2)⟩
   refine sg<|mv E rfl fun a E=>lw E (qaq rfl rfl) fun a E=>mv E rfl fun a E=>bw E 31 hF (fun c51 hF E=>?_) fun c51 hF E=>?_
   ·as_aux_lemma =>
     refine lsq E fun a E=>pf E rfl rfl fun a E=>aw E rfl fun a E=>c_if E rfl (fun h=>by cases h) (fun _=>?_)
     refine wp_seq<|bd hF fun o69 hJ hF=>qaH (Q':=fun e a w=>e = .normal ∧ Ok u m0 (S) w ∧ Env 62 a [(35,vb o69)]) ?_ ?_
     rotate_left
     ·intro e a w hO
      obtain ⟨rfl,ok,E⟩:=hO
      refine qaa<|cf E rfl hF (fun c84 hF=>?_) fun c84 hF=>?_
      ·refine sg<|aw E rfl fun a E=>wp_ret<|qak<|qad ?_
       exact fin hF ⟨ok,E.d,rz E rfl,(ir 1)⟩
      refine wp_skip<|qac<|qaa<|sg<|aw E rfl fun a E=>wp_ret ?_
      exact fin hF ⟨ok,E.d,rz E rfl,(ir 0)⟩
     have hF:=hJ
     refine qab<|mv E rfl fun a E=>lw E (qaq rfl rfl) fun a E=>mv E rfl fun a E=>bw E 38 hF (fun c70 hF E=>?_) fun c70 hF E=>?_
     ·as_aux_lemma =>
       refine lsq E fun a E=>pf E rfl rfl fun a E=>mz E rfl rfl fun a E=>lw E (qaq rfl rfl) fun a E=>mv E rfl fun a E=>bw E 45 hF (fun c78 hF E=>?_) fun c78 hF E=>?_
       ·refine lsq E fun a E=>pf E rfl rfl fun a E=>pf E rfl rfl fun a E=>mz E rfl rfl fun a E=>lw E (qaq rfl rfl) fun a E=>mv E rfl fun a E=>bw E 53 hF (fun c82 hF E=>?_) fun c82 hF E=>?_
        ·refine lsz E fun a E=>lsq E fun a E=>pf E rfl rfl fun a E=>pf E rfl rfl fun a E=>av E rfl fun a E=>wpList_nil ?_
         cases hF
         exact ⟨rfl,⟨ok,E.keep [35]⟩⟩
        refine mv E rfl fun a E=>lw E (qap rfl rfl) fun a E=>mv E rfl fun a E=>bu E 56 hF (fun c83 hF E=>?_) fun c83 hF E=>?_
        ·refine lsq E fun a E=>pt E rfl rfl fun a E=>pt E rfl rfl fun a E=>pf E rfl rfl fun a E=>av E rfl fun a E=>wpList_nil ?_
         cases hF
         exact ⟨rfl,⟨ok,E.keep [35]⟩⟩
        refine mv E rfl fun a E=>lw E (qaK rfl rfl) fun a E=>pf E rfl rfl fun a E=>pt E rfl rfl fun a E=>pf E rfl rfl fun a E=>av E rfl fun a E=>wpList_nil ?_
        cases hF
        exact ⟨rfl,⟨ok,E.keep [35]⟩⟩
       refine mv E rfl fun a E=>lw E (qaR rfl rfl) fun a E=>pt E rfl rfl fun a E=>pf E rfl rfl fun a E=>mv E rfl fun a E=>bu E 50 hF (fun c79 hF E=>?_) fun c79 hF E=>?_
       ·refine lsz E fun a E=>lsz E fun a E=>lsq E fun a E=>pt E rfl rfl fun a E=>av E rfl fun a E=>wpList_nil ?_
        cases hF
        exact ⟨rfl,⟨ok,E.keep [35]⟩⟩
       refine mv E rfl fun a E=>lw E (qaq rfl rfl) fun a E=>mv E rfl fun a E=>bw E 53 hF (fun c80 hF E=>?_) fun c80 hF E=>?_
       ·refine lsz E fun a E=>lsq E fun a E=>pf E rfl rfl fun a E=>pf E rfl rfl fun a E=>av E rfl fun a E=>wpList_nil ?_
        cases hF
        exact ⟨rfl,⟨ok,E.keep [35]⟩⟩
       refine mv E rfl fun a E=>lw E (qap rfl rfl) fun a E=>mv E rfl fun a E=>bu E 56 hF (fun c81 hF E=>?_) fun c81 hF E=>?_
       ·refine lsq E fun a E=>pt E rfl rfl fun a E=>pt E rfl rfl fun a E=>pf E rfl rfl fun a E=>av E rfl fun a E=>wpList_nil ?_
        cases hF
        exact ⟨rfl,⟨ok,E.keep [35]⟩⟩
       refine mv E rfl fun a E=>lw E (qaK rfl rfl) fun a E=>pf E rfl rfl fun a E=>pt E rfl rfl fun a E=>pf E rfl rfl fun a E=>av E rfl fun a E=>wpList_nil ?_
       cases hF
       exact ⟨rfl,⟨ok,E.keep [35]⟩⟩
     refine mv E rfl fun a E=>lw E (qaR rfl rfl) fun a E=>pt E rfl rfl fun a E=>mv E rfl fun a E=>bu E 42 hF (fun c71 hF E=>?_) fun c71 hF E=>?_
     ·refine lsz E fun a E=>lsq E fun a E=>pt E rfl rfl fun a E=>mv E rfl fun a E=>lsz E fun a E=>lsz E fun a E=>?_
      refine lsq E fun a E=>pt E rfl rfl fun a E=>av E rfl fun a E=>wpList_nil ?_
      cases hF
      exact ⟨rfl,⟨ok,E.keep [35]⟩⟩
     refine mv E rfl fun a E=>lw E (qaq rfl rfl) fun a E=>mv E rfl fun a E=>bw E 45 hF (fun c72 hF E=>?_) fun c72 hF E=>?_
     ·refine lsq E fun a E=>pf E rfl rfl fun a E=>pf E rfl rfl fun a E=>mz E rfl rfl fun a E=>lw E (qaq rfl rfl) fun a E=>mv E rfl fun a E=>bw E 53 hF (fun c76 hF E=>?_) fun c76 hF E=>?_
      ·refine lsz E fun a E=>lsq E fun a E=>pf E rfl rfl fun a E=>pf E rfl rfl fun a E=>av E rfl fun a E=>wpList_nil ?_
       cases hF
       exact ⟨rfl,⟨ok,E.keep [35]⟩⟩
      refine mv E rfl fun a E=>lw E (qap rfl rfl) fun a E=>mv E rfl fun a E=>bu E 56 hF (fun c77 hF E=>?_) fun c77 hF E=>?_
      ·refine lsq E fun a E=>pt E rfl rfl fun a E=>pt E rfl rfl fun a E=>pf E rfl rfl fun a E=>av E rfl fun a E=>wpList_nil ?_
       cases hF
       exact ⟨rfl,⟨ok,E.keep [35]⟩⟩
      refine mv E rfl fun a E=>lw E (qaK rfl rfl) fun a E=>pf E rfl rfl fun a E=>pt E rfl rfl fun a E=>pf E rfl rfl fun a E=>av E rfl fun a E=>wpList_nil ?_
      cases hF
      exact ⟨rfl,⟨ok,E.keep [35]⟩⟩
     refine mv E rfl fun a E=>lw E (qaR rfl rfl) fun a E=>pt E rfl rfl fun a E=>pf E rfl rfl fun a E=>mv E rfl fun a E=>bu E 50 hF (fun c73 hF E=>?_) fun c73 hF E=>?_
     ·refine lsz E fun a E=>lsz E fun a E=>lsq E fun a E=>pt E rfl rfl fun a E=>av E rfl fun a E=>wpList_nil ?_
      cases hF
      exact ⟨rfl,⟨ok,E.keep [35]⟩⟩
     refine mv E rfl fun a E=>lw E (qaq rfl rfl) fun a E=>mv E rfl fun a E=>bw E 53 hF (fun c74 hF E=>?_) fun c74 hF E=>?_
     ·refine lsz E fun a E=>lsq E fun a E=>pf E rfl rfl fun a E=>pf E rfl rfl fun a E=>av E rfl fun a E=>wpList_nil ?_
      cases hF
      exact ⟨rfl,⟨ok,E.keep [35]⟩⟩
     refine mv E rfl fun a E=>lw E (qap rfl rfl) fun a E=>mv E rfl fun a E=>bu E 56 hF (fun c75 hF E=>?_) fun c75 hF E=>?_
     ·refine lsq E fun a E=>pt E rfl rfl fun a E=>pt E rfl rfl fun a E=>pf E rfl rfl fun a E=>av E rfl fun a E=>wpList_nil ?_
      cases hF
      exact ⟨rfl,⟨ok,E.keep [35]⟩⟩
     refine mv E rfl fun a E=>lw E (qaK rfl rfl) fun a E=>pf E rfl rfl fun a E=>pt E rfl rfl fun a E=>pf E rfl rfl fun a E=>av E rfl fun a E=>wpList_nil ?_
     cases hF
     exact ⟨rfl,⟨ok,E.keep [35]⟩⟩
   refine mv E rfl fun a E=>lw E (qaR rfl rfl) fun a E=>pt E rfl rfl fun a E=>aw E rfl fun a E=>cf E rfl hF (fun c52 hF=>?_) fun c52 hF=>?_
   ·refine sg<|aw E rfl fun a E=>wp_ret<|qak<|qad ?_
    exact fin hF ⟨ok,E.d,rz E rfl,(ir 3)⟩
   refine wp_seq<|bd hF fun o53 hJ hF=>qaH (Q':=fun e a w=>e = .normal ∧ Ok u m0 (S) w ∧ Env 62 a [(35,vb o53)]) ?_ ?_
   rotate_left
   ·intro e a w hO
    obtain ⟨rfl,ok,E⟩:=hO
    refine qaa<|cf E rfl hF (fun c68 hF=>?_) fun c68 hF=>?_
    ·refine sg<|aw E rfl fun a E=>wp_ret<|qak<|qad ?_
     exact fin hF ⟨ok,E.d,rz E rfl,(ir 1)⟩
    refine wp_skip<|qac<|qaa<|sg<|aw E rfl fun a E=>wp_ret ?_
    exact fin hF ⟨ok,E.d,rz E rfl,(ir 0)⟩
   have hF:=hJ
   refine qab<|mv E rfl fun a E=>lw E (qaq rfl rfl) fun a E=>mv E rfl fun a E=>bw E 38 hF (fun c54 hF E=>?_) fun c54 hF E=>?_
   ·as_aux_lemma =>
     refine lsq E fun a E=>pf E rfl rfl fun a E=>mz E rfl rfl fun a E=>lw E (qaq rfl rfl) fun a E=>mv E rfl fun a E=>bw E 45 hF (fun c62 hF E=>?_) fun c62 hF E=>?_
     ·refine lsq E fun a E=>pf E rfl rfl fun a E=>pf E rfl rfl fun a E=>mz E rfl rfl fun a E=>lw E (qaq rfl rfl) fun a E=>mv E rfl fun a E=>bw E 53 hF (fun c66 hF E=>?_) fun c66 hF E=>?_
      ·refine lsz E fun a E=>lsq E fun a E=>pf E rfl rfl fun a E=>pf E rfl rfl fun a E=>av E rfl fun a E=>wpList_nil ?_
       cases hF
       exact ⟨rfl,⟨ok,E.keep [35]⟩⟩
      refine mv E rfl fun a E=>lw E (qap rfl rfl) fun a E=>mv E rfl fun a E=>bu E 56 hF (fun c67 hF E=>?_) fun c67 hF E=>?_
      ·refine lsq E fun a E=>pt E rfl rfl fun a E=>pt E rfl rfl fun a E=>pf E rfl rfl fun a E=>av E rfl fun a E=>wpList_nil ?_
       cases hF
       exact ⟨rfl,⟨ok,E.keep [35]⟩⟩
      refine mv E rfl fun a E=>lw E (qaK rfl rfl) fun a E=>pf E rfl rfl fun a E=>pt E rfl rfl fun a E=>pf E rfl rfl fun a E=>av E rfl fun a E=>wpList_nil ?_
      cases hF
      exact ⟨rfl,⟨ok,E.keep [35]⟩⟩
     refine mv E rfl fun a E=>lw E (qaR rfl rfl) fun a E=>pt E rfl rfl fun a E=>pf E rfl rfl fun a E=>mv E rfl fun a E=>bu E 50 hF (fun c63 hF E=>?_) fun c63 hF E=>?_
     ·refine lsz E fun a E=>lsz E fun a E=>lsq E fun a E=>pt E rfl rfl fun a E=>av E rfl fun a E=>wpList_nil ?_
      cases hF
      exact ⟨rfl,⟨ok,E.keep [35]⟩⟩
     refine mv E rfl fun a E=>lw E (qaq rfl rfl) fun a E=>mv E rfl fun a E=>bw E 53 hF (fun c64 hF E=>?_) fun c64 hF E=>?_
     ·refine lsz E fun a E=>lsq E fun a E=>pf E rfl rfl fun a E=>pf E rfl rfl fun a E=>av E rfl fun a E=>wpList_nil ?_
      cases hF
      exact ⟨rfl,⟨ok,E.keep [35]⟩⟩
     refine mv E rfl fun a E=>lw E (qap rfl rfl) fun a E=>mv E rfl fun a E=>bu E 56 hF (fun c65 hF E=>?_) fun c65 hF E=>?_
     ·refine lsq E fun a E=>pt E rfl rfl fun a E=>pt E rfl rfl fun a E=>pf E rfl rfl fun a E=>av E rfl fun a E=>wpList_nil ?_
      cases hF
      exact ⟨rfl,⟨ok,E.keep [35]⟩⟩
     refine mv E rfl fun a E=>lw E (qaK rfl rfl) fun a E=>pf E rfl rfl fun a E=>pt E rfl rfl fun a E=>pf E rfl rfl fun a E=>av E rfl fun a E=>wpList_nil ?_
     cases hF
     exact ⟨rfl,⟨ok,E.keep [35]⟩⟩
   refine mv E rfl fun a E=>lw E (qaR rfl rfl) fun a E=>pt E rfl rfl fun a E=>mv E rfl fun a E=>bu E 42 hF (fun c55 hF E=>?_) fun c55 hF E=>?_
   ·refine lsz E fun a E=>lsq E fun a E=>pt E rfl rfl fun a E=>mv E rfl fun a E=>lsz E fun a E=>lsz E fun a E=>?_
    refine lsq E fun a E=>pt E rfl rfl fun a E=>av E rfl fun a E=>wpList_nil ?_
    cases hF
    exact ⟨rfl,⟨ok,E.keep [35]⟩⟩
   refine mv E rfl fun a E=>lw E (qaq rfl rfl) fun a E=>mv E rfl fun a E=>bw E 45 hF (fun c56 hF E=>?_) fun c56 hF E=>?_
   ·refine lsq E fun a E=>pf E rfl rfl fun a E=>pf E rfl rfl fun a E=>mz E rfl rfl fun a E=>lw E (qaq rfl rfl) fun a E=>mv E rfl fun a E=>bw E 53 hF (fun c60 hF E=>?_) fun c60 hF E=>?_
    ·refine lsz E fun a E=>lsq E fun a E=>pf E rfl rfl fun a E=>pf E rfl rfl fun a E=>av E rfl fun a E=>wpList_nil ?_
     cases hF
     exact ⟨rfl,⟨ok,E.keep [35]⟩⟩
    refine mv E rfl fun a E=>lw E (qap rfl rfl) fun a E=>mv E rfl fun a E=>bu E 56 hF (fun c61 hF E=>?_) fun c61 hF E=>?_
    ·refine lsq E fun a E=>pt E rfl rfl fun a E=>pt E rfl rfl fun a E=>pf E rfl rfl fun a E=>av E rfl fun a E=>wpList_nil ?_
     cases hF
     exact ⟨rfl,⟨ok,E.keep [35]⟩⟩
    refine mv E rfl fun a E=>lw E (qaK rfl rfl) fun a E=>pf E rfl rfl fun a E=>pt E rfl rfl fun a E=>pf E rfl rfl fun a E=>av E rfl fun a E=>wpList_nil ?_
    cases hF
    exact ⟨rfl,⟨ok,E.keep [35]⟩⟩
   refine mv E rfl fun a E=>lw E (qaR rfl rfl) fun a E=>pt E rfl rfl fun a E=>pf E rfl rfl fun a E=>mv E rfl fun a E=>bu E 50 hF (fun c57 hF E=>?_) fun c57 hF E=>?_
   ·refine lsz E fun a E=>lsz E fun a E=>lsq E fun a E=>pt E rfl rfl fun a E=>av E rfl fun a E=>wpList_nil ?_
    cases hF
    exact ⟨rfl,⟨ok,E.keep [35]⟩⟩
   refine mv E rfl fun a E=>lw E (qaq rfl rfl) fun a E=>mv E rfl fun a E=>bw E 53 hF (fun c58 hF E=>?_) fun c58 hF E=>?_
   ·refine lsz E fun a E=>lsq E fun a E=>pf E rfl rfl fun a E=>pf E rfl rfl fun a E=>av E rfl fun a E=>wpList_nil ?_
    cases hF
    exact ⟨rfl,⟨ok,E.keep [35]⟩⟩
   refine mv E rfl fun a E=>lw E (qap rfl rfl) fun a E=>mv E rfl fun a E=>bu E 56 hF (fun c59 hF E=>?_) fun c59 hF E=>?_
   ·refine lsq E fun a E=>pt E rfl rfl fun a E=>pt E rfl rfl fun a E=>pf E rfl rfl fun a E=>av E rfl fun a E=>wpList_nil ?_
    cases hF
    exact ⟨rfl,⟨ok,E.keep [35]⟩⟩
   refine mv E rfl fun a E=>lw E (qaK rfl rfl) fun a E=>pf E rfl rfl fun a E=>pt E rfl rfl fun a E=>pf E rfl rfl fun a E=>av E rfl fun a E=>wpList_nil ?_
   cases hF
   exact ⟨rfl,⟨ok,E.keep [35]⟩⟩
 refine mv E rfl fun a E=>lw E (qaR rfl rfl) fun a E=>pt E rfl rfl fun a E=>aw E rfl fun a E=>cf E rfl hF (fun c2 hF=>?_) fun c2 hF=>?_
 ·refine sg<|aw E rfl fun a E=>wp_ret<|qak<|qad ?_
  exact fin hF ⟨ok,E.d,rz E rfl,(ir 4)⟩
 refine sg<|mv E rfl fun a E=>lw E (qah rfl rfl) fun a E=>aw E rfl fun a E=>cf E rfl hF (fun c3 hF=>?_) fun c3 hF=>?_
 ·refine sg<|aw E rfl fun a E=>wp_ret<|qak<|qad ?_
  exact fin hF ⟨ok,E.d,rz E rfl,(ir 5)⟩
 refine wp_seq<|bd hF fun o4 hJ hF=>qaH (Q':=fun e a w=>e = .normal ∧ Ok u m0 (S) w ∧ Env 62 a [(0,vi c_0),(13,vb o4)]) ?_ ?_
 ·as_aux_lemma =>
   have hF:=hJ
   refine qab<|mv E rfl fun a E=>lw E (qaq rfl rfl) fun a E=>mv E rfl fun a E=>bw E 16 hF (fun c5 hF E=>?_) fun c5 hF E=>?_
   ·refine lsq E fun a E=>pf E rfl rfl fun a E=>mz E rfl rfl fun a E=>lw E (qaq rfl rfl) fun a E=>mv E rfl fun a E=>bu E 23 hF (fun c8 hF E=>?_) fun c8 hF E=>?_
    ·refine mv E rfl fun a E=>lw E (qaR rfl rfl) fun a E=>pt E rfl rfl fun a E=>pf E rfl rfl fun a E=>av E rfl fun a E=>wpList_nil ?_
     cases hF
     exact ⟨rfl,⟨ok,E.keep [0,13]⟩⟩
    refine lsq E fun a E=>pf E rfl rfl fun a E=>pf E rfl rfl fun a E=>av E rfl fun a E=>wpList_nil ?_
    cases hF
    exact ⟨rfl,⟨ok,E.keep [0,13]⟩⟩
   refine mv E rfl fun a E=>lw E (qaR rfl rfl) fun a E=>pt E rfl rfl fun a E=>mv E rfl fun a E=>bu E 20 hF (fun c6 hF E=>?_) fun c6 hF E=>?_
   ·refine lsz E fun a E=>lsq E fun a E=>pt E rfl rfl fun a E=>av E rfl fun a E=>wpList_nil ?_
    cases hF
    exact ⟨rfl,⟨ok,E.keep [0,13]⟩⟩
   refine mv E rfl fun a E=>lw E (qaq rfl rfl) fun a E=>mv E rfl fun a E=>bu E 23 hF (fun c7 hF E=>?_) fun c7 hF E=>?_
   ·refine mv E rfl fun a E=>lw E (qaR rfl rfl) fun a E=>pt E rfl rfl fun a E=>pf E rfl rfl fun a E=>av E rfl fun a E=>wpList_nil ?_
    cases hF
    exact ⟨rfl,⟨ok,E.keep [0,13]⟩⟩
   refine lsq E fun a E=>pf E rfl rfl fun a E=>pf E rfl rfl fun a E=>av E rfl fun a E=>wpList_nil ?_
   cases hF
   exact ⟨rfl,⟨ok,E.keep [0,13]⟩⟩
 intro e a w hO
 obtain ⟨rfl,ok,E⟩:=hO
 refine qaa<|cf E rfl hF (fun c9 hF=>?_) fun c9 hF=>?_
 ·refine sg<|aw E rfl fun a E=>wp_ret<|qak<|qad ?_
  exact fin hF ⟨ok,E.d,rz E rfl,(ir 2)⟩
 refine sg<|mv E rfl fun a E=>lw E (qaq rfl rfl) fun a E=>mv E rfl fun a E=>bw E 31 hF (fun c10 hF E=>?_) fun c10 hF E=>?_
 ·as_aux_lemma =>
   refine lsq E fun a E=>pf E rfl rfl fun a E=>aw E rfl fun a E=>c_if E rfl (fun h=>by cases h) (fun _=>?_)
   refine wp_seq<|bd hF fun o28 hJ hF=>qaH (Q':=fun e a w=>e = .normal ∧ Ok u m0 (S) w ∧ Env 62 a [(35,vb o28)]) ?_ ?_
   rotate_left
   ·intro e a w hO
    obtain ⟨rfl,ok,E⟩:=hO
    refine qaa<|cf E rfl hF (fun c43 hF=>?_) fun c43 hF=>?_
    ·refine sg<|aw E rfl fun a E=>wp_ret<|qak<|qad ?_
     exact fin hF ⟨ok,E.d,rz E rfl,(ir 1)⟩
    refine wp_skip<|qac<|qaa<|sg<|aw E rfl fun a E=>wp_ret ?_
    exact fin hF ⟨ok,E.d,rz E rfl,(ir 0)⟩
   have hF:=hJ
   refine qab<|mv E rfl fun a E=>lw E (qaq rfl rfl) fun a E=>mv E rfl fun a E=>bw E 38 hF (fun c29 hF E=>?_) fun c29 hF E=>?_
   ·as_aux_lemma =>
     refine lsq E fun a E=>pf E rfl rfl fun a E=>mz E rfl rfl fun a E=>lw E (qaq rfl rfl) fun a E=>mv E rfl fun a E=>bw E 45 hF (fun c37 hF E=>?_) fun c37 hF E=>?_
     ·refine lsq E fun a E=>pf E rfl rfl fun a E=>pf E rfl rfl fun a E=>mz E rfl rfl fun a E=>lw E (qaq rfl rfl) fun a E=>mv E rfl fun a E=>bw E 53 hF (fun c41 hF E=>?_) fun c41 hF E=>?_
      ·refine lsz E fun a E=>lsq E fun a E=>pf E rfl rfl fun a E=>pf E rfl rfl fun a E=>av E rfl fun a E=>wpList_nil ?_
       cases hF
       exact ⟨rfl,⟨ok,E.keep [35]⟩⟩
      refine mv E rfl fun a E=>lw E (qap rfl rfl) fun a E=>mv E rfl fun a E=>bu E 56 hF (fun c42 hF E=>?_) fun c42 hF E=>?_
      ·refine lsq E fun a E=>pt E rfl rfl fun a E=>pt E rfl rfl fun a E=>pf E rfl rfl fun a E=>av E rfl fun a E=>wpList_nil ?_
       cases hF
       exact ⟨rfl,⟨ok,E.keep [35]⟩⟩
      refine mv E rfl fun a E=>lw E (qaK rfl rfl) fun a E=>pf E rfl rfl fun a E=>pt E rfl rfl fun a E=>pf E rfl rfl fun a E=>av E rfl fun a E=>wpList_nil ?_
      cases hF
      exact ⟨rfl,⟨ok,E.keep [35]⟩⟩
     refine mv E rfl fun a E=>lw E (qaR rfl rfl) fun a E=>pt E rfl rfl fun a E=>pf E rfl rfl fun a E=>mv E rfl fun a E=>bu E 50 hF (fun c38 hF E=>?_) fun c38 hF E=>?_
     ·refine lsz E fun a E=>lsz E fun a E=>lsq E fun a E=>pt E rfl rfl fun a E=>av E rfl fun a E=>wpList_nil ?_
      cases hF
      exact ⟨rfl,⟨ok,E.keep [35]⟩⟩
     refine mv E rfl fun a E=>lw E (qaq rfl rfl) fun a E=>mv E rfl fun a E=>bw E 53 hF (fun c39 hF E=>?_) fun c39 hF E=>?_
     ·refine lsz E fun a E=>lsq E fun a E=>pf E rfl rfl fun a E=>pf E rfl rfl fun a E=>av E rfl fun a E=>wpList_nil ?_
      cases hF
      exact ⟨rfl,⟨ok,E.keep [35]⟩⟩
     refine mv E rfl fun a E=>lw E (qap rfl rfl) fun a E=>mv E rfl fun a E=>bu E 56 hF (fun c40 hF E=>?_) fun c40 hF E=>?_
     ·refine lsq E fun a E=>pt E rfl rfl fun a E=>pt E rfl rfl fun a E=>pf E rfl rfl fun a E=>av E rfl fun a E=>wpList_nil ?_
      cases hF
      exact ⟨rfl,⟨ok,E.keep [35]⟩⟩
     refine mv E rfl fun a E=>lw E (qaK rfl rfl) fun a E=>pf E rfl rfl fun a E=>pt E rfl rfl fun a E=>pf E rfl rfl fun a E=>av E rfl fun a E=>wpList_nil ?_
     cases hF
     exact ⟨rfl,⟨ok,E.keep [35]⟩⟩
   refine mv E rfl fun a E=>lw E (qaR rfl rfl) fun a E=>pt E rfl rfl fun a E=>mv E rfl fun a E=>bu E 42 hF (fun c30 hF E=>?_) fun c30 hF E=>?_
   ·refine lsz E fun a E=>lsq E fun a E=>pt E rfl rfl fun a E=>mv E rfl fun a E=>lsz E fun a E=>lsz E fun a E=>?_
    refine lsq E fun a E=>pt E rfl rfl fun a E=>av E rfl fun a E=>wpList_nil ?_
    cases hF
    exact ⟨rfl,⟨ok,E.keep [35]⟩⟩
   refine mv E rfl fun a E=>lw E (qaq rfl rfl) fun a E=>mv E rfl fun a E=>bw E 45 hF (fun c31 hF E=>?_) fun c31 hF E=>?_
   ·refine lsq E fun a E=>pf E rfl rfl fun a E=>pf E rfl rfl fun a E=>mz E rfl rfl fun a E=>lw E (qaq rfl rfl) fun a E=>mv E rfl fun a E=>bw E 53 hF (fun c35 hF E=>?_) fun c35 hF E=>?_
    ·refine lsz E fun a E=>lsq E fun a E=>pf E rfl rfl fun a E=>pf E rfl rfl fun a E=>av E rfl fun a E=>wpList_nil ?_
     cases hF
     exact ⟨rfl,⟨ok,E.keep [35]⟩⟩
    refine mv E rfl fun a E=>lw E (qap rfl rfl) fun a E=>mv E rfl fun a E=>bu E 56 hF (fun c36 hF E=>?_) fun c36 hF E=>?_
    ·refine lsq E fun a E=>pt E rfl rfl fun a E=>pt E rfl rfl fun a E=>pf E rfl rfl fun a E=>av E rfl fun a E=>wpList_nil ?_
     cases hF
     exact ⟨rfl,⟨ok,E.keep [35]⟩⟩
    refine mv E rfl fun a E=>lw E (qaK rfl rfl) fun a E=>pf E rfl rfl fun a E=>pt E rfl rfl fun a E=>pf E rfl rfl fun a E=>av E rfl fun a E=>wpList_nil ?_
    cases hF
    exact ⟨rfl,⟨ok,E.keep [35]⟩⟩
   refine mv E rfl fun a E=>lw E (qaR rfl rfl) fun a E=>pt E rfl rfl fun a E=>pf E rfl rfl fun a E=>mv E rfl fun a E=>bu E 50 hF (fun c32 hF E=>?_) fun c32 hF E=>?_
   ·refine lsz E fun a E=>lsz E fun a E=>lsq E fun a E=>pt E rfl rfl fun a E=>av E rfl fun a E=>wpList_nil ?_
    cases hF
    exact ⟨rfl,⟨ok,E.keep [35]⟩⟩
   refine mv E rfl fun a E=>lw E (qaq rfl rfl) fun a E=>mv E rfl fun a E=>bw E 53 hF (fun c33 hF E=>?_) fun c33 hF E=>?_
   ·refine lsz E fun a E=>lsq E fun a E=>pf E rfl rfl fun a E=>pf E rfl rfl fun a E=>av E rfl fun a E=>wpList_nil ?_
    cases hF
    exact ⟨rfl,⟨ok,E.keep [35]⟩⟩
   refine mv E rfl fun a E=>lw E (qap rfl rfl) fun a E=>mv E rfl fun a E=>bu E 56 hF (fun c34 hF E=>?_) fun c34 hF E=>?_
   ·refine lsq E fun a E=>pt E rfl rfl fun a E=>pt E rfl rfl fun a E=>pf E rfl rfl fun a E=>av E rfl fun a E=>wpList_nil ?_
    cases hF
    exact ⟨rfl,⟨ok,E.keep [35]⟩⟩
   refine mv E rfl fun a E=>lw E (qaK rfl rfl) fun a E=>pf E rfl rfl fun a E=>pt E rfl rfl fun a E=>pf E rfl rfl fun a E=>av E rfl fun a E=>wpList_nil ?_
   cases hF
   exact ⟨rfl,⟨ok,E.keep [35]⟩⟩
 refine mv E rfl fun a E=>lw E (qaR rfl rfl) fun a E=>pt E rfl rfl fun a E=>aw E rfl fun a E=>cf E rfl hF (fun c11 hF=>?_) fun c11 hF=>?_
 ·refine sg<|aw E rfl fun a E=>wp_ret<|qak<|qad ?_
  exact fin hF ⟨ok,E.d,rz E rfl,(ir 3)⟩
 refine wp_seq<|bd hF fun o12 hJ hF=>qaH (Q':=fun e a w=>e = .normal ∧ Ok u m0 (S) w ∧ Env 62 a [(35,vb o12)]) ?_ ?_
 rotate_left
 ·intro e a w hO
  obtain ⟨rfl,ok,E⟩:=hO
  refine qaa<|cf E rfl hF (fun c27 hF=>?_) fun c27 hF=>?_
  ·refine sg<|aw E rfl fun a E=>wp_ret<|qak<|qad ?_
   exact fin hF ⟨ok,E.d,rz E rfl,(ir 1)⟩
  refine wp_skip<|qac<|qaa<|sg<|aw E rfl fun a E=>wp_ret ?_
  exact fin hF ⟨ok,E.d,rz E rfl,(ir 0)⟩
 have hF:=hJ
 refine qab<|mv E rfl fun a E=>lw E (qaq rfl rfl) fun a E=>mv E rfl fun a E=>bw E 38 hF (fun c13 hF E=>?_) fun c13 hF E=>?_
 ·as_aux_lemma =>
   refine lsq E fun a E=>pf E rfl rfl fun a E=>mz E rfl rfl fun a E=>lw E (qaq rfl rfl) fun a E=>mv E rfl fun a E=>bw E 45 hF (fun c21 hF E=>?_) fun c21 hF E=>?_
   ·refine lsq E fun a E=>pf E rfl rfl fun a E=>pf E rfl rfl fun a E=>mz E rfl rfl fun a E=>lw E (qaq rfl rfl) fun a E=>mv E rfl fun a E=>bw E 53 hF (fun c25 hF E=>?_) fun c25 hF E=>?_
    ·refine lsz E fun a E=>lsq E fun a E=>pf E rfl rfl fun a E=>pf E rfl rfl fun a E=>av E rfl fun a E=>wpList_nil ?_
     cases hF
     exact ⟨rfl,⟨ok,E.keep [35]⟩⟩
    refine mv E rfl fun a E=>lw E (qap rfl rfl) fun a E=>mv E rfl fun a E=>bu E 56 hF (fun c26 hF E=>?_) fun c26 hF E=>?_
    ·refine lsq E fun a E=>pt E rfl rfl fun a E=>pt E rfl rfl fun a E=>pf E rfl rfl fun a E=>av E rfl fun a E=>wpList_nil ?_
     cases hF
     exact ⟨rfl,⟨ok,E.keep [35]⟩⟩
    refine mv E rfl fun a E=>lw E (qaK rfl rfl) fun a E=>pf E rfl rfl fun a E=>pt E rfl rfl fun a E=>pf E rfl rfl fun a E=>av E rfl fun a E=>wpList_nil ?_
    cases hF
    exact ⟨rfl,⟨ok,E.keep [35]⟩⟩
   refine mv E rfl fun a E=>lw E (qaR rfl rfl) fun a E=>pt E rfl rfl fun a E=>pf E rfl rfl fun a E=>mv E rfl fun a E=>bu E 50 hF (fun c22 hF E=>?_) fun c22 hF E=>?_
   ·refine lsz E fun a E=>lsz E fun a E=>lsq E fun a E=>pt E rfl rfl fun a E=>av E rfl fun a E=>wpList_nil ?_
    cases hF
    exact ⟨rfl,⟨ok,E.keep [35]⟩⟩
   refine mv E rfl fun a E=>lw E (qaq rfl rfl) fun a E=>mv E rfl fun a E=>bw E 53 hF (fun c23 hF E=>?_) fun c23 hF E=>?_
   ·refine lsz E fun a E=>lsq E fun a E=>pf E rfl rfl fun a E=>pf E rfl rfl fun a E=>av E rfl fun a E=>wpList_nil ?_
    cases hF
    exact ⟨rfl,⟨ok,E.keep [35]⟩⟩
   refine mv E rfl fun a E=>lw E (qap rfl rfl) fun a E=>mv E rfl fun a E=>bu E 56 hF (fun c24 hF E=>?_) fun c24 hF E=>?_
   ·refine lsq E fun a E=>pt E rfl rfl fun a E=>pt E rfl rfl fun a E=>pf E rfl rfl fun a E=>av E rfl fun a E=>wpList_nil ?_
    cases hF
    exact ⟨rfl,⟨ok,E.keep [35]⟩⟩
   refine mv E rfl fun a E=>lw E (qaK rfl rfl) fun a E=>pf E rfl rfl fun a E=>pt E rfl rfl fun a E=>pf E rfl rfl fun a E=>av E rfl fun a E=>wpList_nil ?_
   cases hF
   exact ⟨rfl,⟨ok,E.keep [35]⟩⟩
 refine mv E rfl fun a E=>lw E (qaR rfl rfl) fun a E=>pt E rfl rfl fun a E=>mv E rfl fun a E=>bu E 42 hF (fun c14 hF E=>?_) fun c14 hF E=>?_
 ·refine lsz E fun a E=>lsq E fun a E=>pt E rfl rfl fun a E=>mv E rfl fun a E=>lsz E fun a E=>lsz E fun a E=>?_
  refine lsq E fun a E=>pt E rfl rfl fun a E=>av E rfl fun a E=>wpList_nil ?_
  cases hF
  exact ⟨rfl,⟨ok,E.keep [35]⟩⟩
 refine mv E rfl fun a E=>lw E (qaq rfl rfl) fun a E=>mv E rfl fun a E=>bw E 45 hF (fun c15 hF E=>?_) fun c15 hF E=>?_
 ·refine lsq E fun a E=>pf E rfl rfl fun a E=>pf E rfl rfl fun a E=>mz E rfl rfl fun a E=>lw E (qaq rfl rfl) fun a E=>mv E rfl fun a E=>bw E 53 hF (fun c19 hF E=>?_) fun c19 hF E=>?_
  ·refine lsz E fun a E=>lsq E fun a E=>pf E rfl rfl fun a E=>pf E rfl rfl fun a E=>av E rfl fun a E=>wpList_nil ?_
   cases hF
   exact ⟨rfl,⟨ok,E.keep [35]⟩⟩
  refine mv E rfl fun a E=>lw E (qap rfl rfl) fun a E=>mv E rfl fun a E=>bu E 56 hF (fun c20 hF E=>?_) fun c20 hF E=>?_
  ·refine lsq E fun a E=>pt E rfl rfl fun a E=>pt E rfl rfl fun a E=>pf E rfl rfl fun a E=>av E rfl fun a E=>wpList_nil ?_
   cases hF
   exact ⟨rfl,⟨ok,E.keep [35]⟩⟩
  refine mv E rfl fun a E=>lw E (qaK rfl rfl) fun a E=>pf E rfl rfl fun a E=>pt E rfl rfl fun a E=>pf E rfl rfl fun a E=>av E rfl fun a E=>wpList_nil ?_
  cases hF
  exact ⟨rfl,⟨ok,E.keep [35]⟩⟩
 refine mv E rfl fun a E=>lw E (qaR rfl rfl) fun a E=>pt E rfl rfl fun a E=>pf E rfl rfl fun a E=>mv E rfl fun a E=>bu E 50 hF (fun c16 hF E=>?_) fun c16 hF E=>?_
 ·refine lsz E fun a E=>lsz E fun a E=>lsq E fun a E=>pt E rfl rfl fun a E=>av E rfl fun a E=>wpList_nil ?_
  cases hF
  exact ⟨rfl,⟨ok,E.keep [35]⟩⟩
 refine mv E rfl fun a E=>lw E (qaq rfl rfl) fun a E=>mv E rfl fun a E=>bw E 53 hF (fun c17 hF E=>?_) fun c17 hF E=>?_
 ·refine lsz E fun a E=>lsq E fun a E=>pf E rfl rfl fun a E=>pf E rfl rfl fun a E=>av E rfl fun a E=>wpList_nil ?_
  cases hF
  exact ⟨rfl,⟨ok,E.keep [35]⟩⟩
 refine mv E rfl fun a E=>lw E (qap rfl rfl) fun a E=>mv E rfl fun a E=>bu E 56 hF (fun c18 hF E=>?_) fun c18 hF E=>?_
 ·refine lsq E fun a E=>pt E rfl rfl fun a E=>pt E rfl rfl fun a E=>pf E rfl rfl fun a E=>av E rfl fun a E=>wpList_nil ?_
  cases hF
  exact ⟨rfl,⟨ok,E.keep [35]⟩⟩
 refine mv E rfl fun a E=>lw E (qaK rfl rfl) fun a E=>pf E rfl rfl fun a E=>pt E rfl rfl fun a E=>pf E rfl rfl fun a E=>av E rfl fun a E=>wpList_nil ?_
 cases hF
 exact ⟨rfl,⟨ok,E.keep [35]⟩⟩
def qgp (u:World) (m0:Mem) (S:Segs) (r:Int) (a:Act) (w:World):Prop :=
 Ok u m0 S w ∧ a.defers = [] ∧ RVs Tryz.prog a w [.t 4 (.int .i64 r)] ∧ InR .i64 r
theorem qjJ (N:Nat) (vl_0:Value) (l_0:List (Int)) (hl_0:(pL 1 (pI .i64)) m0 [vl_0] l_0) (at_1:Int) (rat_1:InR .i64 at_1) {r:Int} (hF:qdL N l_0 at_1 = some r) (hG:Glob u) (ok:Ok u m0 S w) :
  Calls Tryz.prog 27 [vl_0,vi at_1].toArray w fun e w'=>(e = .returned (.int .i64 r) ∧ Ok u m0 S w') ∧ InR .i64 r:=by
 unfold qdL at hF
 refine en (qgp u m0 S) r Tryz.func27 rfl rfl rfl (fun _ _ h=>rb h rfl) fun fin a E=>sg<|aw E rfl fun a E=>sg<|aw E rfl fun a E=>wp_seq<|sg<|mv E rfl fun a E=>av E rfl fun a E=>wn<|wp_block<|bd hF fun o3 hL hF=>qa7 _ (fun (s:Int × Int) a w=>Ok u m0 (S) w ∧ Env 35 a [(0,vl_0),(5,vi s.1),(6,vi s.2)] ∧ InR .i64 s.1 ∧ InR .i64 s.2) (fun (b:(Unit ⊕ Int)) e a w=>(Sum.elim (fun b43=>e = (.exit 0) ∧ Ok u m0 (S) w ∧ Env 35 a [(0,vl_0)]) (fun b44=>e = .ret ∧ qgp u m0 S b44 a w)) b) ?_ ?_ N _ a w hL ⟨ok,E.keep [0,5,6],(ir 0),rat_1⟩
 rotate_left
 ·intro e a w _ hO
  rcases o3 with o3 | o3
  rotate_left
  ·obtain ⟨rfl,hret⟩:=hO
   refine qak<|qad ?_
   exact fin hF hret
  have hF:=qcj hF
  obtain ⟨rfl,ok,E⟩:=hO
  refine qa0<|qaa<|sg<|mv E rfl fun a E=>lv E ok (qaP qat hl_0 rfl) fun a E=>av E rfl fun a E=>wn<|wp_ret ?_
  exact fin hF ⟨ok,E.d,rz E rfl,(qaj hl_0)⟩
 rintro ⟨v6,v7⟩ a w r ⟨ok,E,r8,r9⟩ hF
 replace hF:qbE N l_0 v6 v7 = some r:=hF
 unfold qbE at hF
 refine wp_seq<|sg<|mz E rfl rfl fun a E=>lv E ok (qaP qat hl_0 rfl) fun a E=>lw E (qap rfl rfl) fun a E=>wn<|cg E rfl hF (fun c10 hF=>?_) fun c10 hF=>?_
 ·refine wp_exit<|qaM ?_
  cases hF
  exact so (sl ⟨rfl,⟨ok,E.keep [0]⟩⟩)
 refine wp_skip<|qaa<|wp_seq<|wp_block<|wp_seq<|sg<|mv E rfl fun a E=>mv E rfl fun a E=>?_
 obtain ⟨x11,e12,hF⟩:=bnd hF
 obtain ⟨b13,o14,es15,hl16,rr17,at18,yy19⟩:=ia E 14 15 qat hl_0 e12
 obtain ⟨rfl,r20⟩:=rr17
 refine lv E ok (yy19 _ _) fun a E=>lv E ok (qal qam rfl (Holds.ro at18)) fun a E=>bd hF fun r21 e22 hF=>qaf E qpJ rfl (qeY N x11 r20 e22 hG ok) rfl rfl ?_
 rintro _ w ⟨⟨rfl,ok⟩,r23⟩
 refine ⟨_,rfl,fun a E=>?_⟩
 refine lw E (qah rfl rfl) fun a E=>wn<|bd hF fun o24 hJ hF=>qaH (Q':=fun e a w=>e = .normal ∧ Ok u m0 (S) w ∧ Env 35 a [(0,vl_0),(5,vi o24),(6,vi v7)] ∧ InR .i64 o24) ?_ ?_
 ·have hF:=hJ
  refine cg E rfl hF (fun c26 hF=>?_) fun c26 hF=>?_
  ·refine wp_skip ?_
   cases hF
   exact ⟨rfl,⟨ok,E.keep [0,5,6],r8⟩⟩
  refine qab<|mv E rfl fun a E=>lw E (qaF rfl rfl) fun a E=>av E rfl fun a E=>wpList_nil ?_
  cases hF
  exact ⟨rfl,⟨ok,E.keep [0,5,6],(InR.wrap _ _)⟩⟩
 intro e a w hO
 obtain ⟨rfl,ok,E,r27⟩:=hO
 refine qaa<|sg<|mz E rfl rfl fun a E=>?_
 obtain ⟨x28,e29,hF⟩:=bnd hF
 obtain ⟨b30,o31,es32,hl33,rr34,at35,yy36⟩:=ia E 22 23 qat hl_0 e29
 obtain ⟨rfl,r37⟩:=rr34
 refine lv E ok (yy36 _ _) fun a E=>lv E ok (qal qam rfl (Holds.ro at35)) fun a E=>bd hF fun r38 e39 hF=>qaf E qpJ rfl (qeY N x28 r37 e39 hG ok) rfl rfl ?_
 rintro _ w ⟨⟨rfl,ok⟩,r40⟩
 refine ⟨_,rfl,fun a E=>?_⟩
 refine lw E (qah rfl rfl) fun a E=>wn<|cg E rfl hF (fun c41 hF=>?_) fun c41 hF=>?_
 ·refine wp_skip<|qac<|qaa<|qab<|mv E rfl fun a E=>lw E (qaE rfl rfl (InR.inc r9 (qaj hl_0) c10)) fun a E=>av E rfl fun a E=>wpList_nil ?_
  cases hF
  exact qao ⟨ok,E.keep [0,5,6],r27,(InR.inc r9 (qaj hl_0) c10)⟩
 refine sg<|mv E rfl fun a E=>lw E (qbI rfl rfl) fun a E=>aw E rfl fun a E=>sg<|mv E rfl fun a E=>lw E (qah rfl rfl) fun a E=>wn<|cg E rfl hF (fun c42 hF=>?_) fun c42 hF=>?_
 ·refine wp_skip<|qac<|qaa<|qab<|mv E rfl fun a E=>lw E (qaE rfl rfl (InR.inc r9 (qaj hl_0) c10)) fun a E=>av E rfl fun a E=>wpList_nil ?_
  cases hF
  exact qao ⟨ok,E.keep [0,5,6],(InR.wrap _ _),(InR.inc r9 (qaj hl_0) c10)⟩
 refine sg<|mv E rfl fun a E=>aw E rfl fun a E=>wp_ret<|qak<|qad ?_
 cases hF
 exact so (sr ⟨rfl,⟨ok,E.d,rz E rfl,r9⟩⟩)
def qjH (u:World) (m0:Mem) (S:Segs) (r:Int) (a:Act) (w:World):Prop :=
 Ok u m0 S w ∧ a.defers = [] ∧ RVs Tryz.prog a w [.t 6 (.int .i64 r)] ∧ InR .i64 r
def qd6 (N:Nat):Prop:=∀ {u:World} {m0:Mem} {S:Segs} {w:World} (vl_0:Value) (l_0:List (Int)) (hl_0:(pL 1 (pI .i64)) m0 [vl_0] l_0) (from_1:Int) (rfrom_1:InR .i64 from_1) (to_2:Int) (rto_2:InR .i64 to_2) {r:Int} (hF:qdf N l_0 from_1 to_2 = some r) (hG:Glob u) (ok:Ok u m0 S w),Calls Tryz.prog 12 [vl_0,vi from_1,vi to_2].toArray w fun e w'=>(e = .returned (.int .i64 r) ∧ Ok u m0 S w') ∧ InR .i64 r
theorem qir (N:Nat) (ih_calqueref23_depth:qd6 N):qd6 (N + 1):=by
 intro u m0 S w vl_0 l_0 hl_0 from_1 rfrom_1 to_2 rto_2 r hF hG ok
 have hF0:qcG (qdf N) N l_0 from_1 to_2 = some r:=hF
 have hF:=hF0
 clear hF0
 unfold qcG at hF
 refine en (qjH u m0 S) r Tryz.func12 rfl rfl rfl (fun _ _ h=>rb h rfl) fun fin a E=>sg<|aw E rfl fun a E=>sg<|aw E rfl fun a E=>wp_seq<|sg<|mv E rfl fun a E=>av E rfl fun a E=>wn<|wp_block<|bd hF fun o3 hL hF=>qa7 _ (fun (s:Int × Int) a w=>Ok u m0 (S) w ∧ Env 37 a [(0,vl_0),(2,vi to_2),(7,vi s.1),(8,vi s.2)] ∧ InR .i64 s.1 ∧ InR .i64 s.2) (fun (b:Int) e a w=>e = (.exit 0) ∧ Ok u m0 (S) w ∧ Env 37 a [(7,vi b)] ∧ InR .i64 b) ?_ ?_ N _ a w hL ⟨ok,E.keep [0,2,7,8],(ir 0),rfrom_1⟩
 rotate_left
 ·intro e a w _ hO
  obtain ⟨rfl,ok,E,r31⟩:=hO
  refine qa0<|qaa<|sg<|mv E rfl fun a E=>aw E rfl fun a E=>wp_ret ?_
  exact fin hF ⟨ok,E.d,rz E rfl,r31⟩
 rintro ⟨v6,v7⟩ a w r ⟨ok,E,r8,r9⟩ hF
 replace hF:qcp (qdf N) N l_0 to_2 v6 v7 = some r:=hF
 unfold qcp at hF
 refine wp_seq<|sg<|mz E rfl rfl fun a E=>lw E (qap rfl rfl) fun a E=>wn<|cg E rfl hF (fun c10 hF=>?_) fun c10 hF=>?_
 ·refine wp_exit<|qaM ?_
  cases hF
  exact so (⟨rfl,⟨ok,E.keep [7],r8⟩⟩)
 refine wp_skip<|qaa<|wp_seq<|wp_block<|sg<|mz E rfl rfl fun a E=>?_
 obtain ⟨x11,e12,hF⟩:=bnd hF
 obtain ⟨b13,o14,es15,hl16,rr17,at18,yy19⟩:=ia E 16 17 qat hl_0 e12
 obtain ⟨rfl,r20⟩:=rr17
 refine lv E ok (yy19 _ _) fun a E=>lv E ok (qal qam rfl (Holds.ro at18)) fun a E=>bd hF fun r21 e22 hF=>qaf E qpJ rfl (qeY N x11 r20 e22 hG ok) rfl rfl ?_
 rintro _ w ⟨⟨rfl,ok⟩,r23⟩
 refine ⟨_,rfl,fun a E=>?_⟩
 refine lw E (qah rfl rfl) fun a E=>wn<|cg E rfl hF (fun c24 hF=>?_) fun c24 hF=>?_
 ·refine wp_skip<|qac<|qaa<|qab<|mv E rfl fun a E=>lw E (qaE rfl rfl (InR.inc r9 rto_2 c10)) fun a E=>av E rfl fun a E=>wpList_nil ?_
  cases hF
  exact qao ⟨ok,E.keep [0,2,7,8],r8,(InR.inc r9 rto_2 c10)⟩
 refine sg<|mz E rfl rfl fun a E=>bd hF fun r25 e26 hF=>qaf E qtv rfl (qjJ N _ l_0 hl_0 v7 r9 e26 hG ok) rfl rfl ?_
 rintro _ w ⟨⟨rfl,ok⟩,r27⟩
 refine ⟨_,rfl,fun a E=>?_⟩
 refine mv E rfl fun a E=>lw E (qrC rfl rfl) fun a E=>aw E rfl fun a E=>sg<|mv E rfl fun a E=>mz E rfl rfl fun a E=>lw E (qaE rfl rfl (InR.inc r9 rto_2 c10)) fun a E=>mv E rfl fun a E=>bd hF fun r28 e29 hF=>qaf E qrr rfl (ih_calqueref23_depth _ l_0 hl_0 (v7 + 1) (InR.inc r9 rto_2 c10) (min r25 to_2) (InR.min r27 rto_2) e29 hG ok) rfl rfl ?_
 rintro _ w ⟨⟨rfl,ok⟩,r30⟩
 refine ⟨_,rfl,fun a E=>?_⟩
 refine lw E (qaF rfl rfl) fun a E=>lw E (qpv rfl rfl) fun a E=>aw E rfl fun a E=>qab<|mv E rfl fun a E=>av E rfl fun a E=>wpList_nil<|qac<|qaa<|qab<|mv E rfl fun a E=>lw E (qaF rfl rfl) fun a E=>av E rfl fun a E=>wpList_nil ?_
 cases hF
 exact qao ⟨ok,E.keep [0,2,7,8],(InR.max r8 (InR.wrap _ _)),(InR.wrap _ _)⟩
theorem qip:qd6 0:=by
 intro u m0 S w vl_0 l_0 hl_0 from_1 rfrom_1 to_2 rto_2 r hF hG ok
 replace hF:none = some r:=hF
 cases hF
theorem qhe (N:Nat):qd6 N:=by
 induction N with
 | zero=>exact qip
 | succ N h=>exact qir N h
theorem qjG {u:World} {m0:Mem} {S:Segs} {w:World} (N:Nat) (vl_0:Value) (l_0:List (Int)) (hl_0:(pL 1 (pI .i64)) m0 [vl_0] l_0) (from_1:Int) (rfrom_1:InR .i64 from_1) (to_2:Int) (rto_2:InR .i64 to_2) {r:Int} (hF:qdf N l_0 from_1 to_2 = some r) (hG:Glob u) (ok:Ok u m0 S w) :
 Calls Tryz.prog 12 [vl_0,vi from_1,vi to_2].toArray w fun e w'=>(e = .returned (.int .i64 r) ∧ Ok u m0 S w') ∧ InR .i64 r:=(qhe N) vl_0 l_0 hl_0 from_1 rfrom_1 to_2 rto_2 hF hG ok
def qjE (u:World) (m0:Mem) (S:Segs) (r:Int) (a:Act) (w:World):Prop :=
 Ok u m0 S w ∧ a.defers = [] ∧ RVs Tryz.prog a w [.t 2 (.int .i64 r)] ∧ InR .i64 r
theorem qd8 (N:Nat) (s_0:List UInt8) (ls_0:s_0.length ≤ LIMS) {r:Int} (hF:qde N s_0 = some r) (hG:Glob u) (ok:Ok u m0 S w) :
  Calls Tryz.prog 5 [vs s_0].toArray w fun e w'=>(e = .returned (.int .i64 r) ∧ Ok u m0 S w') ∧ InR .i64 r:=by
 have hb0:=ok.base
 have le_m0:=Mem.le.refl m0
 unfold qde at hF
 refine en (qjE u m0 S) r Tryz.func5 rfl rfl rfl (fun _ _ h=>rb h rfl) fun fin a E=>sg<|aw E rfl fun a E=>sg<|mv E rfl fun a E=>bd hF fun r1 e2 hF=>qaf E qpI rfl (qeO N s_0 ls_0 e2 hG ok) rfl rfl ?_
 rintro _ w ⟨m3,c4,rfl,hle,ok,h5⟩
 have le_m0:=le_m0.trans hle
 refine ⟨_,rfl,fun a E=>?_⟩
 refine aw E rfl fun a E=>sg<|mz E rfl rfl fun a E=>lv E ok (qaP qat h5 rfl) fun a E=>bd hF fun r6 e7 hF=>qaf E qrr rfl (qjG N _ r1 h5 0 (ir 0) (r1.length:Int) (qaj h5) e7 hG ok) rfl rfl ?_
 rintro _ w ⟨⟨rfl,ok⟩,r8⟩
 refine ⟨_,rfl,fun a E=>?_⟩
 refine aw E rfl fun a E=>wp_ret ?_
 exact fin hF ⟨(ok).down hb0 le_m0,E.d,rz E rfl,r8⟩
def qfu (u:World) (m0:Mem) (S:Segs) (r:Bool) (a:Act) (w:World):Prop :=
 Ok u m0 S w ∧ a.defers = [] ∧ RVs Tryz.prog a w [.t 4 (.bool r)]
theorem qin (N:Nat) (va_0:Value) (a_0:List (Int)) (ha_0:(pL 1 (pI .i64)) m0 [va_0] a_0) (vb_1:Value) (b_1:List (Int)) (hb_1:(pL 1 (pI .i64)) m0 [vb_1] b_1) {r:Bool} (hF:qc5 N a_0 b_1 = some r) (hG:Glob u) (ok:Ok u m0 S w) :
  Calls Tryz.prog 7 [va_0,vb_1].toArray w fun e w'=>(e = .returned (.bool r) ∧ Ok u m0 S w'):=by
 unfold qc5 at hF
 refine en (qfu u m0 S) r Tryz.func7 rfl rfl rfl (fun _ _ h=>ra h rfl) fun fin a E=>sg<|aw E rfl fun a E=>wp_seq<|sg<|mv E rfl fun a E=>lv E ok (qaP qat ha_0 rfl) fun a E=>mv E rfl fun a E=>lv E ok (qaP qat hb_1 rfl) fun a E=>lw E (qbD rfl rfl) fun a E=>wn<|cf E rfl hF (fun c1 hF=>?_) fun c1 hF=>?_
 ·refine sg<|aw E rfl fun a E=>wp_ret<|qad ?_
  exact fin hF ⟨ok,E.d,rz E rfl⟩
 refine wp_skip<|qaa<|wp_seq<|sg<|aw E rfl fun a E=>wp_block<|bd hF fun o3 hL hF=>qa7 _ (fun (s:Int) a w=>Ok u m0 (S) w ∧ Env 26 a [(0,va_0),(1,vb_1),(5,vi s)] ∧ InR .i64 s) (fun (b:(Unit ⊕ Bool)) e a w=>(Sum.elim (fun b29=>e = (.exit 0) ∧ Ok u m0 (S) w ∧ Env 26 a []) (fun b30=>e = .ret ∧ qfu u m0 S b30 a w)) b) ?_ ?_ N _ a w hL ⟨ok,E.keep [0,1,5],(ir 0)⟩
 rotate_left
 ·intro e a w _ hO
  rcases o3 with o3 | o3
  rotate_left
  ·obtain ⟨rfl,hret⟩:=hO
   refine qak<|qad ?_
   exact fin hF hret
  have hF:=qcj hF
  obtain ⟨rfl,ok,E⟩:=hO
  refine qa0<|qaa<|sg<|aw E rfl fun a E=>wp_ret ?_
  exact fin hF ⟨ok,E.d,rz E rfl⟩
 rintro v5 a w r ⟨ok,E,r6⟩ hF
 replace hF:qbU N a_0 b_1 v5 = some r:=hF
 unfold qbU at hF
 refine wp_seq<|sg<|mz E rfl rfl fun a E=>lv E ok (qaP qat ha_0 rfl) fun a E=>lw E (qap rfl rfl) fun a E=>wn<|cg E rfl hF (fun c7 hF=>?_) fun c7 hF=>?_
 ·refine wp_exit<|qaM ?_
  cases hF
  exact so (sl ⟨rfl,⟨ok,E.keep []⟩⟩)
 refine wp_skip<|qaa<|wp_seq<|wp_block<|wp_seq<|qce (by kernel_rfl) (by kernel_rfl) ok<|qv E (qai rfl) fun a E=>qv E (qai rfl) fun a E=>?_
 obtain ⟨x8,e9,hF⟩:=bnd hF
 obtain ⟨b10,o11,es12,hl13,rr14,at15,yy16⟩:=ia E 17 18 qat ha_0 e9
 obtain ⟨rfl,r17⟩:=rr14
 refine qv E (yy16 _ _) fun a E=>qv E (qal qam rfl (Holds.ro at15)) fun a E=>qv E (qai rfl) fun a E=>qv E (qai rfl) fun a E=>?_
 obtain ⟨x18,e19,hF⟩:=bnd hF
 obtain ⟨b20,o21,es22,hl23,rr24,at25,yy26⟩:=ia E 21 22 qat hb_1 e19
 obtain ⟨rfl,r27⟩:=rr24
 refine qv E (yy26 _ _) fun a E=>qv E (qal qam rfl (Holds.ro at25)) fun a E=>qv E (qbD rfl rfl) fun a E=>wpQuiet_nil ?_
 intro w ok
 refine qaa<|cg E rfl hF (fun c28 hF=>?_) fun c28 hF=>?_
 ·refine wp_skip<|qac<|qaa<|qab<|mv E rfl fun a E=>lw E (qaE rfl rfl (InR.inc r6 (qaj ha_0) c7)) fun a E=>av E rfl fun a E=>wpList_nil ?_
  cases hF
  exact qao ⟨ok,E.keep [0,1,5],(InR.inc r6 (qaj ha_0) c7)⟩
 refine sg<|aw E rfl fun a E=>wp_ret<|qak<|qad ?_
 cases hF
 exact so (sr ⟨rfl,⟨ok,E.d,rz E rfl⟩⟩)
end Go.Proofs.YthhieiabfpkaaaaGreatDoor
namespace Go.Proofs.YthhieiabfpkaaaaGreatDoor
open Go.X
structure Text where
 l:List (Int)
 end_:List (Int)
 depth:Int
structure Item where
 from_:Int
 to_:Int
 class_:Int
def qeE (_N:Nat) (r2:(List (Int))) (open_34:List (Int)) (x_35:Int) (x_36:Text):Option (((List (Int)) × Int × Text) ⊕ Text) :=
 bif (decide (x_35 < (r2.length:Int))) then
  (idx r2 x_35).bind fun x48 =>
  (app x_36.end_ ([(-1)]:List (Int))).bind fun l61 =>
  bif (decide (x48 ≥ 8294)) then
   bif (decide (x48 ≤ 8296)) then
    (app open_34 ([x_35]:List (Int))).bind fun l71 =>
    (idx l61 x_35).bind fun _x76 =>
    (setI l61 x_35 (x_36.l.length:Int)).bind fun l82 =>
    some (.inl (l71,(x_35 + 1),(Text.mk x_36.l l82 (max x_36.depth (l71.length:Int)))))
   else
    bif (x48 == 8297) then
     bif (decide ((open_34.length:Int) > 0)) then
      (show Option Text from
       (idx open_34 ((open_34.length:Int) - 1)).bind fun x95 =>
       (idx l61 x95).bind fun _x106 =>
       (setI l61 x95 x_35).bind fun l112 =>
       some (Text.mk x_36.l l112 x_36.depth)).bind fun o88 =>
      (slc open_34 0 ((open_34.length:Int) - 1)).bind fun l137 =>
      some (.inl (l137,(x_35 + 1),o88))
     else
      some (.inl (open_34,(x_35 + 1),(Text.mk x_36.l l61 x_36.depth)))
    else
     some (.inl (open_34,(x_35 + 1),(Text.mk x_36.l l61 x_36.depth)))
  else
   bif (x48 == 8297) then
    bif (decide ((open_34.length:Int) > 0)) then
     (show Option Text from
      (idx open_34 ((open_34.length:Int) - 1)).bind fun x151 =>
      (idx l61 x151).bind fun _x162 =>
      (setI l61 x151 x_35).bind fun l168 =>
      some (Text.mk x_36.l l168 x_36.depth)).bind fun o144 =>
     (slc open_34 0 ((open_34.length:Int) - 1)).bind fun l193 =>
     some (.inl (l193,(x_35 + 1),o144))
    else
     some (.inl (open_34,(x_35 + 1),(Text.mk x_36.l l61 x_36.depth)))
   else
    some (.inl (open_34,(x_35 + 1),(Text.mk x_36.l l61 x_36.depth)))
 else
  some (.inr x_36)
def qgH (N:Nat) (s_0:List UInt8):Option Text :=
 (qev N s_0).bind fun r2 =>
 (iter (fun s=>qeE N r2 s.1 s.2.1 s.2.2) N ([],0,(Text.mk r2 ([]) 0))).bind fun o23 =>
 some o23
def qdP (_N:Nat) (c_0:Int):Option Int :=
 bif (decide (c_0 ≥ 1424)) then
  (show Option Bool from
   bif (decide (c_0 ≤ 2303)) then
    some (decide (c_0 ≤ 2303))
   else
    bif (decide (c_0 ≥ 64285)) then
     some (decide (c_0 ≤ 65276))
    else
     some false).bind fun o2 =>
  bif o2 then
   some 2
  else
   bif (decide (c_0 ≥ 48)) then
    bif (decide (c_0 ≤ 57)) then
     some 3
    else
     bif (decide (c_0 ≥ 65)) then
      (show Option Bool from
       bif (decide (c_0 ≤ 90)) then
        some (decide (c_0 ≤ 90))
       else
        bif (decide (c_0 ≥ 97)) then
         bif (decide (c_0 ≤ 122)) then
          some (decide (c_0 ≤ 122))
         else
          bif (decide (c_0 ≥ 192)) then
           bif (decide (c_0 < 8192)) then
            some true
           else
            some (decide (c_0 > 12287))
          else
           some false
        else
         bif (decide (c_0 ≥ 192)) then
          bif (decide (c_0 < 8192)) then
           some true
          else
           some (decide (c_0 > 12287))
         else
          some false).bind fun o9 =>
      bif o9 then
       some 1
      else
       some 0
     else
      bif (decide (c_0 ≥ 97)) then
       (show Option Bool from
        bif (decide (c_0 ≤ 122)) then
         some (decide (c_0 ≤ 122))
        else
         bif (decide (c_0 ≥ 192)) then
          bif (decide (c_0 < 8192)) then
           some true
          else
           some (decide (c_0 > 12287))
         else
          some false).bind fun o19 =>
       bif o19 then
        some 1
       else
        some 0
      else
       bif (decide (c_0 ≥ 192)) then
        bif (decide (c_0 < 8192)) then
         some 1
        else
         bif (decide (c_0 > 12287)) then
          some 1
         else
          some 0
       else
        some 0
   else
    bif (decide (c_0 ≥ 65)) then
     (show Option Bool from
      bif (decide (c_0 ≤ 90)) then
       some (decide (c_0 ≤ 90))
      else
       bif (decide (c_0 ≥ 97)) then
        bif (decide (c_0 ≤ 122)) then
         some (decide (c_0 ≤ 122))
        else
         bif (decide (c_0 ≥ 192)) then
          bif (decide (c_0 < 8192)) then
           some true
          else
           some (decide (c_0 > 12287))
         else
          some false
       else
        bif (decide (c_0 ≥ 192)) then
         bif (decide (c_0 < 8192)) then
          some true
         else
          some (decide (c_0 > 12287))
        else
         some false).bind fun o28 =>
     bif o28 then
      some 1
     else
      some 0
    else
     bif (decide (c_0 ≥ 97)) then
      (show Option Bool from
       bif (decide (c_0 ≤ 122)) then
        some (decide (c_0 ≤ 122))
       else
        bif (decide (c_0 ≥ 192)) then
         bif (decide (c_0 < 8192)) then
          some true
         else
          some (decide (c_0 > 12287))
        else
         some false).bind fun o38 =>
      bif o38 then
       some 1
      else
       some 0
     else
      bif (decide (c_0 ≥ 192)) then
       bif (decide (c_0 < 8192)) then
        some 1
       else
        bif (decide (c_0 > 12287)) then
         some 1
        else
         some 0
      else
       some 0
 else
  bif (decide (c_0 ≥ 64285)) then
   bif (decide (c_0 ≤ 65276)) then
    some 2
   else
    bif (decide (c_0 ≥ 48)) then
     bif (decide (c_0 ≤ 57)) then
      some 3
     else
      bif (decide (c_0 ≥ 65)) then
       (show Option Bool from
        bif (decide (c_0 ≤ 90)) then
         some (decide (c_0 ≤ 90))
        else
         bif (decide (c_0 ≥ 97)) then
          bif (decide (c_0 ≤ 122)) then
           some (decide (c_0 ≤ 122))
          else
           bif (decide (c_0 ≥ 192)) then
            bif (decide (c_0 < 8192)) then
             some true
            else
             some (decide (c_0 > 12287))
           else
            some false
         else
          bif (decide (c_0 ≥ 192)) then
           bif (decide (c_0 < 8192)) then
            some true
           else
            some (decide (c_0 > 12287))
          else
           some false).bind fun o51 =>
       bif o51 then
        some 1
       else
        some 0
      else
       bif (decide (c_0 ≥ 97)) then
        (show Option Bool from
         bif (decide (c_0 ≤ 122)) then
          some (decide (c_0 ≤ 122))
         else
          bif (decide (c_0 ≥ 192)) then
           bif (decide (c_0 < 8192)) then
            some true
           else
            some (decide (c_0 > 12287))
          else
           some false).bind fun o61 =>
        bif o61 then
         some 1
        else
         some 0
       else
        bif (decide (c_0 ≥ 192)) then
         bif (decide (c_0 < 8192)) then
          some 1
         else
          bif (decide (c_0 > 12287)) then
           some 1
          else
           some 0
        else
         some 0
    else
     bif (decide (c_0 ≥ 65)) then
      (show Option Bool from
       bif (decide (c_0 ≤ 90)) then
        some (decide (c_0 ≤ 90))
       else
        bif (decide (c_0 ≥ 97)) then
         bif (decide (c_0 ≤ 122)) then
          some (decide (c_0 ≤ 122))
         else
          bif (decide (c_0 ≥ 192)) then
           bif (decide (c_0 < 8192)) then
            some true
           else
            some (decide (c_0 > 12287))
          else
           some false
        else
         bif (decide (c_0 ≥ 192)) then
          bif (decide (c_0 < 8192)) then
           some true
          else
           some (decide (c_0 > 12287))
         else
          some false).bind fun o70 =>
      bif o70 then
       some 1
      else
       some 0
     else
      bif (decide (c_0 ≥ 97)) then
       (show Option Bool from
        bif (decide (c_0 ≤ 122)) then
         some (decide (c_0 ≤ 122))
        else
         bif (decide (c_0 ≥ 192)) then
          bif (decide (c_0 < 8192)) then
           some true
          else
           some (decide (c_0 > 12287))
         else
          some false).bind fun o80 =>
       bif o80 then
        some 1
       else
        some 0
      else
       bif (decide (c_0 ≥ 192)) then
        bif (decide (c_0 < 8192)) then
         some 1
        else
         bif (decide (c_0 > 12287)) then
          some 1
         else
          some 0
       else
        some 0
  else
   bif (decide (c_0 ≥ 48)) then
    bif (decide (c_0 ≤ 57)) then
     some 3
    else
     bif (decide (c_0 ≥ 65)) then
      (show Option Bool from
       bif (decide (c_0 ≤ 90)) then
        some (decide (c_0 ≤ 90))
       else
        bif (decide (c_0 ≥ 97)) then
         bif (decide (c_0 ≤ 122)) then
          some (decide (c_0 ≤ 122))
         else
          bif (decide (c_0 ≥ 192)) then
           bif (decide (c_0 < 8192)) then
            some true
           else
            some (decide (c_0 > 12287))
          else
           some false
        else
         bif (decide (c_0 ≥ 192)) then
          bif (decide (c_0 < 8192)) then
           some true
          else
           some (decide (c_0 > 12287))
         else
          some false).bind fun o91 =>
      bif o91 then
       some 1
      else
       some 0
     else
      bif (decide (c_0 ≥ 97)) then
       (show Option Bool from
        bif (decide (c_0 ≤ 122)) then
         some (decide (c_0 ≤ 122))
        else
         bif (decide (c_0 ≥ 192)) then
          bif (decide (c_0 < 8192)) then
           some true
          else
           some (decide (c_0 > 12287))
         else
          some false).bind fun o101 =>
       bif o101 then
        some 1
       else
        some 0
      else
       bif (decide (c_0 ≥ 192)) then
        bif (decide (c_0 < 8192)) then
         some 1
        else
         bif (decide (c_0 > 12287)) then
          some 1
         else
          some 0
       else
        some 0
   else
    bif (decide (c_0 ≥ 65)) then
     (show Option Bool from
      bif (decide (c_0 ≤ 90)) then
       some (decide (c_0 ≤ 90))
      else
       bif (decide (c_0 ≥ 97)) then
        bif (decide (c_0 ≤ 122)) then
         some (decide (c_0 ≤ 122))
        else
         bif (decide (c_0 ≥ 192)) then
          bif (decide (c_0 < 8192)) then
           some true
          else
           some (decide (c_0 > 12287))
         else
          some false
       else
        bif (decide (c_0 ≥ 192)) then
         bif (decide (c_0 < 8192)) then
          some true
         else
          some (decide (c_0 > 12287))
        else
         some false).bind fun o110 =>
     bif o110 then
      some 1
     else
      some 0
    else
     bif (decide (c_0 ≥ 97)) then
      (show Option Bool from
       bif (decide (c_0 ≤ 122)) then
        some (decide (c_0 ≤ 122))
       else
        bif (decide (c_0 ≥ 192)) then
         bif (decide (c_0 < 8192)) then
          some true
         else
          some (decide (c_0 > 12287))
        else
         some false).bind fun o120 =>
      bif o120 then
       some 1
      else
       some 0
     else
      bif (decide (c_0 ≥ 192)) then
       bif (decide (c_0 < 8192)) then
        some 1
       else
        bif (decide (c_0 > 12287)) then
         some 1
        else
         some 0
      else
       some 0
def qcQ (N:Nat) (t_0:Text) (to_2:Int) (out_19:List (Item)) (i_20:Int):Option (((List (Item)) × Int) ⊕ (((List (Item))))) :=
 bif (decide (i_20 < to_2)) then
  (idx t_0.end_ i_20).bind fun x26 =>
  bif (decide (x26 < 0)) then
   (idx t_0.l i_20).bind fun x37 =>
   (qdP N x37).bind fun r47 =>
   (app out_19 ([(Item.mk i_20 i_20 r47)]:List (Item))).bind fun l53 =>
   some (.inl (l53,(i_20 + 1)))
  else
   (idx t_0.end_ i_20).bind fun x58 =>
   (app out_19 ([(Item.mk i_20 x58 0)]:List (Item))).bind fun l71 =>
   (idx t_0.end_ i_20).bind fun x76 =>
   some (.inl (l71,(IntKind.wrap .i64 (x76 + 1))))
 else
  some (.inr out_19)
def qdC (N:Nat) (t_0:Text) (from_1:Int) (to_2:Int):Option (List (Item)) :=
 (iter (fun s=>qcQ N t_0 to_2 s.1 s.2) N ([],from_1)).bind fun o14 =>
 some o14
end Go.Proofs.YthhieiabfpkaaaaGreatDoor
