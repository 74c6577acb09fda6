/- Texts of this proof, joined by pack.py. -/
import Derived.Test.YtkhjeeakflefjaaGreatDoorPkKw3
import Derived.Test.YtkhjeeakflefjaaGreatDoorCards
import Derived.Test.YtkhjeeakflefjaaGreatDoorChecked
import Derived.Test.YtkhjeeakflefjaaGreatDoorProg
import Derived.Test.YtkhjeeakflefjaaGreatDoorRows
import Derived.Test.YtkhjeeakflefjaaGreatDoorTie
set_option linter.unusedVariables false
set_option linter.unusedSimpArgs false
namespace Go.Proofs.YtkhjeeakflefjaaGreatDoor
open Go.X
variable {u:World} {m0:Mem} {S:Segs} {w:World}
set_option maxHeartbeats 4000000
set_option maxRecDepth 100000
def qgK(u:World)(m0:Mem)(S:Segs)(pb0:Nat)(x0:Parser)(c2:Value)(c5:Value)(M6:List (Nat×Obj))(r:(List (Part))×Parser)(a:Act)(w:World):Prop:=
 ∃ m1 v0 c11 c14 M15,m0.le m1∧Ok u m1 ([(pb0,oc 101 [vs r.2.s,c11,vi r.2.next,c14,vi r.2.at_,vi r.2.e])]::M15::S) w∧a.defers=[]∧RVs Tryz.prog a w [.t 6 v0]∧(pL 6 qaS) m1 [v0] r.1∧r.2.s.length≤LIMS∧(pL 4 qa4) m1 [c11] r.2.l∧InR .i64 r.2.next∧OMap kS (oneV pB) m1 c14 r.2.names M15∧InR .i64 r.2.at_∧InR .i64 r.2.e
def qjp(u:World)(m0:Mem)(S:Segs)(pb0:Nat)(x0:Parser)(c2:Value)(c5:Value)(M6:List (Nat×Obj))(r:Part×Parser)(a:Act)(w:World):Prop:=
 ∃ m1 v0 c11 c14 M15,m0.le m1∧Ok u m1 ([(pb0,oc 101 [vs r.2.s,c11,vi r.2.next,c14,vi r.2.at_,vi r.2.e])]::M15::S) w∧a.defers=[]∧RVs Tryz.prog a w [.c 6 90 (.agg v0.toArray)]∧qaS m1 v0 r.1∧r.2.s.length≤LIMS∧(pL 4 qa4) m1 [c11] r.2.l∧InR .i64 r.2.next∧OMap kS (oneV pB) m1 c14 r.2.names M15∧InR .i64 r.2.at_∧InR .i64 r.2.e
def qjd(u:World)(m0:Mem)(S:Segs)(pb0:Nat)(x0:Parser)(c2:Value)(c5:Value)(M6:List (Nat×Obj))(r:Part×Parser)(a:Act)(w:World):Prop:=
 ∃ m1 v0 c11 c14 M15,m0.le m1∧Ok u m1 ([(pb0,oc 101 [vs r.2.s,c11,vi r.2.next,c14,vi r.2.at_,vi r.2.e])]::M15::S) w∧a.defers=[]∧RVs Tryz.prog a w [.c 6 90 (.agg v0.toArray)]∧qaS m1 v0 r.1∧r.2.s.length≤LIMS∧(pL 4 qa4) m1 [c11] r.2.l∧InR .i64 r.2.next∧OMap kS (oneV pB) m1 c14 r.2.names M15∧InR .i64 r.2.at_∧InR .i64 r.2.e
def qkv(u:World)(m0:Mem)(S:Segs)(pb0:Nat)(x0:Parser)(c2:Value)(c5:Value)(M6:List (Nat×Obj))(r:(List (Case))×Parser)(a:Act)(w:World):Prop:=
 ∃ m1 v0 c11 c14 M15,m0.le m1∧Ok u m1 ([(pb0,oc 101 [vs r.2.s,c11,vi r.2.next,c14,vi r.2.at_,vi r.2.e])]::M15::S) w∧a.defers=[]∧RVs Tryz.prog a w [.t 8 v0]∧(pL 2 qcY) m1 [v0] r.1∧r.2.s.length≤LIMS∧(pL 4 qa4) m1 [c11] r.2.l∧InR .i64 r.2.next∧OMap kS (oneV pB) m1 c14 r.2.names M15∧InR .i64 r.2.at_∧InR .i64 r.2.e
def qcB(N:Nat):Prop:=∀ {u:World} {m0:Mem} {S:Segs} {w:World} (depth_1:Int) (rdepth_1:InR .i64 depth_1) (counting_2:Bool) {pb0:Nat} {c2:Value} {c5:Value} {M6:List (Nat×Obj)} (x0:Parser) (l1:x0.s.length≤LIMS) (h3:(pL 4 qa4) m0 [c2] x0.l) (r4:InR .i64 x0.next) (h7:OMap kS (oneV pB) m0 c5 x0.names M6) (r8:InR .i64 x0.at_) (r9:InR .i64 x0.e) {r:(List (Part))×Parser} (hF:qam N depth_1 counting_2 x0=some r) (hG:Glob u) (ok:Ok u m0 ([(pb0,oc 101 [vs x0.s,c2,vi x0.next,c5,vi x0.at_,vi x0.e])]::M6::S) w),Calls Tryz.prog 36 [vp pb0,vi depth_1,vb counting_2].toArray w λe w'=>∃ m1 v0 c11 c14 M15,e=.returned v0∧m0.le m1∧Ok u m1 ([(pb0,oc 101 [vs r.2.s,c11,vi r.2.next,c14,vi r.2.at_,vi r.2.e])]::M15::S) w'∧(pL 6 qaS) m1 [v0] r.1∧r.2.s.length≤LIMS∧(pL 4 qa4) m1 [c11] r.2.l∧InR .i64 r.2.next∧OMap kS (oneV pB) m1 c14 r.2.names M15∧InR .i64 r.2.at_∧InR .i64 r.2.e
def qcE(N:Nat):Prop:=∀ {u:World} {m0:Mem} {S:Segs} {w:World} (depth_1:Int) (rdepth_1:InR .i64 depth_1) (counting_2:Bool) {pb0:Nat} {c2:Value} {c5:Value} {M6:List (Nat×Obj)} (x0:Parser) (l1:x0.s.length≤LIMS) (h3:(pL 4 qa4) m0 [c2] x0.l) (r4:InR .i64 x0.next) (h7:OMap kS (oneV pB) m0 c5 x0.names M6) (r8:InR .i64 x0.at_) (r9:InR .i64 x0.e) {r:Part×Parser} (hF:qav N depth_1 counting_2 x0=some r) (hG:Glob u) (ok:Ok u m0 ([(pb0,oc 101 [vs x0.s,c2,vi x0.next,c5,vi x0.at_,vi x0.e])]::M6::S) w),Calls Tryz.prog 58 [vp pb0,vi depth_1,vb counting_2].toArray w λe w'=>∃ m1 v0 c11 c14 M15,e=.returned (.agg v0.toArray)∧m0.le m1∧Ok u m1 ([(pb0,oc 101 [vs r.2.s,c11,vi r.2.next,c14,vi r.2.at_,vi r.2.e])]::M15::S) w'∧qaS m1 v0 r.1∧r.2.s.length≤LIMS∧(pL 4 qa4) m1 [c11] r.2.l∧InR .i64 r.2.next∧OMap kS (oneV pB) m1 c14 r.2.names M15∧InR .i64 r.2.at_∧InR .i64 r.2.e
def qcq(N:Nat):Prop:=∀ {u:World} {m0:Mem} {S:Segs} {w:World} (depth_1:Int) (rdepth_1:InR .i64 depth_1) (counting_2:Bool) {pb0:Nat} {c2:Value} {c5:Value} {M6:List (Nat×Obj)} (x0:Parser) (l1:x0.s.length≤LIMS) (h3:(pL 4 qa4) m0 [c2] x0.l) (r4:InR .i64 x0.next) (h7:OMap kS (oneV pB) m0 c5 x0.names M6) (r8:InR .i64 x0.at_) (r9:InR .i64 x0.e) {r:Part×Parser} (hF:qat N depth_1 counting_2 x0=some r) (hG:Glob u) (ok:Ok u m0 ([(pb0,oc 101 [vs x0.s,c2,vi x0.next,c5,vi x0.at_,vi x0.e])]::M6::S) w),Calls Tryz.prog 59 [vp pb0,vi depth_1,vb counting_2].toArray w λe w'=>∃ m1 v0 c11 c14 M15,e=.returned (.agg v0.toArray)∧m0.le m1∧Ok u m1 ([(pb0,oc 101 [vs r.2.s,c11,vi r.2.next,c14,vi r.2.at_,vi r.2.e])]::M15::S) w'∧qaS m1 v0 r.1∧r.2.s.length≤LIMS∧(pL 4 qa4) m1 [c11] r.2.l∧InR .i64 r.2.next∧OMap kS (oneV pB) m1 c14 r.2.names M15∧InR .i64 r.2.at_∧InR .i64 r.2.e
def qcV(N:Nat):Prop:=∀ {u:World} {m0:Mem} {S:Segs} {w:World} (kind_1:Int) (rkind_1:InR .i64 kind_1) (depth_2:Int) (rdepth_2:InR .i64 depth_2) (counting_3:Bool) {pb0:Nat} {c2:Value} {c5:Value} {M6:List (Nat×Obj)} (x0:Parser) (l1:x0.s.length≤LIMS) (h3:(pL 4 qa4) m0 [c2] x0.l) (r4:InR .i64 x0.next) (h7:OMap kS (oneV pB) m0 c5 x0.names M6) (r8:InR .i64 x0.at_) (r9:InR .i64 x0.e) {r:(List (Case))×Parser} (hF:qay N kind_1 depth_2 counting_3 x0=some r) (hG:Glob u) (ok:Ok u m0 ([(pb0,oc 101 [vs x0.s,c2,vi x0.next,c5,vi x0.at_,vi x0.e])]::M6::S) w),Calls Tryz.prog 93 [vp pb0,vi kind_1,vi depth_2,vb counting_3].toArray w λe w'=>∃ m1 v0 c11 c14 M15,e=.returned v0∧m0.le m1∧Ok u m1 ([(pb0,oc 101 [vs r.2.s,c11,vi r.2.next,c14,vi r.2.at_,vi r.2.e])]::M15::S) w'∧(pL 2 qcY) m1 [v0] r.1∧r.2.s.length≤LIMS∧(pL 4 qa4) m1 [c11] r.2.l∧InR .i64 r.2.next∧OMap kS (oneV pB) m1 c14 r.2.names M15∧InR .i64 r.2.at_∧InR .i64 r.2.e
theorem qia(N:Nat)(ih_syntax_parser_message:qcB N)(ih_syntax_parser_element:qcE N)(ih_syntax_parser_argument:qcq N)(ih_syntax_parser_cases:qcV N):qcB (N+1):=by
 intro u m0 S w depth_1 rdepth_1 counting_2 pb0 c2 c5 M6 x0 l1 h3 r4 h7 r8 r9 r hF hG ok
 have le_m0:=Mem.le.refl m0
 have hF0:qca (qam N) (qav N) (qat N) (qay N) N depth_1 counting_2 x0=some r:=hF
 have hF:=hF0
 clear hF0
 unfold qca at hF
 refine en (qgK u m0 S pb0 x0 c2 c5 M6) r Tryz.func36 rfl rfl rfl (by rintro a w ⟨m1,v0,c11,c14,M15,hle,ok,hd,hrv,h0,h1,h2,h3,h4,h5,h6⟩;exact qbf [.t 6 v0] hd rfl hrv ⟨m1,v0,c11,c14,M15,rfl,hle,ok,h0,h1,h2,h3,h4,h5,h6⟩) λfin a E=>sg<|aw E rfl λa E=>sg<|aw E rfl λa E=>wp_seq<|wp_block ?_
 obtain⟨M31,ok,h32⟩:=qd9 (e:=90) (k:=6) (R:=qaS) ok
 refine bd hF λo33 hL hF=>qbb _ (λ(s:(List (Part))×Parser) a w=>∃ m34 c35 M36 c39 c42 M43,m0.le m34∧Ok u m34 (M36::[(pb0,oc 101 [vs s.2.s,c39,vi s.2.next,c42,vi s.2.at_,vi s.2.e])]::M43::S) w∧Env 77 a [(0,vp pb0),(1,vi depth_1),(2,vb counting_2),(7,c35)]∧ORow 90 6 qaS m34 c35 s.1 M36∧s.2.s.length≤LIMS∧(pL 4 qa4) m34 [c39] s.2.l∧InR .i64 s.2.next∧OMap kS (oneV pB) m34 c42 s.2.names M43∧InR .i64 s.2.at_∧InR .i64 s.2.e) (λ(b:((Parser×(List (Part)))⊕((List (Part))×Parser))) e a w=>(Sum.elim (λb262=>e=(.exit 0)∧∃ m263 c265 c268 M269 c273 M274,m0.le m263∧Ok u m263 (M274::[(pb0,oc 101 [vs b262.1.s,c265,vi b262.1.next,c268,vi b262.1.at_,vi b262.1.e])]::M269::S) w∧Env 77 a [(7,c273)]∧b262.1.s.length≤LIMS∧(pL 4 qa4) m263 [c265] b262.1.l∧InR .i64 b262.1.next∧OMap kS (oneV pB) m263 c268 b262.1.names M269∧InR .i64 b262.1.at_∧InR .i64 b262.1.e∧ORow 90 6 qaS m263 c273 b262.2 M274) (λb276=>e=.ret∧qgK u m0 S pb0 x0 c2 c5 M6 b276 a w)) b) ?_ ?_ N _ a w hL ⟨m0,(Value.slice none 0 0),M31,c2,c5,M6,Mem.le.refl _,ok,E.keep [0,1,2,7],h32,l1,h3,r4,h7,r8,r9⟩
 rotate_left
 ·intro e a w _ hO
  rcases o33 with o33 | o33
  rotate_left
  ·obtain⟨rfl,hret⟩:=hO
   refine qaA<|qak ?_
   exact fin hF hret
  have hF:=qdI hF
  obtain⟨rfl,m247,c249,c252,M253,c257,M258,hle,ok,E,l248,h250,r251,h254,r255,r256,h259⟩:=hO
  have le_m0:=le_m0.trans hle
  have h3:=(mL qac).up hle h3
  refine qbh<|qaa<|sg<|mv E rfl λa E=>aw E rfl λa E=>wp_ret ?_
  obtain⟨m260,hle,ok,hfz⟩:=(ok.frs 0 rfl).freeze
  have h261:=ORow.froz qah h259 hle hfz (by decide)
  have le_m0:=le_m0.trans hle
  have h3:=(mL qac).up hle h3
  have h250:=(mL qac).up hle h250
  have h254:=OMap.up (qbc mB) hle h254
  exact fin hF ⟨m260,c257,c249,c252,M253,le_m0,ok,E.d,rz E rfl,h261,l248,h250,r251,h254,r255,r256⟩
 rintro⟨v47,v48⟩ a w r ⟨m49,c50,M51,c54,c57,M58,hle,ok,E,h52,l53,h55,r56,h59,r60,r61⟩ hF
 replace hF:qbo (qam N) (qav N) (qat N) (qay N) N depth_1 counting_2 v47 v48=some r:=hF
 unfold qbo at hF
 have le_m0:=le_m0.trans hle
 have h3:=(mL qac).up hle h3
 refine wp_seq<|sg<|mv E rfl λa E=>lw E (qan rfl) λa E=>fk E ok qhJ qiY rfl 1 rfl rfl λa E=>lw E (qaz rfl rfl) λa E=>wn<|cg E rfl hF (λc62 hF=>?_) λc62 hF=>?_
 ·refine wp_exit<|qaM ?_
  cases hF
  exact so (sl ⟨rfl,⟨m49,c54,c57,M58,c50,M51,le_m0,ok,E.keep [7],l53,h55,r56,h59,r60,r61,h52⟩⟩)
 refine wp_skip<|qaa<|wp_block<|sg<|mv E rfl λa E=>?_
 obtain⟨r63,e64,hF⟩:=bnd hF
 replace ok:Ok u m49 ([(pb0,oc 101 [vs v48.s,c54,vi v48.next,c57,vi v48.at_,vi v48.e])]::M58::M51::S) w:=(ok.pk 3 [1,2,0] rfl (by decide))
 refine qae E qdx rfl (qaC N v48 l53 h55 r56 h59 r60 r61 e64 hG ok) rfl rfl ?_
 rintro _ w ⟨⟨rfl,ok⟩,r65⟩
 refine⟨_,rfl,λa E=>?_⟩
 refine wn<|wp_block<|sg<|lw E (qaz rfl rfl) λa E=>av E rfl λa E=>wn<|cf E rfl hF (λc66 hF=>?_) λc66 hF=>?_
 ·refine sg<|mv E rfl λa E=>bd hF λr67 e68 hF=>qae E qdq rfl (qaB N 1 (ir 1) v48 l53 h55 r56 h59 r60 r61 e68 hG ok) rfl rfl ?_
  rintro _ w ⟨m69,c72,c75,M76,rfl,hle,ok,l70,l71,h73,r74,h77,r78,r79⟩
  have le_m0:=le_m0.trans hle
  have h3:=(mL qac).up hle h3
  have h52:=ORow.up qah hle h52
  have h55:=(mL qac).up hle h55
  refine⟨_,rfl,λa E=>?_⟩
  refine bd hF λr80 e81 hF=>qae E qwg rfl (qmw N r67.1 l70 e81 hG ok) rfl rfl ?_
  rintro _ w ⟨⟨rfl,ok⟩,l82,r83,r84⟩
  refine⟨_,rfl,λa E=>?_⟩
  refine mv E rfl λa E=>lw E (qag rfl rfl) λa E=>lw E (qag rfl rfl) λa E=>lw E (qag rfl rfl) λa E=>av E rfl λa E=>av E rfl λa E=>av E rfl λa E=>wn<|qab<|mz E rfl rfl λa E=>lw E (qbY (ps:=[(0,.const (vi 1)),(1,.tmp 29)]) (qs:=[(0,[vi 1]),(1,[vs r80.1])]) (cs:=[vi 1,vs r80.1,(vs ([])),(vs ([])),(Value.slice none 0 0),(Value.slice none 0 0)]) qbw qgw rfl ⟨rfl,rfl,rfl,⟨rfl,rfl,rfl,trivial⟩⟩ rfl) λa E=>qbF (R:=qaS) (xo:=[.tmp 30]) (xs:=([(Part.mk 1 r80.1 ([]) ([]) ([]) ([]))]:List (Part))) E ok qbG qbw rfl ⟨⟨_,rfl,rfl,(qbd.2 ⟨_,_,rfl,(ir 1),l82,(Nat.zero_le _),(Nat.zero_le _),qbt,qbt⟩)⟩,trivial⟩ rfl rfl rfl rfl λc85 M86 a w E ok h87=>bd hF λl88 e89 hF=>qcf (R:=qaS) E ok 3 qah qbG Tryz.underlying38 rfl h52 (qbD.ofRow h87 0 rfl ok) e89 ⟨_,qbw,rfl⟩ rfl rfl rfl rfl λc90 M91 a w E ok h92=>av E rfl λa E=>wpList_nil<|qal<|qal ?_
  cases hF
  exact qau ⟨m69,c90,M91,c72,c75,M76,le_m0,(ok.pk 4 [3,1,2] rfl (by decide)),E.keep [0,1,2,7],h92,l71,h73,r74,h77,r78,r79⟩
 refine sg<|lw E (qaz rfl rfl) λa E=>aw E rfl λa E=>cf E rfl hF (λc93 hF=>?_) λc93 hF=>?_
 ·refine wp_seq<|sg<|mv E rfl λa E=>lw E (qa9 rfl) λa E=>wn<|bd hF λo94 hJ hF=>qaO (Q':=λe a w=>e=.normal∧∃ m95 c97 c100 M101,m49.le m95∧Ok u m95 ([(pb0,oc 101 [vs o94.s,c97,vi o94.next,c100,vi o94.at_,vi o94.e])]::M101::M51::S) w∧Env 77 a [(0,vp pb0),(1,vi depth_1),(2,vb counting_2),(7,c50)]∧o94.s.length≤LIMS∧(pL 4 qa4) m95 [c97] o94.l∧InR .i64 o94.next∧OMap kS (oneV pB) m95 c100 o94.names M101∧InR .i64 o94.at_∧InR .i64 o94.e) ?_ ?_
  ·have hF:=hJ
   have le_m49:=Mem.le.refl m49
   refine cg E rfl hF (λc105 hF=>?_) λc105 hF=>?_
   ·refine wp_skip ?_
    cases hF
    exact⟨rfl,⟨m49,c54,c57,M58,le_m49,ok,E.keep [0,1,2,7],l53,h55,r56,h59,r60,r61⟩⟩
   refine qab<|mv E rfl λa E=>bd hF λr106 e107 hF=>qae E qfN rfl (qbn N 3 (ir 3) v48 l53 h55 r56 h59 r60 r61 e107 hG ok) rfl rfl ?_
   rintro _ w ⟨m108,c110,c113,M114,rfl,hle,ok,l109,h111,r112,h115,r116,r117⟩
   have le_m0:=le_m0.trans hle
   have le_m49:=le_m49.trans hle
   have h3:=(mL qac).up hle h3
   have h52:=ORow.up qah hle h52
   have h55:=(mL qac).up hle h55
   refine⟨_,rfl,λa E=>?_⟩
   refine wpList_nil ?_
   cases hF
   exact⟨rfl,⟨m108,c110,c113,M114,le_m49,ok,E.keep [0,1,2,7],l109,h111,r112,h115,r116,r117⟩⟩
  intro e a w hO
  obtain⟨rfl,m118,c120,c123,M124,hle,ok,E,l119,h121,r122,h125,r126,r127⟩:=hO
  have le_m0:=le_m0.trans hle
  have h3:=(mL qac).up hle h3
  have h52:=ORow.up qah hle h52
  have h55:=(mL qac).up hle h55
  refine qaa<|sg<|mv E rfl λa E=>bd hF λr128 e129 hF=>qae E qdq rfl (qaB N 4 (ir 4) o94 l119 h121 r122 h125 r126 r127 e129 hG ok) rfl rfl ?_
  rintro _ w ⟨m130,c133,c136,M137,rfl,hle,ok,l131,l132,h134,r135,h138,r139,r140⟩
  have le_m0:=le_m0.trans hle
  have h3:=(mL qac).up hle h3
  have h52:=ORow.up qah hle h52
  have h55:=(mL qac).up hle h55
  have h121:=(mL qac).up hle h121
  refine⟨_,rfl,λa E=>?_⟩
  refine wn<|qab<|mv E rfl λa E=>lw E (qbY (ps:=[(0,.const (vi 10))]) (qs:=[(0,[vi 10])]) (cs:=[vi 10,(vs ([])),(vs ([])),(vs ([])),(Value.slice none 0 0),(Value.slice none 0 0)]) qbw qgw rfl ⟨rfl,rfl,rfl,trivial⟩ rfl) λa E=>qbF (R:=qaS) (xo:=[.tmp 42]) (xs:=([(Part.mk 10 ([]) ([]) ([]) ([]) ([]))]:List (Part))) E ok qbG qbw rfl ⟨⟨_,rfl,rfl,(qbd.2 ⟨_,_,rfl,(ir 10),(Nat.zero_le _),(Nat.zero_le _),(Nat.zero_le _),qbt,qbt⟩)⟩,trivial⟩ rfl rfl rfl rfl λc141 M142 a w E ok h143=>bd hF λl144 e145 hF=>qcf (R:=qaS) E ok 3 qah qbG Tryz.underlying38 rfl h52 (qbD.ofRow h143 0 rfl ok) e145 ⟨_,qbw,rfl⟩ rfl rfl rfl rfl λc146 M147 a w E ok h148=>av E rfl λa E=>wpList_nil<|qal<|qal ?_
  cases hF
  exact qau ⟨m130,c146,M147,c133,c136,M137,le_m0,(ok.pk 4 [3,1,2] rfl (by decide)),E.keep [0,1,2,7],h148,l132,h134,r135,h138,r139,r140⟩
 refine sg<|lw E (qaz rfl rfl) λa E=>aw E rfl λa E=>cf E rfl hF (λc149 hF=>?_) λc149 hF=>?_
 ·refine sg<|mz E rfl rfl λa E=>lw E (qbk rfl rfl) λa E=>bd hF λr150 e151 hF=>qae E qqK rfl (qf5 N (IntKind.wrap .i64 (depth_1+1)) (InR.wrap _ _) v48 l53 h55 r56 h59 r60 r61 e151 hG ok) rfl rfl ?_
  rintro _ w ⟨m152,c154,c157,M158,rfl,hle,ok,l153,h155,r156,h159,r160,r161⟩
  have le_m0:=le_m0.trans hle
  have h3:=(mL qac).up hle h3
  have h52:=ORow.up qah hle h52
  have h55:=(mL qac).up hle h55
  refine⟨_,rfl,λa E=>?_⟩
  refine wn<|qab<|mz E rfl rfl λa E=>bd hF λr162 e163 hF=>qae E qdq rfl (qaB N 7 (ir 7) r150 l153 h155 r156 h159 r160 r161 e163 hG ok) rfl rfl ?_
  rintro _ w ⟨m164,c167,c170,M171,rfl,hle,ok,l165,l166,h168,r169,h172,r173,r174⟩
  have le_m0:=le_m0.trans hle
  have h3:=(mL qac).up hle h3
  have h52:=ORow.up qah hle h52
  have h55:=(mL qac).up hle h55
  have h155:=(mL qac).up hle h155
  refine⟨_,rfl,λa E=>?_⟩
  refine lw E (qbY (ps:=[(0,.const (vi 11)),(2,.tmp 53)]) (qs:=[(0,[vi 11]),(2,[vs r162.1])]) (cs:=[vi 11,(vs ([])),vs r162.1,(vs ([])),(Value.slice none 0 0),(Value.slice none 0 0)]) qbw qgw rfl ⟨rfl,rfl,rfl,⟨rfl,rfl,rfl,trivial⟩⟩ rfl) λa E=>qbF (R:=qaS) (xo:=[.tmp 54]) (xs:=([(Part.mk 11 ([]) r162.1 ([]) ([]) ([]))]:List (Part))) E ok qbG qbw rfl ⟨⟨_,rfl,rfl,(qbd.2 ⟨_,_,rfl,(ir 11),(Nat.zero_le _),l165,(Nat.zero_le _),qbt,qbt⟩)⟩,trivial⟩ rfl rfl rfl rfl λc175 M176 a w E ok h177=>bd hF λl178 e179 hF=>qcf (R:=qaS) E ok 3 qah qbG Tryz.underlying38 rfl h52 (qbD.ofRow h177 0 rfl ok) e179 ⟨_,qbw,rfl⟩ rfl rfl rfl rfl λc180 M181 a w E ok h182=>av E rfl λa E=>wpList_nil<|qal<|qal ?_
  cases hF
  exact qau ⟨m164,c180,M181,c167,c170,M171,le_m0,(ok.pk 4 [3,1,2] rfl (by decide)),E.keep [0,1,2,7],h182,l166,h168,r169,h172,r173,r174⟩
 refine sg<|lw E (qaz rfl rfl) λa E=>aw E rfl λa E=>cf E rfl hF (λc183 hF=>?_) λc183 hF=>?_
 ·refine qab<|mz E rfl rfl λa E=>mv E rfl λa E=>lw E (qbk rfl rfl) λa E=>mv E rfl λa E=>bd hF λr184 e185 hF=>qae E qvz rfl (ih_syntax_parser_element (IntKind.wrap .i64 (depth_1+1)) (InR.wrap _ _) counting_2 v48 l53 h55 r56 h59 r60 r61 e185 hG ok) rfl rfl ?_
  rintro _ w ⟨m186,vs187,c190,c193,M194,rfl,hle,ok,h188,l189,h191,r192,h195,r196,r197⟩
  have le_m0:=le_m0.trans hle
  have h3:=(mL qac).up hle h3
  have h52:=ORow.up qah hle h52
  have h55:=(mL qac).up hle h55
  obtain⟨c202,c204,rfl,r198,l199,l200,l201,h203,h205⟩:=(qbd.1 h188)
  refine⟨_,rfl,λa E=>?_⟩
  refine qbF (R:=qaS) (xo:=[.tmp 64]) (xs:=([r184.1]:List (Part))) E ok qbG qbw rfl ⟨⟨_,rfl,rfl,(qbd.2 ⟨_,_,rfl,r198,l199,l200,l201,h203,h205⟩)⟩,trivial⟩ rfl rfl rfl rfl λc206 M207 a w E ok h208=>bd hF λl209 e210 hF=>qcf (R:=qaS) E ok 3 qah qbG Tryz.underlying38 rfl h52 (qbD.ofRow h208 0 rfl ok) e210 ⟨_,qbw,rfl⟩ rfl rfl rfl rfl λc211 M212 a w E ok h213=>av E rfl λa E=>wpList_nil<|qal<|qal ?_
  cases hF
  exact qau ⟨m186,c211,M212,c190,c193,M194,le_m0,(ok.pk 4 [3,1,2] rfl (by decide)),E.keep [0,1,2,7],h213,l189,h191,r192,h195,r196,r197⟩
 refine sg<|lw E (qaz rfl rfl) λa E=>aw E rfl λa E=>cg E rfl hF (λc214 hF=>?_) λc214 hF=>?_
 ·refine sg<|mv E rfl λa E=>aw E rfl λa E=>wp_ret<|qaA<|qaA ?_
  obtain⟨m245,hle,ok,hfz⟩:=(ok.frs 2 rfl).freeze
  have h246:=ORow.froz qah h52 hle hfz (by decide)
  have le_m0:=le_m0.trans hle
  have h3:=(mL qac).up hle h3
  have h55:=(mL qac).up hle h55
  have h59:=OMap.up (qbc mB) hle h59
  cases hF
  exact so (sr ⟨rfl,⟨m245,c50,c54,c57,M58,le_m0,ok,E.d,rz E rfl,h246,l53,h55,r56,h59,r60,r61⟩⟩)
 refine qab<|mz E rfl rfl λa E=>mz E rfl rfl λa E=>bd hF λr215 e216 hF=>qae E qv7 rfl (ih_syntax_parser_argument depth_1 rdepth_1 counting_2 v48 l53 h55 r56 h59 r60 r61 e216 hG ok) rfl rfl ?_
 rintro _ w ⟨m217,vs218,c221,c224,M225,rfl,hle,ok,h219,l220,h222,r223,h226,r227,r228⟩
 have le_m0:=le_m0.trans hle
 have h3:=(mL qac).up hle h3
 have h52:=ORow.up qah hle h52
 have h55:=(mL qac).up hle h55
 obtain⟨c233,c235,rfl,r229,l230,l231,l232,h234,h236⟩:=(qbd.1 h219)
 refine⟨_,rfl,λa E=>?_⟩
 refine qbF (R:=qaS) (xo:=[.tmp 73]) (xs:=([r215.1]:List (Part))) E ok qbG qbw rfl ⟨⟨_,rfl,rfl,(qbd.2 ⟨_,_,rfl,r229,l230,l231,l232,h234,h236⟩)⟩,trivial⟩ rfl rfl rfl rfl λc237 M238 a w E ok h239=>bd hF λl240 e241 hF=>qcf (R:=qaS) E ok 3 qah qbG Tryz.underlying38 rfl h52 (qbD.ofRow h239 0 rfl ok) e241 ⟨_,qbw,rfl⟩ rfl rfl rfl rfl λc242 M243 a w E ok h244=>av E rfl λa E=>wpList_nil<|qal<|qal ?_
 cases hF
 exact qau ⟨m217,c242,M243,c221,c224,M225,le_m0,(ok.pk 4 [3,1,2] rfl (by decide)),E.keep [0,1,2,7],h244,l220,h222,r223,h226,r227,r228⟩
theorem qh9(N:Nat)(ih_syntax_parser_message:qcB N)(ih_syntax_parser_element:qcE N)(ih_syntax_parser_argument:qcq N)(ih_syntax_parser_cases:qcV N):qcE (N+1):=by
 intro u m0 S w depth_1 rdepth_1 counting_2 pb0 c2 c5 M6 x0 l1 h3 r4 h7 r8 r9 r hF hG ok
 have le_m0:=Mem.le.refl m0
 have hF0:qb9 (qam N) (qav N) (qat N) (qay N) N depth_1 counting_2 x0=some r:=hF
 have hF:=hF0
 clear hF0
 unfold qb9 at hF
 refine en (qjp u m0 S pb0 x0 c2 c5 M6) r Tryz.func58 rfl rfl rfl (by rintro a w ⟨m1,v0,c11,c14,M15,hle,ok,hd,hrv,h0,h1,h2,h3,h4,h5,h6⟩;exact qbf [.c 6 90 (.agg v0.toArray)] hd rfl hrv ⟨m1,v0,c11,c14,M15,rfl,hle,ok,h0,h1,h2,h3,h4,h5,h6⟩) λfin a E=>sg<|qaL E ok qbw rfl rfl λb19 a w E ok=>wn<|sg<|mz E rfl rfl λa E=>?_
 obtain⟨r20,e21,hF⟩:=bnd hF
 replace ok:Ok u m0 ([(pb0,oc 101 [vs x0.s,c2,vi x0.next,c5,vi x0.at_,vi x0.e])]::M6::[(b19,oc 90 [vi 0,(vs ([])),(vs ([])),(vs ([])),(Value.slice none 0 0),(Value.slice none 0 0)])]::S) w:=(ok.pk 3 [1,2,0] rfl (by decide))
 refine qae E qqK rfl (qf5 N depth_1 rdepth_1 x0 l1 h3 r4 h7 r8 r9 e21 hG ok) rfl rfl ?_
 rintro _ w ⟨m22,c24,c27,M28,rfl,hle,ok,l23,h25,r26,h29,r30,r31⟩
 have le_m0:=le_m0.trans hle
 have h3:=(mL qac).up hle h3
 refine⟨_,rfl,λa E=>?_⟩
 refine wn<|sg<|mv E rfl λa E=>bd hF λr32 e33 hF=>qae E qdq rfl (qaB N 5 (ir 5) r20 l23 h25 r26 h29 r30 r31 e33 hG ok) rfl rfl ?_
 rintro _ w ⟨m34,c37,c40,M41,rfl,hle,ok,l35,l36,h38,r39,h42,r43,r44⟩
 have le_m0:=le_m0.trans hle
 have h3:=(mL qac).up hle h3
 have h25:=(mL qac).up hle h25
 refine⟨_,rfl,λa E=>?_⟩
 refine lw E (qbY (ps:=[(0,.const (vi 11)),(2,.tmp 12)]) (qs:=[(0,[vi 11]),(2,[vs r32.1])]) (cs:=[vi 11,(vs ([])),vs r32.1,(vs ([])),(Value.slice none 0 0),(Value.slice none 0 0)]) qbw qgw rfl ⟨rfl,rfl,rfl,⟨rfl,rfl,rfl,trivial⟩⟩ rfl) λa E=>qaL E ok qbw rfl rfl λb45 a w E ok=>qai E ok 0 rfl rfl rfl qel rfl rfl ⟨rfl,rfl,rfl,rfl,rfl,rfl,trivial⟩ rfl rfl λw ok=>wn<|sg<|mv E rfl λa E=>mz E rfl rfl λa E=>?_
 obtain⟨r46,e47,hF⟩:=bnd hF
 replace ok:Ok u m34 ([(pb0,oc 101 [vs r32.2.s,c37,vi r32.2.next,c40,vi r32.2.at_,vi r32.2.e])]::M41::[(b45,oc 90 [vi 11,(vs ([])),vs r32.1,(vs ([])),(Value.slice none 0 0),(Value.slice none 0 0)])]::[(b19,oc 90 [vi 0,(vs ([])),(vs ([])),(vs ([])),(Value.slice none 0 0),(Value.slice none 0 0)])]::S) w:=(ok.pk 4 [1,2,0,3] rfl (by decide))
 refine qae E qma rfl (ih_syntax_parser_message depth_1 rdepth_1 counting_2 r32.2 l36 h38 r39 h42 r43 r44 e47 hG ok) rfl rfl ?_
 rintro _ w ⟨m48,c49,c52,c55,M56,rfl,hle,ok,h50,l51,h53,r54,h57,r58,r59⟩
 have le_m0:=le_m0.trans hle
 have h3:=(mL qac).up hle h3
 have h25:=(mL qac).up hle h25
 have h38:=(mL qac).up hle h38
 refine⟨_,rfl,λa E=>?_⟩
 refine fv E qc1 rfl λa E=>qai E ok 2 rfl rfl rfl qgz (qdy h50) rfl ⟨(qbT h50),trivial⟩ rfl rfl λw ok=>wn<|wp_seq<|wp_seq<|bd hF λo60 hJ hF=>qaO (Q':=λe a w=>e=.normal∧Ok u m48 ([(pb0,oc 101 [vs r46.2.s,c52,vi r46.2.next,c55,vi r46.2.at_,vi r46.2.e])]::M56::[(b45,oc 90 [vi 11,(vs ([])),vs r32.1,(vs ([])),(Value.slice none 0 0),c49])]::[(b19,oc 90 [vi 0,(vs ([])),(vs ([])),(vs ([])),(Value.slice none 0 0),(Value.slice none 0 0)])]::S) w∧Env 43 a [(0,vp pb0),(6,vp b19),(7,vp b45),(37,vb o60)]) ?_ ?_
 rotate_left
 ·intro e a w hO
  obtain⟨rfl,ok,E⟩:=hO
  refine qaa<|cg E rfl hF (λc91 hF=>?_) λc91 hF=>?_
  ·refine wp_skip<|qaa<|sg<|mv E rfl λa E=>bd hF λr117 e118 hF=>qae E qdq rfl (qaB N 6 (ir 6) r46.2 l51 h53 r54 h57 r58 r59 e118 hG ok) rfl rfl ?_
   rintro _ w ⟨m119,c122,c125,M126,rfl,hle,ok,l120,l121,h123,r124,h127,r128,r129⟩
   have le_m0:=le_m0.trans hle
   have h3:=(mL qac).up hle h3
   have h25:=(mL qac).up hle h25
   have h38:=(mL qac).up hle h38
   have h50:=(mL qah).up hle h50
   have h53:=(mL qac).up hle h53
   refine⟨_,rfl,λa E=>?_⟩
   refine wn<|sg<|lv E ok (qao (cs:=[vi 11,(vs ([])),vs r32.1,(vs ([])),(Value.slice none 0 0),c49]) qct rfl rfl (Holds.own 2 rfl rfl)) λa E=>qai E ok 3 rfl rfl rfl qel rfl rfl ⟨rfl,rfl,rfl,rfl,rfl,(qbT h50),trivial⟩ rfl rfl λw ok=>wn<|wp_ret ?_
   exact fin hF ⟨m119,[vi 11,(vs ([])),vs r32.1,(vs ([])),(Value.slice none 0 0),c49],c122,c125,M126,le_m0,(ok.pk 4 [0,1] rfl (by decide)),E.d,⟨rv_c (cs:=[vi 11,(vs ([])),vs r32.1,(vs ([])),(Value.slice none 0 0),c49]) E ok rfl qct rfl (Holds.own 3 rfl rfl),trivial⟩,(qbd.2 ⟨_,_,rfl,(ir 11),(Nat.zero_le _),l35,(Nat.zero_le _),qbt,h50⟩),l121,h123,r124,h127,r128,r129⟩
  refine qab<|mv E rfl λa E=>bd hF λr92 e93 hF=>qae E qfN rfl (qbn N 3 (ir 3) r46.2 l51 h53 r54 h57 r58 r59 e93 hG ok) rfl rfl ?_
  rintro _ w ⟨m94,c96,c99,M100,rfl,hle,ok,l95,h97,r98,h101,r102,r103⟩
  have le_m0:=le_m0.trans hle
  have h3:=(mL qac).up hle h3
  have h25:=(mL qac).up hle h25
  have h38:=(mL qac).up hle h38
  have h50:=(mL qah).up hle h50
  have h53:=(mL qac).up hle h53
  refine⟨_,rfl,λa E=>?_⟩
  refine wn<|sg<|mv E rfl λa E=>bd hF λr104 e105 hF=>qae E qdq rfl (qaB N 6 (ir 6) r92 l95 h97 r98 h101 r102 r103 e105 hG ok) rfl rfl ?_
  rintro _ w ⟨m106,c109,c112,M113,rfl,hle,ok,l107,l108,h110,r111,h114,r115,r116⟩
  have le_m0:=le_m0.trans hle
  have h3:=(mL qac).up hle h3
  have h25:=(mL qac).up hle h25
  have h38:=(mL qac).up hle h38
  have h50:=(mL qah).up hle h50
  have h53:=(mL qac).up hle h53
  have h97:=(mL qac).up hle h97
  refine⟨_,rfl,λa E=>?_⟩
  refine wn<|sg<|lv E ok (qao (cs:=[vi 11,(vs ([])),vs r32.1,(vs ([])),(Value.slice none 0 0),c49]) qct rfl rfl (Holds.own 2 rfl rfl)) λa E=>qai E ok 3 rfl rfl rfl qel rfl rfl ⟨rfl,rfl,rfl,rfl,rfl,(qbT h50),trivial⟩ rfl rfl λw ok=>wn<|wp_ret ?_
  exact fin hF ⟨m106,[vi 11,(vs ([])),vs r32.1,(vs ([])),(Value.slice none 0 0),c49],c109,c112,M113,le_m0,(ok.pk 4 [0,1] rfl (by decide)),E.d,⟨rv_c (cs:=[vi 11,(vs ([])),vs r32.1,(vs ([])),(Value.slice none 0 0),c49]) E ok rfl qct rfl (Holds.own 3 rfl rfl),trivial⟩,(qbd.2 ⟨_,_,rfl,(ir 11),(Nat.zero_le _),l35,(Nat.zero_le _),qbt,h50⟩),l108,h110,r111,h114,r115,r116⟩
 have hF:=hJ
 refine bd hF λr61 e62 hF=>qbx (r61 != 6) (λc64=>?_) (λc64=>?_)
 ·have hF:=qbz c64 hF
  cases hF
  refine qbl [] (Cls u m48 ([(pb0,oc 101 [vs r46.2.s,c52,vi r46.2.next,c55,vi r46.2.at_,vi r46.2.e])]::M56::[(b45,oc 90 [vi 11,(vs ([])),vs r32.1,(vs ([])),(Value.slice none 0 0),c49])]::[(b19,oc 90 [vi 0,(vs ([])),(vs ([])),(vs ([])),(Value.slice none 0 0),(Value.slice none 0 0)])]::[])) (Cls u m48 ([(pb0,oc 101 [vs r46.2.s,c52,vi r46.2.next,c55,vi r46.2.at_,vi r46.2.e])]::M56::[(b45,oc 90 [vi 11,(vs ([])),vs r32.1,(vs ([])),(Value.slice none 0 0),c49])]::[(b19,oc 90 [vi 0,(vs ([])),(vs ([])),(vs ([])),(Value.slice none 0 0),(Value.slice none 0 0)])]::[])) (by kernel_rfl) ?_
  intro w hw
  replace ok:=qbA ok hw
  clear hw
  have le_m48:=Mem.le.refl m48
  refine qaq (cl1 (cq le_m48 ok [0,1,2,3] rfl) (cq le_m48 ok [0,1,2,3] rfl)) λhT=>kt 0 E rfl hT (qad rfl) λa E=>qaU [1] (by kernel_rfl) rfl (qa1 ?_)
  ·refine wo rfl<|qae E qdx rfl (qaC N r46.2 l51 h53 r54 h57 r58 r59 e62 hG ok) rfl rfl ?_
   rintro _ w ⟨⟨rfl,ok⟩,r65⟩
   refine⟨_,rfl,λa E=>?_⟩
   refine wn<|qaq (cl1 (cq le_m48 ok [0,1,2,3] rfl) (cq le_m48 ok [0,1,2,3] rfl)) λhT=>kt 2 E rfl hT (qbg rfl rfl) λa E=>kt 3 E rfl hT (qad rfl) λa E=>?_
   have E:=E.upd 22 c64 rfl
   refine qaf 4 false E rfl (by kernel_rfl) nP hT rfl rfl λa E=>qaf 5 false E rfl (by kernel_rfl) nP hT rfl rfl λa E=>qaf 6 false E rfl (by kernel_rfl) nP hT rfl rfl λa E=>qaf 7 false E rfl (by kernel_rfl) nP hT rfl rfl λa E=>qaf 8 false E rfl (by kernel_rfl) nP hT rfl rfl λa E=>qaf 9 false E rfl (by kernel_rfl) nP hT rfl rfl λa E=>qaf 10 false E rfl (by kernel_rfl) nP hT rfl rfl λa E=>qaf 11 false E rfl (by kernel_rfl) nP hT rfl rfl λa E=>qaf 12 false E rfl (by kernel_rfl) nP hT rfl rfl λa E=>qaf 13 false E rfl (by kernel_rfl) nP hT rfl rfl λa E=>qaf 14 false E rfl (by kernel_rfl) nP hT rfl rfl λa E=>qaf 15 false E rfl (by kernel_rfl) nP hT rfl rfl λa E=>qaf 16 false E rfl (by kernel_rfl) nP hT rfl rfl λa E=>qaf 17 false E rfl (by kernel_rfl) nP hT rfl rfl λa E=>kt 18 E rfl hT (qb1 rfl rfl) λa E=>qbv (by kernel_rfl) ?_
   exact⟨rfl,⟨ok,E.keep [0,6,7,37]⟩⟩
 have hF:=qby c64 hF
 obtain⟨x66,e67,hF⟩:=bnd hF
 obtain rfl:=sj hF
 refine qbl [] (Cls u m48 ([(pb0,oc 101 [vs r46.2.s,c52,vi r46.2.next,c55,vi r46.2.at_,vi r46.2.e])]::M56::[(b45,oc 90 [vi 11,(vs ([])),vs r32.1,(vs ([])),(Value.slice none 0 0),c49])]::[(b19,oc 90 [vi 0,(vs ([])),(vs ([])),(vs ([])),(Value.slice none 0 0),(Value.slice none 0 0)])]::[])) (Cls u m48 ([(pb0,oc 101 [vs r46.2.s,c52,vi r46.2.next,c55,vi r46.2.at_,vi r46.2.e])]::M56::[(b45,oc 90 [vi 11,(vs ([])),vs r32.1,(vs ([])),(Value.slice none 0 0),c49])]::[(b19,oc 90 [vi 0,(vs ([])),(vs ([])),(vs ([])),(Value.slice none 0 0),(Value.slice none 0 0)])]::[])) (by kernel_rfl) ?_
 intro w hw
 replace ok:=qbA ok hw
 clear hw
 have le_m48:=Mem.le.refl m48
 refine qaq (cl1 (cq le_m48 ok [0,1,2,3] rfl) (cq le_m48 ok [0,1,2,3] rfl)) λhT=>kt 0 E rfl hT (qad rfl) λa E=>qaU [1] (by kernel_rfl) rfl (qa1 ?_)
 ·refine wo rfl<|qae E qdx rfl (qaC N r46.2 l51 h53 r54 h57 r58 r59 e62 hG ok) rfl rfl ?_
  rintro _ w ⟨⟨rfl,ok⟩,r79⟩
  refine⟨_,rfl,λa E=>?_⟩
  refine wn<|qaq (cl1 (cq le_m48 ok [0,1,2,3] rfl) (cq le_m48 ok [0,1,2,3] rfl)) λhT=>kt 2 E rfl hT (qbg rfl rfl) λa E=>kt 3 E rfl hT (qad rfl) λa E=>?_
  have E:=E.upd 22 c64 rfl
  refine kt 4 E rfl hT (qad rfl) λa E=>kt 5 E rfl hT (qan rfl) λa E=>kt 6 E rfl hT (qaj qcM rfl) λa E=>kt 7 E rfl hT (qaw qdX rfl (Holds.cown 0 rfl rfl)) λa E=>kt 8 E rfl hT (qad rfl) λa E=>kt 9 E rfl hT (qan rfl) λa E=>kt 10 E rfl hT (qaj qcl rfl) λa E=>kt 11 E rfl hT (qaw qaN rfl (Holds.cown 0 rfl rfl)) λa E=>?_
  obtain⟨b80,o81,es82,hl83,rr84,at85,yy86⟩:=ia E 26 30 qdJ h53 e67
  obtain⟨rfl,r87,l88,r89,r90⟩:=rr84
  refine kt 12 E rfl hT (yy86 _ _) λa E=>kt 13 E rfl hT (qaj qdA rfl) λa E=>kt 14 E rfl hT (qaw qax rfl (Holds.cro (At.sub 1 1 at85))) λa E=>kt 15 E rfl hT (qaj qbC rfl) λa E=>kt 16 E rfl hT (qaw qax rfl (Holds.cown 2 rfl rfl)) λa E=>kt 17 E rfl hT (qeU rfl rfl) λa E=>kt 18 E rfl hT (qbX rfl rfl) λa E=>qbv (by kernel_rfl) ?_
  exact⟨rfl,⟨ok,E.keep [0,6,7,37]⟩⟩
theorem qhS(N:Nat)(ih_syntax_parser_message:qcB N)(ih_syntax_parser_element:qcE N)(ih_syntax_parser_argument:qcq N)(ih_syntax_parser_cases:qcV N):qcq (N+1):=by
 intro u m0 S w depth_1 rdepth_1 counting_2 pb0 c2 c5 M6 x0 l1 h3 r4 h7 r8 r9 r hF hG ok
 have le_m0:=Mem.le.refl m0
 have hF0:qb7 (qam N) (qav N) (qat N) (qay N) N depth_1 counting_2 x0=some r:=hF
 have hF:=hF0
 clear hF0
 unfold qb7 at hF
 refine en (qjd u m0 S pb0 x0 c2 c5 M6) r Tryz.func59 rfl rfl rfl (by rintro a w ⟨m1,v0,c11,c14,M15,hle,ok,hd,hrv,h0,h1,h2,h3,h4,h5,h6⟩;exact qbf [.c 6 90 (.agg v0.toArray)] hd rfl hrv ⟨m1,v0,c11,c14,M15,rfl,hle,ok,h0,h1,h2,h3,h4,h5,h6⟩) λfin a E=>sg<|qaL E ok qbw rfl rfl λb19 a w E ok=>wn<|sg<|mv E rfl λa E=>?_
 obtain⟨r20,e21,hF⟩:=bnd hF
 replace ok:Ok u m0 ([(pb0,oc 101 [vs x0.s,c2,vi x0.next,c5,vi x0.at_,vi x0.e])]::M6::[(b19,oc 90 [vi 0,(vs ([])),(vs ([])),(vs ([])),(Value.slice none 0 0),(Value.slice none 0 0)])]::S) w:=(ok.pk 3 [1,2,0] rfl (by decide))
 refine qae E qdq rfl (qaB N 2 (ir 2) x0 l1 h3 r4 h7 r8 r9 e21 hG ok) rfl rfl ?_
 rintro _ w ⟨m22,c25,c28,M29,rfl,hle,ok,l23,l24,h26,r27,h30,r31,r32⟩
 have le_m0:=le_m0.trans hle
 have h3:=(mL qac).up hle h3
 refine⟨_,rfl,λa E=>?_⟩
 refine wn<|sg<|mv E rfl λa E=>bd hF λr33 e34 hF=>qae E qvK rfl (qkI N r20.2 l24 h26 r27 h30 r31 r32 e34 hG ok) rfl rfl ?_
 rintro _ w ⟨m35,c38,c41,M42,rfl,hle,ok,l36,l37,h39,r40,h43,r44,r45⟩
 have le_m0:=le_m0.trans hle
 have h3:=(mL qac).up hle h3
 have h26:=(mL qac).up hle h26
 refine⟨_,rfl,λa E=>?_⟩
 refine lw E (qbY (ps:=[(0,.const (vi 2)),(2,.tmp 13)]) (qs:=[(0,[vi 2]),(2,[vs r33.1])]) (cs:=[vi 2,(vs ([])),vs r33.1,(vs ([])),(Value.slice none 0 0),(Value.slice none 0 0)]) qbw qgw rfl ⟨rfl,rfl,rfl,⟨rfl,rfl,rfl,trivial⟩⟩ rfl) λa E=>qaL E ok qbw rfl rfl λb46 a w E ok=>qai E ok 0 rfl rfl rfl qel rfl rfl ⟨rfl,rfl,rfl,rfl,rfl,rfl,trivial⟩ rfl rfl λw ok=>wn<|wp_seq<|sg<|mv E rfl λa E=>?_
 obtain⟨r47,e48,hF⟩:=bnd hF
 replace ok:Ok u m35 ([(pb0,oc 101 [vs r33.2.s,c38,vi r33.2.next,c41,vi r33.2.at_,vi r33.2.e])]::M42::[(b46,oc 90 [vi 2,(vs ([])),vs r33.1,(vs ([])),(Value.slice none 0 0),(Value.slice none 0 0)])]::[(b19,oc 90 [vi 0,(vs ([])),(vs ([])),(vs ([])),(Value.slice none 0 0),(Value.slice none 0 0)])]::S) w:=(ok.pk 4 [1,2,0,3] rfl (by decide))
 refine qae E qdx rfl (qaC N r33.2 l37 h39 r40 h43 r44 r45 e48 hG ok) rfl rfl ?_
 rintro _ w ⟨⟨rfl,ok⟩,r49⟩
 refine⟨_,rfl,λa E=>?_⟩
 refine lw E (qaz rfl rfl) λa E=>wn<|cf E rfl hF (λc50 hF=>?_) λc50 hF=>?_
 ·refine sg<|mv E rfl λa E=>bd hF λr51 e52 hF=>qae E qdq rfl (qaB N 3 (ir 3) r33.2 l37 h39 r40 h43 r44 r45 e52 hG ok) rfl rfl ?_
  rintro _ w ⟨m53,c56,c59,M60,rfl,hle,ok,l54,l55,h57,r58,h61,r62,r63⟩
  have le_m0:=le_m0.trans hle
  have h3:=(mL qac).up hle h3
  have h26:=(mL qac).up hle h26
  have h39:=(mL qac).up hle h39
  refine⟨_,rfl,λa E=>?_⟩
  refine wn<|sg<|lv E ok (qao (cs:=[vi 2,(vs ([])),vs r33.1,(vs ([])),(Value.slice none 0 0),(Value.slice none 0 0)]) qct rfl rfl (Holds.own 2 rfl rfl)) λa E=>qai E ok 3 rfl rfl rfl qel rfl rfl ⟨rfl,rfl,rfl,rfl,rfl,rfl,trivial⟩ rfl rfl λw ok=>wn<|wp_ret<|qak ?_
  exact fin hF ⟨m53,[vi 2,(vs ([])),vs r33.1,(vs ([])),(Value.slice none 0 0),(Value.slice none 0 0)],c56,c59,M60,le_m0,(ok.pk 4 [0,1] rfl (by decide)),E.d,⟨rv_c (cs:=[vi 2,(vs ([])),vs r33.1,(vs ([])),(Value.slice none 0 0),(Value.slice none 0 0)]) E ok rfl qct rfl (Holds.own 3 rfl rfl),trivial⟩,(qbd.2 ⟨_,_,rfl,(ir 2),(Nat.zero_le _),l36,(Nat.zero_le _),qbt,qbt⟩),l55,h57,r58,h61,r62,r63⟩
 refine wp_skip<|qaa<|sg<|mv E rfl λa E=>bd hF λr64 e65 hF=>qae E qdq rfl (qaB N 8 (ir 8) r33.2 l37 h39 r40 h43 r44 r45 e65 hG ok) rfl rfl ?_
 rintro _ w ⟨m66,c69,c72,M73,rfl,hle,ok,l67,l68,h70,r71,h74,r75,r76⟩
 have le_m0:=le_m0.trans hle
 have h3:=(mL qac).up hle h3
 have h26:=(mL qac).up hle h26
 have h39:=(mL qac).up hle h39
 refine⟨_,rfl,λa E=>?_⟩
 refine wn<|sg<|qae E qtB rfl (qk6 ok) rfl rfl ?_
 rintro _ w ⟨b77,rfl,ok⟩
 refine⟨_,rfl,λa E=>?_⟩
 refine qaL E ok qt4 rfl rfl λb78 a w E ok=>qai E ok 0 rfl rfl rfl qvd rfl rfl ⟨rfl,trivial⟩ rfl rfl λw ok=>wn<|sg<|lv E ok (qiu (caps:=[.tmp 8]) rfl) λa E=>av E rfl λa E=>wn<|wp_seq<|wp_seq<|bd hF λo79 hJ hF=>qaO (Q':=λe a w=>e=.normal∧Ok u m66 ([(b78,oc 75 [(Value.map (some b77))])]::[(b77,Obj.map qbK.toArray 7)]::[(pb0,oc 101 [vs r64.2.s,c69,vi r64.2.next,c72,vi r64.2.at_,vi r64.2.e])]::M73::[(b46,oc 90 [vi 2,(vs ([])),vs r33.1,(vs ([])),(Value.slice none 0 0),(Value.slice none 0 0)])]::[(b19,oc 90 [vi 0,(vs ([])),(vs ([])),(vs ([])),(Value.slice none 0 0),(Value.slice none 0 0)])]::S) w∧Env 100 a [(0,vp pb0),(1,vi depth_1),(2,vb counting_2),(6,vp b19),(7,vp b46),(8,vp b78),(9,(Value.func (.func 90) #[] #[.pointer (some ⟨b78,0,none⟩)])),(43,vb o79)]) ?_ ?_
 ·as_aux_lemma=>
   have hF:=hJ
   refine bd hF λr80 e81 hF=>qbx (r80==9) (λc83=>?_) (λc83=>?_)
   rotate_left
   ·have hF:=qby c83 hF
    cases hF
    refine qbl [] (Cls u m66 ([(b78,oc 75 [(Value.map (some b77))])]::[(b77,Obj.map qbK.toArray 7)]::[(pb0,oc 101 [vs r64.2.s,c69,vi r64.2.next,c72,vi r64.2.at_,vi r64.2.e])]::M73::[(b46,oc 90 [vi 2,(vs ([])),vs r33.1,(vs ([])),(Value.slice none 0 0),(Value.slice none 0 0)])]::[(b19,oc 90 [vi 0,(vs ([])),(vs ([])),(vs ([])),(Value.slice none 0 0),(Value.slice none 0 0)])]::[])) (Cls u m66 ([(b78,oc 75 [(Value.map (some b77))])]::[(b77,Obj.map qbK.toArray 7)]::[(pb0,oc 101 [vs r64.2.s,c69,vi r64.2.next,c72,vi r64.2.at_,vi r64.2.e])]::M73::[(b46,oc 90 [vi 2,(vs ([])),vs r33.1,(vs ([])),(Value.slice none 0 0),(Value.slice none 0 0)])]::[(b19,oc 90 [vi 0,(vs ([])),(vs ([])),(vs ([])),(Value.slice none 0 0),(Value.slice none 0 0)])]::[])) (by kernel_rfl) ?_
    intro w hw
    replace ok:=qbA ok hw
    clear hw
    have le_m66:=Mem.le.refl m66
    refine qaq (cl1 (cq le_m66 ok [0,1,2,3,4,5] rfl) (cq le_m66 ok [0,1,2,3,4,5] rfl)) λhT=>kt 0 E rfl hT (qad rfl) λa E=>qaU [1] (by kernel_rfl) rfl (qa1 ?_)
    ·refine qci (o:=_) rfl ?_
     replace ok:Ok u m66 ([(pb0,oc 101 [vs r64.2.s,c69,vi r64.2.next,c72,vi r64.2.at_,vi r64.2.e])]::M73::[(b78,oc 75 [(Value.map (some b77))])]::[(b77,Obj.map qbK.toArray 7)]::[(b46,oc 90 [vi 2,(vs ([])),vs r33.1,(vs ([])),(Value.slice none 0 0),(Value.slice none 0 0)])]::[(b19,oc 90 [vi 0,(vs ([])),(vs ([])),(vs ([])),(Value.slice none 0 0),(Value.slice none 0 0)])]::S) w:=(ok.pk 6 [2,3,0,1,4,5] rfl (by decide))
     refine qae E qdx rfl (qaC N r64.2 l68 h70 r71 h74 r75 r76 e81 hG ok) rfl rfl ?_
     rintro _ w ⟨⟨rfl,ok⟩,r121⟩
     refine⟨_,rfl,λa E=>?_⟩
     refine wn<|qaq (cl1 (cq le_m66 ok [2,3,0,1,4,5] rfl) (cq le_m66 ok [2,3,0,1,4,5] rfl)) λhT=>kt 2 E rfl hT (qaz rfl rfl) λa E=>kt 3 E rfl hT (qad rfl) λa E=>?_
     have E:=E.upd 28 c83 rfl
     refine qaf 4 false E rfl (by kernel_rfl) nP hT rfl rfl λa E=>qaf 5 false E rfl (by kernel_rfl) nP hT rfl rfl λa E=>qaf 6 false E rfl (by kernel_rfl) nP hT rfl rfl λa E=>qaf 7 false E rfl (by kernel_rfl) nP hT rfl rfl λa E=>qaf 8 false E rfl (by kernel_rfl) nP hT rfl rfl λa E=>qaf 9 false E rfl (by kernel_rfl) nP hT rfl rfl λa E=>qaf 10 false E rfl (by kernel_rfl) nP hT rfl rfl λa E=>qaf 11 false E rfl (by kernel_rfl) nP hT rfl rfl λa E=>qaf 12 false E rfl (by kernel_rfl) nP hT rfl rfl λa E=>qaf 13 false E rfl (by kernel_rfl) nP hT rfl rfl λa E=>qaf 14 false E rfl (by kernel_rfl) nP hT rfl rfl λa E=>qaf 15 false E rfl (by kernel_rfl) nP hT rfl rfl λa E=>qaf 16 false E rfl (by kernel_rfl) nP hT rfl rfl λa E=>qaf 17 false E rfl (by kernel_rfl) nP hT rfl rfl λa E=>kt 18 E rfl hT (qbX rfl rfl) λa E=>qbv (by kernel_rfl) ?_
     exact⟨rfl,⟨(ok.pk 6 [2,3,0,1,4,5] rfl (by decide)),E.keep [0,1,2,6,7,8,9,43]⟩⟩
   have hF:=qbz c83 hF
   obtain⟨x84,e85,hF⟩:=bnd hF
   obtain⟨r102,e103,hF⟩:=bnd hF
   obtain rfl:=sj hF
   refine qbl [] (Cls u m66 ([(b78,oc 75 [(Value.map (some b77))])]::[(b77,Obj.map qbK.toArray 7)]::[(pb0,oc 101 [vs r64.2.s,c69,vi r64.2.next,c72,vi r64.2.at_,vi r64.2.e])]::M73::[(b46,oc 90 [vi 2,(vs ([])),vs r33.1,(vs ([])),(Value.slice none 0 0),(Value.slice none 0 0)])]::[(b19,oc 90 [vi 0,(vs ([])),(vs ([])),(vs ([])),(Value.slice none 0 0),(Value.slice none 0 0)])]::[])) (Cls u m66 ([(b78,oc 75 [(Value.map (some b77))])]::[(b77,Obj.map qbK.toArray 7)]::[(pb0,oc 101 [vs r64.2.s,c69,vi r64.2.next,c72,vi r64.2.at_,vi r64.2.e])]::M73::[(b46,oc 90 [vi 2,(vs ([])),vs r33.1,(vs ([])),(Value.slice none 0 0),(Value.slice none 0 0)])]::[(b19,oc 90 [vi 0,(vs ([])),(vs ([])),(vs ([])),(Value.slice none 0 0),(Value.slice none 0 0)])]::[])) (by kernel_rfl) ?_
   intro w hw
   replace ok:=qbA ok hw
   clear hw
   have le_m66:=Mem.le.refl m66
   refine qaq (cl1 (cq le_m66 ok [0,1,2,3,4,5] rfl) (cq le_m66 ok [0,1,2,3,4,5] rfl)) λhT=>kt 0 E rfl hT (qad rfl) λa E=>qaU [1] (by kernel_rfl) rfl (qa1 ?_)
   ·refine qci (o:=_) rfl ?_
    replace ok:Ok u m66 ([(pb0,oc 101 [vs r64.2.s,c69,vi r64.2.next,c72,vi r64.2.at_,vi r64.2.e])]::M73::[(b78,oc 75 [(Value.map (some b77))])]::[(b77,Obj.map qbK.toArray 7)]::[(b46,oc 90 [vi 2,(vs ([])),vs r33.1,(vs ([])),(Value.slice none 0 0),(Value.slice none 0 0)])]::[(b19,oc 90 [vi 0,(vs ([])),(vs ([])),(vs ([])),(Value.slice none 0 0),(Value.slice none 0 0)])]::S) w:=(ok.pk 6 [2,3,0,1,4,5] rfl (by decide))
    refine qae E qdx rfl (qaC N r64.2 l68 h70 r71 h74 r75 r76 e81 hG ok) rfl rfl ?_
    rintro _ w ⟨⟨rfl,ok⟩,r104⟩
    refine⟨_,rfl,λa E=>?_⟩
    refine wn<|qaq (cl1 (cq le_m66 ok [2,3,0,1,4,5] rfl) (cq le_m66 ok [2,3,0,1,4,5] rfl)) λhT=>kt 2 E rfl hT (qaz rfl rfl) λa E=>kt 3 E rfl hT (qad rfl) λa E=>?_
    have E:=E.upd 28 c83 rfl
    refine kt 4 E rfl hT (qaw qhR rfl (Holds.cown 0 rfl rfl)) λa E=>kt 5 E rfl hT (qad rfl) λa E=>kt 6 E rfl hT (qan rfl) λa E=>kt 7 E rfl hT (qaj qcM rfl) λa E=>kt 8 E rfl hT (qaw qdX rfl (Holds.cown 2 rfl rfl)) λa E=>kt 9 E rfl hT (qad rfl) λa E=>kt 10 E rfl hT (qan rfl) λa E=>kt 11 E rfl hT (qaj qcl rfl) λa E=>kt 12 E rfl hT (qaw qaN rfl (Holds.cown 2 rfl rfl)) λa E=>?_
    obtain⟨b105,o106,es107,hl108,rr109,at110,yy111⟩:=ia E 33 37 qdJ h70 e85
    obtain⟨rfl,r112,l113,r114,r115⟩:=rr109
    refine kt 13 E rfl hT (yy111 _ _) λa E=>kt 14 E rfl hT (qaj qdA rfl) λa E=>kt 15 E rfl hT (qaw qax rfl (Holds.cro (At.sub 1 1 at110))) λa E=>qaU [16] (by kernel_rfl) rfl (qa1 ?_)
    ·refine qci (o:=_) rfl ?_
     obtain⟨xv116,h117,yy118,yy119⟩:=qfC (P:=Tryz.prog) (mo:=.tmp 29) (ko:=.tmp 40) (zx:=(0:Int)) ok 3 (qbe Tryz.underlying9) Tryz.underlying75 (qkz (m:=m66) (b:=b77)) rfl (qaD E rfl) (qaD E rfl) ⟨rfl,l113⟩ qjX (qdY (ir 0))
     obtain⟨rfl,r120⟩:=qly h117
     refine lv E ok (yy118 _) λa E=>wn<|qaq (cl1 (cq le_m66 ok [2,3,0,1,4,5] rfl) (cq le_m66 ok [2,3,0,1,4,5] rfl)) λhT=>qaU [17] (by kernel_rfl) rfl (qa1 ?_)
     ·refine wo rfl<|lc E qir rfl (qcI N ((mget qgE x84.Text).getD 0) r120 e103 hG ok) λw ok a E=>wn<|qaq (cl1 (cq le_m66 ok [2,3,0,1,4,5] rfl) (cq le_m66 ok [2,3,0,1,4,5] rfl)) λhT=>kt 18 E rfl hT (qb1 rfl rfl) λa E=>qbv (by kernel_rfl) ?_
      exact⟨rfl,⟨(ok.pk 6 [2,3,0,1,4,5] rfl (by decide)),E.keep [0,1,2,6,7,8,9,43]⟩⟩
 intro e a w hO
 obtain⟨rfl,ok,E⟩:=hO
 refine qaa<|bd hF λo122 hJ hF=>qaO (Q':=λe a w=>e=.normal∧∃ m123 c125 c128 M129,m66.le m123∧Ok u m123 ([(b78,oc 75 [(Value.map (some b77))])]::[(b77,Obj.map qbK.toArray 7)]::[(pb0,oc 101 [vs o122.s,c125,vi o122.next,c128,vi o122.at_,vi o122.e])]::M129::[(b46,oc 90 [vi 2,(vs ([])),vs r33.1,(vs ([])),(Value.slice none 0 0),(Value.slice none 0 0)])]::[(b19,oc 90 [vi 0,(vs ([])),(vs ([])),(vs ([])),(Value.slice none 0 0),(Value.slice none 0 0)])]::S) w∧Env 100 a [(0,vp pb0),(1,vi depth_1),(2,vb counting_2),(6,vp b19),(7,vp b46),(8,vp b78),(9,(Value.func (.func 90) #[] #[.pointer (some ⟨b78,0,none⟩)]))]∧o122.s.length≤LIMS∧(pL 4 qa4) m123 [c125] o122.l∧InR .i64 o122.next∧OMap kS (oneV pB) m123 c128 o122.names M129∧InR .i64 o122.at_∧InR .i64 o122.e) ?_ ?_
 ·have hF:=hJ
  have le_m66:=Mem.le.refl m66
  refine cg E rfl hF (λc133 hF=>?_) λc133 hF=>?_
  ·refine wp_skip ?_
   cases hF
   exact⟨rfl,⟨m66,c69,c72,M73,le_m66,ok,E.keep [0,1,2,6,7,8,9],l68,h70,r71,h74,r75,r76⟩⟩
  refine qab<|mz E rfl rfl λa E=>lw E (qbk rfl rfl) λa E=>?_
  obtain⟨r134,e135,hF⟩:=bnd hF
  replace ok:Ok u m66 ([(pb0,oc 101 [vs r64.2.s,c69,vi r64.2.next,c72,vi r64.2.at_,vi r64.2.e])]::M73::[(b78,oc 75 [(Value.map (some b77))])]::[(b77,Obj.map qbK.toArray 7)]::[(b46,oc 90 [vi 2,(vs ([])),vs r33.1,(vs ([])),(Value.slice none 0 0),(Value.slice none 0 0)])]::[(b19,oc 90 [vi 0,(vs ([])),(vs ([])),(vs ([])),(Value.slice none 0 0),(Value.slice none 0 0)])]::S) w:=(ok.pk 6 [2,3,0,1,4,5] rfl (by decide))
  refine qae E qqK rfl (qf5 N (IntKind.wrap .i64 (depth_1+1)) (InR.wrap _ _) r64.2 l68 h70 r71 h74 r75 r76 e135 hG ok) rfl rfl ?_
  rintro _ w ⟨m136,c138,c141,M142,rfl,hle,ok,l137,h139,r140,h143,r144,r145⟩
  have le_m0:=le_m0.trans hle
  have le_m66:=le_m66.trans hle
  have h3:=(mL qac).up hle h3
  have h26:=(mL qac).up hle h26
  have h39:=(mL qac).up hle h39
  have h70:=(mL qac).up hle h70
  refine⟨_,rfl,λa E=>?_⟩
  refine wpList_nil ?_
  cases hF
  exact⟨rfl,⟨m136,c138,c141,M142,le_m66,(ok.pk 6 [2,3,0,1,4,5] rfl (by decide)),E.keep [0,1,2,6,7,8,9],l137,h139,r140,h143,r144,r145⟩⟩
 intro e a w hO
 obtain⟨rfl,m146,c148,c151,M152,hle,ok,E,l147,h149,r150,h153,r154,r155⟩:=hO
 have le_m0:=le_m0.trans hle
 have h3:=(mL qac).up hle h3
 have h26:=(mL qac).up hle h26
 have h39:=(mL qac).up hle h39
 have h70:=(mL qac).up hle h70
 refine qaa<|wp_seq<|bd hF λo156 hJ hF=>qaO (Q':=λe a w=>e=.normal∧∃ m157 c159 c162 M163,m146.le m157∧Ok u m157 ([(b78,oc 75 [(Value.map (some b77))])]::[(b77,Obj.map qbK.toArray 7)]::[(pb0,oc 101 [vs o156.1.s,c159,vi o156.1.next,c162,vi o156.1.at_,vi o156.1.e])]::M163::[(b46,oc 90 [vi o156.2.Kind,vs o156.2.Text,vs o156.2.Name,vs o156.2.Style,(Value.slice none 0 0),(Value.slice none 0 0)])]::[(b19,oc 90 [vi 0,(vs ([])),(vs ([])),(vs ([])),(Value.slice none 0 0),(Value.slice none 0 0)])]::S) w∧Env 100 a [(0,vp pb0),(1,vi depth_1),(2,vb counting_2),(6,vp b19),(7,vp b46)]∧o156.1.s.length≤LIMS∧(pL 4 qa4) m157 [c159] o156.1.l∧InR .i64 o156.1.next∧OMap kS (oneV pB) m157 c162 o156.1.names M163∧InR .i64 o156.1.at_∧InR .i64 o156.1.e∧InR .i64 o156.2.Kind∧o156.2.Text.length≤LIMS∧o156.2.Name.length≤LIMS∧o156.2.Style.length≤LIMS) ?_ ?_
 ·have hF:=hJ
  have le_m146:=Mem.le.refl m146
  obtain⟨r171,e172,hF⟩:=bnd hF
  obtain rfl:=sj hF
  refine qbl [0] (Cls u m146 ([(b78,oc 75 [(Value.map (some b77))])]::[(b77,Obj.map qbK.toArray 7)]::[(b46,oc 90 [vi 2,(vs ([])),vs r33.1,(vs ([])),(Value.slice none 0 0),(Value.slice none 0 0)])]::[(b19,oc 90 [vi 0,(vs ([])),(vs ([])),(vs ([])),(Value.slice none 0 0),(Value.slice none 0 0)])]::[])) (Cls u m146 ([(b78,oc 75 [(Value.map (some b77))])]::[(b77,Obj.map qbK.toArray 7)]::[(b19,oc 90 [vi 0,(vs ([])),(vs ([])),(vs ([])),(Value.slice none 0 0),(Value.slice none 0 0)])]::[])) (by kernel_rfl) ?_
  intro w hw
  replace ok:=qbA ok hw
  clear hw
  have h149_o:=h149
  refine qaq (cl1 (cq le_m146 ok [0,1,4,5] rfl) (cq le_m146 ok [0,1,5] rfl)) λhT=>qdg 0 E rfl (by kernel_rfl) nP hT (qaw qhR rfl (Holds.cown 0 rfl rfl)) rfl rfl λa E=>kt 1 E rfl hT (qad rfl) λa E=>kt 2 E rfl hT (qad rfl) λa E=>qaU [3] (by kernel_rfl) rfl (qa1 ?_)
  ·refine qci (o:=_) rfl ?_
   replace ok:Ok u m146 ([(pb0,oc 101 [vs o122.s,c148,vi o122.next,c151,vi o122.at_,vi o122.e])]::M152::[(b78,oc 75 [(Value.map (some b77))])]::[(b77,Obj.map qbK.toArray 7)]::[(b46,oc 90 [vi 2,(vs ([])),vs r33.1,(vs ([])),(Value.slice none 0 0),(Value.slice none 0 0)])]::[(b19,oc 90 [vi 0,(vs ([])),(vs ([])),(vs ([])),(Value.slice none 0 0),(Value.slice none 0 0)])]::S) w:=(ok.pk 6 [2,3,0,1,4,5] rfl (by decide))
   refine qae E qkC rfl (qiR N o122 l147 h149 r150 h153 r154 r155 e172 hG ok) rfl rfl ?_
   rintro _ w ⟨m189,c192,c195,M196,rfl,hle,ok,l190,l191,h193,r194,h197,r198,r199⟩
   have le_m0:=le_m0.trans hle
   have le_m146:=le_m146.trans hle
   have h3:=(mL qac).up hle h3
   have h26:=(mL qac).up hle h26
   have h39:=(mL qac).up hle h39
   have h70:=(mL qac).up hle h70
   have h149:=(mL qac).up hle h149
   refine⟨_,rfl,λa E=>?_⟩
   refine wn<|qaq (cl1 (cq le_m146 ok [2,3,4,5] rfl) (cq le_m146 ok [2,3,5] rfl)) λhT=>qaU [4] (by kernel_rfl) rfl (qa1 ?_)
   ·refine qci (o:=_) rfl ?_
    obtain⟨xv200,h201,yy202,yy203⟩:=qfC (P:=Tryz.prog) (mo:=.tmp 48) (ko:=.tmp 51) (zx:=(0:Int)) ok 3 (qbe Tryz.underlying9) Tryz.underlying75 (qkz (m:=m189) (b:=b77)) rfl (qaD E rfl) (qaD E rfl) ⟨rfl,l190⟩ qjX (qdY (ir 0))
    obtain⟨rfl,r204⟩:=qly h201
    refine lv E ok (yy202 _) λa E=>wn<|qaq (cl1 (cq le_m146 ok [2,3,4,5] rfl) (cq le_m146 ok [2,3,5] rfl)) λhT=>kt 5 E rfl hT (qaj qbm rfl) λa E=>qaU [6] (by kernel_rfl) rfl (qa1 ?_)
    ·refine wo rfl<|qai E ok 4 rfl rfl rfl qhg rfl rfl ⟨rfl,trivial⟩ rfl rfl λw ok=>wn<|qaq (cl2 (by kernel_rfl) (cq le_m146 ok [2,3,5] rfl)) λhT=>qbv (by kernel_rfl) ?_
     exact⟨rfl,⟨m189,c192,c195,M196,le_m146,(ok.pk 6 [2,3,0,1,4,5] rfl (by decide)),E.keep [0,1,2,6,7],l191,h193,r194,h197,r198,r199,r204,(Nat.zero_le _),l36,(Nat.zero_le _)⟩⟩
 intro e a w hO
 obtain⟨rfl,m205,c207,c210,M211,hle,ok,E,l206,h208,r209,h212,r213,r214,r215,l216,l217,l218⟩:=hO
 have le_m0:=le_m0.trans hle
 have h3:=(mL qac).up hle h3
 have h26:=(mL qac).up hle h26
 have h39:=(mL qac).up hle h39
 have h70:=(mL qac).up hle h70
 have h149:=(mL qac).up hle h149
 refine qaa<|wp_seq<|wp_block<|sg<|mv E rfl λa E=>lw E (qan rfl) λa E=>fv E qhJ rfl λa E=>ld E ok qiY 2 rfl rfl rfl λa E=>lw E (qbg rfl rfl) λa E=>aw E rfl λa E=>cf E rfl hF (λc219 hF=>?_) λc219 hF=>?_
 ·refine wp_skip<|qal<|qaa<|sg<|mv E rfl λa E=>?_
  obtain⟨r220,e221,hF⟩:=bnd hF
  replace ok:Ok u m205 ([(pb0,oc 101 [vs o156.1.s,c207,vi o156.1.next,c210,vi o156.1.at_,vi o156.1.e])]::M211::[(b78,oc 75 [(Value.map (some b77))])]::[(b77,Obj.map qbK.toArray 7)]::[(b46,oc 90 [vi o156.2.Kind,vs o156.2.Text,vs o156.2.Name,vs o156.2.Style,(Value.slice none 0 0),(Value.slice none 0 0)])]::[(b19,oc 90 [vi 0,(vs ([])),(vs ([])),(vs ([])),(Value.slice none 0 0),(Value.slice none 0 0)])]::S) w:=(ok.pk 6 [2,3,0,1,4,5] rfl (by decide))
  refine qae E qdq rfl (qaB N 3 (ir 3) o156.1 l206 h208 r209 h212 r213 r214 e221 hG ok) rfl rfl ?_
  rintro _ w ⟨m222,c225,c228,M229,rfl,hle,ok,l223,l224,h226,r227,h230,r231,r232⟩
  have le_m0:=le_m0.trans hle
  have h3:=(mL qac).up hle h3
  have h26:=(mL qac).up hle h26
  have h39:=(mL qac).up hle h39
  have h70:=(mL qac).up hle h70
  have h149:=(mL qac).up hle h149
  have h208:=(mL qac).up hle h208
  refine⟨_,rfl,λa E=>?_⟩
  refine wn<|sg<|lv E ok (qao (cs:=[vi o156.2.Kind,vs o156.2.Text,vs o156.2.Name,vs o156.2.Style,(Value.slice none 0 0),(Value.slice none 0 0)]) qct rfl rfl (Holds.own 4 rfl rfl)) λa E=>qai E ok 5 rfl rfl rfl qel rfl rfl ⟨rfl,rfl,rfl,rfl,rfl,rfl,trivial⟩ rfl rfl λw ok=>wn<|wp_ret ?_
  exact fin hF ⟨m222,[vi o156.2.Kind,vs o156.2.Text,vs o156.2.Name,vs o156.2.Style,(Value.slice none 0 0),(Value.slice none 0 0)],c225,c228,M229,le_m0,(ok.pk 6 [0,1] rfl (by decide)),E.d,⟨rv_c (cs:=[vi o156.2.Kind,vs o156.2.Text,vs o156.2.Name,vs o156.2.Style,(Value.slice none 0 0),(Value.slice none 0 0)]) E ok rfl qct rfl (Holds.own 5 rfl rfl),trivial⟩,(qbd.2 ⟨_,_,rfl,r215,l216,l217,l218,qbt,qbt⟩),l224,h226,r227,h230,r231,r232⟩
 refine sg<|fk E ok qbm qaN rfl 4 rfl rfl λa E=>lw E (qaz rfl rfl) λa E=>aw E rfl λa E=>cf E rfl hF (λc233 hF=>?_) λc233 hF=>?_
 ·as_aux_lemma=>
   refine sg<|mv E rfl λa E=>?_
   obtain⟨r234,e235,hF⟩:=bnd hF
   replace ok:Ok u m205 ([(pb0,oc 101 [vs o156.1.s,c207,vi o156.1.next,c210,vi o156.1.at_,vi o156.1.e])]::M211::[(b78,oc 75 [(Value.map (some b77))])]::[(b77,Obj.map qbK.toArray 7)]::[(b46,oc 90 [vi o156.2.Kind,vs o156.2.Text,vs o156.2.Name,vs o156.2.Style,(Value.slice none 0 0),(Value.slice none 0 0)])]::[(b19,oc 90 [vi 0,(vs ([])),(vs ([])),(vs ([])),(Value.slice none 0 0),(Value.slice none 0 0)])]::S) w:=(ok.pk 6 [2,3,0,1,4,5] rfl (by decide))
   refine qae E qdx rfl (qaC N o156.1 l206 h208 r209 h212 r213 r214 e235 hG ok) rfl rfl ?_
   rintro _ w ⟨⟨rfl,ok⟩,r236⟩
   refine⟨_,rfl,λa E=>?_⟩
   refine lw E (qaz rfl rfl) λa E=>wn<|cg E rfl hF (λc237 hF=>?_) λc237 hF=>?_
   ·refine wp_skip<|qal<|qaa<|sg<|mv E rfl λa E=>bd hF λr277 e278 hF=>qae E qdq rfl (qaB N 3 (ir 3) o156.1 l206 h208 r209 h212 r213 r214 e278 hG ok) rfl rfl ?_
    rintro _ w ⟨m279,c282,c285,M286,rfl,hle,ok,l280,l281,h283,r284,h287,r288,r289⟩
    have le_m0:=le_m0.trans hle
    have h3:=(mL qac).up hle h3
    have h26:=(mL qac).up hle h26
    have h39:=(mL qac).up hle h39
    have h70:=(mL qac).up hle h70
    have h149:=(mL qac).up hle h149
    have h208:=(mL qac).up hle h208
    refine⟨_,rfl,λa E=>?_⟩
    refine wn<|sg<|lv E ok (qao (cs:=[vi o156.2.Kind,vs o156.2.Text,vs o156.2.Name,vs o156.2.Style,(Value.slice none 0 0),(Value.slice none 0 0)]) qct rfl rfl (Holds.own 4 rfl rfl)) λa E=>qai E ok 5 rfl rfl rfl qel rfl rfl ⟨rfl,rfl,rfl,rfl,rfl,rfl,trivial⟩ rfl rfl λw ok=>wn<|wp_ret ?_
    exact fin hF ⟨m279,[vi o156.2.Kind,vs o156.2.Text,vs o156.2.Name,vs o156.2.Style,(Value.slice none 0 0),(Value.slice none 0 0)],c282,c285,M286,le_m0,(ok.pk 6 [0,1] rfl (by decide)),E.d,⟨rv_c (cs:=[vi o156.2.Kind,vs o156.2.Text,vs o156.2.Name,vs o156.2.Style,(Value.slice none 0 0),(Value.slice none 0 0)]) E ok rfl qct rfl (Holds.own 5 rfl rfl),trivial⟩,(qbd.2 ⟨_,_,rfl,r215,l216,l217,l218,qbt,qbt⟩),l281,h283,r284,h287,r288,r289⟩
   refine sg<|mv E rfl λa E=>bd hF λr238 e239 hF=>qae E qdq rfl (qaB N 8 (ir 8) o156.1 l206 h208 r209 h212 r213 r214 e239 hG ok) rfl rfl ?_
   rintro _ w ⟨m240,c243,c246,M247,rfl,hle,ok,l241,l242,h244,r245,h248,r249,r250⟩
   have le_m0:=le_m0.trans hle
   have h3:=(mL qac).up hle h3
   have h26:=(mL qac).up hle h26
   have h39:=(mL qac).up hle h39
   have h70:=(mL qac).up hle h70
   have h149:=(mL qac).up hle h149
   have h208:=(mL qac).up hle h208
   refine⟨_,rfl,λa E=>?_⟩
   refine wn<|qab<|mv E rfl λa E=>bd hF λr251 e252 hF=>qae E qkC rfl (qiP N r238.2 l242 h244 r245 h248 r249 r250 e252 hG ok) rfl rfl ?_
   rintro _ w ⟨m253,c256,c259,M260,rfl,hle,ok,l254,l255,h257,r258,h261,r262,r263⟩
   have le_m0:=le_m0.trans hle
   have h3:=(mL qac).up hle h3
   have h26:=(mL qac).up hle h26
   have h39:=(mL qac).up hle h39
   have h70:=(mL qac).up hle h70
   have h149:=(mL qac).up hle h149
   have h208:=(mL qac).up hle h208
   have h244:=(mL qac).up hle h244
   refine⟨_,rfl,λa E=>?_⟩
   refine fv E qcn rfl λa E=>qai E ok 4 rfl rfl rfl qf2 rfl rfl ⟨rfl,trivial⟩ rfl rfl λw ok=>wpList_nil<|qal<|qaa<|sg<|mv E rfl λa E=>bd hF λr264 e265 hF=>qae E qdq rfl (qaB N 3 (ir 3) r251.2 l255 h257 r258 h261 r262 r263 e265 hG ok) rfl rfl ?_
   rintro _ w ⟨m266,c269,c272,M273,rfl,hle,ok,l267,l268,h270,r271,h274,r275,r276⟩
   have le_m0:=le_m0.trans hle
   have h3:=(mL qac).up hle h3
   have h26:=(mL qac).up hle h26
   have h39:=(mL qac).up hle h39
   have h70:=(mL qac).up hle h70
   have h149:=(mL qac).up hle h149
   have h208:=(mL qac).up hle h208
   have h244:=(mL qac).up hle h244
   have h257:=(mL qac).up hle h257
   refine⟨_,rfl,λa E=>?_⟩
   refine wn<|sg<|lv E ok (qao (cs:=[vi o156.2.Kind,vs o156.2.Text,vs o156.2.Name,vs r251.1,(Value.slice none 0 0),(Value.slice none 0 0)]) qct rfl rfl (Holds.own 4 rfl rfl)) λa E=>qai E ok 5 rfl rfl rfl qel rfl rfl ⟨rfl,rfl,rfl,rfl,rfl,rfl,trivial⟩ rfl rfl λw ok=>wn<|wp_ret ?_
   exact fin hF ⟨m266,[vi o156.2.Kind,vs o156.2.Text,vs o156.2.Name,vs r251.1,(Value.slice none 0 0),(Value.slice none 0 0)],c269,c272,M273,le_m0,(ok.pk 6 [0,1] rfl (by decide)),E.d,⟨rv_c (cs:=[vi o156.2.Kind,vs o156.2.Text,vs o156.2.Name,vs r251.1,(Value.slice none 0 0),(Value.slice none 0 0)]) E ok rfl qct rfl (Holds.own 5 rfl rfl),trivial⟩,(qbd.2 ⟨_,_,rfl,r215,l216,l217,l254,qbt,qbt⟩),l268,h270,r271,h274,r275,r276⟩
 refine sg<|fk E ok qbm qaN rfl 4 rfl rfl λa E=>bd hF λr290 e291 hF=>lc E qir rfl (qcI N o156.2.Kind r215 e291 hG ok) λw ok a E=>aw E rfl λa E=>cf E rfl hF (λc292 hF=>?_) λc292 hF=>?_
 ·refine sg<|mv E rfl λa E=>?_
  obtain⟨r293,e294,hF⟩:=bnd hF
  replace ok:Ok u m205 ([(pb0,oc 101 [vs o156.1.s,c207,vi o156.1.next,c210,vi o156.1.at_,vi o156.1.e])]::M211::[(b78,oc 75 [(Value.map (some b77))])]::[(b77,Obj.map qbK.toArray 7)]::[(b46,oc 90 [vi o156.2.Kind,vs o156.2.Text,vs o156.2.Name,vs o156.2.Style,(Value.slice none 0 0),(Value.slice none 0 0)])]::[(b19,oc 90 [vi 0,(vs ([])),(vs ([])),(vs ([])),(Value.slice none 0 0),(Value.slice none 0 0)])]::S) w:=(ok.pk 6 [2,3,0,1,4,5] rfl (by decide))
  refine qae E qdq rfl (qaB N 8 (ir 8) o156.1 l206 h208 r209 h212 r213 r214 e294 hG ok) rfl rfl ?_
  rintro _ w ⟨m295,c298,c301,M302,rfl,hle,ok,l296,l297,h299,r300,h303,r304,r305⟩
  have le_m0:=le_m0.trans hle
  have h3:=(mL qac).up hle h3
  have h26:=(mL qac).up hle h26
  have h39:=(mL qac).up hle h39
  have h70:=(mL qac).up hle h70
  have h149:=(mL qac).up hle h149
  have h208:=(mL qac).up hle h208
  refine⟨_,rfl,λa E=>?_⟩
  refine wn<|qab<|mv E rfl λa E=>fk E ok qbm qaN rfl 4 rfl rfl λa E=>mv E rfl λa E=>lw E (qbk rfl rfl) λa E=>mv E rfl λa E=>bd hF λr306 e307 hF=>qae E qvH rfl (ih_syntax_parser_cases o156.2.Kind r215 (IntKind.wrap .i64 (depth_1+1)) (InR.wrap _ _) counting_2 r293.2 l297 h299 r300 h303 r304 r305 e307 hG ok) rfl rfl ?_
  rintro _ w ⟨m308,c309,c312,c315,M316,rfl,hle,ok,h310,l311,h313,r314,h317,r318,r319⟩
  have le_m0:=le_m0.trans hle
  have h3:=(mL qac).up hle h3
  have h26:=(mL qac).up hle h26
  have h39:=(mL qac).up hle h39
  have h70:=(mL qac).up hle h70
  have h149:=(mL qac).up hle h149
  have h208:=(mL qac).up hle h208
  have h299:=(mL qac).up hle h299
  refine⟨_,rfl,λa E=>?_⟩
  refine fv E qdN rfl λa E=>qai E ok 4 rfl rfl rfl qm9 (qdy h310) rfl ⟨(qbT h310),trivial⟩ rfl rfl λw ok=>wpList_nil<|qal<|qaa<|sg<|mv E rfl λa E=>bd hF λr320 e321 hF=>qae E qdq rfl (qaB N 3 (ir 3) r306.2 l311 h313 r314 h317 r318 r319 e321 hG ok) rfl rfl ?_
  rintro _ w ⟨m322,c325,c328,M329,rfl,hle,ok,l323,l324,h326,r327,h330,r331,r332⟩
  have le_m0:=le_m0.trans hle
  have h3:=(mL qac).up hle h3
  have h26:=(mL qac).up hle h26
  have h39:=(mL qac).up hle h39
  have h70:=(mL qac).up hle h70
  have h149:=(mL qac).up hle h149
  have h208:=(mL qac).up hle h208
  have h299:=(mL qac).up hle h299
  have h310:=(mL qaE).up hle h310
  have h313:=(mL qac).up hle h313
  refine⟨_,rfl,λa E=>?_⟩
  refine wn<|sg<|lv E ok (qao (cs:=[vi o156.2.Kind,vs o156.2.Text,vs o156.2.Name,vs o156.2.Style,c309,(Value.slice none 0 0)]) qct rfl rfl (Holds.own 4 rfl rfl)) λa E=>qai E ok 5 rfl rfl rfl qel rfl rfl ⟨rfl,rfl,rfl,rfl,(qbT h310),rfl,trivial⟩ rfl rfl λw ok=>wn<|wp_ret ?_
  exact fin hF ⟨m322,[vi o156.2.Kind,vs o156.2.Text,vs o156.2.Name,vs o156.2.Style,c309,(Value.slice none 0 0)],c325,c328,M329,le_m0,(ok.pk 6 [0,1] rfl (by decide)),E.d,⟨rv_c (cs:=[vi o156.2.Kind,vs o156.2.Text,vs o156.2.Name,vs o156.2.Style,c309,(Value.slice none 0 0)]) E ok rfl qct rfl (Holds.own 5 rfl rfl),trivial⟩,(qbd.2 ⟨_,_,rfl,r215,l216,l217,l218,h310,qbt⟩),l324,h326,r327,h330,r331,r332⟩
 refine sg<|mv E rfl λa E=>?_
 obtain⟨r333,e334,hF⟩:=bnd hF
 replace ok:Ok u m205 ([(pb0,oc 101 [vs o156.1.s,c207,vi o156.1.next,c210,vi o156.1.at_,vi o156.1.e])]::M211::[(b78,oc 75 [(Value.map (some b77))])]::[(b77,Obj.map qbK.toArray 7)]::[(b46,oc 90 [vi o156.2.Kind,vs o156.2.Text,vs o156.2.Name,vs o156.2.Style,(Value.slice none 0 0),(Value.slice none 0 0)])]::[(b19,oc 90 [vi 0,(vs ([])),(vs ([])),(vs ([])),(Value.slice none 0 0),(Value.slice none 0 0)])]::S) w:=(ok.pk 6 [2,3,0,1,4,5] rfl (by decide))
 refine qae E qdq rfl (qaB N 8 (ir 8) o156.1 l206 h208 r209 h212 r213 r214 e334 hG ok) rfl rfl ?_
 rintro _ w ⟨m335,c338,c341,M342,rfl,hle,ok,l336,l337,h339,r340,h343,r344,r345⟩
 have le_m0:=le_m0.trans hle
 have h3:=(mL qac).up hle h3
 have h26:=(mL qac).up hle h26
 have h39:=(mL qac).up hle h39
 have h70:=(mL qac).up hle h70
 have h149:=(mL qac).up hle h149
 have h208:=(mL qac).up hle h208
 refine⟨_,rfl,λa E=>?_⟩
 refine wn<|sg<|fk E ok qbm qaN rfl 4 rfl rfl λa E=>lw E (qaz rfl rfl) λa E=>wn<|cf E rfl hF (λc346 hF=>?_) λc346 hF=>?_
 ·refine qab<|mv E rfl λa E=>bd hF λr347 e348 hF=>qae E qkC rfl (qi4 N r333.2 l337 h339 r340 h343 r344 r345 e348 hG ok) rfl rfl ?_
  rintro _ w ⟨m349,c352,c355,M356,rfl,hle,ok,l350,l351,h353,r354,h357,r358,r359⟩
  have le_m0:=le_m0.trans hle
  have h3:=(mL qac).up hle h3
  have h26:=(mL qac).up hle h26
  have h39:=(mL qac).up hle h39
  have h70:=(mL qac).up hle h70
  have h149:=(mL qac).up hle h149
  have h208:=(mL qac).up hle h208
  have h339:=(mL qac).up hle h339
  refine⟨_,rfl,λa E=>?_⟩
  refine fv E qcn rfl λa E=>qai E ok 4 rfl rfl rfl qf2 rfl rfl ⟨rfl,trivial⟩ rfl rfl λw ok=>wpList_nil<|qal<|qaa<|sg<|mv E rfl λa E=>bd hF λr360 e361 hF=>qae E qdq rfl (qaB N 3 (ir 3) r347.2 l351 h353 r354 h357 r358 r359 e361 hG ok) rfl rfl ?_
  rintro _ w ⟨m362,c365,c368,M369,rfl,hle,ok,l363,l364,h366,r367,h370,r371,r372⟩
  have le_m0:=le_m0.trans hle
  have h3:=(mL qac).up hle h3
  have h26:=(mL qac).up hle h26
  have h39:=(mL qac).up hle h39
  have h70:=(mL qac).up hle h70
  have h149:=(mL qac).up hle h149
  have h208:=(mL qac).up hle h208
  have h339:=(mL qac).up hle h339
  have h353:=(mL qac).up hle h353
  refine⟨_,rfl,λa E=>?_⟩
  refine wn<|sg<|lv E ok (qao (cs:=[vi o156.2.Kind,vs o156.2.Text,vs o156.2.Name,vs r347.1,(Value.slice none 0 0),(Value.slice none 0 0)]) qct rfl rfl (Holds.own 4 rfl rfl)) λa E=>qai E ok 5 rfl rfl rfl qel rfl rfl ⟨rfl,rfl,rfl,rfl,rfl,rfl,trivial⟩ rfl rfl λw ok=>wn<|wp_ret ?_
  exact fin hF ⟨m362,[vi o156.2.Kind,vs o156.2.Text,vs o156.2.Name,vs r347.1,(Value.slice none 0 0),(Value.slice none 0 0)],c365,c368,M369,le_m0,(ok.pk 6 [0,1] rfl (by decide)),E.d,⟨rv_c (cs:=[vi o156.2.Kind,vs o156.2.Text,vs o156.2.Name,vs r347.1,(Value.slice none 0 0),(Value.slice none 0 0)]) E ok rfl qct rfl (Holds.own 5 rfl rfl),trivial⟩,(qbd.2 ⟨_,_,rfl,r215,l216,l217,l350,qbt,qbt⟩),l364,h366,r367,h370,r371,r372⟩
 refine qab<|mv E rfl λa E=>bd hF λr373 e374 hF=>qae E qkC rfl (qgo N r333.2 l337 h339 r340 h343 r344 r345 e374 hG ok) rfl rfl ?_
 rintro _ w ⟨m375,c378,c381,M382,rfl,hle,ok,l376,l377,h379,r380,h383,r384,r385⟩
 have le_m0:=le_m0.trans hle
 have h3:=(mL qac).up hle h3
 have h26:=(mL qac).up hle h26
 have h39:=(mL qac).up hle h39
 have h70:=(mL qac).up hle h70
 have h149:=(mL qac).up hle h149
 have h208:=(mL qac).up hle h208
 have h339:=(mL qac).up hle h339
 refine⟨_,rfl,λa E=>?_⟩
 refine fv E qcn rfl λa E=>qai E ok 4 rfl rfl rfl qf2 rfl rfl ⟨rfl,trivial⟩ rfl rfl λw ok=>wpList_nil<|qal<|qaa<|sg<|mv E rfl λa E=>bd hF λr386 e387 hF=>qae E qdq rfl (qaB N 3 (ir 3) r373.2 l377 h379 r380 h383 r384 r385 e387 hG ok) rfl rfl ?_
 rintro _ w ⟨m388,c391,c394,M395,rfl,hle,ok,l389,l390,h392,r393,h396,r397,r398⟩
 have le_m0:=le_m0.trans hle
 have h3:=(mL qac).up hle h3
 have h26:=(mL qac).up hle h26
 have h39:=(mL qac).up hle h39
 have h70:=(mL qac).up hle h70
 have h149:=(mL qac).up hle h149
 have h208:=(mL qac).up hle h208
 have h339:=(mL qac).up hle h339
 have h379:=(mL qac).up hle h379
 refine⟨_,rfl,λa E=>?_⟩
 refine wn<|sg<|lv E ok (qao (cs:=[vi o156.2.Kind,vs o156.2.Text,vs o156.2.Name,vs r373.1,(Value.slice none 0 0),(Value.slice none 0 0)]) qct rfl rfl (Holds.own 4 rfl rfl)) λa E=>qai E ok 5 rfl rfl rfl qel rfl rfl ⟨rfl,rfl,rfl,rfl,rfl,rfl,trivial⟩ rfl rfl λw ok=>wn<|wp_ret ?_
 exact fin hF ⟨m388,[vi o156.2.Kind,vs o156.2.Text,vs o156.2.Name,vs r373.1,(Value.slice none 0 0),(Value.slice none 0 0)],c391,c394,M395,le_m0,(ok.pk 6 [0,1] rfl (by decide)),E.d,⟨rv_c (cs:=[vi o156.2.Kind,vs o156.2.Text,vs o156.2.Name,vs r373.1,(Value.slice none 0 0),(Value.slice none 0 0)]) E ok rfl qct rfl (Holds.own 5 rfl rfl),trivial⟩,(qbd.2 ⟨_,_,rfl,r215,l216,l217,l376,qbt,qbt⟩),l390,h392,r393,h396,r397,r398⟩
theorem qi7(N:Nat)(ih_syntax_parser_message:qcB N)(ih_syntax_parser_element:qcE N)(ih_syntax_parser_argument:qcq N)(ih_syntax_parser_cases:qcV N):qcV (N+1):=by
 intro u m0 S w kind_1 rkind_1 depth_2 rdepth_2 counting_3 pb0 c2 c5 M6 x0 l1 h3 r4 h7 r8 r9 r hF hG ok
 have le_m0:=Mem.le.refl m0
 have hF0:qcs (qam N) (qav N) (qat N) (qay N) N kind_1 depth_2 counting_3 x0=some r:=hF
 have hF:=hF0
 clear hF0
 unfold qcs at hF
 refine en (qkv u m0 S pb0 x0 c2 c5 M6) r Tryz.func93 rfl rfl rfl (by rintro a w ⟨m1,v0,c11,c14,M15,hle,ok,hd,hrv,h0,h1,h2,h3,h4,h5,h6⟩;exact qbf [.t 8 v0] hd rfl hrv ⟨m1,v0,c11,c14,M15,rfl,hle,ok,h0,h1,h2,h3,h4,h5,h6⟩) λfin a E=>sg<|qgl E ok rfl rfl rfl λb19 a w E ok=>aw E rfl λa E=>sg<|aw E rfl λa E=>sg<|qf0 kS (oneV pB) E ok rfl rfl λc20 M21 a w E ok h22=>av E rfl λa E=>wn<|wp_seq<|sg<|aw E rfl λa E=>wp_block ?_
 obtain⟨M38,ok,h39⟩:=qd9 (e:=93) (k:=2) (R:=qcY) ok
 refine bd hF λo40 hL hF=>qbb _ (λ(s:(List (Case))×Bool×Parser×(List (List UInt8×Bool))) a w=>∃ m41 c42 M43 c46 c49 M50 c54 M55,m0.le m41∧Ok u m41 (M43::M55::[(b19,oc 3 [vi kind_1])]::[(pb0,oc 101 [vs s.2.2.1.s,c46,vi s.2.2.1.next,c49,vi s.2.2.1.at_,vi s.2.2.1.e])]::M50::S) w∧Env 93 a [(0,vp pb0),(2,vi depth_2),(3,vb counting_3),(5,vp b19),(9,c42),(10,c54),(11,vb s.2.1)]∧ORow 93 2 qcY m41 c42 s.1 M43∧s.2.2.1.s.length≤LIMS∧(pL 4 qa4) m41 [c46] s.2.2.1.l∧InR .i64 s.2.2.1.next∧OMap kS (oneV pB) m41 c49 s.2.2.1.names M50∧InR .i64 s.2.2.1.at_∧InR .i64 s.2.2.1.e∧OMap kS (oneV pB) m41 c54 s.2.2.2 M55) (λ(b:(Parser×(List (Case))×(List (List UInt8×Bool)))) e a w=>e=(.exit 0)∧∃ m567 c569 c572 M573 c577 M578 c580 M581,m0.le m567∧Ok u m567 (M578::M581::[(b19,oc 3 [vi kind_1])]::[(pb0,oc 101 [vs b.1.s,c569,vi b.1.next,c572,vi b.1.at_,vi b.1.e])]::M573::S) w∧Env 93 a [(0,vp pb0),(9,c577),(10,c580)]∧b.1.s.length≤LIMS∧(pL 4 qa4) m567 [c569] b.1.l∧InR .i64 b.1.next∧OMap kS (oneV pB) m567 c572 b.1.names M573∧InR .i64 b.1.at_∧InR .i64 b.1.e∧ORow 93 2 qcY m567 c577 b.2.1 M578∧OMap kS (oneV pB) m567 c580 b.2.2 M581) ?_ ?_ N _ a w hL ⟨m0,(Value.slice none 0 0),M38,c2,c5,M6,c20,M21,Mem.le.refl _,ok,E.keep [0,2,3,5,9,10,11],h39,l1,h3,r4,h7,r8,r9,h22⟩
 rotate_left
 ·as_aux_lemma=>
   intro e a w _ hO
   obtain⟨rfl,m524,c526,c529,M530,c534,M535,c537,M538,hle,ok,E,l525,h527,r528,h531,r532,r533,h536,h539⟩:=hO
   have le_m0:=le_m0.trans hle
   have h3:=(mL qac).up hle h3
   refine qbh<|qaa<|wp_seq<|sg<|mv E rfl λa E=>?_
   obtain⟨r540,e541,hF⟩:=bnd hF
   replace ok:Ok u m524 ([(pb0,oc 101 [vs o40.1.s,c526,vi o40.1.next,c529,vi o40.1.at_,vi o40.1.e])]::M530::M535::M538::[(b19,oc 3 [vi kind_1])]::S) w:=(ok.pk 5 [3,4,0,1,2] rfl (by decide))
   refine qae E qdx rfl (qaC N o40.1 l525 h527 r528 h531 r532 r533 e541 hG ok) rfl rfl ?_
   rintro _ w ⟨⟨rfl,ok⟩,r542⟩
   refine⟨_,rfl,λa E=>?_⟩
   refine lw E (qaz rfl rfl) λa E=>mv E rfl λa E=>bw E 85 hF (λc543 hF E=>?_) λc543 hF E=>?_
   ·refine lsq E λa E=>ls E λa E=>pf E rfl rfl λa E=>wn<|c_if E rfl (λh=>by cases h) (λ_=>?_)
    refine wp_skip<|qaa<|sg<|mv E rfl λa E=>aw E rfl λa E=>wp_ret ?_
    obtain⟨m565,hle,ok,hfz⟩:=(ok.frs 2 rfl).freeze
    have h566:=ORow.froz qaE h536 hle hfz (by decide)
    have le_m0:=le_m0.trans hle
    have h3:=(mL qac).up hle h3
    have h527:=(mL qac).up hle h527
    have h531:=OMap.up (qbc mB) hle h531
    have h539:=OMap.up (qbc mB) hle h539
    exact fin hF ⟨m565,c534,c526,c529,M530,le_m0,(ok.pk 4 [0,1] rfl (by decide)),E.d,rz E rfl,h566,l525,h527,r528,h531,r532,r533⟩
   refine mv E rfl λa E=>?_
   obtain⟨xv544,h545,yy546,yy547⟩:=qfC (P:=Tryz.prog) (mo:=.tmp 86) (ko:=.const (vs ([111,116,104,101,114]))) (zx:=(false:Bool)) ok 3 (qbe Tryz.underlying9) Tryz.underlying99 h539 rfl (qaD E rfl) (qaD E rfl) ⟨rfl,(show([111,116,104,101,114]:List UInt8).length≤LIMS by decide)⟩ qhH qfD
   obtain rfl:=qiZ h545
   refine lv E ok (yy546 _) λa E=>lw E (qa9 rfl) λa E=>pt E rfl rfl λa E=>wn<|cg E rfl hF (λc548 hF=>?_) λc548 hF=>?_
   ·refine wp_skip<|qaa<|sg<|mv E rfl λa E=>aw E rfl λa E=>wp_ret ?_
    obtain⟨m563,hle,ok,hfz⟩:=(ok.frs 2 rfl).freeze
    have h564:=ORow.froz qaE h536 hle hfz (by decide)
    have le_m0:=le_m0.trans hle
    have h3:=(mL qac).up hle h3
    have h527:=(mL qac).up hle h527
    have h531:=OMap.up (qbc mB) hle h531
    have h539:=OMap.up (qbc mB) hle h539
    exact fin hF ⟨m563,c534,c526,c529,M530,le_m0,(ok.pk 4 [0,1] rfl (by decide)),E.d,rz E rfl,h564,l525,h527,r528,h531,r532,r533⟩
   refine qab<|mv E rfl λa E=>bd hF λr549 e550 hF=>qae E qfN rfl (qbn N 13 (ir 13) o40.1 l525 h527 r528 h531 r532 r533 e550 hG ok) rfl rfl ?_
   rintro _ w ⟨m551,c553,c556,M557,rfl,hle,ok,l552,h554,r555,h558,r559,r560⟩
   have le_m0:=le_m0.trans hle
   have h3:=(mL qac).up hle h3
   have h527:=(mL qac).up hle h527
   have h536:=ORow.up qaE hle h536
   have h539:=OMap.up (qbc mB) hle h539
   refine⟨_,rfl,λa E=>?_⟩
   refine wn<|sg<|mv E rfl λa E=>aw E rfl λa E=>wp_ret ?_
   obtain⟨m561,hle,ok,hfz⟩:=(ok.frs 2 rfl).freeze
   have h562:=ORow.froz qaE h536 hle hfz (by decide)
   have le_m0:=le_m0.trans hle
   have h3:=(mL qac).up hle h3
   have h527:=(mL qac).up hle h527
   have h539:=OMap.up (qbc mB) hle h539
   have h554:=(mL qac).up hle h554
   have h558:=OMap.up (qbc mB) hle h558
   exact fin hF ⟨m561,c534,c553,c556,M557,le_m0,(ok.pk 4 [0,1] rfl (by decide)),E.d,rz E rfl,h562,l552,h554,r555,h558,r559,r560⟩
 rintro⟨v57,v58,v59,v60⟩ a w r ⟨m61,c62,M63,c66,c69,M70,c74,M75,hle,ok,E,h64,l65,h67,r68,h71,r72,r73,h76⟩ hF
 replace hF:qa6 (qam N) (qav N) (qat N) (qay N) N kind_1 depth_2 counting_3 v57 v58 v59 v60=some r:=hF
 unfold qa6 at hF
 have le_m0:=le_m0.trans hle
 have h3:=(mL qac).up hle h3
 refine wp_seq<|sg<|mz E rfl rfl λa E=>qbx v58 (λc77=>?_) (λc77=>?_)
 ·as_aux_lemma=>
   have hF:=qbz c77 hF
   have E:=E.upd 15 c77 rfl
   refine lsq E λa E=>ls E λa E=>pt E rfl rfl λa E=>wn<|c_if E rfl (λ_=>?_) (λh=>by cases h)
   refine wp_skip<|qaa<|wp_seq<|wp_block<|wp_seq<|wp_seq<|bd hF λo78 hJ hF=>qaO (Q':=λe a w=>e=.normal∧Ok u m61 (M63::M75::[(b19,oc 3 [vi kind_1])]::[(pb0,oc 101 [vs v59.s,c66,vi v59.next,c69,vi v59.at_,vi v59.e])]::M70::S) w∧Env 93 a [(0,vp pb0),(2,vi depth_2),(3,vb counting_3),(5,vp b19),(9,c62),(10,c74),(37,vb o78)]) ?_ ?_
   ·as_aux_lemma=>
     have hF:=hJ
     refine bd hF λr79 e80 hF=>qbx (r79==9) (λc82=>?_) (λc82=>?_)
     rotate_left
     ·have hF:=qby c82 hF
      cases hF
      refine qbl [] (Cls u m61 (M63::M75::[(b19,oc 3 [vi kind_1])]::[(pb0,oc 101 [vs v59.s,c66,vi v59.next,c69,vi v59.at_,vi v59.e])]::M70::[])) (Cls u m61 (M63::M75::[(b19,oc 3 [vi kind_1])]::[(pb0,oc 101 [vs v59.s,c66,vi v59.next,c69,vi v59.at_,vi v59.e])]::M70::[])) (by kernel_rfl) ?_
      intro w hw
      replace ok:=qbA ok hw
      clear hw
      have le_m61:=Mem.le.refl m61
      refine qaq (cl1 (cq le_m61 ok [0,1,2,3,4] rfl) (cq le_m61 ok [0,1,2,3,4] rfl)) λhT=>kt 0 E rfl hT (qad rfl) λa E=>qaU [1] (by kernel_rfl) rfl (qa1 ?_)
      ·refine qci (o:=_) rfl ?_
       replace ok:Ok u m61 ([(pb0,oc 101 [vs v59.s,c66,vi v59.next,c69,vi v59.at_,vi v59.e])]::M70::M63::M75::[(b19,oc 3 [vi kind_1])]::S) w:=(ok.pk 5 [3,4,0,1,2] rfl (by decide))
       refine qae E qdx rfl (qaC N v59 l65 h67 r68 h71 r72 r73 e80 hG ok) rfl rfl ?_
       rintro _ w ⟨⟨rfl,ok⟩,r110⟩
       refine⟨_,rfl,λa E=>?_⟩
       refine wn<|qaq (cl1 (cq le_m61 ok [2,3,4,0,1] rfl) (cq le_m61 ok [2,3,4,0,1] rfl)) λhT=>kt 2 E rfl hT (qaz rfl rfl) λa E=>kt 3 E rfl hT (qad rfl) λa E=>?_
       have E:=E.upd 23 c82 rfl
       refine qaf 4 false E rfl (by kernel_rfl) nP hT rfl rfl λa E=>qaf 5 false E rfl (by kernel_rfl) nP hT rfl rfl λa E=>qaf 6 false E rfl (by kernel_rfl) nP hT rfl rfl λa E=>qaf 7 false E rfl (by kernel_rfl) nP hT rfl rfl λa E=>qaf 8 false E rfl (by kernel_rfl) nP hT rfl rfl λa E=>qaf 9 false E rfl (by kernel_rfl) nP hT rfl rfl λa E=>qaf 10 false E rfl (by kernel_rfl) nP hT rfl rfl λa E=>qaf 11 false E rfl (by kernel_rfl) nP hT rfl rfl λa E=>qaf 12 false E rfl (by kernel_rfl) nP hT rfl rfl λa E=>qaf 13 false E rfl (by kernel_rfl) nP hT rfl rfl λa E=>qaf 14 false E rfl (by kernel_rfl) nP hT rfl rfl λa E=>qaf 15 false E rfl (by kernel_rfl) nP hT rfl rfl λa E=>qaf 16 false E rfl (by kernel_rfl) nP hT rfl rfl λa E=>kt 17 E rfl hT (qbX rfl rfl) λa E=>qbv (by kernel_rfl) ?_
       exact⟨rfl,⟨(ok.pk 5 [2,3,4,0,1] rfl (by decide)),E.keep [0,2,3,5,9,10,37]⟩⟩
     have hF:=qbz c82 hF
     obtain⟨x83,e84,hF⟩:=bnd hF
     obtain⟨r96,e97,hF⟩:=bnd hF
     obtain rfl:=sj hF
     refine qbl [] (Cls u m61 (M63::M75::[(b19,oc 3 [vi kind_1])]::[(pb0,oc 101 [vs v59.s,c66,vi v59.next,c69,vi v59.at_,vi v59.e])]::M70::[])) (Cls u m61 (M63::M75::[(b19,oc 3 [vi kind_1])]::[(pb0,oc 101 [vs v59.s,c66,vi v59.next,c69,vi v59.at_,vi v59.e])]::M70::[])) (by kernel_rfl) ?_
     intro w hw
     replace ok:=qbA ok hw
     clear hw
     have le_m61:=Mem.le.refl m61
     refine qaq (cl1 (cq le_m61 ok [0,1,2,3,4] rfl) (cq le_m61 ok [0,1,2,3,4] rfl)) λhT=>kt 0 E rfl hT (qad rfl) λa E=>qaU [1] (by kernel_rfl) rfl (qa1 ?_)
     ·refine qci (o:=_) rfl ?_
      replace ok:Ok u m61 ([(pb0,oc 101 [vs v59.s,c66,vi v59.next,c69,vi v59.at_,vi v59.e])]::M70::M63::M75::[(b19,oc 3 [vi kind_1])]::S) w:=(ok.pk 5 [3,4,0,1,2] rfl (by decide))
      refine qae E qdx rfl (qaC N v59 l65 h67 r68 h71 r72 r73 e80 hG ok) rfl rfl ?_
      rintro _ w ⟨⟨rfl,ok⟩,r98⟩
      refine⟨_,rfl,λa E=>?_⟩
      refine wn<|qaq (cl1 (cq le_m61 ok [2,3,4,0,1] rfl) (cq le_m61 ok [2,3,4,0,1] rfl)) λhT=>kt 2 E rfl hT (qaz rfl rfl) λa E=>kt 3 E rfl hT (qad rfl) λa E=>?_
      have E:=E.upd 23 c82 rfl
      refine kt 4 E rfl hT (qaw qaN rfl (Holds.cown 2 rfl rfl)) λa E=>kt 5 E rfl hT (qad rfl) λa E=>kt 6 E rfl hT (qan rfl) λa E=>kt 7 E rfl hT (qaj qcM rfl) λa E=>kt 8 E rfl hT (qaw qdX rfl (Holds.cown 3 rfl rfl)) λa E=>kt 9 E rfl hT (qad rfl) λa E=>kt 10 E rfl hT (qan rfl) λa E=>kt 11 E rfl hT (qaj qcl rfl) λa E=>kt 12 E rfl hT (qaw qaN rfl (Holds.cown 3 rfl rfl)) λa E=>?_
      obtain⟨b99,o100,es101,hl102,rr103,at104,yy105⟩:=ia E 28 32 qdJ h67 e84
      obtain⟨rfl,r106,l107,r108,r109⟩:=rr103
      refine kt 13 E rfl hT (yy105 _ _) λa E=>kt 14 E rfl hT (qaj qdA rfl) λa E=>kt 15 E rfl hT (qaw qax rfl (Holds.cro (At.sub 1 1 at104))) λa E=>qaU [16] (by kernel_rfl) rfl (qa1 ?_)
      ·refine wo rfl<|lc E qnl rfl (qhm N kind_1 rkind_1 x83.Text l107 e97 hG ok) λw ok a E=>wn<|qaq (cl1 (cq le_m61 ok [2,3,4,0,1] rfl) (cq le_m61 ok [2,3,4,0,1] rfl)) λhT=>kt 17 E rfl hT (qb1 rfl rfl) λa E=>qbv (by kernel_rfl) ?_
       exact⟨rfl,⟨(ok.pk 5 [2,3,4,0,1] rfl (by decide)),E.keep [0,2,3,5,9,10,37]⟩⟩
   intro e a w hO
   obtain⟨rfl,ok,E⟩:=hO
   refine qaa<|bd hF λo111 hJ hF=>qaO (Q':=λe a w=>e=.normal∧∃ m112 c114 c117 M118,m61.le m112∧Ok u m112 (M63::M75::[(b19,oc 3 [vi kind_1])]::[(pb0,oc 101 [vs o111.s,c114,vi o111.next,c117,vi o111.at_,vi o111.e])]::M118::S) w∧Env 93 a [(0,vp pb0),(2,vi depth_2),(3,vb counting_3),(5,vp b19),(9,c62),(10,c74)]∧o111.s.length≤LIMS∧(pL 4 qa4) m112 [c114] o111.l∧InR .i64 o111.next∧OMap kS (oneV pB) m112 c117 o111.names M118∧InR .i64 o111.at_∧InR .i64 o111.e) ?_ ?_
   ·as_aux_lemma=>
     have hF:=hJ
     have le_m61:=Mem.le.refl m61
     refine cg E rfl hF (λc122 hF=>?_) λc122 hF=>?_
     ·refine wp_skip ?_
      cases hF
      exact⟨rfl,⟨m61,c66,c69,M70,le_m61,ok,E.keep [0,2,3,5,9,10],l65,h67,r68,h71,r72,r73⟩⟩
     refine wp_seq<|sg<|mv E rfl λa E=>lv E ok (qeB qch h64 rfl) λa E=>lw E (qbL rfl rfl) λa E=>wn<|bd hF λo123 hJ hF=>qaO (Q':=λe a w=>e=.normal∧∃ m124 c126 c129 M130,m61.le m124∧Ok u m124 (M63::M75::[(b19,oc 3 [vi kind_1])]::[(pb0,oc 101 [vs o123.s,c126,vi o123.next,c129,vi o123.at_,vi o123.e])]::M130::S) w∧Env 93 a [(0,vp pb0),(2,vi depth_2),(3,vb counting_3),(5,vp b19),(9,c62),(10,c74)]∧o123.s.length≤LIMS∧(pL 4 qa4) m124 [c126] o123.l∧InR .i64 o123.next∧OMap kS (oneV pB) m124 c129 o123.names M130∧InR .i64 o123.at_∧InR .i64 o123.e) ?_ ?_
     ·have hF:=hJ
      refine cg E rfl hF (λc134 hF=>?_) λc134 hF=>?_
      ·refine wp_skip ?_
       cases hF
       exact⟨rfl,⟨m61,c66,c69,M70,le_m61,ok,E.keep [0,2,3,5,9,10],l65,h67,r68,h71,r72,r73⟩⟩
      refine qab<|mv E rfl λa E=>?_
      obtain⟨r135,e136,hF⟩:=bnd hF
      replace ok:Ok u m61 ([(pb0,oc 101 [vs v59.s,c66,vi v59.next,c69,vi v59.at_,vi v59.e])]::M70::M63::M75::[(b19,oc 3 [vi kind_1])]::S) w:=(ok.pk 5 [3,4,0,1,2] rfl (by decide))
      refine qae E qfN rfl (qbn N 6 (ir 6) v59 l65 h67 r68 h71 r72 r73 e136 hG ok) rfl rfl ?_
      rintro _ w ⟨m137,c139,c142,M143,rfl,hle,ok,l138,h140,r141,h144,r145,r146⟩
      have le_m0:=le_m0.trans hle
      have le_m61:=le_m61.trans hle
      have h3:=(mL qac).up hle h3
      have h64:=ORow.up qaE hle h64
      have h67:=(mL qac).up hle h67
      have h76:=OMap.up (qbc mB) hle h76
      refine⟨_,rfl,λa E=>?_⟩
      refine wpList_nil ?_
      cases hF
      exact⟨rfl,⟨m137,c139,c142,M143,le_m61,(ok.pk 5 [2,3,4,0,1] rfl (by decide)),E.keep [0,2,3,5,9,10],l138,h140,r141,h144,r145,r146⟩⟩
     intro e a w hO
     obtain⟨rfl,m147,c149,c152,M153,hle,ok,E,l148,h150,r151,h154,r155,r156⟩:=hO
     have le_m0:=le_m0.trans hle
     have le_m61:=le_m61.trans hle
     have h3:=(mL qac).up hle h3
     have h64:=ORow.up qaE hle h64
     have h67:=(mL qac).up hle h67
     have h76:=OMap.up (qbc mB) hle h76
     refine qaa<|wp_seq<|qdO (by kernel_rfl) (by kernel_rfl) ok<|qv E (qad rfl) λa E=>qv E (qad rfl) λa E=>qv E (qan rfl) λa E=>qv E (qaj qcM rfl) λa E=>qv E (qaw qdX rfl (Holds.own 3 rfl rfl)) λa E=>qv E (qad rfl) λa E=>qv E (qan rfl) λa E=>qv E (qaj qcl rfl) λa E=>qv E (qaw qaN rfl (Holds.own 3 rfl rfl)) λa E=>?_
     obtain⟨x157,e158,hF⟩:=bnd hF
     obtain⟨b159,o160,es161,hl162,rr163,at164,yy165⟩:=ia E 47 51 qdJ h150 e158
     obtain⟨rfl,r166,l167,r168,r169⟩:=rr163
     refine qv E (yy165 _ _) λa E=>qv E (qaj qdA rfl) λa E=>qv E (qaw qax rfl (Holds.ro (At.sub 1 1 at164))) λa E=>?_
     obtain⟨xv170,h171,yy172,yy173⟩:=qfC (P:=Tryz.prog) (mo:=.tmp 43) (ko:=.tmp 54) (zx:=(false:Bool)) ok 1 (qbe Tryz.underlying9) Tryz.underlying99 h76 rfl (qaD E rfl) (qaD E rfl) ⟨rfl,l167⟩ qhH qfD
     obtain rfl:=qiZ h171
     refine qv E (yy172 _) λa E=>wpQuiet_nil ?_
     intro w ok
     refine qaa<|cg E rfl hF (λc174 hF=>?_) λc174 hF=>?_
     ·refine wp_skip ?_
      cases hF
      exact⟨rfl,⟨m147,c149,c152,M153,le_m61,ok,E.keep [0,2,3,5,9,10],l148,h150,r151,h154,r155,r156⟩⟩
     refine qab<|mv E rfl λa E=>?_
     obtain⟨r175,e176,hF⟩:=bnd hF
     replace ok:Ok u m147 ([(pb0,oc 101 [vs o123.s,c149,vi o123.next,c152,vi o123.at_,vi o123.e])]::M153::M63::M75::[(b19,oc 3 [vi kind_1])]::S) w:=(ok.pk 5 [3,4,0,1,2] rfl (by decide))
     refine qae E qfN rfl (qbn N 9 (ir 9) o123 l148 h150 r151 h154 r155 r156 e176 hG ok) rfl rfl ?_
     rintro _ w ⟨m177,c179,c182,M183,rfl,hle,ok,l178,h180,r181,h184,r185,r186⟩
     have le_m0:=le_m0.trans hle
     have le_m61:=le_m61.trans hle
     have h3:=(mL qac).up hle h3
     have h64:=ORow.up qaE hle h64
     have h67:=(mL qac).up hle h67
     have h76:=OMap.up (qbc mB) hle h76
     have h150:=(mL qac).up hle h150
     have at164:=At.up hle at164
     refine⟨_,rfl,λa E=>?_⟩
     refine wpList_nil ?_
     cases hF
     exact⟨rfl,⟨m177,c179,c182,M183,le_m61,(ok.pk 5 [2,3,4,0,1] rfl (by decide)),E.keep [0,2,3,5,9,10],l178,h180,r181,h184,r185,r186⟩⟩
   intro e a w hO
   obtain⟨rfl,m187,c189,c192,M193,hle,ok,E,l188,h190,r191,h194,r195,r196⟩:=hO
   have le_m0:=le_m0.trans hle
   have h3:=(mL qac).up hle h3
   have h64:=ORow.up qaE hle h64
   have h67:=(mL qac).up hle h67
   have h76:=OMap.up (qbc mB) hle h76
   refine qaa<|sg<|mv E rfl λa E=>lv E ok (qiu (caps:=[.tmp 5]) rfl) λa E=>?_
   obtain⟨r197,e198,hF⟩:=bnd hF
   replace ok:Ok u m187 ([(pb0,oc 101 [vs o111.s,c189,vi o111.next,c192,vi o111.at_,vi o111.e])]::M193::[(b19,oc 3 [vi kind_1])]::M63::M75::S) w:=(ok.pk 5 [3,4,2,0,1] rfl (by decide))
   refine qae E qkC rfl (qgk N o111 l188 h190 r191 h194 r195 r196 kind_1 rkind_1 e198 hG ok) rfl rfl ?_
   rintro _ w ⟨m199,c202,c205,M206,rfl,hle,ok,l200,l201,h203,r204,h207,r208,r209⟩
   have le_m0:=le_m0.trans hle
   have h3:=(mL qac).up hle h3
   have h64:=ORow.up qaE hle h64
   have h67:=(mL qac).up hle h67
   have h76:=OMap.up (qbc mB) hle h76
   have h190:=(mL qac).up hle h190
   refine⟨_,rfl,λa E=>?_⟩
   refine lw E (qbY (ps:=[(0,.tmp 60)]) (qs:=[(0,[vs r197.1])]) (cs:=[vs r197.1,(Value.slice none 0 0)]) qb0 qhU rfl ⟨rfl,rfl,rfl,trivial⟩ rfl) λa E=>qaL E ok qb0 rfl rfl λb210 a w E ok=>qai E ok 0 rfl rfl rfl qgc rfl rfl ⟨rfl,rfl,trivial⟩ rfl rfl λw ok=>wn<|sg<|mv E rfl λa E=>fk E ok qgi qax rfl 0 rfl rfl λa E=>bd hF λl211 e212 hF=>qd8 (.inl rfl) E ok 5 (qbe Tryz.underlying9) Tryz.underlying99 h76 rfl rfl rfl rfl ⟨rfl,l200⟩ qfD e212 rfl λM213 w ok h214=>wn<|sg<|mv E rfl λa E=>?_
   obtain⟨r215,e216,hF⟩:=bnd hF
   replace ok:Ok u m199 ([(pb0,oc 101 [vs r197.2.s,c202,vi r197.2.next,c205,vi r197.2.at_,vi r197.2.e])]::M206::[(b210,oc 93 [vs r197.1,(Value.slice none 0 0)])]::[(b19,oc 3 [vi kind_1])]::M63::M213::S) w:=(ok.pk 6 [1,2,0,3,4,5] rfl (by decide))
   refine qae E qdq rfl (qaB N 2 (ir 2) r197.2 l201 h203 r204 h207 r208 r209 e216 hG ok) rfl rfl ?_
   rintro _ w ⟨m217,c220,c223,M224,rfl,hle,ok,l218,l219,h221,r222,h225,r226,r227⟩
   have le_m0:=le_m0.trans hle
   have h3:=(mL qac).up hle h3
   have h64:=ORow.up qaE hle h64
   have h67:=(mL qac).up hle h67
   have h190:=(mL qac).up hle h190
   have h203:=(mL qac).up hle h203
   have h214:=OMap.up (qbc mB) hle h214
   refine⟨_,rfl,λa E=>?_⟩
   refine wn<|sg<|mz E rfl rfl λa E=>mz E rfl rfl λa E=>qbx counting_3 (λc228=>?_) (λc228=>?_)
   ·have hF:=qbz c228 hF
    have E:=E.upd 70 c228 rfl
    refine lsq E λa E=>pt E rfl rfl λa E=>bd hF λr229 e230 hF=>qae E qma rfl (ih_syntax_parser_message depth_2 rdepth_2 true r215.2 l219 h221 r222 h225 r226 r227 e230 hG ok) rfl rfl ?_
    rintro _ w ⟨m231,c232,c235,c238,M239,rfl,hle,ok,h233,l234,h236,r237,h240,r241,r242⟩
    have le_m0:=le_m0.trans hle
    have h3:=(mL qac).up hle h3
    have h64:=ORow.up qaE hle h64
    have h67:=(mL qac).up hle h67
    have h190:=(mL qac).up hle h190
    have h203:=(mL qac).up hle h203
    have h214:=OMap.up (qbc mB) hle h214
    have h221:=(mL qac).up hle h221
    refine⟨_,rfl,λa E=>?_⟩
    refine fv E qeL rfl λa E=>qai E ok 2 rfl rfl rfl qgz (qdy h233) rfl ⟨(qbT h233),trivial⟩ rfl rfl λw ok=>wn<|sg<|mv E rfl λa E=>bd hF λr243 e244 hF=>qae E qdq rfl (qaB N 3 (ir 3) r229.2 l234 h236 r237 h240 r241 r242 e244 hG ok) rfl rfl ?_
    rintro _ w ⟨m245,c248,c251,M252,rfl,hle,ok,l246,l247,h249,r250,h253,r254,r255⟩
    have le_m0:=le_m0.trans hle
    have h3:=(mL qac).up hle h3
    have h64:=ORow.up qaE hle h64
    have h67:=(mL qac).up hle h67
    have h190:=(mL qac).up hle h190
    have h203:=(mL qac).up hle h203
    have h214:=OMap.up (qbc mB) hle h214
    have h221:=(mL qac).up hle h221
    have h233:=(mL qah).up hle h233
    have h236:=(mL qac).up hle h236
    refine⟨_,rfl,λa E=>?_⟩
    refine wn<|qab<|mv E rfl λa E=>lv E ok (qao (cs:=[vs r197.1,c232]) qfE rfl rfl (Holds.own 2 rfl rfl)) λa E=>qbF (R:=qcY) (xo:=[.tmp 79]) (xs:=([(Case.mk r197.1 r229.1)]:List (Case))) E ok qch qb0 rfl ⟨⟨_,rfl,rfl,⟨_,rfl,l200,h233⟩⟩,trivial⟩ rfl rfl rfl rfl λc256 M257 a w E ok h258=>bd hF λl259 e260 hF=>qcf (R:=qcY) E ok 5 qaE qch Tryz.underlying88 rfl h64 (qbD.ofRow h258 0 rfl ok) e260 ⟨_,qb0,rfl⟩ rfl rfl rfl rfl λc261 M262 a w E ok h263=>av E rfl λa E=>wpList_nil<|qal<|qaa<|qab<|av E rfl λa E=>wpList_nil ?_
    cases hF
    exact qau ⟨m245,c261,M262,c248,c251,M252,c74,M213,le_m0,(ok.pk 7 [5,6,4,1,2] rfl (by decide)),E.keep [0,2,3,5,9,10,11],h263,l247,h249,r250,h253,r254,r255,h214⟩
   have hF:=qby c228 hF
   have E:=E.upd 70 c228 rfl
   refine ld E ok qaN 3 rfl rfl rfl λa E=>lw E (qbg rfl rfl) λa E=>pf E rfl rfl λa E=>bd hF λr264 e265 hF=>qae E qma rfl (ih_syntax_parser_message depth_2 rdepth_2 (kind_1 != 9) r215.2 l219 h221 r222 h225 r226 r227 e265 hG ok) rfl rfl ?_
   rintro _ w ⟨m266,c267,c270,c273,M274,rfl,hle,ok,h268,l269,h271,r272,h275,r276,r277⟩
   have le_m0:=le_m0.trans hle
   have h3:=(mL qac).up hle h3
   have h64:=ORow.up qaE hle h64
   have h67:=(mL qac).up hle h67
   have h190:=(mL qac).up hle h190
   have h203:=(mL qac).up hle h203
   have h214:=OMap.up (qbc mB) hle h214
   have h221:=(mL qac).up hle h221
   refine⟨_,rfl,λa E=>?_⟩
   refine fv E qeL rfl λa E=>qai E ok 2 rfl rfl rfl qgz (qdy h268) rfl ⟨(qbT h268),trivial⟩ rfl rfl λw ok=>wn<|sg<|mv E rfl λa E=>bd hF λr278 e279 hF=>qae E qdq rfl (qaB N 3 (ir 3) r264.2 l269 h271 r272 h275 r276 r277 e279 hG ok) rfl rfl ?_
   rintro _ w ⟨m280,c283,c286,M287,rfl,hle,ok,l281,l282,h284,r285,h288,r289,r290⟩
   have le_m0:=le_m0.trans hle
   have h3:=(mL qac).up hle h3
   have h64:=ORow.up qaE hle h64
   have h67:=(mL qac).up hle h67
   have h190:=(mL qac).up hle h190
   have h203:=(mL qac).up hle h203
   have h214:=OMap.up (qbc mB) hle h214
   have h221:=(mL qac).up hle h221
   have h268:=(mL qah).up hle h268
   have h271:=(mL qac).up hle h271
   refine⟨_,rfl,λa E=>?_⟩
   refine wn<|qab<|mv E rfl λa E=>lv E ok (qao (cs:=[vs r197.1,c267]) qfE rfl rfl (Holds.own 2 rfl rfl)) λa E=>qbF (R:=qcY) (xo:=[.tmp 79]) (xs:=([(Case.mk r197.1 r264.1)]:List (Case))) E ok qch qb0 rfl ⟨⟨_,rfl,rfl,⟨_,rfl,l200,h268⟩⟩,trivial⟩ rfl rfl rfl rfl λc291 M292 a w E ok h293=>bd hF λl294 e295 hF=>qcf (R:=qcY) E ok 5 qaE qch Tryz.underlying88 rfl h64 (qbD.ofRow h293 0 rfl ok) e295 ⟨_,qb0,rfl⟩ rfl rfl rfl rfl λc296 M297 a w E ok h298=>av E rfl λa E=>wpList_nil<|qal<|qaa<|qab<|av E rfl λa E=>wpList_nil ?_
   cases hF
   exact qau ⟨m280,c296,M297,c283,c286,M287,c74,M213,le_m0,(ok.pk 7 [5,6,4,1,2] rfl (by decide)),E.keep [0,2,3,5,9,10,11],h298,l282,h284,r285,h288,r289,r290,h214⟩
 have hF:=qby c77 hF
 have E:=E.upd 15 c77 rfl
 refine mv E rfl λa E=>?_
 obtain⟨r299,e300,hF⟩:=bnd hF
 replace ok:Ok u m61 ([(pb0,oc 101 [vs v59.s,c66,vi v59.next,c69,vi v59.at_,vi v59.e])]::M70::M63::M75::[(b19,oc 3 [vi kind_1])]::S) w:=(ok.pk 5 [3,4,0,1,2] rfl (by decide))
 refine qae E qdx rfl (qaC N v59 l65 h67 r68 h71 r72 r73 e300 hG ok) rfl rfl ?_
 rintro _ w ⟨⟨rfl,ok⟩,r301⟩
 refine⟨_,rfl,λa E=>?_⟩
 refine lw E (qaz rfl rfl) λa E=>pf E rfl rfl λa E=>wn<|cg E rfl hF (λc302 hF=>?_) λc302 hF=>?_
 ·refine wp_exit<|qaM ?_
  cases hF
  exact so (⟨rfl,⟨m61,c66,c69,M70,c62,M63,c74,M75,le_m0,(ok.pk 5 [2,3,4,0,1] rfl (by decide)),E.keep [0,9,10],l65,h67,r68,h71,r72,r73,h64,h76⟩⟩)
 refine wp_skip<|qaa<|wp_seq<|wp_block<|wp_seq<|wp_seq<|bd hF λo303 hJ hF=>qaO (Q':=λe a w=>e=.normal∧Ok u m61 ([(pb0,oc 101 [vs v59.s,c66,vi v59.next,c69,vi v59.at_,vi v59.e])]::M70::M63::M75::[(b19,oc 3 [vi kind_1])]::S) w∧Env 93 a [(0,vp pb0),(2,vi depth_2),(3,vb counting_3),(5,vp b19),(9,c62),(10,c74),(37,vb o303)]) ?_ ?_
 ·as_aux_lemma=>
   have hF:=hJ
   refine bd hF λr304 e305 hF=>qbx (r304==9) (λc307=>?_) (λc307=>?_)
   rotate_left
   ·have hF:=qby c307 hF
    cases hF
    refine qbl [] (Cls u m61 ([(pb0,oc 101 [vs v59.s,c66,vi v59.next,c69,vi v59.at_,vi v59.e])]::M70::M63::M75::[(b19,oc 3 [vi kind_1])]::[])) (Cls u m61 ([(pb0,oc 101 [vs v59.s,c66,vi v59.next,c69,vi v59.at_,vi v59.e])]::M70::M63::M75::[(b19,oc 3 [vi kind_1])]::[])) (by kernel_rfl) ?_
    intro w hw
    replace ok:=qbA ok hw
    clear hw
    have le_m61:=Mem.le.refl m61
    refine qaq (cl1 (cq le_m61 ok [0,1,2,3,4] rfl) (cq le_m61 ok [0,1,2,3,4] rfl)) λhT=>kt 0 E rfl hT (qad rfl) λa E=>qaU [1] (by kernel_rfl) rfl (qa1 ?_)
    ·refine wo rfl<|qae E qdx rfl (qaC N v59 l65 h67 r68 h71 r72 r73 e305 hG ok) rfl rfl ?_
     rintro _ w ⟨⟨rfl,ok⟩,r335⟩
     refine⟨_,rfl,λa E=>?_⟩
     refine wn<|qaq (cl1 (cq le_m61 ok [0,1,2,3,4] rfl) (cq le_m61 ok [0,1,2,3,4] rfl)) λhT=>kt 2 E rfl hT (qaz rfl rfl) λa E=>kt 3 E rfl hT (qad rfl) λa E=>?_
     have E:=E.upd 23 c307 rfl
     refine qaf 4 false E rfl (by kernel_rfl) nP hT rfl rfl λa E=>qaf 5 false E rfl (by kernel_rfl) nP hT rfl rfl λa E=>qaf 6 false E rfl (by kernel_rfl) nP hT rfl rfl λa E=>qaf 7 false E rfl (by kernel_rfl) nP hT rfl rfl λa E=>qaf 8 false E rfl (by kernel_rfl) nP hT rfl rfl λa E=>qaf 9 false E rfl (by kernel_rfl) nP hT rfl rfl λa E=>qaf 10 false E rfl (by kernel_rfl) nP hT rfl rfl λa E=>qaf 11 false E rfl (by kernel_rfl) nP hT rfl rfl λa E=>qaf 12 false E rfl (by kernel_rfl) nP hT rfl rfl λa E=>qaf 13 false E rfl (by kernel_rfl) nP hT rfl rfl λa E=>qaf 14 false E rfl (by kernel_rfl) nP hT rfl rfl λa E=>qaf 15 false E rfl (by kernel_rfl) nP hT rfl rfl λa E=>qaf 16 false E rfl (by kernel_rfl) nP hT rfl rfl λa E=>kt 17 E rfl hT (qbX rfl rfl) λa E=>qbv (by kernel_rfl) ?_
     exact⟨rfl,⟨ok,E.keep [0,2,3,5,9,10,37]⟩⟩
   have hF:=qbz c307 hF
   obtain⟨x308,e309,hF⟩:=bnd hF
   obtain⟨r321,e322,hF⟩:=bnd hF
   obtain rfl:=sj hF
   refine qbl [] (Cls u m61 ([(pb0,oc 101 [vs v59.s,c66,vi v59.next,c69,vi v59.at_,vi v59.e])]::M70::M63::M75::[(b19,oc 3 [vi kind_1])]::[])) (Cls u m61 ([(pb0,oc 101 [vs v59.s,c66,vi v59.next,c69,vi v59.at_,vi v59.e])]::M70::M63::M75::[(b19,oc 3 [vi kind_1])]::[])) (by kernel_rfl) ?_
   intro w hw
   replace ok:=qbA ok hw
   clear hw
   have le_m61:=Mem.le.refl m61
   refine qaq (cl1 (cq le_m61 ok [0,1,2,3,4] rfl) (cq le_m61 ok [0,1,2,3,4] rfl)) λhT=>kt 0 E rfl hT (qad rfl) λa E=>qaU [1] (by kernel_rfl) rfl (qa1 ?_)
   ·refine wo rfl<|qae E qdx rfl (qaC N v59 l65 h67 r68 h71 r72 r73 e305 hG ok) rfl rfl ?_
    rintro _ w ⟨⟨rfl,ok⟩,r323⟩
    refine⟨_,rfl,λa E=>?_⟩
    refine wn<|qaq (cl1 (cq le_m61 ok [0,1,2,3,4] rfl) (cq le_m61 ok [0,1,2,3,4] rfl)) λhT=>kt 2 E rfl hT (qaz rfl rfl) λa E=>kt 3 E rfl hT (qad rfl) λa E=>?_
    have E:=E.upd 23 c307 rfl
    refine kt 4 E rfl hT (qaw qaN rfl (Holds.cown 4 rfl rfl)) λa E=>kt 5 E rfl hT (qad rfl) λa E=>kt 6 E rfl hT (qan rfl) λa E=>kt 7 E rfl hT (qaj qcM rfl) λa E=>kt 8 E rfl hT (qaw qdX rfl (Holds.cown 0 rfl rfl)) λa E=>kt 9 E rfl hT (qad rfl) λa E=>kt 10 E rfl hT (qan rfl) λa E=>kt 11 E rfl hT (qaj qcl rfl) λa E=>kt 12 E rfl hT (qaw qaN rfl (Holds.cown 0 rfl rfl)) λa E=>?_
    obtain⟨b324,o325,es326,hl327,rr328,at329,yy330⟩:=ia E 28 32 qdJ h67 e309
    obtain⟨rfl,r331,l332,r333,r334⟩:=rr328
    refine kt 13 E rfl hT (yy330 _ _) λa E=>kt 14 E rfl hT (qaj qdA rfl) λa E=>kt 15 E rfl hT (qaw qax rfl (Holds.cro (At.sub 1 1 at329))) λa E=>qaU [16] (by kernel_rfl) rfl (qa1 ?_)
    ·refine wo rfl<|lc E qnl rfl (qhm N kind_1 rkind_1 x308.Text l332 e322 hG ok) λw ok a E=>wn<|qaq (cl1 (cq le_m61 ok [0,1,2,3,4] rfl) (cq le_m61 ok [0,1,2,3,4] rfl)) λhT=>kt 17 E rfl hT (qb1 rfl rfl) λa E=>qbv (by kernel_rfl) ?_
     exact⟨rfl,⟨ok,E.keep [0,2,3,5,9,10,37]⟩⟩
 intro e a w hO
 obtain⟨rfl,ok,E⟩:=hO
 refine qaa<|bd hF λo336 hJ hF=>qaO (Q':=λe a w=>e=.normal∧∃ m337 c339 c342 M343,m61.le m337∧Ok u m337 ([(pb0,oc 101 [vs o336.s,c339,vi o336.next,c342,vi o336.at_,vi o336.e])]::M343::M63::M75::[(b19,oc 3 [vi kind_1])]::S) w∧Env 93 a [(0,vp pb0),(2,vi depth_2),(3,vb counting_3),(5,vp b19),(9,c62),(10,c74)]∧o336.s.length≤LIMS∧(pL 4 qa4) m337 [c339] o336.l∧InR .i64 o336.next∧OMap kS (oneV pB) m337 c342 o336.names M343∧InR .i64 o336.at_∧InR .i64 o336.e) ?_ ?_
 ·as_aux_lemma=>
   have hF:=hJ
   have le_m61:=Mem.le.refl m61
   refine cg E rfl hF (λc347 hF=>?_) λc347 hF=>?_
   ·refine wp_skip ?_
    cases hF
    exact⟨rfl,⟨m61,c66,c69,M70,le_m61,ok,E.keep [0,2,3,5,9,10],l65,h67,r68,h71,r72,r73⟩⟩
   refine wp_seq<|sg<|mv E rfl λa E=>lv E ok (qeB qch h64 rfl) λa E=>lw E (qbL rfl rfl) λa E=>wn<|bd hF λo348 hJ hF=>qaO (Q':=λe a w=>e=.normal∧∃ m349 c351 c354 M355,m61.le m349∧Ok u m349 ([(pb0,oc 101 [vs o348.s,c351,vi o348.next,c354,vi o348.at_,vi o348.e])]::M355::M63::M75::[(b19,oc 3 [vi kind_1])]::S) w∧Env 93 a [(0,vp pb0),(2,vi depth_2),(3,vb counting_3),(5,vp b19),(9,c62),(10,c74)]∧o348.s.length≤LIMS∧(pL 4 qa4) m349 [c351] o348.l∧InR .i64 o348.next∧OMap kS (oneV pB) m349 c354 o348.names M355∧InR .i64 o348.at_∧InR .i64 o348.e) ?_ ?_
   ·have hF:=hJ
    refine cg E rfl hF (λc359 hF=>?_) λc359 hF=>?_
    ·refine wp_skip ?_
     cases hF
     exact⟨rfl,⟨m61,c66,c69,M70,le_m61,ok,E.keep [0,2,3,5,9,10],l65,h67,r68,h71,r72,r73⟩⟩
    refine qab<|mv E rfl λa E=>bd hF λr360 e361 hF=>qae E qfN rfl (qbn N 6 (ir 6) v59 l65 h67 r68 h71 r72 r73 e361 hG ok) rfl rfl ?_
    rintro _ w ⟨m362,c364,c367,M368,rfl,hle,ok,l363,h365,r366,h369,r370,r371⟩
    have le_m0:=le_m0.trans hle
    have le_m61:=le_m61.trans hle
    have h3:=(mL qac).up hle h3
    have h64:=ORow.up qaE hle h64
    have h67:=(mL qac).up hle h67
    have h76:=OMap.up (qbc mB) hle h76
    refine⟨_,rfl,λa E=>?_⟩
    refine wpList_nil ?_
    cases hF
    exact⟨rfl,⟨m362,c364,c367,M368,le_m61,ok,E.keep [0,2,3,5,9,10],l363,h365,r366,h369,r370,r371⟩⟩
   intro e a w hO
   obtain⟨rfl,m372,c374,c377,M378,hle,ok,E,l373,h375,r376,h379,r380,r381⟩:=hO
   have le_m0:=le_m0.trans hle
   have le_m61:=le_m61.trans hle
   have h3:=(mL qac).up hle h3
   have h64:=ORow.up qaE hle h64
   have h67:=(mL qac).up hle h67
   have h76:=OMap.up (qbc mB) hle h76
   refine qaa<|wp_seq<|qdO (by kernel_rfl) (by kernel_rfl) ok<|qv E (qad rfl) λa E=>qv E (qad rfl) λa E=>qv E (qan rfl) λa E=>qv E (qaj qcM rfl) λa E=>qv E (qaw qdX rfl (Holds.own 0 rfl rfl)) λa E=>qv E (qad rfl) λa E=>qv E (qan rfl) λa E=>qv E (qaj qcl rfl) λa E=>qv E (qaw qaN rfl (Holds.own 0 rfl rfl)) λa E=>?_
   obtain⟨x382,e383,hF⟩:=bnd hF
   obtain⟨b384,o385,es386,hl387,rr388,at389,yy390⟩:=ia E 47 51 qdJ h375 e383
   obtain⟨rfl,r391,l392,r393,r394⟩:=rr388
   refine qv E (yy390 _ _) λa E=>qv E (qaj qdA rfl) λa E=>qv E (qaw qax rfl (Holds.ro (At.sub 1 1 at389))) λa E=>?_
   obtain⟨xv395,h396,yy397,yy398⟩:=qfC (P:=Tryz.prog) (mo:=.tmp 43) (ko:=.tmp 54) (zx:=(false:Bool)) ok 3 (qbe Tryz.underlying9) Tryz.underlying99 h76 rfl (qaD E rfl) (qaD E rfl) ⟨rfl,l392⟩ qhH qfD
   obtain rfl:=qiZ h396
   refine qv E (yy397 _) λa E=>wpQuiet_nil ?_
   intro w ok
   refine qaa<|cg E rfl hF (λc399 hF=>?_) λc399 hF=>?_
   ·refine wp_skip ?_
    cases hF
    exact⟨rfl,⟨m372,c374,c377,M378,le_m61,ok,E.keep [0,2,3,5,9,10],l373,h375,r376,h379,r380,r381⟩⟩
   refine qab<|mv E rfl λa E=>bd hF λr400 e401 hF=>qae E qfN rfl (qbn N 9 (ir 9) o348 l373 h375 r376 h379 r380 r381 e401 hG ok) rfl rfl ?_
   rintro _ w ⟨m402,c404,c407,M408,rfl,hle,ok,l403,h405,r406,h409,r410,r411⟩
   have le_m0:=le_m0.trans hle
   have le_m61:=le_m61.trans hle
   have h3:=(mL qac).up hle h3
   have h64:=ORow.up qaE hle h64
   have h67:=(mL qac).up hle h67
   have h76:=OMap.up (qbc mB) hle h76
   have h375:=(mL qac).up hle h375
   have at389:=At.up hle at389
   refine⟨_,rfl,λa E=>?_⟩
   refine wpList_nil ?_
   cases hF
   exact⟨rfl,⟨m402,c404,c407,M408,le_m61,ok,E.keep [0,2,3,5,9,10],l403,h405,r406,h409,r410,r411⟩⟩
 intro e a w hO
 obtain⟨rfl,m412,c414,c417,M418,hle,ok,E,l413,h415,r416,h419,r420,r421⟩:=hO
 have le_m0:=le_m0.trans hle
 have h3:=(mL qac).up hle h3
 have h64:=ORow.up qaE hle h64
 have h67:=(mL qac).up hle h67
 have h76:=OMap.up (qbc mB) hle h76
 refine qaa<|sg<|mv E rfl λa E=>lv E ok (qiu (caps:=[.tmp 5]) rfl) λa E=>?_
 obtain⟨r422,e423,hF⟩:=bnd hF
 replace ok:Ok u m412 ([(pb0,oc 101 [vs o336.s,c414,vi o336.next,c417,vi o336.at_,vi o336.e])]::M418::[(b19,oc 3 [vi kind_1])]::M63::M75::S) w:=(ok.pk 5 [0,1,4,2,3] rfl (by decide))
 refine qae E qkC rfl (qgk N o336 l413 h415 r416 h419 r420 r421 kind_1 rkind_1 e423 hG ok) rfl rfl ?_
 rintro _ w ⟨m424,c427,c430,M431,rfl,hle,ok,l425,l426,h428,r429,h432,r433,r434⟩
 have le_m0:=le_m0.trans hle
 have h3:=(mL qac).up hle h3
 have h64:=ORow.up qaE hle h64
 have h67:=(mL qac).up hle h67
 have h76:=OMap.up (qbc mB) hle h76
 have h415:=(mL qac).up hle h415
 refine⟨_,rfl,λa E=>?_⟩
 refine lw E (qbY (ps:=[(0,.tmp 60)]) (qs:=[(0,[vs r422.1])]) (cs:=[vs r422.1,(Value.slice none 0 0)]) qb0 qhU rfl ⟨rfl,rfl,rfl,trivial⟩ rfl) λa E=>qaL E ok qb0 rfl rfl λb435 a w E ok=>qai E ok 0 rfl rfl rfl qgc rfl rfl ⟨rfl,rfl,trivial⟩ rfl rfl λw ok=>wn<|sg<|mv E rfl λa E=>fk E ok qgi qax rfl 0 rfl rfl λa E=>bd hF λl436 e437 hF=>qd8 (.inl rfl) E ok 5 (qbe Tryz.underlying9) Tryz.underlying99 h76 rfl rfl rfl rfl ⟨rfl,l425⟩ qfD e437 rfl λM438 w ok h439=>wn<|sg<|mv E rfl λa E=>?_
 obtain⟨r440,e441,hF⟩:=bnd hF
 replace ok:Ok u m424 ([(pb0,oc 101 [vs r422.2.s,c427,vi r422.2.next,c430,vi r422.2.at_,vi r422.2.e])]::M431::[(b435,oc 93 [vs r422.1,(Value.slice none 0 0)])]::[(b19,oc 3 [vi kind_1])]::M63::M438::S) w:=(ok.pk 6 [1,2,0,3,4,5] rfl (by decide))
 refine qae E qdq rfl (qaB N 2 (ir 2) r422.2 l426 h428 r429 h432 r433 r434 e441 hG ok) rfl rfl ?_
 rintro _ w ⟨m442,c445,c448,M449,rfl,hle,ok,l443,l444,h446,r447,h450,r451,r452⟩
 have le_m0:=le_m0.trans hle
 have h3:=(mL qac).up hle h3
 have h64:=ORow.up qaE hle h64
 have h67:=(mL qac).up hle h67
 have h415:=(mL qac).up hle h415
 have h428:=(mL qac).up hle h428
 have h439:=OMap.up (qbc mB) hle h439
 refine⟨_,rfl,λa E=>?_⟩
 refine wn<|sg<|mz E rfl rfl λa E=>mz E rfl rfl λa E=>qbx counting_3 (λc453=>?_) (λc453=>?_)
 ·have hF:=qbz c453 hF
  have E:=E.upd 70 c453 rfl
  refine lsq E λa E=>pt E rfl rfl λa E=>bd hF λr454 e455 hF=>qae E qma rfl (ih_syntax_parser_message depth_2 rdepth_2 true r440.2 l444 h446 r447 h450 r451 r452 e455 hG ok) rfl rfl ?_
  rintro _ w ⟨m456,c457,c460,c463,M464,rfl,hle,ok,h458,l459,h461,r462,h465,r466,r467⟩
  have le_m0:=le_m0.trans hle
  have h3:=(mL qac).up hle h3
  have h64:=ORow.up qaE hle h64
  have h67:=(mL qac).up hle h67
  have h415:=(mL qac).up hle h415
  have h428:=(mL qac).up hle h428
  have h439:=OMap.up (qbc mB) hle h439
  have h446:=(mL qac).up hle h446
  refine⟨_,rfl,λa E=>?_⟩
  refine fv E qeL rfl λa E=>qai E ok 2 rfl rfl rfl qgz (qdy h458) rfl ⟨(qbT h458),trivial⟩ rfl rfl λw ok=>wn<|sg<|mv E rfl λa E=>bd hF λr468 e469 hF=>qae E qdq rfl (qaB N 3 (ir 3) r454.2 l459 h461 r462 h465 r466 r467 e469 hG ok) rfl rfl ?_
  rintro _ w ⟨m470,c473,c476,M477,rfl,hle,ok,l471,l472,h474,r475,h478,r479,r480⟩
  have le_m0:=le_m0.trans hle
  have h3:=(mL qac).up hle h3
  have h64:=ORow.up qaE hle h64
  have h67:=(mL qac).up hle h67
  have h415:=(mL qac).up hle h415
  have h428:=(mL qac).up hle h428
  have h439:=OMap.up (qbc mB) hle h439
  have h446:=(mL qac).up hle h446
  have h458:=(mL qah).up hle h458
  have h461:=(mL qac).up hle h461
  refine⟨_,rfl,λa E=>?_⟩
  refine wn<|qab<|mv E rfl λa E=>lv E ok (qao (cs:=[vs r422.1,c457]) qfE rfl rfl (Holds.own 2 rfl rfl)) λa E=>qbF (R:=qcY) (xo:=[.tmp 79]) (xs:=([(Case.mk r422.1 r454.1)]:List (Case))) E ok qch qb0 rfl ⟨⟨_,rfl,rfl,⟨_,rfl,l425,h458⟩⟩,trivial⟩ rfl rfl rfl rfl λc481 M482 a w E ok h483=>bd hF λl484 e485 hF=>qcf (R:=qcY) E ok 5 qaE qch Tryz.underlying88 rfl h64 (qbD.ofRow h483 0 rfl ok) e485 ⟨_,qb0,rfl⟩ rfl rfl rfl rfl λc486 M487 a w E ok h488=>av E rfl λa E=>wpList_nil<|qal<|qaa<|qab<|av E rfl λa E=>wpList_nil ?_
  cases hF
  exact qau ⟨m470,c486,M487,c473,c476,M477,c74,M438,le_m0,(ok.pk 7 [5,6,4,1,2] rfl (by decide)),E.keep [0,2,3,5,9,10,11],h488,l472,h474,r475,h478,r479,r480,h439⟩
 have hF:=qby c453 hF
 have E:=E.upd 70 c453 rfl
 refine ld E ok qaN 3 rfl rfl rfl λa E=>lw E (qbg rfl rfl) λa E=>pf E rfl rfl λa E=>bd hF λr489 e490 hF=>qae E qma rfl (ih_syntax_parser_message depth_2 rdepth_2 (kind_1 != 9) r440.2 l444 h446 r447 h450 r451 r452 e490 hG ok) rfl rfl ?_
 rintro _ w ⟨m491,c492,c495,c498,M499,rfl,hle,ok,h493,l494,h496,r497,h500,r501,r502⟩
 have le_m0:=le_m0.trans hle
 have h3:=(mL qac).up hle h3
 have h64:=ORow.up qaE hle h64
 have h67:=(mL qac).up hle h67
 have h415:=(mL qac).up hle h415
 have h428:=(mL qac).up hle h428
 have h439:=OMap.up (qbc mB) hle h439
 have h446:=(mL qac).up hle h446
 refine⟨_,rfl,λa E=>?_⟩
 refine fv E qeL rfl λa E=>qai E ok 2 rfl rfl rfl qgz (qdy h493) rfl ⟨(qbT h493),trivial⟩ rfl rfl λw ok=>wn<|sg<|mv E rfl λa E=>bd hF λr503 e504 hF=>qae E qdq rfl (qaB N 3 (ir 3) r489.2 l494 h496 r497 h500 r501 r502 e504 hG ok) rfl rfl ?_
 rintro _ w ⟨m505,c508,c511,M512,rfl,hle,ok,l506,l507,h509,r510,h513,r514,r515⟩
 have le_m0:=le_m0.trans hle
 have h3:=(mL qac).up hle h3
 have h64:=ORow.up qaE hle h64
 have h67:=(mL qac).up hle h67
 have h415:=(mL qac).up hle h415
 have h428:=(mL qac).up hle h428
 have h439:=OMap.up (qbc mB) hle h439
 have h446:=(mL qac).up hle h446
 have h493:=(mL qah).up hle h493
 have h496:=(mL qac).up hle h496
 refine⟨_,rfl,λa E=>?_⟩
 refine wn<|qab<|mv E rfl λa E=>lv E ok (qao (cs:=[vs r422.1,c492]) qfE rfl rfl (Holds.own 2 rfl rfl)) λa E=>qbF (R:=qcY) (xo:=[.tmp 79]) (xs:=([(Case.mk r422.1 r489.1)]:List (Case))) E ok qch qb0 rfl ⟨⟨_,rfl,rfl,⟨_,rfl,l425,h493⟩⟩,trivial⟩ rfl rfl rfl rfl λc516 M517 a w E ok h518=>bd hF λl519 e520 hF=>qcf (R:=qcY) E ok 5 qaE qch Tryz.underlying88 rfl h64 (qbD.ofRow h518 0 rfl ok) e520 ⟨_,qb0,rfl⟩ rfl rfl rfl rfl λc521 M522 a w E ok h523=>av E rfl λa E=>wpList_nil<|qal<|qaa<|qab<|av E rfl λa E=>wpList_nil ?_
 cases hF
 exact qau ⟨m505,c521,M522,c508,c511,M512,c74,M438,le_m0,(ok.pk 7 [5,6,4,1,2] rfl (by decide)),E.keep [0,2,3,5,9,10,11],h523,l507,h509,r510,h513,r514,r515,h439⟩
theorem qh8:qcB 0:=by
 intro u m0 S w depth_1 rdepth_1 counting_2 pb0 c2 c5 M6 x0 l1 h3 r4 h7 r8 r9 r hF hG ok
 replace hF:none=some r:=hF
 cases hF
theorem qii:qcE 0:=by
 intro u m0 S w depth_1 rdepth_1 counting_2 pb0 c2 c5 M6 x0 l1 h3 r4 h7 r8 r9 r hF hG ok
 replace hF:none=some r:=hF
 cases hF
theorem qhY:qcq 0:=by
 intro u m0 S w depth_1 rdepth_1 counting_2 pb0 c2 c5 M6 x0 l1 h3 r4 h7 r8 r9 r hF hG ok
 replace hF:none=some r:=hF
 cases hF
theorem qiM:qcV 0:=by
 intro u m0 S w kind_1 rkind_1 depth_2 rdepth_2 counting_3 pb0 c2 c5 M6 x0 l1 h3 r4 h7 r8 r9 r hF hG ok
 replace hF:none=some r:=hF
 cases hF
theorem qhu(N:Nat):qcB N∧qcE N∧qcq N∧qcV N:=by
 induction N with
 | zero=>exact⟨qh8,qii,qhY,qiM⟩
 | succ N h=>exact⟨qia N h.1 h.2.1 h.2.2.1 h.2.2.2,qh9 N h.1 h.2.1 h.2.2.1 h.2.2.2,qhS N h.1 h.2.1 h.2.2.1 h.2.2.2,qi7 N h.1 h.2.1 h.2.2.1 h.2.2.2⟩
theorem qjn{u:World}{m0:Mem}{S:Segs}{w:World}(N:Nat)(depth_1:Int)(rdepth_1:InR .i64 depth_1)(counting_2:Bool){pb0:Nat}{c2:Value}{c5:Value}{M6:List (Nat×Obj)}(x0:Parser)(l1:x0.s.length≤LIMS)(h3:(pL 4 qa4) m0 [c2] x0.l)(r4:InR .i64 x0.next)(h7:OMap kS (oneV pB) m0 c5 x0.names M6)(r8:InR .i64 x0.at_)(r9:InR .i64 x0.e){r:(List (Part))×Parser}(hF:qam N depth_1 counting_2 x0=some r)(hG:Glob u)(ok:Ok u m0 ([(pb0,oc 101 [vs x0.s,c2,vi x0.next,c5,vi x0.at_,vi x0.e])]::M6::S) w) :
 Calls Tryz.prog 36 [vp pb0,vi depth_1,vb counting_2].toArray w λe w'=>∃ m1 v0 c11 c14 M15,e=.returned v0∧m0.le m1∧Ok u m1 ([(pb0,oc 101 [vs r.2.s,c11,vi r.2.next,c14,vi r.2.at_,vi r.2.e])]::M15::S) w'∧(pL 6 qaS) m1 [v0] r.1∧r.2.s.length≤LIMS∧(pL 4 qa4) m1 [c11] r.2.l∧InR .i64 r.2.next∧OMap kS (oneV pB) m1 c14 r.2.names M15∧InR .i64 r.2.at_∧InR .i64 r.2.e:=(qhu N).1 depth_1 rdepth_1 counting_2 x0 l1 h3 r4 h7 r8 r9 hF hG ok
end Go.Proofs.YtkhjeeakflefjaaGreatDoor
namespace Go.Proofs.YtkhjeeakflefjaaGreatDoor
open Go.X
def posG(s:List UInt8):Nat→Nat→Int→Int→List Position
 | 0,_,line,col=>[Position.mk (s.length:Int) line col]
 | f+1,i,line,col=>if i<s.length then
   Position.mk (i:Int) line col::(if qlt s i==10 then posG s f (i+qe9 s i) (IntKind.wrap .i64 (line+1)) 1 else posG s f (i+qe9 s i) line (IntKind.wrap .i64 (col+1)))
  else [Position.mk (s.length:Int) line col]
def posL(s:List UInt8):List Position:=posG s s.length 0 1 1
def qmc(_N:Nat)(s:List UInt8)(offset:Int):Option (Position×Int):=
 some (match (posL s).find? (λp=>p.Offset==offset) with | some p=>(p,0) | none=>(Position.mk 0 0 0,2))
def qgt(N:Nat)(s_0:List UInt8)(counting_1:Bool):Option ((List (Part))×Position×Int):=
 (qe3 N s_0).bind λr2=>
 bif (r2.2.2==6) then
  some ([],(Position.mk 4000 0 0),r2.2.2)
 else
  (show Option (Int×Int×(List (Part))) from
   bif (r2.2.2==0) then
    (qam N 0 counting_1 (Parser.mk s_0 r2.1 0 ([]:List (List UInt8×Bool)) 0 0)).bind λr21=>
    (show Option Parser from
     bif (decide (r21.2.next<(r2.1.length:Int))) then
      (qaI N 3 r21.2).bind λr47=>
      some r47
     else
      some r21.2).bind λo35=>
    some (o35.at_,o35.e,r21.1)
   else
    some (r2.2.1,r2.2.2,([]:List (Part)))).bind λo10=>
  bif (o10.2.1 != 0) then
   (qmc N s_0 o10.1).bind λr75=>
   (show Option (Int×Position) from
    some (o10.2.1,r75.1)).bind λo85=>
   some ([],o85.2,o85.1)
  else
   (qde N o10.2.2).bind λr94=>
   bif (decide (r94>4000)) then
    some ([],(Position.mk 0 0 0),6)
   else
    some (o10.2.2,(Position.mk 0 0 0),0)
def qbN(N:Nat)(s_0:List UInt8):Option ((List (Part))×Position×Int):=
 (qgt N s_0 false).bind λr2=>
 some (r2.1,r2.2.1,r2.2.2)
end Go.Proofs.YtkhjeeakflefjaaGreatDoor
namespace Go.Proofs.YtkhjeeakflefjaaGreatDoor
open Go.X
variable {u:World} {m0:Mem} {S:Segs} {w:World}
set_option maxHeartbeats 4000000
set_option maxRecDepth 100000
abbrev PX:={ p:Position // InR .i64 p.Offset∧InR .i64 p.Line∧InR .i64 p.Column }
def pcs(p:Position):List Value:=[.int .i64 p.Offset,.int .i64 p.Line,.int .i64 p.Column]
def KpF(B:Nat)(X Y:World):Prop:=Y.os=X.os∧Y.output=X.output∧Y.tape=X.tape∧X.heap.size≤Y.heap.size∧∀ k,B≤k→k<X.heap.size→Y.heap[k]? = X.heap[k]?
theorem qsV{s:List UInt8}{i:Nat}(h:i<s.length):1≤qe9 s i:=by
 unfold qe9
 have hl:i<(bs s).size:=by rw[qhc];exact h
 by_cases ha:((bs s)[i]'hl).toNat<128
 ·rw[decode_ascii (bs s) i hl ha];exact Nat.le_refl _
 ·exact(decode_high (bs s) i hl (by omega)).2
theorem qt2(s:List UInt8):∀ f i line col,posG s f i line col≠[]
 | 0,_,_,_=>by simp[posG]
 | f+1,i,line,col=>by rw[posG];split <;> simp
theorem qrk{s:List UInt8}{f i:Nat}{line col:Int}(hf:s.length≤f+i)(hi:i<s.length) :
  posG s f i line col=Position.mk (i:Int) line col::(if qlt s i==10 then posG s (f-1) (i+qe9 s i) (IntKind.wrap .i64 (line+1)) 1 else posG s (f-1) (i+qe9 s i) line (IntKind.wrap .i64 (col+1))):=by
 cases f with
 | zero=>omega
 | succ f=>rw[posG,if_pos hi];rfl
theorem qs7{s:List UInt8}{f i:Nat}{line col:Int}(hi:¬ i<s.length):posG s f i line col=[Position.mk (s.length:Int) line col]:=by
 cases f with
 | zero=>rfl
 | succ f=>rw[posG,if_neg hi]
theorem qpW{s:List UInt8}(ls:s.length≤LIMS){ln B:Nat}{J Jx:List PX→World→Prop}{W:World}(hB:B≤W.heap.size)(hJ:Firm W.heap.size J)(h0:J [] W)
  (hY:∀ pre x W1,J pre W1→pre.length<(posL s).length→YieldAt Fence.wide 1 Tryz.prog ln #[Value.agg (pcs x.1).toArray] W1 λe W'=>(e=.returned (.bool true)∧J (pre++[x]) W'∧KpF B W1 W')∨(e=.returned (.bool false)∧Jx (pre++[x]) W')) :
  Calls Tryz.prog 62 [vs s,Value.func (.yield ln) #[] #[]].toArray W λe W'=>e=.returned (.tuple [].toArray) ∧
   ((∃ xs:List PX,xs.map (·.1)=posL s∧J xs W')∨(∃ pre:List PX,(∃ zs,pre.map (·.1)++zs=posL s)∧Jx pre W')):=by
 obtain⟨R,hR⟩:∃ R:World→Prop,R=λW'=>(∃ xs:List PX,xs.map (·.1)=posL s∧J xs W')∨(∃ pre:List PX,(∃ zs,pre.map (·.1)++zs=posL s)∧Jx pre W'):=⟨_,rfl⟩
 have fin:∀ a w,a.defers=[]→R w→bodyPost Tryz.prog Tryz.f62 (λe W'=>e=.returned (.tuple [].toArray)∧((∃ xs:List PX,xs.map (·.1)=posL s∧J xs W')∨(∃ pre:List PX,(∃ zs,pre.map (·.1)++zs=posL s)∧Jx pre W'))) .ret a w:=by
  intro a w hd hr
  rw[hR] at hr
  exact qbf [] hd rfl trivial ⟨rfl,hr⟩
 have ok:Ok { W with heap:=#[] } (qdD [] W) [] W:=ql8 (by simp) (by simp)
 have hnone:∀ k,qdD [] W k=none→W.heap.size≤k:=by
  intro k hk
  have:W.heap[k]? = none:=by simpa [qdD] using hk
  exact Array.getElem?_eq_none_iff.1 this
 refine enter Tryz.func62 rfl rfl rfl λa E=>sg<|lw E (qbY (ps:=[(1,.const (vi 1)),(2,.const (vi 1))]) (qs:=[(1,[vi 1]),(2,[vi 1])]) (cs:=[vi 0,vi 1,vi 1]) qc2 qhQ rfl ⟨rfl,rfl,rfl,⟨rfl,rfl,rfl,trivial⟩⟩ rfl) λa E=>qaL E ok qc2 rfl rfl λb1 a w E ok=>qai E ok 0 rfl rfl rfl qdQ rfl rfl ⟨rfl,rfl,rfl,trivial⟩ rfl rfl λw ok=>wn<|wp_seq<|sg<|mv E rfl λa E=>qtN E ok Tryz.underlying9 rfl rfl rfl λb2 a w E ok=>wn ?_
 replace ok:Ok { W with heap:=#[] } (qdD [] W) ([(b2,Obj.stringIter (bs s) 0)]::[(b1,Obj.cells (pcs ⟨0,1,1⟩).toArray 40 (0,0))]::[]) w:=ok
 have hb2:W.heap.size≤b2:=hnone _ ok.own0.2
 have hb1:W.heap.size≤b1:=hnone _ ok.own1.2
 have hb12:b2≠b1:=ok.ne01
 have bel0:Go.RowKit.Below W.heap.size W w:=(qlS (X:=[]) ok (by simp)).below (by simp) (Nat.le_refl _)
 have h1:w.heap[b1]? = some (Obj.cells (pcs ⟨0,1,1⟩).toArray 40 (0,0)):=ok.own1.1
 have h2:w.heap[b2]? = some (Obj.stringIter (bs s) 0):=ok.own0.1
 clear hnone ok
 replace h0:=hJ _ _ _ h0 bel0
 have hsz:W.heap.size≤w.heap.size:=bel0.size
 clear bel0
 have E:=E.keep [0,1,4,9]
 refine wp_block<|qqw (λn a w=>∃ (i:Nat) (p:Position) (acc:List PX),n=s.length-i∧Env 37 a [(0,vs s),(1,Value.func (.yield ln) #[] #[]),(4,vp b1),(9,vp b2)]∧W.heap.size≤w.heap.size∧w.heap[b1]? = some (Obj.cells (pcs p).toArray 40 (0,0))∧w.heap[b2]? = some (Obj.stringIter (bs s) i)∧J acc w ∧
  InR .i64 p.Line∧InR .i64 p.Column∧∃ f,s.length≤f+i∧acc.map (·.1)++posG s f i p.Line p.Column=posL s) ?_ s.length _ _ ⟨0,⟨0,1,1⟩,[],rfl,E,hsz,h1,h2,h0,by decide,by decide,s.length,by omega,rfl⟩
 clear E h0 h1 h2 hsz
 rintro n a w ⟨i,p,acc,rfl,E,hsz,h1,h2,hJw,rl,rc,f,hf,hpos⟩
 -- from one world of the way to the next yield
 have step:∀ {w2:World} {o1 o2:Obj},Ok { w with heap:=#[] } (qdD [b2,b1] w) ([(b2,o2)]::[(b1,o1)]::[]) w2→Go.RowKit.Below W.heap.size w w2:=λok=>(qiH ok (by simp)).below (by simp;exact⟨hb2,hb1⟩) hsz
 have ok:Ok { w with heap:=#[] } (qdD [b2,b1] w) ([(b2,Obj.stringIter (bs s) i)]::[(b1,oc 40 [vi p.Offset,vi p.Line,vi p.Column])]::[]) w:=qk0 h2 h1 hb12 (by simp) (by simp)
 have hlen:acc.length<(posL s).length:=by
  have h:=congrArg List.length hpos
  rw[List.length_append,List.length_map] at h
  have:=List.length_pos_iff.2 (qt2 s f i p.Line p.Column)
  omega
 refine sg<|qbx (decide (i<s.length)) (λc15=>?_) (λc15=>?_)
 rotate_left
 ·-- the end
  refine qt3 E ok 0 rfl rfl c15 rfl rfl λa E=>lw E (qag rfl rfl) λa E=>wn<|wp_seq<|c_if E rfl (λh=>by cases h) (λ_=>?_)
  refine wp_exit<|qaM<|.inr ⟨by nofun,?_⟩
  refine qbh<|qaa ?_
  rw[qs7 (of_decide_eq_false c15)] at hpos
  refine sg<|mv E rfl λa E=>lw E (qbp Tryz.underlying9 rfl) λa E=>fv E qob rfl λa E=>qai E ok 1 rfl rfl rfl qhg rfl rfl ⟨rfl,trivial⟩ rfl rfl λw2 ok=>wn ?_
  have hx:InR .i64 (s.length:Int):=InR.len ls
  have hy:=hY acc ⟨⟨s.length,p.Line,p.Column⟩,hx,rl,rc⟩ w2 (hJ _ _ _ hJw (step ok)) hlen
  refine(wpIn_wide (n:=2)).1 (wpIn_region_lit ?_)
  refine qkq (by intro c h;cases h) λK hK=>mv E rfl λa E=>wn_ hK<|qkq (by intro c h;cases h) λK hK=>lv E ok (qao (cs:=pcs ⟨s.length,p.Line,p.Column⟩) qgB rfl rfl (Holds.own 1 rfl rfl)) λa E=>wn_ hK<|qqs E rfl rfl hy rfl rfl ?_
  rintro e w3 (⟨rfl,hJ3,hK3⟩ | ⟨rfl,hJ3⟩)
  ·refine⟨_,rfl,λa E=>?_⟩
   refine wpListIn_nil ?_
   exact fin _ _ E.d (by rw[hR];exact .inl ⟨acc++[⟨⟨s.length,p.Line,p.Column⟩,hx,rl,rc⟩],by simpa using hpos,hJ3⟩)
  ·refine⟨_,rfl,λa E=>?_⟩
   refine wpListIn_nil ?_
   exact fin _ _ E.d (by rw[hR];exact .inr ⟨acc++[⟨⟨s.length,p.Line,p.Column⟩,hx,rl,rc⟩],⟨[],by simpa using hpos⟩,hJ3⟩)
 have hi:i<s.length:=of_decide_eq_true c15
 rw[qrk hf hi] at hpos
 refine qum E ok 0 rfl rfl c15 rfl rfl λa w E ok=>lw E (qag rfl rfl) λa E=>wn<|wp_seq<|c_if E rfl (λ_=>?_) (λh=>by cases h)
 refine wp_skip<|qaa<|wp_block<|sg<|lw E (qag rfl rfl) λa E=>lw E (qag rfl rfl) λa E=>av E rfl λa E=>aw E rfl λa E=>sg<|mv E rfl λa E=>fv E qob rfl λa E=>qai E ok 1 rfl rfl rfl qhg rfl rfl ⟨rfl,trivial⟩ rfl rfl λw2 ok=>wn ?_
 have hx:InR .i64 (i:Int):=InR.len (Nat.le_trans (Nat.le_of_lt hi) ls)
 obtain⟨x,hxe⟩:∃ x:PX,x.1=⟨i,p.Line,p.Column⟩:=⟨⟨⟨i,p.Line,p.Column⟩,hx,rl,rc⟩,rfl⟩
 have hy:=hY acc x w2 (hJ _ _ _ hJw (step ok)) hlen
 rw[hxe] at hy
 refine wp_seq<|wp_seq<|(wpIn_wide (n:=2)).1 (wpIn_region_lit ?_)
 refine qkq (by intro c h;cases h) λK hK=>mv E rfl λa E=>wn_ hK<|qkq (by intro c h;cases h) λK hK=>lv E ok (qao (cs:=pcs ⟨i,p.Line,p.Column⟩) qgB rfl rfl (Holds.own 1 rfl rfl)) λa E=>wn_ hK<|qqs E rfl rfl hy rfl rfl ?_
 rintro e w3 (⟨rfl,hJ3,hK3⟩ | ⟨rfl,hJ3⟩)
 rotate_left
 ·-- no more
  refine⟨_,rfl,λa E=>?_⟩
  refine qkq (by intro c h;cases h) λK hK=>lw E (qa9 rfl) λa E=>wn_ hK<|wpListIn_nil (qaa ?_)
  refine c_if E rfl (λ_=>?_) (λh=>by cases h)
  refine wp_ret<|qak<|qaA<|.inr ⟨by nofun,?_⟩
  refine qaA<|qak ?_
  exact fin _ _ E.d (by rw[hR];exact .inr ⟨acc++[x],⟨_,by rw[List.map_append,List.map_singleton,hxe,List.append_assoc];exact hpos⟩,hJ3⟩)
 refine⟨_,rfl,λa E=>?_⟩
 have g1:w2.heap[b1]? = some (Obj.cells (pcs ⟨i,p.Line,p.Column⟩).toArray 40 (0,0)):=ok.own1.1
 have g2:w2.heap[b2]? = some (Obj.stringIter (bs s) (i+qe9 s i)):=ok.own0.1
 have hsz2:=(step ok).size
 clear ok
 obtain⟨k1,k2,k3,k4,k5⟩:=hK3
 have g1':=(k5 b1 (by omega) (Array.getElem?_eq_some_iff.1 g1).1).trans g1
 have g2':=(k5 b2 (by omega) (Array.getElem?_eq_some_iff.1 g2).1).trans g2
 clear g1 g2 k1 k2 k3 k5 hY hy
 have hsz3:W.heap.size≤w3.heap.size:=by omega
 clear step
 have step:∀ {w2:World} {o1 o2:Obj},Ok { w3 with heap:=#[] } (qdD [b2,b1] w3) ([(b2,o2)]::[(b1,o1)]::[]) w2→Go.RowKit.Below W.heap.size w3 w2:=λok=>(qiH ok (by simp)).below (by simp;exact⟨hb2,hb1⟩) hsz3
 have ok:Ok { w3 with heap:=#[] } (qdD [b2,b1] w3) ([(b2,Obj.stringIter (bs s) (i+qe9 s i))]::[(b1,oc 40 [(vi (i:Int)),vi p.Line,vi p.Column])]::[]) w3:=qk0 g2' g1' hb12 (by simp) (by simp)
 refine qkq (by intro c h;cases h) λK hK=>lw E (qa9 rfl) λa E=>wn_ hK<|wpListIn_nil (qaa ?_)
 refine c_if E rfl (λh=>by cases h) (λ_=>?_)
 refine wp_skip<|qaa<|sg<|fk E ok qnM qaN rfl 1 rfl rfl λa E=>lw E (qbk rfl rfl) λa E=>fv E qnM rfl λa E=>qai E ok 1 rfl rfl rfl qhg rfl rfl ⟨rfl,trivial⟩ rfl rfl λw4 ok=>wn<|sg<|mv E rfl λa E=>lw E (qaz rfl rfl) λa E=>wn ?_
 have hw:=qsV hi
 have hsz4:=(step ok).size
 have hacc:∀ zs,Position.mk (i:Int) p.Line p.Column::zs=x.1::zs:=λzs=>by rw[hxe]
 refine c_if E rfl (λc17=>?_) (λc17=>?_)
 rotate_left
 ·rw[if_neg (by rw[c17];exact Bool.false_ne_true)] at hpos
  refine wp_skip<|qal ?_
  exact .inl ⟨rfl,s.length-(i+qe9 s i),by omega,i+qe9 s i,⟨i,p.Line,IntKind.wrap .i64 (p.Column+1)⟩,acc++[x],rfl,E.keep [0,1,4,9],by omega,ok.own1.1,ok.own0.1,hJ _ _ _ hJ3 (step ok),rl,InR.wrap _ _,f-1,by omega,
   by rw[List.map_append,List.map_singleton,List.append_assoc,List.singleton_append,← hacc];exact hpos⟩
 rw[if_pos c17] at hpos
 refine qab<|fk E ok qqe qaN rfl 1 rfl rfl λa E=>lw E (qbk rfl rfl) λa E=>fv E qqe rfl λa E=>qai E ok 1 rfl rfl rfl qhg rfl rfl ⟨rfl,trivial⟩ rfl rfl λw5 ok=>fv E qnM rfl λa E=>qai E ok 1 rfl rfl rfl qhg rfl rfl ⟨rfl,trivial⟩ rfl rfl λw6 ok=>wpList_nil<|qal ?_
 have hsz6:=(step ok).size
 exact .inl ⟨rfl,s.length-(i+qe9 s i),by omega,i+qe9 s i,⟨i,IntKind.wrap .i64 (p.Line+1),1⟩,acc++[x],rfl,E.keep [0,1,4,9],by omega,ok.own1.1,ok.own0.1,hJ _ _ _ hJ3 (step ok),InR.wrap _ _,by show InR .i64 1;decide,f-1,by omega,
  by rw[List.map_append,List.map_singleton,List.append_assoc,List.singleton_append,← hacc];exact hpos⟩
theorem quX{s:List UInt8}(ls:s.length≤LIMS){w:World}{b:Nat}(hb:w.heap[b]? = some (oc 9 [vs s])) :
  qo4 Fence.wide 2 Tryz.prog 61 #[.pointer (some ⟨b,0,none⟩)] (λx:PX=>#[Value.agg (pcs x.1).toArray]) (KpF (w.heap.size+2)) (λxs=>xs.map (·.1)=posL s) (λpre=>∃ zs,pre.map (·.1)++zs=posL s) (posL s).length w:=by
 intro ln J Jx W hW hsz hJ hJx hY h0
 refine callsIn_wide.2 ?_
 rw[show(#[Value.func (.yield ln) #[] #[]]++#[vp b]:Array Value)=[Value.func (.yield ln) #[] #[],vp b].toArray from by simp]
 have ok:Ok { W with heap:=#[] } (qdD [] W) [] W:=ql8 (by simp) (by simp)
 have hlt:b<w.heap.size:=(Array.getElem?_eq_some_iff.1 hb).1
 have hbW:W.heap[b]? = some (oc 9 [vs s]):=(hW.block b hlt).trans hb
 have hat:At (qdD [] W) b 0 [vs s]:=by
  intro j v hj
  match j with
  | 0=>
   simp only[List.getElem?_cons_zero,Option.some.injEq] at hj
   subst hj
   simp[Mem.cell,qdD,hbW]
  | j+1=>simp at hj
 refine enter Tryz.func61 rfl rfl rfl λa E=>qab<|lv E ok (qaw qax rfl (Holds.ro hat)) λa E=>mv E rfl λa E=>qae E qvR rfl (qpW ls hsz hJ h0 hY) rfl rfl ?_
 rintro _ w2 ⟨rfl,hr⟩
 refine⟨_,rfl,λa E=>?_⟩
 refine wpList_nil ?_
 exact qbf (R:=λe W'=>(∃ v,e=Ending.returned v)∧((∃ xs:List PX,xs.map (·.1)=posL s∧J xs W')∨(∃ pre:List PX,(∃ zs,pre.map (·.1)++zs=posL s)∧Jx pre W'))) (fn:=Tryz.f61) (P:=Tryz.prog) [] E.d rfl trivial ⟨⟨_,rfl⟩,hr⟩
theorem qpb{q:Position→Bool}{xs:List PX}{l:List Position}(h:xs.map (·.1)=l)(hn:∀ x∈xs,q x.1=false):l.find? q=none:=by
 subst h
 rw[List.find?_eq_none]
 intro p hp
 obtain⟨x,hx,rfl⟩:=List.mem_map.1 hp
 simp[hn x hx]
theorem qsJ{q:Position→Bool}{xs:List PX}{x:PX}{l zs:List Position}(h:(xs++[x]).map (·.1)++zs=l)(hn:∀ x∈xs,q x.1=false)(hx:q x.1=true):l.find? q=some x.1:=by
 subst h
 rw[List.map_append,List.map_singleton,List.append_assoc,List.find?_append,qpb rfl hn]
 simp[hx]
theorem qr5(N:Nat)(s_0:List UInt8)(ls_0:s_0.length≤LIMS)(offset_1:Int)(roffset_1:InR .i64 offset_1){r:Position×Int}(hF:qmc N s_0 offset_1=some r)(hG:Glob u)(ok:Ok u m0 S w) :
  Calls Tryz.prog 38 [vs s_0,vi offset_1].toArray w λe w'=>∃ m1 v0,e=.returned (.tuple [(.agg v0.toArray),(.int .i64 r.2)].toArray)∧m0.le m1∧Ok u m1 S w'∧qhb m1 v0 r.1∧InR .i64 r.2:=by
 obtain⟨R,hR⟩:∃ R:Ending→World→Prop,R=λe w'=>∃ m1 v0,e=.returned (.tuple [(.agg v0.toArray),(.int .i64 r.2)].toArray)∧m0.le m1∧Ok u m1 S w'∧qhb m1 v0 r.1∧InR .i64 r.2:=⟨_,rfl⟩
 rw[← hR]
 refine qu4 Tryz.func38 rfl rfl rfl λa E=>sg<|qgl E ok rfl rfl rfl λb1 a w E ok=>qgl E ok rfl rfl rfl λb2 a w E ok=>qaL E ok qc2 rfl rfl λb3 a w E ok=>qaL E ok qtR rfl rfl λb4 a w E ok=>wn<|wp_seq<|sg<|lv E ok (qiu (caps:=[.tmp 2]) rfl) λa E=>wn ?_
 have E:=E.keep [2,3,4,5,7]
 obtain⟨T,hT⟩:∃ T:Segs,T=[(b2,oc 3 [vi offset_1])]::[(b1,oc 9 [vs s_0])]::S:=⟨_,rfl⟩
 obtain⟨SS,hSS⟩:∃ SS:Position→Int→Segs,SS=λp e=>[(b4,oc 25 [vi e])]::[(b3,Obj.cells (pcs p).toArray 40 (0,0))]::T:=⟨_,rfl⟩
 have ok0:Ok u m0 (SS ⟨0,0,0⟩ 0) w:=by rw[hSS,hT];exact ok
 clear ok
 have hblt:∀ p∈(SS ⟨0,0,0⟩ 0).flatten,p.1<w.heap.size:=λp hp=>(Array.getElem?_eq_some_iff.1 (ok0.own p hp).1).1
 have hm:∀ b o,m0 b=some o→b<w.heap.size:=λb o h=>ok0.m_lt h
 have hSm:∀ {p e q},q∈(SS p e).flatten→∃ q',q'∈(SS ⟨0,0,0⟩ 0).flatten∧q'.1=q.1:=by
  intro p e q hq
  rw[hSS] at hq ⊢
  simp only[List.flatten_cons,List.cons_append,List.nil_append,List.mem_cons] at hq ⊢
  rcases hq with rfl | rfl | hq
  ·exact⟨_,.inl rfl,rfl⟩
  ·exact⟨_,.inr (.inl rfl),rfl⟩
  ·exact⟨q,.inr (.inr hq),rfl⟩
 have hlt:∀ p e,∀ q∈(SS p e).flatten,q.1<w.heap.size:=λp e q hq=>by
  obtain⟨q',h1,h2⟩:=hSm hq
  rw[← h2];exact hblt q' h1
 have h4:b4<w.heap.size:=hlt ⟨0,0,0⟩ 0 (b4,_) (by rw[hSS];exact List.mem_cons_self ..)
 have h3:b3<w.heap.size:=hlt ⟨0,0,0⟩ 0 (b3,_) (by rw[hSS];exact List.mem_cons_of_mem _ (List.mem_cons_self ..))
 have m1:(b1,oc 9 [vs s_0])∈T.flatten:=by rw[hT];simp
 have m2:(b2,oc 3 [vi offset_1])∈T.flatten:=by rw[hT];simp
 have mT:∀ {p e q},q∈T.flatten→q∈(SS p e).flatten:=λhq=>by rw[hSS];exact List.mem_cons_of_mem _ (List.mem_cons_of_mem _ hq)
 have h2:b2<w.heap.size:=hlt ⟨0,0,0⟩ 0 _ (mT m2)
 have hw1:w.heap[b1]? = some (oc 9 [vs s_0]):=(ok0.own _ (mT m1)).1
 have hne:b4≠b3∧b2≠b4∧b2≠b3:=by
  have h:=ok0.nd
  rw[hSS] at h
  simp only[List.flatten_cons,List.cons_append,List.nil_append,List.pairwise_cons] at h
  exact⟨h.1 _ (List.mem_cons_self ..),(h.1 _ (List.mem_cons_of_mem _ m2)).symm,(h.2.1 _ m2).symm⟩
 obtain⟨hne34,hne24,hne23⟩:=hne
 have firm:∀ p e {X Y:World},Ok u m0 (SS p e) X→Go.RowKit.Below w.heap.size X Y→Ok u m0 (SS p e) Y:=λp e X Y h hb=>h.below2 hb hm (hlt p e)
 have hda:=E.d
 unfold qmc at hF
 cases hF
 refine wp_block<|(wpIn_wide (n:=3)).1 (qpX (n:=3) (α:=PX) (gf:=61) (lb:=#[.pointer (some ⟨b1,0,none⟩)]) (encs:=λx:PX=>#[Value.agg (pcs x.1).toArray]) rfl (by decide) (E.ev rfl) trivial (λargs w=>rfl)
  (quX ls_0 hw1) (λh k=>⟨k.1.trans h.1,k.2.1.trans h.2.1,k.2.2.1.trans h.2.2.1,Nat.le_trans h.2.2.2.1 k.2.2.2.1,λj hj hjx=>(k.2.2.2.2 j hj (Nat.lt_of_lt_of_le hjx h.2.2.2.1)).trans (h.2.2.2.2 j hj hjx)⟩)
  (λW o l hl hl2=>⟨rfl,rfl,rfl,by rw[World.putObj_size];exact Nat.le_refl _,λk hk _=>World.putObj_heap_other (by omega)⟩) (λ_=>rfl)
  (λpre W=>Ok u m0 (SS ⟨0,0,0⟩ 0) W∧∀ x∈pre,(x.1.Offset==offset_1)=false)
  (λpre W=>∃ pre0 x,pre=pre0++[x]∧(x.1.Offset==offset_1)=true∧(∀ x∈pre0,(x.1.Offset==offset_1)=false)∧Ok u m0 (SS x.1 0) W)
  (λs X Y h hb=>⟨firm _ _ h.1 hb,h.2⟩)
  (λs X Y h hb=>by obtain⟨pre0,x,e1,e2,e3,e4⟩:=h;exact⟨pre0,x,e1,e2,e3,firm _ _ e4 hb⟩)
  ⟨ok0,by simp⟩
  (λx a' W=>∃ b6,w.heap.size+2≤b6∧W.heap[b6]? = some (Obj.cells (pcs x.1).toArray 40 (0,0))∧Env 15 a' [(6,vp b6),(3,vp b2),(4,vp b3),(5,vp b4)])
  (λx a' W o h=>by obtain⟨b6,e1,e2,e3⟩:=h;exact⟨b6,e1,(World.putObj_heap_other (by omega)).trans e2,e3⟩) ?_ ?_ ?_ ?_)
 ·-- the loop's variable
  intro l pre x W K hl hI hK
  have E1:=(E.keep [3,4,5]).put 8 (Value.agg (pcs x.1).toArray) rfl
  replace E1:=qsi E1 (t:=((#[8]:Array Nat).zip #[Value.agg (pcs x.1).toArray]).foldl (λt (p:Nat×Value)=>t.setIfInBounds p.1 p.2) a.tmps) (by simp[Act.put])
  have okW:Ok { W with heap:=#[] } (qdD [] W) [] W:=ql8 (by simp) (by simp)
  have hnone:∀ k,qdD [] W k=none→W.heap.size≤k:=λk hk=>by
   have:W.heap[k]? = none:=by simpa [qdD] using hk
   exact Array.getElem?_eq_none_iff.1 this
  refine qq7 rfl<|qaL E1 okW qc2 rfl rfl λb6 a1 w1 E1 ok1=>qai (vs:=pcs x.1) E1 ok1 0 rfl rfl rfl qdQ rfl rfl ⟨rfl,rfl,rfl,trivial⟩ rfl rfl λw1 ok1=>wpList_nil ⟨rfl,?_⟩
  have kp:=qlS (X:=[]) ok1 (by simp)
  have hb6:W.heap.size≤b6:=hnone _ ok1.own0.2
  exact hK _ _ (kp.from (by simp)) ⟨kp.os,kp.out,kp.tape,kp.size,λk _ hk=>kp.block k hk (by simp)⟩ ⟨firm _ _ hI.1 (kp.below (by simp) (by omega)),hI.2⟩ ⟨b6,by omega,ok1.own0.1,E1.keep [6,3,4,5]⟩
 ·-- a round
  intro l pre x a' W hl hI hAx hlen
  obtain⟨b6,hb6,h6,hE⟩:=hAx
  have hlt6:=(Array.getElem?_eq_some_iff.1 h6).1
  have hIs:=hI.1
  rw[hSS] at hIs
  have g2:W.heap[b2]? = some (oc 3 [vi offset_1]):=(hI.1.own _ (mT m2)).1
  have okW:Ok { W with heap:=#[] } (qdD [b3,b4] W) ([(b4,oc 25 [vi 0])]::[(b3,oc 40 [vi 0,vi 0,vi 0])]::[]) W:=
   qk0 hIs.own0.1 hIs.own1.1 hne34 (by simp) (by simp)
  have at6:At (qdD [b3,b4] W) b6 0 (pcs x.1):=by
   intro j v hj
   have hx6:¬ (b6∈[b3,b4]):=by simp;omega
   simp[Mem.cell,qdD,hx6,h6]
   simpa using hj
  have at2:At (qdD [b3,b4] W) b2 0 [vi offset_1]:=by
   intro j v hj
   have hx2:¬ (b2∈[b3,b4]):=by simp;exact⟨hne23,hne24⟩
   simp[Mem.cell,qdD,hx2,g2]
   simpa using hj
  refine wpIn_block<|wpIn_seq<|qq7 rfl<|qix hE okW (qaj qob rfl) rfl rfl λa' E=>qix E okW (qaw qaN rfl (Holds.ro (At.sub 0 1 at6))) rfl rfl λa' E=>qix E okW (qaw qaN rfl (Holds.ro at2)) rfl rfl λa' E=>qix E okW (qaz rfl rfl) rfl rfl λa' E=>wpList_nil ⟨rfl,qaa ?_⟩
  refine r_if E rfl (λhc=>?_) (λhc=>?_)
  ·refine wpIn_seq<|qq7 rfl<|qix E okW (qao (cs:=pcs x.1) qgB rfl rfl (Holds.ro at6)) rfl rfl λa' E=>qai (vs:=pcs x.1) E okW 1 rfl rfl rfl qdQ rfl rfl ⟨rfl,rfl,rfl,trivial⟩ rfl rfl λw1 ok1=>qai E ok1 0 rfl rfl rfl qpT rfl rfl ⟨rfl,trivial⟩ rfl rfl λw1 ok1=>wpList_nil ⟨rfl,qaa ?_⟩
   have kp:Keep [b3,b4] W w1:=qiH ok1 (by intro k hk;simp at hk;exact hk.symm)
   refine wpIn_ret<|qaA ?_
   refine⟨kp.from (by simp;exact⟨h3,h4⟩),.inr ⟨rfl,pre,x,rfl,hc,hI.2,?_⟩⟩
   have h:=hI.1
   rw[hSS] at h ⊢
   exact h.turn2 kp ok1.own0.1 ok1.own1.1
  ·refine wpIn_skip<|qal ?_
   exact⟨⟨Nat.le_refl _,λk o _ hk _=>hk⟩,.inl ⟨rfl,⟨rfl,rfl,rfl,Nat.le_refl _,λ_ _ _=>rfl⟩,hI.1,λy hy=>by
    rcases List.mem_append.1 hy with hy | hy
    ·exact hI.2 y hy
    ·rw[List.mem_singleton.1 hy];exact hc⟩⟩
 ·-- none
  rintro D xs W hD hxs ⟨okW,hno⟩ hDef
  have hres:=qpb (q:=λp=>p.Offset==offset_1) hxs hno
  rw[hSS] at okW
  refine qal<|qaa<|wp_seq ?_
  have okV:Ok { W with heap:=#[] } (qdD [b3,b4] W) ([(b4,oc 25 [vi 0])]::[(b3,oc 40 [vi 0,vi 0,vi 0])]::[]) W:=
   qk0 okW.own0.1 okW.own1.1 hne34 (by simp) (by simp)
  refine qwa<|qix E okV (qbY (ps:=[]) (qs:=[]) (cs:=[vi 0,vi 0,vi 0]) qc2 qhQ rfl trivial rfl) rfl rfl λa' E'=>qai (vs:=pcs ⟨0,0,0⟩) E' okV 1 rfl rfl rfl qdQ rfl rfl ⟨rfl,rfl,rfl,trivial⟩ rfl rfl λw1 ok1=>qai E' ok1 0 rfl rfl rfl qpT rfl rfl ⟨rfl,trivial⟩ rfl rfl λw1 ok1=>wpList_nil ⟨rfl,E'.d,qaa ?_⟩
  have kp:Keep [b3,b4] W w1:=qiH ok1 (by intro k hk;simp at hk;exact hk.symm)
  have hDef2:w1.heap[D]? = some (.deferred (some [])):=kp.at hDef (by simp;omega)
  have ok2:Ok u m0 ([(b4,oc 25 [vi 2])]::[(b3,Obj.cells (pcs ⟨0,0,0⟩).toArray 40 (0,0))]::T) w1:=okW.turn2 kp ok1.own0.1 ok1.own1.1
  have ok3:Ok u m0 ([(b4,oc 25 [vi 2])]::[(b3,Obj.cells (pcs ⟨0,0,0⟩).toArray 40 (0,0))]::T) (w1.putObj D (.deferred none)):=by
   have:=firm ⟨0,0,0⟩ 2 (by rw[hSS];exact ok2) (qlC (.deferred none) hD)
   rw[hSS] at this;exact this
  refine wp_ret ?_
  have hbp:bodyPost Tryz.prog Tryz.f38 R .ret a' (w1.putObj D (.deferred none)):=by
   rw[hR,hres]
   refine qbf [.c 4 40 (.agg (pcs ⟨0,0,0⟩).toArray),.c 5 25 (.int .i64 2)] E'.d rfl ⟨rv_c (cs:=pcs ⟨0,0,0⟩) E' ok3 rfl qgB rfl (Holds.own 1 rfl rfl),qtJ E' ok3 rfl qiY (Holds.own 0 rfl rfl),trivial⟩ ⟨m0,pcs ⟨0,0,0⟩,rfl,Mem.le.refl _,?_,⟨rfl,(ir 0),(ir 0),(ir 0)⟩,(ir 2)⟩
   rw[hT] at ok3
   exact ok3.drop.drop.drop.drop
  have hh:=qrd (F:=Fence.wide) (n:=3) E'.d hDef2 hbp
  rw[E'.d] at hh
  rw[hda]
  exact hh
 ·-- found
  rintro D pre W hD ⟨zs,hzs⟩ ⟨pre0,x,rfl,hx,hno,okW⟩ hDef
  have hres:=qsJ (q:=λp=>p.Offset==offset_1) hzs hno hx
  refine wpIn_ret<|qaA<|qak ?_
  have ok3:Ok u m0 ([(b4,oc 25 [vi 0])]::[(b3,Obj.cells (pcs x.1).toArray 40 (0,0))]::T) (W.putObj D (.deferred none)):=by
   have:=firm _ _ okW (qlC (.deferred none) hD)
   rw[hSS] at this;exact this
  have hbp:bodyPost Tryz.prog Tryz.f38 R .ret a (W.putObj D (.deferred none)):=by
   rw[hR,hres]
   refine qbf [.c 4 40 (.agg (pcs x.1).toArray),.c 5 25 (.int .i64 0)] E.d rfl ⟨rv_c (cs:=pcs x.1) E ok3 rfl qgB rfl (Holds.own 1 rfl rfl),qtJ E ok3 rfl qiY (Holds.own 0 rfl rfl),trivial⟩ ⟨m0,pcs x.1,rfl,Mem.le.refl _,?_,⟨rfl,x.2.1,x.2.2.1,x.2.2.2⟩,(ir 0)⟩
   rw[hT] at ok3
   exact ok3.drop.drop.drop.drop
  exact qrd E.d hDef hbp
def qnY(u:World)(m0:Mem)(S:Segs)(r:(List (Part))×Position×Int)(a:Act)(w:World):Prop:=
 ∃ m1 v0 v1,m0.le m1∧Ok u m1 S w∧a.defers=[]∧RVs Tryz.prog a w [.t 4 v0,.c 5 40 (.agg v1.toArray),.t 6 (.int .i64 r.2.2)]∧(pL 6 qaS) m1 [v0] r.1∧qhb m1 v1 r.2.1∧InR .i64 r.2.2
theorem qn1(N:Nat)(s_0:List UInt8)(ls_0:s_0.length≤LIMS)(counting_1:Bool){r:(List (Part))×Position×Int}(hF:qgt N s_0 counting_1=some r)(hG:Glob u)(ok:Ok u m0 S w) :
  Calls Tryz.prog 20 [vs s_0,vb counting_1].toArray w λe w'=>∃ m1 v0 v1,e=.returned (.tuple [v0,(.agg v1.toArray),(.int .i64 r.2.2)].toArray)∧m0.le m1∧Ok u m1 S w'∧(pL 6 qaS) m1 [v0] r.1∧qhb m1 v1 r.2.1∧InR .i64 r.2.2:=by
 have le_m0:=Mem.le.refl m0
 unfold qgt at hF
 refine en (qnY u m0 S) r Tryz.func20 rfl rfl rfl (by rintro a w ⟨m1,v0,v1,hle,ok,hd,hrv,h0,h1,h2⟩;exact qbf [.t 4 v0,.c 5 40 (.agg v1.toArray),.t 6 (.int .i64 r.2.2)] hd rfl hrv ⟨m1,v0,v1,rfl,hle,ok,h0,h1,h2⟩) λfin a E=>sg<|av E rfl λa E=>qaL E ok qc2 rfl rfl λb1 a w E ok=>aw E rfl λa E=>sg<|mv E rfl λa E=>bd hF λr2 e3 hF=>qae E qvQ rfl (qn0 N s_0 ls_0 e3 hG ok) rfl rfl ?_
 rintro _ w ⟨m4,c5,rfl,hle,ok,h6,r7,r8⟩
 have le_m0:=le_m0.trans hle
 refine⟨_,rfl,λa E=>?_⟩
 refine mv E rfl λa E=>lw E (qag rfl rfl) λa E=>lw E (qag rfl rfl) λa E=>lw E (qag rfl rfl) λa E=>av E rfl λa E=>av E rfl λa E=>av E rfl λa E=>wn<|wp_seq<|sg<|mv E rfl λa E=>lw E (qaz rfl rfl) λa E=>wn<|cf E rfl hF (λc9 hF=>?_) λc9 hF=>?_
 ·refine sg<|lw E (qbY (ps:=[(0,.const (vi 4000))]) (qs:=[(0,[vi 4000])]) (cs:=[vi 4000,vi 0,vi 0]) qc2 qhQ rfl ⟨rfl,rfl,rfl,trivial⟩ rfl) λa E=>mv E rfl λa E=>av E rfl λa E=>qai E ok 0 rfl rfl rfl qdQ rfl rfl ⟨rfl,rfl,rfl,trivial⟩ rfl rfl λw ok=>av E rfl λa E=>wn<|wp_ret<|qak ?_
  exact fin hF ⟨m4,(.slice none 0 0),[vi 4000,vi 0,vi 0],le_m0,ok.drop,E.d,⟨rv_t E rfl,rv_c (cs:=[vi 4000,vi 0,vi 0]) E ok rfl qgB rfl (Holds.own 0 rfl rfl),rv_t E rfl,trivial⟩,qbt,⟨rfl,(ir 4000),(ir 0),(ir 0)⟩,r8⟩
 refine wp_skip<|qaa<|sg<|aw E rfl λa E=>wp_seq<|sg<|mv E rfl λa E=>lw E (qaz rfl rfl) λa E=>wn<|bd hF λo10 hJ hF=>qaO (Q':=λe a w=>e=.normal∧∃ m11 c14,m4.le m11∧Ok u m11 ([(b1,oc 40 [vi 0,vi 0,vi 0])]::S) w∧Env 67 a [(0,vs s_0),(5,vp b1),(8,vi o10.1),(9,vi o10.2.1),(10,c14)]∧InR .i64 o10.1∧InR .i64 o10.2.1∧(pL 6 qaS) m11 [c14] o10.2.2) ?_ ?_
 ·as_aux_lemma=>
   have hF:=hJ
   have le_m4:=Mem.le.refl m4
   refine cg E rfl hF (λc16 hF=>?_) λc16 hF=>?_
   ·refine wp_skip ?_
    cases hF
    exact⟨rfl,⟨m4,(Value.slice none 0 0),le_m4,ok,E.keep [0,5,8,9,10],r7,r8,qbt⟩⟩
   refine sg<|mz E rfl rfl λa E=>qf0 kS (oneV pB) E ok rfl rfl λc17 M18 a w E ok h19=>lw E (qbY (ps:=[(0,.tmp 26),(1,.tmp 27),(3,.tmp 28)]) (qs:=[(0,[vs s_0]),(1,[c5]),(3,[c17])]) (cs:=[vs s_0,c5,vi 0,c17,vi 0,vi 0]) qst qra rfl ⟨rfl,rfl,rfl,⟨rfl,(qdy h6),rfl,⟨rfl,(OMap.cells h19),rfl,trivial⟩⟩⟩ rfl) λa E=>qgl E ok rfl rfl rfl λb20 a w E ok=>av E rfl λa E=>wn<|sg<|mz E rfl rfl λa E=>bd hF λr21 e22 hF=>qae E qma rfl (qjn N 0 (ir 0) counting_1 (Parser.mk s_0 r2.1 0 ([]:List (List UInt8×Bool)) 0 0) ls_0 h6 (ir 0) h19 (ir 0) (ir 0) e22 hG ok) rfl rfl ?_
   rintro _ w ⟨m23,c24,c27,c30,M31,rfl,hle,ok,h25,l26,h28,r29,h32,r33,r34⟩
   have le_m0:=le_m0.trans hle
   have le_m4:=le_m4.trans hle
   have h6:=(mL qac).up hle h6
   refine⟨_,rfl,λa E=>?_⟩
   refine aw E rfl λa E=>wp_seq<|sg<|mv E rfl λa E=>lw E (qan rfl) λa E=>fk E ok qcl qaN rfl 0 rfl rfl λa E=>mv E rfl λa E=>lv E ok (qa8 qdJ h6 rfl) λa E=>lw E (qaP rfl rfl) λa E=>wn<|bd hF λo35 hJ hF=>qaO (Q':=λe a w=>e=.normal∧∃ m36 c38 c41 M42,m23.le m36∧Ok u m36 ([(b20,oc 101 [vs o35.s,c38,vi o35.next,c41,vi o35.at_,vi o35.e])]::M42::[(b1,oc 40 [vi 0,vi 0,vi 0])]::S) w∧Env 67 a [(0,vs s_0),(5,vp b1),(10,c24),(11,vp b20)]∧o35.s.length≤LIMS∧(pL 4 qa4) m36 [c38] o35.l∧InR .i64 o35.next∧OMap kS (oneV pB) m36 c41 o35.names M42∧InR .i64 o35.at_∧InR .i64 o35.e) ?_ ?_
   ·have hF:=hJ
    have le_m23:=Mem.le.refl m23
    refine cg E rfl hF (λc46 hF=>?_) λc46 hF=>?_
    ·refine wp_skip ?_
     cases hF
     exact⟨rfl,⟨m23,c27,c30,M31,le_m23,ok,E.keep [0,5,10,11],l26,h28,r29,h32,r33,r34⟩⟩
    refine qab<|mv E rfl λa E=>bd hF λr47 e48 hF=>qae E qfN rfl (qbn N 3 (ir 3) r21.2 l26 h28 r29 h32 r33 r34 e48 hG ok) rfl rfl ?_
    rintro _ w ⟨m49,c51,c54,M55,rfl,hle,ok,l50,h52,r53,h56,r57,r58⟩
    have le_m0:=le_m0.trans hle
    have le_m4:=le_m4.trans hle
    have le_m23:=le_m23.trans hle
    have h6:=(mL qac).up hle h6
    have h25:=(mL qah).up hle h25
    have h28:=(mL qac).up hle h28
    refine⟨_,rfl,λa E=>?_⟩
    refine wpList_nil ?_
    cases hF
    exact⟨rfl,⟨m49,c51,c54,M55,le_m23,ok,E.keep [0,5,10,11],l50,h52,r53,h56,r57,r58⟩⟩
   intro e a w hO
   obtain⟨rfl,m59,c61,c64,M65,hle,ok,E,l60,h62,r63,h66,r67,r68⟩:=hO
   have le_m0:=le_m0.trans hle
   have le_m4:=le_m4.trans hle
   have h6:=(mL qac).up hle h6
   have h25:=(mL qah).up hle h25
   have h28:=(mL qac).up hle h28
   refine qaa<|qdO (by kernel_rfl) (by kernel_rfl) ok<|qv E (qad rfl) λa E=>qv E (qan rfl) λa E=>qv E (qaj qo3 rfl) λa E=>qv E (qaw qaN rfl (Holds.own 0 rfl rfl)) λa E=>qv E (qad rfl) λa E=>qv E (qan rfl) λa E=>qv E (qaj qhJ rfl) λa E=>qv E (qaw qiY rfl (Holds.own 0 rfl rfl)) λa E=>qv E (qa3 rfl) λa E=>qv E (qa3 rfl) λa E=>wpQuiet_nil ?_
   intro w ok
   cases hF
   exact⟨rfl,⟨m59,c24,le_m4,(ok.pk 3 [2] rfl (by decide)),E.keep [0,5,8,9,10],r67,r68,h25⟩⟩
 intro e a w hO
 obtain⟨rfl,m69,c72,hle,ok,E,r70,r71,h73⟩:=hO
 have le_m0:=le_m0.trans hle
 have h6:=(mL qac).up hle h6
 refine qaa<|wp_seq<|sg<|mv E rfl λa E=>lw E (qbg rfl rfl) λa E=>wn<|cg E rfl hF (λc74 hF=>?_) λc74 hF=>?_
 ·refine wp_skip<|qaa<|wp_seq<|sg<|mv E rfl λa E=>bd hF λr94 e95 hF=>qae E qoS rfl (qjH N _ o10.2.2 h73 e95 hG ok) rfl rfl ?_
  rintro _ w ⟨⟨rfl,ok⟩,r96⟩
  refine⟨_,rfl,λa E=>?_⟩
  refine lw E (qcv rfl rfl) λa E=>wn<|cf E rfl hF (λc97 hF=>?_) λc97 hF=>?_
  ·refine sg<|lw E (qbY (ps:=[]) (qs:=[]) (cs:=[vi 0,vi 0,vi 0]) qc2 qhQ rfl trivial rfl) λa E=>av E rfl λa E=>qai E ok 0 rfl rfl rfl qdQ rfl rfl ⟨rfl,rfl,rfl,trivial⟩ rfl rfl λw ok=>aw E rfl λa E=>wp_ret<|qak ?_
   exact fin hF ⟨m69,(.slice none 0 0),[vi 0,vi 0,vi 0],le_m0,ok.drop,E.d,⟨rv_t E rfl,rv_c (cs:=[vi 0,vi 0,vi 0]) E ok rfl qgB rfl (Holds.own 0 rfl rfl),rv_t E rfl,trivial⟩,qbt,⟨rfl,(ir 0),(ir 0),(ir 0)⟩,(ir 6)⟩
  refine wp_skip<|qaa<|sg<|mv E rfl λa E=>lw E (qbY (ps:=[]) (qs:=[]) (cs:=[vi 0,vi 0,vi 0]) qc2 qhQ rfl trivial rfl) λa E=>av E rfl λa E=>qai E ok 0 rfl rfl rfl qdQ rfl rfl ⟨rfl,rfl,rfl,trivial⟩ rfl rfl λw ok=>aw E rfl λa E=>wp_ret ?_
  exact fin hF ⟨m69,c72,[vi 0,vi 0,vi 0],le_m0,ok.drop,E.d,⟨rv_t E rfl,rv_c (cs:=[vi 0,vi 0,vi 0]) E ok rfl qgB rfl (Holds.own 0 rfl rfl),rv_t E rfl,trivial⟩,h73,⟨rfl,(ir 0),(ir 0),(ir 0)⟩,(ir 0)⟩
 refine sg<|mz E rfl rfl λa E=>bd hF λr75 e76 hF=>qae E qv9 rfl (qr5 N s_0 ls_0 o10.1 r70 e76 hG ok) rfl rfl ?_
 rintro _ w ⟨m77,vs78,rfl,hle,ok,h79,r80⟩
 have le_m0:=le_m0.trans hle
 have h6:=(mL qac).up hle h6
 have h73:=(mL qah).up hle h73
 obtain⟨rfl,r81,r82,r83⟩:=h79
 refine⟨_,rfl,λa E=>?_⟩
 refine mv E rfl λa E=>lw E (qag rfl rfl) λa E=>lw E (qag rfl rfl) λa E=>qaL E ok qc2 rfl rfl λb84 a w E ok=>qai E ok 0 rfl rfl rfl qdQ rfl rfl ⟨rfl,rfl,rfl,trivial⟩ rfl rfl λw ok=>aw E rfl λa E=>wp_seq<|bd hF λo85 hJ hF=>qaO (Q':=λe a w=>e=.normal∧Ok u m77 ([(b84,oc 40 [vi r75.1.Offset,vi r75.1.Line,vi r75.1.Column])]::[(b1,oc 40 [vi o85.2.Offset,vi o85.2.Line,vi o85.2.Column])]::S) w∧Env 67 a [(4,(Value.slice none 0 0)),(5,vp b1),(6,vi o85.1)]∧InR .i64 o85.1∧InR .i64 o85.2.Offset∧InR .i64 o85.2.Line∧InR .i64 o85.2.Column) ?_ ?_
 rotate_left
 ·intro e a w hO
  obtain⟨rfl,ok,E,r90,r91,r92,r93⟩:=hO
  refine qaa<|wp_ret<|qak ?_
  exact fin hF ⟨m77,(.slice none 0 0),[vi o85.2.Offset,vi o85.2.Line,vi o85.2.Column],le_m0,ok.drop.drop,E.d,⟨rv_t E rfl,rv_c (cs:=[vi o85.2.Offset,vi o85.2.Line,vi o85.2.Column]) E ok rfl qgB rfl (Holds.own 1 rfl rfl),rv_t E rfl,trivial⟩,qbt,⟨rfl,r91,r92,r93⟩,r90⟩
 have hF:=hJ
 cases hF
 refine qbl [0] (Cls u m77 ([(b84,oc 40 [vi r75.1.Offset,vi r75.1.Line,vi r75.1.Column])]::[(b1,oc 40 [vi 0,vi 0,vi 0])]::[])) (Cls u m77 ([(b84,oc 40 [vi r75.1.Offset,vi r75.1.Line,vi r75.1.Column])]::[])) (by kernel_rfl) ?_
 intro w hw
 replace ok:=qbA ok hw
 clear hw
 have le_m77:=Mem.le.refl m77
 refine qaq (cl1 (cq le_m77 ok [0,1] rfl) (cq le_m77 ok [0] rfl)) λhT=>qdg 0 E rfl (by kernel_rfl) nP hT (qao (cs:=[vi r75.1.Offset,vi r75.1.Line,vi r75.1.Column]) qgB rfl rfl (Holds.cown 0 rfl rfl)) rfl rfl λa E=>kt 1 E rfl hT (qad rfl) λa E=>kt 2 E rfl hT (qa3 rfl) λa E=>qaU [3] (by kernel_rfl) rfl (qa1 ?_)
 ·refine wo rfl<|qai E ok 1 rfl rfl rfl qdQ rfl rfl ⟨rfl,rfl,rfl,trivial⟩ rfl rfl λw ok=>wn<|qaq (cl2 (by kernel_rfl) (cq le_m77 ok [0] rfl)) λhT=>kt 4 E rfl hT (qa3 rfl) λa E=>qbv (by kernel_rfl) ?_
  exact⟨rfl,⟨ok,E.keep [4,5,6],r71,r81,r82,r83⟩⟩
def qn6(u:World)(m0:Mem)(S:Segs)(r:(List (Part))×Position×Int)(a:Act)(w:World):Prop:=
 ∃ m1 v0 v1,m0.le m1∧Ok u m1 S w∧a.defers=[]∧RVs Tryz.prog a w [.t 2 v0,.c 3 40 (.agg v1.toArray),.t 4 (.int .i64 r.2.2)]∧(pL 6 qaS) m1 [v0] r.1∧qhb m1 v1 r.2.1∧InR .i64 r.2.2
theorem qcU(N:Nat)(s_0:List UInt8)(ls_0:s_0.length≤LIMS){r:(List (Part))×Position×Int}(hF:qbN N s_0=some r)(hG:Glob u)(ok:Ok u m0 S w) :
  Calls Tryz.prog 11 [vs s_0].toArray w λe w'=>∃ m1 v0 v1,e=.returned (.tuple [v0,(.agg v1.toArray),(.int .i64 r.2.2)].toArray)∧m0.le m1∧Ok u m1 S w'∧(pL 6 qaS) m1 [v0] r.1∧qhb m1 v1 r.2.1∧InR .i64 r.2.2:=by
 have le_m0:=Mem.le.refl m0
 unfold qbN at hF
 refine en (qn6 u m0 S) r Tryz.func11 rfl rfl rfl (by rintro a w ⟨m1,v0,v1,hle,ok,hd,hrv,h0,h1,h2⟩;exact qbf [.t 2 v0,.c 3 40 (.agg v1.toArray),.t 4 (.int .i64 r.2.2)] hd rfl hrv ⟨m1,v0,v1,rfl,hle,ok,h0,h1,h2⟩) λfin a E=>sg<|av E rfl λa E=>qaL E ok qc2 rfl rfl λb1 a w E ok=>aw E rfl λa E=>sg<|mv E rfl λa E=>bd hF λr2 e3 hF=>qae E qwb rfl (qn1 N s_0 ls_0 false e3 hG ok) rfl rfl ?_
 rintro _ w ⟨m4,c5,vs7,rfl,hle,ok,h6,h8,r9⟩
 have le_m0:=le_m0.trans hle
 obtain⟨rfl,r10,r11,r12⟩:=h8
 refine⟨_,rfl,λa E=>?_⟩
 refine lw E (qag rfl rfl) λa E=>lw E (qag rfl rfl) λa E=>lw E (qag rfl rfl) λa E=>av E rfl λa E=>qai E ok 0 rfl rfl rfl qdQ rfl rfl ⟨rfl,rfl,rfl,trivial⟩ rfl rfl λw ok=>aw E rfl λa E=>wp_ret ?_
 exact fin hF ⟨m4,c5,[vi r2.2.1.Offset,vi r2.2.1.Line,vi r2.2.1.Column],le_m0,ok.drop,E.d,⟨rv_t E rfl,rv_c (cs:=[vi r2.2.1.Offset,vi r2.2.1.Line,vi r2.2.1.Column]) E ok rfl qgB rfl (Holds.own 0 rfl rfl),rv_t E rfl,trivial⟩,h6,⟨rfl,r10,r11,r12⟩,r9⟩
end Go.Proofs.YtkhjeeakflefjaaGreatDoor
namespace Go.Proofs.YtkhjeeakflefjaaGreatDoor
open Go.X
structure Arg where
 Name:List UInt8
 Type_:Int
structure Table where
 types:List (List UInt8×Int)
 wrong:Bool
structure Arr10_Int where
 e0:Int
 e1:Int
 e2:Int
 e3:Int
 e4:Int
 e5:Int
 e6:Int
 e7:Int
 e8:Int
 e9:Int
def Arr10_Int.list(a:Arr10_Int):List (Int):=[a.e0,a.e1,a.e2,a.e3,a.e4,a.e5,a.e6,a.e7,a.e8,a.e9]
def Arr10_Int.of:List (Int)→Option Arr10_Int
 | [x0,x1,x2,x3,x4,x5,x6,x7,x8,x9]=>some ⟨x0,x1,x2,x3,x4,x5,x6,x7,x8,x9⟩
 | _=>none
def Arr10_Int.get(a:Arr10_Int)(i:Int):Option (Int):=idx a.list i
def Arr10_Int.set(a:Arr10_Int)(i:Int)(x:Int):Option Arr10_Int:=(setI a.list i x).bind Arr10_Int.of
def qgf(_N:Nat)(kind_0:Int):Option (Int×Bool):=
 bif (decide (kind_0<2)) then
  some (0,false)
 else
  bif (decide (kind_0≥10)) then
   some (0,false)
  else
   (Arr10_Int.get (Arr10_Int.mk 0 0 0 2 2 3 4 2 2 1) kind_0).bind λx4=>
   some (x4,true)
def qeF(_N:Nat)(t_0:Int):Option Bool:=
 bif (decide (t_0≥0)) then
  some (decide (t_0≤4))
 else
  some false
def qfd(N:Nat)(a_0:Int)(b_1:Int):Option (Int×Bool):=
 (qeF N a_0).bind λr1=>
 bif (!r1) then
  some (0,false)
 else
  (qeF N b_1).bind λr4=>
  bif (!r4) then
   some (0,false)
  else
   bif (a_0==b_1) then
    some (a_0,true)
   else
    bif (a_0==0) then
     bif (b_1 != 4) then
      some (b_1,true)
     else
      bif (b_1==0) then
       bif (a_0 != 4) then
        some (a_0,true)
       else
        some (0,false)
      else
       some (0,false)
    else
     bif (b_1==0) then
      bif (a_0 != 4) then
       some (a_0,true)
      else
       some (0,false)
     else
      some (0,false)
def qdL(N:Nat)(name_1:List UInt8)(kind_2:Int)(x0:Table):Option Table:=
 bif (!((mget x0.types name_1).isSome)) then
  (mset x0.types name_1 kind_2).bind λl13=>
  some (Table.mk l13 x0.wrong)
 else
  (qfd N ((mget x0.types name_1).getD 0) kind_2).bind λr17=>
  (mset x0.types name_1 r17.1).bind λl20=>
  bif x0.wrong then
   some (Table.mk l20 true)
  else
   some (Table.mk l20 (!r17.2))
def qcA(rQ6:List (Part)→Table→Option Table)(N:Nat)(x26:Part)(x_74:Int)(x_75:Table):Option ((Int×Table)⊕Table):=
 bif (decide (x_74<(x26.Cases.length:Int))) then
  (idx x26.Cases x_74).bind λx82=>
  (rQ6 x82.Parts x_75).bind λr95=>
  some (.inl ((x_74+1),r95))
 else
  some (.inr x_75)
def qc3(rQ6:List (Part)→Table→Option Table)(N:Nat)(parts_1:List (Part))(x_18:Int)(x_19:Table):Option ((Int×Table)⊕Table):=
 bif (decide (x_18<(parts_1.length:Int))) then
  (idx parts_1 x_18).bind λx26=>
  (qgf N x26.Kind).bind λr44=>
  (show Option Table from
   bif r44.2 then
    (qdL N x26.Name r44.1 x_19).bind λr53=>
    some r53
   else
    some x_19).bind λo47=>
  (iter (λs=>qcA rQ6 N x26 s.1 s.2) N (0,o47)).bind λo68=>
  (rQ6 x26.Parts o68).bind λr105=>
  some (.inl ((x_18+1),r105))
 else
  some (.inr x_19)
def qdr(rQ6:List (Part)→Table→Option Table)(N:Nat)(parts_1:List (Part))(x0:Table):Option Table:=
 (iter (λs=>qc3 rQ6 N parts_1 s.1 s.2) N (0,x0)).bind λo12=>
 some o12
def qgr:Nat→(List (Part)→Table→Option Table)
 | 0=>(λ_ _=>none)
 | N+1=>(qdr (qgr N) N)
def qck(N:Nat):List (Part)→Table→Option Table:=(qgr N)
def ql6{V:Type}(l:List (List UInt8×V)):Option (List (List UInt8)):=if l.length*16≤140737488355328 then some ((l.map (·.1)).mergeSort λx y=>decide (x≤y)) else none
def qcz(_N:Nat)(x0:Table)(l4:List (List UInt8))(out_21:List (Arg))(x_22:Int):Option (((List (Arg))×Int)⊕(((List (Arg))))):=
 bif (decide (x_22<(l4.length:Int))) then
  (idx l4 x_22).bind λx28=>
  (app out_21 ([(Arg.mk x28 ((mget x0.types x28).getD 0))]:List (Arg))).bind λl47=>
  some (.inl (l47,(x_22+1)))
 else
  some (.inr out_21)
def qeX(N:Nat)(x0:Table):Option (List (Arg)):=
 (ql6 x0.types).bind λl4=>
 (iter (λs=>qcz N x0 l4 s.1 s.2) N ([],0)).bind λo16=>
 some o16
def qbZ(N:Nat)(parts_0:List (Part)):Option ((List (Arg))×Int):=
 (qev N parts_0).bind λr1=>
 bif (!r1) then
  some ([],1)
 else
  (qck N parts_0 (Table.mk ([]:List (List UInt8×Int)) false)).bind λr8=>
  bif r8.wrong then
   some ([],11)
  else
   (qeX N r8).bind λr15=>
   some (r15,0)
end Go.Proofs.YtkhjeeakflefjaaGreatDoor
namespace Go.Proofs
open Go.Shelf
def Tryz.keys44_ren:Go.Shelf.Ren:=⟨λ| 7=>44 | 10=>69 | n=>n,λ| 23=>75 | 26=>9 | 3=>3 | 28=>113 | 0=>0 | 27=>112 | 33=>29 | 4=>4 | n=>n,λ| n=>n⟩
theorem Tryz.keys44:Go.Proofs.SlLaysZ.n7 Tryz.prog Tryz.keys44_ren:={
 mixed:=by kernel_rfl
 f7:=⟨Tryz.f44.name,by decide,Tryz.func44.trans (congrArg some (by kernel_rfl))⟩
 f10:=⟨Tryz.f69.name,by decide,Tryz.func69.trans (congrArg some (by kernel_rfl))⟩
 t0:=Tryz.underlying0
 a0:=Tryz.isAgg0
 z0:=Tryz.sizeOf0
 v0:=Tryz.zeroValue0
 t4:=Tryz.underlying4
 a4:=Tryz.isAgg4
 z4:=Tryz.sizeOf4
 v4:=Tryz.zeroValue4
 t23:=Tryz.underlying75
 a23:=Tryz.isAgg75
 z23:=Tryz.sizeOf75
 v23:=Tryz.zeroValue75
 t26:=Tryz.underlying9
 a26:=Tryz.isAgg9
 z26:=Tryz.sizeOf9
 v26:=Tryz.zeroValue9
 t27:=Tryz.underlying112
 a27:=Tryz.isAgg112
 z27:=Tryz.sizeOf112
 v27:=Tryz.zeroValue112
 t28:=Tryz.underlying113
 a28:=Tryz.isAgg113
 z28:=Tryz.sizeOf113
 v28:=Tryz.zeroValue113
 t33:=Tryz.underlying29
 a33:=Tryz.isAgg29
 z33:=Tryz.sizeOf29
 v33:=Tryz.zeroValue29 }
def Tryz.sorted43_ren:Go.Shelf.Ren:=⟨λ| 6=>43 | 8=>68 | 9=>26 | 11=>100 | 13=>46 | 12=>45 | 23=>79 | 24=>80 | 14=>70 | 15=>71 | 16=>72 | 17=>73 | 18=>74 | 19=>75 | 20=>76 | 21=>77 | 22=>78 | 25=>101 | 26=>102 | 27=>103 | 28=>104 | 29=>105 | 30=>106 | 31=>125 | n=>n,λ| 26=>9 | 28=>113 | 24=>53 | 0=>0 | 3=>3 | 37=>117 | 48=>158 | 50=>160 | 4=>4 | 40=>151 | 39=>150 | 45=>108 | 5=>5 | 9=>9 | 51=>177 | 55=>181 | 57=>194 | 58=>195 | 33=>29 | n=>n,λ| n=>n⟩
theorem Tryz.sorted43:Go.Proofs.SlLaysZ.n6 Tryz.prog Tryz.sorted43_ren:={
 mixed:=by kernel_rfl
 f6:=⟨Tryz.f43.name,by decide,Tryz.func43.trans (congrArg some (by kernel_rfl))⟩
 f8:=⟨Tryz.f68.name,by decide,Tryz.func68.trans (congrArg some (by kernel_rfl))⟩
 f11:=⟨Tryz.f100.name,by decide,Tryz.func100.trans (congrArg some (by kernel_rfl))⟩
 t0:=Tryz.underlying0
 a0:=Tryz.isAgg0
 z0:=Tryz.sizeOf0
 v0:=Tryz.zeroValue0
 t24:=Tryz.underlying53
 a24:=Tryz.isAgg53
 z24:=Tryz.sizeOf53
 v24:=Tryz.zeroValue53
 t26:=Tryz.underlying9
 a26:=Tryz.isAgg9
 z26:=Tryz.sizeOf9
 v26:=Tryz.zeroValue9
 t28:=Tryz.underlying113
 a28:=Tryz.isAgg113
 z28:=Tryz.sizeOf113
 v28:=Tryz.zeroValue113
 i26:=by kernel_rfl }
def Tryz.sort26_ren:Go.Shelf.Ren:=⟨λ| 6=>26 | 8=>46 | 9=>45 | 19=>79 | 20=>80 | 21=>70 | 22=>71 | 23=>72 | 24=>73 | 25=>74 | 26=>75 | 27=>76 | 28=>77 | 29=>78 | 36=>101 | 31=>102 | 32=>103 | 37=>104 | 38=>105 | 39=>106 | 41=>125 | n=>n,λ| 27=>53 | 29=>9 | 3=>3 | 32=>117 | 26=>53 | 0=>0 | 44=>158 | 46=>160 | 4=>4 | 36=>151 | 35=>150 | 41=>108 | 5=>5 | 9=>9 | 53=>177 | 57=>181 | 63=>194 | 64=>195 | n=>n,λ| n=>n⟩
theorem Tryz.sort26:Go.Proofs.SlLaysM.n6 Tryz.prog Tryz.sort26_ren:={
 mixed:=by kernel_rfl
 f6:=⟨Tryz.f26.name,by decide,Tryz.func26.trans (congrArg some (by kernel_rfl))⟩
 f8:=Tryz.func46.trans (congrArg some (by kernel_rfl))
 f9:=⟨Tryz.f45.name,by decide,Tryz.func45.trans (congrArg some (by kernel_rfl))⟩
 f19:=Tryz.func79.trans (congrArg some (by kernel_rfl))
 f20:=Tryz.func80.trans (congrArg some (by kernel_rfl))
 f21:=⟨Tryz.f70.name,by decide,Tryz.func70.trans (congrArg some (by kernel_rfl))⟩
 f22:=⟨Tryz.f71.name,by decide,Tryz.func71.trans (congrArg some (by kernel_rfl))⟩
 f23:=⟨Tryz.f72.name,by decide,Tryz.func72.trans (congrArg some (by kernel_rfl))⟩
 f24:=⟨Tryz.f73.name,by decide,Tryz.func73.trans (congrArg some (by kernel_rfl))⟩
 f25:=⟨Tryz.f74.name,by decide,Tryz.func74.trans (congrArg some (by kernel_rfl))⟩
 f26:=⟨Tryz.f75.name,by decide,Tryz.func75.trans (congrArg some (by kernel_rfl))⟩
 f27:=⟨Tryz.f76.name,by decide,Tryz.func76.trans (congrArg some (by kernel_rfl))⟩
 f28:=⟨Tryz.f77.name,by decide,Tryz.func77.trans (congrArg some (by kernel_rfl))⟩
 f29:=⟨Tryz.f78.name,by decide,Tryz.func78.trans (congrArg some (by kernel_rfl))⟩
 f31:=Tryz.func102.trans (congrArg some (by kernel_rfl))
 f32:=Tryz.func103.trans (congrArg some (by kernel_rfl))
 f36:=⟨Tryz.f101.name,by decide,Tryz.func101.trans (congrArg some (by kernel_rfl))⟩
 f37:=⟨Tryz.f104.name,by decide,Tryz.func104.trans (congrArg some (by kernel_rfl))⟩
 f38:=⟨Tryz.f105.name,by decide,Tryz.func105.trans (congrArg some (by kernel_rfl))⟩
 f39:=⟨Tryz.f106.name,by decide,Tryz.func106.trans (congrArg some (by kernel_rfl))⟩
 f41:=⟨Tryz.f125.name,by decide,Tryz.func125.trans (congrArg some (by kernel_rfl))⟩
 t0:=Tryz.underlying0
 a0:=Tryz.isAgg0
 z0:=Tryz.sizeOf0
 v0:=Tryz.zeroValue0
 t3:=Tryz.underlying3
 a3:=Tryz.isAgg3
 z3:=Tryz.sizeOf3
 v3:=Tryz.zeroValue3
 t4:=Tryz.underlying4
 a4:=Tryz.isAgg4
 z4:=Tryz.sizeOf4
 v4:=Tryz.zeroValue4
 t5:=Tryz.underlying5
 a5:=Tryz.isAgg5
 z5:=Tryz.sizeOf5
 v5:=Tryz.zeroValue5
 t9:=Tryz.underlying9
 a9:=Tryz.isAgg9
 z9:=Tryz.sizeOf9
 v9:=Tryz.zeroValue9
 t26:=Tryz.underlying53
 a26:=Tryz.isAgg53
 z26:=Tryz.sizeOf53
 v26:=Tryz.zeroValue53
 t27:=Tryz.underlying53
 a27:=Tryz.isAgg53
 z27:=Tryz.sizeOf53
 v27:=Tryz.zeroValue53
 t29:=Tryz.underlying9
 a29:=Tryz.isAgg9
 z29:=Tryz.sizeOf9
 v29:=Tryz.zeroValue9
 t32:=Tryz.underlying117
 a32:=Tryz.isAgg117
 z32:=Tryz.sizeOf117
 v32:=Tryz.zeroValue117
 t35:=Tryz.underlying150
 a35:=Tryz.isAgg150
 z35:=Tryz.sizeOf150
 v35:=Tryz.zeroValue150
 t36:=Tryz.underlying151
 a36:=Tryz.isAgg151
 z36:=Tryz.sizeOf151
 v36:=Tryz.zeroValue151
 t41:=Tryz.underlying108
 a41:=Tryz.isAgg108
 z41:=Tryz.sizeOf108
 v41:=Tryz.zeroValue108
 t44:=Tryz.underlying158
 a44:=Tryz.isAgg158
 z44:=Tryz.sizeOf158
 v44:=Tryz.zeroValue158
 t46:=Tryz.underlying160
 a46:=Tryz.isAgg160
 z46:=Tryz.sizeOf160
 v46:=Tryz.zeroValue160
 t53:=Tryz.underlying177
 a53:=Tryz.isAgg177
 z53:=Tryz.sizeOf177
 v53:=Tryz.zeroValue177
 t57:=Tryz.underlying181
 a57:=Tryz.isAgg181
 z57:=Tryz.sizeOf181
 v57:=Tryz.zeroValue181
 t63:=Tryz.underlying194
 a63:=Tryz.isAgg194
 z63:=Tryz.sizeOf194
 v63:=Tryz.zeroValue194
 t64:=Tryz.underlying195
 a64:=Tryz.isAgg195
 z64:=Tryz.sizeOf195
 v64:=Tryz.zeroValue195 }
open Go.RowKit Go.Maps Go.Sort Go.Shelf in
theorem Tryz.sorts43(m:Nat):AnyZ.SortsIn Tryz.prog Tryz.sorted43_ren Fence.wide m:=
  ⟨λblk off cap ss W hH hblk hsz=>callsIn_wide.2 (AnyM.slices_Sort_string Tryz.sort26 blk off cap ss W hH hblk hsz),
   λp cap W=>callsIn_wide.2 (AnyM.slices_Sort_string_none Tryz.sort26 p cap W)⟩
open Go.RowKit Go.Maps Go.Sort Go.Shelf in
theorem Tryz.maps_Keys_44(mb:Option Nat)(W:World):CallsIn Fence.wide 5 Tryz.prog 44 #[.map mb] W λe w'=>e=.returned (.func (.func 69) #[] #[.pointer (some ⟨W.heap.size,0,none⟩)])∧w'=W.alloc (.cells #[.map mb] 75):=
 AnyZ.keys_in Tryz.keys44 Fence.wide 5 trivial rfl mb W
open Go.RowKit Go.Maps Go.Sort Go.Shelf in
theorem Tryz.slices_Sorted_keys_43_44{H:Type}(b nn:Nat)(D0:DataW H)(R:Value→Option (DataW H×List MemPlace))(w:World)(hown:w.ownsMap Tryz.prog 9 R b nn D0)(hmax:Maps.size D0≤maxLen)(hbytes:Maps.size D0*16≤140737488355328) :
  CallsIn Fence.wide 5 Tryz.prog 43 #[.func (.func 69) #[] #[.pointer (some ⟨w.heap.size,0,none⟩)]] (w.alloc (.cells #[.map (some b)] 75)) λe w'=>∃ (v:Value) (ss:List (List UInt8)),e=.returned v∧ss.Perm (strKeys D0) ∧
   w'.ownsRow (w.alloc (.cells #[.map (some b)] 75)).heap.size 9 1 v ss.length ((ss.mergeSort (λx y=>decide (x≤y))).map encStr)∧(v=.slice none 0 0↔ss=[])∧Below (w.alloc (.cells #[.map (some b)] 75)).heap.size (w.alloc (.cells #[.map (some b)] 75)) w':=by
 have hbl:=hown.lt
 have hseq:SeqGives Fence.wide 2 Tryz.prog 69 #[.pointer (some ⟨w.heap.size,0,none⟩)] encStr (λss=>ss.Perm (strKeys D0)) (Maps.size D0) (w.alloc (.cells #[.map (some b)] 75)):=
  AnyZ.keys_gives (ρ:=Tryz.keys44_ren) { Tryz.keys44 with } Fence.wide _ trivial rfl (by omega) w.heap.size b nn D0 _ (by simp) (by simp) (by
   obtain⟨es,clock,hb,Ft,hs,hD⟩:=hown
   exact⟨es,clock,(Below.heap_alloc _ _ b hbl).trans hb,Ft,hs,hD⟩)
 exact AnyZ.sorted_in Tryz.sorted43 Fence.wide 5 trivial trivial trivial trivial rfl (by omega) (Tryz.sorts43 _) (enters_of Tryz.func26 (by kernel_rfl) rfl) 69 #[.pointer (some ⟨w.heap.size,0,none⟩)] trivial (enters_of Tryz.func69 (by kernel_rfl) rfl) _ _ hmax hbytes _ hseq
end Go.Proofs

namespace Go.Proofs.YtkhjeeakflefjaaGreatDoor
open Go.X
variable {u:World} {m0:Mem} {S:Segs} {w:World}
set_option maxHeartbeats 4000000
set_option maxRecDepth 100000
def pArg:Rp Arg:=λ_ cs x=>cs=[.string (bs x.Name),.int .i64 x.Type_]∧x.Name.length≤LIMS∧InR .i64 x.Type_
theorem mArg:Mono pArg:=⟨λ_ h=>by
 obtain⟨e,h0,h1⟩:=h
 exact⟨e,h0,h1⟩,λh=>by
 obtain⟨rfl,h0,h1⟩:=h
 exact⟨rfl,rfl,trivial⟩⟩
theorem qqz:ArT Tryz.prog 147 3 10 1:=ArT.of (by kernel_rfl)
theorem qj2:qa2 Tryz.prog 77 0 0=true:=by kernel_rfl
theorem qmb:qa2 Tryz.prog 77 1 1=true:=by kernel_rfl
theorem qqG:goB Tryz.prog 22=true:=by kernel_rfl
theorem qv3:goB Tryz.prog 23=true:=by kernel_rfl
theorem qvx:goB Tryz.prog 41=true:=by kernel_rfl
theorem qvT:goB Tryz.prog 42=true:=by kernel_rfl
theorem qvS:goB Tryz.prog 43=true:=by kernel_rfl
theorem qvM:goB Tryz.prog 44=true:=by kernel_rfl
theorem qwk:goB Tryz.prog 67=true:=by kernel_rfl
theorem qtw:goB Tryz.prog 99=true:=by kernel_rfl
theorem qt0:∃ i,Tryz.prog.info? 147=some i∧i.size=10:=⟨_,rfl,by kernel_rfl⟩
theorem qtt:∃ i,Tryz.prog.info? 4=some i∧i.size=1:=⟨_,rfl,by kernel_rfl⟩
theorem qrA:qen Tryz.prog 47=some [(0,1),(1,1)]:=by kernel_rfl
theorem qru:qen Tryz.prog 77=some [(0,1),(1,1)]:=by kernel_rfl
theorem qfg:SlT Tryz.prog 43 47 2:=SlT.of (by kernel_rfl)
theorem qpu:qcp Tryz.prog 147=some [vi 0,vi 0,vi 0,vi 0,vi 0,vi 0,vi 0,vi 0,vi 0,vi 0]:=by kernel_rfl
theorem qfQ:qcp Tryz.prog 47=some [(vs ([])),vi 0]:=by kernel_rfl
theorem quu:qcp Tryz.prog 77=some [(Value.map none),vb false]:=by kernel_rfl
def qmT(u:World)(m0:Mem)(S:Segs)(r:Int×Bool)(a:Act)(w:World):Prop:=
 Ok u m0 S w∧a.defers=[]∧RVs Tryz.prog a w [.t 2 (.int .i64 r.1),.t 3 (.bool r.2)]∧InR .i64 r.1
theorem qnu(N:Nat)(kind_0:Int)(rkind_0:InR .i64 kind_0){r:Int×Bool}(hF:qgf N kind_0=some r)(hG:Glob u)(ok:Ok u m0 S w) :
  Calls Tryz.prog 41 [vi kind_0].toArray w λe w'=>(e=.returned (.tuple [(.int .i64 r.1),(.bool r.2)].toArray)∧Ok u m0 S w')∧InR .i64 r.1:=by
 unfold qgf at hF
 refine en (qmT u m0 S) r Tryz.func41 rfl rfl rfl (by rintro a w ⟨ok,hd,hrv,h0⟩;exact qbf [.t 2 (.int .i64 r.1),.t 3 (.bool r.2)] hd rfl hrv ⟨⟨rfl,ok⟩,h0⟩) λfin a E=>sg<|av E rfl λa E=>aw E rfl λa E=>sg<|lv E ok (qmx (ps:=[(2,.const (vi 0)),(3,.const (vi 2)),(4,.const (vi 2)),(5,.const (vi 3)),(6,.const (vi 4)),(7,.const (vi 2)),(8,.const (vi 2)),(9,.const (vi 1))]) (qs:=[(2,[vi 0]),(3,[vi 2]),(4,[vi 2]),(5,[vi 3]),(6,[vi 4]),(7,[vi 2]),(8,[vi 2]),(9,[vi 1])]) (cs:=[vi 0,vi 0,vi 0,vi 2,vi 2,vi 3,vi 4,vi 2,vi 2,vi 1]) qpu qqz rfl ⟨rfl,rfl,rfl,⟨rfl,rfl,rfl,⟨rfl,rfl,rfl,⟨rfl,rfl,rfl,⟨rfl,rfl,rfl,⟨rfl,rfl,rfl,⟨rfl,rfl,rfl,⟨rfl,rfl,rfl,trivial⟩⟩⟩⟩⟩⟩⟩⟩ rfl) λa E=>qaL E ok qpu rfl rfl λb1 a w E ok=>qai E ok 0 rfl rfl rfl qt0 rfl rfl ⟨rfl,rfl,rfl,rfl,rfl,rfl,rfl,rfl,rfl,rfl,trivial⟩ rfl rfl λw ok=>wn<|wp_seq<|sg<|mv E rfl λa E=>lw E (qaP rfl rfl) λa E=>mv E rfl λa E=>bu E 8 hF (λc2 hF E=>?_) λc2 hF E=>?_
 ·refine lsq E λa E=>pt E rfl rfl λa E=>wn<|c_if E rfl (λ_=>?_) (λh=>by cases h)
  refine sg<|av E rfl λa E=>aw E rfl λa E=>wp_ret<|qak ?_
  exact fin hF ⟨ok.drop,E.d,⟨rv_t E rfl,rv_t E rfl,trivial⟩,(ir 0)⟩
 refine mv E rfl λa E=>lw E (qbL rfl rfl) λa E=>pf E rfl rfl λa E=>wn<|cf E rfl hF (λc3 hF=>?_) λc3 hF=>?_
 ·refine sg<|av E rfl λa E=>aw E rfl λa E=>wp_ret<|qak ?_
  exact fin hF ⟨ok.drop,E.d,⟨rv_t E rfl,rv_t E rfl,trivial⟩,(ir 0)⟩
 refine wp_skip<|qaa<|sg<|mv E rfl λa E=>?_
 obtain⟨x4,e5,hF⟩:=bnd hF
 replace e5:idx (Arr10_Int.list (Arr10_Int.mk 0 0 0 2 2 3 4 2 2 1)) kind_0=some x4:=e5
 refine lv E ok (qh1 qqz rfl rfl (qjB e5).1 (qjB e5).2) λa E=>lv E ok (qaw qaN rfl (Holds.idx (xs:=Arr10_Int.list (Arr10_Int.mk 0 0 0 2 2 3 4 2 2 1)) (f:=(Value.int .i64)) (Holds.own 0 rfl rfl) e5)) λa E=>av E rfl λa E=>aw E rfl λa E=>wp_ret ?_
 exact fin hF ⟨ok.drop,E.d,⟨rv_t E rfl,rv_t E rfl,trivial⟩,(AllP.idx (q:=(InR .i64)) (xs:=Arr10_Int.list (Arr10_Int.mk 0 0 0 2 2 3 4 2 2 1)) ⟨(ir 0),(ir 0),(ir 0),(ir 2),(ir 2),(ir 3),(ir 4),(ir 2),(ir 2),(ir 1),trivial⟩ e5)⟩
def qmf(u:World)(m0:Mem)(S:Segs)(r:Bool)(a:Act)(w:World):Prop:=
 Ok u m0 S w∧a.defers=[]∧RVs Tryz.prog a w [.t 2 (.bool r)]
theorem qik(N:Nat)(t_0:Int)(rt_0:InR .i64 t_0){r:Bool}(hF:qeF N t_0=some r)(hG:Glob u)(ok:Ok u m0 S w) :
  Calls Tryz.prog 99 [vi t_0].toArray w λe w'=>(e=.returned (.bool r)∧Ok u m0 S w'):=by
 unfold qeF at hF
 refine en (qmf u m0 S) r Tryz.func99 rfl rfl rfl (λ_ _ h=>ra h rfl) λfin a E=>sg<|aw E rfl λa E=>sg<|mv E rfl λa E=>lw E (qbL rfl rfl) λa E=>mv E rfl λa E=>bu E 5 hF (λc1 hF E=>?_) λc1 hF E=>?_
 ·refine mv E rfl λa E=>lw E (qc8 rfl rfl) λa E=>pt E rfl rfl λa E=>aw E rfl λa E=>wp_ret ?_
  exact fin hF ⟨ok,E.d,rz E rfl⟩
 refine lsq E λa E=>pf E rfl rfl λa E=>aw E rfl λa E=>wp_ret ?_
 exact fin hF ⟨ok,E.d,rz E rfl⟩
def qlv(u:World)(m0:Mem)(S:Segs)(r:Int×Bool)(a:Act)(w:World):Prop:=
 Ok u m0 S w∧a.defers=[]∧RVs Tryz.prog a w [.t 4 (.int .i64 r.1),.t 5 (.bool r.2)]∧InR .i64 r.1
theorem qlT(N:Nat)(a_0:Int)(ra_0:InR .i64 a_0)(b_1:Int)(rb_1:InR .i64 b_1){r:Int×Bool}(hF:qfd N a_0 b_1=some r)(hG:Glob u)(ok:Ok u m0 S w) :
  Calls Tryz.prog 67 [vi a_0,vi b_1].toArray w λe w'=>(e=.returned (.tuple [(.int .i64 r.1),(.bool r.2)].toArray)∧Ok u m0 S w')∧InR .i64 r.1:=by
 unfold qfd at hF
 refine en (qlv u m0 S) r Tryz.func67 rfl rfl rfl (by rintro a w ⟨ok,hd,hrv,h0⟩;exact qbf [.t 4 (.int .i64 r.1),.t 5 (.bool r.2)] hd rfl hrv ⟨⟨rfl,ok⟩,h0⟩) λfin a E=>sg<|av E rfl λa E=>aw E rfl λa E=>wp_seq<|wp_block<|sg<|mv E rfl λa E=>bd hF λr1 e2 hF=>lc E qtw rfl (qik N a_0 ra_0 e2 hG ok) λw ok a E=>lw E (qa9 rfl) λa E=>mv E rfl λa E=>bu E 10 hF (λc3 hF E=>?_) λc3 hF E=>?_
 ·refine lsq E λa E=>ls E λa E=>pt E rfl rfl λa E=>aw E rfl λa E=>c_if E rfl (λ_=>?_) (λh=>by cases h)
  refine sg<|av E rfl λa E=>aw E rfl λa E=>wp_ret<|qaA<|qak ?_
  exact fin hF ⟨ok,E.d,⟨rv_t E rfl,rv_t E rfl,trivial⟩,(ir 0)⟩
 refine mv E rfl λa E=>bd hF λr4 e5 hF=>lc E qtw rfl (qik N b_1 rb_1 e5 hG ok) λw ok a E=>lw E (qa9 rfl) λa E=>pf E rfl rfl λa E=>aw E rfl λa E=>cf E rfl hF (λc6 hF=>?_) λc6 hF=>?_
 ·refine sg<|av E rfl λa E=>aw E rfl λa E=>wp_ret<|qaA<|qak ?_
  exact fin hF ⟨ok,E.d,⟨rv_t E rfl,rv_t E rfl,trivial⟩,(ir 0)⟩
 refine sg<|mz E rfl rfl λa E=>lw E (qaz rfl rfl) λa E=>aw E rfl λa E=>cf E rfl hF (λc7 hF=>?_) λc7 hF=>?_
 ·refine sg<|mv E rfl λa E=>av E rfl λa E=>aw E rfl λa E=>wp_ret<|qaA<|qak ?_
  exact fin hF ⟨ok,E.d,⟨rv_t E rfl,rv_t E rfl,trivial⟩,ra_0⟩
 refine sg<|mv E rfl λa E=>lw E (qaz rfl rfl) λa E=>mv E rfl λa E=>bw E 23 hF (λc8 hF E=>?_) λc8 hF E=>?_
 ·refine lsq E λa E=>pf E rfl rfl λa E=>aw E rfl λa E=>c_if E rfl (λh=>by cases h) (λ_=>?_)
  refine sg<|mv E rfl λa E=>lw E (qaz rfl rfl) λa E=>mv E rfl λa E=>bw E 31 hF (λc12 hF E=>?_) λc12 hF E=>?_
  ·refine lsq E λa E=>pf E rfl rfl λa E=>aw E rfl λa E=>c_if E rfl (λh=>by cases h) (λ_=>?_)
   refine wp_skip<|qal<|qaa<|sg<|av E rfl λa E=>av E rfl λa E=>wn<|wp_ret ?_
   exact fin hF ⟨ok,E.d,⟨rv_t E rfl,rv_t E rfl,trivial⟩,(ir 0)⟩
  refine mv E rfl λa E=>lw E (qbg rfl rfl) λa E=>pt E rfl rfl λa E=>aw E rfl λa E=>cf E rfl hF (λc13 hF=>?_) λc13 hF=>?_
  ·refine sg<|mv E rfl λa E=>av E rfl λa E=>aw E rfl λa E=>wp_ret<|qaA<|qak ?_
   exact fin hF ⟨ok,E.d,⟨rv_t E rfl,rv_t E rfl,trivial⟩,ra_0⟩
  refine wp_skip<|qal<|qaa<|sg<|av E rfl λa E=>av E rfl λa E=>wn<|wp_ret ?_
  exact fin hF ⟨ok,E.d,⟨rv_t E rfl,rv_t E rfl,trivial⟩,(ir 0)⟩
 refine mv E rfl λa E=>lw E (qbg rfl rfl) λa E=>pt E rfl rfl λa E=>aw E rfl λa E=>cf E rfl hF (λc9 hF=>?_) λc9 hF=>?_
 ·refine sg<|mv E rfl λa E=>av E rfl λa E=>aw E rfl λa E=>wp_ret<|qaA<|qak ?_
  exact fin hF ⟨ok,E.d,⟨rv_t E rfl,rv_t E rfl,trivial⟩,rb_1⟩
 refine sg<|mv E rfl λa E=>lw E (qaz rfl rfl) λa E=>mv E rfl λa E=>bw E 31 hF (λc10 hF E=>?_) λc10 hF E=>?_
 ·refine lsq E λa E=>pf E rfl rfl λa E=>aw E rfl λa E=>c_if E rfl (λh=>by cases h) (λ_=>?_)
  refine wp_skip<|qal<|qaa<|sg<|av E rfl λa E=>av E rfl λa E=>wn<|wp_ret ?_
  exact fin hF ⟨ok,E.d,⟨rv_t E rfl,rv_t E rfl,trivial⟩,(ir 0)⟩
 refine mv E rfl λa E=>lw E (qbg rfl rfl) λa E=>pt E rfl rfl λa E=>aw E rfl λa E=>cf E rfl hF (λc11 hF=>?_) λc11 hF=>?_
 ·refine sg<|mv E rfl λa E=>av E rfl λa E=>aw E rfl λa E=>wp_ret<|qaA<|qak ?_
  exact fin hF ⟨ok,E.d,⟨rv_t E rfl,rv_t E rfl,trivial⟩,ra_0⟩
 refine wp_skip<|qal<|qaa<|sg<|av E rfl λa E=>av E rfl λa E=>wn<|wp_ret ?_
 exact fin hF ⟨ok,E.d,⟨rv_t E rfl,rv_t E rfl,trivial⟩,(ir 0)⟩
def qks(u:World)(m0:Mem)(S:Segs)(pb0:Nat)(x0:Table)(c1:Value)(M2:List (Nat×Obj))(r:Table)(a:Act)(w:World):Prop:=
 ∃ m1 c4 M5,m0.le m1∧Ok u m1 ([(pb0,oc 77 [c4,vb r.wrong])]::M5::S) w∧a.defers=[]∧RVs Tryz.prog a w []∧OMap kS (oneV (pI .i64)) m1 c4 r.types M5
theorem qj8(N:Nat)(name_1:List UInt8)(lname_1:name_1.length≤LIMS)(kind_2:Int)(rkind_2:InR .i64 kind_2){pb0:Nat}{c1:Value}{M2:List (Nat×Obj)}(x0:Table)(h3:OMap kS (oneV (pI .i64)) m0 c1 x0.types M2){r:Table}(hF:qdL N name_1 kind_2 x0=some r)(hG:Glob u)(ok:Ok u m0 ([(pb0,oc 77 [c1,vb x0.wrong])]::M2::S) w) :
  Calls Tryz.prog 42 [vp pb0,vs name_1,vi kind_2].toArray w λe w'=>∃ m1 c4 M5,e=.returned (.tuple [].toArray)∧m0.le m1∧Ok u m1 ([(pb0,oc 77 [c4,vb r.wrong])]::M5::S) w'∧OMap kS (oneV (pI .i64)) m1 c4 r.types M5:=by
 have le_m0:=Mem.le.refl m0
 unfold qdL at hF
 refine en (qks u m0 S pb0 x0 c1 M2) r Tryz.func42 rfl rfl rfl (by rintro a w ⟨m1,c4,M5,hle,ok,hd,hrv,h0⟩;exact qbf [] hd rfl hrv ⟨m1,c4,M5,rfl,hle,ok,h0⟩) λfin a E=>sg<|mv E rfl λa E=>lw E (qan rfl) λa E=>fk E ok qj2 qhR rfl 0 rfl rfl λa E=>mv E rfl λa E=>?_
 obtain⟨xv7,h8,yy9,yy10⟩:=qfC (P:=Tryz.prog) (mo:=.tmp 14) (ko:=.tmp 15) (zx:=(0:Int)) ok 1 (qbe Tryz.underlying9) Tryz.underlying75 h3 rfl (qaD E rfl) (qaD E rfl) ⟨rfl,lname_1⟩ qjX (qdY (ir 0))
 obtain⟨rfl,r11⟩:=qly h8
 refine lv E ok (yy10 _) λa E=>mv E rfl λa E=>lw E (qag rfl rfl) λa E=>lw E (qag rfl rfl) λa E=>av E rfl λa E=>aw E rfl λa E=>wp_seq<|sg<|mv E rfl λa E=>lw E (qa9 rfl) λa E=>wn<|cf E rfl hF (λc12 hF=>?_) λc12 hF=>?_
 ·refine sg<|mv E rfl λa E=>lw E (qan rfl) λa E=>fk E ok qj2 qhR rfl 0 rfl rfl λa E=>mz E rfl rfl λa E=>bd hF λl13 e14 hF=>qd8 (.inl rfl) E ok 1 (qbe Tryz.underlying9) Tryz.underlying75 h3 rfl rfl rfl rfl ⟨rfl,lname_1⟩ (qdY rkind_2) e14 rfl λM15 w ok h16=>wn<|wp_ret<|qak ?_
  exact fin hF ⟨m0,c1,M15,le_m0,ok,E.d,trivial,h16⟩
 refine wp_skip<|qaa<|sg<|mz E rfl rfl λa E=>bd hF λr17 e18 hF=>qae E qwk rfl (qlT N ((mget x0.types name_1).getD 0) r11 kind_2 rkind_2 e18 hG ok) rfl rfl ?_
 rintro _ w ⟨⟨rfl,ok⟩,r19⟩
 refine⟨_,rfl,λa E=>?_⟩
 refine mv E rfl λa E=>lw E (qag rfl rfl) λa E=>lw E (qag rfl rfl) λa E=>av E rfl λa E=>aw E rfl λa E=>sg<|mv E rfl λa E=>lw E (qan rfl) λa E=>fk E ok qj2 qhR rfl 0 rfl rfl λa E=>mz E rfl rfl λa E=>?_
 refine bd hF λl20 e21 hF=>qd8 (.inl rfl) E ok 1 (qbe Tryz.underlying9) Tryz.underlying75 h3 rfl rfl rfl rfl ⟨rfl,lname_1⟩ (qdY r19) e21 rfl λM22 w ok h23=>wn<|qab<|mz E rfl rfl λa E=>lw E (qan rfl) λa E=>fv E qmb rfl λa E=>ld E ok qoN 0 rfl rfl rfl λa E=>mv E rfl λa E=>qbx x0.wrong (λc24=>?_) (λc24=>?_)
 ·have hF:=qbz c24 hF
  have E:=E.upd 44 c24 rfl
  refine lsq E λa E=>pt E rfl rfl λa E=>lw E (qan rfl) λa E=>fv E qmb rfl λa E=>qai E ok 0 rfl rfl rfl qtt rfl rfl ⟨rfl,trivial⟩ rfl rfl λw ok=>wpList_nil ?_
  exact fin hF ⟨m0,c1,M22,le_m0,ok,E.d,trivial,h23⟩
 have hF:=qby c24 hF
 have E:=E.upd 44 c24 rfl
 refine mv E rfl λa E=>lw E (qa9 rfl) λa E=>pf E rfl rfl λa E=>lw E (qan rfl) λa E=>fv E qmb rfl λa E=>qai E ok 0 rfl rfl rfl qtt rfl rfl ⟨rfl,trivial⟩ rfl rfl λw ok=>wpList_nil ?_
 exact fin hF ⟨m0,c1,M22,le_m0,ok,E.d,trivial,h23⟩
def qjQ(u:World)(m0:Mem)(S:Segs)(pb0:Nat)(x0:Table)(c1:Value)(M2:List (Nat×Obj))(r:Table)(a:Act)(w:World):Prop:=
 ∃ m1 c4 M5,m0.le m1∧Ok u m1 ([(pb0,oc 77 [c4,vb r.wrong])]::M5::S) w∧a.defers=[]∧RVs Tryz.prog a w []∧OMap kS (oneV (pI .i64)) m1 c4 r.types M5
def qes(N:Nat):Prop:=∀ {u:World} {m0:Mem} {S:Segs} {w:World} (vparts_1:Value) (parts_1:List (Part)) (hparts_1:(pL 6 qaS) m0 [vparts_1] parts_1) {pb0:Nat} {c1:Value} {M2:List (Nat×Obj)} (x0:Table) (h3:OMap kS (oneV (pI .i64)) m0 c1 x0.types M2) {r:Table} (hF:qck N parts_1 x0=some r) (hG:Glob u) (ok:Ok u m0 ([(pb0,oc 77 [c1,vb x0.wrong])]::M2::S) w),Calls Tryz.prog 22 [vp pb0,vparts_1].toArray w λe w'=>∃ m1 c4 M5,e=.returned (.tuple [].toArray)∧m0.le m1∧Ok u m1 ([(pb0,oc 77 [c4,vb r.wrong])]::M5::S) w'∧OMap kS (oneV (pI .i64)) m1 c4 r.types M5
theorem qiB(N:Nat)(ih_signature_table_walk:qes N):qes (N+1):=by
 intro u m0 S w vparts_1 parts_1 hparts_1 pb0 c1 M2 x0 h3 r hF hG ok
 have le_m0:=Mem.le.refl m0
 have hF0:qdr (qck N) N parts_1 x0=some r:=hF
 have hF:=hF0
 clear hF0
 unfold qdr at hF
 refine en (qjQ u m0 S pb0 x0 c1 M2) r Tryz.func22 rfl rfl rfl (by rintro a w ⟨m1,c4,M5,hle,ok,hd,hrv,h0⟩;exact qbf [] hd rfl hrv ⟨m1,c4,M5,rfl,hle,ok,h0⟩) λfin a E=>sg<|mv E rfl λa E=>lv E ok (qa8 qbG hparts_1 rfl) λa E=>mv E rfl λa E=>wn<|wp_block<|bd hF λo12 hL hF=>qbb _ (λ(s:Int×Table) a w=>∃ m13 c15 M16,m0.le m13∧Ok u m13 ([(pb0,oc 77 [c15,vb s.2.wrong])]::M16::S) w∧Env 45 a [(0,vp pb0),(10,vparts_1),(11,(vi (parts_1.length:Int))),(12,vi s.1)]∧InR .i64 s.1∧OMap kS (oneV (pI .i64)) m13 c15 s.2.types M16) (λ(b:Table) e a w=>e=(.exit 0)∧∃ m119 c120 M121,m0.le m119∧Ok u m119 ([(pb0,oc 77 [c120,vb b.wrong])]::M121::S) w∧Env 45 a []∧OMap kS (oneV (pI .i64)) m119 c120 b.types M121) ?_ ?_ N _ a w hL ⟨m0,c1,M2,Mem.le.refl _,ok,E.keep [0,10,11,12],(ir 0),h3⟩
 rotate_left
 ·intro e a w _ hO
  obtain⟨rfl,m115,c116,M117,hle,ok,E,h118⟩:=hO
  have le_m0:=le_m0.trans hle
  have hparts_1:=(mL qah).up hle hparts_1
  refine qbh ?_
  exact fin hF ⟨m115,c116,M117,le_m0,ok,E.d,trivial,h118⟩
 rintro⟨v18,v19⟩ a w r ⟨m20,c22,M23,hle,ok,E,r21,h24⟩ hF
 replace hF:qc3 (qck N) N parts_1 v18 v19=some r:=hF
 unfold qc3 at hF
 have le_m0:=le_m0.trans hle
 have hparts_1:=(mL qah).up hle hparts_1
 refine sg<|lw E (qaP rfl rfl) λa E=>wn<|wp_seq<|cg E rfl hF (λc25 hF=>?_) λc25 hF=>?_
 ·refine wp_exit<|qaM ?_
  cases hF
  exact so (⟨rfl,⟨m20,c22,M23,le_m0,ok,E.keep [],h24⟩⟩)
 refine wp_skip<|qaa<|wp_seq<|wp_block<|sg ?_
 obtain⟨x26,e27,hF⟩:=bnd hF
 obtain⟨b28,o29,es30,hl31,rr32,at33,yy34⟩:=ia E 10 12 qbG hparts_1 e27
 obtain⟨c39,c41,rfl,r35,l36,l37,l38,h40,h42⟩:=(qbd.1 rr32)
 refine lv E ok (yy34 _ _) λa E=>lv E ok (qao (cs:=[vi x26.Kind,vs x26.Text,vs x26.Name,vs x26.Style,c39,c41]) qct rfl rfl (Holds.ro at33)) λa E=>qaL E ok qbw rfl rfl λb43 a w E ok=>qai E ok 0 rfl rfl rfl qel rfl rfl ⟨rfl,rfl,rfl,rfl,(qbT h40),(qbT h42),trivial⟩ rfl rfl λw ok=>wn<|wp_seq<|sg<|fk E ok qbm qaN rfl 0 rfl rfl λa E=>bd hF λr44 e45 hF=>qae E qvx rfl (qnu N x26.Kind r35 e45 hG ok) rfl rfl ?_
 rintro _ w ⟨⟨rfl,ok⟩,r46⟩
 refine⟨_,rfl,λa E=>?_⟩
 refine mv E rfl λa E=>lw E (qag rfl rfl) λa E=>lw E (qag rfl rfl) λa E=>av E rfl λa E=>aw E rfl λa E=>sg<|mv E rfl λa E=>wn<|bd hF λo47 hJ hF=>qaO (Q':=λe a w=>e=.normal∧∃ m48 c49 M50,m20.le m48∧Ok u m48 ([(b43,oc 90 [vi x26.Kind,vs x26.Text,vs x26.Name,vs x26.Style,c39,c41])]::[(pb0,oc 77 [c49,vb o47.wrong])]::M50::S) w∧Env 45 a [(0,vp pb0),(5,vp b43),(10,vparts_1),(11,(vi (parts_1.length:Int))),(12,vi v18)]∧OMap kS (oneV (pI .i64)) m48 c49 o47.types M50) ?_ ?_
 ·have hF:=hJ
  have le_m20:=Mem.le.refl m20
  refine cg E rfl hF (λc52 hF=>?_) λc52 hF=>?_
  ·refine wp_skip ?_
   cases hF
   exact⟨rfl,⟨m20,c22,M23,le_m20,ok,E.keep [0,5,10,11,12],h24⟩⟩
  refine qab<|mv E rfl λa E=>fk E ok qbC qax rfl 0 rfl rfl λa E=>mv E rfl λa E=>?_
  obtain⟨r53,e54,hF⟩:=bnd hF
  replace ok:Ok u m20 ([(pb0,oc 77 [c22,vb v19.wrong])]::M23::[(b43,oc 90 [vi x26.Kind,vs x26.Text,vs x26.Name,vs x26.Style,c39,c41])]::S) w:=(ok.pk 3 [1,2,0] rfl (by decide))
  refine qae E qvT rfl (qj8 N x26.Name l37 r44.1 r46 v19 h24 e54 hG ok) rfl rfl ?_
  rintro _ w ⟨m55,c56,M57,rfl,hle,ok,h58⟩
  have le_m0:=le_m0.trans hle
  have le_m20:=le_m20.trans hle
  have hparts_1:=(mL qah).up hle hparts_1
  have h40:=(mL qaE).up hle h40
  have h42:=(mL qah).up hle h42
  have at33:=At.up hle at33
  refine⟨_,rfl,λa E=>?_⟩
  refine wpList_nil ?_
  cases hF
  exact⟨rfl,⟨m55,c56,M57,le_m20,(ok.pk 3 [2,0,1] rfl (by decide)),E.keep [0,5,10,11,12],h58⟩⟩
 intro e a w hO
 obtain⟨rfl,m59,c60,M61,hle,ok,E,h62⟩:=hO
 have le_m0:=le_m0.trans hle
 have hparts_1:=(mL qah).up hle hparts_1
 have h40:=(mL qaE).up hle h40
 have h42:=(mL qah).up hle h42
 have at33:=At.up hle at33
 refine qaa<|wp_seq<|sg<|fk E ok qdN qfx rfl 0 rfl rfl λa E=>lv E ok (qa8 qch h40 rfl) λa E=>mv E rfl λa E=>wn<|wp_block<|bd hF λo68 hL hF=>qbb _ (λ(s:Int×Table) a w=>∃ m69 c71 M72,m59.le m69∧Ok u m69 ([(b43,oc 90 [vi x26.Kind,vs x26.Text,vs x26.Name,vs x26.Style,c39,c41])]::[(pb0,oc 77 [c71,vb s.2.wrong])]::M72::S) w∧Env 45 a [(0,vp pb0),(5,vp b43),(10,vparts_1),(11,(vi (parts_1.length:Int))),(12,vi v18),(29,c39),(30,(vi (x26.Cases.length:Int))),(31,vi s.1)]∧InR .i64 s.1∧OMap kS (oneV (pI .i64)) m69 c71 s.2.types M72) (λ(b:Table) e a w=>e=(.exit 2)∧∃ m111 c112 M113,m59.le m111∧Ok u m111 ([(b43,oc 90 [vi x26.Kind,vs x26.Text,vs x26.Name,vs x26.Style,c39,c41])]::[(pb0,oc 77 [c112,vb b.wrong])]::M113::S) w∧Env 45 a [(0,vp pb0),(5,vp b43),(10,vparts_1),(11,(vi (parts_1.length:Int))),(12,vi v18)]∧OMap kS (oneV (pI .i64)) m111 c112 b.types M113) ?_ ?_ N _ a w hL ⟨m59,c60,M61,Mem.le.refl _,ok,E.keep [0,5,10,11,12,29,30,31],(ir 0),h62⟩
 rotate_left
 ·intro e a w _ hO
  obtain⟨rfl,m101,c102,M103,hle,ok,E,h104⟩:=hO
  have le_m0:=le_m0.trans hle
  have hparts_1:=(mL qah).up hle hparts_1
  have h40:=(mL qaE).up hle h40
  have h42:=(mL qah).up hle h42
  have at33:=At.up hle at33
  refine qbh<|qaa<|qab<|mv E rfl λa E=>fk E ok qc1 qcr rfl 0 rfl rfl λa E=>?_
  obtain⟨r105,e106,hF⟩:=bnd hF
  replace ok:Ok u m101 ([(pb0,oc 77 [c102,vb o68.wrong])]::M103::[(b43,oc 90 [vi x26.Kind,vs x26.Text,vs x26.Name,vs x26.Style,c39,c41])]::S) w:=(ok.pk 3 [1,2,0] rfl (by decide))
  refine qae E qqG rfl (ih_signature_table_walk _ x26.Parts h42 o68 h104 e106 hG ok) rfl rfl ?_
  rintro _ w ⟨m107,c108,M109,rfl,hle,ok,h110⟩
  have le_m0:=le_m0.trans hle
  have hparts_1:=(mL qah).up hle hparts_1
  have h40:=(mL qaE).up hle h40
  have h42:=(mL qah).up hle h42
  have at33:=At.up hle at33
  refine⟨_,rfl,λa E=>?_⟩
  refine wpList_nil<|qal<|qaa<|qab<|lw E (qaH rfl rfl (InR.inc r21 (qas hparts_1) c25)) λa E=>mv E rfl λa E=>wpList_nil ?_
  cases hF
  exact qau ⟨m107,c108,M109,le_m0,(ok.pk 3 [0,1] rfl (by decide)),E.keep [0,10,11,12],(InR.inc r21 (qas hparts_1) c25),h110⟩
 rintro⟨v74,v75⟩ a w r ⟨m76,c78,M79,hle,ok,E,r77,h80⟩ hF
 replace hF:qcA (qck N) N x26 v74 v75=some r:=hF
 unfold qcA at hF
 have le_m59:=Mem.le.refl m59
 have le_m0:=le_m0.trans hle
 have le_m59:=le_m59.trans hle
 have hparts_1:=(mL qah).up hle hparts_1
 have h40:=(mL qaE).up hle h40
 have h42:=(mL qah).up hle h42
 have at33:=At.up hle at33
 refine sg<|lw E (qaP rfl rfl) λa E=>wn<|wp_seq<|cg E rfl hF (λc81 hF=>?_) λc81 hF=>?_
 ·refine wp_exit<|qaM ?_
  cases hF
  exact so (⟨rfl,⟨m76,c78,M79,le_m59,ok,E.keep [0,5,10,11,12],h80⟩⟩)
 refine wp_skip<|qaa<|wp_seq<|wp_block<|sg ?_
 obtain⟨x82,e83,hF⟩:=bnd hF
 obtain⟨b84,o85,es86,hl87,rr88,at89,yy90⟩:=ia E 29 31 qch h40 e83
 obtain⟨c92,rfl,l91,h93⟩:=rr88
 refine lv E ok (yy90 _ _) λa E=>lv E ok (qao (cs:=[vs x82.Key,c92]) qfE rfl rfl (Holds.ro at89)) λa E=>qaL E ok qb0 rfl rfl λb94 a w E ok=>qai E ok 0 rfl rfl rfl qgc rfl rfl ⟨rfl,(qbT h93),trivial⟩ rfl rfl λw ok=>wn<|qab<|mv E rfl λa E=>fk E ok qeL qcr rfl 0 rfl rfl λa E=>?_
 obtain⟨r95,e96,hF⟩:=bnd hF
 replace ok:Ok u m76 ([(pb0,oc 77 [c78,vb v75.wrong])]::M79::[(b94,oc 93 [vs x82.Key,c92])]::[(b43,oc 90 [vi x26.Kind,vs x26.Text,vs x26.Name,vs x26.Style,c39,c41])]::S) w:=(ok.pk 4 [2,3,0,1] rfl (by decide))
 refine qae E qqG rfl (ih_signature_table_walk _ x82.Parts h93 v75 h80 e96 hG ok) rfl rfl ?_
 rintro _ w ⟨m97,c98,M99,rfl,hle,ok,h100⟩
 have le_m0:=le_m0.trans hle
 have le_m59:=le_m59.trans hle
 have hparts_1:=(mL qah).up hle hparts_1
 have h40:=(mL qaE).up hle h40
 have h42:=(mL qah).up hle h42
 have at33:=At.up hle at33
 have h93:=(mL qah).up hle h93
 have at89:=At.up hle at89
 refine⟨_,rfl,λa E=>?_⟩
 refine wpList_nil<|qal<|qaa<|qab<|lw E (qaH rfl rfl (InR.inc r77 (qas h40) c81)) λa E=>mv E rfl λa E=>wpList_nil ?_
 cases hF
 exact qau ⟨m97,c98,M99,le_m59,(ok.pk 4 [3,0,1] rfl (by decide)),E.keep [0,5,10,11,12,29,30,31],(InR.inc r77 (qas h40) c81),h100⟩
theorem qiG:qes 0:=by
 intro u m0 S w vparts_1 parts_1 hparts_1 pb0 c1 M2 x0 h3 r hF hG ok
 replace hF:none=some r:=hF
 cases hF
theorem qhA(N:Nat):qes N:=by
 induction N with
 | zero=>exact qiG
 | succ N h=>exact qiB N h
theorem qjR{u:World}{m0:Mem}{S:Segs}{w:World}(N:Nat)(vparts_1:Value)(parts_1:List (Part))(hparts_1:(pL 6 qaS) m0 [vparts_1] parts_1){pb0:Nat}{c1:Value}{M2:List (Nat×Obj)}(x0:Table)(h3:OMap kS (oneV (pI .i64)) m0 c1 x0.types M2){r:Table}(hF:qck N parts_1 x0=some r)(hG:Glob u)(ok:Ok u m0 ([(pb0,oc 77 [c1,vb x0.wrong])]::M2::S) w) :
 Calls Tryz.prog 22 [vp pb0,vparts_1].toArray w λe w'=>∃ m1 c4 M5,e=.returned (.tuple [].toArray)∧m0.le m1∧Ok u m1 ([(pb0,oc 77 [c4,vb r.wrong])]::M5::S) w'∧OMap kS (oneV (pI .i64)) m1 c4 r.types M5:=(qhA N) vparts_1 parts_1 hparts_1 x0 h3 hF hG ok
section
open Go.Proofs Go.Sort Go.Maps Go.MapKept Go.RowKit
variable {V:Type} {R:Mem→Value→V→Prop} {m:Mem} {v:Value} {l:List (List UInt8×V)} {Mx:List (Nat×Obj)} {S:Segs} {u w:World}
theorem qpZ(h:OMap kS R m v l Mx):Calls Tryz.prog 44 [v].toArray w λe w'=>e=.returned (.func (.func 69) #[] #[.pointer (some ⟨w.heap.size,0,none⟩)])∧w'=w.alloc (.cells #[v] 75):=by
 obtain⟨b,es,clock,rfl,_⟩:=h
 exact callsIn_wide.1 (Tryz.maps_Keys_44 (some b) w)
def qgT:Value→Option (DataW Unit×List MemPlace):=λ_=>some (.nil,[])
theorem qjA:∀ {es:List MapEntry} {l:List (List UInt8×V)},EnOK kS R m es l→∀ x∈es,∃ k:List UInt8,k∈l.map (·.1)∧x.key=.string (bs k)∧k.length≤LIMS
 | [],[],_,_,hx=>by cases hx
 | e::es,p::l,h,x,hx=>by
  rcases List.mem_cons.1 hx with rfl | hx
  ·exact⟨p.1,by simp,h.1.1,h.1.2⟩
  ·obtain⟨k,h1,h2⟩:=qjA h.2.2 x hx
   exact⟨k,by simp only[List.map_cons,List.mem_cons];exact .inr h1,h2⟩
 | [],_::_,h,_,_=>h.elim
 | _::_,[],h,_,_=>h.elim
theorem qlQ:∀ {es:List MapEntry} {l:List (List UInt8×V)},EnOK kS R m es l→(es.map (Go.WideElems.rg Tryz.prog 9 qgT)).map (λp=>strOf p.1)=l.map (·.1)
 | [],[],_=>rfl
 | e::es,p::l,h=>by
  have h1:keyOf Tryz.prog 9 e.key=some (.string p.1):=by
   rw[h.1.1]
   have hl:(bs p.1).size≤maxLen:=by rw[qhc];have:=h.1.2;unfold LIMS at this;unfold maxLen;omega
   have h3:(bs p.1).data.toList=p.1:=rfl
   simp[keyOf,Tryz.underlying9,mapKey,hl,h3]
  have h2:Go.WideElems.rg Tryz.prog 9 qgT e=(.string p.1,.nil):=by simp[Go.WideElems.rg,Go.WideElems.rd,h1,qgT]
  simp only[List.map_cons,h2,qlQ h.2.2]
  rfl
 | [],_::_,h=>h.elim
 | _::_,[],h=>h.elim
theorem qmm{H:Type}(x:Lit×DataW H):∀ r:List (Lit×DataW H),(DataW.insert x r).Perm (x::r)
 | []=>List.Perm.refl _
 | y::r=>by
  unfold DataW.insert
  split
  ·exact List.Perm.refl _
  ·exact((qmm x r).cons y).trans (List.Perm.swap x y r)
theorem qkS{H:Type}:∀ r:List (Lit×DataW H),(r.foldr DataW.insert []).Perm r
 | []=>List.Perm.refl _
 | x::r=>(qmm x _).trans ((qkS r).cons x)
theorem qne:∀ {es:List MapEntry} {l:List (List UInt8×V)},EnOK kS R m es l→l.Pairwise (λp q=>p.1≠q.1)→(es.map (·.key)).Nodup
 | [],[],_,_=>List.nodup_nil
 | e::es,p::l,h,hd=>by
  obtain⟨h1,h2⟩:=List.pairwise_cons.1 hd
  rw[List.map_cons]
  refine List.nodup_cons.2 ⟨λhc=>?_,qne h.2.2 h2⟩
  obtain⟨x,hx,he⟩:=List.mem_map.1 hc
  obtain⟨k,hk,e1,_⟩:=qjA h.2.2 x hx
  obtain⟨q,hq,rfl⟩:=List.mem_map.1 hk
  rw[h.1.1,e1] at he
  have:bs q.1=bs p.1:=by simpa using he
  have h5:=congrArg ByteArray.toList this
  rw[qg5,qg5] at h5
  exact h1 q hq h5.symm
 | [],_::_,h,_=>h.elim
 | _::_,[],h,_=>h.elim
theorem qmU{ys:List (List UInt8)}(i:Nat)(hS:S[i]? = some Mx)(h:OMap kS R m v l Mx)(hy:ql6 l=some ys)(ok:Ok u m S w) :
  Calls Tryz.prog 43 [Value.func (.func 69) #[] #[.pointer (some ⟨w.heap.size,0,none⟩)]].toArray (w.alloc (.cells #[v] 75)) λe w'=>∃ v' M,e=.returned v'∧ORow 9 1 pS m v' ys M∧Ok u m (M::S) w':=by
 obtain⟨b,es,clock,rfl,rfl,hE,hlim,hd,hB⟩:=h
 unfold ql6 at hy
 split at hy
 rotate_left
 ·cases hy
 rename_i hbig
 obtain rfl:=Option.some.inj hy
 have hb:w.heap[b]? = some (.map es.toArray clock):=(ok.own (b,.map es.toArray clock) (qd6 (k:=i) (by simp[qdf,hS]))).1
 have hrd:∀ x∈es,∃ y,Go.WideElems.rd Tryz.prog 9 qgT x=some y:=by
  intro x hx
  obtain⟨k,_,e1,e2⟩:=qjA hE x hx
  have hl:(bs k).size≤maxLen:=by rw[qhc];unfold LIMS at e2;unfold maxLen;omega
  exact⟨(.string k,.nil),by
   have h3:(bs k).data.toList=k:=rfl
   simp[Go.WideElems.rd,keyOf,Tryz.underlying9,mapKey,e1,hl,h3,qgT]⟩
 have hel:es.length=l.length:=hE.len
 have hF:Go.WideElems.Fit Tryz.prog 9 qgT es.toArray clock:=⟨by simp;unfold maxLen;omega,⟨by simpa using hB.1,by simpa using hB.2,by simpa using qne hE hd⟩,λx hx=>hrd x (by simpa using hx)⟩
 have hown:w.ownsMap Tryz.prog 9 qgT b es.length (.map ((es.map (Go.WideElems.rg Tryz.prog 9 qgT)).foldr DataW.insert [])):=⟨es.toArray,clock,hb,hF,by simp,by simp⟩
 have hsz:Maps.size (DataW.map ((es.map (Go.WideElems.rg Tryz.prog 9 qgT)).foldr DataW.insert []))=l.length:=by
  rw[Maps.size_eq,(qkS _).length_eq,List.length_map,hel]
 have hk:=Tryz.slices_Sorted_keys_43_44 b es.length _ qgT w hown (by rw[hsz];unfold maxLen;omega) (by rw[hsz];exact hbig)
 refine(callsIn_wide.1 hk).mono ?_
 rintro e w' ⟨v',ss,rfl,hp,ho,_,hbl⟩
 have hperm:ss.Perm (l.map (·.1)):=by
  refine hp.trans ?_
  show(((es.map (Go.WideElems.rg Tryz.prog 9 qgT)).foldr DataW.insert []).map λp=>strOf p.1).Perm _
  rw[← qlQ hE]
  exact(qkS _).map _
 have hms:ss.mergeSort (λx y=>decide (x≤y))=(l.map (·.1)).mergeSort (λx y=>decide (x≤y)):=mergeSort_of_perm hperm
 rw[hms] at ho
 have hlen:ss.length=((l.map (·.1)).mergeSort (λx y=>decide (x≤y))).length:=by rw[List.length_mergeSort,hperm.length_eq]
 rw[hlen] at ho
 have ok2:Ok u m S (w.alloc (.cells #[.map (some b)] 75)):=(ok.alloc _).drop
 have hbe:∀ x∈l.map (·.1),x.length≤LIMS:=by
  intro x hx
  rw[← qlQ hE,List.map_map] at hx
  obtain⟨y,hy,rfl⟩:=List.mem_map.1 hx
  obtain⟨k,_,e1,e2⟩:=qjA hE y hy
  have hl:(bs k).size≤maxLen:=by rw[qhc];unfold LIMS at e2;unfold maxLen;omega
  have h3:(bs k).data.toList=k:=rfl
  simpa [Go.WideElems.rg,Go.WideElems.rd,keyOf,Tryz.underlying9,mapKey,e1,hl,h3,qgT,strOf] using e2
 obtain⟨M,h1,h2⟩:=ORow.ofOwns ok2 (λx hx=>hbe x ((List.mergeSort_perm _ _).mem_iff.1 hx)) (by rw[List.length_mergeSort,List.length_map];unfold LIM at hlim;unfold LIMS;omega) ho hbl
 exact⟨v',M,rfl,h1,h2⟩
end
def qjL(u:World)(m0:Mem)(S:Segs)(pb0:Nat)(x0:Table)(c1:Value)(M2:List (Nat×Obj))(r:(List (Arg)))(a:Act)(w:World):Prop:=
 ∃ m1 v0,m0.le m1∧Ok u m1 ([(pb0,oc 77 [c1,vb x0.wrong])]::M2::S) w∧a.defers=[]∧RVs Tryz.prog a w [.t 2 v0]∧(pL 2 pArg) m1 [v0] r
theorem qjT(N:Nat){pb0:Nat}{c1:Value}{M2:List (Nat×Obj)}(x0:Table)(h3:OMap kS (oneV (pI .i64)) m0 c1 x0.types M2){r:(List (Arg))}(hF:qeX N x0=some r)(hG:Glob u)(ok:Ok u m0 ([(pb0,oc 77 [c1,vb x0.wrong])]::M2::S) w) :
  Calls Tryz.prog 23 [vp pb0].toArray w λe w'=>∃ m1 v0,e=.returned v0∧m0.le m1∧Ok u m1 ([(pb0,oc 77 [c1,vb x0.wrong])]::M2::S) w'∧(pL 2 pArg) m1 [v0] r:=by
 have le_m0:=Mem.le.refl m0
 unfold qeX at hF
 refine en (qjL u m0 S pb0 x0 c1 M2) r Tryz.func23 rfl rfl rfl (λ_ _ h=>rc h λ_=>rfl) λfin a E=>sg<|aw E rfl λa E=>sg<|aw E rfl λa E=>wp_seq<|sg<|mv E rfl λa E=>lw E (qan rfl) λa E=>fk E ok qj2 qhR rfl 0 rfl rfl λa E=>qae E qvM rfl (qpZ h3) rfl rfl ?_
 rintro _ w1 ⟨rfl,rfl⟩
 refine⟨_,rfl,λa E=>?_⟩
 refine bd hF λl4 e5 hF=>qae E qvS rfl (qmU 1 rfl h3 e5 ok) rfl rfl ?_
 rintro _ w ⟨c6,M7,rfl,h8,ok⟩
 refine⟨_,rfl,λa E=>?_⟩
 refine lv E ok (qeB qce h8 rfl) λa E=>mv E rfl λa E=>wn<|wp_block ?_
 obtain⟨M14,ok,h15⟩:=qd9 (e:=47) (k:=2) (R:=pArg) ok
 refine bd hF λo16 hL hF=>qbb _ (λ(s:(List (Arg))×Int) a w=>∃ c17 M18,Ok u m0 (M18::M7::[(pb0,oc 77 [c1,vb x0.wrong])]::M2::S) w∧Env 30 a [(0,vp pb0),(3,c17),(11,c6),(12,(vi (l4.length:Int))),(13,vi s.2)]∧ORow 47 2 pArg m0 c17 s.1 M18∧InR .i64 s.2) (λ(b:((List (Arg)))) e a w=>e=(.exit 0)∧∃ c57 M58,Ok u m0 (M58::M7::[(pb0,oc 77 [c1,vb x0.wrong])]::M2::S) w∧Env 30 a [(3,c57)]∧ORow 47 2 pArg m0 c57 b M58) ?_ ?_ N _ a w hL ⟨(Value.slice none 0 0),M14,ok,E.keep [0,3,11,12,13],h15,(ir 0)⟩
 rotate_left
 ·intro e a w _ hO
  obtain⟨rfl,c52,M53,ok,E,h54⟩:=hO
  refine qbh<|qaa<|sg<|mv E rfl λa E=>aw E rfl λa E=>wp_ret ?_
  obtain⟨m55,hle,ok,hfz⟩:=(ok.frs 0 rfl).freeze
  have h56:=ORow.froz mArg h54 hle hfz (by decide)
  have le_m0:=le_m0.trans hle
  have h3:=OMap.up (qbc (mI .i64)) hle h3
  exact fin hF ⟨m55,c52,le_m0,ok.drop,E.d,rz E rfl,h56⟩
 rintro⟨v21,v22⟩ a w r ⟨c23,M24,ok,E,h25,r26⟩ hF
 replace hF:qcz N x0 l4 v21 v22=some r:=hF
 unfold qcz at hF
 refine sg<|lw E (qaP rfl rfl) λa E=>wn<|wp_seq<|cg E rfl hF (λc27 hF=>?_) λc27 hF=>?_
 ·refine wp_exit<|qaM ?_
  cases hF
  exact so (⟨rfl,⟨c23,M24,ok,E.keep [3],h25⟩⟩)
 refine wp_skip<|qaa<|wp_seq<|wp_block<|sg ?_
 obtain⟨x28,e29,hF⟩:=bnd hF
 obtain⟨b30,o31,hp32,yy33⟩:=qb2 qce h8 e29 (P:=Tryz.prog) (X:=.tmp 11) (I:=.tmp 13) (kd:=.i64) (qaD E rfl) (qaD E rfl)
 refine lv E ok (yy33 _ _) λa E=>?_
 obtain⟨es34,hl35,rr36,hh37⟩:=qcF h8 e29 hp32 (by decide)
 obtain⟨rfl,l38⟩:=rr36
 refine lv E ok (qaw qax rfl (hh37 _ _ _ 1 rfl)) λa E=>aw E rfl λa E=>qab<|mz E rfl rfl λa E=>mv E rfl λa E=>lw E (qan rfl) λa E=>fk E ok qj2 qhR rfl 2 rfl rfl λa E=>mv E rfl λa E=>?_
 obtain⟨xv39,h40,yy41,yy42⟩:=qfC (P:=Tryz.prog) (mo:=.tmp 22) (ko:=.tmp 23) (zx:=(0:Int)) ok 3 (qbe Tryz.underlying9) Tryz.underlying75 h3 rfl (qaD E rfl) (qaD E rfl) ⟨rfl,l38⟩ qjX (qdY (ir 0))
 obtain⟨rfl,r43⟩:=qly h40
 refine lv E ok (yy41 _) λa E=>lw E (qbY (ps:=[(0,.tmp 18),(1,.tmp 24)]) (qs:=[(0,[vs x28]),(1,[(vi ((mget x0.types x28).getD 0))])]) (cs:=[vs x28,(vi ((mget x0.types x28).getD 0))]) qfQ qrA rfl ⟨rfl,rfl,rfl,⟨rfl,rfl,rfl,trivial⟩⟩ rfl) λa E=>qbF (R:=pArg) (xo:=[.tmp 25]) (xs:=([(Arg.mk x28 ((mget x0.types x28).getD 0))]:List (Arg))) E ok qfg qfQ rfl ⟨⟨_,rfl,rfl,⟨rfl,l38,r43⟩⟩,trivial⟩ rfl rfl rfl rfl λc44 M45 a w E ok h46=>bd hF λl47 e48 hF=>qcf (R:=pArg) E ok 1 mArg qfg Tryz.underlying43 rfl h25 (qbD.ofRow h46 0 rfl ok) e48 ⟨_,qfQ,rfl⟩ rfl rfl rfl rfl λc49 M50 a w E ok h51=>av E rfl λa E=>wpList_nil<|qal<|qaa<|qab<|lw E (qaH rfl rfl (InR.inc r26 (ORow.InR h8) c27)) λa E=>mv E rfl λa E=>wpList_nil ?_
 cases hF
 exact qau ⟨c49,M50,(ok.pk 5 [1,2,3,4] rfl (by decide)),E.keep [0,3,11,12,13],h51,(InR.inc r26 (ORow.InR h8) c27)⟩
def qmk(u:World)(m0:Mem)(S:Segs)(r:(List (Arg))×Int)(a:Act)(w:World):Prop:=
 ∃ m1 v0,m0.le m1∧Ok u m1 S w∧a.defers=[]∧RVs Tryz.prog a w [.t 2 v0,.t 3 (.int .i64 r.2)]∧(pL 2 pArg) m1 [v0] r.1∧InR .i64 r.2
theorem qdl(N:Nat)(vparts_0:Value)(parts_0:List (Part))(hparts_0:(pL 6 qaS) m0 [vparts_0] parts_0){r:(List (Arg))×Int}(hF:qbZ N parts_0=some r)(hG:Glob u)(ok:Ok u m0 S w) :
  Calls Tryz.prog 12 [vparts_0].toArray w λe w'=>∃ m1 v0,e=.returned (.tuple [v0,(.int .i64 r.2)].toArray)∧m0.le m1∧Ok u m1 S w'∧(pL 2 pArg) m1 [v0] r.1∧InR .i64 r.2:=by
 have le_m0:=Mem.le.refl m0
 unfold qbZ at hF
 refine en (qmk u m0 S) r Tryz.func12 rfl rfl rfl (by rintro a w ⟨m1,v0,hle,ok,hd,hrv,h0,h1⟩;exact qbf [.t 2 v0,.t 3 (.int .i64 r.2)] hd rfl hrv ⟨m1,v0,rfl,hle,ok,h0,h1⟩) λfin a E=>sg<|av E rfl λa E=>aw E rfl λa E=>wp_seq<|sg<|mv E rfl λa E=>bd hF λr1 e2 hF=>lc E qoR rfl (qgF N _ parts_0 hparts_0 e2 hG ok) λw ok a E=>lw E (qa9 rfl) λa E=>wn<|cf E rfl hF (λc3 hF=>?_) λc3 hF=>?_
 ·refine sg<|av E rfl λa E=>aw E rfl λa E=>wp_ret<|qak ?_
  exact fin hF ⟨m0,(.slice none 0 0),le_m0,ok,E.d,⟨rv_t E rfl,rv_t E rfl,trivial⟩,qbt,(ir 1)⟩
 refine wp_skip<|qaa<|sg<|qf0 kS (oneV (pI .i64)) E ok rfl rfl λc4 M5 a w E ok h6=>lw E (qbY (ps:=[(0,.tmp 8)]) (qs:=[(0,[c4])]) (cs:=[c4,vb false]) quu qru rfl ⟨rfl,(OMap.cells h6),rfl,trivial⟩ rfl) λa E=>qgl E ok rfl rfl rfl λb7 a w E ok=>av E rfl λa E=>wn<|sg<|mz E rfl rfl λa E=>bd hF λr8 e9 hF=>qae E qqG rfl (qjR N _ parts_0 hparts_0 (Table.mk ([]:List (List UInt8×Int)) false) h6 e9 hG ok) rfl rfl ?_
 rintro _ w ⟨m10,c11,M12,rfl,hle,ok,h13⟩
 have le_m0:=le_m0.trans hle
 have hparts_0:=(mL qah).up hle hparts_0
 refine⟨_,rfl,λa E=>?_⟩
 refine wn<|wp_seq<|sg<|mv E rfl λa E=>lw E (qan rfl) λa E=>fv E qmb rfl λa E=>ld E ok qoN 0 rfl rfl rfl λa E=>wn<|cf E rfl hF (λc14 hF=>?_) λc14 hF=>?_
 ·refine sg<|av E rfl λa E=>aw E rfl λa E=>wp_ret<|qak ?_
  exact fin hF ⟨m10,(.slice none 0 0),le_m0,ok.drop.drop,E.d,⟨rv_t E rfl,rv_t E rfl,trivial⟩,qbt,(ir 11)⟩
 refine wp_skip<|qaa<|sg<|mv E rfl λa E=>bd hF λr15 e16 hF=>qae E qv3 rfl (qjT N r8 h13 e16 hG ok) rfl rfl ?_
 rintro _ w ⟨m17,c18,rfl,hle,ok,h19⟩
 have le_m0:=le_m0.trans hle
 have hparts_0:=(mL qah).up hle hparts_0
 have h13:=OMap.up (qbc (mI .i64)) hle h13
 refine⟨_,rfl,λa E=>?_⟩
 refine av E rfl λa E=>aw E rfl λa E=>wp_ret ?_
 exact fin hF ⟨m17,c18,le_m0,ok.drop.drop,E.d,⟨rv_t E rfl,rv_t E rfl,trivial⟩,h19,(ir 0)⟩
end Go.Proofs.YtkhjeeakflefjaaGreatDoor
namespace Go.Proofs.YtkhjeeakflefjaaGreatDoor
open Go.X
structure Segment where
 Source:List UInt8
 Target:List UInt8
def qfv(_N:Nat)(c_0:Int):Option Bool:=
 bif (decide (c_0≥97)) then
  bif (decide (c_0≤122)) then
   some true
  else
   bif (decide (c_0≥65)) then
    bif (decide (c_0≤90)) then
     some true
    else
     bif (decide (c_0≥48)) then
      bif (decide (c_0≤57)) then
       some true
      else
       some (decide (c_0≥128))
     else
      some (decide (c_0≥128))
   else
    bif (decide (c_0≥48)) then
     bif (decide (c_0≤57)) then
      some true
     else
      some (decide (c_0≥128))
    else
     some (decide (c_0≥128))
 else
  bif (decide (c_0≥65)) then
   bif (decide (c_0≤90)) then
    some true
   else
    bif (decide (c_0≥48)) then
     bif (decide (c_0≤57)) then
      some true
     else
      some (decide (c_0≥128))
    else
     some (decide (c_0≥128))
  else
   bif (decide (c_0≥48)) then
    bif (decide (c_0≤57)) then
     some true
    else
     some (decide (c_0≥128))
   else
    some (decide (c_0≥128))
def qcR(N:Nat)(s_0:List UInt8)(end_39:Int):Option (Int⊕Int):=
 bif (decide (end_39<(s_0.length:Int))) then
  (idx s_0 end_39).bind λc42=>
  (qfv N (c42.toNat:Int)).bind λr44=>
  bif r44 then
   some (.inl (end_39+1))
  else
   some (.inr end_39)
 else
  some (.inr end_39)
def qdk(N:Nat)(s_0:List UInt8)(out_13:List (List UInt8))(at_14:Int):Option (((List (List UInt8))×Int)⊕(((List (List UInt8))))):=
 bif (decide (at_14<(s_0.length:Int))) then
  (idx s_0 at_14).bind λc20=>
  bif ((c20.toNat:Int)==32) then
   some (.inl (out_13,(at_14+1)))
  else
   (idx s_0 at_14).bind λc23=>
   bif ((c23.toNat:Int)==9) then
    some (.inl (out_13,(at_14+1)))
   else
    (idx s_0 at_14).bind λc26=>
    bif ((c26.toNat:Int)==10) then
     some (.inl (out_13,(at_14+1)))
    else
     (idx s_0 at_14).bind λc29=>
     (qfv N (c29.toNat:Int)).bind λr31=>
     (show Option Int from
      bif r31 then
       (iter (λs=>qcR N s_0 s) N (at_14+1)).bind λo37=>
       some o37
      else
       some (at_14+1)).bind λo33=>
     (slc s_0 at_14 o33).bind λs50=>
     (app out_13 ([s50]:List (List UInt8))).bind λl55=>
     some (.inl (l55,o33))
 else
  some (.inr out_13)
def qep(N:Nat)(s_0:List UInt8):Option (List (List UInt8)):=
 (iter (λs=>qdk N s_0 s.1 s.2) N ([],0)).bind λo8=>
 some o8
def qdc(_N:Nat)(o3:((List (Int))×(List (Int))))(x_48:Int)(last_49:List (Int)):Option ((Int×(List (Int)))⊕(((List (Int))))):=
 bif (decide (x_48<(o3.1.length:Int))) then
  (idx last_49 x_48).bind λ_x55=>
  (setI last_49 x_48 x_48).bind λl61=>
  some (.inl ((x_48+1),l61))
 else
  some (.inr last_49)
def qda(_N:Nat)(b_1:List (List UInt8))(last_83:List (Int))(x94:List UInt8)(x_124:Int)(row_125:List (Int)):Option ((Int×(List (Int)))⊕(((List (Int))))):=
 bif (decide (x_124<(b_1.length:Int))) then
  (idx b_1 x_124).bind λx131=>
  (idx last_83 x_124).bind λx141=>
  (show Option Int from
   bif (x94 != x131) then
    (idx last_83 (x_124+1)).bind λx155=>
    (idx row_125 x_124).bind λx166=>
    some (IntKind.wrap .i64 ((1:Int)+(min (min x141 x155) x166)))
   else
    some x141).bind λo152=>
  (idx row_125 (x_124+1)).bind λ_x178=>
  (setI row_125 (x_124+1) o152).bind λl184=>
  some (.inl ((x_124+1),l184))
 else
  some (.inr row_125)
def qdE(N:Nat)(a_0:List (List UInt8))(b_1:List (List UInt8))(last_83:List (Int))(row_84:List (Int))(x_85:Int):Option (((List (Int))×(List (Int))×Int)⊕(((List (Int))))):=
 bif (decide (x_85<(a_0.length:Int))) then
  (idx a_0 x_85).bind λx94=>
  (idx row_84 0).bind λ_x104=>
  (setI row_84 0 (x_85+1)).bind λl110=>
  (iter (λs=>qda N b_1 last_83 x94 s.1 s.2) N (0,l110)).bind λo119=>
  some (.inl (o119,last_83,(x_85+1)))
 else
  some (.inr last_83)
def qeT(N:Nat)(a_0:List (List UInt8))(b_1:List (List UInt8)):Option Int:=
 bif (decide ((a_0.length:Int)>400)) then
  some (-1)
 else
  bif (decide ((b_1.length:Int)>400)) then
   some (-1)
  else
   (show Option ((List (Int))×(List (Int))) from
    (mk (IntKind.wrap .i64 ((b_1.length:Int)+1)) (0:Int)).bind λl10=>
    (mk (IntKind.wrap .i64 ((b_1.length:Int)+1)) (0:Int)).bind λl15=>
    some (l10,l15)).bind λo3=>
   (iter (λs=>qdc N o3 s.1 s.2) N (0,o3.1)).bind λo43=>
   (iter (λs=>qdE N a_0 b_1 s.1 s.2.1 s.2.2) N (o43,o3.2,0)).bind λo75=>
   (idx o75 (b_1.length:Int)).bind λx197=>
   some x197
def qe8(N:Nat)(a_0:List (List UInt8))(b_1:List (List UInt8)):Option Int:=
 (qeT N a_0 b_1).bind λr1=>
 bif (decide (r1<0)) then
  some (-1)
 else
  bif ((max (a_0.length:Int) (b_1.length:Int))==0) then
   some 1000
  else
   (qt .i64 (IntKind.wrap .i64 ((IntKind.wrap .i64 ((max (a_0.length:Int) (b_1.length:Int))-r1))*1000)) (max (a_0.length:Int) (b_1.length:Int))).bind λq6=>
   some q6
def qd5(_N:Nat)(m_0:List (Segment))(i_4:Int):Option (Int⊕((Unit⊕Bool))):=
 bif (decide (i_4<(m_0.length:Int))) then
  (idx m_0 i_4).bind λx7=>
  bif (decide ((x7.Source.length:Int)>200)) then
   some (.inr (.inr false))
  else
   (idx m_0 i_4).bind λx19=>
   bif (decide ((x19.Target.length:Int)>200)) then
    some (.inr (.inr false))
   else
    some (.inl (i_4+1))
 else
  some (.inr (.inl ()))
def qfw(N:Nat)(m_0:List (Segment)):Option Bool:=
 (iter (λs=>qd5 N m_0 s) N 0).bind λo2=>
 Sum.elim (λ_o2=>
  some (decide ((m_0.length:Int)≤30)))
 (λo2=>
  some o2) o2
def qd1(_N:Nat)(c_0:Int):Option Int:=
 bif (c_0==32) then
  some 0
 else
  bif (c_0==9) then
   some 0
  else
   bif (c_0==10) then
    some 0
   else
    bif (decide (c_0≥97)) then
     bif (decide (c_0≤122)) then
      some 1
     else
      bif (decide (c_0≥65)) then
       bif (decide (c_0≤90)) then
        some 1
       else
        bif (decide (c_0≥48)) then
         bif (decide (c_0≤57)) then
          some 1
         else
          bif (decide (c_0≥128)) then
           some 1
          else
           some 2
        else
         bif (decide (c_0≥128)) then
          some 1
         else
          some 2
      else
       bif (decide (c_0≥48)) then
        bif (decide (c_0≤57)) then
         some 1
        else
         bif (decide (c_0≥128)) then
          some 1
         else
          some 2
       else
        bif (decide (c_0≥128)) then
         some 1
        else
         some 2
    else
     bif (decide (c_0≥65)) then
      bif (decide (c_0≤90)) then
       some 1
      else
       bif (decide (c_0≥48)) then
        bif (decide (c_0≤57)) then
         some 1
        else
         bif (decide (c_0≥128)) then
          some 1
         else
          some 2
       else
        bif (decide (c_0≥128)) then
         some 1
        else
         some 2
     else
      bif (decide (c_0≥48)) then
       bif (decide (c_0≤57)) then
        some 1
       else
        bif (decide (c_0≥128)) then
         some 1
        else
         some 2
      else
       bif (decide (c_0≥128)) then
        some 1
       else
        some 2
def qcJ(N:Nat)(s_0:List UInt8)(from_14:Int)(to_23:Int):Option (Int⊕Int):=
 (idx s_0 from_14).bind λc25=>
 (qd1 N (c25.toNat:Int)).bind λr27=>
 bif (r27==1) then
  bif (decide (to_23<(s_0.length:Int))) then
   (idx s_0 to_23).bind λc32=>
   (qd1 N (c32.toNat:Int)).bind λr34=>
   bif (r34==1) then
    some (.inl (to_23+1))
   else
    some (.inr to_23)
  else
   some (.inr to_23)
 else
  some (.inr to_23)
def qcH(N:Nat)(s_0:List UInt8)(out_13:List (List UInt8))(from_14:Int):Option (((List (List UInt8))×Int)⊕(((List (List UInt8))))):=
 bif (decide (from_14<(s_0.length:Int))) then
  (iter (λs=>qcJ N s_0 from_14 s) N (from_14+1)).bind λo21=>
  (idx s_0 from_14).bind λc39=>
  (qd1 N (c39.toNat:Int)).bind λr41=>
  bif (r41 != 0) then
   (slc s_0 from_14 o21).bind λs45=>
   (app out_13 ([s45]:List (List UInt8))).bind λl50=>
   some (.inl (l50,o21))
  else
   some (.inl (out_13,o21))
 else
  some (.inr out_13)
def qfK(N:Nat)(s_0:List UInt8):Option (List (List UInt8)):=
 (iter (λs=>qcH N s_0 s.1 s.2) N ([],0)).bind λo8=>
 some o8
def qfc(N:Nat)(s_0:List UInt8):Option Bool:=
 bif (decide ((s_0.length:Int)>4000)) then
  some true
 else
  (qfK N s_0).bind λr2=>
  some (decide ((r2.length:Int)>400))
end Go.Proofs.YtkhjeeakflefjaaGreatDoor
namespace Go.Proofs.YtkhjeeakflefjaaGreatDoor
open Go.X
variable {u:World} {m0:Mem} {S:Segs} {w:World}
set_option maxHeartbeats 4000000
set_option maxRecDepth 100000
def qkN:Rp Segment:=λ_ cs x=>cs=[.string (bs x.Source),.string (bs x.Target)]∧x.Source.length≤LIMS∧x.Target.length≤LIMS
theorem qcj:Mono qkN:=⟨λ_ h=>by
 obtain⟨e,h0,h1⟩:=h
 exact⟨e,h0,h1⟩,λh=>by
 obtain⟨rfl,h0,h1⟩:=h
 exact⟨rfl,rfl,trivial⟩⟩
theorem qnT:qa2 Tryz.prog 31 0 0=true:=by kernel_rfl
theorem qqb:qa2 Tryz.prog 31 1 1=true:=by kernel_rfl
theorem qwh:goB Tryz.prog 15=true:=by kernel_rfl
theorem qtu:goB Tryz.prog 24=true:=by kernel_rfl
theorem qqM:goB Tryz.prog 28=true:=by kernel_rfl
theorem qvN:goB Tryz.prog 49=true:=by kernel_rfl
theorem qjr:SlT Tryz.prog 22 31 2:=SlT.of (by kernel_rfl)
theorem qet:SlT Tryz.prog 58 3 1:=SlT.of (by kernel_rfl)
theorem qgA:qcp Tryz.prog 3=some [vi 0]:=by kernel_rfl
def qnz(u:World)(m0:Mem)(S:Segs)(r:Bool)(a:Act)(w:World):Prop:=
 Ok u m0 S w∧a.defers=[]∧RVs Tryz.prog a w [.t 2 (.bool r)]
theorem qjx(N:Nat)(c_0:Int)(rc_0:InR .u8 c_0){r:Bool}(hF:qfv N c_0=some r)(hG:Glob u)(ok:Ok u m0 S w) :
  Calls Tryz.prog 24 [Value.int .u8 c_0].toArray w λe w'=>(e=.returned (.bool r)∧Ok u m0 S w'):=by
 unfold qfv at hF
 refine en (qnz u m0 S) r Tryz.func24 rfl rfl rfl (λ_ _ h=>ra h rfl) λfin a E=>sg<|aw E rfl λa E=>sg<|mv E rfl λa E=>lw E (qbL rfl rfl) λa E=>mv E rfl λa E=>bw E 5 hF (λc1 hF E=>?_) λc1 hF E=>?_
 ·as_aux_lemma=>
   refine lsq E λa E=>pf E rfl rfl λa E=>mz E rfl rfl λa E=>lw E (qbL rfl rfl) λa E=>mv E rfl λa E=>bw E 12 hF (λc9 hF E=>?_) λc9 hF E=>?_
   ·refine lsq E λa E=>pf E rfl rfl λa E=>pf E rfl rfl λa E=>mz E rfl rfl λa E=>lw E (qbL rfl rfl) λa E=>mv E rfl λa E=>bw E 20 hF (λc13 hF E=>?_) λc13 hF E=>?_
    ·refine lsq E λa E=>pf E rfl rfl λa E=>pf E rfl rfl λa E=>mz E rfl rfl λa E=>lw E (qbL rfl rfl) λa E=>pf E rfl rfl λa E=>aw E rfl λa E=>wp_ret ?_
     exact fin hF ⟨ok,E.d,rz E rfl⟩
    refine mv E rfl λa E=>lw E (qc8 rfl rfl) λa E=>pt E rfl rfl λa E=>pf E rfl rfl λa E=>mv E rfl λa E=>bu E 25 hF (λc14 hF E=>?_) λc14 hF E=>?_
    ·refine lsq E λa E=>pt E rfl rfl λa E=>aw E rfl λa E=>wp_ret ?_
     exact fin hF ⟨ok,E.d,rz E rfl⟩
    refine mv E rfl λa E=>lw E (qbL rfl rfl) λa E=>pf E rfl rfl λa E=>aw E rfl λa E=>wp_ret ?_
    exact fin hF ⟨ok,E.d,rz E rfl⟩
   refine mv E rfl λa E=>lw E (qc8 rfl rfl) λa E=>pt E rfl rfl λa E=>pf E rfl rfl λa E=>mv E rfl λa E=>bu E 17 hF (λc10 hF E=>?_) λc10 hF E=>?_
   ·refine lsz E λa E=>lsq E λa E=>pt E rfl rfl λa E=>mv E rfl λa E=>lsq E λa E=>pt E rfl rfl λa E=>aw E rfl λa E=>wp_ret ?_
    exact fin hF ⟨ok,E.d,rz E rfl⟩
   refine mv E rfl λa E=>lw E (qbL rfl rfl) λa E=>mv E rfl λa E=>bw E 20 hF (λc11 hF E=>?_) λc11 hF E=>?_
   ·refine lsq E λa E=>pf E rfl rfl λa E=>pf E rfl rfl λa E=>mz E rfl rfl λa E=>lw E (qbL rfl rfl) λa E=>pf E rfl rfl λa E=>aw E rfl λa E=>wp_ret ?_
    exact fin hF ⟨ok,E.d,rz E rfl⟩
   refine mv E rfl λa E=>lw E (qc8 rfl rfl) λa E=>pt E rfl rfl λa E=>pf E rfl rfl λa E=>mv E rfl λa E=>bu E 25 hF (λc12 hF E=>?_) λc12 hF E=>?_
   ·refine lsq E λa E=>pt E rfl rfl λa E=>aw E rfl λa E=>wp_ret ?_
    exact fin hF ⟨ok,E.d,rz E rfl⟩
   refine mv E rfl λa E=>lw E (qbL rfl rfl) λa E=>pf E rfl rfl λa E=>aw E rfl λa E=>wp_ret ?_
   exact fin hF ⟨ok,E.d,rz E rfl⟩
 refine mv E rfl λa E=>lw E (qc8 rfl rfl) λa E=>pt E rfl rfl λa E=>mv E rfl λa E=>bu E 9 hF (λc2 hF E=>?_) λc2 hF E=>?_
 ·refine lsz E λa E=>lsq E λa E=>pt E rfl rfl λa E=>mv E rfl λa E=>lsz E λa E=>lsq E λa E=>pt E rfl rfl λa E=>mv E rfl λa E=>?_
  refine lsq E λa E=>pt E rfl rfl λa E=>aw E rfl λa E=>wp_ret ?_
  exact fin hF ⟨ok,E.d,rz E rfl⟩
 refine mv E rfl λa E=>lw E (qbL rfl rfl) λa E=>mv E rfl λa E=>bw E 12 hF (λc3 hF E=>?_) λc3 hF E=>?_
 ·refine lsq E λa E=>pf E rfl rfl λa E=>pf E rfl rfl λa E=>mz E rfl rfl λa E=>lw E (qbL rfl rfl) λa E=>mv E rfl λa E=>bw E 20 hF (λc7 hF E=>?_) λc7 hF E=>?_
  ·refine lsq E λa E=>pf E rfl rfl λa E=>pf E rfl rfl λa E=>mz E rfl rfl λa E=>lw E (qbL rfl rfl) λa E=>pf E rfl rfl λa E=>aw E rfl λa E=>wp_ret ?_
   exact fin hF ⟨ok,E.d,rz E rfl⟩
  refine mv E rfl λa E=>lw E (qc8 rfl rfl) λa E=>pt E rfl rfl λa E=>pf E rfl rfl λa E=>mv E rfl λa E=>bu E 25 hF (λc8 hF E=>?_) λc8 hF E=>?_
  ·refine lsq E λa E=>pt E rfl rfl λa E=>aw E rfl λa E=>wp_ret ?_
   exact fin hF ⟨ok,E.d,rz E rfl⟩
  refine mv E rfl λa E=>lw E (qbL rfl rfl) λa E=>pf E rfl rfl λa E=>aw E rfl λa E=>wp_ret ?_
  exact fin hF ⟨ok,E.d,rz E rfl⟩
 refine mv E rfl λa E=>lw E (qc8 rfl rfl) λa E=>pt E rfl rfl λa E=>pf E rfl rfl λa E=>mv E rfl λa E=>bu E 17 hF (λc4 hF E=>?_) λc4 hF E=>?_
 ·refine lsz E λa E=>lsq E λa E=>pt E rfl rfl λa E=>mv E rfl λa E=>lsq E λa E=>pt E rfl rfl λa E=>aw E rfl λa E=>wp_ret ?_
  exact fin hF ⟨ok,E.d,rz E rfl⟩
 refine mv E rfl λa E=>lw E (qbL rfl rfl) λa E=>mv E rfl λa E=>bw E 20 hF (λc5 hF E=>?_) λc5 hF E=>?_
 ·refine lsq E λa E=>pf E rfl rfl λa E=>pf E rfl rfl λa E=>mz E rfl rfl λa E=>lw E (qbL rfl rfl) λa E=>pf E rfl rfl λa E=>aw E rfl λa E=>wp_ret ?_
  exact fin hF ⟨ok,E.d,rz E rfl⟩
 refine mv E rfl λa E=>lw E (qc8 rfl rfl) λa E=>pt E rfl rfl λa E=>pf E rfl rfl λa E=>mv E rfl λa E=>bu E 25 hF (λc6 hF E=>?_) λc6 hF E=>?_
 ·refine lsq E λa E=>pt E rfl rfl λa E=>aw E rfl λa E=>wp_ret ?_
  exact fin hF ⟨ok,E.d,rz E rfl⟩
 refine mv E rfl λa E=>lw E (qbL rfl rfl) λa E=>pf E rfl rfl λa E=>aw E rfl λa E=>wp_ret ?_
 exact fin hF ⟨ok,E.d,rz E rfl⟩
def qmB(u:World)(m0:Mem)(S:Segs)(r:(List (List UInt8)))(a:Act)(w:World):Prop:=
 ∃ m1 v0,m0.le m1∧Ok u m1 S w∧a.defers=[]∧RVs Tryz.prog a w [.t 2 v0]∧(pL 1 pS) m1 [v0] r
theorem qi9(N:Nat)(s_0:List UInt8)(ls_0:s_0.length≤LIMS){r:(List (List UInt8))}(hF:qep N s_0=some r)(hG:Glob u)(ok:Ok u m0 S w) :
  Calls Tryz.prog 13 [vs s_0].toArray w λe w'=>∃ m1 v0,e=.returned v0∧m0.le m1∧Ok u m1 S w'∧(pL 1 pS) m1 [v0] r:=by
 have le_m0:=Mem.le.refl m0
 unfold qep at hF
 refine en (qmB u m0 S) r Tryz.func13 rfl rfl rfl (λ_ _ h=>rc h λ_=>rfl) λfin a E=>sg<|aw E rfl λa E=>sg<|aw E rfl λa E=>wp_seq<|sg<|av E rfl λa E=>wn<|wp_block ?_
 obtain⟨M6,ok,h7⟩:=qd9 (e:=9) (k:=1) (R:=pS) ok
 refine bd hF λo8 hL hF=>qbb _ (λ(s:(List (List UInt8))×Int) a w=>∃ c9 M10,Ok u m0 (M10::S) w∧Env 56 a [(0,vs s_0),(3,c9),(4,vi s.2)]∧ORow 9 1 pS m0 c9 s.1 M10∧InR .i64 s.2) (λ(b:((List (List UInt8)))) e a w=>e=(.exit 0)∧∃ c65 M66,Ok u m0 (M66::S) w∧Env 56 a [(3,c65)]∧ORow 9 1 pS m0 c65 b M66) ?_ ?_ N _ a w hL ⟨(Value.slice none 0 0),M6,ok,E.keep [0,3,4],h7,(ir 0)⟩
 rotate_left
 ·intro e a w _ hO
  obtain⟨rfl,c60,M61,ok,E,h62⟩:=hO
  refine qbh<|qaa<|sg<|mv E rfl λa E=>aw E rfl λa E=>wp_ret ?_
  obtain⟨m63,hle,ok,hfz⟩:=(ok.frs 0 rfl).freeze
  have h64:=ORow.froz mS h62 hle hfz (by decide)
  have le_m0:=le_m0.trans hle
  exact fin hF ⟨m63,c60,le_m0,ok,E.d,rz E rfl,h64⟩
 rintro⟨v13,v14⟩ a w r ⟨c15,M16,ok,E,h17,r18⟩ hF
 replace hF:qdk N s_0 v13 v14=some r:=hF
 unfold qdk at hF
 refine wp_seq<|sg<|mz E rfl rfl λa E=>lw E (qbp Tryz.underlying9 rfl) λa E=>lw E (qaP rfl rfl) λa E=>wn<|cg E rfl hF (λc19 hF=>?_) λc19 hF=>?_
 ·refine wp_exit<|qaM ?_
  cases hF
  exact so (⟨rfl,⟨c15,M16,ok,E.keep [3],h17⟩⟩)
 refine wp_skip<|qaa<|wp_block<|sg<|mv E rfl λa E=>lw E (qaH rfl rfl (InR.inc r18 (InR.len ls_0) c19)) λa E=>av E rfl λa E=>wn<|wp_seq<|wp_block<|sg<|mz E rfl rfl λa E=>bd hF λc20 e21 hF=>lv E ok (qbU Tryz.underlying9 rfl rfl e21) λa E=>lw E (qaz rfl rfl) λa E=>mv E rfl λa E=>bu E 17 hF (λc22 hF E=>?_) λc22 hF E=>?_
 ·refine lsz E λa E=>pt E rfl rfl λa E=>mv E rfl λa E=>lsz E λa E=>pt E rfl rfl λa E=>aw E rfl λa E=>c_if E rfl (λ_=>?_) (λh=>by cases h)
  refine sg<|mv E rfl λa E=>aw E rfl λa E=>wp_exit<|qpx rfl<|qaM<|qbh ?_
  cases hF
  exact qau ⟨c15,M16,ok,E.keep [0,3,4],h17,(InR.inc r18 (InR.len ls_0) c19)⟩
 refine mz E rfl rfl λa E=>bd hF λc23 e24 hF=>lv E ok (qbU Tryz.underlying9 rfl rfl e24) λa E=>lw E (qaz rfl rfl) λa E=>pf E rfl rfl λa E=>mv E rfl λa E=>bu E 23 hF (λc25 hF E=>?_) λc25 hF E=>?_
 ·refine lsz E λa E=>pt E rfl rfl λa E=>aw E rfl λa E=>c_if E rfl (λ_=>?_) (λh=>by cases h)
  refine sg<|mv E rfl λa E=>aw E rfl λa E=>wp_exit<|qpx rfl<|qaM<|qbh ?_
  cases hF
  exact qau ⟨c15,M16,ok,E.keep [0,3,4],h17,(InR.inc r18 (InR.len ls_0) c19)⟩
 refine mz E rfl rfl λa E=>bd hF λc26 e27 hF=>lv E ok (qbU Tryz.underlying9 rfl rfl e27) λa E=>lw E (qaz rfl rfl) λa E=>pf E rfl rfl λa E=>aw E rfl λa E=>cf E rfl hF (λc28 hF=>?_) λc28 hF=>?_
 ·refine sg<|mv E rfl λa E=>aw E rfl λa E=>wp_exit<|qpx rfl<|qaM<|qbh ?_
  cases hF
  exact qau ⟨c15,M16,ok,E.keep [0,3,4],h17,(InR.inc r18 (InR.len ls_0) c19)⟩
 refine sg<|mz E rfl rfl λa E=>bd hF λc29 e30 hF=>lv E ok (qbU Tryz.underlying9 rfl rfl e30) λa E=>bd hF λr31 e32 hF=>lc E qtu rfl (qjx N (c29.toNat:Int) (InR.byte c29) e32 hG ok) λw ok a E=>aw E rfl λa E=>bd hF λo33 hJ hF=>qaO (Q':=λe a w=>e=.normal∧Ok u m0 (M16::S) w∧Env 56 a [(0,vs s_0),(3,c15),(4,vi v14),(5,vi o33)]∧InR .i64 o33) ?_ ?_
 rotate_left
 ·intro e a w hO
  obtain⟨rfl,ok,E,r49⟩:=hO
  refine qal<|qaa<|sg<|mz E rfl rfl λa E=>mz E rfl rfl λa E=>bd hF λs50 e51 hF=>lw E (qec Tryz.underlying9 e51 rfl ⟨_,rfl⟩ ⟨_,rfl⟩) λa E=>qbF (R:=pS) (xo:=[.tmp 51]) (xs:=([s50]:List (List UInt8))) E ok qce qex rfl ⟨⟨_,rfl,rfl,(qb8 (Nat.le_trans (qeo e51) ls_0))⟩,trivial⟩ rfl rfl rfl rfl λc52 M53 a w E ok h54=>bd hF λl55 e56 hF=>qcf (R:=pS) E ok 1 mS qce Tryz.underlying53 rfl h17 (qbD.ofRow h54 0 rfl ok) e56 ⟨_,qex,rfl⟩ rfl rfl rfl rfl λc57 M58 a w E ok h59=>aw E rfl λa E=>qab<|mv E rfl λa E=>av E rfl λa E=>wpList_nil<|qal ?_
  cases hF
  exact qau ⟨c57,M58,(ok.pk 2 [1] rfl (by decide)),E.keep [0,3,4],h59,r49⟩
 have hF:=hJ
 refine cg E rfl hF (λc35 hF=>?_) λc35 hF=>?_
 ·refine wp_skip ?_
  cases hF
  exact⟨rfl,⟨ok,E.keep [0,3,4,5],(InR.inc r18 (InR.len ls_0) c19)⟩⟩
 refine wp_block<|bd hF λo37 hL hF=>qbb _ (λ(s:Int) a w=>Ok u m0 (M16::S) w∧Env 56 a [(0,vs s_0),(3,c15),(4,vi v14),(5,vi s)]∧InR .i64 s) (λ(b:Int) e a w=>e=(.exit 3)∧Ok u m0 (M16::S) w∧Env 56 a [(0,vs s_0),(3,c15),(4,vi v14),(5,vi b)]∧InR .i64 b) ?_ ?_ N _ a w hL ⟨ok,E.keep [0,3,4,5],(InR.inc r18 (InR.len ls_0) c19)⟩
 rotate_left
 ·intro e a w _ hO
  obtain⟨rfl,ok,E,r47⟩:=hO
  refine qbh ?_
  cases hF
  exact⟨rfl,⟨ok,E.keep [0,3,4,5],r47⟩⟩
 rintro v39 a w r ⟨ok,E,r40⟩ hF
 replace hF:qcR N s_0 v39=some r:=hF
 unfold qcR at hF
 refine wp_seq<|sg<|mz E rfl rfl λa E=>lw E (qbp Tryz.underlying9 rfl) λa E=>lw E (qaP rfl rfl) λa E=>mv E rfl λa E=>bw E 39 hF (λc41 hF E=>?_) λc41 hF E=>?_
 ·refine lsz E λa E=>pf E rfl rfl λa E=>wn<|c_if E rfl (λh=>by cases h) (λ_=>?_)
  refine wp_exit<|qaM ?_
  cases hF
  exact so (⟨rfl,⟨ok,E.keep [0,3,4,5],r40⟩⟩)
 refine mz E rfl rfl λa E=>bd hF λc42 e43 hF=>lv E ok (qbU Tryz.underlying9 rfl rfl e43) λa E=>bd hF λr44 e45 hF=>lc E qtu rfl (qjx N (c42.toNat:Int) (InR.byte c42) e45 hG ok) λw ok a E=>pt E rfl rfl λa E=>wn<|cg E rfl hF (λc46 hF=>?_) λc46 hF=>?_
 ·refine wp_exit<|qaM ?_
  cases hF
  exact so (⟨rfl,⟨ok,E.keep [0,3,4,5],r40⟩⟩)
 refine wp_skip<|qaa<|wp_block<|qab<|mv E rfl λa E=>lw E (qaH rfl rfl (InR.inc r40 (InR.len ls_0) c41)) λa E=>av E rfl λa E=>wpList_nil<|qal ?_
 cases hF
 exact qau ⟨ok,E.keep [0,3,4,5],(InR.inc r40 (InR.len ls_0) c41)⟩
def qlf(u:World)(m0:Mem)(S:Segs)(r:Int)(a:Act)(w:World):Prop:=
 Ok u m0 S w∧a.defers=[]∧RVs Tryz.prog a w [.t 4 (.int .i64 r)]∧InR .i64 r
theorem qln(N:Nat)(va_0:Value)(a_0:List (List UInt8))(ha_0:(pL 1 pS) m0 [va_0] a_0)(vb_1:Value)(b_1:List (List UInt8))(hb_1:(pL 1 pS) m0 [vb_1] b_1){r:Int}(hF:qeT N a_0 b_1=some r)(hG:Glob u)(ok:Ok u m0 S w) :
  Calls Tryz.prog 49 [va_0,vb_1].toArray w λe w'=>(e=.returned (.int .i64 r)∧Ok u m0 S w')∧InR .i64 r:=by
 have le_m0:=Mem.le.refl m0
 unfold qeT at hF
 refine en (qlf u m0 S) r Tryz.func49 rfl rfl rfl (λ_ _ h=>rb h rfl) λfin a E=>sg<|aw E rfl λa E=>wp_seq<|sg<|mv E rfl λa E=>lv E ok (qa8 qce ha_0 rfl) λa E=>lw E (qcv rfl rfl) λa E=>mv E rfl λa E=>bu E 16 hF (λc1 hF E=>?_) λc1 hF E=>?_
 ·refine lsq E λa E=>ls E λa E=>pt E rfl rfl λa E=>wn<|c_if E rfl (λ_=>?_) (λh=>by cases h)
  refine sg<|aw E rfl λa E=>wp_ret<|qak ?_
  exact fin hF ⟨ok,E.d,rz E rfl,(ir (-1))⟩
 refine mv E rfl λa E=>lv E ok (qa8 qce hb_1 rfl) λa E=>lw E (qcv rfl rfl) λa E=>pf E rfl rfl λa E=>wn<|cf E rfl hF (λc2 hF=>?_) λc2 hF=>?_
 ·refine sg<|aw E rfl λa E=>wp_ret<|qak ?_
  exact fin hF ⟨ok,E.d,rz E rfl,(ir (-1))⟩
 refine wp_skip<|qaa<|wp_seq<|bd hF λo3 hJ hF=>qaO (Q':=λe a w=>e=.normal∧∃ c4 M5 c7 M8,Ok u m0 (M8::M5::S) w∧Env 90 a [(0,va_0),(1,vb_1),(5,c4),(6,c7)]∧ORow 3 1 (pI .i64) m0 c4 o3.1 M5∧ORow 3 1 (pI .i64) m0 c7 o3.2 M8) ?_ ?_
 ·have hF:=hJ
  obtain⟨l10,e11,hF⟩:=bnd hF
  obtain⟨l15,e16,hF⟩:=bnd hF
  obtain rfl:=sj hF
  refine qbl [] (Cls u m0 ([])) (Cls u m0 ([])) (by kernel_rfl) ?_
  intro w hw
  replace ok:=qbA ok hw
  clear hw
  refine qaq (cl1 (cq le_m0 ok [] rfl) (cq le_m0 ok [] rfl)) λhT=>kt 0 E rfl hT (qad rfl) λa E=>kt 1 E rfl hT (qa8 qce hb_1 rfl) λa E=>kt 2 E rfl hT (qbk rfl rfl) λa E=>kt 4 E rfl hT (qad rfl) λa E=>kt 5 E rfl hT (qa8 qce hb_1 rfl) λa E=>kt 6 E rfl hT (qbk rfl rfl) λa E=>qaU [3,7] (by kernel_rfl) rfl (qnm ?_ (qnm ?_ (qq9)))
  ·refine wo rfl<|qnh (R:=(pI .i64)) E ok qet qgA rfl (qdY (ir 0)) rfl e11 rfl rfl λc20 M21 a w E ok h22=>wn<|qaq (cl1 (cq le_m0 ok [] rfl) (cq le_m0 ok [] rfl)) λhT=>kt 8 E rfl hT (qa3 rfl) λa E=>qaU [7] (by kernel_rfl) rfl (qa1 ?_)
   ·refine wo rfl<|qnh (R:=(pI .i64)) E ok qet qgA rfl (qdY (ir 0)) rfl e16 rfl rfl λc23 M24 a w E ok h25=>wn<|qaq (cl1 (cq le_m0 ok [] rfl) (cq le_m0 ok [] rfl)) λhT=>kt 9 E rfl hT (qa3 rfl) λa E=>qbv (by kernel_rfl) ?_
    exact⟨rfl,⟨c20,M21,c23,M24,ok,E.keep [0,1,5,6],h22,h25⟩⟩
  refine wo rfl<|qnh (R:=(pI .i64)) E ok qet qgA rfl (qdY (ir 0)) rfl e16 rfl rfl λc26 M27 a w E ok h28=>wn<|qaq (cl1 (cq le_m0 ok [] rfl) (cq le_m0 ok [] rfl)) λhT=>qaU [3] (by kernel_rfl) rfl (qa1 ?_)
  ·refine wo rfl<|qnh (R:=(pI .i64)) E ok qet qgA rfl (qdY (ir 0)) rfl e11 rfl rfl λc29 M30 a w E ok h31=>wn<|qaq (cl1 (cq le_m0 ok [] rfl) (cq le_m0 ok [] rfl)) λhT=>kt 8 E rfl hT (qa3 rfl) λa E=>kt 9 E rfl hT (qa3 rfl) λa E=>qbv (by kernel_rfl) ?_
   exact⟨rfl,⟨c29,M30,c26,M27,(ok.pk 2 [1,0] rfl (by decide)),E.keep [0,1,5,6],h31,h28⟩⟩
 intro e a w hO
 obtain⟨rfl,c32,M33,c35,M36,ok,E,h34,h37⟩:=hO
 refine qaa<|wp_seq<|sg<|mv E rfl λa E=>lv E ok (qeB qet h34 rfl) λa E=>mv E rfl λa E=>wn<|wp_block<|bd hF λo43 hL hF=>qbb _ (λ(s:Int×(List (Int))) a w=>∃ c45 M46,Ok u m0 (M36::M46::S) w∧Env 90 a [(0,va_0),(1,vb_1),(5,c45),(6,c35),(30,(vi (o3.1.length:Int))),(31,vi s.1)]∧InR .i64 s.1∧ORow 3 1 (pI .i64) m0 c45 s.2 M46) (λ(b:((List (Int)))) e a w=>e=(.exit 0)∧∃ c211 M212,Ok u m0 (M36::M212::S) w∧Env 90 a [(0,va_0),(1,vb_1),(5,c211),(6,c35)]∧ORow 3 1 (pI .i64) m0 c211 b M212) ?_ ?_ N _ a w hL ⟨c32,M33,ok,E.keep [0,1,5,6,30,31],(ir 0),h34⟩
 ·rintro⟨v48,v49⟩ a w r ⟨c51,M52,ok,E,r50,h53⟩ hF
  replace hF:qdc N o3 v48 v49=some r:=hF
  unfold qdc at hF
  refine sg<|lw E (qaP rfl rfl) λa E=>wn<|wp_seq<|cg E rfl hF (λc54 hF=>?_) λc54 hF=>?_
  ·refine wp_exit<|qaM ?_
   cases hF
   exact so (⟨rfl,⟨c51,M52,ok,E.keep [0,1,5,6],h53⟩⟩)
  refine wp_skip<|qaa<|wp_seq<|wp_block<|sg<|mv E rfl λa E=>av E rfl λa E=>wn<|qab<|mz E rfl rfl λa E=>mv E rfl λa E=>?_
  obtain⟨x55,e56,hF⟩:=bnd hF
  obtain⟨b57,o58,hp59,yy60⟩:=qb2 qet h53 e56 (P:=Tryz.prog) (X:=.tmp 34) (I:=.tmp 35) (kd:=.i64) (qaD E rfl) (qaD E rfl)
  refine lv E ok (yy60 _ _) λa E=>bd hF λl61 e62 hF=>qed (R:=(pI .i64)) E ok 1 rfl h53 e56 hp59 rfl rfl qhg rfl rfl rfl ⟨rfl,trivial⟩ (qdY r50) e62 rfl λM63 w ok h64=>wpList_nil<|qal<|qaa<|qab<|lw E (qaH rfl rfl (InR.inc r50 (ORow.InR h34) c54)) λa E=>mv E rfl λa E=>wpList_nil ?_
  cases hF
  exact qau ⟨c51,M63,ok,E.keep [0,1,5,6,30,31],(InR.inc r50 (ORow.InR h34) c54),h64⟩
 intro e a w _ hO
 obtain⟨rfl,c65,M66,ok,E,h67⟩:=hO
 refine qbh<|qaa<|wp_seq<|sg<|mv E rfl λa E=>lv E ok (qa8 qce ha_0 rfl) λa E=>mv E rfl λa E=>wn<|wp_block<|bd hF λo75 hL hF=>qbb _ (λ(s:(List (Int))×(List (Int))×Int) a w=>∃ c76 M77 c79 M80,Ok u m0 (M80::M77::S) w∧Env 90 a [(1,vb_1),(5,c76),(6,c79),(39,va_0),(40,(vi (a_0.length:Int))),(41,vi s.2.2)]∧ORow 3 1 (pI .i64) m0 c76 s.1 M77∧ORow 3 1 (pI .i64) m0 c79 s.2.1 M80∧InR .i64 s.2.2) (λ(b:((List (Int)))) e a w=>e=(.exit 2)∧∃ c208 M209,Ok u m0 (M209::S) w∧Env 90 a [(1,vb_1),(5,c208)]∧ORow 3 1 (pI .i64) m0 c208 b M209) ?_ ?_ N _ a w hL ⟨c65,M66,c35,M36,ok,E.keep [1,5,6,39,40,41],h67,h37,(ir 0)⟩
 rotate_left
 ·intro e a w _ hO
  obtain⟨rfl,c194,M195,ok,E,h196⟩:=hO
  refine qbh<|qaa<|sg<|mz E rfl rfl λa E=>lv E ok (qa8 qce hb_1 rfl) λa E=>?_
  obtain⟨x197,e198,hF⟩:=bnd hF
  obtain⟨b199,o200,hp201,yy202⟩:=qb2 qet h196 e198 (P:=Tryz.prog) (X:=.tmp 85) (I:=.tmp 87) (kd:=.i64) (qaD E rfl) (qaD E rfl)
  refine lv E ok (yy202 _ _) λa E=>?_
  obtain⟨es203,hl204,rr205,hh206⟩:=qcF h196 e198 hp201 (by decide)
  obtain⟨rfl,r207⟩:=rr205
  refine lv E ok (qaw qaN rfl (hh206 _ _ _ 0 rfl)) λa E=>aw E rfl λa E=>wp_ret ?_
  exact fin hF ⟨ok.drop,E.d,rz E rfl,r207⟩
 rintro⟨v83,v84,v85⟩ a w r ⟨c86,M87,c89,M90,ok,E,h88,h91,r92⟩ hF
 replace hF:qdE N a_0 b_1 v83 v84 v85=some r:=hF
 unfold qdE at hF
 refine sg<|lw E (qaP rfl rfl) λa E=>wn<|wp_seq<|cg E rfl hF (λc93 hF=>?_) λc93 hF=>?_
 ·refine wp_exit<|qaM ?_
  cases hF
  exact so (⟨rfl,⟨c86,M87,(ok.pk 2 [1] rfl (by decide)),E.keep [1,5],h88⟩⟩)
 refine wp_skip<|qaa<|wp_seq<|wp_block<|sg<|mv E rfl λa E=>?_
 obtain⟨x94,e95,hF⟩:=bnd hF
 obtain⟨b96,o97,es98,hl99,rr100,at101,yy102⟩:=ia E 39 41 qce ha_0 e95
 obtain⟨rfl,l103⟩:=rr100
 refine lv E ok (yy102 _ _) λa E=>lv E ok (qaw qax rfl (Holds.ro at101)) λa E=>av E rfl λa E=>aw E rfl λa E=>sg<|mz E rfl rfl λa E=>lw E (qaH rfl rfl (InR.inc r92 (qas ha_0) c93)) λa E=>?_
 obtain⟨x104,e105,hF⟩:=bnd hF
 obtain⟨b106,o107,hp108,yy109⟩:=qb2 qet h91 e105 (P:=Tryz.prog) (X:=.tmp 46) (I:=.const (vi 0)) (kd:=.i64) (qaD E rfl) (qaD E rfl)
 refine lv E ok (yy109 _ _) λa E=>bd hF λl110 e111 hF=>qed (R:=(pI .i64)) E ok 0 rfl h91 e105 hp108 rfl rfl qhg rfl rfl rfl ⟨rfl,trivial⟩ (qdY (InR.inc r92 (qas ha_0) c93)) e111 rfl λM112 w ok h113=>wn<|wp_seq<|sg<|mv E rfl λa E=>lv E ok (qa8 qce hb_1 rfl) λa E=>mv E rfl λa E=>wn<|wp_block<|bd hF λo119 hL hF=>qbb _ (λ(s:Int×(List (Int))) a w=>∃ c121 M122,Ok u m0 (M122::M87::S) w∧Env 90 a [(1,vb_1),(5,c86),(6,c121),(9,vs x94),(39,va_0),(40,(vi (a_0.length:Int))),(41,vi v85),(50,vb_1),(51,(vi (b_1.length:Int))),(52,vi s.1)]∧InR .i64 s.1∧ORow 3 1 (pI .i64) m0 c121 s.2 M122) (λ(b:((List (Int)))) e a w=>e=(.exit 4)∧∃ c191 M192,Ok u m0 (M192::M87::S) w∧Env 90 a [(1,vb_1),(5,c86),(6,c191),(39,va_0),(40,(vi (a_0.length:Int))),(41,vi v85)]∧ORow 3 1 (pI .i64) m0 c191 b M192) ?_ ?_ N _ a w hL ⟨c89,M112,ok,E.keep [1,5,6,9,39,40,41,50,51,52],(ir 0),h113⟩
 rotate_left
 ·intro e a w _ hO
  obtain⟨rfl,c188,M189,ok,E,h190⟩:=hO
  refine qbh<|qaa<|qab<|mz E rfl rfl λa E=>av E rfl λa E=>av E rfl λa E=>wpList_nil<|qal<|qaa<|qab<|lw E (qaH rfl rfl (InR.inc r92 (qas ha_0) c93)) λa E=>mv E rfl λa E=>wpList_nil ?_
  cases hF
  exact qau ⟨c188,M189,c86,M87,(ok.pk 2 [1,0] rfl (by decide)),E.keep [1,5,6,39,40,41],h190,h88,(InR.inc r92 (qas ha_0) c93)⟩
 rintro⟨v124,v125⟩ a w r ⟨c127,M128,ok,E,r126,h129⟩ hF
 replace hF:qda N b_1 v83 x94 v124 v125=some r:=hF
 unfold qda at hF
 refine sg<|lw E (qaP rfl rfl) λa E=>wn<|wp_seq<|cg E rfl hF (λc130 hF=>?_) λc130 hF=>?_
 ·refine wp_exit<|qaM ?_
  cases hF
  exact so (⟨rfl,⟨c127,M128,ok,E.keep [1,5,6,39,40,41],h129⟩⟩)
 refine wp_skip<|qaa<|wp_seq<|wp_block<|sg<|mv E rfl λa E=>?_
 obtain⟨x131,e132,hF⟩:=bnd hF
 obtain⟨b133,o134,es135,hl136,rr137,at138,yy139⟩:=ia E 50 52 qce hb_1 e132
 obtain⟨rfl,l140⟩:=rr137
 refine lv E ok (yy139 _ _) λa E=>lv E ok (qaw qax rfl (Holds.ro at138)) λa E=>av E rfl λa E=>aw E rfl λa E=>sg<|mz E rfl rfl λa E=>?_
 obtain⟨x141,e142,hF⟩:=bnd hF
 obtain⟨b143,o144,hp145,yy146⟩:=qb2 qet h88 e142 (P:=Tryz.prog) (X:=.tmp 57) (I:=.tmp 58) (kd:=.i64) (qaD E rfl) (qaD E rfl)
 refine lv E ok (yy146 _ _) λa E=>?_
 obtain⟨es147,hl148,rr149,hh150⟩:=qcF h88 e142 hp145 (by decide)
 obtain⟨rfl,r151⟩:=rr149
 refine lv E ok (qaw qaN rfl (hh150 _ _ _ 1 rfl)) λa E=>aw E rfl λa E=>wp_seq<|sg<|mv E rfl λa E=>mv E rfl λa E=>lw E (qeU rfl rfl) λa E=>wn<|bd hF λo152 hJ hF=>qaO (Q':=λe a w=>e=.normal∧Ok u m0 (M128::M87::S) w∧Env 90 a [(1,vb_1),(5,c86),(6,c127),(9,vs x94),(10,vi v124),(12,vi o152),(39,va_0),(40,(vi (a_0.length:Int))),(41,vi v85),(50,vb_1),(51,(vi (b_1.length:Int))),(52,vi v124)]∧InR .i64 o152) ?_ ?_
 rotate_left
 ·intro e a w hO
  obtain⟨rfl,ok,E,r177⟩:=hO
  refine qaa<|qab<|mz E rfl rfl λa E=>lw E (qaH rfl rfl (InR.inc r126 (qas hb_1) c130)) λa E=>mv E rfl λa E=>?_
  obtain⟨x178,e179,hF⟩:=bnd hF
  obtain⟨b180,o181,hp182,yy183⟩:=qb2 qet h129 e179 (P:=Tryz.prog) (X:=.tmp 76) (I:=.tmp 78) (kd:=.i64) (qaD E rfl) (qaD E rfl)
  refine lv E ok (yy183 _ _) λa E=>bd hF λl184 e185 hF=>qed (R:=(pI .i64)) E ok 0 rfl h129 e179 hp182 rfl rfl qhg rfl rfl rfl ⟨rfl,trivial⟩ (qdY r177) e185 rfl λM186 w ok h187=>wpList_nil<|qal<|qaa<|qab<|lw E (qaH rfl rfl (InR.inc r126 (qas hb_1) c130)) λa E=>mv E rfl λa E=>wpList_nil ?_
  cases hF
  exact qau ⟨c127,M186,ok,E.keep [1,5,6,9,39,40,41,50,51,52],(InR.inc r126 (qas hb_1) c130),h187⟩
 have hF:=hJ
 refine cg E rfl hF (λc154 hF=>?_) λc154 hF=>?_
 ·refine wp_skip ?_
  cases hF
  exact⟨rfl,⟨ok,E.keep [1,5,6,9,10,12,39,40,41,50,51,52],r151⟩⟩
 refine qdO (by kernel_rfl) (by kernel_rfl) ok<|qv E (qad rfl) λa E=>qv E (qad rfl) λa E=>qv E (qad rfl) λa E=>qv E (qaH rfl rfl (InR.inc r126 (qas hb_1) c130)) λa E=>?_
 obtain⟨x155,e156,hF⟩:=bnd hF
 obtain⟨b157,o158,hp159,yy160⟩:=qb2 qet h88 e156 (P:=Tryz.prog) (X:=.tmp 65) (I:=.tmp 67) (kd:=.i64) (qaD E rfl) (qaD E rfl)
 refine qv E (yy160 _ _) λa E=>?_
 obtain⟨es161,hl162,rr163,hh164⟩:=qcF h88 e156 hp159 (by decide)
 obtain⟨rfl,r165⟩:=rr163
 refine qv E (qaw qaN rfl (hh164 _ _ _ 1 rfl)) λa E=>qv E (qad rfl) λa E=>qv E (qad rfl) λa E=>?_
 obtain⟨x166,e167,hF⟩:=bnd hF
 obtain⟨b168,o169,hp170,yy171⟩:=qb2 qet h129 e167 (P:=Tryz.prog) (X:=.tmp 70) (I:=.tmp 71) (kd:=.i64) (qaD E rfl) (qaD E rfl)
 refine qv E (yy171 _ _) λa E=>?_
 obtain⟨es172,hl173,rr174,hh175⟩:=qcF h129 e167 hp170 (by decide)
 obtain⟨rfl,r176⟩:=rr174
 refine qv E (qaw qaN rfl (hh175 _ _ _ 0 rfl)) λa E=>qv E (qvf rfl rfl rfl) λa E=>qv E (qbk rfl rfl) λa E=>qv E (qa3 rfl) λa E=>wpQuiet_nil ?_
 intro w ok
 cases hF
 exact⟨rfl,⟨ok,E.keep [1,5,6,9,10,12,39,40,41,50,51,52],(InR.wrap _ _)⟩⟩
def qlx(u:World)(m0:Mem)(S:Segs)(r:Int)(a:Act)(w:World):Prop:=
 Ok u m0 S w∧a.defers=[]∧RVs Tryz.prog a w [.t 4 (.int .i64 r)]∧InR .i64 r
theorem qlG(N:Nat)(va_0:Value)(a_0:List (List UInt8))(ha_0:(pL 1 pS) m0 [va_0] a_0)(vb_1:Value)(b_1:List (List UInt8))(hb_1:(pL 1 pS) m0 [vb_1] b_1){r:Int}(hF:qe8 N a_0 b_1=some r)(hG:Glob u)(ok:Ok u m0 S w) :
  Calls Tryz.prog 30 [va_0,vb_1].toArray w λe w'=>(e=.returned (.int .i64 r)∧Ok u m0 S w')∧InR .i64 r:=by
 unfold qe8 at hF
 refine en (qlx u m0 S) r Tryz.func30 rfl rfl rfl (λ_ _ h=>rb h rfl) λfin a E=>sg<|aw E rfl λa E=>sg<|mv E rfl λa E=>lv E ok (qa8 qce ha_0 rfl) λa E=>mv E rfl λa E=>lv E ok (qa8 qce hb_1 rfl) λa E=>lw E (qvJ rfl rfl) λa E=>mz E rfl rfl λa E=>bd hF λr1 e2 hF=>qae E qvN rfl (qln N _ a_0 ha_0 _ b_1 hb_1 e2 hG ok) rfl rfl ?_
 rintro _ w ⟨⟨rfl,ok⟩,r3⟩
 refine⟨_,rfl,λa E=>?_⟩
 refine av E rfl λa E=>aw E rfl λa E=>wp_seq<|wp_block<|sg<|mv E rfl λa E=>lw E (qaP rfl rfl) λa E=>aw E rfl λa E=>cf E rfl hF (λc4 hF=>?_) λc4 hF=>?_
 ·refine sg<|aw E rfl λa E=>wp_ret<|qaA<|qak ?_
  exact fin hF ⟨ok,E.d,rz E rfl,(ir (-1))⟩
 refine sg<|mv E rfl λa E=>lw E (qaz rfl rfl) λa E=>aw E rfl λa E=>cf E rfl hF (λc5 hF=>?_) λc5 hF=>?_
 ·refine sg<|aw E rfl λa E=>wp_ret<|qaA<|qak ?_
  exact fin hF ⟨ok,E.d,rz E rfl,(ir 1000)⟩
 refine wp_skip<|qal<|qaa<|sg<|mz E rfl rfl λa E=>lw E (qcP rfl rfl) λa E=>lw E (qlK rfl rfl) λa E=>mv E rfl λa E=>bd hF λq6 e7 hF=>lv E ok (y_qt rfl rfl e7) λa E=>aw E rfl λa E=>wp_ret ?_
 exact fin hF ⟨ok,E.d,rz E rfl,(qvg e7)⟩
def qim(u:World)(m0:Mem)(S:Segs)(r:Bool)(a:Act)(w:World):Prop:=
 Ok u m0 S w∧a.defers=[]∧RVs Tryz.prog a w [.t 2 (.bool r)]
theorem qmj(N:Nat)(vm_0:Value)(m_0:List (Segment))(hm_0:(pL 2 qkN) m0 [vm_0] m_0){r:Bool}(hF:qfw N m_0=some r)(hG:Glob u)(ok:Ok u m0 S w) :
  Calls Tryz.prog 7 [vm_0].toArray w λe w'=>(e=.returned (.bool r)∧Ok u m0 S w'):=by
 unfold qfw at hF
 refine en (qim u m0 S) r Tryz.func7 rfl rfl rfl (λ_ _ h=>ra h rfl) λfin a E=>sg<|aw E rfl λa E=>wp_seq<|sg<|aw E rfl λa E=>wp_block<|bd hF λo2 hL hF=>qbb _ (λ(s:Int) a w=>Ok u m0 (S) w∧Env 29 a [(0,vm_0),(3,vi s)]∧InR .i64 s) (λ(b:(Unit⊕Bool)) e a w=>(Sum.elim (λb31=>e=(.exit 0)∧Ok u m0 (S) w∧Env 29 a [(0,vm_0)]) (λb32=>e=.ret∧qim u m0 S b32 a w)) b) ?_ ?_ N _ a w hL ⟨ok,E.keep [0,3],(ir 0)⟩
 rotate_left
 ·intro e a w _ hO
  rcases o2 with o2 | o2
  rotate_left
  ·obtain⟨rfl,hret⟩:=hO
   refine qaA<|qak ?_
   exact fin hF hret
  have hF:=qdI hF
  obtain⟨rfl,ok,E⟩:=hO
  refine qbh<|qaa<|sg<|mv E rfl λa E=>lv E ok (qa8 qjr hm_0 rfl) λa E=>lw E (qc8 rfl rfl) λa E=>av E rfl λa E=>wn<|wp_ret ?_
  exact fin hF ⟨ok,E.d,rz E rfl⟩
 rintro v4 a w r ⟨ok,E,r5⟩ hF
 replace hF:qd5 N m_0 v4=some r:=hF
 unfold qd5 at hF
 refine wp_seq<|sg<|mz E rfl rfl λa E=>lv E ok (qa8 qjr hm_0 rfl) λa E=>lw E (qaP rfl rfl) λa E=>wn<|cg E rfl hF (λc6 hF=>?_) λc6 hF=>?_
 ·refine wp_exit<|qaM ?_
  cases hF
  exact so (sl ⟨rfl,⟨ok,E.keep [0]⟩⟩)
 refine wp_skip<|qaa<|wp_seq<|wp_block<|sg<|mz E rfl rfl λa E=>?_
 obtain⟨x7,e8,hF⟩:=bnd hF
 obtain⟨b9,o10,es11,hl12,rr13,at14,yy15⟩:=ia E 10 11 qjr hm_0 e8
 obtain⟨rfl,l16,l17⟩:=rr13
 refine lv E ok (yy15 _ _) λa E=>fv E qnT rfl λa E=>lv E ok (qaw qax rfl (Holds.ro (At.sub 0 1 at14))) λa E=>lw E (qbp Tryz.underlying9 rfl) λa E=>lw E (qcv rfl rfl) λa E=>mv E rfl λa E=>bu E 17 hF (λc18 hF E=>?_) λc18 hF E=>?_
 ·refine lsz E λa E=>lsq E λa E=>ls E λa E=>pt E rfl rfl λa E=>wn<|c_if E rfl (λ_=>?_) (λh=>by cases h)
  refine sg<|aw E rfl λa E=>wp_ret<|qaA<|qak ?_
  cases hF
  exact so (sr ⟨rfl,⟨ok,E.d,rz E rfl⟩⟩)
 refine mz E rfl rfl λa E=>?_
 obtain⟨x19,e20,hF⟩:=bnd hF
 obtain⟨b21,o22,es23,hl24,rr25,at26,yy27⟩:=ia E 18 19 qjr hm_0 e20
 obtain⟨rfl,l28,l29⟩:=rr25
 refine lv E ok (yy27 _ _) λa E=>fv E qqb rfl λa E=>lv E ok (qaw qax rfl (Holds.ro (At.sub 1 1 at26))) λa E=>lw E (qbp Tryz.underlying9 rfl) λa E=>lw E (qcv rfl rfl) λa E=>pf E rfl rfl λa E=>wn<|cg E rfl hF (λc30 hF=>?_) λc30 hF=>?_
 ·refine wp_skip<|qal<|qaa<|qab<|mv E rfl λa E=>lw E (qaH rfl rfl (InR.inc r5 (qas hm_0) c6)) λa E=>av E rfl λa E=>wpList_nil ?_
  cases hF
  exact qau ⟨ok,E.keep [0,3],(InR.inc r5 (qas hm_0) c6)⟩
 refine sg<|aw E rfl λa E=>wp_ret<|qaA<|qak ?_
 cases hF
 exact so (sr ⟨rfl,⟨ok,E.d,rz E rfl⟩⟩)
def qlA(u:World)(m0:Mem)(S:Segs)(r:Int)(a:Act)(w:World):Prop:=
 Ok u m0 S w∧a.defers=[]∧RVs Tryz.prog a w [.t 2 (.int .i64 r)]∧InR .i64 r
theorem qgC(N:Nat)(c_0:Int)(rc_0:InR .u8 c_0){r:Int}(hF:qd1 N c_0=some r)(hG:Glob u)(ok:Ok u m0 S w) :
  Calls Tryz.prog 28 [Value.int .u8 c_0].toArray w λe w'=>(e=.returned (.int .i64 r)∧Ok u m0 S w')∧InR .i64 r:=by
 unfold qd1 at hF
 refine en (qlA u m0 S) r Tryz.func28 rfl rfl rfl (λ_ _ h=>rb h rfl) λfin a E=>sg<|aw E rfl λa E=>wp_seq<|wp_block<|sg<|mv E rfl λa E=>lw E (qaz rfl rfl) λa E=>mv E rfl λa E=>bu E 6 hF (λc1 hF E=>?_) λc1 hF E=>?_
 ·refine lsq E λa E=>pt E rfl rfl λa E=>mv E rfl λa E=>lsq E λa E=>pt E rfl rfl λa E=>av E rfl λa E=>wn<|c_if E rfl (λ_=>?_) (λh=>by cases h)
  refine sg<|aw E rfl λa E=>wp_ret<|qaA<|qak ?_
  exact fin hF ⟨ok,E.d,rz E rfl,(ir 0)⟩
 refine mv E rfl λa E=>lw E (qaz rfl rfl) λa E=>pf E rfl rfl λa E=>mv E rfl λa E=>bu E 10 hF (λc2 hF E=>?_) λc2 hF E=>?_
 ·refine lsq E λa E=>pt E rfl rfl λa E=>aw E rfl λa E=>c_if E rfl (λ_=>?_) (λh=>by cases h)
  refine sg<|aw E rfl λa E=>wp_ret<|qaA<|qak ?_
  exact fin hF ⟨ok,E.d,rz E rfl,(ir 0)⟩
 refine mv E rfl λa E=>lw E (qaz rfl rfl) λa E=>pf E rfl rfl λa E=>aw E rfl λa E=>cf E rfl hF (λc3 hF=>?_) λc3 hF=>?_
 ·refine sg<|aw E rfl λa E=>wp_ret<|qaA<|qak ?_
  exact fin hF ⟨ok,E.d,rz E rfl,(ir 0)⟩
 refine sg<|mv E rfl λa E=>lw E (qbL rfl rfl) λa E=>mv E rfl λa E=>bw E 17 hF (λc4 hF E=>?_) λc4 hF E=>?_
 ·as_aux_lemma=>
   refine lsq E λa E=>pf E rfl rfl λa E=>mz E rfl rfl λa E=>lw E (qbL rfl rfl) λa E=>mv E rfl λa E=>bw E 24 hF (λc16 hF E=>?_) λc16 hF E=>?_
   ·as_aux_lemma=>
     refine lsq E λa E=>pf E rfl rfl λa E=>pf E rfl rfl λa E=>mz E rfl rfl λa E=>lw E (qbL rfl rfl) λa E=>mv E rfl λa E=>bw E 32 hF (λc22 hF E=>?_) λc22 hF E=>?_
     ·refine lsq E λa E=>pf E rfl rfl λa E=>pf E rfl rfl λa E=>mz E rfl rfl λa E=>lw E (qbL rfl rfl) λa E=>pf E rfl rfl λa E=>aw E rfl λa E=>cf E rfl hF (λc25 hF=>?_) λc25 hF=>?_
      ·refine sg<|aw E rfl λa E=>wp_ret<|qaA<|qak ?_
       exact fin hF ⟨ok,E.d,rz E rfl,(ir 1)⟩
      refine wp_skip<|qal<|qaa<|sg<|aw E rfl λa E=>wp_ret ?_
      exact fin hF ⟨ok,E.d,rz E rfl,(ir 2)⟩
     refine mv E rfl λa E=>lw E (qc8 rfl rfl) λa E=>pt E rfl rfl λa E=>pf E rfl rfl λa E=>mv E rfl λa E=>bu E 37 hF (λc23 hF E=>?_) λc23 hF E=>?_
     ·refine lsq E λa E=>pt E rfl rfl λa E=>aw E rfl λa E=>c_if E rfl (λ_=>?_) (λh=>by cases h)
      refine sg<|aw E rfl λa E=>wp_ret<|qaA<|qak ?_
      exact fin hF ⟨ok,E.d,rz E rfl,(ir 1)⟩
     refine mv E rfl λa E=>lw E (qbL rfl rfl) λa E=>pf E rfl rfl λa E=>aw E rfl λa E=>cf E rfl hF (λc24 hF=>?_) λc24 hF=>?_
     ·refine sg<|aw E rfl λa E=>wp_ret<|qaA<|qak ?_
      exact fin hF ⟨ok,E.d,rz E rfl,(ir 1)⟩
     refine wp_skip<|qal<|qaa<|sg<|aw E rfl λa E=>wp_ret ?_
     exact fin hF ⟨ok,E.d,rz E rfl,(ir 2)⟩
   refine mv E rfl λa E=>lw E (qc8 rfl rfl) λa E=>pt E rfl rfl λa E=>pf E rfl rfl λa E=>mv E rfl λa E=>bu E 29 hF (λc17 hF E=>?_) λc17 hF E=>?_
   ·refine lsz E λa E=>lsq E λa E=>pt E rfl rfl λa E=>mv E rfl λa E=>lsq E λa E=>pt E rfl rfl λa E=>aw E rfl λa E=>c_if E rfl (λ_=>?_) (λh=>by cases h)
    refine sg<|aw E rfl λa E=>wp_ret<|qaA<|qak ?_
    exact fin hF ⟨ok,E.d,rz E rfl,(ir 1)⟩
   refine mv E rfl λa E=>lw E (qbL rfl rfl) λa E=>mv E rfl λa E=>bw E 32 hF (λc18 hF E=>?_) λc18 hF E=>?_
   ·refine lsq E λa E=>pf E rfl rfl λa E=>pf E rfl rfl λa E=>mz E rfl rfl λa E=>lw E (qbL rfl rfl) λa E=>pf E rfl rfl λa E=>aw E rfl λa E=>cf E rfl hF (λc21 hF=>?_) λc21 hF=>?_
    ·refine sg<|aw E rfl λa E=>wp_ret<|qaA<|qak ?_
     exact fin hF ⟨ok,E.d,rz E rfl,(ir 1)⟩
    refine wp_skip<|qal<|qaa<|sg<|aw E rfl λa E=>wp_ret ?_
    exact fin hF ⟨ok,E.d,rz E rfl,(ir 2)⟩
   refine mv E rfl λa E=>lw E (qc8 rfl rfl) λa E=>pt E rfl rfl λa E=>pf E rfl rfl λa E=>mv E rfl λa E=>bu E 37 hF (λc19 hF E=>?_) λc19 hF E=>?_
   ·refine lsq E λa E=>pt E rfl rfl λa E=>aw E rfl λa E=>c_if E rfl (λ_=>?_) (λh=>by cases h)
    refine sg<|aw E rfl λa E=>wp_ret<|qaA<|qak ?_
    exact fin hF ⟨ok,E.d,rz E rfl,(ir 1)⟩
   refine mv E rfl λa E=>lw E (qbL rfl rfl) λa E=>pf E rfl rfl λa E=>aw E rfl λa E=>cf E rfl hF (λc20 hF=>?_) λc20 hF=>?_
   ·refine sg<|aw E rfl λa E=>wp_ret<|qaA<|qak ?_
    exact fin hF ⟨ok,E.d,rz E rfl,(ir 1)⟩
   refine wp_skip<|qal<|qaa<|sg<|aw E rfl λa E=>wp_ret ?_
   exact fin hF ⟨ok,E.d,rz E rfl,(ir 2)⟩
 refine mv E rfl λa E=>lw E (qc8 rfl rfl) λa E=>pt E rfl rfl λa E=>mv E rfl λa E=>bu E 21 hF (λc5 hF E=>?_) λc5 hF E=>?_
 ·refine lsz E λa E=>lsq E λa E=>pt E rfl rfl λa E=>mv E rfl λa E=>lsz E λa E=>lsq E λa E=>pt E rfl rfl λa E=>mv E rfl λa E=>?_
  refine lsq E λa E=>pt E rfl rfl λa E=>aw E rfl λa E=>c_if E rfl (λ_=>?_) (λh=>by cases h)
  refine sg<|aw E rfl λa E=>wp_ret<|qaA<|qak ?_
  exact fin hF ⟨ok,E.d,rz E rfl,(ir 1)⟩
 refine mv E rfl λa E=>lw E (qbL rfl rfl) λa E=>mv E rfl λa E=>bw E 24 hF (λc6 hF E=>?_) λc6 hF E=>?_
 ·as_aux_lemma=>
   refine lsq E λa E=>pf E rfl rfl λa E=>pf E rfl rfl λa E=>mz E rfl rfl λa E=>lw E (qbL rfl rfl) λa E=>mv E rfl λa E=>bw E 32 hF (λc12 hF E=>?_) λc12 hF E=>?_
   ·refine lsq E λa E=>pf E rfl rfl λa E=>pf E rfl rfl λa E=>mz E rfl rfl λa E=>lw E (qbL rfl rfl) λa E=>pf E rfl rfl λa E=>aw E rfl λa E=>cf E rfl hF (λc15 hF=>?_) λc15 hF=>?_
    ·refine sg<|aw E rfl λa E=>wp_ret<|qaA<|qak ?_
     exact fin hF ⟨ok,E.d,rz E rfl,(ir 1)⟩
    refine wp_skip<|qal<|qaa<|sg<|aw E rfl λa E=>wp_ret ?_
    exact fin hF ⟨ok,E.d,rz E rfl,(ir 2)⟩
   refine mv E rfl λa E=>lw E (qc8 rfl rfl) λa E=>pt E rfl rfl λa E=>pf E rfl rfl λa E=>mv E rfl λa E=>bu E 37 hF (λc13 hF E=>?_) λc13 hF E=>?_
   ·refine lsq E λa E=>pt E rfl rfl λa E=>aw E rfl λa E=>c_if E rfl (λ_=>?_) (λh=>by cases h)
    refine sg<|aw E rfl λa E=>wp_ret<|qaA<|qak ?_
    exact fin hF ⟨ok,E.d,rz E rfl,(ir 1)⟩
   refine mv E rfl λa E=>lw E (qbL rfl rfl) λa E=>pf E rfl rfl λa E=>aw E rfl λa E=>cf E rfl hF (λc14 hF=>?_) λc14 hF=>?_
   ·refine sg<|aw E rfl λa E=>wp_ret<|qaA<|qak ?_
    exact fin hF ⟨ok,E.d,rz E rfl,(ir 1)⟩
   refine wp_skip<|qal<|qaa<|sg<|aw E rfl λa E=>wp_ret ?_
   exact fin hF ⟨ok,E.d,rz E rfl,(ir 2)⟩
 refine mv E rfl λa E=>lw E (qc8 rfl rfl) λa E=>pt E rfl rfl λa E=>pf E rfl rfl λa E=>mv E rfl λa E=>bu E 29 hF (λc7 hF E=>?_) λc7 hF E=>?_
 ·refine lsz E λa E=>lsq E λa E=>pt E rfl rfl λa E=>mv E rfl λa E=>lsq E λa E=>pt E rfl rfl λa E=>aw E rfl λa E=>c_if E rfl (λ_=>?_) (λh=>by cases h)
  refine sg<|aw E rfl λa E=>wp_ret<|qaA<|qak ?_
  exact fin hF ⟨ok,E.d,rz E rfl,(ir 1)⟩
 refine mv E rfl λa E=>lw E (qbL rfl rfl) λa E=>mv E rfl λa E=>bw E 32 hF (λc8 hF E=>?_) λc8 hF E=>?_
 ·refine lsq E λa E=>pf E rfl rfl λa E=>pf E rfl rfl λa E=>mz E rfl rfl λa E=>lw E (qbL rfl rfl) λa E=>pf E rfl rfl λa E=>aw E rfl λa E=>cf E rfl hF (λc11 hF=>?_) λc11 hF=>?_
  ·refine sg<|aw E rfl λa E=>wp_ret<|qaA<|qak ?_
   exact fin hF ⟨ok,E.d,rz E rfl,(ir 1)⟩
  refine wp_skip<|qal<|qaa<|sg<|aw E rfl λa E=>wp_ret ?_
  exact fin hF ⟨ok,E.d,rz E rfl,(ir 2)⟩
 refine mv E rfl λa E=>lw E (qc8 rfl rfl) λa E=>pt E rfl rfl λa E=>pf E rfl rfl λa E=>mv E rfl λa E=>bu E 37 hF (λc9 hF E=>?_) λc9 hF E=>?_
 ·refine lsq E λa E=>pt E rfl rfl λa E=>aw E rfl λa E=>c_if E rfl (λ_=>?_) (λh=>by cases h)
  refine sg<|aw E rfl λa E=>wp_ret<|qaA<|qak ?_
  exact fin hF ⟨ok,E.d,rz E rfl,(ir 1)⟩
 refine mv E rfl λa E=>lw E (qbL rfl rfl) λa E=>pf E rfl rfl λa E=>aw E rfl λa E=>cf E rfl hF (λc10 hF=>?_) λc10 hF=>?_
 ·refine sg<|aw E rfl λa E=>wp_ret<|qaA<|qak ?_
  exact fin hF ⟨ok,E.d,rz E rfl,(ir 1)⟩
 refine wp_skip<|qal<|qaa<|sg<|aw E rfl λa E=>wp_ret ?_
 exact fin hF ⟨ok,E.d,rz E rfl,(ir 2)⟩
def qld(u:World)(m0:Mem)(S:Segs)(r:(List (List UInt8)))(a:Act)(w:World):Prop:=
 ∃ m1 v0,m0.le m1∧Ok u m1 S w∧a.defers=[]∧RVs Tryz.prog a w [.t 2 v0]∧(pL 1 pS) m1 [v0] r
theorem qlm(N:Nat)(s_0:List UInt8)(ls_0:s_0.length≤LIMS){r:(List (List UInt8))}(hF:qfK N s_0=some r)(hG:Glob u)(ok:Ok u m0 S w) :
  Calls Tryz.prog 15 [vs s_0].toArray w λe w'=>∃ m1 v0,e=.returned v0∧m0.le m1∧Ok u m1 S w'∧(pL 1 pS) m1 [v0] r:=by
 have le_m0:=Mem.le.refl m0
 unfold qfK at hF
 refine en (qld u m0 S) r Tryz.func15 rfl rfl rfl (λ_ _ h=>rc h λ_=>rfl) λfin a E=>sg<|aw E rfl λa E=>sg<|aw E rfl λa E=>sg<|aw E rfl λa E=>wp_seq<|wp_block ?_
 obtain⟨M6,ok,h7⟩:=qd9 (e:=9) (k:=1) (R:=pS) ok
 refine bd hF λo8 hL hF=>qbb _ (λ(s:(List (List UInt8))×Int) a w=>∃ c9 M10,Ok u m0 (M10::S) w∧Env 46 a [(0,vs s_0),(3,c9),(4,vi s.2)]∧ORow 9 1 pS m0 c9 s.1 M10∧InR .i64 s.2) (λ(b:((List (List UInt8)))) e a w=>e=(.exit 0)∧∃ c61 M62,Ok u m0 (M62::S) w∧Env 46 a [(3,c61)]∧ORow 9 1 pS m0 c61 b M62) ?_ ?_ N _ a w hL ⟨(Value.slice none 0 0),M6,ok,E.keep [0,3,4],h7,(ir 0)⟩
 rotate_left
 ·intro e a w _ hO
  obtain⟨rfl,c56,M57,ok,E,h58⟩:=hO
  refine qbh<|qaa<|sg<|mv E rfl λa E=>aw E rfl λa E=>wp_ret ?_
  obtain⟨m59,hle,ok,hfz⟩:=(ok.frs 0 rfl).freeze
  have h60:=ORow.froz mS h58 hle hfz (by decide)
  have le_m0:=le_m0.trans hle
  exact fin hF ⟨m59,c56,le_m0,ok,E.d,rz E rfl,h60⟩
 rintro⟨v13,v14⟩ a w r ⟨c15,M16,ok,E,h17,r18⟩ hF
 replace hF:qcH N s_0 v13 v14=some r:=hF
 unfold qcH at hF
 refine wp_seq<|sg<|mz E rfl rfl λa E=>lw E (qbp Tryz.underlying9 rfl) λa E=>lw E (qaP rfl rfl) λa E=>wn<|cg E rfl hF (λc19 hF=>?_) λc19 hF=>?_
 ·refine wp_exit<|qaM ?_
  cases hF
  exact so (⟨rfl,⟨c15,M16,ok,E.keep [3],h17⟩⟩)
 refine wp_skip<|qaa<|wp_block<|sg<|mv E rfl λa E=>lw E (qaH rfl rfl (InR.inc r18 (InR.len ls_0) c19)) λa E=>av E rfl λa E=>wn<|wp_seq<|wp_block<|bd hF λo21 hL hF=>qbb _ (λ(s:Int) a w=>Ok u m0 (M16::S) w∧Env 46 a [(0,vs s_0),(3,c15),(4,vi v14),(5,vi s)]∧InR .i64 s) (λ(b:Int) e a w=>e=(.exit 2)∧Ok u m0 (M16::S) w∧Env 46 a [(0,vs s_0),(3,c15),(4,vi v14),(5,vi b)]∧InR .i64 b) ?_ ?_ N _ a w hL ⟨ok,E.keep [0,3,4,5],(InR.inc r18 (InR.len ls_0) c19)⟩
 rotate_left
 ·intro e a w _ hO
  obtain⟨rfl,ok,E,r38⟩:=hO
  refine qbh<|qaa<|wp_seq<|sg<|mz E rfl rfl λa E=>bd hF λc39 e40 hF=>lv E ok (qbU Tryz.underlying9 rfl rfl e40) λa E=>bd hF λr41 e42 hF=>qae E qqM rfl (qgC N (c39.toNat:Int) (InR.byte c39) e42 hG ok) rfl rfl ?_
  rintro _ w ⟨⟨rfl,ok⟩,r43⟩
  refine⟨_,rfl,λa E=>?_⟩
  refine lw E (qbg rfl rfl) λa E=>wn<|cg E rfl hF (λc44 hF=>?_) λc44 hF=>?_
  ·refine wp_skip<|qaa<|qab<|mv E rfl λa E=>av E rfl λa E=>wpList_nil<|qal ?_
   cases hF
   exact qau ⟨c15,M16,ok,E.keep [0,3,4],h17,r38⟩
  refine qab<|mz E rfl rfl λa E=>mz E rfl rfl λa E=>bd hF λs45 e46 hF=>lw E (qec Tryz.underlying9 e46 rfl ⟨_,rfl⟩ ⟨_,rfl⟩) λa E=>qbF (R:=pS) (xo:=[.tmp 41]) (xs:=([s45]:List (List UInt8))) E ok qce qex rfl ⟨⟨_,rfl,rfl,(qb8 (Nat.le_trans (qeo e46) ls_0))⟩,trivial⟩ rfl rfl rfl rfl λc47 M48 a w E ok h49=>bd hF λl50 e51 hF=>qcf (R:=pS) E ok 1 mS qce Tryz.underlying53 rfl h17 (qbD.ofRow h49 0 rfl ok) e51 ⟨_,qex,rfl⟩ rfl rfl rfl rfl λc52 M53 a w E ok h54=>aw E rfl λa E=>qab<|mv E rfl λa E=>av E rfl λa E=>wpList_nil<|qal ?_
  cases hF
  exact qau ⟨c52,M53,(ok.pk 2 [1] rfl (by decide)),E.keep [0,3,4],h54,r38⟩
 rintro v23 a w r ⟨ok,E,r24⟩ hF
 replace hF:qcJ N s_0 v14 v23=some r:=hF
 unfold qcJ at hF
 refine wp_seq<|sg<|mz E rfl rfl λa E=>bd hF λc25 e26 hF=>lv E ok (qbU Tryz.underlying9 rfl rfl e26) λa E=>bd hF λr27 e28 hF=>qae E qqM rfl (qgC N (c25.toNat:Int) (InR.byte c25) e28 hG ok) rfl rfl ?_
 rintro _ w ⟨⟨rfl,ok⟩,r29⟩
 refine⟨_,rfl,λa E=>?_⟩
 refine lw E (qaz rfl rfl) λa E=>mv E rfl λa E=>bw E 17 hF (λc30 hF E=>?_) λc30 hF E=>?_
 ·refine lsz E λa E=>pf E rfl rfl λa E=>mv E rfl λa E=>lsz E λa E=>ls E λa E=>pf E rfl rfl λa E=>wn<|c_if E rfl (λh=>by cases h) (λ_=>?_)
  refine wp_exit<|qaM ?_
  cases hF
  exact so (⟨rfl,⟨ok,E.keep [0,3,4,5],r24⟩⟩)
 refine mz E rfl rfl λa E=>lw E (qbp Tryz.underlying9 rfl) λa E=>lw E (qaP rfl rfl) λa E=>pt E rfl rfl λa E=>mv E rfl λa E=>bw E 23 hF (λc31 hF E=>?_) λc31 hF E=>?_
 ·refine lsz E λa E=>ls E λa E=>pf E rfl rfl λa E=>wn<|c_if E rfl (λh=>by cases h) (λ_=>?_)
  refine wp_exit<|qaM ?_
  cases hF
  exact so (⟨rfl,⟨ok,E.keep [0,3,4,5],r24⟩⟩)
 refine mz E rfl rfl λa E=>bd hF λc32 e33 hF=>lv E ok (qbU Tryz.underlying9 rfl rfl e33) λa E=>bd hF λr34 e35 hF=>qae E qqM rfl (qgC N (c32.toNat:Int) (InR.byte c32) e35 hG ok) rfl rfl ?_
 rintro _ w ⟨⟨rfl,ok⟩,r36⟩
 refine⟨_,rfl,λa E=>?_⟩
 refine lw E (qaz rfl rfl) λa E=>pt E rfl rfl λa E=>wn<|cg E rfl hF (λc37 hF=>?_) λc37 hF=>?_
 ·refine wp_exit<|qaM ?_
  cases hF
  exact so (⟨rfl,⟨ok,E.keep [0,3,4,5],r24⟩⟩)
 refine wp_skip<|qaa<|wp_block<|qab<|mv E rfl λa E=>lw E (qaH rfl rfl (InR.inc r24 (InR.len ls_0) c31)) λa E=>av E rfl λa E=>wpList_nil<|qal ?_
 cases hF
 exact qau ⟨ok,E.keep [0,3,4,5],(InR.inc r24 (InR.len ls_0) c31)⟩
def qlp(u:World)(m0:Mem)(S:Segs)(r:Bool)(a:Act)(w:World):Prop:=
 Ok u m0 S w∧a.defers=[]∧RVs Tryz.prog a w [.t 2 (.bool r)]
theorem qlP(N:Nat)(s_0:List UInt8)(ls_0:s_0.length≤LIMS){r:Bool}(hF:qfc N s_0=some r)(hG:Glob u)(ok:Ok u m0 S w) :
  Calls Tryz.prog 8 [vs s_0].toArray w λe w'=>(e=.returned (.bool r)∧Ok u m0 S w'):=by
 have hb0:=ok.base
 have le_m0:=Mem.le.refl m0
 unfold qfc at hF
 refine en (qlp u m0 S) r Tryz.func8 rfl rfl rfl (λ_ _ h=>ra h rfl) λfin a E=>sg<|aw E rfl λa E=>sg<|mv E rfl λa E=>lw E (qbp Tryz.underlying9 rfl) λa E=>lw E (qcv rfl rfl) λa E=>mv E rfl λa E=>bu E 6 hF (λc1 hF E=>?_) λc1 hF E=>?_
 ·refine lsz E λa E=>pt E rfl rfl λa E=>aw E rfl λa E=>wp_ret ?_
  exact fin hF ⟨ok,E.d,rz E rfl⟩
 refine mv E rfl λa E=>bd hF λr2 e3 hF=>qae E qwh rfl (qlm N s_0 ls_0 e3 hG ok) rfl rfl ?_
 rintro _ w ⟨m4,c5,rfl,hle,ok,h6⟩
 have le_m0:=le_m0.trans hle
 refine⟨_,rfl,λa E=>?_⟩
 refine lv E ok (qa8 qce h6 rfl) λa E=>lw E (qcv rfl rfl) λa E=>pf E rfl rfl λa E=>aw E rfl λa E=>wp_ret ?_
 exact fin hF ⟨(ok).down hb0 le_m0,E.d,rz E rfl⟩
end Go.Proofs.YtkhjeeakflefjaaGreatDoor
