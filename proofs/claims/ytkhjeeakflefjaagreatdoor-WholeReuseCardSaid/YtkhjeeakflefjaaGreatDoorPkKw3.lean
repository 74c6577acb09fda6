/- Texts of this proof, joined by pack.py. -/
import Derived.Test.YtkhjeeakflefjaaGreatDoorPkKw2
import Derived.Test.YtkhjeeakflefjaaGreatDoorCards
import Derived.Test.YtkhjeeakflefjaaGreatDoorChecked
import Derived.Test.YtkhjeeakflefjaaGreatDoorProg
import Derived.Test.YtkhjeeakflefjaaGreatDoorRows
import Derived.Test.YtkhjeeakflefjaaGreatDoorTie
set_option linter.unusedVariables false
set_option linter.unusedSimpArgs false
namespace Go.Proofs.YtkhjeeakflefjaaGreatDoor
open Go.X
variable {u:World} {m0:Mem} {S:Segs} {w:World}
set_option maxHeartbeats 4000000
set_option maxRecDepth 100000
def qpy(u:World)(m0:Mem)(S:Segs)(r:Bool)(a:Act)(w:World):Prop:=
 Ok u m0 S w∧a.defers=[]∧RVs Tryz.prog a w [.t 4 (.bool r)]
theorem qhm(N:Nat)(kind_0:Int)(rkind_0:InR .i64 kind_0)(s_1:List UInt8)(ls_1:s_1.length≤LIMS){r:Bool}(hF:qeu N kind_0 s_1=some r)(hG:Glob u)(ok:Ok u m0 S w) :
  Calls Tryz.prog 123 [vi kind_0,vs s_1].toArray w λe w'=>(e=.returned (.bool r)∧Ok u m0 S w'):=by
 unfold qeu at hF
 refine en (qpy u m0 S) r Tryz.func123 rfl rfl rfl (λ_ _ h=>ra h rfl) λfin a E=>sg<|aw E rfl λa E=>wp_seq<|sg<|mv E rfl λa E=>lw E (qaz rfl rfl) λa E=>wn<|cf E rfl hF (λc1 hF=>?_) λc1 hF=>?_
 ·refine sg<|mv E rfl λa E=>bd hF λr2 e3 hF=>lc E qiE rfl (qeb N s_1 ls_1 e3 hG ok) λw ok a E=>aw E rfl λa E=>wp_ret<|qak ?_
  exact fin hF ⟨ok,E.d,rz E rfl⟩
 refine wp_skip<|qaa<|sg<|mv E rfl λa E=>bd hF λr4 e5 hF=>qae E qoV rfl (qgj N s_1 ls_1 ([61]) (show([61]:List UInt8).length≤LIMS by decide) e5 hG ok) rfl rfl ?_
 rintro _ w ⟨⟨rfl,ok⟩,l6⟩
 refine⟨_,rfl,λa E=>?_⟩
 refine mv E rfl λa E=>lw E (qag rfl rfl) λa E=>lw E (qag rfl rfl) λa E=>av E rfl λa E=>aw E rfl λa E=>sg<|mv E rfl λa E=>bd hF λr7 e8 hF=>lc E qvn rfl (qnZ N s_1 ls_1 e8 hG ok) λw ok a E=>mv E rfl λa E=>qbx r7 (λc9=>?_) (λc9=>?_)
 ·have hF:=qbz c9 hF
  have E:=E.upd 18 c9 rfl
  refine lsz E λa E=>ls E λa E=>pt E rfl rfl λa E=>av E rfl λa E=>wn<|wp_ret ?_
  exact fin hF ⟨ok,E.d,rz E rfl⟩
 have hF:=qby c9 hF
 have E:=E.upd 18 c9 rfl
 refine mz E rfl rfl λa E=>qbx r4.2 (λc10=>?_) (λc10=>?_)
 rotate_left
 ·have hF:=qby c10 hF
  have E:=E.upd 20 c10 rfl
  refine lsq E λa E=>pf E rfl rfl λa E=>pf E rfl rfl λa E=>aw E rfl λa E=>wp_ret ?_
  exact fin hF ⟨ok,E.d,rz E rfl⟩
 have hF:=qbz c10 hF
 have E:=E.upd 20 c10 rfl
 refine mv E rfl λa E=>bd hF λr11 e12 hF=>lc E qu6 rfl (qm3 N r4.1 l6 e12 hG ok) λw ok a E=>pt E rfl rfl λa E=>pf E rfl rfl λa E=>aw E rfl λa E=>wp_ret ?_
 exact fin hF ⟨ok,E.d,rz E rfl⟩
def qgN(u:World)(m0:Mem)(S:Segs)(x0:List (List UInt8×Bool))(vm0:Value)(Mm0:List (Nat×Obj))(r:Bool×(List (List UInt8×Bool)))(a:Act)(w:World):Prop:=
 ∃ m1 M1,m0.le m1∧Ok u m1 ([]::M1::S) w∧a.defers=[]∧RVs Tryz.prog a w [.t 8 (.bool r.1)]∧OMap kS (oneV pB) m1 vm0 r.2 M1
def qgO(u:World)(m0:Mem)(S:Segs)(x0:List (List UInt8×Bool))(vm0:Value)(Mm0:List (Nat×Obj))(r:Bool×(List (List UInt8×Bool)))(a:Act)(w:World):Prop:=
 ∃ m1 M9,m0.le m1∧Ok u m1 ([]::M9::S) w∧a.defers=[]∧RVs Tryz.prog a w [.t 8 (.bool r.1)]∧OMap kS (oneV pB) m1 vm0 r.2 M9
def qdT(N:Nat):Prop:=∀ {u:World} {m0:Mem} {S:Segs} {w:World} (vl_1:Value) (l_1:List (Part)) (hl_1:(pL 6 qaS) m0 [vl_1] l_1) (depth_2:Int) (rdepth_2:InR .i64 depth_2) (counting_3:Bool) {vm0:Value} {Mm0:List (Nat×Obj)} (x0:List (List UInt8×Bool)) (hm0:OMap kS (oneV pB) m0 vm0 x0 Mm0) {r:Bool×(List (List UInt8×Bool))} (hF:qbr N l_1 depth_2 counting_3 x0=some r) (hG:Glob u) (ok:Ok u m0 ([]::Mm0::S) w),Calls Tryz.prog 66 [Value.agg [vm0].toArray,vl_1,vi depth_2,vb counting_3].toArray w λe w'=>∃ m1 M1,e=.returned (.bool r.1)∧m0.le m1∧Ok u m1 ([]::M1::S) w'∧OMap kS (oneV pB) m1 vm0 r.2 M1
def qdP(N:Nat):Prop:=∀ {u:World} {m0:Mem} {S:Segs} {w:World} (vx_1:List Value) (x_1:Part) (hx_1:qaS m0 vx_1 x_1) (depth_2:Int) (rdepth_2:InR .i64 depth_2) (counting_3:Bool) {vm0:Value} {Mm0:List (Nat×Obj)} (x0:List (List UInt8×Bool)) (hm0:OMap kS (oneV pB) m0 vm0 x0 Mm0) {r:Bool×(List (List UInt8×Bool))} (hF:qb4 N x_1 depth_2 counting_3 x0=some r) (hG:Glob u) (ok:Ok u m0 ([]::Mm0::S) w),Calls Tryz.prog 98 [Value.agg [vm0].toArray,.agg vx_1.toArray,vi depth_2,vb counting_3].toArray w λe w'=>∃ m1 M9,e=.returned (.bool r.1)∧m0.le m1∧Ok u m1 ([]::M9::S) w'∧OMap kS (oneV pB) m1 vm0 r.2 M9
theorem qiD(N:Nat)(ih_syntax_checker_parts:qdT N)(ih_syntax_checker_cases:qdP N):qdT (N+1):=by
 intro u m0 S w vl_1 l_1 hl_1 depth_2 rdepth_2 counting_3 vm0 Mm0 x0 hm0 r hF hG ok
 have le_m0:=Mem.le.refl m0
 have hF0:qdo (qbr N) (qb4 N) N l_1 depth_2 counting_3 x0=some r:=hF
 have hF:=hF0
 clear hF0
 unfold qdo at hF
 refine en (qgN u m0 S x0 vm0 Mm0) r Tryz.func66 rfl rfl rfl (by rintro a w ⟨m1,M1,hle,ok,hd,hrv,h0⟩;exact qbf [.t 8 (.bool r.1)] hd rfl hrv ⟨m1,M1,rfl,hle,ok,h0⟩) λfin a E=>sg<|qgl E ok rfl rfl rfl λb3 a w E ok=>aw E rfl λa E=>wp_seq<|sg<|mv E rfl λa E=>lv E ok (qa8 qbG hl_1 rfl) λa E=>mv E rfl λa E=>wn<|wp_block<|bd hF λo8 hL hF=>qbb _ (λ(s:Int×(List (List UInt8×Bool))) a w=>∃ m9 M11,m0.le m9∧Ok u m9 ([(b3,oc 145 [vm0])]::[]::M11::S) w∧Env 94 a [(1,vl_1),(2,vi depth_2),(3,vb counting_3),(4,vp b3),(11,vl_1),(12,(vi (l_1.length:Int))),(13,vi s.1)]∧InR .i64 s.1∧OMap kS (oneV pB) m9 vm0 s.2 M11) (λ(b:(((List (List UInt8×Bool)))⊕(Bool×(List (List UInt8×Bool))))) e a w=>(Sum.elim (λb138=>e=(.exit 0)∧∃ m139 M140,m0.le m139∧Ok u m139 ([(b3,oc 145 [vm0])]::[]::M140::S) w∧Env 94 a []∧OMap kS (oneV pB) m139 vm0 b138 M140) (λb142=>e=.ret∧qgN u m0 S x0 vm0 Mm0 b142 a w)) b) ?_ ?_ N _ a w hL ⟨m0,Mm0,Mem.le.refl _,ok,E.keep [1,2,3,4,11,12,13],(ir 0),hm0⟩
 rotate_left
 ·intro e a w _ hO
  rcases o8 with o8 | o8
  rotate_left
  ·obtain⟨rfl,hret⟩:=hO
   refine qaA<|qak ?_
   exact fin hF hret
  have hF:=qdI hF
  obtain⟨rfl,m135,M136,hle,ok,E,h137⟩:=hO
  have le_m0:=le_m0.trans hle
  have hl_1:=(mL qah).up hle hl_1
  refine qbh<|qaa<|sg<|aw E rfl λa E=>wp_ret ?_
  exact fin hF ⟨m135,M136,le_m0,ok.drop,E.d,rz E rfl,h137⟩
 rintro⟨v13,v14⟩ a w r ⟨m15,M17,hle,ok,E,r16,h18⟩ hF
 replace hF:qc4 (qbr N) (qb4 N) N l_1 depth_2 counting_3 v13 v14=some r:=hF
 unfold qc4 at hF
 have le_m0:=le_m0.trans hle
 have hl_1:=(mL qah).up hle hl_1
 refine sg<|lw E (qaP rfl rfl) λa E=>wn<|wp_seq<|cg E rfl hF (λc19 hF=>?_) λc19 hF=>?_
 ·refine wp_exit<|qaM ?_
  cases hF
  exact so (sl ⟨rfl,⟨m15,M17,le_m0,ok,E.keep [],h18⟩⟩)
 refine wp_skip<|qaa<|wp_seq<|wp_block<|sg<|mv E rfl λa E=>?_
 obtain⟨x20,e21,hF⟩:=bnd hF
 obtain⟨b22,o23,es24,hl25,rr26,at27,yy28⟩:=ia E 11 13 qbG hl_1 e21
 obtain⟨c33,c35,rfl,r29,l30,l31,l32,h34,h36⟩:=(qbd.1 rr26)
 refine lv E ok (yy28 _ _) λa E=>lv E ok (qao (cs:=[vi x20.Kind,vs x20.Text,vs x20.Name,vs x20.Style,c33,c35]) qct rfl rfl (Holds.ro at27)) λa E=>qaL E ok qbw rfl rfl λb37 a w E ok=>av E rfl λa E=>qai E ok 0 rfl rfl rfl qel rfl rfl ⟨rfl,rfl,rfl,rfl,(qbT h34),(qbT h36),trivial⟩ rfl rfl λw ok=>wn<|wp_seq<|wp_seq<|bd hF λo38 hJ hF=>qaO (Q':=λe a w=>e=.normal∧Ok u m15 ([(b37,oc 90 [vi x20.Kind,vs x20.Text,vs x20.Name,vs x20.Style,c33,c35])]::[(b3,oc 145 [vm0])]::[]::M17::S) w∧Env 94 a [(1,vl_1),(2,vi depth_2),(3,vb counting_3),(4,vp b3),(10,vp b37),(11,vl_1),(12,(vi (l_1.length:Int))),(13,vi v13),(47,vb o38)]) ?_ ?_
 ·as_aux_lemma=>
   have hF:=hJ
   refine qab<|lv E ok (qao (cs:=[vi x20.Kind,vs x20.Text,vs x20.Name,vs x20.Style,c33,c35]) qct rfl rfl (Holds.own 0 rfl rfl)) λa E=>bd hF λr39 e40 hF=>lc E qvw rfl (qmW N _ x20 (qbd.2 ⟨_,_,rfl,r29,l30,l31,l32,h34,h36⟩) e40 hG ok) λw ok a E=>lw E (qa9 rfl) λa E=>mv E rfl λa E=>bu E 21 hF (λc41 hF E=>?_) λc41 hF E=>?_
   ·refine lsz E λa E=>lsq E λa E=>ls E λa E=>pt E rfl rfl λa E=>mv E rfl λa E=>lsz E λa E=>lsq E λa E=>ls E λa E=>?_
    refine lsz E λa E=>lsz E λa E=>ls E λa E=>pt E rfl rfl λa E=>wpList_nil ?_
    cases hF
    exact⟨rfl,⟨ok,E.keep [1,2,3,4,10,11,12,13,47]⟩⟩
   refine fk E ok qbm qaN rfl 0 rfl rfl λa E=>lw E (qaz rfl rfl) λa E=>mv E rfl λa E=>bw E 25 hF (λc42 hF E=>?_) λc42 hF E=>?_
   ·refine lsq E λa E=>pf E rfl rfl λa E=>pf E rfl rfl λa E=>mz E rfl rfl λa E=>lw E (qcv rfl rfl) λa E=>mv E rfl λa E=>bw E 33 hF (λc63 hF E=>?_) λc63 hF E=>?_
    ·refine lsq E λa E=>ls E λa E=>pf E rfl rfl λa E=>mv E rfl λa E=>lsz E λa E=>lsq E λa E=>ls E λa E=>pf E rfl rfl λa E=>pf E rfl rfl λa E=>wpList_nil ?_
     cases hF
     exact⟨rfl,⟨ok,E.keep [1,2,3,4,10,11,12,13,47]⟩⟩
    refine fk E ok qbm qaN rfl 0 rfl rfl λa E=>lw E (qaz rfl rfl) λa E=>pt E rfl rfl λa E=>mv E rfl λa E=>bw E 38 hF (λc64 hF E=>?_) λc64 hF E=>?_
    ·refine lsz E λa E=>lsq E λa E=>ls E λa E=>pf E rfl rfl λa E=>pf E rfl rfl λa E=>wpList_nil ?_
     cases hF
     exact⟨rfl,⟨ok,E.keep [1,2,3,4,10,11,12,13,47]⟩⟩
    refine mz E rfl rfl λa E=>lw E (qlW rfl rfl (InR.dec r16 (ir 0) c63)) λa E=>?_
    obtain⟨x65,e66,hF⟩:=bnd hF
    obtain⟨b67,o68,es69,hl70,rr71,at72,yy73⟩:=ia E 39 41 qbG hl_1 e66
    obtain⟨c78,c80,rfl,r74,l75,l76,l77,h79,h81⟩:=(qbd.1 rr71)
    refine lv E ok (yy73 _ _) λa E=>fv E qbm rfl λa E=>lv E ok (qaw qaN rfl (Holds.ro (At.sub 0 1 at72))) λa E=>lw E (qaz rfl rfl) λa E=>pt E rfl rfl λa E=>pf E rfl rfl λa E=>wpList_nil ?_
    cases hF
    exact⟨rfl,⟨ok,E.keep [1,2,3,4,10,11,12,13,47]⟩⟩
   refine mv E rfl λa E=>lw E (qa9 rfl) λa E=>pt E rfl rfl λa E=>pf E rfl rfl λa E=>mv E rfl λa E=>bu E 30 hF (λc43 hF E=>?_) λc43 hF E=>?_
   ·refine lsz E λa E=>lsz E λa E=>lsz E λa E=>lsz E λa E=>?_
    refine pt E rfl rfl λa E=>wpList_nil ?_
    cases hF
    exact⟨rfl,⟨ok,E.keep [1,2,3,4,10,11,12,13,47]⟩⟩
   refine mv E rfl λa E=>lw E (qcv rfl rfl) λa E=>mv E rfl λa E=>bw E 33 hF (λc44 hF E=>?_) λc44 hF E=>?_
   ·refine lsq E λa E=>ls E λa E=>pf E rfl rfl λa E=>mv E rfl λa E=>lsz E λa E=>lsq E λa E=>ls E λa E=>pf E rfl rfl λa E=>pf E rfl rfl λa E=>wpList_nil ?_
    cases hF
    exact⟨rfl,⟨ok,E.keep [1,2,3,4,10,11,12,13,47]⟩⟩
   refine fk E ok qbm qaN rfl 0 rfl rfl λa E=>lw E (qaz rfl rfl) λa E=>pt E rfl rfl λa E=>mv E rfl λa E=>bw E 38 hF (λc45 hF E=>?_) λc45 hF E=>?_
   ·refine lsz E λa E=>lsq E λa E=>ls E λa E=>pf E rfl rfl λa E=>pf E rfl rfl λa E=>wpList_nil ?_
    cases hF
    exact⟨rfl,⟨ok,E.keep [1,2,3,4,10,11,12,13,47]⟩⟩
   refine mz E rfl rfl λa E=>lw E (qlW rfl rfl (InR.dec r16 (ir 0) c44)) λa E=>?_
   obtain⟨x46,e47,hF⟩:=bnd hF
   obtain⟨b48,o49,es50,hl51,rr52,at53,yy54⟩:=ia E 39 41 qbG hl_1 e47
   obtain⟨c59,c61,rfl,r55,l56,l57,l58,h60,h62⟩:=(qbd.1 rr52)
   refine lv E ok (yy54 _ _) λa E=>fv E qbm rfl λa E=>lv E ok (qaw qaN rfl (Holds.ro (At.sub 0 1 at53))) λa E=>lw E (qaz rfl rfl) λa E=>pt E rfl rfl λa E=>pf E rfl rfl λa E=>wpList_nil ?_
   cases hF
   exact⟨rfl,⟨ok,E.keep [1,2,3,4,10,11,12,13,47]⟩⟩
 intro e a w hO
 obtain⟨rfl,ok,E⟩:=hO
 refine qaa<|cf E rfl hF (λc82 hF=>?_) λc82 hF=>?_
 ·refine sg<|aw E rfl λa E=>wp_ret<|qak<|qaA<|qak ?_
  cases hF
  exact so (sr ⟨rfl,⟨m15,M17,le_m0,ok.drop.drop,E.d,rz E rfl,h18⟩⟩)
 refine wp_skip<|qaa<|wp_seq<|sg<|fk E ok qbm qaN rfl 0 rfl rfl λa E=>lw E (qaz rfl rfl) λa E=>mv E rfl λa E=>bw E 51 hF (λc83 hF E=>?_) λc83 hF E=>?_
 ·as_aux_lemma=>
   refine lsz E λa E=>lsz E λa E=>lsz E λa E=>pf E rfl rfl λa E=>wn<|c_if E rfl (λh=>by cases h) (λ_=>?_)
   refine wp_skip<|qaa<|wp_seq<|sg<|fk E ok qbm qaN rfl 0 rfl rfl λa E=>bd hF λr113 e114 hF=>lc E qir rfl (qcI N x20.Kind r29 e114 hG ok) λw ok a E=>mv E rfl λa E=>qbx r113 (λc115=>?_) (λc115=>?_)
   rotate_left
   ·as_aux_lemma=>
     have hF:=qby c115 hF
     have E:=E.upd 68 c115 rfl
     refine lsz E λa E=>lsz E λa E=>lsq E λa E=>ls E λa E=>pf E rfl rfl λa E=>wn<|c_if E rfl (λh=>by cases h) (λ_=>?_)
     refine wp_skip<|qaa<|sg<|fk E ok qbm qaN rfl 0 rfl rfl λa E=>lw E (qbg rfl rfl) λa E=>mv E rfl λa E=>bw E 84 hF (λc129 hF E=>?_) λc129 hF E=>?_
     ·refine lsq E λa E=>ls E λa E=>pf E rfl rfl λa E=>wn<|c_if E rfl (λh=>by cases h) (λ_=>?_)
      refine wp_skip<|qal<|qaa<|qab<|lw E (qaH rfl rfl (InR.inc r16 (qas hl_1) c19)) λa E=>mv E rfl λa E=>wpList_nil ?_
      cases hF
      exact qau ⟨m15,M17,le_m0,(ok.pk 4 [1,2,3] rfl (by decide)),E.keep [1,2,3,4,11,12,13],(InR.inc r16 (qas hl_1) c19),h18⟩
     refine fk E ok qbC qax rfl 0 rfl rfl λa E=>lw E (qeU rfl rfl) λa E=>pt E rfl rfl λa E=>wn<|cg E rfl hF (λc130 hF=>?_) λc130 hF=>?_
     ·refine wp_skip<|qal<|qaa<|qab<|lw E (qaH rfl rfl (InR.inc r16 (qas hl_1) c19)) λa E=>mv E rfl λa E=>wpList_nil ?_
      cases hF
      exact qau ⟨m15,M17,le_m0,(ok.pk 4 [1,2,3] rfl (by decide)),E.keep [1,2,3,4,11,12,13],(InR.inc r16 (qas hl_1) c19),h18⟩
     refine qab<|fk E ok qjk qhn rfl 1 rfl rfl λa E=>fk E ok qbC qax rfl 0 rfl rfl λa E=>bd hF λl131 e132 hF=>qd8 (.inl rfl) E ok 3 (qbe Tryz.underlying9) Tryz.underlying99 h18 rfl rfl rfl rfl ⟨rfl,l31⟩ qfD e132 rfl λM133 w ok h134=>wpList_nil<|qal<|qaa<|qab<|lw E (qaH rfl rfl (InR.inc r16 (qas hl_1) c19)) λa E=>mv E rfl λa E=>wpList_nil ?_
     cases hF
     exact qau ⟨m15,M133,le_m0,(ok.pk 4 [1,2,3] rfl (by decide)),E.keep [1,2,3,4,11,12,13],(InR.inc r16 (qas hl_1) c19),h134⟩
   have hF:=qbz c115 hF
   have E:=E.upd 68 c115 rfl
   refine mv E rfl λa E=>lw E (qbL rfl rfl) λa E=>mv E rfl λa E=>bu E 71 hF (λc116 hF E=>?_) λc116 hF E=>?_
   ·refine lsz E λa E=>lsq E λa E=>ls E λa E=>pt E rfl rfl λa E=>pt E rfl rfl λa E=>wn<|c_if E rfl (λ_=>?_) (λh=>by cases h)
    refine sg<|aw E rfl λa E=>wp_ret<|qak<|qaA<|qak ?_
    cases hF
    exact so (sr ⟨rfl,⟨m15,M17,le_m0,ok.drop.drop,E.d,rz E rfl,h18⟩⟩)
   refine lv E ok (qao (cs:=[vm0]) qkw rfl rfl (Holds.own 1 rfl rfl)) λa E=>lv E ok (qao (cs:=[vi x20.Kind,vs x20.Text,vs x20.Name,vs x20.Style,c33,c35]) qct rfl rfl (Holds.own 0 rfl rfl)) λa E=>mv E rfl λa E=>lw E (qbk rfl rfl) λa E=>mv E rfl λa E=>?_
   obtain⟨r117,e118,hF⟩:=bnd hF
   replace ok:Ok u m15 ([]::M17::[(b37,oc 90 [vi x20.Kind,vs x20.Text,vs x20.Name,vs x20.Style,c33,c35])]::[(b3,oc 145 [vm0])]::S) w:=(ok.pk 4 [2,3,0,1] rfl (by decide))
   refine qae E qtG rfl (ih_syntax_checker_cases _ x20 (qbd.2 ⟨_,_,rfl,r29,l30,l31,l32,h34,h36⟩) (IntKind.wrap .i64 (depth_2+1)) (InR.wrap _ _) counting_3 v14 h18 e118 hG ok) rfl rfl ?_
   rintro _ w ⟨m119,M120,rfl,hle,ok,h121⟩
   have le_m0:=le_m0.trans hle
   have hl_1:=(mL qah).up hle hl_1
   have h34:=(mL qaE).up hle h34
   have h36:=(mL qah).up hle h36
   have at27:=At.up hle at27
   refine⟨_,rfl,λa E=>?_⟩
   refine lw E (qa9 rfl) λa E=>pf E rfl rfl λa E=>pt E rfl rfl λa E=>wn<|cf E rfl hF (λc122 hF=>?_) λc122 hF=>?_
   ·refine sg<|aw E rfl λa E=>wp_ret<|qak<|qaA<|qak ?_
    cases hF
    exact so (sr ⟨rfl,⟨m119,M120,le_m0,(ok.pk 4 [0,1] rfl (by decide)),E.d,rz E rfl,h121⟩⟩)
   refine wp_skip<|qaa<|sg<|fk E ok qbm qaN rfl 2 rfl rfl λa E=>lw E (qbg rfl rfl) λa E=>mv E rfl λa E=>bw E 84 hF (λc123 hF E=>?_) λc123 hF E=>?_
   ·refine lsq E λa E=>ls E λa E=>pf E rfl rfl λa E=>wn<|c_if E rfl (λh=>by cases h) (λ_=>?_)
    refine wp_skip<|qal<|qaa<|qab<|lw E (qaH rfl rfl (InR.inc r16 (qas hl_1) c19)) λa E=>mv E rfl λa E=>wpList_nil ?_
    cases hF
    exact qau ⟨m119,M120,le_m0,(ok.pk 4 [3,0,1] rfl (by decide)),E.keep [1,2,3,4,11,12,13],(InR.inc r16 (qas hl_1) c19),h121⟩
   refine fk E ok qbC qax rfl 2 rfl rfl λa E=>lw E (qeU rfl rfl) λa E=>pt E rfl rfl λa E=>wn<|cg E rfl hF (λc124 hF=>?_) λc124 hF=>?_
   ·refine wp_skip<|qal<|qaa<|qab<|lw E (qaH rfl rfl (InR.inc r16 (qas hl_1) c19)) λa E=>mv E rfl λa E=>wpList_nil ?_
    cases hF
    exact qau ⟨m119,M120,le_m0,(ok.pk 4 [3,0,1] rfl (by decide)),E.keep [1,2,3,4,11,12,13],(InR.inc r16 (qas hl_1) c19),h121⟩
   refine qab<|fk E ok qjk qhn rfl 3 rfl rfl λa E=>fk E ok qbC qax rfl 2 rfl rfl λa E=>bd hF λl125 e126 hF=>qd8 (.inl rfl) E ok 1 (qbe Tryz.underlying9) Tryz.underlying99 h121 rfl rfl rfl rfl ⟨rfl,l31⟩ qfD e126 rfl λM127 w ok h128=>wpList_nil<|qal<|qaa<|qab<|lw E (qaH rfl rfl (InR.inc r16 (qas hl_1) c19)) λa E=>mv E rfl λa E=>wpList_nil ?_
   cases hF
   exact qau ⟨m119,M127,le_m0,(ok.pk 4 [3,0,1] rfl (by decide)),E.keep [1,2,3,4,11,12,13],(InR.inc r16 (qas hl_1) c19),h128⟩
 refine mv E rfl λa E=>lw E (qbL rfl rfl) λa E=>mv E rfl λa E=>bu E 54 hF (λc84 hF E=>?_) λc84 hF E=>?_
 ·refine lsz E λa E=>lsz E λa E=>pt E rfl rfl λa E=>pt E rfl rfl λa E=>wn<|c_if E rfl (λ_=>?_) (λh=>by cases h)
  refine sg<|aw E rfl λa E=>wp_ret<|qak<|qaA<|qak ?_
  cases hF
  exact so (sr ⟨rfl,⟨m15,M17,le_m0,ok.drop.drop,E.d,rz E rfl,h18⟩⟩)
 refine lv E ok (qao (cs:=[vm0]) qkw rfl rfl (Holds.own 1 rfl rfl)) λa E=>fk E ok qc1 qcr rfl 0 rfl rfl λa E=>mv E rfl λa E=>lw E (qbk rfl rfl) λa E=>mv E rfl λa E=>?_
 obtain⟨r85,e86,hF⟩:=bnd hF
 replace ok:Ok u m15 ([]::M17::[(b37,oc 90 [vi x20.Kind,vs x20.Text,vs x20.Name,vs x20.Style,c33,c35])]::[(b3,oc 145 [vm0])]::S) w:=(ok.pk 4 [2,3,0,1] rfl (by decide))
 refine qae E qoK rfl (ih_syntax_checker_parts _ x20.Parts h36 (IntKind.wrap .i64 (depth_2+1)) (InR.wrap _ _) counting_3 v14 h18 e86 hG ok) rfl rfl ?_
 rintro _ w ⟨m87,M88,rfl,hle,ok,h89⟩
 have le_m0:=le_m0.trans hle
 have hl_1:=(mL qah).up hle hl_1
 have h34:=(mL qaE).up hle h34
 have h36:=(mL qah).up hle h36
 have at27:=At.up hle at27
 refine⟨_,rfl,λa E=>?_⟩
 refine lw E (qa9 rfl) λa E=>pf E rfl rfl λa E=>pt E rfl rfl λa E=>wn<|cf E rfl hF (λc90 hF=>?_) λc90 hF=>?_
 ·refine sg<|aw E rfl λa E=>wp_ret<|qak<|qaA<|qak ?_
  cases hF
  exact so (sr ⟨rfl,⟨m87,M88,le_m0,(ok.pk 4 [0,1] rfl (by decide)),E.d,rz E rfl,h89⟩⟩)
 refine wp_skip<|qaa<|wp_seq<|sg<|fk E ok qbm qaN rfl 2 rfl rfl λa E=>bd hF λr91 e92 hF=>lc E qir rfl (qcI N x20.Kind r29 e92 hG ok) λw ok a E=>mv E rfl λa E=>qbx r91 (λc93=>?_) (λc93=>?_)
 rotate_left
 ·as_aux_lemma=>
   have hF:=qby c93 hF
   have E:=E.upd 68 c93 rfl
   refine lsz E λa E=>lsz E λa E=>lsq E λa E=>ls E λa E=>pf E rfl rfl λa E=>wn<|c_if E rfl (λh=>by cases h) (λ_=>?_)
   refine wp_skip<|qaa<|sg<|fk E ok qbm qaN rfl 2 rfl rfl λa E=>lw E (qbg rfl rfl) λa E=>mv E rfl λa E=>bw E 84 hF (λc107 hF E=>?_) λc107 hF E=>?_
   ·refine lsq E λa E=>ls E λa E=>pf E rfl rfl λa E=>wn<|c_if E rfl (λh=>by cases h) (λ_=>?_)
    refine wp_skip<|qal<|qaa<|qab<|lw E (qaH rfl rfl (InR.inc r16 (qas hl_1) c19)) λa E=>mv E rfl λa E=>wpList_nil ?_
    cases hF
    exact qau ⟨m87,M88,le_m0,(ok.pk 4 [3,0,1] rfl (by decide)),E.keep [1,2,3,4,11,12,13],(InR.inc r16 (qas hl_1) c19),h89⟩
   refine fk E ok qbC qax rfl 2 rfl rfl λa E=>lw E (qeU rfl rfl) λa E=>pt E rfl rfl λa E=>wn<|cg E rfl hF (λc108 hF=>?_) λc108 hF=>?_
   ·refine wp_skip<|qal<|qaa<|qab<|lw E (qaH rfl rfl (InR.inc r16 (qas hl_1) c19)) λa E=>mv E rfl λa E=>wpList_nil ?_
    cases hF
    exact qau ⟨m87,M88,le_m0,(ok.pk 4 [3,0,1] rfl (by decide)),E.keep [1,2,3,4,11,12,13],(InR.inc r16 (qas hl_1) c19),h89⟩
   refine qab<|fk E ok qjk qhn rfl 3 rfl rfl λa E=>fk E ok qbC qax rfl 2 rfl rfl λa E=>bd hF λl109 e110 hF=>qd8 (.inl rfl) E ok 1 (qbe Tryz.underlying9) Tryz.underlying99 h89 rfl rfl rfl rfl ⟨rfl,l31⟩ qfD e110 rfl λM111 w ok h112=>wpList_nil<|qal<|qaa<|qab<|lw E (qaH rfl rfl (InR.inc r16 (qas hl_1) c19)) λa E=>mv E rfl λa E=>wpList_nil ?_
   cases hF
   exact qau ⟨m87,M111,le_m0,(ok.pk 4 [3,0,1] rfl (by decide)),E.keep [1,2,3,4,11,12,13],(InR.inc r16 (qas hl_1) c19),h112⟩
 have hF:=qbz c93 hF
 have E:=E.upd 68 c93 rfl
 refine mv E rfl λa E=>lw E (qbL rfl rfl) λa E=>mv E rfl λa E=>bu E 71 hF (λc94 hF E=>?_) λc94 hF E=>?_
 ·refine lsz E λa E=>lsq E λa E=>ls E λa E=>pt E rfl rfl λa E=>pt E rfl rfl λa E=>wn<|c_if E rfl (λ_=>?_) (λh=>by cases h)
  refine sg<|aw E rfl λa E=>wp_ret<|qak<|qaA<|qak ?_
  cases hF
  exact so (sr ⟨rfl,⟨m87,M88,le_m0,(ok.pk 4 [0,1] rfl (by decide)),E.d,rz E rfl,h89⟩⟩)
 refine lv E ok (qao (cs:=[vm0]) qkw rfl rfl (Holds.own 3 rfl rfl)) λa E=>lv E ok (qao (cs:=[vi x20.Kind,vs x20.Text,vs x20.Name,vs x20.Style,c33,c35]) qct rfl rfl (Holds.own 2 rfl rfl)) λa E=>mv E rfl λa E=>lw E (qbk rfl rfl) λa E=>mv E rfl λa E=>bd hF λr95 e96 hF=>qae E qtG rfl (ih_syntax_checker_cases _ x20 (qbd.2 ⟨_,_,rfl,r29,l30,l31,l32,h34,h36⟩) (IntKind.wrap .i64 (depth_2+1)) (InR.wrap _ _) counting_3 r85.2 h89 e96 hG ok) rfl rfl ?_
 rintro _ w ⟨m97,M98,rfl,hle,ok,h99⟩
 have le_m0:=le_m0.trans hle
 have hl_1:=(mL qah).up hle hl_1
 have h34:=(mL qaE).up hle h34
 have h36:=(mL qah).up hle h36
 have at27:=At.up hle at27
 refine⟨_,rfl,λa E=>?_⟩
 refine lw E (qa9 rfl) λa E=>pf E rfl rfl λa E=>pt E rfl rfl λa E=>wn<|cf E rfl hF (λc100 hF=>?_) λc100 hF=>?_
 ·refine sg<|aw E rfl λa E=>wp_ret<|qak<|qaA<|qak ?_
  cases hF
  exact so (sr ⟨rfl,⟨m97,M98,le_m0,(ok.pk 4 [0,1] rfl (by decide)),E.d,rz E rfl,h99⟩⟩)
 refine wp_skip<|qaa<|sg<|fk E ok qbm qaN rfl 2 rfl rfl λa E=>lw E (qbg rfl rfl) λa E=>mv E rfl λa E=>bw E 84 hF (λc101 hF E=>?_) λc101 hF E=>?_
 ·refine lsq E λa E=>ls E λa E=>pf E rfl rfl λa E=>wn<|c_if E rfl (λh=>by cases h) (λ_=>?_)
  refine wp_skip<|qal<|qaa<|qab<|lw E (qaH rfl rfl (InR.inc r16 (qas hl_1) c19)) λa E=>mv E rfl λa E=>wpList_nil ?_
  cases hF
  exact qau ⟨m97,M98,le_m0,(ok.pk 4 [3,0,1] rfl (by decide)),E.keep [1,2,3,4,11,12,13],(InR.inc r16 (qas hl_1) c19),h99⟩
 refine fk E ok qbC qax rfl 2 rfl rfl λa E=>lw E (qeU rfl rfl) λa E=>pt E rfl rfl λa E=>wn<|cg E rfl hF (λc102 hF=>?_) λc102 hF=>?_
 ·refine wp_skip<|qal<|qaa<|qab<|lw E (qaH rfl rfl (InR.inc r16 (qas hl_1) c19)) λa E=>mv E rfl λa E=>wpList_nil ?_
  cases hF
  exact qau ⟨m97,M98,le_m0,(ok.pk 4 [3,0,1] rfl (by decide)),E.keep [1,2,3,4,11,12,13],(InR.inc r16 (qas hl_1) c19),h99⟩
 refine qab<|fk E ok qjk qhn rfl 3 rfl rfl λa E=>fk E ok qbC qax rfl 2 rfl rfl λa E=>bd hF λl103 e104 hF=>qd8 (.inl rfl) E ok 1 (qbe Tryz.underlying9) Tryz.underlying99 h99 rfl rfl rfl rfl ⟨rfl,l31⟩ qfD e104 rfl λM105 w ok h106=>wpList_nil<|qal<|qaa<|qab<|lw E (qaH rfl rfl (InR.inc r16 (qas hl_1) c19)) λa E=>mv E rfl λa E=>wpList_nil ?_
 cases hF
 exact qau ⟨m97,M105,le_m0,(ok.pk 4 [3,0,1] rfl (by decide)),E.keep [1,2,3,4,11,12,13],(InR.inc r16 (qas hl_1) c19),h106⟩
theorem qis(N:Nat)(ih_syntax_checker_parts:qdT N)(ih_syntax_checker_cases:qdP N):qdP (N+1):=by
 intro u m0 S w vx_1 x_1 hx_1 depth_2 rdepth_2 counting_3 vm0 Mm0 x0 hm0 r hF hG ok
 obtain⟨c5,c7,rfl,r1,l2,l3,l4,h6,h8⟩:=(qbd.1 hx_1)
 have le_m0:=Mem.le.refl m0
 have hF0:qdw (qbr N) (qb4 N) N x_1 depth_2 counting_3 x0=some r:=hF
 have hF:=hF0
 clear hF0
 unfold qdw at hF
 refine en (qgO u m0 S x0 vm0 Mm0) r Tryz.func98 rfl rfl rfl (by rintro a w ⟨m1,M9,hle,ok,hd,hrv,h0⟩;exact qbf [.t 8 (.bool r.1)] hd rfl hrv ⟨m1,M9,rfl,hle,ok,h0⟩) λfin a E=>sg<|qgl E ok rfl rfl rfl λb11 a w E ok=>qgl E ok rfl rfl rfl λb12 a w E ok=>aw E rfl λa E=>sg<|qf0 kS (oneV pB) E ok rfl rfl λc13 M14 a w E ok h15=>aw E rfl λa E=>wp_seq<|sg<|fk E ok qdN qfx rfl 1 rfl rfl λa E=>lv E ok (qa8 qch h6 rfl) λa E=>mv E rfl λa E=>wn<|wp_block<|bd hF λo23 hL hF=>qbb _ (λ(s:Int×(List (List UInt8×Bool))×(List (List UInt8×Bool))) a w=>∃ m24 M26 c28 M29,m0.le m24∧Ok u m24 (M29::[(b12,oc 90 [vi x_1.Kind,vs x_1.Text,vs x_1.Name,vs x_1.Style,c5,c7])]::[(b11,oc 145 [vm0])]::[]::M26::S) w∧Env 58 a [(2,vi depth_2),(3,vb counting_3),(4,vp b11),(5,vp b12),(9,c28),(14,c5),(15,(vi (x_1.Cases.length:Int))),(16,vi s.1)]∧InR .i64 s.1∧OMap kS (oneV pB) m24 vm0 s.2.1 M26∧OMap kS (oneV pB) m24 c28 s.2.2 M29) (λ(b:(((List (List UInt8×Bool))×(List (List UInt8×Bool)))⊕(Bool×(List (List UInt8×Bool))))) e a w=>(Sum.elim (λb97=>e=(.exit 0)∧∃ m98 M99 c101 M102,m0.le m98∧Ok u m98 (M102::[(b12,oc 90 [vi x_1.Kind,vs x_1.Text,vs x_1.Name,vs x_1.Style,c5,c7])]::[(b11,oc 145 [vm0])]::[]::M99::S) w∧Env 58 a [(5,vp b12),(9,c101)]∧OMap kS (oneV pB) m98 vm0 b97.1 M99∧OMap kS (oneV pB) m98 c101 b97.2 M102) (λb104=>e=.ret∧qgO u m0 S x0 vm0 Mm0 b104 a w)) b) ?_ ?_ N _ a w hL ⟨m0,Mm0,c13,M14,Mem.le.refl _,ok,E.keep [2,3,4,5,9,14,15,16],(ir 0),hm0,h15⟩
 rotate_left
 ·intro e a w _ hO
  rcases o23 with o23 | o23
  rotate_left
  ·obtain⟨rfl,hret⟩:=hO
   refine qaA<|qak ?_
   exact fin hF hret
  have hF:=qdI hF
  obtain⟨rfl,m86,M87,c89,M90,hle,ok,E,h88,h91⟩:=hO
  have le_m0:=le_m0.trans hle
  have h6:=(mL qaE).up hle h6
  have h8:=(mL qah).up hle h8
  refine qbh<|qaa<|sg<|fk E ok qdN qfx rfl 1 rfl rfl λa E=>lv E ok (qa8 qch h6 rfl) λa E=>lw E (qc8 rfl rfl) λa E=>mv E rfl λa E=>bw E 54 hF (λc92 hF E=>?_) λc92 hF E=>?_
  ·refine lsq E λa E=>pf E rfl rfl λa E=>aw E rfl λa E=>wp_ret ?_
   exact fin hF ⟨m86,M87,le_m0,ok.drop.drop.drop,E.d,rz E rfl,h88⟩
  refine mv E rfl λa E=>?_
  obtain⟨xv93,h94,yy95,yy96⟩:=qfC (P:=Tryz.prog) (mo:=.tmp 55) (ko:=.const (vs ([111,116,104,101,114]))) (zx:=(false:Bool)) ok 0 (qbe Tryz.underlying9) Tryz.underlying99 h91 rfl (qaD E rfl) (qaD E rfl) ⟨rfl,(show([111,116,104,101,114]:List UInt8).length≤LIMS by decide)⟩ qhH qfD
  obtain rfl:=qiZ h94
  refine lv E ok (yy95 _) λa E=>pt E rfl rfl λa E=>aw E rfl λa E=>wp_ret ?_
  exact fin hF ⟨m86,M87,le_m0,ok.drop.drop.drop,E.d,rz E rfl,h88⟩
 rintro⟨v31,v32,v33⟩ a w r ⟨m34,M36,c38,M39,hle,ok,E,r35,h37,h40⟩ hF
 replace hF:qc6 (qbr N) (qb4 N) N x_1 depth_2 counting_3 v31 v32 v33=some r:=hF
 unfold qc6 at hF
 have le_m0:=le_m0.trans hle
 have h6:=(mL qaE).up hle h6
 have h8:=(mL qah).up hle h8
 refine sg<|lw E (qaP rfl rfl) λa E=>wn<|wp_seq<|cg E rfl hF (λc41 hF=>?_) λc41 hF=>?_
 ·refine wp_exit<|qaM ?_
  cases hF
  exact so (sl ⟨rfl,⟨m34,M36,c38,M39,le_m0,ok,E.keep [5,9],h37,h40⟩⟩)
 refine wp_skip<|qaa<|wp_seq<|wp_block<|sg ?_
 obtain⟨x42,e43,hF⟩:=bnd hF
 obtain⟨b44,o45,es46,hl47,rr48,at49,yy50⟩:=ia E 14 16 qch h6 e43
 obtain⟨c52,rfl,l51,h53⟩:=rr48
 refine lv E ok (yy50 _ _) λa E=>lv E ok (qao (cs:=[vs x42.Key,c52]) qfE rfl rfl (Holds.ro at49)) λa E=>qaL E ok qb0 rfl rfl λb54 a w E ok=>qai E ok 0 rfl rfl rfl qgc rfl rfl ⟨rfl,(qbT h53),trivial⟩ rfl rfl λw ok=>wn<|wp_seq<|wp_seq<|bd hF λo55 hJ hF=>qaO (Q':=λe a w=>e=.normal∧∃ m56 M57,m34.le m56∧Ok u m56 ([(b54,oc 93 [vs x42.Key,c52])]::M39::[(b12,oc 90 [vi x_1.Kind,vs x_1.Text,vs x_1.Name,vs x_1.Style,c5,c7])]::[(b11,oc 145 [vm0])]::[]::M57::S) w∧Env 58 a [(2,vi depth_2),(3,vb counting_3),(4,vp b11),(5,vp b12),(9,c38),(11,vp b54),(14,c5),(15,(vi (x_1.Cases.length:Int))),(16,vi v31),(45,vb o55.1)]∧OMap kS (oneV pB) m56 vm0 o55.2 M57) ?_ ?_
 rotate_left
 ·intro e a w hO
  obtain⟨rfl,m78,M79,hle,ok,E,h80⟩:=hO
  have le_m0:=le_m0.trans hle
  have h6:=(mL qaE).up hle h6
  have h8:=(mL qah).up hle h8
  have h40:=OMap.up (qbc mB) hle h40
  have h53:=(mL qah).up hle h53
  have at49:=At.up hle at49
  refine qaa<|cf E rfl hF (λc81 hF=>?_) λc81 hF=>?_
  ·refine sg<|aw E rfl λa E=>wp_ret<|qak<|qaA<|qak ?_
   cases hF
   exact so (sr ⟨rfl,⟨m78,M79,le_m0,ok.drop.drop.drop.drop,E.d,rz E rfl,h80⟩⟩)
  refine wp_skip<|qaa<|qab<|mv E rfl λa E=>fk E ok qgi qax rfl 0 rfl rfl λa E=>bd hF λl82 e83 hF=>qd8 (.inl rfl) E ok 1 (qbe Tryz.underlying9) Tryz.underlying99 h40 rfl rfl rfl rfl ⟨rfl,l51⟩ qfD e83 rfl λM84 w ok h85=>wpList_nil<|qal<|qaa<|qab<|lw E (qaH rfl rfl (InR.inc r35 (qas h6) c41)) λa E=>mv E rfl λa E=>wpList_nil ?_
  cases hF
  exact qau ⟨m78,M79,c38,M84,le_m0,(ok.pk 6 [1,2,3,4,5] rfl (by decide)),E.keep [2,3,4,5,9,14,15,16],(InR.inc r35 (qas h6) c41),h80,h85⟩
 have hF:=hJ
 have le_m34:=Mem.le.refl m34
 refine qab<|fk E ok qbm qaN rfl 2 rfl rfl λa E=>fk E ok qgi qax rfl 0 rfl rfl λa E=>bd hF λr59 e60 hF=>lc E qnl rfl (qhm N x_1.Kind r1 x42.Key l51 e60 hG ok) λw ok a E=>lw E (qa9 rfl) λa E=>mv E rfl λa E=>bu E 26 hF (λc61 hF E=>?_) λc61 hF E=>?_
 ·refine lsz E λa E=>pt E rfl rfl λa E=>mv E rfl λa E=>lsz E λa E=>lsz E λa E=>lsq E λa E=>?_
  refine lsq E λa E=>pt E rfl rfl λa E=>wpList_nil ?_
  cases hF
  exact⟨rfl,⟨m34,M36,le_m34,ok,E.keep [2,3,4,5,9,11,14,15,16,45],h37⟩⟩
 refine mv E rfl λa E=>fk E ok qgi qax rfl 0 rfl rfl λa E=>?_
 obtain⟨xv62,h63,yy64,yy65⟩:=qfC (P:=Tryz.prog) (mo:=.tmp 27) (ko:=.tmp 29) (zx:=(false:Bool)) ok 1 (qbe Tryz.underlying9) Tryz.underlying99 h40 rfl (qaD E rfl) (qaD E rfl) ⟨rfl,l51⟩ qhH qfD
 obtain rfl:=qiZ h63
 refine lv E ok (yy64 _) λa E=>pf E rfl rfl λa E=>mv E rfl λa E=>bu E 32 hF (λc66 hF E=>?_) λc66 hF E=>?_
 ·refine lsz E λa E=>lsz E λa E=>lsz E λa E=>pt E rfl rfl λa E=>wpList_nil ?_
  cases hF
  exact⟨rfl,⟨m34,M36,le_m34,ok,E.keep [2,3,4,5,9,11,14,15,16,45],h37⟩⟩
 refine lv E ok (qao (cs:=[vm0]) qkw rfl rfl (Holds.own 3 rfl rfl)) λa E=>fk E ok qeL qcr rfl 0 rfl rfl λa E=>mz E rfl rfl λa E=>mv E rfl λa E=>qbx counting_3 (λc67=>?_) (λc67=>?_)
 ·have hF:=qbz c67 hF
  have E:=E.upd 38 c67 rfl
  refine lsq E λa E=>ls E λa E=>pt E rfl rfl λa E=>?_
  obtain⟨r68,e69,hF⟩:=bnd hF
  replace ok:Ok u m34 ([]::M36::[(b54,oc 93 [vs x42.Key,c52])]::M39::[(b12,oc 90 [vi x_1.Kind,vs x_1.Text,vs x_1.Name,vs x_1.Style,c5,c7])]::[(b11,oc 145 [vm0])]::S) w:=(ok.pk 6 [4,5,0,1,2,3] rfl (by decide))
  refine qae E qoK rfl (ih_syntax_checker_parts _ x42.Parts h53 depth_2 rdepth_2 true v32 h37 e69 hG ok) rfl rfl ?_
  rintro _ w ⟨m70,M71,rfl,hle,ok,h72⟩
  have le_m0:=le_m0.trans hle
  have le_m34:=le_m34.trans hle
  have h6:=(mL qaE).up hle h6
  have h8:=(mL qah).up hle h8
  have h40:=OMap.up (qbc mB) hle h40
  have h53:=(mL qah).up hle h53
  have at49:=At.up hle at49
  refine⟨_,rfl,λa E=>?_⟩
  refine lw E (qa9 rfl) λa E=>pf E rfl rfl λa E=>wpList_nil ?_
  cases hF
  exact⟨rfl,⟨m70,M71,le_m34,(ok.pk 6 [2,3,4,5,0,1] rfl (by decide)),E.keep [2,3,4,5,9,11,14,15,16,45],h72⟩⟩
 have hF:=qby c67 hF
 have E:=E.upd 38 c67 rfl
 refine fk E ok qbm qaN rfl 2 rfl rfl λa E=>lw E (qbg rfl rfl) λa E=>pf E rfl rfl λa E=>?_
 obtain⟨r73,e74,hF⟩:=bnd hF
 replace ok:Ok u m34 ([]::M36::[(b54,oc 93 [vs x42.Key,c52])]::M39::[(b12,oc 90 [vi x_1.Kind,vs x_1.Text,vs x_1.Name,vs x_1.Style,c5,c7])]::[(b11,oc 145 [vm0])]::S) w:=(ok.pk 6 [4,5,0,1,2,3] rfl (by decide))
 refine qae E qoK rfl (ih_syntax_checker_parts _ x42.Parts h53 depth_2 rdepth_2 (x_1.Kind != 9) v32 h37 e74 hG ok) rfl rfl ?_
 rintro _ w ⟨m75,M76,rfl,hle,ok,h77⟩
 have le_m0:=le_m0.trans hle
 have le_m34:=le_m34.trans hle
 have h6:=(mL qaE).up hle h6
 have h8:=(mL qah).up hle h8
 have h40:=OMap.up (qbc mB) hle h40
 have h53:=(mL qah).up hle h53
 have at49:=At.up hle at49
 refine⟨_,rfl,λa E=>?_⟩
 refine lw E (qa9 rfl) λa E=>pf E rfl rfl λa E=>wpList_nil ?_
 cases hF
 exact⟨rfl,⟨m75,M76,le_m34,(ok.pk 6 [2,3,4,5,0,1] rfl (by decide)),E.keep [2,3,4,5,9,11,14,15,16,45],h77⟩⟩
theorem qiA:qdT 0:=by
 intro u m0 S w vl_1 l_1 hl_1 depth_2 rdepth_2 counting_3 vm0 Mm0 x0 hm0 r hF hG ok
 replace hF:none=some r:=hF
 cases hF
theorem qit:qdP 0:=by
 intro u m0 S w vx_1 x_1 hx_1 depth_2 rdepth_2 counting_3 vm0 Mm0 x0 hm0 r hF hG ok
 replace hF:none=some r:=hF
 cases hF
theorem qhz(N:Nat):qdT N∧qdP N:=by
 induction N with
 | zero=>exact⟨qiA,qit⟩
 | succ N h=>exact⟨qiD N h.1 h.2,qis N h.1 h.2⟩
theorem qjK{u:World}{m0:Mem}{S:Segs}{w:World}(N:Nat)(vl_1:Value)(l_1:List (Part))(hl_1:(pL 6 qaS) m0 [vl_1] l_1)(depth_2:Int)(rdepth_2:InR .i64 depth_2)(counting_3:Bool){vm0:Value}{Mm0:List (Nat×Obj)}(x0:List (List UInt8×Bool))(hm0:OMap kS (oneV pB) m0 vm0 x0 Mm0){r:Bool×(List (List UInt8×Bool))}(hF:qbr N l_1 depth_2 counting_3 x0=some r)(hG:Glob u)(ok:Ok u m0 ([]::Mm0::S) w) :
 Calls Tryz.prog 66 [Value.agg [vm0].toArray,vl_1,vi depth_2,vb counting_3].toArray w λe w'=>∃ m1 M1,e=.returned (.bool r.1)∧m0.le m1∧Ok u m1 ([]::M1::S) w'∧OMap kS (oneV pB) m1 vm0 r.2 M1:=(qhz N).1 vl_1 l_1 hl_1 depth_2 rdepth_2 counting_3 x0 hm0 hF hG ok
def qnW(u:World)(m0:Mem)(S:Segs)(r:Bool)(a:Act)(w:World):Prop:=
 Ok u m0 S w∧a.defers=[]∧RVs Tryz.prog a w [.t 4 (.bool r)]
theorem qnX(N:Nat)(vparts_0:Value)(parts_0:List (Part))(hparts_0:(pL 6 qaS) m0 [vparts_0] parts_0)(counting_1:Bool){r:Bool}(hF:qhi N parts_0 counting_1=some r)(hG:Glob u)(ok:Ok u m0 S w) :
  Calls Tryz.prog 40 [vparts_0,vb counting_1].toArray w λe w'=>(e=.returned (.bool r)∧Ok u m0 S w'):=by
 have hb0:=ok.base
 have le_m0:=Mem.le.refl m0
 unfold qhi at hF
 refine en (qnW u m0 S) r Tryz.func40 rfl rfl rfl (λ_ _ h=>ra h rfl) λfin a E=>sg<|aw E rfl λa E=>sg<|qf0 kS (oneV pB) E ok rfl rfl λc1 M2 a w E ok h3=>lw E (qbY (ps:=[(0,.tmp 6)]) (qs:=[(0,[c1])]) (cs:=[c1]) qpi qq6 rfl ⟨rfl,(OMap.cells h3),rfl,trivial⟩ rfl) λa E=>qaL E ok qpi rfl rfl λb4 a w E ok=>qai E ok 0 rfl rfl rfl quk rfl rfl ⟨(OMap.one h3),trivial⟩ rfl rfl λw ok=>wn<|sg<|lv E ok (qao (cs:=[c1]) qkw rfl rfl (Holds.own 0 rfl rfl)) λa E=>mz E rfl rfl λa E=>?_
 replace ok:=ok.addnil
 obtain⟨r6,e7,hF⟩:=bnd hF
 replace ok:Ok u m0 ([]::M2::[(b4,oc 145 [c1])]::S) w:=(ok.pk 3 [0,2,1] rfl (by decide))
 refine qae E qoK rfl (qjK N _ parts_0 hparts_0 0 (ir 0) counting_1 ([]:List (List UInt8×Bool)) h3 e7 hG ok) rfl rfl ?_
 rintro _ w ⟨m8,M9,rfl,hle,ok,h10⟩
 have le_m0:=le_m0.trans hle
 have hparts_0:=(mL qah).up hle hparts_0
 refine⟨_,rfl,λa E=>?_⟩
 refine mv E rfl λa E=>qbx r6.1 (λc11=>?_) (λc11=>?_)
 rotate_left
 ·have hF:=qby c11 hF
  have E:=E.upd 12 c11 rfl
  refine lsz E λa E=>pf E rfl rfl λa E=>mv E rfl λa E=>lsq E λa E=>ls E λa E=>pf E rfl rfl λa E=>aw E rfl λa E=>wp_ret ?_
  exact fin hF ⟨(ok.drop.drop.drop).down hb0 le_m0,E.d,rz E rfl⟩
 have hF:=qbz c11 hF
 have E:=E.upd 12 c11 rfl
 refine fk E ok qjk qhn rfl 2 rfl rfl λa E=>lv E ok (qsH 1 rfl Tryz.underlying99 h10 rfl) λa E=>lw E (qc8 rfl rfl) λa E=>pt E rfl rfl λa E=>mv E rfl λa E=>bw E 18 hF (λc12 hF E=>?_) λc12 hF E=>?_
 ·refine lsq E λa E=>ls E λa E=>pf E rfl rfl λa E=>aw E rfl λa E=>wp_ret ?_
  exact fin hF ⟨(ok.drop.drop.drop).down hb0 le_m0,E.d,rz E rfl⟩
 refine mv E rfl λa E=>bd hF λr13 e14 hF=>qae E qoS rfl (qjH N _ parts_0 hparts_0 e14 hG ok) rfl rfl ?_
 rintro _ w ⟨⟨rfl,ok⟩,r15⟩
 refine⟨_,rfl,λa E=>?_⟩
 refine lw E (qc8 rfl rfl) λa E=>pt E rfl rfl λa E=>aw E rfl λa E=>wp_ret ?_
 exact fin hF ⟨(ok.drop.drop.drop).down hb0 le_m0,E.d,rz E rfl⟩
def qnU(u:World)(m0:Mem)(S:Segs)(r:Bool)(a:Act)(w:World):Prop:=
 Ok u m0 S w∧a.defers=[]∧RVs Tryz.prog a w [.t 2 (.bool r)]
theorem qgF(N:Nat)(vparts_0:Value)(parts_0:List (Part))(hparts_0:(pL 6 qaS) m0 [vparts_0] parts_0){r:Bool}(hF:qev N parts_0=some r)(hG:Glob u)(ok:Ok u m0 S w) :
  Calls Tryz.prog 21 [vparts_0].toArray w λe w'=>(e=.returned (.bool r)∧Ok u m0 S w'):=by
 unfold qev at hF
 refine en (qnU u m0 S) r Tryz.func21 rfl rfl rfl (λ_ _ h=>ra h rfl) λfin a E=>sg<|aw E rfl λa E=>sg<|mv E rfl λa E=>bd hF λr1 e2 hF=>lc E qwi rfl (qnX N _ parts_0 hparts_0 false e2 hG ok) λw ok a E=>aw E rfl λa E=>wp_ret ?_
 exact fin hF ⟨ok,E.d,rz E rfl⟩
theorem qji{u:World}{m:Mem}{S:Segs}{w:World}{b:Nat}{v:Value}(ok:Ok u m ([(b,oc 126 [(Value.pointer none),v])]::S) w) :
  Calls Tryz.prog 122 [.pointer (some ⟨b,0,none⟩)].toArray w λe w'=>e=.returned (.tuple [].toArray)∧Ok u m ([(b,oc 126 [vp b,v])]::S) w':=by
 have fin:∀ a w,(a.defers=[]∧Ok u m ([(b,oc 126 [vp b,v])]::S) w)→bodyPost Tryz.prog Tryz.f122 (λe w'=>e=.returned (.tuple [].toArray)∧Ok u m ([(b,oc 126 [vp b,v])]::S) w') .ret a w:=λa w h=>qbf [] h.1 rfl trivial ⟨rfl,h.2⟩
 refine enter Tryz.func122 rfl rfl rfl λa E=>sg<|mv E rfl λa E=>lw E (qan rfl) λa E=>fk E ok qgq qiJ rfl 0 rfl rfl λa E=>lv E ok (qhP Tryz.underlying121 rfl rfl) λa E=>wn<|c_if E rfl (λ_=>?_) (λh=>by cases h)
 refine qab<|mz E rfl rfl λa E=>lv E ok (qnD Tryz.underlying121 Tryz.underlying201 qqu (by decide) (qjD (c:=[(Value.pointer none),v]) 0 rfl) (Nat.le_of_ble_eq_true rfl) rfl) λa E=>lv E ok (qnC Tryz.func135 (by kernel_rfl) (by kernel_rfl) (by kernel_rfl) (by kernel_rfl) rfl) λa E=>lv E ok (qlu Tryz.underlying201 Tryz.underlying121 qkE (qjD (c:=[(Value.pointer none),v]) 0 rfl) qpz rfl) λa E=>lw E (qan rfl) λa E=>fv E qgq rfl λa E=>qai E ok 0 rfl rfl rfl qqC rfl rfl ⟨rfl,trivial⟩ rfl rfl λw ok=>wpList_nil ?_
 exact fin _ _ ⟨E.d,ok⟩
theorem qiy{u:World}{m:Mem}{S:Segs}{w:World}{b:Nat}{v:Value}(ok:Ok u m ([(b,oc 126 [vp b,v])]::S) w) :
  Calls Tryz.prog 122 [.pointer (some ⟨b,0,none⟩)].toArray w λe w'=>e=.returned (.tuple [].toArray)∧Ok u m ([(b,oc 126 [vp b,v])]::S) w':=by
 have fin:∀ a w,(a.defers=[]∧Ok u m ([(b,oc 126 [vp b,v])]::S) w)→bodyPost Tryz.prog Tryz.f122 (λe w'=>e=.returned (.tuple [].toArray)∧Ok u m ([(b,oc 126 [vp b,v])]::S) w') .ret a w:=λa w h=>qbf [] h.1 rfl trivial ⟨rfl,h.2⟩
 refine enter Tryz.func122 rfl rfl rfl λa E=>sg<|mv E rfl λa E=>lw E (qan rfl) λa E=>fk E ok qgq qiJ rfl 0 rfl rfl λa E=>lv E ok (qhP Tryz.underlying121 rfl rfl) λa E=>wn<|c_if E rfl (λh=>by cases h) (λ_=>?_)
 refine sg<|mv E rfl λa E=>lw E (qan rfl) λa E=>fk E ok qgq qiJ rfl 0 rfl rfl λa E=>mv E rfl λa E=>lv E ok (qot Tryz.underlying121 qkE rfl rfl) λa E=>wn<|c_if E rfl (λh=>by cases h) (λ_=>?_)
 refine wp_skip ?_
 exact fin _ _ ⟨E.d,ok⟩
theorem qjI{u:World}{m:Mem}{S:Segs}{w:World}{b:Nat}{a v:Value}(ha:BAd b a)(ok:Ok u m ([(b,oc 126 [a,v])]::S) w) :
  Calls Tryz.prog 122 [.pointer (some ⟨b,0,none⟩)].toArray w λe w'=>e=.returned (.tuple [].toArray)∧Ok u m ([(b,oc 126 [vp b,v])]::S) w':=by
 rcases ha with rfl | rfl
 ·exact qji ok
 ·exact qiy ok
def qht(u:World)(m0:Mem)(S:Segs)(pb0:Nat)(x0:Printer)(c1:Value)(c3:Value)(M4:List (Nat×Obj))(r:Int×Unit×Printer)(a:Act)(w:World):Prop:=
 ∃ c6 c8 M9,Ok u m0 ([(pb0,oc 126 [c6,c8])]::M9::S) w∧a.defers=[]∧RVs Tryz.prog a w [.t 4 (.int .i64 r.1),.t 5 .nilIface]∧InR .i64 r.1∧BAd pb0 c6∧ORow 5 1 (pI .u8) m0 c8 r.2.2.Builder.buf M9
theorem qhs(N:Nat)(s_1:List UInt8)(ls_1:s_1.length≤LIMS){pb0:Nat}{c1:Value}{c3:Value}{M4:List (Nat×Obj)}(x0:Printer)(h2:BAd pb0 c1)(h5:ORow 5 1 (pI .u8) m0 c3 x0.Builder.buf M4){r:Int×Unit×Printer}(hF:qcZ N s_1 x0=some r)(hG:Glob u)(ok:Ok u m0 ([(pb0,oc 126 [c1,c3])]::M4::S) w) :
  Calls Tryz.prog 131 [vp pb0,vs s_1].toArray w λe w'=>∃ c6 c8 M9,(e=.returned (.tuple [(.int .i64 r.1),.nilIface].toArray)∧Ok u m0 ([(pb0,oc 126 [c6,c8])]::M9::S) w')∧InR .i64 r.1∧BAd pb0 c6∧ORow 5 1 (pI .u8) m0 c8 r.2.2.Builder.buf M9:=by
 unfold qcZ at hF
 refine en (qht u m0 S pb0 x0 c1 c3 M4) r Tryz.func131 rfl rfl rfl (by rintro a w ⟨c6,c8,M9,ok,hd,hrv,h0,h1,h2⟩;exact qbf [.t 4 (.int .i64 r.1),.t 5 .nilIface] hd rfl hrv ⟨c6,c8,M9,⟨rfl,ok⟩,h0,h1,h2⟩) λfin a E=>sg<|av E rfl λa E=>aw E rfl λa E=>sg<|mv E rfl λa E=>lc E qre rfl (qjI h2 ok) λw ok a E=>wn<|sg<|mz E rfl rfl λa E=>lw E (qan rfl) λa E=>fv E qkG rfl λa E=>ld E ok qqD 0 rfl rfl rfl λa E=>mv E rfl λa E=>?_
 refine bd hF λl11 e12 hF=>qu9 E ok 1 qpK Tryz.underlying9 rfl h5 e12 ⟨_,qo7,rfl⟩ rfl rfl rfl rfl λc13 M14 a w E ok h15=>lw E (qan rfl) λa E=>fv E qkG rfl λa E=>qai E ok 0 rfl rfl rfl qp9 (ORow.cells h15) rfl ⟨(ORow.one h15),trivial⟩ rfl rfl λw ok=>wn<|sg<|mv E rfl λa E=>lw E (qbp Tryz.underlying9 rfl) λa E=>av E rfl λa E=>aw E rfl λa E=>wp_ret ?_
 exact fin hF ⟨(vp pb0),c13,M14,ok,E.d,⟨rv_t E rfl,rv_t E rfl,trivial⟩,(InR.len ls_1),(.inr rfl),h15⟩
def qj7(u:World)(m0:Mem)(S:Segs)(pb0:Nat)(x0:Printer)(c1:Value)(c3:Value)(M4:List (Nat×Obj))(r:Printer)(a:Act)(w:World):Prop:=
 ∃ c6 c8 M9,Ok u m0 ([(pb0,oc 126 [c6,c8])]::M9::S) w∧a.defers=[]∧RVs Tryz.prog a w []∧BAd pb0 c6∧ORow 5 1 (pI .u8) m0 c8 r.Builder.buf M9
theorem qbH(N:Nat)(vl_1:Value)(l_1:List (List UInt8))(hl_1:(pL 1 pS) m0 [vl_1] l_1){pb0:Nat}{c1:Value}{c3:Value}{M4:List (Nat×Obj)}(x0:Printer)(h2:BAd pb0 c1)(h5:ORow 5 1 (pI .u8) m0 c3 x0.Builder.buf M4){r:Printer}(hF:qbi N l_1 x0=some r)(hG:Glob u)(ok:Ok u m0 ([(pb0,oc 126 [c1,c3])]::M4::S) w) :
  Calls Tryz.prog 117 [vp pb0,vl_1].toArray w λe w'=>∃ c6 c8 M9,(e=.returned (.tuple [].toArray)∧Ok u m0 ([(pb0,oc 126 [c6,c8])]::M9::S) w')∧BAd pb0 c6∧ORow 5 1 (pI .u8) m0 c8 r.Builder.buf M9:=by
 unfold qbi at hF
 refine en (qj7 u m0 S pb0 x0 c1 c3 M4) r Tryz.func117 rfl rfl rfl (by rintro a w ⟨c6,c8,M9,ok,hd,hrv,h0,h1⟩;exact qbf [] hd rfl hrv ⟨c6,c8,M9,⟨rfl,ok⟩,h0,h1⟩) λfin a E=>sg<|mv E rfl λa E=>lv E ok (qa8 qce hl_1 rfl) λa E=>mv E rfl λa E=>wn<|wp_block<|bd hF λo18 hL hF=>qbb _ (λ(s:Int×Printer) a w=>∃ c20 c22 M23,Ok u m0 ([(pb0,oc 126 [c20,c22])]::M23::S) w∧Env 18 a [(0,vp pb0),(6,vl_1),(7,(vi (l_1.length:Int))),(8,vi s.1)]∧InR .i64 s.1∧BAd pb0 c20∧ORow 5 1 (pI .u8) m0 c22 s.2.Builder.buf M23) (λ(b:Printer) e a w=>e=(.exit 0)∧∃ c57 c59 M60,Ok u m0 ([(pb0,oc 126 [c57,c59])]::M60::S) w∧Env 18 a []∧BAd pb0 c57∧ORow 5 1 (pI .u8) m0 c59 b.Builder.buf M60) ?_ ?_ N _ a w hL ⟨c1,c3,M4,ok,E.keep [0,6,7,8],(ir 0),h2,h5⟩
 rotate_left
 ·intro e a w _ hO
  obtain⟨rfl,c52,c54,M55,ok,E,h53,h56⟩:=hO
  refine qbh ?_
  exact fin hF ⟨c52,c54,M55,ok,E.d,trivial,h53,h56⟩
 rintro⟨v25,v26⟩ a w r ⟨c28,c30,M31,ok,E,r27,h29,h32⟩ hF
 replace hF:qdi N l_1 v25 v26=some r:=hF
 unfold qdi at hF
 refine sg<|lw E (qaP rfl rfl) λa E=>wn<|wp_seq<|cg E rfl hF (λc33 hF=>?_) λc33 hF=>?_
 ·refine wp_exit<|qaM ?_
  cases hF
  exact so (⟨rfl,⟨c28,c30,M31,ok,E.keep [],h29,h32⟩⟩)
 refine wp_skip<|qaa<|wp_seq<|wp_block<|sg ?_
 obtain⟨x34,e35,hF⟩:=bnd hF
 obtain⟨b36,o37,es38,hl39,rr40,at41,yy42⟩:=ia E 6 8 qce hl_1 e35
 obtain⟨rfl,l43⟩:=rr40
 refine lv E ok (yy42 _ _) λa E=>lv E ok (qaw qax rfl (Holds.ro at41)) λa E=>aw E rfl λa E=>qab<|mv E rfl λa E=>lw E (qan rfl) λa E=>fv E qoX rfl λa E=>mv E rfl λa E=>bd hF λr44 e45 hF=>qae E quQ rfl (qhs N x34 l43 (Printer.mk (Builder.mk () v26.Builder.buf)) h29 h32 e45 hG ok) rfl rfl ?_
 rintro _ w ⟨c47,c49,M50,⟨rfl,ok⟩,r46,h48,h51⟩
 refine⟨_,rfl,λa E=>?_⟩
 refine wpList_nil<|qal<|qaa<|qab<|lw E (qaH rfl rfl (InR.inc r27 (qas hl_1) c33)) λa E=>mv E rfl λa E=>wpList_nil ?_
 cases hF
 exact qau ⟨c47,c49,M50,ok,E.keep [0,6,7,8],(InR.inc r27 (qas hl_1) c33),h48,h51⟩
def qjm(u:World)(m0:Mem)(S:Segs)(pb0:Nat)(x0:Printer)(c1:Value)(c3:Value)(M4:List (Nat×Obj))(r:Printer)(a:Act)(w:World):Prop:=
 ∃ c6 c8 M9,Ok u m0 ([(pb0,oc 126 [c6,c8])]::M9::S) w∧a.defers=[]∧RVs Tryz.prog a w []∧BAd pb0 c6∧ORow 5 1 (pI .u8) m0 c8 r.Builder.buf M9
def qjM(u:World)(m0:Mem)(S:Segs)(pb0:Nat)(x0:Printer)(c9:Value)(c11:Value)(M12:List (Nat×Obj))(r:Printer)(a:Act)(w:World):Prop:=
 ∃ c14 c16 M17,Ok u m0 ([(pb0,oc 126 [c14,c16])]::M17::S) w∧a.defers=[]∧RVs Tryz.prog a w []∧BAd pb0 c14∧ORow 5 1 (pI .u8) m0 c16 r.Builder.buf M17
def qdG(N:Nat):Prop:=∀ {u:World} {m0:Mem} {S:Segs} {w:World} (vl_1:Value) (l_1:List (Part)) (hl_1:(pL 6 qaS) m0 [vl_1] l_1) {pb0:Nat} {c1:Value} {c3:Value} {M4:List (Nat×Obj)} (x0:Printer) (h2:BAd pb0 c1) (h5:ORow 5 1 (pI .u8) m0 c3 x0.Builder.buf M4) {r:Printer} (hF:qbB N l_1 x0=some r) (hG:Glob u) (ok:Ok u m0 ([(pb0,oc 126 [c1,c3])]::M4::S) w),Calls Tryz.prog 51 [vp pb0,vl_1].toArray w λe w'=>∃ c6 c8 M9,(e=.returned (.tuple [].toArray)∧Ok u m0 ([(pb0,oc 126 [c6,c8])]::M9::S) w')∧BAd pb0 c6∧ORow 5 1 (pI .u8) m0 c8 r.Builder.buf M9
def qdW(N:Nat):Prop:=∀ {u:World} {m0:Mem} {S:Segs} {w:World} (vx_1:List Value) (x_1:Part) (hx_1:qaS m0 vx_1 x_1) {pb0:Nat} {c9:Value} {c11:Value} {M12:List (Nat×Obj)} (x0:Printer) (h10:BAd pb0 c9) (h13:ORow 5 1 (pI .u8) m0 c11 x0.Builder.buf M12) {r:Printer} (hF:qb5 N x_1 x0=some r) (hG:Glob u) (ok:Ok u m0 ([(pb0,oc 126 [c9,c11])]::M12::S) w),Calls Tryz.prog 84 [vp pb0,.agg vx_1.toArray].toArray w λe w'=>∃ c14 c16 M17,(e=.returned (.tuple [].toArray)∧Ok u m0 ([(pb0,oc 126 [c14,c16])]::M17::S) w')∧BAd pb0 c14∧ORow 5 1 (pI .u8) m0 c16 r.Builder.buf M17
theorem qid(N:Nat)(ih_printer_printer_parts:qdG N)(ih_printer_printer_part:qdW N):qdG (N+1):=by
 intro u m0 S w vl_1 l_1 hl_1 pb0 c1 c3 M4 x0 h2 h5 r hF hG ok
 have hF0:qdd (qbB N) (qb5 N) N l_1 x0=some r:=hF
 have hF:=hF0
 clear hF0
 unfold qdd at hF
 refine en (qjm u m0 S pb0 x0 c1 c3 M4) r Tryz.func51 rfl rfl rfl (by rintro a w ⟨c6,c8,M9,ok,hd,hrv,h0,h1⟩;exact qbf [] hd rfl hrv ⟨c6,c8,M9,⟨rfl,ok⟩,h0,h1⟩) λfin a E=>sg<|mv E rfl λa E=>lv E ok (qa8 qbG hl_1 rfl) λa E=>mv E rfl λa E=>wn<|wp_block<|bd hF λo18 hL hF=>qbb _ (λ(s:Int×Printer) a w=>∃ c20 c22 M23,Ok u m0 ([(pb0,oc 126 [c20,c22])]::M23::S) w∧Env 16 a [(0,vp pb0),(6,vl_1),(7,(vi (l_1.length:Int))),(8,vi s.1)]∧InR .i64 s.1∧BAd pb0 c20∧ORow 5 1 (pI .u8) m0 c22 s.2.Builder.buf M23) (λ(b:Printer) e a w=>e=(.exit 0)∧∃ c64 c66 M67,Ok u m0 ([(pb0,oc 126 [c64,c66])]::M67::S) w∧Env 16 a []∧BAd pb0 c64∧ORow 5 1 (pI .u8) m0 c66 b.Builder.buf M67) ?_ ?_ N _ a w hL ⟨c1,c3,M4,ok,E.keep [0,6,7,8],(ir 0),h2,h5⟩
 rotate_left
 ·intro e a w _ hO
  obtain⟨rfl,c59,c61,M62,ok,E,h60,h63⟩:=hO
  refine qbh ?_
  exact fin hF ⟨c59,c61,M62,ok,E.d,trivial,h60,h63⟩
 rintro⟨v25,v26⟩ a w r ⟨c28,c30,M31,ok,E,r27,h29,h32⟩ hF
 replace hF:qcT (qbB N) (qb5 N) N l_1 v25 v26=some r:=hF
 unfold qcT at hF
 refine sg<|lw E (qaP rfl rfl) λa E=>wn<|wp_seq<|cg E rfl hF (λc33 hF=>?_) λc33 hF=>?_
 ·refine wp_exit<|qaM ?_
  cases hF
  exact so (⟨rfl,⟨c28,c30,M31,ok,E.keep [],h29,h32⟩⟩)
 refine wp_skip<|qaa<|wp_seq<|wp_block<|sg ?_
 obtain⟨x34,e35,hF⟩:=bnd hF
 obtain⟨b36,o37,es38,hl39,rr40,at41,yy42⟩:=ia E 6 8 qbG hl_1 e35
 obtain⟨c47,c49,rfl,r43,l44,l45,l46,h48,h50⟩:=(qbd.1 rr40)
 refine lv E ok (yy42 _ _) λa E=>lv E ok (qao (cs:=[vi x34.Kind,vs x34.Text,vs x34.Name,vs x34.Style,c47,c49]) qct rfl rfl (Holds.ro at41)) λa E=>qaL E ok qbw rfl rfl λb51 a w E ok=>qai E ok 0 rfl rfl rfl qel rfl rfl ⟨rfl,rfl,rfl,rfl,(qbT h48),(qbT h50),trivial⟩ rfl rfl λw ok=>wn<|qab<|mv E rfl λa E=>lv E ok (qao (cs:=[vi x34.Kind,vs x34.Text,vs x34.Name,vs x34.Style,c47,c49]) qct rfl rfl (Holds.own 0 rfl rfl)) λa E=>?_
 obtain⟨r52,e53,hF⟩:=bnd hF
 replace ok:Ok u m0 ([(pb0,oc 126 [c28,c30])]::M31::[(b51,oc 90 [vi x34.Kind,vs x34.Text,vs x34.Name,vs x34.Style,c47,c49])]::S) w:=(ok.pk 3 [1,2,0] rfl (by decide))
 refine qae E qvI rfl (ih_printer_printer_part _ x34 (qbd.2 ⟨_,_,rfl,r43,l44,l45,l46,h48,h50⟩) (Printer.mk (Builder.mk () v26.Builder.buf)) h29 h32 e53 hG ok) rfl rfl ?_
 rintro _ w ⟨c54,c56,M57,⟨rfl,ok⟩,h55,h58⟩
 refine⟨_,rfl,λa E=>?_⟩
 refine wpList_nil<|qal<|qaa<|qab<|lw E (qaH rfl rfl (InR.inc r27 (qas hl_1) c33)) λa E=>mv E rfl λa E=>wpList_nil ?_
 cases hF
 exact qau ⟨c54,c56,M57,(ok.pk 3 [0,1] rfl (by decide)),E.keep [0,6,7,8],(InR.inc r27 (qas hl_1) c33),h55,h58⟩
theorem qiI(N:Nat)(ih_printer_printer_parts:qdG N)(ih_printer_printer_part:qdW N):qdW (N+1):=by
 intro u m0 S w vx_1 x_1 hx_1 pb0 c9 c11 M12 x0 h10 h13 r hF hG ok
 obtain⟨c5,c7,rfl,r1,l2,l3,l4,h6,h8⟩:=(qbd.1 hx_1)
 have hb0:=ok.base
 have le_m0:=Mem.le.refl m0
 have hF0:qdn (qbB N) (qb5 N) N x_1 x0=some r:=hF
 have hF:=hF0
 clear hF0
 unfold qdn at hF
 refine en (qjM u m0 S pb0 x0 c9 c11 M12) r Tryz.func84 rfl rfl rfl (by rintro a w ⟨c14,c16,M17,ok,hd,hrv,h0,h1⟩;exact qbf [] hd rfl hrv ⟨c14,c16,M17,⟨rfl,ok⟩,h0,h1⟩) λfin a E=>sg<|qgl E ok rfl rfl rfl λb19 a w E ok=>wn<|sg<|lv E ok (qmx (ps:=[(3,.const (vs ([110,117,109,98,101,114]))),(4,.const (vs ([117,110,105,116]))),(5,.const (vs ([100,97,116,101]))),(6,.const (vs ([108,105,115,116]))),(7,.const (vs ([112,108,117,114,97,108]))),(8,.const (vs ([111,114,100,105,110,97,108]))),(9,.const (vs ([115,101,108,101,99,116])))]) (qs:=[(3,[(vs ([110,117,109,98,101,114]))]),(4,[(vs ([117,110,105,116]))]),(5,[(vs ([100,97,116,101]))]),(6,[(vs ([108,105,115,116]))]),(7,[(vs ([112,108,117,114,97,108]))]),(8,[(vs ([111,114,100,105,110,97,108]))]),(9,[(vs ([115,101,108,101,99,116]))])]) (cs:=[(vs ([])),(vs ([])),(vs ([])),(vs ([110,117,109,98,101,114])),(vs ([117,110,105,116])),(vs ([100,97,116,101])),(vs ([108,105,115,116])),(vs ([112,108,117,114,97,108])),(vs ([111,114,100,105,110,97,108])),(vs ([115,101,108,101,99,116]))]) qpj qqm rfl ⟨rfl,rfl,rfl,⟨rfl,rfl,rfl,⟨rfl,rfl,rfl,⟨rfl,rfl,rfl,⟨rfl,rfl,rfl,⟨rfl,rfl,rfl,⟨rfl,rfl,rfl,trivial⟩⟩⟩⟩⟩⟩⟩ rfl) λa E=>qaL E ok qpj rfl rfl λb20 a w E ok=>qai E ok 0 rfl rfl rfl qux rfl rfl ⟨rfl,rfl,rfl,rfl,rfl,rfl,rfl,rfl,rfl,rfl,trivial⟩ rfl rfl λw ok=>wn<|sg<|fv E qbm rfl λa E=>ld E ok qaN 1 rfl rfl rfl λa E=>wn<|wp_block<|sg<|lw E (qaz rfl rfl) λa E=>av E rfl λa E=>?_
 refine wn<|cf E rfl hF (λc21 hF=>?_) λc21 hF=>?_
 ·refine qab<|mv E rfl λa E=>fk E ok qfY qax rfl 1 rfl rfl λa E=>bd hF λr22 e23 hF=>qae E qtA rfl (qj9 N x_1.Text l2 e23 hG ok) rfl rfl ?_
  rintro _ w ⟨⟨rfl,ok⟩,l24⟩
  refine⟨_,rfl,λa E=>?_⟩
  refine qbF (R:=pS) (xo:=[.tmp 61]) (xs:=([r22]:List (List UInt8))) E ok qce qex rfl ⟨⟨_,rfl,rfl,(qb8 l24)⟩,trivial⟩ rfl rfl rfl rfl λc25 M26 a w E ok h27=>?_
  obtain⟨m28,hle,ok,hfz⟩:=(ok.frs 0 rfl).freeze
  have h29:=ORow.froz mS h27 hle hfz (by decide)
  have le_m0:=le_m0.trans hle
  have h6:=(mL qaE).up hle h6
  have h8:=(mL qah).up hle h8
  have h13:=ORow.up (mI .u8) hle h13
  obtain⟨r30,e31,hF⟩:=bnd hF
  replace ok:Ok u m28 ([(pb0,oc 126 [c9,c11])]::M12::[(b20,oc 189 [(vs ([])),(vs ([])),(vs ([])),(vs ([110,117,109,98,101,114])),(vs ([117,110,105,116])),(vs ([100,97,116,101])),(vs ([108,105,115,116])),(vs ([112,108,117,114,97,108])),(vs ([111,114,100,105,110,97,108])),(vs ([115,101,108,101,99,116]))])]::[(b19,oc 90 [vi x_1.Kind,vs x_1.Text,vs x_1.Name,vs x_1.Style,c5,c7])]::S) w:=(ok.pk 4 [2,3,0,1] rfl (by decide))
  refine qae E qf9 rfl (qbH N _ ([r22]:List (List UInt8)) h29 (Printer.mk (Builder.mk () x0.Builder.buf)) h10 h13 e31 hG ok) rfl rfl ?_
  rintro _ w ⟨c32,c34,M35,⟨rfl,ok⟩,h33,h36⟩
  refine⟨_,rfl,λa E=>?_⟩
  refine wpList_nil<|qal ?_
  exact fin hF ⟨c32,c34,M35,(((ok.pk 4 [0,1] rfl (by decide))).down hb0 le_m0),E.d,trivial,h33,h36⟩
 refine sg<|lw E (qaz rfl rfl) λa E=>aw E rfl λa E=>cf E rfl hF (λc37 hF=>?_) λc37 hF=>?_
 ·refine qab<|mv E rfl λa E=>qbF (R:=pS) (xo:=[.const (vs ([35]))]) (xs:=([[35]]:List (List UInt8))) E ok qce qex rfl ⟨⟨_,rfl,rfl,(qb8 (show([35]:List UInt8).length≤LIMS by decide))⟩,trivial⟩ rfl rfl rfl rfl λc38 M39 a w E ok h40=>?_
  obtain⟨m41,hle,ok,hfz⟩:=(ok.frs 0 rfl).freeze
  have h42:=ORow.froz mS h40 hle hfz (by decide)
  have le_m0:=le_m0.trans hle
  have h6:=(mL qaE).up hle h6
  have h8:=(mL qah).up hle h8
  have h13:=ORow.up (mI .u8) hle h13
  obtain⟨r43,e44,hF⟩:=bnd hF
  replace ok:Ok u m41 ([(pb0,oc 126 [c9,c11])]::M12::[(b20,oc 189 [(vs ([])),(vs ([])),(vs ([])),(vs ([110,117,109,98,101,114])),(vs ([117,110,105,116])),(vs ([100,97,116,101])),(vs ([108,105,115,116])),(vs ([112,108,117,114,97,108])),(vs ([111,114,100,105,110,97,108])),(vs ([115,101,108,101,99,116]))])]::[(b19,oc 90 [vi x_1.Kind,vs x_1.Text,vs x_1.Name,vs x_1.Style,c5,c7])]::S) w:=(ok.pk 4 [2,3,0,1] rfl (by decide))
  refine qae E qf9 rfl (qbH N _ ([[35]]:List (List UInt8)) h42 (Printer.mk (Builder.mk () x0.Builder.buf)) h10 h13 e44 hG ok) rfl rfl ?_
  rintro _ w ⟨c45,c47,M48,⟨rfl,ok⟩,h46,h49⟩
  refine⟨_,rfl,λa E=>?_⟩
  refine wpList_nil<|qal ?_
  exact fin hF ⟨c45,c47,M48,(((ok.pk 4 [0,1] rfl (by decide))).down hb0 le_m0),E.d,trivial,h46,h49⟩
 refine sg<|lw E (qaz rfl rfl) λa E=>aw E rfl λa E=>cf E rfl hF (λc50 hF=>?_) λc50 hF=>?_
 ·as_aux_lemma=>
   refine wp_seq<|sg<|fk E ok qc1 qcr rfl 1 rfl rfl λa E=>lv E ok (qa8 qbG h8 rfl) λa E=>lw E (qaz rfl rfl) λa E=>wn<|cf E rfl hF (λc51 hF=>?_) λc51 hF=>?_
   ·refine sg<|mv E rfl λa E=>fk E ok qbC qax rfl 1 rfl rfl λa E=>qbF (R:=pS) (xo:=[.const (vs ([60])),.tmp 77,.const (vs ([47,62]))]) (xs:=([[60],x_1.Name,[47,62]]:List (List UInt8))) E ok qce qex rfl ⟨⟨_,rfl,rfl,(qb8 (show([60]:List UInt8).length≤LIMS by decide))⟩,⟨_,rfl,rfl,(qb8 l3)⟩,⟨_,rfl,rfl,(qb8 (show([47,62]:List UInt8).length≤LIMS by decide))⟩,trivial⟩ rfl rfl rfl rfl λc52 M53 a w E ok h54=>?_
    obtain⟨m55,hle,ok,hfz⟩:=(ok.frs 0 rfl).freeze
    have h56:=ORow.froz mS h54 hle hfz (by decide)
    have le_m0:=le_m0.trans hle
    have h6:=(mL qaE).up hle h6
    have h8:=(mL qah).up hle h8
    have h13:=ORow.up (mI .u8) hle h13
    obtain⟨r57,e58,hF⟩:=bnd hF
    replace ok:Ok u m55 ([(pb0,oc 126 [c9,c11])]::M12::[(b20,oc 189 [(vs ([])),(vs ([])),(vs ([])),(vs ([110,117,109,98,101,114])),(vs ([117,110,105,116])),(vs ([100,97,116,101])),(vs ([108,105,115,116])),(vs ([112,108,117,114,97,108])),(vs ([111,114,100,105,110,97,108])),(vs ([115,101,108,101,99,116]))])]::[(b19,oc 90 [vi x_1.Kind,vs x_1.Text,vs x_1.Name,vs x_1.Style,c5,c7])]::S) w:=(ok.pk 4 [2,3,0,1] rfl (by decide))
    refine qae E qf9 rfl (qbH N _ ([[60],x_1.Name,[47,62]]:List (List UInt8)) h56 (Printer.mk (Builder.mk () x0.Builder.buf)) h10 h13 e58 hG ok) rfl rfl ?_
    rintro _ w ⟨c59,c61,M62,⟨rfl,ok⟩,h60,h63⟩
    refine⟨_,rfl,λa E=>?_⟩
    refine wn<|wp_ret<|qak<|qaA ?_
    exact fin hF ⟨c59,c61,M62,(((ok.pk 4 [0,1] rfl (by decide))).down hb0 le_m0),E.d,trivial,h60,h63⟩
   refine wp_skip<|qaa<|sg<|mv E rfl λa E=>fk E ok qbC qax rfl 1 rfl rfl λa E=>qbF (R:=pS) (xo:=[.const (vs ([60])),.tmp 82,.const (vs ([62]))]) (xs:=([[60],x_1.Name,[62]]:List (List UInt8))) E ok qce qex rfl ⟨⟨_,rfl,rfl,(qb8 (show([60]:List UInt8).length≤LIMS by decide))⟩,⟨_,rfl,rfl,(qb8 l3)⟩,⟨_,rfl,rfl,(qb8 (show([62]:List UInt8).length≤LIMS by decide))⟩,trivial⟩ rfl rfl rfl rfl λc64 M65 a w E ok h66=>?_
   obtain⟨m67,hle,ok,hfz⟩:=(ok.frs 0 rfl).freeze
   have h68:=ORow.froz mS h66 hle hfz (by decide)
   have le_m0:=le_m0.trans hle
   have h6:=(mL qaE).up hle h6
   have h8:=(mL qah).up hle h8
   have h13:=ORow.up (mI .u8) hle h13
   obtain⟨r69,e70,hF⟩:=bnd hF
   replace ok:Ok u m67 ([(pb0,oc 126 [c9,c11])]::M12::[(b20,oc 189 [(vs ([])),(vs ([])),(vs ([])),(vs ([110,117,109,98,101,114])),(vs ([117,110,105,116])),(vs ([100,97,116,101])),(vs ([108,105,115,116])),(vs ([112,108,117,114,97,108])),(vs ([111,114,100,105,110,97,108])),(vs ([115,101,108,101,99,116]))])]::[(b19,oc 90 [vi x_1.Kind,vs x_1.Text,vs x_1.Name,vs x_1.Style,c5,c7])]::S) w:=(ok.pk 4 [2,3,0,1] rfl (by decide))
   refine qae E qf9 rfl (qbH N _ ([[60],x_1.Name,[62]]:List (List UInt8)) h68 (Printer.mk (Builder.mk () x0.Builder.buf)) h10 h13 e70 hG ok) rfl rfl ?_
   rintro _ w ⟨c71,c73,M74,⟨rfl,ok⟩,h72,h75⟩
   refine⟨_,rfl,λa E=>?_⟩
   refine wn<|sg<|mv E rfl λa E=>fk E ok qc1 qcr rfl 3 rfl rfl λa E=>bd hF λr76 e77 hF=>qae E qqL rfl (ih_printer_printer_parts _ x_1.Parts h8 (Printer.mk (Builder.mk () r69.Builder.buf)) h72 h75 e77 hG ok) rfl rfl ?_
   rintro _ w ⟨c78,c80,M81,⟨rfl,ok⟩,h79,h82⟩
   refine⟨_,rfl,λa E=>?_⟩
   refine wn<|qab<|mv E rfl λa E=>fk E ok qbC qax rfl 3 rfl rfl λa E=>qbF (R:=pS) (xo:=[.const (vs ([60,47])),.tmp 91,.const (vs ([62]))]) (xs:=([[60,47],x_1.Name,[62]]:List (List UInt8))) E ok qce qex rfl ⟨⟨_,rfl,rfl,(qb8 (show([60,47]:List UInt8).length≤LIMS by decide))⟩,⟨_,rfl,rfl,(qb8 l3)⟩,⟨_,rfl,rfl,(qb8 (show([62]:List UInt8).length≤LIMS by decide))⟩,trivial⟩ rfl rfl rfl rfl λc83 M84 a w E ok h85=>?_
   obtain⟨m86,hle,ok,hfz⟩:=(ok.frs 0 rfl).freeze
   have h87:=ORow.froz mS h85 hle hfz (by decide)
   have le_m0:=le_m0.trans hle
   have h6:=(mL qaE).up hle h6
   have h8:=(mL qah).up hle h8
   have h68:=(mL mS).up hle h68
   have h82:=ORow.up (mI .u8) hle h82
   refine bd hF λr88 e89 hF=>qae E qf9 rfl (qbH N _ ([[60,47],x_1.Name,[62]]:List (List UInt8)) h87 (Printer.mk (Builder.mk () r76.Builder.buf)) h79 h82 e89 hG ok) rfl rfl ?_
   rintro _ w ⟨c90,c92,M93,⟨rfl,ok⟩,h91,h94⟩
   refine⟨_,rfl,λa E=>?_⟩
   refine wpList_nil<|qal ?_
   exact fin hF ⟨c90,c92,M93,(((ok.pk 4 [0,1] rfl (by decide))).down hb0 le_m0),E.d,trivial,h91,h94⟩
 refine sg<|lw E (qaz rfl rfl) λa E=>aw E rfl λa E=>cf E rfl hF (λc95 hF=>?_) λc95 hF=>?_
 ·refine qab<|mv E rfl λa E=>fk E ok qbC qax rfl 1 rfl rfl λa E=>qbF (R:=pS) (xo:=[.const (vs ([123])),.tmp 98,.const (vs ([125]))]) (xs:=([[123],x_1.Name,[125]]:List (List UInt8))) E ok qce qex rfl ⟨⟨_,rfl,rfl,(qb8 (show([123]:List UInt8).length≤LIMS by decide))⟩,⟨_,rfl,rfl,(qb8 l3)⟩,⟨_,rfl,rfl,(qb8 (show([125]:List UInt8).length≤LIMS by decide))⟩,trivial⟩ rfl rfl rfl rfl λc96 M97 a w E ok h98=>?_
  obtain⟨m99,hle,ok,hfz⟩:=(ok.frs 0 rfl).freeze
  have h100:=ORow.froz mS h98 hle hfz (by decide)
  have le_m0:=le_m0.trans hle
  have h6:=(mL qaE).up hle h6
  have h8:=(mL qah).up hle h8
  have h13:=ORow.up (mI .u8) hle h13
  obtain⟨r101,e102,hF⟩:=bnd hF
  replace ok:Ok u m99 ([(pb0,oc 126 [c9,c11])]::M12::[(b20,oc 189 [(vs ([])),(vs ([])),(vs ([])),(vs ([110,117,109,98,101,114])),(vs ([117,110,105,116])),(vs ([100,97,116,101])),(vs ([108,105,115,116])),(vs ([112,108,117,114,97,108])),(vs ([111,114,100,105,110,97,108])),(vs ([115,101,108,101,99,116]))])]::[(b19,oc 90 [vi x_1.Kind,vs x_1.Text,vs x_1.Name,vs x_1.Style,c5,c7])]::S) w:=(ok.pk 4 [2,3,0,1] rfl (by decide))
  refine qae E qf9 rfl (qbH N _ ([[123],x_1.Name,[125]]:List (List UInt8)) h100 (Printer.mk (Builder.mk () x0.Builder.buf)) h10 h13 e102 hG ok) rfl rfl ?_
  rintro _ w ⟨c103,c105,M106,⟨rfl,ok⟩,h104,h107⟩
  refine⟨_,rfl,λa E=>?_⟩
  refine wpList_nil<|qal ?_
  exact fin hF ⟨c103,c105,M106,(((ok.pk 4 [0,1] rfl (by decide))).down hb0 le_m0),E.d,trivial,h104,h107⟩
 refine wp_seq<|bd hF λo108 hJ hF=>qaO (Q':=λe a w=>e=.normal∧∃ m109 c110 c112 M113,m0.le m109∧Ok u m109 ([(b20,oc 189 [(vs ([])),(vs ([])),(vs ([])),(vs ([110,117,109,98,101,114])),(vs ([117,110,105,116])),(vs ([100,97,116,101])),(vs ([108,105,115,116])),(vs ([112,108,117,114,97,108])),(vs ([111,114,100,105,110,97,108])),(vs ([115,101,108,101,99,116]))])]::[(b19,oc 90 [vi x_1.Kind,vs x_1.Text,vs x_1.Name,vs x_1.Style,c5,c7])]::[(pb0,oc 126 [c110,c112])]::M113::S) w∧Env 101 a [(0,vp pb0),(3,vp b19)]∧BAd pb0 c110∧ORow 5 1 (pI .u8) m109 c112 o108.Builder.buf M113) ?_ ?_
 ·have hF:=hJ
  obtain⟨x115,e116,hF⟩:=bnd hF
  obtain⟨r122,e123,hF⟩:=bnd hF
  obtain rfl:=sj hF
  refine qbl [] (Cls u m0 ([(b20,oc 189 [(vs ([])),(vs ([])),(vs ([])),(vs ([110,117,109,98,101,114])),(vs ([117,110,105,116])),(vs ([100,97,116,101])),(vs ([108,105,115,116])),(vs ([112,108,117,114,97,108])),(vs ([111,114,100,105,110,97,108])),(vs ([115,101,108,101,99,116]))])]::[(b19,oc 90 [vi x_1.Kind,vs x_1.Text,vs x_1.Name,vs x_1.Style,c5,c7])]::[])) (Cls u m0 ([(b20,oc 189 [(vs ([])),(vs ([])),(vs ([])),(vs ([110,117,109,98,101,114])),(vs ([117,110,105,116])),(vs ([100,97,116,101])),(vs ([108,105,115,116])),(vs ([112,108,117,114,97,108])),(vs ([111,114,100,105,110,97,108])),(vs ([115,101,108,101,99,116]))])]::[(b19,oc 90 [vi x_1.Kind,vs x_1.Text,vs x_1.Name,vs x_1.Style,c5,c7])]::[])) (by kernel_rfl) ?_
  intro w hw
  replace ok:=qbA ok hw
  clear hw
  have h6_o:=h6
  have h8_o:=h8
  refine qaq (cl1 (cq le_m0 ok [0,1] rfl) (cq le_m0 ok [0,1] rfl)) λhT=>kt 0 E rfl hT (qad rfl) λa E=>kt 1 E rfl hT (qaj qbC rfl) λa E=>kt 2 E rfl hT (qaw qax rfl (Holds.cown 1 rfl rfl)) λa E=>kt 3 E rfl hT (qaj qbm rfl) λa E=>kt 4 E rfl hT (qaw qaN rfl (Holds.cown 1 rfl rfl)) λa E=>?_
  replace e116:idx (Arr10_List_UInt8.list (Arr10_List_UInt8.mk ([]) ([]) ([]) ([110,117,109,98,101,114]) ([117,110,105,116]) ([100,97,116,101]) ([108,105,115,116]) ([112,108,117,114,97,108]) ([111,114,100,105,110,97,108]) ([115,101,108,101,99,116]))) x_1.Kind=some x115:=e116
  refine kt 5 E rfl hT (qh1 qqm rfl rfl (qjB e116).1 (qjB e116).2) λa E=>qaU [6] (by kernel_rfl) rfl (qa1 ?_)
  ·refine wo rfl<|lv E ok (qaw qax rfl (Holds.idx (xs:=Arr10_List_UInt8.list (Arr10_List_UInt8.mk ([]) ([]) ([]) ([110,117,109,98,101,114]) ([117,110,105,116]) ([100,97,116,101]) ([108,105,115,116]) ([112,108,117,114,97,108]) ([111,114,100,105,110,97,108]) ([115,101,108,101,99,116]))) (f:=(λx=>vs x)) (Holds.own 0 rfl rfl) e116)) λa E=>wn<|qaq (cl1 (cq le_m0 ok [0,1] rfl) (cq le_m0 ok [0,1] rfl)) λhT=>qaU [7] (by kernel_rfl) rfl (qa1 ?_)
   ·refine wo rfl<|qbF (R:=pS) (xo:=[.const (vs ([123])),.tmp 12,.const (vs ([44,32])),.tmp 16]) (xs:=([[123],x_1.Name,[44,32],x115]:List (List UInt8))) E ok qce qex rfl ⟨⟨_,rfl,rfl,(qb8 (show([123]:List UInt8).length≤LIMS by decide))⟩,⟨_,rfl,rfl,(qb8 l3)⟩,⟨_,rfl,rfl,(qb8 (show([44,32]:List UInt8).length≤LIMS by decide))⟩,⟨_,rfl,rfl,(qb8 (AllP.idx (q:=(λx=>x.length≤LIMS)) (xs:=Arr10_List_UInt8.list (Arr10_List_UInt8.mk ([]) ([]) ([]) ([110,117,109,98,101,114]) ([117,110,105,116]) ([100,97,116,101]) ([108,105,115,116]) ([112,108,117,114,97,108]) ([111,114,100,105,110,97,108]) ([115,101,108,101,99,116]))) ⟨(Nat.zero_le _),(Nat.zero_le _),(Nat.zero_le _),(show([110,117,109,98,101,114]:List UInt8).length≤LIMS by decide),(show([117,110,105,116]:List UInt8).length≤LIMS by decide),(show([100,97,116,101]:List UInt8).length≤LIMS by decide),(show([108,105,115,116]:List UInt8).length≤LIMS by decide),(show([112,108,117,114,97,108]:List UInt8).length≤LIMS by decide),(show([111,114,100,105,110,97,108]:List UInt8).length≤LIMS by decide),(show([115,101,108,101,99,116]:List UInt8).length≤LIMS by decide),trivial⟩ e116))⟩,trivial⟩ rfl rfl rfl rfl λc129 M130 a w E ok h131=>wn<|qaq (cl1 (cq le_m0 ok [1,2] rfl) (cq le_m0 ok [1,2] rfl)) λhT=>qaU [8] (by kernel_rfl) rfl (qa1 ?_)
    ·refine qci (o:=_) rfl ?_
     obtain⟨m132,hle,ok,hfz⟩:=(ok.frs 0 rfl).freeze
     have h133:=ORow.froz mS h131 hle hfz (by decide)
     have le_m0:=le_m0.trans hle
     have h6:=(mL qaE).up hle h6
     have h8:=(mL qah).up hle h8
     have h13:=ORow.up (mI .u8) hle h13
     replace ok:Ok u m132 ([(pb0,oc 126 [c9,c11])]::M12::[(b20,oc 189 [(vs ([])),(vs ([])),(vs ([])),(vs ([110,117,109,98,101,114])),(vs ([117,110,105,116])),(vs ([100,97,116,101])),(vs ([108,105,115,116])),(vs ([112,108,117,114,97,108])),(vs ([111,114,100,105,110,97,108])),(vs ([115,101,108,101,99,116]))])]::[(b19,oc 90 [vi x_1.Kind,vs x_1.Text,vs x_1.Name,vs x_1.Style,c5,c7])]::S) w:=(ok.pk 4 [2,3,0,1] rfl (by decide))
     refine qae E qf9 rfl (qbH N _ ([[123],x_1.Name,[44,32],x115]:List (List UInt8)) h133 (Printer.mk (Builder.mk () x0.Builder.buf)) h10 h13 e123 hG ok) rfl rfl ?_
     rintro _ w ⟨c134,c136,M137,⟨rfl,ok⟩,h135,h138⟩
     refine⟨_,rfl,λa E=>?_⟩
     refine wn<|qaq (cl1 (cq le_m0 ok [2,3] rfl) (cq le_m0 ok [2,3] rfl)) λhT=>qbv (by kernel_rfl) ?_
     exact⟨rfl,⟨m132,c134,c136,M137,le_m0,(ok.pk 4 [2,3,0,1] rfl (by decide)),E.keep [0,3],h135,h138⟩⟩
 intro e a w hO
 obtain⟨rfl,m139,c140,c142,M143,hle,ok,E,h141,h144⟩:=hO
 have le_m0:=le_m0.trans hle
 have h6:=(mL qaE).up hle h6
 have h8:=(mL qah).up hle h8
 refine qaa<|wp_seq<|sg<|fk E ok qcn qax rfl 1 rfl rfl λa E=>lw E (qeU rfl rfl) λa E=>wn<|bd hF λo145 hJ hF=>qaO (Q':=λe a w=>e=.normal∧∃ m146 c147 c149 M150,m139.le m146∧Ok u m146 ([(b20,oc 189 [(vs ([])),(vs ([])),(vs ([])),(vs ([110,117,109,98,101,114])),(vs ([117,110,105,116])),(vs ([100,97,116,101])),(vs ([108,105,115,116])),(vs ([112,108,117,114,97,108])),(vs ([111,114,100,105,110,97,108])),(vs ([115,101,108,101,99,116]))])]::[(b19,oc 90 [vi x_1.Kind,vs x_1.Text,vs x_1.Name,vs x_1.Style,c5,c7])]::[(pb0,oc 126 [c147,c149])]::M150::S) w∧Env 101 a [(0,vp pb0),(3,vp b19)]∧BAd pb0 c147∧ORow 5 1 (pI .u8) m146 c149 o145.Builder.buf M150) ?_ ?_
 ·have hF:=hJ
  have le_m139:=Mem.le.refl m139
  refine cg E rfl hF (λc152 hF=>?_) λc152 hF=>?_
  ·refine wp_skip ?_
   cases hF
   exact⟨rfl,⟨m139,c140,c142,M143,le_m139,ok,E.keep [0,3],h141,h144⟩⟩
  refine qab<|mv E rfl λa E=>fk E ok qcn qax rfl 1 rfl rfl λa E=>qbF (R:=pS) (xo:=[.const (vs ([44,32])),.tmp 24]) (xs:=([[44,32],x_1.Style]:List (List UInt8))) E ok qce qex rfl ⟨⟨_,rfl,rfl,(qb8 (show([44,32]:List UInt8).length≤LIMS by decide))⟩,⟨_,rfl,rfl,(qb8 l4)⟩,trivial⟩ rfl rfl rfl rfl λc153 M154 a w E ok h155=>?_
  obtain⟨m156,hle,ok,hfz⟩:=(ok.frs 0 rfl).freeze
  have h157:=ORow.froz mS h155 hle hfz (by decide)
  have le_m0:=le_m0.trans hle
  have le_m139:=le_m139.trans hle
  have h6:=(mL qaE).up hle h6
  have h8:=(mL qah).up hle h8
  have h144:=ORow.up (mI .u8) hle h144
  obtain⟨r158,e159,hF⟩:=bnd hF
  replace ok:Ok u m156 ([(pb0,oc 126 [c140,c142])]::M143::[(b20,oc 189 [(vs ([])),(vs ([])),(vs ([])),(vs ([110,117,109,98,101,114])),(vs ([117,110,105,116])),(vs ([100,97,116,101])),(vs ([108,105,115,116])),(vs ([112,108,117,114,97,108])),(vs ([111,114,100,105,110,97,108])),(vs ([115,101,108,101,99,116]))])]::[(b19,oc 90 [vi x_1.Kind,vs x_1.Text,vs x_1.Name,vs x_1.Style,c5,c7])]::S) w:=(ok.pk 4 [2,3,0,1] rfl (by decide))
  refine qae E qf9 rfl (qbH N _ ([[44,32],x_1.Style]:List (List UInt8)) h157 (Printer.mk (Builder.mk () o108.Builder.buf)) h141 h144 e159 hG ok) rfl rfl ?_
  rintro _ w ⟨c160,c162,M163,⟨rfl,ok⟩,h161,h164⟩
  refine⟨_,rfl,λa E=>?_⟩
  refine wpList_nil ?_
  cases hF
  exact⟨rfl,⟨m156,c160,c162,M163,le_m139,(ok.pk 4 [2,3,0,1] rfl (by decide)),E.keep [0,3],h161,h164⟩⟩
 intro e a w hO
 obtain⟨rfl,m165,c166,c168,M169,hle,ok,E,h167,h170⟩:=hO
 have le_m0:=le_m0.trans hle
 have h6:=(mL qaE).up hle h6
 have h8:=(mL qah).up hle h8
 refine qaa<|wp_seq<|sg<|fk E ok qbm qaN rfl 1 rfl rfl λa E=>bd hF λr171 e172 hF=>lc E qir rfl (qcI N x_1.Kind r1 e172 hG ok) λw ok a E=>wn<|bd hF λo173 hJ hF=>qaO (Q':=λe a w=>e=.normal∧∃ m174 c175 c177 M178,m165.le m174∧Ok u m174 ([(b20,oc 189 [(vs ([])),(vs ([])),(vs ([])),(vs ([110,117,109,98,101,114])),(vs ([117,110,105,116])),(vs ([100,97,116,101])),(vs ([108,105,115,116])),(vs ([112,108,117,114,97,108])),(vs ([111,114,100,105,110,97,108])),(vs ([115,101,108,101,99,116]))])]::[(b19,oc 90 [vi x_1.Kind,vs x_1.Text,vs x_1.Name,vs x_1.Style,c5,c7])]::[(pb0,oc 126 [c175,c177])]::M178::S) w∧Env 101 a [(0,vp pb0),(3,vp b19)]∧BAd pb0 c175∧ORow 5 1 (pI .u8) m174 c177 o173.Builder.buf M178) ?_ ?_
 ·have hF:=hJ
  have le_m165:=Mem.le.refl m165
  refine cg E rfl hF (λc180 hF=>?_) λc180 hF=>?_
  ·refine wp_skip ?_
   cases hF
   exact⟨rfl,⟨m165,c166,c168,M169,le_m165,ok,E.keep [0,3],h167,h170⟩⟩
  refine qab<|mv E rfl λa E=>qbF (R:=pS) (xo:=[.const (vs ([44]))]) (xs:=([[44]]:List (List UInt8))) E ok qce qex rfl ⟨⟨_,rfl,rfl,(qb8 (show([44]:List UInt8).length≤LIMS by decide))⟩,trivial⟩ rfl rfl rfl rfl λc181 M182 a w E ok h183=>?_
  obtain⟨m184,hle,ok,hfz⟩:=(ok.frs 0 rfl).freeze
  have h185:=ORow.froz mS h183 hle hfz (by decide)
  have le_m0:=le_m0.trans hle
  have le_m165:=le_m165.trans hle
  have h6:=(mL qaE).up hle h6
  have h8:=(mL qah).up hle h8
  have h170:=ORow.up (mI .u8) hle h170
  obtain⟨r186,e187,hF⟩:=bnd hF
  replace ok:Ok u m184 ([(pb0,oc 126 [c166,c168])]::M169::[(b20,oc 189 [(vs ([])),(vs ([])),(vs ([])),(vs ([110,117,109,98,101,114])),(vs ([117,110,105,116])),(vs ([100,97,116,101])),(vs ([108,105,115,116])),(vs ([112,108,117,114,97,108])),(vs ([111,114,100,105,110,97,108])),(vs ([115,101,108,101,99,116]))])]::[(b19,oc 90 [vi x_1.Kind,vs x_1.Text,vs x_1.Name,vs x_1.Style,c5,c7])]::S) w:=(ok.pk 4 [2,3,0,1] rfl (by decide))
  refine qae E qf9 rfl (qbH N _ ([[44]]:List (List UInt8)) h185 (Printer.mk (Builder.mk () o145.Builder.buf)) h167 h170 e187 hG ok) rfl rfl ?_
  rintro _ w ⟨c188,c190,M191,⟨rfl,ok⟩,h189,h192⟩
  refine⟨_,rfl,λa E=>?_⟩
  refine wpList_nil ?_
  cases hF
  exact⟨rfl,⟨m184,c188,c190,M191,le_m165,(ok.pk 4 [2,3,0,1] rfl (by decide)),E.keep [0,3],h189,h192⟩⟩
 intro e a w hO
 obtain⟨rfl,m193,c194,c196,M197,hle,ok,E,h195,h198⟩:=hO
 have le_m0:=le_m0.trans hle
 have h6:=(mL qaE).up hle h6
 have h8:=(mL qah).up hle h8
 refine qaa<|wp_seq<|sg<|fk E ok qdN qfx rfl 1 rfl rfl λa E=>lv E ok (qa8 qch h6 rfl) λa E=>mv E rfl λa E=>wn<|wp_block<|bd hF λo206 hL hF=>qbb _ (λ(s:Int×Printer) a w=>∃ m207 c209 c211 M212,m193.le m207∧Ok u m207 ([(b20,oc 189 [(vs ([])),(vs ([])),(vs ([])),(vs ([110,117,109,98,101,114])),(vs ([117,110,105,116])),(vs ([100,97,116,101])),(vs ([108,105,115,116])),(vs ([112,108,117,114,97,108])),(vs ([111,114,100,105,110,97,108])),(vs ([115,101,108,101,99,116]))])]::[(b19,oc 90 [vi x_1.Kind,vs x_1.Text,vs x_1.Name,vs x_1.Style,c5,c7])]::[(pb0,oc 126 [c209,c211])]::M212::S) w∧Env 101 a [(0,vp pb0),(34,c5),(35,(vi (x_1.Cases.length:Int))),(36,vi s.1)]∧InR .i64 s.1∧BAd pb0 c209∧ORow 5 1 (pI .u8) m207 c211 s.2.Builder.buf M212) (λ(b:Printer) e a w=>e=(.exit 1)∧∃ m286 c287 c289 M290,m193.le m286∧Ok u m286 ([(b20,oc 189 [(vs ([])),(vs ([])),(vs ([])),(vs ([110,117,109,98,101,114])),(vs ([117,110,105,116])),(vs ([100,97,116,101])),(vs ([108,105,115,116])),(vs ([112,108,117,114,97,108])),(vs ([111,114,100,105,110,97,108])),(vs ([115,101,108,101,99,116]))])]::[(b19,oc 90 [vi x_1.Kind,vs x_1.Text,vs x_1.Name,vs x_1.Style,c5,c7])]::[(pb0,oc 126 [c287,c289])]::M290::S) w∧Env 101 a [(0,vp pb0)]∧BAd pb0 c287∧ORow 5 1 (pI .u8) m286 c289 b.Builder.buf M290) ?_ ?_ N _ a w hL ⟨m193,c194,c196,M197,Mem.le.refl _,ok,E.keep [0,34,35,36],(ir 0),h195,h198⟩
 rotate_left
 ·intro e a w _ hO
  obtain⟨rfl,m268,c269,c271,M272,hle,ok,E,h270,h273⟩:=hO
  have le_m0:=le_m0.trans hle
  have h6:=(mL qaE).up hle h6
  have h8:=(mL qah).up hle h8
  refine qbh<|qaa<|qab<|mv E rfl λa E=>qbF (R:=pS) (xo:=[.const (vs ([125]))]) (xs:=([[125]]:List (List UInt8))) E ok qce qex rfl ⟨⟨_,rfl,rfl,(qb8 (show([125]:List UInt8).length≤LIMS by decide))⟩,trivial⟩ rfl rfl rfl rfl λc274 M275 a w E ok h276=>?_
  obtain⟨m277,hle,ok,hfz⟩:=(ok.frs 0 rfl).freeze
  have h278:=ORow.froz mS h276 hle hfz (by decide)
  have le_m0:=le_m0.trans hle
  have h6:=(mL qaE).up hle h6
  have h8:=(mL qah).up hle h8
  have h273:=ORow.up (mI .u8) hle h273
  obtain⟨r279,e280,hF⟩:=bnd hF
  replace ok:Ok u m277 ([(pb0,oc 126 [c269,c271])]::M272::[(b20,oc 189 [(vs ([])),(vs ([])),(vs ([])),(vs ([110,117,109,98,101,114])),(vs ([117,110,105,116])),(vs ([100,97,116,101])),(vs ([108,105,115,116])),(vs ([112,108,117,114,97,108])),(vs ([111,114,100,105,110,97,108])),(vs ([115,101,108,101,99,116]))])]::[(b19,oc 90 [vi x_1.Kind,vs x_1.Text,vs x_1.Name,vs x_1.Style,c5,c7])]::S) w:=(ok.pk 4 [2,3,0,1] rfl (by decide))
  refine qae E qf9 rfl (qbH N _ ([[125]]:List (List UInt8)) h278 (Printer.mk (Builder.mk () o206.Builder.buf)) h270 h273 e280 hG ok) rfl rfl ?_
  rintro _ w ⟨c281,c283,M284,⟨rfl,ok⟩,h282,h285⟩
  refine⟨_,rfl,λa E=>?_⟩
  refine wpList_nil<|qal ?_
  exact fin hF ⟨c281,c283,M284,(((ok.pk 4 [0,1] rfl (by decide))).down hb0 le_m0),E.d,trivial,h282,h285⟩
 rintro⟨v214,v215⟩ a w r ⟨m216,c218,c220,M221,hle,ok,E,r217,h219,h222⟩ hF
 replace hF:qc5 (qbB N) (qb5 N) N x_1 v214 v215=some r:=hF
 unfold qc5 at hF
 have le_m193:=Mem.le.refl m193
 have le_m0:=le_m0.trans hle
 have le_m193:=le_m193.trans hle
 have h6:=(mL qaE).up hle h6
 have h8:=(mL qah).up hle h8
 refine sg<|lw E (qaP rfl rfl) λa E=>wn<|wp_seq<|cg E rfl hF (λc223 hF=>?_) λc223 hF=>?_
 ·refine wp_exit<|qaM ?_
  cases hF
  exact so (⟨rfl,⟨m216,c218,c220,M221,le_m193,ok,E.keep [0],h219,h222⟩⟩)
 refine wp_skip<|qaa<|wp_seq<|wp_block<|sg ?_
 obtain⟨x224,e225,hF⟩:=bnd hF
 obtain⟨b226,o227,es228,hl229,rr230,at231,yy232⟩:=ia E 34 36 qch h6 e225
 obtain⟨c234,rfl,l233,h235⟩:=rr230
 refine lv E ok (yy232 _ _) λa E=>lv E ok (qao (cs:=[vs x224.Key,c234]) qfE rfl rfl (Holds.ro at231)) λa E=>qaL E ok qb0 rfl rfl λb236 a w E ok=>qai E ok 0 rfl rfl rfl qgc rfl rfl ⟨rfl,(qbT h235),trivial⟩ rfl rfl λw ok=>wn<|sg<|mv E rfl λa E=>fk E ok qgi qax rfl 0 rfl rfl λa E=>qbF (R:=pS) (xo:=[.const (vs ([32])),.tmp 42,.const (vs ([32,123]))]) (xs:=([[32],x224.Key,[32,123]]:List (List UInt8))) E ok qce qex rfl ⟨⟨_,rfl,rfl,(qb8 (show([32]:List UInt8).length≤LIMS by decide))⟩,⟨_,rfl,rfl,(qb8 l233)⟩,⟨_,rfl,rfl,(qb8 (show([32,123]:List UInt8).length≤LIMS by decide))⟩,trivial⟩ rfl rfl rfl rfl λc237 M238 a w E ok h239=>?_
 obtain⟨m240,hle,ok,hfz⟩:=(ok.frs 0 rfl).freeze
 have h241:=ORow.froz mS h239 hle hfz (by decide)
 have le_m0:=le_m0.trans hle
 have le_m193:=le_m193.trans hle
 have h6:=(mL qaE).up hle h6
 have h8:=(mL qah).up hle h8
 have h222:=ORow.up (mI .u8) hle h222
 have h235:=(mL qah).up hle h235
 have at231:=At.up hle at231
 obtain⟨r242,e243,hF⟩:=bnd hF
 replace ok:Ok u m240 ([(pb0,oc 126 [c218,c220])]::M221::[(b236,oc 93 [vs x224.Key,c234])]::[(b20,oc 189 [(vs ([])),(vs ([])),(vs ([])),(vs ([110,117,109,98,101,114])),(vs ([117,110,105,116])),(vs ([100,97,116,101])),(vs ([108,105,115,116])),(vs ([112,108,117,114,97,108])),(vs ([111,114,100,105,110,97,108])),(vs ([115,101,108,101,99,116]))])]::[(b19,oc 90 [vi x_1.Kind,vs x_1.Text,vs x_1.Name,vs x_1.Style,c5,c7])]::S) w:=(ok.pk 5 [3,4,0,1,2] rfl (by decide))
 refine qae E qf9 rfl (qbH N _ ([[32],x224.Key,[32,123]]:List (List UInt8)) h241 (Printer.mk (Builder.mk () v215.Builder.buf)) h219 h222 e243 hG ok) rfl rfl ?_
 rintro _ w ⟨c244,c246,M247,⟨rfl,ok⟩,h245,h248⟩
 refine⟨_,rfl,λa E=>?_⟩
 refine wn<|sg<|mv E rfl λa E=>fk E ok qeL qcr rfl 2 rfl rfl λa E=>bd hF λr249 e250 hF=>qae E qqL rfl (ih_printer_printer_parts _ x224.Parts h235 (Printer.mk (Builder.mk () r242.Builder.buf)) h245 h248 e250 hG ok) rfl rfl ?_
 rintro _ w ⟨c251,c253,M254,⟨rfl,ok⟩,h252,h255⟩
 refine⟨_,rfl,λa E=>?_⟩
 refine wn<|qab<|mv E rfl λa E=>qbF (R:=pS) (xo:=[.const (vs ([125]))]) (xs:=([[125]]:List (List UInt8))) E ok qce qex rfl ⟨⟨_,rfl,rfl,(qb8 (show([125]:List UInt8).length≤LIMS by decide))⟩,trivial⟩ rfl rfl rfl rfl λc256 M257 a w E ok h258=>?_
 obtain⟨m259,hle,ok,hfz⟩:=(ok.frs 0 rfl).freeze
 have h260:=ORow.froz mS h258 hle hfz (by decide)
 have le_m0:=le_m0.trans hle
 have le_m193:=le_m193.trans hle
 have h6:=(mL qaE).up hle h6
 have h8:=(mL qah).up hle h8
 have h235:=(mL qah).up hle h235
 have at231:=At.up hle at231
 have h241:=(mL mS).up hle h241
 have h255:=ORow.up (mI .u8) hle h255
 refine bd hF λr261 e262 hF=>qae E qf9 rfl (qbH N _ ([[125]]:List (List UInt8)) h260 (Printer.mk (Builder.mk () r249.Builder.buf)) h252 h255 e262 hG ok) rfl rfl ?_
 rintro _ w ⟨c263,c265,M266,⟨rfl,ok⟩,h264,h267⟩
 refine⟨_,rfl,λa E=>?_⟩
 refine wpList_nil<|qal<|qaa<|qab<|lw E (qaH rfl rfl (InR.inc r217 (qas h6) c223)) λa E=>mv E rfl λa E=>wpList_nil ?_
 cases hF
 exact qau ⟨m259,c263,c265,M266,le_m193,(ok.pk 5 [3,4,0,1] rfl (by decide)),E.keep [0,34,35,36],(InR.inc r217 (qas h6) c223),h264,h267⟩
theorem qic:qdG 0:=by
 intro u m0 S w vl_1 l_1 hl_1 pb0 c1 c3 M4 x0 h2 h5 r hF hG ok
 replace hF:none=some r:=hF
 cases hF
theorem qip:qdW 0:=by
 intro u m0 S w vx_1 x_1 hx_1 pb0 c9 c11 M12 x0 h10 h13 r hF hG ok
 replace hF:none=some r:=hF
 cases hF
theorem qhv(N:Nat):qdG N∧qdW N:=by
 induction N with
 | zero=>exact⟨qic,qip⟩
 | succ N h=>exact⟨qid N h.1 h.2,qiI N h.1 h.2⟩
theorem qjq{u:World}{m0:Mem}{S:Segs}{w:World}(N:Nat)(vl_1:Value)(l_1:List (Part))(hl_1:(pL 6 qaS) m0 [vl_1] l_1){pb0:Nat}{c1:Value}{c3:Value}{M4:List (Nat×Obj)}(x0:Printer)(h2:BAd pb0 c1)(h5:ORow 5 1 (pI .u8) m0 c3 x0.Builder.buf M4){r:Printer}(hF:qbB N l_1 x0=some r)(hG:Glob u)(ok:Ok u m0 ([(pb0,oc 126 [c1,c3])]::M4::S) w) :
 Calls Tryz.prog 51 [vp pb0,vl_1].toArray w λe w'=>∃ c6 c8 M9,(e=.returned (.tuple [].toArray)∧Ok u m0 ([(pb0,oc 126 [c6,c8])]::M9::S) w')∧BAd pb0 c6∧ORow 5 1 (pI .u8) m0 c8 r.Builder.buf M9:=(qhv N).1 vl_1 l_1 hl_1 x0 h2 h5 hF hG ok
def qnQ(u:World)(m0:Mem)(S:Segs)(r:(List UInt8))(a:Act)(w:World):Prop:=
 Ok u m0 S w∧a.defers=[]∧RVs Tryz.prog a w [.t 2 (.string (bs r))]∧r.length≤LIMS
theorem qn9(N:Nat)(vparts_0:Value)(parts_0:List (Part))(hparts_0:(pL 6 qaS) m0 [vparts_0] parts_0){r:(List UInt8)}(hF:qhr N parts_0=some r)(hG:Glob u)(ok:Ok u m0 S w) :
  Calls Tryz.prog 34 [vparts_0].toArray w λe w'=>(e=.returned (.string (bs r))∧Ok u m0 S w')∧r.length≤LIMS:=by
 unfold qhr at hF
 refine en (qnQ u m0 S) r Tryz.func34 rfl rfl rfl (λ_ _ h=>rb h rfl) λfin a E=>sg<|aw E rfl λa E=>sg<|qaL E ok qsM rfl rfl λb1 a w E ok=>wn<|sg<|mv E rfl λa E=>?_
 obtain⟨M2,ok,h3⟩:=qd9 (e:=5) (k:=1) (R:=(pI .u8)) ok
 obtain⟨r4,e5,hF⟩:=bnd hF
 replace ok:Ok u m0 ([(b1,oc 126 [(Value.pointer none),(Value.slice none 0 0)])]::M2::S) w:=(ok.pk 2 [1,0] rfl (by decide))
 refine qae E qqL rfl (qjq N _ parts_0 hparts_0 (Printer.mk (Builder.mk () ([]))) (.inl rfl) h3 e5 hG ok) rfl rfl ?_
 rintro _ w ⟨c6,c8,M9,⟨rfl,ok⟩,h7,h10⟩
 refine⟨_,rfl,λa E=>?_⟩
 refine wn<|sg<|fv E qoX rfl λa E=>qae E qqU rfl (qp3 Tryz.lays169 Tryz.Builder_Extra_169 h10 ok) rfl rfl ?_
 rintro _ w ⟨⟨rfl,ok⟩,l11⟩
 refine⟨_,rfl,λa E=>?_⟩
 refine aw E rfl λa E=>wp_ret ?_
 exact fin hF ⟨ok,E.d,rz E rfl,l11⟩
def qnE(u:World)(m0:Mem)(S:Segs)(r:(List UInt8)×Int)(a:Act)(w:World):Prop:=
 Ok u m0 S w∧a.defers=[]∧RVs Tryz.prog a w [.t 2 (.string (bs r.1)),.t 3 (.int .i64 r.2)]∧r.1.length≤LIMS∧InR .i64 r.2
theorem qnd(N:Nat)(vparts_0:Value)(parts_0:List (Part))(hparts_0:(pL 6 qaS) m0 [vparts_0] parts_0){r:(List UInt8)×Int}(hF:qf6 N parts_0=some r)(hG:Glob u)(ok:Ok u m0 S w) :
  Calls Tryz.prog 19 [vparts_0].toArray w λe w'=>(e=.returned (.tuple [(.string (bs r.1)),(.int .i64 r.2)].toArray)∧Ok u m0 S w')∧r.1.length≤LIMS∧InR .i64 r.2:=by
 unfold qf6 at hF
 refine en (qnE u m0 S) r Tryz.func19 rfl rfl rfl (by rintro a w ⟨ok,hd,hrv,h0,h1⟩;exact qbf [.t 2 (.string (bs r.1)),.t 3 (.int .i64 r.2)] hd rfl hrv ⟨⟨rfl,ok⟩,h0,h1⟩) λfin a E=>sg<|av E rfl λa E=>aw E rfl λa E=>wp_seq<|sg<|mv E rfl λa E=>bd hF λr1 e2 hF=>lc E qoR rfl (qgF N _ parts_0 hparts_0 e2 hG ok) λw ok a E=>lw E (qa9 rfl) λa E=>wn<|cf E rfl hF (λc3 hF=>?_) λc3 hF=>?_
 ·refine sg<|av E rfl λa E=>aw E rfl λa E=>wp_ret<|qak ?_
  exact fin hF ⟨ok,E.d,⟨rv_t E rfl,rv_t E rfl,trivial⟩,(show([]:List UInt8).length≤LIMS by decide),(ir 1)⟩
 refine wp_skip<|qaa<|sg<|mv E rfl λa E=>bd hF λr4 e5 hF=>qae E qv8 rfl (qn9 N _ parts_0 hparts_0 e5 hG ok) rfl rfl ?_
 rintro _ w ⟨⟨rfl,ok⟩,l6⟩
 refine⟨_,rfl,λa E=>?_⟩
 refine av E rfl λa E=>aw E rfl λa E=>wp_ret ?_
 exact fin hF ⟨ok,E.d,⟨rv_t E rfl,rv_t E rfl,trivial⟩,l6,(ir 0)⟩
end Go.Proofs.YtkhjeeakflefjaaGreatDoor
namespace Go.Proofs.YtkhjeeakflefjaaGreatDoor
open Go.X
structure Token where
 Kind:Int
 Text:List UInt8
 From:Int
 To:Int
def qej(N:Nat)(s_0:List UInt8)(x_4:Int):Option (Int⊕((Unit⊕Int))):=
 bif (decide (x_4<(s_0.length:Int))) then
  (idx s_0 x_4).bind λc7=>
  (qfW N (c7.toNat:Int)).bind λr9=>
  bif (!r9) then
   (idx s_0 x_4).bind λc12=>
   bif ((c12.toNat:Int)!=95) then
    (idx s_0 x_4).bind λc15=>
    bif ((c15.toNat:Int)!=45) then
     (idx s_0 x_4).bind λc18=>
     bif ((c18.toNat:Int)!=46) then
      (idx s_0 x_4).bind λc21=>
      bif ((c21.toNat:Int)!=61) then
       some (.inr (.inr x_4))
      else
       some (.inl (x_4+1))
     else
      some (.inl (x_4+1))
    else
     some (.inl (x_4+1))
   else
    some (.inl (x_4+1))
  else
   some (.inl (x_4+1))
 else
  some (.inr (.inl ()))
def qgH(N:Nat)(s_0:List UInt8):Option Int:=
 (iter (λs=>qej N s_0 s) N 0).bind λo2=>
 Sum.elim (λ_o2=>
  some (s_0.length:Int))
 (λo2=>
  some o2) o2
def qdv(_N:Nat)(s_0:List UInt8)(suffix_1:List UInt8):Option Bool:=
 bif (decide ((s_0.length:Int)≥(suffix_1.length:Int))) then
  (slc s_0 (IntKind.wrap .i64 ((s_0.length:Int)-(suffix_1.length:Int))) (s_0.length:Int)).bind λs2=>
  some (s2==suffix_1)
 else
  some false
def qdu(N:Nat)(s_0:List UInt8)(suffix_1:List UInt8):Option ((List UInt8)×Bool):=
 (qdv N s_0 suffix_1).bind λr1=>
 bif (!r1) then
  some (s_0,false)
 else
  (slc s_0 0 (IntKind.wrap .i64 ((s_0.length:Int)-(suffix_1.length:Int)))).bind λs4=>
  some (s4,true)
def qef(N:Nat)(s_0:List UInt8)(suffix_1:List UInt8):Option ((List UInt8)×Bool):=
 (qdu N s_0 suffix_1).bind λr1=>
 some (r1.1,r1.2)
def qfq(N:Nat)(s_0:List UInt8):Option (Int×(List UInt8)×Int):=
 (strings_IndexByte N s_0 62).bind λr1=>
 bif (decide (r1<0)) then
  some (0,[],0)
 else
  (slc s_0 1 r1).bind λs5=>
  (strings_CutPrefix N s5 ([47])).bind λr7=>
  (show Option (Int×(List UInt8)) from
   bif r7.2 then
    some (6,r7.1)
   else
    (qef N s5 ([47])).bind λr14=>
    bif r14.2 then
     some (7,r14.1)
    else
     some (5,s5)).bind λo10=>
  (qdZ N o10.2).bind λr20=>
  bif (!r20) then
   some (0,[],0)
  else
   some (o10.1,o10.2,(IntKind.wrap .i64 (r1+1)))
def qd4(N:Nat)(s_0:List UInt8)(i_4:Int):Option (Int⊕((Unit⊕Int))):=
 bif (decide (i_4<(s_0.length:Int))) then
  (idx s_0 i_4).bind λc7=>
  (qeP N (c7.toNat:Int)).bind λr9=>
  bif (!r9) then
   some (.inl (i_4+1))
  else
   (idx s_0 i_4).bind λc12=>
   bif ((c12.toNat:Int)!=92) then
    some (.inr (.inr i_4))
   else
    bif ((i_4+1)==(s_0.length:Int)) then
     some (.inr (.inr i_4))
    else
     (idx s_0 (i_4+1)).bind λc16=>
     (qeP N (c16.toNat:Int)).bind λr18=>
     bif (!r18) then
      some (.inr (.inr i_4))
     else
      some (.inl (IntKind.wrap .i64 ((i_4+1)+1)))
 else
  some (.inr (.inl ()))
def qfG(N:Nat)(s_0:List UInt8):Option Int:=
 (iter (λs=>qd4 N s_0 s) N 0).bind λo2=>
 Sum.elim (λ_o2=>
  some (s_0.length:Int))
 (λo2=>
  some o2) o2
def qgD(N:Nat)(s_0:List UInt8)(brace_1:Bool):Option (Int×(List UInt8)×Int):=
 (idx s_0 0).bind λc1=>
 bif ((c1.toNat:Int)==123) then
  (slc s_0 0 1).bind λs4=>
  some (2,s4,1)
 else
  bif ((c1.toNat:Int)==125) then
   (slc s_0 0 1).bind λs7=>
   some (3,s7,1)
  else
   bif brace_1 then
    bif ((c1.toNat:Int)==44) then
     (slc s_0 0 1).bind λs11=>
     some (8,s11,1)
    else
     (show Option ((Int×Int)⊕(Int×(List UInt8)×Int)) from
      bif brace_1 then
       (qgH N s_0).bind λr19=>
       some (.inl (9,r19))
      else
       bif ((c1.toNat:Int)==35) then
        (slc s_0 0 1).bind λs23=>
        some (.inr (4,s23,1))
       else
        bif ((c1.toNat:Int)==60) then
         (qfq N s_0).bind λr26=>
         some (.inr (r26.1,r26.2.1,r26.2.2))
        else
         (qfG N s_0).bind λr31=>
         some (.inl (1,r31))).bind λo13=>
     Sum.elim (λo13=>
      bif (o13.2==0) then
       some (0,[],0)
      else
       (slc s_0 0 o13.2).bind λs37=>
       some (o13.1,s37,o13.2))
     (λo13=>
      some o13) o13
   else
    (show Option ((Int×Int)⊕(Int×(List UInt8)×Int)) from
     bif brace_1 then
      (qgH N s_0).bind λr45=>
      some (.inl (9,r45))
     else
      bif ((c1.toNat:Int)==35) then
       (slc s_0 0 1).bind λs49=>
       some (.inr (4,s49,1))
      else
       bif ((c1.toNat:Int)==60) then
        (qfq N s_0).bind λr52=>
        some (.inr (r52.1,r52.2.1,r52.2.2))
       else
        (qfG N s_0).bind λr57=>
        some (.inl (1,r57))).bind λo39=>
    Sum.elim (λo39=>
     bif (o39.2==0) then
      some (0,[],0)
     else
      (slc s_0 0 o39.2).bind λs63=>
      some (o39.1,s63,o39.2))
    (λo39=>
     some o39) o39
def qdt(N:Nat)(s_0:List UInt8)(l_22:List (Token))(at_23:Int)(modes_24:List (Bool))(brace_25:Bool):Option (((List (Token))×Int×(List (Bool))×Bool)⊕((((List (Token))×(List (Bool)))⊕((List (Token))×Int×Int)))):=
 bif (decide (at_23<(s_0.length:Int))) then
  bif brace_25 then
   (idx s_0 at_23).bind λc35=>
   bif ((c35.toNat:Int)==32) then
    some (.inl (l_22,(at_23+1),modes_24,brace_25))
   else
    (idx s_0 at_23).bind λc38=>
    bif ((c38.toNat:Int)==9) then
     some (.inl (l_22,(at_23+1),modes_24,brace_25))
    else
     (idx s_0 at_23).bind λc41=>
     bif ((c41.toNat:Int)==10) then
      some (.inl (l_22,(at_23+1),modes_24,brace_25))
     else
      (slc s_0 at_23 (s_0.length:Int)).bind λs44=>
      (qgD N s44 brace_25).bind λr46=>
      (show Option Bool from
       bif (r46.1==0) then
        some (r46.1==0)
       else
        bif (r46.1==3) then
         some ((modes_24.length:Int)==0)
        else
         some false).bind λo51=>
      bif o51 then
       some (.inr (.inr ([],at_23,3)))
      else
       (show Option ((List (Bool))×Bool) from
        bif (r46.1==2) then
         (app modes_24 ([brace_25]:List (Bool))).bind λl63=>
         some (l63,(!brace_25))
        else
         bif (r46.1==3) then
          (idx modes_24 (IntKind.wrap .i64 ((modes_24.length:Int)-1))).bind λx69=>
          (slc modes_24 0 (IntKind.wrap .i64 ((modes_24.length:Int)-1))).bind λl79=>
          some (l79,x69)
         else
          some (modes_24,brace_25)).bind λo55=>
       (app l_22 ([(Token.mk r46.1 r46.2.1 at_23 (IntKind.wrap .i64 (at_23+r46.2.2)))]:List (Token))).bind λl90=>
       some (.inl (l90,(IntKind.wrap .i64 (at_23+r46.2.2)),o55.1,o55.2))
  else
   (slc s_0 at_23 (s_0.length:Int)).bind λs95=>
   (qgD N s95 brace_25).bind λr97=>
   (show Option Bool from
    bif (r97.1==0) then
     some (r97.1==0)
    else
     bif (r97.1==3) then
      some ((modes_24.length:Int)==0)
     else
      some false).bind λo102=>
   bif o102 then
    some (.inr (.inr ([],at_23,3)))
   else
    (show Option ((List (Bool))×Bool) from
     bif (r97.1==2) then
      (app modes_24 ([brace_25]:List (Bool))).bind λl114=>
      some (l114,(!brace_25))
     else
      bif (r97.1==3) then
       (idx modes_24 (IntKind.wrap .i64 ((modes_24.length:Int)-1))).bind λx120=>
       (slc modes_24 0 (IntKind.wrap .i64 ((modes_24.length:Int)-1))).bind λl130=>
       some (l130,x120)
      else
       some (modes_24,brace_25)).bind λo106=>
    (app l_22 ([(Token.mk r97.1 r97.2.1 at_23 (IntKind.wrap .i64 (at_23+r97.2.2)))]:List (Token))).bind λl141=>
    some (.inl (l141,(IntKind.wrap .i64 (at_23+r97.2.2)),o106.1,o106.2))
 else
  some (.inr (.inl (l_22,modes_24)))
def qe3(N:Nat)(s_0:List UInt8):Option ((List (Token))×Int×Int):=
 bif (decide ((s_0.length:Int)>4000)) then
  some ([],4000,6)
 else
  (iter (λs=>qdt N s_0 s.1 s.2.1 s.2.2.1 s.2.2.2) N ([],0,[],false)).bind λo14=>
  Sum.elim (λo14=>
   bif (decide ((o14.2.length:Int)>0)) then
    some ([],(s_0.length:Int),3)
   else
    some (o14.1,0,0))
  (λo14=>
   some o14) o14
def qcx(N:Nat)(s_0:List UInt8)(i_22:Int)(x_23:Builder):Option ((Int×Builder)⊕Builder):=
 bif (decide (i_22<(s_0.length:Int))) then
  (idx s_0 i_22).bind λc31=>
  bif ((c31.toNat:Int)==92) then
   (idx s_0 (i_22+1)).bind λc34=>
   (qbP N (c34.toNat:Int) (Builder.mk () x_23.buf)).bind λr36=>
   some (.inl ((IntKind.wrap .i64 ((i_22+1)+1)),(Builder.mk () r36.2.buf)))
  else
   (idx s_0 i_22).bind λc43=>
   (qbP N (c43.toNat:Int) (Builder.mk () x_23.buf)).bind λr45=>
   some (.inl ((i_22+1),(Builder.mk () r45.2.buf)))
 else
  some (.inr (Builder.mk () x_23.buf))
def qfP(N:Nat)(s_0:List UInt8):Option ((List UInt8)×Int×Int):=
 (qfG N s_0).bind λr1=>
 bif (decide (r1<(s_0.length:Int))) then
  some ([],r1,3)
 else
  (iter (λs=>qcx N s_0 s.1 s.2) N (0,(Builder.mk () ([])))).bind λo15=>
  some ((bytesOf o15.buf),0,0)
end Go.Proofs.YtkhjeeakflefjaaGreatDoor
namespace Go.Proofs.YtkhjeeakflefjaaGreatDoor
open Go.X
variable {u:World} {m0:Mem} {S:Segs} {w:World}
set_option maxHeartbeats 4000000
set_option maxRecDepth 100000
def qa4:Rp Token:=λ_ cs x=>cs=[.int .i64 x.Kind,.string (bs x.Text),.int .i64 x.From,.int .i64 x.To]∧InR .i64 x.Kind∧x.Text.length≤LIMS∧InR .i64 x.From∧InR .i64 x.To
theorem qac:Mono qa4:=⟨λ_ h=>by
 obtain⟨e,h0,h1,h2,h3⟩:=h
 exact⟨e,h0,h1,h2,h3⟩,λh=>by
 obtain⟨rfl,h0,h1,h2,h3⟩:=h
 exact⟨rfl,rfl,rfl,rfl,trivial⟩⟩
theorem qvc:goB Tryz.prog 119=true:=by kernel_rfl
theorem quY:goB Tryz.prog 121=true:=by kernel_rfl
theorem quW:goB Tryz.prog 134=true:=by kernel_rfl
theorem qvs:goB Tryz.prog 141=true:=by kernel_rfl
theorem qtx:goB Tryz.prog 53=true:=by kernel_rfl
theorem qtD:goB Tryz.prog 85=true:=by kernel_rfl
theorem qtE:goB Tryz.prog 86=true:=by kernel_rfl
theorem qqW:goB Tryz.prog 87=true:=by kernel_rfl
theorem qoN:oneB Tryz.prog 4=true:=by kernel_rfl
theorem qm0:qen Tryz.prog 132=some [(0,1),(1,1),(2,1),(3,1)]:=by kernel_rfl
theorem qe4:SlT Tryz.prog 128 4 1:=SlT.of (by kernel_rfl)
theorem qdJ:SlT Tryz.prog 95 132 4:=SlT.of (by kernel_rfl)
theorem qhC:qcp Tryz.prog 132=some [vi 0,(vs ([])),vi 0,vi 0]:=by kernel_rfl
theorem qmX:qcp Tryz.prog 4=some [vb false]:=by kernel_rfl
def qlo(u:World)(m0:Mem)(S:Segs)(r:Int)(a:Act)(w:World):Prop:=
 Ok u m0 S w∧a.defers=[]∧RVs Tryz.prog a w [.t 2 (.int .i64 r)]∧InR .i64 r
theorem qlr(N:Nat)(s_0:List UInt8)(ls_0:s_0.length≤LIMS){r:Int}(hF:qgH N s_0=some r)(hG:Glob u)(ok:Ok u m0 S w) :
  Calls Tryz.prog 85 [vs s_0].toArray w λe w'=>(e=.returned (.int .i64 r)∧Ok u m0 S w')∧InR .i64 r:=by
 unfold qgH at hF
 refine en (qlo u m0 S) r Tryz.func85 rfl rfl rfl (λ_ _ h=>rb h rfl) λfin a E=>sg<|aw E rfl λa E=>wp_seq<|sg<|mv E rfl λa E=>lw E (qbp Tryz.underlying9 rfl) λa E=>mv E rfl λa E=>wn<|wp_block<|bd hF λo2 hL hF=>qbb _ (λ(s:Int) a w=>Ok u m0 (S) w∧Env 42 a [(0,vs s_0),(5,(vi (s_0.length:Int))),(6,vi s)]∧InR .i64 s) (λ(b:(Unit⊕Int)) e a w=>(Sum.elim (λb24=>e=(.exit 0)∧Ok u m0 (S) w∧Env 42 a [(0,vs s_0)]) (λb25=>e=.ret∧qlo u m0 S b25 a w)) b) ?_ ?_ N _ a w hL ⟨ok,E.keep [0,5,6],(ir 0)⟩
 rotate_left
 ·intro e a w _ hO
  rcases o2 with o2 | o2
  rotate_left
  ·obtain⟨rfl,hret⟩:=hO
   refine qaA<|qak ?_
   exact fin hF hret
  have hF:=qdI hF
  obtain⟨rfl,ok,E⟩:=hO
  refine qbh<|qaa<|sg<|mv E rfl λa E=>lw E (qbp Tryz.underlying9 rfl) λa E=>av E rfl λa E=>wn<|wp_ret ?_
  exact fin hF ⟨ok,E.d,rz E rfl,(InR.len ls_0)⟩
 rintro v4 a w r ⟨ok,E,r5⟩ hF
 replace hF:qej N s_0 v4=some r:=hF
 unfold qej at hF
 refine sg<|lw E (qaP rfl rfl) λa E=>wn<|wp_seq<|cg E rfl hF (λc6 hF=>?_) λc6 hF=>?_
 ·refine wp_exit<|qaM ?_
  cases hF
  exact so (sl ⟨rfl,⟨ok,E.keep [0]⟩⟩)
 refine wp_skip<|qaa<|wp_seq<|wp_block<|sg<|mv E rfl λa E=>av E rfl λa E=>wn<|sg<|mz E rfl rfl λa E=>bd hF λc7 e8 hF=>lv E ok (qbU Tryz.underlying9 rfl rfl e8) λa E=>bd hF λr9 e10 hF=>lc E qrL rfl (qkk N (c7.toNat:Int) (InR.byte c7) e10 hG ok) λw ok a E=>lw E (qa9 rfl) λa E=>mv E rfl λa E=>bw E 14 hF (λc11 hF E=>?_) λc11 hF E=>?_
 ·refine lsz E λa E=>pf E rfl rfl λa E=>mv E rfl λa E=>lsz E λa E=>pf E rfl rfl λa E=>mv E rfl λa E=>lsz E λa E=>?_
  refine pf E rfl rfl λa E=>mv E rfl λa E=>lsz E λa E=>pf E rfl rfl λa E=>wn<|c_if E rfl (λh=>by cases h) (λ_=>?_)
  refine wp_skip<|qal<|qaa<|qab<|lw E (qaH rfl rfl (InR.inc r5 (InR.len ls_0) c6)) λa E=>mv E rfl λa E=>wpList_nil ?_
  cases hF
  exact qau ⟨ok,E.keep [0,5,6],(InR.inc r5 (InR.len ls_0) c6)⟩
 refine mz E rfl rfl λa E=>bd hF λc12 e13 hF=>lv E ok (qbU Tryz.underlying9 rfl rfl e13) λa E=>lw E (qbg rfl rfl) λa E=>pt E rfl rfl λa E=>mv E rfl λa E=>bw E 20 hF (λc14 hF E=>?_) λc14 hF E=>?_
 ·refine lsz E λa E=>pf E rfl rfl λa E=>mv E rfl λa E=>lsz E λa E=>pf E rfl rfl λa E=>mv E rfl λa E=>lsz E λa E=>?_
  refine pf E rfl rfl λa E=>wn<|c_if E rfl (λh=>by cases h) (λ_=>?_)
  refine wp_skip<|qal<|qaa<|qab<|lw E (qaH rfl rfl (InR.inc r5 (InR.len ls_0) c6)) λa E=>mv E rfl λa E=>wpList_nil ?_
  cases hF
  exact qau ⟨ok,E.keep [0,5,6],(InR.inc r5 (InR.len ls_0) c6)⟩
 refine mz E rfl rfl λa E=>bd hF λc15 e16 hF=>lv E ok (qbU Tryz.underlying9 rfl rfl e16) λa E=>lw E (qbg rfl rfl) λa E=>pt E rfl rfl λa E=>mv E rfl λa E=>bw E 26 hF (λc17 hF E=>?_) λc17 hF E=>?_
 ·refine lsz E λa E=>pf E rfl rfl λa E=>mv E rfl λa E=>lsz E λa E=>pf E rfl rfl λa E=>wn<|c_if E rfl (λh=>by cases h) (λ_=>?_)
  refine wp_skip<|qal<|qaa<|qab<|lw E (qaH rfl rfl (InR.inc r5 (InR.len ls_0) c6)) λa E=>mv E rfl λa E=>wpList_nil ?_
  cases hF
  exact qau ⟨ok,E.keep [0,5,6],(InR.inc r5 (InR.len ls_0) c6)⟩
 refine mz E rfl rfl λa E=>bd hF λc18 e19 hF=>lv E ok (qbU Tryz.underlying9 rfl rfl e19) λa E=>lw E (qbg rfl rfl) λa E=>pt E rfl rfl λa E=>mv E rfl λa E=>bw E 32 hF (λc20 hF E=>?_) λc20 hF E=>?_
 ·refine lsz E λa E=>pf E rfl rfl λa E=>wn<|c_if E rfl (λh=>by cases h) (λ_=>?_)
  refine wp_skip<|qal<|qaa<|qab<|lw E (qaH rfl rfl (InR.inc r5 (InR.len ls_0) c6)) λa E=>mv E rfl λa E=>wpList_nil ?_
  cases hF
  exact qau ⟨ok,E.keep [0,5,6],(InR.inc r5 (InR.len ls_0) c6)⟩
 refine mz E rfl rfl λa E=>bd hF λc21 e22 hF=>lv E ok (qbU Tryz.underlying9 rfl rfl e22) λa E=>lw E (qbg rfl rfl) λa E=>pt E rfl rfl λa E=>wn<|cg E rfl hF (λc23 hF=>?_) λc23 hF=>?_
 ·refine wp_skip<|qal<|qaa<|qab<|lw E (qaH rfl rfl (InR.inc r5 (InR.len ls_0) c6)) λa E=>mv E rfl λa E=>wpList_nil ?_
  cases hF
  exact qau ⟨ok,E.keep [0,5,6],(InR.inc r5 (InR.len ls_0) c6)⟩
 refine sg<|mv E rfl λa E=>aw E rfl λa E=>wp_ret<|qaA<|qak ?_
 cases hF
 exact so (sr ⟨rfl,⟨ok,E.d,rz E rfl,r5⟩⟩)
theorem qlg{u:World}{m0:Mem}{S:Segs}{w:World}(N:Nat)(p0_0:List UInt8)(lp0_0:p0_0.length≤LIMS)(p1_1:Int)(rp1_1:InR .u8 p1_1){r:Int}(hF:strings_IndexByte N p0_0 p1_1=some r)(hG:Glob u)(ok:Ok u m0 S w) :
 Calls Tryz.prog 119 [vs p0_0,Value.int .u8 p1_1].toArray w λe w'=>(e=.returned (.int .i64 r)∧Ok u m0 S w')∧InR .i64 r:=qoD Tryz.lays137 p0_0 p1_1 hF lp0_0 ok
def qgW(u:World)(m0:Mem)(S:Segs)(r:Bool)(a:Act)(w:World):Prop:=
 Ok u m0 S w∧a.defers=[]∧RVs Tryz.prog a w [.t 4 (.bool r)]
theorem qgU(N:Nat)(s_0:List UInt8)(ls_0:s_0.length≤LIMS)(suffix_1:List UInt8)(lsuffix_1:suffix_1.length≤LIMS){r:Bool}(hF:qdv N s_0 suffix_1=some r)(hG:Glob u)(ok:Ok u m0 S w) :
  Calls Tryz.prog 141 [vs s_0,vs suffix_1].toArray w λe w'=>(e=.returned (.bool r)∧Ok u m0 S w'):=by
 unfold qdv at hF
 refine en (qgW u m0 S) r Tryz.func141 rfl rfl rfl (λ_ _ h=>ra h rfl) λfin a E=>sg<|aw E rfl λa E=>sg<|mv E rfl λa E=>lw E (qbp Tryz.underlying9 rfl) λa E=>mv E rfl λa E=>lw E (qbp Tryz.underlying9 rfl) λa E=>lw E (qbL rfl rfl) λa E=>mv E rfl λa E=>bw E 10 hF (λc1 hF E=>?_) λc1 hF E=>?_
 ·refine lsz E λa E=>lsz E λa E=>ls E λa E=>pf E rfl rfl λa E=>aw E rfl λa E=>wp_ret ?_
  exact fin hF ⟨ok,E.d,rz E rfl⟩
 refine mz E rfl rfl λa E=>lw E (qbp Tryz.underlying9 rfl) λa E=>mv E rfl λa E=>lw E (qbp Tryz.underlying9 rfl) λa E=>lw E (qcP rfl rfl) λa E=>bd hF λs2 e3 hF=>lw E (qec Tryz.underlying9 e3 rfl ⟨_,rfl⟩ rfl) λa E=>mv E rfl λa E=>lw E (qb6 rfl rfl) λa E=>pt E rfl rfl λa E=>aw E rfl λa E=>wp_ret ?_
 exact fin hF ⟨ok,E.d,rz E rfl⟩
def qg1(u:World)(m0:Mem)(S:Segs)(r:(List UInt8)×Bool)(a:Act)(w:World):Prop:=
 Ok u m0 S w∧a.defers=[]∧RVs Tryz.prog a w [.t 4 (.string (bs r.1)),.t 5 (.bool r.2)]∧r.1.length≤LIMS
theorem qgV(N:Nat)(s_0:List UInt8)(ls_0:s_0.length≤LIMS)(suffix_1:List UInt8)(lsuffix_1:suffix_1.length≤LIMS){r:(List UInt8)×Bool}(hF:qdu N s_0 suffix_1=some r)(hG:Glob u)(ok:Ok u m0 S w) :
  Calls Tryz.prog 134 [vs s_0,vs suffix_1].toArray w λe w'=>(e=.returned (.tuple [(.string (bs r.1)),(.bool r.2)].toArray)∧Ok u m0 S w')∧r.1.length≤LIMS:=by
 unfold qdu at hF
 refine en (qg1 u m0 S) r Tryz.func134 rfl rfl rfl (by rintro a w ⟨ok,hd,hrv,h0⟩;exact qbf [.t 4 (.string (bs r.1)),.t 5 (.bool r.2)] hd rfl hrv ⟨⟨rfl,ok⟩,h0⟩) λfin a E=>sg<|av E rfl λa E=>aw E rfl λa E=>wp_seq<|sg<|mz E rfl rfl λa E=>bd hF λr1 e2 hF=>lc E qvs rfl (qgU N s_0 ls_0 suffix_1 lsuffix_1 e2 hG ok) λw ok a E=>lw E (qa9 rfl) λa E=>wn<|cf E rfl hF (λc3 hF=>?_) λc3 hF=>?_
 ·refine sg<|mv E rfl λa E=>av E rfl λa E=>aw E rfl λa E=>wp_ret<|qak ?_
  exact fin hF ⟨ok,E.d,⟨rv_t E rfl,rv_t E rfl,trivial⟩,ls_0⟩
 refine wp_skip<|qaa<|sg<|mz E rfl rfl λa E=>lw E (qbp Tryz.underlying9 rfl) λa E=>mv E rfl λa E=>lw E (qbp Tryz.underlying9 rfl) λa E=>lw E (qcP rfl rfl) λa E=>bd hF λs4 e5 hF=>lw E (qec Tryz.underlying9 e5 rfl rfl ⟨_,rfl⟩) λa E=>av E rfl λa E=>aw E rfl λa E=>wp_ret ?_
 exact fin hF ⟨ok,E.d,⟨rv_t E rfl,rv_t E rfl,trivial⟩,(Nat.le_trans (qeo e5) ls_0)⟩
def qla(u:World)(m0:Mem)(S:Segs)(r:(List UInt8)×Bool)(a:Act)(w:World):Prop:=
 Ok u m0 S w∧a.defers=[]∧RVs Tryz.prog a w [.t 4 (.string (bs r.1)),.t 5 (.bool r.2)]∧r.1.length≤LIMS
theorem qle(N:Nat)(s_0:List UInt8)(ls_0:s_0.length≤LIMS)(suffix_1:List UInt8)(lsuffix_1:suffix_1.length≤LIMS){r:(List UInt8)×Bool}(hF:qef N s_0 suffix_1=some r)(hG:Glob u)(ok:Ok u m0 S w) :
  Calls Tryz.prog 121 [vs s_0,vs suffix_1].toArray w λe w'=>(e=.returned (.tuple [(.string (bs r.1)),(.bool r.2)].toArray)∧Ok u m0 S w')∧r.1.length≤LIMS:=by
 unfold qef at hF
 refine en (qla u m0 S) r Tryz.func121 rfl rfl rfl (by rintro a w ⟨ok,hd,hrv,h0⟩;exact qbf [.t 4 (.string (bs r.1)),.t 5 (.bool r.2)] hd rfl hrv ⟨⟨rfl,ok⟩,h0⟩) λfin a E=>sg<|av E rfl λa E=>aw E rfl λa E=>sg<|mz E rfl rfl λa E=>bd hF λr1 e2 hF=>qae E quW rfl (qgV N s_0 ls_0 suffix_1 lsuffix_1 e2 hG ok) rfl rfl ?_
 rintro _ w ⟨⟨rfl,ok⟩,l3⟩
 refine⟨_,rfl,λa E=>?_⟩
 refine lw E (qag rfl rfl) λa E=>lw E (qag rfl rfl) λa E=>av E rfl λa E=>aw E rfl λa E=>wp_ret ?_
 exact fin hF ⟨ok,E.d,⟨rv_t E rfl,rv_t E rfl,trivial⟩,l3⟩
def qm1(u:World)(m0:Mem)(S:Segs)(r:Int×(List UInt8)×Int)(a:Act)(w:World):Prop:=
 Ok u m0 S w∧a.defers=[]∧RVs Tryz.prog a w [.t 2 (.int .i64 r.1),.t 3 (.string (bs r.2.1)),.t 4 (.int .i64 r.2.2)]∧InR .i64 r.1∧r.2.1.length≤LIMS∧InR .i64 r.2.2
theorem qjF(N:Nat)(s_0:List UInt8)(ls_0:s_0.length≤LIMS){r:Int×(List UInt8)×Int}(hF:qfq N s_0=some r)(hG:Glob u)(ok:Ok u m0 S w) :
  Calls Tryz.prog 86 [vs s_0].toArray w λe w'=>(e=.returned (.tuple [(.int .i64 r.1),(.string (bs r.2.1)),(.int .i64 r.2.2)].toArray)∧Ok u m0 S w')∧InR .i64 r.1∧r.2.1.length≤LIMS∧InR .i64 r.2.2:=by
 unfold qfq at hF
 refine en (qm1 u m0 S) r Tryz.func86 rfl rfl rfl (by rintro a w ⟨ok,hd,hrv,h0,h1,h2⟩;exact qbf [.t 2 (.int .i64 r.1),.t 3 (.string (bs r.2.1)),.t 4 (.int .i64 r.2.2)] hd rfl hrv ⟨⟨rfl,ok⟩,h0,h1,h2⟩) λfin a E=>sg<|av E rfl λa E=>av E rfl λa E=>aw E rfl λa E=>sg<|mv E rfl λa E=>bd hF λr1 e2 hF=>qae E qvc rfl (qlg N s_0 ls_0 62 (show InR .u8 (62) by decide) e2 hG ok) rfl rfl ?_
 rintro _ w ⟨⟨rfl,ok⟩,r3⟩
 refine⟨_,rfl,λa E=>?_⟩
 refine aw E rfl λa E=>wp_seq<|sg<|mv E rfl λa E=>lw E (qaP rfl rfl) λa E=>wn<|cf E rfl hF (λc4 hF=>?_) λc4 hF=>?_
 ·refine sg<|av E rfl λa E=>av E rfl λa E=>aw E rfl λa E=>wp_ret<|qak ?_
  exact fin hF ⟨ok,E.d,⟨rv_t E rfl,rv_t E rfl,rv_t E rfl,trivial⟩,(ir 0),(show([]:List UInt8).length≤LIMS by decide),(ir 0)⟩
 refine wp_skip<|qaa<|wp_seq<|qdO (by kernel_rfl) (by kernel_rfl) ok<|qv E (qad rfl) λa E=>qv E (qad rfl) λa E=>bd hF λs5 e6 hF=>qv E (qec Tryz.underlying9 e6 rfl ⟨_,rfl⟩ ⟨_,rfl⟩) λa E=>qv E (qa3 rfl) λa E=>qv E (qa3 rfl) λa E=>wpQuiet_nil ?_
 intro w ok
 refine qaa<|wp_seq<|sg<|mv E rfl λa E=>bd hF λr7 e8 hF=>qae E qoV rfl (qgj N s5 (Nat.le_trans (qeo e6) ls_0) ([47]) (show([47]:List UInt8).length≤LIMS by decide) e8 hG ok) rfl rfl ?_
 rintro _ w ⟨⟨rfl,ok⟩,l9⟩
 refine⟨_,rfl,λa E=>?_⟩
 refine mv E rfl λa E=>lw E (qag rfl rfl) λa E=>lw E (qag rfl rfl) λa E=>av E rfl λa E=>aw E rfl λa E=>sg<|mv E rfl λa E=>wn<|bd hF λo10 hJ hF=>qaO (Q':=λe a w=>e=.normal∧Ok u m0 (S) w∧Env 38 a [(2,vi o10.1),(3,vs o10.2),(5,vi r1)]∧InR .i64 o10.1∧o10.2.length≤LIMS) ?_ ?_
 ·have hF:=hJ
  refine cf E rfl hF (λc13 hF=>?_) λc13 hF=>?_
  ·refine qab<|mv E rfl λa E=>av E rfl λa E=>av E rfl λa E=>wpList_nil ?_
   cases hF
   exact⟨rfl,⟨ok,E.keep [2,3,5],(ir 6),l9⟩⟩
  refine sg<|mv E rfl λa E=>bd hF λr14 e15 hF=>qae E quY rfl (qle N s5 (Nat.le_trans (qeo e6) ls_0) ([47]) (show([47]:List UInt8).length≤LIMS by decide) e15 hG ok) rfl rfl ?_
  rintro _ w ⟨⟨rfl,ok⟩,l16⟩
  refine⟨_,rfl,λa E=>?_⟩
  refine mv E rfl λa E=>lw E (qag rfl rfl) λa E=>lw E (qag rfl rfl) λa E=>av E rfl λa E=>aw E rfl λa E=>sg<|mv E rfl λa E=>wn<|cg E rfl hF (λc17 hF=>?_) λc17 hF=>?_
  ·refine wp_skip ?_
   cases hF
   exact⟨rfl,⟨ok,E.keep [2,3,5],(ir 5),(Nat.le_trans (qeo e6) ls_0)⟩⟩
  refine qab<|mv E rfl λa E=>av E rfl λa E=>av E rfl λa E=>wpList_nil ?_
  cases hF
  exact⟨rfl,⟨ok,E.keep [2,3,5],(ir 7),l16⟩⟩
 intro e a w hO
 obtain⟨rfl,ok,E,r18,l19⟩:=hO
 refine qaa<|wp_seq<|sg<|mv E rfl λa E=>bd hF λr20 e21 hF=>lc E qiE rfl (qeb N o10.2 l19 e21 hG ok) λw ok a E=>lw E (qa9 rfl) λa E=>wn<|cf E rfl hF (λc22 hF=>?_) λc22 hF=>?_
 ·refine sg<|av E rfl λa E=>av E rfl λa E=>aw E rfl λa E=>wp_ret<|qak ?_
  exact fin hF ⟨ok,E.d,⟨rv_t E rfl,rv_t E rfl,rv_t E rfl,trivial⟩,(ir 0),(show([]:List UInt8).length≤LIMS by decide),(ir 0)⟩
 refine wp_skip<|qaa<|sg<|mz E rfl rfl λa E=>mv E rfl λa E=>lw E (qbk rfl rfl) λa E=>av E rfl λa E=>av E rfl λa E=>aw E rfl λa E=>wp_ret ?_
 exact fin hF ⟨ok,E.d,⟨rv_t E rfl,rv_t E rfl,rv_t E rfl,trivial⟩,r18,l19,(InR.wrap _ _)⟩
def qk8(u:World)(m0:Mem)(S:Segs)(r:Int)(a:Act)(w:World):Prop:=
 Ok u m0 S w∧a.defers=[]∧RVs Tryz.prog a w [.t 2 (.int .i64 r)]∧InR .i64 r
theorem qig(N:Nat)(s_0:List UInt8)(ls_0:s_0.length≤LIMS){r:Int}(hF:qfG N s_0=some r)(hG:Glob u)(ok:Ok u m0 S w) :
  Calls Tryz.prog 87 [vs s_0].toArray w λe w'=>(e=.returned (.int .i64 r)∧Ok u m0 S w')∧InR .i64 r:=by
 unfold qfG at hF
 refine en (qk8 u m0 S) r Tryz.func87 rfl rfl rfl (λ_ _ h=>rb h rfl) λfin a E=>sg<|aw E rfl λa E=>wp_seq<|sg<|aw E rfl λa E=>wp_block<|bd hF λo2 hL hF=>qbb _ (λ(s:Int) a w=>Ok u m0 (S) w∧Env 39 a [(0,vs s_0),(3,vi s)]∧InR .i64 s) (λ(b:(Unit⊕Int)) e a w=>(Sum.elim (λb21=>e=(.exit 0)∧Ok u m0 (S) w∧Env 39 a [(0,vs s_0)]) (λb22=>e=.ret∧qk8 u m0 S b22 a w)) b) ?_ ?_ N _ a w hL ⟨ok,E.keep [0,3],(ir 0)⟩
 rotate_left
 ·intro e a w _ hO
  rcases o2 with o2 | o2
  rotate_left
  ·obtain⟨rfl,hret⟩:=hO
   refine qaA<|qak ?_
   exact fin hF hret
  have hF:=qdI hF
  obtain⟨rfl,ok,E⟩:=hO
  refine qbh<|qaa<|sg<|mv E rfl λa E=>lw E (qbp Tryz.underlying9 rfl) λa E=>av E rfl λa E=>wn<|wp_ret ?_
  exact fin hF ⟨ok,E.d,rz E rfl,(InR.len ls_0)⟩
 rintro v4 a w r ⟨ok,E,r5⟩ hF
 replace hF:qd4 N s_0 v4=some r:=hF
 unfold qd4 at hF
 refine wp_seq<|sg<|mz E rfl rfl λa E=>lw E (qbp Tryz.underlying9 rfl) λa E=>lw E (qaP rfl rfl) λa E=>wn<|cg E rfl hF (λc6 hF=>?_) λc6 hF=>?_
 ·refine wp_exit<|qaM ?_
  cases hF
  exact so (sl ⟨rfl,⟨ok,E.keep [0]⟩⟩)
 refine wp_skip<|qaa<|wp_seq<|wp_block<|wp_seq<|sg<|mv E rfl λa E=>mv E rfl λa E=>bd hF λc7 e8 hF=>lv E ok (qbU Tryz.underlying9 rfl rfl e8) λa E=>bd hF λr9 e10 hF=>lc E qqJ rfl (qhl N (c7.toNat:Int) (InR.byte c7) e10 hG ok) λw ok a E=>lw E (qa9 rfl) λa E=>wn<|cf E rfl hF (λc11 hF=>?_) λc11 hF=>?_
 ·refine wp_exit<|qaM<|qbh<|qaa<|qab<|mv E rfl λa E=>lw E (qaH rfl rfl (InR.inc r5 (InR.len ls_0) c6)) λa E=>av E rfl λa E=>wpList_nil ?_
  cases hF
  exact qau ⟨ok,E.keep [0,3],(InR.inc r5 (InR.len ls_0) c6)⟩
 refine wp_skip<|qaa<|wp_seq<|sg<|mz E rfl rfl λa E=>bd hF λc12 e13 hF=>lv E ok (qbU Tryz.underlying9 rfl rfl e13) λa E=>lw E (qbg rfl rfl) λa E=>mv E rfl λa E=>bu E 19 hF (λc14 hF E=>?_) λc14 hF E=>?_
 ·refine lsz E λa E=>ls E λa E=>pt E rfl rfl λa E=>mv E rfl λa E=>lsz E λa E=>lsq E λa E=>pt E rfl rfl λa E=>wn<|c_if E rfl (λ_=>?_) (λh=>by cases h)
  refine sg<|mv E rfl λa E=>aw E rfl λa E=>wp_ret<|qak<|qaA<|qak ?_
  cases hF
  exact so (sr ⟨rfl,⟨ok,E.d,rz E rfl,r5⟩⟩)
 refine mv E rfl λa E=>lw E (qaH rfl rfl (InR.inc r5 (InR.len ls_0) c6)) λa E=>mv E rfl λa E=>lw E (qbp Tryz.underlying9 rfl) λa E=>lw E (qaz rfl rfl) λa E=>pf E rfl rfl λa E=>mv E rfl λa E=>bu E 26 hF (λc15 hF E=>?_) λc15 hF E=>?_
 ·refine lsz E λa E=>lsq E λa E=>pt E rfl rfl λa E=>wn<|c_if E rfl (λ_=>?_) (λh=>by cases h)
  refine sg<|mv E rfl λa E=>aw E rfl λa E=>wp_ret<|qak<|qaA<|qak ?_
  cases hF
  exact so (sr ⟨rfl,⟨ok,E.d,rz E rfl,r5⟩⟩)
 refine mz E rfl rfl λa E=>lw E (qaH rfl rfl (InR.inc r5 (InR.len ls_0) c6)) λa E=>bd hF λc16 e17 hF=>lv E ok (qbU Tryz.underlying9 rfl rfl e17) λa E=>bd hF λr18 e19 hF=>lc E qqJ rfl (qhl N (c16.toNat:Int) (InR.byte c16) e19 hG ok) λw ok a E=>lw E (qa9 rfl) λa E=>pf E rfl rfl λa E=>wn<|cf E rfl hF (λc20 hF=>?_) λc20 hF=>?_
 ·refine sg<|mv E rfl λa E=>aw E rfl λa E=>wp_ret<|qak<|qaA<|qak ?_
  cases hF
  exact so (sr ⟨rfl,⟨ok,E.d,rz E rfl,r5⟩⟩)
 refine wp_skip<|qaa<|qab<|mv E rfl λa E=>lw E (qaH rfl rfl (InR.inc r5 (InR.len ls_0) c6)) λa E=>av E rfl λa E=>wpList_nil<|qal<|qaa<|qab<|mv E rfl λa E=>lw E (qbk rfl rfl) λa E=>av E rfl λa E=>wpList_nil ?_
 cases hF
 exact qau ⟨ok,E.keep [0,3],(InR.wrap _ _)⟩
def qfe(u:World)(m0:Mem)(S:Segs)(r:Int×(List UInt8)×Int)(a:Act)(w:World):Prop:=
 Ok u m0 S w∧a.defers=[]∧RVs Tryz.prog a w [.t 4 (.int .i64 r.1),.t 5 (.string (bs r.2.1)),.t 6 (.int .i64 r.2.2)]∧InR .i64 r.1∧r.2.1.length≤LIMS∧InR .i64 r.2.2
theorem qlJ(N:Nat)(s_0:List UInt8)(ls_0:s_0.length≤LIMS)(brace_1:Bool){r:Int×(List UInt8)×Int}(hF:qgD N s_0 brace_1=some r)(hG:Glob u)(ok:Ok u m0 S w) :
  Calls Tryz.prog 53 [vs s_0,vb brace_1].toArray w λe w'=>(e=.returned (.tuple [(.int .i64 r.1),(.string (bs r.2.1)),(.int .i64 r.2.2)].toArray)∧Ok u m0 S w')∧InR .i64 r.1∧r.2.1.length≤LIMS∧InR .i64 r.2.2:=by
 unfold qgD at hF
 refine en (qfe u m0 S) r Tryz.func53 rfl rfl rfl (by rintro a w ⟨ok,hd,hrv,h0,h1,h2⟩;exact qbf [.t 4 (.int .i64 r.1),.t 5 (.string (bs r.2.1)),.t 6 (.int .i64 r.2.2)] hd rfl hrv ⟨⟨rfl,ok⟩,h0,h1,h2⟩) λfin a E=>sg<|av E rfl λa E=>av E rfl λa E=>aw E rfl λa E=>wp_seq<|sg<|mv E rfl λa E=>bd hF λc1 e2 hF=>lv E ok (qbU Tryz.underlying9 rfl rfl e2) λa E=>aw E rfl λa E=>wp_block<|sg<|mv E rfl λa E=>?_
 refine lw E (qaz rfl rfl) λa E=>aw E rfl λa E=>cf E rfl hF (λc3 hF=>?_) λc3 hF=>?_
 ·refine wp_seq<|qdO (by kernel_rfl) (by kernel_rfl) ok<|qv E (qad rfl) λa E=>bd hF λs4 e5 hF=>qv E (qec Tryz.underlying9 e5 rfl rfl ⟨_,rfl⟩) λa E=>qv E (qa3 rfl) λa E=>qv E (qa3 rfl) λa E=>qv E (qa3 rfl) λa E=>wpQuiet_nil ?_
  intro w ok
  refine qaa<|wp_ret<|qaA<|qak ?_
  exact fin hF ⟨ok,E.d,⟨rv_t E rfl,rv_t E rfl,rv_t E rfl,trivial⟩,(ir 2),(Nat.le_trans (qeo e5) ls_0),(ir 1)⟩
 refine sg<|mv E rfl λa E=>lw E (qaz rfl rfl) λa E=>aw E rfl λa E=>cf E rfl hF (λc6 hF=>?_) λc6 hF=>?_
 ·refine wp_seq<|qdO (by kernel_rfl) (by kernel_rfl) ok<|qv E (qad rfl) λa E=>bd hF λs7 e8 hF=>qv E (qec Tryz.underlying9 e8 rfl rfl ⟨_,rfl⟩) λa E=>qv E (qa3 rfl) λa E=>qv E (qa3 rfl) λa E=>qv E (qa3 rfl) λa E=>wpQuiet_nil ?_
  intro w ok
  refine qaa<|wp_ret<|qaA<|qak ?_
  exact fin hF ⟨ok,E.d,⟨rv_t E rfl,rv_t E rfl,rv_t E rfl,trivial⟩,(ir 3),(Nat.le_trans (qeo e8) ls_0),(ir 1)⟩
 refine sg<|mz E rfl rfl λa E=>qbx brace_1 (λc9=>?_) (λc9=>?_)
 rotate_left
 ·as_aux_lemma=>
   have hF:=qby c9 hF
   have E:=E.upd 24 c9 rfl
   refine lsq E λa E=>pf E rfl rfl λa E=>aw E rfl λa E=>c_if E rfl (λh=>by cases h) (λ_=>?_)
   refine sg<|mv E rfl λa E=>aw E rfl λa E=>bd hF λo39 hJ hF=>qaO (Q':=λe a w=>(Sum.elim (λb40=>e=.normal∧Ok u m0 (S) w∧Env 54 a [(0,vs s_0),(4,vi b40.1),(6,vi b40.2)]∧InR .i64 b40.1∧InR .i64 b40.2) (λb43=>e=.ret∧qfe u m0 S b43 a w)) o39) ?_ ?_
   rotate_left
   ·intro e a w hO
    rcases o39 with o39 | o39
    rotate_left
    ·obtain⟨rfl,hret⟩:=hO
     refine qaA<|qak ?_
     exact fin hF hret
    have hF:=qdI hF
    obtain⟨rfl,ok,E,r60,r61⟩:=hO
    refine qal<|qaa<|wp_seq<|sg<|mv E rfl λa E=>lw E (qaz rfl rfl) λa E=>wn<|cf E rfl hF (λc62 hF=>?_) λc62 hF=>?_
    ·refine sg<|av E rfl λa E=>av E rfl λa E=>aw E rfl λa E=>wp_ret<|qak ?_
     exact fin hF ⟨ok,E.d,⟨rv_t E rfl,rv_t E rfl,rv_t E rfl,trivial⟩,(ir 0),(show([]:List UInt8).length≤LIMS by decide),(ir 0)⟩
    refine wp_skip<|qaa<|wp_seq<|qdO (by kernel_rfl) (by kernel_rfl) ok<|qv E (qad rfl) λa E=>qv E (qad rfl) λa E=>qv E (qad rfl) λa E=>bd hF λs63 e64 hF=>qv E (qec Tryz.underlying9 e64 rfl rfl ⟨_,rfl⟩) λa E=>qv E (qad rfl) λa E=>qv E (qa3 rfl) λa E=>qv E (qa3 rfl) λa E=>qv E (qa3 rfl) λa E=>wpQuiet_nil ?_
    intro w ok
    refine qaa<|wp_ret ?_
    exact fin hF ⟨ok,E.d,⟨rv_t E rfl,rv_t E rfl,rv_t E rfl,trivial⟩,r60,(Nat.le_trans (qeo e64) ls_0),r61⟩
   have hF:=hJ
   refine cf E rfl hF (λc44 hF=>?_) λc44 hF=>?_
   ·refine qab<|mv E rfl λa E=>bd hF λr45 e46 hF=>qae E qtD rfl (qlr N s_0 ls_0 e46 hG ok) rfl rfl ?_
    rintro _ w ⟨⟨rfl,ok⟩,r47⟩
    refine⟨_,rfl,λa E=>?_⟩
    refine av E rfl λa E=>av E rfl λa E=>wpList_nil ?_
    cases hF
    exact(sl ⟨rfl,⟨ok,E.keep [0,4,6],(ir 9),r47⟩⟩)
   refine sg<|mv E rfl λa E=>lw E (qaz rfl rfl) λa E=>aw E rfl λa E=>cf E rfl hF (λc48 hF=>?_) λc48 hF=>?_
   ·refine wp_seq<|qdO (by kernel_rfl) (by kernel_rfl) ok<|qv E (qad rfl) λa E=>bd hF λs49 e50 hF=>qv E (qec Tryz.underlying9 e50 rfl rfl ⟨_,rfl⟩) λa E=>qv E (qa3 rfl) λa E=>qv E (qa3 rfl) λa E=>qv E (qa3 rfl) λa E=>wpQuiet_nil ?_
    intro w ok
    refine qaa<|wp_ret ?_
    have hret:qfe u m0 S (4,s49,1) a w:=⟨ok,E.d,⟨rv_t E rfl,rv_t E rfl,rv_t E rfl,trivial⟩,(ir 4),(Nat.le_trans (qeo e50) ls_0),(ir 1)⟩
    cases hF
    exact(sr ⟨rfl,hret⟩)
   refine sg<|mv E rfl λa E=>lw E (qaz rfl rfl) λa E=>aw E rfl λa E=>cg E rfl hF (λc51 hF=>?_) λc51 hF=>?_
   ·refine qab<|mv E rfl λa E=>bd hF λr57 e58 hF=>qae E qqW rfl (qig N s_0 ls_0 e58 hG ok) rfl rfl ?_
    rintro _ w ⟨⟨rfl,ok⟩,r59⟩
    refine⟨_,rfl,λa E=>?_⟩
    refine av E rfl λa E=>av E rfl λa E=>wpList_nil ?_
    cases hF
    exact(sl ⟨rfl,⟨ok,E.keep [0,4,6],(ir 1),r59⟩⟩)
   refine sg<|mv E rfl λa E=>bd hF λr52 e53 hF=>qae E qtE rfl (qjF N s_0 ls_0 e53 hG ok) rfl rfl ?_
   rintro _ w ⟨⟨rfl,ok⟩,r54,l55,r56⟩
   refine⟨_,rfl,λa E=>?_⟩
   refine lw E (qag rfl rfl) λa E=>lw E (qag rfl rfl) λa E=>lw E (qag rfl rfl) λa E=>av E rfl λa E=>av E rfl λa E=>aw E rfl λa E=>wp_ret ?_
   have hret:qfe u m0 S (r52.1,r52.2.1,r52.2.2) a w:=⟨ok,E.d,⟨rv_t E rfl,rv_t E rfl,rv_t E rfl,trivial⟩,r54,l55,r56⟩
   cases hF
   exact(sr ⟨rfl,hret⟩)
 have hF:=qbz c9 hF
 have E:=E.upd 24 c9 rfl
 refine mv E rfl λa E=>lw E (qaz rfl rfl) λa E=>pt E rfl rfl λa E=>aw E rfl λa E=>cf E rfl hF (λc10 hF=>?_) λc10 hF=>?_
 ·refine wp_seq<|qdO (by kernel_rfl) (by kernel_rfl) ok<|qv E (qad rfl) λa E=>bd hF λs11 e12 hF=>qv E (qec Tryz.underlying9 e12 rfl rfl ⟨_,rfl⟩) λa E=>qv E (qa3 rfl) λa E=>qv E (qa3 rfl) λa E=>qv E (qa3 rfl) λa E=>wpQuiet_nil ?_
  intro w ok
  refine qaa<|wp_ret<|qaA<|qak ?_
  exact fin hF ⟨ok,E.d,⟨rv_t E rfl,rv_t E rfl,rv_t E rfl,trivial⟩,(ir 8),(Nat.le_trans (qeo e12) ls_0),(ir 1)⟩
 refine sg<|mv E rfl λa E=>aw E rfl λa E=>bd hF λo13 hJ hF=>qaO (Q':=λe a w=>(Sum.elim (λb14=>e=.normal∧Ok u m0 (S) w∧Env 54 a [(0,vs s_0),(4,vi b14.1),(6,vi b14.2)]∧InR .i64 b14.1∧InR .i64 b14.2) (λb17=>e=.ret∧qfe u m0 S b17 a w)) o13) ?_ ?_
 rotate_left
 ·intro e a w hO
  rcases o13 with o13 | o13
  rotate_left
  ·obtain⟨rfl,hret⟩:=hO
   refine qaA<|qak ?_
   exact fin hF hret
  have hF:=qdI hF
  obtain⟨rfl,ok,E,r34,r35⟩:=hO
  refine qal<|qaa<|wp_seq<|sg<|mv E rfl λa E=>lw E (qaz rfl rfl) λa E=>wn<|cf E rfl hF (λc36 hF=>?_) λc36 hF=>?_
  ·refine sg<|av E rfl λa E=>av E rfl λa E=>aw E rfl λa E=>wp_ret<|qak ?_
   exact fin hF ⟨ok,E.d,⟨rv_t E rfl,rv_t E rfl,rv_t E rfl,trivial⟩,(ir 0),(show([]:List UInt8).length≤LIMS by decide),(ir 0)⟩
  refine wp_skip<|qaa<|wp_seq<|qdO (by kernel_rfl) (by kernel_rfl) ok<|qv E (qad rfl) λa E=>qv E (qad rfl) λa E=>qv E (qad rfl) λa E=>bd hF λs37 e38 hF=>qv E (qec Tryz.underlying9 e38 rfl rfl ⟨_,rfl⟩) λa E=>qv E (qad rfl) λa E=>qv E (qa3 rfl) λa E=>qv E (qa3 rfl) λa E=>qv E (qa3 rfl) λa E=>wpQuiet_nil ?_
  intro w ok
  refine qaa<|wp_ret ?_
  exact fin hF ⟨ok,E.d,⟨rv_t E rfl,rv_t E rfl,rv_t E rfl,trivial⟩,r34,(Nat.le_trans (qeo e38) ls_0),r35⟩
 have hF:=hJ
 refine cf E rfl hF (λc18 hF=>?_) λc18 hF=>?_
 ·refine qab<|mv E rfl λa E=>bd hF λr19 e20 hF=>qae E qtD rfl (qlr N s_0 ls_0 e20 hG ok) rfl rfl ?_
  rintro _ w ⟨⟨rfl,ok⟩,r21⟩
  refine⟨_,rfl,λa E=>?_⟩
  refine av E rfl λa E=>av E rfl λa E=>wpList_nil ?_
  cases hF
  exact(sl ⟨rfl,⟨ok,E.keep [0,4,6],(ir 9),r21⟩⟩)
 refine sg<|mv E rfl λa E=>lw E (qaz rfl rfl) λa E=>aw E rfl λa E=>cf E rfl hF (λc22 hF=>?_) λc22 hF=>?_
 ·refine wp_seq<|qdO (by kernel_rfl) (by kernel_rfl) ok<|qv E (qad rfl) λa E=>bd hF λs23 e24 hF=>qv E (qec Tryz.underlying9 e24 rfl rfl ⟨_,rfl⟩) λa E=>qv E (qa3 rfl) λa E=>qv E (qa3 rfl) λa E=>qv E (qa3 rfl) λa E=>wpQuiet_nil ?_
  intro w ok
  refine qaa<|wp_ret ?_
  have hret:qfe u m0 S (4,s23,1) a w:=⟨ok,E.d,⟨rv_t E rfl,rv_t E rfl,rv_t E rfl,trivial⟩,(ir 4),(Nat.le_trans (qeo e24) ls_0),(ir 1)⟩
  cases hF
  exact(sr ⟨rfl,hret⟩)
 refine sg<|mv E rfl λa E=>lw E (qaz rfl rfl) λa E=>aw E rfl λa E=>cg E rfl hF (λc25 hF=>?_) λc25 hF=>?_
 ·refine qab<|mv E rfl λa E=>bd hF λr31 e32 hF=>qae E qqW rfl (qig N s_0 ls_0 e32 hG ok) rfl rfl ?_
  rintro _ w ⟨⟨rfl,ok⟩,r33⟩
  refine⟨_,rfl,λa E=>?_⟩
  refine av E rfl λa E=>av E rfl λa E=>wpList_nil ?_
  cases hF
  exact(sl ⟨rfl,⟨ok,E.keep [0,4,6],(ir 1),r33⟩⟩)
 refine sg<|mv E rfl λa E=>bd hF λr26 e27 hF=>qae E qtE rfl (qjF N s_0 ls_0 e27 hG ok) rfl rfl ?_
 rintro _ w ⟨⟨rfl,ok⟩,r28,l29,r30⟩
 refine⟨_,rfl,λa E=>?_⟩
 refine lw E (qag rfl rfl) λa E=>lw E (qag rfl rfl) λa E=>lw E (qag rfl rfl) λa E=>av E rfl λa E=>av E rfl λa E=>aw E rfl λa E=>wp_ret ?_
 have hret:qfe u m0 S (r26.1,r26.2.1,r26.2.2) a w:=⟨ok,E.d,⟨rv_t E rfl,rv_t E rfl,rv_t E rfl,trivial⟩,r28,l29,r30⟩
 cases hF
 exact(sr ⟨rfl,hret⟩)
def qjY(u:World)(m0:Mem)(S:Segs)(r:(List (Token))×Int×Int)(a:Act)(w:World):Prop:=
 ∃ m1 v0,m0.le m1∧Ok u m1 S w∧a.defers=[]∧RVs Tryz.prog a w [.t 2 v0,.t 3 (.int .i64 r.2.1),.t 4 (.int .i64 r.2.2)]∧(pL 4 qa4) m1 [v0] r.1∧InR .i64 r.2.1∧InR .i64 r.2.2
theorem qn0(N:Nat)(s_0:List UInt8)(ls_0:s_0.length≤LIMS){r:(List (Token))×Int×Int}(hF:qe3 N s_0=some r)(hG:Glob u)(ok:Ok u m0 S w) :
  Calls Tryz.prog 35 [vs s_0].toArray w λe w'=>∃ m1 v0,e=.returned (.tuple [v0,(.int .i64 r.2.1),(.int .i64 r.2.2)].toArray)∧m0.le m1∧Ok u m1 S w'∧(pL 4 qa4) m1 [v0] r.1∧InR .i64 r.2.1∧InR .i64 r.2.2:=by
 have le_m0:=Mem.le.refl m0
 unfold qe3 at hF
 refine en (qjY u m0 S) r Tryz.func35 rfl rfl rfl (by rintro a w ⟨m1,v0,hle,ok,hd,hrv,h0,h1,h2⟩;exact qbf [.t 2 v0,.t 3 (.int .i64 r.2.1),.t 4 (.int .i64 r.2.2)] hd rfl hrv ⟨m1,v0,rfl,hle,ok,h0,h1,h2⟩) λfin a E=>sg<|av E rfl λa E=>av E rfl λa E=>aw E rfl λa E=>wp_seq<|sg<|mv E rfl λa E=>lw E (qbp Tryz.underlying9 rfl) λa E=>lw E (qcv rfl rfl) λa E=>wn<|cf E rfl hF (λc1 hF=>?_) λc1 hF=>?_
 ·refine sg<|av E rfl λa E=>av E rfl λa E=>aw E rfl λa E=>wp_ret<|qak ?_
  exact fin hF ⟨m0,(.slice none 0 0),le_m0,ok,E.d,⟨rv_t E rfl,rv_t E rfl,rv_t E rfl,trivial⟩,qbt,(ir 4000),(ir 6)⟩
 refine wp_skip<|qaa<|sg<|aw E rfl λa E=>sg<|aw E rfl λa E=>wp_seq<|wp_block ?_
 obtain⟨M10,ok,h11⟩:=qd9 (e:=132) (k:=4) (R:=qa4) ok
 obtain⟨M12,ok,h13⟩:=qd9 (e:=4) (k:=1) (R:=pB) ok
 refine bd hF λo14 hL hF=>qbb _ (λ(s:(List (Token))×Int×(List (Bool))×Bool) a w=>∃ c15 M16 c19 M20,Ok u m0 (M20::M16::S) w∧Env 100 a [(0,vs s_0),(2,c15),(3,vi s.2.1),(5,c19),(6,vb s.2.2.2)]∧ORow 132 4 qa4 m0 c15 s.1 M16∧InR .i64 s.2.1∧ORow 4 1 pB m0 c19 s.2.2.1 M20) (λ(b:(((List (Token))×(List (Bool)))⊕((List (Token))×Int×Int))) e a w=>(Sum.elim (λb155=>e=(.exit 0)∧∃ c156 M157 c159 M160,Ok u m0 (M160::M157::S) w∧Env 100 a [(0,vs s_0),(2,c156),(5,c159)]∧ORow 132 4 qa4 m0 c156 b155.1 M157∧ORow 4 1 pB m0 c159 b155.2 M160) (λb162=>e=.ret∧qjY u m0 S b162 a w)) b) ?_ ?_ N _ a w hL ⟨(Value.slice none 0 0),M10,(Value.slice none 0 0),M12,ok,E.keep [0,2,3,5,6],h11,(ir 0),h13⟩
 rotate_left
 ·intro e a w _ hO
  rcases o14 with o14 | o14
  rotate_left
  ·obtain⟨rfl,hret⟩:=hO
   refine qaA<|qak ?_
   exact fin hF hret
  have hF:=qdI hF
  obtain⟨rfl,c146,M147,c149,M150,ok,E,h148,h151⟩:=hO
  refine qbh<|qaa<|wp_seq<|sg<|mv E rfl λa E=>lv E ok (qeB qe4 h151 rfl) λa E=>lw E (qcv rfl rfl) λa E=>wn<|cf E rfl hF (λc152 hF=>?_) λc152 hF=>?_
  ·refine sg<|mv E rfl λa E=>lw E (qbp Tryz.underlying9 rfl) λa E=>av E rfl λa E=>av E rfl λa E=>av E rfl λa E=>wn<|wp_ret<|qak ?_
   exact fin hF ⟨m0,(.slice none 0 0),le_m0,ok.drop.drop,E.d,⟨rv_t E rfl,rv_t E rfl,rv_t E rfl,trivial⟩,qbt,(InR.len ls_0),(ir 3)⟩
  refine wp_skip<|qaa<|sg<|mv E rfl λa E=>av E rfl λa E=>av E rfl λa E=>av E rfl λa E=>wn<|wp_ret ?_
  obtain⟨m153,hle,ok,hfz⟩:=(ok.frs 1 rfl).freeze
  have h154:=ORow.froz qac h148 hle hfz (by decide)
  have le_m0:=le_m0.trans hle
  have h151:=ORow.up mB hle h151
  exact fin hF ⟨m153,c146,le_m0,ok.drop,E.d,⟨rv_t E rfl,rv_t E rfl,rv_t E rfl,trivial⟩,h154,(ir 0),(ir 0)⟩
 rintro⟨v22,v23,v24,v25⟩ a w r ⟨c26,M27,c30,M31,ok,E,h28,r29,h32⟩ hF
 replace hF:qdt N s_0 v22 v23 v24 v25=some r:=hF
 unfold qdt at hF
 refine wp_seq<|sg<|mz E rfl rfl λa E=>lw E (qbp Tryz.underlying9 rfl) λa E=>lw E (qaP rfl rfl) λa E=>wn<|cg E rfl hF (λc33 hF=>?_) λc33 hF=>?_
 ·refine wp_exit<|qaM ?_
  cases hF
  exact so (sl ⟨rfl,⟨c26,M27,c30,M31,ok,E.keep [0,2,5],h28,h32⟩⟩)
 refine wp_skip<|qaa<|wp_block<|wp_seq<|sg<|mz E rfl rfl λa E=>qbx v25 (λc34=>?_) (λc34=>?_)
 rotate_left
 ·as_aux_lemma=>
   have hF:=qby c34 hF
   have E:=E.upd 18 c34 rfl
   refine lsz E λa E=>lsz E λa E=>lsz E λa E=>lsz E λa E=>?_
   refine pf E rfl rfl λa E=>wn<|c_if E rfl (λh=>by cases h) (λ_=>?_)
   refine wp_skip<|qaa<|sg<|mz E rfl rfl λa E=>bd hF λs95 e96 hF=>lw E (qec Tryz.underlying9 e96 rfl ⟨_,rfl⟩ rfl) λa E=>mv E rfl λa E=>bd hF λr97 e98 hF=>qae E qtx rfl (qlJ N s95 (Nat.le_trans (qeo e96) ls_0) v25 e98 hG ok) rfl rfl ?_
   rintro _ w ⟨⟨rfl,ok⟩,r99,l100,r101⟩
   refine⟨_,rfl,λa E=>?_⟩
   refine mv E rfl λa E=>lw E (qag rfl rfl) λa E=>lw E (qag rfl rfl) λa E=>lw E (qag rfl rfl) λa E=>av E rfl λa E=>av E rfl λa E=>av E rfl λa E=>wn<|wp_seq<|wp_block<|wp_seq<|sg<|mv E rfl λa E=>lw E (qaz rfl rfl) λa E=>aw E rfl λa E=>?_
   refine bd hF λo102 hJ hF=>qaO (Q':=λe a w=>e=.normal∧Ok u m0 (M31::M27::S) w∧Env 100 a [(0,vs s_0),(2,c26),(3,vi v23),(5,c30),(6,vb v25),(7,vi r97.1),(8,vs r97.2.1),(9,vi r97.2.2),(47,vb o102)]) ?_ ?_
   ·have hF:=hJ
    refine cf E rfl hF (λc103 hF=>?_) λc103 hF=>?_
    ·refine wp_skip ?_
     cases hF
     exact⟨rfl,⟨ok,E.keep [0,2,3,5,6,7,8,9,47]⟩⟩
    refine qab<|mv E rfl λa E=>lw E (qaz rfl rfl) λa E=>mv E rfl λa E=>bu E 52 hF (λc104 hF E=>?_) λc104 hF E=>?_
    ·refine mv E rfl λa E=>lv E ok (qeB qe4 h32 rfl) λa E=>lw E (qaz rfl rfl) λa E=>pt E rfl rfl λa E=>av E rfl λa E=>wpList_nil ?_
     cases hF
     exact⟨rfl,⟨ok,E.keep [0,2,3,5,6,7,8,9,47]⟩⟩
    refine lsq E λa E=>ls E λa E=>pf E rfl rfl λa E=>av E rfl λa E=>wpList_nil ?_
    cases hF
    exact⟨rfl,⟨ok,E.keep [0,2,3,5,6,7,8,9,47]⟩⟩
   intro e a w hO
   obtain⟨rfl,ok,E⟩:=hO
   refine qaa<|cf E rfl hF (λc105 hF=>?_) λc105 hF=>?_
   ·refine sg<|mv E rfl λa E=>av E rfl λa E=>av E rfl λa E=>aw E rfl λa E=>wp_ret<|qaA<|qak<|qaA ?_
    cases hF
    exact so (sr ⟨rfl,⟨m0,(.slice none 0 0),le_m0,ok.drop.drop,E.d,⟨rv_t E rfl,rv_t E rfl,rv_t E rfl,trivial⟩,qbt,r29,(ir 3)⟩⟩)
   refine sg<|mv E rfl λa E=>lw E (qaz rfl rfl) λa E=>aw E rfl λa E=>bd hF λo106 hJ hF=>qaO (Q':=λe a w=>e=.normal∧∃ c107 M108,Ok u m0 (M108::M27::S) w∧Env 100 a [(0,vs s_0),(2,c26),(3,vi v23),(5,c107),(6,vb o106.2),(7,vi r97.1),(8,vs r97.2.1),(9,vi r97.2.2)]∧ORow 4 1 pB m0 c107 o106.1 M108) ?_ ?_
   rotate_left
   ·intro e a w hO
    obtain⟨rfl,c135,M136,ok,E,h137⟩:=hO
    refine qal<|qaa<|sg<|mz E rfl rfl λa E=>mz E rfl rfl λa E=>mz E rfl rfl λa E=>lw E (qbk rfl rfl) λa E=>lw E (qbY (ps:=[(0,.tmp 82),(1,.tmp 83),(2,.tmp 84),(3,.tmp 87)]) (qs:=[(0,[vi r97.1]),(1,[vs r97.2.1]),(2,[vi v23]),(3,[(vi (IntKind.wrap .i64 (v23+r97.2.2)))])]) (cs:=[vi r97.1,vs r97.2.1,vi v23,(vi (IntKind.wrap .i64 (v23+r97.2.2)))]) qhC qm0 rfl ⟨rfl,rfl,rfl,⟨rfl,rfl,rfl,⟨rfl,rfl,rfl,⟨rfl,rfl,rfl,trivial⟩⟩⟩⟩ rfl) λa E=>qbF (R:=qa4) (xo:=[.tmp 88]) (xs:=([(Token.mk r97.1 r97.2.1 v23 (IntKind.wrap .i64 (v23+r97.2.2)))]:List (Token))) E ok qdJ qhC rfl ⟨⟨_,rfl,rfl,⟨rfl,r99,l100,r29,(InR.wrap _ _)⟩⟩,trivial⟩ rfl rfl rfl rfl λc138 M139 a w E ok h140=>bd hF λl141 e142 hF=>qcf (R:=qa4) E ok 2 qac qdJ Tryz.underlying95 rfl h28 (qbD.ofRow h140 0 rfl ok) e142 ⟨_,qhC,rfl⟩ rfl rfl rfl rfl λc143 M144 a w E ok h145=>aw E rfl λa E=>qab<|mz E rfl rfl λa E=>lw E (qbk rfl rfl) λa E=>av E rfl λa E=>wpList_nil<|qal ?_
    cases hF
    exact qau ⟨c143,M144,c135,M136,(ok.pk 3 [1,2] rfl (by decide)),E.keep [0,2,3,5,6],h145,(InR.wrap _ _),h137⟩
   have hF:=hJ
   refine cf E rfl hF (λc110 hF=>?_) λc110 hF=>?_
   ·refine sg<|mz E rfl rfl λa E=>qbF (R:=pB) (xo:=[.tmp 62]) (xs:=([v25]:List (Bool))) E ok qe4 qmX rfl ⟨⟨_,rfl,rfl,qfD⟩,trivial⟩ rfl rfl rfl rfl λc111 M112 a w E ok h113=>bd hF λl114 e115 hF=>qcf (R:=pB) E ok 1 mB qe4 Tryz.underlying128 rfl h32 (qbD.ofRow h113 0 rfl ok) e115 ⟨_,qmX,rfl⟩ rfl rfl rfl rfl λc116 M117 a w E ok h118=>aw E rfl λa E=>qab<|mv E rfl λa E=>lw E (qa9 rfl) λa E=>av E rfl λa E=>wpList_nil ?_
    cases hF
    exact⟨rfl,⟨c116,M117,(ok.pk 3 [1,2] rfl (by decide)),E.keep [0,2,3,5,6,7,8,9],h118⟩⟩
   refine sg<|mv E rfl λa E=>lw E (qaz rfl rfl) λa E=>aw E rfl λa E=>cg E rfl hF (λc119 hF=>?_) λc119 hF=>?_
   ·refine wp_skip ?_
    cases hF
    exact⟨rfl,⟨c30,M31,ok,E.keep [0,2,3,5,6,7,8,9],h32⟩⟩
   refine sg<|mz E rfl rfl λa E=>lv E ok (qeB qe4 h32 rfl) λa E=>lw E (qcP rfl rfl) λa E=>?_
   obtain⟨x120,e121,hF⟩:=bnd hF
   obtain⟨b122,o123,hp124,yy125⟩:=qb2 qe4 h32 e121 (P:=Tryz.prog) (X:=.tmp 70) (I:=.tmp 73) (kd:=.i64) (qaD E rfl) (qaD E rfl)
   refine lv E ok (yy125 _ _) λa E=>?_
   obtain⟨es126,hl127,rr128,hh129⟩:=qcF h32 e121 hp124 (by decide)
   obtain rfl:=rr128
   refine lv E ok (qaw qoN rfl (hh129 _ _ _ 0 rfl)) λa E=>aw E rfl λa E=>qab<|mz E rfl rfl λa E=>lv E ok (qeB qe4 h32 rfl) λa E=>lw E (qcP rfl rfl) λa E=>?_
   obtain⟨l130,e131,hF⟩:=bnd hF
   obtain⟨c132,h133,yy134⟩:=ORow.slice qe4 h32 e131 (P:=Tryz.prog) (X:=.tmp 76) (lov:=none) (hiv:=(some (.tmp 79))) (qaD E rfl) (qoT E rfl) (qoT E ⟨_,rfl⟩)
   refine lv E ok (yy134 _ _) λa E=>av E rfl λa E=>wpList_nil ?_
   cases hF
   exact⟨rfl,⟨c132,M31,ok,E.keep [0,2,3,5,6,7,8,9],h133⟩⟩
 have hF:=qbz c34 hF
 have E:=E.upd 18 c34 rfl
 refine mz E rfl rfl λa E=>bd hF λc35 e36 hF=>lv E ok (qbU Tryz.underlying9 rfl rfl e36) λa E=>lw E (qaz rfl rfl) λa E=>mv E rfl λa E=>bu E 23 hF (λc37 hF E=>?_) λc37 hF E=>?_
 ·refine lsz E λa E=>pt E rfl rfl λa E=>mv E rfl λa E=>lsz E λa E=>pt E rfl rfl λa E=>pt E rfl rfl λa E=>wn<|c_if E rfl (λ_=>?_) (λh=>by cases h)
  refine sg<|mv E rfl λa E=>lw E (qaH rfl rfl (InR.inc r29 (InR.len ls_0) c33)) λa E=>aw E rfl λa E=>wp_exit<|qaM<|qbh ?_
  cases hF
  exact qau ⟨c26,M27,c30,M31,ok,E.keep [0,2,3,5,6],h28,(InR.inc r29 (InR.len ls_0) c33),h32⟩
 refine mz E rfl rfl λa E=>bd hF λc38 e39 hF=>lv E ok (qbU Tryz.underlying9 rfl rfl e39) λa E=>lw E (qaz rfl rfl) λa E=>pf E rfl rfl λa E=>mv E rfl λa E=>bu E 29 hF (λc40 hF E=>?_) λc40 hF E=>?_
 ·refine lsz E λa E=>pt E rfl rfl λa E=>pt E rfl rfl λa E=>wn<|c_if E rfl (λ_=>?_) (λh=>by cases h)
  refine sg<|mv E rfl λa E=>lw E (qaH rfl rfl (InR.inc r29 (InR.len ls_0) c33)) λa E=>aw E rfl λa E=>wp_exit<|qaM<|qbh ?_
  cases hF
  exact qau ⟨c26,M27,c30,M31,ok,E.keep [0,2,3,5,6],h28,(InR.inc r29 (InR.len ls_0) c33),h32⟩
 refine mz E rfl rfl λa E=>bd hF λc41 e42 hF=>lv E ok (qbU Tryz.underlying9 rfl rfl e42) λa E=>lw E (qaz rfl rfl) λa E=>pf E rfl rfl λa E=>pt E rfl rfl λa E=>wn<|cf E rfl hF (λc43 hF=>?_) λc43 hF=>?_
 ·refine sg<|mv E rfl λa E=>lw E (qaH rfl rfl (InR.inc r29 (InR.len ls_0) c33)) λa E=>aw E rfl λa E=>wp_exit<|qaM<|qbh ?_
  cases hF
  exact qau ⟨c26,M27,c30,M31,ok,E.keep [0,2,3,5,6],h28,(InR.inc r29 (InR.len ls_0) c33),h32⟩
 refine wp_skip<|qaa<|sg<|mz E rfl rfl λa E=>bd hF λs44 e45 hF=>lw E (qec Tryz.underlying9 e45 rfl ⟨_,rfl⟩ rfl) λa E=>mv E rfl λa E=>bd hF λr46 e47 hF=>qae E qtx rfl (qlJ N s44 (Nat.le_trans (qeo e45) ls_0) v25 e47 hG ok) rfl rfl ?_
 rintro _ w ⟨⟨rfl,ok⟩,r48,l49,r50⟩
 refine⟨_,rfl,λa E=>?_⟩
 refine mv E rfl λa E=>lw E (qag rfl rfl) λa E=>lw E (qag rfl rfl) λa E=>lw E (qag rfl rfl) λa E=>av E rfl λa E=>av E rfl λa E=>av E rfl λa E=>wn<|wp_seq<|wp_block<|wp_seq<|sg<|mv E rfl λa E=>lw E (qaz rfl rfl) λa E=>aw E rfl λa E=>?_
 refine bd hF λo51 hJ hF=>qaO (Q':=λe a w=>e=.normal∧Ok u m0 (M31::M27::S) w∧Env 100 a [(0,vs s_0),(2,c26),(3,vi v23),(5,c30),(6,vb v25),(7,vi r46.1),(8,vs r46.2.1),(9,vi r46.2.2),(47,vb o51)]) ?_ ?_
 ·have hF:=hJ
  refine cf E rfl hF (λc52 hF=>?_) λc52 hF=>?_
  ·refine wp_skip ?_
   cases hF
   exact⟨rfl,⟨ok,E.keep [0,2,3,5,6,7,8,9,47]⟩⟩
  refine qab<|mv E rfl λa E=>lw E (qaz rfl rfl) λa E=>mv E rfl λa E=>bu E 52 hF (λc53 hF E=>?_) λc53 hF E=>?_
  ·refine mv E rfl λa E=>lv E ok (qeB qe4 h32 rfl) λa E=>lw E (qaz rfl rfl) λa E=>pt E rfl rfl λa E=>av E rfl λa E=>wpList_nil ?_
   cases hF
   exact⟨rfl,⟨ok,E.keep [0,2,3,5,6,7,8,9,47]⟩⟩
  refine lsq E λa E=>ls E λa E=>pf E rfl rfl λa E=>av E rfl λa E=>wpList_nil ?_
  cases hF
  exact⟨rfl,⟨ok,E.keep [0,2,3,5,6,7,8,9,47]⟩⟩
 intro e a w hO
 obtain⟨rfl,ok,E⟩:=hO
 refine qaa<|cf E rfl hF (λc54 hF=>?_) λc54 hF=>?_
 ·refine sg<|mv E rfl λa E=>av E rfl λa E=>av E rfl λa E=>aw E rfl λa E=>wp_ret<|qaA<|qak<|qaA ?_
  cases hF
  exact so (sr ⟨rfl,⟨m0,(.slice none 0 0),le_m0,ok.drop.drop,E.d,⟨rv_t E rfl,rv_t E rfl,rv_t E rfl,trivial⟩,qbt,r29,(ir 3)⟩⟩)
 refine sg<|mv E rfl λa E=>lw E (qaz rfl rfl) λa E=>aw E rfl λa E=>bd hF λo55 hJ hF=>qaO (Q':=λe a w=>e=.normal∧∃ c56 M57,Ok u m0 (M57::M27::S) w∧Env 100 a [(0,vs s_0),(2,c26),(3,vi v23),(5,c56),(6,vb o55.2),(7,vi r46.1),(8,vs r46.2.1),(9,vi r46.2.2)]∧ORow 4 1 pB m0 c56 o55.1 M57) ?_ ?_
 rotate_left
 ·intro e a w hO
  obtain⟨rfl,c84,M85,ok,E,h86⟩:=hO
  refine qal<|qaa<|sg<|mz E rfl rfl λa E=>mz E rfl rfl λa E=>mz E rfl rfl λa E=>lw E (qbk rfl rfl) λa E=>lw E (qbY (ps:=[(0,.tmp 82),(1,.tmp 83),(2,.tmp 84),(3,.tmp 87)]) (qs:=[(0,[vi r46.1]),(1,[vs r46.2.1]),(2,[vi v23]),(3,[(vi (IntKind.wrap .i64 (v23+r46.2.2)))])]) (cs:=[vi r46.1,vs r46.2.1,vi v23,(vi (IntKind.wrap .i64 (v23+r46.2.2)))]) qhC qm0 rfl ⟨rfl,rfl,rfl,⟨rfl,rfl,rfl,⟨rfl,rfl,rfl,⟨rfl,rfl,rfl,trivial⟩⟩⟩⟩ rfl) λa E=>qbF (R:=qa4) (xo:=[.tmp 88]) (xs:=([(Token.mk r46.1 r46.2.1 v23 (IntKind.wrap .i64 (v23+r46.2.2)))]:List (Token))) E ok qdJ qhC rfl ⟨⟨_,rfl,rfl,⟨rfl,r48,l49,r29,(InR.wrap _ _)⟩⟩,trivial⟩ rfl rfl rfl rfl λc87 M88 a w E ok h89=>bd hF λl90 e91 hF=>qcf (R:=qa4) E ok 2 qac qdJ Tryz.underlying95 rfl h28 (qbD.ofRow h89 0 rfl ok) e91 ⟨_,qhC,rfl⟩ rfl rfl rfl rfl λc92 M93 a w E ok h94=>aw E rfl λa E=>qab<|mz E rfl rfl λa E=>lw E (qbk rfl rfl) λa E=>av E rfl λa E=>wpList_nil<|qal ?_
  cases hF
  exact qau ⟨c92,M93,c84,M85,(ok.pk 3 [1,2] rfl (by decide)),E.keep [0,2,3,5,6],h94,(InR.wrap _ _),h86⟩
 have hF:=hJ
 refine cf E rfl hF (λc59 hF=>?_) λc59 hF=>?_
 ·refine sg<|mz E rfl rfl λa E=>qbF (R:=pB) (xo:=[.tmp 62]) (xs:=([v25]:List (Bool))) E ok qe4 qmX rfl ⟨⟨_,rfl,rfl,qfD⟩,trivial⟩ rfl rfl rfl rfl λc60 M61 a w E ok h62=>bd hF λl63 e64 hF=>qcf (R:=pB) E ok 1 mB qe4 Tryz.underlying128 rfl h32 (qbD.ofRow h62 0 rfl ok) e64 ⟨_,qmX,rfl⟩ rfl rfl rfl rfl λc65 M66 a w E ok h67=>aw E rfl λa E=>qab<|mv E rfl λa E=>lw E (qa9 rfl) λa E=>av E rfl λa E=>wpList_nil ?_
  cases hF
  exact⟨rfl,⟨c65,M66,(ok.pk 3 [1,2] rfl (by decide)),E.keep [0,2,3,5,6,7,8,9],h67⟩⟩
 refine sg<|mv E rfl λa E=>lw E (qaz rfl rfl) λa E=>aw E rfl λa E=>cg E rfl hF (λc68 hF=>?_) λc68 hF=>?_
 ·refine wp_skip ?_
  cases hF
  exact⟨rfl,⟨c30,M31,ok,E.keep [0,2,3,5,6,7,8,9],h32⟩⟩
 refine sg<|mz E rfl rfl λa E=>lv E ok (qeB qe4 h32 rfl) λa E=>lw E (qcP rfl rfl) λa E=>?_
 obtain⟨x69,e70,hF⟩:=bnd hF
 obtain⟨b71,o72,hp73,yy74⟩:=qb2 qe4 h32 e70 (P:=Tryz.prog) (X:=.tmp 70) (I:=.tmp 73) (kd:=.i64) (qaD E rfl) (qaD E rfl)
 refine lv E ok (yy74 _ _) λa E=>?_
 obtain⟨es75,hl76,rr77,hh78⟩:=qcF h32 e70 hp73 (by decide)
 obtain rfl:=rr77
 refine lv E ok (qaw qoN rfl (hh78 _ _ _ 0 rfl)) λa E=>aw E rfl λa E=>qab<|mz E rfl rfl λa E=>lv E ok (qeB qe4 h32 rfl) λa E=>lw E (qcP rfl rfl) λa E=>?_
 obtain⟨l79,e80,hF⟩:=bnd hF
 obtain⟨c81,h82,yy83⟩:=ORow.slice qe4 h32 e80 (P:=Tryz.prog) (X:=.tmp 76) (lov:=none) (hiv:=(some (.tmp 79))) (qaD E rfl) (qoT E rfl) (qoT E ⟨_,rfl⟩)
 refine lv E ok (yy83 _ _) λa E=>av E rfl λa E=>wpList_nil ?_
 cases hF
 exact⟨rfl,⟨c81,M31,ok,E.keep [0,2,3,5,6,7,8,9],h82⟩⟩
def qmD(u:World)(m0:Mem)(S:Segs)(r:(List UInt8)×Int×Int)(a:Act)(w:World):Prop:=
 Ok u m0 S w∧a.defers=[]∧RVs Tryz.prog a w [.t 2 (.string (bs r.1)),.t 3 (.int .i64 r.2.1),.t 4 (.int .i64 r.2.2)]∧r.1.length≤LIMS∧InR .i64 r.2.1∧InR .i64 r.2.2
theorem qmw(N:Nat)(s_0:List UInt8)(ls_0:s_0.length≤LIMS){r:(List UInt8)×Int×Int}(hF:qfP N s_0=some r)(hG:Glob u)(ok:Ok u m0 S w) :
  Calls Tryz.prog 55 [vs s_0].toArray w λe w'=>(e=.returned (.tuple [(.string (bs r.1)),(.int .i64 r.2.1),(.int .i64 r.2.2)].toArray)∧Ok u m0 S w')∧r.1.length≤LIMS∧InR .i64 r.2.1∧InR .i64 r.2.2:=by
 unfold qfP at hF
 refine en (qmD u m0 S) r Tryz.func55 rfl rfl rfl (by rintro a w ⟨ok,hd,hrv,h0,h1,h2⟩;exact qbf [.t 2 (.string (bs r.1)),.t 3 (.int .i64 r.2.1),.t 4 (.int .i64 r.2.2)] hd rfl hrv ⟨⟨rfl,ok⟩,h0,h1,h2⟩) λfin a E=>sg<|av E rfl λa E=>av E rfl λa E=>aw E rfl λa E=>wp_seq<|sg<|mv E rfl λa E=>bd hF λr1 e2 hF=>qae E qqW rfl (qig N s_0 ls_0 e2 hG ok) rfl rfl ?_
 rintro _ w ⟨⟨rfl,ok⟩,r3⟩
 refine⟨_,rfl,λa E=>?_⟩
 refine aw E rfl λa E=>sg<|mz E rfl rfl λa E=>lw E (qbp Tryz.underlying9 rfl) λa E=>lw E (qaP rfl rfl) λa E=>wn<|cf E rfl hF (λc4 hF=>?_) λc4 hF=>?_
 ·refine sg<|mv E rfl λa E=>av E rfl λa E=>av E rfl λa E=>aw E rfl λa E=>wp_ret<|qak ?_
  exact fin hF ⟨ok,E.d,⟨rv_t E rfl,rv_t E rfl,rv_t E rfl,trivial⟩,(show([]:List UInt8).length≤LIMS by decide),r3,(ir 3)⟩
 refine wp_skip<|qaa<|sg<|qaL E ok qo6 rfl rfl λb5 a w E ok=>wn<|wp_seq<|sg<|aw E rfl λa E=>wp_block ?_
 obtain⟨M13,ok,h14⟩:=qd9 (e:=5) (k:=1) (R:=(pI .u8)) ok
 refine bd hF λo15 hL hF=>qbb _ (λ(s:Int×Builder) a w=>∃ c17 c19 M20,Ok u m0 (M20::[(b5,oc 124 [c17,c19])]::S) w∧Env 32 a [(0,vs s_0),(6,vp b5),(7,vi s.1)]∧InR .i64 s.1∧BAd b5 c17∧ORow 5 1 (pI .u8) m0 c19 s.2.buf M20) (λ(b:Builder) e a w=>e=(.exit 0)∧∃ c58 c60 M61,Ok u m0 (M61::[(b5,oc 124 [c58,c60])]::S) w∧Env 32 a [(6,vp b5)]∧BAd b5 c58∧ORow 5 1 (pI .u8) m0 c60 b.buf M61) ?_ ?_ N _ a w hL ⟨(Value.pointer none),(Value.slice none 0 0),M13,ok,E.keep [0,6,7],(ir 0),(.inl rfl),h14⟩
 rotate_left
 ·intro e a w _ hO
  obtain⟨rfl,c52,c54,M55,ok,E,h53,h56⟩:=hO
  refine qbh<|qaa<|sg ?_
  replace ok:Ok u m0 ([(b5,oc 124 [c52,c54])]::M55::S) w:=(ok.pk 2 [1,0] rfl (by decide))
  refine qae E qqU rfl (qnb Tryz.lays169 Tryz.Builder_Extra_169 h56 ok) rfl rfl ?_
  rintro _ w ⟨⟨rfl,ok⟩,l57⟩
  refine⟨_,rfl,λa E=>?_⟩
  refine av E rfl λa E=>av E rfl λa E=>aw E rfl λa E=>wp_ret ?_
  exact fin hF ⟨ok,E.d,⟨rv_t E rfl,rv_t E rfl,rv_t E rfl,trivial⟩,l57,(ir 0),(ir 0)⟩
 rintro⟨v22,v23⟩ a w r ⟨c25,c27,M28,ok,E,r24,h26,h29⟩ hF
 replace hF:qcx N s_0 v22 v23=some r:=hF
 unfold qcx at hF
 refine wp_seq<|sg<|mz E rfl rfl λa E=>lw E (qbp Tryz.underlying9 rfl) λa E=>lw E (qaP rfl rfl) λa E=>wn<|cg E rfl hF (λc30 hF=>?_) λc30 hF=>?_
 ·refine wp_exit<|qaM ?_
  cases hF
  exact so (⟨rfl,⟨c25,c27,M28,ok,E.keep [6],h26,h29⟩⟩)
 refine wp_skip<|qaa<|wp_seq<|wp_block<|wp_seq<|sg<|mv E rfl λa E=>mv E rfl λa E=>bd hF λc31 e32 hF=>lv E ok (qbU Tryz.underlying9 rfl rfl e32) λa E=>lw E (qaz rfl rfl) λa E=>wn<|cg E rfl hF (λc33 hF=>?_) λc33 hF=>?_
 ·refine wp_skip<|qaa<|qab<|mz E rfl rfl λa E=>bd hF λc43 e44 hF=>lv E ok (qbU Tryz.underlying9 rfl rfl e44) λa E=>?_
  obtain⟨r45,e46,hF⟩:=bnd hF
  replace ok:Ok u m0 ([(b5,oc 124 [c25,c27])]::M28::S) w:=(ok.pk 2 [1,0] rfl (by decide))
  refine qae E qm5 rfl (qc0 N (c43.toNat:Int) (InR.byte c43) (Builder.mk () v23.buf) h26 h29 e46 hG ok) rfl rfl ?_
  rintro _ w ⟨c47,c49,M50,⟨rfl,ok⟩,h48,h51⟩
  refine⟨_,rfl,λa E=>?_⟩
  refine wpList_nil<|qal<|qaa<|qab<|mv E rfl λa E=>lw E (qaH rfl rfl (InR.inc r24 (InR.len ls_0) c30)) λa E=>av E rfl λa E=>wpList_nil ?_
  cases hF
  exact qau ⟨c47,c49,M50,(ok.pk 2 [1,0] rfl (by decide)),E.keep [0,6,7],(InR.inc r24 (InR.len ls_0) c30),h48,h51⟩
 refine qab<|mv E rfl λa E=>lw E (qaH rfl rfl (InR.inc r24 (InR.len ls_0) c30)) λa E=>aw E rfl λa E=>qab<|mv E rfl λa E=>mv E rfl λa E=>bd hF λc34 e35 hF=>lv E ok (qbU Tryz.underlying9 rfl rfl e35) λa E=>?_
 obtain⟨r36,e37,hF⟩:=bnd hF
 replace ok:Ok u m0 ([(b5,oc 124 [c25,c27])]::M28::S) w:=(ok.pk 2 [1,0] rfl (by decide))
 refine qae E qm5 rfl (qc0 N (c34.toNat:Int) (InR.byte c34) (Builder.mk () v23.buf) h26 h29 e37 hG ok) rfl rfl ?_
 rintro _ w ⟨c38,c40,M41,⟨rfl,ok⟩,h39,h42⟩
 refine⟨_,rfl,λa E=>?_⟩
 refine wpList_nil<|qal<|qaa<|qab<|mv E rfl λa E=>lw E (qbk rfl rfl) λa E=>av E rfl λa E=>wpList_nil ?_
 cases hF
 exact qau ⟨c38,c40,M41,(ok.pk 2 [1,0] rfl (by decide)),E.keep [0,6,7],(InR.wrap _ _),h39,h42⟩
end Go.Proofs.YtkhjeeakflefjaaGreatDoor
namespace Go.Proofs.YtkhjeeakflefjaaGreatDoor
open Go.X
structure Position where
 Offset:Int
 Line:Int
 Column:Int
structure Parser where
 s:List UInt8
 l:List (Token)
 next:Int
 names:List (List UInt8×Bool)
 at_:Int
 e:Int
def qfh(_N:Nat)(x0:Parser):Option Int:=
 bif (decide (x0.next<(x0.l.length:Int))) then
  (idx x0.l x0.next).bind λx11=>
  some x11.From
 else
  some (x0.s.length:Int)
def qaI(N:Nat)(e_1:Int)(x0:Parser):Option Parser:=
 bif (x0.e==0) then
  (qfh N x0).bind λr20=>
  some (Parser.mk x0.s x0.l x0.next x0.names r20 e_1)
 else
  some x0
def qaJ(_N:Nat)(x0:Parser):Option Int:=
 bif (x0.e != 0) then
  some 0
 else
  bif (decide (x0.next≥(x0.l.length:Int))) then
   some 0
  else
   (idx x0.l x0.next).bind λx12=>
   some x12.Kind
def qar(N:Nat)(kind_1:Int)(x0:Parser):Option ((List UInt8)×Parser):=
 (qaJ N x0).bind λr19=>
 bif (r19 != kind_1) then
  (qaI N 3 x0).bind λr23=>
  some ([],r23)
 else
  (idx x0.l (IntKind.wrap .i64 ((IntKind.wrap .i64 (x0.next+1))-1))).bind λx35=>
  some (x35.Text,(Parser.mk x0.s x0.l (IntKind.wrap .i64 (x0.next+1)) x0.names x0.at_ x0.e))
def qcG(N:Nat)(depth_1:Int)(x0:Parser):Option Parser:=
 bif (decide (depth_1>8)) then
  (qaI N 6 x0).bind λr20=>
  some r20
 else
  some x0
def qcL(N:Nat)(x0:Parser):Option ((List UInt8)×Parser):=
 (show Option Bool from
  (qaJ N x0).bind λr20=>
  bif (r20 != 9) then
   some true
  else
   (idx x0.l x0.next).bind λx25=>
   (qdZ N x25.Text).bind λr38=>
   some (!r38)).bind λo19=>
 bif o19 then
  (qaI N 3 x0).bind λr53=>
  some ([],r53)
 else
  (qar N 9 x0).bind λr65=>
  some (r65.1,r65.2)
def qd7(N:Nat)(x0:Parser):Option ((List UInt8)×Parser):=
 (show Option Bool from
  (qaJ N x0).bind λr20=>
  bif (r20==9) then
   (idx x0.l x0.next).bind λx24=>
   (qdZ N x24.Text).bind λr37=>
   bif r37 then
    (idx x0.l x0.next).bind λx40=>
    bif (!((mget x0.names x40.Text).getD false)) then
     some (decide ((x0.names.length:Int)≥20))
    else
     some false
   else
    some false
  else
   some false).bind λo19=>
 (show Option Parser from
  bif o19 then
   (qaI N 6 x0).bind λr137=>
   some r137
  else
   some x0).bind λo125=>
 (qcL N o125).bind λr159=>
 bif (r159.1 != ([])) then
  (mset r159.2.names r159.1 true).bind λl173=>
  some (r159.1,(Parser.mk r159.2.s r159.2.l r159.2.next l173 r159.2.at_ r159.2.e))
 else
  some (r159.1,r159.2)
def qe5(_N:Nat)(s_0:List UInt8):Option Bool:=
 some (((mget qgE s_0).getD 0)!=0)
def qdS(N:Nat)(x0:Parser):Option ((List UInt8)×Parser):=
 (show Option Bool from
  (qaJ N x0).bind λr20=>
  bif (r20 != 9) then
   some true
  else
   (idx x0.l x0.next).bind λx25=>
   (qe5 N x25.Text).bind λr38=>
   some (!r38)).bind λo19=>
 bif o19 then
  (qaI N 3 x0).bind λr53=>
  some ([],r53)
 else
  (qar N 9 x0).bind λr65=>
  some (r65.1,r65.2)
def qfa(_N:Nat)(s_0:List UInt8):Option Bool:=
 bif (s_0==([105,110,116,101,103,101,114])) then
  some true
 else
  some (s_0==([112,101,114,99,101,110,116]))
def qdR(N:Nat)(x0:Parser):Option ((List UInt8)×Parser):=
 (show Option Bool from
  (qaJ N x0).bind λr20=>
  bif (r20 != 9) then
   some true
  else
   (idx x0.l x0.next).bind λx25=>
   (qfa N x25.Text).bind λr38=>
   some (!r38)).bind λo19=>
 bif o19 then
  (qaI N 3 x0).bind λr53=>
  some ([],r53)
 else
  (qar N 9 x0).bind λr65=>
  some (r65.1,r65.2)
def qdV(N:Nat)(x0:Parser):Option ((List UInt8)×Parser):=
 (show Option Bool from
  (qaJ N x0).bind λr20=>
  bif (r20 != 9) then
   some true
  else
   (idx x0.l x0.next).bind λx25=>
   (qeJ N x25.Text).bind λr38=>
   some (!r38)).bind λo19=>
 bif o19 then
  (qaI N 3 x0).bind λr53=>
  some ([],r53)
 else
  (qar N 9 x0).bind λr65=>
  some (r65.1,r65.2)
def qeO(N:Nat)(s_0:List UInt8)(x0:Int):Option Bool:=
 (qeu N x0 s_0).bind λr2=>
 some r2
def qcb(N:Nat)(x0:Parser)(x1:Int):Option ((List UInt8)×Parser):=
 (show Option Bool from
  (qaJ N x0).bind λr21=>
  bif (r21 != 9) then
   some true
  else
   (idx x0.l x0.next).bind λx26=>
   (qeO N x26.Text x1).bind λr39=>
   some (!r39)).bind λo20=>
 bif o20 then
  (qaI N 3 x0).bind λr54=>
  some ([],r54)
 else
  (qar N 9 x0).bind λr66=>
  some (r66.1,r66.2)
end Go.Proofs.YtkhjeeakflefjaaGreatDoor
namespace Go.Proofs.YtkhjeeakflefjaaGreatDoor
open Go.X
variable {u:World} {m0:Mem} {S:Segs} {w:World}
set_option maxHeartbeats 4000000
set_option maxRecDepth 100000
def qhb:Rp Position:=λ_ cs x=>cs=[.int .i64 x.Offset,.int .i64 x.Line,.int .i64 x.Column]∧InR .i64 x.Offset∧InR .i64 x.Line∧InR .i64 x.Column
theorem qgB:aggB Tryz.prog 40 3=true:=by kernel_rfl
theorem qsA:qa2 Tryz.prog 101 0 0=true:=by kernel_rfl
theorem qcM:qa2 Tryz.prog 101 1 1=true:=by kernel_rfl
theorem qcl:qa2 Tryz.prog 101 2 2=true:=by kernel_rfl
theorem qkW:qa2 Tryz.prog 101 3 3=true:=by kernel_rfl
theorem qo3:qa2 Tryz.prog 101 4 4=true:=by kernel_rfl
theorem qhJ:qa2 Tryz.prog 101 5 5=true:=by kernel_rfl
theorem qsO:qa2 Tryz.prog 132 0 0=true:=by kernel_rfl
theorem qdA:qa2 Tryz.prog 132 1 1=true:=by kernel_rfl
theorem qtb:qa2 Tryz.prog 132 2 2=true:=by kernel_rfl
theorem qob:qa2 Tryz.prog 40 0 0=true:=by kernel_rfl
theorem qqe:qa2 Tryz.prog 40 1 1=true:=by kernel_rfl
theorem qnM:qa2 Tryz.prog 40 2 2=true:=by kernel_rfl
theorem qvi:goB Tryz.prog 124=true:=by kernel_rfl
theorem qwb:goB Tryz.prog 20=true:=by kernel_rfl
theorem qvQ:goB Tryz.prog 35=true:=by kernel_rfl
theorem qma:goB Tryz.prog 36=true:=by kernel_rfl
theorem qfN:goB Tryz.prog 37=true:=by kernel_rfl
theorem qv9:goB Tryz.prog 38=true:=by kernel_rfl
theorem qdx:goB Tryz.prog 54=true:=by kernel_rfl
theorem qwg:goB Tryz.prog 55=true:=by kernel_rfl
theorem qdq:goB Tryz.prog 56=true:=by kernel_rfl
theorem qqK:goB Tryz.prog 57=true:=by kernel_rfl
theorem qvz:goB Tryz.prog 58=true:=by kernel_rfl
theorem qv7:goB Tryz.prog 59=true:=by kernel_rfl
theorem qvW:goB Tryz.prog 60=true:=by kernel_rfl
theorem qvR:goB Tryz.prog 62=true:=by kernel_rfl
theorem qvK:goB Tryz.prog 89=true:=by kernel_rfl
theorem qvy:goB Tryz.prog 90=true:=by kernel_rfl
theorem qkC:goB Tryz.prog 91=true:=by kernel_rfl
theorem qvV:goB Tryz.prog 92=true:=by kernel_rfl
theorem qvH:goB Tryz.prog 93=true:=by kernel_rfl
theorem qpT:∃ i,Tryz.prog.info? 25=some i∧i.size=1:=⟨_,rfl,by kernel_rfl⟩
theorem qhg:∃ i,Tryz.prog.info? 3=some i∧i.size=1:=⟨_,rfl,by kernel_rfl⟩
theorem qgz:∃ i,Tryz.prog.info? 38=some i∧i.size=1:=⟨_,rfl,by kernel_rfl⟩
theorem qdQ:∃ i,Tryz.prog.info? 40=some i∧i.size=3:=⟨_,rfl,by kernel_rfl⟩
theorem qvd:∃ i,Tryz.prog.info? 75=some i∧i.size=1:=⟨_,rfl,by kernel_rfl⟩
theorem qm9:∃ i,Tryz.prog.info? 88=some i∧i.size=1:=⟨_,rfl,by kernel_rfl⟩
theorem qiY:oneB Tryz.prog 25=true:=by kernel_rfl
theorem qhR:oneB Tryz.prog 75=true:=by kernel_rfl
theorem qdX:oneB Tryz.prog 95=true:=by kernel_rfl
theorem qra:qen Tryz.prog 101=some [(0,1),(1,1),(2,1),(3,1),(4,1),(5,1)]:=by kernel_rfl
theorem qhQ:qen Tryz.prog 40=some [(0,1),(1,1),(2,1)]:=by kernel_rfl
theorem qhU:qen Tryz.prog 93=some [(0,1),(1,1)]:=by kernel_rfl
theorem qjX:qjt Tryz.prog 3=some (vi 0):=by kernel_rfl
theorem qst:qcp Tryz.prog 101=some [(vs ([])),(Value.slice none 0 0),vi 0,(Value.map none),vi 0,vi 0]:=by kernel_rfl
theorem qtR:qcp Tryz.prog 25=some [vi 0]:=by kernel_rfl
theorem qc2:qcp Tryz.prog 40=some [vi 0,vi 0,vi 0]:=by kernel_rfl
theorem qt4:qcp Tryz.prog 75=some [(Value.map none)]:=by kernel_rfl
def qke(u:World)(m0:Mem)(S:Segs)(pb0:Nat)(x0:Parser)(c2:Value)(c5:Value)(M6:List (Nat×Obj))(r:Int)(a:Act)(w:World):Prop:=
 Ok u m0 ([(pb0,oc 101 [vs x0.s,c2,vi x0.next,c5,vi x0.at_,vi x0.e])]::M6::S) w∧a.defers=[]∧RVs Tryz.prog a w [.t 2 (.int .i64 r)]∧InR .i64 r
theorem qka(N:Nat){pb0:Nat}{c2:Value}{c5:Value}{M6:List (Nat×Obj)}(x0:Parser)(l1:x0.s.length≤LIMS)(h3:(pL 4 qa4) m0 [c2] x0.l)(r4:InR .i64 x0.next)(h7:OMap kS (oneV pB) m0 c5 x0.names M6)(r8:InR .i64 x0.at_)(r9:InR .i64 x0.e){r:Int}(hF:qfh N x0=some r)(hG:Glob u)(ok:Ok u m0 ([(pb0,oc 101 [vs x0.s,c2,vi x0.next,c5,vi x0.at_,vi x0.e])]::M6::S) w) :
  Calls Tryz.prog 60 [vp pb0].toArray w λe w'=>(e=.returned (.int .i64 r)∧Ok u m0 ([(pb0,oc 101 [vs x0.s,c2,vi x0.next,c5,vi x0.at_,vi x0.e])]::M6::S) w')∧InR .i64 r:=by
 unfold qfh at hF
 refine en (qke u m0 S pb0 x0 c2 c5 M6) r Tryz.func60 rfl rfl rfl (λ_ _ h=>rb h rfl) λfin a E=>sg<|aw E rfl λa E=>wp_seq<|wp_seq<|qdO (by kernel_rfl) (by kernel_rfl) ok<|qv E (qad rfl) λa E=>qv E (qan rfl) λa E=>qv E (qaj qcl rfl) λa E=>qv E (qaw qaN rfl (Holds.own 0 rfl rfl)) λa E=>qv E (qad rfl) λa E=>qv E (qan rfl) λa E=>qv E (qaj qcM rfl) λa E=>qv E (qaw qdX rfl (Holds.own 0 rfl rfl)) λa E=>qv E (qa8 qdJ h3 rfl) λa E=>qv E (qaP rfl rfl) λa E=>wpQuiet_nil ?_
 intro w ok
 refine qaa<|cg E rfl hF (λc10 hF=>?_) λc10 hF=>?_
 ·refine wp_skip<|qaa<|sg<|mv E rfl λa E=>lw E (qan rfl) λa E=>fk E ok qsA qax rfl 0 rfl rfl λa E=>lw E (qbp Tryz.underlying9 rfl) λa E=>aw E rfl λa E=>wp_ret ?_
  exact fin hF ⟨ok,E.d,rz E rfl,(InR.len l1)⟩
 refine wp_seq<|qdO (by kernel_rfl) (by kernel_rfl) ok<|qv E (qad rfl) λa E=>qv E (qan rfl) λa E=>qv E (qaj qcM rfl) λa E=>qv E (qaw qdX rfl (Holds.own 0 rfl rfl)) λa E=>qv E (qad rfl) λa E=>qv E (qan rfl) λa E=>qv E (qaj qcl rfl) λa E=>qv E (qaw qaN rfl (Holds.own 0 rfl rfl)) λa E=>?_
 obtain⟨x11,e12,hF⟩:=bnd hF
 obtain⟨b13,o14,es15,hl16,rr17,at18,yy19⟩:=ia E 16 20 qdJ h3 e12
 obtain⟨rfl,r20,l21,r22,r23⟩:=rr17
 refine qv E (yy19 _ _) λa E=>qv E (qaj qtb rfl) λa E=>qv E (qaw qaN rfl (Holds.ro (At.sub 2 1 at18))) λa E=>qv E (qa3 rfl) λa E=>wpQuiet_nil ?_
 intro w ok
 refine qaa<|wp_ret<|qak ?_
 exact fin hF ⟨ok,E.d,rz E rfl,r22⟩
def qkM(u:World)(m0:Mem)(S:Segs)(pb0:Nat)(x0:Parser)(c2:Value)(c5:Value)(M6:List (Nat×Obj))(r:Parser)(a:Act)(w:World):Prop:=
 ∃ m1 c11 c14 M15,m0.le m1∧Ok u m1 ([(pb0,oc 101 [vs r.s,c11,vi r.next,c14,vi r.at_,vi r.e])]::M15::S) w∧a.defers=[]∧RVs Tryz.prog a w []∧r.s.length≤LIMS∧(pL 4 qa4) m1 [c11] r.l∧InR .i64 r.next∧OMap kS (oneV pB) m1 c14 r.names M15∧InR .i64 r.at_∧InR .i64 r.e
theorem qbn(N:Nat)(e_1:Int)(re_1:InR .i64 e_1){pb0:Nat}{c2:Value}{c5:Value}{M6:List (Nat×Obj)}(x0:Parser)(l1:x0.s.length≤LIMS)(h3:(pL 4 qa4) m0 [c2] x0.l)(r4:InR .i64 x0.next)(h7:OMap kS (oneV pB) m0 c5 x0.names M6)(r8:InR .i64 x0.at_)(r9:InR .i64 x0.e){r:Parser}(hF:qaI N e_1 x0=some r)(hG:Glob u)(ok:Ok u m0 ([(pb0,oc 101 [vs x0.s,c2,vi x0.next,c5,vi x0.at_,vi x0.e])]::M6::S) w) :
  Calls Tryz.prog 37 [vp pb0,vi e_1].toArray w λe w'=>∃ m1 c11 c14 M15,e=.returned (.tuple [].toArray)∧m0.le m1∧Ok u m1 ([(pb0,oc 101 [vs r.s,c11,vi r.next,c14,vi r.at_,vi r.e])]::M15::S) w'∧r.s.length≤LIMS∧(pL 4 qa4) m1 [c11] r.l∧InR .i64 r.next∧OMap kS (oneV pB) m1 c14 r.names M15∧InR .i64 r.at_∧InR .i64 r.e:=by
 have le_m0:=Mem.le.refl m0
 unfold qaI at hF
 refine en (qkM u m0 S pb0 x0 c2 c5 M6) r Tryz.func37 rfl rfl rfl (by rintro a w ⟨m1,c11,c14,M15,hle,ok,hd,hrv,h0,h1,h2,h3,h4,h5⟩;exact qbf [] hd rfl hrv ⟨m1,c11,c14,M15,rfl,hle,ok,h0,h1,h2,h3,h4,h5⟩) λfin a E=>sg<|mv E rfl λa E=>lw E (qan rfl) λa E=>fk E ok qhJ qiY rfl 0 rfl rfl λa E=>lw E (qaz rfl rfl) λa E=>wn<|cg E rfl hF (λc19 hF=>?_) λc19 hF=>?_
 ·refine wp_skip ?_
  exact fin hF ⟨m0,c2,c5,M6,le_m0,ok,E.d,trivial,l1,h3,r4,h7,r8,r9⟩
 refine qab<|mz E rfl rfl λa E=>mv E rfl λa E=>bd hF λr20 e21 hF=>qae E qvW rfl (qka N x0 l1 h3 r4 h7 r8 r9 e21 hG ok) rfl rfl ?_
 rintro _ w ⟨⟨rfl,ok⟩,r22⟩
 refine⟨_,rfl,λa E=>?_⟩
 refine mv E rfl λa E=>lw E (qan rfl) λa E=>fv E qo3 rfl λa E=>qai E ok 0 rfl rfl rfl qhg rfl rfl ⟨rfl,trivial⟩ rfl rfl λw ok=>lw E (qan rfl) λa E=>fv E qhJ rfl λa E=>qai E ok 0 rfl rfl rfl qpT rfl rfl ⟨rfl,trivial⟩ rfl rfl λw ok=>wpList_nil ?_
 exact fin hF ⟨m0,c2,c5,M6,le_m0,ok,E.d,trivial,l1,h3,r4,h7,r22,re_1⟩
def qkX(u:World)(m0:Mem)(S:Segs)(pb0:Nat)(x0:Parser)(c2:Value)(c5:Value)(M6:List (Nat×Obj))(r:Int)(a:Act)(w:World):Prop:=
 Ok u m0 ([(pb0,oc 101 [vs x0.s,c2,vi x0.next,c5,vi x0.at_,vi x0.e])]::M6::S) w∧a.defers=[]∧RVs Tryz.prog a w [.t 2 (.int .i64 r)]∧InR .i64 r
theorem qaC(N:Nat){pb0:Nat}{c2:Value}{c5:Value}{M6:List (Nat×Obj)}(x0:Parser)(l1:x0.s.length≤LIMS)(h3:(pL 4 qa4) m0 [c2] x0.l)(r4:InR .i64 x0.next)(h7:OMap kS (oneV pB) m0 c5 x0.names M6)(r8:InR .i64 x0.at_)(r9:InR .i64 x0.e){r:Int}(hF:qaJ N x0=some r)(hG:Glob u)(ok:Ok u m0 ([(pb0,oc 101 [vs x0.s,c2,vi x0.next,c5,vi x0.at_,vi x0.e])]::M6::S) w) :
  Calls Tryz.prog 54 [vp pb0].toArray w λe w'=>(e=.returned (.int .i64 r)∧Ok u m0 ([(pb0,oc 101 [vs x0.s,c2,vi x0.next,c5,vi x0.at_,vi x0.e])]::M6::S) w')∧InR .i64 r:=by
 unfold qaJ at hF
 refine en (qkX u m0 S pb0 x0 c2 c5 M6) r Tryz.func54 rfl rfl rfl (λ_ _ h=>rb h rfl) λfin a E=>sg<|aw E rfl λa E=>wp_seq<|wp_seq<|qdO (by kernel_rfl) (by kernel_rfl) ok<|qv E (qad rfl) λa E=>qv E (qan rfl) λa E=>qv E (qaj qhJ rfl) λa E=>qv E (qaw qiY rfl (Holds.own 0 rfl rfl)) λa E=>qv E (qbg rfl rfl) λa E=>qv E (qad rfl) λa E=>bu E 8 hF (λc10 hF E=>?_) λc10 hF E=>?_
 ·refine qs E λa E=>qs E λa E=>qs E λa E=>qs E λa E=>qs E λa E=>qs E λa E=>qs E λa E=>qs E λa E=>qs E λa E=>qs E λa E=>qv E (qb1 rfl rfl) λa E=>wpQuiet_nil ?_
  intro w ok
  refine qaa<|c_if E rfl (λ_=>?_) (λh=>by cases h)
  refine sg<|aw E rfl λa E=>wp_ret<|qak ?_
  exact fin hF ⟨ok,E.d,rz E rfl,(ir 0)⟩
 refine qv E (qad rfl) λa E=>qv E (qan rfl) λa E=>qv E (qaj qcl rfl) λa E=>qv E (qaw qaN rfl (Holds.own 0 rfl rfl)) λa E=>qv E (qad rfl) λa E=>qv E (qan rfl) λa E=>qv E (qaj qcM rfl) λa E=>qv E (qaw qdX rfl (Holds.own 0 rfl rfl)) λa E=>qv E (qa8 qdJ h3 rfl) λa E=>qv E (qbL rfl rfl) λa E=>qv E (qbX rfl rfl) λa E=>wpQuiet_nil ?_
 intro w ok
 refine qaa<|cf E rfl hF (λc11 hF=>?_) λc11 hF=>?_
 ·refine sg<|aw E rfl λa E=>wp_ret<|qak ?_
  exact fin hF ⟨ok,E.d,rz E rfl,(ir 0)⟩
 refine wp_skip<|qaa<|wp_seq<|qdO (by kernel_rfl) (by kernel_rfl) ok<|qv E (qad rfl) λa E=>qv E (qan rfl) λa E=>qv E (qaj qcM rfl) λa E=>qv E (qaw qdX rfl (Holds.own 0 rfl rfl)) λa E=>qv E (qad rfl) λa E=>qv E (qan rfl) λa E=>qv E (qaj qcl rfl) λa E=>qv E (qaw qaN rfl (Holds.own 0 rfl rfl)) λa E=>?_
 obtain⟨x12,e13,hF⟩:=bnd hF
 obtain⟨b14,o15,es16,hl17,rr18,at19,yy20⟩:=ia E 23 27 qdJ h3 e13
 obtain⟨rfl,r21,l22,r23,r24⟩:=rr18
 refine qv E (yy20 _ _) λa E=>qv E (qaj qsO rfl) λa E=>qv E (qaw qaN rfl (Holds.ro (At.sub 0 1 at19))) λa E=>qv E (qa3 rfl) λa E=>wpQuiet_nil ?_
 intro w ok
 refine qaa<|wp_ret ?_
 exact fin hF ⟨ok,E.d,rz E rfl,r21⟩
def qky(u:World)(m0:Mem)(S:Segs)(pb0:Nat)(x0:Parser)(c2:Value)(c5:Value)(M6:List (Nat×Obj))(r:(List UInt8)×Parser)(a:Act)(w:World):Prop:=
 ∃ m1 c11 c14 M15,m0.le m1∧Ok u m1 ([(pb0,oc 101 [vs r.2.s,c11,vi r.2.next,c14,vi r.2.at_,vi r.2.e])]::M15::S) w∧a.defers=[]∧RVs Tryz.prog a w [.t 4 (.string (bs r.1))]∧r.1.length≤LIMS∧r.2.s.length≤LIMS∧(pL 4 qa4) m1 [c11] r.2.l∧InR .i64 r.2.next∧OMap kS (oneV pB) m1 c14 r.2.names M15∧InR .i64 r.2.at_∧InR .i64 r.2.e
theorem qaB(N:Nat)(kind_1:Int)(rkind_1:InR .i64 kind_1){pb0:Nat}{c2:Value}{c5:Value}{M6:List (Nat×Obj)}(x0:Parser)(l1:x0.s.length≤LIMS)(h3:(pL 4 qa4) m0 [c2] x0.l)(r4:InR .i64 x0.next)(h7:OMap kS (oneV pB) m0 c5 x0.names M6)(r8:InR .i64 x0.at_)(r9:InR .i64 x0.e){r:(List UInt8)×Parser}(hF:qar N kind_1 x0=some r)(hG:Glob u)(ok:Ok u m0 ([(pb0,oc 101 [vs x0.s,c2,vi x0.next,c5,vi x0.at_,vi x0.e])]::M6::S) w) :
  Calls Tryz.prog 56 [vp pb0,vi kind_1].toArray w λe w'=>∃ m1 c11 c14 M15,e=.returned (.string (bs r.1))∧m0.le m1∧Ok u m1 ([(pb0,oc 101 [vs r.2.s,c11,vi r.2.next,c14,vi r.2.at_,vi r.2.e])]::M15::S) w'∧r.1.length≤LIMS∧r.2.s.length≤LIMS∧(pL 4 qa4) m1 [c11] r.2.l∧InR .i64 r.2.next∧OMap kS (oneV pB) m1 c14 r.2.names M15∧InR .i64 r.2.at_∧InR .i64 r.2.e:=by
 have le_m0:=Mem.le.refl m0
 unfold qar at hF
 refine en (qky u m0 S pb0 x0 c2 c5 M6) r Tryz.func56 rfl rfl rfl (by rintro a w ⟨m1,c11,c14,M15,hle,ok,hd,hrv,h0,h1,h2,h3,h4,h5,h6⟩;exact qbf [.t 4 (.string (bs r.1))] hd rfl hrv ⟨m1,c11,c14,M15,rfl,hle,ok,h0,h1,h2,h3,h4,h5,h6⟩) λfin a E=>sg<|aw E rfl λa E=>wp_seq<|sg<|mv E rfl λa E=>bd hF λr19 e20 hF=>qae E qdx rfl (qaC N x0 l1 h3 r4 h7 r8 r9 e20 hG ok) rfl rfl ?_
 rintro _ w ⟨⟨rfl,ok⟩,r21⟩
 refine⟨_,rfl,λa E=>?_⟩
 refine mv E rfl λa E=>lw E (qbg rfl rfl) λa E=>wn<|cf E rfl hF (λc22 hF=>?_) λc22 hF=>?_
 ·refine sg<|mv E rfl λa E=>bd hF λr23 e24 hF=>qae E qfN rfl (qbn N 3 (ir 3) x0 l1 h3 r4 h7 r8 r9 e24 hG ok) rfl rfl ?_
  rintro _ w ⟨m25,c27,c30,M31,rfl,hle,ok,l26,h28,r29,h32,r33,r34⟩
  have le_m0:=le_m0.trans hle
  have h3:=(mL qac).up hle h3
  refine⟨_,rfl,λa E=>?_⟩
  refine wn<|sg<|aw E rfl λa E=>wp_ret<|qak ?_
  exact fin hF ⟨m25,c27,c30,M31,le_m0,ok,E.d,rz E rfl,(show([]:List UInt8).length≤LIMS by decide),l26,h28,r29,h32,r33,r34⟩
 refine wp_skip<|qaa<|sg<|mv E rfl λa E=>lw E (qan rfl) λa E=>fk E ok qcl qaN rfl 0 rfl rfl λa E=>lw E (qbk rfl rfl) λa E=>lw E (qan rfl) λa E=>fv E qcl rfl λa E=>qai E ok 0 rfl rfl rfl qhg rfl rfl ⟨rfl,trivial⟩ rfl rfl λw ok=>wn<|wp_seq<|qdO (by kernel_rfl) (by kernel_rfl) ok ?_
 refine qv E (qad rfl) λa E=>qv E (qan rfl) λa E=>qv E (qaj qcM rfl) λa E=>qv E (qaw qdX rfl (Holds.own 0 rfl rfl)) λa E=>qv E (qad rfl) λa E=>qv E (qan rfl) λa E=>qv E (qaj qcl rfl) λa E=>qv E (qaw qaN rfl (Holds.own 0 rfl rfl)) λa E=>qv E (qcP rfl rfl) λa E=>?_
 obtain⟨x35,e36,hF⟩:=bnd hF
 obtain⟨b37,o38,es39,hl40,rr41,at42,yy43⟩:=ia E 21 26 qdJ h3 e36
 obtain⟨rfl,r44,l45,r46,r47⟩:=rr41
 refine qv E (yy43 _ _) λa E=>qv E (qaj qdA rfl) λa E=>qv E (qaw qax rfl (Holds.ro (At.sub 1 1 at42))) λa E=>qv E (qa3 rfl) λa E=>wpQuiet_nil ?_
 intro w ok
 refine qaa<|wp_ret ?_
 exact fin hF ⟨m0,c2,c5,M6,le_m0,ok,E.d,rz E rfl,l45,l1,h3,(InR.wrap _ _),h7,r8,r9⟩
def qkF(u:World)(m0:Mem)(S:Segs)(pb0:Nat)(x0:Parser)(c2:Value)(c5:Value)(M6:List (Nat×Obj))(r:Parser)(a:Act)(w:World):Prop:=
 ∃ m1 c11 c14 M15,m0.le m1∧Ok u m1 ([(pb0,oc 101 [vs r.s,c11,vi r.next,c14,vi r.at_,vi r.e])]::M15::S) w∧a.defers=[]∧RVs Tryz.prog a w []∧r.s.length≤LIMS∧(pL 4 qa4) m1 [c11] r.l∧InR .i64 r.next∧OMap kS (oneV pB) m1 c14 r.names M15∧InR .i64 r.at_∧InR .i64 r.e
theorem qf5(N:Nat)(depth_1:Int)(rdepth_1:InR .i64 depth_1){pb0:Nat}{c2:Value}{c5:Value}{M6:List (Nat×Obj)}(x0:Parser)(l1:x0.s.length≤LIMS)(h3:(pL 4 qa4) m0 [c2] x0.l)(r4:InR .i64 x0.next)(h7:OMap kS (oneV pB) m0 c5 x0.names M6)(r8:InR .i64 x0.at_)(r9:InR .i64 x0.e){r:Parser}(hF:qcG N depth_1 x0=some r)(hG:Glob u)(ok:Ok u m0 ([(pb0,oc 101 [vs x0.s,c2,vi x0.next,c5,vi x0.at_,vi x0.e])]::M6::S) w) :
  Calls Tryz.prog 57 [vp pb0,vi depth_1].toArray w λe w'=>∃ m1 c11 c14 M15,e=.returned (.tuple [].toArray)∧m0.le m1∧Ok u m1 ([(pb0,oc 101 [vs r.s,c11,vi r.next,c14,vi r.at_,vi r.e])]::M15::S) w'∧r.s.length≤LIMS∧(pL 4 qa4) m1 [c11] r.l∧InR .i64 r.next∧OMap kS (oneV pB) m1 c14 r.names M15∧InR .i64 r.at_∧InR .i64 r.e:=by
 have le_m0:=Mem.le.refl m0
 unfold qcG at hF
 refine en (qkF u m0 S pb0 x0 c2 c5 M6) r Tryz.func57 rfl rfl rfl (by rintro a w ⟨m1,c11,c14,M15,hle,ok,hd,hrv,h0,h1,h2,h3,h4,h5⟩;exact qbf [] hd rfl hrv ⟨m1,c11,c14,M15,rfl,hle,ok,h0,h1,h2,h3,h4,h5⟩) λfin a E=>sg<|mv E rfl λa E=>lw E (qcv rfl rfl) λa E=>wn<|cg E rfl hF (λc19 hF=>?_) λc19 hF=>?_
 ·refine wp_skip ?_
  exact fin hF ⟨m0,c2,c5,M6,le_m0,ok,E.d,trivial,l1,h3,r4,h7,r8,r9⟩
 refine qab<|mv E rfl λa E=>bd hF λr20 e21 hF=>qae E qfN rfl (qbn N 6 (ir 6) x0 l1 h3 r4 h7 r8 r9 e21 hG ok) rfl rfl ?_
 rintro _ w ⟨m22,c24,c27,M28,rfl,hle,ok,l23,h25,r26,h29,r30,r31⟩
 have le_m0:=le_m0.trans hle
 have h3:=(mL qac).up hle h3
 refine⟨_,rfl,λa E=>?_⟩
 refine wpList_nil ?_
 exact fin hF ⟨m22,c24,c27,M28,le_m0,ok,E.d,trivial,l23,h25,r26,h29,r30,r31⟩
def qjg(u:World)(m0:Mem)(S:Segs)(pb0:Nat)(x0:Parser)(c2:Value)(c5:Value)(M6:List (Nat×Obj))(r:(List UInt8)×Parser)(a:Act)(w:World):Prop:=
 ∃ m1 c11 c14 M15,m0.le m1∧Ok u m1 ([(pb0,oc 101 [vs r.2.s,c11,vi r.2.next,c14,vi r.2.at_,vi r.2.e])]::M15::S) w∧a.defers=[]∧RVs Tryz.prog a w [.t 4 (.string (bs r.1))]∧r.1.length≤LIMS∧r.2.s.length≤LIMS∧(pL 4 qa4) m1 [c11] r.2.l∧InR .i64 r.2.next∧OMap kS (oneV pB) m1 c14 r.2.names M15∧InR .i64 r.2.at_∧InR .i64 r.2.e
theorem qgo(N:Nat){pb0:Nat}{c2:Value}{c5:Value}{M6:List (Nat×Obj)}(x0:Parser)(l1:x0.s.length≤LIMS)(h3:(pL 4 qa4) m0 [c2] x0.l)(r4:InR .i64 x0.next)(h7:OMap kS (oneV pB) m0 c5 x0.names M6)(r8:InR .i64 x0.at_)(r9:InR .i64 x0.e){r:(List UInt8)×Parser}(hF:qcL N x0=some r)(hG:Glob u)(ok:Ok u m0 ([(pb0,oc 101 [vs x0.s,c2,vi x0.next,c5,vi x0.at_,vi x0.e])]::M6::S) w) :
  Calls Tryz.prog 91 [vp pb0,Value.func (.func 95) #[] #[]].toArray w λe w'=>∃ m1 c11 c14 M15,e=.returned (.string (bs r.1))∧m0.le m1∧Ok u m1 ([(pb0,oc 101 [vs r.2.s,c11,vi r.2.next,c14,vi r.2.at_,vi r.2.e])]::M15::S) w'∧r.1.length≤LIMS∧r.2.s.length≤LIMS∧(pL 4 qa4) m1 [c11] r.2.l∧InR .i64 r.2.next∧OMap kS (oneV pB) m1 c14 r.2.names M15∧InR .i64 r.2.at_∧InR .i64 r.2.e:=by
 have le_m0:=Mem.le.refl m0
 unfold qcL at hF
 refine en (qjg u m0 S pb0 x0 c2 c5 M6) r Tryz.func91 rfl rfl rfl (by rintro a w ⟨m1,c11,c14,M15,hle,ok,hd,hrv,h0,h1,h2,h3,h4,h5,h6⟩;exact qbf [.t 4 (.string (bs r.1))] hd rfl hrv ⟨m1,c11,c14,M15,rfl,hle,ok,h0,h1,h2,h3,h4,h5,h6⟩) λfin a E=>sg<|aw E rfl λa E=>wp_seq<|wp_seq<|bd hF λo19 hJ hF=>qaO (Q':=λe a w=>e=.normal∧Ok u m0 ([(pb0,oc 101 [vs x0.s,c2,vi x0.next,c5,vi x0.at_,vi x0.e])]::M6::S) w∧Env 28 a [(0,vp pb0),(23,vb o19)]) ?_ ?_
 rotate_left
 ·intro e a w hO
  obtain⟨rfl,ok,E⟩:=hO
  refine qaa<|cg E rfl hF (λc52 hF=>?_) λc52 hF=>?_
  ·refine wp_skip<|qaa<|sg<|mv E rfl λa E=>bd hF λr65 e66 hF=>qae E qdq rfl (qaB N 9 (ir 9) x0 l1 h3 r4 h7 r8 r9 e66 hG ok) rfl rfl ?_
   rintro _ w ⟨m67,c70,c73,M74,rfl,hle,ok,l68,l69,h71,r72,h75,r76,r77⟩
   have le_m0:=le_m0.trans hle
   have h3:=(mL qac).up hle h3
   refine⟨_,rfl,λa E=>?_⟩
   refine aw E rfl λa E=>wp_ret ?_
   exact fin hF ⟨m67,c70,c73,M74,le_m0,ok,E.d,rz E rfl,l68,l69,h71,r72,h75,r76,r77⟩
  refine sg<|mv E rfl λa E=>bd hF λr53 e54 hF=>qae E qfN rfl (qbn N 3 (ir 3) x0 l1 h3 r4 h7 r8 r9 e54 hG ok) rfl rfl ?_
  rintro _ w ⟨m55,c57,c60,M61,rfl,hle,ok,l56,h58,r59,h62,r63,r64⟩
  have le_m0:=le_m0.trans hle
  have h3:=(mL qac).up hle h3
  refine⟨_,rfl,λa E=>?_⟩
  refine wn<|sg<|aw E rfl λa E=>wp_ret<|qak ?_
  exact fin hF ⟨m55,c57,c60,M61,le_m0,ok,E.d,rz E rfl,(show([]:List UInt8).length≤LIMS by decide),l56,h58,r59,h62,r63,r64⟩
 have hF:=hJ
 refine bd hF λr20 e21 hF=>qbx (r20 != 9) (λc23=>?_) (λc23=>?_)
 ·have hF:=qbz c23 hF
  cases hF
  refine qbl [] (Cls u m0 ([(pb0,oc 101 [vs x0.s,c2,vi x0.next,c5,vi x0.at_,vi x0.e])]::M6::[])) (Cls u m0 ([(pb0,oc 101 [vs x0.s,c2,vi x0.next,c5,vi x0.at_,vi x0.e])]::M6::[])) (by kernel_rfl) ?_
  intro w hw
  replace ok:=qbA ok hw
  clear hw
  refine qaq (cl1 (cq le_m0 ok [0,1] rfl) (cq le_m0 ok [0,1] rfl)) λhT=>kt 0 E rfl hT (qad rfl) λa E=>qaU [1] (by kernel_rfl) rfl (qa1 ?_)
  ·refine wo rfl<|qae E qdx rfl (qaC N x0 l1 h3 r4 h7 r8 r9 e21 hG ok) rfl rfl ?_
   rintro _ w ⟨⟨rfl,ok⟩,r24⟩
   refine⟨_,rfl,λa E=>?_⟩
   refine wn<|qaq (cl1 (cq le_m0 ok [0,1] rfl) (cq le_m0 ok [0,1] rfl)) λhT=>kt 2 E rfl hT (qbg rfl rfl) λa E=>kt 3 E rfl hT (qad rfl) λa E=>?_
   have E:=E.upd 8 c23 rfl
   refine qaf 4 false E rfl (by kernel_rfl) nP hT rfl rfl λa E=>qaf 5 false E rfl (by kernel_rfl) nP hT rfl rfl λa E=>qaf 6 false E rfl (by kernel_rfl) nP hT rfl rfl λa E=>qaf 7 false E rfl (by kernel_rfl) nP hT rfl rfl λa E=>qaf 8 false E rfl (by kernel_rfl) nP hT rfl rfl λa E=>qaf 9 false E rfl (by kernel_rfl) nP hT rfl rfl λa E=>qaf 10 false E rfl (by kernel_rfl) nP hT rfl rfl λa E=>qaf 11 false E rfl (by kernel_rfl) nP hT rfl rfl λa E=>qaf 12 false E rfl (by kernel_rfl) nP hT rfl rfl λa E=>qaf 13 false E rfl (by kernel_rfl) nP hT rfl rfl λa E=>qaf 14 false E rfl (by kernel_rfl) nP hT rfl rfl λa E=>qaf 15 false E rfl (by kernel_rfl) nP hT rfl rfl λa E=>qaf 16 false E rfl (by kernel_rfl) nP hT rfl rfl λa E=>qaf 17 false E rfl (by kernel_rfl) nP hT rfl rfl λa E=>kt 18 E rfl hT (qb1 rfl rfl) λa E=>qbv (by kernel_rfl) ?_
   exact⟨rfl,⟨ok,E.keep [0,23]⟩⟩
 have hF:=qby c23 hF
 obtain⟨x25,e26,hF⟩:=bnd hF
 obtain⟨r38,e39,hF⟩:=bnd hF
 obtain rfl:=sj hF
 refine qbl [] (Cls u m0 ([(pb0,oc 101 [vs x0.s,c2,vi x0.next,c5,vi x0.at_,vi x0.e])]::M6::[])) (Cls u m0 ([(pb0,oc 101 [vs x0.s,c2,vi x0.next,c5,vi x0.at_,vi x0.e])]::M6::[])) (by kernel_rfl) ?_
 intro w hw
 replace ok:=qbA ok hw
 clear hw
 refine qaq (cl1 (cq le_m0 ok [0,1] rfl) (cq le_m0 ok [0,1] rfl)) λhT=>kt 0 E rfl hT (qad rfl) λa E=>qaU [1] (by kernel_rfl) rfl (qa1 ?_)
 ·refine wo rfl<|qae E qdx rfl (qaC N x0 l1 h3 r4 h7 r8 r9 e21 hG ok) rfl rfl ?_
  rintro _ w ⟨⟨rfl,ok⟩,r40⟩
  refine⟨_,rfl,λa E=>?_⟩
  refine wn<|qaq (cl1 (cq le_m0 ok [0,1] rfl) (cq le_m0 ok [0,1] rfl)) λhT=>kt 2 E rfl hT (qbg rfl rfl) λa E=>kt 3 E rfl hT (qad rfl) λa E=>?_
  have E:=E.upd 8 c23 rfl
  refine kt 4 E rfl hT (qad rfl) λa E=>kt 5 E rfl hT (qad rfl) λa E=>kt 6 E rfl hT (qan rfl) λa E=>kt 7 E rfl hT (qaj qcM rfl) λa E=>kt 8 E rfl hT (qaw qdX rfl (Holds.cown 0 rfl rfl)) λa E=>kt 9 E rfl hT (qad rfl) λa E=>kt 10 E rfl hT (qan rfl) λa E=>kt 11 E rfl hT (qaj qcl rfl) λa E=>kt 12 E rfl hT (qaw qaN rfl (Holds.cown 0 rfl rfl)) λa E=>?_
  obtain⟨b41,o42,es43,hl44,rr45,at46,yy47⟩:=ia E 13 17 qdJ h3 e26
  obtain⟨rfl,r48,l49,r50,r51⟩:=rr45
  refine kt 13 E rfl hT (yy47 _ _) λa E=>kt 14 E rfl hT (qaj qdA rfl) λa E=>kt 15 E rfl hT (qaw qax rfl (Holds.cro (At.sub 1 1 at46))) λa E=>qaU [16] (by kernel_rfl) rfl (qa1 ?_)
  ·refine wo rfl<|qhD E rfl qiE rfl (qeb N x25.Text l49 e39 hG ok) rfl rfl ?_
   rintro _ w ⟨rfl,ok⟩
   refine⟨_,rfl,λa E=>?_⟩
   refine wn<|qaq (cl1 (cq le_m0 ok [0,1] rfl) (cq le_m0 ok [0,1] rfl)) λhT=>kt 17 E rfl hT (qa9 rfl) λa E=>kt 18 E rfl hT (qbX rfl rfl) λa E=>qbv (by kernel_rfl) ?_
   exact⟨rfl,⟨ok,E.keep [0,23]⟩⟩
def qkQ(u:World)(m0:Mem)(S:Segs)(pb0:Nat)(x0:Parser)(c2:Value)(c5:Value)(M6:List (Nat×Obj))(r:(List UInt8)×Parser)(a:Act)(w:World):Prop:=
 ∃ m1 c11 c14 M15,m0.le m1∧Ok u m1 ([(pb0,oc 101 [vs r.2.s,c11,vi r.2.next,c14,vi r.2.at_,vi r.2.e])]::M15::S) w∧a.defers=[]∧RVs Tryz.prog a w [.t 2 (.string (bs r.1))]∧r.1.length≤LIMS∧r.2.s.length≤LIMS∧(pL 4 qa4) m1 [c11] r.2.l∧InR .i64 r.2.next∧OMap kS (oneV pB) m1 c14 r.2.names M15∧InR .i64 r.2.at_∧InR .i64 r.2.e
theorem qkI(N:Nat){pb0:Nat}{c2:Value}{c5:Value}{M6:List (Nat×Obj)}(x0:Parser)(l1:x0.s.length≤LIMS)(h3:(pL 4 qa4) m0 [c2] x0.l)(r4:InR .i64 x0.next)(h7:OMap kS (oneV pB) m0 c5 x0.names M6)(r8:InR .i64 x0.at_)(r9:InR .i64 x0.e){r:(List UInt8)×Parser}(hF:qd7 N x0=some r)(hG:Glob u)(ok:Ok u m0 ([(pb0,oc 101 [vs x0.s,c2,vi x0.next,c5,vi x0.at_,vi x0.e])]::M6::S) w) :
  Calls Tryz.prog 89 [vp pb0].toArray w λe w'=>∃ m1 c11 c14 M15,e=.returned (.string (bs r.1))∧m0.le m1∧Ok u m1 ([(pb0,oc 101 [vs r.2.s,c11,vi r.2.next,c14,vi r.2.at_,vi r.2.e])]::M15::S) w'∧r.1.length≤LIMS∧r.2.s.length≤LIMS∧(pL 4 qa4) m1 [c11] r.2.l∧InR .i64 r.2.next∧OMap kS (oneV pB) m1 c14 r.2.names M15∧InR .i64 r.2.at_∧InR .i64 r.2.e:=by
 have le_m0:=Mem.le.refl m0
 unfold qd7 at hF
 refine en (qkQ u m0 S pb0 x0 c2 c5 M6) r Tryz.func89 rfl rfl rfl (by rintro a w ⟨m1,c11,c14,M15,hle,ok,hd,hrv,h0,h1,h2,h3,h4,h5,h6⟩;exact qbf [.t 2 (.string (bs r.1))] hd rfl hrv ⟨m1,c11,c14,M15,rfl,hle,ok,h0,h1,h2,h3,h4,h5,h6⟩) λfin a E=>sg<|aw E rfl λa E=>wp_seq<|wp_seq<|bd hF λo19 hJ hF=>qaO (Q':=λe a w=>e=.normal∧Ok u m0 ([(pb0,oc 101 [vs x0.s,c2,vi x0.next,c5,vi x0.at_,vi x0.e])]::M6::S) w∧Env 60 a [(0,vp pb0),(47,vb o19)]) ?_ ?_
 rotate_left
 ·as_aux_lemma=>
   intro e a w hO
   obtain⟨rfl,ok,E⟩:=hO
   refine qaa<|bd hF λo125 hJ hF=>qaO (Q':=λe a w=>e=.normal∧∃ m126 c128 c131 M132,m0.le m126∧Ok u m126 ([(pb0,oc 101 [vs o125.s,c128,vi o125.next,c131,vi o125.at_,vi o125.e])]::M132::S) w∧Env 60 a [(0,vp pb0)]∧o125.s.length≤LIMS∧(pL 4 qa4) m126 [c128] o125.l∧InR .i64 o125.next∧OMap kS (oneV pB) m126 c131 o125.names M132∧InR .i64 o125.at_∧InR .i64 o125.e) ?_ ?_
   ·have hF:=hJ
    refine cg E rfl hF (λc136 hF=>?_) λc136 hF=>?_
    ·refine wp_skip ?_
     cases hF
     exact⟨rfl,⟨m0,c2,c5,M6,le_m0,ok,E.keep [0],l1,h3,r4,h7,r8,r9⟩⟩
    refine qab<|mv E rfl λa E=>bd hF λr137 e138 hF=>qae E qfN rfl (qbn N 6 (ir 6) x0 l1 h3 r4 h7 r8 r9 e138 hG ok) rfl rfl ?_
    rintro _ w ⟨m139,c141,c144,M145,rfl,hle,ok,l140,h142,r143,h146,r147,r148⟩
    have le_m0:=le_m0.trans hle
    have h3:=(mL qac).up hle h3
    refine⟨_,rfl,λa E=>?_⟩
    refine wpList_nil ?_
    cases hF
    exact⟨rfl,⟨m139,c141,c144,M145,le_m0,ok,E.keep [0],l140,h142,r143,h146,r147,r148⟩⟩
   intro e a w hO
   obtain⟨rfl,m149,c151,c154,M155,hle,ok,E,l150,h152,r153,h156,r157,r158⟩:=hO
   have le_m0:=le_m0.trans hle
   have h3:=(mL qac).up hle h3
   refine qaa<|sg<|mv E rfl λa E=>bd hF λr159 e160 hF=>qae E qkC rfl (qgo N o125 l150 h152 r153 h156 r157 r158 e160 hG ok) rfl rfl ?_
   rintro _ w ⟨m161,c164,c167,M168,rfl,hle,ok,l162,l163,h165,r166,h169,r170,r171⟩
   have le_m0:=le_m0.trans hle
   have h3:=(mL qac).up hle h3
   have h152:=(mL qac).up hle h152
   refine⟨_,rfl,λa E=>?_⟩
   refine aw E rfl λa E=>wp_seq<|sg<|mv E rfl λa E=>lw E (qeU rfl rfl) λa E=>wn<|cg E rfl hF (λc172 hF=>?_) λc172 hF=>?_
   ·refine wp_skip<|qaa<|sg<|mv E rfl λa E=>aw E rfl λa E=>wp_ret ?_
    exact fin hF ⟨m161,c164,c167,M168,le_m0,ok,E.d,rz E rfl,l162,l163,h165,r166,h169,r170,r171⟩
   refine qab<|mv E rfl λa E=>lw E (qan rfl) λa E=>fk E ok qkW qhn rfl 0 rfl rfl λa E=>mv E rfl λa E=>bd hF λl173 e174 hF=>qd8 (.inl rfl) E ok 1 (qbe Tryz.underlying9) Tryz.underlying99 h169 rfl rfl rfl rfl ⟨rfl,l162⟩ qfD e174 rfl λM175 w ok h176=>wn<|sg<|mv E rfl λa E=>av E rfl λa E=>wn<|wp_ret ?_
   exact fin hF ⟨m161,c164,c167,M175,le_m0,ok,E.d,rz E rfl,l162,l163,h165,r166,h176,r170,r171⟩
 have hF:=hJ
 refine bd hF λr20 e21 hF=>qbx (r20==9) (λc23=>?_) (λc23=>?_)
 rotate_left
 ·have hF:=qby c23 hF
  cases hF
  refine qbl [] (Cls u m0 ([(pb0,oc 101 [vs x0.s,c2,vi x0.next,c5,vi x0.at_,vi x0.e])]::M6::[])) (Cls u m0 ([(pb0,oc 101 [vs x0.s,c2,vi x0.next,c5,vi x0.at_,vi x0.e])]::M6::[])) (by kernel_rfl) ?_
  intro w hw
  replace ok:=qbA ok hw
  clear hw
  refine qaq (cl1 (cq le_m0 ok [0,1] rfl) (cq le_m0 ok [0,1] rfl)) λhT=>kt 0 E rfl hT (qad rfl) λa E=>qaU [1] (by kernel_rfl) rfl (qa1 ?_)
  ·refine wo rfl<|qae E qdx rfl (qaC N x0 l1 h3 r4 h7 r8 r9 e21 hG ok) rfl rfl ?_
   rintro _ w ⟨⟨rfl,ok⟩,r124⟩
   refine⟨_,rfl,λa E=>?_⟩
   refine wn<|qaq (cl1 (cq le_m0 ok [0,1] rfl) (cq le_m0 ok [0,1] rfl)) λhT=>kt 2 E rfl hT (qaz rfl rfl) λa E=>kt 3 E rfl hT (qad rfl) λa E=>?_
   have E:=E.upd 7 c23 rfl
   refine qaf 4 false E rfl (by kernel_rfl) nP hT rfl rfl λa E=>qaf 5 false E rfl (by kernel_rfl) nP hT rfl rfl λa E=>qaf 6 false E rfl (by kernel_rfl) nP hT rfl rfl λa E=>qaf 7 false E rfl (by kernel_rfl) nP hT rfl rfl λa E=>qaf 8 false E rfl (by kernel_rfl) nP hT rfl rfl λa E=>qaf 9 false E rfl (by kernel_rfl) nP hT rfl rfl λa E=>qaf 10 false E rfl (by kernel_rfl) nP hT rfl rfl λa E=>qaf 11 false E rfl (by kernel_rfl) nP hT rfl rfl λa E=>qaf 12 false E rfl (by kernel_rfl) nP hT rfl rfl λa E=>qaf 13 false E rfl (by kernel_rfl) nP hT rfl rfl λa E=>qaf 14 false E rfl (by kernel_rfl) nP hT rfl rfl λa E=>qaf 15 false E rfl (by kernel_rfl) nP hT rfl rfl λa E=>kt 16 E rfl hT (qbX rfl rfl) λa E=>kt 17 E rfl hT (qad rfl) λa E=>qaf 18 false E rfl (by kernel_rfl) nP hT rfl rfl λa E=>qaf 19 false E rfl (by kernel_rfl) nP hT rfl rfl λa E=>?_
   refine qaf 20 false E rfl (by kernel_rfl) nP hT rfl rfl λa E=>qaf 21 false E rfl (by kernel_rfl) nP hT rfl rfl λa E=>qaf 22 false E rfl (by kernel_rfl) nP hT rfl rfl λa E=>qaf 23 false E rfl (by kernel_rfl) nP hT rfl rfl λa E=>qaf 24 false E rfl (by kernel_rfl) nP hT rfl rfl λa E=>qaf 25 false E rfl (by kernel_rfl) nP hT rfl rfl λa E=>qaf 26 false E rfl (by kernel_rfl) nP hT rfl rfl λa E=>qaf 27 false E rfl (by kernel_rfl) nP hT rfl rfl λa E=>qaf 28 false E rfl (by kernel_rfl) nP hT rfl rfl λa E=>qaf 29 false E rfl (by kernel_rfl) nP hT rfl rfl λa E=>qaf 30 false E rfl (by kernel_rfl) nP hT rfl rfl λa E=>qaf 31 false E rfl (by kernel_rfl) nP hT rfl rfl λa E=>qaf 32 false E rfl (by kernel_rfl) nP hT rfl rfl λa E=>qaf 33 false E rfl (by kernel_rfl) nP hT rfl rfl λa E=>qaf 34 false E rfl (by kernel_rfl) nP hT rfl rfl λa E=>kt 35 E rfl hT (qbX rfl rfl) λa E=>?_
   refine kt 36 E rfl hT (qad rfl) λa E=>qaf 37 false E rfl (by kernel_rfl) nP hT rfl rfl λa E=>qaf 38 false E rfl (by kernel_rfl) nP hT rfl rfl λa E=>qaf 39 false E rfl (by kernel_rfl) nP hT rfl rfl λa E=>qaf 40 false E rfl (by kernel_rfl) nP hT rfl rfl λa E=>qaf 41 false E rfl (by kernel_rfl) nP hT rfl rfl λa E=>qaf 42 false E rfl (by kernel_rfl) nP hT rfl rfl λa E=>kt 43 E rfl hT (qbX rfl rfl) λa E=>qbv (by kernel_rfl) ?_
   exact⟨rfl,⟨ok,E.keep [0,47]⟩⟩
 have hF:=qbz c23 hF
 obtain⟨x24,e25,hF⟩:=bnd hF
 refine bd hF λr37 e38 hF=>qbx r37 (λc39=>?_) (λc39=>?_)
 rotate_left
 ·have hF:=qby c39 hF
  cases hF
  refine qbl [] (Cls u m0 ([(pb0,oc 101 [vs x0.s,c2,vi x0.next,c5,vi x0.at_,vi x0.e])]::M6::[])) (Cls u m0 ([(pb0,oc 101 [vs x0.s,c2,vi x0.next,c5,vi x0.at_,vi x0.e])]::M6::[])) (by kernel_rfl) ?_
  intro w hw
  replace ok:=qbA ok hw
  clear hw
  refine qaq (cl1 (cq le_m0 ok [0,1] rfl) (cq le_m0 ok [0,1] rfl)) λhT=>kt 0 E rfl hT (qad rfl) λa E=>qaU [1] (by kernel_rfl) rfl (qa1 ?_)
  ·refine wo rfl<|qae E qdx rfl (qaC N x0 l1 h3 r4 h7 r8 r9 e21 hG ok) rfl rfl ?_
   rintro _ w ⟨⟨rfl,ok⟩,r112⟩
   refine⟨_,rfl,λa E=>?_⟩
   refine wn<|qaq (cl1 (cq le_m0 ok [0,1] rfl) (cq le_m0 ok [0,1] rfl)) λhT=>kt 2 E rfl hT (qaz rfl rfl) λa E=>kt 3 E rfl hT (qad rfl) λa E=>?_
   have E:=E.upd 7 c23 rfl
   refine kt 4 E rfl hT (qad rfl) λa E=>kt 5 E rfl hT (qan rfl) λa E=>kt 6 E rfl hT (qaj qcM rfl) λa E=>kt 7 E rfl hT (qaw qdX rfl (Holds.cown 0 rfl rfl)) λa E=>kt 8 E rfl hT (qad rfl) λa E=>kt 9 E rfl hT (qan rfl) λa E=>kt 10 E rfl hT (qaj qcl rfl) λa E=>kt 11 E rfl hT (qaw qaN rfl (Holds.cown 0 rfl rfl)) λa E=>?_
   obtain⟨b113,o114,es115,hl116,rr117,at118,yy119⟩:=ia E 11 15 qdJ h3 e25
   obtain⟨rfl,r120,l121,r122,r123⟩:=rr117
   refine kt 12 E rfl hT (yy119 _ _) λa E=>kt 13 E rfl hT (qaj qdA rfl) λa E=>kt 14 E rfl hT (qaw qax rfl (Holds.cro (At.sub 1 1 at118))) λa E=>qaU [15] (by kernel_rfl) rfl (qa1 ?_)
   ·refine wo rfl<|lc E qiE rfl (qeb N x24.Text l121 e38 hG ok) λw ok a E=>wn<|qaq (cl1 (cq le_m0 ok [0,1] rfl) (cq le_m0 ok [0,1] rfl)) λhT=>kt 16 E rfl hT (qb1 rfl rfl) λa E=>kt 17 E rfl hT (qad rfl) λa E=>?_
    have E:=E.upd 21 c39 rfl
    refine qaf 18 false E rfl (by kernel_rfl) nP hT rfl rfl λa E=>qaf 19 false E rfl (by kernel_rfl) nP hT rfl rfl λa E=>qaf 20 false E rfl (by kernel_rfl) nP hT rfl rfl λa E=>qaf 21 false E rfl (by kernel_rfl) nP hT rfl rfl λa E=>qaf 22 false E rfl (by kernel_rfl) nP hT rfl rfl λa E=>qaf 23 false E rfl (by kernel_rfl) nP hT rfl rfl λa E=>qaf 24 false E rfl (by kernel_rfl) nP hT rfl rfl λa E=>qaf 25 false E rfl (by kernel_rfl) nP hT rfl rfl λa E=>qaf 26 false E rfl (by kernel_rfl) nP hT rfl rfl λa E=>qaf 27 false E rfl (by kernel_rfl) nP hT rfl rfl λa E=>qaf 28 false E rfl (by kernel_rfl) nP hT rfl rfl λa E=>qaf 29 false E rfl (by kernel_rfl) nP hT rfl rfl λa E=>qaf 30 false E rfl (by kernel_rfl) nP hT rfl rfl λa E=>qaf 31 false E rfl (by kernel_rfl) nP hT rfl rfl λa E=>qaf 32 false E rfl (by kernel_rfl) nP hT rfl rfl λa E=>qaf 33 false E rfl (by kernel_rfl) nP hT rfl rfl λa E=>?_
    refine qaf 34 false E rfl (by kernel_rfl) nP hT rfl rfl λa E=>kt 35 E rfl hT (qbX rfl rfl) λa E=>kt 36 E rfl hT (qad rfl) λa E=>qaf 37 false E rfl (by kernel_rfl) nP hT rfl rfl λa E=>qaf 38 false E rfl (by kernel_rfl) nP hT rfl rfl λa E=>qaf 39 false E rfl (by kernel_rfl) nP hT rfl rfl λa E=>qaf 40 false E rfl (by kernel_rfl) nP hT rfl rfl λa E=>qaf 41 false E rfl (by kernel_rfl) nP hT rfl rfl λa E=>qaf 42 false E rfl (by kernel_rfl) nP hT rfl rfl λa E=>kt 43 E rfl hT (qbX rfl rfl) λa E=>qbv (by kernel_rfl) ?_
    exact⟨rfl,⟨ok,E.keep [0,47]⟩⟩
 have hF:=qbz c39 hF
 refine bd hF λx40 e41 hF=>qbx (!((mget x0.names x40.Text).getD false)) (λc57=>?_) (λc57=>?_)
 ·as_aux_lemma=>
   have hF:=qbz c57 hF
   cases hF
   refine qbl [] (Cls u m0 ([(pb0,oc 101 [vs x0.s,c2,vi x0.next,c5,vi x0.at_,vi x0.e])]::M6::[])) (Cls u m0 ([(pb0,oc 101 [vs x0.s,c2,vi x0.next,c5,vi x0.at_,vi x0.e])]::M6::[])) (by kernel_rfl) ?_
   intro w hw
   replace ok:=qbA ok hw
   clear hw
   refine qaq (cl1 (cq le_m0 ok [0,1] rfl) (cq le_m0 ok [0,1] rfl)) λhT=>kt 0 E rfl hT (qad rfl) λa E=>qaU [1] (by kernel_rfl) rfl (qa1 ?_)
   ·refine wo rfl<|qae E qdx rfl (qaC N x0 l1 h3 r4 h7 r8 r9 e21 hG ok) rfl rfl ?_
    rintro _ w ⟨⟨rfl,ok⟩,r58⟩
    refine⟨_,rfl,λa E=>?_⟩
    refine wn<|qaq (cl1 (cq le_m0 ok [0,1] rfl) (cq le_m0 ok [0,1] rfl)) λhT=>kt 2 E rfl hT (qaz rfl rfl) λa E=>kt 3 E rfl hT (qad rfl) λa E=>?_
    have E:=E.upd 7 c23 rfl
    refine kt 4 E rfl hT (qad rfl) λa E=>kt 5 E rfl hT (qan rfl) λa E=>kt 6 E rfl hT (qaj qcM rfl) λa E=>kt 7 E rfl hT (qaw qdX rfl (Holds.cown 0 rfl rfl)) λa E=>kt 8 E rfl hT (qad rfl) λa E=>kt 9 E rfl hT (qan rfl) λa E=>kt 10 E rfl hT (qaj qcl rfl) λa E=>kt 11 E rfl hT (qaw qaN rfl (Holds.cown 0 rfl rfl)) λa E=>?_
    obtain⟨b59,o60,es61,hl62,rr63,at64,yy65⟩:=ia E 11 15 qdJ h3 e25
    obtain⟨rfl,r66,l67,r68,r69⟩:=rr63
    refine kt 12 E rfl hT (yy65 _ _) λa E=>kt 13 E rfl hT (qaj qdA rfl) λa E=>kt 14 E rfl hT (qaw qax rfl (Holds.cro (At.sub 1 1 at64))) λa E=>qaU [15] (by kernel_rfl) rfl (qa1 ?_)
    ·refine wo rfl<|lc E qiE rfl (qeb N x24.Text l67 e38 hG ok) λw ok a E=>wn<|qaq (cl1 (cq le_m0 ok [0,1] rfl) (cq le_m0 ok [0,1] rfl)) λhT=>kt 16 E rfl hT (qb1 rfl rfl) λa E=>kt 17 E rfl hT (qad rfl) λa E=>?_
     have E:=E.upd 21 c39 rfl
     refine kt 18 E rfl hT (qad rfl) λa E=>kt 19 E rfl hT (qan rfl) λa E=>kt 20 E rfl hT (qaj qkW rfl) λa E=>kt 21 E rfl hT (qaw qhn rfl (Holds.cown 0 rfl rfl)) λa E=>kt 22 E rfl hT (qad rfl) λa E=>kt 23 E rfl hT (qan rfl) λa E=>kt 24 E rfl hT (qaj qcM rfl) λa E=>kt 25 E rfl hT (qaw qdX rfl (Holds.cown 0 rfl rfl)) λa E=>kt 26 E rfl hT (qad rfl) λa E=>kt 27 E rfl hT (qan rfl) λa E=>kt 28 E rfl hT (qaj qcl rfl) λa E=>kt 29 E rfl hT (qaw qaN rfl (Holds.cown 0 rfl rfl)) λa E=>?_
     obtain⟨b70,o71,es72,hl73,rr74,at75,yy76⟩:=ia E 29 33 qdJ h3 e41
     obtain⟨rfl,r77,l78,r79,r80⟩:=rr74
     refine kt 30 E rfl hT (yy76 _ _) λa E=>kt 31 E rfl hT (qaj qdA rfl) λa E=>kt 32 E rfl hT (qaw qax rfl (Holds.cro (At.sub 1 1 at75))) λa E=>qaU [33] (by kernel_rfl) rfl (qa1 ?_)
     ·refine qci (o:=_) rfl ?_
      obtain⟨xv81,h82,yy83,yy84⟩:=qfC (P:=Tryz.prog) (mo:=.tmp 25) (ko:=.tmp 36) (zx:=(false:Bool)) ok 1 (qbe Tryz.underlying9) Tryz.underlying99 h7 rfl (qaD E rfl) (qaD E rfl) ⟨rfl,l78⟩ qhH qfD
      obtain rfl:=qiZ h82
      refine lv E ok (yy83 _) λa E=>wn<|qaq (cl1 (cq le_m0 ok [0,1] rfl) (cq le_m0 ok [0,1] rfl)) λhT=>kt 34 E rfl hT (qa9 rfl) λa E=>kt 35 E rfl hT (qb1 rfl rfl) λa E=>kt 36 E rfl hT (qad rfl) λa E=>?_
      have E:=E.upd 40 c57 rfl
      refine kt 37 E rfl hT (qad rfl) λa E=>kt 38 E rfl hT (qan rfl) λa E=>kt 39 E rfl hT (qaj qkW rfl) λa E=>kt 40 E rfl hT (qaw qhn rfl (Holds.cown 0 rfl rfl)) λa E=>kt 41 E rfl hT (qrh 1 rfl Tryz.underlying99 h7 rfl) λa E=>kt 42 E rfl hT (qbL rfl rfl) λa E=>kt 43 E rfl hT (qb1 rfl rfl) λa E=>qbv (by kernel_rfl) ?_
      exact⟨rfl,⟨ok,E.keep [0,47]⟩⟩
 have hF:=qby c57 hF
 cases hF
 refine qbl [] (Cls u m0 ([(pb0,oc 101 [vs x0.s,c2,vi x0.next,c5,vi x0.at_,vi x0.e])]::M6::[])) (Cls u m0 ([(pb0,oc 101 [vs x0.s,c2,vi x0.next,c5,vi x0.at_,vi x0.e])]::M6::[])) (by kernel_rfl) ?_
 intro w hw
 replace ok:=qbA ok hw
 clear hw
 refine qaq (cl1 (cq le_m0 ok [0,1] rfl) (cq le_m0 ok [0,1] rfl)) λhT=>kt 0 E rfl hT (qad rfl) λa E=>qaU [1] (by kernel_rfl) rfl (qa1 ?_)
 ·refine wo rfl<|qae E qdx rfl (qaC N x0 l1 h3 r4 h7 r8 r9 e21 hG ok) rfl rfl ?_
  rintro _ w ⟨⟨rfl,ok⟩,r85⟩
  refine⟨_,rfl,λa E=>?_⟩
  refine wn<|qaq (cl1 (cq le_m0 ok [0,1] rfl) (cq le_m0 ok [0,1] rfl)) λhT=>kt 2 E rfl hT (qaz rfl rfl) λa E=>kt 3 E rfl hT (qad rfl) λa E=>?_
  have E:=E.upd 7 c23 rfl
  refine kt 4 E rfl hT (qad rfl) λa E=>kt 5 E rfl hT (qan rfl) λa E=>kt 6 E rfl hT (qaj qcM rfl) λa E=>kt 7 E rfl hT (qaw qdX rfl (Holds.cown 0 rfl rfl)) λa E=>kt 8 E rfl hT (qad rfl) λa E=>kt 9 E rfl hT (qan rfl) λa E=>kt 10 E rfl hT (qaj qcl rfl) λa E=>kt 11 E rfl hT (qaw qaN rfl (Holds.cown 0 rfl rfl)) λa E=>?_
  obtain⟨b86,o87,es88,hl89,rr90,at91,yy92⟩:=ia E 11 15 qdJ h3 e25
  obtain⟨rfl,r93,l94,r95,r96⟩:=rr90
  refine kt 12 E rfl hT (yy92 _ _) λa E=>kt 13 E rfl hT (qaj qdA rfl) λa E=>kt 14 E rfl hT (qaw qax rfl (Holds.cro (At.sub 1 1 at91))) λa E=>qaU [15] (by kernel_rfl) rfl (qa1 ?_)
  ·refine wo rfl<|lc E qiE rfl (qeb N x24.Text l94 e38 hG ok) λw ok a E=>wn<|qaq (cl1 (cq le_m0 ok [0,1] rfl) (cq le_m0 ok [0,1] rfl)) λhT=>kt 16 E rfl hT (qb1 rfl rfl) λa E=>kt 17 E rfl hT (qad rfl) λa E=>?_
   have E:=E.upd 21 c39 rfl
   refine kt 18 E rfl hT (qad rfl) λa E=>kt 19 E rfl hT (qan rfl) λa E=>kt 20 E rfl hT (qaj qkW rfl) λa E=>kt 21 E rfl hT (qaw qhn rfl (Holds.cown 0 rfl rfl)) λa E=>kt 22 E rfl hT (qad rfl) λa E=>kt 23 E rfl hT (qan rfl) λa E=>kt 24 E rfl hT (qaj qcM rfl) λa E=>kt 25 E rfl hT (qaw qdX rfl (Holds.cown 0 rfl rfl)) λa E=>kt 26 E rfl hT (qad rfl) λa E=>kt 27 E rfl hT (qan rfl) λa E=>kt 28 E rfl hT (qaj qcl rfl) λa E=>kt 29 E rfl hT (qaw qaN rfl (Holds.cown 0 rfl rfl)) λa E=>?_
   obtain⟨b97,o98,es99,hl100,rr101,at102,yy103⟩:=ia E 29 33 qdJ h3 e41
   obtain⟨rfl,r104,l105,r106,r107⟩:=rr101
   refine kt 30 E rfl hT (yy103 _ _) λa E=>kt 31 E rfl hT (qaj qdA rfl) λa E=>kt 32 E rfl hT (qaw qax rfl (Holds.cro (At.sub 1 1 at102))) λa E=>qaU [33] (by kernel_rfl) rfl (qa1 ?_)
   ·refine qci (o:=_) rfl ?_
    obtain⟨xv108,h109,yy110,yy111⟩:=qfC (P:=Tryz.prog) (mo:=.tmp 25) (ko:=.tmp 36) (zx:=(false:Bool)) ok 1 (qbe Tryz.underlying9) Tryz.underlying99 h7 rfl (qaD E rfl) (qaD E rfl) ⟨rfl,l105⟩ qhH qfD
    obtain rfl:=qiZ h109
    refine lv E ok (yy110 _) λa E=>wn<|qaq (cl1 (cq le_m0 ok [0,1] rfl) (cq le_m0 ok [0,1] rfl)) λhT=>kt 34 E rfl hT (qa9 rfl) λa E=>kt 35 E rfl hT (qb1 rfl rfl) λa E=>kt 36 E rfl hT (qad rfl) λa E=>?_
    have E:=E.upd 40 c57 rfl
    refine qaf 37 false E rfl (by kernel_rfl) nP hT rfl rfl λa E=>qaf 38 false E rfl (by kernel_rfl) nP hT rfl rfl λa E=>qaf 39 false E rfl (by kernel_rfl) nP hT rfl rfl λa E=>qaf 40 false E rfl (by kernel_rfl) nP hT rfl rfl λa E=>qaf 41 false E rfl (by kernel_rfl) nP hT rfl rfl λa E=>qaf 42 false E rfl (by kernel_rfl) nP hT rfl rfl λa E=>kt 43 E rfl hT (qbX rfl rfl) λa E=>qbv (by kernel_rfl) ?_
    exact⟨rfl,⟨ok,E.keep [0,47]⟩⟩
def qh6(u:World)(m0:Mem)(S:Segs)(pb0:Nat)(pb1:Nat)(r:Bool)(a:Act)(w:World):Prop:=
 Ok u m0 ([(pb0,oc 75 [(Value.map (some pb1))])]::[(pb1,Obj.map qbK.toArray 7)]::S) w∧a.defers=[]∧RVs Tryz.prog a w [.t 3 (.bool r)]
theorem qh5(N:Nat)(s_0:List UInt8)(ls_0:s_0.length≤LIMS){pb0:Nat}{pb1:Nat}{r:Bool}(hF:qe5 N s_0=some r)(hG:Glob u)(ok:Ok u m0 ([(pb0,oc 75 [(Value.map (some pb1))])]::[(pb1,Obj.map qbK.toArray 7)]::S) w) :
  Calls Tryz.prog 90 [vs s_0,vp pb0].toArray w λe w'=>(e=.returned (.bool r)∧Ok u m0 ([(pb0,oc 75 [(Value.map (some pb1))])]::[(pb1,Obj.map qbK.toArray 7)]::S) w'):=by
 unfold qe5 at hF
 refine en (qh6 u m0 S pb0 pb1) r Tryz.func90 rfl rfl rfl (λ_ _ h=>ra h rfl) λfin a E=>sg<|aw E rfl λa E=>sg<|ld E ok qhR 0 rfl rfl rfl λa E=>mv E rfl λa E=>?_
 obtain⟨xv1,h2,yy3,yy4⟩:=qfC (P:=Tryz.prog) (mo:=.tmp 4) (ko:=.tmp 5) (zx:=(0:Int)) ok 1 (qbe Tryz.underlying9) Tryz.underlying75 (qkz (m:=m0) (b:=pb1)) rfl (qaD E rfl) (qaD E rfl) ⟨rfl,ls_0⟩ qjX (qdY (ir 0))
 obtain⟨rfl,r5⟩:=qly h2
 refine lv E ok (yy3 _) λa E=>lw E (qbg rfl rfl) λa E=>aw E rfl λa E=>wp_ret ?_
 exact fin hF ⟨ok,E.d,rz E rfl⟩
def qiN(u:World)(m0:Mem)(S:Segs)(pb0:Nat)(pb1:Nat)(pb2:Nat)(x0:Parser)(c2:Value)(c5:Value)(M6:List (Nat×Obj))(r:(List UInt8)×Parser)(a:Act)(w:World):Prop:=
 ∃ m1 c11 c14 M15,m0.le m1∧Ok u m1 ([(pb0,oc 101 [vs r.2.s,c11,vi r.2.next,c14,vi r.2.at_,vi r.2.e])]::M15::[(pb1,oc 75 [(Value.map (some pb2))])]::[(pb2,Obj.map qbK.toArray 7)]::S) w∧a.defers=[]∧RVs Tryz.prog a w [.t 4 (.string (bs r.1))]∧r.1.length≤LIMS∧r.2.s.length≤LIMS∧(pL 4 qa4) m1 [c11] r.2.l∧InR .i64 r.2.next∧OMap kS (oneV pB) m1 c14 r.2.names M15∧InR .i64 r.2.at_∧InR .i64 r.2.e
theorem qiR(N:Nat){pb0:Nat}{c2:Value}{c5:Value}{M6:List (Nat×Obj)}(x0:Parser)(l1:x0.s.length≤LIMS)(h3:(pL 4 qa4) m0 [c2] x0.l)(r4:InR .i64 x0.next)(h7:OMap kS (oneV pB) m0 c5 x0.names M6)(r8:InR .i64 x0.at_)(r9:InR .i64 x0.e){pb1:Nat}{pb2:Nat}{r:(List UInt8)×Parser}(hF:qdS N x0=some r)(hG:Glob u)(ok:Ok u m0 ([(pb0,oc 101 [vs x0.s,c2,vi x0.next,c5,vi x0.at_,vi x0.e])]::M6::[(pb1,oc 75 [(Value.map (some pb2))])]::[(pb2,Obj.map qbK.toArray 7)]::S) w) :
  Calls Tryz.prog 91 [vp pb0,Value.func (.func 90) #[] #[.pointer (some ⟨pb1,0,none⟩)]].toArray w λe w'=>∃ m1 c11 c14 M15,e=.returned (.string (bs r.1))∧m0.le m1∧Ok u m1 ([(pb0,oc 101 [vs r.2.s,c11,vi r.2.next,c14,vi r.2.at_,vi r.2.e])]::M15::[(pb1,oc 75 [(Value.map (some pb2))])]::[(pb2,Obj.map qbK.toArray 7)]::S) w'∧r.1.length≤LIMS∧r.2.s.length≤LIMS∧(pL 4 qa4) m1 [c11] r.2.l∧InR .i64 r.2.next∧OMap kS (oneV pB) m1 c14 r.2.names M15∧InR .i64 r.2.at_∧InR .i64 r.2.e:=by
 have le_m0:=Mem.le.refl m0
 unfold qdS at hF
 refine en (qiN u m0 S pb0 pb1 pb2 x0 c2 c5 M6) r Tryz.func91 rfl rfl rfl (by rintro a w ⟨m1,c11,c14,M15,hle,ok,hd,hrv,h0,h1,h2,h3,h4,h5,h6⟩;exact qbf [.t 4 (.string (bs r.1))] hd rfl hrv ⟨m1,c11,c14,M15,rfl,hle,ok,h0,h1,h2,h3,h4,h5,h6⟩) λfin a E=>sg<|aw E rfl λa E=>wp_seq<|wp_seq<|bd hF λo19 hJ hF=>qaO (Q':=λe a w=>e=.normal∧Ok u m0 ([(pb0,oc 101 [vs x0.s,c2,vi x0.next,c5,vi x0.at_,vi x0.e])]::M6::[(pb1,oc 75 [(Value.map (some pb2))])]::[(pb2,Obj.map qbK.toArray 7)]::S) w∧Env 28 a [(0,vp pb0),(23,vb o19)]) ?_ ?_
 rotate_left
 ·intro e a w hO
  obtain⟨rfl,ok,E⟩:=hO
  refine qaa<|cg E rfl hF (λc52 hF=>?_) λc52 hF=>?_
  ·refine wp_skip<|qaa<|sg<|mv E rfl λa E=>bd hF λr65 e66 hF=>qae E qdq rfl (qaB N 9 (ir 9) x0 l1 h3 r4 h7 r8 r9 e66 hG ok) rfl rfl ?_
   rintro _ w ⟨m67,c70,c73,M74,rfl,hle,ok,l68,l69,h71,r72,h75,r76,r77⟩
   have le_m0:=le_m0.trans hle
   have h3:=(mL qac).up hle h3
   refine⟨_,rfl,λa E=>?_⟩
   refine aw E rfl λa E=>wp_ret ?_
   exact fin hF ⟨m67,c70,c73,M74,le_m0,ok,E.d,rz E rfl,l68,l69,h71,r72,h75,r76,r77⟩
  refine sg<|mv E rfl λa E=>bd hF λr53 e54 hF=>qae E qfN rfl (qbn N 3 (ir 3) x0 l1 h3 r4 h7 r8 r9 e54 hG ok) rfl rfl ?_
  rintro _ w ⟨m55,c57,c60,M61,rfl,hle,ok,l56,h58,r59,h62,r63,r64⟩
  have le_m0:=le_m0.trans hle
  have h3:=(mL qac).up hle h3
  refine⟨_,rfl,λa E=>?_⟩
  refine wn<|sg<|aw E rfl λa E=>wp_ret<|qak ?_
  exact fin hF ⟨m55,c57,c60,M61,le_m0,ok,E.d,rz E rfl,(show([]:List UInt8).length≤LIMS by decide),l56,h58,r59,h62,r63,r64⟩
 have hF:=hJ
 refine bd hF λr20 e21 hF=>qbx (r20 != 9) (λc23=>?_) (λc23=>?_)
 ·have hF:=qbz c23 hF
  cases hF
  refine qbl [] (Cls u m0 ([(pb0,oc 101 [vs x0.s,c2,vi x0.next,c5,vi x0.at_,vi x0.e])]::M6::[(pb1,oc 75 [(Value.map (some pb2))])]::[(pb2,Obj.map qbK.toArray 7)]::[])) (Cls u m0 ([(pb0,oc 101 [vs x0.s,c2,vi x0.next,c5,vi x0.at_,vi x0.e])]::M6::[(pb1,oc 75 [(Value.map (some pb2))])]::[(pb2,Obj.map qbK.toArray 7)]::[])) (by kernel_rfl) ?_
  intro w hw
  replace ok:=qbA ok hw
  clear hw
  refine qaq (cl1 (cq le_m0 ok [0,1,2,3] rfl) (cq le_m0 ok [0,1,2,3] rfl)) λhT=>kt 0 E rfl hT (qad rfl) λa E=>qaU [1] (by kernel_rfl) rfl (qa1 ?_)
  ·refine wo rfl<|qae E qdx rfl (qaC N x0 l1 h3 r4 h7 r8 r9 e21 hG ok) rfl rfl ?_
   rintro _ w ⟨⟨rfl,ok⟩,r24⟩
   refine⟨_,rfl,λa E=>?_⟩
   refine wn<|qaq (cl1 (cq le_m0 ok [0,1,2,3] rfl) (cq le_m0 ok [0,1,2,3] rfl)) λhT=>kt 2 E rfl hT (qbg rfl rfl) λa E=>kt 3 E rfl hT (qad rfl) λa E=>?_
   have E:=E.upd 8 c23 rfl
   refine qaf 4 false E rfl (by kernel_rfl) nP hT rfl rfl λa E=>qaf 5 false E rfl (by kernel_rfl) nP hT rfl rfl λa E=>qaf 6 false E rfl (by kernel_rfl) nP hT rfl rfl λa E=>qaf 7 false E rfl (by kernel_rfl) nP hT rfl rfl λa E=>qaf 8 false E rfl (by kernel_rfl) nP hT rfl rfl λa E=>qaf 9 false E rfl (by kernel_rfl) nP hT rfl rfl λa E=>qaf 10 false E rfl (by kernel_rfl) nP hT rfl rfl λa E=>qaf 11 false E rfl (by kernel_rfl) nP hT rfl rfl λa E=>qaf 12 false E rfl (by kernel_rfl) nP hT rfl rfl λa E=>qaf 13 false E rfl (by kernel_rfl) nP hT rfl rfl λa E=>qaf 14 false E rfl (by kernel_rfl) nP hT rfl rfl λa E=>qaf 15 false E rfl (by kernel_rfl) nP hT rfl rfl λa E=>qaf 16 false E rfl (by kernel_rfl) nP hT rfl rfl λa E=>qaf 17 false E rfl (by kernel_rfl) nP hT rfl rfl λa E=>kt 18 E rfl hT (qb1 rfl rfl) λa E=>qbv (by kernel_rfl) ?_
   exact⟨rfl,⟨ok,E.keep [0,23]⟩⟩
 have hF:=qby c23 hF
 obtain⟨x25,e26,hF⟩:=bnd hF
 obtain⟨r38,e39,hF⟩:=bnd hF
 obtain rfl:=sj hF
 refine qbl [] (Cls u m0 ([(pb0,oc 101 [vs x0.s,c2,vi x0.next,c5,vi x0.at_,vi x0.e])]::M6::[(pb1,oc 75 [(Value.map (some pb2))])]::[(pb2,Obj.map qbK.toArray 7)]::[])) (Cls u m0 ([(pb0,oc 101 [vs x0.s,c2,vi x0.next,c5,vi x0.at_,vi x0.e])]::M6::[(pb1,oc 75 [(Value.map (some pb2))])]::[(pb2,Obj.map qbK.toArray 7)]::[])) (by kernel_rfl) ?_
 intro w hw
 replace ok:=qbA ok hw
 clear hw
 refine qaq (cl1 (cq le_m0 ok [0,1,2,3] rfl) (cq le_m0 ok [0,1,2,3] rfl)) λhT=>kt 0 E rfl hT (qad rfl) λa E=>qaU [1] (by kernel_rfl) rfl (qa1 ?_)
 ·refine wo rfl<|qae E qdx rfl (qaC N x0 l1 h3 r4 h7 r8 r9 e21 hG ok) rfl rfl ?_
  rintro _ w ⟨⟨rfl,ok⟩,r40⟩
  refine⟨_,rfl,λa E=>?_⟩
  refine wn<|qaq (cl1 (cq le_m0 ok [0,1,2,3] rfl) (cq le_m0 ok [0,1,2,3] rfl)) λhT=>kt 2 E rfl hT (qbg rfl rfl) λa E=>kt 3 E rfl hT (qad rfl) λa E=>?_
  have E:=E.upd 8 c23 rfl
  refine kt 4 E rfl hT (qad rfl) λa E=>kt 5 E rfl hT (qad rfl) λa E=>kt 6 E rfl hT (qan rfl) λa E=>kt 7 E rfl hT (qaj qcM rfl) λa E=>kt 8 E rfl hT (qaw qdX rfl (Holds.cown 0 rfl rfl)) λa E=>kt 9 E rfl hT (qad rfl) λa E=>kt 10 E rfl hT (qan rfl) λa E=>kt 11 E rfl hT (qaj qcl rfl) λa E=>kt 12 E rfl hT (qaw qaN rfl (Holds.cown 0 rfl rfl)) λa E=>?_
  obtain⟨b41,o42,es43,hl44,rr45,at46,yy47⟩:=ia E 13 17 qdJ h3 e26
  obtain⟨rfl,r48,l49,r50,r51⟩:=rr45
  refine kt 13 E rfl hT (yy47 _ _) λa E=>kt 14 E rfl hT (qaj qdA rfl) λa E=>kt 15 E rfl hT (qaw qax rfl (Holds.cro (At.sub 1 1 at46))) λa E=>qaU [16] (by kernel_rfl) rfl (qa1 ?_)
  ·refine qci (o:=_) rfl ?_
   replace ok:Ok u m0 ([(pb1,oc 75 [(Value.map (some pb2))])]::[(pb2,Obj.map qbK.toArray 7)]::[(pb0,oc 101 [vs x0.s,c2,vi x0.next,c5,vi x0.at_,vi x0.e])]::M6::S) w:=(ok.pk 4 [2,3,0,1] rfl (by decide))
   refine qqg E rfl qvy rfl (qh5 N x25.Text l49 e39 hG ok) rfl rfl ?_
   rintro _ w ⟨rfl,ok⟩
   refine⟨_,rfl,λa E=>?_⟩
   refine wn<|qaq (cl1 (cq le_m0 ok [2,3,0,1] rfl) (cq le_m0 ok [2,3,0,1] rfl)) λhT=>kt 17 E rfl hT (qa9 rfl) λa E=>kt 18 E rfl hT (qbX rfl rfl) λa E=>qbv (by kernel_rfl) ?_
   exact⟨rfl,⟨(ok.pk 4 [2,3,0,1] rfl (by decide)),E.keep [0,23]⟩⟩
def qif(u:World)(m0:Mem)(S:Segs)(r:Bool)(a:Act)(w:World):Prop:=
 Ok u m0 S w∧a.defers=[]∧RVs Tryz.prog a w [.t 2 (.bool r)]
theorem qie(N:Nat)(s_0:List UInt8)(ls_0:s_0.length≤LIMS){r:Bool}(hF:qfa N s_0=some r)(hG:Glob u)(ok:Ok u m0 S w) :
  Calls Tryz.prog 92 [vs s_0].toArray w λe w'=>(e=.returned (.bool r)∧Ok u m0 S w'):=by
 unfold qfa at hF
 refine en (qif u m0 S) r Tryz.func92 rfl rfl rfl (λ_ _ h=>ra h rfl) λfin a E=>sg<|aw E rfl λa E=>sg<|mv E rfl λa E=>lw E (qb6 rfl rfl) λa E=>mv E rfl λa E=>bu E 5 hF (λc1 hF E=>?_) λc1 hF E=>?_
 ·refine lsq E λa E=>pt E rfl rfl λa E=>aw E rfl λa E=>wp_ret ?_
  exact fin hF ⟨ok,E.d,rz E rfl⟩
 refine mv E rfl λa E=>lw E (qb6 rfl rfl) λa E=>pf E rfl rfl λa E=>aw E rfl λa E=>wp_ret ?_
 exact fin hF ⟨ok,E.d,rz E rfl⟩
def qi2(u:World)(m0:Mem)(S:Segs)(pb0:Nat)(x0:Parser)(c2:Value)(c5:Value)(M6:List (Nat×Obj))(r:(List UInt8)×Parser)(a:Act)(w:World):Prop:=
 ∃ m1 c11 c14 M15,m0.le m1∧Ok u m1 ([(pb0,oc 101 [vs r.2.s,c11,vi r.2.next,c14,vi r.2.at_,vi r.2.e])]::M15::S) w∧a.defers=[]∧RVs Tryz.prog a w [.t 4 (.string (bs r.1))]∧r.1.length≤LIMS∧r.2.s.length≤LIMS∧(pL 4 qa4) m1 [c11] r.2.l∧InR .i64 r.2.next∧OMap kS (oneV pB) m1 c14 r.2.names M15∧InR .i64 r.2.at_∧InR .i64 r.2.e
theorem qiP(N:Nat){pb0:Nat}{c2:Value}{c5:Value}{M6:List (Nat×Obj)}(x0:Parser)(l1:x0.s.length≤LIMS)(h3:(pL 4 qa4) m0 [c2] x0.l)(r4:InR .i64 x0.next)(h7:OMap kS (oneV pB) m0 c5 x0.names M6)(r8:InR .i64 x0.at_)(r9:InR .i64 x0.e){r:(List UInt8)×Parser}(hF:qdR N x0=some r)(hG:Glob u)(ok:Ok u m0 ([(pb0,oc 101 [vs x0.s,c2,vi x0.next,c5,vi x0.at_,vi x0.e])]::M6::S) w) :
  Calls Tryz.prog 91 [vp pb0,Value.func (.func 92) #[] #[]].toArray w λe w'=>∃ m1 c11 c14 M15,e=.returned (.string (bs r.1))∧m0.le m1∧Ok u m1 ([(pb0,oc 101 [vs r.2.s,c11,vi r.2.next,c14,vi r.2.at_,vi r.2.e])]::M15::S) w'∧r.1.length≤LIMS∧r.2.s.length≤LIMS∧(pL 4 qa4) m1 [c11] r.2.l∧InR .i64 r.2.next∧OMap kS (oneV pB) m1 c14 r.2.names M15∧InR .i64 r.2.at_∧InR .i64 r.2.e:=by
 have le_m0:=Mem.le.refl m0
 unfold qdR at hF
 refine en (qi2 u m0 S pb0 x0 c2 c5 M6) r Tryz.func91 rfl rfl rfl (by rintro a w ⟨m1,c11,c14,M15,hle,ok,hd,hrv,h0,h1,h2,h3,h4,h5,h6⟩;exact qbf [.t 4 (.string (bs r.1))] hd rfl hrv ⟨m1,c11,c14,M15,rfl,hle,ok,h0,h1,h2,h3,h4,h5,h6⟩) λfin a E=>sg<|aw E rfl λa E=>wp_seq<|wp_seq<|bd hF λo19 hJ hF=>qaO (Q':=λe a w=>e=.normal∧Ok u m0 ([(pb0,oc 101 [vs x0.s,c2,vi x0.next,c5,vi x0.at_,vi x0.e])]::M6::S) w∧Env 28 a [(0,vp pb0),(23,vb o19)]) ?_ ?_
 rotate_left
 ·intro e a w hO
  obtain⟨rfl,ok,E⟩:=hO
  refine qaa<|cg E rfl hF (λc52 hF=>?_) λc52 hF=>?_
  ·refine wp_skip<|qaa<|sg<|mv E rfl λa E=>bd hF λr65 e66 hF=>qae E qdq rfl (qaB N 9 (ir 9) x0 l1 h3 r4 h7 r8 r9 e66 hG ok) rfl rfl ?_
   rintro _ w ⟨m67,c70,c73,M74,rfl,hle,ok,l68,l69,h71,r72,h75,r76,r77⟩
   have le_m0:=le_m0.trans hle
   have h3:=(mL qac).up hle h3
   refine⟨_,rfl,λa E=>?_⟩
   refine aw E rfl λa E=>wp_ret ?_
   exact fin hF ⟨m67,c70,c73,M74,le_m0,ok,E.d,rz E rfl,l68,l69,h71,r72,h75,r76,r77⟩
  refine sg<|mv E rfl λa E=>bd hF λr53 e54 hF=>qae E qfN rfl (qbn N 3 (ir 3) x0 l1 h3 r4 h7 r8 r9 e54 hG ok) rfl rfl ?_
  rintro _ w ⟨m55,c57,c60,M61,rfl,hle,ok,l56,h58,r59,h62,r63,r64⟩
  have le_m0:=le_m0.trans hle
  have h3:=(mL qac).up hle h3
  refine⟨_,rfl,λa E=>?_⟩
  refine wn<|sg<|aw E rfl λa E=>wp_ret<|qak ?_
  exact fin hF ⟨m55,c57,c60,M61,le_m0,ok,E.d,rz E rfl,(show([]:List UInt8).length≤LIMS by decide),l56,h58,r59,h62,r63,r64⟩
 have hF:=hJ
 refine bd hF λr20 e21 hF=>qbx (r20 != 9) (λc23=>?_) (λc23=>?_)
 ·have hF:=qbz c23 hF
  cases hF
  refine qbl [] (Cls u m0 ([(pb0,oc 101 [vs x0.s,c2,vi x0.next,c5,vi x0.at_,vi x0.e])]::M6::[])) (Cls u m0 ([(pb0,oc 101 [vs x0.s,c2,vi x0.next,c5,vi x0.at_,vi x0.e])]::M6::[])) (by kernel_rfl) ?_
  intro w hw
  replace ok:=qbA ok hw
  clear hw
  refine qaq (cl1 (cq le_m0 ok [0,1] rfl) (cq le_m0 ok [0,1] rfl)) λhT=>kt 0 E rfl hT (qad rfl) λa E=>qaU [1] (by kernel_rfl) rfl (qa1 ?_)
  ·refine wo rfl<|qae E qdx rfl (qaC N x0 l1 h3 r4 h7 r8 r9 e21 hG ok) rfl rfl ?_
   rintro _ w ⟨⟨rfl,ok⟩,r24⟩
   refine⟨_,rfl,λa E=>?_⟩
   refine wn<|qaq (cl1 (cq le_m0 ok [0,1] rfl) (cq le_m0 ok [0,1] rfl)) λhT=>kt 2 E rfl hT (qbg rfl rfl) λa E=>kt 3 E rfl hT (qad rfl) λa E=>?_
   have E:=E.upd 8 c23 rfl
   refine qaf 4 false E rfl (by kernel_rfl) nP hT rfl rfl λa E=>qaf 5 false E rfl (by kernel_rfl) nP hT rfl rfl λa E=>qaf 6 false E rfl (by kernel_rfl) nP hT rfl rfl λa E=>qaf 7 false E rfl (by kernel_rfl) nP hT rfl rfl λa E=>qaf 8 false E rfl (by kernel_rfl) nP hT rfl rfl λa E=>qaf 9 false E rfl (by kernel_rfl) nP hT rfl rfl λa E=>qaf 10 false E rfl (by kernel_rfl) nP hT rfl rfl λa E=>qaf 11 false E rfl (by kernel_rfl) nP hT rfl rfl λa E=>qaf 12 false E rfl (by kernel_rfl) nP hT rfl rfl λa E=>qaf 13 false E rfl (by kernel_rfl) nP hT rfl rfl λa E=>qaf 14 false E rfl (by kernel_rfl) nP hT rfl rfl λa E=>qaf 15 false E rfl (by kernel_rfl) nP hT rfl rfl λa E=>qaf 16 false E rfl (by kernel_rfl) nP hT rfl rfl λa E=>qaf 17 false E rfl (by kernel_rfl) nP hT rfl rfl λa E=>kt 18 E rfl hT (qb1 rfl rfl) λa E=>qbv (by kernel_rfl) ?_
   exact⟨rfl,⟨ok,E.keep [0,23]⟩⟩
 have hF:=qby c23 hF
 obtain⟨x25,e26,hF⟩:=bnd hF
 obtain⟨r38,e39,hF⟩:=bnd hF
 obtain rfl:=sj hF
 refine qbl [] (Cls u m0 ([(pb0,oc 101 [vs x0.s,c2,vi x0.next,c5,vi x0.at_,vi x0.e])]::M6::[])) (Cls u m0 ([(pb0,oc 101 [vs x0.s,c2,vi x0.next,c5,vi x0.at_,vi x0.e])]::M6::[])) (by kernel_rfl) ?_
 intro w hw
 replace ok:=qbA ok hw
 clear hw
 refine qaq (cl1 (cq le_m0 ok [0,1] rfl) (cq le_m0 ok [0,1] rfl)) λhT=>kt 0 E rfl hT (qad rfl) λa E=>qaU [1] (by kernel_rfl) rfl (qa1 ?_)
 ·refine wo rfl<|qae E qdx rfl (qaC N x0 l1 h3 r4 h7 r8 r9 e21 hG ok) rfl rfl ?_
  rintro _ w ⟨⟨rfl,ok⟩,r40⟩
  refine⟨_,rfl,λa E=>?_⟩
  refine wn<|qaq (cl1 (cq le_m0 ok [0,1] rfl) (cq le_m0 ok [0,1] rfl)) λhT=>kt 2 E rfl hT (qbg rfl rfl) λa E=>kt 3 E rfl hT (qad rfl) λa E=>?_
  have E:=E.upd 8 c23 rfl
  refine kt 4 E rfl hT (qad rfl) λa E=>kt 5 E rfl hT (qad rfl) λa E=>kt 6 E rfl hT (qan rfl) λa E=>kt 7 E rfl hT (qaj qcM rfl) λa E=>kt 8 E rfl hT (qaw qdX rfl (Holds.cown 0 rfl rfl)) λa E=>kt 9 E rfl hT (qad rfl) λa E=>kt 10 E rfl hT (qan rfl) λa E=>kt 11 E rfl hT (qaj qcl rfl) λa E=>kt 12 E rfl hT (qaw qaN rfl (Holds.cown 0 rfl rfl)) λa E=>?_
  obtain⟨b41,o42,es43,hl44,rr45,at46,yy47⟩:=ia E 13 17 qdJ h3 e26
  obtain⟨rfl,r48,l49,r50,r51⟩:=rr45
  refine kt 13 E rfl hT (yy47 _ _) λa E=>kt 14 E rfl hT (qaj qdA rfl) λa E=>kt 15 E rfl hT (qaw qax rfl (Holds.cro (At.sub 1 1 at46))) λa E=>qaU [16] (by kernel_rfl) rfl (qa1 ?_)
  ·refine wo rfl<|qhD E rfl qvV rfl (qie N x25.Text l49 e39 hG ok) rfl rfl ?_
   rintro _ w ⟨rfl,ok⟩
   refine⟨_,rfl,λa E=>?_⟩
   refine wn<|qaq (cl1 (cq le_m0 ok [0,1] rfl) (cq le_m0 ok [0,1] rfl)) λhT=>kt 17 E rfl hT (qa9 rfl) λa E=>kt 18 E rfl hT (qbX rfl rfl) λa E=>qbv (by kernel_rfl) ?_
   exact⟨rfl,⟨ok,E.keep [0,23]⟩⟩
def qiV(u:World)(m0:Mem)(S:Segs)(pb0:Nat)(x0:Parser)(c2:Value)(c5:Value)(M6:List (Nat×Obj))(r:(List UInt8)×Parser)(a:Act)(w:World):Prop:=
 ∃ m1 c11 c14 M15,m0.le m1∧Ok u m1 ([(pb0,oc 101 [vs r.2.s,c11,vi r.2.next,c14,vi r.2.at_,vi r.2.e])]::M15::S) w∧a.defers=[]∧RVs Tryz.prog a w [.t 4 (.string (bs r.1))]∧r.1.length≤LIMS∧r.2.s.length≤LIMS∧(pL 4 qa4) m1 [c11] r.2.l∧InR .i64 r.2.next∧OMap kS (oneV pB) m1 c14 r.2.names M15∧InR .i64 r.2.at_∧InR .i64 r.2.e
theorem qi4(N:Nat){pb0:Nat}{c2:Value}{c5:Value}{M6:List (Nat×Obj)}(x0:Parser)(l1:x0.s.length≤LIMS)(h3:(pL 4 qa4) m0 [c2] x0.l)(r4:InR .i64 x0.next)(h7:OMap kS (oneV pB) m0 c5 x0.names M6)(r8:InR .i64 x0.at_)(r9:InR .i64 x0.e){r:(List UInt8)×Parser}(hF:qdV N x0=some r)(hG:Glob u)(ok:Ok u m0 ([(pb0,oc 101 [vs x0.s,c2,vi x0.next,c5,vi x0.at_,vi x0.e])]::M6::S) w) :
  Calls Tryz.prog 91 [vp pb0,Value.func (.func 94) #[] #[]].toArray w λe w'=>∃ m1 c11 c14 M15,e=.returned (.string (bs r.1))∧m0.le m1∧Ok u m1 ([(pb0,oc 101 [vs r.2.s,c11,vi r.2.next,c14,vi r.2.at_,vi r.2.e])]::M15::S) w'∧r.1.length≤LIMS∧r.2.s.length≤LIMS∧(pL 4 qa4) m1 [c11] r.2.l∧InR .i64 r.2.next∧OMap kS (oneV pB) m1 c14 r.2.names M15∧InR .i64 r.2.at_∧InR .i64 r.2.e:=by
 have le_m0:=Mem.le.refl m0
 unfold qdV at hF
 refine en (qiV u m0 S pb0 x0 c2 c5 M6) r Tryz.func91 rfl rfl rfl (by rintro a w ⟨m1,c11,c14,M15,hle,ok,hd,hrv,h0,h1,h2,h3,h4,h5,h6⟩;exact qbf [.t 4 (.string (bs r.1))] hd rfl hrv ⟨m1,c11,c14,M15,rfl,hle,ok,h0,h1,h2,h3,h4,h5,h6⟩) λfin a E=>sg<|aw E rfl λa E=>wp_seq<|wp_seq<|bd hF λo19 hJ hF=>qaO (Q':=λe a w=>e=.normal∧Ok u m0 ([(pb0,oc 101 [vs x0.s,c2,vi x0.next,c5,vi x0.at_,vi x0.e])]::M6::S) w∧Env 28 a [(0,vp pb0),(23,vb o19)]) ?_ ?_
 rotate_left
 ·intro e a w hO
  obtain⟨rfl,ok,E⟩:=hO
  refine qaa<|cg E rfl hF (λc52 hF=>?_) λc52 hF=>?_
  ·refine wp_skip<|qaa<|sg<|mv E rfl λa E=>bd hF λr65 e66 hF=>qae E qdq rfl (qaB N 9 (ir 9) x0 l1 h3 r4 h7 r8 r9 e66 hG ok) rfl rfl ?_
   rintro _ w ⟨m67,c70,c73,M74,rfl,hle,ok,l68,l69,h71,r72,h75,r76,r77⟩
   have le_m0:=le_m0.trans hle
   have h3:=(mL qac).up hle h3
   refine⟨_,rfl,λa E=>?_⟩
   refine aw E rfl λa E=>wp_ret ?_
   exact fin hF ⟨m67,c70,c73,M74,le_m0,ok,E.d,rz E rfl,l68,l69,h71,r72,h75,r76,r77⟩
  refine sg<|mv E rfl λa E=>bd hF λr53 e54 hF=>qae E qfN rfl (qbn N 3 (ir 3) x0 l1 h3 r4 h7 r8 r9 e54 hG ok) rfl rfl ?_
  rintro _ w ⟨m55,c57,c60,M61,rfl,hle,ok,l56,h58,r59,h62,r63,r64⟩
  have le_m0:=le_m0.trans hle
  have h3:=(mL qac).up hle h3
  refine⟨_,rfl,λa E=>?_⟩
  refine wn<|sg<|aw E rfl λa E=>wp_ret<|qak ?_
  exact fin hF ⟨m55,c57,c60,M61,le_m0,ok,E.d,rz E rfl,(show([]:List UInt8).length≤LIMS by decide),l56,h58,r59,h62,r63,r64⟩
 have hF:=hJ
 refine bd hF λr20 e21 hF=>qbx (r20 != 9) (λc23=>?_) (λc23=>?_)
 ·have hF:=qbz c23 hF
  cases hF
  refine qbl [] (Cls u m0 ([(pb0,oc 101 [vs x0.s,c2,vi x0.next,c5,vi x0.at_,vi x0.e])]::M6::[])) (Cls u m0 ([(pb0,oc 101 [vs x0.s,c2,vi x0.next,c5,vi x0.at_,vi x0.e])]::M6::[])) (by kernel_rfl) ?_
  intro w hw
  replace ok:=qbA ok hw
  clear hw
  refine qaq (cl1 (cq le_m0 ok [0,1] rfl) (cq le_m0 ok [0,1] rfl)) λhT=>kt 0 E rfl hT (qad rfl) λa E=>qaU [1] (by kernel_rfl) rfl (qa1 ?_)
  ·refine wo rfl<|qae E qdx rfl (qaC N x0 l1 h3 r4 h7 r8 r9 e21 hG ok) rfl rfl ?_
   rintro _ w ⟨⟨rfl,ok⟩,r24⟩
   refine⟨_,rfl,λa E=>?_⟩
   refine wn<|qaq (cl1 (cq le_m0 ok [0,1] rfl) (cq le_m0 ok [0,1] rfl)) λhT=>kt 2 E rfl hT (qbg rfl rfl) λa E=>kt 3 E rfl hT (qad rfl) λa E=>?_
   have E:=E.upd 8 c23 rfl
   refine qaf 4 false E rfl (by kernel_rfl) nP hT rfl rfl λa E=>qaf 5 false E rfl (by kernel_rfl) nP hT rfl rfl λa E=>qaf 6 false E rfl (by kernel_rfl) nP hT rfl rfl λa E=>qaf 7 false E rfl (by kernel_rfl) nP hT rfl rfl λa E=>qaf 8 false E rfl (by kernel_rfl) nP hT rfl rfl λa E=>qaf 9 false E rfl (by kernel_rfl) nP hT rfl rfl λa E=>qaf 10 false E rfl (by kernel_rfl) nP hT rfl rfl λa E=>qaf 11 false E rfl (by kernel_rfl) nP hT rfl rfl λa E=>qaf 12 false E rfl (by kernel_rfl) nP hT rfl rfl λa E=>qaf 13 false E rfl (by kernel_rfl) nP hT rfl rfl λa E=>qaf 14 false E rfl (by kernel_rfl) nP hT rfl rfl λa E=>qaf 15 false E rfl (by kernel_rfl) nP hT rfl rfl λa E=>qaf 16 false E rfl (by kernel_rfl) nP hT rfl rfl λa E=>qaf 17 false E rfl (by kernel_rfl) nP hT rfl rfl λa E=>kt 18 E rfl hT (qb1 rfl rfl) λa E=>qbv (by kernel_rfl) ?_
   exact⟨rfl,⟨ok,E.keep [0,23]⟩⟩
 have hF:=qby c23 hF
 obtain⟨x25,e26,hF⟩:=bnd hF
 obtain⟨r38,e39,hF⟩:=bnd hF
 obtain rfl:=sj hF
 refine qbl [] (Cls u m0 ([(pb0,oc 101 [vs x0.s,c2,vi x0.next,c5,vi x0.at_,vi x0.e])]::M6::[])) (Cls u m0 ([(pb0,oc 101 [vs x0.s,c2,vi x0.next,c5,vi x0.at_,vi x0.e])]::M6::[])) (by kernel_rfl) ?_
 intro w hw
 replace ok:=qbA ok hw
 clear hw
 refine qaq (cl1 (cq le_m0 ok [0,1] rfl) (cq le_m0 ok [0,1] rfl)) λhT=>kt 0 E rfl hT (qad rfl) λa E=>qaU [1] (by kernel_rfl) rfl (qa1 ?_)
 ·refine wo rfl<|qae E qdx rfl (qaC N x0 l1 h3 r4 h7 r8 r9 e21 hG ok) rfl rfl ?_
  rintro _ w ⟨⟨rfl,ok⟩,r40⟩
  refine⟨_,rfl,λa E=>?_⟩
  refine wn<|qaq (cl1 (cq le_m0 ok [0,1] rfl) (cq le_m0 ok [0,1] rfl)) λhT=>kt 2 E rfl hT (qbg rfl rfl) λa E=>kt 3 E rfl hT (qad rfl) λa E=>?_
  have E:=E.upd 8 c23 rfl
  refine kt 4 E rfl hT (qad rfl) λa E=>kt 5 E rfl hT (qad rfl) λa E=>kt 6 E rfl hT (qan rfl) λa E=>kt 7 E rfl hT (qaj qcM rfl) λa E=>kt 8 E rfl hT (qaw qdX rfl (Holds.cown 0 rfl rfl)) λa E=>kt 9 E rfl hT (qad rfl) λa E=>kt 10 E rfl hT (qan rfl) λa E=>kt 11 E rfl hT (qaj qcl rfl) λa E=>kt 12 E rfl hT (qaw qaN rfl (Holds.cown 0 rfl rfl)) λa E=>?_
  obtain⟨b41,o42,es43,hl44,rr45,at46,yy47⟩:=ia E 13 17 qdJ h3 e26
  obtain⟨rfl,r48,l49,r50,r51⟩:=rr45
  refine kt 13 E rfl hT (yy47 _ _) λa E=>kt 14 E rfl hT (qaj qdA rfl) λa E=>kt 15 E rfl hT (qaw qax rfl (Holds.cro (At.sub 1 1 at46))) λa E=>qaU [16] (by kernel_rfl) rfl (qa1 ?_)
  ·refine wo rfl<|qhD E rfl qtp rfl (qio N x25.Text l49 e39 hG ok) rfl rfl ?_
   rintro _ w ⟨rfl,ok⟩
   refine⟨_,rfl,λa E=>?_⟩
   refine wn<|qaq (cl1 (cq le_m0 ok [0,1] rfl) (cq le_m0 ok [0,1] rfl)) λhT=>kt 17 E rfl hT (qa9 rfl) λa E=>kt 18 E rfl hT (qbX rfl rfl) λa E=>qbv (by kernel_rfl) ?_
   exact⟨rfl,⟨ok,E.keep [0,23]⟩⟩
def qjo(u:World)(m0:Mem)(S:Segs)(pb0:Nat)(x0:Int)(r:Bool)(a:Act)(w:World):Prop:=
 Ok u m0 ([(pb0,oc 3 [vi x0])]::S) w∧a.defers=[]∧RVs Tryz.prog a w [.t 3 (.bool r)]
theorem qjl(N:Nat)(s_0:List UInt8)(ls_0:s_0.length≤LIMS){pb0:Nat}(x0:Int)(r1:InR .i64 x0){r:Bool}(hF:qeO N s_0 x0=some r)(hG:Glob u)(ok:Ok u m0 ([(pb0,oc 3 [vi x0])]::S) w) :
  Calls Tryz.prog 124 [vs s_0,vp pb0].toArray w λe w'=>(e=.returned (.bool r)∧Ok u m0 ([(pb0,oc 3 [vi x0])]::S) w'):=by
 unfold qeO at hF
 refine en (qjo u m0 S pb0 x0) r Tryz.func124 rfl rfl rfl (λ_ _ h=>ra h rfl) λfin a E=>sg<|aw E rfl λa E=>sg<|ld E ok qaN 0 rfl rfl rfl λa E=>mv E rfl λa E=>bd hF λr2 e3 hF=>lc E qnl rfl (qhm N x0 r1 s_0 ls_0 e3 hG ok) λw ok a E=>aw E rfl λa E=>wp_ret ?_
 exact fin hF ⟨ok,E.d,rz E rfl⟩
def qiz(u:World)(m0:Mem)(S:Segs)(pb0:Nat)(pb1:Nat)(x0:Parser)(c2:Value)(c5:Value)(M6:List (Nat×Obj))(x1:Int)(r:(List UInt8)×Parser)(a:Act)(w:World):Prop:=
 ∃ m1 c12 c15 M16,m0.le m1∧Ok u m1 ([(pb0,oc 101 [vs r.2.s,c12,vi r.2.next,c15,vi r.2.at_,vi r.2.e])]::M16::[(pb1,oc 3 [vi x1])]::S) w∧a.defers=[]∧RVs Tryz.prog a w [.t 4 (.string (bs r.1))]∧r.1.length≤LIMS∧r.2.s.length≤LIMS∧(pL 4 qa4) m1 [c12] r.2.l∧InR .i64 r.2.next∧OMap kS (oneV pB) m1 c15 r.2.names M16∧InR .i64 r.2.at_∧InR .i64 r.2.e
theorem qgk(N:Nat){pb0:Nat}{c2:Value}{c5:Value}{M6:List (Nat×Obj)}(x0:Parser)(l1:x0.s.length≤LIMS)(h3:(pL 4 qa4) m0 [c2] x0.l)(r4:InR .i64 x0.next)(h7:OMap kS (oneV pB) m0 c5 x0.names M6)(r8:InR .i64 x0.at_)(r9:InR .i64 x0.e){pb1:Nat}(x1:Int)(r10:InR .i64 x1){r:(List UInt8)×Parser}(hF:qcb N x0 x1=some r)(hG:Glob u)(ok:Ok u m0 ([(pb0,oc 101 [vs x0.s,c2,vi x0.next,c5,vi x0.at_,vi x0.e])]::M6::[(pb1,oc 3 [vi x1])]::S) w) :
  Calls Tryz.prog 91 [vp pb0,Value.func (.func 124) #[] #[.pointer (some ⟨pb1,0,none⟩)]].toArray w λe w'=>∃ m1 c12 c15 M16,e=.returned (.string (bs r.1))∧m0.le m1∧Ok u m1 ([(pb0,oc 101 [vs r.2.s,c12,vi r.2.next,c15,vi r.2.at_,vi r.2.e])]::M16::[(pb1,oc 3 [vi x1])]::S) w'∧r.1.length≤LIMS∧r.2.s.length≤LIMS∧(pL 4 qa4) m1 [c12] r.2.l∧InR .i64 r.2.next∧OMap kS (oneV pB) m1 c15 r.2.names M16∧InR .i64 r.2.at_∧InR .i64 r.2.e:=by
 have le_m0:=Mem.le.refl m0
 unfold qcb at hF
 refine en (qiz u m0 S pb0 pb1 x0 c2 c5 M6 x1) r Tryz.func91 rfl rfl rfl (by rintro a w ⟨m1,c12,c15,M16,hle,ok,hd,hrv,h0,h1,h2,h3,h4,h5,h6⟩;exact qbf [.t 4 (.string (bs r.1))] hd rfl hrv ⟨m1,c12,c15,M16,rfl,hle,ok,h0,h1,h2,h3,h4,h5,h6⟩) λfin a E=>sg<|aw E rfl λa E=>wp_seq<|wp_seq<|bd hF λo20 hJ hF=>qaO (Q':=λe a w=>e=.normal∧Ok u m0 ([(pb0,oc 101 [vs x0.s,c2,vi x0.next,c5,vi x0.at_,vi x0.e])]::M6::[(pb1,oc 3 [vi x1])]::S) w∧Env 28 a [(0,vp pb0),(23,vb o20)]) ?_ ?_
 rotate_left
 ·intro e a w hO
  obtain⟨rfl,ok,E⟩:=hO
  refine qaa<|cg E rfl hF (λc53 hF=>?_) λc53 hF=>?_
  ·refine wp_skip<|qaa<|sg<|mv E rfl λa E=>bd hF λr66 e67 hF=>qae E qdq rfl (qaB N 9 (ir 9) x0 l1 h3 r4 h7 r8 r9 e67 hG ok) rfl rfl ?_
   rintro _ w ⟨m68,c71,c74,M75,rfl,hle,ok,l69,l70,h72,r73,h76,r77,r78⟩
   have le_m0:=le_m0.trans hle
   have h3:=(mL qac).up hle h3
   refine⟨_,rfl,λa E=>?_⟩
   refine aw E rfl λa E=>wp_ret ?_
   exact fin hF ⟨m68,c71,c74,M75,le_m0,ok,E.d,rz E rfl,l69,l70,h72,r73,h76,r77,r78⟩
  refine sg<|mv E rfl λa E=>bd hF λr54 e55 hF=>qae E qfN rfl (qbn N 3 (ir 3) x0 l1 h3 r4 h7 r8 r9 e55 hG ok) rfl rfl ?_
  rintro _ w ⟨m56,c58,c61,M62,rfl,hle,ok,l57,h59,r60,h63,r64,r65⟩
  have le_m0:=le_m0.trans hle
  have h3:=(mL qac).up hle h3
  refine⟨_,rfl,λa E=>?_⟩
  refine wn<|sg<|aw E rfl λa E=>wp_ret<|qak ?_
  exact fin hF ⟨m56,c58,c61,M62,le_m0,ok,E.d,rz E rfl,(show([]:List UInt8).length≤LIMS by decide),l57,h59,r60,h63,r64,r65⟩
 have hF:=hJ
 refine bd hF λr21 e22 hF=>qbx (r21 != 9) (λc24=>?_) (λc24=>?_)
 ·have hF:=qbz c24 hF
  cases hF
  refine qbl [] (Cls u m0 ([(pb0,oc 101 [vs x0.s,c2,vi x0.next,c5,vi x0.at_,vi x0.e])]::M6::[(pb1,oc 3 [vi x1])]::[])) (Cls u m0 ([(pb0,oc 101 [vs x0.s,c2,vi x0.next,c5,vi x0.at_,vi x0.e])]::M6::[(pb1,oc 3 [vi x1])]::[])) (by kernel_rfl) ?_
  intro w hw
  replace ok:=qbA ok hw
  clear hw
  refine qaq (cl1 (cq le_m0 ok [0,1,2] rfl) (cq le_m0 ok [0,1,2] rfl)) λhT=>kt 0 E rfl hT (qad rfl) λa E=>qaU [1] (by kernel_rfl) rfl (qa1 ?_)
  ·refine wo rfl<|qae E qdx rfl (qaC N x0 l1 h3 r4 h7 r8 r9 e22 hG ok) rfl rfl ?_
   rintro _ w ⟨⟨rfl,ok⟩,r25⟩
   refine⟨_,rfl,λa E=>?_⟩
   refine wn<|qaq (cl1 (cq le_m0 ok [0,1,2] rfl) (cq le_m0 ok [0,1,2] rfl)) λhT=>kt 2 E rfl hT (qbg rfl rfl) λa E=>kt 3 E rfl hT (qad rfl) λa E=>?_
   have E:=E.upd 8 c24 rfl
   refine qaf 4 false E rfl (by kernel_rfl) nP hT rfl rfl λa E=>qaf 5 false E rfl (by kernel_rfl) nP hT rfl rfl λa E=>qaf 6 false E rfl (by kernel_rfl) nP hT rfl rfl λa E=>qaf 7 false E rfl (by kernel_rfl) nP hT rfl rfl λa E=>qaf 8 false E rfl (by kernel_rfl) nP hT rfl rfl λa E=>qaf 9 false E rfl (by kernel_rfl) nP hT rfl rfl λa E=>qaf 10 false E rfl (by kernel_rfl) nP hT rfl rfl λa E=>qaf 11 false E rfl (by kernel_rfl) nP hT rfl rfl λa E=>qaf 12 false E rfl (by kernel_rfl) nP hT rfl rfl λa E=>qaf 13 false E rfl (by kernel_rfl) nP hT rfl rfl λa E=>qaf 14 false E rfl (by kernel_rfl) nP hT rfl rfl λa E=>qaf 15 false E rfl (by kernel_rfl) nP hT rfl rfl λa E=>qaf 16 false E rfl (by kernel_rfl) nP hT rfl rfl λa E=>qaf 17 false E rfl (by kernel_rfl) nP hT rfl rfl λa E=>kt 18 E rfl hT (qb1 rfl rfl) λa E=>qbv (by kernel_rfl) ?_
   exact⟨rfl,⟨ok,E.keep [0,23]⟩⟩
 have hF:=qby c24 hF
 obtain⟨x26,e27,hF⟩:=bnd hF
 obtain⟨r39,e40,hF⟩:=bnd hF
 obtain rfl:=sj hF
 refine qbl [] (Cls u m0 ([(pb0,oc 101 [vs x0.s,c2,vi x0.next,c5,vi x0.at_,vi x0.e])]::M6::[(pb1,oc 3 [vi x1])]::[])) (Cls u m0 ([(pb0,oc 101 [vs x0.s,c2,vi x0.next,c5,vi x0.at_,vi x0.e])]::M6::[(pb1,oc 3 [vi x1])]::[])) (by kernel_rfl) ?_
 intro w hw
 replace ok:=qbA ok hw
 clear hw
 refine qaq (cl1 (cq le_m0 ok [0,1,2] rfl) (cq le_m0 ok [0,1,2] rfl)) λhT=>kt 0 E rfl hT (qad rfl) λa E=>qaU [1] (by kernel_rfl) rfl (qa1 ?_)
 ·refine wo rfl<|qae E qdx rfl (qaC N x0 l1 h3 r4 h7 r8 r9 e22 hG ok) rfl rfl ?_
  rintro _ w ⟨⟨rfl,ok⟩,r41⟩
  refine⟨_,rfl,λa E=>?_⟩
  refine wn<|qaq (cl1 (cq le_m0 ok [0,1,2] rfl) (cq le_m0 ok [0,1,2] rfl)) λhT=>kt 2 E rfl hT (qbg rfl rfl) λa E=>kt 3 E rfl hT (qad rfl) λa E=>?_
  have E:=E.upd 8 c24 rfl
  refine kt 4 E rfl hT (qad rfl) λa E=>kt 5 E rfl hT (qad rfl) λa E=>kt 6 E rfl hT (qan rfl) λa E=>kt 7 E rfl hT (qaj qcM rfl) λa E=>kt 8 E rfl hT (qaw qdX rfl (Holds.cown 0 rfl rfl)) λa E=>kt 9 E rfl hT (qad rfl) λa E=>kt 10 E rfl hT (qan rfl) λa E=>kt 11 E rfl hT (qaj qcl rfl) λa E=>kt 12 E rfl hT (qaw qaN rfl (Holds.cown 0 rfl rfl)) λa E=>?_
  obtain⟨b42,o43,es44,hl45,rr46,at47,yy48⟩:=ia E 13 17 qdJ h3 e27
  obtain⟨rfl,r49,l50,r51,r52⟩:=rr46
  refine kt 13 E rfl hT (yy48 _ _) λa E=>kt 14 E rfl hT (qaj qdA rfl) λa E=>kt 15 E rfl hT (qaw qax rfl (Holds.cro (At.sub 1 1 at47))) λa E=>qaU [16] (by kernel_rfl) rfl (qa1 ?_)
  ·refine qci (o:=_) rfl ?_
   replace ok:Ok u m0 ([(pb1,oc 3 [vi x1])]::[(pb0,oc 101 [vs x0.s,c2,vi x0.next,c5,vi x0.at_,vi x0.e])]::M6::S) w:=(ok.pk 3 [2,0,1] rfl (by decide))
   refine qqg E rfl qvi rfl (qjl N x26.Text l50 x1 r10 e40 hG ok) rfl rfl ?_
   rintro _ w ⟨rfl,ok⟩
   refine⟨_,rfl,λa E=>?_⟩
   refine wn<|qaq (cl1 (cq le_m0 ok [1,2,0] rfl) (cq le_m0 ok [1,2,0] rfl)) λhT=>kt 17 E rfl hT (qa9 rfl) λa E=>kt 18 E rfl hT (qbX rfl rfl) λa E=>qbv (by kernel_rfl) ?_
   exact⟨rfl,⟨(ok.pk 3 [1,2,0] rfl (by decide)),E.keep [0,23]⟩⟩
end Go.Proofs.YtkhjeeakflefjaaGreatDoor
namespace Go.Proofs.YtkhjeeakflefjaaGreatDoor
open Go.X
def qbo(rQ4:Int→Bool→Parser→Option ((List (Part))×Parser))(rQ3:Int→Bool→Parser→Option (Part×Parser))(rQ1:Int→Bool→Parser→Option (Part×Parser))(rQ10:Int→Int→Bool→Parser→Option ((List (Case))×Parser))(N:Nat)(depth_1:Int)(counting_2:Bool)(out_47:List (Part))(x_48:Parser):Option (((List (Part))×Parser)⊕(((Parser×(List (Part)))⊕((List (Part))×Parser)))):=
 bif (x_48.e==0) then
  (qaJ N x_48).bind λr63=>
  bif (r63==1) then
   (qar N 1 x_48).bind λr67=>
   (qfP N r67.1).bind λr80=>
   (app out_47 ([(Part.mk 1 r80.1 ([]) ([]) ([]) ([]))]:List (Part))).bind λl88=>
   some (.inl (l88,r67.2))
  else
   bif (r63==4) then
    (show Option Parser from
     bif (!counting_2) then
      (qaI N 3 x_48).bind λr106=>
      some r106
     else
      some x_48).bind λo94=>
    (qar N 4 o94).bind λr128=>
    (app out_47 ([(Part.mk 10 ([]) ([]) ([]) ([]) ([]))]:List (Part))).bind λl144=>
    some (.inl (l144,r128.2))
   else
    bif (r63==7) then
     (qcG N (IntKind.wrap .i64 (depth_1+1)) x_48).bind λr150=>
     (qar N 7 r150).bind λr162=>
     (app out_47 ([(Part.mk 11 ([]) r162.1 ([]) ([]) ([]))]:List (Part))).bind λl178=>
     some (.inl (l178,r162.2))
    else
     bif (r63==5) then
      (rQ3 (IntKind.wrap .i64 (depth_1+1)) counting_2 x_48).bind λr184=>
      (app out_47 ([r184.1]:List (Part))).bind λl209=>
      some (.inl (l209,r184.2))
     else
      bif (r63==2) then
       (rQ1 depth_1 counting_2 x_48).bind λr215=>
       (app out_47 ([r215.1]:List (Part))).bind λl240=>
       some (.inl (l240,r215.2))
      else
       some (.inr (.inr (out_47,x_48)))
 else
  some (.inr (.inl (x_48,out_47)))
def qca(rQ4:Int→Bool→Parser→Option ((List (Part))×Parser))(rQ3:Int→Bool→Parser→Option (Part×Parser))(rQ1:Int→Bool→Parser→Option (Part×Parser))(rQ10:Int→Int→Bool→Parser→Option ((List (Case))×Parser))(N:Nat)(depth_1:Int)(counting_2:Bool)(x0:Parser):Option ((List (Part))×Parser):=
 (iter (λs=>qbo rQ4 rQ3 rQ1 rQ10 N depth_1 counting_2 s.1 s.2) N ([],x0)).bind λo33=>
 Sum.elim (λo33=>
  some (o33.2,o33.1))
 (λo33=>
  some o33) o33
def qb9(rQ4:Int→Bool→Parser→Option ((List (Part))×Parser))(rQ3:Int→Bool→Parser→Option (Part×Parser))(rQ1:Int→Bool→Parser→Option (Part×Parser))(rQ10:Int→Int→Bool→Parser→Option ((List (Case))×Parser))(N:Nat)(depth_1:Int)(counting_2:Bool)(x0:Parser):Option (Part×Parser):=
 (qcG N depth_1 x0).bind λr20=>
 (qar N 5 r20).bind λr32=>
 (rQ4 depth_1 counting_2 r32.2).bind λr46=>
 (show Option Bool from
  (qaJ N r46.2).bind λr61=>
  bif (r61 != 6) then
   some true
  else
   (idx r46.2.l r46.2.next).bind λx66=>
   some (x66.Text != r32.1)).bind λo60=>
 bif o60 then
  (qaI N 3 r46.2).bind λr92=>
  (qar N 6 r92).bind λr104=>
  some ((Part.mk 11 ([]) r32.1 ([]) ([]) r46.1),r104.2)
 else
  (qar N 6 r46.2).bind λr117=>
  some ((Part.mk 11 ([]) r32.1 ([]) ([]) r46.1),r117.2)
def qb7(rQ4:Int→Bool→Parser→Option ((List (Part))×Parser))(rQ3:Int→Bool→Parser→Option (Part×Parser))(rQ1:Int→Bool→Parser→Option (Part×Parser))(rQ10:Int→Int→Bool→Parser→Option ((List (Case))×Parser))(N:Nat)(depth_1:Int)(counting_2:Bool)(x0:Parser):Option (Part×Parser):=
 (qar N 2 x0).bind λr20=>
 (qd7 N r20.2).bind λr33=>
 (qaJ N r33.2).bind λr47=>
 bif (r47==3) then
  (qar N 3 r33.2).bind λr51=>
  some ((Part.mk 2 ([]) r33.1 ([]) ([]) ([])),r51.2)
 else
  (qar N 8 r33.2).bind λr64=>
  (show Option Bool from
   (qaJ N r64.2).bind λr80=>
   bif (r80==9) then
    (idx r64.2.l r64.2.next).bind λx84=>
    (qbS N ((mget qgE x84.Text).getD 0)).bind λr102=>
    some r102
   else
    some false).bind λo79=>
  (show Option Parser from
   bif o79 then
    (qcG N (IntKind.wrap .i64 (depth_1+1)) r64.2).bind λr134=>
    some r134
   else
    some r64.2).bind λo122=>
  (show Option (Parser×Part) from
   (qdS N o122).bind λr171=>
   some (r171.2,(Part.mk ((mget qgE r171.1).getD 0) ([]) r33.1 ([]) ([]) ([])))).bind λo156=>
  bif (o156.1.e != 0) then
   (qar N 3 o156.1).bind λr220=>
   some ((Part.mk o156.2.Kind o156.2.Text o156.2.Name o156.2.Style ([]) ([])),r220.2)
  else
   bif (o156.2.Kind==3) then
    (qaJ N o156.1).bind λr234=>
    bif (r234==8) then
     (qar N 8 o156.1).bind λr238=>
     (qdR N r238.2).bind λr251=>
     (qar N 3 r251.2).bind λr264=>
     some ((Part.mk o156.2.Kind o156.2.Text o156.2.Name r251.1 ([]) ([])),r264.2)
    else
     (qar N 3 o156.1).bind λr277=>
     some ((Part.mk o156.2.Kind o156.2.Text o156.2.Name o156.2.Style ([]) ([])),r277.2)
   else
    (qbS N o156.2.Kind).bind λr290=>
    bif r290 then
     (qar N 8 o156.1).bind λr293=>
     (rQ10 o156.2.Kind (IntKind.wrap .i64 (depth_1+1)) counting_2 r293.2).bind λr306=>
     (qar N 3 r306.2).bind λr320=>
     some ((Part.mk o156.2.Kind o156.2.Text o156.2.Name o156.2.Style r306.1 ([])),r320.2)
    else
     (qar N 8 o156.1).bind λr333=>
     bif (o156.2.Kind==5) then
      (qdV N r333.2).bind λr347=>
      (qar N 3 r347.2).bind λr360=>
      some ((Part.mk o156.2.Kind o156.2.Text o156.2.Name r347.1 ([]) ([])),r360.2)
     else
      (qcL N r333.2).bind λr373=>
      (qar N 3 r373.2).bind λr386=>
      some ((Part.mk o156.2.Kind o156.2.Text o156.2.Name r373.1 ([]) ([])),r386.2)
def qa6(rQ4:Int→Bool→Parser→Option ((List (Part))×Parser))(rQ3:Int→Bool→Parser→Option (Part×Parser))(rQ1:Int→Bool→Parser→Option (Part×Parser))(rQ10:Int→Int→Bool→Parser→Option ((List (Case))×Parser))(N:Nat)(kind_1:Int)(depth_2:Int)(counting_3:Bool)(out_57:List (Case))(first_58:Bool)(x_59:Parser)(seen_60:List (List UInt8×Bool)):Option (((List (Case))×Bool×Parser×(List (List UInt8×Bool)))⊕((Parser×(List (Case))×(List (List UInt8×Bool))))):=
 bif first_58 then
  (show Option Bool from
   (qaJ N x_59).bind λr79=>
   bif (r79==9) then
    (idx x_59.l x_59.next).bind λx83=>
    (qeu N kind_1 x83.Text).bind λr96=>
    some r96
   else
    some false).bind λo78=>
  (show Option Parser from
   bif o78 then
    (show Option Parser from
     bif (decide ((out_57.length:Int)≥20)) then
      (qaI N 6 x_59).bind λr135=>
      some r135
     else
      some x_59).bind λo123=>
    (idx o123.l o123.next).bind λx157=>
    bif ((mget seen_60 x157.Text).getD false) then
     (qaI N 9 o123).bind λr175=>
     some r175
    else
     some o123
   else
    some x_59).bind λo111=>
  (qcb N o111 kind_1).bind λr197=>
  (mset seen_60 r197.1 true).bind λl211=>
  (qar N 2 r197.2).bind λr215=>
  bif counting_3 then
   (rQ4 depth_2 true r215.2).bind λr229=>
   (qar N 3 r229.2).bind λr243=>
   (app out_57 ([(Case.mk r197.1 r229.1)]:List (Case))).bind λl259=>
   some (.inl (l259,false,r243.2,l211))
  else
   (rQ4 depth_2 (kind_1 != 9) r215.2).bind λr264=>
   (qar N 3 r264.2).bind λr278=>
   (app out_57 ([(Case.mk r197.1 r264.1)]:List (Case))).bind λl294=>
   some (.inl (l294,false,r278.2,l211))
 else
  (qaJ N x_59).bind λr299=>
  bif (r299==9) then
   (show Option Bool from
    (qaJ N x_59).bind λr304=>
    bif (r304==9) then
     (idx x_59.l x_59.next).bind λx308=>
     (qeu N kind_1 x308.Text).bind λr321=>
     some r321
    else
     some false).bind λo303=>
   (show Option Parser from
    bif o303 then
     (show Option Parser from
      bif (decide ((out_57.length:Int)≥20)) then
       (qaI N 6 x_59).bind λr360=>
       some r360
      else
       some x_59).bind λo348=>
     (idx o348.l o348.next).bind λx382=>
     bif ((mget seen_60 x382.Text).getD false) then
      (qaI N 9 o348).bind λr400=>
      some r400
     else
      some o348
    else
     some x_59).bind λo336=>
   (qcb N o336 kind_1).bind λr422=>
   (mset seen_60 r422.1 true).bind λl436=>
   (qar N 2 r422.2).bind λr440=>
   bif counting_3 then
    (rQ4 depth_2 true r440.2).bind λr454=>
    (qar N 3 r454.2).bind λr468=>
    (app out_57 ([(Case.mk r422.1 r454.1)]:List (Case))).bind λl484=>
    some (.inl (l484,false,r468.2,l436))
   else
    (rQ4 depth_2 (kind_1 != 9) r440.2).bind λr489=>
    (qar N 3 r489.2).bind λr503=>
    (app out_57 ([(Case.mk r422.1 r489.1)]:List (Case))).bind λl519=>
    some (.inl (l519,false,r503.2,l436))
  else
   some (.inr (x_59,out_57,seen_60))
def qcs(rQ4:Int→Bool→Parser→Option ((List (Part))×Parser))(rQ3:Int→Bool→Parser→Option (Part×Parser))(rQ1:Int→Bool→Parser→Option (Part×Parser))(rQ10:Int→Int→Bool→Parser→Option ((List (Case))×Parser))(N:Nat)(kind_1:Int)(depth_2:Int)(counting_3:Bool)(x0:Parser):Option ((List (Case))×Parser):=
 (iter (λs=>qa6 rQ4 rQ3 rQ1 rQ10 N kind_1 depth_2 counting_3 s.1 s.2.1 s.2.2.1 s.2.2.2) N ([],true,x0,([]:List (List UInt8×Bool)))).bind λo40=>
 (qaJ N o40.1).bind λr540=>
 bif (r540==3) then
  bif (!((mget o40.2.2 ([111,116,104,101,114])).getD false)) then
   (qaI N 13 o40.1).bind λr549=>
   some (o40.2.1,r549)
  else
   some (o40.2.1,o40.1)
 else
  some (o40.2.1,o40.1)
def qaF:Nat→(Int→Bool→Parser→Option ((List (Part))×Parser))×(Int→Bool→Parser→Option (Part×Parser))×(Int→Bool→Parser→Option (Part×Parser))×(Int→Int→Bool→Parser→Option ((List (Case))×Parser))
 | 0=>(λ_ _ _=>none,λ_ _ _=>none,λ_ _ _=>none,λ_ _ _ _=>none)
 | N+1=>(qca (qaF N).1 (qaF N).2.1 (qaF N).2.2.1 (qaF N).2.2.2 N,qb9 (qaF N).1 (qaF N).2.1 (qaF N).2.2.1 (qaF N).2.2.2 N,qb7 (qaF N).1 (qaF N).2.1 (qaF N).2.2.1 (qaF N).2.2.2 N,qcs (qaF N).1 (qaF N).2.1 (qaF N).2.2.1 (qaF N).2.2.2 N)
def qam(N:Nat):Int→Bool→Parser→Option ((List (Part))×Parser):=(qaF N).1
def qav(N:Nat):Int→Bool→Parser→Option (Part×Parser):=(qaF N).2.1
def qat(N:Nat):Int→Bool→Parser→Option (Part×Parser):=(qaF N).2.2.1
def qay(N:Nat):Int→Int→Bool→Parser→Option ((List (Case))×Parser):=(qaF N).2.2.2
end Go.Proofs.YtkhjeeakflefjaaGreatDoor
