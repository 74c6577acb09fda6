/- Texts of this proof, put together by pack.py: what its declarations name. -/
import Derived.Test.YtllnjbnknjpbjaaGreatDoorPkKx5
import Derived.Test.YtllnjbnknjpbjaaGreatDoorCards
import Derived.Test.YtllnjbnknjpbjaaGreatDoorChecked
import Derived.Test.YtllnjbnknjpbjaaGreatDoorProg
import Derived.Test.YtllnjbnknjpbjaaGreatDoorRows
import Derived.Test.YtllnjbnknjpbjaaGreatDoorTie
set_option linter.unusedVariables false
set_option linter.unusedSimpArgs false
namespace Go.Proofs.YtllnjbnknjpbjaaGreatDoor
open Go.X
variable {u:World} {m0:Mem} {S:Segs} {w:World}
set_option maxHeartbeats 4000000
set_option maxRecDepth 100000
theorem qoq:goB Tryz.prog 13 = true:=by kernel_rfl
theorem qos:goB Tryz.prog 15 = true:=by kernel_rfl
theorem qho:goB Tryz.prog 17 = true:=by kernel_rfl
theorem qmW:goB Tryz.prog 18 = true:=by kernel_rfl
theorem go_9:goB Tryz.prog 9 = true:=by kernel_rfl
def qg1 (u:World) (m0:Mem) (S:Segs) (r:Bool) (a:Act) (w:World):Prop :=
 Ok u m0 S w ∧ a.defers = [] ∧ RVs Tryz.prog a w [.t 4 (.bool r)]
theorem qg2 (N:Nat) (va_0:List Value) (a_0:Code) (ha_0:qeY m0 va_0 a_0) (vb_1:List Value) (b_1:Code) (hb_1:qeY m0 vb_1 b_1) {r:Bool} (hF:qbU N a_0 b_1 = some r) (hG:Glob u) (hTb:Tab u) (ok:Ok u m0 S w) :
  Calls Tryz.prog 4 [.agg va_0.toArray,.agg vb_1.toArray].toArray w fun e w'=>(e = .returned (.bool r) ∧ Ok u m0 S w'):=by
 obtain ⟨c1,c3,rfl,h2,h4⟩:=ha_0
 obtain ⟨c5,c7,rfl,h6,h8⟩:=hb_1
 have hb0:=ok.base
 have le_m0:=Mem.le.refl m0
 unfold qbU at hF
 refine en (qg1 u m0 S) r Tryz.func4 rfl rfl rfl (fun _ _ h=>ra h rfl) fun fin a E=>sg<|qdV E ok rfl rfl rfl fun b9 a w E ok=>qdV E ok rfl rfl rfl fun b10 a w E ok=>aw E rfl fun a E=>wp_seq<|sg<|bd hF fun r11 e12 hF=>lc E go_9 rfl (qi0 N  e12 hG hTb ok) fun w ok a E=>lw E (qbh rfl) fun a E=>wn<|cf E rfl hF (fun c13 hF=>?_) fun c13 hF=>?_
 ·refine sg<|aw E rfl fun a E=>wp_ret<|qam ?_
  exact fin hF ⟨ok.drop.drop,E.d,rz E rfl⟩
 refine wp_skip<|qaa<|wp_seq<|sg<|lv E ok (qan (cs:=[c1,c3]) qdx rfl rfl (qae.own 1 rfl rfl)) fun a E=>bd hF fun r14 e15 hF=>lc E qos rfl (qhb N _ a_0 ⟨_,_,rfl,h2,h4⟩ e15 hG ok) fun w ok a E=>lw E (qbh rfl) fun a E=>mv E rfl fun a E=>bu E 10 hF (fun c16 hF E=>?_) fun c16 hF E=>?_
 ·refine lsq E fun a E=>ls E fun a E=>pt E rfl rfl fun a E=>wn<|c_if E rfl (fun _=>?_) (fun h=>by cases h)
  refine sg<|aw E rfl fun a E=>wp_ret<|qam ?_
  exact fin hF ⟨ok.drop.drop,E.d,rz E rfl⟩
 refine lv E ok (qan (cs:=[c5,c7]) qdx rfl rfl (qae.own 0 rfl rfl)) fun a E=>bd hF fun r17 e18 hF=>lc E qos rfl (qhb N _ b_1 ⟨_,_,rfl,h6,h8⟩ e18 hG ok) fun w ok a E=>lw E (qbh rfl) fun a E=>pf E rfl rfl fun a E=>wn<|cf E rfl hF (fun c19 hF=>?_) fun c19 hF=>?_
 ·refine sg<|aw E rfl fun a E=>wp_ret<|qam ?_
  exact fin hF ⟨ok.drop.drop,E.d,rz E rfl⟩
 refine wp_skip<|qaa<|wp_seq<|bd hF fun o20 hJ hF=>qaK (Q':=fun e a w=>e = .normal ∧ ∃ m21,m0.le m21 ∧ Ok u m21 ([(b10,oc 34 [c5,c7])] :: [(b9,oc 34 [c1,c3])] :: S) w ∧ Env 39 a [(4,vb o20)]) ?_ ?_
 rotate_left
 ·intro e a w hO
  obtain ⟨rfl,m150,hle,ok,E⟩:=hO
  have le_m0:=le_m0.trans hle
  have h2:=(mL mS).up hle h2
  have h4:=(mL mIns).up hle h4
  have h6:=(mL mS).up hle h6
  have h8:=(mL mIns).up hle h8
  refine qaa<|wp_ret ?_
  exact fin hF ⟨(ok.drop.drop).down hb0 le_m0,E.d,rz E rfl⟩
 have hF:=hJ
 obtain ⟨r22,e23,hF⟩:=bnd hF
 obtain ⟨r31,e32,hF⟩:=bnd hF
 refine bd hF fun r34 e35 hF=>qbr (r31 == r34) (fun c37=>?_) (fun c37=>?_)
 rotate_left
 ·have hF:=qbn c37 hF
  cases hF
  refine qbl [] (Cls u m0 ([(b10,oc 34 [c5,c7])] :: [(b9,oc 34 [c1,c3])] :: [])) (Cls u m0 ([(b10,oc 34 [c5,c7])] :: [(b9,oc 34 [c1,c3])] :: [])) (by kernel_rfl) ?_
  intro w hw
  replace ok:=qbE ok hw
  clear hw
  have h2_o:=h2
  have h4_o:=h4
  have h6_o:=h6
  have h8_o:=h8
  refine qar (cl1 (cq le_m0 ok [0,1] rfl) (cq le_m0 ok [0,1] rfl)) fun hT=>kt 0 E rfl hT (qan (cs:=[c1,c3]) qdx rfl rfl (qae.cown 1 rfl rfl)) fun a E=>kt 3 E rfl hT (qan (cs:=[c1,c3]) qdx rfl rfl (qae.cown 1 rfl rfl)) fun a E=>qaP [1] (by kernel_rfl) rfl (qaT ?_)
  ·refine wo rfl<|qaf E qho rfl (qcb N _ a_0 ⟨_,_,rfl,h2,h4⟩ e23 hG ok) rfl rfl ?_
   rintro _ w ⟨m141,vs142,rfl,hle,ok,h143⟩
   have le_m0:=le_m0.trans hle
   have h2:=(mL mS).up hle h2
   have h4:=(mL mIns).up hle h4
   have h6:=(mL mS).up hle h6
   have h8:=(mL mIns).up hle h8
   obtain ⟨c144,c146,rfl,h145,h147⟩:=h143
   refine ⟨_,rfl,fun a E=>?_⟩
   refine wn<|qar (cl1 (cq le_m0 ok [0,1] rfl) (cq le_m0 ok [0,1] rfl)) fun hT=>qaP [2] (by kernel_rfl) rfl (qaT ?_)
   ·refine wo rfl<|qaf E qlu rfl (qfD N _ r22 ⟨_,_,rfl,h145,h147⟩ e32 hG hTb ok) rfl rfl ?_
    rintro _ w ⟨⟨rfl,ok⟩,l148⟩
    refine ⟨_,rfl,fun a E=>?_⟩
    refine wn<|qar (cl1 (cq le_m0 ok [0,1] rfl) (cq le_m0 ok [0,1] rfl)) fun hT=>qaP [4] (by kernel_rfl) rfl (qaT ?_)
    ·refine wo rfl<|qaf E qmW rfl (qfA N _ a_0 ⟨_,_,rfl,h2,h4⟩ e35 hG ok) rfl rfl ?_
     rintro _ w ⟨⟨rfl,ok⟩,l149⟩
     refine ⟨_,rfl,fun a E=>?_⟩
     refine wn<|qar (cl1 (cq le_m0 ok [0,1] rfl) (cq le_m0 ok [0,1] rfl)) fun hT=>kt 5 E rfl hT (qbm rfl rfl) fun a E=>kt 6 E rfl hT (qah rfl) fun a E=>?_
     have E:=E.upd 21 c37 rfl
     refine qbk 7 false E rfl (by kernel_rfl) nP hT rfl rfl fun a E=>qbk 8 false E rfl (by kernel_rfl) nP hT rfl rfl fun a E=>qbk 9 false E rfl (by kernel_rfl) nP hT rfl rfl fun a E=>qbk 10 false E rfl (by kernel_rfl) nP hT rfl rfl fun a E=>qbk 11 false E rfl (by kernel_rfl) nP hT rfl rfl fun a E=>qbk 12 false E rfl (by kernel_rfl) nP hT rfl rfl fun a E=>qbk 13 false E rfl (by kernel_rfl) nP hT rfl rfl fun a E=>qbk 14 false E rfl (by kernel_rfl) nP hT rfl rfl fun a E=>qbk 15 false E rfl (by kernel_rfl) nP hT rfl rfl fun a E=>kt 16 E rfl hT (qdk rfl rfl) fun a E=>kt 17 E rfl hT (qah rfl) fun a E=>qbk 18 false E rfl (by kernel_rfl) nP hT rfl rfl fun a E=>qbk 19 false E rfl (by kernel_rfl) nP hT rfl rfl fun a E=>qbk 20 false E rfl (by kernel_rfl) nP hT rfl rfl fun a E=>qbk 21 false E rfl (by kernel_rfl) nP hT rfl rfl fun a E=>qbk 22 false E rfl (by kernel_rfl) nP hT rfl rfl fun a E=>?_
     refine kt 23 E rfl hT (qdk rfl rfl) fun a E=>kt 24 E rfl hT (qaI rfl) fun a E=>qbw (by kernel_rfl) ?_
     exact ⟨rfl,⟨m141,le_m0,ok,E.keep [4]⟩⟩
 have hF:=qbo c37 hF
 obtain ⟨r38,e39,hF⟩:=bnd hF
 obtain ⟨r47,e48,hF⟩:=bnd hF
 obtain ⟨r56,e57,hF⟩:=bnd hF
 refine bd hF fun r58 e59 hF=>qbr (r56 == r58) (fun c60=>?_) (fun c60=>?_)
 rotate_left
 ·as_aux_lemma =>
   have hF:=qbn c60 hF
   cases hF
   refine qbl [] (Cls u m0 ([(b10,oc 34 [c5,c7])] :: [(b9,oc 34 [c1,c3])] :: [])) (Cls u m0 ([(b10,oc 34 [c5,c7])] :: [(b9,oc 34 [c1,c3])] :: [])) (by kernel_rfl) ?_
   intro w hw
   replace ok:=qbE ok hw
   clear hw
   have h2_o:=h2
   have h4_o:=h4
   have h6_o:=h6
   have h8_o:=h8
   refine qar (cl1 (cq le_m0 ok [0,1] rfl) (cq le_m0 ok [0,1] rfl)) fun hT=>kt 0 E rfl hT (qan (cs:=[c1,c3]) qdx rfl rfl (qae.cown 1 rfl rfl)) fun a E=>kt 3 E rfl hT (qan (cs:=[c1,c3]) qdx rfl rfl (qae.cown 1 rfl rfl)) fun a E=>qaP [1] (by kernel_rfl) rfl (qaT ?_)
   ·as_aux_lemma =>
     refine wo rfl<|qaf E qho rfl (qcb N _ a_0 ⟨_,_,rfl,h2,h4⟩ e23 hG ok) rfl rfl ?_
     rintro _ w ⟨m118,vs119,rfl,hle,ok,h120⟩
     have le_m0:=le_m0.trans hle
     have h2:=(mL mS).up hle h2
     have h4:=(mL mIns).up hle h4
     have h6:=(mL mS).up hle h6
     have h8:=(mL mIns).up hle h8
     obtain ⟨c121,c123,rfl,h122,h124⟩:=h120
     refine ⟨_,rfl,fun a E=>?_⟩
     refine wn<|qar (cl1 (cq le_m0 ok [0,1] rfl) (cq le_m0 ok [0,1] rfl)) fun hT=>qaP [2] (by kernel_rfl) rfl (qaT ?_)
     ·as_aux_lemma =>
       refine wo rfl<|qaf E qlu rfl (qfD N _ r22 ⟨_,_,rfl,h122,h124⟩ e32 hG hTb ok) rfl rfl ?_
       rintro _ w ⟨⟨rfl,ok⟩,l125⟩
       refine ⟨_,rfl,fun a E=>?_⟩
       refine wn<|qar (cl1 (cq le_m0 ok [0,1] rfl) (cq le_m0 ok [0,1] rfl)) fun hT=>qaP [4] (by kernel_rfl) rfl (qaT ?_)
       ·refine wo rfl<|qaf E qmW rfl (qfA N _ a_0 ⟨_,_,rfl,h2,h4⟩ e35 hG ok) rfl rfl ?_
        rintro _ w ⟨⟨rfl,ok⟩,l126⟩
        refine ⟨_,rfl,fun a E=>?_⟩
        refine wn<|qar (cl1 (cq le_m0 ok [0,1] rfl) (cq le_m0 ok [0,1] rfl)) fun hT=>kt 5 E rfl hT (qbm rfl rfl) fun a E=>kt 6 E rfl hT (qah rfl) fun a E=>?_
        have E:=E.upd 21 c37 rfl
        refine kt 7 E rfl hT (qan (cs:=[c1,c3]) qdx rfl rfl (qae.cown 1 rfl rfl)) fun a E=>kt 9 E rfl hT (qan (cs:=[c5,c7]) qdx rfl rfl (qae.cown 0 rfl rfl)) fun a E=>kt 12 E rfl hT (qan (cs:=[c1,c3]) qdx rfl rfl (qae.cown 1 rfl rfl)) fun a E=>kt 13 E rfl hT (qan (cs:=[c5,c7]) qdx rfl rfl (qae.cown 0 rfl rfl)) fun a E=>qaP [8] (by kernel_rfl) rfl (qaT ?_)
        ·refine wo rfl<|qaf E qho rfl (qcb N _ a_0 ⟨_,_,rfl,h2,h4⟩ e39 hG ok) rfl rfl ?_
         rintro _ w ⟨m127,vs128,rfl,hle,ok,h129⟩
         have le_m0:=le_m0.trans hle
         have h2:=(mL mS).up hle h2
         have h4:=(mL mIns).up hle h4
         have h6:=(mL mS).up hle h6
         have h8:=(mL mIns).up hle h8
         have h122:=(mL mS).up hle h122
         have h124:=(mL mIns).up hle h124
         obtain ⟨c130,c132,rfl,h131,h133⟩:=h129
         refine ⟨_,rfl,fun a E=>?_⟩
         refine wn<|qar (cl1 (cq le_m0 ok [0,1] rfl) (cq le_m0 ok [0,1] rfl)) fun hT=>qaP [10] (by kernel_rfl) rfl (qaT ?_)
         ·refine wo rfl<|qaf E qho rfl (qcb N _ b_1 ⟨_,_,rfl,h6,h8⟩ e48 hG ok) rfl rfl ?_
          rintro _ w ⟨m134,vs135,rfl,hle,ok,h136⟩
          have le_m0:=le_m0.trans hle
          have h2:=(mL mS).up hle h2
          have h4:=(mL mIns).up hle h4
          have h6:=(mL mS).up hle h6
          have h8:=(mL mIns).up hle h8
          have h122:=(mL mS).up hle h122
          have h124:=(mL mIns).up hle h124
          have h131:=(mL mS).up hle h131
          have h133:=(mL mIns).up hle h133
          obtain ⟨c137,c139,rfl,h138,h140⟩:=h136
          refine ⟨_,rfl,fun a E=>?_⟩
          refine wn<|qar (cl1 (cq le_m0 ok [0,1] rfl) (cq le_m0 ok [0,1] rfl)) fun hT=>qaP [11] (by kernel_rfl) rfl (qaT ?_)
          ·refine wo rfl<|lc E qlq rfl (qfp N _ r38 ⟨_,_,rfl,h131,h133⟩ _ r47 ⟨_,_,rfl,h138,h140⟩ e57 hG ok) fun w ok a E=>wn<|qar (cl1 (cq le_m0 ok [0,1] rfl) (cq le_m0 ok [0,1] rfl)) fun hT=>qaP [14] (by kernel_rfl) rfl (qaT ?_)
           ·refine wo rfl<|lc E qoq rfl (qgv N _ a_0 ⟨_,_,rfl,h2,h4⟩ _ b_1 ⟨_,_,rfl,h6,h8⟩ e59 hG ok) fun w ok a E=>wn<|qar (cl1 (cq le_m0 ok [0,1] rfl) (cq le_m0 ok [0,1] rfl)) fun hT=>kt 15 E rfl hT (qne Tryz.underlying4 rfl rfl) fun a E=>kt 16 E rfl hT (qdD rfl rfl) fun a E=>kt 17 E rfl hT (qah rfl) fun a E=>?_
            have E:=E.upd 32 c60 rfl
            refine qbk 18 false E rfl (by kernel_rfl) nP hT rfl rfl fun a E=>qbk 19 false E rfl (by kernel_rfl) nP hT rfl rfl fun a E=>qbk 20 false E rfl (by kernel_rfl) nP hT rfl rfl fun a E=>qbk 21 false E rfl (by kernel_rfl) nP hT rfl rfl fun a E=>qbk 22 false E rfl (by kernel_rfl) nP hT rfl rfl fun a E=>kt 23 E rfl hT (qdk rfl rfl) fun a E=>kt 24 E rfl hT (qaI rfl) fun a E=>qbw (by kernel_rfl) ?_
            exact ⟨rfl,⟨m134,le_m0,ok,E.keep [4]⟩⟩
 have hF:=qbo c60 hF
 obtain ⟨r61,e62,hF⟩:=bnd hF
 obtain ⟨r70,e71,hF⟩:=bnd hF
 obtain ⟨r79,e80,hF⟩:=bnd hF
 obtain rfl:=sj hF
 refine qbl [] (Cls u m0 ([(b10,oc 34 [c5,c7])] :: [(b9,oc 34 [c1,c3])] :: [])) (Cls u m0 ([(b10,oc 34 [c5,c7])] :: [(b9,oc 34 [c1,c3])] :: [])) (by kernel_rfl) ?_
 intro w hw
 replace ok:=qbE ok hw
 clear hw
 have h2_o:=h2
 have h4_o:=h4
 have h6_o:=h6
 have h8_o:=h8
 refine qar (cl1 (cq le_m0 ok [0,1] rfl) (cq le_m0 ok [0,1] rfl)) fun hT=>kt 0 E rfl hT (qan (cs:=[c1,c3]) qdx rfl rfl (qae.cown 1 rfl rfl)) fun a E=>kt 3 E rfl hT (qan (cs:=[c1,c3]) qdx rfl rfl (qae.cown 1 rfl rfl)) fun a E=>qaP [1] (by kernel_rfl) rfl (qaT ?_)
 ·as_aux_lemma =>
   refine wo rfl<|qaf E qho rfl (qcb N _ a_0 ⟨_,_,rfl,h2,h4⟩ e23 hG ok) rfl rfl ?_
   rintro _ w ⟨m81,vs82,rfl,hle,ok,h83⟩
   have le_m0:=le_m0.trans hle
   have h2:=(mL mS).up hle h2
   have h4:=(mL mIns).up hle h4
   have h6:=(mL mS).up hle h6
   have h8:=(mL mIns).up hle h8
   obtain ⟨c84,c86,rfl,h85,h87⟩:=h83
   refine ⟨_,rfl,fun a E=>?_⟩
   refine wn<|qar (cl1 (cq le_m0 ok [0,1] rfl) (cq le_m0 ok [0,1] rfl)) fun hT=>qaP [2] (by kernel_rfl) rfl (qaT ?_)
   ·as_aux_lemma =>
     refine wo rfl<|qaf E qlu rfl (qfD N _ r22 ⟨_,_,rfl,h85,h87⟩ e32 hG hTb ok) rfl rfl ?_
     rintro _ w ⟨⟨rfl,ok⟩,l88⟩
     refine ⟨_,rfl,fun a E=>?_⟩
     refine wn<|qar (cl1 (cq le_m0 ok [0,1] rfl) (cq le_m0 ok [0,1] rfl)) fun hT=>qaP [4] (by kernel_rfl) rfl (qaT ?_)
     ·as_aux_lemma =>
       refine wo rfl<|qaf E qmW rfl (qfA N _ a_0 ⟨_,_,rfl,h2,h4⟩ e35 hG ok) rfl rfl ?_
       rintro _ w ⟨⟨rfl,ok⟩,l89⟩
       refine ⟨_,rfl,fun a E=>?_⟩
       refine wn<|qar (cl1 (cq le_m0 ok [0,1] rfl) (cq le_m0 ok [0,1] rfl)) fun hT=>kt 5 E rfl hT (qbm rfl rfl) fun a E=>kt 6 E rfl hT (qah rfl) fun a E=>?_
       have E:=E.upd 21 c37 rfl
       refine kt 7 E rfl hT (qan (cs:=[c1,c3]) qdx rfl rfl (qae.cown 1 rfl rfl)) fun a E=>kt 9 E rfl hT (qan (cs:=[c5,c7]) qdx rfl rfl (qae.cown 0 rfl rfl)) fun a E=>kt 12 E rfl hT (qan (cs:=[c1,c3]) qdx rfl rfl (qae.cown 1 rfl rfl)) fun a E=>kt 13 E rfl hT (qan (cs:=[c5,c7]) qdx rfl rfl (qae.cown 0 rfl rfl)) fun a E=>qaP [8] (by kernel_rfl) rfl (qaT ?_)
       ·as_aux_lemma =>
         refine wo rfl<|qaf E qho rfl (qcb N _ a_0 ⟨_,_,rfl,h2,h4⟩ e39 hG ok) rfl rfl ?_
         rintro _ w ⟨m90,vs91,rfl,hle,ok,h92⟩
         have le_m0:=le_m0.trans hle
         have h2:=(mL mS).up hle h2
         have h4:=(mL mIns).up hle h4
         have h6:=(mL mS).up hle h6
         have h8:=(mL mIns).up hle h8
         have h85:=(mL mS).up hle h85
         have h87:=(mL mIns).up hle h87
         obtain ⟨c93,c95,rfl,h94,h96⟩:=h92
         refine ⟨_,rfl,fun a E=>?_⟩
         refine wn<|qar (cl1 (cq le_m0 ok [0,1] rfl) (cq le_m0 ok [0,1] rfl)) fun hT=>qaP [10] (by kernel_rfl) rfl (qaT ?_)
         ·as_aux_lemma =>
           refine wo rfl<|qaf E qho rfl (qcb N _ b_1 ⟨_,_,rfl,h6,h8⟩ e48 hG ok) rfl rfl ?_
           rintro _ w ⟨m97,vs98,rfl,hle,ok,h99⟩
           have le_m0:=le_m0.trans hle
           have h2:=(mL mS).up hle h2
           have h4:=(mL mIns).up hle h4
           have h6:=(mL mS).up hle h6
           have h8:=(mL mIns).up hle h8
           have h85:=(mL mS).up hle h85
           have h87:=(mL mIns).up hle h87
           have h94:=(mL mS).up hle h94
           have h96:=(mL mIns).up hle h96
           obtain ⟨c100,c102,rfl,h101,h103⟩:=h99
           refine ⟨_,rfl,fun a E=>?_⟩
           refine wn<|qar (cl1 (cq le_m0 ok [0,1] rfl) (cq le_m0 ok [0,1] rfl)) fun hT=>qaP [11] (by kernel_rfl) rfl (qaT ?_)
           ·refine wo rfl<|lc E qlq rfl (qfp N _ r38 ⟨_,_,rfl,h94,h96⟩ _ r47 ⟨_,_,rfl,h101,h103⟩ e57 hG ok) fun w ok a E=>wn<|qar (cl1 (cq le_m0 ok [0,1] rfl) (cq le_m0 ok [0,1] rfl)) fun hT=>qaP [14] (by kernel_rfl) rfl (qaT ?_)
            ·refine wo rfl<|lc E qoq rfl (qgv N _ a_0 ⟨_,_,rfl,h2,h4⟩ _ b_1 ⟨_,_,rfl,h6,h8⟩ e59 hG ok) fun w ok a E=>wn<|qar (cl1 (cq le_m0 ok [0,1] rfl) (cq le_m0 ok [0,1] rfl)) fun hT=>kt 15 E rfl hT (qne Tryz.underlying4 rfl rfl) fun a E=>kt 16 E rfl hT (qdD rfl rfl) fun a E=>kt 17 E rfl hT (qah rfl) fun a E=>?_
             have E:=E.upd 32 c60 rfl
             refine kt 18 E rfl hT (qan (cs:=[c1,c3]) qdx rfl rfl (qae.cown 1 rfl rfl)) fun a E=>kt 20 E rfl hT (qan (cs:=[c1,c3]) qdx rfl rfl (qae.cown 1 rfl rfl)) fun a E=>qaP [19] (by kernel_rfl) rfl (qaT ?_)
             ·refine wo rfl<|qaf E qho rfl (qcb N _ a_0 ⟨_,_,rfl,h2,h4⟩ e62 hG ok) rfl rfl ?_
              rintro _ w ⟨m104,vs105,rfl,hle,ok,h106⟩
              have le_m0:=le_m0.trans hle
              have h2:=(mL mS).up hle h2
              have h4:=(mL mIns).up hle h4
              have h6:=(mL mS).up hle h6
              have h8:=(mL mIns).up hle h8
              have h85:=(mL mS).up hle h85
              have h87:=(mL mIns).up hle h87
              have h94:=(mL mS).up hle h94
              have h96:=(mL mIns).up hle h96
              have h101:=(mL mS).up hle h101
              have h103:=(mL mIns).up hle h103
              obtain ⟨c107,c109,rfl,h108,h110⟩:=h106
              refine ⟨_,rfl,fun a E=>?_⟩
              refine wn<|qar (cl1 (cq le_m0 ok [0,1] rfl) (cq le_m0 ok [0,1] rfl)) fun hT=>qaP [21] (by kernel_rfl) rfl (qaT ?_)
              ·refine wo rfl<|qaf E qho rfl (qcb N _ a_0 ⟨_,_,rfl,h2,h4⟩ e71 hG ok) rfl rfl ?_
               rintro _ w ⟨m111,vs112,rfl,hle,ok,h113⟩
               have le_m0:=le_m0.trans hle
               have h2:=(mL mS).up hle h2
               have h4:=(mL mIns).up hle h4
               have h6:=(mL mS).up hle h6
               have h8:=(mL mIns).up hle h8
               have h85:=(mL mS).up hle h85
               have h87:=(mL mIns).up hle h87
               have h94:=(mL mS).up hle h94
               have h96:=(mL mIns).up hle h96
               have h101:=(mL mS).up hle h101
               have h103:=(mL mIns).up hle h103
               have h108:=(mL mS).up hle h108
               have h110:=(mL mIns).up hle h110
               obtain ⟨c114,c116,rfl,h115,h117⟩:=h113
               refine ⟨_,rfl,fun a E=>?_⟩
               refine wn<|qar (cl1 (cq le_m0 ok [0,1] rfl) (cq le_m0 ok [0,1] rfl)) fun hT=>qaP [22] (by kernel_rfl) rfl (qaT ?_)
               ·refine wo rfl<|lc E qlq rfl (qfp N _ r61 ⟨_,_,rfl,h108,h110⟩ _ r70 ⟨_,_,rfl,h115,h117⟩ e80 hG ok) fun w ok a E=>wn<|qar (cl1 (cq le_m0 ok [0,1] rfl) (cq le_m0 ok [0,1] rfl)) fun hT=>kt 23 E rfl hT (qdD rfl rfl) fun a E=>kt 24 E rfl hT (qaI rfl) fun a E=>qbw (by kernel_rfl) ?_
                exact ⟨rfl,⟨m111,le_m0,ok,E.keep [4]⟩⟩
end Go.Proofs.YtllnjbnknjpbjaaGreatDoor
namespace Go.X
variable {H:Type} {enc:TypeId × Value → H}
end Go.X
namespace Go.X
open Go.ChangeShapes Go.RowKit
def OpnS {α:Type} (P:Program) (t:TypeId) (R:Rp α) (Q:α → Prop):Prop :=
 ∀ {H:Type} {enc:TypeId × Value → H} {W:World} {base:Nat} {spare:Nat → Bool} {held:Bool} {fuel:Nat} {cs:List Value} {x:DataW H × List MemPlace},
  DataW.trod enc P W base spare held fuel t cs = some x → (∀ n ∈ x.1.weights P t,n ≤ reachBytes) → ∃ a:α,R (hm W) cs a ∧ Q a
section
variable {P:Program} {t:TypeId}
theorem qmJ {k:IntKind} (ht:P.underlying t = some (.int k)):OpnS P t (pI k) (InR k):=fun h _=>by
 obtain ⟨a,ha⟩:=qp8 ht h
 exact ⟨a,ha,ha.2⟩
theorem qoe (ht:P.underlying t = some .string):OpnS P t pS (fun s=>s.length ≤ reachBytes):=fun h hz=>by
 obtain ⟨s,rfl,rfl,hs⟩:=DataW.trod_string ht h
 refine ⟨s.data.toList,⟨rfl,hs⟩,hz _ ?_⟩
 simp [DataW.weights]
theorem qit {H:Type} {e:TypeId}:∀ {l:List (DataW H)} {d:DataW H},d ∈ l → ∀ n ∈ d.weights P e,n ∈ DataW.weightsAll P e l
 | d0 :: l,d,h,n,hn=>by
  simp only [DataW.weightsAll,List.mem_append]
  rcases List.mem_cons.1 h with rfl | h
  ·exact .inl hn
  ·exact .inr (qit h n hn)
 | [],_,h,_,_=>by cases h
theorem qmo {α:Type} {e:TypeId} {n:Nat} {R:Rp α} {Q:α → Prop} (ht:P.underlying t = some (.slice e)) (hc:P.cellsOf e = n) (hn:0 < n) (hb:0 < P.bytesOf e) (he:OpnS P e R Q):OpnS P t (pL n R) (fun xs=>xs.length ≤ reachBytes ∧ ∀ y ∈ xs,Q y):=fun {H enc W base spare held fuel cs x} h hz=>by
 rcases Go.Deep.open_slice ht h with ⟨rfl,_⟩ | ⟨a,len,cap,m,fu,D,Pl,rfl,_,hl,hm',hm2,rfl,hel⟩
 ·exact ⟨[],⟨none,0,rfl,Nat.le_refl _,Nat.zero_le _,Nat.zero_le _,fun h=>absurd rfl h⟩,Nat.zero_le _,fun _ h=>by cases h⟩
 ·rw [hc] at hel
  have hlm:len ≤ m:=by rw [hm2]; split <;> omega
  have hlen:len ≤ reachBytes:=by
   have h1:=hz (((List.range len).map D).length + ((List.range (m - len)).map fun j=>D (len + j)).length |> (· * P.bytesOf e)) (by simp [DataW.weights,ht])
   simp only [List.length_map,List.length_range] at h1
   have h2:len * 1 ≤ (len + (m - len)) * P.bytesOf e:=Nat.mul_le_mul (by omega) hb
   omega
  have key:∀ i,i < len → ∃ y:α,(∃ es:List Value,es.length = n ∧ (∀ j v,es[j]? = some v → W.cell? (a.add (i * n + j)) = some v) ∧ R (hm W) es y) ∧ Q y:=by
   intro i hi
   obtain ⟨cs',h1,h2⟩:=hel i (by omega)
   obtain ⟨y,hy,hq⟩:=he h2 (fun k hk=>hz k (by
    simp only [DataW.weights,ht,List.mem_cons,List.mem_append]
    exact .inr (.inl (qit (List.mem_map.2 ⟨i,List.mem_range.2 hi,rfl⟩) k hk))))
   obtain ⟨_,hlen,hcell⟩:=World.cells?_some h1
   refine ⟨y,⟨cs',hlen,fun j v hj=>?_,hy⟩,hq⟩
   have hjn:j < n:=by rw [← hlen]; exact (List.getElem?_eq_some_iff.1 hj).1
   have:=hcell j hjn
   rw [hj] at this
   rw [qo1]
   exact this
  have pick:∃ f:Fin len → α,∀ i:Fin len,(∃ es:List Value,es.length = n ∧ (∀ j v,es[j]? = some v → W.cell? (a.add (i.1 * n + j)) = some v) ∧ R (hm W) es (f i)) ∧ Q (f i) :=
   ⟨fun i=>(key i.1 i.2).choose,fun i=>(key i.1 i.2).choose_spec⟩
  obtain ⟨f,hf⟩:=pick
  refine ⟨List.ofFn f,⟨some a,cap,by rw [List.length_ofFn],by rw [List.length_ofFn]; exact hl,hm',?_,fun h0=>?_⟩,by rw [List.length_ofFn]; exact hlen,fun y hy=>?_⟩
  ·rw [List.length_ofFn]; unfold maxLen at hm'; unfold LIMS; omega
  ·rw [List.length_ofFn] at h0
   obtain ⟨b,off,spot⟩:=a
   have hs:spot = none:=by
    obtain ⟨⟨es,e1,e2,_⟩,_⟩:=hf ⟨0,by omega⟩
    have hv:es[0]? = some (es[0]'(by omega)):=by simp
    have:=e2 0 _ hv
    simpa [Addr.add] using World.cell?_spot this
   subst hs
   refine ⟨b,off,rfl,fun i y hy=>?_⟩
   obtain ⟨hi,rfl⟩:=List.getElem?_eq_some_iff.1 hy
   have hi':i < len:=by simpa using hi
   obtain ⟨⟨es,e1,e2,e3⟩,_⟩:=hf ⟨i,hi'⟩
   refine ⟨es,e1,fun j v hj=>?_,by simpa using e3⟩
   have:=e2 j v hj
   refine qoX ?_
   rw [qn7] at this
   rw [Nat.add_assoc]
   exact this
  ·obtain ⟨i,rfl⟩:=List.mem_ofFn.1 hy
   exact (hf i).2
theorem ql0 {fs:Array Field} (ht:P.underlying t = some (.struct fs)) {H:Type} {enc:TypeId × Value → H} {W:World} {base:Nat} {spare:Nat → Bool} {held:Bool} {fuel:Nat} {cs:List Value} {x:DataW H × List MemPlace}
  (h:DataW.trod enc P W base spare held fuel t cs = some x) (hz:∀ n ∈ x.1.weights P t,n ≤ reachBytes) :
  cs.length = P.cellsOf t ∧ ∀ {α:Type} {R:Rp α} {Q:α → Prop} (i:Nat) (f:Field) (n:Nat),fs[i]? = some f → P.cellsOf f.type = n → OpnS P f.type R Q → ∃ a,R (hm W) ((cs.drop f.offset).take n) a ∧ Q a:=by
 obtain ⟨xs,n,_,hx,hl,hlen,hf⟩:=DataW.trod_struct ht h
 refine ⟨hl,fun {α R Q} i f n hi hn ho=>?_⟩
 have hi':i < xs.length:=by rw [hlen]; exact (Array.getElem?_eq_some_iff.1 hi).1
 have:=hf i f hi
 rw [List.getElem?_eq_getElem hi',hn] at this
 refine ho this fun k hk=>hz k ?_
 subst hx
 simp only [DataW.weights,ht]
 refine DataW.weights_mem_each (j:=i) (t:=f.type) (d:=xs[i].1) ?_ ?_ k hk
 ·simp [hi]
 ·simp [hi']
end
end Go.X
namespace Go.X
open Go.ChangeShapes Go.RowKit
section
variable {H:Type} {enc:TypeId × Value → H}
theorem qjs {a:Assume} {C:Checked} {os:Os} {f:FuncId} {fn:Func} {s:ChangeSpec} {conds:List PathCond} {apart fresh handsOn again:Bool} {X:World → Array Value → Prop}
  (hX:∀ (w w':World) (args:Array Value),w.heap = w'.heap → X w args → X w' args)
  (own:ownKnob C.prog.godebug = none) (started:os.Started) (noInit:C.prog.inits.idxOf? f = none) (hfn:C.prog.funcs[f]? = some fn)
  (witness:∃ (w:World) (tape:Tape) (i:Input),w.os = os ∧ (w.forCall tape i).Shaped C.prog ∧ i.vars = [] ∧ Input.okWide C.prog (w.forCall tape i) .any w.heap.size f i ∧
   ((s.pre enc C.prog fn conds apart (w.forCall tape i).memory i.args ∧ X (w.forCall tape i).memory i.args) ∧ sizedMet enc C.prog fn (OpenSpec.ofChange s) apart (w.forCall tape i).memory i.args) ∧ a.holds C.prog (lone (Frame.enter C.prog f i.args .normal) [] (w.forCall tape i)))
  (contract:∀ (W:World) (base:Nat) (args:Array Value) (ds gs:List (DataW H)) (before:List MemPlace),
   (∀ (j:Nat) t v,fn.params[j]? = some t → args[j]? = some v → Value.okWide C.prog W .any base t v) →
   DataW.Whole enc C.prog fn.params.toList s.vars apart W args.toList ds gs before → W.ShapedOpen C.prog →
   X W args → (DataW.weightsEach C.prog (fn.params.toList ++ s.plain.varTypes C.prog) (ds ++ gs)).all (· ≤ reachBytes) = true →
   Calls C.prog f args W fun e W'=>∃ v,e = .returned v ∧ s.post enc C.prog fn apart fresh handsOn again W args v W') :
  ReturnsInHanded a C os f .any (fun w args=>(s.pre enc C.prog fn conds apart w args ∧ X w args) ∧ sizedMet enc C.prog fn (OpenSpec.ofChange s) apart w args) (s.post enc C.prog fn apart fresh handsOn again):=by
 refine returnsInHanded_of_calls own started noInit witness ?_
 intro w tape i _ hsh _ hok hpre _
 obtain ⟨_,_,_,fn',hfn',_,_,_,_,hval⟩:=hok
 have e:fn' = fn:=Option.some.inj (hfn'.symm.trans hfn)
 subst e
 obtain ⟨⟨⟨ds,gs,before,hw,_⟩,hx⟩,hz⟩:=hpre
 have hw':=DataW.Whole.of_heap (w':=w.forCall tape i) (by rfl) hw
 refine (contract (w.forCall tape i) w.heap.size i.args ds gs before hval hw' hsh (hX _ _ _ (by rfl) hx) (hz.weights hw)).mono fun e W' ⟨v,he,hp⟩=>?_
 subst he
 exact ChangeSpec.post_blind hp
end
end Go.X
namespace Go.X
open Go.ChangeShapes Go.RowKit
end Go.X
namespace Go.Proofs.YtllnjbnknjpbjaaGreatDoor
open Go.ChangeShapes Go.WideShapes Go.ChangeAt Go.RowKit Go.X
theorem own:ownKnob Tryz.prog.godebug = none:=by kernel_rfl
theorem qmD:laidOutB Tryz.prog = true:=by kernel_rfl
theorem qm6 {H:Type} {enc:TypeId × Value → H} {W:World} {base:Nat} {sp:Nat → Bool} {held:Bool} (b:Bool):DataW.Trod enc Tryz.prog W base sp held 4 (.bool b) (.lit (.bool b)) [] :=
 ⟨1,by simp [DataW.trod,Value.cells,Tryz.underlying4]⟩
theorem qo8 {W:World} (h:W.ShapedOpen Tryz.prog):Glob W:=cell_of_shapedOpen_int (g:=3) (t:=3) (zero:=#[.int .i64 0]) h (of_decide_eq_true (by kernel_rfl)) (by kernel_rfl) (by kernel_rfl) (by kernel_rfl) (by kernel_rfl) Tryz.underlying3
theorem ce3:Tryz.prog.cellsOf 3 = 1:=by kernel_rfl
theorem ce9:Tryz.prog.cellsOf 9 = 1:=by kernel_rfl
theorem ce25:Tryz.prog.cellsOf 25 = 1:=by kernel_rfl
theorem ce32:Tryz.prog.cellsOf 32 = 1:=by kernel_rfl
theorem ce34:Tryz.prog.cellsOf 34 = 2:=by kernel_rfl
theorem ce61:Tryz.prog.cellsOf 61 = 4:=by kernel_rfl
theorem o_61:OpnS Tryz.prog 61 pIns (fun x=>(InR .i64 x.Op ∧ InR .i64 x.A ∧ InR .i64 x.B ∧ x.S.length ≤ reachBytes)):=fun h hz=>by
 obtain ⟨hl,hf⟩:=ql0 Tryz.underlying61 h hz
 obtain ⟨c0,c1,c2,c3,rfl⟩:=len4 (hl.trans ce61)
 obtain ⟨a0,h0,q0⟩:=hf 0 _ 1 rfl ce3 (qmJ Tryz.underlying3)
 obtain ⟨a1,h1,q1⟩:=hf 1 _ 1 rfl ce3 (qmJ Tryz.underlying3)
 obtain ⟨a2,h2,q2⟩:=hf 2 _ 1 rfl ce3 (qmJ Tryz.underlying3)
 obtain ⟨a3,h3,q3⟩:=hf 3 _ 1 rfl ce9 (qoe Tryz.underlying9)
 have h0:(pI .i64) _ [c0] a0:=h0
 obtain ⟨rfl,g0⟩:=ql6 h0
 have h1:(pI .i64) _ [c1] a1:=h1
 obtain ⟨rfl,g1⟩:=ql6 h1
 have h2:(pI .i64) _ [c2] a2:=h2
 obtain ⟨rfl,g2⟩:=ql6 h2
 have h3:pS _ [c3] a3:=h3
 obtain ⟨rfl,g3⟩:=qpN h3
 exact ⟨⟨a0,a1,a2,a3⟩,⟨rfl,g0,g1,g2,g3⟩,⟨q0,q1,q2,q3⟩⟩
theorem o_34:OpnS Tryz.prog 34 qeY (fun x=>((x.Names.length ≤ reachBytes ∧ ∀ y9 ∈ x.Names,y9.length ≤ reachBytes) ∧ (x.Ins.length ≤ reachBytes ∧ ∀ y10 ∈ x.Ins,(InR .i64 y10.Op ∧ InR .i64 y10.A ∧ InR .i64 y10.B ∧ y10.S.length ≤ reachBytes)))):=fun h hz=>by
 obtain ⟨hl,hf⟩:=ql0 Tryz.underlying34 h hz
 obtain ⟨c0,c1,rfl⟩:=len2 (hl.trans ce34)
 obtain ⟨a0,h0,q0⟩:=hf 0 _ 1 rfl ce25 (qmo Tryz.underlying25 ce9 (Nat.succ_pos _) (of_decide_eq_true (by kernel_rfl)) (qoe Tryz.underlying9))
 obtain ⟨a1,h1,q1⟩:=hf 1 _ 1 rfl ce32 (qmo Tryz.underlying32 ce61 (Nat.succ_pos _) (of_decide_eq_true (by kernel_rfl)) o_61)
 have h0:(pL 1 pS) _ [c0] a0:=h0
 have h1:(pL 4 pIns) _ [c1] a1:=h1
 exact ⟨⟨a0,a1⟩,⟨c0,c1,rfl,h0,h1⟩,⟨q0,q1⟩⟩
theorem qj3 {W:World} (h:laidMetH Tryz.prog Rows.compileTextsRow.laid W):Tab W:=by
 rw [MakeChecks.laidMetH_plain _ _ _ (by kernel_rfl)] at h
 exact Lib.tabIs_of_head (g:=0) (t:=180) (e:=152) (by kernel_rfl) (by kernel_rfl) Tryz.underlying180 (by kernel_rfl) (by kernel_rfl) (by kernel_rfl) (show laidMet Tryz.prog (("internal/strconv.uint64pow10",Lib.tabData .u64 Lib.pow10Tab) :: _) W from laidMet.tail (x:=_) (laidMet.tail (x:=_) h))
set_option maxRecDepth 100000 in
theorem qjg (hp:∀ x0 x1,((x0.Names.length ≤ reachBytes ∧ ∀ y3 ∈ x0.Names,y3.length ≤ reachBytes) ∧ (x0.Ins.length ≤ reachBytes ∧ ∀ y4 ∈ x0.Ins,(InR .i64 y4.Op ∧ InR .i64 y4.A ∧ InR .i64 y4.B ∧ y4.S.length ≤ reachBytes))) → ((x1.Names.length ≤ reachBytes ∧ ∀ y7 ∈ x1.Names,y7.length ≤ reachBytes) ∧ (x1.Ins.length ≤ reachBytes ∧ ∀ y8 ∈ x1.Ins,(InR .i64 y8.Op ∧ InR .i64 y8.A ∧ InR .i64 y8.B ∧ y8.S.length ≤ reachBytes))) → ∃ N,qbU N x0 x1 = some true) (os:Os) (started:os.Started) (H:Type) (enc:TypeId × Value → H) :
  ReturnsInHanded {} Tryz.checked os 4 .any (fun w args=>(Rows.compileTextsSpec.pre enc Tryz.prog Tryz.f4 [] false w args ∧ laidMetH Tryz.prog Rows.compileTextsRow.laid w) ∧ sizedMet enc Tryz.prog Tryz.f4 (OpenSpec.ofChange Rows.compileTextsSpec) false w args)
   (Rows.compileTextsSpec.post enc Tryz.prog Tryz.f4 false true false false):=by
 refine qjs (C:=Tryz.checked) (X:=fun w _=>laidMetH Tryz.prog Rows.compileTextsRow.laid w) (fun _ _ _ hh h=>laidMetH.of_heap hh h) own started (by kernel_rfl) Tryz.func4
  (ChangeSpec.witness_shaped (enc:=enc) (C:=Tryz.checked) (os:=os) (X:=fun w _=>laidMetH Tryz.prog Rows.compileTextsRow.laid w) false (World.laidAll Tryz.prog os Rows.compileTextsRow.laid) #[.agg #[.slice none 0 0,.slice none 0 0],.agg #[.slice none 0 0,.slice none 0 0]] 8 (World.laidAll_os _ _ _)
   (World.shaped_of_ZipB (by kernel_rfl) (by kernel_rfl)) (by kernel_rfl) (by kernel_rfl) (by kernel_rfl)
   (by rw [MakeChecks.laidMetH_plain _ _ _ (by kernel_rfl)]; exact laidMet_laidAll _ (by kernel_rfl) (by kernel_rfl))) ?_
 intro W base args ds gs before hval0 hW hsh hX hz
 have hval:∀ (j:Nat) t v,Tryz.f4.params[j]? = some t → args[j]? = some v → Value.okWide Tryz.prog W .any base t v:=hval0
 have hW':=hW
 obtain ⟨p,q,hA0,hV,rfl,_,_⟩:=hW
 have hA:DataW.TrodAll enc Tryz.prog W 0 (fun _=>true) true Tryz.f4.params.toList args.toList ds p:=hA0
 rw [Tryz.params4] at hA hval
 obtain ⟨v0,v1,d0,d1,p0,p1,rfl,rfl,rfl,k0,k1⟩:=trodAll_two hA
 obtain ⟨rfl,rfl⟩:=trodVars_none hV
 obtain ⟨fu0,hf0⟩:=id k0
 have hz0:∀ n ∈ d0.weights Tryz.prog 34,n ≤ reachBytes:=fun n hn=>by
  have:=List.all_eq_true.1 hz n (DataW.weights_mem_each (j:=0) (t:=34) (d:=d0) (by rw [Tryz.params4]; rfl) rfl n hn)
  simpa using this
 obtain ⟨s0,rfl,_⟩:=okWide_struct Tryz.underlying34 (hval 0 34 v0 rfl rfl)
 obtain ⟨a0,r0,q0⟩:=o_34 hf0 hz0
 obtain ⟨fu1,hf1⟩:=id k1
 have hz1:∀ n ∈ d1.weights Tryz.prog 34,n ≤ reachBytes:=fun n hn=>by
  have:=List.all_eq_true.1 hz n (DataW.weights_mem_each (j:=1) (t:=34) (d:=d1) (by rw [Tryz.params4]; rfl) rfl n hn)
  simpa using this
 obtain ⟨s1,rfl,_⟩:=okWide_struct Tryz.underlying34 (hval 1 34 v1 rfl rfl)
 obtain ⟨a1,r1,q1⟩:=o_34 hf1 hz1
 clear hA0 hval0
 have hlt:∀ x ∈ p0 ++ p1,x.block < W.heap.size:=fun x hx=>by
  refine hW'.lt x ?_
  simpa using hx
 have hlt0:∀ x ∈ p0,x.block < W.heap.size:=fun x hx=>hlt x (by simp [hx])
 have hlt1:∀ x ∈ p1,x.block < W.heap.size:=fun x hx=>hlt x (by simp [hx])
 obtain ⟨N,hN⟩:=hp a0 a1 q0 q1
 have hw:=qg2 N s0.toList a0 r0 s1.toList a1 r1 hN (qo8 hsh) (qj3 hX) (Ok.start W)
 refine hw.mono fun e W' ⟨he,ok⟩=>?_
 subst he
 have hn:=ok.below
 have t0:=Below.trod qmD (by kernel_rfl) (of_decide_eq_true (by kernel_rfl)) k0 hn hlt0
 have t1:=Below.trod qmD (by kernel_rfl) (of_decide_eq_true (by kernel_rfl)) k1 hn hlt1
 refine ⟨_,rfl,_,_,_,[],p0 ++ p1,[],hW',?_,?_,rfl,hn.frame _,fun h=>by cases h⟩
 ·exact trodAll_mk1 (qm6 true)
 ·exact trodAll_mk2 t0 t1
theorem qjl (hp:∀ x0 x1,((x0.Names.length ≤ reachBytes ∧ ∀ y3 ∈ x0.Names,y3.length ≤ reachBytes) ∧ (x0.Ins.length ≤ reachBytes ∧ ∀ y4 ∈ x0.Ins,(InR .i64 y4.Op ∧ InR .i64 y4.A ∧ InR .i64 y4.B ∧ y4.S.length ≤ reachBytes))) → ((x1.Names.length ≤ reachBytes ∧ ∀ y7 ∈ x1.Names,y7.length ≤ reachBytes) ∧ (x1.Ins.length ≤ reachBytes ∧ ∀ y8 ∈ x1.Ins,(InR .i64 y8.Op ∧ InR .i64 y8.A ∧ InR .i64 y8.B ∧ y8.S.length ≤ reachBytes))) → ∃ N,qbU N x0 x1 = some true):Rows.CompileTextsSaid :=
 OpenClaim.holds_of_wide 4 Tryz.f4 rfl rfl rfl rfl rfl rfl rfl ⟨rfl,rfl,rfl,rfl,rfl⟩ rfl rfl rfl rfl rfl (by kernel_rfl) Tryz.func4 (by kernel_rfl)
  (of_decide_eq_true (by kernel_rfl)) (by unfold Func.isWrapper; rw [if_neg (of_decide_eq_false (by kernel_rfl))]; exact ⟨rfl,rfl⟩)
  (fun os started H enc _=>qjg hp os started H enc)
set_option maxRecDepth 100000 in
theorem qjO (hp:∀ x0 x1,((x0.Names.length ≤ reachBytes ∧ ∀ y3 ∈ x0.Names,y3.length ≤ reachBytes) ∧ (x0.Ins.length ≤ reachBytes ∧ ∀ y4 ∈ x0.Ins,(InR .i64 y4.Op ∧ InR .i64 y4.A ∧ InR .i64 y4.B ∧ y4.S.length ≤ reachBytes))) → ((x1.Names.length ≤ reachBytes ∧ ∀ y7 ∈ x1.Names,y7.length ≤ reachBytes) ∧ (x1.Ins.length ≤ reachBytes ∧ ∀ y8 ∈ x1.Ins,(InR .i64 y8.Op ∧ InR .i64 y8.A ∧ InR .i64 y8.B ∧ y8.S.length ≤ reachBytes))) → ∃ N,qbU N x0 x1 = some true):Rows.CompileTextsCardSaid :=
 Claim7.holds_tied_plain_at .later [] [.data,.data,.data,.data,.pinned] true (true, "cd4754380206506a70dd36d633d109d5e8045f059cbd1434efc2c0c46820c32e") true (qjl hp) (fun _ h=>by cases h) (by kernel_rfl) (fun _ h=>by cases h) compileTexts_row_tie rfl ⟨rfl,rfl⟩ (by kernel_rfl) rfl
  (fun f fn hf hfn=>by
   obtain rfl:f = 4:=Option.some.inj ((show Tryz.prog.funcNamed "calque/calquelaw33.CompileTexts" = some 4 by kernel_rfl).symm.trans hf) |>.symm
   obtain rfl:fn = Tryz.f4:=(Option.some.inj (Tryz.func4.symm.trans hfn)).symm
   exact ⟨by kernel_rfl,fun j t ht=>by
    rw [Tryz.params4] at ht
    have hm:t ∈ [34,34]:=by simpa using Array.mem_of_getElem? ht
    have hall:([34,34].all fun u=>!Tryz.prog.wantsStandIn u) = true:=by kernel_rfl
    exact (show Tryz.prog.wantsStandIn t = false by simpa using List.all_eq_true.1 hall t hm)⟩)
  (by kernel_rfl)
end Go.Proofs.YtllnjbnknjpbjaaGreatDoor
namespace Go.X
def scan (p:List UInt8 → Bool):List UInt8 → Nat
 | []=>0
 | b :: l=>if p (b :: l) then 0 else scan p l + 1
def fnd (sub:List UInt8) (s:List UInt8):Nat:=scan (fun l=>sub.isPrefixOf l) s
end Go.X
namespace Go.X
def run {σ α β:Type} (f:σ → α → σ ⊕ β) (fin:σ → β):σ → List α → β
 | s,[]=>fin s
 | s,x :: xs=>match f s x with
  | .inl s'=>run f fin s' xs
  | .inr b=>b
end Go.X
namespace Go.Proofs.YtllnjbnknjpbjaaGreatDoor
open Go.X
def dgt (c:UInt8):Bool:=decide (48 ≤ c.toNat) && decide (c.toNat ≤ 57)
def zr (c:UInt8):Bool:=c == 48
def neg (s:List UInt8):Bool:=([45]:List UInt8).isPrefixOf s
def bod (s:List UInt8):List UInt8:=if neg s then s.drop 1 else s
def pt (s:List UInt8):Bool:=decide (fnd [46] (bod s) < (bod s).length)
def wh (s:List UInt8):List UInt8:=(bod s).take (fnd [46] (bod s))
def fr (s:List UInt8):List UInt8:=if pt s then (bod s).drop (fnd [46] (bod s) + 1) else []
def vld (s:List UInt8):Bool :=
 !(decide (((wh s).length:Int) < 1)) && (!(decide (((wh s).length:Int) > 15)) && ((wh s).all dgt && (!(decide (((wh s).length:Int) > 1) && (((wh s).getD 0 0).toNat:Int) == 48) &&
 (!(pt s && (((fr s).length:Int) == 0)) && (!(decide (((fr s).length:Int) > 6)) && ((fr s).all dgt && !(neg s && ((wh s).all zr && (fr s).all zr))))))))
end Go.Proofs.YtllnjbnknjpbjaaGreatDoor
namespace Go.Proofs.YtllnjbnknjpbjaaGreatDoor
open Go.X
abbrev Str:=List UInt8
def lwr (c:UInt8):Bool:=decide (97 ≤ c.toNat) && decide (c.toNat ≤ 122)
def ltr (c:UInt8):Bool:=lwr c || (decide (65 ≤ c.toNat) && decide (c.toNat ≤ 90))
def inn (c:UInt8):Bool:=ltr c || dgt c || c == 95 || c == 45
def hdl:Str → Bool
 | []=>false
 | c :: _=>lwr c
def nam (s:Str):Bool:=decide (s.length ≤ 40) && (hdl s && s.all inn)
def clss:List Str:=[[122,101,114,111],[111,110,101],[116,119,111],[102,101,119],[109,97,110,121],[111,116,104,101,114]]
def key (B:Int) (s:Str):Bool:=if B == 9 then nam s else clss.contains s || (([61]:Str).isPrefixOf s && vld (s.drop 1))
end Go.Proofs.YtllnjbnknjpbjaaGreatDoor
namespace Go.Proofs.YtllnjbnknjpbjaaGreatDoor
open Go.X
mutual
def Part.blk:Part → Nat
 | ⟨_,t,n,s,cs,ps⟩=>t.length + n.length + s.length + blkCs cs + blkPs ps + 7
def blkPs:List Part → Nat
 | []=>0
 | p :: r=>p.blk + blkPs r
def blkCs:List (CaseP Part) → Nat
 | []=>0
 | c :: r=>blkC c + blkCs r
def blkC:CaseP Part → Nat
 | ⟨k,ps⟩=>k.length + blkPs ps + 3
end
abbrev Case.blk:Case → Nat:=blkC
theorem qlN (l:List Part) (k:Nat):blkPs (l.take k) ≤ blkPs l:=by
 induction l generalizing k with
 | nil=>simp
 | cons p r ih =>
  cases k with
  | zero=>simp [blkPs]
  | succ k=>rw [List.take_succ_cons,blkPs,blkPs]; have:=ih k; omega
theorem dk {α:Type} {l:List α} {k:Nat} {x:α} (h:l[k]? = some x):decide ((k:Int) < (l.length:Int)) = true:=decide_eq_true (by have:=(List.getElem?_eq_some_iff.1 h).1; omega)
theorem dn {α:Type} (l:List α):decide ((l.length:Int) < (l.length:Int)) = false:=decide_eq_false (by omega)
theorem ix {α:Type} {l:List α} {k:Nat} {x:α} (h:l[k]? = some x):idx l (k:Int) = some x:=by
 unfold idx
 rw [if_pos (by omega),Int.toNat_natCast,h]
end Go.Proofs.YtllnjbnknjpbjaaGreatDoor
namespace Go.Proofs.YtllnjbnknjpbjaaGreatDoor
open Go.X
theorem appS {α:Type} {a b:List α} (h:a.length + b.length ≤ 4000000000):app a b = some (a ++ b):=by unfold app; rw [if_pos (by unfold LIM; omega)]
theorem qiS {α τ β:Type} (xs:List α) (body:τ → Option (τ ⊕ β)) (J:Nat → τ → Prop) (Post:β → Prop)
  (h1:∀ (k:Nat) x s,xs[k]? = some x → J k s → ∃ o,body s = some o ∧ (∀ s',o = .inl s' → J (k + 1) s') ∧ ∀ b,o = .inr b → Post b)
  (h2:∀ s,J xs.length s → ∃ b,body s = some (.inr b) ∧ Post b):∀ N s,xs.length < N → J 0 s → ∃ b,iter body N s = some b ∧ Post b:=by
 have key:∀ j k N s,k + j = xs.length → j < N → J k s → ∃ b,iter body N s = some b ∧ Post b:=by
  intro j
  induction j with
  | zero =>
   intro k N s hk hN hJ
   obtain ⟨N,rfl⟩:∃ M,N = M + 1:=⟨N - 1,by omega⟩
   obtain rfl:k = xs.length:=by omega
   obtain ⟨b,hb,hp⟩:=h2 s hJ
   exact ⟨b,by rw [iter,hb],hp⟩
  | succ j ih =>
   intro k N s hk hN hJ
   obtain ⟨N,rfl⟩:∃ M,N = M + 1:=⟨N - 1,by omega⟩
   obtain ⟨o,ho,hs,hp⟩:=h1 k _ s (List.getElem?_eq_getElem (show k < xs.length by omega)) hJ
   rw [iter,ho]
   cases o with
   | inl s'=>exact ih (k + 1) N s' (by omega) (by omega) (hs s' rfl)
   | inr b=>exact ⟨b,rfl,hp b rfl⟩
 intro N s hN hJ
 exact key xs.length 0 N s (by omega) hN hJ
theorem qh3 {α τ β:Type} {G:Prop} (xs:List α) (body:τ → Option (τ ⊕ β)) (J:Nat → τ → Prop) (Post:β → Prop) (N:Nat) (s:τ) (hN:xs.length < N) (h0:J 0 s)
  (h1:∀ (k:Nat) x s,xs[k]? = some x → J k s → ∃ o,body s = some o ∧ (∀ s',o = .inl s' → J (k + 1) s') ∧ ∀ b,o = .inr b → Post b)
  (h2:∀ s,J xs.length s → ∃ b,body s = some (.inr b) ∧ Post b) (K:∀ b,iter body N s = some b → Post b → G):G:=by
 obtain ⟨b,hb,hp⟩:=qiS xs body J Post h1 h2 N s hN h0
 exact K b hb hp
theorem qeh {α:Type} {l:List α} {k:Nat} {x:α} (h:l[k]? = some x):l.take (k + 1) = l.take k ++ [x]:=by
 rw [List.take_add_one,h]; rfl
def sel (k:Int):Bool:=k == 7 || (k == 8 || k == 9)
end Go.Proofs.YtllnjbnknjpbjaaGreatDoor
namespace Go.Proofs.YtllnjbnknjpbjaaGreatDoor
open Go.X
end Go.Proofs.YtllnjbnknjpbjaaGreatDoor
namespace Go.Proofs.YtllnjbnknjpbjaaGreatDoor
open Go.X
end Go.Proofs.YtllnjbnknjpbjaaGreatDoor
namespace Go.Proofs.YtllnjbnknjpbjaaGreatDoor
open Go.X
end Go.Proofs.YtllnjbnknjpbjaaGreatDoor
namespace Go.Proofs.YtllnjbnknjpbjaaGreatDoor
open Go.X
theorem qjY (l:Str):(ints l).length = l.length:=by unfold ints; simp
end Go.Proofs.YtllnjbnknjpbjaaGreatDoor
namespace Go.Proofs.YtllnjbnknjpbjaaGreatDoor
open Go.X
end Go.Proofs.YtllnjbnknjpbjaaGreatDoor
namespace Go.Proofs.YtllnjbnknjpbjaaGreatDoor
open Go.X
end Go.Proofs.YtllnjbnknjpbjaaGreatDoor
namespace Go.Proofs.YtllnjbnknjpbjaaGreatDoor
open Go.X
end Go.Proofs.YtllnjbnknjpbjaaGreatDoor
namespace Go.Proofs.YtllnjbnknjpbjaaGreatDoor
open Go.X
theorem qmL (n:Nat):qd4 (n + 60) = some true:=by kernel_rfl
end Go.Proofs.YtllnjbnknjpbjaaGreatDoor
namespace Go.Proofs.YtllnjbnknjpbjaaGreatDoor
open Go.X
end Go.Proofs.YtllnjbnknjpbjaaGreatDoor
namespace Go.Proofs.YtllnjbnknjpbjaaGreatDoor
open Go.X
end Go.Proofs.YtllnjbnknjpbjaaGreatDoor
namespace Go.Proofs.YtllnjbnknjpbjaaGreatDoor
open Go.X
theorem qns {N:Nat} {c:Code} (hN:c.Ins.length < N) (hl:c.Ins.length ≤ 3000000):qcr N c = some c:=by
 unfold qcr
 refine qh3 c.Ins (fun s=>qcU N c s.1 s.2) (fun k s=>s = ((k:Int),Code.mk c.Names (c.Ins.take k))) (fun b=>b = c) N (0,Code.mk c.Names []) hN rfl (fun k x s hx hJ=>?_) (fun s hJ=>?_) fun b hb1 hb2=>?_
 ·subst hJ
  have hlt:=(List.getElem?_eq_some_iff.1 hx).1
  simp only [qcU,dk hx,cond_true,ix hx,Option.bind_some]
  rw [appS (by rw [List.length_take,List.length_singleton]; omega)]
  refine ⟨_,rfl,(fun s' h=>?_),fun b h=>by cases h⟩
  cases h
  rw [qeh hx]; rfl
 ·subst hJ
  simp only [qcU,dn,cond_false]
  exact ⟨_,rfl,by rw [List.take_length]⟩
 ·rw [hb1,hb2,Option.bind_some]
def insE (a b:Ins):Bool:=(a.Op == b.Op) && ((a.A == b.A) && ((a.B == b.B) && (a.S == b.S)))
theorem qlR {a b:Ins}:insE a b = true ↔ a = b:=by
 obtain ⟨o,a1,b1,s⟩:=a
 obtain ⟨o',a2,b2,s'⟩:=b
 unfold insE
 simp
theorem qiL {α:Type} {a b:List α} (hl:a.length = b.length) (body:Int → Option (Int ⊕ (Unit ⊕ Bool))) (e:α → α → Bool) (he:∀ x y,e x y = true ↔ x = y)
  (h1:∀ (k:Nat) x y,a[k]? = some x → b[k]? = some y → body (k:Int) = some (bif e x y then .inl ((k:Int) + 1) else .inr (.inr false))) (h2:body (a.length:Int) = some (.inr (.inl ()))) (N:Nat) (hN:a.length < N) :
  ∃ r,iter body N 0 = some r ∧ ((r = .inl () ∧ a = b) ∨ (r = .inr false ∧ a ≠ b)):=by
 refine qiS a body (fun k s=>s = (k:Int) ∧ a.take k = b.take k) (fun r=>(r = .inl () ∧ a = b) ∨ (r = .inr false ∧ a ≠ b)) (fun k x s hx hJ=>?_) (fun s hJ=>?_) N 0 hN ⟨rfl,rfl⟩
 ·obtain ⟨rfl,ht⟩:=hJ
  have hlt:=(List.getElem?_eq_some_iff.1 hx).1
  obtain ⟨y,hy⟩:∃ y,b[k]? = some y:=⟨b[k],List.getElem?_eq_getElem (by omega)⟩
  rw [h1 k x y hx hy]
  cases hxy:e x y with
  | true =>
   refine ⟨_,rfl,(fun s' h=>?_),fun b h=>by cases h⟩
   cases h
   exact ⟨by omega,by rw [qeh hx,qeh hy,ht,(he x y).1 hxy]⟩
  | false =>
   refine ⟨_,rfl,(fun s' h=>by cases h),fun r h=>?_⟩
   cases h
   refine .inr ⟨rfl,fun hab=>?_⟩
   subst hab
   rw [hx] at hy
   cases hy
   rw [(he x x).2 rfl] at hxy
   cases hxy
 ·obtain ⟨rfl,ht⟩:=hJ
  refine ⟨_,h2,.inl ⟨rfl,?_⟩⟩
  rw [List.take_length,hl,List.take_length] at ht
  exact ht
theorem qof (a b:Str):(a == b) = true ↔ a = b:=beq_iff_eq
theorem qkb {α:Type} {a b:List α} (h:((a.length:Int) != (b.length:Int)) = true):a ≠ b:=by
 rintro rfl
 simp at h
theorem qko {α:Type} {a b:List α} (h:((a.length:Int) != (b.length:Int)) = false):a.length = b.length:=by
 have:(a.length:Int) = (b.length:Int):=by simpa using h
 omega
theorem qnk {N:Nat} {a b:Code} (h1:a.Names.length < N) (h2:a.Ins.length < N):∃ r,qd2 N a b = some r ∧ (r = true ↔ a = b):=by
 obtain ⟨an,ai⟩:=a
 obtain ⟨bn,bi⟩:=b
 unfold qd2
 simp only at h1 h2 ⊢
 cases e1:((an.length:Int) != (bn.length:Int)) with
 | true=>exact ⟨false,rfl,by simp [qkb e1]⟩
 | false =>
  cases e2:((ai.length:Int) != (bi.length:Int)) with
  | true=>exact ⟨false,rfl,by simp [qkb e2]⟩
  | false =>
   obtain ⟨r1,hr1,p1⟩:=qiL (qko e1) (fun s=>qcB N ⟨an,ai⟩ ⟨bn,bi⟩ s) (fun x y=>x == y) qof (fun k x y hx hy=>by
    simp only [qcB,dk hx,cond_true,ix hx,ix hy,Option.bind_some,bne]
    cases (x == y) <;> rfl) (by simp only [qcB,dn,cond_false]) N h1
   obtain ⟨r2,hr2,p2⟩:=qiL (qko e2) (fun s=>qcF N ⟨an,ai⟩ ⟨bn,bi⟩ s) insE (fun _ _=>qlR) (fun k x y hx hy=>by
    simp only [qcF,dk hx,cond_true,ix hx,ix hy,Option.bind_some]
    show (bif (!insE x y) then _ else _) = _
    cases insE x y <;> rfl) (by simp only [qcF,dn,cond_false]) N h2
   simp only [cond_false]
   rw [hr1,hr2]
   rcases p1 with ⟨rfl,h3⟩ | ⟨rfl,h3⟩
   ·rcases p2 with ⟨rfl,h4⟩ | ⟨rfl,h4⟩
    ·exact ⟨true,rfl,by simp [h3,h4]⟩
    ·exact ⟨false,rfl,by simp [h4]⟩
   ·exact ⟨false,rfl,by simp [h3]⟩
theorem qki {N:Nat} {a b:Code} (h1:a.Names.length < N) (h2:a.Ins.length < N):∃ r,qdY N a b = some r ∧ (r = true ↔ a = b):=by
 obtain ⟨an,ai⟩:=a
 obtain ⟨bn,bi⟩:=b
 unfold qdY qcT qb2
 simp only at h1 h2 ⊢
 cases e1:((an.length:Int) != (bn.length:Int)) with
 | true=>exact ⟨false,rfl,by simp [qkb e1]⟩
 | false =>
  obtain ⟨r1,hr1,p1⟩:=qiL (qko e1) (fun s=>qbP N an bn s) (fun x y=>x == y) qof (fun k x y hx hy=>by
   simp only [qbP,dk hx,cond_true,ix hx,ix hy,Option.bind_some,bne]
   cases (x == y) <;> rfl) (by simp only [qbP,dn,cond_false]) N h1
  simp only [cond_false]
  rw [hr1]
  rcases p1 with ⟨rfl,h3⟩ | ⟨rfl,h3⟩
  ·simp only [Option.bind_some,Sum.elim_inl,cond_true]
   cases e2:((ai.length:Int) != (bi.length:Int)) with
   | true=>exact ⟨false,rfl,by simp [qkb e2]⟩
   | false =>
    obtain ⟨r2,hr2,p2⟩:=qiL (qko e2) (fun s=>qbi N ai bi s) insE (fun _ _=>qlR) (fun k x y hx hy=>by
     simp only [qbi,dk hx,cond_true,ix hx,ix hy,Option.bind_some]
     show (bif (!insE x y) then _ else _) = _
     cases insE x y <;> rfl) (by simp only [qbi,dn,cond_false]) N h2
    simp only [cond_false]
    rw [hr2]
    rcases p2 with ⟨rfl,h4⟩ | ⟨rfl,h4⟩
    ·exact ⟨true,rfl,by simp [h3,h4]⟩
    ·exact ⟨false,rfl,by simp [h4]⟩
  ·exact ⟨false,rfl,by simp [h3]⟩
theorem qna {N:Nat} (h:60 ≤ N):qd4 N = some true:=by
 obtain ⟨n,rfl⟩:∃ n,N = n + 60:=⟨N - 60,by omega⟩
 exact qmL n
end Go.Proofs.YtllnjbnknjpbjaaGreatDoor
namespace Go.Proofs.YtllnjbnknjpbjaaGreatDoor
open Go.X
theorem dig1 (F:Nat) {d:Int} (h0:0 ≤ d) (h1:d < 10):qcQ (F + 1) d = some (Lib.itoa d):=by
 obtain ⟨n,rfl⟩:∃ n:Nat,d = (n:Int):=⟨d.toNat,by omega⟩
 have hn:n < 10:=by omega
 show qbZ _ F (n:Int) = _
 unfold qbZ
 rw [decide_eq_true (by omega),cond_true,decide_eq_true (by omega),cond_true]
 rcases (show n = 0 ∨ n = 1 ∨ n = 2 ∨ n = 3 ∨ n = 4 ∨ n = 5 ∨ n = 6 ∨ n = 7 ∨ n = 8 ∨ n = 9 by omega) with rfl | rfl | rfl | rfl | rfl | rfl | rfl | rfl | rfl | rfl <;>
  (unfold Lib.itoa; rw [if_neg (by decide)]; rw [Lib.decDigits]; rfl)
theorem digF:∀ (F:Nat) (n:Int),n.natAbs < 10 ^ F → InR .i64 n → qcQ (F + 1) n = some (Lib.itoa n)
 | 0,n,h,_=>by
  rw [Nat.pow_zero] at h
  exact dig1 0 (by omega) (by omega)
 | F + 1,n,h,hr=>by
  rw [qbC] at hr
  by_cases h1:0 ≤ n ∧ n < 10
  ·exact dig1 _ h1.1 h1.2
  ·rw [Nat.pow_succ] at h
   show qbZ (qcQ (F + 1)) (F + 1) n = _
   unfold qbZ
   have hrm:rm n 10 = some (n.tmod 10):=by unfold rm; rw [if_neg (by decide)]
   by_cases hn:0 ≤ n
   ·obtain ⟨k,rfl⟩:∃ k:Nat,n = (k:Int):=⟨n.toNat,by omega⟩
    have hk:¬ k < 10:=by omega
    have e1:((k:Int).tdiv 10) = ((k / 10:Nat):Int):=by rw [Int.tdiv_eq_ediv_of_nonneg hn]; rfl
    have e2:((k:Int).tmod 10) = ((k % 10:Nat):Int):=by rw [Int.tmod_eq_emod_of_nonneg hn]; rfl
    have w1:IntKind.wrap .i64 ((k / 10:Nat):Int) = ((k / 10:Nat):Int):=qck (qbC.2 ⟨by omega,by omega⟩)
    rw [decide_eq_true hn,cond_true,decide_eq_false (by omega),cond_false,decide_eq_false (by omega),cond_false,e1,w1,digF F _ (by rw [Int.natAbs_natCast]; omega) (qbC.2 ⟨by omega,by omega⟩),Option.bind_some,hrm,Option.bind_some,e2,dig1 F (by omega) (by omega),Option.bind_some,Lib.itoa_nonneg,Lib.itoa_nonneg,Lib.itoa_nonneg]
    have l1:=Lib.itoa_length_le ((k / 10:Nat):Int) (by omega) (by omega)
    have l2:=Lib.itoa_length_le ((k % 10:Nat):Int) (by omega) (by omega)
    rw [Lib.itoa_nonneg] at l1 l2
    unfold cat
    rw [if_pos (by unfold LIMS; omega),Option.bind_some]
    conv=>rhs; rw [Lib.decDigits,dif_neg hk]
    conv=>lhs; rw [Lib.decDigits.eq_def (k % 10),dif_pos (show k % 10 < 10 by omega)]
   ·obtain ⟨k,hk0⟩:∃ k:Nat,n = -(k:Int):=⟨n.natAbs,by omega⟩
    subst hk0
    have hk1:1 ≤ k:=by omega
    rw [decide_eq_false hn,cond_false,decide_eq_true (by omega),cond_true,Lib.itoa_neg k hk1]
    by_cases hs:k < 10
    ·have w1:IntKind.wrap .i64 (-(-(k:Int))) = (k:Int):=by rw [Int.neg_neg]; exact qck (qbC.2 ⟨by omega,by omega⟩)
     rw [decide_eq_true (by omega),cond_true,w1,dig1 F (by omega) (by omega),Option.bind_some,Lib.itoa_nonneg]
     have l1:=Lib.itoa_length_le (k:Int) (by omega) (by omega)
     rw [Lib.itoa_nonneg] at l1
     unfold cat
     rw [if_pos (by unfold LIMS; simp only [List.length_cons,List.length_nil]; omega)]
     rfl
    ·have e1:((-(k:Int)).tdiv 10) = -((k / 10:Nat):Int):=by rw [Int.neg_tdiv,Int.tdiv_eq_ediv_of_nonneg (by omega)]; rfl
     have e2:((-(k:Int)).tmod 10) = -((k % 10:Nat):Int):=by rw [Int.neg_tmod,Int.tmod_eq_emod_of_nonneg (by omega)]; rfl
     have w1:IntKind.wrap .i64 (-((k / 10:Nat):Int)) = -((k / 10:Nat):Int):=qck (qbC.2 ⟨by omega,by omega⟩)
     have w2:IntKind.wrap .i64 (-(-((k % 10:Nat):Int))) = ((k % 10:Nat):Int):=by rw [Int.neg_neg]; exact qck (qbC.2 ⟨by omega,by omega⟩)
     rw [decide_eq_false (by omega),cond_false,e1,w1,digF F _ (by omega) (qbC.2 ⟨by omega,by omega⟩),Option.bind_some,hrm,Option.bind_some,e2,w2,dig1 F (by omega) (by omega),Option.bind_some,Lib.itoa_neg (k / 10) (by omega),Lib.itoa_nonneg]
     have l1:=Lib.itoa_length_le ((k / 10:Nat):Int) (by omega) (by omega)
     have l2:=Lib.itoa_length_le ((k % 10:Nat):Int) (by omega) (by omega)
     rw [Lib.itoa_nonneg] at l1 l2
     unfold cat
     rw [if_pos (by unfold LIMS; simp only [List.length_cons]; omega),Option.bind_some]
     conv=>rhs; rw [Lib.decDigits,dif_neg hs]
     conv=>lhs; rw [Lib.decDigits.eq_def (k % 10),dif_pos (show k % 10 < 10 by omega)]
     rfl
theorem qh4 {N:Nat} (hN:20 ≤ N) {n:Int} (h:InR .i64 n):qbq N n = some (Lib.itoa n):=by
 obtain ⟨F,rfl⟩:∃ F,N = F + 1:=⟨N - 1,by omega⟩
 have h19:10 ^ 19 ≤ 10 ^ F:=Nat.pow_le_pow_right (by omega) (by omega)
 have h':=qbC.1 h
 exact digF F n (by omega) h
theorem qkH (N:Nat) {n:Int} (h:InR .i64 n):qcA N n = some (Lib.itoa n):=by
 have h':=qbC.1 h
 have:=Lib.itoa_length_le n h'.1 h'.2
 unfold qcA
 rw [if_pos (by unfold LIMS; omega)]
def nmss:List (List UInt8):=[[63],[101,109,105,116],[111,112,101,110],[99,108,111,115,101],[118,111,105,100],[97,114,103],[110,117,109,98,101,114],[117,110,105,116],[100,97,116,101],[108,105,115,116],[115,119,105,116,99,104],[99,97,115,101],[106,117,109,112],[115,116,111,112]]
def nmo (o:Int):List UInt8:=if 1 ≤ o ∧ o ≤ 13 then (nmss[o.toNat]?).getD [] else [63]
def ari (n:Int):List UInt8:=if n = 0 then [] else 32 :: Lib.itoa n
def lne (i:Nat) (x:Ins):List UInt8:=(Lib.itoa (i:Int) ++ ([58,32] ++ nmo x.Op)) ++ (ari x.A ++ (ari x.B ++ ((if x.S = [] then [] else [32,34] ++ (quo x.S ++ [34])) ++ [10])))
def lns:Nat → List Ins → List UInt8
 | _,[]=>[]
 | i,x :: l=>lne i x ++ lns (i + 1) l
theorem qkI:∀ (l:List Ins) (i:Nat) (x:Ins),lns i (l ++ [x]) = lns i l ++ lne (i + l.length) x
 | [],i,x=>by simp [lns]
 | y :: l,i,x=>by
  rw [List.cons_append,lns,lns,qkI l (i + 1) x,List.append_assoc,List.length_cons,show i + 1 + l.length = i + (l.length + 1) by omega]
structure XOk (x:Ins):Prop where
 o:InR .i64 x.Op
 a:InR .i64 x.A
 b:InR .i64 x.B
 s:x.S.length ≤ 300
theorem qla (o:Int):(nmo o).length ≤ 6:=by
 unfold nmo
 split
 ·next h =>
  obtain ⟨k,rfl⟩:∃ k:Nat,o = (k:Int):=⟨o.toNat,by omega⟩
  rw [Int.toNat_natCast]
  rcases (show k = 1 ∨ k = 2 ∨ k = 3 ∨ k = 4 ∨ k = 5 ∨ k = 6 ∨ k = 7 ∨ k = 8 ∨ k = 9 ∨ k = 10 ∨ k = 11 ∨ k = 12 ∨ k = 13 by omega) with rfl | rfl | rfl | rfl | rfl | rfl | rfl | rfl | rfl | rfl | rfl | rfl | rfl <;> decide
 ·decide
theorem qgG {n:Int} (h:InR .i64 n):(ari n).length ≤ 22:=by
 have h':=qbC.1 h
 have:=Lib.itoa_length_le n h'.1 h'.2
 unfold ari
 split
 ·simp
 ·rw [List.length_cons]; omega
theorem qkD (s:List UInt8):(quo s).length ≤ 2 * s.length:=by
 induction s with
 | nil=>simp [quo]
 | cons c s ih =>
  have e:quo (c :: s) = (rp c).getD [c] ++ quo s:=rfl
  have h2:((rp c).getD [c]).length ≤ 2:=by
   unfold rp rpk
   split
   ·exact Nat.le_refl 2
   ·split
    ·exact Nat.le_refl 2
    ·split
     ·exact Nat.le_refl 2
     ·exact (show 1 ≤ 2 by omega)
  rw [e,List.length_append,List.length_cons]
  omega
theorem qo4 {i:Nat} (hi:i < 1000) {x:Ins} (h:XOk x):(lne i x).length ≤ 700:=by
 have l1:=Lib.itoa_length_le (i:Int) (by omega) (by omega)
 have l2:=qla x.Op
 have l3:=qgG h.a
 have l4:=qgG h.b
 have l5:=qkD x.S
 have l6:=h.s
 unfold lne
 simp only [List.length_append,List.length_cons,List.length_nil]
 split
 ·simp only [List.length_nil]; omega
 ·simp only [List.length_append,List.length_cons,List.length_nil]; omega
theorem qkV:∀ (l:List Ins) (i:Nat),i + l.length ≤ 1000 → (∀ x ∈ l,XOk x) → (lns i l).length ≤ 700 * l.length
 | [],i,_,_=>by simp [lns]
 | x :: l,i,h,hx=>by
  rw [List.length_cons] at h
  have h1:=qo4 (i:=i) (by omega) (hx x (by simp))
  have h2:=qkV l (i + 1) (by omega) fun y hy=>hx y (by simp [hy])
  rw [lns,List.length_append,List.length_cons]
  omega
theorem qpX (c:UInt8):rp c = if c = 10 then some [92,110] else if c = 92 then some [92,92] else if c = 34 then some [92,34] else none:=by
 unfold rp rpk
 have h:∀ d:UInt8,(c.toNat = d.toNat) ↔ c = d:=fun d=>⟨fun h=>UInt8.toNat_inj.1 h,fun h=>by rw [h]⟩
 have e1:=h 10
 have e2:=h 92
 have e3:=h 34
 have n1:(10:UInt8).toNat = 10:=rfl
 have n2:(92:UInt8).toNat = 92:=rfl
 have n3:(34:UInt8).toNat = 34:=rfl
 rw [n1] at e1
 rw [n2] at e2
 rw [n3] at e3
 simp only [e1,e2,e3,show (0 < 3) = True from by simp,show (1 < 3) = True from by simp,show (2 < 3) = True from by simp,and_true]
theorem ct {a b:List UInt8} (h:a.length + b.length ≤ 100000000):cat a b = some (a ++ b):=by unfold cat; rw [if_pos (by unfold LIMS; omega)]
theorem qj2 (c:UInt8) (d:UInt8):((c.toNat:Int) == (d.toNat:Int)) = decide (c = d):=by
 rw [Bool.eq_iff_iff,beq_iff_eq,decide_eq_true_eq]
 exact ⟨fun h=>UInt8.toNat_inj.1 (by omega),fun h=>by rw [h]⟩
theorem qn6 (s:List UInt8) (c:UInt8):quo (s ++ [c]) = quo s ++ (rp c).getD [c]:=by unfold quo; rw [List.flatMap_append]; simp
theorem qo2 {N:Nat} {x:Ins} (hN:x.S.length < N) (hs:x.S.length ≤ 300) (out:List UInt8) (ho:out.length ≤ 10000000):iter (fun s=>qbV N x s.1 s.2) N (out,0) = some (out ++ quo x.S):=by
 refine qh3 x.S (fun s=>qbV N x s.1 s.2) (fun k s=>s = (out ++ quo (x.S.take k),(k:Int))) (fun b=>b = out ++ quo x.S) N (out,0) hN (by simp [quo]) (fun k c s hk hJ=>?_) (fun s hJ=>?_) (fun b hb hp=>by rw [hb,hp])
 ·subst hJ
  have hlt:=(List.getElem?_eq_some_iff.1 hk).1
  have hq:=qkD (x.S.take k)
  rw [List.length_take] at hq
  have hsl:slc x.S (k:Int) ((k:Int) + 1) = some [c]:=by
   unfold slc
   rw [if_pos ⟨by omega,by omega,by omega⟩,Int.toNat_natCast,show ((k:Int) + 1 - (k:Int)).toNat = 1 by omega]
   obtain ⟨_,he⟩:=List.getElem?_eq_some_iff.1 hk
   rw [List.drop_eq_getElem_cons hlt,he]
   rfl
  have e10:((c.toNat:Int) == 10) = decide (c = 10):=qj2 c 10
  have e34:((c.toNat:Int) == 34) = decide (c = 34):=qj2 c 34
  have e92:((c.toNat:Int) == 92) = decide (c = 92):=qj2 c 92
  have hr:=qpX c
  have fin:∀ r,(rp c).getD [c] = r → out ++ quo (x.S.take k) ++ r = out ++ quo (x.S.take (k + 1)):=fun r h=>by
   rw [qeh hk,qn6,h,List.append_assoc]
  have hlen:(out ++ quo (x.S.take k)).length ≤ 10001000:=by rw [List.length_append]; omega
  generalize out ++ quo (x.S.take k) = o at hlen fin ⊢
  simp only [qbV,dk hk,cond_true,ix hk,Option.bind_some,e10,e34,e92]
  by_cases h1:c = 10
  ·rw [decide_eq_true h1,cond_true,ct (by simp only [List.length_cons,List.length_nil]; omega),Option.bind_some]
   refine ⟨_,rfl,fun s' h=>?_,fun b h=>by cases h⟩
   cases h
   rw [fin _ (by rw [hr,if_pos h1]; rfl)]
   simp
  ·rw [decide_eq_false h1,cond_false]
   by_cases h2:c = 34
   ·rw [decide_eq_true h2,cond_true,hsl,Option.bind_some,ct (by simp only [List.length_cons,List.length_nil]; omega),Option.bind_some,ct (by simp only [List.length_append,List.length_cons,List.length_nil]; omega),Option.bind_some]
    refine ⟨_,rfl,fun s' h=>?_,fun b h=>by cases h⟩
    cases h
    rw [fin _ (by rw [hr,if_neg h1,if_neg (by rw [h2]; decide),if_pos h2,h2]; rfl)]
    simp
   ·rw [decide_eq_false h2,cond_false]
    by_cases h3:c = 92
    ·rw [decide_eq_true h3,cond_true,hsl,Option.bind_some,ct (by simp only [List.length_cons,List.length_nil]; omega),Option.bind_some,ct (by simp only [List.length_append,List.length_cons,List.length_nil]; omega),Option.bind_some]
     refine ⟨_,rfl,fun s' h=>?_,fun b h=>by cases h⟩
     cases h
     rw [fin _ (by rw [hr,if_neg h1,if_pos h3,h3]; rfl)]
     simp
    ·rw [decide_eq_false h3,cond_false,hsl,Option.bind_some,ct (by simp only [List.length_cons,List.length_nil]; omega),Option.bind_some]
     refine ⟨_,rfl,fun s' h=>?_,fun b h=>by cases h⟩
     cases h
     rw [fin _ (by rw [hr,if_neg h1,if_neg h3,if_neg h2]; rfl)]
     simp
 ·subst hJ
  simp only [qbV,dn,cond_false]
  exact ⟨_,rfl,by rw [List.take_length]⟩
theorem qmy {N:Nat} (hN:20 ≤ N) {n:Int} (h:InR .i64 n) {o:List UInt8} (ho:o.length ≤ 10000000):(show Option ((List UInt8)) from
    bif (n != 0) then
     (qbq N n).bind fun r57 =>
     (cat ([32]) r57).bind fun s60 =>
     (cat o s60).bind fun s62 =>
     some s62
    else
     some o) = some (o ++ ari n):=by
 have h':=qbC.1 h
 have hl:=Lib.itoa_length_le n h'.1 h'.2
 unfold ari
 by_cases h0:n = 0
 ·rw [show (n != 0) = false by simp [h0],if_pos h0,List.append_nil]
  rfl
 ·rw [show (n != 0) = true by simp [h0],if_neg h0]
  simp only [cond_true]
  rw [qh4 hN h,Option.bind_some,ct (by simp only [List.length_cons,List.length_nil]; omega),Option.bind_some,ct (by simp only [List.length_append,List.length_cons,List.length_nil]; omega),Option.bind_some]
  rfl
theorem qmz {o:Int} (h0:0 ≤ o) (h:o ≤ 13):idx nmss o = some (nmo o):=by
 obtain ⟨k,rfl⟩:∃ k:Nat,o = (k:Int):=⟨o.toNat,by omega⟩
 rcases (show k = 0 ∨ k = 1 ∨ k = 2 ∨ k = 3 ∨ k = 4 ∨ k = 5 ∨ k = 6 ∨ k = 7 ∨ k = 8 ∨ k = 9 ∨ k = 10 ∨ k = 11 ∨ k = 12 ∨ k = 13 by omega) with rfl | rfl | rfl | rfl | rfl | rfl | rfl | rfl | rfl | rfl | rfl | rfl | rfl | rfl <;> rfl
theorem qkX {o:Int} (h:¬ (0 ≤ o ∧ o ≤ 13)):nmo o = [63]:=by unfold nmo; rw [if_neg (by omega)]
theorem qn5 {N:Nat} (hN:1000 ≤ N) {c:Code} {i:Nat} {x:Ins} (hx:c.Ins[i]? = some x) (hi:i < 1000) (h:XOk x) {o:List UInt8} (ho:o.length ≤ 1000000):qcq N c o (i:Int) = some (.inl (o ++ lne i x,(i:Int) + 1)):=by
 have hii:InR .i64 (i:Int):=qbC.2 ⟨by omega,by omega⟩
 have l1:=Lib.itoa_length_le (i:Int) (by omega) (by omega)
 have l2:=qla x.Op
 have l3:=qgG h.a
 have l4:=qgG h.b
 have l5:=qkD x.S
 have l6:=h.s
 have e3:@qei = @qbV:=rfl
 have tail:∀ t:List UInt8,t.length ≤ 1000100 →
   ((show Option ((List UInt8)) from
    bif (x.A != 0) then
     (qbq N x.A).bind fun r57 =>
     (cat ([32]) r57).bind fun s60 =>
     (cat t s60).bind fun s62 =>
     some s62
    else
     some t).bind fun o54 =>
   (show Option ((List UInt8)) from
    bif (x.B != 0) then
     (qbq N x.B).bind fun r68 =>
     (cat ([32]) r68).bind fun s71 =>
     (cat o54 s71).bind fun s73 =>
     some s73
    else
     some o54).bind fun o65 =>
   bif (x.S != ([])) then
    (cat o65 ([32,34])).bind fun s77 =>
    (iter (fun s=>qbV N x s.1 s.2) N (s77,0)).bind fun o81 =>
    (cat o81 ([34])).bind fun s117 =>
    (cat s117 ([10])).bind fun s119 =>
    some (.inl (s119,((i:Int) + 1)))
   else
    (cat o65 ([10])).bind fun s122 =>
    some (.inl (s122,((i:Int) + 1)))) = (some (.inl (t ++ (ari x.A ++ (ari x.B ++ ((if x.S = [] then [] else [32,34] ++ (quo x.S ++ [34])) ++ [10]))),(i:Int) + 1)):Option (((List UInt8) × Int) ⊕ (List UInt8))):=by
  intro t ht
  have a1:=qmy (N:=N) (by omega) h.a (o:=t) (by omega)
  have a2:=qmy (N:=N) (by omega) h.b (o:=t ++ ari x.A) (by rw [List.length_append]; omega)
  rw [a1,Option.bind_some,a2,Option.bind_some]
  by_cases hs:x.S = []
  ·rw [show (x.S != []) = false by simp [hs],if_pos hs]
   simp only [cond_false]
   rw [ct (by simp only [List.length_append,List.length_cons,List.length_nil]; omega),Option.bind_some]
   simp
  ·rw [show (x.S != []) = true by simp [hs],if_neg hs]
   simp only [cond_true]
   rw [ct (by simp only [List.length_append,List.length_cons,List.length_nil]; omega),Option.bind_some,qo2 (by omega) l6 _ (by simp only [List.length_append,List.length_cons,List.length_nil]; omega),Option.bind_some,ct (by simp only [List.length_append,List.length_cons,List.length_nil]; omega),Option.bind_some,ct (by simp only [List.length_append,List.length_cons,List.length_nil]; omega),Option.bind_some]
   simp
 unfold qcq
 rw [e3]
 simp only [dk hx,cond_true,ix hx,Option.bind_some]
 have fin:∀ q:List UInt8,q = nmo x.Op → (some (.inl (o ++ (Lib.itoa (i:Int) ++ [58,32] ++ q) ++ (ari x.A ++ (ari x.B ++ ((if x.S = [] then [] else [32,34] ++ (quo x.S ++ [34])) ++ [10]))),(i:Int) + 1)):Option (((List UInt8) × Int) ⊕ (List UInt8))) = some (.inl (o ++ lne i x,(i:Int) + 1)):=by
  rintro q rfl
  unfold lne
  simp only [List.append_assoc]
 by_cases h0:x.Op < 0
 ·rw [decide_eq_true h0,cond_true,qh4 (by omega) hii,Option.bind_some,ct (by simp only [List.length_cons,List.length_nil]; omega),Option.bind_some]
  have e0:idx ([[63],[101,109,105,116],[111,112,101,110],[99,108,111,115,101],[118,111,105,100],[97,114,103],[110,117,109,98,101,114],[117,110,105,116],[100,97,116,101],[108,105,115,116],[115,119,105,116,99,104],[99,97,115,101],[106,117,109,112],[115,116,111,112]]:List (List UInt8)) 0 = some [63]:=rfl
  rw [e0,Option.bind_some,ct (by simp only [List.length_append,List.length_cons,List.length_nil]; omega),Option.bind_some,ct (by simp only [List.length_append,List.length_cons,List.length_nil]; omega),Option.bind_some]
  exact (tail _ (by simp only [List.length_append,List.length_cons,List.length_nil]; omega)).trans (fin _ (qkX (by omega)).symm)
 ·rw [decide_eq_false h0,cond_false]
  have hlen:((([[63],[101,109,105,116],[111,112,101,110],[99,108,111,115,101],[118,111,105,100],[97,114,103],[110,117,109,98,101,114],[117,110,105,116],[100,97,116,101],[108,105,115,116],[115,119,105,116,99,104],[99,97,115,101],[106,117,109,112],[115,116,111,112]]:List (List UInt8)).length:Int)) = 14:=rfl
  rw [hlen]
  by_cases h14:x.Op ≥ 14
  ·rw [decide_eq_true h14,cond_true,Option.bind_some,qh4 (by omega) hii,Option.bind_some,ct (by simp only [List.length_cons,List.length_nil]; omega),Option.bind_some]
   have e0:idx ([[63],[101,109,105,116],[111,112,101,110],[99,108,111,115,101],[118,111,105,100],[97,114,103],[110,117,109,98,101,114],[117,110,105,116],[100,97,116,101],[108,105,115,116],[115,119,105,116,99,104],[99,97,115,101],[106,117,109,112],[115,116,111,112]]:List (List UInt8)) 0 = some [63]:=rfl
   rw [e0,Option.bind_some,ct (by simp only [List.length_append,List.length_cons,List.length_nil]; omega),Option.bind_some,ct (by simp only [List.length_append,List.length_cons,List.length_nil]; omega),Option.bind_some]
   exact (tail _ (by simp only [List.length_append,List.length_cons,List.length_nil]; omega)).trans (fin _ (qkX (by omega)).symm)
  ·rw [decide_eq_false h14,cond_false,Option.bind_some,qh4 (by omega) hii,Option.bind_some,ct (by simp only [List.length_cons,List.length_nil]; omega),Option.bind_some]
   have e0:=qmz (o:=x.Op) (by omega) (by omega)
   unfold nmss at e0
   rw [e0,Option.bind_some,ct (by simp only [List.length_append,List.length_cons,List.length_nil]; omega),Option.bind_some,ct (by simp only [List.length_append,List.length_cons,List.length_nil]; omega),Option.bind_some]
   exact (tail _ (by simp only [List.length_append,List.length_cons,List.length_nil]; omega)).trans (fin _ rfl)
theorem qnF {N:Nat} (hN:1000 ≤ N) {c:Code} (hc:c.Ins.length ≤ 400) (hx:∀ x ∈ c.Ins,XOk x):qef N c = some (lns 0 c.Ins):=by
 unfold qef
 refine qh3 c.Ins (fun s=>qcq N c s.1 s.2) (fun k s=>s = (lns 0 (c.Ins.take k),(k:Int))) (fun b=>b = lns 0 c.Ins) N ([],0) (by omega) rfl (fun k x s hk hJ=>?_) (fun s hJ=>?_) (fun b hb hp=>by rw [hb,hp]; rfl)
 ·subst hJ
  have hlt:=(List.getElem?_eq_some_iff.1 hk).1
  have hl:=qkV (c.Ins.take k) 0 (by rw [List.length_take]; omega) fun y hy=>hx y (List.mem_of_mem_take hy)
  rw [List.length_take] at hl
  refine ⟨_,qn5 hN hk (by omega) (hx x (List.mem_of_getElem? hk)) (by show (lns 0 (c.Ins.take k)).length ≤ 1000000; omega),fun s' h=>?_,fun b h=>by cases h⟩
  cases h
  rw [qeh hk,qkI,List.length_take,Nat.zero_add,Nat.min_eq_left (by omega)]
  rfl
 ·subst hJ
  simp only [qcq,dn,cond_false]
  exact ⟨_,rfl,by rw [List.take_length]⟩
end Go.Proofs.YtllnjbnknjpbjaaGreatDoor
namespace Go.Proofs.YtllnjbnknjpbjaaGreatDoor
open Go.X
theorem qlL (a b:List UInt8):ints (a ++ b) = ints a ++ ints b:=by unfold ints; rw [List.map_append]
theorem wS (N:Nat) {s o:List UInt8} (h:o.length + s.length ≤ 100000000):qa0 N s (Builder.mk () (ints o)) = some ((s.length:Int),(),Builder.mk () (ints (o ++ s))):=by
 unfold qa0 app
 simp only
 rw [if_pos (by rw [qjY,qjY]; unfold LIM; omega),Option.bind_some,qlL]
theorem wB (N:Nat) {o:List UInt8} (h:o.length ≤ 100000000):qa1 N 10 (Builder.mk () (ints o)) = some ((),Builder.mk () (ints (o ++ [10]))):=by
 unfold qa1 app
 simp only
 rw [if_pos (by rw [qjY]; unfold LIM; simp only [List.length_cons,List.length_nil]; omega),Option.bind_some,qlL]
 rfl
theorem qlT {N:Nat} {x:Ins} {k:Nat} {n:Int} (hk:([x.A,x.B]:List Int)[k]? = some n) (hn:InR .i64 n) {t:List UInt8} (ht:t.length ≤ 10000000):qch N x (k:Int) (Builder.mk () (ints t)) = some (.inl ((k:Int) + 1,Builder.mk () (ints (t ++ ari n)))):=by
 have h':=qbC.1 hn
 have hl:=Lib.itoa_length_le n h'.1 h'.2
 unfold qch ari
 simp only [dk hk,cond_true,ix hk,Option.bind_some]
 by_cases h0:n = 0
 ·rw [show (n != 0) = false by simp [h0],if_pos h0,List.append_nil]
  rfl
 ·rw [show (n != 0) = true by simp [h0],if_neg h0]
  simp only [cond_true]
  rw [qkH N hn,Option.bind_some,ct (by simp only [List.length_cons,List.length_nil]; omega),Option.bind_some,wS N (by simp only [List.length_append,List.length_cons,List.length_nil]; omega),Option.bind_some]
  rfl
theorem qn0 {N:Nat} (hN:3 ≤ N) {x:Ins} (h:XOk x) {t:List UInt8} (ht:t.length ≤ 1000000):iter (fun s=>qch N x s.1 s.2) N (0,(Builder.mk () (ints t))) = some (Builder.mk () (ints (t ++ (ari x.A ++ ari x.B)))):=by
 have l3:=qgG h.a
 have s0:=qlT (N:=N) (x:=x) (k:=0) (n:=x.A) rfl h.a (t:=t) (by omega)
 have s1:=qlT (N:=N) (x:=x) (k:=1) (n:=x.B) rfl h.b (t:=t ++ ari x.A) (by rw [List.length_append]; omega)
 have s2:qch N x 2 (Builder.mk () (ints (t ++ ari x.A ++ ari x.B))) = some (.inr (Builder.mk () (ints (t ++ ari x.A ++ ari x.B)))):=rfl
 generalize qch N x = f at s0 s1 s2 ⊢
 obtain ⟨M,rfl⟩:∃ M,N = M + 3:=⟨N - 3,by omega⟩
 have s0':f 0 (Builder.mk () (ints t)) = some (.inl (1,Builder.mk () (ints (t ++ ari x.A)))):=s0
 have s1':f 1 (Builder.mk () (ints (t ++ ari x.A))) = some (.inl (2,Builder.mk () (ints (t ++ ari x.A ++ ari x.B)))):=s1
 rw [iter]
 simp only [s0']
 rw [iter]
 simp only [s1']
 rw [iter]
 simp only [s2]
 rw [List.append_assoc]
theorem qnv {N:Nat} (hN:1000 ≤ N) {c:Code} {i:Nat} {x:Ins} (hx:c.Ins[i]? = some x) (hi:i < 1000) (h:XOk x) {o:List UInt8} (ho:o.length ≤ 500000):qde N c (i:Int) (Builder.mk () (ints o)) = some (.inl ((i:Int) + 1,Builder.mk () (ints (o ++ lne i x)))):=by
 have hii:InR .i64 (i:Int):=qbC.2 ⟨by omega,by omega⟩
 have l1:=Lib.itoa_length_le (i:Int) (by omega) (by omega)
 have l2:=qla x.Op
 have l3:=qgG h.a
 have l4:=qgG h.b
 have l5:=qkD x.S
 have l6:=h.s
 have e3:@qfn = @qch:=rfl
 have tail:∀ t:List UInt8,t.length ≤ 500100 →
   ((iter (fun s=>qch N x s.1 s.2) N (0,(Builder.mk () (ints t)))).bind fun o119 =>
   bif (x.S != ([])) then
    ((qbT N x.S).bind fun rR =>
     (cat ([32,34]) rR).bind fun sA =>
     (cat sA ([34])).bind fun sB =>
     (qa0 N sB (Builder.mk () o119.buf)).bind fun rW =>
     some (Builder.mk () rW.2.2.buf)).bind fun oW =>
    (qa1 N 10 (Builder.mk () oW.buf)).bind fun r166 =>
    some (.inl (((i:Int) + 1),(Builder.mk () r166.2.buf)))
   else
    (qa1 N 10 (Builder.mk () o119.buf)).bind fun r166 =>
    some (.inl (((i:Int) + 1),(Builder.mk () r166.2.buf)))) = (some (.inl ((i:Int) + 1,Builder.mk () (ints (t ++ (ari x.A ++ (ari x.B ++ ((if x.S = [] then [] else [32,34] ++ (quo x.S ++ [34])) ++ [10]))))))):Option ((Int × Builder) ⊕ Builder)):=by
  intro t ht
  rw [qn0 (by omega) h (by omega),Option.bind_some]
  by_cases hs:x.S = []
  ·rw [show (x.S != []) = false by simp [hs],if_pos hs]
   simp only [cond_false]
   rw [wB N (by simp only [List.length_append]; omega),Option.bind_some]
   simp
  ·rw [show (x.S != []) = true by simp [hs],if_neg hs]
   simp only [cond_true]
   have hrep:qbT N x.S = some (quo x.S):=by unfold qbT; rw [if_pos (by omega)]
   rw [hrep,Option.bind_some,ct (by simp only [List.length_cons,List.length_nil]; omega),Option.bind_some,ct (by simp only [List.length_append,List.length_cons,List.length_nil]; omega),Option.bind_some,wS N (by simp only [List.length_append,List.length_cons,List.length_nil]; omega),Option.bind_some]
   simp only [Option.bind_some]
   rw [wB N (by simp only [List.length_append,List.length_cons,List.length_nil]; omega),Option.bind_some]
   simp
 have fin:∀ q:List UInt8,q = nmo x.Op → (some (.inl ((i:Int) + 1,Builder.mk () (ints (o ++ (Lib.itoa (i:Int) ++ [58,32] ++ q) ++ (ari x.A ++ (ari x.B ++ ((if x.S = [] then [] else [32,34] ++ (quo x.S ++ [34])) ++ [10]))))))):Option ((Int × Builder) ⊕ Builder)) = some (.inl ((i:Int) + 1,Builder.mk () (ints (o ++ lne i x)))):=by
  rintro q rfl
  unfold lne
  simp only [List.append_assoc]
 unfold qde
 rw [e3]
 simp only [dk hx,cond_true,ix hx,Option.bind_some]
 have get:∀ n:Int,Arr14_List_UInt8.get (Arr14_List_UInt8.mk ([63]) ([101,109,105,116]) ([111,112,101,110]) ([99,108,111,115,101]) ([118,111,105,100]) ([97,114,103]) ([110,117,109,98,101,114]) ([117,110,105,116]) ([100,97,116,101]) ([108,105,115,116]) ([115,119,105,116,99,104]) ([99,97,115,101]) ([106,117,109,112]) ([115,116,111,112])) n = idx nmss n:=fun n=>rfl
 by_cases h1:x.Op ≥ 1
 ·rw [decide_eq_true h1,cond_true]
  have key:∀ n:Int,idx nmss n = some (nmo x.Op) → (((qcA N (i:Int)).bind fun r73 =>
    (cat r73 ([58,32])).bind fun s76 =>
    (Arr14_List_UInt8.get (Arr14_List_UInt8.mk ([63]) ([101,109,105,116]) ([111,112,101,110]) ([99,108,111,115,101]) ([118,111,105,100]) ([97,114,103]) ([110,117,109,98,101,114]) ([117,110,105,116]) ([100,97,116,101]) ([108,105,115,116]) ([115,119,105,116,99,104]) ([99,97,115,101]) ([106,117,109,112]) ([115,116,111,112])) n).bind fun x78 =>
    (cat s76 x78).bind fun s80 =>
    (qa0 N s80 (Builder.mk () (ints o))).bind fun r82 =>
    some (Builder.mk () r82.2.2.buf))) = some (Builder.mk () (ints (o ++ (Lib.itoa (i:Int) ++ [58,32] ++ nmo x.Op)))):=by
   intro n hn
   rw [qkH N hii,Option.bind_some,ct (by simp only [List.length_cons,List.length_nil]; omega),Option.bind_some,get,hn,Option.bind_some,ct (by simp only [List.length_append,List.length_cons,List.length_nil]; omega),Option.bind_some,wS N (by simp only [List.length_append,List.length_cons,List.length_nil]; omega),Option.bind_some]
  by_cases h13:x.Op ≤ 13
  ·rw [decide_eq_true h13,cond_true,Option.bind_some,key x.Op (qmz (by omega) h13),Option.bind_some]
   exact (tail _ (by simp only [List.length_append,List.length_cons,List.length_nil]; omega)).trans (fin _ rfl)
  ·rw [decide_eq_false h13,cond_false,Option.bind_some,key 0 (by rw [qkX (by omega)]; rfl),Option.bind_some]
   exact (tail _ (by simp only [List.length_append,List.length_cons,List.length_nil]; omega)).trans (fin _ rfl)
 ·rw [decide_eq_false h1,cond_false,qkH N hii,Option.bind_some,ct (by simp only [List.length_cons,List.length_nil]; omega),Option.bind_some,ct (by simp only [List.length_append,List.length_cons,List.length_nil]; omega),Option.bind_some,wS N (by simp only [List.length_append,List.length_cons,List.length_nil]; omega),Option.bind_some]
  refine (tail _ (by simp only [List.length_append,List.length_cons,List.length_nil]; omega)).trans (fin [63] ?_)
  unfold nmo
  rw [if_neg (by omega)]
theorem qnA {N:Nat} (hN:1000 ≤ N) {c:Code} (hc:c.Ins.length ≤ 400) (hx:∀ x ∈ c.Ins,XOk x):qeG N c = some (lns 0 c.Ins):=by
 unfold qeG
 obtain ⟨r0,hr⟩:∃ r,qcM N ([[34],[92,34],[92],[92,92],[10],[92,110]]:List (List UInt8)) = some r:=⟨_,rfl⟩
 rw [hr,Option.bind_some]
 refine qh3 c.Ins (fun s=>qde N c s.1 s.2) (fun k s=>s = ((k:Int),Builder.mk () (ints (lns 0 (c.Ins.take k))))) (fun b=>b = Builder.mk () (ints (lns 0 c.Ins))) N (0,Builder.mk () []) (by omega) rfl (fun k x s hk hJ=>?_) (fun s hJ=>?_) (fun b hb hp=>?_)
 ·subst hJ
  have hlt:=(List.getElem?_eq_some_iff.1 hk).1
  have hl:=qkV (c.Ins.take k) 0 (by rw [List.length_take]; omega) fun y hy=>hx y (List.mem_of_mem_take hy)
  rw [List.length_take] at hl
  refine ⟨_,qnv hN hk (by omega) (hx x (List.mem_of_getElem? hk)) (by omega),fun s' h=>?_,fun b h=>by cases h⟩
  cases h
  rw [qeh hk,qkI,List.length_take,Nat.zero_add,Nat.min_eq_left (by omega)]
  rfl
 ·subst hJ
  simp only [qde,dn,cond_false]
  exact ⟨_,rfl,by rw [List.take_length]⟩
 ·rw [hb,hp,Option.bind_some]
  exact congrArg some (qiV _)
theorem qnc {N:Nat} {c:Code} (h1:c.Names.length < N) (h2:c.Ins.length < N):∃ b,qdP N c = some b ∧ (b = true → c.Names.length ≤ 30 ∧ c.Ins.length ≤ 400 ∧ ∀ x ∈ c.Ins,x.S.length ≤ 300):=by
 obtain ⟨r1,e1,p1⟩:=qiS c.Names (fun s=>qc2 N c s) (fun k s=>s = (k:Int)) (fun r=>r = .inl () ∨ r = .inr false) (fun k x s hx hJ=>by
  subst hJ
  simp only [qc2,dk hx,cond_true,ix hx,Option.bind_some]
  cases decide ((x.length:Int) > 100) with
  | true=>exact ⟨_,rfl,(fun s' h=>by cases h),fun b h=>by cases h; exact .inr rfl⟩
  | false=>exact ⟨_,rfl,(fun s' h=>by cases h; rfl),fun b h=>by cases h⟩) (fun s hJ=>by
  subst hJ
  simp only [qc2,dn,cond_false]
  exact ⟨_,rfl,.inl rfl⟩) N 0 h1 rfl
 obtain ⟨r2,e2,p2⟩:=qiS c.Ins (fun s=>qc3 N c s) (fun k s=>s = (k:Int) ∧ ∀ x ∈ c.Ins.take k,x.S.length ≤ 300) (fun r=>(r = .inl () ∧ ∀ x ∈ c.Ins,x.S.length ≤ 300) ∨ r = .inr false) (fun k x s hx hJ=>by
  obtain ⟨rfl,hJ⟩:=hJ
  simp only [qc3,dk hx,cond_true,ix hx,Option.bind_some]
  by_cases hb:(x.S.length:Int) > 300
  ·rw [decide_eq_true hb]
   exact ⟨_,rfl,(fun s' h=>by cases h),fun b h=>by cases h; exact .inr rfl⟩
  ·rw [decide_eq_false hb]
   refine ⟨_,rfl,(fun s' h=>?_),fun b h=>by cases h⟩
   cases h
   refine ⟨by omega,fun y hy=>?_⟩
   rw [qeh hx] at hy
   rcases List.mem_append.1 hy with hy | hy
   ·exact hJ y hy
   ·rw [List.mem_singleton.1 hy]; omega) (fun s hJ=>by
  obtain ⟨rfl,hJ⟩:=hJ
  simp only [qc3,dn,cond_false]
  rw [List.take_length] at hJ
  exact ⟨_,rfl,.inl ⟨rfl,hJ⟩⟩) N 0 h2 ⟨rfl,by simp⟩
 unfold qdP
 rw [e1,Option.bind_some]
 rcases p1 with rfl | rfl
 ·rw [Sum.elim_inl,e2,Option.bind_some]
  rcases p2 with ⟨rfl,hs⟩ | rfl
  ·rw [Sum.elim_inl]
   by_cases hn:(c.Names.length:Int) ≤ 30
   ·rw [decide_eq_true hn,cond_true]
    refine ⟨_,rfl,fun h=>?_⟩
    have hi:=of_decide_eq_true h
    exact ⟨by omega,by omega,hs⟩
   ·rw [decide_eq_false hn,cond_false]
    exact ⟨false,rfl,fun h=>by cases h⟩
  ·exact ⟨false,rfl,fun h=>by cases h⟩
 ·exact ⟨false,rfl,fun h=>by cases h⟩
theorem qjX (a b:Code) (ha:∀ x ∈ a.Ins,InR .i64 x.Op ∧ InR .i64 x.A ∧ InR .i64 x.B):∃ N,qbU N a b = some true:=by
 refine ⟨a.Names.length + a.Ins.length + b.Names.length + b.Ins.length + 1000,?_⟩
 generalize hN:a.Names.length + a.Ins.length + b.Names.length + b.Ins.length + 1000 = N
 obtain ⟨f1,e1,p1⟩:=qnc (N:=N) (c:=a) (by omega) (by omega)
 obtain ⟨f2,e2,p2⟩:=qnc (N:=N) (c:=b) (by omega) (by omega)
 unfold qbU
 rw [qna (by omega),Option.bind_some,e1,Option.bind_some]
 cases f1 with
 | false=>rfl
 | true =>
  rw [e2,Option.bind_some]
  cases f2 with
  | false=>rfl
  | true =>
   obtain ⟨_,h2,h3⟩:=p1 rfl
   obtain ⟨_,h5,_⟩:=p2 rfl
   have hx:∀ x ∈ a.Ins,XOk x:=fun x hx=>⟨(ha x hx).1,(ha x hx).2.1,(ha x hx).2.2,h3 x hx⟩
   obtain ⟨r1,g1,q1⟩:=qki (N:=N) (a:=a) (b:=b) (by omega) (by omega)
   obtain ⟨r2,g2,q2⟩:=qnk (N:=N) (a:=a) (b:=b) (by omega) (by omega)
   obtain ⟨r3,g3,q3⟩:=qki (N:=N) (a:=a) (b:=a) (by omega) (by omega)
   have he:r1 = r2:=Bool.eq_iff_iff.2 (q1.trans q2.symm)
   simp only [Bool.not_true,cond_false]
   rw [qns (by omega) (by omega),Option.bind_some,qnA (by omega) h2 hx,Option.bind_some,qnF (by omega) h2 hx,Option.bind_some,show (lns 0 a.Ins == lns 0 a.Ins) = true by simp,cond_true,Option.bind_some,qns (by omega) (by omega),Option.bind_some,g1,Option.bind_some,g2,Option.bind_some,he,show (r2 == r2) = true by simp,cond_true,Option.bind_some,Option.bind_some,g3,Option.bind_some,q3.2 rfl]
   rfl
end Go.Proofs.YtllnjbnknjpbjaaGreatDoor
