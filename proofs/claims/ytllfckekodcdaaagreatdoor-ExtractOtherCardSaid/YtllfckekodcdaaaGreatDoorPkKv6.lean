/- Texts of this proof, put together by pack.py: what its declarations name. -/
import Derived.Test.YtllfckekodcdaaaGreatDoorPkKv5
import Derived.Test.YtllfckekodcdaaaGreatDoorCards
import Derived.Test.YtllfckekodcdaaaGreatDoorChecked
import Derived.Test.YtllfckekodcdaaaGreatDoorProg
import Derived.Test.YtllfckekodcdaaaGreatDoorRows
import Derived.Test.YtllfckekodcdaaaGreatDoorTie
set_option linter.unusedVariables false
set_option linter.unusedSimpArgs false
namespace Go.Proofs.YtllfckekodcdaaaGreatDoor
open Go.X
variable {u:World} {m0:Mem} {S:Segs} {w:World}
set_option maxHeartbeats 4000000
set_option maxRecDepth 100000
theorem qkj:aggB Tryz.prog 41 2 = true:=by kernel_rfl
theorem qpY:Tryz.prog.eqGuardType Tryz.prog.depth 46 = false:=by kernel_rfl
theorem quh:goB Tryz.prog 15 = true:=by kernel_rfl
theorem qlI:goB Tryz.prog 16 = true:=by kernel_rfl
theorem go_8:goB Tryz.prog 8 = true:=by kernel_rfl
theorem qb4:∃ i,Tryz.prog.info? 41 = some i ∧ i.size = 2:=⟨_,rfl,by kernel_rfl⟩
theorem qbm:qcY Tryz.prog 41 = some [(0,1),(1,1)]:=by kernel_rfl
theorem qn4:Tryz.prog.stoodInHeld 46 = false:=by kernel_rfl
theorem qa4:qby Tryz.prog 41 = some [(Value.slice none 0 0),(Value.slice none 0 0)]:=by kernel_rfl
def qco (u:World) (m0:Mem) (S:Segs) (r:Bool) (a:Act) (w:World):Prop :=
 Ok u m0 S w ∧ a.defers = [] ∧ RVs Tryz.prog a w [.t 6 (.bool r)]
theorem qh3 (N:Nat) (vs_0:List Value) (s_0:Setting) (hs_0:qjP m0 vs_0 s_0) (vl_1:Value) (l_1:List (File)) (hl_1:(pL 2 qeM) m0 [vl_1] l_1) (vmore_2:List Value) (more_2:Call) (hmore_2:qaL m0 vmore_2 more_2) {r:Bool} (hF:qbX N s_0 l_1 more_2 = some r) (hG:Glob u) (hTb:Tab u) (ok:Ok u m0 S w) :
  Calls Tryz.prog 6 [.agg vs_0.toArray,vl_1,.agg vmore_2.toArray].toArray w fun e w'=>(e = .returned (.bool r) ∧ Ok u m0 S w'):=by
 obtain ⟨c1,c3,rfl,h2,h4⟩:=hs_0
 obtain ⟨rfl,l5,r6,r7⟩:=hmore_2
 have hb0:=ok.base
 have le_m0:=Mem.le.refl m0
 unfold qbX at hF
 refine en (qco u m0 S) r Tryz.func6 rfl rfl rfl (by rintro a w ⟨ok,hd,hrv⟩; exact qaM [.t 6 (.bool r)] hd rfl hrv ⟨rfl,ok⟩) fun fin a E=>sg<|qdk E ok rfl rfl rfl fun b8 a w E ok=>qdk E ok rfl rfl rfl fun b9 a w E ok=>aw E rfl fun a E=>?_
 refine wp_seq<|sg ?_
 obtain ⟨r10,e11,hF⟩:=bnd hF
 refine lc E go_8 rfl (qj3 N  e11 hG hTb ok) fun w ok a E=>lw E (qbQ rfl) fun a E=>wn<|cf E rfl hF (fun hc12 hF=>?_) fun hc12 hF=>?_
 ·refine sg<|aw E rfl fun a E=>wp_ret<|qag ?_
  exact fin hF ⟨ok.drop.drop,E.d,⟨rv_t E rfl,trivial⟩⟩
 refine wp_skip<|qaa<|wp_seq<|sg<|lv E ok (qat (cs:=[c1,c3]) qkj rfl rfl (qae.own 1 rfl rfl)) fun a E=>mv E rfl fun a E=>?_
 obtain ⟨r13,e14,hF⟩:=bnd hF
 refine lc E quh rfl (qlc N _ s_0 ⟨_,_,rfl,h2,h4⟩ _ l_1 hl_1 e14 hG ok) fun w ok a E=>lw E (qbQ rfl) fun a E=>mv E rfl fun a E=>qap (!r13) (fun hc15=>?_) (fun hc15=>?_)
 ·replace hF:=qak hc15 hF
  replace E:=E.upd 25 hc15 rfl
  refine ls E fun a E=>ls E fun a E=>ls E fun a E=>ls E fun a E=>pt E rfl rfl fun a E=>wn<|c_if E rfl (fun _=>?_) (fun h=>by cases h)
  refine sg<|aw E rfl fun a E=>wp_ret<|qag ?_
  exact fin hF ⟨ok.drop.drop,E.d,⟨rv_t E rfl,trivial⟩⟩
 replace hF:=qaj hc15 hF
 replace E:=E.upd 25 hc15 rfl
 refine fv E qej rfl fun a E=>ld E ok qav 0 rfl rfl rfl fun a E=>lw E (qaV Tryz.underlying9 rfl) fun a E=>lw E (qb9 rfl rfl) fun a E=>pf E rfl rfl fun a E=>wn<|cf E rfl hF (fun hc16 hF=>?_) fun hc16 hF=>?_
 ·refine sg<|aw E rfl fun a E=>wp_ret<|qag ?_
  exact fin hF ⟨ok.drop.drop,E.d,⟨rv_t E rfl,trivial⟩⟩
 refine wp_skip<|qaa<|sg<|fv E qjc rfl fun a E=>ld E ok qks 1 rfl rfl rfl fun a E=>lw E (qaK (ps:=[(0,.tmp 33),(1,.const (Value.slice none 0 0))]) (qs:=[(0,[c1]),(1,[(Value.slice none 0 0)])]) (cs:=[c1,(Value.slice none 0 0)]) qa4 qbm rfl ⟨rfl,(qbi h2),rfl,⟨rfl,rfl,rfl,trivial⟩⟩ rfl) fun a E=>mv E rfl fun a E=>?_
 obtain ⟨r17,e18,hF⟩:=bnd hF
 refine qaz E qlI rfl (qd7 N _ (Setting.mk s_0.Script ([])) ⟨_,_,rfl,h2,qbF⟩ _ l_1 hl_1 e18 hG hTb ok) rfl rfl ?_
 rintro _ w ⟨m19,c20,vs22,rfl,hle,ok,h21,h23,r24⟩
 have le_m0:=le_m0.trans hle
 have h2:=(mL qaP).up hle h2
 have h4:=(mL qaR).up hle h4
 have hl_1:=(mL qcK).up hle hl_1
 obtain ⟨rfl,r25,r26⟩:=h23
 refine ⟨_,rfl,fun a E=>?_⟩
 refine mv E rfl fun a E=>lw E (qaw rfl rfl) fun a E=>lw E (qaw rfl rfl) fun a E=>lw E (qaw rfl rfl) fun a E=>qaC E ok qdB rfl rfl fun b27 a w E ok=>av E rfl fun a E=>qai E ok 0 rfl rfl rfl qen rfl rfl ⟨rfl,rfl,trivial⟩ rfl rfl fun w ok=>av E rfl fun a E=>?_
 refine wn<|wp_seq<|sg<|mv E rfl fun a E=>lw E (qbt rfl rfl) fun a E=>mv E rfl fun a E=>?_
 refine qap (r17.2.2 == 0) (fun hc28=>?_) (fun hc28=>?_)
 rotate_left
 ·as_aux_lemma =>
   replace hF:=qaj hc28 hF
   replace E:=E.upd 42 hc28 rfl
   refine ls E fun a E=>ls E fun a E=>ls E fun a E=>pf E rfl rfl fun a E=>wn<|c_if E rfl (fun h=>by cases h) (fun _=>?_)
   refine wp_skip<|qaa<|wp_seq<|sg<|aw E rfl fun a E=>?_
   refine wp_block ?_
   obtain ⟨o270,hL,hF⟩:=bnd hF
   refine qaO _ (fun (s:Int) a w=>Ok u m19 ([(b27,oc 46 [vi r17.2.1.File,vi r17.2.1.Offset])] :: [(b9,oc 66 [vs more_2.Name,vi more_2.ID,vi more_2.Source])] :: [(b8,oc 41 [c1,c3])] :: S) w ∧ Env 123 a [(1,vl_1),(3,vp b8),(5,vp b9),(10,vi s)] ∧ InR .i64 s) (fun (b:(Unit ⊕ Bool)) e a w=>(Sum.elim (fun b506=>e = (.exit 0) ∧ Ok u m19 ([(b27,oc 46 [vi r17.2.1.File,vi r17.2.1.Offset])] :: [(b9,oc 66 [vs more_2.Name,vi more_2.ID,vi more_2.Source])] :: [(b8,oc 41 [c1,c3])] :: S) w ∧ Env 123 a [(1,vl_1),(3,vp b8),(5,vp b9)]) (fun b507=>e = .ret ∧ qco u m0 S b507 a w)) b) ?_ ?_ N _ a w hL ⟨ok,E.keep [1,3,5,10],(ir 0)⟩
   ·as_aux_lemma =>
     rintro i_272 a w r ⟨ok,E,r273⟩ hF
     replace hF:qb1 N l_1 more_2 i_272 = some r:=hF
     unfold qb1 at hF
     refine wp_seq<|sg<|mv E rfl fun a E=>mv E rfl fun a E=>lv E ok (qaE qgQ hl_1 rfl) fun a E=>lw E (qaA rfl rfl) fun a E=>wpList_nil ?_
     refine qaa<|cf E rfl hF (fun hc274 hF=>?_) fun hc274 hF=>?_
     rotate_left
     ·refine wp_exit<|qaB ?_
      obtain rfl:=sj hF
      exact so (sl ⟨rfl,⟨ok,E.keep [1,3,5]⟩⟩)
     refine wp_skip<|qaa<|wp_seq<|wp_block<|sg<|av E rfl fun a E=>wpList_nil ?_
     refine qaa<|wp_block ?_
     obtain ⟨o276,hL,hF⟩:=bnd hF
     refine qaO _ (fun (s:Int) a w=>Ok u m19 ([(b27,oc 46 [vi r17.2.1.File,vi r17.2.1.Offset])] :: [(b9,oc 66 [vs more_2.Name,vi more_2.ID,vi more_2.Source])] :: [(b8,oc 41 [c1,c3])] :: S) w ∧ Env 123 a [(1,vl_1),(3,vp b8),(5,vp b9),(10,vi i_272),(11,vi s)] ∧ InR .i64 s) (fun (b:(Unit ⊕ Bool)) e a w=>(Sum.elim (fun b306=>e = (.exit 2) ∧ Ok u m19 ([(b27,oc 46 [vi r17.2.1.File,vi r17.2.1.Offset])] :: [(b9,oc 66 [vs more_2.Name,vi more_2.ID,vi more_2.Source])] :: [(b8,oc 41 [c1,c3])] :: S) w ∧ Env 123 a [(1,vl_1),(3,vp b8),(5,vp b9),(10,vi i_272)]) (fun b307=>e = .ret ∧ qco u m0 S b307 a w)) b) ?_ ?_ N _ a w hL ⟨ok,E.keep [1,3,5,10,11],(ir 0)⟩
     rotate_left
     ·intro e a w _ hO
      rcases o276 with o276 | o276
      rotate_left
      ·replace hF:=qbf hF
       obtain ⟨rfl,hret⟩:=hO
       refine qan<|qan<|qag ?_
       obtain rfl:=sj hF
       exact so (sr ⟨rfl,hret⟩)
      replace hF:=qbe hF
      obtain ⟨rfl,ok,E⟩:=hO
      refine qaS<|qaq<|qaa<|qab<|mv E rfl fun a E=>lw E (qaG rfl rfl (InR.inc r273 (qas hl_1) hc274)) fun a E=>av E rfl fun a E=>wpList_nil ?_
      obtain rfl:=sj hF
      exact qay ⟨ok,E.keep [1,3,5,10],(InR.inc r273 (qas hl_1) hc274)⟩
     rintro k_278 a w r ⟨ok,E,r279⟩ hF
     replace hF:qcf N l_1 more_2 i_272 k_278 = some r:=hF
     unfold qcf at hF
     refine wp_seq<|wp_seq<|qbc (by kernel_rfl) (by kernel_rfl) ok<|qv E (qad rfl) fun a E=>qv E (qaf qej rfl) fun a E=>qv E (qao qav rfl (qae.own 1 rfl rfl)) fun a E=>qv E (qaV Tryz.underlying9 rfl) fun a E=>qv E (qaF rfl rfl) fun a E=>?_
     refine qv E (qad rfl) fun a E=>qv E (qad rfl) fun a E=>?_
     obtain ⟨x280,e281,hF⟩:=bnd hF
     obtain ⟨b282,o283,es284,hl285,rr286,at287,yy288⟩:=qaN qgQ hl_1 e281 (P:=Tryz.prog) (X:=.tmp 58) (I:=.tmp 59) (kd:=.i64) (qah E rfl) (qah E rfl)
     obtain ⟨rfl,l289,l290⟩:=rr286
     refine qv E (yy288 _ _) fun a E=>qv E (qaf qjq rfl) fun a E=>qv E (qao qav rfl (qae.ro (At.sub 1 1 at287))) fun a E=>qv E (qaV Tryz.underlying9 rfl) fun a E=>qv E (qcj rfl rfl) fun a E=>wpQuiet_nil ?_
     intro w ok
     refine qaa<|cf E rfl hF (fun hc291 hF=>?_) fun hc291 hF=>?_
     rotate_left
     ·refine wp_exit<|qaB ?_
      obtain rfl:=sj hF
      exact so (sl ⟨rfl,⟨ok,E.keep [1,3,5,10]⟩⟩)
     refine wp_skip<|qaa<|wp_seq<|wp_block<|wp_seq<|qbc (by kernel_rfl) (by kernel_rfl) ok<|qv E (qad rfl) fun a E=>qv E (qad rfl) fun a E=>?_
     obtain ⟨x292,e293,hF⟩:=bnd hF
     obtain ⟨b294,o295,es296,hl297,rr298,at299,yy300⟩:=qaN qgQ hl_1 e293 (P:=Tryz.prog) (X:=.tmp 67) (I:=.tmp 68) (kd:=.i64) (qah E rfl) (qah E rfl)
     obtain ⟨rfl,l301,l302⟩:=rr298
     refine qv E (yy300 _ _) fun a E=>qv E (qaf qjq rfl) fun a E=>qv E (qao qav rfl (qae.ro (At.sub 1 1 at299))) fun a E=>qv E (qad rfl) fun a E=>qv E (qad rfl) fun a E=>qv E (qaf qej rfl) fun a E=>qv E (qao qav rfl (qae.own 1 rfl rfl)) fun a E=>qv E (qaV Tryz.underlying9 rfl) fun a E=>?_
     refine qv E (qaF rfl rfl) fun a E=>?_
     obtain ⟨s303,e304,hF⟩:=bnd hF
     refine qv E (qa7 Tryz.underlying9 e304 rfl ⟨_,rfl⟩ ⟨_,rfl⟩) fun a E=>qv E (qaf qej rfl) fun a E=>qv E (qao qav rfl (qae.own 1 rfl rfl)) fun a E=>qv E (qbl rfl rfl) fun a E=>wpQuiet_nil ?_
     intro w ok
     refine qaa<|cf E rfl hF (fun hc305 hF=>?_) fun hc305 hF=>?_
     rotate_left
     ·refine wp_skip<|qaq<|qaa<|qab<|mv E rfl fun a E=>lw E (qaF rfl rfl) fun a E=>av E rfl fun a E=>wpList_nil ?_
      obtain rfl:=sj hF
      exact qay ⟨ok,E.keep [1,3,5,10,11],(InR.wrap _ _)⟩
     refine sg<|aw E rfl fun a E=>wp_ret<|qan<|qag ?_
     obtain rfl:=sj hF
     exact so (sr ⟨rfl,⟨(ok.drop.drop.drop).down hb0 le_m0,E.d,⟨rv_t E rfl,trivial⟩⟩⟩)
   intro e a w _ hO
   rcases o270 with o270 | o270
   rotate_left
   ·replace hF:=qbf hF
    obtain ⟨rfl,hret⟩:=hO
    refine qan<|qag ?_
    exact fin hF hret
   replace hF:=qbe hF
   obtain ⟨rfl,ok,E⟩:=hO
   refine qaS<|qaa<|wp_seq ?_
   obtain ⟨o308,hJ,hF⟩:=bnd hF
   refine qbx (Q':=fun e a w=>e = .normal ∧ ∃ b314 c309 c311 M312,Ok u m19 ([(b314,oc 41 [c309,c311])] :: M312 :: [(b27,oc 46 [vi r17.2.1.File,vi r17.2.1.Offset])] :: [(b9,oc 66 [vs more_2.Name,vi more_2.ID,vi more_2.Source])] :: [(b8,oc 41 [c1,c3])] :: S) w ∧ Env 123 a [(1,vl_1),(3,vp b8),(12,vp b314)] ∧ (pL 2 qbU) m19 [c309] o308.Script ∧ ORow 66 3 qaL m19 c311 o308.Calls M312) ?_ ?_
   rotate_left
   ·as_aux_lemma =>
     clear hJ
     intro e a w hO
     obtain ⟨rfl,b469,c464,c466,M467,ok,E,h465,h468⟩:=hO
     refine qaa<|wp_seq<|sg<|fv E qio rfl fun a E=>ld E ok qjr 0 rfl rfl rfl fun a E=>?_
     obtain ⟨r475,e476,hF⟩:=bnd hF
     obtain ⟨m470,hle472,ok471,hfz473⟩:=(ok.frs 1 rfl).freeze
     have h474:=ORow.froz qaR h468 hle472 hfz473 (by decide)
     refine qaz E qrJ rfl (qhu N _ o308.Calls h474 e476 hG ok471) rfl rfl ?_
     rintro _ w ⟨rfl,okz⟩
     replace ok:=(Ok.thawAt 1 rfl ok hle472 hfz473 okz)
     refine ⟨_,rfl,fun a E=>?_⟩
     refine lw E (qbQ rfl) fun a E=>wn<|cf E rfl hF (fun hc477 hF=>?_) fun hc477 hF=>?_
     ·refine sg<|aw E rfl fun a E=>wp_ret<|qag ?_
      exact fin hF ⟨(ok.drop.drop.drop.drop.drop).down hb0 le_m0,E.d,⟨rv_t E rfl,trivial⟩⟩
     refine wp_skip<|qaa<|sg<|lv E ok (qat (cs:=[c1,c3]) qkj rfl rfl (qae.own 4 rfl rfl)) fun a E=>mv E rfl fun a E=>?_
     obtain ⟨r478,e479,hF⟩:=bnd hF
     refine qaz E qlI rfl (qd7 N _ s_0 ⟨_,_,rfl,h2,h4⟩ _ l_1 hl_1 e479 hG hTb ok) rfl rfl ?_
     rintro _ w ⟨m480,c481,vs483,rfl,hle,ok,h482,h484,r485⟩
     have le_m0:=le_m0.trans hle
     have h2:=(mL qaP).up hle h2
     have h4:=(mL qaR).up hle h4
     have hl_1:=(mL qcK).up hle hl_1
     have h21:=(mL qeW).up hle h21
     have h465:=(mL qaP).up hle h465
     have h468:=ORow.up qaR hle h468
     obtain ⟨rfl,r486,r487⟩:=h484
     refine ⟨_,rfl,fun a E=>?_⟩
     refine mv E rfl fun a E=>lw E (qaw rfl rfl) fun a E=>lw E (qaw rfl rfl) fun a E=>lw E (qaw rfl rfl) fun a E=>qaC E ok qdB rfl rfl fun b488 a w E ok=>av E rfl fun a E=>qai E ok 0 rfl rfl rfl qen rfl rfl ⟨rfl,rfl,trivial⟩ rfl rfl fun w ok=>av E rfl fun a E=>?_
     refine wn<|sg<|lv E ok (qat (cs:=[c464,c466]) qkj rfl rfl (qae.own 1 rfl rfl)) fun a E=>mv E rfl fun a E=>?_
     obtain ⟨m489,hle,ok,hfz⟩:=(ok.frs 2 rfl).freeze
     have h490:=ORow.froz qaR h468 hle hfz (by decide)
     have le_m0:=le_m0.trans hle
     have h2:=(mL qaP).up hle h2
     have h4:=(mL qaR).up hle h4
     have hl_1:=(mL qcK).up hle hl_1
     have h21:=(mL qeW).up hle h21
     have h465:=(mL qaP).up hle h465
     have h482:=(mL qeW).up hle h482
     obtain ⟨r491,e492,hF⟩:=bnd hF
     refine qaz E qlI rfl (qd7 N _ o308 ⟨_,_,rfl,h465,h490⟩ _ l_1 hl_1 e492 hG hTb ok) rfl rfl ?_
     rintro _ w ⟨m493,c494,vs496,rfl,hle,ok,h495,h497,r498⟩
     have le_m0:=le_m0.trans hle
     have h2:=(mL qaP).up hle h2
     have h4:=(mL qaR).up hle h4
     have hl_1:=(mL qcK).up hle hl_1
     have h21:=(mL qeW).up hle h21
     have h465:=(mL qaP).up hle h465
     have h482:=(mL qeW).up hle h482
     have h490:=(mL qaR).up hle h490
     obtain ⟨rfl,r499,r500⟩:=h497
     refine ⟨_,rfl,fun a E=>?_⟩
     refine mv E rfl fun a E=>lw E (qaw rfl rfl) fun a E=>lw E (qaw rfl rfl) fun a E=>lw E (qaw rfl rfl) fun a E=>qaC E ok qdB rfl rfl fun b501 a w E ok=>av E rfl fun a E=>qai E ok 0 rfl rfl rfl qen rfl rfl ⟨rfl,rfl,trivial⟩ rfl rfl fun w ok=>av E rfl fun a E=>?_
     refine wn<|sg<|mv E rfl fun a E=>mv E rfl fun a E=>lw E (qbt rfl rfl) fun a E=>mv E rfl fun a E=>?_
     refine qap (r478.2.2 == r491.2.2) (fun hc502=>?_) (fun hc502=>?_)
     rotate_left
     ·replace hF:=qaj hc502 hF
      replace E:=E.upd 113 hc502 rfl
      refine ls E fun a E=>ls E fun a E=>ls E fun a E=>pf E rfl rfl fun a E=>mv E rfl fun a E=>ls E fun a E=>ls E fun a E=>ls E fun a E=>?_
      refine pf E rfl rfl fun a E=>aw E rfl fun a E=>wp_ret ?_
      exact fin hF ⟨(ok.drop.drop.drop.drop.drop.drop).down hb0 le_m0,E.d,⟨rv_t E rfl,trivial⟩⟩
     replace hF:=qak hc502 hF
     replace E:=E.upd 113 hc502 rfl
     refine lv E ok (qat (cs:=[vi r478.2.1.File,vi r478.2.1.Offset]) qff rfl rfl (qae.own 1 rfl rfl)) fun a E=>lv E ok (qat (cs:=[vi r491.2.1.File,vi r491.2.1.Offset]) qff rfl rfl (qae.own 0 rfl rfl)) fun a E=>lv E ok (qjt qpY (qjC Tryz.underlying46 qn4 (qiN (by decide) (qbC qaZ rfl) (qbC qaZ rfl) (qeI Tryz.underlying3) (qkb (by decide) (qbC qaZ rfl) (qbC qaZ rfl) (qeI Tryz.underlying3)))) rfl rfl) fun a E=>pt E rfl rfl fun a E=>mv E rfl fun a E=>qap ((r478.2.1.File == r491.2.1.File) && (r478.2.1.Offset == r491.2.1.Offset)) (fun hc503=>?_) (fun hc503=>?_)
     rotate_left
     ·replace hF:=qaj hc503 hF
      replace E:=E.upd 118 hc503 rfl
      refine ls E fun a E=>ls E fun a E=>ls E fun a E=>pf E rfl rfl fun a E=>aw E rfl fun a E=>wp_ret ?_
      exact fin hF ⟨(ok.drop.drop.drop.drop.drop.drop).down hb0 le_m0,E.d,⟨rv_t E rfl,trivial⟩⟩
     replace hF:=qak hc503 hF
     replace E:=E.upd 118 hc503 rfl
     refine mv E rfl fun a E=>mv E rfl fun a E=>?_
     obtain ⟨r504,e505,hF⟩:=bnd hF
     refine lc E qpi rfl (qgg N _ r478.1 h482 _ r491.1 h495 e505 hG ok) fun w ok a E=>pt E rfl rfl fun a E=>aw E rfl fun a E=>wp_ret ?_
     exact fin hF ⟨(ok.drop.drop.drop.drop.drop.drop).down hb0 le_m0,E.d,⟨rv_t E rfl,trivial⟩⟩
   replace hF:=hJ
   clear hJ
   obtain ⟨l318,e319,hF⟩:=bnd hF
   obtain ⟨l326,e327,hF⟩:=bnd hF
   obtain rfl:=sj hF
   refine qcp [] (Cls u m19 ([(b27,oc 46 [vi r17.2.1.File,vi r17.2.1.Offset])] :: [(b9,oc 66 [vs more_2.Name,vi more_2.ID,vi more_2.Source])] :: [(b8,oc 41 [c1,c3])] :: [])) (Cls u m19 ([(b27,oc 46 [vi r17.2.1.File,vi r17.2.1.Offset])] :: [(b9,oc 66 [vs more_2.Name,vi more_2.ID,vi more_2.Source])] :: [(b8,oc 41 [c1,c3])] :: [])) (by kernel_rfl) ?_
   intro w hw
   replace ok:=qcD ok hw
   clear hw
   have le_m19:=Mem.le.refl m19
   refine qam (cl1 (cq le_m19 ok [0,1,2] rfl) (cq le_m19 ok [0,1,2] rfl)) fun hT=>kt 0 E rfl hT (qaf qjc rfl) fun a E=>kt 1 E rfl hT (qao qks rfl (qae.cown 2 rfl rfl)) fun a E=>kt 3 E rfl hT (qaf qio rfl) fun a E=>kt 4 E rfl hT (qao qjr rfl (qae.cown 2 rfl rfl)) fun a E=>kt 6 E rfl hT (qat (cs:=[vs more_2.Name,vi more_2.ID,vi more_2.Source]) ql2 rfl rfl (qae.cown 1 rfl rfl)) fun a E=>qau [2,7,10] (by kernel_rfl) rfl (qbp ?_ (qbp ?_ (qbp ?_ (qcT))))
   ·as_aux_lemma =>
     refine wo rfl<|qaT (R:=qaL) (xo:=[]) (xs:=([]:List (Call))) E ok qaQ qaD rfl trivial rfl rfl rfl rfl fun c332 M333 a w E ok h334=>wn<|qam (cl1 (cq le_m19 ok [1,2,3] rfl) (cq le_m19 ok [1,2,3] rfl)) fun hT=>qau [5,7,10] (by kernel_rfl) rfl (qbp ?_ (qbp ?_ (qbp ?_ (qcT))))
     ·refine wo rfl<|qa3 (R:=qaL) E ok 0 qaR qaQ Tryz.underlying22 rfl h334 (qaJ.ofL h4 ok) e319 ⟨_,qaD,rfl⟩ rfl rfl rfl rfl fun c335 M336 a w E ok h337=>wn<|qam (cl1 (cq le_m19 ok [1,2,3] rfl) (cq le_m19 ok [1,2,3] rfl)) fun hT=>qau [7,10] (by kernel_rfl) rfl (qbp ?_ (qbp ?_ (qcT)))
      rotate_left
      ·refine wo rfl<|qaC E ok qa4 rfl rfl fun b349 a w E ok=>wn<|qam (cl1 (cq le_m19 ok [2,3,4] rfl) (cq le_m19 ok [2,3,4] rfl)) fun hT=>qau [7] (by kernel_rfl) rfl (qax ?_)
       ·refine wo rfl<|qaT (R:=qaL) (xo:=[.tmp 88]) (xs:=([more_2]:List (Call))) E ok qaQ qaD rfl ⟨⟨_,rfl,rfl,⟨rfl,l5,r6,r7⟩⟩,trivial⟩ rfl rfl rfl rfl fun c350 M351 a w E ok h352=>wn<|qam (cl1 (cq le_m19 ok [3,4,5] rfl) (cq le_m19 ok [3,4,5] rfl)) fun hT=>qau [8] (by kernel_rfl) rfl (qax ?_)
        ·refine wo rfl<|qa3 (R:=qaL) E ok 2 qaR qaQ Tryz.underlying22 rfl h337 (qaJ.ofRow h352 0 rfl ok) e327 ⟨_,qaD,rfl⟩ rfl rfl rfl rfl fun c353 M354 a w E ok h355=>wn<|qam (cl1 (cq le_m19 ok [3,4,5] rfl) (cq le_m19 ok [3,4,5] rfl)) fun hT=>kt 9 E rfl hT (qaK (ps:=[(0,.tmp 83),(1,.tmp 90)]) (qs:=[(0,[c1]),(1,[c353])]) (cs:=[c1,c353]) qa4 qbm rfl ⟨rfl,(qbi h2),rfl,⟨rfl,(ORow.cells h355),rfl,trivial⟩⟩ rfl) fun a E=>qau [11] (by kernel_rfl) rfl (qax ?_)
         ·refine wo rfl<|qai E ok 1 rfl rfl rfl qb4 rfl rfl ⟨(qa0 h2),(ORow.one h355),trivial⟩ rfl rfl fun w ok=>wn<|qam (cl1 (cq le_m19 ok [3,4,5] rfl) (cq le_m19 ok [3,4,5] rfl)) fun hT=>qbd (by kernel_rfl) ?_
          exact ⟨rfl,⟨b349,c1,c353,M354,(ok.pk 6 [1,2,3,4,5] rfl (by decide)),E.keep [1,3,12],h2,h355⟩⟩
      refine wo rfl<|qaT (R:=qaL) (xo:=[.tmp 88]) (xs:=([more_2]:List (Call))) E ok qaQ qaD rfl ⟨⟨_,rfl,rfl,⟨rfl,l5,r6,r7⟩⟩,trivial⟩ rfl rfl rfl rfl fun c338 M339 a w E ok h340=>wn<|qam (cl1 (cq le_m19 ok [2,3,4] rfl) (cq le_m19 ok [2,3,4] rfl)) fun hT=>qau [8,10] (by kernel_rfl) rfl (qbp ?_ (qbp ?_ (qcT)))
      ·refine wo rfl<|qa3 (R:=qaL) E ok 1 qaR qaQ Tryz.underlying22 rfl h337 (qaJ.ofRow h340 0 rfl ok) e327 ⟨_,qaD,rfl⟩ rfl rfl rfl rfl fun c341 M342 a w E ok h343=>wn<|qam (cl1 (cq le_m19 ok [2,3,4] rfl) (cq le_m19 ok [2,3,4] rfl)) fun hT=>kt 9 E rfl hT (qaK (ps:=[(0,.tmp 83),(1,.tmp 90)]) (qs:=[(0,[c1]),(1,[c341])]) (cs:=[c1,c341]) qa4 qbm rfl ⟨rfl,(qbi h2),rfl,⟨rfl,(ORow.cells h343),rfl,trivial⟩⟩ rfl) fun a E=>qau [10] (by kernel_rfl) rfl (qax ?_)
       ·refine wo rfl<|qaC E ok qa4 rfl rfl fun b344 a w E ok=>wn<|qam (cl1 (cq le_m19 ok [3,4,5] rfl) (cq le_m19 ok [3,4,5] rfl)) fun hT=>qau [11] (by kernel_rfl) rfl (qax ?_)
        ·refine wo rfl<|qai E ok 0 rfl rfl rfl qb4 rfl rfl ⟨(qa0 h2),(ORow.one h343),trivial⟩ rfl rfl fun w ok=>wn<|qam (cl1 (cq le_m19 ok [3,4,5] rfl) (cq le_m19 ok [3,4,5] rfl)) fun hT=>qbd (by kernel_rfl) ?_
         exact ⟨rfl,⟨b344,c1,c341,M342,(ok.pk 6 [0,2,3,4,5] rfl (by decide)),E.keep [1,3,12],h2,h343⟩⟩
      refine wo rfl<|qaC E ok qa4 rfl rfl fun b345 a w E ok=>wn<|qam (cl1 (cq le_m19 ok [3,4,5] rfl) (cq le_m19 ok [3,4,5] rfl)) fun hT=>qau [8] (by kernel_rfl) rfl (qax ?_)
      ·refine wo rfl<|qa3 (R:=qaL) E ok 2 qaR qaQ Tryz.underlying22 rfl h337 (qaJ.ofRow h340 1 rfl ok) e327 ⟨_,qaD,rfl⟩ rfl rfl rfl rfl fun c346 M347 a w E ok h348=>wn<|qam (cl1 (cq le_m19 ok [3,4,5] rfl) (cq le_m19 ok [3,4,5] rfl)) fun hT=>kt 9 E rfl hT (qaK (ps:=[(0,.tmp 83),(1,.tmp 90)]) (qs:=[(0,[c1]),(1,[c346])]) (cs:=[c1,c346]) qa4 qbm rfl ⟨rfl,(qbi h2),rfl,⟨rfl,(ORow.cells h348),rfl,trivial⟩⟩ rfl) fun a E=>qau [11] (by kernel_rfl) rfl (qax ?_)
       ·refine wo rfl<|qai E ok 0 rfl rfl rfl qb4 rfl rfl ⟨(qa0 h2),(ORow.one h348),trivial⟩ rfl rfl fun w ok=>wn<|qam (cl1 (cq le_m19 ok [3,4,5] rfl) (cq le_m19 ok [3,4,5] rfl)) fun hT=>qbd (by kernel_rfl) ?_
        exact ⟨rfl,⟨b345,c1,c346,M347,(ok.pk 6 [0,2,3,4,5] rfl (by decide)),E.keep [1,3,12],h2,h348⟩⟩
     ·refine wo rfl<|qaT (R:=qaL) (xo:=[.tmp 88]) (xs:=([more_2]:List (Call))) E ok qaQ qaD rfl ⟨⟨_,rfl,rfl,⟨rfl,l5,r6,r7⟩⟩,trivial⟩ rfl rfl rfl rfl fun c356 M357 a w E ok h358=>wn<|qam (cl1 (cq le_m19 ok [2,3,4] rfl) (cq le_m19 ok [2,3,4] rfl)) fun hT=>qau [5,10] (by kernel_rfl) rfl (qbp ?_ (qbp ?_ (qcT)))
      rotate_left
      ·refine wo rfl<|qaC E ok qa4 rfl rfl fun b370 a w E ok=>wn<|qam (cl1 (cq le_m19 ok [3,4,5] rfl) (cq le_m19 ok [3,4,5] rfl)) fun hT=>qau [5] (by kernel_rfl) rfl (qax ?_)
       ·refine wo rfl<|qa3 (R:=qaL) E ok 2 qaR qaQ Tryz.underlying22 rfl h334 (qaJ.ofL h4 ok) e319 ⟨_,qaD,rfl⟩ rfl rfl rfl rfl fun c371 M372 a w E ok h373=>wn<|qam (cl1 (cq le_m19 ok [3,4,5] rfl) (cq le_m19 ok [3,4,5] rfl)) fun hT=>qau [8] (by kernel_rfl) rfl (qax ?_)
        ·refine wo rfl<|qa3 (R:=qaL) E ok 2 qaR qaQ Tryz.underlying22 rfl h373 (qaJ.ofRow h358 1 rfl ok) e327 ⟨_,qaD,rfl⟩ rfl rfl rfl rfl fun c374 M375 a w E ok h376=>wn<|qam (cl1 (cq le_m19 ok [3,4,5] rfl) (cq le_m19 ok [3,4,5] rfl)) fun hT=>kt 9 E rfl hT (qaK (ps:=[(0,.tmp 83),(1,.tmp 90)]) (qs:=[(0,[c1]),(1,[c374])]) (cs:=[c1,c374]) qa4 qbm rfl ⟨rfl,(qbi h2),rfl,⟨rfl,(ORow.cells h376),rfl,trivial⟩⟩ rfl) fun a E=>qau [11] (by kernel_rfl) rfl (qax ?_)
         ·refine wo rfl<|qai E ok 0 rfl rfl rfl qb4 rfl rfl ⟨(qa0 h2),(ORow.one h376),trivial⟩ rfl rfl fun w ok=>wn<|qam (cl1 (cq le_m19 ok [3,4,5] rfl) (cq le_m19 ok [3,4,5] rfl)) fun hT=>qbd (by kernel_rfl) ?_
          exact ⟨rfl,⟨b370,c1,c374,M375,(ok.pk 6 [0,2,3,4,5] rfl (by decide)),E.keep [1,3,12],h2,h376⟩⟩
      refine wo rfl<|qa3 (R:=qaL) E ok 1 qaR qaQ Tryz.underlying22 rfl h334 (qaJ.ofL h4 ok) e319 ⟨_,qaD,rfl⟩ rfl rfl rfl rfl fun c359 M360 a w E ok h361=>wn<|qam (cl1 (cq le_m19 ok [2,3,4] rfl) (cq le_m19 ok [2,3,4] rfl)) fun hT=>qau [8,10] (by kernel_rfl) rfl (qbp ?_ (qbp ?_ (qcT)))
      ·refine wo rfl<|qa3 (R:=qaL) E ok 1 qaR qaQ Tryz.underlying22 rfl h361 (qaJ.ofRow h358 0 rfl ok) e327 ⟨_,qaD,rfl⟩ rfl rfl rfl rfl fun c362 M363 a w E ok h364=>wn<|qam (cl1 (cq le_m19 ok [2,3,4] rfl) (cq le_m19 ok [2,3,4] rfl)) fun hT=>kt 9 E rfl hT (qaK (ps:=[(0,.tmp 83),(1,.tmp 90)]) (qs:=[(0,[c1]),(1,[c362])]) (cs:=[c1,c362]) qa4 qbm rfl ⟨rfl,(qbi h2),rfl,⟨rfl,(ORow.cells h364),rfl,trivial⟩⟩ rfl) fun a E=>qau [10] (by kernel_rfl) rfl (qax ?_)
       ·refine wo rfl<|qaC E ok qa4 rfl rfl fun b365 a w E ok=>wn<|qam (cl1 (cq le_m19 ok [3,4,5] rfl) (cq le_m19 ok [3,4,5] rfl)) fun hT=>qau [11] (by kernel_rfl) rfl (qax ?_)
        ·refine wo rfl<|qai E ok 0 rfl rfl rfl qb4 rfl rfl ⟨(qa0 h2),(ORow.one h364),trivial⟩ rfl rfl fun w ok=>wn<|qam (cl1 (cq le_m19 ok [3,4,5] rfl) (cq le_m19 ok [3,4,5] rfl)) fun hT=>qbd (by kernel_rfl) ?_
         exact ⟨rfl,⟨b365,c1,c362,M363,(ok.pk 6 [0,2,3,4,5] rfl (by decide)),E.keep [1,3,12],h2,h364⟩⟩
      refine wo rfl<|qaC E ok qa4 rfl rfl fun b366 a w E ok=>wn<|qam (cl1 (cq le_m19 ok [3,4,5] rfl) (cq le_m19 ok [3,4,5] rfl)) fun hT=>qau [8] (by kernel_rfl) rfl (qax ?_)
      ·refine wo rfl<|qa3 (R:=qaL) E ok 2 qaR qaQ Tryz.underlying22 rfl h361 (qaJ.ofRow h358 1 rfl ok) e327 ⟨_,qaD,rfl⟩ rfl rfl rfl rfl fun c367 M368 a w E ok h369=>wn<|qam (cl1 (cq le_m19 ok [3,4,5] rfl) (cq le_m19 ok [3,4,5] rfl)) fun hT=>kt 9 E rfl hT (qaK (ps:=[(0,.tmp 83),(1,.tmp 90)]) (qs:=[(0,[c1]),(1,[c367])]) (cs:=[c1,c367]) qa4 qbm rfl ⟨rfl,(qbi h2),rfl,⟨rfl,(ORow.cells h369),rfl,trivial⟩⟩ rfl) fun a E=>qau [11] (by kernel_rfl) rfl (qax ?_)
       ·refine wo rfl<|qai E ok 0 rfl rfl rfl qb4 rfl rfl ⟨(qa0 h2),(ORow.one h369),trivial⟩ rfl rfl fun w ok=>wn<|qam (cl1 (cq le_m19 ok [3,4,5] rfl) (cq le_m19 ok [3,4,5] rfl)) fun hT=>qbd (by kernel_rfl) ?_
        exact ⟨rfl,⟨b366,c1,c367,M368,(ok.pk 6 [0,2,3,4,5] rfl (by decide)),E.keep [1,3,12],h2,h369⟩⟩
     refine wo rfl<|qaC E ok qa4 rfl rfl fun b377 a w E ok=>wn<|qam (cl1 (cq le_m19 ok [2,3,4] rfl) (cq le_m19 ok [2,3,4] rfl)) fun hT=>qau [5,7] (by kernel_rfl) rfl (qbp ?_ (qbp ?_ (qcT)))
     ·refine wo rfl<|qa3 (R:=qaL) E ok 1 qaR qaQ Tryz.underlying22 rfl h334 (qaJ.ofL h4 ok) e319 ⟨_,qaD,rfl⟩ rfl rfl rfl rfl fun c378 M379 a w E ok h380=>wn<|qam (cl1 (cq le_m19 ok [2,3,4] rfl) (cq le_m19 ok [2,3,4] rfl)) fun hT=>qau [7] (by kernel_rfl) rfl (qax ?_)
      ·refine wo rfl<|qaT (R:=qaL) (xo:=[.tmp 88]) (xs:=([more_2]:List (Call))) E ok qaQ qaD rfl ⟨⟨_,rfl,rfl,⟨rfl,l5,r6,r7⟩⟩,trivial⟩ rfl rfl rfl rfl fun c381 M382 a w E ok h383=>wn<|qam (cl1 (cq le_m19 ok [3,4,5] rfl) (cq le_m19 ok [3,4,5] rfl)) fun hT=>qau [8] (by kernel_rfl) rfl (qax ?_)
       ·refine wo rfl<|qa3 (R:=qaL) E ok 2 qaR qaQ Tryz.underlying22 rfl h380 (qaJ.ofRow h383 0 rfl ok) e327 ⟨_,qaD,rfl⟩ rfl rfl rfl rfl fun c384 M385 a w E ok h386=>wn<|qam (cl1 (cq le_m19 ok [3,4,5] rfl) (cq le_m19 ok [3,4,5] rfl)) fun hT=>kt 9 E rfl hT (qaK (ps:=[(0,.tmp 83),(1,.tmp 90)]) (qs:=[(0,[c1]),(1,[c384])]) (cs:=[c1,c384]) qa4 qbm rfl ⟨rfl,(qbi h2),rfl,⟨rfl,(ORow.cells h386),rfl,trivial⟩⟩ rfl) fun a E=>qau [11] (by kernel_rfl) rfl (qax ?_)
        ·refine wo rfl<|qai E ok 1 rfl rfl rfl qb4 rfl rfl ⟨(qa0 h2),(ORow.one h386),trivial⟩ rfl rfl fun w ok=>wn<|qam (cl1 (cq le_m19 ok [3,4,5] rfl) (cq le_m19 ok [3,4,5] rfl)) fun hT=>qbd (by kernel_rfl) ?_
         exact ⟨rfl,⟨b377,c1,c384,M385,(ok.pk 6 [1,2,3,4,5] rfl (by decide)),E.keep [1,3,12],h2,h386⟩⟩
     refine wo rfl<|qaT (R:=qaL) (xo:=[.tmp 88]) (xs:=([more_2]:List (Call))) E ok qaQ qaD rfl ⟨⟨_,rfl,rfl,⟨rfl,l5,r6,r7⟩⟩,trivial⟩ rfl rfl rfl rfl fun c387 M388 a w E ok h389=>wn<|qam (cl1 (cq le_m19 ok [3,4,5] rfl) (cq le_m19 ok [3,4,5] rfl)) fun hT=>qau [5] (by kernel_rfl) rfl (qax ?_)
     ·refine wo rfl<|qa3 (R:=qaL) E ok 2 qaR qaQ Tryz.underlying22 rfl h334 (qaJ.ofL h4 ok) e319 ⟨_,qaD,rfl⟩ rfl rfl rfl rfl fun c390 M391 a w E ok h392=>wn<|qam (cl1 (cq le_m19 ok [3,4,5] rfl) (cq le_m19 ok [3,4,5] rfl)) fun hT=>qau [8] (by kernel_rfl) rfl (qax ?_)
      ·refine wo rfl<|qa3 (R:=qaL) E ok 2 qaR qaQ Tryz.underlying22 rfl h392 (qaJ.ofRow h389 0 rfl ok) e327 ⟨_,qaD,rfl⟩ rfl rfl rfl rfl fun c393 M394 a w E ok h395=>wn<|qam (cl1 (cq le_m19 ok [3,4,5] rfl) (cq le_m19 ok [3,4,5] rfl)) fun hT=>kt 9 E rfl hT (qaK (ps:=[(0,.tmp 83),(1,.tmp 90)]) (qs:=[(0,[c1]),(1,[c393])]) (cs:=[c1,c393]) qa4 qbm rfl ⟨rfl,(qbi h2),rfl,⟨rfl,(ORow.cells h395),rfl,trivial⟩⟩ rfl) fun a E=>qau [11] (by kernel_rfl) rfl (qax ?_)
       ·refine wo rfl<|qai E ok 1 rfl rfl rfl qb4 rfl rfl ⟨(qa0 h2),(ORow.one h395),trivial⟩ rfl rfl fun w ok=>wn<|qam (cl1 (cq le_m19 ok [3,4,5] rfl) (cq le_m19 ok [3,4,5] rfl)) fun hT=>qbd (by kernel_rfl) ?_
        exact ⟨rfl,⟨b377,c1,c393,M394,(ok.pk 6 [1,2,3,4,5] rfl (by decide)),E.keep [1,3,12],h2,h395⟩⟩
   ·as_aux_lemma =>
     refine wo rfl<|qaT (R:=qaL) (xo:=[.tmp 88]) (xs:=([more_2]:List (Call))) E ok qaQ qaD rfl ⟨⟨_,rfl,rfl,⟨rfl,l5,r6,r7⟩⟩,trivial⟩ rfl rfl rfl rfl fun c396 M397 a w E ok h398=>wn<|qam (cl1 (cq le_m19 ok [1,2,3] rfl) (cq le_m19 ok [1,2,3] rfl)) fun hT=>qau [2,10] (by kernel_rfl) rfl (qbp ?_ (qbp ?_ (qcT)))
     rotate_left
     ·refine wo rfl<|qaC E ok qa4 rfl rfl fun b420 a w E ok=>wn<|qam (cl1 (cq le_m19 ok [2,3,4] rfl) (cq le_m19 ok [2,3,4] rfl)) fun hT=>qau [2] (by kernel_rfl) rfl (qax ?_)
      ·refine wo rfl<|qaT (R:=qaL) (xo:=[]) (xs:=([]:List (Call))) E ok qaQ qaD rfl trivial rfl rfl rfl rfl fun c421 M422 a w E ok h423=>wn<|qam (cl1 (cq le_m19 ok [3,4,5] rfl) (cq le_m19 ok [3,4,5] rfl)) fun hT=>qau [5] (by kernel_rfl) rfl (qax ?_)
       ·refine wo rfl<|qa3 (R:=qaL) E ok 0 qaR qaQ Tryz.underlying22 rfl h423 (qaJ.ofL h4 ok) e319 ⟨_,qaD,rfl⟩ rfl rfl rfl rfl fun c424 M425 a w E ok h426=>wn<|qam (cl1 (cq le_m19 ok [3,4,5] rfl) (cq le_m19 ok [3,4,5] rfl)) fun hT=>qau [8] (by kernel_rfl) rfl (qax ?_)
        ·refine wo rfl<|qa3 (R:=qaL) E ok 0 qaR qaQ Tryz.underlying22 rfl h426 (qaJ.ofRow h398 2 rfl ok) e327 ⟨_,qaD,rfl⟩ rfl rfl rfl rfl fun c427 M428 a w E ok h429=>wn<|qam (cl1 (cq le_m19 ok [3,4,5] rfl) (cq le_m19 ok [3,4,5] rfl)) fun hT=>kt 9 E rfl hT (qaK (ps:=[(0,.tmp 83),(1,.tmp 90)]) (qs:=[(0,[c1]),(1,[c427])]) (cs:=[c1,c427]) qa4 qbm rfl ⟨rfl,(qbi h2),rfl,⟨rfl,(ORow.cells h429),rfl,trivial⟩⟩ rfl) fun a E=>qau [11] (by kernel_rfl) rfl (qax ?_)
         ·refine wo rfl<|qai E ok 1 rfl rfl rfl qb4 rfl rfl ⟨(qa0 h2),(ORow.one h429),trivial⟩ rfl rfl fun w ok=>wn<|qam (cl1 (cq le_m19 ok [3,4,5] rfl) (cq le_m19 ok [3,4,5] rfl)) fun hT=>qbd (by kernel_rfl) ?_
          exact ⟨rfl,⟨b420,c1,c427,M428,(ok.pk 6 [1,0,3,4,5] rfl (by decide)),E.keep [1,3,12],h2,h429⟩⟩
     refine wo rfl<|qaT (R:=qaL) (xo:=[]) (xs:=([]:List (Call))) E ok qaQ qaD rfl trivial rfl rfl rfl rfl fun c399 M400 a w E ok h401=>wn<|qam (cl1 (cq le_m19 ok [2,3,4] rfl) (cq le_m19 ok [2,3,4] rfl)) fun hT=>qau [5,10] (by kernel_rfl) rfl (qbp ?_ (qbp ?_ (qcT)))
     rotate_left
     ·refine wo rfl<|qaC E ok qa4 rfl rfl fun b413 a w E ok=>wn<|qam (cl1 (cq le_m19 ok [3,4,5] rfl) (cq le_m19 ok [3,4,5] rfl)) fun hT=>qau [5] (by kernel_rfl) rfl (qax ?_)
      ·refine wo rfl<|qa3 (R:=qaL) E ok 1 qaR qaQ Tryz.underlying22 rfl h401 (qaJ.ofL h4 ok) e319 ⟨_,qaD,rfl⟩ rfl rfl rfl rfl fun c414 M415 a w E ok h416=>wn<|qam (cl1 (cq le_m19 ok [3,4,5] rfl) (cq le_m19 ok [3,4,5] rfl)) fun hT=>qau [8] (by kernel_rfl) rfl (qax ?_)
       ·refine wo rfl<|qa3 (R:=qaL) E ok 1 qaR qaQ Tryz.underlying22 rfl h416 (qaJ.ofRow h398 2 rfl ok) e327 ⟨_,qaD,rfl⟩ rfl rfl rfl rfl fun c417 M418 a w E ok h419=>wn<|qam (cl1 (cq le_m19 ok [3,4,5] rfl) (cq le_m19 ok [3,4,5] rfl)) fun hT=>kt 9 E rfl hT (qaK (ps:=[(0,.tmp 83),(1,.tmp 90)]) (qs:=[(0,[c1]),(1,[c417])]) (cs:=[c1,c417]) qa4 qbm rfl ⟨rfl,(qbi h2),rfl,⟨rfl,(ORow.cells h419),rfl,trivial⟩⟩ rfl) fun a E=>qau [11] (by kernel_rfl) rfl (qax ?_)
        ·refine wo rfl<|qai E ok 0 rfl rfl rfl qb4 rfl rfl ⟨(qa0 h2),(ORow.one h419),trivial⟩ rfl rfl fun w ok=>wn<|qam (cl1 (cq le_m19 ok [3,4,5] rfl) (cq le_m19 ok [3,4,5] rfl)) fun hT=>qbd (by kernel_rfl) ?_
         exact ⟨rfl,⟨b413,c1,c417,M418,(ok.pk 6 [0,1,3,4,5] rfl (by decide)),E.keep [1,3,12],h2,h419⟩⟩
     refine wo rfl<|qa3 (R:=qaL) E ok 0 qaR qaQ Tryz.underlying22 rfl h401 (qaJ.ofL h4 ok) e319 ⟨_,qaD,rfl⟩ rfl rfl rfl rfl fun c402 M403 a w E ok h404=>wn<|qam (cl1 (cq le_m19 ok [2,3,4] rfl) (cq le_m19 ok [2,3,4] rfl)) fun hT=>qau [8,10] (by kernel_rfl) rfl (qbp ?_ (qbp ?_ (qcT)))
     ·refine wo rfl<|qa3 (R:=qaL) E ok 0 qaR qaQ Tryz.underlying22 rfl h404 (qaJ.ofRow h398 1 rfl ok) e327 ⟨_,qaD,rfl⟩ rfl rfl rfl rfl fun c405 M406 a w E ok h407=>wn<|qam (cl1 (cq le_m19 ok [2,3,4] rfl) (cq le_m19 ok [2,3,4] rfl)) fun hT=>kt 9 E rfl hT (qaK (ps:=[(0,.tmp 83),(1,.tmp 90)]) (qs:=[(0,[c1]),(1,[c405])]) (cs:=[c1,c405]) qa4 qbm rfl ⟨rfl,(qbi h2),rfl,⟨rfl,(ORow.cells h407),rfl,trivial⟩⟩ rfl) fun a E=>qau [10] (by kernel_rfl) rfl (qax ?_)
      ·refine wo rfl<|qaC E ok qa4 rfl rfl fun b408 a w E ok=>wn<|qam (cl1 (cq le_m19 ok [3,4,5] rfl) (cq le_m19 ok [3,4,5] rfl)) fun hT=>qau [11] (by kernel_rfl) rfl (qax ?_)
       ·refine wo rfl<|qai E ok 0 rfl rfl rfl qb4 rfl rfl ⟨(qa0 h2),(ORow.one h407),trivial⟩ rfl rfl fun w ok=>wn<|qam (cl1 (cq le_m19 ok [3,4,5] rfl) (cq le_m19 ok [3,4,5] rfl)) fun hT=>qbd (by kernel_rfl) ?_
        exact ⟨rfl,⟨b408,c1,c405,M406,(ok.pk 6 [0,1,3,4,5] rfl (by decide)),E.keep [1,3,12],h2,h407⟩⟩
     refine wo rfl<|qaC E ok qa4 rfl rfl fun b409 a w E ok=>wn<|qam (cl1 (cq le_m19 ok [3,4,5] rfl) (cq le_m19 ok [3,4,5] rfl)) fun hT=>qau [8] (by kernel_rfl) rfl (qax ?_)
     ·refine wo rfl<|qa3 (R:=qaL) E ok 1 qaR qaQ Tryz.underlying22 rfl h404 (qaJ.ofRow h398 2 rfl ok) e327 ⟨_,qaD,rfl⟩ rfl rfl rfl rfl fun c410 M411 a w E ok h412=>wn<|qam (cl1 (cq le_m19 ok [3,4,5] rfl) (cq le_m19 ok [3,4,5] rfl)) fun hT=>kt 9 E rfl hT (qaK (ps:=[(0,.tmp 83),(1,.tmp 90)]) (qs:=[(0,[c1]),(1,[c410])]) (cs:=[c1,c410]) qa4 qbm rfl ⟨rfl,(qbi h2),rfl,⟨rfl,(ORow.cells h412),rfl,trivial⟩⟩ rfl) fun a E=>qau [11] (by kernel_rfl) rfl (qax ?_)
      ·refine wo rfl<|qai E ok 0 rfl rfl rfl qb4 rfl rfl ⟨(qa0 h2),(ORow.one h412),trivial⟩ rfl rfl fun w ok=>wn<|qam (cl1 (cq le_m19 ok [3,4,5] rfl) (cq le_m19 ok [3,4,5] rfl)) fun hT=>qbd (by kernel_rfl) ?_
       exact ⟨rfl,⟨b409,c1,c410,M411,(ok.pk 6 [0,1,3,4,5] rfl (by decide)),E.keep [1,3,12],h2,h412⟩⟩
   refine wo rfl<|qaC E ok qa4 rfl rfl fun b430 a w E ok=>wn<|qam (cl1 (cq le_m19 ok [1,2,3] rfl) (cq le_m19 ok [1,2,3] rfl)) fun hT=>qau [2,7] (by kernel_rfl) rfl (qbp ?_ (qbp ?_ (qcT)))
   rotate_left
   ·refine wo rfl<|qaT (R:=qaL) (xo:=[.tmp 88]) (xs:=([more_2]:List (Call))) E ok qaQ qaD rfl ⟨⟨_,rfl,rfl,⟨rfl,l5,r6,r7⟩⟩,trivial⟩ rfl rfl rfl rfl fun c452 M453 a w E ok h454=>wn<|qam (cl1 (cq le_m19 ok [2,3,4] rfl) (cq le_m19 ok [2,3,4] rfl)) fun hT=>qau [2] (by kernel_rfl) rfl (qax ?_)
    ·refine wo rfl<|qaT (R:=qaL) (xo:=[]) (xs:=([]:List (Call))) E ok qaQ qaD rfl trivial rfl rfl rfl rfl fun c455 M456 a w E ok h457=>wn<|qam (cl1 (cq le_m19 ok [3,4,5] rfl) (cq le_m19 ok [3,4,5] rfl)) fun hT=>qau [5] (by kernel_rfl) rfl (qax ?_)
     ·refine wo rfl<|qa3 (R:=qaL) E ok 0 qaR qaQ Tryz.underlying22 rfl h457 (qaJ.ofL h4 ok) e319 ⟨_,qaD,rfl⟩ rfl rfl rfl rfl fun c458 M459 a w E ok h460=>wn<|qam (cl1 (cq le_m19 ok [3,4,5] rfl) (cq le_m19 ok [3,4,5] rfl)) fun hT=>qau [8] (by kernel_rfl) rfl (qax ?_)
      ·refine wo rfl<|qa3 (R:=qaL) E ok 0 qaR qaQ Tryz.underlying22 rfl h460 (qaJ.ofRow h454 1 rfl ok) e327 ⟨_,qaD,rfl⟩ rfl rfl rfl rfl fun c461 M462 a w E ok h463=>wn<|qam (cl1 (cq le_m19 ok [3,4,5] rfl) (cq le_m19 ok [3,4,5] rfl)) fun hT=>kt 9 E rfl hT (qaK (ps:=[(0,.tmp 83),(1,.tmp 90)]) (qs:=[(0,[c1]),(1,[c461])]) (cs:=[c1,c461]) qa4 qbm rfl ⟨rfl,(qbi h2),rfl,⟨rfl,(ORow.cells h463),rfl,trivial⟩⟩ rfl) fun a E=>qau [11] (by kernel_rfl) rfl (qax ?_)
       ·refine wo rfl<|qai E ok 2 rfl rfl rfl qb4 rfl rfl ⟨(qa0 h2),(ORow.one h463),trivial⟩ rfl rfl fun w ok=>wn<|qam (cl1 (cq le_m19 ok [3,4,5] rfl) (cq le_m19 ok [3,4,5] rfl)) fun hT=>qbd (by kernel_rfl) ?_
        exact ⟨rfl,⟨b430,c1,c461,M462,(ok.pk 6 [2,0,3,4,5] rfl (by decide)),E.keep [1,3,12],h2,h463⟩⟩
   refine wo rfl<|qaT (R:=qaL) (xo:=[]) (xs:=([]:List (Call))) E ok qaQ qaD rfl trivial rfl rfl rfl rfl fun c431 M432 a w E ok h433=>wn<|qam (cl1 (cq le_m19 ok [2,3,4] rfl) (cq le_m19 ok [2,3,4] rfl)) fun hT=>qau [5,7] (by kernel_rfl) rfl (qbp ?_ (qbp ?_ (qcT)))
   ·refine wo rfl<|qa3 (R:=qaL) E ok 0 qaR qaQ Tryz.underlying22 rfl h433 (qaJ.ofL h4 ok) e319 ⟨_,qaD,rfl⟩ rfl rfl rfl rfl fun c434 M435 a w E ok h436=>wn<|qam (cl1 (cq le_m19 ok [2,3,4] rfl) (cq le_m19 ok [2,3,4] rfl)) fun hT=>qau [7] (by kernel_rfl) rfl (qax ?_)
    ·refine wo rfl<|qaT (R:=qaL) (xo:=[.tmp 88]) (xs:=([more_2]:List (Call))) E ok qaQ qaD rfl ⟨⟨_,rfl,rfl,⟨rfl,l5,r6,r7⟩⟩,trivial⟩ rfl rfl rfl rfl fun c437 M438 a w E ok h439=>wn<|qam (cl1 (cq le_m19 ok [3,4,5] rfl) (cq le_m19 ok [3,4,5] rfl)) fun hT=>qau [8] (by kernel_rfl) rfl (qax ?_)
     ·refine wo rfl<|qa3 (R:=qaL) E ok 1 qaR qaQ Tryz.underlying22 rfl h436 (qaJ.ofRow h439 0 rfl ok) e327 ⟨_,qaD,rfl⟩ rfl rfl rfl rfl fun c440 M441 a w E ok h442=>wn<|qam (cl1 (cq le_m19 ok [3,4,5] rfl) (cq le_m19 ok [3,4,5] rfl)) fun hT=>kt 9 E rfl hT (qaK (ps:=[(0,.tmp 83),(1,.tmp 90)]) (qs:=[(0,[c1]),(1,[c440])]) (cs:=[c1,c440]) qa4 qbm rfl ⟨rfl,(qbi h2),rfl,⟨rfl,(ORow.cells h442),rfl,trivial⟩⟩ rfl) fun a E=>qau [11] (by kernel_rfl) rfl (qax ?_)
      ·refine wo rfl<|qai E ok 2 rfl rfl rfl qb4 rfl rfl ⟨(qa0 h2),(ORow.one h442),trivial⟩ rfl rfl fun w ok=>wn<|qam (cl1 (cq le_m19 ok [3,4,5] rfl) (cq le_m19 ok [3,4,5] rfl)) fun hT=>qbd (by kernel_rfl) ?_
       exact ⟨rfl,⟨b430,c1,c440,M441,(ok.pk 6 [2,1,3,4,5] rfl (by decide)),E.keep [1,3,12],h2,h442⟩⟩
   refine wo rfl<|qaT (R:=qaL) (xo:=[.tmp 88]) (xs:=([more_2]:List (Call))) E ok qaQ qaD rfl ⟨⟨_,rfl,rfl,⟨rfl,l5,r6,r7⟩⟩,trivial⟩ rfl rfl rfl rfl fun c443 M444 a w E ok h445=>wn<|qam (cl1 (cq le_m19 ok [3,4,5] rfl) (cq le_m19 ok [3,4,5] rfl)) fun hT=>qau [5] (by kernel_rfl) rfl (qax ?_)
   ·refine wo rfl<|qa3 (R:=qaL) E ok 1 qaR qaQ Tryz.underlying22 rfl h433 (qaJ.ofL h4 ok) e319 ⟨_,qaD,rfl⟩ rfl rfl rfl rfl fun c446 M447 a w E ok h448=>wn<|qam (cl1 (cq le_m19 ok [3,4,5] rfl) (cq le_m19 ok [3,4,5] rfl)) fun hT=>qau [8] (by kernel_rfl) rfl (qax ?_)
    ·refine wo rfl<|qa3 (R:=qaL) E ok 1 qaR qaQ Tryz.underlying22 rfl h448 (qaJ.ofRow h445 0 rfl ok) e327 ⟨_,qaD,rfl⟩ rfl rfl rfl rfl fun c449 M450 a w E ok h451=>wn<|qam (cl1 (cq le_m19 ok [3,4,5] rfl) (cq le_m19 ok [3,4,5] rfl)) fun hT=>kt 9 E rfl hT (qaK (ps:=[(0,.tmp 83),(1,.tmp 90)]) (qs:=[(0,[c1]),(1,[c449])]) (cs:=[c1,c449]) qa4 qbm rfl ⟨rfl,(qbi h2),rfl,⟨rfl,(ORow.cells h451),rfl,trivial⟩⟩ rfl) fun a E=>qau [11] (by kernel_rfl) rfl (qax ?_)
     ·refine wo rfl<|qai E ok 2 rfl rfl rfl qb4 rfl rfl ⟨(qa0 h2),(ORow.one h451),trivial⟩ rfl rfl fun w ok=>wn<|qam (cl1 (cq le_m19 ok [3,4,5] rfl) (cq le_m19 ok [3,4,5] rfl)) fun hT=>qbd (by kernel_rfl) ?_
      exact ⟨rfl,⟨b430,c1,c449,M450,(ok.pk 6 [2,1,3,4,5] rfl (by decide)),E.keep [1,3,12],h2,h451⟩⟩
 replace hF:=qak hc28 hF
 replace E:=E.upd 42 hc28 rfl
 refine mv E rfl fun a E=>lv E ok (qaE qgU h21 rfl) fun a E=>lw E (qb9 rfl rfl) fun a E=>pt E rfl rfl fun a E=>wn<|cf E rfl hF (fun hc29 hF=>?_) fun hc29 hF=>?_
 ·refine sg<|aw E rfl fun a E=>wp_ret<|qag ?_
  exact fin hF ⟨(ok.drop.drop.drop).down hb0 le_m0,E.d,⟨rv_t E rfl,trivial⟩⟩
 refine wp_skip<|qaa<|wp_seq<|sg<|aw E rfl fun a E=>?_
 refine wp_block ?_
 obtain ⟨o31,hL,hF⟩:=bnd hF
 refine qaO _ (fun (s:Int) a w=>Ok u m19 ([(b27,oc 46 [vi r17.2.1.File,vi r17.2.1.Offset])] :: [(b9,oc 66 [vs more_2.Name,vi more_2.ID,vi more_2.Source])] :: [(b8,oc 41 [c1,c3])] :: S) w ∧ Env 123 a [(1,vl_1),(3,vp b8),(5,vp b9),(10,vi s)] ∧ InR .i64 s) (fun (b:(Unit ⊕ Bool)) e a w=>(Sum.elim (fun b267=>e = (.exit 0) ∧ Ok u m19 ([(b27,oc 46 [vi r17.2.1.File,vi r17.2.1.Offset])] :: [(b9,oc 66 [vs more_2.Name,vi more_2.ID,vi more_2.Source])] :: [(b8,oc 41 [c1,c3])] :: S) w ∧ Env 123 a [(1,vl_1),(3,vp b8),(5,vp b9)]) (fun b268=>e = .ret ∧ qco u m0 S b268 a w)) b) ?_ ?_ N _ a w hL ⟨ok,E.keep [1,3,5,10],(ir 0)⟩
 ·as_aux_lemma =>
   rintro i_33 a w r ⟨ok,E,r34⟩ hF
   replace hF:qb2 N l_1 more_2 i_33 = some r:=hF
   unfold qb2 at hF
   refine wp_seq<|sg<|mv E rfl fun a E=>mv E rfl fun a E=>lv E ok (qaE qgQ hl_1 rfl) fun a E=>lw E (qaA rfl rfl) fun a E=>wpList_nil ?_
   refine qaa<|cf E rfl hF (fun hc35 hF=>?_) fun hc35 hF=>?_
   rotate_left
   ·refine wp_exit<|qaB ?_
    obtain rfl:=sj hF
    exact so (sl ⟨rfl,⟨ok,E.keep [1,3,5]⟩⟩)
   refine wp_skip<|qaa<|wp_seq<|wp_block<|sg<|av E rfl fun a E=>wpList_nil ?_
   refine qaa<|wp_block ?_
   obtain ⟨o37,hL,hF⟩:=bnd hF
   refine qaO _ (fun (s:Int) a w=>Ok u m19 ([(b27,oc 46 [vi r17.2.1.File,vi r17.2.1.Offset])] :: [(b9,oc 66 [vs more_2.Name,vi more_2.ID,vi more_2.Source])] :: [(b8,oc 41 [c1,c3])] :: S) w ∧ Env 123 a [(1,vl_1),(3,vp b8),(5,vp b9),(10,vi i_33),(11,vi s)] ∧ InR .i64 s) (fun (b:(Unit ⊕ Bool)) e a w=>(Sum.elim (fun b67=>e = (.exit 2) ∧ Ok u m19 ([(b27,oc 46 [vi r17.2.1.File,vi r17.2.1.Offset])] :: [(b9,oc 66 [vs more_2.Name,vi more_2.ID,vi more_2.Source])] :: [(b8,oc 41 [c1,c3])] :: S) w ∧ Env 123 a [(1,vl_1),(3,vp b8),(5,vp b9),(10,vi i_33)]) (fun b68=>e = .ret ∧ qco u m0 S b68 a w)) b) ?_ ?_ N _ a w hL ⟨ok,E.keep [1,3,5,10,11],(ir 0)⟩
   rotate_left
   ·intro e a w _ hO
    rcases o37 with o37 | o37
    rotate_left
    ·replace hF:=qbf hF
     obtain ⟨rfl,hret⟩:=hO
     refine qan<|qan<|qag ?_
     obtain rfl:=sj hF
     exact so (sr ⟨rfl,hret⟩)
    replace hF:=qbe hF
    obtain ⟨rfl,ok,E⟩:=hO
    refine qaS<|qaq<|qaa<|qab<|mv E rfl fun a E=>lw E (qaG rfl rfl (InR.inc r34 (qas hl_1) hc35)) fun a E=>av E rfl fun a E=>wpList_nil ?_
    obtain rfl:=sj hF
    exact qay ⟨ok,E.keep [1,3,5,10],(InR.inc r34 (qas hl_1) hc35)⟩
   rintro k_39 a w r ⟨ok,E,r40⟩ hF
   replace hF:qce N l_1 more_2 i_33 k_39 = some r:=hF
   unfold qce at hF
   refine wp_seq<|wp_seq<|qbc (by kernel_rfl) (by kernel_rfl) ok<|qv E (qad rfl) fun a E=>qv E (qaf qej rfl) fun a E=>qv E (qao qav rfl (qae.own 1 rfl rfl)) fun a E=>qv E (qaV Tryz.underlying9 rfl) fun a E=>qv E (qaF rfl rfl) fun a E=>?_
   refine qv E (qad rfl) fun a E=>qv E (qad rfl) fun a E=>?_
   obtain ⟨x41,e42,hF⟩:=bnd hF
   obtain ⟨b43,o44,es45,hl46,rr47,at48,yy49⟩:=qaN qgQ hl_1 e42 (P:=Tryz.prog) (X:=.tmp 58) (I:=.tmp 59) (kd:=.i64) (qah E rfl) (qah E rfl)
   obtain ⟨rfl,l50,l51⟩:=rr47
   refine qv E (yy49 _ _) fun a E=>qv E (qaf qjq rfl) fun a E=>qv E (qao qav rfl (qae.ro (At.sub 1 1 at48))) fun a E=>qv E (qaV Tryz.underlying9 rfl) fun a E=>qv E (qcj rfl rfl) fun a E=>wpQuiet_nil ?_
   intro w ok
   refine qaa<|cf E rfl hF (fun hc52 hF=>?_) fun hc52 hF=>?_
   rotate_left
   ·refine wp_exit<|qaB ?_
    obtain rfl:=sj hF
    exact so (sl ⟨rfl,⟨ok,E.keep [1,3,5,10]⟩⟩)
   refine wp_skip<|qaa<|wp_seq<|wp_block<|wp_seq<|qbc (by kernel_rfl) (by kernel_rfl) ok<|qv E (qad rfl) fun a E=>qv E (qad rfl) fun a E=>?_
   obtain ⟨x53,e54,hF⟩:=bnd hF
   obtain ⟨b55,o56,es57,hl58,rr59,at60,yy61⟩:=qaN qgQ hl_1 e54 (P:=Tryz.prog) (X:=.tmp 67) (I:=.tmp 68) (kd:=.i64) (qah E rfl) (qah E rfl)
   obtain ⟨rfl,l62,l63⟩:=rr59
   refine qv E (yy61 _ _) fun a E=>qv E (qaf qjq rfl) fun a E=>qv E (qao qav rfl (qae.ro (At.sub 1 1 at60))) fun a E=>qv E (qad rfl) fun a E=>qv E (qad rfl) fun a E=>qv E (qaf qej rfl) fun a E=>qv E (qao qav rfl (qae.own 1 rfl rfl)) fun a E=>qv E (qaV Tryz.underlying9 rfl) fun a E=>?_
   refine qv E (qaF rfl rfl) fun a E=>?_
   obtain ⟨s64,e65,hF⟩:=bnd hF
   refine qv E (qa7 Tryz.underlying9 e65 rfl ⟨_,rfl⟩ ⟨_,rfl⟩) fun a E=>qv E (qaf qej rfl) fun a E=>qv E (qao qav rfl (qae.own 1 rfl rfl)) fun a E=>qv E (qbl rfl rfl) fun a E=>wpQuiet_nil ?_
   intro w ok
   refine qaa<|cf E rfl hF (fun hc66 hF=>?_) fun hc66 hF=>?_
   rotate_left
   ·refine wp_skip<|qaq<|qaa<|qab<|mv E rfl fun a E=>lw E (qaF rfl rfl) fun a E=>av E rfl fun a E=>wpList_nil ?_
    obtain rfl:=sj hF
    exact qay ⟨ok,E.keep [1,3,5,10,11],(InR.wrap _ _)⟩
   refine sg<|aw E rfl fun a E=>wp_ret<|qan<|qag ?_
   obtain rfl:=sj hF
   exact so (sr ⟨rfl,⟨(ok.drop.drop.drop).down hb0 le_m0,E.d,⟨rv_t E rfl,trivial⟩⟩⟩)
 intro e a w _ hO
 rcases o31 with o31 | o31
 rotate_left
 ·replace hF:=qbf hF
  obtain ⟨rfl,hret⟩:=hO
  refine qan<|qag ?_
  exact fin hF hret
 replace hF:=qbe hF
 obtain ⟨rfl,ok,E⟩:=hO
 refine qaS<|qaa<|wp_seq ?_
 obtain ⟨o69,hJ,hF⟩:=bnd hF
 refine qbx (Q':=fun e a w=>e = .normal ∧ ∃ b75 c70 c72 M73,Ok u m19 ([(b75,oc 41 [c70,c72])] :: M73 :: [(b27,oc 46 [vi r17.2.1.File,vi r17.2.1.Offset])] :: [(b9,oc 66 [vs more_2.Name,vi more_2.ID,vi more_2.Source])] :: [(b8,oc 41 [c1,c3])] :: S) w ∧ Env 123 a [(1,vl_1),(3,vp b8),(12,vp b75)] ∧ (pL 2 qbU) m19 [c70] o69.Script ∧ ORow 66 3 qaL m19 c72 o69.Calls M73) ?_ ?_
 rotate_left
 ·as_aux_lemma =>
   clear hJ
   intro e a w hO
   obtain ⟨rfl,b230,c225,c227,M228,ok,E,h226,h229⟩:=hO
   refine qaa<|wp_seq<|sg<|fv E qio rfl fun a E=>ld E ok qjr 0 rfl rfl rfl fun a E=>?_
   obtain ⟨r236,e237,hF⟩:=bnd hF
   obtain ⟨m231,hle233,ok232,hfz234⟩:=(ok.frs 1 rfl).freeze
   have h235:=ORow.froz qaR h229 hle233 hfz234 (by decide)
   refine qaz E qrJ rfl (qhu N _ o69.Calls h235 e237 hG ok232) rfl rfl ?_
   rintro _ w ⟨rfl,okz⟩
   replace ok:=(Ok.thawAt 1 rfl ok hle233 hfz234 okz)
   refine ⟨_,rfl,fun a E=>?_⟩
   refine lw E (qbQ rfl) fun a E=>wn<|cf E rfl hF (fun hc238 hF=>?_) fun hc238 hF=>?_
   ·refine sg<|aw E rfl fun a E=>wp_ret<|qag ?_
    exact fin hF ⟨(ok.drop.drop.drop.drop.drop).down hb0 le_m0,E.d,⟨rv_t E rfl,trivial⟩⟩
   refine wp_skip<|qaa<|sg<|lv E ok (qat (cs:=[c1,c3]) qkj rfl rfl (qae.own 4 rfl rfl)) fun a E=>mv E rfl fun a E=>?_
   obtain ⟨r239,e240,hF⟩:=bnd hF
   refine qaz E qlI rfl (qd7 N _ s_0 ⟨_,_,rfl,h2,h4⟩ _ l_1 hl_1 e240 hG hTb ok) rfl rfl ?_
   rintro _ w ⟨m241,c242,vs244,rfl,hle,ok,h243,h245,r246⟩
   have le_m0:=le_m0.trans hle
   have h2:=(mL qaP).up hle h2
   have h4:=(mL qaR).up hle h4
   have hl_1:=(mL qcK).up hle hl_1
   have h21:=(mL qeW).up hle h21
   have h226:=(mL qaP).up hle h226
   have h229:=ORow.up qaR hle h229
   obtain ⟨rfl,r247,r248⟩:=h245
   refine ⟨_,rfl,fun a E=>?_⟩
   refine mv E rfl fun a E=>lw E (qaw rfl rfl) fun a E=>lw E (qaw rfl rfl) fun a E=>lw E (qaw rfl rfl) fun a E=>qaC E ok qdB rfl rfl fun b249 a w E ok=>av E rfl fun a E=>qai E ok 0 rfl rfl rfl qen rfl rfl ⟨rfl,rfl,trivial⟩ rfl rfl fun w ok=>av E rfl fun a E=>?_
   refine wn<|sg<|lv E ok (qat (cs:=[c225,c227]) qkj rfl rfl (qae.own 1 rfl rfl)) fun a E=>mv E rfl fun a E=>?_
   obtain ⟨m250,hle,ok,hfz⟩:=(ok.frs 2 rfl).freeze
   have h251:=ORow.froz qaR h229 hle hfz (by decide)
   have le_m0:=le_m0.trans hle
   have h2:=(mL qaP).up hle h2
   have h4:=(mL qaR).up hle h4
   have hl_1:=(mL qcK).up hle hl_1
   have h21:=(mL qeW).up hle h21
   have h226:=(mL qaP).up hle h226
   have h243:=(mL qeW).up hle h243
   obtain ⟨r252,e253,hF⟩:=bnd hF
   refine qaz E qlI rfl (qd7 N _ o69 ⟨_,_,rfl,h226,h251⟩ _ l_1 hl_1 e253 hG hTb ok) rfl rfl ?_
   rintro _ w ⟨m254,c255,vs257,rfl,hle,ok,h256,h258,r259⟩
   have le_m0:=le_m0.trans hle
   have h2:=(mL qaP).up hle h2
   have h4:=(mL qaR).up hle h4
   have hl_1:=(mL qcK).up hle hl_1
   have h21:=(mL qeW).up hle h21
   have h226:=(mL qaP).up hle h226
   have h243:=(mL qeW).up hle h243
   have h251:=(mL qaR).up hle h251
   obtain ⟨rfl,r260,r261⟩:=h258
   refine ⟨_,rfl,fun a E=>?_⟩
   refine mv E rfl fun a E=>lw E (qaw rfl rfl) fun a E=>lw E (qaw rfl rfl) fun a E=>lw E (qaw rfl rfl) fun a E=>qaC E ok qdB rfl rfl fun b262 a w E ok=>av E rfl fun a E=>qai E ok 0 rfl rfl rfl qen rfl rfl ⟨rfl,rfl,trivial⟩ rfl rfl fun w ok=>av E rfl fun a E=>?_
   refine wn<|sg<|mv E rfl fun a E=>mv E rfl fun a E=>lw E (qbt rfl rfl) fun a E=>mv E rfl fun a E=>?_
   refine qap (r239.2.2 == r252.2.2) (fun hc263=>?_) (fun hc263=>?_)
   rotate_left
   ·replace hF:=qaj hc263 hF
    replace E:=E.upd 113 hc263 rfl
    refine ls E fun a E=>ls E fun a E=>ls E fun a E=>pf E rfl rfl fun a E=>mv E rfl fun a E=>ls E fun a E=>ls E fun a E=>ls E fun a E=>?_
    refine pf E rfl rfl fun a E=>aw E rfl fun a E=>wp_ret ?_
    exact fin hF ⟨(ok.drop.drop.drop.drop.drop.drop).down hb0 le_m0,E.d,⟨rv_t E rfl,trivial⟩⟩
   replace hF:=qak hc263 hF
   replace E:=E.upd 113 hc263 rfl
   refine lv E ok (qat (cs:=[vi r239.2.1.File,vi r239.2.1.Offset]) qff rfl rfl (qae.own 1 rfl rfl)) fun a E=>lv E ok (qat (cs:=[vi r252.2.1.File,vi r252.2.1.Offset]) qff rfl rfl (qae.own 0 rfl rfl)) fun a E=>lv E ok (qjt qpY (qjC Tryz.underlying46 qn4 (qiN (by decide) (qbC qaZ rfl) (qbC qaZ rfl) (qeI Tryz.underlying3) (qkb (by decide) (qbC qaZ rfl) (qbC qaZ rfl) (qeI Tryz.underlying3)))) rfl rfl) fun a E=>pt E rfl rfl fun a E=>mv E rfl fun a E=>qap ((r239.2.1.File == r252.2.1.File) && (r239.2.1.Offset == r252.2.1.Offset)) (fun hc264=>?_) (fun hc264=>?_)
   rotate_left
   ·replace hF:=qaj hc264 hF
    replace E:=E.upd 118 hc264 rfl
    refine ls E fun a E=>ls E fun a E=>ls E fun a E=>pf E rfl rfl fun a E=>aw E rfl fun a E=>wp_ret ?_
    exact fin hF ⟨(ok.drop.drop.drop.drop.drop.drop).down hb0 le_m0,E.d,⟨rv_t E rfl,trivial⟩⟩
   replace hF:=qak hc264 hF
   replace E:=E.upd 118 hc264 rfl
   refine mv E rfl fun a E=>mv E rfl fun a E=>?_
   obtain ⟨r265,e266,hF⟩:=bnd hF
   refine lc E qpi rfl (qgg N _ r239.1 h243 _ r252.1 h256 e266 hG ok) fun w ok a E=>pt E rfl rfl fun a E=>aw E rfl fun a E=>wp_ret ?_
   exact fin hF ⟨(ok.drop.drop.drop.drop.drop.drop).down hb0 le_m0,E.d,⟨rv_t E rfl,trivial⟩⟩
 replace hF:=hJ
 clear hJ
 obtain ⟨l79,e80,hF⟩:=bnd hF
 obtain ⟨l87,e88,hF⟩:=bnd hF
 obtain rfl:=sj hF
 refine qcp [] (Cls u m19 ([(b27,oc 46 [vi r17.2.1.File,vi r17.2.1.Offset])] :: [(b9,oc 66 [vs more_2.Name,vi more_2.ID,vi more_2.Source])] :: [(b8,oc 41 [c1,c3])] :: [])) (Cls u m19 ([(b27,oc 46 [vi r17.2.1.File,vi r17.2.1.Offset])] :: [(b9,oc 66 [vs more_2.Name,vi more_2.ID,vi more_2.Source])] :: [(b8,oc 41 [c1,c3])] :: [])) (by kernel_rfl) ?_
 intro w hw
 replace ok:=qcD ok hw
 clear hw
 have le_m19:=Mem.le.refl m19
 refine qam (cl1 (cq le_m19 ok [0,1,2] rfl) (cq le_m19 ok [0,1,2] rfl)) fun hT=>kt 0 E rfl hT (qaf qjc rfl) fun a E=>kt 1 E rfl hT (qao qks rfl (qae.cown 2 rfl rfl)) fun a E=>kt 3 E rfl hT (qaf qio rfl) fun a E=>kt 4 E rfl hT (qao qjr rfl (qae.cown 2 rfl rfl)) fun a E=>kt 6 E rfl hT (qat (cs:=[vs more_2.Name,vi more_2.ID,vi more_2.Source]) ql2 rfl rfl (qae.cown 1 rfl rfl)) fun a E=>qau [2,7,10] (by kernel_rfl) rfl (qbp ?_ (qbp ?_ (qbp ?_ (qcT))))
 ·as_aux_lemma =>
   refine wo rfl<|qaT (R:=qaL) (xo:=[]) (xs:=([]:List (Call))) E ok qaQ qaD rfl trivial rfl rfl rfl rfl fun c93 M94 a w E ok h95=>wn<|qam (cl1 (cq le_m19 ok [1,2,3] rfl) (cq le_m19 ok [1,2,3] rfl)) fun hT=>qau [5,7,10] (by kernel_rfl) rfl (qbp ?_ (qbp ?_ (qbp ?_ (qcT))))
   ·refine wo rfl<|qa3 (R:=qaL) E ok 0 qaR qaQ Tryz.underlying22 rfl h95 (qaJ.ofL h4 ok) e80 ⟨_,qaD,rfl⟩ rfl rfl rfl rfl fun c96 M97 a w E ok h98=>wn<|qam (cl1 (cq le_m19 ok [1,2,3] rfl) (cq le_m19 ok [1,2,3] rfl)) fun hT=>qau [7,10] (by kernel_rfl) rfl (qbp ?_ (qbp ?_ (qcT)))
    rotate_left
    ·refine wo rfl<|qaC E ok qa4 rfl rfl fun b110 a w E ok=>wn<|qam (cl1 (cq le_m19 ok [2,3,4] rfl) (cq le_m19 ok [2,3,4] rfl)) fun hT=>qau [7] (by kernel_rfl) rfl (qax ?_)
     ·refine wo rfl<|qaT (R:=qaL) (xo:=[.tmp 88]) (xs:=([more_2]:List (Call))) E ok qaQ qaD rfl ⟨⟨_,rfl,rfl,⟨rfl,l5,r6,r7⟩⟩,trivial⟩ rfl rfl rfl rfl fun c111 M112 a w E ok h113=>wn<|qam (cl1 (cq le_m19 ok [3,4,5] rfl) (cq le_m19 ok [3,4,5] rfl)) fun hT=>qau [8] (by kernel_rfl) rfl (qax ?_)
      ·refine wo rfl<|qa3 (R:=qaL) E ok 2 qaR qaQ Tryz.underlying22 rfl h98 (qaJ.ofRow h113 0 rfl ok) e88 ⟨_,qaD,rfl⟩ rfl rfl rfl rfl fun c114 M115 a w E ok h116=>wn<|qam (cl1 (cq le_m19 ok [3,4,5] rfl) (cq le_m19 ok [3,4,5] rfl)) fun hT=>kt 9 E rfl hT (qaK (ps:=[(0,.tmp 83),(1,.tmp 90)]) (qs:=[(0,[c1]),(1,[c114])]) (cs:=[c1,c114]) qa4 qbm rfl ⟨rfl,(qbi h2),rfl,⟨rfl,(ORow.cells h116),rfl,trivial⟩⟩ rfl) fun a E=>qau [11] (by kernel_rfl) rfl (qax ?_)
       ·refine wo rfl<|qai E ok 1 rfl rfl rfl qb4 rfl rfl ⟨(qa0 h2),(ORow.one h116),trivial⟩ rfl rfl fun w ok=>wn<|qam (cl1 (cq le_m19 ok [3,4,5] rfl) (cq le_m19 ok [3,4,5] rfl)) fun hT=>qbd (by kernel_rfl) ?_
        exact ⟨rfl,⟨b110,c1,c114,M115,(ok.pk 6 [1,2,3,4,5] rfl (by decide)),E.keep [1,3,12],h2,h116⟩⟩
    refine wo rfl<|qaT (R:=qaL) (xo:=[.tmp 88]) (xs:=([more_2]:List (Call))) E ok qaQ qaD rfl ⟨⟨_,rfl,rfl,⟨rfl,l5,r6,r7⟩⟩,trivial⟩ rfl rfl rfl rfl fun c99 M100 a w E ok h101=>wn<|qam (cl1 (cq le_m19 ok [2,3,4] rfl) (cq le_m19 ok [2,3,4] rfl)) fun hT=>qau [8,10] (by kernel_rfl) rfl (qbp ?_ (qbp ?_ (qcT)))
    ·refine wo rfl<|qa3 (R:=qaL) E ok 1 qaR qaQ Tryz.underlying22 rfl h98 (qaJ.ofRow h101 0 rfl ok) e88 ⟨_,qaD,rfl⟩ rfl rfl rfl rfl fun c102 M103 a w E ok h104=>wn<|qam (cl1 (cq le_m19 ok [2,3,4] rfl) (cq le_m19 ok [2,3,4] rfl)) fun hT=>kt 9 E rfl hT (qaK (ps:=[(0,.tmp 83),(1,.tmp 90)]) (qs:=[(0,[c1]),(1,[c102])]) (cs:=[c1,c102]) qa4 qbm rfl ⟨rfl,(qbi h2),rfl,⟨rfl,(ORow.cells h104),rfl,trivial⟩⟩ rfl) fun a E=>qau [10] (by kernel_rfl) rfl (qax ?_)
     ·refine wo rfl<|qaC E ok qa4 rfl rfl fun b105 a w E ok=>wn<|qam (cl1 (cq le_m19 ok [3,4,5] rfl) (cq le_m19 ok [3,4,5] rfl)) fun hT=>qau [11] (by kernel_rfl) rfl (qax ?_)
      ·refine wo rfl<|qai E ok 0 rfl rfl rfl qb4 rfl rfl ⟨(qa0 h2),(ORow.one h104),trivial⟩ rfl rfl fun w ok=>wn<|qam (cl1 (cq le_m19 ok [3,4,5] rfl) (cq le_m19 ok [3,4,5] rfl)) fun hT=>qbd (by kernel_rfl) ?_
       exact ⟨rfl,⟨b105,c1,c102,M103,(ok.pk 6 [0,2,3,4,5] rfl (by decide)),E.keep [1,3,12],h2,h104⟩⟩
    refine wo rfl<|qaC E ok qa4 rfl rfl fun b106 a w E ok=>wn<|qam (cl1 (cq le_m19 ok [3,4,5] rfl) (cq le_m19 ok [3,4,5] rfl)) fun hT=>qau [8] (by kernel_rfl) rfl (qax ?_)
    ·refine wo rfl<|qa3 (R:=qaL) E ok 2 qaR qaQ Tryz.underlying22 rfl h98 (qaJ.ofRow h101 1 rfl ok) e88 ⟨_,qaD,rfl⟩ rfl rfl rfl rfl fun c107 M108 a w E ok h109=>wn<|qam (cl1 (cq le_m19 ok [3,4,5] rfl) (cq le_m19 ok [3,4,5] rfl)) fun hT=>kt 9 E rfl hT (qaK (ps:=[(0,.tmp 83),(1,.tmp 90)]) (qs:=[(0,[c1]),(1,[c107])]) (cs:=[c1,c107]) qa4 qbm rfl ⟨rfl,(qbi h2),rfl,⟨rfl,(ORow.cells h109),rfl,trivial⟩⟩ rfl) fun a E=>qau [11] (by kernel_rfl) rfl (qax ?_)
     ·refine wo rfl<|qai E ok 0 rfl rfl rfl qb4 rfl rfl ⟨(qa0 h2),(ORow.one h109),trivial⟩ rfl rfl fun w ok=>wn<|qam (cl1 (cq le_m19 ok [3,4,5] rfl) (cq le_m19 ok [3,4,5] rfl)) fun hT=>qbd (by kernel_rfl) ?_
      exact ⟨rfl,⟨b106,c1,c107,M108,(ok.pk 6 [0,2,3,4,5] rfl (by decide)),E.keep [1,3,12],h2,h109⟩⟩
   ·refine wo rfl<|qaT (R:=qaL) (xo:=[.tmp 88]) (xs:=([more_2]:List (Call))) E ok qaQ qaD rfl ⟨⟨_,rfl,rfl,⟨rfl,l5,r6,r7⟩⟩,trivial⟩ rfl rfl rfl rfl fun c117 M118 a w E ok h119=>wn<|qam (cl1 (cq le_m19 ok [2,3,4] rfl) (cq le_m19 ok [2,3,4] rfl)) fun hT=>qau [5,10] (by kernel_rfl) rfl (qbp ?_ (qbp ?_ (qcT)))
    rotate_left
    ·refine wo rfl<|qaC E ok qa4 rfl rfl fun b131 a w E ok=>wn<|qam (cl1 (cq le_m19 ok [3,4,5] rfl) (cq le_m19 ok [3,4,5] rfl)) fun hT=>qau [5] (by kernel_rfl) rfl (qax ?_)
     ·refine wo rfl<|qa3 (R:=qaL) E ok 2 qaR qaQ Tryz.underlying22 rfl h95 (qaJ.ofL h4 ok) e80 ⟨_,qaD,rfl⟩ rfl rfl rfl rfl fun c132 M133 a w E ok h134=>wn<|qam (cl1 (cq le_m19 ok [3,4,5] rfl) (cq le_m19 ok [3,4,5] rfl)) fun hT=>qau [8] (by kernel_rfl) rfl (qax ?_)
      ·refine wo rfl<|qa3 (R:=qaL) E ok 2 qaR qaQ Tryz.underlying22 rfl h134 (qaJ.ofRow h119 1 rfl ok) e88 ⟨_,qaD,rfl⟩ rfl rfl rfl rfl fun c135 M136 a w E ok h137=>wn<|qam (cl1 (cq le_m19 ok [3,4,5] rfl) (cq le_m19 ok [3,4,5] rfl)) fun hT=>kt 9 E rfl hT (qaK (ps:=[(0,.tmp 83),(1,.tmp 90)]) (qs:=[(0,[c1]),(1,[c135])]) (cs:=[c1,c135]) qa4 qbm rfl ⟨rfl,(qbi h2),rfl,⟨rfl,(ORow.cells h137),rfl,trivial⟩⟩ rfl) fun a E=>qau [11] (by kernel_rfl) rfl (qax ?_)
       ·refine wo rfl<|qai E ok 0 rfl rfl rfl qb4 rfl rfl ⟨(qa0 h2),(ORow.one h137),trivial⟩ rfl rfl fun w ok=>wn<|qam (cl1 (cq le_m19 ok [3,4,5] rfl) (cq le_m19 ok [3,4,5] rfl)) fun hT=>qbd (by kernel_rfl) ?_
        exact ⟨rfl,⟨b131,c1,c135,M136,(ok.pk 6 [0,2,3,4,5] rfl (by decide)),E.keep [1,3,12],h2,h137⟩⟩
    refine wo rfl<|qa3 (R:=qaL) E ok 1 qaR qaQ Tryz.underlying22 rfl h95 (qaJ.ofL h4 ok) e80 ⟨_,qaD,rfl⟩ rfl rfl rfl rfl fun c120 M121 a w E ok h122=>wn<|qam (cl1 (cq le_m19 ok [2,3,4] rfl) (cq le_m19 ok [2,3,4] rfl)) fun hT=>qau [8,10] (by kernel_rfl) rfl (qbp ?_ (qbp ?_ (qcT)))
    ·refine wo rfl<|qa3 (R:=qaL) E ok 1 qaR qaQ Tryz.underlying22 rfl h122 (qaJ.ofRow h119 0 rfl ok) e88 ⟨_,qaD,rfl⟩ rfl rfl rfl rfl fun c123 M124 a w E ok h125=>wn<|qam (cl1 (cq le_m19 ok [2,3,4] rfl) (cq le_m19 ok [2,3,4] rfl)) fun hT=>kt 9 E rfl hT (qaK (ps:=[(0,.tmp 83),(1,.tmp 90)]) (qs:=[(0,[c1]),(1,[c123])]) (cs:=[c1,c123]) qa4 qbm rfl ⟨rfl,(qbi h2),rfl,⟨rfl,(ORow.cells h125),rfl,trivial⟩⟩ rfl) fun a E=>qau [10] (by kernel_rfl) rfl (qax ?_)
     ·refine wo rfl<|qaC E ok qa4 rfl rfl fun b126 a w E ok=>wn<|qam (cl1 (cq le_m19 ok [3,4,5] rfl) (cq le_m19 ok [3,4,5] rfl)) fun hT=>qau [11] (by kernel_rfl) rfl (qax ?_)
      ·refine wo rfl<|qai E ok 0 rfl rfl rfl qb4 rfl rfl ⟨(qa0 h2),(ORow.one h125),trivial⟩ rfl rfl fun w ok=>wn<|qam (cl1 (cq le_m19 ok [3,4,5] rfl) (cq le_m19 ok [3,4,5] rfl)) fun hT=>qbd (by kernel_rfl) ?_
       exact ⟨rfl,⟨b126,c1,c123,M124,(ok.pk 6 [0,2,3,4,5] rfl (by decide)),E.keep [1,3,12],h2,h125⟩⟩
    refine wo rfl<|qaC E ok qa4 rfl rfl fun b127 a w E ok=>wn<|qam (cl1 (cq le_m19 ok [3,4,5] rfl) (cq le_m19 ok [3,4,5] rfl)) fun hT=>qau [8] (by kernel_rfl) rfl (qax ?_)
    ·refine wo rfl<|qa3 (R:=qaL) E ok 2 qaR qaQ Tryz.underlying22 rfl h122 (qaJ.ofRow h119 1 rfl ok) e88 ⟨_,qaD,rfl⟩ rfl rfl rfl rfl fun c128 M129 a w E ok h130=>wn<|qam (cl1 (cq le_m19 ok [3,4,5] rfl) (cq le_m19 ok [3,4,5] rfl)) fun hT=>kt 9 E rfl hT (qaK (ps:=[(0,.tmp 83),(1,.tmp 90)]) (qs:=[(0,[c1]),(1,[c128])]) (cs:=[c1,c128]) qa4 qbm rfl ⟨rfl,(qbi h2),rfl,⟨rfl,(ORow.cells h130),rfl,trivial⟩⟩ rfl) fun a E=>qau [11] (by kernel_rfl) rfl (qax ?_)
     ·refine wo rfl<|qai E ok 0 rfl rfl rfl qb4 rfl rfl ⟨(qa0 h2),(ORow.one h130),trivial⟩ rfl rfl fun w ok=>wn<|qam (cl1 (cq le_m19 ok [3,4,5] rfl) (cq le_m19 ok [3,4,5] rfl)) fun hT=>qbd (by kernel_rfl) ?_
      exact ⟨rfl,⟨b127,c1,c128,M129,(ok.pk 6 [0,2,3,4,5] rfl (by decide)),E.keep [1,3,12],h2,h130⟩⟩
   refine wo rfl<|qaC E ok qa4 rfl rfl fun b138 a w E ok=>wn<|qam (cl1 (cq le_m19 ok [2,3,4] rfl) (cq le_m19 ok [2,3,4] rfl)) fun hT=>qau [5,7] (by kernel_rfl) rfl (qbp ?_ (qbp ?_ (qcT)))
   ·refine wo rfl<|qa3 (R:=qaL) E ok 1 qaR qaQ Tryz.underlying22 rfl h95 (qaJ.ofL h4 ok) e80 ⟨_,qaD,rfl⟩ rfl rfl rfl rfl fun c139 M140 a w E ok h141=>wn<|qam (cl1 (cq le_m19 ok [2,3,4] rfl) (cq le_m19 ok [2,3,4] rfl)) fun hT=>qau [7] (by kernel_rfl) rfl (qax ?_)
    ·refine wo rfl<|qaT (R:=qaL) (xo:=[.tmp 88]) (xs:=([more_2]:List (Call))) E ok qaQ qaD rfl ⟨⟨_,rfl,rfl,⟨rfl,l5,r6,r7⟩⟩,trivial⟩ rfl rfl rfl rfl fun c142 M143 a w E ok h144=>wn<|qam (cl1 (cq le_m19 ok [3,4,5] rfl) (cq le_m19 ok [3,4,5] rfl)) fun hT=>qau [8] (by kernel_rfl) rfl (qax ?_)
     ·refine wo rfl<|qa3 (R:=qaL) E ok 2 qaR qaQ Tryz.underlying22 rfl h141 (qaJ.ofRow h144 0 rfl ok) e88 ⟨_,qaD,rfl⟩ rfl rfl rfl rfl fun c145 M146 a w E ok h147=>wn<|qam (cl1 (cq le_m19 ok [3,4,5] rfl) (cq le_m19 ok [3,4,5] rfl)) fun hT=>kt 9 E rfl hT (qaK (ps:=[(0,.tmp 83),(1,.tmp 90)]) (qs:=[(0,[c1]),(1,[c145])]) (cs:=[c1,c145]) qa4 qbm rfl ⟨rfl,(qbi h2),rfl,⟨rfl,(ORow.cells h147),rfl,trivial⟩⟩ rfl) fun a E=>qau [11] (by kernel_rfl) rfl (qax ?_)
      ·refine wo rfl<|qai E ok 1 rfl rfl rfl qb4 rfl rfl ⟨(qa0 h2),(ORow.one h147),trivial⟩ rfl rfl fun w ok=>wn<|qam (cl1 (cq le_m19 ok [3,4,5] rfl) (cq le_m19 ok [3,4,5] rfl)) fun hT=>qbd (by kernel_rfl) ?_
       exact ⟨rfl,⟨b138,c1,c145,M146,(ok.pk 6 [1,2,3,4,5] rfl (by decide)),E.keep [1,3,12],h2,h147⟩⟩
   refine wo rfl<|qaT (R:=qaL) (xo:=[.tmp 88]) (xs:=([more_2]:List (Call))) E ok qaQ qaD rfl ⟨⟨_,rfl,rfl,⟨rfl,l5,r6,r7⟩⟩,trivial⟩ rfl rfl rfl rfl fun c148 M149 a w E ok h150=>wn<|qam (cl1 (cq le_m19 ok [3,4,5] rfl) (cq le_m19 ok [3,4,5] rfl)) fun hT=>qau [5] (by kernel_rfl) rfl (qax ?_)
   ·refine wo rfl<|qa3 (R:=qaL) E ok 2 qaR qaQ Tryz.underlying22 rfl h95 (qaJ.ofL h4 ok) e80 ⟨_,qaD,rfl⟩ rfl rfl rfl rfl fun c151 M152 a w E ok h153=>wn<|qam (cl1 (cq le_m19 ok [3,4,5] rfl) (cq le_m19 ok [3,4,5] rfl)) fun hT=>qau [8] (by kernel_rfl) rfl (qax ?_)
    ·refine wo rfl<|qa3 (R:=qaL) E ok 2 qaR qaQ Tryz.underlying22 rfl h153 (qaJ.ofRow h150 0 rfl ok) e88 ⟨_,qaD,rfl⟩ rfl rfl rfl rfl fun c154 M155 a w E ok h156=>wn<|qam (cl1 (cq le_m19 ok [3,4,5] rfl) (cq le_m19 ok [3,4,5] rfl)) fun hT=>kt 9 E rfl hT (qaK (ps:=[(0,.tmp 83),(1,.tmp 90)]) (qs:=[(0,[c1]),(1,[c154])]) (cs:=[c1,c154]) qa4 qbm rfl ⟨rfl,(qbi h2),rfl,⟨rfl,(ORow.cells h156),rfl,trivial⟩⟩ rfl) fun a E=>qau [11] (by kernel_rfl) rfl (qax ?_)
     ·refine wo rfl<|qai E ok 1 rfl rfl rfl qb4 rfl rfl ⟨(qa0 h2),(ORow.one h156),trivial⟩ rfl rfl fun w ok=>wn<|qam (cl1 (cq le_m19 ok [3,4,5] rfl) (cq le_m19 ok [3,4,5] rfl)) fun hT=>qbd (by kernel_rfl) ?_
      exact ⟨rfl,⟨b138,c1,c154,M155,(ok.pk 6 [1,2,3,4,5] rfl (by decide)),E.keep [1,3,12],h2,h156⟩⟩
 ·as_aux_lemma =>
   refine wo rfl<|qaT (R:=qaL) (xo:=[.tmp 88]) (xs:=([more_2]:List (Call))) E ok qaQ qaD rfl ⟨⟨_,rfl,rfl,⟨rfl,l5,r6,r7⟩⟩,trivial⟩ rfl rfl rfl rfl fun c157 M158 a w E ok h159=>wn<|qam (cl1 (cq le_m19 ok [1,2,3] rfl) (cq le_m19 ok [1,2,3] rfl)) fun hT=>qau [2,10] (by kernel_rfl) rfl (qbp ?_ (qbp ?_ (qcT)))
   rotate_left
   ·refine wo rfl<|qaC E ok qa4 rfl rfl fun b181 a w E ok=>wn<|qam (cl1 (cq le_m19 ok [2,3,4] rfl) (cq le_m19 ok [2,3,4] rfl)) fun hT=>qau [2] (by kernel_rfl) rfl (qax ?_)
    ·refine wo rfl<|qaT (R:=qaL) (xo:=[]) (xs:=([]:List (Call))) E ok qaQ qaD rfl trivial rfl rfl rfl rfl fun c182 M183 a w E ok h184=>wn<|qam (cl1 (cq le_m19 ok [3,4,5] rfl) (cq le_m19 ok [3,4,5] rfl)) fun hT=>qau [5] (by kernel_rfl) rfl (qax ?_)
     ·refine wo rfl<|qa3 (R:=qaL) E ok 0 qaR qaQ Tryz.underlying22 rfl h184 (qaJ.ofL h4 ok) e80 ⟨_,qaD,rfl⟩ rfl rfl rfl rfl fun c185 M186 a w E ok h187=>wn<|qam (cl1 (cq le_m19 ok [3,4,5] rfl) (cq le_m19 ok [3,4,5] rfl)) fun hT=>qau [8] (by kernel_rfl) rfl (qax ?_)
      ·refine wo rfl<|qa3 (R:=qaL) E ok 0 qaR qaQ Tryz.underlying22 rfl h187 (qaJ.ofRow h159 2 rfl ok) e88 ⟨_,qaD,rfl⟩ rfl rfl rfl rfl fun c188 M189 a w E ok h190=>wn<|qam (cl1 (cq le_m19 ok [3,4,5] rfl) (cq le_m19 ok [3,4,5] rfl)) fun hT=>kt 9 E rfl hT (qaK (ps:=[(0,.tmp 83),(1,.tmp 90)]) (qs:=[(0,[c1]),(1,[c188])]) (cs:=[c1,c188]) qa4 qbm rfl ⟨rfl,(qbi h2),rfl,⟨rfl,(ORow.cells h190),rfl,trivial⟩⟩ rfl) fun a E=>qau [11] (by kernel_rfl) rfl (qax ?_)
       ·refine wo rfl<|qai E ok 1 rfl rfl rfl qb4 rfl rfl ⟨(qa0 h2),(ORow.one h190),trivial⟩ rfl rfl fun w ok=>wn<|qam (cl1 (cq le_m19 ok [3,4,5] rfl) (cq le_m19 ok [3,4,5] rfl)) fun hT=>qbd (by kernel_rfl) ?_
        exact ⟨rfl,⟨b181,c1,c188,M189,(ok.pk 6 [1,0,3,4,5] rfl (by decide)),E.keep [1,3,12],h2,h190⟩⟩
   refine wo rfl<|qaT (R:=qaL) (xo:=[]) (xs:=([]:List (Call))) E ok qaQ qaD rfl trivial rfl rfl rfl rfl fun c160 M161 a w E ok h162=>wn<|qam (cl1 (cq le_m19 ok [2,3,4] rfl) (cq le_m19 ok [2,3,4] rfl)) fun hT=>qau [5,10] (by kernel_rfl) rfl (qbp ?_ (qbp ?_ (qcT)))
   rotate_left
   ·refine wo rfl<|qaC E ok qa4 rfl rfl fun b174 a w E ok=>wn<|qam (cl1 (cq le_m19 ok [3,4,5] rfl) (cq le_m19 ok [3,4,5] rfl)) fun hT=>qau [5] (by kernel_rfl) rfl (qax ?_)
    ·refine wo rfl<|qa3 (R:=qaL) E ok 1 qaR qaQ Tryz.underlying22 rfl h162 (qaJ.ofL h4 ok) e80 ⟨_,qaD,rfl⟩ rfl rfl rfl rfl fun c175 M176 a w E ok h177=>wn<|qam (cl1 (cq le_m19 ok [3,4,5] rfl) (cq le_m19 ok [3,4,5] rfl)) fun hT=>qau [8] (by kernel_rfl) rfl (qax ?_)
     ·refine wo rfl<|qa3 (R:=qaL) E ok 1 qaR qaQ Tryz.underlying22 rfl h177 (qaJ.ofRow h159 2 rfl ok) e88 ⟨_,qaD,rfl⟩ rfl rfl rfl rfl fun c178 M179 a w E ok h180=>wn<|qam (cl1 (cq le_m19 ok [3,4,5] rfl) (cq le_m19 ok [3,4,5] rfl)) fun hT=>kt 9 E rfl hT (qaK (ps:=[(0,.tmp 83),(1,.tmp 90)]) (qs:=[(0,[c1]),(1,[c178])]) (cs:=[c1,c178]) qa4 qbm rfl ⟨rfl,(qbi h2),rfl,⟨rfl,(ORow.cells h180),rfl,trivial⟩⟩ rfl) fun a E=>qau [11] (by kernel_rfl) rfl (qax ?_)
      ·refine wo rfl<|qai E ok 0 rfl rfl rfl qb4 rfl rfl ⟨(qa0 h2),(ORow.one h180),trivial⟩ rfl rfl fun w ok=>wn<|qam (cl1 (cq le_m19 ok [3,4,5] rfl) (cq le_m19 ok [3,4,5] rfl)) fun hT=>qbd (by kernel_rfl) ?_
       exact ⟨rfl,⟨b174,c1,c178,M179,(ok.pk 6 [0,1,3,4,5] rfl (by decide)),E.keep [1,3,12],h2,h180⟩⟩
   refine wo rfl<|qa3 (R:=qaL) E ok 0 qaR qaQ Tryz.underlying22 rfl h162 (qaJ.ofL h4 ok) e80 ⟨_,qaD,rfl⟩ rfl rfl rfl rfl fun c163 M164 a w E ok h165=>wn<|qam (cl1 (cq le_m19 ok [2,3,4] rfl) (cq le_m19 ok [2,3,4] rfl)) fun hT=>qau [8,10] (by kernel_rfl) rfl (qbp ?_ (qbp ?_ (qcT)))
   ·refine wo rfl<|qa3 (R:=qaL) E ok 0 qaR qaQ Tryz.underlying22 rfl h165 (qaJ.ofRow h159 1 rfl ok) e88 ⟨_,qaD,rfl⟩ rfl rfl rfl rfl fun c166 M167 a w E ok h168=>wn<|qam (cl1 (cq le_m19 ok [2,3,4] rfl) (cq le_m19 ok [2,3,4] rfl)) fun hT=>kt 9 E rfl hT (qaK (ps:=[(0,.tmp 83),(1,.tmp 90)]) (qs:=[(0,[c1]),(1,[c166])]) (cs:=[c1,c166]) qa4 qbm rfl ⟨rfl,(qbi h2),rfl,⟨rfl,(ORow.cells h168),rfl,trivial⟩⟩ rfl) fun a E=>qau [10] (by kernel_rfl) rfl (qax ?_)
    ·refine wo rfl<|qaC E ok qa4 rfl rfl fun b169 a w E ok=>wn<|qam (cl1 (cq le_m19 ok [3,4,5] rfl) (cq le_m19 ok [3,4,5] rfl)) fun hT=>qau [11] (by kernel_rfl) rfl (qax ?_)
     ·refine wo rfl<|qai E ok 0 rfl rfl rfl qb4 rfl rfl ⟨(qa0 h2),(ORow.one h168),trivial⟩ rfl rfl fun w ok=>wn<|qam (cl1 (cq le_m19 ok [3,4,5] rfl) (cq le_m19 ok [3,4,5] rfl)) fun hT=>qbd (by kernel_rfl) ?_
      exact ⟨rfl,⟨b169,c1,c166,M167,(ok.pk 6 [0,1,3,4,5] rfl (by decide)),E.keep [1,3,12],h2,h168⟩⟩
   refine wo rfl<|qaC E ok qa4 rfl rfl fun b170 a w E ok=>wn<|qam (cl1 (cq le_m19 ok [3,4,5] rfl) (cq le_m19 ok [3,4,5] rfl)) fun hT=>qau [8] (by kernel_rfl) rfl (qax ?_)
   ·refine wo rfl<|qa3 (R:=qaL) E ok 1 qaR qaQ Tryz.underlying22 rfl h165 (qaJ.ofRow h159 2 rfl ok) e88 ⟨_,qaD,rfl⟩ rfl rfl rfl rfl fun c171 M172 a w E ok h173=>wn<|qam (cl1 (cq le_m19 ok [3,4,5] rfl) (cq le_m19 ok [3,4,5] rfl)) fun hT=>kt 9 E rfl hT (qaK (ps:=[(0,.tmp 83),(1,.tmp 90)]) (qs:=[(0,[c1]),(1,[c171])]) (cs:=[c1,c171]) qa4 qbm rfl ⟨rfl,(qbi h2),rfl,⟨rfl,(ORow.cells h173),rfl,trivial⟩⟩ rfl) fun a E=>qau [11] (by kernel_rfl) rfl (qax ?_)
    ·refine wo rfl<|qai E ok 0 rfl rfl rfl qb4 rfl rfl ⟨(qa0 h2),(ORow.one h173),trivial⟩ rfl rfl fun w ok=>wn<|qam (cl1 (cq le_m19 ok [3,4,5] rfl) (cq le_m19 ok [3,4,5] rfl)) fun hT=>qbd (by kernel_rfl) ?_
     exact ⟨rfl,⟨b170,c1,c171,M172,(ok.pk 6 [0,1,3,4,5] rfl (by decide)),E.keep [1,3,12],h2,h173⟩⟩
 refine wo rfl<|qaC E ok qa4 rfl rfl fun b191 a w E ok=>wn<|qam (cl1 (cq le_m19 ok [1,2,3] rfl) (cq le_m19 ok [1,2,3] rfl)) fun hT=>qau [2,7] (by kernel_rfl) rfl (qbp ?_ (qbp ?_ (qcT)))
 rotate_left
 ·refine wo rfl<|qaT (R:=qaL) (xo:=[.tmp 88]) (xs:=([more_2]:List (Call))) E ok qaQ qaD rfl ⟨⟨_,rfl,rfl,⟨rfl,l5,r6,r7⟩⟩,trivial⟩ rfl rfl rfl rfl fun c213 M214 a w E ok h215=>wn<|qam (cl1 (cq le_m19 ok [2,3,4] rfl) (cq le_m19 ok [2,3,4] rfl)) fun hT=>qau [2] (by kernel_rfl) rfl (qax ?_)
  ·refine wo rfl<|qaT (R:=qaL) (xo:=[]) (xs:=([]:List (Call))) E ok qaQ qaD rfl trivial rfl rfl rfl rfl fun c216 M217 a w E ok h218=>wn<|qam (cl1 (cq le_m19 ok [3,4,5] rfl) (cq le_m19 ok [3,4,5] rfl)) fun hT=>qau [5] (by kernel_rfl) rfl (qax ?_)
   ·refine wo rfl<|qa3 (R:=qaL) E ok 0 qaR qaQ Tryz.underlying22 rfl h218 (qaJ.ofL h4 ok) e80 ⟨_,qaD,rfl⟩ rfl rfl rfl rfl fun c219 M220 a w E ok h221=>wn<|qam (cl1 (cq le_m19 ok [3,4,5] rfl) (cq le_m19 ok [3,4,5] rfl)) fun hT=>qau [8] (by kernel_rfl) rfl (qax ?_)
    ·refine wo rfl<|qa3 (R:=qaL) E ok 0 qaR qaQ Tryz.underlying22 rfl h221 (qaJ.ofRow h215 1 rfl ok) e88 ⟨_,qaD,rfl⟩ rfl rfl rfl rfl fun c222 M223 a w E ok h224=>wn<|qam (cl1 (cq le_m19 ok [3,4,5] rfl) (cq le_m19 ok [3,4,5] rfl)) fun hT=>kt 9 E rfl hT (qaK (ps:=[(0,.tmp 83),(1,.tmp 90)]) (qs:=[(0,[c1]),(1,[c222])]) (cs:=[c1,c222]) qa4 qbm rfl ⟨rfl,(qbi h2),rfl,⟨rfl,(ORow.cells h224),rfl,trivial⟩⟩ rfl) fun a E=>qau [11] (by kernel_rfl) rfl (qax ?_)
     ·refine wo rfl<|qai E ok 2 rfl rfl rfl qb4 rfl rfl ⟨(qa0 h2),(ORow.one h224),trivial⟩ rfl rfl fun w ok=>wn<|qam (cl1 (cq le_m19 ok [3,4,5] rfl) (cq le_m19 ok [3,4,5] rfl)) fun hT=>qbd (by kernel_rfl) ?_
      exact ⟨rfl,⟨b191,c1,c222,M223,(ok.pk 6 [2,0,3,4,5] rfl (by decide)),E.keep [1,3,12],h2,h224⟩⟩
 refine wo rfl<|qaT (R:=qaL) (xo:=[]) (xs:=([]:List (Call))) E ok qaQ qaD rfl trivial rfl rfl rfl rfl fun c192 M193 a w E ok h194=>wn<|qam (cl1 (cq le_m19 ok [2,3,4] rfl) (cq le_m19 ok [2,3,4] rfl)) fun hT=>qau [5,7] (by kernel_rfl) rfl (qbp ?_ (qbp ?_ (qcT)))
 ·refine wo rfl<|qa3 (R:=qaL) E ok 0 qaR qaQ Tryz.underlying22 rfl h194 (qaJ.ofL h4 ok) e80 ⟨_,qaD,rfl⟩ rfl rfl rfl rfl fun c195 M196 a w E ok h197=>wn<|qam (cl1 (cq le_m19 ok [2,3,4] rfl) (cq le_m19 ok [2,3,4] rfl)) fun hT=>qau [7] (by kernel_rfl) rfl (qax ?_)
  ·refine wo rfl<|qaT (R:=qaL) (xo:=[.tmp 88]) (xs:=([more_2]:List (Call))) E ok qaQ qaD rfl ⟨⟨_,rfl,rfl,⟨rfl,l5,r6,r7⟩⟩,trivial⟩ rfl rfl rfl rfl fun c198 M199 a w E ok h200=>wn<|qam (cl1 (cq le_m19 ok [3,4,5] rfl) (cq le_m19 ok [3,4,5] rfl)) fun hT=>qau [8] (by kernel_rfl) rfl (qax ?_)
   ·refine wo rfl<|qa3 (R:=qaL) E ok 1 qaR qaQ Tryz.underlying22 rfl h197 (qaJ.ofRow h200 0 rfl ok) e88 ⟨_,qaD,rfl⟩ rfl rfl rfl rfl fun c201 M202 a w E ok h203=>wn<|qam (cl1 (cq le_m19 ok [3,4,5] rfl) (cq le_m19 ok [3,4,5] rfl)) fun hT=>kt 9 E rfl hT (qaK (ps:=[(0,.tmp 83),(1,.tmp 90)]) (qs:=[(0,[c1]),(1,[c201])]) (cs:=[c1,c201]) qa4 qbm rfl ⟨rfl,(qbi h2),rfl,⟨rfl,(ORow.cells h203),rfl,trivial⟩⟩ rfl) fun a E=>qau [11] (by kernel_rfl) rfl (qax ?_)
    ·refine wo rfl<|qai E ok 2 rfl rfl rfl qb4 rfl rfl ⟨(qa0 h2),(ORow.one h203),trivial⟩ rfl rfl fun w ok=>wn<|qam (cl1 (cq le_m19 ok [3,4,5] rfl) (cq le_m19 ok [3,4,5] rfl)) fun hT=>qbd (by kernel_rfl) ?_
     exact ⟨rfl,⟨b191,c1,c201,M202,(ok.pk 6 [2,1,3,4,5] rfl (by decide)),E.keep [1,3,12],h2,h203⟩⟩
 refine wo rfl<|qaT (R:=qaL) (xo:=[.tmp 88]) (xs:=([more_2]:List (Call))) E ok qaQ qaD rfl ⟨⟨_,rfl,rfl,⟨rfl,l5,r6,r7⟩⟩,trivial⟩ rfl rfl rfl rfl fun c204 M205 a w E ok h206=>wn<|qam (cl1 (cq le_m19 ok [3,4,5] rfl) (cq le_m19 ok [3,4,5] rfl)) fun hT=>qau [5] (by kernel_rfl) rfl (qax ?_)
 ·refine wo rfl<|qa3 (R:=qaL) E ok 1 qaR qaQ Tryz.underlying22 rfl h194 (qaJ.ofL h4 ok) e80 ⟨_,qaD,rfl⟩ rfl rfl rfl rfl fun c207 M208 a w E ok h209=>wn<|qam (cl1 (cq le_m19 ok [3,4,5] rfl) (cq le_m19 ok [3,4,5] rfl)) fun hT=>qau [8] (by kernel_rfl) rfl (qax ?_)
  ·refine wo rfl<|qa3 (R:=qaL) E ok 1 qaR qaQ Tryz.underlying22 rfl h209 (qaJ.ofRow h206 0 rfl ok) e88 ⟨_,qaD,rfl⟩ rfl rfl rfl rfl fun c210 M211 a w E ok h212=>wn<|qam (cl1 (cq le_m19 ok [3,4,5] rfl) (cq le_m19 ok [3,4,5] rfl)) fun hT=>kt 9 E rfl hT (qaK (ps:=[(0,.tmp 83),(1,.tmp 90)]) (qs:=[(0,[c1]),(1,[c210])]) (cs:=[c1,c210]) qa4 qbm rfl ⟨rfl,(qbi h2),rfl,⟨rfl,(ORow.cells h212),rfl,trivial⟩⟩ rfl) fun a E=>qau [11] (by kernel_rfl) rfl (qax ?_)
   ·refine wo rfl<|qai E ok 2 rfl rfl rfl qb4 rfl rfl ⟨(qa0 h2),(ORow.one h212),trivial⟩ rfl rfl fun w ok=>wn<|qam (cl1 (cq le_m19 ok [3,4,5] rfl) (cq le_m19 ok [3,4,5] rfl)) fun hT=>qbd (by kernel_rfl) ?_
    exact ⟨rfl,⟨b191,c1,c210,M211,(ok.pk 6 [2,1,3,4,5] rfl (by decide)),E.keep [1,3,12],h2,h212⟩⟩
end Go.Proofs.YtllfckekodcdaaaGreatDoor
namespace Go.X
variable {H:Type} {enc:TypeId × Value → H}
end Go.X
namespace Go.X
open Go.ChangeShapes Go.RowKit
def OpnS {α:Type} (P:Program) (t:TypeId) (R:Rp α) (Q:α → Prop):Prop :=
 ∀ {H:Type} {enc:TypeId × Value → H} {W:World} {base:Nat} {spare:Nat → Bool} {held:Bool} {fuel:Nat} {cs:List Value} {x:DataW H × List MemPlace},
  DataW.trod enc P W base spare held fuel t cs = some x → (∀ n ∈ x.1.weights P t,n ≤ reachBytes) → ∃ a:α,R (hm W) cs a ∧ Q a
section
variable {P:Program} {t:TypeId}
theorem qkL {k:IntKind} (ht:P.underlying t = some (.int k)):OpnS P t (pI k) (InR k):=fun h _=>by
 obtain ⟨a,ha⟩:=qt9 ht h
 exact ⟨a,ha,ha.2⟩
theorem qs2 (ht:P.underlying t = some .bool):OpnS P t pB (fun _=>True):=fun h _=>by
 obtain ⟨a,ha⟩:=qtr ht h
 exact ⟨a,ha,trivial⟩
theorem qjL (ht:P.underlying t = some .string):OpnS P t pS (fun s=>s.length ≤ reachBytes):=fun h hz=>by
 obtain ⟨s,rfl,rfl,hs⟩:=DataW.trod_string ht h
 refine ⟨s.data.toList,⟨rfl,hs⟩,hz _ ?_⟩
 simp [DataW.weights]
theorem qi5 {H:Type} {e:TypeId}:∀ {l:List (DataW H)} {d:DataW H},d ∈ l → ∀ n ∈ d.weights P e,n ∈ DataW.weightsAll P e l
 | d0 :: l,d,h,n,hn=>by
  simp only [DataW.weightsAll,List.mem_append]
  rcases List.mem_cons.1 h with rfl | h
  ·exact .inl hn
  ·exact .inr (qi5 h n hn)
 | [],_,h,_,_=>by cases h
theorem qsp {α:Type} {e:TypeId} {n:Nat} {R:Rp α} {Q:α → Prop} (ht:P.underlying t = some (.slice e)) (hc:P.cellsOf e = n) (hn:0 < n) (hb:0 < P.bytesOf e) (he:OpnS P e R Q):OpnS P t (pL n R) (fun xs=>xs.length ≤ reachBytes ∧ ∀ y ∈ xs,Q y):=fun {H enc W base spare held fuel cs x} h hz=>by
 rcases Go.Deep.open_slice ht h with ⟨rfl,_⟩ | ⟨a,len,cap,m,fu,D,Pl,rfl,_,hl,hm',hm2,rfl,hel⟩
 ·exact ⟨[],⟨none,0,rfl,Nat.le_refl _,Nat.zero_le _,Nat.zero_le _,fun h=>absurd rfl h⟩,Nat.zero_le _,fun _ h=>by cases h⟩
 ·rw [hc] at hel
  have hlm:len ≤ m:=by rw [hm2]; split <;> omega
  have hlen:len ≤ reachBytes:=by
   have h1:=hz (((List.range len).map D).length + ((List.range (m - len)).map fun j=>D (len + j)).length |> (· * P.bytesOf e)) (by simp [DataW.weights,ht])
   simp only [List.length_map,List.length_range] at h1
   have h2:len * 1 ≤ (len + (m - len)) * P.bytesOf e:=Nat.mul_le_mul (by omega) hb
   omega
  have key:∀ i,i < len → ∃ y:α,(∃ es:List Value,es.length = n ∧ (∀ j v,es[j]? = some v → W.cell? (a.add (i * n + j)) = some v) ∧ R (hm W) es y) ∧ Q y:=by
   intro i hi
   obtain ⟨cs',h1,h2⟩:=hel i (by omega)
   obtain ⟨y,hy,hq⟩:=he h2 (fun k hk=>hz k (by
    simp only [DataW.weights,ht,List.mem_cons,List.mem_append]
    exact .inr (.inl (qi5 (List.mem_map.2 ⟨i,List.mem_range.2 hi,rfl⟩) k hk))))
   obtain ⟨_,hlen,hcell⟩:=World.cells?_some h1
   refine ⟨y,⟨cs',hlen,fun j v hj=>?_,hy⟩,hq⟩
   have hjn:j < n:=by rw [← hlen]; exact (List.getElem?_eq_some_iff.1 hj).1
   have:=hcell j hjn
   rw [hj] at this
   rw [qsa]
   exact this
  have pick:∃ f:Fin len → α,∀ i:Fin len,(∃ es:List Value,es.length = n ∧ (∀ j v,es[j]? = some v → W.cell? (a.add (i.1 * n + j)) = some v) ∧ R (hm W) es (f i)) ∧ Q (f i) :=
   ⟨fun i=>(key i.1 i.2).choose,fun i=>(key i.1 i.2).choose_spec⟩
  obtain ⟨f,hf⟩:=pick
  refine ⟨List.ofFn f,⟨some a,cap,by rw [List.length_ofFn],by rw [List.length_ofFn]; exact hl,hm',?_,fun h0=>?_⟩,by rw [List.length_ofFn]; exact hlen,fun y hy=>?_⟩
  ·rw [List.length_ofFn]; unfold maxLen at hm'; unfold LIMS; omega
  ·rw [List.length_ofFn] at h0
   obtain ⟨b,off,spot⟩:=a
   have hs:spot = none:=by
    obtain ⟨⟨es,e1,e2,_⟩,_⟩:=hf ⟨0,by omega⟩
    have hv:es[0]? = some (es[0]'(by omega)):=by simp
    have:=e2 0 _ hv
    simpa [Addr.add] using World.cell?_spot this
   subst hs
   refine ⟨b,off,rfl,fun i y hy=>?_⟩
   obtain ⟨hi,rfl⟩:=List.getElem?_eq_some_iff.1 hy
   have hi':i < len:=by simpa using hi
   obtain ⟨⟨es,e1,e2,e3⟩,_⟩:=hf ⟨i,hi'⟩
   refine ⟨es,e1,fun j v hj=>?_,by simpa using e3⟩
   have:=e2 j v hj
   refine qsk ?_
   rw [qqQ] at this
   rw [Nat.add_assoc]
   exact this
  ·obtain ⟨i,rfl⟩:=List.mem_ofFn.1 hy
   exact (hf i).2
theorem qgY {fs:Array Field} (ht:P.underlying t = some (.struct fs)) {H:Type} {enc:TypeId × Value → H} {W:World} {base:Nat} {spare:Nat → Bool} {held:Bool} {fuel:Nat} {cs:List Value} {x:DataW H × List MemPlace}
  (h:DataW.trod enc P W base spare held fuel t cs = some x) (hz:∀ n ∈ x.1.weights P t,n ≤ reachBytes) :
  cs.length = P.cellsOf t ∧ ∀ {α:Type} {R:Rp α} {Q:α → Prop} (i:Nat) (f:Field) (n:Nat),fs[i]? = some f → P.cellsOf f.type = n → OpnS P f.type R Q → ∃ a,R (hm W) ((cs.drop f.offset).take n) a ∧ Q a:=by
 obtain ⟨xs,n,_,hx,hl,hlen,hf⟩:=DataW.trod_struct ht h
 refine ⟨hl,fun {α R Q} i f n hi hn ho=>?_⟩
 have hi':i < xs.length:=by rw [hlen]; exact (Array.getElem?_eq_some_iff.1 hi).1
 have:=hf i f hi
 rw [List.getElem?_eq_getElem hi',hn] at this
 refine ho this fun k hk=>hz k ?_
 subst hx
 simp only [DataW.weights,ht]
 refine DataW.weights_mem_each (j:=i) (t:=f.type) (d:=xs[i].1) ?_ ?_ k hk
 ·simp [hi]
 ·simp [hi']
end
end Go.X
namespace Go.X
open Go.ChangeShapes Go.RowKit
section
variable {H:Type} {enc:TypeId × Value → H}
theorem qkg {a:Assume} {C:Checked} {os:Os} {f:FuncId} {fn:Func} {s:ChangeSpec} {conds:List PathCond} {apart fresh handsOn again:Bool} {X:World → Array Value → Prop}
  (hX:∀ (w w':World) (args:Array Value),w.heap = w'.heap → X w args → X w' args)
  (own:ownKnob C.prog.godebug = none) (started:os.Started) (noInit:C.prog.inits.idxOf? f = none) (hfn:C.prog.funcs[f]? = some fn)
  (witness:∃ (w:World) (tape:Tape) (i:Input),w.os = os ∧ (w.forCall tape i).Shaped C.prog ∧ i.vars = [] ∧ Input.okWide C.prog (w.forCall tape i) .any w.heap.size f i ∧
   ((s.pre enc C.prog fn conds apart (w.forCall tape i).memory i.args ∧ X (w.forCall tape i).memory i.args) ∧ sizedMet enc C.prog fn (OpenSpec.ofChange s) apart (w.forCall tape i).memory i.args) ∧ a.holds C.prog (lone (Frame.enter C.prog f i.args .normal) [] (w.forCall tape i)))
  (contract:∀ (W:World) (base:Nat) (args:Array Value) (ds gs:List (DataW H)) (before:List MemPlace),
   (∀ (j:Nat) t v,fn.params[j]? = some t → args[j]? = some v → Value.okWide C.prog W .any base t v) →
   DataW.Whole enc C.prog fn.params.toList s.vars apart W args.toList ds gs before → W.ShapedOpen C.prog →
   X W args → (DataW.weightsEach C.prog (fn.params.toList ++ s.plain.varTypes C.prog) (ds ++ gs)).all (· ≤ reachBytes) = true →
   Calls C.prog f args W fun e W'=>∃ v,e = .returned v ∧ s.post enc C.prog fn apart fresh handsOn again W args v W') :
  ReturnsInHanded a C os f .any (fun w args=>(s.pre enc C.prog fn conds apart w args ∧ X w args) ∧ sizedMet enc C.prog fn (OpenSpec.ofChange s) apart w args) (s.post enc C.prog fn apart fresh handsOn again):=by
 refine returnsInHanded_of_calls own started noInit witness ?_
 intro w tape i _ hsh _ hok hpre _
 obtain ⟨_,_,_,fn',hfn',_,_,_,_,hval⟩:=hok
 have e:fn' = fn:=Option.some.inj (hfn'.symm.trans hfn)
 subst e
 obtain ⟨⟨⟨ds,gs,before,hw,_⟩,hx⟩,hz⟩:=hpre
 have hw':=DataW.Whole.of_heap (w':=w.forCall tape i) (by rfl) hw
 refine (contract (w.forCall tape i) w.heap.size i.args ds gs before hval hw' hsh (hX _ _ _ (by rfl) hx) (hz.weights hw)).mono fun e W' ⟨v,he,hp⟩=>?_
 subst he
 exact ChangeSpec.post_blind hp
end
end Go.X
namespace Go.X
open Go.ChangeShapes Go.RowKit
end Go.X
namespace Go.X
open Go.ChangeShapes Go.RowKit
section
variable {P:Program} {t:TypeId}
theorem qhA {α:Type} {e:TypeId} {n:Nat} {R:Rp α} {Q:α → Prop} (B:Nat) (hB:B ≤ P.bytesOf e) (hB0:0 < B) (ht:P.underlying t = some (.slice e)) (hc:P.cellsOf e = n) (hn:0 < n) (he:OpnS P e R Q):OpnS P t (pL n R) (fun xs=>xs.length * B ≤ reachBytes ∧ ∀ y ∈ xs,Q y):=fun {H enc W base spare held fuel cs x} h hz=>by
 obtain ⟨xs,hp,_,hq⟩:=qsp ht hc hn (Nat.lt_of_lt_of_le hB0 hB) he h hz
 refine ⟨xs,hp,?_,hq⟩
 obtain ⟨a0,cap0,hcs,_⟩:=hp
 rcases Go.Deep.open_slice ht h with ⟨rfl,_⟩ | ⟨a,len,cap,m,fu,D,Pl,rfl,_,hl,hm',hm2,rfl,hel⟩
 ·have:=(List.cons.inj hcs).1
  simp only [Value.slice.injEq] at this
  rw [← this.2.1,Nat.zero_mul]; exact Nat.zero_le _
 ·have h0:=(List.cons.inj hcs).1
  simp only [Value.slice.injEq] at h0
  rw [← h0.2.1]
  have hlm:len ≤ m:=by rw [hm2]; split <;> omega
  have h1:=hz (((List.range len).map D).length + ((List.range (m - len)).map fun j=>D (len + j)).length |> (· * P.bytesOf e)) (by simp [DataW.weights,ht])
  simp only [List.length_map,List.length_range] at h1
  have h2:len * B ≤ (len + (m - len)) * P.bytesOf e:=Nat.mul_le_mul (by omega) hB
  omega
end
end Go.X
namespace Go.Proofs.YtllfckekodcdaaaGreatDoor
open Go.ChangeShapes Go.WideShapes Go.ChangeAt Go.RowKit Go.X
theorem own:ownKnob Tryz.prog.godebug = none:=by kernel_rfl
theorem qmo:laidOutB Tryz.prog = true:=by kernel_rfl
theorem qpX {H:Type} {enc:TypeId × Value → H} {W:World} {base:Nat} {sp:Nat → Bool} {held:Bool} (b:Bool):DataW.Trod enc Tryz.prog W base sp held 4 (.bool b) (.lit (.bool b)) [] :=
 ⟨1,by simp [DataW.trod,Value.cells,Tryz.underlying4]⟩
theorem qr3 {W:World} (h:W.ShapedOpen Tryz.prog):Glob W:=cell_of_shapedOpen_int (g:=0) (t:=3) (zero:=#[.int .i64 0]) h (of_decide_eq_true (by kernel_rfl)) (by kernel_rfl) (by kernel_rfl) (by kernel_rfl) (by kernel_rfl) Tryz.underlying3
theorem ce3:Tryz.prog.cellsOf 3 = 1:=by kernel_rfl
theorem ce4:Tryz.prog.cellsOf 4 = 1:=by kernel_rfl
theorem ce5:Tryz.prog.cellsOf 5 = 1:=by kernel_rfl
theorem ce9:Tryz.prog.cellsOf 9 = 1:=by kernel_rfl
theorem ce22:Tryz.prog.cellsOf 22 = 1:=by kernel_rfl
theorem ce39:Tryz.prog.cellsOf 39 = 1:=by kernel_rfl
theorem ce41:Tryz.prog.cellsOf 41 = 2:=by kernel_rfl
theorem ce62:Tryz.prog.cellsOf 62 = 2:=by kernel_rfl
theorem ce66:Tryz.prog.cellsOf 66 = 3:=by kernel_rfl
theorem qtW:Tryz.prog.cellsOf 106 = 1:=by kernel_rfl
theorem qrQ:Tryz.prog.cellsOf 108 = 2:=by kernel_rfl
theorem qt8:Tryz.prog.cellsOf 112 = 1:=by kernel_rfl
theorem qrB:Tryz.prog.cellsOf 114 = 3:=by kernel_rfl
theorem qtO:Tryz.prog.cellsOf 136 = 1:=by kernel_rfl
theorem qrI:Tryz.prog.cellsOf 138 = 5:=by kernel_rfl
theorem qrF:Tryz.prog.cellsOf 157 = 2:=by kernel_rfl
theorem qtX:OpnS Tryz.prog 157 qbK (fun x=>(InR .u8 x.From ∧ InR .u8 x.To)):=fun h hz=>by
 obtain ⟨hl,hf⟩:=qgY Tryz.underlying157 h hz
 obtain ⟨c0,c1,rfl⟩:=len2 (hl.trans qrF)
 obtain ⟨a0,h0,q0⟩:=hf 0 _ 1 rfl ce5 (qkL Tryz.underlying5)
 obtain ⟨a1,h1,q1⟩:=hf 1 _ 1 rfl ce5 (qkL Tryz.underlying5)
 have h0:(pI .u8) _ [c0] a0:=h0
 obtain ⟨rfl,g0⟩:=qh0 h0
 have h1:(pI .u8) _ [c1] a1:=h1
 obtain ⟨rfl,g1⟩:=qh0 h1
 exact ⟨⟨a0,a1⟩,⟨rfl,g0,g1⟩,⟨q0,q1⟩⟩
theorem quy:OpnS Tryz.prog 138 qbO (fun x=>(x.Text.length ≤ reachBytes ∧ (x.Ranges.length * 2 ≤ reachBytes ∧ ∀ y23 ∈ x.Ranges,(InR .u8 y23.From ∧ InR .u8 y23.To)) ∧ InR .i64 x.Least ∧ InR .i64 x.Most)):=fun h hz=>by
 obtain ⟨hl,hf⟩:=qgY Tryz.underlying138 h hz
 obtain ⟨c0,c1,c2,c3,c4,rfl⟩:=len5 (hl.trans qrI)
 obtain ⟨a0,h0,q0⟩:=hf 0 _ 1 rfl ce9 (qjL Tryz.underlying9)
 obtain ⟨a1,h1,q1⟩:=hf 1 _ 1 rfl qtO (qhA 2 (of_decide_eq_true (by kernel_rfl)) (Nat.succ_pos _) Tryz.underlying136 qrF (Nat.succ_pos _) qtX)
 obtain ⟨a2,h2,q2⟩:=hf 2 _ 1 rfl ce4 (qs2 Tryz.underlying4)
 obtain ⟨a3,h3,q3⟩:=hf 3 _ 1 rfl ce3 (qkL Tryz.underlying3)
 obtain ⟨a4,h4,q4⟩:=hf 4 _ 1 rfl ce3 (qkL Tryz.underlying3)
 have h0:pS _ [c0] a0:=h0
 obtain ⟨rfl,g0⟩:=qiz h0
 have h1:(pL 2 qbK) _ [c1] a1:=h1
 have h2:pB _ [c2] a2:=h2
 obtain rfl:=qkq h2
 have h3:(pI .i64) _ [c3] a3:=h3
 obtain ⟨rfl,g3⟩:=qh0 h3
 have h4:(pI .i64) _ [c4] a4:=h4
 obtain ⟨rfl,g4⟩:=qh0 h4
 exact ⟨⟨a0,a1,a2,a3,a4⟩,⟨c1,rfl,g0,h1,g3,g4⟩,⟨q0,q1,q3,q4⟩⟩
theorem qtG:OpnS Tryz.prog 114 qdv (fun x=>(x.Kind.length ≤ reachBytes ∧ (x.Items.length * 64 ≤ reachBytes ∧ ∀ y21 ∈ x.Items,(y21.Text.length ≤ reachBytes ∧ (y21.Ranges.length * 2 ≤ reachBytes ∧ ∀ y22 ∈ y21.Ranges,(InR .u8 y22.From ∧ InR .u8 y22.To)) ∧ InR .i64 y21.Least ∧ InR .i64 y21.Most)) ∧ x.Next.length ≤ reachBytes)):=fun h hz=>by
 obtain ⟨hl,hf⟩:=qgY Tryz.underlying114 h hz
 obtain ⟨c0,c1,c2,rfl⟩:=len3 (hl.trans qrB)
 obtain ⟨a0,h0,q0⟩:=hf 0 _ 1 rfl ce9 (qjL Tryz.underlying9)
 obtain ⟨a1,h1,q1⟩:=hf 1 _ 1 rfl qt8 (qhA 64 (of_decide_eq_true (by kernel_rfl)) (Nat.succ_pos _) Tryz.underlying112 qrI (Nat.succ_pos _) quy)
 obtain ⟨a2,h2,q2⟩:=hf 2 _ 1 rfl ce9 (qjL Tryz.underlying9)
 have h0:pS _ [c0] a0:=h0
 obtain ⟨rfl,g0⟩:=qiz h0
 have h1:(pL 5 qbO) _ [c1] a1:=h1
 have h2:pS _ [c2] a2:=h2
 obtain ⟨rfl,g2⟩:=qiz h2
 exact ⟨⟨a0,a1,a2⟩,⟨c1,rfl,g0,h1,g2⟩,⟨q0,q1,q2⟩⟩
theorem qt5:OpnS Tryz.prog 108 qbU (fun x=>(x.Name.length ≤ reachBytes ∧ (x.Rules.length * 56 ≤ reachBytes ∧ ∀ y18 ∈ x.Rules,(y18.Kind.length ≤ reachBytes ∧ (y18.Items.length * 64 ≤ reachBytes ∧ ∀ y19 ∈ y18.Items,(y19.Text.length ≤ reachBytes ∧ (y19.Ranges.length * 2 ≤ reachBytes ∧ ∀ y20 ∈ y19.Ranges,(InR .u8 y20.From ∧ InR .u8 y20.To)) ∧ InR .i64 y19.Least ∧ InR .i64 y19.Most)) ∧ y18.Next.length ≤ reachBytes)))):=fun h hz=>by
 obtain ⟨hl,hf⟩:=qgY Tryz.underlying108 h hz
 obtain ⟨c0,c1,rfl⟩:=len2 (hl.trans qrQ)
 obtain ⟨a0,h0,q0⟩:=hf 0 _ 1 rfl ce9 (qjL Tryz.underlying9)
 obtain ⟨a1,h1,q1⟩:=hf 1 _ 1 rfl qtW (qhA 56 (of_decide_eq_true (by kernel_rfl)) (Nat.succ_pos _) Tryz.underlying106 qrB (Nat.succ_pos _) qtG)
 have h0:pS _ [c0] a0:=h0
 obtain ⟨rfl,g0⟩:=qiz h0
 have h1:(pL 3 qdv) _ [c1] a1:=h1
 exact ⟨⟨a0,a1⟩,⟨c1,rfl,g0,h1⟩,⟨q0,q1⟩⟩
theorem o_66:OpnS Tryz.prog 66 qaL (fun x=>(x.Name.length ≤ reachBytes ∧ InR .i64 x.ID ∧ InR .i64 x.Source)):=fun h hz=>by
 obtain ⟨hl,hf⟩:=qgY Tryz.underlying66 h hz
 obtain ⟨c0,c1,c2,rfl⟩:=len3 (hl.trans ce66)
 obtain ⟨a0,h0,q0⟩:=hf 0 _ 1 rfl ce9 (qjL Tryz.underlying9)
 obtain ⟨a1,h1,q1⟩:=hf 1 _ 1 rfl ce3 (qkL Tryz.underlying3)
 obtain ⟨a2,h2,q2⟩:=hf 2 _ 1 rfl ce3 (qkL Tryz.underlying3)
 have h0:pS _ [c0] a0:=h0
 obtain ⟨rfl,g0⟩:=qiz h0
 have h1:(pI .i64) _ [c1] a1:=h1
 obtain ⟨rfl,g1⟩:=qh0 h1
 have h2:(pI .i64) _ [c2] a2:=h2
 obtain ⟨rfl,g2⟩:=qh0 h2
 exact ⟨⟨a0,a1,a2⟩,⟨rfl,g0,g1,g2⟩,⟨q0,q1,q2⟩⟩
theorem o_41:OpnS Tryz.prog 41 qjP (fun x=>((x.Script.length * 40 ≤ reachBytes ∧ ∀ y13 ∈ x.Script,(y13.Name.length ≤ reachBytes ∧ (y13.Rules.length * 56 ≤ reachBytes ∧ ∀ y14 ∈ y13.Rules,(y14.Kind.length ≤ reachBytes ∧ (y14.Items.length * 64 ≤ reachBytes ∧ ∀ y15 ∈ y14.Items,(y15.Text.length ≤ reachBytes ∧ (y15.Ranges.length * 2 ≤ reachBytes ∧ ∀ y16 ∈ y15.Ranges,(InR .u8 y16.From ∧ InR .u8 y16.To)) ∧ InR .i64 y15.Least ∧ InR .i64 y15.Most)) ∧ y14.Next.length ≤ reachBytes)))) ∧ (x.Calls.length * 32 ≤ reachBytes ∧ ∀ y17 ∈ x.Calls,(y17.Name.length ≤ reachBytes ∧ InR .i64 y17.ID ∧ InR .i64 y17.Source)))):=fun h hz=>by
 obtain ⟨hl,hf⟩:=qgY Tryz.underlying41 h hz
 obtain ⟨c0,c1,rfl⟩:=len2 (hl.trans ce41)
 obtain ⟨a0,h0,q0⟩:=hf 0 _ 1 rfl ce39 (qhA 40 (of_decide_eq_true (by kernel_rfl)) (Nat.succ_pos _) Tryz.underlying39 qrQ (Nat.succ_pos _) qt5)
 obtain ⟨a1,h1,q1⟩:=hf 1 _ 1 rfl ce22 (qhA 32 (of_decide_eq_true (by kernel_rfl)) (Nat.succ_pos _) Tryz.underlying22 ce66 (Nat.succ_pos _) o_66)
 have h0:(pL 2 qbU) _ [c0] a0:=h0
 have h1:(pL 3 qaL) _ [c1] a1:=h1
 exact ⟨⟨a0,a1⟩,⟨c0,c1,rfl,h0,h1⟩,⟨q0,q1⟩⟩
theorem o_62:OpnS Tryz.prog 62 qeM (fun x=>(x.Name.length ≤ reachBytes ∧ x.Text.length ≤ reachBytes)):=fun h hz=>by
 obtain ⟨hl,hf⟩:=qgY Tryz.underlying62 h hz
 obtain ⟨c0,c1,rfl⟩:=len2 (hl.trans ce62)
 obtain ⟨a0,h0,q0⟩:=hf 0 _ 1 rfl ce9 (qjL Tryz.underlying9)
 obtain ⟨a1,h1,q1⟩:=hf 1 _ 1 rfl ce9 (qjL Tryz.underlying9)
 have h0:pS _ [c0] a0:=h0
 obtain ⟨rfl,g0⟩:=qiz h0
 have h1:pS _ [c1] a1:=h1
 obtain ⟨rfl,g1⟩:=qiz h1
 exact ⟨⟨a0,a1⟩,⟨rfl,g0,g1⟩,⟨q0,q1⟩⟩
theorem qlz {W:World} (h:laidMetH Tryz.prog Rows.extractOtherRow.laid W):Tab W:=by
 rw [MakeChecks.laidMetH_plain _ _ _ (by kernel_rfl)] at h
 exact Lib.tabIs_of_head (g:=1) (t:=231) (e:=214) (by kernel_rfl) (by kernel_rfl) Tryz.underlying231 (by kernel_rfl) (by kernel_rfl) (by kernel_rfl) (show laidMet Tryz.prog (("internal/strconv.uint64pow10",Lib.tabData .u64 Lib.pow10Tab) :: _) W from laidMet.tail (x:=_) (laidMet.tail (x:=_) h))
set_option maxRecDepth 100000 in
theorem qj9 (hp:∀ x0 x1 x2,((x0.Script.length * 40 ≤ reachBytes ∧ ∀ y6 ∈ x0.Script,(y6.Name.length ≤ reachBytes ∧ (y6.Rules.length * 56 ≤ reachBytes ∧ ∀ y7 ∈ y6.Rules,(y7.Kind.length ≤ reachBytes ∧ (y7.Items.length * 64 ≤ reachBytes ∧ ∀ y8 ∈ y7.Items,(y8.Text.length ≤ reachBytes ∧ (y8.Ranges.length * 2 ≤ reachBytes ∧ ∀ y9 ∈ y8.Ranges,(InR .u8 y9.From ∧ InR .u8 y9.To)) ∧ InR .i64 y8.Least ∧ InR .i64 y8.Most)) ∧ y7.Next.length ≤ reachBytes)))) ∧ (x0.Calls.length * 32 ≤ reachBytes ∧ ∀ y10 ∈ x0.Calls,(y10.Name.length ≤ reachBytes ∧ InR .i64 y10.ID ∧ InR .i64 y10.Source))) → (x1.length * 32 ≤ reachBytes ∧ ∀ y12 ∈ x1,(y12.Name.length ≤ reachBytes ∧ y12.Text.length ≤ reachBytes)) → (x2.Name.length ≤ reachBytes ∧ InR .i64 x2.ID ∧ InR .i64 x2.Source) → ∃ N,qbX N x0 x1 x2 = some true) (os:Os) (started:os.Started) (H:Type) (enc:TypeId × Value → H) :
  ReturnsInHanded {} Tryz.checked os 6 .any (fun w args=>(Rows.extractOtherSpec.pre enc Tryz.prog Tryz.f6 [] false w args ∧ laidMetH Tryz.prog Rows.extractOtherRow.laid w) ∧ sizedMet enc Tryz.prog Tryz.f6 (OpenSpec.ofChange Rows.extractOtherSpec) false w args)
   (Rows.extractOtherSpec.post enc Tryz.prog Tryz.f6 false true false false):=by
 refine qkg (C:=Tryz.checked) (X:=fun w _=>laidMetH Tryz.prog Rows.extractOtherRow.laid w) (fun _ _ _ hh h=>laidMetH.of_heap hh h) own started (by kernel_rfl) Tryz.func6
  (ChangeSpec.witness_shaped (enc:=enc) (C:=Tryz.checked) (os:=os) (X:=fun w _=>laidMetH Tryz.prog Rows.extractOtherRow.laid w) false (World.laidAll Tryz.prog os Rows.extractOtherRow.laid) #[.agg #[.slice none 0 0,.slice none 0 0],.slice none 0 0,.agg #[.string (bs []),.int .i64 0,.int .i64 0]] 8 (World.laidAll_os _ _ _)
   (World.shaped_of_ZipB (by kernel_rfl) (by kernel_rfl)) (by kernel_rfl) (by kernel_rfl) (by kernel_rfl)
   (by rw [MakeChecks.laidMetH_plain _ _ _ (by kernel_rfl)]; exact laidMet_laidAll _ (by kernel_rfl) (by kernel_rfl))) ?_
 intro W base args ds gs before hval0 hW hsh hX hz
 have hval:∀ (j:Nat) t v,Tryz.f6.params[j]? = some t → args[j]? = some v → Value.okWide Tryz.prog W .any base t v:=hval0
 have hW':=hW
 obtain ⟨p,q,hA0,hV,rfl,_,_⟩:=hW
 have hA:DataW.TrodAll enc Tryz.prog W 0 (fun _=>true) true Tryz.f6.params.toList args.toList ds p:=hA0
 rw [Tryz.params6] at hA hval
 obtain ⟨v0,v1,v2,d0,d1,d2,p0,p1,p2,rfl,rfl,rfl,k0,k1,k2⟩:=trodAll_three hA
 obtain ⟨rfl,rfl⟩:=trodVars_none hV
 obtain ⟨fu0,hf0⟩:=id k0
 have hz0:∀ n ∈ d0.weights Tryz.prog 41,n ≤ reachBytes:=fun n hn=>by
  have:=List.all_eq_true.1 hz n (DataW.weights_mem_each (j:=0) (t:=41) (d:=d0) (by rw [Tryz.params6]; rfl) rfl n hn)
  simpa using this
 obtain ⟨s0,rfl,_⟩:=okWide_struct Tryz.underlying41 (hval 0 41 v0 rfl rfl)
 obtain ⟨a0,r0,q0⟩:=o_41 hf0 hz0
 obtain ⟨fu1,hf1⟩:=id k1
 have hz1:∀ n ∈ d1.weights Tryz.prog 42,n ≤ reachBytes:=fun n hn=>by
  have:=List.all_eq_true.1 hz n (DataW.weights_mem_each (j:=1) (t:=42) (d:=d1) (by rw [Tryz.params6]; rfl) rfl n hn)
  simpa using this
 obtain ⟨s1,u1,w1,rfl⟩:=okWide_slice Tryz.underlying42 (hval 1 42 v1 rfl rfl)
 obtain ⟨a1,r1,q1⟩:=(qhA 32 (of_decide_eq_true (by kernel_rfl)) (Nat.succ_pos _) Tryz.underlying42 ce62 (Nat.succ_pos _) o_62) hf1 hz1
 obtain ⟨fu2,hf2⟩:=id k2
 have hz2:∀ n ∈ d2.weights Tryz.prog 66,n ≤ reachBytes:=fun n hn=>by
  have:=List.all_eq_true.1 hz n (DataW.weights_mem_each (j:=2) (t:=66) (d:=d2) (by rw [Tryz.params6]; rfl) rfl n hn)
  simpa using this
 obtain ⟨s2,rfl,_⟩:=okWide_struct Tryz.underlying66 (hval 2 66 v2 rfl rfl)
 obtain ⟨a2,r2,q2⟩:=o_66 hf2 hz2
 clear hA0 hval0
 have hlt:∀ x ∈ p0 ++ p1 ++ p2,x.block < W.heap.size:=fun x hx=>by
  refine hW'.lt x ?_
  simpa using hx
 have hlt0:∀ x ∈ p0,x.block < W.heap.size:=fun x hx=>hlt x (by simp [hx])
 have hlt1:∀ x ∈ p1,x.block < W.heap.size:=fun x hx=>hlt x (by simp [hx])
 have hlt2:∀ x ∈ p2,x.block < W.heap.size:=fun x hx=>hlt x (by simp [hx])
 obtain ⟨N,hN⟩:=hp a0 a1 a2 q0 q1 q2
 have hw:=qh3 N s0.toList a0 r0 _ a1 r1 s2.toList a2 r2 hN (qr3 hsh) (qlz hX) (Ok.start W)
 refine hw.mono fun e W' ⟨he,ok⟩=>?_
 subst he
 have hn:=ok.below
 have t0:=Below.trod qmo (by kernel_rfl) (of_decide_eq_true (by kernel_rfl)) k0 hn hlt0
 have t1:=Below.trod qmo (by kernel_rfl) (of_decide_eq_true (by kernel_rfl)) k1 hn hlt1
 have t2:=Below.trod qmo (by kernel_rfl) (of_decide_eq_true (by kernel_rfl)) k2 hn hlt2
 refine ⟨_,rfl,_,_,_,[],p0 ++ (p1 ++ p2),[],hW',?_,?_,rfl,hn.frame _,fun h=>by cases h⟩
 ·exact trodAll_mk1 (qpX true)
 ·exact trodAll_mk3 t0 t1 t2
theorem qkm (hp:∀ x0 x1 x2,((x0.Script.length * 40 ≤ reachBytes ∧ ∀ y6 ∈ x0.Script,(y6.Name.length ≤ reachBytes ∧ (y6.Rules.length * 56 ≤ reachBytes ∧ ∀ y7 ∈ y6.Rules,(y7.Kind.length ≤ reachBytes ∧ (y7.Items.length * 64 ≤ reachBytes ∧ ∀ y8 ∈ y7.Items,(y8.Text.length ≤ reachBytes ∧ (y8.Ranges.length * 2 ≤ reachBytes ∧ ∀ y9 ∈ y8.Ranges,(InR .u8 y9.From ∧ InR .u8 y9.To)) ∧ InR .i64 y8.Least ∧ InR .i64 y8.Most)) ∧ y7.Next.length ≤ reachBytes)))) ∧ (x0.Calls.length * 32 ≤ reachBytes ∧ ∀ y10 ∈ x0.Calls,(y10.Name.length ≤ reachBytes ∧ InR .i64 y10.ID ∧ InR .i64 y10.Source))) → (x1.length * 32 ≤ reachBytes ∧ ∀ y12 ∈ x1,(y12.Name.length ≤ reachBytes ∧ y12.Text.length ≤ reachBytes)) → (x2.Name.length ≤ reachBytes ∧ InR .i64 x2.ID ∧ InR .i64 x2.Source) → ∃ N,qbX N x0 x1 x2 = some true):Rows.ExtractOtherSaid :=
 OpenClaim.holds_of_wide 6 Tryz.f6 rfl rfl rfl rfl rfl rfl rfl ⟨rfl,rfl,rfl,rfl,rfl⟩ rfl rfl rfl rfl rfl (by kernel_rfl) Tryz.func6 (by kernel_rfl)
  (of_decide_eq_true (by kernel_rfl)) (by unfold Func.isWrapper; rw [if_neg (of_decide_eq_false (by kernel_rfl))]; exact ⟨rfl,rfl⟩)
  (fun os started H enc _=>qj9 hp os started H enc)
set_option maxRecDepth 100000 in
theorem qlg (hp:∀ x0 x1 x2,((x0.Script.length * 40 ≤ reachBytes ∧ ∀ y6 ∈ x0.Script,(y6.Name.length ≤ reachBytes ∧ (y6.Rules.length * 56 ≤ reachBytes ∧ ∀ y7 ∈ y6.Rules,(y7.Kind.length ≤ reachBytes ∧ (y7.Items.length * 64 ≤ reachBytes ∧ ∀ y8 ∈ y7.Items,(y8.Text.length ≤ reachBytes ∧ (y8.Ranges.length * 2 ≤ reachBytes ∧ ∀ y9 ∈ y8.Ranges,(InR .u8 y9.From ∧ InR .u8 y9.To)) ∧ InR .i64 y8.Least ∧ InR .i64 y8.Most)) ∧ y7.Next.length ≤ reachBytes)))) ∧ (x0.Calls.length * 32 ≤ reachBytes ∧ ∀ y10 ∈ x0.Calls,(y10.Name.length ≤ reachBytes ∧ InR .i64 y10.ID ∧ InR .i64 y10.Source))) → (x1.length * 32 ≤ reachBytes ∧ ∀ y12 ∈ x1,(y12.Name.length ≤ reachBytes ∧ y12.Text.length ≤ reachBytes)) → (x2.Name.length ≤ reachBytes ∧ InR .i64 x2.ID ∧ InR .i64 x2.Source) → ∃ N,qbX N x0 x1 x2 = some true):Rows.ExtractOtherCardSaid :=
 Claim7.holds_tied_plain_at .later [] [.data,.data,.data,.data,.pinned] true (true, "e41d8787e74db97e4c01b0006a6740286e1baea1c5dbefd0607aae296ef58d28") false (qkm hp) (fun _ h=>by cases h) (by kernel_rfl) (fun _ h=>by cases h) extractOther_row_tie rfl ⟨rfl,rfl⟩ (by kernel_rfl) rfl
  (fun f fn hf hfn=>by
   obtain rfl:f = 6:=Option.some.inj ((show Tryz.prog.funcNamed "calque/calquelaw45.ExtractOther" = some 6 by kernel_rfl).symm.trans hf) |>.symm
   obtain rfl:fn = Tryz.f6:=(Option.some.inj (Tryz.func6.symm.trans hfn)).symm
   exact ⟨by kernel_rfl,fun j t ht=>by
    rw [Tryz.params6] at ht
    have hm:t ∈ [41,42,66]:=by simpa using Array.mem_of_getElem? ht
    have hall:([41,42,66].all fun u=>!Tryz.prog.wantsStandIn u) = true:=by kernel_rfl
    exact (show Tryz.prog.wantsStandIn t = false by simpa using List.all_eq_true.1 hall t hm)⟩)
  (by kernel_rfl)
end Go.Proofs.YtllfckekodcdaaaGreatDoor
namespace Go.X
theorem qhx {a b:List UInt8} (h:a.length + b.length ≤ 1000000):cat a b = some (a ++ b):=by
 unfold cat; rw [if_pos (by unfold LIMS; omega)]
end Go.X
namespace Go.X
def run {σ α β:Type} (f:σ → α → σ ⊕ β) (fin:σ → β):σ → List α → β
 | s,[]=>fin s
 | s,x :: xs=>match f s x with
  | .inl s'=>run f fin s' xs
  | .inr b=>b
theorem qp1 {σ τ α β:Type} {body:τ → Option (τ ⊕ β)} (mkS:σ → Int → τ) (xs:List α) (f:σ → α → σ ⊕ β) (fin:σ → β) (I:Nat → σ → Prop)
  (h1:∀ s (k:Nat) x,xs[k]? = some x → I k s → body (mkS s k) = some (match f s x with | .inl s'=>.inl (mkS s' ((k:Int) + 1)) | .inr b=>.inr b) ∧ ∀ s',f s x = .inl s' → I (k + 1) s')
  (h2:∀ s,I xs.length s → body (mkS s xs.length) = some (.inr (fin s))) :
  ∀ N s,xs.length < N → I 0 s → iter body N (mkS s 0) = some (run f fin s xs):=by
 have key:∀ j k N s,k + j = xs.length → j < N → I k s → iter body N (mkS s (k:Int)) = some (run f fin s (xs.drop k)):=by
  intro j
  induction j with
  | zero =>
   intro k N s hk hN hI
   obtain ⟨N,rfl⟩:∃ M,N = M + 1:=⟨N - 1,by omega⟩
   have e:xs.drop k = []:=List.drop_eq_nil_of_le (by omega)
   obtain rfl:k = xs.length:=by omega
   rw [iter,h2 s hI,e]; rfl
  | succ j ih =>
   intro k N s hk hN hI
   obtain ⟨N,rfl⟩:∃ M,N = M + 1:=⟨N - 1,by omega⟩
   have hlt:k < xs.length:=by omega
   have e:xs.drop k = xs[k] :: xs.drop (k + 1):=List.drop_eq_getElem_cons hlt
   obtain ⟨h3,h4⟩:=h1 s k _ (List.getElem?_eq_getElem hlt) hI
   rw [iter,h3,e]
   simp only [run]
   cases hf:f s xs[k] with
   | inl s' =>
    simp only
    rw [show ((k:Int) + 1) = ((k + 1:Nat):Int) by omega]
    exact ih (k + 1) N s' (by omega) (by omega) (h4 s' hf)
   | inr b=>rfl
 intro N s hN hI
 have:=key xs.length 0 N s (by omega) hN hI
 simpa using this
theorem qpH {σ τ α β:Type} {body:τ → Option (τ ⊕ β)} (mkS:σ → Int → τ) (xs:List α) (f:σ → α → σ ⊕ β) (fin:σ → β)
  (h1:∀ s (k:Nat) x,xs[k]? = some x → body (mkS s k) = some (match f s x with | .inl s'=>.inl (mkS s' ((k:Int) + 1)) | .inr b=>.inr b))
  (h2:∀ s,body (mkS s xs.length) = some (.inr (fin s))) (N:Nat) (s:σ) (hN:xs.length < N):iter body N (mkS s 0) = some (run f fin s xs) :=
 qp1 mkS xs f fin (fun _ _=>True) (fun s k x hx _=>⟨h1 s k x hx,fun _ _=>trivial⟩) (fun s _=>h2 s) N s hN trivial
theorem qqL {α:Type} {body:Int → Option (Int ⊕ (Unit ⊕ Int))} (xs:List α) (p:α → Bool)
  (h1:∀ (k:Nat) x,xs[k]? = some x → body k = some (if p x then .inr (.inr k) else .inl ((k:Int) + 1))) (h2:body xs.length = some (.inr (.inl ()))) (N:Nat) (hN:xs.length < N) :
  iter body N 0 = some (match xs.findIdx? p with | some k=>.inr (k:Int) | none=>.inl ()):=by
 have key:∀ j k N,k + j = xs.length → j < N → iter body N (k:Int) = some (match (xs.drop k).findIdx? p with | some i=>.inr ((k + i:Nat):Int) | none=>.inl ()):=by
  intro j
  induction j with
  | zero =>
   intro k N hk hN
   obtain ⟨N,rfl⟩:∃ M,N = M + 1:=⟨N - 1,by omega⟩
   have e:xs.drop k = []:=List.drop_eq_nil_of_le (by omega)
   obtain rfl:k = xs.length:=by omega
   rw [iter,h2,e]; rfl
  | succ j ih =>
   intro k N hk hN
   obtain ⟨N,rfl⟩:∃ M,N = M + 1:=⟨N - 1,by omega⟩
   have hlt:k < xs.length:=by omega
   have e:xs.drop k = xs[k] :: xs.drop (k + 1):=List.drop_eq_getElem_cons hlt
   rw [iter,h1 k _ (List.getElem?_eq_getElem hlt),e,List.findIdx?_cons]
   cases hp:p xs[k] with
   | true=>simp
   | false =>
    simp only [Bool.false_eq_true,if_false]
    rw [show ((k:Int) + 1) = ((k + 1:Nat):Int) by omega,ih (k + 1) N (by omega) (by omega)]
    cases (xs.drop (k + 1)).findIdx? p with
    | none=>rfl
    | some i=>simp only [Option.map_some]; congr 3; omega
 have:=key xs.length 0 N (by omega) hN
 simpa using this
theorem qrs {α:Type} (xs:List α) (p:α → Bool):((some (match xs.findIdx? p with | some k=>Sum.inr (k:Int) | none=>Sum.inl ()):Option (Unit ⊕ Int)).bind fun o=>Sum.elim (fun _=>some (-1)) (fun o=>some o) o) = some (match xs.findIdx? p with | some k=>(k:Int) | none=>-1):=by
 cases xs.findIdx? p <;> rfl
theorem qmL {α:Type} (xs:List α) (p:α → Bool):decide ((match xs.findIdx? p with | some k=>(k:Int) | none=>-1) ≥ 0) = xs.any p:=by
 cases h:xs.findIdx? p with
 | none =>
  have:xs.any p = false:=by
   rw [List.any_eq_false]; intro x hx
   have:=List.findIdx?_eq_none_iff.1 h x hx
   simp [this]
  rw [this]; rfl
 | some k =>
  have:xs.any p = true:=by
   obtain ⟨x,hx,hp⟩:=List.findIdx?_eq_some_iff_getElem.1 h
   exact List.any_eq_true.2 ⟨_,List.getElem_mem x,by first | exact hx | exact hp.1 | exact hp⟩
  rw [this]
  simp
theorem qo3 {α:Type} (p:α → Bool):∀ xs:List α,run (σ:=Unit) (β:=Unit ⊕ Bool) (fun _ x=>if p x then .inl () else .inr (.inr false)) (fun _=>.inl ()) () xs = if xs.all p then .inl () else .inr false
 | []=>rfl
 | x :: xs=>by
  unfold run
  cases h:p x with
  | true=>simp only [if_true,qo3 p xs,List.all_cons,h,Bool.true_and]
  | false=>simp [h]
theorem qmO {α:Type} {body:Int → Option (Int ⊕ (Unit ⊕ Bool))} (p:α → Bool) (xs:List α) (h1:∀ (k:Nat) x,xs[k]? = some x → body k = some (if p x then .inl ((k:Int) + 1) else .inr (.inr false))) (h2:body xs.length = some (.inr (.inl ()))) (N:Nat) (hN:xs.length < N) :
  iter body N 0 = some (if xs.all p then .inl () else .inr false):=by
 rw [← qo3 p xs]
 refine qpH (σ:=Unit) (fun _ k=>k) xs _ _ (fun _ k x hx=>?_) (fun _=>h2) N () hN
 rw [h1 k x hx]
 cases p x <;> rfl
theorem qjE {α:Type} {xs:List α} {k:Nat} {x:α} (h:xs[k]? = some x):k < xs.length:=(List.getElem?_eq_some_iff.1 h).1
end Go.X
namespace Go.Proofs.YtllfckekodcdaaaGreatDoor
open Go.X
theorem qnR {σ β:Type} {body:σ → Option (σ ⊕ β)} (I:Nat → σ → Prop) (n:Nat) (Q:β → Prop) (hs:∀ i s,i < n → I i s → ∃ s',body s = some (.inl s') ∧ I (i + 1) s') (hd:∀ s,I n s → ∃ b,body s = some (.inr b) ∧ Q b) :
  ∀ N s,n < N → I 0 s → ∃ b,iter body N s = some b ∧ Q b:=by
 have key:∀ j k N s,k + j = n → j < N → I k s → ∃ b,iter body N s = some b ∧ Q b:=by
  intro j
  induction j with
  | zero =>
   intro k N s hk hN hI
   obtain ⟨N,rfl⟩:∃ M,N = M + 1:=⟨N - 1,by omega⟩
   have:k = n:=by omega
   subst this
   obtain ⟨b,h1,h2⟩:=hd s hI
   exact ⟨b,by simp only [iter,h1],h2⟩
  | succ j ih =>
   intro k N s hk hN hI
   obtain ⟨N,rfl⟩:∃ M,N = M + 1:=⟨N - 1,by omega⟩
   obtain ⟨s',h1,h2⟩:=hs k s (by omega) hI
   simp only [iter,h1]
   exact ih (k + 1) N s' (by omega) (by omega) h2
 exact fun N s hN hI=>key n 0 N s (by omega) hN hI
theorem qjv {σ β:Type} {body:σ → Option (σ ⊕ β)} (f:Nat → σ) (n:Nat) (b:β) {s0:σ} (h0:f 0 = s0) (hs:∀ i,i < n → body (f i) = some (.inl (f (i + 1)))) (hd:body (f n) = some (.inr b)) (N:Nat) (hN:n < N):iter body N s0 = some b:=by
 subst h0
 obtain ⟨b',h1,rfl⟩:=qnR (fun i s=>s = f i) n (fun b'=>b' = b) (fun i s hi h=>by subst h; exact ⟨_,hs i hi,rfl⟩) (fun s h=>by subst h; exact ⟨_,hd,rfl⟩) N (f 0) hN rfl
 exact h1
theorem qeo {σ β γ:Type} {body:σ → Option (σ ⊕ β)} {g:β → Option γ} (f:Nat → σ) (n:Nat) (b:β) {s0:σ} (h0:f 0 = s0) {N:Nat} (hN:n < N) (hs:∀ i,i < n → body (f i) = some (.inl (f (i + 1)))) (hd:body (f n) = some (.inr b)):(iter body N s0).bind g = g b:=by
 rw [qjv f n b h0 hs hd N hN]; rfl
theorem ix {α:Type} (l:List α) (k:Nat):idx l (k:Int) = l[k]?:=by unfold idx; rw [if_pos (by omega)]; simp
theorem ixg {α:Type} {l:List α} {k:Nat} {x:α} (h:l[k]? = some x):idx l (k:Int) = some x:=by rw [ix,h]
theorem qcU {α:Type} {l:List α} {k:Nat} (h:k < l.length):∃ x,l[k]? = some x:=⟨_,List.getElem?_eq_getElem h⟩
theorem dk {k n:Nat} (h:k < n):decide ((k:Int) < (n:Int)) = true:=decide_eq_true (by omega)
theorem dn (n:Nat):decide ((n:Int) < (n:Int)) = false:=decide_eq_false (by omega)
theorem qfA {α:Type} {l:List α} {k:Nat} {x:α} (h:l[k]? = some x):l.take k ++ [x] = l.take (k + 1):=by rw [List.take_add_one,h]; rfl
theorem app1 {α:Type} {xs ys:List α} (h:xs.length + ys.length ≤ 4294967296):app xs ys = some (xs ++ ys):=by unfold app; rw [if_pos (by unfold LIM; exact h)]
theorem qnl {α:Type} {B:Nat} {xs ys:List α} (h:(xs.length + ys.length) * B ≤ 140737488355328) (hB:0 < B):appw B xs ys = some (xs ++ ys):=by
 unfold appw
 refine if_pos ⟨h,Nat.le_trans (Nat.le_mul_of_pos_right _ hB) h⟩
def ItOk (x:Item):Prop:=x.Text.length ≤ reachBytes ∧ (x.Ranges.length * 2 ≤ reachBytes ∧ ∀ y ∈ x.Ranges,InR .u8 y.From ∧ InR .u8 y.To) ∧ InR .i64 x.Least ∧ InR .i64 x.Most
def RlOk (r:Rule):Prop:=r.Kind.length ≤ reachBytes ∧ (r.Items.length * 64 ≤ reachBytes ∧ ∀ y ∈ r.Items,ItOk y) ∧ r.Next.length ≤ reachBytes
def StOk (x:State):Prop:=x.Name.length ≤ reachBytes ∧ (x.Rules.length * 56 ≤ reachBytes ∧ ∀ y ∈ x.Rules,RlOk y)
def ScOk (s:List State):Prop:=s.length * 40 ≤ reachBytes ∧ ∀ y ∈ s,StOk y
def szI (x:Item):Nat:=x.Text.length + x.Ranges.length
def szL (l:List Item):Nat:=l.length + (l.map szI).sum
def szR (r:Rule):Nat:=r.Kind.length + r.Next.length + szL r.Items
def szS (x:State):Nat:=x.Name.length + (x.Rules.length + (x.Rules.map szR).sum)
def sz (s:List State):Nat:=s.length + (s.map szS).sum
theorem qkU {α:Type} {f:α → Nat}:∀ {l:List α} {x:α},x ∈ l → f x ≤ (l.map f).sum
 | y :: l,x,h=>by
  simp only [List.map_cons,List.sum_cons]
  rcases List.mem_cons.1 h with rfl | h
  ·omega
  ·have:=qkU (f:=f) h; omega
def SzL (N:Nat) (l:List Item):Prop:=l.length < N ∧ ∀ x ∈ l,x.Text.length < N ∧ x.Ranges.length < N
def SzR (N:Nat) (r:Rule):Prop:=r.Kind.length < N ∧ r.Next.length < N ∧ SzL N r.Items
def SzS (N:Nat) (x:State):Prop:=x.Name.length < N ∧ x.Rules.length < N ∧ ∀ r ∈ x.Rules,SzR N r
def Sz (N:Nat) (s:List State):Prop:=s.length < N ∧ ∀ x ∈ s,SzS N x
theorem SzL.of {N:Nat} {l:List Item} (h:szL l < N):SzL N l:=by
 unfold szL at h
 refine ⟨by omega,fun x hx=>?_⟩
 have:x.Text.length + x.Ranges.length ≤ (l.map szI).sum:=qkU (f:=szI) hx
 omega
theorem SzR.of {N:Nat} {r:Rule} (h:szR r < N):SzR N r:=by
 unfold szR at h
 exact ⟨by omega,by omega,SzL.of (by omega)⟩
theorem SzS.of {N:Nat} {x:State} (h:szS x < N):SzS N x:=by
 unfold szS at h
 refine ⟨by omega,by omega,fun r hr=>SzR.of ?_⟩
 have:=qkU (f:=szR) hr
 omega
theorem Sz.of {N:Nat} {s:List State} (h:sz s < N):Sz N s:=by
 unfold sz at h
 refine ⟨by omega,fun x hx=>SzS.of ?_⟩
 have:=qkU (f:=szS) hx
 omega
theorem qjQ {n B:Nat} (h:n * B ≤ reachBytes):n * B ≤ 140737488355328:=by unfold reachBytes at h; omega
theorem qov {N:Nat} {l:List Item} {i:Nat} {x:Item} (hi:l[i]? = some x) (hB:x.Ranges.length * 2 ≤ reachBytes) (hN:x.Ranges.length < N) :
  iter (fun s=>qcG N l i s.1 s.2) N ((0:Int),(Item.mk x.Text ([]) x.Not x.Least x.Most)) = some x:=by
 refine qjv (fun k:Nat=>((k:Int),Item.mk x.Text (x.Ranges.take k) x.Not x.Least x.Most)) x.Ranges.length x rfl (fun k hk=>?_) ?_ N hN
 ·obtain ⟨g,hg⟩:=qcU hk
  simp only [qcG,ixg hi,Option.bind_some,dk hk,cond_true,ixg hg]
  rw [qnl (by
   simp only [List.length_take,List.length_cons,List.length_nil]
   have:=qjQ hB
   have:(min k x.Ranges.length + (0 + 1)) * 2 ≤ x.Ranges.length * 2:=Nat.mul_le_mul_right _ (by omega)
   omega) (by decide)]
  simp only [Option.bind_some,qfA hg]
  rfl
 ·simp only [qcG,ixg hi,Option.bind_some,dn,cond_false,List.take_length]
theorem qrp {N:Nat} {l:List Item} (h:l.length * 64 ≤ reachBytes ∧ ∀ x ∈ l,ItOk x) (hs:SzL N l):qeb N l = some l:=by
 unfold qeb
 refine (qeo (fun k:Nat=>(l.take k,(k:Int))) l.length l rfl hs.1 (fun k hk=>?_) ?_).trans rfl
 ·obtain ⟨x,hx⟩:=qcU hk
  have hm:=List.mem_of_getElem? hx
  simp only [qdr,dk hk,cond_true,ixg hx,Option.bind_some]
  rw [qov hx (h.2 x hm).2.1.1 (hs.2 x hm).2]
  simp only [Option.bind_some]
  rw [qnl (by
   simp only [List.length_take,List.length_cons,List.length_nil]
   have:=qjQ h.1
   have:(min k l.length + (0 + 1)) * 64 ≤ l.length * 64:=Nat.mul_le_mul_right _ (by omega)
   omega) (by decide)]
  simp only [Option.bind_some,qfA hx]
  rfl
 ·simp only [qdr,dn,cond_false,List.take_length]
theorem qtx {N:Nat} {s:List State} (h:ScOk s) (hs:Sz N s):qdT N s = some s:=by
 unfold qdT
 refine (qeo (fun k:Nat=>(s.take k,(k:Int))) s.length s rfl hs.1 (fun k hk=>?_) ?_).trans rfl
 ·obtain ⟨x,hx⟩:=qcU hk
  have hm:=List.mem_of_getElem? hx
  obtain ⟨hn,hr,hrl⟩:=h.2 x hm
  obtain ⟨_,gr,grl⟩:=hs.2 x hm
  simp only [qdO,dk hk,cond_true,ixg hx,Option.bind_some]
  refine (qeo (fun j:Nat=>((j:Int),State.mk x.Name (x.Rules.take j))) x.Rules.length x rfl gr (fun j hj=>?_) ?_).trans ?_
  rotate_left 2
  ·rw [qnl (by
    simp only [List.length_take,List.length_cons,List.length_nil]
    have:=qjQ h.1
    have:(min k s.length + (0 + 1)) * 40 ≤ s.length * 40:=Nat.mul_le_mul_right _ (by omega)
    omega) (by decide)]
   simp only [Option.bind_some,qfA hx]
   rfl
  ·obtain ⟨r,hr'⟩:=qcU hj
   have hrm:=List.mem_of_getElem? hr'
   simp only [qdP,dk hj,cond_true,ixg hx,ixg hr',Option.bind_some]
   rw [qrp (hrl r hrm).2.1 (grl r hrm).2.2]
   simp only [Option.bind_some]
   rw [qnl (by
    simp only [List.length_take,List.length_cons,List.length_nil]
    have:=qjQ hr
    have:(min j x.Rules.length + (0 + 1)) * 56 ≤ x.Rules.length * 56:=Nat.mul_le_mul_right _ (by omega)
    omega) (by decide)]
   simp only [Option.bind_some,qfA hr']
   rfl
  ·simp only [qdP,ixg hx,Option.bind_some,dn,cond_false,List.take_length]
 ·simp only [qdO,dn,cond_false,List.take_length]
theorem qmp {α:Type} {body:α × Int → Option ((α × Int) ⊕ α)} (n:Nat) (hs:∀ a (i:Nat),i < n → ∃ a',body (a,i) = some (.inl (a',(i:Int) + 1))) (hd:∀ a,∃ b,body (a,n) = some (.inr b)) {N:Nat} (hN:n < N) (a:α):∃ b,iter body N (a,0) = some b:=by
 obtain ⟨b,h,_⟩:=qnR (fun i s=>s.2 = (i:Int)) n (fun _=>True) (fun i s hi h=>by
  obtain ⟨a,c⟩:=s
  simp only at h
  subst h
  obtain ⟨a',h⟩:=hs a i hi
  exact ⟨_,h,rfl⟩) (fun s h=>by
  obtain ⟨a,c⟩:=s
  simp only at h
  subst h
  obtain ⟨b,h⟩:=hd a
  exact ⟨_,h,trivial⟩) N (a,0) hN rfl
 exact ⟨b,h⟩
theorem qq4 {N:Nat} {s:List State} (hs:Sz N s):∃ b,qeQ N s = some b:=by
 have h3:∀ (r:Rule),SzR N r → ∀ a:Int,∃ b,iter (fun s':Int × Int=>qc9 N r s'.1 s'.2) N (a,0) = some b:=fun r hr a=>by
  refine qmp r.Items.length (fun a m hm=>?_) (fun a=>?_) hr.2.2.1 a
  ·obtain ⟨y,hy⟩:=qcU hm
   simp only [qc9,dk hm,cond_true,ixg hy,Option.bind_some]
   exact ⟨_,rfl⟩
  ·simp only [qc9,dn,cond_false]
   exact ⟨_,rfl⟩
 have h2:∀ (i:Nat) (x:State),s[i]? = some x → ∀ a:Int,∃ b,iter (fun s':Int × Int=>qdc N s i s'.1 s'.2) N (a,0) = some b:=fun i x hx a=>by
  obtain ⟨_,gr,grl⟩:=hs.2 x (List.mem_of_getElem? hx)
  refine qmp x.Rules.length (fun a j hj=>?_) (fun a=>?_) gr a
  ·obtain ⟨r,hr⟩:=qcU hj
   simp only [qdc,ixg hx,Option.bind_some,dk hj,cond_true,ixg hr]
   obtain ⟨b,hb⟩:=h3 r (grl r (List.mem_of_getElem? hr)) (IntKind.wrap .i64 (a + (IntKind.wrap .i64 ((IntKind.wrap .i64 ((1:Int) + (IntKind.wrap .i64 ((r.Kind.length:Int).tdiv 20)))) + (IntKind.wrap .i64 ((r.Next.length:Int).tdiv 20))))))
   exact ⟨b,by rw [hb]; rfl⟩
  ·simp only [qdc,ixg hx,Option.bind_some,dn,cond_false]
   exact ⟨_,rfl⟩
 obtain ⟨b,hb⟩:=qmp (body:=fun s':Int × Int=>qdb N s s'.1 s'.2) s.length (fun a i hi=>by
  obtain ⟨x,hx⟩:=qcU hi
  obtain ⟨b,hb⟩:=h2 i x hx a
  simp only [qdb,dk hi,cond_true,hb,Option.bind_some,ixg hx]
  exact ⟨_,rfl⟩) (fun a=>by
  simp only [qdb,dn,cond_false]
  exact ⟨_,rfl⟩) hs.1 0
 unfold qeQ
 exact ⟨_,by rw [hb]; rfl⟩
abbrev Str:=List UInt8
def hexd (n:Nat):UInt8:=UInt8.ofNat (if n < 10 then 48 + n else 87 + n)
def esc (br:Bool) (c:Nat):Str :=
 if c = 92 ∨ (br = false ∧ c = 34) ∨ (br = true ∧ (c = 91 ∨ c = 93 ∨ c = 94 ∨ c = 45)) then [92,UInt8.ofNat c]
 else if c < 32 ∨ 126 < c ∨ (br = true ∧ c = 32) then [92,120,hexd (c / 16),hexd (c % 16)]
 else [UInt8.ofNat c]
def okQ (N:Nat) (c:Nat):Bool:=qgP N (c:Int) == some (esc false c) && (qel N (c:Int) == some (esc true c) && (qdq N (c:Int) false == some (esc false c) && qdq N (c:Int) true == some (esc true c)))
set_option maxRecDepth 100000 in
theorem qsh (N:Nat):((List.range 256).all fun c=>okQ N c) = true:=by kernel_rfl
theorem qqa {N c:Nat} (h:c < 256):okQ N c = true:=List.all_eq_true.1 (qsh N) c (List.mem_range.2 h)
theorem qp7 {N c:Nat} (h:c < 256):qgP N (c:Int) = some (esc false c):=by
 have:=qqa (N:=N) h
 unfold okQ at this
 simp only [Bool.and_eq_true,beq_iff_eq] at this
 exact this.1
theorem qkD {N c:Nat} (h:c < 256):qel N (c:Int) = some (esc true c):=by
 have:=qqa (N:=N) h
 unfold okQ at this
 simp only [Bool.and_eq_true,beq_iff_eq] at this
 exact this.2.1
theorem qhC (br:Bool) (c:Nat):(esc br c).length ≤ 4:=by
 unfold esc
 split
 ·simp
 ·split <;> simp
def ql6 (x:Item):Str :=
 if x.Least = 1 ∧ x.Most = 1 then [] else if x.Least = 0 ∧ x.Most = 1 then [63] else if x.Least = 0 ∧ x.Most = -1 then [42] else if x.Least = 1 ∧ x.Most = -1 then [43] else []
def qje (x:Item):Prop:=(x.Least = 1 ∨ x.Least = 0) ∧ (x.Most = 1 ∨ x.Most = -1)
instance (x:Item):Decidable (qje x):=by unfold qje; infer_instance
def qfP (g:Range):Str:=esc true g.From.toNat ++ if g.To = g.From then [] else 45 :: esc true g.To.toNat
def qmc (x:Item):Str :=
 if x.Text = [] then [91] ++ (if x.Not then [94] else []) ++ x.Ranges.flatMap qfP ++ [93] else [34] ++ x.Text.flatMap (fun c=>esc false c.toNat) ++ [34]
def qgS (x:Item):Str:=qmc x ++ ql6 x
def qid (r:Rule):Str:=r.Kind ++ r.Items.flatMap (fun x=>32 :: qgS x) ++ if r.Next = [] then [] else [32,45,62,32] ++ r.Next
def qhm (x:State):Str:=([115,116,97,116,101,32] ++ x.Name ++ [10]) ++ x.Rules.flatMap (fun r=>qid r ++ [10])
def qpd (s:List State):Str:=s.flatMap qhm
def word (w:Str):Bool:=w.all (fun c=>decide (97 ≤ c.toNat ∧ c.toNat ≤ 122)) && (decide (1 ≤ w.length) && decide (w.length ≤ 16))
def ItP (x:Item):Prop:=qje x ∧ if x.Text = [] then (1 ≤ x.Ranges.length ∧ x.Ranges.length ≤ 20) ∧ ∀ g ∈ x.Ranges,g.From ≤ g.To else x.Text.length ≤ 40 ∧ x.Ranges = [] ∧ x.Not = false
def InB (x:Item):Prop:=∀ g ∈ x.Ranges,InR .u8 g.From ∧ InR .u8 g.To
def RlP (r:Rule):Prop:=word r.Kind = true ∧ (1 ≤ r.Items.length ∧ r.Items.length ≤ 20) ∧ ∀ x ∈ r.Items,ItP x
theorem inr8 {x:Int} (h:InR .u8 x):∃ n:Nat,x = (n:Int) ∧ n < 256 ∧ x.toNat = n:=by
 have:=qkA.1 h
 exact ⟨x.toNat,by omega,by omega,rfl⟩
theorem u8lt (c:UInt8):c.toNat < 256:=c.toNat_lt
theorem qil {α:Type} (f:α → Str) (B:Nat):∀ l:List α,(∀ x ∈ l,(f x).length ≤ B) → (l.flatMap f).length ≤ l.length * B
 | [],_=>by simp
 | x :: l,h=>by
  simp only [List.flatMap_cons,List.length_append,List.length_cons,Nat.add_mul]
  have h1:=h x (by simp)
  have h2:=qil f B l (fun y hy=>h y (by simp [hy]))
  omega
theorem ql5 (g:Range):(qfP g).length ≤ 9:=by
 unfold qfP
 have:=qhC true g.From.toNat
 have:=qhC true g.To.toNat
 split <;> simp <;> omega
theorem qmV (x:Item):(ql6 x).length ≤ 1:=by
 unfold ql6
 repeat' split
 all_goals decide
theorem qp2 {x:Item} (h:ItP x):(qmc x).length ≤ 200:=by
 unfold qmc
 obtain ⟨_,h⟩:=h
 split
 ·rename_i h0
  rw [if_pos h0] at h
  have:=qil qfP 9 x.Ranges (fun g _=>ql5 g)
  cases x.Not <;> simp [-List.length_flatMap] <;> omega
 ·rename_i h0
  rw [if_neg h0] at h
  have:=qil (fun c:UInt8=>esc false c.toNat) 4 x.Text (fun c _=>qhC _ _)
  simp [-List.length_flatMap]; omega
theorem qmU {x:Item} (h:ItP x):(qgS x).length ≤ 201:=by
 have:=qp2 h
 have:=qmV x
 unfold qgS
 simp; omega
theorem qiv {w:Str} (h:word w = true):1 ≤ w.length ∧ w.length ≤ 16:=by
 unfold word at h
 simp only [Bool.and_eq_true,decide_eq_true_eq] at h
 exact h.2
theorem qp5 {r:Rule} (h:RlP r):(r.Items.flatMap (fun x=>32 :: qgS x)).length ≤ 4040:=by
 have:=qil (fun x=>32 :: qgS x) 202 r.Items (fun x hx=>by have:=qmU (h.2.2 x hx); simp; omega)
 have:=h.2.1
 omega
theorem qkC {r:Rule} (h:RlP r) (hn:r.Next.length ≤ 16):(qid r).length ≤ 4080:=by
 have:=qp5 h
 have:=qiv h.1
 unfold qid
 split <;> simp [-List.length_flatMap] <;> omega
def bld (l:Str):Builder:=⟨(),ints l⟩
theorem qnM (a b:Str):ints a ++ ints b = ints (a ++ b):=by simp [ints]
theorem qiH (l:Str):bytesOf (ints l) = l:=qm5 l
theorem wstr {N:Nat} {l t:Str} (h:l.length + t.length ≤ 4294967296):qaH N t (bld l) = some ((t.length:Int),(),bld (l ++ t)):=by
 unfold qaH bld
 rw [app1 (by simpa [ints] using h),qnM]
 rfl
theorem qlK {N:Nat} {l:Str} {c:Nat} (hc:c < 256) (h:l.length < 4294967296):qa8 N (c:Int) (bld l) = some ((),bld (l ++ [UInt8.ofNat c])):=by
 unfold qa8 bld
 have e:([(c:Int)]:List Int) = ints [UInt8.ofNat c]:=by simp [ints]; omega
 rw [app1 (by simp [ints]; omega),e,qnM]
 rfl
theorem qbW (b:Builder):Builder.mk () b.buf = b:=rfl
theorem beqd (a b:Int):(a == b) = decide (a = b):=rfl
theorem qoY (N:Nat) (x:Item):qg1 N x = some (ql6 x,decide (qje x)):=by
 unfold qg1 ql6 qje
 simp only [beqd]
 by_cases h1:x.Least = 1 <;> by_cases h0:x.Least = 0 <;> by_cases h2:x.Most = 1 <;> by_cases h3:x.Most = -1 <;> simp [h1,h0,h2,h3]
theorem cat1 {a b:Str} (h:a.length + b.length ≤ 1000000000):cat a b = some (a ++ b):=by unfold cat; rw [if_pos (by unfold LIMS; omega)]
theorem qh1 {α:Type} (f:α → Str) {l:List α} {k:Nat} {x:α} (h:l[k]? = some x):(l.take k).flatMap f ++ f x = (l.take (k + 1)).flatMap f:=by
 rw [← qfA h]; simp
theorem qjw {α:Type} (f:α → Str) (B:Nat) (l:List α) (k:Nat) (h:∀ x ∈ l,(f x).length ≤ B):((l.take k).flatMap f).length ≤ l.length * B:=by
 have h1:=qil f B (l.take k) (fun x hx=>h x (List.mem_of_mem_take hx))
 have h2:(l.take k).length * B ≤ l.length * B:=Nat.mul_le_mul_right _ (by simp; omega)
 omega
theorem qoj {N:Nat} {x:Item} (h:ItP x) (hb:InB x) {l:Str} (hl:l.length ≤ 1000000000) (hN:100 ≤ N):qh2 N x (bld l) = some (bld (l ++ qgS x)):=by
 unfold qh2
 obtain ⟨hm,h⟩:=h
 simp only [qoY,Option.bind_some,qbW]
 have hml:=qmV x
 by_cases h0:x.Text = []
 ·rw [if_pos h0] at h
  have e0:(x.Text != ([]:Str)) = false:=by rw [h0]; rfl
  have fl:=fun k=>qjw qfP 9 x.Ranges k (fun g _=>ql5 g)
  simp only [e0,cond_false]
  rw [show (91:Int) = ((91:Nat):Int) from rfl,qlK (by decide) (by omega)]
  simp only [Option.bind_some,qbW]
  have hnot:(bif x.Not then (qa8 N 94 (bld (l ++ [91]))).bind fun r98=>some r98.2 else some (bld (l ++ [91]))) = some (bld (l ++ [91] ++ if x.Not then [94] else [])):=by
   cases x.Not with
   | false=>simp
   | true =>
    simp only [cond_true,if_true]
    rw [show (94:Int) = ((94:Nat):Int) from rfl,qlK (by decide) (by simp [-List.length_flatMap]; omega)]
    rfl
  have hnl:(if x.Not then ([94]:Str) else []).length ≤ 1:=by cases x.Not <;> decide
  rw [show UInt8.ofNat 91 = 91 from rfl] at *
  rw [hnot]
  simp only [Option.bind_some,qbW]
  refine (qeo (fun k:Nat=>((k:Int),bld (l ++ [91] ++ (if x.Not then [94] else []) ++ (x.Ranges.take k).flatMap qfP))) x.Ranges.length (bld (l ++ [91] ++ (if x.Not then [94] else []) ++ x.Ranges.flatMap qfP)) (by simp) (by omega) (fun k hk=>?_) ?_).trans ?_
  ·obtain ⟨g,hg⟩:=qcU hk
   obtain ⟨hf,ht⟩:=hb g (List.mem_of_getElem? hg)
   obtain ⟨f,hf1,hf2,hf3⟩:=inr8 hf
   obtain ⟨t,ht1,ht2,ht3⟩:=inr8 ht
   have:=fl k
   have hef:=qhC true f
   have het:=qhC true t
   simp only [qge,dk hk,cond_true,ixg hg,Option.bind_some,qbW]
   rw [hf1,qkD hf2]
   simp only [Option.bind_some]
   rw [wstr (by simp [-List.length_flatMap]; omega)]
   simp only [Option.bind_some,qbW]
   rw [← qh1 qfP hg]
   by_cases he:g.To = g.From
   ·have hr:qfP g = esc true f:=by unfold qfP; rw [if_pos he,hf3,List.append_nil]
    have:(g.To != (f:Int)) = false:=by rw [he,hf1]; simp
    rw [this,hr]
    simp
   ·have hr:qfP g = esc true f ++ 45 :: esc true t:=by unfold qfP; rw [if_neg he,hf3,ht3]
    have:(g.To != (f:Int)) = true:=by rw [← hf1]; simpa using he
    rw [this,hr,ht1,qkD ht2]
    simp only [cond_true,Option.bind_some]
    rw [cat1 (by simp [-List.length_flatMap]; omega)]
    simp only [Option.bind_some]
    rw [wstr (by simp [-List.length_flatMap]; omega)]
    simp [qbW]
  ·simp only [qge,dn,cond_false,qbW,List.take_length]
  ·rw [cat1 (by simp [-List.length_flatMap]; omega)]
   simp only [Option.bind_some,qbW]
   have:=fl x.Ranges.length
   rw [List.take_length] at this
   rw [wstr (by simp [-List.length_flatMap]; omega)]
   simp only [Option.bind_some,qbW,qgS,qmc,if_pos h0]
   simp
 ·rw [if_neg h0] at h
  have e0:(x.Text != ([]:Str)) = true:=by simpa using h0
  have fl:=fun k=>qjw (fun c:UInt8=>esc false c.toNat) 4 x.Text k (fun c _=>qhC _ _)
  simp only [e0,cond_true]
  rw [show (34:Int) = ((34:Nat):Int) from rfl,qlK (by decide) (by omega)]
  simp only [Option.bind_some,qbW]
  refine (qeo (fun k:Nat=>((k:Int),bld (l ++ [34] ++ (x.Text.take k).flatMap (fun c=>esc false c.toNat)))) x.Text.length (bld (l ++ [34] ++ x.Text.flatMap (fun c=>esc false c.toNat))) (by simp) (by omega) (fun k hk=>?_) ?_).trans ?_
  ·obtain ⟨c,hc⟩:=qcU hk
   have:=fl k
   have hec:=qhC false c.toNat
   simp only [qgj,dk hk,cond_true,ixg hc,Option.bind_some,qbW]
   rw [qp7 (u8lt c)]
   simp only [Option.bind_some]
   rw [wstr (by simp [-List.length_flatMap]; omega)]
   simp only [Option.bind_some,qbW]
   rw [← qh1 (fun c:UInt8=>esc false c.toNat) hc]
   simp
  ·simp only [qgj,dn,cond_false,qbW,List.take_length]
  ·rw [cat1 (by simp [-List.length_flatMap]; omega)]
   simp only [Option.bind_some,qbW]
   have:=fl x.Text.length
   rw [List.take_length] at this
   rw [wstr (by simp [-List.length_flatMap]; omega)]
   simp only [Option.bind_some,qbW,qgS,qmc,if_neg h0]
   simp
theorem qoo {N:Nat} {r:Rule} (h:RlP r) (hn:r.Next.length ≤ 16) (hb:∀ x ∈ r.Items,InB x) (hN:100 ≤ N):qhU N r = some (qid r):=by
 unfold qhU
 have hk:=qiv h.1
 have fl:=fun k=>qjw (fun x=>32 :: qgS x) 202 r.Items k (fun x hx=>by have:=qmU (h.2.2 x hx); simp; omega)
 have hI:=h.2.1
 have e:Builder.mk () ([]) = bld []:=rfl
 rw [e,wstr (by simp [-List.length_flatMap]; omega)]
 simp only [Option.bind_some,qbW,List.nil_append]
 refine (qeo (fun k:Nat=>((k:Int),bld (r.Kind ++ (r.Items.take k).flatMap (fun x=>32 :: qgS x)))) r.Items.length (bld (r.Kind ++ r.Items.flatMap (fun x=>32 :: qgS x))) (by simp) (by omega) (fun k hk=>?_) ?_).trans ?_
 ·obtain ⟨x,hx⟩:=qcU hk
  have hm:=List.mem_of_getElem? hx
  have:=fl k
  simp only [qgr,dk hk,cond_true,ixg hx,Option.bind_some,qbW]
  rw [show (32:Int) = ((32:Nat):Int) from rfl,qlK (by decide) (by simp [-List.length_flatMap]; omega)]
  simp only [Option.bind_some,qbW]
  rw [qoj (h.2.2 x hm) (hb x hm) (by simp [-List.length_flatMap]; omega) hN]
  simp only [Option.bind_some,qbW]
  rw [← qh1 (fun x=>32 :: qgS x) hx]
  simp
 ·simp only [qgr,dn,cond_false,qbW,List.take_length]
 ·have:=fl r.Items.length
  rw [List.take_length] at this
  unfold qid
  by_cases h0:r.Next = []
  ·have e0:(r.Next != ([]:Str)) = false:=by rw [h0]; rfl
   simp only [e0,cond_false,if_pos h0,bld,qiH]
   simp
  ·have e0:(r.Next != ([]:Str)) = true:=by simpa using h0
   simp only [e0,cond_true,if_neg h0]
   rw [cat1 (by simp [-List.length_flatMap]; omega)]
   simp only [Option.bind_some,qbW]
   rw [wstr (by simp [-List.length_flatMap]; omega)]
   simp only [Option.bind_some,bld,qiH]
structure Vs (s:List State):Prop where
 len:1 ≤ s.length ∧ s.length ≤ 20
 name:∀ x ∈ s,word x.Name = true
 rules:∀ x ∈ s,1 ≤ x.Rules.length ∧ x.Rules.length ≤ 40
 rl:∀ x ∈ s,∀ r ∈ x.Rules,RlP r ∧ (r.Next = [] ∨ r.Next ∈ s.map State.Name)
 nd:(s.map State.Name).Nodup
theorem Vs.next {s:List State} (h:Vs s) {x:State} (hx:x ∈ s) {r:Rule} (hr:r ∈ x.Rules):r.Next.length ≤ 16:=by
 rcases (h.rl x hx r hr).2 with h1 | h1
 ·rw [h1]; decide
 ·obtain ⟨y,hy,e⟩:=List.mem_map.1 h1
  rw [← e]; exact (qiv (h.name y hy)).2
theorem qpA {s:List State} (h:Vs s) {x:State} (hx:x ∈ s):(qhm x).length ≤ 170000:=by
 unfold qhm
 have h1:=qiv (h.name x hx)
 have h2:=h.rules x hx
 have h3:=qil (fun r=>qid r ++ [10]) 4081 x.Rules (fun r hr=>by have:=qkC (h.rl x hx r hr).1 (h.next hx hr); simp; omega)
 simp [-List.length_flatMap]; omega
theorem qnV {N:Nat} {s:List State} (h:Vs s) (hb:∀ x ∈ s,∀ r ∈ x.Rules,∀ y ∈ r.Items,InB y) (hN:100 ≤ N):qhO N s = some (qpd s):=by
 unfold qhO
 have hl:=h.len
 have fl:=fun k=>qjw qhm 170000 s k (fun x hx=>qpA h hx)
 have e:Builder.mk () ([]) = bld []:=rfl
 rw [e]
 refine (qeo (fun k:Nat=>((k:Int),bld ((s.take k).flatMap qhm))) s.length (bld (qpd s)) (by simp) (by omega) (fun k hk=>?_) ?_).trans ?_
 ·obtain ⟨x,hx⟩:=qcU hk
  have hm:=List.mem_of_getElem? hx
  have h1:=qiv (h.name x hm)
  have h2:=h.rules x hm
  have:=fl k
  have fl2:=fun j=>qjw (fun r=>qid r ++ [10]) 4081 x.Rules j (fun r hr=>by have:=qkC (h.rl x hm r hr).1 (h.next hm hr); simp; omega)
  simp only [qgv,dk hk,cond_true,ixg hx,Option.bind_some,qbW]
  rw [cat1 (by simp; omega)]
  simp only [Option.bind_some]
  rw [cat1 (by simp; omega)]
  simp only [Option.bind_some]
  rw [wstr (by simp [-List.length_flatMap]; omega)]
  simp only [Option.bind_some,qbW]
  refine (qeo (fun j:Nat=>((j:Int),bld ((s.take k).flatMap qhm ++ ([115,116,97,116,101,32] ++ x.Name ++ [10]) ++ (x.Rules.take j).flatMap (fun r=>qid r ++ [10])))) x.Rules.length (bld ((s.take (k + 1)).flatMap qhm)) (by simp) (by omega) (fun j hj=>?_) ?_).trans ?_
  ·obtain ⟨r,hr⟩:=qcU hj
   have hrm:=List.mem_of_getElem? hr
   have hll:=qkC (h.rl x hm r hrm).1 (h.next hm hrm)
   have:=fl2 j
   simp only [qgk,dk hj,cond_true,ixg hr,Option.bind_some,qbW]
   rw [qoo (h.rl x hm r hrm).1 (h.next hm hrm) (hb x hm r hrm) hN]
   simp only [Option.bind_some]
   rw [cat1 (by simp; omega)]
   simp only [Option.bind_some]
   rw [wstr (by simp [-List.length_flatMap]; omega)]
   simp only [Option.bind_some,qbW]
   rw [← qh1 (fun r=>qid r ++ [10]) hr]
   simp
  ·simp only [qgk,dn,cond_false,qbW,List.take_length]
   rw [← qh1 qhm hx]
   simp [qhm]
  ·rfl
 ·simp only [qgv,dn,cond_false,qbW,List.take_length]
  rfl
 ·simp only [bld,qiH]
end Go.Proofs.YtllfckekodcdaaaGreatDoor
namespace Go.Proofs.YtllfckekodcdaaaGreatDoor
open Go.X
def qcl (o:Option Bool) (P:Prop):Prop:=∃ b,o = some b ∧ (b = true ↔ P)
theorem qcl.yes {o:Option Bool} {P:Prop} (h:o = some true) (p:P):qcl o P:=⟨true,h,by simp [p]⟩
theorem qcl.no {o:Option Bool} {P:Prop} (h:o = some false) (p:¬P):qcl o P:=⟨false,h,by simp [p]⟩
theorem qcl.iff {o:Option Bool} {P Q:Prop} (h:qcl o P) (e:P ↔ Q):qcl o Q:=by obtain ⟨b,h1,h2⟩:=h; exact ⟨b,h1,h2.trans e⟩
theorem qcl.same {o o':Option Bool} {P:Prop} (h:qcl o P) (h':qcl o' P):o = o':=by
 obtain ⟨b,h1,h2⟩:=h
 obtain ⟨b',h3,h4⟩:=h'
 rw [h1,h3]
 cases b <;> cases b' <;> simp_all
theorem qcl.dec {P:Prop} [Decidable P]:qcl (some (decide P)) P:=⟨_,rfl,by simp⟩
theorem qcl.cases {o:Option Bool} {P:Prop} (h:qcl o P):(o = some true ∧ P) ∨ (o = some false ∧ ¬P):=by
 obtain ⟨b,h1,h2⟩:=h
 cases b with
 | true=>exact .inl ⟨h1,h2.1 rfl⟩
 | false=>exact .inr ⟨h1,fun p=>by simpa using h2.2 p⟩
theorem qfr {α:Type} {body:Int → Option (Int ⊕ (Unit ⊕ Bool))} (P:α → Prop) (xs:List α) {N:Nat} (hN:xs.length < N)
  (h1:∀ (k:Nat) x,xs[k]? = some x → (P x ∧ body k = some (.inl ((k:Int) + 1))) ∨ (¬P x ∧ body k = some (.inr (.inr false)))) (h2:body xs.length = some (.inr (.inl ()))) :
  (iter body N 0 = some (.inl ()) ∧ ∀ x ∈ xs,P x) ∨ (iter body N 0 = some (.inr false) ∧ ¬∀ x ∈ xs,P x):=by
 classical
 have h:=qmO (body:=body) (fun x=>decide (P x)) xs (fun k x hx=>by
  rcases h1 k x hx with ⟨p,h⟩ | ⟨p,h⟩
  ·rw [h]; simp [p]
  ·rw [h]; simp [p]) h2 N hN
 by_cases hp:∀ x ∈ xs,P x
 ·refine .inl ⟨?_,hp⟩
  rw [h,if_pos (by simpa using hp)]
 ·refine .inr ⟨?_,hp⟩
  rw [h,if_neg (by simpa using hp)]
theorem qqj {σ β:Type} {body:σ → Option (σ ⊕ β)} (I:Nat → σ → Prop) (n:Nat) (Q:β → Prop) (hs:∀ i s,i < n → I i s → (∃ s',body s = some (.inl s') ∧ I (i + 1) s') ∨ ∃ b,body s = some (.inr b) ∧ Q b) (hd:∀ s,I n s → ∃ b,body s = some (.inr b) ∧ Q b) :
  ∀ N s,n < N → I 0 s → ∃ b,iter body N s = some b ∧ Q b:=by
 have key:∀ j k N s,k + j = n → j < N → I k s → ∃ b,iter body N s = some b ∧ Q b:=by
  intro j
  induction j with
  | zero =>
   intro k N s hk hN hI
   obtain ⟨N,rfl⟩:∃ M,N = M + 1:=⟨N - 1,by omega⟩
   have:k = n:=by omega
   subst this
   obtain ⟨b,h1,h2⟩:=hd s hI
   exact ⟨b,by simp only [iter,h1],h2⟩
  | succ j ih =>
   intro k N s hk hN hI
   obtain ⟨N,rfl⟩:∃ M,N = M + 1:=⟨N - 1,by omega⟩
   rcases hs k s (by omega) hI with ⟨s',h1,h2⟩ | ⟨b,h1,h2⟩
   ·simp only [iter,h1]
    exact ih (k + 1) N s' (by omega) (by omega) h2
   ·exact ⟨b,by simp only [iter,h1],h2⟩
 exact fun N s hN hI=>key n 0 N s (by omega) hN hI
theorem idxf {α:Type} {body:Int → Option (Int ⊕ (Unit ⊕ Int))} (xs:List α) (p:α → Bool) {N:Nat} (hN:xs.length < N)
  (h1:∀ (k:Nat) x,xs[k]? = some x → body k = some (if p x then .inr (.inr k) else .inl ((k:Int) + 1))) (h2:body xs.length = some (.inr (.inl ()))) :
  ((iter body N 0).bind fun o=>Sum.elim (fun _=>some (-1:Int)) (fun o=>some o) o) = some (match xs.findIdx? p with | some k=>(k:Int) | none=>-1):=by
 rw [qqL xs p h1 h2 N hN]; exact qrs xs p
theorem qro {w:Str}:Sum.elim (fun _:Unit=>bif (decide ((w.length:Int) ≥ 1)) then some (decide ((w.length:Int) ≤ 16)) else some false) (fun o2:Bool=>some o2) (if w.all (fun c=>decide (97 ≤ c.toNat ∧ c.toNat ≤ 122)) then .inl () else .inr false) = some (word w):=by
 unfold word
 by_cases h:w.all (fun c=>decide (97 ≤ c.toNat ∧ c.toNat ≤ 122)) = true
 ·rw [if_pos h,h]
  simp only [Sum.elim_inl,Bool.true_and]
  by_cases h1:1 ≤ w.length
  ·rw [decide_eq_true (show (w.length:Int) ≥ 1 by omega),decide_eq_true h1,cond_true,Bool.true_and]
   congr 1
   exact decide_eq_decide.2 (by omega)
  ·rw [decide_eq_false (show ¬(w.length:Int) ≥ 1 by omega),decide_eq_false h1]; rfl
 ·rw [if_neg h]
  simp only [Bool.not_eq_true] at h
  rw [h]; rfl
theorem qqA {w:Str} {k:Nat} {c:UInt8} (hc:w[k]? = some c):(bif (decide ((k:Int) < (w.length:Int))) then
  (idx w k).bind fun c7 =>
  bif (decide ((c7.toNat:Int) < 97)) then
   some (.inr (.inr false))
  else
   (idx w k).bind fun c10 =>
   bif (decide ((c10.toNat:Int) > 122)) then
    some (.inr (.inr false))
   else
    some (.inl ((k:Int) + 1))
 else
  some (.inr (.inl ())):Option (Int ⊕ (Unit ⊕ Bool))) = some (if decide (97 ≤ c.toNat ∧ c.toNat ≤ 122) then .inl ((k:Int) + 1) else .inr (.inr false)):=by
 simp only [dk (qjE hc),cond_true,ixg hc,Option.bind_some]
 by_cases h1:c.toNat < 97
 ·rw [decide_eq_true (show (c.toNat:Int) < 97 by omega),if_neg (by simp; omega)]; rfl
 ·rw [decide_eq_false (show ¬(c.toNat:Int) < 97 by omega)]
  by_cases h2:122 < c.toNat
  ·rw [decide_eq_true (show (c.toNat:Int) > 122 by omega),if_neg (by simp; omega)]; rfl
  ·rw [decide_eq_false (show ¬(c.toNat:Int) > 122 by omega),if_pos (by simp; omega)]; rfl
theorem qir {N:Nat} {w:Str} (hN:w.length < N):qgi N w = some (word w):=by
 unfold qgi
 rw [qmO (fun c:UInt8=>decide (97 ≤ c.toNat ∧ c.toNat ≤ 122)) w (fun k c hc=>qqA hc) (by simp only [qg9,dn,cond_false]) N hN]
 exact qro
theorem lenb (n m:Nat):decide ((n:Int) ≤ (m:Int)) = decide (n ≤ m):=decide_eq_decide.2 (by omega)
theorem leng (n m:Nat):decide ((n:Int) ≥ (m:Int)) = decide (m ≤ n):=decide_eq_decide.2 (by omega)
theorem len0 {α:Type} (l:List α):((l.length:Int) == 0) = decide (l = []):=by
 cases l with
 | nil=>rfl
 | cons x l=>simp [beqd]; omega
theorem neN (w:Str):(w != ([]:Str)) = !decide (w = []):=by cases w <;> simp
theorem qmm {N:Nat} {x:Item} (hN:x.Ranges.length < N):qcl (qgO N x) (ItP x):=by
 unfold qgO
 rw [qoY]
 simp only [Option.bind_some]
 by_cases hm:qje x
 ·rw [decide_eq_true hm]
  simp only [Bool.not_true,cond_false,neN,len0]
  unfold ItP
  by_cases h0:x.Text = []
  ·rw [if_pos h0,decide_eq_true h0]
   simp only [Bool.not_true,cond_false]
   rw [show (1:Int) = ((1:Nat):Int) from rfl,show (20:Int) = ((20:Nat):Int) from rfl,leng,lenb]
   by_cases h1:1 ≤ x.Ranges.length
   ·by_cases h2:x.Ranges.length ≤ 20
    ·rw [decide_eq_true h1,decide_eq_true h2]
     simp only [cond_true]
     have e:qbu N x.Ranges = some (x.Ranges.any fun g=>decide (g.From > g.To)):=by
      unfold qbu qbN
      have st:∀ (k:Nat) g,x.Ranges[k]? = some g → qbg N x.Ranges k = some (if decide (g.From > g.To) then .inr (.inr (k:Int)) else .inl ((k:Int) + 1)):=fun k g hg=>by
       simp only [qbg,dk (qjE hg),cond_true,ixg hg,Option.bind_some,qgV]
       by_cases hd:g.From > g.To
       ·rw [decide_eq_true hd]; rfl
       ·rw [decide_eq_false hd]; rfl
      rw [idxf x.Ranges (fun g=>decide (g.From > g.To)) hN st (by simp only [qbg,dn,cond_false])]
      exact congrArg some (qmL _ _)
     rw [e]
     refine ⟨_,rfl,?_⟩
     simp [hm,h1,h2]
    ·rw [decide_eq_true h1,decide_eq_false h2]
     exact .no rfl (fun h=>h2 h.2.1.2)
   ·rw [decide_eq_false h1]
    exact .no rfl (fun h=>h1 h.2.1.1)
  ·rw [if_neg h0,decide_eq_false h0]
   simp only [Bool.not_false,cond_true]
   rw [show (40:Int) = ((40:Nat):Int) from rfl,lenb]
   by_cases h1:x.Text.length ≤ 40
   ·rw [decide_eq_true h1]
    simp only [cond_true]
    by_cases h2:x.Ranges = []
    ·rw [decide_eq_true h2]
     refine ⟨_,rfl,?_⟩
     simp [hm,h1,h2]
    ·rw [decide_eq_false h2]
     exact .no rfl (fun h=>h2 h.2.2.1)
   ·rw [decide_eq_false h1]
    exact .no rfl (fun h=>h1 h.2.1)
 ·rw [decide_eq_false hm]
  exact .no rfl (fun h=>hm h.1)
theorem qot {N:Nat} {l:List Item} (hN:SzL N l):qcl ((qa6 N l).bind fun r12=>some (!r12)) (∀ x ∈ l,ItP x):=by
 classical
 have e:qa6 N l = some (l.any fun x=>decide (¬ItP x)):=by
  unfold qa6 qbT
  have st:∀ (k:Nat) x,l[k]? = some x → qbj N l k = some (if decide (¬ItP x) then .inr (.inr (k:Int)) else .inl ((k:Int) + 1)):=fun k x hx=>by
   simp only [qbj,dk (qjE hx),cond_true,ixg hx,Option.bind_some,qha]
   rcases (qmm (hN.2 x (List.mem_of_getElem? hx)).2).cases with ⟨h,p⟩ | ⟨h,p⟩
   ·rw [h]; simp [p]
   ·rw [h]; simp [p]
  rw [idxf l (fun x=>decide (¬ItP x)) hN.1 st (by simp only [qbj,dn,cond_false])]
  exact congrArg some (qmL _ _)
 rw [e]
 refine ⟨_,rfl,?_⟩
 simp
theorem qm6 {N:Nat} {r:Rule} (hN:SzR N r):qcl (qhj N r) (RlP r ∧ (r.Next = [] ∨ word r.Next = true)):=by
 unfold qhj
 have hi:=qot hN.2.2
 have e1:(1:Int) = ((1:Nat):Int):=rfl
 have e2:(20:Int) = ((20:Nat):Int):=rfl
 rw [qir hN.1,qir hN.2.1]
 simp only [Option.bind_some]
 rw [e1,e2,leng,lenb]
 have fin:∀ (P:Prop),P → (P ↔ (r.Next = [] ∨ word r.Next = true)) → word r.Kind = true → qcl (bif decide (1 ≤ r.Items.length) then bif decide (r.Items.length ≤ 20) then (qa6 N r.Items).bind fun r12=>some (!r12) else some false else some false) (RlP r ∧ (r.Next = [] ∨ word r.Next = true)):=fun P p hP hk=>by
  by_cases h1:1 ≤ r.Items.length
  ·by_cases h2:r.Items.length ≤ 20
   ·rw [decide_eq_true h1,decide_eq_true h2]
    simp only [cond_true]
    exact hi.iff ⟨fun h=>⟨⟨hk,⟨h1,h2⟩,h⟩,hP.1 p⟩,fun h=>h.1.2.2⟩
   ·rw [decide_eq_true h1,decide_eq_false h2]
    exact .no rfl (fun h=>h2 h.1.2.1.2)
  ·rw [decide_eq_false h1]
   exact .no rfl (fun h=>h1 h.1.2.1.1)
 cases hk:word r.Kind with
 | false=>exact .no rfl (fun h=>by have:=h.1.1; rw [hk] at this; cases this)
 | true =>
  simp only [cond_true]
  by_cases h0:r.Next = []
  ·have e:(r.Next == ([]:Str)) = true:=by simp [h0]
   rw [e]
   exact fin _ h0 ⟨fun h=>.inl h,fun _=>h0⟩ hk
  ·have e:(r.Next == ([]:Str)) = false:=by simpa using h0
   rw [e]
   simp only [cond_false]
   have hw0:word r.Next = true ∨ word r.Next = false:=by cases word r.Next <;> simp
   rcases hw0.symm with hw | hw
   ·rw [hw]; exact .no rfl (fun h=>by rcases h.2 with h | h; exact h0 h; cases h)
   ·have f:=fin (word r.Next = true) hw ⟨fun h=>.inr h,fun h=>h.resolve_left h0⟩ hk
    rw [hw] at f ⊢
    exact f
theorem qn0 {s:List State} {n:Str}:mget (s.map fun x=>(x.Name,true)) n = if n ∈ s.map State.Name then some true else none:=by
 induction s with
 | nil=>rfl
 | cons x s ih =>
  simp only [List.map_cons,mget,List.find?_cons,List.mem_cons] at ih ⊢
  by_cases h:n = x.Name
  ·subst h; simp
  ·have:(n == x.Name) = false:=by simpa using h
   simp only [this,h,false_or]
   exact ih
theorem qq1 {s:List State} {n:Str} (h:n ∉ s.map State.Name) (hl:s.length ≤ 100):mset (s.map fun x=>(x.Name,true)) n true = some (s.map (fun x=>(x.Name,true)) ++ [(n,true)]):=by
 unfold mset
 rw [if_pos (by unfold LIM; simp; omega),qlr]
 intro p hp e
 obtain ⟨x,hx,rfl⟩:=List.mem_map.1 hp
 exact h (List.mem_map.2 ⟨x,hx,e⟩)
def A1 (s:List State):Prop:=(∀ x ∈ s,word x.Name = true ∧ 1 ≤ x.Rules.length ∧ x.Rules.length ≤ 40) ∧ (s.map State.Name).Nodup
def A2 (s:List State):Prop:=∀ x ∈ s,∀ r ∈ x.Rules,RlP r ∧ (r.Next = [] ∨ r.Next ∈ s.map State.Name)
theorem qlR {s:List State}:Vs s ↔ (1 ≤ s.length ∧ s.length ≤ 20) ∧ A1 s ∧ A2 s :=
 ⟨fun h=>⟨h.len,⟨fun x hx=>⟨h.name x hx,h.rules x hx⟩,h.nd⟩,h.rl⟩,fun ⟨h1,h2,h3⟩=>⟨h1,fun x hx=>(h2.1 x hx).1,fun x hx=>(h2.1 x hx).2,h3,h2.2⟩⟩
theorem A1.take {s:List State} {k:Nat} {x:State} (hx:s[k]? = some x):A1 (s.take (k + 1)) ↔ A1 (s.take k) ∧ (word x.Name = true ∧ 1 ≤ x.Rules.length ∧ x.Rules.length ≤ 40) ∧ x.Name ∉ (s.take k).map State.Name:=by
 unfold A1
 rw [← qfA hx]
 simp only [List.mem_append,List.mem_singleton,List.map_append,List.map_cons,List.map_nil,List.nodup_append]
 constructor
 ·rintro ⟨h1,h2,_,h3⟩
  exact ⟨⟨fun y hy=>h1 y (.inl hy),h2⟩,h1 x (.inr rfl),fun h=>h3 _ h _ rfl rfl⟩
 ·rintro ⟨⟨h1,h2⟩,h3,h4⟩
  refine ⟨fun y hy=>?_,h2,by simp,fun a ha b hb e=>?_⟩
  ·rcases hy with hy | rfl
   ·exact h1 y hy
   ·exact h3
  ·subst hb; subst e; exact h4 ha
theorem A1.sub {s:List State} (k:Nat) (h:A1 s):A1 (s.take k) :=
 ⟨fun x hx=>h.1 x (List.mem_of_mem_take hx),h.2.sublist ((List.take_sublist _ _).map _)⟩
theorem qpg {N:Nat} {s:List State} (hs:Sz N s) (hl:s.length ≤ 20) :
  (iter (fun st:Int × List (Str × Bool)=>qdE N s st.1 st.2) N (0,[]) = some (.inl (s.map fun x=>(x.Name,true))) ∧ A1 s) ∨ (iter (fun st:Int × List (Str × Bool)=>qdE N s st.1 st.2) N (0,[]) = some (.inr false) ∧ ¬A1 s):=by
 obtain ⟨b,h1,h2⟩:=qqj (body:=fun st:Int × List (Str × Bool)=>qdE N s st.1 st.2) (fun i st=>st = ((i:Int),(s.take i).map fun x=>(x.Name,true)) ∧ A1 (s.take i)) s.length
  (fun b=>(b = .inl (s.map fun x=>(x.Name,true)) ∧ A1 s) ∨ (b = .inr false ∧ ¬A1 s)) (fun i st hi ⟨hst,hA⟩=>by
  subst hst
  obtain ⟨x,hx⟩:=qcU hi
  have hz:=hs.2 x (List.mem_of_getElem? hx)
  have bad:¬A1 (s.take (i + 1)) → ∃ b:List (Str × Bool) ⊕ Bool,(some (.inr (.inr false)):Option ((Int × List (Str × Bool)) ⊕ (List (Str × Bool) ⊕ Bool))) = some (.inr b) ∧ ((b = .inl (s.map fun x=>(x.Name,true)) ∧ A1 s) ∨ (b = .inr false ∧ ¬A1 s)):=fun h=>⟨_,rfl,.inr ⟨rfl,fun g=>h (g.sub _)⟩⟩
  rw [A1.take hx] at bad
  simp only [qdE,dk hi,cond_true,ixg hx,Option.bind_some,qir hz.1]
  cases hw:word x.Name with
  | false=>exact .inr (bad (fun h=>by have:=h.2.1.1; rw [hw] at this; cases this))
  | true =>
   simp only [Bool.not_true,cond_false,qn0]
   by_cases hm:x.Name ∈ (s.take i).map State.Name
   ·rw [if_pos hm]
    exact .inr (bad (fun h=>h.2.2 hm))
   ·rw [if_neg hm]
    simp only [Option.getD_none,cond_false]
    rw [show (1:Int) = ((1:Nat):Int) from rfl,show (40:Int) = ((40:Nat):Int) from rfl]
    by_cases h1:x.Rules.length < 1
    ·rw [decide_eq_true (by omega)]
     exact .inr (bad (fun h=>by have:=h.2.1.2.1; omega))
    ·rw [decide_eq_false (by omega)]
     by_cases h2:x.Rules.length > 40
     ·rw [decide_eq_true (by omega)]
      exact .inr (bad (fun h=>by have:=h.2.1.2.2; omega))
     ·rw [decide_eq_false (by omega)]
      simp only [cond_false]
      rw [qq1 hm (by simp; omega)]
      refine .inl ⟨_,rfl,?_,?_⟩
      ·rw [← qfA hx]; simp
      ·rw [A1.take hx]; exact ⟨hA,⟨hw,by omega,by omega⟩,hm⟩) (fun st ⟨hst,hA⟩=>by
  subst hst
  rw [List.take_length] at hA ⊢
  exact ⟨_,by simp only [qdE,dn,cond_false],.inl ⟨rfl,hA⟩⟩) N (0,[]) hs.1 ⟨by simp,by unfold A1; simp⟩
 rcases h2 with ⟨rfl,h⟩ | ⟨rfl,h⟩
 ·exact .inl ⟨h1,h⟩
 ·exact .inr ⟨h1,h⟩
theorem qpI {N:Nat} {s:List State} (hA:A1 s) {x:State} (hx:SzS N x) :
  (iter (fun st=>qd3 N (s.map fun x=>(x.Name,true)) x st) N 0 = some (.inl ()) ∧ ∀ r ∈ x.Rules,RlP r ∧ (r.Next = [] ∨ r.Next ∈ s.map State.Name)) ∨ (iter (fun st=>qd3 N (s.map fun x=>(x.Name,true)) x st) N 0 = some (.inr false) ∧ ¬∀ r ∈ x.Rules,RlP r ∧ (r.Next = [] ∨ r.Next ∈ s.map State.Name)):=by
 have hw:∀ n ∈ s.map State.Name,word n = true:=fun n hn=>by
  obtain ⟨y,hy,rfl⟩:=List.mem_map.1 hn
  exact (hA.1 y hy).1
 refine qfr (fun r:Rule=>RlP r ∧ (r.Next = [] ∨ r.Next ∈ s.map State.Name)) x.Rules hx.2.1 (fun k r hr=>?_) (by simp only [qd3,dn,cond_false])
 simp only [qd3,dk (qjE hr),cond_true,ixg hr,Option.bind_some,neN]
 rcases (qm6 (hx.2.2 r (List.mem_of_getElem? hr))).cases with ⟨h,p⟩ | ⟨h,p⟩
 ·rw [h]
  simp only [Option.bind_some,Bool.not_true,cond_false]
  by_cases h0:r.Next = []
  ·rw [decide_eq_true h0]
   exact .inl ⟨⟨p.1,.inl h0⟩,rfl⟩
  ·rw [decide_eq_false h0]
   simp only [Bool.not_false,cond_true,qn0]
   by_cases hm:r.Next ∈ s.map State.Name
   ·rw [if_pos hm]
    exact .inl ⟨⟨p.1,.inr hm⟩,rfl⟩
   ·rw [if_neg hm]
    exact .inr ⟨fun h=>by rcases h.2 with h | h; exact h0 h; exact hm h,rfl⟩
 ·rw [h]
  refine .inr ⟨fun q=>p ⟨q.1,?_⟩,rfl⟩
  rcases q.2 with h | h
  ·exact .inl h
  ·exact .inr (hw _ h)
theorem qpa {N:Nat} {s:List State} (hA:A1 s) (hs:Sz N s) :
  (iter (fun st=>qd2 N s (s.map fun x=>(x.Name,true)) st) N 0 = some (.inl ()) ∧ A2 s) ∨ (iter (fun st=>qd2 N s (s.map fun x=>(x.Name,true)) st) N 0 = some (.inr false) ∧ ¬A2 s):=by
 refine qfr (fun x:State=>∀ r ∈ x.Rules,RlP r ∧ (r.Next = [] ∨ r.Next ∈ s.map State.Name)) s hs.1 (fun k x hx=>?_) (by simp only [qd2,dn,cond_false])
 simp only [qd2,dk (qjE hx),cond_true,ixg hx,Option.bind_some]
 rcases qpI hA (hs.2 x (List.mem_of_getElem? hx)) with ⟨h,p⟩ | ⟨h,p⟩
 ·rw [h]; exact .inl ⟨p,rfl⟩
 ·rw [h]; exact .inr ⟨p,rfl⟩
def Vl (s:List State):Prop:=Vs s ∧ (qpd s).length ≤ 8000
def SbS (s:List State):Prop:=∀ x ∈ s,∀ r ∈ x.Rules,∀ y ∈ r.Items,InB y
theorem ScOk.sb {s:List State} (h:ScOk s):SbS s:=fun x hx r hr y hy=>(((h.2 x hx).2.2 r hr).2.1.2 y hy).2.1.2
theorem qjW {N:Nat} {s:List State} (hs:Sz N s) (hb:SbS s) (hN:100 ≤ N):qcl (qgE N s) (Vl s):=by
 unfold qgE
 by_cases h1:s.length < 1
 ·rw [decide_eq_true (by omega)]
  exact .no rfl (fun h=>by have:=h.1.len; omega)
 rw [decide_eq_false (by omega)]
 by_cases h2:s.length > 20
 ·rw [decide_eq_true (by omega)]
  exact .no rfl (fun h=>by have:=h.1.len; omega)
 rw [decide_eq_false (by omega)]
 simp only [cond_false]
 rcases qpg hs (by omega) with ⟨h,hA⟩ | ⟨h,hA⟩
 ·rw [h]
  simp only [Option.bind_some,Sum.elim_inl]
  rcases qpa hA hs with ⟨h,hB⟩ | ⟨h,hB⟩
  ·rw [h]
   simp only [Option.bind_some,Sum.elim_inl]
   have hv:Vs s:=qlR.2 ⟨by omega,hA,hB⟩
   rw [qnV hv hb hN]
   simp only [Option.bind_some]
   rw [show (8000:Int) = ((8000:Nat):Int) from rfl,lenb]
   exact qcl.dec.iff ⟨fun h=>⟨hv,h⟩,fun h=>h.2⟩
  ·rw [h]
   exact .no rfl (fun h=>hB (qlR.1 h.1).2.2)
 ·rw [h]
  exact .no rfl (fun h=>hA (qlR.1 h.1).2.1)
def fst (s:List State) (n:Str):Int:=match s.findIdx? (fun y=>y.Name == n) with | some k=>(k:Int) | none=>-1
theorem qsj {s:List State} {n:Str}:(fst s n < 0) ↔ n ∉ s.map State.Name:=by
 unfold fst
 cases h:s.findIdx? (fun y=>y.Name == n) with
 | none =>
  have:=List.findIdx?_eq_none_iff.1 h
  refine ⟨fun _ hm=>?_,fun _=>by decide⟩
  obtain ⟨y,hy,e⟩:=List.mem_map.1 hm
  have:=this y hy
  simp [e] at this
 | some k =>
  obtain ⟨hk,h1,_⟩:=List.findIdx?_eq_some_iff_getElem.1 h
  refine ⟨fun h=>by simp only at h; omega,fun hm=>absurd (List.mem_map.2 ⟨s[k],List.getElem_mem hk,by simpa using h1⟩) hm⟩
end Go.Proofs.YtllfckekodcdaaaGreatDoor
namespace Go.Proofs.YtllfckekodcdaaaGreatDoor
open Go.X
def qgT (x:Item) (c:Nat):Bool:=x.Not != x.Ranges.any (fun g=>decide (g.From ≤ (c:Int)) && decide ((c:Int) ≤ g.To))
def hit (x:Item) (s:Str):Option Nat :=
 if x.Text = [] then (match s with | []=>none | c :: _=>if qgT x c.toNat then some 1 else none)
 else if x.Text.isPrefixOf s then some x.Text.length else none
def run (x:Item):Nat → Str → Nat → Nat × Nat
 | 0,_,c=>(0,c)
 | f + 1,s,c=>if x.Most < 0 ∨ (c:Int) < x.Most then (match hit x s with | some k=>(k + (run x f (s.drop k) (c + 1)).1,(run x f (s.drop k) (c + 1)).2) | none=>(0,c)) else (0,c)
def runs:List Item → Str → Option Nat
 | [],_=>some 0
 | x :: l,s=>if ((run x (s.length + 1) s 0).2:Int) < x.Least then none else (runs l (s.drop (run x (s.length + 1) s 0).1)).map ((run x (s.length + 1) s 0).1 + ·)
def qcz (x:Item):Option (List Bool):=if x.Text = [] then some ((List.range 256).map (qgT x)) else none
theorem qpV {x:Item} {s:Str} {k:Nat} (h:hit x s = some k):1 ≤ k ∧ k ≤ s.length:=by
 unfold hit at h
 split at h
 ·cases s with
  | nil=>cases h
  | cons c s =>
   simp only at h
   split at h
   ·cases h; simp
   ·cases h
 ·rename_i h0
  split at h
  ·rename_i hp
   cases h
   have:=(List.isPrefixOf_iff_prefix.1 hp).length_le
   exact ⟨List.length_pos_iff.2 h0,this⟩
  ·cases h
theorem qqv (x:Item):∀ (f:Nat) (s:Str) (c:Nat),(run x f s c).1 ≤ s.length:=by
 intro f
 induction f with
 | zero=>intro s c; simp [run]
 | succ f ih =>
  intro s c
  unfold run
  split
  ·cases h:hit x s with
   | none=>simp
   | some k =>
    have h1:=qpV h
    have h2:=ih (s.drop k) (c + 1)
    simp only [List.length_drop] at h2 ⊢
    omega
  ·simp
theorem qoZ:∀ (l:List Item) (s:Str) (n:Nat),runs l s = some n → n ≤ s.length:=by
 intro l
 induction l with
 | nil=>intro s n h; simp [runs] at h; omega
 | cons x l ih =>
  intro s n h
  unfold runs at h
  split at h
  ·cases h
  ·cases hr:runs l (s.drop (run x (s.length + 1) s 0).1) with
   | none=>rw [hr] at h; cases h
   | some m =>
    rw [hr] at h
    have h1:=ih _ _ hr
    have h2:=qqv x (s.length + 1) s 0
    simp only [Option.map_some,Option.some.injEq] at h
    simp only [List.length_drop] at h1
    omega
theorem qsV {c:Nat} (h:c < 256):IntKind.wrap .u8 (c:Int) = (c:Int):=qfj (qkA.2 ⟨by omega,by omega⟩)
theorem qop {N:Nat} {x:Item} {c:Nat} (hc:c < 256) (hN:x.Ranges.length < N):qbq N x.Ranges (c:Int) = some (x.Ranges.any (fun g=>decide (g.From ≤ (c:Int)) && decide ((c:Int) ≤ g.To))):=by
 unfold qbq qbL
 rw [idxf x.Ranges (fun g:Range=>decide (g.From ≤ (c:Int)) && decide ((c:Int) ≤ g.To)) hN (fun k g hg=>by
  simp only [qbs,dk (qjE hg),cond_true,ixg hg,Option.bind_some,qhk,qsV hc,ge_iff_le]
  cases decide (g.From ≤ (c:Int)) <;> cases decide ((c:Int) ≤ g.To) <;> rfl) (by simp only [qbs,dn,cond_false])]
 rw [Option.bind_some]
 exact congrArg some (qmL _ _)
theorem qom {α:Type} {l r:List α} {k:Nat} (h:l.length = k) (y z:α):setI (l ++ y :: r) (k:Int) z = some (l ++ z :: r):=by
 unfold setI
 subst h
 rw [if_pos (by simp)]
 simp
theorem qmZ {α:Type} (z:α) {k n:Nat} (h:k < n):List.replicate (n - k) z = z :: List.replicate (n - (k + 1)) z:=by
 rw [show n - k = (n - (k + 1)) + 1 by omega,List.replicate_succ]
theorem qnh {N:Nat} {x:Item} (hN:x.Ranges.length < N) (h2:300 ≤ N):qhd N x = some (some ((List.range 256).map (qgT x))):=by
 unfold qhd
 refine (qeo (fun k:Nat=>((k:Int),(List.range k).map (qgT x) ++ List.replicate (256 - k) false)) 256 ((List.range 256).map (qgT x)) rfl (by omega) (fun k hk=>?_) ?_).trans rfl
 ·have e:decide ((k:Int) < 256) = true:=decide_eq_true (by omega)
  simp only [qfN,e,cond_true,qop hk hN,Option.bind_some]
  rw [qmZ false hk,ix]
  have hl:((List.range k).map (qgT x)).length = k:=by simp
  rw [List.getElem?_append_right (by omega),hl,Nat.sub_self]
  simp only [List.getElem?_cons_zero,Option.bind_some]
  rw [qom hl]
  simp only [Option.bind_some,List.range_succ,List.map_append,List.append_assoc]
  rfl
 ·simp [qfN]
theorem qlT {N:Nat} {l:List Item} (hs:SzL N l) (h2:300 ≤ N) (hl:l.length ≤ 1000000):qgu N l = some (l.map qcz):=by
 unfold qgu
 unfold Go.X.mk
 rw [if_pos (by unfold LIM; omega)]
 simp only [Option.bind_some,Int.toNat_natCast]
 refine (qeo (fun k:Nat=>((k:Int),(l.take k).map qcz ++ List.replicate (l.length - k) none)) l.length (l.map qcz) (by simp) hs.1 (fun k hk=>?_) ?_).trans rfl
 ·obtain ⟨x,hx⟩:=qcU hk
  simp only [qe3,dk hk,cond_true,ixg hx,Option.bind_some]
  have hl:((l.take k).map qcz).length = k:=by simp; omega
  rw [qmZ none hk,← qfA hx]
  by_cases h0:x.Text = []
  ·have e:(x.Text == ([]:Str)) = true:=by rw [h0]; rfl
   rw [e]
   simp only [cond_true,qnh (hs.2 x (List.mem_of_getElem? hx)).2 h2,Option.bind_some]
   rw [ix,List.getElem?_append_right (by omega),hl,Nat.sub_self]
   simp only [List.getElem?_cons_zero,Option.bind_some]
   rw [qom hl]
   simp [qcz,h0]
  ·have e:(x.Text == ([]:Str)) = false:=by simpa using h0
   rw [e]
   simp [qcz,h0]
 ·simp [qe3]
theorem qhF {α:Type} {s:List α} {n:Nat} (h:n ≤ s.length):slc s (n:Int) (s.length:Int) = some (s.drop n):=by
 unfold slc
 rw [if_pos (by omega)]
 congr 1
 rw [Int.toNat_natCast,List.take_of_length_le]
 simp only [List.length_drop]
 omega
theorem qmx {α:Type} {s:List α} {a b:Nat} (h:a + b ≤ s.length):slc s (a:Int) ((a:Int) + (b:Int)) = some ((s.drop a).take b):=by
 unfold slc
 rw [if_pos (by omega)]
 congr 2
 omega
theorem qga {n:Nat} (h:n ≤ 1000000000):IntKind.wrap .i64 (n:Int) = (n:Int):=qfj (qda.2 ⟨by omega,by omega⟩)
theorem qsd {s:Str} {n:Nat} (h:n < s.length):∃ c,s[n]? = some c ∧ s.drop n = c :: s.drop (n + 1) :=
 ⟨s[n],List.getElem?_eq_getElem h,by rw [List.drop_eq_getElem_cons h]⟩
theorem qr2 (x:Item) (c:UInt8):idx ((List.range 256).map (qgT x)) (c.toNat:Int) = some (qgT x c.toNat):=by
 rw [ix]; simp [u8lt c]
theorem qpm {N:Nat} {x:Item} {s:Str} {n c:Nat} (hn:n ≤ s.length) (hl:s.length ≤ 1000000) (hc:c ≤ 1000000) :
  qeu N x (qcz x) s n c = some (if x.Most < 0 ∨ (c:Int) < x.Most then (match hit x (s.drop n) with | some k=>.inl (((n + k:Nat):Int),((c + 1:Nat):Int)) | none=>.inr (.inr ((n:Int),decide ((c:Int) ≥ x.Least)))) else .inr (.inl ((n:Int),(c:Int)))):=by
 have hw:IntKind.wrap .i64 ((c + 1:Nat):Int) = ((c + 1:Nat):Int):=qga (by omega)
 have hw2:((c:Int) + 1) = ((c + 1:Nat):Int):=by omega
 by_cases h0:x.Text = []
 ·have e:(x.Text == ([]:Str)) = true:=by rw [h0]; rfl
  have e2:(x.Text != ([]:Str)) = false:=by rw [h0]; rfl
  have hb:qcz x = some ((List.range 256).map (qgT x)):=by unfold qcz; rw [if_pos h0]
  have hh:hit x (s.drop n) = (match s.drop n with | []=>none | d :: _=>if qgT x d.toNat then some 1 else none):=by unfold hit; rw [if_pos h0]; cases s.drop n <;> rfl
  simp only [qeu,e,e2,cond_true,cond_false,hb,Option.bind_some,hw,hw2]
  have core:∀ (A:Option ((Int × Int) ⊕ ((Int × Int) ⊕ (Int × Bool)))),A = some (match hit x (s.drop n) with | some k=>.inl (((n + k:Nat):Int),((c + 1:Nat):Int)) | none=>.inr (.inr ((n:Int),decide ((c:Int) ≥ x.Least)))) → (x.Most < 0 ∨ (c:Int) < x.Most) → A = some (if x.Most < 0 ∨ (c:Int) < x.Most then (match hit x (s.drop n) with | some k=>.inl (((n + k:Nat):Int),((c + 1:Nat):Int)) | none=>.inr (.inr ((n:Int),decide ((c:Int) ≥ x.Least)))) else .inr (.inl ((n:Int),(c:Int)))):=fun A h g=>by rw [h,if_pos g]
  have inner:(bif decide ((n:Int) < (s.length:Int)) then
    (idx s n).bind fun c25=>(idx ((List.range 256).map (qgT x)) (c25.toNat:Int)).bind fun x37 =>
     bif x37 then some (.inl ((n:Int) + 1,((c + 1:Nat):Int))) else some (.inr (.inr ((n:Int),decide ((c:Int) ≥ x.Least))))
    else some (.inr (.inr ((n:Int),decide ((c:Int) ≥ x.Least)))):Option ((Int × Int) ⊕ ((Int × Int) ⊕ (Int × Bool)))) = some (match hit x (s.drop n) with | some k=>.inl (((n + k:Nat):Int),((c + 1:Nat):Int)) | none=>.inr (.inr ((n:Int),decide ((c:Int) ≥ x.Least)))):=by
   by_cases hlt:n < s.length
   ·obtain ⟨d,hd,hdr⟩:=qsd hlt
    rw [hh,hdr,decide_eq_true (by omega)]
    simp only [cond_true,ixg hd,Option.bind_some,qr2]
    cases qgT x d.toNat <;> rfl
   ·rw [hh,List.drop_of_length_le (by omega),decide_eq_false (by omega)]
    rfl
  by_cases hm:x.Most < 0
  ·rw [decide_eq_true hm]
   exact core _ inner (.inl hm)
  ·rw [decide_eq_false hm]
   by_cases hm2:(c:Int) < x.Most
   ·rw [decide_eq_true hm2]
    exact core _ inner (.inr hm2)
   ·rw [decide_eq_false hm2,if_neg (by omega)]
    rfl
 ·have e:(x.Text == ([]:Str)) = false:=by simpa using h0
  have e2:(x.Text != ([]:Str)) = true:=by simpa using h0
  have hh:hit x (s.drop n) = (if x.Text.isPrefixOf (s.drop n) then some x.Text.length else none):=by unfold hit; rw [if_neg h0]
  simp only [qeu,e,e2,cond_true,cond_false,qhF hn,Option.bind_some,hw,hw2,strings_HasPrefix,Lib.hasPrefix]
  have inner:(bif x.Text.isPrefixOf (s.drop n) then some (.inl (IntKind.wrap .i64 ((n:Int) + (x.Text.length:Int)),((c + 1:Nat):Int))) else some (.inr (.inr ((n:Int),decide ((c:Int) ≥ x.Least)))):Option ((Int × Int) ⊕ ((Int × Int) ⊕ (Int × Bool)))) = some (match hit x (s.drop n) with | some k=>.inl (((n + k:Nat):Int),((c + 1:Nat):Int)) | none=>.inr (.inr ((n:Int),decide ((c:Int) ≥ x.Least)))):=by
   rw [hh]
   cases hp:x.Text.isPrefixOf (s.drop n) with
   | true =>
    have:=(List.isPrefixOf_iff_prefix.1 hp).length_le
    simp only [List.length_drop] at this
    simp only [cond_true,if_true]
    rw [show (n:Int) + (x.Text.length:Int) = ((n + x.Text.length:Nat):Int) by omega,qga (by omega)]
   | false=>simp
  by_cases hm:x.Most < 0
  ·rw [decide_eq_true hm,if_pos (.inl hm)]
   exact inner
  ·rw [decide_eq_false hm]
   by_cases hm2:(c:Int) < x.Most
   ·rw [decide_eq_true hm2,if_pos (.inr hm2)]
    exact inner
   ·rw [decide_eq_false hm2,if_neg (by omega)]
    rfl
theorem qob {N:Nat} {x:Item} {s:Str} (hl:s.length ≤ 1000000) (hN:s.length + 1 ≤ N) :
  qhN N x (qcz x) s = some (((run x (s.length + 1) s 0).1:Int),decide (((run x (s.length + 1) s 0).2:Int) ≥ x.Least)):=by
 unfold qhN
 have key:∀ (f M n c:Nat),s.length - n < f → f ≤ M → n ≤ s.length → c ≤ n → ((iter (fun st:Int × Int=>qeu N x (qcz x) s st.1 st.2) M ((n:Int),(c:Int))).bind fun o9 =>
   Sum.elim (fun o9:Int × Int=>some (o9.1,(decide (o9.2 ≥ x.Least)))) (fun o9:Int × Bool=>some o9) o9) = some (((n + (run x f (s.drop n) c).1:Nat):Int),decide (((run x f (s.drop n) c).2:Int) ≥ x.Least)):=by
  intro f
  induction f with
  | zero=>intro M n c h; omega
  | succ f ih =>
   intro M n c hf hM hn hc
   obtain ⟨M,rfl⟩:∃ M',M = M' + 1:=⟨M - 1,by omega⟩
   have hb:=qpm (N:=N) (x:=x) (c:=c) hn hl (by omega)
   unfold run
   by_cases hm:x.Most < 0 ∨ (c:Int) < x.Most
   ·rw [if_pos hm] at hb ⊢
    cases hh:hit x (s.drop n) with
    | none =>
     rw [hh] at hb
     simp only [iter,hb,Option.bind_some,Sum.elim_inr]
     rfl
    | some k =>
     rw [hh] at hb
     have hk:=qpV hh
     simp only [List.length_drop] at hk
     simp only [iter,hb]
     have:=ih M (n + k) (c + 1) (by omega) (by omega) (by omega) (by omega)
     rw [this]
     simp only [List.drop_drop,Nat.add_assoc]
   ·rw [if_neg hm] at hb ⊢
    simp only [iter,hb,Option.bind_some,Sum.elim_inl]
    rfl
 have:=key (s.length + 1) N 0 0 (by omega) hN (by omega) (by omega)
 simpa using this
theorem qnf {N:Nat} {l:List Item} {s:Str} (hs:l.length < N) (hl:s.length ≤ 1000000) (hN:s.length + 1 ≤ N) :
  qhg N l (l.map qcz) s = some (match runs l s with | some n=>((n:Int),true) | none=>(0,false)):=by
 unfold qhg
 have key:∀ (j k M n:Nat),k + j = l.length → j < M → n ≤ s.length → ((iter (fun st:Int × Int=>qc4 N l (l.map qcz) s st.1 st.2) M ((n:Int),(k:Int))).bind fun o3 =>
   Sum.elim (fun o3:Int=>some (o3,true)) (fun o3:Int × Bool=>some o3) o3) = some (match runs (l.drop k) (s.drop n) with | some m=>(((n + m:Nat):Int),true) | none=>(0,false)):=by
  intro j
  induction j with
  | zero =>
   intro k M n hk hM hn
   obtain ⟨M,rfl⟩:∃ M',M = M' + 1:=⟨M - 1,by omega⟩
   obtain rfl:k = l.length:=by omega
   simp only [iter,qc4,dn,cond_false,Option.bind_some,Sum.elim_inl,List.drop_length,runs]
   rfl
  | succ j ih =>
   intro k M n hk hM hn
   obtain ⟨M,rfl⟩:∃ M',M = M' + 1:=⟨M - 1,by omega⟩
   have hkl:k < l.length:=by omega
   obtain ⟨x,hx⟩:=qcU hkl
   have hxe:l[k] = x:=by rw [List.getElem?_eq_getElem hkl] at hx; exact Option.some.inj hx
   have hb:idx (l.map qcz) (k:Int) = some (qcz x):=by rw [ix,List.getElem?_map,hx]; rfl
   have ht:=qob (N:=N) (x:=x) (s:=s.drop n) (by simp; omega) (by simp; omega)
   have hr:=qqv x ((s.drop n).length + 1) (s.drop n) 0
   rw [List.drop_eq_getElem_cons hkl,hxe]
   simp only [runs]
   generalize hg:run x ((s.drop n).length + 1) (s.drop n) 0 = g at ht hr ⊢
   simp only [List.length_drop] at hr
   by_cases hc:(g.2:Int) < x.Least
   ·have hbd:qc4 N l (l.map qcz) s n k = some (.inr (.inr (0,false))):=by
     simp only [qc4,dk hkl,cond_true,ixg hx,hb,Option.bind_some,qhF hn,ht]
     rw [decide_eq_false (by omega)]
     rfl
    simp only [iter,hbd,if_pos hc]
    rfl
   ·have hbd:qc4 N l (l.map qcz) s n k = some (.inl (((n + g.1:Nat):Int),((k + 1:Nat):Int))):=by
     simp only [qc4,dk hkl,cond_true,ixg hx,hb,Option.bind_some,qhF hn,ht]
     rw [decide_eq_true (by omega)]
     simp only [Bool.not_true,cond_false]
     rw [show (n:Int) + (g.1:Int) = ((n + g.1:Nat):Int) by omega,qga (by omega),show (k:Int) + 1 = ((k + 1:Nat):Int) by omega]
    simp only [iter,hbd,if_neg hc]
    have:=ih (k + 1) M (n + g.1) (by omega) (by omega) (by omega)
    rw [this,List.drop_drop]
    cases runs (l.drop (k + 1)) (s.drop (n + g.1)) with
    | none=>rfl
    | some m=>simp only [Option.map_some,Nat.add_assoc]
 have:=key l.length 0 N 0 (by omega) hs (by omega)
 simpa using this
def qeh:List Rule → Str → Option (Rule × Nat)
 | [],_=>none
 | r :: rs,t=>match runs r.Items t with | some n=>if n = 0 then qeh rs t else some (r,n) | none=>qeh rs t
theorem qoa:∀ {rs:List Rule} {t:Str} {r:Rule} {n:Nat},qeh rs t = some (r,n) → r ∈ rs ∧ 1 ≤ n ∧ n ≤ t.length:=by
 intro rs
 induction rs with
 | nil=>intro t r n h; cases h
 | cons q rs ih =>
  intro t r n h
  unfold qeh at h
  cases hr:runs q.Items t with
  | none =>
   rw [hr] at h
   obtain ⟨h1,h2⟩:=ih h
   exact ⟨List.mem_cons_of_mem _ h1,h2⟩
  | some m =>
   rw [hr] at h
   simp only at h
   split at h
   ·obtain ⟨h1,h2⟩:=ih h
    exact ⟨List.mem_cons_of_mem _ h1,h2⟩
   ·cases h
    exact ⟨List.mem_cons_self ..,by omega,qoZ _ _ _ hr⟩
def qka (s:List State) (st:Int) (r:Rule):Int:=if r.Next = [] then st else fst s r.Next
def prs:Nat → List State → List (Str × Int)
 | _,[]=>[]
 | k,x :: s=>(x.Name,(k:Int)) :: prs (k + 1) s
theorem qsg:∀ (k:Nat) (s:List State) (x:State),prs k (s ++ [x]) = prs k s ++ [(x.Name,((k + s.length:Nat):Int))]:=by
 intro k s
 induction s generalizing k with
 | nil=>intro x; simp [prs]
 | cons y s ih =>
  intro x
  simp only [List.cons_append,prs,ih,List.length_cons]
  rw [show k + 1 + s.length = k + (s.length + 1) by omega]
theorem qsP:∀ (k:Nat) (s:List State) (n:Str),mget (prs k s) n = (s.findIdx? (fun y=>y.Name == n)).map (fun i=>((k + i:Nat):Int)):=by
 intro k s
 induction s generalizing k with
 | nil=>intro n; rfl
 | cons y s ih =>
  intro n
  unfold mget at ih ⊢
  simp only [prs,List.find?_cons,List.findIdx?_cons]
  by_cases h:y.Name = n
  ·subst h; simp
  ·have e:(n == y.Name) = false:=by simpa using fun h'=>h h'.symm
   have e2:(y.Name == n) = false:=by simpa using h
   rw [e,e2]
   simp only [Bool.false_eq_true,if_false,ih,Option.map_map]
   congr 1
   funext i
   simp only [Function.comp]
   omega
theorem qsJ {k:Nat} {s:List State} {n:Str} (h:n ∉ s.map State.Name):∀ p ∈ prs k s,p.1 ≠ n:=by
 induction s generalizing k with
 | nil=>intro p hp; cases hp
 | cons y s ih =>
  intro p hp
  simp only [List.map_cons,List.mem_cons,not_or] at h
  rcases List.mem_cons.1 hp with rfl | hp
  ·exact fun e=>h.1 e.symm
  ·exact ih h.2 p hp
theorem qsG:∀ (k:Nat) (s:List State),(prs k s).length = s.length:=by
 intro k s
 induction s generalizing k with
 | nil=>rfl
 | cons y s ih=>simp [prs,ih]
def ltab (s:List State):List (List (List (Option (List Bool)))):=s.map fun x=>x.Rules.map fun r=>r.Items.map qcz
theorem qpO {l:List (Str × Int)} {n:Str} {v:Int} (h:∀ p ∈ l,p.1 ≠ n):mput l n v = l ++ [(n,v)]:=by
 induction l with
 | nil=>rfl
 | cons p l ih =>
  obtain ⟨a,b⟩:=p
  have e:(n == a) = false:=by simpa using fun h'=>h (a,b) (List.mem_cons_self ..) h'.symm
  unfold mput
  rw [e,ih fun q hq=>h q (List.mem_cons_of_mem _ hq)]
  rfl
theorem qps {N:Nat} {s:List State} (hs:Sz N s) (hv:Vs s) (hN:300 ≤ N):qgw N s = some (Lexer.mk s (ltab s) (prs 0 s)):=by
 unfold qgw
 refine (qeo (fun k:Nat=>((k:Int),Lexer.mk s (ltab (s.take k)) (prs 0 (s.take k)))) s.length (Lexer.mk s (ltab s) (prs 0 s)) rfl hs.1 (fun k hk=>?_) ?_).trans rfl
 ·obtain ⟨x,hx⟩:=qcU hk
  have hm:=List.mem_of_getElem? hx
  have hxe:s[k] = x:=by rw [List.getElem?_eq_getElem hk] at hx; exact Option.some.inj hx
  have hl:=hv.len
  have hr:=hv.rules x hm
  have hnot:x.Name ∉ (s.take k).map State.Name:=((A1.take hx).1 ((qlR.1 hv).2.1.sub (k + 1))).2.2
  simp only [qeJ,dk hk,cond_true,ixg hx,Option.bind_some]
  have hset:mset (prs 0 (s.take k)) x.Name (k:Int) = some (prs 0 (s.take (k + 1))):=by
   unfold mset
   rw [if_pos (by rw [qsG]; unfold LIM; simp; omega),qpO (qsJ hnot),← qfA hx,qsg]
   rw [show 0 + (s.take k).length = k by simp; omega]
  rw [hset]
  simp only [Option.bind_some]
  have hrow:iter (fun st:List (List (Option (List Bool))) × Int=>qdX N x st.1 st.2) N ([],0) = some (x.Rules.map fun r=>r.Items.map qcz):=by
   refine qjv (fun j:Nat=>((x.Rules.take j).map (fun r=>r.Items.map qcz),(j:Int))) x.Rules.length _ rfl (fun j hj=>?_) ?_ N (hs.2 x hm).2.1
   ·obtain ⟨r,hr'⟩:=qcU hj
    have hrm:=List.mem_of_getElem? hr'
    have hi:=(hv.rl x hm r hrm).1.2.1
    simp only [qdX,dk hj,cond_true,ixg hr',Option.bind_some]
    rw [qlT ((hs.2 x hm).2.2 r hrm).2.2 hN (by omega)]
    simp only [Option.bind_some]
    rw [app1 (by simp; omega),← qfA hr']
    simp
   ·simp [qdX]
  rw [hrow]
  simp only [Option.bind_some]
  rw [app1 (by simp [ltab]; omega),← qfA hx]
  simp [ltab]
 ·simp [qeJ]
theorem qpb {s:List State} {n:Str} (h:n ∈ s.map State.Name):(mget (prs 0 s) n).getD 0 = fst s n:=by
 rw [qsP]
 unfold fst
 cases hf:s.findIdx? (fun y=>y.Name == n) with
 | none =>
  obtain ⟨y,hy,e⟩:=List.mem_map.1 h
  have:=List.findIdx?_eq_none_iff.1 hf y hy
  simp [e] at this
 | some i=>simp
def qif (s:List State) (st:Nat) (t:Str) (at':Nat):Option (Token × Int) :=
 match s[st]? with
 | none=>none
 | some x=>match qeh x.Rules (t.drop at') with
  | some (r,n)=>some (Token.mk r.Kind ((t.drop at').take n) at',qka s st r)
  | none=>none
theorem qr8 {s:List State} {st:Nat} {x:State} (h:s[st]? = some x):idx (ltab s) (st:Int) = some (x.Rules.map fun r=>r.Items.map qcz):=by
 rw [ix]; unfold ltab; rw [List.getElem?_map,h]; rfl
theorem neE (w:Str):(w != ([]:Str)) = !decide (w = []):=by by_cases h:w = [] <;> simp [h]
theorem qm4 {N:Nat} {s:List State} {t:Str} {st p:Nat} (hs:Sz N s) (hv:Vs s) (hst:st < s.length) (hp:p ≤ t.length) (ht:t.length ≤ 1000000) (hN:300 ≤ N) (hN2:t.length + 1 ≤ N) :
  qeP N st t p (Lexer.mk s (ltab s) (prs 0 s)) = some (match qif s st t p with | some (k,n)=>(k,n,true) | none=>(Token.mk [] [] 0,0,false)):=by
 obtain ⟨x,hx⟩:=qcU hst
 have hm:=List.mem_of_getElem? hx
 unfold qeP
 simp only [ixg hx,Option.bind_some]
 have key:∀ (j k M:Nat),k + j = x.Rules.length → j < M → ((iter (fun a:Int × Int=>qcd N t p (Lexer.mk s (ltab s) (prs 0 s)) x a.1 a.2) M ((st:Int),(k:Int))).bind fun o24 =>
   Sum.elim (fun _o24:Unit=>some ((Token.mk ([]) ([]) 0),(0:Int),false)) (fun o24:Token × Int × Bool=>some o24) o24) = some (match qeh (x.Rules.drop k) (t.drop p) with | some (r,n)=>(Token.mk r.Kind ((t.drop p).take n) p,qka s st r,true) | none=>(Token.mk [] [] 0,0,false)):=by
  intro j
  induction j with
  | zero =>
   intro k M hk hM
   obtain ⟨M,rfl⟩:∃ M',M = M' + 1:=⟨M - 1,by omega⟩
   obtain rfl:k = x.Rules.length:=by omega
   have hb:qcd N t p (Lexer.mk s (ltab s) (prs 0 s)) x st x.Rules.length = some (.inr (.inl ())):=by simp only [qcd,dn,cond_false]
   simp only [iter,hb,List.drop_length,qeh]
   rfl
  | succ j ih =>
   intro k M hk hM
   obtain ⟨M,rfl⟩:∃ M',M = M' + 1:=⟨M - 1,by omega⟩
   have hkl:k < x.Rules.length:=by omega
   obtain ⟨r,hr⟩:=qcU hkl
   have hre:x.Rules[k] = r:=by rw [List.getElem?_eq_getElem hkl] at hr; exact Option.some.inj hr
   have hrm:=List.mem_of_getElem? hr
   have hz:=((hs.2 x hm).2.2 r hrm).2.2
   have hrow:idx (x.Rules.map fun r=>r.Items.map qcz) (k:Int) = some (r.Items.map qcz):=by rw [ix,List.getElem?_map,hr]; rfl
   have hmt:=qnf (N:=N) (l:=r.Items) (s:=t.drop p) hz.1 (by simp; omega) (by simp; omega)
   have hnx:=(hv.rl x hm r hrm).2
   rw [List.drop_eq_getElem_cons hkl,hre]
   unfold qeh
   have hgo:qcd N t p (Lexer.mk s (ltab s) (prs 0 s)) x st k = some (match runs r.Items (t.drop p) with | some n=>if n = 0 then .inl ((st:Int),((k + 1:Nat):Int)) else .inr (.inr (Token.mk r.Kind ((t.drop p).take n) p,qka s st r,true)) | none=>.inl ((st:Int),((k + 1:Nat):Int))):=by
    simp only [qcd,dk hkl,cond_true,ixg hr,Option.bind_some,qr8 hx,hrow,qhF hp,hmt]
    cases hru:runs r.Items (t.drop p) with
    | none=>rfl
    | some n =>
     have hle:=qoZ _ _ _ hru
     simp only [List.length_drop] at hle
     simp only [Bool.not_true,cond_false]
     by_cases h0:n = 0
     ·subst h0; rfl
     ·have e:(((n:Int)) == 0) = false:=by rw [beq_eq_false_iff_ne]; omega
      rw [e,if_neg h0,neE]
      simp only [cond_false]
      rw [show (p:Int) + (n:Int) = ((p + n:Nat):Int) by omega,qga (by omega),show ((p + n:Nat):Int) = (p:Int) + (n:Int) by omega,qmx (by omega)]
      unfold qka
      by_cases h1:r.Next = []
      ·simp [h1]
      ·have:=qpb (hnx.resolve_left h1)
       simp [h1,this]
   cases hru:runs r.Items (t.drop p) with
   | none =>
    rw [hru] at hgo
    simp only [iter,hgo]
    exact ih (k + 1) M (by omega) (by omega)
   | some n =>
    rw [hru] at hgo
    by_cases h0:n = 0
    ·simp only [if_pos h0] at hgo ⊢
     simp only [iter,hgo]
     exact ih (k + 1) M (by omega) (by omega)
    ·simp only [if_neg h0] at hgo ⊢
     simp only [iter,hgo]
     rfl
 have:=key x.Rules.length 0 N (by omega) (hs.2 x hm).2.1
 refine this.trans ?_
 unfold qif
 rw [hx,List.drop_zero]
 simp only
 cases qeh x.Rules (t.drop p) with
 | none=>rfl
 | some q=>rfl
def tks (s:List State) (t:Str):Nat → Nat → Nat → (Nat ⊕ List Token)
 | 0,_,_=>.inr []
 | f + 1,p,st=>if t.length ≤ p then .inr [] else match qif s st t p with
  | some (k,n)=>(match tks s t f (p + k.Text.length) n.toNat with | .inr l=>.inr (k :: l) | .inl e=>.inl e)
  | none=>.inl p
theorem qqC {s:List State} {n:Str} (h:n ∈ s.map State.Name):0 ≤ fst s n ∧ fst s n < (s.length:Int):=by
 have h1:¬fst s n < 0:=fun g=>qsj.1 g h
 refine ⟨by omega,?_⟩
 unfold fst at h1 ⊢
 cases hf:s.findIdx? (fun y=>y.Name == n) with
 | none=>rw [hf] at h1; simp only at h1 ⊢; omega
 | some k =>
  obtain ⟨hk,_⟩:=List.findIdx?_eq_some_iff_getElem.1 hf
  simp only; omega
theorem qlt {s:List State} (hv:Vs s) {st:Nat} {t:Str} {p:Nat} {k:Token} {n:Int} (h:qif s st t p = some (k,n)) :
  k.From = (p:Int) ∧ 1 ≤ k.Text.length ∧ p + k.Text.length ≤ t.length ∧ k.Text = (t.drop p).take k.Text.length ∧ 0 ≤ n ∧ n < (s.length:Int):=by
 unfold qif at h
 cases hx:s[st]? with
 | none=>rw [hx] at h; cases h
 | some x =>
  rw [hx] at h
  simp only at h
  cases hf:qeh x.Rules (t.drop p) with
  | none=>rw [hf] at h; cases h
  | some q =>
   obtain ⟨r,m⟩:=q
   rw [hf] at h
   simp only [Option.some.injEq,Prod.mk.injEq] at h
   obtain ⟨rfl,rfl⟩:=h
   obtain ⟨h1,h2,h3⟩:=qoa hf
   simp only [List.length_drop] at h3
   have hl:((t.drop p).take m).length = m:=by simp; omega
   have hm:=List.mem_of_getElem? hx
   simp only [hl]
   refine ⟨trivial,h2,by omega,trivial,?_⟩
   unfold qka
   split
   ·have:=qjE hx; omega
   ·rename_i h0
    exact qqC ((hv.rl x hm r h1).2.resolve_left h0)
theorem qta {s:List State} {t:Str} {N:Nat} (hv:Vs s) (ht:t.length ≤ 1000000) (body:List Token × Int × Int → Option ((List Token × Int × Int) ⊕ (List Token ⊕ (List Token × Int × Int))))
  (h1:∀ (l:List Token) (p st:Nat),p < t.length → st < s.length → l.length ≤ p → body (l,(p:Int),(st:Int)) = some (match qif s st t p with | some (k,n)=>.inl (l ++ [k],((p + k.Text.length:Nat):Int),n) | none=>.inr (.inr ([],(p:Int),3))))
  (h2:∀ (l:List Token) (st:Int),body (l,(t.length:Int),st) = some (.inr (.inl l))) (h0:0 < s.length) (hN:t.length + 1 ≤ N) :
  ((iter body N ([],0,0)).bind fun o:List Token ⊕ (List Token × Int × Int)=>Sum.elim (fun o=>some (o,(0:Int),(0:Int))) (fun o=>some o) o) = some (match tks s t (t.length + 1) 0 0 with | .inr l=>(l,0,0) | .inl e=>([],(e:Int),3)):=by
 have key:∀ (f M p st:Nat) (l:List Token),t.length - p < f → f ≤ M → p ≤ t.length → st < s.length → l.length ≤ p → ((iter body M (l,(p:Int),(st:Int))).bind fun o:List Token ⊕ (List Token × Int × Int)=>Sum.elim (fun o=>some (o,(0:Int),(0:Int))) (fun o=>some o) o) = some (match tks s t f p st with | .inr l'=>(l ++ l',0,0) | .inl e=>([],(e:Int),3)):=by
  intro f
  induction f with
  | zero=>intro M p st l h; omega
  | succ f ih =>
   intro M p st l hf hM hp hst hl
   obtain ⟨M,rfl⟩:∃ M',M = M' + 1:=⟨M - 1,by omega⟩
   unfold tks
   by_cases he:t.length ≤ p
   ·obtain rfl:p = t.length:=by omega
    rw [if_pos he]
    simp only [iter,h2,List.append_nil]
    rfl
   ·rw [if_neg he]
    have hb:=h1 l p st (by omega) hst hl
    cases hq:qif s st t p with
    | none =>
     rw [hq] at hb
     simp only [iter,hb]
     rfl
    | some q =>
     obtain ⟨k,n⟩:=q
     rw [hq] at hb
     obtain ⟨_,g2,g3,_,g5,g6⟩:=qlt hv hq
     obtain ⟨n,rfl⟩:∃ m:Nat,n = (m:Int):=⟨n.toNat,by omega⟩
     simp only at hb ⊢
     simp only [iter,hb,Int.toNat_natCast]
     have:=ih M (p + k.Text.length) n (l ++ [k]) (by omega) (by omega) (by omega) (by omega) (by simp; omega)
     rw [this]
     cases tks s t f (p + k.Text.length) n with
     | inl e=>rfl
     | inr l'=>simp
 have:=key (t.length + 1) N 0 0 [] (by omega) hN (by omega) h0 (by simp)
 simpa using this
def tokR (s:List State) (t:Str):List Token × Int × Int:=match tks s t (t.length + 1) 0 0 with | .inr l=>(l,0,0) | .inl e=>([],(e:Int),3)
theorem qmN {N:Nat} {s:List State} {t:Str} (hs:Sz N s) (hb:SbS s) (hv:Vl s) (ht:t.length ≤ 10000) (hN:300 ≤ N) (hN2:t.length + 1 ≤ N) :
  qfW N s t = some (tokR s t):=by
 unfold qfW
 rcases (qjW hs hb (by omega)).cases with ⟨h,_⟩ | ⟨_,h⟩
 rotate_left
 ·exact absurd hv h
 rw [h]
 simp only [Option.bind_some,Bool.not_true,cond_false]
 rw [decide_eq_false (by omega)]
 simp only [cond_false,qps hs hv.1 hN,Option.bind_some]
 refine qta hv.1 (by omega) _ (fun l p st hp hst hl=>?_) (fun l st=>?_) (by have:=hv.1.len; omega) hN2
 ·simp only [qfo,dk hp,cond_true,qm4 hs hv.1 hst (by omega:p ≤ t.length) (by omega:t.length ≤ 1000000) hN hN2,Option.bind_some]
  cases hq:qif s st t p with
  | none=>rfl
  | some q =>
   obtain ⟨k,n⟩:=q
   obtain ⟨_,g2,g3,_⟩:=qlt hv.1 hq
   simp only [Bool.not_true,cond_false]
   rw [app1 (by simp; omega),show (p:Int) + (k.Text.length:Int) = ((p + k.Text.length:Nat):Int) by omega,qga (by omega)]
   rfl
 ·simp only [qfo,dn,cond_false]
end Go.Proofs.YtllfckekodcdaaaGreatDoor
namespace Go.Proofs.YtllfckekodcdaaaGreatDoor
open Go.X
def qbb {α σ ρ:Type} (g:σ → α → σ ⊕ ρ):List α → σ → σ ⊕ ρ
 | [],s=>.inl s
 | x :: xs,s=>match g s x with | .inl s'=>qbb g xs s' | .inr r=>.inr r
theorem qfs {α σ ρ τ β:Type} (xs:List α) (g:σ → α → σ ⊕ ρ) (body:τ → Option (τ ⊕ β)) (mk:σ → Nat → τ) (L:σ → β) (R:ρ → β) (Inv:Nat → σ → Prop) {N:Nat} (hN:xs.length < N) {s0:σ} (h0:Inv 0 s0)
  (h1:∀ (k:Nat) (x:α) (s:σ),xs[k]? = some x → Inv k s → body (mk s k) = some (match g s x with | .inl s'=>.inl (mk s' (k + 1)) | .inr r=>.inr (R r)))
  (hI:∀ (k:Nat) (x:α) (s s':σ),xs[k]? = some x → Inv k s → g s x = .inl s' → Inv (k + 1) s')
  (h2:∀ s,Inv xs.length s → body (mk s xs.length) = some (.inr (L s))) {t0:τ} (ht:mk s0 0 = t0):iter body N t0 = some (match qbb g xs s0 with | .inl s=>L s | .inr r=>R r):=by
 have key:∀ (j k M:Nat) (s:σ),k + j = xs.length → j < M → Inv k s → iter body M (mk s k) = some (match qbb g (xs.drop k) s with | .inl s=>L s | .inr r=>R r):=by
  intro j
  induction j with
  | zero =>
   intro k M s hk hM hi
   obtain ⟨M,rfl⟩:∃ M',M = M' + 1:=⟨M - 1,by omega⟩
   obtain rfl:k = xs.length:=by omega
   rw [List.drop_eq_nil_of_le (Nat.le_refl _)]
   simp only [iter,h2 s hi,qbb]
  | succ j ih =>
   intro k M s hk hM hi
   obtain ⟨M,rfl⟩:∃ M',M = M' + 1:=⟨M - 1,by omega⟩
   have hlt:k < xs.length:=by omega
   have hx:xs[k]? = some xs[k]:=List.getElem?_eq_getElem hlt
   have hb:=h1 k _ s hx hi
   rw [List.drop_eq_getElem_cons hlt,qbb]
   cases hg:g s xs[k] with
   | inl s' =>
    rw [hg] at hb
    simp only [iter,hb]
    exact ih (k + 1) M s' (by omega) (by omega) (hI k _ s s' hx hi hg)
   | inr r =>
    rw [hg] at hb
    simp only [iter,hb]
 rw [← ht]
 have:=key xs.length 0 N s0 (by omega) hN h0
 simpa using this
def qrK:Str:=[116,101,120,116]
def kEsc:Str:=[101,115,99,97,112,101]
def kStr:Str:=[115,116,114,105,110,103]
def kEnd:Str:=[101,110,100]
def litP (t:Token):Option Str :=
 if t.Kind = qrK then some t.Text else if t.Kind = kEsc then (if t.Text = [92,110] then some [10] else if t.Text = [92,116] then some [9] else if t.Text = [] then none else some (t.Text.drop 1)) else none
def litG (acc:Str) (t:Token):Str ⊕ Unit:=match litP t with | some w=>.inl (acc ++ w) | none=>.inr ()
def lit (l:List Token):Str × Bool :=
 if 2 ≤ l.length ∧ (l[0]?.map Token.Kind) = some kStr ∧ (l[l.length - 1]?.map Token.Kind) = some kEnd then (match qbb litG ((l.drop 1).take (l.length - 2)) [] with | .inl s=>(s,true) | .inr _=>([],false)) else ([],false)
theorem qnB {t:Token} {w:Str} (h:litP t = some w):w.length ≤ t.Text.length:=by
 unfold litP at h
 split at h
 ·cases h; exact Nat.le_refl _
 ·split at h
  ·split at h
   ·rename_i e; cases h; rw [e]; decide
   ·split at h
    ·rename_i e; cases h; rw [e]; decide
    ·split at h
     ·cases h
     ·cases h; simp
  ·cases h
def tsum (l:List Token):Nat:=(l.map fun t=>t.Text.length).sum
theorem qkd:∀ (l:List Token) (acc s:Str),qbb litG l acc = .inl s → s.length ≤ acc.length + tsum l
 | [],acc,s,h=>by cases h; simp [tsum]
 | t :: l,acc,s,h=>by
  rw [qbb] at h
  unfold litG at h
  cases hp:litP t with
  | none=>rw [hp] at h; cases h
  | some w =>
   rw [hp] at h
   have:=qkd l (acc ++ w) s h
   have hw:=qnB hp
   simp only [tsum,List.map_cons,List.sum_cons,List.length_append] at this ⊢
   omega
theorem qiD {l:List Token} (a b:Nat):tsum ((l.drop a).take b) ≤ tsum l:=by
 unfold tsum
 have h1:∀ (m:List Nat) (a:Nat),(m.drop a).sum ≤ m.sum:=fun m a=>by
  have:=congrArg List.sum (List.take_append_drop a m)
  rw [List.sum_append] at this; omega
 have h2:∀ (m:List Nat) (a:Nat),(m.take a).sum ≤ m.sum:=fun m a=>by
  have:=congrArg List.sum (List.take_append_drop a m)
  rw [List.sum_append] at this; omega
 rw [List.map_take,List.map_drop]
 exact Nat.le_trans (h2 _ _) (h1 _ _)
theorem qsl (l:List Token):(lit l).1.length ≤ tsum l:=by
 unfold lit
 split
 ·cases h:qbb litG ((l.drop 1).take (l.length - 2)) [] with
  | inl s =>
   have:=qkd _ _ _ h
   have:=qiD (l:=l) 1 (l.length - 2)
   simp only [List.length_nil] at *
   omega
  | inr r=>simp
 ·simp
theorem qiL {l:List Token} {k:Nat} {x:Token} (h:l[k]? = some x):tsum (l.take (k + 1)) = tsum (l.take k) + x.Text.length:=by
 rw [← qfA h]
 simp [tsum]
theorem qis (l:List Token) (k:Nat):tsum (l.take k) ≤ tsum l:=by
 have:=qiD (l:=l) 0 k
 simpa using this
theorem beqS {a b:Str}:(a == b) = decide (a = b):=by by_cases h:a = b <;> simp [h]
theorem bneS {a b:Str}:(a != b) = !decide (a = b):=by by_cases h:a = b <;> simp [h]
theorem qrR {N:Nat} {l t:Str} (h:l.length + t.length ≤ 4294967296):qaH N t (Builder.mk () (bld l).buf) = some ((t.length:Int),(),bld (l ++ t)):=wstr h
theorem qpS {N:Nat} {l:Str} {c:Nat} (hc:c < 256) (h:l.length < 4294967296):qa8 N (c:Int) (Builder.mk () (bld l).buf) = some ((),bld (l ++ [UInt8.ofNat c])):=qlK hc h
theorem slc1 {t:Str} (h:t ≠ []):slc t 1 (t.length:Int) = some (t.drop 1):=by
 have:1 ≤ t.length:=by cases t; exact absurd rfl h; simp
 exact qhF (n:=1) this
theorem qq9 {N:Nat} {l:List Token} {k:Nat} {x:Token} {acc:Str} (hx:l[k]? = some x) (hb:acc.length + x.Text.length ≤ 4000000000) :
  qcC N l (k:Int) (bld acc) = some (match litG acc x with | .inl s'=>.inl (((k + 1:Nat):Int),bld s') | .inr _=>.inr (.inr ([],false))):=by
 have hlt:=(List.getElem?_eq_some_iff.1 hx).1
 unfold qcC litG litP
 rw [dk hlt,cond_true,ixg hx,Option.bind_some]
 simp only [beqS,bneS]
 by_cases h1:x.Kind = qrK
 ·rw [if_pos h1,show decide (x.Kind = ([116,101,120,116]:Str)) = true from decide_eq_true h1,cond_true,qrR (by omega)]
  rfl
 ·have h1':decide (x.Kind = ([116,101,120,116]:Str)) = false:=decide_eq_false h1
  rw [if_neg h1,h1',cond_false]
  by_cases h2:x.Kind = kEsc
  ·have h2':decide (x.Kind = ([101,115,99,97,112,101]:Str)) = true:=decide_eq_true h2
   rw [if_pos h2]
   simp only [h2',cond_true]
   by_cases h3:x.Text = [92,110]
   ·rw [if_pos h3,decide_eq_true h3,cond_true,show (10:Int) = ((10:Nat):Int) from rfl,qpS (by decide) (by omega)]
    rfl
   ·rw [if_neg h3,decide_eq_false h3,cond_false]
    by_cases h4:x.Text = [92,116]
    ·rw [if_pos h4,decide_eq_true h4,cond_true,show (9:Int) = ((9:Nat):Int) from rfl,qpS (by decide) (by omega)]
     rfl
    ·rw [if_neg h4,decide_eq_false h4,cond_false]
     by_cases h5:x.Text = []
     ·rw [if_pos h5,decide_eq_true h5]
      rfl
     ·rw [if_neg h5,decide_eq_false h5,Bool.not_false,cond_true,slc1 h5,Option.bind_some,qrR (by simp; omega)]
      rfl
  ·have h2':decide (x.Kind = ([101,115,99,97,112,101]:Str)) = false:=decide_eq_false h2
   rw [if_neg h2]
   simp only [h2',cond_false]
theorem qqS {acc s':Str} {x:Token} (h:litG acc x = .inl s'):s'.length ≤ acc.length + x.Text.length:=by
 unfold litG at h
 cases hp:litP x with
 | none=>rw [hp] at h; cases h
 | some w=>rw [hp] at h; cases h; have:=qnB hp; simp; omega
theorem idx0 {α:Type} (l:List α):idx l 0 = l[0]?:=ix l 0
theorem quu {n:Nat} (h:1 ≤ n) (h2:n ≤ 1000000000):IntKind.wrap .i64 ((n:Int) - 1) = ((n - 1:Nat):Int):=by
 rw [show (n:Int) - 1 = ((n - 1:Nat):Int) by omega]
 exact qga (by omega)
theorem qpE {N:Nat} {l:List Token} (hN:l.length < N) (hl:l.length ≤ 1000000000) (ht:tsum l ≤ 1000000000):qeO N l = some (lit l):=by
 unfold qeO lit
 by_cases h2:2 ≤ l.length
 ·rw [decide_eq_false (by omega),cond_false]
  obtain ⟨a,ha⟩:=qcU (l:=l) (k:=0) (by omega)
  obtain ⟨z,hz⟩:=qcU (l:=l) (k:=l.length - 1) (by omega)
  rw [idx0,ha,Option.bind_some,Option.map_some,quu (by omega) hl,ix,hz,Option.bind_some,Option.map_some]
  simp only [bneS]
  by_cases h3:a.Kind = kStr
  ·rw [show decide (a.Kind = ([115,116,114,105,110,103]:Str)) = true from decide_eq_true h3,Bool.not_true,cond_false]
   by_cases h4:z.Kind = kEnd
   ·rw [show decide (z.Kind = ([101,110,100]:Str)) = true from decide_eq_true h4,Bool.not_true,cond_false,if_pos ⟨h2,congrArg some h3,congrArg some h4⟩]
    rw [show ((l.length - 1:Nat):Int) = ((1:Nat):Int) + ((l.length - 2:Nat):Int) by omega,show (1:Int) = ((1:Nat):Int) from rfl,qmx (by omega),Option.bind_some]
    generalize hm:(l.drop 1).take (l.length - 2) = m
    have hml:m.length ≤ l.length:=by rw [← hm]; simp; omega
    have hmt:tsum m ≤ tsum l:=by rw [← hm]; exact qiD 1 _
    rw [qfs m litG (fun s=>qcC N m s.1 s.2) (fun s k=>((k:Int),bld s)) (fun s=>.inl (bld s)) (fun _=>.inr ([],false)) (fun k s=>s.length ≤ tsum (m.take k)) (by omega) (s0:=([]:Str)) (by simp)
     (fun k x s hx hi=>by
      have h6:=qiL hx
      have h7:=qis m (k + 1)
      rw [qq9 hx (by omega)]
      cases litG s x <;> rfl)
     (fun k x s s' hx hi hg=>by rw [qiL hx]; have:=qqS hg; omega)
     (fun s hi=>by
      unfold qcC
      rw [dn,cond_false]) (t0:=(0,Builder.mk () [])) rfl,Option.bind_some]
    cases qbb litG m [] with
    | inl s=>exact congrArg (fun x=>some (x,true)) (qiH s)
    | inr r=>rfl
   ·rw [show decide (z.Kind = ([101,110,100]:Str)) = false from decide_eq_false h4,Bool.not_false,cond_true,if_neg (fun h=>h4 (Option.some.inj h.2.2))]
  ·rw [show decide (a.Kind = ([115,116,114,105,110,103]:Str)) = false from decide_eq_false h3,Bool.not_false,cond_true,if_neg (fun h=>h3 (Option.some.inj h.2.1))]
 ·rw [decide_eq_true (by omega),cond_true,if_neg (fun h=>h2 h.1)]
structure TOk (t:Str) (l:List Token):Prop where
 len:l.length ≤ t.length
 sum:tsum l ≤ t.length
 fr:∀ k ∈ l,0 ≤ k.From ∧ k.From ≤ (t.length:Int)
 txt:∀ k ∈ l,∃ p n,k.Text = (t.drop p).take n ∧ p + n ≤ t.length ∧ k.Text.length = n
theorem qtt {s:List State} {t:Str} (hv:Vs s):∀ (f p st:Nat) (l:List Token),tks s t f p st = .inr l → p ≤ t.length → l.length + p ≤ t.length ∧ tsum l + p ≤ t.length ∧ (∀ k ∈ l,0 ≤ k.From ∧ k.From ≤ (t.length:Int)) ∧ ∀ k ∈ l,∃ p n,k.Text = (t.drop p).take n ∧ p + n ≤ t.length ∧ k.Text.length = n:=by
 intro f
 induction f with
 | zero=>intro p st l h hp; cases h; simp [tsum]; exact hp
 | succ f ih =>
  intro p st l h hp
  unfold tks at h
  split at h
  ·cases h; simp [tsum]; exact hp
  ·cases hq:qif s st t p with
   | none=>rw [hq] at h; cases h
   | some q =>
    obtain ⟨k,n⟩:=q
    rw [hq] at h
    simp only at h
    obtain ⟨g1,g2,g3,g4,g5,g6⟩:=qlt hv hq
    cases hr:tks s t f (p + k.Text.length) n.toNat with
    | inl e=>rw [hr] at h; cases h
    | inr l' =>
     rw [hr] at h
     cases h
     obtain ⟨i1,i2,i3,i4⟩:=ih _ _ l' hr g3
     refine ⟨by simp; omega,by simp only [tsum,List.map_cons,List.sum_cons] at i2 ⊢; omega,fun x hx=>?_,fun x hx=>?_⟩
     ·rcases List.mem_cons.1 hx with rfl | hx
      ·omega
      ·exact i3 x hx
     ·rcases List.mem_cons.1 hx with rfl | hx
      ·exact ⟨p,x.Text.length,g4,g3,rfl⟩
      ·exact i4 x hx
theorem qmA {s:List State} {t:Str} (hv:Vs s):TOk t (tokR s t).1:=by
 unfold tokR
 cases h:tks s t (t.length + 1) 0 0 with
 | inl e=>exact ⟨by simp,by simp [tsum],fun k hk=>by simp at hk,fun k hk=>by simp at hk⟩
 | inr l =>
  obtain ⟨h1,h2,h3,h4⟩:=qtt hv _ _ _ _ h (Nat.zero_le _)
  exact ⟨h1,h2,h3,h4⟩
end Go.Proofs.YtllfckekodcdaaaGreatDoor
namespace Go.Proofs.YtllfckekodcdaaaGreatDoor
open Go.X
end Go.Proofs.YtllfckekodcdaaaGreatDoor
namespace Go.Proofs.YtllfckekodcdaaaGreatDoor
open Go.X
def okC (c:Call):Prop:=c.Name ≠ [] ∧ -1 ≤ c.ID ∧ c.ID ≤ 9 ∧ -1 ≤ c.Source ∧ c.Source ≤ 9 ∧ ¬(c.ID = -1 ∧ c.Source = -1)
instance (c:Call):Decidable (okC c):=by unfold okC; infer_instance
def vcG (seen:List Str) (c:Call):List Str ⊕ Unit:=if okC c ∧ c.Name ∉ seen then .inl (seen ++ [c.Name]) else .inr ()
def VC (l:List Call):Prop:=(∀ c ∈ l,okC c) ∧ (l.map Call.Name).Nodup ∧ l.length ≤ 40
theorem qoT:∀ (l:List Call) (seen:List Str),(qbb vcG l seen = .inl (seen ++ l.map Call.Name) ∧ (∀ c ∈ l,okC c) ∧ (l.map Call.Name).Nodup ∧ ∀ c ∈ l,c.Name ∉ seen) ∨ (qbb vcG l seen = .inr () ∧ ¬((∀ c ∈ l,okC c) ∧ (l.map Call.Name).Nodup ∧ ∀ c ∈ l,c.Name ∉ seen))
 | [],seen=>.inl ⟨by simp [qbb],by simp,by simp,by simp⟩
 | c :: l,seen=>by
  rw [qbb]
  unfold vcG
  by_cases h:okC c ∧ c.Name ∉ seen
  ·rw [if_pos h]
   rcases qoT l (seen ++ [c.Name]) with ⟨h1,h2,h3,h4⟩ | ⟨h1,h2⟩
   ·refine .inl ⟨by rw [show qbb (fun seen c=>if okC c ∧ c.Name ∉ seen then (Sum.inl (seen ++ [c.Name]):List Str ⊕ Unit) else .inr ()) = qbb vcG from rfl]; simpa using h1,?_,?_,?_⟩
    ·intro x hx
     rcases List.mem_cons.1 hx with rfl | hx
     ·exact h.1
     ·exact h2 x hx
    ·rw [List.map_cons,List.nodup_cons]
     refine ⟨fun hm=>?_,h3⟩
     obtain ⟨x,hx,he⟩:=List.mem_map.1 hm
     exact h4 x hx (by rw [he]; simp)
    ·intro x hx
     rcases List.mem_cons.1 hx with rfl | hx
     ·exact h.2
     ·exact fun hs=>h4 x hx (List.mem_append_left _ hs)
   ·refine .inr ⟨h1,fun ⟨g1,g2,g3⟩=>h2 ⟨fun x hx=>g1 x (List.mem_cons_of_mem _ hx),?_,?_⟩⟩
    ·rw [List.map_cons,List.nodup_cons] at g2; exact g2.2
    ·intro x hx hs
     rw [List.map_cons,List.nodup_cons] at g2
     rcases List.mem_append.1 hs with hs | hs
     ·exact g3 x (List.mem_cons_of_mem _ hx) hs
     ·exact g2.1 (List.mem_map.2 ⟨x,hx,List.mem_singleton.1 hs⟩)
  ·rw [if_neg h]
   exact .inr ⟨rfl,fun ⟨g1,g2,g3⟩=>h ⟨g1 c (List.mem_cons_self ..),g3 c (List.mem_cons_self ..)⟩⟩
theorem qnU {l:List Call} {b:Bool} (h:b = (match qbb vcG l [] with | .inl _=>decide (l.length ≤ 40) | .inr _=>false)):(b = true ↔ VC l):=by
 rw [h]
 unfold VC
 rcases qoT l [] with ⟨h1,h2,h3,h4⟩ | ⟨h1,h2⟩
 ·rw [h1]
  exact Iff.intro (fun h=>⟨h2,h3,of_decide_eq_true h⟩) (fun h=>decide_eq_true h.2.2)
 ·rw [h1]
  exact Iff.intro (fun h=>by cases h) (fun g=>(h2 ⟨g.1,g.2.1,fun _ _=>by simp⟩).elim)
theorem qmW {s:List Str} {n:Str}:mget (s.map fun x=>(x,true)) n = if n ∈ s then some true else none:=by
 unfold mget
 induction s with
 | nil=>simp
 | cons x s ih =>
  rw [List.map_cons,List.find?_cons]
  by_cases h:n = x
  ·subst h; simp
  ·have:(n == (x,true).1) = false:=by simpa using h
   rw [this]
   simp only [List.mem_cons,h,false_or]
   exact ih
theorem qqB {s:List Str} {n:Str} (h:¬n ∈ s):mput (s.map fun x=>(x,true)) n true = (s ++ [n]).map fun x=>(x,true):=by
 induction s with
 | nil=>rfl
 | cons x s ih =>
  simp only [List.mem_cons,not_or] at h
  rw [List.map_cons,mput,if_neg (by simpa using h.1),ih h.2]
  simp
theorem qm1 {s:List Str} {n:Str} (h:n ∉ s) (hl:s.length ≤ 1000000):mset (s.map fun x=>(x,true)) n true = some ((s ++ [n]).map fun x=>(x,true)):=by
 unfold mset
 rw [if_pos (by simp; unfold LIM; omega),qqB h]
theorem qoM {α:Type} (c:Call) (F A:α):(bif c.Name == ([]:Str) then F else bif decide (c.ID < -1) then F else bif decide (c.ID > 9) then F else bif decide (c.Source < -1) then F else bif decide (c.Source > 9) then F else bif c.ID == -1 then (bif c.Source == -1 then F else A) else A) = if okC c then A else F:=by
 by_cases h1:c.Name = []
 ·rw [if_neg (fun h:okC c=>h.1 h1),h1]; rfl
 ·simp only [beqS,decide_eq_false h1,cond_false]
  by_cases h2:c.ID < -1
  ·rw [decide_eq_true h2,if_neg (fun h:okC c=>by have:=h.2.1; omega),cond_true]
  ·rw [decide_eq_false h2,cond_false]
   by_cases h3:c.ID > 9
   ·rw [decide_eq_true h3,if_neg (fun h:okC c=>by have:=h.2.2.1; omega),cond_true]
   ·rw [decide_eq_false h3,cond_false]
    by_cases h4:c.Source < -1
    ·rw [decide_eq_true h4,if_neg (fun h:okC c=>by have:=h.2.2.2.1; omega),cond_true]
    ·rw [decide_eq_false h4,cond_false]
     by_cases h5:c.Source > 9
     ·rw [decide_eq_true h5,if_neg (fun h:okC c=>by have:=h.2.2.2.2.1; omega),cond_true]
     ·rw [decide_eq_false h5,cond_false]
      by_cases h8:c.ID = -1 ∧ c.Source = -1
      ·rw [beq_iff_eq.2 h8.1,cond_true,beq_iff_eq.2 h8.2,if_neg (fun h:okC c=>h.2.2.2.2.2 h8),cond_true]
      ·rw [if_pos (show okC c from ⟨h1,by omega,by omega,by omega,by omega,h8⟩)]
       by_cases g1:c.ID = -1
       ·have g2:c.Source ≠ -1:=fun g=>h8 ⟨g1,g⟩
        rw [beq_iff_eq.2 g1,beq_eq_false_iff_ne.2 g2]; rfl
       ·rw [beq_eq_false_iff_ne.2 g1]; rfl
theorem qpv {N:Nat} {l:List Call} {k:Nat} {c:Call} {seen:List Str} (hc:l[k]? = some c) (hs:seen.length ≤ 100000) :
  qc6 N l (k:Int) (seen.map fun x=>(x,true)) = some (match vcG seen c with | .inl s'=>.inl (((k + 1:Nat):Int),s'.map fun x=>(x,true)) | .inr _=>.inr (.inr false)):=by
 have hlt:=(List.getElem?_eq_some_iff.1 hc).1
 unfold qc6 vcG
 rw [dk hlt,cond_true,ixg hc,Option.bind_some,qmW]
 by_cases h7:c.Name ∈ seen
 ·rw [if_pos h7,if_neg (fun h:okC c ∧ ¬c.Name ∈ seen=>h.2 h7)]
  cases (c.Name == ([]:Str)) <;> rfl
 ·rw [if_neg h7,qm1 h7 (by omega)]
  refine (qoM c _ _).trans ?_
  by_cases h:okC c
  ·rw [if_pos h,if_pos (show okC c ∧ ¬c.Name ∈ seen from ⟨h,h7⟩)]; rfl
  ·rw [if_neg h,if_neg (fun g:okC c ∧ ¬c.Name ∈ seen=>h g.1)]
theorem qsM {seen s':List Str} {c:Call} (h:vcG seen c = .inl s'):s'.length = seen.length + 1:=by
 unfold vcG at h
 split at h
 ·cases h; simp
 ·cases h
theorem qre {N:Nat} {l:List Call} (hN:l.length < N) (hl:l.length ≤ 100000):qcl (qfQ N l) (VC l):=by
 refine ⟨_,?_,qnU (l:=l) rfl⟩
 unfold qfQ
 rw [qfs l vcG (fun s=>qc6 N l s.1 s.2) (fun s k=>((k:Int),s.map fun x=>(x,true))) (fun _=>.inl ()) (fun _=>.inr false) (fun k s=>s.length ≤ k) hN (s0:=([]:List Str)) (by simp)
  (fun k x s hx hi=>by
   have:=(List.getElem?_eq_some_iff.1 hx).1
   rw [qpv hx (by omega)]
   cases vcG s x <;> rfl)
  (fun k x s s' hx hi hg=>by have:=qsM hg; omega)
  (fun s hi=>by unfold qc6; rw [dn,cond_false]) (t0:=(0,([]:List (Str × Bool)))) rfl,Option.bind_some]
 cases qbb vcG l [] with
 | inl s=>exact congrArg some (lenb l.length 40)
 | inr r=>rfl
theorem qn8 {N:Nat} {l:List Call} {i:Nat} {n:Str} {body:Int → Option (Int ⊕ (Unit ⊕ Bool))} (hi:i ≤ l.length) (hN:i < N)
  (hb:∀ k:Int,body k = bif decide (k < (i:Int)) then (idx l k).bind fun x33=>bif (x33.Name == n) then some (.inr (.inr false)) else some (.inl (k + 1)) else some (.inr (.inl ()))) :
  iter body N 0 = some (if n ∈ (l.take i).map Call.Name then .inr false else .inl ()):=by
 rcases qfr (body:=body) (fun c:Call=>¬c.Name = n) (l.take i) (N:=N) (by simp; omega) (fun k x hx=>by
  have hk:=(List.getElem?_eq_some_iff.1 hx).1
  simp only [List.length_take] at hk
  have hx2:l[k]? = some x:=by rw [List.getElem?_take_of_lt (by omega)] at hx; exact hx
  rw [hb,dk (show k < i by omega),cond_true,ixg hx2,Option.bind_some,beqS]
  by_cases h:x.Name = n
  ·rw [decide_eq_true h]; exact .inr ⟨fun g=>g h,rfl⟩
  ·rw [decide_eq_false h]; exact .inl ⟨h,rfl⟩) (by rw [hb,List.length_take,Nat.min_eq_left hi,dn,cond_false]) with ⟨h1,h2⟩ | ⟨h1,h2⟩
 ·rw [h1,if_neg]
  intro hm
  obtain ⟨x,hx,he⟩:=List.mem_map.1 hm
  exact h2 x hx he
 ·rw [h1,if_pos]
  apply Classical.byContradiction
  intro hm
  exact h2 fun x hx he=>hm (List.mem_map.2 ⟨x,hx,he⟩)
theorem qmj {N:Nat} {l:List Call} {k:Nat} {c:Call} (hc:l[k]? = some c) (hN:l.length < N) :
  qcm N l (k:Int) = some (match vcG ((l.take k).map Call.Name) c with | .inl s'=>.inl ((k + 1:Nat):Int) | .inr _=>.inr (.inr false)):=by
 have hlt:=(List.getElem?_eq_some_iff.1 hc).1
 unfold qcm vcG
 rw [dk hlt,cond_true,ixg hc,Option.bind_some]
 rw [qn8 (l:=l) (i:=k) (n:=c.Name) (body:=fun s=>qee N l (k:Int) c s) (by omega) (by omega) (fun _=>rfl),qn8 (l:=l) (i:=k) (n:=c.Name) (body:=fun s=>qef N l (k:Int) c s) (by omega) (by omega) (fun _=>rfl)]
 simp only [Option.bind_some]
 refine (qoM c _ _).trans ?_
 by_cases h:okC c
 ·rw [if_pos h]
  by_cases h7:c.Name ∈ (l.take k).map Call.Name
  ·rw [if_pos h7,if_neg (fun g:okC c ∧ ¬c.Name ∈ (l.take k).map Call.Name=>g.2 h7)]; rfl
  ·rw [if_neg h7,if_pos (show okC c ∧ ¬c.Name ∈ (l.take k).map Call.Name from ⟨h,h7⟩)]; rfl
 ·rw [if_neg h,if_neg (fun g:okC c ∧ ¬c.Name ∈ (l.take k).map Call.Name=>h g.1)]
theorem qqf {N:Nat} {l:List Call} (hN:l.length < N):qcl (qcM N l) (VC l):=by
 refine ⟨_,?_,qnU (l:=l) rfl⟩
 unfold qcM
 rw [qfs l vcG (fun s=>qcm N l s) (fun s k=>(k:Int)) (fun _=>.inl ()) (fun _=>.inr false) (fun k s=>s = (l.take k).map Call.Name) hN (s0:=([]:List Str)) (by simp)
  (fun k x s hx hi=>by
   rw [hi,qmj hx hN]
   cases vcG ((l.take k).map Call.Name) x <;> rfl)
  (fun k x s s' hx hi hg=>by
   unfold vcG at hg
   split at hg
   ·cases hg; rw [hi,← qfA hx]; simp
   ·cases hg)
  (fun s hi=>by unfold qcm; rw [dn,cond_false]) (t0:=0) rfl,Option.bind_some]
 cases qbb vcG l [] with
 | inl s=>exact congrArg some (lenb l.length 40)
 | inr r=>rfl
def FewP (calls:List Call) (files:List File):Prop:=(∀ f ∈ files,f.Text.length ≤ 400 ∧ f.Name.length ≤ 200) ∧ (∀ c ∈ calls,c.Name.length ≤ 100) ∧ calls.length ≤ 45 ∧ files.length ≤ 6
theorem qs1 {N:Nat} {calls:List Call} {files:List File} (h1:calls.length < N) (h2:files.length < N):qcl (qeS N calls files) (FewP calls files):=by
 unfold qeS FewP
 rcases qfr (body:=fun s=>qdg N files s) (fun f:File=>f.Text.length ≤ 400 ∧ f.Name.length ≤ 200) files h2 (fun k x hx=>by
  simp only [qdg]
  rw [dk (List.getElem?_eq_some_iff.1 hx).1,cond_true,ixg hx]
  simp only [Option.bind_some]
  by_cases g1:x.Text.length ≤ 400
  ·rw [decide_eq_false (show ¬((x.Text.length:Int) > 400) by omega),cond_false]
   by_cases g2:x.Name.length ≤ 200
   ·rw [decide_eq_false (show ¬((x.Name.length:Int) > 200) by omega)]; exact .inl ⟨⟨g1,g2⟩,rfl⟩
   ·rw [decide_eq_true (show ((x.Name.length:Int) > 200) by omega)]; exact .inr ⟨fun h=>g2 h.2,rfl⟩
  ·rw [decide_eq_true (show ((x.Text.length:Int) > 400) by omega)]; exact .inr ⟨fun h=>g1 h.1,rfl⟩) (by simp only [qdg]; rw [dn,cond_false]) with ⟨e1,p1⟩ | ⟨e1,p1⟩
 rotate_left
 ·rw [e1]; exact qcl.no rfl fun h=>p1 h.1
 rw [e1,Option.bind_some,Sum.elim_inl]
 rcases qfr (body:=fun s=>qdi N calls s) (fun f:Call=>f.Name.length ≤ 100) calls h1 (fun k x hx=>by
  simp only [qdi]
  rw [dk (List.getElem?_eq_some_iff.1 hx).1,cond_true,ixg hx]
  simp only [Option.bind_some]
  by_cases g1:x.Name.length ≤ 100
  ·rw [decide_eq_false (show ¬((x.Name.length:Int) > 100) by omega)]; exact .inl ⟨g1,rfl⟩
  ·rw [decide_eq_true (show ((x.Name.length:Int) > 100) by omega)]; exact .inr ⟨g1,rfl⟩) (by simp only [qdi]; rw [dn,cond_false]) with ⟨e2,p2⟩ | ⟨e2,p2⟩
 rotate_left
 ·rw [e2]; exact qcl.no rfl fun h=>p2 h.2.1
 rw [e2,Option.bind_some,Sum.elim_inl]
 by_cases h3:calls.length ≤ 45
 ·rw [decide_eq_true (show (calls.length:Int) ≤ 45 by omega),cond_true]
  by_cases h4:files.length ≤ 6
  ·rw [decide_eq_true (show (files.length:Int) ≤ 6 by omega)]; exact qcl.yes rfl ⟨p1,p2,h3,h4⟩
  ·rw [decide_eq_false (show ¬(files.length:Int) ≤ 6 by omega)]; exact qcl.no rfl fun h=>h4 h.2.2.2
 ·rw [decide_eq_false (show ¬(calls.length:Int) ≤ 45 by omega)]; exact qcl.no rfl fun h=>h3 h.2.2.1
theorem qsZ {N:Nat} {l:List Call} (hN:l.length < N) (hl:l.length ≤ 1000000):qe2 N l = some l:=by
 unfold qe2
 rw [qjv (fun k=>(l.take k,(k:Int))) l.length l (s0:=(([]:List Call),(0:Int))) rfl (fun i hi=>by
  simp only [qdR]
  obtain ⟨x,hx⟩:=qcU hi
  rw [dk hi,cond_true,ixg hx,Option.bind_some,app1 (by simp; omega),Option.bind_some,qfA hx]
  rfl) (by simp only [qdR]; rw [dn,cond_false,List.take_length]) N hN]
 rfl
theorem qq0 {N:Nat} {l:List File} (hN:l.length < N) (hl:l.length ≤ 1000000):qea N l = some l:=by
 unfold qea
 rw [qjv (fun k=>(l.take k,(k:Int))) l.length l (s0:=(([]:List File),(0:Int))) rfl (fun i hi=>by
  simp only [qdy]
  obtain ⟨x,hx⟩:=qcU hi
  rw [dk hi,cond_true,ixg hx,Option.bind_some,app1 (by simp; omega),Option.bind_some,qfA hx]
  rfl) (by simp only [qdy]; rw [dn,cond_false,List.take_length]) N hN]
 rfl
set_option maxRecDepth 1000000 in
theorem qpl (n:Nat):qfa (n + 300) = some true:=by kernel_rfl
end Go.Proofs.YtllfckekodcdaaaGreatDoor
namespace Go.Proofs.YtllfckekodcdaaaGreatDoor
open Go.X
def qkY:Str:=[115,107,105,112]
def kCom:Str:=[99,111,109,109,101,110,116]
def qi7:Str:=[99,108,111,115,101]
def qlJ:Str:=[111,112,101,110]
def qlP:Str:=[99,111,109,109,97]
def qkS:Str:=[110,97,109,101]
def blk (t:Token):Bool:=decide (t.Kind = qkY) || decide (t.Kind = kCom)
theorem qnY (N:Nat) (t:Token):qd6 N t = some (blk t):=by
 unfold qd6 blk
 simp only [beqS]
 by_cases h:t.Kind = qkY
 ·rw [decide_eq_true (show t.Kind = ([115,107,105,112]:Str) from h),cond_true,decide_eq_true h]; rfl
 ·rw [decide_eq_false (show ¬t.Kind = ([115,107,105,112]:Str) from h),cond_false,decide_eq_false h]; rfl
abbrev ASt:=List (List Token) × List Token × Nat
def dep (t:Token) (d:Nat):Nat:=if t.Kind = qlJ then d + 1 else if t.Kind = qi7 then d - 1 else d
def argG (s:ASt) (t:Token):ASt ⊕ List (List Token) :=
 if t.Kind = qi7 ∧ s.2.2 = 0 then .inr (if s.1 = [] ∧ s.2.1 = [] then [] else s.1 ++ [s.2.1])
 else if blk t = true then .inl s
 else if t.Kind = qlP ∧ s.2.2 = 0 then .inl (s.1 ++ [s.2.1],[],s.2.2)
 else .inl (s.1,s.2.1 ++ [t],dep t s.2.2)
def args (l:List Token):List (List Token):=match qbb argG l ([],[],0) with | .inr r=>r | .inl _=>[]
structure AInv (l:List Token) (k:Nat) (s:ASt):Prop where
 n1:s.1.length ≤ k
 n2:s.2.1.length ≤ k
 n3:s.2.2 ≤ k
 n4:∀ a ∈ s.1,tsum a ≤ tsum (l.take k) ∧ a.length ≤ k
 n5:tsum s.2.1 ≤ tsum (l.take k)
theorem qrd (a b:List Token):tsum (a ++ b) = tsum a + tsum b:=by simp [tsum]
theorem AInv.step {l:List Token} {k:Nat} {s s':ASt} {t:Token} (hx:l[k]? = some t) (h:AInv l k s) (hg:argG s t = .inl s'):AInv l (k + 1) s':=by
 have ht:=qiL hx
 unfold argG at hg
 split at hg
 ·cases hg
 split at hg
 ·cases hg
  exact ⟨by have:=h.n1; omega,by have:=h.n2; omega,by have:=h.n3; omega,fun a ha=>by have:=h.n4 a ha; omega,by have:=h.n5; omega⟩
 split at hg
 ·cases hg
  refine ⟨by have:=h.n1; simp; omega,by simp,by have:=h.n3; simp only; omega,fun a ha=>?_,by simp [tsum]⟩
  simp only at ha
  rcases List.mem_append.1 ha with ha | ha
  ·have:=h.n4 a ha; omega
  ·obtain rfl:=List.mem_singleton.1 ha
   have:=h.n5; have:=h.n2; omega
 ·cases hg
  refine ⟨by have:=h.n1; simp only; omega,by have:=h.n2; simp; omega,by have:=h.n3; simp only; unfold dep; split; omega; split <;> omega,fun a ha=>by have:=h.n4 a ha; omega,?_⟩
  have:=h.n5
  simp only [qrd]
  simp only [tsum,List.map_cons,List.map_nil,List.sum_cons,List.sum_nil] at *
  omega
theorem AInv.nil (l:List Token):AInv l 0 ([],[],0):=⟨by simp,by simp,by simp,fun a ha=>by simp at ha,by simp [tsum]⟩
theorem qo6 (l:List Token):(args l).length ≤ l.length + 1 ∧ ∀ a ∈ args l,tsum a ≤ tsum l ∧ a.length ≤ l.length:=by
 have key:∀ (j k:Nat) (s:ASt),k + j = l.length → AInv l k s → ∀ r,qbb argG (l.drop k) s = .inr r → r.length ≤ l.length + 1 ∧ ∀ a ∈ r,tsum a ≤ tsum l ∧ a.length ≤ l.length:=by
  intro j
  induction j with
  | zero =>
   intro k s hk hi r hr
   rw [List.drop_eq_nil_of_le (by omega)] at hr
   cases hr
  | succ j ih =>
   intro k s hk hi r hr
   have hlt:k < l.length:=by omega
   have hx:l[k]? = some l[k]:=List.getElem?_eq_getElem hlt
   rw [List.drop_eq_getElem_cons hlt,qbb] at hr
   cases hg:argG s l[k] with
   | inl s' =>
    rw [hg] at hr
    exact ih (k + 1) s' (by omega) (hi.step hx hg) r hr
   | inr r' =>
    rw [hg] at hr
    cases hr
    unfold argG at hg
    split at hg
    ·have hp:=qis l k
     have h1:=hi.n1
     have h2:=hi.n2
     have h5:=hi.n5
     simp only [Sum.inr.injEq] at hg
     subst hg
     split
     ·exact ⟨by simp,fun a ha=>by simp at ha⟩
     ·refine ⟨by simp; omega,fun a ha=>?_⟩
      rcases List.mem_append.1 ha with ha | ha
      ·have:=hi.n4 a ha; omega
      ·obtain rfl:=List.mem_singleton.1 ha; omega
    ·split at hg
     ·cases hg
     ·split at hg <;> cases hg
 unfold args
 cases h:qbb argG l ([],[],0) with
 | inl s=>exact ⟨by simp,fun a ha=>by simp at ha⟩
 | inr r=>exact key l.length 0 ([],[],0) (by omega) (AInv.nil l) r (by simpa using h)
theorem notK {k k':Str} {t:Token} (h:t.Kind = k) (hk:k ≠ k'):¬t.Kind = k':=fun e=>hk (h.symm.trans e)
def qiT (s:ASt):Bool:=!(decide (s.1 = [] ∧ s.2.1 = []))
theorem depI {t:Token} {d:Nat} (hd:d ≤ 1000000) (hc:¬(t.Kind = qi7 ∧ d = 0)):(bif decide (t.Kind = qlJ) then some (IntKind.wrap .i64 ((d:Int) + 1)) else bif decide (t.Kind = qi7) then some (IntKind.wrap .i64 ((d:Int) - 1)) else some (d:Int)) = some ((dep t d:Nat):Int):=by
 unfold dep
 by_cases h1:t.Kind = qlJ
 ·rw [decide_eq_true h1,cond_true,if_pos h1,show (d:Int) + 1 = ((d + 1:Nat):Int) by omega,qga (by omega)]
 ·rw [decide_eq_false h1,cond_false,if_neg h1]
  by_cases h2:t.Kind = qi7
  ·have:d ≠ 0:=fun e=>hc ⟨h2,e⟩
   rw [decide_eq_true h2,cond_true,if_pos h2,show (d:Int) - 1 = ((d - 1:Nat):Int) by omega,qga (by omega)]
  ·rw [decide_eq_false h2,cond_false,if_neg h2]
theorem qup {α:Type} {l:List α} {x:α} (hl:l.length ≤ 1000000):IntKind.wrap .i64 (((l ++ [x]).length:Int) - 1) = (l.length:Int):=by
 rw [List.length_append,List.length_singleton,show ((l.length + 1:Nat):Int) - 1 = (l.length:Int) by omega]
 exact qga (by omega)
theorem qqT {N:Nat} {t:Token} {o:List (List Token)} {now:List Token} (ho:o.length ≤ 1000000) (hn:now.length ≤ 1000000) :
  ((idx (o ++ [now]) (IntKind.wrap .i64 (((o ++ [now]).length:Int) - 1))).bind fun x72=>(app x72 ([t]:List Token)).bind fun l94=>(idx (o ++ [now]) (IntKind.wrap .i64 (((o ++ [now]).length:Int) - 1))).bind fun _x99=>some ((o ++ [now]).set (IntKind.wrap .i64 (((o ++ [now]).length:Int) - 1)).toNat l94)) = some (o ++ [now ++ [t]]):=by
 have h1:idx (o ++ [now]) (o.length:Int) = some now:=ixg (by rw [List.getElem?_append_right (Nat.le_refl _),Nat.sub_self]; rfl)
 rw [qup ho,h1,Option.bind_some,app1 (by simp; omega),Option.bind_some,Option.bind_some,Int.toNat_natCast,List.set_append_right _ _ (Nat.le_refl _),Nat.sub_self]
 rfl
theorem qqr {N:Nat} {l:List Token} {k:Nat} {t:Token} {s:ASt} (hx:l[k]? = some t) (h:AInv l k s) (hl:l.length ≤ 1000000) :
  qck N l (s.1 ++ [s.2.1]) (s.2.2:Int) (qiT s) (k:Int) = some (match argG s t with | .inl s'=>.inl (s'.1 ++ [s'.2.1],(s'.2.2:Int),qiT s',((k + 1:Nat):Int)) | .inr r=>.inr (.inr r)):=by
 obtain ⟨o,now,d⟩:=s
 have hlt:=(List.getElem?_eq_some_iff.1 hx).1
 have h1:=h.n1; have h2:=h.n2; have h3:=h.n3
 simp only at h1 h2 h3 ⊢
 unfold qck argG
 rw [dk hlt,cond_true,ixg hx,Option.bind_some]
 simp only [beqS,qnY,Option.bind_some]
 have hput:=qqT (N:=N) (t:=t) (o:=o) (now:=now) (by omega) (by omega)
 have hd0:((d:Int) == 0) = decide (d = 0):=by by_cases g:d = 0 <;> simp [g]
 have happ:app (o ++ [now]) ([[]]:List (List Token)) = some ((o ++ [now]) ++ [[]]):=app1 (by simp; omega)
 have hsome:qiT (o,now ++ [t],dep t d) = true:=by unfold qiT; simp
 simp only [hd0,hput,happ,Option.bind_some]
 by_cases hc:t.Kind = qi7
 ·have nb:blk t = false:=by unfold blk; rw [decide_eq_false (notK hc (by decide)),decide_eq_false (notK hc (by decide))]; rfl
  rw [decide_eq_true (show t.Kind = ([99,108,111,115,101]:Str) from hc),cond_true]
  by_cases hz:d = 0
  ·rw [decide_eq_true hz,cond_true,if_pos ⟨hc,hz⟩]
   by_cases he:o = [] ∧ now = []
   ·rw [if_pos he]
    unfold qiT
    simp [he]
   ·rw [if_neg he]
    unfold qiT
    simp [he]
  ·have hdep:=depI (t:=t) (d:=d) (by omega) (fun g=>hz g.2)
   rw [decide_eq_true hc] at hdep
   rw [decide_eq_false hz,cond_false,if_neg (fun g=>hz g.2),nb,cond_false,if_neg (by decide),decide_eq_false (show ¬t.Kind = ([99,111,109,109,97]:Str) from notK hc (by decide)),cond_false,if_neg (fun g=>hz g.2)]
   refine (congrArg (fun o=>Option.bind o _) hdep).trans ?_
   rw [Option.bind_some]
   simp only [hsome]
   rfl
 ·rw [decide_eq_false (show ¬t.Kind = ([99,108,111,115,101]:Str) from hc),cond_false,if_neg (fun g=>hc g.1)]
  cases hb:blk t with
  | true =>
   rw [cond_true,if_pos rfl]
   rfl
  | false =>
   rw [cond_false,if_neg (by decide)]
   have hdep:=depI (t:=t) (d:=d) (by omega) (fun g=>hc g.1)
   rw [decide_eq_false hc] at hdep
   by_cases hm:t.Kind = qlP
   ·rw [decide_eq_true (show t.Kind = ([99,111,109,109,97]:Str) from hm),cond_true]
    by_cases hz:d = 0
    ·rw [decide_eq_true hz,cond_true,if_pos ⟨hm,hz⟩]
     unfold qiT
     simp
    ·rw [decide_eq_false hz,cond_false,if_neg (fun g=>hz g.2)]
     refine (congrArg (fun o=>Option.bind o _) hdep).trans ?_
     rw [Option.bind_some]
     simp only [hsome]
     rfl
   ·rw [decide_eq_false (show ¬t.Kind = ([99,111,109,109,97]:Str) from hm),cond_false,if_neg (fun g=>hm g.1)]
    refine (congrArg (fun o=>Option.bind o _) hdep).trans ?_
    rw [Option.bind_some]
    simp only [hsome]
    rfl
theorem qny {N:Nat} {l:List Token} {i:Nat} (hi:i + 1 ≤ l.length) (hN:l.length < N) (hl:l.length ≤ 1000000):qd8 N l (i:Int) = some (args (l.drop (i + 1))):=by
 unfold qd8
 rw [show (i:Int) + 1 = ((i + 1:Nat):Int) by omega,qga (by omega),qhF hi,Option.bind_some]
 generalize hm:l.drop (i + 1) = m
 have hml:m.length ≤ l.length:=by rw [← hm]; simp
 rw [qfs m argG (fun s=>qck N m s.1 s.2.1 s.2.2.1 s.2.2.2) (fun s k=>(s.1 ++ [s.2.1],(s.2.2:Int),qiT s,(k:Int))) (fun _=>.inl ()) (fun r=>.inr r) (fun k s=>AInv m k s) (by omega) (s0:=(([],[],0):ASt)) (AInv.nil m)
  (fun k x s hx hi=>by
   refine (qqr (N:=N) hx hi (by omega)).trans ?_
   cases argG s x <;> rfl)
  (fun k x s s' hx hi hg=>hi.step hx hg)
  (fun s hi=>by simp only [qck]; rw [dn,cond_false]) (t0:=(([[]]:List (List Token)),0,false,0)) rfl,Option.bind_some]
 unfold args
 cases qbb argG m ([],[],0) <;> rfl
def qkn (l:List Token):List Token:=l.filter fun t=>!blk t
theorem qoA (l:List Token) (t:Token):qkn (l ++ [t]) = if blk t = true then qkn l else qkn l ++ [t]:=by
 unfold qkn
 rw [List.filter_append]
 cases hb:blk t <;> simp [hb]
def RInv (l:List Token) (k:Nat) (s:ASt × List Token):Prop:=AInv l k s.1 ∧ qkn s.2 = s.1.2.1 ∧ s.2.length ≤ k
def argR (s:ASt × List Token) (t:Token):(ASt × List Token) ⊕ List (List Token) :=
 match argG s.1 t with | .inr r=>.inr r | .inl s'=>.inl (s',if t.Kind = qlP ∧ s.1.2.2 = 0 then [] else s.2 ++ [t])
theorem RInv.step {l:List Token} {k:Nat} {s s':ASt × List Token} {t:Token} (hx:l[k]? = some t) (h:RInv l k s) (hg:argR s t = .inl s'):RInv l (k + 1) s':=by
 obtain ⟨h1,h2,h3⟩:=h
 unfold argR at hg
 cases ha:argG s.1 t with
 | inr r=>rw [ha] at hg; cases hg
 | inl s1 =>
  rw [ha] at hg
  cases hg
  refine ⟨h1.step hx ha,?_,?_⟩
  ·unfold argG at ha
   split at ha
   ·cases ha
   rename_i hnc
   by_cases hcm:t.Kind = qlP ∧ s.1.2.2 = 0
   ·have nb:blk t = false:=by unfold blk; rw [decide_eq_false (notK hcm.1 (by decide)),decide_eq_false (notK hcm.1 (by decide))]; rfl
    rw [nb,if_neg (by decide),if_pos hcm] at ha
    cases ha
    simp only
    rw [if_pos hcm]
    rfl
   ·simp only
    rw [if_neg hcm,qoA]
    split at ha
    ·rename_i hb
     cases ha
     rw [if_pos hb,h2]
    ·rename_i hb
     cases ha
     rw [if_neg hb,h2]
  ·simp only
   split
   ·simp
   ·simp; omega
end Go.Proofs.YtllfckekodcdaaaGreatDoor
namespace Go.Proofs.YtllfckekodcdaaaGreatDoor
open Go.X
def val (ar:List (List Token)) (i:Int):Str × Bool:=match ar[i.toNat]? with | some a=>lit a | none=>([],false)
theorem qrg {N:Nat} {ar:List (List Token)} {i:Int} {L:Nat} (hi:0 ≤ i) (ha:∀ a ∈ ar,tsum a ≤ L ∧ a.length < N ∧ a.length ≤ 1000000) (hL:L ≤ 1000000000):qd0 N ar i = some (val ar i):=by
 unfold qd0 val
 by_cases h:ar.length ≤ i.toNat
 ·rw [decide_eq_true (show i ≥ (ar.length:Int) by omega),cond_true,List.getElem?_eq_none h]
 ·rw [decide_eq_false (show ¬i ≥ (ar.length:Int) by omega),cond_false]
  have hx:ar[i.toNat]? = some ar[i.toNat]:=List.getElem?_eq_getElem (by omega)
  have hm:=ha _ (List.mem_of_getElem? hx)
  rw [idx,if_pos hi,hx,Option.bind_some,qpE hm.2.1 (by omega) (by omega)]
  rfl
theorem qsz {ar:List (List Token)} {i:Int} {L:Nat} (ha:∀ a ∈ ar,tsum a ≤ L):(val ar i).1.length ≤ L:=by
 unfold val
 cases h:ar[i.toNat]? with
 | none=>simp
 | some a=>exact Nat.le_trans (qsl a) (ha a (List.mem_of_getElem? h))
def cmt (l:List Token):Nat → Str
 | 0=>[]
 | i + 1=>match l[i]? with | none=>[] | some t=>if t.Kind = qkY then cmt l i else if t.Kind = kCom then Lib.trimRightS (Lib.trimLeftS t.Text [47,35,42,32]) [32] else []
theorem wm1 {i:Nat} (h:i ≤ 1000000000):IntKind.wrap .i64 ((i:Int) - 1) = (i:Int) - 1:=qfj (qda.2 ⟨by omega,by omega⟩)
theorem qpF {N:Nat} {l:List Token} {i:Nat} (hi:i ≤ l.length) (hl:l.length ≤ 1000000) (hN:l.length < N):qe4 N l (i:Int) = some (cmt l i):=by
 unfold qe4
 rw [wm1 (by omega)]
 have key:∀ (i M:Nat),i ≤ l.length → i < M → ((iter (fun s=>qcB N l s) M ((i:Int) - 1)).bind fun o2=>Sum.elim (fun _o2=>some ([]:Str)) (fun o2=>some o2) o2) = some (cmt l i):=by
  intro i
  induction i with
  | zero =>
   intro M _ hM
   obtain ⟨M,rfl⟩:∃ M',M = M' + 1:=⟨M - 1,by omega⟩
   simp only [iter,qcB]
   rfl
  | succ i ih =>
   intro M hi hM
   obtain ⟨M,rfl⟩:∃ M',M = M' + 1:=⟨M - 1,by omega⟩
   obtain ⟨t,ht⟩:=qcU (show i < l.length by omega)
   have e:(((i + 1:Nat):Int) - 1) = (i:Int):=by omega
   have hb:qcB N l (i:Int) = some (if t.Kind = qkY then .inl ((i:Int) - 1) else if t.Kind = kCom then .inr (.inr (Lib.trimRightS (Lib.trimLeftS t.Text [47,35,42,32]) [32])) else .inr (.inr [])):=by
    unfold qcB
    rw [decide_eq_true (show (i:Int) ≥ 0 by omega),cond_true,ixg ht]
    simp only [Option.bind_some,beqS]
    by_cases h1:t.Kind = qkY
    ·rw [decide_eq_true (show t.Kind = ([115,107,105,112]:Str) from h1),cond_true,if_pos h1,wm1 (by omega)]
    ·rw [decide_eq_false (show ¬t.Kind = ([115,107,105,112]:Str) from h1),cond_false,if_neg h1]
     by_cases h2:t.Kind = kCom
     ·rw [decide_eq_true (show t.Kind = ([99,111,109,109,101,110,116]:Str) from h2),cond_true,if_pos h2,qes,if_pos (by decide),Option.bind_some,qec,if_pos (by decide)]
      rfl
     ·rw [decide_eq_false (show ¬t.Kind = ([99,111,109,109,101,110,116]:Str) from h2),cond_false,if_neg h2]
   rw [e,cmt,ht]
   rw [iter]
   simp only [hb]
   by_cases h1:t.Kind = qkY
   ·simp only [if_pos h1]
    exact ih M (by omega) (by omega)
   ·simp only [if_neg h1]
    by_cases h2:t.Kind = kCom
    ·simp only [if_pos h2]; rfl
    ·simp only [if_neg h2]; rfl
 exact key i N hi (by omega)
def nxt (l:List Token) (i:Nat):Nat:=i + ((l.drop i).takeWhile blk).length
theorem qs9 {l:List Token} {i:Nat} (h:i ≤ l.length):i ≤ nxt l i ∧ nxt l i ≤ l.length:=by
 unfold nxt
 have:((l.drop i).takeWhile blk).length ≤ (l.drop i).length:=(List.takeWhile_sublist _).length_le
 simp only [List.length_drop] at this
 omega
theorem qrt {N:Nat} {l:List Token} (body:Int → Option (Int ⊕ Int)) (hb:∀ k:Nat,body (k:Int) = bif decide ((k:Int) < (l.length:Int)) then (idx l (k:Int)).bind fun x=>bif blk x then some (.inl ((k:Int) + 1)) else some (.inr (k:Int)) else some (.inr (k:Int))) :
  ∀ (j i M:Nat),i + j = l.length → j < M → iter body M (i:Int) = some ((nxt l i:Nat):Int):=by
 intro j
 induction j with
 | zero =>
  intro i M hi hM
  obtain ⟨M,rfl⟩:∃ M',M = M' + 1:=⟨M - 1,by omega⟩
  obtain rfl:i = l.length:=by omega
  simp only [iter,hb,dn,cond_false]
  unfold nxt
  rw [List.drop_eq_nil_of_le (Nat.le_refl _)]
  rfl
 | succ j ih =>
  intro i M hi hM
  obtain ⟨M,rfl⟩:∃ M',M = M' + 1:=⟨M - 1,by omega⟩
  have hlt:i < l.length:=by omega
  have hx:l[i]? = some l[i]:=List.getElem?_eq_getElem hlt
  simp only [iter,hb,dk hlt,cond_true,ixg hx,Option.bind_some]
  unfold nxt
  rw [List.drop_eq_getElem_cons hlt,List.takeWhile_cons]
  cases h:blk l[i] with
  | true =>
   have:=ih (i + 1) M (by omega) (by omega)
   unfold nxt at this
   rw [cond_true]
   simp only
   rw [show ((i:Int) + 1) = ((i + 1:Nat):Int) by omega,this]
   simp; omega
  | false=>rw [cond_false]; rfl
def occA (l:List Token) (i o:Nat) (k:Nat) (c:Call) (t:Token):Option Found2 :=
 let ar:=args (l.drop (o + 1))
 let a:=val ar (if 0 ≤ c.ID then c.ID else c.Source)
 let b:=val ar (if 0 ≤ c.Source then c.Source else c.ID)
 if a.2 = true ∧ b.2 = true then some (Found2.mk k t.From a.1 b.1 (cmt l i)) else none
def qgc (calls:List Call) (t:Token):Option Nat:=if t.Kind = qkS then calls.findIdx? (fun c=>t.Text == c.Name) else none
def occ (l:List Token) (calls:List Call) (i:Nat):Option Found2 :=
 match l[i]? with
 | none=>none
 | some t=>match qgc calls t with
  | none=>none
  | some k=>match l[nxt l (i + 1)]?,calls[k]? with
   | some o,some c=>if o.Kind = qlJ then occA l i (nxt l (i + 1)) k c t else none
   | _,_=>none
theorem qq5 {N:Nat} {calls:List Call} {t:Token} (hN:calls.length < N):qbr N calls t = some (match qgc calls t with | some k=>(k:Int) | none=>-1):=by
 unfold qbr
 rw [idxf (body:=fun s=>qa9 N calls t s) calls (fun c=>decide (t.Kind = qkS) && (t.Text == c.Name)) hN (fun k x hx=>by
  simp only [qa9,qdF]
  rw [dk (List.getElem?_eq_some_iff.1 hx).1,cond_true,ixg hx]
  simp only [Option.bind_some,beqS]
  by_cases h:t.Kind = qkS
  ·rw [decide_eq_true (show t.Kind = ([110,97,109,101]:Str) from h),cond_true,decide_eq_true h,Bool.true_and,Option.bind_some]
   cases decide (t.Text = x.Name) <;> rfl
  ·rw [decide_eq_false (show ¬t.Kind = ([110,97,109,101]:Str) from h),cond_false,decide_eq_false h,Bool.false_and]
   rfl) (by simp only [qa9]; rw [dn,cond_false])]
 unfold qgc
 by_cases h:t.Kind = qkS
 ·rw [if_pos h,decide_eq_true h]; simp only [Bool.true_and] <;> rfl
 ·rw [if_neg h,decide_eq_false h]
  simp only [Bool.false_and]
  rw [show calls.findIdx? (fun _=>false) = none from by rw [List.findIdx?_eq_none_iff]; intro x _; rfl]
theorem qki {calls:List Call} {t:Token} {k:Nat} (h:qgc calls t = some k):∃ c,calls[k]? = some c ∧ t.Text = c.Name ∧ t.Kind = qkS ∧ k < calls.length:=by
 unfold qgc at h
 split at h
 ·rename_i hk
  obtain ⟨h1,h2,_⟩:=List.findIdx?_eq_some_iff_getElem.1 h
  exact ⟨calls[k],List.getElem?_eq_getElem h1,by simpa using h2,hk,h1⟩
 ·cases h
theorem qnc {N:Nat} {l:List Token} {calls:List Call} {i:Nat} (hi:i < l.length) (hc:∀ c ∈ calls,okC c) (hN:l.length + calls.length + 10 < N) (hl:l.length ≤ 1000000) (ht:tsum l ≤ 1000000):qe1 N l calls (i:Int) = some (occ l calls i):=by
 obtain ⟨t,hti⟩:=qcU hi
 unfold qe1 occ
 rw [ixg hti,Option.bind_some,qq5 (by omega),Option.bind_some,hti,show (i:Int) + 1 = ((i + 1:Nat):Int) by omega,qga (by omega)]
 have hb:∀ k:Nat,(fun s=>qdf N l s) (k:Int) = bif decide ((k:Int) < (l.length:Int)) then (idx l (k:Int)).bind fun x=>bif blk x then some (.inl ((k:Int) + 1)) else some (.inr (k:Int)) else some (.inr (k:Int)):=fun k=>by
  simp only [qdf,qnY,Option.bind_some]
 rw [qrt (N:=N) _ hb (l.length - (i + 1)) (i + 1) N (by omega) (by omega),Option.bind_some]
 obtain ⟨hn1,hn2⟩:=qs9 (show i + 1 ≤ l.length by omega)
 generalize nxt l (i + 1) = o at hn1 hn2 ⊢
 dsimp only
 cases hk:qgc calls t with
 | none=>dsimp only; rw [decide_eq_true (show (-1:Int) < 0 by decide),cond_true]
 | some k =>
  obtain ⟨c,hck,_,_,hkl⟩:=qki hk
  dsimp only
  rw [decide_eq_false (show ¬(k:Int) < 0 by omega),cond_false,hck]
  by_cases ho:o = l.length
  ·rw [ho,beq_self_eq_true,cond_true,List.getElem?_eq_none (Nat.le_refl _)]
  ·have holt:o < l.length:=by omega
   obtain ⟨ot,hot⟩:=qcU holt
   rw [show ((o:Int) == (l.length:Int)) = false from by rw [beq_eq_false_iff_ne]; omega,cond_false,ixg hot,Option.bind_some,hot]
   dsimp only
   simp only [bneS]
   by_cases hop:ot.Kind = qlJ
   ·rw [decide_eq_true (show ot.Kind = ([111,112,101,110]:Str) from hop),Bool.not_true,cond_false,if_pos hop]
    rw [qny (by omega) (by omega) hl,Option.bind_some,qpF (by omega) hl (by omega),Option.bind_some,Option.bind_some,ixg hck]
    simp only [Option.bind_some]
    have hao:=qo6 (l.drop (o + 1))
    have hdl:tsum (l.drop (o + 1)) ≤ tsum l:=by have:=qiD (l:=l) (o + 1) (l.length); rwa [List.take_of_length_le (by simp)] at this
    have hdn:(l.drop (o + 1)).length ≤ l.length:=by simp
    have has:∀ a ∈ args (l.drop (o + 1)),tsum a ≤ 1000000 ∧ a.length < N ∧ a.length ≤ 1000000:=fun a ha=>by have:=hao.2 a ha; omega
    unfold occA
    obtain ⟨g1,g2,g3,g4,g5,g6⟩:=hc c (List.mem_of_getElem? hck)
    generalize args (l.drop (o + 1)) = ar at has ⊢
    have hv:∀ i:Int,0 ≤ i → qd0 N ar i = some (val ar i):=fun i hi=>qrg hi has (by decide)
    by_cases h1:0 ≤ c.ID
    ·rw [decide_eq_true (show c.ID ≥ 0 from h1),cond_true,hv _ h1,if_pos h1]
     simp only [Option.bind_some]
     by_cases h2:0 ≤ c.Source
     ·rw [decide_eq_true (show c.Source ≥ 0 from h2),cond_true,hv _ h2,if_pos h2]
      simp only [Option.bind_some]
      cases ha:(val ar c.ID).2 with
      | false=>rw [if_neg (fun h=>by cases h.1)]; rfl
      | true =>
       cases hb2:(val ar c.Source).2 with
       | false=>rw [if_neg (fun h=>by cases h.2)]; rfl
       | true =>
        rw [if_pos ⟨rfl,rfl⟩,decide_eq_false (show ¬c.ID < 0 by omega),decide_eq_false (show ¬c.Source < 0 by omega)]
        rfl
     ·rw [decide_eq_false (show ¬c.Source ≥ 0 from h2),cond_false,if_neg h2]
      simp only [Option.bind_some]
      cases ha:(val ar c.ID).2 with
      | false=>rw [if_neg (fun h=>by cases h.1)]; rfl
      | true =>
       rw [if_pos ⟨rfl,rfl⟩,decide_eq_false (show ¬c.ID < 0 by omega),decide_eq_true (show c.Source < 0 by omega)]
       rfl
    ·have h2:0 ≤ c.Source:=by
      apply Classical.byContradiction
      intro h2
      exact g6 ⟨by omega,by omega⟩
     rw [decide_eq_false (show ¬c.ID ≥ 0 from h1),cond_false,if_neg h1,if_pos h2]
     simp only [Option.bind_some]
     rw [decide_eq_true (show c.Source ≥ 0 from h2),cond_true,hv _ h2]
     simp only [Option.bind_some]
     cases hb2:(val ar c.Source).2 with
     | false=>rw [if_neg (fun h=>by cases h.1)]; rfl
     | true =>
      rw [if_pos ⟨rfl,rfl⟩,decide_eq_true (show c.ID < 0 by omega),decide_eq_false (show ¬c.Source < 0 by omega)]
      rfl
   ·rw [decide_eq_false (show ¬ot.Kind = ([111,112,101,110]:Str) from hop),Bool.not_false,cond_true,if_neg hop]
def occs (l:List Token) (calls:List Call):List Found2:=(List.range l.length).filterMap (occ l calls)
theorem qtI {N:Nat} {l:List Token} {calls:List Call} (hc:∀ c ∈ calls,okC c) (hN:l.length + calls.length + 10 < N) (hl:l.length ≤ 1000000) (ht:tsum l ≤ 1000000):∀ (k i:Nat),i + k = l.length → qgx N l calls k i = some ((List.range' i k).filterMap (occ l calls)):=by
 intro k
 induction k with
 | zero=>intro i _; rfl
 | succ k ih =>
  intro i hi
  rw [qgx,qnc (by omega) hc hN hl ht,Option.bind_some,ih (i + 1) (by omega),Option.bind_some,List.range'_succ,List.filterMap_cons]
  cases occ l calls i <;> rfl
theorem qrl {N:Nat} {l:List Token} {calls:List Call} (hc:∀ c ∈ calls,okC c) (hN:l.length + calls.length + 10 < N) (hl:l.length ≤ 1000000) (ht:tsum l ≤ 1000000):qd4 N l calls = some (occs l calls):=by
 unfold qd4 occs
 rw [qtI hc hN hl ht l.length 0 (by omega),List.range_eq_range']
theorem qqY (s:Str):(Lib.trimRightS (Lib.trimLeftS s [47,35,42,32]) [32]).length ≤ s.length:=Nat.le_trans (qiU _ _).2.2 (qiU _ _).2.1
theorem qo2 (l:List Token):∀ i,(cmt l i).length ≤ tsum l
 | 0=>by simp [cmt]
 | i + 1=>by
  rw [cmt]
  cases h:l[i]? with
  | none=>simp
  | some t =>
   simp only
   split
   ·exact qo2 l i
   ·split
    ·have h1:=qqY t.Text
     have h2:=qiL h
     have h3:=qis l (i + 1)
     omega
    ·simp
theorem qo1 {l:List Token} {calls:List Call} {i:Nat} {x:Found2} (h:occ l calls i = some x):∃ t k c z z',l[i]? = some t ∧ qgc calls t = some k ∧ calls[k]? = some c ∧ k < calls.length ∧ x.call = (k:Int) ∧ x.offset = t.From ∧ x.comment = cmt l i ∧
  x.id = (val (args (l.drop (nxt l (i + 1) + 1))) z).1 ∧ x.source = (val (args (l.drop (nxt l (i + 1) + 1))) z').1:=by
 unfold occ at h
 cases hi:l[i]? with
 | none=>rw [hi] at h; cases h
 | some k =>
  rw [hi] at h
  simp only at h
  cases hk:qgc calls k with
  | none=>rw [hk] at h; cases h
  | some j =>
   rw [hk] at h
   simp only at h
   obtain ⟨c,hcj,_,_,hjl⟩:=qki hk
   cases ho:l[nxt l (i + 1)]? with
   | none=>rw [ho] at h; cases h
   | some o =>
    rw [ho,hcj] at h
    simp only at h
    split at h
    ·unfold occA at h
     dsimp only at h
     obtain ⟨A,hA⟩:∃ A,A = val (args (l.drop (nxt l (i + 1) + 1))) (if 0 ≤ c.ID then c.ID else c.Source):=⟨_,rfl⟩
     obtain ⟨B,hB⟩:∃ B,B = val (args (l.drop (nxt l (i + 1) + 1))) (if 0 ≤ c.Source then c.Source else c.ID):=⟨_,rfl⟩
     rw [← hA,← hB] at h
     by_cases hab:A.2 = true ∧ B.2 = true
     ·rw [if_pos hab] at h
      cases h
      exact ⟨k,j,c,_,_,rfl,hk,hcj,hjl,rfl,rfl,rfl,congrArg Prod.fst hA,congrArg Prod.fst hB⟩
     ·rw [if_neg hab] at h; cases h
    ·cases h
theorem qls (l:List Token) (i:Nat) (z:Int):(val (args (l.drop (nxt l (i + 1) + 1))) z).1.length ≤ tsum l:=by
 have hdl:tsum (l.drop (nxt l (i + 1) + 1)) ≤ tsum l:=by have:=qiD (l:=l) (nxt l (i + 1) + 1) (l.length); rwa [List.take_of_length_le (by simp)] at this
 exact qsz fun a ha=>by have:=(qo6 (l.drop (nxt l (i + 1) + 1))).2 a ha; omega
theorem qpC {l:List Token} {calls:List Call} {i:Nat} {x:Found2} (h:occ l calls i = some x):x.id.length ≤ tsum l:=by
 obtain ⟨t,k,c,z,z',_,_,_,_,_,_,_,h8,_⟩:=qo1 h
 rw [h8]; exact qls l i z
theorem qqy {l:List Token} {calls:List Call} {i:Nat} {x:Found2} {t:Str} (hT:TOk t l) (h:occ l calls i = some x):FOk calls.length t.length x:=by
 obtain ⟨k,j,c,z,z',h1,h2,h3,h4,h5,h6,h7,h8,h9⟩:=qo1 h
 have hf:=hT.fr k (List.mem_of_getElem? h1)
 have hs:=hT.sum
 have hcm:=qo2 l i
 have e1:=qls l i z
 have e2:=qls l i z'
 rw [← h8] at e1
 rw [← h9] at e2
 rw [← h7] at hcm
 exact ⟨by omega,by omega,by omega,by omega,by omega,by omega,by omega⟩
theorem qsK {l:List Token} {calls:List Call} {t:Str} (hT:TOk t l):∀ x ∈ occs l calls,FOk calls.length t.length x:=by
 intro x hx
 obtain ⟨i,_,hi⟩:=List.mem_filterMap.1 hx
 exact qqy hT hi
theorem qnH (l:List Token) (calls:List Call):(occs l calls).length ≤ l.length:=by
 unfold occs
 exact Nat.le_trans (List.length_filterMap_le _ _) (by simp)
theorem qrY {nc B:Nat} {x:Found2} (h:FOk nc B x):fokb nc B x = true:=by
 unfold fokb
 exact decide_eq_true h
theorem qqk {N B:Nat} {l:List Token} {calls:List Call} {t:Str} (hc:∀ c ∈ calls,okC c) (hN:l.length + calls.length + 10 < N) (hT:TOk t l) (ht:t.length ≤ 1000000) (hB:t.length ≤ B):qfl N calls.length B l calls = some (occs l calls):=by
 unfold qfl
 have h1:=hT.len
 have h2:=hT.sum
 rw [qrl hc hN (by omega) (by omega),Option.bind_some]
 have:(occs l calls).all (fokb calls.length B) = true:=List.all_eq_true.2 fun x hx=>by
  obtain ⟨g1,g2,g3,g4,g5,g6,g7⟩:=qsK hT x hx
  exact qrY ⟨g1,g2,g3,by omega,by omega,by omega,by omega⟩
 rw [this,cond_true]
end Go.Proofs.YtllfckekodcdaaaGreatDoor
namespace Go.Proofs.YtllfckekodcdaaaGreatDoor
open Go.X
def okF (f:File):Prop:=f.Name ≠ [] ∧ f.Name.length ≤ 100 ∧ ∀ c ∈ f.Name,c ≠ 32 ∧ c ≠ 10
def NM (l:List File):Prop:=(∀ f ∈ l,okF f) ∧ (l.map File.Name).Nodup
theorem qkv:∀ (s:Str),(Lib.indexAny s [32,10] ≥ 0) ↔ ¬∀ c ∈ s,c ≠ 32 ∧ c ≠ 10:=by
 intro s
 induction s with
 | nil=>simp [Lib.indexAny]
 | cons b l ih =>
  unfold Lib.indexAny
  by_cases hb:b = 32 ∨ b = 10
  ·have hc:([32,10]:Str).contains b = true:=by
    rcases hb with rfl | rfl <;> rfl
   rw [if_pos hc]
   refine Iff.intro (fun _ h=>?_) (fun _=>by decide)
   have:=h b (List.mem_cons_self ..)
   rcases hb with hb | hb
   ·exact this.1 hb
   ·exact this.2 hb
  ·have hc:([32,10]:Str).contains b = false:=by
    simp only [List.contains_cons,List.contains_nil,Bool.or_false,Bool.or_eq_false_iff,beq_eq_false_iff_ne]
    exact ⟨fun e=>hb (.inl e),fun e=>hb (.inr e)⟩
   rw [if_neg (by rw [hc]; decide)]
   have h1:=Lib.indexAny_ge ([32,10]:Str) l
   have e1:(∀ c ∈ b :: l,c ≠ 32 ∧ c ≠ 10) ↔ ∀ c ∈ l,c ≠ 32 ∧ c ≠ 10:=by
    refine Iff.intro (fun h c hc=>h c (List.mem_cons_of_mem _ hc)) (fun h c hc=>?_)
    rcases List.mem_cons.1 hc with rfl | hc
    ·exact ⟨fun e=>hb (.inl e),fun e=>hb (.inr e)⟩
    ·exact h c hc
   rw [e1,← ih]
   by_cases h2:Lib.indexAny l [32,10] = -1
   ·rw [h2]
    simp
   ·rw [if_neg (by rw [beq_iff_eq]; exact h2)]
    omega
instance (f:File):Decidable (okF f):=by unfold okF; infer_instance
def nmG (seen:List Str) (f:File):List Str ⊕ Unit:=if okF f ∧ f.Name ∉ seen then .inl (seen ++ [f.Name]) else .inr ()
theorem qoS:∀ (l:List File) (seen:List Str),(qbb nmG l seen = .inl (seen ++ l.map File.Name) ∧ (∀ c ∈ l,okF c) ∧ (l.map File.Name).Nodup ∧ ∀ c ∈ l,c.Name ∉ seen) ∨ (qbb nmG l seen = .inr () ∧ ¬((∀ c ∈ l,okF c) ∧ (l.map File.Name).Nodup ∧ ∀ c ∈ l,c.Name ∉ seen))
 | [],seen=>.inl ⟨by simp [qbb],by simp,by simp,by simp⟩
 | c :: l,seen=>by
  rw [qbb]
  by_cases h:okF c ∧ c.Name ∉ seen
  ·have hg:nmG seen c = .inl (seen ++ [c.Name]):=by unfold nmG; rw [if_pos h]
   rw [hg]
   rcases qoS l (seen ++ [c.Name]) with ⟨h1,h2,h3,h4⟩ | ⟨h1,h2⟩
   ·refine .inl ⟨by simpa using h1,?_,?_,?_⟩
    ·intro x hx
     rcases List.mem_cons.1 hx with rfl | hx
     ·exact h.1
     ·exact h2 x hx
    ·rw [List.map_cons,List.nodup_cons]
     refine ⟨fun hm=>?_,h3⟩
     obtain ⟨x,hx,he⟩:=List.mem_map.1 hm
     exact h4 x hx (by rw [he]; simp)
    ·intro x hx
     rcases List.mem_cons.1 hx with rfl | hx
     ·exact h.2
     ·exact fun hs=>h4 x hx (List.mem_append_left _ hs)
   ·refine .inr ⟨h1,fun ⟨g1,g2,g3⟩=>h2 ⟨fun x hx=>g1 x (List.mem_cons_of_mem _ hx),?_,?_⟩⟩
    ·rw [List.map_cons,List.nodup_cons] at g2; exact g2.2
    ·intro x hx hs
     rw [List.map_cons,List.nodup_cons] at g2
     rcases List.mem_append.1 hs with hs | hs
     ·exact g3 x (List.mem_cons_of_mem _ hx) hs
     ·exact g2.1 (List.mem_map.2 ⟨x,hx,List.mem_singleton.1 hs⟩)
  ·have hg:nmG seen c = .inr ():=by unfold nmG; rw [if_neg h]
   rw [hg]
   exact .inr ⟨rfl,fun ⟨g1,g2,g3⟩=>h ⟨g1 c (List.mem_cons_self ..),g3 c (List.mem_cons_self ..)⟩⟩
theorem qpz {N:Nat} {l:List File} {k:Nat} {f:File} {seen:List Str} (hx:l[k]? = some f) (hs:seen.length ≤ 100000) :
  qc7 N l (k:Int) (seen.map fun x=>(x,true)) = some (match nmG seen f with | .inl s'=>.inl (((k + 1:Nat):Int),s'.map fun x=>(x,true)) | .inr _=>.inr (.inr false)):=by
 have hlt:=(List.getElem?_eq_some_iff.1 hx).1
 unfold qc7 nmG
 rw [dk hlt,cond_true,ixg hx,Option.bind_some,qmW]
 simp only [beqS]
 by_cases h1:f.Name = []
 ·rw [decide_eq_true h1,cond_true,if_neg (fun h:okF f ∧ f.Name ∉ seen=>h.1.1 h1)]
 ·rw [decide_eq_false h1,cond_false]
  by_cases h2:f.Name.length ≤ 100
  ·rw [decide_eq_false (show ¬(f.Name.length:Int) > 100 by omega),cond_false]
   by_cases h3:f.Name ∈ seen
   ·rw [if_pos h3,if_neg (fun h:okF f ∧ f.Name ∉ seen=>h.2 h3)]; rfl
   ·rw [if_neg h3,qm1 h3 (by omega)]
    unfold qex qfF
    rw [if_pos ⟨by decide,by decide,by omega,by decide⟩]
    simp only [Option.getD_none,cond_false,Option.bind_some]
    by_cases h4:∀ c ∈ f.Name,c ≠ 32 ∧ c ≠ 10
    ·rw [decide_eq_false (fun g=>(qkv _).1 g h4),cond_false,if_pos (show okF f ∧ f.Name ∉ seen from ⟨⟨h1,h2,h4⟩,h3⟩)]
     rfl
    ·rw [decide_eq_true ((qkv _).2 h4),cond_true,if_neg (fun h:okF f ∧ f.Name ∉ seen=>h4 h.1.2.2)]
  ·rw [decide_eq_true (show (f.Name.length:Int) > 100 by omega),cond_true,if_neg (fun h:okF f ∧ f.Name ∉ seen=>h2 h.1.2.1)]
theorem qsH {seen s':List Str} {c:File} (h:nmG seen c = .inl s'):s'.length = seen.length + 1:=by
 unfold nmG at h
 split at h
 ·cases h; simp
 ·cases h
theorem qrj {N:Nat} {l:List File} (hN:l.length < N) (hl:l.length ≤ 100000):qcl (qfO N l) (NM l):=by
 unfold qfO
 rw [qfs l nmG (fun s=>qc7 N l s.1 s.2) (fun s k=>((k:Int),s.map fun x=>(x,true))) (fun _=>.inl ()) (fun _=>.inr false) (fun k s=>s.length ≤ k) hN (s0:=([]:List Str)) (by simp)
  (fun k x s hx hi=>by
   have:=(List.getElem?_eq_some_iff.1 hx).1
   rw [qpz (seen:=s) hx (by omega)]
   cases nmG s x <;> rfl)
  (fun k x s s' hx hi hg=>by have:=qsH hg; omega)
  (fun s hi=>by unfold qc7; rw [dn,cond_false]) (t0:=(0,([]:List (Str × Bool)))) rfl,Option.bind_some]
 rcases qoS l [] with ⟨h1,h2,h3,h4⟩ | ⟨h1,h2⟩
 ·rw [h1]; exact qcl.yes rfl ⟨h2,h3⟩
 ·rw [h1]; exact qcl.no rfl fun g=>h2 ⟨g.1,g.2,fun _ _=>by simp⟩
def gT (s:List State) (all:List (List Token)) (f:File):List (List Token) ⊕ (List Entry × Place × Int) :=
 if (tokR s f.Text).2.2 ≠ 0 then .inr ([],Place.mk (all.length:Int) (tokR s f.Text).2.1,(tokR s f.Text).2.2) else .inl (all ++ [(tokR s f.Text).1])
theorem qn3 (s:List State):∀ (l:List File) (all all':List (List Token)),qbb (gT s) l all = .inl all' → all' = all ++ l.map (fun f=>(tokR s f.Text).1) ∧ ∀ f ∈ l,(tokR s f.Text).2.2 = 0
 | [],all,all',h=>by cases h; simp
 | f :: l,all,all',h=>by
  rw [qbb] at h
  by_cases h0:(tokR s f.Text).2.2 = 0
  ·have hg:gT s all f = .inl (all ++ [(tokR s f.Text).1]):=by unfold gT; rw [if_neg (by simpa using h0)]
   rw [hg] at h
   obtain ⟨h1,h2⟩:=qn3 s l _ _ h
   refine ⟨by simpa using h1,fun g hg=>?_⟩
   rcases List.mem_cons.1 hg with rfl | hg
   ·exact h0
   ·exact h2 g hg
  ·have hg:gT s all f = .inr ([],Place.mk (all.length:Int) (tokR s f.Text).2.1,(tokR s f.Text).2.2):=by unfold gT; rw [if_pos h0]
   rw [hg] at h; cases h
theorem qry (s:List State):∀ (l:List File) (all:List (List Token)),(∀ f ∈ l,(tokR s f.Text).2.2 = 0) → qbb (gT s) l all = .inl (all ++ l.map (fun f=>(tokR s f.Text).1))
 | [],all,_=>by simp [qbb]
 | f :: l,all,h=>by
  have h0:=h f (List.mem_cons_self ..)
  have hg:gT s all f = .inl (all ++ [(tokR s f.Text).1]):=by unfold gT; rw [if_neg (by simpa using h0)]
  rw [qbb,hg]
  simp only
  rw [qry s l _ fun g hg=>h g (List.mem_cons_of_mem _ hg)]
  simp
abbrev Ev:=Found2 × Str
structure SI (j:Nat) (ix:Mp) (out:List Entry):Prop where
 ol:out.length ≤ j
 il:ix.length ≤ j
 iv:∀ p ∈ ix,0 ≤ p.2 ∧ p.2 < (out.length:Int) ∧ p.1.length ≤ 1000000
 fl:∀ e ∈ out,∃ g,e.Fields = [g] ∧ g.Value.length ≤ j * 1000
 cl:∀ e ∈ out,e.Comments.length ≤ j
 fg:∀ e ∈ out,e.Flags = [] ∧ e.State = 0
set_option maxRecDepth 100000 in
theorem SI.step {j:Nat} {ix ix':Mp} {out out':List Entry} {i:Int} {f:File} {x:Found2} (b:SI j ix out) (hr:(refT f x).length + 1 ≤ 1000) (hid:x.id.length ≤ 1000000) (h:rnd i f x ix out = .inl (ix',out')):SI (j + 1) ix' out':=by
 have hz:(j + 1) * 1000 = j * 1000 + 1000:=Nat.succ_mul j 1000
 unfold rnd at h
 generalize refT f x = r at hr h
 cases hm:mget ix x.id with
 | none =>
  rw [hm] at h
  simp only [Option.isSome_none,cond_false,Sum.inl.injEq,Prod.mk.injEq] at h
  obtain ⟨rfl,rfl⟩:=h
  have hc:=qkX (E0 x.id x.source) x.comment
  have hE:(E0 x.id x.source).Comments.length = 0:=rfl
  refine ⟨by have:=b.ol; simp; omega,by have:=b.il; have:=qns ix x.id (out.length:Int); omega,fun p hp=>?_,fun e he=>?_,fun e he=>?_,fun e he=>?_⟩
  ·rw [List.length_append,List.length_singleton]
   rcases qnN hp with hp | rfl
   ·have:=b.iv p hp; omega
   ·simp only; omega
  ·rcases List.mem_append.1 he with he | he
   ·obtain ⟨g,h1,h2⟩:=b.fl e he; exact ⟨g,h1,by omega⟩
   ·obtain rfl:=List.mem_singleton.1 he
    exact ⟨Field.mk [114,101,102] ([] ++ [] ++ r),rfl,by show ([] ++ [] ++ r:Str).length ≤ _; rw [List.nil_append,List.nil_append]; omega⟩
  ·rcases List.mem_append.1 he with he | he
   ·have:=b.cl e he; omega
   ·obtain rfl:=List.mem_singleton.1 he
    show (cms (E0 x.id x.source) x.comment).length ≤ _
    omega
  ·rcases List.mem_append.1 he with he | he
   ·exact b.fg e he
   ·obtain rfl:=List.mem_singleton.1 he; exact ⟨rfl,rfl⟩
 | some v =>
  rw [hm] at h
  simp only [Option.isSome_some,cond_true,Option.getD_some] at h
  cases hk:out[v.toNat]? with
  | none=>rw [hk] at h; simp at h
  | some e0 =>
   rw [hk] at h
   simp only at h
   split at h
   case isFalse=>simp at h
   simp only [Sum.inl.injEq,Prod.mk.injEq] at h
   obtain ⟨rfl,rfl⟩:=h
   have he0:=List.mem_of_getElem? hk
   have hc:=qkX e0 x.comment
   obtain ⟨g,hg1,hg2⟩:=b.fl e0 he0
   refine ⟨by have:=b.ol; rw [List.length_set]; omega,by have:=b.il; omega,fun p hp=>by rw [List.length_set]; exact b.iv p hp,fun e he=>?_,fun e he=>?_,fun e he=>?_⟩
   ·rcases List.mem_or_eq_of_mem_set he with he | rfl
    ·obtain ⟨g,h1,h2⟩:=b.fl e he; exact ⟨g,h1,by omega⟩
    ·refine ⟨Field.mk g.Name (g.Value ++ [32] ++ r),?_,by show (g.Value ++ [32] ++ r).length ≤ _; rw [List.length_append,List.length_append,List.length_singleton]; omega⟩
     show fld e0.Fields true r = _
     rw [hg1]; rfl
   ·rcases List.mem_or_eq_of_mem_set he with he | rfl
    ·have:=b.cl e he; omega
    ·have:=b.cl e0 he0
     show (cms e0 x.comment).length ≤ _
     omega
   ·rcases List.mem_or_eq_of_mem_set he with he | rfl
    ·exact b.fg e he
    ·exact b.fg e0 he0
set_option maxRecDepth 100000 in
theorem SI.rb {N j:Nat} {ix:Mp} {out:List Entry} {f:File} {x:Found2} (b:SI j ix out) (hj:j ≤ 100000) (hN:100000 < N) (h1:f.Name.length ≤ 1000) (h2:f.Text.length ≤ 1000) (h3:0 ≤ x.offset) (h4:x.offset ≤ (f.Text.length:Int)):Rb N f x ix out where
 nm:=by omega
 tx:=by omega
 of0:=h3
 of1:=h4
 ol:=by have:=b.ol; omega
 il:=by have:=b.il; omega
 iv:=fun p hp=>⟨(b.iv p hp).1,(b.iv p hp).2.1⟩
 fl:=fun e he=>by obtain ⟨g,h,h5⟩:=b.fl e he; exact ⟨g,h,by omega⟩
 cl:=fun e he=>by have:=b.cl e he; omega
 n0:=by omega
def gR (i:Int) (f:File) (s:Mp × List Entry) (x:Found2):(Mp × List Entry) ⊕ (List Entry × Place × Int):=rnd i f x s.1 s.2
theorem qrv {f:File} {x:Found2} (h1:f.Name.length ≤ 200) (h2:f.Text.length ≤ 400) (h3:0 ≤ x.offset) (h4:x.offset ≤ (f.Text.length:Int)):(refT f x).length + 1 ≤ 1000:=by
 have hc:Lib.count (f.Text.take x.offset.toNat) [10] ≤ (f.Text.take x.offset.toNat).length + 1:=Lib.count_le _ _
 have ht:(f.Text.take x.offset.toNat).length ≤ 400:=by rw [List.length_take]; omega
 have hi:Lib.itoa (1 + (Lib.count (f.Text.take x.offset.toNat) [10]:Int)) = Lib.decDigits (1 + Lib.count (f.Text.take x.offset.toNat) [10]):=by
  unfold Lib.itoa
  rw [if_neg (by omega)]
  congr 1 <;> omega
 have hl:=qqw (1 + Lib.count (f.Text.take x.offset.toNat) [10])
 unfold refT
 rw [hi]
 simp only [List.length_append,List.length_cons,List.length_nil]
 omega
theorem qqe {N:Nat} {i:Int} {f:File} (hN:100000 < N) (h1:f.Name.length ≤ 200) (h2:f.Text.length ≤ 400):∀ (rs:List Found2) (j:Nat) (ix:Mp) (out:List Entry),(∀ x ∈ rs,0 ≤ x.offset ∧ x.offset ≤ (f.Text.length:Int) ∧ x.id.length ≤ 1000000) → SI j ix out → j + rs.length ≤ 100000 →
  runF (fun s x=>qdD N i f x s.1 s.2) rs (ix,out) = some (qbb (gR i f) rs (ix,out)) ∧ ∀ ix' out',qbb (gR i f) rs (ix,out) = .inl (ix',out') → SI (j + rs.length) ix' out'
 | [],j,ix,out,_,hS,_=>⟨rfl,fun ix' out' h=>by cases h; exact hS⟩
 | x :: rs,j,ix,out,hx,hS,hj=>by
  obtain ⟨h3,h4,h5⟩:=hx x (List.mem_cons_self ..)
  simp only [List.length_cons] at hj
  have hb:Rb N f x ix out:=hS.rb (by omega) hN (by omega) (by omega) h3 h4
  rw [runF,qbb,qnC hb,Option.bind_some]
  have e:gR i f (ix,out) x = rnd i f x ix out:=rfl
  rw [e]
  cases hr:rnd i f x ix out with
  | inr r=>exact ⟨rfl,fun ix' out' h=>by cases h⟩
  | inl s =>
   obtain ⟨ix1,out1⟩:=s
   have hS1:=hS.step (qrv h1 h2 h3 h4) h5 hr
   obtain ⟨g1,g2⟩:=qqe hN h1 h2 rs (j + 1) ix1 out1 (fun y hy=>hx y (List.mem_cons_of_mem _ hy)) hS1 (by omega)
   exact ⟨g1,fun ix' out' h=>by have:=g2 ix' out' h; rw [List.length_cons]; rwa [show j + (rs.length + 1) = j + 1 + rs.length by omega]⟩
theorem qqR {N j:Nat} {i:Int} {f:File} {rs:List Found2} {ix:Mp} {out:List Entry} (b:SI j ix out) (hj:j ≤ 100000) (hN:1000000 < N) (hi:0 ≤ i ∧ i ≤ 1000) (h1:f.Name.length ≤ 200) (h2:f.Text.length ≤ 400) (hr:rs.length ≤ 1000) (hx:∀ x ∈ rs,x.offset ≤ (f.Text.length:Int)):qe6 N i f rs ix out = true:=by
 unfold qe6
 simp only [Bool.and_eq_true,decide_eq_true_eq,List.all_eq_true]
 have h3:=b.ol; have h4:=b.il
 refine ⟨⟨by omega,by omega,by omega,by omega,by omega,by omega,by omega,by omega⟩,hx,fun p hp=>b.iv p hp,fun e he=>?_⟩
 obtain ⟨g,g1,g2⟩:=b.fl e he
 have g3:=b.cl e he
 have g4:=b.fg e he
 refine ⟨⟨by rw [g1]; rfl,by omega,by omega,g4.1,g4.2⟩,fun y hy=>?_⟩
 rw [g1] at hy
 obtain rfl:=List.mem_singleton.1 hy
 omega
theorem qnD {N j:Nat} {i:Int} {f:File} {rs:List Found2} {ix:Mp} {out:List Entry} (b:SI j ix out) (hj:j + rs.length ≤ 100000) (hN:1000000 < N) (hi:0 ≤ i ∧ i ≤ 1000) (h1:f.Name.length ≤ 200) (h2:f.Text.length ≤ 400) (hr:rs.length ≤ 1000) (hx:∀ x ∈ rs,0 ≤ x.offset ∧ x.offset ≤ (f.Text.length:Int) ∧ x.id.length ≤ 1000000) :
  qgR N i f rs ix out = some (qbb (gR i f) rs (ix,out)) ∧ ∀ ix' out',qbb (gR i f) rs (ix,out) = .inl (ix',out') → SI (j + rs.length) ix' out':=by
 unfold qgR
 rw [qqR b (by omega) hN hi h1 h2 hr (fun x h=>(hx x h).2.1),cond_true]
 exact qqe (by omega) h1 h2 rs j ix out hx b hj
def gX (s:List State) (calls:List Call) (st:Nat × Mp × List Entry) (f:File):(Nat × Mp × List Entry) ⊕ (List Entry × Place × Int) :=
 match qbb (gR (st.1:Int) f) (occs (tokR s f.Text).1 calls) (st.2.1,st.2.2) with | .inl r=>.inl (st.1 + 1,r.1,r.2) | .inr r=>.inr r
def P0:Place:=Place.mk 0 0
open Classical in
noncomputable def exR (s:List State) (calls:List Call) (files:List File):List Entry × Place × Int :=
 if Vl s ∧ VC calls ∧ NM files then
  match qbb (gT s) files [] with
  | .inr r=>r
  | .inl _=>match qbb (gX s calls) files (0,[],[]) with
   | .inr r=>r
   | .inl st=>if st.2.2.length > 1000 then ([],P0,6) else (st.2.2,P0,0)
 else ([],P0,1)
def FewQ (calls:List Call) (files:List File):Prop:=(∀ f ∈ files,f.Text.length ≤ 400 ∧ f.Name.length ≤ 200) ∧ calls.length ≤ 100 ∧ files.length ≤ 6
theorem FewP.q {calls:List Call} {files:List File} (h:FewP calls files):FewQ calls files:=⟨h.1,by have:=h.2.2.1; omega,h.2.2.2⟩
set_option maxRecDepth 100000 in
theorem extract_eq {N:Nat} {s:List State} {calls:List Call} {files:List File} (hs:Sz N s) (hb:SbS s) (hF:FewQ calls files) (hN:1000000 < N):qdV N s calls files = some (exR s calls files):=by
 obtain ⟨hf1,hf3,hf4⟩:=hF
 unfold qdV exR
 rcases (qjW hs hb (by omega)).cases with ⟨h,hv⟩ | ⟨h,hv⟩
 rotate_left
 ·rw [h,if_neg (fun g=>hv g.1)]; rfl
 rw [h,Option.bind_some,Bool.not_true,cond_false]
 rcases (qre (N:=N) (l:=calls) (by omega) (by omega)).cases with ⟨h,hc⟩ | ⟨h,hc⟩
 rotate_left
 ·rw [h,if_neg (fun g=>hc g.2.1)]; rfl
 rw [h,Option.bind_some,Bool.not_true,cond_false]
 rcases (qrj (N:=N) (l:=files) (by omega) (by omega)).cases with ⟨h,hn⟩ | ⟨h,hn⟩
 rotate_left
 ·rw [h,if_neg (fun g=>hn g.2.2)]; rfl
 rw [h,Option.bind_some,Bool.not_true,cond_false,decide_eq_false (by omega),cond_false,if_pos ⟨hv,hc,hn⟩]
 have htk:∀ f ∈ files,qfW N s f.Text = some (tokR s f.Text):=fun f hf=>qmN hs hb hv (by have:=hf1 f hf; omega) (by omega) (by have:=hf1 f hf; omega)
 rw [qfs files (gT s) (fun t=>qc8 N s files t.1 t.2) (fun all k=>(all,(k:Int))) (fun all=>.inl all) (fun r=>.inr r) (fun k all=>all.length = k) (by omega) (s0:=([]:List (List Token))) rfl
  (fun k f all hx hi=>by
   have hlt:=(List.getElem?_eq_some_iff.1 hx).1
   simp only [qc8]
   rw [dk hlt,cond_true,ixg hx,Option.bind_some,htk f (List.mem_of_getElem? hx),Option.bind_some]
   unfold gT
   by_cases h0:(tokR s f.Text).2.2 = 0
   ·rw [show ((tokR s f.Text).2.2 != 0) = false from by rw [h0]; rfl,cond_false,app1 (by simp; omega),if_neg (by simpa using h0)]; rfl
   ·rw [bne_iff_ne.2 h0,cond_true,if_pos h0,hi])
  (fun k f all all' hx hi hg=>by
   unfold gT at hg
   split at hg
   ·cases hg
   ·cases hg; simp [hi])
  (fun all hi=>by simp only [qc8]; rw [dn,cond_false]) (t0:=(([]:List (List Token)),0)) rfl,Option.bind_some]
 cases hT:qbb (gT s) files [] with
 | inr r=>rfl
 | inl all =>
  obtain ⟨hall,htok⟩:=qn3 s files [] all hT
  rw [List.nil_append] at hall
  show ((iter (fun s=>qcy N calls files all s.1 s.2.1 s.2.2) N (0,([]:Mp),[])).bind fun o82=>_) = _
  have hTO:∀ f:File,TOk f.Text (tokR s f.Text).1:=fun f=>qmA hv.1
  have hol:∀ f ∈ files,(occs (tokR s f.Text).1 calls).length ≤ 400:=fun f hf=>by
   have h1:=qnH (tokR s f.Text).1 calls
   have h2:=(hTO f).len
   have h3:=hf1 f hf
   omega
  have hox:∀ f ∈ files,∀ x ∈ occs (tokR s f.Text).1 calls,0 ≤ x.offset ∧ x.offset ≤ (f.Text.length:Int) ∧ x.id.length ≤ 1000000:=fun f hf x hx=>by
   unfold occs at hx
   obtain ⟨i,_,hi⟩:=List.mem_filterMap.1 hx
   obtain ⟨g1,g2,g3,g4,g5,g6,g7⟩:=qqy (hTO f) hi
   have h3:=(hTO f).sum
   have hvl:x.id.length ≤ tsum (tokR s f.Text).1:=qpC hi
   have:=hf1 f hf
   exact ⟨g3,g4,by omega⟩
  rw [qfs files (gX s calls) (fun t=>qcy N calls files all t.1 t.2.1 t.2.2) (fun st k=>((st.1:Int),st.2.1,st.2.2)) (fun st=>.inl (st.2.2,st.2.1)) (fun r=>.inr r) (fun k st=>st.1 = k ∧ SI (k * 400) st.2.1 st.2.2) (by omega) (s0:=((0,[],[]):Nat × Mp × List Entry)) ⟨rfl,by simp,by simp,by simp,by simp,by simp,by simp⟩
   (fun k f st hx hi=>by
    have hlt:=(List.getElem?_eq_some_iff.1 hx).1
    have hm:=List.mem_of_getElem? hx
    obtain ⟨h1,h2⟩:=hi
    simp only [qcy]
    have hax:all[k]? = some (tokR s f.Text).1:=by rw [hall,List.getElem?_map,hx]; rfl
    have hff:=hf1 f hm
    have hos:=hol f hm
    rw [h1,dk hlt,cond_true,ixg hx,Option.bind_some,ixg hax,Option.bind_some,qqk hc.1 (by have:=(hTO f).len; omega) (hTO f) (by omega) (Nat.le_refl _),Option.bind_some]
    obtain ⟨e1,_⟩:=qnD (N:=N) (i:=(k:Int)) h2 (by omega) hN (by omega) hff.2 hff.1 (by omega) (hox f hm)
    rw [e1,Option.bind_some]
    unfold gX
    rw [h1]
    cases qbb (gR (k:Int) f) (occs (tokR s f.Text).1 calls) (st.2.1,st.2.2) <;> rfl)
   (fun k f st st' hx hi hg=>by
    have hlt:=(List.getElem?_eq_some_iff.1 hx).1
    have hm:=List.mem_of_getElem? hx
    obtain ⟨h1,h2⟩:=hi
    have hff:=hf1 f hm
    have hos:=hol f hm
    obtain ⟨_,e2⟩:=qnD (N:=N) (i:=(st.1:Int)) h2 (by omega) hN (by omega) hff.2 hff.1 (by omega) (hox f hm)
    unfold gX at hg
    cases hfo:qbb (gR (st.1:Int) f) (occs (tokR s f.Text).1 calls) (st.2.1,st.2.2) with
    | inr r=>rw [hfo] at hg; cases hg
    | inl r =>
     rw [hfo] at hg
     cases hg
     refine ⟨by simp only; omega,?_⟩
     have hS:=e2 r.1 r.2 hfo
     have hle:k * 400 + (occs (tokR s f.Text).1 calls).length ≤ (k + 1) * 400:=by omega
     exact ⟨Nat.le_trans hS.ol hle,Nat.le_trans hS.il hle,hS.iv,fun e he=>by obtain ⟨g,a,b⟩:=hS.fl e he; exact ⟨g,a,Nat.le_trans b (Nat.mul_le_mul_right _ hle)⟩,fun e he=>Nat.le_trans (hS.cl e he) hle,hS.fg⟩)
   (fun st hi=>by simp only [qcy]; rw [hi.1,dn,cond_false]) (t0:=(0,([]:Mp),([]:List Entry))) rfl,Option.bind_some]
  cases qbb (gX s calls) files (0,[],[]) with
  | inr r=>rfl
  | inl st =>
   show (bif decide ((st.2.2.length:Int) > 1000) then some (([],P0,6):List Entry × Place × Int) else some (st.2.2,P0,0)) = _
   by_cases h:st.2.2.length > 1000
   ·rw [decide_eq_true (show (st.2.2.length:Int) > 1000 by omega),cond_true]; simp only [if_pos h]
   ·rw [decide_eq_false (show ¬(st.2.2.length:Int) > 1000 by omega),cond_false]; simp only [if_neg h]
end Go.Proofs.YtllfckekodcdaaaGreatDoor
