/- Texts of this proof, put together by pack.py: what its declarations name. -/
import Derived.Test.YtboacfcnmhnbdaaGreatDoorPkS3
import Derived.Test.YtboacfcnmhnbdaaGreatDoorCards
import Derived.Test.YtboacfcnmhnbdaaGreatDoorChecked
import Derived.Test.YtboacfcnmhnbdaaGreatDoorProg
import Derived.Test.YtboacfcnmhnbdaaGreatDoorRows
import Derived.Test.YtboacfcnmhnbdaaGreatDoorTie
set_option linter.unusedVariables false
namespace Go.Proofs.YtboacfcnmhnbdaaGreatDoor
open Go.X
variable {u:World} {m0:Mem} {S:Segs} {w:World}
set_option maxHeartbeats 4000000
set_option maxRecDepth 100000
def qjz (u:World) (m0:Mem) (S:Segs) (pb0:Nat) (x0:Classes) (c1:Value) (c3:Value) (M4:List (Nat × Obj)) (c6:Value) (M7:List (Nat × Obj)) (r:Classes) (a:Act) (w:World):Prop :=
 ∃ m1 c9 c11 M12 c14 M15,m0.le m1 ∧ Ok u m1 ([(pb0,oc 153 [c9,c11,c14])] :: M12 :: M15 :: S) w ∧ a.defers = [] ∧ RVs Tryz.prog a w [] ∧ (pL 4 qai) m1 [c9] r.l ∧ ORow 162 2 qcj m1 c11 r.wholes M12 ∧ ORow 162 2 qcj m1 c14 r.fraction M15
theorem qjB (N:Nat) {pb0:Nat} {c1:Value} {c3:Value} {M4:List (Nat × Obj)} {c6:Value} {M7:List (Nat × Obj)} (x0:Classes) (h2:(pL 4 qai) m0 [c1] x0.l) (h5:ORow 162 2 qcj m0 c3 x0.wholes M4) (h8:ORow 162 2 qcj m0 c6 x0.fraction M7) {r:Classes} (hF:qdF N x0 = some r) (hG:Glob u) (hTb:Tab u) (ok:Ok u m0 ([(pb0,oc 153 [c1,c3,c6])] :: M4 :: M7 :: S) w) :
  Calls Tryz.prog 146 [vp pb0].toArray w fun e w'=>∃ m1 c9 c11 M12 c14 M15,e = .returned (.tuple [].toArray) ∧ m0.le m1 ∧ Ok u m1 ([(pb0,oc 153 [c9,c11,c14])] :: M12 :: M15 :: S) w' ∧ (pL 4 qai) m1 [c9] r.l ∧ ORow 162 2 qcj m1 c11 r.wholes M12 ∧ ORow 162 2 qcj m1 c14 r.fraction M15:=by
 have le_m0:=Mem.le.refl m0
 unfold qdF at hF
 refine en (qjz u m0 S pb0 x0 c1 c3 M4 c6 M7) r Tryz.func146 rfl rfl rfl (by rintro a w ⟨m1,c9,c11,M12,c14,M15,hle,ok,hd,hrv,h0,h1,h2⟩; exact qat [] hd rfl hrv ⟨m1,c9,c11,M12,c14,M15,rfl,hle,ok,h0,h1,h2⟩) fun fin a E=>sg<|mv E rfl fun a E=>lw E (qaq rfl) fun a E=>fv E qi6 rfl fun a E=>ld E ok qeS 0 rfl rfl rfl fun a E=>lv E ok (qaH qbT h2 rfl) fun a E=>?_
 obtain ⟨l17,e18,hF⟩:=bnd hF
 refine qeV (R:=qbA) E ok qeT qe1 rfl ⟨rfl,(ir 0),(ir 0)⟩ rfl e18 rfl rfl fun c19 M20 a w E ok h21=>lw E (qa0 (ps:=[(0,.const (vs ([]))),(1,.tmp 19),(2,.const (vb true))]) (qs:=[(0,[(vs ([]))]),(1,[c19]),(2,[vb true])]) (cs:=[(vs ([])),c19,vb true]) qbH qdN rfl ⟨rfl,rfl,rfl,⟨rfl,(ORow.cells h21),rfl,⟨rfl,rfl,rfl,trivial⟩⟩⟩ rfl) fun a E=>?_
 obtain ⟨m22,hle,ok,hfz⟩:=(ok.frs 0 rfl).freeze
 have h23:=ORow.froz qbd h21 hle hfz (by decide)
 have le_m0:=le_m0.trans hle
 have h2:=(mL qad).up hle h2
 have h5:=ORow.up qcO hle h5
 have h8:=ORow.up qcO hle h8
 refine qbs (R:=qia) (xo:=[.tmp 20]) (xs:=([(State.mk ([]) l17 true)]:List (State))) E ok qm1 qbH rfl ⟨⟨_,rfl,rfl,⟨_,rfl,(show ([]:List UInt8).length ≤ LIMS by decide),h23⟩⟩,trivial⟩ rfl rfl rfl rfl fun c24 M25 a w E ok h26=>aw E rfl fun a E=>sg<|av E rfl fun a E=>wpList_nil ?_
 refine qaa<|wp_block ?_
 obtain ⟨o43,hL,hF⟩:=bnd hF
 refine qaI _ (fun (s:(List (State)) × Int × Classes) a w=>∃ m44 c45 M46 c49 c51 M52 c54 M55,m22.le m44 ∧ Ok u m44 (M46 :: [(pb0,oc 153 [c49,c51,c54])] :: M52 :: M55 :: S) w ∧ Env 136 a [(0,vp pb0),(2,c45),(3,vi s.2.1)] ∧ ORow 172 3 qia m44 c45 s.1 M46 ∧ InR .i64 s.2.1 ∧ (pL 4 qai) m44 [c49] s.2.2.l ∧ ORow 162 2 qcj m44 c51 s.2.2.wholes M52 ∧ ORow 162 2 qcj m44 c54 s.2.2.fraction M55) (fun (b:Classes) e a w=>e = (.exit 0) ∧ ∃ m522 c523 c525 M526 c528 M529,m22.le m522 ∧ Ok u m522 ([(pb0,oc 153 [c523,c525,c528])] :: M526 :: M529 :: S) w ∧ Env 136 a [] ∧ (pL 4 qai) m522 [c523] b.l ∧ ORow 162 2 qcj m522 c525 b.wholes M526 ∧ ORow 162 2 qcj m522 c528 b.fraction M529) ?_ ?_ N _ a w hL ⟨m22,c24,M25,c1,c3,M4,c6,M7,Mem.le.refl _,ok,E.keep [0,2,3],h26,(ir 0),h2,h5,h8⟩
 rotate_left
 ·intro e a w _ hO
  obtain ⟨rfl,m513,c514,c516,M517,c519,M520,hle,ok,E,h515,h518,h521⟩:=hO
  have le_m0:=le_m0.trans hle
  have h2:=(mL qad).up hle h2
  have h23:=(mL qbd).up hle h23
  refine qaK ?_
  exact fin hF ⟨m513,c514,c516,M517,c519,M520,le_m0,ok,E.d,trivial,h515,h518,h521⟩
 rintro ⟨level_57,n_58,x_59⟩ a w r ⟨m60,c61,M62,c65,c67,M68,c70,M71,hle,ok,E,h63,r64,h66,h69,h72⟩ hF
 replace hF:qbm N level_57 n_58 x_59 = some r:=hF
 unfold qbm at hF
 have le_m22:=Mem.le.refl m22
 have le_m0:=le_m0.trans hle
 have le_m22:=le_m22.trans hle
 have h2:=(mL qad).up hle h2
 have h23:=(mL qbd).up hle h23
 refine wp_seq<|sg<|mv E rfl fun a E=>lw E (qgT rfl rfl) fun a E=>wn<|cf E rfl hF (fun hc73 hF=>?_) fun hc73 hF=>?_
 rotate_left
 ·refine wp_exit<|qaB ?_
  obtain rfl:=sj hF
  exact so (⟨rfl,⟨m60,c65,c67,M68,c70,M71,le_m22,(ok.pk 4 [1,2,3] rfl (by decide)),E.keep [],h66,h69,h72⟩⟩)
 refine wp_skip<|qaa<|wp_seq<|wp_block<|sg<|av E rfl fun a E=>wpList_nil ?_
 refine qaa<|sg<|qsD kS (oneV pB) E ok rfl rfl fun c74 M75 a w E ok h76=>aw E rfl fun a E=>wp_seq ?_
 refine sg<|mv E rfl fun a E=>lv E ok (qhJ qm1 h63 rfl) fun a E=>mv E rfl fun a E=>wn<|wp_block ?_
 obtain ⟨M93,ok,h94⟩:=qdX (e:=172) (k:=3) (R:=qia) ok
 obtain ⟨o95,hL,hF⟩:=bnd hF
 refine qaI _ (fun (s:(List (State)) × Int × Classes × (List (List UInt8 × Bool))) a w=>∃ m96 c97 M98 c101 c103 M104 c106 M107 c109 M110,m60.le m96 ∧ Ok u m96 (M98 :: M110 :: M62 :: [(pb0,oc 153 [c101,c103,c106])] :: M104 :: M107 :: S) w ∧ Env 136 a [(0,vp pb0),(3,vi n_58),(4,c97),(5,c109),(27,c61),(28,(vi (level_57.length:Int))),(29,vi s.2.1)] ∧ ORow 172 3 qia m96 c97 s.1 M98 ∧ InR .i64 s.2.1 ∧ (pL 4 qai) m96 [c101] s.2.2.1.l ∧ ORow 162 2 qcj m96 c103 s.2.2.1.wholes M104 ∧ ORow 162 2 qcj m96 c106 s.2.2.1.fraction M107 ∧ OMap kS (oneV pB) m96 c109 s.2.2.2 M110) (fun (b:(Classes × (List (State)))) e a w=>e = (.exit 2) ∧ ∃ m501 c502 c504 M505 c507 M508 c510 M511,m60.le m501 ∧ Ok u m501 (M511 :: M62 :: [(pb0,oc 153 [c502,c504,c507])] :: M505 :: M508 :: S) w ∧ Env 136 a [(0,vp pb0),(3,vi n_58),(4,c510)] ∧ (pL 4 qai) m501 [c502] b.1.l ∧ ORow 162 2 qcj m501 c504 b.1.wholes M505 ∧ ORow 162 2 qcj m501 c507 b.1.fraction M508 ∧ ORow 172 3 qia m501 c510 b.2 M511) ?_ ?_ N _ a w hL ⟨m60,(Value.slice none 0 0),M93,c65,c67,M68,c70,M71,c74,M75,Mem.le.refl _,ok,E.keep [0,3,4,5,27,28,29],h94,(ir 0),h66,h69,h72,h76⟩
 rotate_left
 ·intro e a w _ hO
  obtain ⟨rfl,m489,c490,c492,M493,c495,M496,c498,M499,hle,ok,E,h491,h494,h497,h500⟩:=hO
  have le_m0:=le_m0.trans hle
  have le_m22:=le_m22.trans hle
  have h2:=(mL qad).up hle h2
  have h23:=(mL qbd).up hle h23
  have h66:=(mL qad).up hle h66
  refine qaK<|qaa<|qab<|mv E rfl fun a E=>av E rfl fun a E=>wpList_nil<|qal<|qaa ?_
  refine qab<|mv E rfl fun a E=>lw E (qbc rfl rfl) fun a E=>av E rfl fun a E=>wpList_nil ?_
  obtain rfl:=sj hF
  exact qau ⟨m489,c498,M499,c490,c492,M493,c495,M496,le_m22,(ok.pk 5 [0,2,3,4] rfl (by decide)),E.keep [0,2,3],h500,(InR.wrap _ _),h491,h494,h497⟩
 rintro ⟨next_112,x_113,x_114,known_115⟩ a w r ⟨m116,c117,M118,c121,c123,M124,c126,M127,c129,M130,hle,ok,E,h119,r120,h122,h125,h128,h131⟩ hF
 replace hF:qa9 N level_57 next_112 x_113 x_114 known_115 = some r:=hF
 unfold qa9 at hF
 have le_m60:=Mem.le.refl m60
 have le_m0:=le_m0.trans hle
 have le_m22:=le_m22.trans hle
 have le_m60:=le_m60.trans hle
 have h2:=(mL qad).up hle h2
 have h23:=(mL qbd).up hle h23
 have h63:=ORow.up qes hle h63
 have h66:=(mL qad).up hle h66
 refine sg<|lw E (qaF rfl rfl) fun a E=>wn<|wp_seq<|cf E rfl hF (fun hc132 hF=>?_) fun hc132 hF=>?_
 rotate_left
 ·refine wp_exit<|qaB ?_
  obtain rfl:=sj hF
  exact so (⟨rfl,⟨m116,c121,c123,M124,c126,M127,c117,M118,le_m60,(ok.pk 6 [0,2,3,4,5] rfl (by decide)),E.keep [0,3,4],h122,h125,h128,h119⟩⟩)
 refine wp_skip<|qaa<|wp_seq<|wp_block<|sg ?_
 obtain ⟨x133,e134,hF⟩:=bnd hF
 obtain ⟨b135,o136,hp137,yy138⟩:=qdZ qm1 h63 e134 (P:=Tryz.prog) (X:=.tmp 27) (I:=.tmp 29) (kd:=.i64) (qak E rfl) (qak E rfl)
 refine lv E ok (yy138 _ _) fun a E=>?_
 obtain ⟨es139,hl140,rr141,hh142⟩:=qgs h63 e134 hp137 (by decide)
 obtain ⟨c144,rfl,l143,h145⟩:=rr141
 refine lv E ok (qao (cs:=[vs x133.s,c144,vb x133.integer]) qrd rfl rfl (hh142 _ _ _ 2 rfl)) fun a E=>qaR E ok qbH rfl rfl fun b146 a w E ok=>qae E ok 0 rfl rfl rfl qf1 rfl rfl ⟨rfl,(qh9 h145),rfl,trivial⟩ rfl rfl fun w ok=>wn<|sg<|mv E rfl fun a E=>?_
 refine fv E qkd rfl fun a E=>ld E ok qlg 0 rfl rfl rfl fun a E=>?_
 obtain ⟨r147,e148,hF⟩:=bnd hF
 replace ok:Ok u m116 ([(pb0,oc 153 [c121,c123,c126])] :: M124 :: M127 :: [(b146,oc 172 [vs x133.s,c144,vb x133.integer])] :: M118 :: M130 :: M62 :: S) w:=(ok.pk 7 [4,5,6,0,1,2,3] rfl (by decide))
 refine qag E qsx rfl (qik N true _ x133.trackers h145 x_114 h122 h125 h128 e148 hG ok) rfl rfl ?_
 rintro _ w ⟨⟨rfl,ok⟩,r149⟩
 refine ⟨_,rfl,fun a E=>?_⟩
 refine aw E rfl fun a E=>wp_seq<|sg<|fv E qlz rfl fun a E=>ld E ok qeQ 3 rfl rfl rfl fun a E=>?_
 refine lw E (qaS rfl) fun a E=>wn ?_
 obtain ⟨o150,hJ,hF⟩:=bnd hF
 refine qaV (Q':=fun e a w=>e = .normal ∧ Ok u m116 ([(pb0,oc 153 [c121,c123,c126])] :: M124 :: M127 :: [(b146,oc 172 [vs x133.s,c144,vb x133.integer])] :: M118 :: M130 :: M62 :: S) w ∧ Env 136 a [(0,vp pb0),(3,vi n_58),(4,c117),(5,c129),(7,vp b146),(8,vu o150),(27,c61),(28,(vi (level_57.length:Int))),(29,vi x_113)] ∧ InR .u64 o150) ?_ ?_
 ·replace hF:=hJ
  clear hJ
  refine cf E rfl hF (fun hc152 hF=>?_) fun hc152 hF=>?_
  rotate_left
  ·refine wp_skip ?_
   obtain rfl:=sj hF
   exact ⟨rfl,⟨ok,E.keep [0,3,4,5,7,8,27,28,29],r149⟩⟩
  refine qab<|mv E rfl fun a E=>lw E (qke .or (by decide) rfl rfl) fun a E=>av E rfl fun a E=>wpList_nil ?_
  obtain rfl:=sj hF
  exact ⟨rfl,⟨ok,E.keep [0,3,4,5,7,8,27,28,29],(qpv .or .u64 r147 9223372036854775808)⟩⟩
 clear hJ
 intro e a w hO
 obtain ⟨rfl,ok,E,r153⟩:=hO
 refine qaa<|wp_seq ?_
 obtain ⟨o154,hJ,hF⟩:=bnd hF
 refine qaV (Q':=fun e a w=>e = .normal ∧ ∃ m155 c156 c158 M159 c161 M162,m116.le m155 ∧ Ok u m155 ([(pb0,oc 153 [c156,c158,c161])] :: M159 :: M162 :: [(b146,oc 172 [vs x133.s,c144,vb x133.integer])] :: M118 :: M130 :: M62 :: S) w ∧ Env 136 a [(0,vp pb0),(3,vi n_58),(4,c117),(5,c129),(7,vp b146),(27,c61),(28,(vi (level_57.length:Int))),(29,vi x_113)] ∧ (pL 4 qai) m155 [c156] o154.l ∧ ORow 162 2 qcj m155 c158 o154.wholes M159 ∧ ORow 162 2 qcj m155 c161 o154.fraction M162) ?_ ?_
 ·replace hF:=hJ
  clear hJ
  have le_m116:=Mem.le.refl m116
  obtain ⟨r164,e165,hF⟩:=bnd hF
  obtain rfl:=sj hF
  refine qbG [4,7] (Cls u m116 ([(pb0,oc 153 [c121,c123,c126])] :: M124 :: [(b146,oc 172 [vs x133.s,c144,vb x133.integer])] :: M118 :: M130 :: M62 :: [])) (Cls u m116 (M124 :: [(b146,oc 172 [vs x133.s,c144,vb x133.integer])] :: M118 :: M130 :: M62 :: [])) (by kernel_rfl) ?_
  intro w hw
  replace ok:=qce ok hw
  clear hw
  have h122_o:=h122
  have h145_o:=h145
  refine qaA (cl1 (cq le_m116 ok [0,1,3,4,5,6] rfl) (cq le_m116 ok [1,3,4,5,6] rfl)) fun hT=>kt 0 E rfl hT (qah rfl) fun a E=>kt 1 E rfl hT (qah rfl) fun a E=>kt 2 E rfl hT (qaq rfl) fun a E=>kt 3 E rfl hT (qan qkj rfl) fun a E=>qdo 4 E rfl (by kernel_rfl) nP hT (qap qij rfl (qac.cown 0 rfl rfl)) rfl rfl fun a E=>kt 5 E rfl hT (qah rfl) fun a E=>kt 6 E rfl hT (qan qn4 rfl) fun a E=>?_
  refine qdo 7 E rfl (by kernel_rfl) nP hT (qap qaN rfl (qac.cown 2 rfl rfl)) rfl rfl fun a E=>kt 8 E rfl hT (qa0 (ps:=[(0,.tmp 47),(1,.tmp 49)]) (qs:=[(0,[vu o150]),(1,[vs x133.s])]) (cs:=[vu o150,vs x133.s]) qf6 qog rfl ⟨rfl,rfl,rfl,⟨rfl,rfl,rfl,trivial⟩⟩ rfl) fun a E=>qaP [9] (by kernel_rfl) rfl (qaU ?_)
  ·refine qcA (o:=_) rfl ?_
   replace ok:Ok u m116 (M127 :: [(pb0,oc 153 [c121,c123,c126])] :: M124 :: [(b146,oc 172 [vs x133.s,c144,vb x133.integer])] :: M118 :: M130 :: M62 :: S) w:=(ok.pk 7 [2,0,1,3,4,5,6] rfl (by decide))
   refine qag E qsW rfl (ql1 N _ x_114.fraction h128 _ (Part.mk o150 x133.s) ⟨rfl,r153,l143⟩ e165 hG ok) rfl rfl ?_
   rintro _ w ⟨m170,c171,M172,rfl,hle,ok,h173⟩
   have le_m0:=le_m0.trans hle
   have le_m22:=le_m22.trans hle
   have le_m60:=le_m60.trans hle
   have le_m116:=le_m116.trans hle
   have h2:=(mL qad).up hle h2
   have h23:=(mL qbd).up hle h23
   have h63:=ORow.up qes hle h63
   have h66:=(mL qad).up hle h66
   have h119:=ORow.up qes hle h119
   have h122:=(mL qad).up hle h122
   have h125:=ORow.up qcO hle h125
   have h131:=OMap.up (qil mB) hle h131
   have h145:=(mL qbd).up hle h145
   refine ⟨_,rfl,fun a E=>?_⟩
   refine wn<|qaA (cl1 (cq le_m116 ok [1,2,3,4,5,6] rfl) (cq le_m116 ok [2,3,4,5,6] rfl)) fun hT=>kt 10 E rfl hT (qaq rfl) fun a E=>kt 11 E rfl hT (qan qkj rfl) fun a E=>qaP [12] (by kernel_rfl) rfl (qaU ?_)
   ·refine wo rfl<|qae E ok 1 rfl rfl rfl qrx (ORow.cells h173) rfl ⟨(ORow.one h173),trivial⟩ rfl rfl fun w ok=>wn<|qaA (cl2 (by kernel_rfl) (cq le_m116 ok [2,3,4,5,6] rfl)) fun hT=>qbg (by kernel_rfl) ?_
    exact ⟨rfl,⟨m170,c121,c123,M124,c171,M172,le_m116,(ok.pk 7 [1,2,0,3,4,5,6] rfl (by decide)),E.keep [0,3,4,5,7,27,28,29],h122,h125,h173⟩⟩
 clear hJ
 intro e a w hO
 obtain ⟨rfl,m174,c175,c177,M178,c180,M181,hle,ok,E,h176,h179,h182⟩:=hO
 have le_m0:=le_m0.trans hle
 have le_m22:=le_m22.trans hle
 have le_m60:=le_m60.trans hle
 have h2:=(mL qad).up hle h2
 have h23:=(mL qbd).up hle h23
 have h63:=ORow.up qes hle h63
 have h66:=(mL qad).up hle h66
 have h119:=ORow.up qes hle h119
 have h122:=(mL qad).up hle h122
 have h131:=OMap.up (qil mB) hle h131
 have h145:=(mL qbd).up hle h145
 refine qaa<|sg<|mv E rfl fun a E=>wn<|wp_block ?_
 obtain ⟨o194,hL,hF⟩:=bnd hF
 refine qaI _ (fun (s:(List (State)) × Int × (List (List UInt8 × Bool))) a w=>∃ m195 c196 M197 c200 M201,m174.le m195 ∧ Ok u m195 ([(pb0,oc 153 [c175,c177,c180])] :: M178 :: M181 :: [(b146,oc 172 [vs x133.s,c144,vb x133.integer])] :: M197 :: M201 :: M62 :: S) w ∧ Env 136 a [(0,vp pb0),(3,vi n_58),(4,c196),(5,c200),(7,vp b146),(27,c61),(28,(vi (level_57.length:Int))),(29,vi x_113),(54,vi s.2.1)] ∧ ORow 172 3 qia m195 c196 s.1 M197 ∧ InR .i64 s.2.1 ∧ OMap kS (oneV pB) m195 c200 s.2.2 M201) (fun (b:((List (State)) × (List (List UInt8 × Bool)))) e a w=>e = (.exit 4) ∧ ∃ m482 c483 M484 c486 M487,m174.le m482 ∧ Ok u m482 ([(pb0,oc 153 [c175,c177,c180])] :: M178 :: M181 :: [(b146,oc 172 [vs x133.s,c144,vb x133.integer])] :: M484 :: M487 :: M62 :: S) w ∧ Env 136 a [(0,vp pb0),(3,vi n_58),(4,c483),(5,c486),(27,c61),(28,(vi (level_57.length:Int))),(29,vi x_113)] ∧ ORow 172 3 qia m482 c483 b.1 M484 ∧ OMap kS (oneV pB) m482 c486 b.2 M487) ?_ ?_ N _ a w hL ⟨m174,c117,M118,c129,M130,Mem.le.refl _,ok,E.keep [0,3,4,5,7,27,28,29,54],h119,(ir 0),h131⟩
 rotate_left
 ·intro e a w _ hO
  obtain ⟨rfl,m475,c476,M477,c479,M480,hle,ok,E,h478,h481⟩:=hO
  have le_m0:=le_m0.trans hle
  have le_m22:=le_m22.trans hle
  have le_m60:=le_m60.trans hle
  have h2:=(mL qad).up hle h2
  have h23:=(mL qbd).up hle h23
  have h63:=ORow.up qes hle h63
  have h66:=(mL qad).up hle h66
  have h122:=(mL qad).up hle h122
  have h145:=(mL qbd).up hle h145
  have h176:=(mL qad).up hle h176
  have h179:=ORow.up qcO hle h179
  have h182:=ORow.up qcO hle h182
  refine qaK<|qal<|qaa<|qab<|lw E (qaD rfl rfl (InR.inc r120 (ORow.InR h63) hc132)) fun a E=>mv E rfl fun a E=>wpList_nil ?_
  obtain rfl:=sj hF
  exact qau ⟨m475,c476,M477,c175,c177,M178,c180,M181,c479,M480,le_m60,(ok.pk 7 [4,5,6,0,1,2] rfl (by decide)),E.keep [0,3,4,5,27,28,29],h478,(InR.inc r120 (ORow.InR h63) hc132),h176,h179,h182,h481⟩
 rintro ⟨next_203,x_204,known_205⟩ a w r ⟨m206,c207,M208,c211,M212,hle,ok,E,h209,r210,h213⟩ hF
 replace hF:qa8 N x133 o154 next_203 x_204 known_205 = some r:=hF
 unfold qa8 at hF
 have le_m174:=Mem.le.refl m174
 have le_m0:=le_m0.trans hle
 have le_m22:=le_m22.trans hle
 have le_m60:=le_m60.trans hle
 have le_m174:=le_m174.trans hle
 have h2:=(mL qad).up hle h2
 have h23:=(mL qbd).up hle h23
 have h63:=ORow.up qes hle h63
 have h66:=(mL qad).up hle h66
 have h122:=(mL qad).up hle h122
 have h145:=(mL qbd).up hle h145
 have h176:=(mL qad).up hle h176
 have h179:=ORow.up qcO hle h179
 have h182:=ORow.up qcO hle h182
 refine sg<|lw E (qaF rfl rfl) fun a E=>wn<|wp_seq<|cf E rfl hF (fun hc214 hF=>?_) fun hc214 hF=>?_
 rotate_left
 ·refine wp_exit<|qaB ?_
  obtain rfl:=sj hF
  exact so (⟨rfl,⟨m206,c207,M208,c211,M212,le_m174,ok,E.keep [0,3,4,5,27,28,29],h209,h213⟩⟩)
 refine wp_skip<|qaa<|wp_seq<|wp_block<|sg<|mv E rfl fun a E=>av E rfl fun a E=>?_
 refine wn<|wp_seq ?_
 obtain ⟨o215,hJ,hF⟩:=bnd hF
 refine qaV (Q':=fun e a w=>e = .normal ∧ ∃ b220 c217 M218,Ok u m206 ([(b220,oc 172 [vs o215.s,c217,vb o215.integer])] :: M218 :: [(pb0,oc 153 [c175,c177,c180])] :: M178 :: M181 :: [(b146,oc 172 [vs x133.s,c144,vb x133.integer])] :: M208 :: M212 :: M62 :: S) w ∧ Env 136 a [(0,vp pb0),(3,vi n_58),(4,c207),(5,c211),(7,vp b146),(9,vi x_204),(10,vp b220),(27,c61),(28,(vi (level_57.length:Int))),(29,vi x_113),(54,vi x_204)] ∧ o215.s.length ≤ LIMS ∧ ORow 157 2 qbA m206 c217 o215.trackers M218) ?_ ?_
 rotate_left
 ·as_aux_lemma =>
   clear hJ
   intro e a w hO
   obtain ⟨rfl,b288,c285,M286,ok,E,l284,h287⟩:=hO
   refine qaa<|sg<|fv E qlz rfl fun a E=>ld E ok qeQ 0 rfl rfl rfl fun a E=>?_
   obtain ⟨r289,e290,hF⟩:=bnd hF
   refine qag E qvO rfl (qlP N o215.integer e290 hG ok) rfl rfl ?_
   rintro _ w ⟨⟨rfl,ok⟩,l291⟩
   refine ⟨_,rfl,fun a E=>?_⟩
   refine aw E rfl fun a E=>wp_seq<|sg<|mv E rfl fun a E=>lw E (qaq rfl) fun a E=>?_
   refine fv E qi6 rfl fun a E=>ld E ok qeS 2 rfl rfl rfl fun a E=>lv E ok (qaH qbT h176 rfl) fun a E=>mv E rfl fun a E=>wn<|wp_block ?_
   obtain ⟨o300,hL,hF⟩:=bnd hF
   refine qaI _ (fun (s:(List UInt8) × Int × State) a w=>∃ m301 c305 M306,m206.le m301 ∧ Ok u m301 ([(b288,oc 172 [vs s.2.2.s,c305,vb s.2.2.integer])] :: M306 :: [(pb0,oc 153 [c175,c177,c180])] :: M178 :: M181 :: [(b146,oc 172 [vs x133.s,c144,vb x133.integer])] :: M208 :: M212 :: M62 :: S) w ∧ Env 136 a [(0,vp pb0),(3,vi n_58),(4,c207),(5,c211),(7,vp b146),(9,vi x_204),(10,vp b288),(11,vs s.1),(27,c61),(28,(vi (level_57.length:Int))),(29,vi x_113),(54,vi x_204),(81,c175),(82,(vi (o154.l.length:Int))),(83,vi s.2.1)] ∧ s.1.length ≤ LIMS ∧ InR .i64 s.2.1 ∧ s.2.2.s.length ≤ LIMS ∧ ORow 157 2 qbA m301 c305 s.2.2.trackers M306) (fun (b:(State × (List UInt8))) e a w=>e = (.exit 6) ∧ ∃ m469 c471 M472,m206.le m469 ∧ Ok u m469 ([(b288,oc 172 [vs b.1.s,c471,vb b.1.integer])] :: M472 :: [(pb0,oc 153 [c175,c177,c180])] :: M178 :: M181 :: [(b146,oc 172 [vs x133.s,c144,vb x133.integer])] :: M208 :: M212 :: M62 :: S) w ∧ Env 136 a [(0,vp pb0),(3,vi n_58),(4,c207),(5,c211),(7,vp b146),(10,vp b288),(11,vs b.2),(27,c61),(28,(vi (level_57.length:Int))),(29,vi x_113),(54,vi x_204)] ∧ b.1.s.length ≤ LIMS ∧ ORow 157 2 qbA m469 c471 b.1.trackers M472 ∧ b.2.length ≤ LIMS) ?_ ?_ N _ a w hL ⟨m206,c285,M286,Mem.le.refl _,ok,E.keep [0,3,4,5,7,9,10,11,27,28,29,54,81,82,83],l291,(ir 0),l284,h287⟩
   rotate_left
   ·as_aux_lemma =>
     intro e a w _ hO
     obtain ⟨rfl,m444,c446,M447,hle,ok,E,l445,h448,l449⟩:=hO
     have le_m0:=le_m0.trans hle
     have le_m22:=le_m22.trans hle
     have le_m60:=le_m60.trans hle
     have le_m174:=le_m174.trans hle
     have h2:=(mL qad).up hle h2
     have h23:=(mL qbd).up hle h23
     have h63:=ORow.up qes hle h63
     have h66:=(mL qad).up hle h66
     have h122:=(mL qad).up hle h122
     have h145:=(mL qbd).up hle h145
     have h176:=(mL qad).up hle h176
     have h179:=ORow.up qcO hle h179
     have h182:=ORow.up qcO hle h182
     have h209:=ORow.up qes hle h209
     have h213:=OMap.up (qil mB) hle h213
     refine qaK<|qaa<|sg<|mv E rfl fun a E=>mv E rfl fun a E=>?_
     obtain ⟨xv450,h451,yy452,yy453⟩:=qxa (P:=Tryz.prog) (mo:=.tmp 123) (ko:=.tmp 124) (zx:=(false:Bool)) ok 7 (qqe Tryz.underlying9) Tryz.underlying174 h213 rfl (qak E rfl) (qak E rfl) ⟨rfl,l449⟩ qu1 qks
     obtain rfl:=qsT h451
     refine lv E ok (yy452 _) fun a E=>lw E (qaS rfl) fun a E=>wn<|cf E rfl hF (fun hc454 hF=>?_) fun hc454 hF=>?_
     rotate_left
     ·refine wp_skip<|qal<|qaa<|qab<|lw E (qaD rfl rfl (InR.inc r210 (ir 10) hc214)) fun a E=>mv E rfl fun a E=>wpList_nil ?_
      obtain rfl:=sj hF
      exact qau ⟨m444,c207,M208,c211,M212,le_m174,(ok.pk 9 [2,3,4,5,6,7,8] rfl (by decide)),E.keep [0,3,4,5,7,27,28,29,54],h209,(InR.inc r210 (ir 10) hc214),h213⟩
     refine sg<|mv E rfl fun a E=>mv E rfl fun a E=>?_
     obtain ⟨l455,e456,hF⟩:=bnd hF
     refine qve (.inl rfl) E ok 7 (qqe Tryz.underlying9) Tryz.underlying174 h213 rfl rfl rfl rfl ⟨rfl,l449⟩ qks e456 rfl fun M457 w ok h458=>wn<|qab<|mv E rfl fun a E=>lv E ok (qao (cs:=[vs o300.1.s,c446,vb o300.1.integer]) qrd rfl rfl (qac.own 0 rfl rfl)) fun a E=>?_
     obtain ⟨m459,hle,ok,hfz⟩:=(ok.frs 1 rfl).freeze
     have h460:=ORow.froz qbd h448 hle hfz (by decide)
     have le_m0:=le_m0.trans hle
     have le_m22:=le_m22.trans hle
     have le_m60:=le_m60.trans hle
     have le_m174:=le_m174.trans hle
     have h2:=(mL qad).up hle h2
     have h23:=(mL qbd).up hle h23
     have h63:=ORow.up qes hle h63
     have h66:=(mL qad).up hle h66
     have h122:=(mL qad).up hle h122
     have h145:=(mL qbd).up hle h145
     have h176:=(mL qad).up hle h176
     have h179:=ORow.up qcO hle h179
     have h182:=ORow.up qcO hle h182
     have h209:=ORow.up qes hle h209
     have h458:=OMap.up (qil mB) hle h458
     refine qbs (R:=qia) (xo:=[.tmp 130]) (xs:=([o300.1]:List (State))) E ok qm1 qbH rfl ⟨⟨_,rfl,rfl,⟨_,rfl,l445,h460⟩⟩,trivial⟩ rfl rfl rfl rfl fun c461 M462 a w E ok h463=>?_
     obtain ⟨l464,e465,hF⟩:=bnd hF
     refine qek (R:=qia) E ok 6 qes qm1 Tryz.underlying173 rfl h209 (qbX.ofRow h463 0 rfl ok) e465 ⟨_,qbH,rfl⟩ rfl rfl rfl rfl fun c466 M467 a w E ok h468=>av E rfl fun a E=>wpList_nil<|qal<|qaa<|qab<|lw E (qaD rfl rfl (InR.inc r210 (ir 10) hc214)) fun a E=>mv E rfl fun a E=>?_
     refine wpList_nil ?_
     obtain rfl:=sj hF
     exact qau ⟨m459,c466,M467,c211,M457,le_m174,(ok.pk 9 [2,3,4,5,6,7,8] rfl (by decide)),E.keep [0,3,4,5,7,27,28,29,54],h468,(InR.inc r210 (ir 10) hc214),h458⟩
   rintro ⟨key_308,x_309,x_310⟩ a w r ⟨m311,c315,M316,hle,ok,E,l312,r313,l314,h317⟩ hF
   replace hF:qba N x133 o154 x_204 key_308 x_309 x_310 = some r:=hF
   unfold qba at hF
   have le_m206:=Mem.le.refl m206
   have le_m0:=le_m0.trans hle
   have le_m22:=le_m22.trans hle
   have le_m60:=le_m60.trans hle
   have le_m174:=le_m174.trans hle
   have le_m206:=le_m206.trans hle
   have h2:=(mL qad).up hle h2
   have h23:=(mL qbd).up hle h23
   have h63:=ORow.up qes hle h63
   have h66:=(mL qad).up hle h66
   have h122:=(mL qad).up hle h122
   have h145:=(mL qbd).up hle h145
   have h176:=(mL qad).up hle h176
   have h179:=ORow.up qcO hle h179
   have h182:=ORow.up qcO hle h182
   have h209:=ORow.up qes hle h209
   have h213:=OMap.up (qil mB) hle h213
   refine sg<|lw E (qaF rfl rfl) fun a E=>wn<|wp_seq<|cf E rfl hF (fun hc318 hF=>?_) fun hc318 hF=>?_
   rotate_left
   ·refine wp_exit<|qaB ?_
    obtain rfl:=sj hF
    exact so (⟨rfl,⟨m311,c315,M316,le_m206,ok,E.keep [0,3,4,5,7,10,11,27,28,29,54],l314,h317,l312⟩⟩)
   refine wp_skip<|qaa<|wp_seq<|wp_block<|sg<|mv E rfl fun a E=>?_
   obtain ⟨x319,e320,hF⟩:=bnd hF
   obtain ⟨b321,o322,es323,hl324,rr325,at326,yy327⟩:=qaO qbT h176 e320 (P:=Tryz.prog) (X:=.tmp 81) (I:=.tmp 83) (kd:=.i64) (qak E rfl) (qak E rfl)
   obtain ⟨c330,rfl,r328,r329,h331⟩:=rr325
   refine lv E ok (yy327 _ _) fun a E=>lv E ok (qao (cs:=[vi x319.Operand,vi x319.Mod,vb x319.Not,c330]) qcL rfl rfl (qac.ro at326)) fun a E=>qaR E ok qdS rfl rfl fun b332 a w E ok=>av E rfl fun a E=>qae E ok 0 rfl rfl rfl qjt rfl rfl ⟨rfl,rfl,rfl,(qh9 h331),trivial⟩ rfl rfl fun w ok=>wn<|wp_seq ?_
   refine sg<|lv E ok (qao (cs:=[vi x319.Operand,vi x319.Mod,vb x319.Not,c330]) qcL rfl rfl (qac.own 0 rfl rfl)) fun a E=>?_
   obtain ⟨r333,e334,hF⟩:=bnd hF
   refine lc E qmN rfl (qf7 N _ x319 ⟨_,rfl,r328,r329,h331⟩ e334 hG ok) fun w ok a E=>lw E (qaS rfl) fun a E=>wn ?_
   obtain ⟨o335,hJ,hF⟩:=bnd hF
   refine qaV (Q':=fun e a w=>e = .normal ∧ ∃ m336 c338 M339,m311.le m336 ∧ Ok u m336 ([(b332,oc 52 [vi x319.Operand,vi x319.Mod,vb x319.Not,c330])] :: [(b288,oc 172 [vs o335.s,c338,vb o335.integer])] :: M339 :: [(pb0,oc 153 [c175,c177,c180])] :: M178 :: M181 :: [(b146,oc 172 [vs x133.s,c144,vb x133.integer])] :: M208 :: M212 :: M62 :: S) w ∧ Env 136 a [(0,vp pb0),(3,vi n_58),(4,c207),(5,c211),(7,vp b146),(9,vi x_204),(10,vp b288),(11,vs key_308),(12,vi x_309),(27,c61),(28,(vi (level_57.length:Int))),(29,vi x_113),(54,vi x_204),(81,c175),(82,(vi (o154.l.length:Int))),(83,vi x_309)] ∧ o335.s.length ≤ LIMS ∧ ORow 157 2 qbA m336 c338 o335.trackers M339) ?_ ?_
   rotate_left
   ·clear hJ
    intro e a w hO
    obtain ⟨rfl,m401,c403,M404,hle,ok,E,l402,h405⟩:=hO
    have le_m0:=le_m0.trans hle
    have le_m22:=le_m22.trans hle
    have le_m60:=le_m60.trans hle
    have le_m174:=le_m174.trans hle
    have le_m206:=le_m206.trans hle
    have h2:=(mL qad).up hle h2
    have h23:=(mL qbd).up hle h23
    have h63:=ORow.up qes hle h63
    have h66:=(mL qad).up hle h66
    have h122:=(mL qad).up hle h122
    have h145:=(mL qbd).up hle h145
    have h176:=(mL qad).up hle h176
    have h179:=ORow.up qcO hle h179
    have h182:=ORow.up qcO hle h182
    have h209:=ORow.up qes hle h209
    have h213:=OMap.up (qil mB) hle h213
    have h331:=(mL qgv).up hle h331
    have at326:=At.up hle at326
    refine qaa<|qfD (by kernel_rfl) (by kernel_rfl) ok<|qv E (qah rfl) fun a E=>qv E (qan qkd rfl) fun a E=>qv E (qap qlg rfl (qac.own 1 rfl rfl)) fun a E=>qv E (qah rfl) fun a E=>?_
    obtain ⟨x406,e407,hF⟩:=bnd hF
    obtain ⟨b408,o409,hp410,yy411⟩:=qdZ qeT h405 e407 (P:=Tryz.prog) (X:=.tmp 105) (I:=.tmp 106) (kd:=.i64) (qak E rfl) (qak E rfl)
    refine qv E (yy411 _ _) fun a E=>qv E (qan qfx rfl) fun a E=>?_
    obtain ⟨es412,hl413,rr414,hh415⟩:=qgs h405 e407 hp410 (by decide)
    obtain ⟨rfl,r416,r417⟩:=rr414
    refine qv E (qap qaC rfl (qac.sub 0 1 (hh415 _ _ _ 2 rfl))) fun a E=>?_
    obtain ⟨r418,e419,hF⟩:=bnd hF
    obtain ⟨_,_,⟨_,_⟩,l420⟩:=Go.X.Calls.get (qbq N x406.a r416 e419 hG hTb ok)
    refine qhi E qg5 rfl (fun w ok=>(qbq N x406.a r416 e419 hG hTb ok).mono (fun _ _ h=>h.1)) rfl rfl fun a E=>?_
    obtain ⟨s421,e422,hF⟩:=bnd hF
    refine qv E (qcd rfl rfl e422) fun a E=>?_
    obtain ⟨s423,e424,hF⟩:=bnd hF
    refine qv E (qcd rfl rfl e424) fun a E=>qv E (qan qkd rfl) fun a E=>qv E (qap qlg rfl (qac.own 1 rfl rfl)) fun a E=>qv E (qah rfl) fun a E=>?_
    obtain ⟨x425,e426,hF⟩:=bnd hF
    obtain ⟨b427,o428,hp429,yy430⟩:=qdZ qeT h405 e426 (P:=Tryz.prog) (X:=.tmp 114) (I:=.tmp 115) (kd:=.i64) (qak E rfl) (qak E rfl)
    refine qv E (yy430 _ _) fun a E=>qv E (qan qgc rfl) fun a E=>?_
    obtain ⟨es431,hl432,rr433,hh434⟩:=qgs h405 e426 hp429 (by decide)
    obtain ⟨rfl,r435,r436⟩:=rr433
    refine qv E (qap qaC rfl (qac.sub 1 1 (hh434 _ _ _ 2 rfl))) fun a E=>?_
    obtain ⟨r437,e438,hF⟩:=bnd hF
    obtain ⟨_,_,⟨_,_⟩,l439⟩:=Go.X.Calls.get (qbq N x425.b r436 e438 hG hTb ok)
    refine qhi E qg5 rfl (fun w ok=>(qbq N x425.b r436 e438 hG hTb ok).mono (fun _ _ h=>h.1)) rfl rfl fun a E=>?_
    obtain ⟨s440,e441,hF⟩:=bnd hF
    refine qv E (qcd rfl rfl e441) fun a E=>?_
    obtain ⟨s442,e443,hF⟩:=bnd hF
    refine qv E (qcd rfl rfl e443) fun a E=>qv E (qaG rfl) fun a E=>wpQuiet_nil ?_
    intro w ok
    refine qal<|qaa<|qab<|lw E (qaD rfl rfl (InR.inc r313 (qaj h176) hc318)) fun a E=>mv E rfl fun a E=>wpList_nil ?_
    obtain rfl:=sj hF
    exact qau ⟨m401,c403,M404,le_m206,(ok.pk 10 [1,2,3,4,5,6,7,8,9] rfl (by decide)),E.keep [0,3,4,5,7,9,10,11,27,28,29,54,81,82,83],(qbt e443),(InR.inc r313 (qaj h176) hc318),l402,h405⟩
   replace hF:=hJ
   clear hJ
   have le_m311:=Mem.le.refl m311
   refine cf E rfl hF (fun hc341 hF=>?_) fun hc341 hF=>?_
   rotate_left
   ·refine wp_skip ?_
    obtain rfl:=sj hF
    exact ⟨rfl,⟨m311,c315,M316,le_m311,ok,E.keep [0,3,4,5,7,9,10,11,12,27,28,29,54,81,82,83],l314,h317⟩⟩
   obtain ⟨o342,hJ,hF⟩:=bnd hF
   refine qaV (Q':=fun e a w=>e = .normal ∧ ∃ m343 c345 M346,m311.le m343 ∧ Ok u m343 ([(b332,oc 52 [vi x319.Operand,vi x319.Mod,vb x319.Not,c330])] :: [(b288,oc 172 [vs o342.s,c345,vb o342.integer])] :: M346 :: [(pb0,oc 153 [c175,c177,c180])] :: M178 :: M181 :: [(b146,oc 172 [vs x133.s,c144,vb x133.integer])] :: M208 :: M212 :: M62 :: S) w ∧ Env 136 a [(0,vp pb0),(3,vi n_58),(4,c207),(5,c211),(7,vp b146),(9,vi x_204),(10,vp b288),(11,vs key_308),(12,vi x_309),(27,c61),(28,(vi (level_57.length:Int))),(29,vi x_113),(54,vi x_204),(81,c175),(82,(vi (o154.l.length:Int))),(83,vi x_309)] ∧ o342.s.length ≤ LIMS ∧ ORow 157 2 qbA m343 c345 o342.trackers M346) ?_ ?_
   rotate_left
   ·clear hJ
    intro e a w hO
    obtain ⟨rfl,m396,c398,M399,hle,ok,E,l397,h400⟩:=hO
    have le_m0:=le_m0.trans hle
    have le_m22:=le_m22.trans hle
    have le_m60:=le_m60.trans hle
    have le_m174:=le_m174.trans hle
    have le_m206:=le_m206.trans hle
    have le_m311:=le_m311.trans hle
    have h2:=(mL qad).up hle h2
    have h23:=(mL qbd).up hle h23
    have h63:=ORow.up qes hle h63
    have h66:=(mL qad).up hle h66
    have h122:=(mL qad).up hle h122
    have h145:=(mL qbd).up hle h145
    have h176:=(mL qad).up hle h176
    have h179:=ORow.up qcO hle h179
    have h182:=ORow.up qcO hle h182
    have h209:=ORow.up qes hle h209
    have h213:=OMap.up (qil mB) hle h213
    have h331:=(mL qgv).up hle h331
    have at326:=At.up hle at326
    obtain rfl:=sj hF
    exact ⟨rfl,⟨m396,c398,M399,le_m311,ok,E.keep [0,3,4,5,7,9,10,11,12,27,28,29,54,81,82,83],l397,h400⟩⟩
   replace hF:=hJ
   clear hJ
   obtain ⟨x348,e349,hF⟩:=bnd hF
   obtain ⟨r359,e360,hF⟩:=bnd hF
   obtain ⟨x366,e367,hF⟩:=bnd hF
   obtain ⟨l372,e373,hF⟩:=bnd hF
   obtain rfl:=sj hF
   refine qbG [1,4,7,8] (Cls u m311 ([(b332,oc 52 [vi x319.Operand,vi x319.Mod,vb x319.Not,c330])] :: [(b288,oc 172 [vs x_310.s,c315,vb x_310.integer])] :: [(pb0,oc 153 [c175,c177,c180])] :: M178 :: M181 :: [(b146,oc 172 [vs x133.s,c144,vb x133.integer])] :: M208 :: M212 :: M62 :: [])) (Cls u m311 ([(b332,oc 52 [vi x319.Operand,vi x319.Mod,vb x319.Not,c330])] :: [(pb0,oc 153 [c175,c177,c180])] :: M178 :: M181 :: [(b146,oc 172 [vs x133.s,c144,vb x133.integer])] :: M208 :: M212 :: M62 :: [])) (by kernel_rfl) ?_
   intro w hw
   replace ok:=qce ok hw
   clear hw
   have h145_o:=h145
   have h331_o:=h331
   refine qaA (cl1 (cq le_m311 ok [0,1,3,4,5,6,7,8,9] rfl) (cq le_m311 ok [0,3,4,5,6,7,8,9] rfl)) fun hT=>kt 0 E rfl hT (qan qkd rfl) fun a E=>qdo 1 E rfl (by kernel_rfl) nP hT (qap qlg rfl (qac.cown 1 rfl rfl)) rfl rfl fun a E=>kt 2 E rfl hT (qah rfl) fun a E=>kt 3 E rfl hT (qan qkd rfl) fun a E=>qdo 4 E rfl (by kernel_rfl) nP hT (qap qlg rfl (qac.cown 5 rfl rfl)) rfl rfl fun a E=>kt 5 E rfl hT (qah rfl) fun a E=>?_
   obtain ⟨b376,o377,es378,hl379,rr380,at381,yy382⟩:=qaO qeT h145 e349 (P:=Tryz.prog) (X:=.tmp 95) (I:=.tmp 96) (kd:=.i64) (qak E rfl) (qak E rfl)
   obtain ⟨rfl,r383,r384⟩:=rr380
   refine kt 6 E rfl hT (yy382 _ _) fun a E=>qdo 7 E rfl (by kernel_rfl) nP hT (qao (cs:=[vi x348.a,vi x348.b]) qbU rfl rfl (qac.cro at381)) rfl rfl fun a E=>qdo 8 E rfl (by kernel_rfl) nP hT (qao (cs:=[vi x319.Operand,vi x319.Mod,vb x319.Not,c330]) qcL rfl rfl (qac.cown 0 rfl rfl)) rfl rfl fun a E=>kt 9 E rfl hT (qah rfl) fun a E=>qaP [10] (by kernel_rfl) rfl (qaU ?_)
   ·refine wo rfl<|qag E qwb rfl (qkR N _ x348 ⟨rfl,r383,r384⟩ _ x319 ⟨_,rfl,r328,r329,h331⟩ true x_204 r210 e360 hG ok) rfl rfl ?_
    rintro _ w ⟨m385,vs386,rfl,hle,ok,h387⟩
    have le_m0:=le_m0.trans hle
    have le_m22:=le_m22.trans hle
    have le_m60:=le_m60.trans hle
    have le_m174:=le_m174.trans hle
    have le_m206:=le_m206.trans hle
    have le_m311:=le_m311.trans hle
    have h2:=(mL qad).up hle h2
    have h23:=(mL qbd).up hle h23
    have h63:=ORow.up qes hle h63
    have h66:=(mL qad).up hle h66
    have h122:=(mL qad).up hle h122
    have h145:=(mL qbd).up hle h145
    have h176:=(mL qad).up hle h176
    have h179:=ORow.up qcO hle h179
    have h182:=ORow.up qcO hle h182
    have h209:=ORow.up qes hle h209
    have h213:=OMap.up (qil mB) hle h213
    have h317:=ORow.up qbd hle h317
    have h331:=(mL qgv).up hle h331
    have at326:=At.up hle at326
    have at381:=At.up hle at381
    obtain ⟨rfl,r388,r389⟩:=h387
    refine ⟨_,rfl,fun a E=>?_⟩
    refine wn<|qaA (cl1 (cq le_m311 ok [0,1,3,4,5,6,7,8,9] rfl) (cq le_m311 ok [0,3,4,5,6,7,8,9] rfl)) fun hT=>?_
    obtain ⟨b390,o391,hp392,yy393⟩:=qdZ qeT h317 e367 (P:=Tryz.prog) (X:=.tmp 92) (I:=.tmp 93) (kd:=.i64) (qak E rfl) (qak E rfl)
    refine kt 11 E rfl hT (yy393 _ _) fun a E=>qaP [12] (by kernel_rfl) rfl (qaU ?_)
    ·refine wo rfl<|qfR (R:=qbA) E ok 2 rfl h317 e367 hp392 rfl rfl qfp rfl rfl rfl ⟨rfl,rfl,trivial⟩ ⟨rfl,r388,r389⟩ e373 rfl fun M394 w ok h395=>wn<|qaA (cl2 (by kernel_rfl) (cq le_m311 ok [0,3,4,5,6,7,8,9] rfl)) fun hT=>qbg (by kernel_rfl) ?_
     exact ⟨rfl,⟨m385,c315,M394,le_m311,ok,E.keep [0,3,4,5,7,9,10,11,12,27,28,29,54,81,82,83],l314,h395⟩⟩
 replace hF:=hJ
 clear hJ
 obtain ⟨r221,e222,hF⟩:=bnd hF
 obtain ⟨s224,e225,hF⟩:=bnd hF
 obtain ⟨l226,e227,hF⟩:=bnd hF
 refine qav x133.integer (fun hc231=>?_) (fun hc231=>?_)
 ·as_aux_lemma =>
   replace hF:=qas hc231 hF
   obtain rfl:=sj hF
   refine qbG [] (Cls u m206 ([(pb0,oc 153 [c175,c177,c180])] :: M178 :: M181 :: [(b146,oc 172 [vs x133.s,c144,vb x133.integer])] :: M208 :: M212 :: M62 :: [])) (Cls u m206 ([(pb0,oc 153 [c175,c177,c180])] :: M178 :: M181 :: [(b146,oc 172 [vs x133.s,c144,vb x133.integer])] :: M208 :: M212 :: M62 :: [])) (by kernel_rfl) ?_
   intro w hw
   replace ok:=qce ok hw
   clear hw
   have le_m206:=Mem.le.refl m206
   refine qaA (cl1 (cq le_m206 ok [0,1,2,3,4,5,6] rfl) (cq le_m206 ok [0,1,2,3,4,5,6] rfl)) fun hT=>kt 0 E rfl hT (qan qn4 rfl) fun a E=>kt 1 E rfl hT (qap qaN rfl (qac.cown 3 rfl rfl)) fun a E=>kt 2 E rfl hT (qah rfl) fun a E=>kt 5 E rfl hT (qah rfl) fun a E=>kt 6 E rfl hT (qaq rfl) fun a E=>kt 7 E rfl hT (qan qi6 rfl) fun a E=>kt 8 E rfl hT (qap qeS rfl (qac.cown 0 rfl rfl)) fun a E=>?_
   refine kt 9 E rfl hT (qaH qbT h176 rfl) fun a E=>kt 11 E rfl hT (qan qlz rfl) fun a E=>kt 12 E rfl hT (qap qeQ rfl (qac.cown 3 rfl rfl)) fun a E=>qaP [3,10,18] (by kernel_rfl) rfl (qfW ?_ (qfW ?_ (qfW ?_ (qjK))))
   ·refine wo rfl<|qag E qg5 rfl (qbq N x_204 r210 e222 hG hTb ok) rfl rfl ?_
    rintro _ w ⟨⟨rfl,ok⟩,l233⟩
    refine ⟨_,rfl,fun a E=>?_⟩
    refine wn<|qaA (cl1 (cq le_m206 ok [0,1,2,3,4,5,6] rfl) (cq le_m206 ok [0,1,2,3,4,5,6] rfl)) fun hT=>kt 4 E rfl hT (qcd rfl rfl e225) fun a E=>kt 13 E rfl hT (qah rfl) fun a E=>?_
    replace E:=E.upd 70 hc231 rfl
    refine kt 14 E rfl hT (qah rfl) fun a E=>kt 15 E rfl hT (qaM rfl rfl) fun a E=>kt 16 E rfl hT (qa1 rfl rfl) fun a E=>qaP [10,18] (by kernel_rfl) rfl (qfW ?_ (qfW ?_ (qjK)))
    ·refine wo rfl<|qeV (R:=qbA) E ok qeT qe1 rfl ⟨rfl,(ir 0),(ir 0)⟩ rfl e227 rfl rfl fun c234 M235 a w E ok h236=>wn<|qaA (cl1 (cq le_m206 ok [1,2,3,4,5,6,7] rfl) (cq le_m206 ok [1,2,3,4,5,6,7] rfl)) fun hT=>kt 17 E rfl hT (qa0 (ps:=[(0,.tmp 61),(1,.tmp 67),(2,.tmp 73)]) (qs:=[(0,[vs s224]),(1,[c234]),(2,[(vb (x_204 == 0))])]) (cs:=[vs s224,c234,(vb (x_204 == 0))]) qbH qdN rfl ⟨rfl,rfl,rfl,⟨rfl,(ORow.cells h236),rfl,⟨rfl,rfl,rfl,trivial⟩⟩⟩ rfl) fun a E=>qaP [18] (by kernel_rfl) rfl (qaU ?_)
     ·refine wo rfl<|qaR E ok qbH rfl rfl fun b237 a w E ok=>wn<|qaA (cl1 (cq le_m206 ok [2,3,4,5,6,7,8] rfl) (cq le_m206 ok [2,3,4,5,6,7,8] rfl)) fun hT=>qaP [19] (by kernel_rfl) rfl (qaU ?_)
      ·refine wo rfl<|qae E ok 0 rfl rfl rfl qf1 rfl rfl ⟨rfl,(ORow.one h236),rfl,trivial⟩ rfl rfl fun w ok=>wn<|qaA (cl1 (cq le_m206 ok [2,3,4,5,6,7,8] rfl) (cq le_m206 ok [2,3,4,5,6,7,8] rfl)) fun hT=>qbg (by kernel_rfl) ?_
       exact ⟨rfl,⟨b237,c234,M235,ok,E.keep [0,3,4,5,7,9,10,27,28,29,54],(qbt e225),h236⟩⟩
    refine wo rfl<|qaR E ok qbH rfl rfl fun b238 a w E ok=>wn<|qaA (cl1 (cq le_m206 ok [1,2,3,4,5,6,7] rfl) (cq le_m206 ok [1,2,3,4,5,6,7] rfl)) fun hT=>qaP [10] (by kernel_rfl) rfl (qaU ?_)
    ·refine wo rfl<|qeV (R:=qbA) E ok qeT qe1 rfl ⟨rfl,(ir 0),(ir 0)⟩ rfl e227 rfl rfl fun c239 M240 a w E ok h241=>wn<|qaA (cl1 (cq le_m206 ok [2,3,4,5,6,7,8] rfl) (cq le_m206 ok [2,3,4,5,6,7,8] rfl)) fun hT=>kt 17 E rfl hT (qa0 (ps:=[(0,.tmp 61),(1,.tmp 67),(2,.tmp 73)]) (qs:=[(0,[vs s224]),(1,[c239]),(2,[(vb (x_204 == 0))])]) (cs:=[vs s224,c239,(vb (x_204 == 0))]) qbH qdN rfl ⟨rfl,rfl,rfl,⟨rfl,(ORow.cells h241),rfl,⟨rfl,rfl,rfl,trivial⟩⟩⟩ rfl) fun a E=>qaP [19] (by kernel_rfl) rfl (qaU ?_)
     ·refine wo rfl<|qae E ok 1 rfl rfl rfl qf1 rfl rfl ⟨rfl,(ORow.one h241),rfl,trivial⟩ rfl rfl fun w ok=>wn<|qaA (cl1 (cq le_m206 ok [2,3,4,5,6,7,8] rfl) (cq le_m206 ok [2,3,4,5,6,7,8] rfl)) fun hT=>qbg (by kernel_rfl) ?_
      exact ⟨rfl,⟨b238,c239,M240,(ok.pk 9 [1,0,2,3,4,5,6,7,8] rfl (by decide)),E.keep [0,3,4,5,7,9,10,27,28,29,54],(qbt e225),h241⟩⟩
   ·refine wo rfl<|qeV (R:=qbA) E ok qeT qe1 rfl ⟨rfl,(ir 0),(ir 0)⟩ rfl e227 rfl rfl fun c242 M243 a w E ok h244=>wn<|qaA (cl1 (cq le_m206 ok [1,2,3,4,5,6,7] rfl) (cq le_m206 ok [1,2,3,4,5,6,7] rfl)) fun hT=>qaP [3,18] (by kernel_rfl) rfl (qfW ?_ (qfW ?_ (qjK)))
    ·refine wo rfl<|qag E qg5 rfl (qbq N x_204 r210 e222 hG hTb ok) rfl rfl ?_
     rintro _ w ⟨⟨rfl,ok⟩,l245⟩
     refine ⟨_,rfl,fun a E=>?_⟩
     refine wn<|qaA (cl1 (cq le_m206 ok [1,2,3,4,5,6,7] rfl) (cq le_m206 ok [1,2,3,4,5,6,7] rfl)) fun hT=>kt 4 E rfl hT (qcd rfl rfl e225) fun a E=>kt 13 E rfl hT (qah rfl) fun a E=>?_
     replace E:=E.upd 70 hc231 rfl
     refine kt 14 E rfl hT (qah rfl) fun a E=>kt 15 E rfl hT (qaM rfl rfl) fun a E=>kt 16 E rfl hT (qa1 rfl rfl) fun a E=>kt 17 E rfl hT (qa0 (ps:=[(0,.tmp 61),(1,.tmp 67),(2,.tmp 73)]) (qs:=[(0,[vs s224]),(1,[c242]),(2,[(vb (x_204 == 0))])]) (cs:=[vs s224,c242,(vb (x_204 == 0))]) qbH qdN rfl ⟨rfl,rfl,rfl,⟨rfl,(ORow.cells h244),rfl,⟨rfl,rfl,rfl,trivial⟩⟩⟩ rfl) fun a E=>qaP [18] (by kernel_rfl) rfl (qaU ?_)
     ·refine wo rfl<|qaR E ok qbH rfl rfl fun b246 a w E ok=>wn<|qaA (cl1 (cq le_m206 ok [2,3,4,5,6,7,8] rfl) (cq le_m206 ok [2,3,4,5,6,7,8] rfl)) fun hT=>qaP [19] (by kernel_rfl) rfl (qaU ?_)
      ·refine wo rfl<|qae E ok 0 rfl rfl rfl qf1 rfl rfl ⟨rfl,(ORow.one h244),rfl,trivial⟩ rfl rfl fun w ok=>wn<|qaA (cl1 (cq le_m206 ok [2,3,4,5,6,7,8] rfl) (cq le_m206 ok [2,3,4,5,6,7,8] rfl)) fun hT=>qbg (by kernel_rfl) ?_
       exact ⟨rfl,⟨b246,c242,M243,ok,E.keep [0,3,4,5,7,9,10,27,28,29,54],(qbt e225),h244⟩⟩
    refine wo rfl<|qaR E ok qbH rfl rfl fun b247 a w E ok=>wn<|qaA (cl1 (cq le_m206 ok [2,3,4,5,6,7,8] rfl) (cq le_m206 ok [2,3,4,5,6,7,8] rfl)) fun hT=>qaP [3] (by kernel_rfl) rfl (qaU ?_)
    ·refine wo rfl<|qag E qg5 rfl (qbq N x_204 r210 e222 hG hTb ok) rfl rfl ?_
     rintro _ w ⟨⟨rfl,ok⟩,l248⟩
     refine ⟨_,rfl,fun a E=>?_⟩
     refine wn<|qaA (cl1 (cq le_m206 ok [2,3,4,5,6,7,8] rfl) (cq le_m206 ok [2,3,4,5,6,7,8] rfl)) fun hT=>kt 4 E rfl hT (qcd rfl rfl e225) fun a E=>kt 13 E rfl hT (qah rfl) fun a E=>?_
     replace E:=E.upd 70 hc231 rfl
     refine kt 14 E rfl hT (qah rfl) fun a E=>kt 15 E rfl hT (qaM rfl rfl) fun a E=>kt 16 E rfl hT (qa1 rfl rfl) fun a E=>kt 17 E rfl hT (qa0 (ps:=[(0,.tmp 61),(1,.tmp 67),(2,.tmp 73)]) (qs:=[(0,[vs s224]),(1,[c242]),(2,[(vb (x_204 == 0))])]) (cs:=[vs s224,c242,(vb (x_204 == 0))]) qbH qdN rfl ⟨rfl,rfl,rfl,⟨rfl,(ORow.cells h244),rfl,⟨rfl,rfl,rfl,trivial⟩⟩⟩ rfl) fun a E=>qaP [19] (by kernel_rfl) rfl (qaU ?_)
     ·refine wo rfl<|qae E ok 0 rfl rfl rfl qf1 rfl rfl ⟨rfl,(ORow.one h244),rfl,trivial⟩ rfl rfl fun w ok=>wn<|qaA (cl1 (cq le_m206 ok [2,3,4,5,6,7,8] rfl) (cq le_m206 ok [2,3,4,5,6,7,8] rfl)) fun hT=>qbg (by kernel_rfl) ?_
      exact ⟨rfl,⟨b247,c242,M243,ok,E.keep [0,3,4,5,7,9,10,27,28,29,54],(qbt e225),h244⟩⟩
   refine wo rfl<|qaR E ok qbH rfl rfl fun b249 a w E ok=>wn<|qaA (cl1 (cq le_m206 ok [1,2,3,4,5,6,7] rfl) (cq le_m206 ok [1,2,3,4,5,6,7] rfl)) fun hT=>qaP [3,10] (by kernel_rfl) rfl (qfW ?_ (qfW ?_ (qjK)))
   ·refine wo rfl<|qag E qg5 rfl (qbq N x_204 r210 e222 hG hTb ok) rfl rfl ?_
    rintro _ w ⟨⟨rfl,ok⟩,l250⟩
    refine ⟨_,rfl,fun a E=>?_⟩
    refine wn<|qaA (cl1 (cq le_m206 ok [1,2,3,4,5,6,7] rfl) (cq le_m206 ok [1,2,3,4,5,6,7] rfl)) fun hT=>kt 4 E rfl hT (qcd rfl rfl e225) fun a E=>kt 13 E rfl hT (qah rfl) fun a E=>?_
    replace E:=E.upd 70 hc231 rfl
    refine kt 14 E rfl hT (qah rfl) fun a E=>kt 15 E rfl hT (qaM rfl rfl) fun a E=>kt 16 E rfl hT (qa1 rfl rfl) fun a E=>qaP [10] (by kernel_rfl) rfl (qaU ?_)
    ·refine wo rfl<|qeV (R:=qbA) E ok qeT qe1 rfl ⟨rfl,(ir 0),(ir 0)⟩ rfl e227 rfl rfl fun c251 M252 a w E ok h253=>wn<|qaA (cl1 (cq le_m206 ok [2,3,4,5,6,7,8] rfl) (cq le_m206 ok [2,3,4,5,6,7,8] rfl)) fun hT=>kt 17 E rfl hT (qa0 (ps:=[(0,.tmp 61),(1,.tmp 67),(2,.tmp 73)]) (qs:=[(0,[vs s224]),(1,[c251]),(2,[(vb (x_204 == 0))])]) (cs:=[vs s224,c251,(vb (x_204 == 0))]) qbH qdN rfl ⟨rfl,rfl,rfl,⟨rfl,(ORow.cells h253),rfl,⟨rfl,rfl,rfl,trivial⟩⟩⟩ rfl) fun a E=>qaP [19] (by kernel_rfl) rfl (qaU ?_)
     ·refine wo rfl<|qae E ok 1 rfl rfl rfl qf1 rfl rfl ⟨rfl,(ORow.one h253),rfl,trivial⟩ rfl rfl fun w ok=>wn<|qaA (cl1 (cq le_m206 ok [2,3,4,5,6,7,8] rfl) (cq le_m206 ok [2,3,4,5,6,7,8] rfl)) fun hT=>qbg (by kernel_rfl) ?_
      exact ⟨rfl,⟨b249,c251,M252,(ok.pk 9 [1,0,2,3,4,5,6,7,8] rfl (by decide)),E.keep [0,3,4,5,7,9,10,27,28,29,54],(qbt e225),h253⟩⟩
   refine wo rfl<|qeV (R:=qbA) E ok qeT qe1 rfl ⟨rfl,(ir 0),(ir 0)⟩ rfl e227 rfl rfl fun c254 M255 a w E ok h256=>wn<|qaA (cl1 (cq le_m206 ok [2,3,4,5,6,7,8] rfl) (cq le_m206 ok [2,3,4,5,6,7,8] rfl)) fun hT=>qaP [3] (by kernel_rfl) rfl (qaU ?_)
   ·refine wo rfl<|qag E qg5 rfl (qbq N x_204 r210 e222 hG hTb ok) rfl rfl ?_
    rintro _ w ⟨⟨rfl,ok⟩,l257⟩
    refine ⟨_,rfl,fun a E=>?_⟩
    refine wn<|qaA (cl1 (cq le_m206 ok [2,3,4,5,6,7,8] rfl) (cq le_m206 ok [2,3,4,5,6,7,8] rfl)) fun hT=>kt 4 E rfl hT (qcd rfl rfl e225) fun a E=>kt 13 E rfl hT (qah rfl) fun a E=>?_
    replace E:=E.upd 70 hc231 rfl
    refine kt 14 E rfl hT (qah rfl) fun a E=>kt 15 E rfl hT (qaM rfl rfl) fun a E=>kt 16 E rfl hT (qa1 rfl rfl) fun a E=>kt 17 E rfl hT (qa0 (ps:=[(0,.tmp 61),(1,.tmp 67),(2,.tmp 73)]) (qs:=[(0,[vs s224]),(1,[c254]),(2,[(vb (x_204 == 0))])]) (cs:=[vs s224,c254,(vb (x_204 == 0))]) qbH qdN rfl ⟨rfl,rfl,rfl,⟨rfl,(ORow.cells h256),rfl,⟨rfl,rfl,rfl,trivial⟩⟩⟩ rfl) fun a E=>qaP [19] (by kernel_rfl) rfl (qaU ?_)
    ·refine wo rfl<|qae E ok 1 rfl rfl rfl qf1 rfl rfl ⟨rfl,(ORow.one h256),rfl,trivial⟩ rfl rfl fun w ok=>wn<|qaA (cl1 (cq le_m206 ok [2,3,4,5,6,7,8] rfl) (cq le_m206 ok [2,3,4,5,6,7,8] rfl)) fun hT=>qbg (by kernel_rfl) ?_
     exact ⟨rfl,⟨b249,c254,M255,(ok.pk 9 [1,0,2,3,4,5,6,7,8] rfl (by decide)),E.keep [0,3,4,5,7,9,10,27,28,29,54],(qbt e225),h256⟩⟩
 replace hF:=qar hc231 hF
 obtain rfl:=sj hF
 refine qbG [] (Cls u m206 ([(pb0,oc 153 [c175,c177,c180])] :: M178 :: M181 :: [(b146,oc 172 [vs x133.s,c144,vb x133.integer])] :: M208 :: M212 :: M62 :: [])) (Cls u m206 ([(pb0,oc 153 [c175,c177,c180])] :: M178 :: M181 :: [(b146,oc 172 [vs x133.s,c144,vb x133.integer])] :: M208 :: M212 :: M62 :: [])) (by kernel_rfl) ?_
 intro w hw
 replace ok:=qce ok hw
 clear hw
 have le_m206:=Mem.le.refl m206
 refine qaA (cl1 (cq le_m206 ok [0,1,2,3,4,5,6] rfl) (cq le_m206 ok [0,1,2,3,4,5,6] rfl)) fun hT=>kt 0 E rfl hT (qan qn4 rfl) fun a E=>kt 1 E rfl hT (qap qaN rfl (qac.cown 3 rfl rfl)) fun a E=>kt 2 E rfl hT (qah rfl) fun a E=>kt 5 E rfl hT (qah rfl) fun a E=>kt 6 E rfl hT (qaq rfl) fun a E=>kt 7 E rfl hT (qan qi6 rfl) fun a E=>kt 8 E rfl hT (qap qeS rfl (qac.cown 0 rfl rfl)) fun a E=>?_
 refine kt 9 E rfl hT (qaH qbT h176 rfl) fun a E=>kt 11 E rfl hT (qan qlz rfl) fun a E=>kt 12 E rfl hT (qap qeQ rfl (qac.cown 3 rfl rfl)) fun a E=>qaP [3,10,18] (by kernel_rfl) rfl (qfW ?_ (qfW ?_ (qfW ?_ (qjK))))
 ·refine wo rfl<|qag E qg5 rfl (qbq N x_204 r210 e222 hG hTb ok) rfl rfl ?_
  rintro _ w ⟨⟨rfl,ok⟩,l259⟩
  refine ⟨_,rfl,fun a E=>?_⟩
  refine wn<|qaA (cl1 (cq le_m206 ok [0,1,2,3,4,5,6] rfl) (cq le_m206 ok [0,1,2,3,4,5,6] rfl)) fun hT=>kt 4 E rfl hT (qcd rfl rfl e225) fun a E=>kt 13 E rfl hT (qah rfl) fun a E=>?_
  replace E:=E.upd 70 hc231 rfl
  refine qaE 14 false E rfl (by kernel_rfl) nP hT rfl rfl fun a E=>qaE 15 false E rfl (by kernel_rfl) nP hT rfl rfl fun a E=>kt 16 E rfl hT (qaY rfl rfl) fun a E=>qaP [10,18] (by kernel_rfl) rfl (qfW ?_ (qfW ?_ (qjK)))
  ·refine wo rfl<|qeV (R:=qbA) E ok qeT qe1 rfl ⟨rfl,(ir 0),(ir 0)⟩ rfl e227 rfl rfl fun c260 M261 a w E ok h262=>wn<|qaA (cl1 (cq le_m206 ok [1,2,3,4,5,6,7] rfl) (cq le_m206 ok [1,2,3,4,5,6,7] rfl)) fun hT=>kt 17 E rfl hT (qa0 (ps:=[(0,.tmp 61),(1,.tmp 67),(2,.tmp 73)]) (qs:=[(0,[vs s224]),(1,[c260]),(2,[vb false])]) (cs:=[vs s224,c260,vb false]) qbH qdN rfl ⟨rfl,rfl,rfl,⟨rfl,(ORow.cells h262),rfl,⟨rfl,rfl,rfl,trivial⟩⟩⟩ rfl) fun a E=>qaP [18] (by kernel_rfl) rfl (qaU ?_)
   ·refine wo rfl<|qaR E ok qbH rfl rfl fun b263 a w E ok=>wn<|qaA (cl1 (cq le_m206 ok [2,3,4,5,6,7,8] rfl) (cq le_m206 ok [2,3,4,5,6,7,8] rfl)) fun hT=>qaP [19] (by kernel_rfl) rfl (qaU ?_)
    ·refine wo rfl<|qae E ok 0 rfl rfl rfl qf1 rfl rfl ⟨rfl,(ORow.one h262),rfl,trivial⟩ rfl rfl fun w ok=>wn<|qaA (cl1 (cq le_m206 ok [2,3,4,5,6,7,8] rfl) (cq le_m206 ok [2,3,4,5,6,7,8] rfl)) fun hT=>qbg (by kernel_rfl) ?_
     exact ⟨rfl,⟨b263,c260,M261,ok,E.keep [0,3,4,5,7,9,10,27,28,29,54],(qbt e225),h262⟩⟩
  refine wo rfl<|qaR E ok qbH rfl rfl fun b264 a w E ok=>wn<|qaA (cl1 (cq le_m206 ok [1,2,3,4,5,6,7] rfl) (cq le_m206 ok [1,2,3,4,5,6,7] rfl)) fun hT=>qaP [10] (by kernel_rfl) rfl (qaU ?_)
  ·refine wo rfl<|qeV (R:=qbA) E ok qeT qe1 rfl ⟨rfl,(ir 0),(ir 0)⟩ rfl e227 rfl rfl fun c265 M266 a w E ok h267=>wn<|qaA (cl1 (cq le_m206 ok [2,3,4,5,6,7,8] rfl) (cq le_m206 ok [2,3,4,5,6,7,8] rfl)) fun hT=>kt 17 E rfl hT (qa0 (ps:=[(0,.tmp 61),(1,.tmp 67),(2,.tmp 73)]) (qs:=[(0,[vs s224]),(1,[c265]),(2,[vb false])]) (cs:=[vs s224,c265,vb false]) qbH qdN rfl ⟨rfl,rfl,rfl,⟨rfl,(ORow.cells h267),rfl,⟨rfl,rfl,rfl,trivial⟩⟩⟩ rfl) fun a E=>qaP [19] (by kernel_rfl) rfl (qaU ?_)
   ·refine wo rfl<|qae E ok 1 rfl rfl rfl qf1 rfl rfl ⟨rfl,(ORow.one h267),rfl,trivial⟩ rfl rfl fun w ok=>wn<|qaA (cl1 (cq le_m206 ok [2,3,4,5,6,7,8] rfl) (cq le_m206 ok [2,3,4,5,6,7,8] rfl)) fun hT=>qbg (by kernel_rfl) ?_
    exact ⟨rfl,⟨b264,c265,M266,(ok.pk 9 [1,0,2,3,4,5,6,7,8] rfl (by decide)),E.keep [0,3,4,5,7,9,10,27,28,29,54],(qbt e225),h267⟩⟩
 ·refine wo rfl<|qeV (R:=qbA) E ok qeT qe1 rfl ⟨rfl,(ir 0),(ir 0)⟩ rfl e227 rfl rfl fun c268 M269 a w E ok h270=>wn<|qaA (cl1 (cq le_m206 ok [1,2,3,4,5,6,7] rfl) (cq le_m206 ok [1,2,3,4,5,6,7] rfl)) fun hT=>qaP [3,18] (by kernel_rfl) rfl (qfW ?_ (qfW ?_ (qjK)))
  ·refine wo rfl<|qag E qg5 rfl (qbq N x_204 r210 e222 hG hTb ok) rfl rfl ?_
   rintro _ w ⟨⟨rfl,ok⟩,l271⟩
   refine ⟨_,rfl,fun a E=>?_⟩
   refine wn<|qaA (cl1 (cq le_m206 ok [1,2,3,4,5,6,7] rfl) (cq le_m206 ok [1,2,3,4,5,6,7] rfl)) fun hT=>kt 4 E rfl hT (qcd rfl rfl e225) fun a E=>kt 13 E rfl hT (qah rfl) fun a E=>?_
   replace E:=E.upd 70 hc231 rfl
   refine qaE 14 false E rfl (by kernel_rfl) nP hT rfl rfl fun a E=>qaE 15 false E rfl (by kernel_rfl) nP hT rfl rfl fun a E=>kt 16 E rfl hT (qaY rfl rfl) fun a E=>kt 17 E rfl hT (qa0 (ps:=[(0,.tmp 61),(1,.tmp 67),(2,.tmp 73)]) (qs:=[(0,[vs s224]),(1,[c268]),(2,[vb false])]) (cs:=[vs s224,c268,vb false]) qbH qdN rfl ⟨rfl,rfl,rfl,⟨rfl,(ORow.cells h270),rfl,⟨rfl,rfl,rfl,trivial⟩⟩⟩ rfl) fun a E=>qaP [18] (by kernel_rfl) rfl (qaU ?_)
   ·refine wo rfl<|qaR E ok qbH rfl rfl fun b272 a w E ok=>wn<|qaA (cl1 (cq le_m206 ok [2,3,4,5,6,7,8] rfl) (cq le_m206 ok [2,3,4,5,6,7,8] rfl)) fun hT=>qaP [19] (by kernel_rfl) rfl (qaU ?_)
    ·refine wo rfl<|qae E ok 0 rfl rfl rfl qf1 rfl rfl ⟨rfl,(ORow.one h270),rfl,trivial⟩ rfl rfl fun w ok=>wn<|qaA (cl1 (cq le_m206 ok [2,3,4,5,6,7,8] rfl) (cq le_m206 ok [2,3,4,5,6,7,8] rfl)) fun hT=>qbg (by kernel_rfl) ?_
     exact ⟨rfl,⟨b272,c268,M269,ok,E.keep [0,3,4,5,7,9,10,27,28,29,54],(qbt e225),h270⟩⟩
  refine wo rfl<|qaR E ok qbH rfl rfl fun b273 a w E ok=>wn<|qaA (cl1 (cq le_m206 ok [2,3,4,5,6,7,8] rfl) (cq le_m206 ok [2,3,4,5,6,7,8] rfl)) fun hT=>qaP [3] (by kernel_rfl) rfl (qaU ?_)
  ·refine wo rfl<|qag E qg5 rfl (qbq N x_204 r210 e222 hG hTb ok) rfl rfl ?_
   rintro _ w ⟨⟨rfl,ok⟩,l274⟩
   refine ⟨_,rfl,fun a E=>?_⟩
   refine wn<|qaA (cl1 (cq le_m206 ok [2,3,4,5,6,7,8] rfl) (cq le_m206 ok [2,3,4,5,6,7,8] rfl)) fun hT=>kt 4 E rfl hT (qcd rfl rfl e225) fun a E=>kt 13 E rfl hT (qah rfl) fun a E=>?_
   replace E:=E.upd 70 hc231 rfl
   refine qaE 14 false E rfl (by kernel_rfl) nP hT rfl rfl fun a E=>qaE 15 false E rfl (by kernel_rfl) nP hT rfl rfl fun a E=>kt 16 E rfl hT (qaY rfl rfl) fun a E=>kt 17 E rfl hT (qa0 (ps:=[(0,.tmp 61),(1,.tmp 67),(2,.tmp 73)]) (qs:=[(0,[vs s224]),(1,[c268]),(2,[vb false])]) (cs:=[vs s224,c268,vb false]) qbH qdN rfl ⟨rfl,rfl,rfl,⟨rfl,(ORow.cells h270),rfl,⟨rfl,rfl,rfl,trivial⟩⟩⟩ rfl) fun a E=>qaP [19] (by kernel_rfl) rfl (qaU ?_)
   ·refine wo rfl<|qae E ok 0 rfl rfl rfl qf1 rfl rfl ⟨rfl,(ORow.one h270),rfl,trivial⟩ rfl rfl fun w ok=>wn<|qaA (cl1 (cq le_m206 ok [2,3,4,5,6,7,8] rfl) (cq le_m206 ok [2,3,4,5,6,7,8] rfl)) fun hT=>qbg (by kernel_rfl) ?_
    exact ⟨rfl,⟨b273,c268,M269,ok,E.keep [0,3,4,5,7,9,10,27,28,29,54],(qbt e225),h270⟩⟩
 refine wo rfl<|qaR E ok qbH rfl rfl fun b275 a w E ok=>wn<|qaA (cl1 (cq le_m206 ok [1,2,3,4,5,6,7] rfl) (cq le_m206 ok [1,2,3,4,5,6,7] rfl)) fun hT=>qaP [3,10] (by kernel_rfl) rfl (qfW ?_ (qfW ?_ (qjK)))
 ·refine wo rfl<|qag E qg5 rfl (qbq N x_204 r210 e222 hG hTb ok) rfl rfl ?_
  rintro _ w ⟨⟨rfl,ok⟩,l276⟩
  refine ⟨_,rfl,fun a E=>?_⟩
  refine wn<|qaA (cl1 (cq le_m206 ok [1,2,3,4,5,6,7] rfl) (cq le_m206 ok [1,2,3,4,5,6,7] rfl)) fun hT=>kt 4 E rfl hT (qcd rfl rfl e225) fun a E=>kt 13 E rfl hT (qah rfl) fun a E=>?_
  replace E:=E.upd 70 hc231 rfl
  refine qaE 14 false E rfl (by kernel_rfl) nP hT rfl rfl fun a E=>qaE 15 false E rfl (by kernel_rfl) nP hT rfl rfl fun a E=>kt 16 E rfl hT (qaY rfl rfl) fun a E=>qaP [10] (by kernel_rfl) rfl (qaU ?_)
  ·refine wo rfl<|qeV (R:=qbA) E ok qeT qe1 rfl ⟨rfl,(ir 0),(ir 0)⟩ rfl e227 rfl rfl fun c277 M278 a w E ok h279=>wn<|qaA (cl1 (cq le_m206 ok [2,3,4,5,6,7,8] rfl) (cq le_m206 ok [2,3,4,5,6,7,8] rfl)) fun hT=>kt 17 E rfl hT (qa0 (ps:=[(0,.tmp 61),(1,.tmp 67),(2,.tmp 73)]) (qs:=[(0,[vs s224]),(1,[c277]),(2,[vb false])]) (cs:=[vs s224,c277,vb false]) qbH qdN rfl ⟨rfl,rfl,rfl,⟨rfl,(ORow.cells h279),rfl,⟨rfl,rfl,rfl,trivial⟩⟩⟩ rfl) fun a E=>qaP [19] (by kernel_rfl) rfl (qaU ?_)
   ·refine wo rfl<|qae E ok 1 rfl rfl rfl qf1 rfl rfl ⟨rfl,(ORow.one h279),rfl,trivial⟩ rfl rfl fun w ok=>wn<|qaA (cl1 (cq le_m206 ok [2,3,4,5,6,7,8] rfl) (cq le_m206 ok [2,3,4,5,6,7,8] rfl)) fun hT=>qbg (by kernel_rfl) ?_
    exact ⟨rfl,⟨b275,c277,M278,(ok.pk 9 [1,0,2,3,4,5,6,7,8] rfl (by decide)),E.keep [0,3,4,5,7,9,10,27,28,29,54],(qbt e225),h279⟩⟩
 refine wo rfl<|qeV (R:=qbA) E ok qeT qe1 rfl ⟨rfl,(ir 0),(ir 0)⟩ rfl e227 rfl rfl fun c280 M281 a w E ok h282=>wn<|qaA (cl1 (cq le_m206 ok [2,3,4,5,6,7,8] rfl) (cq le_m206 ok [2,3,4,5,6,7,8] rfl)) fun hT=>qaP [3] (by kernel_rfl) rfl (qaU ?_)
 ·refine wo rfl<|qag E qg5 rfl (qbq N x_204 r210 e222 hG hTb ok) rfl rfl ?_
  rintro _ w ⟨⟨rfl,ok⟩,l283⟩
  refine ⟨_,rfl,fun a E=>?_⟩
  refine wn<|qaA (cl1 (cq le_m206 ok [2,3,4,5,6,7,8] rfl) (cq le_m206 ok [2,3,4,5,6,7,8] rfl)) fun hT=>kt 4 E rfl hT (qcd rfl rfl e225) fun a E=>kt 13 E rfl hT (qah rfl) fun a E=>?_
  replace E:=E.upd 70 hc231 rfl
  refine qaE 14 false E rfl (by kernel_rfl) nP hT rfl rfl fun a E=>qaE 15 false E rfl (by kernel_rfl) nP hT rfl rfl fun a E=>kt 16 E rfl hT (qaY rfl rfl) fun a E=>kt 17 E rfl hT (qa0 (ps:=[(0,.tmp 61),(1,.tmp 67),(2,.tmp 73)]) (qs:=[(0,[vs s224]),(1,[c280]),(2,[vb false])]) (cs:=[vs s224,c280,vb false]) qbH qdN rfl ⟨rfl,rfl,rfl,⟨rfl,(ORow.cells h282),rfl,⟨rfl,rfl,rfl,trivial⟩⟩⟩ rfl) fun a E=>qaP [19] (by kernel_rfl) rfl (qaU ?_)
  ·refine wo rfl<|qae E ok 1 rfl rfl rfl qf1 rfl rfl ⟨rfl,(ORow.one h282),rfl,trivial⟩ rfl rfl fun w ok=>wn<|qaA (cl1 (cq le_m206 ok [2,3,4,5,6,7,8] rfl) (cq le_m206 ok [2,3,4,5,6,7,8] rfl)) fun hT=>qbg (by kernel_rfl) ?_
   exact ⟨rfl,⟨b275,c280,M281,(ok.pk 9 [1,0,2,3,4,5,6,7,8] rfl (by decide)),E.keep [0,3,4,5,7,9,10,27,28,29,54],(qbt e225),h282⟩⟩
def qmr (u:World) (m0:Mem) (S:Segs) (r:(Option (Classes))) (a:Act) (w:World):Prop :=
 ∃ m1 v0,m0.le m1 ∧ Ok u m1 (S) w ∧ a.defers = [] ∧ RVs Tryz.prog a w [.t 2 v0] ∧ (pP 3 qeE) m1 [v0] r
theorem qhw (N:Nat) (vl_0:Value) (l_0:List (Relation)) (hl_0:(pL 4 qai) m0 [vl_0] l_0) {r:(Option (Classes))} (hF:qd0 N l_0 = some r) (hG:Glob u) (hTb:Tab u) (ok:Ok u m0 (S) w) :
  Calls Tryz.prog 113 [vl_0].toArray w fun e w'=>∃ m1 v0,e = .returned v0 ∧ m0.le m1 ∧ Ok u m1 (S) w' ∧ (pP 3 qeE) m1 [v0] r:=by
 have le_m0:=Mem.le.refl m0
 unfold qd0 at hF
 refine en (qmr u m0 S) r Tryz.func113 rfl rfl rfl (by rintro a w ⟨m1,v0,hle,ok,hd,hrv,h0⟩; exact qat [.t 2 v0] hd rfl hrv ⟨m1,v0,rfl,hle,ok,h0⟩) fun fin a E=>sg<|aw E rfl fun a E=>sg ?_
 refine mv E rfl fun a E=>lw E (qa0 (ps:=[(0,.tmp 9)]) (qs:=[(0,[vl_0])]) (cs:=[vl_0,(Value.slice none 0 0),(Value.slice none 0 0)]) qtm qrJ rfl ⟨rfl,(qcY hl_0),rfl,trivial⟩ rfl) fun a E=>qcH E ok rfl rfl rfl fun b1 a w E ok=>aw E rfl fun a E=>wp_seq<|wp_seq ?_
 refine qab<|mv E rfl fun a E=>wn<|wp_block ?_
 obtain ⟨M12,ok,h13⟩:=qdX (e:=162) (k:=2) (R:=qcj) ok
 obtain ⟨M14,ok,h15⟩:=qdX (e:=162) (k:=2) (R:=qcj) ok
 obtain ⟨o16,hL,hF⟩:=bnd hF
 refine qaI _ (fun (s:Int × Classes) a w=>∃ m17 c19 c21 M22 c24 M25,m0.le m17 ∧ Ok u m17 (M25 :: M22 :: [(b1,oc 153 [c19,c21,c24])] :: S) w ∧ Env 54 a [(0,vl_0),(3,vp b1),(12,vi s.1)] ∧ InR .i64 s.1 ∧ (pL 4 qai) m17 [c19] s.2.l ∧ ORow 162 2 qcj m17 c21 s.2.wholes M22 ∧ ORow 162 2 qcj m17 c24 s.2.fraction M25) (fun (b:Classes) e a w=>e = (.exit 0) ∧ ∃ m166 c167 c169 M170 c172 M173,m0.le m166 ∧ Ok u m166 (M173 :: M170 :: [(b1,oc 153 [c167,c169,c172])] :: S) w ∧ Env 54 a [(3,vp b1)] ∧ (pL 4 qai) m166 [c167] b.l ∧ ORow 162 2 qcj m166 c169 b.wholes M170 ∧ ORow 162 2 qcj m166 c172 b.fraction M173) ?_ ?_ N _ a w hL ⟨m0,vl_0,(Value.slice none 0 0),M12,(Value.slice none 0 0),M14,Mem.le.refl _,ok,E.keep [0,3,12],(ir 0),hl_0,h13,h15⟩
 rotate_left
 ·intro e a w _ hO
  obtain ⟨rfl,m140,c141,c143,M144,c146,M147,hle,ok,E,h142,h145,h148⟩:=hO
  have le_m0:=le_m0.trans hle
  have hl_0:=(mL qad).up hle hl_0
  refine qaK<|qaa<|sg<|mv E rfl fun a E=>?_
  obtain ⟨r149,e150,hF⟩:=bnd hF
  replace ok:Ok u m140 ([(b1,oc 153 [c141,c143,c146])] :: M144 :: M147 :: S) w:=(ok.pk 3 [2,1,0] rfl (by decide))
  refine qag E qvF rfl (qjB N o16 h142 h145 h148 e150 hG hTb ok) rfl rfl ?_
  rintro _ w ⟨m151,c152,c154,M155,c157,M158,rfl,hle,ok,h153,h156,h159⟩
  have le_m0:=le_m0.trans hle
  have hl_0:=(mL qad).up hle hl_0
  have h142:=(mL qad).up hle h142
  refine ⟨_,rfl,fun a E=>?_⟩
  refine wn<|sg<|mv E rfl fun a E=>aw E rfl fun a E=>?_
  refine wp_ret ?_
  obtain ⟨m160,hle,ok,hfz⟩:=(ok.frs 1 rfl).freeze
  have h161:=ORow.froz qcO h156 hle hfz (by decide)
  have le_m0:=le_m0.trans hle
  have hl_0:=(mL qad).up hle hl_0
  have h142:=(mL qad).up hle h142
  have h153:=(mL qad).up hle h153
  have h159:=ORow.up qcO hle h159
  obtain ⟨m162,hle,ok,hfz⟩:=(ok.frs 1 rfl).freeze
  have h163:=ORow.froz qcO h159 hle hfz (by decide)
  have le_m0:=le_m0.trans hle
  have hl_0:=(mL qad).up hle hl_0
  have h142:=(mL qad).up hle h142
  have h153:=(mL qad).up hle h153
  have h161:=(mL qcO).up hle h161
  have hbx:=(show qeE m162 [c152,c154,c157] r149 from ⟨_,_,_,rfl,h153,h161,h163⟩)
  obtain ⟨m164,hle,ok,hfz⟩:=(ok.frs 0 rfl).freeze
  have h165:=quq qtL hbx hle hfz rfl
  clear hbx
  have le_m0:=le_m0.trans hle
  have hl_0:=(mL qad).up hle hl_0
  have h142:=(mL qad).up hle h142
  have h153:=(mL qad).up hle h153
  have h161:=(mL qcO).up hle h161
  have h163:=(mL qcO).up hle h163
  exact fin hF ⟨m164,vp b1,le_m0,ok,E.d,⟨rv_t E rfl,trivial⟩,h165⟩
 rintro ⟨x_27,x_28⟩ a w r ⟨m29,c31,c33,M34,c36,M37,hle,ok,E,r30,h32,h35,h38⟩ hF
 replace hF:qcv N l_0 x_27 x_28 = some r:=hF
 unfold qcv at hF
 have le_m0:=le_m0.trans hle
 have hl_0:=(mL qad).up hle hl_0
 refine sg<|lw E (qaF rfl rfl) fun a E=>wn<|wp_seq<|cf E rfl hF (fun hc39 hF=>?_) fun hc39 hF=>?_
 rotate_left
 ·refine wp_exit<|qaB ?_
  obtain rfl:=sj hF
  exact so (⟨rfl,⟨m29,c31,c33,M34,c36,M37,le_m0,ok,E.keep [3],h32,h35,h38⟩⟩)
 refine wp_skip<|qaa<|wp_seq<|wp_block<|sg<|mv E rfl fun a E=>av E rfl fun a E=>?_
 refine wn<|sg<|mv E rfl fun a E=>?_
 obtain ⟨r40,e41,hF⟩:=bnd hF
 refine qag E qg5 rfl (qbq N x_27 r30 e41 hG hTb ok) rfl rfl ?_
 rintro _ w ⟨⟨rfl,ok⟩,l42⟩
 refine ⟨_,rfl,fun a E=>?_⟩
 refine aw E rfl fun a E=>sg<|mv E rfl fun a E=>lv E ok (qaH qbT hl_0 rfl) fun a E=>?_
 obtain ⟨l43,e44,hF⟩:=bnd hF
 refine qeV (R:=qbA) E ok qeT qe1 rfl ⟨rfl,(ir 0),(ir 0)⟩ rfl e44 rfl rfl fun c45 M46 a w E ok h47=>aw E rfl fun a E=>wp_seq<|sg<|mv E rfl fun a E=>?_
 refine lv E ok (qaH qbT hl_0 rfl) fun a E=>mv E rfl fun a E=>wn<|wp_block ?_
 obtain ⟨o53,hL,hF⟩:=bnd hF
 refine qaI _ (fun (s:Int × (List (Tracker))) a w=>∃ c55 M56,Ok u m29 (M56 :: M37 :: M34 :: [(b1,oc 153 [c31,c33,c36])] :: S) w ∧ Env 54 a [(0,vl_0),(3,vp b1),(4,vi x_27),(5,vs r40),(6,c55),(12,vi x_27),(20,vl_0),(21,(vi (l_0.length:Int))),(22,vi s.1)] ∧ InR .i64 s.1 ∧ ORow 157 2 qbA m29 c55 s.2 M56) (fun (b:((List (Tracker)))) e a w=>e = (.exit 2) ∧ ∃ c137 M138,Ok u m29 (M138 :: M37 :: M34 :: [(b1,oc 153 [c31,c33,c36])] :: S) w ∧ Env 54 a [(0,vl_0),(3,vp b1),(5,vs r40),(6,c137),(12,vi x_27)] ∧ ORow 157 2 qbA m29 c137 b M138) ?_ ?_ N _ a w hL ⟨c45,M46,ok,E.keep [0,3,4,5,6,12,20,21,22],(ir 0),h47⟩
 ·rintro ⟨x_58,trackers_59⟩ a w r ⟨c61,M62,ok,E,r60,h63⟩ hF
  replace hF:qb2 N l_0 x_27 x_58 trackers_59 = some r:=hF
  unfold qb2 at hF
  refine sg<|lw E (qaF rfl rfl) fun a E=>wn<|wp_seq<|cf E rfl hF (fun hc64 hF=>?_) fun hc64 hF=>?_
  rotate_left
  ·refine wp_exit<|qaB ?_
   obtain rfl:=sj hF
   exact so (⟨rfl,⟨c61,M62,ok,E.keep [0,3,5,6,12],h63⟩⟩)
  refine wp_skip<|qaa<|wp_seq<|wp_block<|sg<|mv E rfl fun a E=>?_
  obtain ⟨x65,e66,hF⟩:=bnd hF
  obtain ⟨b67,o68,es69,hl70,rr71,at72,yy73⟩:=qaO qbT hl_0 e66 (P:=Tryz.prog) (X:=.tmp 20) (I:=.tmp 22) (kd:=.i64) (qak E rfl) (qak E rfl)
  obtain ⟨c76,rfl,r74,r75,h77⟩:=rr71
  refine lv E ok (yy73 _ _) fun a E=>lv E ok (qao (cs:=[vi x65.Operand,vi x65.Mod,vb x65.Not,c76]) qcL rfl rfl (qac.ro at72)) fun a E=>qaR E ok qdS rfl rfl fun b78 a w E ok=>av E rfl fun a E=>qae E ok 0 rfl rfl rfl qjt rfl rfl ⟨rfl,rfl,rfl,(qh9 h77),trivial⟩ rfl rfl fun w ok=>wn<|wp_seq ?_
  refine qab<|lv E ok (qao (cs:=[vi x65.Operand,vi x65.Mod,vb x65.Not,c76]) qcL rfl rfl (qac.own 0 rfl rfl)) fun a E=>?_
  obtain ⟨r79,e80,hF⟩:=bnd hF
  refine lc E qmN rfl (qf7 N _ x65 ⟨_,rfl,r74,r75,h77⟩ e80 hG ok) fun w ok a E=>wn<|cf E rfl hF (fun hc81 hF=>?_) fun hc81 hF=>?_
  rotate_left
  ·refine wp_skip<|qal<|qaa<|qab<|lw E (qaD rfl rfl (InR.inc r60 (qaj hl_0) hc64)) fun a E=>mv E rfl fun a E=>wpList_nil ?_
   obtain rfl:=sj hF
   exact qau ⟨c61,M62,(ok.pk 5 [1,2,3,4] rfl (by decide)),E.keep [0,3,4,5,6,12,20,21,22],(InR.inc r60 (qaj hl_0) hc64),h63⟩
  refine qab<|mv E rfl fun a E=>mv E rfl fun a E=>lv E ok (qao (cs:=[vi x65.Operand,vi x65.Mod,vb x65.Not,c76]) qcL rfl rfl (qac.own 0 rfl rfl)) fun a E=>mv E rfl fun a E=>?_
  obtain ⟨r82,e83,hF⟩:=bnd hF
  refine qag E qoK rfl (qhf N _ x65 ⟨_,rfl,r74,r75,h77⟩ x_27 r30 e83 hG ok) rfl rfl ?_
  rintro _ w ⟨⟨rfl,ok⟩,r84⟩
  refine ⟨_,rfl,fun a E=>?_⟩
  obtain ⟨x85,e86,hF⟩:=bnd hF
  obtain ⟨b87,o88,hp89,yy90⟩:=qdZ qeT h63 e86 (P:=Tryz.prog) (X:=.tmp 29) (I:=.tmp 30) (kd:=.i64) (qak E rfl) (qak E rfl)
  refine lv E ok (yy90 _ _) fun a E=>fv E qfx rfl fun a E=>?_
  obtain ⟨l93,e94,hF⟩:=bnd hF
  refine qq3 (R:=qbA) (f:=0) E ok 1 rfl h63 e86 hp89 rfl rfl rfl qbO rfl rfl rfl ⟨rfl,trivial⟩ (fun es _ h=>by obtain ⟨rfl,r91,r92⟩:=h; exact ⟨rfl,r84,r92⟩) e94 rfl fun M95 w ok h96=>wpList_nil<|qal<|qaa<|qab<|lw E (qaD rfl rfl (InR.inc r60 (qaj hl_0) hc64)) fun a E=>mv E rfl fun a E=>wpList_nil ?_
  obtain rfl:=sj hF
  exact qau ⟨c61,M95,(ok.pk 5 [1,2,3,4] rfl (by decide)),E.keep [0,3,4,5,6,12,20,21,22],(InR.inc r60 (qaj hl_0) hc64),h96⟩
 intro e a w _ hO
 obtain ⟨rfl,c97,M98,ok,E,h99⟩:=hO
 refine qaK<|qaa ?_
 obtain ⟨o100,hJ,hF⟩:=bnd hF
 refine qaV (Q':=fun e a w=>e = .normal ∧ ∃ m101 c102 c104 M105 c107 M108,m29.le m101 ∧ Ok u m101 (M108 :: M105 :: [(b1,oc 153 [c102,c104,c107])] :: S) w ∧ Env 54 a [(0,vl_0),(3,vp b1),(12,vi x_27)] ∧ (pL 4 qai) m101 [c102] o100.l ∧ ORow 162 2 qcj m101 c104 o100.wholes M105 ∧ ORow 162 2 qcj m101 c107 o100.fraction M108) ?_ ?_
 rotate_left
 ·clear hJ
  intro e a w hO
  obtain ⟨rfl,m128,c129,c131,M132,c134,M135,hle,ok,E,h130,h133,h136⟩:=hO
  have le_m0:=le_m0.trans hle
  have hl_0:=(mL qad).up hle hl_0
  have h32:=(mL qad).up hle h32
  refine qal<|qaa<|qab<|lw E (qaD rfl rfl (InR.inc r30 (ir 1000) hc39)) fun a E=>mv E rfl fun a E=>wpList_nil ?_
  obtain rfl:=sj hF
  exact qau ⟨m128,c129,c131,M132,c134,M135,le_m0,ok,E.keep [0,3,12],(InR.inc r30 (ir 1000) hc39),h130,h133,h136⟩
 replace hF:=hJ
 clear hJ
 have le_m29:=Mem.le.refl m29
 obtain ⟨r112,e113,hF⟩:=bnd hF
 obtain ⟨r115,e116,hF⟩:=bnd hF
 obtain rfl:=sj hF
 refine qbG [4] (Cls u m29 (M37 :: [(b1,oc 153 [c31,c33,c36])] :: [])) (Cls u m29 (M37 :: [])) (by kernel_rfl) ?_
 intro w hw
 replace ok:=qce ok hw
 clear hw
 have h32_o:=h32
 refine qaA (cl1 (cq le_m29 ok [1,3] rfl) (cq le_m29 ok [1] rfl)) fun hT=>kt 0 E rfl hT (qah rfl) fun a E=>kt 1 E rfl hT (qah rfl) fun a E=>kt 2 E rfl hT (qaq rfl) fun a E=>kt 3 E rfl hT (qan qj6 rfl) fun a E=>qdo 4 E rfl (by kernel_rfl) nP hT (qap qij rfl (qac.cown 1 rfl rfl)) rfl rfl fun a E=>kt 5 E rfl hT (qah rfl) fun a E=>kt 6 E rfl hT (qah rfl) fun a E=>?_
 refine kt 8 E rfl hT (qah rfl) fun a E=>qaP [7] (by kernel_rfl) rfl (qaU ?_)
 ·refine qcA (o:=_) rfl ?_
  obtain ⟨m121,hle,ok,hfz⟩:=(ok.frs 0 rfl).freeze
  have h122:=ORow.froz qbd h99 hle hfz (by decide)
  have le_m0:=le_m0.trans hle
  have le_m29:=le_m29.trans hle
  have hl_0:=(mL qad).up hle hl_0
  have h32:=(mL qad).up hle h32
  have h35:=ORow.up qcO hle h35
  have h38:=ORow.up qcO hle h38
  replace ok:Ok u m121 ([(b1,oc 153 [c31,c33,c36])] :: M34 :: M37 :: S) w:=(ok.pk 3 [2,1,0] rfl (by decide))
  refine qag E qsx rfl (qik N false _ o53 h122 x_28 h32 h35 h38 e113 hG ok) rfl rfl ?_
  rintro _ w ⟨⟨rfl,ok⟩,r123⟩
  refine ⟨_,rfl,fun a E=>?_⟩
  refine wn<|qaA (cl1 (cq le_m29 ok [2,0] rfl) (cq le_m29 ok [2] rfl)) fun hT=>kt 9 E rfl hT (qa0 (ps:=[(0,.tmp 44),(1,.tmp 45)]) (qs:=[(0,[vu r112]),(1,[vs r40])]) (cs:=[vu r112,vs r40]) qf6 qog rfl ⟨rfl,rfl,rfl,⟨rfl,rfl,rfl,trivial⟩⟩ rfl) fun a E=>qaP [10] (by kernel_rfl) rfl (qaU ?_)
  ·refine qcA (o:=_) rfl ?_
   replace ok:Ok u m121 (M34 :: [(b1,oc 153 [c31,c33,c36])] :: M37 :: S) w:=(ok.pk 3 [1,0,2] rfl (by decide))
   refine qag E qsW rfl (ql1 N _ x_28.wholes h35 _ (Part.mk r112 r40) ⟨rfl,r123,l42⟩ e116 hG ok) rfl rfl ?_
   rintro _ w ⟨m124,c125,M126,rfl,hle,ok,h127⟩
   have le_m0:=le_m0.trans hle
   have le_m29:=le_m29.trans hle
   have hl_0:=(mL qad).up hle hl_0
   have h32:=(mL qad).up hle h32
   have h38:=ORow.up qcO hle h38
   have h122:=(mL qbd).up hle h122
   refine ⟨_,rfl,fun a E=>?_⟩
   refine wn<|qaA (cl1 (cq le_m29 ok [2,1] rfl) (cq le_m29 ok [2] rfl)) fun hT=>kt 11 E rfl hT (qaq rfl) fun a E=>kt 12 E rfl hT (qan qj6 rfl) fun a E=>qaP [13] (by kernel_rfl) rfl (qaU ?_)
   ·refine wo rfl<|qae E ok 1 rfl rfl rfl qrx (ORow.cells h127) rfl ⟨(ORow.one h127),trivial⟩ rfl rfl fun w ok=>wn<|qaA (cl2 (by kernel_rfl) (cq le_m29 ok [2] rfl)) fun hT=>qbg (by kernel_rfl) ?_
    exact ⟨rfl,⟨m124,c31,c125,M126,c36,M37,le_m29,(ok.pk 3 [2,0,1] rfl (by decide)),E.keep [0,3,12],h32,h127,h38⟩⟩
def qmx (u:World) (m0:Mem) (S:Segs) (r:Bool) (a:Act) (w:World):Prop :=
 Ok u m0 S w ∧ a.defers = [] ∧ RVs Tryz.prog a w [.t 2 (.bool r)]
theorem qmi (N:Nat) (vl_0:Value) (l_0:List (Bool)) (hl_0:(pL 1 pB) m0 [vl_0] l_0) {r:Bool} (hF:qd1 N l_0 = some r) (hG:Glob u) (ok:Ok u m0 S w) :
  Calls Tryz.prog 87 [vl_0].toArray w fun e w'=>(e = .returned (.bool r) ∧ Ok u m0 S w'):=by
 unfold qd1 at hF
 refine en (qmx u m0 S) r Tryz.func87 rfl rfl rfl (by rintro a w ⟨ok,hd,hrv⟩; exact qat [.t 2 (.bool r)] hd rfl hrv ⟨rfl,ok⟩) fun fin a E=>sg<|aw E rfl fun a E=>sg ?_
 refine mv E rfl fun a E=>?_
 obtain ⟨x1,e2,hF⟩:=bnd hF
 obtain ⟨b3,o4,es5,hl6,rr7,at8,yy9⟩:=qaO qhS hl_0 e2 (P:=Tryz.prog) (X:=.tmp 3) (I:=.const (vi 0)) (kd:=.i64) (qak E rfl) (qak E rfl)
 obtain rfl:=rr7
 refine lv E ok (yy9 _ _) fun a E=>lv E ok (qap qeQ rfl (qac.ro at8)) fun a E=>mv E rfl fun a E=>qav x1 (fun hc10=>?_) (fun hc10=>?_)
 rotate_left
 ·replace hF:=qar hc10 hF
  replace E:=E.upd 6 hc10 rfl
  refine ls E fun a E=>ls E fun a E=>ls E fun a E=>pf E rfl rfl fun a E=>aw E rfl fun a E=>wp_ret ?_
  exact fin hF ⟨ok,E.d,⟨rv_t E rfl,trivial⟩⟩
 replace hF:=qas hc10 hF
 replace E:=E.upd 6 hc10 rfl
 refine mv E rfl fun a E=>?_
 obtain ⟨x11,e12,hF⟩:=bnd hF
 obtain ⟨b13,o14,es15,hl16,rr17,at18,yy19⟩:=qaO qhS hl_0 e12 (P:=Tryz.prog) (X:=.tmp 7) (I:=.const (vi 1)) (kd:=.i64) (qak E rfl) (qak E rfl)
 obtain rfl:=rr17
 refine lv E ok (yy19 _ _) fun a E=>lv E ok (qap qeQ rfl (qac.ro at18)) fun a E=>pt E rfl rfl fun a E=>aw E rfl fun a E=>wp_ret ?_
 exact fin hF ⟨ok,E.d,⟨rv_t E rfl,trivial⟩⟩
def qkM (u:World) (m0:Mem) (S:Segs) (r:Bool) (a:Act) (w:World):Prop :=
 Ok u m0 S w ∧ a.defers = [] ∧ RVs Tryz.prog a w [.t 8 (.bool r)]
theorem qkN (N:Nat) (vx_0:Value) (x_0:Option (Classes)) (hx_0:(pP 3 qeE) m0 [vx_0] x_0) (vw_1:List Value) (w_1:Part) (hw_1:qcj m0 vw_1 w_1) (vf_2:List Value) (f_2:Part) (hf_2:qcj m0 vf_2 f_2) (i_3:Int) (ri_3:InR .i64 i_3) {r:Bool} (hF:qeF N x_0 w_1 f_2 i_3 = some r) (hG:Glob u) (ok:Ok u m0 S w) :
  Calls Tryz.prog 149 [vx_0,.agg vw_1.toArray,.agg vf_2.toArray,vi i_3].toArray w fun e w'=>(e = .returned (.bool r) ∧ Ok u m0 S w'):=by
 obtain ⟨rfl,r1,l2⟩:=hw_1
 obtain ⟨rfl,r3,l4⟩:=hf_2
 unfold qeF at hF
 refine en (qkM u m0 S) r Tryz.func149 rfl rfl rfl (by rintro a w ⟨ok,hd,hrv⟩; exact qat [.t 8 (.bool r)] hd rfl hrv ⟨rfl,ok⟩) fun fin a E=>sg<|qcH E ok rfl rfl rfl fun b5 a w E ok=>qcH E ok rfl rfl rfl fun b6 a w E ok=>aw E rfl fun a E=>?_
 refine sg<|mv E rfl fun a E=>?_
 obtain ⟨y7,e8,hF⟩:=bnd hF
 obtain ⟨b9,o10,es11,hv12,hl13,hR14,at15⟩:=qjd hx_0 e8
 obtain ⟨c16,c18,c20,rfl,h17,h19,h21⟩:=hR14
 refine lv E ok (qgA hv12 rfl) fun a E=>fv E qi6 rfl fun a E=>lv E ok (qap qeS rfl (qac.ro (At.sub 0 1 at15))) fun a E=>mv E rfl fun a E=>?_
 obtain ⟨x22,e23,hF⟩:=bnd hF
 obtain ⟨b24,o25,es26,hl27,rr28,at29,yy30⟩:=qaO qbT h17 e23 (P:=Tryz.prog) (X:=.tmp 13) (I:=.tmp 14) (kd:=.i64) (qak E rfl) (qak E rfl)
 obtain ⟨c33,rfl,r31,r32,h34⟩:=rr28
 refine lv E ok (yy30 _ _) fun a E=>lv E ok (qao (cs:=[vi x22.Operand,vi x22.Mod,vb x22.Not,c33]) qcL rfl rfl (qac.ro at29)) fun a E=>qaR E ok qdS rfl rfl fun b35 a w E ok=>qae E ok 0 rfl rfl rfl qjt rfl rfl ⟨rfl,rfl,rfl,(qh9 h34),trivial⟩ rfl rfl fun w ok=>wn<|wp_seq<|wp_block ?_
 refine sg<|fv E qbl rfl fun a E=>ld E ok qaC 0 rfl rfl rfl fun a E=>lw E (qaM rfl rfl) fun a E=>mv E rfl fun a E=>qav (x22.Operand == 1) (fun hc36=>?_) (fun hc36=>?_)
 rotate_left
 ·replace hF:=qar hc36 hF
  replace E:=E.upd 21 hc36 rfl
  refine ls E fun a E=>ls E fun a E=>ls E fun a E=>ls E fun a E=>pf E rfl rfl fun a E=>aw E rfl fun a E=>?_
  refine c_if E rfl (fun h=>by cases h) (fun _=>?_)
  refine sg<|lv E ok (qao (cs:=[vi x22.Operand,vi x22.Mod,vb x22.Not,c33]) qcL rfl rfl (qac.own 0 rfl rfl)) fun a E=>?_
  obtain ⟨r45,e46,hF⟩:=bnd hF
  refine lc E qmN rfl (qf7 N _ x22 ⟨_,rfl,r31,r32,h34⟩ e46 hG ok) fun w ok a E=>aw E rfl fun a E=>cf E rfl hF (fun hc47 hF=>?_) fun hc47 hF=>?_
  ·refine sg<|fv E qih rfl fun a E=>ld E ok qje 2 rfl rfl rfl fun a E=>mv E rfl fun a E=>?_
   obtain ⟨q48,e49,hF⟩:=bnd hF
   refine lw E (qpZ rfl rfl e49) fun a E=>lw E (qke .and (by decide) rfl rfl) fun a E=>lw E (qaM rfl rfl) fun a E=>aw E rfl fun a E=>wp_ret<|qax ?_
   refine qaf ?_
   exact fin hF ⟨ok.drop.drop.drop,E.d,⟨rv_t E rfl,trivial⟩⟩
  refine wp_skip<|qal<|qaa<|sg<|fv E qih rfl fun a E=>ld E ok qje 1 rfl rfl rfl fun a E=>mv E rfl fun a E=>?_
  obtain ⟨q50,e51,hF⟩:=bnd hF
  refine lw E (qpZ rfl rfl e51) fun a E=>lw E (qke .and (by decide) rfl rfl) fun a E=>lw E (qaM rfl rfl) fun a E=>aw E rfl fun a E=>wp_ret ?_
  exact fin hF ⟨ok.drop.drop.drop,E.d,⟨rv_t E rfl,trivial⟩⟩
 replace hF:=qas hc36 hF
 replace E:=E.upd 21 hc36 rfl
 refine fv E qih rfl fun a E=>ld E ok qje 1 rfl rfl rfl fun a E=>lw E (qke .and (by decide) rfl rfl) fun a E=>lw E (qaW rfl rfl) fun a E=>pt E rfl rfl fun a E=>aw E rfl fun a E=>?_
 refine cf E rfl hF (fun hc37 hF=>?_) fun hc37 hF=>?_
 ·refine sg<|fv E qgq rfl fun a E=>ld E ok qeQ 0 rfl rfl rfl fun a E=>aw E rfl fun a E=>wp_ret ?_
  refine qax<|qaf ?_
  exact fin hF ⟨ok.drop.drop.drop,E.d,⟨rv_t E rfl,trivial⟩⟩
 refine sg<|lv E ok (qao (cs:=[vi x22.Operand,vi x22.Mod,vb x22.Not,c33]) qcL rfl rfl (qac.own 0 rfl rfl)) fun a E=>?_
 obtain ⟨r38,e39,hF⟩:=bnd hF
 refine lc E qmN rfl (qf7 N _ x22 ⟨_,rfl,r31,r32,h34⟩ e39 hG ok) fun w ok a E=>aw E rfl fun a E=>cf E rfl hF (fun hc40 hF=>?_) fun hc40 hF=>?_
 ·refine sg<|fv E qih rfl fun a E=>ld E ok qje 2 rfl rfl rfl fun a E=>mv E rfl fun a E=>?_
  obtain ⟨q41,e42,hF⟩:=bnd hF
  refine lw E (qpZ rfl rfl e42) fun a E=>lw E (qke .and (by decide) rfl rfl) fun a E=>lw E (qaM rfl rfl) fun a E=>aw E rfl fun a E=>wp_ret<|qax ?_
  refine qaf ?_
  exact fin hF ⟨ok.drop.drop.drop,E.d,⟨rv_t E rfl,trivial⟩⟩
 refine wp_skip<|qal<|qaa<|sg<|fv E qih rfl fun a E=>ld E ok qje 1 rfl rfl rfl fun a E=>mv E rfl fun a E=>?_
 obtain ⟨q43,e44,hF⟩:=bnd hF
 refine lw E (qpZ rfl rfl e44) fun a E=>lw E (qke .and (by decide) rfl rfl) fun a E=>lw E (qaM rfl rfl) fun a E=>aw E rfl fun a E=>wp_ret ?_
 exact fin hF ⟨ok.drop.drop.drop,E.d,⟨rv_t E rfl,trivial⟩⟩
def qkb (u:World) (m0:Mem) (S:Segs) (pb0:Nat) (pb1:Nat) (pb2:Nat) (x0:Option (Classes)) (c1:Value) (x1:Part) (x2:Part) (r:Bool) (a:Act) (w:World):Prop :=
 Ok u m0 ([(pb0,oc 127 [c1])] :: [(pb1,oc 162 [vu x1.bits,vs x1.text])] :: [(pb2,oc 162 [vu x2.bits,vs x2.text])] :: S) w ∧ a.defers = [] ∧ RVs Tryz.prog a w [.t 5 (.bool r)]
theorem qkf (N:Nat) (i_0:Int) (ri_0:InR .i64 i_0) {pb0:Nat} {c1:Value} (x0:Option (Classes)) (h2:(pP 3 qeE) m0 [c1] x0) {pb1:Nat} (x1:Part) (r3:InR .u64 x1.bits) (l4:x1.text.length ≤ LIMS) {pb2:Nat} (x2:Part) (r5:InR .u64 x2.bits) (l6:x2.text.length ≤ LIMS) {r:Bool} (hF:qfd N i_0 x0 x1 x2 = some r) (hG:Glob u) (ok:Ok u m0 ([(pb0,oc 127 [c1])] :: [(pb1,oc 162 [vu x1.bits,vs x1.text])] :: [(pb2,oc 162 [vu x2.bits,vs x2.text])] :: S) w) :
  Calls Tryz.prog 148 [vi i_0,vp pb0,vp pb1,vp pb2].toArray w fun e w'=>(e = .returned (.bool r) ∧ Ok u m0 ([(pb0,oc 127 [c1])] :: [(pb1,oc 162 [vu x1.bits,vs x1.text])] :: [(pb2,oc 162 [vu x2.bits,vs x2.text])] :: S) w'):=by
 unfold qfd at hF
 refine en (qkb u m0 S pb0 pb1 pb2 x0 c1 x1 x2) r Tryz.func148 rfl rfl rfl (by rintro a w ⟨ok,hd,hrv⟩; exact qat [.t 5 (.bool r)] hd rfl hrv ⟨rfl,ok⟩) fun fin a E=>sg<|aw E rfl fun a E=>sg ?_
 refine ld E ok qi9 0 rfl rfl rfl fun a E=>lv E ok (qao (cs:=[vu x1.bits,vs x1.text]) qhl rfl rfl (qac.own 1 rfl rfl)) fun a E=>lv E ok (qao (cs:=[vu x2.bits,vs x2.text]) qhl rfl rfl (qac.own 2 rfl rfl)) fun a E=>mv E rfl fun a E=>?_
 obtain ⟨r7,e8,hF⟩:=bnd hF
 refine lc E qvv rfl (qkN N _ x0 h2 _ x1 ⟨rfl,r3,l4⟩ _ x2 ⟨rfl,r5,l6⟩ i_0 ri_0 e8 hG ok) fun w ok a E=>aw E rfl fun a E=>wp_ret ?_
 exact fin hF ⟨ok,E.d,⟨rv_t E rfl,trivial⟩⟩
def qmv (u:World) (m0:Mem) (S:Segs) (pb0:Nat) (pb1:Nat) (pb2:Nat) (pb3:Nat) (pb4:Nat) (pb5:Nat) (x1:List (Int)) (c1:Value) (M2:List (Nat × Obj)) (x2:Int) (x3:Option (Classes)) (c5:Value) (x4:Part) (x5:Part) (r:Bool) (a:Act) (w:World):Prop :=
 Ok u m0 ([(pb0,oc 130 [(Value.func (.func 148) #[] #[.pointer (some ⟨pb3,0,none⟩),.pointer (some ⟨pb4,0,none⟩),.pointer (some ⟨pb5,0,none⟩)])])] :: [(pb1,oc 104 [c1])] :: M2 :: [(pb2,oc 3 [vi x2])] :: [(pb3,oc 127 [c5])] :: [(pb4,oc 162 [vu x4.bits,vs x4.text])] :: [(pb5,oc 162 [vu x5.bits,vs x5.text])] :: S) w ∧ a.defers = [] ∧ RVs Tryz.prog a w [.t 5 (.bool r)]
theorem qmt (N:Nat) (k_0:Int) (rk_0:InR .i64 k_0) {pb0:Nat} {pb1:Nat} {c1:Value} {M2:List (Nat × Obj)} (x1:List (Int)) (h3:ORow 3 1 (pI .i64) m0 c1 x1 M2) {pb2:Nat} (x2:Int) (r4:InR .i64 x2) {pb3:Nat} {c5:Value} (x3:Option (Classes)) (h6:(pP 3 qeE) m0 [c5] x3) {pb4:Nat} (x4:Part) (r7:InR .u64 x4.bits) (l8:x4.text.length ≤ LIMS) {pb5:Nat} (x5:Part) (r9:InR .u64 x5.bits) (l10:x5.text.length ≤ LIMS) {r:Bool} (hF:qfO N k_0 x1 x2 x3 x4 x5 = some r) (hG:Glob u) (ok:Ok u m0 ([(pb0,oc 130 [(Value.func (.func 148) #[] #[.pointer (some ⟨pb3,0,none⟩),.pointer (some ⟨pb4,0,none⟩),.pointer (some ⟨pb5,0,none⟩)])])] :: [(pb1,oc 104 [c1])] :: M2 :: [(pb2,oc 3 [vi x2])] :: [(pb3,oc 127 [c5])] :: [(pb4,oc 162 [vu x4.bits,vs x4.text])] :: [(pb5,oc 162 [vu x5.bits,vs x5.text])] :: S) w) :
  Calls Tryz.prog 117 [vi k_0,vp pb0,vp pb1,vp pb2].toArray w fun e w'=>(e = .returned (.bool r) ∧ Ok u m0 ([(pb0,oc 130 [(Value.func (.func 148) #[] #[.pointer (some ⟨pb3,0,none⟩),.pointer (some ⟨pb4,0,none⟩),.pointer (some ⟨pb5,0,none⟩)])])] :: [(pb1,oc 104 [c1])] :: M2 :: [(pb2,oc 3 [vi x2])] :: [(pb3,oc 127 [c5])] :: [(pb4,oc 162 [vu x4.bits,vs x4.text])] :: [(pb5,oc 162 [vu x5.bits,vs x5.text])] :: S) w'):=by
 have le_m0:=Mem.le.refl m0
 unfold qfO at hF
 refine en (qmv u m0 S pb0 pb1 pb2 pb3 pb4 pb5 x1 c1 M2 x2 x3 c5 x4 x5) r Tryz.func117 rfl rfl rfl (by rintro a w ⟨ok,hd,hrv⟩; exact qat [.t 5 (.bool r)] hd rfl hrv ⟨rfl,ok⟩) fun fin a E=>sg<|aw E rfl fun a E=>wp_seq ?_
 obtain ⟨o11,hJ,hF⟩:=bnd hF
 refine qaV (Q':=fun e a w=>e = .normal ∧ Ok u m0 ([(pb0,oc 130 [(Value.func (.func 148) #[] #[.pointer (some ⟨pb3,0,none⟩),.pointer (some ⟨pb4,0,none⟩),.pointer (some ⟨pb5,0,none⟩)])])] :: [(pb1,oc 104 [c1])] :: M2 :: [(pb2,oc 3 [vi x2])] :: [(pb3,oc 127 [c5])] :: [(pb4,oc 162 [vu x4.bits,vs x4.text])] :: [(pb5,oc 162 [vu x5.bits,vs x5.text])] :: S) w ∧ Env 14 a [(5,vb o11)]) ?_ ?_
 rotate_left
 ·clear hJ
  intro e a w hO
  obtain ⟨rfl,ok,E⟩:=hO
  refine qaa<|wp_ret ?_
  exact fin hF ⟨ok,E.d,⟨rv_t E rfl,trivial⟩⟩
 replace hF:=hJ
 clear hJ
 obtain ⟨x12,e13,hF⟩:=bnd hF
 obtain ⟨r23,e24,hF⟩:=bnd hF
 obtain rfl:=sj hF
 refine qbG [] (Cls u m0 ([(pb0,oc 130 [(Value.func (.func 148) #[] #[.pointer (some ⟨pb3,0,none⟩),.pointer (some ⟨pb4,0,none⟩),.pointer (some ⟨pb5,0,none⟩)])])] :: [(pb1,oc 104 [c1])] :: M2 :: [(pb2,oc 3 [vi x2])] :: [(pb3,oc 127 [c5])] :: [(pb4,oc 162 [vu x4.bits,vs x4.text])] :: [(pb5,oc 162 [vu x5.bits,vs x5.text])] :: [])) (Cls u m0 ([(pb0,oc 130 [(Value.func (.func 148) #[] #[.pointer (some ⟨pb3,0,none⟩),.pointer (some ⟨pb4,0,none⟩),.pointer (some ⟨pb5,0,none⟩)])])] :: [(pb1,oc 104 [c1])] :: M2 :: [(pb2,oc 3 [vi x2])] :: [(pb3,oc 127 [c5])] :: [(pb4,oc 162 [vu x4.bits,vs x4.text])] :: [(pb5,oc 162 [vu x5.bits,vs x5.text])] :: [])) (by kernel_rfl) ?_
 intro w hw
 replace ok:=qce ok hw
 clear hw
 refine qaA (cl1 (cq le_m0 ok [0,1,2,3,4,5,6] rfl) (cq le_m0 ok [0,1,2,3,4,5,6] rfl)) fun hT=>kt 0 E rfl hT (qap quJ rfl (qac.cown 0 rfl rfl)) fun a E=>kt 1 E rfl hT (qap qnq rfl (qac.cown 1 rfl rfl)) fun a E=>kt 2 E rfl hT (qap qaC rfl (qac.cown 3 rfl rfl)) fun a E=>?_
 obtain ⟨b25,o26,hp27,yy28⟩:=qdZ qgx h3 e13 (P:=Tryz.prog) (X:=.tmp 7) (I:=.tmp 8) (kd:=.i64) (qak E rfl) (qak E rfl)
 refine kt 3 E rfl hT (yy28 _ _) fun a E=>?_
 obtain ⟨es29,hl30,rr31,hh32⟩:=qgs h3 e13 hp27 (by decide)
 obtain ⟨rfl,r33⟩:=rr31
 refine kt 4 E rfl hT (qap qaC rfl (qac.crow hh32 2 rfl)) fun a E=>kt 5 E rfl hT (qah rfl) fun a E=>kt 6 E rfl hT (qbc rfl rfl) fun a E=>qaP [7] (by kernel_rfl) rfl (qaU ?_)
 ·refine qcA (o:=_) rfl ?_
  replace ok:Ok u m0 ([(pb3,oc 127 [c5])] :: [(pb4,oc 162 [vu x4.bits,vs x4.text])] :: [(pb5,oc 162 [vu x5.bits,vs x5.text])] :: [(pb0,oc 130 [(Value.func (.func 148) #[] #[.pointer (some ⟨pb3,0,none⟩),.pointer (some ⟨pb4,0,none⟩),.pointer (some ⟨pb5,0,none⟩)])])] :: [(pb1,oc 104 [c1])] :: M2 :: [(pb2,oc 3 [vi x2])] :: S) w:=(ok.pk 7 [4,5,6,0,1,2,3] rfl (by decide))
  refine qcc E rfl qvC rfl (qkf N (IntKind.wrap .i64 (x12 + k_0)) (InR.wrap _ _) x3 h6 x4 r7 l8 x5 r9 l10 e24 hG ok) rfl rfl ?_
  rintro _ w ⟨rfl,ok⟩
  refine ⟨_,rfl,fun a E=>?_⟩
  refine wn<|qaA (cl1 (cq le_m0 ok [3,4,5,6,0,1,2] rfl) (cq le_m0 ok [3,4,5,6,0,1,2] rfl)) fun hT=>kt 8 E rfl hT (qaG rfl) fun a E=>qbg (by kernel_rfl) ?_
  exact ⟨rfl,⟨(ok.pk 7 [3,4,5,6,0,1,2] rfl (by decide)),E.keep [5]⟩⟩
def qmm (u:World) (m0:Mem) (S:Segs) (pb0:Nat) (pb1:Nat) (pb2:Nat) (pb3:Nat) (pb4:Nat) (pb5:Nat) (x1:List (Int)) (c1:Value) (M2:List (Nat × Obj)) (x2:Int) (x3:Option (Classes)) (c5:Value) (x4:Part) (x5:Part) (r:Bool) (a:Act) (w:World):Prop :=
 Ok u m0 ([(pb0,oc 130 [(Value.func (.func 148) #[] #[.pointer (some ⟨pb3,0,none⟩),.pointer (some ⟨pb4,0,none⟩),.pointer (some ⟨pb5,0,none⟩)])])] :: [(pb1,oc 104 [c1])] :: M2 :: [(pb2,oc 3 [vi x2])] :: [(pb3,oc 127 [c5])] :: [(pb4,oc 162 [vu x4.bits,vs x4.text])] :: [(pb5,oc 162 [vu x5.bits,vs x5.text])] :: S) w ∧ a.defers = [] ∧ RVs Tryz.prog a w [.t 4 (.bool r)]
theorem qhv (N:Nat) (vc_0:Value) (c_0:List (List (Relation))) (hc_0:(pL 1 (pL 4 qai)) m0 [vc_0] c_0) {pb0:Nat} {pb1:Nat} {c1:Value} {M2:List (Nat × Obj)} (x1:List (Int)) (h3:ORow 3 1 (pI .i64) m0 c1 x1 M2) {pb2:Nat} (x2:Int) (r4:InR .i64 x2) {pb3:Nat} {c5:Value} (x3:Option (Classes)) (h6:(pP 3 qeE) m0 [c5] x3) {pb4:Nat} (x4:Part) (r7:InR .u64 x4.bits) (l8:x4.text.length ≤ LIMS) {pb5:Nat} (x5:Part) (r9:InR .u64 x5.bits) (l10:x5.text.length ≤ LIMS) {r:Bool} (hF:qd6 N c_0 x1 x2 x3 x4 x5 = some r) (hG:Glob u) (ok:Ok u m0 ([(pb0,oc 130 [(Value.func (.func 148) #[] #[.pointer (some ⟨pb3,0,none⟩),.pointer (some ⟨pb4,0,none⟩),.pointer (some ⟨pb5,0,none⟩)])])] :: [(pb1,oc 104 [c1])] :: M2 :: [(pb2,oc 3 [vi x2])] :: [(pb3,oc 127 [c5])] :: [(pb4,oc 162 [vu x4.bits,vs x4.text])] :: [(pb5,oc 162 [vu x5.bits,vs x5.text])] :: S) w) :
  Calls Tryz.prog 116 [vc_0,Value.func (.func 117) #[] #[.pointer (some ⟨pb0,0,none⟩),.pointer (some ⟨pb1,0,none⟩),.pointer (some ⟨pb2,0,none⟩)]].toArray w fun e w'=>(e = .returned (.bool r) ∧ Ok u m0 ([(pb0,oc 130 [(Value.func (.func 148) #[] #[.pointer (some ⟨pb3,0,none⟩),.pointer (some ⟨pb4,0,none⟩),.pointer (some ⟨pb5,0,none⟩)])])] :: [(pb1,oc 104 [c1])] :: M2 :: [(pb2,oc 3 [vi x2])] :: [(pb3,oc 127 [c5])] :: [(pb4,oc 162 [vu x4.bits,vs x4.text])] :: [(pb5,oc 162 [vu x5.bits,vs x5.text])] :: S) w'):=by
 unfold qd6 at hF
 refine en (qmm u m0 S pb0 pb1 pb2 pb3 pb4 pb5 x1 c1 M2 x2 x3 c5 x4 x5) r Tryz.func116 rfl rfl rfl (by rintro a w ⟨ok,hd,hrv⟩; exact qat [.t 4 (.bool r)] hd rfl hrv ⟨rfl,ok⟩) fun fin a E=>sg<|aw E rfl fun a E=>sg ?_
 refine aw E rfl fun a E=>sg<|aw E rfl fun a E=>?_
 refine wp_seq<|sg<|mv E rfl fun a E=>lv E ok (qaH qea hc_0 rfl) fun a E=>mv E rfl fun a E=>wn ?_
 refine wp_block ?_
 obtain ⟨o13,hL,hF⟩:=bnd hF
 refine qaI _ (fun (s:Int × Bool × Int) a w=>Ok u m0 ([(pb0,oc 130 [(Value.func (.func 148) #[] #[.pointer (some ⟨pb3,0,none⟩),.pointer (some ⟨pb4,0,none⟩),.pointer (some ⟨pb5,0,none⟩)])])] :: [(pb1,oc 104 [c1])] :: M2 :: [(pb2,oc 3 [vi x2])] :: [(pb3,oc 127 [c5])] :: [(pb4,oc 162 [vu x4.bits,vs x4.text])] :: [(pb5,oc 162 [vu x5.bits,vs x5.text])] :: S) w ∧ Env 35 a [(1,(Value.func (.func 117) #[] #[.pointer (some ⟨pb0,0,none⟩),.pointer (some ⟨pb1,0,none⟩),.pointer (some ⟨pb2,0,none⟩)])),(5,vi s.1),(6,vb s.2.1),(10,vc_0),(11,(vi (c_0.length:Int))),(12,vi s.2.2)] ∧ InR .i64 s.1 ∧ InR .i64 s.2.2) (fun (b:Bool) e a w=>e = (.exit 0) ∧ Ok u m0 ([(pb0,oc 130 [(Value.func (.func 148) #[] #[.pointer (some ⟨pb3,0,none⟩),.pointer (some ⟨pb4,0,none⟩),.pointer (some ⟨pb5,0,none⟩)])])] :: [(pb1,oc 104 [c1])] :: M2 :: [(pb2,oc 3 [vi x2])] :: [(pb3,oc 127 [c5])] :: [(pb4,oc 162 [vu x4.bits,vs x4.text])] :: [(pb5,oc 162 [vu x5.bits,vs x5.text])] :: S) w ∧ Env 35 a [(6,vb b)]) ?_ ?_ N _ a w hL ⟨ok,E.keep [1,5,6,10,11,12],(ir 0),(ir 0)⟩
 rotate_left
 ·intro e a w _ hO
  obtain ⟨rfl,ok,E⟩:=hO
  refine qaK<|qaa<|sg<|mv E rfl fun a E=>aw E rfl fun a E=>?_
  refine wp_ret ?_
  exact fin hF ⟨ok,E.d,⟨rv_t E rfl,trivial⟩⟩
 rintro ⟨at_16,found_17,x_18⟩ a w r ⟨ok,E,r19,r20⟩ hF
 replace hF:qb1 N c_0 x1 x2 x3 x4 x5 at_16 found_17 x_18 = some r:=hF
 unfold qb1 at hF
 refine sg<|lw E (qaF rfl rfl) fun a E=>wn<|wp_seq<|cf E rfl hF (fun hc21 hF=>?_) fun hc21 hF=>?_
 rotate_left
 ·refine wp_exit<|qaB ?_
  obtain rfl:=sj hF
  exact so (⟨rfl,⟨ok,E.keep [6]⟩⟩)
 refine wp_skip<|qaa<|wp_seq<|wp_block<|sg ?_
 obtain ⟨x22,e23,hF⟩:=bnd hF
 obtain ⟨b24,o25,es26,hl27,rr28,at29,yy30⟩:=qaO qea hc_0 e23 (P:=Tryz.prog) (X:=.tmp 10) (I:=.tmp 12) (kd:=.i64) (qak E rfl) (qak E rfl)
 obtain ⟨c31,rfl,h32⟩:=qcm rr28
 refine lv E ok (yy30 _ _) fun a E=>lv E ok (qap qeS rfl (qac.ro at29)) fun a E=>aw E rfl fun a E=>sg<|av E rfl fun a E=>?_
 refine wn<|wp_seq<|sg<|mv E rfl fun a E=>lv E ok (qaH qbT h32 rfl) fun a E=>mv E rfl fun a E=>?_
 refine wn<|wp_block ?_
 obtain ⟨o35,hL,hF⟩:=bnd hF
 refine qaI _ (fun (s:Int × Bool × Int) a w=>Ok u m0 ([(pb0,oc 130 [(Value.func (.func 148) #[] #[.pointer (some ⟨pb3,0,none⟩),.pointer (some ⟨pb4,0,none⟩),.pointer (some ⟨pb5,0,none⟩)])])] :: [(pb1,oc 104 [c1])] :: M2 :: [(pb2,oc 3 [vi x2])] :: [(pb3,oc 127 [c5])] :: [(pb4,oc 162 [vu x4.bits,vs x4.text])] :: [(pb5,oc 162 [vu x5.bits,vs x5.text])] :: S) w ∧ Env 35 a [(1,(Value.func (.func 117) #[] #[.pointer (some ⟨pb0,0,none⟩),.pointer (some ⟨pb1,0,none⟩),.pointer (some ⟨pb2,0,none⟩)])),(5,vi s.1),(6,vb found_17),(9,vb s.2.1),(10,vc_0),(11,(vi (c_0.length:Int))),(12,vi x_18),(17,(vi (x22.length:Int))),(18,vi s.2.2)] ∧ InR .i64 s.1 ∧ InR .i64 s.2.2) (fun (b:(Int × Bool)) e a w=>e = (.exit 2) ∧ Ok u m0 ([(pb0,oc 130 [(Value.func (.func 148) #[] #[.pointer (some ⟨pb3,0,none⟩),.pointer (some ⟨pb4,0,none⟩),.pointer (some ⟨pb5,0,none⟩)])])] :: [(pb1,oc 104 [c1])] :: M2 :: [(pb2,oc 3 [vi x2])] :: [(pb3,oc 127 [c5])] :: [(pb4,oc 162 [vu x4.bits,vs x4.text])] :: [(pb5,oc 162 [vu x5.bits,vs x5.text])] :: S) w ∧ Env 35 a [(1,(Value.func (.func 117) #[] #[.pointer (some ⟨pb0,0,none⟩),.pointer (some ⟨pb1,0,none⟩),.pointer (some ⟨pb2,0,none⟩)])),(5,vi b.1),(6,vb found_17),(9,vb b.2),(10,vc_0),(11,(vi (c_0.length:Int))),(12,vi x_18)] ∧ InR .i64 b.1) ?_ ?_ N _ a w hL ⟨ok,E.keep [1,5,6,9,10,11,12,17,18],r19,(ir 0)⟩
 rotate_left
 ·intro e a w _ hO
  obtain ⟨rfl,ok,E,r47⟩:=hO
  refine qaK<|qaa<|qab<|mv E rfl fun a E=>mv E rfl fun a E=>qav found_17 (fun hc48=>?_) (fun hc48=>?_)
  ·replace hF:=qas hc48 hF
   replace E:=E.upd 30 hc48 rfl
   refine ls E fun a E=>pt E rfl rfl fun a E=>av E rfl fun a E=>wpList_nil<|qal<|qaa<|qab<|lw E (qaD rfl rfl (InR.inc r20 (qaj hc_0) hc21)) fun a E=>?_
   refine mv E rfl fun a E=>wpList_nil ?_
   obtain rfl:=sj hF
   exact qau ⟨ok,E.keep [1,5,6,10,11,12],r47,(InR.inc r20 (qaj hc_0) hc21)⟩
  replace hF:=qar hc48 hF
  replace E:=E.upd 30 hc48 rfl
  refine mv E rfl fun a E=>pf E rfl rfl fun a E=>av E rfl fun a E=>wpList_nil<|qal<|qaa<|qab<|lw E (qaD rfl rfl (InR.inc r20 (qaj hc_0) hc21)) fun a E=>?_
  refine mv E rfl fun a E=>wpList_nil ?_
  obtain rfl:=sj hF
  exact qau ⟨ok,E.keep [1,5,6,10,11,12],r47,(InR.inc r20 (qaj hc_0) hc21)⟩
 rintro ⟨at_38,all_39,x_40⟩ a w r ⟨ok,E,r41,r42⟩ hF
 replace hF:qbV N x1 x2 x3 x4 x5 x22 at_38 all_39 x_40 = some r:=hF
 unfold qbV at hF
 refine sg<|lw E (qaF rfl rfl) fun a E=>wn<|wp_seq<|cf E rfl hF (fun hc43 hF=>?_) fun hc43 hF=>?_
 rotate_left
 ·refine wp_exit<|qaB ?_
  obtain rfl:=sj hF
  exact so (⟨rfl,⟨ok,E.keep [1,5,6,9,10,11,12],r41⟩⟩)
 refine wp_skip<|qaa<|wp_seq<|wp_block<|sg<|mv E rfl fun a E=>mv E rfl fun a E=>?_
 refine qav all_39 (fun hc44=>?_) (fun hc44=>?_)
 rotate_left
 ·replace hF:=qar hc44 hF
  replace E:=E.upd 21 hc44 rfl
  refine ls E fun a E=>ls E fun a E=>ls E fun a E=>pf E rfl rfl fun a E=>aw E rfl fun a E=>qab ?_
  refine mv E rfl fun a E=>lw E (qbc rfl rfl) fun a E=>av E rfl fun a E=>wpList_nil<|qal<|qaa<|qab<|lw E (qaD rfl rfl (InR.inc r42 (qaj h32) hc43)) fun a E=>?_
  refine mv E rfl fun a E=>wpList_nil ?_
  obtain rfl:=sj hF
  exact qau ⟨ok,E.keep [1,5,6,9,10,11,12,17,18],(InR.wrap _ _),(InR.inc r42 (qaj h32) hc43)⟩
 replace hF:=qas hc44 hF
 replace E:=E.upd 21 hc44 rfl
 refine mv E rfl fun a E=>mv E rfl fun a E=>?_
 obtain ⟨r45,e46,hF⟩:=bnd hF
 refine qcc E rfl qvV rfl (qmt N at_38 r41 x1 h3 x2 r4 x3 h6 x4 r7 l8 x5 r9 l10 e46 hG ok) rfl rfl ?_
 rintro _ w ⟨rfl,ok⟩
 refine ⟨_,rfl,fun a E=>?_⟩
 refine pt E rfl rfl fun a E=>aw E rfl fun a E=>qab<|mv E rfl fun a E=>lw E (qbc rfl rfl) fun a E=>av E rfl fun a E=>?_
 refine wpList_nil<|qal<|qaa<|qab<|lw E (qaD rfl rfl (InR.inc r42 (qaj h32) hc43)) fun a E=>mv E rfl fun a E=>wpList_nil ?_
 obtain rfl:=sj hF
 exact qau ⟨ok,E.keep [1,5,6,9,10,11,12,17,18],(InR.wrap _ _),(InR.inc r42 (qaj h32) hc43)⟩
def qkH (u:World) (m0:Mem) (S:Segs) (pb0:Nat) (pb1:Nat) (pb2:Nat) (pb3:Nat) (pb4:Nat) (pb5:Nat) (x0:Option (Classes)) (c1:Value) (x1:Part) (x2:Part) (x3:List (List (List (Relation)))) (c7:Value) (x4:List (Int)) (c9:Value) (M10:List (Nat × Obj)) (r:Bool) (a:Act) (w:World):Prop :=
 Ok u m0 ([(pb0,oc 127 [c1])] :: [(pb1,oc 162 [vu x1.bits,vs x1.text])] :: [(pb2,oc 162 [vu x2.bits,vs x2.text])] :: [(pb3,oc 64 [c7])] :: [(pb4,oc 104 [c9])] :: M10 :: [(pb5,oc 108 [(Value.func (.func 87) #[] #[])])] :: S) w ∧ a.defers = [] ∧ RVs Tryz.prog a w [.t 5 (.bool r)]
theorem qie (N:Nat) {pb0:Nat} {c1:Value} (x0:Option (Classes)) (h2:(pP 3 qeE) m0 [c1] x0) {pb1:Nat} (x1:Part) (r3:InR .u64 x1.bits) (l4:x1.text.length ≤ LIMS) {pb2:Nat} (x2:Part) (r5:InR .u64 x2.bits) (l6:x2.text.length ≤ LIMS) {pb3:Nat} {c7:Value} (x3:List (List (List (Relation)))) (h8:(pL 1 (pL 1 (pL 4 qai))) m0 [c7] x3) {pb4:Nat} {c9:Value} {M10:List (Nat × Obj)} (x4:List (Int)) (h11:ORow 3 1 (pI .i64) m0 c9 x4 M10) {pb5:Nat} {r:Bool} (hF:qdQ N x0 x1 x2 x3 x4 = some r) (hG:Glob u) (ok:Ok u m0 ([(pb0,oc 127 [c1])] :: [(pb1,oc 162 [vu x1.bits,vs x1.text])] :: [(pb2,oc 162 [vu x2.bits,vs x2.text])] :: [(pb3,oc 64 [c7])] :: [(pb4,oc 104 [c9])] :: M10 :: [(pb5,oc 108 [(Value.func (.func 87) #[] #[])])] :: S) w) :
  Calls Tryz.prog 115 [Value.func (.func 148) #[] #[.pointer (some ⟨pb0,0,none⟩),.pointer (some ⟨pb1,0,none⟩),.pointer (some ⟨pb2,0,none⟩)],vp pb3,vp pb4,vp pb5].toArray w fun e w'=>(e = .returned (.bool r) ∧ Ok u m0 ([(pb0,oc 127 [c1])] :: [(pb1,oc 162 [vu x1.bits,vs x1.text])] :: [(pb2,oc 162 [vu x2.bits,vs x2.text])] :: [(pb3,oc 64 [c7])] :: [(pb4,oc 104 [c9])] :: M10 :: [(pb5,oc 108 [(Value.func (.func 87) #[] #[])])] :: S) w'):=by
 have le_m0:=Mem.le.refl m0
 unfold qdQ at hF
 refine en (qkH u m0 S pb0 pb1 pb2 pb3 pb4 pb5 x0 c1 x1 x2 x3 c7 x4 c9 M10) r Tryz.func115 rfl rfl rfl (by rintro a w ⟨ok,hd,hrv⟩; exact qat [.t 5 (.bool r)] hd rfl hrv ⟨rfl,ok⟩) fun fin a E=>sg<|qcH E ok rfl rfl rfl fun b12 a w E ok=>aw E rfl fun a E=>wp_seq ?_
 refine qab<|ld E ok qhj 4 rfl rfl rfl fun a E=>lv E ok (qaH qbr h8 rfl) fun a E=>?_
 obtain ⟨l13,e14,hF⟩:=bnd hF
 refine qeV (R:=pB) E ok qhS qqd rfl qks rfl e14 rfl rfl fun c15 M16 a w E ok h17=>aw E rfl fun a E=>wp_seq<|sg<|ld E ok qhj 5 rfl rfl rfl fun a E=>?_
 refine lv E ok (qaH qbr h8 rfl) fun a E=>mv E rfl fun a E=>wn<|wp_block ?_
 obtain ⟨o23,hL,hF⟩:=bnd hF
 refine qaI _ (fun (s:Int × (List (Bool))) a w=>∃ c25 M26,Ok u m0 (M26 :: [(b12,oc 130 [(Value.func (.func 148) #[] #[.pointer (some ⟨pb0,0,none⟩),.pointer (some ⟨pb1,0,none⟩),.pointer (some ⟨pb2,0,none⟩)])])] :: [(pb0,oc 127 [c1])] :: [(pb1,oc 162 [vu x1.bits,vs x1.text])] :: [(pb2,oc 162 [vu x2.bits,vs x2.text])] :: [(pb3,oc 64 [c7])] :: [(pb4,oc 104 [c9])] :: M10 :: [(pb5,oc 108 [(Value.func (.func 87) #[] #[])])] :: S) w ∧ Env 29 a [(2,vp pb4),(3,vp pb5),(4,vp b12),(6,c25),(12,c7),(13,(vi (x3.length:Int))),(14,vi s.1)] ∧ InR .i64 s.1 ∧ ORow 4 1 pB m0 c25 s.2 M26) (fun (b:((List (Bool)))) e a w=>e = (.exit 0) ∧ ∃ c82 M83,Ok u m0 (M83 :: [(b12,oc 130 [(Value.func (.func 148) #[] #[.pointer (some ⟨pb0,0,none⟩),.pointer (some ⟨pb1,0,none⟩),.pointer (some ⟨pb2,0,none⟩)])])] :: [(pb0,oc 127 [c1])] :: [(pb1,oc 162 [vu x1.bits,vs x1.text])] :: [(pb2,oc 162 [vu x2.bits,vs x2.text])] :: [(pb3,oc 64 [c7])] :: [(pb4,oc 104 [c9])] :: M10 :: [(pb5,oc 108 [(Value.func (.func 87) #[] #[])])] :: S) w ∧ Env 29 a [(3,vp pb5),(6,c82)] ∧ ORow 4 1 pB m0 c82 b M83) ?_ ?_ N _ a w hL ⟨c15,M16,ok,E.keep [2,3,4,6,12,13,14],(ir 0),h17⟩
 rotate_left
 ·intro e a w _ hO
  obtain ⟨rfl,c72,M73,ok,E,h74⟩:=hO
  refine qaK<|qaa<|sg<|ld E ok qoV 8 rfl rfl rfl fun a E=>mv E rfl fun a E=>?_
  obtain ⟨r80,e81,hF⟩:=bnd hF
  obtain ⟨m75,hle77,ok76,hfz78⟩:=(ok.frs 0 rfl).freeze
  have h79:=ORow.froz mB h74 hle77 hfz78 (by decide)
  refine qjW E rfl qxb rfl (qmi N _ o23 h79 e81 hG ok76) rfl rfl ?_
  rintro _ w ⟨rfl,okz⟩
  replace ok:=(Ok.thawAt 0 rfl ok hle77 hfz78 okz)
  refine ⟨_,rfl,fun a E=>?_⟩
  refine aw E rfl fun a E=>wp_ret ?_
  exact fin hF ⟨ok.drop.drop,E.d,⟨rv_t E rfl,trivial⟩⟩
 rintro ⟨x_28,conds_29⟩ a w r ⟨c31,M32,ok,E,r30,h33⟩ hF
 replace hF:qbS N x0 x1 x2 x3 x4 x_28 conds_29 = some r:=hF
 unfold qbS at hF
 refine sg<|lw E (qaF rfl rfl) fun a E=>wn<|wp_seq<|cf E rfl hF (fun hc34 hF=>?_) fun hc34 hF=>?_
 rotate_left
 ·refine wp_exit<|qaB ?_
  obtain rfl:=sj hF
  exact so (⟨rfl,⟨c31,M32,ok,E.keep [3,6],h33⟩⟩)
 refine wp_skip<|qaa<|wp_seq<|wp_block<|sg<|mv E rfl fun a E=>?_
 obtain ⟨x35,e36,hF⟩:=bnd hF
 obtain ⟨b37,o38,es39,hl40,rr41,at42,yy43⟩:=qaO qbr h8 e36 (P:=Tryz.prog) (X:=.tmp 12) (I:=.tmp 14) (kd:=.i64) (qak E rfl) (qak E rfl)
 obtain ⟨c44,rfl,h45⟩:=qcm rr41
 refine lv E ok (yy43 _ _) fun a E=>lv E ok (qap qdA rfl (qac.ro at42)) fun a E=>qaR E ok qib rfl rfl fun b46 a w E ok=>qae E ok 0 rfl rfl rfl qbO rfl rfl ⟨rfl,trivial⟩ rfl rfl fun w ok=>aw E rfl fun a E=>?_
 obtain ⟨o47,hJ,hF⟩:=bnd hF
 refine qaV (Q':=fun e a w=>e = .normal ∧ ∃ c48 M49,Ok u m0 ([(b46,oc 3 [vi x_28])] :: M49 :: [(b12,oc 130 [(Value.func (.func 148) #[] #[.pointer (some ⟨pb0,0,none⟩),.pointer (some ⟨pb1,0,none⟩),.pointer (some ⟨pb2,0,none⟩)])])] :: [(pb0,oc 127 [c1])] :: [(pb1,oc 162 [vu x1.bits,vs x1.text])] :: [(pb2,oc 162 [vu x2.bits,vs x2.text])] :: [(pb3,oc 64 [c7])] :: [(pb4,oc 104 [c9])] :: M10 :: [(pb5,oc 108 [(Value.func (.func 87) #[] #[])])] :: S) w ∧ Env 29 a [(2,vp pb4),(3,vp pb5),(4,vp b12),(6,c48),(12,c7),(13,(vi (x3.length:Int))),(14,vi x_28)] ∧ ORow 4 1 pB m0 c48 o47 M49) ?_ ?_
 rotate_left
 ·clear hJ
  intro e a w hO
  obtain ⟨rfl,c69,M70,ok,E,h71⟩:=hO
  refine qal<|qaa<|qab<|lw E (qaD rfl rfl (InR.inc r30 (qaj h8) hc34)) fun a E=>mv E rfl fun a E=>wpList_nil ?_
  obtain rfl:=sj hF
  exact qau ⟨c69,M70,(ok.pk 10 [1,2,3,4,5,6,7,8,9] rfl (by decide)),E.keep [2,3,4,6,12,13,14],(InR.inc r30 (qaj h8) hc34),h71⟩
 replace hF:=hJ
 clear hJ
 obtain ⟨r51,e52,hF⟩:=bnd hF
 obtain ⟨x53,e54,hF⟩:=bnd hF
 obtain ⟨l59,e60,hF⟩:=bnd hF
 obtain rfl:=sj hF
 refine qbG [] (Cls u m0 ([(b46,oc 3 [vi x_28])] :: [(b12,oc 130 [(Value.func (.func 148) #[] #[.pointer (some ⟨pb0,0,none⟩),.pointer (some ⟨pb1,0,none⟩),.pointer (some ⟨pb2,0,none⟩)])])] :: [(pb0,oc 127 [c1])] :: [(pb1,oc 162 [vu x1.bits,vs x1.text])] :: [(pb2,oc 162 [vu x2.bits,vs x2.text])] :: [(pb3,oc 64 [c7])] :: [(pb4,oc 104 [c9])] :: M10 :: [(pb5,oc 108 [(Value.func (.func 87) #[] #[])])] :: [])) (Cls u m0 ([(b46,oc 3 [vi x_28])] :: [(b12,oc 130 [(Value.func (.func 148) #[] #[.pointer (some ⟨pb0,0,none⟩),.pointer (some ⟨pb1,0,none⟩),.pointer (some ⟨pb2,0,none⟩)])])] :: [(pb0,oc 127 [c1])] :: [(pb1,oc 162 [vu x1.bits,vs x1.text])] :: [(pb2,oc 162 [vu x2.bits,vs x2.text])] :: [(pb3,oc 64 [c7])] :: [(pb4,oc 104 [c9])] :: M10 :: [(pb5,oc 108 [(Value.func (.func 87) #[] #[])])] :: [])) (by kernel_rfl) ?_
 intro w hw
 replace ok:=qce ok hw
 clear hw
 refine qaA (cl1 (cq le_m0 ok [0,2,3,4,5,6,7,8,9] rfl) (cq le_m0 ok [0,2,3,4,5,6,7,8,9] rfl)) fun hT=>kt 0 E rfl hT (qah rfl) fun a E=>kt 1 E rfl hT (qap qaC rfl (qac.cown 0 rfl rfl)) fun a E=>kt 2 E rfl hT (qah rfl) fun a E=>kt 3 E rfl hT (qbI (caps:=[.tmp 4,.tmp 2,.tmp 7]) rfl) fun a E=>qaP [4] (by kernel_rfl) rfl (qaU ?_)
 ·refine qcA (o:=_) rfl ?_
  replace ok:Ok u m0 ([(b12,oc 130 [(Value.func (.func 148) #[] #[.pointer (some ⟨pb0,0,none⟩),.pointer (some ⟨pb1,0,none⟩),.pointer (some ⟨pb2,0,none⟩)])])] :: [(pb4,oc 104 [c9])] :: M10 :: [(b46,oc 3 [vi x_28])] :: [(pb0,oc 127 [c1])] :: [(pb1,oc 162 [vu x1.bits,vs x1.text])] :: [(pb2,oc 162 [vu x2.bits,vs x2.text])] :: M32 :: [(pb3,oc 64 [c7])] :: [(pb5,oc 108 [(Value.func (.func 87) #[] #[])])] :: S) w:=(ok.pk 10 [2,7,8,0,3,4,5,1,6,9] rfl (by decide))
  refine lc E qp8 rfl (qhv N _ x35 h45 x4 h11 x_28 r30 x0 h2 x1 r3 l4 x2 r5 l6 e52 hG ok) fun w ok a E=>wn<|qaA (cl1 (cq le_m0 ok [3,0,4,5,6,8,1,2,9] rfl) (cq le_m0 ok [3,0,4,5,6,8,1,2,9] rfl)) fun hT=>?_
  obtain ⟨b63,o64,hp65,yy66⟩:=qdZ qhS h33 e54 (P:=Tryz.prog) (X:=.tmp 19) (I:=.tmp 20) (kd:=.i64) (qak E rfl) (qak E rfl)
  refine kt 5 E rfl hT (yy66 _ _) fun a E=>qaP [6] (by kernel_rfl) rfl (qaU ?_)
  ·refine wo rfl<|qfR (R:=pB) E ok 7 rfl h33 e54 hp65 rfl rfl qnf rfl rfl rfl ⟨rfl,trivial⟩ qks e60 rfl fun M67 w ok h68=>wn<|qaA (cl1 (cq le_m0 ok [3,0,4,5,6,8,1,2,9] rfl) (cq le_m0 ok [3,0,4,5,6,8,1,2,9] rfl)) fun hT=>qbg (by kernel_rfl) ?_
   exact ⟨rfl,⟨c31,M67,(ok.pk 10 [3,7,0,4,5,6,8,1,2,9] rfl (by decide)),E.keep [2,3,4,6,12,13,14],h68⟩⟩
def qkv (u:World) (m0:Mem) (S:Segs) (r:Bool) (a:Act) (w:World):Prop :=
 Ok u m0 S w ∧ a.defers = [] ∧ RVs Tryz.prog a w [.t 4 (.bool r)]
theorem qiO (N:Nat) (a_0:List UInt8) (la_0:a_0.length ≤ LIMS) (b_1:List UInt8) (lb_1:b_1.length ≤ LIMS) {r:Bool} (hF:qfy N a_0 b_1 = some r) (hG:Glob u) (ok:Ok u m0 S w) :
  Calls Tryz.prog 147 [vs a_0,vs b_1].toArray w fun e w'=>(e = .returned (.bool r) ∧ Ok u m0 S w'):=by
 unfold qfy at hF
 refine en (qkv u m0 S) r Tryz.func147 rfl rfl rfl (by rintro a w ⟨ok,hd,hrv⟩; exact qat [.t 4 (.bool r)] hd rfl hrv ⟨rfl,ok⟩) fun fin a E=>sg<|aw E rfl fun a E=>wp_seq<|wp_seq ?_
 refine qab<|mv E rfl fun a E=>lw E (qaL Tryz.underlying9 rfl) fun a E=>mv E rfl fun a E=>lw E (qaL Tryz.underlying9 rfl) fun a E=>lw E (qaW rfl rfl) fun a E=>wn ?_
 refine cf E rfl hF (fun hc1 hF=>?_) fun hc1 hF=>?_
 ·refine sg<|mv E rfl fun a E=>lw E (qaL Tryz.underlying9 rfl) fun a E=>mv E rfl fun a E=>lw E (qaL Tryz.underlying9 rfl) fun a E=>lw E (qaF rfl rfl) fun a E=>av E rfl fun a E=>?_
  refine wn<|wp_ret<|qaf ?_
  exact fin hF ⟨ok,E.d,⟨rv_t E rfl,trivial⟩⟩
 refine wp_skip<|qaa<|wp_seq<|sg<|mv E rfl fun a E=>lw E (qaL Tryz.underlying9 rfl) fun a E=>mv E rfl fun a E=>?_
 refine wn<|wp_block ?_
 obtain ⟨o3,hL,hF⟩:=bnd hF
 refine qaI _ (fun (s:Int) a w=>Ok u m0 (S) w ∧ Env 48 a [(0,vs a_0),(1,vs b_1),(17,(vi (a_0.length:Int))),(18,vi s)] ∧ InR .i64 s) (fun (b:(Unit ⊕ Bool)) e a w=>(Sum.elim (fun b23=>e = (.exit 0) ∧ Ok u m0 (S) w ∧ Env 48 a []) (fun b24=>e = .ret ∧ qkv u m0 S b24 a w)) b) ?_ ?_ N _ a w hL ⟨ok,E.keep [0,1,17,18],(ir 0)⟩
 rotate_left
 ·intro e a w _ hO
  rcases o3 with o3 | o3
  rotate_left
  ·replace hF:=qa7 hF
   obtain ⟨rfl,hret⟩:=hO
   refine qax<|qaf ?_
   exact fin hF hret
  replace hF:=qa6 hF
  obtain ⟨rfl,ok,E⟩:=hO
  refine qaK<|qaa<|sg<|aw E rfl fun a E=>wp_ret ?_
  exact fin hF ⟨ok,E.d,⟨rv_t E rfl,trivial⟩⟩
 rintro x_5 a w r ⟨ok,E,r6⟩ hF
 replace hF:qeo N a_0 b_1 x_5 = some r:=hF
 unfold qeo at hF
 refine sg<|lw E (qaF rfl rfl) fun a E=>wn<|wp_seq<|cf E rfl hF (fun hc7 hF=>?_) fun hc7 hF=>?_
 rotate_left
 ·refine wp_exit<|qaB ?_
  obtain rfl:=sj hF
  exact so (sl ⟨rfl,⟨ok,E.keep []⟩⟩)
 refine wp_skip<|qaa<|wp_seq<|wp_block<|sg<|mv E rfl fun a E=>av E rfl fun a E=>?_
 refine wn<|wp_seq<|qfD (by kernel_rfl) (by kernel_rfl) ok<|qv E (qah rfl) fun a E=>qv E (qah rfl) fun a E=>?_
 obtain ⟨c8,e9,hF⟩:=bnd hF
 refine qv E (qbB Tryz.underlying9 rfl rfl e9) fun a E=>qv E (qah rfl) fun a E=>qv E (qah rfl) fun a E=>?_
 obtain ⟨c10,e11,hF⟩:=bnd hF
 refine qv E (qbB Tryz.underlying9 rfl rfl e11) fun a E=>qv E (qaW rfl rfl) fun a E=>wpQuiet_nil ?_
 intro w ok
 refine qaa<|cf E rfl hF (fun hc12 hF=>?_) fun hc12 hF=>?_
 rotate_left
 ·refine wp_skip<|qal<|qaa<|qab<|lw E (qaD rfl rfl (InR.inc r6 (InR.len la_0) hc7)) fun a E=>mv E rfl fun a E=>wpList_nil ?_
  obtain rfl:=sj hF
  exact qau ⟨ok,E.keep [0,1,17,18],(InR.inc r6 (InR.len la_0) hc7)⟩
 refine wp_seq<|qfD (by kernel_rfl) (by kernel_rfl) ok<|qv E (qah rfl) fun a E=>qv E (qah rfl) fun a E=>?_
 obtain ⟨c13,e14,hF⟩:=bnd hF
 refine qv E (qbB Tryz.underlying9 rfl rfl e14) fun a E=>qv E (qaM rfl rfl) fun a E=>qv E (qah rfl) fun a E=>qav ((c13.toNat:Int) == 46) (fun hc15=>?_) (fun hc15=>?_)
 ·replace hF:=qas hc15 hF
  replace E:=E.upd 32 hc15 rfl
  refine qs E fun a E=>qs E fun a E=>qs E fun a E=>qs E fun a E=>qs E fun a E=>qs E fun a E=>qs E fun a E=>qs E fun a E=>?_
  refine qs E fun a E=>qs E fun a E=>qs E fun a E=>qs E fun a E=>qs E fun a E=>qv E (qa1 rfl rfl) fun a E=>qv E (qaG rfl) fun a E=>wpQuiet_nil ?_
  intro w ok
  refine qaa<|wp_ret<|qax<|qaf ?_
  obtain rfl:=sj hF
  exact so (sr ⟨rfl,⟨ok,E.d,⟨rv_t E rfl,trivial⟩⟩⟩)
 replace hF:=qar hc15 hF
 replace E:=E.upd 32 hc15 rfl
 refine qv E (qah rfl) fun a E=>qv E (qah rfl) fun a E=>?_
 obtain ⟨c16,e17,hF⟩:=bnd hF
 refine qv E (qbB Tryz.underlying9 rfl rfl e17) fun a E=>qv E (qaW rfl rfl) fun a E=>qv E (qah rfl) fun a E=>qav ((c16.toNat:Int) != 46) (fun hc18=>?_) (fun hc18=>?_)
 rotate_left
 ·replace hF:=qar hc18 hF
  replace E:=E.upd 37 hc18 rfl
  refine qs E fun a E=>qs E fun a E=>qs E fun a E=>qs E fun a E=>qs E fun a E=>qs E fun a E=>qs E fun a E=>qv E (qaY rfl rfl) fun a E=>?_
  refine qv E (qaY rfl rfl) fun a E=>qv E (qaG rfl) fun a E=>wpQuiet_nil ?_
  intro w ok
  refine qaa<|wp_ret<|qax<|qaf ?_
  obtain rfl:=sj hF
  exact so (sr ⟨rfl,⟨ok,E.d,⟨rv_t E rfl,trivial⟩⟩⟩)
 replace hF:=qas hc18 hF
 replace E:=E.upd 37 hc18 rfl
 refine qv E (qah rfl) fun a E=>qv E (qah rfl) fun a E=>?_
 obtain ⟨c19,e20,hF⟩:=bnd hF
 refine qv E (qbB Tryz.underlying9 rfl rfl e20) fun a E=>qv E (qah rfl) fun a E=>qv E (qah rfl) fun a E=>?_
 obtain ⟨c21,e22,hF⟩:=bnd hF
 refine qv E (qbB Tryz.underlying9 rfl rfl e22) fun a E=>qv E (qaF rfl rfl) fun a E=>qv E (qa1 rfl rfl) fun a E=>qv E (qaY rfl rfl) fun a E=>qv E (qaG rfl) fun a E=>wpQuiet_nil ?_
 intro w ok
 refine qaa<|wp_ret<|qax<|qaf ?_
 obtain rfl:=sj hF
 exact so (sr ⟨rfl,⟨ok,E.d,⟨rv_t E rfl,trivial⟩⟩⟩)
def qjw (u:World) (m0:Mem) (S:Segs) (pb0:Nat) (pb1:Nat) (pb2:Nat) (x0:List (List (List (Relation)))) (c1:Value) (x1:List (Int)) (c3:Value) (M4:List (Nat × Obj)) (r:(List UInt8) × Bool) (a:Act) (w:World):Prop :=
 Ok u m0 ([(pb0,oc 64 [c1])] :: [(pb1,oc 104 [c3])] :: M4 :: [(pb2,oc 108 [(Value.func (.func 87) #[] #[])])] :: S) w ∧ a.defers = [] ∧ RVs Tryz.prog a w [.t 4 (.string (bs r.1)),.t 5 (.bool r.2)] ∧ r.1.length ≤ LIMS
theorem qjl (N:Nat) (vx_0:Value) (x_0:Option (Classes)) (hx_0:(pP 3 qeE) m0 [vx_0] x_0) {pb0:Nat} {c1:Value} (x0:List (List (List (Relation)))) (h2:(pL 1 (pL 1 (pL 4 qai))) m0 [c1] x0) {pb1:Nat} {c3:Value} {M4:List (Nat × Obj)} (x1:List (Int)) (h5:ORow 3 1 (pI .i64) m0 c3 x1 M4) {pb2:Nat} {r:(List UInt8) × Bool} (hF:qdx N x_0 x0 x1 = some r) (hG:Glob u) (ok:Ok u m0 ([(pb0,oc 64 [c1])] :: [(pb1,oc 104 [c3])] :: M4 :: [(pb2,oc 108 [(Value.func (.func 87) #[] #[])])] :: S) w) :
  Calls Tryz.prog 114 [vx_0,Value.func (.func 115) #[] #[.pointer (some ⟨pb0,0,none⟩),.pointer (some ⟨pb1,0,none⟩),.pointer (some ⟨pb2,0,none⟩)]].toArray w fun e w'=>(e = .returned (.tuple [(.string (bs r.1)),(.bool r.2)].toArray) ∧ Ok u m0 ([(pb0,oc 64 [c1])] :: [(pb1,oc 104 [c3])] :: M4 :: [(pb2,oc 108 [(Value.func (.func 87) #[] #[])])] :: S) w') ∧ r.1.length ≤ LIMS:=by
 unfold qdx at hF
 refine en (qjw u m0 S pb0 pb1 pb2 x0 c1 x1 c3 M4) r Tryz.func114 rfl rfl rfl (by rintro a w ⟨ok,hd,hrv,h0⟩; exact qat [.t 4 (.string (bs r.1)),.t 5 (.bool r.2)] hd rfl hrv ⟨⟨rfl,ok⟩,h0⟩) fun fin a E=>sg<|qj0 (cs:=[vx_0]) E ok rfl (qnZ hx_0) rfl rfl fun b6 a w E ok=>av E rfl fun a E=>aw E rfl fun a E=>?_
 refine sg<|av E rfl fun a E=>aw E rfl fun a E=>wp_seq<|wp_seq ?_
 refine qab<|ld E ok qi9 0 rfl rfl rfl fun a E=>?_
 obtain ⟨y7,e8,hF⟩:=bnd hF
 obtain ⟨b9,o10,es11,hv12,hl13,hR14,at15⟩:=qjd hx_0 e8
 obtain ⟨c16,c18,c20,rfl,h17,h19,h21⟩:=hR14
 refine lv E ok (qgA hv12 rfl) fun a E=>fv E qj6 rfl fun a E=>lv E ok (qap qij rfl (qac.ro (At.sub 1 1 at15))) fun a E=>lv E ok (qaH qfM h19 rfl) fun a E=>mv E rfl fun a E=>wn<|wp_block ?_
 obtain ⟨o24,hL,hF⟩:=bnd hF
 refine qaI _ (fun (s:(List UInt8) × Bool × Int) a w=>Ok u m0 ([(b6,oc 127 [vx_0])] :: [(pb0,oc 64 [c1])] :: [(pb1,oc 104 [c3])] :: M4 :: [(pb2,oc 108 [(Value.func (.func 87) #[] #[])])] :: S) w ∧ Env 58 a [(1,(Value.func (.func 115) #[] #[.pointer (some ⟨pb0,0,none⟩),.pointer (some ⟨pb1,0,none⟩),.pointer (some ⟨pb2,0,none⟩)])),(2,vp b6),(6,vs s.1),(7,vb s.2.1),(16,c18),(17,(vi (y7.wholes.length:Int))),(18,vi s.2.2)] ∧ s.1.length ≤ LIMS ∧ InR .i64 s.2.2) (fun (b:((List UInt8) × Bool)) e a w=>e = (.exit 0) ∧ Ok u m0 ([(b6,oc 127 [vx_0])] :: [(pb0,oc 64 [c1])] :: [(pb1,oc 104 [c3])] :: M4 :: [(pb2,oc 108 [(Value.func (.func 87) #[] #[])])] :: S) w ∧ Env 58 a [(6,vs b.1),(7,vb b.2)] ∧ b.1.length ≤ LIMS) ?_ ?_ N _ a w hL ⟨ok,E.keep [1,2,6,7,16,17,18],(show ([]:List UInt8).length ≤ LIMS by decide),(ir 0)⟩
 rotate_left
 ·intro e a w _ hO
  obtain ⟨rfl,ok,E,l103⟩:=hO
  refine qaK<|qaa<|sg<|mv E rfl fun a E=>mv E rfl fun a E=>av E rfl fun a E=>av E rfl fun a E=>?_
  refine wn<|wp_ret ?_
  exact fin hF ⟨ok.drop,E.d,⟨rv_t E rfl,rv_t E rfl,trivial⟩,l103⟩
 rintro ⟨found_27,ok_28,x_29⟩ a w r ⟨ok,E,l30,r31⟩ hF
 replace hF:qca N x_0 x0 x1 y7 found_27 ok_28 x_29 = some r:=hF
 unfold qca at hF
 refine sg<|lw E (qaF rfl rfl) fun a E=>wn<|wp_seq<|cf E rfl hF (fun hc32 hF=>?_) fun hc32 hF=>?_
 rotate_left
 ·refine wp_exit<|qaB ?_
  obtain rfl:=sj hF
  exact so (⟨rfl,⟨ok,E.keep [6,7],l30⟩⟩)
 refine wp_skip<|qaa<|wp_seq<|wp_block<|sg ?_
 obtain ⟨x33,e34,hF⟩:=bnd hF
 obtain ⟨b35,o36,es37,hl38,rr39,at40,yy41⟩:=qaO qfM h19 e34 (P:=Tryz.prog) (X:=.tmp 16) (I:=.tmp 18) (kd:=.i64) (qak E rfl) (qak E rfl)
 obtain ⟨rfl,r42,l43⟩:=rr39
 refine lv E ok (yy41 _ _) fun a E=>lv E ok (qao (cs:=[vu x33.bits,vs x33.text]) qhl rfl rfl (qac.ro at40)) fun a E=>qaR E ok qf6 rfl rfl fun b44 a w E ok=>qae E ok 0 rfl rfl rfl qi5 rfl rfl ⟨rfl,rfl,trivial⟩ rfl rfl fun w ok=>wn<|sg ?_
 refine ld E ok qi9 1 rfl rfl rfl fun a E=>?_
 obtain ⟨y45,e46,hF⟩:=bnd hF
 obtain ⟨b47,o48,es49,hv50,hl51,hR52,at53⟩:=qjd hx_0 e46
 obtain ⟨c54,c56,c58,rfl,h55,h57,h59⟩:=hR52
 refine lv E ok (qgA hv50 rfl) fun a E=>fv E qkj rfl fun a E=>lv E ok (qap qij rfl (qac.ro (At.sub 2 1 at53))) fun a E=>lv E ok (qaH qfM h59 rfl) fun a E=>mv E rfl fun a E=>wn<|wp_block ?_
 obtain ⟨o62,hL,hF⟩:=bnd hF
 refine qaI _ (fun (s:(List UInt8) × Bool × Int) a w=>Ok u m0 ([(b44,oc 162 [vu x33.bits,vs x33.text])] :: [(b6,oc 127 [vx_0])] :: [(pb0,oc 64 [c1])] :: [(pb1,oc 104 [c3])] :: M4 :: [(pb2,oc 108 [(Value.func (.func 87) #[] #[])])] :: S) w ∧ Env 58 a [(1,(Value.func (.func 115) #[] #[.pointer (some ⟨pb0,0,none⟩),.pointer (some ⟨pb1,0,none⟩),.pointer (some ⟨pb2,0,none⟩)])),(2,vp b6),(6,vs s.1),(7,vb s.2.1),(9,vp b44),(16,c18),(17,(vi (y7.wholes.length:Int))),(18,vi x_29),(25,c58),(26,(vi (y45.fraction.length:Int))),(27,vi s.2.2)] ∧ s.1.length ≤ LIMS ∧ InR .i64 s.2.2) (fun (b:((List UInt8) × Bool)) e a w=>e = (.exit 2) ∧ Ok u m0 ([(b44,oc 162 [vu x33.bits,vs x33.text])] :: [(b6,oc 127 [vx_0])] :: [(pb0,oc 64 [c1])] :: [(pb1,oc 104 [c3])] :: M4 :: [(pb2,oc 108 [(Value.func (.func 87) #[] #[])])] :: S) w ∧ Env 58 a [(1,(Value.func (.func 115) #[] #[.pointer (some ⟨pb0,0,none⟩),.pointer (some ⟨pb1,0,none⟩),.pointer (some ⟨pb2,0,none⟩)])),(2,vp b6),(6,vs b.1),(7,vb b.2),(16,c18),(17,(vi (y7.wholes.length:Int))),(18,vi x_29)] ∧ b.1.length ≤ LIMS) ?_ ?_ N _ a w hL ⟨ok,E.keep [1,2,6,7,9,16,17,18,25,26,27],l30,(ir 0)⟩
 rotate_left
 ·intro e a w _ hO
  obtain ⟨rfl,ok,E,l101⟩:=hO
  refine qaK<|qal<|qaa<|qab<|lw E (qaD rfl rfl (InR.inc r31 (qaj h19) hc32)) fun a E=>mv E rfl fun a E=>wpList_nil ?_
  obtain rfl:=sj hF
  exact qau ⟨(ok.pk 6 [1,2,3,4,5] rfl (by decide)),E.keep [1,2,6,7,16,17,18],l101,(InR.inc r31 (qaj h19) hc32)⟩
 rintro ⟨found_65,ok_66,x_67⟩ a w r ⟨ok,E,l68,r69⟩ hF
 replace hF:qbF N x_0 x0 x1 x33 y45 found_65 ok_66 x_67 = some r:=hF
 unfold qbF at hF
 refine sg<|lw E (qaF rfl rfl) fun a E=>wn<|wp_seq<|cf E rfl hF (fun hc70 hF=>?_) fun hc70 hF=>?_
 rotate_left
 ·refine wp_exit<|qaB ?_
  obtain rfl:=sj hF
  exact so (⟨rfl,⟨ok,E.keep [1,2,6,7,16,17,18],l68⟩⟩)
 refine wp_skip<|qaa<|wp_seq<|wp_block<|sg ?_
 obtain ⟨x71,e72,hF⟩:=bnd hF
 obtain ⟨b73,o74,es75,hl76,rr77,at78,yy79⟩:=qaO qfM h59 e72 (P:=Tryz.prog) (X:=.tmp 25) (I:=.tmp 27) (kd:=.i64) (qak E rfl) (qak E rfl)
 obtain ⟨rfl,r80,l81⟩:=rr77
 refine lv E ok (yy79 _ _) fun a E=>lv E ok (qao (cs:=[vu x71.bits,vs x71.text]) qhl rfl rfl (qac.ro at78)) fun a E=>qaR E ok qf6 rfl rfl fun b82 a w E ok=>qae E ok 0 rfl rfl rfl qi5 rfl rfl ⟨rfl,rfl,trivial⟩ rfl rfl fun w ok=>wn<|sg ?_
 refine fv E qga rfl fun a E=>ld E ok qaN 1 rfl rfl rfl fun a E=>aw E rfl fun a E=>wp_seq<|sg ?_
 refine fv E qga rfl fun a E=>ld E ok qaN 0 rfl rfl rfl fun a E=>lw E (qkc rfl rfl) fun a E=>wn ?_
 obtain ⟨o83,hJ,hF⟩:=bnd hF
 refine qaV (Q':=fun e a w=>e = .normal ∧ Ok u m0 ([(b82,oc 162 [vu x71.bits,vs x71.text])] :: [(b44,oc 162 [vu x33.bits,vs x33.text])] :: [(b6,oc 127 [vx_0])] :: [(pb0,oc 64 [c1])] :: [(pb1,oc 104 [c3])] :: M4 :: [(pb2,oc 108 [(Value.func (.func 87) #[] #[])])] :: S) w ∧ Env 58 a [(1,(Value.func (.func 115) #[] #[.pointer (some ⟨pb0,0,none⟩),.pointer (some ⟨pb1,0,none⟩),.pointer (some ⟨pb2,0,none⟩)])),(2,vp b6),(6,vs found_65),(7,vb ok_66),(9,vp b44),(11,vp b82),(12,vs o83),(16,c18),(17,(vi (y7.wholes.length:Int))),(18,vi x_29),(25,c58),(26,(vi (y45.fraction.length:Int))),(27,vi x_67)] ∧ o83.length ≤ LIMS) ?_ ?_
 ·replace hF:=hJ
  clear hJ
  refine cf E rfl hF (fun hc85 hF=>?_) fun hc85 hF=>?_
  rotate_left
  ·refine wp_skip ?_
   obtain rfl:=sj hF
   exact ⟨rfl,⟨ok,E.keep [1,2,6,7,9,11,12,16,17,18,25,26,27],l43⟩⟩
  refine qab<|mv E rfl fun a E=>fv E qga rfl fun a E=>ld E ok qaN 0 rfl rfl rfl fun a E=>?_
  obtain ⟨s86,e87,hF⟩:=bnd hF
  refine lw E (qcd rfl rfl e87) fun a E=>?_
  obtain ⟨s88,e89,hF⟩:=bnd hF
  refine lw E (qcd rfl rfl e89) fun a E=>av E rfl fun a E=>wpList_nil ?_
  obtain rfl:=sj hF
  exact ⟨rfl,⟨ok,E.keep [1,2,6,7,9,11,12,16,17,18,25,26,27],(qbt e89)⟩⟩
 clear hJ
 intro e a w hO
 obtain ⟨rfl,ok,E,l90⟩:=hO
 refine qaa<|sg<|mv E rfl fun a E=>lw E (qaS rfl) fun a E=>mv E rfl fun a E=>qav (!ok_66) (fun hc91=>?_) (fun hc91=>?_)
 ·replace hF:=qas hc91 hF
  replace E:=E.upd 43 hc91 rfl
  refine ls E fun a E=>ls E fun a E=>ls E fun a E=>pt E rfl rfl fun a E=>mv E rfl fun a E=>mv E rfl fun a E=>lv E ok (qbI (caps:=[.tmp 2,.tmp 9,.tmp 11]) rfl) fun a E=>?_
  obtain ⟨r92,e93,hF⟩:=bnd hF
  replace ok:Ok u m0 ([(b6,oc 127 [vx_0])] :: [(b44,oc 162 [vu x33.bits,vs x33.text])] :: [(b82,oc 162 [vu x71.bits,vs x71.text])] :: [(pb0,oc 64 [c1])] :: [(pb1,oc 104 [c3])] :: M4 :: [(pb2,oc 108 [(Value.func (.func 87) #[] #[])])] :: S) w:=(ok.pk 7 [2,1,0,3,4,5,6] rfl (by decide))
  refine qcc E rfl qk9 rfl (qie N x_0 hx_0 x33 r42 l43 x71 r80 l81 x0 h2 x1 h5 e93 hG ok) rfl rfl ?_
  rintro _ w ⟨rfl,ok⟩
  refine ⟨_,rfl,fun a E=>?_⟩
  refine pt E rfl rfl fun a E=>wn<|cf E rfl hF (fun hc94 hF=>?_) fun hc94 hF=>?_
  rotate_left
  ·refine wp_skip<|qal<|qaa<|qab<|lw E (qaD rfl rfl (InR.inc r69 (qaj h59) hc70)) fun a E=>mv E rfl fun a E=>wpList_nil ?_
   obtain rfl:=sj hF
   exact qau ⟨(ok.pk 7 [1,0,3,4,5,6] rfl (by decide)),E.keep [1,2,6,7,9,16,17,18,25,26,27],l68,(InR.inc r69 (qaj h59) hc70)⟩
  refine qab<|mv E rfl fun a E=>av E rfl fun a E=>av E rfl fun a E=>wpList_nil<|qal<|qaa<|qab ?_
  refine lw E (qaD rfl rfl (InR.inc r69 (qaj h59) hc70)) fun a E=>mv E rfl fun a E=>wpList_nil ?_
  obtain rfl:=sj hF
  exact qau ⟨(ok.pk 7 [1,0,3,4,5,6] rfl (by decide)),E.keep [1,2,6,7,9,16,17,18,25,26,27],l90,(InR.inc r69 (qaj h59) hc70)⟩
 replace hF:=qar hc91 hF
 replace E:=E.upd 43 hc91 rfl
 refine mv E rfl fun a E=>mv E rfl fun a E=>?_
 obtain ⟨r95,e96,hF⟩:=bnd hF
 refine lc E qqj rfl (qiO N o83 l90 found_65 l68 e96 hG ok) fun w ok a E=>pf E rfl rfl fun a E=>mv E rfl fun a E=>qav r95 (fun hc97=>?_) (fun hc97=>?_)
 rotate_left
 ·replace hF:=qar hc97 hF
  replace E:=E.upd 48 hc97 rfl
  refine ls E fun a E=>ls E fun a E=>ls E fun a E=>pf E rfl rfl fun a E=>wn<|c_if E rfl (fun h=>by cases h) (fun _=>?_)
  refine wp_skip<|qal<|qaa<|qab<|lw E (qaD rfl rfl (InR.inc r69 (qaj h59) hc70)) fun a E=>mv E rfl fun a E=>wpList_nil ?_
  obtain rfl:=sj hF
  exact qau ⟨(ok.pk 7 [1,2,3,4,5,6] rfl (by decide)),E.keep [1,2,6,7,9,16,17,18,25,26,27],l68,(InR.inc r69 (qaj h59) hc70)⟩
 replace hF:=qas hc97 hF
 replace E:=E.upd 48 hc97 rfl
 refine mv E rfl fun a E=>lv E ok (qbI (caps:=[.tmp 2,.tmp 9,.tmp 11]) rfl) fun a E=>?_
 obtain ⟨r98,e99,hF⟩:=bnd hF
 replace ok:Ok u m0 ([(b6,oc 127 [vx_0])] :: [(b44,oc 162 [vu x33.bits,vs x33.text])] :: [(b82,oc 162 [vu x71.bits,vs x71.text])] :: [(pb0,oc 64 [c1])] :: [(pb1,oc 104 [c3])] :: M4 :: [(pb2,oc 108 [(Value.func (.func 87) #[] #[])])] :: S) w:=(ok.pk 7 [2,1,0,3,4,5,6] rfl (by decide))
 refine qcc E rfl qk9 rfl (qie N x_0 hx_0 x33 r42 l43 x71 r80 l81 x0 h2 x1 h5 e99 hG ok) rfl rfl ?_
 rintro _ w ⟨rfl,ok⟩
 refine ⟨_,rfl,fun a E=>?_⟩
 refine pt E rfl rfl fun a E=>wn<|cf E rfl hF (fun hc100 hF=>?_) fun hc100 hF=>?_
 rotate_left
 ·refine wp_skip<|qal<|qaa<|qab<|lw E (qaD rfl rfl (InR.inc r69 (qaj h59) hc70)) fun a E=>mv E rfl fun a E=>wpList_nil ?_
  obtain rfl:=sj hF
  exact qau ⟨(ok.pk 7 [1,0,3,4,5,6] rfl (by decide)),E.keep [1,2,6,7,9,16,17,18,25,26,27],l68,(InR.inc r69 (qaj h59) hc70)⟩
 refine qab<|mv E rfl fun a E=>av E rfl fun a E=>av E rfl fun a E=>wpList_nil<|qal<|qaa<|qab ?_
 refine lw E (qaD rfl rfl (InR.inc r69 (qaj h59) hc70)) fun a E=>mv E rfl fun a E=>wpList_nil ?_
 obtain rfl:=sj hF
 exact qau ⟨(ok.pk 7 [1,0,3,4,5,6] rfl (by decide)),E.keep [1,2,6,7,9,16,17,18,25,26,27],l90,(InR.inc r69 (qaj h59) hc70)⟩
def qmj (u:World) (m0:Mem) (S:Segs) (r:(List UInt8) × Bool) (a:Act) (w:World):Prop :=
 Ok u m0 S w ∧ a.defers = [] ∧ RVs Tryz.prog a w [.t 4 (.string (bs r.1)),.t 5 (.bool r.2)] ∧ r.1.length ≤ LIMS
theorem qmd (N:Nat) (vl_0:Value) (l_0:List (List (List (Relation)))) (hl_0:(pL 1 (pL 1 (pL 4 qai))) m0 [vl_0] l_0) {r:(List UInt8) × Bool} (hF:qd5 N l_0 = some r) (hG:Glob u) (hTb:Tab u) (ok:Ok u m0 S w) :
  Calls Tryz.prog 86 [vl_0,.func (.func 87) #[] #[]].toArray w fun e w'=>(e = .returned (.tuple [(.string (bs r.1)),(.bool r.2)].toArray) ∧ Ok u m0 S w') ∧ r.1.length ≤ LIMS:=by
 have hb0:=ok.base
 have le_m0:=Mem.le.refl m0
 unfold qd5 at hF
 refine en (qmj u m0 S) r Tryz.func86 rfl rfl rfl (by rintro a w ⟨ok,hd,hrv,h0⟩; exact qat [.t 4 (.string (bs r.1)),.t 5 (.bool r.2)] hd rfl hrv ⟨⟨rfl,ok⟩,h0⟩) fun fin a E=>sg<|qj0 (cs:=[vl_0]) E ok rfl (qcY hl_0) rfl rfl fun b1 a w E ok=>qcH E ok rfl rfl rfl fun b2 a w E ok=>av E rfl fun a E=>av E rfl fun a E=>wpList_nil ?_
 refine qaa<|sg<|aw E rfl fun a E=>sg ?_
 refine ld E ok qhj 1 rfl rfl rfl fun a E=>lv E ok (qaH qbr hl_0 rfl) fun a E=>?_
 obtain ⟨l3,e4,hF⟩:=bnd hF
 refine qeV (R:=(pI .i64)) E ok qgx qib rfl (qdw (ir 0)) rfl e4 rfl rfl fun c5 M6 a w E ok h7=>qaR E ok qnO rfl rfl fun b8 a w E ok=>qae E ok 0 rfl rfl rfl qpk (ORow.cells h7) rfl ⟨(ORow.one h7),trivial⟩ rfl rfl fun w ok=>wn<|wp_seq<|sg ?_
 refine ld E ok qhj 3 rfl rfl rfl fun a E=>lv E ok (qaH qbr hl_0 rfl) fun a E=>mv E rfl fun a E=>wn<|wp_block ?_
 obtain ⟨M17,ok,h18⟩:=qdX (e:=52) (k:=4) (R:=qai) ok
 obtain ⟨o19,hL,hF⟩:=bnd hF
 refine qaI _ (fun (s:(List (Relation)) × Int × (List (Int))) a w=>∃ m20 c21 M22 c25 M26,m0.le m20 ∧ Ok u m20 (M22 :: [(b8,oc 104 [c25])] :: M26 :: [(b2,oc 108 [(Value.func (.func 87) #[] #[])])] :: [(b1,oc 64 [vl_0])] :: S) w ∧ Env 36 a [(2,vp b1),(3,vp b2),(6,c21),(7,vp b8),(13,vl_0),(14,(vi (l_0.length:Int))),(15,vi s.2.1)] ∧ ORow 52 4 qai m20 c21 s.1 M22 ∧ InR .i64 s.2.1 ∧ ORow 3 1 (pI .i64) m20 c25 s.2.2 M26) (fun (b:((List (Int)) × (List (Relation)))) e a w=>e = (.exit 0) ∧ ∃ m88 c89 M90 c92 M93,m0.le m88 ∧ Ok u m88 (M93 :: [(b8,oc 104 [c89])] :: M90 :: [(b2,oc 108 [(Value.func (.func 87) #[] #[])])] :: [(b1,oc 64 [vl_0])] :: S) w ∧ Env 36 a [(2,vp b1),(3,vp b2),(6,c92),(7,vp b8)] ∧ ORow 3 1 (pI .i64) m88 c89 b.1 M90 ∧ ORow 52 4 qai m88 c92 b.2 M93) ?_ ?_ N _ a w hL ⟨m0,(Value.slice none 0 0),M17,c5,M6,Mem.le.refl _,ok,E.keep [2,3,6,7,13,14,15],h18,(ir 0),h7⟩
 rotate_left
 ·intro e a w _ hO
  obtain ⟨rfl,m71,c72,M73,c75,M76,hle,ok,E,h74,h77⟩:=hO
  have le_m0:=le_m0.trans hle
  have hl_0:=(mL (mL (mL qad))).up hle hl_0
  refine qaK<|qaa<|sg<|mv E rfl fun a E=>?_
  obtain ⟨m78,hle,ok,hfz⟩:=(ok.frs 0 rfl).freeze
  have h79:=ORow.froz qad h77 hle hfz (by decide)
  have le_m0:=le_m0.trans hle
  have hl_0:=(mL (mL (mL qad))).up hle hl_0
  have h74:=ORow.up (mI .i64) hle h74
  obtain ⟨r80,e81,hF⟩:=bnd hF
  refine qag E qqh rfl (qhw N _ o19.2 h79 e81 hG hTb ok) rfl rfl ?_
  rintro _ w ⟨m82,c83,rfl,hle,ok,h84⟩
  have le_m0:=le_m0.trans hle
  have hl_0:=(mL (mL (mL qad))).up hle hl_0
  have h74:=ORow.up (mI .i64) hle h74
  have h79:=(mL qad).up hle h79
  refine ⟨_,rfl,fun a E=>?_⟩
  refine lv E ok (qbI (caps:=[.tmp 2,.tmp 7,.tmp 3]) rfl) fun a E=>?_
  obtain ⟨r85,e86,hF⟩:=bnd hF
  replace ok:Ok u m82 ([(b1,oc 64 [vl_0])] :: [(b8,oc 104 [c72])] :: M73 :: [(b2,oc 108 [(Value.func (.func 87) #[] #[])])] :: S) w:=(ok.pk 4 [3,0,1,2] rfl (by decide))
  refine qag E qqE rfl (qjl N _ r80 h84 l_0 hl_0 o19.1 h74 e86 hG ok) rfl rfl ?_
  rintro _ w ⟨⟨rfl,ok⟩,l87⟩
  refine ⟨_,rfl,fun a E=>?_⟩
  refine lw E (qam rfl rfl) fun a E=>lw E (qam rfl rfl) fun a E=>av E rfl fun a E=>aw E rfl fun a E=>wp_ret ?_
  exact fin hF ⟨(ok.drop.drop.drop.drop).down hb0 le_m0,E.d,⟨rv_t E rfl,rv_t E rfl,trivial⟩,l87⟩
 rintro ⟨all_28,x_29,x_30⟩ a w r ⟨m31,c32,M33,c36,M37,hle,ok,E,h34,r35,h38⟩ hF
 replace hF:qbY N l_0 all_28 x_29 x_30 = some r:=hF
 unfold qbY at hF
 have le_m0:=le_m0.trans hle
 have hl_0:=(mL (mL (mL qad))).up hle hl_0
 refine sg<|lw E (qaF rfl rfl) fun a E=>wn<|wp_seq<|cf E rfl hF (fun hc39 hF=>?_) fun hc39 hF=>?_
 rotate_left
 ·refine wp_exit<|qaB ?_
  obtain rfl:=sj hF
  exact so (⟨rfl,⟨m31,c36,M37,c32,M33,le_m0,ok,E.keep [2,3,6,7],h38,h34⟩⟩)
 refine wp_skip<|qaa<|wp_seq<|wp_block<|sg<|mv E rfl fun a E=>?_
 obtain ⟨x40,e41,hF⟩:=bnd hF
 obtain ⟨b42,o43,es44,hl45,rr46,at47,yy48⟩:=qaO qbr hl_0 e41 (P:=Tryz.prog) (X:=.tmp 13) (I:=.tmp 15) (kd:=.i64) (qak E rfl) (qak E rfl)
 obtain ⟨c49,rfl,h50⟩:=qcm rr46
 refine lv E ok (yy48 _ _) fun a E=>lv E ok (qap qdA rfl (qac.ro at47)) fun a E=>av E rfl fun a E=>aw E rfl fun a E=>sg ?_
 refine ld E ok qnq 1 rfl rfl rfl fun a E=>mv E rfl fun a E=>mv E rfl fun a E=>lv E ok (qhJ qbT h34 rfl) fun a E=>?_
 obtain ⟨x51,e52,hF⟩:=bnd hF
 obtain ⟨b53,o54,hp55,yy56⟩:=qdZ qgx h38 e52 (P:=Tryz.prog) (X:=.tmp 20) (I:=.tmp 21) (kd:=.i64) (qak E rfl) (qak E rfl)
 refine lv E ok (yy56 _ _) fun a E=>?_
 obtain ⟨l57,e58,hF⟩:=bnd hF
 refine qfR (R:=(pI .i64)) E ok 2 rfl h38 e52 hp55 rfl rfl qbO rfl rfl rfl ⟨rfl,trivial⟩ (qdw (ORow.InR h34)) e58 rfl fun M59 w ok h60=>wn<|qab<|mv E rfl fun a E=>mv E rfl fun a E=>?_
 obtain ⟨r61,e62,hF⟩:=bnd hF
 refine qag E qqf rfl (qhR N _ x40 h50 e62 hG ok) rfl rfl ?_
 rintro _ w ⟨m63,c64,rfl,hle,ok,h65⟩
 have le_m0:=le_m0.trans hle
 have hl_0:=(mL (mL (mL qad))).up hle hl_0
 have h34:=ORow.up qad hle h34
 have h50:=(mL (mL qad)).up hle h50
 have at47:=At.up hle at47
 have h60:=ORow.up (mI .i64) hle h60
 refine ⟨_,rfl,fun a E=>?_⟩
 obtain ⟨l66,e67,hF⟩:=bnd hF
 refine qek (R:=qai) E ok 0 qad qbT Tryz.underlying53 rfl h34 (qbX.ofL h65 ok) e67 ⟨_,qdS,rfl⟩ rfl rfl rfl rfl fun c68 M69 a w E ok h70=>av E rfl fun a E=>wpList_nil<|qal<|qaa<|qab<|lw E (qaD rfl rfl (InR.inc r35 (qaj hl_0) hc39)) fun a E=>mv E rfl fun a E=>?_
 refine wpList_nil ?_
 obtain rfl:=sj hF
 exact qau ⟨m63,c68,M69,c36,M59,le_m0,ok,E.keep [2,3,6,7,13,14,15],h70,(InR.inc r35 (qaj hl_0) hc39),h60⟩
def qh8 (u:World) (m0:Mem) (S:Segs) (r:Int × Int × (List UInt8) × Int) (a:Act) (w:World):Prop :=
 Ok u m0 S w ∧ a.defers = [] ∧ RVs Tryz.prog a w [.t 2 (.int .i64 r.1),.t 3 (.int .i64 r.2.1),.t 4 (.string (bs r.2.2.1)),.t 5 (.int .i64 r.2.2.2)] ∧ InR .i64 r.1 ∧ InR .i64 r.2.1 ∧ r.2.2.1.length ≤ LIMS ∧ InR .i64 r.2.2.2
theorem qnD (N:Nat) (vl_0:Value) (l_0:List (Rule)) (hl_0:(pL 2 qeR) m0 [vl_0] l_0) {r:Int × Int × (List UInt8) × Int} (hF:qfu N l_0 = some r) (hG:Glob u) (hTb:Tab u) (ok:Ok u m0 S w) :
  Calls Tryz.prog 61 [vl_0].toArray w fun e w'=>(e = .returned (.tuple [(.int .i64 r.1),(.int .i64 r.2.1),(.string (bs r.2.2.1)),(.int .i64 r.2.2.2)].toArray) ∧ Ok u m0 S w') ∧ InR .i64 r.1 ∧ InR .i64 r.2.1 ∧ r.2.2.1.length ≤ LIMS ∧ InR .i64 r.2.2.2:=by
 have le_m0:=Mem.le.refl m0
 unfold qfu at hF
 refine en (qh8 u m0 S) r Tryz.func61 rfl rfl rfl (by rintro a w ⟨ok,hd,hrv,h0,h1,h2,h3⟩; exact qat [.t 2 (.int .i64 r.1),.t 3 (.int .i64 r.2.1),.t 4 (.string (bs r.2.2.1)),.t 5 (.int .i64 r.2.2.2)] hd rfl hrv ⟨⟨rfl,ok⟩,h0,h1,h2,h3⟩) fun fin a E=>sg<|av E rfl fun a E=>av E rfl fun a E=>av E rfl fun a E=>av E rfl fun a E=>wpList_nil ?_
 refine qaa<|sg<|aw E rfl fun a E=>wp_seq<|wp_seq ?_
 refine qab<|mv E rfl fun a E=>lv E ok (qaH qc2 hl_0 rfl) fun a E=>mv E rfl fun a E=>wn<|wp_block ?_
 obtain ⟨M6,ok,h7⟩:=qdX (e:=42) (k:=1) (R:=(pL 1 (pL 4 qai))) ok
 obtain ⟨o8,hL,hF⟩:=bnd hF
 refine qaI _ (fun (s:(List (List (List (Relation)))) × Int) a w=>∃ c9 M10,Ok u m0 (M10 :: S) w ∧ Env 59 a [(0,vl_0),(6,c9),(13,vl_0),(14,(vi (l_0.length:Int))),(15,vi s.2)] ∧ ORow 42 1 (pL 1 (pL 4 qai)) m0 c9 s.1 M10 ∧ InR .i64 s.2) (fun (b:((List (List (List (Relation)))))) e a w=>e = (.exit 0) ∧ ∃ c136 M137,Ok u m0 (M137 :: S) w ∧ Env 59 a [(0,vl_0),(6,c136)] ∧ ORow 42 1 (pL 1 (pL 4 qai)) m0 c136 b M137) ?_ ?_ N _ a w hL ⟨(Value.slice none 0 0),M6,ok,E.keep [0,6,13,14,15],h7,(ir 0)⟩
 ·rintro ⟨conds_13,x_14⟩ a w r ⟨c15,M16,ok,E,h17,r18⟩ hF
  replace hF:qeu N l_0 conds_13 x_14 = some r:=hF
  unfold qeu at hF
  refine sg<|lw E (qaF rfl rfl) fun a E=>wn<|wp_seq<|cf E rfl hF (fun hc19 hF=>?_) fun hc19 hF=>?_
  rotate_left
  ·refine wp_exit<|qaB ?_
   obtain rfl:=sj hF
   exact so (⟨rfl,⟨c15,M16,ok,E.keep [0,6],h17⟩⟩)
  refine wp_skip<|qaa<|wp_seq<|wp_block<|sg ?_
  obtain ⟨x20,e21,hF⟩:=bnd hF
  obtain ⟨b22,o23,es24,hl25,rr26,at27,yy28⟩:=qaO qc2 hl_0 e21 (P:=Tryz.prog) (X:=.tmp 13) (I:=.tmp 15) (kd:=.i64) (qak E rfl) (qak E rfl)
  obtain ⟨c30,rfl,l29,h31⟩:=rr26
  refine lv E ok (yy28 _ _) fun a E=>lv E ok (qao (cs:=[vs x20.Class,c30]) qlo rfl rfl (qac.ro at27)) fun a E=>qaR E ok qin rfl rfl fun b32 a w E ok=>qae E ok 0 rfl rfl rfl qmJ rfl rfl ⟨rfl,(qh9 h31),trivial⟩ rfl rfl fun w ok=>wn<|qab<|mv E rfl fun a E=>?_
  refine fv E qhn rfl fun a E=>ld E ok qdA 0 rfl rfl rfl fun a E=>qbs (R:=(pL 1 (pL 4 qai))) (xo:=[.tmp 21]) (xs:=([x20.Cond]:List (List (List (Relation))))) E ok qbr qf2 rfl ⟨⟨_,(qcY h31),rfl,h31⟩,trivial⟩ rfl rfl rfl rfl fun c33 M34 a w E ok h35=>?_
  obtain ⟨l36,e37,hF⟩:=bnd hF
  refine qek (R:=(pL 1 (pL 4 qai))) E ok 2 (mL (mL qad)) qbr Tryz.underlying64 rfl h17 (qbX.ofRow h35 0 rfl ok) e37 ⟨_,qf2,rfl⟩ rfl rfl rfl rfl fun c38 M39 a w E ok h40=>av E rfl fun a E=>wpList_nil<|qal<|qaa<|qab<|lw E (qaD rfl rfl (InR.inc r18 (qaj hl_0) hc19)) fun a E=>mv E rfl fun a E=>?_
  refine wpList_nil ?_
  obtain rfl:=sj hF
  exact qau ⟨c38,M39,(ok.pk 3 [2] rfl (by decide)),E.keep [0,6,13,14,15],h40,(InR.inc r18 (qaj hl_0) hc19)⟩
 intro e a w _ hO
 obtain ⟨rfl,c41,M42,ok,E,h43⟩:=hO
 refine qaK<|qaa<|wp_seq<|sg<|mv E rfl fun a E=>?_
 obtain ⟨r49,e50,hF⟩:=bnd hF
 obtain ⟨m44,hle46,ok45,hfz47⟩:=(ok.frs 0 rfl).freeze
 have h48:=ORow.froz (mL (mL qad)) h43 hle46 hfz47 (by decide)
 refine qag E qt1 rfl (qk1 N _ o8 h48 e50 hG ok45) rfl rfl ?_
 rintro _ w ⟨rfl,okz⟩
 replace ok:=(Ok.thawAt 0 rfl ok hle46 hfz47 okz)
 refine ⟨_,rfl,fun a E=>?_⟩
 refine lw E (qaS rfl) fun a E=>wn<|cf E rfl hF (fun hc51 hF=>?_) fun hc51 hF=>?_
 ·refine sg<|av E rfl fun a E=>av E rfl fun a E=>av E rfl fun a E=>aw E rfl fun a E=>?_
  refine wp_ret<|qaf ?_
  exact fin hF ⟨ok.drop,E.d,⟨rv_t E rfl,rv_t E rfl,rv_t E rfl,rv_t E rfl,trivial⟩,(ir 0),(ir 0),(show ([]:List UInt8).length ≤ LIMS by decide),(ir 1)⟩
 refine wp_skip<|qaa<|wp_seq<|sg<|mv E rfl fun a E=>lv E ok (qaH qc2 hl_0 rfl) fun a E=>mv E rfl fun a E=>?_
 refine wn<|wp_block ?_
 obtain ⟨o53,hL,hF⟩:=bnd hF
 refine qaI _ (fun (s:Int) a w=>Ok u m0 (M42 :: S) w ∧ Env 59 a [(0,vl_0),(6,c41),(29,(vi (l_0.length:Int))),(30,vi s)] ∧ InR .i64 s) (fun (b:(Unit ⊕ (Int × Int × (List UInt8) × Int))) e a w=>(Sum.elim (fun b134=>e = (.exit 2) ∧ Ok u m0 (M42 :: S) w ∧ Env 59 a []) (fun b135=>e = .ret ∧ qh8 u m0 S b135 a w)) b) ?_ ?_ N _ a w hL ⟨ok,E.keep [0,6,29,30],(ir 0)⟩
 rotate_left
 ·intro e a w _ hO
  rcases o53 with o53 | o53
  rotate_left
  ·replace hF:=qa7 hF
   obtain ⟨rfl,hret⟩:=hO
   refine qax<|qaf ?_
   exact fin hF hret
  replace hF:=qa6 hF
  obtain ⟨rfl,ok,E⟩:=hO
  refine qaK<|qaa<|sg<|av E rfl fun a E=>av E rfl fun a E=>av E rfl fun a E=>av E rfl fun a E=>?_
  refine wn<|wp_ret ?_
  exact fin hF ⟨ok.drop,E.d,⟨rv_t E rfl,rv_t E rfl,rv_t E rfl,rv_t E rfl,trivial⟩,(ir 0),(ir 0),(show ([]:List UInt8).length ≤ LIMS by decide),(ir 0)⟩
 rintro x_55 a w r ⟨ok,E,r56⟩ hF
 replace hF:qcw N l_0 o8 x_55 = some r:=hF
 unfold qcw at hF
 refine sg<|lw E (qaF rfl rfl) fun a E=>wn<|wp_seq<|cf E rfl hF (fun hc57 hF=>?_) fun hc57 hF=>?_
 rotate_left
 ·refine wp_exit<|qaB ?_
  obtain rfl:=sj hF
  exact so (sl ⟨rfl,⟨ok,E.keep []⟩⟩)
 refine wp_skip<|qaa<|wp_seq<|wp_block<|sg<|mv E rfl fun a E=>av E rfl fun a E=>?_
 refine wn<|sg<|mv E rfl fun a E=>lw E (qaD rfl rfl (InR.inc r56 (qaj hl_0) hc57)) fun a E=>av E rfl fun a E=>wpList_nil ?_
 refine qaa<|wp_block ?_
 obtain ⟨o59,hL,hF⟩:=bnd hF
 refine qaI _ (fun (s:Int) a w=>Ok u m0 (M42 :: S) w ∧ Env 59 a [(0,vl_0),(6,c41),(9,vi x_55),(10,vi s),(29,(vi (l_0.length:Int))),(30,vi x_55)] ∧ InR .i64 s) (fun (b:(Unit ⊕ (Int × Int × (List UInt8) × Int))) e a w=>(Sum.elim (fun b132=>e = (.exit 4) ∧ Ok u m0 (M42 :: S) w ∧ Env 59 a [(0,vl_0),(6,c41),(29,(vi (l_0.length:Int))),(30,vi x_55)]) (fun b133=>e = .ret ∧ qh8 u m0 S b133 a w)) b) ?_ ?_ N _ a w hL ⟨ok,E.keep [0,6,9,10,29,30],(InR.inc r56 (qaj hl_0) hc57)⟩
 rotate_left
 ·intro e a w _ hO
  rcases o59 with o59 | o59
  rotate_left
  ·replace hF:=qa7 hF
   obtain ⟨rfl,hret⟩:=hO
   refine qax<|qax<|qaf ?_
   obtain rfl:=sj hF
   exact so (sr ⟨rfl,hret⟩)
  replace hF:=qa6 hF
  obtain ⟨rfl,ok,E⟩:=hO
  refine qaK<|qal<|qaa<|qab<|lw E (qaD rfl rfl (InR.inc r56 (qaj hl_0) hc57)) fun a E=>mv E rfl fun a E=>wpList_nil ?_
  obtain rfl:=sj hF
  exact qau ⟨ok,E.keep [0,6,29,30],(InR.inc r56 (qaj hl_0) hc57)⟩
 rintro j_61 a w r ⟨ok,E,r62⟩ hF
 replace hF:qdG N l_0 o8 x_55 j_61 = some r:=hF
 unfold qdG at hF
 refine wp_seq<|sg<|mv E rfl fun a E=>mv E rfl fun a E=>lv E ok (qaH qc2 hl_0 rfl) fun a E=>lw E (qaF rfl rfl) fun a E=>wpList_nil ?_
 refine qaa<|cf E rfl hF (fun hc63 hF=>?_) fun hc63 hF=>?_
 rotate_left
 ·refine wp_exit<|qaB ?_
  obtain rfl:=sj hF
  exact so (sl ⟨rfl,⟨ok,E.keep [0,6,29,30]⟩⟩)
 refine wp_skip<|qaa<|wp_seq<|wp_block<|wp_seq ?_
 obtain ⟨o64,hJ,hF⟩:=bnd hF
 refine qaV (Q':=fun e a w=>e = .normal ∧ Ok u m0 (M42 :: S) w ∧ Env 59 a [(0,vl_0),(6,c41),(9,vi x_55),(10,vi j_61),(11,vs o64.1),(12,vb o64.2),(29,(vi (l_0.length:Int))),(30,vi x_55)] ∧ o64.1.length ≤ LIMS) ?_ ?_
 rotate_left
 ·clear hJ
  intro e a w hO
  obtain ⟨rfl,ok,E,l130⟩:=hO
  refine qaa<|sg<|mv E rfl fun a E=>wn<|cf E rfl hF (fun hc131 hF=>?_) fun hc131 hF=>?_
  rotate_left
  ·refine wp_skip<|qal<|qaa<|qab<|mv E rfl fun a E=>lw E (qaD rfl rfl (InR.inc r62 (qaj hl_0) hc63)) fun a E=>av E rfl fun a E=>wpList_nil ?_
   obtain rfl:=sj hF
   exact qau ⟨ok,E.keep [0,6,9,10,29,30],(InR.inc r62 (qaj hl_0) hc63)⟩
  refine sg<|mv E rfl fun a E=>mv E rfl fun a E=>mv E rfl fun a E=>av E rfl fun a E=>av E rfl fun a E=>av E rfl fun a E=>?_
  refine aw E rfl fun a E=>wp_ret<|qax<|qaf ?_
  obtain rfl:=sj hF
  exact so (sr ⟨rfl,⟨ok.drop,E.d,⟨rv_t E rfl,rv_t E rfl,rv_t E rfl,rv_t E rfl,trivial⟩,r56,r62,l130,(ir 19)⟩⟩)
 replace hF:=hJ
 clear hJ
 obtain ⟨x66,e67,hF⟩:=bnd hF
 obtain ⟨x78,e79,hF⟩:=bnd hF
 obtain ⟨r98,e99,hF⟩:=bnd hF
 obtain rfl:=sj hF
 refine qbG [] (Cls u m0 (M42 :: [])) (Cls u m0 (M42 :: [])) (by kernel_rfl) ?_
 intro w hw
 replace ok:=qce ok hw
 clear hw
 refine qaA (cl1 (cq le_m0 ok [0] rfl) (cq le_m0 ok [0] rfl)) fun hT=>kt 0 E rfl hT (qah rfl) fun a E=>kt 1 E rfl hT (qah rfl) fun a E=>?_
 obtain ⟨b101,o102,hp103,yy104⟩:=qdZ qbr h43 e67 (P:=Tryz.prog) (X:=.tmp 42) (I:=.tmp 43) (kd:=.i64) (qak E rfl) (qak E rfl)
 refine kt 2 E rfl hT (yy104 _ _) fun a E=>?_
 obtain ⟨es105,hl106,rr107,hh108⟩:=qgs h43 e67 hp103 (by decide)
 obtain ⟨c109,rfl,h110⟩:=qcm rr107
 refine kt 3 E rfl hT (qap qdA rfl (qac.crow hh108 0 rfl)) fun a E=>kt 4 E rfl hT (qah rfl) fun a E=>kt 5 E rfl hT (qah rfl) fun a E=>?_
 obtain ⟨b111,o112,hp113,yy114⟩:=qdZ qbr h43 e79 (P:=Tryz.prog) (X:=.tmp 46) (I:=.tmp 47) (kd:=.i64) (qak E rfl) (qak E rfl)
 refine kt 6 E rfl hT (yy114 _ _) fun a E=>?_
 obtain ⟨es115,hl116,rr117,hh118⟩:=qgs h43 e79 hp113 (by decide)
 obtain ⟨c119,rfl,h120⟩:=qcm rr117
 refine kt 7 E rfl hT (qap qdA rfl (qac.crow hh118 0 rfl)) fun a E=>qaP [8] (by kernel_rfl) rfl (qaU ?_)
 ·refine wo rfl<|qbs (R:=(pL 1 (pL 4 qai))) (xo:=[.tmp 45,.tmp 49]) (xs:=([x66,x78]:List (List (List (Relation))))) E ok qbr qf2 rfl ⟨⟨_,(qcY h110),rfl,h110⟩,⟨_,(qcY h120),rfl,h120⟩,trivial⟩ rfl rfl rfl rfl fun c121 M122 a w E ok h123=>wn<|qaA (cl1 (cq le_m0 ok [1] rfl) (cq le_m0 ok [1] rfl)) fun hT=>qaP [9] (by kernel_rfl) rfl (qaU ?_)
  ·refine qcA (o:=_) rfl ?_
   obtain ⟨m124,hle126,ok125,hfz127⟩:=(ok.frs 0 rfl).freeze
   have h128:=ORow.froz (mL (mL qad)) h123 hle126 hfz127 (by decide)
   refine qag E qrH rfl (qmd N _ ([x66,x78]:List (List (List (Relation)))) h128 e99 hG hTb ok125) rfl rfl ?_
   rintro _ w ⟨⟨rfl,okz⟩,l129⟩
   replace ok:=(Ok.thawAt 0 rfl ok hle126 hfz127 okz)
   refine ⟨_,rfl,fun a E=>?_⟩
   refine wn<|qaA (cl1 (cq le_m0 ok [1] rfl) (cq le_m0 ok [1] rfl)) fun hT=>kt 10 E rfl hT (qah rfl) fun a E=>kt 11 E rfl hT (qam rfl rfl) fun a E=>kt 12 E rfl hT (qam rfl rfl) fun a E=>kt 13 E rfl hT (qaG rfl) fun a E=>kt 14 E rfl hT (qaG rfl) fun a E=>?_
   refine qbg (by kernel_rfl) ?_
   exact ⟨rfl,⟨(ok.pk 2 [1] rfl (by decide)),E.keep [0,6,9,10,11,12,29,30],l129⟩⟩
def qo2 (u:World) (m0:Mem) (S:Segs) (r:Int) (a:Act) (w:World):Prop :=
 Ok u m0 S w ∧ a.defers = [] ∧ RVs Tryz.prog a w [.t 2 (.int .i64 r)] ∧ InR .i64 r
theorem qoO (N:Nat) (vl_0:Value) (l_0:List (Rule)) (hl_0:(pL 2 qeR) m0 [vl_0] l_0) {r:Int} (hF:qhT N l_0 = some r) (hG:Glob u) (hTb:Tab u) (ok:Ok u m0 S w) :
  Calls Tryz.prog 36 [vl_0].toArray w fun e w'=>(e = .returned (.int .i64 r) ∧ Ok u m0 S w') ∧ InR .i64 r:=by
 unfold qhT at hF
 refine en (qo2 u m0 S) r Tryz.func36 rfl rfl rfl (by rintro a w ⟨ok,hd,hrv,h0⟩; exact qat [.t 2 (.int .i64 r)] hd rfl hrv ⟨⟨rfl,ok⟩,h0⟩) fun fin a E=>sg<|aw E rfl fun a E=>sg ?_
 refine mv E rfl fun a E=>?_
 obtain ⟨r1,e2,hF⟩:=bnd hF
 refine qag E qwD rfl (qnD N _ l_0 hl_0 e2 hG hTb ok) rfl rfl ?_
 rintro _ w ⟨⟨rfl,ok⟩,r3,r4,l5,r6⟩
 refine ⟨_,rfl,fun a E=>?_⟩
 refine mv E rfl fun a E=>lw E (qam rfl rfl) fun a E=>lw E (qam rfl rfl) fun a E=>lw E (qam rfl rfl) fun a E=>lw E (qam rfl rfl) fun a E=>av E rfl fun a E=>av E rfl fun a E=>av E rfl fun a E=>?_
 refine aw E rfl fun a E=>sg<|mv E rfl fun a E=>av E rfl fun a E=>wpList_nil ?_
 refine qaa<|wp_ret ?_
 exact fin hF ⟨ok,E.d,⟨rv_t E rfl,trivial⟩,r6⟩
def qkh (u:World) (m0:Mem) (S:Segs) (r:Bool) (a:Act) (w:World):Prop :=
 Ok u m0 S w ∧ a.defers = [] ∧ RVs Tryz.prog a w [.t 2 (.bool r)]
theorem qn2 (N:Nat) (vl_0:Value) (l_0:List (Bool)) (hl_0:(pL 1 pB) m0 [vl_0] l_0) {r:Bool} (hF:qex N l_0 = some r) (hG:Glob u) (ok:Ok u m0 S w) :
  Calls Tryz.prog 88 [vl_0].toArray w fun e w'=>(e = .returned (.bool r) ∧ Ok u m0 S w'):=by
 unfold qex at hF
 refine en (qkh u m0 S) r Tryz.func88 rfl rfl rfl (by rintro a w ⟨ok,hd,hrv⟩; exact qat [.t 2 (.bool r)] hd rfl hrv ⟨rfl,ok⟩) fun fin a E=>sg<|aw E rfl fun a E=>wp_seq<|wp_seq ?_
 refine qab<|mv E rfl fun a E=>lv E ok (qaH qhS hl_0 rfl) fun a E=>mv E rfl fun a E=>wn<|wp_block ?_
 obtain ⟨o2,hL,hF⟩:=bnd hF
 refine qaI _ (fun (s:Int) a w=>Ok u m0 (S) w ∧ Env 13 a [(5,vl_0),(6,(vi (l_0.length:Int))),(7,vi s)] ∧ InR .i64 s) (fun (b:(Unit ⊕ Bool)) e a w=>(Sum.elim (fun b17=>e = (.exit 0) ∧ Ok u m0 (S) w ∧ Env 13 a []) (fun b18=>e = .ret ∧ qkh u m0 S b18 a w)) b) ?_ ?_ N _ a w hL ⟨ok,E.keep [5,6,7],(ir 0)⟩
 rotate_left
 ·intro e a w _ hO
  rcases o2 with o2 | o2
  rotate_left
  ·replace hF:=qa7 hF
   obtain ⟨rfl,hret⟩:=hO
   refine qax<|qaf ?_
   exact fin hF hret
  replace hF:=qa6 hF
  obtain ⟨rfl,ok,E⟩:=hO
  refine qaK<|qaa<|sg<|aw E rfl fun a E=>wp_ret ?_
  exact fin hF ⟨ok,E.d,⟨rv_t E rfl,trivial⟩⟩
 rintro x_4 a w r ⟨ok,E,r5⟩ hF
 replace hF:qeN N l_0 x_4 = some r:=hF
 unfold qeN at hF
 refine sg<|lw E (qaF rfl rfl) fun a E=>wn<|wp_seq<|cf E rfl hF (fun hc6 hF=>?_) fun hc6 hF=>?_
 rotate_left
 ·refine wp_exit<|qaB ?_
  obtain rfl:=sj hF
  exact so (sl ⟨rfl,⟨ok,E.keep []⟩⟩)
 refine wp_skip<|qaa<|wp_seq<|wp_block<|sg ?_
 obtain ⟨x7,e8,hF⟩:=bnd hF
 obtain ⟨b9,o10,es11,hl12,rr13,at14,yy15⟩:=qaO qhS hl_0 e8 (P:=Tryz.prog) (X:=.tmp 5) (I:=.tmp 7) (kd:=.i64) (qak E rfl) (qak E rfl)
 obtain rfl:=rr13
 refine lv E ok (yy15 _ _) fun a E=>lv E ok (qap qeQ rfl (qac.ro at14)) fun a E=>aw E rfl fun a E=>sg<|mv E rfl fun a E=>?_
 refine wn<|cf E rfl hF (fun hc16 hF=>?_) fun hc16 hF=>?_
 rotate_left
 ·refine wp_skip<|qal<|qaa<|qab<|lw E (qaD rfl rfl (InR.inc r5 (qaj hl_0) hc6)) fun a E=>mv E rfl fun a E=>wpList_nil ?_
  obtain rfl:=sj hF
  exact qau ⟨ok,E.keep [5,6,7],(InR.inc r5 (qaj hl_0) hc6)⟩
 refine sg<|aw E rfl fun a E=>wp_ret<|qax<|qaf ?_
 obtain rfl:=sj hF
 exact so (sr ⟨rfl,⟨ok,E.d,⟨rv_t E rfl,trivial⟩⟩⟩)
end Go.Proofs.YtboacfcnmhnbdaaGreatDoor
namespace Go.Proofs.YtboacfcnmhnbdaaGreatDoor
open Go.X
def qby (N:Nat) (x0:Option (Classes)) (x1:Part) (x2:Part) (x3:List (List (List (Relation)))) (x4:List (Int)) (x_28:Int) (conds_29:List (Bool)):Option ((Int × (List (Bool))) ⊕ (((List (Bool))))) :=
 bif (decide (x_28 < (x3.length:Int))) then
  (idx x3 x_28).bind fun x35 =>
  (show Option ((List (Bool))) from
   (qd6 N x35 x4 x_28 x0 x1 x2).bind fun r51 =>
   (idx conds_29 x_28).bind fun _x53 =>
   (setI conds_29 x_28 r51).bind fun l59 =>
   some l59).bind fun o47 =>
  some (.inl ((x_28 + 1),o47))
 else
  some (.inr conds_29)
def qda (N:Nat) (x0:Option (Classes)) (x1:Part) (x2:Part) (x3:List (List (List (Relation)))) (x4:List (Int)):Option Bool :=
 (mk (x3.length:Int) (false:Bool)).bind fun l13 =>
 (iter (fun s=>qby N x0 x1 x2 x3 x4 s.1 s.2) N (0,l13)).bind fun o23 =>
 (qex N o23).bind fun r80 =>
 some r80
def qbh (N:Nat) (x_0:Option (Classes)) (x0:List (List (List (Relation)))) (x1:List (Int)) (x33:Part) (y45:Classes) (found_65:List UInt8) (ok_66:Bool) (x_67:Int):Option (((List UInt8) × Bool × Int) ⊕ (((List UInt8) × Bool))) :=
 bif (decide (x_67 < (y45.fraction.length:Int))) then
  (idx y45.fraction x_67).bind fun x71 =>
  (show Option ((List UInt8)) from
   bif (x71.text != ([])) then
    (cat ([46]) x71.text).bind fun s86 =>
    (cat x33.text s86).bind fun s88 =>
    some s88
   else
    some x33.text).bind fun o83 =>
  bif (!ok_66) then
   (qda N x_0 x33 x71 x0 x1).bind fun r92 =>
   bif r92 then
    some (.inl (o83,true,(x_67 + 1)))
   else
    some (.inl (found_65,ok_66,(x_67 + 1)))
  else
   (qfy N o83 found_65).bind fun r95 =>
   bif r95 then
    (qda N x_0 x33 x71 x0 x1).bind fun r98 =>
    bif r98 then
     some (.inl (o83,true,(x_67 + 1)))
    else
     some (.inl (found_65,ok_66,(x_67 + 1)))
   else
    some (.inl (found_65,ok_66,(x_67 + 1)))
 else
  some (.inr (found_65,ok_66))
def qbJ (N:Nat) (x_0:Option (Classes)) (x0:List (List (List (Relation)))) (x1:List (Int)) (y7:Classes) (found_27:List UInt8) (ok_28:Bool) (x_29:Int):Option (((List UInt8) × Bool × Int) ⊕ (((List UInt8) × Bool))) :=
 bif (decide (x_29 < (y7.wholes.length:Int))) then
  (idx y7.wholes x_29).bind fun x33 =>
  (x_0).bind fun y45 =>
  (iter (fun s=>qbh N x_0 x0 x1 x33 y45 s.1 s.2.1 s.2.2) N (found_27,ok_28,0)).bind fun o62 =>
  some (.inl (o62.1,o62.2,(x_29 + 1)))
 else
  some (.inr (found_27,ok_28))
def qcT (N:Nat) (x_0:Option (Classes)) (x0:List (List (List (Relation)))) (x1:List (Int)):Option ((List UInt8) × Bool) :=
 (x_0).bind fun y7 =>
 (iter (fun s=>qbJ N x_0 x0 x1 y7 s.1 s.2.1 s.2.2) N ([],false,0)).bind fun o24 =>
 some (o24.1,o24.2)
def qb5 (N:Nat) (l_0:List (List (List (Relation)))) (all_28:List (Relation)) (x_29:Int) (x_30:List (Int)):Option (((List (Relation)) × Int × (List (Int))) ⊕ (((List (Int)) × (List (Relation))))) :=
 bif (decide (x_29 < (l_0.length:Int))) then
  (idx l_0 x_29).bind fun x40 =>
  (idx x_30 x_29).bind fun _x51 =>
  (setI x_30 x_29 (all_28.length:Int)).bind fun l57 =>
  (qen N x40).bind fun r61 =>
  (app all_28 r61).bind fun l66 =>
  some (.inl (l66,(x_29 + 1),l57))
 else
  some (.inr (x_30,all_28))
def qfA (N:Nat) (l_0:List (List (List (Relation)))):Option ((List UInt8) × Bool) :=
 (mk (l_0.length:Int) (0:Int)).bind fun l3 =>
 (iter (fun s=>qb5 N l_0 s.1 s.2.1 s.2.2) N ([],0,l3)).bind fun o19 =>
 (qd0 N o19.2).bind fun r80 =>
 (qcT N r80 l_0 o19.1).bind fun r85 =>
 some (r85.1,r85.2)
def qfi (N:Nat) (l_0:List (List (List (Relation)))):Option ((List UInt8) × Bool × Int) :=
 (qg1 N l_0).bind fun r1 =>
 bif (!r1) then
  some ([],false,1)
 else
  (qfA N l_0).bind fun r4 =>
  some (r4.1,(!r4.2),0)
def qdk (_N:Nat) (l_0:List (Bool)):Option Bool :=
 (idx l_0 0).bind fun x1 =>
 some x1
def qbw (N:Nat) (x0:Option (Classes)) (x1:Part) (x2:Part) (x3:List (List (List (Relation)))) (x4:List (Int)) (x_28:Int) (conds_29:List (Bool)):Option ((Int × (List (Bool))) ⊕ (((List (Bool))))) :=
 bif (decide (x_28 < (x3.length:Int))) then
  (idx x3 x_28).bind fun x35 =>
  (show Option ((List (Bool))) from
   (qd6 N x35 x4 x_28 x0 x1 x2).bind fun r51 =>
   (idx conds_29 x_28).bind fun _x53 =>
   (setI conds_29 x_28 r51).bind fun l59 =>
   some l59).bind fun o47 =>
  some (.inl ((x_28 + 1),o47))
 else
  some (.inr conds_29)
def qdg (N:Nat) (x0:Option (Classes)) (x1:Part) (x2:Part) (x3:List (List (List (Relation)))) (x4:List (Int)):Option Bool :=
 (mk (x3.length:Int) (false:Bool)).bind fun l13 =>
 (iter (fun s=>qbw N x0 x1 x2 x3 x4 s.1 s.2) N (0,l13)).bind fun o23 =>
 (qdk N o23).bind fun r80 =>
 some r80
def qbi (N:Nat) (x_0:Option (Classes)) (x0:List (List (List (Relation)))) (x1:List (Int)) (x33:Part) (y45:Classes) (found_65:List UInt8) (ok_66:Bool) (x_67:Int):Option (((List UInt8) × Bool × Int) ⊕ (((List UInt8) × Bool))) :=
 bif (decide (x_67 < (y45.fraction.length:Int))) then
  (idx y45.fraction x_67).bind fun x71 =>
  (show Option ((List UInt8)) from
   bif (x71.text != ([])) then
    (cat ([46]) x71.text).bind fun s86 =>
    (cat x33.text s86).bind fun s88 =>
    some s88
   else
    some x33.text).bind fun o83 =>
  bif (!ok_66) then
   (qdg N x_0 x33 x71 x0 x1).bind fun r92 =>
   bif r92 then
    some (.inl (o83,true,(x_67 + 1)))
   else
    some (.inl (found_65,ok_66,(x_67 + 1)))
  else
   (qfy N o83 found_65).bind fun r95 =>
   bif r95 then
    (qdg N x_0 x33 x71 x0 x1).bind fun r98 =>
    bif r98 then
     some (.inl (o83,true,(x_67 + 1)))
    else
     some (.inl (found_65,ok_66,(x_67 + 1)))
   else
    some (.inl (found_65,ok_66,(x_67 + 1)))
 else
  some (.inr (found_65,ok_66))
def qbK (N:Nat) (x_0:Option (Classes)) (x0:List (List (List (Relation)))) (x1:List (Int)) (y7:Classes) (found_27:List UInt8) (ok_28:Bool) (x_29:Int):Option (((List UInt8) × Bool × Int) ⊕ (((List UInt8) × Bool))) :=
 bif (decide (x_29 < (y7.wholes.length:Int))) then
  (idx y7.wholes x_29).bind fun x33 =>
  (x_0).bind fun y45 =>
  (iter (fun s=>qbi N x_0 x0 x1 x33 y45 s.1 s.2.1 s.2.2) N (found_27,ok_28,0)).bind fun o62 =>
  some (.inl (o62.1,o62.2,(x_29 + 1)))
 else
  some (.inr (found_27,ok_28))
def qcU (N:Nat) (x_0:Option (Classes)) (x0:List (List (List (Relation)))) (x1:List (Int)):Option ((List UInt8) × Bool) :=
 (x_0).bind fun y7 =>
 (iter (fun s=>qbK N x_0 x0 x1 y7 s.1 s.2.1 s.2.2) N ([],false,0)).bind fun o24 =>
 some (o24.1,o24.2)
def qb3 (N:Nat) (l_0:List (List (List (Relation)))) (all_28:List (Relation)) (x_29:Int) (x_30:List (Int)):Option (((List (Relation)) × Int × (List (Int))) ⊕ (((List (Int)) × (List (Relation))))) :=
 bif (decide (x_29 < (l_0.length:Int))) then
  (idx l_0 x_29).bind fun x40 =>
  (idx x_30 x_29).bind fun _x51 =>
  (setI x_30 x_29 (all_28.length:Int)).bind fun l57 =>
  (qen N x40).bind fun r61 =>
  (app all_28 r61).bind fun l66 =>
  some (.inl (l66,(x_29 + 1),l57))
 else
  some (.inr (x_30,all_28))
def qfJ (N:Nat) (l_0:List (List (List (Relation)))):Option ((List UInt8) × Bool) :=
 (mk (l_0.length:Int) (0:Int)).bind fun l3 =>
 (iter (fun s=>qb3 N l_0 s.1 s.2.1 s.2.2) N ([],0,l3)).bind fun o19 =>
 (qd0 N o19.2).bind fun r80 =>
 (qcU N r80 l_0 o19.1).bind fun r85 =>
 some (r85.1,r85.2)
def qc7 (N:Nat) (c_0:List (List (Relation))):Option ((List UInt8) × Bool × Int) :=
 (qeb N c_0).bind fun r1 =>
 bif (!r1) then
  some ([],false,1)
 else
  (qfJ N ([c_0]:List (List (List (Relation))))).bind fun r12 =>
  some (r12.1,r12.2,0)
def qf0 (_N:Nat) (l_0:List (Rule)) (conds_14:List (List (List (Relation)))) (x_15:Int):Option (((List (List (List (Relation)))) × Int) ⊕ (((List (List (List (Relation))))))) :=
 bif (decide (x_15 < (l_0.length:Int))) then
  (idx l_0 x_15).bind fun x21 =>
  (app conds_14 ([x21.Cond]:List (List (List (Relation))))).bind fun l37 =>
  some (.inl (l37,(x_15 + 1)))
 else
  some (.inr conds_14)
def qfX (N:Nat) (l_0:List (Rule)) (class_1:List UInt8) (x_61:Int):Option (Int ⊕ ((Unit ⊕ ((List UInt8) × Bool)))) :=
 bif (decide (x_61 < (l_0.length:Int))) then
  (idx l_0 x_61).bind fun x64 =>
  bif (x64.Class == class_1) then
   (qc7 N x64.Cond).bind fun r78 =>
   bif (r78.2.2 == 0) then
    some (.inr (.inr (r78.1,r78.2.1)))
   else
    some (.inr (.inr (r78.1,false)))
  else
   some (.inl (x_61 + 1))
 else
  some (.inr (.inl ()))
def qic (N:Nat) (l_0:List (Rule)) (class_1:List UInt8):Option ((List UInt8) × Bool) :=
 bif (class_1 == ([111,116,104,101,114])) then
  (iter (fun s=>qf0 N l_0 s.1 s.2) N ([],0)).bind fun o9 =>
  (qfi N o9).bind fun r50 =>
  bif (r50.2.2 == 0) then
   some (r50.1,(!r50.2.1))
  else
   some (r50.1,false)
 else
  (iter (fun s=>qfX N l_0 class_1 s) N 0).bind fun o59 =>
  Sum.elim (fun _o59 =>
   some ([],false))
  (fun o59 =>
   some o59) o59
end Go.Proofs.YtboacfcnmhnbdaaGreatDoor
namespace Go.Proofs.YtboacfcnmhnbdaaGreatDoor
open Go.X
variable {u:World} {m0:Mem} {S:Segs} {w:World}
set_option maxHeartbeats 4000000
set_option maxRecDepth 100000
def qjS (u:World) (m0:Mem) (S:Segs) (pb0:Nat) (pb1:Nat) (pb2:Nat) (pb3:Nat) (pb4:Nat) (pb5:Nat) (x0:Option (Classes)) (c1:Value) (x1:Part) (x2:Part) (x3:List (List (List (Relation)))) (c7:Value) (x4:List (Int)) (c9:Value) (M10:List (Nat × Obj)) (r:Bool) (a:Act) (w:World):Prop :=
 Ok u m0 ([(pb0,oc 127 [c1])] :: [(pb1,oc 162 [vu x1.bits,vs x1.text])] :: [(pb2,oc 162 [vu x2.bits,vs x2.text])] :: [(pb3,oc 64 [c7])] :: [(pb4,oc 104 [c9])] :: M10 :: [(pb5,oc 108 [(Value.func (.func 88) #[] #[])])] :: S) w ∧ a.defers = [] ∧ RVs Tryz.prog a w [.t 5 (.bool r)]
theorem qhD (N:Nat) {pb0:Nat} {c1:Value} (x0:Option (Classes)) (h2:(pP 3 qeE) m0 [c1] x0) {pb1:Nat} (x1:Part) (r3:InR .u64 x1.bits) (l4:x1.text.length ≤ LIMS) {pb2:Nat} (x2:Part) (r5:InR .u64 x2.bits) (l6:x2.text.length ≤ LIMS) {pb3:Nat} {c7:Value} (x3:List (List (List (Relation)))) (h8:(pL 1 (pL 1 (pL 4 qai))) m0 [c7] x3) {pb4:Nat} {c9:Value} {M10:List (Nat × Obj)} (x4:List (Int)) (h11:ORow 3 1 (pI .i64) m0 c9 x4 M10) {pb5:Nat} {r:Bool} (hF:qda N x0 x1 x2 x3 x4 = some r) (hG:Glob u) (ok:Ok u m0 ([(pb0,oc 127 [c1])] :: [(pb1,oc 162 [vu x1.bits,vs x1.text])] :: [(pb2,oc 162 [vu x2.bits,vs x2.text])] :: [(pb3,oc 64 [c7])] :: [(pb4,oc 104 [c9])] :: M10 :: [(pb5,oc 108 [(Value.func (.func 88) #[] #[])])] :: S) w) :
  Calls Tryz.prog 115 [Value.func (.func 148) #[] #[.pointer (some ⟨pb0,0,none⟩),.pointer (some ⟨pb1,0,none⟩),.pointer (some ⟨pb2,0,none⟩)],vp pb3,vp pb4,vp pb5].toArray w fun e w'=>(e = .returned (.bool r) ∧ Ok u m0 ([(pb0,oc 127 [c1])] :: [(pb1,oc 162 [vu x1.bits,vs x1.text])] :: [(pb2,oc 162 [vu x2.bits,vs x2.text])] :: [(pb3,oc 64 [c7])] :: [(pb4,oc 104 [c9])] :: M10 :: [(pb5,oc 108 [(Value.func (.func 88) #[] #[])])] :: S) w'):=by
 have le_m0:=Mem.le.refl m0
 unfold qda at hF
 refine en (qjS u m0 S pb0 pb1 pb2 pb3 pb4 pb5 x0 c1 x1 x2 x3 c7 x4 c9 M10) r Tryz.func115 rfl rfl rfl (by rintro a w ⟨ok,hd,hrv⟩; exact qat [.t 5 (.bool r)] hd rfl hrv ⟨rfl,ok⟩) fun fin a E=>sg<|qcH E ok rfl rfl rfl fun b12 a w E ok=>aw E rfl fun a E=>wp_seq ?_
 refine qab<|ld E ok qhj 4 rfl rfl rfl fun a E=>lv E ok (qaH qbr h8 rfl) fun a E=>?_
 obtain ⟨l13,e14,hF⟩:=bnd hF
 refine qeV (R:=pB) E ok qhS qqd rfl qks rfl e14 rfl rfl fun c15 M16 a w E ok h17=>aw E rfl fun a E=>wp_seq<|sg<|ld E ok qhj 5 rfl rfl rfl fun a E=>?_
 refine lv E ok (qaH qbr h8 rfl) fun a E=>mv E rfl fun a E=>wn<|wp_block ?_
 obtain ⟨o23,hL,hF⟩:=bnd hF
 refine qaI _ (fun (s:Int × (List (Bool))) a w=>∃ c25 M26,Ok u m0 (M26 :: [(b12,oc 130 [(Value.func (.func 148) #[] #[.pointer (some ⟨pb0,0,none⟩),.pointer (some ⟨pb1,0,none⟩),.pointer (some ⟨pb2,0,none⟩)])])] :: [(pb0,oc 127 [c1])] :: [(pb1,oc 162 [vu x1.bits,vs x1.text])] :: [(pb2,oc 162 [vu x2.bits,vs x2.text])] :: [(pb3,oc 64 [c7])] :: [(pb4,oc 104 [c9])] :: M10 :: [(pb5,oc 108 [(Value.func (.func 88) #[] #[])])] :: S) w ∧ Env 29 a [(2,vp pb4),(3,vp pb5),(4,vp b12),(6,c25),(12,c7),(13,(vi (x3.length:Int))),(14,vi s.1)] ∧ InR .i64 s.1 ∧ ORow 4 1 pB m0 c25 s.2 M26) (fun (b:((List (Bool)))) e a w=>e = (.exit 0) ∧ ∃ c82 M83,Ok u m0 (M83 :: [(b12,oc 130 [(Value.func (.func 148) #[] #[.pointer (some ⟨pb0,0,none⟩),.pointer (some ⟨pb1,0,none⟩),.pointer (some ⟨pb2,0,none⟩)])])] :: [(pb0,oc 127 [c1])] :: [(pb1,oc 162 [vu x1.bits,vs x1.text])] :: [(pb2,oc 162 [vu x2.bits,vs x2.text])] :: [(pb3,oc 64 [c7])] :: [(pb4,oc 104 [c9])] :: M10 :: [(pb5,oc 108 [(Value.func (.func 88) #[] #[])])] :: S) w ∧ Env 29 a [(3,vp pb5),(6,c82)] ∧ ORow 4 1 pB m0 c82 b M83) ?_ ?_ N _ a w hL ⟨c15,M16,ok,E.keep [2,3,4,6,12,13,14],(ir 0),h17⟩
 rotate_left
 ·intro e a w _ hO
  obtain ⟨rfl,c72,M73,ok,E,h74⟩:=hO
  refine qaK<|qaa<|sg<|ld E ok qoV 8 rfl rfl rfl fun a E=>mv E rfl fun a E=>?_
  obtain ⟨r80,e81,hF⟩:=bnd hF
  obtain ⟨m75,hle77,ok76,hfz78⟩:=(ok.frs 0 rfl).freeze
  have h79:=ORow.froz mB h74 hle77 hfz78 (by decide)
  refine qjW E rfl qwf rfl (qn2 N _ o23 h79 e81 hG ok76) rfl rfl ?_
  rintro _ w ⟨rfl,okz⟩
  replace ok:=(Ok.thawAt 0 rfl ok hle77 hfz78 okz)
  refine ⟨_,rfl,fun a E=>?_⟩
  refine aw E rfl fun a E=>wp_ret ?_
  exact fin hF ⟨ok.drop.drop,E.d,⟨rv_t E rfl,trivial⟩⟩
 rintro ⟨x_28,conds_29⟩ a w r ⟨c31,M32,ok,E,r30,h33⟩ hF
 replace hF:qby N x0 x1 x2 x3 x4 x_28 conds_29 = some r:=hF
 unfold qby at hF
 refine sg<|lw E (qaF rfl rfl) fun a E=>wn<|wp_seq<|cf E rfl hF (fun hc34 hF=>?_) fun hc34 hF=>?_
 rotate_left
 ·refine wp_exit<|qaB ?_
  obtain rfl:=sj hF
  exact so (⟨rfl,⟨c31,M32,ok,E.keep [3,6],h33⟩⟩)
 refine wp_skip<|qaa<|wp_seq<|wp_block<|sg<|mv E rfl fun a E=>?_
 obtain ⟨x35,e36,hF⟩:=bnd hF
 obtain ⟨b37,o38,es39,hl40,rr41,at42,yy43⟩:=qaO qbr h8 e36 (P:=Tryz.prog) (X:=.tmp 12) (I:=.tmp 14) (kd:=.i64) (qak E rfl) (qak E rfl)
 obtain ⟨c44,rfl,h45⟩:=qcm rr41
 refine lv E ok (yy43 _ _) fun a E=>lv E ok (qap qdA rfl (qac.ro at42)) fun a E=>qaR E ok qib rfl rfl fun b46 a w E ok=>qae E ok 0 rfl rfl rfl qbO rfl rfl ⟨rfl,trivial⟩ rfl rfl fun w ok=>aw E rfl fun a E=>?_
 obtain ⟨o47,hJ,hF⟩:=bnd hF
 refine qaV (Q':=fun e a w=>e = .normal ∧ ∃ c48 M49,Ok u m0 ([(b46,oc 3 [vi x_28])] :: M49 :: [(b12,oc 130 [(Value.func (.func 148) #[] #[.pointer (some ⟨pb0,0,none⟩),.pointer (some ⟨pb1,0,none⟩),.pointer (some ⟨pb2,0,none⟩)])])] :: [(pb0,oc 127 [c1])] :: [(pb1,oc 162 [vu x1.bits,vs x1.text])] :: [(pb2,oc 162 [vu x2.bits,vs x2.text])] :: [(pb3,oc 64 [c7])] :: [(pb4,oc 104 [c9])] :: M10 :: [(pb5,oc 108 [(Value.func (.func 88) #[] #[])])] :: S) w ∧ Env 29 a [(2,vp pb4),(3,vp pb5),(4,vp b12),(6,c48),(12,c7),(13,(vi (x3.length:Int))),(14,vi x_28)] ∧ ORow 4 1 pB m0 c48 o47 M49) ?_ ?_
 rotate_left
 ·clear hJ
  intro e a w hO
  obtain ⟨rfl,c69,M70,ok,E,h71⟩:=hO
  refine qal<|qaa<|qab<|lw E (qaD rfl rfl (InR.inc r30 (qaj h8) hc34)) fun a E=>mv E rfl fun a E=>wpList_nil ?_
  obtain rfl:=sj hF
  exact qau ⟨c69,M70,(ok.pk 10 [1,2,3,4,5,6,7,8,9] rfl (by decide)),E.keep [2,3,4,6,12,13,14],(InR.inc r30 (qaj h8) hc34),h71⟩
 replace hF:=hJ
 clear hJ
 obtain ⟨r51,e52,hF⟩:=bnd hF
 obtain ⟨x53,e54,hF⟩:=bnd hF
 obtain ⟨l59,e60,hF⟩:=bnd hF
 obtain rfl:=sj hF
 refine qbG [] (Cls u m0 ([(b46,oc 3 [vi x_28])] :: [(b12,oc 130 [(Value.func (.func 148) #[] #[.pointer (some ⟨pb0,0,none⟩),.pointer (some ⟨pb1,0,none⟩),.pointer (some ⟨pb2,0,none⟩)])])] :: [(pb0,oc 127 [c1])] :: [(pb1,oc 162 [vu x1.bits,vs x1.text])] :: [(pb2,oc 162 [vu x2.bits,vs x2.text])] :: [(pb3,oc 64 [c7])] :: [(pb4,oc 104 [c9])] :: M10 :: [(pb5,oc 108 [(Value.func (.func 88) #[] #[])])] :: [])) (Cls u m0 ([(b46,oc 3 [vi x_28])] :: [(b12,oc 130 [(Value.func (.func 148) #[] #[.pointer (some ⟨pb0,0,none⟩),.pointer (some ⟨pb1,0,none⟩),.pointer (some ⟨pb2,0,none⟩)])])] :: [(pb0,oc 127 [c1])] :: [(pb1,oc 162 [vu x1.bits,vs x1.text])] :: [(pb2,oc 162 [vu x2.bits,vs x2.text])] :: [(pb3,oc 64 [c7])] :: [(pb4,oc 104 [c9])] :: M10 :: [(pb5,oc 108 [(Value.func (.func 88) #[] #[])])] :: [])) (by kernel_rfl) ?_
 intro w hw
 replace ok:=qce ok hw
 clear hw
 refine qaA (cl1 (cq le_m0 ok [0,2,3,4,5,6,7,8,9] rfl) (cq le_m0 ok [0,2,3,4,5,6,7,8,9] rfl)) fun hT=>kt 0 E rfl hT (qah rfl) fun a E=>kt 1 E rfl hT (qap qaC rfl (qac.cown 0 rfl rfl)) fun a E=>kt 2 E rfl hT (qah rfl) fun a E=>kt 3 E rfl hT (qbI (caps:=[.tmp 4,.tmp 2,.tmp 7]) rfl) fun a E=>qaP [4] (by kernel_rfl) rfl (qaU ?_)
 ·refine qcA (o:=_) rfl ?_
  replace ok:Ok u m0 ([(b12,oc 130 [(Value.func (.func 148) #[] #[.pointer (some ⟨pb0,0,none⟩),.pointer (some ⟨pb1,0,none⟩),.pointer (some ⟨pb2,0,none⟩)])])] :: [(pb4,oc 104 [c9])] :: M10 :: [(b46,oc 3 [vi x_28])] :: [(pb0,oc 127 [c1])] :: [(pb1,oc 162 [vu x1.bits,vs x1.text])] :: [(pb2,oc 162 [vu x2.bits,vs x2.text])] :: M32 :: [(pb3,oc 64 [c7])] :: [(pb5,oc 108 [(Value.func (.func 88) #[] #[])])] :: S) w:=(ok.pk 10 [2,7,8,0,3,4,5,1,6,9] rfl (by decide))
  refine lc E qp8 rfl (qhv N _ x35 h45 x4 h11 x_28 r30 x0 h2 x1 r3 l4 x2 r5 l6 e52 hG ok) fun w ok a E=>wn<|qaA (cl1 (cq le_m0 ok [3,0,4,5,6,8,1,2,9] rfl) (cq le_m0 ok [3,0,4,5,6,8,1,2,9] rfl)) fun hT=>?_
  obtain ⟨b63,o64,hp65,yy66⟩:=qdZ qhS h33 e54 (P:=Tryz.prog) (X:=.tmp 19) (I:=.tmp 20) (kd:=.i64) (qak E rfl) (qak E rfl)
  refine kt 5 E rfl hT (yy66 _ _) fun a E=>qaP [6] (by kernel_rfl) rfl (qaU ?_)
  ·refine wo rfl<|qfR (R:=pB) E ok 7 rfl h33 e54 hp65 rfl rfl qnf rfl rfl rfl ⟨rfl,trivial⟩ qks e60 rfl fun M67 w ok h68=>wn<|qaA (cl1 (cq le_m0 ok [3,0,4,5,6,8,1,2,9] rfl) (cq le_m0 ok [3,0,4,5,6,8,1,2,9] rfl)) fun hT=>qbg (by kernel_rfl) ?_
   exact ⟨rfl,⟨c31,M67,(ok.pk 10 [3,7,0,4,5,6,8,1,2,9] rfl (by decide)),E.keep [2,3,4,6,12,13,14],h68⟩⟩
def qiz (u:World) (m0:Mem) (S:Segs) (pb0:Nat) (pb1:Nat) (pb2:Nat) (x0:List (List (List (Relation)))) (c1:Value) (x1:List (Int)) (c3:Value) (M4:List (Nat × Obj)) (r:(List UInt8) × Bool) (a:Act) (w:World):Prop :=
 Ok u m0 ([(pb0,oc 64 [c1])] :: [(pb1,oc 104 [c3])] :: M4 :: [(pb2,oc 108 [(Value.func (.func 88) #[] #[])])] :: S) w ∧ a.defers = [] ∧ RVs Tryz.prog a w [.t 4 (.string (bs r.1)),.t 5 (.bool r.2)] ∧ r.1.length ≤ LIMS
theorem qiI (N:Nat) (vx_0:Value) (x_0:Option (Classes)) (hx_0:(pP 3 qeE) m0 [vx_0] x_0) {pb0:Nat} {c1:Value} (x0:List (List (List (Relation)))) (h2:(pL 1 (pL 1 (pL 4 qai))) m0 [c1] x0) {pb1:Nat} {c3:Value} {M4:List (Nat × Obj)} (x1:List (Int)) (h5:ORow 3 1 (pI .i64) m0 c3 x1 M4) {pb2:Nat} {r:(List UInt8) × Bool} (hF:qcT N x_0 x0 x1 = some r) (hG:Glob u) (ok:Ok u m0 ([(pb0,oc 64 [c1])] :: [(pb1,oc 104 [c3])] :: M4 :: [(pb2,oc 108 [(Value.func (.func 88) #[] #[])])] :: S) w) :
  Calls Tryz.prog 114 [vx_0,Value.func (.func 115) #[] #[.pointer (some ⟨pb0,0,none⟩),.pointer (some ⟨pb1,0,none⟩),.pointer (some ⟨pb2,0,none⟩)]].toArray w fun e w'=>(e = .returned (.tuple [(.string (bs r.1)),(.bool r.2)].toArray) ∧ Ok u m0 ([(pb0,oc 64 [c1])] :: [(pb1,oc 104 [c3])] :: M4 :: [(pb2,oc 108 [(Value.func (.func 88) #[] #[])])] :: S) w') ∧ r.1.length ≤ LIMS:=by
 unfold qcT at hF
 refine en (qiz u m0 S pb0 pb1 pb2 x0 c1 x1 c3 M4) r Tryz.func114 rfl rfl rfl (by rintro a w ⟨ok,hd,hrv,h0⟩; exact qat [.t 4 (.string (bs r.1)),.t 5 (.bool r.2)] hd rfl hrv ⟨⟨rfl,ok⟩,h0⟩) fun fin a E=>sg<|qj0 (cs:=[vx_0]) E ok rfl (qnZ hx_0) rfl rfl fun b6 a w E ok=>av E rfl fun a E=>aw E rfl fun a E=>?_
 refine sg<|av E rfl fun a E=>aw E rfl fun a E=>wp_seq<|wp_seq ?_
 refine qab<|ld E ok qi9 0 rfl rfl rfl fun a E=>?_
 obtain ⟨y7,e8,hF⟩:=bnd hF
 obtain ⟨b9,o10,es11,hv12,hl13,hR14,at15⟩:=qjd hx_0 e8
 obtain ⟨c16,c18,c20,rfl,h17,h19,h21⟩:=hR14
 refine lv E ok (qgA hv12 rfl) fun a E=>fv E qj6 rfl fun a E=>lv E ok (qap qij rfl (qac.ro (At.sub 1 1 at15))) fun a E=>lv E ok (qaH qfM h19 rfl) fun a E=>mv E rfl fun a E=>wn<|wp_block ?_
 obtain ⟨o24,hL,hF⟩:=bnd hF
 refine qaI _ (fun (s:(List UInt8) × Bool × Int) a w=>Ok u m0 ([(b6,oc 127 [vx_0])] :: [(pb0,oc 64 [c1])] :: [(pb1,oc 104 [c3])] :: M4 :: [(pb2,oc 108 [(Value.func (.func 88) #[] #[])])] :: S) w ∧ Env 58 a [(1,(Value.func (.func 115) #[] #[.pointer (some ⟨pb0,0,none⟩),.pointer (some ⟨pb1,0,none⟩),.pointer (some ⟨pb2,0,none⟩)])),(2,vp b6),(6,vs s.1),(7,vb s.2.1),(16,c18),(17,(vi (y7.wholes.length:Int))),(18,vi s.2.2)] ∧ s.1.length ≤ LIMS ∧ InR .i64 s.2.2) (fun (b:((List UInt8) × Bool)) e a w=>e = (.exit 0) ∧ Ok u m0 ([(b6,oc 127 [vx_0])] :: [(pb0,oc 64 [c1])] :: [(pb1,oc 104 [c3])] :: M4 :: [(pb2,oc 108 [(Value.func (.func 88) #[] #[])])] :: S) w ∧ Env 58 a [(6,vs b.1),(7,vb b.2)] ∧ b.1.length ≤ LIMS) ?_ ?_ N _ a w hL ⟨ok,E.keep [1,2,6,7,16,17,18],(show ([]:List UInt8).length ≤ LIMS by decide),(ir 0)⟩
 rotate_left
 ·intro e a w _ hO
  obtain ⟨rfl,ok,E,l103⟩:=hO
  refine qaK<|qaa<|sg<|mv E rfl fun a E=>mv E rfl fun a E=>av E rfl fun a E=>av E rfl fun a E=>?_
  refine wn<|wp_ret ?_
  exact fin hF ⟨ok.drop,E.d,⟨rv_t E rfl,rv_t E rfl,trivial⟩,l103⟩
 rintro ⟨found_27,ok_28,x_29⟩ a w r ⟨ok,E,l30,r31⟩ hF
 replace hF:qbJ N x_0 x0 x1 y7 found_27 ok_28 x_29 = some r:=hF
 unfold qbJ at hF
 refine sg<|lw E (qaF rfl rfl) fun a E=>wn<|wp_seq<|cf E rfl hF (fun hc32 hF=>?_) fun hc32 hF=>?_
 rotate_left
 ·refine wp_exit<|qaB ?_
  obtain rfl:=sj hF
  exact so (⟨rfl,⟨ok,E.keep [6,7],l30⟩⟩)
 refine wp_skip<|qaa<|wp_seq<|wp_block<|sg ?_
 obtain ⟨x33,e34,hF⟩:=bnd hF
 obtain ⟨b35,o36,es37,hl38,rr39,at40,yy41⟩:=qaO qfM h19 e34 (P:=Tryz.prog) (X:=.tmp 16) (I:=.tmp 18) (kd:=.i64) (qak E rfl) (qak E rfl)
 obtain ⟨rfl,r42,l43⟩:=rr39
 refine lv E ok (yy41 _ _) fun a E=>lv E ok (qao (cs:=[vu x33.bits,vs x33.text]) qhl rfl rfl (qac.ro at40)) fun a E=>qaR E ok qf6 rfl rfl fun b44 a w E ok=>qae E ok 0 rfl rfl rfl qi5 rfl rfl ⟨rfl,rfl,trivial⟩ rfl rfl fun w ok=>wn<|sg ?_
 refine ld E ok qi9 1 rfl rfl rfl fun a E=>?_
 obtain ⟨y45,e46,hF⟩:=bnd hF
 obtain ⟨b47,o48,es49,hv50,hl51,hR52,at53⟩:=qjd hx_0 e46
 obtain ⟨c54,c56,c58,rfl,h55,h57,h59⟩:=hR52
 refine lv E ok (qgA hv50 rfl) fun a E=>fv E qkj rfl fun a E=>lv E ok (qap qij rfl (qac.ro (At.sub 2 1 at53))) fun a E=>lv E ok (qaH qfM h59 rfl) fun a E=>mv E rfl fun a E=>wn<|wp_block ?_
 obtain ⟨o62,hL,hF⟩:=bnd hF
 refine qaI _ (fun (s:(List UInt8) × Bool × Int) a w=>Ok u m0 ([(b44,oc 162 [vu x33.bits,vs x33.text])] :: [(b6,oc 127 [vx_0])] :: [(pb0,oc 64 [c1])] :: [(pb1,oc 104 [c3])] :: M4 :: [(pb2,oc 108 [(Value.func (.func 88) #[] #[])])] :: S) w ∧ Env 58 a [(1,(Value.func (.func 115) #[] #[.pointer (some ⟨pb0,0,none⟩),.pointer (some ⟨pb1,0,none⟩),.pointer (some ⟨pb2,0,none⟩)])),(2,vp b6),(6,vs s.1),(7,vb s.2.1),(9,vp b44),(16,c18),(17,(vi (y7.wholes.length:Int))),(18,vi x_29),(25,c58),(26,(vi (y45.fraction.length:Int))),(27,vi s.2.2)] ∧ s.1.length ≤ LIMS ∧ InR .i64 s.2.2) (fun (b:((List UInt8) × Bool)) e a w=>e = (.exit 2) ∧ Ok u m0 ([(b44,oc 162 [vu x33.bits,vs x33.text])] :: [(b6,oc 127 [vx_0])] :: [(pb0,oc 64 [c1])] :: [(pb1,oc 104 [c3])] :: M4 :: [(pb2,oc 108 [(Value.func (.func 88) #[] #[])])] :: S) w ∧ Env 58 a [(1,(Value.func (.func 115) #[] #[.pointer (some ⟨pb0,0,none⟩),.pointer (some ⟨pb1,0,none⟩),.pointer (some ⟨pb2,0,none⟩)])),(2,vp b6),(6,vs b.1),(7,vb b.2),(16,c18),(17,(vi (y7.wholes.length:Int))),(18,vi x_29)] ∧ b.1.length ≤ LIMS) ?_ ?_ N _ a w hL ⟨ok,E.keep [1,2,6,7,9,16,17,18,25,26,27],l30,(ir 0)⟩
 rotate_left
 ·intro e a w _ hO
  obtain ⟨rfl,ok,E,l101⟩:=hO
  refine qaK<|qal<|qaa<|qab<|lw E (qaD rfl rfl (InR.inc r31 (qaj h19) hc32)) fun a E=>mv E rfl fun a E=>wpList_nil ?_
  obtain rfl:=sj hF
  exact qau ⟨(ok.pk 6 [1,2,3,4,5] rfl (by decide)),E.keep [1,2,6,7,16,17,18],l101,(InR.inc r31 (qaj h19) hc32)⟩
 rintro ⟨found_65,ok_66,x_67⟩ a w r ⟨ok,E,l68,r69⟩ hF
 replace hF:qbh N x_0 x0 x1 x33 y45 found_65 ok_66 x_67 = some r:=hF
 unfold qbh at hF
 refine sg<|lw E (qaF rfl rfl) fun a E=>wn<|wp_seq<|cf E rfl hF (fun hc70 hF=>?_) fun hc70 hF=>?_
 rotate_left
 ·refine wp_exit<|qaB ?_
  obtain rfl:=sj hF
  exact so (⟨rfl,⟨ok,E.keep [1,2,6,7,16,17,18],l68⟩⟩)
 refine wp_skip<|qaa<|wp_seq<|wp_block<|sg ?_
 obtain ⟨x71,e72,hF⟩:=bnd hF
 obtain ⟨b73,o74,es75,hl76,rr77,at78,yy79⟩:=qaO qfM h59 e72 (P:=Tryz.prog) (X:=.tmp 25) (I:=.tmp 27) (kd:=.i64) (qak E rfl) (qak E rfl)
 obtain ⟨rfl,r80,l81⟩:=rr77
 refine lv E ok (yy79 _ _) fun a E=>lv E ok (qao (cs:=[vu x71.bits,vs x71.text]) qhl rfl rfl (qac.ro at78)) fun a E=>qaR E ok qf6 rfl rfl fun b82 a w E ok=>qae E ok 0 rfl rfl rfl qi5 rfl rfl ⟨rfl,rfl,trivial⟩ rfl rfl fun w ok=>wn<|sg ?_
 refine fv E qga rfl fun a E=>ld E ok qaN 1 rfl rfl rfl fun a E=>aw E rfl fun a E=>wp_seq<|sg ?_
 refine fv E qga rfl fun a E=>ld E ok qaN 0 rfl rfl rfl fun a E=>lw E (qkc rfl rfl) fun a E=>wn ?_
 obtain ⟨o83,hJ,hF⟩:=bnd hF
 refine qaV (Q':=fun e a w=>e = .normal ∧ Ok u m0 ([(b82,oc 162 [vu x71.bits,vs x71.text])] :: [(b44,oc 162 [vu x33.bits,vs x33.text])] :: [(b6,oc 127 [vx_0])] :: [(pb0,oc 64 [c1])] :: [(pb1,oc 104 [c3])] :: M4 :: [(pb2,oc 108 [(Value.func (.func 88) #[] #[])])] :: S) w ∧ Env 58 a [(1,(Value.func (.func 115) #[] #[.pointer (some ⟨pb0,0,none⟩),.pointer (some ⟨pb1,0,none⟩),.pointer (some ⟨pb2,0,none⟩)])),(2,vp b6),(6,vs found_65),(7,vb ok_66),(9,vp b44),(11,vp b82),(12,vs o83),(16,c18),(17,(vi (y7.wholes.length:Int))),(18,vi x_29),(25,c58),(26,(vi (y45.fraction.length:Int))),(27,vi x_67)] ∧ o83.length ≤ LIMS) ?_ ?_
 ·replace hF:=hJ
  clear hJ
  refine cf E rfl hF (fun hc85 hF=>?_) fun hc85 hF=>?_
  rotate_left
  ·refine wp_skip ?_
   obtain rfl:=sj hF
   exact ⟨rfl,⟨ok,E.keep [1,2,6,7,9,11,12,16,17,18,25,26,27],l43⟩⟩
  refine qab<|mv E rfl fun a E=>fv E qga rfl fun a E=>ld E ok qaN 0 rfl rfl rfl fun a E=>?_
  obtain ⟨s86,e87,hF⟩:=bnd hF
  refine lw E (qcd rfl rfl e87) fun a E=>?_
  obtain ⟨s88,e89,hF⟩:=bnd hF
  refine lw E (qcd rfl rfl e89) fun a E=>av E rfl fun a E=>wpList_nil ?_
  obtain rfl:=sj hF
  exact ⟨rfl,⟨ok,E.keep [1,2,6,7,9,11,12,16,17,18,25,26,27],(qbt e89)⟩⟩
 clear hJ
 intro e a w hO
 obtain ⟨rfl,ok,E,l90⟩:=hO
 refine qaa<|sg<|mv E rfl fun a E=>lw E (qaS rfl) fun a E=>mv E rfl fun a E=>qav (!ok_66) (fun hc91=>?_) (fun hc91=>?_)
 ·replace hF:=qas hc91 hF
  replace E:=E.upd 43 hc91 rfl
  refine ls E fun a E=>ls E fun a E=>ls E fun a E=>pt E rfl rfl fun a E=>mv E rfl fun a E=>mv E rfl fun a E=>lv E ok (qbI (caps:=[.tmp 2,.tmp 9,.tmp 11]) rfl) fun a E=>?_
  obtain ⟨r92,e93,hF⟩:=bnd hF
  replace ok:Ok u m0 ([(b6,oc 127 [vx_0])] :: [(b44,oc 162 [vu x33.bits,vs x33.text])] :: [(b82,oc 162 [vu x71.bits,vs x71.text])] :: [(pb0,oc 64 [c1])] :: [(pb1,oc 104 [c3])] :: M4 :: [(pb2,oc 108 [(Value.func (.func 88) #[] #[])])] :: S) w:=(ok.pk 7 [2,1,0,3,4,5,6] rfl (by decide))
  refine qcc E rfl qk9 rfl (qhD N x_0 hx_0 x33 r42 l43 x71 r80 l81 x0 h2 x1 h5 e93 hG ok) rfl rfl ?_
  rintro _ w ⟨rfl,ok⟩
  refine ⟨_,rfl,fun a E=>?_⟩
  refine pt E rfl rfl fun a E=>wn<|cf E rfl hF (fun hc94 hF=>?_) fun hc94 hF=>?_
  rotate_left
  ·refine wp_skip<|qal<|qaa<|qab<|lw E (qaD rfl rfl (InR.inc r69 (qaj h59) hc70)) fun a E=>mv E rfl fun a E=>wpList_nil ?_
   obtain rfl:=sj hF
   exact qau ⟨(ok.pk 7 [1,0,3,4,5,6] rfl (by decide)),E.keep [1,2,6,7,9,16,17,18,25,26,27],l68,(InR.inc r69 (qaj h59) hc70)⟩
  refine qab<|mv E rfl fun a E=>av E rfl fun a E=>av E rfl fun a E=>wpList_nil<|qal<|qaa<|qab ?_
  refine lw E (qaD rfl rfl (InR.inc r69 (qaj h59) hc70)) fun a E=>mv E rfl fun a E=>wpList_nil ?_
  obtain rfl:=sj hF
  exact qau ⟨(ok.pk 7 [1,0,3,4,5,6] rfl (by decide)),E.keep [1,2,6,7,9,16,17,18,25,26,27],l90,(InR.inc r69 (qaj h59) hc70)⟩
 replace hF:=qar hc91 hF
 replace E:=E.upd 43 hc91 rfl
 refine mv E rfl fun a E=>mv E rfl fun a E=>?_
 obtain ⟨r95,e96,hF⟩:=bnd hF
 refine lc E qqj rfl (qiO N o83 l90 found_65 l68 e96 hG ok) fun w ok a E=>pf E rfl rfl fun a E=>mv E rfl fun a E=>qav r95 (fun hc97=>?_) (fun hc97=>?_)
 rotate_left
 ·replace hF:=qar hc97 hF
  replace E:=E.upd 48 hc97 rfl
  refine ls E fun a E=>ls E fun a E=>ls E fun a E=>pf E rfl rfl fun a E=>wn<|c_if E rfl (fun h=>by cases h) (fun _=>?_)
  refine wp_skip<|qal<|qaa<|qab<|lw E (qaD rfl rfl (InR.inc r69 (qaj h59) hc70)) fun a E=>mv E rfl fun a E=>wpList_nil ?_
  obtain rfl:=sj hF
  exact qau ⟨(ok.pk 7 [1,2,3,4,5,6] rfl (by decide)),E.keep [1,2,6,7,9,16,17,18,25,26,27],l68,(InR.inc r69 (qaj h59) hc70)⟩
 replace hF:=qas hc97 hF
 replace E:=E.upd 48 hc97 rfl
 refine mv E rfl fun a E=>lv E ok (qbI (caps:=[.tmp 2,.tmp 9,.tmp 11]) rfl) fun a E=>?_
 obtain ⟨r98,e99,hF⟩:=bnd hF
 replace ok:Ok u m0 ([(b6,oc 127 [vx_0])] :: [(b44,oc 162 [vu x33.bits,vs x33.text])] :: [(b82,oc 162 [vu x71.bits,vs x71.text])] :: [(pb0,oc 64 [c1])] :: [(pb1,oc 104 [c3])] :: M4 :: [(pb2,oc 108 [(Value.func (.func 88) #[] #[])])] :: S) w:=(ok.pk 7 [2,1,0,3,4,5,6] rfl (by decide))
 refine qcc E rfl qk9 rfl (qhD N x_0 hx_0 x33 r42 l43 x71 r80 l81 x0 h2 x1 h5 e99 hG ok) rfl rfl ?_
 rintro _ w ⟨rfl,ok⟩
 refine ⟨_,rfl,fun a E=>?_⟩
 refine pt E rfl rfl fun a E=>wn<|cf E rfl hF (fun hc100 hF=>?_) fun hc100 hF=>?_
 rotate_left
 ·refine wp_skip<|qal<|qaa<|qab<|lw E (qaD rfl rfl (InR.inc r69 (qaj h59) hc70)) fun a E=>mv E rfl fun a E=>wpList_nil ?_
  obtain rfl:=sj hF
  exact qau ⟨(ok.pk 7 [1,0,3,4,5,6] rfl (by decide)),E.keep [1,2,6,7,9,16,17,18,25,26,27],l68,(InR.inc r69 (qaj h59) hc70)⟩
 refine qab<|mv E rfl fun a E=>av E rfl fun a E=>av E rfl fun a E=>wpList_nil<|qal<|qaa<|qab ?_
 refine lw E (qaD rfl rfl (InR.inc r69 (qaj h59) hc70)) fun a E=>mv E rfl fun a E=>wpList_nil ?_
 obtain rfl:=sj hF
 exact qau ⟨(ok.pk 7 [1,0,3,4,5,6] rfl (by decide)),E.keep [1,2,6,7,9,16,17,18,25,26,27],l90,(InR.inc r69 (qaj h59) hc70)⟩
def ql6 (u:World) (m0:Mem) (S:Segs) (r:(List UInt8) × Bool) (a:Act) (w:World):Prop :=
 Ok u m0 S w ∧ a.defers = [] ∧ RVs Tryz.prog a w [.t 4 (.string (bs r.1)),.t 5 (.bool r.2)] ∧ r.1.length ≤ LIMS
theorem qmf (N:Nat) (vl_0:Value) (l_0:List (List (List (Relation)))) (hl_0:(pL 1 (pL 1 (pL 4 qai))) m0 [vl_0] l_0) {r:(List UInt8) × Bool} (hF:qfA N l_0 = some r) (hG:Glob u) (hTb:Tab u) (ok:Ok u m0 S w) :
  Calls Tryz.prog 86 [vl_0,.func (.func 88) #[] #[]].toArray w fun e w'=>(e = .returned (.tuple [(.string (bs r.1)),(.bool r.2)].toArray) ∧ Ok u m0 S w') ∧ r.1.length ≤ LIMS:=by
 have hb0:=ok.base
 have le_m0:=Mem.le.refl m0
 unfold qfA at hF
 refine en (ql6 u m0 S) r Tryz.func86 rfl rfl rfl (by rintro a w ⟨ok,hd,hrv,h0⟩; exact qat [.t 4 (.string (bs r.1)),.t 5 (.bool r.2)] hd rfl hrv ⟨⟨rfl,ok⟩,h0⟩) fun fin a E=>sg<|qj0 (cs:=[vl_0]) E ok rfl (qcY hl_0) rfl rfl fun b1 a w E ok=>qcH E ok rfl rfl rfl fun b2 a w E ok=>av E rfl fun a E=>av E rfl fun a E=>wpList_nil ?_
 refine qaa<|sg<|aw E rfl fun a E=>sg ?_
 refine ld E ok qhj 1 rfl rfl rfl fun a E=>lv E ok (qaH qbr hl_0 rfl) fun a E=>?_
 obtain ⟨l3,e4,hF⟩:=bnd hF
 refine qeV (R:=(pI .i64)) E ok qgx qib rfl (qdw (ir 0)) rfl e4 rfl rfl fun c5 M6 a w E ok h7=>qaR E ok qnO rfl rfl fun b8 a w E ok=>qae E ok 0 rfl rfl rfl qpk (ORow.cells h7) rfl ⟨(ORow.one h7),trivial⟩ rfl rfl fun w ok=>wn<|wp_seq<|sg ?_
 refine ld E ok qhj 3 rfl rfl rfl fun a E=>lv E ok (qaH qbr hl_0 rfl) fun a E=>mv E rfl fun a E=>wn<|wp_block ?_
 obtain ⟨M17,ok,h18⟩:=qdX (e:=52) (k:=4) (R:=qai) ok
 obtain ⟨o19,hL,hF⟩:=bnd hF
 refine qaI _ (fun (s:(List (Relation)) × Int × (List (Int))) a w=>∃ m20 c21 M22 c25 M26,m0.le m20 ∧ Ok u m20 (M22 :: [(b8,oc 104 [c25])] :: M26 :: [(b2,oc 108 [(Value.func (.func 88) #[] #[])])] :: [(b1,oc 64 [vl_0])] :: S) w ∧ Env 36 a [(2,vp b1),(3,vp b2),(6,c21),(7,vp b8),(13,vl_0),(14,(vi (l_0.length:Int))),(15,vi s.2.1)] ∧ ORow 52 4 qai m20 c21 s.1 M22 ∧ InR .i64 s.2.1 ∧ ORow 3 1 (pI .i64) m20 c25 s.2.2 M26) (fun (b:((List (Int)) × (List (Relation)))) e a w=>e = (.exit 0) ∧ ∃ m88 c89 M90 c92 M93,m0.le m88 ∧ Ok u m88 (M93 :: [(b8,oc 104 [c89])] :: M90 :: [(b2,oc 108 [(Value.func (.func 88) #[] #[])])] :: [(b1,oc 64 [vl_0])] :: S) w ∧ Env 36 a [(2,vp b1),(3,vp b2),(6,c92),(7,vp b8)] ∧ ORow 3 1 (pI .i64) m88 c89 b.1 M90 ∧ ORow 52 4 qai m88 c92 b.2 M93) ?_ ?_ N _ a w hL ⟨m0,(Value.slice none 0 0),M17,c5,M6,Mem.le.refl _,ok,E.keep [2,3,6,7,13,14,15],h18,(ir 0),h7⟩
 rotate_left
 ·intro e a w _ hO
  obtain ⟨rfl,m71,c72,M73,c75,M76,hle,ok,E,h74,h77⟩:=hO
  have le_m0:=le_m0.trans hle
  have hl_0:=(mL (mL (mL qad))).up hle hl_0
  refine qaK<|qaa<|sg<|mv E rfl fun a E=>?_
  obtain ⟨m78,hle,ok,hfz⟩:=(ok.frs 0 rfl).freeze
  have h79:=ORow.froz qad h77 hle hfz (by decide)
  have le_m0:=le_m0.trans hle
  have hl_0:=(mL (mL (mL qad))).up hle hl_0
  have h74:=ORow.up (mI .i64) hle h74
  obtain ⟨r80,e81,hF⟩:=bnd hF
  refine qag E qqh rfl (qhw N _ o19.2 h79 e81 hG hTb ok) rfl rfl ?_
  rintro _ w ⟨m82,c83,rfl,hle,ok,h84⟩
  have le_m0:=le_m0.trans hle
  have hl_0:=(mL (mL (mL qad))).up hle hl_0
  have h74:=ORow.up (mI .i64) hle h74
  have h79:=(mL qad).up hle h79
  refine ⟨_,rfl,fun a E=>?_⟩
  refine lv E ok (qbI (caps:=[.tmp 2,.tmp 7,.tmp 3]) rfl) fun a E=>?_
  obtain ⟨r85,e86,hF⟩:=bnd hF
  replace ok:Ok u m82 ([(b1,oc 64 [vl_0])] :: [(b8,oc 104 [c72])] :: M73 :: [(b2,oc 108 [(Value.func (.func 88) #[] #[])])] :: S) w:=(ok.pk 4 [3,0,1,2] rfl (by decide))
  refine qag E qqE rfl (qiI N _ r80 h84 l_0 hl_0 o19.1 h74 e86 hG ok) rfl rfl ?_
  rintro _ w ⟨⟨rfl,ok⟩,l87⟩
  refine ⟨_,rfl,fun a E=>?_⟩
  refine lw E (qam rfl rfl) fun a E=>lw E (qam rfl rfl) fun a E=>av E rfl fun a E=>aw E rfl fun a E=>wp_ret ?_
  exact fin hF ⟨(ok.drop.drop.drop.drop).down hb0 le_m0,E.d,⟨rv_t E rfl,rv_t E rfl,trivial⟩,l87⟩
 rintro ⟨all_28,x_29,x_30⟩ a w r ⟨m31,c32,M33,c36,M37,hle,ok,E,h34,r35,h38⟩ hF
 replace hF:qb5 N l_0 all_28 x_29 x_30 = some r:=hF
 unfold qb5 at hF
 have le_m0:=le_m0.trans hle
 have hl_0:=(mL (mL (mL qad))).up hle hl_0
 refine sg<|lw E (qaF rfl rfl) fun a E=>wn<|wp_seq<|cf E rfl hF (fun hc39 hF=>?_) fun hc39 hF=>?_
 rotate_left
 ·refine wp_exit<|qaB ?_
  obtain rfl:=sj hF
  exact so (⟨rfl,⟨m31,c36,M37,c32,M33,le_m0,ok,E.keep [2,3,6,7],h38,h34⟩⟩)
 refine wp_skip<|qaa<|wp_seq<|wp_block<|sg<|mv E rfl fun a E=>?_
 obtain ⟨x40,e41,hF⟩:=bnd hF
 obtain ⟨b42,o43,es44,hl45,rr46,at47,yy48⟩:=qaO qbr hl_0 e41 (P:=Tryz.prog) (X:=.tmp 13) (I:=.tmp 15) (kd:=.i64) (qak E rfl) (qak E rfl)
 obtain ⟨c49,rfl,h50⟩:=qcm rr46
 refine lv E ok (yy48 _ _) fun a E=>lv E ok (qap qdA rfl (qac.ro at47)) fun a E=>av E rfl fun a E=>aw E rfl fun a E=>sg ?_
 refine ld E ok qnq 1 rfl rfl rfl fun a E=>mv E rfl fun a E=>mv E rfl fun a E=>lv E ok (qhJ qbT h34 rfl) fun a E=>?_
 obtain ⟨x51,e52,hF⟩:=bnd hF
 obtain ⟨b53,o54,hp55,yy56⟩:=qdZ qgx h38 e52 (P:=Tryz.prog) (X:=.tmp 20) (I:=.tmp 21) (kd:=.i64) (qak E rfl) (qak E rfl)
 refine lv E ok (yy56 _ _) fun a E=>?_
 obtain ⟨l57,e58,hF⟩:=bnd hF
 refine qfR (R:=(pI .i64)) E ok 2 rfl h38 e52 hp55 rfl rfl qbO rfl rfl rfl ⟨rfl,trivial⟩ (qdw (ORow.InR h34)) e58 rfl fun M59 w ok h60=>wn<|qab<|mv E rfl fun a E=>mv E rfl fun a E=>?_
 obtain ⟨r61,e62,hF⟩:=bnd hF
 refine qag E qqf rfl (qhR N _ x40 h50 e62 hG ok) rfl rfl ?_
 rintro _ w ⟨m63,c64,rfl,hle,ok,h65⟩
 have le_m0:=le_m0.trans hle
 have hl_0:=(mL (mL (mL qad))).up hle hl_0
 have h34:=ORow.up qad hle h34
 have h50:=(mL (mL qad)).up hle h50
 have at47:=At.up hle at47
 have h60:=ORow.up (mI .i64) hle h60
 refine ⟨_,rfl,fun a E=>?_⟩
 obtain ⟨l66,e67,hF⟩:=bnd hF
 refine qek (R:=qai) E ok 0 qad qbT Tryz.underlying53 rfl h34 (qbX.ofL h65 ok) e67 ⟨_,qdS,rfl⟩ rfl rfl rfl rfl fun c68 M69 a w E ok h70=>av E rfl fun a E=>wpList_nil<|qal<|qaa<|qab<|lw E (qaD rfl rfl (InR.inc r35 (qaj hl_0) hc39)) fun a E=>mv E rfl fun a E=>?_
 refine wpList_nil ?_
 obtain rfl:=sj hF
 exact qau ⟨m63,c68,M69,c36,M59,le_m0,ok,E.keep [2,3,6,7,13,14,15],h70,(InR.inc r35 (qaj hl_0) hc39),h60⟩
def qoY (u:World) (m0:Mem) (S:Segs) (r:(List UInt8) × Bool × Int) (a:Act) (w:World):Prop :=
 Ok u m0 S w ∧ a.defers = [] ∧ RVs Tryz.prog a w [.t 2 (.string (bs r.1)),.t 3 (.bool r.2.1),.t 4 (.int .i64 r.2.2)] ∧ r.1.length ≤ LIMS ∧ InR .i64 r.2.2
theorem qpd (N:Nat) (vl_0:Value) (l_0:List (List (List (Relation)))) (hl_0:(pL 1 (pL 1 (pL 4 qai))) m0 [vl_0] l_0) {r:(List UInt8) × Bool × Int} (hF:qfi N l_0 = some r) (hG:Glob u) (hTb:Tab u) (ok:Ok u m0 S w) :
  Calls Tryz.prog 62 [vl_0].toArray w fun e w'=>(e = .returned (.tuple [(.string (bs r.1)),(.bool r.2.1),(.int .i64 r.2.2)].toArray) ∧ Ok u m0 S w') ∧ r.1.length ≤ LIMS ∧ InR .i64 r.2.2:=by
 unfold qfi at hF
 refine en (qoY u m0 S) r Tryz.func62 rfl rfl rfl (by rintro a w ⟨ok,hd,hrv,h0,h1⟩; exact qat [.t 2 (.string (bs r.1)),.t 3 (.bool r.2.1),.t 4 (.int .i64 r.2.2)] hd rfl hrv ⟨⟨rfl,ok⟩,h0,h1⟩) fun fin a E=>sg<|av E rfl fun a E=>av E rfl fun a E=>aw E rfl fun a E=>?_
 refine wp_seq<|sg<|mv E rfl fun a E=>?_
 obtain ⟨r1,e2,hF⟩:=bnd hF
 refine lc E qt1 rfl (qk1 N _ l_0 hl_0 e2 hG ok) fun w ok a E=>lw E (qaS rfl) fun a E=>wn<|cf E rfl hF (fun hc3 hF=>?_) fun hc3 hF=>?_
 ·refine sg<|av E rfl fun a E=>av E rfl fun a E=>aw E rfl fun a E=>wp_ret ?_
  refine qaf ?_
  exact fin hF ⟨ok,E.d,⟨rv_t E rfl,rv_t E rfl,rv_t E rfl,trivial⟩,(show ([]:List UInt8).length ≤ LIMS by decide),(ir 1)⟩
 refine wp_skip<|qaa<|sg<|mv E rfl fun a E=>?_
 obtain ⟨r4,e5,hF⟩:=bnd hF
 refine qag E qrH rfl (qmf N _ l_0 hl_0 e5 hG hTb ok) rfl rfl ?_
 rintro _ w ⟨⟨rfl,ok⟩,l6⟩
 refine ⟨_,rfl,fun a E=>?_⟩
 refine mv E rfl fun a E=>lw E (qam rfl rfl) fun a E=>lw E (qam rfl rfl) fun a E=>av E rfl fun a E=>aw E rfl fun a E=>wp_seq ?_
 refine qab<|mv E rfl fun a E=>mv E rfl fun a E=>lw E (qaS rfl) fun a E=>av E rfl fun a E=>av E rfl fun a E=>av E rfl fun a E=>wpList_nil ?_
 refine qaa<|wp_ret ?_
 exact fin hF ⟨ok,E.d,⟨rv_t E rfl,rv_t E rfl,rv_t E rfl,trivial⟩,l6,(ir 0)⟩
def qkI (u:World) (m0:Mem) (S:Segs) (r:Bool) (a:Act) (w:World):Prop :=
 Ok u m0 S w ∧ a.defers = [] ∧ RVs Tryz.prog a w [.t 2 (.bool r)]
theorem qkF (N:Nat) (vl_0:Value) (l_0:List (Bool)) (hl_0:(pL 1 pB) m0 [vl_0] l_0) {r:Bool} (hF:qdk N l_0 = some r) (hG:Glob u) (ok:Ok u m0 S w) :
  Calls Tryz.prog 89 [vl_0].toArray w fun e w'=>(e = .returned (.bool r) ∧ Ok u m0 S w'):=by
 unfold qdk at hF
 refine en (qkI u m0 S) r Tryz.func89 rfl rfl rfl (by rintro a w ⟨ok,hd,hrv⟩; exact qat [.t 2 (.bool r)] hd rfl hrv ⟨rfl,ok⟩) fun fin a E=>sg<|aw E rfl fun a E=>sg ?_
 refine mv E rfl fun a E=>?_
 obtain ⟨x1,e2,hF⟩:=bnd hF
 obtain ⟨b3,o4,es5,hl6,rr7,at8,yy9⟩:=qaO qhS hl_0 e2 (P:=Tryz.prog) (X:=.tmp 3) (I:=.const (vi 0)) (kd:=.i64) (qak E rfl) (qak E rfl)
 obtain rfl:=rr7
 refine lv E ok (yy9 _ _) fun a E=>lv E ok (qap qeQ rfl (qac.ro at8)) fun a E=>aw E rfl fun a E=>wp_ret ?_
 exact fin hF ⟨ok,E.d,⟨rv_t E rfl,trivial⟩⟩
def qjQ (u:World) (m0:Mem) (S:Segs) (pb0:Nat) (pb1:Nat) (pb2:Nat) (pb3:Nat) (pb4:Nat) (pb5:Nat) (x0:Option (Classes)) (c1:Value) (x1:Part) (x2:Part) (x3:List (List (List (Relation)))) (c7:Value) (x4:List (Int)) (c9:Value) (M10:List (Nat × Obj)) (r:Bool) (a:Act) (w:World):Prop :=
 Ok u m0 ([(pb0,oc 127 [c1])] :: [(pb1,oc 162 [vu x1.bits,vs x1.text])] :: [(pb2,oc 162 [vu x2.bits,vs x2.text])] :: [(pb3,oc 64 [c7])] :: [(pb4,oc 104 [c9])] :: M10 :: [(pb5,oc 108 [(Value.func (.func 89) #[] #[])])] :: S) w ∧ a.defers = [] ∧ RVs Tryz.prog a w [.t 5 (.bool r)]
theorem qhC (N:Nat) {pb0:Nat} {c1:Value} (x0:Option (Classes)) (h2:(pP 3 qeE) m0 [c1] x0) {pb1:Nat} (x1:Part) (r3:InR .u64 x1.bits) (l4:x1.text.length ≤ LIMS) {pb2:Nat} (x2:Part) (r5:InR .u64 x2.bits) (l6:x2.text.length ≤ LIMS) {pb3:Nat} {c7:Value} (x3:List (List (List (Relation)))) (h8:(pL 1 (pL 1 (pL 4 qai))) m0 [c7] x3) {pb4:Nat} {c9:Value} {M10:List (Nat × Obj)} (x4:List (Int)) (h11:ORow 3 1 (pI .i64) m0 c9 x4 M10) {pb5:Nat} {r:Bool} (hF:qdg N x0 x1 x2 x3 x4 = some r) (hG:Glob u) (ok:Ok u m0 ([(pb0,oc 127 [c1])] :: [(pb1,oc 162 [vu x1.bits,vs x1.text])] :: [(pb2,oc 162 [vu x2.bits,vs x2.text])] :: [(pb3,oc 64 [c7])] :: [(pb4,oc 104 [c9])] :: M10 :: [(pb5,oc 108 [(Value.func (.func 89) #[] #[])])] :: S) w) :
  Calls Tryz.prog 115 [Value.func (.func 148) #[] #[.pointer (some ⟨pb0,0,none⟩),.pointer (some ⟨pb1,0,none⟩),.pointer (some ⟨pb2,0,none⟩)],vp pb3,vp pb4,vp pb5].toArray w fun e w'=>(e = .returned (.bool r) ∧ Ok u m0 ([(pb0,oc 127 [c1])] :: [(pb1,oc 162 [vu x1.bits,vs x1.text])] :: [(pb2,oc 162 [vu x2.bits,vs x2.text])] :: [(pb3,oc 64 [c7])] :: [(pb4,oc 104 [c9])] :: M10 :: [(pb5,oc 108 [(Value.func (.func 89) #[] #[])])] :: S) w'):=by
 have le_m0:=Mem.le.refl m0
 unfold qdg at hF
 refine en (qjQ u m0 S pb0 pb1 pb2 pb3 pb4 pb5 x0 c1 x1 x2 x3 c7 x4 c9 M10) r Tryz.func115 rfl rfl rfl (by rintro a w ⟨ok,hd,hrv⟩; exact qat [.t 5 (.bool r)] hd rfl hrv ⟨rfl,ok⟩) fun fin a E=>sg<|qcH E ok rfl rfl rfl fun b12 a w E ok=>aw E rfl fun a E=>wp_seq ?_
 refine qab<|ld E ok qhj 4 rfl rfl rfl fun a E=>lv E ok (qaH qbr h8 rfl) fun a E=>?_
 obtain ⟨l13,e14,hF⟩:=bnd hF
 refine qeV (R:=pB) E ok qhS qqd rfl qks rfl e14 rfl rfl fun c15 M16 a w E ok h17=>aw E rfl fun a E=>wp_seq<|sg<|ld E ok qhj 5 rfl rfl rfl fun a E=>?_
 refine lv E ok (qaH qbr h8 rfl) fun a E=>mv E rfl fun a E=>wn<|wp_block ?_
 obtain ⟨o23,hL,hF⟩:=bnd hF
 refine qaI _ (fun (s:Int × (List (Bool))) a w=>∃ c25 M26,Ok u m0 (M26 :: [(b12,oc 130 [(Value.func (.func 148) #[] #[.pointer (some ⟨pb0,0,none⟩),.pointer (some ⟨pb1,0,none⟩),.pointer (some ⟨pb2,0,none⟩)])])] :: [(pb0,oc 127 [c1])] :: [(pb1,oc 162 [vu x1.bits,vs x1.text])] :: [(pb2,oc 162 [vu x2.bits,vs x2.text])] :: [(pb3,oc 64 [c7])] :: [(pb4,oc 104 [c9])] :: M10 :: [(pb5,oc 108 [(Value.func (.func 89) #[] #[])])] :: S) w ∧ Env 29 a [(2,vp pb4),(3,vp pb5),(4,vp b12),(6,c25),(12,c7),(13,(vi (x3.length:Int))),(14,vi s.1)] ∧ InR .i64 s.1 ∧ ORow 4 1 pB m0 c25 s.2 M26) (fun (b:((List (Bool)))) e a w=>e = (.exit 0) ∧ ∃ c82 M83,Ok u m0 (M83 :: [(b12,oc 130 [(Value.func (.func 148) #[] #[.pointer (some ⟨pb0,0,none⟩),.pointer (some ⟨pb1,0,none⟩),.pointer (some ⟨pb2,0,none⟩)])])] :: [(pb0,oc 127 [c1])] :: [(pb1,oc 162 [vu x1.bits,vs x1.text])] :: [(pb2,oc 162 [vu x2.bits,vs x2.text])] :: [(pb3,oc 64 [c7])] :: [(pb4,oc 104 [c9])] :: M10 :: [(pb5,oc 108 [(Value.func (.func 89) #[] #[])])] :: S) w ∧ Env 29 a [(3,vp pb5),(6,c82)] ∧ ORow 4 1 pB m0 c82 b M83) ?_ ?_ N _ a w hL ⟨c15,M16,ok,E.keep [2,3,4,6,12,13,14],(ir 0),h17⟩
 rotate_left
 ·intro e a w _ hO
  obtain ⟨rfl,c72,M73,ok,E,h74⟩:=hO
  refine qaK<|qaa<|sg<|ld E ok qoV 8 rfl rfl rfl fun a E=>mv E rfl fun a E=>?_
  obtain ⟨r80,e81,hF⟩:=bnd hF
  obtain ⟨m75,hle77,ok76,hfz78⟩:=(ok.frs 0 rfl).freeze
  have h79:=ORow.froz mB h74 hle77 hfz78 (by decide)
  refine qjW E rfl qwE rfl (qkF N _ o23 h79 e81 hG ok76) rfl rfl ?_
  rintro _ w ⟨rfl,okz⟩
  replace ok:=(Ok.thawAt 0 rfl ok hle77 hfz78 okz)
  refine ⟨_,rfl,fun a E=>?_⟩
  refine aw E rfl fun a E=>wp_ret ?_
  exact fin hF ⟨ok.drop.drop,E.d,⟨rv_t E rfl,trivial⟩⟩
 rintro ⟨x_28,conds_29⟩ a w r ⟨c31,M32,ok,E,r30,h33⟩ hF
 replace hF:qbw N x0 x1 x2 x3 x4 x_28 conds_29 = some r:=hF
 unfold qbw at hF
 refine sg<|lw E (qaF rfl rfl) fun a E=>wn<|wp_seq<|cf E rfl hF (fun hc34 hF=>?_) fun hc34 hF=>?_
 rotate_left
 ·refine wp_exit<|qaB ?_
  obtain rfl:=sj hF
  exact so (⟨rfl,⟨c31,M32,ok,E.keep [3,6],h33⟩⟩)
 refine wp_skip<|qaa<|wp_seq<|wp_block<|sg<|mv E rfl fun a E=>?_
 obtain ⟨x35,e36,hF⟩:=bnd hF
 obtain ⟨b37,o38,es39,hl40,rr41,at42,yy43⟩:=qaO qbr h8 e36 (P:=Tryz.prog) (X:=.tmp 12) (I:=.tmp 14) (kd:=.i64) (qak E rfl) (qak E rfl)
 obtain ⟨c44,rfl,h45⟩:=qcm rr41
 refine lv E ok (yy43 _ _) fun a E=>lv E ok (qap qdA rfl (qac.ro at42)) fun a E=>qaR E ok qib rfl rfl fun b46 a w E ok=>qae E ok 0 rfl rfl rfl qbO rfl rfl ⟨rfl,trivial⟩ rfl rfl fun w ok=>aw E rfl fun a E=>?_
 obtain ⟨o47,hJ,hF⟩:=bnd hF
 refine qaV (Q':=fun e a w=>e = .normal ∧ ∃ c48 M49,Ok u m0 ([(b46,oc 3 [vi x_28])] :: M49 :: [(b12,oc 130 [(Value.func (.func 148) #[] #[.pointer (some ⟨pb0,0,none⟩),.pointer (some ⟨pb1,0,none⟩),.pointer (some ⟨pb2,0,none⟩)])])] :: [(pb0,oc 127 [c1])] :: [(pb1,oc 162 [vu x1.bits,vs x1.text])] :: [(pb2,oc 162 [vu x2.bits,vs x2.text])] :: [(pb3,oc 64 [c7])] :: [(pb4,oc 104 [c9])] :: M10 :: [(pb5,oc 108 [(Value.func (.func 89) #[] #[])])] :: S) w ∧ Env 29 a [(2,vp pb4),(3,vp pb5),(4,vp b12),(6,c48),(12,c7),(13,(vi (x3.length:Int))),(14,vi x_28)] ∧ ORow 4 1 pB m0 c48 o47 M49) ?_ ?_
 rotate_left
 ·clear hJ
  intro e a w hO
  obtain ⟨rfl,c69,M70,ok,E,h71⟩:=hO
  refine qal<|qaa<|qab<|lw E (qaD rfl rfl (InR.inc r30 (qaj h8) hc34)) fun a E=>mv E rfl fun a E=>wpList_nil ?_
  obtain rfl:=sj hF
  exact qau ⟨c69,M70,(ok.pk 10 [1,2,3,4,5,6,7,8,9] rfl (by decide)),E.keep [2,3,4,6,12,13,14],(InR.inc r30 (qaj h8) hc34),h71⟩
 replace hF:=hJ
 clear hJ
 obtain ⟨r51,e52,hF⟩:=bnd hF
 obtain ⟨x53,e54,hF⟩:=bnd hF
 obtain ⟨l59,e60,hF⟩:=bnd hF
 obtain rfl:=sj hF
 refine qbG [] (Cls u m0 ([(b46,oc 3 [vi x_28])] :: [(b12,oc 130 [(Value.func (.func 148) #[] #[.pointer (some ⟨pb0,0,none⟩),.pointer (some ⟨pb1,0,none⟩),.pointer (some ⟨pb2,0,none⟩)])])] :: [(pb0,oc 127 [c1])] :: [(pb1,oc 162 [vu x1.bits,vs x1.text])] :: [(pb2,oc 162 [vu x2.bits,vs x2.text])] :: [(pb3,oc 64 [c7])] :: [(pb4,oc 104 [c9])] :: M10 :: [(pb5,oc 108 [(Value.func (.func 89) #[] #[])])] :: [])) (Cls u m0 ([(b46,oc 3 [vi x_28])] :: [(b12,oc 130 [(Value.func (.func 148) #[] #[.pointer (some ⟨pb0,0,none⟩),.pointer (some ⟨pb1,0,none⟩),.pointer (some ⟨pb2,0,none⟩)])])] :: [(pb0,oc 127 [c1])] :: [(pb1,oc 162 [vu x1.bits,vs x1.text])] :: [(pb2,oc 162 [vu x2.bits,vs x2.text])] :: [(pb3,oc 64 [c7])] :: [(pb4,oc 104 [c9])] :: M10 :: [(pb5,oc 108 [(Value.func (.func 89) #[] #[])])] :: [])) (by kernel_rfl) ?_
 intro w hw
 replace ok:=qce ok hw
 clear hw
 refine qaA (cl1 (cq le_m0 ok [0,2,3,4,5,6,7,8,9] rfl) (cq le_m0 ok [0,2,3,4,5,6,7,8,9] rfl)) fun hT=>kt 0 E rfl hT (qah rfl) fun a E=>kt 1 E rfl hT (qap qaC rfl (qac.cown 0 rfl rfl)) fun a E=>kt 2 E rfl hT (qah rfl) fun a E=>kt 3 E rfl hT (qbI (caps:=[.tmp 4,.tmp 2,.tmp 7]) rfl) fun a E=>qaP [4] (by kernel_rfl) rfl (qaU ?_)
 ·refine qcA (o:=_) rfl ?_
  replace ok:Ok u m0 ([(b12,oc 130 [(Value.func (.func 148) #[] #[.pointer (some ⟨pb0,0,none⟩),.pointer (some ⟨pb1,0,none⟩),.pointer (some ⟨pb2,0,none⟩)])])] :: [(pb4,oc 104 [c9])] :: M10 :: [(b46,oc 3 [vi x_28])] :: [(pb0,oc 127 [c1])] :: [(pb1,oc 162 [vu x1.bits,vs x1.text])] :: [(pb2,oc 162 [vu x2.bits,vs x2.text])] :: M32 :: [(pb3,oc 64 [c7])] :: [(pb5,oc 108 [(Value.func (.func 89) #[] #[])])] :: S) w:=(ok.pk 10 [2,7,8,0,3,4,5,1,6,9] rfl (by decide))
  refine lc E qp8 rfl (qhv N _ x35 h45 x4 h11 x_28 r30 x0 h2 x1 r3 l4 x2 r5 l6 e52 hG ok) fun w ok a E=>wn<|qaA (cl1 (cq le_m0 ok [3,0,4,5,6,8,1,2,9] rfl) (cq le_m0 ok [3,0,4,5,6,8,1,2,9] rfl)) fun hT=>?_
  obtain ⟨b63,o64,hp65,yy66⟩:=qdZ qhS h33 e54 (P:=Tryz.prog) (X:=.tmp 19) (I:=.tmp 20) (kd:=.i64) (qak E rfl) (qak E rfl)
  refine kt 5 E rfl hT (yy66 _ _) fun a E=>qaP [6] (by kernel_rfl) rfl (qaU ?_)
  ·refine wo rfl<|qfR (R:=pB) E ok 7 rfl h33 e54 hp65 rfl rfl qnf rfl rfl rfl ⟨rfl,trivial⟩ qks e60 rfl fun M67 w ok h68=>wn<|qaA (cl1 (cq le_m0 ok [3,0,4,5,6,8,1,2,9] rfl) (cq le_m0 ok [3,0,4,5,6,8,1,2,9] rfl)) fun hT=>qbg (by kernel_rfl) ?_
   exact ⟨rfl,⟨c31,M67,(ok.pk 10 [3,7,0,4,5,6,8,1,2,9] rfl (by decide)),E.keep [2,3,4,6,12,13,14],h68⟩⟩
def qiw (u:World) (m0:Mem) (S:Segs) (pb0:Nat) (pb1:Nat) (pb2:Nat) (x0:List (List (List (Relation)))) (c1:Value) (x1:List (Int)) (c3:Value) (M4:List (Nat × Obj)) (r:(List UInt8) × Bool) (a:Act) (w:World):Prop :=
 Ok u m0 ([(pb0,oc 64 [c1])] :: [(pb1,oc 104 [c3])] :: M4 :: [(pb2,oc 108 [(Value.func (.func 89) #[] #[])])] :: S) w ∧ a.defers = [] ∧ RVs Tryz.prog a w [.t 4 (.string (bs r.1)),.t 5 (.bool r.2)] ∧ r.1.length ≤ LIMS
theorem qiy (N:Nat) (vx_0:Value) (x_0:Option (Classes)) (hx_0:(pP 3 qeE) m0 [vx_0] x_0) {pb0:Nat} {c1:Value} (x0:List (List (List (Relation)))) (h2:(pL 1 (pL 1 (pL 4 qai))) m0 [c1] x0) {pb1:Nat} {c3:Value} {M4:List (Nat × Obj)} (x1:List (Int)) (h5:ORow 3 1 (pI .i64) m0 c3 x1 M4) {pb2:Nat} {r:(List UInt8) × Bool} (hF:qcU N x_0 x0 x1 = some r) (hG:Glob u) (ok:Ok u m0 ([(pb0,oc 64 [c1])] :: [(pb1,oc 104 [c3])] :: M4 :: [(pb2,oc 108 [(Value.func (.func 89) #[] #[])])] :: S) w) :
  Calls Tryz.prog 114 [vx_0,Value.func (.func 115) #[] #[.pointer (some ⟨pb0,0,none⟩),.pointer (some ⟨pb1,0,none⟩),.pointer (some ⟨pb2,0,none⟩)]].toArray w fun e w'=>(e = .returned (.tuple [(.string (bs r.1)),(.bool r.2)].toArray) ∧ Ok u m0 ([(pb0,oc 64 [c1])] :: [(pb1,oc 104 [c3])] :: M4 :: [(pb2,oc 108 [(Value.func (.func 89) #[] #[])])] :: S) w') ∧ r.1.length ≤ LIMS:=by
 unfold qcU at hF
 refine en (qiw u m0 S pb0 pb1 pb2 x0 c1 x1 c3 M4) r Tryz.func114 rfl rfl rfl (by rintro a w ⟨ok,hd,hrv,h0⟩; exact qat [.t 4 (.string (bs r.1)),.t 5 (.bool r.2)] hd rfl hrv ⟨⟨rfl,ok⟩,h0⟩) fun fin a E=>sg<|qj0 (cs:=[vx_0]) E ok rfl (qnZ hx_0) rfl rfl fun b6 a w E ok=>av E rfl fun a E=>aw E rfl fun a E=>?_
 refine sg<|av E rfl fun a E=>aw E rfl fun a E=>wp_seq<|wp_seq ?_
 refine qab<|ld E ok qi9 0 rfl rfl rfl fun a E=>?_
 obtain ⟨y7,e8,hF⟩:=bnd hF
 obtain ⟨b9,o10,es11,hv12,hl13,hR14,at15⟩:=qjd hx_0 e8
 obtain ⟨c16,c18,c20,rfl,h17,h19,h21⟩:=hR14
 refine lv E ok (qgA hv12 rfl) fun a E=>fv E qj6 rfl fun a E=>lv E ok (qap qij rfl (qac.ro (At.sub 1 1 at15))) fun a E=>lv E ok (qaH qfM h19 rfl) fun a E=>mv E rfl fun a E=>wn<|wp_block ?_
 obtain ⟨o24,hL,hF⟩:=bnd hF
 refine qaI _ (fun (s:(List UInt8) × Bool × Int) a w=>Ok u m0 ([(b6,oc 127 [vx_0])] :: [(pb0,oc 64 [c1])] :: [(pb1,oc 104 [c3])] :: M4 :: [(pb2,oc 108 [(Value.func (.func 89) #[] #[])])] :: S) w ∧ Env 58 a [(1,(Value.func (.func 115) #[] #[.pointer (some ⟨pb0,0,none⟩),.pointer (some ⟨pb1,0,none⟩),.pointer (some ⟨pb2,0,none⟩)])),(2,vp b6),(6,vs s.1),(7,vb s.2.1),(16,c18),(17,(vi (y7.wholes.length:Int))),(18,vi s.2.2)] ∧ s.1.length ≤ LIMS ∧ InR .i64 s.2.2) (fun (b:((List UInt8) × Bool)) e a w=>e = (.exit 0) ∧ Ok u m0 ([(b6,oc 127 [vx_0])] :: [(pb0,oc 64 [c1])] :: [(pb1,oc 104 [c3])] :: M4 :: [(pb2,oc 108 [(Value.func (.func 89) #[] #[])])] :: S) w ∧ Env 58 a [(6,vs b.1),(7,vb b.2)] ∧ b.1.length ≤ LIMS) ?_ ?_ N _ a w hL ⟨ok,E.keep [1,2,6,7,16,17,18],(show ([]:List UInt8).length ≤ LIMS by decide),(ir 0)⟩
 rotate_left
 ·intro e a w _ hO
  obtain ⟨rfl,ok,E,l103⟩:=hO
  refine qaK<|qaa<|sg<|mv E rfl fun a E=>mv E rfl fun a E=>av E rfl fun a E=>av E rfl fun a E=>?_
  refine wn<|wp_ret ?_
  exact fin hF ⟨ok.drop,E.d,⟨rv_t E rfl,rv_t E rfl,trivial⟩,l103⟩
 rintro ⟨found_27,ok_28,x_29⟩ a w r ⟨ok,E,l30,r31⟩ hF
 replace hF:qbK N x_0 x0 x1 y7 found_27 ok_28 x_29 = some r:=hF
 unfold qbK at hF
 refine sg<|lw E (qaF rfl rfl) fun a E=>wn<|wp_seq<|cf E rfl hF (fun hc32 hF=>?_) fun hc32 hF=>?_
 rotate_left
 ·refine wp_exit<|qaB ?_
  obtain rfl:=sj hF
  exact so (⟨rfl,⟨ok,E.keep [6,7],l30⟩⟩)
 refine wp_skip<|qaa<|wp_seq<|wp_block<|sg ?_
 obtain ⟨x33,e34,hF⟩:=bnd hF
 obtain ⟨b35,o36,es37,hl38,rr39,at40,yy41⟩:=qaO qfM h19 e34 (P:=Tryz.prog) (X:=.tmp 16) (I:=.tmp 18) (kd:=.i64) (qak E rfl) (qak E rfl)
 obtain ⟨rfl,r42,l43⟩:=rr39
 refine lv E ok (yy41 _ _) fun a E=>lv E ok (qao (cs:=[vu x33.bits,vs x33.text]) qhl rfl rfl (qac.ro at40)) fun a E=>qaR E ok qf6 rfl rfl fun b44 a w E ok=>qae E ok 0 rfl rfl rfl qi5 rfl rfl ⟨rfl,rfl,trivial⟩ rfl rfl fun w ok=>wn<|sg ?_
 refine ld E ok qi9 1 rfl rfl rfl fun a E=>?_
 obtain ⟨y45,e46,hF⟩:=bnd hF
 obtain ⟨b47,o48,es49,hv50,hl51,hR52,at53⟩:=qjd hx_0 e46
 obtain ⟨c54,c56,c58,rfl,h55,h57,h59⟩:=hR52
 refine lv E ok (qgA hv50 rfl) fun a E=>fv E qkj rfl fun a E=>lv E ok (qap qij rfl (qac.ro (At.sub 2 1 at53))) fun a E=>lv E ok (qaH qfM h59 rfl) fun a E=>mv E rfl fun a E=>wn<|wp_block ?_
 obtain ⟨o62,hL,hF⟩:=bnd hF
 refine qaI _ (fun (s:(List UInt8) × Bool × Int) a w=>Ok u m0 ([(b44,oc 162 [vu x33.bits,vs x33.text])] :: [(b6,oc 127 [vx_0])] :: [(pb0,oc 64 [c1])] :: [(pb1,oc 104 [c3])] :: M4 :: [(pb2,oc 108 [(Value.func (.func 89) #[] #[])])] :: S) w ∧ Env 58 a [(1,(Value.func (.func 115) #[] #[.pointer (some ⟨pb0,0,none⟩),.pointer (some ⟨pb1,0,none⟩),.pointer (some ⟨pb2,0,none⟩)])),(2,vp b6),(6,vs s.1),(7,vb s.2.1),(9,vp b44),(16,c18),(17,(vi (y7.wholes.length:Int))),(18,vi x_29),(25,c58),(26,(vi (y45.fraction.length:Int))),(27,vi s.2.2)] ∧ s.1.length ≤ LIMS ∧ InR .i64 s.2.2) (fun (b:((List UInt8) × Bool)) e a w=>e = (.exit 2) ∧ Ok u m0 ([(b44,oc 162 [vu x33.bits,vs x33.text])] :: [(b6,oc 127 [vx_0])] :: [(pb0,oc 64 [c1])] :: [(pb1,oc 104 [c3])] :: M4 :: [(pb2,oc 108 [(Value.func (.func 89) #[] #[])])] :: S) w ∧ Env 58 a [(1,(Value.func (.func 115) #[] #[.pointer (some ⟨pb0,0,none⟩),.pointer (some ⟨pb1,0,none⟩),.pointer (some ⟨pb2,0,none⟩)])),(2,vp b6),(6,vs b.1),(7,vb b.2),(16,c18),(17,(vi (y7.wholes.length:Int))),(18,vi x_29)] ∧ b.1.length ≤ LIMS) ?_ ?_ N _ a w hL ⟨ok,E.keep [1,2,6,7,9,16,17,18,25,26,27],l30,(ir 0)⟩
 rotate_left
 ·intro e a w _ hO
  obtain ⟨rfl,ok,E,l101⟩:=hO
  refine qaK<|qal<|qaa<|qab<|lw E (qaD rfl rfl (InR.inc r31 (qaj h19) hc32)) fun a E=>mv E rfl fun a E=>wpList_nil ?_
  obtain rfl:=sj hF
  exact qau ⟨(ok.pk 6 [1,2,3,4,5] rfl (by decide)),E.keep [1,2,6,7,16,17,18],l101,(InR.inc r31 (qaj h19) hc32)⟩
 rintro ⟨found_65,ok_66,x_67⟩ a w r ⟨ok,E,l68,r69⟩ hF
 replace hF:qbi N x_0 x0 x1 x33 y45 found_65 ok_66 x_67 = some r:=hF
 unfold qbi at hF
 refine sg<|lw E (qaF rfl rfl) fun a E=>wn<|wp_seq<|cf E rfl hF (fun hc70 hF=>?_) fun hc70 hF=>?_
 rotate_left
 ·refine wp_exit<|qaB ?_
  obtain rfl:=sj hF
  exact so (⟨rfl,⟨ok,E.keep [1,2,6,7,16,17,18],l68⟩⟩)
 refine wp_skip<|qaa<|wp_seq<|wp_block<|sg ?_
 obtain ⟨x71,e72,hF⟩:=bnd hF
 obtain ⟨b73,o74,es75,hl76,rr77,at78,yy79⟩:=qaO qfM h59 e72 (P:=Tryz.prog) (X:=.tmp 25) (I:=.tmp 27) (kd:=.i64) (qak E rfl) (qak E rfl)
 obtain ⟨rfl,r80,l81⟩:=rr77
 refine lv E ok (yy79 _ _) fun a E=>lv E ok (qao (cs:=[vu x71.bits,vs x71.text]) qhl rfl rfl (qac.ro at78)) fun a E=>qaR E ok qf6 rfl rfl fun b82 a w E ok=>qae E ok 0 rfl rfl rfl qi5 rfl rfl ⟨rfl,rfl,trivial⟩ rfl rfl fun w ok=>wn<|sg ?_
 refine fv E qga rfl fun a E=>ld E ok qaN 1 rfl rfl rfl fun a E=>aw E rfl fun a E=>wp_seq<|sg ?_
 refine fv E qga rfl fun a E=>ld E ok qaN 0 rfl rfl rfl fun a E=>lw E (qkc rfl rfl) fun a E=>wn ?_
 obtain ⟨o83,hJ,hF⟩:=bnd hF
 refine qaV (Q':=fun e a w=>e = .normal ∧ Ok u m0 ([(b82,oc 162 [vu x71.bits,vs x71.text])] :: [(b44,oc 162 [vu x33.bits,vs x33.text])] :: [(b6,oc 127 [vx_0])] :: [(pb0,oc 64 [c1])] :: [(pb1,oc 104 [c3])] :: M4 :: [(pb2,oc 108 [(Value.func (.func 89) #[] #[])])] :: S) w ∧ Env 58 a [(1,(Value.func (.func 115) #[] #[.pointer (some ⟨pb0,0,none⟩),.pointer (some ⟨pb1,0,none⟩),.pointer (some ⟨pb2,0,none⟩)])),(2,vp b6),(6,vs found_65),(7,vb ok_66),(9,vp b44),(11,vp b82),(12,vs o83),(16,c18),(17,(vi (y7.wholes.length:Int))),(18,vi x_29),(25,c58),(26,(vi (y45.fraction.length:Int))),(27,vi x_67)] ∧ o83.length ≤ LIMS) ?_ ?_
 ·replace hF:=hJ
  clear hJ
  refine cf E rfl hF (fun hc85 hF=>?_) fun hc85 hF=>?_
  rotate_left
  ·refine wp_skip ?_
   obtain rfl:=sj hF
   exact ⟨rfl,⟨ok,E.keep [1,2,6,7,9,11,12,16,17,18,25,26,27],l43⟩⟩
  refine qab<|mv E rfl fun a E=>fv E qga rfl fun a E=>ld E ok qaN 0 rfl rfl rfl fun a E=>?_
  obtain ⟨s86,e87,hF⟩:=bnd hF
  refine lw E (qcd rfl rfl e87) fun a E=>?_
  obtain ⟨s88,e89,hF⟩:=bnd hF
  refine lw E (qcd rfl rfl e89) fun a E=>av E rfl fun a E=>wpList_nil ?_
  obtain rfl:=sj hF
  exact ⟨rfl,⟨ok,E.keep [1,2,6,7,9,11,12,16,17,18,25,26,27],(qbt e89)⟩⟩
 clear hJ
 intro e a w hO
 obtain ⟨rfl,ok,E,l90⟩:=hO
 refine qaa<|sg<|mv E rfl fun a E=>lw E (qaS rfl) fun a E=>mv E rfl fun a E=>qav (!ok_66) (fun hc91=>?_) (fun hc91=>?_)
 ·replace hF:=qas hc91 hF
  replace E:=E.upd 43 hc91 rfl
  refine ls E fun a E=>ls E fun a E=>ls E fun a E=>pt E rfl rfl fun a E=>mv E rfl fun a E=>mv E rfl fun a E=>lv E ok (qbI (caps:=[.tmp 2,.tmp 9,.tmp 11]) rfl) fun a E=>?_
  obtain ⟨r92,e93,hF⟩:=bnd hF
  replace ok:Ok u m0 ([(b6,oc 127 [vx_0])] :: [(b44,oc 162 [vu x33.bits,vs x33.text])] :: [(b82,oc 162 [vu x71.bits,vs x71.text])] :: [(pb0,oc 64 [c1])] :: [(pb1,oc 104 [c3])] :: M4 :: [(pb2,oc 108 [(Value.func (.func 89) #[] #[])])] :: S) w:=(ok.pk 7 [2,1,0,3,4,5,6] rfl (by decide))
  refine qcc E rfl qk9 rfl (qhC N x_0 hx_0 x33 r42 l43 x71 r80 l81 x0 h2 x1 h5 e93 hG ok) rfl rfl ?_
  rintro _ w ⟨rfl,ok⟩
  refine ⟨_,rfl,fun a E=>?_⟩
  refine pt E rfl rfl fun a E=>wn<|cf E rfl hF (fun hc94 hF=>?_) fun hc94 hF=>?_
  rotate_left
  ·refine wp_skip<|qal<|qaa<|qab<|lw E (qaD rfl rfl (InR.inc r69 (qaj h59) hc70)) fun a E=>mv E rfl fun a E=>wpList_nil ?_
   obtain rfl:=sj hF
   exact qau ⟨(ok.pk 7 [1,0,3,4,5,6] rfl (by decide)),E.keep [1,2,6,7,9,16,17,18,25,26,27],l68,(InR.inc r69 (qaj h59) hc70)⟩
  refine qab<|mv E rfl fun a E=>av E rfl fun a E=>av E rfl fun a E=>wpList_nil<|qal<|qaa<|qab ?_
  refine lw E (qaD rfl rfl (InR.inc r69 (qaj h59) hc70)) fun a E=>mv E rfl fun a E=>wpList_nil ?_
  obtain rfl:=sj hF
  exact qau ⟨(ok.pk 7 [1,0,3,4,5,6] rfl (by decide)),E.keep [1,2,6,7,9,16,17,18,25,26,27],l90,(InR.inc r69 (qaj h59) hc70)⟩
 replace hF:=qar hc91 hF
 replace E:=E.upd 43 hc91 rfl
 refine mv E rfl fun a E=>mv E rfl fun a E=>?_
 obtain ⟨r95,e96,hF⟩:=bnd hF
 refine lc E qqj rfl (qiO N o83 l90 found_65 l68 e96 hG ok) fun w ok a E=>pf E rfl rfl fun a E=>mv E rfl fun a E=>qav r95 (fun hc97=>?_) (fun hc97=>?_)
 rotate_left
 ·replace hF:=qar hc97 hF
  replace E:=E.upd 48 hc97 rfl
  refine ls E fun a E=>ls E fun a E=>ls E fun a E=>pf E rfl rfl fun a E=>wn<|c_if E rfl (fun h=>by cases h) (fun _=>?_)
  refine wp_skip<|qal<|qaa<|qab<|lw E (qaD rfl rfl (InR.inc r69 (qaj h59) hc70)) fun a E=>mv E rfl fun a E=>wpList_nil ?_
  obtain rfl:=sj hF
  exact qau ⟨(ok.pk 7 [1,2,3,4,5,6] rfl (by decide)),E.keep [1,2,6,7,9,16,17,18,25,26,27],l68,(InR.inc r69 (qaj h59) hc70)⟩
 replace hF:=qas hc97 hF
 replace E:=E.upd 48 hc97 rfl
 refine mv E rfl fun a E=>lv E ok (qbI (caps:=[.tmp 2,.tmp 9,.tmp 11]) rfl) fun a E=>?_
 obtain ⟨r98,e99,hF⟩:=bnd hF
 replace ok:Ok u m0 ([(b6,oc 127 [vx_0])] :: [(b44,oc 162 [vu x33.bits,vs x33.text])] :: [(b82,oc 162 [vu x71.bits,vs x71.text])] :: [(pb0,oc 64 [c1])] :: [(pb1,oc 104 [c3])] :: M4 :: [(pb2,oc 108 [(Value.func (.func 89) #[] #[])])] :: S) w:=(ok.pk 7 [2,1,0,3,4,5,6] rfl (by decide))
 refine qcc E rfl qk9 rfl (qhC N x_0 hx_0 x33 r42 l43 x71 r80 l81 x0 h2 x1 h5 e99 hG ok) rfl rfl ?_
 rintro _ w ⟨rfl,ok⟩
 refine ⟨_,rfl,fun a E=>?_⟩
 refine pt E rfl rfl fun a E=>wn<|cf E rfl hF (fun hc100 hF=>?_) fun hc100 hF=>?_
 rotate_left
 ·refine wp_skip<|qal<|qaa<|qab<|lw E (qaD rfl rfl (InR.inc r69 (qaj h59) hc70)) fun a E=>mv E rfl fun a E=>wpList_nil ?_
  obtain rfl:=sj hF
  exact qau ⟨(ok.pk 7 [1,0,3,4,5,6] rfl (by decide)),E.keep [1,2,6,7,9,16,17,18,25,26,27],l68,(InR.inc r69 (qaj h59) hc70)⟩
 refine qab<|mv E rfl fun a E=>av E rfl fun a E=>av E rfl fun a E=>wpList_nil<|qal<|qaa<|qab ?_
 refine lw E (qaD rfl rfl (InR.inc r69 (qaj h59) hc70)) fun a E=>mv E rfl fun a E=>wpList_nil ?_
 obtain rfl:=sj hF
 exact qau ⟨(ok.pk 7 [1,0,3,4,5,6] rfl (by decide)),E.keep [1,2,6,7,9,16,17,18,25,26,27],l90,(InR.inc r69 (qaj h59) hc70)⟩
def qmA (u:World) (m0:Mem) (S:Segs) (r:(List UInt8) × Bool) (a:Act) (w:World):Prop :=
 Ok u m0 S w ∧ a.defers = [] ∧ RVs Tryz.prog a w [.t 4 (.string (bs r.1)),.t 5 (.bool r.2)] ∧ r.1.length ≤ LIMS
theorem ql7 (N:Nat) (vl_0:Value) (l_0:List (List (List (Relation)))) (hl_0:(pL 1 (pL 1 (pL 4 qai))) m0 [vl_0] l_0) {r:(List UInt8) × Bool} (hF:qfJ N l_0 = some r) (hG:Glob u) (hTb:Tab u) (ok:Ok u m0 S w) :
  Calls Tryz.prog 86 [vl_0,.func (.func 89) #[] #[]].toArray w fun e w'=>(e = .returned (.tuple [(.string (bs r.1)),(.bool r.2)].toArray) ∧ Ok u m0 S w') ∧ r.1.length ≤ LIMS:=by
 have hb0:=ok.base
 have le_m0:=Mem.le.refl m0
 unfold qfJ at hF
 refine en (qmA u m0 S) r Tryz.func86 rfl rfl rfl (by rintro a w ⟨ok,hd,hrv,h0⟩; exact qat [.t 4 (.string (bs r.1)),.t 5 (.bool r.2)] hd rfl hrv ⟨⟨rfl,ok⟩,h0⟩) fun fin a E=>sg<|qj0 (cs:=[vl_0]) E ok rfl (qcY hl_0) rfl rfl fun b1 a w E ok=>qcH E ok rfl rfl rfl fun b2 a w E ok=>av E rfl fun a E=>av E rfl fun a E=>wpList_nil ?_
 refine qaa<|sg<|aw E rfl fun a E=>sg ?_
 refine ld E ok qhj 1 rfl rfl rfl fun a E=>lv E ok (qaH qbr hl_0 rfl) fun a E=>?_
 obtain ⟨l3,e4,hF⟩:=bnd hF
 refine qeV (R:=(pI .i64)) E ok qgx qib rfl (qdw (ir 0)) rfl e4 rfl rfl fun c5 M6 a w E ok h7=>qaR E ok qnO rfl rfl fun b8 a w E ok=>qae E ok 0 rfl rfl rfl qpk (ORow.cells h7) rfl ⟨(ORow.one h7),trivial⟩ rfl rfl fun w ok=>wn<|wp_seq<|sg ?_
 refine ld E ok qhj 3 rfl rfl rfl fun a E=>lv E ok (qaH qbr hl_0 rfl) fun a E=>mv E rfl fun a E=>wn<|wp_block ?_
 obtain ⟨M17,ok,h18⟩:=qdX (e:=52) (k:=4) (R:=qai) ok
 obtain ⟨o19,hL,hF⟩:=bnd hF
 refine qaI _ (fun (s:(List (Relation)) × Int × (List (Int))) a w=>∃ m20 c21 M22 c25 M26,m0.le m20 ∧ Ok u m20 (M22 :: [(b8,oc 104 [c25])] :: M26 :: [(b2,oc 108 [(Value.func (.func 89) #[] #[])])] :: [(b1,oc 64 [vl_0])] :: S) w ∧ Env 36 a [(2,vp b1),(3,vp b2),(6,c21),(7,vp b8),(13,vl_0),(14,(vi (l_0.length:Int))),(15,vi s.2.1)] ∧ ORow 52 4 qai m20 c21 s.1 M22 ∧ InR .i64 s.2.1 ∧ ORow 3 1 (pI .i64) m20 c25 s.2.2 M26) (fun (b:((List (Int)) × (List (Relation)))) e a w=>e = (.exit 0) ∧ ∃ m88 c89 M90 c92 M93,m0.le m88 ∧ Ok u m88 (M93 :: [(b8,oc 104 [c89])] :: M90 :: [(b2,oc 108 [(Value.func (.func 89) #[] #[])])] :: [(b1,oc 64 [vl_0])] :: S) w ∧ Env 36 a [(2,vp b1),(3,vp b2),(6,c92),(7,vp b8)] ∧ ORow 3 1 (pI .i64) m88 c89 b.1 M90 ∧ ORow 52 4 qai m88 c92 b.2 M93) ?_ ?_ N _ a w hL ⟨m0,(Value.slice none 0 0),M17,c5,M6,Mem.le.refl _,ok,E.keep [2,3,6,7,13,14,15],h18,(ir 0),h7⟩
 rotate_left
 ·intro e a w _ hO
  obtain ⟨rfl,m71,c72,M73,c75,M76,hle,ok,E,h74,h77⟩:=hO
  have le_m0:=le_m0.trans hle
  have hl_0:=(mL (mL (mL qad))).up hle hl_0
  refine qaK<|qaa<|sg<|mv E rfl fun a E=>?_
  obtain ⟨m78,hle,ok,hfz⟩:=(ok.frs 0 rfl).freeze
  have h79:=ORow.froz qad h77 hle hfz (by decide)
  have le_m0:=le_m0.trans hle
  have hl_0:=(mL (mL (mL qad))).up hle hl_0
  have h74:=ORow.up (mI .i64) hle h74
  obtain ⟨r80,e81,hF⟩:=bnd hF
  refine qag E qqh rfl (qhw N _ o19.2 h79 e81 hG hTb ok) rfl rfl ?_
  rintro _ w ⟨m82,c83,rfl,hle,ok,h84⟩
  have le_m0:=le_m0.trans hle
  have hl_0:=(mL (mL (mL qad))).up hle hl_0
  have h74:=ORow.up (mI .i64) hle h74
  have h79:=(mL qad).up hle h79
  refine ⟨_,rfl,fun a E=>?_⟩
  refine lv E ok (qbI (caps:=[.tmp 2,.tmp 7,.tmp 3]) rfl) fun a E=>?_
  obtain ⟨r85,e86,hF⟩:=bnd hF
  replace ok:Ok u m82 ([(b1,oc 64 [vl_0])] :: [(b8,oc 104 [c72])] :: M73 :: [(b2,oc 108 [(Value.func (.func 89) #[] #[])])] :: S) w:=(ok.pk 4 [3,0,1,2] rfl (by decide))
  refine qag E qqE rfl (qiy N _ r80 h84 l_0 hl_0 o19.1 h74 e86 hG ok) rfl rfl ?_
  rintro _ w ⟨⟨rfl,ok⟩,l87⟩
  refine ⟨_,rfl,fun a E=>?_⟩
  refine lw E (qam rfl rfl) fun a E=>lw E (qam rfl rfl) fun a E=>av E rfl fun a E=>aw E rfl fun a E=>wp_ret ?_
  exact fin hF ⟨(ok.drop.drop.drop.drop).down hb0 le_m0,E.d,⟨rv_t E rfl,rv_t E rfl,trivial⟩,l87⟩
 rintro ⟨all_28,x_29,x_30⟩ a w r ⟨m31,c32,M33,c36,M37,hle,ok,E,h34,r35,h38⟩ hF
 replace hF:qb3 N l_0 all_28 x_29 x_30 = some r:=hF
 unfold qb3 at hF
 have le_m0:=le_m0.trans hle
 have hl_0:=(mL (mL (mL qad))).up hle hl_0
 refine sg<|lw E (qaF rfl rfl) fun a E=>wn<|wp_seq<|cf E rfl hF (fun hc39 hF=>?_) fun hc39 hF=>?_
 rotate_left
 ·refine wp_exit<|qaB ?_
  obtain rfl:=sj hF
  exact so (⟨rfl,⟨m31,c36,M37,c32,M33,le_m0,ok,E.keep [2,3,6,7],h38,h34⟩⟩)
 refine wp_skip<|qaa<|wp_seq<|wp_block<|sg<|mv E rfl fun a E=>?_
 obtain ⟨x40,e41,hF⟩:=bnd hF
 obtain ⟨b42,o43,es44,hl45,rr46,at47,yy48⟩:=qaO qbr hl_0 e41 (P:=Tryz.prog) (X:=.tmp 13) (I:=.tmp 15) (kd:=.i64) (qak E rfl) (qak E rfl)
 obtain ⟨c49,rfl,h50⟩:=qcm rr46
 refine lv E ok (yy48 _ _) fun a E=>lv E ok (qap qdA rfl (qac.ro at47)) fun a E=>av E rfl fun a E=>aw E rfl fun a E=>sg ?_
 refine ld E ok qnq 1 rfl rfl rfl fun a E=>mv E rfl fun a E=>mv E rfl fun a E=>lv E ok (qhJ qbT h34 rfl) fun a E=>?_
 obtain ⟨x51,e52,hF⟩:=bnd hF
 obtain ⟨b53,o54,hp55,yy56⟩:=qdZ qgx h38 e52 (P:=Tryz.prog) (X:=.tmp 20) (I:=.tmp 21) (kd:=.i64) (qak E rfl) (qak E rfl)
 refine lv E ok (yy56 _ _) fun a E=>?_
 obtain ⟨l57,e58,hF⟩:=bnd hF
 refine qfR (R:=(pI .i64)) E ok 2 rfl h38 e52 hp55 rfl rfl qbO rfl rfl rfl ⟨rfl,trivial⟩ (qdw (ORow.InR h34)) e58 rfl fun M59 w ok h60=>wn<|qab<|mv E rfl fun a E=>mv E rfl fun a E=>?_
 obtain ⟨r61,e62,hF⟩:=bnd hF
 refine qag E qqf rfl (qhR N _ x40 h50 e62 hG ok) rfl rfl ?_
 rintro _ w ⟨m63,c64,rfl,hle,ok,h65⟩
 have le_m0:=le_m0.trans hle
 have hl_0:=(mL (mL (mL qad))).up hle hl_0
 have h34:=ORow.up qad hle h34
 have h50:=(mL (mL qad)).up hle h50
 have at47:=At.up hle at47
 have h60:=ORow.up (mI .i64) hle h60
 refine ⟨_,rfl,fun a E=>?_⟩
 obtain ⟨l66,e67,hF⟩:=bnd hF
 refine qek (R:=qai) E ok 0 qad qbT Tryz.underlying53 rfl h34 (qbX.ofL h65 ok) e67 ⟨_,qdS,rfl⟩ rfl rfl rfl rfl fun c68 M69 a w E ok h70=>av E rfl fun a E=>wpList_nil<|qal<|qaa<|qab<|lw E (qaD rfl rfl (InR.inc r35 (qaj hl_0) hc39)) fun a E=>mv E rfl fun a E=>?_
 refine wpList_nil ?_
 obtain rfl:=sj hF
 exact qau ⟨m63,c68,M69,c36,M59,le_m0,ok,E.keep [2,3,6,7,13,14,15],h70,(InR.inc r35 (qaj hl_0) hc39),h60⟩
def qlG (u:World) (m0:Mem) (S:Segs) (r:(List UInt8) × Bool × Int) (a:Act) (w:World):Prop :=
 Ok u m0 S w ∧ a.defers = [] ∧ RVs Tryz.prog a w [.t 2 (.string (bs r.1)),.t 3 (.bool r.2.1),.t 4 (.int .i64 r.2.2)] ∧ r.1.length ≤ LIMS ∧ InR .i64 r.2.2
theorem qlK (N:Nat) (vc_0:Value) (c_0:List (List (Relation))) (hc_0:(pL 1 (pL 4 qai)) m0 [vc_0] c_0) {r:(List UInt8) × Bool × Int} (hF:qc7 N c_0 = some r) (hG:Glob u) (hTb:Tab u) (ok:Ok u m0 S w) :
  Calls Tryz.prog 63 [vc_0].toArray w fun e w'=>(e = .returned (.tuple [(.string (bs r.1)),(.bool r.2.1),(.int .i64 r.2.2)].toArray) ∧ Ok u m0 S w') ∧ r.1.length ≤ LIMS ∧ InR .i64 r.2.2:=by
 unfold qc7 at hF
 refine en (qlG u m0 S) r Tryz.func63 rfl rfl rfl (by rintro a w ⟨ok,hd,hrv,h0,h1⟩; exact qat [.t 2 (.string (bs r.1)),.t 3 (.bool r.2.1),.t 4 (.int .i64 r.2.2)] hd rfl hrv ⟨⟨rfl,ok⟩,h0,h1⟩) fun fin a E=>sg<|av E rfl fun a E=>av E rfl fun a E=>aw E rfl fun a E=>?_
 refine wp_seq<|sg<|mv E rfl fun a E=>?_
 obtain ⟨r1,e2,hF⟩:=bnd hF
 refine lc E qpY rfl (qgR N _ c_0 hc_0 e2 hG ok) fun w ok a E=>lw E (qaS rfl) fun a E=>wn<|cf E rfl hF (fun hc3 hF=>?_) fun hc3 hF=>?_
 ·refine sg<|av E rfl fun a E=>av E rfl fun a E=>aw E rfl fun a E=>wp_ret ?_
  refine qaf ?_
  exact fin hF ⟨ok,E.d,⟨rv_t E rfl,rv_t E rfl,rv_t E rfl,trivial⟩,(show ([]:List UInt8).length ≤ LIMS by decide),(ir 1)⟩
 refine wp_skip<|qaa<|sg<|mv E rfl fun a E=>qbs (R:=(pL 1 (pL 4 qai))) (xo:=[.tmp 11]) (xs:=([c_0]:List (List (List (Relation))))) E ok qbr qf2 rfl ⟨⟨_,(qcY hc_0),rfl,hc_0⟩,trivial⟩ rfl rfl rfl rfl fun c4 M5 a w E ok h6=>?_
 obtain ⟨r12,e13,hF⟩:=bnd hF
 obtain ⟨m7,hle9,ok8,hfz10⟩:=(ok.frs 0 rfl).freeze
 have h11:=ORow.froz (mL (mL qad)) h6 hle9 hfz10 (by decide)
 refine qag E qrH rfl (ql7 N _ ([c_0]:List (List (List (Relation)))) h11 e13 hG hTb ok8) rfl rfl ?_
 rintro _ w ⟨⟨rfl,okz⟩,l14⟩
 replace ok:=(Ok.thawAt 0 rfl ok hle9 hfz10 okz)
 refine ⟨_,rfl,fun a E=>?_⟩
 refine mv E rfl fun a E=>lw E (qam rfl rfl) fun a E=>lw E (qam rfl rfl) fun a E=>av E rfl fun a E=>aw E rfl fun a E=>wp_seq ?_
 refine qab<|mv E rfl fun a E=>mv E rfl fun a E=>av E rfl fun a E=>av E rfl fun a E=>aw E rfl fun a E=>?_
 refine wp_ret ?_
 exact fin hF ⟨ok.drop,E.d,⟨rv_t E rfl,rv_t E rfl,rv_t E rfl,trivial⟩,l14,(ir 0)⟩
def ql2 (u:World) (m0:Mem) (S:Segs) (r:(List UInt8) × Bool) (a:Act) (w:World):Prop :=
 Ok u m0 S w ∧ a.defers = [] ∧ RVs Tryz.prog a w [.t 4 (.string (bs r.1)),.t 5 (.bool r.2)] ∧ r.1.length ≤ LIMS
theorem qpM (N:Nat) (vl_0:Value) (l_0:List (Rule)) (hl_0:(pL 2 qeR) m0 [vl_0] l_0) (class_1:List UInt8) (lclass_1:class_1.length ≤ LIMS) {r:(List UInt8) × Bool} (hF:qic N l_0 class_1 = some r) (hG:Glob u) (hTb:Tab u) (ok:Ok u m0 S w) :
  Calls Tryz.prog 37 [vl_0,vs class_1].toArray w fun e w'=>(e = .returned (.tuple [(.string (bs r.1)),(.bool r.2)].toArray) ∧ Ok u m0 S w') ∧ r.1.length ≤ LIMS:=by
 unfold qic at hF
 refine en (ql2 u m0 S) r Tryz.func37 rfl rfl rfl (by rintro a w ⟨ok,hd,hrv,h0⟩; exact qat [.t 4 (.string (bs r.1)),.t 5 (.bool r.2)] hd rfl hrv ⟨⟨rfl,ok⟩,h0⟩) fun fin a E=>sg<|av E rfl fun a E=>aw E rfl fun a E=>wp_seq ?_
 refine sg<|mv E rfl fun a E=>lw E (qet rfl rfl) fun a E=>wn<|cf E rfl hF (fun hc1 hF=>?_) fun hc1 hF=>?_
 ·as_aux_lemma =>
   refine sg<|aw E rfl fun a E=>wp_seq<|sg ?_
   refine mv E rfl fun a E=>lv E ok (qaH qc2 hl_0 rfl) fun a E=>mv E rfl fun a E=>wn<|wp_block ?_
   obtain ⟨M7,ok,h8⟩:=qdX (e:=42) (k:=1) (R:=(pL 1 (pL 4 qai))) ok
   obtain ⟨o9,hL,hF⟩:=bnd hF
   refine qaI _ (fun (s:(List (List (List (Relation)))) × Int) a w=>∃ c10 M11,Ok u m0 (M11 :: S) w ∧ Env 68 a [(6,c10),(19,vl_0),(20,(vi (l_0.length:Int))),(21,vi s.2)] ∧ ORow 42 1 (pL 1 (pL 4 qai)) m0 c10 s.1 M11 ∧ InR .i64 s.2) (fun (b:((List (List (List (Relation)))))) e a w=>e = (.exit 0) ∧ ∃ c55 M56,Ok u m0 (M56 :: S) w ∧ Env 68 a [(6,c55)] ∧ ORow 42 1 (pL 1 (pL 4 qai)) m0 c55 b M56) ?_ ?_ N _ a w hL ⟨(Value.slice none 0 0),M7,ok,E.keep [6,19,20,21],h8,(ir 0)⟩
   ·rintro ⟨conds_14,x_15⟩ a w r ⟨c16,M17,ok,E,h18,r19⟩ hF
    replace hF:qf0 N l_0 conds_14 x_15 = some r:=hF
    unfold qf0 at hF
    refine sg<|lw E (qaF rfl rfl) fun a E=>wn<|wp_seq<|cf E rfl hF (fun hc20 hF=>?_) fun hc20 hF=>?_
    rotate_left
    ·refine wp_exit<|qaB ?_
     obtain rfl:=sj hF
     exact so (⟨rfl,⟨c16,M17,ok,E.keep [6],h18⟩⟩)
    refine wp_skip<|qaa<|wp_seq<|wp_block<|sg ?_
    obtain ⟨x21,e22,hF⟩:=bnd hF
    obtain ⟨b23,o24,es25,hl26,rr27,at28,yy29⟩:=qaO qc2 hl_0 e22 (P:=Tryz.prog) (X:=.tmp 19) (I:=.tmp 21) (kd:=.i64) (qak E rfl) (qak E rfl)
    obtain ⟨c31,rfl,l30,h32⟩:=rr27
    refine lv E ok (yy29 _ _) fun a E=>lv E ok (qao (cs:=[vs x21.Class,c31]) qlo rfl rfl (qac.ro at28)) fun a E=>qaR E ok qin rfl rfl fun b33 a w E ok=>qae E ok 0 rfl rfl rfl qmJ rfl rfl ⟨rfl,(qh9 h32),trivial⟩ rfl rfl fun w ok=>wn<|qab<|mv E rfl fun a E=>?_
    refine fv E qhn rfl fun a E=>ld E ok qdA 0 rfl rfl rfl fun a E=>qbs (R:=(pL 1 (pL 4 qai))) (xo:=[.tmp 27]) (xs:=([x21.Cond]:List (List (List (Relation))))) E ok qbr qf2 rfl ⟨⟨_,(qcY h32),rfl,h32⟩,trivial⟩ rfl rfl rfl rfl fun c34 M35 a w E ok h36=>?_
    obtain ⟨l37,e38,hF⟩:=bnd hF
    refine qek (R:=(pL 1 (pL 4 qai))) E ok 2 (mL (mL qad)) qbr Tryz.underlying64 rfl h18 (qbX.ofRow h36 0 rfl ok) e38 ⟨_,qf2,rfl⟩ rfl rfl rfl rfl fun c39 M40 a w E ok h41=>av E rfl fun a E=>wpList_nil<|qal<|qaa<|qab<|lw E (qaD rfl rfl (InR.inc r19 (qaj hl_0) hc20)) fun a E=>mv E rfl fun a E=>?_
    refine wpList_nil ?_
    obtain rfl:=sj hF
    exact qau ⟨c39,M40,(ok.pk 3 [2] rfl (by decide)),E.keep [6,19,20,21],h41,(InR.inc r19 (qaj hl_0) hc20)⟩
   intro e a w _ hO
   obtain ⟨rfl,c42,M43,ok,E,h44⟩:=hO
   refine qaK<|qaa<|sg<|mv E rfl fun a E=>?_
   obtain ⟨r50,e51,hF⟩:=bnd hF
   obtain ⟨m45,hle47,ok46,hfz48⟩:=(ok.frs 0 rfl).freeze
   have h49:=ORow.froz (mL (mL qad)) h44 hle47 hfz48 (by decide)
   refine qag E qw0 rfl (qpd N _ o9 h49 e51 hG hTb ok46) rfl rfl ?_
   rintro _ w ⟨⟨rfl,okz⟩,l52,r53⟩
   replace ok:=(Ok.thawAt 0 rfl ok hle47 hfz48 okz)
   refine ⟨_,rfl,fun a E=>?_⟩
   refine mv E rfl fun a E=>lw E (qam rfl rfl) fun a E=>lw E (qam rfl rfl) fun a E=>lw E (qam rfl rfl) fun a E=>av E rfl fun a E=>av E rfl fun a E=>av E rfl fun a E=>wpList_nil ?_
   refine qaa<|sg<|mv E rfl fun a E=>mv E rfl fun a E=>lw E (qaM rfl rfl) fun a E=>mv E rfl fun a E=>qav (r50.2.2 == 0) (fun hc54=>?_) (fun hc54=>?_)
   ·replace hF:=qas hc54 hF
    replace E:=E.upd 40 hc54 rfl
    refine mv E rfl fun a E=>lw E (qaS rfl) fun a E=>pt E rfl rfl fun a E=>av E rfl fun a E=>aw E rfl fun a E=>wp_ret ?_
    refine qaf ?_
    exact fin hF ⟨ok.drop,E.d,⟨rv_t E rfl,rv_t E rfl,trivial⟩,l52⟩
   replace hF:=qar hc54 hF
   replace E:=E.upd 40 hc54 rfl
   refine ls E fun a E=>ls E fun a E=>pf E rfl rfl fun a E=>av E rfl fun a E=>aw E rfl fun a E=>wp_ret ?_
   refine qaf ?_
   exact fin hF ⟨ok.drop,E.d,⟨rv_t E rfl,rv_t E rfl,trivial⟩,l52⟩
 refine wp_skip<|qaa<|wp_seq<|sg<|mv E rfl fun a E=>lv E ok (qaH qc2 hl_0 rfl) fun a E=>mv E rfl fun a E=>?_
 refine wn<|wp_block ?_
 obtain ⟨o59,hL,hF⟩:=bnd hF
 refine qaI _ (fun (s:Int) a w=>Ok u m0 (S) w ∧ Env 68 a [(1,vs class_1),(44,vl_0),(45,(vi (l_0.length:Int))),(46,vi s)] ∧ InR .i64 s) (fun (b:(Unit ⊕ ((List UInt8) × Bool))) e a w=>(Sum.elim (fun b83=>e = (.exit 2) ∧ Ok u m0 (S) w ∧ Env 68 a []) (fun b84=>e = .ret ∧ ql2 u m0 S b84 a w)) b) ?_ ?_ N _ a w hL ⟨ok,E.keep [1,44,45,46],(ir 0)⟩
 rotate_left
 ·intro e a w _ hO
  rcases o59 with o59 | o59
  rotate_left
  ·replace hF:=qa7 hF
   obtain ⟨rfl,hret⟩:=hO
   refine qax<|qaf ?_
   exact fin hF hret
  replace hF:=qa6 hF
  obtain ⟨rfl,ok,E⟩:=hO
  refine qaK<|qaa<|sg<|av E rfl fun a E=>aw E rfl fun a E=>?_
  refine wp_ret ?_
  exact fin hF ⟨ok,E.d,⟨rv_t E rfl,rv_t E rfl,trivial⟩,(show ([]:List UInt8).length ≤ LIMS by decide)⟩
 rintro x_61 a w r ⟨ok,E,r62⟩ hF
 replace hF:qfX N l_0 class_1 x_61 = some r:=hF
 unfold qfX at hF
 refine sg<|lw E (qaF rfl rfl) fun a E=>wn<|wp_seq<|cf E rfl hF (fun hc63 hF=>?_) fun hc63 hF=>?_
 rotate_left
 ·refine wp_exit<|qaB ?_
  obtain rfl:=sj hF
  exact so (sl ⟨rfl,⟨ok,E.keep []⟩⟩)
 refine wp_skip<|qaa<|wp_seq<|wp_block<|sg ?_
 obtain ⟨x64,e65,hF⟩:=bnd hF
 obtain ⟨b66,o67,es68,hl69,rr70,at71,yy72⟩:=qaO qc2 hl_0 e65 (P:=Tryz.prog) (X:=.tmp 44) (I:=.tmp 46) (kd:=.i64) (qak E rfl) (qak E rfl)
 obtain ⟨c74,rfl,l73,h75⟩:=rr70
 refine lv E ok (yy72 _ _) fun a E=>lv E ok (qao (cs:=[vs x64.Class,c74]) qlo rfl rfl (qac.ro at71)) fun a E=>qaR E ok qin rfl rfl fun b76 a w E ok=>qae E ok 0 rfl rfl rfl qmJ rfl rfl ⟨rfl,(qh9 h75),trivial⟩ rfl rfl fun w ok=>wn<|sg ?_
 refine fv E qg4 rfl fun a E=>ld E ok qaN 0 rfl rfl rfl fun a E=>mv E rfl fun a E=>lw E (qet rfl rfl) fun a E=>wn<|cf E rfl hF (fun hc77 hF=>?_) fun hc77 hF=>?_
 rotate_left
 ·refine wp_skip<|qal<|qaa<|qab<|lw E (qaD rfl rfl (InR.inc r62 (qaj hl_0) hc63)) fun a E=>mv E rfl fun a E=>wpList_nil ?_
  obtain rfl:=sj hF
  exact qau ⟨(ok.pk 1 [] rfl (by decide)),E.keep [1,44,45,46],(InR.inc r62 (qaj hl_0) hc63)⟩
 refine sg<|fv E qhn rfl fun a E=>ld E ok qdA 0 rfl rfl rfl fun a E=>?_
 obtain ⟨r78,e79,hF⟩:=bnd hF
 refine qag E qxd rfl (qlK N _ x64.Cond h75 e79 hG hTb ok) rfl rfl ?_
 rintro _ w ⟨⟨rfl,ok⟩,l80,r81⟩
 refine ⟨_,rfl,fun a E=>?_⟩
 refine mv E rfl fun a E=>lw E (qam rfl rfl) fun a E=>lw E (qam rfl rfl) fun a E=>lw E (qam rfl rfl) fun a E=>av E rfl fun a E=>av E rfl fun a E=>av E rfl fun a E=>wpList_nil ?_
 refine qaa<|sg<|mv E rfl fun a E=>mv E rfl fun a E=>lw E (qaM rfl rfl) fun a E=>mv E rfl fun a E=>qav (r78.2.2 == 0) (fun hc82=>?_) (fun hc82=>?_)
 ·replace hF:=qas hc82 hF
  replace E:=E.upd 64 hc82 rfl
  refine mv E rfl fun a E=>pt E rfl rfl fun a E=>av E rfl fun a E=>aw E rfl fun a E=>wp_ret<|qax ?_
  refine qaf ?_
  obtain rfl:=sj hF
  exact so (sr ⟨rfl,⟨ok.drop,E.d,⟨rv_t E rfl,rv_t E rfl,trivial⟩,l80⟩⟩)
 replace hF:=qar hc82 hF
 replace E:=E.upd 64 hc82 rfl
 refine ls E fun a E=>pf E rfl rfl fun a E=>av E rfl fun a E=>aw E rfl fun a E=>wp_ret<|qax ?_
 refine qaf ?_
 obtain rfl:=sj hF
 exact so (sr ⟨rfl,⟨ok.drop,E.d,⟨rv_t E rfl,rv_t E rfl,trivial⟩,l80⟩⟩)
end Go.Proofs.YtboacfcnmhnbdaaGreatDoor
namespace Go.Proofs.YtboacfcnmhnbdaaGreatDoor
open Go.X
structure Number2 where
 Neg:Bool
 Whole:List UInt8
 Frac:List UInt8
def qfl (_N:Nat) (l_0:List (List UInt8)) (s_1:List UInt8) (i_4:Int):Option (Int ⊕ ((Unit ⊕ Bool))) :=
 bif (decide (i_4 < (l_0.length:Int))) then
  (idx l_0 i_4).bind fun x7 =>
  bif (x7 == s_1) then
   some (.inr (.inr true))
  else
   some (.inl (i_4 + 1))
 else
  some (.inr (.inl ()))
def qfw (N:Nat) (l_0:List (List UInt8)) (s_1:List UInt8):Option Bool :=
 (iter (fun s=>qfl N l_0 s_1 s) N 0).bind fun o2 =>
 Sum.elim (fun _o2 =>
  some false)
 (fun o2 =>
  some o2) o2
def qe0 (_N:Nat):Option (List (List UInt8)) :=
 some ([[122,101,114,111],[111,110,101],[116,119,111],[102,101,119],[109,97,110,121]]:List (List UInt8))
def qfn (_N:Nat) (l_0:List (Int)) (n_1:Int) (i_4:Int):Option (Int ⊕ ((Unit ⊕ Bool))) :=
 bif (decide (i_4 < (l_0.length:Int))) then
  (idx l_0 i_4).bind fun x7 =>
  bif (x7 == n_1) then
   some (.inr (.inr true))
  else
   some (.inl (i_4 + 1))
 else
  some (.inr (.inl ()))
def qeI (N:Nat) (l_0:List (Int)) (n_1:Int):Option Bool :=
 (iter (fun s=>qfn N l_0 n_1 s) N 0).bind fun o2 =>
 Sum.elim (fun _o2 =>
  some false)
 (fun o2 =>
  some o2) o2
def qe9 (_N:Nat) (operand_0:Int):Option (List (Int)) :=
 (show Option Bool from
  bif (operand_0 == 1) then
   some (operand_0 == 1)
  else
   some (operand_0 == 2)).bind fun o1 =>
 bif o1 then
  some ([2,3,4,5,6,10,20,25,50,100]:List (Int))
 else
  (show Option Bool from
   bif (operand_0 == 5) then
    some (operand_0 == 5)
   else
    some (operand_0 == 6)).bind fun o9 =>
  bif o9 then
   some ([10,100]:List (Int))
  else
   some ([])
def qgU (_N:Nat) (operand_0:Int):Option Int :=
 bif (operand_0 == 3) then
  some 6
 else
  bif (operand_0 == 4) then
   some 6
  else
   some 100
def qdD (N:Nat) (r_0:Relation) (i_35:Int):Option (Int ⊕ ((Unit ⊕ Bool))) :=
 bif (decide (i_35 < (r_0.Spans.length:Int))) then
  (idx r_0.Spans i_35).bind fun x38 =>
  bif (decide (x38.From < 0)) then
   some (.inr (.inr false))
  else
   bif (decide (x38.From > x38.To)) then
    some (.inr (.inr false))
   else
    (qgU N r_0.Operand).bind fun r52 =>
    bif (decide (x38.To > r52)) then
     some (.inr (.inr false))
    else
     some (.inl (i_35 + 1))
 else
  some (.inr (.inl ()))
def qfk (N:Nat) (r_0:Relation):Option Bool :=
 (show Option Bool from
  bif (decide (r_0.Operand < 1)) then
   some true
  else
   bif (decide (r_0.Operand > 6)) then
    some true
   else
    bif (r_0.Mod != 0) then
     (qe9 N r_0.Operand).bind fun r11 =>
     (qeI N r11 r_0.Mod).bind fun r16 =>
     bif (!r16) then
      some true
     else
      bif (decide ((r_0.Spans.length:Int) < 1)) then
       some true
      else
       some (decide ((r_0.Spans.length:Int) > 4))
    else
     bif (decide ((r_0.Spans.length:Int) < 1)) then
      some true
     else
      some (decide ((r_0.Spans.length:Int) > 4))).bind fun o6 =>
 bif o6 then
  some false
 else
  (iter (fun s=>qdD N r_0 s) N 0).bind fun o33 =>
  Sum.elim (fun _o33 =>
   some true)
  (fun o33 =>
   some o33) o33
def qbW (N:Nat) (c_0:List (List (Relation))) (i_7:Int) (n_28:Int) (k_29:Int):Option ((Int × Int) ⊕ ((Int ⊕ Bool))) :=
 (idx c_0 i_7).bind fun x32 =>
 bif (decide (k_29 < (x32.length:Int))) then
  (idx c_0 i_7).bind fun x44 =>
  (idx x44 k_29).bind fun x55 =>
  (qfk N x55).bind fun r68 =>
  bif (!r68) then
   some (.inr (.inr false))
  else
   some (.inl ((IntKind.wrap .i64 (n_28 + 1)),(k_29 + 1)))
 else
  some (.inr (.inl n_28))
def qct (N:Nat) (c_0:List (List (Relation))) (n_6:Int) (i_7:Int):Option ((Int × Int) ⊕ ((Int ⊕ Bool))) :=
 bif (decide (i_7 < (c_0.length:Int))) then
  (idx c_0 i_7).bind fun x11 =>
  bif ((x11.length:Int) == 0) then
   some (.inr (.inr false))
  else
   (iter (fun s=>qbW N c_0 i_7 s.1 s.2) N (n_6,0)).bind fun o25 =>
   Sum.elim (fun o25 =>
    some (.inl (o25,(i_7 + 1))))
   (fun o25 =>
    some (.inr (.inr o25))) o25
 else
  some (.inr (.inl n_6))
def qd4 (N:Nat) (c_0:List (List (Relation))):Option Bool :=
 (iter (fun s=>qct N c_0 s.1 s.2) N (0,0)).bind fun o3 =>
 Sum.elim (fun o3 =>
  bif (decide ((c_0.length:Int) > 0)) then
   some (decide (o3 ≤ 6))
  else
   some false)
 (fun o3 =>
  some o3) o3
def qdi (_N:Nat) (l_0:List (Rule)) (i_5:Int) (k_104:Int):Option (Int ⊕ ((Unit ⊕ Bool))) :=
 bif (decide (k_104 < i_5)) then
  (idx l_0 k_104).bind fun x107 =>
  (idx l_0 i_5).bind fun x119 =>
  bif (x107.Class == x119.Class) then
   some (.inr (.inr false))
  else
   some (.inl (k_104 + 1))
 else
  some (.inr (.inl ()))
def qcu (N:Nat) (l_0:List (Rule)) (i_5:Int):Option (Int ⊕ ((Unit ⊕ Bool))) :=
 bif (decide (i_5 < (l_0.length:Int))) then
  (show Option Bool from
   (qe0 N).bind fun r11 =>
   (idx l_0 i_5).bind fun x17 =>
   (qfw N r11 x17.Class).bind fun r34 =>
   bif (!r34) then
    some true
   else
    (idx l_0 i_5).bind fun x56 =>
    (qd4 N x56.Cond).bind fun r68 =>
    some (!r68)).bind fun o9 =>
  bif o9 then
   some (.inr (.inr false))
  else
   (iter (fun s=>qdi N l_0 i_5 s) N 0).bind fun o102 =>
   Sum.elim (fun _o102 =>
    some (.inl (i_5 + 1)))
   (fun o102 =>
    some (.inr (.inr o102))) o102
 else
  some (.inr (.inl ()))
def qeL (N:Nat) (l_0:List (Rule)):Option Bool :=
 (iter (fun s=>qcu N l_0 s) N 0).bind fun o2 =>
 Sum.elim (fun _o2 =>
  some true)
 (fun o2 =>
  some o2) o2
def qd2 (N:Nat):Option (List (List UInt8)) :=
 (qe0 N).bind fun r1 =>
 (app r1 ([[111,116,104,101,114]]:List (List UInt8))).bind fun l10 =>
 some l10
def qb4 (N:Nat) (l_0:List (List (List (Relation)))) (i_4:Int):Option (Int ⊕ ((Unit ⊕ Bool))) :=
 bif (decide (i_4 < (l_0.length:Int))) then
  (idx l_0 i_4).bind fun x7 =>
  (qd4 N x7).bind fun r18 =>
  bif (!r18) then
   some (.inr (.inr false))
  else
   some (.inl (i_4 + 1))
 else
  some (.inr (.inl ()))
def qcR (N:Nat) (l_0:List (List (List (Relation)))):Option Bool :=
 (iter (fun s=>qb4 N l_0 s) N 0).bind fun o2 =>
 Sum.elim (fun _o2 =>
  some (decide ((l_0.length:Int) ≤ 10)))
 (fun o2 =>
  some o2) o2
def qey (_N:Nat) (c_0:Int):Option Int :=
 bif (c_0 == 46) then
  some 10
 else
  bif (decide (c_0 < 48)) then
   some (-1)
  else
   bif (decide (c_0 > 57)) then
    some (-1)
   else
    some (IntKind.wrap .u8 (c_0 - 48))
def qcS (N:Nat) (a_0:List UInt8) (b_1:List UInt8) (i_5:Int):Option (Int ⊕ ((Unit ⊕ Bool))) :=
 bif (decide (i_5 < (a_0.length:Int))) then
  (idx a_0 i_5).bind fun c8 =>
  (idx b_1 i_5).bind fun c10 =>
  bif ((c8.toNat:Int) != (c10.toNat:Int)) then
   (idx a_0 i_5).bind fun c13 =>
   (qey N (c13.toNat:Int)).bind fun r15 =>
   (idx b_1 i_5).bind fun c18 =>
   (qey N (c18.toNat:Int)).bind fun r20 =>
   some (.inr (.inr (decide (r15 < r20))))
  else
   some (.inl (i_5 + 1))
 else
  some (.inr (.inl ()))
def qfe (N:Nat) (a_0:List UInt8) (b_1:List UInt8):Option Bool :=
 bif ((a_0.length:Int) != (b_1.length:Int)) then
  some (decide ((a_0.length:Int) < (b_1.length:Int)))
 else
  (iter (fun s=>qcS N a_0 b_1 s) N 0).bind fun o3 =>
  Sum.elim (fun _o3 =>
   some false)
  (fun o3 =>
   some o3) o3
def qcz (_N:Nat) (c_0:List (List (Relation))) (out_13:List (Relation)) (i_14:Int):Option (((List (Relation)) × Int) ⊕ (((List (Relation))))) :=
 bif (decide (i_14 < (c_0.length:Int))) then
  (idx c_0 i_14).bind fun x20 =>
  (app out_13 x20).bind fun l31 =>
  some (.inl (l31,(i_14 + 1)))
 else
  some (.inr out_13)
def qgt (N:Nat) (c_0:List (List (Relation))):Option (List (Relation)) :=
 (iter (fun s=>qcz N c_0 s.1 s.2) N ([],0)).bind fun o8 =>
 some o8
def qev (_N:Nat) (s_0:List UInt8) (i_4:Int):Option (Int ⊕ ((Unit ⊕ Bool))) :=
 bif (decide (i_4 < (s_0.length:Int))) then
  (idx s_0 i_4).bind fun c7 =>
  bif (decide ((c7.toNat:Int) < 48)) then
   some (.inr (.inr false))
  else
   (idx s_0 i_4).bind fun c10 =>
   bif (decide ((c10.toNat:Int) > 57)) then
    some (.inr (.inr false))
   else
    some (.inl (i_4 + 1))
 else
  some (.inr (.inl ()))
def qep (N:Nat) (s_0:List UInt8):Option Bool :=
 (iter (fun s=>qev N s_0 s) N 0).bind fun o2 =>
 Sum.elim (fun _o2 =>
  some true)
 (fun o2 =>
  some o2) o2
def qeU (_N:Nat) (s_0:List UInt8) (i_4:Int):Option (Int ⊕ ((Unit ⊕ Bool))) :=
 bif (decide (i_4 < (s_0.length:Int))) then
  (idx s_0 i_4).bind fun c7 =>
  bif ((c7.toNat:Int) != 48) then
   some (.inr (.inr false))
  else
   some (.inl (i_4 + 1))
 else
  some (.inr (.inl ()))
def qdj (N:Nat) (s_0:List UInt8):Option Bool :=
 (iter (fun s=>qeU N s_0 s) N 0).bind fun o2 =>
 Sum.elim (fun _o2 =>
  some true)
 (fun o2 =>
  some o2) o2
def qfT (_N:Nat) (o6:((List UInt8) × Number2)) (k_26:Int):Option (Int ⊕ Int) :=
 bif (decide (k_26 < (o6.1.length:Int))) then
  (idx o6.1 k_26).bind fun c29 =>
  bif ((c29.toNat:Int) != 46) then
   some (.inl (k_26 + 1))
  else
   some (.inr k_26)
 else
  some (.inr k_26)
def qhe (_N:Nat) (s_0:List UInt8) (k_75:Int):Option (Int ⊕ Int) :=
 bif (decide (k_75 < (s_0.length:Int))) then
  (idx s_0 k_75).bind fun c78 =>
  bif ((c78.toNat:Int) != 46) then
   some (.inl (k_75 + 1))
  else
   some (.inr k_75)
 else
  some (.inr k_75)
def qd7 (N:Nat) (s_0:List UInt8):Option (Number2 × Bool) :=
 bif (decide ((s_0.length:Int) > 0)) then
  (idx s_0 0).bind fun c4 =>
  (show Option ((List UInt8) × Number2) from
   bif ((c4.toNat:Int) == 45) then
    (show Option ((List UInt8) × Number2) from
     (slc s_0 1 (s_0.length:Int)).bind fun s15 =>
     some (s15,(Number2.mk true ([]) ([])))).bind fun o11 =>
    some (o11.1,o11.2)
   else
    some (s_0,(Number2.mk false ([]) ([])))).bind fun o6 =>
  (iter (fun s=>qfT N o6 s) N 0).bind fun o24 =>
  (slc o6.1 0 o24).bind fun s33 =>
  (show Option (Number2 ⊕ (Number2 × Bool)) from
   bif (decide (o24 < (o6.1.length:Int))) then
    (slc o6.1 (o24 + 1) (o6.1.length:Int)).bind fun s41 =>
    bif ((s41.length:Int) == 0) then
     some (.inr ((Number2.mk false ([]) ([])),false))
    else
     some (.inl (Number2.mk o6.2.Neg s33 s41))
   else
    some (.inl (Number2.mk o6.2.Neg s33 o6.2.Frac))).bind fun o35 =>
  Sum.elim (fun o35 =>
   (cat o35.Whole o35.Frac).bind fun s46 =>
   (qep N s46).bind fun r48 =>
   bif (!r48) then
    some ((Number2.mk false ([]) ([])),false)
   else
    bif (decide ((o35.Whole.length:Int) < 1)) then
     some ((Number2.mk false ([]) ([])),false)
    else
     bif (decide ((o35.Whole.length:Int) > 15)) then
      some ((Number2.mk false ([]) ([])),false)
     else
      bif (decide ((o35.Whole.length:Int) > 1)) then
       (idx o35.Whole 0).bind fun c54 =>
       bif ((c54.toNat:Int) == 48) then
        some ((Number2.mk false ([]) ([])),false)
       else
        bif (decide ((o35.Frac.length:Int) > 6)) then
         some ((Number2.mk false ([]) ([])),false)
        else
         bif o35.Neg then
          (cat o35.Whole o35.Frac).bind fun s59 =>
          (qdj N s59).bind fun r61 =>
          bif r61 then
           some ((Number2.mk false ([]) ([])),false)
          else
           some (o35,true)
         else
          some (o35,true)
      else
       bif (decide ((o35.Frac.length:Int) > 6)) then
        some ((Number2.mk false ([]) ([])),false)
       else
        bif o35.Neg then
         (cat o35.Whole o35.Frac).bind fun s66 =>
         (qdj N s66).bind fun r68 =>
         bif r68 then
          some ((Number2.mk false ([]) ([])),false)
         else
          some (o35,true)
        else
         some (o35,true))
  (fun o35 =>
   some o35) o35
 else
  (iter (fun s=>qhe N s_0 s) N 0).bind fun o73 =>
  (slc s_0 0 o73).bind fun s82 =>
  (show Option (Number2 ⊕ (Number2 × Bool)) from
   bif (decide (o73 < (s_0.length:Int))) then
    (slc s_0 (o73 + 1) (s_0.length:Int)).bind fun s90 =>
    bif ((s90.length:Int) == 0) then
     some (.inr ((Number2.mk false ([]) ([])),false))
    else
     some (.inl (Number2.mk false s82 s90))
   else
    some (.inl (Number2.mk false s82 ([])))).bind fun o84 =>
  Sum.elim (fun o84 =>
   (cat o84.Whole o84.Frac).bind fun s95 =>
   (qep N s95).bind fun r97 =>
   bif (!r97) then
    some ((Number2.mk false ([]) ([])),false)
   else
    bif (decide ((o84.Whole.length:Int) < 1)) then
     some ((Number2.mk false ([]) ([])),false)
    else
     bif (decide ((o84.Whole.length:Int) > 15)) then
      some ((Number2.mk false ([]) ([])),false)
     else
      bif (decide ((o84.Whole.length:Int) > 1)) then
       (idx o84.Whole 0).bind fun c103 =>
       bif ((c103.toNat:Int) == 48) then
        some ((Number2.mk false ([]) ([])),false)
       else
        bif (decide ((o84.Frac.length:Int) > 6)) then
         some ((Number2.mk false ([]) ([])),false)
        else
         bif o84.Neg then
          (cat o84.Whole o84.Frac).bind fun s108 =>
          (qdj N s108).bind fun r110 =>
          bif r110 then
           some ((Number2.mk false ([]) ([])),false)
          else
           some (o84,true)
         else
          some (o84,true)
      else
       bif (decide ((o84.Frac.length:Int) > 6)) then
        some ((Number2.mk false ([]) ([])),false)
       else
        bif o84.Neg then
         (cat o84.Whole o84.Frac).bind fun s115 =>
         (qdj N s115).bind fun r117 =>
         bif r117 then
          some ((Number2.mk false ([]) ([])),false)
         else
          some (o84,true)
        else
         some (o84,true))
  (fun o84 =>
   some o84) o84
def qcF (_N:Nat) (s_0:List UInt8) (n_6:Int) (i_7:Int):Option ((Int × Int) ⊕ Int) :=
 bif (decide (i_7 < (s_0.length:Int))) then
  (idx s_0 i_7).bind fun c11 =>
  some (.inl ((IntKind.wrap .i64 ((IntKind.wrap .i64 ((10:Int) * n_6)) + (IntKind.wrap .u8 ((c11.toNat:Int) - 48)))),(i_7 + 1)))
 else
  some (.inr n_6)
def qdr (N:Nat) (s_0:List UInt8):Option Int :=
 (iter (fun s=>qcF N s_0 s.1 s.2) N (0,0)).bind fun o3 =>
 some o3
def qcM (_N:Nat) (s_4:List UInt8):Option (((List UInt8)) ⊕ (((List UInt8)))) :=
 bif (decide ((s_4.length:Int) > 0)) then
  (idx s_4 ((s_4.length:Int) - 1)).bind fun c7 =>
  bif ((c7.toNat:Int) == 48) then
   (slc s_4 0 ((s_4.length:Int) - 1)).bind fun s10 =>
   some (.inl s10)
  else
   some (.inr s_4)
 else
  some (.inr s_4)
def qe6 (N:Nat) (s_0:List UInt8):Option (List UInt8) :=
 (iter (fun s=>qcM N s) N s_0).bind fun o2 =>
 some o2
def qeW (N:Nat) (s_0:List UInt8) (operand_1:Int):Option (Int × Int) :=
 (qd7 N s_0).bind fun r1 =>
 bif (!r1.2) then
  some (0,1)
 else
  bif (operand_1 == 1) then
   (qdj N r1.1.Frac).bind fun r11 =>
   bif (!r11) then
    some (0,8)
   else
    (qdr N r1.1.Whole).bind fun r14 =>
    some (r14,0)
  else
   bif (operand_1 == 2) then
    (qdr N r1.1.Whole).bind fun r18 =>
    some (r18,0)
   else
    bif (operand_1 == 3) then
     some ((r1.1.Frac.length:Int),0)
    else
     bif (operand_1 == 4) then
      (qe6 N r1.1.Frac).bind fun r23 =>
      some ((r23.length:Int),0)
     else
      bif (operand_1 == 5) then
       (qdr N r1.1.Frac).bind fun r27 =>
       some (r27,0)
      else
       bif (operand_1 == 6) then
        (qe6 N r1.1.Frac).bind fun r31 =>
        (qdr N r31).bind fun r34 =>
        some (r34,0)
       else
        some (0,1)
end Go.Proofs.YtboacfcnmhnbdaaGreatDoor
