/- Texts of this proof, put together by pack.py: what its declarations name. -/
import Derived.Test.YtboacfcnmhnbdaaGreatDoorPkOr3
import Derived.Test.YtboacfcnmhnbdaaGreatDoorCards
import Derived.Test.YtboacfcnmhnbdaaGreatDoorChecked
import Derived.Test.YtboacfcnmhnbdaaGreatDoorProg
import Derived.Test.YtboacfcnmhnbdaaGreatDoorRows
import Derived.Test.YtboacfcnmhnbdaaGreatDoorTie
set_option linter.unusedVariables false
set_option linter.unusedSimpArgs false
namespace Go.Proofs.YtboacfcnmhnbdaaGreatDoor
open Go.X
variable {u:World} {m0:Mem} {S:Segs} {w:World}
set_option maxHeartbeats 4000000
set_option maxRecDepth 100000
def qiC (u:World) (m0:Mem) (S:Segs) (pb0:Nat) (x0:Classes) (c1:Value) (c3:Value) (M4:List (Nat × Obj)) (c6:Value) (M7:List (Nat × Obj)) (r:Classes) (a:Act) (w:World):Prop :=
 ∃ m1 c9 c11 M12 c14 M15,m0.le m1 ∧ Ok u m1 ([(pb0,oc 153 [c9,c11,c14])] :: M12 :: M15 :: S) w ∧ a.defers = [] ∧ RVs Tryz.prog a w [] ∧ (pL 4 qag) m1 [c9] r.l ∧ ORow 162 2 qbM m1 c11 r.wholes M12 ∧ ORow 162 2 qbM m1 c14 r.fraction M15
theorem qiE (N:Nat) {pb0:Nat} {c1:Value} {c3:Value} {M4:List (Nat × Obj)} {c6:Value} {M7:List (Nat × Obj)} (x0:Classes) (h2:(pL 4 qag) m0 [c1] x0.l) (h5:ORow 162 2 qbM m0 c3 x0.wholes M4) (h8:ORow 162 2 qbM m0 c6 x0.fraction M7) {r:Classes} (hF:qcP N x0 = some r) (hG:Glob u) (hTb:Tab u) (ok:Ok u m0 ([(pb0,oc 153 [c1,c3,c6])] :: M4 :: M7 :: S) w) :
  Calls Tryz.prog 146 [vp pb0].toArray w fun e w'=>∃ m1 c9 c11 M12 c14 M15,e = .returned (.tuple [].toArray) ∧ m0.le m1 ∧ Ok u m1 ([(pb0,oc 153 [c9,c11,c14])] :: M12 :: M15 :: S) w' ∧ (pL 4 qag) m1 [c9] r.l ∧ ORow 162 2 qbM m1 c11 r.wholes M12 ∧ ORow 162 2 qbM m1 c14 r.fraction M15:=by
 have le_m0:=Mem.le.refl m0
 unfold qcP at hF
 refine en (qiC u m0 S pb0 x0 c1 c3 M4 c6 M7) r Tryz.func146 rfl rfl rfl (by rintro a w ⟨m1,c9,c11,M12,c14,M15,hle,ok,hd,hrv,h0,h1,h2⟩; exact qaZ [] hd rfl hrv ⟨m1,c9,c11,M12,c14,M15,rfl,hle,ok,h0,h1,h2⟩) fun fin a E=>sg<|mv E rfl fun a E=>lw E (qah rfl) fun a E=>fk E ok qif qgs rfl 0 rfl rfl fun a E=>lv E ok (qaz qcu h2 rfl) fun a E=>bd hF fun l17 e18 hF=>qeb (R:=qbf) E ok qec qei rfl ⟨rfl,(ir 0),(ir 0)⟩ rfl e18 rfl rfl fun c19 M20 a w E ok h21=>lw E (qbW (ps:=[(0,.const (vs ([]))),(1,.tmp 19),(2,.const (vb true))]) (qs:=[(0,[(vs ([]))]),(1,[c19]),(2,[vb true])]) (cs:=[(vs ([])),c19,vb true]) qbl qc0 rfl ⟨rfl,rfl,rfl,⟨rfl,(ORow.cells h21),rfl,⟨rfl,rfl,rfl,trivial⟩⟩⟩ rfl) fun a E=>?_
 obtain ⟨m22,hle,ok,hfz⟩:=(ok.frs 0 rfl).freeze
 have h23:=ORow.froz qa0 h21 hle hfz (by decide)
 have le_m0:=le_m0.trans hle
 have h2:=(mL qad).up hle h2
 have h5:=ORow.up qb6 hle h5
 have h8:=ORow.up qb6 hle h8
 refine qcT (R:=qhw) (xo:=[.tmp 20]) (xs:=([(State.mk ([]) l17 true)]:List (State))) E ok qlz qbl rfl ⟨⟨_,rfl,rfl,⟨_,rfl,(show ([]:List UInt8).length ≤ LIMS by decide),h23⟩⟩,trivial⟩ rfl rfl rfl rfl fun c24 M25 a w E ok h26=>aw E rfl fun a E=>sg<|av E rfl fun a E=>wn<|wp_block<|bd hF fun o43 hL hF=>qaE _ (fun (s:(List (State)) × Int × Classes) a w=>∃ m44 c45 M46 c49 c51 M52 c54 M55,m22.le m44 ∧ Ok u m44 (M46 :: [(pb0,oc 153 [c49,c51,c54])] :: M52 :: M55 :: S) w ∧ Env 136 a [(0,vp pb0),(2,c45),(3,vi s.2.1)] ∧ ORow 172 3 qhw m44 c45 s.1 M46 ∧ InR .i64 s.2.1 ∧ (pL 4 qag) m44 [c49] s.2.2.l ∧ ORow 162 2 qbM m44 c51 s.2.2.wholes M52 ∧ ORow 162 2 qbM m44 c54 s.2.2.fraction M55) (fun (b:Classes) e a w=>e = (.exit 0) ∧ ∃ m522 c523 c525 M526 c528 M529,m22.le m522 ∧ Ok u m522 ([(pb0,oc 153 [c523,c525,c528])] :: M526 :: M529 :: S) w ∧ Env 136 a [] ∧ (pL 4 qag) m522 [c523] b.l ∧ ORow 162 2 qbM m522 c525 b.wholes M526 ∧ ORow 162 2 qbM m522 c528 b.fraction M529) ?_ ?_ N _ a w hL ⟨m22,c24,M25,c1,c3,M4,c6,M7,Mem.le.refl _,ok,E.keep [0,2,3],h26,(ir 0),h2,h5,h8⟩
 rotate_left
 ·intro e a w _ hO
  obtain ⟨rfl,m513,c514,c516,M517,c519,M520,hle,ok,E,h515,h518,h521⟩:=hO
  have le_m0:=le_m0.trans hle
  have h2:=(mL qad).up hle h2
  have h23:=(mL qa0).up hle h23
  refine qaK ?_
  exact fin hF ⟨m513,c514,c516,M517,c519,M520,le_m0,ok,E.d,trivial,h515,h518,h521⟩
 rintro ⟨v57,v58,v59⟩ a w r ⟨m60,c61,M62,c65,c67,M68,c70,M71,hle,ok,E,h63,r64,h66,h69,h72⟩ hF
 replace hF:qa8 N v57 v58 v59 = some r:=hF
 unfold qa8 at hF
 have le_m22:=Mem.le.refl m22
 have le_m0:=le_m0.trans hle
 have le_m22:=le_m22.trans hle
 have h2:=(mL qad).up hle h2
 have h23:=(mL qa0).up hle h23
 refine wp_seq<|sg<|mv E rfl fun a E=>lw E (qik rfl rfl) fun a E=>wn<|cg E rfl hF (fun c73 hF=>?_) fun c73 hF=>?_
 ·refine wp_exit<|qay ?_
  cases hF
  exact so (⟨rfl,⟨m60,c65,c67,M68,c70,M71,le_m22,(ok.pk 4 [1,2,3] rfl (by decide)),E.keep [],h66,h69,h72⟩⟩)
 refine wp_skip<|qaa<|wp_seq<|wp_block<|sg<|av E rfl fun a E=>wn<|sg<|qrH kS (oneV pB) E ok rfl rfl fun c74 M75 a w E ok h76=>aw E rfl fun a E=>wp_seq<|sg<|mv E rfl fun a E=>lv E ok (qiq qlz h63 rfl) fun a E=>mv E rfl fun a E=>wn<|wp_block ?_
 obtain ⟨M93,ok,h94⟩:=qfv (e:=172) (k:=3) (R:=qhw) ok
 refine bd hF fun o95 hL hF=>qaE _ (fun (s:(List (State)) × Int × Classes × (List (List UInt8 × Bool))) a w=>∃ m96 c97 M98 c101 c103 M104 c106 M107 c109 M110,m60.le m96 ∧ Ok u m96 (M98 :: M110 :: M62 :: [(pb0,oc 153 [c101,c103,c106])] :: M104 :: M107 :: S) w ∧ Env 136 a [(0,vp pb0),(3,vi v58),(4,c97),(5,c109),(27,c61),(28,(vi (v57.length:Int))),(29,vi s.2.1)] ∧ ORow 172 3 qhw m96 c97 s.1 M98 ∧ InR .i64 s.2.1 ∧ (pL 4 qag) m96 [c101] s.2.2.1.l ∧ ORow 162 2 qbM m96 c103 s.2.2.1.wholes M104 ∧ ORow 162 2 qbM m96 c106 s.2.2.1.fraction M107 ∧ OMap kS (oneV pB) m96 c109 s.2.2.2 M110) (fun (b:(Classes × (List (State)))) e a w=>e = (.exit 2) ∧ ∃ m501 c502 c504 M505 c507 M508 c510 M511,m60.le m501 ∧ Ok u m501 (M511 :: M62 :: [(pb0,oc 153 [c502,c504,c507])] :: M505 :: M508 :: S) w ∧ Env 136 a [(0,vp pb0),(3,vi v58),(4,c510)] ∧ (pL 4 qag) m501 [c502] b.1.l ∧ ORow 162 2 qbM m501 c504 b.1.wholes M505 ∧ ORow 162 2 qbM m501 c507 b.1.fraction M508 ∧ ORow 172 3 qhw m501 c510 b.2 M511) ?_ ?_ N _ a w hL ⟨m60,(Value.slice none 0 0),M93,c65,c67,M68,c70,M71,c74,M75,Mem.le.refl _,ok,E.keep [0,3,4,5,27,28,29],h94,(ir 0),h66,h69,h72,h76⟩
 rotate_left
 ·intro e a w _ hO
  obtain ⟨rfl,m489,c490,c492,M493,c495,M496,c498,M499,hle,ok,E,h491,h494,h497,h500⟩:=hO
  have le_m0:=le_m0.trans hle
  have le_m22:=le_m22.trans hle
  have h2:=(mL qad).up hle h2
  have h23:=(mL qa0).up hle h23
  have h66:=(mL qad).up hle h66
  refine qaK<|qaa<|qab<|mv E rfl fun a E=>av E rfl fun a E=>wpList_nil<|qaq<|qaa<|qab<|mv E rfl fun a E=>lw E (qbr rfl rfl) fun a E=>av E rfl fun a E=>wpList_nil ?_
  cases hF
  exact qaw ⟨m489,c498,M499,c490,c492,M493,c495,M496,le_m22,(ok.pk 5 [0,2,3,4] rfl (by decide)),E.keep [0,2,3],h500,(InR.wrap _ _),h491,h494,h497⟩
 rintro ⟨v112,v113,v114,v115⟩ a w r ⟨m116,c117,M118,c121,c123,M124,c126,M127,c129,M130,hle,ok,E,h119,r120,h122,h125,h128,h131⟩ hF
 replace hF:qaS N v57 v112 v113 v114 v115 = some r:=hF
 unfold qaS at hF
 have le_m60:=Mem.le.refl m60
 have le_m0:=le_m0.trans hle
 have le_m22:=le_m22.trans hle
 have le_m60:=le_m60.trans hle
 have h2:=(mL qad).up hle h2
 have h23:=(mL qa0).up hle h23
 have h63:=ORow.up qdE hle h63
 have h66:=(mL qad).up hle h66
 refine sg<|lw E (qaG rfl rfl) fun a E=>wn<|wp_seq<|cg E rfl hF (fun c132 hF=>?_) fun c132 hF=>?_
 ·refine wp_exit<|qay ?_
  cases hF
  exact so (⟨rfl,⟨m116,c121,c123,M124,c126,M127,c117,M118,le_m60,(ok.pk 6 [0,2,3,4,5] rfl (by decide)),E.keep [0,3,4],h122,h125,h128,h119⟩⟩)
 refine wp_skip<|qaa<|wp_seq<|wp_block<|sg ?_
 obtain ⟨x133,e134,hF⟩:=bnd hF
 obtain ⟨b135,o136,hp137,yy138⟩:=qeM qlz h63 e134 (P:=Tryz.prog) (X:=.tmp 27) (I:=.tmp 29) (kd:=.i64) (qbo E rfl) (qbo E rfl)
 refine lv E ok (yy138 _ _) fun a E=>?_
 obtain ⟨es139,hl140,rr141,hh142⟩:=qhJ h63 e134 hp137 (by decide)
 obtain ⟨c144,rfl,l143,h145⟩:=rr141
 refine lv E ok (qaj (cs:=[vs x133.s,c144,vb x133.integer]) qp3 rfl rfl (hh142 _ _ _ 2 rfl)) fun a E=>qaD E ok qbl rfl rfl fun b146 a w E ok=>qae E ok 0 rfl rfl rfl qe4 rfl rfl ⟨rfl,(qhv h145),rfl,trivial⟩ rfl rfl fun w ok=>wn<|sg<|mv E rfl fun a E=>fk E ok qjk qj2 rfl 0 rfl rfl fun a E=>?_
 obtain ⟨r147,e148,hF⟩:=bnd hF
 replace ok:Ok u m116 ([(pb0,oc 153 [c121,c123,c126])] :: M124 :: M127 :: [(b146,oc 172 [vs x133.s,c144,vb x133.integer])] :: M118 :: M130 :: M62 :: S) w:=(ok.pk 7 [4,5,6,0,1,2,3] rfl (by decide))
 refine qaf E qrs rfl (qhE N true _ x133.trackers h145 v114 h122 h125 h128 e148 hG ok) rfl rfl ?_
 rintro _ w ⟨⟨rfl,ok⟩,r149⟩
 refine ⟨_,rfl,fun a E=>?_⟩
 refine aw E rfl fun a E=>wp_seq<|sg<|fk E ok qkL qfY rfl 3 rfl rfl fun a E=>lw E (qaU rfl) fun a E=>wn<|bd hF fun o150 hJ hF=>qbm (Q':=fun e a w=>e = .normal ∧ Ok u m116 ([(pb0,oc 153 [c121,c123,c126])] :: M124 :: M127 :: [(b146,oc 172 [vs x133.s,c144,vb x133.integer])] :: M118 :: M130 :: M62 :: S) w ∧ Env 136 a [(0,vp pb0),(3,vi v58),(4,c117),(5,c129),(7,vp b146),(8,vu o150),(27,c61),(28,(vi (v57.length:Int))),(29,vi v113)] ∧ InR .u64 o150) ?_ ?_
 ·have hF:=hJ
  refine cg E rfl hF (fun c152 hF=>?_) fun c152 hF=>?_
  ·refine wp_skip ?_
   cases hF
   exact ⟨rfl,⟨ok,E.keep [0,3,4,5,7,8,27,28,29],r149⟩⟩
  refine qab<|mv E rfl fun a E=>lw E (qi7 .or (by decide) rfl rfl) fun a E=>av E rfl fun a E=>wpList_nil ?_
  cases hF
  exact ⟨rfl,⟨ok,E.keep [0,3,4,5,7,8,27,28,29],(qod .or .u64 r147 9223372036854775808)⟩⟩
 intro e a w hO
 obtain ⟨rfl,ok,E,r153⟩:=hO
 refine qaa<|wp_seq<|bd hF fun o154 hJ hF=>qbm (Q':=fun e a w=>e = .normal ∧ ∃ m155 c156 c158 M159 c161 M162,m116.le m155 ∧ Ok u m155 ([(pb0,oc 153 [c156,c158,c161])] :: M159 :: M162 :: [(b146,oc 172 [vs x133.s,c144,vb x133.integer])] :: M118 :: M130 :: M62 :: S) w ∧ Env 136 a [(0,vp pb0),(3,vi v58),(4,c117),(5,c129),(7,vp b146),(27,c61),(28,(vi (v57.length:Int))),(29,vi v113)] ∧ (pL 4 qag) m155 [c156] o154.l ∧ ORow 162 2 qbM m155 c158 o154.wholes M159 ∧ ORow 162 2 qbM m155 c161 o154.fraction M162) ?_ ?_
 ·have hF:=hJ
  have le_m116:=Mem.le.refl m116
  obtain ⟨r164,e165,hF⟩:=bnd hF
  obtain rfl:=sj hF
  refine qcI [4,7] (Cls u m116 ([(pb0,oc 153 [c121,c123,c126])] :: M124 :: [(b146,oc 172 [vs x133.s,c144,vb x133.integer])] :: M118 :: M130 :: M62 :: [])) (Cls u m116 (M124 :: [(b146,oc 172 [vs x133.s,c144,vb x133.integer])] :: M118 :: M130 :: M62 :: [])) (by kernel_rfl) ?_
  intro w hw
  replace ok:=qdF ok hw
  clear hw
  have h122_o:=h122
  have h145_o:=h145
  refine qar (cl1 (cq le_m116 ok [0,1,3,4,5,6] rfl) (cq le_m116 ok [1,3,4,5,6] rfl)) fun hT=>kt 0 E rfl hT (qal rfl) fun a E=>kt 1 E rfl hT (qal rfl) fun a E=>kt 2 E rfl hT (qah rfl) fun a E=>kt 3 E rfl hT (qau qjf rfl) fun a E=>qcv 4 E rfl (by kernel_rfl) nP hT (qas qhC rfl (qac.cown 0 rfl rfl)) rfl rfl fun a E=>kt 5 E rfl hT (qal rfl) fun a E=>kt 6 E rfl hT (qau qmG rfl) fun a E=>qcv 7 E rfl (by kernel_rfl) nP hT (qas qbY rfl (qac.cown 2 rfl rfl)) rfl rfl fun a E=>kt 8 E rfl hT (qbW (ps:=[(0,.tmp 47),(1,.tmp 49)]) (qs:=[(0,[vu o150]),(1,[vs x133.s])]) (cs:=[vu o150,vs x133.s]) qfi qnd rfl ⟨rfl,rfl,rfl,⟨rfl,rfl,rfl,trivial⟩⟩ rfl) fun a E=>qaF [9] (by kernel_rfl) rfl (qaJ ?_)
  ·refine qcO (o:=_) rfl ?_
   replace ok:Ok u m116 (M127 :: [(pb0,oc 153 [c121,c123,c126])] :: M124 :: [(b146,oc 172 [vs x133.s,c144,vb x133.integer])] :: M118 :: M130 :: M62 :: S) w:=(ok.pk 7 [2,0,1,3,4,5,6] rfl (by decide))
   refine qaf E qrG rfl (qkP N _ v114.fraction h128 _ (Part.mk o150 x133.s) ⟨rfl,r153,l143⟩ e165 hG ok) rfl rfl ?_
   rintro _ w ⟨m170,c171,M172,rfl,hle,ok,h173⟩
   have le_m0:=le_m0.trans hle
   have le_m22:=le_m22.trans hle
   have le_m60:=le_m60.trans hle
   have le_m116:=le_m116.trans hle
   have h2:=(mL qad).up hle h2
   have h23:=(mL qa0).up hle h23
   have h63:=ORow.up qdE hle h63
   have h66:=(mL qad).up hle h66
   have h119:=ORow.up qdE hle h119
   have h122:=(mL qad).up hle h122
   have h125:=ORow.up qb6 hle h125
   have h131:=OMap.up (qhF mB) hle h131
   have h145:=(mL qa0).up hle h145
   refine ⟨_,rfl,fun a E=>?_⟩
   refine wn<|qar (cl1 (cq le_m116 ok [1,2,3,4,5,6] rfl) (cq le_m116 ok [2,3,4,5,6] rfl)) fun hT=>kt 10 E rfl hT (qah rfl) fun a E=>kt 11 E rfl hT (qau qjf rfl) fun a E=>qaF [12] (by kernel_rfl) rfl (qaJ ?_)
   ·refine wo rfl<|qae E ok 1 rfl rfl rfl qqa (ORow.cells h173) rfl ⟨(ORow.one h173),trivial⟩ rfl rfl fun w ok=>wn<|qar (cl2 (by kernel_rfl) (cq le_m116 ok [2,3,4,5,6] rfl)) fun hT=>qbQ (by kernel_rfl) ?_
    exact ⟨rfl,⟨m170,c121,c123,M124,c171,M172,le_m116,(ok.pk 7 [1,2,0,3,4,5,6] rfl (by decide)),E.keep [0,3,4,5,7,27,28,29],h122,h125,h173⟩⟩
 intro e a w hO
 obtain ⟨rfl,m174,c175,c177,M178,c180,M181,hle,ok,E,h176,h179,h182⟩:=hO
 have le_m0:=le_m0.trans hle
 have le_m22:=le_m22.trans hle
 have le_m60:=le_m60.trans hle
 have h2:=(mL qad).up hle h2
 have h23:=(mL qa0).up hle h23
 have h63:=ORow.up qdE hle h63
 have h66:=(mL qad).up hle h66
 have h119:=ORow.up qdE hle h119
 have h122:=(mL qad).up hle h122
 have h131:=OMap.up (qhF mB) hle h131
 have h145:=(mL qa0).up hle h145
 refine qaa<|sg<|mv E rfl fun a E=>wn<|wp_block<|bd hF fun o194 hL hF=>qaE _ (fun (s:(List (State)) × Int × (List (List UInt8 × Bool))) a w=>∃ m195 c196 M197 c200 M201,m174.le m195 ∧ Ok u m195 ([(pb0,oc 153 [c175,c177,c180])] :: M178 :: M181 :: [(b146,oc 172 [vs x133.s,c144,vb x133.integer])] :: M197 :: M201 :: M62 :: S) w ∧ Env 136 a [(0,vp pb0),(3,vi v58),(4,c196),(5,c200),(7,vp b146),(27,c61),(28,(vi (v57.length:Int))),(29,vi v113),(54,vi s.2.1)] ∧ ORow 172 3 qhw m195 c196 s.1 M197 ∧ InR .i64 s.2.1 ∧ OMap kS (oneV pB) m195 c200 s.2.2 M201) (fun (b:((List (State)) × (List (List UInt8 × Bool)))) e a w=>e = (.exit 4) ∧ ∃ m482 c483 M484 c486 M487,m174.le m482 ∧ Ok u m482 ([(pb0,oc 153 [c175,c177,c180])] :: M178 :: M181 :: [(b146,oc 172 [vs x133.s,c144,vb x133.integer])] :: M484 :: M487 :: M62 :: S) w ∧ Env 136 a [(0,vp pb0),(3,vi v58),(4,c483),(5,c486),(27,c61),(28,(vi (v57.length:Int))),(29,vi v113)] ∧ ORow 172 3 qhw m482 c483 b.1 M484 ∧ OMap kS (oneV pB) m482 c486 b.2 M487) ?_ ?_ N _ a w hL ⟨m174,c117,M118,c129,M130,Mem.le.refl _,ok,E.keep [0,3,4,5,7,27,28,29,54],h119,(ir 0),h131⟩
 rotate_left
 ·intro e a w _ hO
  obtain ⟨rfl,m475,c476,M477,c479,M480,hle,ok,E,h478,h481⟩:=hO
  have le_m0:=le_m0.trans hle
  have le_m22:=le_m22.trans hle
  have le_m60:=le_m60.trans hle
  have h2:=(mL qad).up hle h2
  have h23:=(mL qa0).up hle h23
  have h63:=ORow.up qdE hle h63
  have h66:=(mL qad).up hle h66
  have h122:=(mL qad).up hle h122
  have h145:=(mL qa0).up hle h145
  have h176:=(mL qad).up hle h176
  have h179:=ORow.up qb6 hle h179
  have h182:=ORow.up qb6 hle h182
  refine qaK<|qaq<|qaa<|qab<|lw E (qaA rfl rfl (InR.inc r120 (ORow.InR h63) c132)) fun a E=>mv E rfl fun a E=>wpList_nil ?_
  cases hF
  exact qaw ⟨m475,c476,M477,c175,c177,M178,c180,M181,c479,M480,le_m60,(ok.pk 7 [4,5,6,0,1,2] rfl (by decide)),E.keep [0,3,4,5,27,28,29],h478,(InR.inc r120 (ORow.InR h63) c132),h176,h179,h182,h481⟩
 rintro ⟨v203,v204,v205⟩ a w r ⟨m206,c207,M208,c211,M212,hle,ok,E,h209,r210,h213⟩ hF
 replace hF:qaW N x133 o154 v203 v204 v205 = some r:=hF
 unfold qaW at hF
 have le_m174:=Mem.le.refl m174
 have le_m0:=le_m0.trans hle
 have le_m22:=le_m22.trans hle
 have le_m60:=le_m60.trans hle
 have le_m174:=le_m174.trans hle
 have h2:=(mL qad).up hle h2
 have h23:=(mL qa0).up hle h23
 have h63:=ORow.up qdE hle h63
 have h66:=(mL qad).up hle h66
 have h122:=(mL qad).up hle h122
 have h145:=(mL qa0).up hle h145
 have h176:=(mL qad).up hle h176
 have h179:=ORow.up qb6 hle h179
 have h182:=ORow.up qb6 hle h182
 refine sg<|lw E (qaG rfl rfl) fun a E=>wn<|wp_seq<|cg E rfl hF (fun c214 hF=>?_) fun c214 hF=>?_
 ·refine wp_exit<|qay ?_
  cases hF
  exact so (⟨rfl,⟨m206,c207,M208,c211,M212,le_m174,ok,E.keep [0,3,4,5,27,28,29],h209,h213⟩⟩)
 refine wp_skip<|qaa<|wp_seq<|wp_block<|sg<|mv E rfl fun a E=>av E rfl fun a E=>wn<|wp_seq<|bd hF fun o215 hJ hF=>qbm (Q':=fun e a w=>e = .normal ∧ ∃ b220 c217 M218,Ok u m206 ([(b220,oc 172 [vs o215.s,c217,vb o215.integer])] :: M218 :: [(pb0,oc 153 [c175,c177,c180])] :: M178 :: M181 :: [(b146,oc 172 [vs x133.s,c144,vb x133.integer])] :: M208 :: M212 :: M62 :: S) w ∧ Env 136 a [(0,vp pb0),(3,vi v58),(4,c207),(5,c211),(7,vp b146),(9,vi v204),(10,vp b220),(27,c61),(28,(vi (v57.length:Int))),(29,vi v113),(54,vi v204)] ∧ o215.s.length ≤ LIMS ∧ ORow 157 2 qbf m206 c217 o215.trackers M218) ?_ ?_
 rotate_left
 ·as_aux_lemma =>
   intro e a w hO
   obtain ⟨rfl,b288,c285,M286,ok,E,l284,h287⟩:=hO
   refine qaa<|sg<|fk E ok qkL qfY rfl 0 rfl rfl fun a E=>bd hF fun r289 e290 hF=>qaf E qun rfl (qkv N o215.integer e290 hG ok) rfl rfl ?_
   rintro _ w ⟨⟨rfl,ok⟩,l291⟩
   refine ⟨_,rfl,fun a E=>?_⟩
   refine aw E rfl fun a E=>wp_seq<|sg<|mv E rfl fun a E=>lw E (qah rfl) fun a E=>fk E ok qif qgs rfl 2 rfl rfl fun a E=>lv E ok (qaz qcu h176 rfl) fun a E=>mv E rfl fun a E=>wn<|wp_block<|bd hF fun o300 hL hF=>qaE _ (fun (s:(List UInt8) × Int × State) a w=>∃ m301 c305 M306,m206.le m301 ∧ Ok u m301 ([(b288,oc 172 [vs s.2.2.s,c305,vb s.2.2.integer])] :: M306 :: [(pb0,oc 153 [c175,c177,c180])] :: M178 :: M181 :: [(b146,oc 172 [vs x133.s,c144,vb x133.integer])] :: M208 :: M212 :: M62 :: S) w ∧ Env 136 a [(0,vp pb0),(3,vi v58),(4,c207),(5,c211),(7,vp b146),(9,vi v204),(10,vp b288),(11,vs s.1),(27,c61),(28,(vi (v57.length:Int))),(29,vi v113),(54,vi v204),(81,c175),(82,(vi (o154.l.length:Int))),(83,vi s.2.1)] ∧ s.1.length ≤ LIMS ∧ InR .i64 s.2.1 ∧ s.2.2.s.length ≤ LIMS ∧ ORow 157 2 qbf m301 c305 s.2.2.trackers M306) (fun (b:(State × (List UInt8))) e a w=>e = (.exit 6) ∧ ∃ m469 c471 M472,m206.le m469 ∧ Ok u m469 ([(b288,oc 172 [vs b.1.s,c471,vb b.1.integer])] :: M472 :: [(pb0,oc 153 [c175,c177,c180])] :: M178 :: M181 :: [(b146,oc 172 [vs x133.s,c144,vb x133.integer])] :: M208 :: M212 :: M62 :: S) w ∧ Env 136 a [(0,vp pb0),(3,vi v58),(4,c207),(5,c211),(7,vp b146),(10,vp b288),(11,vs b.2),(27,c61),(28,(vi (v57.length:Int))),(29,vi v113),(54,vi v204)] ∧ b.1.s.length ≤ LIMS ∧ ORow 157 2 qbf m469 c471 b.1.trackers M472 ∧ b.2.length ≤ LIMS) ?_ ?_ N _ a w hL ⟨m206,c285,M286,Mem.le.refl _,ok,E.keep [0,3,4,5,7,9,10,11,27,28,29,54,81,82,83],l291,(ir 0),l284,h287⟩
   rotate_left
   ·as_aux_lemma =>
     intro e a w _ hO
     obtain ⟨rfl,m444,c446,M447,hle,ok,E,l445,h448,l449⟩:=hO
     have le_m0:=le_m0.trans hle
     have le_m22:=le_m22.trans hle
     have le_m60:=le_m60.trans hle
     have le_m174:=le_m174.trans hle
     have h2:=(mL qad).up hle h2
     have h23:=(mL qa0).up hle h23
     have h63:=ORow.up qdE hle h63
     have h66:=(mL qad).up hle h66
     have h122:=(mL qad).up hle h122
     have h145:=(mL qa0).up hle h145
     have h176:=(mL qad).up hle h176
     have h179:=ORow.up qb6 hle h179
     have h182:=ORow.up qb6 hle h182
     have h209:=ORow.up qdE hle h209
     have h213:=OMap.up (qhF mB) hle h213
     refine qaK<|qaa<|sg<|mz E rfl rfl fun a E=>?_
     obtain ⟨xv450,h451,yy452,yy453⟩:=qvx (P:=Tryz.prog) (mo:=.tmp 123) (ko:=.tmp 124) (zx:=(false:Bool)) ok 7 (qo5 Tryz.underlying9) Tryz.underlying174 h213 rfl (qbo E rfl) (qbo E rfl) ⟨rfl,l449⟩ qtg qjG
     obtain rfl:=qrM h451
     refine lv E ok (yy452 _) fun a E=>lw E (qaU rfl) fun a E=>wn<|cg E rfl hF (fun c454 hF=>?_) fun c454 hF=>?_
     ·refine wp_skip<|qaq<|qaa<|qab<|lw E (qaA rfl rfl (InR.inc r210 (ir 10) c214)) fun a E=>mv E rfl fun a E=>wpList_nil ?_
      cases hF
      exact qaw ⟨m444,c207,M208,c211,M212,le_m174,(ok.pk 9 [2,3,4,5,6,7,8] rfl (by decide)),E.keep [0,3,4,5,7,27,28,29,54],h209,(InR.inc r210 (ir 10) c214),h213⟩
     refine sg<|mz E rfl rfl fun a E=>bd hF fun l455 e456 hF=>qtV (.inl rfl) E ok 7 (qo5 Tryz.underlying9) Tryz.underlying174 h213 rfl rfl rfl rfl ⟨rfl,l449⟩ qjG e456 rfl fun M457 w ok h458=>wn<|qab<|mv E rfl fun a E=>lv E ok (qaj (cs:=[vs o300.1.s,c446,vb o300.1.integer]) qp3 rfl rfl (qac.own 0 rfl rfl)) fun a E=>?_
     obtain ⟨m459,hle,ok,hfz⟩:=(ok.frs 1 rfl).freeze
     have h460:=ORow.froz qa0 h448 hle hfz (by decide)
     have le_m0:=le_m0.trans hle
     have le_m22:=le_m22.trans hle
     have le_m60:=le_m60.trans hle
     have le_m174:=le_m174.trans hle
     have h2:=(mL qad).up hle h2
     have h23:=(mL qa0).up hle h23
     have h63:=ORow.up qdE hle h63
     have h66:=(mL qad).up hle h66
     have h122:=(mL qad).up hle h122
     have h145:=(mL qa0).up hle h145
     have h176:=(mL qad).up hle h176
     have h179:=ORow.up qb6 hle h179
     have h182:=ORow.up qb6 hle h182
     have h209:=ORow.up qdE hle h209
     have h458:=OMap.up (qhF mB) hle h458
     refine qcT (R:=qhw) (xo:=[.tmp 130]) (xs:=([o300.1]:List (State))) E ok qlz qbl rfl ⟨⟨_,rfl,rfl,⟨_,rfl,l445,h460⟩⟩,trivial⟩ rfl rfl rfl rfl fun c461 M462 a w E ok h463=>bd hF fun l464 e465 hF=>qgK (R:=qhw) E ok 6 qdE qlz Tryz.underlying173 rfl h209 (qcK.ofRow h463 0 rfl ok) e465 ⟨_,qbl,rfl⟩ rfl rfl rfl rfl fun c466 M467 a w E ok h468=>av E rfl fun a E=>wpList_nil<|qaq<|qaa<|qab<|lw E (qaA rfl rfl (InR.inc r210 (ir 10) c214)) fun a E=>mv E rfl fun a E=>wpList_nil ?_
     cases hF
     exact qaw ⟨m459,c466,M467,c211,M457,le_m174,(ok.pk 9 [2,3,4,5,6,7,8] rfl (by decide)),E.keep [0,3,4,5,7,27,28,29,54],h468,(InR.inc r210 (ir 10) c214),h458⟩
   rintro ⟨v308,v309,v310⟩ a w r ⟨m311,c315,M316,hle,ok,E,l312,r313,l314,h317⟩ hF
   replace hF:qaQ N x133 o154 v204 v308 v309 v310 = some r:=hF
   unfold qaQ at hF
   have le_m206:=Mem.le.refl m206
   have le_m0:=le_m0.trans hle
   have le_m22:=le_m22.trans hle
   have le_m60:=le_m60.trans hle
   have le_m174:=le_m174.trans hle
   have le_m206:=le_m206.trans hle
   have h2:=(mL qad).up hle h2
   have h23:=(mL qa0).up hle h23
   have h63:=ORow.up qdE hle h63
   have h66:=(mL qad).up hle h66
   have h122:=(mL qad).up hle h122
   have h145:=(mL qa0).up hle h145
   have h176:=(mL qad).up hle h176
   have h179:=ORow.up qb6 hle h179
   have h182:=ORow.up qb6 hle h182
   have h209:=ORow.up qdE hle h209
   have h213:=OMap.up (qhF mB) hle h213
   refine sg<|lw E (qaG rfl rfl) fun a E=>wn<|wp_seq<|cg E rfl hF (fun c318 hF=>?_) fun c318 hF=>?_
   ·refine wp_exit<|qay ?_
    cases hF
    exact so (⟨rfl,⟨m311,c315,M316,le_m206,ok,E.keep [0,3,4,5,7,10,11,27,28,29,54],l314,h317,l312⟩⟩)
   refine wp_skip<|qaa<|wp_seq<|wp_block<|sg<|mv E rfl fun a E=>?_
   obtain ⟨x319,e320,hF⟩:=bnd hF
   obtain ⟨b321,o322,es323,hl324,rr325,at326,yy327⟩:=ia E 81 83 qcu h176 e320
   obtain ⟨c330,rfl,r328,r329,h331⟩:=rr325
   refine lv E ok (yy327 _ _) fun a E=>lv E ok (qaj (cs:=[vi x319.Operand,vi x319.Mod,vb x319.Not,c330]) qcG rfl rfl (qac.ro at326)) fun a E=>qaD E ok qdJ rfl rfl fun b332 a w E ok=>av E rfl fun a E=>qae E ok 0 rfl rfl rfl qim rfl rfl ⟨rfl,rfl,rfl,(qhv h331),trivial⟩ rfl rfl fun w ok=>wn<|wp_seq<|sg<|lv E ok (qaj (cs:=[vi x319.Operand,vi x319.Mod,vb x319.Not,c330]) qcG rfl rfl (qac.own 0 rfl rfl)) fun a E=>bd hF fun r333 e334 hF=>lc E qln rfl (qfj N _ x319 ⟨_,rfl,r328,r329,h331⟩ e334 hG ok) fun w ok a E=>lw E (qaU rfl) fun a E=>wn<|bd hF fun o335 hJ hF=>qbm (Q':=fun e a w=>e = .normal ∧ ∃ m336 c338 M339,m311.le m336 ∧ Ok u m336 ([(b332,oc 52 [vi x319.Operand,vi x319.Mod,vb x319.Not,c330])] :: [(b288,oc 172 [vs o335.s,c338,vb o335.integer])] :: M339 :: [(pb0,oc 153 [c175,c177,c180])] :: M178 :: M181 :: [(b146,oc 172 [vs x133.s,c144,vb x133.integer])] :: M208 :: M212 :: M62 :: S) w ∧ Env 136 a [(0,vp pb0),(3,vi v58),(4,c207),(5,c211),(7,vp b146),(9,vi v204),(10,vp b288),(11,vs v308),(12,vi v309),(27,c61),(28,(vi (v57.length:Int))),(29,vi v113),(54,vi v204),(81,c175),(82,(vi (o154.l.length:Int))),(83,vi v309)] ∧ o335.s.length ≤ LIMS ∧ ORow 157 2 qbf m336 c338 o335.trackers M339) ?_ ?_
   rotate_left
   ·intro e a w hO
    obtain ⟨rfl,m401,c403,M404,hle,ok,E,l402,h405⟩:=hO
    have le_m0:=le_m0.trans hle
    have le_m22:=le_m22.trans hle
    have le_m60:=le_m60.trans hle
    have le_m174:=le_m174.trans hle
    have le_m206:=le_m206.trans hle
    have h2:=(mL qad).up hle h2
    have h23:=(mL qa0).up hle h23
    have h63:=ORow.up qdE hle h63
    have h66:=(mL qad).up hle h66
    have h122:=(mL qad).up hle h122
    have h145:=(mL qa0).up hle h145
    have h176:=(mL qad).up hle h176
    have h179:=ORow.up qb6 hle h179
    have h182:=ORow.up qb6 hle h182
    have h209:=ORow.up qdE hle h209
    have h213:=OMap.up (qhF mB) hle h213
    have h331:=(mL qhh).up hle h331
    have at326:=At.up hle at326
    refine qaa<|qgZ (by kernel_rfl) (by kernel_rfl) ok<|qv E (qal rfl) fun a E=>qv E (qau qjk rfl) fun a E=>qv E (qas qj2 rfl (qac.own 1 rfl rfl)) fun a E=>qv E (qal rfl) fun a E=>?_
    obtain ⟨x406,e407,hF⟩:=bnd hF
    obtain ⟨b408,o409,hp410,yy411⟩:=qeM qec h405 e407 (P:=Tryz.prog) (X:=.tmp 105) (I:=.tmp 106) (kd:=.i64) (qbo E rfl) (qbo E rfl)
    refine qv E (yy411 _ _) fun a E=>qv E (qau qeH rfl) fun a E=>?_
    obtain ⟨es412,hl413,rr414,hh415⟩:=qhJ h405 e407 hp410 (by decide)
    obtain ⟨rfl,r416,r417⟩:=rr414
    refine qv E (qas qav rfl (qac.sub 0 1 (hh415 _ _ _ 2 rfl))) fun a E=>?_
    obtain ⟨r418,e419,hF⟩:=bnd hF
    obtain ⟨_,_,⟨_,_⟩,l420⟩:=Go.X.Calls.get (qa9 N x406.a r416 e419 hG hTb ok)
    refine qiy E qf2 rfl (fun w ok=>(qa9 N x406.a r416 e419 hG hTb ok).mono (fun _ _ h=>h.1)) rfl rfl fun a E=>bd hF fun s421 e422 hF=>qv E (qel rfl rfl e422) fun a E=>bd hF fun s423 e424 hF=>qv E (qel rfl rfl e424) fun a E=>qv E (qau qjk rfl) fun a E=>qv E (qas qj2 rfl (qac.own 1 rfl rfl)) fun a E=>qv E (qal rfl) fun a E=>?_
    obtain ⟨x425,e426,hF⟩:=bnd hF
    obtain ⟨b427,o428,hp429,yy430⟩:=qeM qec h405 e426 (P:=Tryz.prog) (X:=.tmp 114) (I:=.tmp 115) (kd:=.i64) (qbo E rfl) (qbo E rfl)
    refine qv E (yy430 _ _) fun a E=>qv E (qau qfa rfl) fun a E=>?_
    obtain ⟨es431,hl432,rr433,hh434⟩:=qhJ h405 e426 hp429 (by decide)
    obtain ⟨rfl,r435,r436⟩:=rr433
    refine qv E (qas qav rfl (qac.sub 1 1 (hh434 _ _ _ 2 rfl))) fun a E=>?_
    obtain ⟨r437,e438,hF⟩:=bnd hF
    obtain ⟨_,_,⟨_,_⟩,l439⟩:=Go.X.Calls.get (qa9 N x425.b r436 e438 hG hTb ok)
    refine qiy E qf2 rfl (fun w ok=>(qa9 N x425.b r436 e438 hG hTb ok).mono (fun _ _ h=>h.1)) rfl rfl fun a E=>bd hF fun s440 e441 hF=>qv E (qel rfl rfl e441) fun a E=>bd hF fun s442 e443 hF=>qv E (qel rfl rfl e443) fun a E=>qv E (qax rfl) fun a E=>wpQuiet_nil ?_
    intro w ok
    refine qaq<|qaa<|qab<|lw E (qaA rfl rfl (InR.inc r313 (qan h176) c318)) fun a E=>mv E rfl fun a E=>wpList_nil ?_
    cases hF
    exact qaw ⟨m401,c403,M404,le_m206,(ok.pk 10 [1,2,3,4,5,6,7,8,9] rfl (by decide)),E.keep [0,3,4,5,7,9,10,11,27,28,29,54,81,82,83],(qdC e443),(InR.inc r313 (qan h176) c318),l402,h405⟩
   have hF:=hJ
   have le_m311:=Mem.le.refl m311
   refine cg E rfl hF (fun c341 hF=>?_) fun c341 hF=>?_
   ·refine wp_skip ?_
    cases hF
    exact ⟨rfl,⟨m311,c315,M316,le_m311,ok,E.keep [0,3,4,5,7,9,10,11,12,27,28,29,54,81,82,83],l314,h317⟩⟩
   refine bd hF fun o342 hJ hF=>qbm (Q':=fun e a w=>e = .normal ∧ ∃ m343 c345 M346,m311.le m343 ∧ Ok u m343 ([(b332,oc 52 [vi x319.Operand,vi x319.Mod,vb x319.Not,c330])] :: [(b288,oc 172 [vs o342.s,c345,vb o342.integer])] :: M346 :: [(pb0,oc 153 [c175,c177,c180])] :: M178 :: M181 :: [(b146,oc 172 [vs x133.s,c144,vb x133.integer])] :: M208 :: M212 :: M62 :: S) w ∧ Env 136 a [(0,vp pb0),(3,vi v58),(4,c207),(5,c211),(7,vp b146),(9,vi v204),(10,vp b288),(11,vs v308),(12,vi v309),(27,c61),(28,(vi (v57.length:Int))),(29,vi v113),(54,vi v204),(81,c175),(82,(vi (o154.l.length:Int))),(83,vi v309)] ∧ o342.s.length ≤ LIMS ∧ ORow 157 2 qbf m343 c345 o342.trackers M346) ?_ ?_
   rotate_left
   ·intro e a w hO
    obtain ⟨rfl,m396,c398,M399,hle,ok,E,l397,h400⟩:=hO
    have le_m0:=le_m0.trans hle
    have le_m22:=le_m22.trans hle
    have le_m60:=le_m60.trans hle
    have le_m174:=le_m174.trans hle
    have le_m206:=le_m206.trans hle
    have le_m311:=le_m311.trans hle
    have h2:=(mL qad).up hle h2
    have h23:=(mL qa0).up hle h23
    have h63:=ORow.up qdE hle h63
    have h66:=(mL qad).up hle h66
    have h122:=(mL qad).up hle h122
    have h145:=(mL qa0).up hle h145
    have h176:=(mL qad).up hle h176
    have h179:=ORow.up qb6 hle h179
    have h182:=ORow.up qb6 hle h182
    have h209:=ORow.up qdE hle h209
    have h213:=OMap.up (qhF mB) hle h213
    have h331:=(mL qhh).up hle h331
    have at326:=At.up hle at326
    cases hF
    exact ⟨rfl,⟨m396,c398,M399,le_m311,ok,E.keep [0,3,4,5,7,9,10,11,12,27,28,29,54,81,82,83],l397,h400⟩⟩
   have hF:=hJ
   obtain ⟨x348,e349,hF⟩:=bnd hF
   obtain ⟨r359,e360,hF⟩:=bnd hF
   obtain ⟨x366,e367,hF⟩:=bnd hF
   obtain ⟨l372,e373,hF⟩:=bnd hF
   obtain rfl:=sj hF
   refine qcI [1,4,7,8] (Cls u m311 ([(b332,oc 52 [vi x319.Operand,vi x319.Mod,vb x319.Not,c330])] :: [(b288,oc 172 [vs v310.s,c315,vb v310.integer])] :: [(pb0,oc 153 [c175,c177,c180])] :: M178 :: M181 :: [(b146,oc 172 [vs x133.s,c144,vb x133.integer])] :: M208 :: M212 :: M62 :: [])) (Cls u m311 ([(b332,oc 52 [vi x319.Operand,vi x319.Mod,vb x319.Not,c330])] :: [(pb0,oc 153 [c175,c177,c180])] :: M178 :: M181 :: [(b146,oc 172 [vs x133.s,c144,vb x133.integer])] :: M208 :: M212 :: M62 :: [])) (by kernel_rfl) ?_
   intro w hw
   replace ok:=qdF ok hw
   clear hw
   have h145_o:=h145
   have h331_o:=h331
   refine qar (cl1 (cq le_m311 ok [0,1,3,4,5,6,7,8,9] rfl) (cq le_m311 ok [0,3,4,5,6,7,8,9] rfl)) fun hT=>kt 0 E rfl hT (qau qjk rfl) fun a E=>qcv 1 E rfl (by kernel_rfl) nP hT (qas qj2 rfl (qac.cown 1 rfl rfl)) rfl rfl fun a E=>kt 2 E rfl hT (qal rfl) fun a E=>kt 3 E rfl hT (qau qjk rfl) fun a E=>qcv 4 E rfl (by kernel_rfl) nP hT (qas qj2 rfl (qac.cown 5 rfl rfl)) rfl rfl fun a E=>kt 5 E rfl hT (qal rfl) fun a E=>?_
   obtain ⟨b376,o377,es378,hl379,rr380,at381,yy382⟩:=ia E 95 96 qec h145 e349
   obtain ⟨rfl,r383,r384⟩:=rr380
   refine kt 6 E rfl hT (yy382 _ _) fun a E=>qcv 7 E rfl (by kernel_rfl) nP hT (qaj (cs:=[vi x348.a,vi x348.b]) qbz rfl rfl (qac.cro at381)) rfl rfl fun a E=>qcv 8 E rfl (by kernel_rfl) nP hT (qaj (cs:=[vi x319.Operand,vi x319.Mod,vb x319.Not,c330]) qcG rfl rfl (qac.cown 0 rfl rfl)) rfl rfl fun a E=>kt 9 E rfl hT (qal rfl) fun a E=>qaF [10] (by kernel_rfl) rfl (qaJ ?_)
   ·refine wo rfl<|qaf E que rfl (qj7 N _ x348 ⟨rfl,r383,r384⟩ _ x319 ⟨_,rfl,r328,r329,h331⟩ true v204 r210 e360 hG ok) rfl rfl ?_
    rintro _ w ⟨m385,vs386,rfl,hle,ok,h387⟩
    have le_m0:=le_m0.trans hle
    have le_m22:=le_m22.trans hle
    have le_m60:=le_m60.trans hle
    have le_m174:=le_m174.trans hle
    have le_m206:=le_m206.trans hle
    have le_m311:=le_m311.trans hle
    have h2:=(mL qad).up hle h2
    have h23:=(mL qa0).up hle h23
    have h63:=ORow.up qdE hle h63
    have h66:=(mL qad).up hle h66
    have h122:=(mL qad).up hle h122
    have h145:=(mL qa0).up hle h145
    have h176:=(mL qad).up hle h176
    have h179:=ORow.up qb6 hle h179
    have h182:=ORow.up qb6 hle h182
    have h209:=ORow.up qdE hle h209
    have h213:=OMap.up (qhF mB) hle h213
    have h317:=ORow.up qa0 hle h317
    have h331:=(mL qhh).up hle h331
    have at326:=At.up hle at326
    have at381:=At.up hle at381
    obtain ⟨rfl,r388,r389⟩:=h387
    refine ⟨_,rfl,fun a E=>?_⟩
    refine wn<|qar (cl1 (cq le_m311 ok [0,1,3,4,5,6,7,8,9] rfl) (cq le_m311 ok [0,3,4,5,6,7,8,9] rfl)) fun hT=>?_
    obtain ⟨b390,o391,hp392,yy393⟩:=qeM qec h317 e367 (P:=Tryz.prog) (X:=.tmp 92) (I:=.tmp 93) (kd:=.i64) (qbo E rfl) (qbo E rfl)
    refine kt 11 E rfl hT (yy393 _ _) fun a E=>qaF [12] (by kernel_rfl) rfl (qaJ ?_)
    ·refine wo rfl<|qgi (R:=qbf) E ok 2 rfl h317 e367 hp392 rfl rfl qeA rfl rfl rfl ⟨rfl,rfl,trivial⟩ ⟨rfl,r388,r389⟩ e373 rfl fun M394 w ok h395=>wn<|qar (cl2 (by kernel_rfl) (cq le_m311 ok [0,3,4,5,6,7,8,9] rfl)) fun hT=>qbQ (by kernel_rfl) ?_
     exact ⟨rfl,⟨m385,c315,M394,le_m311,ok,E.keep [0,3,4,5,7,9,10,11,12,27,28,29,54,81,82,83],l314,h395⟩⟩
 have hF:=hJ
 obtain ⟨r221,e222,hF⟩:=bnd hF
 obtain ⟨s224,e225,hF⟩:=bnd hF
 refine bd hF fun l226 e227 hF=>qdW x133.integer (fun c231=>?_) (fun c231=>?_)
 ·as_aux_lemma =>
   have hF:=qdr c231 hF
   cases hF
   refine qcI [] (Cls u m206 ([(pb0,oc 153 [c175,c177,c180])] :: M178 :: M181 :: [(b146,oc 172 [vs x133.s,c144,vb x133.integer])] :: M208 :: M212 :: M62 :: [])) (Cls u m206 ([(pb0,oc 153 [c175,c177,c180])] :: M178 :: M181 :: [(b146,oc 172 [vs x133.s,c144,vb x133.integer])] :: M208 :: M212 :: M62 :: [])) (by kernel_rfl) ?_
   intro w hw
   replace ok:=qdF ok hw
   clear hw
   have le_m206:=Mem.le.refl m206
   refine qar (cl1 (cq le_m206 ok [0,1,2,3,4,5,6] rfl) (cq le_m206 ok [0,1,2,3,4,5,6] rfl)) fun hT=>kt 0 E rfl hT (qau qmG rfl) fun a E=>kt 1 E rfl hT (qas qbY rfl (qac.cown 3 rfl rfl)) fun a E=>kt 2 E rfl hT (qal rfl) fun a E=>kt 5 E rfl hT (qal rfl) fun a E=>kt 6 E rfl hT (qah rfl) fun a E=>kt 7 E rfl hT (qau qif rfl) fun a E=>kt 8 E rfl hT (qas qgs rfl (qac.cown 0 rfl rfl)) fun a E=>kt 9 E rfl hT (qaz qcu h176 rfl) fun a E=>kt 11 E rfl hT (qau qkL rfl) fun a E=>kt 12 E rfl hT (qas qfY rfl (qac.cown 3 rfl rfl)) fun a E=>qaF [3,10,18] (by kernel_rfl) rfl (qeZ ?_ (qeZ ?_ (qeZ ?_ (qiR))))
   ·refine wo rfl<|qaf E qf2 rfl (qa9 N v204 r210 e222 hG hTb ok) rfl rfl ?_
    rintro _ w ⟨⟨rfl,ok⟩,l233⟩
    refine ⟨_,rfl,fun a E=>?_⟩
    refine wn<|qar (cl1 (cq le_m206 ok [0,1,2,3,4,5,6] rfl) (cq le_m206 ok [0,1,2,3,4,5,6] rfl)) fun hT=>kt 4 E rfl hT (qel rfl rfl e225) fun a E=>kt 13 E rfl hT (qal rfl) fun a E=>?_
    have E:=E.upd 70 c231 rfl
    refine kt 14 E rfl hT (qal rfl) fun a E=>kt 15 E rfl hT (qaH rfl rfl) fun a E=>kt 16 E rfl hT (qcg rfl rfl) fun a E=>qaF [10,18] (by kernel_rfl) rfl (qeZ ?_ (qeZ ?_ (qiR)))
    ·refine wo rfl<|qeb (R:=qbf) E ok qec qei rfl ⟨rfl,(ir 0),(ir 0)⟩ rfl e227 rfl rfl fun c234 M235 a w E ok h236=>wn<|qar (cl1 (cq le_m206 ok [1,2,3,4,5,6,7] rfl) (cq le_m206 ok [1,2,3,4,5,6,7] rfl)) fun hT=>kt 17 E rfl hT (qbW (ps:=[(0,.tmp 61),(1,.tmp 67),(2,.tmp 73)]) (qs:=[(0,[vs s224]),(1,[c234]),(2,[(vb (v204 == 0))])]) (cs:=[vs s224,c234,(vb (v204 == 0))]) qbl qc0 rfl ⟨rfl,rfl,rfl,⟨rfl,(ORow.cells h236),rfl,⟨rfl,rfl,rfl,trivial⟩⟩⟩ rfl) fun a E=>qaF [18] (by kernel_rfl) rfl (qaJ ?_)
     ·refine wo rfl<|qaD E ok qbl rfl rfl fun b237 a w E ok=>wn<|qar (cl1 (cq le_m206 ok [2,3,4,5,6,7,8] rfl) (cq le_m206 ok [2,3,4,5,6,7,8] rfl)) fun hT=>qaF [19] (by kernel_rfl) rfl (qaJ ?_)
      ·refine wo rfl<|qae E ok 0 rfl rfl rfl qe4 rfl rfl ⟨rfl,(ORow.one h236),rfl,trivial⟩ rfl rfl fun w ok=>wn<|qar (cl1 (cq le_m206 ok [2,3,4,5,6,7,8] rfl) (cq le_m206 ok [2,3,4,5,6,7,8] rfl)) fun hT=>qbQ (by kernel_rfl) ?_
       exact ⟨rfl,⟨b237,c234,M235,ok,E.keep [0,3,4,5,7,9,10,27,28,29,54],(qdC e225),h236⟩⟩
    refine wo rfl<|qaD E ok qbl rfl rfl fun b238 a w E ok=>wn<|qar (cl1 (cq le_m206 ok [1,2,3,4,5,6,7] rfl) (cq le_m206 ok [1,2,3,4,5,6,7] rfl)) fun hT=>qaF [10] (by kernel_rfl) rfl (qaJ ?_)
    ·refine wo rfl<|qeb (R:=qbf) E ok qec qei rfl ⟨rfl,(ir 0),(ir 0)⟩ rfl e227 rfl rfl fun c239 M240 a w E ok h241=>wn<|qar (cl1 (cq le_m206 ok [2,3,4,5,6,7,8] rfl) (cq le_m206 ok [2,3,4,5,6,7,8] rfl)) fun hT=>kt 17 E rfl hT (qbW (ps:=[(0,.tmp 61),(1,.tmp 67),(2,.tmp 73)]) (qs:=[(0,[vs s224]),(1,[c239]),(2,[(vb (v204 == 0))])]) (cs:=[vs s224,c239,(vb (v204 == 0))]) qbl qc0 rfl ⟨rfl,rfl,rfl,⟨rfl,(ORow.cells h241),rfl,⟨rfl,rfl,rfl,trivial⟩⟩⟩ rfl) fun a E=>qaF [19] (by kernel_rfl) rfl (qaJ ?_)
     ·refine wo rfl<|qae E ok 1 rfl rfl rfl qe4 rfl rfl ⟨rfl,(ORow.one h241),rfl,trivial⟩ rfl rfl fun w ok=>wn<|qar (cl1 (cq le_m206 ok [2,3,4,5,6,7,8] rfl) (cq le_m206 ok [2,3,4,5,6,7,8] rfl)) fun hT=>qbQ (by kernel_rfl) ?_
      exact ⟨rfl,⟨b238,c239,M240,(ok.pk 9 [1,0,2,3,4,5,6,7,8] rfl (by decide)),E.keep [0,3,4,5,7,9,10,27,28,29,54],(qdC e225),h241⟩⟩
   ·refine wo rfl<|qeb (R:=qbf) E ok qec qei rfl ⟨rfl,(ir 0),(ir 0)⟩ rfl e227 rfl rfl fun c242 M243 a w E ok h244=>wn<|qar (cl1 (cq le_m206 ok [1,2,3,4,5,6,7] rfl) (cq le_m206 ok [1,2,3,4,5,6,7] rfl)) fun hT=>qaF [3,18] (by kernel_rfl) rfl (qeZ ?_ (qeZ ?_ (qiR)))
    ·refine wo rfl<|qaf E qf2 rfl (qa9 N v204 r210 e222 hG hTb ok) rfl rfl ?_
     rintro _ w ⟨⟨rfl,ok⟩,l245⟩
     refine ⟨_,rfl,fun a E=>?_⟩
     refine wn<|qar (cl1 (cq le_m206 ok [1,2,3,4,5,6,7] rfl) (cq le_m206 ok [1,2,3,4,5,6,7] rfl)) fun hT=>kt 4 E rfl hT (qel rfl rfl e225) fun a E=>kt 13 E rfl hT (qal rfl) fun a E=>?_
     have E:=E.upd 70 c231 rfl
     refine kt 14 E rfl hT (qal rfl) fun a E=>kt 15 E rfl hT (qaH rfl rfl) fun a E=>kt 16 E rfl hT (qcg rfl rfl) fun a E=>kt 17 E rfl hT (qbW (ps:=[(0,.tmp 61),(1,.tmp 67),(2,.tmp 73)]) (qs:=[(0,[vs s224]),(1,[c242]),(2,[(vb (v204 == 0))])]) (cs:=[vs s224,c242,(vb (v204 == 0))]) qbl qc0 rfl ⟨rfl,rfl,rfl,⟨rfl,(ORow.cells h244),rfl,⟨rfl,rfl,rfl,trivial⟩⟩⟩ rfl) fun a E=>qaF [18] (by kernel_rfl) rfl (qaJ ?_)
     ·refine wo rfl<|qaD E ok qbl rfl rfl fun b246 a w E ok=>wn<|qar (cl1 (cq le_m206 ok [2,3,4,5,6,7,8] rfl) (cq le_m206 ok [2,3,4,5,6,7,8] rfl)) fun hT=>qaF [19] (by kernel_rfl) rfl (qaJ ?_)
      ·refine wo rfl<|qae E ok 0 rfl rfl rfl qe4 rfl rfl ⟨rfl,(ORow.one h244),rfl,trivial⟩ rfl rfl fun w ok=>wn<|qar (cl1 (cq le_m206 ok [2,3,4,5,6,7,8] rfl) (cq le_m206 ok [2,3,4,5,6,7,8] rfl)) fun hT=>qbQ (by kernel_rfl) ?_
       exact ⟨rfl,⟨b246,c242,M243,ok,E.keep [0,3,4,5,7,9,10,27,28,29,54],(qdC e225),h244⟩⟩
    refine wo rfl<|qaD E ok qbl rfl rfl fun b247 a w E ok=>wn<|qar (cl1 (cq le_m206 ok [2,3,4,5,6,7,8] rfl) (cq le_m206 ok [2,3,4,5,6,7,8] rfl)) fun hT=>qaF [3] (by kernel_rfl) rfl (qaJ ?_)
    ·refine wo rfl<|qaf E qf2 rfl (qa9 N v204 r210 e222 hG hTb ok) rfl rfl ?_
     rintro _ w ⟨⟨rfl,ok⟩,l248⟩
     refine ⟨_,rfl,fun a E=>?_⟩
     refine wn<|qar (cl1 (cq le_m206 ok [2,3,4,5,6,7,8] rfl) (cq le_m206 ok [2,3,4,5,6,7,8] rfl)) fun hT=>kt 4 E rfl hT (qel rfl rfl e225) fun a E=>kt 13 E rfl hT (qal rfl) fun a E=>?_
     have E:=E.upd 70 c231 rfl
     refine kt 14 E rfl hT (qal rfl) fun a E=>kt 15 E rfl hT (qaH rfl rfl) fun a E=>kt 16 E rfl hT (qcg rfl rfl) fun a E=>kt 17 E rfl hT (qbW (ps:=[(0,.tmp 61),(1,.tmp 67),(2,.tmp 73)]) (qs:=[(0,[vs s224]),(1,[c242]),(2,[(vb (v204 == 0))])]) (cs:=[vs s224,c242,(vb (v204 == 0))]) qbl qc0 rfl ⟨rfl,rfl,rfl,⟨rfl,(ORow.cells h244),rfl,⟨rfl,rfl,rfl,trivial⟩⟩⟩ rfl) fun a E=>qaF [19] (by kernel_rfl) rfl (qaJ ?_)
     ·refine wo rfl<|qae E ok 0 rfl rfl rfl qe4 rfl rfl ⟨rfl,(ORow.one h244),rfl,trivial⟩ rfl rfl fun w ok=>wn<|qar (cl1 (cq le_m206 ok [2,3,4,5,6,7,8] rfl) (cq le_m206 ok [2,3,4,5,6,7,8] rfl)) fun hT=>qbQ (by kernel_rfl) ?_
      exact ⟨rfl,⟨b247,c242,M243,ok,E.keep [0,3,4,5,7,9,10,27,28,29,54],(qdC e225),h244⟩⟩
   refine wo rfl<|qaD E ok qbl rfl rfl fun b249 a w E ok=>wn<|qar (cl1 (cq le_m206 ok [1,2,3,4,5,6,7] rfl) (cq le_m206 ok [1,2,3,4,5,6,7] rfl)) fun hT=>qaF [3,10] (by kernel_rfl) rfl (qeZ ?_ (qeZ ?_ (qiR)))
   ·refine wo rfl<|qaf E qf2 rfl (qa9 N v204 r210 e222 hG hTb ok) rfl rfl ?_
    rintro _ w ⟨⟨rfl,ok⟩,l250⟩
    refine ⟨_,rfl,fun a E=>?_⟩
    refine wn<|qar (cl1 (cq le_m206 ok [1,2,3,4,5,6,7] rfl) (cq le_m206 ok [1,2,3,4,5,6,7] rfl)) fun hT=>kt 4 E rfl hT (qel rfl rfl e225) fun a E=>kt 13 E rfl hT (qal rfl) fun a E=>?_
    have E:=E.upd 70 c231 rfl
    refine kt 14 E rfl hT (qal rfl) fun a E=>kt 15 E rfl hT (qaH rfl rfl) fun a E=>kt 16 E rfl hT (qcg rfl rfl) fun a E=>qaF [10] (by kernel_rfl) rfl (qaJ ?_)
    ·refine wo rfl<|qeb (R:=qbf) E ok qec qei rfl ⟨rfl,(ir 0),(ir 0)⟩ rfl e227 rfl rfl fun c251 M252 a w E ok h253=>wn<|qar (cl1 (cq le_m206 ok [2,3,4,5,6,7,8] rfl) (cq le_m206 ok [2,3,4,5,6,7,8] rfl)) fun hT=>kt 17 E rfl hT (qbW (ps:=[(0,.tmp 61),(1,.tmp 67),(2,.tmp 73)]) (qs:=[(0,[vs s224]),(1,[c251]),(2,[(vb (v204 == 0))])]) (cs:=[vs s224,c251,(vb (v204 == 0))]) qbl qc0 rfl ⟨rfl,rfl,rfl,⟨rfl,(ORow.cells h253),rfl,⟨rfl,rfl,rfl,trivial⟩⟩⟩ rfl) fun a E=>qaF [19] (by kernel_rfl) rfl (qaJ ?_)
     ·refine wo rfl<|qae E ok 1 rfl rfl rfl qe4 rfl rfl ⟨rfl,(ORow.one h253),rfl,trivial⟩ rfl rfl fun w ok=>wn<|qar (cl1 (cq le_m206 ok [2,3,4,5,6,7,8] rfl) (cq le_m206 ok [2,3,4,5,6,7,8] rfl)) fun hT=>qbQ (by kernel_rfl) ?_
      exact ⟨rfl,⟨b249,c251,M252,(ok.pk 9 [1,0,2,3,4,5,6,7,8] rfl (by decide)),E.keep [0,3,4,5,7,9,10,27,28,29,54],(qdC e225),h253⟩⟩
   refine wo rfl<|qeb (R:=qbf) E ok qec qei rfl ⟨rfl,(ir 0),(ir 0)⟩ rfl e227 rfl rfl fun c254 M255 a w E ok h256=>wn<|qar (cl1 (cq le_m206 ok [2,3,4,5,6,7,8] rfl) (cq le_m206 ok [2,3,4,5,6,7,8] rfl)) fun hT=>qaF [3] (by kernel_rfl) rfl (qaJ ?_)
   ·refine wo rfl<|qaf E qf2 rfl (qa9 N v204 r210 e222 hG hTb ok) rfl rfl ?_
    rintro _ w ⟨⟨rfl,ok⟩,l257⟩
    refine ⟨_,rfl,fun a E=>?_⟩
    refine wn<|qar (cl1 (cq le_m206 ok [2,3,4,5,6,7,8] rfl) (cq le_m206 ok [2,3,4,5,6,7,8] rfl)) fun hT=>kt 4 E rfl hT (qel rfl rfl e225) fun a E=>kt 13 E rfl hT (qal rfl) fun a E=>?_
    have E:=E.upd 70 c231 rfl
    refine kt 14 E rfl hT (qal rfl) fun a E=>kt 15 E rfl hT (qaH rfl rfl) fun a E=>kt 16 E rfl hT (qcg rfl rfl) fun a E=>kt 17 E rfl hT (qbW (ps:=[(0,.tmp 61),(1,.tmp 67),(2,.tmp 73)]) (qs:=[(0,[vs s224]),(1,[c254]),(2,[(vb (v204 == 0))])]) (cs:=[vs s224,c254,(vb (v204 == 0))]) qbl qc0 rfl ⟨rfl,rfl,rfl,⟨rfl,(ORow.cells h256),rfl,⟨rfl,rfl,rfl,trivial⟩⟩⟩ rfl) fun a E=>qaF [19] (by kernel_rfl) rfl (qaJ ?_)
    ·refine wo rfl<|qae E ok 1 rfl rfl rfl qe4 rfl rfl ⟨rfl,(ORow.one h256),rfl,trivial⟩ rfl rfl fun w ok=>wn<|qar (cl1 (cq le_m206 ok [2,3,4,5,6,7,8] rfl) (cq le_m206 ok [2,3,4,5,6,7,8] rfl)) fun hT=>qbQ (by kernel_rfl) ?_
     exact ⟨rfl,⟨b249,c254,M255,(ok.pk 9 [1,0,2,3,4,5,6,7,8] rfl (by decide)),E.keep [0,3,4,5,7,9,10,27,28,29,54],(qdC e225),h256⟩⟩
 have hF:=qdt c231 hF
 cases hF
 refine qcI [] (Cls u m206 ([(pb0,oc 153 [c175,c177,c180])] :: M178 :: M181 :: [(b146,oc 172 [vs x133.s,c144,vb x133.integer])] :: M208 :: M212 :: M62 :: [])) (Cls u m206 ([(pb0,oc 153 [c175,c177,c180])] :: M178 :: M181 :: [(b146,oc 172 [vs x133.s,c144,vb x133.integer])] :: M208 :: M212 :: M62 :: [])) (by kernel_rfl) ?_
 intro w hw
 replace ok:=qdF ok hw
 clear hw
 have le_m206:=Mem.le.refl m206
 refine qar (cl1 (cq le_m206 ok [0,1,2,3,4,5,6] rfl) (cq le_m206 ok [0,1,2,3,4,5,6] rfl)) fun hT=>kt 0 E rfl hT (qau qmG rfl) fun a E=>kt 1 E rfl hT (qas qbY rfl (qac.cown 3 rfl rfl)) fun a E=>kt 2 E rfl hT (qal rfl) fun a E=>kt 5 E rfl hT (qal rfl) fun a E=>kt 6 E rfl hT (qah rfl) fun a E=>kt 7 E rfl hT (qau qif rfl) fun a E=>kt 8 E rfl hT (qas qgs rfl (qac.cown 0 rfl rfl)) fun a E=>kt 9 E rfl hT (qaz qcu h176 rfl) fun a E=>kt 11 E rfl hT (qau qkL rfl) fun a E=>kt 12 E rfl hT (qas qfY rfl (qac.cown 3 rfl rfl)) fun a E=>qaF [3,10,18] (by kernel_rfl) rfl (qeZ ?_ (qeZ ?_ (qeZ ?_ (qiR))))
 ·refine wo rfl<|qaf E qf2 rfl (qa9 N v204 r210 e222 hG hTb ok) rfl rfl ?_
  rintro _ w ⟨⟨rfl,ok⟩,l259⟩
  refine ⟨_,rfl,fun a E=>?_⟩
  refine wn<|qar (cl1 (cq le_m206 ok [0,1,2,3,4,5,6] rfl) (cq le_m206 ok [0,1,2,3,4,5,6] rfl)) fun hT=>kt 4 E rfl hT (qel rfl rfl e225) fun a E=>kt 13 E rfl hT (qal rfl) fun a E=>?_
  have E:=E.upd 70 c231 rfl
  refine qc7 14 false E rfl (by kernel_rfl) nP hT rfl rfl fun a E=>qc7 15 false E rfl (by kernel_rfl) nP hT rfl rfl fun a E=>kt 16 E rfl hT (qcw rfl rfl) fun a E=>qaF [10,18] (by kernel_rfl) rfl (qeZ ?_ (qeZ ?_ (qiR)))
  ·refine wo rfl<|qeb (R:=qbf) E ok qec qei rfl ⟨rfl,(ir 0),(ir 0)⟩ rfl e227 rfl rfl fun c260 M261 a w E ok h262=>wn<|qar (cl1 (cq le_m206 ok [1,2,3,4,5,6,7] rfl) (cq le_m206 ok [1,2,3,4,5,6,7] rfl)) fun hT=>kt 17 E rfl hT (qbW (ps:=[(0,.tmp 61),(1,.tmp 67),(2,.tmp 73)]) (qs:=[(0,[vs s224]),(1,[c260]),(2,[vb false])]) (cs:=[vs s224,c260,vb false]) qbl qc0 rfl ⟨rfl,rfl,rfl,⟨rfl,(ORow.cells h262),rfl,⟨rfl,rfl,rfl,trivial⟩⟩⟩ rfl) fun a E=>qaF [18] (by kernel_rfl) rfl (qaJ ?_)
   ·refine wo rfl<|qaD E ok qbl rfl rfl fun b263 a w E ok=>wn<|qar (cl1 (cq le_m206 ok [2,3,4,5,6,7,8] rfl) (cq le_m206 ok [2,3,4,5,6,7,8] rfl)) fun hT=>qaF [19] (by kernel_rfl) rfl (qaJ ?_)
    ·refine wo rfl<|qae E ok 0 rfl rfl rfl qe4 rfl rfl ⟨rfl,(ORow.one h262),rfl,trivial⟩ rfl rfl fun w ok=>wn<|qar (cl1 (cq le_m206 ok [2,3,4,5,6,7,8] rfl) (cq le_m206 ok [2,3,4,5,6,7,8] rfl)) fun hT=>qbQ (by kernel_rfl) ?_
     exact ⟨rfl,⟨b263,c260,M261,ok,E.keep [0,3,4,5,7,9,10,27,28,29,54],(qdC e225),h262⟩⟩
  refine wo rfl<|qaD E ok qbl rfl rfl fun b264 a w E ok=>wn<|qar (cl1 (cq le_m206 ok [1,2,3,4,5,6,7] rfl) (cq le_m206 ok [1,2,3,4,5,6,7] rfl)) fun hT=>qaF [10] (by kernel_rfl) rfl (qaJ ?_)
  ·refine wo rfl<|qeb (R:=qbf) E ok qec qei rfl ⟨rfl,(ir 0),(ir 0)⟩ rfl e227 rfl rfl fun c265 M266 a w E ok h267=>wn<|qar (cl1 (cq le_m206 ok [2,3,4,5,6,7,8] rfl) (cq le_m206 ok [2,3,4,5,6,7,8] rfl)) fun hT=>kt 17 E rfl hT (qbW (ps:=[(0,.tmp 61),(1,.tmp 67),(2,.tmp 73)]) (qs:=[(0,[vs s224]),(1,[c265]),(2,[vb false])]) (cs:=[vs s224,c265,vb false]) qbl qc0 rfl ⟨rfl,rfl,rfl,⟨rfl,(ORow.cells h267),rfl,⟨rfl,rfl,rfl,trivial⟩⟩⟩ rfl) fun a E=>qaF [19] (by kernel_rfl) rfl (qaJ ?_)
   ·refine wo rfl<|qae E ok 1 rfl rfl rfl qe4 rfl rfl ⟨rfl,(ORow.one h267),rfl,trivial⟩ rfl rfl fun w ok=>wn<|qar (cl1 (cq le_m206 ok [2,3,4,5,6,7,8] rfl) (cq le_m206 ok [2,3,4,5,6,7,8] rfl)) fun hT=>qbQ (by kernel_rfl) ?_
    exact ⟨rfl,⟨b264,c265,M266,(ok.pk 9 [1,0,2,3,4,5,6,7,8] rfl (by decide)),E.keep [0,3,4,5,7,9,10,27,28,29,54],(qdC e225),h267⟩⟩
 ·refine wo rfl<|qeb (R:=qbf) E ok qec qei rfl ⟨rfl,(ir 0),(ir 0)⟩ rfl e227 rfl rfl fun c268 M269 a w E ok h270=>wn<|qar (cl1 (cq le_m206 ok [1,2,3,4,5,6,7] rfl) (cq le_m206 ok [1,2,3,4,5,6,7] rfl)) fun hT=>qaF [3,18] (by kernel_rfl) rfl (qeZ ?_ (qeZ ?_ (qiR)))
  ·refine wo rfl<|qaf E qf2 rfl (qa9 N v204 r210 e222 hG hTb ok) rfl rfl ?_
   rintro _ w ⟨⟨rfl,ok⟩,l271⟩
   refine ⟨_,rfl,fun a E=>?_⟩
   refine wn<|qar (cl1 (cq le_m206 ok [1,2,3,4,5,6,7] rfl) (cq le_m206 ok [1,2,3,4,5,6,7] rfl)) fun hT=>kt 4 E rfl hT (qel rfl rfl e225) fun a E=>kt 13 E rfl hT (qal rfl) fun a E=>?_
   have E:=E.upd 70 c231 rfl
   refine qc7 14 false E rfl (by kernel_rfl) nP hT rfl rfl fun a E=>qc7 15 false E rfl (by kernel_rfl) nP hT rfl rfl fun a E=>kt 16 E rfl hT (qcw rfl rfl) fun a E=>kt 17 E rfl hT (qbW (ps:=[(0,.tmp 61),(1,.tmp 67),(2,.tmp 73)]) (qs:=[(0,[vs s224]),(1,[c268]),(2,[vb false])]) (cs:=[vs s224,c268,vb false]) qbl qc0 rfl ⟨rfl,rfl,rfl,⟨rfl,(ORow.cells h270),rfl,⟨rfl,rfl,rfl,trivial⟩⟩⟩ rfl) fun a E=>qaF [18] (by kernel_rfl) rfl (qaJ ?_)
   ·refine wo rfl<|qaD E ok qbl rfl rfl fun b272 a w E ok=>wn<|qar (cl1 (cq le_m206 ok [2,3,4,5,6,7,8] rfl) (cq le_m206 ok [2,3,4,5,6,7,8] rfl)) fun hT=>qaF [19] (by kernel_rfl) rfl (qaJ ?_)
    ·refine wo rfl<|qae E ok 0 rfl rfl rfl qe4 rfl rfl ⟨rfl,(ORow.one h270),rfl,trivial⟩ rfl rfl fun w ok=>wn<|qar (cl1 (cq le_m206 ok [2,3,4,5,6,7,8] rfl) (cq le_m206 ok [2,3,4,5,6,7,8] rfl)) fun hT=>qbQ (by kernel_rfl) ?_
     exact ⟨rfl,⟨b272,c268,M269,ok,E.keep [0,3,4,5,7,9,10,27,28,29,54],(qdC e225),h270⟩⟩
  refine wo rfl<|qaD E ok qbl rfl rfl fun b273 a w E ok=>wn<|qar (cl1 (cq le_m206 ok [2,3,4,5,6,7,8] rfl) (cq le_m206 ok [2,3,4,5,6,7,8] rfl)) fun hT=>qaF [3] (by kernel_rfl) rfl (qaJ ?_)
  ·refine wo rfl<|qaf E qf2 rfl (qa9 N v204 r210 e222 hG hTb ok) rfl rfl ?_
   rintro _ w ⟨⟨rfl,ok⟩,l274⟩
   refine ⟨_,rfl,fun a E=>?_⟩
   refine wn<|qar (cl1 (cq le_m206 ok [2,3,4,5,6,7,8] rfl) (cq le_m206 ok [2,3,4,5,6,7,8] rfl)) fun hT=>kt 4 E rfl hT (qel rfl rfl e225) fun a E=>kt 13 E rfl hT (qal rfl) fun a E=>?_
   have E:=E.upd 70 c231 rfl
   refine qc7 14 false E rfl (by kernel_rfl) nP hT rfl rfl fun a E=>qc7 15 false E rfl (by kernel_rfl) nP hT rfl rfl fun a E=>kt 16 E rfl hT (qcw rfl rfl) fun a E=>kt 17 E rfl hT (qbW (ps:=[(0,.tmp 61),(1,.tmp 67),(2,.tmp 73)]) (qs:=[(0,[vs s224]),(1,[c268]),(2,[vb false])]) (cs:=[vs s224,c268,vb false]) qbl qc0 rfl ⟨rfl,rfl,rfl,⟨rfl,(ORow.cells h270),rfl,⟨rfl,rfl,rfl,trivial⟩⟩⟩ rfl) fun a E=>qaF [19] (by kernel_rfl) rfl (qaJ ?_)
   ·refine wo rfl<|qae E ok 0 rfl rfl rfl qe4 rfl rfl ⟨rfl,(ORow.one h270),rfl,trivial⟩ rfl rfl fun w ok=>wn<|qar (cl1 (cq le_m206 ok [2,3,4,5,6,7,8] rfl) (cq le_m206 ok [2,3,4,5,6,7,8] rfl)) fun hT=>qbQ (by kernel_rfl) ?_
    exact ⟨rfl,⟨b273,c268,M269,ok,E.keep [0,3,4,5,7,9,10,27,28,29,54],(qdC e225),h270⟩⟩
 refine wo rfl<|qaD E ok qbl rfl rfl fun b275 a w E ok=>wn<|qar (cl1 (cq le_m206 ok [1,2,3,4,5,6,7] rfl) (cq le_m206 ok [1,2,3,4,5,6,7] rfl)) fun hT=>qaF [3,10] (by kernel_rfl) rfl (qeZ ?_ (qeZ ?_ (qiR)))
 ·refine wo rfl<|qaf E qf2 rfl (qa9 N v204 r210 e222 hG hTb ok) rfl rfl ?_
  rintro _ w ⟨⟨rfl,ok⟩,l276⟩
  refine ⟨_,rfl,fun a E=>?_⟩
  refine wn<|qar (cl1 (cq le_m206 ok [1,2,3,4,5,6,7] rfl) (cq le_m206 ok [1,2,3,4,5,6,7] rfl)) fun hT=>kt 4 E rfl hT (qel rfl rfl e225) fun a E=>kt 13 E rfl hT (qal rfl) fun a E=>?_
  have E:=E.upd 70 c231 rfl
  refine qc7 14 false E rfl (by kernel_rfl) nP hT rfl rfl fun a E=>qc7 15 false E rfl (by kernel_rfl) nP hT rfl rfl fun a E=>kt 16 E rfl hT (qcw rfl rfl) fun a E=>qaF [10] (by kernel_rfl) rfl (qaJ ?_)
  ·refine wo rfl<|qeb (R:=qbf) E ok qec qei rfl ⟨rfl,(ir 0),(ir 0)⟩ rfl e227 rfl rfl fun c277 M278 a w E ok h279=>wn<|qar (cl1 (cq le_m206 ok [2,3,4,5,6,7,8] rfl) (cq le_m206 ok [2,3,4,5,6,7,8] rfl)) fun hT=>kt 17 E rfl hT (qbW (ps:=[(0,.tmp 61),(1,.tmp 67),(2,.tmp 73)]) (qs:=[(0,[vs s224]),(1,[c277]),(2,[vb false])]) (cs:=[vs s224,c277,vb false]) qbl qc0 rfl ⟨rfl,rfl,rfl,⟨rfl,(ORow.cells h279),rfl,⟨rfl,rfl,rfl,trivial⟩⟩⟩ rfl) fun a E=>qaF [19] (by kernel_rfl) rfl (qaJ ?_)
   ·refine wo rfl<|qae E ok 1 rfl rfl rfl qe4 rfl rfl ⟨rfl,(ORow.one h279),rfl,trivial⟩ rfl rfl fun w ok=>wn<|qar (cl1 (cq le_m206 ok [2,3,4,5,6,7,8] rfl) (cq le_m206 ok [2,3,4,5,6,7,8] rfl)) fun hT=>qbQ (by kernel_rfl) ?_
    exact ⟨rfl,⟨b275,c277,M278,(ok.pk 9 [1,0,2,3,4,5,6,7,8] rfl (by decide)),E.keep [0,3,4,5,7,9,10,27,28,29,54],(qdC e225),h279⟩⟩
 refine wo rfl<|qeb (R:=qbf) E ok qec qei rfl ⟨rfl,(ir 0),(ir 0)⟩ rfl e227 rfl rfl fun c280 M281 a w E ok h282=>wn<|qar (cl1 (cq le_m206 ok [2,3,4,5,6,7,8] rfl) (cq le_m206 ok [2,3,4,5,6,7,8] rfl)) fun hT=>qaF [3] (by kernel_rfl) rfl (qaJ ?_)
 ·refine wo rfl<|qaf E qf2 rfl (qa9 N v204 r210 e222 hG hTb ok) rfl rfl ?_
  rintro _ w ⟨⟨rfl,ok⟩,l283⟩
  refine ⟨_,rfl,fun a E=>?_⟩
  refine wn<|qar (cl1 (cq le_m206 ok [2,3,4,5,6,7,8] rfl) (cq le_m206 ok [2,3,4,5,6,7,8] rfl)) fun hT=>kt 4 E rfl hT (qel rfl rfl e225) fun a E=>kt 13 E rfl hT (qal rfl) fun a E=>?_
  have E:=E.upd 70 c231 rfl
  refine qc7 14 false E rfl (by kernel_rfl) nP hT rfl rfl fun a E=>qc7 15 false E rfl (by kernel_rfl) nP hT rfl rfl fun a E=>kt 16 E rfl hT (qcw rfl rfl) fun a E=>kt 17 E rfl hT (qbW (ps:=[(0,.tmp 61),(1,.tmp 67),(2,.tmp 73)]) (qs:=[(0,[vs s224]),(1,[c280]),(2,[vb false])]) (cs:=[vs s224,c280,vb false]) qbl qc0 rfl ⟨rfl,rfl,rfl,⟨rfl,(ORow.cells h282),rfl,⟨rfl,rfl,rfl,trivial⟩⟩⟩ rfl) fun a E=>qaF [19] (by kernel_rfl) rfl (qaJ ?_)
  ·refine wo rfl<|qae E ok 1 rfl rfl rfl qe4 rfl rfl ⟨rfl,(ORow.one h282),rfl,trivial⟩ rfl rfl fun w ok=>wn<|qar (cl1 (cq le_m206 ok [2,3,4,5,6,7,8] rfl) (cq le_m206 ok [2,3,4,5,6,7,8] rfl)) fun hT=>qbQ (by kernel_rfl) ?_
   exact ⟨rfl,⟨b275,c280,M281,(ok.pk 9 [1,0,2,3,4,5,6,7,8] rfl (by decide)),E.keep [0,3,4,5,7,9,10,27,28,29,54],(qdC e225),h282⟩⟩
def qk4 (u:World) (m0:Mem) (S:Segs) (r:(Option (Classes))) (a:Act) (w:World):Prop :=
 ∃ m1 v0,m0.le m1 ∧ Ok u m1 (S) w ∧ a.defers = [] ∧ RVs Tryz.prog a w [.t 2 v0] ∧ (pP 3 qd1) m1 [v0] r
theorem qgC (N:Nat) (vl_0:Value) (l_0:List (Relation)) (hl_0:(pL 4 qag) m0 [vl_0] l_0) {r:(Option (Classes))} (hF:qdg N l_0 = some r) (hG:Glob u) (hTb:Tab u) (ok:Ok u m0 (S) w) :
  Calls Tryz.prog 113 [vl_0].toArray w fun e w'=>∃ m1 v0,e = .returned v0 ∧ m0.le m1 ∧ Ok u m1 (S) w' ∧ (pP 3 qd1) m1 [v0] r:=by
 have le_m0:=Mem.le.refl m0
 unfold qdg at hF
 refine en (qk4 u m0 S) r Tryz.func113 rfl rfl rfl (fun _ _ h=>rc h fun _=>rfl) fun fin a E=>sg<|aw E rfl fun a E=>sg<|mv E rfl fun a E=>lw E (qbW (ps:=[(0,.tmp 9)]) (qs:=[(0,[vl_0])]) (cs:=[vl_0,(Value.slice none 0 0),(Value.slice none 0 0)]) qr4 qqm rfl ⟨rfl,(qdY hl_0),rfl,trivial⟩ rfl) fun a E=>qcp E ok rfl rfl rfl fun b1 a w E ok=>aw E rfl fun a E=>wp_seq<|sg<|mv E rfl fun a E=>wn<|wp_block ?_
 obtain ⟨M12,ok,h13⟩:=qfv (e:=162) (k:=2) (R:=qbM) ok
 obtain ⟨M14,ok,h15⟩:=qfv (e:=162) (k:=2) (R:=qbM) ok
 refine bd hF fun o16 hL hF=>qaE _ (fun (s:Int × Classes) a w=>∃ m17 c19 c21 M22 c24 M25,m0.le m17 ∧ Ok u m17 (M25 :: M22 :: [(b1,oc 153 [c19,c21,c24])] :: S) w ∧ Env 54 a [(0,vl_0),(3,vp b1),(12,vi s.1)] ∧ InR .i64 s.1 ∧ (pL 4 qag) m17 [c19] s.2.l ∧ ORow 162 2 qbM m17 c21 s.2.wholes M22 ∧ ORow 162 2 qbM m17 c24 s.2.fraction M25) (fun (b:Classes) e a w=>e = (.exit 0) ∧ ∃ m166 c167 c169 M170 c172 M173,m0.le m166 ∧ Ok u m166 (M173 :: M170 :: [(b1,oc 153 [c167,c169,c172])] :: S) w ∧ Env 54 a [(3,vp b1)] ∧ (pL 4 qag) m166 [c167] b.l ∧ ORow 162 2 qbM m166 c169 b.wholes M170 ∧ ORow 162 2 qbM m166 c172 b.fraction M173) ?_ ?_ N _ a w hL ⟨m0,vl_0,(Value.slice none 0 0),M12,(Value.slice none 0 0),M14,Mem.le.refl _,ok,E.keep [0,3,12],(ir 0),hl_0,h13,h15⟩
 rotate_left
 ·intro e a w _ hO
  obtain ⟨rfl,m140,c141,c143,M144,c146,M147,hle,ok,E,h142,h145,h148⟩:=hO
  have le_m0:=le_m0.trans hle
  have hl_0:=(mL qad).up hle hl_0
  refine qaK<|qaa<|sg<|mv E rfl fun a E=>?_
  obtain ⟨r149,e150,hF⟩:=bnd hF
  replace ok:Ok u m140 ([(b1,oc 153 [c141,c143,c146])] :: M144 :: M147 :: S) w:=(ok.pk 3 [2,1,0] rfl (by decide))
  refine qaf E qtS rfl (qiE N o16 h142 h145 h148 e150 hG hTb ok) rfl rfl ?_
  rintro _ w ⟨m151,c152,c154,M155,c157,M158,rfl,hle,ok,h153,h156,h159⟩
  have le_m0:=le_m0.trans hle
  have hl_0:=(mL qad).up hle hl_0
  have h142:=(mL qad).up hle h142
  refine ⟨_,rfl,fun a E=>?_⟩
  refine wn<|sg<|mv E rfl fun a E=>aw E rfl fun a E=>wp_ret ?_
  obtain ⟨m160,hle,ok,hfz⟩:=(ok.frs 1 rfl).freeze
  have h161:=ORow.froz qb6 h156 hle hfz (by decide)
  have le_m0:=le_m0.trans hle
  have hl_0:=(mL qad).up hle hl_0
  have h142:=(mL qad).up hle h142
  have h153:=(mL qad).up hle h153
  have h159:=ORow.up qb6 hle h159
  obtain ⟨m162,hle,ok,hfz⟩:=(ok.frs 1 rfl).freeze
  have h163:=ORow.froz qb6 h159 hle hfz (by decide)
  have le_m0:=le_m0.trans hle
  have hl_0:=(mL qad).up hle hl_0
  have h142:=(mL qad).up hle h142
  have h153:=(mL qad).up hle h153
  have h161:=(mL qb6).up hle h161
  have hbx:=(show qd1 m162 [c152,c154,c157] r149 from ⟨_,_,_,rfl,h153,h161,h163⟩)
  obtain ⟨m164,hle,ok,hfz⟩:=(ok.frs 0 rfl).freeze
  have h165:=qs1 qst hbx hle hfz rfl
  clear hbx
  have le_m0:=le_m0.trans hle
  have hl_0:=(mL qad).up hle hl_0
  have h142:=(mL qad).up hle h142
  have h153:=(mL qad).up hle h153
  have h161:=(mL qb6).up hle h161
  have h163:=(mL qb6).up hle h163
  exact fin hF ⟨m164,vp b1,le_m0,ok,E.d,rz E rfl,h165⟩
 rintro ⟨v27,v28⟩ a w r ⟨m29,c31,c33,M34,c36,M37,hle,ok,E,r30,h32,h35,h38⟩ hF
 replace hF:qbX N l_0 v27 v28 = some r:=hF
 unfold qbX at hF
 have le_m0:=le_m0.trans hle
 have hl_0:=(mL qad).up hle hl_0
 refine sg<|lw E (qaG rfl rfl) fun a E=>wn<|wp_seq<|cg E rfl hF (fun c39 hF=>?_) fun c39 hF=>?_
 ·refine wp_exit<|qay ?_
  cases hF
  exact so (⟨rfl,⟨m29,c31,c33,M34,c36,M37,le_m0,ok,E.keep [3],h32,h35,h38⟩⟩)
 refine wp_skip<|qaa<|wp_seq<|wp_block<|sg<|mv E rfl fun a E=>av E rfl fun a E=>wn<|sg<|mv E rfl fun a E=>bd hF fun r40 e41 hF=>qaf E qf2 rfl (qa9 N v27 r30 e41 hG hTb ok) rfl rfl ?_
 rintro _ w ⟨⟨rfl,ok⟩,l42⟩
 refine ⟨_,rfl,fun a E=>?_⟩
 refine aw E rfl fun a E=>sg<|mv E rfl fun a E=>lv E ok (qaz qcu hl_0 rfl) fun a E=>bd hF fun l43 e44 hF=>qeb (R:=qbf) E ok qec qei rfl ⟨rfl,(ir 0),(ir 0)⟩ rfl e44 rfl rfl fun c45 M46 a w E ok h47=>aw E rfl fun a E=>wp_seq<|sg<|mv E rfl fun a E=>lv E ok (qaz qcu hl_0 rfl) fun a E=>mv E rfl fun a E=>wn<|wp_block<|bd hF fun o53 hL hF=>qaE _ (fun (s:Int × (List (Tracker))) a w=>∃ c55 M56,Ok u m29 (M56 :: M37 :: M34 :: [(b1,oc 153 [c31,c33,c36])] :: S) w ∧ Env 54 a [(0,vl_0),(3,vp b1),(4,vi v27),(5,vs r40),(6,c55),(12,vi v27),(20,vl_0),(21,(vi (l_0.length:Int))),(22,vi s.1)] ∧ InR .i64 s.1 ∧ ORow 157 2 qbf m29 c55 s.2 M56) (fun (b:((List (Tracker)))) e a w=>e = (.exit 2) ∧ ∃ c137 M138,Ok u m29 (M138 :: M37 :: M34 :: [(b1,oc 153 [c31,c33,c36])] :: S) w ∧ Env 54 a [(0,vl_0),(3,vp b1),(5,vs r40),(6,c137),(12,vi v27)] ∧ ORow 157 2 qbf m29 c137 b M138) ?_ ?_ N _ a w hL ⟨c45,M46,ok,E.keep [0,3,4,5,6,12,20,21,22],(ir 0),h47⟩
 ·rintro ⟨v58,v59⟩ a w r ⟨c61,M62,ok,E,r60,h63⟩ hF
  replace hF:qbD N l_0 v27 v58 v59 = some r:=hF
  unfold qbD at hF
  refine sg<|lw E (qaG rfl rfl) fun a E=>wn<|wp_seq<|cg E rfl hF (fun c64 hF=>?_) fun c64 hF=>?_
  ·refine wp_exit<|qay ?_
   cases hF
   exact so (⟨rfl,⟨c61,M62,ok,E.keep [0,3,5,6,12],h63⟩⟩)
  refine wp_skip<|qaa<|wp_seq<|wp_block<|sg<|mv E rfl fun a E=>?_
  obtain ⟨x65,e66,hF⟩:=bnd hF
  obtain ⟨b67,o68,es69,hl70,rr71,at72,yy73⟩:=ia E 20 22 qcu hl_0 e66
  obtain ⟨c76,rfl,r74,r75,h77⟩:=rr71
  refine lv E ok (yy73 _ _) fun a E=>lv E ok (qaj (cs:=[vi x65.Operand,vi x65.Mod,vb x65.Not,c76]) qcG rfl rfl (qac.ro at72)) fun a E=>qaD E ok qdJ rfl rfl fun b78 a w E ok=>av E rfl fun a E=>qae E ok 0 rfl rfl rfl qim rfl rfl ⟨rfl,rfl,rfl,(qhv h77),trivial⟩ rfl rfl fun w ok=>wn<|sg<|lv E ok (qaj (cs:=[vi x65.Operand,vi x65.Mod,vb x65.Not,c76]) qcG rfl rfl (qac.own 0 rfl rfl)) fun a E=>bd hF fun r79 e80 hF=>lc E qln rfl (qfj N _ x65 ⟨_,rfl,r74,r75,h77⟩ e80 hG ok) fun w ok a E=>wn<|cg E rfl hF (fun c81 hF=>?_) fun c81 hF=>?_
  ·refine wp_skip<|qaq<|qaa<|qab<|lw E (qaA rfl rfl (InR.inc r60 (qan hl_0) c64)) fun a E=>mv E rfl fun a E=>wpList_nil ?_
   cases hF
   exact qaw ⟨c61,M62,(ok.pk 5 [1,2,3,4] rfl (by decide)),E.keep [0,3,4,5,6,12,20,21,22],(InR.inc r60 (qan hl_0) c64),h63⟩
  refine qab<|mz E rfl rfl fun a E=>lv E ok (qaj (cs:=[vi x65.Operand,vi x65.Mod,vb x65.Not,c76]) qcG rfl rfl (qac.own 0 rfl rfl)) fun a E=>mv E rfl fun a E=>bd hF fun r82 e83 hF=>qaf E qna rfl (qgn N _ x65 ⟨_,rfl,r74,r75,h77⟩ v27 r30 e83 hG ok) rfl rfl ?_
  rintro _ w ⟨⟨rfl,ok⟩,r84⟩
  refine ⟨_,rfl,fun a E=>?_⟩
  obtain ⟨x85,e86,hF⟩:=bnd hF
  obtain ⟨b87,o88,hp89,yy90⟩:=qeM qec h63 e86 (P:=Tryz.prog) (X:=.tmp 29) (I:=.tmp 30) (kd:=.i64) (qbo E rfl) (qbo E rfl)
  refine lv E ok (yy90 _ _) fun a E=>fv E qeH rfl fun a E=>bd hF fun l93 e94 hF=>qpK (R:=qbf) (f:=0) E ok 1 rfl h63 e86 hp89 rfl rfl rfl qbu rfl rfl rfl ⟨rfl,trivial⟩ (fun es _ h=>by obtain ⟨rfl,r91,r92⟩:=h; exact ⟨rfl,r84,r92⟩) e94 rfl fun M95 w ok h96=>wpList_nil<|qaq<|qaa<|qab<|lw E (qaA rfl rfl (InR.inc r60 (qan hl_0) c64)) fun a E=>mv E rfl fun a E=>wpList_nil ?_
  cases hF
  exact qaw ⟨c61,M95,(ok.pk 5 [1,2,3,4] rfl (by decide)),E.keep [0,3,4,5,6,12,20,21,22],(InR.inc r60 (qan hl_0) c64),h96⟩
 intro e a w _ hO
 obtain ⟨rfl,c97,M98,ok,E,h99⟩:=hO
 refine qaK<|qaa<|bd hF fun o100 hJ hF=>qbm (Q':=fun e a w=>e = .normal ∧ ∃ m101 c102 c104 M105 c107 M108,m29.le m101 ∧ Ok u m101 (M108 :: M105 :: [(b1,oc 153 [c102,c104,c107])] :: S) w ∧ Env 54 a [(0,vl_0),(3,vp b1),(12,vi v27)] ∧ (pL 4 qag) m101 [c102] o100.l ∧ ORow 162 2 qbM m101 c104 o100.wholes M105 ∧ ORow 162 2 qbM m101 c107 o100.fraction M108) ?_ ?_
 rotate_left
 ·intro e a w hO
  obtain ⟨rfl,m128,c129,c131,M132,c134,M135,hle,ok,E,h130,h133,h136⟩:=hO
  have le_m0:=le_m0.trans hle
  have hl_0:=(mL qad).up hle hl_0
  have h32:=(mL qad).up hle h32
  refine qaq<|qaa<|qab<|lw E (qaA rfl rfl (InR.inc r30 (ir 1000) c39)) fun a E=>mv E rfl fun a E=>wpList_nil ?_
  cases hF
  exact qaw ⟨m128,c129,c131,M132,c134,M135,le_m0,ok,E.keep [0,3,12],(InR.inc r30 (ir 1000) c39),h130,h133,h136⟩
 have hF:=hJ
 have le_m29:=Mem.le.refl m29
 obtain ⟨r112,e113,hF⟩:=bnd hF
 obtain ⟨r115,e116,hF⟩:=bnd hF
 obtain rfl:=sj hF
 refine qcI [4] (Cls u m29 (M37 :: [(b1,oc 153 [c31,c33,c36])] :: [])) (Cls u m29 (M37 :: [])) (by kernel_rfl) ?_
 intro w hw
 replace ok:=qdF ok hw
 clear hw
 have h32_o:=h32
 refine qar (cl1 (cq le_m29 ok [1,3] rfl) (cq le_m29 ok [1] rfl)) fun hT=>kt 0 E rfl hT (qal rfl) fun a E=>kt 1 E rfl hT (qal rfl) fun a E=>kt 2 E rfl hT (qah rfl) fun a E=>kt 3 E rfl hT (qau qi9 rfl) fun a E=>qcv 4 E rfl (by kernel_rfl) nP hT (qas qhC rfl (qac.cown 1 rfl rfl)) rfl rfl fun a E=>kt 5 E rfl hT (qal rfl) fun a E=>kt 6 E rfl hT (qal rfl) fun a E=>kt 8 E rfl hT (qal rfl) fun a E=>qaF [7] (by kernel_rfl) rfl (qaJ ?_)
 ·refine qcO (o:=_) rfl ?_
  obtain ⟨m121,hle,ok,hfz⟩:=(ok.frs 0 rfl).freeze
  have h122:=ORow.froz qa0 h99 hle hfz (by decide)
  have le_m0:=le_m0.trans hle
  have le_m29:=le_m29.trans hle
  have hl_0:=(mL qad).up hle hl_0
  have h32:=(mL qad).up hle h32
  have h35:=ORow.up qb6 hle h35
  have h38:=ORow.up qb6 hle h38
  replace ok:Ok u m121 ([(b1,oc 153 [c31,c33,c36])] :: M34 :: M37 :: S) w:=(ok.pk 3 [2,1,0] rfl (by decide))
  refine qaf E qrs rfl (qhE N false _ o53 h122 v28 h32 h35 h38 e113 hG ok) rfl rfl ?_
  rintro _ w ⟨⟨rfl,ok⟩,r123⟩
  refine ⟨_,rfl,fun a E=>?_⟩
  refine wn<|qar (cl1 (cq le_m29 ok [2,0] rfl) (cq le_m29 ok [2] rfl)) fun hT=>kt 9 E rfl hT (qbW (ps:=[(0,.tmp 44),(1,.tmp 45)]) (qs:=[(0,[vu r112]),(1,[vs r40])]) (cs:=[vu r112,vs r40]) qfi qnd rfl ⟨rfl,rfl,rfl,⟨rfl,rfl,rfl,trivial⟩⟩ rfl) fun a E=>qaF [10] (by kernel_rfl) rfl (qaJ ?_)
  ·refine qcO (o:=_) rfl ?_
   replace ok:Ok u m121 (M34 :: [(b1,oc 153 [c31,c33,c36])] :: M37 :: S) w:=(ok.pk 3 [1,0,2] rfl (by decide))
   refine qaf E qrG rfl (qkP N _ v28.wholes h35 _ (Part.mk r112 r40) ⟨rfl,r123,l42⟩ e116 hG ok) rfl rfl ?_
   rintro _ w ⟨m124,c125,M126,rfl,hle,ok,h127⟩
   have le_m0:=le_m0.trans hle
   have le_m29:=le_m29.trans hle
   have hl_0:=(mL qad).up hle hl_0
   have h32:=(mL qad).up hle h32
   have h38:=ORow.up qb6 hle h38
   have h122:=(mL qa0).up hle h122
   refine ⟨_,rfl,fun a E=>?_⟩
   refine wn<|qar (cl1 (cq le_m29 ok [2,1] rfl) (cq le_m29 ok [2] rfl)) fun hT=>kt 11 E rfl hT (qah rfl) fun a E=>kt 12 E rfl hT (qau qi9 rfl) fun a E=>qaF [13] (by kernel_rfl) rfl (qaJ ?_)
   ·refine wo rfl<|qae E ok 1 rfl rfl rfl qqa (ORow.cells h127) rfl ⟨(ORow.one h127),trivial⟩ rfl rfl fun w ok=>wn<|qar (cl2 (by kernel_rfl) (cq le_m29 ok [2] rfl)) fun hT=>qbQ (by kernel_rfl) ?_
    exact ⟨rfl,⟨m124,c31,c125,M126,c36,M37,le_m29,(ok.pk 3 [2,0,1] rfl (by decide)),E.keep [0,3,12],h32,h127,h38⟩⟩
def qkU (u:World) (m0:Mem) (S:Segs) (r:Bool) (a:Act) (w:World):Prop :=
 Ok u m0 S w ∧ a.defers = [] ∧ RVs Tryz.prog a w [.t 2 (.bool r)]
theorem qld (N:Nat) (vl_0:Value) (l_0:List (Bool)) (hl_0:(pL 1 pB) m0 [vl_0] l_0) {r:Bool} (hF:qdc N l_0 = some r) (hG:Glob u) (ok:Ok u m0 S w) :
  Calls Tryz.prog 87 [vl_0].toArray w fun e w'=>(e = .returned (.bool r) ∧ Ok u m0 S w'):=by
 unfold qdc at hF
 refine en (qkU u m0 S) r Tryz.func87 rfl rfl rfl (fun _ _ h=>ra h rfl) fun fin a E=>sg<|aw E rfl fun a E=>sg<|mv E rfl fun a E=>?_
 obtain ⟨x1,e2,hF⟩:=bnd hF
 obtain ⟨b3,o4,es5,hl6,rr7,at8,yy9⟩:=qoD qgT hl_0 e2 (P:=Tryz.prog) (X:=.tmp 3) (I:=.const (vi 0)) (kd:=.i64) (qbo E rfl) (qbo E rfl)
 obtain rfl:=rr7
 refine lv E ok (yy9 _ _) fun a E=>lv E ok (qas qfY rfl (qac.ro at8)) fun a E=>mv E rfl fun a E=>qdW x1 (fun c10=>?_) (fun c10=>?_)
 rotate_left
 ·have hF:=qdt c10 hF
  have E:=E.upd 6 c10 rfl
  refine lsq E fun a E=>ls E fun a E=>pf E rfl rfl fun a E=>aw E rfl fun a E=>wp_ret ?_
  exact fin hF ⟨ok,E.d,rz E rfl⟩
 have hF:=qdr c10 hF
 have E:=E.upd 6 c10 rfl
 refine mv E rfl fun a E=>?_
 obtain ⟨x11,e12,hF⟩:=bnd hF
 obtain ⟨b13,o14,es15,hl16,rr17,at18,yy19⟩:=qoD qgT hl_0 e12 (P:=Tryz.prog) (X:=.tmp 7) (I:=.const (vi 1)) (kd:=.i64) (qbo E rfl) (qbo E rfl)
 obtain rfl:=rr17
 refine lv E ok (yy19 _ _) fun a E=>lv E ok (qas qfY rfl (qac.ro at18)) fun a E=>pt E rfl rfl fun a E=>aw E rfl fun a E=>wp_ret ?_
 exact fin hF ⟨ok,E.d,rz E rfl⟩
def qjR (u:World) (m0:Mem) (S:Segs) (r:Bool) (a:Act) (w:World):Prop :=
 Ok u m0 S w ∧ a.defers = [] ∧ RVs Tryz.prog a w [.t 8 (.bool r)]
theorem qjS (N:Nat) (vx_0:Value) (x_0:Option (Classes)) (hx_0:(pP 3 qd1) m0 [vx_0] x_0) (vw_1:List Value) (w_1:Part) (hw_1:qbM m0 vw_1 w_1) (vf_2:List Value) (f_2:Part) (hf_2:qbM m0 vf_2 f_2) (i_3:Int) (ri_3:InR .i64 i_3) {r:Bool} (hF:qdS N x_0 w_1 f_2 i_3 = some r) (hG:Glob u) (ok:Ok u m0 S w) :
  Calls Tryz.prog 149 [vx_0,.agg vw_1.toArray,.agg vf_2.toArray,vi i_3].toArray w fun e w'=>(e = .returned (.bool r) ∧ Ok u m0 S w'):=by
 obtain ⟨rfl,r1,l2⟩:=hw_1
 obtain ⟨rfl,r3,l4⟩:=hf_2
 unfold qdS at hF
 refine en (qjR u m0 S) r Tryz.func149 rfl rfl rfl (fun _ _ h=>ra h rfl) fun fin a E=>sg<|qcp E ok rfl rfl rfl fun b5 a w E ok=>qcp E ok rfl rfl rfl fun b6 a w E ok=>aw E rfl fun a E=>sg<|mv E rfl fun a E=>?_
 obtain ⟨y7,e8,hF⟩:=bnd hF
 obtain ⟨b9,o10,es11,hv12,hl13,hR14,at15⟩:=qie hx_0 e8
 obtain ⟨c16,c18,c20,rfl,h17,h19,h21⟩:=hR14
 refine lv E ok (qfG hv12 rfl) fun a E=>fv E qif rfl fun a E=>lv E ok (qas qgs rfl (qac.ro (At.sub 0 1 at15))) fun a E=>mv E rfl fun a E=>?_
 obtain ⟨x22,e23,hF⟩:=bnd hF
 obtain ⟨b24,o25,es26,hl27,rr28,at29,yy30⟩:=ia E 13 14 qcu h17 e23
 obtain ⟨c33,rfl,r31,r32,h34⟩:=rr28
 refine lv E ok (yy30 _ _) fun a E=>lv E ok (qaj (cs:=[vi x22.Operand,vi x22.Mod,vb x22.Not,c33]) qcG rfl rfl (qac.ro at29)) fun a E=>qaD E ok qdJ rfl rfl fun b35 a w E ok=>qae E ok 0 rfl rfl rfl qim rfl rfl ⟨rfl,rfl,rfl,(qhv h34),trivial⟩ rfl rfl fun w ok=>wn<|wp_seq<|wp_block<|sg<|fk E ok qeE qav rfl 0 rfl rfl fun a E=>lw E (qaH rfl rfl) fun a E=>mv E rfl fun a E=>bw E 21 hF (fun c36 hF E=>?_) fun c36 hF E=>?_
 ·refine lsz E fun a E=>pf E rfl rfl fun a E=>aw E rfl fun a E=>c_if E rfl (fun h=>by cases h) (fun _=>?_)
  refine sg<|lv E ok (qaj (cs:=[vi x22.Operand,vi x22.Mod,vb x22.Not,c33]) qcG rfl rfl (qac.own 0 rfl rfl)) fun a E=>bd hF fun r45 e46 hF=>lc E qln rfl (qfj N _ x22 ⟨_,rfl,r31,r32,h34⟩ e46 hG ok) fun w ok a E=>aw E rfl fun a E=>cf E rfl hF (fun c47 hF=>?_) fun c47 hF=>?_
  ·refine sg<|fk E ok qhz qij rfl 2 rfl rfl fun a E=>mv E rfl fun a E=>bd hF fun q48 e49 hF=>lw E (qoH rfl rfl e49) fun a E=>lw E (qi7 .and (by decide) rfl rfl) fun a E=>lw E (qaH rfl rfl) fun a E=>aw E rfl fun a E=>wp_ret<|qat<|qai ?_
   exact fin hF ⟨ok.drop.drop.drop,E.d,rz E rfl⟩
  refine wp_skip<|qaq<|qaa<|sg<|fk E ok qhz qij rfl 1 rfl rfl fun a E=>mv E rfl fun a E=>bd hF fun q50 e51 hF=>lw E (qoH rfl rfl e51) fun a E=>lw E (qi7 .and (by decide) rfl rfl) fun a E=>lw E (qaH rfl rfl) fun a E=>aw E rfl fun a E=>wp_ret ?_
  exact fin hF ⟨ok.drop.drop.drop,E.d,rz E rfl⟩
 refine fk E ok qhz qij rfl 1 rfl rfl fun a E=>lw E (qi7 .and (by decide) rfl rfl) fun a E=>lw E (qa1 rfl rfl) fun a E=>pt E rfl rfl fun a E=>aw E rfl fun a E=>cf E rfl hF (fun c37 hF=>?_) fun c37 hF=>?_
 ·refine sg<|fk E ok qgu qfY rfl 0 rfl rfl fun a E=>aw E rfl fun a E=>wp_ret<|qat<|qai ?_
  exact fin hF ⟨ok.drop.drop.drop,E.d,rz E rfl⟩
 refine sg<|lv E ok (qaj (cs:=[vi x22.Operand,vi x22.Mod,vb x22.Not,c33]) qcG rfl rfl (qac.own 0 rfl rfl)) fun a E=>bd hF fun r38 e39 hF=>lc E qln rfl (qfj N _ x22 ⟨_,rfl,r31,r32,h34⟩ e39 hG ok) fun w ok a E=>aw E rfl fun a E=>cf E rfl hF (fun c40 hF=>?_) fun c40 hF=>?_
 ·refine sg<|fk E ok qhz qij rfl 2 rfl rfl fun a E=>mv E rfl fun a E=>bd hF fun q41 e42 hF=>lw E (qoH rfl rfl e42) fun a E=>lw E (qi7 .and (by decide) rfl rfl) fun a E=>lw E (qaH rfl rfl) fun a E=>aw E rfl fun a E=>wp_ret<|qat<|qai ?_
  exact fin hF ⟨ok.drop.drop.drop,E.d,rz E rfl⟩
 refine wp_skip<|qaq<|qaa<|sg<|fk E ok qhz qij rfl 1 rfl rfl fun a E=>mv E rfl fun a E=>bd hF fun q43 e44 hF=>lw E (qoH rfl rfl e44) fun a E=>lw E (qi7 .and (by decide) rfl rfl) fun a E=>lw E (qaH rfl rfl) fun a E=>aw E rfl fun a E=>wp_ret ?_
 exact fin hF ⟨ok.drop.drop.drop,E.d,rz E rfl⟩
def qjq (u:World) (m0:Mem) (S:Segs) (pb0:Nat) (pb1:Nat) (pb2:Nat) (x0:Option (Classes)) (c1:Value) (x1:Part) (x2:Part) (r:Bool) (a:Act) (w:World):Prop :=
 Ok u m0 ([(pb0,oc 127 [c1])] :: [(pb1,oc 162 [vu x1.bits,vs x1.text])] :: [(pb2,oc 162 [vu x2.bits,vs x2.text])] :: S) w ∧ a.defers = [] ∧ RVs Tryz.prog a w [.t 5 (.bool r)]
theorem qjr (N:Nat) (i_0:Int) (ri_0:InR .i64 i_0) {pb0:Nat} {c1:Value} (x0:Option (Classes)) (h2:(pP 3 qd1) m0 [c1] x0) {pb1:Nat} (x1:Part) (r3:InR .u64 x1.bits) (l4:x1.text.length ≤ LIMS) {pb2:Nat} (x2:Part) (r5:InR .u64 x2.bits) (l6:x2.text.length ≤ LIMS) {r:Bool} (hF:qen N i_0 x0 x1 x2 = some r) (hG:Glob u) (ok:Ok u m0 ([(pb0,oc 127 [c1])] :: [(pb1,oc 162 [vu x1.bits,vs x1.text])] :: [(pb2,oc 162 [vu x2.bits,vs x2.text])] :: S) w) :
  Calls Tryz.prog 148 [vi i_0,vp pb0,vp pb1,vp pb2].toArray w fun e w'=>(e = .returned (.bool r) ∧ Ok u m0 ([(pb0,oc 127 [c1])] :: [(pb1,oc 162 [vu x1.bits,vs x1.text])] :: [(pb2,oc 162 [vu x2.bits,vs x2.text])] :: S) w'):=by
 unfold qen at hF
 refine en (qjq u m0 S pb0 pb1 pb2 x0 c1 x1 x2) r Tryz.func148 rfl rfl rfl (fun _ _ h=>ra h rfl) fun fin a E=>sg<|aw E rfl fun a E=>sg<|ld E ok qid 0 rfl rfl rfl fun a E=>lv E ok (qaj (cs:=[vu x1.bits,vs x1.text]) qgy rfl rfl (qac.own 1 rfl rfl)) fun a E=>lv E ok (qaj (cs:=[vu x2.bits,vs x2.text]) qgy rfl rfl (qac.own 2 rfl rfl)) fun a E=>mv E rfl fun a E=>bd hF fun r7 e8 hF=>lc E quA rfl (qjS N _ x0 h2 _ x1 ⟨rfl,r3,l4⟩ _ x2 ⟨rfl,r5,l6⟩ i_0 ri_0 e8 hG ok) fun w ok a E=>aw E rfl fun a E=>wp_ret ?_
 exact fin hF ⟨ok,E.d,rz E rfl⟩
def qk1 (u:World) (m0:Mem) (S:Segs) (pb0:Nat) (pb1:Nat) (pb2:Nat) (pb3:Nat) (pb4:Nat) (pb5:Nat) (x1:List (Int)) (c1:Value) (M2:List (Nat × Obj)) (x2:Int) (x3:Option (Classes)) (c5:Value) (x4:Part) (x5:Part) (r:Bool) (a:Act) (w:World):Prop :=
 Ok u m0 ([(pb0,oc 130 [(Value.func (.func 148) #[] #[.pointer (some ⟨pb3,0,none⟩),.pointer (some ⟨pb4,0,none⟩),.pointer (some ⟨pb5,0,none⟩)])])] :: [(pb1,oc 104 [c1])] :: M2 :: [(pb2,oc 3 [vi x2])] :: [(pb3,oc 127 [c5])] :: [(pb4,oc 162 [vu x4.bits,vs x4.text])] :: [(pb5,oc 162 [vu x5.bits,vs x5.text])] :: S) w ∧ a.defers = [] ∧ RVs Tryz.prog a w [.t 5 (.bool r)]
theorem qk8 (N:Nat) (k_0:Int) (rk_0:InR .i64 k_0) {pb0:Nat} {pb1:Nat} {c1:Value} {M2:List (Nat × Obj)} (x1:List (Int)) (h3:ORow 3 1 (pI .i64) m0 c1 x1 M2) {pb2:Nat} (x2:Int) (r4:InR .i64 x2) {pb3:Nat} {c5:Value} (x3:Option (Classes)) (h6:(pP 3 qd1) m0 [c5] x3) {pb4:Nat} (x4:Part) (r7:InR .u64 x4.bits) (l8:x4.text.length ≤ LIMS) {pb5:Nat} (x5:Part) (r9:InR .u64 x5.bits) (l10:x5.text.length ≤ LIMS) {r:Bool} (hF:qeW N k_0 x1 x2 x3 x4 x5 = some r) (hG:Glob u) (ok:Ok u m0 ([(pb0,oc 130 [(Value.func (.func 148) #[] #[.pointer (some ⟨pb3,0,none⟩),.pointer (some ⟨pb4,0,none⟩),.pointer (some ⟨pb5,0,none⟩)])])] :: [(pb1,oc 104 [c1])] :: M2 :: [(pb2,oc 3 [vi x2])] :: [(pb3,oc 127 [c5])] :: [(pb4,oc 162 [vu x4.bits,vs x4.text])] :: [(pb5,oc 162 [vu x5.bits,vs x5.text])] :: S) w) :
  Calls Tryz.prog 117 [vi k_0,vp pb0,vp pb1,vp pb2].toArray w fun e w'=>(e = .returned (.bool r) ∧ Ok u m0 ([(pb0,oc 130 [(Value.func (.func 148) #[] #[.pointer (some ⟨pb3,0,none⟩),.pointer (some ⟨pb4,0,none⟩),.pointer (some ⟨pb5,0,none⟩)])])] :: [(pb1,oc 104 [c1])] :: M2 :: [(pb2,oc 3 [vi x2])] :: [(pb3,oc 127 [c5])] :: [(pb4,oc 162 [vu x4.bits,vs x4.text])] :: [(pb5,oc 162 [vu x5.bits,vs x5.text])] :: S) w'):=by
 have le_m0:=Mem.le.refl m0
 unfold qeW at hF
 refine en (qk1 u m0 S pb0 pb1 pb2 pb3 pb4 pb5 x1 c1 M2 x2 x3 c5 x4 x5) r Tryz.func117 rfl rfl rfl (fun _ _ h=>ra h rfl) fun fin a E=>sg<|aw E rfl fun a E=>wp_seq<|bd hF fun o11 hJ hF=>qbm (Q':=fun e a w=>e = .normal ∧ Ok u m0 ([(pb0,oc 130 [(Value.func (.func 148) #[] #[.pointer (some ⟨pb3,0,none⟩),.pointer (some ⟨pb4,0,none⟩),.pointer (some ⟨pb5,0,none⟩)])])] :: [(pb1,oc 104 [c1])] :: M2 :: [(pb2,oc 3 [vi x2])] :: [(pb3,oc 127 [c5])] :: [(pb4,oc 162 [vu x4.bits,vs x4.text])] :: [(pb5,oc 162 [vu x5.bits,vs x5.text])] :: S) w ∧ Env 14 a [(5,vb o11)]) ?_ ?_
 rotate_left
 ·intro e a w hO
  obtain ⟨rfl,ok,E⟩:=hO
  refine qaa<|wp_ret ?_
  exact fin hF ⟨ok,E.d,rz E rfl⟩
 have hF:=hJ
 obtain ⟨x12,e13,hF⟩:=bnd hF
 obtain ⟨r23,e24,hF⟩:=bnd hF
 obtain rfl:=sj hF
 refine qcI [] (Cls u m0 ([(pb0,oc 130 [(Value.func (.func 148) #[] #[.pointer (some ⟨pb3,0,none⟩),.pointer (some ⟨pb4,0,none⟩),.pointer (some ⟨pb5,0,none⟩)])])] :: [(pb1,oc 104 [c1])] :: M2 :: [(pb2,oc 3 [vi x2])] :: [(pb3,oc 127 [c5])] :: [(pb4,oc 162 [vu x4.bits,vs x4.text])] :: [(pb5,oc 162 [vu x5.bits,vs x5.text])] :: [])) (Cls u m0 ([(pb0,oc 130 [(Value.func (.func 148) #[] #[.pointer (some ⟨pb3,0,none⟩),.pointer (some ⟨pb4,0,none⟩),.pointer (some ⟨pb5,0,none⟩)])])] :: [(pb1,oc 104 [c1])] :: M2 :: [(pb2,oc 3 [vi x2])] :: [(pb3,oc 127 [c5])] :: [(pb4,oc 162 [vu x4.bits,vs x4.text])] :: [(pb5,oc 162 [vu x5.bits,vs x5.text])] :: [])) (by kernel_rfl) ?_
 intro w hw
 replace ok:=qdF ok hw
 clear hw
 refine qar (cl1 (cq le_m0 ok [0,1,2,3,4,5,6] rfl) (cq le_m0 ok [0,1,2,3,4,5,6] rfl)) fun hT=>kt 0 E rfl hT (qas qtx rfl (qac.cown 0 rfl rfl)) fun a E=>kt 1 E rfl hT (qas qlP rfl (qac.cown 1 rfl rfl)) fun a E=>kt 2 E rfl hT (qas qav rfl (qac.cown 3 rfl rfl)) fun a E=>?_
 obtain ⟨b25,o26,hp27,yy28⟩:=qeM qhy h3 e13 (P:=Tryz.prog) (X:=.tmp 7) (I:=.tmp 8) (kd:=.i64) (qbo E rfl) (qbo E rfl)
 refine kt 3 E rfl hT (yy28 _ _) fun a E=>?_
 obtain ⟨es29,hl30,rr31,hh32⟩:=qhJ h3 e13 hp27 (by decide)
 obtain ⟨rfl,r33⟩:=rr31
 refine kt 4 E rfl hT (qas qav rfl (qac.crow hh32 2 rfl)) fun a E=>kt 5 E rfl hT (qal rfl) fun a E=>kt 6 E rfl hT (qbr rfl rfl) fun a E=>qaF [7] (by kernel_rfl) rfl (qaJ ?_)
 ·refine qcO (o:=_) rfl ?_
  replace ok:Ok u m0 ([(pb3,oc 127 [c5])] :: [(pb4,oc 162 [vu x4.bits,vs x4.text])] :: [(pb5,oc 162 [vu x5.bits,vs x5.text])] :: [(pb0,oc 130 [(Value.func (.func 148) #[] #[.pointer (some ⟨pb3,0,none⟩),.pointer (some ⟨pb4,0,none⟩),.pointer (some ⟨pb5,0,none⟩)])])] :: [(pb1,oc 104 [c1])] :: M2 :: [(pb2,oc 3 [vi x2])] :: S) w:=(ok.pk 7 [4,5,6,0,1,2,3] rfl (by decide))
  refine qbJ E rfl quq rfl (qjr N (IntKind.wrap .i64 (x12 + k_0)) (InR.wrap _ _) x3 h6 x4 r7 l8 x5 r9 l10 e24 hG ok) rfl rfl ?_
  rintro _ w ⟨rfl,ok⟩
  refine ⟨_,rfl,fun a E=>?_⟩
  refine wn<|qar (cl1 (cq le_m0 ok [3,4,5,6,0,1,2] rfl) (cq le_m0 ok [3,4,5,6,0,1,2] rfl)) fun hT=>kt 8 E rfl hT (qax rfl) fun a E=>qbQ (by kernel_rfl) ?_
  exact ⟨rfl,⟨(ok.pk 7 [3,4,5,6,0,1,2] rfl (by decide)),E.keep [5]⟩⟩
def qlb (u:World) (m0:Mem) (S:Segs) (pb0:Nat) (pb1:Nat) (pb2:Nat) (pb3:Nat) (pb4:Nat) (pb5:Nat) (x1:List (Int)) (c1:Value) (M2:List (Nat × Obj)) (x2:Int) (x3:Option (Classes)) (c5:Value) (x4:Part) (x5:Part) (r:Bool) (a:Act) (w:World):Prop :=
 Ok u m0 ([(pb0,oc 130 [(Value.func (.func 148) #[] #[.pointer (some ⟨pb3,0,none⟩),.pointer (some ⟨pb4,0,none⟩),.pointer (some ⟨pb5,0,none⟩)])])] :: [(pb1,oc 104 [c1])] :: M2 :: [(pb2,oc 3 [vi x2])] :: [(pb3,oc 127 [c5])] :: [(pb4,oc 162 [vu x4.bits,vs x4.text])] :: [(pb5,oc 162 [vu x5.bits,vs x5.text])] :: S) w ∧ a.defers = [] ∧ RVs Tryz.prog a w [.t 4 (.bool r)]
theorem qgE (N:Nat) (vc_0:Value) (c_0:List (List (Relation))) (hc_0:(pL 1 (pL 4 qag)) m0 [vc_0] c_0) {pb0:Nat} {pb1:Nat} {c1:Value} {M2:List (Nat × Obj)} (x1:List (Int)) (h3:ORow 3 1 (pI .i64) m0 c1 x1 M2) {pb2:Nat} (x2:Int) (r4:InR .i64 x2) {pb3:Nat} {c5:Value} (x3:Option (Classes)) (h6:(pP 3 qd1) m0 [c5] x3) {pb4:Nat} (x4:Part) (r7:InR .u64 x4.bits) (l8:x4.text.length ≤ LIMS) {pb5:Nat} (x5:Part) (r9:InR .u64 x5.bits) (l10:x5.text.length ≤ LIMS) {r:Bool} (hF:qde N c_0 x1 x2 x3 x4 x5 = some r) (hG:Glob u) (ok:Ok u m0 ([(pb0,oc 130 [(Value.func (.func 148) #[] #[.pointer (some ⟨pb3,0,none⟩),.pointer (some ⟨pb4,0,none⟩),.pointer (some ⟨pb5,0,none⟩)])])] :: [(pb1,oc 104 [c1])] :: M2 :: [(pb2,oc 3 [vi x2])] :: [(pb3,oc 127 [c5])] :: [(pb4,oc 162 [vu x4.bits,vs x4.text])] :: [(pb5,oc 162 [vu x5.bits,vs x5.text])] :: S) w) :
  Calls Tryz.prog 116 [vc_0,Value.func (.func 117) #[] #[.pointer (some ⟨pb0,0,none⟩),.pointer (some ⟨pb1,0,none⟩),.pointer (some ⟨pb2,0,none⟩)]].toArray w fun e w'=>(e = .returned (.bool r) ∧ Ok u m0 ([(pb0,oc 130 [(Value.func (.func 148) #[] #[.pointer (some ⟨pb3,0,none⟩),.pointer (some ⟨pb4,0,none⟩),.pointer (some ⟨pb5,0,none⟩)])])] :: [(pb1,oc 104 [c1])] :: M2 :: [(pb2,oc 3 [vi x2])] :: [(pb3,oc 127 [c5])] :: [(pb4,oc 162 [vu x4.bits,vs x4.text])] :: [(pb5,oc 162 [vu x5.bits,vs x5.text])] :: S) w'):=by
 unfold qde at hF
 refine en (qlb u m0 S pb0 pb1 pb2 pb3 pb4 pb5 x1 c1 M2 x2 x3 c5 x4 x5) r Tryz.func116 rfl rfl rfl (fun _ _ h=>ra h rfl) fun fin a E=>sg<|aw E rfl fun a E=>sg<|aw E rfl fun a E=>sg<|aw E rfl fun a E=>wp_seq<|sg<|mv E rfl fun a E=>lv E ok (qaz qfR hc_0 rfl) fun a E=>mv E rfl fun a E=>wn<|wp_block<|bd hF fun o13 hL hF=>qaE _ (fun (s:Int × Bool × Int) a w=>Ok u m0 ([(pb0,oc 130 [(Value.func (.func 148) #[] #[.pointer (some ⟨pb3,0,none⟩),.pointer (some ⟨pb4,0,none⟩),.pointer (some ⟨pb5,0,none⟩)])])] :: [(pb1,oc 104 [c1])] :: M2 :: [(pb2,oc 3 [vi x2])] :: [(pb3,oc 127 [c5])] :: [(pb4,oc 162 [vu x4.bits,vs x4.text])] :: [(pb5,oc 162 [vu x5.bits,vs x5.text])] :: S) w ∧ Env 35 a [(1,(Value.func (.func 117) #[] #[.pointer (some ⟨pb0,0,none⟩),.pointer (some ⟨pb1,0,none⟩),.pointer (some ⟨pb2,0,none⟩)])),(5,vi s.1),(6,vb s.2.1),(10,vc_0),(11,(vi (c_0.length:Int))),(12,vi s.2.2)] ∧ InR .i64 s.1 ∧ InR .i64 s.2.2) (fun (b:Bool) e a w=>e = (.exit 0) ∧ Ok u m0 ([(pb0,oc 130 [(Value.func (.func 148) #[] #[.pointer (some ⟨pb3,0,none⟩),.pointer (some ⟨pb4,0,none⟩),.pointer (some ⟨pb5,0,none⟩)])])] :: [(pb1,oc 104 [c1])] :: M2 :: [(pb2,oc 3 [vi x2])] :: [(pb3,oc 127 [c5])] :: [(pb4,oc 162 [vu x4.bits,vs x4.text])] :: [(pb5,oc 162 [vu x5.bits,vs x5.text])] :: S) w ∧ Env 35 a [(6,vb b)]) ?_ ?_ N _ a w hL ⟨ok,E.keep [1,5,6,10,11,12],(ir 0),(ir 0)⟩
 rotate_left
 ·intro e a w _ hO
  obtain ⟨rfl,ok,E⟩:=hO
  refine qaK<|qaa<|sg<|mv E rfl fun a E=>aw E rfl fun a E=>wp_ret ?_
  exact fin hF ⟨ok,E.d,rz E rfl⟩
 rintro ⟨v16,v17,v18⟩ a w r ⟨ok,E,r19,r20⟩ hF
 replace hF:qbE N c_0 x1 x2 x3 x4 x5 v16 v17 v18 = some r:=hF
 unfold qbE at hF
 refine sg<|lw E (qaG rfl rfl) fun a E=>wn<|wp_seq<|cg E rfl hF (fun c21 hF=>?_) fun c21 hF=>?_
 ·refine wp_exit<|qay ?_
  cases hF
  exact so (⟨rfl,⟨ok,E.keep [6]⟩⟩)
 refine wp_skip<|qaa<|wp_seq<|wp_block<|sg ?_
 obtain ⟨x22,e23,hF⟩:=bnd hF
 obtain ⟨b24,o25,es26,hl27,rr28,at29,yy30⟩:=ia E 10 12 qfR hc_0 e23
 obtain ⟨c31,rfl,h32⟩:=qef rr28
 refine lv E ok (yy30 _ _) fun a E=>lv E ok (qas qgs rfl (qac.ro at29)) fun a E=>aw E rfl fun a E=>sg<|av E rfl fun a E=>wn<|wp_seq<|sg<|mv E rfl fun a E=>lv E ok (qaz qcu h32 rfl) fun a E=>mv E rfl fun a E=>wn<|wp_block<|bd hF fun o35 hL hF=>qaE _ (fun (s:Int × Bool × Int) a w=>Ok u m0 ([(pb0,oc 130 [(Value.func (.func 148) #[] #[.pointer (some ⟨pb3,0,none⟩),.pointer (some ⟨pb4,0,none⟩),.pointer (some ⟨pb5,0,none⟩)])])] :: [(pb1,oc 104 [c1])] :: M2 :: [(pb2,oc 3 [vi x2])] :: [(pb3,oc 127 [c5])] :: [(pb4,oc 162 [vu x4.bits,vs x4.text])] :: [(pb5,oc 162 [vu x5.bits,vs x5.text])] :: S) w ∧ Env 35 a [(1,(Value.func (.func 117) #[] #[.pointer (some ⟨pb0,0,none⟩),.pointer (some ⟨pb1,0,none⟩),.pointer (some ⟨pb2,0,none⟩)])),(5,vi s.1),(6,vb v17),(9,vb s.2.1),(10,vc_0),(11,(vi (c_0.length:Int))),(12,vi v18),(17,(vi (x22.length:Int))),(18,vi s.2.2)] ∧ InR .i64 s.1 ∧ InR .i64 s.2.2) (fun (b:(Int × Bool)) e a w=>e = (.exit 2) ∧ Ok u m0 ([(pb0,oc 130 [(Value.func (.func 148) #[] #[.pointer (some ⟨pb3,0,none⟩),.pointer (some ⟨pb4,0,none⟩),.pointer (some ⟨pb5,0,none⟩)])])] :: [(pb1,oc 104 [c1])] :: M2 :: [(pb2,oc 3 [vi x2])] :: [(pb3,oc 127 [c5])] :: [(pb4,oc 162 [vu x4.bits,vs x4.text])] :: [(pb5,oc 162 [vu x5.bits,vs x5.text])] :: S) w ∧ Env 35 a [(1,(Value.func (.func 117) #[] #[.pointer (some ⟨pb0,0,none⟩),.pointer (some ⟨pb1,0,none⟩),.pointer (some ⟨pb2,0,none⟩)])),(5,vi b.1),(6,vb v17),(9,vb b.2),(10,vc_0),(11,(vi (c_0.length:Int))),(12,vi v18)] ∧ InR .i64 b.1) ?_ ?_ N _ a w hL ⟨ok,E.keep [1,5,6,9,10,11,12,17,18],r19,(ir 0)⟩
 rotate_left
 ·intro e a w _ hO
  obtain ⟨rfl,ok,E,r47⟩:=hO
  refine qaK<|qaa<|qab<|mz E rfl rfl fun a E=>qdW v17 (fun c48=>?_) (fun c48=>?_)
  ·have hF:=qdr c48 hF
   have E:=E.upd 30 c48 rfl
   refine ls E fun a E=>pt E rfl rfl fun a E=>av E rfl fun a E=>wpList_nil<|qaq<|qaa<|qab<|lw E (qaA rfl rfl (InR.inc r20 (qan hc_0) c21)) fun a E=>mv E rfl fun a E=>wpList_nil ?_
   cases hF
   exact qaw ⟨ok,E.keep [1,5,6,10,11,12],r47,(InR.inc r20 (qan hc_0) c21)⟩
  have hF:=qdt c48 hF
  have E:=E.upd 30 c48 rfl
  refine mv E rfl fun a E=>pf E rfl rfl fun a E=>av E rfl fun a E=>wpList_nil<|qaq<|qaa<|qab<|lw E (qaA rfl rfl (InR.inc r20 (qan hc_0) c21)) fun a E=>mv E rfl fun a E=>wpList_nil ?_
  cases hF
  exact qaw ⟨ok,E.keep [1,5,6,10,11,12],r47,(InR.inc r20 (qan hc_0) c21)⟩
 rintro ⟨v38,v39,v40⟩ a w r ⟨ok,E,r41,r42⟩ hF
 replace hF:qbC N x1 x2 x3 x4 x5 x22 v38 v39 v40 = some r:=hF
 unfold qbC at hF
 refine sg<|lw E (qaG rfl rfl) fun a E=>wn<|wp_seq<|cg E rfl hF (fun c43 hF=>?_) fun c43 hF=>?_
 ·refine wp_exit<|qay ?_
  cases hF
  exact so (⟨rfl,⟨ok,E.keep [1,5,6,9,10,11,12],r41⟩⟩)
 refine wp_skip<|qaa<|wp_seq<|wp_block<|sg<|mz E rfl rfl fun a E=>qdW v39 (fun c44=>?_) (fun c44=>?_)
 rotate_left
 ·have hF:=qdt c44 hF
  have E:=E.upd 21 c44 rfl
  refine lsq E fun a E=>ls E fun a E=>pf E rfl rfl fun a E=>aw E rfl fun a E=>qab<|mv E rfl fun a E=>lw E (qbr rfl rfl) fun a E=>av E rfl fun a E=>wpList_nil<|qaq<|qaa<|qab<|lw E (qaA rfl rfl (InR.inc r42 (qan h32) c43)) fun a E=>mv E rfl fun a E=>wpList_nil ?_
  cases hF
  exact qaw ⟨ok,E.keep [1,5,6,9,10,11,12,17,18],(InR.wrap _ _),(InR.inc r42 (qan h32) c43)⟩
 have hF:=qdr c44 hF
 have E:=E.upd 21 c44 rfl
 refine mz E rfl rfl fun a E=>bd hF fun r45 e46 hF=>qbJ E rfl quv rfl (qk8 N v38 r41 x1 h3 x2 r4 x3 h6 x4 r7 l8 x5 r9 l10 e46 hG ok) rfl rfl ?_
 rintro _ w ⟨rfl,ok⟩
 refine ⟨_,rfl,fun a E=>?_⟩
 refine pt E rfl rfl fun a E=>aw E rfl fun a E=>qab<|mv E rfl fun a E=>lw E (qbr rfl rfl) fun a E=>av E rfl fun a E=>wpList_nil<|qaq<|qaa<|qab<|lw E (qaA rfl rfl (InR.inc r42 (qan h32) c43)) fun a E=>mv E rfl fun a E=>wpList_nil ?_
 cases hF
 exact qaw ⟨ok,E.keep [1,5,6,9,10,11,12,17,18],(InR.wrap _ _),(InR.inc r42 (qan h32) c43)⟩
def qjM (u:World) (m0:Mem) (S:Segs) (pb0:Nat) (pb1:Nat) (pb2:Nat) (pb3:Nat) (pb4:Nat) (pb5:Nat) (x0:Option (Classes)) (c1:Value) (x1:Part) (x2:Part) (x3:List (List (List (Relation)))) (c7:Value) (x4:List (Int)) (c9:Value) (M10:List (Nat × Obj)) (r:Bool) (a:Act) (w:World):Prop :=
 Ok u m0 ([(pb0,oc 127 [c1])] :: [(pb1,oc 162 [vu x1.bits,vs x1.text])] :: [(pb2,oc 162 [vu x2.bits,vs x2.text])] :: [(pb3,oc 64 [c7])] :: [(pb4,oc 104 [c9])] :: M10 :: [(pb5,oc 108 [(Value.func (.func 87) #[] #[])])] :: S) w ∧ a.defers = [] ∧ RVs Tryz.prog a w [.t 5 (.bool r)]
theorem qhs (N:Nat) {pb0:Nat} {c1:Value} (x0:Option (Classes)) (h2:(pP 3 qd1) m0 [c1] x0) {pb1:Nat} (x1:Part) (r3:InR .u64 x1.bits) (l4:x1.text.length ≤ LIMS) {pb2:Nat} (x2:Part) (r5:InR .u64 x2.bits) (l6:x2.text.length ≤ LIMS) {pb3:Nat} {c7:Value} (x3:List (List (List (Relation)))) (h8:(pL 1 (pL 1 (pL 4 qag))) m0 [c7] x3) {pb4:Nat} {c9:Value} {M10:List (Nat × Obj)} (x4:List (Int)) (h11:ORow 3 1 (pI .i64) m0 c9 x4 M10) {pb5:Nat} {r:Bool} (hF:qc3 N x0 x1 x2 x3 x4 = some r) (hG:Glob u) (ok:Ok u m0 ([(pb0,oc 127 [c1])] :: [(pb1,oc 162 [vu x1.bits,vs x1.text])] :: [(pb2,oc 162 [vu x2.bits,vs x2.text])] :: [(pb3,oc 64 [c7])] :: [(pb4,oc 104 [c9])] :: M10 :: [(pb5,oc 108 [(Value.func (.func 87) #[] #[])])] :: S) w) :
  Calls Tryz.prog 115 [Value.func (.func 148) #[] #[.pointer (some ⟨pb0,0,none⟩),.pointer (some ⟨pb1,0,none⟩),.pointer (some ⟨pb2,0,none⟩)],vp pb3,vp pb4,vp pb5].toArray w fun e w'=>(e = .returned (.bool r) ∧ Ok u m0 ([(pb0,oc 127 [c1])] :: [(pb1,oc 162 [vu x1.bits,vs x1.text])] :: [(pb2,oc 162 [vu x2.bits,vs x2.text])] :: [(pb3,oc 64 [c7])] :: [(pb4,oc 104 [c9])] :: M10 :: [(pb5,oc 108 [(Value.func (.func 87) #[] #[])])] :: S) w'):=by
 have le_m0:=Mem.le.refl m0
 unfold qc3 at hF
 refine en (qjM u m0 S pb0 pb1 pb2 pb3 pb4 pb5 x0 c1 x1 x2 x3 c7 x4 c9 M10) r Tryz.func115 rfl rfl rfl (fun _ _ h=>ra h rfl) fun fin a E=>sg<|qcp E ok rfl rfl rfl fun b12 a w E ok=>aw E rfl fun a E=>sg<|ld E ok qgt 4 rfl rfl rfl fun a E=>lv E ok (qaz qcE h8 rfl) fun a E=>bd hF fun l13 e14 hF=>qeb (R:=pB) E ok qgT qpi rfl qjG rfl e14 rfl rfl fun c15 M16 a w E ok h17=>aw E rfl fun a E=>wp_seq<|sg<|ld E ok qgt 5 rfl rfl rfl fun a E=>lv E ok (qaz qcE h8 rfl) fun a E=>mv E rfl fun a E=>wn<|wp_block<|bd hF fun o23 hL hF=>qaE _ (fun (s:Int × (List (Bool))) a w=>∃ c25 M26,Ok u m0 (M26 :: [(b12,oc 130 [(Value.func (.func 148) #[] #[.pointer (some ⟨pb0,0,none⟩),.pointer (some ⟨pb1,0,none⟩),.pointer (some ⟨pb2,0,none⟩)])])] :: [(pb0,oc 127 [c1])] :: [(pb1,oc 162 [vu x1.bits,vs x1.text])] :: [(pb2,oc 162 [vu x2.bits,vs x2.text])] :: [(pb3,oc 64 [c7])] :: [(pb4,oc 104 [c9])] :: M10 :: [(pb5,oc 108 [(Value.func (.func 87) #[] #[])])] :: S) w ∧ Env 29 a [(2,vp pb4),(3,vp pb5),(4,vp b12),(6,c25),(12,c7),(13,(vi (x3.length:Int))),(14,vi s.1)] ∧ InR .i64 s.1 ∧ ORow 4 1 pB m0 c25 s.2 M26) (fun (b:((List (Bool)))) e a w=>e = (.exit 0) ∧ ∃ c82 M83,Ok u m0 (M83 :: [(b12,oc 130 [(Value.func (.func 148) #[] #[.pointer (some ⟨pb0,0,none⟩),.pointer (some ⟨pb1,0,none⟩),.pointer (some ⟨pb2,0,none⟩)])])] :: [(pb0,oc 127 [c1])] :: [(pb1,oc 162 [vu x1.bits,vs x1.text])] :: [(pb2,oc 162 [vu x2.bits,vs x2.text])] :: [(pb3,oc 64 [c7])] :: [(pb4,oc 104 [c9])] :: M10 :: [(pb5,oc 108 [(Value.func (.func 87) #[] #[])])] :: S) w ∧ Env 29 a [(3,vp pb5),(6,c82)] ∧ ORow 4 1 pB m0 c82 b M83) ?_ ?_ N _ a w hL ⟨c15,M16,ok,E.keep [2,3,4,6,12,13,14],(ir 0),h17⟩
 rotate_left
 ·intro e a w _ hO
  obtain ⟨rfl,c72,M73,ok,E,h74⟩:=hO
  refine qaK<|qaa<|sg<|ld E ok qnA 8 rfl rfl rfl fun a E=>mv E rfl fun a E=>?_
  obtain ⟨r80,e81,hF⟩:=bnd hF
  obtain ⟨m75,hle77,ok76,hfz78⟩:=(ok.frs 0 rfl).freeze
  have h79:=ORow.froz mB h74 hle77 hfz78 (by decide)
  refine qi2 E rfl qvz rfl (qld N _ o23 h79 e81 hG ok76) rfl rfl ?_
  rintro _ w ⟨rfl,okz⟩
  replace ok:=(Ok.thawAt 0 rfl ok hle77 hfz78 okz)
  refine ⟨_,rfl,fun a E=>?_⟩
  refine aw E rfl fun a E=>wp_ret ?_
  exact fin hF ⟨ok.drop.drop,E.d,rz E rfl⟩
 rintro ⟨v28,v29⟩ a w r ⟨c31,M32,ok,E,r30,h33⟩ hF
 replace hF:qby N x0 x1 x2 x3 x4 v28 v29 = some r:=hF
 unfold qby at hF
 refine sg<|lw E (qaG rfl rfl) fun a E=>wn<|wp_seq<|cg E rfl hF (fun c34 hF=>?_) fun c34 hF=>?_
 ·refine wp_exit<|qay ?_
  cases hF
  exact so (⟨rfl,⟨c31,M32,ok,E.keep [3,6],h33⟩⟩)
 refine wp_skip<|qaa<|wp_seq<|wp_block<|sg<|mv E rfl fun a E=>?_
 obtain ⟨x35,e36,hF⟩:=bnd hF
 obtain ⟨b37,o38,es39,hl40,rr41,at42,yy43⟩:=ia E 12 14 qcE h8 e36
 obtain ⟨c44,rfl,h45⟩:=qef rr41
 refine lv E ok (yy43 _ _) fun a E=>lv E ok (qas qe9 rfl (qac.ro at42)) fun a E=>qaD E ok qio rfl rfl fun b46 a w E ok=>qae E ok 0 rfl rfl rfl qbu rfl rfl ⟨rfl,trivial⟩ rfl rfl fun w ok=>aw E rfl fun a E=>bd hF fun o47 hJ hF=>qbm (Q':=fun e a w=>e = .normal ∧ ∃ c48 M49,Ok u m0 ([(b46,oc 3 [vi v28])] :: M49 :: [(b12,oc 130 [(Value.func (.func 148) #[] #[.pointer (some ⟨pb0,0,none⟩),.pointer (some ⟨pb1,0,none⟩),.pointer (some ⟨pb2,0,none⟩)])])] :: [(pb0,oc 127 [c1])] :: [(pb1,oc 162 [vu x1.bits,vs x1.text])] :: [(pb2,oc 162 [vu x2.bits,vs x2.text])] :: [(pb3,oc 64 [c7])] :: [(pb4,oc 104 [c9])] :: M10 :: [(pb5,oc 108 [(Value.func (.func 87) #[] #[])])] :: S) w ∧ Env 29 a [(2,vp pb4),(3,vp pb5),(4,vp b12),(6,c48),(12,c7),(13,(vi (x3.length:Int))),(14,vi v28)] ∧ ORow 4 1 pB m0 c48 o47 M49) ?_ ?_
 rotate_left
 ·intro e a w hO
  obtain ⟨rfl,c69,M70,ok,E,h71⟩:=hO
  refine qaq<|qaa<|qab<|lw E (qaA rfl rfl (InR.inc r30 (qan h8) c34)) fun a E=>mv E rfl fun a E=>wpList_nil ?_
  cases hF
  exact qaw ⟨c69,M70,(ok.pk 10 [1,2,3,4,5,6,7,8,9] rfl (by decide)),E.keep [2,3,4,6,12,13,14],(InR.inc r30 (qan h8) c34),h71⟩
 have hF:=hJ
 obtain ⟨r51,e52,hF⟩:=bnd hF
 obtain ⟨x53,e54,hF⟩:=bnd hF
 obtain ⟨l59,e60,hF⟩:=bnd hF
 obtain rfl:=sj hF
 refine qcI [] (Cls u m0 ([(b46,oc 3 [vi v28])] :: [(b12,oc 130 [(Value.func (.func 148) #[] #[.pointer (some ⟨pb0,0,none⟩),.pointer (some ⟨pb1,0,none⟩),.pointer (some ⟨pb2,0,none⟩)])])] :: [(pb0,oc 127 [c1])] :: [(pb1,oc 162 [vu x1.bits,vs x1.text])] :: [(pb2,oc 162 [vu x2.bits,vs x2.text])] :: [(pb3,oc 64 [c7])] :: [(pb4,oc 104 [c9])] :: M10 :: [(pb5,oc 108 [(Value.func (.func 87) #[] #[])])] :: [])) (Cls u m0 ([(b46,oc 3 [vi v28])] :: [(b12,oc 130 [(Value.func (.func 148) #[] #[.pointer (some ⟨pb0,0,none⟩),.pointer (some ⟨pb1,0,none⟩),.pointer (some ⟨pb2,0,none⟩)])])] :: [(pb0,oc 127 [c1])] :: [(pb1,oc 162 [vu x1.bits,vs x1.text])] :: [(pb2,oc 162 [vu x2.bits,vs x2.text])] :: [(pb3,oc 64 [c7])] :: [(pb4,oc 104 [c9])] :: M10 :: [(pb5,oc 108 [(Value.func (.func 87) #[] #[])])] :: [])) (by kernel_rfl) ?_
 intro w hw
 replace ok:=qdF ok hw
 clear hw
 refine qar (cl1 (cq le_m0 ok [0,2,3,4,5,6,7,8,9] rfl) (cq le_m0 ok [0,2,3,4,5,6,7,8,9] rfl)) fun hT=>kt 0 E rfl hT (qal rfl) fun a E=>kt 1 E rfl hT (qas qav rfl (qac.cown 0 rfl rfl)) fun a E=>kt 2 E rfl hT (qal rfl) fun a E=>kt 3 E rfl hT (qbn (caps:=[.tmp 4,.tmp 2,.tmp 7]) rfl) fun a E=>qaF [4] (by kernel_rfl) rfl (qaJ ?_)
 ·refine qcO (o:=_) rfl ?_
  replace ok:Ok u m0 ([(b12,oc 130 [(Value.func (.func 148) #[] #[.pointer (some ⟨pb0,0,none⟩),.pointer (some ⟨pb1,0,none⟩),.pointer (some ⟨pb2,0,none⟩)])])] :: [(pb4,oc 104 [c9])] :: M10 :: [(b46,oc 3 [vi v28])] :: [(pb0,oc 127 [c1])] :: [(pb1,oc 162 [vu x1.bits,vs x1.text])] :: [(pb2,oc 162 [vu x2.bits,vs x2.text])] :: M32 :: [(pb3,oc 64 [c7])] :: [(pb5,oc 108 [(Value.func (.func 87) #[] #[])])] :: S) w:=(ok.pk 10 [2,7,8,0,3,4,5,1,6,9] rfl (by decide))
  refine lc E qpl rfl (qgE N _ x35 h45 x4 h11 v28 r30 x0 h2 x1 r3 l4 x2 r5 l6 e52 hG ok) fun w ok a E=>wn<|qar (cl1 (cq le_m0 ok [3,0,4,5,6,8,1,2,9] rfl) (cq le_m0 ok [3,0,4,5,6,8,1,2,9] rfl)) fun hT=>?_
  obtain ⟨b63,o64,hp65,yy66⟩:=qeM qgT h33 e54 (P:=Tryz.prog) (X:=.tmp 19) (I:=.tmp 20) (kd:=.i64) (qbo E rfl) (qbo E rfl)
  refine kt 5 E rfl hT (yy66 _ _) fun a E=>qaF [6] (by kernel_rfl) rfl (qaJ ?_)
  ·refine wo rfl<|qgi (R:=pB) E ok 7 rfl h33 e54 hp65 rfl rfl qmM rfl rfl rfl ⟨rfl,trivial⟩ qjG e60 rfl fun M67 w ok h68=>wn<|qar (cl1 (cq le_m0 ok [3,0,4,5,6,8,1,2,9] rfl) (cq le_m0 ok [3,0,4,5,6,8,1,2,9] rfl)) fun hT=>qbQ (by kernel_rfl) ?_
   exact ⟨rfl,⟨c31,M67,(ok.pk 10 [3,7,0,4,5,6,8,1,2,9] rfl (by decide)),E.keep [2,3,4,6,12,13,14],h68⟩⟩
def qjE (u:World) (m0:Mem) (S:Segs) (r:Bool) (a:Act) (w:World):Prop :=
 Ok u m0 S w ∧ a.defers = [] ∧ RVs Tryz.prog a w [.t 4 (.bool r)]
theorem qhZ (N:Nat) (a_0:List UInt8) (la_0:a_0.length ≤ LIMS) (b_1:List UInt8) (lb_1:b_1.length ≤ LIMS) {r:Bool} (hF:qeI N a_0 b_1 = some r) (hG:Glob u) (ok:Ok u m0 S w) :
  Calls Tryz.prog 147 [vs a_0,vs b_1].toArray w fun e w'=>(e = .returned (.bool r) ∧ Ok u m0 S w'):=by
 unfold qeI at hF
 refine en (qjE u m0 S) r Tryz.func147 rfl rfl rfl (fun _ _ h=>ra h rfl) fun fin a E=>sg<|aw E rfl fun a E=>wp_seq<|sg<|mv E rfl fun a E=>lw E (qaL Tryz.underlying9 rfl) fun a E=>mv E rfl fun a E=>lw E (qaL Tryz.underlying9 rfl) fun a E=>lw E (qa1 rfl rfl) fun a E=>wn<|cf E rfl hF (fun c1 hF=>?_) fun c1 hF=>?_
 ·refine sg<|mv E rfl fun a E=>lw E (qaL Tryz.underlying9 rfl) fun a E=>mv E rfl fun a E=>lw E (qaL Tryz.underlying9 rfl) fun a E=>lw E (qaG rfl rfl) fun a E=>av E rfl fun a E=>wn<|wp_ret<|qai ?_
  exact fin hF ⟨ok,E.d,rz E rfl⟩
 refine wp_skip<|qaa<|wp_seq<|sg<|mv E rfl fun a E=>lw E (qaL Tryz.underlying9 rfl) fun a E=>mv E rfl fun a E=>wn<|wp_block<|bd hF fun o3 hL hF=>qaE _ (fun (s:Int) a w=>Ok u m0 (S) w ∧ Env 48 a [(0,vs a_0),(1,vs b_1),(17,(vi (a_0.length:Int))),(18,vi s)] ∧ InR .i64 s) (fun (b:(Unit ⊕ Bool)) e a w=>(Sum.elim (fun b23=>e = (.exit 0) ∧ Ok u m0 (S) w ∧ Env 48 a []) (fun b24=>e = .ret ∧ qjE u m0 S b24 a w)) b) ?_ ?_ N _ a w hL ⟨ok,E.keep [0,1,17,18],(ir 0)⟩
 rotate_left
 ·intro e a w _ hO
  rcases o3 with o3 | o3
  rotate_left
  ·obtain ⟨rfl,hret⟩:=hO
   refine qat<|qai ?_
   exact fin hF hret
  have hF:=qcA hF
  obtain ⟨rfl,ok,E⟩:=hO
  refine qaK<|qaa<|sg<|aw E rfl fun a E=>wp_ret ?_
  exact fin hF ⟨ok,E.d,rz E rfl⟩
 rintro v5 a w r ⟨ok,E,r6⟩ hF
 replace hF:qdA N a_0 b_1 v5 = some r:=hF
 unfold qdA at hF
 refine sg<|lw E (qaG rfl rfl) fun a E=>wn<|wp_seq<|cg E rfl hF (fun c7 hF=>?_) fun c7 hF=>?_
 ·refine wp_exit<|qay ?_
  cases hF
  exact so (sl ⟨rfl,⟨ok,E.keep []⟩⟩)
 refine wp_skip<|qaa<|wp_seq<|wp_block<|sg<|mv E rfl fun a E=>av E rfl fun a E=>wn<|wp_seq<|qgZ (by kernel_rfl) (by kernel_rfl) ok<|qv E (qal rfl) fun a E=>qv E (qal rfl) fun a E=>bd hF fun c8 e9 hF=>qv E (qc1 Tryz.underlying9 rfl rfl e9) fun a E=>qv E (qal rfl) fun a E=>qv E (qal rfl) fun a E=>?_
 refine bd hF fun c10 e11 hF=>qv E (qc1 Tryz.underlying9 rfl rfl e11) fun a E=>qv E (qa1 rfl rfl) fun a E=>wpQuiet_nil ?_
 intro w ok
 refine qaa<|cg E rfl hF (fun c12 hF=>?_) fun c12 hF=>?_
 ·refine wp_skip<|qaq<|qaa<|qab<|lw E (qaA rfl rfl (InR.inc r6 (InR.len la_0) c7)) fun a E=>mv E rfl fun a E=>wpList_nil ?_
  cases hF
  exact qaw ⟨ok,E.keep [0,1,17,18],(InR.inc r6 (InR.len la_0) c7)⟩
 refine wp_seq<|qgZ (by kernel_rfl) (by kernel_rfl) ok<|qv E (qal rfl) fun a E=>qv E (qal rfl) fun a E=>bd hF fun c13 e14 hF=>qv E (qc1 Tryz.underlying9 rfl rfl e14) fun a E=>qv E (qaH rfl rfl) fun a E=>qv E (qal rfl) fun a E=>bu E 32 hF (fun c15 hF E=>?_) fun c15 hF E=>?_
 ·refine qs E fun a E=>qs E fun a E=>qs E fun a E=>qs E fun a E=>qs E fun a E=>qs E fun a E=>qs E fun a E=>qs E fun a E=>qs E fun a E=>qs E fun a E=>qs E fun a E=>qs E fun a E=>qs E fun a E=>qv E (qcg rfl rfl) fun a E=>qv E (qax rfl) fun a E=>wpQuiet_nil ?_
  intro w ok
  refine qaa<|wp_ret<|qat<|qai ?_
  cases hF
  exact so (sr ⟨rfl,⟨ok,E.d,rz E rfl⟩⟩)
 refine qv E (qal rfl) fun a E=>qv E (qal rfl) fun a E=>bd hF fun c16 e17 hF=>qv E (qc1 Tryz.underlying9 rfl rfl e17) fun a E=>qv E (qa1 rfl rfl) fun a E=>qv E (qal rfl) fun a E=>bw E 37 hF (fun c18 hF E=>?_) fun c18 hF E=>?_
 ·refine qs E fun a E=>qs E fun a E=>qs E fun a E=>qs E fun a E=>qs E fun a E=>qs E fun a E=>qs E fun a E=>qv E (qcw rfl rfl) fun a E=>qv E (qcw rfl rfl) fun a E=>qv E (qax rfl) fun a E=>wpQuiet_nil ?_
  intro w ok
  refine qaa<|wp_ret<|qat<|qai ?_
  cases hF
  exact so (sr ⟨rfl,⟨ok,E.d,rz E rfl⟩⟩)
 refine qv E (qal rfl) fun a E=>qv E (qal rfl) fun a E=>bd hF fun c19 e20 hF=>qv E (qc1 Tryz.underlying9 rfl rfl e20) fun a E=>qv E (qal rfl) fun a E=>qv E (qal rfl) fun a E=>bd hF fun c21 e22 hF=>qv E (qc1 Tryz.underlying9 rfl rfl e22) fun a E=>qv E (qaG rfl rfl) fun a E=>qv E (qcg rfl rfl) fun a E=>qv E (qcw rfl rfl) fun a E=>qv E (qax rfl) fun a E=>wpQuiet_nil ?_
 intro w ok
 refine qaa<|wp_ret<|qat<|qai ?_
 cases hF
 exact so (sr ⟨rfl,⟨ok,E.d,rz E rfl⟩⟩)
def qiw (u:World) (m0:Mem) (S:Segs) (pb0:Nat) (pb1:Nat) (pb2:Nat) (x0:List (List (List (Relation)))) (c1:Value) (x1:List (Int)) (c3:Value) (M4:List (Nat × Obj)) (r:(List UInt8) × Bool) (a:Act) (w:World):Prop :=
 Ok u m0 ([(pb0,oc 64 [c1])] :: [(pb1,oc 104 [c3])] :: M4 :: [(pb2,oc 108 [(Value.func (.func 87) #[] #[])])] :: S) w ∧ a.defers = [] ∧ RVs Tryz.prog a w [.t 4 (.string (bs r.1)),.t 5 (.bool r.2)] ∧ r.1.length ≤ LIMS
theorem qip (N:Nat) (vx_0:Value) (x_0:Option (Classes)) (hx_0:(pP 3 qd1) m0 [vx_0] x_0) {pb0:Nat} {c1:Value} (x0:List (List (List (Relation)))) (h2:(pL 1 (pL 1 (pL 4 qag))) m0 [c1] x0) {pb1:Nat} {c3:Value} {M4:List (Nat × Obj)} (x1:List (Int)) (h5:ORow 3 1 (pI .i64) m0 c3 x1 M4) {pb2:Nat} {r:(List UInt8) × Bool} (hF:qcB N x_0 x0 x1 = some r) (hG:Glob u) (ok:Ok u m0 ([(pb0,oc 64 [c1])] :: [(pb1,oc 104 [c3])] :: M4 :: [(pb2,oc 108 [(Value.func (.func 87) #[] #[])])] :: S) w) :
  Calls Tryz.prog 114 [vx_0,Value.func (.func 115) #[] #[.pointer (some ⟨pb0,0,none⟩),.pointer (some ⟨pb1,0,none⟩),.pointer (some ⟨pb2,0,none⟩)]].toArray w fun e w'=>(e = .returned (.tuple [(.string (bs r.1)),(.bool r.2)].toArray) ∧ Ok u m0 ([(pb0,oc 64 [c1])] :: [(pb1,oc 104 [c3])] :: M4 :: [(pb2,oc 108 [(Value.func (.func 87) #[] #[])])] :: S) w') ∧ r.1.length ≤ LIMS:=by
 unfold qcB at hF
 refine en (qiw u m0 S pb0 pb1 pb2 x0 c1 x1 c3 M4) r Tryz.func114 rfl rfl rfl (by rintro a w ⟨ok,hd,hrv,h0⟩; exact qaZ [.t 4 (.string (bs r.1)),.t 5 (.bool r.2)] hd rfl hrv ⟨⟨rfl,ok⟩,h0⟩) fun fin a E=>sg<|qjh (cs:=[vx_0]) E ok rfl (qms hx_0) rfl rfl fun b6 a w E ok=>av E rfl fun a E=>aw E rfl fun a E=>sg<|av E rfl fun a E=>aw E rfl fun a E=>wp_seq<|sg<|ld E ok qid 0 rfl rfl rfl fun a E=>?_
 obtain ⟨y7,e8,hF⟩:=bnd hF
 obtain ⟨b9,o10,es11,hv12,hl13,hR14,at15⟩:=qie hx_0 e8
 obtain ⟨c16,c18,c20,rfl,h17,h19,h21⟩:=hR14
 refine lv E ok (qfG hv12 rfl) fun a E=>fv E qi9 rfl fun a E=>lv E ok (qas qhC rfl (qac.ro (At.sub 1 1 at15))) fun a E=>lv E ok (qaz qeU h19 rfl) fun a E=>mv E rfl fun a E=>wn<|wp_block<|bd hF fun o24 hL hF=>qaE _ (fun (s:(List UInt8) × Bool × Int) a w=>Ok u m0 ([(b6,oc 127 [vx_0])] :: [(pb0,oc 64 [c1])] :: [(pb1,oc 104 [c3])] :: M4 :: [(pb2,oc 108 [(Value.func (.func 87) #[] #[])])] :: S) w ∧ Env 58 a [(1,(Value.func (.func 115) #[] #[.pointer (some ⟨pb0,0,none⟩),.pointer (some ⟨pb1,0,none⟩),.pointer (some ⟨pb2,0,none⟩)])),(2,vp b6),(6,vs s.1),(7,vb s.2.1),(16,c18),(17,(vi (y7.wholes.length:Int))),(18,vi s.2.2)] ∧ s.1.length ≤ LIMS ∧ InR .i64 s.2.2) (fun (b:((List UInt8) × Bool)) e a w=>e = (.exit 0) ∧ Ok u m0 ([(b6,oc 127 [vx_0])] :: [(pb0,oc 64 [c1])] :: [(pb1,oc 104 [c3])] :: M4 :: [(pb2,oc 108 [(Value.func (.func 87) #[] #[])])] :: S) w ∧ Env 58 a [(6,vs b.1),(7,vb b.2)] ∧ b.1.length ≤ LIMS) ?_ ?_ N _ a w hL ⟨ok,E.keep [1,2,6,7,16,17,18],(show ([]:List UInt8).length ≤ LIMS by decide),(ir 0)⟩
 rotate_left
 ·intro e a w _ hO
  obtain ⟨rfl,ok,E,l103⟩:=hO
  refine qaK<|qaa<|sg<|mz E rfl rfl fun a E=>av E rfl fun a E=>av E rfl fun a E=>wn<|wp_ret ?_
  exact fin hF ⟨ok.drop,E.d,⟨rv_t E rfl,rv_t E rfl,trivial⟩,l103⟩
 rintro ⟨v27,v28,v29⟩ a w r ⟨ok,E,l30,r31⟩ hF
 replace hF:qbI N x_0 x0 x1 y7 v27 v28 v29 = some r:=hF
 unfold qbI at hF
 refine sg<|lw E (qaG rfl rfl) fun a E=>wn<|wp_seq<|cg E rfl hF (fun c32 hF=>?_) fun c32 hF=>?_
 ·refine wp_exit<|qay ?_
  cases hF
  exact so (⟨rfl,⟨ok,E.keep [6,7],l30⟩⟩)
 refine wp_skip<|qaa<|wp_seq<|wp_block<|sg ?_
 obtain ⟨x33,e34,hF⟩:=bnd hF
 obtain ⟨b35,o36,es37,hl38,rr39,at40,yy41⟩:=ia E 16 18 qeU h19 e34
 obtain ⟨rfl,r42,l43⟩:=rr39
 refine lv E ok (yy41 _ _) fun a E=>lv E ok (qaj (cs:=[vu x33.bits,vs x33.text]) qgy rfl rfl (qac.ro at40)) fun a E=>qaD E ok qfi rfl rfl fun b44 a w E ok=>qae E ok 0 rfl rfl rfl qih rfl rfl ⟨rfl,rfl,trivial⟩ rfl rfl fun w ok=>wn<|sg<|ld E ok qid 1 rfl rfl rfl fun a E=>?_
 obtain ⟨y45,e46,hF⟩:=bnd hF
 obtain ⟨b47,o48,es49,hv50,hl51,hR52,at53⟩:=qie hx_0 e46
 obtain ⟨c54,c56,c58,rfl,h55,h57,h59⟩:=hR52
 refine lv E ok (qfG hv50 rfl) fun a E=>fv E qjf rfl fun a E=>lv E ok (qas qhC rfl (qac.ro (At.sub 2 1 at53))) fun a E=>lv E ok (qaz qeU h59 rfl) fun a E=>mv E rfl fun a E=>wn<|wp_block<|bd hF fun o62 hL hF=>qaE _ (fun (s:(List UInt8) × Bool × Int) a w=>Ok u m0 ([(b44,oc 162 [vu x33.bits,vs x33.text])] :: [(b6,oc 127 [vx_0])] :: [(pb0,oc 64 [c1])] :: [(pb1,oc 104 [c3])] :: M4 :: [(pb2,oc 108 [(Value.func (.func 87) #[] #[])])] :: S) w ∧ Env 58 a [(1,(Value.func (.func 115) #[] #[.pointer (some ⟨pb0,0,none⟩),.pointer (some ⟨pb1,0,none⟩),.pointer (some ⟨pb2,0,none⟩)])),(2,vp b6),(6,vs s.1),(7,vb s.2.1),(9,vp b44),(16,c18),(17,(vi (y7.wholes.length:Int))),(18,vi v29),(25,c58),(26,(vi (y45.fraction.length:Int))),(27,vi s.2.2)] ∧ s.1.length ≤ LIMS ∧ InR .i64 s.2.2) (fun (b:((List UInt8) × Bool)) e a w=>e = (.exit 2) ∧ Ok u m0 ([(b44,oc 162 [vu x33.bits,vs x33.text])] :: [(b6,oc 127 [vx_0])] :: [(pb0,oc 64 [c1])] :: [(pb1,oc 104 [c3])] :: M4 :: [(pb2,oc 108 [(Value.func (.func 87) #[] #[])])] :: S) w ∧ Env 58 a [(1,(Value.func (.func 115) #[] #[.pointer (some ⟨pb0,0,none⟩),.pointer (some ⟨pb1,0,none⟩),.pointer (some ⟨pb2,0,none⟩)])),(2,vp b6),(6,vs b.1),(7,vb b.2),(16,c18),(17,(vi (y7.wholes.length:Int))),(18,vi v29)] ∧ b.1.length ≤ LIMS) ?_ ?_ N _ a w hL ⟨ok,E.keep [1,2,6,7,9,16,17,18,25,26,27],l30,(ir 0)⟩
 rotate_left
 ·intro e a w _ hO
  obtain ⟨rfl,ok,E,l101⟩:=hO
  refine qaK<|qaq<|qaa<|qab<|lw E (qaA rfl rfl (InR.inc r31 (qan h19) c32)) fun a E=>mv E rfl fun a E=>wpList_nil ?_
  cases hF
  exact qaw ⟨(ok.pk 6 [1,2,3,4,5] rfl (by decide)),E.keep [1,2,6,7,16,17,18],l101,(InR.inc r31 (qan h19) c32)⟩
 rintro ⟨v65,v66,v67⟩ a w r ⟨ok,E,l68,r69⟩ hF
 replace hF:qbk N x_0 x0 x1 x33 y45 v65 v66 v67 = some r:=hF
 unfold qbk at hF
 refine sg<|lw E (qaG rfl rfl) fun a E=>wn<|wp_seq<|cg E rfl hF (fun c70 hF=>?_) fun c70 hF=>?_
 ·refine wp_exit<|qay ?_
  cases hF
  exact so (⟨rfl,⟨ok,E.keep [1,2,6,7,16,17,18],l68⟩⟩)
 refine wp_skip<|qaa<|wp_seq<|wp_block<|sg ?_
 obtain ⟨x71,e72,hF⟩:=bnd hF
 obtain ⟨b73,o74,es75,hl76,rr77,at78,yy79⟩:=ia E 25 27 qeU h59 e72
 obtain ⟨rfl,r80,l81⟩:=rr77
 refine lv E ok (yy79 _ _) fun a E=>lv E ok (qaj (cs:=[vu x71.bits,vs x71.text]) qgy rfl rfl (qac.ro at78)) fun a E=>qaD E ok qfi rfl rfl fun b82 a w E ok=>qae E ok 0 rfl rfl rfl qih rfl rfl ⟨rfl,rfl,trivial⟩ rfl rfl fun w ok=>wn<|sg<|fk E ok qfh qbY rfl 1 rfl rfl fun a E=>aw E rfl fun a E=>wp_seq<|sg<|fk E ok qfh qbY rfl 0 rfl rfl fun a E=>lw E (qlA rfl rfl) fun a E=>wn<|bd hF fun o83 hJ hF=>qbm (Q':=fun e a w=>e = .normal ∧ Ok u m0 ([(b82,oc 162 [vu x71.bits,vs x71.text])] :: [(b44,oc 162 [vu x33.bits,vs x33.text])] :: [(b6,oc 127 [vx_0])] :: [(pb0,oc 64 [c1])] :: [(pb1,oc 104 [c3])] :: M4 :: [(pb2,oc 108 [(Value.func (.func 87) #[] #[])])] :: S) w ∧ Env 58 a [(1,(Value.func (.func 115) #[] #[.pointer (some ⟨pb0,0,none⟩),.pointer (some ⟨pb1,0,none⟩),.pointer (some ⟨pb2,0,none⟩)])),(2,vp b6),(6,vs v65),(7,vb v66),(9,vp b44),(11,vp b82),(12,vs o83),(16,c18),(17,(vi (y7.wholes.length:Int))),(18,vi v29),(25,c58),(26,(vi (y45.fraction.length:Int))),(27,vi v67)] ∧ o83.length ≤ LIMS) ?_ ?_
 ·have hF:=hJ
  refine cg E rfl hF (fun c85 hF=>?_) fun c85 hF=>?_
  ·refine wp_skip ?_
   cases hF
   exact ⟨rfl,⟨ok,E.keep [1,2,6,7,9,11,12,16,17,18,25,26,27],l43⟩⟩
  refine qab<|mv E rfl fun a E=>fk E ok qfh qbY rfl 0 rfl rfl fun a E=>bd hF fun s86 e87 hF=>lw E (qel rfl rfl e87) fun a E=>bd hF fun s88 e89 hF=>lw E (qel rfl rfl e89) fun a E=>av E rfl fun a E=>wpList_nil ?_
  cases hF
  exact ⟨rfl,⟨ok,E.keep [1,2,6,7,9,11,12,16,17,18,25,26,27],(qdC e89)⟩⟩
 intro e a w hO
 obtain ⟨rfl,ok,E,l90⟩:=hO
 refine qaa<|sg<|mv E rfl fun a E=>lw E (qaU rfl) fun a E=>mv E rfl fun a E=>bu E 43 hF (fun c91 hF E=>?_) fun c91 hF E=>?_
 ·refine lsq E fun a E=>ls E fun a E=>pt E rfl rfl fun a E=>mz E rfl rfl fun a E=>lv E ok (qbn (caps:=[.tmp 2,.tmp 9,.tmp 11]) rfl) fun a E=>?_
  obtain ⟨r92,e93,hF⟩:=bnd hF
  replace ok:Ok u m0 ([(b6,oc 127 [vx_0])] :: [(b44,oc 162 [vu x33.bits,vs x33.text])] :: [(b82,oc 162 [vu x71.bits,vs x71.text])] :: [(pb0,oc 64 [c1])] :: [(pb1,oc 104 [c3])] :: M4 :: [(pb2,oc 108 [(Value.func (.func 87) #[] #[])])] :: S) w:=(ok.pk 7 [2,1,0,3,4,5,6] rfl (by decide))
  refine qbJ E rfl qkb rfl (qhs N x_0 hx_0 x33 r42 l43 x71 r80 l81 x0 h2 x1 h5 e93 hG ok) rfl rfl ?_
  rintro _ w ⟨rfl,ok⟩
  refine ⟨_,rfl,fun a E=>?_⟩
  refine pt E rfl rfl fun a E=>wn<|cg E rfl hF (fun c94 hF=>?_) fun c94 hF=>?_
  ·refine wp_skip<|qaq<|qaa<|qab<|lw E (qaA rfl rfl (InR.inc r69 (qan h59) c70)) fun a E=>mv E rfl fun a E=>wpList_nil ?_
   cases hF
   exact qaw ⟨(ok.pk 7 [1,0,3,4,5,6] rfl (by decide)),E.keep [1,2,6,7,9,16,17,18,25,26,27],l68,(InR.inc r69 (qan h59) c70)⟩
  refine qab<|mv E rfl fun a E=>av E rfl fun a E=>av E rfl fun a E=>wpList_nil<|qaq<|qaa<|qab<|lw E (qaA rfl rfl (InR.inc r69 (qan h59) c70)) fun a E=>mv E rfl fun a E=>wpList_nil ?_
  cases hF
  exact qaw ⟨(ok.pk 7 [1,0,3,4,5,6] rfl (by decide)),E.keep [1,2,6,7,9,16,17,18,25,26,27],l90,(InR.inc r69 (qan h59) c70)⟩
 refine mz E rfl rfl fun a E=>bd hF fun r95 e96 hF=>lc E qo9 rfl (qhZ N o83 l90 v65 l68 e96 hG ok) fun w ok a E=>pf E rfl rfl fun a E=>mv E rfl fun a E=>qdW r95 (fun c97=>?_) (fun c97=>?_)
 rotate_left
 ·have hF:=qdt c97 hF
  have E:=E.upd 48 c97 rfl
  refine lsq E fun a E=>ls E fun a E=>pf E rfl rfl fun a E=>wn<|c_if E rfl (fun h=>by cases h) (fun _=>?_)
  refine wp_skip<|qaq<|qaa<|qab<|lw E (qaA rfl rfl (InR.inc r69 (qan h59) c70)) fun a E=>mv E rfl fun a E=>wpList_nil ?_
  cases hF
  exact qaw ⟨(ok.pk 7 [1,2,3,4,5,6] rfl (by decide)),E.keep [1,2,6,7,9,16,17,18,25,26,27],l68,(InR.inc r69 (qan h59) c70)⟩
 have hF:=qdr c97 hF
 have E:=E.upd 48 c97 rfl
 refine mv E rfl fun a E=>lv E ok (qbn (caps:=[.tmp 2,.tmp 9,.tmp 11]) rfl) fun a E=>?_
 obtain ⟨r98,e99,hF⟩:=bnd hF
 replace ok:Ok u m0 ([(b6,oc 127 [vx_0])] :: [(b44,oc 162 [vu x33.bits,vs x33.text])] :: [(b82,oc 162 [vu x71.bits,vs x71.text])] :: [(pb0,oc 64 [c1])] :: [(pb1,oc 104 [c3])] :: M4 :: [(pb2,oc 108 [(Value.func (.func 87) #[] #[])])] :: S) w:=(ok.pk 7 [2,1,0,3,4,5,6] rfl (by decide))
 refine qbJ E rfl qkb rfl (qhs N x_0 hx_0 x33 r42 l43 x71 r80 l81 x0 h2 x1 h5 e99 hG ok) rfl rfl ?_
 rintro _ w ⟨rfl,ok⟩
 refine ⟨_,rfl,fun a E=>?_⟩
 refine pt E rfl rfl fun a E=>wn<|cg E rfl hF (fun c100 hF=>?_) fun c100 hF=>?_
 ·refine wp_skip<|qaq<|qaa<|qab<|lw E (qaA rfl rfl (InR.inc r69 (qan h59) c70)) fun a E=>mv E rfl fun a E=>wpList_nil ?_
  cases hF
  exact qaw ⟨(ok.pk 7 [1,0,3,4,5,6] rfl (by decide)),E.keep [1,2,6,7,9,16,17,18,25,26,27],l68,(InR.inc r69 (qan h59) c70)⟩
 refine qab<|mv E rfl fun a E=>av E rfl fun a E=>av E rfl fun a E=>wpList_nil<|qaq<|qaa<|qab<|lw E (qaA rfl rfl (InR.inc r69 (qan h59) c70)) fun a E=>mv E rfl fun a E=>wpList_nil ?_
 cases hF
 exact qaw ⟨(ok.pk 7 [1,0,3,4,5,6] rfl (by decide)),E.keep [1,2,6,7,9,16,17,18,25,26,27],l90,(InR.inc r69 (qan h59) c70)⟩
def qkX (u:World) (m0:Mem) (S:Segs) (r:(List UInt8) × Bool) (a:Act) (w:World):Prop :=
 Ok u m0 S w ∧ a.defers = [] ∧ RVs Tryz.prog a w [.t 4 (.string (bs r.1)),.t 5 (.bool r.2)] ∧ r.1.length ≤ LIMS
theorem qk2 (N:Nat) (vl_0:Value) (l_0:List (List (List (Relation)))) (hl_0:(pL 1 (pL 1 (pL 4 qag))) m0 [vl_0] l_0) {r:(List UInt8) × Bool} (hF:qdb N l_0 = some r) (hG:Glob u) (hTb:Tab u) (ok:Ok u m0 S w) :
  Calls Tryz.prog 86 [vl_0,.func (.func 87) #[] #[]].toArray w fun e w'=>(e = .returned (.tuple [(.string (bs r.1)),(.bool r.2)].toArray) ∧ Ok u m0 S w') ∧ r.1.length ≤ LIMS:=by
 have hb0:=ok.base
 have le_m0:=Mem.le.refl m0
 unfold qdb at hF
 refine en (qkX u m0 S) r Tryz.func86 rfl rfl rfl (by rintro a w ⟨ok,hd,hrv,h0⟩; exact qaZ [.t 4 (.string (bs r.1)),.t 5 (.bool r.2)] hd rfl hrv ⟨⟨rfl,ok⟩,h0⟩) fun fin a E=>sg<|qjh (cs:=[vl_0]) E ok rfl (qdY hl_0) rfl rfl fun b1 a w E ok=>qcp E ok rfl rfl rfl fun b2 a w E ok=>av E rfl fun a E=>av E rfl fun a E=>wn<|sg<|aw E rfl fun a E=>sg<|ld E ok qgt 1 rfl rfl rfl fun a E=>lv E ok (qaz qcE hl_0 rfl) fun a E=>bd hF fun l3 e4 hF=>qeb (R:=(pI .i64)) E ok qhy qio rfl (qfU (ir 0)) rfl e4 rfl rfl fun c5 M6 a w E ok h7=>qaD E ok qmn rfl rfl fun b8 a w E ok=>qae E ok 0 rfl rfl rfl qnG (ORow.cells h7) rfl ⟨(ORow.one h7),trivial⟩ rfl rfl fun w ok=>wn<|wp_seq<|sg ?_
 refine ld E ok qgt 3 rfl rfl rfl fun a E=>lv E ok (qaz qcE hl_0 rfl) fun a E=>mv E rfl fun a E=>wn<|wp_block ?_
 obtain ⟨M17,ok,h18⟩:=qfv (e:=52) (k:=4) (R:=qag) ok
 refine bd hF fun o19 hL hF=>qaE _ (fun (s:(List (Relation)) × Int × (List (Int))) a w=>∃ m20 c21 M22 c25 M26,m0.le m20 ∧ Ok u m20 (M22 :: [(b8,oc 104 [c25])] :: M26 :: [(b2,oc 108 [(Value.func (.func 87) #[] #[])])] :: [(b1,oc 64 [vl_0])] :: S) w ∧ Env 36 a [(2,vp b1),(3,vp b2),(6,c21),(7,vp b8),(13,vl_0),(14,(vi (l_0.length:Int))),(15,vi s.2.1)] ∧ ORow 52 4 qag m20 c21 s.1 M22 ∧ InR .i64 s.2.1 ∧ ORow 3 1 (pI .i64) m20 c25 s.2.2 M26) (fun (b:((List (Int)) × (List (Relation)))) e a w=>e = (.exit 0) ∧ ∃ m88 c89 M90 c92 M93,m0.le m88 ∧ Ok u m88 (M93 :: [(b8,oc 104 [c89])] :: M90 :: [(b2,oc 108 [(Value.func (.func 87) #[] #[])])] :: [(b1,oc 64 [vl_0])] :: S) w ∧ Env 36 a [(2,vp b1),(3,vp b2),(6,c92),(7,vp b8)] ∧ ORow 3 1 (pI .i64) m88 c89 b.1 M90 ∧ ORow 52 4 qag m88 c92 b.2 M93) ?_ ?_ N _ a w hL ⟨m0,(Value.slice none 0 0),M17,c5,M6,Mem.le.refl _,ok,E.keep [2,3,6,7,13,14,15],h18,(ir 0),h7⟩
 rotate_left
 ·intro e a w _ hO
  obtain ⟨rfl,m71,c72,M73,c75,M76,hle,ok,E,h74,h77⟩:=hO
  have le_m0:=le_m0.trans hle
  have hl_0:=(mL (mL (mL qad))).up hle hl_0
  refine qaK<|qaa<|sg<|mv E rfl fun a E=>?_
  obtain ⟨m78,hle,ok,hfz⟩:=(ok.frs 0 rfl).freeze
  have h79:=ORow.froz qad h77 hle hfz (by decide)
  have le_m0:=le_m0.trans hle
  have hl_0:=(mL (mL (mL qad))).up hle hl_0
  have h74:=ORow.up (mI .i64) hle h74
  refine bd hF fun r80 e81 hF=>qaf E qo3 rfl (qgC N _ o19.2 h79 e81 hG hTb ok) rfl rfl ?_
  rintro _ w ⟨m82,c83,rfl,hle,ok,h84⟩
  have le_m0:=le_m0.trans hle
  have hl_0:=(mL (mL (mL qad))).up hle hl_0
  have h74:=ORow.up (mI .i64) hle h74
  have h79:=(mL qad).up hle h79
  refine ⟨_,rfl,fun a E=>?_⟩
  refine lv E ok (qbn (caps:=[.tmp 2,.tmp 7,.tmp 3]) rfl) fun a E=>?_
  obtain ⟨r85,e86,hF⟩:=bnd hF
  replace ok:Ok u m82 ([(b1,oc 64 [vl_0])] :: [(b8,oc 104 [c72])] :: M73 :: [(b2,oc 108 [(Value.func (.func 87) #[] #[])])] :: S) w:=(ok.pk 4 [3,0,1,2] rfl (by decide))
  refine qaf E qoT rfl (qip N _ r80 h84 l_0 hl_0 o19.1 h74 e86 hG ok) rfl rfl ?_
  rintro _ w ⟨⟨rfl,ok⟩,l87⟩
  refine ⟨_,rfl,fun a E=>?_⟩
  refine lw E (qak rfl rfl) fun a E=>lw E (qak rfl rfl) fun a E=>av E rfl fun a E=>aw E rfl fun a E=>wp_ret ?_
  exact fin hF ⟨(ok.drop.drop.drop.drop).down hb0 le_m0,E.d,⟨rv_t E rfl,rv_t E rfl,trivial⟩,l87⟩
 rintro ⟨v28,v29,v30⟩ a w r ⟨m31,c32,M33,c36,M37,hle,ok,E,h34,r35,h38⟩ hF
 replace hF:qbA N l_0 v28 v29 v30 = some r:=hF
 unfold qbA at hF
 have le_m0:=le_m0.trans hle
 have hl_0:=(mL (mL (mL qad))).up hle hl_0
 refine sg<|lw E (qaG rfl rfl) fun a E=>wn<|wp_seq<|cg E rfl hF (fun c39 hF=>?_) fun c39 hF=>?_
 ·refine wp_exit<|qay ?_
  cases hF
  exact so (⟨rfl,⟨m31,c36,M37,c32,M33,le_m0,ok,E.keep [2,3,6,7],h38,h34⟩⟩)
 refine wp_skip<|qaa<|wp_seq<|wp_block<|sg<|mv E rfl fun a E=>?_
 obtain ⟨x40,e41,hF⟩:=bnd hF
 obtain ⟨b42,o43,es44,hl45,rr46,at47,yy48⟩:=ia E 13 15 qcE hl_0 e41
 obtain ⟨c49,rfl,h50⟩:=qef rr46
 refine lv E ok (yy48 _ _) fun a E=>lv E ok (qas qe9 rfl (qac.ro at47)) fun a E=>av E rfl fun a E=>aw E rfl fun a E=>sg<|ld E ok qlP 1 rfl rfl rfl fun a E=>mz E rfl rfl fun a E=>lv E ok (qiq qcu h34 rfl) fun a E=>?_
 obtain ⟨x51,e52,hF⟩:=bnd hF
 obtain ⟨b53,o54,hp55,yy56⟩:=qeM qhy h38 e52 (P:=Tryz.prog) (X:=.tmp 20) (I:=.tmp 21) (kd:=.i64) (qbo E rfl) (qbo E rfl)
 refine lv E ok (yy56 _ _) fun a E=>bd hF fun l57 e58 hF=>qgi (R:=(pI .i64)) E ok 2 rfl h38 e52 hp55 rfl rfl qbu rfl rfl rfl ⟨rfl,trivial⟩ (qfU (ORow.InR h34)) e58 rfl fun M59 w ok h60=>wn<|qab<|mz E rfl rfl fun a E=>bd hF fun r61 e62 hF=>qaf E qpc rfl (qgS N _ x40 h50 e62 hG ok) rfl rfl ?_
 rintro _ w ⟨m63,c64,rfl,hle,ok,h65⟩
 have le_m0:=le_m0.trans hle
 have hl_0:=(mL (mL (mL qad))).up hle hl_0
 have h34:=ORow.up qad hle h34
 have h50:=(mL (mL qad)).up hle h50
 have at47:=At.up hle at47
 have h60:=ORow.up (mI .i64) hle h60
 refine ⟨_,rfl,fun a E=>?_⟩
 refine bd hF fun l66 e67 hF=>qgK (R:=qag) E ok 0 qad qcu Tryz.underlying53 rfl h34 (qcK.ofL h65 ok) e67 ⟨_,qdJ,rfl⟩ rfl rfl rfl rfl fun c68 M69 a w E ok h70=>av E rfl fun a E=>wpList_nil<|qaq<|qaa<|qab<|lw E (qaA rfl rfl (InR.inc r35 (qan hl_0) c39)) fun a E=>mv E rfl fun a E=>wpList_nil ?_
 cases hF
 exact qaw ⟨m63,c68,M69,c36,M59,le_m0,ok,E.keep [2,3,6,7,13,14,15],h70,(InR.inc r35 (qan hl_0) c39),h60⟩
def qhr (u:World) (m0:Mem) (S:Segs) (r:Int × Int × (List UInt8) × Int) (a:Act) (w:World):Prop :=
 Ok u m0 S w ∧ a.defers = [] ∧ RVs Tryz.prog a w [.t 2 (.int .i64 r.1),.t 3 (.int .i64 r.2.1),.t 4 (.string (bs r.2.2.1)),.t 5 (.int .i64 r.2.2.2)] ∧ InR .i64 r.1 ∧ InR .i64 r.2.1 ∧ r.2.2.1.length ≤ LIMS ∧ InR .i64 r.2.2.2
theorem ql9 (N:Nat) (vl_0:Value) (l_0:List (Rule)) (hl_0:(pL 2 qdV) m0 [vl_0] l_0) {r:Int × Int × (List UInt8) × Int} (hF:qew N l_0 = some r) (hG:Glob u) (hTb:Tab u) (ok:Ok u m0 S w) :
  Calls Tryz.prog 61 [vl_0].toArray w fun e w'=>(e = .returned (.tuple [(.int .i64 r.1),(.int .i64 r.2.1),(.string (bs r.2.2.1)),(.int .i64 r.2.2.2)].toArray) ∧ Ok u m0 S w') ∧ InR .i64 r.1 ∧ InR .i64 r.2.1 ∧ r.2.2.1.length ≤ LIMS ∧ InR .i64 r.2.2.2:=by
 have le_m0:=Mem.le.refl m0
 unfold qew at hF
 refine en (qhr u m0 S) r Tryz.func61 rfl rfl rfl (by rintro a w ⟨ok,hd,hrv,h0,h1,h2,h3⟩; exact qaZ [.t 2 (.int .i64 r.1),.t 3 (.int .i64 r.2.1),.t 4 (.string (bs r.2.2.1)),.t 5 (.int .i64 r.2.2.2)] hd rfl hrv ⟨⟨rfl,ok⟩,h0,h1,h2,h3⟩) fun fin a E=>sg<|av E rfl fun a E=>av E rfl fun a E=>av E rfl fun a E=>av E rfl fun a E=>wn<|sg<|aw E rfl fun a E=>wp_seq<|sg<|mv E rfl fun a E=>lv E ok (qaz qdQ hl_0 rfl) fun a E=>mv E rfl fun a E=>wn<|wp_block ?_
 obtain ⟨M6,ok,h7⟩:=qfv (e:=42) (k:=1) (R:=(pL 1 (pL 4 qag))) ok
 refine bd hF fun o8 hL hF=>qaE _ (fun (s:(List (List (List (Relation)))) × Int) a w=>∃ c9 M10,Ok u m0 (M10 :: S) w ∧ Env 59 a [(0,vl_0),(6,c9),(13,vl_0),(14,(vi (l_0.length:Int))),(15,vi s.2)] ∧ ORow 42 1 (pL 1 (pL 4 qag)) m0 c9 s.1 M10 ∧ InR .i64 s.2) (fun (b:((List (List (List (Relation)))))) e a w=>e = (.exit 0) ∧ ∃ c136 M137,Ok u m0 (M137 :: S) w ∧ Env 59 a [(0,vl_0),(6,c136)] ∧ ORow 42 1 (pL 1 (pL 4 qag)) m0 c136 b M137) ?_ ?_ N _ a w hL ⟨(Value.slice none 0 0),M6,ok,E.keep [0,6,13,14,15],h7,(ir 0)⟩
 ·rintro ⟨v13,v14⟩ a w r ⟨c15,M16,ok,E,h17,r18⟩ hF
  replace hF:qdG N l_0 v13 v14 = some r:=hF
  unfold qdG at hF
  refine sg<|lw E (qaG rfl rfl) fun a E=>wn<|wp_seq<|cg E rfl hF (fun c19 hF=>?_) fun c19 hF=>?_
  ·refine wp_exit<|qay ?_
   cases hF
   exact so (⟨rfl,⟨c15,M16,ok,E.keep [0,6],h17⟩⟩)
  refine wp_skip<|qaa<|wp_seq<|wp_block<|sg ?_
  obtain ⟨x20,e21,hF⟩:=bnd hF
  obtain ⟨b22,o23,es24,hl25,rr26,at27,yy28⟩:=ia E 13 15 qdQ hl_0 e21
  obtain ⟨c30,rfl,l29,h31⟩:=rr26
  refine lv E ok (yy28 _ _) fun a E=>lv E ok (qaj (cs:=[vs x20.Class,c30]) qjl rfl rfl (qac.ro at27)) fun a E=>qaD E ok qgz rfl rfl fun b32 a w E ok=>qae E ok 0 rfl rfl rfl qlh rfl rfl ⟨rfl,(qhv h31),trivial⟩ rfl rfl fun w ok=>wn<|qab<|mv E rfl fun a E=>fk E ok qi5 qe9 rfl 0 rfl rfl fun a E=>qcT (R:=(pL 1 (pL 4 qag))) (xo:=[.tmp 21]) (xs:=([x20.Cond]:List (List (List (Relation))))) E ok qcE qiZ rfl ⟨⟨_,(qdY h31),rfl,h31⟩,trivial⟩ rfl rfl rfl rfl fun c33 M34 a w E ok h35=>bd hF fun l36 e37 hF=>qgK (R:=(pL 1 (pL 4 qag))) E ok 2 (mL (mL qad)) qcE Tryz.underlying64 rfl h17 (qcK.ofRow h35 0 rfl ok) e37 ⟨_,qiZ,rfl⟩ rfl rfl rfl rfl fun c38 M39 a w E ok h40=>av E rfl fun a E=>wpList_nil<|qaq<|qaa<|qab<|lw E (qaA rfl rfl (InR.inc r18 (qan hl_0) c19)) fun a E=>mv E rfl fun a E=>wpList_nil ?_
  cases hF
  exact qaw ⟨c38,M39,(ok.pk 3 [2] rfl (by decide)),E.keep [0,6,13,14,15],h40,(InR.inc r18 (qan hl_0) c19)⟩
 intro e a w _ hO
 obtain ⟨rfl,c41,M42,ok,E,h43⟩:=hO
 refine qaK<|qaa<|wp_seq<|sg<|mv E rfl fun a E=>?_
 obtain ⟨r49,e50,hF⟩:=bnd hF
 obtain ⟨m44,hle46,ok45,hfz47⟩:=(ok.frs 0 rfl).freeze
 have h48:=ORow.froz (mL (mL qad)) h43 hle46 hfz47 (by decide)
 refine qaf E qsL rfl (qj0 N _ o8 h48 e50 hG ok45) rfl rfl ?_
 rintro _ w ⟨rfl,okz⟩
 replace ok:=(Ok.thawAt 0 rfl ok hle46 hfz47 okz)
 refine ⟨_,rfl,fun a E=>?_⟩
 refine lw E (qaU rfl) fun a E=>wn<|cf E rfl hF (fun c51 hF=>?_) fun c51 hF=>?_
 ·refine sg<|av E rfl fun a E=>av E rfl fun a E=>av E rfl fun a E=>aw E rfl fun a E=>wp_ret<|qai ?_
  exact fin hF ⟨ok.drop,E.d,⟨rv_t E rfl,rv_t E rfl,rv_t E rfl,rv_t E rfl,trivial⟩,(ir 0),(ir 0),(show ([]:List UInt8).length ≤ LIMS by decide),(ir 1)⟩
 refine wp_skip<|qaa<|wp_seq<|sg<|mv E rfl fun a E=>lv E ok (qaz qdQ hl_0 rfl) fun a E=>mv E rfl fun a E=>wn<|wp_block<|bd hF fun o53 hL hF=>qaE _ (fun (s:Int) a w=>Ok u m0 (M42 :: S) w ∧ Env 59 a [(0,vl_0),(6,c41),(29,(vi (l_0.length:Int))),(30,vi s)] ∧ InR .i64 s) (fun (b:(Unit ⊕ (Int × Int × (List UInt8) × Int))) e a w=>(Sum.elim (fun b134=>e = (.exit 2) ∧ Ok u m0 (M42 :: S) w ∧ Env 59 a []) (fun b135=>e = .ret ∧ qhr u m0 S b135 a w)) b) ?_ ?_ N _ a w hL ⟨ok,E.keep [0,6,29,30],(ir 0)⟩
 rotate_left
 ·intro e a w _ hO
  rcases o53 with o53 | o53
  rotate_left
  ·obtain ⟨rfl,hret⟩:=hO
   refine qat<|qai ?_
   exact fin hF hret
  have hF:=qcA hF
  obtain ⟨rfl,ok,E⟩:=hO
  refine qaK<|qaa<|sg<|av E rfl fun a E=>av E rfl fun a E=>av E rfl fun a E=>av E rfl fun a E=>wn<|wp_ret ?_
  exact fin hF ⟨ok.drop,E.d,⟨rv_t E rfl,rv_t E rfl,rv_t E rfl,rv_t E rfl,trivial⟩,(ir 0),(ir 0),(show ([]:List UInt8).length ≤ LIMS by decide),(ir 0)⟩
 rintro v55 a w r ⟨ok,E,r56⟩ hF
 replace hF:qb0 N l_0 o8 v55 = some r:=hF
 unfold qb0 at hF
 refine sg<|lw E (qaG rfl rfl) fun a E=>wn<|wp_seq<|cg E rfl hF (fun c57 hF=>?_) fun c57 hF=>?_
 ·refine wp_exit<|qay ?_
  cases hF
  exact so (sl ⟨rfl,⟨ok,E.keep []⟩⟩)
 refine wp_skip<|qaa<|wp_seq<|wp_block<|sg<|mv E rfl fun a E=>av E rfl fun a E=>wn<|sg<|mv E rfl fun a E=>lw E (qaA rfl rfl (InR.inc r56 (qan hl_0) c57)) fun a E=>av E rfl fun a E=>wn<|wp_block<|bd hF fun o59 hL hF=>qaE _ (fun (s:Int) a w=>Ok u m0 (M42 :: S) w ∧ Env 59 a [(0,vl_0),(6,c41),(9,vi v55),(10,vi s),(29,(vi (l_0.length:Int))),(30,vi v55)] ∧ InR .i64 s) (fun (b:(Unit ⊕ (Int × Int × (List UInt8) × Int))) e a w=>(Sum.elim (fun b132=>e = (.exit 4) ∧ Ok u m0 (M42 :: S) w ∧ Env 59 a [(0,vl_0),(6,c41),(29,(vi (l_0.length:Int))),(30,vi v55)]) (fun b133=>e = .ret ∧ qhr u m0 S b133 a w)) b) ?_ ?_ N _ a w hL ⟨ok,E.keep [0,6,9,10,29,30],(InR.inc r56 (qan hl_0) c57)⟩
 rotate_left
 ·intro e a w _ hO
  rcases o59 with o59 | o59
  rotate_left
  ·have hF:=quB hF
   obtain ⟨rfl,hret⟩:=hO
   refine qat<|qat<|qai ?_
   cases hF
   exact so (sr ⟨rfl,hret⟩)
  have hF:=qcA hF
  obtain ⟨rfl,ok,E⟩:=hO
  refine qaK<|qaq<|qaa<|qab<|lw E (qaA rfl rfl (InR.inc r56 (qan hl_0) c57)) fun a E=>mv E rfl fun a E=>wpList_nil ?_
  cases hF
  exact qaw ⟨ok,E.keep [0,6,29,30],(InR.inc r56 (qan hl_0) c57)⟩
 rintro v61 a w r ⟨ok,E,r62⟩ hF
 replace hF:qcS N l_0 o8 v55 v61 = some r:=hF
 unfold qcS at hF
 refine wp_seq<|sg<|mz E rfl rfl fun a E=>lv E ok (qaz qdQ hl_0 rfl) fun a E=>lw E (qaG rfl rfl) fun a E=>wn<|cg E rfl hF (fun c63 hF=>?_) fun c63 hF=>?_
 ·refine wp_exit<|qay ?_
  cases hF
  exact so (sl ⟨rfl,⟨ok,E.keep [0,6,29,30]⟩⟩)
 refine wp_skip<|qaa<|wp_seq<|wp_block<|wp_seq<|bd hF fun o64 hJ hF=>qbm (Q':=fun e a w=>e = .normal ∧ Ok u m0 (M42 :: S) w ∧ Env 59 a [(0,vl_0),(6,c41),(9,vi v55),(10,vi v61),(11,vs o64.1),(12,vb o64.2),(29,(vi (l_0.length:Int))),(30,vi v55)] ∧ o64.1.length ≤ LIMS) ?_ ?_
 rotate_left
 ·intro e a w hO
  obtain ⟨rfl,ok,E,l130⟩:=hO
  refine qaa<|sg<|mv E rfl fun a E=>wn<|cg E rfl hF (fun c131 hF=>?_) fun c131 hF=>?_
  ·refine wp_skip<|qaq<|qaa<|qab<|mv E rfl fun a E=>lw E (qaA rfl rfl (InR.inc r62 (qan hl_0) c63)) fun a E=>av E rfl fun a E=>wpList_nil ?_
   cases hF
   exact qaw ⟨ok,E.keep [0,6,9,10,29,30],(InR.inc r62 (qan hl_0) c63)⟩
  refine sg<|mz E rfl rfl fun a E=>mv E rfl fun a E=>av E rfl fun a E=>av E rfl fun a E=>av E rfl fun a E=>aw E rfl fun a E=>wp_ret<|qat<|qai ?_
  cases hF
  exact so (sr ⟨rfl,⟨ok.drop,E.d,⟨rv_t E rfl,rv_t E rfl,rv_t E rfl,rv_t E rfl,trivial⟩,r56,r62,l130,(ir 19)⟩⟩)
 have hF:=hJ
 obtain ⟨x66,e67,hF⟩:=bnd hF
 obtain ⟨x78,e79,hF⟩:=bnd hF
 obtain ⟨r98,e99,hF⟩:=bnd hF
 obtain rfl:=sj hF
 refine qcI [] (Cls u m0 (M42 :: [])) (Cls u m0 (M42 :: [])) (by kernel_rfl) ?_
 intro w hw
 replace ok:=qdF ok hw
 clear hw
 refine qar (cl1 (cq le_m0 ok [0] rfl) (cq le_m0 ok [0] rfl)) fun hT=>kt 0 E rfl hT (qal rfl) fun a E=>kt 1 E rfl hT (qal rfl) fun a E=>?_
 obtain ⟨b101,o102,hp103,yy104⟩:=qeM qcE h43 e67 (P:=Tryz.prog) (X:=.tmp 42) (I:=.tmp 43) (kd:=.i64) (qbo E rfl) (qbo E rfl)
 refine kt 2 E rfl hT (yy104 _ _) fun a E=>?_
 obtain ⟨es105,hl106,rr107,hh108⟩:=qhJ h43 e67 hp103 (by decide)
 obtain ⟨c109,rfl,h110⟩:=qef rr107
 refine kt 3 E rfl hT (qas qe9 rfl (qac.crow hh108 0 rfl)) fun a E=>kt 4 E rfl hT (qal rfl) fun a E=>kt 5 E rfl hT (qal rfl) fun a E=>?_
 obtain ⟨b111,o112,hp113,yy114⟩:=qeM qcE h43 e79 (P:=Tryz.prog) (X:=.tmp 46) (I:=.tmp 47) (kd:=.i64) (qbo E rfl) (qbo E rfl)
 refine kt 6 E rfl hT (yy114 _ _) fun a E=>?_
 obtain ⟨es115,hl116,rr117,hh118⟩:=qhJ h43 e79 hp113 (by decide)
 obtain ⟨c119,rfl,h120⟩:=qef rr117
 refine kt 7 E rfl hT (qas qe9 rfl (qac.crow hh118 0 rfl)) fun a E=>qaF [8] (by kernel_rfl) rfl (qaJ ?_)
 ·refine wo rfl<|qcT (R:=(pL 1 (pL 4 qag))) (xo:=[.tmp 45,.tmp 49]) (xs:=([x66,x78]:List (List (List (Relation))))) E ok qcE qiZ rfl ⟨⟨_,(qdY h110),rfl,h110⟩,⟨_,(qdY h120),rfl,h120⟩,trivial⟩ rfl rfl rfl rfl fun c121 M122 a w E ok h123=>wn<|qar (cl1 (cq le_m0 ok [1] rfl) (cq le_m0 ok [1] rfl)) fun hT=>qaF [9] (by kernel_rfl) rfl (qaJ ?_)
  ·refine qcO (o:=_) rfl ?_
   obtain ⟨m124,hle126,ok125,hfz127⟩:=(ok.frs 0 rfl).freeze
   have h128:=ORow.froz (mL (mL qad)) h123 hle126 hfz127 (by decide)
   refine qaf E qqz rfl (qk2 N _ ([x66,x78]:List (List (List (Relation)))) h128 e99 hG hTb ok125) rfl rfl ?_
   rintro _ w ⟨⟨rfl,okz⟩,l129⟩
   replace ok:=(Ok.thawAt 0 rfl ok hle126 hfz127 okz)
   refine ⟨_,rfl,fun a E=>?_⟩
   refine wn<|qar (cl1 (cq le_m0 ok [1] rfl) (cq le_m0 ok [1] rfl)) fun hT=>kt 10 E rfl hT (qal rfl) fun a E=>kt 11 E rfl hT (qak rfl rfl) fun a E=>kt 12 E rfl hT (qak rfl rfl) fun a E=>kt 13 E rfl hT (qax rfl) fun a E=>kt 14 E rfl hT (qax rfl) fun a E=>qbQ (by kernel_rfl) ?_
   exact ⟨rfl,⟨(ok.pk 2 [1] rfl (by decide)),E.keep [0,6,9,10,11,12,29,30],l129⟩⟩
def qns (u:World) (m0:Mem) (S:Segs) (r:Int) (a:Act) (w:World):Prop :=
 Ok u m0 S w ∧ a.defers = [] ∧ RVs Tryz.prog a w [.t 2 (.int .i64 r)] ∧ InR .i64 r
theorem qnQ (N:Nat) (vl_0:Value) (l_0:List (Rule)) (hl_0:(pL 2 qdV) m0 [vl_0] l_0) {r:Int} (hF:qg0 N l_0 = some r) (hG:Glob u) (hTb:Tab u) (ok:Ok u m0 S w) :
  Calls Tryz.prog 36 [vl_0].toArray w fun e w'=>(e = .returned (.int .i64 r) ∧ Ok u m0 S w') ∧ InR .i64 r:=by
 unfold qg0 at hF
 refine en (qns u m0 S) r Tryz.func36 rfl rfl rfl (fun _ _ h=>rb h rfl) fun fin a E=>sg<|aw E rfl fun a E=>sg<|mv E rfl fun a E=>bd hF fun r1 e2 hF=>qaf E qvk rfl (ql9 N _ l_0 hl_0 e2 hG hTb ok) rfl rfl ?_
 rintro _ w ⟨⟨rfl,ok⟩,r3,r4,l5,r6⟩
 refine ⟨_,rfl,fun a E=>?_⟩
 refine mv E rfl fun a E=>lw E (qak rfl rfl) fun a E=>lw E (qak rfl rfl) fun a E=>lw E (qak rfl rfl) fun a E=>lw E (qak rfl rfl) fun a E=>av E rfl fun a E=>av E rfl fun a E=>av E rfl fun a E=>aw E rfl fun a E=>sg<|mv E rfl fun a E=>av E rfl fun a E=>wn<|wp_ret ?_
 exact fin hF ⟨ok,E.d,rz E rfl,r6⟩
def qjg (u:World) (m0:Mem) (S:Segs) (r:Bool) (a:Act) (w:World):Prop :=
 Ok u m0 S w ∧ a.defers = [] ∧ RVs Tryz.prog a w [.t 2 (.bool r)]
theorem qmJ (N:Nat) (vl_0:Value) (l_0:List (Bool)) (hl_0:(pL 1 pB) m0 [vl_0] l_0) {r:Bool} (hF:qdI N l_0 = some r) (hG:Glob u) (ok:Ok u m0 S w) :
  Calls Tryz.prog 88 [vl_0].toArray w fun e w'=>(e = .returned (.bool r) ∧ Ok u m0 S w'):=by
 unfold qdI at hF
 refine en (qjg u m0 S) r Tryz.func88 rfl rfl rfl (fun _ _ h=>ra h rfl) fun fin a E=>sg<|aw E rfl fun a E=>wp_seq<|sg<|mv E rfl fun a E=>lv E ok (qaz qgT hl_0 rfl) fun a E=>mv E rfl fun a E=>wn<|wp_block<|bd hF fun o2 hL hF=>qaE _ (fun (s:Int) a w=>Ok u m0 (S) w ∧ Env 13 a [(5,vl_0),(6,(vi (l_0.length:Int))),(7,vi s)] ∧ InR .i64 s) (fun (b:(Unit ⊕ Bool)) e a w=>(Sum.elim (fun b17=>e = (.exit 0) ∧ Ok u m0 (S) w ∧ Env 13 a []) (fun b18=>e = .ret ∧ qjg u m0 S b18 a w)) b) ?_ ?_ N _ a w hL ⟨ok,E.keep [5,6,7],(ir 0)⟩
 rotate_left
 ·intro e a w _ hO
  rcases o2 with o2 | o2
  rotate_left
  ·obtain ⟨rfl,hret⟩:=hO
   refine qat<|qai ?_
   exact fin hF hret
  have hF:=qcA hF
  obtain ⟨rfl,ok,E⟩:=hO
  refine qaK<|qaa<|sg<|aw E rfl fun a E=>wp_ret ?_
  exact fin hF ⟨ok,E.d,rz E rfl⟩
 rintro v4 a w r ⟨ok,E,r5⟩ hF
 replace hF:qd4 N l_0 v4 = some r:=hF
 unfold qd4 at hF
 refine sg<|lw E (qaG rfl rfl) fun a E=>wn<|wp_seq<|cg E rfl hF (fun c6 hF=>?_) fun c6 hF=>?_
 ·refine wp_exit<|qay ?_
  cases hF
  exact so (sl ⟨rfl,⟨ok,E.keep []⟩⟩)
 refine wp_skip<|qaa<|wp_seq<|wp_block<|sg ?_
 obtain ⟨x7,e8,hF⟩:=bnd hF
 obtain ⟨b9,o10,es11,hl12,rr13,at14,yy15⟩:=ia E 5 7 qgT hl_0 e8
 obtain rfl:=rr13
 refine lv E ok (yy15 _ _) fun a E=>lv E ok (qas qfY rfl (qac.ro at14)) fun a E=>aw E rfl fun a E=>sg<|mv E rfl fun a E=>wn<|cg E rfl hF (fun c16 hF=>?_) fun c16 hF=>?_
 ·refine wp_skip<|qaq<|qaa<|qab<|lw E (qaA rfl rfl (InR.inc r5 (qan hl_0) c6)) fun a E=>mv E rfl fun a E=>wpList_nil ?_
  cases hF
  exact qaw ⟨ok,E.keep [5,6,7],(InR.inc r5 (qan hl_0) c6)⟩
 refine sg<|aw E rfl fun a E=>wp_ret<|qat<|qai ?_
 cases hF
 exact so (sr ⟨rfl,⟨ok,E.d,rz E rfl⟩⟩)
end Go.Proofs.YtboacfcnmhnbdaaGreatDoor
namespace Go.Proofs.YtboacfcnmhnbdaaGreatDoor
open Go.X
variable {u:World} {m0:Mem} {S:Segs} {w:World}
set_option maxHeartbeats 4000000
set_option maxRecDepth 100000
def qiP (u:World) (m0:Mem) (S:Segs) (pb0:Nat) (pb1:Nat) (pb2:Nat) (pb3:Nat) (pb4:Nat) (pb5:Nat) (x0:Option (Classes)) (c1:Value) (x1:Part) (x2:Part) (x3:List (List (List (Relation)))) (c7:Value) (x4:List (Int)) (c9:Value) (M10:List (Nat × Obj)) (r:Bool) (a:Act) (w:World):Prop :=
 Ok u m0 ([(pb0,oc 127 [c1])] :: [(pb1,oc 162 [vu x1.bits,vs x1.text])] :: [(pb2,oc 162 [vu x2.bits,vs x2.text])] :: [(pb3,oc 64 [c7])] :: [(pb4,oc 104 [c9])] :: M10 :: [(pb5,oc 108 [(Value.func (.func 88) #[] #[])])] :: S) w ∧ a.defers = [] ∧ RVs Tryz.prog a w [.t 5 (.bool r)]
theorem qgJ (N:Nat) {pb0:Nat} {c1:Value} (x0:Option (Classes)) (h2:(pP 3 qd1) m0 [c1] x0) {pb1:Nat} (x1:Part) (r3:InR .u64 x1.bits) (l4:x1.text.length ≤ LIMS) {pb2:Nat} (x2:Part) (r5:InR .u64 x2.bits) (l6:x2.text.length ≤ LIMS) {pb3:Nat} {c7:Value} (x3:List (List (List (Relation)))) (h8:(pL 1 (pL 1 (pL 4 qag))) m0 [c7] x3) {pb4:Nat} {c9:Value} {M10:List (Nat × Obj)} (x4:List (Int)) (h11:ORow 3 1 (pI .i64) m0 c9 x4 M10) {pb5:Nat} {r:Bool} (hF:qcl N x0 x1 x2 x3 x4 = some r) (hG:Glob u) (ok:Ok u m0 ([(pb0,oc 127 [c1])] :: [(pb1,oc 162 [vu x1.bits,vs x1.text])] :: [(pb2,oc 162 [vu x2.bits,vs x2.text])] :: [(pb3,oc 64 [c7])] :: [(pb4,oc 104 [c9])] :: M10 :: [(pb5,oc 108 [(Value.func (.func 88) #[] #[])])] :: S) w) :
  Calls Tryz.prog 115 [Value.func (.func 148) #[] #[.pointer (some ⟨pb0,0,none⟩),.pointer (some ⟨pb1,0,none⟩),.pointer (some ⟨pb2,0,none⟩)],vp pb3,vp pb4,vp pb5].toArray w fun e w'=>(e = .returned (.bool r) ∧ Ok u m0 ([(pb0,oc 127 [c1])] :: [(pb1,oc 162 [vu x1.bits,vs x1.text])] :: [(pb2,oc 162 [vu x2.bits,vs x2.text])] :: [(pb3,oc 64 [c7])] :: [(pb4,oc 104 [c9])] :: M10 :: [(pb5,oc 108 [(Value.func (.func 88) #[] #[])])] :: S) w'):=by
 have le_m0:=Mem.le.refl m0
 unfold qcl at hF
 refine en (qiP u m0 S pb0 pb1 pb2 pb3 pb4 pb5 x0 c1 x1 x2 x3 c7 x4 c9 M10) r Tryz.func115 rfl rfl rfl (fun _ _ h=>ra h rfl) fun fin a E=>sg<|qcp E ok rfl rfl rfl fun b12 a w E ok=>aw E rfl fun a E=>sg<|ld E ok qgt 4 rfl rfl rfl fun a E=>lv E ok (qaz qcE h8 rfl) fun a E=>bd hF fun l13 e14 hF=>qeb (R:=pB) E ok qgT qpi rfl qjG rfl e14 rfl rfl fun c15 M16 a w E ok h17=>aw E rfl fun a E=>wp_seq<|sg<|ld E ok qgt 5 rfl rfl rfl fun a E=>lv E ok (qaz qcE h8 rfl) fun a E=>mv E rfl fun a E=>wn<|wp_block<|bd hF fun o23 hL hF=>qaE _ (fun (s:Int × (List (Bool))) a w=>∃ c25 M26,Ok u m0 (M26 :: [(b12,oc 130 [(Value.func (.func 148) #[] #[.pointer (some ⟨pb0,0,none⟩),.pointer (some ⟨pb1,0,none⟩),.pointer (some ⟨pb2,0,none⟩)])])] :: [(pb0,oc 127 [c1])] :: [(pb1,oc 162 [vu x1.bits,vs x1.text])] :: [(pb2,oc 162 [vu x2.bits,vs x2.text])] :: [(pb3,oc 64 [c7])] :: [(pb4,oc 104 [c9])] :: M10 :: [(pb5,oc 108 [(Value.func (.func 88) #[] #[])])] :: S) w ∧ Env 29 a [(2,vp pb4),(3,vp pb5),(4,vp b12),(6,c25),(12,c7),(13,(vi (x3.length:Int))),(14,vi s.1)] ∧ InR .i64 s.1 ∧ ORow 4 1 pB m0 c25 s.2 M26) (fun (b:((List (Bool)))) e a w=>e = (.exit 0) ∧ ∃ c82 M83,Ok u m0 (M83 :: [(b12,oc 130 [(Value.func (.func 148) #[] #[.pointer (some ⟨pb0,0,none⟩),.pointer (some ⟨pb1,0,none⟩),.pointer (some ⟨pb2,0,none⟩)])])] :: [(pb0,oc 127 [c1])] :: [(pb1,oc 162 [vu x1.bits,vs x1.text])] :: [(pb2,oc 162 [vu x2.bits,vs x2.text])] :: [(pb3,oc 64 [c7])] :: [(pb4,oc 104 [c9])] :: M10 :: [(pb5,oc 108 [(Value.func (.func 88) #[] #[])])] :: S) w ∧ Env 29 a [(3,vp pb5),(6,c82)] ∧ ORow 4 1 pB m0 c82 b M83) ?_ ?_ N _ a w hL ⟨c15,M16,ok,E.keep [2,3,4,6,12,13,14],(ir 0),h17⟩
 rotate_left
 ·intro e a w _ hO
  obtain ⟨rfl,c72,M73,ok,E,h74⟩:=hO
  refine qaK<|qaa<|sg<|ld E ok qnA 8 rfl rfl rfl fun a E=>mv E rfl fun a E=>?_
  obtain ⟨r80,e81,hF⟩:=bnd hF
  obtain ⟨m75,hle77,ok76,hfz78⟩:=(ok.frs 0 rfl).freeze
  have h79:=ORow.froz mB h74 hle77 hfz78 (by decide)
  refine qi2 E rfl qu4 rfl (qmJ N _ o23 h79 e81 hG ok76) rfl rfl ?_
  rintro _ w ⟨rfl,okz⟩
  replace ok:=(Ok.thawAt 0 rfl ok hle77 hfz78 okz)
  refine ⟨_,rfl,fun a E=>?_⟩
  refine aw E rfl fun a E=>wp_ret ?_
  exact fin hF ⟨ok.drop.drop,E.d,rz E rfl⟩
 rintro ⟨v28,v29⟩ a w r ⟨c31,M32,ok,E,r30,h33⟩ hF
 replace hF:qbc N x0 x1 x2 x3 x4 v28 v29 = some r:=hF
 unfold qbc at hF
 refine sg<|lw E (qaG rfl rfl) fun a E=>wn<|wp_seq<|cg E rfl hF (fun c34 hF=>?_) fun c34 hF=>?_
 ·refine wp_exit<|qay ?_
  cases hF
  exact so (⟨rfl,⟨c31,M32,ok,E.keep [3,6],h33⟩⟩)
 refine wp_skip<|qaa<|wp_seq<|wp_block<|sg<|mv E rfl fun a E=>?_
 obtain ⟨x35,e36,hF⟩:=bnd hF
 obtain ⟨b37,o38,es39,hl40,rr41,at42,yy43⟩:=ia E 12 14 qcE h8 e36
 obtain ⟨c44,rfl,h45⟩:=qef rr41
 refine lv E ok (yy43 _ _) fun a E=>lv E ok (qas qe9 rfl (qac.ro at42)) fun a E=>qaD E ok qio rfl rfl fun b46 a w E ok=>qae E ok 0 rfl rfl rfl qbu rfl rfl ⟨rfl,trivial⟩ rfl rfl fun w ok=>aw E rfl fun a E=>bd hF fun o47 hJ hF=>qbm (Q':=fun e a w=>e = .normal ∧ ∃ c48 M49,Ok u m0 ([(b46,oc 3 [vi v28])] :: M49 :: [(b12,oc 130 [(Value.func (.func 148) #[] #[.pointer (some ⟨pb0,0,none⟩),.pointer (some ⟨pb1,0,none⟩),.pointer (some ⟨pb2,0,none⟩)])])] :: [(pb0,oc 127 [c1])] :: [(pb1,oc 162 [vu x1.bits,vs x1.text])] :: [(pb2,oc 162 [vu x2.bits,vs x2.text])] :: [(pb3,oc 64 [c7])] :: [(pb4,oc 104 [c9])] :: M10 :: [(pb5,oc 108 [(Value.func (.func 88) #[] #[])])] :: S) w ∧ Env 29 a [(2,vp pb4),(3,vp pb5),(4,vp b12),(6,c48),(12,c7),(13,(vi (x3.length:Int))),(14,vi v28)] ∧ ORow 4 1 pB m0 c48 o47 M49) ?_ ?_
 rotate_left
 ·intro e a w hO
  obtain ⟨rfl,c69,M70,ok,E,h71⟩:=hO
  refine qaq<|qaa<|qab<|lw E (qaA rfl rfl (InR.inc r30 (qan h8) c34)) fun a E=>mv E rfl fun a E=>wpList_nil ?_
  cases hF
  exact qaw ⟨c69,M70,(ok.pk 10 [1,2,3,4,5,6,7,8,9] rfl (by decide)),E.keep [2,3,4,6,12,13,14],(InR.inc r30 (qan h8) c34),h71⟩
 have hF:=hJ
 obtain ⟨r51,e52,hF⟩:=bnd hF
 obtain ⟨x53,e54,hF⟩:=bnd hF
 obtain ⟨l59,e60,hF⟩:=bnd hF
 obtain rfl:=sj hF
 refine qcI [] (Cls u m0 ([(b46,oc 3 [vi v28])] :: [(b12,oc 130 [(Value.func (.func 148) #[] #[.pointer (some ⟨pb0,0,none⟩),.pointer (some ⟨pb1,0,none⟩),.pointer (some ⟨pb2,0,none⟩)])])] :: [(pb0,oc 127 [c1])] :: [(pb1,oc 162 [vu x1.bits,vs x1.text])] :: [(pb2,oc 162 [vu x2.bits,vs x2.text])] :: [(pb3,oc 64 [c7])] :: [(pb4,oc 104 [c9])] :: M10 :: [(pb5,oc 108 [(Value.func (.func 88) #[] #[])])] :: [])) (Cls u m0 ([(b46,oc 3 [vi v28])] :: [(b12,oc 130 [(Value.func (.func 148) #[] #[.pointer (some ⟨pb0,0,none⟩),.pointer (some ⟨pb1,0,none⟩),.pointer (some ⟨pb2,0,none⟩)])])] :: [(pb0,oc 127 [c1])] :: [(pb1,oc 162 [vu x1.bits,vs x1.text])] :: [(pb2,oc 162 [vu x2.bits,vs x2.text])] :: [(pb3,oc 64 [c7])] :: [(pb4,oc 104 [c9])] :: M10 :: [(pb5,oc 108 [(Value.func (.func 88) #[] #[])])] :: [])) (by kernel_rfl) ?_
 intro w hw
 replace ok:=qdF ok hw
 clear hw
 refine qar (cl1 (cq le_m0 ok [0,2,3,4,5,6,7,8,9] rfl) (cq le_m0 ok [0,2,3,4,5,6,7,8,9] rfl)) fun hT=>kt 0 E rfl hT (qal rfl) fun a E=>kt 1 E rfl hT (qas qav rfl (qac.cown 0 rfl rfl)) fun a E=>kt 2 E rfl hT (qal rfl) fun a E=>kt 3 E rfl hT (qbn (caps:=[.tmp 4,.tmp 2,.tmp 7]) rfl) fun a E=>qaF [4] (by kernel_rfl) rfl (qaJ ?_)
 ·refine qcO (o:=_) rfl ?_
  replace ok:Ok u m0 ([(b12,oc 130 [(Value.func (.func 148) #[] #[.pointer (some ⟨pb0,0,none⟩),.pointer (some ⟨pb1,0,none⟩),.pointer (some ⟨pb2,0,none⟩)])])] :: [(pb4,oc 104 [c9])] :: M10 :: [(b46,oc 3 [vi v28])] :: [(pb0,oc 127 [c1])] :: [(pb1,oc 162 [vu x1.bits,vs x1.text])] :: [(pb2,oc 162 [vu x2.bits,vs x2.text])] :: M32 :: [(pb3,oc 64 [c7])] :: [(pb5,oc 108 [(Value.func (.func 88) #[] #[])])] :: S) w:=(ok.pk 10 [2,7,8,0,3,4,5,1,6,9] rfl (by decide))
  refine lc E qpl rfl (qgE N _ x35 h45 x4 h11 v28 r30 x0 h2 x1 r3 l4 x2 r5 l6 e52 hG ok) fun w ok a E=>wn<|qar (cl1 (cq le_m0 ok [3,0,4,5,6,8,1,2,9] rfl) (cq le_m0 ok [3,0,4,5,6,8,1,2,9] rfl)) fun hT=>?_
  obtain ⟨b63,o64,hp65,yy66⟩:=qeM qgT h33 e54 (P:=Tryz.prog) (X:=.tmp 19) (I:=.tmp 20) (kd:=.i64) (qbo E rfl) (qbo E rfl)
  refine kt 5 E rfl hT (yy66 _ _) fun a E=>qaF [6] (by kernel_rfl) rfl (qaJ ?_)
  ·refine wo rfl<|qgi (R:=pB) E ok 7 rfl h33 e54 hp65 rfl rfl qmM rfl rfl rfl ⟨rfl,trivial⟩ qjG e60 rfl fun M67 w ok h68=>wn<|qar (cl1 (cq le_m0 ok [3,0,4,5,6,8,1,2,9] rfl) (cq le_m0 ok [3,0,4,5,6,8,1,2,9] rfl)) fun hT=>qbQ (by kernel_rfl) ?_
   exact ⟨rfl,⟨c31,M67,(ok.pk 10 [3,7,0,4,5,6,8,1,2,9] rfl (by decide)),E.keep [2,3,4,6,12,13,14],h68⟩⟩
def qh2 (u:World) (m0:Mem) (S:Segs) (pb0:Nat) (pb1:Nat) (pb2:Nat) (x0:List (List (List (Relation)))) (c1:Value) (x1:List (Int)) (c3:Value) (M4:List (Nat × Obj)) (r:(List UInt8) × Bool) (a:Act) (w:World):Prop :=
 Ok u m0 ([(pb0,oc 64 [c1])] :: [(pb1,oc 104 [c3])] :: M4 :: [(pb2,oc 108 [(Value.func (.func 88) #[] #[])])] :: S) w ∧ a.defers = [] ∧ RVs Tryz.prog a w [.t 4 (.string (bs r.1)),.t 5 (.bool r.2)] ∧ r.1.length ≤ LIMS
theorem qhP (N:Nat) (vx_0:Value) (x_0:Option (Classes)) (hx_0:(pP 3 qd1) m0 [vx_0] x_0) {pb0:Nat} {c1:Value} (x0:List (List (List (Relation)))) (h2:(pL 1 (pL 1 (pL 4 qag))) m0 [c1] x0) {pb1:Nat} {c3:Value} {M4:List (Nat × Obj)} (x1:List (Int)) (h5:ORow 3 1 (pI .i64) m0 c3 x1 M4) {pb2:Nat} {r:(List UInt8) × Bool} (hF:qb9 N x_0 x0 x1 = some r) (hG:Glob u) (ok:Ok u m0 ([(pb0,oc 64 [c1])] :: [(pb1,oc 104 [c3])] :: M4 :: [(pb2,oc 108 [(Value.func (.func 88) #[] #[])])] :: S) w) :
  Calls Tryz.prog 114 [vx_0,Value.func (.func 115) #[] #[.pointer (some ⟨pb0,0,none⟩),.pointer (some ⟨pb1,0,none⟩),.pointer (some ⟨pb2,0,none⟩)]].toArray w fun e w'=>(e = .returned (.tuple [(.string (bs r.1)),(.bool r.2)].toArray) ∧ Ok u m0 ([(pb0,oc 64 [c1])] :: [(pb1,oc 104 [c3])] :: M4 :: [(pb2,oc 108 [(Value.func (.func 88) #[] #[])])] :: S) w') ∧ r.1.length ≤ LIMS:=by
 unfold qb9 at hF
 refine en (qh2 u m0 S pb0 pb1 pb2 x0 c1 x1 c3 M4) r Tryz.func114 rfl rfl rfl (by rintro a w ⟨ok,hd,hrv,h0⟩; exact qaZ [.t 4 (.string (bs r.1)),.t 5 (.bool r.2)] hd rfl hrv ⟨⟨rfl,ok⟩,h0⟩) fun fin a E=>sg<|qjh (cs:=[vx_0]) E ok rfl (qms hx_0) rfl rfl fun b6 a w E ok=>av E rfl fun a E=>aw E rfl fun a E=>sg<|av E rfl fun a E=>aw E rfl fun a E=>wp_seq<|sg<|ld E ok qid 0 rfl rfl rfl fun a E=>?_
 obtain ⟨y7,e8,hF⟩:=bnd hF
 obtain ⟨b9,o10,es11,hv12,hl13,hR14,at15⟩:=qie hx_0 e8
 obtain ⟨c16,c18,c20,rfl,h17,h19,h21⟩:=hR14
 refine lv E ok (qfG hv12 rfl) fun a E=>fv E qi9 rfl fun a E=>lv E ok (qas qhC rfl (qac.ro (At.sub 1 1 at15))) fun a E=>lv E ok (qaz qeU h19 rfl) fun a E=>mv E rfl fun a E=>wn<|wp_block<|bd hF fun o24 hL hF=>qaE _ (fun (s:(List UInt8) × Bool × Int) a w=>Ok u m0 ([(b6,oc 127 [vx_0])] :: [(pb0,oc 64 [c1])] :: [(pb1,oc 104 [c3])] :: M4 :: [(pb2,oc 108 [(Value.func (.func 88) #[] #[])])] :: S) w ∧ Env 58 a [(1,(Value.func (.func 115) #[] #[.pointer (some ⟨pb0,0,none⟩),.pointer (some ⟨pb1,0,none⟩),.pointer (some ⟨pb2,0,none⟩)])),(2,vp b6),(6,vs s.1),(7,vb s.2.1),(16,c18),(17,(vi (y7.wholes.length:Int))),(18,vi s.2.2)] ∧ s.1.length ≤ LIMS ∧ InR .i64 s.2.2) (fun (b:((List UInt8) × Bool)) e a w=>e = (.exit 0) ∧ Ok u m0 ([(b6,oc 127 [vx_0])] :: [(pb0,oc 64 [c1])] :: [(pb1,oc 104 [c3])] :: M4 :: [(pb2,oc 108 [(Value.func (.func 88) #[] #[])])] :: S) w ∧ Env 58 a [(6,vs b.1),(7,vb b.2)] ∧ b.1.length ≤ LIMS) ?_ ?_ N _ a w hL ⟨ok,E.keep [1,2,6,7,16,17,18],(show ([]:List UInt8).length ≤ LIMS by decide),(ir 0)⟩
 rotate_left
 ·intro e a w _ hO
  obtain ⟨rfl,ok,E,l103⟩:=hO
  refine qaK<|qaa<|sg<|mz E rfl rfl fun a E=>av E rfl fun a E=>av E rfl fun a E=>wn<|wp_ret ?_
  exact fin hF ⟨ok.drop,E.d,⟨rv_t E rfl,rv_t E rfl,trivial⟩,l103⟩
 rintro ⟨v27,v28,v29⟩ a w r ⟨ok,E,l30,r31⟩ hF
 replace hF:qbq N x_0 x0 x1 y7 v27 v28 v29 = some r:=hF
 unfold qbq at hF
 refine sg<|lw E (qaG rfl rfl) fun a E=>wn<|wp_seq<|cg E rfl hF (fun c32 hF=>?_) fun c32 hF=>?_
 ·refine wp_exit<|qay ?_
  cases hF
  exact so (⟨rfl,⟨ok,E.keep [6,7],l30⟩⟩)
 refine wp_skip<|qaa<|wp_seq<|wp_block<|sg ?_
 obtain ⟨x33,e34,hF⟩:=bnd hF
 obtain ⟨b35,o36,es37,hl38,rr39,at40,yy41⟩:=ia E 16 18 qeU h19 e34
 obtain ⟨rfl,r42,l43⟩:=rr39
 refine lv E ok (yy41 _ _) fun a E=>lv E ok (qaj (cs:=[vu x33.bits,vs x33.text]) qgy rfl rfl (qac.ro at40)) fun a E=>qaD E ok qfi rfl rfl fun b44 a w E ok=>qae E ok 0 rfl rfl rfl qih rfl rfl ⟨rfl,rfl,trivial⟩ rfl rfl fun w ok=>wn<|sg<|ld E ok qid 1 rfl rfl rfl fun a E=>?_
 obtain ⟨y45,e46,hF⟩:=bnd hF
 obtain ⟨b47,o48,es49,hv50,hl51,hR52,at53⟩:=qie hx_0 e46
 obtain ⟨c54,c56,c58,rfl,h55,h57,h59⟩:=hR52
 refine lv E ok (qfG hv50 rfl) fun a E=>fv E qjf rfl fun a E=>lv E ok (qas qhC rfl (qac.ro (At.sub 2 1 at53))) fun a E=>lv E ok (qaz qeU h59 rfl) fun a E=>mv E rfl fun a E=>wn<|wp_block<|bd hF fun o62 hL hF=>qaE _ (fun (s:(List UInt8) × Bool × Int) a w=>Ok u m0 ([(b44,oc 162 [vu x33.bits,vs x33.text])] :: [(b6,oc 127 [vx_0])] :: [(pb0,oc 64 [c1])] :: [(pb1,oc 104 [c3])] :: M4 :: [(pb2,oc 108 [(Value.func (.func 88) #[] #[])])] :: S) w ∧ Env 58 a [(1,(Value.func (.func 115) #[] #[.pointer (some ⟨pb0,0,none⟩),.pointer (some ⟨pb1,0,none⟩),.pointer (some ⟨pb2,0,none⟩)])),(2,vp b6),(6,vs s.1),(7,vb s.2.1),(9,vp b44),(16,c18),(17,(vi (y7.wholes.length:Int))),(18,vi v29),(25,c58),(26,(vi (y45.fraction.length:Int))),(27,vi s.2.2)] ∧ s.1.length ≤ LIMS ∧ InR .i64 s.2.2) (fun (b:((List UInt8) × Bool)) e a w=>e = (.exit 2) ∧ Ok u m0 ([(b44,oc 162 [vu x33.bits,vs x33.text])] :: [(b6,oc 127 [vx_0])] :: [(pb0,oc 64 [c1])] :: [(pb1,oc 104 [c3])] :: M4 :: [(pb2,oc 108 [(Value.func (.func 88) #[] #[])])] :: S) w ∧ Env 58 a [(1,(Value.func (.func 115) #[] #[.pointer (some ⟨pb0,0,none⟩),.pointer (some ⟨pb1,0,none⟩),.pointer (some ⟨pb2,0,none⟩)])),(2,vp b6),(6,vs b.1),(7,vb b.2),(16,c18),(17,(vi (y7.wholes.length:Int))),(18,vi v29)] ∧ b.1.length ≤ LIMS) ?_ ?_ N _ a w hL ⟨ok,E.keep [1,2,6,7,9,16,17,18,25,26,27],l30,(ir 0)⟩
 rotate_left
 ·intro e a w _ hO
  obtain ⟨rfl,ok,E,l101⟩:=hO
  refine qaK<|qaq<|qaa<|qab<|lw E (qaA rfl rfl (InR.inc r31 (qan h19) c32)) fun a E=>mv E rfl fun a E=>wpList_nil ?_
  cases hF
  exact qaw ⟨(ok.pk 6 [1,2,3,4,5] rfl (by decide)),E.keep [1,2,6,7,16,17,18],l101,(InR.inc r31 (qan h19) c32)⟩
 rintro ⟨v65,v66,v67⟩ a w r ⟨ok,E,l68,r69⟩ hF
 replace hF:qa4 N x_0 x0 x1 x33 y45 v65 v66 v67 = some r:=hF
 unfold qa4 at hF
 refine sg<|lw E (qaG rfl rfl) fun a E=>wn<|wp_seq<|cg E rfl hF (fun c70 hF=>?_) fun c70 hF=>?_
 ·refine wp_exit<|qay ?_
  cases hF
  exact so (⟨rfl,⟨ok,E.keep [1,2,6,7,16,17,18],l68⟩⟩)
 refine wp_skip<|qaa<|wp_seq<|wp_block<|sg ?_
 obtain ⟨x71,e72,hF⟩:=bnd hF
 obtain ⟨b73,o74,es75,hl76,rr77,at78,yy79⟩:=ia E 25 27 qeU h59 e72
 obtain ⟨rfl,r80,l81⟩:=rr77
 refine lv E ok (yy79 _ _) fun a E=>lv E ok (qaj (cs:=[vu x71.bits,vs x71.text]) qgy rfl rfl (qac.ro at78)) fun a E=>qaD E ok qfi rfl rfl fun b82 a w E ok=>qae E ok 0 rfl rfl rfl qih rfl rfl ⟨rfl,rfl,trivial⟩ rfl rfl fun w ok=>wn<|sg<|fk E ok qfh qbY rfl 1 rfl rfl fun a E=>aw E rfl fun a E=>wp_seq<|sg<|fk E ok qfh qbY rfl 0 rfl rfl fun a E=>lw E (qlA rfl rfl) fun a E=>wn<|bd hF fun o83 hJ hF=>qbm (Q':=fun e a w=>e = .normal ∧ Ok u m0 ([(b82,oc 162 [vu x71.bits,vs x71.text])] :: [(b44,oc 162 [vu x33.bits,vs x33.text])] :: [(b6,oc 127 [vx_0])] :: [(pb0,oc 64 [c1])] :: [(pb1,oc 104 [c3])] :: M4 :: [(pb2,oc 108 [(Value.func (.func 88) #[] #[])])] :: S) w ∧ Env 58 a [(1,(Value.func (.func 115) #[] #[.pointer (some ⟨pb0,0,none⟩),.pointer (some ⟨pb1,0,none⟩),.pointer (some ⟨pb2,0,none⟩)])),(2,vp b6),(6,vs v65),(7,vb v66),(9,vp b44),(11,vp b82),(12,vs o83),(16,c18),(17,(vi (y7.wholes.length:Int))),(18,vi v29),(25,c58),(26,(vi (y45.fraction.length:Int))),(27,vi v67)] ∧ o83.length ≤ LIMS) ?_ ?_
 ·have hF:=hJ
  refine cg E rfl hF (fun c85 hF=>?_) fun c85 hF=>?_
  ·refine wp_skip ?_
   cases hF
   exact ⟨rfl,⟨ok,E.keep [1,2,6,7,9,11,12,16,17,18,25,26,27],l43⟩⟩
  refine qab<|mv E rfl fun a E=>fk E ok qfh qbY rfl 0 rfl rfl fun a E=>bd hF fun s86 e87 hF=>lw E (qel rfl rfl e87) fun a E=>bd hF fun s88 e89 hF=>lw E (qel rfl rfl e89) fun a E=>av E rfl fun a E=>wpList_nil ?_
  cases hF
  exact ⟨rfl,⟨ok,E.keep [1,2,6,7,9,11,12,16,17,18,25,26,27],(qdC e89)⟩⟩
 intro e a w hO
 obtain ⟨rfl,ok,E,l90⟩:=hO
 refine qaa<|sg<|mv E rfl fun a E=>lw E (qaU rfl) fun a E=>mv E rfl fun a E=>bu E 43 hF (fun c91 hF E=>?_) fun c91 hF E=>?_
 ·refine lsq E fun a E=>ls E fun a E=>pt E rfl rfl fun a E=>mz E rfl rfl fun a E=>lv E ok (qbn (caps:=[.tmp 2,.tmp 9,.tmp 11]) rfl) fun a E=>?_
  obtain ⟨r92,e93,hF⟩:=bnd hF
  replace ok:Ok u m0 ([(b6,oc 127 [vx_0])] :: [(b44,oc 162 [vu x33.bits,vs x33.text])] :: [(b82,oc 162 [vu x71.bits,vs x71.text])] :: [(pb0,oc 64 [c1])] :: [(pb1,oc 104 [c3])] :: M4 :: [(pb2,oc 108 [(Value.func (.func 88) #[] #[])])] :: S) w:=(ok.pk 7 [2,1,0,3,4,5,6] rfl (by decide))
  refine qbJ E rfl qkb rfl (qgJ N x_0 hx_0 x33 r42 l43 x71 r80 l81 x0 h2 x1 h5 e93 hG ok) rfl rfl ?_
  rintro _ w ⟨rfl,ok⟩
  refine ⟨_,rfl,fun a E=>?_⟩
  refine pt E rfl rfl fun a E=>wn<|cg E rfl hF (fun c94 hF=>?_) fun c94 hF=>?_
  ·refine wp_skip<|qaq<|qaa<|qab<|lw E (qaA rfl rfl (InR.inc r69 (qan h59) c70)) fun a E=>mv E rfl fun a E=>wpList_nil ?_
   cases hF
   exact qaw ⟨(ok.pk 7 [1,0,3,4,5,6] rfl (by decide)),E.keep [1,2,6,7,9,16,17,18,25,26,27],l68,(InR.inc r69 (qan h59) c70)⟩
  refine qab<|mv E rfl fun a E=>av E rfl fun a E=>av E rfl fun a E=>wpList_nil<|qaq<|qaa<|qab<|lw E (qaA rfl rfl (InR.inc r69 (qan h59) c70)) fun a E=>mv E rfl fun a E=>wpList_nil ?_
  cases hF
  exact qaw ⟨(ok.pk 7 [1,0,3,4,5,6] rfl (by decide)),E.keep [1,2,6,7,9,16,17,18,25,26,27],l90,(InR.inc r69 (qan h59) c70)⟩
 refine mz E rfl rfl fun a E=>bd hF fun r95 e96 hF=>lc E qo9 rfl (qhZ N o83 l90 v65 l68 e96 hG ok) fun w ok a E=>pf E rfl rfl fun a E=>mv E rfl fun a E=>qdW r95 (fun c97=>?_) (fun c97=>?_)
 rotate_left
 ·have hF:=qdt c97 hF
  have E:=E.upd 48 c97 rfl
  refine lsq E fun a E=>ls E fun a E=>pf E rfl rfl fun a E=>wn<|c_if E rfl (fun h=>by cases h) (fun _=>?_)
  refine wp_skip<|qaq<|qaa<|qab<|lw E (qaA rfl rfl (InR.inc r69 (qan h59) c70)) fun a E=>mv E rfl fun a E=>wpList_nil ?_
  cases hF
  exact qaw ⟨(ok.pk 7 [1,2,3,4,5,6] rfl (by decide)),E.keep [1,2,6,7,9,16,17,18,25,26,27],l68,(InR.inc r69 (qan h59) c70)⟩
 have hF:=qdr c97 hF
 have E:=E.upd 48 c97 rfl
 refine mv E rfl fun a E=>lv E ok (qbn (caps:=[.tmp 2,.tmp 9,.tmp 11]) rfl) fun a E=>?_
 obtain ⟨r98,e99,hF⟩:=bnd hF
 replace ok:Ok u m0 ([(b6,oc 127 [vx_0])] :: [(b44,oc 162 [vu x33.bits,vs x33.text])] :: [(b82,oc 162 [vu x71.bits,vs x71.text])] :: [(pb0,oc 64 [c1])] :: [(pb1,oc 104 [c3])] :: M4 :: [(pb2,oc 108 [(Value.func (.func 88) #[] #[])])] :: S) w:=(ok.pk 7 [2,1,0,3,4,5,6] rfl (by decide))
 refine qbJ E rfl qkb rfl (qgJ N x_0 hx_0 x33 r42 l43 x71 r80 l81 x0 h2 x1 h5 e99 hG ok) rfl rfl ?_
 rintro _ w ⟨rfl,ok⟩
 refine ⟨_,rfl,fun a E=>?_⟩
 refine pt E rfl rfl fun a E=>wn<|cg E rfl hF (fun c100 hF=>?_) fun c100 hF=>?_
 ·refine wp_skip<|qaq<|qaa<|qab<|lw E (qaA rfl rfl (InR.inc r69 (qan h59) c70)) fun a E=>mv E rfl fun a E=>wpList_nil ?_
  cases hF
  exact qaw ⟨(ok.pk 7 [1,0,3,4,5,6] rfl (by decide)),E.keep [1,2,6,7,9,16,17,18,25,26,27],l68,(InR.inc r69 (qan h59) c70)⟩
 refine qab<|mv E rfl fun a E=>av E rfl fun a E=>av E rfl fun a E=>wpList_nil<|qaq<|qaa<|qab<|lw E (qaA rfl rfl (InR.inc r69 (qan h59) c70)) fun a E=>mv E rfl fun a E=>wpList_nil ?_
 cases hF
 exact qaw ⟨(ok.pk 7 [1,0,3,4,5,6] rfl (by decide)),E.keep [1,2,6,7,9,16,17,18,25,26,27],l90,(InR.inc r69 (qan h59) c70)⟩
def qkV (u:World) (m0:Mem) (S:Segs) (r:(List UInt8) × Bool) (a:Act) (w:World):Prop :=
 Ok u m0 S w ∧ a.defers = [] ∧ RVs Tryz.prog a w [.t 4 (.string (bs r.1)),.t 5 (.bool r.2)] ∧ r.1.length ≤ LIMS
theorem qk6 (N:Nat) (vl_0:Value) (l_0:List (List (List (Relation)))) (hl_0:(pL 1 (pL 1 (pL 4 qag))) m0 [vl_0] l_0) {r:(List UInt8) × Bool} (hF:qeN N l_0 = some r) (hG:Glob u) (hTb:Tab u) (ok:Ok u m0 S w) :
  Calls Tryz.prog 86 [vl_0,.func (.func 88) #[] #[]].toArray w fun e w'=>(e = .returned (.tuple [(.string (bs r.1)),(.bool r.2)].toArray) ∧ Ok u m0 S w') ∧ r.1.length ≤ LIMS:=by
 have hb0:=ok.base
 have le_m0:=Mem.le.refl m0
 unfold qeN at hF
 refine en (qkV u m0 S) r Tryz.func86 rfl rfl rfl (by rintro a w ⟨ok,hd,hrv,h0⟩; exact qaZ [.t 4 (.string (bs r.1)),.t 5 (.bool r.2)] hd rfl hrv ⟨⟨rfl,ok⟩,h0⟩) fun fin a E=>sg<|qjh (cs:=[vl_0]) E ok rfl (qdY hl_0) rfl rfl fun b1 a w E ok=>qcp E ok rfl rfl rfl fun b2 a w E ok=>av E rfl fun a E=>av E rfl fun a E=>wn<|sg<|aw E rfl fun a E=>sg<|ld E ok qgt 1 rfl rfl rfl fun a E=>lv E ok (qaz qcE hl_0 rfl) fun a E=>bd hF fun l3 e4 hF=>qeb (R:=(pI .i64)) E ok qhy qio rfl (qfU (ir 0)) rfl e4 rfl rfl fun c5 M6 a w E ok h7=>qaD E ok qmn rfl rfl fun b8 a w E ok=>qae E ok 0 rfl rfl rfl qnG (ORow.cells h7) rfl ⟨(ORow.one h7),trivial⟩ rfl rfl fun w ok=>wn<|wp_seq<|sg ?_
 refine ld E ok qgt 3 rfl rfl rfl fun a E=>lv E ok (qaz qcE hl_0 rfl) fun a E=>mv E rfl fun a E=>wn<|wp_block ?_
 obtain ⟨M17,ok,h18⟩:=qfv (e:=52) (k:=4) (R:=qag) ok
 refine bd hF fun o19 hL hF=>qaE _ (fun (s:(List (Relation)) × Int × (List (Int))) a w=>∃ m20 c21 M22 c25 M26,m0.le m20 ∧ Ok u m20 (M22 :: [(b8,oc 104 [c25])] :: M26 :: [(b2,oc 108 [(Value.func (.func 88) #[] #[])])] :: [(b1,oc 64 [vl_0])] :: S) w ∧ Env 36 a [(2,vp b1),(3,vp b2),(6,c21),(7,vp b8),(13,vl_0),(14,(vi (l_0.length:Int))),(15,vi s.2.1)] ∧ ORow 52 4 qag m20 c21 s.1 M22 ∧ InR .i64 s.2.1 ∧ ORow 3 1 (pI .i64) m20 c25 s.2.2 M26) (fun (b:((List (Int)) × (List (Relation)))) e a w=>e = (.exit 0) ∧ ∃ m88 c89 M90 c92 M93,m0.le m88 ∧ Ok u m88 (M93 :: [(b8,oc 104 [c89])] :: M90 :: [(b2,oc 108 [(Value.func (.func 88) #[] #[])])] :: [(b1,oc 64 [vl_0])] :: S) w ∧ Env 36 a [(2,vp b1),(3,vp b2),(6,c92),(7,vp b8)] ∧ ORow 3 1 (pI .i64) m88 c89 b.1 M90 ∧ ORow 52 4 qag m88 c92 b.2 M93) ?_ ?_ N _ a w hL ⟨m0,(Value.slice none 0 0),M17,c5,M6,Mem.le.refl _,ok,E.keep [2,3,6,7,13,14,15],h18,(ir 0),h7⟩
 rotate_left
 ·intro e a w _ hO
  obtain ⟨rfl,m71,c72,M73,c75,M76,hle,ok,E,h74,h77⟩:=hO
  have le_m0:=le_m0.trans hle
  have hl_0:=(mL (mL (mL qad))).up hle hl_0
  refine qaK<|qaa<|sg<|mv E rfl fun a E=>?_
  obtain ⟨m78,hle,ok,hfz⟩:=(ok.frs 0 rfl).freeze
  have h79:=ORow.froz qad h77 hle hfz (by decide)
  have le_m0:=le_m0.trans hle
  have hl_0:=(mL (mL (mL qad))).up hle hl_0
  have h74:=ORow.up (mI .i64) hle h74
  refine bd hF fun r80 e81 hF=>qaf E qo3 rfl (qgC N _ o19.2 h79 e81 hG hTb ok) rfl rfl ?_
  rintro _ w ⟨m82,c83,rfl,hle,ok,h84⟩
  have le_m0:=le_m0.trans hle
  have hl_0:=(mL (mL (mL qad))).up hle hl_0
  have h74:=ORow.up (mI .i64) hle h74
  have h79:=(mL qad).up hle h79
  refine ⟨_,rfl,fun a E=>?_⟩
  refine lv E ok (qbn (caps:=[.tmp 2,.tmp 7,.tmp 3]) rfl) fun a E=>?_
  obtain ⟨r85,e86,hF⟩:=bnd hF
  replace ok:Ok u m82 ([(b1,oc 64 [vl_0])] :: [(b8,oc 104 [c72])] :: M73 :: [(b2,oc 108 [(Value.func (.func 88) #[] #[])])] :: S) w:=(ok.pk 4 [3,0,1,2] rfl (by decide))
  refine qaf E qoT rfl (qhP N _ r80 h84 l_0 hl_0 o19.1 h74 e86 hG ok) rfl rfl ?_
  rintro _ w ⟨⟨rfl,ok⟩,l87⟩
  refine ⟨_,rfl,fun a E=>?_⟩
  refine lw E (qak rfl rfl) fun a E=>lw E (qak rfl rfl) fun a E=>av E rfl fun a E=>aw E rfl fun a E=>wp_ret ?_
  exact fin hF ⟨(ok.drop.drop.drop.drop).down hb0 le_m0,E.d,⟨rv_t E rfl,rv_t E rfl,trivial⟩,l87⟩
 rintro ⟨v28,v29,v30⟩ a w r ⟨m31,c32,M33,c36,M37,hle,ok,E,h34,r35,h38⟩ hF
 replace hF:qbF N l_0 v28 v29 v30 = some r:=hF
 unfold qbF at hF
 have le_m0:=le_m0.trans hle
 have hl_0:=(mL (mL (mL qad))).up hle hl_0
 refine sg<|lw E (qaG rfl rfl) fun a E=>wn<|wp_seq<|cg E rfl hF (fun c39 hF=>?_) fun c39 hF=>?_
 ·refine wp_exit<|qay ?_
  cases hF
  exact so (⟨rfl,⟨m31,c36,M37,c32,M33,le_m0,ok,E.keep [2,3,6,7],h38,h34⟩⟩)
 refine wp_skip<|qaa<|wp_seq<|wp_block<|sg<|mv E rfl fun a E=>?_
 obtain ⟨x40,e41,hF⟩:=bnd hF
 obtain ⟨b42,o43,es44,hl45,rr46,at47,yy48⟩:=ia E 13 15 qcE hl_0 e41
 obtain ⟨c49,rfl,h50⟩:=qef rr46
 refine lv E ok (yy48 _ _) fun a E=>lv E ok (qas qe9 rfl (qac.ro at47)) fun a E=>av E rfl fun a E=>aw E rfl fun a E=>sg<|ld E ok qlP 1 rfl rfl rfl fun a E=>mz E rfl rfl fun a E=>lv E ok (qiq qcu h34 rfl) fun a E=>?_
 obtain ⟨x51,e52,hF⟩:=bnd hF
 obtain ⟨b53,o54,hp55,yy56⟩:=qeM qhy h38 e52 (P:=Tryz.prog) (X:=.tmp 20) (I:=.tmp 21) (kd:=.i64) (qbo E rfl) (qbo E rfl)
 refine lv E ok (yy56 _ _) fun a E=>bd hF fun l57 e58 hF=>qgi (R:=(pI .i64)) E ok 2 rfl h38 e52 hp55 rfl rfl qbu rfl rfl rfl ⟨rfl,trivial⟩ (qfU (ORow.InR h34)) e58 rfl fun M59 w ok h60=>wn<|qab<|mz E rfl rfl fun a E=>bd hF fun r61 e62 hF=>qaf E qpc rfl (qgS N _ x40 h50 e62 hG ok) rfl rfl ?_
 rintro _ w ⟨m63,c64,rfl,hle,ok,h65⟩
 have le_m0:=le_m0.trans hle
 have hl_0:=(mL (mL (mL qad))).up hle hl_0
 have h34:=ORow.up qad hle h34
 have h50:=(mL (mL qad)).up hle h50
 have at47:=At.up hle at47
 have h60:=ORow.up (mI .i64) hle h60
 refine ⟨_,rfl,fun a E=>?_⟩
 refine bd hF fun l66 e67 hF=>qgK (R:=qag) E ok 0 qad qcu Tryz.underlying53 rfl h34 (qcK.ofL h65 ok) e67 ⟨_,qdJ,rfl⟩ rfl rfl rfl rfl fun c68 M69 a w E ok h70=>av E rfl fun a E=>wpList_nil<|qaq<|qaa<|qab<|lw E (qaA rfl rfl (InR.inc r35 (qan hl_0) c39)) fun a E=>mv E rfl fun a E=>wpList_nil ?_
 cases hF
 exact qaw ⟨m63,c68,M69,c36,M59,le_m0,ok,E.keep [2,3,6,7,13,14,15],h70,(InR.inc r35 (qan hl_0) c39),h60⟩
def qnU (u:World) (m0:Mem) (S:Segs) (r:(List UInt8) × Bool × Int) (a:Act) (w:World):Prop :=
 Ok u m0 S w ∧ a.defers = [] ∧ RVs Tryz.prog a w [.t 2 (.string (bs r.1)),.t 3 (.bool r.2.1),.t 4 (.int .i64 r.2.2)] ∧ r.1.length ≤ LIMS ∧ InR .i64 r.2.2
theorem qnt (N:Nat) (vl_0:Value) (l_0:List (List (List (Relation)))) (hl_0:(pL 1 (pL 1 (pL 4 qag))) m0 [vl_0] l_0) {r:(List UInt8) × Bool × Int} (hF:qeo N l_0 = some r) (hG:Glob u) (hTb:Tab u) (ok:Ok u m0 S w) :
  Calls Tryz.prog 62 [vl_0].toArray w fun e w'=>(e = .returned (.tuple [(.string (bs r.1)),(.bool r.2.1),(.int .i64 r.2.2)].toArray) ∧ Ok u m0 S w') ∧ r.1.length ≤ LIMS ∧ InR .i64 r.2.2:=by
 unfold qeo at hF
 refine en (qnU u m0 S) r Tryz.func62 rfl rfl rfl (by rintro a w ⟨ok,hd,hrv,h0,h1⟩; exact qaZ [.t 2 (.string (bs r.1)),.t 3 (.bool r.2.1),.t 4 (.int .i64 r.2.2)] hd rfl hrv ⟨⟨rfl,ok⟩,h0,h1⟩) fun fin a E=>sg<|av E rfl fun a E=>av E rfl fun a E=>aw E rfl fun a E=>wp_seq<|sg<|mv E rfl fun a E=>bd hF fun r1 e2 hF=>lc E qsL rfl (qj0 N _ l_0 hl_0 e2 hG ok) fun w ok a E=>lw E (qaU rfl) fun a E=>wn<|cf E rfl hF (fun c3 hF=>?_) fun c3 hF=>?_
 ·refine sg<|av E rfl fun a E=>av E rfl fun a E=>aw E rfl fun a E=>wp_ret<|qai ?_
  exact fin hF ⟨ok,E.d,⟨rv_t E rfl,rv_t E rfl,rv_t E rfl,trivial⟩,(show ([]:List UInt8).length ≤ LIMS by decide),(ir 1)⟩
 refine wp_skip<|qaa<|sg<|mv E rfl fun a E=>bd hF fun r4 e5 hF=>qaf E qqz rfl (qk6 N _ l_0 hl_0 e5 hG hTb ok) rfl rfl ?_
 rintro _ w ⟨⟨rfl,ok⟩,l6⟩
 refine ⟨_,rfl,fun a E=>?_⟩
 refine mv E rfl fun a E=>lw E (qak rfl rfl) fun a E=>lw E (qak rfl rfl) fun a E=>av E rfl fun a E=>aw E rfl fun a E=>sg<|mz E rfl rfl fun a E=>lw E (qaU rfl) fun a E=>av E rfl fun a E=>av E rfl fun a E=>av E rfl fun a E=>wn<|wp_ret ?_
 exact fin hF ⟨ok,E.d,⟨rv_t E rfl,rv_t E rfl,rv_t E rfl,trivial⟩,l6,(ir 0)⟩
def qjU (u:World) (m0:Mem) (S:Segs) (r:Bool) (a:Act) (w:World):Prop :=
 Ok u m0 S w ∧ a.defers = [] ∧ RVs Tryz.prog a w [.t 2 (.bool r)]
theorem qjQ (N:Nat) (vl_0:Value) (l_0:List (Bool)) (hl_0:(pL 1 pB) m0 [vl_0] l_0) {r:Bool} (hF:qcm N l_0 = some r) (hG:Glob u) (ok:Ok u m0 S w) :
  Calls Tryz.prog 89 [vl_0].toArray w fun e w'=>(e = .returned (.bool r) ∧ Ok u m0 S w'):=by
 unfold qcm at hF
 refine en (qjU u m0 S) r Tryz.func89 rfl rfl rfl (fun _ _ h=>ra h rfl) fun fin a E=>sg<|aw E rfl fun a E=>sg<|mv E rfl fun a E=>?_
 obtain ⟨x1,e2,hF⟩:=bnd hF
 obtain ⟨b3,o4,es5,hl6,rr7,at8,yy9⟩:=qoD qgT hl_0 e2 (P:=Tryz.prog) (X:=.tmp 3) (I:=.const (vi 0)) (kd:=.i64) (qbo E rfl) (qbo E rfl)
 obtain rfl:=rr7
 refine lv E ok (yy9 _ _) fun a E=>lv E ok (qas qfY rfl (qac.ro at8)) fun a E=>aw E rfl fun a E=>wp_ret ?_
 exact fin hF ⟨ok,E.d,rz E rfl⟩
def qiM (u:World) (m0:Mem) (S:Segs) (pb0:Nat) (pb1:Nat) (pb2:Nat) (pb3:Nat) (pb4:Nat) (pb5:Nat) (x0:Option (Classes)) (c1:Value) (x1:Part) (x2:Part) (x3:List (List (List (Relation)))) (c7:Value) (x4:List (Int)) (c9:Value) (M10:List (Nat × Obj)) (r:Bool) (a:Act) (w:World):Prop :=
 Ok u m0 ([(pb0,oc 127 [c1])] :: [(pb1,oc 162 [vu x1.bits,vs x1.text])] :: [(pb2,oc 162 [vu x2.bits,vs x2.text])] :: [(pb3,oc 64 [c7])] :: [(pb4,oc 104 [c9])] :: M10 :: [(pb5,oc 108 [(Value.func (.func 89) #[] #[])])] :: S) w ∧ a.defers = [] ∧ RVs Tryz.prog a w [.t 5 (.bool r)]
theorem qgL (N:Nat) {pb0:Nat} {c1:Value} (x0:Option (Classes)) (h2:(pP 3 qd1) m0 [c1] x0) {pb1:Nat} (x1:Part) (r3:InR .u64 x1.bits) (l4:x1.text.length ≤ LIMS) {pb2:Nat} (x2:Part) (r5:InR .u64 x2.bits) (l6:x2.text.length ≤ LIMS) {pb3:Nat} {c7:Value} (x3:List (List (List (Relation)))) (h8:(pL 1 (pL 1 (pL 4 qag))) m0 [c7] x3) {pb4:Nat} {c9:Value} {M10:List (Nat × Obj)} (x4:List (Int)) (h11:ORow 3 1 (pI .i64) m0 c9 x4 M10) {pb5:Nat} {r:Bool} (hF:qci N x0 x1 x2 x3 x4 = some r) (hG:Glob u) (ok:Ok u m0 ([(pb0,oc 127 [c1])] :: [(pb1,oc 162 [vu x1.bits,vs x1.text])] :: [(pb2,oc 162 [vu x2.bits,vs x2.text])] :: [(pb3,oc 64 [c7])] :: [(pb4,oc 104 [c9])] :: M10 :: [(pb5,oc 108 [(Value.func (.func 89) #[] #[])])] :: S) w) :
  Calls Tryz.prog 115 [Value.func (.func 148) #[] #[.pointer (some ⟨pb0,0,none⟩),.pointer (some ⟨pb1,0,none⟩),.pointer (some ⟨pb2,0,none⟩)],vp pb3,vp pb4,vp pb5].toArray w fun e w'=>(e = .returned (.bool r) ∧ Ok u m0 ([(pb0,oc 127 [c1])] :: [(pb1,oc 162 [vu x1.bits,vs x1.text])] :: [(pb2,oc 162 [vu x2.bits,vs x2.text])] :: [(pb3,oc 64 [c7])] :: [(pb4,oc 104 [c9])] :: M10 :: [(pb5,oc 108 [(Value.func (.func 89) #[] #[])])] :: S) w'):=by
 have le_m0:=Mem.le.refl m0
 unfold qci at hF
 refine en (qiM u m0 S pb0 pb1 pb2 pb3 pb4 pb5 x0 c1 x1 x2 x3 c7 x4 c9 M10) r Tryz.func115 rfl rfl rfl (fun _ _ h=>ra h rfl) fun fin a E=>sg<|qcp E ok rfl rfl rfl fun b12 a w E ok=>aw E rfl fun a E=>sg<|ld E ok qgt 4 rfl rfl rfl fun a E=>lv E ok (qaz qcE h8 rfl) fun a E=>bd hF fun l13 e14 hF=>qeb (R:=pB) E ok qgT qpi rfl qjG rfl e14 rfl rfl fun c15 M16 a w E ok h17=>aw E rfl fun a E=>wp_seq<|sg<|ld E ok qgt 5 rfl rfl rfl fun a E=>lv E ok (qaz qcE h8 rfl) fun a E=>mv E rfl fun a E=>wn<|wp_block<|bd hF fun o23 hL hF=>qaE _ (fun (s:Int × (List (Bool))) a w=>∃ c25 M26,Ok u m0 (M26 :: [(b12,oc 130 [(Value.func (.func 148) #[] #[.pointer (some ⟨pb0,0,none⟩),.pointer (some ⟨pb1,0,none⟩),.pointer (some ⟨pb2,0,none⟩)])])] :: [(pb0,oc 127 [c1])] :: [(pb1,oc 162 [vu x1.bits,vs x1.text])] :: [(pb2,oc 162 [vu x2.bits,vs x2.text])] :: [(pb3,oc 64 [c7])] :: [(pb4,oc 104 [c9])] :: M10 :: [(pb5,oc 108 [(Value.func (.func 89) #[] #[])])] :: S) w ∧ Env 29 a [(2,vp pb4),(3,vp pb5),(4,vp b12),(6,c25),(12,c7),(13,(vi (x3.length:Int))),(14,vi s.1)] ∧ InR .i64 s.1 ∧ ORow 4 1 pB m0 c25 s.2 M26) (fun (b:((List (Bool)))) e a w=>e = (.exit 0) ∧ ∃ c82 M83,Ok u m0 (M83 :: [(b12,oc 130 [(Value.func (.func 148) #[] #[.pointer (some ⟨pb0,0,none⟩),.pointer (some ⟨pb1,0,none⟩),.pointer (some ⟨pb2,0,none⟩)])])] :: [(pb0,oc 127 [c1])] :: [(pb1,oc 162 [vu x1.bits,vs x1.text])] :: [(pb2,oc 162 [vu x2.bits,vs x2.text])] :: [(pb3,oc 64 [c7])] :: [(pb4,oc 104 [c9])] :: M10 :: [(pb5,oc 108 [(Value.func (.func 89) #[] #[])])] :: S) w ∧ Env 29 a [(3,vp pb5),(6,c82)] ∧ ORow 4 1 pB m0 c82 b M83) ?_ ?_ N _ a w hL ⟨c15,M16,ok,E.keep [2,3,4,6,12,13,14],(ir 0),h17⟩
 rotate_left
 ·intro e a w _ hO
  obtain ⟨rfl,c72,M73,ok,E,h74⟩:=hO
  refine qaK<|qaa<|sg<|ld E ok qnA 8 rfl rfl rfl fun a E=>mv E rfl fun a E=>?_
  obtain ⟨r80,e81,hF⟩:=bnd hF
  obtain ⟨m75,hle77,ok76,hfz78⟩:=(ok.frs 0 rfl).freeze
  have h79:=ORow.froz mB h74 hle77 hfz78 (by decide)
  refine qi2 E rfl qu7 rfl (qjQ N _ o23 h79 e81 hG ok76) rfl rfl ?_
  rintro _ w ⟨rfl,okz⟩
  replace ok:=(Ok.thawAt 0 rfl ok hle77 hfz78 okz)
  refine ⟨_,rfl,fun a E=>?_⟩
  refine aw E rfl fun a E=>wp_ret ?_
  exact fin hF ⟨ok.drop.drop,E.d,rz E rfl⟩
 rintro ⟨v28,v29⟩ a w r ⟨c31,M32,ok,E,r30,h33⟩ hF
 replace hF:qbb N x0 x1 x2 x3 x4 v28 v29 = some r:=hF
 unfold qbb at hF
 refine sg<|lw E (qaG rfl rfl) fun a E=>wn<|wp_seq<|cg E rfl hF (fun c34 hF=>?_) fun c34 hF=>?_
 ·refine wp_exit<|qay ?_
  cases hF
  exact so (⟨rfl,⟨c31,M32,ok,E.keep [3,6],h33⟩⟩)
 refine wp_skip<|qaa<|wp_seq<|wp_block<|sg<|mv E rfl fun a E=>?_
 obtain ⟨x35,e36,hF⟩:=bnd hF
 obtain ⟨b37,o38,es39,hl40,rr41,at42,yy43⟩:=ia E 12 14 qcE h8 e36
 obtain ⟨c44,rfl,h45⟩:=qef rr41
 refine lv E ok (yy43 _ _) fun a E=>lv E ok (qas qe9 rfl (qac.ro at42)) fun a E=>qaD E ok qio rfl rfl fun b46 a w E ok=>qae E ok 0 rfl rfl rfl qbu rfl rfl ⟨rfl,trivial⟩ rfl rfl fun w ok=>aw E rfl fun a E=>bd hF fun o47 hJ hF=>qbm (Q':=fun e a w=>e = .normal ∧ ∃ c48 M49,Ok u m0 ([(b46,oc 3 [vi v28])] :: M49 :: [(b12,oc 130 [(Value.func (.func 148) #[] #[.pointer (some ⟨pb0,0,none⟩),.pointer (some ⟨pb1,0,none⟩),.pointer (some ⟨pb2,0,none⟩)])])] :: [(pb0,oc 127 [c1])] :: [(pb1,oc 162 [vu x1.bits,vs x1.text])] :: [(pb2,oc 162 [vu x2.bits,vs x2.text])] :: [(pb3,oc 64 [c7])] :: [(pb4,oc 104 [c9])] :: M10 :: [(pb5,oc 108 [(Value.func (.func 89) #[] #[])])] :: S) w ∧ Env 29 a [(2,vp pb4),(3,vp pb5),(4,vp b12),(6,c48),(12,c7),(13,(vi (x3.length:Int))),(14,vi v28)] ∧ ORow 4 1 pB m0 c48 o47 M49) ?_ ?_
 rotate_left
 ·intro e a w hO
  obtain ⟨rfl,c69,M70,ok,E,h71⟩:=hO
  refine qaq<|qaa<|qab<|lw E (qaA rfl rfl (InR.inc r30 (qan h8) c34)) fun a E=>mv E rfl fun a E=>wpList_nil ?_
  cases hF
  exact qaw ⟨c69,M70,(ok.pk 10 [1,2,3,4,5,6,7,8,9] rfl (by decide)),E.keep [2,3,4,6,12,13,14],(InR.inc r30 (qan h8) c34),h71⟩
 have hF:=hJ
 obtain ⟨r51,e52,hF⟩:=bnd hF
 obtain ⟨x53,e54,hF⟩:=bnd hF
 obtain ⟨l59,e60,hF⟩:=bnd hF
 obtain rfl:=sj hF
 refine qcI [] (Cls u m0 ([(b46,oc 3 [vi v28])] :: [(b12,oc 130 [(Value.func (.func 148) #[] #[.pointer (some ⟨pb0,0,none⟩),.pointer (some ⟨pb1,0,none⟩),.pointer (some ⟨pb2,0,none⟩)])])] :: [(pb0,oc 127 [c1])] :: [(pb1,oc 162 [vu x1.bits,vs x1.text])] :: [(pb2,oc 162 [vu x2.bits,vs x2.text])] :: [(pb3,oc 64 [c7])] :: [(pb4,oc 104 [c9])] :: M10 :: [(pb5,oc 108 [(Value.func (.func 89) #[] #[])])] :: [])) (Cls u m0 ([(b46,oc 3 [vi v28])] :: [(b12,oc 130 [(Value.func (.func 148) #[] #[.pointer (some ⟨pb0,0,none⟩),.pointer (some ⟨pb1,0,none⟩),.pointer (some ⟨pb2,0,none⟩)])])] :: [(pb0,oc 127 [c1])] :: [(pb1,oc 162 [vu x1.bits,vs x1.text])] :: [(pb2,oc 162 [vu x2.bits,vs x2.text])] :: [(pb3,oc 64 [c7])] :: [(pb4,oc 104 [c9])] :: M10 :: [(pb5,oc 108 [(Value.func (.func 89) #[] #[])])] :: [])) (by kernel_rfl) ?_
 intro w hw
 replace ok:=qdF ok hw
 clear hw
 refine qar (cl1 (cq le_m0 ok [0,2,3,4,5,6,7,8,9] rfl) (cq le_m0 ok [0,2,3,4,5,6,7,8,9] rfl)) fun hT=>kt 0 E rfl hT (qal rfl) fun a E=>kt 1 E rfl hT (qas qav rfl (qac.cown 0 rfl rfl)) fun a E=>kt 2 E rfl hT (qal rfl) fun a E=>kt 3 E rfl hT (qbn (caps:=[.tmp 4,.tmp 2,.tmp 7]) rfl) fun a E=>qaF [4] (by kernel_rfl) rfl (qaJ ?_)
 ·refine qcO (o:=_) rfl ?_
  replace ok:Ok u m0 ([(b12,oc 130 [(Value.func (.func 148) #[] #[.pointer (some ⟨pb0,0,none⟩),.pointer (some ⟨pb1,0,none⟩),.pointer (some ⟨pb2,0,none⟩)])])] :: [(pb4,oc 104 [c9])] :: M10 :: [(b46,oc 3 [vi v28])] :: [(pb0,oc 127 [c1])] :: [(pb1,oc 162 [vu x1.bits,vs x1.text])] :: [(pb2,oc 162 [vu x2.bits,vs x2.text])] :: M32 :: [(pb3,oc 64 [c7])] :: [(pb5,oc 108 [(Value.func (.func 89) #[] #[])])] :: S) w:=(ok.pk 10 [2,7,8,0,3,4,5,1,6,9] rfl (by decide))
  refine lc E qpl rfl (qgE N _ x35 h45 x4 h11 v28 r30 x0 h2 x1 r3 l4 x2 r5 l6 e52 hG ok) fun w ok a E=>wn<|qar (cl1 (cq le_m0 ok [3,0,4,5,6,8,1,2,9] rfl) (cq le_m0 ok [3,0,4,5,6,8,1,2,9] rfl)) fun hT=>?_
  obtain ⟨b63,o64,hp65,yy66⟩:=qeM qgT h33 e54 (P:=Tryz.prog) (X:=.tmp 19) (I:=.tmp 20) (kd:=.i64) (qbo E rfl) (qbo E rfl)
  refine kt 5 E rfl hT (yy66 _ _) fun a E=>qaF [6] (by kernel_rfl) rfl (qaJ ?_)
  ·refine wo rfl<|qgi (R:=pB) E ok 7 rfl h33 e54 hp65 rfl rfl qmM rfl rfl rfl ⟨rfl,trivial⟩ qjG e60 rfl fun M67 w ok h68=>wn<|qar (cl1 (cq le_m0 ok [3,0,4,5,6,8,1,2,9] rfl) (cq le_m0 ok [3,0,4,5,6,8,1,2,9] rfl)) fun hT=>qbQ (by kernel_rfl) ?_
   exact ⟨rfl,⟨c31,M67,(ok.pk 10 [3,7,0,4,5,6,8,1,2,9] rfl (by decide)),E.keep [2,3,4,6,12,13,14],h68⟩⟩
def qhX (u:World) (m0:Mem) (S:Segs) (pb0:Nat) (pb1:Nat) (pb2:Nat) (x0:List (List (List (Relation)))) (c1:Value) (x1:List (Int)) (c3:Value) (M4:List (Nat × Obj)) (r:(List UInt8) × Bool) (a:Act) (w:World):Prop :=
 Ok u m0 ([(pb0,oc 64 [c1])] :: [(pb1,oc 104 [c3])] :: M4 :: [(pb2,oc 108 [(Value.func (.func 89) #[] #[])])] :: S) w ∧ a.defers = [] ∧ RVs Tryz.prog a w [.t 4 (.string (bs r.1)),.t 5 (.bool r.2)] ∧ r.1.length ≤ LIMS
theorem qhV (N:Nat) (vx_0:Value) (x_0:Option (Classes)) (hx_0:(pP 3 qd1) m0 [vx_0] x_0) {pb0:Nat} {c1:Value} (x0:List (List (List (Relation)))) (h2:(pL 1 (pL 1 (pL 4 qag))) m0 [c1] x0) {pb1:Nat} {c3:Value} {M4:List (Nat × Obj)} (x1:List (Int)) (h5:ORow 3 1 (pI .i64) m0 c3 x1 M4) {pb2:Nat} {r:(List UInt8) × Bool} (hF:qb7 N x_0 x0 x1 = some r) (hG:Glob u) (ok:Ok u m0 ([(pb0,oc 64 [c1])] :: [(pb1,oc 104 [c3])] :: M4 :: [(pb2,oc 108 [(Value.func (.func 89) #[] #[])])] :: S) w) :
  Calls Tryz.prog 114 [vx_0,Value.func (.func 115) #[] #[.pointer (some ⟨pb0,0,none⟩),.pointer (some ⟨pb1,0,none⟩),.pointer (some ⟨pb2,0,none⟩)]].toArray w fun e w'=>(e = .returned (.tuple [(.string (bs r.1)),(.bool r.2)].toArray) ∧ Ok u m0 ([(pb0,oc 64 [c1])] :: [(pb1,oc 104 [c3])] :: M4 :: [(pb2,oc 108 [(Value.func (.func 89) #[] #[])])] :: S) w') ∧ r.1.length ≤ LIMS:=by
 unfold qb7 at hF
 refine en (qhX u m0 S pb0 pb1 pb2 x0 c1 x1 c3 M4) r Tryz.func114 rfl rfl rfl (by rintro a w ⟨ok,hd,hrv,h0⟩; exact qaZ [.t 4 (.string (bs r.1)),.t 5 (.bool r.2)] hd rfl hrv ⟨⟨rfl,ok⟩,h0⟩) fun fin a E=>sg<|qjh (cs:=[vx_0]) E ok rfl (qms hx_0) rfl rfl fun b6 a w E ok=>av E rfl fun a E=>aw E rfl fun a E=>sg<|av E rfl fun a E=>aw E rfl fun a E=>wp_seq<|sg<|ld E ok qid 0 rfl rfl rfl fun a E=>?_
 obtain ⟨y7,e8,hF⟩:=bnd hF
 obtain ⟨b9,o10,es11,hv12,hl13,hR14,at15⟩:=qie hx_0 e8
 obtain ⟨c16,c18,c20,rfl,h17,h19,h21⟩:=hR14
 refine lv E ok (qfG hv12 rfl) fun a E=>fv E qi9 rfl fun a E=>lv E ok (qas qhC rfl (qac.ro (At.sub 1 1 at15))) fun a E=>lv E ok (qaz qeU h19 rfl) fun a E=>mv E rfl fun a E=>wn<|wp_block<|bd hF fun o24 hL hF=>qaE _ (fun (s:(List UInt8) × Bool × Int) a w=>Ok u m0 ([(b6,oc 127 [vx_0])] :: [(pb0,oc 64 [c1])] :: [(pb1,oc 104 [c3])] :: M4 :: [(pb2,oc 108 [(Value.func (.func 89) #[] #[])])] :: S) w ∧ Env 58 a [(1,(Value.func (.func 115) #[] #[.pointer (some ⟨pb0,0,none⟩),.pointer (some ⟨pb1,0,none⟩),.pointer (some ⟨pb2,0,none⟩)])),(2,vp b6),(6,vs s.1),(7,vb s.2.1),(16,c18),(17,(vi (y7.wholes.length:Int))),(18,vi s.2.2)] ∧ s.1.length ≤ LIMS ∧ InR .i64 s.2.2) (fun (b:((List UInt8) × Bool)) e a w=>e = (.exit 0) ∧ Ok u m0 ([(b6,oc 127 [vx_0])] :: [(pb0,oc 64 [c1])] :: [(pb1,oc 104 [c3])] :: M4 :: [(pb2,oc 108 [(Value.func (.func 89) #[] #[])])] :: S) w ∧ Env 58 a [(6,vs b.1),(7,vb b.2)] ∧ b.1.length ≤ LIMS) ?_ ?_ N _ a w hL ⟨ok,E.keep [1,2,6,7,16,17,18],(show ([]:List UInt8).length ≤ LIMS by decide),(ir 0)⟩
 rotate_left
 ·intro e a w _ hO
  obtain ⟨rfl,ok,E,l103⟩:=hO
  refine qaK<|qaa<|sg<|mz E rfl rfl fun a E=>av E rfl fun a E=>av E rfl fun a E=>wn<|wp_ret ?_
  exact fin hF ⟨ok.drop,E.d,⟨rv_t E rfl,rv_t E rfl,trivial⟩,l103⟩
 rintro ⟨v27,v28,v29⟩ a w r ⟨ok,E,l30,r31⟩ hF
 replace hF:qbp N x_0 x0 x1 y7 v27 v28 v29 = some r:=hF
 unfold qbp at hF
 refine sg<|lw E (qaG rfl rfl) fun a E=>wn<|wp_seq<|cg E rfl hF (fun c32 hF=>?_) fun c32 hF=>?_
 ·refine wp_exit<|qay ?_
  cases hF
  exact so (⟨rfl,⟨ok,E.keep [6,7],l30⟩⟩)
 refine wp_skip<|qaa<|wp_seq<|wp_block<|sg ?_
 obtain ⟨x33,e34,hF⟩:=bnd hF
 obtain ⟨b35,o36,es37,hl38,rr39,at40,yy41⟩:=ia E 16 18 qeU h19 e34
 obtain ⟨rfl,r42,l43⟩:=rr39
 refine lv E ok (yy41 _ _) fun a E=>lv E ok (qaj (cs:=[vu x33.bits,vs x33.text]) qgy rfl rfl (qac.ro at40)) fun a E=>qaD E ok qfi rfl rfl fun b44 a w E ok=>qae E ok 0 rfl rfl rfl qih rfl rfl ⟨rfl,rfl,trivial⟩ rfl rfl fun w ok=>wn<|sg<|ld E ok qid 1 rfl rfl rfl fun a E=>?_
 obtain ⟨y45,e46,hF⟩:=bnd hF
 obtain ⟨b47,o48,es49,hv50,hl51,hR52,at53⟩:=qie hx_0 e46
 obtain ⟨c54,c56,c58,rfl,h55,h57,h59⟩:=hR52
 refine lv E ok (qfG hv50 rfl) fun a E=>fv E qjf rfl fun a E=>lv E ok (qas qhC rfl (qac.ro (At.sub 2 1 at53))) fun a E=>lv E ok (qaz qeU h59 rfl) fun a E=>mv E rfl fun a E=>wn<|wp_block<|bd hF fun o62 hL hF=>qaE _ (fun (s:(List UInt8) × Bool × Int) a w=>Ok u m0 ([(b44,oc 162 [vu x33.bits,vs x33.text])] :: [(b6,oc 127 [vx_0])] :: [(pb0,oc 64 [c1])] :: [(pb1,oc 104 [c3])] :: M4 :: [(pb2,oc 108 [(Value.func (.func 89) #[] #[])])] :: S) w ∧ Env 58 a [(1,(Value.func (.func 115) #[] #[.pointer (some ⟨pb0,0,none⟩),.pointer (some ⟨pb1,0,none⟩),.pointer (some ⟨pb2,0,none⟩)])),(2,vp b6),(6,vs s.1),(7,vb s.2.1),(9,vp b44),(16,c18),(17,(vi (y7.wholes.length:Int))),(18,vi v29),(25,c58),(26,(vi (y45.fraction.length:Int))),(27,vi s.2.2)] ∧ s.1.length ≤ LIMS ∧ InR .i64 s.2.2) (fun (b:((List UInt8) × Bool)) e a w=>e = (.exit 2) ∧ Ok u m0 ([(b44,oc 162 [vu x33.bits,vs x33.text])] :: [(b6,oc 127 [vx_0])] :: [(pb0,oc 64 [c1])] :: [(pb1,oc 104 [c3])] :: M4 :: [(pb2,oc 108 [(Value.func (.func 89) #[] #[])])] :: S) w ∧ Env 58 a [(1,(Value.func (.func 115) #[] #[.pointer (some ⟨pb0,0,none⟩),.pointer (some ⟨pb1,0,none⟩),.pointer (some ⟨pb2,0,none⟩)])),(2,vp b6),(6,vs b.1),(7,vb b.2),(16,c18),(17,(vi (y7.wholes.length:Int))),(18,vi v29)] ∧ b.1.length ≤ LIMS) ?_ ?_ N _ a w hL ⟨ok,E.keep [1,2,6,7,9,16,17,18,25,26,27],l30,(ir 0)⟩
 rotate_left
 ·intro e a w _ hO
  obtain ⟨rfl,ok,E,l101⟩:=hO
  refine qaK<|qaq<|qaa<|qab<|lw E (qaA rfl rfl (InR.inc r31 (qan h19) c32)) fun a E=>mv E rfl fun a E=>wpList_nil ?_
  cases hF
  exact qaw ⟨(ok.pk 6 [1,2,3,4,5] rfl (by decide)),E.keep [1,2,6,7,16,17,18],l101,(InR.inc r31 (qan h19) c32)⟩
 rintro ⟨v65,v66,v67⟩ a w r ⟨ok,E,l68,r69⟩ hF
 replace hF:qa3 N x_0 x0 x1 x33 y45 v65 v66 v67 = some r:=hF
 unfold qa3 at hF
 refine sg<|lw E (qaG rfl rfl) fun a E=>wn<|wp_seq<|cg E rfl hF (fun c70 hF=>?_) fun c70 hF=>?_
 ·refine wp_exit<|qay ?_
  cases hF
  exact so (⟨rfl,⟨ok,E.keep [1,2,6,7,16,17,18],l68⟩⟩)
 refine wp_skip<|qaa<|wp_seq<|wp_block<|sg ?_
 obtain ⟨x71,e72,hF⟩:=bnd hF
 obtain ⟨b73,o74,es75,hl76,rr77,at78,yy79⟩:=ia E 25 27 qeU h59 e72
 obtain ⟨rfl,r80,l81⟩:=rr77
 refine lv E ok (yy79 _ _) fun a E=>lv E ok (qaj (cs:=[vu x71.bits,vs x71.text]) qgy rfl rfl (qac.ro at78)) fun a E=>qaD E ok qfi rfl rfl fun b82 a w E ok=>qae E ok 0 rfl rfl rfl qih rfl rfl ⟨rfl,rfl,trivial⟩ rfl rfl fun w ok=>wn<|sg<|fk E ok qfh qbY rfl 1 rfl rfl fun a E=>aw E rfl fun a E=>wp_seq<|sg<|fk E ok qfh qbY rfl 0 rfl rfl fun a E=>lw E (qlA rfl rfl) fun a E=>wn<|bd hF fun o83 hJ hF=>qbm (Q':=fun e a w=>e = .normal ∧ Ok u m0 ([(b82,oc 162 [vu x71.bits,vs x71.text])] :: [(b44,oc 162 [vu x33.bits,vs x33.text])] :: [(b6,oc 127 [vx_0])] :: [(pb0,oc 64 [c1])] :: [(pb1,oc 104 [c3])] :: M4 :: [(pb2,oc 108 [(Value.func (.func 89) #[] #[])])] :: S) w ∧ Env 58 a [(1,(Value.func (.func 115) #[] #[.pointer (some ⟨pb0,0,none⟩),.pointer (some ⟨pb1,0,none⟩),.pointer (some ⟨pb2,0,none⟩)])),(2,vp b6),(6,vs v65),(7,vb v66),(9,vp b44),(11,vp b82),(12,vs o83),(16,c18),(17,(vi (y7.wholes.length:Int))),(18,vi v29),(25,c58),(26,(vi (y45.fraction.length:Int))),(27,vi v67)] ∧ o83.length ≤ LIMS) ?_ ?_
 ·have hF:=hJ
  refine cg E rfl hF (fun c85 hF=>?_) fun c85 hF=>?_
  ·refine wp_skip ?_
   cases hF
   exact ⟨rfl,⟨ok,E.keep [1,2,6,7,9,11,12,16,17,18,25,26,27],l43⟩⟩
  refine qab<|mv E rfl fun a E=>fk E ok qfh qbY rfl 0 rfl rfl fun a E=>bd hF fun s86 e87 hF=>lw E (qel rfl rfl e87) fun a E=>bd hF fun s88 e89 hF=>lw E (qel rfl rfl e89) fun a E=>av E rfl fun a E=>wpList_nil ?_
  cases hF
  exact ⟨rfl,⟨ok,E.keep [1,2,6,7,9,11,12,16,17,18,25,26,27],(qdC e89)⟩⟩
 intro e a w hO
 obtain ⟨rfl,ok,E,l90⟩:=hO
 refine qaa<|sg<|mv E rfl fun a E=>lw E (qaU rfl) fun a E=>mv E rfl fun a E=>bu E 43 hF (fun c91 hF E=>?_) fun c91 hF E=>?_
 ·refine lsq E fun a E=>ls E fun a E=>pt E rfl rfl fun a E=>mz E rfl rfl fun a E=>lv E ok (qbn (caps:=[.tmp 2,.tmp 9,.tmp 11]) rfl) fun a E=>?_
  obtain ⟨r92,e93,hF⟩:=bnd hF
  replace ok:Ok u m0 ([(b6,oc 127 [vx_0])] :: [(b44,oc 162 [vu x33.bits,vs x33.text])] :: [(b82,oc 162 [vu x71.bits,vs x71.text])] :: [(pb0,oc 64 [c1])] :: [(pb1,oc 104 [c3])] :: M4 :: [(pb2,oc 108 [(Value.func (.func 89) #[] #[])])] :: S) w:=(ok.pk 7 [2,1,0,3,4,5,6] rfl (by decide))
  refine qbJ E rfl qkb rfl (qgL N x_0 hx_0 x33 r42 l43 x71 r80 l81 x0 h2 x1 h5 e93 hG ok) rfl rfl ?_
  rintro _ w ⟨rfl,ok⟩
  refine ⟨_,rfl,fun a E=>?_⟩
  refine pt E rfl rfl fun a E=>wn<|cg E rfl hF (fun c94 hF=>?_) fun c94 hF=>?_
  ·refine wp_skip<|qaq<|qaa<|qab<|lw E (qaA rfl rfl (InR.inc r69 (qan h59) c70)) fun a E=>mv E rfl fun a E=>wpList_nil ?_
   cases hF
   exact qaw ⟨(ok.pk 7 [1,0,3,4,5,6] rfl (by decide)),E.keep [1,2,6,7,9,16,17,18,25,26,27],l68,(InR.inc r69 (qan h59) c70)⟩
  refine qab<|mv E rfl fun a E=>av E rfl fun a E=>av E rfl fun a E=>wpList_nil<|qaq<|qaa<|qab<|lw E (qaA rfl rfl (InR.inc r69 (qan h59) c70)) fun a E=>mv E rfl fun a E=>wpList_nil ?_
  cases hF
  exact qaw ⟨(ok.pk 7 [1,0,3,4,5,6] rfl (by decide)),E.keep [1,2,6,7,9,16,17,18,25,26,27],l90,(InR.inc r69 (qan h59) c70)⟩
 refine mz E rfl rfl fun a E=>bd hF fun r95 e96 hF=>lc E qo9 rfl (qhZ N o83 l90 v65 l68 e96 hG ok) fun w ok a E=>pf E rfl rfl fun a E=>mv E rfl fun a E=>qdW r95 (fun c97=>?_) (fun c97=>?_)
 rotate_left
 ·have hF:=qdt c97 hF
  have E:=E.upd 48 c97 rfl
  refine lsq E fun a E=>ls E fun a E=>pf E rfl rfl fun a E=>wn<|c_if E rfl (fun h=>by cases h) (fun _=>?_)
  refine wp_skip<|qaq<|qaa<|qab<|lw E (qaA rfl rfl (InR.inc r69 (qan h59) c70)) fun a E=>mv E rfl fun a E=>wpList_nil ?_
  cases hF
  exact qaw ⟨(ok.pk 7 [1,2,3,4,5,6] rfl (by decide)),E.keep [1,2,6,7,9,16,17,18,25,26,27],l68,(InR.inc r69 (qan h59) c70)⟩
 have hF:=qdr c97 hF
 have E:=E.upd 48 c97 rfl
 refine mv E rfl fun a E=>lv E ok (qbn (caps:=[.tmp 2,.tmp 9,.tmp 11]) rfl) fun a E=>?_
 obtain ⟨r98,e99,hF⟩:=bnd hF
 replace ok:Ok u m0 ([(b6,oc 127 [vx_0])] :: [(b44,oc 162 [vu x33.bits,vs x33.text])] :: [(b82,oc 162 [vu x71.bits,vs x71.text])] :: [(pb0,oc 64 [c1])] :: [(pb1,oc 104 [c3])] :: M4 :: [(pb2,oc 108 [(Value.func (.func 89) #[] #[])])] :: S) w:=(ok.pk 7 [2,1,0,3,4,5,6] rfl (by decide))
 refine qbJ E rfl qkb rfl (qgL N x_0 hx_0 x33 r42 l43 x71 r80 l81 x0 h2 x1 h5 e99 hG ok) rfl rfl ?_
 rintro _ w ⟨rfl,ok⟩
 refine ⟨_,rfl,fun a E=>?_⟩
 refine pt E rfl rfl fun a E=>wn<|cg E rfl hF (fun c100 hF=>?_) fun c100 hF=>?_
 ·refine wp_skip<|qaq<|qaa<|qab<|lw E (qaA rfl rfl (InR.inc r69 (qan h59) c70)) fun a E=>mv E rfl fun a E=>wpList_nil ?_
  cases hF
  exact qaw ⟨(ok.pk 7 [1,0,3,4,5,6] rfl (by decide)),E.keep [1,2,6,7,9,16,17,18,25,26,27],l68,(InR.inc r69 (qan h59) c70)⟩
 refine qab<|mv E rfl fun a E=>av E rfl fun a E=>av E rfl fun a E=>wpList_nil<|qaq<|qaa<|qab<|lw E (qaA rfl rfl (InR.inc r69 (qan h59) c70)) fun a E=>mv E rfl fun a E=>wpList_nil ?_
 cases hF
 exact qaw ⟨(ok.pk 7 [1,0,3,4,5,6] rfl (by decide)),E.keep [1,2,6,7,9,16,17,18,25,26,27],l90,(InR.inc r69 (qan h59) c70)⟩
def qkZ (u:World) (m0:Mem) (S:Segs) (r:(List UInt8) × Bool) (a:Act) (w:World):Prop :=
 Ok u m0 S w ∧ a.defers = [] ∧ RVs Tryz.prog a w [.t 4 (.string (bs r.1)),.t 5 (.bool r.2)] ∧ r.1.length ≤ LIMS
theorem qk5 (N:Nat) (vl_0:Value) (l_0:List (List (List (Relation)))) (hl_0:(pL 1 (pL 1 (pL 4 qag))) m0 [vl_0] l_0) {r:(List UInt8) × Bool} (hF:qeL N l_0 = some r) (hG:Glob u) (hTb:Tab u) (ok:Ok u m0 S w) :
  Calls Tryz.prog 86 [vl_0,.func (.func 89) #[] #[]].toArray w fun e w'=>(e = .returned (.tuple [(.string (bs r.1)),(.bool r.2)].toArray) ∧ Ok u m0 S w') ∧ r.1.length ≤ LIMS:=by
 have hb0:=ok.base
 have le_m0:=Mem.le.refl m0
 unfold qeL at hF
 refine en (qkZ u m0 S) r Tryz.func86 rfl rfl rfl (by rintro a w ⟨ok,hd,hrv,h0⟩; exact qaZ [.t 4 (.string (bs r.1)),.t 5 (.bool r.2)] hd rfl hrv ⟨⟨rfl,ok⟩,h0⟩) fun fin a E=>sg<|qjh (cs:=[vl_0]) E ok rfl (qdY hl_0) rfl rfl fun b1 a w E ok=>qcp E ok rfl rfl rfl fun b2 a w E ok=>av E rfl fun a E=>av E rfl fun a E=>wn<|sg<|aw E rfl fun a E=>sg<|ld E ok qgt 1 rfl rfl rfl fun a E=>lv E ok (qaz qcE hl_0 rfl) fun a E=>bd hF fun l3 e4 hF=>qeb (R:=(pI .i64)) E ok qhy qio rfl (qfU (ir 0)) rfl e4 rfl rfl fun c5 M6 a w E ok h7=>qaD E ok qmn rfl rfl fun b8 a w E ok=>qae E ok 0 rfl rfl rfl qnG (ORow.cells h7) rfl ⟨(ORow.one h7),trivial⟩ rfl rfl fun w ok=>wn<|wp_seq<|sg ?_
 refine ld E ok qgt 3 rfl rfl rfl fun a E=>lv E ok (qaz qcE hl_0 rfl) fun a E=>mv E rfl fun a E=>wn<|wp_block ?_
 obtain ⟨M17,ok,h18⟩:=qfv (e:=52) (k:=4) (R:=qag) ok
 refine bd hF fun o19 hL hF=>qaE _ (fun (s:(List (Relation)) × Int × (List (Int))) a w=>∃ m20 c21 M22 c25 M26,m0.le m20 ∧ Ok u m20 (M22 :: [(b8,oc 104 [c25])] :: M26 :: [(b2,oc 108 [(Value.func (.func 89) #[] #[])])] :: [(b1,oc 64 [vl_0])] :: S) w ∧ Env 36 a [(2,vp b1),(3,vp b2),(6,c21),(7,vp b8),(13,vl_0),(14,(vi (l_0.length:Int))),(15,vi s.2.1)] ∧ ORow 52 4 qag m20 c21 s.1 M22 ∧ InR .i64 s.2.1 ∧ ORow 3 1 (pI .i64) m20 c25 s.2.2 M26) (fun (b:((List (Int)) × (List (Relation)))) e a w=>e = (.exit 0) ∧ ∃ m88 c89 M90 c92 M93,m0.le m88 ∧ Ok u m88 (M93 :: [(b8,oc 104 [c89])] :: M90 :: [(b2,oc 108 [(Value.func (.func 89) #[] #[])])] :: [(b1,oc 64 [vl_0])] :: S) w ∧ Env 36 a [(2,vp b1),(3,vp b2),(6,c92),(7,vp b8)] ∧ ORow 3 1 (pI .i64) m88 c89 b.1 M90 ∧ ORow 52 4 qag m88 c92 b.2 M93) ?_ ?_ N _ a w hL ⟨m0,(Value.slice none 0 0),M17,c5,M6,Mem.le.refl _,ok,E.keep [2,3,6,7,13,14,15],h18,(ir 0),h7⟩
 rotate_left
 ·intro e a w _ hO
  obtain ⟨rfl,m71,c72,M73,c75,M76,hle,ok,E,h74,h77⟩:=hO
  have le_m0:=le_m0.trans hle
  have hl_0:=(mL (mL (mL qad))).up hle hl_0
  refine qaK<|qaa<|sg<|mv E rfl fun a E=>?_
  obtain ⟨m78,hle,ok,hfz⟩:=(ok.frs 0 rfl).freeze
  have h79:=ORow.froz qad h77 hle hfz (by decide)
  have le_m0:=le_m0.trans hle
  have hl_0:=(mL (mL (mL qad))).up hle hl_0
  have h74:=ORow.up (mI .i64) hle h74
  refine bd hF fun r80 e81 hF=>qaf E qo3 rfl (qgC N _ o19.2 h79 e81 hG hTb ok) rfl rfl ?_
  rintro _ w ⟨m82,c83,rfl,hle,ok,h84⟩
  have le_m0:=le_m0.trans hle
  have hl_0:=(mL (mL (mL qad))).up hle hl_0
  have h74:=ORow.up (mI .i64) hle h74
  have h79:=(mL qad).up hle h79
  refine ⟨_,rfl,fun a E=>?_⟩
  refine lv E ok (qbn (caps:=[.tmp 2,.tmp 7,.tmp 3]) rfl) fun a E=>?_
  obtain ⟨r85,e86,hF⟩:=bnd hF
  replace ok:Ok u m82 ([(b1,oc 64 [vl_0])] :: [(b8,oc 104 [c72])] :: M73 :: [(b2,oc 108 [(Value.func (.func 89) #[] #[])])] :: S) w:=(ok.pk 4 [3,0,1,2] rfl (by decide))
  refine qaf E qoT rfl (qhV N _ r80 h84 l_0 hl_0 o19.1 h74 e86 hG ok) rfl rfl ?_
  rintro _ w ⟨⟨rfl,ok⟩,l87⟩
  refine ⟨_,rfl,fun a E=>?_⟩
  refine lw E (qak rfl rfl) fun a E=>lw E (qak rfl rfl) fun a E=>av E rfl fun a E=>aw E rfl fun a E=>wp_ret ?_
  exact fin hF ⟨(ok.drop.drop.drop.drop).down hb0 le_m0,E.d,⟨rv_t E rfl,rv_t E rfl,trivial⟩,l87⟩
 rintro ⟨v28,v29,v30⟩ a w r ⟨m31,c32,M33,c36,M37,hle,ok,E,h34,r35,h38⟩ hF
 replace hF:qbB N l_0 v28 v29 v30 = some r:=hF
 unfold qbB at hF
 have le_m0:=le_m0.trans hle
 have hl_0:=(mL (mL (mL qad))).up hle hl_0
 refine sg<|lw E (qaG rfl rfl) fun a E=>wn<|wp_seq<|cg E rfl hF (fun c39 hF=>?_) fun c39 hF=>?_
 ·refine wp_exit<|qay ?_
  cases hF
  exact so (⟨rfl,⟨m31,c36,M37,c32,M33,le_m0,ok,E.keep [2,3,6,7],h38,h34⟩⟩)
 refine wp_skip<|qaa<|wp_seq<|wp_block<|sg<|mv E rfl fun a E=>?_
 obtain ⟨x40,e41,hF⟩:=bnd hF
 obtain ⟨b42,o43,es44,hl45,rr46,at47,yy48⟩:=ia E 13 15 qcE hl_0 e41
 obtain ⟨c49,rfl,h50⟩:=qef rr46
 refine lv E ok (yy48 _ _) fun a E=>lv E ok (qas qe9 rfl (qac.ro at47)) fun a E=>av E rfl fun a E=>aw E rfl fun a E=>sg<|ld E ok qlP 1 rfl rfl rfl fun a E=>mz E rfl rfl fun a E=>lv E ok (qiq qcu h34 rfl) fun a E=>?_
 obtain ⟨x51,e52,hF⟩:=bnd hF
 obtain ⟨b53,o54,hp55,yy56⟩:=qeM qhy h38 e52 (P:=Tryz.prog) (X:=.tmp 20) (I:=.tmp 21) (kd:=.i64) (qbo E rfl) (qbo E rfl)
 refine lv E ok (yy56 _ _) fun a E=>bd hF fun l57 e58 hF=>qgi (R:=(pI .i64)) E ok 2 rfl h38 e52 hp55 rfl rfl qbu rfl rfl rfl ⟨rfl,trivial⟩ (qfU (ORow.InR h34)) e58 rfl fun M59 w ok h60=>wn<|qab<|mz E rfl rfl fun a E=>bd hF fun r61 e62 hF=>qaf E qpc rfl (qgS N _ x40 h50 e62 hG ok) rfl rfl ?_
 rintro _ w ⟨m63,c64,rfl,hle,ok,h65⟩
 have le_m0:=le_m0.trans hle
 have hl_0:=(mL (mL (mL qad))).up hle hl_0
 have h34:=ORow.up qad hle h34
 have h50:=(mL (mL qad)).up hle h50
 have at47:=At.up hle at47
 have h60:=ORow.up (mI .i64) hle h60
 refine ⟨_,rfl,fun a E=>?_⟩
 refine bd hF fun l66 e67 hF=>qgK (R:=qag) E ok 0 qad qcu Tryz.underlying53 rfl h34 (qcK.ofL h65 ok) e67 ⟨_,qdJ,rfl⟩ rfl rfl rfl rfl fun c68 M69 a w E ok h70=>av E rfl fun a E=>wpList_nil<|qaq<|qaa<|qab<|lw E (qaA rfl rfl (InR.inc r35 (qan hl_0) c39)) fun a E=>mv E rfl fun a E=>wpList_nil ?_
 cases hF
 exact qaw ⟨m63,c68,M69,c36,M59,le_m0,ok,E.keep [2,3,6,7,13,14,15],h70,(InR.inc r35 (qan hl_0) c39),h60⟩
def qkF (u:World) (m0:Mem) (S:Segs) (r:(List UInt8) × Bool × Int) (a:Act) (w:World):Prop :=
 Ok u m0 S w ∧ a.defers = [] ∧ RVs Tryz.prog a w [.t 2 (.string (bs r.1)),.t 3 (.bool r.2.1),.t 4 (.int .i64 r.2.2)] ∧ r.1.length ≤ LIMS ∧ InR .i64 r.2.2
theorem qkJ (N:Nat) (vc_0:Value) (c_0:List (List (Relation))) (hc_0:(pL 1 (pL 4 qag)) m0 [vc_0] c_0) {r:(List UInt8) × Bool × Int} (hF:qcf N c_0 = some r) (hG:Glob u) (hTb:Tab u) (ok:Ok u m0 S w) :
  Calls Tryz.prog 63 [vc_0].toArray w fun e w'=>(e = .returned (.tuple [(.string (bs r.1)),(.bool r.2.1),(.int .i64 r.2.2)].toArray) ∧ Ok u m0 S w') ∧ r.1.length ≤ LIMS ∧ InR .i64 r.2.2:=by
 unfold qcf at hF
 refine en (qkF u m0 S) r Tryz.func63 rfl rfl rfl (by rintro a w ⟨ok,hd,hrv,h0,h1⟩; exact qaZ [.t 2 (.string (bs r.1)),.t 3 (.bool r.2.1),.t 4 (.int .i64 r.2.2)] hd rfl hrv ⟨⟨rfl,ok⟩,h0,h1⟩) fun fin a E=>sg<|av E rfl fun a E=>av E rfl fun a E=>aw E rfl fun a E=>wp_seq<|sg<|mv E rfl fun a E=>bd hF fun r1 e2 hF=>lc E qoM rfl (qfT N _ c_0 hc_0 e2 hG ok) fun w ok a E=>lw E (qaU rfl) fun a E=>wn<|cf E rfl hF (fun c3 hF=>?_) fun c3 hF=>?_
 ·refine sg<|av E rfl fun a E=>av E rfl fun a E=>aw E rfl fun a E=>wp_ret<|qai ?_
  exact fin hF ⟨ok,E.d,⟨rv_t E rfl,rv_t E rfl,rv_t E rfl,trivial⟩,(show ([]:List UInt8).length ≤ LIMS by decide),(ir 1)⟩
 refine wp_skip<|qaa<|sg<|mv E rfl fun a E=>qcT (R:=(pL 1 (pL 4 qag))) (xo:=[.tmp 11]) (xs:=([c_0]:List (List (List (Relation))))) E ok qcE qiZ rfl ⟨⟨_,(qdY hc_0),rfl,hc_0⟩,trivial⟩ rfl rfl rfl rfl fun c4 M5 a w E ok h6=>?_
 obtain ⟨r12,e13,hF⟩:=bnd hF
 obtain ⟨m7,hle9,ok8,hfz10⟩:=(ok.frs 0 rfl).freeze
 have h11:=ORow.froz (mL (mL qad)) h6 hle9 hfz10 (by decide)
 refine qaf E qqz rfl (qk5 N _ ([c_0]:List (List (List (Relation)))) h11 e13 hG hTb ok8) rfl rfl ?_
 rintro _ w ⟨⟨rfl,okz⟩,l14⟩
 replace ok:=(Ok.thawAt 0 rfl ok hle9 hfz10 okz)
 refine ⟨_,rfl,fun a E=>?_⟩
 refine mv E rfl fun a E=>lw E (qak rfl rfl) fun a E=>lw E (qak rfl rfl) fun a E=>av E rfl fun a E=>aw E rfl fun a E=>sg<|mz E rfl rfl fun a E=>av E rfl fun a E=>av E rfl fun a E=>aw E rfl fun a E=>wp_ret ?_
 exact fin hF ⟨ok.drop,E.d,⟨rv_t E rfl,rv_t E rfl,rv_t E rfl,trivial⟩,l14,(ir 0)⟩
def qkQ (u:World) (m0:Mem) (S:Segs) (r:(List UInt8) × Bool) (a:Act) (w:World):Prop :=
 Ok u m0 S w ∧ a.defers = [] ∧ RVs Tryz.prog a w [.t 4 (.string (bs r.1)),.t 5 (.bool r.2)] ∧ r.1.length ≤ LIMS
theorem qoo (N:Nat) (vl_0:Value) (l_0:List (Rule)) (hl_0:(pL 2 qdV) m0 [vl_0] l_0) (class_1:List UInt8) (lclass_1:class_1.length ≤ LIMS) {r:(List UInt8) × Bool} (hF:qht N l_0 class_1 = some r) (hG:Glob u) (hTb:Tab u) (ok:Ok u m0 S w) :
  Calls Tryz.prog 37 [vl_0,vs class_1].toArray w fun e w'=>(e = .returned (.tuple [(.string (bs r.1)),(.bool r.2)].toArray) ∧ Ok u m0 S w') ∧ r.1.length ≤ LIMS:=by
 unfold qht at hF
 refine en (qkQ u m0 S) r Tryz.func37 rfl rfl rfl (by rintro a w ⟨ok,hd,hrv,h0⟩; exact qaZ [.t 4 (.string (bs r.1)),.t 5 (.bool r.2)] hd rfl hrv ⟨⟨rfl,ok⟩,h0⟩) fun fin a E=>sg<|av E rfl fun a E=>aw E rfl fun a E=>wp_seq<|sg<|mv E rfl fun a E=>lw E (qet rfl rfl) fun a E=>wn<|cf E rfl hF (fun c1 hF=>?_) fun c1 hF=>?_
 ·as_aux_lemma =>
   refine sg<|aw E rfl fun a E=>wp_seq<|sg<|mv E rfl fun a E=>lv E ok (qaz qdQ hl_0 rfl) fun a E=>mv E rfl fun a E=>wn<|wp_block ?_
   obtain ⟨M7,ok,h8⟩:=qfv (e:=42) (k:=1) (R:=(pL 1 (pL 4 qag))) ok
   refine bd hF fun o9 hL hF=>qaE _ (fun (s:(List (List (List (Relation)))) × Int) a w=>∃ c10 M11,Ok u m0 (M11 :: S) w ∧ Env 68 a [(6,c10),(19,vl_0),(20,(vi (l_0.length:Int))),(21,vi s.2)] ∧ ORow 42 1 (pL 1 (pL 4 qag)) m0 c10 s.1 M11 ∧ InR .i64 s.2) (fun (b:((List (List (List (Relation)))))) e a w=>e = (.exit 0) ∧ ∃ c55 M56,Ok u m0 (M56 :: S) w ∧ Env 68 a [(6,c55)] ∧ ORow 42 1 (pL 1 (pL 4 qag)) m0 c55 b M56) ?_ ?_ N _ a w hL ⟨(Value.slice none 0 0),M7,ok,E.keep [6,19,20,21],h8,(ir 0)⟩
   ·rintro ⟨v14,v15⟩ a w r ⟨c16,M17,ok,E,h18,r19⟩ hF
    replace hF:qe3 N l_0 v14 v15 = some r:=hF
    unfold qe3 at hF
    refine sg<|lw E (qaG rfl rfl) fun a E=>wn<|wp_seq<|cg E rfl hF (fun c20 hF=>?_) fun c20 hF=>?_
    ·refine wp_exit<|qay ?_
     cases hF
     exact so (⟨rfl,⟨c16,M17,ok,E.keep [6],h18⟩⟩)
    refine wp_skip<|qaa<|wp_seq<|wp_block<|sg ?_
    obtain ⟨x21,e22,hF⟩:=bnd hF
    obtain ⟨b23,o24,es25,hl26,rr27,at28,yy29⟩:=ia E 19 21 qdQ hl_0 e22
    obtain ⟨c31,rfl,l30,h32⟩:=rr27
    refine lv E ok (yy29 _ _) fun a E=>lv E ok (qaj (cs:=[vs x21.Class,c31]) qjl rfl rfl (qac.ro at28)) fun a E=>qaD E ok qgz rfl rfl fun b33 a w E ok=>qae E ok 0 rfl rfl rfl qlh rfl rfl ⟨rfl,(qhv h32),trivial⟩ rfl rfl fun w ok=>wn<|qab<|mv E rfl fun a E=>fk E ok qi5 qe9 rfl 0 rfl rfl fun a E=>qcT (R:=(pL 1 (pL 4 qag))) (xo:=[.tmp 27]) (xs:=([x21.Cond]:List (List (List (Relation))))) E ok qcE qiZ rfl ⟨⟨_,(qdY h32),rfl,h32⟩,trivial⟩ rfl rfl rfl rfl fun c34 M35 a w E ok h36=>bd hF fun l37 e38 hF=>qgK (R:=(pL 1 (pL 4 qag))) E ok 2 (mL (mL qad)) qcE Tryz.underlying64 rfl h18 (qcK.ofRow h36 0 rfl ok) e38 ⟨_,qiZ,rfl⟩ rfl rfl rfl rfl fun c39 M40 a w E ok h41=>av E rfl fun a E=>wpList_nil<|qaq<|qaa<|qab<|lw E (qaA rfl rfl (InR.inc r19 (qan hl_0) c20)) fun a E=>mv E rfl fun a E=>wpList_nil ?_
    cases hF
    exact qaw ⟨c39,M40,(ok.pk 3 [2] rfl (by decide)),E.keep [6,19,20,21],h41,(InR.inc r19 (qan hl_0) c20)⟩
   intro e a w _ hO
   obtain ⟨rfl,c42,M43,ok,E,h44⟩:=hO
   refine qaK<|qaa<|sg<|mv E rfl fun a E=>?_
   obtain ⟨r50,e51,hF⟩:=bnd hF
   obtain ⟨m45,hle47,ok46,hfz48⟩:=(ok.frs 0 rfl).freeze
   have h49:=ORow.froz (mL (mL qad)) h44 hle47 hfz48 (by decide)
   refine qaf E qvB rfl (qnt N _ o9 h49 e51 hG hTb ok46) rfl rfl ?_
   rintro _ w ⟨⟨rfl,okz⟩,l52,r53⟩
   replace ok:=(Ok.thawAt 0 rfl ok hle47 hfz48 okz)
   refine ⟨_,rfl,fun a E=>?_⟩
   refine mv E rfl fun a E=>lw E (qak rfl rfl) fun a E=>lw E (qak rfl rfl) fun a E=>lw E (qak rfl rfl) fun a E=>av E rfl fun a E=>av E rfl fun a E=>av E rfl fun a E=>wn<|sg<|mz E rfl rfl fun a E=>lw E (qaH rfl rfl) fun a E=>mv E rfl fun a E=>bu E 40 hF (fun c54 hF E=>?_) fun c54 hF E=>?_
   ·refine mv E rfl fun a E=>lw E (qaU rfl) fun a E=>pt E rfl rfl fun a E=>av E rfl fun a E=>aw E rfl fun a E=>wp_ret<|qai ?_
    exact fin hF ⟨ok.drop,E.d,⟨rv_t E rfl,rv_t E rfl,trivial⟩,l52⟩
   refine lsq E fun a E=>pf E rfl rfl fun a E=>av E rfl fun a E=>aw E rfl fun a E=>wp_ret<|qai ?_
   exact fin hF ⟨ok.drop,E.d,⟨rv_t E rfl,rv_t E rfl,trivial⟩,l52⟩
 refine wp_skip<|qaa<|wp_seq<|sg<|mv E rfl fun a E=>lv E ok (qaz qdQ hl_0 rfl) fun a E=>mv E rfl fun a E=>wn<|wp_block<|bd hF fun o59 hL hF=>qaE _ (fun (s:Int) a w=>Ok u m0 (S) w ∧ Env 68 a [(1,vs class_1),(44,vl_0),(45,(vi (l_0.length:Int))),(46,vi s)] ∧ InR .i64 s) (fun (b:(Unit ⊕ ((List UInt8) × Bool))) e a w=>(Sum.elim (fun b83=>e = (.exit 2) ∧ Ok u m0 (S) w ∧ Env 68 a []) (fun b84=>e = .ret ∧ qkQ u m0 S b84 a w)) b) ?_ ?_ N _ a w hL ⟨ok,E.keep [1,44,45,46],(ir 0)⟩
 rotate_left
 ·intro e a w _ hO
  rcases o59 with o59 | o59
  rotate_left
  ·obtain ⟨rfl,hret⟩:=hO
   refine qat<|qai ?_
   exact fin hF hret
  have hF:=qcA hF
  obtain ⟨rfl,ok,E⟩:=hO
  refine qaK<|qaa<|sg<|av E rfl fun a E=>aw E rfl fun a E=>wp_ret ?_
  exact fin hF ⟨ok,E.d,⟨rv_t E rfl,rv_t E rfl,trivial⟩,(show ([]:List UInt8).length ≤ LIMS by decide)⟩
 rintro v61 a w r ⟨ok,E,r62⟩ hF
 replace hF:qe5 N l_0 class_1 v61 = some r:=hF
 unfold qe5 at hF
 refine sg<|lw E (qaG rfl rfl) fun a E=>wn<|wp_seq<|cg E rfl hF (fun c63 hF=>?_) fun c63 hF=>?_
 ·refine wp_exit<|qay ?_
  cases hF
  exact so (sl ⟨rfl,⟨ok,E.keep []⟩⟩)
 refine wp_skip<|qaa<|wp_seq<|wp_block<|sg ?_
 obtain ⟨x64,e65,hF⟩:=bnd hF
 obtain ⟨b66,o67,es68,hl69,rr70,at71,yy72⟩:=ia E 44 46 qdQ hl_0 e65
 obtain ⟨c74,rfl,l73,h75⟩:=rr70
 refine lv E ok (yy72 _ _) fun a E=>lv E ok (qaj (cs:=[vs x64.Class,c74]) qjl rfl rfl (qac.ro at71)) fun a E=>qaD E ok qgz rfl rfl fun b76 a w E ok=>qae E ok 0 rfl rfl rfl qlh rfl rfl ⟨rfl,(qhv h75),trivial⟩ rfl rfl fun w ok=>wn<|sg<|fk E ok qi3 qbY rfl 0 rfl rfl fun a E=>mv E rfl fun a E=>lw E (qet rfl rfl) fun a E=>wn<|cg E rfl hF (fun c77 hF=>?_) fun c77 hF=>?_
 ·refine wp_skip<|qaq<|qaa<|qab<|lw E (qaA rfl rfl (InR.inc r62 (qan hl_0) c63)) fun a E=>mv E rfl fun a E=>wpList_nil ?_
  cases hF
  exact qaw ⟨(ok.pk 1 [] rfl (by decide)),E.keep [1,44,45,46],(InR.inc r62 (qan hl_0) c63)⟩
 refine sg<|fk E ok qi5 qe9 rfl 0 rfl rfl fun a E=>bd hF fun r78 e79 hF=>qaf E qvg rfl (qkJ N _ x64.Cond h75 e79 hG hTb ok) rfl rfl ?_
 rintro _ w ⟨⟨rfl,ok⟩,l80,r81⟩
 refine ⟨_,rfl,fun a E=>?_⟩
 refine mv E rfl fun a E=>lw E (qak rfl rfl) fun a E=>lw E (qak rfl rfl) fun a E=>lw E (qak rfl rfl) fun a E=>av E rfl fun a E=>av E rfl fun a E=>av E rfl fun a E=>wn<|sg<|mz E rfl rfl fun a E=>lw E (qaH rfl rfl) fun a E=>mv E rfl fun a E=>bu E 64 hF (fun c82 hF E=>?_) fun c82 hF E=>?_
 ·refine mv E rfl fun a E=>pt E rfl rfl fun a E=>av E rfl fun a E=>aw E rfl fun a E=>wp_ret<|qat<|qai ?_
  cases hF
  exact so (sr ⟨rfl,⟨ok.drop,E.d,⟨rv_t E rfl,rv_t E rfl,trivial⟩,l80⟩⟩)
 refine ls E fun a E=>pf E rfl rfl fun a E=>av E rfl fun a E=>aw E rfl fun a E=>wp_ret<|qat<|qai ?_
 cases hF
 exact so (sr ⟨rfl,⟨ok.drop,E.d,⟨rv_t E rfl,rv_t E rfl,trivial⟩,l80⟩⟩)
end Go.Proofs.YtboacfcnmhnbdaaGreatDoor
namespace Go.Proofs.YtboacfcnmhnbdaaGreatDoor
open Go.X
variable {u:World} {m0:Mem} {S:Segs} {w:World}
set_option maxHeartbeats 4000000
set_option maxRecDepth 100000
theorem qvm:goB Tryz.prog 36 = true:=by kernel_rfl
end Go.Proofs.YtboacfcnmhnbdaaGreatDoor
namespace Go.Proofs.YtboacfcnmhnbdaaGreatDoor
open Go.X
variable {u:World} {m0:Mem} {S:Segs} {w:World}
set_option maxHeartbeats 4000000
set_option maxRecDepth 100000
end Go.Proofs.YtboacfcnmhnbdaaGreatDoor
namespace Go.Proofs.YtboacfcnmhnbdaaGreatDoor
open Go.X
variable {u:World} {m0:Mem} {S:Segs} {w:World}
set_option maxHeartbeats 4000000
set_option maxRecDepth 100000
theorem quY:goB Tryz.prog 43 = true:=by kernel_rfl
theorem qvh:goB Tryz.prog 44 = true:=by kernel_rfl
theorem qlj {v:Value} (hc:v.cells.toList = [v]) (ok:Ok u m0 S w) :
  Calls Tryz.prog 44 [v].toArray w fun e w'=>∃ b,e = .returned (.func (.func 67) #[] #[.pointer (some ⟨b,0,none⟩)]) ∧ Ok u m0 ([(b,oc 22 [v])] :: S) w':=by
 refine enter Tryz.func44 rfl rfl rfl fun a E=>sg<|qjh (cs:=[v]) E ok rfl hc rfl rfl fun Bs a w E ok=>aw E rfl fun a E=>sg<|lv E ok (qbn (caps:=[.tmp 1]) rfl) fun a E=>aw E rfl fun a E=>wp_ret ?_
 exact qaZ [.t 2 (.func (.func 67) #[] #[.pointer (some ⟨Bs,0,none⟩)])] E.d rfl (rz E rfl) ⟨Bs,rfl,ok⟩
theorem qsX:oneB Tryz.prog 22 = true:=by kernel_rfl
theorem qpW:oneB Tryz.prog 32 = true:=by kernel_rfl
theorem quH:goB Tryz.prog 66 = true:=by kernel_rfl
theorem qup:goB Tryz.prog 37 = true:=by kernel_rfl
theorem qui:goB Tryz.prog 55 = true:=by kernel_rfl
theorem qti:∃ i,Tryz.prog.info? 32 = some i ∧ i.size = 1:=⟨_,rfl,by kernel_rfl⟩
theorem qov:∀ c ∈ qem,c.length ≤ 100:=by decide
abbrev Bs1:={ s:List UInt8 // s.length ≤ 100 }
theorem Tab.to {u w:World} {m:Mem} {S:Segs} (hT:Tab u) (ok:Ok u m S w):Tab w:=by
 unfold Tab Lib.TabIs World.var? at hT ⊢
 cases hg:Tryz.prog.globalNamed "internal/strconv.uint64pow10" with
 | none=>rw [hg] at hT; cases hT
 | some g =>
  rw [hg] at hT
  simp only [Option.bind_some] at hT ⊢
  cases hb:u.heap[g]? with
  | none=>rw [hb] at hT; cases hT
  | some o=>rw [ok.ro g o (ok.base g o hb)]; rw [hb] at hT; exact hT
theorem Glob.to {u w:World} {m:Mem} {S:Segs} (hG:Glob u) (ok:Ok u m S w):Glob w:=by
 obtain ⟨mx,h⟩:=hG
 exact ⟨mx,ok.glob h⟩
def clsV:List Value:=[.string (bs [122,101,114,111]),.string (bs [111,110,101]),.string (bs [116,119,111]),.string (bs [102,101,119]),.string (bs [109,97,110,121]),.string (bs [111,116,104,101,114])]
def KpO (u:World) (m:Mem) (T:Segs) (A B:World):Prop:=Ok u m T A → Ok u m T B
theorem qq1 {u:World} {m0:Mem} {N b:Nat} {v:Value} {l:List Rule} {r:List (List UInt8)} (hl:(pL 2 qdV) m0 [v] l) (hF:qf5 N l = some r) (hG:Glob u) (hTb:Tab u) {w:World} (ok:Ok u m0 [[(b,oc 22 [v])]] w) :
  SeqStopsK Fence.wide 2 Tryz.prog 67 #[.pointer (some ⟨b,0,none⟩)] (fun x:Bs1=>#[vs x.1]) (KpO u m0 [[(b,oc 22 [v])]]) (fun ys=>ys.map (·.1) = r) (fun _=>True) 6 w:=by
 intro ln J Jx W hW hJ hJx hY h0
 have okW:Ok u m0 [[(b,oc 22 [v])]] W:=ok.below' hW
 clear hW ok
 refine callsIn_wide.2 ?_
 rw [show (#[Value.func (.yield ln) #[] #[]] ++ #[vp b]:Array Value) = [Value.func (.yield ln) #[] #[],vp b].toArray from by simp]
 have grow:∀ {A B:World} {ys:List Bs1},J ys A → Go.RowKit.Below A.heap.size A B → J ys B:=fun hA hb=>hJ _ _ _ none hA ⟨hb.os,hb.tape,hb.output,hb.size,fun k hk _=>hb.block k hk⟩ (fun r e=>by cases e)
 refine enter Tryz.func67 rfl rfl rfl fun a E=>sg<|qaf E qui rfl (qkg N rfl (hG.to okW) (Ok.start W)) rfl rfl ?_
 rintro _ w ⟨m1,v0,rfl,hle,ok1,hv0⟩
 obtain ⟨rfl,_⟩:=hv0
 refine ⟨_,rfl,fun a E=>?_⟩
 have bel:=(ok1.down (fun b o h=>h) hle).below
 replace h0:=grow h0 bel
 replace okW:=okW.below' bel
 clear bel ok1 hle
 refine lv E okW (qal rfl) fun a E=>?_
 have E0:Env 25 a [(8,.int .i64 ((0:Nat):Int)),(7,.agg clsV.toArray),(1,.pointer (some ⟨b,0,none⟩)),(0,.func (.yield ln) #[] #[])]:=E.keep [8,7,1,0]
 refine wn<|wp_block ?_
 unfold qf5 at hF
 refine qtf (fun n a w=>∃ (k:Nat) (acc:List Bs1),n = 6 - k ∧ k ≤ 6 ∧ Env 25 a [(8,.int .i64 k),(7,.agg clsV.toArray),(1,.pointer (some ⟨b,0,none⟩)),(0,.func (.yield ln) #[] #[])] ∧ Ok u m0 [[(b,oc 22 [v])]] w ∧ J acc w ∧ qgg N l (qem.drop k) (acc.map (·.1)) = some r ∧ acc.length ≤ k) ?_ 6 _ _ ⟨0,[],rfl,by omega,E0,okW,h0,hF,by simp⟩
 rintro n a w ⟨k,acc,rfl,hk,E,okW,hJw,hpc,hlen⟩
 refine sg<|lv E okW (qaG rfl rfl) fun a E=>wn<|wp_seq<|c_if E rfl (fun hc=>?_) (fun hc=>?_)
 rotate_left
 ·refine wp_exit<|qay<|.inr ⟨by nofun,?_⟩
  refine qaK ?_
  have hk6:k = 6:=by have:=of_decide_eq_false hc; omega
  subst hk6
  have hr:acc.map (·.1) = r:=by
   have:qem.drop 6 = []:=rfl
   rw [this] at hpc
   exact Option.some.inj hpc
  exact qaZ (R:=fun e W'=>(∃ v,e = Ending.returned v) ∧ ((∃ xs:List Bs1,xs.map (·.1) = r ∧ J xs W') ∨ (∃ pre,True ∧ Jx pre W'))) (fn:=Tryz.f67) (P:=Tryz.prog) [] E.d rfl trivial ⟨⟨_,rfl⟩,.inl ⟨acc,hr,hJw⟩⟩
 have hk6:k < 6:=by have:=of_decide_eq_true hc; omega
 obtain ⟨c,hcl,hdr⟩:∃ c,qem[k]? = some c ∧ qem.drop k = c :: qem.drop (k + 1):=by
  have hlt:k < qem.length:=hk6
  exact ⟨qem[k],List.getElem?_eq_getElem hlt,List.drop_eq_getElem_cons hlt⟩
 have c100:c.length ≤ 100:=qov c (List.mem_of_getElem? hcl)
 rw [hdr,qgg] at hpc
 obtain ⟨fr,hfr,hpc⟩:=bnd hpc
 have hix:clsV[k]? = some (.string (bs c)):=by
  have:clsV = qem.map fun c=>vs c:=rfl
  rw [this,List.getElem?_map,hcl]; rfl
 refine wp_skip<|qaa<|wp_seq<|wp_block<|sg<|lv E okW (qt1 Tryz.underlying80 qsD qbY rfl rfl hk6 hix) fun a E=>lv E okW (qax rfl) fun a E=>wn<|sg<|lv E okW (qas qsX rfl (qac.own 0 rfl rfl)) fun a E=>lv E okW (qal rfl) fun a E=>?_
 have hlw:=(mL qiT).up okW.le_hm hl
 refine qaf E qup rfl (qoo N v l hlw c (by unfold LIMS; omega) hfr (hG.to okW) (hTb.to okW) (Ok.start w)) rfl rfl ?_
 rintro _ w2 ⟨⟨rfl,ok2⟩,_⟩
 refine ⟨_,rfl,fun a E=>?_⟩
 have bel:=ok2.below
 replace hJw:=grow hJw bel
 replace okW:=okW.below' bel
 clear bel ok2 hlw
 refine lv E okW (qal rfl) fun a E=>lv E okW (qak rfl rfl) fun a E=>lv E okW (qak rfl rfl) fun a E=>lv E okW (qax rfl) fun a E=>lv E okW (qax rfl) fun a E=>wn<|wp_seq ?_
 cases hfr2:fr.2 with
 | false =>
  rw [hfr2,cond_false] at hpc
  have E:=E.keep [8,7,6,4,1,0]
  rw [hfr2] at E
  refine qab<|lv E okW (qal rfl) fun a E=>lv E okW (qal rfl) fun a E=>lsz E fun a E=>lv E okW (qcw rfl rfl) fun a E=>wn<|c_if E rfl (fun h=>by cases h) (fun _=>?_)
  refine wp_skip<|qaq<|qaa<|qab<|lv E okW (qbr rfl rfl) fun a E=>lv E okW (qal rfl) fun a E=>wpList_nil (.inl ⟨rfl,6 - (k + 1),by omega,k + 1,acc,rfl,by omega,?_,okW,hJw,hpc,by omega⟩)
  have hw:IntKind.wrap .i64 ((k:Int) + 1) = ((k + 1:Nat):Int):=by rw [qdK (qdn.2 ⟨by omega,by omega⟩)]; omega
  rw [hw] at E
  exact E.keep [8,7,1,0]
 | true =>
  rw [hfr2,cond_true] at hpc
  have E:=E.keep [8,7,6,4,1,0]
  rw [hfr2] at E
  obtain ⟨x,hx⟩:∃ x:Bs1,x.1 = c:=⟨⟨c,c100⟩,rfl⟩
  have hy:=hY acc x w2 hJw (by omega)
  simp only [hx] at hy
  refine (wpIn_wide (n:=2)).1 (wpIn_region_lit ?_)
  refine qiv (by intro c h; cases h) fun K hK=>lv E okW (qal rfl) fun a E=>wn_ hK<|qiv (by intro c h; cases h) fun K hK=>lv E okW (qal rfl) fun a E=>wn_ hK<|qiv (by intro c h; cases h) fun K hK=>lv E okW (qal rfl) fun a E=>wn_ hK<|qiv (by intro c h; cases h) fun K hK=>lv E okW (qal rfl) fun a E=>wn_ hK<|qtw E rfl rfl hy rfl rfl ?_
  rintro e w3 (⟨rfl,hJ3,hK3⟩ | ⟨rfl,hJ3⟩)
  ·refine ⟨_,rfl,fun a E=>?_⟩
   have ok3:=hK3 okW
   refine qiv (by intro c h; cases h) fun K hK=>lv E ok3 (qaU rfl) fun a E=>wn_ hK<|qiv (by intro c h; cases h) fun K hK=>lv E ok3 (qcg rfl rfl) fun a E=>wn_ hK<|wpListIn_nil (qaa ?_)
   refine c_if E rfl (fun h=>by cases h) (fun _=>?_)
   refine wp_skip<|qaq<|qaa<|qab<|lv E ok3 (qbr rfl rfl) fun a E=>lv E ok3 (qal rfl) fun a E=>wpList_nil (.inl ⟨rfl,6 - (k + 1),by omega,k + 1,acc ++ [x],rfl,by omega,?_,ok3,hJ3,?_,by simp; omega⟩)
   ·have hw:IntKind.wrap .i64 ((k:Int) + 1) = ((k + 1:Nat):Int):=by rw [qdK (qdn.2 ⟨by omega,by omega⟩)]; omega
    rw [hw] at E
    exact E.keep [8,7,1,0]
   ·rw [List.map_append,List.map_cons,List.map_nil,hx]; exact hpc
  ·refine ⟨_,rfl,fun a E=>?_⟩
   have okT:(fun _:World=>True) w3:=trivial
   refine qiv (by intro c h; cases h) fun K hK=>lw E (qaU rfl) fun a E=>wn_ hK<|qiv (by intro c h; cases h) fun K hK=>lw E (qcg rfl rfl) fun a E=>wn_ hK<|wpListIn_nil (qaa ?_)
   refine c_if E rfl (fun _=>?_) (fun h=>by cases h)
   refine wp_ret<|qat<|qai<|.inr ⟨by nofun,?_⟩
   refine qat ?_
   exact qaZ (R:=fun e W'=>(∃ v,e = Ending.returned v) ∧ ((∃ xs:List Bs1,xs.map (·.1) = r ∧ J xs W') ∨ (∃ pre,True ∧ Jx pre W'))) (fn:=Tryz.f67) (P:=Tryz.prog) [] E.d rfl trivial ⟨⟨_,rfl⟩,.inr ⟨_,trivial,hJ3⟩⟩
structure Apx (u:World) (m:Mem) (Tb:List (Nat × Obj)) (S:Segs) (Bs:Nat) (pre:List Bs1) (W:World):Prop where
 ex:∃ (v:Value) (M:List (Nat × Obj)),Ok u m ([(Bs,oc 32 [v])] :: M :: Tb :: S) W ∧ ORow 9 1 pS m v (pre.map (·.1)) M
theorem qpz {u:World} {m0:Mem} {S:Segs} {Tb:List (Nat × Obj)} {w:World} {gf NN:Nat} {lb:Array Value} {r:List (List UInt8)} (hN:NN ≤ 1000000) (eg:∀ args w,(callFunc gf args).run Tryz.prog w = .ok (.enter gf args) w)
  (hT:∀ p ∈ Tb,p.2.isCells = true) (hseq:SeqStopsK Fence.wide 2 Tryz.prog gf lb (fun x:Bs1=>#[vs x.1]) (KpO u m0 [Tb]) (fun ys=>ys.map (·.1) = r) (fun _=>True) NN w) (ok:Ok u m0 (Tb :: S) w) :
  Calls Tryz.prog 66 [.slice none 0 0,.func (.func gf) #[] lb].toArray w fun e w'=>∃ v M,e = .returned v ∧ Ok u m0 (M :: Tb :: S) w' ∧ ORow 9 1 pS m0 v r M:=by
 refine qt8 Tryz.func66 rfl rfl rfl fun a E=>?_
 have hTS:∀ p ∈ (Tb :: S).flatten,p.1 < w.heap.size:=fun p hp=>(Array.getElem?_eq_some_iff.1 (ok.own p hp).1).1
 have hmlt:∀ b o,m0 b = some o → b < w.heap.size:=fun b o h=>ok.m_lt h
 refine sg<|qcp E (Ok.start w) rfl rfl rfl fun Bs a w1 E okB=>?_
 have bel:=okB.below
 have ok1:Ok u m0 ([(Bs,oc 32 [(Value.slice none 0 0)])] :: [] :: Tb :: S) w1:=ok.addnil.plus okB
 have hBs:w.heap.size ≤ Bs:=by
  have:=(okB.own (Bs,_) (List.mem_flatten.2 ⟨_,List.mem_cons_self ..,List.mem_cons_self ..⟩)).2
  exact Nat.le_of_not_lt fun hlt=>by
   simp only at this
   unfold hm at this
   rw [Array.getElem?_eq_getElem hlt] at this
   cases this
 have hBlt:Bs < w1.heap.size:=(Array.getElem?_eq_some_iff.1 (ok1.own (Bs,_) (List.mem_flatten.2 ⟨_,List.mem_cons_self ..,List.mem_cons_self ..⟩)).1).1
 refine lv E ok1 (qax rfl) fun a E=>wn<|wp_seq<|sg<|lv E ok1 (qal rfl) fun a E=>wn<|wp_block ?_
 have hsz:=bel.size
 have hokg:∀ {v:Value} {xs:List (List UInt8)} {M:List (Nat × Obj)} {X Y:World} {row:Option Nat},Ok u m0 ([(Bs,oc 32 [v])] :: M :: Tb :: S) X → ORow 9 1 pS m0 v xs M → X.grownBy Y row → (∀ r,row = some r → w1.heap.size ≤ r ∧ ∃ o:Obj,X.heap[r]? = some o ∧ o.isCells = false) → Ok u m0 ([(Bs,oc 32 [v])] :: M :: Tb :: S) Y:=fun h1 h2 hg hr=>by
  refine h1.grownC (B:=w1.heap.size) hg hr (fun b o h=>by have:=hmlt b o h; omega) (fun p hp=>?_)
  simp only [List.flatten_cons,List.mem_append] at hp
  rcases hp with hp | hp | hp
  ·right; obtain rfl:=List.mem_singleton.1 hp; rfl
  ·right; exact h2.isCells p hp
  ·left; have:=hTS p (by simp only [List.flatten_cons,List.mem_append]; exact hp); omega
 have hgrow:∀ {pre:List Bs1} {X Y:World} {row:Option Nat},Apx u m0 Tb S Bs pre X → X.grownBy Y row → (∀ r,row = some r → w1.heap.size ≤ r ∧ ∃ o:Obj,X.heap[r]? = some o ∧ o.isCells = false) → Apx u m0 Tb S Bs pre Y:=fun hX hg hr=>by
  obtain ⟨v,M,h1,h2⟩:=hX.ex
  exact ⟨v,M,hokg h1 h2 hg hr,h2⟩
 have E0:Env 13 a [(6,.func (.func gf) #[] lb),(2,.pointer (some ⟨Bs,0,none⟩))]:=E.keep [6,2]
 refine (wpIn_wide (n:=3)).1 (wpIn_rangeFunc_ownH (n:=3) (α:=Bs1) (gf:=gf) (lb:=lb) (N:=NN) (w0:=w) (encs:=fun x:Bs1=>#[vs x.1]) (Kp:=KpO u m0 [Tb]) rfl (by decide) (E0.ev rfl) trivial eg
  hseq
  (fun h k o=>k (h o)) (fun W l o o' hl h1 h2 h3 hok=>?_) bel (fun _=>rfl)
  (fun pre W=>Apx u m0 Tb S Bs pre W)
  (fun c pre W=>False)
  (fun pre X Y row h hg hr=>hgrow h hg hr)
  (fun c pre X Y row h hg hr=>h)
  ⟨_,_,ok1,ORow.nil⟩
  (fun x a' _=>Env 13 a' [(5,vs x.1),(2,vp Bs)])
  (fun _ _ _ _ _ _ h _ _=>h) ?_ ?_ ?_ ?_)
 ·-- the loop's record is none of the iterator's cells
  refine hok.grownC (B:=w1.heap.size) (grownBy_putObj' W l o') (fun r e=>by cases e; exact ⟨hl,o,h1,h2⟩) (fun b o h=>by have:=hmlt b o h; omega) (fun p hp=>.inl ?_)
  have:=hTS p (by simp only [List.flatten_cons,List.flatten_nil,List.append_nil] at hp; simp only [List.flatten_cons,List.mem_append]; exact .inl hp)
  omega
 ·-- the loop's variable
  intro l pre x W K hI hK
  obtain ⟨v,M,okW,hrow⟩:=hI.ex
  have E1:=E0.put 7 (vs x.1) rfl
  replace E1:=qqq E1 (t:=((#[7]:Array Nat).zip #[vs x.1]).foldl (fun t (p:Nat × Value)=>t.setIfInBounds p.1 p.2) a.tmps) (by simp [Act.put])
  refine qpw<|qqD E1 okW (qax rfl) (by intro c h; cases h) rfl rfl fun a1 E1=>wpListIn_nil<|qaa ?_
  exact hK _ _ (KeepsFrom.refl _ _) (fun h=>h) hI (E1.keep [5,2])
 ·-- a round
  intro l pre x a' W hl hrec hI hAx hlen
  obtain ⟨v,M,okW,hrow⟩:=hI.ex
  have hx:x.1.length ≤ LIMS:=by have:=x.2; unfold LIMS; omega
  have hcells:∀ p ∈ ([(Bs,oc 32 [v])] :: M :: Tb :: []).flatten,p.2.isCells = true:=fun p hp=>by
   simp only [List.flatten_cons,List.flatten_nil,List.append_nil,List.mem_append] at hp
   rcases hp with hp | hp | hp
   ·obtain rfl:=List.mem_singleton.1 hp; rfl
   ·exact hrow.isCells p hp
   ·exact hT p hp
  have okA:Ok u m0 ([(Bs,oc 32 [v])] :: M :: Tb :: []) W:=Ok.init (A:=[(Bs,oc 32 [v])] :: M :: Tb :: []) okW
  have okF:=okA.full
  have hrF:ORow 9 1 pS (hmx W ([(Bs,oc 32 [v])] :: M :: Tb :: [])) v (pre.map (·.1)) M:=hrow
  refine wpIn_block<|qpw<|qqD hAx okF (qas qpW rfl (qac.own 0 rfl rfl)) (by intro c h; cases h) rfl rfl fun a' E=>qqD E okF (qal rfl) (by intro c h; cases h) rfl rfl fun a' E=>qrd (by intro c h; cases h) fun K hK=>qcT (R:=pS) (xo:=[.tmp 9]) (xs:=[x.1]) E okF qhT qje rfl ⟨⟨_,rfl,rfl,⟨rfl,hx⟩⟩,trivial⟩ rfl rfl rfl rfl fun v1 M1 a' W1 E ok1 hrow1=>rn hK ?_
  have hz:app (pre.map (·.1)) [x.1] = some (pre.map (·.1) ++ [x.1]):=by unfold app LIM; rw [if_pos (by simp; omega)]
  refine qrd (by intro c h; cases h) fun K hK=>qgK E ok1 2 mS qhT Tryz.underlying32 rfl hrF (qcK.ofRow hrow1 0 rfl ok1) hz ⟨_,qje,rfl⟩ rfl rfl rfl rfl fun v2 M2 a' W2 E ok2 hrow2=>rn hK<|qss E ok2 1 rfl rfl rfl qti (by obtain ⟨⟨ad,cap,rfl⟩,_⟩:=hrow2.form; rfl) hrow2.one rfl rfl fun ok3=>wpListIn_nil<|qaq ?_
  replace ok3:Ok u (hmx W ([(Bs,oc 32 [v])] :: M :: Tb :: [])) (M1 :: [(Bs,oc 32 [v2])] :: M2 :: Tb :: []) _:=ok3
  obtain ⟨q,hq⟩:=hrow1.block (by simp)
  have hfr:W.heap.size ≤ q.1:=ok1.freshX (List.mem_flatten.2 ⟨_,List.mem_cons_self ..,hq⟩) (fun p hp e=>by
   have:=ok1.nd
   rw [List.flatten_cons,List.pairwise_append] at this
   exact this.2.2 q hq p hp e.symm)
  have hfin:Ok u m0 ([(Bs,oc 32 [v2])] :: M2 :: Tb :: S) _:=Ok.rejoin (A:=[(Bs,oc 32 [v])] :: M :: Tb :: []) (A':=[(Bs,oc 32 [v2])] :: M2 :: Tb :: []) okW ok3.drop
  refine ⟨okA.keepsFrom _ hcells ok3 (List.mem_flatten.2 ⟨_,List.mem_cons_self ..,hq⟩) hfr,fun _=>Ok.init (A:=[Tb]) hfin.drop.drop,⟨v2,M2,hfin,?_⟩⟩
  rw [List.map_append]
  exact hrow2
 ·-- all rounds are over
  rintro D xs W hD hxs hA hDef
  have hda:=E0.d
  obtain ⟨v,M,okW,hrow⟩:=hA.ex
  refine qaq<|qaa<|sg<|qsx E0 okW (qas qpW rfl (qac.own 0 rfl rfl)) rfl rfl fun a' E=>qsx E okW (qax rfl) rfl rfl fun a' E=>wn<|wp_ret ?_
  have ok3:=hokg okW hrow (grownBy_putObj' _ D _) (fun r e=>by cases e; exact ⟨hD,_,hDef,rfl⟩) (Y:=W.putObj D (.deferred none))
  have hbp:bodyPost Tryz.prog Tryz.f66 (fun e w'=>∃ v M,e = .returned v ∧ Ok u m0 (M :: Tb :: S) w' ∧ ORow 9 1 pS m0 v r M) .ret a' (W.putObj D (.deferred none)):=qaZ [.t 4 v] E.d rfl (rz E rfl) ⟨v,M,rfl,ok3.drop,by rw [← hxs]; exact hrow⟩
  have hh:=quF (F:=Fence.wide) (n:=3) E.d hDef hbp
  rw [E.d] at hh
  rw [hda]
  exact hh
 ·rintro D c pre W hD _ hF
  exact hF.elim
theorem qmA {b:Nat} {v:Value} {l:List Rule} (N:Nat) (hl:(pL 2 qdV) m0 [v] l) {r:List (List UInt8)} (hF:qf5 N l = some r) (hG:Glob u) (hTb:Tab u) (ok:Ok u m0 ([(b,oc 22 [v])] :: S) w) :
  Calls Tryz.prog 43 [.func (.func 67) #[] #[.pointer (some ⟨b,0,none⟩)]].toArray w fun e w'=>∃ m1 c,e = .returned c ∧ m0.le m1 ∧ Ok u m1 ([(b,oc 22 [v])] :: S) w' ∧ (pL 1 pS) m1 [c] r:=by
 have okT:Ok u m0 [[(b,oc 22 [v])]] w:=Ok.init (A:=[[(b,oc 22 [v])]]) ok
 refine enter Tryz.func43 rfl rfl rfl fun a E=>sg<|aw E rfl fun a E=>sg<|mv E rfl fun a E=>qaf E quH rfl (qpz (NN:=6) (by decide) (fun args w=>rfl) (fun p hp=>by obtain rfl:=List.mem_singleton.1 hp; rfl) (qq1 hl hF hG hTb okT) ok) rfl rfl ?_
 rintro _ w ⟨c,M,rfl,ok,hrow⟩
 refine ⟨_,rfl,fun a E=>?_⟩
 refine aw E rfl fun a E=>wp_ret ?_
 obtain ⟨m1,hle,ok,hfz⟩:=ok.freeze
 exact qaZ [.t 2 c] E.d rfl (rz E rfl) ⟨m1,c,rfl,hle,ok,hrow.froz mS hle hfz (by decide)⟩
def qmr (u:World) (m0:Mem) (S:Segs) (r:(List (List UInt8)) × Int) (a:Act) (w:World):Prop :=
 ∃ m1 v0,m0.le m1 ∧ Ok u m1 S w ∧ a.defers = [] ∧ RVs Tryz.prog a w [.t 2 v0,.t 3 (.int .i64 r.2)] ∧ (pL 1 pS) m1 [v0] r.1 ∧ InR .i64 r.2
theorem qmu (N:Nat) (vl_0:Value) (l_0:List (Rule)) (hl_0:(pL 2 qdV) m0 [vl_0] l_0) {r:(List (List UInt8)) × Int} (hF:qc2 N l_0 = some r) (hG:Glob u) (hTb:Tab u) (ok:Ok u m0 S w) :
  Calls Tryz.prog 19 [vl_0].toArray w fun e w'=>∃ m1 v0,e = .returned (.tuple [v0,(.int .i64 r.2)].toArray) ∧ m0.le m1 ∧ Ok u m1 S w' ∧ (pL 1 pS) m1 [v0] r.1 ∧ InR .i64 r.2:=by
 have le_m0:=Mem.le.refl m0
 unfold qc2 at hF
 refine en (qmr u m0 S) r Tryz.func19 rfl rfl rfl (by rintro a w ⟨m1,v0,hle,ok,hd,hrv,h0,h1⟩; exact qaZ [.t 2 v0,.t 3 (.int .i64 r.2)] hd rfl hrv ⟨m1,v0,rfl,hle,ok,h0,h1⟩) fun fin a E=>sg<|av E rfl fun a E=>aw E rfl fun a E=>wp_seq<|sg<|mv E rfl fun a E=>bd hF fun r1 e2 hF=>lc E qsO rfl (qjX N _ l_0 hl_0 e2 hG ok) fun w ok a E=>lw E (qaU rfl) fun a E=>wn<|cf E rfl hF (fun c3 hF=>?_) fun c3 hF=>?_
 ·refine sg<|av E rfl fun a E=>aw E rfl fun a E=>wp_ret<|qai ?_
  exact fin hF ⟨m0,(.slice none 0 0),le_m0,ok,E.d,⟨rv_t E rfl,rv_t E rfl,trivial⟩,qmY,(ir 1)⟩
 refine wp_skip<|qaa<|wp_seq<|sg<|mv E rfl fun a E=>bd hF fun r4 e5 hF=>qaf E qvm rfl (qnQ N _ l_0 hl_0 e5 hG hTb ok) rfl rfl ?_
 rintro _ w ⟨⟨rfl,ok⟩,r6⟩
 refine ⟨_,rfl,fun a E=>?_⟩
 refine aw E rfl fun a E=>sg<|mv E rfl fun a E=>lw E (qa1 rfl rfl) fun a E=>wn<|cf E rfl hF (fun c7 hF=>?_) fun c7 hF=>?_
 ·refine sg<|mv E rfl fun a E=>av E rfl fun a E=>aw E rfl fun a E=>wp_ret<|qai ?_
  exact fin hF ⟨m0,(.slice none 0 0),le_m0,ok,E.d,⟨rv_t E rfl,rv_t E rfl,trivial⟩,qmY,r6⟩
 refine wp_skip<|qaa<|sg<|mv E rfl fun a E=>qaf E qvh rfl (qlj (qdY hl_0) ok) rfl rfl ?_
 rintro _ w ⟨b8,rfl,ok⟩
 refine ⟨_,rfl,fun a E=>?_⟩
 refine bd hF fun r9 e10 hF=>qaf E quY rfl (qmA N hl_0 e10 hG hTb ok) rfl rfl ?_
 rintro _ w ⟨m11,c12,rfl,hle,ok,h13⟩
 have le_m0:=le_m0.trans hle
 have hl_0:=(mL qiT).up hle hl_0
 refine ⟨_,rfl,fun a E=>?_⟩
 refine av E rfl fun a E=>aw E rfl fun a E=>wp_ret ?_
 exact fin hF ⟨m11,c12,le_m0,ok.drop,E.d,⟨rv_t E rfl,rv_t E rfl,trivial⟩,h13,(ir 0)⟩
end Go.Proofs.YtboacfcnmhnbdaaGreatDoor
namespace Go.Proofs.YtboacfcnmhnbdaaGreatDoor
open Go.X
variable {u:World} {m0:Mem} {S:Segs} {w:World}
set_option maxHeartbeats 4000000
set_option maxRecDepth 100000
theorem qvq:goB Tryz.prog 10 = true:=by kernel_rfl
theorem quX:goB Tryz.prog 19 = true:=by kernel_rfl
theorem go_9:goB Tryz.prog 9 = true:=by kernel_rfl
def qiV (u:World) (m0:Mem) (S:Segs) (r:Bool) (a:Act) (w:World):Prop :=
 Ok u m0 S w ∧ a.defers = [] ∧ RVs Tryz.prog a w [.t 4 (.bool r)]
theorem qiS (N:Nat) (vl_0:Value) (l_0:List (Rule)) (hl_0:(pL 2 qdV) m0 [vl_0] l_0) (number_1:List UInt8) (lnumber_1:number_1.length ≤ LIMS) {r:Bool} (hF:qbV N l_0 number_1 = some r) (hG:Glob u) (hTb:Tab u) (ok:Ok u m0 S w) :
  Calls Tryz.prog 7 [vl_0,Value.string (bs number_1)].toArray w fun e w'=>(e = .returned (.bool r) ∧ Ok u m0 S w'):=by
 have hb0:=ok.base
 have le_m0:=Mem.le.refl m0
 unfold qbV at hF
 refine en (qiV u m0 S) r Tryz.func7 rfl rfl rfl (fun _ _ h=>ra h rfl) fun fin a E=>sg<|aw E rfl fun a E=>wp_seq<|sg<|bd hF fun r1 e2 hF=>lc E go_9 rfl (qgF N  e2 hG ok) fun w ok a E=>lw E (qaU rfl) fun a E=>mv E rfl fun a E=>bu E 15 hF (fun c3 hF E=>?_) fun c3 hF E=>?_
 ·refine lsq E fun a E=>ls E fun a E=>pt E rfl rfl fun a E=>wn<|c_if E rfl (fun _=>?_) (fun h=>by cases h)
  refine sg<|bd hF fun r4 e5 hF=>lc E go_9 rfl (qgF N  e5 hG ok) fun w ok a E=>aw E rfl fun a E=>wp_ret<|qai ?_
  exact fin hF ⟨ok,E.d,rz E rfl⟩
 refine mv E rfl fun a E=>bd hF fun r6 e7 hF=>lc E qvq rfl (ql8 N _ l_0 hl_0 e7 hG ok) fun w ok a E=>lw E (qaU rfl) fun a E=>pf E rfl rfl fun a E=>wn<|cf E rfl hF (fun c8 hF=>?_) fun c8 hF=>?_
 ·refine sg<|bd hF fun r9 e10 hF=>lc E go_9 rfl (qgF N  e10 hG ok) fun w ok a E=>aw E rfl fun a E=>wp_ret<|qai ?_
  exact fin hF ⟨ok,E.d,rz E rfl⟩
 refine wp_skip<|qaa<|wp_seq<|sg<|mv E rfl fun a E=>bd hF fun r11 e12 hF=>qaf E quX rfl (qmu N _ l_0 hl_0 e12 hG hTb ok) rfl rfl ?_
 rintro _ w ⟨m13,c14,rfl,hle,ok,h15,r16⟩
 have le_m0:=le_m0.trans hle
 have hl_0:=(mL qiT).up hle hl_0
 refine ⟨_,rfl,fun a E=>?_⟩
 refine mv E rfl fun a E=>lw E (qak rfl rfl) fun a E=>lw E (qak rfl rfl) fun a E=>av E rfl fun a E=>aw E rfl fun a E=>sg<|mv E rfl fun a E=>lw E (qa1 rfl rfl) fun a E=>wn<|cf E rfl hF (fun c17 hF=>?_) fun c17 hF=>?_
 ·refine sg<|aw E rfl fun a E=>wp_ret<|qai ?_
  exact fin hF ⟨(ok).down hb0 le_m0,E.d,rz E rfl⟩
 refine wp_skip<|qaa<|sg<|aw E rfl fun a E=>wp_seq<|sg<|mv E rfl fun a E=>lv E ok (qaz qdQ hl_0 rfl) fun a E=>mv E rfl fun a E=>wn<|wp_block ?_
 obtain ⟨M23,ok,h24⟩:=qfv (e:=44) (k:=2) (R:=qdV) ok
 refine bd hF fun o25 hL hF=>qaE _ (fun (s:(List (Rule)) × Int) a w=>∃ c26 M27,Ok u m13 (M27 :: S) w ∧ Env 65 a [(0,vl_0),(1,vs number_1),(7,c26),(29,(vi (l_0.length:Int))),(30,vi s.2)] ∧ ORow 44 2 qdV m13 c26 s.1 M27 ∧ InR .i64 s.2) (fun (b:((List (Rule)))) e a w=>e = (.exit 0) ∧ ∃ c74 M75,Ok u m13 (M75 :: S) w ∧ Env 65 a [(0,vl_0),(1,vs number_1),(7,c74)] ∧ ORow 44 2 qdV m13 c74 b M75) ?_ ?_ N _ a w hL ⟨(Value.slice none 0 0),M23,ok,E.keep [0,1,7,29,30],h24,(ir 0)⟩
 ·rintro ⟨v30,v31⟩ a w r ⟨c32,M33,ok,E,h34,r35⟩ hF
  replace hF:qaY N l_0 v30 v31 = some r:=hF
  unfold qaY at hF
  refine sg<|lw E (qaG rfl rfl) fun a E=>wn<|wp_seq<|cg E rfl hF (fun c36 hF=>?_) fun c36 hF=>?_
  ·refine wp_exit<|qay ?_
   cases hF
   exact so (⟨rfl,⟨c32,M33,ok,E.keep [0,1,7],h34⟩⟩)
  refine wp_skip<|qaa<|wp_seq<|wp_block<|sg<|mv E rfl fun a E=>av E rfl fun a E=>wn<|qab<|mz E rfl rfl fun a E=>mv E rfl fun a E=>lv E ok (qaz qdQ hl_0 rfl) fun a E=>lw E (qqU rfl rfl) fun a E=>mv E rfl fun a E=>lw E (qqU rfl rfl) fun a E=>?_
  obtain ⟨x37,e38,hF⟩:=bnd hF
  obtain ⟨b39,o40,es41,hl42,rr43,at44,yy45⟩:=ia E 34 39 qdQ hl_0 e38
  obtain ⟨c47,rfl,l46,h48⟩:=rr43
  refine lv E ok (yy45 _ _) fun a E=>lv E ok (qaj (cs:=[vs x37.Class,c47]) qjl rfl rfl (qac.ro at44)) fun a E=>qcT (R:=qdV) (xo:=[.tmp 41]) (xs:=([x37]:List (Rule))) E ok qdQ qgz rfl ⟨⟨_,rfl,rfl,⟨_,rfl,l46,h48⟩⟩,trivial⟩ rfl rfl rfl rfl fun c49 M50 a w E ok h51=>bd hF fun l52 e53 hF=>qgK (R:=qdV) E ok 1 qiT qdQ Tryz.underlying22 rfl h34 (qcK.ofRow h51 0 rfl ok) e53 ⟨_,qgz,rfl⟩ rfl rfl rfl rfl fun c54 M55 a w E ok h56=>av E rfl fun a E=>wpList_nil<|qaq<|qaa<|qab<|lw E (qaA rfl rfl (InR.inc r35 (qan hl_0) c36)) fun a E=>mv E rfl fun a E=>wpList_nil ?_
  cases hF
  exact qaw ⟨c54,M55,(ok.pk 2 [1] rfl (by decide)),E.keep [0,1,7,29,30],h56,(InR.inc r35 (qan hl_0) c36)⟩
 intro e a w _ hO
 obtain ⟨rfl,c57,M58,ok,E,h59⟩:=hO
 refine qaK<|qaa<|sg<|mz E rfl rfl fun a E=>bd hF fun r60 e61 hF=>qaf E qoF rfl (qhi N _ l_0 hl_0 number_1 lnumber_1 e61 hG ok) rfl rfl ?_
 rintro _ w ⟨⟨rfl,ok⟩,l62,r63⟩
 refine ⟨_,rfl,fun a E=>?_⟩
 refine mv E rfl fun a E=>lw E (qak rfl rfl) fun a E=>lw E (qak rfl rfl) fun a E=>av E rfl fun a E=>aw E rfl fun a E=>sg<|mz E rfl rfl fun a E=>?_
 obtain ⟨r69,e70,hF⟩:=bnd hF
 obtain ⟨m64,hle66,ok65,hfz67⟩:=(ok.frs 0 rfl).freeze
 have h68:=ORow.froz qiT h59 hle66 hfz67 (by decide)
 refine qaf E qoF rfl (qhi N _ o25 h68 number_1 lnumber_1 e70 hG ok65) rfl rfl ?_
 rintro _ w ⟨⟨rfl,okz⟩,l71,r72⟩
 replace ok:=(Ok.thawAt 0 rfl ok hle66 hfz67 okz)
 refine ⟨_,rfl,fun a E=>?_⟩
 refine mv E rfl fun a E=>lw E (qak rfl rfl) fun a E=>lw E (qak rfl rfl) fun a E=>av E rfl fun a E=>aw E rfl fun a E=>sg<|mz E rfl rfl fun a E=>lw E (qet rfl rfl) fun a E=>mv E rfl fun a E=>bu E 60 hF (fun c73 hF E=>?_) fun c73 hF E=>?_
 ·refine mz E rfl rfl fun a E=>lw E (qaH rfl rfl) fun a E=>pt E rfl rfl fun a E=>aw E rfl fun a E=>wp_ret ?_
  exact fin hF ⟨(ok.drop).down hb0 le_m0,E.d,rz E rfl⟩
 refine lsq E fun a E=>ls E fun a E=>pf E rfl rfl fun a E=>aw E rfl fun a E=>wp_ret ?_
 exact fin hF ⟨(ok.drop).down hb0 le_m0,E.d,rz E rfl⟩
end Go.Proofs.YtboacfcnmhnbdaaGreatDoor
namespace Go.X
variable {H:Type} {enc:TypeId × Value → H}
end Go.X
namespace Go.X
open Go.ChangeShapes Go.RowKit
def OpnS {α:Type} (P:Program) (t:TypeId) (R:Rp α) (Q:α → Prop):Prop :=
 ∀ {H:Type} {enc:TypeId × Value → H} {W:World} {base:Nat} {spare:Nat → Bool} {held:Bool} {fuel:Nat} {cs:List Value} {x:DataW H × List MemPlace},
  DataW.trod enc P W base spare held fuel t cs = some x → (∀ n ∈ x.1.weights P t,n ≤ reachBytes) → ∃ a:α,R (hm W) cs a ∧ Q a
section
variable {P:Program} {t:TypeId}
theorem qoG {k:IntKind} (ht:P.underlying t = some (.int k)):OpnS P t (pI k) (InR k):=fun h _=>by
 obtain ⟨a,ha⟩:=quT ht h
 exact ⟨a,ha,ha.2⟩
theorem quK (ht:P.underlying t = some .bool):OpnS P t pB (fun _=>True):=fun h _=>by
 obtain ⟨a,ha⟩:=qt2 ht h
 exact ⟨a,ha,trivial⟩
theorem qsF (ht:P.underlying t = some .string):OpnS P t pS (fun s=>s.length ≤ reachBytes):=fun h hz=>by
 obtain ⟨s,rfl,rfl,hs⟩:=DataW.trod_string ht h
 refine ⟨s.data.toList,⟨rfl,hs⟩,hz _ ?_⟩
 simp [DataW.weights]
theorem qkl {H:Type} {e:TypeId}:∀ {l:List (DataW H)} {d:DataW H},d ∈ l → ∀ n ∈ d.weights P e,n ∈ DataW.weightsAll P e l
 | d0 :: l,d,h,n,hn=>by
  simp only [DataW.weightsAll,List.mem_append]
  rcases List.mem_cons.1 h with rfl | h
  ·exact .inl hn
  ·exact .inr (qkl h n hn)
 | [],_,h,_,_=>by cases h
theorem qlW {α:Type} {e:TypeId} {n:Nat} {R:Rp α} {Q:α → Prop} (ht:P.underlying t = some (.slice e)) (hc:P.cellsOf e = n) (hn:0 < n) (hb:0 < P.bytesOf e) (he:OpnS P e R Q):OpnS P t (pL n R) (fun xs=>xs.length ≤ reachBytes ∧ ∀ y ∈ xs,Q y):=fun {H enc W base spare held fuel cs x} h hz=>by
 rcases Go.Deep.open_slice ht h with ⟨rfl,_⟩ | ⟨a,len,cap,m,fu,D,Pl,rfl,_,hl,hm',hm2,rfl,hel⟩
 ·exact ⟨[],⟨none,0,rfl,Nat.le_refl _,Nat.zero_le _,Nat.zero_le _,fun h=>absurd rfl h⟩,Nat.zero_le _,fun _ h=>by cases h⟩
 ·rw [hc] at hel
  have hlm:len ≤ m:=by rw [hm2]; split <;> omega
  have hlen:len ≤ reachBytes:=by
   have h1:=hz (((List.range len).map D).length + ((List.range (m - len)).map fun j=>D (len + j)).length |> (· * P.bytesOf e)) (by simp [DataW.weights,ht])
   simp only [List.length_map,List.length_range] at h1
   have h2:len * 1 ≤ (len + (m - len)) * P.bytesOf e:=Nat.mul_le_mul (by omega) hb
   omega
  have key:∀ i,i < len → ∃ y:α,(∃ es:List Value,es.length = n ∧ (∀ j v,es[j]? = some v → W.cell? (a.add (i * n + j)) = some v) ∧ R (hm W) es y) ∧ Q y:=by
   intro i hi
   obtain ⟨cs',h1,h2⟩:=hel i (by omega)
   obtain ⟨y,hy,hq⟩:=he h2 (fun k hk=>hz k (by
    simp only [DataW.weights,ht,List.mem_cons,List.mem_append]
    exact .inr (.inl (qkl (List.mem_map.2 ⟨i,List.mem_range.2 hi,rfl⟩) k hk))))
   obtain ⟨_,hlen,hcell⟩:=World.cells?_some h1
   refine ⟨y,⟨cs',hlen,fun j v hj=>?_,hy⟩,hq⟩
   have hjn:j < n:=by rw [← hlen]; exact (List.getElem?_eq_some_iff.1 hj).1
   have:=hcell j hjn
   rw [hj] at this
   rw [qsZ]
   exact this
  have pick:∃ f:Fin len → α,∀ i:Fin len,(∃ es:List Value,es.length = n ∧ (∀ j v,es[j]? = some v → W.cell? (a.add (i.1 * n + j)) = some v) ∧ R (hm W) es (f i)) ∧ Q (f i) :=
   ⟨fun i=>(key i.1 i.2).choose,fun i=>(key i.1 i.2).choose_spec⟩
  obtain ⟨f,hf⟩:=pick
  refine ⟨List.ofFn f,⟨some a,cap,by rw [List.length_ofFn],by rw [List.length_ofFn]; exact hl,hm',?_,fun h0=>?_⟩,by rw [List.length_ofFn]; exact hlen,fun y hy=>?_⟩
  ·rw [List.length_ofFn]; unfold maxLen at hm'; unfold LIMS; omega
  ·rw [List.length_ofFn] at h0
   obtain ⟨b,off,spot⟩:=a
   have hs:spot = none:=by
    obtain ⟨⟨es,e1,e2,_⟩,_⟩:=hf ⟨0,by omega⟩
    have hv:es[0]? = some (es[0]'(by omega)):=by simp
    have:=e2 0 _ hv
    simpa [Addr.add] using World.cell?_spot this
   subst hs
   refine ⟨b,off,rfl,fun i y hy=>?_⟩
   obtain ⟨hi,rfl⟩:=List.getElem?_eq_some_iff.1 hy
   have hi':i < len:=by simpa using hi
   obtain ⟨⟨es,e1,e2,e3⟩,_⟩:=hf ⟨i,hi'⟩
   refine ⟨es,e1,fun j v hj=>?_,by simpa using e3⟩
   have:=e2 j v hj
   refine qts ?_
   rw [qsi] at this
   rw [Nat.add_assoc]
   exact this
  ·obtain ⟨i,rfl⟩:=List.mem_ofFn.1 hy
   exact (hf i).2
theorem qmw {fs:Array Field} (ht:P.underlying t = some (.struct fs)) {H:Type} {enc:TypeId × Value → H} {W:World} {base:Nat} {spare:Nat → Bool} {held:Bool} {fuel:Nat} {cs:List Value} {x:DataW H × List MemPlace}
  (h:DataW.trod enc P W base spare held fuel t cs = some x) (hz:∀ n ∈ x.1.weights P t,n ≤ reachBytes) :
  cs.length = P.cellsOf t ∧ ∀ {α:Type} {R:Rp α} {Q:α → Prop} (i:Nat) (f:Field) (n:Nat),fs[i]? = some f → P.cellsOf f.type = n → OpnS P f.type R Q → ∃ a,R (hm W) ((cs.drop f.offset).take n) a ∧ Q a:=by
 obtain ⟨xs,n,_,hx,hl,hlen,hf⟩:=DataW.trod_struct ht h
 refine ⟨hl,fun {α R Q} i f n hi hn ho=>?_⟩
 have hi':i < xs.length:=by rw [hlen]; exact (Array.getElem?_eq_some_iff.1 hi).1
 have:=hf i f hi
 rw [List.getElem?_eq_getElem hi',hn] at this
 refine ho this fun k hk=>hz k ?_
 subst hx
 simp only [DataW.weights,ht]
 refine DataW.weights_mem_each (j:=i) (t:=f.type) (d:=xs[i].1) ?_ ?_ k hk
 ·simp [hi]
 ·simp [hi']
end
end Go.X
namespace Go.X
open Go.ChangeShapes Go.RowKit
section
variable {H:Type} {enc:TypeId × Value → H}
theorem qlq {a:Assume} {C:Checked} {os:Os} {f:FuncId} {fn:Func} {s:ChangeSpec} {conds:List PathCond} {apart fresh handsOn again:Bool} {X:World → Array Value → Prop}
  (hX:∀ (w w':World) (args:Array Value),w.heap = w'.heap → X w args → X w' args)
  (own:ownKnob C.prog.godebug = none) (started:os.Started) (noInit:C.prog.inits.idxOf? f = none) (hfn:C.prog.funcs[f]? = some fn)
  (witness:∃ (w:World) (tape:Tape) (i:Input),w.os = os ∧ (w.forCall tape i).Shaped C.prog ∧ i.vars = [] ∧ Input.okWide C.prog (w.forCall tape i) .any w.heap.size f i ∧
   ((s.pre enc C.prog fn conds apart (w.forCall tape i).memory i.args ∧ X (w.forCall tape i).memory i.args) ∧ sizedMet enc C.prog fn (OpenSpec.ofChange s) apart (w.forCall tape i).memory i.args) ∧ a.holds C.prog (lone (Frame.enter C.prog f i.args .normal) [] (w.forCall tape i)))
  (contract:∀ (W:World) (base:Nat) (args:Array Value) (ds gs:List (DataW H)) (before:List MemPlace),
   (∀ (j:Nat) t v,fn.params[j]? = some t → args[j]? = some v → Value.okWide C.prog W .any base t v) →
   DataW.Whole enc C.prog fn.params.toList s.vars apart W args.toList ds gs before → W.ShapedOpen C.prog →
   X W args → (DataW.weightsEach C.prog (fn.params.toList ++ s.plain.varTypes C.prog) (ds ++ gs)).all (· ≤ reachBytes) = true →
   Calls C.prog f args W fun e W'=>∃ v,e = .returned v ∧ s.post enc C.prog fn apart fresh handsOn again W args v W') :
  ReturnsInHanded a C os f .any (fun w args=>(s.pre enc C.prog fn conds apart w args ∧ X w args) ∧ sizedMet enc C.prog fn (OpenSpec.ofChange s) apart w args) (s.post enc C.prog fn apart fresh handsOn again):=by
 refine returnsInHanded_of_calls own started noInit witness ?_
 intro w tape i _ hsh _ hok hpre _
 obtain ⟨_,_,_,fn',hfn',_,_,_,_,hval⟩:=hok
 have e:fn' = fn:=Option.some.inj (hfn'.symm.trans hfn)
 subst e
 obtain ⟨⟨⟨ds,gs,before,hw,_⟩,hx⟩,hz⟩:=hpre
 have hw':=DataW.Whole.of_heap (w':=w.forCall tape i) (by rfl) hw
 refine (contract (w.forCall tape i) w.heap.size i.args ds gs before hval hw' hsh (hX _ _ _ (by rfl) hx) (hz.weights hw)).mono fun e W' ⟨v,he,hp⟩=>?_
 subst he
 exact ChangeSpec.post_blind hp
end
end Go.X
namespace Go.X
open Go.ChangeShapes Go.RowKit
end Go.X
namespace Go.Proofs.YtboacfcnmhnbdaaGreatDoor
open Go.ChangeShapes Go.WideShapes Go.ChangeAt Go.RowKit Go.X
theorem own:ownKnob Tryz.prog.godebug = none:=by kernel_rfl
theorem qqd:laidOutB Tryz.prog = true:=by kernel_rfl
theorem qrb {H:Type} {enc:TypeId × Value → H} {W:World} {base:Nat} {sp:Nat → Bool} {held:Bool} (b:Bool):DataW.Trod enc Tryz.prog W base sp held 4 (.bool b) (.lit (.bool b)) [] :=
 ⟨1,by simp [DataW.trod,Value.cells,Tryz.underlying4]⟩
theorem qs8 {W:World} (h:W.ShapedOpen Tryz.prog):Glob W:=cell_of_shapedOpen_int (g:=0) (t:=3) (zero:=#[.int .i64 0]) h (of_decide_eq_true (by kernel_rfl)) (by kernel_rfl) (by kernel_rfl) (by kernel_rfl) (by kernel_rfl) Tryz.underlying3
theorem ce3:Tryz.prog.cellsOf 3 = 1:=by kernel_rfl
theorem ce4:Tryz.prog.cellsOf 4 = 1:=by kernel_rfl
theorem ce9:Tryz.prog.cellsOf 9 = 1:=by kernel_rfl
theorem ce42:Tryz.prog.cellsOf 42 = 1:=by kernel_rfl
theorem ce44:Tryz.prog.cellsOf 44 = 2:=by kernel_rfl
theorem ce49:Tryz.prog.cellsOf 49 = 2:=by kernel_rfl
theorem ce50:Tryz.prog.cellsOf 50 = 1:=by kernel_rfl
theorem ce52:Tryz.prog.cellsOf 52 = 4:=by kernel_rfl
theorem ce53:Tryz.prog.cellsOf 53 = 1:=by kernel_rfl
theorem o_49:OpnS Tryz.prog 49 qd3 (fun x=>(InR .i64 x.From ∧ InR .i64 x.To)):=fun h hz=>by
 obtain ⟨hl,hf⟩:=qmw Tryz.underlying49 h hz
 obtain ⟨c0,c1,rfl⟩:=len2 (hl.trans ce49)
 obtain ⟨a0,h0,q0⟩:=hf 0 _ 1 rfl ce3 (qoG Tryz.underlying3)
 obtain ⟨a1,h1,q1⟩:=hf 1 _ 1 rfl ce3 (qoG Tryz.underlying3)
 have h0:(pI .i64) _ [c0] a0:=h0
 obtain ⟨rfl,g0⟩:=qm3 h0
 have h1:(pI .i64) _ [c1] a1:=h1
 obtain ⟨rfl,g1⟩:=qm3 h1
 exact ⟨⟨a0,a1⟩,⟨rfl,g0,g1⟩,⟨q0,q1⟩⟩
theorem o_52:OpnS Tryz.prog 52 qag (fun x=>(InR .i64 x.Operand ∧ InR .i64 x.Mod ∧ (x.Spans.length ≤ reachBytes ∧ ∀ y12 ∈ x.Spans,(InR .i64 y12.From ∧ InR .i64 y12.To)))):=fun h hz=>by
 obtain ⟨hl,hf⟩:=qmw Tryz.underlying52 h hz
 obtain ⟨c0,c1,c2,c3,rfl⟩:=len4 (hl.trans ce52)
 obtain ⟨a0,h0,q0⟩:=hf 0 _ 1 rfl ce3 (qoG Tryz.underlying3)
 obtain ⟨a1,h1,q1⟩:=hf 1 _ 1 rfl ce3 (qoG Tryz.underlying3)
 obtain ⟨a2,h2,q2⟩:=hf 2 _ 1 rfl ce4 (quK Tryz.underlying4)
 obtain ⟨a3,h3,q3⟩:=hf 3 _ 1 rfl ce50 (qlW Tryz.underlying50 ce49 (Nat.succ_pos _) (of_decide_eq_true (by kernel_rfl)) o_49)
 have h0:(pI .i64) _ [c0] a0:=h0
 obtain ⟨rfl,g0⟩:=qm3 h0
 have h1:(pI .i64) _ [c1] a1:=h1
 obtain ⟨rfl,g1⟩:=qm3 h1
 have h2:pB _ [c2] a2:=h2
 obtain rfl:=qrM h2
 have h3:(pL 2 qd3) _ [c3] a3:=h3
 exact ⟨⟨a0,a1,a2,a3⟩,⟨c3,rfl,g0,g1,h3⟩,⟨q0,q1,q3⟩⟩
theorem o_44:OpnS Tryz.prog 44 qdV (fun x=>(x.Class.length ≤ reachBytes ∧ (x.Cond.length ≤ reachBytes ∧ ∀ y9 ∈ x.Cond,(y9.length ≤ reachBytes ∧ ∀ y10 ∈ y9,(InR .i64 y10.Operand ∧ InR .i64 y10.Mod ∧ (y10.Spans.length ≤ reachBytes ∧ ∀ y11 ∈ y10.Spans,(InR .i64 y11.From ∧ InR .i64 y11.To))))))):=fun h hz=>by
 obtain ⟨hl,hf⟩:=qmw Tryz.underlying44 h hz
 obtain ⟨c0,c1,rfl⟩:=len2 (hl.trans ce44)
 obtain ⟨a0,h0,q0⟩:=hf 0 _ 1 rfl ce9 (qsF Tryz.underlying9)
 obtain ⟨a1,h1,q1⟩:=hf 1 _ 1 rfl ce42 (qlW Tryz.underlying42 ce53 (Nat.succ_pos _) (of_decide_eq_true (by kernel_rfl)) (qlW Tryz.underlying53 ce52 (Nat.succ_pos _) (of_decide_eq_true (by kernel_rfl)) o_52))
 have h0:pS _ [c0] a0:=h0
 obtain ⟨rfl,g0⟩:=qrD h0
 have h1:(pL 1 (pL 4 qag)) _ [c1] a1:=h1
 exact ⟨⟨a0,a1⟩,⟨c1,rfl,g0,h1⟩,⟨q0,q1⟩⟩
theorem qnp {W:World} (h:laidMetH Tryz.prog Rows.pluralOrderRow.laid W):Tab W:=by
 rw [MakeChecks.laidMetH_plain _ _ _ (by kernel_rfl)] at h
 exact Lib.tabIs_of_head (g:=5) (t:=209) (e:=159) (by kernel_rfl) (by kernel_rfl) Tryz.underlying209 (by kernel_rfl) (by kernel_rfl) (by kernel_rfl) (show laidMet Tryz.prog (("internal/strconv.uint64pow10",Lib.tabData .u64 Lib.pow10Tab) :: _) W from laidMet.tail (x:=_) (laidMet.tail (x:=_) h))
set_option maxRecDepth 100000 in
theorem qly (hp:∀ x0 x1,(x0.length ≤ reachBytes ∧ ∀ y5 ∈ x0,(y5.Class.length ≤ reachBytes ∧ (y5.Cond.length ≤ reachBytes ∧ ∀ y6 ∈ y5.Cond,(y6.length ≤ reachBytes ∧ ∀ y7 ∈ y6,(InR .i64 y7.Operand ∧ InR .i64 y7.Mod ∧ (y7.Spans.length ≤ reachBytes ∧ ∀ y8 ∈ y7.Spans,(InR .i64 y8.From ∧ InR .i64 y8.To))))))) → (x1.length ≤ reachBytes) → ∃ N,qbV N x0 x1 = some true) (os:Os) (started:os.Started) (H:Type) (enc:TypeId × Value → H) :
  ReturnsInHanded {} Tryz.checked os 7 .any (fun w args=>(Rows.pluralOrderSpec.pre enc Tryz.prog Tryz.f7 [] false w args ∧ laidMetH Tryz.prog Rows.pluralOrderRow.laid w) ∧ sizedMet enc Tryz.prog Tryz.f7 (OpenSpec.ofChange Rows.pluralOrderSpec) false w args)
   (Rows.pluralOrderSpec.post enc Tryz.prog Tryz.f7 false true false false):=by
 refine qlq (C:=Tryz.checked) (X:=fun w _=>laidMetH Tryz.prog Rows.pluralOrderRow.laid w) (fun _ _ _ hh h=>laidMetH.of_heap hh h) own started (by kernel_rfl) Tryz.func7
  (ChangeSpec.witness_shaped (enc:=enc) (C:=Tryz.checked) (os:=os) (X:=fun w _=>laidMetH Tryz.prog Rows.pluralOrderRow.laid w) false (World.laidAll Tryz.prog os Rows.pluralOrderRow.laid) #[.slice none 0 0,.string (bs [])] 8 (World.laidAll_os _ _ _)
   (World.shaped_of_ZipB (by kernel_rfl) (by kernel_rfl)) (by kernel_rfl) (by kernel_rfl) (by kernel_rfl)
   (by rw [MakeChecks.laidMetH_plain _ _ _ (by kernel_rfl)]; exact laidMet_laidAll _ (by kernel_rfl) (by kernel_rfl))) ?_
 intro W base args ds gs before hval0 hW hsh hX hz
 have hval:∀ (j:Nat) t v,Tryz.f7.params[j]? = some t → args[j]? = some v → Value.okWide Tryz.prog W .any base t v:=hval0
 have hW':=hW
 obtain ⟨p,q,hA0,hV,rfl,_,_⟩:=hW
 have hA:DataW.TrodAll enc Tryz.prog W 0 (fun _=>true) true Tryz.f7.params.toList args.toList ds p:=hA0
 rw [Tryz.params7] at hA hval
 obtain ⟨v0,v1,d0,d1,p0,p1,rfl,rfl,rfl,k0,k1⟩:=trodAll_two hA
 obtain ⟨rfl,rfl⟩:=trodVars_none hV
 obtain ⟨fu0,hf0⟩:=id k0
 have hz0:∀ n ∈ d0.weights Tryz.prog 22,n ≤ reachBytes:=fun n hn=>by
  have:=List.all_eq_true.1 hz n (DataW.weights_mem_each (j:=0) (t:=22) (d:=d0) (by rw [Tryz.params7]; rfl) rfl n hn)
  simpa using this
 obtain ⟨s0,u0,w0,rfl⟩:=okWide_slice Tryz.underlying22 (hval 0 22 v0 rfl rfl)
 obtain ⟨a0,r0,q0⟩:=(qlW Tryz.underlying22 ce44 (Nat.succ_pos _) (of_decide_eq_true (by kernel_rfl)) o_44) hf0 hz0
 obtain ⟨fu1,hf1⟩:=id k1
 have hz1:∀ n ∈ d1.weights Tryz.prog 9,n ≤ reachBytes:=fun n hn=>by
  have:=List.all_eq_true.1 hz n (DataW.weights_mem_each (j:=1) (t:=9) (d:=d1) (by rw [Tryz.params7]; rfl) rfl n hn)
  simpa using this
 obtain ⟨s1,rfl⟩:=okWide_string Tryz.underlying9 (hval 1 9 v1 rfl rfl)
 obtain ⟨a1,r1,q1⟩:=(qsF Tryz.underlying9) hf1 hz1
 obtain ⟨e1,l1⟩:=qrD (show pS (hm W) [.string s1] a1 from r1)
 clear hA0 hval0
 have hlt:∀ x ∈ p0 ++ p1,x.block < W.heap.size:=fun x hx=>by
  refine hW'.lt x ?_
  simpa using hx
 have hlt0:∀ x ∈ p0,x.block < W.heap.size:=fun x hx=>hlt x (by simp [hx])
 have hlt1:∀ x ∈ p1,x.block < W.heap.size:=fun x hx=>hlt x (by simp [hx])
 obtain ⟨N,hN⟩:=hp a0 a1 q0 q1
 have hw:=qiS N _ a0 r0 a1 l1 hN (qs8 hsh) (qnp hX) (Ok.start W)
 rw [← e1] at hw
 refine hw.mono fun e W' ⟨he,ok⟩=>?_
 subst he
 have hn:=ok.below
 have t0:=Below.trod qqd (by kernel_rfl) (of_decide_eq_true (by kernel_rfl)) k0 hn hlt0
 have t1:=Below.trod qqd (by kernel_rfl) (of_decide_eq_true (by kernel_rfl)) k1 hn hlt1
 refine ⟨_,rfl,_,_,_,[],p0 ++ p1,[],hW',?_,?_,rfl,hn.frame _,fun h=>by cases h⟩
 ·exact trodAll_mk1 (qrb true)
 ·exact trodAll_mk2 t0 t1
theorem ql3 (hp:∀ x0 x1,(x0.length ≤ reachBytes ∧ ∀ y5 ∈ x0,(y5.Class.length ≤ reachBytes ∧ (y5.Cond.length ≤ reachBytes ∧ ∀ y6 ∈ y5.Cond,(y6.length ≤ reachBytes ∧ ∀ y7 ∈ y6,(InR .i64 y7.Operand ∧ InR .i64 y7.Mod ∧ (y7.Spans.length ≤ reachBytes ∧ ∀ y8 ∈ y7.Spans,(InR .i64 y8.From ∧ InR .i64 y8.To))))))) → (x1.length ≤ reachBytes) → ∃ N,qbV N x0 x1 = some true):Rows.PluralOrderSaid :=
 OpenClaim.holds_of_wide 7 Tryz.f7 rfl rfl rfl rfl rfl rfl rfl ⟨rfl,rfl,rfl,rfl,rfl⟩ rfl rfl rfl rfl rfl (by kernel_rfl) Tryz.func7 (by kernel_rfl)
  (of_decide_eq_true (by kernel_rfl)) (by unfold Func.isWrapper; rw [if_neg (of_decide_eq_false (by kernel_rfl))]; exact ⟨rfl,rfl⟩)
  (fun os started H enc _=>qly hp os started H enc)
set_option maxRecDepth 100000 in
theorem qmK (hp:∀ x0 x1,(x0.length ≤ reachBytes ∧ ∀ y5 ∈ x0,(y5.Class.length ≤ reachBytes ∧ (y5.Cond.length ≤ reachBytes ∧ ∀ y6 ∈ y5.Cond,(y6.length ≤ reachBytes ∧ ∀ y7 ∈ y6,(InR .i64 y7.Operand ∧ InR .i64 y7.Mod ∧ (y7.Spans.length ≤ reachBytes ∧ ∀ y8 ∈ y7.Spans,(InR .i64 y8.From ∧ InR .i64 y8.To))))))) → (x1.length ≤ reachBytes) → ∃ N,qbV N x0 x1 = some true):Rows.PluralOrderCardSaid :=
 Claim7.holds_tied_plain_at .later [] [.data,.data,.data,.data,.sentinel,.sentinel,.pinned] true (true, "f3dc7e7594170dd07d8e33fa1e30112068d41a92c841e72d5f6ae9054a08b96e") true (ql3 hp) (fun _ h=>by cases h) (by kernel_rfl) (fun _ h=>by cases h) pluralOrder_row_tie rfl ⟨rfl,rfl⟩ (by kernel_rfl) rfl
  (fun f fn hf hfn=>by
   obtain rfl:f = 7:=Option.some.inj ((show Tryz.prog.funcNamed "calque/calquelaw14.PluralOrder" = some 7 by kernel_rfl).symm.trans hf) |>.symm
   obtain rfl:fn = Tryz.f7:=(Option.some.inj (Tryz.func7.symm.trans hfn)).symm
   exact ⟨by kernel_rfl,fun j t ht=>by
    rw [Tryz.params7] at ht
    have hm:t ∈ [22,9]:=by simpa using Array.mem_of_getElem? ht
    have hall:([22,9].all fun u=>!Tryz.prog.wantsStandIn u) = true:=by kernel_rfl
    exact (show Tryz.prog.wantsStandIn t = false by simpa using List.all_eq_true.1 hall t hm)⟩)
  (by kernel_rfl)
end Go.Proofs.YtboacfcnmhnbdaaGreatDoor
namespace Go.X
theorem qsg {σ β:Type} {body:σ → Option (σ ⊕ β)} {s:σ} {b:β} (h:body s = some (.inr b)) (N:Nat):iter body (N + 1) s = some b:=by rw [iter,h]
theorem qrP {σ β:Type} {body:σ → Option (σ ⊕ β)} {s s':σ} (h:body s = some (.inl s')) (N:Nat):iter body (N + 1) s = iter body N s':=by rw [iter,h]
def scan (p:List UInt8 → Bool):List UInt8 → Nat
 | []=>0
 | b :: l=>if p (b :: l) then 0 else scan p l + 1
theorem qkj (p:List UInt8 → Bool):∀ l,scan p l ≤ l.length
 | []=>Nat.le_refl _
 | b :: l=>by unfold scan; split; exact Nat.zero_le _; have:=qkj p l; simp only [List.length_cons]; omega
theorem qn6 {body:Int → Option (Int ⊕ Int)} (p:List UInt8 → Bool) (s:List UInt8) (h:∀ k:Nat,k ≤ s.length → body k = if k < s.length ∧ p (s.drop k) = false then some (.inl ((k:Int) + 1)) else some (.inr k)) :
  ∀ N,s.length < N → iter body N 0 = some (scan p s:Int):=by
 have key:∀ j k N,k + j = s.length → j < N → iter body N (k:Int) = some ((k + scan p (s.drop k):Nat):Int):=by
  intro j
  induction j with
  | zero =>
   intro k N hk hN
   obtain ⟨N,rfl⟩:∃ M,N = M + 1:=⟨N - 1,by omega⟩
   have e:s.drop k = []:=List.drop_eq_nil_of_le (by omega)
   rw [iter,h k (by omega),if_neg (by omega),e]
   rfl
  | succ j ih =>
   intro k N hk hN
   obtain ⟨N,rfl⟩:∃ M,N = M + 1:=⟨N - 1,by omega⟩
   have hlt:k < s.length:=by omega
   have e:s.drop k = s[k] :: s.drop (k + 1):=List.drop_eq_getElem_cons hlt
   rw [iter,h k (by omega)]
   by_cases hp:p (s.drop k) = false
   ·rw [if_pos ⟨hlt,hp⟩]
    simp only
    have:=ih (k + 1) N (by omega) (by omega)
    rw [show ((k:Int) + 1) = ((k + 1:Nat):Int) by omega,this,e]
    rw [e] at hp
    simp only [scan,hp]
    congr 1
    simp only [Bool.false_eq_true,if_false]
    omega
   ·rw [if_neg (fun x=>hp x.2)]
    have hp2:=eq_true_of_ne_false hp
    rw [e] at hp2
    show some (k:Int) = _
    rw [e,scan,if_pos hp2]
    rfl
 intro N hN
 have:=key s.length 0 N (by omega) hN
 simpa using this
theorem qoZ {body:Int → Option (Int ⊕ (Unit ⊕ Bool))} (p:UInt8 → Bool) (v:Bool) (s:List UInt8) (h1:∀ (k:Nat) c,s[k]? = some c → body k = if p c then some (.inl ((k:Int) + 1)) else some (.inr (.inr v))) (h2:body s.length = some (.inr (.inl ()))) :
  ∀ N,s.length < N → iter body N 0 = some (if s.all p then .inl () else .inr v):=by
 have key:∀ j k N,k + j = s.length → j < N → iter body N (k:Int) = some (if (s.drop k).all p then .inl () else .inr v):=by
  intro j
  induction j with
  | zero =>
   intro k N hk hN
   obtain ⟨N,rfl⟩:∃ M,N = M + 1:=⟨N - 1,by omega⟩
   have e:s.drop k = []:=List.drop_eq_nil_of_le (by omega)
   obtain rfl:k = s.length:=by omega
   simp only [iter,h2,e]
   rfl
  | succ j ih =>
   intro k N hk hN
   obtain ⟨N,rfl⟩:∃ M,N = M + 1:=⟨N - 1,by omega⟩
   have hlt:k < s.length:=by omega
   have e:s.drop k = s[k] :: s.drop (k + 1):=List.drop_eq_getElem_cons hlt
   rw [iter,h1 k _ (List.getElem?_eq_getElem hlt),e,List.all_cons]
   cases hp:p s[k] with
   | false=>simp
   | true =>
    simp only [if_true,Bool.true_and]
    rw [show ((k:Int) + 1) = ((k + 1:Nat):Int) by omega]
    exact ih (k + 1) N (by omega) (by omega)
 intro N hN
 have:=key s.length 0 N (by omega) hN
 simpa using this
theorem qpk {α:Type} {xs:List α} {a b:Nat} (h1:a ≤ b) (h2:b ≤ xs.length):slc xs (a:Int) (b:Int) = some ((xs.drop a).take (b - a)):=by
 unfold slc
 rw [if_pos (by omega)]
 congr 2
 omega
theorem qjn {α:Type} {xs:List α} {b:Nat} (h:b ≤ xs.length):slc xs 0 (b:Int) = some (xs.take b):=by
 have:=qpk (xs:=xs) (Nat.zero_le b) h
 simpa using this
theorem qml {α:Type} {xs:List α} {a:Nat} (h:a ≤ xs.length):slc xs (a:Int) (xs.length:Int) = some (xs.drop a):=by
 rw [qpk h (Nat.le_refl _),List.take_of_length_le (by simp)]
theorem qap {α:Type} {xs:List α} {k:Nat} {c:α} (h:xs[k]? = some c):idx xs (k:Int) = some c:=by
 unfold idx; rw [if_pos (by omega)]; simpa using h
theorem qb2 {a b:List UInt8} (h:a.length + b.length ≤ 1000000):cat a b = some (a ++ b):=by
 unfold cat; rw [if_pos (by unfold LIMS; omega)]
theorem qey {z:Int} (h1:-1000000 ≤ z) (h2:z ≤ 1000000):IntKind.wrap .i64 z = z:=qdK (qdn.2 ⟨by omega,by omega⟩)
theorem qs2 (l:List UInt8):(l == []) = decide (l = []):=by cases l <;> rfl
def fnd (sub:List UInt8) (s:List UInt8):Nat:=scan (fun l=>sub.isPrefixOf l) s
theorem qmy (sub:List UInt8) (b:UInt8) (l:List UInt8):fnd sub (b :: l) = if sub.isPrefixOf (b :: l) then 0 else fnd sub l + 1:=rfl
theorem qoc {sub:List UInt8} (h:sub ≠ []):∀ s,Lib.index s sub = if fnd sub s < s.length then (fnd sub s:Int) else -1
 | []=>by
  cases sub with
  | nil=>exact absurd rfl h
  | cons a t=>rfl
 | b :: l=>by
  have ih:=qoc h l
  rw [qmy]
  unfold Lib.index
  cases hp:sub.isPrefixOf (b :: l) with
  | true=>simp
  | false =>
   rw [ih]
   simp only [Bool.false_eq_true,if_false,List.length_cons]
   by_cases h1:fnd sub l < l.length
   ·rw [if_pos h1,if_pos (show fnd sub l + 1 < l.length + 1 by omega),if_neg (by rw [beq_iff_eq]; omega)]
    rfl
   ·rw [if_neg h1,if_neg (show ¬ fnd sub l + 1 < l.length + 1 by omega)]
    rfl
theorem qpX {sub s:List UInt8} (h:sub ≠ []):Lib.cut s sub = if fnd sub s < s.length then (s.take (fnd sub s),s.drop (fnd sub s + sub.length),true) else (s,[],false):=by
 unfold Lib.cut
 rw [qoc h]
 by_cases h1:fnd sub s < s.length
 ·simp only [if_pos h1]
  rw [if_pos (by omega)]
  simp
 ·simp only [if_neg h1]
  rw [if_neg (by decide)]
theorem qtP {a b:List UInt8} (h:a.length + b.length ≤ LIMS):cat a b = some (a ++ b):=by unfold cat; rw [if_pos h]
end Go.X
namespace Go.X
def run {σ α β:Type} (f:σ → α → σ ⊕ β) (fin:σ → β):σ → List α → β
 | s,[]=>fin s
 | s,x :: xs=>match f s x with
  | .inl s'=>run f fin s' xs
  | .inr b=>b
theorem qaC {σ τ α β:Type} {body:τ → Option (τ ⊕ β)} (mkS:σ → Int → τ) (xs:List α) (f:σ → α → σ ⊕ β) (fin:σ → β) (I:Nat → σ → Prop)
  (h1:∀ s (k:Nat) x,xs[k]? = some x → I k s → body (mkS s k) = some (match f s x with | .inl s'=>.inl (mkS s' ((k:Int) + 1)) | .inr b=>.inr b) ∧ ∀ s',f s x = .inl s' → I (k + 1) s')
  (h2:∀ s,I xs.length s → body (mkS s xs.length) = some (.inr (fin s))) :
  ∀ N s,xs.length < N → I 0 s → iter body N (mkS s 0) = some (run f fin s xs):=by
 have key:∀ j k N s,k + j = xs.length → j < N → I k s → iter body N (mkS s (k:Int)) = some (run f fin s (xs.drop k)):=by
  intro j
  induction j with
  | zero =>
   intro k N s hk hN hI
   obtain ⟨N,rfl⟩:∃ M,N = M + 1:=⟨N - 1,by omega⟩
   have e:xs.drop k = []:=List.drop_eq_nil_of_le (by omega)
   obtain rfl:k = xs.length:=by omega
   rw [iter,h2 s hI,e]; rfl
  | succ j ih =>
   intro k N s hk hN hI
   obtain ⟨N,rfl⟩:∃ M,N = M + 1:=⟨N - 1,by omega⟩
   have hlt:k < xs.length:=by omega
   have e:xs.drop k = xs[k] :: xs.drop (k + 1):=List.drop_eq_getElem_cons hlt
   obtain ⟨h3,h4⟩:=h1 s k _ (List.getElem?_eq_getElem hlt) hI
   rw [iter,h3,e]
   simp only [run]
   cases hf:f s xs[k] with
   | inl s' =>
    simp only
    rw [show ((k:Int) + 1) = ((k + 1:Nat):Int) by omega]
    exact ih (k + 1) N s' (by omega) (by omega) (h4 s' hf)
   | inr b=>rfl
 intro N s hN hI
 have:=key xs.length 0 N s (by omega) hN hI
 simpa using this
theorem qcr {σ τ α β:Type} {body:τ → Option (τ ⊕ β)} (mkS:σ → Int → τ) (xs:List α) (f:σ → α → σ ⊕ β) (fin:σ → β)
  (h1:∀ s (k:Nat) x,xs[k]? = some x → body (mkS s k) = some (match f s x with | .inl s'=>.inl (mkS s' ((k:Int) + 1)) | .inr b=>.inr b))
  (h2:∀ s,body (mkS s xs.length) = some (.inr (fin s))) (N:Nat) (s:σ) (hN:xs.length < N):iter body N (mkS s 0) = some (run f fin s xs) :=
 qaC mkS xs f fin (fun _ _=>True) (fun s k x hx _=>⟨h1 s k x hx,fun _ _=>trivial⟩) (fun s _=>h2 s) N s hN trivial
theorem qge {α:Type} {body:Int → Option (Int ⊕ (Unit ⊕ Int))} (xs:List α) (p:α → Bool)
  (h1:∀ (k:Nat) x,xs[k]? = some x → body k = some (if p x then .inr (.inr k) else .inl ((k:Int) + 1))) (h2:body xs.length = some (.inr (.inl ()))) (N:Nat) (hN:xs.length < N) :
  iter body N 0 = some (match xs.findIdx? p with | some k=>.inr (k:Int) | none=>.inl ()):=by
 have key:∀ j k N,k + j = xs.length → j < N → iter body N (k:Int) = some (match (xs.drop k).findIdx? p with | some i=>.inr ((k + i:Nat):Int) | none=>.inl ()):=by
  intro j
  induction j with
  | zero =>
   intro k N hk hN
   obtain ⟨N,rfl⟩:∃ M,N = M + 1:=⟨N - 1,by omega⟩
   have e:xs.drop k = []:=List.drop_eq_nil_of_le (by omega)
   obtain rfl:k = xs.length:=by omega
   rw [iter,h2,e]; rfl
  | succ j ih =>
   intro k N hk hN
   obtain ⟨N,rfl⟩:∃ M,N = M + 1:=⟨N - 1,by omega⟩
   have hlt:k < xs.length:=by omega
   have e:xs.drop k = xs[k] :: xs.drop (k + 1):=List.drop_eq_getElem_cons hlt
   rw [iter,h1 k _ (List.getElem?_eq_getElem hlt),e,List.findIdx?_cons]
   cases hp:p xs[k] with
   | true=>simp
   | false =>
    simp only [Bool.false_eq_true,if_false]
    rw [show ((k:Int) + 1) = ((k + 1:Nat):Int) by omega,ih (k + 1) N (by omega) (by omega)]
    cases (xs.drop (k + 1)).findIdx? p with
    | none=>rfl
    | some i=>simp only [Option.map_some]; congr 3; omega
 have:=key xs.length 0 N (by omega) hN
 simpa using this
theorem qgX {α:Type} (xs:List α) (p:α → Bool):((some (match xs.findIdx? p with | some k=>Sum.inr (k:Int) | none=>Sum.inl ()):Option (Unit ⊕ Int)).bind fun o=>Sum.elim (fun _=>some (-1)) (fun o=>some o) o) = some (match xs.findIdx? p with | some k=>(k:Int) | none=>-1):=by
 cases xs.findIdx? p <;> rfl
theorem qhD {α:Type} (xs:List α) (p:α → Bool):decide ((match xs.findIdx? p with | some k=>(k:Int) | none=>-1) ≥ 0) = xs.any p:=by
 cases h:xs.findIdx? p with
 | none =>
  have:xs.any p = false:=by
   rw [List.any_eq_false]; intro x hx
   have:=List.findIdx?_eq_none_iff.1 h x hx
   simp [this]
  rw [this]; rfl
 | some k =>
  have:xs.any p = true:=by
   obtain ⟨x,hx,hp⟩:=List.findIdx?_eq_some_iff_getElem.1 h
   exact List.any_eq_true.2 ⟨_,List.getElem_mem x,by first | exact hx | exact hp.1 | exact hp⟩
  rw [this]
  simp
theorem qqe {α:Type} (p:α → Bool):∀ xs:List α,run (σ:=Unit) (β:=Unit ⊕ Bool) (fun _ x=>if p x then .inl () else .inr (.inr false)) (fun _=>.inl ()) () xs = if xs.all p then .inl () else .inr false
 | []=>rfl
 | x :: xs=>by
  unfold run
  cases h:p x with
  | true=>simp only [if_true,qqe p xs,List.all_cons,h,Bool.true_and]
  | false=>simp [h]
theorem qiz {α:Type} {body:Int → Option (Int ⊕ (Unit ⊕ Bool))} (p:α → Bool) (xs:List α) (h1:∀ (k:Nat) x,xs[k]? = some x → body k = some (if p x then .inl ((k:Int) + 1) else .inr (.inr false))) (h2:body xs.length = some (.inr (.inl ()))) (N:Nat) (hN:xs.length < N) :
  iter body N 0 = some (if xs.all p then .inl () else .inr false):=by
 rw [← qqe p xs]
 refine qcr (σ:=Unit) (fun _ k=>k) xs _ _ (fun _ k x hx=>?_) (fun _=>h2) N () hN
 rw [h1 k x hx]
 cases p x <;> rfl
theorem qn9 {α:Type} {body:Int → Option (Int ⊕ (Unit ⊕ Bool))} (p:α → Bool) (xs:List α) (h1:∀ (k:Nat) x,xs[k]? = some x → body k = some (if p x then .inr (.inr true) else .inl ((k:Int) + 1))) (h2:body xs.length = some (.inr (.inl ()))) (N:Nat) (hN:xs.length < N) :
  iter body N 0 = some (if xs.any p then .inr true else .inl ()):=by
 have e:∀ xs:List α,run (σ:=Unit) (β:=Unit ⊕ Bool) (fun _ x=>if p x then .inr (.inr true) else .inl ()) (fun _=>.inl ()) () xs = if xs.any p then .inr true else .inl ():=by
  intro xs
  induction xs with
  | nil=>rfl
  | cons x xs ih =>
   unfold run
   cases h:p x with
   | true=>simp [h]
   | false=>simp only [Bool.false_eq_true,if_false,ih,List.any_cons,h,Bool.false_or]
 rw [← e xs]
 refine qcr (σ:=Unit) (fun _ k=>k) xs _ _ (fun _ k x hx=>?_) (fun _=>h2) N () hN
 rw [h1 k x hx]
 cases p x <;> rfl
theorem dlt {k n:Nat} (h:k < n):decide ((k:Int) < (n:Int)) = true:=decide_eq_true (by omega)
theorem dnlt {n:Nat}:decide ((n:Int) < (n:Int)) = false:=decide_eq_false (by omega)
theorem qbi {α:Type} {xs:List α} {k:Nat} {x:α} (h:xs[k]? = some x):k < xs.length:=(List.getElem?_eq_some_iff.1 h).1
theorem dltx {α:Type} {xs:List α} {k:Nat} {x:α} (h:xs[k]? = some x):decide ((k:Int) < (xs.length:Int)) = true:=dlt (qbi h)
end Go.X
namespace Go.Proofs.YtboacfcnmhnbdaaGreatDoor
open Go.X
theorem qkO (c:UInt8):∀ s:List UInt8,Lib.indexByte s c = if fnd [c] s < s.length then (fnd [c] s:Int) else -1
 | []=>rfl
 | b :: l=>by
  have ih:=qkO c l
  rw [qmy]
  unfold Lib.indexByte
  have hp:([c]:List UInt8).isPrefixOf (b :: l) = (b == c):=by
   simp only [List.isPrefixOf,Bool.and_true]
   exact Bool.eq_iff_iff.2 ⟨fun h=>beq_iff_eq.2 (beq_iff_eq.1 h).symm,fun h=>beq_iff_eq.2 (beq_iff_eq.1 h).symm⟩
  rw [hp]
  cases h:(b == c) with
  | true=>simp
  | false =>
   rw [ih]
   simp only [Bool.false_eq_true,if_false,List.length_cons]
   by_cases h1:fnd [c] l < l.length
   ·rw [if_pos h1,if_pos (show fnd [c] l + 1 < l.length + 1 by omega),if_neg (by first | omega | (rw [beq_iff_eq]; omega))]
    rfl
   ·rw [if_neg h1,if_neg (show ¬ fnd [c] l + 1 < l.length + 1 by omega)]
    rfl
theorem qsW {N:Nat} {s:List UInt8} (c:UInt8) (hs:s.length ≤ LIMS):qeq N s [c] = some (Lib.cut s [c]):=by
 unfold qeq qdT qdw
 rw [qpX (by simp)]
 simp only [Option.bind_some]
 rw [qkO]
 by_cases h:fnd [c] s < s.length
 ·have hw:IntKind.wrap .i64 ((fnd [c] s:Int) + 1) = ((fnd [c] s + 1:Nat):Int):=by
   rw [qdK (qdn.2 ⟨by omega,by unfold LIMS at hs; omega⟩)]; omega
  rw [if_pos h,if_pos h,decide_eq_true (by omega),cond_true,qjn (by omega),Option.bind_some]
  simp only [List.length_singleton]
  rw [show ((1:Nat):Int) = 1 from rfl,hw,qml (by omega)]
  rfl
 ·rw [if_neg h,if_neg h]
  rfl
end Go.Proofs.YtboacfcnmhnbdaaGreatDoor
