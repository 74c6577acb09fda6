/- Texts of this proof, put together by pack.py: what its declarations name. -/
import Derived.Test.YtllfckekodcdaaaGreatDoorPkKw5
import Derived.Test.YtllfckekodcdaaaGreatDoorCards
import Derived.Test.YtllfckekodcdaaaGreatDoorChecked
import Derived.Test.YtllfckekodcdaaaGreatDoorProg
import Derived.Test.YtllfckekodcdaaaGreatDoorRows
import Derived.Test.YtllfckekodcdaaaGreatDoorTie
set_option linter.unusedVariables false
set_option linter.unusedSimpArgs false
namespace Go.Proofs.YtllfckekodcdaaaGreatDoor
open Go.X
variable {u:World} {m0:Mem} {S:Segs} {w:World}
set_option maxHeartbeats 4000000
set_option maxRecDepth 100000
theorem qnZ:aggB Tryz.prog 41 2 = true:=by kernel_rfl
theorem qsQ:Tryz.prog.eqGuardType Tryz.prog.depth 46 = false:=by kernel_rfl
theorem qtA:goB Tryz.prog 15 = true:=by kernel_rfl
theorem qrr:goB Tryz.prog 16 = true:=by kernel_rfl
theorem qq6:goB Tryz.prog 17 = true:=by kernel_rfl
theorem go_8:goB Tryz.prog 8 = true:=by kernel_rfl
theorem qjY:qcG Tryz.prog 62 = some [(0,1),(1,1)]:=by kernel_rfl
theorem qq3:Tryz.prog.stoodInHeld 46 = false:=by kernel_rfl
theorem qjg:qbs Tryz.prog 62 = some [(vs ([])),(vs ([]))]:=by kernel_rfl
def qfy (u:World) (m0:Mem) (S:Segs) (r:Bool) (a:Act) (w:World):Prop :=
 Ok u m0 S w ∧ a.defers = [] ∧ RVs Tryz.prog a w [.t 4 (.bool r)]
theorem qhQ (N:Nat) (vs_0:List Value) (s_0:Setting) (hs_0:qjA m0 vs_0 s_0) (text_1:List UInt8) (ltext_1:text_1.length ≤ LIMS) {r:Bool} (hF:qbN N s_0 text_1 = some r) (hG:Glob u) (hTb:Tab u) (ok:Ok u m0 S w) :
  Calls Tryz.prog 5 [.agg vs_0.toArray,Value.string (bs text_1)].toArray w fun e w'=>(e = .returned (.bool r) ∧ Ok u m0 S w'):=by
 obtain ⟨c1,c3,rfl,h2,h4⟩:=hs_0
 have hb0:=ok.base
 have le_m0:=Mem.le.refl m0
 unfold qbN at hF
 refine en (qfy u m0 S) r Tryz.func5 rfl rfl rfl (by rintro a w ⟨ok,hd,hrv⟩; exact qaG [.t 4 (.bool r)] hd rfl hrv ⟨rfl,ok⟩) fun fin a E=>sg<|qdi E ok rfl rfl rfl fun b5 a w E ok=>aw E rfl fun a E=>wp_seq ?_
 refine sg ?_
 obtain ⟨r6,e7,hF⟩:=bnd hF
 refine lc E go_8 rfl (qjP N  e7 hG hTb ok) fun w ok a E=>lw E (qbK rfl) fun a E=>wn<|cf E rfl hF (fun hc8 hF=>?_) fun hc8 hF=>?_
 ·refine sg<|aw E rfl fun a E=>wp_ret<|qai ?_
  exact fin hF ⟨ok.drop,E.d,⟨rv_t E rfl,trivial⟩⟩
 refine wp_skip<|qaa<|sg<|mv E rfl fun a E=>lw E (qaY (ps:=[(0,.const (vs ([97]))),(1,.tmp 18)]) (qs:=[(0,[(vs ([97]))]),(1,[vs text_1])]) (cs:=[(vs ([97])),vs text_1]) qjg qjY rfl ⟨rfl,rfl,rfl,⟨rfl,rfl,rfl,trivial⟩⟩ rfl) fun a E=>qa7 (R:=qeH) (xo:=[.tmp 19]) (xs:=([(File.mk ([97]) text_1)]:List (File))) E ok qiC qjg rfl ⟨⟨_,rfl,rfl,⟨rfl,(show ([97]:List UInt8).length ≤ LIMS by decide),ltext_1⟩⟩,trivial⟩ rfl rfl rfl rfl fun c9 M10 a w E ok h11=>av E rfl fun a E=>?_
 refine wn<|sg<|mv E rfl fun a E=>lw E (qaY (ps:=[(0,.const (vs ([97]))),(1,.tmp 21)]) (qs:=[(0,[(vs ([97]))]),(1,[vs text_1])]) (cs:=[(vs ([97])),vs text_1]) qjg qjY rfl ⟨rfl,rfl,rfl,⟨rfl,rfl,rfl,trivial⟩⟩ rfl) fun a E=>mv E rfl fun a E=>lw E (qaY (ps:=[(0,.const (vs ([98]))),(1,.tmp 23)]) (qs:=[(0,[(vs ([98]))]),(1,[vs text_1])]) (cs:=[(vs ([98])),vs text_1]) qjg qjY rfl ⟨rfl,rfl,rfl,⟨rfl,rfl,rfl,trivial⟩⟩ rfl) fun a E=>?_
 refine qa7 (R:=qeH) (xo:=[.tmp 22,.tmp 24]) (xs:=([(File.mk ([97]) text_1),(File.mk ([98]) text_1)]:List (File))) E ok qiC qjg rfl ⟨⟨_,rfl,rfl,⟨rfl,(show ([97]:List UInt8).length ≤ LIMS by decide),ltext_1⟩⟩,⟨_,rfl,rfl,⟨rfl,(show ([98]:List UInt8).length ≤ LIMS by decide),ltext_1⟩⟩,trivial⟩ rfl rfl rfl rfl fun c12 M13 a w E ok h14=>aw E rfl fun a E=>wp_seq<|sg<|lv E ok (qas (cs:=[c1,c3]) qnZ rfl rfl (qae.own 2 rfl rfl)) fun a E=>?_
 refine mv E rfl fun a E=>?_
 obtain ⟨r20,e21,hF⟩:=bnd hF
 obtain ⟨m15,hle17,ok16,hfz18⟩:=(ok.frs 0 rfl).freeze
 have h19:=ORow.froz qbH h14 hle17 hfz18 (by decide)
 have h2':=(mL qaH).up hle17 h2
 have h4':=(mL qbZ).up hle17 h4
 refine qav E qtA rfl (qk0 N _ s_0 ⟨_,_,rfl,h2',h4'⟩ _ ([(File.mk ([97]) text_1),(File.mk ([98]) text_1)]:List (File)) h19 e21 hG ok16) rfl rfl ?_
 rintro _ w ⟨rfl,okz⟩
 replace ok:=(Ok.thawAt 0 rfl ok hle17 hfz18 okz)
 refine ⟨_,rfl,fun a E=>?_⟩
 refine lw E (qbK rfl) fun a E=>wn<|cf E rfl hF (fun hc22 hF=>?_) fun hc22 hF=>?_
 ·refine sg<|aw E rfl fun a E=>wp_ret<|qai ?_
  exact fin hF ⟨ok.drop.drop.drop,E.d,⟨rv_t E rfl,trivial⟩⟩
 refine wp_skip<|qaa<|sg<|lv E ok (qas (cs:=[c1,c3]) qnZ rfl rfl (qae.own 2 rfl rfl)) fun a E=>mv E rfl fun a E=>?_
 obtain ⟨m23,hle,ok,hfz⟩:=(ok.frs 1 rfl).freeze
 have h24:=ORow.froz qbH h11 hle hfz (by decide)
 have le_m0:=le_m0.trans hle
 have h2:=(mL qaH).up hle h2
 have h4:=(mL qbZ).up hle h4
 have h14:=ORow.up qbH hle h14
 obtain ⟨r25,e26,hF⟩:=bnd hF
 refine qav E qrr rfl (qhS N _ s_0 ⟨_,_,rfl,h2,h4⟩ _ ([(File.mk ([97]) text_1)]:List (File)) h24 e26 hG hTb ok) rfl rfl ?_
 rintro _ w ⟨m27,c28,vs30,rfl,hle,ok,h29,h31,r32⟩
 have le_m0:=le_m0.trans hle
 have h2:=(mL qaH).up hle h2
 have h4:=(mL qbZ).up hle h4
 have h14:=ORow.up qbH hle h14
 have h24:=(mL qbH).up hle h24
 obtain ⟨rfl,r33,r34⟩:=h31
 refine ⟨_,rfl,fun a E=>?_⟩
 refine mv E rfl fun a E=>lw E (qau rfl rfl) fun a E=>lw E (qau rfl rfl) fun a E=>lw E (qau rfl rfl) fun a E=>qaO E ok qd5 rfl rfl fun b35 a w E ok=>av E rfl fun a E=>qan E ok 0 rfl rfl rfl qfv rfl rfl ⟨rfl,rfl,trivial⟩ rfl rfl fun w ok=>av E rfl fun a E=>?_
 refine wn<|sg<|lv E ok (qas (cs:=[c1,c3]) qnZ rfl rfl (qae.own 2 rfl rfl)) fun a E=>mv E rfl fun a E=>?_
 obtain ⟨m36,hle,ok,hfz⟩:=(ok.frs 1 rfl).freeze
 have h37:=ORow.froz qbH h14 hle hfz (by decide)
 have le_m0:=le_m0.trans hle
 have h2:=(mL qaH).up hle h2
 have h4:=(mL qbZ).up hle h4
 have h24:=(mL qbH).up hle h24
 have h29:=(mL qdr).up hle h29
 obtain ⟨r38,e39,hF⟩:=bnd hF
 refine qav E qrr rfl (qhS N _ s_0 ⟨_,_,rfl,h2,h4⟩ _ ([(File.mk ([97]) text_1),(File.mk ([98]) text_1)]:List (File)) h37 e39 hG hTb ok) rfl rfl ?_
 rintro _ w ⟨m40,c41,vs43,rfl,hle,ok,h42,h44,r45⟩
 have le_m0:=le_m0.trans hle
 have h2:=(mL qaH).up hle h2
 have h4:=(mL qbZ).up hle h4
 have h24:=(mL qbH).up hle h24
 have h29:=(mL qdr).up hle h29
 have h37:=(mL qbH).up hle h37
 obtain ⟨rfl,r46,r47⟩:=h44
 refine ⟨_,rfl,fun a E=>?_⟩
 refine mv E rfl fun a E=>lw E (qau rfl rfl) fun a E=>lw E (qau rfl rfl) fun a E=>lw E (qau rfl rfl) fun a E=>qaO E ok qd5 rfl rfl fun b48 a w E ok=>av E rfl fun a E=>qan E ok 0 rfl rfl rfl qfv rfl rfl ⟨rfl,rfl,trivial⟩ rfl rfl fun w ok=>av E rfl fun a E=>?_
 refine wn<|wp_seq<|sg<|mv E rfl fun a E=>mv E rfl fun a E=>lw E (qc2 rfl rfl) fun a E=>?_
 refine mv E rfl fun a E=>qao (r25.2.2 != r38.2.2) (fun hc49=>?_) (fun hc49=>?_)
 ·replace hF:=qak hc49 hF
  replace E:=E.upd 47 hc49 rfl
  refine ls E fun a E=>ls E fun a E=>ls E fun a E=>pt E rfl rfl fun a E=>mv E rfl fun a E=>ls E fun a E=>ls E fun a E=>ls E fun a E=>?_
  refine ls E fun a E=>ls E fun a E=>pt E rfl rfl fun a E=>wn<|c_if E rfl (fun _=>?_) (fun h=>by cases h)
  refine sg<|aw E rfl fun a E=>wp_ret<|qai ?_
  exact fin hF ⟨(ok.drop.drop.drop).down hb0 le_m0,E.d,⟨rv_t E rfl,trivial⟩⟩
 replace hF:=qaj hc49 hF
 replace E:=E.upd 47 hc49 rfl
 refine lv E ok (qas (cs:=[vi r25.2.1.File,vi r25.2.1.Offset]) qf9 rfl rfl (qae.own 1 rfl rfl)) fun a E=>lv E ok (qas (cs:=[vi r38.2.1.File,vi r38.2.1.Offset]) qf9 rfl rfl (qae.own 0 rfl rfl)) fun a E=>lv E ok (qpI qsQ (qly Tryz.underlying46 qq3 (qj2 (by decide) (qbI qaV rfl) (qbI qaV rfl) (qfC Tryz.underlying3) (qmC (by decide) (qbI qaV rfl) (qbI qaV rfl) (qfC Tryz.underlying3)))) rfl rfl) fun a E=>pf E rfl rfl fun a E=>mv E rfl fun a E=>qao (!((r25.2.1.File == r38.2.1.File) && (r25.2.1.Offset == r38.2.1.Offset))) (fun hc50=>?_) (fun hc50=>?_)
 ·replace hF:=qak hc50 hF
  replace E:=E.upd 52 hc50 rfl
  refine ls E fun a E=>ls E fun a E=>ls E fun a E=>ls E fun a E=>ls E fun a E=>pt E rfl rfl fun a E=>wn ?_
  refine c_if E rfl (fun _=>?_) (fun h=>by cases h)
  refine sg<|aw E rfl fun a E=>wp_ret<|qai ?_
  exact fin hF ⟨(ok.drop.drop.drop).down hb0 le_m0,E.d,⟨rv_t E rfl,trivial⟩⟩
 replace hF:=qaj hc50 hF
 replace E:=E.upd 52 hc50 rfl
 refine mv E rfl fun a E=>lv E ok (qaz qcL h29 rfl) fun a E=>mv E rfl fun a E=>lv E ok (qaz qcL h42 rfl) fun a E=>lw E (qc2 rfl rfl) fun a E=>pf E rfl rfl fun a E=>wn ?_
 refine cf E rfl hF (fun hc51 hF=>?_) fun hc51 hF=>?_
 ·refine sg<|aw E rfl fun a E=>wp_ret<|qai ?_
  exact fin hF ⟨(ok.drop.drop.drop).down hb0 le_m0,E.d,⟨rv_t E rfl,trivial⟩⟩
 refine wp_skip<|qaa<|wp_seq<|sg<|aw E rfl fun a E=>?_
 refine wp_block ?_
 obtain ⟨o53,hL,hF⟩:=bnd hF
 refine qaK _ (fun (s:Int) a w=>∃ m54,m40.le m54 ∧ Ok u m54 ([(b48,oc 46 [vi r38.2.1.File,vi r38.2.1.Offset])] :: [(b35,oc 46 [vi r25.2.1.File,vi r25.2.1.Offset])] :: [(b5,oc 41 [c1,c3])] :: S) w ∧ Env 118 a [(7,c28),(10,c41),(13,vi s)] ∧ InR .i64 s) (fun (b:(Unit ⊕ Bool)) e a w=>(Sum.elim (fun b272=>e = (.exit 0) ∧ ∃ m273,m40.le m273 ∧ Ok u m273 ([(b48,oc 46 [vi r38.2.1.File,vi r38.2.1.Offset])] :: [(b35,oc 46 [vi r25.2.1.File,vi r25.2.1.Offset])] :: [(b5,oc 41 [c1,c3])] :: S) w ∧ Env 118 a []) (fun b274=>e = .ret ∧ qfy u m0 S b274 a w)) b) ?_ ?_ N _ a w hL ⟨m40,Mem.le.refl _,ok,E.keep [7,10,13],(ir 0)⟩
 rotate_left
 ·intro e a w _ hO
  rcases o53 with o53 | o53
  rotate_left
  ·replace hF:=qba hF
   obtain ⟨rfl,hret⟩:=hO
   refine qal<|qai ?_
   exact fin hF hret
  replace hF:=qa9 hF
  obtain ⟨rfl,m271,hle,ok,E⟩:=hO
  have le_m0:=le_m0.trans hle
  have h2:=(mL qaH).up hle h2
  have h4:=(mL qbZ).up hle h4
  have h24:=(mL qbH).up hle h24
  have h29:=(mL qdr).up hle h29
  have h37:=(mL qbH).up hle h37
  have h42:=(mL qdr).up hle h42
  refine qaM<|qaa<|sg<|aw E rfl fun a E=>wp_ret ?_
  exact fin hF ⟨(ok.drop.drop.drop).down hb0 le_m0,E.d,⟨rv_t E rfl,trivial⟩⟩
 rintro i_56 a w r ⟨m57,hle,ok,E,r58⟩ hF
 replace hF:qbR N r25 r38 i_56 = some r:=hF
 unfold qbR at hF
 have le_m40:=Mem.le.refl m40
 have le_m0:=le_m0.trans hle
 have le_m40:=le_m40.trans hle
 have h2:=(mL qaH).up hle h2
 have h4:=(mL qbZ).up hle h4
 have h24:=(mL qbH).up hle h24
 have h29:=(mL qdr).up hle h29
 have h37:=(mL qbH).up hle h37
 have h42:=(mL qdr).up hle h42
 refine wp_seq<|sg<|mv E rfl fun a E=>mv E rfl fun a E=>lv E ok (qaz qcL h29 rfl) fun a E=>lw E (qax rfl rfl) fun a E=>wpList_nil ?_
 refine qaa<|cf E rfl hF (fun hc59 hF=>?_) fun hc59 hF=>?_
 rotate_left
 ·refine wp_exit<|qay ?_
  obtain rfl:=sj hF
  exact so (sl ⟨rfl,⟨m57,le_m40,ok,E.keep []⟩⟩)
 refine wp_skip<|qaa<|wp_seq<|wp_block<|wp_seq ?_
 obtain ⟨o60,hJ,hF⟩:=bnd hF
 refine qbn (Q':=fun e a w=>e = .normal ∧ ∃ m61,m57.le m61 ∧ Ok u m61 ([(b48,oc 46 [vi r38.2.1.File,vi r38.2.1.Offset])] :: [(b35,oc 46 [vi r25.2.1.File,vi r25.2.1.Offset])] :: [(b5,oc 41 [c1,c3])] :: S) w ∧ Env 118 a [(7,c28),(10,c41),(13,vi i_56),(15,vb o60)]) ?_ ?_
 ·as_aux_lemma =>
   replace hF:=hJ
   clear hJ
   have le_m57:=Mem.le.refl m57
   obtain ⟨l62,e63,hF⟩:=bnd hF
   obtain ⟨x67,e68,hF⟩:=bnd hF
   obtain ⟨r86,e87,hF⟩:=bnd hF
   obtain rfl:=sj hF
   refine qcf [] (Cls u m57 ([(b48,oc 46 [vi r38.2.1.File,vi r38.2.1.Offset])] :: [(b35,oc 46 [vi r25.2.1.File,vi r25.2.1.Offset])] :: [(b5,oc 41 [c1,c3])] :: [])) (Cls u m57 ([(b48,oc 46 [vi r38.2.1.File,vi r38.2.1.Offset])] :: [(b35,oc 46 [vi r25.2.1.File,vi r25.2.1.Offset])] :: [(b5,oc 41 [c1,c3])] :: [])) (by kernel_rfl) ?_
   intro w hw
   replace ok:=qcv ok hw
   clear hw
   have h29_o:=h29
   refine qaC (cl1 (cq le_m57 ok [0,1,2] rfl) (cq le_m57 ok [0,1,2] rfl)) fun hT=>kt 0 E rfl hT (qad rfl) fun a E=>kt 1 E rfl hT (qad rfl) fun a E=>?_
   obtain ⟨c102,h103,yy104⟩:=qk8 qcL h29 e63 (P:=Tryz.prog) (X:=.tmp 66) (lov:=none) (hiv:=(some (.tmp 67))) (qag E rfl) (qkw E rfl) (qkw E ⟨_,rfl⟩)
   refine kt 2 E rfl hT (yy104 _ _) fun a E=>kt 3 E rfl hT (qad rfl) fun a E=>kt 4 E rfl hT (qad rfl) fun a E=>?_
   obtain ⟨b105,o106,es107,hl108,rr109,at110,yy111⟩:=qaF qcL h29 e68 (P:=Tryz.prog) (X:=.tmp 69) (I:=.tmp 70) (kd:=.i64) (qag E rfl) (qag E rfl)
   obtain ⟨c115,c117,c120,rfl,l112,l113,l114,h116,h118,r119,h121⟩:=rr109
   refine kt 5 E rfl hT (yy111 _ _) fun a E=>kt 6 E rfl hT (qaf qh5 rfl) fun a E=>kt 7 E rfl hT (qam qat rfl (qae.cro (At.sub 0 1 at110))) fun a E=>qa1 [8,12] (by kernel_rfl) rfl (qlv ?_ (qlv ?_ (qoS)))
   ·refine wo rfl<|qav E qq6 rfl (qhx N _ l62 h103 x67.ID l112 e87 hG ok) rfl rfl ?_
    rintro _ w ⟨m122,vs123,rfl,hle,ok,h124⟩
    have le_m0:=le_m0.trans hle
    have le_m40:=le_m40.trans hle
    have le_m57:=le_m57.trans hle
    have h2:=(mL qaH).up hle h2
    have h4:=(mL qbZ).up hle h4
    have h24:=(mL qbH).up hle h24
    have h29:=(mL qdr).up hle h29
    have h37:=(mL qbH).up hle h37
    have h42:=(mL qdr).up hle h42
    have h103:=(mL qdr).up hle h103
    have h116:=(mL mS).up hle h116
    have h118:=(mL mS).up hle h118
    have h121:=(mL qhP).up hle h121
    have at110:=At.up hle at110
    obtain ⟨c128,c130,c133,rfl,l125,l126,l127,h129,h131,r132,h134⟩:=h124
    refine ⟨_,rfl,fun a E=>?_⟩
    refine wn<|qaC (cl1 (cq le_m57 ok [0,1,2] rfl) (cq le_m57 ok [0,1,2] rfl)) fun hT=>kt 9 E rfl hT (qad rfl) fun a E=>kt 10 E rfl hT (qau rfl rfl) fun a E=>kt 11 E rfl hT (qau rfl rfl) fun a E=>qa1 [12] (by kernel_rfl) rfl (qa3 ?_)
    ·refine wo rfl<|qaO E ok qgh rfl rfl fun b135 a w E ok=>wn<|qaC (cl1 (cq le_m57 ok [1,2,3] rfl) (cq le_m57 ok [1,2,3] rfl)) fun hT=>qa1 [13] (by kernel_rfl) rfl (qa3 ?_)
     ·refine wo rfl<|qan E ok 0 rfl rfl rfl qlO rfl rfl ⟨rfl,rfl,rfl,(qbb h129),(qbb h131),rfl,(qbb h134),trivial⟩ rfl rfl fun w ok=>wn<|qaC (cl1 (cq le_m57 ok [1,2,3] rfl) (cq le_m57 ok [1,2,3] rfl)) fun hT=>kt 14 E rfl hT (qah rfl) fun a E=>qcd (by kernel_rfl) ?_
      exact ⟨rfl,⟨m122,le_m57,(ok.pk 4 [1,2,3] rfl (by decide)),E.keep [7,10,13,15]⟩⟩
   refine wo rfl<|qaO E ok qgh rfl rfl fun b136 a w E ok=>wn<|qaC (cl1 (cq le_m57 ok [1,2,3] rfl) (cq le_m57 ok [1,2,3] rfl)) fun hT=>qa1 [8] (by kernel_rfl) rfl (qa3 ?_)
   ·refine wo rfl<|qav E qq6 rfl (qhx N _ l62 h103 x67.ID l112 e87 hG ok) rfl rfl ?_
    rintro _ w ⟨m137,vs138,rfl,hle,ok,h139⟩
    have le_m0:=le_m0.trans hle
    have le_m40:=le_m40.trans hle
    have le_m57:=le_m57.trans hle
    have h2:=(mL qaH).up hle h2
    have h4:=(mL qbZ).up hle h4
    have h24:=(mL qbH).up hle h24
    have h29:=(mL qdr).up hle h29
    have h37:=(mL qbH).up hle h37
    have h42:=(mL qdr).up hle h42
    have h103:=(mL qdr).up hle h103
    have h116:=(mL mS).up hle h116
    have h118:=(mL mS).up hle h118
    have h121:=(mL qhP).up hle h121
    have at110:=At.up hle at110
    obtain ⟨c143,c145,c148,rfl,l140,l141,l142,h144,h146,r147,h149⟩:=h139
    refine ⟨_,rfl,fun a E=>?_⟩
    refine wn<|qaC (cl1 (cq le_m57 ok [1,2,3] rfl) (cq le_m57 ok [1,2,3] rfl)) fun hT=>kt 9 E rfl hT (qad rfl) fun a E=>kt 10 E rfl hT (qau rfl rfl) fun a E=>kt 11 E rfl hT (qau rfl rfl) fun a E=>qa1 [13] (by kernel_rfl) rfl (qa3 ?_)
    ·refine wo rfl<|qan E ok 0 rfl rfl rfl qlO rfl rfl ⟨rfl,rfl,rfl,(qbb h144),(qbb h146),rfl,(qbb h149),trivial⟩ rfl rfl fun w ok=>wn<|qaC (cl1 (cq le_m57 ok [1,2,3] rfl) (cq le_m57 ok [1,2,3] rfl)) fun hT=>kt 14 E rfl hT (qah rfl) fun a E=>qcd (by kernel_rfl) ?_
     exact ⟨rfl,⟨m137,le_m57,(ok.pk 4 [1,2,3] rfl (by decide)),E.keep [7,10,13,15]⟩⟩
 clear hJ
 intro e a w hO
 obtain ⟨rfl,m150,hle,ok,E⟩:=hO
 have le_m0:=le_m0.trans hle
 have le_m40:=le_m40.trans hle
 have h2:=(mL qaH).up hle h2
 have h4:=(mL qbZ).up hle h4
 have h24:=(mL qbH).up hle h24
 have h29:=(mL qdr).up hle h29
 have h37:=(mL qbH).up hle h37
 have h42:=(mL qdr).up hle h42
 refine qaa<|wp_seq<|qa6 (by kernel_rfl) (by kernel_rfl) ok<|qv E (qad rfl) fun a E=>qv E (qad rfl) fun a E=>qao o60 (fun hc151=>?_) (fun hc151=>?_)
 ·replace hF:=qak hc151 hF
  replace E:=E.upd 78 hc151 rfl
  refine qs E fun a E=>qs E fun a E=>qs E fun a E=>qs E fun a E=>qs E fun a E=>qs E fun a E=>qs E fun a E=>qs E fun a E=>?_
  refine qs E fun a E=>qs E fun a E=>qs E fun a E=>qv E (qbo rfl rfl) fun a E=>qv E (qad rfl) fun a E=>qs E fun a E=>qs E fun a E=>qs E fun a E=>?_
  refine qs E fun a E=>qs E fun a E=>qs E fun a E=>qs E fun a E=>qs E fun a E=>qs E fun a E=>qs E fun a E=>qs E fun a E=>?_
  refine qv E (qbo rfl rfl) fun a E=>qv E (qad rfl) fun a E=>qs E fun a E=>qs E fun a E=>qs E fun a E=>qs E fun a E=>qs E fun a E=>qs E fun a E=>?_
  refine qs E fun a E=>qs E fun a E=>qs E fun a E=>qs E fun a E=>qs E fun a E=>qs E fun a E=>qv E (qbo rfl rfl) fun a E=>wpQuiet_nil ?_
  intro w ok
  refine qaa<|c_if E rfl (fun _=>?_) (fun h=>by cases h)
  refine sg<|aw E rfl fun a E=>wp_ret<|qal<|qai ?_
  obtain rfl:=sj hF
  exact so (sr ⟨rfl,⟨(ok.drop.drop.drop).down hb0 le_m0,E.d,⟨rv_t E rfl,trivial⟩⟩⟩)
 replace hF:=qaj hc151 hF
 replace E:=E.upd 78 hc151 rfl
 refine qv E (qad rfl) fun a E=>qv E (qad rfl) fun a E=>?_
 obtain ⟨x152,e153,hF⟩:=bnd hF
 obtain ⟨b154,o155,es156,hl157,rr158,at159,yy160⟩:=qaF qcL h29 e153 (P:=Tryz.prog) (X:=.tmp 79) (I:=.tmp 80) (kd:=.i64) (qag E rfl) (qag E rfl)
 obtain ⟨c164,c166,c169,rfl,l161,l162,l163,h165,h167,r168,h170⟩:=rr158
 refine qv E (yy160 _ _) fun a E=>qv E (qaf qh5 rfl) fun a E=>qv E (qam qat rfl (qae.ro (At.sub 0 1 at159))) fun a E=>qv E (qad rfl) fun a E=>qv E (qad rfl) fun a E=>?_
 obtain ⟨x171,e172,hF⟩:=bnd hF
 obtain ⟨b173,o174,es175,hl176,rr177,at178,yy179⟩:=qaF qcL h42 e172 (P:=Tryz.prog) (X:=.tmp 84) (I:=.tmp 85) (kd:=.i64) (qag E rfl) (qag E rfl)
 obtain ⟨c183,c185,c188,rfl,l180,l181,l182,h184,h186,r187,h189⟩:=rr177
 refine qv E (yy179 _ _) fun a E=>qv E (qaf qh5 rfl) fun a E=>qv E (qam qat rfl (qae.ro (At.sub 0 1 at178))) fun a E=>qv E (qb1 rfl rfl) fun a E=>qv E (qbr rfl rfl) fun a E=>qv E (qad rfl) fun a E=>qao (x152.ID != x171.ID) (fun hc190=>?_) (fun hc190=>?_)
 ·replace hF:=qak hc190 hF
  replace E:=E.upd 91 hc190 rfl
  refine qs E fun a E=>qs E fun a E=>qs E fun a E=>qs E fun a E=>qs E fun a E=>qs E fun a E=>qs E fun a E=>qs E fun a E=>?_
  refine qs E fun a E=>qs E fun a E=>qs E fun a E=>qv E (qbo rfl rfl) fun a E=>qv E (qad rfl) fun a E=>qs E fun a E=>qs E fun a E=>qs E fun a E=>?_
  refine qs E fun a E=>qs E fun a E=>qs E fun a E=>qs E fun a E=>qs E fun a E=>qs E fun a E=>qs E fun a E=>qs E fun a E=>?_
  refine qs E fun a E=>qv E (qbo rfl rfl) fun a E=>wpQuiet_nil ?_
  intro w ok
  refine qaa<|c_if E rfl (fun _=>?_) (fun h=>by cases h)
  refine sg<|aw E rfl fun a E=>wp_ret<|qal<|qai ?_
  obtain rfl:=sj hF
  exact so (sr ⟨rfl,⟨(ok.drop.drop.drop).down hb0 le_m0,E.d,⟨rv_t E rfl,trivial⟩⟩⟩)
 replace hF:=qaj hc190 hF
 replace E:=E.upd 91 hc190 rfl
 refine qv E (qad rfl) fun a E=>qv E (qad rfl) fun a E=>?_
 obtain ⟨x191,e192,hF⟩:=bnd hF
 obtain ⟨b193,o194,es195,hl196,rr197,at198,yy199⟩:=qaF qcL h29 e192 (P:=Tryz.prog) (X:=.tmp 92) (I:=.tmp 93) (kd:=.i64) (qag E rfl) (qag E rfl)
 obtain ⟨c203,c205,c208,rfl,l200,l201,l202,h204,h206,r207,h209⟩:=rr197
 refine qv E (yy199 _ _) fun a E=>qv E (qaf qi4 rfl) fun a E=>qv E (qam qat rfl (qae.ro (At.sub 1 1 at198))) fun a E=>qv E (qad rfl) fun a E=>qv E (qad rfl) fun a E=>?_
 obtain ⟨x210,e211,hF⟩:=bnd hF
 obtain ⟨b212,o213,es214,hl215,rr216,at217,yy218⟩:=qaF qcL h42 e211 (P:=Tryz.prog) (X:=.tmp 97) (I:=.tmp 98) (kd:=.i64) (qag E rfl) (qag E rfl)
 obtain ⟨c222,c224,c227,rfl,l219,l220,l221,h223,h225,r226,h228⟩:=rr216
 refine qv E (yy218 _ _) fun a E=>qv E (qaf qi4 rfl) fun a E=>qv E (qam qat rfl (qae.ro (At.sub 1 1 at217))) fun a E=>qv E (qb1 rfl rfl) fun a E=>qv E (qbr rfl rfl) fun a E=>qv E (qad rfl) fun a E=>qao (x191.Source != x210.Source) (fun hc229=>?_) (fun hc229=>?_)
 ·replace hF:=qak hc229 hF
  replace E:=E.upd 104 hc229 rfl
  refine qs E fun a E=>qs E fun a E=>qs E fun a E=>qs E fun a E=>qs E fun a E=>qs E fun a E=>qs E fun a E=>qs E fun a E=>?_
  refine qs E fun a E=>qs E fun a E=>qs E fun a E=>qs E fun a E=>qv E (qbo rfl rfl) fun a E=>wpQuiet_nil ?_
  intro w ok
  refine qaa<|c_if E rfl (fun _=>?_) (fun h=>by cases h)
  refine sg<|aw E rfl fun a E=>wp_ret<|qal<|qai ?_
  obtain rfl:=sj hF
  exact so (sr ⟨rfl,⟨(ok.drop.drop.drop).down hb0 le_m0,E.d,⟨rv_t E rfl,trivial⟩⟩⟩)
 replace hF:=qaj hc229 hF
 replace E:=E.upd 104 hc229 rfl
 refine qv E (qad rfl) fun a E=>qv E (qad rfl) fun a E=>?_
 obtain ⟨x230,e231,hF⟩:=bnd hF
 obtain ⟨b232,o233,es234,hl235,rr236,at237,yy238⟩:=qaF qcL h29 e231 (P:=Tryz.prog) (X:=.tmp 105) (I:=.tmp 106) (kd:=.i64) (qag E rfl) (qag E rfl)
 obtain ⟨c242,c244,c247,rfl,l239,l240,l241,h243,h245,r246,h248⟩:=rr236
 refine qv E (yy238 _ _) fun a E=>qv E (qaf qho rfl) fun a E=>qv E (qam qhH rfl (qae.ro (At.sub 3 1 at237))) fun a E=>qv E (qad rfl) fun a E=>qv E (qad rfl) fun a E=>?_
 obtain ⟨x249,e250,hF⟩:=bnd hF
 obtain ⟨b251,o252,es253,hl254,rr255,at256,yy257⟩:=qaF qcL h42 e250 (P:=Tryz.prog) (X:=.tmp 110) (I:=.tmp 111) (kd:=.i64) (qag E rfl) (qag E rfl)
 obtain ⟨c261,c263,c266,rfl,l258,l259,l260,h262,h264,r265,h267⟩:=rr255
 refine qv E (yy257 _ _) fun a E=>qv E (qaf qho rfl) fun a E=>qv E (qam qhH rfl (qae.ro (At.sub 3 1 at256))) fun a E=>?_
 obtain ⟨r268,e269,hF⟩:=bnd hF
 refine qeZ E qpq rfl (fun w ok=>(qd0 N _ x230.Comments h243 _ x249.Comments h262 e269 hG ok).mono (fun _ _ h=>h)) rfl rfl fun a E=>qv E (qbK rfl) fun a E=>qv E (qbr rfl rfl) fun a E=>wpQuiet_nil ?_
 intro w ok
 refine qaa<|cf E rfl hF (fun hc270 hF=>?_) fun hc270 hF=>?_
 rotate_left
 ·refine wp_skip<|qap<|qaa<|qac<|mv E rfl fun a E=>lw E (qaB rfl rfl (InR.inc r58 (qar h29) hc59)) fun a E=>av E rfl fun a E=>wpList_nil ?_
  obtain rfl:=sj hF
  exact qaw ⟨m150,le_m40,ok,E.keep [7,10,13],(InR.inc r58 (qar h29) hc59)⟩
 refine sg<|aw E rfl fun a E=>wp_ret<|qal<|qai ?_
 obtain rfl:=sj hF
 exact so (sr ⟨rfl,⟨(ok.drop.drop.drop).down hb0 le_m0,E.d,⟨rv_t E rfl,trivial⟩⟩⟩)
end Go.Proofs.YtllfckekodcdaaaGreatDoor
namespace Go.X
variable {H:Type} {enc:TypeId × Value → H}
end Go.X
namespace Go.X
open Go.ChangeShapes Go.RowKit
def OpnS {α:Type} (P:Program) (t:TypeId) (R:Rp α) (Q:α → Prop):Prop :=
 ∀ {H:Type} {enc:TypeId × Value → H} {W:World} {base:Nat} {spare:Nat → Bool} {held:Bool} {fuel:Nat} {cs:List Value} {x:DataW H × List MemPlace},
  DataW.trod enc P W base spare held fuel t cs = some x → (∀ n ∈ x.1.weights P t,n ≤ reachBytes) → ∃ a:α,R (hm W) cs a ∧ Q a
section
variable {P:Program} {t:TypeId}
theorem qkJ {k:IntKind} (ht:P.underlying t = some (.int k)):OpnS P t (pI k) (InR k):=fun h _=>by
 obtain ⟨a,ha⟩:=qtT ht h
 exact ⟨a,ha,ha.2⟩
theorem qsR (ht:P.underlying t = some .bool):OpnS P t pB (fun _=>True):=fun h _=>by
 obtain ⟨a,ha⟩:=qsW ht h
 exact ⟨a,ha,trivial⟩
theorem qkK (ht:P.underlying t = some .string):OpnS P t pS (fun s=>s.length ≤ reachBytes):=fun h hz=>by
 obtain ⟨s,rfl,rfl,hs⟩:=DataW.trod_string ht h
 refine ⟨s.data.toList,⟨rfl,hs⟩,hz _ ?_⟩
 simp [DataW.weights]
theorem qi3 {H:Type} {e:TypeId}:∀ {l:List (DataW H)} {d:DataW H},d ∈ l → ∀ n ∈ d.weights P e,n ∈ DataW.weightsAll P e l
 | d0 :: l,d,h,n,hn=>by
  simp only [DataW.weightsAll,List.mem_append]
  rcases List.mem_cons.1 h with rfl | h
  ·exact .inl hn
  ·exact .inr (qi3 h n hn)
 | [],_,h,_,_=>by cases h
theorem qrG {α:Type} {e:TypeId} {n:Nat} {R:Rp α} {Q:α → Prop} (ht:P.underlying t = some (.slice e)) (hc:P.cellsOf e = n) (hn:0 < n) (hb:0 < P.bytesOf e) (he:OpnS P e R Q):OpnS P t (pL n R) (fun xs=>xs.length ≤ reachBytes ∧ ∀ y ∈ xs,Q y):=fun {H enc W base spare held fuel cs x} h hz=>by
 rcases Go.Deep.open_slice ht h with ⟨rfl,_⟩ | ⟨a,len,cap,m,fu,D,Pl,rfl,_,hl,hm',hm2,rfl,hel⟩
 ·exact ⟨[],⟨none,0,rfl,Nat.le_refl _,Nat.zero_le _,Nat.zero_le _,fun h=>absurd rfl h⟩,Nat.zero_le _,fun _ h=>by cases h⟩
 ·rw [hc] at hel
  have hlm:len ≤ m:=by rw [hm2]; split <;> omega
  have hlen:len ≤ reachBytes:=by
   have h1:=hz (((List.range len).map D).length + ((List.range (m - len)).map fun j=>D (len + j)).length |> (· * P.bytesOf e)) (by simp [DataW.weights,ht])
   simp only [List.length_map,List.length_range] at h1
   have h2:len * 1 ≤ (len + (m - len)) * P.bytesOf e:=Nat.mul_le_mul (by omega) hb
   omega
  have key:∀ i,i < len → ∃ y:α,(∃ es:List Value,es.length = n ∧ (∀ j v,es[j]? = some v → W.cell? (a.add (i * n + j)) = some v) ∧ R (hm W) es y) ∧ Q y:=by
   intro i hi
   obtain ⟨cs',h1,h2⟩:=hel i (by omega)
   obtain ⟨y,hy,hq⟩:=he h2 (fun k hk=>hz k (by
    simp only [DataW.weights,ht,List.mem_cons,List.mem_append]
    exact .inr (.inl (qi3 (List.mem_map.2 ⟨i,List.mem_range.2 hi,rfl⟩) k hk))))
   obtain ⟨_,hlen,hcell⟩:=World.cells?_some h1
   refine ⟨y,⟨cs',hlen,fun j v hj=>?_,hy⟩,hq⟩
   have hjn:j < n:=by rw [← hlen]; exact (List.getElem?_eq_some_iff.1 hj).1
   have:=hcell j hjn
   rw [hj] at this
   rw [qrv]
   exact this
  have pick:∃ f:Fin len → α,∀ i:Fin len,(∃ es:List Value,es.length = n ∧ (∀ j v,es[j]? = some v → W.cell? (a.add (i.1 * n + j)) = some v) ∧ R (hm W) es (f i)) ∧ Q (f i) :=
   ⟨fun i=>(key i.1 i.2).choose,fun i=>(key i.1 i.2).choose_spec⟩
  obtain ⟨f,hf⟩:=pick
  refine ⟨List.ofFn f,⟨some a,cap,by rw [List.length_ofFn],by rw [List.length_ofFn]; exact hl,hm',?_,fun h0=>?_⟩,by rw [List.length_ofFn]; exact hlen,fun y hy=>?_⟩
  ·rw [List.length_ofFn]; unfold maxLen at hm'; unfold LIMS; omega
  ·rw [List.length_ofFn] at h0
   obtain ⟨b,off,spot⟩:=a
   have hs:spot = none:=by
    obtain ⟨⟨es,e1,e2,_⟩,_⟩:=hf ⟨0,by omega⟩
    have hv:es[0]? = some (es[0]'(by omega)):=by simp
    have:=e2 0 _ hv
    simpa [Addr.add] using World.cell?_spot this
   subst hs
   refine ⟨b,off,rfl,fun i y hy=>?_⟩
   obtain ⟨hi,rfl⟩:=List.getElem?_eq_some_iff.1 hy
   have hi':i < len:=by simpa using hi
   obtain ⟨⟨es,e1,e2,e3⟩,_⟩:=hf ⟨i,hi'⟩
   refine ⟨es,e1,fun j v hj=>?_,by simpa using e3⟩
   have:=e2 j v hj
   refine qrU ?_
   rw [qqM] at this
   rw [Nat.add_assoc]
   exact this
  ·obtain ⟨i,rfl⟩:=List.mem_ofFn.1 hy
   exact (hf i).2
theorem qhe {fs:Array Field} (ht:P.underlying t = some (.struct fs)) {H:Type} {enc:TypeId × Value → H} {W:World} {base:Nat} {spare:Nat → Bool} {held:Bool} {fuel:Nat} {cs:List Value} {x:DataW H × List MemPlace}
  (h:DataW.trod enc P W base spare held fuel t cs = some x) (hz:∀ n ∈ x.1.weights P t,n ≤ reachBytes) :
  cs.length = P.cellsOf t ∧ ∀ {α:Type} {R:Rp α} {Q:α → Prop} (i:Nat) (f:Field) (n:Nat),fs[i]? = some f → P.cellsOf f.type = n → OpnS P f.type R Q → ∃ a,R (hm W) ((cs.drop f.offset).take n) a ∧ Q a:=by
 obtain ⟨xs,n,_,hx,hl,hlen,hf⟩:=DataW.trod_struct ht h
 refine ⟨hl,fun {α R Q} i f n hi hn ho=>?_⟩
 have hi':i < xs.length:=by rw [hlen]; exact (Array.getElem?_eq_some_iff.1 hi).1
 have:=hf i f hi
 rw [List.getElem?_eq_getElem hi',hn] at this
 refine ho this fun k hk=>hz k ?_
 subst hx
 simp only [DataW.weights,ht]
 refine DataW.weights_mem_each (j:=i) (t:=f.type) (d:=xs[i].1) ?_ ?_ k hk
 ·simp [hi]
 ·simp [hi']
end
end Go.X
namespace Go.X
open Go.ChangeShapes Go.RowKit
section
variable {H:Type} {enc:TypeId × Value → H}
theorem qkp {a:Assume} {C:Checked} {os:Os} {f:FuncId} {fn:Func} {s:ChangeSpec} {conds:List PathCond} {apart fresh handsOn again:Bool} {X:World → Array Value → Prop}
  (hX:∀ (w w':World) (args:Array Value),w.heap = w'.heap → X w args → X w' args)
  (own:ownKnob C.prog.godebug = none) (started:os.Started) (noInit:C.prog.inits.idxOf? f = none) (hfn:C.prog.funcs[f]? = some fn)
  (witness:∃ (w:World) (tape:Tape) (i:Input),w.os = os ∧ (w.forCall tape i).Shaped C.prog ∧ i.vars = [] ∧ Input.okWide C.prog (w.forCall tape i) .any w.heap.size f i ∧
   ((s.pre enc C.prog fn conds apart (w.forCall tape i).memory i.args ∧ X (w.forCall tape i).memory i.args) ∧ sizedMet enc C.prog fn (OpenSpec.ofChange s) apart (w.forCall tape i).memory i.args) ∧ a.holds C.prog (lone (Frame.enter C.prog f i.args .normal) [] (w.forCall tape i)))
  (contract:∀ (W:World) (base:Nat) (args:Array Value) (ds gs:List (DataW H)) (before:List MemPlace),
   (∀ (j:Nat) t v,fn.params[j]? = some t → args[j]? = some v → Value.okWide C.prog W .any base t v) →
   DataW.Whole enc C.prog fn.params.toList s.vars apart W args.toList ds gs before → W.ShapedOpen C.prog →
   X W args → (DataW.weightsEach C.prog (fn.params.toList ++ s.plain.varTypes C.prog) (ds ++ gs)).all (· ≤ reachBytes) = true →
   Calls C.prog f args W fun e W'=>∃ v,e = .returned v ∧ s.post enc C.prog fn apart fresh handsOn again W args v W') :
  ReturnsInHanded a C os f .any (fun w args=>(s.pre enc C.prog fn conds apart w args ∧ X w args) ∧ sizedMet enc C.prog fn (OpenSpec.ofChange s) apart w args) (s.post enc C.prog fn apart fresh handsOn again):=by
 refine returnsInHanded_of_calls own started noInit witness ?_
 intro w tape i _ hsh _ hok hpre _
 obtain ⟨_,_,_,fn',hfn',_,_,_,_,hval⟩:=hok
 have e:fn' = fn:=Option.some.inj (hfn'.symm.trans hfn)
 subst e
 obtain ⟨⟨⟨ds,gs,before,hw,_⟩,hx⟩,hz⟩:=hpre
 have hw':=DataW.Whole.of_heap (w':=w.forCall tape i) (by rfl) hw
 refine (contract (w.forCall tape i) w.heap.size i.args ds gs before hval hw' hsh (hX _ _ _ (by rfl) hx) (hz.weights hw)).mono fun e W' ⟨v,he,hp⟩=>?_
 subst he
 exact ChangeSpec.post_blind hp
end
end Go.X
namespace Go.X
open Go.ChangeShapes Go.RowKit
end Go.X
namespace Go.X
open Go.ChangeShapes Go.RowKit
section
variable {P:Program} {t:TypeId}
theorem qif {α:Type} {e:TypeId} {n:Nat} {R:Rp α} {Q:α → Prop} (B:Nat) (hB:B ≤ P.bytesOf e) (hB0:0 < B) (ht:P.underlying t = some (.slice e)) (hc:P.cellsOf e = n) (hn:0 < n) (he:OpnS P e R Q):OpnS P t (pL n R) (fun xs=>xs.length * B ≤ reachBytes ∧ ∀ y ∈ xs,Q y):=fun {H enc W base spare held fuel cs x} h hz=>by
 obtain ⟨xs,hp,_,hq⟩:=qrG ht hc hn (Nat.lt_of_lt_of_le hB0 hB) he h hz
 refine ⟨xs,hp,?_,hq⟩
 obtain ⟨a0,cap0,hcs,_⟩:=hp
 rcases Go.Deep.open_slice ht h with ⟨rfl,_⟩ | ⟨a,len,cap,m,fu,D,Pl,rfl,_,hl,hm',hm2,rfl,hel⟩
 ·have:=(List.cons.inj hcs).1
  simp only [Value.slice.injEq] at this
  rw [← this.2.1,Nat.zero_mul]; exact Nat.zero_le _
 ·have h0:=(List.cons.inj hcs).1
  simp only [Value.slice.injEq] at h0
  rw [← h0.2.1]
  have hlm:len ≤ m:=by rw [hm2]; split <;> omega
  have h1:=hz (((List.range len).map D).length + ((List.range (m - len)).map fun j=>D (len + j)).length |> (· * P.bytesOf e)) (by simp [DataW.weights,ht])
  simp only [List.length_map,List.length_range] at h1
  have h2:len * B ≤ (len + (m - len)) * P.bytesOf e:=Nat.mul_le_mul (by omega) hB
  omega
end
end Go.X
namespace Go.Proofs.YtllfckekodcdaaaGreatDoor
open Go.ChangeShapes Go.WideShapes Go.ChangeAt Go.RowKit Go.X
theorem own:ownKnob Tryz.prog.godebug = none:=by kernel_rfl
theorem qom:laidOutB Tryz.prog = true:=by kernel_rfl
theorem qp8 {H:Type} {enc:TypeId × Value → H} {W:World} {base:Nat} {sp:Nat → Bool} {held:Bool} (b:Bool):DataW.Trod enc Tryz.prog W base sp held 4 (.bool b) (.lit (.bool b)) [] :=
 ⟨1,by simp [DataW.trod,Value.cells,Tryz.underlying4]⟩
theorem qrH {W:World} (h:W.ShapedOpen Tryz.prog):Glob W:=cell_of_shapedOpen_int (g:=0) (t:=3) (zero:=#[.int .i64 0]) h (of_decide_eq_true (by kernel_rfl)) (by kernel_rfl) (by kernel_rfl) (by kernel_rfl) (by kernel_rfl) Tryz.underlying3
theorem ce3:Tryz.prog.cellsOf 3 = 1:=by kernel_rfl
theorem ce4:Tryz.prog.cellsOf 4 = 1:=by kernel_rfl
theorem ce5:Tryz.prog.cellsOf 5 = 1:=by kernel_rfl
theorem ce9:Tryz.prog.cellsOf 9 = 1:=by kernel_rfl
theorem ce22:Tryz.prog.cellsOf 22 = 1:=by kernel_rfl
theorem ce39:Tryz.prog.cellsOf 39 = 1:=by kernel_rfl
theorem ce41:Tryz.prog.cellsOf 41 = 2:=by kernel_rfl
theorem ce66:Tryz.prog.cellsOf 66 = 3:=by kernel_rfl
theorem qtM:Tryz.prog.cellsOf 106 = 1:=by kernel_rfl
theorem qri:Tryz.prog.cellsOf 108 = 2:=by kernel_rfl
theorem qtl:Tryz.prog.cellsOf 112 = 1:=by kernel_rfl
theorem qq7:Tryz.prog.cellsOf 114 = 3:=by kernel_rfl
theorem qtx:Tryz.prog.cellsOf 136 = 1:=by kernel_rfl
theorem qrc:Tryz.prog.cellsOf 138 = 5:=by kernel_rfl
theorem qrk:Tryz.prog.cellsOf 157 = 2:=by kernel_rfl
theorem qtQ:OpnS Tryz.prog 157 qbA (fun x=>(InR .u8 x.From ∧ InR .u8 x.To)):=fun h hz=>by
 obtain ⟨hl,hf⟩:=qhe Tryz.underlying157 h hz
 obtain ⟨c0,c1,rfl⟩:=len2 (hl.trans qrk)
 obtain ⟨a0,h0,q0⟩:=hf 0 _ 1 rfl ce5 (qkJ Tryz.underlying5)
 obtain ⟨a1,h1,q1⟩:=hf 1 _ 1 rfl ce5 (qkJ Tryz.underlying5)
 have h0:(pI .u8) _ [c0] a0:=h0
 obtain ⟨rfl,g0⟩:=qhM h0
 have h1:(pI .u8) _ [c1] a1:=h1
 obtain ⟨rfl,g1⟩:=qhM h1
 exact ⟨⟨a0,a1⟩,⟨rfl,g0,g1⟩,⟨q0,q1⟩⟩
theorem qt1:OpnS Tryz.prog 138 qbF (fun x=>(x.Text.length ≤ reachBytes ∧ (x.Ranges.length * 2 ≤ reachBytes ∧ ∀ y21 ∈ x.Ranges,(InR .u8 y21.From ∧ InR .u8 y21.To)) ∧ InR .i64 x.Least ∧ InR .i64 x.Most)):=fun h hz=>by
 obtain ⟨hl,hf⟩:=qhe Tryz.underlying138 h hz
 obtain ⟨c0,c1,c2,c3,c4,rfl⟩:=len5 (hl.trans qrc)
 obtain ⟨a0,h0,q0⟩:=hf 0 _ 1 rfl ce9 (qkK Tryz.underlying9)
 obtain ⟨a1,h1,q1⟩:=hf 1 _ 1 rfl qtx (qif 2 (of_decide_eq_true (by kernel_rfl)) (Nat.succ_pos _) Tryz.underlying136 qrk (Nat.succ_pos _) qtQ)
 obtain ⟨a2,h2,q2⟩:=hf 2 _ 1 rfl ce4 (qsR Tryz.underlying4)
 obtain ⟨a3,h3,q3⟩:=hf 3 _ 1 rfl ce3 (qkJ Tryz.underlying3)
 obtain ⟨a4,h4,q4⟩:=hf 4 _ 1 rfl ce3 (qkJ Tryz.underlying3)
 have h0:pS _ [c0] a0:=h0
 obtain ⟨rfl,g0⟩:=qi9 h0
 have h1:(pL 2 qbA) _ [c1] a1:=h1
 have h2:pB _ [c2] a2:=h2
 obtain rfl:=qko h2
 have h3:(pI .i64) _ [c3] a3:=h3
 obtain ⟨rfl,g3⟩:=qhM h3
 have h4:(pI .i64) _ [c4] a4:=h4
 obtain ⟨rfl,g4⟩:=qhM h4
 exact ⟨⟨a0,a1,a2,a3,a4⟩,⟨c1,rfl,g0,h1,g3,g4⟩,⟨q0,q1,q3,q4⟩⟩
theorem qtK:OpnS Tryz.prog 114 qdc (fun x=>(x.Kind.length ≤ reachBytes ∧ (x.Items.length * 64 ≤ reachBytes ∧ ∀ y19 ∈ x.Items,(y19.Text.length ≤ reachBytes ∧ (y19.Ranges.length * 2 ≤ reachBytes ∧ ∀ y20 ∈ y19.Ranges,(InR .u8 y20.From ∧ InR .u8 y20.To)) ∧ InR .i64 y19.Least ∧ InR .i64 y19.Most)) ∧ x.Next.length ≤ reachBytes)):=fun h hz=>by
 obtain ⟨hl,hf⟩:=qhe Tryz.underlying114 h hz
 obtain ⟨c0,c1,c2,rfl⟩:=len3 (hl.trans qq7)
 obtain ⟨a0,h0,q0⟩:=hf 0 _ 1 rfl ce9 (qkK Tryz.underlying9)
 obtain ⟨a1,h1,q1⟩:=hf 1 _ 1 rfl qtl (qif 64 (of_decide_eq_true (by kernel_rfl)) (Nat.succ_pos _) Tryz.underlying112 qrc (Nat.succ_pos _) qt1)
 obtain ⟨a2,h2,q2⟩:=hf 2 _ 1 rfl ce9 (qkK Tryz.underlying9)
 have h0:pS _ [c0] a0:=h0
 obtain ⟨rfl,g0⟩:=qi9 h0
 have h1:(pL 5 qbF) _ [c1] a1:=h1
 have h2:pS _ [c2] a2:=h2
 obtain ⟨rfl,g2⟩:=qi9 h2
 exact ⟨⟨a0,a1,a2⟩,⟨c1,rfl,g0,h1,g2⟩,⟨q0,q1,q2⟩⟩
theorem qtI:OpnS Tryz.prog 108 qbT (fun x=>(x.Name.length ≤ reachBytes ∧ (x.Rules.length * 56 ≤ reachBytes ∧ ∀ y16 ∈ x.Rules,(y16.Kind.length ≤ reachBytes ∧ (y16.Items.length * 64 ≤ reachBytes ∧ ∀ y17 ∈ y16.Items,(y17.Text.length ≤ reachBytes ∧ (y17.Ranges.length * 2 ≤ reachBytes ∧ ∀ y18 ∈ y17.Ranges,(InR .u8 y18.From ∧ InR .u8 y18.To)) ∧ InR .i64 y17.Least ∧ InR .i64 y17.Most)) ∧ y16.Next.length ≤ reachBytes)))):=fun h hz=>by
 obtain ⟨hl,hf⟩:=qhe Tryz.underlying108 h hz
 obtain ⟨c0,c1,rfl⟩:=len2 (hl.trans qri)
 obtain ⟨a0,h0,q0⟩:=hf 0 _ 1 rfl ce9 (qkK Tryz.underlying9)
 obtain ⟨a1,h1,q1⟩:=hf 1 _ 1 rfl qtM (qif 56 (of_decide_eq_true (by kernel_rfl)) (Nat.succ_pos _) Tryz.underlying106 qq7 (Nat.succ_pos _) qtK)
 have h0:pS _ [c0] a0:=h0
 obtain ⟨rfl,g0⟩:=qi9 h0
 have h1:(pL 3 qdc) _ [c1] a1:=h1
 exact ⟨⟨a0,a1⟩,⟨c1,rfl,g0,h1⟩,⟨q0,q1⟩⟩
theorem o_66:OpnS Tryz.prog 66 qdD (fun x=>(x.Name.length ≤ reachBytes ∧ InR .i64 x.ID ∧ InR .i64 x.Source)):=fun h hz=>by
 obtain ⟨hl,hf⟩:=qhe Tryz.underlying66 h hz
 obtain ⟨c0,c1,c2,rfl⟩:=len3 (hl.trans ce66)
 obtain ⟨a0,h0,q0⟩:=hf 0 _ 1 rfl ce9 (qkK Tryz.underlying9)
 obtain ⟨a1,h1,q1⟩:=hf 1 _ 1 rfl ce3 (qkJ Tryz.underlying3)
 obtain ⟨a2,h2,q2⟩:=hf 2 _ 1 rfl ce3 (qkJ Tryz.underlying3)
 have h0:pS _ [c0] a0:=h0
 obtain ⟨rfl,g0⟩:=qi9 h0
 have h1:(pI .i64) _ [c1] a1:=h1
 obtain ⟨rfl,g1⟩:=qhM h1
 have h2:(pI .i64) _ [c2] a2:=h2
 obtain ⟨rfl,g2⟩:=qhM h2
 exact ⟨⟨a0,a1,a2⟩,⟨rfl,g0,g1,g2⟩,⟨q0,q1,q2⟩⟩
theorem o_41:OpnS Tryz.prog 41 qjA (fun x=>((x.Script.length * 40 ≤ reachBytes ∧ ∀ y11 ∈ x.Script,(y11.Name.length ≤ reachBytes ∧ (y11.Rules.length * 56 ≤ reachBytes ∧ ∀ y12 ∈ y11.Rules,(y12.Kind.length ≤ reachBytes ∧ (y12.Items.length * 64 ≤ reachBytes ∧ ∀ y13 ∈ y12.Items,(y13.Text.length ≤ reachBytes ∧ (y13.Ranges.length * 2 ≤ reachBytes ∧ ∀ y14 ∈ y13.Ranges,(InR .u8 y14.From ∧ InR .u8 y14.To)) ∧ InR .i64 y13.Least ∧ InR .i64 y13.Most)) ∧ y12.Next.length ≤ reachBytes)))) ∧ (x.Calls.length * 32 ≤ reachBytes ∧ ∀ y15 ∈ x.Calls,(y15.Name.length ≤ reachBytes ∧ InR .i64 y15.ID ∧ InR .i64 y15.Source)))):=fun h hz=>by
 obtain ⟨hl,hf⟩:=qhe Tryz.underlying41 h hz
 obtain ⟨c0,c1,rfl⟩:=len2 (hl.trans ce41)
 obtain ⟨a0,h0,q0⟩:=hf 0 _ 1 rfl ce39 (qif 40 (of_decide_eq_true (by kernel_rfl)) (Nat.succ_pos _) Tryz.underlying39 qri (Nat.succ_pos _) qtI)
 obtain ⟨a1,h1,q1⟩:=hf 1 _ 1 rfl ce22 (qif 32 (of_decide_eq_true (by kernel_rfl)) (Nat.succ_pos _) Tryz.underlying22 ce66 (Nat.succ_pos _) o_66)
 have h0:(pL 2 qbT) _ [c0] a0:=h0
 have h1:(pL 3 qdD) _ [c1] a1:=h1
 exact ⟨⟨a0,a1⟩,⟨c0,c1,rfl,h0,h1⟩,⟨q0,q1⟩⟩
theorem qlj {W:World} (h:laidMetH Tryz.prog Rows.extractTwiceRow.laid W):Tab W:=by
 rw [MakeChecks.laidMetH_plain _ _ _ (by kernel_rfl)] at h
 exact Lib.tabIs_of_head (g:=1) (t:=231) (e:=214) (by kernel_rfl) (by kernel_rfl) Tryz.underlying231 (by kernel_rfl) (by kernel_rfl) (by kernel_rfl) (show laidMet Tryz.prog (("internal/strconv.uint64pow10",Lib.tabData .u64 Lib.pow10Tab) :: _) W from laidMet.tail (x:=_) (laidMet.tail (x:=_) h))
set_option maxRecDepth 100000 in
theorem qjI (hp:∀ x0 x1,((x0.Script.length * 40 ≤ reachBytes ∧ ∀ y6 ∈ x0.Script,(y6.Name.length ≤ reachBytes ∧ (y6.Rules.length * 56 ≤ reachBytes ∧ ∀ y7 ∈ y6.Rules,(y7.Kind.length ≤ reachBytes ∧ (y7.Items.length * 64 ≤ reachBytes ∧ ∀ y8 ∈ y7.Items,(y8.Text.length ≤ reachBytes ∧ (y8.Ranges.length * 2 ≤ reachBytes ∧ ∀ y9 ∈ y8.Ranges,(InR .u8 y9.From ∧ InR .u8 y9.To)) ∧ InR .i64 y8.Least ∧ InR .i64 y8.Most)) ∧ y7.Next.length ≤ reachBytes)))) ∧ (x0.Calls.length * 32 ≤ reachBytes ∧ ∀ y10 ∈ x0.Calls,(y10.Name.length ≤ reachBytes ∧ InR .i64 y10.ID ∧ InR .i64 y10.Source))) → (x1.length ≤ reachBytes) → ∃ N,qbN N x0 x1 = some true) (os:Os) (started:os.Started) (H:Type) (enc:TypeId × Value → H) :
  ReturnsInHanded {} Tryz.checked os 5 .any (fun w args=>(Rows.extractTwiceSpec.pre enc Tryz.prog Tryz.f5 [] false w args ∧ laidMetH Tryz.prog Rows.extractTwiceRow.laid w) ∧ sizedMet enc Tryz.prog Tryz.f5 (OpenSpec.ofChange Rows.extractTwiceSpec) false w args)
   (Rows.extractTwiceSpec.post enc Tryz.prog Tryz.f5 false true false false):=by
 refine qkp (C:=Tryz.checked) (X:=fun w _=>laidMetH Tryz.prog Rows.extractTwiceRow.laid w) (fun _ _ _ hh h=>laidMetH.of_heap hh h) own started (by kernel_rfl) Tryz.func5
  (ChangeSpec.witness_shaped (enc:=enc) (C:=Tryz.checked) (os:=os) (X:=fun w _=>laidMetH Tryz.prog Rows.extractTwiceRow.laid w) false (World.laidAll Tryz.prog os Rows.extractTwiceRow.laid) #[.agg #[.slice none 0 0,.slice none 0 0],.string (bs [])] 8 (World.laidAll_os _ _ _)
   (World.shaped_of_ZipB (by kernel_rfl) (by kernel_rfl)) (by kernel_rfl) (by kernel_rfl) (by kernel_rfl)
   (by rw [MakeChecks.laidMetH_plain _ _ _ (by kernel_rfl)]; exact laidMet_laidAll _ (by kernel_rfl) (by kernel_rfl))) ?_
 intro W base args ds gs before hval0 hW hsh hX hz
 have hval:∀ (j:Nat) t v,Tryz.f5.params[j]? = some t → args[j]? = some v → Value.okWide Tryz.prog W .any base t v:=hval0
 have hW':=hW
 obtain ⟨p,q,hA0,hV,rfl,_,_⟩:=hW
 have hA:DataW.TrodAll enc Tryz.prog W 0 (fun _=>true) true Tryz.f5.params.toList args.toList ds p:=hA0
 rw [Tryz.params5] at hA hval
 obtain ⟨v0,v1,d0,d1,p0,p1,rfl,rfl,rfl,k0,k1⟩:=trodAll_two hA
 obtain ⟨rfl,rfl⟩:=trodVars_none hV
 obtain ⟨fu0,hf0⟩:=id k0
 have hz0:∀ n ∈ d0.weights Tryz.prog 41,n ≤ reachBytes:=fun n hn=>by
  have:=List.all_eq_true.1 hz n (DataW.weights_mem_each (j:=0) (t:=41) (d:=d0) (by rw [Tryz.params5]; rfl) rfl n hn)
  simpa using this
 obtain ⟨s0,rfl,_⟩:=okWide_struct Tryz.underlying41 (hval 0 41 v0 rfl rfl)
 obtain ⟨a0,r0,q0⟩:=o_41 hf0 hz0
 obtain ⟨fu1,hf1⟩:=id k1
 have hz1:∀ n ∈ d1.weights Tryz.prog 9,n ≤ reachBytes:=fun n hn=>by
  have:=List.all_eq_true.1 hz n (DataW.weights_mem_each (j:=1) (t:=9) (d:=d1) (by rw [Tryz.params5]; rfl) rfl n hn)
  simpa using this
 obtain ⟨s1,rfl⟩:=okWide_string Tryz.underlying9 (hval 1 9 v1 rfl rfl)
 obtain ⟨a1,r1,q1⟩:=(qkK Tryz.underlying9) hf1 hz1
 obtain ⟨e1,l1⟩:=qi9 (show pS (hm W) [.string s1] a1 from r1)
 clear hA0 hval0
 have hlt:∀ x ∈ p0 ++ p1,x.block < W.heap.size:=fun x hx=>by
  refine hW'.lt x ?_
  simpa using hx
 have hlt0:∀ x ∈ p0,x.block < W.heap.size:=fun x hx=>hlt x (by simp [hx])
 have hlt1:∀ x ∈ p1,x.block < W.heap.size:=fun x hx=>hlt x (by simp [hx])
 obtain ⟨N,hN⟩:=hp a0 a1 q0 q1
 have hw:=qhQ N s0.toList a0 r0 a1 l1 hN (qrH hsh) (qlj hX) (Ok.start W)
 rw [← e1] at hw
 refine hw.mono fun e W' ⟨he,ok⟩=>?_
 subst he
 have hn:=ok.below
 have t0:=Below.trod qom (by kernel_rfl) (of_decide_eq_true (by kernel_rfl)) k0 hn hlt0
 have t1:=Below.trod qom (by kernel_rfl) (of_decide_eq_true (by kernel_rfl)) k1 hn hlt1
 refine ⟨_,rfl,_,_,_,[],p0 ++ p1,[],hW',?_,?_,rfl,hn.frame _,fun h=>by cases h⟩
 ·exact trodAll_mk1 (qp8 true)
 ·exact trodAll_mk2 t0 t1
theorem qkl (hp:∀ x0 x1,((x0.Script.length * 40 ≤ reachBytes ∧ ∀ y6 ∈ x0.Script,(y6.Name.length ≤ reachBytes ∧ (y6.Rules.length * 56 ≤ reachBytes ∧ ∀ y7 ∈ y6.Rules,(y7.Kind.length ≤ reachBytes ∧ (y7.Items.length * 64 ≤ reachBytes ∧ ∀ y8 ∈ y7.Items,(y8.Text.length ≤ reachBytes ∧ (y8.Ranges.length * 2 ≤ reachBytes ∧ ∀ y9 ∈ y8.Ranges,(InR .u8 y9.From ∧ InR .u8 y9.To)) ∧ InR .i64 y8.Least ∧ InR .i64 y8.Most)) ∧ y7.Next.length ≤ reachBytes)))) ∧ (x0.Calls.length * 32 ≤ reachBytes ∧ ∀ y10 ∈ x0.Calls,(y10.Name.length ≤ reachBytes ∧ InR .i64 y10.ID ∧ InR .i64 y10.Source))) → (x1.length ≤ reachBytes) → ∃ N,qbN N x0 x1 = some true):Rows.ExtractTwiceSaid :=
 OpenClaim.holds_of_wide 5 Tryz.f5 rfl rfl rfl rfl rfl rfl rfl ⟨rfl,rfl,rfl,rfl,rfl⟩ rfl rfl rfl rfl rfl (by kernel_rfl) Tryz.func5 (by kernel_rfl)
  (of_decide_eq_true (by kernel_rfl)) (by unfold Func.isWrapper; rw [if_neg (of_decide_eq_false (by kernel_rfl))]; exact ⟨rfl,rfl⟩)
  (fun os started H enc _=>qjI hp os started H enc)
set_option maxRecDepth 100000 in
theorem qkU (hp:∀ x0 x1,((x0.Script.length * 40 ≤ reachBytes ∧ ∀ y6 ∈ x0.Script,(y6.Name.length ≤ reachBytes ∧ (y6.Rules.length * 56 ≤ reachBytes ∧ ∀ y7 ∈ y6.Rules,(y7.Kind.length ≤ reachBytes ∧ (y7.Items.length * 64 ≤ reachBytes ∧ ∀ y8 ∈ y7.Items,(y8.Text.length ≤ reachBytes ∧ (y8.Ranges.length * 2 ≤ reachBytes ∧ ∀ y9 ∈ y8.Ranges,(InR .u8 y9.From ∧ InR .u8 y9.To)) ∧ InR .i64 y8.Least ∧ InR .i64 y8.Most)) ∧ y7.Next.length ≤ reachBytes)))) ∧ (x0.Calls.length * 32 ≤ reachBytes ∧ ∀ y10 ∈ x0.Calls,(y10.Name.length ≤ reachBytes ∧ InR .i64 y10.ID ∧ InR .i64 y10.Source))) → (x1.length ≤ reachBytes) → ∃ N,qbN N x0 x1 = some true):Rows.ExtractTwiceCardSaid :=
 Claim7.holds_tied_plain_at .later [] [.data,.data,.data,.data,.pinned] true (true, "e41d8787e74db97e4c01b0006a6740286e1baea1c5dbefd0607aae296ef58d28") false (qkl hp) (fun _ h=>by cases h) (by kernel_rfl) (fun _ h=>by cases h) extractTwice_row_tie rfl ⟨rfl,rfl⟩ (by kernel_rfl) rfl
  (fun f fn hf hfn=>by
   obtain rfl:f = 5:=Option.some.inj ((show Tryz.prog.funcNamed "calque/calquelaw45.ExtractTwice" = some 5 by kernel_rfl).symm.trans hf) |>.symm
   obtain rfl:fn = Tryz.f5:=(Option.some.inj (Tryz.func5.symm.trans hfn)).symm
   exact ⟨by kernel_rfl,fun j t ht=>by
    rw [Tryz.params5] at ht
    have hm:t ∈ [41,9]:=by simpa using Array.mem_of_getElem? ht
    have hall:([41,9].all fun u=>!Tryz.prog.wantsStandIn u) = true:=by kernel_rfl
    exact (show Tryz.prog.wantsStandIn t = false by simpa using List.all_eq_true.1 hall t hm)⟩)
  (by kernel_rfl)
end Go.Proofs.YtllfckekodcdaaaGreatDoor
namespace Go.X
theorem qhm {a b:List UInt8} (h:a.length + b.length ≤ 1000000):cat a b = some (a ++ b):=by
 unfold cat; rw [if_pos (by unfold LIMS; omega)]
end Go.X
namespace Go.X
def run {σ α β:Type} (f:σ → α → σ ⊕ β) (fin:σ → β):σ → List α → β
 | s,[]=>fin s
 | s,x :: xs=>match f s x with
  | .inl s'=>run f fin s' xs
  | .inr b=>b
theorem qqg {σ τ α β:Type} {body:τ → Option (τ ⊕ β)} (mkS:σ → Int → τ) (xs:List α) (f:σ → α → σ ⊕ β) (fin:σ → β) (I:Nat → σ → Prop)
  (h1:∀ s (k:Nat) x,xs[k]? = some x → I k s → body (mkS s k) = some (match f s x with | .inl s'=>.inl (mkS s' ((k:Int) + 1)) | .inr b=>.inr b) ∧ ∀ s',f s x = .inl s' → I (k + 1) s')
  (h2:∀ s,I xs.length s → body (mkS s xs.length) = some (.inr (fin s))) :
  ∀ N s,xs.length < N → I 0 s → iter body N (mkS s 0) = some (run f fin s xs):=by
 have key:∀ j k N s,k + j = xs.length → j < N → I k s → iter body N (mkS s (k:Int)) = some (run f fin s (xs.drop k)):=by
  intro j
  induction j with
  | zero =>
   intro k N s hk hN hI
   obtain ⟨N,rfl⟩:∃ M,N = M + 1:=⟨N - 1,by omega⟩
   have e:xs.drop k = []:=List.drop_eq_nil_of_le (by omega)
   obtain rfl:k = xs.length:=by omega
   rw [iter,h2 s hI,e]; rfl
  | succ j ih =>
   intro k N s hk hN hI
   obtain ⟨N,rfl⟩:∃ M,N = M + 1:=⟨N - 1,by omega⟩
   have hlt:k < xs.length:=by omega
   have e:xs.drop k = xs[k] :: xs.drop (k + 1):=List.drop_eq_getElem_cons hlt
   obtain ⟨h3,h4⟩:=h1 s k _ (List.getElem?_eq_getElem hlt) hI
   rw [iter,h3,e]
   simp only [run]
   cases hf:f s xs[k] with
   | inl s' =>
    simp only
    rw [show ((k:Int) + 1) = ((k + 1:Nat):Int) by omega]
    exact ih (k + 1) N s' (by omega) (by omega) (h4 s' hf)
   | inr b=>rfl
 intro N s hN hI
 have:=key xs.length 0 N s (by omega) hN hI
 simpa using this
theorem qpd {σ τ α β:Type} {body:τ → Option (τ ⊕ β)} (mkS:σ → Int → τ) (xs:List α) (f:σ → α → σ ⊕ β) (fin:σ → β)
  (h1:∀ s (k:Nat) x,xs[k]? = some x → body (mkS s k) = some (match f s x with | .inl s'=>.inl (mkS s' ((k:Int) + 1)) | .inr b=>.inr b))
  (h2:∀ s,body (mkS s xs.length) = some (.inr (fin s))) (N:Nat) (s:σ) (hN:xs.length < N):iter body N (mkS s 0) = some (run f fin s xs) :=
 qqg mkS xs f fin (fun _ _=>True) (fun s k x hx _=>⟨h1 s k x hx,fun _ _=>trivial⟩) (fun s _=>h2 s) N s hN trivial
theorem qpH {α:Type} {body:Int → Option (Int ⊕ (Unit ⊕ Int))} (xs:List α) (p:α → Bool)
  (h1:∀ (k:Nat) x,xs[k]? = some x → body k = some (if p x then .inr (.inr k) else .inl ((k:Int) + 1))) (h2:body xs.length = some (.inr (.inl ()))) (N:Nat) (hN:xs.length < N) :
  iter body N 0 = some (match xs.findIdx? p with | some k=>.inr (k:Int) | none=>.inl ()):=by
 have key:∀ j k N,k + j = xs.length → j < N → iter body N (k:Int) = some (match (xs.drop k).findIdx? p with | some i=>.inr ((k + i:Nat):Int) | none=>.inl ()):=by
  intro j
  induction j with
  | zero =>
   intro k N hk hN
   obtain ⟨N,rfl⟩:∃ M,N = M + 1:=⟨N - 1,by omega⟩
   have e:xs.drop k = []:=List.drop_eq_nil_of_le (by omega)
   obtain rfl:k = xs.length:=by omega
   rw [iter,h2,e]; rfl
  | succ j ih =>
   intro k N hk hN
   obtain ⟨N,rfl⟩:∃ M,N = M + 1:=⟨N - 1,by omega⟩
   have hlt:k < xs.length:=by omega
   have e:xs.drop k = xs[k] :: xs.drop (k + 1):=List.drop_eq_getElem_cons hlt
   rw [iter,h1 k _ (List.getElem?_eq_getElem hlt),e,List.findIdx?_cons]
   cases hp:p xs[k] with
   | true=>simp
   | false =>
    simp only [Bool.false_eq_true,if_false]
    rw [show ((k:Int) + 1) = ((k + 1:Nat):Int) by omega,ih (k + 1) N (by omega) (by omega)]
    cases (xs.drop (k + 1)).findIdx? p with
    | none=>rfl
    | some i=>simp only [Option.map_some]; congr 3; omega
 have:=key xs.length 0 N (by omega) hN
 simpa using this
theorem qqA {α:Type} (xs:List α) (p:α → Bool):((some (match xs.findIdx? p with | some k=>Sum.inr (k:Int) | none=>Sum.inl ()):Option (Unit ⊕ Int)).bind fun o=>Sum.elim (fun _=>some (-1)) (fun o=>some o) o) = some (match xs.findIdx? p with | some k=>(k:Int) | none=>-1):=by
 cases xs.findIdx? p <;> rfl
theorem qml {α:Type} (xs:List α) (p:α → Bool):decide ((match xs.findIdx? p with | some k=>(k:Int) | none=>-1) ≥ 0) = xs.any p:=by
 cases h:xs.findIdx? p with
 | none =>
  have:xs.any p = false:=by
   rw [List.any_eq_false]; intro x hx
   have:=List.findIdx?_eq_none_iff.1 h x hx
   simp [this]
  rw [this]; rfl
 | some k =>
  have:xs.any p = true:=by
   obtain ⟨x,hx,hp⟩:=List.findIdx?_eq_some_iff_getElem.1 h
   exact List.any_eq_true.2 ⟨_,List.getElem_mem x,by first | exact hx | exact hp.1 | exact hp⟩
  rw [this]
  simp
theorem qou {α:Type} (p:α → Bool):∀ xs:List α,run (σ:=Unit) (β:=Unit ⊕ Bool) (fun _ x=>if p x then .inl () else .inr (.inr false)) (fun _=>.inl ()) () xs = if xs.all p then .inl () else .inr false
 | []=>rfl
 | x :: xs=>by
  unfold run
  cases h:p x with
  | true=>simp only [if_true,qou p xs,List.all_cons,h,Bool.true_and]
  | false=>simp [h]
theorem qmE {α:Type} {body:Int → Option (Int ⊕ (Unit ⊕ Bool))} (p:α → Bool) (xs:List α) (h1:∀ (k:Nat) x,xs[k]? = some x → body k = some (if p x then .inl ((k:Int) + 1) else .inr (.inr false))) (h2:body xs.length = some (.inr (.inl ()))) (N:Nat) (hN:xs.length < N) :
  iter body N 0 = some (if xs.all p then .inl () else .inr false):=by
 rw [← qou p xs]
 refine qpd (σ:=Unit) (fun _ k=>k) xs _ _ (fun _ k x hx=>?_) (fun _=>h2) N () hN
 rw [h1 k x hx]
 cases p x <;> rfl
theorem qjl {α:Type} {xs:List α} {k:Nat} {x:α} (h:xs[k]? = some x):k < xs.length:=(List.getElem?_eq_some_iff.1 h).1
end Go.X
namespace Go.Proofs.YtllfckekodcdaaaGreatDoor
open Go.X
theorem qnC {σ β:Type} {body:σ → Option (σ ⊕ β)} (I:Nat → σ → Prop) (n:Nat) (Q:β → Prop) (hs:∀ i s,i < n → I i s → ∃ s',body s = some (.inl s') ∧ I (i + 1) s') (hd:∀ s,I n s → ∃ b,body s = some (.inr b) ∧ Q b) :
  ∀ N s,n < N → I 0 s → ∃ b,iter body N s = some b ∧ Q b:=by
 have key:∀ j k N s,k + j = n → j < N → I k s → ∃ b,iter body N s = some b ∧ Q b:=by
  intro j
  induction j with
  | zero =>
   intro k N s hk hN hI
   obtain ⟨N,rfl⟩:∃ M,N = M + 1:=⟨N - 1,by omega⟩
   have:k = n:=by omega
   subst this
   obtain ⟨b,h1,h2⟩:=hd s hI
   exact ⟨b,by simp only [iter,h1],h2⟩
  | succ j ih =>
   intro k N s hk hN hI
   obtain ⟨N,rfl⟩:∃ M,N = M + 1:=⟨N - 1,by omega⟩
   obtain ⟨s',h1,h2⟩:=hs k s (by omega) hI
   simp only [iter,h1]
   exact ih (k + 1) N s' (by omega) (by omega) h2
 exact fun N s hN hI=>key n 0 N s (by omega) hN hI
theorem qiV {σ β:Type} {body:σ → Option (σ ⊕ β)} (f:Nat → σ) (n:Nat) (b:β) {s0:σ} (h0:f 0 = s0) (hs:∀ i,i < n → body (f i) = some (.inl (f (i + 1)))) (hd:body (f n) = some (.inr b)) (N:Nat) (hN:n < N):iter body N s0 = some b:=by
 subst h0
 obtain ⟨b',h1,rfl⟩:=qnC (fun i s=>s = f i) n (fun b'=>b' = b) (fun i s hi h=>by subst h; exact ⟨_,hs i hi,rfl⟩) (fun s h=>by subst h; exact ⟨_,hd,rfl⟩) N (f 0) hN rfl
 exact h1
theorem qef {σ β γ:Type} {body:σ → Option (σ ⊕ β)} {g:β → Option γ} (f:Nat → σ) (n:Nat) (b:β) {s0:σ} (h0:f 0 = s0) {N:Nat} (hN:n < N) (hs:∀ i,i < n → body (f i) = some (.inl (f (i + 1)))) (hd:body (f n) = some (.inr b)):(iter body N s0).bind g = g b:=by
 rw [qiV f n b h0 hs hd N hN]; rfl
theorem ix {α:Type} (l:List α) (k:Nat):idx l (k:Int) = l[k]?:=by unfold idx; rw [if_pos (by omega)]; simp
theorem ixg {α:Type} {l:List α} {k:Nat} {x:α} (h:l[k]? = some x):idx l (k:Int) = some x:=by rw [ix,h]
theorem qcg {α:Type} {l:List α} {k:Nat} (h:k < l.length):∃ x,l[k]? = some x:=⟨_,List.getElem?_eq_getElem h⟩
theorem dk {k n:Nat} (h:k < n):decide ((k:Int) < (n:Int)) = true:=decide_eq_true (by omega)
theorem dn (n:Nat):decide ((n:Int) < (n:Int)) = false:=decide_eq_false (by omega)
theorem qfL {α:Type} {l:List α} {k:Nat} {x:α} (h:l[k]? = some x):l.take k ++ [x] = l.take (k + 1):=by rw [List.take_add_one,h]; rfl
theorem app1 {α:Type} {xs ys:List α} (h:xs.length + ys.length ≤ 4294967296):app xs ys = some (xs ++ ys):=by unfold app; rw [if_pos (by unfold LIM; exact h)]
theorem qm5 {α:Type} {B:Nat} {xs ys:List α} (h:(xs.length + ys.length) * B ≤ 140737488355328) (hB:0 < B):appw B xs ys = some (xs ++ ys):=by
 unfold appw
 refine if_pos ⟨h,Nat.le_trans (Nat.le_mul_of_pos_right _ hB) h⟩
def ItOk (x:Item):Prop:=x.Text.length ≤ reachBytes ∧ (x.Ranges.length * 2 ≤ reachBytes ∧ ∀ y ∈ x.Ranges,InR .u8 y.From ∧ InR .u8 y.To) ∧ InR .i64 x.Least ∧ InR .i64 x.Most
def RlOk (r:Rule):Prop:=r.Kind.length ≤ reachBytes ∧ (r.Items.length * 64 ≤ reachBytes ∧ ∀ y ∈ r.Items,ItOk y) ∧ r.Next.length ≤ reachBytes
def StOk (x:State):Prop:=x.Name.length ≤ reachBytes ∧ (x.Rules.length * 56 ≤ reachBytes ∧ ∀ y ∈ x.Rules,RlOk y)
def ScOk (s:List State):Prop:=s.length * 40 ≤ reachBytes ∧ ∀ y ∈ s,StOk y
def szI (x:Item):Nat:=x.Text.length + x.Ranges.length
def szL (l:List Item):Nat:=l.length + (l.map szI).sum
def szR (r:Rule):Nat:=r.Kind.length + r.Next.length + szL r.Items
def szS (x:State):Nat:=x.Name.length + (x.Rules.length + (x.Rules.map szR).sum)
def sz (s:List State):Nat:=s.length + (s.map szS).sum
theorem qkI {α:Type} {f:α → Nat}:∀ {l:List α} {x:α},x ∈ l → f x ≤ (l.map f).sum
 | y :: l,x,h=>by
  simp only [List.map_cons,List.sum_cons]
  rcases List.mem_cons.1 h with rfl | h
  ·omega
  ·have:=qkI (f:=f) h; omega
def SzL (N:Nat) (l:List Item):Prop:=l.length < N ∧ ∀ x ∈ l,x.Text.length < N ∧ x.Ranges.length < N
def SzR (N:Nat) (r:Rule):Prop:=r.Kind.length < N ∧ r.Next.length < N ∧ SzL N r.Items
def SzS (N:Nat) (x:State):Prop:=x.Name.length < N ∧ x.Rules.length < N ∧ ∀ r ∈ x.Rules,SzR N r
def Sz (N:Nat) (s:List State):Prop:=s.length < N ∧ ∀ x ∈ s,SzS N x
theorem SzL.of {N:Nat} {l:List Item} (h:szL l < N):SzL N l:=by
 unfold szL at h
 refine ⟨by omega,fun x hx=>?_⟩
 have:x.Text.length + x.Ranges.length ≤ (l.map szI).sum:=qkI (f:=szI) hx
 omega
theorem SzR.of {N:Nat} {r:Rule} (h:szR r < N):SzR N r:=by
 unfold szR at h
 exact ⟨by omega,by omega,SzL.of (by omega)⟩
theorem SzS.of {N:Nat} {x:State} (h:szS x < N):SzS N x:=by
 unfold szS at h
 refine ⟨by omega,by omega,fun r hr=>SzR.of ?_⟩
 have:=qkI (f:=szR) hr
 omega
theorem Sz.of {N:Nat} {s:List State} (h:sz s < N):Sz N s:=by
 unfold sz at h
 refine ⟨by omega,fun x hx=>SzS.of ?_⟩
 have:=qkI (f:=szS) hx
 omega
theorem qjk {n B:Nat} (h:n * B ≤ reachBytes):n * B ≤ 140737488355328:=by unfold reachBytes at h; omega
theorem qoe {N:Nat} {l:List Item} {i:Nat} {x:Item} (hi:l[i]? = some x) (hB:x.Ranges.length * 2 ≤ reachBytes) (hN:x.Ranges.length < N) :
  iter (fun s=>qcu N l i s.1 s.2) N ((0:Int),(Item.mk x.Text ([]) x.Not x.Least x.Most)) = some x:=by
 refine qiV (fun k:Nat=>((k:Int),Item.mk x.Text (x.Ranges.take k) x.Not x.Least x.Most)) x.Ranges.length x rfl (fun k hk=>?_) ?_ N hN
 ·obtain ⟨g,hg⟩:=qcg hk
  simp only [qcu,ixg hi,Option.bind_some,dk hk,cond_true,ixg hg]
  rw [qm5 (by
   simp only [List.length_take,List.length_cons,List.length_nil]
   have:=qjk hB
   have:(min k x.Ranges.length + (0 + 1)) * 2 ≤ x.Ranges.length * 2:=Nat.mul_le_mul_right _ (by omega)
   omega) (by decide)]
  simp only [Option.bind_some,qfL hg]
  rfl
 ·simp only [qcu,ixg hi,Option.bind_some,dn,cond_false,List.take_length]
theorem qqw {N:Nat} {l:List Item} (h:l.length * 64 ≤ reachBytes ∧ ∀ x ∈ l,ItOk x) (hs:SzL N l):qdU N l = some l:=by
 unfold qdU
 refine (qef (fun k:Nat=>(l.take k,(k:Int))) l.length l rfl hs.1 (fun k hk=>?_) ?_).trans rfl
 ·obtain ⟨x,hx⟩:=qcg hk
  have hm:=List.mem_of_getElem? hx
  simp only [qdg,dk hk,cond_true,ixg hx,Option.bind_some]
  rw [qoe hx (h.2 x hm).2.1.1 (hs.2 x hm).2]
  simp only [Option.bind_some]
  rw [qm5 (by
   simp only [List.length_take,List.length_cons,List.length_nil]
   have:=qjk h.1
   have:(min k l.length + (0 + 1)) * 64 ≤ l.length * 64:=Nat.mul_le_mul_right _ (by omega)
   omega) (by decide)]
  simp only [Option.bind_some,qfL hx]
  rfl
 ·simp only [qdg,dn,cond_false,List.take_length]
theorem qtd {N:Nat} {s:List State} (h:ScOk s) (hs:Sz N s):qdC N s = some s:=by
 unfold qdC
 refine (qef (fun k:Nat=>(s.take k,(k:Int))) s.length s rfl hs.1 (fun k hk=>?_) ?_).trans rfl
 ·obtain ⟨x,hx⟩:=qcg hk
  have hm:=List.mem_of_getElem? hx
  obtain ⟨hn,hr,hrl⟩:=h.2 x hm
  obtain ⟨_,gr,grl⟩:=hs.2 x hm
  simp only [qdA,dk hk,cond_true,ixg hx,Option.bind_some]
  refine (qef (fun j:Nat=>((j:Int),State.mk x.Name (x.Rules.take j))) x.Rules.length x rfl gr (fun j hj=>?_) ?_).trans ?_
  rotate_left 2
  ·rw [qm5 (by
    simp only [List.length_take,List.length_cons,List.length_nil]
    have:=qjk h.1
    have:(min k s.length + (0 + 1)) * 40 ≤ s.length * 40:=Nat.mul_le_mul_right _ (by omega)
    omega) (by decide)]
   simp only [Option.bind_some,qfL hx]
   rfl
  ·obtain ⟨r,hr'⟩:=qcg hj
   have hrm:=List.mem_of_getElem? hr'
   simp only [qdy,dk hj,cond_true,ixg hx,ixg hr',Option.bind_some]
   rw [qqw (hrl r hrm).2.1 (grl r hrm).2.2]
   simp only [Option.bind_some]
   rw [qm5 (by
    simp only [List.length_take,List.length_cons,List.length_nil]
    have:=qjk hr
    have:(min j x.Rules.length + (0 + 1)) * 56 ≤ x.Rules.length * 56:=Nat.mul_le_mul_right _ (by omega)
    omega) (by decide)]
   simp only [Option.bind_some,qfL hr']
   rfl
  ·simp only [qdy,ixg hx,Option.bind_some,dn,cond_false,List.take_length]
 ·simp only [qdA,dn,cond_false,List.take_length]
theorem qms {α:Type} {body:α × Int → Option ((α × Int) ⊕ α)} (n:Nat) (hs:∀ a (i:Nat),i < n → ∃ a',body (a,i) = some (.inl (a',(i:Int) + 1))) (hd:∀ a,∃ b,body (a,n) = some (.inr b)) {N:Nat} (hN:n < N) (a:α):∃ b,iter body N (a,0) = some b:=by
 obtain ⟨b,h,_⟩:=qnC (fun i s=>s.2 = (i:Int)) n (fun _=>True) (fun i s hi h=>by
  obtain ⟨a,c⟩:=s
  simp only at h
  subst h
  obtain ⟨a',h⟩:=hs a i hi
  exact ⟨_,h,rfl⟩) (fun s h=>by
  obtain ⟨a,c⟩:=s
  simp only at h
  subst h
  obtain ⟨b,h⟩:=hd a
  exact ⟨_,h,trivial⟩) N (a,0) hN rfl
 exact ⟨b,h⟩
theorem qqp {N:Nat} {s:List State} (hs:Sz N s):∃ b,qex N s = some b:=by
 have h3:∀ (r:Rule),SzR N r → ∀ a:Int,∃ b,iter (fun s':Int × Int=>qcY N r s'.1 s'.2) N (a,0) = some b:=fun r hr a=>by
  refine qms r.Items.length (fun a m hm=>?_) (fun a=>?_) hr.2.2.1 a
  ·obtain ⟨y,hy⟩:=qcg hm
   simp only [qcY,dk hm,cond_true,ixg hy,Option.bind_some]
   exact ⟨_,rfl⟩
  ·simp only [qcY,dn,cond_false]
   exact ⟨_,rfl⟩
 have h2:∀ (i:Nat) (x:State),s[i]? = some x → ∀ a:Int,∃ b,iter (fun s':Int × Int=>qcW N s i s'.1 s'.2) N (a,0) = some b:=fun i x hx a=>by
  obtain ⟨_,gr,grl⟩:=hs.2 x (List.mem_of_getElem? hx)
  refine qms x.Rules.length (fun a j hj=>?_) (fun a=>?_) gr a
  ·obtain ⟨r,hr⟩:=qcg hj
   simp only [qcW,ixg hx,Option.bind_some,dk hj,cond_true,ixg hr]
   obtain ⟨b,hb⟩:=h3 r (grl r (List.mem_of_getElem? hr)) (IntKind.wrap .i64 (a + (IntKind.wrap .i64 ((IntKind.wrap .i64 ((1:Int) + (IntKind.wrap .i64 ((r.Kind.length:Int).tdiv 20)))) + (IntKind.wrap .i64 ((r.Next.length:Int).tdiv 20))))))
   exact ⟨b,by rw [hb]; rfl⟩
  ·simp only [qcW,ixg hx,Option.bind_some,dn,cond_false]
   exact ⟨_,rfl⟩
 obtain ⟨b,hb⟩:=qms (body:=fun s':Int × Int=>qcS N s s'.1 s'.2) s.length (fun a i hi=>by
  obtain ⟨x,hx⟩:=qcg hi
  obtain ⟨b,hb⟩:=h2 i x hx a
  simp only [qcS,dk hi,cond_true,hb,Option.bind_some,ixg hx]
  exact ⟨_,rfl⟩) (fun a=>by
  simp only [qcS,dn,cond_false]
  exact ⟨_,rfl⟩) hs.1 0
 unfold qex
 exact ⟨_,by rw [hb]; rfl⟩
abbrev Str:=List UInt8
def hexd (n:Nat):UInt8:=UInt8.ofNat (if n < 10 then 48 + n else 87 + n)
def esc (br:Bool) (c:Nat):Str :=
 if c = 92 ∨ (br = false ∧ c = 34) ∨ (br = true ∧ (c = 91 ∨ c = 93 ∨ c = 94 ∨ c = 45)) then [92,UInt8.ofNat c]
 else if c < 32 ∨ 126 < c ∨ (br = true ∧ c = 32) then [92,120,hexd (c / 16),hexd (c % 16)]
 else [UInt8.ofNat c]
def okQ (N:Nat) (c:Nat):Bool:=qgw N (c:Int) == some (esc false c) && (qd4 N (c:Int) == some (esc true c) && (qc7 N (c:Int) false == some (esc false c) && qc7 N (c:Int) true == some (esc true c)))
set_option maxRecDepth 100000 in
theorem qsl (N:Nat):((List.range 256).all fun c=>okQ N c) = true:=by kernel_rfl
theorem qqc {N c:Nat} (h:c < 256):okQ N c = true:=List.all_eq_true.1 (qsl N) c (List.mem_range.2 h)
theorem qqb {N c:Nat} (h:c < 256):qgw N (c:Int) = some (esc false c):=by
 have:=qqc (N:=N) h
 unfold okQ at this
 simp only [Bool.and_eq_true,beq_iff_eq] at this
 exact this.1
theorem qkq {N c:Nat} (h:c < 256):qd4 N (c:Int) = some (esc true c):=by
 have:=qqc (N:=N) h
 unfold okQ at this
 simp only [Bool.and_eq_true,beq_iff_eq] at this
 exact this.2.1
theorem qhd (br:Bool) (c:Nat):(esc br c).length ≤ 4:=by
 unfold esc
 split
 ·simp
 ·split <;> simp
def qlX (x:Item):Str :=
 if x.Least = 1 ∧ x.Most = 1 then [] else if x.Least = 0 ∧ x.Most = 1 then [63] else if x.Least = 0 ∧ x.Most = -1 then [42] else if x.Least = 1 ∧ x.Most = -1 then [43] else []
def qjd (x:Item):Prop:=(x.Least = 1 ∨ x.Least = 0) ∧ (x.Most = 1 ∨ x.Most = -1)
instance (x:Item):Decidable (qjd x):=by unfold qjd; infer_instance
def qfw (g:Range):Str:=esc true g.From.toNat ++ if g.To = g.From then [] else 45 :: esc true g.To.toNat
def qlz (x:Item):Str :=
 if x.Text = [] then [91] ++ (if x.Not then [94] else []) ++ x.Ranges.flatMap qfw ++ [93] else [34] ++ x.Text.flatMap (fun c=>esc false c.toNat) ++ [34]
def qgB (x:Item):Str:=qlz x ++ qlX x
def qh4 (r:Rule):Str:=r.Kind ++ r.Items.flatMap (fun x=>32 :: qgB x) ++ if r.Next = [] then [] else [32,45,62,32] ++ r.Next
def qg0 (x:State):Str:=([115,116,97,116,101,32] ++ x.Name ++ [10]) ++ x.Rules.flatMap (fun r=>qh4 r ++ [10])
def qpm (s:List State):Str:=s.flatMap qg0
def word (w:Str):Bool:=w.all (fun c=>decide (97 ≤ c.toNat ∧ c.toNat ≤ 122)) && (decide (1 ≤ w.length) && decide (w.length ≤ 16))
def ItP (x:Item):Prop:=qjd x ∧ if x.Text = [] then (1 ≤ x.Ranges.length ∧ x.Ranges.length ≤ 20) ∧ ∀ g ∈ x.Ranges,g.From ≤ g.To else x.Text.length ≤ 40 ∧ x.Ranges = [] ∧ x.Not = false
def InB (x:Item):Prop:=∀ g ∈ x.Ranges,InR .u8 g.From ∧ InR .u8 g.To
def RlP (r:Rule):Prop:=word r.Kind = true ∧ (1 ≤ r.Items.length ∧ r.Items.length ≤ 20) ∧ ∀ x ∈ r.Items,ItP x
theorem inr8 {x:Int} (h:InR .u8 x):∃ n:Nat,x = (n:Int) ∧ n < 256 ∧ x.toNat = n:=by
 have:=qjT.1 h
 exact ⟨x.toNat,by omega,by omega,rfl⟩
theorem u8lt (c:UInt8):c.toNat < 256:=c.toNat_lt
theorem qh9 {α:Type} (f:α → Str) (B:Nat):∀ l:List α,(∀ x ∈ l,(f x).length ≤ B) → (l.flatMap f).length ≤ l.length * B
 | [],_=>by simp
 | x :: l,h=>by
  simp only [List.flatMap_cons,List.length_append,List.length_cons,Nat.add_mul]
  have h1:=h x (by simp)
  have h2:=qh9 f B l (fun y hy=>h y (by simp [hy]))
  omega
theorem qlS (g:Range):(qfw g).length ≤ 9:=by
 unfold qfw
 have:=qhd true g.From.toNat
 have:=qhd true g.To.toNat
 split <;> simp <;> omega
theorem qmG (x:Item):(qlX x).length ≤ 1:=by
 unfold qlX
 repeat' split
 all_goals decide
theorem qp2 {x:Item} (h:ItP x):(qlz x).length ≤ 200:=by
 unfold qlz
 obtain ⟨_,h⟩:=h
 split
 ·rename_i h0
  rw [if_pos h0] at h
  have:=qh9 qfw 9 x.Ranges (fun g _=>qlS g)
  cases x.Not <;> simp [-List.length_flatMap] <;> omega
 ·rename_i h0
  rw [if_neg h0] at h
  have:=qh9 (fun c:UInt8=>esc false c.toNat) 4 x.Text (fun c _=>qhd _ _)
  simp [-List.length_flatMap]; omega
theorem qmw {x:Item} (h:ItP x):(qgB x).length ≤ 201:=by
 have:=qp2 h
 have:=qmG x
 unfold qgB
 simp; omega
theorem qic {w:Str} (h:word w = true):1 ≤ w.length ∧ w.length ≤ 16:=by
 unfold word at h
 simp only [Bool.and_eq_true,decide_eq_true_eq] at h
 exact h.2
theorem qps {r:Rule} (h:RlP r):(r.Items.flatMap (fun x=>32 :: qgB x)).length ≤ 4040:=by
 have:=qh9 (fun x=>32 :: qgB x) 202 r.Items (fun x hx=>by have:=qmw (h.2.2 x hx); simp; omega)
 have:=h.2.1
 omega
theorem qkn {r:Rule} (h:RlP r) (hn:r.Next.length ≤ 16):(qh4 r).length ≤ 4080:=by
 have:=qps h
 have:=qic h.1
 unfold qh4
 split <;> simp [-List.length_flatMap] <;> omega
def bld (l:Str):Builder:=⟨(),ints l⟩
theorem qno (a b:Str):ints a ++ ints b = ints (a ++ b):=by simp [ints]
theorem qiG (l:Str):bytesOf (ints l) = l:=qmO l
theorem wstr {N:Nat} {l t:Str} (h:l.length + t.length ≤ 4294967296):qaA N t (bld l) = some ((t.length:Int),(),bld (l ++ t)):=by
 unfold qaA bld
 rw [app1 (by simpa [ints] using h),qno]
 rfl
theorem qlC {N:Nat} {l:Str} {c:Nat} (hc:c < 256) (h:l.length < 4294967296):qaX N (c:Int) (bld l) = some ((),bld (l ++ [UInt8.ofNat c])):=by
 unfold qaX bld
 have e:([(c:Int)]:List Int) = ints [UInt8.ofNat c]:=by simp [ints]; omega
 rw [app1 (by simp [ints]; omega),e,qno]
 rfl
theorem qbM (b:Builder):Builder.mk () b.buf = b:=rfl
theorem beqd (a b:Int):(a == b) = decide (a = b):=rfl
theorem qoP (N:Nat) (x:Item):qgJ N x = some (qlX x,decide (qjd x)):=by
 unfold qgJ qlX qjd
 simp only [beqd]
 by_cases h1:x.Least = 1 <;> by_cases h0:x.Least = 0 <;> by_cases h2:x.Most = 1 <;> by_cases h3:x.Most = -1 <;> simp [h1,h0,h2,h3]
theorem cat1 {a b:Str} (h:a.length + b.length ≤ 1000000000):cat a b = some (a ++ b):=by unfold cat; rw [if_pos (by unfold LIMS; omega)]
theorem qhE {α:Type} (f:α → Str) {l:List α} {k:Nat} {x:α} (h:l[k]? = some x):(l.take k).flatMap f ++ f x = (l.take (k + 1)).flatMap f:=by
 rw [← qfL h]; simp
theorem qiS {α:Type} (f:α → Str) (B:Nat) (l:List α) (k:Nat) (h:∀ x ∈ l,(f x).length ≤ B):((l.take k).flatMap f).length ≤ l.length * B:=by
 have h1:=qh9 f B (l.take k) (fun x hx=>h x (List.mem_of_mem_take hx))
 have h2:(l.take k).length * B ≤ l.length * B:=Nat.mul_le_mul_right _ (by simp; omega)
 omega
theorem qnl {N:Nat} {x:Item} (h:ItP x) (hb:InB x) {l:Str} (hl:l.length ≤ 1000000000) (hN:100 ≤ N):qhO N x (bld l) = some (bld (l ++ qgB x)):=by
 unfold qhO
 obtain ⟨hm,h⟩:=h
 simp only [qoP,Option.bind_some,qbM]
 have hml:=qmG x
 by_cases h0:x.Text = []
 ·rw [if_pos h0] at h
  have e0:(x.Text != ([]:Str)) = false:=by rw [h0]; rfl
  have fl:=fun k=>qiS qfw 9 x.Ranges k (fun g _=>qlS g)
  simp only [e0,cond_false]
  rw [show (91:Int) = ((91:Nat):Int) from rfl,qlC (by decide) (by omega)]
  simp only [Option.bind_some,qbM]
  have hnot:(bif x.Not then (qaX N 94 (bld (l ++ [91]))).bind fun r98=>some r98.2 else some (bld (l ++ [91]))) = some (bld (l ++ [91] ++ if x.Not then [94] else [])):=by
   cases x.Not with
   | false=>simp
   | true =>
    simp only [cond_true,if_true]
    rw [show (94:Int) = ((94:Nat):Int) from rfl,qlC (by decide) (by simp [-List.length_flatMap]; omega)]
    rfl
  have hnl:(if x.Not then ([94]:Str) else []).length ≤ 1:=by cases x.Not <;> decide
  rw [show UInt8.ofNat 91 = 91 from rfl] at *
  rw [hnot]
  simp only [Option.bind_some,qbM]
  refine (qef (fun k:Nat=>((k:Int),bld (l ++ [91] ++ (if x.Not then [94] else []) ++ (x.Ranges.take k).flatMap qfw))) x.Ranges.length (bld (l ++ [91] ++ (if x.Not then [94] else []) ++ x.Ranges.flatMap qfw)) (by simp) (by omega) (fun k hk=>?_) ?_).trans ?_
  ·obtain ⟨g,hg⟩:=qcg hk
   obtain ⟨hf,ht⟩:=hb g (List.mem_of_getElem? hg)
   obtain ⟨f,hf1,hf2,hf3⟩:=inr8 hf
   obtain ⟨t,ht1,ht2,ht3⟩:=inr8 ht
   have:=fl k
   have hef:=qhd true f
   have het:=qhd true t
   simp only [qf3,dk hk,cond_true,ixg hg,Option.bind_some,qbM]
   rw [hf1,qkq hf2]
   simp only [Option.bind_some]
   rw [wstr (by simp [-List.length_flatMap]; omega)]
   simp only [Option.bind_some,qbM]
   rw [← qhE qfw hg]
   by_cases he:g.To = g.From
   ·have hr:qfw g = esc true f:=by unfold qfw; rw [if_pos he,hf3,List.append_nil]
    have:(g.To != (f:Int)) = false:=by rw [he,hf1]; simp
    rw [this,hr]
    simp
   ·have hr:qfw g = esc true f ++ 45 :: esc true t:=by unfold qfw; rw [if_neg he,hf3,ht3]
    have:(g.To != (f:Int)) = true:=by rw [← hf1]; simpa using he
    rw [this,hr,ht1,qkq ht2]
    simp only [cond_true,Option.bind_some]
    rw [cat1 (by simp [-List.length_flatMap]; omega)]
    simp only [Option.bind_some]
    rw [wstr (by simp [-List.length_flatMap]; omega)]
    simp [qbM]
  ·simp only [qf3,dn,cond_false,qbM,List.take_length]
  ·rw [cat1 (by simp [-List.length_flatMap]; omega)]
   simp only [Option.bind_some,qbM]
   have:=fl x.Ranges.length
   rw [List.take_length] at this
   rw [wstr (by simp [-List.length_flatMap]; omega)]
   simp only [Option.bind_some,qbM,qgB,qlz,if_pos h0]
   simp
 ·rw [if_neg h0] at h
  have e0:(x.Text != ([]:Str)) = true:=by simpa using h0
  have fl:=fun k=>qiS (fun c:UInt8=>esc false c.toNat) 4 x.Text k (fun c _=>qhd _ _)
  simp only [e0,cond_true]
  rw [show (34:Int) = ((34:Nat):Int) from rfl,qlC (by decide) (by omega)]
  simp only [Option.bind_some,qbM]
  refine (qef (fun k:Nat=>((k:Int),bld (l ++ [34] ++ (x.Text.take k).flatMap (fun c=>esc false c.toNat)))) x.Text.length (bld (l ++ [34] ++ x.Text.flatMap (fun c=>esc false c.toNat))) (by simp) (by omega) (fun k hk=>?_) ?_).trans ?_
  ·obtain ⟨c,hc⟩:=qcg hk
   have:=fl k
   have hec:=qhd false c.toNat
   simp only [qfW,dk hk,cond_true,ixg hc,Option.bind_some,qbM]
   rw [qqb (u8lt c)]
   simp only [Option.bind_some]
   rw [wstr (by simp [-List.length_flatMap]; omega)]
   simp only [Option.bind_some,qbM]
   rw [← qhE (fun c:UInt8=>esc false c.toNat) hc]
   simp
  ·simp only [qfW,dn,cond_false,qbM,List.take_length]
  ·rw [cat1 (by simp [-List.length_flatMap]; omega)]
   simp only [Option.bind_some,qbM]
   have:=fl x.Text.length
   rw [List.take_length] at this
   rw [wstr (by simp [-List.length_flatMap]; omega)]
   simp only [Option.bind_some,qbM,qgB,qlz,if_neg h0]
   simp
theorem qnu {N:Nat} {r:Rule} (h:RlP r) (hn:r.Next.length ≤ 16) (hb:∀ x ∈ r.Items,InB x) (hN:100 ≤ N):qhG N r = some (qh4 r):=by
 unfold qhG
 have hk:=qic h.1
 have fl:=fun k=>qiS (fun x=>32 :: qgB x) 202 r.Items k (fun x hx=>by have:=qmw (h.2.2 x hx); simp; omega)
 have hI:=h.2.1
 have e:Builder.mk () ([]) = bld []:=rfl
 rw [e,wstr (by simp [-List.length_flatMap]; omega)]
 simp only [Option.bind_some,qbM,List.nil_append]
 refine (qef (fun k:Nat=>((k:Int),bld (r.Kind ++ (r.Items.take k).flatMap (fun x=>32 :: qgB x)))) r.Items.length (bld (r.Kind ++ r.Items.flatMap (fun x=>32 :: qgB x))) (by simp) (by omega) (fun k hk=>?_) ?_).trans ?_
 ·obtain ⟨x,hx⟩:=qcg hk
  have hm:=List.mem_of_getElem? hx
  have:=fl k
  simp only [qgb,dk hk,cond_true,ixg hx,Option.bind_some,qbM]
  rw [show (32:Int) = ((32:Nat):Int) from rfl,qlC (by decide) (by simp [-List.length_flatMap]; omega)]
  simp only [Option.bind_some,qbM]
  rw [qnl (h.2.2 x hm) (hb x hm) (by simp [-List.length_flatMap]; omega) hN]
  simp only [Option.bind_some,qbM]
  rw [← qhE (fun x=>32 :: qgB x) hx]
  simp
 ·simp only [qgb,dn,cond_false,qbM,List.take_length]
 ·have:=fl r.Items.length
  rw [List.take_length] at this
  unfold qh4
  by_cases h0:r.Next = []
  ·have e0:(r.Next != ([]:Str)) = false:=by rw [h0]; rfl
   simp only [e0,cond_false,if_pos h0,bld,qiG]
   simp
  ·have e0:(r.Next != ([]:Str)) = true:=by simpa using h0
   simp only [e0,cond_true,if_neg h0]
   rw [cat1 (by simp [-List.length_flatMap]; omega)]
   simp only [Option.bind_some,qbM]
   rw [wstr (by simp [-List.length_flatMap]; omega)]
   simp only [Option.bind_some,bld,qiG]
structure Vs (s:List State):Prop where
 len:1 ≤ s.length ∧ s.length ≤ 20
 name:∀ x ∈ s,word x.Name = true
 rules:∀ x ∈ s,1 ≤ x.Rules.length ∧ x.Rules.length ≤ 40
 rl:∀ x ∈ s,∀ r ∈ x.Rules,RlP r ∧ (r.Next = [] ∨ r.Next ∈ s.map State.Name)
 nd:(s.map State.Name).Nodup
theorem Vs.next {s:List State} (h:Vs s) {x:State} (hx:x ∈ s) {r:Rule} (hr:r ∈ x.Rules):r.Next.length ≤ 16:=by
 rcases (h.rl x hx r hr).2 with h1 | h1
 ·rw [h1]; decide
 ·obtain ⟨y,hy,e⟩:=List.mem_map.1 h1
  rw [← e]; exact (qic (h.name y hy)).2
theorem qpf {s:List State} (h:Vs s) {x:State} (hx:x ∈ s):(qg0 x).length ≤ 170000:=by
 unfold qg0
 have h1:=qic (h.name x hx)
 have h2:=h.rules x hx
 have h3:=qh9 (fun r=>qh4 r ++ [10]) 4081 x.Rules (fun r hr=>by have:=qkn (h.rl x hx r hr).1 (h.next hx hr); simp; omega)
 simp [-List.length_flatMap]; omega
theorem qnR {N:Nat} {s:List State} (h:Vs s) (hb:∀ x ∈ s,∀ r ∈ x.Rules,∀ y ∈ r.Items,InB y) (hN:100 ≤ N):qhK N s = some (qpm s):=by
 unfold qhK
 have hl:=h.len
 have fl:=fun k=>qiS qg0 170000 s k (fun x hx=>qpf h hx)
 have e:Builder.mk () ([]) = bld []:=rfl
 rw [e]
 refine (qef (fun k:Nat=>((k:Int),bld ((s.take k).flatMap qg0))) s.length (bld (qpm s)) (by simp) (by omega) (fun k hk=>?_) ?_).trans ?_
 ·obtain ⟨x,hx⟩:=qcg hk
  have hm:=List.mem_of_getElem? hx
  have h1:=qic (h.name x hm)
  have h2:=h.rules x hm
  have:=fl k
  have fl2:=fun j=>qiS (fun r=>qh4 r ++ [10]) 4081 x.Rules j (fun r hr=>by have:=qkn (h.rl x hm r hr).1 (h.next hm hr); simp; omega)
  simp only [qfZ,dk hk,cond_true,ixg hx,Option.bind_some,qbM]
  rw [cat1 (by simp; omega)]
  simp only [Option.bind_some]
  rw [cat1 (by simp; omega)]
  simp only [Option.bind_some]
  rw [wstr (by simp [-List.length_flatMap]; omega)]
  simp only [Option.bind_some,qbM]
  refine (qef (fun j:Nat=>((j:Int),bld ((s.take k).flatMap qg0 ++ ([115,116,97,116,101,32] ++ x.Name ++ [10]) ++ (x.Rules.take j).flatMap (fun r=>qh4 r ++ [10])))) x.Rules.length (bld ((s.take (k + 1)).flatMap qg0)) (by simp) (by omega) (fun j hj=>?_) ?_).trans ?_
  ·obtain ⟨r,hr⟩:=qcg hj
   have hrm:=List.mem_of_getElem? hr
   have hll:=qkn (h.rl x hm r hrm).1 (h.next hm hrm)
   have:=fl2 j
   simp only [qga,dk hj,cond_true,ixg hr,Option.bind_some,qbM]
   rw [qnu (h.rl x hm r hrm).1 (h.next hm hrm) (hb x hm r hrm) hN]
   simp only [Option.bind_some]
   rw [cat1 (by simp; omega)]
   simp only [Option.bind_some]
   rw [wstr (by simp [-List.length_flatMap]; omega)]
   simp only [Option.bind_some,qbM]
   rw [← qhE (fun r=>qh4 r ++ [10]) hr]
   simp
  ·simp only [qga,dn,cond_false,qbM,List.take_length]
   rw [← qhE qg0 hx]
   simp [qg0]
  ·rfl
 ·simp only [qfZ,dn,cond_false,qbM,List.take_length]
  rfl
 ·simp only [bld,qiG]
end Go.Proofs.YtllfckekodcdaaaGreatDoor
namespace Go.Proofs.YtllfckekodcdaaaGreatDoor
open Go.X
def qb8 (o:Option Bool) (P:Prop):Prop:=∃ b,o = some b ∧ (b = true ↔ P)
theorem qb8.yes {o:Option Bool} {P:Prop} (h:o = some true) (p:P):qb8 o P:=⟨true,h,by simp [p]⟩
theorem qb8.no {o:Option Bool} {P:Prop} (h:o = some false) (p:¬P):qb8 o P:=⟨false,h,by simp [p]⟩
theorem qb8.iff {o:Option Bool} {P Q:Prop} (h:qb8 o P) (e:P ↔ Q):qb8 o Q:=by obtain ⟨b,h1,h2⟩:=h; exact ⟨b,h1,h2.trans e⟩
theorem qb8.same {o o':Option Bool} {P:Prop} (h:qb8 o P) (h':qb8 o' P):o = o':=by
 obtain ⟨b,h1,h2⟩:=h
 obtain ⟨b',h3,h4⟩:=h'
 rw [h1,h3]
 cases b <;> cases b' <;> simp_all
theorem qb8.dec {P:Prop} [Decidable P]:qb8 (some (decide P)) P:=⟨_,rfl,by simp⟩
theorem qb8.cases {o:Option Bool} {P:Prop} (h:qb8 o P):(o = some true ∧ P) ∨ (o = some false ∧ ¬P):=by
 obtain ⟨b,h1,h2⟩:=h
 cases b with
 | true=>exact .inl ⟨h1,h2.1 rfl⟩
 | false=>exact .inr ⟨h1,fun p=>by simpa using h2.2 p⟩
theorem qgL {α:Type} {body:Int → Option (Int ⊕ (Unit ⊕ Bool))} (P:α → Prop) (xs:List α) {N:Nat} (hN:xs.length < N)
  (h1:∀ (k:Nat) x,xs[k]? = some x → (P x ∧ body k = some (.inl ((k:Int) + 1))) ∨ (¬P x ∧ body k = some (.inr (.inr false)))) (h2:body xs.length = some (.inr (.inl ()))) :
  (iter body N 0 = some (.inl ()) ∧ ∀ x ∈ xs,P x) ∨ (iter body N 0 = some (.inr false) ∧ ¬∀ x ∈ xs,P x):=by
 classical
 have h:=qmE (body:=body) (fun x=>decide (P x)) xs (fun k x hx=>by
  rcases h1 k x hx with ⟨p,h⟩ | ⟨p,h⟩
  ·rw [h]; simp [p]
  ·rw [h]; simp [p]) h2 N hN
 by_cases hp:∀ x ∈ xs,P x
 ·refine .inl ⟨?_,hp⟩
  rw [h,if_pos (by simpa using hp)]
 ·refine .inr ⟨?_,hp⟩
  rw [h,if_neg (by simpa using hp)]
theorem qpD {σ β:Type} {body:σ → Option (σ ⊕ β)} (I:Nat → σ → Prop) (n:Nat) (Q:β → Prop) (hs:∀ i s,i < n → I i s → (∃ s',body s = some (.inl s') ∧ I (i + 1) s') ∨ ∃ b,body s = some (.inr b) ∧ Q b) (hd:∀ s,I n s → ∃ b,body s = some (.inr b) ∧ Q b) :
  ∀ N s,n < N → I 0 s → ∃ b,iter body N s = some b ∧ Q b:=by
 have key:∀ j k N s,k + j = n → j < N → I k s → ∃ b,iter body N s = some b ∧ Q b:=by
  intro j
  induction j with
  | zero =>
   intro k N s hk hN hI
   obtain ⟨N,rfl⟩:∃ M,N = M + 1:=⟨N - 1,by omega⟩
   have:k = n:=by omega
   subst this
   obtain ⟨b,h1,h2⟩:=hd s hI
   exact ⟨b,by simp only [iter,h1],h2⟩
  | succ j ih =>
   intro k N s hk hN hI
   obtain ⟨N,rfl⟩:∃ M,N = M + 1:=⟨N - 1,by omega⟩
   rcases hs k s (by omega) hI with ⟨s',h1,h2⟩ | ⟨b,h1,h2⟩
   ·simp only [iter,h1]
    exact ih (k + 1) N s' (by omega) (by omega) h2
   ·exact ⟨b,by simp only [iter,h1],h2⟩
 exact fun N s hN hI=>key n 0 N s (by omega) hN hI
theorem idxf {α:Type} {body:Int → Option (Int ⊕ (Unit ⊕ Int))} (xs:List α) (p:α → Bool) {N:Nat} (hN:xs.length < N)
  (h1:∀ (k:Nat) x,xs[k]? = some x → body k = some (if p x then .inr (.inr k) else .inl ((k:Int) + 1))) (h2:body xs.length = some (.inr (.inl ()))) :
  ((iter body N 0).bind fun o=>Sum.elim (fun _=>some (-1:Int)) (fun o=>some o) o) = some (match xs.findIdx? p with | some k=>(k:Int) | none=>-1):=by
 rw [qpH xs p h1 h2 N hN]; exact qqA xs p
theorem qqO {w:Str}:Sum.elim (fun _:Unit=>bif (decide ((w.length:Int) ≥ 1)) then some (decide ((w.length:Int) ≤ 16)) else some false) (fun o2:Bool=>some o2) (if w.all (fun c=>decide (97 ≤ c.toNat ∧ c.toNat ≤ 122)) then .inl () else .inr false) = some (word w):=by
 unfold word
 by_cases h:w.all (fun c=>decide (97 ≤ c.toNat ∧ c.toNat ≤ 122)) = true
 ·rw [if_pos h,h]
  simp only [Sum.elim_inl,Bool.true_and]
  by_cases h1:1 ≤ w.length
  ·rw [decide_eq_true (show (w.length:Int) ≥ 1 by omega),decide_eq_true h1,cond_true,Bool.true_and]
   congr 1
   exact decide_eq_decide.2 (by omega)
  ·rw [decide_eq_false (show ¬(w.length:Int) ≥ 1 by omega),decide_eq_false h1]; rfl
 ·rw [if_neg h]
  simp only [Bool.not_eq_true] at h
  rw [h]; rfl
theorem qpu {w:Str} {k:Nat} {c:UInt8} (hc:w[k]? = some c):(bif (decide ((k:Int) < (w.length:Int))) then
  (idx w k).bind fun c7 =>
  bif (decide ((c7.toNat:Int) < 97)) then
   some (.inr (.inr false))
  else
   (idx w k).bind fun c10 =>
   bif (decide ((c10.toNat:Int) > 122)) then
    some (.inr (.inr false))
   else
    some (.inl ((k:Int) + 1))
 else
  some (.inr (.inl ())):Option (Int ⊕ (Unit ⊕ Bool))) = some (if decide (97 ≤ c.toNat ∧ c.toNat ≤ 122) then .inl ((k:Int) + 1) else .inr (.inr false)):=by
 simp only [dk (qjl hc),cond_true,ixg hc,Option.bind_some]
 by_cases h1:c.toNat < 97
 ·rw [decide_eq_true (show (c.toNat:Int) < 97 by omega),if_neg (by simp; omega)]; rfl
 ·rw [decide_eq_false (show ¬(c.toNat:Int) < 97 by omega)]
  by_cases h2:122 < c.toNat
  ·rw [decide_eq_true (show (c.toNat:Int) > 122 by omega),if_neg (by simp; omega)]; rfl
  ·rw [decide_eq_false (show ¬(c.toNat:Int) > 122 by omega),if_pos (by simp; omega)]; rfl
theorem qih {N:Nat} {w:Str} (hN:w.length < N):qf6 N w = some (word w):=by
 unfold qf6
 rw [qmE (fun c:UInt8=>decide (97 ≤ c.toNat ∧ c.toNat ≤ 122)) w (fun k c hc=>qpu hc) (by simp only [qgR,dn,cond_false]) N hN]
 exact qqO
theorem lenb (n m:Nat):decide ((n:Int) ≤ (m:Int)) = decide (n ≤ m):=decide_eq_decide.2 (by omega)
theorem leng (n m:Nat):decide ((n:Int) ≥ (m:Int)) = decide (m ≤ n):=decide_eq_decide.2 (by omega)
theorem len0 {α:Type} (l:List α):((l.length:Int) == 0) = decide (l = []):=by
 cases l with
 | nil=>rfl
 | cons x l=>simp [beqd]; omega
theorem neN (w:Str):(w != ([]:Str)) = !decide (w = []):=by cases w <;> simp
theorem ql3 {N:Nat} {x:Item} (hN:x.Ranges.length < N):qb8 (qgv N x) (ItP x):=by
 unfold qgv
 rw [qoP]
 simp only [Option.bind_some]
 by_cases hm:qjd x
 ·rw [decide_eq_true hm]
  simp only [Bool.not_true,cond_false,neN,len0]
  unfold ItP
  by_cases h0:x.Text = []
  ·rw [if_pos h0,decide_eq_true h0]
   simp only [Bool.not_true,cond_false]
   rw [show (1:Int) = ((1:Nat):Int) from rfl,show (20:Int) = ((20:Nat):Int) from rfl,leng,lenb]
   by_cases h1:1 ≤ x.Ranges.length
   ·by_cases h2:x.Ranges.length ≤ 20
    ·rw [decide_eq_true h1,decide_eq_true h2]
     simp only [cond_true]
     have e:qbh N x.Ranges = some (x.Ranges.any fun g=>decide (g.From > g.To)):=by
      unfold qbh qbD
      have st:∀ (k:Nat) g,x.Ranges[k]? = some g → qa2 N x.Ranges k = some (if decide (g.From > g.To) then .inr (.inr (k:Int)) else .inl ((k:Int) + 1)):=fun k g hg=>by
       simp only [qa2,dk (qjl hg),cond_true,ixg hg,Option.bind_some,qgy]
       by_cases hd:g.From > g.To
       ·rw [decide_eq_true hd]; rfl
       ·rw [decide_eq_false hd]; rfl
      rw [idxf x.Ranges (fun g=>decide (g.From > g.To)) hN st (by simp only [qa2,dn,cond_false])]
      exact congrArg some (qml _ _)
     rw [e]
     refine ⟨_,rfl,?_⟩
     simp [hm,h1,h2]
    ·rw [decide_eq_true h1,decide_eq_false h2]
     exact .no rfl (fun h=>h2 h.2.1.2)
   ·rw [decide_eq_false h1]
    exact .no rfl (fun h=>h1 h.2.1.1)
  ·rw [if_neg h0,decide_eq_false h0]
   simp only [Bool.not_false,cond_true]
   rw [show (40:Int) = ((40:Nat):Int) from rfl,lenb]
   by_cases h1:x.Text.length ≤ 40
   ·rw [decide_eq_true h1]
    simp only [cond_true]
    by_cases h2:x.Ranges = []
    ·rw [decide_eq_true h2]
     refine ⟨_,rfl,?_⟩
     simp [hm,h1,h2]
    ·rw [decide_eq_false h2]
     exact .no rfl (fun h=>h2 h.2.2.1)
   ·rw [decide_eq_false h1]
    exact .no rfl (fun h=>h1 h.2.1)
 ·rw [decide_eq_false hm]
  exact .no rfl (fun h=>hm h.1)
theorem qod {N:Nat} {l:List Item} (hN:SzL N l):qb8 ((qaT N l).bind fun r12=>some (!r12)) (∀ x ∈ l,ItP x):=by
 classical
 have e:qaT N l = some (l.any fun x=>decide (¬ItP x)):=by
  unfold qaT qbJ
  have st:∀ (k:Nat) x,l[k]? = some x → qa5 N l k = some (if decide (¬ItP x) then .inr (.inr (k:Int)) else .inl ((k:Int) + 1)):=fun k x hx=>by
   simp only [qa5,dk (qjl hx),cond_true,ixg hx,Option.bind_some,qgV]
   rcases (ql3 (hN.2 x (List.mem_of_getElem? hx)).2).cases with ⟨h,p⟩ | ⟨h,p⟩
   ·rw [h]; simp [p]
   ·rw [h]; simp [p]
  rw [idxf l (fun x=>decide (¬ItP x)) hN.1 st (by simp only [qa5,dn,cond_false])]
  exact congrArg some (qml _ _)
 rw [e]
 refine ⟨_,rfl,?_⟩
 simp
theorem qm2 {N:Nat} {r:Rule} (hN:SzR N r):qb8 (qgW N r) (RlP r ∧ (r.Next = [] ∨ word r.Next = true)):=by
 unfold qgW
 have hi:=qod hN.2.2
 have e1:(1:Int) = ((1:Nat):Int):=rfl
 have e2:(20:Int) = ((20:Nat):Int):=rfl
 rw [qih hN.1,qih hN.2.1]
 simp only [Option.bind_some]
 rw [e1,e2,leng,lenb]
 have fin:∀ (P:Prop),P → (P ↔ (r.Next = [] ∨ word r.Next = true)) → word r.Kind = true → qb8 (bif decide (1 ≤ r.Items.length) then bif decide (r.Items.length ≤ 20) then (qaT N r.Items).bind fun r12=>some (!r12) else some false else some false) (RlP r ∧ (r.Next = [] ∨ word r.Next = true)):=fun P p hP hk=>by
  by_cases h1:1 ≤ r.Items.length
  ·by_cases h2:r.Items.length ≤ 20
   ·rw [decide_eq_true h1,decide_eq_true h2]
    simp only [cond_true]
    exact hi.iff ⟨fun h=>⟨⟨hk,⟨h1,h2⟩,h⟩,hP.1 p⟩,fun h=>h.1.2.2⟩
   ·rw [decide_eq_true h1,decide_eq_false h2]
    exact .no rfl (fun h=>h2 h.1.2.1.2)
  ·rw [decide_eq_false h1]
   exact .no rfl (fun h=>h1 h.1.2.1.1)
 cases hk:word r.Kind with
 | false=>exact .no rfl (fun h=>by have:=h.1.1; rw [hk] at this; cases this)
 | true =>
  simp only [cond_true]
  by_cases h0:r.Next = []
  ·have e:(r.Next == ([]:Str)) = true:=by simp [h0]
   rw [e]
   exact fin _ h0 ⟨fun h=>.inl h,fun _=>h0⟩ hk
  ·have e:(r.Next == ([]:Str)) = false:=by simpa using h0
   rw [e]
   simp only [cond_false]
   have hw0:word r.Next = true ∨ word r.Next = false:=by cases word r.Next <;> simp
   rcases hw0.symm with hw | hw
   ·rw [hw]; exact .no rfl (fun h=>by rcases h.2 with h | h; exact h0 h; cases h)
   ·have f:=fin (word r.Next = true) hw ⟨fun h=>.inr h,fun h=>h.resolve_left h0⟩ hk
    rw [hw] at f ⊢
    exact f
theorem qnG {s:List State} {n:Str}:mget (s.map fun x=>(x.Name,true)) n = if n ∈ s.map State.Name then some true else none:=by
 induction s with
 | nil=>rfl
 | cons x s ih =>
  simp only [List.map_cons,mget,List.find?_cons,List.mem_cons] at ih ⊢
  by_cases h:n = x.Name
  ·subst h; simp
  ·have:(n == x.Name) = false:=by simpa using h
   simp only [this,h,false_or]
   exact ih
theorem qq0 {s:List State} {n:Str} (h:n ∉ s.map State.Name) (hl:s.length ≤ 100):mset (s.map fun x=>(x.Name,true)) n true = some (s.map (fun x=>(x.Name,true)) ++ [(n,true)]):=by
 unfold mset
 rw [if_pos (by unfold LIM; simp; omega),qlf]
 intro p hp e
 obtain ⟨x,hx,rfl⟩:=List.mem_map.1 hp
 exact h (List.mem_map.2 ⟨x,hx,e⟩)
def A1 (s:List State):Prop:=(∀ x ∈ s,word x.Name = true ∧ 1 ≤ x.Rules.length ∧ x.Rules.length ≤ 40) ∧ (s.map State.Name).Nodup
def A2 (s:List State):Prop:=∀ x ∈ s,∀ r ∈ x.Rules,RlP r ∧ (r.Next = [] ∨ r.Next ∈ s.map State.Name)
theorem qlt {s:List State}:Vs s ↔ (1 ≤ s.length ∧ s.length ≤ 20) ∧ A1 s ∧ A2 s :=
 ⟨fun h=>⟨h.len,⟨fun x hx=>⟨h.name x hx,h.rules x hx⟩,h.nd⟩,h.rl⟩,fun ⟨h1,h2,h3⟩=>⟨h1,fun x hx=>(h2.1 x hx).1,fun x hx=>(h2.1 x hx).2,h3,h2.2⟩⟩
theorem A1.take {s:List State} {k:Nat} {x:State} (hx:s[k]? = some x):A1 (s.take (k + 1)) ↔ A1 (s.take k) ∧ (word x.Name = true ∧ 1 ≤ x.Rules.length ∧ x.Rules.length ≤ 40) ∧ x.Name ∉ (s.take k).map State.Name:=by
 unfold A1
 rw [← qfL hx]
 simp only [List.mem_append,List.mem_singleton,List.map_append,List.map_cons,List.map_nil,List.nodup_append]
 constructor
 ·rintro ⟨h1,h2,_,h3⟩
  exact ⟨⟨fun y hy=>h1 y (.inl hy),h2⟩,h1 x (.inr rfl),fun h=>h3 _ h _ rfl rfl⟩
 ·rintro ⟨⟨h1,h2⟩,h3,h4⟩
  refine ⟨fun y hy=>?_,h2,by simp,fun a ha b hb e=>?_⟩
  ·rcases hy with hy | rfl
   ·exact h1 y hy
   ·exact h3
  ·subst hb; subst e; exact h4 ha
theorem A1.sub {s:List State} (k:Nat) (h:A1 s):A1 (s.take k) :=
 ⟨fun x hx=>h.1 x (List.mem_of_mem_take hx),h.2.sublist ((List.take_sublist _ _).map _)⟩
theorem qpp {N:Nat} {s:List State} (hs:Sz N s) (hl:s.length ≤ 20) :
  (iter (fun st:Int × List (Str × Bool)=>qdm N s st.1 st.2) N (0,[]) = some (.inl (s.map fun x=>(x.Name,true))) ∧ A1 s) ∨ (iter (fun st:Int × List (Str × Bool)=>qdm N s st.1 st.2) N (0,[]) = some (.inr false) ∧ ¬A1 s):=by
 obtain ⟨b,h1,h2⟩:=qpD (body:=fun st:Int × List (Str × Bool)=>qdm N s st.1 st.2) (fun i st=>st = ((i:Int),(s.take i).map fun x=>(x.Name,true)) ∧ A1 (s.take i)) s.length
  (fun b=>(b = .inl (s.map fun x=>(x.Name,true)) ∧ A1 s) ∨ (b = .inr false ∧ ¬A1 s)) (fun i st hi ⟨hst,hA⟩=>by
  subst hst
  obtain ⟨x,hx⟩:=qcg hi
  have hz:=hs.2 x (List.mem_of_getElem? hx)
  have bad:¬A1 (s.take (i + 1)) → ∃ b:List (Str × Bool) ⊕ Bool,(some (.inr (.inr false)):Option ((Int × List (Str × Bool)) ⊕ (List (Str × Bool) ⊕ Bool))) = some (.inr b) ∧ ((b = .inl (s.map fun x=>(x.Name,true)) ∧ A1 s) ∨ (b = .inr false ∧ ¬A1 s)):=fun h=>⟨_,rfl,.inr ⟨rfl,fun g=>h (g.sub _)⟩⟩
  rw [A1.take hx] at bad
  simp only [qdm,dk hi,cond_true,ixg hx,Option.bind_some,qih hz.1]
  cases hw:word x.Name with
  | false=>exact .inr (bad (fun h=>by have:=h.2.1.1; rw [hw] at this; cases this))
  | true =>
   simp only [Bool.not_true,cond_false,qnG]
   by_cases hm:x.Name ∈ (s.take i).map State.Name
   ·rw [if_pos hm]
    exact .inr (bad (fun h=>h.2.2 hm))
   ·rw [if_neg hm]
    simp only [Option.getD_none,cond_false]
    rw [show (1:Int) = ((1:Nat):Int) from rfl,show (40:Int) = ((40:Nat):Int) from rfl]
    by_cases h1:x.Rules.length < 1
    ·rw [decide_eq_true (by omega)]
     exact .inr (bad (fun h=>by have:=h.2.1.2.1; omega))
    ·rw [decide_eq_false (by omega)]
     by_cases h2:x.Rules.length > 40
     ·rw [decide_eq_true (by omega)]
      exact .inr (bad (fun h=>by have:=h.2.1.2.2; omega))
     ·rw [decide_eq_false (by omega)]
      simp only [cond_false]
      rw [qq0 hm (by simp; omega)]
      refine .inl ⟨_,rfl,?_,?_⟩
      ·rw [← qfL hx]; simp
      ·rw [A1.take hx]; exact ⟨hA,⟨hw,by omega,by omega⟩,hm⟩) (fun st ⟨hst,hA⟩=>by
  subst hst
  rw [List.take_length] at hA ⊢
  exact ⟨_,by simp only [qdm,dn,cond_false],.inl ⟨rfl,hA⟩⟩) N (0,[]) hs.1 ⟨by simp,by unfold A1; simp⟩
 rcases h2 with ⟨rfl,h⟩ | ⟨rfl,h⟩
 ·exact .inl ⟨h1,h⟩
 ·exact .inr ⟨h1,h⟩
theorem qpk {N:Nat} {s:List State} (hA:A1 s) {x:State} (hx:SzS N x) :
  (iter (fun st=>qdQ N (s.map fun x=>(x.Name,true)) x st) N 0 = some (.inl ()) ∧ ∀ r ∈ x.Rules,RlP r ∧ (r.Next = [] ∨ r.Next ∈ s.map State.Name)) ∨ (iter (fun st=>qdQ N (s.map fun x=>(x.Name,true)) x st) N 0 = some (.inr false) ∧ ¬∀ r ∈ x.Rules,RlP r ∧ (r.Next = [] ∨ r.Next ∈ s.map State.Name)):=by
 have hw:∀ n ∈ s.map State.Name,word n = true:=fun n hn=>by
  obtain ⟨y,hy,rfl⟩:=List.mem_map.1 hn
  exact (hA.1 y hy).1
 refine qgL (fun r:Rule=>RlP r ∧ (r.Next = [] ∨ r.Next ∈ s.map State.Name)) x.Rules hx.2.1 (fun k r hr=>?_) (by simp only [qdQ,dn,cond_false])
 simp only [qdQ,dk (qjl hr),cond_true,ixg hr,Option.bind_some,neN]
 rcases (qm2 (hx.2.2 r (List.mem_of_getElem? hr))).cases with ⟨h,p⟩ | ⟨h,p⟩
 ·rw [h]
  simp only [Option.bind_some,Bool.not_true,cond_false]
  by_cases h0:r.Next = []
  ·rw [decide_eq_true h0]
   exact .inl ⟨⟨p.1,.inl h0⟩,rfl⟩
  ·rw [decide_eq_false h0]
   simp only [Bool.not_false,cond_true,qnG]
   by_cases hm:r.Next ∈ s.map State.Name
   ·rw [if_pos hm]
    exact .inl ⟨⟨p.1,.inr hm⟩,rfl⟩
   ·rw [if_neg hm]
    exact .inr ⟨fun h=>by rcases h.2 with h | h; exact h0 h; exact hm h,rfl⟩
 ·rw [h]
  refine .inr ⟨fun q=>p ⟨q.1,?_⟩,rfl⟩
  rcases q.2 with h | h
  ·exact .inl h
  ·exact .inr (hw _ h)
theorem qpn {N:Nat} {s:List State} (hA:A1 s) (hs:Sz N s) :
  (iter (fun st=>qdS N s (s.map fun x=>(x.Name,true)) st) N 0 = some (.inl ()) ∧ A2 s) ∨ (iter (fun st=>qdS N s (s.map fun x=>(x.Name,true)) st) N 0 = some (.inr false) ∧ ¬A2 s):=by
 refine qgL (fun x:State=>∀ r ∈ x.Rules,RlP r ∧ (r.Next = [] ∨ r.Next ∈ s.map State.Name)) s hs.1 (fun k x hx=>?_) (by simp only [qdS,dn,cond_false])
 simp only [qdS,dk (qjl hx),cond_true,ixg hx,Option.bind_some]
 rcases qpk hA (hs.2 x (List.mem_of_getElem? hx)) with ⟨h,p⟩ | ⟨h,p⟩
 ·rw [h]; exact .inl ⟨p,rfl⟩
 ·rw [h]; exact .inr ⟨p,rfl⟩
def Vl (s:List State):Prop:=Vs s ∧ (qpm s).length ≤ 8000
def SbS (s:List State):Prop:=∀ x ∈ s,∀ r ∈ x.Rules,∀ y ∈ r.Items,InB y
theorem ScOk.sb {s:List State} (h:ScOk s):SbS s:=fun x hx r hr y hy=>(((h.2 x hx).2.2 r hr).2.1.2 y hy).2.1.2
theorem qjE {N:Nat} {s:List State} (hs:Sz N s) (hb:SbS s) (hN:100 ≤ N):qb8 (qgi N s) (Vl s):=by
 unfold qgi
 by_cases h1:s.length < 1
 ·rw [decide_eq_true (by omega)]
  exact .no rfl (fun h=>by have:=h.1.len; omega)
 rw [decide_eq_false (by omega)]
 by_cases h2:s.length > 20
 ·rw [decide_eq_true (by omega)]
  exact .no rfl (fun h=>by have:=h.1.len; omega)
 rw [decide_eq_false (by omega)]
 simp only [cond_false]
 rcases qpp hs (by omega) with ⟨h,hA⟩ | ⟨h,hA⟩
 ·rw [h]
  simp only [Option.bind_some,Sum.elim_inl]
  rcases qpn hA hs with ⟨h,hB⟩ | ⟨h,hB⟩
  ·rw [h]
   simp only [Option.bind_some,Sum.elim_inl]
   have hv:Vs s:=qlt.2 ⟨by omega,hA,hB⟩
   rw [qnR hv hb hN]
   simp only [Option.bind_some]
   rw [show (8000:Int) = ((8000:Nat):Int) from rfl,lenb]
   exact qb8.dec.iff ⟨fun h=>⟨hv,h⟩,fun h=>h.2⟩
  ·rw [h]
   exact .no rfl (fun h=>hB (qlt.1 h.1).2.2)
 ·rw [h]
  exact .no rfl (fun h=>hA (qlt.1 h.1).2.1)
def fst (s:List State) (n:Str):Int:=match s.findIdx? (fun y=>y.Name == n) with | some k=>(k:Int) | none=>-1
theorem qsn {s:List State} {n:Str}:(fst s n < 0) ↔ n ∉ s.map State.Name:=by
 unfold fst
 cases h:s.findIdx? (fun y=>y.Name == n) with
 | none =>
  have:=List.findIdx?_eq_none_iff.1 h
  refine ⟨fun _ hm=>?_,fun _=>by decide⟩
  obtain ⟨y,hy,e⟩:=List.mem_map.1 hm
  have:=this y hy
  simp [e] at this
 | some k =>
  obtain ⟨hk,h1,_⟩:=List.findIdx?_eq_some_iff_getElem.1 h
  refine ⟨fun h=>by simp only at h; omega,fun hm=>absurd (List.mem_map.2 ⟨s[k],List.getElem_mem hk,by simpa using h1⟩) hm⟩
end Go.Proofs.YtllfckekodcdaaaGreatDoor
namespace Go.Proofs.YtllfckekodcdaaaGreatDoor
open Go.X
def qgz (x:Item) (c:Nat):Bool:=x.Not != x.Ranges.any (fun g=>decide (g.From ≤ (c:Int)) && decide ((c:Int) ≤ g.To))
def hit (x:Item) (s:Str):Option Nat :=
 if x.Text = [] then (match s with | []=>none | c :: _=>if qgz x c.toNat then some 1 else none)
 else if x.Text.isPrefixOf s then some x.Text.length else none
def run (x:Item):Nat → Str → Nat → Nat × Nat
 | 0,_,c=>(0,c)
 | f + 1,s,c=>if x.Most < 0 ∨ (c:Int) < x.Most then (match hit x s with | some k=>(k + (run x f (s.drop k) (c + 1)).1,(run x f (s.drop k) (c + 1)).2) | none=>(0,c)) else (0,c)
def runs:List Item → Str → Option Nat
 | [],_=>some 0
 | x :: l,s=>if ((run x (s.length + 1) s 0).2:Int) < x.Least then none else (runs l (s.drop (run x (s.length + 1) s 0).1)).map ((run x (s.length + 1) s 0).1 + ·)
def qcj (x:Item):Option (List Bool):=if x.Text = [] then some ((List.range 256).map (qgz x)) else none
theorem qp6 {x:Item} {s:Str} {k:Nat} (h:hit x s = some k):1 ≤ k ∧ k ≤ s.length:=by
 unfold hit at h
 split at h
 ·cases s with
  | nil=>cases h
  | cons c s =>
   simp only at h
   split at h
   ·cases h; simp
   ·cases h
 ·rename_i h0
  split at h
  ·rename_i hp
   cases h
   have:=(List.isPrefixOf_iff_prefix.1 hp).length_le
   exact ⟨List.length_pos_iff.2 h0,this⟩
  ·cases h
theorem qp9 (x:Item):∀ (f:Nat) (s:Str) (c:Nat),(run x f s c).1 ≤ s.length:=by
 intro f
 induction f with
 | zero=>intro s c; simp [run]
 | succ f ih =>
  intro s c
  unfold run
  split
  ·cases h:hit x s with
   | none=>simp
   | some k =>
    have h1:=qp6 h
    have h2:=ih (s.drop k) (c + 1)
    simp only [List.length_drop] at h2 ⊢
    omega
  ·simp
theorem qoR:∀ (l:List Item) (s:Str) (n:Nat),runs l s = some n → n ≤ s.length:=by
 intro l
 induction l with
 | nil=>intro s n h; simp [runs] at h; omega
 | cons x l ih =>
  intro s n h
  unfold runs at h
  split at h
  ·cases h
  ·cases hr:runs l (s.drop (run x (s.length + 1) s 0).1) with
   | none=>rw [hr] at h; cases h
   | some m =>
    rw [hr] at h
    have h1:=ih _ _ hr
    have h2:=qp9 x (s.length + 1) s 0
    simp only [Option.map_some,Option.some.injEq] at h
    simp only [List.length_drop] at h1
    omega
theorem qru {c:Nat} (h:c < 256):IntKind.wrap .u8 (c:Int) = (c:Int):=qe3 (qjT.2 ⟨by omega,by omega⟩)
theorem qoc {N:Nat} {x:Item} {c:Nat} (hc:c < 256) (hN:x.Ranges.length < N):qbe N x.Ranges (c:Int) = some (x.Ranges.any (fun g=>decide (g.From ≤ (c:Int)) && decide ((c:Int) ≤ g.To))):=by
 unfold qbe qbB
 rw [idxf x.Ranges (fun g:Range=>decide (g.From ≤ (c:Int)) && decide ((c:Int) ≤ g.To)) hN (fun k g hg=>by
  simp only [qbg,dk (qjl hg),cond_true,ixg hg,Option.bind_some,qg3,qru hc,ge_iff_le]
  cases decide (g.From ≤ (c:Int)) <;> cases decide ((c:Int) ≤ g.To) <;> rfl) (by simp only [qbg,dn,cond_false])]
 rw [Option.bind_some]
 exact congrArg some (qml _ _)
theorem qn0 {α:Type} {l r:List α} {k:Nat} (h:l.length = k) (y z:α):setI (l ++ y :: r) (k:Int) z = some (l ++ z :: r):=by
 unfold setI
 subst h
 rw [if_pos (by simp)]
 simp
theorem qmF {α:Type} (z:α) {k n:Nat} (h:k < n):List.replicate (n - k) z = z :: List.replicate (n - (k + 1)) z:=by
 rw [show n - k = (n - (k + 1)) + 1 by omega,List.replicate_succ]
theorem qm0 {N:Nat} {x:Item} (hN:x.Ranges.length < N) (h2:300 ≤ N):qg2 N x = some (some ((List.range 256).map (qgz x))):=by
 unfold qg2
 refine (qef (fun k:Nat=>((k:Int),(List.range k).map (qgz x) ++ List.replicate (256 - k) false)) 256 ((List.range 256).map (qgz x)) rfl (by omega) (fun k hk=>?_) ?_).trans rfl
 ·have e:decide ((k:Int) < 256) = true:=decide_eq_true (by omega)
  simp only [qfx,e,cond_true,qoc hk hN,Option.bind_some]
  rw [qmF false hk,ix]
  have hl:((List.range k).map (qgz x)).length = k:=by simp
  rw [List.getElem?_append_right (by omega),hl,Nat.sub_self]
  simp only [List.getElem?_cons_zero,Option.bind_some]
  rw [qn0 hl]
  simp only [Option.bind_some,List.range_succ,List.map_append,List.append_assoc]
  rfl
 ·simp [qfx]
theorem qlB {N:Nat} {l:List Item} (hs:SzL N l) (h2:300 ≤ N) (hl:l.length ≤ 1000000):qf0 N l = some (l.map qcj):=by
 unfold qf0
 unfold Go.X.mk
 rw [if_pos (by unfold LIM; omega)]
 simp only [Option.bind_some,Int.toNat_natCast]
 refine (qef (fun k:Nat=>((k:Int),(l.take k).map qcj ++ List.replicate (l.length - k) none)) l.length (l.map qcj) (by simp) hs.1 (fun k hk=>?_) ?_).trans rfl
 ·obtain ⟨x,hx⟩:=qcg hk
  simp only [qeJ,dk hk,cond_true,ixg hx,Option.bind_some]
  have hl:((l.take k).map qcj).length = k:=by simp; omega
  rw [qmF none hk,← qfL hx]
  by_cases h0:x.Text = []
  ·have e:(x.Text == ([]:Str)) = true:=by rw [h0]; rfl
   rw [e]
   simp only [cond_true,qm0 (hs.2 x (List.mem_of_getElem? hx)).2 h2,Option.bind_some]
   rw [ix,List.getElem?_append_right (by omega),hl,Nat.sub_self]
   simp only [List.getElem?_cons_zero,Option.bind_some]
   rw [qn0 hl]
   simp [qcj,h0]
  ·have e:(x.Text == ([]:Str)) = false:=by simpa using h0
   rw [e]
   simp [qcj,h0]
 ·simp [qeJ]
theorem qhl {α:Type} {s:List α} {n:Nat} (h:n ≤ s.length):slc s (n:Int) (s.length:Int) = some (s.drop n):=by
 unfold slc
 rw [if_pos (by omega)]
 congr 1
 rw [Int.toNat_natCast,List.take_of_length_le]
 simp only [List.length_drop]
 omega
theorem qoH {α:Type} {s:List α} {a b:Nat} (h:a + b ≤ s.length):slc s (a:Int) ((a:Int) + (b:Int)) = some ((s.drop a).take b):=by
 unfold slc
 rw [if_pos (by omega)]
 congr 2
 omega
theorem qgX {n:Nat} (h:n ≤ 1000000000):IntKind.wrap .i64 (n:Int) = (n:Int):=qe3 (qcT.2 ⟨by omega,by omega⟩)
theorem qrT {s:Str} {n:Nat} (h:n < s.length):∃ c,s[n]? = some c ∧ s.drop n = c :: s.drop (n + 1) :=
 ⟨s[n],List.getElem?_eq_getElem h,by rw [List.drop_eq_getElem_cons h]⟩
theorem qss (x:Item) (c:UInt8):idx ((List.range 256).map (qgz x)) (c.toNat:Int) = some (qgz x c.toNat):=by
 rw [ix]; simp [u8lt c]
theorem qo1 {N:Nat} {x:Item} {s:Str} {n c:Nat} (hn:n ≤ s.length) (hl:s.length ≤ 1000000) (hc:c ≤ 1000000) :
  qd9 N x (qcj x) s n c = some (if x.Most < 0 ∨ (c:Int) < x.Most then (match hit x (s.drop n) with | some k=>.inl (((n + k:Nat):Int),((c + 1:Nat):Int)) | none=>.inr (.inr ((n:Int),decide ((c:Int) ≥ x.Least)))) else .inr (.inl ((n:Int),(c:Int)))):=by
 have hw:IntKind.wrap .i64 ((c + 1:Nat):Int) = ((c + 1:Nat):Int):=qgX (by omega)
 have hw2:((c:Int) + 1) = ((c + 1:Nat):Int):=by omega
 by_cases h0:x.Text = []
 ·have e:(x.Text == ([]:Str)) = true:=by rw [h0]; rfl
  have e2:(x.Text != ([]:Str)) = false:=by rw [h0]; rfl
  have hb:qcj x = some ((List.range 256).map (qgz x)):=by unfold qcj; rw [if_pos h0]
  have hh:hit x (s.drop n) = (match s.drop n with | []=>none | d :: _=>if qgz x d.toNat then some 1 else none):=by unfold hit; rw [if_pos h0]; cases s.drop n <;> rfl
  simp only [qd9,e,e2,cond_true,cond_false,hb,Option.bind_some,hw,hw2]
  have core:∀ (A:Option ((Int × Int) ⊕ ((Int × Int) ⊕ (Int × Bool)))),A = some (match hit x (s.drop n) with | some k=>.inl (((n + k:Nat):Int),((c + 1:Nat):Int)) | none=>.inr (.inr ((n:Int),decide ((c:Int) ≥ x.Least)))) → (x.Most < 0 ∨ (c:Int) < x.Most) → A = some (if x.Most < 0 ∨ (c:Int) < x.Most then (match hit x (s.drop n) with | some k=>.inl (((n + k:Nat):Int),((c + 1:Nat):Int)) | none=>.inr (.inr ((n:Int),decide ((c:Int) ≥ x.Least)))) else .inr (.inl ((n:Int),(c:Int)))):=fun A h g=>by rw [h,if_pos g]
  have inner:(bif decide ((n:Int) < (s.length:Int)) then
    (idx s n).bind fun c25=>(idx ((List.range 256).map (qgz x)) (c25.toNat:Int)).bind fun x37 =>
     bif x37 then some (.inl ((n:Int) + 1,((c + 1:Nat):Int))) else some (.inr (.inr ((n:Int),decide ((c:Int) ≥ x.Least))))
    else some (.inr (.inr ((n:Int),decide ((c:Int) ≥ x.Least)))):Option ((Int × Int) ⊕ ((Int × Int) ⊕ (Int × Bool)))) = some (match hit x (s.drop n) with | some k=>.inl (((n + k:Nat):Int),((c + 1:Nat):Int)) | none=>.inr (.inr ((n:Int),decide ((c:Int) ≥ x.Least)))):=by
   by_cases hlt:n < s.length
   ·obtain ⟨d,hd,hdr⟩:=qrT hlt
    rw [hh,hdr,decide_eq_true (by omega)]
    simp only [cond_true,ixg hd,Option.bind_some,qss]
    cases qgz x d.toNat <;> rfl
   ·rw [hh,List.drop_of_length_le (by omega),decide_eq_false (by omega)]
    rfl
  by_cases hm:x.Most < 0
  ·rw [decide_eq_true hm]
   exact core _ inner (.inl hm)
  ·rw [decide_eq_false hm]
   by_cases hm2:(c:Int) < x.Most
   ·rw [decide_eq_true hm2]
    exact core _ inner (.inr hm2)
   ·rw [decide_eq_false hm2,if_neg (by omega)]
    rfl
 ·have e:(x.Text == ([]:Str)) = false:=by simpa using h0
  have e2:(x.Text != ([]:Str)) = true:=by simpa using h0
  have hh:hit x (s.drop n) = (if x.Text.isPrefixOf (s.drop n) then some x.Text.length else none):=by unfold hit; rw [if_neg h0]
  simp only [qd9,e,e2,cond_true,cond_false,qhl hn,Option.bind_some,hw,hw2,strings_HasPrefix,Lib.hasPrefix]
  have inner:(bif x.Text.isPrefixOf (s.drop n) then some (.inl (IntKind.wrap .i64 ((n:Int) + (x.Text.length:Int)),((c + 1:Nat):Int))) else some (.inr (.inr ((n:Int),decide ((c:Int) ≥ x.Least)))):Option ((Int × Int) ⊕ ((Int × Int) ⊕ (Int × Bool)))) = some (match hit x (s.drop n) with | some k=>.inl (((n + k:Nat):Int),((c + 1:Nat):Int)) | none=>.inr (.inr ((n:Int),decide ((c:Int) ≥ x.Least)))):=by
   rw [hh]
   cases hp:x.Text.isPrefixOf (s.drop n) with
   | true =>
    have:=(List.isPrefixOf_iff_prefix.1 hp).length_le
    simp only [List.length_drop] at this
    simp only [cond_true,if_true]
    rw [show (n:Int) + (x.Text.length:Int) = ((n + x.Text.length:Nat):Int) by omega,qgX (by omega)]
   | false=>simp
  by_cases hm:x.Most < 0
  ·rw [decide_eq_true hm,if_pos (.inl hm)]
   exact inner
  ·rw [decide_eq_false hm]
   by_cases hm2:(c:Int) < x.Most
   ·rw [decide_eq_true hm2,if_pos (.inr hm2)]
    exact inner
   ·rw [decide_eq_false hm2,if_neg (by omega)]
    rfl
theorem qnf {N:Nat} {x:Item} {s:Str} (hl:s.length ≤ 1000000) (hN:s.length + 1 ≤ N) :
  qhN N x (qcj x) s = some (((run x (s.length + 1) s 0).1:Int),decide (((run x (s.length + 1) s 0).2:Int) ≥ x.Least)):=by
 unfold qhN
 have key:∀ (f M n c:Nat),s.length - n < f → f ≤ M → n ≤ s.length → c ≤ n → ((iter (fun st:Int × Int=>qd9 N x (qcj x) s st.1 st.2) M ((n:Int),(c:Int))).bind fun o9 =>
   Sum.elim (fun o9:Int × Int=>some (o9.1,(decide (o9.2 ≥ x.Least)))) (fun o9:Int × Bool=>some o9) o9) = some (((n + (run x f (s.drop n) c).1:Nat):Int),decide (((run x f (s.drop n) c).2:Int) ≥ x.Least)):=by
  intro f
  induction f with
  | zero=>intro M n c h; omega
  | succ f ih =>
   intro M n c hf hM hn hc
   obtain ⟨M,rfl⟩:∃ M',M = M' + 1:=⟨M - 1,by omega⟩
   have hb:=qo1 (N:=N) (x:=x) (c:=c) hn hl (by omega)
   unfold run
   by_cases hm:x.Most < 0 ∨ (c:Int) < x.Most
   ·rw [if_pos hm] at hb ⊢
    cases hh:hit x (s.drop n) with
    | none =>
     rw [hh] at hb
     simp only [iter,hb,Option.bind_some,Sum.elim_inr]
     rfl
    | some k =>
     rw [hh] at hb
     have hk:=qp6 hh
     simp only [List.length_drop] at hk
     simp only [iter,hb]
     have:=ih M (n + k) (c + 1) (by omega) (by omega) (by omega) (by omega)
     rw [this]
     simp only [List.drop_drop,Nat.add_assoc]
   ·rw [if_neg hm] at hb ⊢
    simp only [iter,hb,Option.bind_some,Sum.elim_inl]
    rfl
 have:=key (s.length + 1) N 0 0 (by omega) hN (by omega) (by omega)
 simpa using this
theorem qmU {N:Nat} {l:List Item} {s:Str} (hs:l.length < N) (hl:s.length ≤ 1000000) (hN:s.length + 1 ≤ N) :
  qgQ N l (l.map qcj) s = some (match runs l s with | some n=>((n:Int),true) | none=>(0,false)):=by
 unfold qgQ
 have key:∀ (j k M n:Nat),k + j = l.length → j < M → n ≤ s.length → ((iter (fun st:Int × Int=>qcO N l (l.map qcj) s st.1 st.2) M ((n:Int),(k:Int))).bind fun o3 =>
   Sum.elim (fun o3:Int=>some (o3,true)) (fun o3:Int × Bool=>some o3) o3) = some (match runs (l.drop k) (s.drop n) with | some m=>(((n + m:Nat):Int),true) | none=>(0,false)):=by
  intro j
  induction j with
  | zero =>
   intro k M n hk hM hn
   obtain ⟨M,rfl⟩:∃ M',M = M' + 1:=⟨M - 1,by omega⟩
   obtain rfl:k = l.length:=by omega
   simp only [iter,qcO,dn,cond_false,Option.bind_some,Sum.elim_inl,List.drop_length,runs]
   rfl
  | succ j ih =>
   intro k M n hk hM hn
   obtain ⟨M,rfl⟩:∃ M',M = M' + 1:=⟨M - 1,by omega⟩
   have hkl:k < l.length:=by omega
   obtain ⟨x,hx⟩:=qcg hkl
   have hxe:l[k] = x:=by rw [List.getElem?_eq_getElem hkl] at hx; exact Option.some.inj hx
   have hb:idx (l.map qcj) (k:Int) = some (qcj x):=by rw [ix,List.getElem?_map,hx]; rfl
   have ht:=qnf (N:=N) (x:=x) (s:=s.drop n) (by simp; omega) (by simp; omega)
   have hr:=qp9 x ((s.drop n).length + 1) (s.drop n) 0
   rw [List.drop_eq_getElem_cons hkl,hxe]
   simp only [runs]
   generalize hg:run x ((s.drop n).length + 1) (s.drop n) 0 = g at ht hr ⊢
   simp only [List.length_drop] at hr
   by_cases hc:(g.2:Int) < x.Least
   ·have hbd:qcO N l (l.map qcj) s n k = some (.inr (.inr (0,false))):=by
     simp only [qcO,dk hkl,cond_true,ixg hx,hb,Option.bind_some,qhl hn,ht]
     rw [decide_eq_false (by omega)]
     rfl
    simp only [iter,hbd,if_pos hc]
    rfl
   ·have hbd:qcO N l (l.map qcj) s n k = some (.inl (((n + g.1:Nat):Int),((k + 1:Nat):Int))):=by
     simp only [qcO,dk hkl,cond_true,ixg hx,hb,Option.bind_some,qhl hn,ht]
     rw [decide_eq_true (by omega)]
     simp only [Bool.not_true,cond_false]
     rw [show (n:Int) + (g.1:Int) = ((n + g.1:Nat):Int) by omega,qgX (by omega),show (k:Int) + 1 = ((k + 1:Nat):Int) by omega]
    simp only [iter,hbd,if_neg hc]
    have:=ih (k + 1) M (n + g.1) (by omega) (by omega) (by omega)
    rw [this,List.drop_drop]
    cases runs (l.drop (k + 1)) (s.drop (n + g.1)) with
    | none=>rfl
    | some m=>simp only [Option.map_some,Nat.add_assoc]
 have:=key l.length 0 N 0 (by omega) hs (by omega)
 simpa using this
def qd2:List Rule → Str → Option (Rule × Nat)
 | [],_=>none
 | r :: rs,t=>match runs r.Items t with | some n=>if n = 0 then qd2 rs t else some (r,n) | none=>qd2 rs t
theorem qnx:∀ {rs:List Rule} {t:Str} {r:Rule} {n:Nat},qd2 rs t = some (r,n) → r ∈ rs ∧ 1 ≤ n ∧ n ≤ t.length:=by
 intro rs
 induction rs with
 | nil=>intro t r n h; cases h
 | cons q rs ih =>
  intro t r n h
  unfold qd2 at h
  cases hr:runs q.Items t with
  | none =>
   rw [hr] at h
   obtain ⟨h1,h2⟩:=ih h
   exact ⟨List.mem_cons_of_mem _ h1,h2⟩
  | some m =>
   rw [hr] at h
   simp only at h
   split at h
   ·obtain ⟨h1,h2⟩:=ih h
    exact ⟨List.mem_cons_of_mem _ h1,h2⟩
   ·cases h
    exact ⟨List.mem_cons_self ..,by omega,qoR _ _ _ hr⟩
def qkg (s:List State) (st:Int) (r:Rule):Int:=if r.Next = [] then st else fst s r.Next
def prs:Nat → List State → List (Str × Int)
 | _,[]=>[]
 | k,x :: s=>(x.Name,(k:Int)) :: prs (k + 1) s
theorem qr4:∀ (k:Nat) (s:List State) (x:State),prs k (s ++ [x]) = prs k s ++ [(x.Name,((k + s.length:Nat):Int))]:=by
 intro k s
 induction s generalizing k with
 | nil=>intro x; simp [prs]
 | cons y s ih =>
  intro x
  simp only [List.cons_append,prs,ih,List.length_cons]
  rw [show k + 1 + s.length = k + (s.length + 1) by omega]
theorem qrV:∀ (k:Nat) (s:List State) (n:Str),mget (prs k s) n = (s.findIdx? (fun y=>y.Name == n)).map (fun i=>((k + i:Nat):Int)):=by
 intro k s
 induction s generalizing k with
 | nil=>intro n; rfl
 | cons y s ih =>
  intro n
  unfold mget at ih ⊢
  simp only [prs,List.find?_cons,List.findIdx?_cons]
  by_cases h:y.Name = n
  ·subst h; simp
  ·have e:(n == y.Name) = false:=by simpa using fun h'=>h h'.symm
   have e2:(y.Name == n) = false:=by simpa using h
   rw [e,e2]
   simp only [Bool.false_eq_true,if_false,ih,Option.map_map]
   congr 1
   funext i
   simp only [Function.comp]
   omega
theorem qsq {k:Nat} {s:List State} {n:Str} (h:n ∉ s.map State.Name):∀ p ∈ prs k s,p.1 ≠ n:=by
 induction s generalizing k with
 | nil=>intro p hp; cases hp
 | cons y s ih =>
  intro p hp
  simp only [List.map_cons,List.mem_cons,not_or] at h
  rcases List.mem_cons.1 hp with rfl | hp
  ·exact fun e=>h.1 e.symm
  ·exact ih h.2 p hp
theorem qsf:∀ (k:Nat) (s:List State),(prs k s).length = s.length:=by
 intro k s
 induction s generalizing k with
 | nil=>rfl
 | cons y s ih=>simp [prs,ih]
def ltab (s:List State):List (List (List (Option (List Bool)))):=s.map fun x=>x.Rules.map fun r=>r.Items.map qcj
theorem qqk {l:List (Str × Int)} {n:Str} {v:Int} (h:∀ p ∈ l,p.1 ≠ n):mput l n v = l ++ [(n,v)]:=by
 induction l with
 | nil=>rfl
 | cons p l ih =>
  obtain ⟨a,b⟩:=p
  have e:(n == a) = false:=by simpa using fun h'=>h (a,b) (List.mem_cons_self ..) h'.symm
  unfold mput
  rw [e,ih fun q hq=>h q (List.mem_cons_of_mem _ hq)]
  rfl
theorem qpe {N:Nat} {s:List State} (hs:Sz N s) (hv:Vs s) (hN:300 ≤ N):qfU N s = some (Lexer.mk s (ltab s) (prs 0 s)):=by
 unfold qfU
 refine (qef (fun k:Nat=>((k:Int),Lexer.mk s (ltab (s.take k)) (prs 0 (s.take k)))) s.length (Lexer.mk s (ltab s) (prs 0 s)) rfl hs.1 (fun k hk=>?_) ?_).trans rfl
 ·obtain ⟨x,hx⟩:=qcg hk
  have hm:=List.mem_of_getElem? hx
  have hxe:s[k] = x:=by rw [List.getElem?_eq_getElem hk] at hx; exact Option.some.inj hx
  have hl:=hv.len
  have hr:=hv.rules x hm
  have hnot:x.Name ∉ (s.take k).map State.Name:=((A1.take hx).1 ((qlt.1 hv).2.1.sub (k + 1))).2.2
  simp only [qeG,dk hk,cond_true,ixg hx,Option.bind_some]
  have hset:mset (prs 0 (s.take k)) x.Name (k:Int) = some (prs 0 (s.take (k + 1))):=by
   unfold mset
   rw [if_pos (by rw [qsf]; unfold LIM; simp; omega),qqk (qsq hnot),← qfL hx,qr4]
   rw [show 0 + (s.take k).length = k by simp; omega]
  rw [hset]
  simp only [Option.bind_some]
  have hrow:iter (fun st:List (List (Option (List Bool))) × Int=>qdJ N x st.1 st.2) N ([],0) = some (x.Rules.map fun r=>r.Items.map qcj):=by
   refine qiV (fun j:Nat=>((x.Rules.take j).map (fun r=>r.Items.map qcj),(j:Int))) x.Rules.length _ rfl (fun j hj=>?_) ?_ N (hs.2 x hm).2.1
   ·obtain ⟨r,hr'⟩:=qcg hj
    have hrm:=List.mem_of_getElem? hr'
    have hi:=(hv.rl x hm r hrm).1.2.1
    simp only [qdJ,dk hj,cond_true,ixg hr',Option.bind_some]
    rw [qlB ((hs.2 x hm).2.2 r hrm).2.2 hN (by omega)]
    simp only [Option.bind_some]
    rw [app1 (by simp; omega),← qfL hr']
    simp
   ·simp [qdJ]
  rw [hrow]
  simp only [Option.bind_some]
  rw [app1 (by simp [ltab]; omega),← qfL hx]
  simp [ltab]
 ·simp [qeG]
theorem qo8 {s:List State} {n:Str} (h:n ∈ s.map State.Name):(mget (prs 0 s) n).getD 0 = fst s n:=by
 rw [qrV]
 unfold fst
 cases hf:s.findIdx? (fun y=>y.Name == n) with
 | none =>
  obtain ⟨y,hy,e⟩:=List.mem_map.1 h
  have:=List.findIdx?_eq_none_iff.1 hf y hy
  simp [e] at this
 | some i=>simp
def qh2 (s:List State) (st:Nat) (t:Str) (at':Nat):Option (Token × Int) :=
 match s[st]? with
 | none=>none
 | some x=>match qd2 x.Rules (t.drop at') with
  | some (r,n)=>some (Token.mk r.Kind ((t.drop at').take n) at',qkg s st r)
  | none=>none
theorem qrZ {s:List State} {st:Nat} {x:State} (h:s[st]? = some x):idx (ltab s) (st:Int) = some (x.Rules.map fun r=>r.Items.map qcj):=by
 rw [ix]; unfold ltab; rw [List.getElem?_map,h]; rfl
theorem neE (w:Str):(w != ([]:Str)) = !decide (w = []):=by by_cases h:w = [] <;> simp [h]
theorem qmS {N:Nat} {s:List State} {t:Str} {st p:Nat} (hs:Sz N s) (hv:Vs s) (hst:st < s.length) (hp:p ≤ t.length) (ht:t.length ≤ 1000000) (hN:300 ≤ N) (hN2:t.length + 1 ≤ N) :
  qev N st t p (Lexer.mk s (ltab s) (prs 0 s)) = some (match qh2 s st t p with | some (k,n)=>(k,n,true) | none=>(Token.mk [] [] 0,0,false)):=by
 obtain ⟨x,hx⟩:=qcg hst
 have hm:=List.mem_of_getElem? hx
 unfold qev
 simp only [ixg hx,Option.bind_some]
 have key:∀ (j k M:Nat),k + j = x.Rules.length → j < M → ((iter (fun a:Int × Int=>qb3 N t p (Lexer.mk s (ltab s) (prs 0 s)) x a.1 a.2) M ((st:Int),(k:Int))).bind fun o24 =>
   Sum.elim (fun _o24:Unit=>some ((Token.mk ([]) ([]) 0),(0:Int),false)) (fun o24:Token × Int × Bool=>some o24) o24) = some (match qd2 (x.Rules.drop k) (t.drop p) with | some (r,n)=>(Token.mk r.Kind ((t.drop p).take n) p,qkg s st r,true) | none=>(Token.mk [] [] 0,0,false)):=by
  intro j
  induction j with
  | zero =>
   intro k M hk hM
   obtain ⟨M,rfl⟩:∃ M',M = M' + 1:=⟨M - 1,by omega⟩
   obtain rfl:k = x.Rules.length:=by omega
   have hb:qb3 N t p (Lexer.mk s (ltab s) (prs 0 s)) x st x.Rules.length = some (.inr (.inl ())):=by simp only [qb3,dn,cond_false]
   simp only [iter,hb,List.drop_length,qd2]
   rfl
  | succ j ih =>
   intro k M hk hM
   obtain ⟨M,rfl⟩:∃ M',M = M' + 1:=⟨M - 1,by omega⟩
   have hkl:k < x.Rules.length:=by omega
   obtain ⟨r,hr⟩:=qcg hkl
   have hre:x.Rules[k] = r:=by rw [List.getElem?_eq_getElem hkl] at hr; exact Option.some.inj hr
   have hrm:=List.mem_of_getElem? hr
   have hz:=((hs.2 x hm).2.2 r hrm).2.2
   have hrow:idx (x.Rules.map fun r=>r.Items.map qcj) (k:Int) = some (r.Items.map qcj):=by rw [ix,List.getElem?_map,hr]; rfl
   have hmt:=qmU (N:=N) (l:=r.Items) (s:=t.drop p) hz.1 (by simp; omega) (by simp; omega)
   have hnx:=(hv.rl x hm r hrm).2
   rw [List.drop_eq_getElem_cons hkl,hre]
   unfold qd2
   have hgo:qb3 N t p (Lexer.mk s (ltab s) (prs 0 s)) x st k = some (match runs r.Items (t.drop p) with | some n=>if n = 0 then .inl ((st:Int),((k + 1:Nat):Int)) else .inr (.inr (Token.mk r.Kind ((t.drop p).take n) p,qkg s st r,true)) | none=>.inl ((st:Int),((k + 1:Nat):Int))):=by
    simp only [qb3,dk hkl,cond_true,ixg hr,Option.bind_some,qrZ hx,hrow,qhl hp,hmt]
    cases hru:runs r.Items (t.drop p) with
    | none=>rfl
    | some n =>
     have hle:=qoR _ _ _ hru
     simp only [List.length_drop] at hle
     simp only [Bool.not_true,cond_false]
     by_cases h0:n = 0
     ·subst h0; rfl
     ·have e:(((n:Int)) == 0) = false:=by rw [beq_eq_false_iff_ne]; omega
      rw [e,if_neg h0,neE]
      simp only [cond_false]
      rw [show (p:Int) + (n:Int) = ((p + n:Nat):Int) by omega,qgX (by omega),show ((p + n:Nat):Int) = (p:Int) + (n:Int) by omega,qoH (by omega)]
      unfold qkg
      by_cases h1:r.Next = []
      ·simp [h1]
      ·have:=qo8 (hnx.resolve_left h1)
       simp [h1,this]
   cases hru:runs r.Items (t.drop p) with
   | none =>
    rw [hru] at hgo
    simp only [iter,hgo]
    exact ih (k + 1) M (by omega) (by omega)
   | some n =>
    rw [hru] at hgo
    by_cases h0:n = 0
    ·simp only [if_pos h0] at hgo ⊢
     simp only [iter,hgo]
     exact ih (k + 1) M (by omega) (by omega)
    ·simp only [if_neg h0] at hgo ⊢
     simp only [iter,hgo]
     rfl
 have:=key x.Rules.length 0 N (by omega) (hs.2 x hm).2.1
 refine this.trans ?_
 unfold qh2
 rw [hx,List.drop_zero]
 simp only
 cases qd2 x.Rules (t.drop p) with
 | none=>rfl
 | some q=>rfl
def tks (s:List State) (t:Str):Nat → Nat → Nat → (Nat ⊕ List Token)
 | 0,_,_=>.inr []
 | f + 1,p,st=>if t.length ≤ p then .inr [] else match qh2 s st t p with
  | some (k,n)=>(match tks s t f (p + k.Text.length) n.toNat with | .inr l=>.inr (k :: l) | .inl e=>.inl e)
  | none=>.inl p
theorem qpv {s:List State} {n:Str} (h:n ∈ s.map State.Name):0 ≤ fst s n ∧ fst s n < (s.length:Int):=by
 have h1:¬fst s n < 0:=fun g=>qsn.1 g h
 refine ⟨by omega,?_⟩
 unfold fst at h1 ⊢
 cases hf:s.findIdx? (fun y=>y.Name == n) with
 | none=>rw [hf] at h1; simp only at h1 ⊢; omega
 | some k =>
  obtain ⟨hk,_⟩:=List.findIdx?_eq_some_iff_getElem.1 hf
  simp only; omega
theorem qlg {s:List State} (hv:Vs s) {st:Nat} {t:Str} {p:Nat} {k:Token} {n:Int} (h:qh2 s st t p = some (k,n)) :
  k.From = (p:Int) ∧ 1 ≤ k.Text.length ∧ p + k.Text.length ≤ t.length ∧ k.Text = (t.drop p).take k.Text.length ∧ 0 ≤ n ∧ n < (s.length:Int):=by
 unfold qh2 at h
 cases hx:s[st]? with
 | none=>rw [hx] at h; cases h
 | some x =>
  rw [hx] at h
  simp only at h
  cases hf:qd2 x.Rules (t.drop p) with
  | none=>rw [hf] at h; cases h
  | some q =>
   obtain ⟨r,m⟩:=q
   rw [hf] at h
   simp only [Option.some.injEq,Prod.mk.injEq] at h
   obtain ⟨rfl,rfl⟩:=h
   obtain ⟨h1,h2,h3⟩:=qnx hf
   simp only [List.length_drop] at h3
   have hl:((t.drop p).take m).length = m:=by simp; omega
   have hm:=List.mem_of_getElem? hx
   simp only [hl]
   refine ⟨trivial,h2,by omega,trivial,?_⟩
   unfold qkg
   split
   ·have:=qjl hx; omega
   ·rename_i h0
    exact qpv ((hv.rl x hm r h1).2.resolve_left h0)
theorem qsA {s:List State} {t:Str} {N:Nat} (hv:Vs s) (ht:t.length ≤ 1000000) (body:List Token × Int × Int → Option ((List Token × Int × Int) ⊕ (List Token ⊕ (List Token × Int × Int))))
  (h1:∀ (l:List Token) (p st:Nat),p < t.length → st < s.length → l.length ≤ p → body (l,(p:Int),(st:Int)) = some (match qh2 s st t p with | some (k,n)=>.inl (l ++ [k],((p + k.Text.length:Nat):Int),n) | none=>.inr (.inr ([],(p:Int),3))))
  (h2:∀ (l:List Token) (st:Int),body (l,(t.length:Int),st) = some (.inr (.inl l))) (h0:0 < s.length) (hN:t.length + 1 ≤ N) :
  ((iter body N ([],0,0)).bind fun o:List Token ⊕ (List Token × Int × Int)=>Sum.elim (fun o=>some (o,(0:Int),(0:Int))) (fun o=>some o) o) = some (match tks s t (t.length + 1) 0 0 with | .inr l=>(l,0,0) | .inl e=>([],(e:Int),3)):=by
 have key:∀ (f M p st:Nat) (l:List Token),t.length - p < f → f ≤ M → p ≤ t.length → st < s.length → l.length ≤ p → ((iter body M (l,(p:Int),(st:Int))).bind fun o:List Token ⊕ (List Token × Int × Int)=>Sum.elim (fun o=>some (o,(0:Int),(0:Int))) (fun o=>some o) o) = some (match tks s t f p st with | .inr l'=>(l ++ l',0,0) | .inl e=>([],(e:Int),3)):=by
  intro f
  induction f with
  | zero=>intro M p st l h; omega
  | succ f ih =>
   intro M p st l hf hM hp hst hl
   obtain ⟨M,rfl⟩:∃ M',M = M' + 1:=⟨M - 1,by omega⟩
   unfold tks
   by_cases he:t.length ≤ p
   ·obtain rfl:p = t.length:=by omega
    rw [if_pos he]
    simp only [iter,h2,List.append_nil]
    rfl
   ·rw [if_neg he]
    have hb:=h1 l p st (by omega) hst hl
    cases hq:qh2 s st t p with
    | none =>
     rw [hq] at hb
     simp only [iter,hb]
     rfl
    | some q =>
     obtain ⟨k,n⟩:=q
     rw [hq] at hb
     obtain ⟨_,g2,g3,_,g5,g6⟩:=qlg hv hq
     obtain ⟨n,rfl⟩:∃ m:Nat,n = (m:Int):=⟨n.toNat,by omega⟩
     simp only at hb ⊢
     simp only [iter,hb,Int.toNat_natCast]
     have:=ih M (p + k.Text.length) n (l ++ [k]) (by omega) (by omega) (by omega) (by omega) (by simp; omega)
     rw [this]
     cases tks s t f (p + k.Text.length) n with
     | inl e=>rfl
     | inr l'=>simp
 have:=key (t.length + 1) N 0 0 [] (by omega) hN (by omega) h0 (by simp)
 simpa using this
def tokR (s:List State) (t:Str):List Token × Int × Int:=match tks s t (t.length + 1) 0 0 with | .inr l=>(l,0,0) | .inl e=>([],(e:Int),3)
theorem qmg {N:Nat} {s:List State} {t:Str} (hs:Sz N s) (hb:SbS s) (hv:Vl s) (ht:t.length ≤ 10000) (hN:300 ≤ N) (hN2:t.length + 1 ≤ N) :
  qfz N s t = some (tokR s t):=by
 unfold qfz
 rcases (qjE hs hb (by omega)).cases with ⟨h,_⟩ | ⟨_,h⟩
 rotate_left
 ·exact absurd hv h
 rw [h]
 simp only [Option.bind_some,Bool.not_true,cond_false]
 rw [decide_eq_false (by omega)]
 simp only [cond_false,qpe hs hv.1 hN,Option.bind_some]
 refine qsA hv.1 (by omega) _ (fun l p st hp hst hl=>?_) (fun l st=>?_) (by have:=hv.1.len; omega) hN2
 ·simp only [qeS,dk hp,cond_true,qmS hs hv.1 hst (by omega:p ≤ t.length) (by omega:t.length ≤ 1000000) hN hN2,Option.bind_some]
  cases hq:qh2 s st t p with
  | none=>rfl
  | some q =>
   obtain ⟨k,n⟩:=q
   obtain ⟨_,g2,g3,_⟩:=qlg hv.1 hq
   simp only [Bool.not_true,cond_false]
   rw [app1 (by simp; omega),show (p:Int) + (k.Text.length:Int) = ((p + k.Text.length:Nat):Int) by omega,qgX (by omega)]
   rfl
 ·simp only [qeS,dn,cond_false]
end Go.Proofs.YtllfckekodcdaaaGreatDoor
namespace Go.Proofs.YtllfckekodcdaaaGreatDoor
open Go.X
def qaU {α σ ρ:Type} (g:σ → α → σ ⊕ ρ):List α → σ → σ ⊕ ρ
 | [],s=>.inl s
 | x :: xs,s=>match g s x with | .inl s'=>qaU g xs s' | .inr r=>.inr r
theorem qmB {α σ ρ:Type} (g:σ → α → σ ⊕ ρ):∀ (xs ys:List α) (s:σ),qaU g (xs ++ ys) s = match qaU g xs s with | .inl s'=>qaU g ys s' | .inr r=>.inr r
 | [],_,_=>rfl
 | x :: xs,ys,s=>by
  rw [List.cons_append,qaU,qaU]
  cases g s x with
  | inl s'=>exact qmB g xs ys s'
  | inr r=>rfl
theorem qf8 {α σ ρ τ β:Type} (xs:List α) (g:σ → α → σ ⊕ ρ) (body:τ → Option (τ ⊕ β)) (mk:σ → Nat → τ) (L:σ → β) (R:ρ → β) (Inv:Nat → σ → Prop) {N:Nat} (hN:xs.length < N) {s0:σ} (h0:Inv 0 s0)
  (h1:∀ (k:Nat) (x:α) (s:σ),xs[k]? = some x → Inv k s → body (mk s k) = some (match g s x with | .inl s'=>.inl (mk s' (k + 1)) | .inr r=>.inr (R r)))
  (hI:∀ (k:Nat) (x:α) (s s':σ),xs[k]? = some x → Inv k s → g s x = .inl s' → Inv (k + 1) s')
  (h2:∀ s,Inv xs.length s → body (mk s xs.length) = some (.inr (L s))) {t0:τ} (ht:mk s0 0 = t0):iter body N t0 = some (match qaU g xs s0 with | .inl s=>L s | .inr r=>R r):=by
 have key:∀ (j k M:Nat) (s:σ),k + j = xs.length → j < M → Inv k s → iter body M (mk s k) = some (match qaU g (xs.drop k) s with | .inl s=>L s | .inr r=>R r):=by
  intro j
  induction j with
  | zero =>
   intro k M s hk hM hi
   obtain ⟨M,rfl⟩:∃ M',M = M' + 1:=⟨M - 1,by omega⟩
   obtain rfl:k = xs.length:=by omega
   rw [List.drop_eq_nil_of_le (Nat.le_refl _)]
   simp only [iter,h2 s hi,qaU]
  | succ j ih =>
   intro k M s hk hM hi
   obtain ⟨M,rfl⟩:∃ M',M = M' + 1:=⟨M - 1,by omega⟩
   have hlt:k < xs.length:=by omega
   have hx:xs[k]? = some xs[k]:=List.getElem?_eq_getElem hlt
   have hb:=h1 k _ s hx hi
   rw [List.drop_eq_getElem_cons hlt,qaU]
   cases hg:g s xs[k] with
   | inl s' =>
    rw [hg] at hb
    simp only [iter,hb]
    exact ih (k + 1) M s' (by omega) (by omega) (hI k _ s s' hx hi hg)
   | inr r =>
    rw [hg] at hb
    simp only [iter,hb]
 rw [← ht]
 have:=key xs.length 0 N s0 (by omega) hN h0
 simpa using this
def qrn:Str:=[116,101,120,116]
def kEsc:Str:=[101,115,99,97,112,101]
def kStr:Str:=[115,116,114,105,110,103]
def kEnd:Str:=[101,110,100]
def litP (t:Token):Option Str :=
 if t.Kind = qrn then some t.Text else if t.Kind = kEsc then (if t.Text = [92,110] then some [10] else if t.Text = [92,116] then some [9] else if t.Text = [] then none else some (t.Text.drop 1)) else none
def litG (acc:Str) (t:Token):Str ⊕ Unit:=match litP t with | some w=>.inl (acc ++ w) | none=>.inr ()
def lit (l:List Token):Str × Bool :=
 if 2 ≤ l.length ∧ (l[0]?.map Token.Kind) = some kStr ∧ (l[l.length - 1]?.map Token.Kind) = some kEnd then (match qaU litG ((l.drop 1).take (l.length - 2)) [] with | .inl s=>(s,true) | .inr _=>([],false)) else ([],false)
theorem qnQ {t:Token} {w:Str} (h:litP t = some w):w.length ≤ t.Text.length:=by
 unfold litP at h
 split at h
 ·cases h; exact Nat.le_refl _
 ·split at h
  ·split at h
   ·rename_i e; cases h; rw [e]; decide
   ·split at h
    ·rename_i e; cases h; rw [e]; decide
    ·split at h
     ·cases h
     ·cases h; simp
  ·cases h
def tsum (l:List Token):Nat:=(l.map fun t=>t.Text.length).sum
theorem qj8:∀ (l:List Token) (acc s:Str),qaU litG l acc = .inl s → s.length ≤ acc.length + tsum l
 | [],acc,s,h=>by cases h; simp [tsum]
 | t :: l,acc,s,h=>by
  rw [qaU] at h
  unfold litG at h
  cases hp:litP t with
  | none=>rw [hp] at h; cases h
  | some w =>
   rw [hp] at h
   have:=qj8 l (acc ++ w) s h
   have hw:=qnQ hp
   simp only [tsum,List.map_cons,List.sum_cons,List.length_append] at this ⊢
   omega
theorem qid {l:List Token} (a b:Nat):tsum ((l.drop a).take b) ≤ tsum l:=by
 unfold tsum
 have h1:∀ (m:List Nat) (a:Nat),(m.drop a).sum ≤ m.sum:=fun m a=>by
  have:=congrArg List.sum (List.take_append_drop a m)
  rw [List.sum_append] at this; omega
 have h2:∀ (m:List Nat) (a:Nat),(m.take a).sum ≤ m.sum:=fun m a=>by
  have:=congrArg List.sum (List.take_append_drop a m)
  rw [List.sum_append] at this; omega
 rw [List.map_take,List.map_drop]
 exact Nat.le_trans (h2 _ _) (h1 _ _)
theorem qrQ (l:List Token):(lit l).1.length ≤ tsum l:=by
 unfold lit
 split
 ·cases h:qaU litG ((l.drop 1).take (l.length - 2)) [] with
  | inl s =>
   have:=qj8 _ _ _ h
   have:=qid (l:=l) 1 (l.length - 2)
   simp only [List.length_nil] at *
   omega
  | inr r=>simp
 ·simp
theorem qiA {l:List Token} {k:Nat} {x:Token} (h:l[k]? = some x):tsum (l.take (k + 1)) = tsum (l.take k) + x.Text.length:=by
 rw [← qfL h]
 simp [tsum]
theorem qik (l:List Token) (k:Nat):tsum (l.take k) ≤ tsum l:=by
 have:=qid (l:=l) 0 k
 simpa using this
theorem beqS {a b:Str}:(a == b) = decide (a = b):=by by_cases h:a = b <;> simp [h]
theorem bneS {a b:Str}:(a != b) = !decide (a = b):=by by_cases h:a = b <;> simp [h]
theorem qrg {N:Nat} {l t:Str} (h:l.length + t.length ≤ 4294967296):qaA N t (Builder.mk () (bld l).buf) = some ((t.length:Int),(),bld (l ++ t)):=wstr h
theorem qpN {N:Nat} {l:Str} {c:Nat} (hc:c < 256) (h:l.length < 4294967296):qaX N (c:Int) (Builder.mk () (bld l).buf) = some ((),bld (l ++ [UInt8.ofNat c])):=qlC hc h
theorem slc1 {t:Str} (h:t ≠ []):slc t 1 (t.length:Int) = some (t.drop 1):=by
 have:1 ≤ t.length:=by cases t; exact absurd rfl h; simp
 exact qhl (n:=1) this
theorem qqq {N:Nat} {l:List Token} {k:Nat} {x:Token} {acc:Str} (hx:l[k]? = some x) (hb:acc.length + x.Text.length ≤ 4000000000) :
  qck N l (k:Int) (bld acc) = some (match litG acc x with | .inl s'=>.inl (((k + 1:Nat):Int),bld s') | .inr _=>.inr (.inr ([],false))):=by
 have hlt:=(List.getElem?_eq_some_iff.1 hx).1
 unfold qck litG litP
 rw [dk hlt,cond_true,ixg hx,Option.bind_some]
 simp only [beqS,bneS]
 by_cases h1:x.Kind = qrn
 ·rw [if_pos h1,show decide (x.Kind = ([116,101,120,116]:Str)) = true from decide_eq_true h1,cond_true,qrg (by omega)]
  rfl
 ·have h1':decide (x.Kind = ([116,101,120,116]:Str)) = false:=decide_eq_false h1
  rw [if_neg h1,h1',cond_false]
  by_cases h2:x.Kind = kEsc
  ·have h2':decide (x.Kind = ([101,115,99,97,112,101]:Str)) = true:=decide_eq_true h2
   rw [if_pos h2]
   simp only [h2',cond_true]
   by_cases h3:x.Text = [92,110]
   ·rw [if_pos h3,decide_eq_true h3,cond_true,show (10:Int) = ((10:Nat):Int) from rfl,qpN (by decide) (by omega)]
    rfl
   ·rw [if_neg h3,decide_eq_false h3,cond_false]
    by_cases h4:x.Text = [92,116]
    ·rw [if_pos h4,decide_eq_true h4,cond_true,show (9:Int) = ((9:Nat):Int) from rfl,qpN (by decide) (by omega)]
     rfl
    ·rw [if_neg h4,decide_eq_false h4,cond_false]
     by_cases h5:x.Text = []
     ·rw [if_pos h5,decide_eq_true h5]
      rfl
     ·rw [if_neg h5,decide_eq_false h5,Bool.not_false,cond_true,slc1 h5,Option.bind_some,qrg (by simp; omega)]
      rfl
  ·have h2':decide (x.Kind = ([101,115,99,97,112,101]:Str)) = false:=decide_eq_false h2
   rw [if_neg h2]
   simp only [h2',cond_false]
theorem qqm {acc s':Str} {x:Token} (h:litG acc x = .inl s'):s'.length ≤ acc.length + x.Text.length:=by
 unfold litG at h
 cases hp:litP x with
 | none=>rw [hp] at h; cases h
 | some w=>rw [hp] at h; cases h; have:=qnQ hp; simp; omega
theorem idx0 {α:Type} (l:List α):idx l 0 = l[0]?:=ix l 0
theorem qtZ {n:Nat} (h:1 ≤ n) (h2:n ≤ 1000000000):IntKind.wrap .i64 ((n:Int) - 1) = ((n - 1:Nat):Int):=by
 rw [show (n:Int) - 1 = ((n - 1:Nat):Int) by omega]
 exact qgX (by omega)
theorem qpi {N:Nat} {l:List Token} (hN:l.length < N) (hl:l.length ≤ 1000000000) (ht:tsum l ≤ 1000000000):qeB N l = some (lit l):=by
 unfold qeB lit
 by_cases h2:2 ≤ l.length
 ·rw [decide_eq_false (by omega),cond_false]
  obtain ⟨a,ha⟩:=qcg (l:=l) (k:=0) (by omega)
  obtain ⟨z,hz⟩:=qcg (l:=l) (k:=l.length - 1) (by omega)
  rw [idx0,ha,Option.bind_some,Option.map_some,qtZ (by omega) hl,ix,hz,Option.bind_some,Option.map_some]
  simp only [bneS]
  by_cases h3:a.Kind = kStr
  ·rw [show decide (a.Kind = ([115,116,114,105,110,103]:Str)) = true from decide_eq_true h3,Bool.not_true,cond_false]
   by_cases h4:z.Kind = kEnd
   ·rw [show decide (z.Kind = ([101,110,100]:Str)) = true from decide_eq_true h4,Bool.not_true,cond_false,if_pos ⟨h2,congrArg some h3,congrArg some h4⟩]
    rw [show ((l.length - 1:Nat):Int) = ((1:Nat):Int) + ((l.length - 2:Nat):Int) by omega,show (1:Int) = ((1:Nat):Int) from rfl,qoH (by omega),Option.bind_some]
    generalize hm:(l.drop 1).take (l.length - 2) = m
    have hml:m.length ≤ l.length:=by rw [← hm]; simp; omega
    have hmt:tsum m ≤ tsum l:=by rw [← hm]; exact qid 1 _
    rw [qf8 m litG (fun s=>qck N m s.1 s.2) (fun s k=>((k:Int),bld s)) (fun s=>.inl (bld s)) (fun _=>.inr ([],false)) (fun k s=>s.length ≤ tsum (m.take k)) (by omega) (s0:=([]:Str)) (by simp)
     (fun k x s hx hi=>by
      have h6:=qiA hx
      have h7:=qik m (k + 1)
      rw [qqq hx (by omega)]
      cases litG s x <;> rfl)
     (fun k x s s' hx hi hg=>by rw [qiA hx]; have:=qqm hg; omega)
     (fun s hi=>by
      unfold qck
      rw [dn,cond_false]) (t0:=(0,Builder.mk () [])) rfl,Option.bind_some]
    cases qaU litG m [] with
    | inl s=>exact congrArg (fun x=>some (x,true)) (qiG s)
    | inr r=>rfl
   ·rw [show decide (z.Kind = ([101,110,100]:Str)) = false from decide_eq_false h4,Bool.not_false,cond_true,if_neg (fun h=>h4 (Option.some.inj h.2.2))]
  ·rw [show decide (a.Kind = ([115,116,114,105,110,103]:Str)) = false from decide_eq_false h3,Bool.not_false,cond_true,if_neg (fun h=>h3 (Option.some.inj h.2.1))]
 ·rw [decide_eq_true (by omega),cond_true,if_neg (fun h=>h2 h.1)]
structure TOk (t:Str) (l:List Token):Prop where
 len:l.length ≤ t.length
 sum:tsum l ≤ t.length
 fr:∀ k ∈ l,0 ≤ k.From ∧ k.From ≤ (t.length:Int)
 txt:∀ k ∈ l,∃ p n,k.Text = (t.drop p).take n ∧ p + n ≤ t.length ∧ k.Text.length = n
theorem qs7 {s:List State} {t:Str} (hv:Vs s):∀ (f p st:Nat) (l:List Token),tks s t f p st = .inr l → p ≤ t.length → l.length + p ≤ t.length ∧ tsum l + p ≤ t.length ∧ (∀ k ∈ l,0 ≤ k.From ∧ k.From ≤ (t.length:Int)) ∧ ∀ k ∈ l,∃ p n,k.Text = (t.drop p).take n ∧ p + n ≤ t.length ∧ k.Text.length = n:=by
 intro f
 induction f with
 | zero=>intro p st l h hp; cases h; simp [tsum]; exact hp
 | succ f ih =>
  intro p st l h hp
  unfold tks at h
  split at h
  ·cases h; simp [tsum]; exact hp
  ·cases hq:qh2 s st t p with
   | none=>rw [hq] at h; cases h
   | some q =>
    obtain ⟨k,n⟩:=q
    rw [hq] at h
    simp only at h
    obtain ⟨g1,g2,g3,g4,g5,g6⟩:=qlg hv hq
    cases hr:tks s t f (p + k.Text.length) n.toNat with
    | inl e=>rw [hr] at h; cases h
    | inr l' =>
     rw [hr] at h
     cases h
     obtain ⟨i1,i2,i3,i4⟩:=ih _ _ l' hr g3
     refine ⟨by simp; omega,by simp only [tsum,List.map_cons,List.sum_cons] at i2 ⊢; omega,fun x hx=>?_,fun x hx=>?_⟩
     ·rcases List.mem_cons.1 hx with rfl | hx
      ·omega
      ·exact i3 x hx
     ·rcases List.mem_cons.1 hx with rfl | hx
      ·exact ⟨p,x.Text.length,g4,g3,rfl⟩
      ·exact i4 x hx
theorem qoO {s:List State} {t:Str} (hv:Vs s):TOk t (tokR s t).1:=by
 unfold tokR
 cases h:tks s t (t.length + 1) 0 0 with
 | inl e=>exact ⟨by simp,by simp [tsum],fun k hk=>by simp at hk,fun k hk=>by simp at hk⟩
 | inr l =>
  obtain ⟨h1,h2,h3,h4⟩:=qs7 hv _ _ _ _ h (Nat.zero_le _)
  exact ⟨h1,h2,h3,h4⟩
end Go.Proofs.YtllfckekodcdaaaGreatDoor
namespace Go.Proofs.YtllfckekodcdaaaGreatDoor
open Go.X
end Go.Proofs.YtllfckekodcdaaaGreatDoor
namespace Go.Proofs.YtllfckekodcdaaaGreatDoor
open Go.X
def okC (c:Call):Prop:=c.Name ≠ [] ∧ -1 ≤ c.ID ∧ c.ID ≤ 9 ∧ -1 ≤ c.Source ∧ c.Source ≤ 9 ∧ ¬(c.ID = -1 ∧ c.Source = -1)
instance (c:Call):Decidable (okC c):=by unfold okC; infer_instance
def vcG (seen:List Str) (c:Call):List Str ⊕ Unit:=if okC c ∧ c.Name ∉ seen then .inl (seen ++ [c.Name]) else .inr ()
def VC (l:List Call):Prop:=(∀ c ∈ l,okC c) ∧ (l.map Call.Name).Nodup ∧ l.length ≤ 40
theorem qos:∀ (l:List Call) (seen:List Str),(qaU vcG l seen = .inl (seen ++ l.map Call.Name) ∧ (∀ c ∈ l,okC c) ∧ (l.map Call.Name).Nodup ∧ ∀ c ∈ l,c.Name ∉ seen) ∨ (qaU vcG l seen = .inr () ∧ ¬((∀ c ∈ l,okC c) ∧ (l.map Call.Name).Nodup ∧ ∀ c ∈ l,c.Name ∉ seen))
 | [],seen=>.inl ⟨by simp [qaU],by simp,by simp,by simp⟩
 | c :: l,seen=>by
  rw [qaU]
  unfold vcG
  by_cases h:okC c ∧ c.Name ∉ seen
  ·rw [if_pos h]
   rcases qos l (seen ++ [c.Name]) with ⟨h1,h2,h3,h4⟩ | ⟨h1,h2⟩
   ·refine .inl ⟨by rw [show qaU (fun seen c=>if okC c ∧ c.Name ∉ seen then (Sum.inl (seen ++ [c.Name]):List Str ⊕ Unit) else .inr ()) = qaU vcG from rfl]; simpa using h1,?_,?_,?_⟩
    ·intro x hx
     rcases List.mem_cons.1 hx with rfl | hx
     ·exact h.1
     ·exact h2 x hx
    ·rw [List.map_cons,List.nodup_cons]
     refine ⟨fun hm=>?_,h3⟩
     obtain ⟨x,hx,he⟩:=List.mem_map.1 hm
     exact h4 x hx (by rw [he]; simp)
    ·intro x hx
     rcases List.mem_cons.1 hx with rfl | hx
     ·exact h.2
     ·exact fun hs=>h4 x hx (List.mem_append_left _ hs)
   ·refine .inr ⟨h1,fun ⟨g1,g2,g3⟩=>h2 ⟨fun x hx=>g1 x (List.mem_cons_of_mem _ hx),?_,?_⟩⟩
    ·rw [List.map_cons,List.nodup_cons] at g2; exact g2.2
    ·intro x hx hs
     rw [List.map_cons,List.nodup_cons] at g2
     rcases List.mem_append.1 hs with hs | hs
     ·exact g3 x (List.mem_cons_of_mem _ hx) hs
     ·exact g2.1 (List.mem_map.2 ⟨x,hx,List.mem_singleton.1 hs⟩)
  ·rw [if_neg h]
   exact .inr ⟨rfl,fun ⟨g1,g2,g3⟩=>h ⟨g1 c (List.mem_cons_self ..),g3 c (List.mem_cons_self ..)⟩⟩
theorem qqB {l:List Call} {b:Bool} (h:b = (match qaU vcG l [] with | .inl _=>decide (l.length ≤ 40) | .inr _=>false)):(b = true ↔ VC l):=by
 rw [h]
 unfold VC
 rcases qos l [] with ⟨h1,h2,h3,h4⟩ | ⟨h1,h2⟩
 ·rw [h1]
  exact Iff.intro (fun h=>⟨h2,h3,of_decide_eq_true h⟩) (fun h=>decide_eq_true h.2.2)
 ·rw [h1]
  exact Iff.intro (fun h=>by cases h) (fun g=>(h2 ⟨g.1,g.2.1,fun _ _=>by simp⟩).elim)
theorem qmK {s:List Str} {n:Str}:mget (s.map fun x=>(x,true)) n = if n ∈ s then some true else none:=by
 unfold mget
 induction s with
 | nil=>simp
 | cons x s ih =>
  rw [List.map_cons,List.find?_cons]
  by_cases h:n = x
  ·subst h; simp
  ·have:(n == (x,true).1) = false:=by simpa using h
   rw [this]
   simp only [List.mem_cons,h,false_or]
   exact ih
theorem qpT {s:List Str} {n:Str} (h:¬n ∈ s):mput (s.map fun x=>(x,true)) n true = (s ++ [n]).map fun x=>(x,true):=by
 induction s with
 | nil=>rfl
 | cons x s ih =>
  simp only [List.mem_cons,not_or] at h
  rw [List.map_cons,mput,if_neg (by simpa using h.1),ih h.2]
  simp
theorem qmA {s:List Str} {n:Str} (h:n ∉ s) (hl:s.length ≤ 1000000):mset (s.map fun x=>(x,true)) n true = some ((s ++ [n]).map fun x=>(x,true)):=by
 unfold mset
 rw [if_pos (by simp; unfold LIM; omega),qpT h]
theorem qsc {α:Type} (c:Call) (F A:α):(bif c.Name == ([]:Str) then F else bif decide (c.ID < -1) then F else bif decide (c.ID > 9) then F else bif decide (c.Source < -1) then F else bif decide (c.Source > 9) then F else bif c.ID == -1 then (bif c.Source == -1 then F else A) else A) = if okC c then A else F:=by
 by_cases h1:c.Name = []
 ·rw [if_neg (fun h:okC c=>h.1 h1),h1]; rfl
 ·simp only [beqS,decide_eq_false h1,cond_false]
  by_cases h2:c.ID < -1
  ·rw [decide_eq_true h2,if_neg (fun h:okC c=>by have:=h.2.1; omega),cond_true]
  ·rw [decide_eq_false h2,cond_false]
   by_cases h3:c.ID > 9
   ·rw [decide_eq_true h3,if_neg (fun h:okC c=>by have:=h.2.2.1; omega),cond_true]
   ·rw [decide_eq_false h3,cond_false]
    by_cases h4:c.Source < -1
    ·rw [decide_eq_true h4,if_neg (fun h:okC c=>by have:=h.2.2.2.1; omega),cond_true]
    ·rw [decide_eq_false h4,cond_false]
     by_cases h5:c.Source > 9
     ·rw [decide_eq_true h5,if_neg (fun h:okC c=>by have:=h.2.2.2.2.1; omega),cond_true]
     ·rw [decide_eq_false h5,cond_false]
      by_cases h8:c.ID = -1 ∧ c.Source = -1
      ·rw [beq_iff_eq.2 h8.1,cond_true,beq_iff_eq.2 h8.2,if_neg (fun h:okC c=>h.2.2.2.2.2 h8),cond_true]
      ·rw [if_pos (show okC c from ⟨h1,by omega,by omega,by omega,by omega,h8⟩)]
       by_cases g1:c.ID = -1
       ·have g2:c.Source ≠ -1:=fun g=>h8 ⟨g1,g⟩
        rw [beq_iff_eq.2 g1,beq_eq_false_iff_ne.2 g2]; rfl
       ·rw [beq_eq_false_iff_ne.2 g1]; rfl
theorem qo6 {N:Nat} {l:List Call} {k:Nat} {c:Call} {seen:List Str} (hc:l[k]? = some c) (hs:seen.length ≤ 100000) :
  qcQ N l (k:Int) (seen.map fun x=>(x,true)) = some (match vcG seen c with | .inl s'=>.inl (((k + 1:Nat):Int),s'.map fun x=>(x,true)) | .inr _=>.inr (.inr false)):=by
 have hlt:=(List.getElem?_eq_some_iff.1 hc).1
 unfold qcQ vcG
 rw [dk hlt,cond_true,ixg hc,Option.bind_some,qmK]
 by_cases h7:c.Name ∈ seen
 ·rw [if_pos h7,if_neg (fun h:okC c ∧ ¬c.Name ∈ seen=>h.2 h7)]
  cases (c.Name == ([]:Str)) <;> rfl
 ·rw [if_neg h7,qmA h7 (by omega)]
  refine (qsc c _ _).trans ?_
  by_cases h:okC c
  ·rw [if_pos h,if_pos (show okC c ∧ ¬c.Name ∈ seen from ⟨h,h7⟩)]; rfl
  ·rw [if_neg h,if_neg (fun g:okC c ∧ ¬c.Name ∈ seen=>h g.1)]
theorem qrA {seen s':List Str} {c:Call} (h:vcG seen c = .inl s'):s'.length = seen.length + 1:=by
 unfold vcG at h
 split at h
 ·cases h; simp
 ·cases h
theorem qqT {N:Nat} {l:List Call} (hN:l.length < N) (hl:l.length ≤ 100000):qb8 (qft N l) (VC l):=by
 refine ⟨_,?_,qqB (l:=l) rfl⟩
 unfold qft
 rw [qf8 l vcG (fun s=>qcQ N l s.1 s.2) (fun s k=>((k:Int),s.map fun x=>(x,true))) (fun _=>.inl ()) (fun _=>.inr false) (fun k s=>s.length ≤ k) hN (s0:=([]:List Str)) (by simp)
  (fun k x s hx hi=>by
   have:=(List.getElem?_eq_some_iff.1 hx).1
   rw [qo6 hx (by omega)]
   cases vcG s x <;> rfl)
  (fun k x s s' hx hi hg=>by have:=qrA hg; omega)
  (fun s hi=>by unfold qcQ; rw [dn,cond_false]) (t0:=(0,([]:List (Str × Bool)))) rfl,Option.bind_some]
 cases qaU vcG l [] with
 | inl s=>exact congrArg some (lenb l.length 40)
 | inr r=>rfl
def FewP (calls:List Call) (files:List File):Prop:=(∀ f ∈ files,f.Text.length ≤ 400 ∧ f.Name.length ≤ 200) ∧ (∀ c ∈ calls,c.Name.length ≤ 100) ∧ calls.length ≤ 45 ∧ files.length ≤ 6
theorem qsB {N:Nat} {calls:List Call} {files:List File} (h1:calls.length < N) (h2:files.length < N):qb8 (qes N calls files) (FewP calls files):=by
 unfold qes FewP
 rcases qgL (body:=fun s=>qcU N files s) (fun f:File=>f.Text.length ≤ 400 ∧ f.Name.length ≤ 200) files h2 (fun k x hx=>by
  simp only [qcU]
  rw [dk (List.getElem?_eq_some_iff.1 hx).1,cond_true,ixg hx]
  simp only [Option.bind_some]
  by_cases g1:x.Text.length ≤ 400
  ·rw [decide_eq_false (show ¬((x.Text.length:Int) > 400) by omega),cond_false]
   by_cases g2:x.Name.length ≤ 200
   ·rw [decide_eq_false (show ¬((x.Name.length:Int) > 200) by omega)]; exact .inl ⟨⟨g1,g2⟩,rfl⟩
   ·rw [decide_eq_true (show ((x.Name.length:Int) > 200) by omega)]; exact .inr ⟨fun h=>g2 h.2,rfl⟩
  ·rw [decide_eq_true (show ((x.Text.length:Int) > 400) by omega)]; exact .inr ⟨fun h=>g1 h.1,rfl⟩) (by simp only [qcU]; rw [dn,cond_false]) with ⟨e1,p1⟩ | ⟨e1,p1⟩
 rotate_left
 ·rw [e1]; exact qb8.no rfl fun h=>p1 h.1
 rw [e1,Option.bind_some,Sum.elim_inl]
 rcases qgL (body:=fun s=>qcZ N calls s) (fun f:Call=>f.Name.length ≤ 100) calls h1 (fun k x hx=>by
  simp only [qcZ]
  rw [dk (List.getElem?_eq_some_iff.1 hx).1,cond_true,ixg hx]
  simp only [Option.bind_some]
  by_cases g1:x.Name.length ≤ 100
  ·rw [decide_eq_false (show ¬((x.Name.length:Int) > 100) by omega)]; exact .inl ⟨g1,rfl⟩
  ·rw [decide_eq_true (show ((x.Name.length:Int) > 100) by omega)]; exact .inr ⟨g1,rfl⟩) (by simp only [qcZ]; rw [dn,cond_false]) with ⟨e2,p2⟩ | ⟨e2,p2⟩
 rotate_left
 ·rw [e2]; exact qb8.no rfl fun h=>p2 h.2.1
 rw [e2,Option.bind_some,Sum.elim_inl]
 by_cases h3:calls.length ≤ 45
 ·rw [decide_eq_true (show (calls.length:Int) ≤ 45 by omega),cond_true]
  by_cases h4:files.length ≤ 6
  ·rw [decide_eq_true (show (files.length:Int) ≤ 6 by omega)]; exact qb8.yes rfl ⟨p1,p2,h3,h4⟩
  ·rw [decide_eq_false (show ¬(files.length:Int) ≤ 6 by omega)]; exact qb8.no rfl fun h=>h4 h.2.2.2
 ·rw [decide_eq_false (show ¬(calls.length:Int) ≤ 45 by omega)]; exact qb8.no rfl fun h=>h3 h.2.2.1
theorem qsV {N:Nat} {l:List Call} (hN:l.length < N) (hl:l.length ≤ 1000000):qeI N l = some l:=by
 unfold qeI
 rw [qiV (fun k=>(l.take k,(k:Int))) l.length l (s0:=(([]:List Call),(0:Int))) rfl (fun i hi=>by
  simp only [qdx]
  obtain ⟨x,hx⟩:=qcg hi
  rw [dk hi,cond_true,ixg hx,Option.bind_some,app1 (by simp; omega),Option.bind_some,qfL hx]
  rfl) (by simp only [qdx]; rw [dn,cond_false,List.take_length]) N hN]
 rfl
theorem qqQ {N:Nat} {l:List File} (hN:l.length < N) (hl:l.length ≤ 1000000):qdT N l = some l:=by
 unfold qdT
 rw [qiV (fun k=>(l.take k,(k:Int))) l.length l (s0:=(([]:List File),(0:Int))) rfl (fun i hi=>by
  simp only [qdb]
  obtain ⟨x,hx⟩:=qcg hi
  rw [dk hi,cond_true,ixg hx,Option.bind_some,app1 (by simp; omega),Option.bind_some,qfL hx]
  rfl) (by simp only [qdb]; rw [dn,cond_false,List.take_length]) N hN]
 rfl
set_option maxRecDepth 1000000 in
theorem qoU (n:Nat):qeQ (n + 300) = some true:=by kernel_rfl
end Go.Proofs.YtllfckekodcdaaaGreatDoor
namespace Go.Proofs.YtllfckekodcdaaaGreatDoor
open Go.X
def qkt:Str:=[115,107,105,112]
def kCom:Str:=[99,111,109,109,101,110,116]
def qjf:Str:=[99,108,111,115,101]
def qlF:Str:=[111,112,101,110]
def qlW:Str:=[99,111,109,109,97]
def qlP:Str:=[110,97,109,101]
def blk (t:Token):Bool:=decide (t.Kind = qkt) || decide (t.Kind = kCom)
theorem qnF (N:Nat) (t:Token):qdR N t = some (blk t):=by
 unfold qdR blk
 simp only [beqS]
 by_cases h:t.Kind = qkt
 ·rw [decide_eq_true (show t.Kind = ([115,107,105,112]:Str) from h),cond_true,decide_eq_true h]; rfl
 ·rw [decide_eq_false (show ¬t.Kind = ([115,107,105,112]:Str) from h),cond_false,decide_eq_false h]; rfl
abbrev ASt:=List (List Token) × List Token × Nat
def dep (t:Token) (d:Nat):Nat:=if t.Kind = qlF then d + 1 else if t.Kind = qjf then d - 1 else d
def argG (s:ASt) (t:Token):ASt ⊕ List (List Token) :=
 if t.Kind = qjf ∧ s.2.2 = 0 then .inr (if s.1 = [] ∧ s.2.1 = [] then [] else s.1 ++ [s.2.1])
 else if blk t = true then .inl s
 else if t.Kind = qlW ∧ s.2.2 = 0 then .inl (s.1 ++ [s.2.1],[],s.2.2)
 else .inl (s.1,s.2.1 ++ [t],dep t s.2.2)
def args (l:List Token):List (List Token):=match qaU argG l ([],[],0) with | .inr r=>r | .inl _=>[]
structure AInv (l:List Token) (k:Nat) (s:ASt):Prop where
 n1:s.1.length ≤ k
 n2:s.2.1.length ≤ k
 n3:s.2.2 ≤ k
 n4:∀ a ∈ s.1,tsum a ≤ tsum (l.take k) ∧ a.length ≤ k
 n5:tsum s.2.1 ≤ tsum (l.take k)
theorem qqD (a b:List Token):tsum (a ++ b) = tsum a + tsum b:=by simp [tsum]
theorem AInv.step {l:List Token} {k:Nat} {s s':ASt} {t:Token} (hx:l[k]? = some t) (h:AInv l k s) (hg:argG s t = .inl s'):AInv l (k + 1) s':=by
 have ht:=qiA hx
 unfold argG at hg
 split at hg
 ·cases hg
 split at hg
 ·cases hg
  exact ⟨by have:=h.n1; omega,by have:=h.n2; omega,by have:=h.n3; omega,fun a ha=>by have:=h.n4 a ha; omega,by have:=h.n5; omega⟩
 split at hg
 ·cases hg
  refine ⟨by have:=h.n1; simp; omega,by simp,by have:=h.n3; simp only; omega,fun a ha=>?_,by simp [tsum]⟩
  simp only at ha
  rcases List.mem_append.1 ha with ha | ha
  ·have:=h.n4 a ha; omega
  ·obtain rfl:=List.mem_singleton.1 ha
   have:=h.n5; have:=h.n2; omega
 ·cases hg
  refine ⟨by have:=h.n1; simp only; omega,by have:=h.n2; simp; omega,by have:=h.n3; simp only; unfold dep; split; omega; split <;> omega,fun a ha=>by have:=h.n4 a ha; omega,?_⟩
  have:=h.n5
  simp only [qqD]
  simp only [tsum,List.map_cons,List.map_nil,List.sum_cons,List.sum_nil] at *
  omega
theorem AInv.nil (l:List Token):AInv l 0 ([],[],0):=⟨by simp,by simp,by simp,fun a ha=>by simp at ha,by simp [tsum]⟩
theorem qoA (l:List Token):(args l).length ≤ l.length + 1 ∧ ∀ a ∈ args l,tsum a ≤ tsum l ∧ a.length ≤ l.length:=by
 have key:∀ (j k:Nat) (s:ASt),k + j = l.length → AInv l k s → ∀ r,qaU argG (l.drop k) s = .inr r → r.length ≤ l.length + 1 ∧ ∀ a ∈ r,tsum a ≤ tsum l ∧ a.length ≤ l.length:=by
  intro j
  induction j with
  | zero =>
   intro k s hk hi r hr
   rw [List.drop_eq_nil_of_le (by omega)] at hr
   cases hr
  | succ j ih =>
   intro k s hk hi r hr
   have hlt:k < l.length:=by omega
   have hx:l[k]? = some l[k]:=List.getElem?_eq_getElem hlt
   rw [List.drop_eq_getElem_cons hlt,qaU] at hr
   cases hg:argG s l[k] with
   | inl s' =>
    rw [hg] at hr
    exact ih (k + 1) s' (by omega) (hi.step hx hg) r hr
   | inr r' =>
    rw [hg] at hr
    cases hr
    unfold argG at hg
    split at hg
    ·have hp:=qik l k
     have h1:=hi.n1
     have h2:=hi.n2
     have h5:=hi.n5
     simp only [Sum.inr.injEq] at hg
     subst hg
     split
     ·exact ⟨by simp,fun a ha=>by simp at ha⟩
     ·refine ⟨by simp; omega,fun a ha=>?_⟩
      rcases List.mem_append.1 ha with ha | ha
      ·have:=hi.n4 a ha; omega
      ·obtain rfl:=List.mem_singleton.1 ha; omega
    ·split at hg
     ·cases hg
     ·split at hg <;> cases hg
 unfold args
 cases h:qaU argG l ([],[],0) with
 | inl s=>exact ⟨by simp,fun a ha=>by simp at ha⟩
 | inr r=>exact key l.length 0 ([],[],0) (by omega) (AInv.nil l) r (by simpa using h)
theorem notK {k k':Str} {t:Token} (h:t.Kind = k) (hk:k ≠ k'):¬t.Kind = k':=fun e=>hk (h.symm.trans e)
def qix (s:ASt):Bool:=!(decide (s.1 = [] ∧ s.2.1 = []))
theorem depI {t:Token} {d:Nat} (hd:d ≤ 1000000) (hc:¬(t.Kind = qjf ∧ d = 0)):(bif decide (t.Kind = qlF) then some (IntKind.wrap .i64 ((d:Int) + 1)) else bif decide (t.Kind = qjf) then some (IntKind.wrap .i64 ((d:Int) - 1)) else some (d:Int)) = some ((dep t d:Nat):Int):=by
 unfold dep
 by_cases h1:t.Kind = qlF
 ·rw [decide_eq_true h1,cond_true,if_pos h1,show (d:Int) + 1 = ((d + 1:Nat):Int) by omega,qgX (by omega)]
 ·rw [decide_eq_false h1,cond_false,if_neg h1]
  by_cases h2:t.Kind = qjf
  ·have:d ≠ 0:=fun e=>hc ⟨h2,e⟩
   rw [decide_eq_true h2,cond_true,if_pos h2,show (d:Int) - 1 = ((d - 1:Nat):Int) by omega,qgX (by omega)]
  ·rw [decide_eq_false h2,cond_false,if_neg h2]
theorem qth {α:Type} {l:List α} {x:α} (hl:l.length ≤ 1000000):IntKind.wrap .i64 (((l ++ [x]).length:Int) - 1) = (l.length:Int):=by
 rw [List.length_append,List.length_singleton,show ((l.length + 1:Nat):Int) - 1 = (l.length:Int) by omega]
 exact qgX (by omega)
theorem qqI {N:Nat} {t:Token} {o:List (List Token)} {now:List Token} (ho:o.length ≤ 1000000) (hn:now.length ≤ 1000000) :
  ((idx (o ++ [now]) (IntKind.wrap .i64 (((o ++ [now]).length:Int) - 1))).bind fun x72=>(app x72 ([t]:List Token)).bind fun l94=>(idx (o ++ [now]) (IntKind.wrap .i64 (((o ++ [now]).length:Int) - 1))).bind fun _x99=>some ((o ++ [now]).set (IntKind.wrap .i64 (((o ++ [now]).length:Int) - 1)).toNat l94)) = some (o ++ [now ++ [t]]):=by
 have h1:idx (o ++ [now]) (o.length:Int) = some now:=ixg (by rw [List.getElem?_append_right (Nat.le_refl _),Nat.sub_self]; rfl)
 rw [qth ho,h1,Option.bind_some,app1 (by simp; omega),Option.bind_some,Option.bind_some,Int.toNat_natCast,List.set_append_right _ _ (Nat.le_refl _),Nat.sub_self]
 rfl
theorem qpP {N:Nat} {l:List Token} {k:Nat} {t:Token} {s:ASt} (hx:l[k]? = some t) (h:AInv l k s) (hl:l.length ≤ 1000000) :
  qb4 N l (s.1 ++ [s.2.1]) (s.2.2:Int) (qix s) (k:Int) = some (match argG s t with | .inl s'=>.inl (s'.1 ++ [s'.2.1],(s'.2.2:Int),qix s',((k + 1:Nat):Int)) | .inr r=>.inr (.inr r)):=by
 obtain ⟨o,now,d⟩:=s
 have hlt:=(List.getElem?_eq_some_iff.1 hx).1
 have h1:=h.n1; have h2:=h.n2; have h3:=h.n3
 simp only at h1 h2 h3 ⊢
 unfold qb4 argG
 rw [dk hlt,cond_true,ixg hx,Option.bind_some]
 simp only [beqS,qnF,Option.bind_some]
 have hput:=qqI (N:=N) (t:=t) (o:=o) (now:=now) (by omega) (by omega)
 have hd0:((d:Int) == 0) = decide (d = 0):=by by_cases g:d = 0 <;> simp [g]
 have happ:app (o ++ [now]) ([[]]:List (List Token)) = some ((o ++ [now]) ++ [[]]):=app1 (by simp; omega)
 have hsome:qix (o,now ++ [t],dep t d) = true:=by unfold qix; simp
 simp only [hd0,hput,happ,Option.bind_some]
 by_cases hc:t.Kind = qjf
 ·have nb:blk t = false:=by unfold blk; rw [decide_eq_false (notK hc (by decide)),decide_eq_false (notK hc (by decide))]; rfl
  rw [decide_eq_true (show t.Kind = ([99,108,111,115,101]:Str) from hc),cond_true]
  by_cases hz:d = 0
  ·rw [decide_eq_true hz,cond_true,if_pos ⟨hc,hz⟩]
   by_cases he:o = [] ∧ now = []
   ·rw [if_pos he]
    unfold qix
    simp [he]
   ·rw [if_neg he]
    unfold qix
    simp [he]
  ·have hdep:=depI (t:=t) (d:=d) (by omega) (fun g=>hz g.2)
   rw [decide_eq_true hc] at hdep
   rw [decide_eq_false hz,cond_false,if_neg (fun g=>hz g.2),nb,cond_false,if_neg (by decide),decide_eq_false (show ¬t.Kind = ([99,111,109,109,97]:Str) from notK hc (by decide)),cond_false,if_neg (fun g=>hz g.2)]
   refine (congrArg (fun o=>Option.bind o _) hdep).trans ?_
   rw [Option.bind_some]
   simp only [hsome]
   rfl
 ·rw [decide_eq_false (show ¬t.Kind = ([99,108,111,115,101]:Str) from hc),cond_false,if_neg (fun g=>hc g.1)]
  cases hb:blk t with
  | true =>
   rw [cond_true,if_pos rfl]
   rfl
  | false =>
   rw [cond_false,if_neg (by decide)]
   have hdep:=depI (t:=t) (d:=d) (by omega) (fun g=>hc g.1)
   rw [decide_eq_false hc] at hdep
   by_cases hm:t.Kind = qlW
   ·rw [decide_eq_true (show t.Kind = ([99,111,109,109,97]:Str) from hm),cond_true]
    by_cases hz:d = 0
    ·rw [decide_eq_true hz,cond_true,if_pos ⟨hm,hz⟩]
     unfold qix
     simp
    ·rw [decide_eq_false hz,cond_false,if_neg (fun g=>hz g.2)]
     refine (congrArg (fun o=>Option.bind o _) hdep).trans ?_
     rw [Option.bind_some]
     simp only [hsome]
     rfl
   ·rw [decide_eq_false (show ¬t.Kind = ([99,111,109,109,97]:Str) from hm),cond_false,if_neg (fun g=>hm g.1)]
    refine (congrArg (fun o=>Option.bind o _) hdep).trans ?_
    rw [Option.bind_some]
    simp only [hsome]
    rfl
theorem qny {N:Nat} {l:List Token} {i:Nat} (hi:i + 1 ≤ l.length) (hN:l.length < N) (hl:l.length ≤ 1000000):qdX N l (i:Int) = some (args (l.drop (i + 1))):=by
 unfold qdX
 rw [show (i:Int) + 1 = ((i + 1:Nat):Int) by omega,qgX (by omega),qhl hi,Option.bind_some]
 generalize hm:l.drop (i + 1) = m
 have hml:m.length ≤ l.length:=by rw [← hm]; simp
 rw [qf8 m argG (fun s=>qb4 N m s.1 s.2.1 s.2.2.1 s.2.2.2) (fun s k=>(s.1 ++ [s.2.1],(s.2.2:Int),qix s,(k:Int))) (fun _=>.inl ()) (fun r=>.inr r) (fun k s=>AInv m k s) (by omega) (s0:=(([],[],0):ASt)) (AInv.nil m)
  (fun k x s hx hi=>by
   refine (qpP (N:=N) hx hi (by omega)).trans ?_
   cases argG s x <;> rfl)
  (fun k x s s' hx hi hg=>hi.step hx hg)
  (fun s hi=>by simp only [qb4]; rw [dn,cond_false]) (t0:=(([[]]:List (List Token)),0,false,0)) rfl,Option.bind_some]
 unfold args
 cases qaU argG m ([],[],0) <;> rfl
def qj1 (l:List Token):List Token:=l.filter fun t=>!blk t
theorem qn8 (l:List Token) (t:Token):qj1 (l ++ [t]) = if blk t = true then qj1 l else qj1 l ++ [t]:=by
 unfold qj1
 rw [List.filter_append]
 cases hb:blk t <;> simp [hb]
def RInv (l:List Token) (k:Nat) (s:ASt × List Token):Prop:=AInv l k s.1 ∧ qj1 s.2 = s.1.2.1 ∧ s.2.length ≤ k
def argR (s:ASt × List Token) (t:Token):(ASt × List Token) ⊕ List (List Token) :=
 match argG s.1 t with | .inr r=>.inr r | .inl s'=>.inl (s',if t.Kind = qlW ∧ s.1.2.2 = 0 then [] else s.2 ++ [t])
theorem RInv.step {l:List Token} {k:Nat} {s s':ASt × List Token} {t:Token} (hx:l[k]? = some t) (h:RInv l k s) (hg:argR s t = .inl s'):RInv l (k + 1) s':=by
 obtain ⟨h1,h2,h3⟩:=h
 unfold argR at hg
 cases ha:argG s.1 t with
 | inr r=>rw [ha] at hg; cases hg
 | inl s1 =>
  rw [ha] at hg
  cases hg
  refine ⟨h1.step hx ha,?_,?_⟩
  ·unfold argG at ha
   split at ha
   ·cases ha
   rename_i hnc
   by_cases hcm:t.Kind = qlW ∧ s.1.2.2 = 0
   ·have nb:blk t = false:=by unfold blk; rw [decide_eq_false (notK hcm.1 (by decide)),decide_eq_false (notK hcm.1 (by decide))]; rfl
    rw [nb,if_neg (by decide),if_pos hcm] at ha
    cases ha
    simp only
    rw [if_pos hcm]
    rfl
   ·simp only
    rw [if_neg hcm,qn8]
    split at ha
    ·rename_i hb
     cases ha
     rw [if_pos hb,h2]
    ·rename_i hb
     cases ha
     rw [if_neg hb,h2]
  ·simp only
   split
   ·simp
   ·simp; omega
end Go.Proofs.YtllfckekodcdaaaGreatDoor
namespace Go.Proofs.YtllfckekodcdaaaGreatDoor
open Go.X
def val (ar:List (List Token)) (i:Int):Str × Bool:=match ar[i.toNat]? with | some a=>lit a | none=>([],false)
theorem qqX {N:Nat} {ar:List (List Token)} {i:Int} {L:Nat} (hi:0 ≤ i) (ha:∀ a ∈ ar,tsum a ≤ L ∧ a.length < N ∧ a.length ≤ 1000000) (hL:L ≤ 1000000000):qdP N ar i = some (val ar i):=by
 unfold qdP val
 by_cases h:ar.length ≤ i.toNat
 ·rw [decide_eq_true (show i ≥ (ar.length:Int) by omega),cond_true,List.getElem?_eq_none h]
 ·rw [decide_eq_false (show ¬i ≥ (ar.length:Int) by omega),cond_false]
  have hx:ar[i.toNat]? = some ar[i.toNat]:=List.getElem?_eq_getElem (by omega)
  have hm:=ha _ (List.mem_of_getElem? hx)
  rw [idx,if_pos hi,hx,Option.bind_some,qpi hm.2.1 (by omega) (by omega)]
  rfl
theorem qr1 {ar:List (List Token)} {i:Int} {L:Nat} (ha:∀ a ∈ ar,tsum a ≤ L):(val ar i).1.length ≤ L:=by
 unfold val
 cases h:ar[i.toNat]? with
 | none=>simp
 | some a=>exact Nat.le_trans (qrQ a) (ha a (List.mem_of_getElem? h))
def cmt (l:List Token):Nat → Str
 | 0=>[]
 | i + 1=>match l[i]? with | none=>[] | some t=>if t.Kind = qkt then cmt l i else if t.Kind = kCom then Lib.trimRightS (Lib.trimLeftS t.Text [47,35,42,32]) [32] else []
theorem wm1 {i:Nat} (h:i ≤ 1000000000):IntKind.wrap .i64 ((i:Int) - 1) = (i:Int) - 1:=qe3 (qcT.2 ⟨by omega,by omega⟩)
theorem qoZ {N:Nat} {l:List Token} {i:Nat} (hi:i ≤ l.length) (hl:l.length ≤ 1000000) (hN:l.length < N):qeK N l (i:Int) = some (cmt l i):=by
 unfold qeK
 rw [wm1 (by omega)]
 have key:∀ (i M:Nat),i ≤ l.length → i < M → ((iter (fun s=>qcm N l s) M ((i:Int) - 1)).bind fun o2=>Sum.elim (fun _o2=>some ([]:Str)) (fun o2=>some o2) o2) = some (cmt l i):=by
  intro i
  induction i with
  | zero =>
   intro M _ hM
   obtain ⟨M,rfl⟩:∃ M',M = M' + 1:=⟨M - 1,by omega⟩
   simp only [iter,qcm]
   rfl
  | succ i ih =>
   intro M hi hM
   obtain ⟨M,rfl⟩:∃ M',M = M' + 1:=⟨M - 1,by omega⟩
   obtain ⟨t,ht⟩:=qcg (show i < l.length by omega)
   have e:(((i + 1:Nat):Int) - 1) = (i:Int):=by omega
   have hb:qcm N l (i:Int) = some (if t.Kind = qkt then .inl ((i:Int) - 1) else if t.Kind = kCom then .inr (.inr (Lib.trimRightS (Lib.trimLeftS t.Text [47,35,42,32]) [32])) else .inr (.inr [])):=by
    unfold qcm
    rw [decide_eq_true (show (i:Int) ≥ 0 by omega),cond_true,ixg ht]
    simp only [Option.bind_some,beqS]
    by_cases h1:t.Kind = qkt
    ·rw [decide_eq_true (show t.Kind = ([115,107,105,112]:Str) from h1),cond_true,if_pos h1,wm1 (by omega)]
    ·rw [decide_eq_false (show ¬t.Kind = ([115,107,105,112]:Str) from h1),cond_false,if_neg h1]
     by_cases h2:t.Kind = kCom
     ·rw [decide_eq_true (show t.Kind = ([99,111,109,109,101,110,116]:Str) from h2),cond_true,if_pos h2,qeg,if_pos (by decide),Option.bind_some,qdW,if_pos (by decide)]
      rfl
     ·rw [decide_eq_false (show ¬t.Kind = ([99,111,109,109,101,110,116]:Str) from h2),cond_false,if_neg h2]
   rw [e,cmt,ht]
   rw [iter]
   simp only [hb]
   by_cases h1:t.Kind = qkt
   ·simp only [if_pos h1]
    exact ih M (by omega) (by omega)
   ·simp only [if_neg h1]
    by_cases h2:t.Kind = kCom
    ·simp only [if_pos h2]; rfl
    ·simp only [if_neg h2]; rfl
 exact key i N hi (by omega)
def nxt (l:List Token) (i:Nat):Nat:=i + ((l.drop i).takeWhile blk).length
theorem qte {l:List Token} {i:Nat} (h:i ≤ l.length):i ≤ nxt l i ∧ nxt l i ≤ l.length:=by
 unfold nxt
 have:((l.drop i).takeWhile blk).length ≤ (l.drop i).length:=(List.takeWhile_sublist _).length_le
 simp only [List.length_drop] at this
 omega
theorem qqK {N:Nat} {l:List Token} (body:Int → Option (Int ⊕ Int)) (hb:∀ k:Nat,body (k:Int) = bif decide ((k:Int) < (l.length:Int)) then (idx l (k:Int)).bind fun x=>bif blk x then some (.inl ((k:Int) + 1)) else some (.inr (k:Int)) else some (.inr (k:Int))) :
  ∀ (j i M:Nat),i + j = l.length → j < M → iter body M (i:Int) = some ((nxt l i:Nat):Int):=by
 intro j
 induction j with
 | zero =>
  intro i M hi hM
  obtain ⟨M,rfl⟩:∃ M',M = M' + 1:=⟨M - 1,by omega⟩
  obtain rfl:i = l.length:=by omega
  simp only [iter,hb,dn,cond_false]
  unfold nxt
  rw [List.drop_eq_nil_of_le (Nat.le_refl _)]
  rfl
 | succ j ih =>
  intro i M hi hM
  obtain ⟨M,rfl⟩:∃ M',M = M' + 1:=⟨M - 1,by omega⟩
  have hlt:i < l.length:=by omega
  have hx:l[i]? = some l[i]:=List.getElem?_eq_getElem hlt
  simp only [iter,hb,dk hlt,cond_true,ixg hx,Option.bind_some]
  unfold nxt
  rw [List.drop_eq_getElem_cons hlt,List.takeWhile_cons]
  cases h:blk l[i] with
  | true =>
   have:=ih (i + 1) M (by omega) (by omega)
   unfold nxt at this
   rw [cond_true]
   simp only
   rw [show ((i:Int) + 1) = ((i + 1:Nat):Int) by omega,this]
   simp; omega
  | false=>rw [cond_false]; rfl
def occA (l:List Token) (i o:Nat) (k:Nat) (c:Call) (t:Token):Option Found2 :=
 let ar:=args (l.drop (o + 1))
 let a:=val ar (if 0 ≤ c.ID then c.ID else c.Source)
 let b:=val ar (if 0 ≤ c.Source then c.Source else c.ID)
 if a.2 = true ∧ b.2 = true then some (Found2.mk k t.From a.1 b.1 (cmt l i)) else none
def qiB (calls:List Call) (t:Token):Option Nat:=if t.Kind = qlP then calls.findIdx? (fun c=>t.Text == c.Name) else none
def occ (l:List Token) (calls:List Call) (i:Nat):Option Found2 :=
 match l[i]? with
 | none=>none
 | some t=>match qiB calls t with
  | none=>none
  | some k=>match l[nxt l (i + 1)]?,calls[k]? with
   | some o,some c=>if o.Kind = qlF then occA l i (nxt l (i + 1)) k c t else none
   | _,_=>none
theorem qqU {N:Nat} {calls:List Call} {t:Token} (hN:calls.length < N):qbf N calls t = some (match qiB calls t with | some k=>(k:Int) | none=>-1):=by
 unfold qbf
 rw [idxf (body:=fun s=>qaZ N calls t s) calls (fun c=>decide (t.Kind = qlP) && (t.Text == c.Name)) hN (fun k x hx=>by
  simp only [qaZ,qdo]
  rw [dk (List.getElem?_eq_some_iff.1 hx).1,cond_true,ixg hx]
  simp only [Option.bind_some,beqS]
  by_cases h:t.Kind = qlP
  ·rw [decide_eq_true (show t.Kind = ([110,97,109,101]:Str) from h),cond_true,decide_eq_true h,Bool.true_and,Option.bind_some]
   cases decide (t.Text = x.Name) <;> rfl
  ·rw [decide_eq_false (show ¬t.Kind = ([110,97,109,101]:Str) from h),cond_false,decide_eq_false h,Bool.false_and]
   rfl) (by simp only [qaZ]; rw [dn,cond_false])]
 unfold qiB
 by_cases h:t.Kind = qlP
 ·rw [if_pos h,decide_eq_true h]; simp only [Bool.true_and] <;> rfl
 ·rw [if_neg h,decide_eq_false h]
  simp only [Bool.false_and]
  rw [show calls.findIdx? (fun _=>false) = none from by rw [List.findIdx?_eq_none_iff]; intro x _; rfl]
theorem qmx {calls:List Call} {t:Token} {k:Nat} (h:qiB calls t = some k):∃ c,calls[k]? = some c ∧ t.Text = c.Name ∧ t.Kind = qlP ∧ k < calls.length:=by
 unfold qiB at h
 split at h
 ·rename_i hk
  obtain ⟨h1,h2,_⟩:=List.findIdx?_eq_some_iff_getElem.1 h
  exact ⟨calls[k],List.getElem?_eq_getElem h1,by simpa using h2,hk,h1⟩
 ·cases h
theorem qmM {N:Nat} {l:List Token} {calls:List Call} {i:Nat} (hi:i < l.length) (hc:∀ c ∈ calls,okC c) (hN:l.length + calls.length + 10 < N) (hl:l.length ≤ 1000000) (ht:tsum l ≤ 1000000):qeE N l calls (i:Int) = some (occ l calls i):=by
 obtain ⟨t,hti⟩:=qcg hi
 unfold qeE occ
 rw [ixg hti,Option.bind_some,qqU (by omega),Option.bind_some,hti,show (i:Int) + 1 = ((i + 1:Nat):Int) by omega,qgX (by omega)]
 have hb:∀ k:Nat,(fun s=>qcX N l s) (k:Int) = bif decide ((k:Int) < (l.length:Int)) then (idx l (k:Int)).bind fun x=>bif blk x then some (.inl ((k:Int) + 1)) else some (.inr (k:Int)) else some (.inr (k:Int)):=fun k=>by
  simp only [qcX,qnF,Option.bind_some]
 rw [qqK (N:=N) _ hb (l.length - (i + 1)) (i + 1) N (by omega) (by omega),Option.bind_some]
 obtain ⟨hn1,hn2⟩:=qte (show i + 1 ≤ l.length by omega)
 generalize nxt l (i + 1) = o at hn1 hn2 ⊢
 dsimp only
 cases hk:qiB calls t with
 | none=>dsimp only; rw [decide_eq_true (show (-1:Int) < 0 by decide),cond_true]
 | some k =>
  obtain ⟨c,hck,_,_,hkl⟩:=qmx hk
  dsimp only
  rw [decide_eq_false (show ¬(k:Int) < 0 by omega),cond_false,hck]
  by_cases ho:o = l.length
  ·rw [ho,beq_self_eq_true,cond_true,List.getElem?_eq_none (Nat.le_refl _)]
  ·have holt:o < l.length:=by omega
   obtain ⟨ot,hot⟩:=qcg holt
   rw [show ((o:Int) == (l.length:Int)) = false from by rw [beq_eq_false_iff_ne]; omega,cond_false,ixg hot,Option.bind_some,hot]
   dsimp only
   simp only [bneS]
   by_cases hop:ot.Kind = qlF
   ·rw [decide_eq_true (show ot.Kind = ([111,112,101,110]:Str) from hop),Bool.not_true,cond_false,if_pos hop]
    rw [qny (by omega) (by omega) hl,Option.bind_some,qoZ (by omega) hl (by omega),Option.bind_some,Option.bind_some,ixg hck]
    simp only [Option.bind_some]
    have hao:=qoA (l.drop (o + 1))
    have hdl:tsum (l.drop (o + 1)) ≤ tsum l:=by have:=qid (l:=l) (o + 1) (l.length); rwa [List.take_of_length_le (by simp)] at this
    have hdn:(l.drop (o + 1)).length ≤ l.length:=by simp
    have has:∀ a ∈ args (l.drop (o + 1)),tsum a ≤ 1000000 ∧ a.length < N ∧ a.length ≤ 1000000:=fun a ha=>by have:=hao.2 a ha; omega
    unfold occA
    obtain ⟨g1,g2,g3,g4,g5,g6⟩:=hc c (List.mem_of_getElem? hck)
    generalize args (l.drop (o + 1)) = ar at has ⊢
    have hv:∀ i:Int,0 ≤ i → qdP N ar i = some (val ar i):=fun i hi=>qqX hi has (by decide)
    by_cases h1:0 ≤ c.ID
    ·rw [decide_eq_true (show c.ID ≥ 0 from h1),cond_true,hv _ h1,if_pos h1]
     simp only [Option.bind_some]
     by_cases h2:0 ≤ c.Source
     ·rw [decide_eq_true (show c.Source ≥ 0 from h2),cond_true,hv _ h2,if_pos h2]
      simp only [Option.bind_some]
      cases ha:(val ar c.ID).2 with
      | false=>rw [if_neg (fun h=>by cases h.1)]; rfl
      | true =>
       cases hb2:(val ar c.Source).2 with
       | false=>rw [if_neg (fun h=>by cases h.2)]; rfl
       | true =>
        rw [if_pos ⟨rfl,rfl⟩,decide_eq_false (show ¬c.ID < 0 by omega),decide_eq_false (show ¬c.Source < 0 by omega)]
        rfl
     ·rw [decide_eq_false (show ¬c.Source ≥ 0 from h2),cond_false,if_neg h2]
      simp only [Option.bind_some]
      cases ha:(val ar c.ID).2 with
      | false=>rw [if_neg (fun h=>by cases h.1)]; rfl
      | true =>
       rw [if_pos ⟨rfl,rfl⟩,decide_eq_false (show ¬c.ID < 0 by omega),decide_eq_true (show c.Source < 0 by omega)]
       rfl
    ·have h2:0 ≤ c.Source:=by
      apply Classical.byContradiction
      intro h2
      exact g6 ⟨by omega,by omega⟩
     rw [decide_eq_false (show ¬c.ID ≥ 0 from h1),cond_false,if_neg h1,if_pos h2]
     simp only [Option.bind_some]
     rw [decide_eq_true (show c.Source ≥ 0 from h2),cond_true,hv _ h2]
     simp only [Option.bind_some]
     cases hb2:(val ar c.Source).2 with
     | false=>rw [if_neg (fun h=>by cases h.1)]; rfl
     | true =>
      rw [if_pos ⟨rfl,rfl⟩,decide_eq_true (show c.ID < 0 by omega),decide_eq_false (show ¬c.Source < 0 by omega)]
      rfl
   ·rw [decide_eq_false (show ¬ot.Kind = ([111,112,101,110]:Str) from hop),Bool.not_false,cond_true,if_neg hop]
def occs (l:List Token) (calls:List Call):List Found2:=(List.range l.length).filterMap (occ l calls)
theorem qtz {N:Nat} {l:List Token} {calls:List Call} (hc:∀ c ∈ calls,okC c) (hN:l.length + calls.length + 10 < N) (hl:l.length ≤ 1000000) (ht:tsum l ≤ 1000000):∀ (k i:Nat),i + k = l.length → qge N l calls k i = some ((List.range' i k).filterMap (occ l calls)):=by
 intro k
 induction k with
 | zero=>intro i _; rfl
 | succ k ih =>
  intro i hi
  rw [qge,qmM (by omega) hc hN hl ht,Option.bind_some,ih (i + 1) (by omega),Option.bind_some,List.range'_succ,List.filterMap_cons]
  cases occ l calls i <;> rfl
theorem qqF {N:Nat} {l:List Token} {calls:List Call} (hc:∀ c ∈ calls,okC c) (hN:l.length + calls.length + 10 < N) (hl:l.length ≤ 1000000) (ht:tsum l ≤ 1000000):qdL N l calls = some (occs l calls):=by
 unfold qdL occs
 rw [qtz hc hN hl ht l.length 0 (by omega),List.range_eq_range']
theorem qqC (s:Str):(Lib.trimRightS (Lib.trimLeftS s [47,35,42,32]) [32]).length ≤ s.length:=Nat.le_trans (qiu _ _).2.2 (qiu _ _).2.1
theorem qoM (l:List Token):∀ i,(cmt l i).length ≤ tsum l
 | 0=>by simp [cmt]
 | i + 1=>by
  rw [cmt]
  cases h:l[i]? with
  | none=>simp
  | some t =>
   simp only
   split
   ·exact qoM l i
   ·split
    ·have h1:=qqC t.Text
     have h2:=qiA h
     have h3:=qik l (i + 1)
     omega
    ·simp
theorem qoE {l:List Token} {calls:List Call} {i:Nat} {x:Found2} (h:occ l calls i = some x):∃ t k c z z',l[i]? = some t ∧ qiB calls t = some k ∧ calls[k]? = some c ∧ k < calls.length ∧ x.call = (k:Int) ∧ x.offset = t.From ∧ x.comment = cmt l i ∧
  x.id = (val (args (l.drop (nxt l (i + 1) + 1))) z).1 ∧ x.source = (val (args (l.drop (nxt l (i + 1) + 1))) z').1:=by
 unfold occ at h
 cases hi:l[i]? with
 | none=>rw [hi] at h; cases h
 | some k =>
  rw [hi] at h
  simp only at h
  cases hk:qiB calls k with
  | none=>rw [hk] at h; cases h
  | some j =>
   rw [hk] at h
   simp only at h
   obtain ⟨c,hcj,_,_,hjl⟩:=qmx hk
   cases ho:l[nxt l (i + 1)]? with
   | none=>rw [ho] at h; cases h
   | some o =>
    rw [ho,hcj] at h
    simp only at h
    split at h
    ·unfold occA at h
     dsimp only at h
     obtain ⟨A,hA⟩:∃ A,A = val (args (l.drop (nxt l (i + 1) + 1))) (if 0 ≤ c.ID then c.ID else c.Source):=⟨_,rfl⟩
     obtain ⟨B,hB⟩:∃ B,B = val (args (l.drop (nxt l (i + 1) + 1))) (if 0 ≤ c.Source then c.Source else c.ID):=⟨_,rfl⟩
     rw [← hA,← hB] at h
     by_cases hab:A.2 = true ∧ B.2 = true
     ·rw [if_pos hab] at h
      cases h
      exact ⟨k,j,c,_,_,rfl,hk,hcj,hjl,rfl,rfl,rfl,congrArg Prod.fst hA,congrArg Prod.fst hB⟩
     ·rw [if_neg hab] at h; cases h
    ·cases h
theorem qk6 (l:List Token) (i:Nat) (z:Int):(val (args (l.drop (nxt l (i + 1) + 1))) z).1.length ≤ tsum l:=by
 have hdl:tsum (l.drop (nxt l (i + 1) + 1)) ≤ tsum l:=by have:=qid (l:=l) (nxt l (i + 1) + 1) (l.length); rwa [List.take_of_length_le (by simp)] at this
 exact qr1 fun a ha=>by have:=(qoA (l.drop (nxt l (i + 1) + 1))).2 a ha; omega
theorem qoY {l:List Token} {calls:List Call} {i:Nat} {x:Found2} (h:occ l calls i = some x):x.id.length ≤ tsum l:=by
 obtain ⟨t,k,c,z,z',_,_,_,_,_,_,_,h8,_⟩:=qoE h
 rw [h8]; exact qk6 l i z
theorem qp0 {l:List Token} {calls:List Call} {i:Nat} {x:Found2} {t:Str} (hT:TOk t l) (h:occ l calls i = some x):FOk calls.length t.length x:=by
 obtain ⟨k,j,c,z,z',h1,h2,h3,h4,h5,h6,h7,h8,h9⟩:=qoE h
 have hf:=hT.fr k (List.mem_of_getElem? h1)
 have hs:=hT.sum
 have hcm:=qoM l i
 have e1:=qk6 l i z
 have e2:=qk6 l i z'
 rw [← h8] at e1
 rw [← h9] at e2
 rw [← h7] at hcm
 exact ⟨by omega,by omega,by omega,by omega,by omega,by omega,by omega⟩
theorem qsj {l:List Token} {calls:List Call} {t:Str} (hT:TOk t l):∀ x ∈ occs l calls,FOk calls.length t.length x:=by
 intro x hx
 obtain ⟨i,_,hi⟩:=List.mem_filterMap.1 hx
 exact qp0 hT hi
theorem qnn (l:List Token) (calls:List Call):(occs l calls).length ≤ l.length:=by
 unfold occs
 exact Nat.le_trans (List.length_filterMap_le _ _) (by simp)
theorem qr0 {nc B:Nat} {x:Found2} (h:FOk nc B x):fokb nc B x = true:=by
 unfold fokb
 exact decide_eq_true h
theorem qqa {N B:Nat} {l:List Token} {calls:List Call} {t:Str} (hc:∀ c ∈ calls,okC c) (hN:l.length + calls.length + 10 < N) (hT:TOk t l) (ht:t.length ≤ 1000000) (hB:t.length ≤ B):qeW N calls.length B l calls = some (occs l calls):=by
 unfold qeW
 have h1:=hT.len
 have h2:=hT.sum
 rw [qqF hc hN (by omega) (by omega),Option.bind_some]
 have:(occs l calls).all (fokb calls.length B) = true:=List.all_eq_true.2 fun x hx=>by
  obtain ⟨g1,g2,g3,g4,g5,g6,g7⟩:=qsj hT x hx
  exact qr0 ⟨g1,g2,g3,by omega,by omega,by omega,by omega⟩
 rw [this,cond_true]
end Go.Proofs.YtllfckekodcdaaaGreatDoor
namespace Go.Proofs.YtllfckekodcdaaaGreatDoor
open Go.X
def okF (f:File):Prop:=f.Name ≠ [] ∧ f.Name.length ≤ 100 ∧ ∀ c ∈ f.Name,c ≠ 32 ∧ c ≠ 10
def NM (l:List File):Prop:=(∀ f ∈ l,okF f) ∧ (l.map File.Name).Nodup
theorem qj3:∀ (s:Str),(Lib.indexAny s [32,10] ≥ 0) ↔ ¬∀ c ∈ s,c ≠ 32 ∧ c ≠ 10:=by
 intro s
 induction s with
 | nil=>simp [Lib.indexAny]
 | cons b l ih =>
  unfold Lib.indexAny
  by_cases hb:b = 32 ∨ b = 10
  ·have hc:([32,10]:Str).contains b = true:=by
    rcases hb with rfl | rfl <;> rfl
   rw [if_pos hc]
   refine Iff.intro (fun _ h=>?_) (fun _=>by decide)
   have:=h b (List.mem_cons_self ..)
   rcases hb with hb | hb
   ·exact this.1 hb
   ·exact this.2 hb
  ·have hc:([32,10]:Str).contains b = false:=by
    simp only [List.contains_cons,List.contains_nil,Bool.or_false,Bool.or_eq_false_iff,beq_eq_false_iff_ne]
    exact ⟨fun e=>hb (.inl e),fun e=>hb (.inr e)⟩
   rw [if_neg (by rw [hc]; decide)]
   have h1:=Lib.indexAny_ge ([32,10]:Str) l
   have e1:(∀ c ∈ b :: l,c ≠ 32 ∧ c ≠ 10) ↔ ∀ c ∈ l,c ≠ 32 ∧ c ≠ 10:=by
    refine Iff.intro (fun h c hc=>h c (List.mem_cons_of_mem _ hc)) (fun h c hc=>?_)
    rcases List.mem_cons.1 hc with rfl | hc
    ·exact ⟨fun e=>hb (.inl e),fun e=>hb (.inr e)⟩
    ·exact h c hc
   rw [e1,← ih]
   by_cases h2:Lib.indexAny l [32,10] = -1
   ·rw [h2]
    simp
   ·rw [if_neg (by rw [beq_iff_eq]; exact h2)]
    omega
instance (f:File):Decidable (okF f):=by unfold okF; infer_instance
def nmG (seen:List Str) (f:File):List Str ⊕ Unit:=if okF f ∧ f.Name ∉ seen then .inl (seen ++ [f.Name]) else .inr ()
theorem qoD:∀ (l:List File) (seen:List Str),(qaU nmG l seen = .inl (seen ++ l.map File.Name) ∧ (∀ c ∈ l,okF c) ∧ (l.map File.Name).Nodup ∧ ∀ c ∈ l,c.Name ∉ seen) ∨ (qaU nmG l seen = .inr () ∧ ¬((∀ c ∈ l,okF c) ∧ (l.map File.Name).Nodup ∧ ∀ c ∈ l,c.Name ∉ seen))
 | [],seen=>.inl ⟨by simp [qaU],by simp,by simp,by simp⟩
 | c :: l,seen=>by
  rw [qaU]
  by_cases h:okF c ∧ c.Name ∉ seen
  ·have hg:nmG seen c = .inl (seen ++ [c.Name]):=by unfold nmG; rw [if_pos h]
   rw [hg]
   rcases qoD l (seen ++ [c.Name]) with ⟨h1,h2,h3,h4⟩ | ⟨h1,h2⟩
   ·refine .inl ⟨by simpa using h1,?_,?_,?_⟩
    ·intro x hx
     rcases List.mem_cons.1 hx with rfl | hx
     ·exact h.1
     ·exact h2 x hx
    ·rw [List.map_cons,List.nodup_cons]
     refine ⟨fun hm=>?_,h3⟩
     obtain ⟨x,hx,he⟩:=List.mem_map.1 hm
     exact h4 x hx (by rw [he]; simp)
    ·intro x hx
     rcases List.mem_cons.1 hx with rfl | hx
     ·exact h.2
     ·exact fun hs=>h4 x hx (List.mem_append_left _ hs)
   ·refine .inr ⟨h1,fun ⟨g1,g2,g3⟩=>h2 ⟨fun x hx=>g1 x (List.mem_cons_of_mem _ hx),?_,?_⟩⟩
    ·rw [List.map_cons,List.nodup_cons] at g2; exact g2.2
    ·intro x hx hs
     rw [List.map_cons,List.nodup_cons] at g2
     rcases List.mem_append.1 hs with hs | hs
     ·exact g3 x (List.mem_cons_of_mem _ hx) hs
     ·exact g2.1 (List.mem_map.2 ⟨x,hx,List.mem_singleton.1 hs⟩)
  ·have hg:nmG seen c = .inr ():=by unfold nmG; rw [if_neg h]
   rw [hg]
   exact .inr ⟨rfl,fun ⟨g1,g2,g3⟩=>h ⟨g1 c (List.mem_cons_self ..),g3 c (List.mem_cons_self ..)⟩⟩
theorem qpl {N:Nat} {l:List File} {k:Nat} {f:File} {seen:List Str} (hx:l[k]? = some f) (hs:seen.length ≤ 100000) :
  qcP N l (k:Int) (seen.map fun x=>(x,true)) = some (match nmG seen f with | .inl s'=>.inl (((k + 1:Nat):Int),s'.map fun x=>(x,true)) | .inr _=>.inr (.inr false)):=by
 have hlt:=(List.getElem?_eq_some_iff.1 hx).1
 unfold qcP nmG
 rw [dk hlt,cond_true,ixg hx,Option.bind_some,qmK]
 simp only [beqS]
 by_cases h1:f.Name = []
 ·rw [decide_eq_true h1,cond_true,if_neg (fun h:okF f ∧ f.Name ∉ seen=>h.1.1 h1)]
 ·rw [decide_eq_false h1,cond_false]
  by_cases h2:f.Name.length ≤ 100
  ·rw [decide_eq_false (show ¬(f.Name.length:Int) > 100 by omega),cond_false]
   by_cases h3:f.Name ∈ seen
   ·rw [if_pos h3,if_neg (fun h:okF f ∧ f.Name ∉ seen=>h.2 h3)]; rfl
   ·rw [if_neg h3,qmA h3 (by omega)]
    unfold qei qfj
    rw [if_pos ⟨by decide,by decide,by omega,by decide⟩]
    simp only [Option.getD_none,cond_false,Option.bind_some]
    by_cases h4:∀ c ∈ f.Name,c ≠ 32 ∧ c ≠ 10
    ·rw [decide_eq_false (fun g=>(qj3 _).1 g h4),cond_false,if_pos (show okF f ∧ f.Name ∉ seen from ⟨⟨h1,h2,h4⟩,h3⟩)]
     rfl
    ·rw [decide_eq_true ((qj3 _).2 h4),cond_true,if_neg (fun h:okF f ∧ f.Name ∉ seen=>h4 h.1.2.2)]
  ·rw [decide_eq_true (show (f.Name.length:Int) > 100 by omega),cond_true,if_neg (fun h:okF f ∧ f.Name ∉ seen=>h2 h.1.2.1)]
theorem qrx {seen s':List Str} {c:File} (h:nmG seen c = .inl s'):s'.length = seen.length + 1:=by
 unfold nmG at h
 split at h
 ·cases h; simp
 ·cases h
theorem qqy {N:Nat} {l:List File} (hN:l.length < N) (hl:l.length ≤ 100000):qb8 (qfu N l) (NM l):=by
 unfold qfu
 rw [qf8 l nmG (fun s=>qcP N l s.1 s.2) (fun s k=>((k:Int),s.map fun x=>(x,true))) (fun _=>.inl ()) (fun _=>.inr false) (fun k s=>s.length ≤ k) hN (s0:=([]:List Str)) (by simp)
  (fun k x s hx hi=>by
   have:=(List.getElem?_eq_some_iff.1 hx).1
   rw [qpl (seen:=s) hx (by omega)]
   cases nmG s x <;> rfl)
  (fun k x s s' hx hi hg=>by have:=qrx hg; omega)
  (fun s hi=>by unfold qcP; rw [dn,cond_false]) (t0:=(0,([]:List (Str × Bool)))) rfl,Option.bind_some]
 rcases qoD l [] with ⟨h1,h2,h3,h4⟩ | ⟨h1,h2⟩
 ·rw [h1]; exact qb8.yes rfl ⟨h2,h3⟩
 ·rw [h1]; exact qb8.no rfl fun g=>h2 ⟨g.1,g.2,fun _ _=>by simp⟩
def gT (s:List State) (all:List (List Token)) (f:File):List (List Token) ⊕ (List Entry × Place × Int) :=
 if (tokR s f.Text).2.2 ≠ 0 then .inr ([],Place.mk (all.length:Int) (tokR s f.Text).2.1,(tokR s f.Text).2.2) else .inl (all ++ [(tokR s f.Text).1])
theorem qnp (s:List State):∀ (l:List File) (all all':List (List Token)),qaU (gT s) l all = .inl all' → all' = all ++ l.map (fun f=>(tokR s f.Text).1) ∧ ∀ f ∈ l,(tokR s f.Text).2.2 = 0
 | [],all,all',h=>by cases h; simp
 | f :: l,all,all',h=>by
  rw [qaU] at h
  by_cases h0:(tokR s f.Text).2.2 = 0
  ·have hg:gT s all f = .inl (all ++ [(tokR s f.Text).1]):=by unfold gT; rw [if_neg (by simpa using h0)]
   rw [hg] at h
   obtain ⟨h1,h2⟩:=qnp s l _ _ h
   refine ⟨by simpa using h1,fun g hg=>?_⟩
   rcases List.mem_cons.1 hg with rfl | hg
   ·exact h0
   ·exact h2 g hg
  ·have hg:gT s all f = .inr ([],Place.mk (all.length:Int) (tokR s f.Text).2.1,(tokR s f.Text).2.2):=by unfold gT; rw [if_pos h0]
   rw [hg] at h; cases h
theorem qm4 (s:List State):∀ (l:List File) (all:List (List Token)),(∀ f ∈ l,(tokR s f.Text).2.2 = 0) → qaU (gT s) l all = .inl (all ++ l.map (fun f=>(tokR s f.Text).1))
 | [],all,_=>by simp [qaU]
 | f :: l,all,h=>by
  have h0:=h f (List.mem_cons_self ..)
  have hg:gT s all f = .inl (all ++ [(tokR s f.Text).1]):=by unfold gT; rw [if_neg (by simpa using h0)]
  rw [qaU,hg]
  simp only
  rw [qm4 s l _ fun g hg=>h g (List.mem_cons_of_mem _ hg)]
  simp
abbrev Ev:=Found2 × Str
structure SI (j:Nat) (ix:Mp) (out:List Entry):Prop where
 ol:out.length ≤ j
 il:ix.length ≤ j
 iv:∀ p ∈ ix,0 ≤ p.2 ∧ p.2 < (out.length:Int) ∧ p.1.length ≤ 1000000
 fl:∀ e ∈ out,∃ g,e.Fields = [g] ∧ g.Value.length ≤ j * 1000
 cl:∀ e ∈ out,e.Comments.length ≤ j
 fg:∀ e ∈ out,e.Flags = [] ∧ e.State = 0
set_option maxRecDepth 100000 in
theorem SI.step {j:Nat} {ix ix':Mp} {out out':List Entry} {i:Int} {f:File} {x:Found2} (b:SI j ix out) (hr:(refT f x).length + 1 ≤ 1000) (hid:x.id.length ≤ 1000000) (h:rnd i f x ix out = .inl (ix',out')):SI (j + 1) ix' out':=by
 have hz:(j + 1) * 1000 = j * 1000 + 1000:=Nat.succ_mul j 1000
 unfold rnd at h
 generalize refT f x = r at hr h
 cases hm:mget ix x.id with
 | none =>
  rw [hm] at h
  simp only [Option.isSome_none,cond_false,Sum.inl.injEq,Prod.mk.injEq] at h
  obtain ⟨rfl,rfl⟩:=h
  have hc:=qkz (E0 x.id x.source) x.comment
  have hE:(E0 x.id x.source).Comments.length = 0:=rfl
  refine ⟨by have:=b.ol; simp; omega,by have:=b.il; have:=qnE ix x.id (out.length:Int); omega,fun p hp=>?_,fun e he=>?_,fun e he=>?_,fun e he=>?_⟩
  ·rw [List.length_append,List.length_singleton]
   rcases qnM hp with hp | rfl
   ·have:=b.iv p hp; omega
   ·simp only; omega
  ·rcases List.mem_append.1 he with he | he
   ·obtain ⟨g,h1,h2⟩:=b.fl e he; exact ⟨g,h1,by omega⟩
   ·obtain rfl:=List.mem_singleton.1 he
    exact ⟨Field.mk [114,101,102] ([] ++ [] ++ r),rfl,by show ([] ++ [] ++ r:Str).length ≤ _; rw [List.nil_append,List.nil_append]; omega⟩
  ·rcases List.mem_append.1 he with he | he
   ·have:=b.cl e he; omega
   ·obtain rfl:=List.mem_singleton.1 he
    show (cms (E0 x.id x.source) x.comment).length ≤ _
    omega
  ·rcases List.mem_append.1 he with he | he
   ·exact b.fg e he
   ·obtain rfl:=List.mem_singleton.1 he; exact ⟨rfl,rfl⟩
 | some v =>
  rw [hm] at h
  simp only [Option.isSome_some,cond_true,Option.getD_some] at h
  cases hk:out[v.toNat]? with
  | none=>rw [hk] at h; simp at h
  | some e0 =>
   rw [hk] at h
   simp only at h
   split at h
   case isFalse=>simp at h
   simp only [Sum.inl.injEq,Prod.mk.injEq] at h
   obtain ⟨rfl,rfl⟩:=h
   have he0:=List.mem_of_getElem? hk
   have hc:=qkz e0 x.comment
   obtain ⟨g,hg1,hg2⟩:=b.fl e0 he0
   refine ⟨by have:=b.ol; rw [List.length_set]; omega,by have:=b.il; omega,fun p hp=>by rw [List.length_set]; exact b.iv p hp,fun e he=>?_,fun e he=>?_,fun e he=>?_⟩
   ·rcases List.mem_or_eq_of_mem_set he with he | rfl
    ·obtain ⟨g,h1,h2⟩:=b.fl e he; exact ⟨g,h1,by omega⟩
    ·refine ⟨Field.mk g.Name (g.Value ++ [32] ++ r),?_,by show (g.Value ++ [32] ++ r).length ≤ _; rw [List.length_append,List.length_append,List.length_singleton]; omega⟩
     show fld e0.Fields true r = _
     rw [hg1]; rfl
   ·rcases List.mem_or_eq_of_mem_set he with he | rfl
    ·have:=b.cl e he; omega
    ·have:=b.cl e0 he0
     show (cms e0 x.comment).length ≤ _
     omega
   ·rcases List.mem_or_eq_of_mem_set he with he | rfl
    ·exact b.fg e he
    ·exact b.fg e0 he0
set_option maxRecDepth 100000 in
theorem SI.rb {N j:Nat} {ix:Mp} {out:List Entry} {f:File} {x:Found2} (b:SI j ix out) (hj:j ≤ 100000) (hN:100000 < N) (h1:f.Name.length ≤ 1000) (h2:f.Text.length ≤ 1000) (h3:0 ≤ x.offset) (h4:x.offset ≤ (f.Text.length:Int)):Rb N f x ix out where
 nm:=by omega
 tx:=by omega
 of0:=h3
 of1:=h4
 ol:=by have:=b.ol; omega
 il:=by have:=b.il; omega
 iv:=fun p hp=>⟨(b.iv p hp).1,(b.iv p hp).2.1⟩
 fl:=fun e he=>by obtain ⟨g,h,h5⟩:=b.fl e he; exact ⟨g,h,by omega⟩
 cl:=fun e he=>by have:=b.cl e he; omega
 n0:=by omega
def gR (i:Int) (f:File) (s:Mp × List Entry) (x:Found2):(Mp × List Entry) ⊕ (List Entry × Place × Int):=rnd i f x s.1 s.2
theorem qqu {f:File} {x:Found2} (h1:f.Name.length ≤ 200) (h2:f.Text.length ≤ 400) (h3:0 ≤ x.offset) (h4:x.offset ≤ (f.Text.length:Int)):(refT f x).length + 1 ≤ 1000:=by
 have hc:Lib.count (f.Text.take x.offset.toNat) [10] ≤ (f.Text.take x.offset.toNat).length + 1:=Lib.count_le _ _
 have ht:(f.Text.take x.offset.toNat).length ≤ 400:=by rw [List.length_take]; omega
 have hi:Lib.itoa (1 + (Lib.count (f.Text.take x.offset.toNat) [10]:Int)) = Lib.decDigits (1 + Lib.count (f.Text.take x.offset.toNat) [10]):=by
  unfold Lib.itoa
  rw [if_neg (by omega)]
  congr 1 <;> omega
 have hl:=qpV (1 + Lib.count (f.Text.take x.offset.toNat) [10])
 unfold refT
 rw [hi]
 simp only [List.length_append,List.length_cons,List.length_nil]
 omega
theorem qqf {N:Nat} {i:Int} {f:File} (hN:100000 < N) (h1:f.Name.length ≤ 200) (h2:f.Text.length ≤ 400):∀ (rs:List Found2) (j:Nat) (ix:Mp) (out:List Entry),(∀ x ∈ rs,0 ≤ x.offset ∧ x.offset ≤ (f.Text.length:Int) ∧ x.id.length ≤ 1000000) → SI j ix out → j + rs.length ≤ 100000 →
  runF (fun s x=>qdn N i f x s.1 s.2) rs (ix,out) = some (qaU (gR i f) rs (ix,out)) ∧ ∀ ix' out',qaU (gR i f) rs (ix,out) = .inl (ix',out') → SI (j + rs.length) ix' out'
 | [],j,ix,out,_,hS,_=>⟨rfl,fun ix' out' h=>by cases h; exact hS⟩
 | x :: rs,j,ix,out,hx,hS,hj=>by
  obtain ⟨h3,h4,h5⟩:=hx x (List.mem_cons_self ..)
  simp only [List.length_cons] at hj
  have hb:Rb N f x ix out:=hS.rb (by omega) hN (by omega) (by omega) h3 h4
  rw [runF,qaU,qnI hb,Option.bind_some]
  have e:gR i f (ix,out) x = rnd i f x ix out:=rfl
  rw [e]
  cases hr:rnd i f x ix out with
  | inr r=>exact ⟨rfl,fun ix' out' h=>by cases h⟩
  | inl s =>
   obtain ⟨ix1,out1⟩:=s
   have hS1:=hS.step (qqu h1 h2 h3 h4) h5 hr
   obtain ⟨g1,g2⟩:=qqf hN h1 h2 rs (j + 1) ix1 out1 (fun y hy=>hx y (List.mem_cons_of_mem _ hy)) hS1 (by omega)
   exact ⟨g1,fun ix' out' h=>by have:=g2 ix' out' h; rw [List.length_cons]; rwa [show j + (rs.length + 1) = j + 1 + rs.length by omega]⟩
theorem qqE {N j:Nat} {i:Int} {f:File} {rs:List Found2} {ix:Mp} {out:List Entry} (b:SI j ix out) (hj:j ≤ 100000) (hN:1000000 < N) (hi:0 ≤ i ∧ i ≤ 1000) (h1:f.Name.length ≤ 200) (h2:f.Text.length ≤ 400) (hr:rs.length ≤ 1000) (hx:∀ x ∈ rs,x.offset ≤ (f.Text.length:Int)):qeM N i f rs ix out = true:=by
 unfold qeM
 simp only [Bool.and_eq_true,decide_eq_true_eq,List.all_eq_true]
 have h3:=b.ol; have h4:=b.il
 refine ⟨⟨by omega,by omega,by omega,by omega,by omega,by omega,by omega,by omega⟩,hx,fun p hp=>b.iv p hp,fun e he=>?_⟩
 obtain ⟨g,g1,g2⟩:=b.fl e he
 have g3:=b.cl e he
 have g4:=b.fg e he
 refine ⟨⟨by rw [g1]; rfl,by omega,by omega,g4.1,g4.2⟩,fun y hy=>?_⟩
 rw [g1] at hy
 obtain rfl:=List.mem_singleton.1 hy
 omega
theorem qnV {N j:Nat} {i:Int} {f:File} {rs:List Found2} {ix:Mp} {out:List Entry} (b:SI j ix out) (hj:j + rs.length ≤ 100000) (hN:1000000 < N) (hi:0 ≤ i ∧ i ≤ 1000) (h1:f.Name.length ≤ 200) (h2:f.Text.length ≤ 400) (hr:rs.length ≤ 1000) (hx:∀ x ∈ rs,0 ≤ x.offset ∧ x.offset ≤ (f.Text.length:Int) ∧ x.id.length ≤ 1000000) :
  qgA N i f rs ix out = some (qaU (gR i f) rs (ix,out)) ∧ ∀ ix' out',qaU (gR i f) rs (ix,out) = .inl (ix',out') → SI (j + rs.length) ix' out':=by
 unfold qgA
 rw [qqE b (by omega) hN hi h1 h2 hr (fun x h=>(hx x h).2.1),cond_true]
 exact qqf (by omega) h1 h2 rs j ix out hx b hj
def gX (s:List State) (calls:List Call) (st:Nat × Mp × List Entry) (f:File):(Nat × Mp × List Entry) ⊕ (List Entry × Place × Int) :=
 match qaU (gR (st.1:Int) f) (occs (tokR s f.Text).1 calls) (st.2.1,st.2.2) with | .inl r=>.inl (st.1 + 1,r.1,r.2) | .inr r=>.inr r
def P0:Place:=Place.mk 0 0
open Classical in
noncomputable def exR (s:List State) (calls:List Call) (files:List File):List Entry × Place × Int :=
 if Vl s ∧ VC calls ∧ NM files then
  match qaU (gT s) files [] with
  | .inr r=>r
  | .inl _=>match qaU (gX s calls) files (0,[],[]) with
   | .inr r=>r
   | .inl st=>if st.2.2.length > 1000 then ([],P0,6) else (st.2.2,P0,0)
 else ([],P0,1)
def FewQ (calls:List Call) (files:List File):Prop:=(∀ f ∈ files,f.Text.length ≤ 400 ∧ f.Name.length ≤ 200) ∧ calls.length ≤ 100 ∧ files.length ≤ 6
theorem FewP.q {calls:List Call} {files:List File} (h:FewP calls files):FewQ calls files:=⟨h.1,by have:=h.2.2.1; omega,h.2.2.2⟩
set_option maxRecDepth 100000 in
theorem extract_eq {N:Nat} {s:List State} {calls:List Call} {files:List File} (hs:Sz N s) (hb:SbS s) (hF:FewQ calls files) (hN:1000000 < N):qdF N s calls files = some (exR s calls files):=by
 obtain ⟨hf1,hf3,hf4⟩:=hF
 unfold qdF exR
 rcases (qjE hs hb (by omega)).cases with ⟨h,hv⟩ | ⟨h,hv⟩
 rotate_left
 ·rw [h,if_neg (fun g=>hv g.1)]; rfl
 rw [h,Option.bind_some,Bool.not_true,cond_false]
 rcases (qqT (N:=N) (l:=calls) (by omega) (by omega)).cases with ⟨h,hc⟩ | ⟨h,hc⟩
 rotate_left
 ·rw [h,if_neg (fun g=>hc g.2.1)]; rfl
 rw [h,Option.bind_some,Bool.not_true,cond_false]
 rcases (qqy (N:=N) (l:=files) (by omega) (by omega)).cases with ⟨h,hn⟩ | ⟨h,hn⟩
 rotate_left
 ·rw [h,if_neg (fun g=>hn g.2.2)]; rfl
 rw [h,Option.bind_some,Bool.not_true,cond_false,decide_eq_false (by omega),cond_false,if_pos ⟨hv,hc,hn⟩]
 have htk:∀ f ∈ files,qfz N s f.Text = some (tokR s f.Text):=fun f hf=>qmg hs hb hv (by have:=hf1 f hf; omega) (by omega) (by have:=hf1 f hf; omega)
 rw [qf8 files (gT s) (fun t=>qc0 N s files t.1 t.2) (fun all k=>(all,(k:Int))) (fun all=>.inl all) (fun r=>.inr r) (fun k all=>all.length = k) (by omega) (s0:=([]:List (List Token))) rfl
  (fun k f all hx hi=>by
   have hlt:=(List.getElem?_eq_some_iff.1 hx).1
   simp only [qc0]
   rw [dk hlt,cond_true,ixg hx,Option.bind_some,htk f (List.mem_of_getElem? hx),Option.bind_some]
   unfold gT
   by_cases h0:(tokR s f.Text).2.2 = 0
   ·rw [show ((tokR s f.Text).2.2 != 0) = false from by rw [h0]; rfl,cond_false,app1 (by simp; omega),if_neg (by simpa using h0)]; rfl
   ·rw [bne_iff_ne.2 h0,cond_true,if_pos h0,hi])
  (fun k f all all' hx hi hg=>by
   unfold gT at hg
   split at hg
   ·cases hg
   ·cases hg; simp [hi])
  (fun all hi=>by simp only [qc0]; rw [dn,cond_false]) (t0:=(([]:List (List Token)),0)) rfl,Option.bind_some]
 cases hT:qaU (gT s) files [] with
 | inr r=>rfl
 | inl all =>
  obtain ⟨hall,htok⟩:=qnp s files [] all hT
  rw [List.nil_append] at hall
  show ((iter (fun s=>qcl N calls files all s.1 s.2.1 s.2.2) N (0,([]:Mp),[])).bind fun o82=>_) = _
  have hTO:∀ f:File,TOk f.Text (tokR s f.Text).1:=fun f=>qoO hv.1
  have hol:∀ f ∈ files,(occs (tokR s f.Text).1 calls).length ≤ 400:=fun f hf=>by
   have h1:=qnn (tokR s f.Text).1 calls
   have h2:=(hTO f).len
   have h3:=hf1 f hf
   omega
  have hox:∀ f ∈ files,∀ x ∈ occs (tokR s f.Text).1 calls,0 ≤ x.offset ∧ x.offset ≤ (f.Text.length:Int) ∧ x.id.length ≤ 1000000:=fun f hf x hx=>by
   unfold occs at hx
   obtain ⟨i,_,hi⟩:=List.mem_filterMap.1 hx
   obtain ⟨g1,g2,g3,g4,g5,g6,g7⟩:=qp0 (hTO f) hi
   have h3:=(hTO f).sum
   have hvl:x.id.length ≤ tsum (tokR s f.Text).1:=qoY hi
   have:=hf1 f hf
   exact ⟨g3,g4,by omega⟩
  rw [qf8 files (gX s calls) (fun t=>qcl N calls files all t.1 t.2.1 t.2.2) (fun st k=>((st.1:Int),st.2.1,st.2.2)) (fun st=>.inl (st.2.2,st.2.1)) (fun r=>.inr r) (fun k st=>st.1 = k ∧ SI (k * 400) st.2.1 st.2.2) (by omega) (s0:=((0,[],[]):Nat × Mp × List Entry)) ⟨rfl,by simp,by simp,by simp,by simp,by simp,by simp⟩
   (fun k f st hx hi=>by
    have hlt:=(List.getElem?_eq_some_iff.1 hx).1
    have hm:=List.mem_of_getElem? hx
    obtain ⟨h1,h2⟩:=hi
    simp only [qcl]
    have hax:all[k]? = some (tokR s f.Text).1:=by rw [hall,List.getElem?_map,hx]; rfl
    have hff:=hf1 f hm
    have hos:=hol f hm
    rw [h1,dk hlt,cond_true,ixg hx,Option.bind_some,ixg hax,Option.bind_some,qqa hc.1 (by have:=(hTO f).len; omega) (hTO f) (by omega) (Nat.le_refl _),Option.bind_some]
    obtain ⟨e1,_⟩:=qnV (N:=N) (i:=(k:Int)) h2 (by omega) hN (by omega) hff.2 hff.1 (by omega) (hox f hm)
    rw [e1,Option.bind_some]
    unfold gX
    rw [h1]
    cases qaU (gR (k:Int) f) (occs (tokR s f.Text).1 calls) (st.2.1,st.2.2) <;> rfl)
   (fun k f st st' hx hi hg=>by
    have hlt:=(List.getElem?_eq_some_iff.1 hx).1
    have hm:=List.mem_of_getElem? hx
    obtain ⟨h1,h2⟩:=hi
    have hff:=hf1 f hm
    have hos:=hol f hm
    obtain ⟨_,e2⟩:=qnV (N:=N) (i:=(st.1:Int)) h2 (by omega) hN (by omega) hff.2 hff.1 (by omega) (hox f hm)
    unfold gX at hg
    cases hfo:qaU (gR (st.1:Int) f) (occs (tokR s f.Text).1 calls) (st.2.1,st.2.2) with
    | inr r=>rw [hfo] at hg; cases hg
    | inl r =>
     rw [hfo] at hg
     cases hg
     refine ⟨by simp only; omega,?_⟩
     have hS:=e2 r.1 r.2 hfo
     have hle:k * 400 + (occs (tokR s f.Text).1 calls).length ≤ (k + 1) * 400:=by omega
     exact ⟨Nat.le_trans hS.ol hle,Nat.le_trans hS.il hle,hS.iv,fun e he=>by obtain ⟨g,a,b⟩:=hS.fl e he; exact ⟨g,a,Nat.le_trans b (Nat.mul_le_mul_right _ hle)⟩,fun e he=>Nat.le_trans (hS.cl e he) hle,hS.fg⟩)
   (fun st hi=>by simp only [qcl]; rw [hi.1,dn,cond_false]) (t0:=(0,([]:Mp),([]:List Entry))) rfl,Option.bind_some]
  cases qaU (gX s calls) files (0,[],[]) with
  | inr r=>rfl
  | inl st =>
   show (bif decide ((st.2.2.length:Int) > 1000) then some (([],P0,6):List Entry × Place × Int) else some (st.2.2,P0,0)) = _
   by_cases h:st.2.2.length > 1000
   ·rw [decide_eq_true (show (st.2.2.length:Int) > 1000 by omega),cond_true]; simp only [if_pos h]
   ·rw [decide_eq_false (show ¬(st.2.2.length:Int) > 1000 by omega),cond_false]; simp only [if_neg h]
end Go.Proofs.YtllfckekodcdaaaGreatDoor
namespace Go.Proofs.YtllfckekodcdaaaGreatDoor
open Go.X
def flt (ev:List Ev) (id:Str):List Ev:=ev.filter fun e=>decide (e.1.id = id)
def cmsL (acc:List Str) (c:Str):List Str:=if c = [] ∨ acc.contains c = true then acc else acc ++ [c]
def cmD (l:List Ev):List Str:=l.foldl (fun acc e=>cmsL acc e.1.comment) []
def vlD:List Ev → Str
 | []=>[]
 | e :: l=>e.2 ++ l.flatMap (fun e=>32 :: e.2)
def idsG (acc:List Str) (e:Ev):List Str:=if e.1.id ∈ acc then acc else acc ++ [e.1.id]
def ids (ev:List Ev):List Str:=ev.foldl idsG []
def qfN (ev:List Ev) (id:Str):Str:=match flt ev id with | e :: _=>e.1.source | []=>[]
def EntE (ev:List Ev) (id:Str):Entry:=Entry.mk id (qfN ev id) [] (cmD (flt ev id)) [] 0 [Field.mk [114,101,102] (vlD (flt ev id))]
def qb0 (ev:List Ev):List Entry:=(ids ev).map (EntE ev)
def Good (ev:List Ev):Prop:=∀ e ∈ ev,∀ e' ∈ ev,e.1.id = e'.1.id → e.1.source = e'.1.source
theorem qnP (ev:List Ev) (e:Ev):ids (ev ++ [e]) = idsG (ids ev) e:=by unfold ids; rw [List.foldl_append]; rfl
theorem qst (a b:List Ev):ids (a ++ b) = b.foldl idsG (ids a):=by unfold ids; rw [List.foldl_append]
theorem qjh (a b:List Ev) (id:Str):flt (a ++ b) id = flt a id ++ flt b id:=List.filter_append ..
theorem qnz:∀ (ev:List Ev) (acc:List Str) (id:Str),id ∈ ev.foldl idsG acc ↔ id ∈ acc ∨ ∃ e ∈ ev,e.1.id = id
 | [],acc,id=>by simp
 | e :: ev,acc,id=>by
  rw [List.foldl_cons,qnz ev (idsG acc e) id]
  unfold idsG
  by_cases h:e.1.id ∈ acc
  ·rw [if_pos h]
   refine Iff.intro (fun g=>?_) (fun g=>?_)
   ·rcases g with g | ⟨x,hx,he⟩
    ·exact .inl g
    ·exact .inr ⟨x,List.mem_cons_of_mem _ hx,he⟩
   ·rcases g with g | ⟨x,hx,he⟩
    ·exact .inl g
    ·rcases List.mem_cons.1 hx with rfl | hx
     ·exact .inl (he ▸ h)
     ·exact .inr ⟨x,hx,he⟩
  ·rw [if_neg h]
   refine Iff.intro (fun g=>?_) (fun g=>?_)
   ·rcases g with g | ⟨x,hx,he⟩
    ·rcases List.mem_append.1 g with g | g
     ·exact .inl g
     ·exact .inr ⟨e,List.mem_cons_self ..,(List.mem_singleton.1 g).symm⟩
    ·exact .inr ⟨x,List.mem_cons_of_mem _ hx,he⟩
   ·rcases g with g | ⟨x,hx,he⟩
    ·exact .inl (List.mem_append_left _ g)
    ·rcases List.mem_cons.1 hx with rfl | hx
     ·exact .inl (List.mem_append_right _ (by simp [he]))
     ·exact .inr ⟨x,hx,he⟩
theorem qkC {ev:List Ev} {id:Str}:id ∈ ids ev ↔ ∃ e ∈ ev,e.1.id = id:=by
 unfold ids
 rw [qnz]
 simp
theorem qoX {acc:List Str} {e:Ev} (h:acc.Nodup):(idsG acc e).Nodup:=by
 unfold idsG
 split
 ·exact h
 ·rename_i g
  rw [List.nodup_append]
  exact ⟨h,by simp,fun a ha b hb=>by obtain rfl:=List.mem_singleton.1 hb; exact fun e=>g (e ▸ ha)⟩
theorem qlM:∀ (ev:List Ev) (acc:List Str),acc.Nodup → (ev.foldl idsG acc).Nodup
 | [],acc,h=>h
 | e :: ev,acc,h=>qlM ev _ (qoX h)
theorem qmu (ev:List Ev):(ids ev).Nodup:=qlM ev [] (by simp)
theorem qk9:∀ (ev:List Ev) (acc:List Str),∃ r,ev.foldl idsG acc = acc ++ r ∧ r.length ≤ ev.length
 | [],acc=>⟨[],by simp,by simp⟩
 | e :: ev,acc=>by
  rw [List.foldl_cons]
  unfold idsG
  by_cases h:e.1.id ∈ acc
  ·rw [if_pos h]
   obtain ⟨r,h1,h2⟩:=qk9 ev acc
   refine ⟨r,?_,by simp; omega⟩
   exact h1
  ·rw [if_neg h]
   obtain ⟨r,h1,h2⟩:=qk9 ev (acc ++ [e.1.id])
   refine ⟨e.1.id :: r,?_,by simp; omega⟩
   rw [show (fun acc (e:Ev)=>if e.1.id ∈ acc then acc else acc ++ [e.1.id]) = idsG from rfl,h1]; simp
theorem qiT {ev:List Ev} {id:Str} {e:Ev}:e ∈ flt ev id ↔ e ∈ ev ∧ e.1.id = id:=by
 unfold flt
 rw [List.mem_filter,decide_eq_true_eq]
theorem qse {ev:List Ev} {id:Str} (h:id ∉ ids ev):flt ev id = []:=by
 rw [List.eq_nil_iff_forall_not_mem]
 intro e he
 obtain ⟨h1,h2⟩:=qiT.1 he
 exact h (qkC.2 ⟨e,h1,h2⟩)
theorem qnN {ev:List Ev} {id:Str} (h:id ∈ ids ev):∃ e l,flt ev id = e :: l:=by
 obtain ⟨e,he,hi⟩:=qkC.1 h
 have:e ∈ flt ev id:=qiT.2 ⟨he,hi⟩
 cases hf:flt ev id with
 | nil=>rw [hf] at this; cases this
 | cons e l=>exact ⟨e,l,rfl⟩
theorem qpW {ev:List Ev} {id:Str} (h:id ∈ ids ev):∃ e ∈ ev,e.1.id = id ∧ qfN ev id = e.1.source:=by
 obtain ⟨e,l,hf⟩:=qnN h
 have:e ∈ flt ev id:=by rw [hf]; exact List.mem_cons_self ..
 obtain ⟨h1,h2⟩:=qiT.1 this
 exact ⟨e,h1,h2,by unfold qfN; rw [hf]⟩
theorem qqv (l:List Ev) (e:Ev):cmD (l ++ [e]) = cmsL (cmD l) e.1.comment:=by unfold cmD; rw [List.foldl_append]; rfl
theorem qqV {l:List Ev} (e:Ev) (h:l ≠ []):vlD (l ++ [e]) = vlD l ++ [32] ++ e.2:=by
 cases l with
 | nil=>exact absurd rfl h
 | cons x l=>simp [vlD]
def ixF:Nat → List Str → Mp
 | _,[]=>[]
 | k,a :: I=>(a,(k:Int)) :: ixF (k + 1) I
theorem qop:∀ (k:Nat) (I:List Str) (n:Str),mget (ixF k I) n = (I.findIdx? (fun a=>decide (n = a))).map (fun i=>((k + i:Nat):Int))
 | k,[],n=>rfl
 | k,a :: I,n=>by
  unfold mget
  rw [ixF,List.find?_cons,List.findIdx?_cons]
  by_cases h:n = a
  ·subst h; simp
  ·have:(n == (a,(k:Int)).1) = false:=by simpa using h
   rw [this]
   have ih:=qop (k + 1) I n
   unfold mget at ih
   simp only at ih ⊢
   rw [ih,decide_eq_false h]
   simp only [Bool.false_eq_true,if_false,Option.map_map]
   congr 1
   funext i
   simp only [Function.comp]
   congr 1; omega
theorem qoz:∀ (k:Nat) (I:List Str) (n:Str),n ∉ I → mput (ixF k I) n ((k + I.length:Nat):Int) = ixF k (I ++ [n])
 | k,[],n,_=>by simp [ixF,mput]
 | k,a :: I,n,h=>by
  simp only [List.mem_cons,not_or] at h
  have ih:=qoz (k + 1) I n h.2
  rw [ixF,mput,if_neg (by simpa using h.1),List.cons_append,ixF]
  rw [← ih,List.length_cons,show k + (I.length + 1) = k + 1 + I.length by omega]
theorem qmD {α:Type} {l:List α} {i j:Nat} {a:α} (h:l.Nodup) (hi:l[i]? = some a) (hj:l[j]? = some a):i = j:=by
 obtain ⟨h1,h2⟩:=List.getElem?_eq_some_iff.1 hi
 obtain ⟨h3,h4⟩:=List.getElem?_eq_some_iff.1 hj
 have hp:=List.pairwise_iff_getElem.1 h
 apply Classical.byContradiction
 intro hne
 rcases Nat.lt_or_gt_of_ne hne with g | g
 ·exact hp i j h1 h3 g (h2.trans h4.symm)
 ·exact hp j i h3 h1 g (h4.trans h2.symm)
theorem qlo {ev:List Ev} {e:Ev} {id:Str} (h:e.1.id ≠ id):EntE (ev ++ [e]) id = EntE ev id:=by
 have:flt (ev ++ [e]) id = flt ev id:=by rw [qjh]; unfold flt; simp [h]
 unfold EntE qfN
 rw [this]
theorem qqs {ev:List Ev} (hg:Good ev) (i:Int) (f:File) (x:Found2) :
  (Good (ev ++ [(x,refT f x)]) ∧ rnd i f x (ixF 0 (ids ev)) (qb0 ev) = .inl (ixF 0 (ids (ev ++ [(x,refT f x)])),qb0 (ev ++ [(x,refT f x)]))) ∨
  (¬Good (ev ++ [(x,refT f x)]) ∧ rnd i f x (ixF 0 (ids ev)) (qb0 ev) = .inr ([],Place.mk i x.offset,14)):=by
 have hlen:(qb0 ev).length = (ids ev).length:=by unfold qb0; simp
 unfold rnd
 rw [qop]
 generalize hr:refT f x = r
 by_cases hin:x.id ∈ ids ev
 ·obtain ⟨k,hk⟩:∃ k,(ids ev).findIdx? (fun a=>decide (x.id = a)) = some k:=by
   cases h:(ids ev).findIdx? (fun a=>decide (x.id = a)) with
   | some k=>exact ⟨k,rfl⟩
   | none =>
    rw [List.findIdx?_eq_none_iff] at h
    have:=h x.id hin
    simp at this
  obtain ⟨hkl,hkp,_⟩:=List.findIdx?_eq_some_iff_getElem.1 hk
  have hka:(ids ev)[k]? = some x.id:=by rw [List.getElem?_eq_getElem hkl]; congr 1; exact (of_decide_eq_true hkp).symm
  have hout:(qb0 ev)[k]? = some (EntE ev x.id):=by unfold qb0; rw [List.getElem?_map,hka]; rfl
  rw [hk]
  simp only [Option.map_some,Option.isSome_some,cond_true,Option.getD_some,Nat.zero_add,Int.toNat_natCast]
  rw [hout]
  simp only
  obtain ⟨e0,he0,hid0,hs0⟩:=qpW hin
  have hids:ids (ev ++ [(x,r)]) = ids ev:=by rw [qnP]; unfold idsG; rw [if_pos hin]
  by_cases hsrc:qfN ev x.id = x.source
  ·left
   refine ⟨?_,?_⟩
   ·intro a ha b hb hab
    have hE:∀ c ∈ ev,c.1.id = x.id → c.1.source = x.source:=fun c hc he=>(hg c hc e0 he0 (he.trans hid0.symm)).trans (hs0.symm.trans hsrc)
    rcases List.mem_append.1 ha with ha | ha <;> rcases List.mem_append.1 hb with hb | hb
    ·exact hg a ha b hb hab
    ·obtain rfl:=List.mem_singleton.1 hb; exact hE a ha hab
    ·obtain rfl:=List.mem_singleton.1 ha; exact (hE b hb hab.symm).symm
    ·obtain rfl:=List.mem_singleton.1 ha; obtain rfl:=List.mem_singleton.1 hb; rfl
   ·rw [if_pos (show (EntE ev x.id).Source = x.source from hsrc),hids]
    congr 1
    refine Prod.ext rfl ?_
    simp only
    apply List.ext_getElem?
    intro j
    unfold qb0
    rw [hids,List.getElem?_map]
    by_cases hj:k = j
    ·subst hj
     rw [List.getElem?_set_self (by simp; exact hkl),hka]
     simp only [Option.map_some,Option.some.injEq]
     obtain ⟨e1,l1,hf⟩:=qnN hin
     have hfa:flt (ev ++ [(x,r)]) x.id = flt ev x.id ++ [(x,r)]:=by rw [qjh]; congr 1; unfold flt; simp
     unfold ent EntE
     have hsr:qfN (ev ++ [(x,r)]) x.id = qfN ev x.id:=by unfold qfN; rw [hfa,hf]; rfl
     rw [hsr,hfa,qqv,qqV _ (by rw [hf]; simp)]
     rfl
    ·rw [List.getElem?_set_ne hj,List.getElem?_map]
     cases hjx:(ids ev)[j]? with
     | none=>rfl
     | some a =>
      simp only [Option.map_some,Option.some.injEq]
      refine (qlo ?_).symm
      intro e
      simp only at e
      exact hj (qmD (qmu ev) hka (by rw [hjx,e]))
  ·right
   refine ⟨fun hG=>hsrc ?_,by rw [if_neg (show ¬(EntE ev x.id).Source = x.source from hsrc)]⟩
   rw [hs0]
   exact hG e0 (List.mem_append_left _ he0) (x,r) (by simp) hid0
 ·left
  have hn:(ids ev).findIdx? (fun a=>decide (x.id = a)) = none:=by
   rw [List.findIdx?_eq_none_iff]
   intro a ha
   exact decide_eq_false fun e=>hin (e ▸ ha)
  rw [hn]
  simp only [Option.map_none,Option.isSome_none,cond_false]
  have hids:ids (ev ++ [(x,r)]) = ids ev ++ [x.id]:=by rw [qnP]; unfold idsG; rw [if_neg hin]
  refine ⟨?_,?_⟩
  ·have hE:∀ c ∈ ev,c.1.id ≠ x.id:=fun c hc he=>hin (qkC.2 ⟨c,hc,he⟩)
   intro a ha b hb hab
   rcases List.mem_append.1 ha with ha | ha <;> rcases List.mem_append.1 hb with hb | hb
   ·exact hg a ha b hb hab
   ·obtain rfl:=List.mem_singleton.1 hb; exact absurd hab (hE a ha)
   ·obtain rfl:=List.mem_singleton.1 ha; exact absurd hab.symm (hE b hb)
   ·obtain rfl:=List.mem_singleton.1 ha; obtain rfl:=List.mem_singleton.1 hb; rfl
  ·rw [hids,hlen]
   have hp:=qoz 0 (ids ev) x.id hin
   rw [Nat.zero_add] at hp
   rw [hp]
   congr 1
   refine Prod.ext rfl ?_
   simp only
   unfold qb0
   rw [hids,List.map_append,List.map_cons,List.map_nil]
   congr 1
   ·apply List.map_congr_left
    intro a ha
    exact (qlo fun e=>hin (by simp only at e; rw [e]; exact ha)).symm
   ·have hfa:flt (ev ++ [(x,r)]) x.id = [(x,r)]:=by rw [qjh,qse hin]; unfold flt; simp
    unfold EntE qfN
    rw [hfa]
    simp only [ent,E0,fld,cmD,vlD,List.foldl_cons,List.foldl_nil,List.flatMap_nil,List.append_nil,List.nil_append,cond_false]
    rfl
theorem Good.sub {a b:List Ev} (h:Good (a ++ b)):Good a:=fun e he e' he'=>h e (List.mem_append_left _ he) e' (List.mem_append_left _ he')
theorem Good.right {a b:List Ev} (h:Good (a ++ b)):Good b:=fun e he e' he'=>h e (List.mem_append_right _ he) e' (List.mem_append_right _ he')
def evF (f:File) (rs:List Found2):List Ev:=rs.map fun x=>(x,refT f x)
theorem qnJ (i:Int) (f:File):∀ (rs:List Found2) (ev:List Ev),Good ev →
  (Good (ev ++ evF f rs) ∧ qaU (gR i f) rs (ixF 0 (ids ev),qb0 ev) = .inl (ixF 0 (ids (ev ++ evF f rs)),qb0 (ev ++ evF f rs))) ∨ (¬Good (ev ++ evF f rs) ∧ ∃ o,qaU (gR i f) rs (ixF 0 (ids ev),qb0 ev) = .inr ([],Place.mk i o,14))
 | [],ev,hg=>.inl ⟨by simpa [evF] using hg,by simp [evF,qaU]⟩
 | x :: rs,ev,hg=>by
  have e:ev ++ evF f (x :: rs) = (ev ++ [(x,refT f x)]) ++ evF f rs:=by simp [evF]
  rw [qaU,e]
  have e2:gR i f (ixF 0 (ids ev),qb0 ev) x = rnd i f x (ixF 0 (ids ev)) (qb0 ev):=rfl
  rw [e2]
  rcases qqs hg i f x with ⟨h1,h2⟩ | ⟨h1,h2⟩
  ·rw [h2]
   exact qnJ i f rs _ h1
  ·rw [h2]
   exact .inr ⟨fun h=>h1 h.sub,x.offset,rfl⟩
def evs (s:List State) (calls:List Call) (files:List File):List Ev:=files.flatMap fun f=>evF f (occs (tokR s f.Text).1 calls)
theorem qja (s:List State) (calls:List Call):∀ (files:List File) (k:Nat) (ev:List Ev),Good ev →
  (Good (ev ++ evs s calls files) ∧ qaU (gX s calls) files (k,ixF 0 (ids ev),qb0 ev) = .inl (k + files.length,ixF 0 (ids (ev ++ evs s calls files)),qb0 (ev ++ evs s calls files))) ∨ (¬Good (ev ++ evs s calls files) ∧ ∃ p,qaU (gX s calls) files (k,ixF 0 (ids ev),qb0 ev) = .inr ([],p,14))
 | [],k,ev,hg=>.inl ⟨by simpa [evs] using hg,by simp [evs,qaU]⟩
 | f :: files,k,ev,hg=>by
  have e:ev ++ evs s calls (f :: files) = (ev ++ evF f (occs (tokR s f.Text).1 calls)) ++ evs s calls files:=by simp [evs]
  rw [qaU,e]
  unfold gX
  simp only
  rcases qnJ (k:Int) f (occs (tokR s f.Text).1 calls) ev hg with ⟨h1,h2⟩ | ⟨h1,o,h2⟩
  ·rw [h2]
   simp only
   have:=qja s calls files (k + 1) _ h1
   unfold gX at this
   rw [List.length_cons,show k + (files.length + 1) = k + 1 + files.length by omega]
   exact this
  ·rw [h2]
   exact .inr ⟨fun h=>h1 h.sub,_,rfl⟩
theorem Good.nil:Good []:=fun e he=>by cases he
def qsJ (s:List State) (files:List File):Prop:=∀ f ∈ files,(tokR s f.Text).2.2 = 0
theorem qpK (s:List State):∀ (l:List File) (all:List (List Token)) (r:List Entry × Place × Int),qaU (gT s) l all = .inr r → r.1 = [] ∧ r.2.2 ≠ 0
 | [],all,r,h=>by cases h
 | f :: l,all,r,h=>by
  rw [qaU] at h
  by_cases h0:(tokR s f.Text).2.2 = 0
  ·have hg:gT s all f = .inl (all ++ [(tokR s f.Text).1]):=by unfold gT; rw [if_neg (by simpa using h0)]
   rw [hg] at h
   exact qpK s l _ r h
  ·have hg:gT s all f = .inr ([],Place.mk (all.length:Int) (tokR s f.Text).2.1,(tokR s f.Text).2.2):=by unfold gT; rw [if_pos h0]
   rw [hg] at h
   cases h
   exact ⟨rfl,h0⟩
structure ExOk (s:List State) (calls:List Call) (files:List File):Prop where
 v:Vl s
 c:VC calls
 n:NM files
 t:qsJ s files
 g:Good (evs s calls files)
 l:(ids (evs s calls files)).length ≤ 1000
theorem qp1 {s:List State} {calls:List Call} {files:List File} (h:ExOk s calls files):exR s calls files = (qb0 (evs s calls files),P0,0):=by
 unfold exR
 rw [if_pos ⟨h.v,h.c,h.n⟩,qm4 s files [] h.t]
 simp only
 have hs:=qja s calls files 0 [] Good.nil
 rw [List.nil_append] at hs
 rcases hs with ⟨_,h2⟩ | ⟨h1,_⟩
 ·have e:qaU (gX s calls) files (0,[],[]) = _:=h2
  rw [e]
  simp only
  rw [if_neg (by unfold qb0; rw [List.length_map]; have:=h.l; omega)]
 ·exact absurd h.g h1
theorem qso {s:List State} {calls:List Call} {files:List File} (h:¬ExOk s calls files):(exR s calls files).1 = [] ∧ (exR s calls files).2.2 ≠ 0:=by
 unfold exR
 by_cases h0:Vl s ∧ VC calls ∧ NM files
 ·rw [if_pos h0]
  cases hT:qaU (gT s) files [] with
  | inr r=>exact qpK s files [] r hT
  | inl all =>
   simp only
   obtain ⟨_,ht⟩:=qnp s files [] all hT
   have hs:=qja s calls files 0 [] Good.nil
   rw [List.nil_append] at hs
   rcases hs with ⟨h1,h2⟩ | ⟨h1,p,h2⟩
   ·have e:qaU (gX s calls) files (0,[],[]) = _:=h2
    rw [e]
    simp only
    by_cases hl:(qb0 (evs s calls files)).length > 1000
    ·rw [if_pos hl]; exact ⟨rfl,by decide⟩
    ·exact absurd ⟨h0.1,h0.2.1,h0.2.2,ht,h1,by unfold qb0 at hl; rw [List.length_map] at hl; omega⟩ h
   ·have e:qaU (gX s calls) files (0,[],[]) = _:=h2
    rw [e]
    exact ⟨rfl,show (14:Int) ≠ 0 by decide⟩
 ·rw [if_neg h0]; exact ⟨rfl,by decide⟩
end Go.Proofs.YtllfckekodcdaaaGreatDoor
namespace Go.Proofs.YtllfckekodcdaaaGreatDoor
open Go.X
end Go.Proofs.YtllfckekodcdaaaGreatDoor
namespace Go.Proofs.YtllfckekodcdaaaGreatDoor
open Go.X
theorem qs6 {N:Nat} {st:Setting} {files:List File} (hs:Sz N st.Script) (h1:st.Calls.length < N) (h2:files.length < N):∃ b,qdI N st files = some b ∧ (b = true → FewP st.Calls files):=by
 unfold qdI
 obtain ⟨b,hb⟩:=qqp (N:=N) hs
 rw [hb,Option.bind_some]
 cases b with
 | false=>exact ⟨false,rfl,fun h=>by cases h⟩
 | true =>
  rw [cond_true]
  obtain ⟨c,hc,hp⟩:=qsB (N:=N) h1 h2
  rw [hc]
  exact ⟨c,rfl,hp.1⟩
theorem qoq {N:Nat} {s:List State} {calls:List Call} {files:List File} (ho:ScOk s) (hs:Sz N s) (hF:FewQ calls files) (hN:1000000 < N):qcC N (Setting.mk s calls) files = some (exR s calls files):=by
 unfold qcC
 have hc:=hF.2.1
 have hf:=hF.2.2
 simp only
 rw [qtd ho hs,Option.bind_some,qsV (by omega) (by omega),Option.bind_some,qqQ (by omega) (by omega),Option.bind_some,extract_eq hs ho.sb hF hN]
 rfl
theorem qrO {N:Nat} {l:List Entry} {id:Str} (hN:l.length < N):qd7 N l id = some (match l.find? (fun e=>decide (e.ID = id)) with | some e=>(e,true) | none=>(Entry.mk [] [] [] [] [] 0 [],false)):=by
 unfold qd7
 rw [qf8 l (fun (_:Unit) e=>if e.ID = id then Sum.inr e else .inl ()) (fun s=>qcH N l id s) (fun _ k=>(k:Int)) (fun _=>.inl ()) (fun e=>.inr (e,true)) (fun _ _=>True) hN (s0:=()) trivial
  (fun k x s hx _=>by
   unfold qcH
   rw [dk (List.getElem?_eq_some_iff.1 hx).1,cond_true,ixg hx]
   simp only [Option.bind_some,beqS]
   by_cases h:x.ID = id
   ·rw [decide_eq_true h,cond_true,if_pos h]
   ·rw [decide_eq_false h,cond_false,if_neg h]; rfl)
  (fun _ _ _ _ _ _ _=>trivial) (fun s _=>by unfold qcH; rw [dn,cond_false]) (t0:=0) rfl,Option.bind_some]
 have key:∀ m:List Entry,qaU (fun (_:Unit) (e:Entry)=>if e.ID = id then Sum.inr e else .inl ()) m () = match m.find? (fun e=>decide (e.ID = id)) with | some e=>.inr e | none=>.inl ():=by
  intro m
  induction m with
  | nil=>rfl
  | cons x m ih =>
   rw [qaU,List.find?_cons]
   by_cases h:x.ID = id
   ·rw [if_pos h,decide_eq_true h]
   ·rw [if_neg h,decide_eq_false h]
    exact ih
 rw [key]
 cases l.find? (fun e=>decide (e.ID = id)) <;> rfl
theorem qmj {N:Nat} {a:List Str} (hN:a.length < N):qbU N a a = some true:=by
 unfold qbU
 rw [bne_self_eq_false,cond_false]
 rcases qgL (body:=fun s=>qbW N a a s) (fun _:Str=>True) a hN (fun k x hx=>by
  unfold qbW
  rw [dk (List.getElem?_eq_some_iff.1 hx).1,cond_true,ixg hx]
  simp only [Option.bind_some]
  rw [bne_self_eq_false,cond_false]
  exact .inl ⟨trivial,rfl⟩) (by unfold qbW; rw [dn,cond_false]) with ⟨h,_⟩ | ⟨_,h⟩
 ·rw [h]; rfl
 ·exact absurd (fun _ _=>trivial) h
theorem qqr {α:Type} {s:List α} {m:Nat} (h:m ≤ s.length):slc s 0 (m:Int) = some (s.take m):=by
 unfold slc
 rw [if_pos ⟨by omega,by omega,by omega⟩]
 simp
theorem qoI:∀ (l:List Ev) (acc:List Str) (c:Str),(c ∈ acc ∨ ∃ e ∈ l,e.1.comment = c ∧ c ≠ []) → c ∈ l.foldl (fun acc e=>cmsL acc e.1.comment) acc
 | [],acc,c,h=>by
  rcases h with h | ⟨e,he,_⟩
  ·exact h
  ·cases he
 | x :: l,acc,c,h=>by
  rw [List.foldl_cons]
  apply qoI l
  unfold cmsL
  rcases h with h | ⟨e,he,h1,h2⟩
  ·left
   split
   ·exact h
   ·exact List.mem_append_left _ h
  ·rcases List.mem_cons.1 he with rfl | he
   ·left
    split
    ·rename_i g
     rcases g with g | g
     ·exact absurd (h1.symm.trans g) h2
     ·rw [← h1]; simpa using g
    ·exact List.mem_append_right _ (by simp [h1])
   ·exact .inr ⟨e,he,h1,h2⟩
theorem qmI:∀ (l:List Ev) (acc:List Str),(∀ e ∈ l,e.1.comment = [] ∨ e.1.comment ∈ acc) → l.foldl (fun acc e=>cmsL acc e.1.comment) acc = acc
 | [],acc,_=>rfl
 | x :: l,acc,h=>by
  rw [List.foldl_cons]
  have:cmsL acc x.1.comment = acc:=by
   unfold cmsL
   rcases h x (List.mem_cons_self ..) with g | g
   ·rw [if_pos (.inl g)]
   ·rw [if_pos (.inr (by simpa using g))]
  rw [this]
  exact qmI l acc fun e he=>h e (List.mem_cons_of_mem _ he)
def Twin (a b:List Ev):Prop:=a.map Prod.fst = b.map Prod.fst
theorem Twin.mem {a b:List Ev} (h:Twin a b) {e:Ev} (he:e ∈ b):∃ e' ∈ a,e'.1 = e.1:=by
 have:e.1 ∈ a.map Prod.fst:=by rw [h]; exact List.mem_map.2 ⟨e,he,rfl⟩
 obtain ⟨e',h1,h2⟩:=List.mem_map.1 this
 exact ⟨e',h1,h2⟩
theorem qmJ:∀ (l:List Ev) (acc:List Str),(∀ e ∈ l,e.1.id ∈ acc) → l.foldl idsG acc = acc
 | [],acc,_=>rfl
 | x :: l,acc,h=>by
  rw [List.foldl_cons]
  have:idsG acc x = acc:=by unfold idsG; rw [if_pos (h x (List.mem_cons_self ..))]
  rw [this]
  exact qmJ l acc fun e he=>h e (List.mem_cons_of_mem _ he)
theorem Twin.good {a b:List Ev} (h:Twin a b) (hg:Good a):Good (a ++ b):=by
 have key:∀ e ∈ a ++ b,∃ e' ∈ a,e'.1 = e.1:=fun e he=>by
  rcases List.mem_append.1 he with he | he
  ·exact ⟨e,he,rfl⟩
  ·exact h.mem he
 intro e he e' he' hid
 obtain ⟨x,hx,h1⟩:=key e he
 obtain ⟨y,hy,h2⟩:=key e' he'
 rw [← h1,← h2] at hid ⊢
 exact hg x hx y hy hid
theorem Twin.ids {a b:List Ev} (h:Twin a b):ids (a ++ b) = Go.Proofs.YtllfckekodcdaaaGreatDoor.ids a:=by
 rw [qst]
 exact qmJ b _ fun e he=>by
  obtain ⟨e',h1,h2⟩:=h.mem he
  exact qkC.2 ⟨e',h1,by rw [h2]⟩
theorem qpS {a b:List Ev} {id:Str} (h:id ∈ ids a):qfN (a ++ b) id = qfN a id:=by
 obtain ⟨e,l,hf⟩:=qnN h
 unfold qfN
 rw [qjh,hf]
 rfl
theorem Twin.cm {a b:List Ev} (h:Twin a b) (id:Str):cmD (flt (a ++ b) id) = cmD (flt a id):=by
 rw [qjh]
 unfold cmD
 rw [List.foldl_append]
 refine qmI _ _ fun e he=>?_
 obtain ⟨h1,h2⟩:=qiT.1 he
 obtain ⟨e',h3,h4⟩:=h.mem h1
 by_cases hc:e.1.comment = []
 ·exact .inl hc
 ·refine .inr (qoI _ _ _ (.inr ⟨e',qiT.2 ⟨h3,by rw [h4]; exact h2⟩,by rw [h4],hc⟩))
def f2 (n:UInt8) (t:Str):File:=File.mk [n] t
theorem qrf (t:Str):okF (f2 97 t):=⟨show ([97]:Str) ≠ [] by decide,show ([97]:Str).length ≤ 100 by decide,show ∀ c ∈ ([97]:Str),c ≠ 32 ∧ c ≠ 10 by decide⟩
theorem qtg (t:Str):okF (f2 98 t):=⟨show ([98]:Str) ≠ [] by decide,show ([98]:Str).length ≤ 100 by decide,show ∀ c ∈ ([98]:Str),c ≠ 32 ∧ c ≠ 10 by decide⟩
theorem nm1 (t:Str):NM [f2 97 t]:=⟨fun f hf=>by obtain rfl:=List.mem_singleton.1 hf; exact qrf t,by simp⟩
theorem nm2 (t:Str):NM [f2 97 t,f2 98 t]:=by
 refine ⟨fun f hf=>?_,by simp [f2]⟩
 simp only [List.mem_cons,List.not_mem_nil,or_false] at hf
 rcases hf with rfl | rfl
 ·exact qrf t
 ·exact qtg t
theorem evs2 (s:List State) (calls:List Call) (t:Str):evs s calls [f2 97 t,f2 98 t] = evs s calls [f2 97 t] ++ evF (f2 98 t) (occs (tokR s t).1 calls):=by simp [evs,f2]
theorem qlR (s:List State) (calls:List Call) (t:Str):Twin (evs s calls [f2 97 t]) (evF (f2 98 t) (occs (tokR s t).1 calls)):=by
 unfold Twin evs evF
 simp [f2]
theorem qoh (s:List State) (calls:List Call) (t:Str):(ExOk s calls [f2 97 t] ∧ ExOk s calls [f2 97 t,f2 98 t]) ∨ exR s calls [f2 97 t] = exR s calls [f2 97 t,f2 98 t] ∧ (exR s calls [f2 97 t]).1 = []:=by
 by_cases h:ExOk s calls [f2 97 t]
 ·left
  refine ⟨h,h.v,h.c,nm2 t,fun f hf=>?_,by rw [evs2]; exact (qlR s calls t).good h.g,by rw [evs2,(qlR s calls t).ids]; exact h.l⟩
  simp only [List.mem_cons,List.not_mem_nil,or_false] at hf
  have:=h.t (f2 97 t) (by simp)
  rcases hf with rfl | rfl
  ·exact this
  ·exact this
 ·right
  refine ⟨?_,(qso h).1⟩
  unfold exR
  by_cases h0:Vl s ∧ VC calls
  ·rw [if_pos ⟨h0.1,h0.2,nm1 t⟩,if_pos ⟨h0.1,h0.2,nm2 t⟩]
   by_cases ht:(tokR s t).2.2 = 0
   ·rw [qm4 s [f2 97 t] [] (fun f hf=>by obtain rfl:=List.mem_singleton.1 hf; exact ht),qm4 s [f2 97 t,f2 98 t] [] (fun f hf=>by
     simp only [List.mem_cons,List.not_mem_nil,or_false] at hf
     rcases hf with rfl | rfl <;> exact ht)]
    simp only
    have hs:=qja s calls [f2 97 t] 0 [] Good.nil
    rw [List.nil_append] at hs
    rcases hs with ⟨h1,h2⟩ | ⟨h1,p,h2⟩
    ·have hl:¬(ids (evs s calls [f2 97 t])).length ≤ 1000:=fun hl=>h ⟨h0.1,h0.2,nm1 t,fun f hf=>by obtain rfl:=List.mem_singleton.1 hf; exact ht,h1,hl⟩
     have hs2:=qja s calls [f2 97 t,f2 98 t] 0 [] Good.nil
     rw [List.nil_append] at hs2
     rcases hs2 with ⟨k1,k2⟩ | ⟨k1,_⟩
     ·have e1:qaU (gX s calls) [f2 97 t] (0,[],[]) = _:=h2
      have e2:qaU (gX s calls) [f2 97 t,f2 98 t] (0,[],[]) = _:=k2
      rw [e1,e2]
      simp only
      rw [if_pos (by unfold qb0; rw [List.length_map]; omega),if_pos (by unfold qb0; rw [List.length_map,evs2,(qlR s calls t).ids]; omega)]
     ·exact absurd (by rw [evs2]; exact (qlR s calls t).good h1) k1
    ·have e1:qaU (gX s calls) [f2 97 t] (0,[],[]) = _:=h2
     have e2:qaU (gX s calls) [f2 97 t,f2 98 t] (0,[],[]) = .inr ([],p,14):=by
      rw [show [f2 97 t,f2 98 t] = [f2 97 t] ++ [f2 98 t] from rfl,qmB,e1]
     rw [e1,e2]
   ·have g1:∀ l,qaU (gT s) (f2 97 t :: l) [] = .inr ([],Place.mk 0 (tokR s t).2.1,(tokR s t).2.2):=fun l=>by
     rw [qaU]
     have:gT s [] (f2 97 t) = .inr ([],Place.mk 0 (tokR s t).2.1,(tokR s t).2.2):=by unfold gT; rw [if_pos (show (tokR s (f2 97 t).Text).2.2 ≠ 0 from ht)]; rfl
     rw [this]
    rw [g1,g1]
  ·rw [if_neg (fun g=>h0 ⟨g.1,g.2.1⟩),if_neg (fun g=>h0 ⟨g.1,g.2.1⟩)]
theorem qj9 {ev:List Ev} {k:Nat} {id:Str} (h:(ids ev)[k]? = some id):(qb0 ev)[k]? = some (EntE ev id):=by unfold qb0; rw [List.getElem?_map,h]; rfl
theorem qgd (ev:List Ev):(qb0 ev).length = (ids ev).length:=by unfold qb0; simp
theorem qp4 {ev:List Ev} {k:Nat} {id:Str} (h:(ids ev)[k]? = some id):((qb0 ev).take k).find? (fun e=>decide (e.ID = id)) = none:=by
 rw [List.find?_eq_none]
 intro e he
 obtain ⟨j,hj⟩:=List.mem_iff_getElem?.1 he
 rw [List.getElem?_take] at hj
 split at hj
 ·rename_i hjk
  have hjl:j < (ids ev).length:=by rw [← qgd]; exact (List.getElem?_eq_some_iff.1 hj).1
  obtain ⟨a,ha⟩:=qcg hjl
  rw [qj9 ha] at hj
  cases hj
  rw [decide_eq_true_eq]
  intro hE
  have:a = id:=hE
  rw [this] at ha
  exact absurd (qmD (qmu ev) ha h) (by omega)
 ·cases hj
theorem qsv (l:List Ev):(cmD l).length ≤ l.length:=by
 have key:∀ (l:List Ev) (acc:List Str),(l.foldl (fun acc e=>cmsL acc e.1.comment) acc).length ≤ acc.length + l.length:=by
  intro l
  induction l with
  | nil=>intro acc; simp
  | cons x l ih =>
   intro acc
   rw [List.foldl_cons]
   have:=ih (cmsL acc x.1.comment)
   have h2:(cmsL acc x.1.comment).length ≤ acc.length + 1:=by unfold cmsL; split <;> simp
   rw [List.length_cons]; omega
 have:=key l []
 unfold cmD
 simpa using this
theorem qrz (ev:List Ev) (id:Str):(flt ev id).length ≤ ev.length:=List.length_filter_le _ _
theorem qsu {s:List State} {calls:List Call} {files:List File} (hv:Vl s) (hF:FewQ calls files):(evs s calls files).length ≤ 2400:=by
 have key:∀ l:List File,(∀ f ∈ l,f.Text.length ≤ 400) → (evs s calls l).length ≤ l.length * 400:=by
  intro l
  induction l with
  | nil=>intro _; simp [evs]
  | cons f l ih =>
   intro h
   have h1:=ih fun g hg=>h g (List.mem_cons_of_mem _ hg)
   have h2:=qnn (tokR s f.Text).1 calls
   have h3:=(qoO (t:=f.Text) hv.1).len
   have h4:=h f (List.mem_cons_self ..)
   simp only [evs,List.flatMap_cons,List.length_append,evF,List.length_map,List.length_cons] at h1 ⊢
   omega
 have:=key files fun f hf=>(hF.1 f hf).1
 have:=hF.2.2
 omega
theorem qr7 (ev:List Ev):(ids ev).length ≤ ev.length:=by
 obtain ⟨r,h1,h2⟩:=qk9 ev []
 unfold ids
 rw [h1]; simpa using h2
set_option maxRecDepth 100000 in
theorem qlc (st:Setting) (text:Str) (ho:ScOk st.Script):∃ N,qbN N st text = some true:=by
 obtain ⟨s,calls⟩:=st
 refine ⟨sz s + calls.length + 1000300 + 1,?_⟩
 generalize hN:sz s + calls.length + 1000300 + 1 = N
 obtain ⟨n,hn⟩:∃ n,N = n + 300:=⟨sz s + calls.length + 1000001,by omega⟩
 have hs:Sz N s:=Sz.of (by omega)
 unfold qbN
 rw [hn,qoU,← hn,Option.bind_some,Bool.not_true,cond_false]
 obtain ⟨b,hb,hfew⟩:=qs6 (N:=N) (st:=Setting.mk s calls) (files:=[f2 97 text,f2 98 text]) hs (by simp only; omega) (by simp; omega)
 have e1:qdI N (Setting.mk s calls) ([(File.mk ([97]) text),(File.mk ([98]) text)]:List (File)) = some b:=hb
 rw [e1,Option.bind_some]
 cases b with
 | false=>rfl
 | true =>
  rw [Bool.not_true,cond_false]
  have hF:=(hfew rfl).q
  have hF1:FewQ calls [f2 97 text]:=⟨fun f hf=>hF.1 f (by simp only [List.mem_singleton] at hf; simp [hf]),hF.2.1,by simp⟩
  have r1:qcC N (Setting.mk s calls) ([(File.mk ([97]) text)]:List (File)) = some (exR s calls [f2 97 text]):=qoq ho hs hF1 (by omega)
  have r2:qcC N (Setting.mk s calls) ([(File.mk ([97]) text),(File.mk ([98]) text)]:List (File)) = some (exR s calls [f2 97 text,f2 98 text]):=qoq ho hs hF (by omega)
  rw [r1,Option.bind_some,r2,Option.bind_some]
  rcases qoh s calls text with ⟨h1,h2⟩ | ⟨h1,h2⟩
  ·rw [qp1 h1,qp1 h2]
   have hT:=qlR s calls text
   have he2:=evs2 s calls text
   have hl2:(qb0 (evs s calls [f2 97 text,f2 98 text])).length = (qb0 (evs s calls [f2 97 text])).length:=by rw [qgd,qgd,he2,hT.ids]
   have hel:=qsu h1.v hF1
   have hil:=qr7 (evs s calls [f2 97 text])
   simp only
   rw [hl2,bne_self_eq_false,cond_false,bne_self_eq_false,cond_false,show ((P0.File == P0.File) && (P0.Offset == P0.Offset)) = true from rfl,Bool.not_true,cond_false]
   rcases qgL (body:=fun s'=>qbR N (qb0 (evs s calls [f2 97 text]),P0,0) (qb0 (evs s calls [f2 97 text,f2 98 text]),P0,0) s') (fun _:Entry=>True) (qb0 (evs s calls [f2 97 text])) (N:=N) (by rw [qgd]; omega) (fun k x hx=>by
    have hk:=(List.getElem?_eq_some_iff.1 hx).1
    rw [qgd] at hk
    obtain ⟨id,hid⟩:=qcg hk
    have hid2:(ids (evs s calls [f2 97 text,f2 98 text]))[k]? = some id:=by rw [he2,hT.ids]; exact hid
    have hin:id ∈ ids (evs s calls [f2 97 text]):=List.mem_of_getElem? hid
    unfold qbR
    simp only
    rw [dk (List.getElem?_eq_some_iff.1 hx).1,cond_true,qqr (by rw [qgd]; omega),Option.bind_some,ixg (qj9 hid),ixg (qj9 hid2)]
    simp only [Option.bind_some]
    rw [qrO (by simp; rw [qgd]; omega),Option.bind_some]
    have hft:=qp4 hid
    have hE:(EntE (evs s calls [f2 97 text]) id).ID = id:=rfl
    rw [hE,hft]
    simp only [Option.bind_some,cond_false]
    have e3:(EntE (evs s calls [f2 97 text,f2 98 text]) id).ID = id:=rfl
    have e4:(EntE (evs s calls [f2 97 text,f2 98 text]) id).Source = (EntE (evs s calls [f2 97 text]) id).Source:=by
     show qfN _ id = qfN _ id
     rw [he2,qpS hin]
    have e5:(EntE (evs s calls [f2 97 text,f2 98 text]) id).Comments = (EntE (evs s calls [f2 97 text]) id).Comments:=by
     show cmD _ = cmD _
     rw [he2,hT.cm]
    rw [e3,e4,e5,bne_self_eq_false,cond_false,bne_self_eq_false,cond_false,qmj (by
     show (cmD (flt (evs s calls [f2 97 text]) id)).length < N
     have:=qsv (flt (evs s calls [f2 97 text]) id)
     have:=qrz (evs s calls [f2 97 text]) id
     omega),Option.bind_some]
    exact .inl ⟨trivial,rfl⟩) (by
     unfold qbR
     simp only
     rw [dn,cond_false]) with ⟨h,_⟩ | ⟨_,h⟩
   ·rw [h]; rfl
   ·exact absurd (fun _ _=>trivial) h
  ·rw [← h1]
   generalize exR s calls [f2 97 text] = r at h2 ⊢
   obtain ⟨a1,a2,a3⟩:=r
   dsimp only at h2
   subst h2
   simp only
   rw [bne_self_eq_false,cond_false,beq_self_eq_true,beq_self_eq_true,Bool.and_self,Bool.not_true,cond_false,bne_self_eq_false,cond_false]
   obtain ⟨M,rfl⟩:∃ M,N = M + 1:=⟨N - 1,by omega⟩
   rfl
end Go.Proofs.YtllfckekodcdaaaGreatDoor
