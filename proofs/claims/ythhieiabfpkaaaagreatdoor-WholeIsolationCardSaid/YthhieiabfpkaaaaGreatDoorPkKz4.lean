/- Texts of this proof, joined by pack.py. -/
import Derived.Test.YthhieiabfpkaaaaGreatDoorPkKz3
import Derived.Test.YthhieiabfpkaaaaGreatDoorCards
import Derived.Test.YthhieiabfpkaaaaGreatDoorChecked
import Derived.Test.YthhieiabfpkaaaaGreatDoorProg
import Derived.Test.YthhieiabfpkaaaaGreatDoorRows
import Derived.Test.YthhieiabfpkaaaaGreatDoorTie
set_option linter.unusedVariables false
set_option linter.unusedSimpArgs false
namespace Go.Proofs.YthhieiabfpkaaaaGreatDoor
open Go.X
variable {u:World} {m0:Mem} {S:Segs} {w:World}
set_option maxHeartbeats 4000000
set_option maxRecDepth 100000
def qnt:Rp Text:=fun m cs x=>∃ c0 c1,cs = [c0,c1,.int .i64 x.depth] ∧ (pL 1 (pI .i64)) m [c0] x.l ∧ (pL 1 (pI .i64)) m [c1] x.end_ ∧ InR .i64 x.depth
def qfx:Rp Item:=fun _ cs x=>cs = [.int .i64 x.from_,.int .i64 x.to_,.int .i64 x.class_] ∧ InR .i64 x.from_ ∧ InR .i64 x.to_ ∧ InR .i64 x.class_
theorem qh9:Mono qfx:=⟨fun _ h=>by
 obtain ⟨e,h0,h1,h2⟩:=h
 exact ⟨e,h0,h1,h2⟩,fun h=>by
 obtain ⟨rfl,h0,h1,h2⟩:=h
 exact ⟨rfl,rfl,rfl,trivial⟩⟩
theorem qmL:aggB Tryz.prog 118 3 = true:=by kernel_rfl
theorem qks:aggB Tryz.prog 98 3 = true:=by kernel_rfl
theorem qfM:qar Tryz.prog 118 0 0 = true:=by kernel_rfl
theorem qjp:qar Tryz.prog 118 1 1 = true:=by kernel_rfl
theorem qgu:qar Tryz.prog 118 2 2 = true:=by kernel_rfl
theorem qfU:qar Tryz.prog 98 0 0 = true:=by kernel_rfl
theorem qfY:qar Tryz.prog 98 1 1 = true:=by kernel_rfl
theorem qmq:qar Tryz.prog 98 2 2 = true:=by kernel_rfl
theorem qtQ:goB Tryz.prog 35 = true:=by kernel_rfl
theorem qts:goB Tryz.prog 36 = true:=by kernel_rfl
theorem qtT:goB Tryz.prog 37 = true:=by kernel_rfl
theorem qns:goB Tryz.prog 53 = true:=by kernel_rfl
theorem qry:goB Tryz.prog 54 = true:=by kernel_rfl
theorem qtl:goB Tryz.prog 55 = true:=by kernel_rfl
theorem qtU:goB Tryz.prog 56 = true:=by kernel_rfl
theorem qtr:goB Tryz.prog 77 = true:=by kernel_rfl
theorem qpn:goB Tryz.prog 78 = true:=by kernel_rfl
theorem qpq:goB Tryz.prog 79 = true:=by kernel_rfl
theorem qrV:∃ i,Tryz.prog.info? 113 = some i ∧ i.size = 1:=⟨_,rfl,by kernel_rfl⟩
theorem qmr:∃ i,Tryz.prog.info? 118 = some i ∧ i.size = 3:=⟨_,rfl,by kernel_rfl⟩
theorem qlz:∃ i,Tryz.prog.info? 26 = some i ∧ i.size = 1:=⟨_,rfl,by kernel_rfl⟩
theorem qn4:∃ i,Tryz.prog.info? 98 = some i ∧ i.size = 3:=⟨_,rfl,by kernel_rfl⟩
theorem qkK:oneB Tryz.prog 113 = true:=by kernel_rfl
theorem qcR:oneB Tryz.prog 26 = true:=by kernel_rfl
theorem qlN:qcq Tryz.prog 118 = some [(0,1),(1,1),(2,1)]:=by kernel_rfl
theorem qqt:qcq Tryz.prog 98 = some [(0,1),(1,1),(2,1)]:=by kernel_rfl
theorem qep:SlT Tryz.prog 114 118 3:=SlT.of (by kernel_rfl)
theorem qqP:qbq Tryz.prog 113 = some [Value.nilFunc]:=by kernel_rfl
theorem qeQ:qbq Tryz.prog 118 = some [vi 0,vi 0,vi 0]:=by kernel_rfl
theorem qrQ:qbq Tryz.prog 26 = some [(Value.slice none 0 0)]:=by kernel_rfl
theorem qkQ:qbq Tryz.prog 98 = some [(Value.slice none 0 0),(Value.slice none 0 0),vi 0]:=by kernel_rfl
def qoA (u:World) (m0:Mem) (S:Segs) (r:Text) (a:Act) (w:World):Prop :=
 ∃ m1 v0,m0.le m1 ∧ Ok u m1 S w ∧ a.defers = [] ∧ RVs Tryz.prog a w [.c 2 98 (.agg v0.toArray)] ∧ qnt m1 v0 r
theorem qox (N:Nat) (s_0:List UInt8) (ls_0:s_0.length ≤ LIMS) {r:Text} (hF:qgH N s_0 = some r) (hG:Glob u) (ok:Ok u m0 S w) :
  Calls Tryz.prog 35 [vs s_0].toArray w fun e w'=>∃ m1 v0,e = .returned (.agg v0.toArray) ∧ m0.le m1 ∧ Ok u m1 S w' ∧ qnt m1 v0 r:=by
 have le_m0:=Mem.le.refl m0
 unfold qgH at hF
 refine en (qoA u m0 S) r Tryz.func35 rfl rfl rfl (by rintro a w ⟨m1,v0,hle,ok,hd,hrv,h0⟩; exact qaT [.c 2 98 (.agg v0.toArray)] hd rfl hrv ⟨m1,v0,rfl,hle,ok,h0⟩) fun fin a E=>sg<|qa4 E ok qkQ rfl rfl fun b1 a w E ok=>wn<|sg<|mv E rfl fun a E=>bd hF fun r2 e3 hF=>qaf E qpE rfl (qgZ N s_0 ls_0 e3 hG ok) rfl rfl ?_
 rintro _ w ⟨m4,c5,rfl,hle,ok,h6⟩
 have le_m0:=le_m0.trans hle
 refine ⟨_,rfl,fun a E=>?_⟩
 refine lw E (qaL (ps:=[(0,.tmp 8)]) (qs:=[(0,[c5])]) (cs:=[c5,(Value.slice none 0 0),vi 0]) qkQ qqt rfl ⟨rfl,(qjw h6),rfl,trivial⟩ rfl) fun a E=>qa4 E ok qkQ rfl rfl fun b7 a w E ok=>qax E ok 0 rfl rfl rfl qn4 rfl rfl ⟨(qdk h6),rfl,rfl,trivial⟩ rfl rfl fun w ok=>wn<|sg<|av E rfl fun a E=>wn<|wp_seq<|sg<|fk E ok qfU qcR rfl 0 rfl rfl fun a E=>lv E ok (qaP qat h6 rfl) fun a E=>mv E rfl fun a E=>wn<|wp_block ?_
 obtain ⟨M19,ok,h20⟩:=qcY (e:=3) (k:=1) (R:=(pI .i64)) ok
 obtain ⟨M21,ok,h22⟩:=qcY (e:=3) (k:=1) (R:=(pI .i64)) ok
 refine bd hF fun o23 hL hF=>qa7 _ (fun (s:(List (Int)) × Int × Text) a w=>∃ c24 M25 c28 c30 M31,Ok u m4 (M31 :: M25 :: [(b7,oc 98 [c28,c30,vi s.2.2.depth])] :: [(b1,oc 98 [(Value.slice none 0 0),(Value.slice none 0 0),vi 0])] :: S) w ∧ Env 72 a [(2,vp b1),(3,vp b7),(4,c24),(11,c5),(12,(vi (r2.length:Int))),(13,vi s.2.1)] ∧ ORow 3 1 (pI .i64) m4 c24 s.1 M25 ∧ InR .i64 s.2.1 ∧ (pL 1 (pI .i64)) m4 [c28] s.2.2.l ∧ ORow 3 1 (pI .i64) m4 c30 s.2.2.end_ M31 ∧ InR .i64 s.2.2.depth) (fun (b:Text) e a w=>e = (.exit 0) ∧ ∃ c206 c208 M209,Ok u m4 (M209 :: [(b7,oc 98 [c206,c208,vi b.depth])] :: [(b1,oc 98 [(Value.slice none 0 0),(Value.slice none 0 0),vi 0])] :: S) w ∧ Env 72 a [(2,vp b1),(3,vp b7)] ∧ (pL 1 (pI .i64)) m4 [c206] b.l ∧ ORow 3 1 (pI .i64) m4 c208 b.end_ M209 ∧ InR .i64 b.depth) ?_ ?_ N _ a w hL ⟨(Value.slice none 0 0),M19,c5,(Value.slice none 0 0),M21,ok,E.keep [2,3,4,11,12,13],h20,(ir 0),h6,h22,(ir 0)⟩
 rotate_left
 ·intro e a w _ hO
  obtain ⟨rfl,c198,c200,M201,ok,E,h199,h202,r203⟩:=hO
  refine qa0<|qaa<|sg<|lv E ok (qan (cs:=[c198,c200,vi o23.depth]) qks rfl rfl (Holds.own 1 rfl rfl)) fun a E=>qax E ok 2 rfl rfl rfl qn4 rfl rfl ⟨(qdk h199),(ORow.one h202),rfl,trivial⟩ rfl rfl fun w ok=>wn<|wp_ret ?_
  obtain ⟨m204,hle,ok,hfz⟩:=(ok.frs 0 rfl).freeze
  have h205:=ORow.froz (mI .i64) h202 hle hfz (by decide)
  have le_m0:=le_m0.trans hle
  have h6:=(mL (mI .i64)).up hle h6
  have h199:=(mL (mI .i64)).up hle h199
  exact fin hF ⟨m204,[c198,c200,vi o23.depth],le_m0,ok.drop.drop,E.d,⟨rv_c (cs:=[c198,c200,vi o23.depth]) E ok rfl qks rfl (Holds.own 1 rfl rfl),trivial⟩,⟨_,_,rfl,h199,h205,r203⟩⟩
 rintro ⟨v34,v35,v36⟩ a w r ⟨c37,M38,c41,c43,M44,ok,E,h39,r40,h42,h45,r46⟩ hF
 replace hF:qeE N r2 v34 v35 v36 = some r:=hF
 unfold qeE at hF
 refine sg<|lw E (qap rfl rfl) fun a E=>wn<|wp_seq<|cg E rfl hF (fun c47 hF=>?_) fun c47 hF=>?_
 ·refine wp_exit<|qaM ?_
  cases hF
  exact so (⟨rfl,⟨c41,c43,M44,(ok.pk 4 [0,2,3] rfl (by decide)),E.keep [2,3],h42,h45,r46⟩⟩)
 refine wp_skip<|qaa<|wp_seq<|wp_block<|sg<|mv E rfl fun a E=>?_
 obtain ⟨x48,e49,hF⟩:=bnd hF
 obtain ⟨b50,o51,es52,hl53,rr54,at55,yy56⟩:=ia E 11 13 qat h6 e49
 obtain ⟨rfl,r57⟩:=rr54
 refine lv E ok (yy56 _ _) fun a E=>lv E ok (qal qam rfl (Holds.ro at55)) fun a E=>av E rfl fun a E=>aw E rfl fun a E=>sg<|fk E ok qfY qcR rfl 2 rfl rfl fun a E=>qa6 (R:=(pI .i64)) (xo:=[.const (vi (-1))]) (xs:=([(-1)]:List (Int))) E ok qat qbn rfl ⟨⟨_,rfl,rfl,(qaX (ir (-1)))⟩,trivial⟩ rfl rfl rfl rfl fun c58 M59 a w E ok h60=>bd hF fun l61 e62 hF=>qb0 (R:=(pI .i64)) E ok 1 (mI .i64) qat Tryz.underlying26 rfl h45 (qbf.ofRow h60 0 rfl ok) e62 ⟨_,qbn,rfl⟩ rfl rfl rfl rfl fun c63 M64 a w E ok h65=>fv E qfY rfl fun a E=>qax E ok 3 rfl rfl rfl qlz (ORow.cells h65) rfl ⟨(ORow.one h65),trivial⟩ rfl rfl fun w ok=>wn<|wp_block<|sg<|mv E rfl fun a E=>lw E (qaq rfl rfl) fun a E=>mv E rfl fun a E=>bw E 26 hF (fun c66 hF E=>?_) fun c66 hF E=>?_
 ·as_aux_lemma =>
   refine lsq E fun a E=>pf E rfl rfl fun a E=>aw E rfl fun a E=>c_if E rfl (fun h=>by cases h) (fun _=>?_)
   refine sg<|mv E rfl fun a E=>lw E (qah rfl rfl) fun a E=>mv E rfl fun a E=>bw E 50 hF (fun c142 hF E=>?_) fun c142 hF E=>?_
   ·refine lsq E fun a E=>ls E fun a E=>pf E rfl rfl fun a E=>aw E rfl fun a E=>c_if E rfl (fun h=>by cases h) (fun _=>?_)
    refine wp_skip<|qac<|qac<|qaa<|qab<|lw E (qaE rfl rfl (InR.inc r40 (qaj h6) c47)) fun a E=>mv E rfl fun a E=>wpList_nil ?_
    cases hF
    exact qao ⟨c37,M38,c41,c63,M64,(ok.pk 5 [1,2,3,4] rfl (by decide)),E.keep [2,3,4,11,12,13],h39,(InR.inc r40 (qaj h6) c47),h42,h65,r46⟩
   refine mv E rfl fun a E=>lv E ok (qb7 qat h39 rfl) fun a E=>lw E (qaK rfl rfl) fun a E=>pt E rfl rfl fun a E=>aw E rfl fun a E=>cg E rfl hF (fun c143 hF=>?_) fun c143 hF=>?_
   ·refine wp_skip<|qac<|qac<|qaa<|qab<|lw E (qaE rfl rfl (InR.inc r40 (qaj h6) c47)) fun a E=>mv E rfl fun a E=>wpList_nil ?_
    cases hF
    exact qao ⟨c37,M38,c41,c63,M64,(ok.pk 5 [1,2,3,4] rfl (by decide)),E.keep [2,3,4,11,12,13],h39,(InR.inc r40 (qaj h6) c47),h42,h65,r46⟩
   refine wp_seq<|bd hF fun o144 hJ hF=>qaH (Q':=fun e a w=>e = .normal ∧ ∃ c145 c147 M148,Ok u m4 (M59 :: M148 :: M38 :: [(b7,oc 98 [c145,c147,vi o144.depth])] :: [(b1,oc 98 [(Value.slice none 0 0),(Value.slice none 0 0),vi 0])] :: S) w ∧ Env 72 a [(2,vp b1),(3,vp b7),(4,c37),(11,c5),(12,(vi (r2.length:Int))),(13,vi v35)] ∧ (pL 1 (pI .i64)) m4 [c145] o144.l ∧ ORow 3 1 (pI .i64) m4 c147 o144.end_ M148 ∧ InR .i64 o144.depth) ?_ ?_
   rotate_left
   ·intro e a w hO
    obtain ⟨rfl,c187,c189,M190,ok,E,h188,h191,r192⟩:=hO
    refine qaa<|qab<|mz E rfl rfl fun a E=>lv E ok (qb7 qat h39 rfl) fun a E=>lw E (qhq rfl rfl (InR.dec (ORow.InR h39) (ir 0) c143)) fun a E=>?_
    obtain ⟨l193,e194,hF⟩:=bnd hF
    obtain ⟨c195,h196,yy197⟩:=ORow.slice qat h39 e194 (P:=Tryz.prog) (X:=.tmp 65) (lov:=none) (hiv:=(some (.tmp 68))) (qaJ E rfl) (qey E rfl) (qey E ⟨_,rfl⟩)
    refine lv E ok (yy197 _ _) fun a E=>av E rfl fun a E=>wpList_nil<|qac<|qac<|qaa<|qab<|lw E (qaE rfl rfl (InR.inc r40 (qaj h6) c47)) fun a E=>mv E rfl fun a E=>wpList_nil ?_
    cases hF
    exact qao ⟨c195,M38,c187,c189,M190,(ok.pk 5 [1,2,3,4] rfl (by decide)),E.keep [2,3,4,11,12,13],h196,(InR.inc r40 (qaj h6) c47),h188,h191,r192⟩
   have hF:=hJ
   obtain ⟨x151,e152,hF⟩:=bnd hF
   obtain ⟨x162,e163,hF⟩:=bnd hF
   obtain ⟨l168,e169,hF⟩:=bnd hF
   obtain rfl:=sj hF
   refine qco [1,7] (Cls u m4 (M59 :: M38 :: [(b7,oc 98 [c41,c63,vi v36.depth])] :: [(b1,oc 98 [(Value.slice none 0 0),(Value.slice none 0 0),vi 0])] :: [])) (Cls u m4 (M59 :: M38 :: [(b1,oc 98 [(Value.slice none 0 0),(Value.slice none 0 0),vi 0])] :: [])) (by kernel_rfl) ?_
   intro w hw
   replace ok:=qc8 ok hw
   clear hw
   have le_m4:=Mem.le.refl m4
   refine qas (cl1 (cq le_m4 ok [0,2,3,4] rfl) (cq le_m4 ok [0,2,4] rfl)) fun hT=>kt 0 E rfl hT (qag qfY rfl) fun a E=>qeI 1 E rfl (by kernel_rfl) nP hT (qal qcR rfl (Holds.cown 2 rfl rfl)) rfl rfl fun a E=>kt 2 E rfl hT (qai rfl) fun a E=>kt 3 E rfl hT (qai rfl) fun a E=>kt 4 E rfl hT (qb7 qat h39 rfl) fun a E=>kt 5 E rfl hT (qhq rfl rfl (InR.dec (ORow.InR h39) (ir 0) c143)) fun a E=>?_
   obtain ⟨b172,o173,hp174,yy175⟩:=qbC qat h39 e152 (P:=Tryz.prog) (X:=.tmp 57) (I:=.tmp 60) (kd:=.i64) (qaJ E rfl) (qaJ E rfl)
   refine kt 6 E rfl hT (yy175 _ _) fun a E=>?_
   obtain ⟨es176,hl177,rr178,hh179⟩:=qds h39 e152 hp174 (by decide)
   obtain ⟨rfl,r180⟩:=rr178
   refine qeI 7 E rfl (by kernel_rfl) nP hT (qal qam rfl (Holds.crow hh179 1 rfl)) rfl rfl fun a E=>kt 8 E rfl hT (qai rfl) fun a E=>?_
   obtain ⟨b181,o182,hp183,yy184⟩:=qbC qat h65 e163 (P:=Tryz.prog) (X:=.tmp 56) (I:=.tmp 62) (kd:=.i64) (qaJ E rfl) (qaJ E rfl)
   refine kt 9 E rfl hT (yy184 _ _) fun a E=>qaS [10] (by kernel_rfl) rfl (qaZ ?_)
   ·refine wo rfl<|qbX (R:=(pI .i64)) E ok 1 rfl h65 e163 hp183 rfl rfl qe5 rfl rfl rfl ⟨rfl,trivial⟩ (qaX r40) e169 rfl fun M185 w ok h186=>wn<|qas (cl2 (by kernel_rfl) (cq le_m4 ok [0,2,4] rfl)) fun hT=>qbJ (by kernel_rfl) ?_
    exact ⟨rfl,⟨c41,c63,M185,ok,E.keep [2,3,4,11,12,13],h42,h186,r46⟩⟩
 refine mv E rfl fun a E=>lw E (qaR rfl rfl) fun a E=>pt E rfl rfl fun a E=>aw E rfl fun a E=>cf E rfl hF (fun c67 hF=>?_) fun c67 hF=>?_
 ·refine sg<|mz E rfl rfl fun a E=>qa6 (R:=(pI .i64)) (xo:=[.tmp 31]) (xs:=([v35]:List (Int))) E ok qat qbn rfl ⟨⟨_,rfl,rfl,(qaX r40)⟩,trivial⟩ rfl rfl rfl rfl fun c68 M69 a w E ok h70=>bd hF fun l71 e72 hF=>qb0 (R:=(pI .i64)) E ok 3 (mI .i64) qat Tryz.underlying26 rfl h39 (qbf.ofRow h70 0 rfl ok) e72 ⟨_,qbn,rfl⟩ rfl rfl rfl rfl fun c73 M74 a w E ok h75=>aw E rfl fun a E=>sg<|fk E ok qfY qcR rfl 4 rfl rfl fun a E=>mv E rfl fun a E=>fk E ok qfU qcR rfl 4 rfl rfl fun a E=>lv E ok (qaP qat h42 rfl) fun a E=>?_
  obtain ⟨x76,e77,hF⟩:=bnd hF
  obtain ⟨b78,o79,hp80,yy81⟩:=qbC qat h65 e77 (P:=Tryz.prog) (X:=.tmp 35) (I:=.tmp 36) (kd:=.i64) (qaJ E rfl) (qaJ E rfl)
  refine lv E ok (yy81 _ _) fun a E=>bd hF fun l82 e83 hF=>qbX (R:=(pI .i64)) E ok 2 rfl h65 e77 hp80 rfl rfl qe5 rfl rfl rfl ⟨rfl,trivial⟩ (qaX (qaj h42)) e83 rfl fun M84 w ok h85=>wn<|qab<|fk E ok qmq qam rfl 4 rfl rfl fun a E=>mv E rfl fun a E=>lv E ok (qb7 qat h75 rfl) fun a E=>lw E (qpv rfl rfl) fun a E=>fv E qmq rfl fun a E=>qax E ok 4 rfl rfl rfl qe5 rfl rfl ⟨rfl,trivial⟩ rfl rfl fun w ok=>wpList_nil<|qac<|qac<|qaa<|qab<|lw E (qaE rfl rfl (InR.inc r40 (qaj h6) c47)) fun a E=>mv E rfl fun a E=>wpList_nil ?_
  cases hF
  exact qao ⟨c73,M74,c41,c63,M84,(ok.pk 6 [2,3,4,5] rfl (by decide)),E.keep [2,3,4,11,12,13],h75,(InR.inc r40 (qaj h6) c47),h42,h85,(InR.max r46 (ORow.InR h75))⟩
 refine sg<|mv E rfl fun a E=>lw E (qah rfl rfl) fun a E=>mv E rfl fun a E=>bw E 50 hF (fun c86 hF E=>?_) fun c86 hF E=>?_
 ·refine lsq E fun a E=>ls E fun a E=>pf E rfl rfl fun a E=>aw E rfl fun a E=>c_if E rfl (fun h=>by cases h) (fun _=>?_)
  refine wp_skip<|qac<|qac<|qaa<|qab<|lw E (qaE rfl rfl (InR.inc r40 (qaj h6) c47)) fun a E=>mv E rfl fun a E=>wpList_nil ?_
  cases hF
  exact qao ⟨c37,M38,c41,c63,M64,(ok.pk 5 [1,2,3,4] rfl (by decide)),E.keep [2,3,4,11,12,13],h39,(InR.inc r40 (qaj h6) c47),h42,h65,r46⟩
 refine mv E rfl fun a E=>lv E ok (qb7 qat h39 rfl) fun a E=>lw E (qaK rfl rfl) fun a E=>pt E rfl rfl fun a E=>aw E rfl fun a E=>cg E rfl hF (fun c87 hF=>?_) fun c87 hF=>?_
 ·refine wp_skip<|qac<|qac<|qaa<|qab<|lw E (qaE rfl rfl (InR.inc r40 (qaj h6) c47)) fun a E=>mv E rfl fun a E=>wpList_nil ?_
  cases hF
  exact qao ⟨c37,M38,c41,c63,M64,(ok.pk 5 [1,2,3,4] rfl (by decide)),E.keep [2,3,4,11,12,13],h39,(InR.inc r40 (qaj h6) c47),h42,h65,r46⟩
 refine wp_seq<|bd hF fun o88 hJ hF=>qaH (Q':=fun e a w=>e = .normal ∧ ∃ c89 c91 M92,Ok u m4 (M59 :: M92 :: M38 :: [(b7,oc 98 [c89,c91,vi o88.depth])] :: [(b1,oc 98 [(Value.slice none 0 0),(Value.slice none 0 0),vi 0])] :: S) w ∧ Env 72 a [(2,vp b1),(3,vp b7),(4,c37),(11,c5),(12,(vi (r2.length:Int))),(13,vi v35)] ∧ (pL 1 (pI .i64)) m4 [c89] o88.l ∧ ORow 3 1 (pI .i64) m4 c91 o88.end_ M92 ∧ InR .i64 o88.depth) ?_ ?_
 rotate_left
 ·intro e a w hO
  obtain ⟨rfl,c131,c133,M134,ok,E,h132,h135,r136⟩:=hO
  refine qaa<|qab<|mz E rfl rfl fun a E=>lv E ok (qb7 qat h39 rfl) fun a E=>lw E (qhq rfl rfl (InR.dec (ORow.InR h39) (ir 0) c87)) fun a E=>?_
  obtain ⟨l137,e138,hF⟩:=bnd hF
  obtain ⟨c139,h140,yy141⟩:=ORow.slice qat h39 e138 (P:=Tryz.prog) (X:=.tmp 65) (lov:=none) (hiv:=(some (.tmp 68))) (qaJ E rfl) (qey E rfl) (qey E ⟨_,rfl⟩)
  refine lv E ok (yy141 _ _) fun a E=>av E rfl fun a E=>wpList_nil<|qac<|qac<|qaa<|qab<|lw E (qaE rfl rfl (InR.inc r40 (qaj h6) c47)) fun a E=>mv E rfl fun a E=>wpList_nil ?_
  cases hF
  exact qao ⟨c139,M38,c131,c133,M134,(ok.pk 5 [1,2,3,4] rfl (by decide)),E.keep [2,3,4,11,12,13],h140,(InR.inc r40 (qaj h6) c47),h132,h135,r136⟩
 have hF:=hJ
 obtain ⟨x95,e96,hF⟩:=bnd hF
 obtain ⟨x106,e107,hF⟩:=bnd hF
 obtain ⟨l112,e113,hF⟩:=bnd hF
 obtain rfl:=sj hF
 refine qco [1,7] (Cls u m4 (M59 :: M38 :: [(b7,oc 98 [c41,c63,vi v36.depth])] :: [(b1,oc 98 [(Value.slice none 0 0),(Value.slice none 0 0),vi 0])] :: [])) (Cls u m4 (M59 :: M38 :: [(b1,oc 98 [(Value.slice none 0 0),(Value.slice none 0 0),vi 0])] :: [])) (by kernel_rfl) ?_
 intro w hw
 replace ok:=qc8 ok hw
 clear hw
 have le_m4:=Mem.le.refl m4
 refine qas (cl1 (cq le_m4 ok [0,2,3,4] rfl) (cq le_m4 ok [0,2,4] rfl)) fun hT=>kt 0 E rfl hT (qag qfY rfl) fun a E=>qeI 1 E rfl (by kernel_rfl) nP hT (qal qcR rfl (Holds.cown 2 rfl rfl)) rfl rfl fun a E=>kt 2 E rfl hT (qai rfl) fun a E=>kt 3 E rfl hT (qai rfl) fun a E=>kt 4 E rfl hT (qb7 qat h39 rfl) fun a E=>kt 5 E rfl hT (qhq rfl rfl (InR.dec (ORow.InR h39) (ir 0) c87)) fun a E=>?_
 obtain ⟨b116,o117,hp118,yy119⟩:=qbC qat h39 e96 (P:=Tryz.prog) (X:=.tmp 57) (I:=.tmp 60) (kd:=.i64) (qaJ E rfl) (qaJ E rfl)
 refine kt 6 E rfl hT (yy119 _ _) fun a E=>?_
 obtain ⟨es120,hl121,rr122,hh123⟩:=qds h39 e96 hp118 (by decide)
 obtain ⟨rfl,r124⟩:=rr122
 refine qeI 7 E rfl (by kernel_rfl) nP hT (qal qam rfl (Holds.crow hh123 1 rfl)) rfl rfl fun a E=>kt 8 E rfl hT (qai rfl) fun a E=>?_
 obtain ⟨b125,o126,hp127,yy128⟩:=qbC qat h65 e107 (P:=Tryz.prog) (X:=.tmp 56) (I:=.tmp 62) (kd:=.i64) (qaJ E rfl) (qaJ E rfl)
 refine kt 9 E rfl hT (yy128 _ _) fun a E=>qaS [10] (by kernel_rfl) rfl (qaZ ?_)
 ·refine wo rfl<|qbX (R:=(pI .i64)) E ok 1 rfl h65 e107 hp127 rfl rfl qe5 rfl rfl rfl ⟨rfl,trivial⟩ (qaX r40) e113 rfl fun M129 w ok h130=>wn<|qas (cl2 (by kernel_rfl) (cq le_m4 ok [0,2,4] rfl)) fun hT=>qbJ (by kernel_rfl) ?_
  exact ⟨rfl,⟨c41,c63,M129,ok,E.keep [2,3,4,11,12,13],h42,h130,r46⟩⟩
def qnR (u:World) (m0:Mem) (S:Segs) (r:Int) (a:Act) (w:World):Prop :=
 Ok u m0 S w ∧ a.defers = [] ∧ RVs Tryz.prog a w [.t 2 (.int .i64 r)] ∧ InR .i64 r
theorem qoo (N:Nat) (c_0:Int) (rc_0:InR .i64 c_0) {r:Int} (hF:qdP N c_0 = some r) (hG:Glob u) (ok:Ok u m0 S w) :
  Calls Tryz.prog 77 [vi c_0].toArray w fun e w'=>(e = .returned (.int .i64 r) ∧ Ok u m0 S w') ∧ InR .i64 r:=by
 unfold qdP at hF
 refine en (qnR u m0 S) r Tryz.func77 rfl rfl rfl (fun _ _ h=>rb h rfl) fun fin a E=>sg<|aw E rfl fun a E=>wp_seq<|wp_block<|wp_seq<|sg<|mv E rfl fun a E=>lw E (qaq rfl rfl) fun a E=>mv E rfl fun a E=>bu E 6 hF (fun c1 hF E=>?_) fun c1 hF E=>?_
 ·as_aux_lemma =>
   refine mv E rfl fun a E=>lw E (qaR rfl rfl) fun a E=>pt E rfl rfl fun a E=>aw E rfl fun a E=>bd hF fun o2 hJ hF=>qaH (Q':=fun e a w=>e = .normal ∧ Ok u m0 (S) w ∧ Env 46 a [(0,vi c_0),(3,vb o2)]) ?_ ?_
   ·have hF:=hJ
    refine cf E rfl hF (fun c3 hF=>?_) fun c3 hF=>?_
    ·refine wp_skip ?_
     cases hF
     exact ⟨rfl,⟨ok,E.keep [0,3]⟩⟩
    refine qab<|mv E rfl fun a E=>lw E (qaq rfl rfl) fun a E=>mv E rfl fun a E=>bu E 12 hF (fun c4 hF E=>?_) fun c4 hF E=>?_
    ·refine mv E rfl fun a E=>lw E (qaR rfl rfl) fun a E=>pt E rfl rfl fun a E=>av E rfl fun a E=>wpList_nil ?_
     cases hF
     exact ⟨rfl,⟨ok,E.keep [0,3]⟩⟩
    refine lsq E fun a E=>pf E rfl rfl fun a E=>av E rfl fun a E=>wpList_nil ?_
    cases hF
    exact ⟨rfl,⟨ok,E.keep [0,3]⟩⟩
   intro e a w hO
   obtain ⟨rfl,ok,E⟩:=hO
   refine qaa<|cf E rfl hF (fun c5 hF=>?_) fun c5 hF=>?_
   ·refine sg<|aw E rfl fun a E=>wp_ret<|qak<|qad ?_
    exact fin hF ⟨ok,E.d,rz E rfl,(ir 2)⟩
   refine sg<|mv E rfl fun a E=>lw E (qaq rfl rfl) fun a E=>mv E rfl fun a E=>bw E 19 hF (fun c6 hF E=>?_) fun c6 hF E=>?_
   ·as_aux_lemma =>
     refine lsq E fun a E=>pf E rfl rfl fun a E=>aw E rfl fun a E=>c_if E rfl (fun h=>by cases h) (fun _=>?_)
     refine wp_seq<|sg<|mv E rfl fun a E=>lw E (qaq rfl rfl) fun a E=>mv E rfl fun a E=>bu E 26 hF (fun c27 hF E=>?_) fun c27 hF E=>?_
     ·as_aux_lemma =>
       refine mv E rfl fun a E=>lw E (qaR rfl rfl) fun a E=>pt E rfl rfl fun a E=>aw E rfl fun a E=>bd hF fun o28 hJ hF=>qaH (Q':=fun e a w=>e = .normal ∧ Ok u m0 (S) w ∧ Env 46 a [(23,vb o28)]) ?_ ?_
       rotate_left
       ·intro e a w hO
        obtain ⟨rfl,ok,E⟩:=hO
        refine qaa<|cf E rfl hF (fun c36 hF=>?_) fun c36 hF=>?_
        ·refine sg<|aw E rfl fun a E=>wp_ret<|qak<|qad ?_
         exact fin hF ⟨ok,E.d,rz E rfl,(ir 1)⟩
        refine wp_skip<|qac<|qaa<|sg<|aw E rfl fun a E=>wp_ret ?_
        exact fin hF ⟨ok,E.d,rz E rfl,(ir 0)⟩
       have hF:=hJ
       refine cf E rfl hF (fun c29 hF=>?_) fun c29 hF=>?_
       ·refine wp_skip ?_
        cases hF
        exact ⟨rfl,⟨ok,E.keep [23]⟩⟩
       refine sg<|mv E rfl fun a E=>lw E (qaq rfl rfl) fun a E=>mv E rfl fun a E=>bw E 32 hF (fun c30 hF E=>?_) fun c30 hF E=>?_
       ·refine lsq E fun a E=>pf E rfl rfl fun a E=>aw E rfl fun a E=>c_if E rfl (fun h=>by cases h) (fun _=>?_)
        refine qab<|mv E rfl fun a E=>lw E (qaq rfl rfl) fun a E=>mv E rfl fun a E=>bw E 38 hF (fun c34 hF E=>?_) fun c34 hF E=>?_
        ·refine lsz E fun a E=>lsq E fun a E=>pf E rfl rfl fun a E=>av E rfl fun a E=>wpList_nil ?_
         cases hF
         exact ⟨rfl,⟨ok,E.keep [23]⟩⟩
        refine mv E rfl fun a E=>lw E (qap rfl rfl) fun a E=>mv E rfl fun a E=>bu E 41 hF (fun c35 hF E=>?_) fun c35 hF E=>?_
        ·refine lsq E fun a E=>pt E rfl rfl fun a E=>pt E rfl rfl fun a E=>av E rfl fun a E=>wpList_nil ?_
         cases hF
         exact ⟨rfl,⟨ok,E.keep [23]⟩⟩
        refine mv E rfl fun a E=>lw E (qaK rfl rfl) fun a E=>pf E rfl rfl fun a E=>pt E rfl rfl fun a E=>av E rfl fun a E=>wpList_nil ?_
        cases hF
        exact ⟨rfl,⟨ok,E.keep [23]⟩⟩
       refine mv E rfl fun a E=>lw E (qaR rfl rfl) fun a E=>pt E rfl rfl fun a E=>aw E rfl fun a E=>cf E rfl hF (fun c31 hF=>?_) fun c31 hF=>?_
       ·refine wp_skip ?_
        cases hF
        exact ⟨rfl,⟨ok,E.keep [23]⟩⟩
       refine qab<|mv E rfl fun a E=>lw E (qaq rfl rfl) fun a E=>mv E rfl fun a E=>bw E 38 hF (fun c32 hF E=>?_) fun c32 hF E=>?_
       ·refine lsz E fun a E=>lsq E fun a E=>pf E rfl rfl fun a E=>av E rfl fun a E=>wpList_nil ?_
        cases hF
        exact ⟨rfl,⟨ok,E.keep [23]⟩⟩
       refine mv E rfl fun a E=>lw E (qap rfl rfl) fun a E=>mv E rfl fun a E=>bu E 41 hF (fun c33 hF E=>?_) fun c33 hF E=>?_
       ·refine lsq E fun a E=>pt E rfl rfl fun a E=>pt E rfl rfl fun a E=>av E rfl fun a E=>wpList_nil ?_
        cases hF
        exact ⟨rfl,⟨ok,E.keep [23]⟩⟩
       refine mv E rfl fun a E=>lw E (qaK rfl rfl) fun a E=>pf E rfl rfl fun a E=>pt E rfl rfl fun a E=>av E rfl fun a E=>wpList_nil ?_
       cases hF
       exact ⟨rfl,⟨ok,E.keep [23]⟩⟩
     refine lsq E fun a E=>pf E rfl rfl fun a E=>aw E rfl fun a E=>c_if E rfl (fun h=>by cases h) (fun _=>?_)
     refine sg<|mv E rfl fun a E=>lw E (qaq rfl rfl) fun a E=>mv E rfl fun a E=>bu E 32 hF (fun c37 hF E=>?_) fun c37 hF E=>?_
     ·as_aux_lemma =>
       refine mv E rfl fun a E=>lw E (qaR rfl rfl) fun a E=>pt E rfl rfl fun a E=>aw E rfl fun a E=>bd hF fun o38 hJ hF=>qaH (Q':=fun e a w=>e = .normal ∧ Ok u m0 (S) w ∧ Env 46 a [(23,vb o38)]) ?_ ?_
       rotate_left
       ·intro e a w hO
        obtain ⟨rfl,ok,E⟩:=hO
        refine qaa<|cf E rfl hF (fun c42 hF=>?_) fun c42 hF=>?_
        ·refine sg<|aw E rfl fun a E=>wp_ret<|qak<|qad ?_
         exact fin hF ⟨ok,E.d,rz E rfl,(ir 1)⟩
        refine wp_skip<|qac<|qaa<|sg<|aw E rfl fun a E=>wp_ret ?_
        exact fin hF ⟨ok,E.d,rz E rfl,(ir 0)⟩
       have hF:=hJ
       refine cf E rfl hF (fun c39 hF=>?_) fun c39 hF=>?_
       ·refine wp_skip ?_
        cases hF
        exact ⟨rfl,⟨ok,E.keep [23]⟩⟩
       refine qab<|mv E rfl fun a E=>lw E (qaq rfl rfl) fun a E=>mv E rfl fun a E=>bw E 38 hF (fun c40 hF E=>?_) fun c40 hF E=>?_
       ·refine lsz E fun a E=>lsq E fun a E=>pf E rfl rfl fun a E=>av E rfl fun a E=>wpList_nil ?_
        cases hF
        exact ⟨rfl,⟨ok,E.keep [23]⟩⟩
       refine mv E rfl fun a E=>lw E (qap rfl rfl) fun a E=>mv E rfl fun a E=>bu E 41 hF (fun c41 hF E=>?_) fun c41 hF E=>?_
       ·refine lsq E fun a E=>pt E rfl rfl fun a E=>pt E rfl rfl fun a E=>av E rfl fun a E=>wpList_nil ?_
        cases hF
        exact ⟨rfl,⟨ok,E.keep [23]⟩⟩
       refine mv E rfl fun a E=>lw E (qaK rfl rfl) fun a E=>pf E rfl rfl fun a E=>pt E rfl rfl fun a E=>av E rfl fun a E=>wpList_nil ?_
       cases hF
       exact ⟨rfl,⟨ok,E.keep [23]⟩⟩
     refine lsq E fun a E=>pf E rfl rfl fun a E=>aw E rfl fun a E=>c_if E rfl (fun h=>by cases h) (fun _=>?_)
     refine qab<|mv E rfl fun a E=>lw E (qaq rfl rfl) fun a E=>mv E rfl fun a E=>bw E 38 hF (fun c43 hF E=>?_) fun c43 hF E=>?_
     ·refine lsz E fun a E=>lsq E fun a E=>pf E rfl rfl fun a E=>av E rfl fun a E=>wn<|c_if E rfl (fun h=>by cases h) (fun _=>?_)
      refine wp_skip<|qac<|qaa<|sg<|aw E rfl fun a E=>wp_ret ?_
      exact fin hF ⟨ok,E.d,rz E rfl,(ir 0)⟩
     refine mv E rfl fun a E=>lw E (qap rfl rfl) fun a E=>mv E rfl fun a E=>bu E 41 hF (fun c44 hF E=>?_) fun c44 hF E=>?_
     ·refine lsq E fun a E=>pt E rfl rfl fun a E=>pt E rfl rfl fun a E=>aw E rfl fun a E=>c_if E rfl (fun _=>?_) (fun h=>by cases h)
      refine sg<|aw E rfl fun a E=>wp_ret<|qak<|qad ?_
      exact fin hF ⟨ok,E.d,rz E rfl,(ir 1)⟩
     refine mv E rfl fun a E=>lw E (qaK rfl rfl) fun a E=>pf E rfl rfl fun a E=>pt E rfl rfl fun a E=>aw E rfl fun a E=>cf E rfl hF (fun c45 hF=>?_) fun c45 hF=>?_
     ·refine sg<|aw E rfl fun a E=>wp_ret<|qak<|qad ?_
      exact fin hF ⟨ok,E.d,rz E rfl,(ir 1)⟩
     refine wp_skip<|qac<|qaa<|sg<|aw E rfl fun a E=>wp_ret ?_
     exact fin hF ⟨ok,E.d,rz E rfl,(ir 0)⟩
   refine mv E rfl fun a E=>lw E (qaR rfl rfl) fun a E=>pt E rfl rfl fun a E=>aw E rfl fun a E=>cf E rfl hF (fun c7 hF=>?_) fun c7 hF=>?_
   ·refine sg<|aw E rfl fun a E=>wp_ret<|qak<|qad ?_
    exact fin hF ⟨ok,E.d,rz E rfl,(ir 3)⟩
   refine wp_seq<|sg<|mv E rfl fun a E=>lw E (qaq rfl rfl) fun a E=>mv E rfl fun a E=>bu E 26 hF (fun c8 hF E=>?_) fun c8 hF E=>?_
   ·as_aux_lemma =>
     refine mv E rfl fun a E=>lw E (qaR rfl rfl) fun a E=>pt E rfl rfl fun a E=>aw E rfl fun a E=>bd hF fun o9 hJ hF=>qaH (Q':=fun e a w=>e = .normal ∧ Ok u m0 (S) w ∧ Env 46 a [(23,vb o9)]) ?_ ?_
     rotate_left
     ·intro e a w hO
      obtain ⟨rfl,ok,E⟩:=hO
      refine qaa<|cf E rfl hF (fun c17 hF=>?_) fun c17 hF=>?_
      ·refine sg<|aw E rfl fun a E=>wp_ret<|qak<|qad ?_
       exact fin hF ⟨ok,E.d,rz E rfl,(ir 1)⟩
      refine wp_skip<|qac<|qaa<|sg<|aw E rfl fun a E=>wp_ret ?_
      exact fin hF ⟨ok,E.d,rz E rfl,(ir 0)⟩
     have hF:=hJ
     refine cf E rfl hF (fun c10 hF=>?_) fun c10 hF=>?_
     ·refine wp_skip ?_
      cases hF
      exact ⟨rfl,⟨ok,E.keep [23]⟩⟩
     refine sg<|mv E rfl fun a E=>lw E (qaq rfl rfl) fun a E=>mv E rfl fun a E=>bw E 32 hF (fun c11 hF E=>?_) fun c11 hF E=>?_
     ·refine lsq E fun a E=>pf E rfl rfl fun a E=>aw E rfl fun a E=>c_if E rfl (fun h=>by cases h) (fun _=>?_)
      refine qab<|mv E rfl fun a E=>lw E (qaq rfl rfl) fun a E=>mv E rfl fun a E=>bw E 38 hF (fun c15 hF E=>?_) fun c15 hF E=>?_
      ·refine lsz E fun a E=>lsq E fun a E=>pf E rfl rfl fun a E=>av E rfl fun a E=>wpList_nil ?_
       cases hF
       exact ⟨rfl,⟨ok,E.keep [23]⟩⟩
      refine mv E rfl fun a E=>lw E (qap rfl rfl) fun a E=>mv E rfl fun a E=>bu E 41 hF (fun c16 hF E=>?_) fun c16 hF E=>?_
      ·refine lsq E fun a E=>pt E rfl rfl fun a E=>pt E rfl rfl fun a E=>av E rfl fun a E=>wpList_nil ?_
       cases hF
       exact ⟨rfl,⟨ok,E.keep [23]⟩⟩
      refine mv E rfl fun a E=>lw E (qaK rfl rfl) fun a E=>pf E rfl rfl fun a E=>pt E rfl rfl fun a E=>av E rfl fun a E=>wpList_nil ?_
      cases hF
      exact ⟨rfl,⟨ok,E.keep [23]⟩⟩
     refine mv E rfl fun a E=>lw E (qaR rfl rfl) fun a E=>pt E rfl rfl fun a E=>aw E rfl fun a E=>cf E rfl hF (fun c12 hF=>?_) fun c12 hF=>?_
     ·refine wp_skip ?_
      cases hF
      exact ⟨rfl,⟨ok,E.keep [23]⟩⟩
     refine qab<|mv E rfl fun a E=>lw E (qaq rfl rfl) fun a E=>mv E rfl fun a E=>bw E 38 hF (fun c13 hF E=>?_) fun c13 hF E=>?_
     ·refine lsz E fun a E=>lsq E fun a E=>pf E rfl rfl fun a E=>av E rfl fun a E=>wpList_nil ?_
      cases hF
      exact ⟨rfl,⟨ok,E.keep [23]⟩⟩
     refine mv E rfl fun a E=>lw E (qap rfl rfl) fun a E=>mv E rfl fun a E=>bu E 41 hF (fun c14 hF E=>?_) fun c14 hF E=>?_
     ·refine lsq E fun a E=>pt E rfl rfl fun a E=>pt E rfl rfl fun a E=>av E rfl fun a E=>wpList_nil ?_
      cases hF
      exact ⟨rfl,⟨ok,E.keep [23]⟩⟩
     refine mv E rfl fun a E=>lw E (qaK rfl rfl) fun a E=>pf E rfl rfl fun a E=>pt E rfl rfl fun a E=>av E rfl fun a E=>wpList_nil ?_
     cases hF
     exact ⟨rfl,⟨ok,E.keep [23]⟩⟩
   refine lsq E fun a E=>pf E rfl rfl fun a E=>aw E rfl fun a E=>c_if E rfl (fun h=>by cases h) (fun _=>?_)
   refine sg<|mv E rfl fun a E=>lw E (qaq rfl rfl) fun a E=>mv E rfl fun a E=>bu E 32 hF (fun c18 hF E=>?_) fun c18 hF E=>?_
   ·as_aux_lemma =>
     refine mv E rfl fun a E=>lw E (qaR rfl rfl) fun a E=>pt E rfl rfl fun a E=>aw E rfl fun a E=>bd hF fun o19 hJ hF=>qaH (Q':=fun e a w=>e = .normal ∧ Ok u m0 (S) w ∧ Env 46 a [(23,vb o19)]) ?_ ?_
     rotate_left
     ·intro e a w hO
      obtain ⟨rfl,ok,E⟩:=hO
      refine qaa<|cf E rfl hF (fun c23 hF=>?_) fun c23 hF=>?_
      ·refine sg<|aw E rfl fun a E=>wp_ret<|qak<|qad ?_
       exact fin hF ⟨ok,E.d,rz E rfl,(ir 1)⟩
      refine wp_skip<|qac<|qaa<|sg<|aw E rfl fun a E=>wp_ret ?_
      exact fin hF ⟨ok,E.d,rz E rfl,(ir 0)⟩
     have hF:=hJ
     refine cf E rfl hF (fun c20 hF=>?_) fun c20 hF=>?_
     ·refine wp_skip ?_
      cases hF
      exact ⟨rfl,⟨ok,E.keep [23]⟩⟩
     refine qab<|mv E rfl fun a E=>lw E (qaq rfl rfl) fun a E=>mv E rfl fun a E=>bw E 38 hF (fun c21 hF E=>?_) fun c21 hF E=>?_
     ·refine lsz E fun a E=>lsq E fun a E=>pf E rfl rfl fun a E=>av E rfl fun a E=>wpList_nil ?_
      cases hF
      exact ⟨rfl,⟨ok,E.keep [23]⟩⟩
     refine mv E rfl fun a E=>lw E (qap rfl rfl) fun a E=>mv E rfl fun a E=>bu E 41 hF (fun c22 hF E=>?_) fun c22 hF E=>?_
     ·refine lsq E fun a E=>pt E rfl rfl fun a E=>pt E rfl rfl fun a E=>av E rfl fun a E=>wpList_nil ?_
      cases hF
      exact ⟨rfl,⟨ok,E.keep [23]⟩⟩
     refine mv E rfl fun a E=>lw E (qaK rfl rfl) fun a E=>pf E rfl rfl fun a E=>pt E rfl rfl fun a E=>av E rfl fun a E=>wpList_nil ?_
     cases hF
     exact ⟨rfl,⟨ok,E.keep [23]⟩⟩
   refine lsq E fun a E=>pf E rfl rfl fun a E=>aw E rfl fun a E=>c_if E rfl (fun h=>by cases h) (fun _=>?_)
   refine qab<|mv E rfl fun a E=>lw E (qaq rfl rfl) fun a E=>mv E rfl fun a E=>bw E 38 hF (fun c24 hF E=>?_) fun c24 hF E=>?_
   ·refine lsz E fun a E=>lsq E fun a E=>pf E rfl rfl fun a E=>av E rfl fun a E=>wn<|c_if E rfl (fun h=>by cases h) (fun _=>?_)
    refine wp_skip<|qac<|qaa<|sg<|aw E rfl fun a E=>wp_ret ?_
    exact fin hF ⟨ok,E.d,rz E rfl,(ir 0)⟩
   refine mv E rfl fun a E=>lw E (qap rfl rfl) fun a E=>mv E rfl fun a E=>bu E 41 hF (fun c25 hF E=>?_) fun c25 hF E=>?_
   ·refine lsq E fun a E=>pt E rfl rfl fun a E=>pt E rfl rfl fun a E=>aw E rfl fun a E=>c_if E rfl (fun _=>?_) (fun h=>by cases h)
    refine sg<|aw E rfl fun a E=>wp_ret<|qak<|qad ?_
    exact fin hF ⟨ok,E.d,rz E rfl,(ir 1)⟩
   refine mv E rfl fun a E=>lw E (qaK rfl rfl) fun a E=>pf E rfl rfl fun a E=>pt E rfl rfl fun a E=>aw E rfl fun a E=>cf E rfl hF (fun c26 hF=>?_) fun c26 hF=>?_
   ·refine sg<|aw E rfl fun a E=>wp_ret<|qak<|qad ?_
    exact fin hF ⟨ok,E.d,rz E rfl,(ir 1)⟩
   refine wp_skip<|qac<|qaa<|sg<|aw E rfl fun a E=>wp_ret ?_
   exact fin hF ⟨ok,E.d,rz E rfl,(ir 0)⟩
 refine lsq E fun a E=>pf E rfl rfl fun a E=>aw E rfl fun a E=>c_if E rfl (fun h=>by cases h) (fun _=>?_)
 refine qab<|mv E rfl fun a E=>lw E (qaq rfl rfl) fun a E=>mv E rfl fun a E=>bw E 12 hF (fun c46 hF E=>?_) fun c46 hF E=>?_
 ·as_aux_lemma =>
   refine lsq E fun a E=>pf E rfl rfl fun a E=>aw E rfl fun a E=>c_if E rfl (fun h=>by cases h) (fun _=>?_)
   refine sg<|mv E rfl fun a E=>lw E (qaq rfl rfl) fun a E=>mv E rfl fun a E=>bw E 19 hF (fun c88 hF E=>?_) fun c88 hF E=>?_
   ·as_aux_lemma =>
     refine lsq E fun a E=>pf E rfl rfl fun a E=>aw E rfl fun a E=>c_if E rfl (fun h=>by cases h) (fun _=>?_)
     refine wp_seq<|sg<|mv E rfl fun a E=>lw E (qaq rfl rfl) fun a E=>mv E rfl fun a E=>bu E 26 hF (fun c109 hF E=>?_) fun c109 hF E=>?_
     ·as_aux_lemma =>
       refine mv E rfl fun a E=>lw E (qaR rfl rfl) fun a E=>pt E rfl rfl fun a E=>aw E rfl fun a E=>bd hF fun o110 hJ hF=>qaH (Q':=fun e a w=>e = .normal ∧ Ok u m0 (S) w ∧ Env 46 a [(23,vb o110)]) ?_ ?_
       rotate_left
       ·intro e a w hO
        obtain ⟨rfl,ok,E⟩:=hO
        refine qaa<|cf E rfl hF (fun c118 hF=>?_) fun c118 hF=>?_
        ·refine sg<|aw E rfl fun a E=>wp_ret<|qak<|qad ?_
         exact fin hF ⟨ok,E.d,rz E rfl,(ir 1)⟩
        refine wp_skip<|qac<|qaa<|sg<|aw E rfl fun a E=>wp_ret ?_
        exact fin hF ⟨ok,E.d,rz E rfl,(ir 0)⟩
       have hF:=hJ
       refine cf E rfl hF (fun c111 hF=>?_) fun c111 hF=>?_
       ·refine wp_skip ?_
        cases hF
        exact ⟨rfl,⟨ok,E.keep [23]⟩⟩
       refine sg<|mv E rfl fun a E=>lw E (qaq rfl rfl) fun a E=>mv E rfl fun a E=>bw E 32 hF (fun c112 hF E=>?_) fun c112 hF E=>?_
       ·refine lsq E fun a E=>pf E rfl rfl fun a E=>aw E rfl fun a E=>c_if E rfl (fun h=>by cases h) (fun _=>?_)
        refine qab<|mv E rfl fun a E=>lw E (qaq rfl rfl) fun a E=>mv E rfl fun a E=>bw E 38 hF (fun c116 hF E=>?_) fun c116 hF E=>?_
        ·refine lsz E fun a E=>lsq E fun a E=>pf E rfl rfl fun a E=>av E rfl fun a E=>wpList_nil ?_
         cases hF
         exact ⟨rfl,⟨ok,E.keep [23]⟩⟩
        refine mv E rfl fun a E=>lw E (qap rfl rfl) fun a E=>mv E rfl fun a E=>bu E 41 hF (fun c117 hF E=>?_) fun c117 hF E=>?_
        ·refine lsq E fun a E=>pt E rfl rfl fun a E=>pt E rfl rfl fun a E=>av E rfl fun a E=>wpList_nil ?_
         cases hF
         exact ⟨rfl,⟨ok,E.keep [23]⟩⟩
        refine mv E rfl fun a E=>lw E (qaK rfl rfl) fun a E=>pf E rfl rfl fun a E=>pt E rfl rfl fun a E=>av E rfl fun a E=>wpList_nil ?_
        cases hF
        exact ⟨rfl,⟨ok,E.keep [23]⟩⟩
       refine mv E rfl fun a E=>lw E (qaR rfl rfl) fun a E=>pt E rfl rfl fun a E=>aw E rfl fun a E=>cf E rfl hF (fun c113 hF=>?_) fun c113 hF=>?_
       ·refine wp_skip ?_
        cases hF
        exact ⟨rfl,⟨ok,E.keep [23]⟩⟩
       refine qab<|mv E rfl fun a E=>lw E (qaq rfl rfl) fun a E=>mv E rfl fun a E=>bw E 38 hF (fun c114 hF E=>?_) fun c114 hF E=>?_
       ·refine lsz E fun a E=>lsq E fun a E=>pf E rfl rfl fun a E=>av E rfl fun a E=>wpList_nil ?_
        cases hF
        exact ⟨rfl,⟨ok,E.keep [23]⟩⟩
       refine mv E rfl fun a E=>lw E (qap rfl rfl) fun a E=>mv E rfl fun a E=>bu E 41 hF (fun c115 hF E=>?_) fun c115 hF E=>?_
       ·refine lsq E fun a E=>pt E rfl rfl fun a E=>pt E rfl rfl fun a E=>av E rfl fun a E=>wpList_nil ?_
        cases hF
        exact ⟨rfl,⟨ok,E.keep [23]⟩⟩
       refine mv E rfl fun a E=>lw E (qaK rfl rfl) fun a E=>pf E rfl rfl fun a E=>pt E rfl rfl fun a E=>av E rfl fun a E=>wpList_nil ?_
       cases hF
       exact ⟨rfl,⟨ok,E.keep [23]⟩⟩
     refine lsq E fun a E=>pf E rfl rfl fun a E=>aw E rfl fun a E=>c_if E rfl (fun h=>by cases h) (fun _=>?_)
     refine sg<|mv E rfl fun a E=>lw E (qaq rfl rfl) fun a E=>mv E rfl fun a E=>bu E 32 hF (fun c119 hF E=>?_) fun c119 hF E=>?_
     ·as_aux_lemma =>
       refine mv E rfl fun a E=>lw E (qaR rfl rfl) fun a E=>pt E rfl rfl fun a E=>aw E rfl fun a E=>bd hF fun o120 hJ hF=>qaH (Q':=fun e a w=>e = .normal ∧ Ok u m0 (S) w ∧ Env 46 a [(23,vb o120)]) ?_ ?_
       rotate_left
       ·intro e a w hO
        obtain ⟨rfl,ok,E⟩:=hO
        refine qaa<|cf E rfl hF (fun c124 hF=>?_) fun c124 hF=>?_
        ·refine sg<|aw E rfl fun a E=>wp_ret<|qak<|qad ?_
         exact fin hF ⟨ok,E.d,rz E rfl,(ir 1)⟩
        refine wp_skip<|qac<|qaa<|sg<|aw E rfl fun a E=>wp_ret ?_
        exact fin hF ⟨ok,E.d,rz E rfl,(ir 0)⟩
       have hF:=hJ
       refine cf E rfl hF (fun c121 hF=>?_) fun c121 hF=>?_
       ·refine wp_skip ?_
        cases hF
        exact ⟨rfl,⟨ok,E.keep [23]⟩⟩
       refine qab<|mv E rfl fun a E=>lw E (qaq rfl rfl) fun a E=>mv E rfl fun a E=>bw E 38 hF (fun c122 hF E=>?_) fun c122 hF E=>?_
       ·refine lsz E fun a E=>lsq E fun a E=>pf E rfl rfl fun a E=>av E rfl fun a E=>wpList_nil ?_
        cases hF
        exact ⟨rfl,⟨ok,E.keep [23]⟩⟩
       refine mv E rfl fun a E=>lw E (qap rfl rfl) fun a E=>mv E rfl fun a E=>bu E 41 hF (fun c123 hF E=>?_) fun c123 hF E=>?_
       ·refine lsq E fun a E=>pt E rfl rfl fun a E=>pt E rfl rfl fun a E=>av E rfl fun a E=>wpList_nil ?_
        cases hF
        exact ⟨rfl,⟨ok,E.keep [23]⟩⟩
       refine mv E rfl fun a E=>lw E (qaK rfl rfl) fun a E=>pf E rfl rfl fun a E=>pt E rfl rfl fun a E=>av E rfl fun a E=>wpList_nil ?_
       cases hF
       exact ⟨rfl,⟨ok,E.keep [23]⟩⟩
     refine lsq E fun a E=>pf E rfl rfl fun a E=>aw E rfl fun a E=>c_if E rfl (fun h=>by cases h) (fun _=>?_)
     refine qab<|mv E rfl fun a E=>lw E (qaq rfl rfl) fun a E=>mv E rfl fun a E=>bw E 38 hF (fun c125 hF E=>?_) fun c125 hF E=>?_
     ·refine lsz E fun a E=>lsq E fun a E=>pf E rfl rfl fun a E=>av E rfl fun a E=>wn<|c_if E rfl (fun h=>by cases h) (fun _=>?_)
      refine wp_skip<|qac<|qaa<|sg<|aw E rfl fun a E=>wp_ret ?_
      exact fin hF ⟨ok,E.d,rz E rfl,(ir 0)⟩
     refine mv E rfl fun a E=>lw E (qap rfl rfl) fun a E=>mv E rfl fun a E=>bu E 41 hF (fun c126 hF E=>?_) fun c126 hF E=>?_
     ·refine lsq E fun a E=>pt E rfl rfl fun a E=>pt E rfl rfl fun a E=>aw E rfl fun a E=>c_if E rfl (fun _=>?_) (fun h=>by cases h)
      refine sg<|aw E rfl fun a E=>wp_ret<|qak<|qad ?_
      exact fin hF ⟨ok,E.d,rz E rfl,(ir 1)⟩
     refine mv E rfl fun a E=>lw E (qaK rfl rfl) fun a E=>pf E rfl rfl fun a E=>pt E rfl rfl fun a E=>aw E rfl fun a E=>cf E rfl hF (fun c127 hF=>?_) fun c127 hF=>?_
     ·refine sg<|aw E rfl fun a E=>wp_ret<|qak<|qad ?_
      exact fin hF ⟨ok,E.d,rz E rfl,(ir 1)⟩
     refine wp_skip<|qac<|qaa<|sg<|aw E rfl fun a E=>wp_ret ?_
     exact fin hF ⟨ok,E.d,rz E rfl,(ir 0)⟩
   refine mv E rfl fun a E=>lw E (qaR rfl rfl) fun a E=>pt E rfl rfl fun a E=>aw E rfl fun a E=>cf E rfl hF (fun c89 hF=>?_) fun c89 hF=>?_
   ·refine sg<|aw E rfl fun a E=>wp_ret<|qak<|qad ?_
    exact fin hF ⟨ok,E.d,rz E rfl,(ir 3)⟩
   refine wp_seq<|sg<|mv E rfl fun a E=>lw E (qaq rfl rfl) fun a E=>mv E rfl fun a E=>bu E 26 hF (fun c90 hF E=>?_) fun c90 hF E=>?_
   ·as_aux_lemma =>
     refine mv E rfl fun a E=>lw E (qaR rfl rfl) fun a E=>pt E rfl rfl fun a E=>aw E rfl fun a E=>bd hF fun o91 hJ hF=>qaH (Q':=fun e a w=>e = .normal ∧ Ok u m0 (S) w ∧ Env 46 a [(23,vb o91)]) ?_ ?_
     rotate_left
     ·intro e a w hO
      obtain ⟨rfl,ok,E⟩:=hO
      refine qaa<|cf E rfl hF (fun c99 hF=>?_) fun c99 hF=>?_
      ·refine sg<|aw E rfl fun a E=>wp_ret<|qak<|qad ?_
       exact fin hF ⟨ok,E.d,rz E rfl,(ir 1)⟩
      refine wp_skip<|qac<|qaa<|sg<|aw E rfl fun a E=>wp_ret ?_
      exact fin hF ⟨ok,E.d,rz E rfl,(ir 0)⟩
     have hF:=hJ
     refine cf E rfl hF (fun c92 hF=>?_) fun c92 hF=>?_
     ·refine wp_skip ?_
      cases hF
      exact ⟨rfl,⟨ok,E.keep [23]⟩⟩
     refine sg<|mv E rfl fun a E=>lw E (qaq rfl rfl) fun a E=>mv E rfl fun a E=>bw E 32 hF (fun c93 hF E=>?_) fun c93 hF E=>?_
     ·refine lsq E fun a E=>pf E rfl rfl fun a E=>aw E rfl fun a E=>c_if E rfl (fun h=>by cases h) (fun _=>?_)
      refine qab<|mv E rfl fun a E=>lw E (qaq rfl rfl) fun a E=>mv E rfl fun a E=>bw E 38 hF (fun c97 hF E=>?_) fun c97 hF E=>?_
      ·refine lsz E fun a E=>lsq E fun a E=>pf E rfl rfl fun a E=>av E rfl fun a E=>wpList_nil ?_
       cases hF
       exact ⟨rfl,⟨ok,E.keep [23]⟩⟩
      refine mv E rfl fun a E=>lw E (qap rfl rfl) fun a E=>mv E rfl fun a E=>bu E 41 hF (fun c98 hF E=>?_) fun c98 hF E=>?_
      ·refine lsq E fun a E=>pt E rfl rfl fun a E=>pt E rfl rfl fun a E=>av E rfl fun a E=>wpList_nil ?_
       cases hF
       exact ⟨rfl,⟨ok,E.keep [23]⟩⟩
      refine mv E rfl fun a E=>lw E (qaK rfl rfl) fun a E=>pf E rfl rfl fun a E=>pt E rfl rfl fun a E=>av E rfl fun a E=>wpList_nil ?_
      cases hF
      exact ⟨rfl,⟨ok,E.keep [23]⟩⟩
     refine mv E rfl fun a E=>lw E (qaR rfl rfl) fun a E=>pt E rfl rfl fun a E=>aw E rfl fun a E=>cf E rfl hF (fun c94 hF=>?_) fun c94 hF=>?_
     ·refine wp_skip ?_
      cases hF
      exact ⟨rfl,⟨ok,E.keep [23]⟩⟩
     refine qab<|mv E rfl fun a E=>lw E (qaq rfl rfl) fun a E=>mv E rfl fun a E=>bw E 38 hF (fun c95 hF E=>?_) fun c95 hF E=>?_
     ·refine lsz E fun a E=>lsq E fun a E=>pf E rfl rfl fun a E=>av E rfl fun a E=>wpList_nil ?_
      cases hF
      exact ⟨rfl,⟨ok,E.keep [23]⟩⟩
     refine mv E rfl fun a E=>lw E (qap rfl rfl) fun a E=>mv E rfl fun a E=>bu E 41 hF (fun c96 hF E=>?_) fun c96 hF E=>?_
     ·refine lsq E fun a E=>pt E rfl rfl fun a E=>pt E rfl rfl fun a E=>av E rfl fun a E=>wpList_nil ?_
      cases hF
      exact ⟨rfl,⟨ok,E.keep [23]⟩⟩
     refine mv E rfl fun a E=>lw E (qaK rfl rfl) fun a E=>pf E rfl rfl fun a E=>pt E rfl rfl fun a E=>av E rfl fun a E=>wpList_nil ?_
     cases hF
     exact ⟨rfl,⟨ok,E.keep [23]⟩⟩
   refine lsq E fun a E=>pf E rfl rfl fun a E=>aw E rfl fun a E=>c_if E rfl (fun h=>by cases h) (fun _=>?_)
   refine sg<|mv E rfl fun a E=>lw E (qaq rfl rfl) fun a E=>mv E rfl fun a E=>bu E 32 hF (fun c100 hF E=>?_) fun c100 hF E=>?_
   ·as_aux_lemma =>
     refine mv E rfl fun a E=>lw E (qaR rfl rfl) fun a E=>pt E rfl rfl fun a E=>aw E rfl fun a E=>bd hF fun o101 hJ hF=>qaH (Q':=fun e a w=>e = .normal ∧ Ok u m0 (S) w ∧ Env 46 a [(23,vb o101)]) ?_ ?_
     rotate_left
     ·intro e a w hO
      obtain ⟨rfl,ok,E⟩:=hO
      refine qaa<|cf E rfl hF (fun c105 hF=>?_) fun c105 hF=>?_
      ·refine sg<|aw E rfl fun a E=>wp_ret<|qak<|qad ?_
       exact fin hF ⟨ok,E.d,rz E rfl,(ir 1)⟩
      refine wp_skip<|qac<|qaa<|sg<|aw E rfl fun a E=>wp_ret ?_
      exact fin hF ⟨ok,E.d,rz E rfl,(ir 0)⟩
     have hF:=hJ
     refine cf E rfl hF (fun c102 hF=>?_) fun c102 hF=>?_
     ·refine wp_skip ?_
      cases hF
      exact ⟨rfl,⟨ok,E.keep [23]⟩⟩
     refine qab<|mv E rfl fun a E=>lw E (qaq rfl rfl) fun a E=>mv E rfl fun a E=>bw E 38 hF (fun c103 hF E=>?_) fun c103 hF E=>?_
     ·refine lsz E fun a E=>lsq E fun a E=>pf E rfl rfl fun a E=>av E rfl fun a E=>wpList_nil ?_
      cases hF
      exact ⟨rfl,⟨ok,E.keep [23]⟩⟩
     refine mv E rfl fun a E=>lw E (qap rfl rfl) fun a E=>mv E rfl fun a E=>bu E 41 hF (fun c104 hF E=>?_) fun c104 hF E=>?_
     ·refine lsq E fun a E=>pt E rfl rfl fun a E=>pt E rfl rfl fun a E=>av E rfl fun a E=>wpList_nil ?_
      cases hF
      exact ⟨rfl,⟨ok,E.keep [23]⟩⟩
     refine mv E rfl fun a E=>lw E (qaK rfl rfl) fun a E=>pf E rfl rfl fun a E=>pt E rfl rfl fun a E=>av E rfl fun a E=>wpList_nil ?_
     cases hF
     exact ⟨rfl,⟨ok,E.keep [23]⟩⟩
   refine lsq E fun a E=>pf E rfl rfl fun a E=>aw E rfl fun a E=>c_if E rfl (fun h=>by cases h) (fun _=>?_)
   refine qab<|mv E rfl fun a E=>lw E (qaq rfl rfl) fun a E=>mv E rfl fun a E=>bw E 38 hF (fun c106 hF E=>?_) fun c106 hF E=>?_
   ·refine lsz E fun a E=>lsq E fun a E=>pf E rfl rfl fun a E=>av E rfl fun a E=>wn<|c_if E rfl (fun h=>by cases h) (fun _=>?_)
    refine wp_skip<|qac<|qaa<|sg<|aw E rfl fun a E=>wp_ret ?_
    exact fin hF ⟨ok,E.d,rz E rfl,(ir 0)⟩
   refine mv E rfl fun a E=>lw E (qap rfl rfl) fun a E=>mv E rfl fun a E=>bu E 41 hF (fun c107 hF E=>?_) fun c107 hF E=>?_
   ·refine lsq E fun a E=>pt E rfl rfl fun a E=>pt E rfl rfl fun a E=>aw E rfl fun a E=>c_if E rfl (fun _=>?_) (fun h=>by cases h)
    refine sg<|aw E rfl fun a E=>wp_ret<|qak<|qad ?_
    exact fin hF ⟨ok,E.d,rz E rfl,(ir 1)⟩
   refine mv E rfl fun a E=>lw E (qaK rfl rfl) fun a E=>pf E rfl rfl fun a E=>pt E rfl rfl fun a E=>aw E rfl fun a E=>cf E rfl hF (fun c108 hF=>?_) fun c108 hF=>?_
   ·refine sg<|aw E rfl fun a E=>wp_ret<|qak<|qad ?_
    exact fin hF ⟨ok,E.d,rz E rfl,(ir 1)⟩
   refine wp_skip<|qac<|qaa<|sg<|aw E rfl fun a E=>wp_ret ?_
   exact fin hF ⟨ok,E.d,rz E rfl,(ir 0)⟩
 refine mv E rfl fun a E=>lw E (qaR rfl rfl) fun a E=>pt E rfl rfl fun a E=>aw E rfl fun a E=>cf E rfl hF (fun c47 hF=>?_) fun c47 hF=>?_
 ·refine sg<|aw E rfl fun a E=>wp_ret<|qak<|qad ?_
  exact fin hF ⟨ok,E.d,rz E rfl,(ir 2)⟩
 refine sg<|mv E rfl fun a E=>lw E (qaq rfl rfl) fun a E=>mv E rfl fun a E=>bw E 19 hF (fun c48 hF E=>?_) fun c48 hF E=>?_
 ·as_aux_lemma =>
   refine lsq E fun a E=>pf E rfl rfl fun a E=>aw E rfl fun a E=>c_if E rfl (fun h=>by cases h) (fun _=>?_)
   refine wp_seq<|sg<|mv E rfl fun a E=>lw E (qaq rfl rfl) fun a E=>mv E rfl fun a E=>bu E 26 hF (fun c69 hF E=>?_) fun c69 hF E=>?_
   ·as_aux_lemma =>
     refine mv E rfl fun a E=>lw E (qaR rfl rfl) fun a E=>pt E rfl rfl fun a E=>aw E rfl fun a E=>bd hF fun o70 hJ hF=>qaH (Q':=fun e a w=>e = .normal ∧ Ok u m0 (S) w ∧ Env 46 a [(23,vb o70)]) ?_ ?_
     rotate_left
     ·intro e a w hO
      obtain ⟨rfl,ok,E⟩:=hO
      refine qaa<|cf E rfl hF (fun c78 hF=>?_) fun c78 hF=>?_
      ·refine sg<|aw E rfl fun a E=>wp_ret<|qak<|qad ?_
       exact fin hF ⟨ok,E.d,rz E rfl,(ir 1)⟩
      refine wp_skip<|qac<|qaa<|sg<|aw E rfl fun a E=>wp_ret ?_
      exact fin hF ⟨ok,E.d,rz E rfl,(ir 0)⟩
     have hF:=hJ
     refine cf E rfl hF (fun c71 hF=>?_) fun c71 hF=>?_
     ·refine wp_skip ?_
      cases hF
      exact ⟨rfl,⟨ok,E.keep [23]⟩⟩
     refine sg<|mv E rfl fun a E=>lw E (qaq rfl rfl) fun a E=>mv E rfl fun a E=>bw E 32 hF (fun c72 hF E=>?_) fun c72 hF E=>?_
     ·refine lsq E fun a E=>pf E rfl rfl fun a E=>aw E rfl fun a E=>c_if E rfl (fun h=>by cases h) (fun _=>?_)
      refine qab<|mv E rfl fun a E=>lw E (qaq rfl rfl) fun a E=>mv E rfl fun a E=>bw E 38 hF (fun c76 hF E=>?_) fun c76 hF E=>?_
      ·refine lsz E fun a E=>lsq E fun a E=>pf E rfl rfl fun a E=>av E rfl fun a E=>wpList_nil ?_
       cases hF
       exact ⟨rfl,⟨ok,E.keep [23]⟩⟩
      refine mv E rfl fun a E=>lw E (qap rfl rfl) fun a E=>mv E rfl fun a E=>bu E 41 hF (fun c77 hF E=>?_) fun c77 hF E=>?_
      ·refine lsq E fun a E=>pt E rfl rfl fun a E=>pt E rfl rfl fun a E=>av E rfl fun a E=>wpList_nil ?_
       cases hF
       exact ⟨rfl,⟨ok,E.keep [23]⟩⟩
      refine mv E rfl fun a E=>lw E (qaK rfl rfl) fun a E=>pf E rfl rfl fun a E=>pt E rfl rfl fun a E=>av E rfl fun a E=>wpList_nil ?_
      cases hF
      exact ⟨rfl,⟨ok,E.keep [23]⟩⟩
     refine mv E rfl fun a E=>lw E (qaR rfl rfl) fun a E=>pt E rfl rfl fun a E=>aw E rfl fun a E=>cf E rfl hF (fun c73 hF=>?_) fun c73 hF=>?_
     ·refine wp_skip ?_
      cases hF
      exact ⟨rfl,⟨ok,E.keep [23]⟩⟩
     refine qab<|mv E rfl fun a E=>lw E (qaq rfl rfl) fun a E=>mv E rfl fun a E=>bw E 38 hF (fun c74 hF E=>?_) fun c74 hF E=>?_
     ·refine lsz E fun a E=>lsq E fun a E=>pf E rfl rfl fun a E=>av E rfl fun a E=>wpList_nil ?_
      cases hF
      exact ⟨rfl,⟨ok,E.keep [23]⟩⟩
     refine mv E rfl fun a E=>lw E (qap rfl rfl) fun a E=>mv E rfl fun a E=>bu E 41 hF (fun c75 hF E=>?_) fun c75 hF E=>?_
     ·refine lsq E fun a E=>pt E rfl rfl fun a E=>pt E rfl rfl fun a E=>av E rfl fun a E=>wpList_nil ?_
      cases hF
      exact ⟨rfl,⟨ok,E.keep [23]⟩⟩
     refine mv E rfl fun a E=>lw E (qaK rfl rfl) fun a E=>pf E rfl rfl fun a E=>pt E rfl rfl fun a E=>av E rfl fun a E=>wpList_nil ?_
     cases hF
     exact ⟨rfl,⟨ok,E.keep [23]⟩⟩
   refine lsq E fun a E=>pf E rfl rfl fun a E=>aw E rfl fun a E=>c_if E rfl (fun h=>by cases h) (fun _=>?_)
   refine sg<|mv E rfl fun a E=>lw E (qaq rfl rfl) fun a E=>mv E rfl fun a E=>bu E 32 hF (fun c79 hF E=>?_) fun c79 hF E=>?_
   ·as_aux_lemma =>
     refine mv E rfl fun a E=>lw E (qaR rfl rfl) fun a E=>pt E rfl rfl fun a E=>aw E rfl fun a E=>bd hF fun o80 hJ hF=>qaH (Q':=fun e a w=>e = .normal ∧ Ok u m0 (S) w ∧ Env 46 a [(23,vb o80)]) ?_ ?_
     rotate_left
     ·intro e a w hO
      obtain ⟨rfl,ok,E⟩:=hO
      refine qaa<|cf E rfl hF (fun c84 hF=>?_) fun c84 hF=>?_
      ·refine sg<|aw E rfl fun a E=>wp_ret<|qak<|qad ?_
       exact fin hF ⟨ok,E.d,rz E rfl,(ir 1)⟩
      refine wp_skip<|qac<|qaa<|sg<|aw E rfl fun a E=>wp_ret ?_
      exact fin hF ⟨ok,E.d,rz E rfl,(ir 0)⟩
     have hF:=hJ
     refine cf E rfl hF (fun c81 hF=>?_) fun c81 hF=>?_
     ·refine wp_skip ?_
      cases hF
      exact ⟨rfl,⟨ok,E.keep [23]⟩⟩
     refine qab<|mv E rfl fun a E=>lw E (qaq rfl rfl) fun a E=>mv E rfl fun a E=>bw E 38 hF (fun c82 hF E=>?_) fun c82 hF E=>?_
     ·refine lsz E fun a E=>lsq E fun a E=>pf E rfl rfl fun a E=>av E rfl fun a E=>wpList_nil ?_
      cases hF
      exact ⟨rfl,⟨ok,E.keep [23]⟩⟩
     refine mv E rfl fun a E=>lw E (qap rfl rfl) fun a E=>mv E rfl fun a E=>bu E 41 hF (fun c83 hF E=>?_) fun c83 hF E=>?_
     ·refine lsq E fun a E=>pt E rfl rfl fun a E=>pt E rfl rfl fun a E=>av E rfl fun a E=>wpList_nil ?_
      cases hF
      exact ⟨rfl,⟨ok,E.keep [23]⟩⟩
     refine mv E rfl fun a E=>lw E (qaK rfl rfl) fun a E=>pf E rfl rfl fun a E=>pt E rfl rfl fun a E=>av E rfl fun a E=>wpList_nil ?_
     cases hF
     exact ⟨rfl,⟨ok,E.keep [23]⟩⟩
   refine lsq E fun a E=>pf E rfl rfl fun a E=>aw E rfl fun a E=>c_if E rfl (fun h=>by cases h) (fun _=>?_)
   refine qab<|mv E rfl fun a E=>lw E (qaq rfl rfl) fun a E=>mv E rfl fun a E=>bw E 38 hF (fun c85 hF E=>?_) fun c85 hF E=>?_
   ·refine lsz E fun a E=>lsq E fun a E=>pf E rfl rfl fun a E=>av E rfl fun a E=>wn<|c_if E rfl (fun h=>by cases h) (fun _=>?_)
    refine wp_skip<|qac<|qaa<|sg<|aw E rfl fun a E=>wp_ret ?_
    exact fin hF ⟨ok,E.d,rz E rfl,(ir 0)⟩
   refine mv E rfl fun a E=>lw E (qap rfl rfl) fun a E=>mv E rfl fun a E=>bu E 41 hF (fun c86 hF E=>?_) fun c86 hF E=>?_
   ·refine lsq E fun a E=>pt E rfl rfl fun a E=>pt E rfl rfl fun a E=>aw E rfl fun a E=>c_if E rfl (fun _=>?_) (fun h=>by cases h)
    refine sg<|aw E rfl fun a E=>wp_ret<|qak<|qad ?_
    exact fin hF ⟨ok,E.d,rz E rfl,(ir 1)⟩
   refine mv E rfl fun a E=>lw E (qaK rfl rfl) fun a E=>pf E rfl rfl fun a E=>pt E rfl rfl fun a E=>aw E rfl fun a E=>cf E rfl hF (fun c87 hF=>?_) fun c87 hF=>?_
   ·refine sg<|aw E rfl fun a E=>wp_ret<|qak<|qad ?_
    exact fin hF ⟨ok,E.d,rz E rfl,(ir 1)⟩
   refine wp_skip<|qac<|qaa<|sg<|aw E rfl fun a E=>wp_ret ?_
   exact fin hF ⟨ok,E.d,rz E rfl,(ir 0)⟩
 refine mv E rfl fun a E=>lw E (qaR rfl rfl) fun a E=>pt E rfl rfl fun a E=>aw E rfl fun a E=>cf E rfl hF (fun c49 hF=>?_) fun c49 hF=>?_
 ·refine sg<|aw E rfl fun a E=>wp_ret<|qak<|qad ?_
  exact fin hF ⟨ok,E.d,rz E rfl,(ir 3)⟩
 refine wp_seq<|sg<|mv E rfl fun a E=>lw E (qaq rfl rfl) fun a E=>mv E rfl fun a E=>bu E 26 hF (fun c50 hF E=>?_) fun c50 hF E=>?_
 ·as_aux_lemma =>
   refine mv E rfl fun a E=>lw E (qaR rfl rfl) fun a E=>pt E rfl rfl fun a E=>aw E rfl fun a E=>bd hF fun o51 hJ hF=>qaH (Q':=fun e a w=>e = .normal ∧ Ok u m0 (S) w ∧ Env 46 a [(23,vb o51)]) ?_ ?_
   rotate_left
   ·intro e a w hO
    obtain ⟨rfl,ok,E⟩:=hO
    refine qaa<|cf E rfl hF (fun c59 hF=>?_) fun c59 hF=>?_
    ·refine sg<|aw E rfl fun a E=>wp_ret<|qak<|qad ?_
     exact fin hF ⟨ok,E.d,rz E rfl,(ir 1)⟩
    refine wp_skip<|qac<|qaa<|sg<|aw E rfl fun a E=>wp_ret ?_
    exact fin hF ⟨ok,E.d,rz E rfl,(ir 0)⟩
   have hF:=hJ
   refine cf E rfl hF (fun c52 hF=>?_) fun c52 hF=>?_
   ·refine wp_skip ?_
    cases hF
    exact ⟨rfl,⟨ok,E.keep [23]⟩⟩
   refine sg<|mv E rfl fun a E=>lw E (qaq rfl rfl) fun a E=>mv E rfl fun a E=>bw E 32 hF (fun c53 hF E=>?_) fun c53 hF E=>?_
   ·refine lsq E fun a E=>pf E rfl rfl fun a E=>aw E rfl fun a E=>c_if E rfl (fun h=>by cases h) (fun _=>?_)
    refine qab<|mv E rfl fun a E=>lw E (qaq rfl rfl) fun a E=>mv E rfl fun a E=>bw E 38 hF (fun c57 hF E=>?_) fun c57 hF E=>?_
    ·refine lsz E fun a E=>lsq E fun a E=>pf E rfl rfl fun a E=>av E rfl fun a E=>wpList_nil ?_
     cases hF
     exact ⟨rfl,⟨ok,E.keep [23]⟩⟩
    refine mv E rfl fun a E=>lw E (qap rfl rfl) fun a E=>mv E rfl fun a E=>bu E 41 hF (fun c58 hF E=>?_) fun c58 hF E=>?_
    ·refine lsq E fun a E=>pt E rfl rfl fun a E=>pt E rfl rfl fun a E=>av E rfl fun a E=>wpList_nil ?_
     cases hF
     exact ⟨rfl,⟨ok,E.keep [23]⟩⟩
    refine mv E rfl fun a E=>lw E (qaK rfl rfl) fun a E=>pf E rfl rfl fun a E=>pt E rfl rfl fun a E=>av E rfl fun a E=>wpList_nil ?_
    cases hF
    exact ⟨rfl,⟨ok,E.keep [23]⟩⟩
   refine mv E rfl fun a E=>lw E (qaR rfl rfl) fun a E=>pt E rfl rfl fun a E=>aw E rfl fun a E=>cf E rfl hF (fun c54 hF=>?_) fun c54 hF=>?_
   ·refine wp_skip ?_
    cases hF
    exact ⟨rfl,⟨ok,E.keep [23]⟩⟩
   refine qab<|mv E rfl fun a E=>lw E (qaq rfl rfl) fun a E=>mv E rfl fun a E=>bw E 38 hF (fun c55 hF E=>?_) fun c55 hF E=>?_
   ·refine lsz E fun a E=>lsq E fun a E=>pf E rfl rfl fun a E=>av E rfl fun a E=>wpList_nil ?_
    cases hF
    exact ⟨rfl,⟨ok,E.keep [23]⟩⟩
   refine mv E rfl fun a E=>lw E (qap rfl rfl) fun a E=>mv E rfl fun a E=>bu E 41 hF (fun c56 hF E=>?_) fun c56 hF E=>?_
   ·refine lsq E fun a E=>pt E rfl rfl fun a E=>pt E rfl rfl fun a E=>av E rfl fun a E=>wpList_nil ?_
    cases hF
    exact ⟨rfl,⟨ok,E.keep [23]⟩⟩
   refine mv E rfl fun a E=>lw E (qaK rfl rfl) fun a E=>pf E rfl rfl fun a E=>pt E rfl rfl fun a E=>av E rfl fun a E=>wpList_nil ?_
   cases hF
   exact ⟨rfl,⟨ok,E.keep [23]⟩⟩
 refine lsq E fun a E=>pf E rfl rfl fun a E=>aw E rfl fun a E=>c_if E rfl (fun h=>by cases h) (fun _=>?_)
 refine sg<|mv E rfl fun a E=>lw E (qaq rfl rfl) fun a E=>mv E rfl fun a E=>bu E 32 hF (fun c60 hF E=>?_) fun c60 hF E=>?_
 ·as_aux_lemma =>
   refine mv E rfl fun a E=>lw E (qaR rfl rfl) fun a E=>pt E rfl rfl fun a E=>aw E rfl fun a E=>bd hF fun o61 hJ hF=>qaH (Q':=fun e a w=>e = .normal ∧ Ok u m0 (S) w ∧ Env 46 a [(23,vb o61)]) ?_ ?_
   rotate_left
   ·intro e a w hO
    obtain ⟨rfl,ok,E⟩:=hO
    refine qaa<|cf E rfl hF (fun c65 hF=>?_) fun c65 hF=>?_
    ·refine sg<|aw E rfl fun a E=>wp_ret<|qak<|qad ?_
     exact fin hF ⟨ok,E.d,rz E rfl,(ir 1)⟩
    refine wp_skip<|qac<|qaa<|sg<|aw E rfl fun a E=>wp_ret ?_
    exact fin hF ⟨ok,E.d,rz E rfl,(ir 0)⟩
   have hF:=hJ
   refine cf E rfl hF (fun c62 hF=>?_) fun c62 hF=>?_
   ·refine wp_skip ?_
    cases hF
    exact ⟨rfl,⟨ok,E.keep [23]⟩⟩
   refine qab<|mv E rfl fun a E=>lw E (qaq rfl rfl) fun a E=>mv E rfl fun a E=>bw E 38 hF (fun c63 hF E=>?_) fun c63 hF E=>?_
   ·refine lsz E fun a E=>lsq E fun a E=>pf E rfl rfl fun a E=>av E rfl fun a E=>wpList_nil ?_
    cases hF
    exact ⟨rfl,⟨ok,E.keep [23]⟩⟩
   refine mv E rfl fun a E=>lw E (qap rfl rfl) fun a E=>mv E rfl fun a E=>bu E 41 hF (fun c64 hF E=>?_) fun c64 hF E=>?_
   ·refine lsq E fun a E=>pt E rfl rfl fun a E=>pt E rfl rfl fun a E=>av E rfl fun a E=>wpList_nil ?_
    cases hF
    exact ⟨rfl,⟨ok,E.keep [23]⟩⟩
   refine mv E rfl fun a E=>lw E (qaK rfl rfl) fun a E=>pf E rfl rfl fun a E=>pt E rfl rfl fun a E=>av E rfl fun a E=>wpList_nil ?_
   cases hF
   exact ⟨rfl,⟨ok,E.keep [23]⟩⟩
 refine lsq E fun a E=>pf E rfl rfl fun a E=>aw E rfl fun a E=>c_if E rfl (fun h=>by cases h) (fun _=>?_)
 refine qab<|mv E rfl fun a E=>lw E (qaq rfl rfl) fun a E=>mv E rfl fun a E=>bw E 38 hF (fun c66 hF E=>?_) fun c66 hF E=>?_
 ·refine lsz E fun a E=>lsq E fun a E=>pf E rfl rfl fun a E=>av E rfl fun a E=>wn<|c_if E rfl (fun h=>by cases h) (fun _=>?_)
  refine wp_skip<|qac<|qaa<|sg<|aw E rfl fun a E=>wp_ret ?_
  exact fin hF ⟨ok,E.d,rz E rfl,(ir 0)⟩
 refine mv E rfl fun a E=>lw E (qap rfl rfl) fun a E=>mv E rfl fun a E=>bu E 41 hF (fun c67 hF E=>?_) fun c67 hF E=>?_
 ·refine lsq E fun a E=>pt E rfl rfl fun a E=>pt E rfl rfl fun a E=>aw E rfl fun a E=>c_if E rfl (fun _=>?_) (fun h=>by cases h)
  refine sg<|aw E rfl fun a E=>wp_ret<|qak<|qad ?_
  exact fin hF ⟨ok,E.d,rz E rfl,(ir 1)⟩
 refine mv E rfl fun a E=>lw E (qaK rfl rfl) fun a E=>pf E rfl rfl fun a E=>pt E rfl rfl fun a E=>aw E rfl fun a E=>cf E rfl hF (fun c68 hF=>?_) fun c68 hF=>?_
 ·refine sg<|aw E rfl fun a E=>wp_ret<|qak<|qad ?_
  exact fin hF ⟨ok,E.d,rz E rfl,(ir 1)⟩
 refine wp_skip<|qac<|qaa<|sg<|aw E rfl fun a E=>wp_ret ?_
 exact fin hF ⟨ok,E.d,rz E rfl,(ir 0)⟩
def qkW (u:World) (m0:Mem) (S:Segs) (r:(List (Item))) (a:Act) (w:World):Prop :=
 ∃ m1 v0,m0.le m1 ∧ Ok u m1 S w ∧ a.defers = [] ∧ RVs Tryz.prog a w [.t 6 v0] ∧ (pL 3 qfx) m1 [v0] r
theorem qg9 (N:Nat) (vt_0:List Value) (t_0:Text) (ht_0:qnt m0 vt_0 t_0) (from_1:Int) (rfrom_1:InR .i64 from_1) (to_2:Int) (rto_2:InR .i64 to_2) {r:(List (Item))} (hF:qdC N t_0 from_1 to_2 = some r) (hG:Glob u) (ok:Ok u m0 S w) :
  Calls Tryz.prog 54 [.agg vt_0.toArray,vi from_1,vi to_2].toArray w fun e w'=>∃ m1 v0,e = .returned v0 ∧ m0.le m1 ∧ Ok u m1 S w' ∧ (pL 3 qfx) m1 [v0] r:=by
 obtain ⟨c1,c3,rfl,h2,h4,r5⟩:=ht_0
 have le_m0:=Mem.le.refl m0
 unfold qdC at hF
 refine en (qkW u m0 S) r Tryz.func54 rfl rfl rfl (fun _ _ h=>rc h fun _=>rfl) fun fin a E=>sg<|qbF E ok rfl rfl rfl fun b6 a w E ok=>aw E rfl fun a E=>sg<|aw E rfl fun a E=>wp_seq<|sg<|mv E rfl fun a E=>aw E rfl fun a E=>wp_block ?_
 obtain ⟨M12,ok,h13⟩:=qcY (e:=118) (k:=3) (R:=qfx) ok
 refine bd hF fun o14 hL hF=>qa7 _ (fun (s:(List (Item)) × Int) a w=>∃ c15 M16,Ok u m0 (M16 :: [(b6,oc 98 [c1,c3,vi t_0.depth])] :: S) w ∧ Env 49 a [(2,vi to_2),(3,vp b6),(7,c15),(8,vi s.2)] ∧ ORow 118 3 qfx m0 c15 s.1 M16 ∧ InR .i64 s.2) (fun (b:((List (Item)))) e a w=>e = (.exit 0) ∧ ∃ c91 M92,Ok u m0 (M92 :: [(b6,oc 98 [c1,c3,vi t_0.depth])] :: S) w ∧ Env 49 a [(7,c91)] ∧ ORow 118 3 qfx m0 c91 b M92) ?_ ?_ N _ a w hL ⟨(Value.slice none 0 0),M12,ok,E.keep [2,3,7,8],h13,rfrom_1⟩
 rotate_left
 ·intro e a w _ hO
  obtain ⟨rfl,c86,M87,ok,E,h88⟩:=hO
  refine qa0<|qaa<|sg<|mv E rfl fun a E=>aw E rfl fun a E=>wp_ret ?_
  obtain ⟨m89,hle,ok,hfz⟩:=(ok.frs 0 rfl).freeze
  have h90:=ORow.froz qh9 h88 hle hfz (by decide)
  have le_m0:=le_m0.trans hle
  have h2:=(mL (mI .i64)).up hle h2
  have h4:=(mL (mI .i64)).up hle h4
  exact fin hF ⟨m89,c86,le_m0,ok.drop,E.d,rz E rfl,h90⟩
 rintro ⟨v19,v20⟩ a w r ⟨c21,M22,ok,E,h23,r24⟩ hF
 replace hF:qcQ N t_0 to_2 v19 v20 = some r:=hF
 unfold qcQ at hF
 refine wp_seq<|sg<|mz E rfl rfl fun a E=>lw E (qap rfl rfl) fun a E=>wn<|cg E rfl hF (fun c25 hF=>?_) fun c25 hF=>?_
 ·refine wp_exit<|qaM ?_
  cases hF
  exact so (⟨rfl,⟨c21,M22,ok,E.keep [7],h23⟩⟩)
 refine wp_skip<|qaa<|wp_seq<|wp_block<|wp_seq<|sg<|fv E qfY rfl fun a E=>ld E ok qcR 1 rfl rfl rfl fun a E=>mv E rfl fun a E=>?_
 obtain ⟨x26,e27,hF⟩:=bnd hF
 obtain ⟨b28,o29,es30,hl31,rr32,at33,yy34⟩:=ia E 16 17 qat h4 e27
 obtain ⟨rfl,r35⟩:=rr32
 refine lv E ok (yy34 _ _) fun a E=>lv E ok (qal qam rfl (Holds.ro at33)) fun a E=>lw E (qap rfl rfl) fun a E=>wn<|cf E rfl hF (fun c36 hF=>?_) fun c36 hF=>?_
 ·refine sg<|mz E rfl rfl fun a E=>mv E rfl fun a E=>fk E ok qfU qcR rfl 1 rfl rfl fun a E=>mv E rfl fun a E=>?_
  obtain ⟨x37,e38,hF⟩:=bnd hF
  obtain ⟨b39,o40,es41,hl42,rr43,at44,yy45⟩:=ia E 25 26 qat h2 e38
  obtain ⟨rfl,r46⟩:=rr43
  refine lv E ok (yy45 _ _) fun a E=>lv E ok (qal qam rfl (Holds.ro at44)) fun a E=>bd hF fun r47 e48 hF=>qaf E qtr rfl (qoo N x37 r46 e48 hG ok) rfl rfl ?_
  rintro _ w ⟨⟨rfl,ok⟩,r49⟩
  refine ⟨_,rfl,fun a E=>?_⟩
  refine lw E (qaL (ps:=[(0,.tmp 22),(1,.tmp 23),(2,.tmp 29)]) (qs:=[(0,[vi v20]),(1,[vi v20]),(2,[vi r47])]) (cs:=[vi v20,vi v20,vi r47]) qeQ qlN rfl ⟨rfl,rfl,rfl,⟨rfl,rfl,rfl,⟨rfl,rfl,rfl,trivial⟩⟩⟩ rfl) fun a E=>qa6 (R:=qfx) (xo:=[.tmp 30]) (xs:=([(Item.mk v20 v20 r47)]:List (Item))) E ok qep qeQ rfl ⟨⟨_,rfl,rfl,⟨rfl,r24,r24,r49⟩⟩,trivial⟩ rfl rfl rfl rfl fun c50 M51 a w E ok h52=>bd hF fun l53 e54 hF=>qb0 (R:=qfx) E ok 1 qh9 qep Tryz.underlying114 rfl h23 (qbf.ofRow h52 0 rfl ok) e54 ⟨_,qeQ,rfl⟩ rfl rfl rfl rfl fun c55 M56 a w E ok h57=>aw E rfl fun a E=>wp_exit<|qaM<|qa0<|qaa<|qab<|mv E rfl fun a E=>lw E (qaE rfl rfl (InR.inc r24 rto_2 c25)) fun a E=>av E rfl fun a E=>wpList_nil ?_
  cases hF
  exact qao ⟨c55,M56,(ok.pk 3 [1,2] rfl (by decide)),E.keep [2,3,7,8],h57,(InR.inc r24 rto_2 c25)⟩
 refine wp_skip<|qaa<|sg<|mz E rfl rfl fun a E=>fk E ok qfY qcR rfl 1 rfl rfl fun a E=>mv E rfl fun a E=>?_
 obtain ⟨x58,e59,hF⟩:=bnd hF
 obtain ⟨b60,o61,es62,hl63,rr64,at65,yy66⟩:=ia E 36 37 qat h4 e59
 obtain ⟨rfl,r67⟩:=rr64
 refine lv E ok (yy66 _ _) fun a E=>lv E ok (qal qam rfl (Holds.ro at65)) fun a E=>lw E (qaL (ps:=[(0,.tmp 34),(1,.tmp 39),(2,.const (vi 0))]) (qs:=[(0,[vi v20]),(1,[vi x58]),(2,[vi 0])]) (cs:=[vi v20,vi x58,vi 0]) qeQ qlN rfl ⟨rfl,rfl,rfl,⟨rfl,rfl,rfl,⟨rfl,rfl,rfl,trivial⟩⟩⟩ rfl) fun a E=>qa6 (R:=qfx) (xo:=[.tmp 40]) (xs:=([(Item.mk v20 x58 0)]:List (Item))) E ok qep qeQ rfl ⟨⟨_,rfl,rfl,⟨rfl,r24,r67,(ir 0)⟩⟩,trivial⟩ rfl rfl rfl rfl fun c68 M69 a w E ok h70=>bd hF fun l71 e72 hF=>qb0 (R:=qfx) E ok 1 qh9 qep Tryz.underlying114 rfl h23 (qbf.ofRow h70 0 rfl ok) e72 ⟨_,qeQ,rfl⟩ rfl rfl rfl rfl fun c73 M74 a w E ok h75=>aw E rfl fun a E=>qab<|fk E ok qfY qcR rfl 2 rfl rfl fun a E=>mv E rfl fun a E=>?_
 obtain ⟨x76,e77,hF⟩:=bnd hF
 obtain ⟨b78,o79,es80,hl81,rr82,at83,yy84⟩:=ia E 44 45 qat h4 e77
 obtain ⟨rfl,r85⟩:=rr82
 refine lv E ok (yy84 _ _) fun a E=>lv E ok (qal qam rfl (Holds.ro at83)) fun a E=>av E rfl fun a E=>wpList_nil<|qac<|qaa<|qab<|mv E rfl fun a E=>lw E (qaF rfl rfl) fun a E=>av E rfl fun a E=>wpList_nil ?_
 cases hF
 exact qao ⟨c73,M74,(ok.pk 3 [1,2] rfl (by decide)),E.keep [2,3,7,8],h75,(InR.wrap _ _)⟩
end Go.Proofs.YthhieiabfpkaaaaGreatDoor
namespace Go.Proofs.YthhieiabfpkaaaaGreatDoor
open Go.X
def qfD (_N:Nat) (e_0:Int):Option Int :=
 (rm e_0 2).bind fun q1 =>
 bif (q1 == 0) then
  some 1
 else
  some 2
def qdT (_N:Nat) (direction_0:Int) (e_1:Int):Option Int :=
 (rm e_1 2).bind fun q1 =>
 bif ((q1 == 0) == (direction_0 == 1)) then
  some e_1
 else
  some (IntKind.wrap .i64 (e_1 + 1))
def qbP (N:Nat) (l_0:List (Item)) (e_1:Int) (last_58:Int) (x_59:Int) (levels_60:List (Int)) (directions_61:List (Int)):Option ((Int × Int × (List (Int)) × (List (Int))) ⊕ (((List (Int)) × (List (Int))))) :=
 bif (decide (x_59 < (l_0.length:Int))) then
  (idx l_0 x_59).bind fun x71 =>
  (show Option Bool from
   bif (x71.class_ == 1) then
    some (x71.class_ == 1)
   else
    some (x71.class_ == 2)).bind fun o84 =>
  bif o84 then
   (qdT N x71.class_ e_1).bind fun r87 =>
   (idx levels_60 x_59).bind fun _x90 =>
   (setI levels_60 x_59 r87).bind fun l96 =>
   (idx directions_61 x_59).bind fun _x100 =>
   (setI directions_61 x_59 x71.class_).bind fun l106 =>
   some (.inl (x71.class_,(x_59 + 1),l96,l106))
  else
   bif (x71.class_ == 3) then
    (qdT N 1 e_1).bind fun r111 =>
    (idx levels_60 x_59).bind fun _x114 =>
    (setI levels_60 x_59 r111).bind fun l120 =>
    (idx directions_61 x_59).bind fun _x124 =>
    (setI directions_61 x_59 1).bind fun l130 =>
    bif (last_58 == 2) then
     (rm e_1 2).bind fun q135 =>
     (idx l120 x_59).bind fun _x137 =>
     (setI l120 x_59 (IntKind.wrap .i64 ((IntKind.wrap .i64 (e_1 + 2)) - q135))).bind fun l143 =>
     (idx l130 x_59).bind fun _x147 =>
     (setI l130 x_59 2).bind fun l153 =>
     some (.inl (last_58,(x_59 + 1),l143,l153))
    else
     some (.inl (last_58,(x_59 + 1),l120,l130))
   else
    some (.inl (last_58,(x_59 + 1),levels_60,directions_61))
 else
  some (.inr (levels_60,directions_61))
def qcC (_N:Nat) (l_0:List (Item)) (o49:((List (Int)) × (List (Int)))) (k_195:Int):Option (Int ⊕ Int) :=
 bif (decide (k_195 < (l_0.length:Int))) then
  (idx o49.2 k_195).bind fun x198 =>
  bif (x198 == 0) then
   some (.inl (k_195 + 1))
  else
   some (.inr k_195)
 else
  some (.inr k_195)
def qc3 (_N:Nat) (o193:Int) (o247:Int) (i_264:Int) (levels_265:List (Int)):Option ((Int × (List (Int))) ⊕ (((List (Int)) × Int))) :=
 bif (decide (i_264 < o193)) then
  (idx levels_265 i_264).bind fun _x271 =>
  (setI levels_265 i_264 o247).bind fun l277 =>
  some (.inl ((i_264 + 1),l277))
 else
  some (.inr (levels_265,i_264))
def qcz (N:Nat) (l_0:List (Item)) (e_1:Int) (o49:((List (Int)) × (List (Int)))) (i_173:Int) (levels_174:List (Int)):Option ((Int × (List (Int))) ⊕ (((List (Int))))) :=
 bif (decide (i_173 < (l_0.length:Int))) then
  (idx o49.2 i_173).bind fun x180 =>
  bif (x180 != 0) then
   some (.inl ((i_173 + 1),levels_174))
  else
   (iter (fun s=>qcC N l_0 o49 s) N i_173).bind fun o193 =>
   (qfD N e_1).bind fun r211 =>
   (qfD N e_1).bind fun r214 =>
   (show Option Int from
    bif (decide (i_173 > 0)) then
     (idx o49.2 (i_173 - 1)).bind fun x220 =>
     some x220
    else
     some r211).bind fun o217 =>
   (show Option Int from
    bif (decide (o193 < (l_0.length:Int))) then
     (idx o49.2 o193).bind fun x235 =>
     some x235
    else
     some r214).bind fun o232 =>
   (show Option Int from
    bif (o217 == o232) then
     (qdT N o217 e_1).bind fun r250 =>
     some r250
    else
     some e_1).bind fun o247 =>
   (iter (fun s=>qc3 N o193 o247 s.1 s.2) N (i_173,levels_174)).bind fun o259 =>
   some (.inl (o259.2,o259.1))
 else
  some (.inr levels_174)
def qc0 (N:Nat) (l_0:List (Item)) (e_1:Int):Option (List (Int)) :=
 (show Option ((List (Int)) × (List (Int))) from
  (mk (l_0.length:Int) (0:Int)).bind fun l8 =>
  (mk (l_0.length:Int) (0:Int)).bind fun l13 =>
  some (l8,l13)).bind fun o1 =>
 (qfD N e_1).bind fun r36 =>
 (iter (fun s=>qbP N l_0 e_1 s.1 s.2.1 s.2.2.1 s.2.2.2) N (r36,0,o1.1,o1.2)).bind fun o49 =>
 (iter (fun s=>qcz N l_0 e_1 o49 s.1 s.2) N (0,o49.1)).bind fun o168 =>
 some o168
def qdc (_N:Nat) (l_0:List (Item)) (x_4:Int):Option (Int ⊕ ((Unit ⊕ Int))) :=
 bif (decide (x_4 < (l_0.length:Int))) then
  (idx l_0 x_4).bind fun x7 =>
  bif (x7.class_ == 1) then
   some (.inr (.inr x7.class_))
  else
   bif (x7.class_ == 2) then
    some (.inr (.inr x7.class_))
   else
    some (.inl (x_4 + 1))
 else
  some (.inr (.inl ()))
def qeC (N:Nat) (l_0:List (Item)):Option Int :=
 (iter (fun s=>qdc N l_0 s) N 0).bind fun o2 =>
 Sum.elim (fun _o2 =>
  some 0)
 (fun o2 =>
  some o2) o2
def qca (r_bidi_text_levels_1:Int → Int → Int → Text → List (Int) → Option (List (Int))) (N:Nat) (e_2:Int) (x0:Text) (r12:(List (Item))) (r17:(List (Int))) (x_33:Int) (x_34:List (Int)):Option ((Int × (List (Int))) ⊕ (((List (Int))))) :=
 bif (decide (x_33 < (r17.length:Int))) then
  (idx r17 x_33).bind fun x41 =>
  (idx r12 x_33).bind fun x51 =>
  (idx x_34 x51.from_).bind fun _x64 =>
  (setI x_34 x51.from_ x41).bind fun l70 =>
  bif (x51.to_ == x51.from_) then
   some (.inl ((x_33 + 1),l70))
  else
   (show Option ((List (Int))) from
    bif (decide (x51.to_ < (x0.l.length:Int))) then
     (idx l70 x51.to_).bind fun _x80 =>
     (setI l70 x51.to_ x41).bind fun l86 =>
     some l86
    else
     some l70).bind fun o75 =>
   (rm e_2 2).bind fun q93 =>
   (idx x0.l x51.from_).bind fun x95 =>
   bif (x95 == 8295) then
    (rm e_2 2).bind fun q106 =>
    (r_bidi_text_levels_1 (IntKind.wrap .i64 (x51.from_ + 1)) (min x51.to_ (x0.l.length:Int)) (IntKind.wrap .i64 ((IntKind.wrap .i64 (e_2 + 1)) + q106)) x0 o75).bind fun r108 =>
    some (.inl ((x_33 + 1),r108))
   else
    bif (x95 == 8296) then
     (qdC N x0 (IntKind.wrap .i64 (x51.from_ + 1)) (min x51.to_ (x0.l.length:Int))).bind fun r114 =>
     (qeC N r114).bind fun r119 =>
     (show Option Int from
      bif (r119 == 2) then
       (rm e_2 2).bind fun q125 =>
       some (IntKind.wrap .i64 ((IntKind.wrap .i64 (e_2 + 1)) + q125))
      else
       some (IntKind.wrap .i64 ((IntKind.wrap .i64 (e_2 + 2)) - q93))).bind fun o122 =>
     (r_bidi_text_levels_1 (IntKind.wrap .i64 (x51.from_ + 1)) (min x51.to_ (x0.l.length:Int)) o122 x0 o75).bind fun r128 =>
     some (.inl ((x_33 + 1),r128))
    else
     (r_bidi_text_levels_1 (IntKind.wrap .i64 (x51.from_ + 1)) (min x51.to_ (x0.l.length:Int)) (IntKind.wrap .i64 ((IntKind.wrap .i64 (e_2 + 2)) - q93)) x0 o75).bind fun r133 =>
     some (.inl ((x_33 + 1),r133))
 else
  some (.inr x_34)
def qcr (r_bidi_text_levels_1:Int → Int → Int → Text → List (Int) → Option (List (Int))) (N:Nat) (from_0:Int) (to_1:Int) (e_2:Int) (x0:Text) (x1:List (Int)):Option (List (Int)) :=
 (qdC N x0 from_0 to_1).bind fun r12 =>
 (qc0 N r12 e_2).bind fun r17 =>
 (iter (fun s=>qca r_bidi_text_levels_1 N e_2 x0 r12 r17 s.1 s.2) N (0,x1)).bind fun o27 =>
 some o27
def qb2:Nat → (Int → Int → Int → Text → List (Int) → Option (List (Int)))
 | 0=>(fun _ _ _ _ _=>none)
 | N + 1=>(qcr (qb2 N) N)
def qcZ (N:Nat):Int → Int → Int → Text → List (Int) → Option (List (Int)):=(qb2 N)
def qeT (N:Nat) (t_0:Text) (rtl_1:Bool):Option (List (Int)) :=
 (mk (t_0.l.length:Int) (0:Int)).bind fun l7 =>
 (show Option Int from
  bif rtl_1 then
   some 1
  else
   some 0).bind fun o14 =>
 (qcZ N 0 (t_0.l.length:Int) o14 t_0 l7).bind fun r18 =>
 some r18
def qfv (N:Nat) (s_0:List UInt8) (rtl_1:Bool):Option ((List (Int)) × Int) :=
 (qgH N s_0).bind fun r1 =>
 bif (decide (r1.depth > 30)) then
  some ([],6)
 else
  (qeT N r1 rtl_1).bind fun r13 =>
  some (r13,0)
def qee (_N:Nat) (levels_0:List (Int)) (greatest_16:Int) (out_17:List (Int)) (x_18:Int):Option ((Int × (List (Int)) × Int) ⊕ (((Int × (List (Int))) ⊕ ((List (Int)))))) :=
 bif (decide (x_18 < (levels_0.length:Int))) then
  (idx levels_0 x_18).bind fun x25 =>
  bif (decide (x25 < 0)) then
   some (.inr (.inr ([])))
  else
   bif (decide (x25 > 100)) then
    some (.inr (.inr ([])))
   else
    (app out_17 ([x_18]:List (Int))).bind fun l40 =>
    some (.inl ((max greatest_16 x25),l40,(x_18 + 1)))
 else
  some (.inr (.inl (greatest_16,out_17)))
def qdK (_N:Nat) (levels_0:List (Int)) (e_59:Int) (out_77:List (Int)) (k_108:Int):Option (Int ⊕ Int) :=
 bif (decide (k_108 < (out_77.length:Int))) then
  (idx out_77 k_108).bind fun x111 =>
  (idx levels_0 x111).bind fun x122 =>
  bif (decide (x122 ≥ e_59)) then
   some (.inl (k_108 + 1))
  else
   some (.inr k_108)
 else
  some (.inr k_108)
def qdI (N:Nat) (levels_0:List (Int)) (e_59:Int) (i_76:Int) (out_77:List (Int)):Option ((Int × (List (Int))) ⊕ (((List (Int))))) :=
 bif (decide (i_76 < (out_77.length:Int))) then
  (idx out_77 i_76).bind fun x83 =>
  (idx levels_0 x83).bind fun x94 =>
  bif (decide (x94 < e_59)) then
   some (.inl ((i_76 + 1),out_77))
  else
   (iter (fun s=>qdK N levels_0 e_59 out_77 s) N i_76).bind fun o106 =>
   (revp out_77 i_76 o106).bind fun l134 =>
   some (.inl (o106,l134))
 else
  some (.inr out_77)
def qeg (N:Nat) (levels_0:List (Int)) (e_59:Int) (out_60:List (Int)):Option ((Int × (List (Int))) ⊕ (((List (Int))))) :=
 bif (decide (e_59 ≥ 1)) then
  (iter (fun s=>qdI N levels_0 e_59 s.1 s.2) N (0,out_60)).bind fun o71 =>
  some (.inl ((IntKind.wrap .i64 (e_59 - 1)),o71))
 else
  some (.inr out_60)
def qgd (N:Nat) (levels_0:List (Int)):Option (List (Int)) :=
 (iter (fun s=>qee N levels_0 s.1 s.2.1 s.2.2) N (0,[],0)).bind fun o10 =>
 Sum.elim (fun o10 =>
  (iter (fun s=>qeg N levels_0 s.1 s.2) N (o10.1,o10.2)).bind fun o54 =>
  some o54)
 (fun o10 =>
  some o10) o10
end Go.Proofs.YthhieiabfpkaaaaGreatDoor
namespace Go.Proofs.YthhieiabfpkaaaaGreatDoor
open Go.X
variable {u:World} {m0:Mem} {S:Segs} {w:World}
set_option maxHeartbeats 4000000
set_option maxRecDepth 100000
def qpp (u:World) (m0:Mem) (S:Segs) (r:Int) (a:Act) (w:World):Prop :=
 Ok u m0 S w ∧ a.defers = [] ∧ RVs Tryz.prog a w [.t 2 (.int .i64 r)] ∧ InR .i64 r
theorem qi8 (N:Nat) (e_0:Int) (re_0:InR .i64 e_0) {r:Int} (hF:qfD N e_0 = some r) (hG:Glob u) (ok:Ok u m0 S w) :
  Calls Tryz.prog 78 [vi e_0].toArray w fun e w'=>(e = .returned (.int .i64 r) ∧ Ok u m0 S w') ∧ InR .i64 r:=by
 unfold qfD at hF
 refine en (qpp u m0 S) r Tryz.func78 rfl rfl rfl (fun _ _ h=>rb h rfl) fun fin a E=>sg<|aw E rfl fun a E=>wp_seq<|sg<|mv E rfl fun a E=>bd hF fun q1 e2 hF=>lw E (y_rm rfl rfl e2) fun a E=>lw E (qah rfl rfl) fun a E=>wn<|cf E rfl hF (fun c3 hF=>?_) fun c3 hF=>?_
 ·refine sg<|aw E rfl fun a E=>wp_ret<|qad ?_
  exact fin hF ⟨ok,E.d,rz E rfl,(ir 1)⟩
 refine wp_skip<|qaa<|sg<|aw E rfl fun a E=>wp_ret ?_
 exact fin hF ⟨ok,E.d,rz E rfl,(ir 2)⟩
def qnj (u:World) (m0:Mem) (S:Segs) (r:Int) (a:Act) (w:World):Prop :=
 Ok u m0 S w ∧ a.defers = [] ∧ RVs Tryz.prog a w [.t 4 (.int .i64 r)] ∧ InR .i64 r
theorem qgU (N:Nat) (direction_0:Int) (rdirection_0:InR .i64 direction_0) (e_1:Int) (re_1:InR .i64 e_1) {r:Int} (hF:qdT N direction_0 e_1 = some r) (hG:Glob u) (ok:Ok u m0 S w) :
  Calls Tryz.prog 79 [vi direction_0,vi e_1].toArray w fun e w'=>(e = .returned (.int .i64 r) ∧ Ok u m0 S w') ∧ InR .i64 r:=by
 unfold qdT at hF
 refine en (qnj u m0 S) r Tryz.func79 rfl rfl rfl (fun _ _ h=>rb h rfl) fun fin a E=>sg<|aw E rfl fun a E=>wp_seq<|sg<|mv E rfl fun a E=>bd hF fun q1 e2 hF=>lw E (y_rm rfl rfl e2) fun a E=>lw E (qah rfl rfl) fun a E=>mv E rfl fun a E=>lw E (qah rfl rfl) fun a E=>lv E ok (qsY Tryz.underlying4 rfl rfl) fun a E=>wn<|cf E rfl hF (fun c3 hF=>?_) fun c3 hF=>?_
 ·refine sg<|mv E rfl fun a E=>aw E rfl fun a E=>wp_ret<|qad ?_
  exact fin hF ⟨ok,E.d,rz E rfl,re_1⟩
 refine wp_skip<|qaa<|sg<|mv E rfl fun a E=>lw E (qaF rfl rfl) fun a E=>av E rfl fun a E=>wn<|wp_ret ?_
 exact fin hF ⟨ok,E.d,rz E rfl,(InR.wrap _ _)⟩
def qmw (u:World) (m0:Mem) (S:Segs) (r:(List (Int))) (a:Act) (w:World):Prop :=
 ∃ m1 v0,m0.le m1 ∧ Ok u m1 S w ∧ a.defers = [] ∧ RVs Tryz.prog a w [.t 4 v0] ∧ (pL 1 (pI .i64)) m1 [v0] r
theorem qmF (N:Nat) (vl_0:Value) (l_0:List (Item)) (hl_0:(pL 3 qfx) m0 [vl_0] l_0) (e_1:Int) (re_1:InR .i64 e_1) {r:(List (Int))} (hF:qc0 N l_0 e_1 = some r) (hG:Glob u) (ok:Ok u m0 S w) :
  Calls Tryz.prog 55 [vl_0,vi e_1].toArray w fun e w'=>∃ m1 v0,e = .returned v0 ∧ m0.le m1 ∧ Ok u m1 S w' ∧ (pL 1 (pI .i64)) m1 [v0] r:=by
 have le_m0:=Mem.le.refl m0
 unfold qc0 at hF
 refine en (qmw u m0 S) r Tryz.func55 rfl rfl rfl (fun _ _ h=>rc h fun _=>rfl) fun fin a E=>sg<|aw E rfl fun a E=>wp_seq<|bd hF fun o1 hJ hF=>qaH (Q':=fun e a w=>e = .normal ∧ ∃ c2 M3 c5 M6,Ok u m0 (M6 :: M3 :: S) w ∧ Env 132 a [(0,vl_0),(1,vi e_1),(5,c2),(6,c5)] ∧ ORow 3 1 (pI .i64) m0 c2 o1.1 M3 ∧ ORow 3 1 (pI .i64) m0 c5 o1.2 M6) ?_ ?_
 ·have hF:=hJ
  obtain ⟨l8,e9,hF⟩:=bnd hF
  obtain ⟨l13,e14,hF⟩:=bnd hF
  obtain rfl:=sj hF
  refine qco [] (Cls u m0 ([])) (Cls u m0 ([])) (by kernel_rfl) ?_
  intro w hw
  replace ok:=qc8 ok hw
  clear hw
  refine qas (cl1 (cq le_m0 ok [] rfl) (cq le_m0 ok [] rfl)) fun hT=>kt 0 E rfl hT (qai rfl) fun a E=>kt 1 E rfl hT (qaP qep hl_0 rfl) fun a E=>kt 3 E rfl hT (qai rfl) fun a E=>kt 4 E rfl hT (qaP qep hl_0 rfl) fun a E=>qaS [2,5] (by kernel_rfl) rfl (qd7 ?_ (qd7 ?_ (qhd)))
  ·refine wo rfl<|qcS (R:=(pI .i64)) E ok qat qbn rfl (qaX (ir 0)) rfl e9 rfl rfl fun c18 M19 a w E ok h20=>wn<|qas (cl1 (cq le_m0 ok [] rfl) (cq le_m0 ok [] rfl)) fun hT=>kt 6 E rfl hT (qaG rfl) fun a E=>qaS [5] (by kernel_rfl) rfl (qaZ ?_)
   ·refine wo rfl<|qcS (R:=(pI .i64)) E ok qat qbn rfl (qaX (ir 0)) rfl e14 rfl rfl fun c21 M22 a w E ok h23=>wn<|qas (cl1 (cq le_m0 ok [] rfl) (cq le_m0 ok [] rfl)) fun hT=>kt 7 E rfl hT (qaG rfl) fun a E=>qbJ (by kernel_rfl) ?_
    exact ⟨rfl,⟨c18,M19,c21,M22,ok,E.keep [0,1,5,6],h20,h23⟩⟩
  refine wo rfl<|qcS (R:=(pI .i64)) E ok qat qbn rfl (qaX (ir 0)) rfl e14 rfl rfl fun c24 M25 a w E ok h26=>wn<|qas (cl1 (cq le_m0 ok [] rfl) (cq le_m0 ok [] rfl)) fun hT=>qaS [2] (by kernel_rfl) rfl (qaZ ?_)
  ·refine wo rfl<|qcS (R:=(pI .i64)) E ok qat qbn rfl (qaX (ir 0)) rfl e9 rfl rfl fun c27 M28 a w E ok h29=>wn<|qas (cl1 (cq le_m0 ok [] rfl) (cq le_m0 ok [] rfl)) fun hT=>kt 6 E rfl hT (qaG rfl) fun a E=>kt 7 E rfl hT (qaG rfl) fun a E=>qbJ (by kernel_rfl) ?_
   exact ⟨rfl,⟨c27,M28,c24,M25,(ok.pk 2 [1,0] rfl (by decide)),E.keep [0,1,5,6],h29,h26⟩⟩
 intro e a w hO
 obtain ⟨rfl,c30,M31,c33,M34,ok,E,h32,h35⟩:=hO
 refine qaa<|sg<|mv E rfl fun a E=>bd hF fun r36 e37 hF=>qaf E qpn rfl (qi8 N e_1 re_1 e37 hG ok) rfl rfl ?_
 rintro _ w ⟨⟨rfl,ok⟩,r38⟩
 refine ⟨_,rfl,fun a E=>?_⟩
 refine aw E rfl fun a E=>wp_seq<|sg<|mv E rfl fun a E=>lv E ok (qaP qep hl_0 rfl) fun a E=>mv E rfl fun a E=>wn<|wp_block<|bd hF fun o49 hL hF=>qa7 _ (fun (s:Int × Int × (List (Int)) × (List (Int))) a w=>∃ c52 M53 c55 M56,Ok u m0 (M56 :: M53 :: S) w ∧ Env 132 a [(0,vl_0),(1,vi e_1),(5,c52),(6,c55),(7,vi s.1),(23,vl_0),(24,(vi (l_0.length:Int))),(25,vi s.2.1)] ∧ InR .i64 s.1 ∧ InR .i64 s.2.1 ∧ ORow 3 1 (pI .i64) m0 c52 s.2.2.1 M53 ∧ ORow 3 1 (pI .i64) m0 c55 s.2.2.2 M56) (fun (b:((List (Int)) × (List (Int)))) e a w=>e = (.exit 0) ∧ ∃ c298 M299 c301 M302,Ok u m0 (M302 :: M299 :: S) w ∧ Env 132 a [(0,vl_0),(1,vi e_1),(5,c298),(6,c301)] ∧ ORow 3 1 (pI .i64) m0 c298 b.1 M299 ∧ ORow 3 1 (pI .i64) m0 c301 b.2 M302) ?_ ?_ N _ a w hL ⟨c30,M31,c33,M34,ok,E.keep [0,1,5,6,7,23,24,25],r38,(ir 0),h32,h35⟩
 ·as_aux_lemma =>
   rintro ⟨v58,v59,v60,v61⟩ a w r ⟨c64,M65,c67,M68,ok,E,r62,r63,h66,h69⟩ hF
   replace hF:qbP N l_0 e_1 v58 v59 v60 v61 = some r:=hF
   unfold qbP at hF
   refine sg<|lw E (qap rfl rfl) fun a E=>wn<|wp_seq<|cg E rfl hF (fun c70 hF=>?_) fun c70 hF=>?_
   ·refine wp_exit<|qaM ?_
    cases hF
    exact so (⟨rfl,⟨c64,M65,c67,M68,ok,E.keep [0,1,5,6],h66,h69⟩⟩)
   refine wp_skip<|qaa<|wp_seq<|wp_block<|sg<|mv E rfl fun a E=>?_
   obtain ⟨x71,e72,hF⟩:=bnd hF
   obtain ⟨b73,o74,es75,hl76,rr77,at78,yy79⟩:=ia E 23 25 qep hl_0 e72
   obtain ⟨rfl,r80,r81,r82⟩:=rr77
   refine lv E ok (yy79 _ _) fun a E=>lv E ok (qan (cs:=[vi x71.from_,vi x71.to_,vi x71.class_]) qmL rfl rfl (Holds.ro at78)) fun a E=>qa4 E ok qeQ rfl rfl fun b83 a w E ok=>av E rfl fun a E=>qax E ok 0 rfl rfl rfl qmr rfl rfl ⟨rfl,rfl,rfl,trivial⟩ rfl rfl fun w ok=>wn<|sg<|fk E ok qgu qam rfl 0 rfl rfl fun a E=>wn<|wp_block<|wp_seq<|sg<|lw E (qah rfl rfl) fun a E=>aw E rfl fun a E=>bd hF fun o84 hJ hF=>qaH (Q':=fun e a w=>e = .normal ∧ Ok u m0 ([(b83,oc 118 [vi x71.from_,vi x71.to_,vi x71.class_])] :: M68 :: M65 :: S) w ∧ Env 132 a [(0,vl_0),(1,vi e_1),(5,c64),(6,c67),(7,vi v58),(8,vi v59),(9,vp b83),(23,vl_0),(24,(vi (l_0.length:Int))),(25,vi v59),(31,vi x71.class_),(32,vb o84)]) ?_ ?_
   ·have hF:=hJ
    refine cf E rfl hF (fun c85 hF=>?_) fun c85 hF=>?_
    ·refine wp_skip ?_
     cases hF
     exact ⟨rfl,⟨ok,E.keep [0,1,5,6,7,8,9,23,24,25,31,32]⟩⟩
    refine qab<|lw E (qah rfl rfl) fun a E=>av E rfl fun a E=>wpList_nil ?_
    cases hF
    exact ⟨rfl,⟨ok,E.keep [0,1,5,6,7,8,9,23,24,25,31,32]⟩⟩
   intro e a w hO
   obtain ⟨rfl,ok,E⟩:=hO
   refine qaa<|cf E rfl hF (fun c86 hF=>?_) fun c86 hF=>?_
   ·refine sg<|fk E ok qgu qam rfl 0 rfl rfl fun a E=>aw E rfl fun a E=>qab<|mz E rfl rfl fun a E=>mz E rfl rfl fun a E=>mz E rfl rfl fun a E=>bd hF fun r87 e88 hF=>qaf E qpq rfl (qgU N x71.class_ r82 e_1 re_1 e88 hG ok) rfl rfl ?_
    rintro _ w ⟨⟨rfl,ok⟩,r89⟩
    refine ⟨_,rfl,fun a E=>?_⟩
    refine mv E rfl fun a E=>?_
    obtain ⟨x90,e91,hF⟩:=bnd hF
    obtain ⟨b92,o93,hp94,yy95⟩:=qbC qat h66 e91 (P:=Tryz.prog) (X:=.tmp 37) (I:=.tmp 38) (kd:=.i64) (qaJ E rfl) (qaJ E rfl)
    refine lv E ok (yy95 _ _) fun a E=>bd hF fun l96 e97 hF=>qbX (R:=(pI .i64)) E ok 2 rfl h66 e91 hp94 rfl rfl qe5 rfl rfl rfl ⟨rfl,trivial⟩ (qaX r89) e97 rfl fun M98 w ok h99=>?_
    obtain ⟨x100,e101,hF⟩:=bnd hF
    obtain ⟨b102,o103,hp104,yy105⟩:=qbC qat h69 e101 (P:=Tryz.prog) (X:=.tmp 39) (I:=.tmp 40) (kd:=.i64) (qaJ E rfl) (qaJ E rfl)
    refine lv E ok (yy105 _ _) fun a E=>bd hF fun l106 e107 hF=>qbX (R:=(pI .i64)) E ok 1 rfl h69 e101 hp104 rfl rfl qe5 rfl rfl rfl ⟨rfl,trivial⟩ (qaX r82) e107 rfl fun M108 w ok h109=>wpList_nil<|qac<|qac<|qaa<|qab<|lw E (qaE rfl rfl (InR.inc r63 (qaj hl_0) c70)) fun a E=>mv E rfl fun a E=>wpList_nil ?_
    cases hF
    exact qao ⟨c64,M98,c67,M108,(ok.pk 3 [1,2] rfl (by decide)),E.keep [0,1,5,6,7,23,24,25],r82,(InR.inc r63 (qaj hl_0) c70),h99,h109⟩
   refine sg<|lw E (qah rfl rfl) fun a E=>aw E rfl fun a E=>cg E rfl hF (fun c110 hF=>?_) fun c110 hF=>?_
   ·refine wp_skip<|qac<|qac<|qaa<|qab<|lw E (qaE rfl rfl (InR.inc r63 (qaj hl_0) c70)) fun a E=>mv E rfl fun a E=>wpList_nil ?_
    cases hF
    exact qao ⟨c64,M65,c67,M68,(ok.pk 3 [1,2] rfl (by decide)),E.keep [0,1,5,6,7,23,24,25],r62,(InR.inc r63 (qaj hl_0) c70),h66,h69⟩
   refine sg<|mz E rfl rfl fun a E=>mz E rfl rfl fun a E=>mv E rfl fun a E=>bd hF fun r111 e112 hF=>qaf E qpq rfl (qgU N 1 (ir 1) e_1 re_1 e112 hG ok) rfl rfl ?_
   rintro _ w ⟨⟨rfl,ok⟩,r113⟩
   refine ⟨_,rfl,fun a E=>?_⟩
   obtain ⟨x114,e115,hF⟩:=bnd hF
   obtain ⟨b116,o117,hp118,yy119⟩:=qbC qat h66 e115 (P:=Tryz.prog) (X:=.tmp 49) (I:=.tmp 50) (kd:=.i64) (qaJ E rfl) (qaJ E rfl)
   refine lv E ok (yy119 _ _) fun a E=>bd hF fun l120 e121 hF=>qbX (R:=(pI .i64)) E ok 2 rfl h66 e115 hp118 rfl rfl qe5 rfl rfl rfl ⟨rfl,trivial⟩ (qaX r113) e121 rfl fun M122 w ok h123=>?_
   obtain ⟨x124,e125,hF⟩:=bnd hF
   obtain ⟨b126,o127,hp128,yy129⟩:=qbC qat h69 e125 (P:=Tryz.prog) (X:=.tmp 51) (I:=.tmp 52) (kd:=.i64) (qaJ E rfl) (qaJ E rfl)
   refine lv E ok (yy129 _ _) fun a E=>bd hF fun l130 e131 hF=>qbX (R:=(pI .i64)) E ok 1 rfl h69 e125 hp128 rfl rfl qe5 rfl rfl rfl ⟨rfl,trivial⟩ (qaX (ir 1)) e131 rfl fun M132 w ok h133=>wn<|sg<|mv E rfl fun a E=>lw E (qah rfl rfl) fun a E=>wn<|cg E rfl hF (fun c134 hF=>?_) fun c134 hF=>?_
   ·refine wp_skip<|qac<|qac<|qaa<|qab<|lw E (qaE rfl rfl (InR.inc r63 (qaj hl_0) c70)) fun a E=>mv E rfl fun a E=>wpList_nil ?_
    cases hF
    exact qao ⟨c64,M122,c67,M132,(ok.pk 3 [1,2] rfl (by decide)),E.keep [0,1,5,6,7,23,24,25],r62,(InR.inc r63 (qaj hl_0) c70),h123,h133⟩
   refine qab<|mz E rfl rfl fun a E=>mz E rfl rfl fun a E=>mv E rfl fun a E=>lw E (qaF rfl rfl) fun a E=>mv E rfl fun a E=>bd hF fun q135 e136 hF=>lw E (y_rm rfl rfl e136) fun a E=>lw E (qbI rfl rfl) fun a E=>?_
   obtain ⟨x137,e138,hF⟩:=bnd hF
   obtain ⟨b139,o140,hp141,yy142⟩:=qbC qat h123 e138 (P:=Tryz.prog) (X:=.tmp 59) (I:=.tmp 60) (kd:=.i64) (qaJ E rfl) (qaJ E rfl)
   refine lv E ok (yy142 _ _) fun a E=>bd hF fun l143 e144 hF=>qbX (R:=(pI .i64)) E ok 2 rfl h123 e138 hp141 rfl rfl qe5 rfl rfl rfl ⟨rfl,trivial⟩ (qaX (InR.wrap _ _)) e144 rfl fun M145 w ok h146=>?_
   obtain ⟨x147,e148,hF⟩:=bnd hF
   obtain ⟨b149,o150,hp151,yy152⟩:=qbC qat h133 e148 (P:=Tryz.prog) (X:=.tmp 61) (I:=.tmp 62) (kd:=.i64) (qaJ E rfl) (qaJ E rfl)
   refine lv E ok (yy152 _ _) fun a E=>bd hF fun l153 e154 hF=>qbX (R:=(pI .i64)) E ok 1 rfl h133 e148 hp151 rfl rfl qe5 rfl rfl rfl ⟨rfl,trivial⟩ (qaX (ir 2)) e154 rfl fun M155 w ok h156=>wpList_nil<|qac<|qac<|qaa<|qab<|lw E (qaE rfl rfl (InR.inc r63 (qaj hl_0) c70)) fun a E=>mv E rfl fun a E=>wpList_nil ?_
   cases hF
   exact qao ⟨c64,M145,c67,M155,(ok.pk 3 [1,2] rfl (by decide)),E.keep [0,1,5,6,7,23,24,25],r62,(InR.inc r63 (qaj hl_0) c70),h146,h156⟩
 intro e a w _ hO
 obtain ⟨rfl,c157,M158,c160,M161,ok,E,h159,h162⟩:=hO
 refine qa0<|qaa<|wp_seq<|sg<|aw E rfl fun a E=>wp_block<|bd hF fun o168 hL hF=>qa7 _ (fun (s:Int × (List (Int))) a w=>∃ c170 M171,Ok u m0 (M161 :: M171 :: S) w ∧ Env 132 a [(0,vl_0),(1,vi e_1),(5,c170),(6,c160),(10,vi s.1)] ∧ InR .i64 s.1 ∧ ORow 3 1 (pI .i64) m0 c170 s.2 M171) (fun (b:((List (Int)))) e a w=>e = (.exit 3) ∧ ∃ c295 M296,Ok u m0 (M161 :: M296 :: S) w ∧ Env 132 a [(5,c295)] ∧ ORow 3 1 (pI .i64) m0 c295 b M296) ?_ ?_ N _ a w hL ⟨c157,M158,ok,E.keep [0,1,5,6,10],(ir 0),h159⟩
 rotate_left
 ·intro e a w _ hO
  obtain ⟨rfl,c290,M291,ok,E,h292⟩:=hO
  refine qa0<|qaa<|sg<|mv E rfl fun a E=>aw E rfl fun a E=>wp_ret ?_
  obtain ⟨m293,hle,ok,hfz⟩:=(ok.frs 1 rfl).freeze
  have h294:=ORow.froz (mI .i64) h292 hle hfz (by decide)
  have le_m0:=le_m0.trans hle
  have hl_0:=(mL qh9).up hle hl_0
  exact fin hF ⟨m293,c290,le_m0,ok.drop,E.d,rz E rfl,h294⟩
 rintro ⟨v173,v174⟩ a w r ⟨c176,M177,ok,E,r175,h178⟩ hF
 replace hF:qcz N l_0 e_1 o49 v173 v174 = some r:=hF
 unfold qcz at hF
 refine wp_seq<|sg<|mz E rfl rfl fun a E=>lv E ok (qaP qep hl_0 rfl) fun a E=>lw E (qap rfl rfl) fun a E=>wn<|cg E rfl hF (fun c179 hF=>?_) fun c179 hF=>?_
 ·refine wp_exit<|qaM ?_
  cases hF
  exact so (⟨rfl,⟨c176,M177,ok,E.keep [5],h178⟩⟩)
 refine wp_skip<|qaa<|wp_block<|wp_seq<|sg<|mz E rfl rfl fun a E=>?_
 obtain ⟨x180,e181,hF⟩:=bnd hF
 obtain ⟨b182,o183,hp184,yy185⟩:=qbC qat h162 e181 (P:=Tryz.prog) (X:=.tmp 75) (I:=.tmp 76) (kd:=.i64) (qaJ E rfl) (qaJ E rfl)
 refine lv E ok (yy185 _ _) fun a E=>?_
 obtain ⟨es186,hl187,rr188,hh189⟩:=qds h162 e181 hp184 (by decide)
 obtain ⟨rfl,r190⟩:=rr188
 refine lv E ok (qal qam rfl (hh189 _ _ _ 0 rfl)) fun a E=>lw E (qbD rfl rfl) fun a E=>wn<|cf E rfl hF (fun c191 hF=>?_) fun c191 hF=>?_
 ·refine sg<|mv E rfl fun a E=>lw E (qaE rfl rfl (InR.inc r175 (qaj hl_0) c179)) fun a E=>aw E rfl fun a E=>wp_exit<|qaM<|qa0 ?_
  cases hF
  exact qao ⟨c176,M177,ok,E.keep [0,1,5,6,10],(InR.inc r175 (qaj hl_0) c179),h178⟩
 refine wp_skip<|qaa<|sg<|mv E rfl fun a E=>aw E rfl fun a E=>wp_seq<|wp_block<|bd hF fun o193 hL hF=>qa7 _ (fun (s:Int) a w=>Ok u m0 (M161 :: M177 :: S) w ∧ Env 132 a [(0,vl_0),(1,vi e_1),(5,c176),(6,c160),(10,vi v173),(11,vi s)] ∧ InR .i64 s) (fun (b:Int) e a w=>e = (.exit 5) ∧ Ok u m0 (M161 :: M177 :: S) w ∧ Env 132 a [(0,vl_0),(1,vi e_1),(5,c176),(6,c160),(10,vi v173),(11,vi b)] ∧ InR .i64 b) ?_ ?_ N _ a w hL ⟨ok,E.keep [0,1,5,6,10,11],r175⟩
 ·rintro v195 a w r ⟨ok,E,r196⟩ hF
  replace hF:qcC N l_0 o49 v195 = some r:=hF
  unfold qcC at hF
  refine wp_seq<|sg<|mz E rfl rfl fun a E=>lv E ok (qaP qep hl_0 rfl) fun a E=>lw E (qap rfl rfl) fun a E=>mv E rfl fun a E=>bw E 87 hF (fun c197 hF E=>?_) fun c197 hF E=>?_
  ·refine lsz E fun a E=>ls E fun a E=>pf E rfl rfl fun a E=>wn<|c_if E rfl (fun h=>by cases h) (fun _=>?_)
   refine wp_exit<|qaM ?_
   cases hF
   exact so (⟨rfl,⟨ok,E.keep [0,1,5,6,10,11],r196⟩⟩)
  refine mz E rfl rfl fun a E=>?_
  obtain ⟨x198,e199,hF⟩:=bnd hF
  obtain ⟨b200,o201,hp202,yy203⟩:=qbC qat h162 e199 (P:=Tryz.prog) (X:=.tmp 88) (I:=.tmp 89) (kd:=.i64) (qaJ E rfl) (qaJ E rfl)
  refine lv E ok (yy203 _ _) fun a E=>?_
  obtain ⟨es204,hl205,rr206,hh207⟩:=qds h162 e199 hp202 (by decide)
  obtain ⟨rfl,r208⟩:=rr206
  refine lv E ok (qal qam rfl (hh207 _ _ _ 0 rfl)) fun a E=>lw E (qah rfl rfl) fun a E=>pt E rfl rfl fun a E=>wn<|cg E rfl hF (fun c209 hF=>?_) fun c209 hF=>?_
  ·refine wp_exit<|qaM ?_
   cases hF
   exact so (⟨rfl,⟨ok,E.keep [0,1,5,6,10,11],r196⟩⟩)
  refine wp_skip<|qaa<|wp_block<|qab<|mv E rfl fun a E=>lw E (qaE rfl rfl (InR.inc r196 (qaj hl_0) c197)) fun a E=>av E rfl fun a E=>wpList_nil<|qac ?_
  cases hF
  exact qao ⟨ok,E.keep [0,1,5,6,10,11],(InR.inc r196 (qaj hl_0) c197)⟩
 intro e a w _ hO
 obtain ⟨rfl,ok,E,r210⟩:=hO
 refine qa0<|qaa<|sg<|mv E rfl fun a E=>bd hF fun r211 e212 hF=>qaf E qpn rfl (qi8 N e_1 re_1 e212 hG ok) rfl rfl ?_
 rintro _ w ⟨⟨rfl,ok⟩,r213⟩
 refine ⟨_,rfl,fun a E=>?_⟩
 refine mv E rfl fun a E=>bd hF fun r214 e215 hF=>qaf E qpn rfl (qi8 N e_1 re_1 e215 hG ok) rfl rfl ?_
 rintro _ w ⟨⟨rfl,ok⟩,r216⟩
 refine ⟨_,rfl,fun a E=>?_⟩
 refine mv E rfl fun a E=>av E rfl fun a E=>av E rfl fun a E=>aw E rfl fun a E=>wp_seq<|sg<|mv E rfl fun a E=>lw E (qaK rfl rfl) fun a E=>wn<|bd hF fun o217 hJ hF=>qaH (Q':=fun e a w=>e = .normal ∧ Ok u m0 (M161 :: M177 :: S) w ∧ Env 132 a [(0,vl_0),(1,vi e_1),(5,c176),(6,c160),(10,vi v173),(11,vi o193),(12,vi o217),(13,vi r214),(14,vi e_1)] ∧ InR .i64 o217) ?_ ?_
 ·have hF:=hJ
  refine cg E rfl hF (fun c219 hF=>?_) fun c219 hF=>?_
  ·refine wp_skip ?_
   cases hF
   exact ⟨rfl,⟨ok,E.keep [0,1,5,6,10,11,12,13,14],r213⟩⟩
  refine qab<|mz E rfl rfl fun a E=>lw E (qhq rfl rfl (InR.dec r175 (ir 0) c219)) fun a E=>?_
  obtain ⟨x220,e221,hF⟩:=bnd hF
  obtain ⟨b222,o223,hp224,yy225⟩:=qbC qat h162 e221 (P:=Tryz.prog) (X:=.tmp 103) (I:=.tmp 105) (kd:=.i64) (qaJ E rfl) (qaJ E rfl)
  refine lv E ok (yy225 _ _) fun a E=>?_
  obtain ⟨es226,hl227,rr228,hh229⟩:=qds h162 e221 hp224 (by decide)
  obtain ⟨rfl,r230⟩:=rr228
  refine lv E ok (qal qam rfl (hh229 _ _ _ 0 rfl)) fun a E=>av E rfl fun a E=>wpList_nil ?_
  cases hF
  exact ⟨rfl,⟨ok,E.keep [0,1,5,6,10,11,12,13,14],r230⟩⟩
 intro e a w hO
 obtain ⟨rfl,ok,E,r231⟩:=hO
 refine qaa<|wp_seq<|sg<|mz E rfl rfl fun a E=>lv E ok (qaP qep hl_0 rfl) fun a E=>lw E (qap rfl rfl) fun a E=>wn<|bd hF fun o232 hJ hF=>qaH (Q':=fun e a w=>e = .normal ∧ Ok u m0 (M161 :: M177 :: S) w ∧ Env 132 a [(0,vl_0),(1,vi e_1),(5,c176),(6,c160),(10,vi v173),(11,vi o193),(12,vi o217),(13,vi o232),(14,vi e_1)] ∧ InR .i64 o232) ?_ ?_
 ·have hF:=hJ
  refine cg E rfl hF (fun c234 hF=>?_) fun c234 hF=>?_
  ·refine wp_skip ?_
   cases hF
   exact ⟨rfl,⟨ok,E.keep [0,1,5,6,10,11,12,13,14],r216⟩⟩
  refine qab<|mz E rfl rfl fun a E=>?_
  obtain ⟨x235,e236,hF⟩:=bnd hF
  obtain ⟨b237,o238,hp239,yy240⟩:=qbC qat h162 e236 (P:=Tryz.prog) (X:=.tmp 112) (I:=.tmp 113) (kd:=.i64) (qaJ E rfl) (qaJ E rfl)
  refine lv E ok (yy240 _ _) fun a E=>?_
  obtain ⟨es241,hl242,rr243,hh244⟩:=qds h162 e236 hp239 (by decide)
  obtain ⟨rfl,r245⟩:=rr243
  refine lv E ok (qal qam rfl (hh244 _ _ _ 0 rfl)) fun a E=>av E rfl fun a E=>wpList_nil ?_
  cases hF
  exact ⟨rfl,⟨ok,E.keep [0,1,5,6,10,11,12,13,14],r245⟩⟩
 intro e a w hO
 obtain ⟨rfl,ok,E,r246⟩:=hO
 refine qaa<|wp_seq<|sg<|mz E rfl rfl fun a E=>lw E (qah rfl rfl) fun a E=>wn<|bd hF fun o247 hJ hF=>qaH (Q':=fun e a w=>e = .normal ∧ Ok u m0 (M161 :: M177 :: S) w ∧ Env 132 a [(0,vl_0),(1,vi e_1),(5,c176),(6,c160),(10,vi v173),(11,vi o193),(14,vi o247)] ∧ InR .i64 o247) ?_ ?_
 ·have hF:=hJ
  refine cg E rfl hF (fun c249 hF=>?_) fun c249 hF=>?_
  ·refine wp_skip ?_
   cases hF
   exact ⟨rfl,⟨ok,E.keep [0,1,5,6,10,11,14],re_1⟩⟩
  refine qab<|mz E rfl rfl fun a E=>bd hF fun r250 e251 hF=>qaf E qpq rfl (qgU N o217 r231 e_1 re_1 e251 hG ok) rfl rfl ?_
  rintro _ w ⟨⟨rfl,ok⟩,r252⟩
  refine ⟨_,rfl,fun a E=>?_⟩
  refine av E rfl fun a E=>wpList_nil ?_
  cases hF
  exact ⟨rfl,⟨ok,E.keep [0,1,5,6,10,11,14],r252⟩⟩
 intro e a w hO
 obtain ⟨rfl,ok,E,r253⟩:=hO
 refine qaa<|wp_block<|bd hF fun o259 hL hF=>qa7 _ (fun (s:Int × (List (Int))) a w=>∃ c261 M262,Ok u m0 (M161 :: M262 :: S) w ∧ Env 132 a [(0,vl_0),(1,vi e_1),(5,c261),(6,c160),(10,vi s.1),(11,vi o193),(14,vi o247)] ∧ InR .i64 s.1 ∧ ORow 3 1 (pI .i64) m0 c261 s.2 M262) (fun (b:((List (Int)) × Int)) e a w=>e = (.exit 7) ∧ ∃ c285 M286,Ok u m0 (M161 :: M286 :: S) w ∧ Env 132 a [(0,vl_0),(1,vi e_1),(5,c285),(6,c160),(10,vi b.2)] ∧ ORow 3 1 (pI .i64) m0 c285 b.1 M286 ∧ InR .i64 b.2) ?_ ?_ N _ a w hL ⟨c176,M177,ok,E.keep [0,1,5,6,10,11,14],r175,h178⟩
 rotate_left
 ·intro e a w _ hO
  obtain ⟨rfl,c281,M282,ok,E,h283,r284⟩:=hO
  refine qa0<|qac ?_
  cases hF
  exact qao ⟨c281,M282,ok,E.keep [0,1,5,6,10],r284,h283⟩
 rintro ⟨v264,v265⟩ a w r ⟨c267,M268,ok,E,r266,h269⟩ hF
 replace hF:qc3 N o193 o247 v264 v265 = some r:=hF
 unfold qc3 at hF
 refine wp_seq<|sg<|mz E rfl rfl fun a E=>lw E (qap rfl rfl) fun a E=>wn<|cg E rfl hF (fun c270 hF=>?_) fun c270 hF=>?_
 ·refine wp_exit<|qaM ?_
  cases hF
  exact so (⟨rfl,⟨c267,M268,ok,E.keep [0,1,5,6,10],h269,r266⟩⟩)
 refine wp_skip<|qaa<|wp_seq<|wp_block<|qab<|mz E rfl rfl fun a E=>mv E rfl fun a E=>?_
 obtain ⟨x271,e272,hF⟩:=bnd hF
 obtain ⟨b273,o274,hp275,yy276⟩:=qbC qat h269 e272 (P:=Tryz.prog) (X:=.tmp 127) (I:=.tmp 128) (kd:=.i64) (qaJ E rfl) (qaJ E rfl)
 refine lv E ok (yy276 _ _) fun a E=>bd hF fun l277 e278 hF=>qbX (R:=(pI .i64)) E ok 1 rfl h269 e272 hp275 rfl rfl qe5 rfl rfl rfl ⟨rfl,trivial⟩ (qaX r253) e278 rfl fun M279 w ok h280=>wpList_nil<|qac<|qaa<|qab<|mv E rfl fun a E=>lw E (qaE rfl rfl (InR.inc r266 r210 c270)) fun a E=>av E rfl fun a E=>wpList_nil ?_
 cases hF
 exact qao ⟨c267,M279,ok,E.keep [0,1,5,6,10,11,14],(InR.inc r266 r210 c270),h280⟩
def qhS (u:World) (m0:Mem) (S:Segs) (r:Int) (a:Act) (w:World):Prop :=
 Ok u m0 S w ∧ a.defers = [] ∧ RVs Tryz.prog a w [.t 2 (.int .i64 r)] ∧ InR .i64 r
theorem qlf (N:Nat) (vl_0:Value) (l_0:List (Item)) (hl_0:(pL 3 qfx) m0 [vl_0] l_0) {r:Int} (hF:qeC N l_0 = some r) (hG:Glob u) (ok:Ok u m0 S w) :
  Calls Tryz.prog 56 [vl_0].toArray w fun e w'=>(e = .returned (.int .i64 r) ∧ Ok u m0 S w') ∧ InR .i64 r:=by
 unfold qeC at hF
 refine en (qhS u m0 S) r Tryz.func56 rfl rfl rfl (fun _ _ h=>rb h rfl) fun fin a E=>sg<|aw E rfl fun a E=>wp_seq<|sg<|mv E rfl fun a E=>lv E ok (qaP qep hl_0 rfl) fun a E=>mv E rfl fun a E=>wn<|wp_block<|bd hF fun o2 hL hF=>qa7 _ (fun (s:Int) a w=>Ok u m0 (S) w ∧ Env 22 a [(5,vl_0),(6,(vi (l_0.length:Int))),(7,vi s)] ∧ InR .i64 s) (fun (b:(Unit ⊕ Int)) e a w=>(Sum.elim (fun b22=>e = (.exit 0) ∧ Ok u m0 (S) w ∧ Env 22 a []) (fun b23=>e = .ret ∧ qhS u m0 S b23 a w)) b) ?_ ?_ N _ a w hL ⟨ok,E.keep [5,6,7],(ir 0)⟩
 rotate_left
 ·intro e a w _ hO
  rcases o2 with o2 | o2
  rotate_left
  ·obtain ⟨rfl,hret⟩:=hO
   refine qak<|qad ?_
   exact fin hF hret
  have hF:=qcj hF
  obtain ⟨rfl,ok,E⟩:=hO
  refine qa0<|qaa<|sg<|aw E rfl fun a E=>wp_ret ?_
  exact fin hF ⟨ok,E.d,rz E rfl,(ir 0)⟩
 rintro v4 a w r ⟨ok,E,r5⟩ hF
 replace hF:qdc N l_0 v4 = some r:=hF
 unfold qdc at hF
 refine sg<|lw E (qap rfl rfl) fun a E=>wn<|wp_seq<|cg E rfl hF (fun c6 hF=>?_) fun c6 hF=>?_
 ·refine wp_exit<|qaM ?_
  cases hF
  exact so (sl ⟨rfl,⟨ok,E.keep []⟩⟩)
 refine wp_skip<|qaa<|wp_seq<|wp_block<|sg ?_
 obtain ⟨x7,e8,hF⟩:=bnd hF
 obtain ⟨b9,o10,es11,hl12,rr13,at14,yy15⟩:=ia E 5 7 qep hl_0 e8
 obtain ⟨rfl,r16,r17,r18⟩:=rr13
 refine lv E ok (yy15 _ _) fun a E=>lv E ok (qan (cs:=[vi x7.from_,vi x7.to_,vi x7.class_]) qmL rfl rfl (Holds.ro at14)) fun a E=>qa4 E ok qeQ rfl rfl fun b19 a w E ok=>qax E ok 0 rfl rfl rfl qmr rfl rfl ⟨rfl,rfl,rfl,trivial⟩ rfl rfl fun w ok=>wn<|sg<|fk E ok qgu qam rfl 0 rfl rfl fun a E=>lw E (qah rfl rfl) fun a E=>mv E rfl fun a E=>bu E 14 hF (fun c20 hF E=>?_) fun c20 hF E=>?_
 ·refine lsq E fun a E=>ls E fun a E=>pt E rfl rfl fun a E=>wn<|c_if E rfl (fun _=>?_) (fun h=>by cases h)
  refine sg<|fk E ok qgu qam rfl 0 rfl rfl fun a E=>aw E rfl fun a E=>wp_ret<|qak<|qad ?_
  cases hF
  exact so (sr ⟨rfl,⟨ok.drop,E.d,rz E rfl,r18⟩⟩)
 refine fk E ok qgu qam rfl 0 rfl rfl fun a E=>lw E (qah rfl rfl) fun a E=>pf E rfl rfl fun a E=>wn<|cg E rfl hF (fun c21 hF=>?_) fun c21 hF=>?_
 ·refine wp_skip<|qac<|qaa<|qab<|lw E (qaE rfl rfl (InR.inc r5 (qaj hl_0) c6)) fun a E=>mv E rfl fun a E=>wpList_nil ?_
  cases hF
  exact qao ⟨(ok.pk 1 [] rfl (by decide)),E.keep [5,6,7],(InR.inc r5 (qaj hl_0) c6)⟩
 refine sg<|fk E ok qgu qam rfl 0 rfl rfl fun a E=>aw E rfl fun a E=>wp_ret<|qak<|qad ?_
 cases hF
 exact so (sr ⟨rfl,⟨ok.drop,E.d,rz E rfl,r18⟩⟩)
def qjj (u:World) (m0:Mem) (S:Segs) (pb0:Nat) (pb1:Nat) (pb2:Nat) (x0:Text) (c1:Value) (c3:Value) (x1:List (Int)) (c6:Value) (M7:List (Nat × Obj)) (r:(List (Int))) (a:Act) (w:World):Prop :=
 ∃ c9 M10,Ok u m0 ([(pb0,oc 98 [c1,c3,vi x0.depth])] :: [(pb1,oc 26 [c9])] :: M10 :: [(pb2,oc 113 [(Value.func (.func 53) #[] #[.pointer (some ⟨pb0,0,none⟩),.pointer (some ⟨pb1,0,none⟩),.pointer (some ⟨pb2,0,none⟩)])])] :: S) w ∧ a.defers = [] ∧ RVs Tryz.prog a w [] ∧ ORow 3 1 (pI .i64) m0 c9 r M10
def qdQ (N:Nat):Prop:=∀ {u:World} {m0:Mem} {S:Segs} {w:World} (from_0:Int) (rfrom_0:InR .i64 from_0) (to_1:Int) (rto_1:InR .i64 to_1) (e_2:Int) (re_2:InR .i64 e_2) {pb0:Nat} {c1:Value} {c3:Value} (x0:Text) (h2:(pL 1 (pI .i64)) m0 [c1] x0.l) (h4:(pL 1 (pI .i64)) m0 [c3] x0.end_) (r5:InR .i64 x0.depth) {pb1:Nat} {c6:Value} {M7:List (Nat × Obj)} (x1:List (Int)) (h8:ORow 3 1 (pI .i64) m0 c6 x1 M7) {pb2:Nat} {r:(List (Int))} (hF:qcZ N from_0 to_1 e_2 x0 x1 = some r) (hG:Glob u) (ok:Ok u m0 ([(pb0,oc 98 [c1,c3,vi x0.depth])] :: [(pb1,oc 26 [c6])] :: M7 :: [(pb2,oc 113 [(Value.func (.func 53) #[] #[.pointer (some ⟨pb0,0,none⟩),.pointer (some ⟨pb1,0,none⟩),.pointer (some ⟨pb2,0,none⟩)])])] :: S) w),Calls Tryz.prog 53 [vi from_0,vi to_1,vi e_2,vp pb0,vp pb1,vp pb2].toArray w fun e w'=>∃ c9 M10,(e = .returned (.tuple [].toArray) ∧ Ok u m0 ([(pb0,oc 98 [c1,c3,vi x0.depth])] :: [(pb1,oc 26 [c9])] :: M10 :: [(pb2,oc 113 [(Value.func (.func 53) #[] #[.pointer (some ⟨pb0,0,none⟩),.pointer (some ⟨pb1,0,none⟩),.pointer (some ⟨pb2,0,none⟩)])])] :: S) w') ∧ ORow 3 1 (pI .i64) m0 c9 r M10
theorem qh1 (N:Nat) (ih_bidi_text_levels_1:qdQ N):qdQ (N + 1):=by
 intro u m0 S w from_0 rfrom_0 to_1 rto_1 e_2 re_2 pb0 c1 c3 x0 h2 h4 r5 pb1 c6 M7 x1 h8 pb2 r hF hG ok
 have hb0:=ok.base
 have le_m0:=Mem.le.refl m0
 have hF0:qcr (qcZ N) N from_0 to_1 e_2 x0 x1 = some r:=hF
 have hF:=hF0
 clear hF0
 unfold qcr at hF
 refine en (qjj u m0 S pb0 pb1 pb2 x0 c1 c3 x1 c6 M7) r Tryz.func53 rfl rfl rfl (by rintro a w ⟨c9,M10,ok,hd,hrv,h0⟩; exact qaT [] hd rfl hrv ⟨c9,M10,⟨rfl,ok⟩,h0⟩) fun fin a E=>sg<|lv E ok (qan (cs:=[c1,c3,vi x0.depth]) qks rfl rfl (Holds.own 0 rfl rfl)) fun a E=>mz E rfl rfl fun a E=>bd hF fun r12 e13 hF=>qaf E qry rfl (qg9 N _ x0 ⟨_,_,rfl,h2,h4,r5⟩ from_0 rfrom_0 to_1 rto_1 e13 hG ok) rfl rfl ?_
 rintro _ w ⟨m14,c15,rfl,hle,ok,h16⟩
 have le_m0:=le_m0.trans hle
 have h2:=(mL (mI .i64)).up hle h2
 have h4:=(mL (mI .i64)).up hle h4
 have h8:=ORow.up (mI .i64) hle h8
 refine ⟨_,rfl,fun a E=>?_⟩
 refine aw E rfl fun a E=>sg<|mz E rfl rfl fun a E=>bd hF fun r17 e18 hF=>qaf E qtl rfl (qmF N _ r12 h16 e_2 re_2 e18 hG ok) rfl rfl ?_
 rintro _ w ⟨m19,c20,rfl,hle,ok,h21⟩
 have le_m0:=le_m0.trans hle
 have h2:=(mL (mI .i64)).up hle h2
 have h4:=(mL (mI .i64)).up hle h4
 have h8:=ORow.up (mI .i64) hle h8
 have h16:=(mL qh9).up hle h16
 refine ⟨_,rfl,fun a E=>?_⟩
 refine lv E ok (qaP qat h21 rfl) fun a E=>mv E rfl fun a E=>wn<|wp_block<|bd hF fun o27 hL hF=>qa7 _ (fun (s:Int × (List (Int))) a w=>∃ m28 c30 M31,m19.le m28 ∧ Ok u m28 ([(pb0,oc 98 [c1,c3,vi x0.depth])] :: [(pb1,oc 26 [c30])] :: M31 :: [(pb2,oc 113 [(Value.func (.func 53) #[] #[.pointer (some ⟨pb0,0,none⟩),.pointer (some ⟨pb1,0,none⟩),.pointer (some ⟨pb2,0,none⟩)])])] :: S) w ∧ Env 100 a [(2,vi e_2),(3,vp pb0),(4,vp pb1),(5,vp pb2),(9,c15),(22,c20),(23,(vi (r17.length:Int))),(24,vi s.1)] ∧ InR .i64 s.1 ∧ ORow 3 1 (pI .i64) m28 c30 s.2 M31) (fun (b:((List (Int)))) e a w=>e = (.exit 0) ∧ ∃ m142 c143 M144,m19.le m142 ∧ Ok u m142 ([(pb0,oc 98 [c1,c3,vi x0.depth])] :: [(pb1,oc 26 [c143])] :: M144 :: [(pb2,oc 113 [(Value.func (.func 53) #[] #[.pointer (some ⟨pb0,0,none⟩),.pointer (some ⟨pb1,0,none⟩),.pointer (some ⟨pb2,0,none⟩)])])] :: S) w ∧ Env 100 a [] ∧ ORow 3 1 (pI .i64) m142 c143 b M144) ?_ ?_ N _ a w hL ⟨m19,c6,M7,Mem.le.refl _,ok,E.keep [2,3,4,5,9,22,23,24],(ir 0),h8⟩
 rotate_left
 ·intro e a w _ hO
  obtain ⟨rfl,m138,c139,M140,hle,ok,E,h141⟩:=hO
  have le_m0:=le_m0.trans hle
  have h2:=(mL (mI .i64)).up hle h2
  have h4:=(mL (mI .i64)).up hle h4
  have h16:=(mL qh9).up hle h16
  have h21:=(mL (mI .i64)).up hle h21
  refine qa0 ?_
  exact fin hF ⟨c139,M140,((ok).down hb0 le_m0),E.d,trivial,h141⟩
 rintro ⟨v33,v34⟩ a w r ⟨m35,c37,M38,hle,ok,E,r36,h39⟩ hF
 replace hF:qca (qcZ N) N e_2 x0 r12 r17 v33 v34 = some r:=hF
 unfold qca at hF
 have le_m19:=Mem.le.refl m19
 have le_m0:=le_m0.trans hle
 have le_m19:=le_m19.trans hle
 have h2:=(mL (mI .i64)).up hle h2
 have h4:=(mL (mI .i64)).up hle h4
 have h16:=(mL qh9).up hle h16
 have h21:=(mL (mI .i64)).up hle h21
 refine sg<|lw E (qap rfl rfl) fun a E=>wn<|wp_seq<|cg E rfl hF (fun c40 hF=>?_) fun c40 hF=>?_
 ·refine wp_exit<|qaM ?_
  cases hF
  exact so (⟨rfl,⟨m35,c37,M38,le_m19,ok,E.keep [],h39⟩⟩)
 refine wp_skip<|qaa<|wp_seq<|wp_block<|sg<|mv E rfl fun a E=>?_
 obtain ⟨x41,e42,hF⟩:=bnd hF
 obtain ⟨b43,o44,es45,hl46,rr47,at48,yy49⟩:=ia E 22 24 qat h21 e42
 obtain ⟨rfl,r50⟩:=rr47
 refine lv E ok (yy49 _ _) fun a E=>lv E ok (qal qam rfl (Holds.ro at48)) fun a E=>av E rfl fun a E=>aw E rfl fun a E=>sg<|mz E rfl rfl fun a E=>?_
 obtain ⟨x51,e52,hF⟩:=bnd hF
 obtain ⟨b53,o54,es55,hl56,rr57,at58,yy59⟩:=ia E 29 30 qep h16 e52
 obtain ⟨rfl,r60,r61,r62⟩:=rr57
 refine lv E ok (yy59 _ _) fun a E=>lv E ok (qan (cs:=[vi x51.from_,vi x51.to_,vi x51.class_]) qmL rfl rfl (Holds.ro at58)) fun a E=>qa4 E ok qeQ rfl rfl fun b63 a w E ok=>qax E ok 0 rfl rfl rfl qmr rfl rfl ⟨rfl,rfl,rfl,trivial⟩ rfl rfl fun w ok=>wn<|sg<|ld E ok qcR 2 rfl rfl rfl fun a E=>fk E ok qfM qam rfl 0 rfl rfl fun a E=>mv E rfl fun a E=>?_
 obtain ⟨x64,e65,hF⟩:=bnd hF
 obtain ⟨b66,o67,hp68,yy69⟩:=qbC qat h39 e65 (P:=Tryz.prog) (X:=.tmp 33) (I:=.tmp 35) (kd:=.i64) (qaJ E rfl) (qaJ E rfl)
 refine lv E ok (yy69 _ _) fun a E=>bd hF fun l70 e71 hF=>qbX (R:=(pI .i64)) E ok 3 rfl h39 e65 hp68 rfl rfl qe5 rfl rfl rfl ⟨rfl,trivial⟩ (qaX r50) e71 rfl fun M72 w ok h73=>wn<|wp_seq<|sg<|fk E ok qjp qam rfl 0 rfl rfl fun a E=>fk E ok qfM qam rfl 0 rfl rfl fun a E=>lw E (qah rfl rfl) fun a E=>wn<|cf E rfl hF (fun c74 hF=>?_) fun c74 hF=>?_
 ·refine wp_exit<|qaM<|qa0<|qaa<|qab<|lw E (qaE rfl rfl (InR.inc r36 (qaj h21) c40)) fun a E=>mv E rfl fun a E=>wpList_nil ?_
  cases hF
  exact qao ⟨m35,c37,M72,le_m19,(ok.pk 5 [1,2,3,4] rfl (by decide)),E.keep [2,3,4,5,9,22,23,24],(InR.inc r36 (qaj h21) c40),h73⟩
 refine wp_skip<|qaa<|sg<|fk E ok qjp qam rfl 0 rfl rfl fun a E=>fk E ok qfU qcR rfl 1 rfl rfl fun a E=>lv E ok (qaP qat h2 rfl) fun a E=>lw E (qrC rfl rfl) fun a E=>aw E rfl fun a E=>wp_seq<|sg<|fk E ok qjp qam rfl 0 rfl rfl fun a E=>fk E ok qfU qcR rfl 1 rfl rfl fun a E=>lv E ok (qaP qat h2 rfl) fun a E=>lw E (qap rfl rfl) fun a E=>wn<|bd hF fun o75 hJ hF=>qaH (Q':=fun e a w=>e = .normal ∧ ∃ c76 M77,Ok u m35 ([(b63,oc 118 [vi x51.from_,vi x51.to_,vi x51.class_])] :: [(pb0,oc 98 [c1,c3,vi x0.depth])] :: [(pb1,oc 26 [c76])] :: M77 :: [(pb2,oc 113 [(Value.func (.func 53) #[] #[.pointer (some ⟨pb0,0,none⟩),.pointer (some ⟨pb1,0,none⟩),.pointer (some ⟨pb2,0,none⟩)])])] :: S) w ∧ Env 100 a [(2,vi e_2),(3,vp pb0),(4,vp pb1),(5,vp pb2),(9,c15),(12,vp b63),(13,(vi (min x51.to_ (x0.l.length:Int)))),(22,c20),(23,(vi (r17.length:Int))),(24,vi v33)] ∧ ORow 3 1 (pI .i64) m35 c76 o75 M77) ?_ ?_
 ·have hF:=hJ
  refine cg E rfl hF (fun c79 hF=>?_) fun c79 hF=>?_
  ·refine wp_skip ?_
   cases hF
   exact ⟨rfl,⟨c37,M72,ok,E.keep [2,3,4,5,9,12,13,22,23,24],h73⟩⟩
  refine qab<|ld E ok qcR 2 rfl rfl rfl fun a E=>fk E ok qjp qam rfl 0 rfl rfl fun a E=>mv E rfl fun a E=>?_
  obtain ⟨x80,e81,hF⟩:=bnd hF
  obtain ⟨b82,o83,hp84,yy85⟩:=qbC qat h73 e81 (P:=Tryz.prog) (X:=.tmp 55) (I:=.tmp 57) (kd:=.i64) (qaJ E rfl) (qaJ E rfl)
  refine lv E ok (yy85 _ _) fun a E=>bd hF fun l86 e87 hF=>qbX (R:=(pI .i64)) E ok 3 rfl h73 e81 hp84 rfl rfl qe5 rfl rfl rfl ⟨rfl,trivial⟩ (qaX r50) e87 rfl fun M88 w ok h89=>wpList_nil ?_
  cases hF
  exact ⟨rfl,⟨c37,M88,ok,E.keep [2,3,4,5,9,12,13,22,23,24],h89⟩⟩
 intro e a w hO
 obtain ⟨rfl,c90,M91,ok,E,h92⟩:=hO
 refine qaa<|sg<|mv E rfl fun a E=>lw E (qaF rfl rfl) fun a E=>mv E rfl fun a E=>bd hF fun q93 e94 hF=>lw E (y_rm rfl rfl e94) fun a E=>lw E (qbI rfl rfl) fun a E=>aw E rfl fun a E=>wp_seq<|sg<|fk E ok qfU qcR rfl 1 rfl rfl fun a E=>fk E ok qfM qam rfl 0 rfl rfl fun a E=>?_
 obtain ⟨x95,e96,hF⟩:=bnd hF
 obtain ⟨b97,o98,es99,hl100,rr101,at102,yy103⟩:=ia E 66 68 qat h2 e96
 obtain ⟨rfl,r104⟩:=rr101
 refine lv E ok (yy103 _ _) fun a E=>lv E ok (qal qam rfl (Holds.ro at102)) fun a E=>aw E rfl fun a E=>sg<|mv E rfl fun a E=>lw E (qah rfl rfl) fun a E=>mv E rfl fun a E=>bu E 73 hF (fun c105 hF E=>?_) fun c105 hF E=>?_
 ·refine lsz E fun a E=>lsz E fun a E=>lsz E fun a E=>pt E rfl rfl fun a E=>wn<|c_if E rfl (fun _=>?_) (fun h=>by cases h)
  refine qab<|mv E rfl fun a E=>lw E (qaF rfl rfl) fun a E=>mv E rfl fun a E=>bd hF fun q106 e107 hF=>lw E (y_rm rfl rfl e107) fun a E=>lw E (qaF rfl rfl) fun a E=>aw E rfl fun a E=>qab<|ld E ok qkK 4 rfl rfl rfl fun a E=>fv E qfM rfl fun a E=>ld E ok qam 0 rfl rfl rfl fun a E=>lw E (qaF rfl rfl) fun a E=>mz E rfl rfl fun a E=>?_
  obtain ⟨r108,e109,hF⟩:=bnd hF
  replace ok:Ok u m35 ([(pb0,oc 98 [c1,c3,vi x0.depth])] :: [(pb1,oc 26 [c90])] :: M91 :: [(pb2,oc 113 [(Value.func (.func 53) #[] #[.pointer (some ⟨pb0,0,none⟩),.pointer (some ⟨pb1,0,none⟩),.pointer (some ⟨pb2,0,none⟩)])])] :: [(b63,oc 118 [vi x51.from_,vi x51.to_,vi x51.class_])] :: S) w:=(ok.pk 5 [1,2,3,4,0] rfl (by decide))
  refine qiY E rfl qns rfl (ih_bidi_text_levels_1 (IntKind.wrap .i64 (x51.from_ + 1)) (InR.wrap _ _) (min x51.to_ (x0.l.length:Int)) (InR.min r61 (qaj h2)) (IntKind.wrap .i64 ((IntKind.wrap .i64 (e_2 + 1)) + q106)) (InR.wrap _ _) x0 h2 h4 r5 o75 h92 e109 hG ok) rfl rfl ?_
  rintro _ w ⟨c110,M111,⟨rfl,ok⟩,h112⟩
  refine ⟨_,rfl,fun a E=>?_⟩
  refine wpList_nil<|qac<|qaa<|qab<|lw E (qaE rfl rfl (InR.inc r36 (qaj h21) c40)) fun a E=>mv E rfl fun a E=>wpList_nil ?_
  cases hF
  exact qao ⟨m35,c110,M111,le_m19,(ok.pk 5 [0,1,2,3] rfl (by decide)),E.keep [2,3,4,5,9,22,23,24],(InR.inc r36 (qaj h21) c40),h112⟩
 refine mv E rfl fun a E=>lw E (qah rfl rfl) fun a E=>mv E rfl fun a E=>bw E 76 hF (fun c113 hF E=>?_) fun c113 hF E=>?_
 ·refine lsz E fun a E=>lsz E fun a E=>pf E rfl rfl fun a E=>pf E rfl rfl fun a E=>wn<|c_if E rfl (fun h=>by cases h) (fun _=>?_)
  refine wp_skip<|qaa<|qab<|ld E ok qkK 4 rfl rfl rfl fun a E=>fk E ok qfM qam rfl 0 rfl rfl fun a E=>lw E (qaF rfl rfl) fun a E=>mv E rfl fun a E=>mv E rfl fun a E=>?_
  obtain ⟨r133,e134,hF⟩:=bnd hF
  replace ok:Ok u m35 ([(pb0,oc 98 [c1,c3,vi x0.depth])] :: [(pb1,oc 26 [c90])] :: M91 :: [(pb2,oc 113 [(Value.func (.func 53) #[] #[.pointer (some ⟨pb0,0,none⟩),.pointer (some ⟨pb1,0,none⟩),.pointer (some ⟨pb2,0,none⟩)])])] :: [(b63,oc 118 [vi x51.from_,vi x51.to_,vi x51.class_])] :: S) w:=(ok.pk 5 [1,2,3,4,0] rfl (by decide))
  refine qiY E rfl qns rfl (ih_bidi_text_levels_1 (IntKind.wrap .i64 (x51.from_ + 1)) (InR.wrap _ _) (min x51.to_ (x0.l.length:Int)) (InR.min r61 (qaj h2)) (IntKind.wrap .i64 ((IntKind.wrap .i64 (e_2 + 2)) - q93)) (InR.wrap _ _) x0 h2 h4 r5 o75 h92 e134 hG ok) rfl rfl ?_
  rintro _ w ⟨c135,M136,⟨rfl,ok⟩,h137⟩
  refine ⟨_,rfl,fun a E=>?_⟩
  refine wpList_nil<|qac<|qaa<|qab<|lw E (qaE rfl rfl (InR.inc r36 (qaj h21) c40)) fun a E=>mv E rfl fun a E=>wpList_nil ?_
  cases hF
  exact qao ⟨m35,c135,M136,le_m19,(ok.pk 5 [0,1,2,3] rfl (by decide)),E.keep [2,3,4,5,9,22,23,24],(InR.inc r36 (qaj h21) c40),h137⟩
 refine lv E ok (qan (cs:=[c1,c3,vi x0.depth]) qks rfl rfl (Holds.own 1 rfl rfl)) fun a E=>fk E ok qfM qam rfl 0 rfl rfl fun a E=>lw E (qaF rfl rfl) fun a E=>mv E rfl fun a E=>bd hF fun r114 e115 hF=>qaf E qry rfl (qg9 N _ x0 ⟨_,_,rfl,h2,h4,r5⟩ (IntKind.wrap .i64 (x51.from_ + 1)) (InR.wrap _ _) (min x51.to_ (x0.l.length:Int)) (InR.min r61 (qaj h2)) e115 hG ok) rfl rfl ?_
 rintro _ w ⟨m116,c117,rfl,hle,ok,h118⟩
 have le_m0:=le_m0.trans hle
 have le_m19:=le_m19.trans hle
 have h2:=(mL (mI .i64)).up hle h2
 have h4:=(mL (mI .i64)).up hle h4
 have h16:=(mL qh9).up hle h16
 have h21:=(mL (mI .i64)).up hle h21
 have at48:=At.up hle at48
 have at58:=At.up hle at58
 have h92:=ORow.up (mI .i64) hle h92
 have at102:=At.up hle at102
 refine ⟨_,rfl,fun a E=>?_⟩
 refine bd hF fun r119 e120 hF=>qaf E qtU rfl (qlf N _ r114 h118 e120 hG ok) rfl rfl ?_
 rintro _ w ⟨⟨rfl,ok⟩,r121⟩
 refine ⟨_,rfl,fun a E=>?_⟩
 refine lw E (qah rfl rfl) fun a E=>pt E rfl rfl fun a E=>pf E rfl rfl fun a E=>wn<|bd hF fun o122 hJ hF=>qaH (Q':=fun e a w=>e = .normal ∧ Ok u m116 ([(b63,oc 118 [vi x51.from_,vi x51.to_,vi x51.class_])] :: [(pb0,oc 98 [c1,c3,vi x0.depth])] :: [(pb1,oc 26 [c90])] :: M91 :: [(pb2,oc 113 [(Value.func (.func 53) #[] #[.pointer (some ⟨pb0,0,none⟩),.pointer (some ⟨pb1,0,none⟩),.pointer (some ⟨pb2,0,none⟩)])])] :: S) w ∧ Env 100 a [(2,vi e_2),(3,vp pb0),(4,vp pb1),(5,vp pb2),(9,c15),(12,vp b63),(13,(vi (min x51.to_ (x0.l.length:Int)))),(14,vi o122),(22,c20),(23,(vi (r17.length:Int))),(24,vi v33)] ∧ InR .i64 o122) ?_ ?_
 ·have hF:=hJ
  refine cg E rfl hF (fun c124 hF=>?_) fun c124 hF=>?_
  ·refine wp_skip ?_
   cases hF
   exact ⟨rfl,⟨ok,E.keep [2,3,4,5,9,12,13,14,22,23,24],(InR.wrap _ _)⟩⟩
  refine qab<|mv E rfl fun a E=>lw E (qaF rfl rfl) fun a E=>mv E rfl fun a E=>bd hF fun q125 e126 hF=>lw E (y_rm rfl rfl e126) fun a E=>lw E (qaF rfl rfl) fun a E=>av E rfl fun a E=>wpList_nil ?_
  cases hF
  exact ⟨rfl,⟨ok,E.keep [2,3,4,5,9,12,13,14,22,23,24],(InR.wrap _ _)⟩⟩
 intro e a w hO
 obtain ⟨rfl,ok,E,r127⟩:=hO
 refine qaa<|qab<|ld E ok qkK 4 rfl rfl rfl fun a E=>fk E ok qfM qam rfl 0 rfl rfl fun a E=>lw E (qaF rfl rfl) fun a E=>mz E rfl rfl fun a E=>?_
 obtain ⟨r128,e129,hF⟩:=bnd hF
 replace ok:Ok u m116 ([(pb0,oc 98 [c1,c3,vi x0.depth])] :: [(pb1,oc 26 [c90])] :: M91 :: [(pb2,oc 113 [(Value.func (.func 53) #[] #[.pointer (some ⟨pb0,0,none⟩),.pointer (some ⟨pb1,0,none⟩),.pointer (some ⟨pb2,0,none⟩)])])] :: [(b63,oc 118 [vi x51.from_,vi x51.to_,vi x51.class_])] :: S) w:=(ok.pk 5 [1,2,3,4,0] rfl (by decide))
 refine qiY E rfl qns rfl (ih_bidi_text_levels_1 (IntKind.wrap .i64 (x51.from_ + 1)) (InR.wrap _ _) (min x51.to_ (x0.l.length:Int)) (InR.min r61 (qaj h2)) o122 r127 x0 h2 h4 r5 o75 h92 e129 hG ok) rfl rfl ?_
 rintro _ w ⟨c130,M131,⟨rfl,ok⟩,h132⟩
 refine ⟨_,rfl,fun a E=>?_⟩
 refine wpList_nil<|qac<|qaa<|qab<|lw E (qaE rfl rfl (InR.inc r36 (qaj h21) c40)) fun a E=>mv E rfl fun a E=>wpList_nil ?_
 cases hF
 exact qao ⟨m116,c130,M131,le_m19,(ok.pk 5 [0,1,2,3] rfl (by decide)),E.keep [2,3,4,5,9,22,23,24],(InR.inc r36 (qaj h21) c40),h132⟩
theorem qhY:qdQ 0:=by
 intro u m0 S w from_0 rfrom_0 to_1 rto_1 e_2 re_2 pb0 c1 c3 x0 h2 h4 r5 pb1 c6 M7 x1 h8 pb2 r hF hG ok
 replace hF:none = some r:=hF
 cases hF
theorem qg0 (N:Nat):qdQ N:=by
 induction N with
 | zero=>exact qhY
 | succ N h=>exact qh1 N h
theorem qi1 {u:World} {m0:Mem} {S:Segs} {w:World} (N:Nat) (from_0:Int) (rfrom_0:InR .i64 from_0) (to_1:Int) (rto_1:InR .i64 to_1) (e_2:Int) (re_2:InR .i64 e_2) {pb0:Nat} {c1:Value} {c3:Value} (x0:Text) (h2:(pL 1 (pI .i64)) m0 [c1] x0.l) (h4:(pL 1 (pI .i64)) m0 [c3] x0.end_) (r5:InR .i64 x0.depth) {pb1:Nat} {c6:Value} {M7:List (Nat × Obj)} (x1:List (Int)) (h8:ORow 3 1 (pI .i64) m0 c6 x1 M7) {pb2:Nat} {r:(List (Int))} (hF:qcZ N from_0 to_1 e_2 x0 x1 = some r) (hG:Glob u) (ok:Ok u m0 ([(pb0,oc 98 [c1,c3,vi x0.depth])] :: [(pb1,oc 26 [c6])] :: M7 :: [(pb2,oc 113 [(Value.func (.func 53) #[] #[.pointer (some ⟨pb0,0,none⟩),.pointer (some ⟨pb1,0,none⟩),.pointer (some ⟨pb2,0,none⟩)])])] :: S) w) :
 Calls Tryz.prog 53 [vi from_0,vi to_1,vi e_2,vp pb0,vp pb1,vp pb2].toArray w fun e w'=>∃ c9 M10,(e = .returned (.tuple [].toArray) ∧ Ok u m0 ([(pb0,oc 98 [c1,c3,vi x0.depth])] :: [(pb1,oc 26 [c9])] :: M10 :: [(pb2,oc 113 [(Value.func (.func 53) #[] #[.pointer (some ⟨pb0,0,none⟩),.pointer (some ⟨pb1,0,none⟩),.pointer (some ⟨pb2,0,none⟩)])])] :: S) w') ∧ ORow 3 1 (pI .i64) m0 c9 r M10:=(qg0 N) from_0 rfrom_0 to_1 rto_1 e_2 re_2 x0 h2 h4 r5 x1 h8 hF hG ok
def qki (u:World) (m0:Mem) (S:Segs) (r:(List (Int))) (a:Act) (w:World):Prop :=
 ∃ m1 v0,m0.le m1 ∧ Ok u m1 S w ∧ a.defers = [] ∧ RVs Tryz.prog a w [.t 4 v0] ∧ (pL 1 (pI .i64)) m1 [v0] r
theorem qke (N:Nat) (vt_0:List Value) (t_0:Text) (ht_0:qnt m0 vt_0 t_0) (rtl_1:Bool) {r:(List (Int))} (hF:qeT N t_0 rtl_1 = some r) (hG:Glob u) (ok:Ok u m0 S w) :
  Calls Tryz.prog 36 [.agg vt_0.toArray,vb rtl_1].toArray w fun e w'=>∃ m1 v0,e = .returned v0 ∧ m0.le m1 ∧ Ok u m1 S w' ∧ (pL 1 (pI .i64)) m1 [v0] r:=by
 obtain ⟨c1,c3,rfl,h2,h4,r5⟩:=ht_0
 have le_m0:=Mem.le.refl m0
 unfold qeT at hF
 refine en (qki u m0 S) r Tryz.func36 rfl rfl rfl (fun _ _ h=>rc h fun _=>rfl) fun fin a E=>sg<|qbF E ok rfl rfl rfl fun b6 a w E ok=>aw E rfl fun a E=>sg<|fk E ok qfU qcR rfl 0 rfl rfl fun a E=>lv E ok (qaP qat h2 rfl) fun a E=>bd hF fun l7 e8 hF=>qcS (R:=(pI .i64)) E ok qat qbn rfl (qaX (ir 0)) rfl e8 rfl rfl fun c9 M10 a w E ok h11=>qa4 E ok qrQ rfl rfl fun b12 a w E ok=>qax E ok 0 rfl rfl rfl qlz (ORow.cells h11) rfl ⟨(ORow.one h11),trivial⟩ rfl rfl fun w ok=>wn<|sg<|qa4 E ok qqP rfl rfl fun b13 a w E ok=>wn<|sg<|lv E ok (qll (caps:=[.tmp 2,.tmp 5,.tmp 6]) rfl) fun a E=>qax E ok 0 rfl rfl rfl qrV rfl rfl ⟨rfl,trivial⟩ rfl rfl fun w ok=>wn ?_
 refine sg<|aw E rfl fun a E=>wp_seq<|sg<|mv E rfl fun a E=>wn<|bd hF fun o14 hJ hF=>qaH (Q':=fun e a w=>e = .normal ∧ Ok u m0 ([(b13,oc 113 [(Value.func (.func 53) #[] #[.pointer (some ⟨b6,0,none⟩),.pointer (some ⟨b12,0,none⟩),.pointer (some ⟨b13,0,none⟩)])])] :: [(b12,oc 26 [c9])] :: M10 :: [(b6,oc 98 [c1,c3,vi t_0.depth])] :: S) w ∧ Env 21 a [(2,vp b6),(5,vp b12),(6,vp b13),(7,vi o14)] ∧ InR .i64 o14) ?_ ?_
 ·have hF:=hJ
  refine cg E rfl hF (fun c16 hF=>?_) fun c16 hF=>?_
  ·refine wp_skip ?_
   cases hF
   exact ⟨rfl,⟨ok,E.keep [2,5,6,7],(ir 0)⟩⟩
  refine qab<|av E rfl fun a E=>wpList_nil ?_
  cases hF
  exact ⟨rfl,⟨ok,E.keep [2,5,6,7],(ir 1)⟩⟩
 intro e a w hO
 obtain ⟨rfl,ok,E,r17⟩:=hO
 refine qaa<|sg<|ld E ok qkK 0 rfl rfl rfl fun a E=>fk E ok qfU qcR rfl 3 rfl rfl fun a E=>lv E ok (qaP qat h2 rfl) fun a E=>mv E rfl fun a E=>?_
 obtain ⟨r18,e19,hF⟩:=bnd hF
 replace ok:Ok u m0 ([(b6,oc 98 [c1,c3,vi t_0.depth])] :: [(b12,oc 26 [c9])] :: M10 :: [(b13,oc 113 [(Value.func (.func 53) #[] #[.pointer (some ⟨b6,0,none⟩),.pointer (some ⟨b12,0,none⟩),.pointer (some ⟨b13,0,none⟩)])])] :: S) w:=(ok.pk 4 [3,1,2,0] rfl (by decide))
 refine qiY E rfl qns rfl (qi1 N 0 (ir 0) (t_0.l.length:Int) (qaj h2) o14 r17 t_0 h2 h4 r5 l7 h11 e19 hG ok) rfl rfl ?_
 rintro _ w ⟨c20,M21,⟨rfl,ok⟩,h22⟩
 refine ⟨_,rfl,fun a E=>?_⟩
 refine wn<|sg<|ld E ok qcR 1 rfl rfl rfl fun a E=>aw E rfl fun a E=>wp_ret ?_
 obtain ⟨m23,hle,ok,hfz⟩:=(ok.frs 2 rfl).freeze
 have h24:=ORow.froz (mI .i64) h22 hle hfz (by decide)
 have le_m0:=le_m0.trans hle
 have h2:=(mL (mI .i64)).up hle h2
 have h4:=(mL (mI .i64)).up hle h4
 exact fin hF ⟨m23,c20,le_m0,ok.drop.drop.drop,E.d,rz E rfl,h24⟩
def qng (u:World) (m0:Mem) (S:Segs) (r:(List (Int)) × Int) (a:Act) (w:World):Prop :=
 ∃ m1 v0,m0.le m1 ∧ Ok u m1 S w ∧ a.defers = [] ∧ RVs Tryz.prog a w [.t 4 v0,.t 5 (.int .i64 r.2)] ∧ (pL 1 (pI .i64)) m1 [v0] r.1 ∧ InR .i64 r.2
theorem qnb (N:Nat) (s_0:List UInt8) (ls_0:s_0.length ≤ LIMS) (rtl_1:Bool) {r:(List (Int)) × Int} (hF:qfv N s_0 rtl_1 = some r) (hG:Glob u) (ok:Ok u m0 S w) :
  Calls Tryz.prog 17 [vs s_0,vb rtl_1].toArray w fun e w'=>∃ m1 v0,e = .returned (.tuple [v0,(.int .i64 r.2)].toArray) ∧ m0.le m1 ∧ Ok u m1 S w' ∧ (pL 1 (pI .i64)) m1 [v0] r.1 ∧ InR .i64 r.2:=by
 have le_m0:=Mem.le.refl m0
 unfold qfv at hF
 refine en (qng u m0 S) r Tryz.func17 rfl rfl rfl (by rintro a w ⟨m1,v0,hle,ok,hd,hrv,h0,h1⟩; exact qaT [.t 4 v0,.t 5 (.int .i64 r.2)] hd rfl hrv ⟨m1,v0,rfl,hle,ok,h0,h1⟩) fun fin a E=>sg<|av E rfl fun a E=>aw E rfl fun a E=>sg<|mv E rfl fun a E=>bd hF fun r1 e2 hF=>qaf E qtQ rfl (qox N s_0 ls_0 e2 hG ok) rfl rfl ?_
 rintro _ w ⟨m3,vs4,rfl,hle,ok,h5⟩
 have le_m0:=le_m0.trans hle
 obtain ⟨c6,c8,rfl,h7,h9,r10⟩:=h5
 refine ⟨_,rfl,fun a E=>?_⟩
 refine qa4 E ok qkQ rfl rfl fun b11 a w E ok=>qax E ok 0 rfl rfl rfl qn4 rfl rfl ⟨(qdk h7),(qdk h9),rfl,trivial⟩ rfl rfl fun w ok=>wn<|wp_seq<|sg<|fv E qmq rfl fun a E=>ld E ok qam 0 rfl rfl rfl fun a E=>lw E (qaK rfl rfl) fun a E=>wn<|cf E rfl hF (fun c12 hF=>?_) fun c12 hF=>?_
 ·refine sg<|av E rfl fun a E=>aw E rfl fun a E=>wp_ret<|qad ?_
  exact fin hF ⟨m3,(.slice none 0 0),le_m0,ok.drop,E.d,⟨rv_t E rfl,rv_t E rfl,trivial⟩,qaI,(ir 6)⟩
 refine wp_skip<|qaa<|sg<|lv E ok (qan (cs:=[c6,c8,vi r1.depth]) qks rfl rfl (Holds.own 0 rfl rfl)) fun a E=>mv E rfl fun a E=>bd hF fun r13 e14 hF=>qaf E qts rfl (qke N _ r1 ⟨_,_,rfl,h7,h9,r10⟩ rtl_1 e14 hG ok) rfl rfl ?_
 rintro _ w ⟨m15,c16,rfl,hle,ok,h17⟩
 have le_m0:=le_m0.trans hle
 have h7:=(mL (mI .i64)).up hle h7
 have h9:=(mL (mI .i64)).up hle h9
 refine ⟨_,rfl,fun a E=>?_⟩
 refine av E rfl fun a E=>aw E rfl fun a E=>wp_ret ?_
 exact fin hF ⟨m15,c16,le_m0,ok.drop,E.d,⟨rv_t E rfl,rv_t E rfl,trivial⟩,h17,(ir 0)⟩
def qka (u:World) (m0:Mem) (S:Segs) (r:(List (Int))) (a:Act) (w:World):Prop :=
 ∃ m1 v0,m0.le m1 ∧ Ok u m1 S w ∧ a.defers = [] ∧ RVs Tryz.prog a w [.t 2 v0] ∧ (pL 1 (pI .i64)) m1 [v0] r
theorem qn1 (N:Nat) (vlevels_0:Value) (levels_0:List (Int)) (hlevels_0:(pL 1 (pI .i64)) m0 [vlevels_0] levels_0) {r:(List (Int))} (hF:qgd N levels_0 = some r) (hG:Glob u) (ok:Ok u m0 S w) :
  Calls Tryz.prog 18 [vlevels_0].toArray w fun e w'=>∃ m1 v0,e = .returned v0 ∧ m0.le m1 ∧ Ok u m1 S w' ∧ (pL 1 (pI .i64)) m1 [v0] r:=by
 have le_m0:=Mem.le.refl m0
 unfold qgd at hF
 refine en (qka u m0 S) r Tryz.func18 rfl rfl rfl (fun _ _ h=>rc h fun _=>rfl) fun fin a E=>sg<|aw E rfl fun a E=>sg<|aw E rfl fun a E=>sg<|aw E rfl fun a E=>wp_seq<|sg<|mv E rfl fun a E=>lv E ok (qaP qat hlevels_0 rfl) fun a E=>mv E rfl fun a E=>wn<|wp_block ?_
 obtain ⟨M8,ok,h9⟩:=qcY (e:=3) (k:=1) (R:=(pI .i64)) ok
 refine bd hF fun o10 hL hF=>qa7 _ (fun (s:Int × (List (Int)) × Int) a w=>∃ c12 M13,Ok u m0 (M13 :: S) w ∧ Env 76 a [(0,vlevels_0),(3,vi s.1),(4,c12),(10,vlevels_0),(11,(vi (levels_0.length:Int))),(12,vi s.2.2)] ∧ InR .i64 s.1 ∧ ORow 3 1 (pI .i64) m0 c12 s.2.1 M13 ∧ InR .i64 s.2.2) (fun (b:((Int × (List (Int))) ⊕ ((List (Int))))) e a w=>(Sum.elim (fun b156=>e = (.exit 0) ∧ ∃ c158 M159,Ok u m0 (M159 :: S) w ∧ Env 76 a [(0,vlevels_0),(3,vi b156.1),(4,c158)] ∧ InR .i64 b156.1 ∧ ORow 3 1 (pI .i64) m0 c158 b156.2 M159) (fun b161=>e = .ret ∧ qka u m0 S b161 a w)) b) ?_ ?_ N _ a w hL ⟨(Value.slice none 0 0),M8,ok,E.keep [0,3,4,10,11,12],(ir 0),h9,(ir 0)⟩
 ·as_aux_lemma =>
   rintro ⟨v16,v17,v18⟩ a w r ⟨c20,M21,ok,E,r19,h22,r23⟩ hF
   replace hF:qee N levels_0 v16 v17 v18 = some r:=hF
   unfold qee at hF
   refine sg<|lw E (qap rfl rfl) fun a E=>wn<|wp_seq<|cg E rfl hF (fun c24 hF=>?_) fun c24 hF=>?_
   ·refine wp_exit<|qaM ?_
    cases hF
    exact so (sl ⟨rfl,⟨c20,M21,ok,E.keep [0,3,4],r19,h22⟩⟩)
   refine wp_skip<|qaa<|wp_seq<|wp_block<|sg<|mv E rfl fun a E=>?_
   obtain ⟨x25,e26,hF⟩:=bnd hF
   obtain ⟨b27,o28,es29,hl30,rr31,at32,yy33⟩:=ia E 10 12 qat hlevels_0 e26
   obtain ⟨rfl,r34⟩:=rr31
   refine lv E ok (yy33 _ _) fun a E=>lv E ok (qal qam rfl (Holds.ro at32)) fun a E=>av E rfl fun a E=>aw E rfl fun a E=>wp_seq<|sg<|mv E rfl fun a E=>lw E (qap rfl rfl) fun a E=>mv E rfl fun a E=>bu E 19 hF (fun c35 hF E=>?_) fun c35 hF E=>?_
   ·refine lsq E fun a E=>pt E rfl rfl fun a E=>wn<|c_if E rfl (fun _=>?_) (fun h=>by cases h)
    refine sg<|aw E rfl fun a E=>wp_ret<|qad<|qak<|qad ?_
    cases hF
    exact so (sr ⟨rfl,⟨m0,(.slice none 0 0),le_m0,ok.drop,E.d,rz E rfl,qaI⟩⟩)
   refine mv E rfl fun a E=>lw E (qaK rfl rfl) fun a E=>pf E rfl rfl fun a E=>wn<|cf E rfl hF (fun c36 hF=>?_) fun c36 hF=>?_
   ·refine sg<|aw E rfl fun a E=>wp_ret<|qad<|qak<|qad ?_
    cases hF
    exact so (sr ⟨rfl,⟨m0,(.slice none 0 0),le_m0,ok.drop,E.d,rz E rfl,qaI⟩⟩)
   refine wp_skip<|qaa<|sg<|mz E rfl rfl fun a E=>lw E (qpv rfl rfl) fun a E=>av E rfl fun a E=>wn<|qab<|mz E rfl rfl fun a E=>qa6 (R:=(pI .i64)) (xo:=[.tmp 27]) (xs:=([v18]:List (Int))) E ok qat qbn rfl ⟨⟨_,rfl,rfl,(qaX r23)⟩,trivial⟩ rfl rfl rfl rfl fun c37 M38 a w E ok h39=>?_
   refine bd hF fun l40 e41 hF=>qb0 (R:=(pI .i64)) E ok 1 (mI .i64) qat Tryz.underlying26 rfl h22 (qbf.ofRow h39 0 rfl ok) e41 ⟨_,qbn,rfl⟩ rfl rfl rfl rfl fun c42 M43 a w E ok h44=>av E rfl fun a E=>wpList_nil<|qac<|qaa<|qab<|lw E (qaE rfl rfl (InR.inc r23 (qaj hlevels_0) c24)) fun a E=>mv E rfl fun a E=>wpList_nil ?_
   cases hF
   exact qao ⟨c42,M43,(ok.pk 2 [1] rfl (by decide)),E.keep [0,3,4,10,11,12],(InR.max r19 r34),h44,(InR.inc r23 (qaj hlevels_0) c24)⟩
 intro e a w _ hO
 rcases o10 with o10 | o10
 rotate_left
 ·obtain ⟨rfl,hret⟩:=hO
  refine qak<|qad ?_
  exact fin hF hret
 have hF:=qcj hF
 obtain ⟨rfl,c46,M47,ok,E,r45,h48⟩:=hO
 refine qa0<|qaa<|wp_seq<|sg<|mv E rfl fun a E=>av E rfl fun a E=>wn<|wp_block<|bd hF fun o54 hL hF=>qa7 _ (fun (s:Int × (List (Int))) a w=>∃ c56 M57,Ok u m0 (M57 :: S) w ∧ Env 76 a [(0,vlevels_0),(4,c56),(7,vi s.1)] ∧ InR .i64 s.1 ∧ ORow 3 1 (pI .i64) m0 c56 s.2 M57) (fun (b:((List (Int)))) e a w=>e = (.exit 2) ∧ ∃ c153 M154,Ok u m0 (M154 :: S) w ∧ Env 76 a [(4,c153)] ∧ ORow 3 1 (pI .i64) m0 c153 b M154) ?_ ?_ N _ a w hL ⟨c46,M47,ok,E.keep [0,4,7],r45,h48⟩
 rotate_left
 ·intro e a w _ hO
  obtain ⟨rfl,c148,M149,ok,E,h150⟩:=hO
  refine qa0<|qaa<|sg<|mv E rfl fun a E=>aw E rfl fun a E=>wp_ret ?_
  obtain ⟨m151,hle,ok,hfz⟩:=(ok.frs 0 rfl).freeze
  have h152:=ORow.froz (mI .i64) h150 hle hfz (by decide)
  have le_m0:=le_m0.trans hle
  have hlevels_0:=(mL (mI .i64)).up hle hlevels_0
  exact fin hF ⟨m151,c148,le_m0,ok,E.d,rz E rfl,h152⟩
 rintro ⟨v59,v60⟩ a w r ⟨c62,M63,ok,E,r61,h64⟩ hF
 replace hF:qeg N levels_0 v59 v60 = some r:=hF
 unfold qeg at hF
 refine wp_seq<|sg<|mv E rfl fun a E=>lw E (qaq rfl rfl) fun a E=>wn<|cg E rfl hF (fun c65 hF=>?_) fun c65 hF=>?_
 ·refine wp_exit<|qaM ?_
  cases hF
  exact so (⟨rfl,⟨c62,M63,ok,E.keep [4],h64⟩⟩)
 refine wp_skip<|qaa<|wp_seq<|wp_block<|sg<|av E rfl fun a E=>wn<|wp_block<|bd hF fun o71 hL hF=>qa7 _ (fun (s:Int × (List (Int))) a w=>∃ c73 M74,Ok u m0 (M74 :: S) w ∧ Env 76 a [(0,vlevels_0),(4,c73),(7,vi v59),(8,vi s.1)] ∧ InR .i64 s.1 ∧ ORow 3 1 (pI .i64) m0 c73 s.2 M74) (fun (b:((List (Int)))) e a w=>e = (.exit 4) ∧ ∃ c145 M146,Ok u m0 (M146 :: S) w ∧ Env 76 a [(0,vlevels_0),(4,c145),(7,vi v59)] ∧ ORow 3 1 (pI .i64) m0 c145 b M146) ?_ ?_ N _ a w hL ⟨c62,M63,ok,E.keep [0,4,7,8],(ir 0),h64⟩
 rotate_left
 ·intro e a w _ hO
  obtain ⟨rfl,c142,M143,ok,E,h144⟩:=hO
  refine qa0<|qac<|qaa<|qab<|mv E rfl fun a E=>lw E (qbI rfl rfl) fun a E=>av E rfl fun a E=>wpList_nil ?_
  cases hF
  exact qao ⟨c142,M143,ok,E.keep [0,4,7],(InR.wrap _ _),h144⟩
 rintro ⟨v76,v77⟩ a w r ⟨c79,M80,ok,E,r78,h81⟩ hF
 replace hF:qdI N levels_0 v59 v76 v77 = some r:=hF
 unfold qdI at hF
 refine wp_seq<|sg<|mz E rfl rfl fun a E=>lv E ok (qb7 qat h81 rfl) fun a E=>lw E (qap rfl rfl) fun a E=>wn<|cg E rfl hF (fun c82 hF=>?_) fun c82 hF=>?_
 ·refine wp_exit<|qaM ?_
  cases hF
  exact so (⟨rfl,⟨c79,M80,ok,E.keep [0,4,7],h81⟩⟩)
 refine wp_skip<|qaa<|wp_block<|wp_seq<|sg<|mz E rfl rfl fun a E=>mv E rfl fun a E=>?_
 obtain ⟨x83,e84,hF⟩:=bnd hF
 obtain ⟨b85,o86,hp87,yy88⟩:=qbC qat h81 e84 (P:=Tryz.prog) (X:=.tmp 41) (I:=.tmp 42) (kd:=.i64) (qaJ E rfl) (qaJ E rfl)
 refine lv E ok (yy88 _ _) fun a E=>?_
 obtain ⟨es89,hl90,rr91,hh92⟩:=qds h81 e84 hp87 (by decide)
 obtain ⟨rfl,r93⟩:=rr91
 refine lv E ok (qal qam rfl (hh92 _ _ _ 0 rfl)) fun a E=>?_
 obtain ⟨x94,e95,hF⟩:=bnd hF
 obtain ⟨b96,o97,es98,hl99,rr100,at101,yy102⟩:=ia E 40 44 qat hlevels_0 e95
 obtain ⟨rfl,r103⟩:=rr100
 refine lv E ok (yy102 _ _) fun a E=>lv E ok (qal qam rfl (Holds.ro at101)) fun a E=>mv E rfl fun a E=>lw E (qap rfl rfl) fun a E=>wn<|cf E rfl hF (fun c104 hF=>?_) fun c104 hF=>?_
 ·refine sg<|mv E rfl fun a E=>lw E (qaE rfl rfl (InR.inc r78 (ORow.InR h81) c82)) fun a E=>aw E rfl fun a E=>wp_exit<|qaM<|qa0 ?_
  cases hF
  exact qao ⟨c79,M80,ok,E.keep [0,4,7,8],(InR.inc r78 (ORow.InR h81) c82),h81⟩
 refine wp_skip<|qaa<|sg<|mv E rfl fun a E=>aw E rfl fun a E=>wp_seq<|wp_block<|bd hF fun o106 hL hF=>qa7 _ (fun (s:Int) a w=>Ok u m0 (M80 :: S) w ∧ Env 76 a [(0,vlevels_0),(4,c79),(7,vi v59),(8,vi v76),(9,vi s)] ∧ InR .i64 s) (fun (b:Int) e a w=>e = (.exit 6) ∧ Ok u m0 (M80 :: S) w ∧ Env 76 a [(0,vlevels_0),(4,c79),(7,vi v59),(8,vi v76),(9,vi b)] ∧ InR .i64 b) ?_ ?_ N _ a w hL ⟨ok,E.keep [0,4,7,8,9],r78⟩
 rotate_left
 ·intro e a w _ hO
  obtain ⟨rfl,ok,E,r133⟩:=hO
  refine qa0<|qaa<|sg<|mz E rfl rfl fun a E=>mv E rfl fun a E=>?_
  obtain ⟨l134,e135,hF⟩:=bnd hF
  obtain ⟨c136,hp137,yy138⟩:=ORow.partR qat h81 e135 (P:=Tryz.prog) (X:=.tmp 69) (lov:=(some (.tmp 70))) (hiv:=(some (.tmp 71))) (qaJ E rfl) (qey E ⟨_,rfl⟩) (qey E ⟨_,rfl⟩)
  refine lv E ok (yy138 _ _) fun a E=>qaf E qtT rfl (qoI Tryz.lays112 0 rfl h81 e135 hp137 ok) rfl rfl ?_
  rintro _ w ⟨rfl,M139,h140,ok⟩
  refine ⟨_,rfl,fun a E=>?_⟩
  refine wn<|qab<|mv E rfl fun a E=>av E rfl fun a E=>wpList_nil<|qac ?_
  cases hF
  exact qao ⟨c79,M139,ok,E.keep [0,4,7,8],r133,h140⟩
 rintro v108 a w r ⟨ok,E,r109⟩ hF
 replace hF:qdK N levels_0 v59 v77 v108 = some r:=hF
 unfold qdK at hF
 refine wp_seq<|sg<|mz E rfl rfl fun a E=>lv E ok (qb7 qat h81 rfl) fun a E=>lw E (qap rfl rfl) fun a E=>mv E rfl fun a E=>bw E 56 hF (fun c110 hF E=>?_) fun c110 hF E=>?_
 ·refine lsz E fun a E=>lsz E fun a E=>ls E fun a E=>pf E rfl rfl fun a E=>wn<|c_if E rfl (fun h=>by cases h) (fun _=>?_)
  refine wp_exit<|qaM ?_
  cases hF
  exact so (⟨rfl,⟨ok,E.keep [0,4,7,8,9],r109⟩⟩)
 refine mz E rfl rfl fun a E=>mv E rfl fun a E=>?_
 obtain ⟨x111,e112,hF⟩:=bnd hF
 obtain ⟨b113,o114,hp115,yy116⟩:=qbC qat h81 e112 (P:=Tryz.prog) (X:=.tmp 58) (I:=.tmp 59) (kd:=.i64) (qaJ E rfl) (qaJ E rfl)
 refine lv E ok (yy116 _ _) fun a E=>?_
 obtain ⟨es117,hl118,rr119,hh120⟩:=qds h81 e112 hp115 (by decide)
 obtain ⟨rfl,r121⟩:=rr119
 refine lv E ok (qal qam rfl (hh120 _ _ _ 0 rfl)) fun a E=>?_
 obtain ⟨x122,e123,hF⟩:=bnd hF
 obtain ⟨b124,o125,es126,hl127,rr128,at129,yy130⟩:=ia E 57 61 qat hlevels_0 e123
 obtain ⟨rfl,r131⟩:=rr128
 refine lv E ok (yy130 _ _) fun a E=>lv E ok (qal qam rfl (Holds.ro at129)) fun a E=>mv E rfl fun a E=>lw E (qaq rfl rfl) fun a E=>pt E rfl rfl fun a E=>wn<|cg E rfl hF (fun c132 hF=>?_) fun c132 hF=>?_
 ·refine wp_exit<|qaM ?_
  cases hF
  exact so (⟨rfl,⟨ok,E.keep [0,4,7,8,9],r109⟩⟩)
 refine wp_skip<|qaa<|wp_block<|qab<|mv E rfl fun a E=>lw E (qaE rfl rfl (InR.inc r109 (ORow.InR h81) c110)) fun a E=>av E rfl fun a E=>wpList_nil<|qac ?_
 cases hF
 exact qao ⟨ok,E.keep [0,4,7,8,9],(InR.inc r109 (ORow.InR h81) c110)⟩
end Go.Proofs.YthhieiabfpkaaaaGreatDoor
namespace Go.Proofs.YthhieiabfpkaaaaGreatDoor
open Go.X
structure Span where
 From:Int
 To:Int
structure Relation where
 Operand:Int
 Mod:Int
 Not:Bool
 Spans:List (Span)
structure Rule where
 Class:List UInt8
 Cond:List (List (Relation))
structure Symbols where
 Decimal:List UInt8
 Group:List UInt8
 Minus:List UInt8
 Percent:List UInt8
 Primary:Int
 Secondary:Int
structure ListPattern where
 Style:List UInt8
 Two:List UInt8
 Start:List UInt8
 Middle:List UInt8
 End:List UInt8
structure UnitPattern where
 Unit:List UInt8
 Class:List UInt8
 Pattern:List UInt8
structure DatePattern where
 Skeleton:List UInt8
 Pattern:List UInt8
structure Locale where
 Tag:List UInt8
 Parent:List UInt8
 Direction:List UInt8
 Cardinal:List (Rule)
 Ordinal:List (Rule)
 Symbols:Symbols
 Lists:List (ListPattern)
 Units:List (UnitPattern)
 Dates:List (DatePattern)
 Months:List (List UInt8)
 Days:List (List UInt8)
structure ValueT where
 Name:List UInt8
 Type_:Int
 Text:List UInt8
 Date:Int
 List:List (List UInt8)
structure Writer where
 Builder:Builder
 loc:Locale
 values:List (ValueT)
 isolated:Bool
 e:Int
def qb4 (_N:Nat) (s_1:List UInt8) (x0:Writer):Option (Int × Unit × Writer) :=
 (app x0.Builder.buf (ints s_1)).bind fun l63 =>
 some ((s_1.length:Int),(),(Writer.mk (Builder.mk () l63) x0.loc x0.values x0.isolated x0.e))
def qea (_N:Nat) (x0:Writer):Option Int :=
 some (x0.Builder.buf.length:Int)
def qcx (N:Nat) (s_1:List UInt8) (x0:Writer):Option Writer :=
 (qb4 N s_1 (Writer.mk (Builder.mk () x0.Builder.buf) x0.loc x0.values x0.isolated x0.e)).bind fun r63 =>
 (qea N (Writer.mk (Builder.mk () r63.2.2.Builder.buf) r63.2.2.loc r63.2.2.values r63.2.2.isolated r63.2.2.e)).bind fun r98 =>
 bif (decide (r98 > 20000)) then
  some (Writer.mk (Builder.mk () r63.2.2.Builder.buf) r63.2.2.loc r63.2.2.values r63.2.2.isolated 6)
 else
  some (Writer.mk (Builder.mk () r63.2.2.Builder.buf) r63.2.2.loc r63.2.2.values r63.2.2.isolated r63.2.2.e)
def qd4 (N:Nat) (s_1:List UInt8) (e_2:Int) (x0:Writer):Option Writer :=
 bif (e_2 != 0) then
  some (Writer.mk (Builder.mk () x0.Builder.buf) x0.loc x0.values x0.isolated e_2)
 else
  bif x0.isolated then
   (qd3 N s_1).bind fun r65 =>
   (qcx N r65 (Writer.mk (Builder.mk () x0.Builder.buf) x0.loc x0.values x0.isolated x0.e)).bind fun r68 =>
   some (Writer.mk (Builder.mk () r68.Builder.buf) r68.loc r68.values r68.isolated r68.e)
  else
   (qcx N s_1 (Writer.mk (Builder.mk () x0.Builder.buf) x0.loc x0.values x0.isolated x0.e)).bind fun r102 =>
   some (Writer.mk (Builder.mk () r102.Builder.buf) r102.loc r102.values r102.isolated r102.e)
def qgj (_N:Nat) (v_0:ValueT) (x0:List UInt8):Option Bool :=
 some (v_0.Name == x0)
def qbm (N:Nat) (s_0:List (ValueT)) (x0:List UInt8) (x_5:Int):Option (Int ⊕ ((Unit ⊕ Int))) :=
 bif (decide (x_5 < (s_0.length:Int))) then
  (idx s_0 x_5).bind fun x8 =>
  (qgj N x8 x0).bind fun r23 =>
  bif r23 then
   some (.inr (.inr x_5))
  else
   some (.inl (x_5 + 1))
 else
  some (.inr (.inl ()))
def qbu (N:Nat) (s_0:List (ValueT)) (x0:List UInt8):Option Int :=
 (iter (fun s=>qbm N s_0 x0 s) N 0).bind fun o3 =>
 Sum.elim (fun _o3 =>
  some (-1))
 (fun o3 =>
  some o3) o3
def qei (N:Nat) (values_0:List (ValueT)) (name_1:List UInt8):Option (ValueT × Bool) :=
 (qbu N values_0 name_1).bind fun r3 =>
 bif (decide (r3 < 0)) then
  some ((ValueT.mk ([]) 0 ([]) 0 ([])),false)
 else
  (idx values_0 r3).bind fun x7 =>
  (qn5 x7.List).bind fun l23 =>
  some ((ValueT.mk x7.Name x7.Type_ x7.Text x7.Date l23),true)
def qfI (_N:Nat) (v_0:ValueT):Option Bool :=
 bif (v_0.Type_ == 1) then
  bif (v_0.Date == 0) then
   some ((v_0.List.length:Int) == 0)
  else
   some false
 else
  bif (v_0.Type_ == 2) then
   none
  else
   bif (v_0.Type_ == 3) then
    bif (v_0.Text == ([])) then
     some ((v_0.List.length:Int) == 0)
    else
     some false
   else
    bif (v_0.Type_ == 4) then
     bif (v_0.Text == ([])) then
      some (v_0.Date == 0)
     else
      some false
    else
     some false
def qjS (_N:Nat) (kind_0:Int) (v_1:ValueT):Option Bool :=
 bif (kind_0 == 2) then
  some (v_1.Type_ != 4)
 else
  bif (kind_0 == 5) then
   some (v_1.Type_ == 3)
  else
   bif (kind_0 == 6) then
    some (v_1.Type_ == 4)
   else
    some (v_1.Type_ == 2)
def qfA (N:Nat) (loc_0:Locale) (x_1:Part) (v_2:ValueT):Option ((List UInt8) × Int) :=
 bif (decide (x_1.Kind < 2)) then
  some ([],1)
 else
  bif (decide (x_1.Kind > 6)) then
   some ([],1)
  else
   (qfI N v_2).bind fun r43 =>
   bif (!r43) then
    some ([],11)
   else
    (qjS N x_1.Kind v_2).bind fun r46 =>
    bif (!r46) then
     some ([],11)
    else
     bif (x_1.Kind == 3) then
      none
     else
      bif (x_1.Kind == 4) then
       none
      else
       bif (x_1.Kind == 5) then
        none
       else
        bif (x_1.Kind == 6) then
         none
        else
         bif (v_2.Type_ != 3) then
          some (v_2.Text,0)
         else
          none
def qbi (r_eval_writer_parts:List (Part) → List UInt8 → Writer → Option Writer) (r_eval_writer_part:Part → List UInt8 → Writer → Option Writer) (N:Nat) (l_1:List (Part)) (count_2:List UInt8) (x_130:Int) (x_131:Writer):Option ((Int × Writer) ⊕ ((Writer ⊕ Writer))) :=
 bif (decide (x_130 < (l_1.length:Int))) then
  (idx l_1 x_130).bind fun x166 =>
  bif (x_131.e != 0) then
   some (.inr (.inr (Writer.mk (Builder.mk () x_131.Builder.buf) x_131.loc x_131.values x_131.isolated x_131.e)))
  else
   (r_eval_writer_part x166 count_2 (Writer.mk (Builder.mk () x_131.Builder.buf) x_131.loc x_131.values x_131.isolated x_131.e)).bind fun r185 =>
   some (.inl ((x_130 + 1),(Writer.mk (Builder.mk () r185.Builder.buf) r185.loc r185.values r185.isolated r185.e)))
 else
  some (.inr (.inl (Writer.mk (Builder.mk () x_131.Builder.buf) x_131.loc x_131.values x_131.isolated x_131.e)))
def qcI (r_eval_writer_parts:List (Part) → List UInt8 → Writer → Option Writer) (r_eval_writer_part:Part → List UInt8 → Writer → Option Writer) (N:Nat) (l_1:List (Part)) (count_2:List UInt8) (x0:Writer):Option Writer :=
 (iter (fun s=>qbi r_eval_writer_parts r_eval_writer_part N l_1 count_2 s.1 s.2) N (0,(Writer.mk (Builder.mk () x0.Builder.buf) x0.loc x0.values x0.isolated x0.e))).bind fun o96 =>
 Sum.elim (fun o96 =>
  some (Writer.mk (Builder.mk () o96.Builder.buf) o96.loc o96.values o96.isolated o96.e))
 (fun o96 =>
  some o96) o96
def qbL (r_eval_writer_parts:List (Part) → List UInt8 → Writer → Option Writer) (r_eval_writer_part:Part → List UInt8 → Writer → Option Writer) (N:Nat) (x_1:Part) (count_2:List UInt8) (x0:Writer):Option Writer :=
 bif (x_1.Kind == 1) then
  (qcx N x_1.Text (Writer.mk (Builder.mk () x0.Builder.buf) x0.loc x0.values x0.isolated x0.e)).bind fun r73 =>
  some (Writer.mk (Builder.mk () r73.Builder.buf) r73.loc r73.values r73.isolated r73.e)
 else
  bif (x_1.Kind == 10) then
   none
  else
   bif (x_1.Kind == 11) then
    none
   else
    (show Option Bool from
     bif (x_1.Kind == 7) then
      some (x_1.Kind == 7)
     else
      bif (x_1.Kind == 8) then
       some (x_1.Kind == 8)
      else
       some (x_1.Kind == 9)).bind fun o109 =>
    bif o109 then
     none
    else
     (show Option (ValueT × Bool) from
      (qei N x0.values x_1.Name).bind fun r122 =>
      some (r122.1,r122.2)).bind fun o113 =>
     bif (!o113.2) then
      some (Writer.mk (Builder.mk () x0.Builder.buf) x0.loc x0.values x0.isolated 12)
     else
      (show Option Writer from
       (qfA N x0.loc x_1 o113.1).bind fun r196 =>
       (qd4 N r196.1 r196.2 (Writer.mk (Builder.mk () x0.Builder.buf) x0.loc x0.values x0.isolated x0.e)).bind fun r200 =>
       some (Writer.mk (Builder.mk () r200.Builder.buf) r200.loc r200.values r200.isolated r200.e)).bind fun o163 =>
      some (Writer.mk (Builder.mk () o163.Builder.buf) o163.loc o163.values o163.isolated o163.e)
def qaw:Nat → (List (Part) → List UInt8 → Writer → Option Writer) × (Part → List UInt8 → Writer → Option Writer)
 | 0=>(fun _ _ _=>none,fun _ _ _=>none)
 | N + 1=>(qcI (qaw N).1 (qaw N).2 N,qbL (qaw N).1 (qaw N).2 N)
def qcw (N:Nat):List (Part) → List UInt8 → Writer → Option Writer:=(qaw N).1
def qeN (N:Nat):Part → List UInt8 → Writer → Option Writer:=(qaw N).2
def qeV (N:Nat) (loc_0:Locale) (parts_1:List (Part)) (values_2:List (ValueT)) (isolated_3:Bool):Option ((List UInt8) × Int) :=
 (qeG N parts_1).bind fun r25 =>
 bif (!r25) then
  some ([],1)
 else
  (qcw N parts_1 ([]) (Writer.mk (Builder.mk () ([])) loc_0 values_2 isolated_3 0)).bind fun r31 =>
  bif (r31.e != 0) then
   some ([],r31.e)
  else
   some ((qaQ r31.Builder.buf),0)
end Go.Proofs.YthhieiabfpkaaaaGreatDoor
namespace Go.Proofs.YthhieiabfpkaaaaGreatDoor
open Go.X
variable {u:World} {m0:Mem} {S:Segs} {w:World}
set_option maxHeartbeats 4000000
set_option maxRecDepth 100000
def Tab (u:World):Prop:=Lib.TabIs Tryz.prog u "internal/strconv.uint64pow10" .u64 Lib.pow10Tab
def qrB:Rp Span:=fun _ cs x=>cs = [.int .i64 x.From,.int .i64 x.To] ∧ InR .i64 x.From ∧ InR .i64 x.To
theorem qrt:Mono qrB:=⟨fun _ h=>by
 obtain ⟨e,h0,h1⟩:=h
 exact ⟨e,h0,h1⟩,fun h=>by
 obtain ⟨rfl,h0,h1⟩:=h
 exact ⟨rfl,rfl,trivial⟩⟩
def qm1:Rp Relation:=fun m cs x=>∃ c3,cs = [.int .i64 x.Operand,.int .i64 x.Mod,.bool x.Not,c3] ∧ InR .i64 x.Operand ∧ InR .i64 x.Mod ∧ (pL 2 qrB) m [c3] x.Spans
theorem qmZ:Mono qm1:=⟨fun hm h=>by
 obtain ⟨c3,e,h0,h1,h3⟩:=h
 exact ⟨c3,e,h0,h1,(mL qrt).up hm h3⟩,fun h=>by
 obtain ⟨c3,rfl,h0,h1,h3⟩:=h
 exact ⟨rfl,rfl,rfl,((mL qrt).one h3).1,trivial⟩⟩
def qaN:Rp Rule:=fun m cs x=>∃ c1,cs = [.string (bs x.Class),c1] ∧ x.Class.length ≤ LIMS ∧ (pL 1 (pL 4 qm1)) m [c1] x.Cond
theorem qa9:Mono qaN:=⟨fun hm h=>by
 obtain ⟨c1,e,h0,h1⟩:=h
 exact ⟨c1,e,h0,(mL (mL qmZ)).up hm h1⟩,fun h=>by
 obtain ⟨c1,rfl,h0,h1⟩:=h
 exact ⟨rfl,((mL (mL qmZ)).one h1).1,trivial⟩⟩
def qaC:Rp ListPattern:=fun _ cs x=>cs = [.string (bs x.Style),.string (bs x.Two),.string (bs x.Start),.string (bs x.Middle),.string (bs x.End)] ∧ x.Style.length ≤ LIMS ∧ x.Two.length ≤ LIMS ∧ x.Start.length ≤ LIMS ∧ x.Middle.length ≤ LIMS ∧ x.End.length ≤ LIMS
theorem qaW:Mono qaC:=⟨fun _ h=>by
 obtain ⟨e,h0,h1,h2,h3,h4⟩:=h
 exact ⟨e,h0,h1,h2,h3,h4⟩,fun h=>by
 obtain ⟨rfl,h0,h1,h2,h3,h4⟩:=h
 exact ⟨rfl,rfl,rfl,rfl,rfl,trivial⟩⟩
def qaB:Rp UnitPattern:=fun _ cs x=>cs = [.string (bs x.Unit),.string (bs x.Class),.string (bs x.Pattern)] ∧ x.Unit.length ≤ LIMS ∧ x.Class.length ≤ LIMS ∧ x.Pattern.length ≤ LIMS
theorem qaV:Mono qaB:=⟨fun _ h=>by
 obtain ⟨e,h0,h1,h2⟩:=h
 exact ⟨e,h0,h1,h2⟩,fun h=>by
 obtain ⟨rfl,h0,h1,h2⟩:=h
 exact ⟨rfl,rfl,rfl,trivial⟩⟩
def qaA:Rp DatePattern:=fun _ cs x=>cs = [.string (bs x.Skeleton),.string (bs x.Pattern)] ∧ x.Skeleton.length ≤ LIMS ∧ x.Pattern.length ≤ LIMS
theorem qaU:Mono qaA:=⟨fun _ h=>by
 obtain ⟨e,h0,h1⟩:=h
 exact ⟨e,h0,h1⟩,fun h=>by
 obtain ⟨rfl,h0,h1⟩:=h
 exact ⟨rfl,rfl,trivial⟩⟩
def qiB:Rp Locale:=fun m cs x=>∃ c3 c4 c11 c12 c13 c14 c15,cs = [.string (bs x.Tag),.string (bs x.Parent),.string (bs x.Direction),c3,c4,.string (bs x.Symbols.Decimal),.string (bs x.Symbols.Group),.string (bs x.Symbols.Minus),.string (bs x.Symbols.Percent),.int .i64 x.Symbols.Primary,.int .i64 x.Symbols.Secondary,c11,c12,c13,c14,c15] ∧ x.Tag.length ≤ LIMS ∧ x.Parent.length ≤ LIMS ∧ x.Direction.length ≤ LIMS ∧ (pL 2 qaN) m [c3] x.Cardinal ∧ (pL 2 qaN) m [c4] x.Ordinal ∧ x.Symbols.Decimal.length ≤ LIMS ∧ x.Symbols.Group.length ≤ LIMS ∧ x.Symbols.Minus.length ≤ LIMS ∧ x.Symbols.Percent.length ≤ LIMS ∧ InR .i64 x.Symbols.Primary ∧ InR .i64 x.Symbols.Secondary ∧ (pL 5 qaC) m [c11] x.Lists ∧ (pL 3 qaB) m [c12] x.Units ∧ (pL 2 qaA) m [c13] x.Dates ∧ (pL 1 pS) m [c14] x.Months ∧ (pL 1 pS) m [c15] x.Days
def qaO:Rp ValueT:=fun m cs x=>∃ c4,cs = [.string (bs x.Name),.int .i64 x.Type_,.string (bs x.Text),.int .i64 x.Date,c4] ∧ x.Name.length ≤ LIMS ∧ InR .i64 x.Type_ ∧ x.Text.length ≤ LIMS ∧ InR .i64 x.Date ∧ (pL 1 pS) m [c4] x.List
theorem qbo:Mono qaO:=⟨fun hm h=>by
 obtain ⟨c4,e,h0,h1,h2,h3,h4⟩:=h
 exact ⟨c4,e,h0,h1,h2,h3,(mL mS).up hm h4⟩,fun h=>by
 obtain ⟨c4,rfl,h0,h1,h2,h3,h4⟩:=h
 exact ⟨rfl,rfl,rfl,rfl,((mL mS).one h4).1,trivial⟩⟩
theorem qfd:aggB Tryz.prog 46 16 = true:=by kernel_rfl
theorem qgP:aggB Tryz.prog 58 5 = true:=by kernel_rfl
theorem qso:qar Tryz.prog 58 0 0 = true:=by kernel_rfl
theorem qhr:qar Tryz.prog 58 1 1 = true:=by kernel_rfl
theorem qhw:qar Tryz.prog 58 2 2 = true:=by kernel_rfl
theorem qkG:qar Tryz.prog 58 3 3 = true:=by kernel_rfl
theorem qiX:qar Tryz.prog 58 4 4 = true:=by kernel_rfl
theorem qmt:qar Tryz.prog 70 0 0 = true:=by kernel_rfl
theorem qmT:qar Tryz.prog 70 1 2 = true:=by kernel_rfl
theorem qo2:qar Tryz.prog 70 2 18 = true:=by kernel_rfl
theorem qrK:qar Tryz.prog 70 3 19 = true:=by kernel_rfl
theorem qhy:qar Tryz.prog 70 4 20 = true:=by kernel_rfl
theorem qpG:goB Tryz.prog 15 = true:=by kernel_rfl
theorem qrv:goB Tryz.prog 19 = true:=by kernel_rfl
theorem qte:goB Tryz.prog 20 = true:=by kernel_rfl
theorem qtj:goB Tryz.prog 28 = true:=by kernel_rfl
theorem qti:goB Tryz.prog 39 = true:=by kernel_rfl
theorem qpc:goB Tryz.prog 59 = true:=by kernel_rfl
theorem qtu:goB Tryz.prog 60 = true:=by kernel_rfl
theorem qrq:goB Tryz.prog 64 = true:=by kernel_rfl
theorem qtc:goB Tryz.prog 65 = true:=by kernel_rfl
theorem go_8:goB Tryz.prog 8 = true:=by kernel_rfl
theorem qrA:goB Tryz.prog 83 = true:=by kernel_rfl
theorem qtp:goB Tryz.prog 92 = true:=by kernel_rfl
theorem qtn:goB Tryz.prog 93 = true:=by kernel_rfl
theorem qtW:goB Tryz.prog 94 = true:=by kernel_rfl
theorem qtY:goB Tryz.prog 95 = true:=by kernel_rfl
theorem qtZ:goB Tryz.prog 96 = true:=by kernel_rfl
theorem qlK:∃ i,Tryz.prog.info? 35 = some i ∧ i.size = 1:=⟨_,rfl,by kernel_rfl⟩
theorem qsE:∃ i,Tryz.prog.info? 44 = some i ∧ i.size = 1:=⟨_,rfl,by kernel_rfl⟩
theorem qkr:∃ i,Tryz.prog.info? 58 = some i ∧ i.size = 5:=⟨_,rfl,by kernel_rfl⟩
theorem qo9:liesAt Tryz.prog Tryz.prog.depth 70 (21 / Tryz.prog.cellsOf 70) 0 68 1 = true:=by kernel_rfl
theorem qi0:oneB Tryz.prog 44 = true:=by kernel_rfl
theorem qpZ:oneB Tryz.prog 59 = true:=by kernel_rfl
theorem qm3:qcq Tryz.prog 58 = some [(0,1),(1,1),(2,1),(3,1),(4,1)]:=by kernel_rfl
theorem qqi:qcq Tryz.prog 70 = some [(0,2),(2,16),(18,1),(19,1),(20,1)]:=by kernel_rfl
theorem qkE:SlT Tryz.prog 44 9 1:=SlT.of (by kernel_rfl)
theorem qkJ:SlT Tryz.prog 59 58 5:=SlT.of (by kernel_rfl)
theorem qfg:qbq Tryz.prog 58 = some [(vs ([])),vi 0,(vs ([])),vi 0,(Value.slice none 0 0)]:=by kernel_rfl
theorem qsa:qbq Tryz.prog 70 = some [(Value.pointer none),(Value.slice none 0 0),(vs ([])),(vs ([])),(vs ([])),(Value.slice none 0 0),(Value.slice none 0 0),(vs ([])),(vs ([])),(vs ([])),(vs ([])),vi 0,vi 0,(Value.slice none 0 0),(Value.slice none 0 0),(Value.slice none 0 0),(Value.slice none 0 0),(Value.slice none 0 0),(Value.slice none 0 0),vb false,vi 0]:=by kernel_rfl
theorem qhZ {u:World} {m:Mem} {S:Segs} {w:World} {b:Nat} {v:Value} {z0 z1 z2 z3 z4 z5 z6 z7 z8 z9 z10 z11 z12 z13 z14 z15 z16 z17 z18:Value} (ok:Ok u m ([(b,oc 70 [(Value.pointer none),v,z0,z1,z2,z3,z4,z5,z6,z7,z8,z9,z10,z11,z12,z13,z14,z15,z16,z17,z18])] :: S) w) :
  Calls Tryz.prog 49 [.pointer (some ⟨b,0,none⟩)].toArray w fun e w'=>e = .returned (.tuple [].toArray) ∧ Ok u m ([(b,oc 70 [vp b,v,z0,z1,z2,z3,z4,z5,z6,z7,z8,z9,z10,z11,z12,z13,z14,z15,z16,z17,z18])] :: S) w':=by
 have fin:∀ a w,(a.defers = [] ∧ Ok u m ([(b,oc 70 [vp b,v,z0,z1,z2,z3,z4,z5,z6,z7,z8,z9,z10,z11,z12,z13,z14,z15,z16,z17,z18])] :: S) w) → bodyPost Tryz.prog Tryz.f49 (fun e w'=>e = .returned (.tuple [].toArray) ∧ Ok u m ([(b,oc 70 [vp b,v,z0,z1,z2,z3,z4,z5,z6,z7,z8,z9,z10,z11,z12,z13,z14,z15,z16,z17,z18])] :: S) w') .ret a w:=fun a w h=>qaT [] h.1 rfl trivial ⟨rfl,h.2⟩
 refine enter Tryz.func49 rfl rfl rfl fun a E=>sg<|mv E rfl fun a E=>lw E (qae rfl) fun a E=>fk E ok qef qga rfl 0 rfl rfl fun a E=>lv E ok (qhU Tryz.underlying65 rfl rfl) fun a E=>wn<|c_if E rfl (fun _=>?_) (fun h=>by cases h)
 refine qab<|mz E rfl rfl fun a E=>lv E ok (qjo Tryz.underlying65 Tryz.underlying150 qog (by decide) (qfV (c:=[(Value.pointer none),v,z0,z1,z2,z3,z4,z5,z6,z7,z8,z9,z10,z11,z12,z13,z14,z15,z16,z17,z18]) 0 rfl) (Nat.le_of_ble_eq_true rfl) rfl) fun a E=>lv E ok (qjn Tryz.func75 (by kernel_rfl) (by kernel_rfl) (by kernel_rfl) (by kernel_rfl) rfl) fun a E=>lv E ok (qhK Tryz.underlying150 Tryz.underlying65 qhv (qfV (c:=[(Value.pointer none),v,z0,z1,z2,z3,z4,z5,z6,z7,z8,z9,z10,z11,z12,z13,z14,z15,z16,z17,z18]) 0 rfl) qo9 rfl) fun a E=>lw E (qae rfl) fun a E=>fv E qef rfl fun a E=>qax E ok 0 rfl rfl rfl qnU rfl rfl ⟨rfl,trivial⟩ rfl rfl fun w ok=>wpList_nil ?_
 exact fin _ _ ⟨E.d,ok⟩
theorem qhN {u:World} {m:Mem} {S:Segs} {w:World} {b:Nat} {v:Value} {z0 z1 z2 z3 z4 z5 z6 z7 z8 z9 z10 z11 z12 z13 z14 z15 z16 z17 z18:Value} (ok:Ok u m ([(b,oc 70 [vp b,v,z0,z1,z2,z3,z4,z5,z6,z7,z8,z9,z10,z11,z12,z13,z14,z15,z16,z17,z18])] :: S) w) :
  Calls Tryz.prog 49 [.pointer (some ⟨b,0,none⟩)].toArray w fun e w'=>e = .returned (.tuple [].toArray) ∧ Ok u m ([(b,oc 70 [vp b,v,z0,z1,z2,z3,z4,z5,z6,z7,z8,z9,z10,z11,z12,z13,z14,z15,z16,z17,z18])] :: S) w':=by
 have fin:∀ a w,(a.defers = [] ∧ Ok u m ([(b,oc 70 [vp b,v,z0,z1,z2,z3,z4,z5,z6,z7,z8,z9,z10,z11,z12,z13,z14,z15,z16,z17,z18])] :: S) w) → bodyPost Tryz.prog Tryz.f49 (fun e w'=>e = .returned (.tuple [].toArray) ∧ Ok u m ([(b,oc 70 [vp b,v,z0,z1,z2,z3,z4,z5,z6,z7,z8,z9,z10,z11,z12,z13,z14,z15,z16,z17,z18])] :: S) w') .ret a w:=fun a w h=>qaT [] h.1 rfl trivial ⟨rfl,h.2⟩
 refine enter Tryz.func49 rfl rfl rfl fun a E=>sg<|mv E rfl fun a E=>lw E (qae rfl) fun a E=>fk E ok qef qga rfl 0 rfl rfl fun a E=>lv E ok (qhU Tryz.underlying65 rfl rfl) fun a E=>wn<|c_if E rfl (fun h=>by cases h) (fun _=>?_)
 refine sg<|mv E rfl fun a E=>lw E (qae rfl) fun a E=>fk E ok qef qga rfl 0 rfl rfl fun a E=>mv E rfl fun a E=>lv E ok (qkf Tryz.underlying65 qhv rfl rfl) fun a E=>wn<|c_if E rfl (fun h=>by cases h) (fun _=>?_)
 refine wp_skip ?_
 exact fin _ _ ⟨E.d,ok⟩
theorem qiR {u:World} {m:Mem} {S:Segs} {w:World} {b:Nat} {a v:Value} {z0 z1 z2 z3 z4 z5 z6 z7 z8 z9 z10 z11 z12 z13 z14 z15 z16 z17 z18:Value} (ha:BAd b a) (ok:Ok u m ([(b,oc 70 [a,v,z0,z1,z2,z3,z4,z5,z6,z7,z8,z9,z10,z11,z12,z13,z14,z15,z16,z17,z18])] :: S) w) :
  Calls Tryz.prog 49 [.pointer (some ⟨b,0,none⟩)].toArray w fun e w'=>e = .returned (.tuple [].toArray) ∧ Ok u m ([(b,oc 70 [vp b,v,z0,z1,z2,z3,z4,z5,z6,z7,z8,z9,z10,z11,z12,z13,z14,z15,z16,z17,z18])] :: S) w':=by
 rcases ha with rfl | rfl
 ·exact qhZ ok
 ·exact qhN ok
def qfB (u:World) (m0:Mem) (S:Segs) (pb0:Nat) (x0:Writer) (c1:Value) (c3:Value) (M4:List (Nat × Obj)) (c9:Value) (c11:Value) (c19:Value) (c21:Value) (c23:Value) (c25:Value) (c27:Value) (c29:Value) (r:Int × Unit × Writer) (a:Act) (w:World):Prop :=
 ∃ m1 c32 c34 M35 c40 c42 c50 c52 c54 c56 c58 c60,m0.le m1 ∧ Ok u m1 ([(pb0,oc 70 [c32,c34,vs r.2.2.loc.Tag,vs r.2.2.loc.Parent,vs r.2.2.loc.Direction,c40,c42,vs r.2.2.loc.Symbols.Decimal,vs r.2.2.loc.Symbols.Group,vs r.2.2.loc.Symbols.Minus,vs r.2.2.loc.Symbols.Percent,vi r.2.2.loc.Symbols.Primary,vi r.2.2.loc.Symbols.Secondary,c50,c52,c54,c56,c58,c60,vb r.2.2.isolated,vi r.2.2.e])] :: M35 :: S) w ∧ a.defers = [] ∧ RVs Tryz.prog a w [.t 4 (.int .i64 r.1),.t 5 .nilIface] ∧ InR .i64 r.1 ∧ BAd pb0 c32 ∧ ORow 5 1 (pI .u8) m1 c34 r.2.2.Builder.buf M35 ∧ r.2.2.loc.Tag.length ≤ LIMS ∧ r.2.2.loc.Parent.length ≤ LIMS ∧ r.2.2.loc.Direction.length ≤ LIMS ∧ (pL 2 qaN) m1 [c40] r.2.2.loc.Cardinal ∧ (pL 2 qaN) m1 [c42] r.2.2.loc.Ordinal ∧ r.2.2.loc.Symbols.Decimal.length ≤ LIMS ∧ r.2.2.loc.Symbols.Group.length ≤ LIMS ∧ r.2.2.loc.Symbols.Minus.length ≤ LIMS ∧ r.2.2.loc.Symbols.Percent.length ≤ LIMS ∧ InR .i64 r.2.2.loc.Symbols.Primary ∧ InR .i64 r.2.2.loc.Symbols.Secondary ∧ (pL 5 qaC) m1 [c50] r.2.2.loc.Lists ∧ (pL 3 qaB) m1 [c52] r.2.2.loc.Units ∧ (pL 2 qaA) m1 [c54] r.2.2.loc.Dates ∧ (pL 1 pS) m1 [c56] r.2.2.loc.Months ∧ (pL 1 pS) m1 [c58] r.2.2.loc.Days ∧ (pL 5 qaO) m1 [c60] r.2.2.values ∧ InR .i64 r.2.2.e
theorem qfG (N:Nat) (s_1:List UInt8) (ls_1:s_1.length ≤ LIMS) {pb0:Nat} {c1:Value} {c3:Value} {M4:List (Nat × Obj)} {c9:Value} {c11:Value} {c19:Value} {c21:Value} {c23:Value} {c25:Value} {c27:Value} {c29:Value} (x0:Writer) (h2:BAd pb0 c1) (h5:ORow 5 1 (pI .u8) m0 c3 x0.Builder.buf M4) (l6:x0.loc.Tag.length ≤ LIMS) (l7:x0.loc.Parent.length ≤ LIMS) (l8:x0.loc.Direction.length ≤ LIMS) (h10:(pL 2 qaN) m0 [c9] x0.loc.Cardinal) (h12:(pL 2 qaN) m0 [c11] x0.loc.Ordinal) (l13:x0.loc.Symbols.Decimal.length ≤ LIMS) (l14:x0.loc.Symbols.Group.length ≤ LIMS) (l15:x0.loc.Symbols.Minus.length ≤ LIMS) (l16:x0.loc.Symbols.Percent.length ≤ LIMS) (r17:InR .i64 x0.loc.Symbols.Primary) (r18:InR .i64 x0.loc.Symbols.Secondary) (h20:(pL 5 qaC) m0 [c19] x0.loc.Lists) (h22:(pL 3 qaB) m0 [c21] x0.loc.Units) (h24:(pL 2 qaA) m0 [c23] x0.loc.Dates) (h26:(pL 1 pS) m0 [c25] x0.loc.Months) (h28:(pL 1 pS) m0 [c27] x0.loc.Days) (h30:(pL 5 qaO) m0 [c29] x0.values) (r31:InR .i64 x0.e) {r:Int × Unit × Writer} (hF:qb4 N s_1 x0 = some r) (hG:Glob u) (ok:Ok u m0 ([(pb0,oc 70 [c1,c3,vs x0.loc.Tag,vs x0.loc.Parent,vs x0.loc.Direction,c9,c11,vs x0.loc.Symbols.Decimal,vs x0.loc.Symbols.Group,vs x0.loc.Symbols.Minus,vs x0.loc.Symbols.Percent,vi x0.loc.Symbols.Primary,vi x0.loc.Symbols.Secondary,c19,c21,c23,c25,c27,c29,vb x0.isolated,vi x0.e])] :: M4 :: S) w) :
  Calls Tryz.prog 52 [vp pb0,vs s_1].toArray w fun e w'=>∃ m1 c32 c34 M35 c40 c42 c50 c52 c54 c56 c58 c60,e = .returned (.tuple [(.int .i64 r.1),.nilIface].toArray) ∧ m0.le m1 ∧ Ok u m1 ([(pb0,oc 70 [c32,c34,vs r.2.2.loc.Tag,vs r.2.2.loc.Parent,vs r.2.2.loc.Direction,c40,c42,vs r.2.2.loc.Symbols.Decimal,vs r.2.2.loc.Symbols.Group,vs r.2.2.loc.Symbols.Minus,vs r.2.2.loc.Symbols.Percent,vi r.2.2.loc.Symbols.Primary,vi r.2.2.loc.Symbols.Secondary,c50,c52,c54,c56,c58,c60,vb r.2.2.isolated,vi r.2.2.e])] :: M35 :: S) w' ∧ InR .i64 r.1 ∧ BAd pb0 c32 ∧ ORow 5 1 (pI .u8) m1 c34 r.2.2.Builder.buf M35 ∧ r.2.2.loc.Tag.length ≤ LIMS ∧ r.2.2.loc.Parent.length ≤ LIMS ∧ r.2.2.loc.Direction.length ≤ LIMS ∧ (pL 2 qaN) m1 [c40] r.2.2.loc.Cardinal ∧ (pL 2 qaN) m1 [c42] r.2.2.loc.Ordinal ∧ r.2.2.loc.Symbols.Decimal.length ≤ LIMS ∧ r.2.2.loc.Symbols.Group.length ≤ LIMS ∧ r.2.2.loc.Symbols.Minus.length ≤ LIMS ∧ r.2.2.loc.Symbols.Percent.length ≤ LIMS ∧ InR .i64 r.2.2.loc.Symbols.Primary ∧ InR .i64 r.2.2.loc.Symbols.Secondary ∧ (pL 5 qaC) m1 [c50] r.2.2.loc.Lists ∧ (pL 3 qaB) m1 [c52] r.2.2.loc.Units ∧ (pL 2 qaA) m1 [c54] r.2.2.loc.Dates ∧ (pL 1 pS) m1 [c56] r.2.2.loc.Months ∧ (pL 1 pS) m1 [c58] r.2.2.loc.Days ∧ (pL 5 qaO) m1 [c60] r.2.2.values ∧ InR .i64 r.2.2.e:=by
 have le_m0:=Mem.le.refl m0
 unfold qb4 at hF
 refine en (qfB u m0 S pb0 x0 c1 c3 M4 c9 c11 c19 c21 c23 c25 c27 c29) r Tryz.func52 rfl rfl rfl (by rintro a w ⟨m1,c32,c34,M35,c40,c42,c50,c52,c54,c56,c58,c60,hle,ok,hd,hrv,h0,h1,h2,h3,h4,h5,h6,h7,h8,h9,h10,h11,h12,h13,h14,h15,h16,h17,h18,h19,h20⟩; exact qaT [.t 4 (.int .i64 r.1),.t 5 .nilIface] hd rfl hrv ⟨m1,c32,c34,M35,c40,c42,c50,c52,c54,c56,c58,c60,rfl,hle,ok,h0,h1,h2,h3,h4,h5,h6,h7,h8,h9,h10,h11,h12,h13,h14,h15,h16,h17,h18,h19,h20⟩) fun fin a E=>sg<|av E rfl fun a E=>aw E rfl fun a E=>sg<|mv E rfl fun a E=>lc E qlm rfl (qiR h2 ok) fun w ok a E=>wn<|sg<|mz E rfl rfl fun a E=>lw E (qae rfl) fun a E=>fv E qdA rfl fun a E=>ld E ok qf2 0 rfl rfl rfl fun a E=>mv E rfl fun a E=>?_
 refine bd hF fun l63 e64 hF=>qoa E ok 1 qcK Tryz.underlying9 rfl h5 e64 ⟨_,qcF,rfl⟩ rfl rfl rfl rfl fun c65 M66 a w E ok h67=>lw E (qae rfl) fun a E=>fv E qdA rfl fun a E=>qax E ok 0 rfl rfl rfl qjZ (ORow.cells h67) rfl ⟨(ORow.one h67),trivial⟩ rfl rfl fun w ok=>wn<|sg<|mv E rfl fun a E=>lw E (qbs Tryz.underlying9 rfl) fun a E=>av E rfl fun a E=>aw E rfl fun a E=>wp_ret ?_
 exact fin hF ⟨m0,vp pb0,c65,M66,c9,c11,c19,c21,c23,c25,c27,c29,le_m0,ok,E.d,⟨rv_t E rfl,rv_t E rfl,trivial⟩,(InR.len ls_1),(.inr rfl),h67,l6,l7,l8,h10,h12,l13,l14,l15,l16,r17,r18,h20,h22,h24,h26,h28,h30,r31⟩
def qiQ (u:World) (m0:Mem) (S:Segs) (pb0:Nat) (x0:Writer) (c1:Value) (c3:Value) (M4:List (Nat × Obj)) (c9:Value) (c11:Value) (c19:Value) (c21:Value) (c23:Value) (c25:Value) (c27:Value) (c29:Value) (r:Int) (a:Act) (w:World):Prop :=
 Ok u m0 ([(pb0,oc 70 [c1,c3,vs x0.loc.Tag,vs x0.loc.Parent,vs x0.loc.Direction,c9,c11,vs x0.loc.Symbols.Decimal,vs x0.loc.Symbols.Group,vs x0.loc.Symbols.Minus,vs x0.loc.Symbols.Percent,vi x0.loc.Symbols.Primary,vi x0.loc.Symbols.Secondary,c19,c21,c23,c25,c27,c29,vb x0.isolated,vi x0.e])] :: M4 :: S) w ∧ a.defers = [] ∧ RVs Tryz.prog a w [.t 2 (.int .i64 r)] ∧ InR .i64 r
theorem qiA (N:Nat) {pb0:Nat} {c1:Value} {c3:Value} {M4:List (Nat × Obj)} {c9:Value} {c11:Value} {c19:Value} {c21:Value} {c23:Value} {c25:Value} {c27:Value} {c29:Value} (x0:Writer) (h2:BAd pb0 c1) (h5:ORow 5 1 (pI .u8) m0 c3 x0.Builder.buf M4) (l6:x0.loc.Tag.length ≤ LIMS) (l7:x0.loc.Parent.length ≤ LIMS) (l8:x0.loc.Direction.length ≤ LIMS) (h10:(pL 2 qaN) m0 [c9] x0.loc.Cardinal) (h12:(pL 2 qaN) m0 [c11] x0.loc.Ordinal) (l13:x0.loc.Symbols.Decimal.length ≤ LIMS) (l14:x0.loc.Symbols.Group.length ≤ LIMS) (l15:x0.loc.Symbols.Minus.length ≤ LIMS) (l16:x0.loc.Symbols.Percent.length ≤ LIMS) (r17:InR .i64 x0.loc.Symbols.Primary) (r18:InR .i64 x0.loc.Symbols.Secondary) (h20:(pL 5 qaC) m0 [c19] x0.loc.Lists) (h22:(pL 3 qaB) m0 [c21] x0.loc.Units) (h24:(pL 2 qaA) m0 [c23] x0.loc.Dates) (h26:(pL 1 pS) m0 [c25] x0.loc.Months) (h28:(pL 1 pS) m0 [c27] x0.loc.Days) (h30:(pL 5 qaO) m0 [c29] x0.values) (r31:InR .i64 x0.e) {r:Int} (hF:qea N x0 = some r) (hG:Glob u) (ok:Ok u m0 ([(pb0,oc 70 [c1,c3,vs x0.loc.Tag,vs x0.loc.Parent,vs x0.loc.Direction,c9,c11,vs x0.loc.Symbols.Decimal,vs x0.loc.Symbols.Group,vs x0.loc.Symbols.Minus,vs x0.loc.Symbols.Percent,vi x0.loc.Symbols.Primary,vi x0.loc.Symbols.Secondary,c19,c21,c23,c25,c27,c29,vb x0.isolated,vi x0.e])] :: M4 :: S) w) :
  Calls Tryz.prog 83 [vp pb0].toArray w fun e w'=>(e = .returned (.int .i64 r) ∧ Ok u m0 ([(pb0,oc 70 [c1,c3,vs x0.loc.Tag,vs x0.loc.Parent,vs x0.loc.Direction,c9,c11,vs x0.loc.Symbols.Decimal,vs x0.loc.Symbols.Group,vs x0.loc.Symbols.Minus,vs x0.loc.Symbols.Percent,vi x0.loc.Symbols.Primary,vi x0.loc.Symbols.Secondary,c19,c21,c23,c25,c27,c29,vb x0.isolated,vi x0.e])] :: M4 :: S) w') ∧ InR .i64 r:=by
 unfold qea at hF
 refine en (qiQ u m0 S pb0 x0 c1 c3 M4 c9 c11 c19 c21 c23 c25 c27 c29) r Tryz.func83 rfl rfl rfl (fun _ _ h=>rb h rfl) fun fin a E=>sg<|aw E rfl fun a E=>sg<|mv E rfl fun a E=>lw E (qae rfl) fun a E=>fk E ok qdA qf2 rfl 0 rfl rfl fun a E=>lv E ok (qb7 qcK h5 rfl) fun a E=>aw E rfl fun a E=>wp_ret ?_
 exact fin hF ⟨ok,E.d,rz E rfl,(ORow.InR h5)⟩
def qjK (u:World) (m0:Mem) (S:Segs) (pb0:Nat) (x0:Writer) (c1:Value) (c3:Value) (M4:List (Nat × Obj)) (c9:Value) (c11:Value) (c19:Value) (c21:Value) (c23:Value) (c25:Value) (c27:Value) (c29:Value) (r:Writer) (a:Act) (w:World):Prop :=
 ∃ m1 c32 c34 M35 c40 c42 c50 c52 c54 c56 c58 c60,m0.le m1 ∧ Ok u m1 ([(pb0,oc 70 [c32,c34,vs r.loc.Tag,vs r.loc.Parent,vs r.loc.Direction,c40,c42,vs r.loc.Symbols.Decimal,vs r.loc.Symbols.Group,vs r.loc.Symbols.Minus,vs r.loc.Symbols.Percent,vi r.loc.Symbols.Primary,vi r.loc.Symbols.Secondary,c50,c52,c54,c56,c58,c60,vb r.isolated,vi r.e])] :: M35 :: S) w ∧ a.defers = [] ∧ RVs Tryz.prog a w [] ∧ BAd pb0 c32 ∧ ORow 5 1 (pI .u8) m1 c34 r.Builder.buf M35 ∧ r.loc.Tag.length ≤ LIMS ∧ r.loc.Parent.length ≤ LIMS ∧ r.loc.Direction.length ≤ LIMS ∧ (pL 2 qaN) m1 [c40] r.loc.Cardinal ∧ (pL 2 qaN) m1 [c42] r.loc.Ordinal ∧ r.loc.Symbols.Decimal.length ≤ LIMS ∧ r.loc.Symbols.Group.length ≤ LIMS ∧ r.loc.Symbols.Minus.length ≤ LIMS ∧ r.loc.Symbols.Percent.length ≤ LIMS ∧ InR .i64 r.loc.Symbols.Primary ∧ InR .i64 r.loc.Symbols.Secondary ∧ (pL 5 qaC) m1 [c50] r.loc.Lists ∧ (pL 3 qaB) m1 [c52] r.loc.Units ∧ (pL 2 qaA) m1 [c54] r.loc.Dates ∧ (pL 1 pS) m1 [c56] r.loc.Months ∧ (pL 1 pS) m1 [c58] r.loc.Days ∧ (pL 5 qaO) m1 [c60] r.values ∧ InR .i64 r.e
theorem qe2 (N:Nat) (s_1:List UInt8) (ls_1:s_1.length ≤ LIMS) {pb0:Nat} {c1:Value} {c3:Value} {M4:List (Nat × Obj)} {c9:Value} {c11:Value} {c19:Value} {c21:Value} {c23:Value} {c25:Value} {c27:Value} {c29:Value} (x0:Writer) (h2:BAd pb0 c1) (h5:ORow 5 1 (pI .u8) m0 c3 x0.Builder.buf M4) (l6:x0.loc.Tag.length ≤ LIMS) (l7:x0.loc.Parent.length ≤ LIMS) (l8:x0.loc.Direction.length ≤ LIMS) (h10:(pL 2 qaN) m0 [c9] x0.loc.Cardinal) (h12:(pL 2 qaN) m0 [c11] x0.loc.Ordinal) (l13:x0.loc.Symbols.Decimal.length ≤ LIMS) (l14:x0.loc.Symbols.Group.length ≤ LIMS) (l15:x0.loc.Symbols.Minus.length ≤ LIMS) (l16:x0.loc.Symbols.Percent.length ≤ LIMS) (r17:InR .i64 x0.loc.Symbols.Primary) (r18:InR .i64 x0.loc.Symbols.Secondary) (h20:(pL 5 qaC) m0 [c19] x0.loc.Lists) (h22:(pL 3 qaB) m0 [c21] x0.loc.Units) (h24:(pL 2 qaA) m0 [c23] x0.loc.Dates) (h26:(pL 1 pS) m0 [c25] x0.loc.Months) (h28:(pL 1 pS) m0 [c27] x0.loc.Days) (h30:(pL 5 qaO) m0 [c29] x0.values) (r31:InR .i64 x0.e) {r:Writer} (hF:qcx N s_1 x0 = some r) (hG:Glob u) (ok:Ok u m0 ([(pb0,oc 70 [c1,c3,vs x0.loc.Tag,vs x0.loc.Parent,vs x0.loc.Direction,c9,c11,vs x0.loc.Symbols.Decimal,vs x0.loc.Symbols.Group,vs x0.loc.Symbols.Minus,vs x0.loc.Symbols.Percent,vi x0.loc.Symbols.Primary,vi x0.loc.Symbols.Secondary,c19,c21,c23,c25,c27,c29,vb x0.isolated,vi x0.e])] :: M4 :: S) w) :
  Calls Tryz.prog 59 [vp pb0,vs s_1].toArray w fun e w'=>∃ m1 c32 c34 M35 c40 c42 c50 c52 c54 c56 c58 c60,e = .returned (.tuple [].toArray) ∧ m0.le m1 ∧ Ok u m1 ([(pb0,oc 70 [c32,c34,vs r.loc.Tag,vs r.loc.Parent,vs r.loc.Direction,c40,c42,vs r.loc.Symbols.Decimal,vs r.loc.Symbols.Group,vs r.loc.Symbols.Minus,vs r.loc.Symbols.Percent,vi r.loc.Symbols.Primary,vi r.loc.Symbols.Secondary,c50,c52,c54,c56,c58,c60,vb r.isolated,vi r.e])] :: M35 :: S) w' ∧ BAd pb0 c32 ∧ ORow 5 1 (pI .u8) m1 c34 r.Builder.buf M35 ∧ r.loc.Tag.length ≤ LIMS ∧ r.loc.Parent.length ≤ LIMS ∧ r.loc.Direction.length ≤ LIMS ∧ (pL 2 qaN) m1 [c40] r.loc.Cardinal ∧ (pL 2 qaN) m1 [c42] r.loc.Ordinal ∧ r.loc.Symbols.Decimal.length ≤ LIMS ∧ r.loc.Symbols.Group.length ≤ LIMS ∧ r.loc.Symbols.Minus.length ≤ LIMS ∧ r.loc.Symbols.Percent.length ≤ LIMS ∧ InR .i64 r.loc.Symbols.Primary ∧ InR .i64 r.loc.Symbols.Secondary ∧ (pL 5 qaC) m1 [c50] r.loc.Lists ∧ (pL 3 qaB) m1 [c52] r.loc.Units ∧ (pL 2 qaA) m1 [c54] r.loc.Dates ∧ (pL 1 pS) m1 [c56] r.loc.Months ∧ (pL 1 pS) m1 [c58] r.loc.Days ∧ (pL 5 qaO) m1 [c60] r.values ∧ InR .i64 r.e:=by
 have le_m0:=Mem.le.refl m0
 unfold qcx at hF
 refine en (qjK u m0 S pb0 x0 c1 c3 M4 c9 c11 c19 c21 c23 c25 c27 c29) r Tryz.func59 rfl rfl rfl (by rintro a w ⟨m1,c32,c34,M35,c40,c42,c50,c52,c54,c56,c58,c60,hle,ok,hd,hrv,h0,h1,h2,h3,h4,h5,h6,h7,h8,h9,h10,h11,h12,h13,h14,h15,h16,h17,h18,h19⟩; exact qaT [] hd rfl hrv ⟨m1,c32,c34,M35,c40,c42,c50,c52,c54,c56,c58,c60,rfl,hle,ok,h0,h1,h2,h3,h4,h5,h6,h7,h8,h9,h10,h11,h12,h13,h14,h15,h16,h17,h18,h19⟩) fun fin a E=>sg<|mv E rfl fun a E=>lw E (qae rfl) fun a E=>fv E qmt rfl fun a E=>mv E rfl fun a E=>bd hF fun r63 e64 hF=>qaf E qkP rfl (qfG N s_1 ls_1 (Writer.mk (Builder.mk () x0.Builder.buf) x0.loc x0.values x0.isolated x0.e) h2 h5 l6 l7 l8 h10 h12 l13 l14 l15 l16 r17 r18 h20 h22 h24 h26 h28 h30 r31 e64 hG ok) rfl rfl ?_
 rintro _ w ⟨m65,c67,c69,M70,c75,c77,c85,c87,c89,c91,c93,c95,rfl,hle,ok,r66,h68,h71,l72,l73,l74,h76,h78,l79,l80,l81,l82,r83,r84,h86,h88,h90,h92,h94,h96,r97⟩
 have le_m0:=le_m0.trans hle
 have h10:=(mL qa9).up hle h10
 have h12:=(mL qa9).up hle h12
 have h20:=(mL qaW).up hle h20
 have h22:=(mL qaV).up hle h22
 have h24:=(mL qaU).up hle h24
 have h26:=(mL mS).up hle h26
 have h28:=(mL mS).up hle h28
 have h30:=(mL qbo).up hle h30
 refine ⟨_,rfl,fun a E=>?_⟩
 refine wn<|sg<|mv E rfl fun a E=>lw E (qae rfl) fun a E=>fv E qmt rfl fun a E=>bd hF fun r98 e99 hF=>qaf E qrA rfl (qiA N (Writer.mk (Builder.mk () r63.2.2.Builder.buf) r63.2.2.loc r63.2.2.values r63.2.2.isolated r63.2.2.e) h68 h71 l72 l73 l74 h76 h78 l79 l80 l81 l82 r83 r84 h86 h88 h90 h92 h94 h96 r97 e99 hG ok) rfl rfl ?_
 rintro _ w ⟨⟨rfl,ok⟩,r100⟩
 refine ⟨_,rfl,fun a E=>?_⟩
 refine lw E (qaK rfl rfl) fun a E=>wn<|cg E rfl hF (fun c101 hF=>?_) fun c101 hF=>?_
 ·refine wp_skip ?_
  exact fin hF ⟨m65,c67,c69,M70,c75,c77,c85,c87,c89,c91,c93,c95,le_m0,ok,E.d,trivial,h68,h71,l72,l73,l74,h76,h78,l79,l80,l81,l82,r83,r84,h86,h88,h90,h92,h94,h96,r97⟩
 refine qab<|mv E rfl fun a E=>lw E (qae rfl) fun a E=>fv E qhy rfl fun a E=>qax E ok 0 rfl rfl rfl qlK rfl rfl ⟨rfl,trivial⟩ rfl rfl fun w ok=>wpList_nil ?_
 exact fin hF ⟨m65,c67,c69,M70,c75,c77,c85,c87,c89,c91,c93,c95,le_m0,ok,E.d,trivial,h68,h71,l72,l73,l74,h76,h78,l79,l80,l81,l82,r83,r84,h86,h88,h90,h92,h94,h96,(ir 6)⟩
def qkd (u:World) (m0:Mem) (S:Segs) (pb0:Nat) (x0:Writer) (c1:Value) (c3:Value) (M4:List (Nat × Obj)) (c9:Value) (c11:Value) (c19:Value) (c21:Value) (c23:Value) (c25:Value) (c27:Value) (c29:Value) (r:Writer) (a:Act) (w:World):Prop :=
 ∃ m1 c32 c34 M35 c40 c42 c50 c52 c54 c56 c58 c60,m0.le m1 ∧ Ok u m1 ([(pb0,oc 70 [c32,c34,vs r.loc.Tag,vs r.loc.Parent,vs r.loc.Direction,c40,c42,vs r.loc.Symbols.Decimal,vs r.loc.Symbols.Group,vs r.loc.Symbols.Minus,vs r.loc.Symbols.Percent,vi r.loc.Symbols.Primary,vi r.loc.Symbols.Secondary,c50,c52,c54,c56,c58,c60,vb r.isolated,vi r.e])] :: M35 :: S) w ∧ a.defers = [] ∧ RVs Tryz.prog a w [] ∧ BAd pb0 c32 ∧ ORow 5 1 (pI .u8) m1 c34 r.Builder.buf M35 ∧ r.loc.Tag.length ≤ LIMS ∧ r.loc.Parent.length ≤ LIMS ∧ r.loc.Direction.length ≤ LIMS ∧ (pL 2 qaN) m1 [c40] r.loc.Cardinal ∧ (pL 2 qaN) m1 [c42] r.loc.Ordinal ∧ r.loc.Symbols.Decimal.length ≤ LIMS ∧ r.loc.Symbols.Group.length ≤ LIMS ∧ r.loc.Symbols.Minus.length ≤ LIMS ∧ r.loc.Symbols.Percent.length ≤ LIMS ∧ InR .i64 r.loc.Symbols.Primary ∧ InR .i64 r.loc.Symbols.Secondary ∧ (pL 5 qaC) m1 [c50] r.loc.Lists ∧ (pL 3 qaB) m1 [c52] r.loc.Units ∧ (pL 2 qaA) m1 [c54] r.loc.Dates ∧ (pL 1 pS) m1 [c56] r.loc.Months ∧ (pL 1 pS) m1 [c58] r.loc.Days ∧ (pL 5 qaO) m1 [c60] r.values ∧ InR .i64 r.e
theorem qjL (N:Nat) (s_1:List UInt8) (ls_1:s_1.length ≤ LIMS) (e_2:Int) (re_2:InR .i64 e_2) {pb0:Nat} {c1:Value} {c3:Value} {M4:List (Nat × Obj)} {c9:Value} {c11:Value} {c19:Value} {c21:Value} {c23:Value} {c25:Value} {c27:Value} {c29:Value} (x0:Writer) (h2:BAd pb0 c1) (h5:ORow 5 1 (pI .u8) m0 c3 x0.Builder.buf M4) (l6:x0.loc.Tag.length ≤ LIMS) (l7:x0.loc.Parent.length ≤ LIMS) (l8:x0.loc.Direction.length ≤ LIMS) (h10:(pL 2 qaN) m0 [c9] x0.loc.Cardinal) (h12:(pL 2 qaN) m0 [c11] x0.loc.Ordinal) (l13:x0.loc.Symbols.Decimal.length ≤ LIMS) (l14:x0.loc.Symbols.Group.length ≤ LIMS) (l15:x0.loc.Symbols.Minus.length ≤ LIMS) (l16:x0.loc.Symbols.Percent.length ≤ LIMS) (r17:InR .i64 x0.loc.Symbols.Primary) (r18:InR .i64 x0.loc.Symbols.Secondary) (h20:(pL 5 qaC) m0 [c19] x0.loc.Lists) (h22:(pL 3 qaB) m0 [c21] x0.loc.Units) (h24:(pL 2 qaA) m0 [c23] x0.loc.Dates) (h26:(pL 1 pS) m0 [c25] x0.loc.Months) (h28:(pL 1 pS) m0 [c27] x0.loc.Days) (h30:(pL 5 qaO) m0 [c29] x0.values) (r31:InR .i64 x0.e) {r:Writer} (hF:qd4 N s_1 e_2 x0 = some r) (hG:Glob u) (ok:Ok u m0 ([(pb0,oc 70 [c1,c3,vs x0.loc.Tag,vs x0.loc.Parent,vs x0.loc.Direction,c9,c11,vs x0.loc.Symbols.Decimal,vs x0.loc.Symbols.Group,vs x0.loc.Symbols.Minus,vs x0.loc.Symbols.Percent,vi x0.loc.Symbols.Primary,vi x0.loc.Symbols.Secondary,c19,c21,c23,c25,c27,c29,vb x0.isolated,vi x0.e])] :: M4 :: S) w) :
  Calls Tryz.prog 60 [vp pb0,vs s_1,vi e_2].toArray w fun e w'=>∃ m1 c32 c34 M35 c40 c42 c50 c52 c54 c56 c58 c60,e = .returned (.tuple [].toArray) ∧ m0.le m1 ∧ Ok u m1 ([(pb0,oc 70 [c32,c34,vs r.loc.Tag,vs r.loc.Parent,vs r.loc.Direction,c40,c42,vs r.loc.Symbols.Decimal,vs r.loc.Symbols.Group,vs r.loc.Symbols.Minus,vs r.loc.Symbols.Percent,vi r.loc.Symbols.Primary,vi r.loc.Symbols.Secondary,c50,c52,c54,c56,c58,c60,vb r.isolated,vi r.e])] :: M35 :: S) w' ∧ BAd pb0 c32 ∧ ORow 5 1 (pI .u8) m1 c34 r.Builder.buf M35 ∧ r.loc.Tag.length ≤ LIMS ∧ r.loc.Parent.length ≤ LIMS ∧ r.loc.Direction.length ≤ LIMS ∧ (pL 2 qaN) m1 [c40] r.loc.Cardinal ∧ (pL 2 qaN) m1 [c42] r.loc.Ordinal ∧ r.loc.Symbols.Decimal.length ≤ LIMS ∧ r.loc.Symbols.Group.length ≤ LIMS ∧ r.loc.Symbols.Minus.length ≤ LIMS ∧ r.loc.Symbols.Percent.length ≤ LIMS ∧ InR .i64 r.loc.Symbols.Primary ∧ InR .i64 r.loc.Symbols.Secondary ∧ (pL 5 qaC) m1 [c50] r.loc.Lists ∧ (pL 3 qaB) m1 [c52] r.loc.Units ∧ (pL 2 qaA) m1 [c54] r.loc.Dates ∧ (pL 1 pS) m1 [c56] r.loc.Months ∧ (pL 1 pS) m1 [c58] r.loc.Days ∧ (pL 5 qaO) m1 [c60] r.values ∧ InR .i64 r.e:=by
 have le_m0:=Mem.le.refl m0
 unfold qd4 at hF
 refine en (qkd u m0 S pb0 x0 c1 c3 M4 c9 c11 c19 c21 c23 c25 c27 c29) r Tryz.func60 rfl rfl rfl (by rintro a w ⟨m1,c32,c34,M35,c40,c42,c50,c52,c54,c56,c58,c60,hle,ok,hd,hrv,h0,h1,h2,h3,h4,h5,h6,h7,h8,h9,h10,h11,h12,h13,h14,h15,h16,h17,h18,h19⟩; exact qaT [] hd rfl hrv ⟨m1,c32,c34,M35,c40,c42,c50,c52,c54,c56,c58,c60,rfl,hle,ok,h0,h1,h2,h3,h4,h5,h6,h7,h8,h9,h10,h11,h12,h13,h14,h15,h16,h17,h18,h19⟩) fun fin a E=>wp_block<|sg<|mv E rfl fun a E=>lw E (qbD rfl rfl) fun a E=>av E rfl fun a E=>wn<|cf E rfl hF (fun c63 hF=>?_) fun c63 hF=>?_
 ·refine qab<|mz E rfl rfl fun a E=>lw E (qae rfl) fun a E=>fv E qhy rfl fun a E=>qax E ok 0 rfl rfl rfl qlK rfl rfl ⟨rfl,trivial⟩ rfl rfl fun w ok=>wpList_nil<|qac ?_
  exact fin hF ⟨m0,c1,c3,M4,c9,c11,c19,c21,c23,c25,c27,c29,le_m0,ok,E.d,trivial,h2,h5,l6,l7,l8,h10,h12,l13,l14,l15,l16,r17,r18,h20,h22,h24,h26,h28,h30,re_2⟩
 refine sg<|mv E rfl fun a E=>lw E (qae rfl) fun a E=>fk E ok qrK qeP rfl 0 rfl rfl fun a E=>av E rfl fun a E=>wn<|cg E rfl hF (fun c64 hF=>?_) fun c64 hF=>?_
 ·refine qab<|mz E rfl rfl fun a E=>bd hF fun r102 e103 hF=>qaf E qpc rfl (qe2 N s_1 ls_1 (Writer.mk (Builder.mk () x0.Builder.buf) x0.loc x0.values x0.isolated x0.e) h2 h5 l6 l7 l8 h10 h12 l13 l14 l15 l16 r17 r18 h20 h22 h24 h26 h28 h30 r31 e103 hG ok) rfl rfl ?_
  rintro _ w ⟨m104,c105,c107,M108,c113,c115,c123,c125,c127,c129,c131,c133,rfl,hle,ok,h106,h109,l110,l111,l112,h114,h116,l117,l118,l119,l120,r121,r122,h124,h126,h128,h130,h132,h134,r135⟩
  have le_m0:=le_m0.trans hle
  have h10:=(mL qa9).up hle h10
  have h12:=(mL qa9).up hle h12
  have h20:=(mL qaW).up hle h20
  have h22:=(mL qaV).up hle h22
  have h24:=(mL qaU).up hle h24
  have h26:=(mL mS).up hle h26
  have h28:=(mL mS).up hle h28
  have h30:=(mL qbo).up hle h30
  refine ⟨_,rfl,fun a E=>?_⟩
  refine wpList_nil<|qac ?_
  exact fin hF ⟨m104,c105,c107,M108,c113,c115,c123,c125,c127,c129,c131,c133,le_m0,ok,E.d,trivial,h106,h109,l110,l111,l112,h114,h116,l117,l118,l119,l120,r121,r122,h124,h126,h128,h130,h132,h134,r135⟩
 refine qab<|mz E rfl rfl fun a E=>bd hF fun r65 e66 hF=>qaf E qpG rfl (qfi N s_1 ls_1 e66 hG ok) rfl rfl ?_
 rintro _ w ⟨⟨rfl,ok⟩,l67⟩
 refine ⟨_,rfl,fun a E=>?_⟩
 refine bd hF fun r68 e69 hF=>qaf E qpc rfl (qe2 N r65 l67 (Writer.mk (Builder.mk () x0.Builder.buf) x0.loc x0.values x0.isolated x0.e) h2 h5 l6 l7 l8 h10 h12 l13 l14 l15 l16 r17 r18 h20 h22 h24 h26 h28 h30 r31 e69 hG ok) rfl rfl ?_
 rintro _ w ⟨m70,c71,c73,M74,c79,c81,c89,c91,c93,c95,c97,c99,rfl,hle,ok,h72,h75,l76,l77,l78,h80,h82,l83,l84,l85,l86,r87,r88,h90,h92,h94,h96,h98,h100,r101⟩
 have le_m0:=le_m0.trans hle
 have h10:=(mL qa9).up hle h10
 have h12:=(mL qa9).up hle h12
 have h20:=(mL qaW).up hle h20
 have h22:=(mL qaV).up hle h22
 have h24:=(mL qaU).up hle h24
 have h26:=(mL mS).up hle h26
 have h28:=(mL mS).up hle h28
 have h30:=(mL qbo).up hle h30
 refine ⟨_,rfl,fun a E=>?_⟩
 refine wpList_nil<|qac ?_
 exact fin hF ⟨m70,c71,c73,M74,c79,c81,c89,c91,c93,c95,c97,c99,le_m0,ok,E.d,trivial,h72,h75,l76,l77,l78,h80,h82,l83,l84,l85,l86,r87,r88,h90,h92,h94,h96,h98,h100,r101⟩
def qkS (u:World) (m0:Mem) (S:Segs) (pb0:Nat) (x0:List UInt8) (r:Bool) (a:Act) (w:World):Prop :=
 Ok u m0 ([(pb0,oc 9 [vs x0])] :: S) w ∧ a.defers = [] ∧ RVs Tryz.prog a w [.t 3 (.bool r)]
theorem qkU (N:Nat) (vv_0:List Value) (v_0:ValueT) (hv_0:qaO m0 vv_0 v_0) {pb0:Nat} (x0:List UInt8) (l7:x0.length ≤ LIMS) {r:Bool} (hF:qgj N v_0 x0 = some r) (hG:Glob u) (ok:Ok u m0 ([(pb0,oc 9 [vs x0])] :: S) w) :
  Calls Tryz.prog 93 [.agg vv_0.toArray,vp pb0].toArray w fun e w'=>(e = .returned (.bool r) ∧ Ok u m0 ([(pb0,oc 9 [vs x0])] :: S) w'):=by
 obtain ⟨c5,rfl,l1,r2,l3,r4,h6⟩:=hv_0
 unfold qgj at hF
 refine en (qkS u m0 S pb0 x0) r Tryz.func93 rfl rfl rfl (fun _ _ h=>ra h rfl) fun fin a E=>sg<|qbF E ok rfl rfl rfl fun b8 a w E ok=>aw E rfl fun a E=>sg<|fk E ok qso qay rfl 0 rfl rfl fun a E=>ld E ok qay 1 rfl rfl rfl fun a E=>lw E (qcH rfl rfl) fun a E=>aw E rfl fun a E=>wp_ret ?_
 exact fin hF ⟨ok.drop,E.d,rz E rfl⟩
def qcU (u:World) (m0:Mem) (S:Segs) (pb0:Nat) (x0:List UInt8) (r:Int) (a:Act) (w:World):Prop :=
 Ok u m0 ([(pb0,oc 9 [vs x0])] :: S) w ∧ a.defers = [] ∧ RVs Tryz.prog a w [.t 4 (.int .i64 r)] ∧ InR .i64 r
theorem qeB (N:Nat) (vs_0:Value) (s_0:List (ValueT)) (hs_0:(pL 5 qaO) m0 [vs_0] s_0) {pb0:Nat} (x0:List UInt8) (l1:x0.length ≤ LIMS) {r:Int} (hF:qbu N s_0 x0 = some r) (hG:Glob u) (ok:Ok u m0 ([(pb0,oc 9 [vs x0])] :: S) w) :
  Calls Tryz.prog 92 [vs_0,Value.func (.func 93) #[] #[.pointer (some ⟨pb0,0,none⟩)]].toArray w fun e w'=>(e = .returned (.int .i64 r) ∧ Ok u m0 ([(pb0,oc 9 [vs x0])] :: S) w') ∧ InR .i64 r:=by
 unfold qbu at hF
 refine en (qcU u m0 S pb0 x0) r Tryz.func92 rfl rfl rfl (fun _ _ h=>rb h rfl) fun fin a E=>sg<|aw E rfl fun a E=>wp_seq<|sg<|mv E rfl fun a E=>lv E ok (qaP qkJ hs_0 rfl) fun a E=>mv E rfl fun a E=>wn<|wp_block<|bd hF fun o3 hL hF=>qa7 _ (fun (s:Int) a w=>Ok u m0 ([(pb0,oc 9 [vs x0])] :: S) w ∧ Env 19 a [(0,vs_0),(1,(Value.func (.func 93) #[] #[.pointer (some ⟨pb0,0,none⟩)])),(7,(vi (s_0.length:Int))),(8,vi s)] ∧ InR .i64 s) (fun (b:(Unit ⊕ Int)) e a w=>(Sum.elim (fun b26=>e = (.exit 0) ∧ Ok u m0 ([(pb0,oc 9 [vs x0])] :: S) w ∧ Env 19 a []) (fun b27=>e = .ret ∧ qcU u m0 S pb0 x0 b27 a w)) b) ?_ ?_ N _ a w hL ⟨ok,E.keep [0,1,7,8],(ir 0)⟩
 rotate_left
 ·intro e a w _ hO
  rcases o3 with o3 | o3
  rotate_left
  ·obtain ⟨rfl,hret⟩:=hO
   refine qak<|qad ?_
   exact fin hF hret
  have hF:=qcj hF
  obtain ⟨rfl,ok,E⟩:=hO
  refine qa0<|qaa<|sg<|aw E rfl fun a E=>wp_ret ?_
  exact fin hF ⟨ok,E.d,rz E rfl,(ir (-1))⟩
 rintro v5 a w r ⟨ok,E,r6⟩ hF
 replace hF:qbm N s_0 x0 v5 = some r:=hF
 unfold qbm at hF
 refine sg<|lw E (qap rfl rfl) fun a E=>wn<|wp_seq<|cg E rfl hF (fun c7 hF=>?_) fun c7 hF=>?_
 ·refine wp_exit<|qaM ?_
  cases hF
  exact so (sl ⟨rfl,⟨ok,E.keep []⟩⟩)
 refine wp_skip<|qaa<|wp_seq<|wp_block<|sg<|mv E rfl fun a E=>av E rfl fun a E=>wn<|sg<|mz E rfl rfl fun a E=>mv E rfl fun a E=>?_
 obtain ⟨x8,e9,hF⟩:=bnd hF
 obtain ⟨b10,o11,es12,hl13,rr14,at15,yy16⟩:=ia E 12 13 qkJ hs_0 e9
 obtain ⟨c21,rfl,l17,r18,l19,r20,h22⟩:=rr14
 refine lv E ok (yy16 _ _) fun a E=>lv E ok (qan (cs:=[vs x8.Name,vi x8.Type_,vs x8.Text,vi x8.Date,c21]) qgP rfl rfl (Holds.ro at15)) fun a E=>bd hF fun r23 e24 hF=>qiY E rfl qtn rfl (qkU N _ x8 ⟨_,rfl,l17,r18,l19,r20,h22⟩ x0 l1 e24 hG ok) rfl rfl ?_
 rintro _ w ⟨rfl,ok⟩
 refine ⟨_,rfl,fun a E=>?_⟩
 refine wn<|cg E rfl hF (fun c25 hF=>?_) fun c25 hF=>?_
 ·refine wp_skip<|qac<|qaa<|qab<|lw E (qaE rfl rfl (InR.inc r6 (qaj hs_0) c7)) fun a E=>mv E rfl fun a E=>wpList_nil ?_
  cases hF
  exact qao ⟨ok,E.keep [0,1,7,8],(InR.inc r6 (qaj hs_0) c7)⟩
 refine sg<|mv E rfl fun a E=>aw E rfl fun a E=>wp_ret<|qak<|qad ?_
 cases hF
 exact so (sr ⟨rfl,⟨ok,E.d,rz E rfl,r6⟩⟩)
def qmc (u:World) (m0:Mem) (S:Segs) (r:ValueT × Bool) (a:Act) (w:World):Prop :=
 ∃ m1 v0,m0.le m1 ∧ Ok u m1 S w ∧ a.defers = [] ∧ RVs Tryz.prog a w [.c 4 58 (.agg v0.toArray),.t 5 (.bool r.2)] ∧ qaO m1 v0 r.1
theorem qh4 (N:Nat) (vvalues_0:Value) (values_0:List (ValueT)) (hvalues_0:(pL 5 qaO) m0 [vvalues_0] values_0) (name_1:List UInt8) (lname_1:name_1.length ≤ LIMS) {r:ValueT × Bool} (hF:qei N values_0 name_1 = some r) (hG:Glob u) (ok:Ok u m0 S w) :
  Calls Tryz.prog 64 [vvalues_0,vs name_1].toArray w fun e w'=>∃ m1 v0,e = .returned (.tuple [(.agg v0.toArray),(.bool r.2)].toArray) ∧ m0.le m1 ∧ Ok u m1 S w' ∧ qaO m1 v0 r.1:=by
 have le_m0:=Mem.le.refl m0
 unfold qei at hF
 refine en (qmc u m0 S) r Tryz.func64 rfl rfl rfl (by rintro a w ⟨m1,v0,hle,ok,hd,hrv,h0⟩; exact qaT [.c 4 58 (.agg v0.toArray),.t 5 (.bool r.2)] hd rfl hrv ⟨m1,v0,rfl,hle,ok,h0⟩) fun fin a E=>sg<|qbF E ok rfl rfl rfl fun b1 a w E ok=>qa4 E ok qfg rfl rfl fun b2 a w E ok=>aw E rfl fun a E=>sg<|mv E rfl fun a E=>lv E ok (qll (caps:=[.tmp 3]) rfl) fun a E=>?_
 obtain ⟨r3,e4,hF⟩:=bnd hF
 replace ok:Ok u m0 ([(b1,oc 9 [vs name_1])] :: [(b2,oc 58 [(vs ([])),vi 0,(vs ([])),vi 0,(Value.slice none 0 0)])] :: S) w:=(ok.pk 2 [1,0] rfl (by decide))
 refine qaf E qtp rfl (qeB N _ values_0 hvalues_0 name_1 lname_1 e4 hG ok) rfl rfl ?_
 rintro _ w ⟨⟨rfl,ok⟩,r5⟩
 refine ⟨_,rfl,fun a E=>?_⟩
 refine aw E rfl fun a E=>wp_seq<|sg<|mv E rfl fun a E=>lw E (qap rfl rfl) fun a E=>wn<|cf E rfl hF (fun c6 hF=>?_) fun c6 hF=>?_
 ·refine sg<|lw E (qaL (ps:=[]) (qs:=[]) (cs:=[(vs ([])),vi 0,(vs ([])),vi 0,(Value.slice none 0 0)]) qfg qm3 rfl trivial rfl) fun a E=>qax E ok 1 rfl rfl rfl qkr rfl rfl ⟨rfl,rfl,rfl,rfl,rfl,trivial⟩ rfl rfl fun w ok=>aw E rfl fun a E=>wp_ret<|qad ?_
  exact fin hF ⟨m0,[(vs ([])),vi 0,(vs ([])),vi 0,(Value.slice none 0 0)],le_m0,ok.drop.drop,E.d,⟨rv_c (cs:=[(vs ([])),vi 0,(vs ([])),vi 0,(Value.slice none 0 0)]) E ok rfl qgP rfl (Holds.own 1 rfl rfl),rv_t E rfl,trivial⟩,⟨_,rfl,(Nat.zero_le _),(ir 0),(Nat.zero_le _),(ir 0),qaI⟩⟩
 refine wp_skip<|qaa<|sg<|mz E rfl rfl fun a E=>?_
 obtain ⟨x7,e8,hF⟩:=bnd hF
 obtain ⟨b9,o10,es11,hl12,rr13,at14,yy15⟩:=ia E 14 15 qkJ hvalues_0 e8
 obtain ⟨c20,rfl,l16,r17,l18,r19,h21⟩:=rr13
 refine lv E ok (yy15 _ _) fun a E=>lv E ok (qan (cs:=[vs x7.Name,vi x7.Type_,vs x7.Text,vi x7.Date,c20]) qgP rfl rfl (Holds.ro at14)) fun a E=>qa4 E ok qfg rfl rfl fun b22 a w E ok=>qax E ok 0 rfl rfl rfl qkr rfl rfl ⟨rfl,rfl,rfl,rfl,(qdk h21),trivial⟩ rfl rfl fun w ok=>wn<|sg<|fk E ok qiX qi0 rfl 0 rfl rfl fun a E=>bd hF fun l23 e24 hF=>qaf E qtW rfl (qpy Tryz.laysNm216 e24 h21 ok) rfl rfl ?_
 rintro _ w ⟨c25,M26,rfl,h27,ok⟩
 refine ⟨_,rfl,fun a E=>?_⟩
 refine fv E qiX rfl fun a E=>qax E ok 1 rfl rfl rfl qsE (ORow.cells h27) rfl ⟨(ORow.one h27),trivial⟩ rfl rfl fun w ok=>wn<|sg<|lv E ok (qan (cs:=[vs x7.Name,vi x7.Type_,vs x7.Text,vi x7.Date,c25]) qgP rfl rfl (Holds.own 1 rfl rfl)) fun a E=>qax E ok 3 rfl rfl rfl qkr rfl rfl ⟨rfl,rfl,rfl,rfl,(ORow.one h27),trivial⟩ rfl rfl fun w ok=>aw E rfl fun a E=>wp_ret ?_
 obtain ⟨m28,hle,ok,hfz⟩:=(ok.frs 0 rfl).freeze
 have h29:=ORow.froz mS h27 hle hfz (by decide)
 have le_m0:=le_m0.trans hle
 have hvalues_0:=(mL qbo).up hle hvalues_0
 have h21:=(mL mS).up hle h21
 have at14:=At.up hle at14
 exact fin hF ⟨m28,[vs x7.Name,vi x7.Type_,vs x7.Text,vi x7.Date,c25],le_m0,ok.drop.drop.drop,E.d,⟨rv_c (cs:=[vs x7.Name,vi x7.Type_,vs x7.Text,vi x7.Date,c25]) E ok rfl qgP rfl (Holds.own 2 rfl rfl),rv_t E rfl,trivial⟩,⟨_,rfl,l16,r17,l18,r19,h29⟩⟩
def qjY (u:World) (m0:Mem) (S:Segs) (r:Bool) (a:Act) (w:World):Prop :=
 Ok u m0 S w ∧ a.defers = [] ∧ RVs Tryz.prog a w [.t 2 (.bool r)]
theorem qjV (N:Nat) (vv_0:List Value) (v_0:ValueT) (hv_0:qaO m0 vv_0 v_0) {r:Bool} (hF:qfI N v_0 = some r) (hG:Glob u) (ok:Ok u m0 S w) :
  Calls Tryz.prog 95 [.agg vv_0.toArray].toArray w fun e w'=>(e = .returned (.bool r) ∧ Ok u m0 S w'):=by
 obtain ⟨c5,rfl,l1,r2,l3,r4,h6⟩:=hv_0
 unfold qfI at hF
 refine en (qjY u m0 S) r Tryz.func95 rfl rfl rfl (fun _ _ h=>ra h rfl) fun fin a E=>sg<|qbF E ok rfl rfl rfl fun b7 a w E ok=>aw E rfl fun a E=>wp_seq<|sg<|fk E ok qhr qam rfl 0 rfl rfl fun a E=>wn<|wp_block<|sg<|lw E (qah rfl rfl) fun a E=>aw E rfl fun a E=>cf E rfl hF (fun c8 hF=>?_) fun c8 hF=>?_
 ·refine sg<|fk E ok qkG qam rfl 0 rfl rfl fun a E=>lw E (qah rfl rfl) fun a E=>mv E rfl fun a E=>bu E 10 hF (fun c9 hF E=>?_) fun c9 hF E=>?_
  ·refine fk E ok qiX qi0 rfl 0 rfl rfl fun a E=>lv E ok (qaP qkE h6 rfl) fun a E=>lw E (qah rfl rfl) fun a E=>pt E rfl rfl fun a E=>aw E rfl fun a E=>wp_ret<|qak<|qad ?_
   exact fin hF ⟨ok.drop,E.d,rz E rfl⟩
  refine lsz E fun a E=>pf E rfl rfl fun a E=>aw E rfl fun a E=>wp_ret<|qak<|qad ?_
  exact fin hF ⟨ok.drop,E.d,rz E rfl⟩
 refine sg<|lw E (qah rfl rfl) fun a E=>aw E rfl fun a E=>cf E rfl hF (fun c10 hF=>?_) fun c10 hF=>?_
 ·refine sg<|fk E ok qhw qay rfl 0 rfl rfl fun a E=>?_
  cases hF
 refine sg<|lw E (qah rfl rfl) fun a E=>aw E rfl fun a E=>cf E rfl hF (fun c11 hF=>?_) fun c11 hF=>?_
 ·refine sg<|fk E ok qhw qay rfl 0 rfl rfl fun a E=>lw E (qcH rfl rfl) fun a E=>mv E rfl fun a E=>bu E 37 hF (fun c12 hF E=>?_) fun c12 hF E=>?_
  ·refine fk E ok qiX qi0 rfl 0 rfl rfl fun a E=>lv E ok (qaP qkE h6 rfl) fun a E=>lw E (qah rfl rfl) fun a E=>pt E rfl rfl fun a E=>aw E rfl fun a E=>wp_ret<|qak<|qad ?_
   exact fin hF ⟨ok.drop,E.d,rz E rfl⟩
  refine lsz E fun a E=>pf E rfl rfl fun a E=>aw E rfl fun a E=>wp_ret<|qak<|qad ?_
  exact fin hF ⟨ok.drop,E.d,rz E rfl⟩
 refine sg<|lw E (qah rfl rfl) fun a E=>aw E rfl fun a E=>cg E rfl hF (fun c13 hF=>?_) fun c13 hF=>?_
 ·refine wp_skip<|qac<|qaa<|sg<|aw E rfl fun a E=>wp_ret ?_
  exact fin hF ⟨ok.drop,E.d,rz E rfl⟩
 refine sg<|fk E ok qhw qay rfl 0 rfl rfl fun a E=>lw E (qcH rfl rfl) fun a E=>mv E rfl fun a E=>bu E 48 hF (fun c14 hF E=>?_) fun c14 hF E=>?_
 ·refine fk E ok qkG qam rfl 0 rfl rfl fun a E=>lw E (qah rfl rfl) fun a E=>pt E rfl rfl fun a E=>aw E rfl fun a E=>wp_ret<|qak<|qad ?_
  exact fin hF ⟨ok.drop,E.d,rz E rfl⟩
 refine lsq E fun a E=>ls E fun a E=>pf E rfl rfl fun a E=>aw E rfl fun a E=>wp_ret<|qak<|qad ?_
 exact fin hF ⟨ok.drop,E.d,rz E rfl⟩
def qoL (u:World) (m0:Mem) (S:Segs) (r:Bool) (a:Act) (w:World):Prop :=
 Ok u m0 S w ∧ a.defers = [] ∧ RVs Tryz.prog a w [.t 4 (.bool r)]
theorem qos (N:Nat) (kind_0:Int) (rkind_0:InR .i64 kind_0) (vv_1:List Value) (v_1:ValueT) (hv_1:qaO m0 vv_1 v_1) {r:Bool} (hF:qjS N kind_0 v_1 = some r) (hG:Glob u) (ok:Ok u m0 S w) :
  Calls Tryz.prog 96 [vi kind_0,.agg vv_1.toArray].toArray w fun e w'=>(e = .returned (.bool r) ∧ Ok u m0 S w'):=by
 obtain ⟨c5,rfl,l1,r2,l3,r4,h6⟩:=hv_1
 unfold qjS at hF
 refine en (qoL u m0 S) r Tryz.func96 rfl rfl rfl (fun _ _ h=>ra h rfl) fun fin a E=>sg<|qbF E ok rfl rfl rfl fun b7 a w E ok=>aw E rfl fun a E=>wp_seq<|sg<|mv E rfl fun a E=>wn<|wp_block<|sg<|lw E (qah rfl rfl) fun a E=>aw E rfl fun a E=>cf E rfl hF (fun c8 hF=>?_) fun c8 hF=>?_
 ·refine sg<|fk E ok qhr qam rfl 0 rfl rfl fun a E=>lw E (qbD rfl rfl) fun a E=>aw E rfl fun a E=>wp_ret<|qak<|qad ?_
  exact fin hF ⟨ok.drop,E.d,rz E rfl⟩
 refine sg<|lw E (qah rfl rfl) fun a E=>aw E rfl fun a E=>cf E rfl hF (fun c9 hF=>?_) fun c9 hF=>?_
 ·refine sg<|fk E ok qhr qam rfl 0 rfl rfl fun a E=>lw E (qah rfl rfl) fun a E=>aw E rfl fun a E=>wp_ret<|qak<|qad ?_
  exact fin hF ⟨ok.drop,E.d,rz E rfl⟩
 refine sg<|lw E (qah rfl rfl) fun a E=>aw E rfl fun a E=>cf E rfl hF (fun c10 hF=>?_) fun c10 hF=>?_
 ·refine sg<|fk E ok qhr qam rfl 0 rfl rfl fun a E=>lw E (qah rfl rfl) fun a E=>aw E rfl fun a E=>wp_ret<|qak<|qad ?_
  exact fin hF ⟨ok.drop,E.d,rz E rfl⟩
 refine wp_skip<|qac<|qaa<|sg<|fk E ok qhr qam rfl 0 rfl rfl fun a E=>lw E (qah rfl rfl) fun a E=>aw E rfl fun a E=>wp_ret ?_
 exact fin hF ⟨ok.drop,E.d,rz E rfl⟩
def qma (u:World) (m0:Mem) (S:Segs) (r:(List UInt8) × Int) (a:Act) (w:World):Prop :=
 Ok u m0 S w ∧ a.defers = [] ∧ RVs Tryz.prog a w [.t 6 (.string (bs r.1)),.t 7 (.int .i64 r.2)] ∧ r.1.length ≤ LIMS ∧ InR .i64 r.2
theorem qmg (N:Nat) (vloc_0:List Value) (loc_0:Locale) (hloc_0:qiB m0 vloc_0 loc_0) (vx_1:List Value) (x_1:Part) (hx_1:qbp m0 vx_1 x_1) (vv_2:List Value) (v_2:ValueT) (hv_2:qaO m0 vv_2 v_2) {r:(List UInt8) × Int} (hF:qfA N loc_0 x_1 v_2 = some r) (hG:Glob u) (hTb:Tab u) (ok:Ok u m0 S w) :
  Calls Tryz.prog 65 [.agg vloc_0.toArray,.agg vx_1.toArray,.agg vv_2.toArray].toArray w fun e w'=>(e = .returned (.tuple [(.string (bs r.1)),(.int .i64 r.2)].toArray) ∧ Ok u m0 S w') ∧ r.1.length ≤ LIMS ∧ InR .i64 r.2:=by
 obtain ⟨c4,c6,c14,c16,c18,c20,c22,rfl,l1,l2,l3,h5,h7,l8,l9,l10,l11,r12,r13,h15,h17,h19,h21,h23⟩:=hloc_0
 obtain ⟨c28,c30,rfl,r24,l25,l26,l27,h29,h31⟩:=(qbK.1 hx_1)
 obtain ⟨c36,rfl,l32,r33,l34,r35,h37⟩:=hv_2
 unfold qfA at hF
 refine en (qma u m0 S) r Tryz.func65 rfl rfl rfl (by rintro a w ⟨ok,hd,hrv,h0,h1⟩; exact qaT [.t 6 (.string (bs r.1)),.t 7 (.int .i64 r.2)] hd rfl hrv ⟨⟨rfl,ok⟩,h0,h1⟩) fun fin a E=>sg<|qbF E ok rfl rfl rfl fun b38 a w E ok=>qbF E ok rfl rfl rfl fun b39 a w E ok=>qbF E ok rfl rfl rfl fun b40 a w E ok=>av E rfl fun a E=>av E rfl fun a E=>wn<|wp_seq<|sg<|fk E ok qa2 qam rfl 1 rfl rfl fun a E=>lw E (qap rfl rfl) fun a E=>mv E rfl fun a E=>bu E 12 hF (fun c41 hF E=>?_) fun c41 hF E=>?_
 ·refine lsq E fun a E=>ls E fun a E=>pt E rfl rfl fun a E=>wn<|c_if E rfl (fun _=>?_) (fun h=>by cases h)
  refine sg<|av E rfl fun a E=>aw E rfl fun a E=>wp_ret<|qad ?_
  exact fin hF ⟨ok.drop.drop.drop,E.d,⟨rv_t E rfl,rv_t E rfl,trivial⟩,(show ([]:List UInt8).length ≤ LIMS by decide),(ir 1)⟩
 refine fk E ok qa2 qam rfl 1 rfl rfl fun a E=>lw E (qaK rfl rfl) fun a E=>pf E rfl rfl fun a E=>wn<|cf E rfl hF (fun c42 hF=>?_) fun c42 hF=>?_
 ·refine sg<|av E rfl fun a E=>aw E rfl fun a E=>wp_ret<|qad ?_
  exact fin hF ⟨ok.drop.drop.drop,E.d,⟨rv_t E rfl,rv_t E rfl,trivial⟩,(show ([]:List UInt8).length ≤ LIMS by decide),(ir 1)⟩
 refine wp_skip<|qaa<|wp_seq<|sg<|lv E ok (qan (cs:=[vs v_2.Name,vi v_2.Type_,vs v_2.Text,vi v_2.Date,c36]) qgP rfl rfl (Holds.own 0 rfl rfl)) fun a E=>bd hF fun r43 e44 hF=>lc E qtY rfl (qjV N _ v_2 ⟨_,rfl,l32,r33,l34,r35,h37⟩ e44 hG ok) fun w ok a E=>lw E (qbx rfl) fun a E=>mv E rfl fun a E=>bu E 20 hF (fun c45 hF E=>?_) fun c45 hF E=>?_
 ·refine lsz E fun a E=>ls E fun a E=>pt E rfl rfl fun a E=>wn<|c_if E rfl (fun _=>?_) (fun h=>by cases h)
  refine sg<|av E rfl fun a E=>aw E rfl fun a E=>wp_ret<|qad ?_
  exact fin hF ⟨ok.drop.drop.drop,E.d,⟨rv_t E rfl,rv_t E rfl,trivial⟩,(show ([]:List UInt8).length ≤ LIMS by decide),(ir 11)⟩
 refine fk E ok qa2 qam rfl 1 rfl rfl fun a E=>lv E ok (qan (cs:=[vs v_2.Name,vi v_2.Type_,vs v_2.Text,vi v_2.Date,c36]) qgP rfl rfl (Holds.own 0 rfl rfl)) fun a E=>bd hF fun r46 e47 hF=>lc E qtZ rfl (qos N x_1.Kind r24 _ v_2 ⟨_,rfl,l32,r33,l34,r35,h37⟩ e47 hG ok) fun w ok a E=>lw E (qbx rfl) fun a E=>pf E rfl rfl fun a E=>wn<|cf E rfl hF (fun c48 hF=>?_) fun c48 hF=>?_
 ·refine sg<|av E rfl fun a E=>aw E rfl fun a E=>wp_ret<|qad ?_
  exact fin hF ⟨ok.drop.drop.drop,E.d,⟨rv_t E rfl,rv_t E rfl,trivial⟩,(show ([]:List UInt8).length ≤ LIMS by decide),(ir 11)⟩
 refine wp_skip<|qaa<|wp_seq<|sg<|fk E ok qa2 qam rfl 1 rfl rfl fun a E=>wn<|wp_block<|sg<|lw E (qah rfl rfl) fun a E=>aw E rfl fun a E=>cf E rfl hF (fun c49 hF=>?_) fun c49 hF=>?_
 ·refine sg<|lv E ok (qan (cs:=[vs loc_0.Tag,vs loc_0.Parent,vs loc_0.Direction,c4,c6,vs loc_0.Symbols.Decimal,vs loc_0.Symbols.Group,vs loc_0.Symbols.Minus,vs loc_0.Symbols.Percent,vi loc_0.Symbols.Primary,vi loc_0.Symbols.Secondary,c14,c16,c18,c20,c22]) qfd rfl rfl (Holds.own 2 rfl rfl)) fun a E=>fk E ok qhw qay rfl 0 rfl rfl fun a E=>fk E ok qbM qay rfl 1 rfl rfl fun a E=>?_
  cases hF
 refine sg<|lw E (qah rfl rfl) fun a E=>aw E rfl fun a E=>cf E rfl hF (fun c50 hF=>?_) fun c50 hF=>?_
 ·refine sg<|lv E ok (qan (cs:=[vs loc_0.Tag,vs loc_0.Parent,vs loc_0.Direction,c4,c6,vs loc_0.Symbols.Decimal,vs loc_0.Symbols.Group,vs loc_0.Symbols.Minus,vs loc_0.Symbols.Percent,vi loc_0.Symbols.Primary,vi loc_0.Symbols.Secondary,c14,c16,c18,c20,c22]) qfd rfl rfl (Holds.own 2 rfl rfl)) fun a E=>fk E ok qbM qay rfl 1 rfl rfl fun a E=>fk E ok qhw qay rfl 0 rfl rfl fun a E=>?_
  cases hF
 refine sg<|lw E (qah rfl rfl) fun a E=>aw E rfl fun a E=>cf E rfl hF (fun c51 hF=>?_) fun c51 hF=>?_
 ·refine sg<|lv E ok (qan (cs:=[vs loc_0.Tag,vs loc_0.Parent,vs loc_0.Direction,c4,c6,vs loc_0.Symbols.Decimal,vs loc_0.Symbols.Group,vs loc_0.Symbols.Minus,vs loc_0.Symbols.Percent,vi loc_0.Symbols.Primary,vi loc_0.Symbols.Secondary,c14,c16,c18,c20,c22]) qfd rfl rfl (Holds.own 2 rfl rfl)) fun a E=>fk E ok qbM qay rfl 1 rfl rfl fun a E=>fk E ok qkG qam rfl 0 rfl rfl fun a E=>?_
  cases hF
 refine sg<|lw E (qah rfl rfl) fun a E=>aw E rfl fun a E=>cf E rfl hF (fun c52 hF=>?_) fun c52 hF=>?_
 ·refine sg<|lv E ok (qan (cs:=[vs loc_0.Tag,vs loc_0.Parent,vs loc_0.Direction,c4,c6,vs loc_0.Symbols.Decimal,vs loc_0.Symbols.Group,vs loc_0.Symbols.Minus,vs loc_0.Symbols.Percent,vi loc_0.Symbols.Primary,vi loc_0.Symbols.Secondary,c14,c16,c18,c20,c22]) qfd rfl rfl (Holds.own 2 rfl rfl)) fun a E=>fk E ok qbM qay rfl 1 rfl rfl fun a E=>fk E ok qiX qi0 rfl 0 rfl rfl fun a E=>?_
  cases hF
 refine wp_skip<|qac<|qaa<|wp_seq<|sg<|fk E ok qhr qam rfl 0 rfl rfl fun a E=>lw E (qbD rfl rfl) fun a E=>wn<|cg E rfl hF (fun c53 hF=>?_) fun c53 hF=>?_
 ·refine wp_skip<|qaa<|sg<|fk E ok qkG qam rfl 0 rfl rfl fun a E=>?_
  cases hF
 refine sg<|fk E ok qhw qay rfl 0 rfl rfl fun a E=>av E rfl fun a E=>aw E rfl fun a E=>wp_ret<|qad ?_
 exact fin hF ⟨ok.drop.drop.drop,E.d,⟨rv_t E rfl,rv_t E rfl,trivial⟩,l34,(ir 0)⟩
def qgq (u:World) (m0:Mem) (S:Segs) (pb0:Nat) (x0:Writer) (c1:Value) (c3:Value) (M4:List (Nat × Obj)) (c9:Value) (c11:Value) (c19:Value) (c21:Value) (c23:Value) (c25:Value) (c27:Value) (c29:Value) (r:Writer) (a:Act) (w:World):Prop :=
 ∃ m1 c32 c34 M35 c40 c42 c50 c52 c54 c56 c58 c60,m0.le m1 ∧ Ok u m1 ([(pb0,oc 70 [c32,c34,vs r.loc.Tag,vs r.loc.Parent,vs r.loc.Direction,c40,c42,vs r.loc.Symbols.Decimal,vs r.loc.Symbols.Group,vs r.loc.Symbols.Minus,vs r.loc.Symbols.Percent,vi r.loc.Symbols.Primary,vi r.loc.Symbols.Secondary,c50,c52,c54,c56,c58,c60,vb r.isolated,vi r.e])] :: M35 :: S) w ∧ a.defers = [] ∧ RVs Tryz.prog a w [] ∧ BAd pb0 c32 ∧ ORow 5 1 (pI .u8) m1 c34 r.Builder.buf M35 ∧ r.loc.Tag.length ≤ LIMS ∧ r.loc.Parent.length ≤ LIMS ∧ r.loc.Direction.length ≤ LIMS ∧ (pL 2 qaN) m1 [c40] r.loc.Cardinal ∧ (pL 2 qaN) m1 [c42] r.loc.Ordinal ∧ r.loc.Symbols.Decimal.length ≤ LIMS ∧ r.loc.Symbols.Group.length ≤ LIMS ∧ r.loc.Symbols.Minus.length ≤ LIMS ∧ r.loc.Symbols.Percent.length ≤ LIMS ∧ InR .i64 r.loc.Symbols.Primary ∧ InR .i64 r.loc.Symbols.Secondary ∧ (pL 5 qaC) m1 [c50] r.loc.Lists ∧ (pL 3 qaB) m1 [c52] r.loc.Units ∧ (pL 2 qaA) m1 [c54] r.loc.Dates ∧ (pL 1 pS) m1 [c56] r.loc.Months ∧ (pL 1 pS) m1 [c58] r.loc.Days ∧ (pL 5 qaO) m1 [c60] r.values ∧ InR .i64 r.e
def qkc (u:World) (m0:Mem) (S:Segs) (pb0:Nat) (x0:Writer) (c9:Value) (c11:Value) (M12:List (Nat × Obj)) (c17:Value) (c19:Value) (c27:Value) (c29:Value) (c31:Value) (c33:Value) (c35:Value) (c37:Value) (r:Writer) (a:Act) (w:World):Prop :=
 ∃ m1 c40 c42 M43 c48 c50 c58 c60 c62 c64 c66 c68,m0.le m1 ∧ Ok u m1 ([(pb0,oc 70 [c40,c42,vs r.loc.Tag,vs r.loc.Parent,vs r.loc.Direction,c48,c50,vs r.loc.Symbols.Decimal,vs r.loc.Symbols.Group,vs r.loc.Symbols.Minus,vs r.loc.Symbols.Percent,vi r.loc.Symbols.Primary,vi r.loc.Symbols.Secondary,c58,c60,c62,c64,c66,c68,vb r.isolated,vi r.e])] :: M43 :: S) w ∧ a.defers = [] ∧ RVs Tryz.prog a w [] ∧ BAd pb0 c40 ∧ ORow 5 1 (pI .u8) m1 c42 r.Builder.buf M43 ∧ r.loc.Tag.length ≤ LIMS ∧ r.loc.Parent.length ≤ LIMS ∧ r.loc.Direction.length ≤ LIMS ∧ (pL 2 qaN) m1 [c48] r.loc.Cardinal ∧ (pL 2 qaN) m1 [c50] r.loc.Ordinal ∧ r.loc.Symbols.Decimal.length ≤ LIMS ∧ r.loc.Symbols.Group.length ≤ LIMS ∧ r.loc.Symbols.Minus.length ≤ LIMS ∧ r.loc.Symbols.Percent.length ≤ LIMS ∧ InR .i64 r.loc.Symbols.Primary ∧ InR .i64 r.loc.Symbols.Secondary ∧ (pL 5 qaC) m1 [c58] r.loc.Lists ∧ (pL 3 qaB) m1 [c60] r.loc.Units ∧ (pL 2 qaA) m1 [c62] r.loc.Dates ∧ (pL 1 pS) m1 [c64] r.loc.Months ∧ (pL 1 pS) m1 [c66] r.loc.Days ∧ (pL 5 qaO) m1 [c68] r.values ∧ InR .i64 r.e
def qdm (N:Nat):Prop:=∀ {u:World} {m0:Mem} {S:Segs} {w:World} (vl_1:Value) (l_1:List (Part)) (hl_1:(pL 6 qbp) m0 [vl_1] l_1) (count_2:List UInt8) (lcount_2:count_2.length ≤ LIMS) {pb0:Nat} {c1:Value} {c3:Value} {M4:List (Nat × Obj)} {c9:Value} {c11:Value} {c19:Value} {c21:Value} {c23:Value} {c25:Value} {c27:Value} {c29:Value} (x0:Writer) (h2:BAd pb0 c1) (h5:ORow 5 1 (pI .u8) m0 c3 x0.Builder.buf M4) (l6:x0.loc.Tag.length ≤ LIMS) (l7:x0.loc.Parent.length ≤ LIMS) (l8:x0.loc.Direction.length ≤ LIMS) (h10:(pL 2 qaN) m0 [c9] x0.loc.Cardinal) (h12:(pL 2 qaN) m0 [c11] x0.loc.Ordinal) (l13:x0.loc.Symbols.Decimal.length ≤ LIMS) (l14:x0.loc.Symbols.Group.length ≤ LIMS) (l15:x0.loc.Symbols.Minus.length ≤ LIMS) (l16:x0.loc.Symbols.Percent.length ≤ LIMS) (r17:InR .i64 x0.loc.Symbols.Primary) (r18:InR .i64 x0.loc.Symbols.Secondary) (h20:(pL 5 qaC) m0 [c19] x0.loc.Lists) (h22:(pL 3 qaB) m0 [c21] x0.loc.Units) (h24:(pL 2 qaA) m0 [c23] x0.loc.Dates) (h26:(pL 1 pS) m0 [c25] x0.loc.Months) (h28:(pL 1 pS) m0 [c27] x0.loc.Days) (h30:(pL 5 qaO) m0 [c29] x0.values) (r31:InR .i64 x0.e) {r:Writer} (hF:qcw N l_1 count_2 x0 = some r) (hG:Glob u) (hTb:Tab u) (ok:Ok u m0 ([(pb0,oc 70 [c1,c3,vs x0.loc.Tag,vs x0.loc.Parent,vs x0.loc.Direction,c9,c11,vs x0.loc.Symbols.Decimal,vs x0.loc.Symbols.Group,vs x0.loc.Symbols.Minus,vs x0.loc.Symbols.Percent,vi x0.loc.Symbols.Primary,vi x0.loc.Symbols.Secondary,c19,c21,c23,c25,c27,c29,vb x0.isolated,vi x0.e])] :: M4 :: S) w),Calls Tryz.prog 20 [vp pb0,vl_1,vs count_2].toArray w fun e w'=>∃ m1 c32 c34 M35 c40 c42 c50 c52 c54 c56 c58 c60,e = .returned (.tuple [].toArray) ∧ m0.le m1 ∧ Ok u m1 ([(pb0,oc 70 [c32,c34,vs r.loc.Tag,vs r.loc.Parent,vs r.loc.Direction,c40,c42,vs r.loc.Symbols.Decimal,vs r.loc.Symbols.Group,vs r.loc.Symbols.Minus,vs r.loc.Symbols.Percent,vi r.loc.Symbols.Primary,vi r.loc.Symbols.Secondary,c50,c52,c54,c56,c58,c60,vb r.isolated,vi r.e])] :: M35 :: S) w' ∧ BAd pb0 c32 ∧ ORow 5 1 (pI .u8) m1 c34 r.Builder.buf M35 ∧ r.loc.Tag.length ≤ LIMS ∧ r.loc.Parent.length ≤ LIMS ∧ r.loc.Direction.length ≤ LIMS ∧ (pL 2 qaN) m1 [c40] r.loc.Cardinal ∧ (pL 2 qaN) m1 [c42] r.loc.Ordinal ∧ r.loc.Symbols.Decimal.length ≤ LIMS ∧ r.loc.Symbols.Group.length ≤ LIMS ∧ r.loc.Symbols.Minus.length ≤ LIMS ∧ r.loc.Symbols.Percent.length ≤ LIMS ∧ InR .i64 r.loc.Symbols.Primary ∧ InR .i64 r.loc.Symbols.Secondary ∧ (pL 5 qaC) m1 [c50] r.loc.Lists ∧ (pL 3 qaB) m1 [c52] r.loc.Units ∧ (pL 2 qaA) m1 [c54] r.loc.Dates ∧ (pL 1 pS) m1 [c56] r.loc.Months ∧ (pL 1 pS) m1 [c58] r.loc.Days ∧ (pL 5 qaO) m1 [c60] r.values ∧ InR .i64 r.e
def qdw (N:Nat):Prop:=∀ {u:World} {m0:Mem} {S:Segs} {w:World} (vx_1:List Value) (x_1:Part) (hx_1:qbp m0 vx_1 x_1) (count_2:List UInt8) (lcount_2:count_2.length ≤ LIMS) {pb0:Nat} {c9:Value} {c11:Value} {M12:List (Nat × Obj)} {c17:Value} {c19:Value} {c27:Value} {c29:Value} {c31:Value} {c33:Value} {c35:Value} {c37:Value} (x0:Writer) (h10:BAd pb0 c9) (h13:ORow 5 1 (pI .u8) m0 c11 x0.Builder.buf M12) (l14:x0.loc.Tag.length ≤ LIMS) (l15:x0.loc.Parent.length ≤ LIMS) (l16:x0.loc.Direction.length ≤ LIMS) (h18:(pL 2 qaN) m0 [c17] x0.loc.Cardinal) (h20:(pL 2 qaN) m0 [c19] x0.loc.Ordinal) (l21:x0.loc.Symbols.Decimal.length ≤ LIMS) (l22:x0.loc.Symbols.Group.length ≤ LIMS) (l23:x0.loc.Symbols.Minus.length ≤ LIMS) (l24:x0.loc.Symbols.Percent.length ≤ LIMS) (r25:InR .i64 x0.loc.Symbols.Primary) (r26:InR .i64 x0.loc.Symbols.Secondary) (h28:(pL 5 qaC) m0 [c27] x0.loc.Lists) (h30:(pL 3 qaB) m0 [c29] x0.loc.Units) (h32:(pL 2 qaA) m0 [c31] x0.loc.Dates) (h34:(pL 1 pS) m0 [c33] x0.loc.Months) (h36:(pL 1 pS) m0 [c35] x0.loc.Days) (h38:(pL 5 qaO) m0 [c37] x0.values) (r39:InR .i64 x0.e) {r:Writer} (hF:qeN N x_1 count_2 x0 = some r) (hG:Glob u) (hTb:Tab u) (ok:Ok u m0 ([(pb0,oc 70 [c9,c11,vs x0.loc.Tag,vs x0.loc.Parent,vs x0.loc.Direction,c17,c19,vs x0.loc.Symbols.Decimal,vs x0.loc.Symbols.Group,vs x0.loc.Symbols.Minus,vs x0.loc.Symbols.Percent,vi x0.loc.Symbols.Primary,vi x0.loc.Symbols.Secondary,c27,c29,c31,c33,c35,c37,vb x0.isolated,vi x0.e])] :: M12 :: S) w),Calls Tryz.prog 39 [vp pb0,.agg vx_1.toArray,vs count_2].toArray w fun e w'=>∃ m1 c40 c42 M43 c48 c50 c58 c60 c62 c64 c66 c68,e = .returned (.tuple [].toArray) ∧ m0.le m1 ∧ Ok u m1 ([(pb0,oc 70 [c40,c42,vs r.loc.Tag,vs r.loc.Parent,vs r.loc.Direction,c48,c50,vs r.loc.Symbols.Decimal,vs r.loc.Symbols.Group,vs r.loc.Symbols.Minus,vs r.loc.Symbols.Percent,vi r.loc.Symbols.Primary,vi r.loc.Symbols.Secondary,c58,c60,c62,c64,c66,c68,vb r.isolated,vi r.e])] :: M43 :: S) w' ∧ BAd pb0 c40 ∧ ORow 5 1 (pI .u8) m1 c42 r.Builder.buf M43 ∧ r.loc.Tag.length ≤ LIMS ∧ r.loc.Parent.length ≤ LIMS ∧ r.loc.Direction.length ≤ LIMS ∧ (pL 2 qaN) m1 [c48] r.loc.Cardinal ∧ (pL 2 qaN) m1 [c50] r.loc.Ordinal ∧ r.loc.Symbols.Decimal.length ≤ LIMS ∧ r.loc.Symbols.Group.length ≤ LIMS ∧ r.loc.Symbols.Minus.length ≤ LIMS ∧ r.loc.Symbols.Percent.length ≤ LIMS ∧ InR .i64 r.loc.Symbols.Primary ∧ InR .i64 r.loc.Symbols.Secondary ∧ (pL 5 qaC) m1 [c58] r.loc.Lists ∧ (pL 3 qaB) m1 [c60] r.loc.Units ∧ (pL 2 qaA) m1 [c62] r.loc.Dates ∧ (pL 1 pS) m1 [c64] r.loc.Months ∧ (pL 1 pS) m1 [c66] r.loc.Days ∧ (pL 5 qaO) m1 [c68] r.values ∧ InR .i64 r.e
theorem qik (N:Nat) (ih_eval_writer_parts:qdm N) (ih_eval_writer_part:qdw N):qdm (N + 1):=by
 intro u m0 S w vl_1 l_1 hl_1 count_2 lcount_2 pb0 c1 c3 M4 c9 c11 c19 c21 c23 c25 c27 c29 x0 h2 h5 l6 l7 l8 h10 h12 l13 l14 l15 l16 r17 r18 h20 h22 h24 h26 h28 h30 r31 r hF hG hTb ok
 have le_m0:=Mem.le.refl m0
 have hF0:qcI (qcw N) (qeN N) N l_1 count_2 x0 = some r:=hF
 have hF:=hF0
 clear hF0
 unfold qcI at hF
 refine en (qgq u m0 S pb0 x0 c1 c3 M4 c9 c11 c19 c21 c23 c25 c27 c29) r Tryz.func20 rfl rfl rfl (by rintro a w ⟨m1,c32,c34,M35,c40,c42,c50,c52,c54,c56,c58,c60,hle,ok,hd,hrv,h0,h1,h2,h3,h4,h5,h6,h7,h8,h9,h10,h11,h12,h13,h14,h15,h16,h17,h18,h19⟩; exact qaT [] hd rfl hrv ⟨m1,c32,c34,M35,c40,c42,c50,c52,c54,c56,c58,c60,rfl,hle,ok,h0,h1,h2,h3,h4,h5,h6,h7,h8,h9,h10,h11,h12,h13,h14,h15,h16,h17,h18,h19⟩) fun fin a E=>sg<|mv E rfl fun a E=>lv E ok (qaP qcM hl_1 rfl) fun a E=>mv E rfl fun a E=>wn<|wp_block<|bd hF fun o96 hL hF=>qa7 _ (fun (s:Int × Writer) a w=>∃ m97 c99 c101 M102 c107 c109 c117 c119 c121 c123 c125 c127,m0.le m97 ∧ Ok u m97 ([(pb0,oc 70 [c99,c101,vs s.2.loc.Tag,vs s.2.loc.Parent,vs s.2.loc.Direction,c107,c109,vs s.2.loc.Symbols.Decimal,vs s.2.loc.Symbols.Group,vs s.2.loc.Symbols.Minus,vs s.2.loc.Symbols.Percent,vi s.2.loc.Symbols.Primary,vi s.2.loc.Symbols.Secondary,c117,c119,c121,c123,c125,c127,vb s.2.isolated,vi s.2.e])] :: M102 :: S) w ∧ Env 24 a [(0,vp pb0),(2,vs count_2),(8,vl_1),(9,(vi (l_1.length:Int))),(10,vi s.1)] ∧ InR .i64 s.1 ∧ BAd pb0 c99 ∧ ORow 5 1 (pI .u8) m97 c101 s.2.Builder.buf M102 ∧ s.2.loc.Tag.length ≤ LIMS ∧ s.2.loc.Parent.length ≤ LIMS ∧ s.2.loc.Direction.length ≤ LIMS ∧ (pL 2 qaN) m97 [c107] s.2.loc.Cardinal ∧ (pL 2 qaN) m97 [c109] s.2.loc.Ordinal ∧ s.2.loc.Symbols.Decimal.length ≤ LIMS ∧ s.2.loc.Symbols.Group.length ≤ LIMS ∧ s.2.loc.Symbols.Minus.length ≤ LIMS ∧ s.2.loc.Symbols.Percent.length ≤ LIMS ∧ InR .i64 s.2.loc.Symbols.Primary ∧ InR .i64 s.2.loc.Symbols.Secondary ∧ (pL 5 qaC) m97 [c117] s.2.loc.Lists ∧ (pL 3 qaB) m97 [c119] s.2.loc.Units ∧ (pL 2 qaA) m97 [c121] s.2.loc.Dates ∧ (pL 1 pS) m97 [c123] s.2.loc.Months ∧ (pL 1 pS) m97 [c125] s.2.loc.Days ∧ (pL 5 qaO) m97 [c127] s.2.values ∧ InR .i64 s.2.e) (fun (b:(Writer ⊕ Writer)) e a w=>(Sum.elim (fun b251=>e = (.exit 0) ∧ ∃ m252 c253 c255 M256 c261 c263 c271 c273 c275 c277 c279 c281,m0.le m252 ∧ Ok u m252 ([(pb0,oc 70 [c253,c255,vs b251.loc.Tag,vs b251.loc.Parent,vs b251.loc.Direction,c261,c263,vs b251.loc.Symbols.Decimal,vs b251.loc.Symbols.Group,vs b251.loc.Symbols.Minus,vs b251.loc.Symbols.Percent,vi b251.loc.Symbols.Primary,vi b251.loc.Symbols.Secondary,c271,c273,c275,c277,c279,c281,vb b251.isolated,vi b251.e])] :: M256 :: S) w ∧ Env 24 a [] ∧ BAd pb0 c253 ∧ ORow 5 1 (pI .u8) m252 c255 b251.Builder.buf M256 ∧ b251.loc.Tag.length ≤ LIMS ∧ b251.loc.Parent.length ≤ LIMS ∧ b251.loc.Direction.length ≤ LIMS ∧ (pL 2 qaN) m252 [c261] b251.loc.Cardinal ∧ (pL 2 qaN) m252 [c263] b251.loc.Ordinal ∧ b251.loc.Symbols.Decimal.length ≤ LIMS ∧ b251.loc.Symbols.Group.length ≤ LIMS ∧ b251.loc.Symbols.Minus.length ≤ LIMS ∧ b251.loc.Symbols.Percent.length ≤ LIMS ∧ InR .i64 b251.loc.Symbols.Primary ∧ InR .i64 b251.loc.Symbols.Secondary ∧ (pL 5 qaC) m252 [c271] b251.loc.Lists ∧ (pL 3 qaB) m252 [c273] b251.loc.Units ∧ (pL 2 qaA) m252 [c275] b251.loc.Dates ∧ (pL 1 pS) m252 [c277] b251.loc.Months ∧ (pL 1 pS) m252 [c279] b251.loc.Days ∧ (pL 5 qaO) m252 [c281] b251.values ∧ InR .i64 b251.e) (fun b284=>e = .ret ∧ qgq u m0 S pb0 x0 c1 c3 M4 c9 c11 c19 c21 c23 c25 c27 c29 b284 a w)) b) ?_ ?_ N _ a w hL ⟨m0,c1,c3,M4,c9,c11,c19,c21,c23,c25,c27,c29,Mem.le.refl _,ok,E.keep [0,2,8,9,10],(ir 0),h2,h5,l6,l7,l8,h10,h12,l13,l14,l15,l16,r17,r18,h20,h22,h24,h26,h28,h30,r31⟩
 rotate_left
 ·intro e a w _ hO
  rcases o96 with o96 | o96
  rotate_left
  ·obtain ⟨rfl,hret⟩:=hO
   refine qak ?_
   exact fin hF hret
  have hF:=qcj hF
  obtain ⟨rfl,m219,c220,c222,M223,c228,c230,c238,c240,c242,c244,c246,c248,hle,ok,E,h221,h224,l225,l226,l227,h229,h231,l232,l233,l234,l235,r236,r237,h239,h241,h243,h245,h247,h249,r250⟩:=hO
  have le_m0:=le_m0.trans hle
  have hl_1:=(mL qa8).up hle hl_1
  have h10:=(mL qa9).up hle h10
  have h12:=(mL qa9).up hle h12
  have h20:=(mL qaW).up hle h20
  have h22:=(mL qaV).up hle h22
  have h24:=(mL qaU).up hle h24
  have h26:=(mL mS).up hle h26
  have h28:=(mL mS).up hle h28
  have h30:=(mL qbo).up hle h30
  refine qa0 ?_
  exact fin hF ⟨m219,c220,c222,M223,c228,c230,c238,c240,c242,c244,c246,c248,le_m0,ok,E.d,trivial,h221,h224,l225,l226,l227,h229,h231,l232,l233,l234,l235,r236,r237,h239,h241,h243,h245,h247,h249,r250⟩
 rintro ⟨v130,v131⟩ a w r ⟨m132,c134,c136,M137,c142,c144,c152,c154,c156,c158,c160,c162,hle,ok,E,r133,h135,h138,l139,l140,l141,h143,h145,l146,l147,l148,l149,r150,r151,h153,h155,h157,h159,h161,h163,r164⟩ hF
 replace hF:qbi (qcw N) (qeN N) N l_1 count_2 v130 v131 = some r:=hF
 unfold qbi at hF
 have le_m0:=le_m0.trans hle
 have hl_1:=(mL qa8).up hle hl_1
 have h10:=(mL qa9).up hle h10
 have h12:=(mL qa9).up hle h12
 have h20:=(mL qaW).up hle h20
 have h22:=(mL qaV).up hle h22
 have h24:=(mL qaU).up hle h24
 have h26:=(mL mS).up hle h26
 have h28:=(mL mS).up hle h28
 have h30:=(mL qbo).up hle h30
 refine sg<|lw E (qap rfl rfl) fun a E=>wn<|wp_seq<|cg E rfl hF (fun c165 hF=>?_) fun c165 hF=>?_
 ·refine wp_exit<|qaM ?_
  cases hF
  exact so (sl ⟨rfl,⟨m132,c134,c136,M137,c142,c144,c152,c154,c156,c158,c160,c162,le_m0,ok,E.keep [],h135,h138,l139,l140,l141,h143,h145,l146,l147,l148,l149,r150,r151,h153,h155,h157,h159,h161,h163,r164⟩⟩)
 refine wp_skip<|qaa<|wp_seq<|wp_block<|sg ?_
 obtain ⟨x166,e167,hF⟩:=bnd hF
 obtain ⟨b168,o169,es170,hl171,rr172,at173,yy174⟩:=ia E 8 10 qcM hl_1 e167
 obtain ⟨c179,c181,rfl,r175,l176,l177,l178,h180,h182⟩:=(qbK.1 rr172)
 refine lv E ok (yy174 _ _) fun a E=>lv E ok (qan (cs:=[vi x166.Kind,vs x166.Text,vs x166.Name,vs x166.Style,c179,c181]) qd5 rfl rfl (Holds.ro at173)) fun a E=>qa4 E ok qcn rfl rfl fun b183 a w E ok=>qax E ok 0 rfl rfl rfl qhH rfl rfl ⟨rfl,rfl,rfl,rfl,(qdk h180),(qdk h182),trivial⟩ rfl rfl fun w ok=>wn<|wp_seq<|sg<|mv E rfl fun a E=>lw E (qae rfl) fun a E=>fk E ok qhy qfq rfl 1 rfl rfl fun a E=>lw E (qbD rfl rfl) fun a E=>wn<|cf E rfl hF (fun c184 hF=>?_) fun c184 hF=>?_
 ·refine wp_ret<|qad<|qak<|qad ?_
  cases hF
  exact so (sr ⟨rfl,⟨m132,c134,c136,M137,c142,c144,c152,c154,c156,c158,c160,c162,le_m0,ok.drop,E.d,trivial,h135,h138,l139,l140,l141,h143,h145,l146,l147,l148,l149,r150,r151,h153,h155,h157,h159,h161,h163,r164⟩⟩)
 refine wp_skip<|qaa<|qab<|mv E rfl fun a E=>lv E ok (qan (cs:=[vi x166.Kind,vs x166.Text,vs x166.Name,vs x166.Style,c179,c181]) qd5 rfl rfl (Holds.own 0 rfl rfl)) fun a E=>mv E rfl fun a E=>?_
 obtain ⟨r185,e186,hF⟩:=bnd hF
 replace ok:Ok u m132 ([(pb0,oc 70 [c134,c136,vs v131.loc.Tag,vs v131.loc.Parent,vs v131.loc.Direction,c142,c144,vs v131.loc.Symbols.Decimal,vs v131.loc.Symbols.Group,vs v131.loc.Symbols.Minus,vs v131.loc.Symbols.Percent,vi v131.loc.Symbols.Primary,vi v131.loc.Symbols.Secondary,c152,c154,c156,c158,c160,c162,vb v131.isolated,vi v131.e])] :: M137 :: [(b183,oc 34 [vi x166.Kind,vs x166.Text,vs x166.Name,vs x166.Style,c179,c181])] :: S) w:=(ok.pk 3 [1,2,0] rfl (by decide))
 refine qaf E qti rfl (ih_eval_writer_part _ x166 (qbK.2 ⟨_,_,rfl,r175,l176,l177,l178,h180,h182⟩) count_2 lcount_2 (Writer.mk (Builder.mk () v131.Builder.buf) v131.loc v131.values v131.isolated v131.e) h135 h138 l139 l140 l141 h143 h145 l146 l147 l148 l149 r150 r151 h153 h155 h157 h159 h161 h163 r164 e186 hG hTb ok) rfl rfl ?_
 rintro _ w ⟨m187,c188,c190,M191,c196,c198,c206,c208,c210,c212,c214,c216,rfl,hle,ok,h189,h192,l193,l194,l195,h197,h199,l200,l201,l202,l203,r204,r205,h207,h209,h211,h213,h215,h217,r218⟩
 have le_m0:=le_m0.trans hle
 have hl_1:=(mL qa8).up hle hl_1
 have h10:=(mL qa9).up hle h10
 have h12:=(mL qa9).up hle h12
 have h20:=(mL qaW).up hle h20
 have h22:=(mL qaV).up hle h22
 have h24:=(mL qaU).up hle h24
 have h26:=(mL mS).up hle h26
 have h28:=(mL mS).up hle h28
 have h30:=(mL qbo).up hle h30
 have h143:=(mL qa9).up hle h143
 have h145:=(mL qa9).up hle h145
 have h153:=(mL qaW).up hle h153
 have h155:=(mL qaV).up hle h155
 have h157:=(mL qaU).up hle h157
 have h159:=(mL mS).up hle h159
 have h161:=(mL mS).up hle h161
 have h163:=(mL qbo).up hle h163
 have h180:=(mL qex).up hle h180
 have h182:=(mL qa8).up hle h182
 have at173:=At.up hle at173
 refine ⟨_,rfl,fun a E=>?_⟩
 refine wpList_nil<|qac<|qaa<|qab<|lw E (qaE rfl rfl (InR.inc r133 (qaj hl_1) c165)) fun a E=>mv E rfl fun a E=>wpList_nil ?_
 cases hF
 exact qao ⟨m187,c188,c190,M191,c196,c198,c206,c208,c210,c212,c214,c216,le_m0,(ok.pk 3 [0,1] rfl (by decide)),E.keep [0,2,8,9,10],(InR.inc r133 (qaj hl_1) c165),h189,h192,l193,l194,l195,h197,h199,l200,l201,l202,l203,r204,r205,h207,h209,h211,h213,h215,h217,r218⟩
theorem qiM (N:Nat) (ih_eval_writer_parts:qdm N) (ih_eval_writer_part:qdw N):qdw (N + 1):=by
 intro u m0 S w vx_1 x_1 hx_1 count_2 lcount_2 pb0 c9 c11 M12 c17 c19 c27 c29 c31 c33 c35 c37 x0 h10 h13 l14 l15 l16 h18 h20 l21 l22 l23 l24 r25 r26 h28 h30 h32 h34 h36 h38 r39 r hF hG hTb ok
 obtain ⟨c5,c7,rfl,r1,l2,l3,l4,h6,h8⟩:=(qbK.1 hx_1)
 have le_m0:=Mem.le.refl m0
 have hF0:qbL (qcw N) (qeN N) N x_1 count_2 x0 = some r:=hF
 have hF:=hF0
 clear hF0
 unfold qbL at hF
 refine en (qkc u m0 S pb0 x0 c9 c11 M12 c17 c19 c27 c29 c31 c33 c35 c37) r Tryz.func39 rfl rfl rfl (by rintro a w ⟨m1,c40,c42,M43,c48,c50,c58,c60,c62,c64,c66,c68,hle,ok,hd,hrv,h0,h1,h2,h3,h4,h5,h6,h7,h8,h9,h10,h11,h12,h13,h14,h15,h16,h17,h18,h19⟩; exact qaT [] hd rfl hrv ⟨m1,c40,c42,M43,c48,c50,c58,c60,c62,c64,c66,c68,rfl,hle,ok,h0,h1,h2,h3,h4,h5,h6,h7,h8,h9,h10,h11,h12,h13,h14,h15,h16,h17,h18,h19⟩) fun fin a E=>sg<|qbF E ok rfl rfl rfl fun b71 a w E ok=>wn<|sg<|fk E ok qa2 qam rfl 0 rfl rfl fun a E=>wn<|wp_block<|sg<|lw E (qah rfl rfl) fun a E=>aw E rfl fun a E=>cf E rfl hF (fun c72 hF=>?_) fun c72 hF=>?_
 ·refine qab<|mv E rfl fun a E=>fk E ok qed qay rfl 0 rfl rfl fun a E=>?_
  obtain ⟨r73,e74,hF⟩:=bnd hF
  replace ok:Ok u m0 ([(pb0,oc 70 [c9,c11,vs x0.loc.Tag,vs x0.loc.Parent,vs x0.loc.Direction,c17,c19,vs x0.loc.Symbols.Decimal,vs x0.loc.Symbols.Group,vs x0.loc.Symbols.Minus,vs x0.loc.Symbols.Percent,vi x0.loc.Symbols.Primary,vi x0.loc.Symbols.Secondary,c27,c29,c31,c33,c35,c37,vb x0.isolated,vi x0.e])] :: M12 :: [(b71,oc 34 [vi x_1.Kind,vs x_1.Text,vs x_1.Name,vs x_1.Style,c5,c7])] :: S) w:=(ok.pk 3 [1,2,0] rfl (by decide))
  refine qaf E qpc rfl (qe2 N x_1.Text l2 (Writer.mk (Builder.mk () x0.Builder.buf) x0.loc x0.values x0.isolated x0.e) h10 h13 l14 l15 l16 h18 h20 l21 l22 l23 l24 r25 r26 h28 h30 h32 h34 h36 h38 r39 e74 hG ok) rfl rfl ?_
  rintro _ w ⟨m75,c76,c78,M79,c84,c86,c94,c96,c98,c100,c102,c104,rfl,hle,ok,h77,h80,l81,l82,l83,h85,h87,l88,l89,l90,l91,r92,r93,h95,h97,h99,h101,h103,h105,r106⟩
  have le_m0:=le_m0.trans hle
  have h6:=(mL qex).up hle h6
  have h8:=(mL qa8).up hle h8
  have h18:=(mL qa9).up hle h18
  have h20:=(mL qa9).up hle h20
  have h28:=(mL qaW).up hle h28
  have h30:=(mL qaV).up hle h30
  have h32:=(mL qaU).up hle h32
  have h34:=(mL mS).up hle h34
  have h36:=(mL mS).up hle h36
  have h38:=(mL qbo).up hle h38
  refine ⟨_,rfl,fun a E=>?_⟩
  refine wpList_nil<|qac ?_
  exact fin hF ⟨m75,c76,c78,M79,c84,c86,c94,c96,c98,c100,c102,c104,le_m0,(ok.pk 3 [0,1] rfl (by decide)),E.d,trivial,h77,h80,l81,l82,l83,h85,h87,l88,l89,l90,l91,r92,r93,h95,h97,h99,h101,h103,h105,r106⟩
 refine sg<|lw E (qah rfl rfl) fun a E=>aw E rfl fun a E=>cf E rfl hF (fun c107 hF=>?_) fun c107 hF=>?_
 ·refine qab<|mz E rfl rfl fun a E=>lw E (qae rfl) fun a E=>fv E qmT rfl fun a E=>lv E ok (qan (cs:=[vs x0.loc.Tag,vs x0.loc.Parent,vs x0.loc.Direction,c17,c19,vs x0.loc.Symbols.Decimal,vs x0.loc.Symbols.Group,vs x0.loc.Symbols.Minus,vs x0.loc.Symbols.Percent,vi x0.loc.Symbols.Primary,vi x0.loc.Symbols.Secondary,c27,c29,c31,c33,c35]) qfd rfl rfl (Holds.own 1 rfl rfl)) fun a E=>mv E rfl fun a E=>?_
  cases hF
 refine sg<|lw E (qah rfl rfl) fun a E=>aw E rfl fun a E=>cf E rfl hF (fun c108 hF=>?_) fun c108 hF=>?_
 ·refine qab<|mv E rfl fun a E=>lv E ok (qan (cs:=[vi x_1.Kind,vs x_1.Text,vs x_1.Name,vs x_1.Style,c5,c7]) qd5 rfl rfl (Holds.own 0 rfl rfl)) fun a E=>mv E rfl fun a E=>?_
  cases hF
 refine wp_seq<|sg<|lw E (qah rfl rfl) fun a E=>aw E rfl fun a E=>bd hF fun o109 hJ hF=>qaH (Q':=fun e a w=>e = .normal ∧ Ok u m0 ([(b71,oc 34 [vi x_1.Kind,vs x_1.Text,vs x_1.Name,vs x_1.Style,c5,c7])] :: [(pb0,oc 70 [c9,c11,vs x0.loc.Tag,vs x0.loc.Parent,vs x0.loc.Direction,c17,c19,vs x0.loc.Symbols.Decimal,vs x0.loc.Symbols.Group,vs x0.loc.Symbols.Minus,vs x0.loc.Symbols.Percent,vi x0.loc.Symbols.Primary,vi x0.loc.Symbols.Secondary,c27,c29,c31,c33,c35,c37,vb x0.isolated,vi x0.e])] :: M12 :: S) w ∧ Env 111 a [(0,vp pb0),(2,vs count_2),(4,vp b71),(64,vb o109)]) ?_ ?_
 ·have hF:=hJ
  refine cf E rfl hF (fun c110 hF=>?_) fun c110 hF=>?_
  ·refine wp_skip ?_
   cases hF
   exact ⟨rfl,⟨ok,E.keep [0,2,4,64]⟩⟩
  refine sg<|lw E (qah rfl rfl) fun a E=>aw E rfl fun a E=>cf E rfl hF (fun c111 hF=>?_) fun c111 hF=>?_
  ·refine wp_skip ?_
   cases hF
   exact ⟨rfl,⟨ok,E.keep [0,2,4,64]⟩⟩
  refine qab<|lw E (qah rfl rfl) fun a E=>av E rfl fun a E=>wpList_nil ?_
  cases hF
  exact ⟨rfl,⟨ok,E.keep [0,2,4,64]⟩⟩
 intro e a w hO
 obtain ⟨rfl,ok,E⟩:=hO
 refine qaa<|cf E rfl hF (fun c112 hF=>?_) fun c112 hF=>?_
 ·refine wp_seq<|qce (by kernel_rfl) (by kernel_rfl) ok<|qv E (qai rfl) fun a E=>qv E (qae rfl) fun a E=>qv E (qag qmT rfl) fun a E=>qv E (qan (cs:=[vs x0.loc.Tag,vs x0.loc.Parent,vs x0.loc.Direction,c17,c19,vs x0.loc.Symbols.Decimal,vs x0.loc.Symbols.Group,vs x0.loc.Symbols.Minus,vs x0.loc.Symbols.Percent,vi x0.loc.Symbols.Primary,vi x0.loc.Symbols.Secondary,c27,c29,c31,c33,c35]) qfd rfl rfl (Holds.own 1 rfl rfl)) fun a E=>qv E (qan (cs:=[vi x_1.Kind,vs x_1.Text,vs x_1.Name,vs x_1.Style,c5,c7]) qd5 rfl rfl (Holds.own 0 rfl rfl)) fun a E=>qv E (qai rfl) fun a E=>qv E (qae rfl) fun a E=>qv E (qag qo2 rfl) fun a E=>qv E (qal qpZ rfl (Holds.own 1 rfl rfl)) fun a E=>?_
  cases hF
 refine wp_seq<|bd hF fun o113 hJ hF=>qaH (Q':=fun e a w=>e = .normal ∧ ∃ m114 b121 c119,m0.le m114 ∧ Ok u m114 ([(b121,oc 58 [vs o113.1.Name,vi o113.1.Type_,vs o113.1.Text,vi o113.1.Date,c119])] :: [(b71,oc 34 [vi x_1.Kind,vs x_1.Text,vs x_1.Name,vs x_1.Style,c5,c7])] :: [(pb0,oc 70 [c9,c11,vs x0.loc.Tag,vs x0.loc.Parent,vs x0.loc.Direction,c17,c19,vs x0.loc.Symbols.Decimal,vs x0.loc.Symbols.Group,vs x0.loc.Symbols.Minus,vs x0.loc.Symbols.Percent,vi x0.loc.Symbols.Primary,vi x0.loc.Symbols.Secondary,c27,c29,c31,c33,c35,c37,vb x0.isolated,vi x0.e])] :: M12 :: S) w ∧ Env 111 a [(0,vp pb0),(4,vp b71),(10,vp b121),(11,vb o113.2)] ∧ o113.1.Name.length ≤ LIMS ∧ InR .i64 o113.1.Type_ ∧ o113.1.Text.length ≤ LIMS ∧ InR .i64 o113.1.Date ∧ (pL 1 pS) m114 [c119] o113.1.List) ?_ ?_
 ·as_aux_lemma =>
   have hF:=hJ
   obtain ⟨r122,e123,hF⟩:=bnd hF
   obtain rfl:=sj hF
   refine qco [] (Cls u m0 ([(b71,oc 34 [vi x_1.Kind,vs x_1.Text,vs x_1.Name,vs x_1.Style,c5,c7])] :: [(pb0,oc 70 [c9,c11,vs x0.loc.Tag,vs x0.loc.Parent,vs x0.loc.Direction,c17,c19,vs x0.loc.Symbols.Decimal,vs x0.loc.Symbols.Group,vs x0.loc.Symbols.Minus,vs x0.loc.Symbols.Percent,vi x0.loc.Symbols.Primary,vi x0.loc.Symbols.Secondary,c27,c29,c31,c33,c35,c37,vb x0.isolated,vi x0.e])] :: M12 :: [])) (Cls u m0 ([(b71,oc 34 [vi x_1.Kind,vs x_1.Text,vs x_1.Name,vs x_1.Style,c5,c7])] :: [(pb0,oc 70 [c9,c11,vs x0.loc.Tag,vs x0.loc.Parent,vs x0.loc.Direction,c17,c19,vs x0.loc.Symbols.Decimal,vs x0.loc.Symbols.Group,vs x0.loc.Symbols.Minus,vs x0.loc.Symbols.Percent,vi x0.loc.Symbols.Primary,vi x0.loc.Symbols.Secondary,c27,c29,c31,c33,c35,c37,vb x0.isolated,vi x0.e])] :: M12 :: [])) (by kernel_rfl) ?_
   intro w hw
   replace ok:=qc8 ok hw
   clear hw
   have h18_o:=h18
   have h20_o:=h20
   have h28_o:=h28
   have h30_o:=h30
   have h32_o:=h32
   have h34_o:=h34
   have h36_o:=h36
   have h38_o:=h38
   have h6_o:=h6
   have h8_o:=h8
   refine qas (cl1 (cq le_m0 ok [0,1,2] rfl) (cq le_m0 ok [0,1,2] rfl)) fun hT=>kt 0 E rfl hT (qai rfl) fun a E=>kt 1 E rfl hT (qae rfl) fun a E=>kt 2 E rfl hT (qag qo2 rfl) fun a E=>kt 3 E rfl hT (qal qpZ rfl (Holds.cown 1 rfl rfl)) fun a E=>kt 4 E rfl hT (qag qbj rfl) fun a E=>kt 5 E rfl hT (qal qay rfl (Holds.cown 0 rfl rfl)) fun a E=>qaS [6,10] (by kernel_rfl) rfl (qd7 ?_ (qd7 ?_ (qhd)))
   ·refine wo rfl<|qaf E qrq rfl (qh4 N _ x0.values h38 x_1.Name l3 e123 hG ok) rfl rfl ?_
    rintro _ w ⟨m134,vs135,rfl,hle,ok,h136⟩
    have le_m0:=le_m0.trans hle
    have h6:=(mL qex).up hle h6
    have h8:=(mL qa8).up hle h8
    have h13:=ORow.up (mI .u8) hle h13
    have h18:=(mL qa9).up hle h18
    have h20:=(mL qa9).up hle h20
    have h28:=(mL qaW).up hle h28
    have h30:=(mL qaV).up hle h30
    have h32:=(mL qaU).up hle h32
    have h34:=(mL mS).up hle h34
    have h36:=(mL mS).up hle h36
    have h38:=(mL qbo).up hle h38
    obtain ⟨c141,rfl,l137,r138,l139,r140,h142⟩:=h136
    refine ⟨_,rfl,fun a E=>?_⟩
    refine wn<|qas (cl1 (cq le_m0 ok [0,1,2] rfl) (cq le_m0 ok [0,1,2] rfl)) fun hT=>kt 7 E rfl hT (qai rfl) fun a E=>kt 8 E rfl hT (qav rfl rfl) fun a E=>kt 9 E rfl hT (qav rfl rfl) fun a E=>qaS [10] (by kernel_rfl) rfl (qaZ ?_)
    ·refine wo rfl<|qa4 E ok qfg rfl rfl fun b143 a w E ok=>wn<|qas (cl1 (cq le_m0 ok [1,2,3] rfl) (cq le_m0 ok [1,2,3] rfl)) fun hT=>qaS [11] (by kernel_rfl) rfl (qaZ ?_)
     ·refine wo rfl<|qax E ok 0 rfl rfl rfl qkr rfl rfl ⟨rfl,rfl,rfl,rfl,(qdk h142),trivial⟩ rfl rfl fun w ok=>wn<|qas (cl1 (cq le_m0 ok [1,2,3] rfl) (cq le_m0 ok [1,2,3] rfl)) fun hT=>kt 12 E rfl hT (qaG rfl) fun a E=>qbJ (by kernel_rfl) ?_
      exact ⟨rfl,⟨m134,b143,c141,le_m0,ok,E.keep [0,4,10,11],l137,r138,l139,r140,h142⟩⟩
   refine wo rfl<|qa4 E ok qfg rfl rfl fun b144 a w E ok=>wn<|qas (cl1 (cq le_m0 ok [1,2,3] rfl) (cq le_m0 ok [1,2,3] rfl)) fun hT=>qaS [6] (by kernel_rfl) rfl (qaZ ?_)
   ·refine wo rfl<|qaf E qrq rfl (qh4 N _ x0.values h38 x_1.Name l3 e123 hG ok) rfl rfl ?_
    rintro _ w ⟨m145,vs146,rfl,hle,ok,h147⟩
    have le_m0:=le_m0.trans hle
    have h6:=(mL qex).up hle h6
    have h8:=(mL qa8).up hle h8
    have h13:=ORow.up (mI .u8) hle h13
    have h18:=(mL qa9).up hle h18
    have h20:=(mL qa9).up hle h20
    have h28:=(mL qaW).up hle h28
    have h30:=(mL qaV).up hle h30
    have h32:=(mL qaU).up hle h32
    have h34:=(mL mS).up hle h34
    have h36:=(mL mS).up hle h36
    have h38:=(mL qbo).up hle h38
    obtain ⟨c152,rfl,l148,r149,l150,r151,h153⟩:=h147
    refine ⟨_,rfl,fun a E=>?_⟩
    refine wn<|qas (cl1 (cq le_m0 ok [1,2,3] rfl) (cq le_m0 ok [1,2,3] rfl)) fun hT=>kt 7 E rfl hT (qai rfl) fun a E=>kt 8 E rfl hT (qav rfl rfl) fun a E=>kt 9 E rfl hT (qav rfl rfl) fun a E=>qaS [11] (by kernel_rfl) rfl (qaZ ?_)
    ·refine wo rfl<|qax E ok 0 rfl rfl rfl qkr rfl rfl ⟨rfl,rfl,rfl,rfl,(qdk h153),trivial⟩ rfl rfl fun w ok=>wn<|qas (cl1 (cq le_m0 ok [1,2,3] rfl) (cq le_m0 ok [1,2,3] rfl)) fun hT=>kt 12 E rfl hT (qaG rfl) fun a E=>qbJ (by kernel_rfl) ?_
     exact ⟨rfl,⟨m145,b144,c152,le_m0,ok,E.keep [0,4,10,11],l148,r149,l150,r151,h153⟩⟩
 intro e a w hO
 obtain ⟨rfl,m154,b161,c159,hle,ok,E,l155,r156,l157,r158,h160⟩:=hO
 have le_m0:=le_m0.trans hle
 have h6:=(mL qex).up hle h6
 have h8:=(mL qa8).up hle h8
 have h13:=ORow.up (mI .u8) hle h13
 have h18:=(mL qa9).up hle h18
 have h20:=(mL qa9).up hle h20
 have h28:=(mL qaW).up hle h28
 have h30:=(mL qaV).up hle h30
 have h32:=(mL qaU).up hle h32
 have h34:=(mL mS).up hle h34
 have h36:=(mL mS).up hle h36
 have h38:=(mL qbo).up hle h38
 refine qaa<|wp_seq<|sg<|mv E rfl fun a E=>lw E (qbx rfl) fun a E=>wn<|cf E rfl hF (fun c162 hF=>?_) fun c162 hF=>?_
 ·refine sg<|mv E rfl fun a E=>lw E (qae rfl) fun a E=>fv E qhy rfl fun a E=>qax E ok 2 rfl rfl rfl qlK rfl rfl ⟨rfl,trivial⟩ rfl rfl fun w ok=>wn<|wp_ret<|qad<|qak ?_
  exact fin hF ⟨m154,c9,c11,M12,c17,c19,c27,c29,c31,c33,c35,c37,le_m0,ok.drop.drop,E.d,trivial,h10,h13,l14,l15,l16,h18,h20,l21,l22,l23,l24,r25,r26,h28,h30,h32,h34,h36,h38,(ir 12)⟩
 refine wp_skip<|qaa<|bd hF fun o163 hJ hF=>qaH (Q':=fun e a w=>e = .normal ∧ ∃ m164 c165 c167 M168 c173 c175 c183 c185 c187 c189 c191 c193,m154.le m164 ∧ Ok u m164 ([(b161,oc 58 [vs o113.1.Name,vi o113.1.Type_,vs o113.1.Text,vi o113.1.Date,c159])] :: [(b71,oc 34 [vi x_1.Kind,vs x_1.Text,vs x_1.Name,vs x_1.Style,c5,c7])] :: [(pb0,oc 70 [c165,c167,vs o163.loc.Tag,vs o163.loc.Parent,vs o163.loc.Direction,c173,c175,vs o163.loc.Symbols.Decimal,vs o163.loc.Symbols.Group,vs o163.loc.Symbols.Minus,vs o163.loc.Symbols.Percent,vi o163.loc.Symbols.Primary,vi o163.loc.Symbols.Secondary,c183,c185,c187,c189,c191,c193,vb o163.isolated,vi o163.e])] :: M168 :: S) w ∧ Env 111 a [] ∧ BAd pb0 c165 ∧ ORow 5 1 (pI .u8) m164 c167 o163.Builder.buf M168 ∧ o163.loc.Tag.length ≤ LIMS ∧ o163.loc.Parent.length ≤ LIMS ∧ o163.loc.Direction.length ≤ LIMS ∧ (pL 2 qaN) m164 [c173] o163.loc.Cardinal ∧ (pL 2 qaN) m164 [c175] o163.loc.Ordinal ∧ o163.loc.Symbols.Decimal.length ≤ LIMS ∧ o163.loc.Symbols.Group.length ≤ LIMS ∧ o163.loc.Symbols.Minus.length ≤ LIMS ∧ o163.loc.Symbols.Percent.length ≤ LIMS ∧ InR .i64 o163.loc.Symbols.Primary ∧ InR .i64 o163.loc.Symbols.Secondary ∧ (pL 5 qaC) m164 [c183] o163.loc.Lists ∧ (pL 3 qaB) m164 [c185] o163.loc.Units ∧ (pL 2 qaA) m164 [c187] o163.loc.Dates ∧ (pL 1 pS) m164 [c189] o163.loc.Months ∧ (pL 1 pS) m164 [c191] o163.loc.Days ∧ (pL 5 qaO) m164 [c193] o163.values ∧ InR .i64 o163.e) ?_ ?_
 rotate_left
 ·intro e a w hO
  obtain ⟨rfl,m268,c269,c271,M272,c277,c279,c287,c289,c291,c293,c295,c297,hle,ok,E,h270,h273,l274,l275,l276,h278,h280,l281,l282,l283,l284,r285,r286,h288,h290,h292,h294,h296,h298,r299⟩:=hO
  have le_m0:=le_m0.trans hle
  have h6:=(mL qex).up hle h6
  have h8:=(mL qa8).up hle h8
  have h18:=(mL qa9).up hle h18
  have h20:=(mL qa9).up hle h20
  have h28:=(mL qaW).up hle h28
  have h30:=(mL qaV).up hle h30
  have h32:=(mL qaU).up hle h32
  have h34:=(mL mS).up hle h34
  have h36:=(mL mS).up hle h36
  have h38:=(mL qbo).up hle h38
  have h160:=(mL mS).up hle h160
  refine qac ?_
  exact fin hF ⟨m268,c269,c271,M272,c277,c279,c287,c289,c291,c293,c295,c297,le_m0,ok.drop.drop,E.d,trivial,h270,h273,l274,l275,l276,h278,h280,l281,l282,l283,l284,r285,r286,h288,h290,h292,h294,h296,h298,r299⟩
 have hF:=hJ
 have le_m154:=Mem.le.refl m154
 obtain ⟨r196,e197,hF⟩:=bnd hF
 obtain ⟨r200,e201,hF⟩:=bnd hF
 obtain rfl:=sj hF
 refine qco [] (Cls u m154 ([(b161,oc 58 [vs o113.1.Name,vi o113.1.Type_,vs o113.1.Text,vi o113.1.Date,c159])] :: [(b71,oc 34 [vi x_1.Kind,vs x_1.Text,vs x_1.Name,vs x_1.Style,c5,c7])] :: [])) (Cls u m154 ([(b161,oc 58 [vs o113.1.Name,vi o113.1.Type_,vs o113.1.Text,vi o113.1.Date,c159])] :: [(b71,oc 34 [vi x_1.Kind,vs x_1.Text,vs x_1.Name,vs x_1.Style,c5,c7])] :: [])) (by kernel_rfl) ?_
 intro w hw
 replace ok:=qc8 ok hw
 clear hw
 have h160_o:=h160
 have h18_o:=h18
 have h20_o:=h20
 have h28_o:=h28
 have h30_o:=h30
 have h32_o:=h32
 have h34_o:=h34
 have h36_o:=h36
 have h38_o:=h38
 have h6_o:=h6
 have h8_o:=h8
 refine qas (cl1 (cq le_m154 ok [0,1] rfl) (cq le_m154 ok [0,1] rfl)) fun hT=>kt 0 E rfl hT (qai rfl) fun a E=>kt 1 E rfl hT (qai rfl) fun a E=>kt 2 E rfl hT (qae rfl) fun a E=>kt 3 E rfl hT (qag qmT rfl) fun a E=>kt 5 E rfl hT (qan (cs:=[vi x_1.Kind,vs x_1.Text,vs x_1.Name,vs x_1.Style,c5,c7]) qd5 rfl rfl (Holds.cown 1 rfl rfl)) fun a E=>kt 6 E rfl hT (qan (cs:=[vs o113.1.Name,vi o113.1.Type_,vs o113.1.Text,vi o113.1.Date,c159]) qgP rfl rfl (Holds.cown 0 rfl rfl)) fun a E=>qaS [4] (by kernel_rfl) rfl (qaZ ?_)
 ·refine wo rfl<|lv E ok (qan (cs:=[vs x0.loc.Tag,vs x0.loc.Parent,vs x0.loc.Direction,c17,c19,vs x0.loc.Symbols.Decimal,vs x0.loc.Symbols.Group,vs x0.loc.Symbols.Minus,vs x0.loc.Symbols.Percent,vi x0.loc.Symbols.Primary,vi x0.loc.Symbols.Secondary,c27,c29,c31,c33,c35]) qfd rfl rfl (Holds.own 2 rfl rfl)) fun a E=>wn<|qas (cl1 (cq le_m154 ok [0,1] rfl) (cq le_m154 ok [0,1] rfl)) fun hT=>qaS [7] (by kernel_rfl) rfl (qaZ ?_)
  ·refine wo rfl<|qaf E qtc rfl (qmg N _ x0.loc ⟨_,_,_,_,_,_,_,rfl,l14,l15,l16,h18,h20,l21,l22,l23,l24,r25,r26,h28,h30,h32,h34,h36⟩ _ x_1 (qbK.2 ⟨_,_,rfl,r1,l2,l3,l4,h6,h8⟩) _ o113.1 ⟨_,rfl,l155,r156,l157,r158,h160⟩ e197 hG hTb ok) rfl rfl ?_
   rintro _ w ⟨⟨rfl,ok⟩,l234,r235⟩
   refine ⟨_,rfl,fun a E=>?_⟩
   refine wn<|qas (cl1 (cq le_m154 ok [0,1] rfl) (cq le_m154 ok [0,1] rfl)) fun hT=>kt 8 E rfl hT (qav rfl rfl) fun a E=>kt 9 E rfl hT (qav rfl rfl) fun a E=>qaS [10] (by kernel_rfl) rfl (qaZ ?_)
   ·refine qdY (o:=_) rfl ?_
    replace ok:Ok u m154 ([(pb0,oc 70 [c9,c11,vs x0.loc.Tag,vs x0.loc.Parent,vs x0.loc.Direction,c17,c19,vs x0.loc.Symbols.Decimal,vs x0.loc.Symbols.Group,vs x0.loc.Symbols.Minus,vs x0.loc.Symbols.Percent,vi x0.loc.Symbols.Primary,vi x0.loc.Symbols.Secondary,c27,c29,c31,c33,c35,c37,vb x0.isolated,vi x0.e])] :: M12 :: [(b161,oc 58 [vs o113.1.Name,vi o113.1.Type_,vs o113.1.Text,vi o113.1.Date,c159])] :: [(b71,oc 34 [vi x_1.Kind,vs x_1.Text,vs x_1.Name,vs x_1.Style,c5,c7])] :: S) w:=(ok.pk 4 [2,3,0,1] rfl (by decide))
    refine qaf E qtu rfl (qjL N r196.1 l234 r196.2 r235 (Writer.mk (Builder.mk () x0.Builder.buf) x0.loc x0.values x0.isolated x0.e) h10 h13 l14 l15 l16 h18 h20 l21 l22 l23 l24 r25 r26 h28 h30 h32 h34 h36 h38 r39 e201 hG ok) rfl rfl ?_
    rintro _ w ⟨m236,c237,c239,M240,c245,c247,c255,c257,c259,c261,c263,c265,rfl,hle,ok,h238,h241,l242,l243,l244,h246,h248,l249,l250,l251,l252,r253,r254,h256,h258,h260,h262,h264,h266,r267⟩
    have le_m0:=le_m0.trans hle
    have le_m154:=le_m154.trans hle
    have h6:=(mL qex).up hle h6
    have h8:=(mL qa8).up hle h8
    have h18:=(mL qa9).up hle h18
    have h20:=(mL qa9).up hle h20
    have h28:=(mL qaW).up hle h28
    have h30:=(mL qaV).up hle h30
    have h32:=(mL qaU).up hle h32
    have h34:=(mL mS).up hle h34
    have h36:=(mL mS).up hle h36
    have h38:=(mL qbo).up hle h38
    have h160:=(mL mS).up hle h160
    refine ⟨_,rfl,fun a E=>?_⟩
    refine wn<|qas (cl1 (cq le_m154 ok [2,3] rfl) (cq le_m154 ok [2,3] rfl)) fun hT=>qbJ (by kernel_rfl) ?_
    exact ⟨rfl,⟨m236,c237,c239,M240,c245,c247,c255,c257,c259,c261,c263,c265,le_m154,(ok.pk 4 [2,3,0,1] rfl (by decide)),E.keep [],h238,h241,l242,l243,l244,h246,h248,l249,l250,l251,l252,r253,r254,h256,h258,h260,h262,h264,h266,r267⟩⟩
theorem qij:qdm 0:=by
 intro u m0 S w vl_1 l_1 hl_1 count_2 lcount_2 pb0 c1 c3 M4 c9 c11 c19 c21 c23 c25 c27 c29 x0 h2 h5 l6 l7 l8 h10 h12 l13 l14 l15 l16 r17 r18 h20 h22 h24 h26 h28 h30 r31 r hF hG hTb ok
 replace hF:none = some r:=hF
 cases hF
theorem qiw:qdw 0:=by
 intro u m0 S w vx_1 x_1 hx_1 count_2 lcount_2 pb0 c9 c11 M12 c17 c19 c27 c29 c31 c33 c35 c37 x0 h10 h13 l14 l15 l16 h18 h20 l21 l22 l23 l24 r25 r26 h28 h30 h32 h34 h36 h38 r39 r hF hG hTb ok
 replace hF:none = some r:=hF
 cases hF
theorem qhj (N:Nat):qdm N ∧ qdw N:=by
 induction N with
 | zero=>exact ⟨qij,qiw⟩
 | succ N h=>exact ⟨qik N h.1 h.2,qiM N h.1 h.2⟩
theorem qjC {u:World} {m0:Mem} {S:Segs} {w:World} (N:Nat) (vl_1:Value) (l_1:List (Part)) (hl_1:(pL 6 qbp) m0 [vl_1] l_1) (count_2:List UInt8) (lcount_2:count_2.length ≤ LIMS) {pb0:Nat} {c1:Value} {c3:Value} {M4:List (Nat × Obj)} {c9:Value} {c11:Value} {c19:Value} {c21:Value} {c23:Value} {c25:Value} {c27:Value} {c29:Value} (x0:Writer) (h2:BAd pb0 c1) (h5:ORow 5 1 (pI .u8) m0 c3 x0.Builder.buf M4) (l6:x0.loc.Tag.length ≤ LIMS) (l7:x0.loc.Parent.length ≤ LIMS) (l8:x0.loc.Direction.length ≤ LIMS) (h10:(pL 2 qaN) m0 [c9] x0.loc.Cardinal) (h12:(pL 2 qaN) m0 [c11] x0.loc.Ordinal) (l13:x0.loc.Symbols.Decimal.length ≤ LIMS) (l14:x0.loc.Symbols.Group.length ≤ LIMS) (l15:x0.loc.Symbols.Minus.length ≤ LIMS) (l16:x0.loc.Symbols.Percent.length ≤ LIMS) (r17:InR .i64 x0.loc.Symbols.Primary) (r18:InR .i64 x0.loc.Symbols.Secondary) (h20:(pL 5 qaC) m0 [c19] x0.loc.Lists) (h22:(pL 3 qaB) m0 [c21] x0.loc.Units) (h24:(pL 2 qaA) m0 [c23] x0.loc.Dates) (h26:(pL 1 pS) m0 [c25] x0.loc.Months) (h28:(pL 1 pS) m0 [c27] x0.loc.Days) (h30:(pL 5 qaO) m0 [c29] x0.values) (r31:InR .i64 x0.e) {r:Writer} (hF:qcw N l_1 count_2 x0 = some r) (hG:Glob u) (hTb:Tab u) (ok:Ok u m0 ([(pb0,oc 70 [c1,c3,vs x0.loc.Tag,vs x0.loc.Parent,vs x0.loc.Direction,c9,c11,vs x0.loc.Symbols.Decimal,vs x0.loc.Symbols.Group,vs x0.loc.Symbols.Minus,vs x0.loc.Symbols.Percent,vi x0.loc.Symbols.Primary,vi x0.loc.Symbols.Secondary,c19,c21,c23,c25,c27,c29,vb x0.isolated,vi x0.e])] :: M4 :: S) w) :
 Calls Tryz.prog 20 [vp pb0,vl_1,vs count_2].toArray w fun e w'=>∃ m1 c32 c34 M35 c40 c42 c50 c52 c54 c56 c58 c60,e = .returned (.tuple [].toArray) ∧ m0.le m1 ∧ Ok u m1 ([(pb0,oc 70 [c32,c34,vs r.loc.Tag,vs r.loc.Parent,vs r.loc.Direction,c40,c42,vs r.loc.Symbols.Decimal,vs r.loc.Symbols.Group,vs r.loc.Symbols.Minus,vs r.loc.Symbols.Percent,vi r.loc.Symbols.Primary,vi r.loc.Symbols.Secondary,c50,c52,c54,c56,c58,c60,vb r.isolated,vi r.e])] :: M35 :: S) w' ∧ BAd pb0 c32 ∧ ORow 5 1 (pI .u8) m1 c34 r.Builder.buf M35 ∧ r.loc.Tag.length ≤ LIMS ∧ r.loc.Parent.length ≤ LIMS ∧ r.loc.Direction.length ≤ LIMS ∧ (pL 2 qaN) m1 [c40] r.loc.Cardinal ∧ (pL 2 qaN) m1 [c42] r.loc.Ordinal ∧ r.loc.Symbols.Decimal.length ≤ LIMS ∧ r.loc.Symbols.Group.length ≤ LIMS ∧ r.loc.Symbols.Minus.length ≤ LIMS ∧ r.loc.Symbols.Percent.length ≤ LIMS ∧ InR .i64 r.loc.Symbols.Primary ∧ InR .i64 r.loc.Symbols.Secondary ∧ (pL 5 qaC) m1 [c50] r.loc.Lists ∧ (pL 3 qaB) m1 [c52] r.loc.Units ∧ (pL 2 qaA) m1 [c54] r.loc.Dates ∧ (pL 1 pS) m1 [c56] r.loc.Months ∧ (pL 1 pS) m1 [c58] r.loc.Days ∧ (pL 5 qaO) m1 [c60] r.values ∧ InR .i64 r.e:=(qhj N).1 vl_1 l_1 hl_1 count_2 lcount_2 x0 h2 h5 l6 l7 l8 h10 h12 l13 l14 l15 l16 r17 r18 h20 h22 h24 h26 h28 h30 r31 hF hG hTb ok
def qnk (u:World) (m0:Mem) (S:Segs) (r:(List UInt8) × Int) (a:Act) (w:World):Prop :=
 Ok u m0 S w ∧ a.defers = [] ∧ RVs Tryz.prog a w [.t 8 (.string (bs r.1)),.t 9 (.int .i64 r.2)] ∧ r.1.length ≤ LIMS ∧ InR .i64 r.2
theorem qjz (N:Nat) (vloc_0:List Value) (loc_0:Locale) (hloc_0:qiB m0 vloc_0 loc_0) (vparts_1:Value) (parts_1:List (Part)) (hparts_1:(pL 6 qbp) m0 [vparts_1] parts_1) (vvalues_2:Value) (values_2:List (ValueT)) (hvalues_2:(pL 5 qaO) m0 [vvalues_2] values_2) (isolated_3:Bool) {r:(List UInt8) × Int} (hF:qeV N loc_0 parts_1 values_2 isolated_3 = some r) (hG:Glob u) (hTb:Tab u) (ok:Ok u m0 S w) :
  Calls Tryz.prog 8 [.agg vloc_0.toArray,vparts_1,vvalues_2,vb isolated_3].toArray w fun e w'=>(e = .returned (.tuple [(.string (bs r.1)),(.int .i64 r.2)].toArray) ∧ Ok u m0 S w') ∧ r.1.length ≤ LIMS ∧ InR .i64 r.2:=by
 obtain ⟨c4,c6,c14,c16,c18,c20,c22,rfl,l1,l2,l3,h5,h7,l8,l9,l10,l11,r12,r13,h15,h17,h19,h21,h23⟩:=hloc_0
 have hb0:=ok.base
 have le_m0:=Mem.le.refl m0
 unfold qeV at hF
 refine en (qnk u m0 S) r Tryz.func8 rfl rfl rfl (by rintro a w ⟨ok,hd,hrv,h0,h1⟩; exact qaT [.t 8 (.string (bs r.1)),.t 9 (.int .i64 r.2)] hd rfl hrv ⟨⟨rfl,ok⟩,h0,h1⟩) fun fin a E=>sg<|qbF E ok rfl rfl rfl fun b24 a w E ok=>av E rfl fun a E=>aw E rfl fun a E=>wp_seq<|sg<|mv E rfl fun a E=>bd hF fun r25 e26 hF=>lc E qrv rfl (qiL N _ parts_1 hparts_1 e26 hG ok) fun w ok a E=>lw E (qbx rfl) fun a E=>wn<|cf E rfl hF (fun c27 hF=>?_) fun c27 hF=>?_
 ·refine sg<|av E rfl fun a E=>aw E rfl fun a E=>wp_ret<|qad ?_
  exact fin hF ⟨ok.drop,E.d,⟨rv_t E rfl,rv_t E rfl,trivial⟩,(show ([]:List UInt8).length ≤ LIMS by decide),(ir 1)⟩
 refine wp_skip<|qaa<|sg<|lv E ok (qan (cs:=[vs loc_0.Tag,vs loc_0.Parent,vs loc_0.Direction,c4,c6,vs loc_0.Symbols.Decimal,vs loc_0.Symbols.Group,vs loc_0.Symbols.Minus,vs loc_0.Symbols.Percent,vi loc_0.Symbols.Primary,vi loc_0.Symbols.Secondary,c14,c16,c18,c20,c22]) qfd rfl rfl (Holds.own 0 rfl rfl)) fun a E=>mz E rfl rfl fun a E=>lw E (qaL (ps:=[(1,.tmp 14),(2,.tmp 15),(3,.tmp 16)]) (qs:=[(2,[vs loc_0.Tag,vs loc_0.Parent,vs loc_0.Direction,c4,c6,vs loc_0.Symbols.Decimal,vs loc_0.Symbols.Group,vs loc_0.Symbols.Minus,vs loc_0.Symbols.Percent,vi loc_0.Symbols.Primary,vi loc_0.Symbols.Secondary,c14,c16,c18,c20,c22]),(18,[vvalues_2]),(19,[vb isolated_3])]) (cs:=[(Value.pointer none),(Value.slice none 0 0),vs loc_0.Tag,vs loc_0.Parent,vs loc_0.Direction,c4,c6,vs loc_0.Symbols.Decimal,vs loc_0.Symbols.Group,vs loc_0.Symbols.Minus,vs loc_0.Symbols.Percent,vi loc_0.Symbols.Primary,vi loc_0.Symbols.Secondary,c14,c16,c18,c20,c22,vvalues_2,vb isolated_3,vi 0]) qsa qqi rfl ⟨rfl,rfl,rfl,⟨rfl,(qjw hvalues_2),rfl,⟨rfl,rfl,rfl,trivial⟩⟩⟩ rfl) fun a E=>qbF E ok rfl rfl rfl fun b28 a w E ok=>aw E rfl fun a E=>sg<|mz E rfl rfl fun a E=>?_
 obtain ⟨M29,ok,h30⟩:=qcY (e:=5) (k:=1) (R:=(pI .u8)) ok
 obtain ⟨r31,e32,hF⟩:=bnd hF
 replace ok:Ok u m0 ([(b28,oc 70 [(Value.pointer none),(Value.slice none 0 0),vs loc_0.Tag,vs loc_0.Parent,vs loc_0.Direction,c4,c6,vs loc_0.Symbols.Decimal,vs loc_0.Symbols.Group,vs loc_0.Symbols.Minus,vs loc_0.Symbols.Percent,vi loc_0.Symbols.Primary,vi loc_0.Symbols.Secondary,c14,c16,c18,c20,c22,vvalues_2,vb isolated_3,vi 0])] :: M29 :: [(b24,oc 46 [vs loc_0.Tag,vs loc_0.Parent,vs loc_0.Direction,c4,c6,vs loc_0.Symbols.Decimal,vs loc_0.Symbols.Group,vs loc_0.Symbols.Minus,vs loc_0.Symbols.Percent,vi loc_0.Symbols.Primary,vi loc_0.Symbols.Secondary,c14,c16,c18,c20,c22])] :: S) w:=(ok.pk 3 [1,0,2] rfl (by decide))
 refine qaf E qte rfl (qjC N _ parts_1 hparts_1 ([]) (show ([]:List UInt8).length ≤ LIMS by decide) (Writer.mk (Builder.mk () ([])) loc_0 values_2 isolated_3 0) (.inl rfl) h30 l1 l2 l3 h5 h7 l8 l9 l10 l11 r12 r13 h15 h17 h19 h21 h23 hvalues_2 (ir 0) e32 hG hTb ok) rfl rfl ?_
 rintro _ w ⟨m33,c34,c36,M37,c42,c44,c52,c54,c56,c58,c60,c62,rfl,hle,ok,h35,h38,l39,l40,l41,h43,h45,l46,l47,l48,l49,r50,r51,h53,h55,h57,h59,h61,h63,r64⟩
 have le_m0:=le_m0.trans hle
 have h5:=(mL qa9).up hle h5
 have h7:=(mL qa9).up hle h7
 have h15:=(mL qaW).up hle h15
 have h17:=(mL qaV).up hle h17
 have h19:=(mL qaU).up hle h19
 have h21:=(mL mS).up hle h21
 have h23:=(mL mS).up hle h23
 have hparts_1:=(mL qa8).up hle hparts_1
 have hvalues_2:=(mL qbo).up hle hvalues_2
 refine ⟨_,rfl,fun a E=>?_⟩
 refine wn<|wp_seq<|sg<|mv E rfl fun a E=>lw E (qae rfl) fun a E=>fv E qhy rfl fun a E=>ld E ok qfq 0 rfl rfl rfl fun a E=>lw E (qbD rfl rfl) fun a E=>wn<|cf E rfl hF (fun c65 hF=>?_) fun c65 hF=>?_
 ·refine wp_seq<|qce (by kernel_rfl) (by kernel_rfl) ok<|qv E (qai rfl) fun a E=>qv E (qae rfl) fun a E=>qv E (qag qhy rfl) fun a E=>qv E (qal qfq rfl (Holds.own 0 rfl rfl)) fun a E=>qv E (qaG rfl) fun a E=>qv E (qaG rfl) fun a E=>wpQuiet_nil ?_
  intro w ok
  refine qaa<|wp_ret<|qad ?_
  exact fin hF ⟨(ok.drop.drop.drop).down hb0 le_m0,E.d,⟨rv_t E rfl,rv_t E rfl,trivial⟩,(show ([]:List UInt8).length ≤ LIMS by decide),r64⟩
 refine wp_skip<|qaa<|sg<|mv E rfl fun a E=>lw E (qae rfl) fun a E=>fv E qmt rfl fun a E=>qaf E qkD rfl (qoJ Tryz.lays169 Tryz.Builder_Extra_169 h38 ok) rfl rfl ?_
 rintro _ w ⟨⟨rfl,ok⟩,l66⟩
 refine ⟨_,rfl,fun a E=>?_⟩
 refine av E rfl fun a E=>aw E rfl fun a E=>wp_ret ?_
 exact fin hF ⟨(ok.drop).down hb0 le_m0,E.d,⟨rv_t E rfl,rv_t E rfl,trivial⟩,l66,(ir 0)⟩
end Go.Proofs.YthhieiabfpkaaaaGreatDoor
namespace Go.Proofs.YthhieiabfpkaaaaGreatDoor
open Go.X
def qf0 (N:Nat) (loc_0:Locale) (s_1:List UInt8) (values_2:List (ValueT)) (isolated_3:Bool):Option ((List UInt8) × Int) :=
 (qfb N s_1).bind fun r25 =>
 bif (r25.2.2 != 0) then
  some ([],3)
 else
  (qeV N loc_0 r25.1 values_2 isolated_3).bind fun r38 =>
  some (r38.1,r38.2)
end Go.Proofs.YthhieiabfpkaaaaGreatDoor
namespace Go.Proofs.YthhieiabfpkaaaaGreatDoor
open Go.X
variable {u:World} {m0:Mem} {S:Segs} {w:World}
set_option maxHeartbeats 4000000
set_option maxRecDepth 100000
def qor (u:World) (m0:Mem) (S:Segs) (r:(List UInt8) × Int) (a:Act) (w:World):Prop :=
 Ok u m0 S w ∧ a.defers = [] ∧ RVs Tryz.prog a w [.t 8 (.string (bs r.1)),.t 9 (.int .i64 r.2)] ∧ r.1.length ≤ LIMS ∧ InR .i64 r.2
theorem qif (N:Nat) (vloc_0:List Value) (loc_0:Locale) (hloc_0:qiB m0 vloc_0 loc_0) (s_1:List UInt8) (ls_1:s_1.length ≤ LIMS) (vvalues_2:Value) (values_2:List (ValueT)) (hvalues_2:(pL 5 qaO) m0 [vvalues_2] values_2) (isolated_3:Bool) {r:(List UInt8) × Int} (hF:qf0 N loc_0 s_1 values_2 isolated_3 = some r) (hG:Glob u) (hTb:Tab u) (ok:Ok u m0 S w) :
  Calls Tryz.prog 13 [.agg vloc_0.toArray,vs s_1,vvalues_2,vb isolated_3].toArray w fun e w'=>(e = .returned (.tuple [(.string (bs r.1)),(.int .i64 r.2)].toArray) ∧ Ok u m0 S w') ∧ r.1.length ≤ LIMS ∧ InR .i64 r.2:=by
 obtain ⟨c4,c6,c14,c16,c18,c20,c22,rfl,l1,l2,l3,h5,h7,l8,l9,l10,l11,r12,r13,h15,h17,h19,h21,h23⟩:=hloc_0
 have hb0:=ok.base
 have le_m0:=Mem.le.refl m0
 unfold qf0 at hF
 refine en (qor u m0 S) r Tryz.func13 rfl rfl rfl (by rintro a w ⟨ok,hd,hrv,h0,h1⟩; exact qaT [.t 8 (.string (bs r.1)),.t 9 (.int .i64 r.2)] hd rfl hrv ⟨⟨rfl,ok⟩,h0,h1⟩) fun fin a E=>sg<|qbF E ok rfl rfl rfl fun b24 a w E ok=>av E rfl fun a E=>aw E rfl fun a E=>sg<|mv E rfl fun a E=>bd hF fun r25 e26 hF=>qaf E qtj rfl (qmB N s_1 ls_1 e26 hG ok) rfl rfl ?_
 rintro _ w ⟨m27,c28,vs30,rfl,hle,ok,h29,h31,r32⟩
 have le_m0:=le_m0.trans hle
 have h5:=(mL qa9).up hle h5
 have h7:=(mL qa9).up hle h7
 have h15:=(mL qaW).up hle h15
 have h17:=(mL qaV).up hle h17
 have h19:=(mL qaU).up hle h19
 have h21:=(mL mS).up hle h21
 have h23:=(mL mS).up hle h23
 have hvalues_2:=(mL qbo).up hle hvalues_2
 obtain ⟨rfl,r33,r34,r35⟩:=h31
 refine ⟨_,rfl,fun a E=>?_⟩
 refine mv E rfl fun a E=>lw E (qav rfl rfl) fun a E=>lw E (qav rfl rfl) fun a E=>lw E (qav rfl rfl) fun a E=>qa4 E ok qhx rfl rfl fun b36 a w E ok=>av E rfl fun a E=>qax E ok 0 rfl rfl rfl qkj rfl rfl ⟨rfl,rfl,rfl,trivial⟩ rfl rfl fun w ok=>av E rfl fun a E=>wn<|wp_seq<|sg<|mv E rfl fun a E=>lw E (qbD rfl rfl) fun a E=>wn<|cf E rfl hF (fun c37 hF=>?_) fun c37 hF=>?_
 ·refine sg<|av E rfl fun a E=>aw E rfl fun a E=>wp_ret<|qad ?_
  exact fin hF ⟨(ok.drop.drop).down hb0 le_m0,E.d,⟨rv_t E rfl,rv_t E rfl,trivial⟩,(show ([]:List UInt8).length ≤ LIMS by decide),(ir 3)⟩
 refine wp_skip<|qaa<|sg<|lv E ok (qan (cs:=[vs loc_0.Tag,vs loc_0.Parent,vs loc_0.Direction,c4,c6,vs loc_0.Symbols.Decimal,vs loc_0.Symbols.Group,vs loc_0.Symbols.Minus,vs loc_0.Symbols.Percent,vi loc_0.Symbols.Primary,vi loc_0.Symbols.Secondary,c14,c16,c18,c20,c22]) qfd rfl rfl (Holds.own 1 rfl rfl)) fun a E=>mz E rfl rfl fun a E=>mv E rfl fun a E=>bd hF fun r38 e39 hF=>qaf E go_8 rfl (qjz N _ loc_0 ⟨_,_,_,_,_,_,_,rfl,l1,l2,l3,h5,h7,l8,l9,l10,l11,r12,r13,h15,h17,h19,h21,h23⟩ _ r25.1 h29 _ values_2 hvalues_2 isolated_3 e39 hG hTb ok) rfl rfl ?_
 rintro _ w ⟨⟨rfl,ok⟩,l40,r41⟩
 refine ⟨_,rfl,fun a E=>?_⟩
 refine lw E (qav rfl rfl) fun a E=>lw E (qav rfl rfl) fun a E=>av E rfl fun a E=>aw E rfl fun a E=>wp_ret ?_
 exact fin hF ⟨(ok.drop.drop).down hb0 le_m0,E.d,⟨rv_t E rfl,rv_t E rfl,trivial⟩,l40,r41⟩
end Go.Proofs.YthhieiabfpkaaaaGreatDoor
namespace Go.Proofs.YthhieiabfpkaaaaGreatDoor
open Go.X
structure Ins where
 Op:Int
 A:Int
 B:Int
 S:List UInt8
structure Code where
 Names:List (List UInt8)
 Ins:List (Ins)
structure Compiler where
 Code:Code
structure Run where
 c:Code
 loc:Locale
 values:List (ValueT)
 isolated:Bool
 out:Builder
 trace:List (Int)
 e:Int
structure Flow where
 c:Code
 open_:List (List (List UInt8))
 reached:List (Bool)
 clash:List (Bool)
structure Frame where
 name:List UInt8
 up:List (List UInt8)
structure Uses where
 a:Bool
 b:Bool
 s:Bool
structure Arr14_Uses where
 e0:Uses
 e1:Uses
 e2:Uses
 e3:Uses
 e4:Uses
 e5:Uses
 e6:Uses
 e7:Uses
 e8:Uses
 e9:Uses
 e10:Uses
 e11:Uses
 e12:Uses
 e13:Uses
def Arr14_Uses.list (a:Arr14_Uses):List (Uses):=[a.e0,a.e1,a.e2,a.e3,a.e4,a.e5,a.e6,a.e7,a.e8,a.e9,a.e10,a.e11,a.e12,a.e13]
def Arr14_Uses.get (a:Arr14_Uses) (i:Int):Option (Uses):=idx a.list i
def qbv (_N:Nat) (x_1:Ins) (x0:Compiler):Option (Int × Compiler) :=
 (show Option Compiler from
  (app x0.Code.Ins ([x_1]:List (Ins))).bind fun l28 =>
  some (Compiler.mk (Code.mk x0.Code.Names l28))).bind fun o18 =>
 some ((IntKind.wrap .i64 ((o18.Code.Ins.length:Int) - 1)),o18)
def qdR (r_compile_compiler_parts:List (Part) → List UInt8 → Compiler → Option Compiler) (N:Nat) (l_1:List (Part)) (count_2:List UInt8) (x_30:Int) (x_31:Compiler):Option ((Int × Compiler) ⊕ Compiler) :=
 bif (decide (x_30 < (l_1.length:Int))) then
  (idx l_1 x_30).bind fun x41 =>
  bif (x41.Kind == 1) then
   (qbv N (Ins.mk 1 0 0 x41.Text) x_31).bind fun r60 =>
   some (.inl ((x_30 + 1),r60.2))
  else
   bif (x41.Kind == 10) then
    none
   else
    bif (x41.Kind == 11) then
     bif ((x41.Parts.length:Int) == 0) then
      (qbv N (Ins.mk 4 0 0 x41.Name) x_31).bind fun r73 =>
      some (.inl ((x_30 + 1),r73.2))
     else
      bif (x41.Kind == 11) then
       (qbv N (Ins.mk 2 0 0 x41.Name) x_31).bind fun r84 =>
       (r_compile_compiler_parts x41.Parts count_2 r84.2).bind fun r94 =>
       (qbv N (Ins.mk 3 0 0 x41.Name) r94).bind fun r103 =>
       some (.inl ((x_30 + 1),r103.2))
      else
       (qbz N x41.Kind).bind fun r113 =>
       bif r113 then
        none
       else
        none
    else
     bif (x41.Kind == 11) then
      (qbv N (Ins.mk 2 0 0 x41.Name) x_31).bind fun r117 =>
      (r_compile_compiler_parts x41.Parts count_2 r117.2).bind fun r127 =>
      (qbv N (Ins.mk 3 0 0 x41.Name) r127).bind fun r136 =>
      some (.inl ((x_30 + 1),r136.2))
     else
      (qbz N x41.Kind).bind fun r146 =>
      bif r146 then
       none
      else
       none
 else
  some (.inr x_31)
def qdx (r_compile_compiler_parts:List (Part) → List UInt8 → Compiler → Option Compiler) (N:Nat) (l_1:List (Part)) (count_2:List UInt8) (x0:Compiler):Option Compiler :=
 (iter (fun s=>qdR r_compile_compiler_parts N l_1 count_2 s.1 s.2) N (0,x0)).bind fun o21 =>
 some o21
def qeU:Nat → (List (Part) → List UInt8 → Compiler → Option Compiler)
 | 0=>(fun _ _ _=>none)
 | N + 1=>(qdx (qeU N) N)
def qcE (N:Nat):List (Part) → List UInt8 → Compiler → Option Compiler:=(qeU N)
def qgg (N:Nat) (parts_0:List (Part)):Option (Code × Int) :=
 (qeG N parts_0).bind fun r2 =>
 bif (!r2) then
  some ((Code.mk ([]) ([])),1)
 else
  (qcE N parts_0 ([]) (Compiler.mk (Code.mk ([]) ([])))).bind fun r10 =>
  (qbv N (Ins.mk 13 0 0 ([])) r10).bind fun r19 =>
  some (r19.2.Code,0)
def qgh (N:Nat) (l_0:List (List UInt8)) (x_14:Int) (seen_15:List (List UInt8 × Bool)):Option ((Int × (List (List UInt8 × Bool))) ⊕ ((Unit ⊕ Bool))) :=
 bif (decide (x_14 < (l_0.length:Int))) then
  (idx l_0 x_14).bind fun x21 =>
  (qc1 N x21).bind fun r31 =>
  bif (!r31) then
   some (.inr (.inr false))
  else
   bif ((mget seen_15 x21).getD false) then
    some (.inr (.inr false))
   else
    (mset seen_15 x21 true).bind fun l39 =>
    some (.inl ((x_14 + 1),l39))
 else
  some (.inr (.inl ()))
def qhA (N:Nat) (l_0:List (List UInt8)):Option Bool :=
 (iter (fun s=>qgh N l_0 s.1 s.2) N (0,([]:List (List UInt8 × Bool)))).bind fun o9 =>
 Sum.elim (fun _o9 =>
  some (decide ((l_0.length:Int) ≤ 20)))
 (fun o9 =>
  some o9) o9
def qg3 (_N:Nat) (op_0:Int):Option (Uses × Bool) :=
 bif (decide (op_0 < 1)) then
  some ((Uses.mk false false false),false)
 else
  bif (decide (op_0 > 13)) then
   some ((Uses.mk false false false),false)
  else
   (Arr14_Uses.get (Arr14_Uses.mk (Uses.mk false false false) (Uses.mk false false true) (Uses.mk false false true) (Uses.mk false false true) (Uses.mk false false true) (Uses.mk true false false) (Uses.mk true false true) (Uses.mk true false true) (Uses.mk true false true) (Uses.mk true false true) (Uses.mk true true false) (Uses.mk true false true) (Uses.mk true false false) (Uses.mk false false false)) op_0).bind fun x5 =>
   some (x5,true)
def qg4 (N:Nat) (c_0:Code) (i_1:Int):Option Bool :=
 bif (decide (i_1 < 0)) then
  some false
 else
  bif (decide (i_1 ≥ (c_0.Ins.length:Int))) then
   some false
  else
   (idx c_0.Ins i_1).bind fun x8 =>
   (qg3 N x8.Op).bind fun r22 =>
   (show Option Bool from
    bif (!r22.2) then
     some true
    else
     bif (!r22.1.a) then
      bif (x8.A != 0) then
       some true
      else
       bif (!r22.1.b) then
        bif (x8.B != 0) then
         some true
        else
         bif (!r22.1.s) then
          some (x8.S != ([]))
         else
          some false
       else
        bif (!r22.1.s) then
         some (x8.S != ([]))
        else
         some false
     else
      bif (!r22.1.b) then
       bif (x8.B != 0) then
        some true
       else
        bif (!r22.1.s) then
         some (x8.S != ([]))
        else
         some false
      else
       bif (!r22.1.s) then
        some (x8.S != ([]))
       else
        some false).bind fun o28 =>
   bif o28 then
    some false
   else
    (show Option Bool from
     bif (decide (x8.Op ≥ 5)) then
      bif (decide (x8.Op ≤ 10)) then
       bif (decide (x8.A < 0)) then
        some true
       else
        some (decide (x8.A ≥ (c_0.Names.length:Int)))
      else
       some false
     else
      some false).bind fun o41 =>
    bif o41 then
     some false
    else
     bif (x8.Op == 1) then
      some (x8.S != ([]))
     else
      (show Option Bool from
       bif (x8.Op == 2) then
        some (x8.Op == 2)
       else
        bif (x8.Op == 3) then
         some (x8.Op == 3)
        else
         bif (x8.Op == 4) then
          some (x8.Op == 4)
         else
          bif (x8.Op == 7) then
           some (x8.Op == 7)
          else
           some (x8.Op == 9)).bind fun o47 =>
      bif o47 then
       (qc1 N x8.S).bind fun r53 =>
       some r53
      else
       bif (x8.Op == 6) then
        bif (x8.S == ([])) then
         some true
        else
         bif (x8.S == ([105,110,116,101,103,101,114])) then
          some true
         else
          some (x8.S == ([112,101,114,99,101,110,116]))
       else
        bif (x8.Op == 8) then
         none
        else
         bif (x8.Op == 10) then
          none
         else
          bif (x8.Op == 11) then
           bif (decide (i_1 > 0)) then
            (idx c_0.Ins (i_1 - 1)).bind fun x62 =>
            bif (x62.Op == 10) then
             none
            else
             (idx c_0.Ins (i_1 - 1)).bind fun x76 =>
             bif (x76.Op == 11) then
              none
             else
              some false
           else
            some false
          else
           bif (x8.Op == 12) then
            none
           else
            bif (x8.Op == 13) then
             some (i_1 == (IntKind.wrap .i64 ((c_0.Ins.length:Int) - 1)))
            else
             some true
def qdo (_N:Nat) (to_1:Int) (open_2:List (List UInt8)) (x0:Flow):Option Flow :=
 (idx x0.reached to_1).bind fun x27 =>
 bif x27 then
  none
 else
  (show Option Flow from
   (idx x0.reached to_1).bind fun _x85 =>
   (setI x0.reached to_1 true).bind fun l91 =>
   (idx x0.open_ to_1).bind fun _x95 =>
   (setI x0.open_ to_1 open_2).bind fun l101 =>
   some (Flow.mk x0.c l101 l91 x0.clash)).bind fun o71 =>
  some o71
def qfE (N:Nat) (i_1:Int) (x0:Flow):Option (Bool × Flow) :=
 (idx x0.clash i_1).bind fun x27 =>
 bif x27 then
  some (false,x0)
 else
  (idx x0.open_ i_1).bind fun x38 =>
  (idx x0.c.Ins i_1).bind fun x50 =>
  bif (x50.Op == 13) then
   some ((x38.isEmpty),x0)
  else
   bif (x50.Op == 12) then
    (qdo N x50.A x38 x0).bind fun r66 =>
    some (true,r66)
   else
    bif (x50.Op == 10) then
     none
    else
     bif (x50.Op == 2) then
      (qdo N (IntKind.wrap .i64 (i_1 + 1)) (x50.S :: x38) x0).bind fun r87 =>
      some (true,r87)
     else
      bif (x50.Op == 3) then
       bif (x38.isEmpty) then
        some (false,x0)
       else
        (unc x38).bind fun q105 =>
        bif (q105.1 != x50.S) then
         some (false,x0)
        else
         (unc x38).bind fun q117 =>
         (qdo N (IntKind.wrap .i64 (i_1 + 1)) q117.2 x0).bind fun r128 =>
         some (true,r128)
      else
       (qdo N (IntKind.wrap .i64 (i_1 + 1)) x38 x0).bind fun r144 =>
       some (true,r144)
end Go.Proofs.YthhieiabfpkaaaaGreatDoor
