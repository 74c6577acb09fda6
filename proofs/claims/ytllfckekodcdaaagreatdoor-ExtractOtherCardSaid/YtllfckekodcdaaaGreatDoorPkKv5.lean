/- Texts of this proof, put together by pack.py: what its declarations name. -/
import Derived.Test.YtllfckekodcdaaaGreatDoorPkKv4
import Derived.Test.YtllfckekodcdaaaGreatDoorCards
import Derived.Test.YtllfckekodcdaaaGreatDoorChecked
import Derived.Test.YtllfckekodcdaaaGreatDoorProg
import Derived.Test.YtllfckekodcdaaaGreatDoorRows
import Derived.Test.YtllfckekodcdaaaGreatDoorTie
set_option linter.unusedVariables false
set_option linter.unusedSimpArgs false
namespace Go.Proofs.YtllfckekodcdaaaGreatDoor
open Go.X
variable {u:World} {m0:Mem} {S:Segs} {w:World}
set_option maxHeartbeats 4000000
set_option maxRecDepth 100000
def qdH (u:World) (m0:Mem) (S:Segs) (r:(List (State)) × Int × Int) (a:Act) (w:World):Prop :=
 ∃ m1 v0,m0.le m1 ∧ Ok u m1 S w ∧ a.defers = [] ∧ RVs Tryz.prog a w [.t 2 v0,.t 3 (.int .i64 r.2.1),.t 4 (.int .i64 r.2.2)] ∧ (pL 2 qbU) m1 [v0] r.1 ∧ InR .i64 r.2.1 ∧ InR .i64 r.2.2
theorem qjZ (N:Nat) (s_0:List UInt8) (ls_0:s_0.length ≤ LIMS) {r:(List (State)) × Int × Int} (hF:qgH N s_0 = some r) (hG:Glob u) (ok:Ok u m0 S w) :
  Calls Tryz.prog 27 [vs s_0].toArray w fun e w'=>∃ m1 v0,e = .returned (.tuple [v0,(.int .i64 r.2.1),(.int .i64 r.2.2)].toArray) ∧ m0.le m1 ∧ Ok u m1 S w' ∧ (pL 2 qbU) m1 [v0] r.1 ∧ InR .i64 r.2.1 ∧ InR .i64 r.2.2:=by
 have le_m0:=Mem.le.refl m0
 unfold qgH at hF
 refine en (qdH u m0 S) r Tryz.func27 rfl rfl rfl (by rintro a w ⟨m1,v0,hle,ok,hd,hrv,h0,h1,h2⟩; exact qaM [.t 2 v0,.t 3 (.int .i64 r.2.1),.t 4 (.int .i64 r.2.2)] hd rfl hrv ⟨m1,v0,rfl,hle,ok,h0,h1,h2⟩) fun fin a E=>sg<|av E rfl fun a E=>av E rfl fun a E=>aw E rfl fun a E=>?_
 refine sg<|aw E rfl fun a E=>sg<|av E rfl fun a E=>?_
 refine aw E rfl fun a E=>wp_seq<|sg<|av E rfl fun a E=>wpList_nil ?_
 refine qaa<|wp_block ?_
 obtain ⟨M10,ok,h11⟩:=qoX (e:=108) (k:=2) (R:=qcJ) ok
 obtain ⟨o12,hL,hF⟩:=bnd hF
 refine qaO _ (fun (s:(List (State)) × Int × Int × Int) a w=>∃ m13 c14 M15,m0.le m13 ∧ Ok u m13 (M15 :: S) w ∧ Env 88 a [(0,vs s_0),(5,c14),(6,vi s.2.1),(7,vi s.2.2.1),(8,vi s.2.2.2)] ∧ NRow 108 2 qcJ m13 c14 s.1 M15 ∧ InR .i64 s.2.1 ∧ InR .i64 s.2.2.1 ∧ InR .i64 s.2.2.2) (fun (b:(((List (State)) × Int × Int) ⊕ ((List (State)) × Int × Int))) e a w=>(Sum.elim (fun b341=>e = (.exit 0) ∧ ∃ m342 c343 M344,m0.le m342 ∧ Ok u m342 (M344 :: S) w ∧ Env 88 a [(0,vs s_0),(5,c343),(6,vi b341.2.1),(7,vi b341.2.2)] ∧ NRow 108 2 qcJ m342 c343 b341.1 M344 ∧ InR .i64 b341.2.1 ∧ InR .i64 b341.2.2) (fun b348=>e = .ret ∧ qdH u m0 S b348 a w)) b) ?_ ?_ N _ a w hL ⟨m0,(Value.slice none 0 0),M10,Mem.le.refl _,ok,E.keep [0,5,6,7,8],h11,(ir 0),(ir 0),(ir 0)⟩
 rotate_left
 ·as_aux_lemma =>
   intro e a w _ hO
   rcases o12 with o12 | o12
   rotate_left
   ·replace hF:=qbf hF
    obtain ⟨rfl,hret⟩:=hO
    refine qan<|qag ?_
    exact fin hF hret
   replace hF:=qbe hF
   obtain ⟨rfl,m324,c325,M326,hle,ok,E,h327,r328,r329⟩:=hO
   have le_m0:=le_m0.trans hle
   refine qaS<|qaa<|wp_seq<|sg<|mv E rfl fun a E=>mv E rfl fun a E=>lw E (qaV Tryz.underlying9 rfl) fun a E=>?_
   refine lw E (qaA rfl rfl) fun a E=>wn<|cf E rfl hF (fun hc330 hF=>?_) fun hc330 hF=>?_
   ·refine sg<|mv E rfl fun a E=>av E rfl fun a E=>av E rfl fun a E=>aw E rfl fun a E=>?_
    refine wp_ret<|qag ?_
    exact fin hF ⟨m324,(.slice none 0 0),le_m0,ok.drop,E.d,⟨rv_t E rfl,rv_t E rfl,rv_t E rfl,trivial⟩,qbF,r329,(ir 3)⟩
   refine wp_skip<|qaa<|wp_seq<|sg<|mv E rfl fun a E=>?_
   obtain ⟨r336,e337,hF⟩:=bnd hF
   obtain ⟨m331,hle333,ok332,hfz334⟩:=(ok.frs 0 rfl).freeze
   have h335:=NRow.froz qjV h327 hle333 hfz334 (by decide)
   refine qaz E qtM rfl (qjY N _ o12.1 h335 e337 hG ok332) rfl rfl ?_
   rintro _ w ⟨rfl,okz⟩
   replace ok:=(Ok.thawAt 0 rfl ok hle333 hfz334 okz)
   refine ⟨_,rfl,fun a E=>?_⟩
   refine lw E (qbQ rfl) fun a E=>wn<|cf E rfl hF (fun hc338 hF=>?_) fun hc338 hF=>?_
   ·refine sg<|av E rfl fun a E=>av E rfl fun a E=>aw E rfl fun a E=>wp_ret ?_
    refine qag ?_
    exact fin hF ⟨m324,(.slice none 0 0),le_m0,ok.drop,E.d,⟨rv_t E rfl,rv_t E rfl,rv_t E rfl,trivial⟩,qbF,(ir 0),(ir 1)⟩
   refine wp_skip<|qaa<|sg<|mv E rfl fun a E=>av E rfl fun a E=>av E rfl fun a E=>av E rfl fun a E=>?_
   refine wn<|wp_ret ?_
   obtain ⟨m339,hle,ok,hfz⟩:=(ok.frs 0 rfl).freeze
   have h340:=NRow.froz qjV h327 hle hfz (by decide)
   have le_m0:=le_m0.trans hle
   exact fin hF ⟨m339,c325,le_m0,ok,E.d,⟨rv_t E rfl,rv_t E rfl,rv_t E rfl,trivial⟩,h340,(ir 0),(ir 0)⟩
 rintro ⟨out_20,from_21,n_22,i_23⟩ a w r ⟨m24,c25,M26,hle,ok,E,h27,r28,r29,r30⟩ hF
 replace hF:qfL N s_0 out_20 from_21 n_22 i_23 = some r:=hF
 unfold qfL at hF
 have le_m0:=le_m0.trans hle
 refine wp_seq<|sg<|mv E rfl fun a E=>mv E rfl fun a E=>lw E (qaV Tryz.underlying9 rfl) fun a E=>lw E (qaA rfl rfl) fun a E=>wpList_nil ?_
 refine qaa<|cf E rfl hF (fun hc31 hF=>?_) fun hc31 hF=>?_
 rotate_left
 ·refine wp_exit<|qaB ?_
  obtain rfl:=sj hF
  exact so (sl ⟨rfl,⟨m24,c25,M26,le_m0,ok,E.keep [0,5,6,7],h27,r28,r29⟩⟩)
 refine wp_skip<|qaa<|wp_seq<|wp_block<|wp_seq<|sg<|mv E rfl fun a E=>?_
 refine mv E rfl fun a E=>?_
 obtain ⟨c32,e33,hF⟩:=bnd hF
 refine lv E ok (qba Tryz.underlying9 rfl rfl e33) fun a E=>lw E (qdG rfl rfl) fun a E=>wn<|cf E rfl hF (fun hc34 hF=>?_) fun hc34 hF=>?_
 ·refine wp_exit<|qaB<|qaS<|qaa<|qab<|mv E rfl fun a E=>lw E (qaG rfl rfl (InR.inc r30 (InR.len ls_0) hc31)) fun a E=>av E rfl fun a E=>?_
  refine wpList_nil ?_
  obtain rfl:=sj hF
  exact qay ⟨m24,c25,M26,le_m0,ok,E.keep [0,5,6,7,8],h27,r28,r29,(InR.inc r30 (InR.len ls_0) hc31)⟩
 refine wp_skip<|qaa<|sg<|mv E rfl fun a E=>mv E rfl fun a E=>mv E rfl fun a E=>?_
 obtain ⟨s35,e36,hF⟩:=bnd hF
 refine lw E (qa7 Tryz.underlying9 e36 rfl ⟨_,rfl⟩ ⟨_,rfl⟩) fun a E=>aw E rfl fun a E=>sg<|mv E rfl fun a E=>?_
 obtain ⟨r37,e38,hF⟩:=bnd hF
 refine qaz E quq rfl (qiW N s35 (Nat.le_trans (qb6 e36) ls_0) e38 hG ok) rfl rfl ?_
 rintro _ w ⟨m39,vs40,rfl,hle,ok,h41⟩
 have le_m0:=le_m0.trans hle
 have h27:=NRow.up qnb hle h27
 obtain ⟨c43,rfl,l42,h44,l45⟩:=h41
 refine ⟨_,rfl,fun a E=>?_⟩
 refine mv E rfl fun a E=>lw E (qaw rfl rfl) fun a E=>lw E (qaw rfl rfl) fun a E=>qaC E ok qdu rfl rfl fun b46 a w E ok=>qai E ok 0 rfl rfl rfl qgD rfl rfl ⟨rfl,(qa0 h44),rfl,trivial⟩ rfl rfl fun w ok=>aw E rfl fun a E=>?_
 refine wp_seq<|wp_block<|sg<|mv E rfl fun a E=>lw E (qaV Tryz.underlying9 rfl) fun a E=>lw E (qb9 rfl rfl) fun a E=>mv E rfl fun a E=>?_
 refine qap (decide ((s35.length:Int) > 6)) (fun hc47=>?_) (fun hc47=>?_)
 rotate_left
 ·as_aux_lemma =>
   replace hF:=qaj hc47 hF
   replace E:=E.upd 36 hc47 rfl
   refine ls E fun a E=>ls E fun a E=>ls E fun a E=>pf E rfl rfl fun a E=>mv E rfl fun a E=>ls E fun a E=>ls E fun a E=>ls E fun a E=>?_
   refine pf E rfl rfl fun a E=>aw E rfl fun a E=>c_if E rfl (fun h=>by cases h) (fun _=>?_)
   refine sg<|mv E rfl fun a E=>mv E rfl fun a E=>qap r37.2 (fun hc241=>?_) (fun hc241=>?_)
   rotate_left
   ·replace hF:=qaj hc241 hF
    replace E:=E.upd 54 hc241 rfl
    refine ls E fun a E=>ls E fun a E=>ls E fun a E=>pf E rfl rfl fun a E=>aw E rfl fun a E=>c_if E rfl (fun h=>by cases h) (fun _=>?_)
    refine sg<|mv E rfl fun a E=>av E rfl fun a E=>av E rfl fun a E=>aw E rfl fun a E=>?_
    refine wp_ret<|qan<|qag<|qan<|qag ?_
    obtain rfl:=sj hF
    exact so (sr ⟨rfl,⟨m39,(.slice none 0 0),le_m0,ok.drop.drop,E.d,⟨rv_t E rfl,rv_t E rfl,rv_t E rfl,trivial⟩,qbF,r29,(ir 3)⟩⟩)
   replace hF:=qak hc241 hF
   replace E:=E.upd 54 hc241 rfl
   refine mv E rfl fun a E=>lv E ok (qkl qbP h27 rfl) fun a E=>lw E (qb9 rfl rfl) fun a E=>pt E rfl rfl fun a E=>aw E rfl fun a E=>cf E rfl hF (fun hc242 hF=>?_) fun hc242 hF=>?_
   rotate_left
   ·refine sg<|mv E rfl fun a E=>av E rfl fun a E=>av E rfl fun a E=>aw E rfl fun a E=>?_
    refine wp_ret<|qan<|qag<|qan<|qag ?_
    obtain rfl:=sj hF
    exact so (sr ⟨rfl,⟨m39,(.slice none 0 0),le_m0,ok.drop.drop,E.d,⟨rv_t E rfl,rv_t E rfl,rv_t E rfl,trivial⟩,qbF,r29,(ir 3)⟩⟩)
   obtain ⟨o243,hJ,hF⟩:=bnd hF
   refine qbx (Q':=fun e a w=>e = .normal ∧ ∃ c244 M245,Ok u m39 ([(b46,oc 114 [vs r37.1.Kind,c43,vs r37.1.Next])] :: M245 :: S) w ∧ Env 88 a [(0,vs s_0),(5,c244),(7,vi n_22),(8,vi i_23)] ∧ NRow 108 2 qcJ m39 c244 o243 M245) ?_ ?_
   rotate_left
   ·clear hJ
    intro e a w hO
    obtain ⟨rfl,c321,M322,ok,E,h323⟩:=hO
    refine qaq<|qaa<|qab<|mv E rfl fun a E=>lw E (qaG rfl rfl (InR.inc r30 (InR.len ls_0) hc31)) fun a E=>mv E rfl fun a E=>lw E (qaF rfl rfl) fun a E=>av E rfl fun a E=>?_
    refine av E rfl fun a E=>wpList_nil<|qaq<|qaa<|qab<|mv E rfl fun a E=>lw E (qaG rfl rfl (InR.inc r30 (InR.len ls_0) hc31)) fun a E=>av E rfl fun a E=>?_
    refine wpList_nil ?_
    obtain rfl:=sj hF
    exact qay ⟨m39,c321,M322,le_m0,(ok.pk 2 [1] rfl (by decide)),E.keep [0,5,6,7,8],h323,(InR.inc r30 (InR.len ls_0) hc31),(InR.wrap _ _),(InR.inc r30 (InR.len ls_0) hc31)⟩
   replace hF:=hJ
   clear hJ
   obtain ⟨x247,e248,hF⟩:=bnd hF
   obtain ⟨l270,e271,hF⟩:=bnd hF
   obtain ⟨x275,e276,hF⟩:=bnd hF
   obtain rfl:=sj hF
   replace ok:Ok u m39 (M26 :: [(b46,oc 114 [vs r37.1.Kind,c43,vs r37.1.Next])] :: S) w:=(ok.pk 2 [1,0] rfl (by decide))
   obtain ⟨cs287,c288,M289,M290,M291,ok,hr292,hx293,he294,hh295⟩:=NRow.open h27 e248 ok
   obtain ⟨c297,rfl,l296,h298⟩:=he294
   refine qcp [10,11] (Cls u m39 (M289 :: [(b46,oc 114 [vs r37.1.Kind,c43,vs r37.1.Next])] :: [])) (Cls u m39 ([(b46,oc 114 [vs r37.1.Kind,c43,vs r37.1.Next])] :: [])) (by kernel_rfl) ?_
   intro w hw
   replace ok:=qcD ok hw
   clear hw
   have le_m39:=Mem.le.refl m39
   refine qam (cl1 (cq le_m39 ok [0,3] rfl) (cq le_m39 ok [3] rfl)) fun hT=>kt 0 E rfl hT (qad rfl) fun a E=>kt 1 E rfl hT (qad rfl) fun a E=>kt 2 E rfl hT (qeK qbP hr292 hh295 rfl) fun a E=>kt 3 E rfl hT (qkK rfl rfl (InR.dec (NRow.InR h27) (ir 0) hc242)) fun a E=>kt 4 E rfl hT (qad rfl) fun a E=>kt 5 E rfl hT (qad rfl) fun a E=>kt 6 E rfl hT (qeK qbP hr292 hh295 rfl) fun a E=>?_
   refine kt 7 E rfl hT (qkK rfl rfl (InR.dec (NRow.InR h27) (ir 0) hc242)) fun a E=>?_
   obtain ⟨b299,o300,hp301,yy302⟩:=qf5 qbP hr292 hx293 (P:=Tryz.prog) (X:=.tmp 63) (I:=.tmp 66) (kd:=.i64) (qah E rfl) (qah E rfl)
   refine kt 8 E rfl hT (yy302 _ _) fun a E=>kt 9 E rfl hT (qaf qcO rfl) fun a E=>?_
   obtain ⟨hl303,hh304⟩:=qdt hr292 hx293 hp301 (by decide)
   refine qbD 10 E rfl (by kernel_rfl) nP hT (qao qek rfl (qae.sub 1 1 (qae.crow hh304 0 rfl))) rfl rfl fun a E=>qbD 11 E rfl (by kernel_rfl) nP hT (qat (cs:=[vs r37.1.Kind,c43,vs r37.1.Next]) qdA rfl rfl (qae.cown 1 rfl rfl)) rfl rfl fun a E=>qau [12] (by kernel_rfl) rfl (qax ?_)
   ·refine wo rfl<|qaT (R:=qdv) (xo:=[.tmp 70]) (xs:=([r37.1]:List (Rule))) E ok qd9 qdu rfl ⟨⟨_,rfl,rfl,⟨_,rfl,l42,h44,l45⟩⟩,trivial⟩ rfl rfl rfl rfl fun c305 M306 a w E ok h307=>wn<|qam (cl1 (cq le_m39 ok [1,4] rfl) (cq le_m39 ok [4] rfl)) fun hT=>qau [13] (by kernel_rfl) rfl (qax ?_)
    ·refine wo rfl<|qa3 (R:=qdv) E ok 2 qdx qd9 Tryz.underlying106 rfl h298 (qaJ.ofRow h307 0 rfl ok) e271 ⟨_,qdu,rfl⟩ rfl rfl rfl rfl fun c308 M309 a w E ok h310=>wn<|qam (cl1 (cq le_m39 ok [1,4] rfl) (cq le_m39 ok [4] rfl)) fun hT=>?_
     obtain ⟨b311,o312,hp313,yy314⟩:=qf5 qbP hr292 hx293 (P:=Tryz.prog) (X:=.tmp 59) (I:=.tmp 62) (kd:=.i64) (qah E rfl) (qah E rfl)
     refine kt 14 E rfl hT (yy314 _ _) fun a E=>kt 15 E rfl hT (qaf qcO rfl) fun a E=>qau [16] (by kernel_rfl) rfl (qax ?_)
     ·refine wo rfl<|qgm (f:=1) (c':=[vs x247.Name,c308]) E ok 1 rfl hr292 hx293 hp313 rfl rfl rfl qmt (ORow.cells h310) rfl rfl ⟨(ORow.one h310),trivial⟩ rfl ⟨rfl,(ORow.one h310),trivial⟩ rfl fun M315 w ok hr316 hx317=>?_
      have hh318:=qdU.set (c':=[vs x247.Name,c308]) hh295
      refine wn<|qam (cl2 (by kernel_rfl) (cq le_m39 ok [4] rfl)) fun hT=>qbd (by kernel_rfl) ?_
      replace ok:Ok u m39 (M315 :: M309 :: M291 :: M306 :: [(b46,oc 114 [vs r37.1.Kind,c43,vs r37.1.Next])] :: S) w:=(ok.pk 5 [1,2,3,0,4] rfl (by decide))
      obtain ⟨M319,ok,h320⟩:=NRow.close e248 ok hr316 hx317 (show qcJ m39 [vs x247.Name,c308] (State.mk x247.Name l270) M309 from ⟨_,rfl,l296,h310⟩) hh318
      exact ⟨rfl,⟨c25,M319,(ok.pk 3 [2,0] rfl (by decide)),E.keep [0,5,7,8],h320⟩⟩
 replace hF:=qak hc47 hF
 replace E:=E.upd 36 hc47 rfl
 refine mv E rfl fun a E=>?_
 obtain ⟨s48,e49,hF⟩:=bnd hF
 refine lw E (qa7 Tryz.underlying9 e49 rfl rfl ⟨_,rfl⟩) fun a E=>lw E (qbl rfl rfl) fun a E=>pt E rfl rfl fun a E=>mv E rfl fun a E=>qap (s48 == ([115,116,97,116,101,32])) (fun hc50=>?_) (fun hc50=>?_)
 rotate_left
 ·as_aux_lemma =>
   replace hF:=qaj hc50 hF
   replace E:=E.upd 41 hc50 rfl
   refine ls E fun a E=>ls E fun a E=>ls E fun a E=>pf E rfl rfl fun a E=>aw E rfl fun a E=>c_if E rfl (fun h=>by cases h) (fun _=>?_)
   refine sg<|mv E rfl fun a E=>mv E rfl fun a E=>qap r37.2 (fun hc158=>?_) (fun hc158=>?_)
   rotate_left
   ·replace hF:=qaj hc158 hF
    replace E:=E.upd 54 hc158 rfl
    refine ls E fun a E=>ls E fun a E=>ls E fun a E=>pf E rfl rfl fun a E=>aw E rfl fun a E=>c_if E rfl (fun h=>by cases h) (fun _=>?_)
    refine sg<|mv E rfl fun a E=>av E rfl fun a E=>av E rfl fun a E=>aw E rfl fun a E=>?_
    refine wp_ret<|qan<|qag<|qan<|qag ?_
    obtain rfl:=sj hF
    exact so (sr ⟨rfl,⟨m39,(.slice none 0 0),le_m0,ok.drop.drop,E.d,⟨rv_t E rfl,rv_t E rfl,rv_t E rfl,trivial⟩,qbF,r29,(ir 3)⟩⟩)
   replace hF:=qak hc158 hF
   replace E:=E.upd 54 hc158 rfl
   refine mv E rfl fun a E=>lv E ok (qkl qbP h27 rfl) fun a E=>lw E (qb9 rfl rfl) fun a E=>pt E rfl rfl fun a E=>aw E rfl fun a E=>cf E rfl hF (fun hc159 hF=>?_) fun hc159 hF=>?_
   rotate_left
   ·refine sg<|mv E rfl fun a E=>av E rfl fun a E=>av E rfl fun a E=>aw E rfl fun a E=>?_
    refine wp_ret<|qan<|qag<|qan<|qag ?_
    obtain rfl:=sj hF
    exact so (sr ⟨rfl,⟨m39,(.slice none 0 0),le_m0,ok.drop.drop,E.d,⟨rv_t E rfl,rv_t E rfl,rv_t E rfl,trivial⟩,qbF,r29,(ir 3)⟩⟩)
   obtain ⟨o160,hJ,hF⟩:=bnd hF
   refine qbx (Q':=fun e a w=>e = .normal ∧ ∃ c161 M162,Ok u m39 ([(b46,oc 114 [vs r37.1.Kind,c43,vs r37.1.Next])] :: M162 :: S) w ∧ Env 88 a [(0,vs s_0),(5,c161),(7,vi n_22),(8,vi i_23)] ∧ NRow 108 2 qcJ m39 c161 o160 M162) ?_ ?_
   rotate_left
   ·clear hJ
    intro e a w hO
    obtain ⟨rfl,c238,M239,ok,E,h240⟩:=hO
    refine qaq<|qaa<|qab<|mv E rfl fun a E=>lw E (qaG rfl rfl (InR.inc r30 (InR.len ls_0) hc31)) fun a E=>mv E rfl fun a E=>lw E (qaF rfl rfl) fun a E=>av E rfl fun a E=>?_
    refine av E rfl fun a E=>wpList_nil<|qaq<|qaa<|qab<|mv E rfl fun a E=>lw E (qaG rfl rfl (InR.inc r30 (InR.len ls_0) hc31)) fun a E=>av E rfl fun a E=>?_
    refine wpList_nil ?_
    obtain rfl:=sj hF
    exact qay ⟨m39,c238,M239,le_m0,(ok.pk 2 [1] rfl (by decide)),E.keep [0,5,6,7,8],h240,(InR.inc r30 (InR.len ls_0) hc31),(InR.wrap _ _),(InR.inc r30 (InR.len ls_0) hc31)⟩
   replace hF:=hJ
   clear hJ
   obtain ⟨x164,e165,hF⟩:=bnd hF
   obtain ⟨l187,e188,hF⟩:=bnd hF
   obtain ⟨x192,e193,hF⟩:=bnd hF
   obtain rfl:=sj hF
   replace ok:Ok u m39 (M26 :: [(b46,oc 114 [vs r37.1.Kind,c43,vs r37.1.Next])] :: S) w:=(ok.pk 2 [1,0] rfl (by decide))
   obtain ⟨cs204,c205,M206,M207,M208,ok,hr209,hx210,he211,hh212⟩:=NRow.open h27 e165 ok
   obtain ⟨c214,rfl,l213,h215⟩:=he211
   refine qcp [10,11] (Cls u m39 (M206 :: [(b46,oc 114 [vs r37.1.Kind,c43,vs r37.1.Next])] :: [])) (Cls u m39 ([(b46,oc 114 [vs r37.1.Kind,c43,vs r37.1.Next])] :: [])) (by kernel_rfl) ?_
   intro w hw
   replace ok:=qcD ok hw
   clear hw
   have le_m39:=Mem.le.refl m39
   refine qam (cl1 (cq le_m39 ok [0,3] rfl) (cq le_m39 ok [3] rfl)) fun hT=>kt 0 E rfl hT (qad rfl) fun a E=>kt 1 E rfl hT (qad rfl) fun a E=>kt 2 E rfl hT (qeK qbP hr209 hh212 rfl) fun a E=>kt 3 E rfl hT (qkK rfl rfl (InR.dec (NRow.InR h27) (ir 0) hc159)) fun a E=>kt 4 E rfl hT (qad rfl) fun a E=>kt 5 E rfl hT (qad rfl) fun a E=>kt 6 E rfl hT (qeK qbP hr209 hh212 rfl) fun a E=>?_
   refine kt 7 E rfl hT (qkK rfl rfl (InR.dec (NRow.InR h27) (ir 0) hc159)) fun a E=>?_
   obtain ⟨b216,o217,hp218,yy219⟩:=qf5 qbP hr209 hx210 (P:=Tryz.prog) (X:=.tmp 63) (I:=.tmp 66) (kd:=.i64) (qah E rfl) (qah E rfl)
   refine kt 8 E rfl hT (yy219 _ _) fun a E=>kt 9 E rfl hT (qaf qcO rfl) fun a E=>?_
   obtain ⟨hl220,hh221⟩:=qdt hr209 hx210 hp218 (by decide)
   refine qbD 10 E rfl (by kernel_rfl) nP hT (qao qek rfl (qae.sub 1 1 (qae.crow hh221 0 rfl))) rfl rfl fun a E=>qbD 11 E rfl (by kernel_rfl) nP hT (qat (cs:=[vs r37.1.Kind,c43,vs r37.1.Next]) qdA rfl rfl (qae.cown 1 rfl rfl)) rfl rfl fun a E=>qau [12] (by kernel_rfl) rfl (qax ?_)
   ·refine wo rfl<|qaT (R:=qdv) (xo:=[.tmp 70]) (xs:=([r37.1]:List (Rule))) E ok qd9 qdu rfl ⟨⟨_,rfl,rfl,⟨_,rfl,l42,h44,l45⟩⟩,trivial⟩ rfl rfl rfl rfl fun c222 M223 a w E ok h224=>wn<|qam (cl1 (cq le_m39 ok [1,4] rfl) (cq le_m39 ok [4] rfl)) fun hT=>qau [13] (by kernel_rfl) rfl (qax ?_)
    ·refine wo rfl<|qa3 (R:=qdv) E ok 2 qdx qd9 Tryz.underlying106 rfl h215 (qaJ.ofRow h224 0 rfl ok) e188 ⟨_,qdu,rfl⟩ rfl rfl rfl rfl fun c225 M226 a w E ok h227=>wn<|qam (cl1 (cq le_m39 ok [1,4] rfl) (cq le_m39 ok [4] rfl)) fun hT=>?_
     obtain ⟨b228,o229,hp230,yy231⟩:=qf5 qbP hr209 hx210 (P:=Tryz.prog) (X:=.tmp 59) (I:=.tmp 62) (kd:=.i64) (qah E rfl) (qah E rfl)
     refine kt 14 E rfl hT (yy231 _ _) fun a E=>kt 15 E rfl hT (qaf qcO rfl) fun a E=>qau [16] (by kernel_rfl) rfl (qax ?_)
     ·refine wo rfl<|qgm (f:=1) (c':=[vs x164.Name,c225]) E ok 1 rfl hr209 hx210 hp230 rfl rfl rfl qmt (ORow.cells h227) rfl rfl ⟨(ORow.one h227),trivial⟩ rfl ⟨rfl,(ORow.one h227),trivial⟩ rfl fun M232 w ok hr233 hx234=>?_
      have hh235:=qdU.set (c':=[vs x164.Name,c225]) hh212
      refine wn<|qam (cl2 (by kernel_rfl) (cq le_m39 ok [4] rfl)) fun hT=>qbd (by kernel_rfl) ?_
      replace ok:Ok u m39 (M232 :: M226 :: M208 :: M223 :: [(b46,oc 114 [vs r37.1.Kind,c43,vs r37.1.Next])] :: S) w:=(ok.pk 5 [1,2,3,0,4] rfl (by decide))
      obtain ⟨M236,ok,h237⟩:=NRow.close e165 ok hr233 hx234 (show qcJ m39 [vs x164.Name,c225] (State.mk x164.Name l187) M226 from ⟨_,rfl,l213,h227⟩) hh235
      exact ⟨rfl,⟨c25,M236,(ok.pk 3 [2,0] rfl (by decide)),E.keep [0,5,7,8],h237⟩⟩
 replace hF:=qak hc50 hF
 replace E:=E.upd 41 hc50 rfl
 refine mv E rfl fun a E=>?_
 obtain ⟨s51,e52,hF⟩:=bnd hF
 refine lw E (qa7 Tryz.underlying9 e52 rfl ⟨_,rfl⟩ rfl) fun a E=>?_
 obtain ⟨r53,e54,hF⟩:=bnd hF
 refine lc E qnk rfl (qeU N s51 (Nat.le_trans (qb6 e52) (Nat.le_trans (qb6 e36) ls_0)) e54 hG ok) fun w ok a E=>pt E rfl rfl fun a E=>aw E rfl fun a E=>?_
 obtain ⟨o55,hJ,hF⟩:=bnd hF
 refine qbx (Q':=fun e a w=>(Sum.elim (fun b56=>e = .normal ∧ ∃ c57 M58,Ok u m39 ([(b46,oc 114 [vs r37.1.Kind,c43,vs r37.1.Next])] :: M58 :: S) w ∧ Env 88 a [(0,vs s_0),(5,c57),(7,vi n_22),(8,vi i_23)] ∧ NRow 108 2 qcJ m39 c57 b56 M58) (fun b60=>e = .ret ∧ qdH u m0 S b60 a w)) o55) ?_ ?_
 rotate_left
 ·clear hJ
  intro e a w hO
  rcases o55 with o55 | o55
  rotate_left
  ·replace hF:=qbf hF
   obtain ⟨rfl,hret⟩:=hO
   refine qan<|qag<|qan<|qag ?_
   obtain rfl:=sj hF
   exact so (sr ⟨rfl,hret⟩)
  replace hF:=qbe hF
  obtain ⟨rfl,c155,M156,ok,E,h157⟩:=hO
  refine qaq<|qaa<|qab<|mv E rfl fun a E=>lw E (qaG rfl rfl (InR.inc r30 (InR.len ls_0) hc31)) fun a E=>mv E rfl fun a E=>lw E (qaF rfl rfl) fun a E=>av E rfl fun a E=>?_
  refine av E rfl fun a E=>wpList_nil<|qaq<|qaa<|qab<|mv E rfl fun a E=>lw E (qaG rfl rfl (InR.inc r30 (InR.len ls_0) hc31)) fun a E=>av E rfl fun a E=>?_
  refine wpList_nil ?_
  obtain rfl:=sj hF
  exact qay ⟨m39,c155,M156,le_m0,(ok.pk 2 [1] rfl (by decide)),E.keep [0,5,6,7,8],h157,(InR.inc r30 (InR.len ls_0) hc31),(InR.wrap _ _),(InR.inc r30 (InR.len ls_0) hc31)⟩
 replace hF:=hJ
 clear hJ
 refine cf E rfl hF (fun hc61 hF=>?_) fun hc61 hF=>?_
 ·refine qab<|mv E rfl fun a E=>mv E rfl fun a E=>?_
  obtain ⟨s62,e63,hF⟩:=bnd hF
  refine lw E (qa7 Tryz.underlying9 e63 rfl ⟨_,rfl⟩ rfl) fun a E=>lw E (qaK (ps:=[(0,.tmp 48)]) (qs:=[(0,[vs s62])]) (cs:=[vs s62,(Value.slice none 0 0)]) qlw qpc rfl ⟨rfl,rfl,rfl,trivial⟩ rfl) fun a E=>qaT (R:=pRaw) (xo:=[.tmp 49]) (xs:=[[vs s62,(Value.slice none 0 0)]]) E ok qbP qlw rfl ⟨⟨_,rfl,rfl,⟨rfl,⟨rfl,rfl,trivial⟩⟩⟩,trivial⟩ rfl rfl rfl rfl fun c64 M65 a w E ok h66=>?_
  replace ok:Ok u m39 (M26 :: M65 :: [(b46,oc 114 [vs r37.1.Kind,c43,vs r37.1.Next])] :: S) w:=(ok.pk 3 [2,0,1] rfl (by decide))
  obtain ⟨l67,e68,hF⟩:=bnd hF
  refine qlZ (R:=qcJ) E ok.addnil.swap2 qbP Tryz.underlying39 h27 (qaJ.ofRow h66 1 rfl ok) ⟨_,rfl,(Nat.le_trans (qb6 e63) (Nat.le_trans (qb6 e36) ls_0)),ORow.nil⟩ e68 ⟨_,qlw,rfl⟩ rfl rfl rfl rfl fun c69 M70 a w E ok h71=>av E rfl fun a E=>wpList_nil ?_
  obtain rfl:=sj hF
  exact (sl ⟨rfl,⟨c69,M70,(ok.pk 3 [2,0] rfl (by decide)),E.keep [0,5,7,8],h71⟩⟩)
 refine sg<|mv E rfl fun a E=>mv E rfl fun a E=>qap r37.2 (fun hc72=>?_) (fun hc72=>?_)
 rotate_left
 ·replace hF:=qaj hc72 hF
  replace E:=E.upd 54 hc72 rfl
  refine ls E fun a E=>ls E fun a E=>ls E fun a E=>pf E rfl rfl fun a E=>aw E rfl fun a E=>c_if E rfl (fun h=>by cases h) (fun _=>?_)
  refine sg<|mv E rfl fun a E=>av E rfl fun a E=>av E rfl fun a E=>aw E rfl fun a E=>?_
  refine wp_ret ?_
  have hret:qdH u m0 S ([],n_22,3) a w:=⟨m39,(.slice none 0 0),le_m0,ok.drop.drop,E.d,⟨rv_t E rfl,rv_t E rfl,rv_t E rfl,trivial⟩,qbF,r29,(ir 3)⟩
  obtain rfl:=sj hF
  exact (sr ⟨rfl,hret⟩)
 replace hF:=qak hc72 hF
 replace E:=E.upd 54 hc72 rfl
 refine mv E rfl fun a E=>lv E ok (qkl qbP h27 rfl) fun a E=>lw E (qb9 rfl rfl) fun a E=>pt E rfl rfl fun a E=>aw E rfl fun a E=>cf E rfl hF (fun hc73 hF=>?_) fun hc73 hF=>?_
 rotate_left
 ·refine sg<|mv E rfl fun a E=>av E rfl fun a E=>av E rfl fun a E=>aw E rfl fun a E=>?_
  refine wp_ret ?_
  have hret:qdH u m0 S ([],n_22,3) a w:=⟨m39,(.slice none 0 0),le_m0,ok.drop.drop,E.d,⟨rv_t E rfl,rv_t E rfl,rv_t E rfl,trivial⟩,qbF,r29,(ir 3)⟩
  obtain rfl:=sj hF
  exact (sr ⟨rfl,hret⟩)
 obtain ⟨o74,hJ,hF⟩:=bnd hF
 refine qbx (Q':=fun e a w=>e = .normal ∧ ∃ c75 M76,Ok u m39 ([(b46,oc 114 [vs r37.1.Kind,c43,vs r37.1.Next])] :: M76 :: S) w ∧ Env 88 a [(0,vs s_0),(5,c75),(7,vi n_22),(8,vi i_23)] ∧ NRow 108 2 qcJ m39 c75 o74 M76) ?_ ?_
 rotate_left
 ·clear hJ
  intro e a w hO
  obtain ⟨rfl,c152,M153,ok,E,h154⟩:=hO
  obtain rfl:=sj hF
  exact (sl ⟨rfl,⟨c152,M153,ok,E.keep [0,5,7,8],h154⟩⟩)
 replace hF:=hJ
 clear hJ
 obtain ⟨x78,e79,hF⟩:=bnd hF
 obtain ⟨l101,e102,hF⟩:=bnd hF
 obtain ⟨x106,e107,hF⟩:=bnd hF
 obtain rfl:=sj hF
 replace ok:Ok u m39 (M26 :: [(b46,oc 114 [vs r37.1.Kind,c43,vs r37.1.Next])] :: S) w:=(ok.pk 2 [1,0] rfl (by decide))
 obtain ⟨cs118,c119,M120,M121,M122,ok,hr123,hx124,he125,hh126⟩:=NRow.open h27 e79 ok
 obtain ⟨c128,rfl,l127,h129⟩:=he125
 refine qcp [10,11] (Cls u m39 (M120 :: [(b46,oc 114 [vs r37.1.Kind,c43,vs r37.1.Next])] :: [])) (Cls u m39 ([(b46,oc 114 [vs r37.1.Kind,c43,vs r37.1.Next])] :: [])) (by kernel_rfl) ?_
 intro w hw
 replace ok:=qcD ok hw
 clear hw
 have le_m39:=Mem.le.refl m39
 refine qam (cl1 (cq le_m39 ok [0,3] rfl) (cq le_m39 ok [3] rfl)) fun hT=>kt 0 E rfl hT (qad rfl) fun a E=>kt 1 E rfl hT (qad rfl) fun a E=>kt 2 E rfl hT (qeK qbP hr123 hh126 rfl) fun a E=>kt 3 E rfl hT (qkK rfl rfl (InR.dec (NRow.InR h27) (ir 0) hc73)) fun a E=>kt 4 E rfl hT (qad rfl) fun a E=>kt 5 E rfl hT (qad rfl) fun a E=>kt 6 E rfl hT (qeK qbP hr123 hh126 rfl) fun a E=>?_
 refine kt 7 E rfl hT (qkK rfl rfl (InR.dec (NRow.InR h27) (ir 0) hc73)) fun a E=>?_
 obtain ⟨b130,o131,hp132,yy133⟩:=qf5 qbP hr123 hx124 (P:=Tryz.prog) (X:=.tmp 63) (I:=.tmp 66) (kd:=.i64) (qah E rfl) (qah E rfl)
 refine kt 8 E rfl hT (yy133 _ _) fun a E=>kt 9 E rfl hT (qaf qcO rfl) fun a E=>?_
 obtain ⟨hl134,hh135⟩:=qdt hr123 hx124 hp132 (by decide)
 refine qbD 10 E rfl (by kernel_rfl) nP hT (qao qek rfl (qae.sub 1 1 (qae.crow hh135 0 rfl))) rfl rfl fun a E=>qbD 11 E rfl (by kernel_rfl) nP hT (qat (cs:=[vs r37.1.Kind,c43,vs r37.1.Next]) qdA rfl rfl (qae.cown 1 rfl rfl)) rfl rfl fun a E=>qau [12] (by kernel_rfl) rfl (qax ?_)
 ·refine wo rfl<|qaT (R:=qdv) (xo:=[.tmp 70]) (xs:=([r37.1]:List (Rule))) E ok qd9 qdu rfl ⟨⟨_,rfl,rfl,⟨_,rfl,l42,h44,l45⟩⟩,trivial⟩ rfl rfl rfl rfl fun c136 M137 a w E ok h138=>wn<|qam (cl1 (cq le_m39 ok [1,4] rfl) (cq le_m39 ok [4] rfl)) fun hT=>qau [13] (by kernel_rfl) rfl (qax ?_)
  ·refine wo rfl<|qa3 (R:=qdv) E ok 2 qdx qd9 Tryz.underlying106 rfl h129 (qaJ.ofRow h138 0 rfl ok) e102 ⟨_,qdu,rfl⟩ rfl rfl rfl rfl fun c139 M140 a w E ok h141=>wn<|qam (cl1 (cq le_m39 ok [1,4] rfl) (cq le_m39 ok [4] rfl)) fun hT=>?_
   obtain ⟨b142,o143,hp144,yy145⟩:=qf5 qbP hr123 hx124 (P:=Tryz.prog) (X:=.tmp 59) (I:=.tmp 62) (kd:=.i64) (qah E rfl) (qah E rfl)
   refine kt 14 E rfl hT (yy145 _ _) fun a E=>kt 15 E rfl hT (qaf qcO rfl) fun a E=>qau [16] (by kernel_rfl) rfl (qax ?_)
   ·refine wo rfl<|qgm (f:=1) (c':=[vs x78.Name,c139]) E ok 1 rfl hr123 hx124 hp144 rfl rfl rfl qmt (ORow.cells h141) rfl rfl ⟨(ORow.one h141),trivial⟩ rfl ⟨rfl,(ORow.one h141),trivial⟩ rfl fun M146 w ok hr147 hx148=>?_
    have hh149:=qdU.set (c':=[vs x78.Name,c139]) hh126
    refine wn<|qam (cl2 (by kernel_rfl) (cq le_m39 ok [4] rfl)) fun hT=>qbd (by kernel_rfl) ?_
    replace ok:Ok u m39 (M146 :: M140 :: M122 :: M137 :: [(b46,oc 114 [vs r37.1.Kind,c43,vs r37.1.Next])] :: S) w:=(ok.pk 5 [1,2,3,0,4] rfl (by decide))
    obtain ⟨M150,ok,h151⟩:=NRow.close e79 ok hr147 hx148 (show qcJ m39 [vs x78.Name,c139] (State.mk x78.Name l101) M140 from ⟨_,rfl,l127,h141⟩) hh149
    exact ⟨rfl,⟨c25,M150,(ok.pk 3 [2,0] rfl (by decide)),E.keep [0,5,7,8],h151⟩⟩
def qj7 (u:World) (m0:Mem) (S:Segs) (r:(List (Item))) (a:Act) (w:World):Prop :=
 ∃ m1 v0,m0.le m1 ∧ Ok u m1 S w ∧ a.defers = [] ∧ RVs Tryz.prog a w [.t 2 v0] ∧ (pL 5 qbO) m1 [v0] r
theorem qj5 (N:Nat) (vl_0:Value) (l_0:List (Item)) (hl_0:(pL 5 qbO) m0 [vl_0] l_0) {r:(List (Item))} (hF:qeb N l_0 = some r) (hG:Glob u) (ok:Ok u m0 S w) :
  Calls Tryz.prog 37 [vl_0].toArray w fun e w'=>∃ m1 v0,e = .returned v0 ∧ m0.le m1 ∧ Ok u m1 S w' ∧ (pL 5 qbO) m1 [v0] r:=by
 have le_m0:=Mem.le.refl m0
 unfold qeb at hF
 refine en (qj7 u m0 S) r Tryz.func37 rfl rfl rfl (by rintro a w ⟨m1,v0,hle,ok,hd,hrv,h0⟩; exact qaM [.t 2 v0] hd rfl hrv ⟨m1,v0,rfl,hle,ok,h0⟩) fun fin a E=>sg<|aw E rfl fun a E=>sg ?_
 refine aw E rfl fun a E=>wp_seq<|sg<|av E rfl fun a E=>wpList_nil ?_
 refine qaa<|wp_block ?_
 obtain ⟨M6,ok,h7⟩:=qdI (e:=154) (k:=5) (R:=qbO) ok
 obtain ⟨o8,hL,hF⟩:=bnd hF
 refine qaO _ (fun (s:(List (Item)) × Int) a w=>∃ m9 c10 M11,m0.le m9 ∧ Ok u m9 (M11 :: S) w ∧ Env 62 a [(0,vl_0),(3,c10),(4,vi s.2)] ∧ ORow 154 5 qbO m9 c10 s.1 M11 ∧ InR .i64 s.2) (fun (b:((List (Item)))) e a w=>e = (.exit 0) ∧ ∃ m280 c281 M282,m0.le m280 ∧ Ok u m280 (M282 :: S) w ∧ Env 62 a [(3,c281)] ∧ ORow 154 5 qbO m280 c281 b M282) ?_ ?_ N _ a w hL ⟨m0,(Value.slice none 0 0),M6,Mem.le.refl _,ok,E.keep [0,3,4],h7,(ir 0)⟩
 rotate_left
 ·intro e a w _ hO
  obtain ⟨rfl,m274,c275,M276,hle,ok,E,h277⟩:=hO
  have le_m0:=le_m0.trans hle
  have hl_0:=(mL qds).up hle hl_0
  refine qaS<|qaa<|sg<|mv E rfl fun a E=>aw E rfl fun a E=>?_
  refine wp_ret ?_
  obtain ⟨m278,hle,ok,hfz⟩:=(ok.frs 0 rfl).freeze
  have h279:=ORow.froz qds h277 hle hfz (by decide)
  have le_m0:=le_m0.trans hle
  have hl_0:=(mL qds).up hle hl_0
  exact fin hF ⟨m278,c275,le_m0,ok,E.d,⟨rv_t E rfl,trivial⟩,h279⟩
 rintro ⟨out_14,i_15⟩ a w r ⟨m16,c17,M18,hle,ok,E,h19,r20⟩ hF
 replace hF:qdr N l_0 out_14 i_15 = some r:=hF
 unfold qdr at hF
 have le_m0:=le_m0.trans hle
 have hl_0:=(mL qds).up hle hl_0
 refine wp_seq<|sg<|mv E rfl fun a E=>mv E rfl fun a E=>lv E ok (qaE qcx hl_0 rfl) fun a E=>lw E (qaA rfl rfl) fun a E=>wpList_nil ?_
 refine qaa<|cf E rfl hF (fun hc21 hF=>?_) fun hc21 hF=>?_
 rotate_left
 ·refine wp_exit<|qaB ?_
  obtain rfl:=sj hF
  exact so (⟨rfl,⟨m16,c17,M18,le_m0,ok,E.keep [3],h19⟩⟩)
 refine wp_skip<|qaa<|wp_seq<|wp_block<|wp_seq ?_
 obtain ⟨o22,hJ,hF⟩:=bnd hF
 refine qbx (Q':=fun e a w=>e = .normal ∧ ∃ b26,Ok u m16 ([(b26,oc 154 [vs o22.Text,(Value.slice none 0 0),vb o22.Not,vi o22.Least,vi o22.Most])] :: M18 :: S) w ∧ Env 62 a [(0,vl_0),(3,c17),(4,vi i_15),(5,vp b26)] ∧ o22.Text.length ≤ LIMS ∧ InR .i64 o22.Least ∧ InR .i64 o22.Most) ?_ ?_
 ·replace hF:=hJ
  clear hJ
  obtain ⟨x27,e28,hF⟩:=bnd hF
  obtain ⟨x41,e42,hF⟩:=bnd hF
  obtain ⟨x55,e56,hF⟩:=bnd hF
  obtain ⟨x69,e70,hF⟩:=bnd hF
  obtain rfl:=sj hF
  refine qcp [] (Cls u m16 (M18 :: [])) (Cls u m16 (M18 :: [])) (by kernel_rfl) ?_
  intro w hw
  replace ok:=qcD ok hw
  clear hw
  have le_m16:=Mem.le.refl m16
  refine qam (cl1 (cq le_m16 ok [0] rfl) (cq le_m16 ok [0] rfl)) fun hT=>kt 0 E rfl hT (qad rfl) fun a E=>kt 1 E rfl hT (qad rfl) fun a E=>?_
  obtain ⟨b84,o85,es86,hl87,rr88,at89,yy90⟩:=qaN qcx hl_0 e28 (P:=Tryz.prog) (X:=.tmp 13) (I:=.tmp 14) (kd:=.i64) (qah E rfl) (qah E rfl)
  obtain ⟨c92,rfl,l91,h93,r94,r95⟩:=rr88
  refine kt 2 E rfl hT (yy90 _ _) fun a E=>kt 3 E rfl hT (qaf qfJ rfl) fun a E=>kt 4 E rfl hT (qao qav rfl (qae.cro (At.sub 0 1 at89))) fun a E=>kt 5 E rfl hT (qad rfl) fun a E=>kt 6 E rfl hT (qad rfl) fun a E=>?_
  obtain ⟨b96,o97,es98,hl99,rr100,at101,yy102⟩:=qaN qcx hl_0 e42 (P:=Tryz.prog) (X:=.tmp 18) (I:=.tmp 19) (kd:=.i64) (qah E rfl) (qah E rfl)
  obtain ⟨c104,rfl,l103,h105,r106,r107⟩:=rr100
  refine kt 7 E rfl hT (yy102 _ _) fun a E=>kt 8 E rfl hT (qaf qiy rfl) fun a E=>kt 9 E rfl hT (qao qhi rfl (qae.cro (At.sub 2 1 at101))) fun a E=>kt 10 E rfl hT (qad rfl) fun a E=>kt 11 E rfl hT (qad rfl) fun a E=>?_
  obtain ⟨b108,o109,es110,hl111,rr112,at113,yy114⟩:=qaN qcx hl_0 e56 (P:=Tryz.prog) (X:=.tmp 23) (I:=.tmp 24) (kd:=.i64) (qah E rfl) (qah E rfl)
  obtain ⟨c116,rfl,l115,h117,r118,r119⟩:=rr112
  refine kt 12 E rfl hT (yy114 _ _) fun a E=>kt 13 E rfl hT (qaf qd1 rfl) fun a E=>kt 14 E rfl hT (qao qaZ rfl (qae.cro (At.sub 3 1 at113))) fun a E=>kt 15 E rfl hT (qad rfl) fun a E=>kt 16 E rfl hT (qad rfl) fun a E=>?_
  obtain ⟨b120,o121,es122,hl123,rr124,at125,yy126⟩:=qaN qcx hl_0 e70 (P:=Tryz.prog) (X:=.tmp 28) (I:=.tmp 29) (kd:=.i64) (qah E rfl) (qah E rfl)
  obtain ⟨c128,rfl,l127,h129,r130,r131⟩:=rr124
  refine kt 17 E rfl hT (yy126 _ _) fun a E=>kt 18 E rfl hT (qaf qdZ rfl) fun a E=>kt 19 E rfl hT (qao qaZ rfl (qae.cro (At.sub 4 1 at125))) fun a E=>kt 20 E rfl hT (qaK (ps:=[(0,.tmp 17),(2,.tmp 22),(3,.tmp 27),(4,.tmp 32)]) (qs:=[(0,[vs x27.Text]),(2,[vb x41.Not]),(3,[vi x55.Least]),(4,[vi x69.Most])]) (cs:=[vs x27.Text,(Value.slice none 0 0),vb x41.Not,vi x55.Least,vi x69.Most]) qgZ qo9 rfl ⟨rfl,rfl,rfl,⟨rfl,rfl,rfl,⟨rfl,rfl,rfl,⟨rfl,rfl,rfl,trivial⟩⟩⟩⟩ rfl) fun a E=>qau [21] (by kernel_rfl) rfl (qax ?_)
  ·refine wo rfl<|qaC E ok qgZ rfl rfl fun b132 a w E ok=>wn<|qam (cl1 (cq le_m16 ok [1] rfl) (cq le_m16 ok [1] rfl)) fun hT=>qau [22] (by kernel_rfl) rfl (qax ?_)
   ·refine wo rfl<|qai E ok 0 rfl rfl rfl qk0 rfl rfl ⟨rfl,rfl,rfl,rfl,rfl,trivial⟩ rfl rfl fun w ok=>wn<|qam (cl1 (cq le_m16 ok [1] rfl) (cq le_m16 ok [1] rfl)) fun hT=>qbd (by kernel_rfl) ?_
    exact ⟨rfl,⟨b132,ok,E.keep [0,3,4,5],l91,r118,r131⟩⟩
 clear hJ
 intro e a w hO
 obtain ⟨rfl,b136,ok,E,l133,r134,r135⟩:=hO
 refine qaa<|wp_seq<|sg<|aw E rfl fun a E=>wp_block ?_
 obtain ⟨M145,ok,h146⟩:=qdI (e:=156) (k:=2) (R:=qbK) ok
 obtain ⟨o147,hL,hF⟩:=bnd hF
 refine qaO _ (fun (s:Int × Item) a w=>∃ c150 M151,Ok u m16 (M151 :: [(b136,oc 154 [vs s.2.Text,c150,vb s.2.Not,vi s.2.Least,vi s.2.Most])] :: M18 :: S) w ∧ Env 62 a [(0,vl_0),(3,c17),(4,vi i_15),(5,vp b136),(6,vi s.1)] ∧ InR .i64 s.1 ∧ s.2.Text.length ≤ LIMS ∧ ORow 156 2 qbK m16 c150 s.2.Ranges M151 ∧ InR .i64 s.2.Least ∧ InR .i64 s.2.Most) (fun (b:Item) e a w=>e = (.exit 2) ∧ ∃ c269 M270,Ok u m16 (M270 :: [(b136,oc 154 [vs b.Text,c269,vb b.Not,vi b.Least,vi b.Most])] :: M18 :: S) w ∧ Env 62 a [(0,vl_0),(3,c17),(4,vi i_15),(5,vp b136)] ∧ b.Text.length ≤ LIMS ∧ ORow 156 2 qbK m16 c269 b.Ranges M270 ∧ InR .i64 b.Least ∧ InR .i64 b.Most) ?_ ?_ N _ a w hL ⟨(Value.slice none 0 0),M145,ok,E.keep [0,3,4,5,6],(ir 0),l133,h146,r134,r135⟩
 rotate_left
 ·intro e a w _ hO
  obtain ⟨rfl,c253,M254,ok,E,l252,h255,r256,r257⟩:=hO
  refine qaS<|qaa<|qab<|mv E rfl fun a E=>lv E ok (qat (cs:=[vs o147.Text,c253,vb o147.Not,vi o147.Least,vi o147.Most]) qfn rfl rfl (qae.own 1 rfl rfl)) fun a E=>?_
  obtain ⟨m258,hle,ok,hfz⟩:=(ok.frs 0 rfl).freeze
  have h259:=ORow.froz qe0 h255 hle hfz (by decide)
  have le_m0:=le_m0.trans hle
  have hl_0:=(mL qds).up hle hl_0
  have h19:=ORow.up qds hle h19
  refine qaT (R:=qbO) (xo:=[.tmp 58]) (xs:=([o147]:List (Item))) E ok qep qgZ rfl ⟨⟨_,rfl,rfl,⟨_,rfl,l252,h259,r256,r257⟩⟩,trivial⟩ rfl rfl rfl rfl fun c260 M261 a w E ok h262=>?_
  obtain ⟨l263,e264,hF⟩:=bnd hF
  refine ql1 (R:=qbO) E ok 2 qds qep Tryz.underlying115 rfl h19 (qaJ.ofRow h262 0 rfl ok) e264 (qiO qte) ⟨_,qgZ,rfl⟩ rfl rfl rfl rfl fun c265 M266 a w E ok h267=>av E rfl fun a E=>wpList_nil<|qaq<|qaa<|qab<|mv E rfl fun a E=>lw E (qaG rfl rfl (InR.inc r20 (qas hl_0) hc21)) fun a E=>?_
  refine av E rfl fun a E=>wpList_nil ?_
  obtain rfl:=sj hF
  exact qay ⟨m258,c265,M266,le_m0,(ok.pk 3 [2] rfl (by decide)),E.keep [0,3,4],h267,(InR.inc r20 (qas hl_0) hc21)⟩
 rintro ⟨k_155,x_156⟩ a w r ⟨c159,M160,ok,E,r157,l158,h161,r162,r163⟩ hF
 replace hF:qcG N l_0 i_15 k_155 x_156 = some r:=hF
 unfold qcG at hF
 refine wp_seq<|sg<|mv E rfl fun a E=>mv E rfl fun a E=>mv E rfl fun a E=>?_
 obtain ⟨x164,e165,hF⟩:=bnd hF
 obtain ⟨b166,o167,es168,hl169,rr170,at171,yy172⟩:=qaN qcx hl_0 e165 (P:=Tryz.prog) (X:=.tmp 35) (I:=.tmp 36) (kd:=.i64) (qah E rfl) (qah E rfl)
 obtain ⟨c174,rfl,l173,h175,r176,r177⟩:=rr170
 refine lv E ok (yy172 _ _) fun a E=>fv E qbv rfl fun a E=>lv E ok (qao qbZ rfl (qae.ro (At.sub 1 1 at171))) fun a E=>lv E ok (qaE qbV h175 rfl) fun a E=>lw E (qaA rfl rfl) fun a E=>wn<|cf E rfl hF (fun hc178 hF=>?_) fun hc178 hF=>?_
 rotate_left
 ·refine wp_exit<|qaB ?_
  obtain rfl:=sj hF
  exact so (⟨rfl,⟨c159,M160,ok,E.keep [0,3,4,5],l158,h161,r162,r163⟩⟩)
 refine wp_skip<|qaa<|wp_seq<|wp_block ?_
 obtain ⟨o179,hJ,hF⟩:=bnd hF
 refine qbx (Q':=fun e a w=>e = .normal ∧ ∃ c181 M182,Ok u m16 (M182 :: [(b136,oc 154 [vs o179.Text,c181,vb o179.Not,vi o179.Least,vi o179.Most])] :: M18 :: S) w ∧ Env 62 a [(0,vl_0),(3,c17),(4,vi i_15),(5,vp b136),(6,vi k_155)] ∧ o179.Text.length ≤ LIMS ∧ ORow 156 2 qbK m16 c181 o179.Ranges M182 ∧ InR .i64 o179.Least ∧ InR .i64 o179.Most) ?_ ?_
 rotate_left
 ·clear hJ
  intro e a w hO
  obtain ⟨rfl,c247,M248,ok,E,l246,h249,r250,r251⟩:=hO
  refine qaq<|qaa<|qab<|mv E rfl fun a E=>lw E (qaG rfl rfl (InR.inc r157 (qas h175) hc178)) fun a E=>av E rfl fun a E=>wpList_nil ?_
  obtain rfl:=sj hF
  exact qay ⟨c247,M248,ok,E.keep [0,3,4,5,6],(InR.inc r157 (qas h175) hc178),l246,h249,r250,r251⟩
 replace hF:=hJ
 clear hJ
 obtain ⟨x186,e187,hF⟩:=bnd hF
 obtain ⟨x200,e201,hF⟩:=bnd hF
 obtain ⟨l214,e215,hF⟩:=bnd hF
 obtain rfl:=sj hF
 refine qcp [1,6,9] (Cls u m16 ([(b136,oc 154 [vs x_156.Text,c159,vb x_156.Not,vi x_156.Least,vi x_156.Most])] :: M18 :: [])) (Cls u m16 (M18 :: [])) (by kernel_rfl) ?_
 intro w hw
 replace ok:=qcD ok hw
 clear hw
 have le_m16:=Mem.le.refl m16
 refine qam (cl1 (cq le_m16 ok [1,2] rfl) (cq le_m16 ok [2] rfl)) fun hT=>kt 0 E rfl hT (qaf qgd rfl) fun a E=>qbD 1 E rfl (by kernel_rfl) nP hT (qao qhE rfl (qae.cown 0 rfl rfl)) rfl rfl fun a E=>kt 2 E rfl hT (qad rfl) fun a E=>kt 3 E rfl hT (qad rfl) fun a E=>?_
 obtain ⟨b219,o220,es221,hl222,rr223,at224,yy225⟩:=qaN qcx hl_0 e187 (P:=Tryz.prog) (X:=.tmp 46) (I:=.tmp 47) (kd:=.i64) (qah E rfl) (qah E rfl)
 obtain ⟨c227,rfl,l226,h228,r229,r230⟩:=rr223
 refine kt 4 E rfl hT (yy225 _ _) fun a E=>kt 5 E rfl hT (qaf qbv rfl) fun a E=>qbD 6 E rfl (by kernel_rfl) nP hT (qao qbZ rfl (qae.cro (At.sub 1 1 at224))) rfl rfl fun a E=>kt 7 E rfl hT (qad rfl) fun a E=>?_
 obtain ⟨b231,o232,es233,hl234,rr235,at236,yy237⟩:=qaN qbV h228 e201 (P:=Tryz.prog) (X:=.tmp 50) (I:=.tmp 51) (kd:=.i64) (qah E rfl) (qah E rfl)
 obtain ⟨rfl,r238,r239⟩:=rr235
 refine kt 8 E rfl hT (yy237 _ _) fun a E=>qbD 9 E rfl (by kernel_rfl) nP hT (qat (cs:=[(Value.int .u8 x200.From),(Value.int .u8 x200.To)]) qsr rfl rfl (qae.cro at236)) rfl rfl fun a E=>qau [10] (by kernel_rfl) rfl (qax ?_)
 ·refine wo rfl<|qaT (R:=qbK) (xo:=[.tmp 53]) (xs:=([x200]:List (Range))) E ok qgs qlp rfl ⟨⟨_,rfl,rfl,⟨rfl,r238,r239⟩⟩,trivial⟩ rfl rfl rfl rfl fun c240 M241 a w E ok h242=>wn<|qam (cl1 (cq le_m16 ok [2,3] rfl) (cq le_m16 ok [3] rfl)) fun hT=>qau [11] (by kernel_rfl) rfl (qax ?_)
  ·refine wo rfl<|ql1 (R:=qbK) E ok 1 qe0 qgs Tryz.underlying152 rfl h161 (qaJ.ofRow h242 0 rfl ok) e215 (qiO qtd) ⟨_,qlp,rfl⟩ rfl rfl rfl rfl fun c243 M244 a w E ok h245=>wn<|qam (cl1 (cq le_m16 ok [2,3] rfl) (cq le_m16 ok [3] rfl)) fun hT=>kt 12 E rfl hT (qaf qgd rfl) fun a E=>qau [13] (by kernel_rfl) rfl (qax ?_)
   ·refine wo rfl<|qai E ok 2 rfl rfl rfl qr9 (ORow.cells h245) rfl ⟨(ORow.one h245),trivial⟩ rfl rfl fun w ok=>wn<|qam (cl2 (by kernel_rfl) (cq le_m16 ok [3] rfl)) fun hT=>qbd (by kernel_rfl) ?_
    exact ⟨rfl,⟨c243,M244,(ok.pk 4 [1,2,3] rfl (by decide)),E.keep [0,3,4,5,6],l158,h245,r162,r163⟩⟩
def qlb (u:World) (m0:Mem) (S:Segs) (r:(List (State))) (a:Act) (w:World):Prop :=
 ∃ m1 v0,m0.le m1 ∧ Ok u m1 S w ∧ a.defers = [] ∧ RVs Tryz.prog a w [.t 2 v0] ∧ (pL 2 qbU) m1 [v0] r
theorem qia (N:Nat) (vs_0:Value) (s_0:List (State)) (hs_0:(pL 2 qbU) m0 [vs_0] s_0) {r:(List (State))} (hF:qdT N s_0 = some r) (hG:Glob u) (ok:Ok u m0 S w) :
  Calls Tryz.prog 23 [vs_0].toArray w fun e w'=>∃ m1 v0,e = .returned v0 ∧ m0.le m1 ∧ Ok u m1 S w' ∧ (pL 2 qbU) m1 [v0] r:=by
 have le_m0:=Mem.le.refl m0
 unfold qdT at hF
 refine en (qlb u m0 S) r Tryz.func23 rfl rfl rfl (by rintro a w ⟨m1,v0,hle,ok,hd,hrv,h0⟩; exact qaM [.t 2 v0] hd rfl hrv ⟨m1,v0,rfl,hle,ok,h0⟩) fun fin a E=>sg<|aw E rfl fun a E=>sg ?_
 refine aw E rfl fun a E=>wp_seq<|sg<|av E rfl fun a E=>wpList_nil ?_
 refine qaa<|wp_block ?_
 obtain ⟨M6,ok,h7⟩:=qdI (e:=111) (k:=2) (R:=qbU) ok
 obtain ⟨o8,hL,hF⟩:=bnd hF
 refine qaO _ (fun (s:(List (State)) × Int) a w=>∃ m9 c10 M11,m0.le m9 ∧ Ok u m9 (M11 :: S) w ∧ Env 56 a [(0,vs_0),(3,c10),(4,vi s.2)] ∧ ORow 111 2 qbU m9 c10 s.1 M11 ∧ InR .i64 s.2) (fun (b:((List (State)))) e a w=>e = (.exit 0) ∧ ∃ m156 c157 M158,m0.le m156 ∧ Ok u m156 (M158 :: S) w ∧ Env 56 a [(3,c157)] ∧ ORow 111 2 qbU m156 c157 b M158) ?_ ?_ N _ a w hL ⟨m0,(Value.slice none 0 0),M6,Mem.le.refl _,ok,E.keep [0,3,4],h7,(ir 0)⟩
 rotate_left
 ·intro e a w _ hO
  obtain ⟨rfl,m150,c151,M152,hle,ok,E,h153⟩:=hO
  have le_m0:=le_m0.trans hle
  have hs_0:=(mL qaP).up hle hs_0
  refine qaS<|qaa<|sg<|mv E rfl fun a E=>aw E rfl fun a E=>?_
  refine wp_ret ?_
  obtain ⟨m154,hle,ok,hfz⟩:=(ok.frs 0 rfl).freeze
  have h155:=ORow.froz qaP h153 hle hfz (by decide)
  have le_m0:=le_m0.trans hle
  have hs_0:=(mL qaP).up hle hs_0
  exact fin hF ⟨m154,c151,le_m0,ok,E.d,⟨rv_t E rfl,trivial⟩,h155⟩
 rintro ⟨out_14,i_15⟩ a w r ⟨m16,c17,M18,hle,ok,E,h19,r20⟩ hF
 replace hF:qdO N s_0 out_14 i_15 = some r:=hF
 unfold qdO at hF
 have le_m0:=le_m0.trans hle
 have hs_0:=(mL qaP).up hle hs_0
 refine wp_seq<|sg<|mv E rfl fun a E=>mv E rfl fun a E=>lv E ok (qaE qbP hs_0 rfl) fun a E=>lw E (qaA rfl rfl) fun a E=>wpList_nil ?_
 refine qaa<|cf E rfl hF (fun hc21 hF=>?_) fun hc21 hF=>?_
 rotate_left
 ·refine wp_exit<|qaB ?_
  obtain rfl:=sj hF
  exact so (⟨rfl,⟨m16,c17,M18,le_m0,ok,E.keep [3],h19⟩⟩)
 refine wp_skip<|qaa<|wp_seq<|wp_block<|sg<|mv E rfl fun a E=>mv E rfl fun a E=>?_
 obtain ⟨x22,e23,hF⟩:=bnd hF
 obtain ⟨b24,o25,es26,hl27,rr28,at29,yy30⟩:=qaN qbP hs_0 e23 (P:=Tryz.prog) (X:=.tmp 14) (I:=.tmp 15) (kd:=.i64) (qah E rfl) (qah E rfl)
 obtain ⟨c32,rfl,l31,h33⟩:=rr28
 refine lv E ok (yy30 _ _) fun a E=>fv E qhG rfl fun a E=>lv E ok (qao qav rfl (qae.ro (At.sub 0 1 at29))) fun a E=>lw E (qaK (ps:=[(0,.tmp 18)]) (qs:=[(0,[vs x22.Name])]) (cs:=[vs x22.Name,(Value.slice none 0 0)]) qgl qpn rfl ⟨rfl,rfl,rfl,trivial⟩ rfl) fun a E=>qaC E ok qgl rfl rfl fun b34 a w E ok=>qai E ok 0 rfl rfl rfl qjs rfl rfl ⟨rfl,rfl,trivial⟩ rfl rfl fun w ok=>wn ?_
 refine wp_seq<|sg<|aw E rfl fun a E=>wp_block ?_
 obtain ⟨M41,ok,h42⟩:=qdI (e:=118) (k:=3) (R:=qdv) ok
 obtain ⟨o43,hL,hF⟩:=bnd hF
 refine qaO _ (fun (s:Int × State) a w=>∃ m44 c47 M48,m16.le m44 ∧ Ok u m44 (M48 :: [(b34,oc 111 [vs s.2.Name,c47])] :: M18 :: S) w ∧ Env 56 a [(0,vs_0),(3,c17),(4,vi i_15),(5,vp b34),(6,vi s.1)] ∧ InR .i64 s.1 ∧ s.2.Name.length ≤ LIMS ∧ ORow 118 3 qdv m44 c47 s.2.Rules M48) (fun (b:State) e a w=>e = (.exit 2) ∧ ∃ m145 c147 M148,m16.le m145 ∧ Ok u m145 (M148 :: [(b34,oc 111 [vs b.Name,c147])] :: M18 :: S) w ∧ Env 56 a [(0,vs_0),(3,c17),(4,vi i_15),(5,vp b34)] ∧ b.Name.length ≤ LIMS ∧ ORow 118 3 qdv m145 c147 b.Rules M148) ?_ ?_ N _ a w hL ⟨m16,(Value.slice none 0 0),M41,Mem.le.refl _,ok,E.keep [0,3,4,5,6],(ir 0),l31,h42⟩
 rotate_left
 ·intro e a w _ hO
  obtain ⟨rfl,m130,c132,M133,hle,ok,E,l131,h134⟩:=hO
  have le_m0:=le_m0.trans hle
  have hs_0:=(mL qaP).up hle hs_0
  have h19:=ORow.up qaP hle h19
  have h33:=(mL qdx).up hle h33
  have at29:=At.up hle at29
  refine qaS<|qaa<|qab<|mv E rfl fun a E=>lv E ok (qat (cs:=[vs o43.Name,c132]) qjl rfl rfl (qae.own 1 rfl rfl)) fun a E=>?_
  obtain ⟨m135,hle,ok,hfz⟩:=(ok.frs 0 rfl).freeze
  have h136:=ORow.froz qdx h134 hle hfz (by decide)
  have le_m0:=le_m0.trans hle
  have hs_0:=(mL qaP).up hle hs_0
  have h19:=ORow.up qaP hle h19
  have h33:=(mL qdx).up hle h33
  have at29:=At.up hle at29
  refine qaT (R:=qbU) (xo:=[.tmp 52]) (xs:=([o43]:List (State))) E ok qgy qgl rfl ⟨⟨_,rfl,rfl,⟨_,rfl,l131,h136⟩⟩,trivial⟩ rfl rfl rfl rfl fun c137 M138 a w E ok h139=>?_
  obtain ⟨l140,e141,hF⟩:=bnd hF
  refine ql1 (R:=qbU) E ok 2 qaP qgy Tryz.underlying73 rfl h19 (qaJ.ofRow h139 0 rfl ok) e141 (qiO qtm) ⟨_,qgl,rfl⟩ rfl rfl rfl rfl fun c142 M143 a w E ok h144=>av E rfl fun a E=>wpList_nil<|qaq<|qaa<|qab<|mv E rfl fun a E=>lw E (qaG rfl rfl (InR.inc r20 (qas hs_0) hc21)) fun a E=>?_
  refine av E rfl fun a E=>wpList_nil ?_
  obtain rfl:=sj hF
  exact qay ⟨m135,c142,M143,le_m0,(ok.pk 3 [2] rfl (by decide)),E.keep [0,3,4],h144,(InR.inc r20 (qas hs_0) hc21)⟩
 rintro ⟨k_50,x_51⟩ a w r ⟨m52,c55,M56,hle,ok,E,r53,l54,h57⟩ hF
 replace hF:qdP N s_0 i_15 k_50 x_51 = some r:=hF
 unfold qdP at hF
 have le_m16:=Mem.le.refl m16
 have le_m0:=le_m0.trans hle
 have le_m16:=le_m16.trans hle
 have hs_0:=(mL qaP).up hle hs_0
 have h19:=ORow.up qaP hle h19
 have h33:=(mL qdx).up hle h33
 have at29:=At.up hle at29
 refine wp_seq<|sg<|mv E rfl fun a E=>mv E rfl fun a E=>mv E rfl fun a E=>?_
 obtain ⟨x58,e59,hF⟩:=bnd hF
 obtain ⟨b60,o61,es62,hl63,rr64,at65,yy66⟩:=qaN qbP hs_0 e59 (P:=Tryz.prog) (X:=.tmp 21) (I:=.tmp 22) (kd:=.i64) (qah E rfl) (qah E rfl)
 obtain ⟨c68,rfl,l67,h69⟩:=rr64
 refine lv E ok (yy66 _ _) fun a E=>fv E qcO rfl fun a E=>lv E ok (qao qek rfl (qae.ro (At.sub 1 1 at65))) fun a E=>lv E ok (qaE qd9 h69 rfl) fun a E=>lw E (qaA rfl rfl) fun a E=>wn<|cf E rfl hF (fun hc70 hF=>?_) fun hc70 hF=>?_
 rotate_left
 ·refine wp_exit<|qaB ?_
  obtain rfl:=sj hF
  exact so (⟨rfl,⟨m52,c55,M56,le_m16,ok,E.keep [0,3,4,5],l54,h57⟩⟩)
 refine wp_skip<|qaa<|wp_seq<|wp_block<|sg<|mv E rfl fun a E=>mv E rfl fun a E=>?_
 obtain ⟨x71,e72,hF⟩:=bnd hF
 obtain ⟨b73,o74,es75,hl76,rr77,at78,yy79⟩:=qaN qbP hs_0 e72 (P:=Tryz.prog) (X:=.tmp 30) (I:=.tmp 31) (kd:=.i64) (qah E rfl) (qah E rfl)
 obtain ⟨c81,rfl,l80,h82⟩:=rr77
 refine lv E ok (yy79 _ _) fun a E=>fv E qcO rfl fun a E=>lv E ok (qao qek rfl (qae.ro (At.sub 1 1 at78))) fun a E=>mv E rfl fun a E=>?_
 obtain ⟨x83,e84,hF⟩:=bnd hF
 obtain ⟨b85,o86,es87,hl88,rr89,at90,yy91⟩:=qaN qd9 h82 e84 (P:=Tryz.prog) (X:=.tmp 34) (I:=.tmp 35) (kd:=.i64) (qah E rfl) (qah E rfl)
 obtain ⟨c93,rfl,l92,h94,l95⟩:=rr89
 refine lv E ok (yy91 _ _) fun a E=>lv E ok (qat (cs:=[vs x83.Kind,c93,vs x83.Next]) qdA rfl rfl (qae.ro at90)) fun a E=>qaC E ok qdu rfl rfl fun b96 a w E ok=>qai E ok 0 rfl rfl rfl qgD rfl rfl ⟨rfl,(qa0 h94),rfl,trivial⟩ rfl rfl fun w ok=>wn ?_
 obtain ⟨o97,hJ,hF⟩:=bnd hF
 refine qbx (Q':=fun e a w=>e = .normal ∧ ∃ m98 c100 M101,m52.le m98 ∧ Ok u m98 ([(b96,oc 114 [vs x83.Kind,c93,vs x83.Next])] :: M101 :: [(b34,oc 111 [vs o97.Name,c100])] :: M18 :: S) w ∧ Env 56 a [(0,vs_0),(3,c17),(4,vi i_15),(5,vp b34),(6,vi k_50)] ∧ o97.Name.length ≤ LIMS ∧ ORow 118 3 qdv m98 c100 o97.Rules M101) ?_ ?_
 rotate_left
 ·clear hJ
  intro e a w hO
  obtain ⟨rfl,m125,c127,M128,hle,ok,E,l126,h129⟩:=hO
  have le_m0:=le_m0.trans hle
  have le_m16:=le_m16.trans hle
  have hs_0:=(mL qaP).up hle hs_0
  have h19:=ORow.up qaP hle h19
  have h33:=(mL qdx).up hle h33
  have at29:=At.up hle at29
  have h69:=(mL qdx).up hle h69
  have at65:=At.up hle at65
  have h82:=(mL qdx).up hle h82
  have at78:=At.up hle at78
  have h94:=(mL qds).up hle h94
  have at90:=At.up hle at90
  refine qaq<|qaa<|qab<|mv E rfl fun a E=>lw E (qaG rfl rfl (InR.inc r53 (qas h69) hc70)) fun a E=>av E rfl fun a E=>wpList_nil ?_
  obtain rfl:=sj hF
  exact qay ⟨m125,c127,M128,le_m16,(ok.pk 4 [1,2,3] rfl (by decide)),E.keep [0,3,4,5,6],(InR.inc r53 (qas h69) hc70),l126,h129⟩
 replace hF:=hJ
 clear hJ
 have le_m52:=Mem.le.refl m52
 obtain ⟨r103,e104,hF⟩:=bnd hF
 obtain ⟨l111,e112,hF⟩:=bnd hF
 obtain rfl:=sj hF
 refine qcp [1,3,5,8] (Cls u m52 ([(b96,oc 114 [vs x83.Kind,c93,vs x83.Next])] :: [(b34,oc 111 [vs x_51.Name,c55])] :: M18 :: [])) (Cls u m52 ([(b96,oc 114 [vs x83.Kind,c93,vs x83.Next])] :: M18 :: [])) (by kernel_rfl) ?_
 intro w hw
 replace ok:=qcD ok hw
 clear hw
 have h94_o:=h94
 refine qam (cl1 (cq le_m52 ok [0,2,3] rfl) (cq le_m52 ok [0,3] rfl)) fun hT=>kt 0 E rfl hT (qaf qgp rfl) fun a E=>qbD 1 E rfl (by kernel_rfl) nP hT (qao qhD rfl (qae.cown 1 rfl rfl)) rfl rfl fun a E=>kt 2 E rfl hT (qaf qjI rfl) fun a E=>qbD 3 E rfl (by kernel_rfl) nP hT (qao qav rfl (qae.cown 0 rfl rfl)) rfl rfl fun a E=>kt 4 E rfl hT (qaf qcw rfl) fun a E=>qbD 5 E rfl (by kernel_rfl) nP hT (qao qdW rfl (qae.cown 0 rfl rfl)) rfl rfl fun a E=>kt 7 E rfl hT (qaf qgf rfl) fun a E=>?_
 refine qbD 8 E rfl (by kernel_rfl) nP hT (qao qav rfl (qae.cown 0 rfl rfl)) rfl rfl fun a E=>qau [6] (by kernel_rfl) rfl (qax ?_)
 ·refine wo rfl<|qaz E quw rfl (qj5 N _ x83.Items h94 e104 hG ok) rfl rfl ?_
  rintro _ w ⟨m116,c117,rfl,hle,ok,h118⟩
  have le_m0:=le_m0.trans hle
  have le_m16:=le_m16.trans hle
  have le_m52:=le_m52.trans hle
  have hs_0:=(mL qaP).up hle hs_0
  have h19:=ORow.up qaP hle h19
  have h33:=(mL qdx).up hle h33
  have at29:=At.up hle at29
  have h57:=ORow.up qdx hle h57
  have h69:=(mL qdx).up hle h69
  have at65:=At.up hle at65
  have h82:=(mL qdx).up hle h82
  have at78:=At.up hle at78
  have h94:=(mL qds).up hle h94
  have at90:=At.up hle at90
  refine ⟨_,rfl,fun a E=>?_⟩
  refine wn<|qam (cl1 (cq le_m52 ok [0,2,3] rfl) (cq le_m52 ok [0,3] rfl)) fun hT=>kt 9 E rfl hT (qaK (ps:=[(0,.tmp 41),(1,.tmp 44),(2,.tmp 46)]) (qs:=[(0,[vs x83.Kind]),(1,[c117]),(2,[vs x83.Next])]) (cs:=[vs x83.Kind,c117,vs x83.Next]) qg0 qph rfl ⟨rfl,rfl,rfl,⟨rfl,(qbi h118),rfl,⟨rfl,rfl,rfl,trivial⟩⟩⟩ rfl) fun a E=>qau [10] (by kernel_rfl) rfl (qax ?_)
  ·refine wo rfl<|qaT (R:=qdv) (xo:=[.tmp 47]) (xs:=([(Rule.mk x83.Kind r103 x83.Next)]:List (Rule))) E ok qfU qg0 rfl ⟨⟨_,rfl,rfl,⟨_,rfl,l92,h118,l95⟩⟩,trivial⟩ rfl rfl rfl rfl fun c119 M120 a w E ok h121=>wn<|qam (cl1 (cq le_m52 ok [1,3,4] rfl) (cq le_m52 ok [1,4] rfl)) fun hT=>qau [11] (by kernel_rfl) rfl (qax ?_)
   ·refine wo rfl<|ql1 (R:=qdv) E ok 2 qdx qfU Tryz.underlying109 rfl h57 (qaJ.ofRow h121 0 rfl ok) e112 (qiO qtk) ⟨_,qg0,rfl⟩ rfl rfl rfl rfl fun c122 M123 a w E ok h124=>wn<|qam (cl1 (cq le_m52 ok [1,3,4] rfl) (cq le_m52 ok [1,4] rfl)) fun hT=>kt 12 E rfl hT (qaf qgp rfl) fun a E=>qau [13] (by kernel_rfl) rfl (qax ?_)
    ·refine wo rfl<|qai E ok 3 rfl rfl rfl qsu (ORow.cells h124) rfl ⟨(ORow.one h124),trivial⟩ rfl rfl fun w ok=>wn<|qam (cl2 (by kernel_rfl) (cq le_m52 ok [1,4] rfl)) fun hT=>qbd (by kernel_rfl) ?_
     exact ⟨rfl,⟨m116,c122,M123,le_m52,(ok.pk 5 [1,2,3,4] rfl (by decide)),E.keep [0,3,4,5,6],l54,h124⟩⟩
def qk9 (u:World) (m0:Mem) (S:Segs) (r:(List (Call))) (a:Act) (w:World):Prop :=
 ∃ m1 v0,m0.le m1 ∧ Ok u m1 S w ∧ a.defers = [] ∧ RVs Tryz.prog a w [.t 2 v0] ∧ (pL 3 qaL) m1 [v0] r
theorem qk6 (N:Nat) (vl_0:Value) (l_0:List (Call)) (hl_0:(pL 3 qaL) m0 [vl_0] l_0) {r:(List (Call))} (hF:qe2 N l_0 = some r) (hG:Glob u) (ok:Ok u m0 S w) :
  Calls Tryz.prog 13 [vl_0].toArray w fun e w'=>∃ m1 v0,e = .returned v0 ∧ m0.le m1 ∧ Ok u m1 S w' ∧ (pL 3 qaL) m1 [v0] r:=by
 have le_m0:=Mem.le.refl m0
 unfold qe2 at hF
 refine en (qk9 u m0 S) r Tryz.func13 rfl rfl rfl (by rintro a w ⟨m1,v0,hle,ok,hd,hrv,h0⟩; exact qaM [.t 2 v0] hd rfl hrv ⟨m1,v0,rfl,hle,ok,h0⟩) fun fin a E=>sg<|aw E rfl fun a E=>sg ?_
 refine aw E rfl fun a E=>wp_seq<|sg<|av E rfl fun a E=>wpList_nil ?_
 refine qaa<|wp_block ?_
 obtain ⟨M6,ok,h7⟩:=qdI (e:=83) (k:=3) (R:=qaL) ok
 obtain ⟨o8,hL,hF⟩:=bnd hF
 refine qaO _ (fun (s:(List (Call)) × Int) a w=>∃ c9 M10,Ok u m0 (M10 :: S) w ∧ Env 19 a [(0,vl_0),(3,c9),(4,vi s.2)] ∧ ORow 83 3 qaL m0 c9 s.1 M10 ∧ InR .i64 s.2) (fun (b:((List (Call)))) e a w=>e = (.exit 0) ∧ ∃ c45 M46,Ok u m0 (M46 :: S) w ∧ Env 19 a [(3,c45)] ∧ ORow 83 3 qaL m0 c45 b M46) ?_ ?_ N _ a w hL ⟨(Value.slice none 0 0),M6,ok,E.keep [0,3,4],h7,(ir 0)⟩
 rotate_left
 ·intro e a w _ hO
  obtain ⟨rfl,c40,M41,ok,E,h42⟩:=hO
  refine qaS<|qaa<|sg<|mv E rfl fun a E=>aw E rfl fun a E=>?_
  refine wp_ret ?_
  obtain ⟨m43,hle,ok,hfz⟩:=(ok.frs 0 rfl).freeze
  have h44:=ORow.froz qaR h42 hle hfz (by decide)
  have le_m0:=le_m0.trans hle
  have hl_0:=(mL qaR).up hle hl_0
  exact fin hF ⟨m43,c40,le_m0,ok,E.d,⟨rv_t E rfl,trivial⟩,h44⟩
 rintro ⟨out_13,i_14⟩ a w r ⟨c15,M16,ok,E,h17,r18⟩ hF
 replace hF:qdR N l_0 out_13 i_14 = some r:=hF
 unfold qdR at hF
 refine wp_seq<|sg<|mv E rfl fun a E=>mv E rfl fun a E=>lv E ok (qaE qaQ hl_0 rfl) fun a E=>lw E (qaA rfl rfl) fun a E=>wpList_nil ?_
 refine qaa<|cf E rfl hF (fun hc19 hF=>?_) fun hc19 hF=>?_
 rotate_left
 ·refine wp_exit<|qaB ?_
  obtain rfl:=sj hF
  exact so (⟨rfl,⟨c15,M16,ok,E.keep [3],h17⟩⟩)
 refine wp_skip<|qaa<|wp_seq<|wp_block<|qab<|mv E rfl fun a E=>mv E rfl fun a E=>mv E rfl fun a E=>?_
 obtain ⟨x20,e21,hF⟩:=bnd hF
 obtain ⟨b22,o23,es24,hl25,rr26,at27,yy28⟩:=qaN qaQ hl_0 e21 (P:=Tryz.prog) (X:=.tmp 12) (I:=.tmp 13) (kd:=.i64) (qah E rfl) (qah E rfl)
 obtain ⟨rfl,l29,r30,r31⟩:=rr26
 refine lv E ok (yy28 _ _) fun a E=>lv E ok (qat (cs:=[vs x20.Name,vi x20.ID,vi x20.Source]) ql2 rfl rfl (qae.ro at27)) fun a E=>qaT (R:=qaL) (xo:=[.tmp 15]) (xs:=([x20]:List (Call))) E ok qf6 qjp rfl ⟨⟨_,rfl,rfl,⟨rfl,l29,r30,r31⟩⟩,trivial⟩ rfl rfl rfl rfl fun c32 M33 a w E ok h34=>?_
 obtain ⟨l35,e36,hF⟩:=bnd hF
 refine qa3 (R:=qaL) E ok 1 qaR qf6 Tryz.underlying34 rfl h17 (qaJ.ofRow h34 0 rfl ok) e36 ⟨_,qjp,rfl⟩ rfl rfl rfl rfl fun c37 M38 a w E ok h39=>av E rfl fun a E=>wpList_nil<|qaq<|qaa<|qab<|mv E rfl fun a E=>lw E (qaG rfl rfl (InR.inc r18 (qas hl_0) hc19)) fun a E=>?_
 refine av E rfl fun a E=>wpList_nil ?_
 obtain rfl:=sj hF
 exact qay ⟨c37,M38,(ok.pk 2 [1] rfl (by decide)),E.keep [0,3,4],h39,(InR.inc r18 (qas hl_0) hc19)⟩
def qj6 (u:World) (m0:Mem) (S:Segs) (r:(List (File))) (a:Act) (w:World):Prop :=
 ∃ m1 v0,m0.le m1 ∧ Ok u m1 S w ∧ a.defers = [] ∧ RVs Tryz.prog a w [.t 2 v0] ∧ (pL 2 qeM) m1 [v0] r
theorem qj2 (N:Nat) (vl_0:Value) (l_0:List (File)) (hl_0:(pL 2 qeM) m0 [vl_0] l_0) {r:(List (File))} (hF:qea N l_0 = some r) (hG:Glob u) (ok:Ok u m0 S w) :
  Calls Tryz.prog 33 [vl_0].toArray w fun e w'=>∃ m1 v0,e = .returned v0 ∧ m0.le m1 ∧ Ok u m1 S w' ∧ (pL 2 qeM) m1 [v0] r:=by
 have le_m0:=Mem.le.refl m0
 unfold qea at hF
 refine en (qj6 u m0 S) r Tryz.func33 rfl rfl rfl (by rintro a w ⟨m1,v0,hle,ok,hd,hrv,h0⟩; exact qaM [.t 2 v0] hd rfl hrv ⟨m1,v0,rfl,hle,ok,h0⟩) fun fin a E=>sg<|aw E rfl fun a E=>sg ?_
 refine aw E rfl fun a E=>wp_seq<|sg<|av E rfl fun a E=>wpList_nil ?_
 refine qaa<|wp_block ?_
 obtain ⟨M6,ok,h7⟩:=qdI (e:=75) (k:=2) (R:=qeM) ok
 obtain ⟨o8,hL,hF⟩:=bnd hF
 refine qaO _ (fun (s:(List (File)) × Int) a w=>∃ c9 M10,Ok u m0 (M10 :: S) w ∧ Env 19 a [(0,vl_0),(3,c9),(4,vi s.2)] ∧ ORow 75 2 qeM m0 c9 s.1 M10 ∧ InR .i64 s.2) (fun (b:((List (File)))) e a w=>e = (.exit 0) ∧ ∃ c44 M45,Ok u m0 (M45 :: S) w ∧ Env 19 a [(3,c44)] ∧ ORow 75 2 qeM m0 c44 b M45) ?_ ?_ N _ a w hL ⟨(Value.slice none 0 0),M6,ok,E.keep [0,3,4],h7,(ir 0)⟩
 rotate_left
 ·intro e a w _ hO
  obtain ⟨rfl,c39,M40,ok,E,h41⟩:=hO
  refine qaS<|qaa<|sg<|mv E rfl fun a E=>aw E rfl fun a E=>?_
  refine wp_ret ?_
  obtain ⟨m42,hle,ok,hfz⟩:=(ok.frs 0 rfl).freeze
  have h43:=ORow.froz qcK h41 hle hfz (by decide)
  have le_m0:=le_m0.trans hle
  have hl_0:=(mL qcK).up hle hl_0
  exact fin hF ⟨m42,c39,le_m0,ok,E.d,⟨rv_t E rfl,trivial⟩,h43⟩
 rintro ⟨out_13,i_14⟩ a w r ⟨c15,M16,ok,E,h17,r18⟩ hF
 replace hF:qdy N l_0 out_13 i_14 = some r:=hF
 unfold qdy at hF
 refine wp_seq<|sg<|mv E rfl fun a E=>mv E rfl fun a E=>lv E ok (qaE qgQ hl_0 rfl) fun a E=>lw E (qaA rfl rfl) fun a E=>wpList_nil ?_
 refine qaa<|cf E rfl hF (fun hc19 hF=>?_) fun hc19 hF=>?_
 rotate_left
 ·refine wp_exit<|qaB ?_
  obtain rfl:=sj hF
  exact so (⟨rfl,⟨c15,M16,ok,E.keep [3],h17⟩⟩)
 refine wp_skip<|qaa<|wp_seq<|wp_block<|qab<|mv E rfl fun a E=>mv E rfl fun a E=>mv E rfl fun a E=>?_
 obtain ⟨x20,e21,hF⟩:=bnd hF
 obtain ⟨b22,o23,es24,hl25,rr26,at27,yy28⟩:=qaN qgQ hl_0 e21 (P:=Tryz.prog) (X:=.tmp 12) (I:=.tmp 13) (kd:=.i64) (qah E rfl) (qah E rfl)
 obtain ⟨rfl,l29,l30⟩:=rr26
 refine lv E ok (yy28 _ _) fun a E=>lv E ok (qat (cs:=[vs x20.Name,vs x20.Text]) qsW rfl rfl (qae.ro at27)) fun a E=>qaT (R:=qeM) (xo:=[.tmp 15]) (xs:=([x20]:List (File))) E ok qhL qhH rfl ⟨⟨_,rfl,rfl,⟨rfl,l29,l30⟩⟩,trivial⟩ rfl rfl rfl rfl fun c31 M32 a w E ok h33=>?_
 obtain ⟨l34,e35,hF⟩:=bnd hF
 refine qa3 (R:=qeM) E ok 1 qcK qhL Tryz.underlying84 rfl h17 (qaJ.ofRow h33 0 rfl ok) e35 ⟨_,qhH,rfl⟩ rfl rfl rfl rfl fun c36 M37 a w E ok h38=>av E rfl fun a E=>wpList_nil<|qaq<|qaa<|qab<|mv E rfl fun a E=>lw E (qaG rfl rfl (InR.inc r18 (qas hl_0) hc19)) fun a E=>?_
 refine av E rfl fun a E=>wpList_nil ?_
 obtain rfl:=sj hF
 exact qay ⟨c36,M37,(ok.pk 2 [1] rfl (by decide)),E.keep [0,3,4],h38,(InR.inc r18 (qas hl_0) hc19)⟩
end Go.Proofs.YtllfckekodcdaaaGreatDoor
namespace Go.Proofs.YtllfckekodcdaaaGreatDoor
open Go.X
theorem qsU:aggB Tryz.prog 105 5 = true:=by kernel_rfl
theorem qhv:qaI Tryz.prog 105 2 2 = true:=by kernel_rfl
theorem qit:qaI Tryz.prog 105 3 3 = true:=by kernel_rfl
theorem qsO:qaI Tryz.prog 29 2 2 = true:=by kernel_rfl
theorem qui:goB Tryz.prog 54 = true:=by kernel_rfl
theorem qt0:goB Tryz.prog 55 = true:=by kernel_rfl
theorem qtZ:goB Tryz.prog 57 = true:=by kernel_rfl
theorem qrM:goB Tryz.prog 58 = true:=by kernel_rfl
theorem qrN:goB Tryz.prog 59 = true:=by kernel_rfl
set_option maxRecDepth 100000 in
theorem qmv:∃ i,Tryz.prog.info? 105 = some i ∧ i.size = 5:=⟨_,rfl,by kernel_rfl⟩
theorem qix:oneB Tryz.prog 34 = true:=by kernel_rfl
theorem qlS:qcY Tryz.prog 105 = some [(0,1),(1,1),(2,1),(3,1),(4,1)]:=by kernel_rfl
theorem qiq:qby Tryz.prog 105 = some [(Value.int .i64 0),(Value.int .i64 0),(Value.string (bs ([]))),(Value.string (bs ([]))),(Value.string (bs ([])))]:=by kernel_rfl
def qed (u:World) (m0:Mem) (S:Segs) (pb0:Nat) (x0:Token) (r:Bool) (a:Act) (w:World):Prop :=
 Ok u m0 ([(pb0,Obj.cells [(Value.string (bs x0.Kind)),(Value.string (bs x0.Text)),(Value.int .i64 x0.From)].toArray 29 (0,0))] :: S) w ∧ a.defers = [] ∧ RVs Tryz.prog a w [.t 3 (.bool r)]
set_option maxHeartbeats 4000000 in
set_option maxRecDepth 100000 in
theorem qib {u:World} {m0:Mem} {S:Segs} {w:World} (N:Nat) (vc_0:List Value) (c_0:Call) (hc_0:qaL m0 vc_0 c_0) {pb0:Nat} (x0:Token) (l4:x0.Kind.length ≤ LIMS) (l5:x0.Text.length ≤ LIMS) (r6:InR .i64 x0.From) {r:Bool} (hF:qdF N c_0 x0 = some r) (hG:Glob u) (ok:Ok u m0 ([(pb0,Obj.cells [(Value.string (bs x0.Kind)),(Value.string (bs x0.Text)),(Value.int .i64 x0.From)].toArray 29 (0,0))] :: S) w) :
  Calls Tryz.prog 55 [.agg vc_0.toArray,Value.pointer (some ⟨pb0,0,none⟩)].toArray w fun e w'=>(e = .returned (.bool r) ∧ Ok u m0 ([(pb0,Obj.cells [(Value.string (bs x0.Kind)),(Value.string (bs x0.Text)),(Value.int .i64 x0.From)].toArray 29 (0,0))] :: S) w'):=by
 obtain ⟨rfl,l1,r2,r3⟩:=hc_0
 have hb0:=ok.base
 have le_m0:=Mem.le.refl m0
 unfold qdF at hF
 have fin:∀ a w,qed u m0 S pb0 x0 r a w → bodyPost Tryz.prog Tryz.f55 (fun e w'=>(e = .returned (.bool r) ∧ Ok u m0 ([(pb0,Obj.cells [(Value.string (bs x0.Kind)),(Value.string (bs x0.Text)),(Value.int .i64 x0.From)].toArray 29 (0,0))] :: S) w')) .ret a w:=by
  intro a w h
  obtain ⟨ok,hd,hrv⟩:=h
  exact qaM [.t 3 (.bool r)] hd rfl hrv ⟨rfl,ok⟩
 refine enter Tryz.func55 rfl rfl rfl fun a E=>?_
 refine wp_seq ?_
 refine qab ?_
 refine qdk E ok rfl rfl rfl fun b7 a w E ok=>?_
 refine qac E ok (qal rfl) rfl rfl fun a E=>?_
 refine wpList_nil ?_
 refine qaa ?_
 refine wp_seq ?_
 refine qab ?_
 refine qac E ok (qaf qbY rfl) rfl rfl fun a E=>?_
 refine qac E ok (qao qav rfl (qae.own 1 rfl rfl)) rfl rfl fun a E=>?_
 refine qac E ok (qbl rfl rfl) rfl rfl fun a E=>?_
 refine qac E ok (qad rfl) rfl rfl fun a E=>?_
 refine qap (x0.Kind == ([110,97,109,101])) (fun hc8=>?_) (fun hc8=>?_)
 ·replace hF:=qak hc8 hF
  replace E:=E.upd 7 hc8 rfl
  refine qac E ok (qaf qdL rfl) rfl rfl fun a E=>?_
  refine qac E ok (qao qav rfl (qae.own 1 rfl rfl)) rfl rfl fun a E=>?_
  refine qac E ok (qaf qji rfl) rfl rfl fun a E=>?_
  refine qac E ok (qao qav rfl (qae.own 0 rfl rfl)) rfl rfl fun a E=>?_
  refine qac E ok (qbl rfl rfl) rfl rfl fun a E=>?_
  refine qac E ok (qbR rfl rfl) rfl rfl fun a E=>?_
  refine qac E ok (qal rfl) rfl rfl fun a E=>?_
  refine wpList_nil ?_
  refine qaa ?_
  refine wp_ret ?_
  have hret:qed u m0 S pb0 x0 (x0.Text == c_0.Name) a w:=⟨ok.drop,E.d,⟨rv_t E rfl,trivial⟩⟩
  obtain rfl:=Option.some.inj hF
  exact fin _ _ hret
 replace hF:=qaj hc8 hF
 replace E:=E.upd 7 hc8 rfl
 refine qbn E rfl rfl fun a E=>?_
 refine qbn E rfl rfl fun a E=>?_
 refine qbn E rfl rfl fun a E=>?_
 refine qbn E rfl rfl fun a E=>?_
 refine qbn E rfl rfl fun a E=>?_
 refine qac E ok (qbH rfl rfl) rfl rfl fun a E=>?_
 refine qac E ok (qal rfl) rfl rfl fun a E=>?_
 refine wpList_nil ?_
 refine qaa ?_
 refine wp_ret ?_
 have hret:qed u m0 S pb0 x0 false a w:=⟨ok.drop,E.d,⟨rv_t E rfl,trivial⟩⟩
 obtain rfl:=Option.some.inj hF
 exact fin _ _ hret
def qbz (u:World) (m0:Mem) (S:Segs) (pb0:Nat) (x0:Token) (r:Int) (a:Act) (w:World):Prop :=
 Ok u m0 ([(pb0,Obj.cells [(Value.string (bs x0.Kind)),(Value.string (bs x0.Text)),(Value.int .i64 x0.From)].toArray 29 (0,0))] :: S) w ∧ a.defers = [] ∧ RVs Tryz.prog a w [.t 4 (.int .i64 r)] ∧ InR .i64 r
set_option maxHeartbeats 4000000 in
set_option maxRecDepth 100000 in
theorem qem {u:World} {m0:Mem} {S:Segs} {w:World} (N:Nat) (vs_0:Value) (s_0:List (Call)) (hs_0:(pL 3 qaL) m0 [vs_0] s_0) {pb0:Nat} (x0:Token) (l1:x0.Kind.length ≤ LIMS) (l2:x0.Text.length ≤ LIMS) (r3:InR .i64 x0.From) {r:Int} (hF:qbr N s_0 x0 = some r) (hG:Glob u) (ok:Ok u m0 ([(pb0,Obj.cells [(Value.string (bs x0.Kind)),(Value.string (bs x0.Text)),(Value.int .i64 x0.From)].toArray 29 (0,0))] :: S) w) :
  Calls Tryz.prog 54 [vs_0,Value.func (.func 55) #[] #[.pointer (some ⟨pb0,0,none⟩)]].toArray w fun e w'=>(e = .returned (.int .i64 r) ∧ Ok u m0 ([(pb0,Obj.cells [(Value.string (bs x0.Kind)),(Value.string (bs x0.Text)),(Value.int .i64 x0.From)].toArray 29 (0,0))] :: S) w') ∧ InR .i64 r:=by
 have hb0:=ok.base
 have le_m0:=Mem.le.refl m0
 unfold qbr at hF
 have fin:∀ a w,qbz u m0 S pb0 x0 r a w → bodyPost Tryz.prog Tryz.f54 (fun e w'=>(e = .returned (.int .i64 r) ∧ Ok u m0 ([(pb0,Obj.cells [(Value.string (bs x0.Kind)),(Value.string (bs x0.Text)),(Value.int .i64 x0.From)].toArray 29 (0,0))] :: S) w') ∧ InR .i64 r) .ret a w:=by
  intro a w h
  obtain ⟨ok,hd,hrv,h0⟩:=h
  exact qaM [.t 4 (.int .i64 r)] hd rfl hrv ⟨⟨rfl,ok⟩,h0⟩
 refine enter Tryz.func54 rfl rfl rfl fun a E=>?_
 refine wp_seq ?_
 refine qab ?_
 refine qac E ok (qal rfl) rfl rfl fun a E=>?_
 refine wpList_nil ?_
 refine qaa ?_
 refine wp_seq ?_
 refine wp_seq ?_
 refine qab ?_
 refine qac E ok (qad rfl) rfl rfl fun a E=>?_
 refine qac E ok (qaE qf6 hs_0 rfl) rfl rfl fun a E=>?_
 refine qac E ok (qad rfl) rfl rfl fun a E=>?_
 refine wpList_nil ?_
 refine qaa ?_
 refine wp_block ?_
 obtain ⟨o5,hL,hF⟩:=bnd hF
 refine qaO _ (fun (s:Int) a w=>Ok u m0 ([(pb0,Obj.cells [(Value.string (bs x0.Kind)),(Value.string (bs x0.Text)),(Value.int .i64 x0.From)].toArray 29 (0,0))] :: S) w ∧ Env 19 a [(0,vs_0),(1,(Value.func (.func 55) #[] #[.pointer (some ⟨pb0,0,none⟩)])),(7,(Value.int .i64 (s_0.length:Int))),(8,(Value.int .i64 s))] ∧ InR .i64 s) (fun (b:(Unit ⊕ Int)) e a w=>(Sum.elim (fun b25=>e = (.exit 0) ∧ Ok u m0 ([(pb0,Obj.cells [(Value.string (bs x0.Kind)),(Value.string (bs x0.Text)),(Value.int .i64 x0.From)].toArray 29 (0,0))] :: S) w ∧ Env 19 a []) (fun b26=>e = .ret ∧ qbz u m0 S pb0 x0 b26 a w)) b) ?_ ?_ N _ a w hL ⟨ok,E.keep [0,1,7,8],(show InR .i64 (0) by decide)⟩
 rotate_left
 ·intro e a w _ hO
  rcases o5 with o5 | o5
  rotate_left
  ·replace hF:=qbf hF
   obtain ⟨rfl,hret⟩:=hO
   refine qan ?_
   refine qag ?_
   obtain rfl:=Option.some.inj hF
   exact fin _ _ hret
  replace hF:=qbe hF
  obtain ⟨rfl,ok,E⟩:=hO
  refine qaS ?_
  refine qaa ?_
  refine wp_seq ?_
  refine qab ?_
  refine qac E ok (qal rfl) rfl rfl fun a E=>?_
  refine wpList_nil ?_
  refine qaa ?_
  refine wp_ret ?_
  have hret:qbz u m0 S pb0 x0 (-1) a w:=⟨ok,E.d,⟨rv_t E rfl,trivial⟩,(show InR .i64 (-1) by decide)⟩
  obtain rfl:=Option.some.inj hF
  exact fin _ _ hret
 rintro x_7 a w r ⟨ok,E,r8⟩ hF
 replace hF:qa9 N s_0 x0 x_7 = some r:=hF
 unfold qa9 at hF
 refine wp_seq ?_
 refine qab ?_
 refine qac E ok (qaA rfl rfl) rfl rfl fun a E=>?_
 refine wpList_nil ?_
 refine qaa ?_
 refine wp_seq ?_
 refine c_if E rfl (fun hc9=>?_) (fun hc9=>?_)
 rotate_left
 ·replace hF:=qaj hc9 hF
  refine wp_exit ?_
  refine qaB ?_
  obtain rfl:=Option.some.inj hF
  exact qcL (by nofun) (sl ⟨rfl,⟨ok,E.keep []⟩⟩)
 replace hF:=qak hc9 hF
 refine wp_skip ?_
 refine qaa ?_
 refine wp_seq ?_
 refine wp_block ?_
 refine wp_seq ?_
 refine qab ?_
 refine qac E ok (qad rfl) rfl rfl fun a E=>?_
 refine qac E ok (qal rfl) rfl rfl fun a E=>?_
 refine wpList_nil ?_
 refine qaa ?_
 refine wp_seq ?_
 refine qab ?_
 refine qac E ok (qad rfl) rfl rfl fun a E=>?_
 refine qac E ok (qad rfl) rfl rfl fun a E=>?_
 refine qac E ok (qad rfl) rfl rfl fun a E=>?_
 obtain ⟨x10,e11,hF⟩:=bnd hF
 obtain ⟨b12,o13,es14,hl15,rr16,at17,yy18⟩:=qaN qf6 hs_0 e11 (P:=Tryz.prog) (X:=.tmp 12) (I:=.tmp 13) (kd:=.i64) (qah E rfl) (qah E rfl)
 obtain ⟨rfl,l19,r20,r21⟩:=rr16
 refine qac E ok (yy18 _ _) rfl rfl fun a E=>?_
 refine qac E ok (qat (cs:=[(Value.string (bs x10.Name)),(Value.int .i64 x10.ID),(Value.int .i64 x10.Source)]) qpP rfl rfl (qae.ro at17)) rfl rfl fun a E=>?_
 obtain ⟨r22,e23,hF⟩:=bnd hF
 refine qoU E rfl qt0 rfl (qib N _ x10 ⟨rfl,l19,r20,r21⟩ x0 l1 l2 r3 e23 hG ok) rfl rfl ?_
 rintro _ w ⟨rfl,ok⟩
 refine ⟨_,rfl,fun a E=>?_⟩
 refine wpList_nil ?_
 refine qaa ?_
 refine c_if E rfl (fun hc24=>?_) (fun hc24=>?_)
 rotate_left
 ·replace hF:=qaj hc24 hF
  refine wp_skip ?_
  refine qaq ?_
  refine qaa ?_
  refine qab ?_
  refine qac E ok (qaG rfl rfl (InR.inc r8 (qas hs_0) hc9)) rfl rfl fun a E=>?_
  refine qac E ok (qad rfl) rfl rfl fun a E=>?_
  refine wpList_nil ?_
  obtain rfl:=Option.some.inj hF
  exact qay ⟨ok,E.keep [0,1,7,8],(InR.inc r8 (qas hs_0) hc9)⟩
 replace hF:=qak hc24 hF
 refine wp_seq ?_
 refine qab ?_
 refine qac E ok (qad rfl) rfl rfl fun a E=>?_
 refine qac E ok (qal rfl) rfl rfl fun a E=>?_
 refine wpList_nil ?_
 refine qaa ?_
 refine wp_ret ?_
 refine qan ?_
 refine qag ?_
 have hret:qbz u m0 S pb0 x0 x_7 a w:=⟨ok,E.d,⟨rv_t E rfl,trivial⟩,r8⟩
 obtain rfl:=Option.some.inj hF
 exact qcL (by nofun) (sr ⟨rfl,hret⟩)
theorem qjo {u:World} {m0:Mem} {S:Segs} {w:World} {vl vc:Value} (hl:vl.cells.toList = [vl]) (hc:vc.cells.toList = [vc]) (ok:Ok u m0 S w) :
  Calls Tryz.prog 36 [vl,vc].toArray w fun e w'=>∃ b1 b2,e = .returned (.func (.func 53) #[] #[.pointer (some ⟨b1,0,none⟩),.pointer (some ⟨b2,0,none⟩)]) ∧ Ok u m0 ([(b2,Obj.cells [vc].toArray 34 (0,0))] :: [(b1,Obj.cells [vl].toArray 26 (0,0))] :: S) w':=by
 refine enter Tryz.func36 rfl rfl rfl fun a E=>?_
 refine wp_seq ?_
 refine qab ?_
 refine qpT (cs:=[vl]) E ok rfl hl rfl rfl fun b1 a w E ok=>?_
 refine qpT (cs:=[vc]) E ok rfl hc rfl rfl fun b2 a w E ok=>?_
 refine qac E ok (qal rfl) rfl rfl fun a E=>?_
 refine wpList_nil ?_
 refine qaa ?_
 refine wp_seq ?_
 refine qab ?_
 refine qac E ok (qjH (caps:=[.tmp 2,.tmp 3]) rfl) rfl rfl fun a E=>?_
 refine qac E ok (qal rfl) rfl rfl fun a E=>?_
 refine wpList_nil ?_
 refine qaa ?_
 refine wp_ret ?_
 exact qaM [.t 4 (.func (.func 53) #[] #[.pointer (some ⟨b1,0,none⟩),.pointer (some ⟨b2,0,none⟩)])] E.d rfl ⟨rv_t E rfl,trivial⟩ ⟨b1,b2,rfl,ok⟩
def KpO (u:World) (m:Mem) (T:Segs) (A B:World):Prop:=Ok u m T A → Ok u m T B
def FOk (nc B:Nat) (x:Found2):Prop:=0 ≤ x.call ∧ x.call < nc ∧ 0 ≤ x.offset ∧ x.offset ≤ B ∧ x.id.length ≤ B + 1000000 ∧ x.source.length ≤ B + 1000000 ∧ x.comment.length ≤ B + 1000000
abbrev Fo (nc B:Nat):={ x:Found2 // FOk nc B x }
def fcs (x:Found2):List Value:=[(Value.int .i64 x.call),(Value.int .i64 x.offset),(Value.string (bs x.id)),(Value.string (bs x.source)),(Value.string (bs x.comment))]
set_option maxRecDepth 100000 in
set_option maxHeartbeats 4000000 in
theorem qp4 {u:World} {m0:Mem} {N nc B b1 b2:Nat} {vl_0 vcalls_1:Value} {l_0:List Token} {calls_1:List Call} {rs:List Found2} (hl_0:(pL 3 qbM) m0 [vl_0] l_0) (hcalls_1:(pL 3 qaL) m0 [vcalls_1] calls_1)
  (hF0:qd4 N l_0 calls_1 = some rs) (hB:∀ x ∈ rs,FOk nc B x) (hG:Glob u) {w:World} (ok:Ok u m0 [[(b2,Obj.cells [vcalls_1].toArray 34 (0,0))],[(b1,Obj.cells [vl_0].toArray 26 (0,0))]] w) :
  SeqStopsK Fence.wide 2 Tryz.prog 53 #[.pointer (some ⟨b1,0,none⟩),.pointer (some ⟨b2,0,none⟩)] (fun x:Fo nc B=>#[Value.agg (fcs x.1).toArray]) (KpO u m0 [[(b2,Obj.cells [vcalls_1].toArray 34 (0,0))],[(b1,Obj.cells [vl_0].toArray 26 (0,0))]]) (fun ys=>ys.map (·.1) = rs) (fun ys=>∃ zs,ys.map (·.1) ++ zs = rs) rs.length w:=by
 intro ln J Jx W hW hJ hJx hY h0
 have okW:Ok u m0 [[(b2,Obj.cells [vcalls_1].toArray 34 (0,0))],[(b1,Obj.cells [vl_0].toArray 26 (0,0))]] W:=ok.below' hW
 clear hW ok
 refine callsIn_wide.2 ?_
 rw [show (#[Value.func (.yield ln) #[] #[]] ++ #[Value.pointer (some ⟨b1,0,none⟩),Value.pointer (some ⟨b2,0,none⟩)]:Array Value) = [Value.func (.yield ln) #[] #[],Value.pointer (some ⟨b1,0,none⟩),Value.pointer (some ⟨b2,0,none⟩)].toArray from by simp]
 have grow:∀ {A C:World} {ys:List (Fo nc B)},J ys A → Go.RowKit.Below A.heap.size A C → J ys C:=fun hA hb=>hJ _ _ _ none hA ⟨hb.os,hb.tape,hb.output,hb.size,fun k hk _=>hb.block k hk⟩ (fun r e=>by cases e)
 refine enter Tryz.func53 rfl rfl rfl fun a E=>?_
 refine wp_seq ?_
 refine qab ?_
 refine qac E okW (qao qfg rfl (qae.own 1 rfl rfl)) rfl rfl fun a E=>?_
 refine qac E okW (qaE qcu hl_0 rfl) rfl rfl fun a E=>?_
 refine qac E okW (qad rfl) rfl rfl fun a E=>?_
 refine wpList_nil ?_
 refine qaa ?_
 have hlen:=qda.1 (qas hl_0)
 have E0:Env 126 a [(12,vl_0),(13,(Value.int .i64 (l_0.length:Int))),(14,(Value.int .i64 ((0:Nat):Int))),(0,(Value.func (.yield ln) #[] #[])),(1,(Value.pointer (some ⟨b1,0,none⟩))),(2,(Value.pointer (some ⟨b2,0,none⟩)))]:=E.keep [12,13,14,0,1,2]
 refine wp_block ?_
 unfold qd4 at hF0
 refine qsQ (fun n a w=>∃ (i:Nat) (acc:List (Fo nc B)),n = l_0.length - i ∧ i ≤ l_0.length ∧ Env 126 a [(12,vl_0),(13,(Value.int .i64 (l_0.length:Int))),(14,(Value.int .i64 (i:Int))),(0,(Value.func (.yield ln) #[] #[])),(1,(Value.pointer (some ⟨b1,0,none⟩))),(2,(Value.pointer (some ⟨b2,0,none⟩)))] ∧ Ok u m0 [[(b2,Obj.cells [vcalls_1].toArray 34 (0,0))],[(b1,Obj.cells [vl_0].toArray 26 (0,0))]] w ∧ J acc w ∧ ∃ rest,qgx N l_0 calls_1 (l_0.length - i) i = some rest ∧ acc.map (·.1) ++ rest = rs) ?_ l_0.length _ _ ⟨0,[],rfl,by omega,E0,okW,h0,rs,hF0,rfl⟩
 clear E0 E okW h0 hF0
 rintro n a w ⟨i,acc,rfl,hi,E,okW,hJw,rest,hfo,hrs⟩
 refine wp_seq ?_
 refine qab ?_
 refine qac E okW (qaA rfl rfl) rfl rfl fun a E=>?_
 refine wpList_nil ?_
 refine qaa ?_
 refine wp_seq ?_
 refine c_if E rfl (fun hc=>?_) (fun hc=>?_)
 rotate_left
 ·refine wp_exit<|qaB ?_
  refine .inr ⟨by nofun,?_⟩
  refine qaS ?_
  have hk6:i = l_0.length:=by have:=of_decide_eq_false hc; omega
  subst hk6
  rw [Nat.sub_self] at hfo
  obtain rfl:=Option.some.inj hfo
  exact qaM (R:=fun e W'=>(∃ v,e = Ending.returned v) ∧ ((∃ xs:List (Fo nc B),xs.map (·.1) = rs ∧ J xs W') ∨ (∃ pre:List (Fo nc B),(∃ zs,pre.map (·.1) ++ zs = rs) ∧ Jx pre W'))) (fn:=Tryz.f53) (P:=Tryz.prog) [] E.d rfl trivial ⟨⟨_,rfl⟩,.inl ⟨acc,by simpa using hrs,hJw⟩⟩
 have hi6:i < l_0.length:=by have:=of_decide_eq_true hc; omega
 rw [show l_0.length - i = (l_0.length - (i + 1)) + 1 by omega,qgx] at hfo
 obtain ⟨r,hF,hfo⟩:=bnd hfo
 obtain ⟨rest',hfo',hrest⟩:=bnd hfo
 obtain rfl:=Option.some.inj hrest
 replace E:=E.keep [12,13,14,0,1,2]
 obtain ⟨i_2,hi2⟩:∃ i_2:Int,i_2 = (i:Int):=⟨_,rfl⟩
 rw [← hi2] at hF E
 have ri_2:InR .i64 i_2:=by rw [hi2,qda]; omega
 refine wp_skip<|qaa<|wp_seq ?_
 obtain ⟨Q',hQ'⟩:∃ Q':Exit → Act → World → Prop,Q' = fun e a w=>(e = .normal ∧ ∃ acc':List (Fo nc B),Env 126 a [(12,vl_0),(13,(Value.int .i64 (l_0.length:Int))),(14,(Value.int .i64 i_2)),(0,(Value.func (.yield ln) #[] #[])),(1,(Value.pointer (some ⟨b1,0,none⟩))),(2,(Value.pointer (some ⟨b2,0,none⟩)))] ∧ Ok u m0 [[(b2,Obj.cells [vcalls_1].toArray 34 (0,0))],[(b1,Obj.cells [vl_0].toArray 26 (0,0))]] w ∧ J acc' w ∧ acc'.map (·.1) ++ rest' = rs) ∨ (e = .ret ∧ a.defers = [] ∧ ∃ pre:List (Fo nc B),(∃ zs,pre.map (·.1) ++ zs = rs) ∧ Jx pre w):=⟨_,rfl⟩
 refine qbx (Q':=Q') ?_ ?_
 rotate_left
 ·rw [hQ']
  rintro e a w (⟨rfl,acc',E,okW,hJ2,hrs2⟩ | ⟨rfl,hd,hpre⟩)
  ·refine qaa ?_
   refine qab ?_
   refine lv E okW (qaF rfl rfl) fun a E=>lv E okW (qad rfl) fun a E=>?_
   refine wpList_nil (.inl ⟨rfl,l_0.length - (i + 1),by omega,i + 1,acc',rfl,by omega,?_,okW,hJ2,rest',hfo',hrs2⟩)
   have hw:IntKind.wrap .i64 (i_2 + 1) = ((i + 1:Nat):Int):=by rw [hi2,qfj (qda.2 ⟨by omega,by omega⟩)]; omega
   rw [hw] at E
   exact E.keep [12,13,14,0,1,2]
  ·refine qag ?_
   refine .inr ⟨by nofun,?_⟩
   refine qan ?_
   exact qaM (R:=fun e W'=>(∃ v,e = Ending.returned v) ∧ ((∃ xs:List (Fo nc B),xs.map (·.1) = rs ∧ J xs W') ∨ (∃ pre:List (Fo nc B),(∃ zs,pre.map (·.1) ++ zs = rs) ∧ Jx pre W'))) (fn:=Tryz.f53) (P:=Tryz.prog) [] hd rfl trivial ⟨⟨_,rfl⟩,.inr hpre⟩
 have belo:=fun {m4:Mem} {w':World} (hle:(hmx w [[(b2,Obj.cells [vcalls_1].toArray 34 (0,0))],[(b1,Obj.cells [vl_0].toArray 26 (0,0))]]).le m4) (ok4:Ok u m4 [[(b2,Obj.cells [vcalls_1].toArray 34 (0,0))],[(b1,Obj.cells [vl_0].toArray 26 (0,0))]] w')=>okW.belowX hle ok4
 have okF:=okW.full
 have hskip:∀ {m4:Mem} {a:Act} {w':World},(hmx w [[(b2,Obj.cells [vcalls_1].toArray 34 (0,0))],[(b1,Obj.cells [vl_0].toArray 26 (0,0))]]).le m4 → Ok u m4 [[(b2,Obj.cells [vcalls_1].toArray 34 (0,0))],[(b1,Obj.cells [vl_0].toArray 26 (0,0))]] w' → Env 126 a [(12,vl_0),(13,(Value.int .i64 (l_0.length:Int))),(14,(Value.int .i64 i_2)),(0,(Value.func (.yield ln) #[] #[])),(1,(Value.pointer (some ⟨b1,0,none⟩))),(2,(Value.pointer (some ⟨b2,0,none⟩)))] → r = none → Q' .normal a w':=by
  intro m4 a w' hle ok4 E hr
  rw [hQ']
  exact .inl ⟨rfl,acc,E,okW.below' (belo hle ok4),grow hJw (belo hle ok4),by rw [← hrs,hr]; rfl⟩
 have hyd:∀ {m4:Mem} {X:List (List (Nat × Obj))} {w':World} {x:Found2},(hmx w [[(b2,Obj.cells [vcalls_1].toArray 34 (0,0))],[(b1,Obj.cells [vl_0].toArray 26 (0,0))]]).le m4 → Ok u m4 [[(b2,Obj.cells [vcalls_1].toArray 34 (0,0))],[(b1,Obj.cells [vl_0].toArray 26 (0,0))]] w' → r = some x →
   Ok u m0 [[(b2,Obj.cells [vcalls_1].toArray 34 (0,0))],[(b1,Obj.cells [vl_0].toArray 26 (0,0))]] w' ∧ ∃ y:Fo nc B,y.1 = x ∧ (acc ++ [y]).map (·.1) ++ rest' = rs ∧ YieldAt Fence.wide 1 Tryz.prog ln #[Value.agg (fcs x).toArray] w' fun e W' =>
    (e = .returned (.bool true) ∧ J (acc ++ [y]) W' ∧ KpO u m0 [[(b2,Obj.cells [vcalls_1].toArray 34 (0,0))],[(b1,Obj.cells [vl_0].toArray 26 (0,0))]] w' W') ∨ (e = .returned (.bool false) ∧ Jx (acc ++ [y]) W'):=by
  intro m4 X w' x hle ok4 hr
  rw [hr] at hrs
  have hx:x ∈ rs:=by rw [← hrs]; simp
  have hn:acc.length < rs.length:=by rw [← hrs]; simp
  refine ⟨okW.below' (belo hle ok4),⟨x,hB x hx⟩,rfl,?_,hY acc ⟨x,hB x hx⟩ w' (grow hJw (belo hle ok4)) hn⟩
  rw [← hrs]; simp
 replace hl_0:=(mL qev).up okW.hmx_le hl_0
 replace hcalls_1:=(mL qaR).up okW.hmx_le hcalls_1
 clear belo grow hJw okW
 obtain ⟨mo,hmo⟩:∃ mo:Mem,mo = m0:=⟨_,rfl⟩
 rw [← hmo] at hyd hQ'
 clear hmo hY hJ hJx
 obtain ⟨S,hS⟩:∃ S:Segs,S = []:=⟨_,rfl⟩
 rw [← hS] at hQ' hskip hyd okF hl_0 hcalls_1
 clear hS m0
 generalize hmx w _ = m0 at *
 have ok:=okF
 clear okF
 have le_m0:=Mem.le.refl m0
 unfold qe1 at hF
 refine wp_block ?_
 refine wp_seq ?_
 refine qab ?_
 refine qac E ok (qad rfl) rfl rfl fun a E=>?_
 obtain ⟨x12,e13,hF⟩:=bnd hF
 obtain ⟨b14,o15,es16,hl17,rr18,at19,yy20⟩:=qaN qcu hl_0 e13 (P:=Tryz.prog) (X:=.tmp 12) (I:=.tmp 14) (kd:=.i64) (qah E rfl) (qah E rfl)
 obtain ⟨rfl,l21,l22,r23⟩:=rr18
 refine qac E ok (yy20 _ _) rfl rfl fun a E=>?_
 refine qac E ok (qat (cs:=[(Value.string (bs x12.Kind)),(Value.string (bs x12.Text)),(Value.int .i64 x12.From)]) qfi rfl rfl (qae.ro at19)) rfl rfl fun a E=>?_
 refine qaC E ok qdh rfl rfl fun b24 a w E ok=>?_
 refine qac E ok (qal rfl) rfl rfl fun a E=>?_
 refine qai E ok 0 rfl rfl rfl qjh rfl rfl ⟨rfl,rfl,rfl,trivial⟩ rfl rfl fun w ok=>?_
 refine wpList_nil ?_
 refine qaa ?_
 refine wp_seq ?_
 refine qab ?_
 refine qac E ok (qao qix rfl (qae.own 1 rfl rfl)) rfl rfl fun a E=>?_
 refine qac E ok (qjH (caps:=[.tmp 5]) rfl) rfl rfl fun a E=>?_
 obtain ⟨r25,e26,hF⟩:=bnd hF
 refine qaz E qui rfl (qem N _ calls_1 hcalls_1 x12 l21 l22 r23 e26 hG ok) rfl rfl ?_
 rintro _ w ⟨⟨rfl,ok⟩,r27⟩
 refine ⟨_,rfl,fun a E=>?_⟩
 refine qac E ok (qal rfl) rfl rfl fun a E=>?_
 refine wpList_nil ?_
 refine qaa ?_
 refine wp_seq ?_
 refine qab ?_
 refine qac E ok (qad rfl) rfl rfl fun a E=>?_
 refine qac E ok (qaF rfl rfl) rfl rfl fun a E=>?_
 refine qac E ok (qal rfl) rfl rfl fun a E=>?_
 refine wpList_nil ?_
 refine qaa ?_
 refine wp_seq ?_
 refine wp_block ?_
 obtain ⟨o29,hL,hF⟩:=bnd hF
 refine qaO _ (fun (s:Int) a w=>Ok u m0 ([(b24,Obj.cells [(Value.string (bs x12.Kind)),(Value.string (bs x12.Text)),(Value.int .i64 x12.From)].toArray 29 (0,0))] :: [(b2,Obj.cells [vcalls_1].toArray 34 (0,0))] :: [(b1,Obj.cells [vl_0].toArray 26 (0,0))] :: S) w ∧ Env 126 a [(4,(Value.int .i64 i_2)),(5,(Value.pointer (some ⟨b24,0,none⟩))),(6,(Value.int .i64 r25)),(7,(Value.int .i64 s)),(12,vl_0),(13,(Value.int .i64 (l_0.length:Int))),(14,(Value.int .i64 i_2)),(0,(Value.func (.yield ln) #[] #[])),(1,(Value.pointer (some ⟨b1,0,none⟩))),(2,(Value.pointer (some ⟨b2,0,none⟩)))] ∧ InR .i64 s) (fun (b:Int) e a w=>e = (.exit 2) ∧ Ok u m0 ([(b24,Obj.cells [(Value.string (bs x12.Kind)),(Value.string (bs x12.Text)),(Value.int .i64 x12.From)].toArray 29 (0,0))] :: [(b2,Obj.cells [vcalls_1].toArray 34 (0,0))] :: [(b1,Obj.cells [vl_0].toArray 26 (0,0))] :: S) w ∧ Env 126 a [(4,(Value.int .i64 i_2)),(5,(Value.pointer (some ⟨b24,0,none⟩))),(6,(Value.int .i64 r25)),(7,(Value.int .i64 b)),(12,vl_0),(13,(Value.int .i64 (l_0.length:Int))),(14,(Value.int .i64 i_2)),(0,(Value.func (.yield ln) #[] #[])),(1,(Value.pointer (some ⟨b1,0,none⟩))),(2,(Value.pointer (some ⟨b2,0,none⟩)))] ∧ InR .i64 b) ?_ ?_ N _ a w hL ⟨ok,E.keep [4,5,6,7,12,13,14,0,1,2],(InR.wrap _ _)⟩
 ·rintro x_31 a w r ⟨ok,E,r32⟩ hF
  replace hF:qdf N l_0 x_31 = some r:=hF
  unfold qdf at hF
  refine wp_seq ?_
  refine wp_seq ?_
  refine qab ?_
  refine qac E ok (qad rfl) rfl rfl fun a E=>?_
  refine qac E ok (qao qfg rfl (qae.own 2 rfl rfl)) rfl rfl fun a E=>?_
  refine qac E ok (qaE qcu hl_0 rfl) rfl rfl fun a E=>?_
  refine qac E ok (qaA rfl rfl) rfl rfl fun a E=>?_
  refine qac E ok (qad rfl) rfl rfl fun a E=>?_
  refine qap (decide (x_31 < (l_0.length:Int))) (fun hc33=>?_) (fun hc33=>?_)
  rotate_left
  ·replace hF:=qaj hc33 hF
   replace E:=E.upd 28 hc33 rfl
   refine qbn E rfl rfl fun a E=>?_
   refine qbn E rfl rfl fun a E=>?_
   refine qbn E rfl rfl fun a E=>?_
   refine qbn E rfl rfl fun a E=>?_
   refine qbn E rfl rfl fun a E=>?_
   refine qac E ok (qbH rfl rfl) rfl rfl fun a E=>?_
   refine wpList_nil ?_
   refine qaa ?_
   refine c_if E rfl (fun h=>by cases h) (fun _=>?_)
   refine wp_exit ?_
   refine qaB ?_
   obtain rfl:=Option.some.inj hF
   exact qcL (by nofun) (⟨rfl,⟨ok,E.keep [4,5,6,7,12,13,14,0,1,2],r32⟩⟩)
  replace hF:=qak hc33 hF
  replace E:=E.upd 28 hc33 rfl
  refine qac E ok (qao qfg rfl (qae.own 2 rfl rfl)) rfl rfl fun a E=>?_
  refine qac E ok (qad rfl) rfl rfl fun a E=>?_
  obtain ⟨x34,e35,hF⟩:=bnd hF
  obtain ⟨b36,o37,es38,hl39,rr40,at41,yy42⟩:=qaN qcu hl_0 e35 (P:=Tryz.prog) (X:=.tmp 29) (I:=.tmp 30) (kd:=.i64) (qah E rfl) (qah E rfl)
  obtain ⟨rfl,l43,l44,r45⟩:=rr40
  refine qac E ok (yy42 _ _) rfl rfl fun a E=>?_
  refine qac E ok (qat (cs:=[(Value.string (bs x34.Kind)),(Value.string (bs x34.Text)),(Value.int .i64 x34.From)]) qfi rfl rfl (qae.ro at41)) rfl rfl fun a E=>?_
  obtain ⟨r46,e47,hF⟩:=bnd hF
  refine qaz E qpy rfl (qg8 N _ x34 ⟨rfl,l43,l44,r45⟩ e47 hG ok) rfl rfl ?_
  rintro _ w ⟨rfl,ok⟩
  refine ⟨_,rfl,fun a E=>?_⟩
  refine qac E ok (qbR rfl rfl) rfl rfl fun a E=>?_
  refine wpList_nil ?_
  refine qaa ?_
  refine c_if E rfl (fun hc48=>?_) (fun hc48=>?_)
  rotate_left
  ·replace hF:=qaj hc48 hF
   refine wp_exit ?_
   refine qaB ?_
   obtain rfl:=Option.some.inj hF
   exact qcL (by nofun) (⟨rfl,⟨ok,E.keep [4,5,6,7,12,13,14,0,1,2],r32⟩⟩)
  replace hF:=qak hc48 hF
  refine wp_skip ?_
  refine qaa ?_
  refine wp_block ?_
  refine qab ?_
  refine qac E ok (qad rfl) rfl rfl fun a E=>?_
  refine qac E ok (qaG rfl rfl (InR.inc r32 (qas hl_0) hc33)) rfl rfl fun a E=>?_
  refine qac E ok (qal rfl) rfl rfl fun a E=>?_
  refine wpList_nil ?_
  refine qaq ?_
  obtain rfl:=Option.some.inj hF
  exact qay ⟨ok,E.keep [4,5,6,7,12,13,14,0,1,2],(InR.inc r32 (qas hl_0) hc33)⟩
 intro e a w _ hO
 obtain ⟨rfl,ok,E,r49⟩:=hO
 refine qaS ?_
 refine qaa ?_
 refine wp_seq ?_
 refine wp_seq ?_
 refine qab ?_
 refine qac E ok (qad rfl) rfl rfl fun a E=>?_
 refine qac E ok (qaA rfl rfl) rfl rfl fun a E=>?_
 refine qac E ok (qad rfl) rfl rfl fun a E=>?_
 refine qap (decide (r25 < 0)) (fun hc50=>?_) (fun hc50=>?_)
 ·replace hF:=qak hc50 hF
  replace E:=E.upd 39 hc50 rfl
  refine qbn E rfl rfl fun a E=>?_
  refine qbn E rfl rfl fun a E=>?_
  refine qbn E rfl rfl fun a E=>?_
  refine qbn E rfl rfl fun a E=>?_
  refine qac E ok (qbR rfl rfl) rfl rfl fun a E=>?_
  refine qac E ok (qad rfl) rfl rfl fun a E=>?_
  refine qbn E rfl rfl fun a E=>?_
  refine qbn E rfl rfl fun a E=>?_
  refine qbn E rfl rfl fun a E=>?_
  refine qbn E rfl rfl fun a E=>?_
  refine qbn E rfl rfl fun a E=>?_
  refine qbn E rfl rfl fun a E=>?_
  refine qac E ok (qbR rfl rfl) rfl rfl fun a E=>?_
  refine wpList_nil ?_
  refine qaa ?_
  refine c_if E rfl (fun _=>?_) (fun h=>by cases h)
  refine wp_exit ?_
  refine qaB ?_
  refine qaS ?_
  exact hskip le_m0 (ok.pk 3 [1,2] rfl (by decide)) (E.keep [12,13,14,0,1,2]) (Option.some.inj hF).symm
 replace hF:=qaj hc50 hF
 replace E:=E.upd 39 hc50 rfl
 refine qac E ok (qad rfl) rfl rfl fun a E=>?_
 refine qac E ok (qao qfg rfl (qae.own 2 rfl rfl)) rfl rfl fun a E=>?_
 refine qac E ok (qaE qcu hl_0 rfl) rfl rfl fun a E=>?_
 refine qac E ok (qbt rfl rfl) rfl rfl fun a E=>?_
 refine qac E ok (qbH rfl rfl) rfl rfl fun a E=>?_
 refine qac E ok (qad rfl) rfl rfl fun a E=>?_
 refine qap (o29 == (l_0.length:Int)) (fun hc51=>?_) (fun hc51=>?_)
 ·replace hF:=qak hc51 hF
  replace E:=E.upd 45 hc51 rfl
  refine qbn E rfl rfl fun a E=>?_
  refine qbn E rfl rfl fun a E=>?_
  refine qbn E rfl rfl fun a E=>?_
  refine qbn E rfl rfl fun a E=>?_
  refine qbn E rfl rfl fun a E=>?_
  refine qbn E rfl rfl fun a E=>?_
  refine qac E ok (qbR rfl rfl) rfl rfl fun a E=>?_
  refine wpList_nil ?_
  refine qaa ?_
  refine c_if E rfl (fun _=>?_) (fun h=>by cases h)
  refine wp_exit ?_
  refine qaB ?_
  refine qaS ?_
  exact hskip le_m0 (ok.pk 3 [1,2] rfl (by decide)) (E.keep [12,13,14,0,1,2]) (Option.some.inj hF).symm
 replace hF:=qaj hc51 hF
 replace E:=E.upd 45 hc51 rfl
 refine qac E ok (qao qfg rfl (qae.own 2 rfl rfl)) rfl rfl fun a E=>?_
 refine qac E ok (qad rfl) rfl rfl fun a E=>?_
 obtain ⟨x52,e53,hF⟩:=bnd hF
 obtain ⟨b54,o55,es56,hl57,rr58,at59,yy60⟩:=qaN qcu hl_0 e53 (P:=Tryz.prog) (X:=.tmp 46) (I:=.tmp 47) (kd:=.i64) (qah E rfl) (qah E rfl)
 obtain ⟨rfl,l61,l62,r63⟩:=rr58
 refine qac E ok (yy60 _ _) rfl rfl fun a E=>?_
 refine qac E ok (qaf qbY rfl) rfl rfl fun a E=>?_
 refine qac E ok (qao qav rfl (qae.ro (At.sub 0 1 at59))) rfl rfl fun a E=>?_
 refine qac E ok (qcn rfl rfl) rfl rfl fun a E=>?_
 refine qac E ok (qbH rfl rfl) rfl rfl fun a E=>?_
 refine wpList_nil ?_
 refine qaa ?_
 refine c_if E rfl (fun hc64=>?_) (fun hc64=>?_)
 ·replace hF:=qak hc64 hF
  refine wp_exit ?_
  refine qaB ?_
  refine qaS ?_
  exact hskip le_m0 (ok.pk 3 [1,2] rfl (by decide)) (E.keep [12,13,14,0,1,2]) (Option.some.inj hF).symm
 replace hF:=qaj hc64 hF
 refine wp_skip ?_
 refine qaa ?_
 refine wp_seq ?_
 refine qab ?_
 refine qac E ok (qao qfg rfl (qae.own 2 rfl rfl)) rfl rfl fun a E=>?_
 refine qac E ok (qad rfl) rfl rfl fun a E=>?_
 obtain ⟨r65,e66,hF⟩:=bnd hF
 refine qaz E qtZ rfl (qj4 N _ l_0 hl_0 o29 r49 e66 hG ok) rfl rfl ?_
 rintro _ w ⟨m67,c68,rfl,hle,ok,h69⟩
 have le_m0:=le_m0.trans hle
 have hl_0:=(mL qev).up hle hl_0
 have hcalls_1:=(mL qaR).up hle hcalls_1
 have at19:=At.up hle at19
 have at59:=At.up hle at59
 refine ⟨_,rfl,fun a E=>?_⟩
 refine qac E ok (qal rfl) rfl rfl fun a E=>?_
 refine wpList_nil ?_
 refine qaa ?_
 refine wp_seq ?_
 obtain ⟨o70,hJ,hF⟩:=bnd hF
 refine qbx (Q':=fun e a w=>e = .normal ∧ ∃ b76,Ok u m67 ([(b76,Obj.cells [(Value.int .i64 o70.call),(Value.int .i64 o70.offset),(Value.string (bs o70.id)),(Value.string (bs o70.source)),(Value.string (bs o70.comment))].toArray 105 (0,0))] :: [(b24,Obj.cells [(Value.string (bs x12.Kind)),(Value.string (bs x12.Text)),(Value.int .i64 x12.From)].toArray 29 (0,0))] :: [(b2,Obj.cells [vcalls_1].toArray 34 (0,0))] :: [(b1,Obj.cells [vl_0].toArray 26 (0,0))] :: S) w ∧ Env 126 a [(6,(Value.int .i64 r25)),(8,c68),(9,(Value.pointer (some ⟨b76,0,none⟩))),(12,vl_0),(13,(Value.int .i64 (l_0.length:Int))),(14,(Value.int .i64 i_2)),(0,(Value.func (.yield ln) #[] #[])),(1,(Value.pointer (some ⟨b1,0,none⟩))),(2,(Value.pointer (some ⟨b2,0,none⟩)))] ∧ InR .i64 o70.call ∧ InR .i64 o70.offset ∧ o70.id.length ≤ LIMS ∧ o70.source.length ≤ LIMS ∧ o70.comment.length ≤ LIMS) ?_ ?_
 ·replace hF:=hJ
  clear hJ
  obtain ⟨r77,e78,hF⟩:=bnd hF
  obtain rfl:=Option.some.inj hF
  refine qcp [] (Cls u m67 ([(b24,Obj.cells [(Value.string (bs x12.Kind)),(Value.string (bs x12.Text)),(Value.int .i64 x12.From)].toArray 29 (0,0))] :: [(b2,Obj.cells [vcalls_1].toArray 34 (0,0))] :: [(b1,Obj.cells [vl_0].toArray 26 (0,0))] :: [])) (Cls u m67 ([(b24,Obj.cells [(Value.string (bs x12.Kind)),(Value.string (bs x12.Text)),(Value.int .i64 x12.From)].toArray 29 (0,0))] :: [(b2,Obj.cells [vcalls_1].toArray 34 (0,0))] :: [(b1,Obj.cells [vl_0].toArray 26 (0,0))] :: [])) (by kernel_rfl) ?_
  intro w hw
  replace ok:=qcD ok hw
  clear hw
  have le_m67:=Mem.le.refl m67
  refine qam (cl1 ⟨m67,_,le_m67,ok,⟨qar 0 rfl,qar 1 rfl,qar 2 rfl,trivial⟩⟩ ⟨m67,_,le_m67,ok,⟨qar 0 rfl,qar 1 rfl,qar 2 rfl,trivial⟩⟩) fun hT=>?_
  refine qdz 0 E rfl (by kernel_rfl) nP hT (qad rfl) rfl rfl fun a E=>?_
  refine qdz 1 E rfl (by kernel_rfl) nP hT (qaf qsO rfl) rfl rfl fun a E=>?_
  refine qdz 2 E rfl (by kernel_rfl) nP hT (qao qaZ rfl (qae.cown 0 rfl rfl)) rfl rfl fun a E=>?_
  refine qdz 3 E rfl (by kernel_rfl) nP hT (qao qfg rfl (qae.cown 2 rfl rfl)) rfl rfl fun a E=>?_
  refine qdz 4 E rfl (by kernel_rfl) nP hT (qad rfl) rfl rfl fun a E=>?_
  refine qau [5,7] (by kernel_rfl) rfl (qbp ?_ (qbp ?_ (qcT)))
  ·refine qb7 (o:=_) rfl ?_
   refine qaz E qrM rfl (qh5 N _ l_0 hl_0 i_2 ri_2 e78 hG ok) rfl rfl ?_
   rintro _ w ⟨⟨rfl,ok⟩,l81⟩
   refine ⟨_,rfl,fun a E=>?_⟩
   refine wpList_nil ?_
   refine qaa ?_
   refine qam (cl1 ⟨m67,_,le_m67,ok,⟨qar 0 rfl,qar 1 rfl,qar 2 rfl,trivial⟩⟩ ⟨m67,_,le_m67,ok,⟨qar 0 rfl,qar 1 rfl,qar 2 rfl,trivial⟩⟩) fun hT=>?_
   refine qdz 6 E rfl (by kernel_rfl) nP hT (qaK (ps:=[(0,.tmp 56),(1,.tmp 58),(4,.tmp 61)]) (qs:=[(0,[(Value.int .i64 r25)]),(1,[(Value.int .i64 x12.From)]),(4,[(Value.string (bs r77))])]) (cs:=[(Value.int .i64 r25),(Value.int .i64 x12.From),(Value.string (bs ([]))),(Value.string (bs ([]))),(Value.string (bs r77))]) qiq qlS rfl ⟨rfl,rfl,rfl,⟨rfl,rfl,rfl,⟨rfl,rfl,rfl,trivial⟩⟩⟩ rfl) rfl rfl fun a E=>?_
   refine qau [7] (by kernel_rfl) rfl (qax ?_)
   ·refine qb7 (o:=_) rfl ?_
    refine qaC E ok qiq rfl rfl fun b82 a w E ok=>?_
    refine wpList_nil ?_
    refine qaa ?_
    refine qam (cl1 ⟨m67,_,le_m67,ok,⟨qar 1 rfl,qar 2 rfl,qar 3 rfl,trivial⟩⟩ ⟨m67,_,le_m67,ok,⟨qar 1 rfl,qar 2 rfl,qar 3 rfl,trivial⟩⟩) fun hT=>?_
    refine qau [8] (by kernel_rfl) rfl (qax ?_)
    ·refine qb7 (o:=_) rfl ?_
     refine qai E ok 0 rfl rfl rfl qmv rfl rfl ⟨rfl,rfl,rfl,rfl,rfl,trivial⟩ rfl rfl fun w ok=>?_
     refine wpList_nil ?_
     refine qaa ?_
     refine qam (cl1 ⟨m67,_,le_m67,ok,⟨qar 1 rfl,qar 2 rfl,qar 3 rfl,trivial⟩⟩ ⟨m67,_,le_m67,ok,⟨qar 1 rfl,qar 2 rfl,qar 3 rfl,trivial⟩⟩) fun hT=>?_
     refine qbd (by kernel_rfl) ?_
     exact ⟨rfl,⟨b82,ok,E.keep [6,8,9,12,13,14,0,1,2],r27,r23,(Nat.zero_le _),(Nat.zero_le _),l81⟩⟩
  refine qb7 (o:=_) rfl ?_
  refine qaC E ok qiq rfl rfl fun b83 a w E ok=>?_
  refine wpList_nil ?_
  refine qaa ?_
  refine qam (cl1 ⟨m67,_,le_m67,ok,⟨qar 1 rfl,qar 2 rfl,qar 3 rfl,trivial⟩⟩ ⟨m67,_,le_m67,ok,⟨qar 1 rfl,qar 2 rfl,qar 3 rfl,trivial⟩⟩) fun hT=>?_
  refine qau [5] (by kernel_rfl) rfl (qax ?_)
  ·refine qb7 (o:=_) rfl ?_
   refine qaz E qrM rfl (qh5 N _ l_0 hl_0 i_2 ri_2 e78 hG ok) rfl rfl ?_
   rintro _ w ⟨⟨rfl,ok⟩,l84⟩
   refine ⟨_,rfl,fun a E=>?_⟩
   refine wpList_nil ?_
   refine qaa ?_
   refine qam (cl1 ⟨m67,_,le_m67,ok,⟨qar 1 rfl,qar 2 rfl,qar 3 rfl,trivial⟩⟩ ⟨m67,_,le_m67,ok,⟨qar 1 rfl,qar 2 rfl,qar 3 rfl,trivial⟩⟩) fun hT=>?_
   refine qdz 6 E rfl (by kernel_rfl) nP hT (qaK (ps:=[(0,.tmp 56),(1,.tmp 58),(4,.tmp 61)]) (qs:=[(0,[(Value.int .i64 r25)]),(1,[(Value.int .i64 x12.From)]),(4,[(Value.string (bs r77))])]) (cs:=[(Value.int .i64 r25),(Value.int .i64 x12.From),(Value.string (bs ([]))),(Value.string (bs ([]))),(Value.string (bs r77))]) qiq qlS rfl ⟨rfl,rfl,rfl,⟨rfl,rfl,rfl,⟨rfl,rfl,rfl,trivial⟩⟩⟩ rfl) rfl rfl fun a E=>?_
   refine qau [8] (by kernel_rfl) rfl (qax ?_)
   ·refine qb7 (o:=_) rfl ?_
    refine qai E ok 0 rfl rfl rfl qmv rfl rfl ⟨rfl,rfl,rfl,rfl,rfl,trivial⟩ rfl rfl fun w ok=>?_
    refine wpList_nil ?_
    refine qaa ?_
    refine qam (cl1 ⟨m67,_,le_m67,ok,⟨qar 1 rfl,qar 2 rfl,qar 3 rfl,trivial⟩⟩ ⟨m67,_,le_m67,ok,⟨qar 1 rfl,qar 2 rfl,qar 3 rfl,trivial⟩⟩) fun hT=>?_
    refine qbd (by kernel_rfl) ?_
    exact ⟨rfl,⟨b83,ok,E.keep [6,8,9,12,13,14,0,1,2],r27,r23,(Nat.zero_le _),(Nat.zero_le _),l84⟩⟩
 clear hJ
 intro e a w hO
 obtain ⟨rfl,b90,ok,E,r85,r86,l87,l88,l89⟩:=hO
 refine qaa ?_
 refine wp_seq ?_
 refine qab ?_
 refine qac E ok (qal rfl) rfl rfl fun a E=>?_
 refine qac E ok (qal rfl) rfl rfl fun a E=>?_
 refine wpList_nil ?_
 refine qaa ?_
 refine wp_seq ?_
 refine wp_seq ?_
 refine qab ?_
 refine qac E ok (qao qix rfl (qae.own 2 rfl rfl)) rfl rfl fun a E=>?_
 refine qac E ok (qad rfl) rfl rfl fun a E=>?_
 obtain ⟨x91,e92,hF⟩:=bnd hF
 obtain ⟨b93,o94,es95,hl96,rr97,at98,yy99⟩:=qaN qf6 hcalls_1 e92 (P:=Tryz.prog) (X:=.tmp 63) (I:=.tmp 64) (kd:=.i64) (qah E rfl) (qah E rfl)
 obtain ⟨rfl,l100,r101,r102⟩:=rr97
 refine qac E ok (yy99 _ _) rfl rfl fun a E=>?_
 refine qac E ok (qaf qij rfl) rfl rfl fun a E=>?_
 refine qac E ok (qao qaZ rfl (qae.ro (At.sub 1 1 at98))) rfl rfl fun a E=>?_
 refine qac E ok (qbo rfl rfl) rfl rfl fun a E=>?_
 refine wpList_nil ?_
 refine qaa ?_
 obtain ⟨o103,hJ,hF⟩:=bnd hF
 refine qbx (Q':=fun e a w=>e = .normal ∧ Ok u m67 ([(b90,Obj.cells [(Value.int .i64 o103.2.call),(Value.int .i64 o103.2.offset),(Value.string (bs o103.2.id)),(Value.string (bs o103.2.source)),(Value.string (bs o103.2.comment))].toArray 105 (0,0))] :: [(b24,Obj.cells [(Value.string (bs x12.Kind)),(Value.string (bs x12.Text)),(Value.int .i64 x12.From)].toArray 29 (0,0))] :: [(b2,Obj.cells [vcalls_1].toArray 34 (0,0))] :: [(b1,Obj.cells [vl_0].toArray 26 (0,0))] :: S) w ∧ Env 126 a [(6,(Value.int .i64 r25)),(8,c68),(9,(Value.pointer (some ⟨b90,0,none⟩))),(10,(Value.bool o103.1)),(11,(Value.bool true)),(12,vl_0),(13,(Value.int .i64 (l_0.length:Int))),(14,(Value.int .i64 i_2)),(0,(Value.func (.yield ln) #[] #[])),(1,(Value.pointer (some ⟨b1,0,none⟩))),(2,(Value.pointer (some ⟨b2,0,none⟩)))] ∧ InR .i64 o103.2.call ∧ InR .i64 o103.2.offset ∧ o103.2.id.length ≤ LIMS ∧ o103.2.source.length ≤ LIMS ∧ o103.2.comment.length ≤ LIMS) ?_ ?_
 ·replace hF:=hJ
  clear hJ
  refine c_if E rfl (fun hc109=>?_) (fun hc109=>?_)
  rotate_left
  ·replace hF:=qaj hc109 hF
   refine wp_skip ?_
   obtain rfl:=Option.some.inj hF
   exact ⟨rfl,⟨ok,E.keep [6,8,9,10,11,12,13,14,0,1,2],r85,r86,l87,l88,l89⟩⟩
  replace hF:=qak hc109 hF
  refine qab ?_
  refine qac E ok (qad rfl) rfl rfl fun a E=>?_
  refine qac E ok (qao qix rfl (qae.own 2 rfl rfl)) rfl rfl fun a E=>?_
  refine qac E ok (qad rfl) rfl rfl fun a E=>?_
  obtain ⟨x110,e111,hF⟩:=bnd hF
  obtain ⟨b112,o113,es114,hl115,rr116,at117,yy118⟩:=qaN qf6 hcalls_1 e111 (P:=Tryz.prog) (X:=.tmp 71) (I:=.tmp 72) (kd:=.i64) (qah E rfl) (qah E rfl)
  obtain ⟨rfl,l119,r120,r121⟩:=rr116
  refine qac E ok (yy118 _ _) rfl rfl fun a E=>?_
  refine qac E ok (qaf qij rfl) rfl rfl fun a E=>?_
  refine qac E ok (qao qaZ rfl (qae.ro (At.sub 1 1 at117))) rfl rfl fun a E=>?_
  obtain ⟨r122,e123,hF⟩:=bnd hF
  refine qaz E qrN rfl (qiK N _ r65 h69 x110.ID r120 e123 hG ok) rfl rfl ?_
  rintro _ w ⟨⟨rfl,ok⟩,l124⟩
  refine ⟨_,rfl,fun a E=>?_⟩
  refine qac E ok (qad rfl) rfl rfl fun a E=>?_
  refine qac E ok (qaw rfl rfl) rfl rfl fun a E=>?_
  refine qac E ok (qaw rfl rfl) rfl rfl fun a E=>?_
  refine qac E ok (qaf qhv rfl) rfl rfl fun a E=>?_
  refine qai E ok 0 rfl rfl rfl qf7 rfl rfl ⟨rfl,trivial⟩ rfl rfl fun w ok=>?_
  refine qac E ok (qal rfl) rfl rfl fun a E=>?_
  refine wpList_nil ?_
  obtain rfl:=Option.some.inj hF
  exact ⟨rfl,⟨ok,E.keep [6,8,9,10,11,12,13,14,0,1,2],r85,r86,l124,l88,l89⟩⟩
 clear hJ
 intro e a w hO
 obtain ⟨rfl,ok,E,r125,r126,l127,l128,l129⟩:=hO
 refine qaa ?_
 refine wp_seq ?_
 refine wp_seq ?_
 refine qab ?_
 refine qac E ok (qao qix rfl (qae.own 2 rfl rfl)) rfl rfl fun a E=>?_
 refine qac E ok (qad rfl) rfl rfl fun a E=>?_
 obtain ⟨x130,e131,hF⟩:=bnd hF
 obtain ⟨b132,o133,es134,hl135,rr136,at137,yy138⟩:=qaN qf6 hcalls_1 e131 (P:=Tryz.prog) (X:=.tmp 80) (I:=.tmp 81) (kd:=.i64) (qah E rfl) (qah E rfl)
 obtain ⟨rfl,l139,r140,r141⟩:=rr136
 refine qac E ok (yy138 _ _) rfl rfl fun a E=>?_
 refine qac E ok (qaf qim rfl) rfl rfl fun a E=>?_
 refine qac E ok (qao qaZ rfl (qae.ro (At.sub 2 1 at137))) rfl rfl fun a E=>?_
 refine qac E ok (qbo rfl rfl) rfl rfl fun a E=>?_
 refine wpList_nil ?_
 refine qaa ?_
 obtain ⟨o142,hJ,hF⟩:=bnd hF
 refine qbx (Q':=fun e a w=>e = .normal ∧ Ok u m67 ([(b90,Obj.cells [(Value.int .i64 o142.2.call),(Value.int .i64 o142.2.offset),(Value.string (bs o142.2.id)),(Value.string (bs o142.2.source)),(Value.string (bs o142.2.comment))].toArray 105 (0,0))] :: [(b24,Obj.cells [(Value.string (bs x12.Kind)),(Value.string (bs x12.Text)),(Value.int .i64 x12.From)].toArray 29 (0,0))] :: [(b2,Obj.cells [vcalls_1].toArray 34 (0,0))] :: [(b1,Obj.cells [vl_0].toArray 26 (0,0))] :: S) w ∧ Env 126 a [(6,(Value.int .i64 r25)),(9,(Value.pointer (some ⟨b90,0,none⟩))),(10,(Value.bool o103.1)),(11,(Value.bool o142.1)),(12,vl_0),(13,(Value.int .i64 (l_0.length:Int))),(14,(Value.int .i64 i_2)),(0,(Value.func (.yield ln) #[] #[])),(1,(Value.pointer (some ⟨b1,0,none⟩))),(2,(Value.pointer (some ⟨b2,0,none⟩)))] ∧ InR .i64 o142.2.call ∧ InR .i64 o142.2.offset ∧ o142.2.id.length ≤ LIMS ∧ o142.2.source.length ≤ LIMS ∧ o142.2.comment.length ≤ LIMS) ?_ ?_
 ·replace hF:=hJ
  clear hJ
  refine c_if E rfl (fun hc148=>?_) (fun hc148=>?_)
  rotate_left
  ·replace hF:=qaj hc148 hF
   refine wp_skip ?_
   obtain rfl:=Option.some.inj hF
   exact ⟨rfl,⟨ok,E.keep [6,9,10,11,12,13,14,0,1,2],r125,r126,l127,l128,l129⟩⟩
  replace hF:=qak hc148 hF
  refine qab ?_
  refine qac E ok (qad rfl) rfl rfl fun a E=>?_
  refine qac E ok (qao qix rfl (qae.own 2 rfl rfl)) rfl rfl fun a E=>?_
  refine qac E ok (qad rfl) rfl rfl fun a E=>?_
  obtain ⟨x149,e150,hF⟩:=bnd hF
  obtain ⟨b151,o152,es153,hl154,rr155,at156,yy157⟩:=qaN qf6 hcalls_1 e150 (P:=Tryz.prog) (X:=.tmp 88) (I:=.tmp 89) (kd:=.i64) (qah E rfl) (qah E rfl)
  obtain ⟨rfl,l158,r159,r160⟩:=rr155
  refine qac E ok (yy157 _ _) rfl rfl fun a E=>?_
  refine qac E ok (qaf qim rfl) rfl rfl fun a E=>?_
  refine qac E ok (qao qaZ rfl (qae.ro (At.sub 2 1 at156))) rfl rfl fun a E=>?_
  obtain ⟨r161,e162,hF⟩:=bnd hF
  refine qaz E qrN rfl (qiK N _ r65 h69 x149.Source r160 e162 hG ok) rfl rfl ?_
  rintro _ w ⟨⟨rfl,ok⟩,l163⟩
  refine ⟨_,rfl,fun a E=>?_⟩
  refine qac E ok (qad rfl) rfl rfl fun a E=>?_
  refine qac E ok (qaw rfl rfl) rfl rfl fun a E=>?_
  refine qac E ok (qaw rfl rfl) rfl rfl fun a E=>?_
  refine qac E ok (qaf qit rfl) rfl rfl fun a E=>?_
  refine qai E ok 0 rfl rfl rfl qf7 rfl rfl ⟨rfl,trivial⟩ rfl rfl fun w ok=>?_
  refine qac E ok (qal rfl) rfl rfl fun a E=>?_
  refine wpList_nil ?_
  obtain rfl:=Option.some.inj hF
  exact ⟨rfl,⟨ok,E.keep [6,9,10,11,12,13,14,0,1,2],r125,r126,l127,l163,l129⟩⟩
 clear hJ
 intro e a w hO
 obtain ⟨rfl,ok,E,r164,r165,l166,l167,l168⟩:=hO
 refine qaa ?_
 refine wp_seq ?_
 refine wp_seq ?_
 refine qab ?_
 refine qac E ok (qad rfl) rfl rfl fun a E=>?_
 refine qac E ok (qbQ rfl) rfl rfl fun a E=>?_
 refine qac E ok (qad rfl) rfl rfl fun a E=>?_
 refine qap (!o103.1) (fun hc169=>?_) (fun hc169=>?_)
 ·replace hF:=qak hc169 hF
  replace E:=E.upd 99 hc169 rfl
  refine qbn E rfl rfl fun a E=>?_
  refine qbn E rfl rfl fun a E=>?_
  refine qac E ok (qbR rfl rfl) rfl rfl fun a E=>?_
  refine wpList_nil ?_
  refine qaa ?_
  refine c_if E rfl (fun _=>?_) (fun h=>by cases h)
  refine wp_exit ?_
  refine qaB ?_
  refine qaS ?_
  exact hskip le_m0 (ok.pk 4 [2,3] rfl (by decide)) (E.keep [12,13,14,0,1,2]) (Option.some.inj hF).symm
 replace hF:=qaj hc169 hF
 replace E:=E.upd 99 hc169 rfl
 refine qac E ok (qad rfl) rfl rfl fun a E=>?_
 refine qac E ok (qbQ rfl) rfl rfl fun a E=>?_
 refine qac E ok (qbH rfl rfl) rfl rfl fun a E=>?_
 refine wpList_nil ?_
 refine qaa ?_
 refine c_if E rfl (fun hc170=>?_) (fun hc170=>?_)
 ·replace hF:=qak hc170 hF
  refine wp_exit ?_
  refine qaB ?_
  refine qaS ?_
  exact hskip le_m0 (ok.pk 4 [2,3] rfl (by decide)) (E.keep [12,13,14,0,1,2]) (Option.some.inj hF).symm
 replace hF:=qaj hc170 hF
 refine wp_skip ?_
 refine qaa ?_
 refine wp_seq ?_
 refine wp_seq ?_
 refine qab ?_
 refine qac E ok (qao qix rfl (qae.own 2 rfl rfl)) rfl rfl fun a E=>?_
 refine qac E ok (qad rfl) rfl rfl fun a E=>?_
 obtain ⟨x171,e172,hF⟩:=bnd hF
 obtain ⟨b173,o174,es175,hl176,rr177,at178,yy179⟩:=qaN qf6 hcalls_1 e172 (P:=Tryz.prog) (X:=.tmp 103) (I:=.tmp 104) (kd:=.i64) (qah E rfl) (qah E rfl)
 obtain ⟨rfl,l180,r181,r182⟩:=rr177
 refine qac E ok (yy179 _ _) rfl rfl fun a E=>?_
 refine qac E ok (qaf qij rfl) rfl rfl fun a E=>?_
 refine qac E ok (qao qaZ rfl (qae.ro (At.sub 1 1 at178))) rfl rfl fun a E=>?_
 refine qac E ok (qaA rfl rfl) rfl rfl fun a E=>?_
 refine wpList_nil ?_
 refine qaa ?_
 obtain ⟨o183,hJ,hF⟩:=bnd hF
 refine qbx (Q':=fun e a w=>e = .normal ∧ Ok u m67 ([(b90,Obj.cells [(Value.int .i64 o183.call),(Value.int .i64 o183.offset),(Value.string (bs o183.id)),(Value.string (bs o183.source)),(Value.string (bs o183.comment))].toArray 105 (0,0))] :: [(b24,Obj.cells [(Value.string (bs x12.Kind)),(Value.string (bs x12.Text)),(Value.int .i64 x12.From)].toArray 29 (0,0))] :: [(b2,Obj.cells [vcalls_1].toArray 34 (0,0))] :: [(b1,Obj.cells [vl_0].toArray 26 (0,0))] :: S) w ∧ Env 126 a [(6,(Value.int .i64 r25)),(9,(Value.pointer (some ⟨b90,0,none⟩))),(12,vl_0),(13,(Value.int .i64 (l_0.length:Int))),(14,(Value.int .i64 i_2)),(0,(Value.func (.yield ln) #[] #[])),(1,(Value.pointer (some ⟨b1,0,none⟩))),(2,(Value.pointer (some ⟨b2,0,none⟩)))] ∧ InR .i64 o183.call ∧ InR .i64 o183.offset ∧ o183.id.length ≤ LIMS ∧ o183.source.length ≤ LIMS ∧ o183.comment.length ≤ LIMS) ?_ ?_
 ·replace hF:=hJ
  clear hJ
  refine c_if E rfl (fun hc189=>?_) (fun hc189=>?_)
  rotate_left
  ·replace hF:=qaj hc189 hF
   refine wp_skip ?_
   obtain rfl:=Option.some.inj hF
   exact ⟨rfl,⟨ok,E.keep [6,9,12,13,14,0,1,2],r164,r165,l166,l167,l168⟩⟩
  replace hF:=qak hc189 hF
  refine qab ?_
  refine qac E ok (qaf qit rfl) rfl rfl fun a E=>?_
  refine qac E ok (qao qav rfl (qae.own 0 rfl rfl)) rfl rfl fun a E=>?_
  refine qac E ok (qaf qhv rfl) rfl rfl fun a E=>?_
  refine qai E ok 0 rfl rfl rfl qf7 rfl rfl ⟨rfl,trivial⟩ rfl rfl fun w ok=>?_
  refine wpList_nil ?_
  obtain rfl:=Option.some.inj hF
  exact ⟨rfl,⟨ok,E.keep [6,9,12,13,14,0,1,2],r164,r165,l167,l167,l168⟩⟩
 clear hJ
 intro e a w hO
 obtain ⟨rfl,ok,E,r190,r191,l192,l193,l194⟩:=hO
 refine qaa ?_
 refine wp_seq ?_
 refine wp_seq ?_
 refine qab ?_
 refine qac E ok (qao qix rfl (qae.own 2 rfl rfl)) rfl rfl fun a E=>?_
 refine qac E ok (qad rfl) rfl rfl fun a E=>?_
 obtain ⟨x195,e196,hF⟩:=bnd hF
 obtain ⟨b197,o198,es199,hl200,rr201,at202,yy203⟩:=qaN qf6 hcalls_1 e196 (P:=Tryz.prog) (X:=.tmp 112) (I:=.tmp 113) (kd:=.i64) (qah E rfl) (qah E rfl)
 obtain ⟨rfl,l204,r205,r206⟩:=rr201
 refine qac E ok (yy203 _ _) rfl rfl fun a E=>?_
 refine qac E ok (qaf qim rfl) rfl rfl fun a E=>?_
 refine qac E ok (qao qaZ rfl (qae.ro (At.sub 2 1 at202))) rfl rfl fun a E=>?_
 refine qac E ok (qaA rfl rfl) rfl rfl fun a E=>?_
 refine wpList_nil ?_
 refine qaa ?_
 obtain ⟨o207,hJ,hF⟩:=bnd hF
 refine qbx (Q':=fun e a w=>e = .normal ∧ Ok u m67 ([(b90,Obj.cells [(Value.int .i64 o207.call),(Value.int .i64 o207.offset),(Value.string (bs o207.id)),(Value.string (bs o207.source)),(Value.string (bs o207.comment))].toArray 105 (0,0))] :: [(b24,Obj.cells [(Value.string (bs x12.Kind)),(Value.string (bs x12.Text)),(Value.int .i64 x12.From)].toArray 29 (0,0))] :: [(b2,Obj.cells [vcalls_1].toArray 34 (0,0))] :: [(b1,Obj.cells [vl_0].toArray 26 (0,0))] :: S) w ∧ Env 126 a [(9,(Value.pointer (some ⟨b90,0,none⟩))),(12,vl_0),(13,(Value.int .i64 (l_0.length:Int))),(14,(Value.int .i64 i_2)),(0,(Value.func (.yield ln) #[] #[])),(1,(Value.pointer (some ⟨b1,0,none⟩))),(2,(Value.pointer (some ⟨b2,0,none⟩)))] ∧ InR .i64 o207.call ∧ InR .i64 o207.offset ∧ o207.id.length ≤ LIMS ∧ o207.source.length ≤ LIMS ∧ o207.comment.length ≤ LIMS) ?_ ?_
 ·replace hF:=hJ
  clear hJ
  refine c_if E rfl (fun hc213=>?_) (fun hc213=>?_)
  rotate_left
  ·replace hF:=qaj hc213 hF
   refine wp_skip ?_
   obtain rfl:=Option.some.inj hF
   exact ⟨rfl,⟨ok,E.keep [9,12,13,14,0,1,2],r190,r191,l192,l193,l194⟩⟩
  replace hF:=qak hc213 hF
  refine qab ?_
  refine qac E ok (qaf qhv rfl) rfl rfl fun a E=>?_
  refine qac E ok (qao qav rfl (qae.own 0 rfl rfl)) rfl rfl fun a E=>?_
  refine qac E ok (qaf qit rfl) rfl rfl fun a E=>?_
  refine qai E ok 0 rfl rfl rfl qf7 rfl rfl ⟨rfl,trivial⟩ rfl rfl fun w ok=>?_
  refine wpList_nil ?_
  obtain rfl:=Option.some.inj hF
  exact ⟨rfl,⟨ok,E.keep [9,12,13,14,0,1,2],r190,r191,l192,l192,l194⟩⟩
 clear hJ
 intro e a w hO
 obtain ⟨rfl,ok,E,r214,r215,l216,l217,l218⟩:=hO
 refine qaa ?_
 refine wp_seq ?_
 obtain rfl:=Option.some.inj hF
 obtain ⟨okW,y,hyv,hrs2,hy⟩:=hyd (X:=[]) le_m0 (ok.pk 4 [2,3] rfl (by decide)) rfl
 refine (wpIn_wide (n:=2)).1 (wpIn_region_lit ?_)
 refine ql4 (by intro c h; cases h) fun K hK=>lv E ok (qad rfl) fun a E=>wn_ hK ?_
 refine ql4 (by intro c h; cases h) fun K hK=>lv E ok (qat (cs:=fcs o207) qsU rfl rfl (qae.own 0 rfl rfl)) fun a E=>wn_ hK ?_
 refine qsT E rfl rfl hy rfl rfl ?_
 rintro e w3 (⟨rfl,hJ3,hK3⟩ | ⟨rfl,hJ3⟩)
 ·refine ⟨_,rfl,fun a E=>?_⟩
  have ok3:=hK3 okW
  refine ql4 (by intro c h; cases h) fun K hK=>lv E ok3 (qbQ rfl) fun a E=>wn_ hK ?_
  refine wpListIn_nil (qaa ?_)
  refine c_if E rfl (fun h=>by cases h) (fun _=>?_)
  refine wp_skip<|qaq ?_
  rw [hQ']
  exact .inl ⟨rfl,acc ++ [y],E.keep [12,13,14,0,1,2],ok3,hJ3,hrs2⟩
 ·refine ⟨_,rfl,fun a E=>?_⟩
  refine ql4 (by intro c h; cases h) fun K hK=>lw E (qbQ rfl) fun a E=>wn_ hK ?_
  refine wpListIn_nil (qaa ?_)
  refine c_if E rfl (fun _=>?_) (fun h=>by cases h)
  refine wp_ret<|qan ?_
  rw [hQ']
  exact .inr ⟨rfl,E.d,acc ++ [y],⟨rest',hrs2⟩,hJ3⟩
theorem qkt {σ ρ:Type} (f:σ → Found2 → Option (σ ⊕ ρ)):∀ (xs:List Found2) (x:Found2) (s s':σ),runF f xs s = some (.inl s') → runF f (xs ++ [x]) s = (f s' x).bind fun o=>Sum.elim (fun s'=>some (.inl s')) (fun r=>some (.inr r)) o
 | [],x,s,s',h=>by
  obtain rfl:=Sum.inl.inj (Option.some.inj h)
  rfl
 | y :: xs,x,s,s',h=>by
  rw [List.cons_append,runF]
  rw [runF] at h
  cases hf:f s y with
  | none=>rw [hf] at h; cases h
  | some o =>
   rw [hf] at h
   cases o with
   | inl s1=>exact qkt f xs x s1 s' h
   | inr r=>cases h
theorem qnS {σ ρ:Type} (f:σ → Found2 → Option (σ ⊕ ρ)):∀ (xs ys:List Found2) (s:σ) (r:ρ),runF f xs s = some (.inr r) → runF f (xs ++ ys) s = some (.inr r)
 | [],ys,s,r,h=>by cases h
 | y :: xs,ys,s,r,h=>by
  rw [List.cons_append,runF]
  rw [runF] at h
  cases hf:f s y with
  | none=>rw [hf] at h; cases h
  | some o =>
   rw [hf] at h
   cases o with
   | inl s1=>exact qnS f xs ys s1 r h
   | inr r1=>exact h
set_option maxRecDepth 100000 in
set_option maxHeartbeats 4000000 in
theorem qpG {ds:List Deferred} {u:World} {m:Mem} {S0:Segs} {w:World} {a:Act} {L:List (Nat × Value)} {nt N nc B bl bc:Nat} {vl vc:Value} {l:List Token} {calls:List Call} {rs:List Found2} {σ ρ:Type} {Q:Exit → Act → World → Prop}
  {g:Operand} {p t id:Nat} {body:Code} {ty1 ty2:TypeId} {pos1 pos2:String} {af1 af2:Array Edge} (E:Env nt a L) (hX:ev L g = some (.func (.func 53) #[] #[.pointer (some ⟨bl,0,none⟩),.pointer (some ⟨bc,0,none⟩)])) (hp:Nat.blt p nt = true) (ht:Nat.blt t nt = true) (hlt:∀ v v':Value,ev ((t,v) :: (p,v') :: L) (.tmp t) = some v) (hlp:∀ v v':Value,ev ((t,v) :: (p,v') :: L) (.tmp p) = some v')
  (ok:Ok u m ([(bc,Obj.cells [vc].toArray 34 (0,0))] :: [(bl,Obj.cells [vl].toArray 26 (0,0))] :: S0) w) (hl:(pL 3 qbM) m [vl] l) (hc:(pL 3 qaL) m [vc] calls) (hF:qd4 N l calls = some rs) (hB:∀ x ∈ rs,FOk nc B x) (hG:Glob u)
  (Rep:Nat → σ → Segs → Prop) (RepX:ρ → Segs → Prop) (f:σ → Found2 → Option (σ ⊕ ρ)) (s0:σ) (h0:Rep 0 s0 S0)
  (hcl:∀ j s T,Rep j s T → ∀ q ∈ T.flatten,q.1 < w.heap.size ∨ q.2.isCells = true) (hclx:∀ r T,RepX r T → ∀ q ∈ T.flatten,q.1 < w.heap.size ∨ q.2.isCells = true)
  (hround:∀ (k j:Nat) (s:σ) (T:Segs) (x:Found2) (bx:Nat) (m':Mem) (a':Act) (W:World) (Q':Exit → Act → World → Prop),Rep j s T → j < rs.length → FOk nc B x → m.le m' →
   Ok u m' ([(bx,Obj.cells (fcs x).toArray 105 (0,0))] :: [(bc,Obj.cells [vc].toArray 34 (0,0))] :: [(bl,Obj.cells [vl].toArray 26 (0,0))] :: T) W → Env nt a' ((t,.pointer (some ⟨bx,0,none⟩)) :: (p,.agg (fcs x).toArray) :: L) →
   (∀ s' T' m'' a'' W',f s x = some (.inl s') → Rep (j + 1) s' T' → m'.le m'' → Ok u m'' ([(bc,Obj.cells [vc].toArray 34 (0,0))] :: [(bl,Obj.cells [vl].toArray 26 (0,0))] :: T') W' → Q' .normal a'' W') →
   (∀ r T' m'' a'' W',f s x = some (.inr r) → RepX r T' → m'.le m'' → Ok u m'' ([(bc,Obj.cells [vc].toArray 34 (0,0))] :: [(bl,Obj.cells [vl].toArray 26 (0,0))] :: T') W' → Q' .ret a'' W') →
   body.wpIn (rf_ k) 1 Tryz.prog Q' a' W)
  (hdone:∀ D s T W,Rep rs.length s T → runF f rs s0 = some (.inl s) → Ok u m ([(bc,Obj.cells [vc].toArray 34 (0,0))] :: [(bl,Obj.cells [vl].toArray 26 (0,0))] :: T) W → w.heap.size ≤ D → W.heap[D]? = some (.deferred (some [])) → Q .normal { a with defers:={ target:=.collected D,args:=#[] } :: ds } W)
  (hstop:∀ D r T W,RepX r T → runF f rs s0 = some (.inr r) → Ok u m ([(bc,Obj.cells [vc].toArray 34 (0,0))] :: [(bl,Obj.cells [vl].toArray 26 (0,0))] :: T) W → w.heap.size ≤ D → W.heap[D]? = some (.deferred (some [])) → Q .ret { a with defers:={ target:=.collected D,args:=#[] } :: ds } W) :
  (Code.rangeFunc g #[p] (Code.region id [⟨some t,.alloc 105,ty1,pos1,af1,none⟩,⟨none,.store 105 (.tmp t) (.tmp p),ty2,pos2,af2,none⟩].toArray false) body).wpIn Fence.wide 3 Tryz.prog Q { a with defers:=ds } w:=by
 have hmlt:∀ b o,m b = some o → b < w.heap.size:=fun b o h=>ok.m_lt h
 have T0lt:∀ q ∈ ([(bc,Obj.cells [vc].toArray 34 (0,0))] ++ [(bl,Obj.cells [vl].toArray 26 (0,0))]:List (Nat × Obj)),q.2.isCells = true:=fun q hq=>by
  rcases List.mem_append.1 hq with hq | hq <;> obtain rfl:=List.mem_singleton.1 hq <;> rfl
 have own:∀ {T:Segs} {X:List (Nat × Obj)},(∀ q ∈ X,q.2.isCells = true) → (∀ q ∈ T.flatten,q.1 < w.heap.size ∨ q.2.isCells = true) → ∀ q ∈ (X :: [(bc,Obj.cells [vc].toArray 34 (0,0))] :: [(bl,Obj.cells [vl].toArray 26 (0,0))] :: T).flatten,q.1 < w.heap.size ∨ q.2.isCells = true:=fun hX hT q hq=>by
  simp only [List.flatten_cons,List.mem_append] at hq
  rcases hq with hq | hq | hq | hq
  ·exact .inr (hX q hq)
  ·exact .inr (T0lt q (List.mem_append_left _ hq))
  ·exact .inr (T0lt q (List.mem_append_right _ hq))
  ·exact hT q hq
 have own0:∀ {T:Segs},(∀ q ∈ T.flatten,q.1 < w.heap.size ∨ q.2.isCells = true) → ∀ q ∈ ([(bc,Obj.cells [vc].toArray 34 (0,0))] :: [(bl,Obj.cells [vl].toArray 26 (0,0))] :: T).flatten,q.1 < w.heap.size ∨ q.2.isCells = true:=fun hT q hq=>by
  have:=own (X:=[]) (by simp) hT
  exact this q (by simpa using hq)
 have okT:Ok u m [[(bc,Obj.cells [vc].toArray 34 (0,0))],[(bl,Obj.cells [vl].toArray 26 (0,0))]] w:=Ok.init (A:=[[(bc,Obj.cells [vc].toArray 34 (0,0))],[(bl,Obj.cells [vl].toArray 26 (0,0))]]) ok
 refine qqo (α:=Fo nc B) (N:=rs.length) (encs:=fun x=>#[Value.agg (fcs x.1).toArray]) (Kp:=KpO u m [[(bc,Obj.cells [vc].toArray 34 (0,0))],[(bl,Obj.cells [vl].toArray 26 (0,0))]]) ((show ({ a with defers:=ds }:Act).eval g = a.eval g from by cases g <;> rfl).trans (E.ev hX)) (fun args w=>rfl) (qp4 hl hc hF hB hG okT)
  (fun h k o=>k (h o)) (fun W l o o' hl h1 h2 h3 hok=>?_) (fun _=>rfl)
  (fun pre W=>∃ s T,Rep pre.length s T ∧ runF f (pre.map (·.1)) s0 = some (.inl s) ∧ Ok u m ([(bc,Obj.cells [vc].toArray 34 (0,0))] :: [(bl,Obj.cells [vl].toArray 26 (0,0))] :: T) W)
  (fun c pre W=>c = .ret ∧ ∃ r T,RepX r T ∧ runF f (pre.map (·.1)) s0 = some (.inr r) ∧ Ok u m ([(bc,Obj.cells [vc].toArray 34 (0,0))] :: [(bl,Obj.cells [vl].toArray 26 (0,0))] :: T) W)
  ?_ ?_ ⟨s0,S0,h0,rfl,ok⟩
  (fun pre x a' W=>∃ s T bx,Rep pre.length s T ∧ runF f (pre.map (·.1)) s0 = some (.inl s) ∧ Ok u m ([(bx,Obj.cells (fcs x.1).toArray 105 (0,0))] :: [(bc,Obj.cells [vc].toArray 34 (0,0))] :: [(bl,Obj.cells [vl].toArray 26 (0,0))] :: T) W ∧ Env nt a' ((t,.pointer (some ⟨bx,0,none⟩)) :: (p,.agg (fcs x.1).toArray) :: L))
  ?_ ?_ ?_ ?_ ?_
 ·refine hok.grownC (B:=w.heap.size) (grownBy_putObj' W l o') (fun r e=>by cases e; exact ⟨hl,o,h1,h2⟩) hmlt (fun q hq=>.inr (T0lt q (by simpa using hq)))
 ·rintro pre X Y row ⟨s,T,h1,h2,h3⟩ hg hr
  exact ⟨s,T,h1,h2,h3.grownC (B:=w.heap.size) hg hr hmlt (own0 (hcl _ _ _ h1))⟩
 ·rintro c pre X Y row ⟨rfl,r,T,h1,h2,h3⟩ hg hr
  exact ⟨rfl,r,T,h1,h2,h3.grownC (B:=w.heap.size) hg hr hmlt (own0 (hclx _ _ h1))⟩
 ·rintro pre x a' W l o o' ⟨s,T,bx,h1,h2,h3,h4⟩ hl hlo
  exact ⟨s,T,bx,h1,h2,h3.grownC (B:=w.heap.size) (grownBy_putObj' W l (.loop o')) (fun r e=>by cases e; exact ⟨hl,_,hlo,rfl⟩) hmlt (own (fun q hq=>by obtain rfl:=List.mem_singleton.1 hq; rfl) (hcl _ _ _ h1)),h4⟩
 ·-- the loop's variable
  rintro k pre x W K ⟨s,T,h1,h2,h3⟩ hlen hK
  have E1:=E.put p (Value.agg (fcs x.1).toArray) hp
  replace E1:=qpD E1 (t:=((#[p]:Array Nat).zip #[Value.agg (fcs x.1).toArray]).foldl (fun t (p:Nat × Value)=>t.setIfInBounds p.1 p.2) a.tmps) (by simp [Act.put])
  have okF:=h3.full
  refine qeg rfl ?_
  refine qaC E1 okF qiq rfl ht fun bx a1 W1 E1 ok1=>?_
  refine qai (v:=.agg (fcs x.1).toArray) E1 ok1 0 rfl (hlt _ _) (hlp _ _) qmv rfl rfl ⟨rfl,rfl,rfl,rfl,rfl,trivial⟩ rfl rfl fun W2 ok2=>?_
  refine wpList_nil ⟨rfl,qaa ?_⟩
  have ok3:Ok u m ([(bx,Obj.cells (fcs x.1).toArray 105 (0,0))] :: [(bc,Obj.cells [vc].toArray 34 (0,0))] :: [(bl,Obj.cells [vl].toArray 26 (0,0))] :: T) W2:=ok2.down ok.base h3.hmx_le
  refine hK _ _ (h3.keepsS _ (own0 (hcl _ _ _ h1)) (Mem.le.refl _) ok2) (fun _=>Ok.init (A:=[[(bc,Obj.cells [vc].toArray 34 (0,0))],[(bl,Obj.cells [vl].toArray 26 (0,0))]]) ok3.drop) ⟨s,T,bx,h1,h2,ok3,E1⟩
 ·-- the body
  rintro k pre x a' W hk ⟨s,T,bx,h1,h2,h3,E1⟩ hlen
  have hx:=x.2
  have okF:=h3.full
  refine hround k pre.length s T x.1 bx _ a' W _ h1 hlen hx h3.hmx_le okF E1 (fun s' T' m'' a'' W' hf hr hle ok'=>?_) (fun r T' m'' a'' W' hf hr hle ok'=>?_)
  ·have okm:Ok u m _ W':=ok'.down ok.base (h3.hmx_le.trans hle)
   refine ⟨h3.keepsS _ (own (fun q hq=>by obtain rfl:=List.mem_singleton.1 hq; rfl) (hcl _ _ _ h1)) hle ok',fun _=>Ok.init (A:=[[(bc,Obj.cells [vc].toArray 34 (0,0))],[(bl,Obj.cells [vl].toArray 26 (0,0))]]) okm,s',T',by simpa using hr,?_,okm⟩
   rw [List.map_append,List.map_cons,List.map_nil,qkt f _ _ _ _ h2,hf]
   rfl
  ·have okm:Ok u m _ W':=ok'.down ok.base (h3.hmx_le.trans hle)
   refine ⟨h3.keepsS _ (own (fun q hq=>by obtain rfl:=List.mem_singleton.1 hq; rfl) (hcl _ _ _ h1)) hle ok',rfl,r,T',hr,?_,okm⟩
   rw [List.map_append,List.map_cons,List.map_nil,qkt f _ _ _ _ h2,hf]
   rfl
 ·rintro D xs W hD hxs ⟨s,T,h1,h2,h3⟩ hdef
  rw [hxs] at h2
  refine hdone D s T W ?_ h2 h3 hD hdef
  rw [← hxs,List.length_map]
  exact h1
 ·rintro D c pre W hD ⟨zs,hzs⟩ ⟨rfl,r,T,h1,h2,h3⟩ hdef
  refine wpIn_ret (hstop D r T W h1 ?_ h3 hD hdef)
  rw [← hzs]
  exact qnS f _ _ _ _ h2
end Go.Proofs.YtllfckekodcdaaaGreatDoor
namespace Go.Proofs.YtllfckekodcdaaaGreatDoor
open Go.X
theorem qff:aggB Tryz.prog 46 2 = true:=by kernel_rfl
theorem qnZ:qaI Tryz.prog 105 1 1 = true:=by kernel_rfl
theorem qlx:qaI Tryz.prog 105 4 4 = true:=by kernel_rfl
theorem qcX:qaI Tryz.prog 58 1 1 = true:=by kernel_rfl
theorem qo7:qaI Tryz.prog 75 1 1 = true:=by kernel_rfl
theorem qua:goB Tryz.prog 12 = true:=by kernel_rfl
theorem quA:goB Tryz.prog 35 = true:=by kernel_rfl
theorem quc:goB Tryz.prog 43 = true:=by kernel_rfl
theorem quk:goB Tryz.prog 44 = true:=by kernel_rfl
theorem quz:goB Tryz.prog 45 = true:=by kernel_rfl
theorem quB:goB Tryz.prog 46 = true:=by kernel_rfl
set_option maxRecDepth 100000 in
theorem qsS:∃ i,Tryz.prog.info? 130 = some i ∧ i.size = 1:=⟨_,rfl,by kernel_rfl⟩
set_option maxRecDepth 100000 in
theorem qhb:∃ i,Tryz.prog.info? 44 = some i ∧ i.size = 1:=⟨_,rfl,by kernel_rfl⟩
set_option maxRecDepth 100000 in
theorem qen:∃ i,Tryz.prog.info? 46 = some i ∧ i.size = 2:=⟨_,rfl,by kernel_rfl⟩
set_option maxRecDepth 100000 in
theorem qhX:∃ i,Tryz.prog.info? 47 = some i ∧ i.size = 1:=⟨_,rfl,by kernel_rfl⟩
set_option maxRecDepth 100000 in
theorem qs3:∃ i,Tryz.prog.info? 50 = some i ∧ i.size = 1:=⟨_,rfl,by kernel_rfl⟩
theorem qfm:oneB Tryz.prog 44 = true:=by kernel_rfl
theorem qhM:oneB Tryz.prog 47 = true:=by kernel_rfl
theorem qft:qcY Tryz.prog 46 = some [(0,1),(1,1)]:=by kernel_rfl
theorem qmR:qcY Tryz.prog 58 = some [(0,1),(1,1)]:=by kernel_rfl
theorem qq7:qby Tryz.prog 130 = some [(Value.map none)]:=by kernel_rfl
theorem qoK:qby Tryz.prog 44 = some [(Value.slice none 0 0)]:=by kernel_rfl
theorem qdB:qby Tryz.prog 46 = some [(Value.int .i64 0),(Value.int .i64 0)]:=by kernel_rfl
theorem qr7:qby Tryz.prog 47 = some [(Value.int .i64 0)]:=by kernel_rfl
theorem qkT:qby Tryz.prog 58 = some [(Value.string (bs ([]))),(Value.string (bs ([])))]:=by kernel_rfl
theorem qnz:qby Tryz.prog 9 = some [(Value.string (bs ([])))]:=by kernel_rfl
theorem qs0 {nc B:Nat} {x:Found2} (h:fokb nc B x = true):FOk nc B x:=by
 unfold fokb at h
 have h1:=of_decide_eq_true h
 exact h1
theorem qqz {N nc B:Nat} {l:List Token} {calls:List Call} {rs:List Found2} (h:qfl N nc B l calls = some rs):qd4 N l calls = some rs ∧ ∀ x ∈ rs,FOk nc B x:=by
 unfold qfl at h
 obtain ⟨r,h1,h⟩:=bnd h
 cases hb:r.all (fokb nc B) with
 | false=>rw [hb] at h; cases h
 | true =>
  rw [hb] at h
  obtain rfl:=Option.some.inj h
  rw [List.all_eq_true] at hb
  exact ⟨h1,fun x hx=>qs0 (hb x hx)⟩
theorem qum:goB Tryz.prog 36 = true:=by kernel_rfl
end Go.Proofs.YtllfckekodcdaaaGreatDoor
namespace Go.Proofs.YtllfckekodcdaaaGreatDoor
open Go.X
abbrev Mp:=List (List UInt8 × Int)
def E0 (id src:List UInt8):Entry:=Entry.mk id src [] [] [] 0 [Field.mk [114,101,102] []]
def refT (f:File) (x:Found2):List UInt8:=f.Name ++ [58] ++ Lib.itoa (1 + (Lib.count (f.Text.take x.offset.toNat) [10]:Int))
def cms (e:Entry) (c:List UInt8):List (List UInt8):=if c = [] ∨ e.Comments.contains c = true then e.Comments else e.Comments ++ [c]
def fld (l:List Field) (kn:Bool) (r:List UInt8):List Field:=match l with | g :: gs=>Field.mk g.Name (g.Value ++ (bif kn then [32] else []) ++ r) :: gs | []=>[]
def ent (e:Entry) (x:Found2) (kn:Bool) (r:List UInt8):Entry:=Entry.mk e.ID e.Source e.Target (cms e x.comment) e.Flags e.State (fld e.Fields kn r)
def rnd (i:Int) (f:File) (x:Found2) (ix:Mp) (out:List Entry):(Mp × List Entry) ⊕ (List Entry × Place × Int) :=
 bif (mget ix x.id).isSome then
  match out[((mget ix x.id).getD 0).toNat]? with
  | none=>.inr ([],Place.mk 0 0,0)
  | some e=>if e.Source = x.source then .inl (ix,out.set ((mget ix x.id).getD 0).toNat (ent e x true (refT f x))) else .inr ([],Place.mk i x.offset,14)
 else .inl (mput ix x.id (out.length:Int),out ++ [ent (E0 x.id x.source) x false (refT f x)])
structure Rb (N:Nat) (f:File) (x:Found2) (ix:Mp) (out:List Entry):Prop where
 nm:f.Name.length ≤ 1000000
 tx:f.Text.length ≤ 1000000
 of0:0 ≤ x.offset
 of1:x.offset ≤ (f.Text.length:Int)
 ol:out.length ≤ 10000000
 il:ix.length ≤ 10000000
 iv:∀ p ∈ ix,0 ≤ p.2 ∧ p.2 < (out.length:Int)
 fl:∀ e ∈ out,∃ g,e.Fields = [g] ∧ g.Value.length ≤ 100000000000000
 cl:∀ e ∈ out,e.Comments.length < N ∧ e.Comments.length ≤ 10000000
 n0:0 < N
theorem qq6 {ix:Mp} {k:List UInt8} {v:Int} (h:mget ix k = some v):∃ p ∈ ix,p.2 = v:=by
 unfold mget at h
 cases hf:ix.find? (fun p=>k == p.1) with
 | none=>rw [hf] at h; cases h
 | some p =>
  rw [hf] at h
  exact ⟨p,List.mem_of_find?_eq_some hf,Option.some.inj h⟩
theorem qoq {N:Nat} (l:List (List UInt8)) (c:List UInt8) (hN:l.length < N):qbS N l c = some (l.contains c):=by
 unfold qbS qc3
 have key:∀ (j:Nat) (M:Nat),j ≤ l.length → l.length - j < M → (∀ i,i < j → l[i]? ≠ some c) → ((iter (fun s=>qbw N l c s) M (j:Int)).bind fun o=>Sum.elim (fun _=>some (-1:Int)) (fun o=>some o) o).bind (fun r=>some (decide (r ≥ 0))) = some ((l.drop j).contains c):=by
  intro j M
  induction M generalizing j with
  | zero=>intro _ h; omega
  | succ M ih =>
   intro hj hM hn
   rw [iter]
   by_cases h:j < l.length
   ·have hb:qbw N l c (j:Int) = if c = l[j] then some (.inr (.inr (j:Int))) else some (.inl ((j:Int) + 1)):=by
     unfold qbw
     rw [decide_eq_true (by omega),cond_true,idx,if_pos (by omega),Int.toNat_natCast,List.getElem?_eq_getElem h,Option.bind_some]
     by_cases hc:c = l[j]
     ·rw [if_pos hc,beq_iff_eq.2 hc,cond_true]
     ·rw [if_neg hc,beq_eq_false_iff_ne.2 hc,cond_false]
    rw [hb,List.drop_eq_getElem_cons h,List.contains_cons]
    by_cases hc:c = l[j]
    ·rw [if_pos hc]
     simp [← hc]
    ·rw [if_neg hc,beq_eq_false_iff_ne.2 hc,Bool.false_or]
     exact ih (j + 1) (by omega) (by omega) (fun i hi=>by
      by_cases hij:i < j
      ·exact hn i hij
      ·obtain rfl:i = j:=by omega
       rw [List.getElem?_eq_getElem h]
       intro e; exact hc (Option.some.inj e).symm)
   ·have hb:qbw N l c (j:Int) = some (.inr (.inl ())):=by
     unfold qbw
     rw [decide_eq_false (by omega),cond_false]
    rw [hb,List.drop_eq_nil_of_le (by omega)]
    rfl
 have:=key 0 N (by omega) (by omega) (fun i hi=>by omega)
 simpa using this
theorem qqw:∀ u:Nat,(Lib.decDigits u).length ≤ u + 1:=by
 intro u
 induction u using Nat.strongRecOn with
 | _ u ih =>
  rw [Lib.decDigits]
  by_cases h:u < 10
  ·rw [dif_pos h]; simp
  ·rw [dif_neg h,List.length_append]
   have:=ih (u / 10) (by omega)
   simp; omega
theorem qhx {a b:List UInt8} (h:a.length + b.length ≤ 9000000000000000000):cat a b = some (a ++ b):=by unfold cat; rw [if_pos (by unfold LIMS; omega)]
theorem qnr {α:Type} {a b:List α} (h:a.length + b.length ≤ 4000000000):app a b = some (a ++ b):=by unfold app; rw [if_pos (by unfold LIM; omega)]
theorem qmD {N:Nat} {f:File} {x:Found2} (h1:f.Name.length ≤ 1000000) (h2:f.Text.length ≤ 1000000) (h3:0 ≤ x.offset) (h4:x.offset ≤ (f.Text.length:Int)) {β:Type} (K:List UInt8 → Option β) :
  ((cat f.Name ([58])).bind fun s175=>(slc f.Text 0 x.offset).bind fun s177=>(qeG N s177 ([10])).bind fun r179=>(qeH N (IntKind.wrap .i64 ((1:Int) + r179))).bind fun r182=>(cat s175 r182).bind K) = K (refT f x) ∧ (refT f x).length ≤ 10000000:=by
 have hc:Lib.count (f.Text.take x.offset.toNat) [10] ≤ (f.Text.take x.offset.toNat).length + 1:=Lib.count_le _ _
 have ht:(f.Text.take x.offset.toNat).length ≤ 1000000:=by rw [List.length_take]; omega
 have hi:Lib.itoa (1 + (Lib.count (f.Text.take x.offset.toNat) [10]:Int)) = Lib.decDigits (1 + Lib.count (f.Text.take x.offset.toNat) [10]):=by
  unfold Lib.itoa
  rw [if_neg (by omega)]
  congr 1 <;> omega
 have hl:=qqw (1 + Lib.count (f.Text.take x.offset.toNat) [10])
 constructor
 ·rw [qhx (by simp; omega),Option.bind_some,slc,if_pos ⟨by omega,h3,h4⟩,Option.bind_some]
  rw [show (f.Text.drop (0:Int).toNat).take (x.offset - 0).toNat = f.Text.take x.offset.toNat by simp]
  rw [qeG,if_pos ⟨by decide,by omega⟩,Option.bind_some,qfj (qda.2 ⟨by omega,by omega⟩),qeH,hi,if_pos (by unfold LIMS; omega),Option.bind_some,qhx (by simp; omega),Option.bind_some]
  unfold refT
  rw [hi]
 ·unfold refT
  rw [hi]
  simp only [List.length_append,List.length_cons,List.length_nil]
  omega
end Go.Proofs.YtllfckekodcdaaaGreatDoor
namespace Go.Proofs.YtllfckekodcdaaaGreatDoor
open Go.X
theorem qjd {α:Type} {l:List α} {k:Nat} {x:α} (h:l[k]? = some x):idx l (k:Int) = some x:=by unfold idx; rw [if_pos (by omega),Int.toNat_natCast]; exact h
theorem fldK {β:Type} {g:Field} {r:List UInt8} (h:g.Value.length + r.length ≤ 1000000000000000) (K:List Field → Option β) :
  ((idx [g] 0).bind fun x405=>(cat x405.Value ([32])).bind fun s417=>(idx [g] 0).bind fun x419=>(setI [g] 0 (Field.mk x419.Name s417)).bind fun l427=>(idx l427 0).bind fun x433=>(cat x433.Value r).bind fun s445=>(idx l427 0).bind fun x447=>(setI l427 0 (Field.mk x447.Name s445)).bind K) = K (fld [g] true r):=by
 show (cat g.Value [32]).bind (fun s417=>(cat s417 r).bind fun s445=>K [Field.mk g.Name s445]) = _
 rw [qhx (by simp; omega),Option.bind_some,qhx (by simp; omega),Option.bind_some]
 rfl
theorem fldU {β:Type} {g:Field} {r:List UInt8} (h:g.Value.length + r.length ≤ 1000000000000000) (K:List Field → Option β) :
  ((idx [g] 0).bind fun x484=>(cat x484.Value r).bind fun s496=>(idx [g] 0).bind fun x498=>(setI [g] 0 (Field.mk x498.Name s496)).bind K) = K (fld [g] false r):=by
 show (cat g.Value r).bind (fun s496=>K [Field.mk g.Name s496]) = _
 rw [qhx (by omega),Option.bind_some]
 unfold fld
 simp only [cond_false,List.append_nil]
theorem qth {e:Entry} {c:List UInt8} (h:c = []):cms e c = e.Comments:=by unfold cms; rw [if_pos (.inl h)]
theorem qsi {e:Entry} {c:List UInt8} (h:e.Comments.contains c = true):cms e c = e.Comments:=by unfold cms; rw [if_pos (.inr h)]
theorem qsq {e:Entry} {c:List UInt8} (h0:c ≠ []) (h:e.Comments.contains c = false):cms e c = e.Comments ++ [c]:=by unfold cms; rw [if_neg (by rw [h]; simp [h0])]
theorem qo0 {N:Nat} {x:Found2} {ρ:Type} {r:List UInt8} {out:List Entry} {k:Nat} {e:Entry} {g:Field} {M:Mp} (kn:Bool) (hk:out[k]? = some e) (hf:e.Fields = [g]) (hg:g.Value.length + r.length ≤ 1000000000000000) (hc:e.Comments.length < N) (hc2:e.Comments.length ≤ 10000000)
    (F:Entry → List Entry → Option ((Mp × List Entry) ⊕ ρ)) (hF:∀ e out,e.Fields = [g] → F e out = some (.inl (M,out.set k (Entry.mk e.ID e.Source e.Target e.Comments e.Flags e.State (fld [g] kn r))))) :
    (bif x.comment != [] then
      (qbS N e.Comments x.comment).bind fun r293 =>
        bif !r293 then
          ((app e.Comments [x.comment]).bind fun l329=>some (out.set (k:Int).toNat (Entry.mk e.ID e.Source e.Target l329 e.Flags e.State e.Fields),())).bind fun o298=>(idx o298.1 (k:Int)).bind fun x379=>F x379 o298.1
        else F e out
     else F e out) = some (.inl (M,out.set k (ent e x kn r))):=by
  have hlt:=(List.getElem?_eq_some_iff.1 hk).1
  by_cases h0:x.comment = []
  · rw [h0,bne_self_eq_false,cond_false,hF _ _ hf]
    unfold ent
    rw [qth h0,hf]
  · rw [bne_iff_ne.2 h0,cond_true,qoq _ _ hc,Option.bind_some]
    cases hh:e.Comments.contains x.comment with
    | true =>
      rw [Bool.not_true,cond_false,hF _ _ hf]
      unfold ent
      rw [qsi hh,hf]
    | false =>
      rw [Bool.not_false,cond_true,qnr (by simp; omega),Option.bind_some,Option.bind_some,Int.toNat_natCast]
      simp only
      rw [qjd (List.getElem?_set_self hlt),Option.bind_some,hF _ _ (show (Entry.mk e.ID e.Source e.Target (e.Comments ++ [x.comment]) e.Flags e.State e.Fields).Fields = [g] from hf),List.set_set]
      unfold ent
      rw [qsq h0 hh,hf]
theorem qnC {N:Nat} {i:Int} {f:File} {x:Found2} {ix:Mp} {out:List Entry} (b:Rb N f x ix out):qdD N i f x ix out = some (rnd i f x ix out):=by
 unfold qdD
 obtain ⟨hr,hrl⟩:=qmD (N:=N) b.nm b.tx b.of0 b.of1 (fun s:List UInt8=>(some s:Option (List UInt8)))
 refine ((qmD (N:=N) b.nm b.tx b.of0 b.of1 _).1).trans ?_
 unfold rnd
 generalize refT f x = r at hrl ⊢
 cases hm:mget ix x.id with
 | none =>
  simp only [Option.isSome_none,Bool.not_false,cond_true,cond_false]
  rw [mset,if_pos (by have:=b.il; unfold LIM; omega),Option.bind_some,qnr (by have:=b.ol; simp; omega),Option.bind_some]
  simp only [Option.bind_some]
  rw [qjd (k:=out.length) (x:=E0 x.id x.source) (by rw [List.getElem?_append_right (Nat.le_refl _),Nat.sub_self]; rfl),Option.bind_some]
  have hs:∀ e:Entry,(out ++ [E0 x.id x.source]).set out.length e = out ++ [e]:=fun e=>by rw [List.set_append_right _ _ (Nat.le_refl _),Nat.sub_self]; rfl
  have hsrc:((E0 x.id x.source).Source != x.source) = false:=bne_self_eq_false _
  rw [hsrc,cond_false,← hs (ent (E0 x.id x.source) x false r)]
  exact qo0 (N:=N) (x:=x) (r:=r) (M:=mput ix x.id (out.length:Int)) (k:=out.length) (e:=E0 x.id x.source) (g:=Field.mk [114,101,102] []) (out:=out ++ [E0 x.id x.source]) false (by rw [List.getElem?_append_right (Nat.le_refl _),Nat.sub_self]; rfl) rfl (by simp; omega) b.n0 (Nat.zero_le _)
   (fun e o=>(idx e.Fields 0).bind fun x484=>(cat x484.Value r).bind fun s496=>(idx e.Fields 0).bind fun x498=>(setI e.Fields 0 (Field.mk x498.Name s496)).bind fun l=>some (.inl (mput ix x.id (out.length:Int),o.set ((out.length:Nat):Int).toNat (Entry.mk e.ID e.Source e.Target e.Comments e.Flags e.State l))))
   (fun e o hf=>by
    simp only [hf]
    rw [fldU (by simp; omega),Int.toNat_natCast])
 | some v =>
  obtain ⟨p,hp,hpv⟩:=qq6 hm
  obtain ⟨hv0,hv1⟩:=b.iv p hp
  rw [hpv] at hv0 hv1
  obtain ⟨k,rfl⟩:∃ k:Nat,v = (k:Int):=⟨v.toNat,by omega⟩
  have hlt:k < out.length:=by omega
  obtain ⟨g,hf,hg⟩:=b.fl out[k] (List.getElem_mem hlt)
  obtain ⟨hc1,hc2⟩:=b.cl out[k] (List.getElem_mem hlt)
  have hk:out[k]? = some out[k]:=List.getElem?_eq_getElem hlt
  generalize out[k] = e at *
  simp only [Option.isSome_some,Bool.not_true,cond_true,cond_false,Option.bind_some,Option.getD_some,Int.toNat_natCast]
  rw [hk,qjd hk,Option.bind_some]
  simp only
  by_cases hs:e.Source = x.source
  ·rw [if_pos hs,show (e.Source != x.source) = false from by rw [hs]; exact bne_self_eq_false _,cond_false]
   exact qo0 (N:=N) (x:=x) (r:=r) (M:=ix) (k:=k) (e:=e) (g:=g) (out:=out) true hk hf (by omega) hc1 hc2
    (fun e o=>(idx e.Fields 0).bind fun x405=>(cat x405.Value ([32])).bind fun s417=>(idx e.Fields 0).bind fun x419=>(setI e.Fields 0 (Field.mk x419.Name s417)).bind fun l427=>(idx l427 0).bind fun x433=>(cat x433.Value r).bind fun s445=>(idx l427 0).bind fun x447=>(setI l427 0 (Field.mk x447.Name s445)).bind fun l=>some (.inl (ix,o.set k (Entry.mk e.ID e.Source e.Target e.Comments e.Flags e.State l))))
    (fun e o hf=>by
     simp only [hf]
     rw [fldK (by omega)])
  ·rw [if_neg hs,bne_iff_ne.2 hs,cond_true]
structure Sb (N n K j:Nat) (ix:Mp) (out:List Entry):Prop where
 ol:out.length ≤ 1000000 + j
 il:ix.length ≤ 1000000 + j
 iv:∀ p ∈ ix,0 ≤ p.2 ∧ p.2 < (out.length:Int)
 fl:∀ e ∈ out,∃ g,e.Fields = [g] ∧ g.Value.length ≤ 1000000000000 + j * K
 cl:∀ e ∈ out,e.Comments.length + n < N + j ∧ e.Comments.length ≤ 1000000 + j
 fg:∀ e ∈ out,e.Flags = []
theorem qns (ix:Mp) (k:List UInt8) (v:Int):(mput ix k v).length ≤ ix.length + 1:=by
 induction ix with
 | nil=>simp [mput]
 | cons p ix ih =>
  rw [mput]
  split
  ·simp
  ·simp only [List.length_cons]; omega
theorem qnN {ix:Mp} {k:List UInt8} {v:Int} {p:List UInt8 × Int} (h:p ∈ mput ix k v):p ∈ ix ∨ p = (k,v):=by
 induction ix with
 | nil=>simpa [mput] using h
 | cons q ix ih =>
  rw [mput] at h
  split at h
  ·rcases List.mem_cons.1 h with h | h
   ·exact .inr h
   ·exact .inl (List.mem_cons_of_mem _ h)
  ·rcases List.mem_cons.1 h with h | h
   ·exact .inl (h ▸ List.mem_cons_self ..)
   ·rcases ih h with h | h
    ·exact .inl (List.mem_cons_of_mem _ h)
    ·exact .inr h
theorem qkX (e:Entry) (c:List UInt8):(cms e c).length ≤ e.Comments.length + 1:=by
 unfold cms
 split
 ·omega
 ·simp
theorem Sb.rb {N n K j:Nat} {ix:Mp} {out:List Entry} {f:File} {x:Found2} (b:Sb N n K j ix out) (hj:j < n) (hn:n ≤ 1000000) (hN:n < N) (h1:f.Name.length ≤ 1000000) (h2:f.Text.length ≤ 1000000) (h3:0 ≤ x.offset) (h4:x.offset ≤ (f.Text.length:Int)) (hK:j * K ≤ 20000000000000):Rb N f x ix out where
 nm:=h1
 tx:=h2
 of0:=h3
 of1:=h4
 ol:=by have:=b.ol; omega
 il:=by have:=b.il; omega
 iv:=b.iv
 fl:=fun e he=>by obtain ⟨g,h,h5⟩:=b.fl e he; exact ⟨g,h,by omega⟩
 cl:=fun e he=>by obtain ⟨h,h5⟩:=b.cl e he; omega
 n0:=by omega
set_option maxRecDepth 100000 in
theorem Sb.step {N n K j:Nat} {ix ix':Mp} {out out':List Entry} {i:Int} {f:File} {x:Found2} (b:Sb N n K j ix out) (hj:j < n) (hn:n ≤ 1000000) (hN:n < N) (hr:(refT f x).length + 1 ≤ K) (h:rnd i f x ix out = .inl (ix',out')):Sb N n K (j + 1) ix' out':=by
 have hz:(j + 1) * K = j * K + K:=Nat.succ_mul j K
 unfold rnd at h
 generalize refT f x = r at hr h
 cases hm:mget ix x.id with
 | none =>
  rw [hm] at h
  simp only [Option.isSome_none,cond_false,Sum.inl.injEq,Prod.mk.injEq] at h
  obtain ⟨rfl,rfl⟩:=h
  have hc:=qkX (E0 x.id x.source) x.comment
  have hE:(E0 x.id x.source).Comments.length = 0:=rfl
  refine ⟨by have:=b.ol; simp; omega,by have:=b.il; have:=qns ix x.id (out.length:Int); omega,fun p hp=>?_,fun e he=>?_,fun e he=>?_,fun e he=>?_⟩
  ·rw [List.length_append,List.length_singleton]
   rcases qnN hp with hp | rfl
   ·have:=b.iv p hp; omega
   ·simp only; omega
  ·rcases List.mem_append.1 he with he | he
   ·obtain ⟨g,h1,h2⟩:=b.fl e he; exact ⟨g,h1,by rw [hz]; omega⟩
   ·obtain rfl:=List.mem_singleton.1 he
    exact ⟨Field.mk [114,101,102] ([] ++ [] ++ r),rfl,by show ([] ++ [] ++ r:List UInt8).length ≤ _; rw [List.nil_append,List.nil_append,hz]; omega⟩
  ·rcases List.mem_append.1 he with he | he
   ·have:=b.cl e he; omega
   ·obtain rfl:=List.mem_singleton.1 he
    show (cms (E0 x.id x.source) x.comment).length + n < N + (j + 1) ∧ (cms (E0 x.id x.source) x.comment).length ≤ _
    omega
  ·rcases List.mem_append.1 he with he | he
   ·exact b.fg e he
   ·obtain rfl:=List.mem_singleton.1 he; rfl
 | some v =>
  rw [hm] at h
  simp only [Option.isSome_some,cond_true,Option.getD_some] at h
  cases hk:out[v.toNat]? with
  | none=>rw [hk] at h; simp at h
  | some e0 =>
   rw [hk] at h
   simp only at h
   split at h
   case isFalse=>simp at h
   simp only [Sum.inl.injEq,Prod.mk.injEq] at h
   obtain ⟨rfl,rfl⟩:=h
   have he0:=List.mem_of_getElem? hk
   have hc:=qkX e0 x.comment
   obtain ⟨g,hg1,hg2⟩:=b.fl e0 he0
   refine ⟨by have:=b.ol; rw [List.length_set]; omega,by have:=b.il; omega,fun p hp=>by rw [List.length_set]; exact b.iv p hp,fun e he=>?_,fun e he=>?_,fun e he=>?_⟩
   ·rcases List.mem_or_eq_of_mem_set he with he | rfl
    ·obtain ⟨g,h1,h2⟩:=b.fl e he; exact ⟨g,h1,by rw [hz]; omega⟩
    ·refine ⟨Field.mk g.Name (g.Value ++ [32] ++ r),?_,by show (g.Value ++ [32] ++ r).length ≤ _; rw [List.length_append,List.length_append,List.length_singleton,hz]; omega⟩
     show fld e0.Fields true r = _
     rw [hg1]; rfl
   ·rcases List.mem_or_eq_of_mem_set he with he | rfl
    ·have:=b.cl e he; omega
    ·have:=b.cl e0 he0
     show (cms e0 x.comment).length + n < N + (j + 1) ∧ (cms e0 x.comment).length ≤ _
     omega
   ·rcases List.mem_or_eq_of_mem_set he with he | rfl
    ·exact b.fg e he
    ·exact b.fg e0 he0
end Go.Proofs.YtllfckekodcdaaaGreatDoor
namespace Go.X
open Go.RowKit
section
variable {P:Program} {Q:Exit → Act → World → Prop} {n:Nat} {L:List (Nat × Value)} {a:Act} {u w:World} {m:Mem} {S:Segs} {ds:List Deferred}
theorem qsf (E:Env n a L):a = { a with defers:=qhK [] }:=by
 cases a with
 | mk t d =>
  have:=E.d
  simp only at this
  subst this
  rfl
theorem d_if {t:Bool} {c:Operand} {x y:Code} (E:Env n a L) (hc:ev L c = some (.bool t)) (h1:t = true → x.wp P Q { a with defers:=ds } w) (h2:t = false → y.wp P Q { a with defers:=ds } w):(Code.cond c x y).wp P Q { a with defers:=ds } w:=by
 refine wp_cond (t:=t) ((show ({ a with defers:=ds }:Act).eval c = a.eval c from by cases c <;> rfl).trans (E.ev hc)) ?_
 cases t
 ·exact h2 rfl
 ·exact h1 rfl
def MkS (Ds:List Nat):List (Nat × Obj):=Ds.map fun D=>(D,Obj.deferred (some []))
theorem Ok.mkK {Ds:List Nat} (ok:Ok u m (MkS Ds :: S) w):(∀ D ∈ Ds,w.heap[D]? = some (.deferred (some []))) ∧ Ds.Nodup:=by
 refine ⟨fun D hD=>(ok.own (D,.deferred (some [])) (by simp only [List.flatten_cons,List.mem_append]; exact .inl (List.mem_map.2 ⟨D,hD,rfl⟩))).1,?_⟩
 have:=ok.nd
 simp only [List.flatten_cons] at this
 have:=(List.pairwise_append.1 this).1
 exact (List.pairwise_map.1 this).imp fun h=>h
theorem Ok.takenM:∀ {Ds:List Nat} {w:World},Ok u m (MkS Ds :: S) w → Ok u m S (Go.X.taken w Ds)
 | [],_,ok=>ok.drop
 | D :: Ds,w,ok=>by
  have ok1:Ok u m ([(D,.deferred (some []))] :: MkS Ds :: S) w:=ok.perm (by simp [MkS])
  have hlt:=ok1.ids_lt (p:=(D,.deferred (some []))) (by simp)
  have ok2:Ok u m ([(D,.deferred none)] :: MkS Ds :: S) (w.putObj D (.deferred none)):=ok1.setObj rfl rfl rfl (World.putObj_heap_same hlt) fun k hk=>World.putObj_heap_other hk
  have ok3:=ok2.drop
  show Ok u m S (Go.X.taken (w.putObj D (.deferred none)) Ds)
  exact Ok.takenM ok3
theorem Ok.addMk {Ds:List Nat} {B D:Nat} (ok:Ok u m (MkS Ds :: S) w) (hm:∀ b o,m b = some o → b < B) (hS:∀ q ∈ (MkS Ds :: S).flatten,q.1 < B ∨ q.2.isCells = true) (hD:B ≤ D) (hd:w.heap[D]? = some (.deferred (some []))):Ok u m (MkS (D :: Ds) :: S) w:=by
 have hn:∀ q ∈ (MkS Ds :: S).flatten,D ≠ q.1:=fun q hq e=>by
  rcases hS q hq with h | h
  ·omega
  ·have:=(ok.own q hq).1
   rw [← e,hd] at this
   rw [← Option.some.inj this] at h
   cases h
 have ok1:Ok u m ([(D,.deferred (some []))] :: MkS Ds :: S) w:=by
  refine ⟨ok.os,ok.out,ok.tape,ok.ro,fun p hp=>?_,?_,ok.base⟩
  ·simp only [List.flatten_cons,List.cons_append,List.nil_append,List.mem_cons] at hp
   rcases hp with rfl | hp
   ·refine ⟨hd,?_⟩
    cases hb:m D with
    | none=>rfl
    | some o=>have:=hm D o hb; omega
   ·exact ok.own p (by simpa only [List.flatten_cons] using hp)
  ·rw [List.flatten_cons]
   exact List.pairwise_cons.2 ⟨fun q hq=>hn q hq,ok.nd⟩
 exact ok1.perm (by simp [MkS])
end
end Go.X
namespace Go.Proofs.YtllfckekodcdaaaGreatDoor
open Go.X
def qjm:Rp Place:=fun _ cs x=>cs = [.int .i64 x.File,.int .i64 x.Offset] ∧ InR .i64 x.File ∧ InR .i64 x.Offset
def qbB:Ro (Entry):=fun m cs x M=>∃ c3 c4 c6 M3 M6,cs = [.string (bs x.ID),.string (bs x.Source),.string (bs x.Target),c3,c4,.int .i64 x.State,c6] ∧ M = M3 ++ M6 ∧ x.ID.length ≤ LIMS ∧ x.Source.length ≤ LIMS ∧ x.Target.length ≤ LIMS ∧ ORow 9 1 pS m c3 x.Comments M3 ∧ (pL 1 pS) m [c4] x.Flags ∧ InR .i64 x.State ∧ ORow 58 2 qeY m c6 x.Fields M6
theorem qnL:MonoO qbB:=⟨fun hm h=>by
 obtain ⟨c3,c4,c6,M3,M6,e,eM,h0,h1,h2,h3,h4,h5,h6⟩:=h
 exact ⟨c3,c4,c6,M3,M6,e,eM,h0,h1,h2,h3.up mS hm,(mL mS).up hm h4,h5,h6.up qi4 hm⟩⟩
theorem qnQ:FrozO qbB qeN:=⟨fun h hle hf=>by
 obtain ⟨c3,c4,c6,M3,M6,e,eM,h0,h1,h2,h3,h4,h5,h6⟩:=h
 exact ⟨c3,c4,c6,e,h0,h1,h2,h3.froz mS hle (fun p hp=>hf p (by rw [eM]; exact List.mem_append_left _ hp)) (by decide),(mL mS).up hle h4,h5,h6.froz qi4 hle (fun p hp=>hf p (by rw [eM]; exact List.mem_append_right _ hp)) (by decide)⟩⟩
theorem qpo {m m':Mem} {cs:List Value} {x:Entry} {M:List (Nat × Obj)} (hf:x.Flags = []) (h:qbB m cs x M):qbB m' cs x M:=by
 obtain ⟨c3,c4,c6,M3,M6,e,eM,h0,h1,h2,h3,h4,h5,h6⟩:=h
 refine ⟨c3,c4,c6,M3,M6,e,eM,h0,h1,h2,h3.chg (fun _ _ h=>h),?_,h5,h6.chg (fun _ _ h=>h)⟩
 rw [hf] at h4 ⊢
 exact qpu h4
theorem qnE {m:Mem} {cs:List Value} {x:Entry} {M:List (Nat × Obj)} (h:qbB m cs x M):∀ q ∈ M,q.2.isCells = true:=by
 obtain ⟨c3,c4,c6,M3,M6,e,eM,h0,h1,h2,h3,h4,h5,h6⟩:=h
 intro q hq
 rw [eM] at hq
 rcases List.mem_append.1 hq with hq | hq
 ·exact h3.isCells q hq
 ·exact h6.isCells q hq
theorem qjA {m:Mem} {v:Value} {xs:List Entry} {M:List (Nat × Obj)} (h:NRow 53 7 qbB m v xs M):∀ q ∈ M,q.2.isCells = true:=by
 obtain ⟨cs,ms,M1,h1,rfl,h3⟩:=h
 intro q hq
 rcases List.mem_append.1 hq with hq | hq
 ·exact h1.isCells q hq
 ·obtain ⟨M2,hM,hq⟩:=List.mem_flatten.1 hq
  obtain ⟨i,hi,rfl⟩:=List.mem_iff_getElem.1 hM
  obtain ⟨c,hc⟩:=qhz (l:=cs) (i:=i) (by rw [h3.l1,← h3.l2]; exact hi)
  obtain ⟨x,hx⟩:=qhz (l:=xs) (i:=i) (by rw [← h3.l2]; exact hi)
  exact qnE (h3.el hc hx (List.getElem?_eq_getElem hi)) q hq
theorem qtE {N:Nat} {i:Int} {f:File} {rs:List Found2} {ix:Mp} {out:List Entry} (h:qe6 N i f rs ix out = true) (K:Nat) :
  f.Name.length ≤ 1000000 ∧ f.Text.length ≤ 1000000 ∧ rs.length ≤ 1000000 ∧ rs.length < N ∧ (∀ x ∈ rs,x.offset ≤ (f.Text.length:Int)) ∧ Sb N rs.length K 0 ix out:=by
 unfold qe6 at h
 simp only [Bool.and_eq_true,decide_eq_true_eq,List.all_eq_true] at h
 obtain ⟨⟨h1,h2,h3,h4,h5,h6,h7,hN⟩,h8,h9,h10⟩:=h
 refine ⟨h3,h4,h5,hN,h8,by omega,by omega,fun p hp=>⟨(h9 p hp).1,(h9 p hp).2.1⟩,fun e he=>?_,fun e he=>?_,fun e he=>(h10 e he).1.2.2.2.1⟩
 ·obtain ⟨⟨g1,g2,g3,g4,g5⟩,g6⟩:=h10 e he
  match hf:e.Fields,g1 with
  | [g],_=>exact ⟨g,rfl,by have:=g6 g (by rw [hf]; exact List.mem_singleton.2 rfl); omega⟩
 ·obtain ⟨⟨g1,g2,g3,g4,g5⟩,g6⟩:=h10 e he
  omega
def qbG (u:World) (m0:Mem) (S:Segs) (r:(List (Entry)) × Place × Int) (a:Act) (w:World):Prop :=
 ∃ m1 v0 v1,m0.le m1 ∧ Ok u m1 S w ∧ a.defers = [] ∧ RVs Tryz.prog a w [.c 6 44 v0,.c 7 46 (.agg v1.toArray),.c 8 47 (.int .i64 r.2.2)] ∧ (pL 7 qeN) m1 [v0] r.1 ∧ qjm m1 v1 r.2.1 ∧ InR .i64 r.2.2
set_option maxHeartbeats 4000000 in
set_option maxRecDepth 100000 in
theorem qh6 {u:World} {m0:Mem} {S:Segs} {w:World} (N:Nat) (vscript_0:Value) (script_0:List (State)) (hscript_0:(pL 2 qbU) m0 [vscript_0] script_0) (vcalls_1:Value) (calls_1:List (Call)) (hcalls_1:(pL 3 qaL) m0 [vcalls_1] calls_1) (vfiles_2:Value) (files_2:List (File)) (hfiles_2:(pL 2 qeM) m0 [vfiles_2] files_2) {r:(List (Entry)) × Place × Int} (hF:qdV N script_0 calls_1 files_2 = some r) (hG:Glob u) (hTb:Tab u) (ok:Ok u m0 S w) :
  Calls Tryz.prog 28 [vscript_0,vcalls_1,vfiles_2].toArray w fun e w'=>∃ m1 v0 v1,e = .returned (.tuple [v0,(.agg v1.toArray),(.int .i64 r.2.2)].toArray) ∧ m0.le m1 ∧ Ok u m1 S w' ∧ (pL 7 qeN) m1 [v0] r.1 ∧ qjm m1 v1 r.2.1 ∧ InR .i64 r.2.2:=by
 have le_m0:=Mem.le.refl m0
 unfold qdV at hF
 have fin:∀ a w,qbG u m0 S r a w → bodyPostM Fence.wide 3 Tryz.prog Tryz.f28 (fun e w'=>∃ m1 v0 v1,e = .returned (.tuple [v0,(.agg v1.toArray),(.int .i64 r.2.2)].toArray) ∧ m0.le m1 ∧ Ok u m1 S w' ∧ (pL 7 qeN) m1 [v0] r.1 ∧ qjm m1 v1 r.2.1 ∧ InR .i64 r.2.2) .ret a w:=by
  intro a w h
  obtain ⟨m1,v0,v1,hle,ok,hd,hrv,h0,h1,h2⟩:=h
  exact qtC (qaM [.c 6 44 v0,.c 7 46 (.agg v1.toArray),.c 8 47 (.int .i64 r.2.2)] hd rfl hrv ⟨m1,v0,v1,rfl,hle,ok,h0,h1,h2⟩)
 have finD:∀ a w Ds,(∀ D ∈ Ds,w.heap[D]? = some (.deferred (some []))) → Ds.Nodup → qbG u m0 S r a (taken w Ds) → bodyPostM Fence.wide 3 Tryz.prog Tryz.f28 (fun e w'=>∃ m1 v0 v1,e = .returned (.tuple [v0,(.agg v1.toArray),(.int .i64 r.2.2)].toArray) ∧ m0.le m1 ∧ Ok u m1 S w' ∧ (pL 7 qeN) m1 [v0] r.1 ∧ qjm m1 v1 r.2.1 ∧ InR .i64 r.2.2) .ret { a with defers:=qhK Ds } w:=by
  intro a w Ds hK hn h
  obtain ⟨m1,v0,v1,hle,ok,hd,hrv,h0,h1,h2⟩:=h
  exact qsI Ds hK hn (qaM [.c 6 44 v0,.c 7 46 (.agg v1.toArray),.c 8 47 (.int .i64 r.2.2)] hd rfl hrv ⟨m1,v0,v1,rfl,hle,ok,h0,h1,h2⟩)
 refine qtg Tryz.func28 rfl rfl rfl fun a E=>?_
 refine wp_seq ?_
 refine qab ?_
 refine qaC E ok qoK rfl rfl fun b1 a w E ok=>?_
 refine qaC E ok qdB rfl rfl fun b2 a w E ok=>?_
 refine qaC E ok qr7 rfl rfl fun b3 a w E ok=>?_
 refine wpList_nil ?_
 refine qaa ?_
 refine wp_seq ?_
 refine wp_seq ?_
 refine qab ?_
 refine qac E ok (qad rfl) rfl rfl fun a E=>?_
 obtain ⟨r4,e5,hF⟩:=bnd hF
 refine qaz E qrD rfl (qkx N _ script_0 hscript_0 e5 hG ok) rfl rfl ?_
 rintro _ w ⟨rfl,ok⟩
 refine ⟨_,rfl,fun a E=>?_⟩
 refine qac E ok (qbQ rfl) rfl rfl fun a E=>?_
 refine qac E ok (qad rfl) rfl rfl fun a E=>?_
 refine qap (!r4) (fun hc6=>?_) (fun hc6=>?_)
 ·replace hF:=qak hc6 hF
  replace E:=E.upd 27 hc6 rfl
  refine qbn E rfl rfl fun a E=>?_
  refine qbn E rfl rfl fun a E=>?_
  refine qbn E rfl rfl fun a E=>?_
  refine qac E ok (qbR rfl rfl) rfl rfl fun a E=>?_
  refine qac E ok (qad rfl) rfl rfl fun a E=>?_
  refine qbn E rfl rfl fun a E=>?_
  refine qbn E rfl rfl fun a E=>?_
  refine qbn E rfl rfl fun a E=>?_
  refine qac E ok (qbR rfl rfl) rfl rfl fun a E=>?_
  refine wpList_nil ?_
  refine qaa ?_
  refine c_if E rfl (fun _=>?_) (fun h=>by cases h)
  refine wp_seq ?_
  refine qab ?_
  refine qac E ok (qaK (ps:=[]) (qs:=[]) (cs:=[(Value.int .i64 0),(Value.int .i64 0)]) qdB qft rfl trivial rfl) rfl rfl fun a E=>?_
  refine qai E ok 2 rfl rfl rfl qhb rfl rfl ⟨rfl,trivial⟩ rfl rfl fun w ok=>?_
  refine qai E ok 1 rfl rfl rfl qen rfl rfl ⟨rfl,rfl,trivial⟩ rfl rfl fun w ok=>?_
  refine qai E ok 0 rfl rfl rfl qhX rfl rfl ⟨rfl,trivial⟩ rfl rfl fun w ok=>?_
  refine wpList_nil ?_
  refine qaa ?_
  refine wp_ret ?_
  refine qag ?_
  have hret:qbG u m0 S ([],(Place.mk 0 0),1) a w:=⟨m0,(.slice none 0 0),[(Value.int .i64 0),(Value.int .i64 0)],le_m0,ok.drop.drop.drop,E.d,⟨qe9 E ok rfl qfm (qae.own 2 rfl rfl),rv_c (cs:=[(Value.int .i64 0),(Value.int .i64 0)]) E ok rfl qff rfl (qae.own 1 rfl rfl),qe9 E ok rfl qhM (qae.own 0 rfl rfl),trivial⟩,qbF,⟨rfl,(show InR .i64 0 by decide),(show InR .i64 0 by decide)⟩,(show InR .i64 (1) by decide)⟩
  obtain rfl:=Option.some.inj hF
  exact fin _ _ hret
 replace hF:=qaj hc6 hF
 replace E:=E.upd 27 hc6 rfl
 refine qac E ok (qad rfl) rfl rfl fun a E=>?_
 obtain ⟨r7,e8,hF⟩:=bnd hF
 refine qaz E qua rfl (qma N _ calls_1 hcalls_1 e8 hG ok) rfl rfl ?_
 rintro _ w ⟨rfl,ok⟩
 refine ⟨_,rfl,fun a E=>?_⟩
 refine qac E ok (qbQ rfl) rfl rfl fun a E=>?_
 refine qac E ok (qbH rfl rfl) rfl rfl fun a E=>?_
 refine qac E ok (qad rfl) rfl rfl fun a E=>?_
 refine qap (!r7) (fun hc9=>?_) (fun hc9=>?_)
 ·replace hF:=qak hc9 hF
  replace E:=E.upd 32 hc9 rfl
  refine qbn E rfl rfl fun a E=>?_
  refine qbn E rfl rfl fun a E=>?_
  refine qbn E rfl rfl fun a E=>?_
  refine qac E ok (qbR rfl rfl) rfl rfl fun a E=>?_
  refine wpList_nil ?_
  refine qaa ?_
  refine c_if E rfl (fun _=>?_) (fun h=>by cases h)
  refine wp_seq ?_
  refine qab ?_
  refine qac E ok (qaK (ps:=[]) (qs:=[]) (cs:=[(Value.int .i64 0),(Value.int .i64 0)]) qdB qft rfl trivial rfl) rfl rfl fun a E=>?_
  refine qai E ok 2 rfl rfl rfl qhb rfl rfl ⟨rfl,trivial⟩ rfl rfl fun w ok=>?_
  refine qai E ok 1 rfl rfl rfl qen rfl rfl ⟨rfl,rfl,trivial⟩ rfl rfl fun w ok=>?_
  refine qai E ok 0 rfl rfl rfl qhX rfl rfl ⟨rfl,trivial⟩ rfl rfl fun w ok=>?_
  refine wpList_nil ?_
  refine qaa ?_
  refine wp_ret ?_
  refine qag ?_
  have hret:qbG u m0 S ([],(Place.mk 0 0),1) a w:=⟨m0,(.slice none 0 0),[(Value.int .i64 0),(Value.int .i64 0)],le_m0,ok.drop.drop.drop,E.d,⟨qe9 E ok rfl qfm (qae.own 2 rfl rfl),rv_c (cs:=[(Value.int .i64 0),(Value.int .i64 0)]) E ok rfl qff rfl (qae.own 1 rfl rfl),qe9 E ok rfl qhM (qae.own 0 rfl rfl),trivial⟩,qbF,⟨rfl,(show InR .i64 0 by decide),(show InR .i64 0 by decide)⟩,(show InR .i64 (1) by decide)⟩
  obtain rfl:=Option.some.inj hF
  exact fin _ _ hret
 replace hF:=qaj hc9 hF
 replace E:=E.upd 32 hc9 rfl
 refine qac E ok (qad rfl) rfl rfl fun a E=>?_
 obtain ⟨r10,e11,hF⟩:=bnd hF
 refine qaz E quc rfl (qlX N _ files_2 hfiles_2 e11 hG ok) rfl rfl ?_
 rintro _ w ⟨rfl,ok⟩
 refine ⟨_,rfl,fun a E=>?_⟩
 refine qac E ok (qbQ rfl) rfl rfl fun a E=>?_
 refine qac E ok (qbH rfl rfl) rfl rfl fun a E=>?_
 refine wpList_nil ?_
 refine qaa ?_
 refine c_if E rfl (fun hc12=>?_) (fun hc12=>?_)
 ·replace hF:=qak hc12 hF
  refine wp_seq ?_
  refine qab ?_
  refine qac E ok (qaK (ps:=[]) (qs:=[]) (cs:=[(Value.int .i64 0),(Value.int .i64 0)]) qdB qft rfl trivial rfl) rfl rfl fun a E=>?_
  refine qai E ok 2 rfl rfl rfl qhb rfl rfl ⟨rfl,trivial⟩ rfl rfl fun w ok=>?_
  refine qai E ok 1 rfl rfl rfl qen rfl rfl ⟨rfl,rfl,trivial⟩ rfl rfl fun w ok=>?_
  refine qai E ok 0 rfl rfl rfl qhX rfl rfl ⟨rfl,trivial⟩ rfl rfl fun w ok=>?_
  refine wpList_nil ?_
  refine qaa ?_
  refine wp_ret ?_
  refine qag ?_
  have hret:qbG u m0 S ([],(Place.mk 0 0),1) a w:=⟨m0,(.slice none 0 0),[(Value.int .i64 0),(Value.int .i64 0)],le_m0,ok.drop.drop.drop,E.d,⟨qe9 E ok rfl qfm (qae.own 2 rfl rfl),rv_c (cs:=[(Value.int .i64 0),(Value.int .i64 0)]) E ok rfl qff rfl (qae.own 1 rfl rfl),qe9 E ok rfl qhM (qae.own 0 rfl rfl),trivial⟩,qbF,⟨rfl,(show InR .i64 0 by decide),(show InR .i64 0 by decide)⟩,(show InR .i64 (1) by decide)⟩
  obtain rfl:=Option.some.inj hF
  exact fin _ _ hret
 replace hF:=qaj hc12 hF
 refine wp_skip ?_
 refine qaa ?_
 refine wp_seq ?_
 refine wp_seq ?_
 refine qab ?_
 refine qac E ok (qad rfl) rfl rfl fun a E=>?_
 refine qac E ok (qaE qhL hfiles_2 rfl) rfl rfl fun a E=>?_
 refine qac E ok (qb9 rfl rfl) rfl rfl fun a E=>?_
 refine wpList_nil ?_
 refine qaa ?_
 refine c_if E rfl (fun hc13=>?_) (fun hc13=>?_)
 ·replace hF:=qak hc13 hF
  refine wp_seq ?_
  refine qab ?_
  refine qac E ok (qaK (ps:=[]) (qs:=[]) (cs:=[(Value.int .i64 0),(Value.int .i64 0)]) qdB qft rfl trivial rfl) rfl rfl fun a E=>?_
  refine qai E ok 2 rfl rfl rfl qhb rfl rfl ⟨rfl,trivial⟩ rfl rfl fun w ok=>?_
  refine qai E ok 1 rfl rfl rfl qen rfl rfl ⟨rfl,rfl,trivial⟩ rfl rfl fun w ok=>?_
  refine qai E ok 0 rfl rfl rfl qhX rfl rfl ⟨rfl,trivial⟩ rfl rfl fun w ok=>?_
  refine wpList_nil ?_
  refine qaa ?_
  refine wp_ret ?_
  refine qag ?_
  have hret:qbG u m0 S ([],(Place.mk 0 0),6) a w:=⟨m0,(.slice none 0 0),[(Value.int .i64 0),(Value.int .i64 0)],le_m0,ok.drop.drop.drop,E.d,⟨qe9 E ok rfl qfm (qae.own 2 rfl rfl),rv_c (cs:=[(Value.int .i64 0),(Value.int .i64 0)]) E ok rfl qff rfl (qae.own 1 rfl rfl),qe9 E ok rfl qhM (qae.own 0 rfl rfl),trivial⟩,qbF,⟨rfl,(show InR .i64 0 by decide),(show InR .i64 0 by decide)⟩,(show InR .i64 (6) by decide)⟩
  obtain rfl:=Option.some.inj hF
  exact fin _ _ hret
 replace hF:=qaj hc13 hF
 refine wp_skip ?_
 refine qaa ?_
 refine wp_seq ?_
 refine qab ?_
 refine qac E ok (qal rfl) rfl rfl fun a E=>?_
 refine wpList_nil ?_
 refine qaa ?_
 refine wp_seq ?_
 refine wp_seq ?_
 refine qab ?_
 refine qac E ok (qad rfl) rfl rfl fun a E=>?_
 refine qac E ok (qaE qhL hfiles_2 rfl) rfl rfl fun a E=>?_
 refine qac E ok (qad rfl) rfl rfl fun a E=>?_
 refine wpList_nil ?_
 refine qaa ?_
 refine wp_block ?_
 obtain ⟨M19,ok,h20⟩:=qdI (e:=26) (k:=1) (R:=(pL 3 qbM)) ok
 obtain ⟨o21,hL,hF⟩:=bnd hF
 refine qaO _ (fun (s:(List (List (Token))) × Int) a w=>∃ m22 c23 M24,m0.le m22 ∧ Ok u m22 (M24 :: [(b3,Obj.cells [(Value.int .i64 0)].toArray 47 (0,0))] :: [(b2,Obj.cells [(Value.int .i64 0),(Value.int .i64 0)].toArray 46 (0,0))] :: [(b1,Obj.cells [(Value.slice none 0 0)].toArray 44 (0,0))] :: S) w ∧ Env 187 a [(0,vscript_0),(1,vcalls_1),(2,vfiles_2),(6,(Value.pointer (some ⟨b1,0,none⟩))),(7,(Value.pointer (some ⟨b2,0,none⟩))),(8,(Value.pointer (some ⟨b3,0,none⟩))),(9,c23),(42,vfiles_2),(43,(Value.int .i64 (files_2.length:Int))),(44,(Value.int .i64 s.2))] ∧ ORow 26 1 (pL 3 qbM) m22 c23 s.1 M24 ∧ InR .i64 s.2) (fun (b:(((List (List (Token)))) ⊕ ((List (Entry)) × Place × Int))) e a w=>(Sum.elim (fun b809=>e = (.exit 0) ∧ ∃ m810 c811 M812,m0.le m810 ∧ Ok u m810 (M812 :: [(b3,Obj.cells [(Value.int .i64 0)].toArray 47 (0,0))] :: [(b2,Obj.cells [(Value.int .i64 0),(Value.int .i64 0)].toArray 46 (0,0))] :: [(b1,Obj.cells [(Value.slice none 0 0)].toArray 44 (0,0))] :: S) w ∧ Env 187 a [(1,vcalls_1),(2,vfiles_2),(6,(Value.pointer (some ⟨b1,0,none⟩))),(7,(Value.pointer (some ⟨b2,0,none⟩))),(8,(Value.pointer (some ⟨b3,0,none⟩))),(9,c811)] ∧ ORow 26 1 (pL 3 qbM) m810 c811 b809 M812) (fun b814=>e = .ret ∧ qbG u m0 S b814 a w)) b) ?_ ?_ N _ a w hL ⟨m0,(Value.slice none 0 0),M19,Mem.le.refl _,ok,E.keep [0,1,2,6,7,8,9,42,43,44],h20,(show InR .i64 (0) by decide)⟩
 ·as_aux_lemma =>
   rintro ⟨all_27,x_28⟩ a w r ⟨m29,c30,M31,hle,ok,E,h32,r33⟩ hF
   replace hF:qc8 N script_0 files_2 all_27 x_28 = some r:=hF
   unfold qc8 at hF
   have le_m0:=le_m0.trans hle
   have hscript_0:=(mL qaP).up hle hscript_0
   have hcalls_1:=(mL qaR).up hle hcalls_1
   have hfiles_2:=(mL qcK).up hle hfiles_2
   refine wp_seq ?_
   refine qab ?_
   refine qac E ok (qaA rfl rfl) rfl rfl fun a E=>?_
   refine wpList_nil ?_
   refine qaa ?_
   refine wp_seq ?_
   refine c_if E rfl (fun hc34=>?_) (fun hc34=>?_)
   rotate_left
   ·replace hF:=qaj hc34 hF
    refine wp_exit ?_
    refine qaB ?_
    obtain rfl:=Option.some.inj hF
    exact qcL (by nofun) (sl ⟨rfl,⟨m29,c30,M31,le_m0,ok,E.keep [1,2,6,7,8,9],h32⟩⟩)
   replace hF:=qak hc34 hF
   refine wp_skip ?_
   refine qaa ?_
   refine wp_seq ?_
   refine wp_block ?_
   refine wp_seq ?_
   refine qab ?_
   refine qac E ok (qad rfl) rfl rfl fun a E=>?_
   obtain ⟨x35,e36,hF⟩:=bnd hF
   obtain ⟨b37,o38,es39,hl40,rr41,at42,yy43⟩:=qaN qhL hfiles_2 e36 (P:=Tryz.prog) (X:=.tmp 42) (I:=.tmp 44) (kd:=.i64) (qah E rfl) (qah E rfl)
   obtain ⟨rfl,l44,l45⟩:=rr41
   refine qac E ok (yy43 _ _) rfl rfl fun a E=>?_
   refine qac E ok (qat (cs:=[(Value.string (bs x35.Name)),(Value.string (bs x35.Text))]) qnW rfl rfl (qae.ro at42)) rfl rfl fun a E=>?_
   refine qaC E ok qhH rfl rfl fun b46 a w E ok=>?_
   refine qac E ok (qal rfl) rfl rfl fun a E=>?_
   refine qai E ok 0 rfl rfl rfl qoh rfl rfl ⟨rfl,rfl,trivial⟩ rfl rfl fun w ok=>?_
   refine wpList_nil ?_
   refine qaa ?_
   refine wp_seq ?_
   refine qab ?_
   refine qac E ok (qad rfl) rfl rfl fun a E=>?_
   refine qac E ok (qaf qo7 rfl) rfl rfl fun a E=>?_
   refine qac E ok (qao qav rfl (qae.own 0 rfl rfl)) rfl rfl fun a E=>?_
   obtain ⟨r47,e48,hF⟩:=bnd hF
   refine qaz E quA rfl (qm9 N _ script_0 hscript_0 x35.Text l45 e48 hG ok) rfl rfl ?_
   rintro _ w ⟨m49,c50,rfl,hle,ok,h51,r52,r53⟩
   have le_m0:=le_m0.trans hle
   have hscript_0:=(mL qaP).up hle hscript_0
   have hcalls_1:=(mL qaR).up hle hcalls_1
   have hfiles_2:=(mL qcK).up hle hfiles_2
   have h32:=ORow.up (mL qev) hle h32
   have at42:=At.up hle at42
   refine ⟨_,rfl,fun a E=>?_⟩
   refine qac E ok (qad rfl) rfl rfl fun a E=>?_
   refine qac E ok (qaw rfl rfl) rfl rfl fun a E=>?_
   refine qac E ok (qaw rfl rfl) rfl rfl fun a E=>?_
   refine qac E ok (qaw rfl rfl) rfl rfl fun a E=>?_
   refine qac E ok (qal rfl) rfl rfl fun a E=>?_
   refine qac E ok (qal rfl) rfl rfl fun a E=>?_
   refine qac E ok (qal rfl) rfl rfl fun a E=>?_
   refine wpList_nil ?_
   refine qaa ?_
   refine wp_seq ?_
   refine wp_seq ?_
   refine qab ?_
   refine qac E ok (qad rfl) rfl rfl fun a E=>?_
   refine qac E ok (qdG rfl rfl) rfl rfl fun a E=>?_
   refine wpList_nil ?_
   refine qaa ?_
   refine c_if E rfl (fun hc54=>?_) (fun hc54=>?_)
   ·replace hF:=qak hc54 hF
    refine wp_seq ?_
    refine qab ?_
    refine qac E ok (qad rfl) rfl rfl fun a E=>?_
    refine qac E ok (qad rfl) rfl rfl fun a E=>?_
    refine qac E ok (qaK (ps:=[(0,.tmp 59),(1,.tmp 60)]) (qs:=[(0,[(Value.int .i64 x_28)]),(1,[(Value.int .i64 r47.2.1)])]) (cs:=[(Value.int .i64 x_28),(Value.int .i64 r47.2.1)]) qdB qft rfl ⟨rfl,rfl,rfl,⟨rfl,rfl,rfl,trivial⟩⟩ rfl) rfl rfl fun a E=>?_
    refine qac E ok (qad rfl) rfl rfl fun a E=>?_
    refine qai E ok 4 rfl rfl rfl qhb rfl rfl ⟨rfl,trivial⟩ rfl rfl fun w ok=>?_
    refine qai E ok 3 rfl rfl rfl qen rfl rfl ⟨rfl,rfl,trivial⟩ rfl rfl fun w ok=>?_
    refine qai E ok 2 rfl rfl rfl qhX rfl rfl ⟨rfl,trivial⟩ rfl rfl fun w ok=>?_
    refine wpList_nil ?_
    refine qaa ?_
    refine wp_ret ?_
    refine qag ?_
    refine qan ?_
    refine qag ?_
    have hret:qbG u m0 S ([],(Place.mk x_28 r47.2.1),r47.2.2) a w:=⟨m49,(.slice none 0 0),[(Value.int .i64 x_28),(Value.int .i64 r47.2.1)],le_m0,ok.drop.drop.drop.drop.drop,E.d,⟨qe9 E ok rfl qfm (qae.own 4 rfl rfl),rv_c (cs:=[(Value.int .i64 x_28),(Value.int .i64 r47.2.1)]) E ok rfl qff rfl (qae.own 3 rfl rfl),qe9 E ok rfl qhM (qae.own 2 rfl rfl),trivial⟩,qbF,⟨rfl,r33,r52⟩,r53⟩
    obtain rfl:=Option.some.inj hF
    exact qcL (by nofun) (sr ⟨rfl,hret⟩)
   replace hF:=qaj hc54 hF
   refine wp_skip ?_
   refine qaa ?_
   refine qab ?_
   refine qac E ok (qad rfl) rfl rfl fun a E=>?_
   refine qac E ok (qad rfl) rfl rfl fun a E=>?_
   refine qaT (R:=(pL 3 qbM)) (xo:=[.tmp 64]) (xs:=([r47.1]:List (List (Token)))) E ok qcc qhB rfl ⟨⟨_,(qbi h51),rfl,h51⟩,trivial⟩ rfl rfl rfl rfl fun c55 M56 a w E ok h57=>?_
   obtain ⟨l58,e59,hF⟩:=bnd hF
   refine qa3 (R:=(pL 3 qbM)) E ok 2 (mL qev) qcc Tryz.underlying129 rfl h32 (qaJ.ofRow h57 0 rfl ok) e59 ⟨_,qhB,rfl⟩ rfl rfl rfl rfl fun c60 M61 a w E ok h62=>?_
   refine qac E ok (qal rfl) rfl rfl fun a E=>?_
   refine wpList_nil ?_
   refine qaq ?_
   refine qaa ?_
   refine qab ?_
   refine qac E ok (qaG rfl rfl (InR.inc r33 (qas hfiles_2) hc34)) rfl rfl fun a E=>?_
   refine qac E ok (qad rfl) rfl rfl fun a E=>?_
   refine wpList_nil ?_
   obtain rfl:=Option.some.inj hF
   exact qay ⟨m49,c60,M61,le_m0,(ok.pk 6 [2,3,4,5] rfl (by decide)),E.keep [0,1,2,6,7,8,9,42,43,44],h62,(InR.inc r33 (qas hfiles_2) hc34)⟩
 intro e a w _ hO
 rcases o21 with o21 | o21
 rotate_left
 ·replace hF:=qbf hF
  obtain ⟨rfl,hret⟩:=hO
  refine qan ?_
  refine qag ?_
  obtain rfl:=Option.some.inj hF
  exact fin _ _ hret
 replace hF:=qbe hF
 obtain ⟨rfl,m63,c64,M65,hle,ok,E,h66⟩:=hO
 have le_m0:=le_m0.trans hle
 have hscript_0:=(mL qaP).up hle hscript_0
 have hcalls_1:=(mL qaR).up hle hcalls_1
 have hfiles_2:=(mL qcK).up hle hfiles_2
 refine qaS ?_
 refine qaa ?_
 refine wp_seq ?_
 refine qab ?_
 refine qaC E ok qoK rfl rfl fun b67 a w E ok=>?_
 refine wpList_nil ?_
 refine qaa ?_
 refine wp_seq ?_
 refine qab ?_
 refine qhW kS (oneV (pI .i64)) E ok rfl rfl fun c68 M69 a w E ok h70=>?_
 refine qaC E ok qq7 rfl rfl fun b71 a w E ok=>?_
 refine qai E ok 0 rfl rfl rfl qsS (OMap.cells h70) rfl ⟨(OMap.one h70),trivial⟩ rfl rfl fun w ok=>?_
 refine wpList_nil ?_
 refine qaa ?_
 refine wp_seq ?_
 refine wp_seq ?_
 refine qab ?_
 refine qac E ok (qad rfl) rfl rfl fun a E=>?_
 refine qac E ok (qaE qhL hfiles_2 rfl) rfl rfl fun a E=>?_
 refine qac E ok (qad rfl) rfl rfl fun a E=>?_
 refine wpList_nil ?_
 refine qaa ?_
 refine wp_block ?_
 obtain ⟨M80,ok,h81⟩:=qoX (e:=53) (k:=7) (R:=qbB) ok
 obtain ⟨o82,hL,hF⟩:=bnd hF
 refine qaO _ (fun (s:Int × (List (List UInt8 × Int)) × (List (Entry))) a w=>∃ Ds ad m83 c85 M86 c88 M89,a = { ad with defers:=qhK Ds } ∧ m63.le m83 ∧ Ok u m83 (M89 :: [(b71,Obj.cells [c85].toArray 130 (0,0))] :: M86 :: [(b67,Obj.cells [c88].toArray 44 (0,0))] :: M65 :: [(b3,Obj.cells [(Value.int .i64 0)].toArray 47 (0,0))] :: [(b2,Obj.cells [(Value.int .i64 0),(Value.int .i64 0)].toArray 46 (0,0))] :: [(b1,Obj.cells [(Value.slice none 0 0)].toArray 44 (0,0))] :: MkS Ds :: S) w ∧ Env 187 ad [(1,vcalls_1),(6,(Value.pointer (some ⟨b1,0,none⟩))),(7,(Value.pointer (some ⟨b2,0,none⟩))),(8,(Value.pointer (some ⟨b3,0,none⟩))),(9,c64),(15,(Value.pointer (some ⟨b67,0,none⟩))),(16,(Value.pointer (some ⟨b71,0,none⟩))),(69,vfiles_2),(70,(Value.int .i64 (files_2.length:Int))),(71,(Value.int .i64 s.1))] ∧ InR .i64 s.1 ∧ OMap kS (oneV (pI .i64)) m83 c85 s.2.1 M86 ∧ NRow 53 7 qbB m83 c88 s.2.2 M89) (fun (b:(((List (Entry)) × (List (List UInt8 × Int))) ⊕ ((List (Entry)) × Place × Int))) e a w=>(Sum.elim (fun b800=>e = (.exit 2) ∧ ∃ Ds ad m801 c802 M803 c805 M806,a = { ad with defers:=qhK Ds } ∧ m63.le m801 ∧ Ok u m801 (M803 :: [(b71,Obj.cells [c805].toArray 130 (0,0))] :: M806 :: [(b67,Obj.cells [c802].toArray 44 (0,0))] :: M65 :: [(b3,Obj.cells [(Value.int .i64 0)].toArray 47 (0,0))] :: [(b2,Obj.cells [(Value.int .i64 0),(Value.int .i64 0)].toArray 46 (0,0))] :: [(b1,Obj.cells [(Value.slice none 0 0)].toArray 44 (0,0))] :: MkS Ds :: S) w ∧ Env 187 ad [(6,(Value.pointer (some ⟨b1,0,none⟩))),(7,(Value.pointer (some ⟨b2,0,none⟩))),(8,(Value.pointer (some ⟨b3,0,none⟩))),(15,(Value.pointer (some ⟨b67,0,none⟩)))] ∧ NRow 53 7 qbB m801 c802 b800.1 M803 ∧ OMap kS (oneV (pI .i64)) m801 c805 b800.2 M806) (fun b808=>e = .ret ∧ ∃ Ds ad,a = { ad with defers:=qhK Ds } ∧ (∀ D ∈ Ds,w.heap[D]? = some (.deferred (some []))) ∧ Ds.Nodup ∧ qbG u m0 S b808 ad (taken w Ds))) b) ?_ ?_ N _ a w hL ⟨[],a,m63,c68,M69,(Value.slice none 0 0),M80,qsf E,Mem.le.refl _,(ok.addnil.pk 9 [1,2,3,4,5,6,7,8,0] rfl (by decide)),E.keep [1,6,7,8,9,15,16,69,70,71],(show InR .i64 (0) by decide),h70,h81⟩
 rotate_left
 ·intro e a w _ hO
  rcases o82 with o82 | o82
  rotate_left
  ·replace hF:=qbf hF
   obtain ⟨rfl,Ds,ad,rfl,hK,hnD,hret⟩:=hO
   refine qan ?_
   refine qag ?_
   obtain rfl:=Option.some.inj hF
   exact finD _ _ _ hK hnD hret
  replace hF:=qbe hF
  obtain ⟨rfl,Ds,ad,m790,c791,M792,c794,M795,rfl,hle,ok,E,h793,h796⟩:=hO
  have le_m0:=le_m0.trans hle
  have hscript_0:=(mL qaP).up hle hscript_0
  have hcalls_1:=(mL qaR).up hle hcalls_1
  have hfiles_2:=(mL qcK).up hle hfiles_2
  refine qaS ?_
  refine qaa ?_
  refine wp_seq ?_
  refine wp_seq ?_
  refine qjD ?_
  refine qac E ok (qao qfm rfl (qae.own 3 rfl rfl)) rfl rfl fun a E=>?_
  refine qac E ok (qkl qgU h793 rfl) rfl rfl fun a E=>?_
  refine qac E ok (qb9 rfl rfl) rfl rfl fun a E=>?_
  refine wpList_nil ⟨rfl,E.d,?_⟩
  refine qaa ?_
  refine d_if E rfl (fun hc797=>?_) (fun hc797=>?_)
  ·replace hF:=qak hc797 hF
   refine wp_seq ?_
   refine qjD ?_
   refine qac E ok (qaK (ps:=[]) (qs:=[]) (cs:=[(Value.int .i64 0),(Value.int .i64 0)]) qdB qft rfl trivial rfl) rfl rfl fun a E=>?_
   refine qai E ok 7 rfl rfl rfl qhb rfl rfl ⟨rfl,trivial⟩ rfl rfl fun w ok=>?_
   refine qai E ok 6 rfl rfl rfl qen rfl rfl ⟨rfl,rfl,trivial⟩ rfl rfl fun w ok=>?_
   refine qai E ok 5 rfl rfl rfl qhX rfl rfl ⟨rfl,trivial⟩ rfl rfl fun w ok=>?_
   refine wpList_nil ⟨rfl,E.d,?_⟩
   refine qaa ?_
   refine wp_ret ?_
   refine qag ?_
   obtain ⟨hK,hnD⟩:=(ok.frs 8 rfl).mkK
   have ok:=(ok.frs 8 rfl).takenM
   have hret:qbG u m0 S ([],(Place.mk 0 0),6) a (taken w Ds):=⟨m790,(.slice none 0 0),[(Value.int .i64 0),(Value.int .i64 0)],le_m0,ok.drop.drop.drop.drop.drop.drop.drop.drop,E.d,⟨qe9 E ok rfl qfm (qae.own 7 rfl rfl),rv_c (cs:=[(Value.int .i64 0),(Value.int .i64 0)]) E ok rfl qff rfl (qae.own 6 rfl rfl),qe9 E ok rfl qhM (qae.own 5 rfl rfl),trivial⟩,qbF,⟨rfl,(show InR .i64 0 by decide),(show InR .i64 0 by decide)⟩,(show InR .i64 (6) by decide)⟩
   obtain rfl:=Option.some.inj hF
   exact finD _ _ _ hK hnD hret
  replace hF:=qaj hc797 hF
  refine wp_skip ?_
  refine qaa ?_
  refine wp_seq ?_
  refine qjD ?_
  refine qac E ok (qao qfm rfl (qae.own 3 rfl rfl)) rfl rfl fun a E=>?_
  refine qac E ok (qaK (ps:=[]) (qs:=[]) (cs:=[(Value.int .i64 0),(Value.int .i64 0)]) qdB qft rfl trivial rfl) rfl rfl fun a E=>?_
  refine qai E ok 7 rfl rfl rfl qhb (NRow.cells h793) rfl ⟨(NRow.one h793),trivial⟩ rfl rfl fun w ok=>?_
  refine qai E ok 6 rfl rfl rfl qen rfl rfl ⟨rfl,rfl,trivial⟩ rfl rfl fun w ok=>?_
  refine qai E ok 5 rfl rfl rfl qhX rfl rfl ⟨rfl,trivial⟩ rfl rfl fun w ok=>?_
  refine wpList_nil ⟨rfl,E.d,?_⟩
  refine qaa ?_
  refine wp_ret ?_
  obtain ⟨m798,hle,ok,hfz⟩:=(ok.frs 0 rfl).freeze
  have h799:=NRow.froz qnQ h793 hle hfz (by decide)
  have le_m0:=le_m0.trans hle
  have hscript_0:=(mL qaP).up hle hscript_0
  have hcalls_1:=(mL qaR).up hle hcalls_1
  have hfiles_2:=(mL qcK).up hle hfiles_2
  have h796:=OMap.up (qfV (mI .i64)) hle h796
  obtain ⟨hK,hnD⟩:=(ok.frs 7 rfl).mkK
  have ok:=(ok.frs 7 rfl).takenM
  have hret:qbG u m0 S (o82.1,(Place.mk 0 0),0) a (taken w Ds):=⟨m798,c791,[(Value.int .i64 0),(Value.int .i64 0)],le_m0,ok.drop.drop.drop.drop.drop.drop.drop,E.d,⟨qe9 E ok rfl qfm (qae.own 6 rfl rfl),rv_c (cs:=[(Value.int .i64 0),(Value.int .i64 0)]) E ok rfl qff rfl (qae.own 5 rfl rfl),qe9 E ok rfl qhM (qae.own 4 rfl rfl),trivial⟩,h799,⟨rfl,(show InR .i64 0 by decide),(show InR .i64 0 by decide)⟩,(show InR .i64 (0) by decide)⟩
  obtain rfl:=Option.some.inj hF
  exact finD _ _ _ hK hnD hret
 rintro ⟨x_91,x_92,x_93⟩ a w r ⟨Ds,ad,m94,c96,M97,c99,M100,rfl,hle,ok,E,r95,h98,h101⟩ hF
 replace hF:qcy N calls_1 files_2 o21 x_91 x_92 x_93 = some r:=hF
 unfold qcy at hF
 have le_m63:=Mem.le.refl m63
 have le_m0:=le_m0.trans hle
 have le_m63:=le_m63.trans hle
 have hscript_0:=(mL qaP).up hle hscript_0
 have hcalls_1:=(mL qaR).up hle hcalls_1
 have hfiles_2:=(mL qcK).up hle hfiles_2
 have h66:=ORow.up (mL qev) hle h66
 refine wp_seq ?_
 refine qjD ?_
 refine qac E ok (qaA rfl rfl) rfl rfl fun a E=>?_
 refine wpList_nil ⟨rfl,E.d,?_⟩
 refine qaa ?_
 refine wp_seq ?_
 refine d_if E rfl (fun hc102=>?_) (fun hc102=>?_)
 rotate_left
 ·replace hF:=qaj hc102 hF
  refine wp_exit ?_
  refine qaB ?_
  obtain rfl:=Option.some.inj hF
  exact qcL (by nofun) (sl ⟨rfl,⟨Ds,_,m94,c99,M100,c96,M97,rfl,le_m63,ok,E.keep [6,7,8,15],h101,h98⟩⟩)
 replace hF:=qak hc102 hF
 refine wp_skip ?_
 refine qaa ?_
 refine wp_seq ?_
 refine wp_block ?_
 refine wp_seq ?_
 refine qjD ?_
 refine qac E ok (qad rfl) rfl rfl fun a E=>?_
 obtain ⟨x103,e104,hF⟩:=bnd hF
 obtain ⟨b105,o106,es107,hl108,rr109,at110,yy111⟩:=qaN qhL hfiles_2 e104 (P:=Tryz.prog) (X:=.tmp 69) (I:=.tmp 71) (kd:=.i64) (qah E rfl) (qah E rfl)
 obtain ⟨rfl,l112,l113⟩:=rr109
 refine qac E ok (yy111 _ _) rfl rfl fun a E=>?_
 refine qac E ok (qat (cs:=[(Value.string (bs x103.Name)),(Value.string (bs x103.Text))]) qnW rfl rfl (qae.ro at110)) rfl rfl fun a E=>?_
 refine qaC E ok qqd rfl rfl fun b114 a w E ok=>?_
 refine qaC E ok qhH rfl rfl fun b115 a w E ok=>?_
 refine qai E ok 1 rfl rfl rfl qey rfl rfl ⟨rfl,trivial⟩ rfl rfl fun w ok=>?_
 refine qai E ok 0 rfl rfl rfl qoh rfl rfl ⟨rfl,rfl,trivial⟩ rfl rfl fun w ok=>?_
 refine wpList_nil ⟨rfl,E.d,?_⟩
 refine qaa ?_
 refine wp_seq ?_
 refine qjD ?_
 refine qac E ok (qad rfl) rfl rfl fun a E=>?_
 refine qac E ok (qao qaZ rfl (qae.own 1 rfl rfl)) rfl rfl fun a E=>?_
 obtain ⟨x116,e117,hF⟩:=bnd hF
 obtain ⟨b118,o119,hp120,yy121⟩:=qcA qcc h66 e117 (P:=Tryz.prog) (X:=.tmp 76) (I:=.tmp 77) (kd:=.i64) (qah E rfl) (qah E rfl)
 refine qac E ok (yy121 _ _) rfl rfl fun a E=>?_
 obtain ⟨es122,hl123,rr124,hh125⟩:=qeF h66 e117 hp120 (by decide)
 obtain ⟨c126,rfl,h127⟩:=qkP rr124
 refine qac E ok (qao qfg rfl (hh125 _ _ _ 6 rfl)) rfl rfl fun a E=>?_
 refine qac E ok (qad rfl) rfl rfl fun a E=>?_
 obtain ⟨r128,e129,hF⟩:=bnd hF
 obtain ⟨hfo,hfb⟩:=qqz e129
 refine qaz E qum rfl (qjo (qbi h127) (qbi hcalls_1) ok) rfl rfl ?_
 rintro _ w ⟨bl,bc,rfl,ok⟩
 refine ⟨_,rfl,fun a E=>?_⟩
 refine wpList_nil ⟨rfl,E.d,?_⟩
 refine qaa ?_
 refine wp_block ?_
 obtain ⟨o141,hL,hF⟩:=bnd hF
 have hL2:qe6 N x_91 x103 r128 x_92 x_93 = true ∧ runF (fun s x=>qdD N x_91 x103 x s.1 s.2) r128 (x_92,x_93) = some o141:=by
  unfold qgR at hL
  cases hb:qe6 N x_91 x103 r128 x_92 x_93 with
  | false=>rw [hb] at hL; cases hL
  | true=>rw [hb] at hL; exact ⟨rfl,hL⟩
 obtain ⟨hokb,hrun⟩:=hL2
 obtain ⟨K,hKe⟩:∃ K:Nat,K = 20000000:=⟨_,rfl⟩
 obtain ⟨hn1,hn2,hn3,hnN,hn4,hSb0⟩:=qtE hokb K
 have ok:Ok u m94 ([(bc,Obj.cells [vcalls_1].toArray 34 (0,0))] :: [(bl,Obj.cells [c126].toArray 26 (0,0))] :: [(b115,Obj.cells [(Value.string (bs x103.Name)),(Value.string (bs x103.Text))].toArray 75 (0,0))] :: [(b114,Obj.cells [(Value.int .i64 x_91)].toArray 3 (0,0))] :: M100 :: [(b71,Obj.cells [c96].toArray 130 (0,0))] :: M97 :: [(b67,Obj.cells [c99].toArray 44 (0,0))] :: M65 :: [(b3,Obj.cells [(Value.int .i64 0)].toArray 47 (0,0))] :: [(b2,Obj.cells [(Value.int .i64 0),(Value.int .i64 0)].toArray 46 (0,0))] :: [(b1,Obj.cells [(Value.slice none 0 0)].toArray 44 (0,0))] :: MkS Ds :: S) w:=ok
 have hSlt:∀ q ∈ (MkS Ds :: S).flatten,q.1 < w.heap.size:=fun q hq=>ok.ids_lt (by simp only [List.flatten_cons,List.mem_append] at hq ⊢; rcases hq with hq | hq <;> simp [hq])
 have hM65c:∀ q ∈ M65,q.2.isCells = true:=h66.isCells
 obtain ⟨bm,hbm⟩:=OMap.val h98
 have hbm2:bm < w.heap.size:=by
  obtain ⟨b',es',cl',g1,g2,_⟩:=h98
  rw [g1] at hbm
  simp only [Value.map.injEq,Option.some.injEq] at hbm
  subst hbm
  exact ok.ids_lt (p:=(b',Obj.map es'.toArray cl')) (by simp only [List.flatten_cons,List.mem_append,g2,List.mem_singleton]; simp)
 have hmlt:∀ b o,m94 b = some o → b < w.heap.size:=fun b o h=>ok.m_lt h
 have E0:=E
 have segs:∀ {M Mr:List (Nat × Obj)} {c' v3 v21 v22:Value} {X:Segs},(∀ q ∈ X.flatten,q.1 < w.heap.size ∨ q.2.isCells = true) → (∀ q ∈ M,q.1 = bm) → (∀ q ∈ Mr,q.2.isCells = true) → ∀ q ∈ ([(b115,Obj.cells [(Value.string (bs x103.Name)),(Value.string (bs x103.Text))].toArray 75 (0,0))] :: [(b114,Obj.cells [(Value.int .i64 x_91)].toArray 3 (0,0))] :: Mr :: [(b71,Obj.cells [c96].toArray 130 (0,0))] :: M :: [(b67,Obj.cells [c'].toArray 44 (0,0))] :: M65 :: [(b3,Obj.cells [v3].toArray 47 (0,0))] :: [(b2,Obj.cells [v21,v22].toArray 46 (0,0))] :: [(b1,Obj.cells [(Value.slice none 0 0)].toArray 44 (0,0))] :: X).flatten,q.1 < w.heap.size ∨ q.2.isCells = true:=by
  intro M Mr c' v3 v21 v22 X hX hM hMr q hq
  simp only [List.flatten_cons,List.mem_append,List.mem_singleton] at hq
  rcases hq with rfl | rfl | hq | rfl | hq | rfl | hq | rfl | rfl | rfl | hq
  ·exact .inr rfl
  ·exact .inr rfl
  ·exact .inr (hMr q hq)
  ·exact .inr rfl
  ·exact .inl (by rw [hM q hq]; exact hbm2)
  ·exact .inr rfl
  ·exact .inr (hM65c q hq)
  ·exact .inr rfl
  ·exact .inr rfl
  ·exact .inr rfl
  ·exact hX q hq
 have hSlt2:∀ q ∈ (MkS Ds :: S).flatten,q.1 < w.heap.size ∨ q.2.isCells = true:=fun q hq=>.inl (hSlt q hq)
 refine (wpIn_wide (n:=3)).1 (qpG (ds:=qhK Ds) (m:=m94) (vc:=vcalls_1) E rfl rfl rfl (fun _ _=>rfl) (fun _ _=>rfl) ok h127 hcalls_1 hfo hfb hG
  (fun j (s:Mp × List Entry) T=>∃ M c' M',T = [(b115,Obj.cells [(Value.string (bs x103.Name)),(Value.string (bs x103.Text))].toArray 75 (0,0))] :: [(b114,Obj.cells [(Value.int .i64 x_91)].toArray 3 (0,0))] :: M' :: [(b71,Obj.cells [c96].toArray 130 (0,0))] :: M :: [(b67,Obj.cells [c'].toArray 44 (0,0))] :: M65 :: [(b3,Obj.cells [(Value.int .i64 0)].toArray 47 (0,0))] :: [(b2,Obj.cells [(Value.int .i64 0),(Value.int .i64 0)].toArray 46 (0,0))] :: [(b1,Obj.cells [(Value.slice none 0 0)].toArray 44 (0,0))] :: MkS Ds :: S ∧ OMap kS (oneV (pI .i64)) m94 c96 s.1 M ∧ NRow 53 7 qbB m94 c' s.2 M' ∧ Sb N r128.length K j s.1 s.2)
  (fun (s:List Entry × Place × Int) T=>∃ M c' M',T = [(b115,Obj.cells [(Value.string (bs x103.Name)),(Value.string (bs x103.Text))].toArray 75 (0,0))] :: [(b114,Obj.cells [(Value.int .i64 x_91)].toArray 3 (0,0))] :: M' :: [(b71,Obj.cells [c96].toArray 130 (0,0))] :: M :: [(b67,Obj.cells [c'].toArray 44 (0,0))] :: M65 :: [(b3,Obj.cells [(Value.int .i64 s.2.2)].toArray 47 (0,0))] :: [(b2,Obj.cells [(Value.int .i64 s.2.1.File),(Value.int .i64 s.2.1.Offset)].toArray 46 (0,0))] :: [(b1,Obj.cells [(Value.slice none 0 0)].toArray 44 (0,0))] :: MkS Ds :: S ∧ (∀ q ∈ M,q.1 = bm) ∧ (∀ q ∈ M',q.2.isCells = true) ∧ s.1 = [] ∧ InR .i64 s.2.2 ∧ InR .i64 s.2.1.File ∧ InR .i64 s.2.1.Offset)
  (fun s x=>qdD N x_91 x103 x s.1 s.2) (x_92,x_93) ⟨M97,c99,M100,rfl,h98,h101,hSb0⟩ ?_ ?_ ?_ ?_ ?_)
 ·rintro j s T ⟨M,c',M',rfl,h1,h2,h3⟩
  exact segs hSlt2 (h1.blk hbm) (qjA h2)
 ·rintro s T ⟨M,c',M',rfl,h1,h2,h3⟩
  exact segs hSlt2 h1 h2
 ·rintro k j ⟨x_150,x_151⟩ T x160 b174 m130 a w Q' ⟨M154,c156,M157,rfl,h155,h158,hSb⟩ hj hx hle ok E hn hx2
  obtain ⟨hx0,hx1,hx3,hx4,hx5,hx6,hx7⟩:=hx
  have r169:InR .i64 x160.call:=by
   have:=qda.1 (qas hcalls_1)
   rw [qda]; omega
  have r170:InR .i64 x160.offset:=by rw [qda]; omega
  have l171:x160.id.length ≤ LIMS:=by unfold LIMS; omega
  have l172:x160.source.length ≤ LIMS:=by unfold LIMS; omega
  have l173:x160.comment.length ≤ LIMS:=by unfold LIMS; omega
  obtain ⟨r,hr⟩:∃ r,r = rnd x_91 x103 x160 x_150 x_151:=⟨_,rfl⟩
  have hjK:j * K ≤ 20000000000000:=Nat.le_trans (Nat.mul_le_mul (show j ≤ 1000000 by omega) (Nat.le_of_eq hKe)) (by decide)
  have hRb:Rb N x103 x160 x_150 x_151:=hSb.rb hj hn3 hnN hn1 hn2 hx3 hx4 hjK
  have hF:=qnC (i:=x_91) hRb
  rw [← hr] at hF
  have hF2:qdD N x_91 x103 x160 (x_150,x_151).1 (x_150,x_151).2 = some r:=hF
  have hrl:(refT x103 x160).length + 1 ≤ K:=by
   have:=(qmD (N:=N) hn1 hn2 hx3 hx4 (fun s:List UInt8=>(some s:Option (List UInt8)))).2
   omega
  have h155:=OMap.up (qfV (mI .i64)) hle h155
  have h158:=NRow.up qnL hle h158
  obtain ⟨S1,hS1⟩:∃ S1:Segs,S1 = [(bc,Obj.cells [vcalls_1].toArray 34 (0,0))] :: [(bl,Obj.cells [c126].toArray 26 (0,0))] :: MkS Ds :: S:=⟨_,rfl⟩
  replace ok:Ok u m130 ([(b174,Obj.cells [(Value.int .i64 x160.call),(Value.int .i64 x160.offset),(Value.string (bs x160.id)),(Value.string (bs x160.source)),(Value.string (bs x160.comment))].toArray 105 (0,0))] :: [(b115,Obj.cells [(Value.string (bs x103.Name)),(Value.string (bs x103.Text))].toArray 75 (0,0))] :: [(b114,Obj.cells [(Value.int .i64 x_91)].toArray 3 (0,0))] :: M157 :: [(b71,Obj.cells [c96].toArray 130 (0,0))] :: M154 :: [(b67,Obj.cells [c156].toArray 44 (0,0))] :: M65 :: [(b3,Obj.cells [(Value.int .i64 0)].toArray 47 (0,0))] :: [(b2,Obj.cells [(Value.int .i64 0),(Value.int .i64 0)].toArray 46 (0,0))] :: [(b1,Obj.cells [(Value.slice none 0 0)].toArray 44 (0,0))] :: S1) w:=by
   rw [hS1]; exact ok.pk 13 [0,3,4,5,6,7,8,9,10,11,12,1,2] rfl (by decide)
  have hnK:∀ {ix':Mp} {out':List Entry} {M cm c' M':_} {a':Act} {w':World},cm = c96 → r = .inl (ix',out') → Ok u m130 ([(b115,Obj.cells [(Value.string (bs x103.Name)),(Value.string (bs x103.Text))].toArray 75 (0,0))] :: [(b114,Obj.cells [(Value.int .i64 x_91)].toArray 3 (0,0))] :: M' :: [(b71,Obj.cells [cm].toArray 130 (0,0))] :: M :: [(b67,Obj.cells [c'].toArray 44 (0,0))] :: M65 :: [(b3,Obj.cells [(Value.int .i64 0)].toArray 47 (0,0))] :: [(b2,Obj.cells [(Value.int .i64 0),(Value.int .i64 0)].toArray 46 (0,0))] :: [(b1,Obj.cells [(Value.slice none 0 0)].toArray 44 (0,0))] :: S1) w' → OMap kS (oneV (pI .i64)) m130 cm ix' M → NRow 53 7 qbB m130 c' out' M' → Q' .normal a' w':=by
   intro ix' out' M cm c' M' a' w' hcm hr2 ok' hm' hr'
   rw [hcm] at ok' hm'
   have hSb2:=hSb.step hj hn3 hnN hrl (hr.symm.trans hr2)
   refine hn (ix',out') _ m130 a' w' (hF2.trans (congrArg some hr2)) ⟨M,c',M',rfl,hm'.chg (fun _ _ h=>h),hr'.chg (fun cs x M hx h=>qpo (hSb2.fg x hx) h),hSb2⟩ (Mem.le.refl _) ?_
   rw [hS1] at ok'
   exact ok'.pk 12 [10,11,0,1,2,3,4,5,6,7,8,9] rfl (by decide)
  have hxK:∀ {o:Place × Int} {M cm c' M':_} {ix':Mp} {out':List Entry} {a':Act} {w':World},cm = c96 → r = .inr ([],o.1,o.2) → InR .i64 o.2 → InR .i64 o.1.File → InR .i64 o.1.Offset → Ok u m130 (M' :: [(b174,Obj.cells [(Value.int .i64 x160.call),(Value.int .i64 x160.offset),(Value.string (bs x160.id)),(Value.string (bs x160.source)),(Value.string (bs x160.comment))].toArray 105 (0,0))] :: [(b115,Obj.cells [(Value.string (bs x103.Name)),(Value.string (bs x103.Text))].toArray 75 (0,0))] :: [(b114,Obj.cells [(Value.int .i64 x_91)].toArray 3 (0,0))] :: [(b71,Obj.cells [cm].toArray 130 (0,0))] :: M :: [(b67,Obj.cells [c'].toArray 44 (0,0))] :: M65 :: [(b3,Obj.cells [(Value.int .i64 o.2)].toArray 47 (0,0))] :: [(b2,Obj.cells [(Value.int .i64 o.1.File),(Value.int .i64 o.1.Offset)].toArray 46 (0,0))] :: [(b1,Obj.cells [(Value.slice none 0 0)].toArray 44 (0,0))] :: S1) w' → OMap kS (oneV (pI .i64)) m130 cm ix' M → NRow 53 7 qbB m130 c' out' M' → Q' .ret a' w':=by
   intro o M cm c' M' ix' out' a' w' hcm hr2 r1 r2 r3 ok' hm' hr'
   rw [hcm] at ok' hm'
   refine hx2 ([],o.1,o.2) _ m130 a' w' (hF2.trans (congrArg some hr2)) ⟨M,c',M',rfl,hm'.blk hbm,qjA hr',rfl,r1,r2,r3⟩ (Mem.le.refl _) ?_
   rw [hS1] at ok'
   exact ok'.pk 13 [11,12,2,3,0,4,5,6,7,8,9,10] rfl (by decide)
  unfold qdD at hF
  clear hF2 hRb hSb hr hn hx2 hx0 hx1 hx3 hx4 hx5 hx6 hx7 hrl hjK hS1
  refine wpIn_block ?_
  refine wpIn_seq ?_
  refine qmd (by kernel_rfl) rfl (by kernel_rfl) ok ?_
  refine qaY E (qaf qik rfl) rfl rfl fun a E=>?_
  refine qaY E (qao qav rfl (qae.own 1 rfl rfl)) rfl rfl fun a E=>?_
  obtain ⟨s175,e176,hF⟩:=bnd hF
  refine qaY E (qa5 rfl rfl e176) rfl rfl fun a E=>?_
  refine qaY E (qaf qo7 rfl) rfl rfl fun a E=>?_
  refine qaY E (qao qav rfl (qae.own 1 rfl rfl)) rfl rfl fun a E=>?_
  refine qaY E (qaf qnZ rfl) rfl rfl fun a E=>?_
  refine qaY E (qao qaZ rfl (qae.own 0 rfl rfl)) rfl rfl fun a E=>?_
  obtain ⟨s177,e178,hF⟩:=bnd hF
  refine qaY E (qa7 Tryz.underlying9 e178 rfl rfl ⟨_,rfl⟩) rfl rfl fun a E=>?_
  obtain ⟨r179,e180,hF⟩:=bnd hF
  obtain ⟨_,_,⟨_,_⟩,r181⟩:=Go.X.Calls.get (qiP N s177 (Nat.le_trans (qb6 e178) l113) ([10]) (show ([10]:List UInt8).length ≤ LIMS by decide) e180 hG ok)
  refine qfR E quz rfl (fun w ok=>(qiP N s177 (Nat.le_trans (qb6 e178) l113) ([10]) (show ([10]:List UInt8).length ≤ LIMS by decide) e180 hG ok).mono (fun _ _ h=>h.1)) rfl rfl fun a E=>?_
  refine qaY E (qaF rfl rfl) rfl rfl fun a E=>?_
  obtain ⟨r182,e183,hF⟩:=bnd hF
  obtain ⟨_,_,⟨_,_⟩,l184⟩:=Go.X.Calls.get (qiQ N (IntKind.wrap .i64 ((1:Int) + r179)) (InR.wrap _ _) e183 hG hTb ok)
  refine qfR E quk rfl (fun w ok=>(qiQ N (IntKind.wrap .i64 ((1:Int) + r179)) (InR.wrap _ _) e183 hG hTb ok).mono (fun _ _ h=>h.1)) rfl rfl fun a E=>?_
  obtain ⟨s185,e186,hF⟩:=bnd hF
  refine qaY E (qa5 rfl rfl e186) rfl rfl fun a E=>?_
  refine qaY E (qal rfl) rfl rfl fun a E=>?_
  refine wpQuiet_nil ?_
  intro w ok
  refine qaa ?_
  refine wpIn_seq ?_
  refine qeg rfl ?_
  refine qac E ok (qao qkV rfl (qae.own 4 rfl rfl)) rfl rfl fun a E=>?_
  refine qac E ok (qaf qhv rfl) rfl rfl fun a E=>?_
  refine qac E ok (qao qav rfl (qae.own 0 rfl rfl)) rfl rfl fun a E=>?_
  obtain ⟨xv187,h188,yy189,yy190⟩:=qkQ (P:=Tryz.prog) (mo:=.tmp 96) (ko:=.tmp 98) (zx:=(0:Int)) ok 5 (qd5 Tryz.underlying9) Tryz.underlying130 h155 rfl (qah E rfl) (qah E rfl) ⟨rfl,l171⟩ qo5 (qgA (show InR .i64 0 by decide))
  obtain ⟨rfl,r191⟩:=qh0 h188
  refine qac E ok (yy190 _) rfl rfl fun a E=>?_
  refine qac E ok (qad rfl) rfl rfl fun a E=>?_
  refine qac E ok (qaw rfl rfl) rfl rfl fun a E=>?_
  refine qac E ok (qaw rfl rfl) rfl rfl fun a E=>?_
  refine qac E ok (qal rfl) rfl rfl fun a E=>?_
  refine qac E ok (qal rfl) rfl rfl fun a E=>?_
  refine wpList_nil ⟨rfl,?_⟩
  refine qaa ?_
  refine wpIn_seq ?_
  refine wpIn_seq ?_
  refine qeg rfl ?_
  refine qac E ok (qad rfl) rfl rfl fun a E=>?_
  refine qac E ok (qbQ rfl) rfl rfl fun a E=>?_
  refine wpList_nil ⟨rfl,?_⟩
  refine qaa ?_
  obtain ⟨o192,hJ,hF⟩:=bnd hF
  refine qok (Q':=fun e a w=>e = .normal ∧ ∃ c194 M195 c197 M198,c194 = c96 ∧ Ok u m130 ([(b174,Obj.cells [(Value.int .i64 x160.call),(Value.int .i64 x160.offset),(Value.string (bs x160.id)),(Value.string (bs x160.source)),(Value.string (bs x160.comment))].toArray 105 (0,0))] :: [(b115,Obj.cells [(Value.string (bs x103.Name)),(Value.string (bs x103.Text))].toArray 75 (0,0))] :: [(b114,Obj.cells [(Value.int .i64 x_91)].toArray 3 (0,0))] :: M198 :: [(b71,Obj.cells [c194].toArray 130 (0,0))] :: M195 :: [(b67,Obj.cells [c197].toArray 44 (0,0))] :: M65 :: [(b3,Obj.cells [(Value.int .i64 0)].toArray 47 (0,0))] :: [(b2,Obj.cells [(Value.int .i64 0),(Value.int .i64 0)].toArray 46 (0,0))] :: [(b1,Obj.cells [(Value.slice none 0 0)].toArray 44 (0,0))] :: S1) w ∧ Env 187 a [(1,vcalls_1),(6,(Value.pointer (some ⟨b1,0,none⟩))),(7,(Value.pointer (some ⟨b2,0,none⟩))),(8,(Value.pointer (some ⟨b3,0,none⟩))),(9,c64),(15,(Value.pointer (some ⟨b67,0,none⟩))),(16,(Value.pointer (some ⟨b71,0,none⟩))),(17,(Value.pointer (some ⟨b114,0,none⟩))),(18,(Value.pointer (some ⟨b115,0,none⟩))),(19,(Value.pointer (some ⟨b174,0,none⟩))),(20,(Value.string (bs s185))),(21,(Value.int .i64 o192.1)),(22,(Value.bool ((mget x_150 x160.id).isSome))),(69,vfiles_2),(70,(Value.int .i64 (files_2.length:Int))),(71,(Value.int .i64 x_91))] ∧ InR .i64 o192.1 ∧ OMap kS (oneV (pI .i64)) m130 c194 o192.2.1 M195 ∧ NRow 53 7 qbB m130 c197 o192.2.2 M198) ?_ ?_
  ·replace hF:=hJ
   clear hJ
   refine r_if E rfl (fun hc200=>?_) (fun hc200=>?_)
   rotate_left
   ·replace hF:=qaj hc200 hF
    refine wpIn_skip ?_
    obtain rfl:=Option.some.inj hF
    exact ⟨rfl,⟨c96,M154,c156,M157,rfl,ok,E.keep [1,6,7,8,9,15,16,17,18,19,20,21,22,69,70,71],r191,h155,h158⟩⟩
   replace hF:=qak hc200 hF
   refine wpIn_seq ?_
   refine qeg rfl ?_
   refine qac E ok (qao qfm rfl (qae.own 6 rfl rfl)) rfl rfl fun a E=>?_
   refine qac E ok (qkl qgU h158 rfl) rfl rfl fun a E=>?_
   refine qac E ok (qal rfl) rfl rfl fun a E=>?_
   refine wpList_nil ⟨rfl,?_⟩
   refine qaa ?_
   refine wpIn_seq ?_
   refine qeg rfl ?_
   refine qac E ok (qao qkV rfl (qae.own 4 rfl rfl)) rfl rfl fun a E=>?_
   refine qac E ok (qaf qhv rfl) rfl rfl fun a E=>?_
   refine qac E ok (qao qav rfl (qae.own 0 rfl rfl)) rfl rfl fun a E=>?_
   refine qac E ok (qad rfl) rfl rfl fun a E=>?_
   obtain ⟨l201,e202,hF⟩:=bnd hF
   refine qjf (.inl rfl) E ok 5 (qd5 Tryz.underlying9) Tryz.underlying130 h155 rfl rfl rfl rfl ⟨rfl,l171⟩ (qgA (NRow.InR h158)) e202 rfl fun M203 w ok h204=>?_
   refine wpList_nil ⟨rfl,?_⟩
   refine qaa ?_
   refine qeg rfl ?_
   refine qac E ok (qao qfm rfl (qae.own 6 rfl rfl)) rfl rfl fun a E=>?_
   refine qac E ok (qaf qhv rfl) rfl rfl fun a E=>?_
   refine qac E ok (qao qav rfl (qae.own 0 rfl rfl)) rfl rfl fun a E=>?_
   refine qac E ok (qaf qit rfl) rfl rfl fun a E=>?_
   refine qac E ok (qao qav rfl (qae.own 0 rfl rfl)) rfl rfl fun a E=>?_
   refine qac E ok (qaK (ps:=[(0,.const (Value.string (bs ([114,101,102]))))]) (qs:=[(0,[(Value.string (bs ([114,101,102])))])]) (cs:=[(Value.string (bs ([114,101,102]))),(Value.string (bs ([])))]) qkT qmR rfl ⟨rfl,rfl,rfl,trivial⟩ rfl) rfl rfl fun a E=>?_
   refine qaT (R:=qeY) (xo:=[.tmp 115]) (xs:=([(Field.mk ([114,101,102]) ([]))]:List (Field))) E ok qc2 qkT rfl ⟨⟨_,rfl,rfl,⟨rfl,(show ([114,101,102]:List UInt8).length ≤ LIMS by decide),(Nat.zero_le _)⟩⟩,trivial⟩ rfl rfl rfl rfl fun c205 M206 a w E ok h207=>?_
   refine qac E ok (qaK (ps:=[(0,.tmp 112),(1,.tmp 114),(6,.tmp 116)]) (qs:=[(0,[(Value.string (bs x160.id))]),(1,[(Value.string (bs x160.source))]),(6,[c205])]) (cs:=[(Value.string (bs x160.id)),(Value.string (bs x160.source)),(Value.string (bs ([]))),(Value.slice none 0 0),(Value.slice none 0 0),(Value.int .i64 0),c205]) qjk qmS rfl ⟨rfl,rfl,rfl,⟨rfl,rfl,rfl,⟨rfl,(ORow.cells h207),rfl,trivial⟩⟩⟩ rfl) rfl rfl fun a E=>?_
   refine qaT (R:=pRaw) (xo:=[.tmp 117]) (xs:=[[(Value.string (bs x160.id)),(Value.string (bs x160.source)),(Value.string (bs ([]))),(Value.slice none 0 0),(Value.slice none 0 0),(Value.int .i64 0),c205]]) E ok qgU qjk rfl ⟨⟨_,rfl,rfl,⟨rfl,⟨rfl,rfl,rfl,rfl,rfl,rfl,(ORow.one h207),trivial⟩⟩⟩,trivial⟩ rfl rfl rfl rfl fun c208 M209 a w E ok h210=>?_
   obtain ⟨M211,ok,h212⟩:=qdI (e:=9) (k:=1) (R:=pS) ok
   replace ok:Ok u m130 (M157 :: M211 :: M206 :: M209 :: [(b174,Obj.cells [(Value.int .i64 x160.call),(Value.int .i64 x160.offset),(Value.string (bs x160.id)),(Value.string (bs x160.source)),(Value.string (bs x160.comment))].toArray 105 (0,0))] :: [(b115,Obj.cells [(Value.string (bs x103.Name)),(Value.string (bs x103.Text))].toArray 75 (0,0))] :: [(b114,Obj.cells [(Value.int .i64 x_91)].toArray 3 (0,0))] :: [(b71,Obj.cells [c96].toArray 130 (0,0))] :: M203 :: [(b67,Obj.cells [c156].toArray 44 (0,0))] :: M65 :: [(b3,Obj.cells [(Value.int .i64 0)].toArray 47 (0,0))] :: [(b2,Obj.cells [(Value.int .i64 0),(Value.int .i64 0)].toArray 46 (0,0))] :: [(b1,Obj.cells [(Value.slice none 0 0)].toArray 44 (0,0))] :: S1) w:=(ok.pk 14 [6,0,2,1,3,4,5,7,8,9,10,11,12,13] rfl (by decide))
   obtain ⟨l213,e214,hF⟩:=bnd hF
   have hsrc:=(qaJ.ofRow h210 3 rfl ok)
   replace ok:=ok.joinM2
   refine qlZ (R:=qbB) E ok qgU Tryz.underlying44 h158 hsrc ⟨_,_,_,_,_,rfl,rfl,l171,l172,(Nat.zero_le _),h212,qbF,(show InR .i64 0 by decide),h207⟩ e214 ⟨_,qjk,rfl⟩ rfl rfl rfl rfl fun c215 M216 a w E ok h217=>?_
   clear hsrc
   refine qai E ok 7 rfl rfl rfl qhb (NRow.cells h217) rfl ⟨(NRow.one h217),trivial⟩ rfl rfl fun w ok=>?_
   refine wpList_nil ⟨rfl,?_⟩
   obtain rfl:=Option.some.inj hF
   exact ⟨rfl,⟨c96,M203,c215,M216,rfl,(ok.pk 12 [2,3,4,0,5,6,7,8,9,10,11] rfl (by decide)),E.keep [1,6,7,8,9,15,16,17,18,19,20,21,22,69,70,71],(NRow.InR h158),h204,h217⟩⟩
  clear hJ
  intro e a w hO
  obtain ⟨rfl,c219,M220,c222,M223,hcj,ok,E,r218,h221,h224⟩:=hO
  refine qaa ?_
  refine wpIn_seq ?_
  refine qeg rfl ?_
  refine qac E ok (qao qfm rfl (qae.own 6 rfl rfl)) rfl rfl fun a E=>?_
  refine qac E ok (qad rfl) rfl rfl fun a E=>?_
  obtain ⟨x225,e226,hF⟩:=bnd hF
  obtain ⟨b227,o228,hp229,yy230⟩:=qtb qgU h224 e226 (P:=Tryz.prog) (X:=.tmp 120) (I:=.tmp 121) (kd:=.i64) (qah E rfl) (qah E rfl)
  refine qac E ok (yy230 _ _) rfl rfl fun a E=>?_
  refine qac E ok (qal rfl) rfl rfl fun a E=>?_
  refine wpList_nil ⟨rfl,?_⟩
  refine qaa ?_
  refine wpIn_seq ?_
  refine wpIn_seq ?_
  replace ok:Ok u m130 (M223 :: [(b174,Obj.cells [(Value.int .i64 x160.call),(Value.int .i64 x160.offset),(Value.string (bs x160.id)),(Value.string (bs x160.source)),(Value.string (bs x160.comment))].toArray 105 (0,0))] :: [(b115,Obj.cells [(Value.string (bs x103.Name)),(Value.string (bs x103.Text))].toArray 75 (0,0))] :: [(b114,Obj.cells [(Value.int .i64 x_91)].toArray 3 (0,0))] :: [(b71,Obj.cells [c219].toArray 130 (0,0))] :: M220 :: [(b67,Obj.cells [c222].toArray 44 (0,0))] :: M65 :: [(b3,Obj.cells [(Value.int .i64 0)].toArray 47 (0,0))] :: [(b2,Obj.cells [(Value.int .i64 0),(Value.int .i64 0)].toArray 46 (0,0))] :: [(b1,Obj.cells [(Value.slice none 0 0)].toArray 44 (0,0))] :: S1) w:=(ok.pk 11 [3,0,1,2,4,5,6,7,8,9,10] rfl (by decide))
  obtain ⟨cs231,c232,M233,M234,M235,ok,hr236,hx237,he238,hh239⟩:=NRow.open h224 e226 ok
  obtain ⟨c245,c247,c250,M240,M241,rfl,rfl,l242,l243,l244,h246,h248,r249,h251⟩:=he238
  replace ok:=ok.splitM2
  refine qmd (by kernel_rfl) rfl (by kernel_rfl) ok ?_
  refine qaY E (qad rfl) rfl rfl fun a E=>?_
  refine qaY E (qbk rfl) rfl rfl fun a E=>?_
  refine qaY E (qaf qmg rfl) rfl rfl fun a E=>?_
  obtain ⟨hl252,hh253⟩:=qdt hr236 hx237 hp229 (by decide)
  refine qaY E (qao qav rfl (qae.sub 1 1 (hh253 _ _ _ 0 rfl))) rfl rfl fun a E=>?_
  refine qaY E (qaf qit rfl) rfl rfl fun a E=>?_
  refine qaY E (qao qav rfl (qae.own 4 rfl rfl)) rfl rfl fun a E=>?_
  refine qaY E (qcn rfl rfl) rfl rfl fun a E=>?_
  refine wpQuiet_nil ?_
  intro w ok
  refine qaa ?_
  replace ok:=ok.joinM2
  obtain ⟨M254,ok,h255⟩:=NRow.close0 e226 ok hr236 hx237 (show qbB m130 [(Value.string (bs x225.ID)),(Value.string (bs x225.Source)),(Value.string (bs x225.Target)),c245,c247,(Value.int .i64 x225.State),c250] x225 (M240 ++ M241) from ⟨_,_,_,_,_,rfl,rfl,l242,l243,l244,h246,h248,r249,h251⟩) hh239
  refine r_if E rfl (fun hc256=>?_) (fun hc256=>?_)
  ·replace hF:=qak hc256 hF
   refine wpIn_seq ?_
   obtain ⟨o257,hJ,hF⟩:=bnd hF
   refine qok (Q':=fun e a w=>e = .normal ∧ Ok u m130 (M254 :: [(b174,Obj.cells [(Value.int .i64 x160.call),(Value.int .i64 x160.offset),(Value.string (bs x160.id)),(Value.string (bs x160.source)),(Value.string (bs x160.comment))].toArray 105 (0,0))] :: [(b115,Obj.cells [(Value.string (bs x103.Name)),(Value.string (bs x103.Text))].toArray 75 (0,0))] :: [(b114,Obj.cells [(Value.int .i64 x_91)].toArray 3 (0,0))] :: [(b71,Obj.cells [c219].toArray 130 (0,0))] :: M220 :: [(b67,Obj.cells [c222].toArray 44 (0,0))] :: M65 :: [(b3,Obj.cells [(Value.int .i64 o257.1)].toArray 47 (0,0))] :: [(b2,Obj.cells [(Value.int .i64 o257.2.File),(Value.int .i64 o257.2.Offset)].toArray 46 (0,0))] :: [(b1,Obj.cells [(Value.slice none 0 0)].toArray 44 (0,0))] :: S1) w ∧ Env 187 a [(6,(Value.pointer (some ⟨b1,0,none⟩))),(7,(Value.pointer (some ⟨b2,0,none⟩))),(8,(Value.pointer (some ⟨b3,0,none⟩)))] ∧ InR .i64 o257.1 ∧ InR .i64 o257.2.File ∧ InR .i64 o257.2.Offset) ?_ ?_
   rotate_left
   ·clear hJ
    intro e a w hO
    obtain ⟨rfl,ok,E,r261,r262,r263⟩:=hO
    refine qaa ?_
    refine wpIn_ret ?_
    refine qag ?_
    refine qan ?_
    obtain rfl:=Option.some.inj hF
    exact hxK (o:=(o257.2,o257.1)) hcj rfl r261 r262 r263 ok h221 h255
   replace hF:=hJ
   clear hJ
   obtain rfl:=Option.some.inj hF
   refine qoe [] (Cls u m130 (M254 :: [(b174,Obj.cells [(Value.int .i64 x160.call),(Value.int .i64 x160.offset),(Value.string (bs x160.id)),(Value.string (bs x160.source)),(Value.string (bs x160.comment))].toArray 105 (0,0))] :: [(b115,Obj.cells [(Value.string (bs x103.Name)),(Value.string (bs x103.Text))].toArray 75 (0,0))] :: [(b114,Obj.cells [(Value.int .i64 x_91)].toArray 3 (0,0))] :: [(b71,Obj.cells [c219].toArray 130 (0,0))] :: M220 :: [(b67,Obj.cells [c222].toArray 44 (0,0))] :: M65 :: [(b1,Obj.cells [(Value.slice none 0 0)].toArray 44 (0,0))] :: [])) (Cls u m130 (M254 :: [(b174,Obj.cells [(Value.int .i64 x160.call),(Value.int .i64 x160.offset),(Value.string (bs x160.id)),(Value.string (bs x160.source)),(Value.string (bs x160.comment))].toArray 105 (0,0))] :: [(b115,Obj.cells [(Value.string (bs x103.Name)),(Value.string (bs x103.Text))].toArray 75 (0,0))] :: [(b114,Obj.cells [(Value.int .i64 x_91)].toArray 3 (0,0))] :: [(b71,Obj.cells [c219].toArray 130 (0,0))] :: M220 :: [(b67,Obj.cells [c222].toArray 44 (0,0))] :: M65 :: [(b1,Obj.cells [(Value.slice none 0 0)].toArray 44 (0,0))] :: [])) (by kernel_rfl) rfl ?_
   intro w hw
   replace ok:=qcD ok hw
   clear hw
   have le_m130:=Mem.le.refl m130
   refine qam (cl1 ⟨m130,_,le_m130,ok,⟨qar 0 rfl,qar 1 rfl,qar 2 rfl,qar 3 rfl,qar 4 rfl,qar 5 rfl,qar 6 rfl,qar 7 rfl,qar 10 rfl,trivial⟩⟩ ⟨m130,_,le_m130,ok,⟨qar 0 rfl,qar 1 rfl,qar 2 rfl,qar 3 rfl,qar 4 rfl,qar 5 rfl,qar 6 rfl,qar 7 rfl,qar 10 rfl,trivial⟩⟩) fun hT=>?_
   refine qdz 0 E rfl (by kernel_rfl) nP hT (qao qaZ rfl (qae.cown 3 rfl rfl)) rfl rfl fun a E=>?_
   refine qdz 1 E rfl (by kernel_rfl) nP hT (qaf qnZ rfl) rfl rfl fun a E=>?_
   refine qdz 2 E rfl (by kernel_rfl) nP hT (qao qaZ rfl (qae.cown 1 rfl rfl)) rfl rfl fun a E=>?_
   refine qdz 3 E rfl (by kernel_rfl) nP hT (qaK (ps:=[(0,.tmp 130),(1,.tmp 132)]) (qs:=[(0,[(Value.int .i64 x_91)]),(1,[(Value.int .i64 x160.offset)])]) (cs:=[(Value.int .i64 x_91),(Value.int .i64 x160.offset)]) qdB qft rfl ⟨rfl,rfl,rfl,⟨rfl,rfl,rfl,trivial⟩⟩ rfl) rfl rfl fun a E=>?_
   refine qau [4] (by kernel_rfl) rfl (qax ?_)
   ·refine qb7 (o:=_) rfl ?_
    refine qai E ok 10 rfl rfl rfl qhb rfl rfl ⟨rfl,trivial⟩ rfl rfl fun w ok=>?_
    refine wpList_nil ?_
    refine qaa ?_
    refine qam (cl1 ⟨m130,_,le_m130,ok,⟨qar 0 rfl,qar 1 rfl,qar 2 rfl,qar 3 rfl,qar 4 rfl,qar 5 rfl,qar 6 rfl,qar 7 rfl,qar 10 rfl,trivial⟩⟩ ⟨m130,_,le_m130,ok,⟨qar 0 rfl,qar 1 rfl,qar 2 rfl,qar 3 rfl,qar 4 rfl,qar 5 rfl,qar 6 rfl,qar 7 rfl,qar 10 rfl,trivial⟩⟩) fun hT=>?_
    refine qau [5] (by kernel_rfl) rfl (qax ?_)
    ·refine qb7 (o:=_) rfl ?_
     refine qai E ok 9 rfl rfl rfl qen rfl rfl ⟨rfl,rfl,trivial⟩ rfl rfl fun w ok=>?_
     refine wpList_nil ?_
     refine qaa ?_
     refine qam (cl1 ⟨m130,_,le_m130,ok,⟨qar 0 rfl,qar 1 rfl,qar 2 rfl,qar 3 rfl,qar 4 rfl,qar 5 rfl,qar 6 rfl,qar 7 rfl,qar 10 rfl,trivial⟩⟩ ⟨m130,_,le_m130,ok,⟨qar 0 rfl,qar 1 rfl,qar 2 rfl,qar 3 rfl,qar 4 rfl,qar 5 rfl,qar 6 rfl,qar 7 rfl,qar 10 rfl,trivial⟩⟩) fun hT=>?_
     refine qau [6] (by kernel_rfl) rfl (qax ?_)
     ·refine qb7 (o:=_) rfl ?_
      refine qai E ok 8 rfl rfl rfl qhX rfl rfl ⟨rfl,trivial⟩ rfl rfl fun w ok=>?_
      refine wpList_nil ?_
      refine qaa ?_
      refine qam (cl1 ⟨m130,_,le_m130,ok,⟨qar 0 rfl,qar 1 rfl,qar 2 rfl,qar 3 rfl,qar 4 rfl,qar 5 rfl,qar 6 rfl,qar 7 rfl,qar 10 rfl,trivial⟩⟩ ⟨m130,_,le_m130,ok,⟨qar 0 rfl,qar 1 rfl,qar 2 rfl,qar 3 rfl,qar 4 rfl,qar 5 rfl,qar 6 rfl,qar 7 rfl,qar 10 rfl,trivial⟩⟩) fun hT=>?_
      refine qbd (by kernel_rfl) ⟨rfl,?_⟩
      exact ⟨rfl,⟨ok,E.keep [6,7,8],(show InR .i64 (14) by decide),r95,r170⟩⟩
  replace hF:=qaj hc256 hF
  refine wpIn_skip ?_
  refine qaa ?_
  refine wpIn_seq ?_
  refine wpIn_seq ?_
  obtain ⟨cs264,c265,M266,M267,M268,ok,hr269,hx270,he271,hh272⟩:=NRow.open h255 e226 ok
  obtain ⟨c278,c280,c283,M273,M274,rfl,rfl,l275,l276,l277,h279,h281,r282,h284⟩:=he271
  replace ok:=ok.splitM2
  refine qmd (by kernel_rfl) rfl (by kernel_rfl) ok ?_
  refine qaY E (qaf qlx rfl) rfl rfl fun a E=>?_
  refine qaY E (qao qav rfl (qae.own 4 rfl rfl)) rfl rfl fun a E=>?_
  refine qaY E (qcn rfl rfl) rfl rfl fun a E=>?_
  refine qaY E (qad rfl) rfl rfl fun a E=>?_
  refine qap (x160.comment != ([])) (fun hc285=>?_) (fun hc285=>?_)
  rotate_left
  ·as_aux_lemma =>
    replace hF:=qaj hc285 hF
    replace E:=E.upd 137 hc285 rfl
    refine qhf E rfl rfl fun a E=>?_
    refine qhf E rfl rfl fun a E=>?_
    refine qhf E rfl rfl fun a E=>?_
    refine qhf E rfl rfl fun a E=>?_
    refine qhf E rfl rfl fun a E=>?_
    refine qhf E rfl rfl fun a E=>?_
    refine qhf E rfl rfl fun a E=>?_
    refine qhf E rfl rfl fun a E=>?_
    refine qaY E (qbH rfl rfl) rfl rfl fun a E=>?_
    refine wpQuiet_nil ?_
    intro w ok
    refine qaa ?_
    replace ok:=ok.joinM2
    obtain ⟨M643,ok,h644⟩:=NRow.close0 e226 ok hr269 hx270 (show qbB m130 [(Value.string (bs x225.ID)),(Value.string (bs x225.Source)),(Value.string (bs x225.Target)),c278,c280,(Value.int .i64 x225.State),c283] x225 (M273 ++ M274) from ⟨_,_,_,_,_,rfl,rfl,l275,l276,l277,h279,h281,r282,h284⟩) hh272
    refine r_if E rfl (fun h=>by cases h) (fun _=>?_)
    refine wpIn_skip ?_
    refine qaa ?_
    refine wpIn_seq ?_
    refine wpIn_seq ?_
    refine qeg rfl ?_
    refine qac E ok (qad rfl) rfl rfl fun a E=>?_
    refine wpList_nil ⟨rfl,?_⟩
    refine qaa ?_
    refine r_if E rfl (fun hc645=>?_) (fun hc645=>?_)
    rotate_left
    ·replace hF:=qaj hc645 hF
     refine wpIn_skip ?_
     refine qaa ?_
     refine qeg rfl ?_
     refine qac E ok (qad rfl) rfl rfl fun a E=>?_
     refine qac E ok (qbk rfl) rfl rfl fun a E=>?_
     refine qac E ok (qaf qdS rfl) rfl rfl fun a E=>?_
     obtain ⟨cs725,c726,M727,M728,M729,ok,hr730,hx731,he732,hh733⟩:=NRow.open h644 e226 ok
     obtain ⟨c739,c741,c744,M734,M735,rfl,rfl,l736,l737,l738,h740,h742,r743,h745⟩:=he732
     replace ok:=ok.splitM2
     obtain ⟨hl746,hh747⟩:=qdt hr730 hx731 hp229 (by decide)
     refine qac E ok (qao qeR rfl (qae.sub 6 1 (hh747 _ _ _ 0 rfl))) rfl rfl fun a E=>?_
     obtain ⟨x748,e749,hF⟩:=bnd hF
     obtain ⟨b750,o751,hp752,yy753⟩:=qcA qc2 h745 e749 (P:=Tryz.prog) (X:=.tmp 172) (I:=.const (Value.int .i64 0)) (kd:=.i64) (qah E rfl) (qah E rfl)
     refine qac E ok (yy753 _ _) rfl rfl fun a E=>?_
     refine qac E ok (qaf qcX rfl) rfl rfl fun a E=>?_
     obtain ⟨es754,hl755,rr756,hh757⟩:=qeF h745 e749 hp752 (by decide)
     obtain ⟨rfl,l758,l759⟩:=rr756
     refine qac E ok (qao qav rfl (qae.sub 1 1 (hh757 _ _ _ 2 rfl))) rfl rfl fun a E=>?_
     refine qac E ok (qad rfl) rfl rfl fun a E=>?_
     obtain ⟨s760,e761,hF⟩:=bnd hF
     refine qac E ok (qa5 rfl rfl e761) rfl rfl fun a E=>?_
     obtain ⟨x762,e763,hF⟩:=bnd hF
     obtain ⟨b764,o765,hp766,yy767⟩:=qcA qc2 h745 e763 (P:=Tryz.prog) (X:=.tmp 172) (I:=.const (Value.int .i64 0)) (kd:=.i64) (qah E rfl) (qah E rfl)
     refine qac E ok (yy767 _ _) rfl rfl fun a E=>?_
     refine qac E ok (qaf qcX rfl) rfl rfl fun a E=>?_
     obtain ⟨l770,e771,hF⟩:=bnd hF
     refine qdm (R:=qeY) (f:=1) E ok 2 rfl h745 e763 hp766 rfl rfl rfl qf7 rfl rfl rfl ⟨rfl,trivial⟩ (fun es _ h=>by obtain ⟨rfl,l768,l769⟩:=h; exact ⟨rfl,l768,(qa1 e761)⟩) e771 rfl fun M772 w ok h773=>?_
     refine wpList_nil ⟨rfl,?_⟩
     refine qaq ?_
     replace ok:=ok.joinM2
     obtain ⟨M774,ok,h775⟩:=NRow.close e226 ok hr730 hx731 (show qbB m130 [(Value.string (bs x225.ID)),(Value.string (bs x225.Source)),(Value.string (bs x225.Target)),c739,c741,(Value.int .i64 x225.State),c744] (Entry.mk x225.ID x225.Source x225.Target x225.Comments x225.Flags x225.State l770) (M734 ++ M772) from ⟨_,_,_,_,_,rfl,rfl,l736,l737,l738,h740,h742,r743,h773⟩) hh733
     obtain rfl:=Option.some.inj hF
     exact hnK hcj rfl (ok.pk 11 [2,3,0,4,5,6,7,8,9,10] rfl (by decide)) h221 h775
    replace hF:=qak hc645 hF
    refine qeg rfl ?_
    refine qac E ok (qad rfl) rfl rfl fun a E=>?_
    refine qac E ok (qbk rfl) rfl rfl fun a E=>?_
    refine qac E ok (qaf qdS rfl) rfl rfl fun a E=>?_
    obtain ⟨cs646,c647,M648,M649,M650,ok,hr651,hx652,he653,hh654⟩:=NRow.open h644 e226 ok
    obtain ⟨c660,c662,c665,M655,M656,rfl,rfl,l657,l658,l659,h661,h663,r664,h666⟩:=he653
    replace ok:=ok.splitM2
    obtain ⟨hl667,hh668⟩:=qdt hr651 hx652 hp229 (by decide)
    refine qac E ok (qao qeR rfl (qae.sub 6 1 (hh668 _ _ _ 0 rfl))) rfl rfl fun a E=>?_
    obtain ⟨x669,e670,hF⟩:=bnd hF
    obtain ⟨b671,o672,hp673,yy674⟩:=qcA qc2 h666 e670 (P:=Tryz.prog) (X:=.tmp 162) (I:=.const (Value.int .i64 0)) (kd:=.i64) (qah E rfl) (qah E rfl)
    refine qac E ok (yy674 _ _) rfl rfl fun a E=>?_
    refine qac E ok (qaf qcX rfl) rfl rfl fun a E=>?_
    obtain ⟨es675,hl676,rr677,hh678⟩:=qeF h666 e670 hp673 (by decide)
    obtain ⟨rfl,l679,l680⟩:=rr677
    refine qac E ok (qao qav rfl (qae.sub 1 1 (hh678 _ _ _ 2 rfl))) rfl rfl fun a E=>?_
    obtain ⟨s681,e682,hF⟩:=bnd hF
    refine qac E ok (qa5 rfl rfl e682) rfl rfl fun a E=>?_
    obtain ⟨x683,e684,hF⟩:=bnd hF
    obtain ⟨b685,o686,hp687,yy688⟩:=qcA qc2 h666 e684 (P:=Tryz.prog) (X:=.tmp 162) (I:=.const (Value.int .i64 0)) (kd:=.i64) (qah E rfl) (qah E rfl)
    refine qac E ok (yy688 _ _) rfl rfl fun a E=>?_
    refine qac E ok (qaf qcX rfl) rfl rfl fun a E=>?_
    obtain ⟨l691,e692,hF⟩:=bnd hF
    refine qdm (R:=qeY) (f:=1) E ok 2 rfl h666 e684 hp687 rfl rfl rfl qf7 rfl rfl rfl ⟨rfl,trivial⟩ (fun es _ h=>by obtain ⟨rfl,l689,l690⟩:=h; exact ⟨rfl,l689,(qa1 e682)⟩) e692 rfl fun M693 w ok h694=>?_
    refine wpList_nil ⟨rfl,?_⟩
    refine qaa ?_
    refine qeg rfl ?_
    refine qac E ok (qad rfl) rfl rfl fun a E=>?_
    refine qac E ok (qbk rfl) rfl rfl fun a E=>?_
    refine qac E ok (qaf qdS rfl) rfl rfl fun a E=>?_
    obtain ⟨hl695,hh696⟩:=qdt hr651 hx652 hp229 (by decide)
    refine qac E ok (qao qeR rfl (qae.sub 6 1 (hh696 _ _ _ 0 rfl))) rfl rfl fun a E=>?_
    obtain ⟨x697,e698,hF⟩:=bnd hF
    obtain ⟨b699,o700,hp701,yy702⟩:=qcA qc2 h694 e698 (P:=Tryz.prog) (X:=.tmp 172) (I:=.const (Value.int .i64 0)) (kd:=.i64) (qah E rfl) (qah E rfl)
    refine qac E ok (yy702 _ _) rfl rfl fun a E=>?_
    refine qac E ok (qaf qcX rfl) rfl rfl fun a E=>?_
    obtain ⟨es703,hl704,rr705,hh706⟩:=qeF h694 e698 hp701 (by decide)
    obtain ⟨rfl,l707,l708⟩:=rr705
    refine qac E ok (qao qav rfl (qae.sub 1 1 (hh706 _ _ _ 2 rfl))) rfl rfl fun a E=>?_
    refine qac E ok (qad rfl) rfl rfl fun a E=>?_
    obtain ⟨s709,e710,hF⟩:=bnd hF
    refine qac E ok (qa5 rfl rfl e710) rfl rfl fun a E=>?_
    obtain ⟨x711,e712,hF⟩:=bnd hF
    obtain ⟨b713,o714,hp715,yy716⟩:=qcA qc2 h694 e712 (P:=Tryz.prog) (X:=.tmp 172) (I:=.const (Value.int .i64 0)) (kd:=.i64) (qah E rfl) (qah E rfl)
    refine qac E ok (yy716 _ _) rfl rfl fun a E=>?_
    refine qac E ok (qaf qcX rfl) rfl rfl fun a E=>?_
    obtain ⟨l719,e720,hF⟩:=bnd hF
    refine qdm (R:=qeY) (f:=1) E ok 2 rfl h694 e712 hp715 rfl rfl rfl qf7 rfl rfl rfl ⟨rfl,trivial⟩ (fun es _ h=>by obtain ⟨rfl,l717,l718⟩:=h; exact ⟨rfl,l717,(qa1 e710)⟩) e720 rfl fun M721 w ok h722=>?_
    refine wpList_nil ⟨rfl,?_⟩
    refine qaq ?_
    replace ok:=ok.joinM2
    obtain ⟨M723,ok,h724⟩:=NRow.close e226 ok hr651 hx652 (show qbB m130 [(Value.string (bs x225.ID)),(Value.string (bs x225.Source)),(Value.string (bs x225.Target)),c660,c662,(Value.int .i64 x225.State),c665] (Entry.mk x225.ID x225.Source x225.Target x225.Comments x225.Flags x225.State l719) (M655 ++ M721) from ⟨_,_,_,_,_,rfl,rfl,l657,l658,l659,h661,h663,r664,h722⟩) hh654
    obtain rfl:=Option.some.inj hF
    exact hnK hcj rfl (ok.pk 11 [2,3,0,4,5,6,7,8,9,10] rfl (by decide)) h221 h724
  replace hF:=qak hc285 hF
  replace E:=E.upd 137 hc285 rfl
  refine qaY E (qad rfl) rfl rfl fun a E=>?_
  refine qaY E (qbk rfl) rfl rfl fun a E=>?_
  refine qaY E (qaf qjx rfl) rfl rfl fun a E=>?_
  obtain ⟨hl286,hh287⟩:=qdt hr269 hx270 hp229 (by decide)
  refine qaY E (qao qjn rfl (qae.sub 3 1 (hh287 _ _ _ 0 rfl))) rfl rfl fun a E=>?_
  refine qaY E (qaf qlx rfl) rfl rfl fun a E=>?_
  refine qaY E (qao qav rfl (qae.own 4 rfl rfl)) rfl rfl fun a E=>?_
  obtain ⟨r293,e294,hF⟩:=bnd hF
  refine qfR E (v:=(Value.bool r293)) quB rfl (fun w ok=>?_) rfl rfl fun a E=>?_
  ·obtain ⟨m288,hle290,ok289,hfz291⟩:=(ok.frs 1 rfl).freeze
   have h292:=ORow.froz mS h279 hle290 hfz291 (by decide)
   refine Calls.mono (qg5 N _ x225.Comments h292 x160.comment l173 e294 hG ok289) fun _ _ hz=>?_
   obtain ⟨hz1,okz⟩:=hz
   exact ⟨hz1,(Ok.thawAt 1 rfl ok hle290 hfz291 okz)⟩
  refine qaY E (qbQ rfl) rfl rfl fun a E=>?_
  refine qaY E (qbR rfl rfl) rfl rfl fun a E=>?_
  refine wpQuiet_nil ?_
  intro w ok
  refine qaa ?_
  replace ok:=ok.joinM2
  obtain ⟨M295,ok,h296⟩:=NRow.close0 e226 ok hr269 hx270 (show qbB m130 [(Value.string (bs x225.ID)),(Value.string (bs x225.Source)),(Value.string (bs x225.Target)),c278,c280,(Value.int .i64 x225.State),c283] x225 (M273 ++ M274) from ⟨_,_,_,_,_,rfl,rfl,l275,l276,l277,h279,h281,r282,h284⟩) hh272
  refine r_if E rfl (fun hc297=>?_) (fun hc297=>?_)
  rotate_left
  ·as_aux_lemma =>
    replace hF:=qaj hc297 hF
    refine wpIn_skip ?_
    refine qaa ?_
    refine wpIn_seq ?_
    refine wpIn_seq ?_
    refine qeg rfl ?_
    refine qac E ok (qad rfl) rfl rfl fun a E=>?_
    refine wpList_nil ⟨rfl,?_⟩
    refine qaa ?_
    refine r_if E rfl (fun hc512=>?_) (fun hc512=>?_)
    rotate_left
    ·replace hF:=qaj hc512 hF
     refine wpIn_skip ?_
     refine qaa ?_
     refine qeg rfl ?_
     refine qac E ok (qad rfl) rfl rfl fun a E=>?_
     refine qac E ok (qbk rfl) rfl rfl fun a E=>?_
     refine qac E ok (qaf qdS rfl) rfl rfl fun a E=>?_
     obtain ⟨cs592,c593,M594,M595,M596,ok,hr597,hx598,he599,hh600⟩:=NRow.open h296 e226 ok
     obtain ⟨c606,c608,c611,M601,M602,rfl,rfl,l603,l604,l605,h607,h609,r610,h612⟩:=he599
     replace ok:=ok.splitM2
     obtain ⟨hl613,hh614⟩:=qdt hr597 hx598 hp229 (by decide)
     refine qac E ok (qao qeR rfl (qae.sub 6 1 (hh614 _ _ _ 0 rfl))) rfl rfl fun a E=>?_
     obtain ⟨x615,e616,hF⟩:=bnd hF
     obtain ⟨b617,o618,hp619,yy620⟩:=qcA qc2 h612 e616 (P:=Tryz.prog) (X:=.tmp 172) (I:=.const (Value.int .i64 0)) (kd:=.i64) (qah E rfl) (qah E rfl)
     refine qac E ok (yy620 _ _) rfl rfl fun a E=>?_
     refine qac E ok (qaf qcX rfl) rfl rfl fun a E=>?_
     obtain ⟨es621,hl622,rr623,hh624⟩:=qeF h612 e616 hp619 (by decide)
     obtain ⟨rfl,l625,l626⟩:=rr623
     refine qac E ok (qao qav rfl (qae.sub 1 1 (hh624 _ _ _ 2 rfl))) rfl rfl fun a E=>?_
     refine qac E ok (qad rfl) rfl rfl fun a E=>?_
     obtain ⟨s627,e628,hF⟩:=bnd hF
     refine qac E ok (qa5 rfl rfl e628) rfl rfl fun a E=>?_
     obtain ⟨x629,e630,hF⟩:=bnd hF
     obtain ⟨b631,o632,hp633,yy634⟩:=qcA qc2 h612 e630 (P:=Tryz.prog) (X:=.tmp 172) (I:=.const (Value.int .i64 0)) (kd:=.i64) (qah E rfl) (qah E rfl)
     refine qac E ok (yy634 _ _) rfl rfl fun a E=>?_
     refine qac E ok (qaf qcX rfl) rfl rfl fun a E=>?_
     obtain ⟨l637,e638,hF⟩:=bnd hF
     refine qdm (R:=qeY) (f:=1) E ok 2 rfl h612 e630 hp633 rfl rfl rfl qf7 rfl rfl rfl ⟨rfl,trivial⟩ (fun es _ h=>by obtain ⟨rfl,l635,l636⟩:=h; exact ⟨rfl,l635,(qa1 e628)⟩) e638 rfl fun M639 w ok h640=>?_
     refine wpList_nil ⟨rfl,?_⟩
     refine qaq ?_
     replace ok:=ok.joinM2
     obtain ⟨M641,ok,h642⟩:=NRow.close e226 ok hr597 hx598 (show qbB m130 [(Value.string (bs x225.ID)),(Value.string (bs x225.Source)),(Value.string (bs x225.Target)),c606,c608,(Value.int .i64 x225.State),c611] (Entry.mk x225.ID x225.Source x225.Target x225.Comments x225.Flags x225.State l637) (M601 ++ M639) from ⟨_,_,_,_,_,rfl,rfl,l603,l604,l605,h607,h609,r610,h640⟩) hh600
     obtain rfl:=Option.some.inj hF
     exact hnK hcj rfl (ok.pk 11 [2,3,0,4,5,6,7,8,9,10] rfl (by decide)) h221 h642
    replace hF:=qak hc512 hF
    refine qeg rfl ?_
    refine qac E ok (qad rfl) rfl rfl fun a E=>?_
    refine qac E ok (qbk rfl) rfl rfl fun a E=>?_
    refine qac E ok (qaf qdS rfl) rfl rfl fun a E=>?_
    obtain ⟨cs513,c514,M515,M516,M517,ok,hr518,hx519,he520,hh521⟩:=NRow.open h296 e226 ok
    obtain ⟨c527,c529,c532,M522,M523,rfl,rfl,l524,l525,l526,h528,h530,r531,h533⟩:=he520
    replace ok:=ok.splitM2
    obtain ⟨hl534,hh535⟩:=qdt hr518 hx519 hp229 (by decide)
    refine qac E ok (qao qeR rfl (qae.sub 6 1 (hh535 _ _ _ 0 rfl))) rfl rfl fun a E=>?_
    obtain ⟨x536,e537,hF⟩:=bnd hF
    obtain ⟨b538,o539,hp540,yy541⟩:=qcA qc2 h533 e537 (P:=Tryz.prog) (X:=.tmp 162) (I:=.const (Value.int .i64 0)) (kd:=.i64) (qah E rfl) (qah E rfl)
    refine qac E ok (yy541 _ _) rfl rfl fun a E=>?_
    refine qac E ok (qaf qcX rfl) rfl rfl fun a E=>?_
    obtain ⟨es542,hl543,rr544,hh545⟩:=qeF h533 e537 hp540 (by decide)
    obtain ⟨rfl,l546,l547⟩:=rr544
    refine qac E ok (qao qav rfl (qae.sub 1 1 (hh545 _ _ _ 2 rfl))) rfl rfl fun a E=>?_
    obtain ⟨s548,e549,hF⟩:=bnd hF
    refine qac E ok (qa5 rfl rfl e549) rfl rfl fun a E=>?_
    obtain ⟨x550,e551,hF⟩:=bnd hF
    obtain ⟨b552,o553,hp554,yy555⟩:=qcA qc2 h533 e551 (P:=Tryz.prog) (X:=.tmp 162) (I:=.const (Value.int .i64 0)) (kd:=.i64) (qah E rfl) (qah E rfl)
    refine qac E ok (yy555 _ _) rfl rfl fun a E=>?_
    refine qac E ok (qaf qcX rfl) rfl rfl fun a E=>?_
    obtain ⟨l558,e559,hF⟩:=bnd hF
    refine qdm (R:=qeY) (f:=1) E ok 2 rfl h533 e551 hp554 rfl rfl rfl qf7 rfl rfl rfl ⟨rfl,trivial⟩ (fun es _ h=>by obtain ⟨rfl,l556,l557⟩:=h; exact ⟨rfl,l556,(qa1 e549)⟩) e559 rfl fun M560 w ok h561=>?_
    refine wpList_nil ⟨rfl,?_⟩
    refine qaa ?_
    refine qeg rfl ?_
    refine qac E ok (qad rfl) rfl rfl fun a E=>?_
    refine qac E ok (qbk rfl) rfl rfl fun a E=>?_
    refine qac E ok (qaf qdS rfl) rfl rfl fun a E=>?_
    obtain ⟨hl562,hh563⟩:=qdt hr518 hx519 hp229 (by decide)
    refine qac E ok (qao qeR rfl (qae.sub 6 1 (hh563 _ _ _ 0 rfl))) rfl rfl fun a E=>?_
    obtain ⟨x564,e565,hF⟩:=bnd hF
    obtain ⟨b566,o567,hp568,yy569⟩:=qcA qc2 h561 e565 (P:=Tryz.prog) (X:=.tmp 172) (I:=.const (Value.int .i64 0)) (kd:=.i64) (qah E rfl) (qah E rfl)
    refine qac E ok (yy569 _ _) rfl rfl fun a E=>?_
    refine qac E ok (qaf qcX rfl) rfl rfl fun a E=>?_
    obtain ⟨es570,hl571,rr572,hh573⟩:=qeF h561 e565 hp568 (by decide)
    obtain ⟨rfl,l574,l575⟩:=rr572
    refine qac E ok (qao qav rfl (qae.sub 1 1 (hh573 _ _ _ 2 rfl))) rfl rfl fun a E=>?_
    refine qac E ok (qad rfl) rfl rfl fun a E=>?_
    obtain ⟨s576,e577,hF⟩:=bnd hF
    refine qac E ok (qa5 rfl rfl e577) rfl rfl fun a E=>?_
    obtain ⟨x578,e579,hF⟩:=bnd hF
    obtain ⟨b580,o581,hp582,yy583⟩:=qcA qc2 h561 e579 (P:=Tryz.prog) (X:=.tmp 172) (I:=.const (Value.int .i64 0)) (kd:=.i64) (qah E rfl) (qah E rfl)
    refine qac E ok (yy583 _ _) rfl rfl fun a E=>?_
    refine qac E ok (qaf qcX rfl) rfl rfl fun a E=>?_
    obtain ⟨l586,e587,hF⟩:=bnd hF
    refine qdm (R:=qeY) (f:=1) E ok 2 rfl h561 e579 hp582 rfl rfl rfl qf7 rfl rfl rfl ⟨rfl,trivial⟩ (fun es _ h=>by obtain ⟨rfl,l584,l585⟩:=h; exact ⟨rfl,l584,(qa1 e577)⟩) e587 rfl fun M588 w ok h589=>?_
    refine wpList_nil ⟨rfl,?_⟩
    refine qaq ?_
    replace ok:=ok.joinM2
    obtain ⟨M590,ok,h591⟩:=NRow.close e226 ok hr518 hx519 (show qbB m130 [(Value.string (bs x225.ID)),(Value.string (bs x225.Source)),(Value.string (bs x225.Target)),c527,c529,(Value.int .i64 x225.State),c532] (Entry.mk x225.ID x225.Source x225.Target x225.Comments x225.Flags x225.State l586) (M522 ++ M588) from ⟨_,_,_,_,_,rfl,rfl,l524,l525,l526,h528,h530,r531,h589⟩) hh521
    obtain rfl:=Option.some.inj hF
    exact hnK hcj rfl (ok.pk 11 [2,3,0,4,5,6,7,8,9,10] rfl (by decide)) h221 h591
  replace hF:=qak hc297 hF
  obtain ⟨o298,hJ,hF⟩:=bnd hF
  refine qok (Q':=fun e a w=>e = .normal ∧ ∃ c299 M300,Ok u m130 (M300 :: [(b174,Obj.cells [(Value.int .i64 x160.call),(Value.int .i64 x160.offset),(Value.string (bs x160.id)),(Value.string (bs x160.source)),(Value.string (bs x160.comment))].toArray 105 (0,0))] :: [(b115,Obj.cells [(Value.string (bs x103.Name)),(Value.string (bs x103.Text))].toArray 75 (0,0))] :: [(b114,Obj.cells [(Value.int .i64 x_91)].toArray 3 (0,0))] :: [(b71,Obj.cells [c219].toArray 130 (0,0))] :: M220 :: [(b67,Obj.cells [c299].toArray 44 (0,0))] :: M65 :: [(b3,Obj.cells [(Value.int .i64 0)].toArray 47 (0,0))] :: [(b2,Obj.cells [(Value.int .i64 0),(Value.int .i64 0)].toArray 46 (0,0))] :: [(b1,Obj.cells [(Value.slice none 0 0)].toArray 44 (0,0))] :: S1) w ∧ Env 187 a [(1,vcalls_1),(6,(Value.pointer (some ⟨b1,0,none⟩))),(7,(Value.pointer (some ⟨b2,0,none⟩))),(8,(Value.pointer (some ⟨b3,0,none⟩))),(9,c64),(15,(Value.pointer (some ⟨b67,0,none⟩))),(16,(Value.pointer (some ⟨b71,0,none⟩))),(17,(Value.pointer (some ⟨b114,0,none⟩))),(18,(Value.pointer (some ⟨b115,0,none⟩))),(20,(Value.string (bs s185))),(22,(Value.bool ((mget x_150 x160.id).isSome))),(23,(Value.pointer (some ⟨b227,o228,none⟩))),(69,vfiles_2),(70,(Value.int .i64 (files_2.length:Int))),(71,(Value.int .i64 x_91))] ∧ NRow 53 7 qbB m130 c299 o298.1 M300 ∧ NPtr 7 c299 o192.1 b227 o228) ?_ ?_
  ·replace hF:=hJ
   clear hJ
   obtain ⟨l329,e330,hF⟩:=bnd hF
   obtain rfl:=Option.some.inj hF
   obtain ⟨cs340,c341,M342,M343,M344,ok,hr345,hx346,he347,hh348⟩:=NRow.open h296 e226 ok
   obtain ⟨c354,c356,c359,M349,M350,rfl,rfl,l351,l352,l353,h355,h357,r358,h360⟩:=he347
   replace ok:=ok.splitM2
   refine qoe [4,6] (Cls u m130 (M342 :: [(b174,Obj.cells [(Value.int .i64 x160.call),(Value.int .i64 x160.offset),(Value.string (bs x160.id)),(Value.string (bs x160.source)),(Value.string (bs x160.comment))].toArray 105 (0,0))] :: [(b115,Obj.cells [(Value.string (bs x103.Name)),(Value.string (bs x103.Text))].toArray 75 (0,0))] :: [(b114,Obj.cells [(Value.int .i64 x_91)].toArray 3 (0,0))] :: [(b71,Obj.cells [c219].toArray 130 (0,0))] :: M220 :: [(b67,Obj.cells [c222].toArray 44 (0,0))] :: M65 :: [(b3,Obj.cells [(Value.int .i64 0)].toArray 47 (0,0))] :: [(b2,Obj.cells [(Value.int .i64 0),(Value.int .i64 0)].toArray 46 (0,0))] :: [(b1,Obj.cells [(Value.slice none 0 0)].toArray 44 (0,0))] :: [])) (Cls u m130 ([(b174,Obj.cells [(Value.int .i64 x160.call),(Value.int .i64 x160.offset),(Value.string (bs x160.id)),(Value.string (bs x160.source)),(Value.string (bs x160.comment))].toArray 105 (0,0))] :: [(b115,Obj.cells [(Value.string (bs x103.Name)),(Value.string (bs x103.Text))].toArray 75 (0,0))] :: [(b114,Obj.cells [(Value.int .i64 x_91)].toArray 3 (0,0))] :: [(b71,Obj.cells [c219].toArray 130 (0,0))] :: M220 :: M65 :: [(b3,Obj.cells [(Value.int .i64 0)].toArray 47 (0,0))] :: [(b2,Obj.cells [(Value.int .i64 0),(Value.int .i64 0)].toArray 46 (0,0))] :: [(b1,Obj.cells [(Value.slice none 0 0)].toArray 44 (0,0))] :: [])) (by kernel_rfl) rfl ?_
   intro w hw
   replace ok:=qcD ok hw
   clear hw
   have le_m130:=Mem.le.refl m130
   refine qam (cl1 ⟨m130,_,le_m130,ok,⟨qar 0 rfl,qar 4 rfl,qar 5 rfl,qar 6 rfl,qar 7 rfl,qar 8 rfl,qar 9 rfl,qar 10 rfl,qar 11 rfl,qar 12 rfl,qar 13 rfl,trivial⟩⟩ ⟨m130,_,le_m130,ok,⟨qar 4 rfl,qar 5 rfl,qar 6 rfl,qar 7 rfl,qar 8 rfl,qar 10 rfl,qar 11 rfl,qar 12 rfl,qar 13 rfl,trivial⟩⟩) fun hT=>?_
   refine qdz 0 E rfl (by kernel_rfl) nP hT (qad rfl) rfl rfl fun a E=>?_
   refine qdz 1 E rfl (by kernel_rfl) nP hT (qad rfl) rfl rfl fun a E=>?_
   refine qdz 2 E rfl (by kernel_rfl) nP hT (qbk rfl) rfl rfl fun a E=>?_
   refine qdz 3 E rfl (by kernel_rfl) nP hT (qaf qjx rfl) rfl rfl fun a E=>?_
   obtain ⟨hl361,hh362⟩:=qdt hr345 hx346 hp229 (by decide)
   refine qbD 4 E rfl (by kernel_rfl) nP hT (qao qjn rfl (qae.sub 3 1 (qae.crow hh362 0 rfl))) rfl rfl fun a E=>?_
   refine qdz 5 E rfl (by kernel_rfl) nP hT (qaf qlx rfl) rfl rfl fun a E=>?_
   refine qbD 6 E rfl (by kernel_rfl) nP hT (qao qav rfl (qae.cown 1 rfl rfl)) rfl rfl fun a E=>?_
   refine qau [7] (by kernel_rfl) rfl (qax ?_)
   ·refine qb7 (o:=_) rfl ?_
    refine qaT (R:=pS) (xo:=[.tmp 153]) (xs:=([x160.comment]:List (List UInt8))) E ok qhI qnz rfl ⟨⟨_,rfl,rfl,(qrH l173)⟩,trivial⟩ rfl rfl rfl rfl fun c363 M364 a w E ok h365=>?_
    refine wpList_nil ?_
    refine qaa ?_
    refine qam (cl1 ⟨m130,_,le_m130,ok,⟨qar 1 rfl,qar 5 rfl,qar 6 rfl,qar 7 rfl,qar 8 rfl,qar 9 rfl,qar 10 rfl,qar 11 rfl,qar 12 rfl,qar 13 rfl,qar 14 rfl,trivial⟩⟩ ⟨m130,_,le_m130,ok,⟨qar 5 rfl,qar 6 rfl,qar 7 rfl,qar 8 rfl,qar 9 rfl,qar 11 rfl,qar 12 rfl,qar 13 rfl,qar 14 rfl,trivial⟩⟩) fun hT=>?_
    refine qau [8] (by kernel_rfl) rfl (qax ?_)
    ·refine qb7 (o:=_) rfl ?_
     refine qa3 (R:=pS) E ok 2 mS qhI Tryz.underlying50 rfl h355 (qaJ.ofRow h365 0 rfl ok) e330 ⟨_,qnz,rfl⟩ rfl rfl rfl rfl fun c366 M367 a w E ok h368=>?_
     refine wpList_nil ?_
     refine qaa ?_
     refine qam (cl1 ⟨m130,_,le_m130,ok,⟨qar 1 rfl,qar 5 rfl,qar 6 rfl,qar 7 rfl,qar 8 rfl,qar 9 rfl,qar 10 rfl,qar 11 rfl,qar 12 rfl,qar 13 rfl,qar 14 rfl,trivial⟩⟩ ⟨m130,_,le_m130,ok,⟨qar 5 rfl,qar 6 rfl,qar 7 rfl,qar 8 rfl,qar 9 rfl,qar 11 rfl,qar 12 rfl,qar 13 rfl,qar 14 rfl,trivial⟩⟩) fun hT=>?_
     refine qdz 9 E rfl (by kernel_rfl) nP hT (qbk rfl) rfl rfl fun a E=>?_
     refine qdz 10 E rfl (by kernel_rfl) nP hT (qaf qjx rfl) rfl rfl fun a E=>?_
     refine qau [11] (by kernel_rfl) rfl (qax ?_)
     ·refine qb7 (o:=_) rfl ?_
      refine qgm (f:=3) (c':=[(Value.string (bs x225.ID)),(Value.string (bs x225.Source)),(Value.string (bs x225.Target)),c366,c356,(Value.int .i64 x225.State),c359]) E ok 1 rfl hr345 hx346 hp229 rfl rfl rfl qs3 (ORow.cells h368) rfl rfl ⟨(ORow.one h368),trivial⟩ rfl ⟨rfl,rfl,rfl,(ORow.one h368),(qa0 h357),rfl,(ORow.one h360),trivial⟩ rfl fun M369 w ok hr370 hx371=>?_
      have hh372:=qdU.set (c':=[(Value.string (bs x225.ID)),(Value.string (bs x225.Source)),(Value.string (bs x225.Target)),c366,c356,(Value.int .i64 x225.State),c359]) hh348
      refine wpList_nil ?_
      refine qaa ?_
      refine qam (cl2 (by kernel_rfl) ⟨m130,_,le_m130,ok,⟨qar 5 rfl,qar 6 rfl,qar 7 rfl,qar 8 rfl,qar 9 rfl,qar 11 rfl,qar 12 rfl,qar 13 rfl,qar 14 rfl,trivial⟩⟩) fun hT=>?_
      refine qbd (by kernel_rfl) ⟨rfl,?_⟩
      replace ok:Ok u m130 (M369 :: M367 :: M350 :: M344 :: M364 :: [(b174,Obj.cells [(Value.int .i64 x160.call),(Value.int .i64 x160.offset),(Value.string (bs x160.id)),(Value.string (bs x160.source)),(Value.string (bs x160.comment))].toArray 105 (0,0))] :: [(b115,Obj.cells [(Value.string (bs x103.Name)),(Value.string (bs x103.Text))].toArray 75 (0,0))] :: [(b114,Obj.cells [(Value.int .i64 x_91)].toArray 3 (0,0))] :: [(b71,Obj.cells [c219].toArray 130 (0,0))] :: M220 :: [(b67,Obj.cells [c222].toArray 44 (0,0))] :: M65 :: [(b3,Obj.cells [(Value.int .i64 0)].toArray 47 (0,0))] :: [(b2,Obj.cells [(Value.int .i64 0),(Value.int .i64 0)].toArray 46 (0,0))] :: [(b1,Obj.cells [(Value.slice none 0 0)].toArray 44 (0,0))] :: S1) w:=(ok.pk 15 [1,2,3,4,0,5,6,7,8,9,10,11,12,13,14] rfl (by decide))
      replace ok:=ok.joinM2
      obtain ⟨M373,ok,h374⟩:=NRow.close e226 ok hr370 hx371 (show qbB m130 [(Value.string (bs x225.ID)),(Value.string (bs x225.Source)),(Value.string (bs x225.Target)),c366,c356,(Value.int .i64 x225.State),c359] (Entry.mk x225.ID x225.Source x225.Target l329 x225.Flags x225.State x225.Fields) (M367 ++ M350) from ⟨_,_,_,_,_,rfl,rfl,l351,l352,l353,h368,h357,r358,h360⟩) hh372
      exact ⟨rfl,⟨c222,M373,(ok.pk 12 [0,2,3,4,5,6,7,8,9,10,11] rfl (by decide)),E.keep [1,6,7,8,9,15,16,17,18,20,22,23,69,70,71],h374,hp229⟩⟩
  clear hJ
  intro e a w hO
  obtain ⟨rfl,c375,M376,ok,E,h377,hp378⟩:=hO
  obtain ⟨x379,e380,hF⟩:=bnd hF
  refine qaa ?_
  refine wpIn_seq ?_
  refine wpIn_seq ?_
  refine qeg rfl ?_
  refine qac E ok (qad rfl) rfl rfl fun a E=>?_
  refine wpList_nil ⟨rfl,?_⟩
  refine qaa ?_
  refine r_if E rfl (fun hc381=>?_) (fun hc381=>?_)
  rotate_left
  ·replace hF:=qaj hc381 hF
   refine wpIn_skip ?_
   refine qaa ?_
   refine qeg rfl ?_
   refine qac E ok (qad rfl) rfl rfl fun a E=>?_
   refine qac E ok (qbk rfl) rfl rfl fun a E=>?_
   refine qac E ok (qaf qdS rfl) rfl rfl fun a E=>?_
   obtain ⟨cs461,c462,M463,M464,M465,ok,hr466,hx467,he468,hh469⟩:=NRow.open h377 e380 ok
   obtain ⟨c475,c477,c480,M470,M471,rfl,rfl,l472,l473,l474,h476,h478,r479,h481⟩:=he468
   replace ok:=ok.splitM2
   obtain ⟨hl482,hh483⟩:=qdt hr466 hx467 hp378 (by decide)
   refine qac E ok (qao qeR rfl (qae.sub 6 1 (hh483 _ _ _ 0 rfl))) rfl rfl fun a E=>?_
   obtain ⟨x484,e485,hF⟩:=bnd hF
   obtain ⟨b486,o487,hp488,yy489⟩:=qcA qc2 h481 e485 (P:=Tryz.prog) (X:=.tmp 172) (I:=.const (Value.int .i64 0)) (kd:=.i64) (qah E rfl) (qah E rfl)
   refine qac E ok (yy489 _ _) rfl rfl fun a E=>?_
   refine qac E ok (qaf qcX rfl) rfl rfl fun a E=>?_
   obtain ⟨es490,hl491,rr492,hh493⟩:=qeF h481 e485 hp488 (by decide)
   obtain ⟨rfl,l494,l495⟩:=rr492
   refine qac E ok (qao qav rfl (qae.sub 1 1 (hh493 _ _ _ 2 rfl))) rfl rfl fun a E=>?_
   refine qac E ok (qad rfl) rfl rfl fun a E=>?_
   obtain ⟨s496,e497,hF⟩:=bnd hF
   refine qac E ok (qa5 rfl rfl e497) rfl rfl fun a E=>?_
   obtain ⟨x498,e499,hF⟩:=bnd hF
   obtain ⟨b500,o501,hp502,yy503⟩:=qcA qc2 h481 e499 (P:=Tryz.prog) (X:=.tmp 172) (I:=.const (Value.int .i64 0)) (kd:=.i64) (qah E rfl) (qah E rfl)
   refine qac E ok (yy503 _ _) rfl rfl fun a E=>?_
   refine qac E ok (qaf qcX rfl) rfl rfl fun a E=>?_
   obtain ⟨l506,e507,hF⟩:=bnd hF
   refine qdm (R:=qeY) (f:=1) E ok 2 rfl h481 e499 hp502 rfl rfl rfl qf7 rfl rfl rfl ⟨rfl,trivial⟩ (fun es _ h=>by obtain ⟨rfl,l504,l505⟩:=h; exact ⟨rfl,l504,(qa1 e497)⟩) e507 rfl fun M508 w ok h509=>?_
   refine wpList_nil ⟨rfl,?_⟩
   refine qaq ?_
   replace ok:=ok.joinM2
   obtain ⟨M510,ok,h511⟩:=NRow.close e380 ok hr466 hx467 (show qbB m130 [(Value.string (bs x379.ID)),(Value.string (bs x379.Source)),(Value.string (bs x379.Target)),c475,c477,(Value.int .i64 x379.State),c480] (Entry.mk x379.ID x379.Source x379.Target x379.Comments x379.Flags x379.State l506) (M470 ++ M508) from ⟨_,_,_,_,_,rfl,rfl,l472,l473,l474,h476,h478,r479,h509⟩) hh469
   obtain rfl:=Option.some.inj hF
   exact hnK hcj rfl (ok.pk 11 [2,3,0,4,5,6,7,8,9,10] rfl (by decide)) h221 h511
  replace hF:=qak hc381 hF
  refine qeg rfl ?_
  refine qac E ok (qad rfl) rfl rfl fun a E=>?_
  refine qac E ok (qbk rfl) rfl rfl fun a E=>?_
  refine qac E ok (qaf qdS rfl) rfl rfl fun a E=>?_
  obtain ⟨cs382,c383,M384,M385,M386,ok,hr387,hx388,he389,hh390⟩:=NRow.open h377 e380 ok
  obtain ⟨c396,c398,c401,M391,M392,rfl,rfl,l393,l394,l395,h397,h399,r400,h402⟩:=he389
  replace ok:=ok.splitM2
  obtain ⟨hl403,hh404⟩:=qdt hr387 hx388 hp378 (by decide)
  refine qac E ok (qao qeR rfl (qae.sub 6 1 (hh404 _ _ _ 0 rfl))) rfl rfl fun a E=>?_
  obtain ⟨x405,e406,hF⟩:=bnd hF
  obtain ⟨b407,o408,hp409,yy410⟩:=qcA qc2 h402 e406 (P:=Tryz.prog) (X:=.tmp 162) (I:=.const (Value.int .i64 0)) (kd:=.i64) (qah E rfl) (qah E rfl)
  refine qac E ok (yy410 _ _) rfl rfl fun a E=>?_
  refine qac E ok (qaf qcX rfl) rfl rfl fun a E=>?_
  obtain ⟨es411,hl412,rr413,hh414⟩:=qeF h402 e406 hp409 (by decide)
  obtain ⟨rfl,l415,l416⟩:=rr413
  refine qac E ok (qao qav rfl (qae.sub 1 1 (hh414 _ _ _ 2 rfl))) rfl rfl fun a E=>?_
  obtain ⟨s417,e418,hF⟩:=bnd hF
  refine qac E ok (qa5 rfl rfl e418) rfl rfl fun a E=>?_
  obtain ⟨x419,e420,hF⟩:=bnd hF
  obtain ⟨b421,o422,hp423,yy424⟩:=qcA qc2 h402 e420 (P:=Tryz.prog) (X:=.tmp 162) (I:=.const (Value.int .i64 0)) (kd:=.i64) (qah E rfl) (qah E rfl)
  refine qac E ok (yy424 _ _) rfl rfl fun a E=>?_
  refine qac E ok (qaf qcX rfl) rfl rfl fun a E=>?_
  obtain ⟨l427,e428,hF⟩:=bnd hF
  refine qdm (R:=qeY) (f:=1) E ok 2 rfl h402 e420 hp423 rfl rfl rfl qf7 rfl rfl rfl ⟨rfl,trivial⟩ (fun es _ h=>by obtain ⟨rfl,l425,l426⟩:=h; exact ⟨rfl,l425,(qa1 e418)⟩) e428 rfl fun M429 w ok h430=>?_
  refine wpList_nil ⟨rfl,?_⟩
  refine qaa ?_
  refine qeg rfl ?_
  refine qac E ok (qad rfl) rfl rfl fun a E=>?_
  refine qac E ok (qbk rfl) rfl rfl fun a E=>?_
  refine qac E ok (qaf qdS rfl) rfl rfl fun a E=>?_
  obtain ⟨hl431,hh432⟩:=qdt hr387 hx388 hp378 (by decide)
  refine qac E ok (qao qeR rfl (qae.sub 6 1 (hh432 _ _ _ 0 rfl))) rfl rfl fun a E=>?_
  obtain ⟨x433,e434,hF⟩:=bnd hF
  obtain ⟨b435,o436,hp437,yy438⟩:=qcA qc2 h430 e434 (P:=Tryz.prog) (X:=.tmp 172) (I:=.const (Value.int .i64 0)) (kd:=.i64) (qah E rfl) (qah E rfl)
  refine qac E ok (yy438 _ _) rfl rfl fun a E=>?_
  refine qac E ok (qaf qcX rfl) rfl rfl fun a E=>?_
  obtain ⟨es439,hl440,rr441,hh442⟩:=qeF h430 e434 hp437 (by decide)
  obtain ⟨rfl,l443,l444⟩:=rr441
  refine qac E ok (qao qav rfl (qae.sub 1 1 (hh442 _ _ _ 2 rfl))) rfl rfl fun a E=>?_
  refine qac E ok (qad rfl) rfl rfl fun a E=>?_
  obtain ⟨s445,e446,hF⟩:=bnd hF
  refine qac E ok (qa5 rfl rfl e446) rfl rfl fun a E=>?_
  obtain ⟨x447,e448,hF⟩:=bnd hF
  obtain ⟨b449,o450,hp451,yy452⟩:=qcA qc2 h430 e448 (P:=Tryz.prog) (X:=.tmp 172) (I:=.const (Value.int .i64 0)) (kd:=.i64) (qah E rfl) (qah E rfl)
  refine qac E ok (yy452 _ _) rfl rfl fun a E=>?_
  refine qac E ok (qaf qcX rfl) rfl rfl fun a E=>?_
  obtain ⟨l455,e456,hF⟩:=bnd hF
  refine qdm (R:=qeY) (f:=1) E ok 2 rfl h430 e448 hp451 rfl rfl rfl qf7 rfl rfl rfl ⟨rfl,trivial⟩ (fun es _ h=>by obtain ⟨rfl,l453,l454⟩:=h; exact ⟨rfl,l453,(qa1 e446)⟩) e456 rfl fun M457 w ok h458=>?_
  refine wpList_nil ⟨rfl,?_⟩
  refine qaq ?_
  replace ok:=ok.joinM2
  obtain ⟨M459,ok,h460⟩:=NRow.close e380 ok hr387 hx388 (show qbB m130 [(Value.string (bs x379.ID)),(Value.string (bs x379.Source)),(Value.string (bs x379.Target)),c396,c398,(Value.int .i64 x379.State),c401] (Entry.mk x379.ID x379.Source x379.Target x379.Comments x379.Flags x379.State l455) (M391 ++ M457) from ⟨_,_,_,_,_,rfl,rfl,l393,l394,l395,h397,h399,r400,h458⟩) hh390
  obtain rfl:=Option.some.inj hF
  exact hnK hcj rfl (ok.pk 11 [2,3,0,4,5,6,7,8,9,10] rfl (by decide)) h221 h460
 
 ·rintro D ⟨ixD,outD⟩ T W ⟨M,c',M',rfl,h1,h2,h3⟩ hrunD okW hD hDef
  rw [hrun] at hrunD
  obtain rfl:=Option.some.inj hrunD
  replace hF:=qbe hF
  have ok2:Ok u m94 (MkS Ds :: M' :: [(b71,Obj.cells [c96].toArray 130 (0,0))] :: M :: [(b67,Obj.cells [c'].toArray 44 (0,0))] :: M65 :: [(b3,Obj.cells [(Value.int .i64 0)].toArray 47 (0,0))] :: [(b2,Obj.cells [(Value.int .i64 0),(Value.int .i64 0)].toArray 46 (0,0))] :: [(b1,Obj.cells [(Value.slice none 0 0)].toArray 44 (0,0))] :: S) W:=okW.pk 13 [12,4,5,6,7,8,9,10,11] rfl (by decide)
  have hcl:=segs (v3:=Value.int .i64 0) (v21:=Value.int .i64 0) (v22:=Value.int .i64 0) (c':=c') hSlt2 (h1.blk hbm) (qjA h2)
  have ok3:=ok2.addMk hmlt (fun q hq=>hcl q (by simp only [List.flatten_cons,List.mem_append] at hq ⊢; grind)) hD hDef
  replace ok:Ok u m94 (M' :: [(b71,Obj.cells [c96].toArray 130 (0,0))] :: M :: [(b67,Obj.cells [c'].toArray 44 (0,0))] :: M65 :: [(b3,Obj.cells [(Value.int .i64 0)].toArray 47 (0,0))] :: [(b2,Obj.cells [(Value.int .i64 0),(Value.int .i64 0)].toArray 46 (0,0))] :: [(b1,Obj.cells [(Value.slice none 0 0)].toArray 44 (0,0))] :: MkS (D :: Ds) :: S) W:=ok3.pk 9 [1,2,3,4,5,6,7,8,0] rfl (by decide)
  refine qaq ?_
  refine qaq ?_
  refine qaa ?_
  show Code.wp _ _ _ { a with defers:=qhK (D :: Ds) } W
  refine qjD ?_
  refine qac E0 ok (qaG rfl rfl (InR.inc r95 (qas hfiles_2) hc102)) rfl rfl fun a E=>?_
  refine qac E ok (qad rfl) rfl rfl fun a E=>?_
  refine wpList_nil ⟨rfl,E.d,?_⟩
  obtain rfl:=Option.some.inj hF
  exact qay ⟨D :: Ds,_,m94,c96,M,c',M',rfl,le_m63,ok,E.keep [1,6,7,8,9,15,16,69,70,71],(InR.inc r95 (qas hfiles_2) hc102),h1,h2⟩
 ·rintro D ⟨e1,e2,e3⟩ T W ⟨M,c',M',rfl,h1,h2,he1,hr1,hr2,hr3⟩ hrunD okW hD hDef
  rw [hrun] at hrunD
  obtain rfl:=Option.some.inj hrunD
  replace hF:=qbf hF
  have ok2:Ok u m94 (MkS Ds :: [(b3,Obj.cells [(Value.int .i64 e3)].toArray 47 (0,0))] :: [(b2,Obj.cells [(Value.int .i64 e2.File),(Value.int .i64 e2.Offset)].toArray 46 (0,0))] :: [(b1,Obj.cells [(Value.slice none 0 0)].toArray 44 (0,0))] :: S) W:=okW.pk 13 [12,9,10,11] rfl (by decide)
  have hcl:=segs (v3:=Value.int .i64 e3) (v21:=Value.int .i64 e2.File) (v22:=Value.int .i64 e2.Offset) (c':=c') hSlt2 h1 h2
  have ok3:=ok2.addMk hmlt (fun q hq=>hcl q (by simp only [List.flatten_cons,List.mem_append] at hq ⊢; grind)) hD hDef
  obtain ⟨hK,hnD⟩:=ok3.mkK
  have ok4:=ok3.takenM
  refine qan ?_
  refine qan ?_
  refine qag ?_
  have hret:qbG u m0 S (e1,e2,e3) a (taken W (D :: Ds)):=⟨m94,(.slice none 0 0),[(Value.int .i64 e2.File),(Value.int .i64 e2.Offset)],le_m0,ok4.drop.drop.drop,E0.d,⟨qe9 E0 ok4 rfl qfm (qae.own 2 rfl rfl),rv_c (cs:=[(Value.int .i64 e2.File),(Value.int .i64 e2.Offset)]) E0 ok4 rfl qff rfl (qae.own 1 rfl rfl),qe9 E0 ok4 rfl qhM (qae.own 0 rfl rfl),trivial⟩,he1 ▸ qbF,⟨rfl,hr2,hr3⟩,hr1⟩
  obtain rfl:=Option.some.inj hF
  exact qcL (by nofun) (sr ⟨rfl,D :: Ds,a,rfl,hK,hnD,hret⟩)
end Go.Proofs.YtllfckekodcdaaaGreatDoor
namespace Go.Proofs.YtllfckekodcdaaaGreatDoor
open Go.X
variable {u:World} {m0:Mem} {S:Segs} {w:World}
set_option maxHeartbeats 4000000
set_option maxRecDepth 100000
def qjP:Rp Setting:=fun m cs x=>∃ c0 c1,cs = [c0,c1] ∧ (pL 2 qbU) m [c0] x.Script ∧ (pL 3 qaL) m [c1] x.Calls
theorem qjc:qaI Tryz.prog 41 0 0 = true:=by kernel_rfl
theorem qio:qaI Tryz.prog 41 1 1 = true:=by kernel_rfl
theorem quf:goB Tryz.prog 13 = true:=by kernel_rfl
theorem qpi:goB Tryz.prog 21 = true:=by kernel_rfl
theorem qrT:goB Tryz.prog 23 = true:=by kernel_rfl
theorem qug:goB Tryz.prog 27 = true:=by kernel_rfl
theorem qrA:goB Tryz.prog 28 = true:=by kernel_rfl
theorem qtN:goB Tryz.prog 32 = true:=by kernel_rfl
theorem qtH:goB Tryz.prog 33 = true:=by kernel_rfl
theorem go_9:goB Tryz.prog 9 = true:=by kernel_rfl
theorem qjr:oneB Tryz.prog 22 = true:=by kernel_rfl
theorem qks:oneB Tryz.prog 39 = true:=by kernel_rfl
theorem qqI:qcY Tryz.prog 75 = some [(0,1),(1,1)]:=by kernel_rfl
theorem qpM:qcY Tryz.prog 83 = some [(0,1),(1,1),(2,1)]:=by kernel_rfl
def qj0 (u:World) (m0:Mem) (S:Segs) (r:Bool) (a:Act) (w:World):Prop :=
 Ok u m0 S w ∧ a.defers = [] ∧ RVs Tryz.prog a w [.t 0 (.bool r)]
theorem qj3 (N:Nat) {r:Bool} (hF:qfa N  = some r) (hG:Glob u) (hTb:Tab u) (ok:Ok u m0 S w) :
  Calls Tryz.prog 8 [].toArray w fun e w'=>(e = .returned (.bool r) ∧ Ok u m0 S w'):=by
 have hb0:=ok.base
 have le_m0:=Mem.le.refl m0
 unfold qfa at hF
 refine en (qj0 u m0 S) r Tryz.func8 rfl rfl rfl (by rintro a w ⟨ok,hd,hrv⟩; exact qaM [.t 0 (.bool r)] hd rfl hrv ⟨rfl,ok⟩) fun fin a E=>sg<|aw E rfl fun a E=>sg ?_
 obtain ⟨r1,e2,hF⟩:=bnd hF
 refine qaz E qug rfl (qjZ N ([115,116,97,116,101,32,109,97,105,110,10,115,107,105,112,32,91,92,120,50,48,92,120,48,97,93,43,10,110,97,109,101,32,91,97,45,122,93,43,10,115,116,114,105,110,103,32,34,92,34,34,32,45,62,32,116,101,120,116,10,111,112,101,110,32,34,40,34,10,99,108,111,115,101,32,34,41,34,10,99,111,109,109,97,32,34,44,34,10,99,111,109,109,101,110,116,32,34,47,47,34,32,91,94,92,120,48,97,93,42,10,115,116,97,116,101,32,116,101,120,116,10,116,101,120,116,32,91,94,34,93,43,10,101,110,100,32,34,92,34,34,32,45,62,32,109,97,105,110,10]) (show ([115,116,97,116,101,32,109,97,105,110,10,115,107,105,112,32,91,92,120,50,48,92,120,48,97,93,43,10,110,97,109,101,32,91,97,45,122,93,43,10,115,116,114,105,110,103,32,34,92,34,34,32,45,62,32,116,101,120,116,10,111,112,101,110,32,34,40,34,10,99,108,111,115,101,32,34,41,34,10,99,111,109,109,97,32,34,44,34,10,99,111,109,109,101,110,116,32,34,47,47,34,32,91,94,92,120,48,97,93,42,10,115,116,97,116,101,32,116,101,120,116,10,116,101,120,116,32,91,94,34,93,43,10,101,110,100,32,34,92,34,34,32,45,62,32,109,97,105,110,10]:List UInt8).length ≤ LIMS by decide) e2 hG ok) rfl rfl ?_
 rintro _ w ⟨m3,c4,rfl,hle,ok,h5,r6,r7⟩
 have le_m0:=le_m0.trans hle
 refine ⟨_,rfl,fun a E=>?_⟩
 refine mv E rfl fun a E=>lw E (qaw rfl rfl) fun a E=>lw E (qaw rfl rfl) fun a E=>lw E (qaw rfl rfl) fun a E=>av E rfl fun a E=>av E rfl fun a E=>av E rfl fun a E=>wpList_nil ?_
 refine qaa<|sg<|mv E rfl fun a E=>?_
 obtain ⟨r8,e9,hF⟩:=bnd hF
 refine qaz E qrT rfl (qia N _ r1.1 h5 e9 hG ok) rfl rfl ?_
 rintro _ w ⟨m10,c11,rfl,hle,ok,h12⟩
 have le_m0:=le_m0.trans hle
 have h5:=(mL qaP).up hle h5
 refine ⟨_,rfl,fun a E=>?_⟩
 refine lw E (qaK (ps:=[(0,.const (vs ([116,114]))),(1,.const (vi (-1))),(2,.const (vi 0))]) (qs:=[(0,[(vs ([116,114]))]),(1,[(vi (-1))]),(2,[vi 0])]) (cs:=[(vs ([116,114])),(vi (-1)),vi 0]) qjp qpM rfl ⟨rfl,rfl,rfl,⟨rfl,rfl,rfl,⟨rfl,rfl,rfl,trivial⟩⟩⟩ rfl) fun a E=>qaT (R:=qaL) (xo:=[.tmp 15]) (xs:=([(Call.mk ([116,114]) (-1) 0)]:List (Call))) E ok qf6 qjp rfl ⟨⟨_,rfl,rfl,⟨rfl,(show ([116,114]:List UInt8).length ≤ LIMS by decide),(ir (-1)),(ir 0)⟩⟩,trivial⟩ rfl rfl rfl rfl fun c13 M14 a w E ok h15=>lw E (qaK (ps:=[(0,.const (vs ([97,46,120]))),(1,.const (vs ([47,47,32,97,32,103,114,101,101,116,105,110,103,10,116,114,40,34,72,101,108,108,111,44,32,123,110,97,109,101,125,33,34,41])))]) (qs:=[(0,[(vs ([97,46,120]))]),(1,[(vs ([47,47,32,97,32,103,114,101,101,116,105,110,103,10,116,114,40,34,72,101,108,108,111,44,32,123,110,97,109,101,125,33,34,41]))])]) (cs:=[(vs ([97,46,120])),(vs ([47,47,32,97,32,103,114,101,101,116,105,110,103,10,116,114,40,34,72,101,108,108,111,44,32,123,110,97,109,101,125,33,34,41]))]) qhH qqI rfl ⟨rfl,rfl,rfl,⟨rfl,rfl,rfl,trivial⟩⟩ rfl) fun a E=>qaT (R:=qeM) (xo:=[.tmp 17]) (xs:=([(File.mk ([97,46,120]) ([47,47,32,97,32,103,114,101,101,116,105,110,103,10,116,114,40,34,72,101,108,108,111,44,32,123,110,97,109,101,125,33,34,41]))]:List (File))) E ok qhL qhH rfl ⟨⟨_,rfl,rfl,⟨rfl,(show ([97,46,120]:List UInt8).length ≤ LIMS by decide),(show ([47,47,32,97,32,103,114,101,101,116,105,110,103,10,116,114,40,34,72,101,108,108,111,44,32,123,110,97,109,101,125,33,34,41]:List UInt8).length ≤ LIMS by decide)⟩⟩,trivial⟩ rfl rfl rfl rfl fun c16 M17 a w E ok h18=>?_
 obtain ⟨m19,hle,ok,hfz⟩:=(ok.frs 1 rfl).freeze
 have h20:=ORow.froz qaR h15 hle hfz (by decide)
 have le_m0:=le_m0.trans hle
 have h5:=(mL qaP).up hle h5
 have h12:=(mL qaP).up hle h12
 have h18:=ORow.up qcK hle h18
 obtain ⟨m21,hle,ok,hfz⟩:=(ok.frs 0 rfl).freeze
 have h22:=ORow.froz qcK h18 hle hfz (by decide)
 have le_m0:=le_m0.trans hle
 have h5:=(mL qaP).up hle h5
 have h12:=(mL qaP).up hle h12
 have h20:=(mL qaR).up hle h20
 obtain ⟨r23,e24,hF⟩:=bnd hF
 refine qaz E qrA rfl (qh6 N _ r8 h12 _ ([(Call.mk ([116,114]) (-1) 0)]:List (Call)) h20 _ ([(File.mk ([97,46,120]) ([47,47,32,97,32,103,114,101,101,116,105,110,103,10,116,114,40,34,72,101,108,108,111,44,32,123,110,97,109,101,125,33,34,41]))]:List (File)) h22 e24 hG hTb ok) rfl rfl ?_
 rintro _ w ⟨m25,c26,vs28,rfl,hle,ok,h27,h29,r30⟩
 have le_m0:=le_m0.trans hle
 have h5:=(mL qaP).up hle h5
 have h12:=(mL qaP).up hle h12
 have h20:=(mL qaR).up hle h20
 have h22:=(mL qcK).up hle h22
 obtain ⟨rfl,r31,r32⟩:=h29
 refine ⟨_,rfl,fun a E=>?_⟩
 refine mv E rfl fun a E=>lw E (qaw rfl rfl) fun a E=>lw E (qaw rfl rfl) fun a E=>lw E (qaw rfl rfl) fun a E=>qaC E ok qdB rfl rfl fun b33 a w E ok=>av E rfl fun a E=>qai E ok 0 rfl rfl rfl qen rfl rfl ⟨rfl,rfl,trivial⟩ rfl rfl fun w ok=>av E rfl fun a E=>?_
 refine wn<|sg<|mv E rfl fun a E=>lw E (qbt rfl rfl) fun a E=>mv E rfl fun a E=>qap (r23.2.2 == 0) (fun hc34=>?_) (fun hc34=>?_)
 rotate_left
 ·replace hF:=qaj hc34 hF
  replace E:=E.upd 25 hc34 rfl
  refine ls E fun a E=>ls E fun a E=>ls E fun a E=>ls E fun a E=>ls E fun a E=>ls E fun a E=>ls E fun a E=>pf E rfl rfl fun a E=>?_
  refine aw E rfl fun a E=>wp_ret ?_
  exact fin hF ⟨(ok.drop).down hb0 le_m0,E.d,⟨rv_t E rfl,trivial⟩⟩
 replace hF:=qak hc34 hF
 replace E:=E.upd 25 hc34 rfl
 refine mv E rfl fun a E=>qaT (R:=pS) (xo:=[.const (vs ([97,32,103,114,101,101,116,105,110,103]))]) (xs:=([[97,32,103,114,101,101,116,105,110,103]]:List (List UInt8))) E ok qhI qnz rfl ⟨⟨_,rfl,rfl,(qrH (show ([97,32,103,114,101,101,116,105,110,103]:List UInt8).length ≤ LIMS by decide))⟩,trivial⟩ rfl rfl rfl rfl fun c35 M36 a w E ok h37=>lw E (qaK (ps:=[(0,.const (vs ([114,101,102]))),(1,.const (vs ([97,46,120,58,50])))]) (qs:=[(0,[(vs ([114,101,102]))]),(1,[(vs ([97,46,120,58,50]))])]) (cs:=[(vs ([114,101,102])),(vs ([97,46,120,58,50]))]) qkT qmR rfl ⟨rfl,rfl,rfl,⟨rfl,rfl,rfl,trivial⟩⟩ rfl) fun a E=>qaT (R:=qeY) (xo:=[.tmp 28]) (xs:=([(Field.mk ([114,101,102]) ([97,46,120,58,50]))]:List (Field))) E ok qc2 qkT rfl ⟨⟨_,rfl,rfl,⟨rfl,(show ([114,101,102]:List UInt8).length ≤ LIMS by decide),(show ([97,46,120,58,50]:List UInt8).length ≤ LIMS by decide)⟩⟩,trivial⟩ rfl rfl rfl rfl fun c38 M39 a w E ok h40=>lw E (qaK (ps:=[(0,.const (vs ([72,101,108,108,111,44,32,123,110,97,109,101,125,33]))),(1,.const (vs ([72,101,108,108,111,44,32,123,110,97,109,101,125,33]))),(3,.tmp 27),(6,.tmp 29)]) (qs:=[(0,[(vs ([72,101,108,108,111,44,32,123,110,97,109,101,125,33]))]),(1,[(vs ([72,101,108,108,111,44,32,123,110,97,109,101,125,33]))]),(3,[c35]),(6,[c38])]) (cs:=[(vs ([72,101,108,108,111,44,32,123,110,97,109,101,125,33])),(vs ([72,101,108,108,111,44,32,123,110,97,109,101,125,33])),(vs ([])),c35,(Value.slice none 0 0),vi 0,c38]) qjk qmS rfl ⟨rfl,rfl,rfl,⟨rfl,rfl,rfl,⟨rfl,(ORow.cells h37),rfl,⟨rfl,(ORow.cells h40),rfl,trivial⟩⟩⟩⟩ rfl) fun a E=>?_
 obtain ⟨m41,hle,ok,hfz⟩:=(ok.frs 1 rfl).freeze
 have h42:=ORow.froz mS h37 hle hfz (by decide)
 have le_m0:=le_m0.trans hle
 have h5:=(mL qaP).up hle h5
 have h12:=(mL qaP).up hle h12
 have h20:=(mL qaR).up hle h20
 have h22:=(mL qcK).up hle h22
 have h27:=(mL qeW).up hle h27
 have h40:=ORow.up qi4 hle h40
 obtain ⟨m43,hle,ok,hfz⟩:=(ok.frs 0 rfl).freeze
 have h44:=ORow.froz qi4 h40 hle hfz (by decide)
 have le_m0:=le_m0.trans hle
 have h5:=(mL qaP).up hle h5
 have h12:=(mL qaP).up hle h12
 have h20:=(mL qaR).up hle h20
 have h22:=(mL qcK).up hle h22
 have h27:=(mL qeW).up hle h27
 have h42:=(mL mS).up hle h42
 refine qaT (R:=qeN) (xo:=[.tmp 30]) (xs:=([(Entry.mk ([72,101,108,108,111,44,32,123,110,97,109,101,125,33]) ([72,101,108,108,111,44,32,123,110,97,109,101,125,33]) ([]) ([[97,32,103,114,101,101,116,105,110,103]]:List (List UInt8)) ([]) 0 ([(Field.mk ([114,101,102]) ([97,46,120,58,50]))]:List (Field)))]:List (Entry))) E ok qgU qjk rfl ⟨⟨_,rfl,rfl,⟨_,_,_,rfl,(show ([72,101,108,108,111,44,32,123,110,97,109,101,125,33]:List UInt8).length ≤ LIMS by decide),(show ([72,101,108,108,111,44,32,123,110,97,109,101,125,33]:List UInt8).length ≤ LIMS by decide),(Nat.zero_le _),h42,qbF,(ir 0),h44⟩⟩,trivial⟩ rfl rfl rfl rfl fun c45 M46 a w E ok h47=>?_
 obtain ⟨r53,e54,hF⟩:=bnd hF
 obtain ⟨m48,hle50,ok49,hfz51⟩:=(ok.frs 0 rfl).freeze
 have h52:=ORow.froz qeW h47 hle50 hfz51 (by decide)
 have h27':=(mL qeW).up hle50 h27
 refine qaz E qpi rfl (qgg N _ r23.1 h27' _ ([(Entry.mk ([72,101,108,108,111,44,32,123,110,97,109,101,125,33]) ([72,101,108,108,111,44,32,123,110,97,109,101,125,33]) ([]) ([[97,32,103,114,101,101,116,105,110,103]]:List (List UInt8)) ([]) 0 ([(Field.mk ([114,101,102]) ([97,46,120,58,50]))]:List (Field)))]:List (Entry)) h52 e54 hG ok49) rfl rfl ?_
 rintro _ w ⟨rfl,okz⟩
 replace ok:=(Ok.thawAt 0 rfl ok hle50 hfz51 okz)
 refine ⟨_,rfl,fun a E=>?_⟩
 refine pt E rfl rfl fun a E=>aw E rfl fun a E=>wp_ret ?_
 exact fin hF ⟨(ok.drop.drop).down hb0 le_m0,E.d,⟨rv_t E rfl,trivial⟩⟩
def qlf (u:World) (m0:Mem) (S:Segs) (r:Bool) (a:Act) (w:World):Prop :=
 Ok u m0 S w ∧ a.defers = [] ∧ RVs Tryz.prog a w [.t 4 (.bool r)]
theorem qlc (N:Nat) (vs_0:List Value) (s_0:Setting) (hs_0:qjP m0 vs_0 s_0) (vl_1:Value) (l_1:List (File)) (hl_1:(pL 2 qeM) m0 [vl_1] l_1) {r:Bool} (hF:qeT N s_0 l_1 = some r) (hG:Glob u) (ok:Ok u m0 S w) :
  Calls Tryz.prog 15 [.agg vs_0.toArray,vl_1].toArray w fun e w'=>(e = .returned (.bool r) ∧ Ok u m0 S w'):=by
 obtain ⟨c1,c3,rfl,h2,h4⟩:=hs_0
 unfold qeT at hF
 refine en (qlf u m0 S) r Tryz.func15 rfl rfl rfl (by rintro a w ⟨ok,hd,hrv⟩; exact qaM [.t 4 (.bool r)] hd rfl hrv ⟨rfl,ok⟩) fun fin a E=>sg<|qdk E ok rfl rfl rfl fun b5 a w E ok=>aw E rfl fun a E=>wp_seq ?_
 refine qab<|fv E qjc rfl fun a E=>ld E ok qks 0 rfl rfl rfl fun a E=>?_
 obtain ⟨r6,e7,hF⟩:=bnd hF
 refine lc E qtN rfl (qla N _ s_0.Script h2 e7 hG ok) fun w ok a E=>mv E rfl fun a E=>qap r6 (fun hc8=>?_) (fun hc8=>?_)
 rotate_left
 ·replace hF:=qaj hc8 hF
  replace E:=E.upd 8 hc8 rfl
  refine ls E fun a E=>ls E fun a E=>ls E fun a E=>ls E fun a E=>pf E rfl rfl fun a E=>aw E rfl fun a E=>?_
  refine wp_ret ?_
  exact fin hF ⟨ok.drop,E.d,⟨rv_t E rfl,trivial⟩⟩
 replace hF:=qak hc8 hF
 replace E:=E.upd 8 hc8 rfl
 refine fv E qio rfl fun a E=>ld E ok qjr 0 rfl rfl rfl fun a E=>mv E rfl fun a E=>?_
 obtain ⟨r9,e10,hF⟩:=bnd hF
 refine lc E go_9 rfl (qld N _ s_0.Calls h4 _ l_1 hl_1 e10 hG ok) fun w ok a E=>pt E rfl rfl fun a E=>aw E rfl fun a E=>wp_ret ?_
 exact fin hF ⟨ok.drop,E.d,⟨rv_t E rfl,trivial⟩⟩
def qle (u:World) (m0:Mem) (S:Segs) (r:(List (Entry)) × Place × Int) (a:Act) (w:World):Prop :=
 ∃ m1 v0 v1,m0.le m1 ∧ Ok u m1 S w ∧ a.defers = [] ∧ RVs Tryz.prog a w [.t 4 v0,.c 5 46 (.agg v1.toArray),.t 6 (.int .i64 r.2.2)] ∧ (pL 7 qeN) m1 [v0] r.1 ∧ qjm m1 v1 r.2.1 ∧ InR .i64 r.2.2
theorem qd7 (N:Nat) (vs_0:List Value) (s_0:Setting) (hs_0:qjP m0 vs_0 s_0) (vl_1:Value) (l_1:List (File)) (hl_1:(pL 2 qeM) m0 [vl_1] l_1) {r:(List (Entry)) × Place × Int} (hF:qb8 N s_0 l_1 = some r) (hG:Glob u) (hTb:Tab u) (ok:Ok u m0 S w) :
  Calls Tryz.prog 16 [.agg vs_0.toArray,vl_1].toArray w fun e w'=>∃ m1 v0 v1,e = .returned (.tuple [v0,(.agg v1.toArray),(.int .i64 r.2.2)].toArray) ∧ m0.le m1 ∧ Ok u m1 S w' ∧ (pL 7 qeN) m1 [v0] r.1 ∧ qjm m1 v1 r.2.1 ∧ InR .i64 r.2.2:=by
 obtain ⟨c1,c3,rfl,h2,h4⟩:=hs_0
 have le_m0:=Mem.le.refl m0
 unfold qb8 at hF
 refine en (qle u m0 S) r Tryz.func16 rfl rfl rfl (by rintro a w ⟨m1,v0,v1,hle,ok,hd,hrv,h0,h1,h2⟩; exact qaM [.t 4 v0,.c 5 46 (.agg v1.toArray),.t 6 (.int .i64 r.2.2)] hd rfl hrv ⟨m1,v0,v1,rfl,hle,ok,h0,h1,h2⟩) fun fin a E=>sg<|qdk E ok rfl rfl rfl fun b5 a w E ok=>av E rfl fun a E=>qaC E ok qdB rfl rfl fun b6 a w E ok=>av E rfl fun a E=>wpList_nil ?_
 refine qaa<|wp_seq ?_
 obtain ⟨o7,hJ,hF⟩:=bnd hF
 refine qbx (Q':=fun e a w=>e = .normal ∧ ∃ m8 c9,m0.le m8 ∧ Ok u m8 ([(b6,oc 46 [vi o7.2.2.File,vi o7.2.2.Offset])] :: [(b5,oc 41 [c1,c3])] :: S) w ∧ Env 19 a [(4,c9),(5,vp b6),(6,vi o7.2.1)] ∧ (pL 7 qeN) m8 [c9] o7.1 ∧ InR .i64 o7.2.1 ∧ InR .i64 o7.2.2.File ∧ InR .i64 o7.2.2.Offset) ?_ ?_
 rotate_left
 ·clear hJ
  intro e a w hO
  obtain ⟨rfl,m56,c57,hle,ok,E,h58,r59,r60,r61⟩:=hO
  have le_m0:=le_m0.trans hle
  have h2:=(mL qaP).up hle h2
  have h4:=(mL qaR).up hle h4
  have hl_1:=(mL qcK).up hle hl_1
  refine qaa<|wp_ret ?_
  exact fin hF ⟨m56,c57,[vi o7.2.2.File,vi o7.2.2.Offset],le_m0,ok.drop.drop,E.d,⟨rv_t E rfl,rv_c (cs:=[vi o7.2.2.File,vi o7.2.2.Offset]) E ok rfl qff rfl (qae.own 0 rfl rfl),rv_t E rfl,trivial⟩,h58,⟨rfl,r60,r61⟩,r59⟩
 replace hF:=hJ
 clear hJ
 obtain ⟨r14,e15,hF⟩:=bnd hF
 obtain ⟨r19,e20,hF⟩:=bnd hF
 obtain ⟨r24,e25,hF⟩:=bnd hF
 obtain ⟨r29,e30,hF⟩:=bnd hF
 obtain rfl:=sj hF
 refine qcp [1,4] (Cls u m0 ([(b6,oc 46 [vi 0,vi 0])] :: [(b5,oc 41 [c1,c3])] :: [])) (Cls u m0 ([(b5,oc 41 [c1,c3])] :: [])) (by kernel_rfl) ?_
 intro w hw
 replace ok:=qcD ok hw
 clear hw
 have h2_o:=h2
 have h4_o:=h4
 have hl_1_o:=hl_1
 refine qam (cl1 (cq le_m0 ok [0,1] rfl) (cq le_m0 ok [1] rfl)) fun hT=>kt 0 E rfl hT (qaf qjc rfl) fun a E=>qbD 1 E rfl (by kernel_rfl) nP hT (qao qks rfl (qae.cown 1 rfl rfl)) rfl rfl fun a E=>kt 3 E rfl hT (qaf qio rfl) fun a E=>qbD 4 E rfl (by kernel_rfl) nP hT (qao qjr rfl (qae.cown 1 rfl rfl)) rfl rfl fun a E=>kt 6 E rfl hT (qad rfl) fun a E=>qau [2] (by kernel_rfl) rfl (qax ?_)
 ·refine wo rfl<|qaz E qrT rfl (qia N _ s_0.Script h2 e15 hG ok) rfl rfl ?_
  rintro _ w ⟨m39,c40,rfl,hle,ok,h41⟩
  have le_m0:=le_m0.trans hle
  have h2:=(mL qaP).up hle h2
  have h4:=(mL qaR).up hle h4
  have hl_1:=(mL qcK).up hle hl_1
  refine ⟨_,rfl,fun a E=>?_⟩
  refine wn<|qam (cl1 (cq le_m0 ok [0,1] rfl) (cq le_m0 ok [1] rfl)) fun hT=>qau [5] (by kernel_rfl) rfl (qax ?_)
  ·refine wo rfl<|qaz E quf rfl (qk6 N _ s_0.Calls h4 e20 hG ok) rfl rfl ?_
   rintro _ w ⟨m42,c43,rfl,hle,ok,h44⟩
   have le_m0:=le_m0.trans hle
   have h2:=(mL qaP).up hle h2
   have h4:=(mL qaR).up hle h4
   have hl_1:=(mL qcK).up hle hl_1
   have h41:=(mL qaP).up hle h41
   refine ⟨_,rfl,fun a E=>?_⟩
   refine wn<|qam (cl1 (cq le_m0 ok [0,1] rfl) (cq le_m0 ok [1] rfl)) fun hT=>qau [7] (by kernel_rfl) rfl (qax ?_)
   ·refine wo rfl<|qaz E qtH rfl (qj2 N _ l_1 hl_1 e25 hG ok) rfl rfl ?_
    rintro _ w ⟨m45,c46,rfl,hle,ok,h47⟩
    have le_m0:=le_m0.trans hle
    have h2:=(mL qaP).up hle h2
    have h4:=(mL qaR).up hle h4
    have hl_1:=(mL qcK).up hle hl_1
    have h41:=(mL qaP).up hle h41
    have h44:=(mL qaR).up hle h44
    refine ⟨_,rfl,fun a E=>?_⟩
    refine wn<|qam (cl1 (cq le_m0 ok [0,1] rfl) (cq le_m0 ok [1] rfl)) fun hT=>qau [8] (by kernel_rfl) rfl (qax ?_)
    ·refine wo rfl<|qaz E qrA rfl (qh6 N _ r14 h41 _ r19 h44 _ r24 h47 e30 hG hTb ok) rfl rfl ?_
     rintro _ w ⟨m48,c49,vs51,rfl,hle,ok,h50,h52,r53⟩
     have le_m0:=le_m0.trans hle
     have h2:=(mL qaP).up hle h2
     have h4:=(mL qaR).up hle h4
     have hl_1:=(mL qcK).up hle hl_1
     have h41:=(mL qaP).up hle h41
     have h44:=(mL qaR).up hle h44
     have h47:=(mL qcK).up hle h47
     obtain ⟨rfl,r54,r55⟩:=h52
     refine ⟨_,rfl,fun a E=>?_⟩
     refine wn<|qam (cl1 (cq le_m0 ok [0,1] rfl) (cq le_m0 ok [1] rfl)) fun hT=>kt 9 E rfl hT (qaw rfl rfl) fun a E=>kt 10 E rfl hT (qaw rfl rfl) fun a E=>kt 11 E rfl hT (qaw rfl rfl) fun a E=>kt 12 E rfl hT (qal rfl) fun a E=>qau [13] (by kernel_rfl) rfl (qax ?_)
     ·refine wo rfl<|qai E ok 0 rfl rfl rfl qen rfl rfl ⟨rfl,rfl,trivial⟩ rfl rfl fun w ok=>wn<|qam (cl2 (by kernel_rfl) (cq le_m0 ok [1] rfl)) fun hT=>kt 14 E rfl hT (qal rfl) fun a E=>qbd (by kernel_rfl) ?_
      exact ⟨rfl,⟨m48,c49,le_m0,ok,E.keep [4,5,6],h50,r53,r54,r55⟩⟩
end Go.Proofs.YtllfckekodcdaaaGreatDoor
