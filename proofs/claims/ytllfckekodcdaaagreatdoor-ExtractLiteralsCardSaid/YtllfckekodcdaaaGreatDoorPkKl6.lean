/- Texts of this proof, put together by pack.py: what its declarations name. -/
import Derived.Test.YtllfckekodcdaaaGreatDoorPkKl5
import Derived.Test.YtllfckekodcdaaaGreatDoorCards
import Derived.Test.YtllfckekodcdaaaGreatDoorChecked
import Derived.Test.YtllfckekodcdaaaGreatDoorProg
import Derived.Test.YtllfckekodcdaaaGreatDoorRows
import Derived.Test.YtllfckekodcdaaaGreatDoorTie
set_option linter.unusedVariables false
namespace Go.Proofs.YtllfckekodcdaaaGreatDoor
open Go.X
def qbh (u:World) (m0:Mem) (S:Segs) (r:Bool) (a:Act) (w:World):Prop :=
 Ok u m0 S w ∧ a.defers = [] ∧ RVs Tryz.prog a w [.t 4 (.bool r)]
set_option maxHeartbeats 4000000 in
set_option maxRecDepth 100000 in
theorem qh4 {u:World} {m0:Mem} {S:Segs} {w:World} (N:Nat) (vx_0:List Value) (x_0:Entry) (hx_0:qfD m0 vx_0 x_0) (vy_1:List Value) (y_1:Entry) (hy_1:qfD m0 vy_1 y_1) {r:Bool} (hF:qeF N x_0 y_1 = some r) (hG:Glob u) (ok:Ok u m0 S w) :
  Calls Tryz.prog 19 [.agg vx_0.toArray,.agg vy_1.toArray].toArray w fun e w'=>(e = .returned (.bool r) ∧ Ok u m0 S w'):=by
 obtain ⟨c4,c6,c9,rfl,l1,l2,l3,h5,h7,r8,h10⟩:=hx_0
 obtain ⟨c14,c16,c19,rfl,l11,l12,l13,h15,h17,r18,h20⟩:=hy_1
 have hb0:=ok.base
 have le_m0:=Mem.le.refl m0
 unfold qeF at hF
 have fin:∀ a w,qbh u m0 S r a w → bodyPost Tryz.prog Tryz.f19 (fun e w'=>(e = .returned (.bool r) ∧ Ok u m0 S w')) .ret a w:=by
  intro a w h
  obtain ⟨ok,hd,hrv⟩:=h
  exact qaK [.t 4 (.bool r)] hd rfl hrv ⟨rfl,ok⟩
 refine enter Tryz.func19 rfl rfl rfl fun a E=>sg<|qdF E ok rfl rfl rfl fun b21 a w E ok=>qdF E ok rfl rfl rfl fun b22 a w E ok=>lv E ok (qab rfl) fun a E=>wn ?_
 refine wp_seq<|sg<|lv E ok (qac qmt rfl) fun a E=>lv E ok (qaj qav rfl (qaf.own 1 rfl rfl)) fun a E=>lv E ok (qac qmt rfl) fun a E=>lv E ok (qaj qav rfl (qaf.own 0 rfl rfl)) fun a E=>lv E ok (qbQ rfl rfl) fun a E=>?_
 refine lv E ok (qaa rfl) fun a E=>qas (x_0.ID != y_1.ID) (fun hc23=>?_) (fun hc23=>?_)
 ·replace hF:=qai hc23 hF
  replace E:=E.upd 11 hc23 rfl
  refine ls E fun a E=>ls E fun a E=>ls E fun a E=>ls E fun a E=>ls E fun a E=>lv E ok (qak rfl rfl) fun a E=>lv E ok (qaa rfl) fun a E=>ls E fun a E=>?_
  refine ls E fun a E=>ls E fun a E=>ls E fun a E=>ls E fun a E=>lv E ok (qak rfl rfl) fun a E=>lv E ok (qaa rfl) fun a E=>ls E fun a E=>ls E fun a E=>?_
  refine ls E fun a E=>ls E fun a E=>ls E fun a E=>lv E ok (qak rfl rfl) fun a E=>lv E ok (qaa rfl) fun a E=>ls E fun a E=>ls E fun a E=>ls E fun a E=>?_
  refine ls E fun a E=>ls E fun a E=>ls E fun a E=>lv E ok (qak rfl rfl) fun a E=>lv E ok (qaa rfl) fun a E=>ls E fun a E=>ls E fun a E=>ls E fun a E=>?_
  refine ls E fun a E=>ls E fun a E=>ls E fun a E=>lv E ok (qak rfl rfl) fun a E=>lv E ok (qaa rfl) fun a E=>ls E fun a E=>ls E fun a E=>ls E fun a E=>?_
  refine ls E fun a E=>ls E fun a E=>ls E fun a E=>ls E fun a E=>lv E ok (qak rfl rfl) fun a E=>wn<|c_if E rfl (fun _=>?_) (fun h=>by cases h)
  refine sg<|lv E ok (qab rfl) fun a E=>wn<|wp_ret<|qan ?_
  have hret:qbh u m0 S false a w:=⟨ok.drop.drop,E.d,⟨rv_t E rfl,trivial⟩⟩
  obtain rfl:=sj hF
  exact fin _ _ hret
 replace hF:=qah hc23 hF
 replace E:=E.upd 11 hc23 rfl
 refine lv E ok (qac qkX rfl) fun a E=>lv E ok (qaj qav rfl (qaf.own 1 rfl rfl)) fun a E=>lv E ok (qac qkX rfl) fun a E=>lv E ok (qaj qav rfl (qaf.own 0 rfl rfl)) fun a E=>lv E ok (qbQ rfl rfl) fun a E=>lv E ok (qam rfl rfl) fun a E=>lv E ok (qaa rfl) fun a E=>qas (x_0.Source != y_1.Source) (fun hc24=>?_) (fun hc24=>?_)
 ·replace hF:=qai hc24 hF
  replace E:=E.upd 18 hc24 rfl
  refine ls E fun a E=>ls E fun a E=>ls E fun a E=>ls E fun a E=>ls E fun a E=>lv E ok (qak rfl rfl) fun a E=>lv E ok (qaa rfl) fun a E=>ls E fun a E=>?_
  refine ls E fun a E=>ls E fun a E=>ls E fun a E=>ls E fun a E=>lv E ok (qak rfl rfl) fun a E=>lv E ok (qaa rfl) fun a E=>ls E fun a E=>ls E fun a E=>?_
  refine ls E fun a E=>ls E fun a E=>ls E fun a E=>ls E fun a E=>lv E ok (qak rfl rfl) fun a E=>lv E ok (qaa rfl) fun a E=>ls E fun a E=>ls E fun a E=>?_
  refine ls E fun a E=>ls E fun a E=>ls E fun a E=>ls E fun a E=>lv E ok (qak rfl rfl) fun a E=>lv E ok (qaa rfl) fun a E=>ls E fun a E=>ls E fun a E=>?_
  refine ls E fun a E=>ls E fun a E=>ls E fun a E=>ls E fun a E=>ls E fun a E=>lv E ok (qak rfl rfl) fun a E=>wn ?_
  refine c_if E rfl (fun _=>?_) (fun h=>by cases h)
  refine sg<|lv E ok (qab rfl) fun a E=>wn<|wp_ret<|qan ?_
  have hret:qbh u m0 S false a w:=⟨ok.drop.drop,E.d,⟨rv_t E rfl,trivial⟩⟩
  obtain rfl:=sj hF
  exact fin _ _ hret
 replace hF:=qah hc24 hF
 replace E:=E.upd 18 hc24 rfl
 refine lv E ok (qac qmw rfl) fun a E=>lv E ok (qaj qav rfl (qaf.own 1 rfl rfl)) fun a E=>lv E ok (qac qmw rfl) fun a E=>lv E ok (qaj qav rfl (qaf.own 0 rfl rfl)) fun a E=>lv E ok (qbQ rfl rfl) fun a E=>lv E ok (qam rfl rfl) fun a E=>lv E ok (qaa rfl) fun a E=>qas (x_0.Target != y_1.Target) (fun hc25=>?_) (fun hc25=>?_)
 ·replace hF:=qai hc25 hF
  replace E:=E.upd 25 hc25 rfl
  refine ls E fun a E=>ls E fun a E=>ls E fun a E=>ls E fun a E=>ls E fun a E=>lv E ok (qak rfl rfl) fun a E=>lv E ok (qaa rfl) fun a E=>ls E fun a E=>?_
  refine ls E fun a E=>ls E fun a E=>ls E fun a E=>ls E fun a E=>ls E fun a E=>lv E ok (qak rfl rfl) fun a E=>lv E ok (qaa rfl) fun a E=>ls E fun a E=>?_
  refine ls E fun a E=>ls E fun a E=>ls E fun a E=>ls E fun a E=>ls E fun a E=>lv E ok (qak rfl rfl) fun a E=>lv E ok (qaa rfl) fun a E=>ls E fun a E=>?_
  refine ls E fun a E=>ls E fun a E=>ls E fun a E=>ls E fun a E=>ls E fun a E=>ls E fun a E=>lv E ok (qak rfl rfl) fun a E=>wpList_nil ?_
  refine qad<|c_if E rfl (fun _=>?_) (fun h=>by cases h)
  refine sg<|lv E ok (qab rfl) fun a E=>wn<|wp_ret<|qan ?_
  have hret:qbh u m0 S false a w:=⟨ok.drop.drop,E.d,⟨rv_t E rfl,trivial⟩⟩
  obtain rfl:=sj hF
  exact fin _ _ hret
 replace hF:=qah hc25 hF
 replace E:=E.upd 25 hc25 rfl
 refine lv E ok (qac qmC rfl) fun a E=>lv E ok (qaj qa0 rfl (qaf.own 1 rfl rfl)) fun a E=>lv E ok (qac qmC rfl) fun a E=>lv E ok (qaj qa0 rfl (qaf.own 0 rfl rfl)) fun a E=>lv E ok (qdm rfl rfl) fun a E=>lv E ok (qam rfl rfl) fun a E=>lv E ok (qaa rfl) fun a E=>qas (x_0.State != y_1.State) (fun hc26=>?_) (fun hc26=>?_)
 ·replace hF:=qai hc26 hF
  replace E:=E.upd 32 hc26 rfl
  refine ls E fun a E=>ls E fun a E=>ls E fun a E=>ls E fun a E=>ls E fun a E=>ls E fun a E=>lv E ok (qak rfl rfl) fun a E=>lv E ok (qaa rfl) fun a E=>?_
  refine ls E fun a E=>ls E fun a E=>ls E fun a E=>ls E fun a E=>ls E fun a E=>ls E fun a E=>lv E ok (qak rfl rfl) fun a E=>lv E ok (qaa rfl) fun a E=>?_
  refine ls E fun a E=>ls E fun a E=>ls E fun a E=>ls E fun a E=>ls E fun a E=>ls E fun a E=>ls E fun a E=>lv E ok (qak rfl rfl) fun a E=>?_
  refine wn<|c_if E rfl (fun _=>?_) (fun h=>by cases h)
  refine sg<|lv E ok (qab rfl) fun a E=>wn<|wp_ret<|qan ?_
  have hret:qbh u m0 S false a w:=⟨ok.drop.drop,E.d,⟨rv_t E rfl,trivial⟩⟩
  obtain rfl:=sj hF
  exact fin _ _ hret
 replace hF:=qah hc26 hF
 replace E:=E.upd 32 hc26 rfl
 refine lv E ok (qac qiA rfl) fun a E=>lv E ok (qaj qit rfl (qaf.own 1 rfl rfl)) fun a E=>lv E ok (qac qiA rfl) fun a E=>lv E ok (qaj qit rfl (qaf.own 0 rfl rfl)) fun a E=>?_
 obtain ⟨r27,e28,hF⟩:=bnd hF
 refine qaw E qot rfl (qfw N _ x_0.Comments h5 _ y_1.Comments h15 e28 hG ok) rfl rfl ?_
 rintro _ w ⟨rfl,ok⟩
 refine ⟨_,rfl,fun a E=>?_⟩
 refine lv E ok (qbP rfl) fun a E=>lv E ok (qam rfl rfl) fun a E=>lv E ok (qaa rfl) fun a E=>qas (!r27) (fun hc29=>?_) (fun hc29=>?_)
 ·replace hF:=qai hc29 hF
  replace E:=E.upd 40 hc29 rfl
  refine ls E fun a E=>ls E fun a E=>ls E fun a E=>ls E fun a E=>ls E fun a E=>ls E fun a E=>lv E ok (qak rfl rfl) fun a E=>lv E ok (qaa rfl) fun a E=>?_
  refine ls E fun a E=>ls E fun a E=>ls E fun a E=>ls E fun a E=>ls E fun a E=>ls E fun a E=>ls E fun a E=>lv E ok (qak rfl rfl) fun a E=>?_
  refine wn<|c_if E rfl (fun _=>?_) (fun h=>by cases h)
  refine sg<|lv E ok (qab rfl) fun a E=>wn<|wp_ret<|qan ?_
  have hret:qbh u m0 S false a w:=⟨ok.drop.drop,E.d,⟨rv_t E rfl,trivial⟩⟩
  obtain rfl:=sj hF
  exact fin _ _ hret
 replace hF:=qah hc29 hF
 replace E:=E.upd 40 hc29 rfl
 refine lv E ok (qac qmO rfl) fun a E=>lv E ok (qaj qit rfl (qaf.own 1 rfl rfl)) fun a E=>lv E ok (qac qmO rfl) fun a E=>lv E ok (qaj qit rfl (qaf.own 0 rfl rfl)) fun a E=>?_
 obtain ⟨r30,e31,hF⟩:=bnd hF
 refine qaw E qot rfl (qfw N _ x_0.Flags h7 _ y_1.Flags h17 e31 hG ok) rfl rfl ?_
 rintro _ w ⟨rfl,ok⟩
 refine ⟨_,rfl,fun a E=>?_⟩
 refine lv E ok (qbP rfl) fun a E=>lv E ok (qam rfl rfl) fun a E=>lv E ok (qaa rfl) fun a E=>qas (!r30) (fun hc32=>?_) (fun hc32=>?_)
 ·replace hF:=qai hc32 hF
  replace E:=E.upd 48 hc32 rfl
  refine ls E fun a E=>ls E fun a E=>ls E fun a E=>ls E fun a E=>ls E fun a E=>ls E fun a E=>ls E fun a E=>lv E ok (qak rfl rfl) fun a E=>?_
  refine wn<|c_if E rfl (fun _=>?_) (fun h=>by cases h)
  refine sg<|lv E ok (qab rfl) fun a E=>wn<|wp_ret<|qan ?_
  have hret:qbh u m0 S false a w:=⟨ok.drop.drop,E.d,⟨rv_t E rfl,trivial⟩⟩
  obtain rfl:=sj hF
  exact fin _ _ hret
 replace hF:=qah hc32 hF
 replace E:=E.upd 48 hc32 rfl
 refine lv E ok (qac qdE rfl) fun a E=>lv E ok (qaj qej rfl (qaf.own 1 rfl rfl)) fun a E=>lv E ok (qaG qcS h10 rfl) fun a E=>lv E ok (qac qdE rfl) fun a E=>lv E ok (qaj qej rfl (qaf.own 0 rfl rfl)) fun a E=>lv E ok (qaG qcS h20 rfl) fun a E=>lv E ok (qdm rfl rfl) fun a E=>lv E ok (qam rfl rfl) fun a E=>?_
 refine wn<|c_if E rfl (fun hc33=>?_) (fun hc33=>?_)
 ·replace hF:=qai hc33 hF
  refine sg<|lv E ok (qab rfl) fun a E=>wn<|wp_ret<|qan ?_
  have hret:qbh u m0 S false a w:=⟨ok.drop.drop,E.d,⟨rv_t E rfl,trivial⟩⟩
  obtain rfl:=sj hF
  exact fin _ _ hret
 replace hF:=qah hc33 hF
 refine wp_skip<|qad<|wp_seq<|sg<|lv E ok (qab rfl) fun a E=>wn ?_
 refine wp_block ?_
 obtain ⟨o35,hL,hF⟩:=bnd hF
 refine qaR _ (fun (s:Int) a w=>Ok u m0 ([(b22,Obj.cells [(Value.string (bs y_1.ID)),(Value.string (bs y_1.Source)),(Value.string (bs y_1.Target)),c14,c16,(Value.int .i64 y_1.State),c19].toArray 53 (0,0))] :: [(b21,Obj.cells [(Value.string (bs x_0.ID)),(Value.string (bs x_0.Source)),(Value.string (bs x_0.Target)),c4,c6,(Value.int .i64 x_0.State),c9].toArray 53 (0,0))] :: S) w ∧ Env 75 a [(2,(Value.pointer (some ⟨b21,0,none⟩))),(3,(Value.pointer (some ⟨b22,0,none⟩))),(5,(Value.int .i64 s))] ∧ InR .i64 s) (fun (b:(Unit ⊕ Bool)) e a w=>(Sum.elim (fun b63=>e = (.exit 0) ∧ Ok u m0 ([(b22,Obj.cells [(Value.string (bs y_1.ID)),(Value.string (bs y_1.Source)),(Value.string (bs y_1.Target)),c14,c16,(Value.int .i64 y_1.State),c19].toArray 53 (0,0))] :: [(b21,Obj.cells [(Value.string (bs x_0.ID)),(Value.string (bs x_0.Source)),(Value.string (bs x_0.Target)),c4,c6,(Value.int .i64 x_0.State),c9].toArray 53 (0,0))] :: S) w ∧ Env 75 a []) (fun b64=>e = .ret ∧ qbh u m0 S b64 a w)) b) ?_ ?_ N _ a w hL ⟨ok,E.keep [2,3,5],(show InR .i64 (0) by decide)⟩
 rotate_left
 ·intro e a w _ hO
  rcases o35 with o35 | o35
  rotate_left
  ·replace hF:=qba hF
   obtain ⟨rfl,hret⟩:=hO
   refine qap<|qan ?_
   obtain rfl:=sj hF
   exact fin _ _ hret
  replace hF:=qa9 hF
  obtain ⟨rfl,ok,E⟩:=hO
  refine qaT<|qad<|sg<|lv E ok (qab rfl) fun a E=>wn<|wp_ret ?_
  have hret:qbh u m0 S true a w:=⟨ok.drop.drop,E.d,⟨rv_t E rfl,trivial⟩⟩
  obtain rfl:=sj hF
  exact fin _ _ hret
 rintro i_37 a w r ⟨ok,E,r38⟩ hF
 replace hF:qdV N x_0 y_1 i_37 = some r:=hF
 unfold qdV at hF
 refine wp_seq<|sg<|lv E ok (qaa rfl) fun a E=>lv E ok (qac qdE rfl) fun a E=>lv E ok (qaj qej rfl (qaf.own 1 rfl rfl)) fun a E=>lv E ok (qaG qcS h10 rfl) fun a E=>lv E ok (qaB rfl rfl) fun a E=>?_
 refine wn<|c_if E rfl (fun hc39=>?_) (fun hc39=>?_)
 rotate_left
 ·replace hF:=qah hc39 hF
  refine wp_exit<|qaD ?_
  obtain rfl:=sj hF
  exact qaq (by nofun) (sl ⟨rfl,⟨ok,E.keep []⟩⟩)
 replace hF:=qai hc39 hF
 refine wp_skip<|qad<|wp_seq<|wp_block<|wp_seq<|qbb (by kernel_rfl) (by kernel_rfl) ok<|qv E (qac qdE rfl) fun a E=>qv E (qaj qej rfl (qaf.own 1 rfl rfl)) fun a E=>?_
 refine qv E (qaa rfl) fun a E=>?_
 obtain ⟨x40,e41,hF⟩:=bnd hF
 obtain ⟨b42,o43,es44,hl45,rr46,at47,yy48⟩:=qaI qcS h10 e41 (P:=Tryz.prog) (X:=.tmp 65) (I:=.tmp 66) (kd:=.i64) (qao E rfl) (qao E rfl)
 obtain ⟨rfl,l49,l50⟩:=rr46
 refine qv E (yy48 _ _) fun a E=>qv E (qax (cs:=[(Value.string (bs x40.Name)),(Value.string (bs x40.Value))]) qnH rfl rfl (qaf.ro at47)) fun a E=>qv E (qac qdE rfl) fun a E=>qv E (qaj qej rfl (qaf.own 0 rfl rfl)) fun a E=>qv E (qaa rfl) fun a E=>?_
 obtain ⟨x51,e52,hF⟩:=bnd hF
 obtain ⟨b53,o54,es55,hl56,rr57,at58,yy59⟩:=qaI qcS h20 e52 (P:=Tryz.prog) (X:=.tmp 70) (I:=.tmp 71) (kd:=.i64) (qao E rfl) (qao E rfl)
 obtain ⟨rfl,l60,l61⟩:=rr57
 refine qv E (yy59 _ _) fun a E=>qv E (qax (cs:=[(Value.string (bs x51.Name)),(Value.string (bs x51.Value))]) qnH rfl rfl (qaf.ro at58)) fun a E=>qv E (qpU qpJ (qmT Tryz.underlying58 qob (qli (by decide) (qcd qav rfl) (qcd qav rfl) (qmG Tryz.underlying9) (qnp (by decide) (qcd qav rfl) (qcd qav rfl) (qmG Tryz.underlying9)))) rfl rfl) fun a E=>wpQuiet_nil ?_
 intro w ok
 refine qad<|c_if E rfl (fun hc62=>?_) (fun hc62=>?_)
 rotate_left
 ·replace hF:=qah hc62 hF
  refine wp_skip<|qar<|qad<|qae<|lv E ok (qaa rfl) fun a E=>lv E ok (qaC rfl rfl (InR.inc r38 (qau h10) hc39)) fun a E=>lv E ok (qab rfl) fun a E=>wpList_nil ?_
  obtain rfl:=sj hF
  exact qay ⟨ok,E.keep [2,3,5],(InR.inc r38 (qau h10) hc39)⟩
 replace hF:=qai hc62 hF
 refine sg<|lv E ok (qab rfl) fun a E=>wn<|wp_ret<|qap<|qan ?_
 have hret:qbh u m0 S false a w:=⟨ok.drop.drop,E.d,⟨rv_t E rfl,trivial⟩⟩
 obtain rfl:=sj hF
 exact qaq (by nofun) (sr ⟨rfl,hret⟩)
def qdB (u:World) (m0:Mem) (S:Segs) (r:Bool) (a:Act) (w:World):Prop :=
 Ok u m0 S w ∧ a.defers = [] ∧ RVs Tryz.prog a w [.t 4 (.bool r)]
set_option maxHeartbeats 4000000 in
set_option maxRecDepth 100000 in
theorem qjB {u:World} {m0:Mem} {S:Segs} {w:World} (N:Nat) (va_0:Value) (a_0:List (Entry)) (ha_0:(pL 7 qfD) m0 [va_0] a_0) (vb_1:Value) (b_1:List (Entry)) (hb_1:(pL 7 qfD) m0 [vb_1] b_1) {r:Bool} (hF:qge N a_0 b_1 = some r) (hG:Glob u) (ok:Ok u m0 S w) :
  Calls Tryz.prog 21 [va_0,vb_1].toArray w fun e w'=>(e = .returned (.bool r) ∧ Ok u m0 S w'):=by
 have hb0:=ok.base
 have le_m0:=Mem.le.refl m0
 unfold qge at hF
 have fin:∀ a w,qdB u m0 S r a w → bodyPost Tryz.prog Tryz.f21 (fun e w'=>(e = .returned (.bool r) ∧ Ok u m0 S w')) .ret a w:=by
  intro a w h
  obtain ⟨ok,hd,hrv⟩:=h
  exact qaK [.t 4 (.bool r)] hd rfl hrv ⟨rfl,ok⟩
 refine enter Tryz.func21 rfl rfl rfl fun a E=>sg<|lv E ok (qab rfl) fun a E=>wn<|wp_seq<|wp_seq ?_
 refine qae<|lv E ok (qaa rfl) fun a E=>lv E ok (qaG qgy ha_0 rfl) fun a E=>lv E ok (qaa rfl) fun a E=>lv E ok (qaG qgy hb_1 rfl) fun a E=>lv E ok (qdm rfl rfl) fun a E=>wn ?_
 refine c_if E rfl (fun hc1=>?_) (fun hc1=>?_)
 ·replace hF:=qai hc1 hF
  refine sg<|lv E ok (qab rfl) fun a E=>wn<|wp_ret<|qan ?_
  have hret:qdB u m0 S false a w:=⟨ok,E.d,⟨rv_t E rfl,trivial⟩⟩
  obtain rfl:=sj hF
  exact fin _ _ hret
 replace hF:=qah hc1 hF
 refine wp_skip<|qad<|wp_seq<|sg<|lv E ok (qab rfl) fun a E=>wn ?_
 refine wp_block ?_
 obtain ⟨o3,hL,hF⟩:=bnd hF
 refine qaR _ (fun (s:Int) a w=>Ok u m0 (S) w ∧ Env 27 a [(0,va_0),(1,vb_1),(5,(Value.int .i64 s))] ∧ InR .i64 s) (fun (b:(Unit ⊕ Bool)) e a w=>(Sum.elim (fun b49=>e = (.exit 0) ∧ Ok u m0 (S) w ∧ Env 27 a []) (fun b50=>e = .ret ∧ qdB u m0 S b50 a w)) b) ?_ ?_ N _ a w hL ⟨ok,E.keep [0,1,5],(show InR .i64 (0) by decide)⟩
 rotate_left
 ·intro e a w _ hO
  rcases o3 with o3 | o3
  rotate_left
  ·replace hF:=qba hF
   obtain ⟨rfl,hret⟩:=hO
   refine qap<|qan ?_
   obtain rfl:=sj hF
   exact fin _ _ hret
  replace hF:=qa9 hF
  obtain ⟨rfl,ok,E⟩:=hO
  refine qaT<|qad<|sg<|lv E ok (qab rfl) fun a E=>wn<|wp_ret ?_
  have hret:qdB u m0 S true a w:=⟨ok,E.d,⟨rv_t E rfl,trivial⟩⟩
  obtain rfl:=sj hF
  exact fin _ _ hret
 rintro i_5 a w r ⟨ok,E,r6⟩ hF
 replace hF:qfo N a_0 b_1 i_5 = some r:=hF
 unfold qfo at hF
 refine wp_seq<|sg<|lv E ok (qaa rfl) fun a E=>lv E ok (qaa rfl) fun a E=>lv E ok (qaG qgy ha_0 rfl) fun a E=>lv E ok (qaB rfl rfl) fun a E=>wpList_nil ?_
 refine qad<|c_if E rfl (fun hc7=>?_) (fun hc7=>?_)
 rotate_left
 ·replace hF:=qah hc7 hF
  refine wp_exit<|qaD ?_
  obtain rfl:=sj hF
  exact qaq (by nofun) (sl ⟨rfl,⟨ok,E.keep []⟩⟩)
 replace hF:=qai hc7 hF
 refine wp_skip<|qad<|wp_seq<|wp_block<|wp_seq<|qbb (by kernel_rfl) (by kernel_rfl) ok<|qv E (qaa rfl) fun a E=>qv E (qaa rfl) fun a E=>?_
 obtain ⟨x8,e9,hF⟩:=bnd hF
 obtain ⟨b10,o11,es12,hl13,rr14,at15,yy16⟩:=qaI qgy ha_0 e9 (P:=Tryz.prog) (X:=.tmp 17) (I:=.tmp 18) (kd:=.i64) (qao E rfl) (qao E rfl)
 obtain ⟨c20,c22,c25,rfl,l17,l18,l19,h21,h23,r24,h26⟩:=rr14
 refine qv E (yy16 _ _) fun a E=>qv E (qax (cs:=[(Value.string (bs x8.ID)),(Value.string (bs x8.Source)),(Value.string (bs x8.Target)),c20,c22,(Value.int .i64 x8.State),c25]) qnx rfl rfl (qaf.ro at15)) fun a E=>qv E (qaa rfl) fun a E=>qv E (qaa rfl) fun a E=>?_
 obtain ⟨x27,e28,hF⟩:=bnd hF
 obtain ⟨b29,o30,es31,hl32,rr33,at34,yy35⟩:=qaI qgy hb_1 e28 (P:=Tryz.prog) (X:=.tmp 21) (I:=.tmp 22) (kd:=.i64) (qao E rfl) (qao E rfl)
 obtain ⟨c39,c41,c44,rfl,l36,l37,l38,h40,h42,r43,h45⟩:=rr33
 refine qv E (yy35 _ _) fun a E=>qv E (qax (cs:=[(Value.string (bs x27.ID)),(Value.string (bs x27.Source)),(Value.string (bs x27.Target)),c39,c41,(Value.int .i64 x27.State),c44]) qnx rfl rfl (qaf.ro at34)) fun a E=>?_
 obtain ⟨r46,e47,hF⟩:=bnd hF
 refine qfh E qqq rfl (fun w ok=>(qh4 N _ x8 ⟨_,_,_,rfl,l17,l18,l19,h21,h23,r24,h26⟩ _ x27 ⟨_,_,_,rfl,l36,l37,l38,h40,h42,r43,h45⟩ e47 hG ok).mono (fun _ _ h=>h)) rfl rfl fun a E=>qv E (qbP rfl) fun a E=>wpQuiet_nil ?_
 intro w ok
 refine qad<|c_if E rfl (fun hc48=>?_) (fun hc48=>?_)
 rotate_left
 ·replace hF:=qah hc48 hF
  refine wp_skip<|qar<|qad<|qae<|lv E ok (qaa rfl) fun a E=>lv E ok (qaC rfl rfl (InR.inc r6 (qau ha_0) hc7)) fun a E=>lv E ok (qab rfl) fun a E=>wpList_nil ?_
  obtain rfl:=sj hF
  exact qay ⟨ok,E.keep [0,1,5],(InR.inc r6 (qau ha_0) hc7)⟩
 replace hF:=qai hc48 hF
 refine sg<|lv E ok (qab rfl) fun a E=>wn<|wp_ret<|qap<|qan ?_
 have hret:qdB u m0 S false a w:=⟨ok,E.d,⟨rv_t E rfl,trivial⟩⟩
 obtain rfl:=sj hF
 exact qaq (by nofun) (sr ⟨rfl,hret⟩)
def qcb (u:World) (m0:Mem) (S:Segs) (r:Int) (a:Act) (w:World):Prop :=
 Ok u m0 S w ∧ a.defers = [] ∧ RVs Tryz.prog a w [.t 2 (.int .i64 r)] ∧ InR .i64 r
set_option maxHeartbeats 4000000 in
set_option maxRecDepth 100000 in
theorem qcL {u:World} {m0:Mem} {S:Segs} {w:World} (N:Nat) (c_0:Int) (rc_0:InR .u8 c_0) {r:Int} (hF:qdh N c_0 = some r) (hG:Glob u) (ok:Ok u m0 S w) :
  Calls Tryz.prog 131 [Value.int .u8 c_0].toArray w fun e w'=>(e = .returned (.int .i64 r) ∧ Ok u m0 S w') ∧ InR .i64 r:=by
 have hb0:=ok.base
 have le_m0:=Mem.le.refl m0
 unfold qdh at hF
 have fin:∀ a w,qcb u m0 S r a w → bodyPost Tryz.prog Tryz.f131 (fun e w'=>(e = .returned (.int .i64 r) ∧ Ok u m0 S w') ∧ InR .i64 r) .ret a w:=by
  intro a w h
  obtain ⟨ok,hd,hrv,h0⟩:=h
  exact qaK [.t 2 (.int .i64 r)] hd rfl hrv ⟨⟨rfl,ok⟩,h0⟩
 refine enter Tryz.func131 rfl rfl rfl fun a E=>sg<|lv E ok (qab rfl) fun a E=>wn<|wp_seq<|wp_block ?_
 refine sg<|lv E ok (qaa rfl) fun a E=>lv E ok (qbg rfl rfl) fun a E=>lv E ok (qaa rfl) fun a E=>qas (decide (c_0 ≥ 48)) (fun hc1=>?_) (fun hc1=>?_)
 rotate_left
 ·replace hF:=qah hc1 hF
  replace E:=E.upd 6 hc1 rfl
  refine ls E fun a E=>ls E fun a E=>lv E ok (qam rfl rfl) fun a E=>lv E ok (qab rfl) fun a E=>wn<|c_if E rfl (fun h=>by cases h) (fun _=>?_)
  refine sg<|lv E ok (qaa rfl) fun a E=>lv E ok (qbg rfl rfl) fun a E=>lv E ok (qaa rfl) fun a E=>qas (decide (c_0 ≥ 97)) (fun hc5=>?_) (fun hc5=>?_)
  rotate_left
  ·replace hF:=qah hc5 hF
   replace E:=E.upd 16 hc5 rfl
   refine ls E fun a E=>ls E fun a E=>lv E ok (qam rfl rfl) fun a E=>lv E ok (qab rfl) fun a E=>wn<|c_if E rfl (fun h=>by cases h) (fun _=>?_)
   refine wp_skip<|qar<|qad<|sg<|lv E ok (qab rfl) fun a E=>wn ?_
   refine wp_ret ?_
   have hret:qcb u m0 S (-1) a w:=⟨ok,E.d,⟨rv_t E rfl,trivial⟩,(show InR .i64 (-1) by decide)⟩
   obtain rfl:=sj hF
   exact fin _ _ hret
  replace hF:=qai hc5 hF
  replace E:=E.upd 16 hc5 rfl
  refine lv E ok (qaa rfl) fun a E=>lv E ok (qct rfl rfl) fun a E=>lv E ok (qak rfl rfl) fun a E=>lv E ok (qab rfl) fun a E=>wn<|c_if E rfl (fun hc6=>?_) (fun hc6=>?_)
  rotate_left
  ·replace hF:=qah hc6 hF
   refine wp_skip<|qar<|qad<|sg<|lv E ok (qab rfl) fun a E=>wn ?_
   refine wp_ret ?_
   have hret:qcb u m0 S (-1) a w:=⟨ok,E.d,⟨rv_t E rfl,trivial⟩,(show InR .i64 (-1) by decide)⟩
   obtain rfl:=sj hF
   exact fin _ _ hret
  replace hF:=qai hc6 hF
  refine sg<|lv E ok (qaa rfl) fun a E=>lv E ok (qbV rfl rfl) fun a E=>lv E ok (qj0 Tryz.underlying5 Tryz.underlying3 rfl (InR.wrap _ _) (by decide)) fun a E=>lv E ok (qaL rfl rfl) fun a E=>lv E ok (qab rfl) fun a E=>wpList_nil ?_
  refine qad<|wp_ret<|qap<|qan ?_
  have hret:qcb u m0 S (IntKind.wrap .i64 ((IntKind.wrap .u8 (c_0 - 97)) + 10)) a w:=⟨ok,E.d,⟨rv_t E rfl,trivial⟩,(InR.wrap _ _)⟩
  obtain rfl:=sj hF
  exact fin _ _ hret
 replace hF:=qai hc1 hF
 replace E:=E.upd 6 hc1 rfl
 refine lv E ok (qaa rfl) fun a E=>lv E ok (qct rfl rfl) fun a E=>lv E ok (qak rfl rfl) fun a E=>lv E ok (qab rfl) fun a E=>wn<|c_if E rfl (fun hc2=>?_) (fun hc2=>?_)
 ·replace hF:=qai hc2 hF
  refine sg<|lv E ok (qaa rfl) fun a E=>lv E ok (qbV rfl rfl) fun a E=>lv E ok (qj0 Tryz.underlying5 Tryz.underlying3 rfl (InR.wrap _ _) (by decide)) fun a E=>lv E ok (qab rfl) fun a E=>wn ?_
  refine wp_ret<|qap<|qan ?_
  have hret:qcb u m0 S (IntKind.wrap .u8 (c_0 - 48)) a w:=⟨ok,E.d,⟨rv_t E rfl,trivial⟩,(InR.widen (InR.wrap _ _) (by decide))⟩
  obtain rfl:=sj hF
  exact fin _ _ hret
 replace hF:=qah hc2 hF
 refine sg<|lv E ok (qaa rfl) fun a E=>lv E ok (qbg rfl rfl) fun a E=>lv E ok (qaa rfl) fun a E=>qas (decide (c_0 ≥ 97)) (fun hc3=>?_) (fun hc3=>?_)
 rotate_left
 ·replace hF:=qah hc3 hF
  replace E:=E.upd 16 hc3 rfl
  refine ls E fun a E=>ls E fun a E=>lv E ok (qam rfl rfl) fun a E=>lv E ok (qab rfl) fun a E=>wn<|c_if E rfl (fun h=>by cases h) (fun _=>?_)
  refine wp_skip<|qar<|qad<|sg<|lv E ok (qab rfl) fun a E=>wn ?_
  refine wp_ret ?_
  have hret:qcb u m0 S (-1) a w:=⟨ok,E.d,⟨rv_t E rfl,trivial⟩,(show InR .i64 (-1) by decide)⟩
  obtain rfl:=sj hF
  exact fin _ _ hret
 replace hF:=qai hc3 hF
 replace E:=E.upd 16 hc3 rfl
 refine lv E ok (qaa rfl) fun a E=>lv E ok (qct rfl rfl) fun a E=>lv E ok (qak rfl rfl) fun a E=>lv E ok (qab rfl) fun a E=>wn<|c_if E rfl (fun hc4=>?_) (fun hc4=>?_)
 rotate_left
 ·replace hF:=qah hc4 hF
  refine wp_skip<|qar<|qad<|sg<|lv E ok (qab rfl) fun a E=>wn ?_
  refine wp_ret ?_
  have hret:qcb u m0 S (-1) a w:=⟨ok,E.d,⟨rv_t E rfl,trivial⟩,(show InR .i64 (-1) by decide)⟩
  obtain rfl:=sj hF
  exact fin _ _ hret
 replace hF:=qai hc4 hF
 refine sg<|lv E ok (qaa rfl) fun a E=>lv E ok (qbV rfl rfl) fun a E=>lv E ok (qj0 Tryz.underlying5 Tryz.underlying3 rfl (InR.wrap _ _) (by decide)) fun a E=>lv E ok (qaL rfl rfl) fun a E=>lv E ok (qab rfl) fun a E=>wpList_nil ?_
 refine qad<|wp_ret<|qap<|qan ?_
 have hret:qcb u m0 S (IntKind.wrap .i64 ((IntKind.wrap .u8 (c_0 - 97)) + 10)) a w:=⟨ok,E.d,⟨rv_t E rfl,trivial⟩,(InR.wrap _ _)⟩
 obtain rfl:=sj hF
 exact fin _ _ hret
def qbd (u:World) (m0:Mem) (S:Segs) (r:Int × Int) (a:Act) (w:World):Prop :=
 Ok u m0 S w ∧ a.defers = [] ∧ RVs Tryz.prog a w [.t 4 (.int .u8 r.1),.t 5 (.int .i64 r.2)] ∧ InR .u8 r.1 ∧ InR .i64 r.2
set_option maxHeartbeats 4000000 in
set_option maxRecDepth 100000 in
theorem qcQ {u:World} {m0:Mem} {S:Segs} {w:World} (N:Nat) (s_0:List UInt8) (ls_0:s_0.length ≤ LIMS) (at_1:Int) (rat_1:InR .i64 at_1) {r:Int × Int} (hF:qcj N s_0 at_1 = some r) (hG:Glob u) (ok:Ok u m0 S w) :
  Calls Tryz.prog 109 [Value.string (bs s_0),Value.int .i64 at_1].toArray w fun e w'=>(e = .returned (.tuple [(.int .u8 r.1),(.int .i64 r.2)].toArray) ∧ Ok u m0 S w') ∧ InR .u8 r.1 ∧ InR .i64 r.2:=by
 have hb0:=ok.base
 have le_m0:=Mem.le.refl m0
 unfold qcj at hF
 have fin:∀ a w,qbd u m0 S r a w → bodyPost Tryz.prog Tryz.f109 (fun e w'=>(e = .returned (.tuple [(.int .u8 r.1),(.int .i64 r.2)].toArray) ∧ Ok u m0 S w') ∧ InR .u8 r.1 ∧ InR .i64 r.2) .ret a w:=by
  intro a w h
  obtain ⟨ok,hd,hrv,h0,h1⟩:=h
  exact qaK [.t 4 (.int .u8 r.1),.t 5 (.int .i64 r.2)] hd rfl hrv ⟨⟨rfl,ok⟩,h0,h1⟩
 refine enter Tryz.func109 rfl rfl rfl fun a E=>sg<|lv E ok (qab rfl) fun a E=>lv E ok (qab rfl) fun a E=>wn<|wp_seq ?_
 refine wp_block<|sg<|lv E ok (qaa rfl) fun a E=>lv E ok (qaa rfl) fun a E=>lv E ok (qaX Tryz.underlying9 rfl) fun a E=>lv E ok (qbg rfl rfl) fun a E=>lv E ok (qab rfl) fun a E=>?_
 refine wn<|c_if E rfl (fun hc1=>?_) (fun hc1=>?_)
 ·replace hF:=qai hc1 hF
  refine sg<|lv E ok (qab rfl) fun a E=>lv E ok (qab rfl) fun a E=>wn<|wp_ret<|qap ?_
  refine qan ?_
  have hret:qbd u m0 S (0,(-1)) a w:=⟨ok,E.d,⟨rv_t E rfl,rv_t E rfl,trivial⟩,(show InR .u8 (0) by decide),(show InR .i64 (-1) by decide)⟩
  obtain rfl:=sj hF
  exact fin _ _ hret
 replace hF:=qah hc1 hF
 refine sg<|lv E ok (qaa rfl) fun a E=>lv E ok (qaa rfl) fun a E=>?_
 obtain ⟨c2,e3,hF⟩:=bnd hF
 refine lv E ok (qa3 Tryz.underlying9 rfl rfl e3) fun a E=>lv E ok (qdm rfl rfl) fun a E=>lv E ok (qab rfl) fun a E=>wn<|c_if E rfl (fun hc4=>?_) (fun hc4=>?_)
 ·replace hF:=qai hc4 hF
  refine sg<|lv E ok (qaa rfl) fun a E=>lv E ok (qaa rfl) fun a E=>?_
  obtain ⟨c5,e6,hF⟩:=bnd hF
  refine lv E ok (qa3 Tryz.underlying9 rfl rfl e6) fun a E=>lv E ok (qaa rfl) fun a E=>lv E ok (qaL rfl rfl) fun a E=>lv E ok (qab rfl) fun a E=>lv E ok (qab rfl) fun a E=>wn<|wp_ret ?_
  refine qap<|qan ?_
  have hret:qbd u m0 S ((c5.toNat:Int),(IntKind.wrap .i64 (at_1 + 1))) a w:=⟨ok,E.d,⟨rv_t E rfl,rv_t E rfl,trivial⟩,(InR.byte c5),(InR.wrap _ _)⟩
  obtain rfl:=sj hF
  exact fin _ _ hret
 replace hF:=qah hc4 hF
 refine sg<|lv E ok (qaa rfl) fun a E=>lv E ok (qaL rfl rfl) fun a E=>lv E ok (qaa rfl) fun a E=>lv E ok (qaX Tryz.underlying9 rfl) fun a E=>lv E ok (qaB rfl rfl) fun a E=>lv E ok (qaa rfl) fun a E=>?_
 refine qas (decide ((IntKind.wrap .i64 (at_1 + 3)) < (s_0.length:Int))) (fun hc7=>?_) (fun hc7=>?_)
 rotate_left
 ·replace hF:=qah hc7 hF
  replace E:=E.upd 27 hc7 rfl
  refine ls E fun a E=>ls E fun a E=>ls E fun a E=>ls E fun a E=>ls E fun a E=>lv E ok (qam rfl rfl) fun a E=>lv E ok (qaa rfl) fun a E=>ls E fun a E=>?_
  refine ls E fun a E=>ls E fun a E=>ls E fun a E=>ls E fun a E=>ls E fun a E=>lv E ok (qam rfl rfl) fun a E=>lv E ok (qaa rfl) fun a E=>ls E fun a E=>?_
  refine ls E fun a E=>ls E fun a E=>ls E fun a E=>ls E fun a E=>ls E fun a E=>lv E ok (qam rfl rfl) fun a E=>lv E ok (qab rfl) fun a E=>wpList_nil ?_
  refine qad<|c_if E rfl (fun h=>by cases h) (fun _=>?_)
  refine sg<|lv E ok (qaa rfl) fun a E=>lv E ok (qaL rfl rfl) fun a E=>lv E ok (qaa rfl) fun a E=>lv E ok (qaX Tryz.underlying9 rfl) fun a E=>lv E ok (qaB rfl rfl) fun a E=>lv E ok (qab rfl) fun a E=>?_
  refine wn<|c_if E rfl (fun hc42=>?_) (fun hc42=>?_)
  rotate_left
  ·replace hF:=qah hc42 hF
   refine wp_skip<|qar<|qad<|sg<|lv E ok (qab rfl) fun a E=>lv E ok (qab rfl) fun a E=>wpList_nil ?_
   refine qad<|wp_ret ?_
   have hret:qbd u m0 S (0,(-1)) a w:=⟨ok,E.d,⟨rv_t E rfl,rv_t E rfl,trivial⟩,(show InR .u8 (0) by decide),(show InR .i64 (-1) by decide)⟩
   obtain rfl:=sj hF
   exact fin _ _ hret
  replace hF:=qai hc42 hF
  refine sg<|lv E ok (qaa rfl) fun a E=>lv E ok (qaa rfl) fun a E=>lv E ok (qaL rfl rfl) fun a E=>?_
  obtain ⟨c43,e44,hF⟩:=bnd hF
  refine lv E ok (qa3 Tryz.underlying9 rfl rfl e44) fun a E=>lv E ok (qaa rfl) fun a E=>lv E ok (qaL rfl rfl) fun a E=>lv E ok (qab rfl) fun a E=>lv E ok (qab rfl) fun a E=>wn<|wp_ret ?_
  refine qap<|qan ?_
  have hret:qbd u m0 S ((c43.toNat:Int),(IntKind.wrap .i64 (at_1 + 2))) a w:=⟨ok,E.d,⟨rv_t E rfl,rv_t E rfl,trivial⟩,(InR.byte c43),(InR.wrap _ _)⟩
  obtain rfl:=sj hF
  exact fin _ _ hret
 replace hF:=qai hc7 hF
 replace E:=E.upd 27 hc7 rfl
 refine lv E ok (qaa rfl) fun a E=>lv E ok (qaa rfl) fun a E=>lv E ok (qaL rfl rfl) fun a E=>?_
 obtain ⟨c8,e9,hF⟩:=bnd hF
 refine lv E ok (qa3 Tryz.underlying9 rfl rfl e9) fun a E=>lv E ok (qbn rfl rfl) fun a E=>lv E ok (qak rfl rfl) fun a E=>lv E ok (qaa rfl) fun a E=>qas ((c8.toNat:Int) == 120) (fun hc10=>?_) (fun hc10=>?_)
 rotate_left
 ·replace hF:=qah hc10 hF
  replace E:=E.upd 34 hc10 rfl
  refine ls E fun a E=>ls E fun a E=>ls E fun a E=>ls E fun a E=>ls E fun a E=>ls E fun a E=>lv E ok (qam rfl rfl) fun a E=>lv E ok (qaa rfl) fun a E=>?_
  refine ls E fun a E=>ls E fun a E=>ls E fun a E=>ls E fun a E=>ls E fun a E=>ls E fun a E=>lv E ok (qam rfl rfl) fun a E=>lv E ok (qab rfl) fun a E=>?_
  refine wn<|c_if E rfl (fun h=>by cases h) (fun _=>?_)
  refine sg<|lv E ok (qaa rfl) fun a E=>lv E ok (qaL rfl rfl) fun a E=>lv E ok (qaa rfl) fun a E=>lv E ok (qaX Tryz.underlying9 rfl) fun a E=>lv E ok (qaB rfl rfl) fun a E=>lv E ok (qab rfl) fun a E=>?_
  refine wn<|c_if E rfl (fun hc39=>?_) (fun hc39=>?_)
  rotate_left
  ·replace hF:=qah hc39 hF
   refine wp_skip<|qar<|qad<|sg<|lv E ok (qab rfl) fun a E=>lv E ok (qab rfl) fun a E=>wpList_nil ?_
   refine qad<|wp_ret ?_
   have hret:qbd u m0 S (0,(-1)) a w:=⟨ok,E.d,⟨rv_t E rfl,rv_t E rfl,trivial⟩,(show InR .u8 (0) by decide),(show InR .i64 (-1) by decide)⟩
   obtain rfl:=sj hF
   exact fin _ _ hret
  replace hF:=qai hc39 hF
  refine sg<|lv E ok (qaa rfl) fun a E=>lv E ok (qaa rfl) fun a E=>lv E ok (qaL rfl rfl) fun a E=>?_
  obtain ⟨c40,e41,hF⟩:=bnd hF
  refine lv E ok (qa3 Tryz.underlying9 rfl rfl e41) fun a E=>lv E ok (qaa rfl) fun a E=>lv E ok (qaL rfl rfl) fun a E=>lv E ok (qab rfl) fun a E=>lv E ok (qab rfl) fun a E=>wn<|wp_ret ?_
  refine qap<|qan ?_
  have hret:qbd u m0 S ((c40.toNat:Int),(IntKind.wrap .i64 (at_1 + 2))) a w:=⟨ok,E.d,⟨rv_t E rfl,rv_t E rfl,trivial⟩,(InR.byte c40),(InR.wrap _ _)⟩
  obtain rfl:=sj hF
  exact fin _ _ hret
 replace hF:=qai hc10 hF
 replace E:=E.upd 34 hc10 rfl
 refine lv E ok (qaa rfl) fun a E=>lv E ok (qaa rfl) fun a E=>lv E ok (qaL rfl rfl) fun a E=>?_
 obtain ⟨c11,e12,hF⟩:=bnd hF
 refine lv E ok (qa3 Tryz.underlying9 rfl rfl e12) fun a E=>?_
 obtain ⟨r13,e14,hF⟩:=bnd hF
 refine qaw E qkJ rfl (qcL N (c11.toNat:Int) (InR.byte c11) e14 hG ok) rfl rfl ?_
 rintro _ w ⟨⟨rfl,ok⟩,r15⟩
 refine ⟨_,rfl,fun a E=>?_⟩
 refine lv E ok (qbg rfl rfl) fun a E=>lv E ok (qak rfl rfl) fun a E=>lv E ok (qaa rfl) fun a E=>qas (decide (r13 ≥ 0)) (fun hc16=>?_) (fun hc16=>?_)
 rotate_left
 ·replace hF:=qah hc16 hF
  replace E:=E.upd 42 hc16 rfl
  refine ls E fun a E=>ls E fun a E=>ls E fun a E=>ls E fun a E=>ls E fun a E=>ls E fun a E=>lv E ok (qam rfl rfl) fun a E=>lv E ok (qab rfl) fun a E=>?_
  refine wn<|c_if E rfl (fun h=>by cases h) (fun _=>?_)
  refine sg<|lv E ok (qaa rfl) fun a E=>lv E ok (qaL rfl rfl) fun a E=>lv E ok (qaa rfl) fun a E=>lv E ok (qaX Tryz.underlying9 rfl) fun a E=>lv E ok (qaB rfl rfl) fun a E=>lv E ok (qab rfl) fun a E=>?_
  refine wn<|c_if E rfl (fun hc36=>?_) (fun hc36=>?_)
  rotate_left
  ·replace hF:=qah hc36 hF
   refine wp_skip<|qar<|qad<|sg<|lv E ok (qab rfl) fun a E=>lv E ok (qab rfl) fun a E=>wpList_nil ?_
   refine qad<|wp_ret ?_
   have hret:qbd u m0 S (0,(-1)) a w:=⟨ok,E.d,⟨rv_t E rfl,rv_t E rfl,trivial⟩,(show InR .u8 (0) by decide),(show InR .i64 (-1) by decide)⟩
   obtain rfl:=sj hF
   exact fin _ _ hret
  replace hF:=qai hc36 hF
  refine sg<|lv E ok (qaa rfl) fun a E=>lv E ok (qaa rfl) fun a E=>lv E ok (qaL rfl rfl) fun a E=>?_
  obtain ⟨c37,e38,hF⟩:=bnd hF
  refine lv E ok (qa3 Tryz.underlying9 rfl rfl e38) fun a E=>lv E ok (qaa rfl) fun a E=>lv E ok (qaL rfl rfl) fun a E=>lv E ok (qab rfl) fun a E=>lv E ok (qab rfl) fun a E=>wn<|wp_ret ?_
  refine qap<|qan ?_
  have hret:qbd u m0 S ((c37.toNat:Int),(IntKind.wrap .i64 (at_1 + 2))) a w:=⟨ok,E.d,⟨rv_t E rfl,rv_t E rfl,trivial⟩,(InR.byte c37),(InR.wrap _ _)⟩
  obtain rfl:=sj hF
  exact fin _ _ hret
 replace hF:=qai hc16 hF
 replace E:=E.upd 42 hc16 rfl
 refine lv E ok (qaa rfl) fun a E=>lv E ok (qaa rfl) fun a E=>lv E ok (qaL rfl rfl) fun a E=>?_
 obtain ⟨c17,e18,hF⟩:=bnd hF
 refine lv E ok (qa3 Tryz.underlying9 rfl rfl e18) fun a E=>?_
 obtain ⟨r19,e20,hF⟩:=bnd hF
 refine qaw E qkJ rfl (qcL N (c17.toNat:Int) (InR.byte c17) e20 hG ok) rfl rfl ?_
 rintro _ w ⟨⟨rfl,ok⟩,r21⟩
 refine ⟨_,rfl,fun a E=>?_⟩
 refine lv E ok (qbg rfl rfl) fun a E=>lv E ok (qak rfl rfl) fun a E=>lv E ok (qab rfl) fun a E=>wn<|c_if E rfl (fun hc22=>?_) (fun hc22=>?_)
 ·replace hF:=qai hc22 hF
  refine wp_seq<|qbb (by kernel_rfl) (by kernel_rfl) ok<|qv E (qaa rfl) fun a E=>qv E (qaa rfl) fun a E=>qv E (qaL rfl rfl) fun a E=>?_
  obtain ⟨c23,e24,hF⟩:=bnd hF
  refine qv E (qa3 Tryz.underlying9 rfl rfl e24) fun a E=>?_
  obtain ⟨r25,e26,hF⟩:=bnd hF
  obtain ⟨_,_,⟨_,_⟩,r27⟩:=Go.X.Calls.get (qcL N (c23.toNat:Int) (InR.byte c23) e26 hG ok)
  refine qfh E qkJ rfl (fun w ok=>(qcL N (c23.toNat:Int) (InR.byte c23) e26 hG ok).mono (fun _ _ h=>h.1)) rfl rfl fun a E=>qv E (qpy rfl rfl) fun a E=>qv E (qaa rfl) fun a E=>qv E (qaa rfl) fun a E=>qv E (qaL rfl rfl) fun a E=>?_
  obtain ⟨c28,e29,hF⟩:=bnd hF
  refine qv E (qa3 Tryz.underlying9 rfl rfl e29) fun a E=>?_
  obtain ⟨r30,e31,hF⟩:=bnd hF
  obtain ⟨_,_,⟨_,_⟩,r32⟩:=Go.X.Calls.get (qcL N (c28.toNat:Int) (InR.byte c28) e31 hG ok)
  refine qfh E qkJ rfl (fun w ok=>(qcL N (c28.toNat:Int) (InR.byte c28) e31 hG ok).mono (fun _ _ h=>h.1)) rfl rfl fun a E=>qv E (qaL rfl rfl) fun a E=>qv E (qjA Tryz.underlying3 Tryz.underlying5 rfl) fun a E=>qv E (qaa rfl) fun a E=>qv E (qaL rfl rfl) fun a E=>qv E (qab rfl) fun a E=>qv E (qab rfl) fun a E=>wpQuiet_nil ?_
  intro w ok
  refine qad<|wp_ret<|qap<|qan ?_
  have hret:qbd u m0 S ((IntKind.wrap .u8 (IntKind.wrap .i64 ((IntKind.wrap .i64 (r25 * 16)) + r30))),(IntKind.wrap .i64 (at_1 + 4))) a w:=⟨ok,E.d,⟨rv_t E rfl,rv_t E rfl,trivial⟩,(InR.wrap _ _),(InR.wrap _ _)⟩
  obtain rfl:=sj hF
  exact fin _ _ hret
 replace hF:=qah hc22 hF
 refine sg<|lv E ok (qaa rfl) fun a E=>lv E ok (qaL rfl rfl) fun a E=>lv E ok (qaa rfl) fun a E=>lv E ok (qaX Tryz.underlying9 rfl) fun a E=>lv E ok (qaB rfl rfl) fun a E=>lv E ok (qab rfl) fun a E=>?_
 refine wn<|c_if E rfl (fun hc33=>?_) (fun hc33=>?_)
 rotate_left
 ·replace hF:=qah hc33 hF
  refine wp_skip<|qar<|qad<|sg<|lv E ok (qab rfl) fun a E=>lv E ok (qab rfl) fun a E=>wpList_nil ?_
  refine qad<|wp_ret ?_
  have hret:qbd u m0 S (0,(-1)) a w:=⟨ok,E.d,⟨rv_t E rfl,rv_t E rfl,trivial⟩,(show InR .u8 (0) by decide),(show InR .i64 (-1) by decide)⟩
  obtain rfl:=sj hF
  exact fin _ _ hret
 replace hF:=qai hc33 hF
 refine sg<|lv E ok (qaa rfl) fun a E=>lv E ok (qaa rfl) fun a E=>lv E ok (qaL rfl rfl) fun a E=>?_
 obtain ⟨c34,e35,hF⟩:=bnd hF
 refine lv E ok (qa3 Tryz.underlying9 rfl rfl e35) fun a E=>lv E ok (qaa rfl) fun a E=>lv E ok (qaL rfl rfl) fun a E=>lv E ok (qab rfl) fun a E=>lv E ok (qab rfl) fun a E=>wn<|wp_ret ?_
 refine qap<|qan ?_
 have hret:qbd u m0 S ((c34.toNat:Int),(IntKind.wrap .i64 (at_1 + 2))) a w:=⟨ok,E.d,⟨rv_t E rfl,rv_t E rfl,trivial⟩,(InR.byte c34),(InR.wrap _ _)⟩
 obtain rfl:=sj hF
 exact fin _ _ hret
def qdz (u:World) (m0:Mem) (S:Segs) (r:Item × Int) (a:Act) (w:World):Prop :=
 ∃ m1 v0,m0.le m1 ∧ Ok u m1 S w ∧ a.defers = [] ∧ RVs Tryz.prog a w [.c 4 138 (.agg v0.toArray),.t 5 (.int .i64 r.2)] ∧ qbJ m1 v0 r.1 ∧ InR .i64 r.2
set_option maxHeartbeats 4000000 in
set_option maxRecDepth 100000 in
theorem qim {u:World} {m0:Mem} {S:Segs} {w:World} (N:Nat) (s_0:List UInt8) (ls_0:s_0.length ≤ LIMS) (at_1:Int) (rat_1:InR .i64 at_1) {r:Item × Int} (hF:qe0 N s_0 at_1 = some r) (hG:Glob u) (ok:Ok u m0 S w) :
  Calls Tryz.prog 88 [Value.string (bs s_0),Value.int .i64 at_1].toArray w fun e w'=>∃ m1 v0,e = .returned (.tuple [(.agg v0.toArray),(.int .i64 r.2)].toArray) ∧ m0.le m1 ∧ Ok u m1 S w' ∧ qbJ m1 v0 r.1 ∧ InR .i64 r.2:=by
 have le_m0:=Mem.le.refl m0
 unfold qe0 at hF
 have fin:∀ a w,qdz u m0 S r a w → bodyPost Tryz.prog Tryz.f88 (fun e w'=>∃ m1 v0,e = .returned (.tuple [(.agg v0.toArray),(.int .i64 r.2)].toArray) ∧ m0.le m1 ∧ Ok u m1 S w' ∧ qbJ m1 v0 r.1 ∧ InR .i64 r.2) .ret a w:=by
  intro a w h
  obtain ⟨m1,v0,hle,ok,hd,hrv,h0,h1⟩:=h
  exact qaK [.c 4 138 (.agg v0.toArray),.t 5 (.int .i64 r.2)] hd rfl hrv ⟨m1,v0,rfl,hle,ok,h0,h1⟩
 refine enter Tryz.func88 rfl rfl rfl fun a E=>sg<|qaZ E ok qbz rfl rfl fun b1 a w E ok=>lv E ok (qab rfl) fun a E=>wn<|wp_seq ?_
 refine qae<|lv E ok (qab rfl) fun a E=>wn<|sg<|lv E ok (qaa rfl) fun a E=>lv E ok (qaL rfl rfl) fun a E=>?_
 refine lv E ok (qab rfl) fun a E=>wn<|wp_seq<|wp_block ?_
 obtain ⟨M7,ok,h8⟩:=qdp (e:=5) (k:=1) (R:=(pI .u8)) ok
 obtain ⟨o9,hL,hF⟩:=bnd hF
 refine qaR _ (fun (s:Int × (List (Int))) a w=>∃ c11 M12,Ok u m0 (M12 :: [(b1,Obj.cells [(Value.string (bs ([]))),(Value.slice none 0 0),(Value.bool false),(Value.int .i64 0),(Value.int .i64 0)].toArray 138 (0,0))] :: S) w ∧ Env 50 a [(0,(Value.string (bs s_0))),(1,(Value.int .i64 s.1)),(4,(Value.pointer (some ⟨b1,0,none⟩))),(6,c11)] ∧ InR .i64 s.1 ∧ ORow 5 1 (pI .u8) m0 c11 s.2 M12) (fun (b:(Int × (List (Int)))) e a w=>e = (.exit 0) ∧ ∃ c44 M45,Ok u m0 (M45 :: [(b1,Obj.cells [(Value.string (bs ([]))),(Value.slice none 0 0),(Value.bool false),(Value.int .i64 0),(Value.int .i64 0)].toArray 138 (0,0))] :: S) w ∧ Env 50 a [(0,(Value.string (bs s_0))),(1,(Value.int .i64 b.1)),(4,(Value.pointer (some ⟨b1,0,none⟩))),(6,c44)] ∧ InR .i64 b.1 ∧ ORow 5 1 (pI .u8) m0 c44 b.2 M45) ?_ ?_ N _ a w hL ⟨(Value.slice none 0 0),M7,ok,E.keep [0,1,4,6],(InR.wrap _ _),h8⟩
 rotate_left
 ·intro e a w _ hO
  obtain ⟨rfl,c38,M39,ok,E,r37,h40⟩:=hO
  refine qaT<|qad<|wp_seq<|sg<|lv E ok (qaa rfl) fun a E=>lv E ok (qaB rfl rfl) fun a E=>lv E ok (qaa rfl) fun a E=>?_
  refine qas (decide (o9.1 < 0)) (fun hc41=>?_) (fun hc41=>?_)
  ·replace hF:=qai hc41 hF
   replace E:=E.upd 38 hc41 rfl
   refine ls E fun a E=>ls E fun a E=>ls E fun a E=>ls E fun a E=>lv E ok (qak rfl rfl) fun a E=>wn<|c_if E rfl (fun _=>?_) (fun h=>by cases h)
   refine sg<|lv E ok (qa6 (ps:=[]) (qs:=[]) (cs:=[(Value.string (bs ([]))),(Value.slice none 0 0),(Value.bool false),(Value.int .i64 0),(Value.int .i64 0)]) qbz qcB rfl trivial rfl) fun a E=>qat E ok 1 rfl rfl rfl qbu rfl rfl ⟨rfl,rfl,rfl,rfl,rfl,trivial⟩ rfl rfl fun w ok=>lv E ok (qab rfl) fun a E=>wn<|wp_ret ?_
   refine qan ?_
   have hret:qdz u m0 S ((Item.mk ([]) ([]) false 0 0),(-1)) a w:=⟨m0,[(Value.string (bs ([]))),(Value.slice none 0 0),(Value.bool false),(Value.int .i64 0),(Value.int .i64 0)],le_m0,ok.drop.drop,E.d,⟨rv_c (cs:=[(Value.string (bs ([]))),(Value.slice none 0 0),(Value.bool false),(Value.int .i64 0),(Value.int .i64 0)]) E ok rfl qa7 rfl (qaf.own 1 rfl rfl),rv_t E rfl,trivial⟩,⟨_,rfl,(Nat.zero_le _),qbA,(show InR .i64 0 by decide),(show InR .i64 0 by decide)⟩,(show InR .i64 (-1) by decide)⟩
   obtain rfl:=sj hF
   exact fin _ _ hret
  replace hF:=qah hc41 hF
  replace E:=E.upd 38 hc41 rfl
  refine lv E ok (qaa rfl) fun a E=>lv E ok (qaa rfl) fun a E=>lv E ok (qaX Tryz.underlying9 rfl) fun a E=>lv E ok (qbg rfl rfl) fun a E=>lv E ok (qam rfl rfl) fun a E=>wn<|c_if E rfl (fun hc42=>?_) (fun hc42=>?_)
  ·replace hF:=qai hc42 hF
   refine sg<|lv E ok (qa6 (ps:=[]) (qs:=[]) (cs:=[(Value.string (bs ([]))),(Value.slice none 0 0),(Value.bool false),(Value.int .i64 0),(Value.int .i64 0)]) qbz qcB rfl trivial rfl) fun a E=>qat E ok 1 rfl rfl rfl qbu rfl rfl ⟨rfl,rfl,rfl,rfl,rfl,trivial⟩ rfl rfl fun w ok=>lv E ok (qab rfl) fun a E=>wn<|wp_ret ?_
   refine qan ?_
   have hret:qdz u m0 S ((Item.mk ([]) ([]) false 0 0),(-1)) a w:=⟨m0,[(Value.string (bs ([]))),(Value.slice none 0 0),(Value.bool false),(Value.int .i64 0),(Value.int .i64 0)],le_m0,ok.drop.drop,E.d,⟨rv_c (cs:=[(Value.string (bs ([]))),(Value.slice none 0 0),(Value.bool false),(Value.int .i64 0),(Value.int .i64 0)]) E ok rfl qa7 rfl (qaf.own 1 rfl rfl),rv_t E rfl,trivial⟩,⟨_,rfl,(Nat.zero_le _),qbA,(show InR .i64 0 by decide),(show InR .i64 0 by decide)⟩,(show InR .i64 (-1) by decide)⟩
   obtain rfl:=sj hF
   exact fin _ _ hret
  replace hF:=qah hc42 hF
  refine wp_skip<|qad<|sg<|lv E ok (qaa rfl) fun a E=>lv E ok (qhN Tryz.underlying86 Tryz.underlying5 Tryz.underlying9 rfl (BR.ofRow h40 0 rfl)) fun a E=>lv E ok (qa6 (ps:=[(0,.tmp 46)]) (qs:=[(0,[(Value.string (bs (bytesOf o9.2)))])]) (cs:=[(Value.string (bs (bytesOf o9.2))),(Value.slice none 0 0),(Value.bool false),(Value.int .i64 0),(Value.int .i64 0)]) qbz qcB rfl ⟨rfl,rfl,rfl,trivial⟩ rfl) fun a E=>lv E ok (qaa rfl) fun a E=>?_
  refine lv E ok (qaL rfl rfl) fun a E=>qat E ok 1 rfl rfl rfl qbu rfl rfl ⟨rfl,rfl,rfl,rfl,rfl,trivial⟩ rfl rfl fun w ok=>lv E ok (qab rfl) fun a E=>wn<|wp_ret ?_
  have hret:qdz u m0 S ((Item.mk (bytesOf o9.2) ([]) false 0 0),(IntKind.wrap .i64 (o9.1 + 1))) a w:=⟨m0,[(Value.string (bs (bytesOf o9.2))),(Value.slice none 0 0),(Value.bool false),(Value.int .i64 0),(Value.int .i64 0)],le_m0,ok.drop.drop,E.d,⟨rv_c (cs:=[(Value.string (bs (bytesOf o9.2))),(Value.slice none 0 0),(Value.bool false),(Value.int .i64 0),(Value.int .i64 0)]) E ok rfl qa7 rfl (qaf.own 1 rfl rfl),rv_t E rfl,trivial⟩,⟨_,rfl,(Nat.le_trans (Nat.le_of_eq qfj) h40.form.2),qbA,(show InR .i64 0 by decide),(show InR .i64 0 by decide)⟩,(InR.wrap _ _)⟩
  obtain rfl:=sj hF
  exact fin _ _ hret
 rintro ⟨at_14,l_15⟩ a w r ⟨c17,M18,ok,E,r16,h19⟩ hF
 replace hF:qd9 N s_0 at_14 l_15 = some r:=hF
 unfold qd9 at hF
 refine wp_seq<|sg<|lv E ok (qaa rfl) fun a E=>lv E ok (qbg rfl rfl) fun a E=>lv E ok (qaa rfl) fun a E=>qas (decide (at_14 ≥ 0)) (fun hc20=>?_) (fun hc20=>?_)
 rotate_left
 ·replace hF:=qah hc20 hF
  replace E:=E.upd 13 hc20 rfl
  refine ls E fun a E=>ls E fun a E=>ls E fun a E=>ls E fun a E=>lv E ok (qam rfl rfl) fun a E=>lv E ok (qaa rfl) fun a E=>ls E fun a E=>ls E fun a E=>?_
  refine ls E fun a E=>ls E fun a E=>lv E ok (qam rfl rfl) fun a E=>wn<|c_if E rfl (fun h=>by cases h) (fun _=>?_)
  refine wp_exit<|qaD ?_
  obtain rfl:=sj hF
  exact qaq (by nofun) (⟨rfl,⟨c17,M18,ok,E.keep [0,1,4,6],r16,h19⟩⟩)
 replace hF:=qai hc20 hF
 replace E:=E.upd 13 hc20 rfl
 refine lv E ok (qaa rfl) fun a E=>lv E ok (qaa rfl) fun a E=>lv E ok (qaX Tryz.underlying9 rfl) fun a E=>lv E ok (qaB rfl rfl) fun a E=>lv E ok (qak rfl rfl) fun a E=>lv E ok (qaa rfl) fun a E=>qas (decide (at_14 < (s_0.length:Int))) (fun hc21=>?_) (fun hc21=>?_)
 rotate_left
 ·replace hF:=qah hc21 hF
  replace E:=E.upd 19 hc21 rfl
  refine ls E fun a E=>ls E fun a E=>ls E fun a E=>ls E fun a E=>lv E ok (qam rfl rfl) fun a E=>wn<|c_if E rfl (fun h=>by cases h) (fun _=>?_)
  refine wp_exit<|qaD ?_
  obtain rfl:=sj hF
  exact qaq (by nofun) (⟨rfl,⟨c17,M18,ok,E.keep [0,1,4,6],r16,h19⟩⟩)
 replace hF:=qai hc21 hF
 replace E:=E.upd 19 hc21 rfl
 refine lv E ok (qaa rfl) fun a E=>lv E ok (qaa rfl) fun a E=>?_
 obtain ⟨c22,e23,hF⟩:=bnd hF
 refine lv E ok (qa3 Tryz.underlying9 rfl rfl e23) fun a E=>lv E ok (qdm rfl rfl) fun a E=>lv E ok (qak rfl rfl) fun a E=>wn<|c_if E rfl (fun hc24=>?_) (fun hc24=>?_)
 rotate_left
 ·replace hF:=qah hc24 hF
  refine wp_exit<|qaD ?_
  obtain rfl:=sj hF
  exact qaq (by nofun) (⟨rfl,⟨c17,M18,ok,E.keep [0,1,4,6],r16,h19⟩⟩)
 replace hF:=qai hc24 hF
 refine wp_skip<|qad<|wp_block<|sg<|lv E ok (qaa rfl) fun a E=>lv E ok (qaa rfl) fun a E=>?_
 obtain ⟨r25,e26,hF⟩:=bnd hF
 refine qaw E qjN rfl (qcQ N s_0 ls_0 at_14 r16 e26 hG ok) rfl rfl ?_
 rintro _ w ⟨⟨rfl,ok⟩,r27,r28⟩
 refine ⟨_,rfl,fun a E=>?_⟩
 refine lv E ok (qaa rfl) fun a E=>lv E ok (qaA rfl rfl) fun a E=>lv E ok (qaA rfl rfl) fun a E=>lv E ok (qab rfl) fun a E=>lv E ok (qab rfl) fun a E=>wn<|qae ?_
 refine lv E ok (qaa rfl) fun a E=>lv E ok (qaa rfl) fun a E=>qbf (R:=(pI .u8)) (xo:=[.tmp 32]) (xs:=([r25.1]:List (Int))) E ok qgI qfB rfl ⟨⟨_,rfl,rfl,(qf0 r27)⟩,trivial⟩ rfl rfl rfl rfl fun c29 M30 a w E ok h31=>?_
 obtain ⟨l32,e33,hF⟩:=bnd hF
 refine qcI (R:=(pI .u8)) E ok 1 (mI .u8) qgI Tryz.underlying86 rfl h19 (qbo.ofRow h31 0 rfl ok) e33 ⟨_,qfB,rfl⟩ rfl rfl rfl rfl fun c34 M35 a w E ok h36=>lv E ok (qaa rfl) fun a E=>lv E ok (qab rfl) fun a E=>lv E ok (qab rfl) fun a E=>wpList_nil<|qar ?_
 obtain rfl:=sj hF
 exact qay ⟨c34,M35,(ok.pk 3 [1,2] rfl (by decide)),E.keep [0,1,4,6],r28,h36⟩
def qbZ (u:World) (m0:Mem) (S:Segs) (r:Item × Int) (a:Act) (w:World):Prop :=
 ∃ m1 v0,m0.le m1 ∧ Ok u m1 S w ∧ a.defers = [] ∧ RVs Tryz.prog a w [.c 4 138 (.agg v0.toArray),.t 5 (.int .i64 r.2)] ∧ qbJ m1 v0 r.1 ∧ InR .i64 r.2
set_option maxHeartbeats 4000000 in
set_option maxRecDepth 100000 in
theorem qf1 {u:World} {m0:Mem} {S:Segs} {w:World} (N:Nat) (s_0:List UInt8) (ls_0:s_0.length ≤ LIMS) (at_1:Int) (rat_1:InR .i64 at_1) {r:Item × Int} (hF:qdG N s_0 at_1 = some r) (hG:Glob u) (ok:Ok u m0 S w) :
  Calls Tryz.prog 89 [Value.string (bs s_0),Value.int .i64 at_1].toArray w fun e w'=>∃ m1 v0,e = .returned (.tuple [(.agg v0.toArray),(.int .i64 r.2)].toArray) ∧ m0.le m1 ∧ Ok u m1 S w' ∧ qbJ m1 v0 r.1 ∧ InR .i64 r.2:=by
 have le_m0:=Mem.le.refl m0
 unfold qdG at hF
 have fin:∀ a w,qbZ u m0 S r a w → bodyPost Tryz.prog Tryz.f89 (fun e w'=>∃ m1 v0,e = .returned (.tuple [(.agg v0.toArray),(.int .i64 r.2)].toArray) ∧ m0.le m1 ∧ Ok u m1 S w' ∧ qbJ m1 v0 r.1 ∧ InR .i64 r.2) .ret a w:=by
  intro a w h
  obtain ⟨m1,v0,hle,ok,hd,hrv,h0,h1⟩:=h
  exact qaK [.c 4 138 (.agg v0.toArray),.t 5 (.int .i64 r.2)] hd rfl hrv ⟨m1,v0,rfl,hle,ok,h0,h1⟩
 refine enter Tryz.func89 rfl rfl rfl fun a E=>sg<|qaZ E ok qbz rfl rfl fun b1 a w E ok=>lv E ok (qab rfl) fun a E=>wn<|wp_seq ?_
 refine qae<|lv E ok (qa6 (ps:=[]) (qs:=[]) (cs:=[(Value.string (bs ([]))),(Value.slice none 0 0),(Value.bool false),(Value.int .i64 0),(Value.int .i64 0)]) qbz qcB rfl trivial rfl) fun a E=>qaZ E ok qbz rfl rfl fun b2 a w E ok=>qat E ok 0 rfl rfl rfl qbu rfl rfl ⟨rfl,rfl,rfl,rfl,rfl,trivial⟩ rfl rfl fun w ok=>wn<|sg ?_
 refine lv E ok (qaa rfl) fun a E=>lv E ok (qaL rfl rfl) fun a E=>lv E ok (qab rfl) fun a E=>wn<|wp_seq<|sg ?_
 refine lv E ok (qaa rfl) fun a E=>lv E ok (qaa rfl) fun a E=>lv E ok (qaX Tryz.underlying9 rfl) fun a E=>lv E ok (qaB rfl rfl) fun a E=>lv E ok (qaa rfl) fun a E=>qas (decide ((IntKind.wrap .i64 (at_1 + 1)) < (s_0.length:Int))) (fun hc3=>?_) (fun hc3=>?_)
 rotate_left
 ·as_aux_lemma =>
   replace hF:=qah hc3 hF
   replace E:=E.upd 17 hc3 rfl
   refine ls E fun a E=>ls E fun a E=>ls E fun a E=>ls E fun a E=>lv E ok (qam rfl rfl) fun a E=>wn<|c_if E rfl (fun h=>by cases h) (fun _=>?_)
   refine wp_skip<|qad<|wp_seq<|wp_block ?_
   obtain ⟨M116,ok,h117⟩:=qdp (e:=157) (k:=2) (R:=qbM) ok
   obtain ⟨o118,hL,hF⟩:=bnd hF
   refine qaR _ (fun (s:Int × Item) a w=>∃ c121 M122,Ok u m0 (M122 :: [(b2,Obj.cells [(Value.string (bs s.2.Text)),c121,(Value.bool s.2.Not),(Value.int .i64 s.2.Least),(Value.int .i64 s.2.Most)].toArray 138 (0,0))] :: [(b1,Obj.cells [(Value.string (bs ([]))),(Value.slice none 0 0),(Value.bool false),(Value.int .i64 0),(Value.int .i64 0)].toArray 138 (0,0))] :: S) w ∧ Env 89 a [(0,(Value.string (bs s_0))),(1,(Value.int .i64 s.1)),(4,(Value.pointer (some ⟨b1,0,none⟩))),(6,(Value.pointer (some ⟨b2,0,none⟩)))] ∧ InR .i64 s.1 ∧ s.2.Text.length ≤ LIMS ∧ ORow 157 2 qbM m0 c121 s.2.Ranges M122 ∧ InR .i64 s.2.Least ∧ InR .i64 s.2.Most) (fun (b:(Item × Int)) e a w=>e = (.exit 0) ∧ ∃ c194 M195,Ok u m0 (M195 :: [(b2,Obj.cells [(Value.string (bs b.1.Text)),c194,(Value.bool b.1.Not),(Value.int .i64 b.1.Least),(Value.int .i64 b.1.Most)].toArray 138 (0,0))] :: [(b1,Obj.cells [(Value.string (bs ([]))),(Value.slice none 0 0),(Value.bool false),(Value.int .i64 0),(Value.int .i64 0)].toArray 138 (0,0))] :: S) w ∧ Env 89 a [(0,(Value.string (bs s_0))),(1,(Value.int .i64 b.2)),(4,(Value.pointer (some ⟨b1,0,none⟩))),(6,(Value.pointer (some ⟨b2,0,none⟩)))] ∧ b.1.Text.length ≤ LIMS ∧ ORow 157 2 qbM m0 c194 b.1.Ranges M195 ∧ InR .i64 b.1.Least ∧ InR .i64 b.1.Most ∧ InR .i64 b.2) ?_ ?_ N _ a w hL ⟨(Value.slice none 0 0),M116,ok,E.keep [0,1,4,6],(InR.wrap _ _),(Nat.zero_le _),h117,(show InR .i64 0 by decide),(show InR .i64 0 by decide)⟩
   rotate_left
   ·intro e a w _ hO
    obtain ⟨rfl,c183,M184,ok,E,l182,h185,r186,r187,r188⟩:=hO
    refine qaT<|qad<|wp_seq<|sg<|lv E ok (qaa rfl) fun a E=>lv E ok (qaB rfl rfl) fun a E=>lv E ok (qaa rfl) fun a E=>?_
    refine qas (decide (o118.2 < 0)) (fun hc189=>?_) (fun hc189=>?_)
    ·replace hF:=qai hc189 hF
     replace E:=E.upd 79 hc189 rfl
     refine ls E fun a E=>ls E fun a E=>ls E fun a E=>ls E fun a E=>lv E ok (qak rfl rfl) fun a E=>wn<|c_if E rfl (fun _=>?_) (fun h=>by cases h)
     refine sg<|lv E ok (qa6 (ps:=[]) (qs:=[]) (cs:=[(Value.string (bs ([]))),(Value.slice none 0 0),(Value.bool false),(Value.int .i64 0),(Value.int .i64 0)]) qbz qcB rfl trivial rfl) fun a E=>qat E ok 2 rfl rfl rfl qbu rfl rfl ⟨rfl,rfl,rfl,rfl,rfl,trivial⟩ rfl rfl fun w ok=>lv E ok (qab rfl) fun a E=>wn<|wp_ret ?_
     refine qan ?_
     have hret:qbZ u m0 S ((Item.mk ([]) ([]) false 0 0),(-1)) a w:=⟨m0,[(Value.string (bs ([]))),(Value.slice none 0 0),(Value.bool false),(Value.int .i64 0),(Value.int .i64 0)],le_m0,ok.drop.drop.drop,E.d,⟨rv_c (cs:=[(Value.string (bs ([]))),(Value.slice none 0 0),(Value.bool false),(Value.int .i64 0),(Value.int .i64 0)]) E ok rfl qa7 rfl (qaf.own 2 rfl rfl),rv_t E rfl,trivial⟩,⟨_,rfl,(Nat.zero_le _),qbA,(show InR .i64 0 by decide),(show InR .i64 0 by decide)⟩,(show InR .i64 (-1) by decide)⟩
     obtain rfl:=sj hF
     exact fin _ _ hret
    replace hF:=qah hc189 hF
    replace E:=E.upd 79 hc189 rfl
    refine lv E ok (qaa rfl) fun a E=>lv E ok (qaa rfl) fun a E=>lv E ok (qaX Tryz.underlying9 rfl) fun a E=>lv E ok (qbg rfl rfl) fun a E=>lv E ok (qam rfl rfl) fun a E=>wn<|c_if E rfl (fun hc190=>?_) (fun hc190=>?_)
    ·replace hF:=qai hc190 hF
     refine sg<|lv E ok (qa6 (ps:=[]) (qs:=[]) (cs:=[(Value.string (bs ([]))),(Value.slice none 0 0),(Value.bool false),(Value.int .i64 0),(Value.int .i64 0)]) qbz qcB rfl trivial rfl) fun a E=>qat E ok 2 rfl rfl rfl qbu rfl rfl ⟨rfl,rfl,rfl,rfl,rfl,trivial⟩ rfl rfl fun w ok=>lv E ok (qab rfl) fun a E=>wn<|wp_ret ?_
     refine qan ?_
     have hret:qbZ u m0 S ((Item.mk ([]) ([]) false 0 0),(-1)) a w:=⟨m0,[(Value.string (bs ([]))),(Value.slice none 0 0),(Value.bool false),(Value.int .i64 0),(Value.int .i64 0)],le_m0,ok.drop.drop.drop,E.d,⟨rv_c (cs:=[(Value.string (bs ([]))),(Value.slice none 0 0),(Value.bool false),(Value.int .i64 0),(Value.int .i64 0)]) E ok rfl qa7 rfl (qaf.own 2 rfl rfl),rv_t E rfl,trivial⟩,⟨_,rfl,(Nat.zero_le _),qbA,(show InR .i64 0 by decide),(show InR .i64 0 by decide)⟩,(show InR .i64 (-1) by decide)⟩
     obtain rfl:=sj hF
     exact fin _ _ hret
    replace hF:=qah hc190 hF
    refine wp_skip<|qad<|sg<|lv E ok (qax (cs:=[(Value.string (bs o118.1.Text)),c183,(Value.bool o118.1.Not),(Value.int .i64 o118.1.Least),(Value.int .i64 o118.1.Most)]) qa7 rfl rfl (qaf.own 1 rfl rfl)) fun a E=>lv E ok (qaa rfl) fun a E=>lv E ok (qaL rfl rfl) fun a E=>qat E ok 2 rfl rfl rfl qbu rfl rfl ⟨rfl,(ORow.one h185),rfl,rfl,rfl,trivial⟩ rfl rfl fun w ok=>?_
    refine lv E ok (qab rfl) fun a E=>wn<|wp_ret ?_
    obtain ⟨m191,hle,ok,hfz⟩:=(ok.frs 0 rfl).freeze
    have h192:=ORow.froz qeh h185 hle hfz (by decide)
    have le_m0:=le_m0.trans hle
    have hret:qbZ u m0 S (o118.1,(IntKind.wrap .i64 (o118.2 + 1))) a w:=⟨m191,[(Value.string (bs o118.1.Text)),c183,(Value.bool o118.1.Not),(Value.int .i64 o118.1.Least),(Value.int .i64 o118.1.Most)],le_m0,ok.drop.drop,E.d,⟨rv_c (cs:=[(Value.string (bs o118.1.Text)),c183,(Value.bool o118.1.Not),(Value.int .i64 o118.1.Least),(Value.int .i64 o118.1.Most)]) E ok rfl qa7 rfl (qaf.own 1 rfl rfl),rv_t E rfl,trivial⟩,⟨_,rfl,l182,h192,r186,r187⟩,(InR.wrap _ _)⟩
    obtain rfl:=sj hF
    exact fin _ _ hret
   rintro ⟨at_126,x_127⟩ a w r ⟨c130,M131,ok,E,r128,l129,h132,r133,r134⟩ hF
   replace hF:qdW N s_0 at_126 x_127 = some r:=hF
   unfold qdW at hF
   refine wp_seq<|sg<|lv E ok (qaa rfl) fun a E=>lv E ok (qbg rfl rfl) fun a E=>lv E ok (qaa rfl) fun a E=>qas (decide (at_126 ≥ 0)) (fun hc135=>?_) (fun hc135=>?_)
   rotate_left
   ·replace hF:=qah hc135 hF
    replace E:=E.upd 28 hc135 rfl
    refine ls E fun a E=>ls E fun a E=>ls E fun a E=>ls E fun a E=>lv E ok (qam rfl rfl) fun a E=>lv E ok (qaa rfl) fun a E=>ls E fun a E=>ls E fun a E=>?_
    refine ls E fun a E=>ls E fun a E=>lv E ok (qam rfl rfl) fun a E=>wn<|c_if E rfl (fun h=>by cases h) (fun _=>?_)
    refine wp_exit<|qaD ?_
    obtain rfl:=sj hF
    exact qaq (by nofun) (⟨rfl,⟨c130,M131,ok,E.keep [0,1,4,6],l129,h132,r133,r134,r128⟩⟩)
   replace hF:=qai hc135 hF
   replace E:=E.upd 28 hc135 rfl
   refine lv E ok (qaa rfl) fun a E=>lv E ok (qaa rfl) fun a E=>lv E ok (qaX Tryz.underlying9 rfl) fun a E=>lv E ok (qaB rfl rfl) fun a E=>lv E ok (qak rfl rfl) fun a E=>lv E ok (qaa rfl) fun a E=>qas (decide (at_126 < (s_0.length:Int))) (fun hc136=>?_) (fun hc136=>?_)
   rotate_left
   ·replace hF:=qah hc136 hF
    replace E:=E.upd 34 hc136 rfl
    refine ls E fun a E=>ls E fun a E=>ls E fun a E=>ls E fun a E=>lv E ok (qam rfl rfl) fun a E=>wn<|c_if E rfl (fun h=>by cases h) (fun _=>?_)
    refine wp_exit<|qaD ?_
    obtain rfl:=sj hF
    exact qaq (by nofun) (⟨rfl,⟨c130,M131,ok,E.keep [0,1,4,6],l129,h132,r133,r134,r128⟩⟩)
   replace hF:=qai hc136 hF
   replace E:=E.upd 34 hc136 rfl
   refine lv E ok (qaa rfl) fun a E=>lv E ok (qaa rfl) fun a E=>?_
   obtain ⟨c137,e138,hF⟩:=bnd hF
   refine lv E ok (qa3 Tryz.underlying9 rfl rfl e138) fun a E=>lv E ok (qdm rfl rfl) fun a E=>lv E ok (qak rfl rfl) fun a E=>wn<|c_if E rfl (fun hc139=>?_) (fun hc139=>?_)
   rotate_left
   ·replace hF:=qah hc139 hF
    refine wp_exit<|qaD ?_
    obtain rfl:=sj hF
    exact qaq (by nofun) (⟨rfl,⟨c130,M131,ok,E.keep [0,1,4,6],l129,h132,r133,r134,r128⟩⟩)
   replace hF:=qai hc139 hF
   refine wp_skip<|qad<|wp_block<|sg<|lv E ok (qaa rfl) fun a E=>lv E ok (qaa rfl) fun a E=>?_
   obtain ⟨r140,e141,hF⟩:=bnd hF
   refine qaw E qjN rfl (qcQ N s_0 ls_0 at_126 r128 e141 hG ok) rfl rfl ?_
   rintro _ w ⟨⟨rfl,ok⟩,r142,r143⟩
   refine ⟨_,rfl,fun a E=>?_⟩
   refine lv E ok (qaa rfl) fun a E=>lv E ok (qaA rfl rfl) fun a E=>lv E ok (qaA rfl rfl) fun a E=>lv E ok (qab rfl) fun a E=>lv E ok (qab rfl) fun a E=>wn<|wp_seq ?_
   refine qae<|lv E ok (qaa rfl) fun a E=>lv E ok (qab rfl) fun a E=>wn<|wp_seq<|sg ?_
   refine lv E ok (qaa rfl) fun a E=>lv E ok (qbg rfl rfl) fun a E=>lv E ok (qaa rfl) fun a E=>qas (decide (r140.2 ≥ 0)) (fun hc144=>?_) (fun hc144=>?_)
   rotate_left
   ·replace hF:=qah hc144 hF
    replace E:=E.upd 49 hc144 rfl
    refine ls E fun a E=>ls E fun a E=>ls E fun a E=>ls E fun a E=>lv E ok (qam rfl rfl) fun a E=>lv E ok (qaa rfl) fun a E=>ls E fun a E=>ls E fun a E=>?_
    refine ls E fun a E=>ls E fun a E=>lv E ok (qam rfl rfl) fun a E=>wn<|c_if E rfl (fun h=>by cases h) (fun _=>?_)
    refine wp_skip<|qad<|qae<|lv E ok (qac qbp rfl) fun a E=>lv E ok (qaj qb2 rfl (qaf.own 1 rfl rfl)) fun a E=>lv E ok (qaa rfl) fun a E=>lv E ok (qaa rfl) fun a E=>lv E ok (qa6 (ps:=[(0,.tmp 70),(1,.tmp 71)]) (qs:=[(0,[(Value.int .u8 r140.1)]),(1,[(Value.int .u8 r140.1)])]) (cs:=[(Value.int .u8 r140.1),(Value.int .u8 r140.1)]) qcq qfX rfl ⟨rfl,rfl,rfl,⟨rfl,rfl,rfl,trivial⟩⟩ rfl) fun a E=>?_
    refine qbf (R:=qbM) (xo:=[.tmp 72]) (xs:=([(Range.mk r140.1 r140.1)]:List (Range))) E ok qbR qcq rfl ⟨⟨_,rfl,rfl,⟨rfl,r142,r142⟩⟩,trivial⟩ rfl rfl rfl rfl fun c174 M175 a w E ok h176=>?_
    obtain ⟨l177,e178,hF⟩:=bnd hF
    refine qcI (R:=qbM) E ok 1 qeh qbR Tryz.underlying136 rfl h132 (qbo.ofRow h176 0 rfl ok) e178 ⟨_,qcq,rfl⟩ rfl rfl rfl rfl fun c179 M180 a w E ok h181=>lv E ok (qaa rfl) fun a E=>lv E ok (qac qbp rfl) fun a E=>qat E ok 2 rfl rfl rfl qhE (ORow.cells h181) rfl ⟨(ORow.one h181),trivial⟩ rfl rfl fun w ok=>lv E ok (qab rfl) fun a E=>wpList_nil<|qar ?_
    obtain rfl:=sj hF
    exact qay ⟨c179,M180,(ok.pk 4 [1,2,3] rfl (by decide)),E.keep [0,1,4,6],r143,l129,h181,r133,r134⟩
   replace hF:=qai hc144 hF
   replace E:=E.upd 49 hc144 rfl
   refine lv E ok (qaa rfl) fun a E=>lv E ok (qaa rfl) fun a E=>lv E ok (qaX Tryz.underlying9 rfl) fun a E=>lv E ok (qaB rfl rfl) fun a E=>lv E ok (qak rfl rfl) fun a E=>lv E ok (qaa rfl) fun a E=>qas (decide (r140.2 < (s_0.length:Int))) (fun hc145=>?_) (fun hc145=>?_)
   rotate_left
   ·replace hF:=qah hc145 hF
    replace E:=E.upd 55 hc145 rfl
    refine ls E fun a E=>ls E fun a E=>ls E fun a E=>ls E fun a E=>lv E ok (qam rfl rfl) fun a E=>wn<|c_if E rfl (fun h=>by cases h) (fun _=>?_)
    refine wp_skip<|qad<|qae<|lv E ok (qac qbp rfl) fun a E=>lv E ok (qaj qb2 rfl (qaf.own 1 rfl rfl)) fun a E=>lv E ok (qaa rfl) fun a E=>lv E ok (qaa rfl) fun a E=>lv E ok (qa6 (ps:=[(0,.tmp 70),(1,.tmp 71)]) (qs:=[(0,[(Value.int .u8 r140.1)]),(1,[(Value.int .u8 r140.1)])]) (cs:=[(Value.int .u8 r140.1),(Value.int .u8 r140.1)]) qcq qfX rfl ⟨rfl,rfl,rfl,⟨rfl,rfl,rfl,trivial⟩⟩ rfl) fun a E=>?_
    refine qbf (R:=qbM) (xo:=[.tmp 72]) (xs:=([(Range.mk r140.1 r140.1)]:List (Range))) E ok qbR qcq rfl ⟨⟨_,rfl,rfl,⟨rfl,r142,r142⟩⟩,trivial⟩ rfl rfl rfl rfl fun c166 M167 a w E ok h168=>?_
    obtain ⟨l169,e170,hF⟩:=bnd hF
    refine qcI (R:=qbM) E ok 1 qeh qbR Tryz.underlying136 rfl h132 (qbo.ofRow h168 0 rfl ok) e170 ⟨_,qcq,rfl⟩ rfl rfl rfl rfl fun c171 M172 a w E ok h173=>lv E ok (qaa rfl) fun a E=>lv E ok (qac qbp rfl) fun a E=>qat E ok 2 rfl rfl rfl qhE (ORow.cells h173) rfl ⟨(ORow.one h173),trivial⟩ rfl rfl fun w ok=>lv E ok (qab rfl) fun a E=>wpList_nil<|qar ?_
    obtain rfl:=sj hF
    exact qay ⟨c171,M172,(ok.pk 4 [1,2,3] rfl (by decide)),E.keep [0,1,4,6],r143,l129,h173,r133,r134⟩
   replace hF:=qai hc145 hF
   replace E:=E.upd 55 hc145 rfl
   refine lv E ok (qaa rfl) fun a E=>lv E ok (qaa rfl) fun a E=>?_
   obtain ⟨c146,e147,hF⟩:=bnd hF
   refine lv E ok (qa3 Tryz.underlying9 rfl rfl e147) fun a E=>lv E ok (qbn rfl rfl) fun a E=>lv E ok (qak rfl rfl) fun a E=>wn ?_
   obtain ⟨o148,hJ,hF⟩:=bnd hF
   refine qbx (Q':=fun e a w=>e = .normal ∧ Ok u m0 (M131 :: [(b2,Obj.cells [(Value.string (bs x_127.Text)),c130,(Value.bool x_127.Not),(Value.int .i64 x_127.Least),(Value.int .i64 x_127.Most)].toArray 138 (0,0))] :: [(b1,Obj.cells [(Value.string (bs ([]))),(Value.slice none 0 0),(Value.bool false),(Value.int .i64 0),(Value.int .i64 0)].toArray 138 (0,0))] :: S) w ∧ Env 89 a [(0,(Value.string (bs s_0))),(4,(Value.pointer (some ⟨b1,0,none⟩))),(6,(Value.pointer (some ⟨b2,0,none⟩))),(7,(Value.int .u8 r140.1)),(8,(Value.int .i64 o148.1)),(9,(Value.int .u8 o148.2))] ∧ InR .i64 o148.1 ∧ InR .u8 o148.2) ?_ ?_
   rotate_left
   ·clear hJ
    intro e a w hO
    obtain ⟨rfl,ok,E,r156,r157⟩:=hO
    refine qad<|qae<|lv E ok (qac qbp rfl) fun a E=>lv E ok (qaj qb2 rfl (qaf.own 1 rfl rfl)) fun a E=>lv E ok (qaa rfl) fun a E=>lv E ok (qaa rfl) fun a E=>lv E ok (qa6 (ps:=[(0,.tmp 70),(1,.tmp 71)]) (qs:=[(0,[(Value.int .u8 r140.1)]),(1,[(Value.int .u8 o148.2)])]) (cs:=[(Value.int .u8 r140.1),(Value.int .u8 o148.2)]) qcq qfX rfl ⟨rfl,rfl,rfl,⟨rfl,rfl,rfl,trivial⟩⟩ rfl) fun a E=>qbf (R:=qbM) (xo:=[.tmp 72]) (xs:=([(Range.mk r140.1 o148.2)]:List (Range))) E ok qbR qcq rfl ⟨⟨_,rfl,rfl,⟨rfl,r142,r157⟩⟩,trivial⟩ rfl rfl rfl rfl fun c158 M159 a w E ok h160=>?_
    obtain ⟨l161,e162,hF⟩:=bnd hF
    refine qcI (R:=qbM) E ok 1 qeh qbR Tryz.underlying136 rfl h132 (qbo.ofRow h160 0 rfl ok) e162 ⟨_,qcq,rfl⟩ rfl rfl rfl rfl fun c163 M164 a w E ok h165=>lv E ok (qaa rfl) fun a E=>lv E ok (qac qbp rfl) fun a E=>qat E ok 2 rfl rfl rfl qhE (ORow.cells h165) rfl ⟨(ORow.one h165),trivial⟩ rfl rfl fun w ok=>lv E ok (qab rfl) fun a E=>wpList_nil<|qar ?_
    obtain rfl:=sj hF
    exact qay ⟨c163,M164,(ok.pk 4 [1,2,3] rfl (by decide)),E.keep [0,1,4,6],r156,l129,h165,r133,r134⟩
   replace hF:=hJ
   clear hJ
   refine c_if E rfl (fun hc151=>?_) (fun hc151=>?_)
   rotate_left
   ·replace hF:=qah hc151 hF
    refine wp_skip ?_
    obtain rfl:=sj hF
    exact ⟨rfl,⟨ok,E.keep [0,4,6,7,8,9],r143,r142⟩⟩
   replace hF:=qai hc151 hF
   refine qae<|lv E ok (qaa rfl) fun a E=>lv E ok (qaa rfl) fun a E=>lv E ok (qaC rfl rfl (InR.inc r143 (InR.len ls_0) hc145)) fun a E=>?_
   obtain ⟨r152,e153,hF⟩:=bnd hF
   refine qaw E qjN rfl (qcQ N s_0 ls_0 (r140.2 + 1) (InR.inc r143 (InR.len ls_0) hc145) e153 hG ok) rfl rfl ?_
   rintro _ w ⟨⟨rfl,ok⟩,r154,r155⟩
   refine ⟨_,rfl,fun a E=>?_⟩
   refine lv E ok (qaa rfl) fun a E=>lv E ok (qaA rfl rfl) fun a E=>lv E ok (qaA rfl rfl) fun a E=>lv E ok (qab rfl) fun a E=>lv E ok (qab rfl) fun a E=>wpList_nil ?_
   obtain rfl:=sj hF
   exact ⟨rfl,⟨ok,E.keep [0,4,6,7,8,9],r155,r154⟩⟩
 replace hF:=qai hc3 hF
 replace E:=E.upd 17 hc3 rfl
 refine lv E ok (qaa rfl) fun a E=>lv E ok (qaa rfl) fun a E=>?_
 obtain ⟨c4,e5,hF⟩:=bnd hF
 refine lv E ok (qa3 Tryz.underlying9 rfl rfl e5) fun a E=>lv E ok (qbn rfl rfl) fun a E=>lv E ok (qak rfl rfl) fun a E=>wn ?_
 obtain ⟨o6,hJ,hF⟩:=bnd hF
 refine qbx (Q':=fun e a w=>e = .normal ∧ Ok u m0 ([(b2,Obj.cells [(Value.string (bs o6.2.Text)),(Value.slice none 0 0),(Value.bool o6.2.Not),(Value.int .i64 o6.2.Least),(Value.int .i64 o6.2.Most)].toArray 138 (0,0))] :: [(b1,Obj.cells [(Value.string (bs ([]))),(Value.slice none 0 0),(Value.bool false),(Value.int .i64 0),(Value.int .i64 0)].toArray 138 (0,0))] :: S) w ∧ Env 89 a [(0,(Value.string (bs s_0))),(1,(Value.int .i64 o6.1)),(4,(Value.pointer (some ⟨b1,0,none⟩))),(6,(Value.pointer (some ⟨b2,0,none⟩)))] ∧ InR .i64 o6.1 ∧ o6.2.Text.length ≤ LIMS ∧ InR .i64 o6.2.Least ∧ InR .i64 o6.2.Most) ?_ ?_
 ·replace hF:=hJ
  clear hJ
  refine c_if E rfl (fun hc11=>?_) (fun hc11=>?_)
  rotate_left
  ·replace hF:=qah hc11 hF
   refine wp_skip ?_
   obtain rfl:=sj hF
   exact ⟨rfl,⟨ok,E.keep [0,1,4,6],(InR.wrap _ _),(Nat.zero_le _),(show InR .i64 0 by decide),(show InR .i64 0 by decide)⟩⟩
  replace hF:=qai hc11 hF
  refine sg<|lv E ok (qac qh1 rfl) fun a E=>qat E ok 0 rfl rfl rfl qos rfl rfl ⟨rfl,trivial⟩ rfl rfl fun w ok=>wn<|qae<|lv E ok (qaa rfl) fun a E=>?_
  refine lv E ok (qaC rfl rfl (InR.inc (InR.wrap _ _) (InR.len ls_0) hc3)) fun a E=>lv E ok (qab rfl) fun a E=>wpList_nil ?_
  obtain rfl:=sj hF
  exact ⟨rfl,⟨ok,E.keep [0,1,4,6],(InR.inc (InR.wrap _ _) (InR.len ls_0) hc3),(Nat.zero_le _),(show InR .i64 0 by decide),(show InR .i64 0 by decide)⟩⟩
 clear hJ
 intro e a w hO
 obtain ⟨rfl,ok,E,r12,l13,r14,r15⟩:=hO
 refine qad<|wp_seq<|wp_block ?_
 obtain ⟨M24,ok,h25⟩:=qdp (e:=157) (k:=2) (R:=qbM) ok
 obtain ⟨o26,hL,hF⟩:=bnd hF
 refine qaR _ (fun (s:Int × Item) a w=>∃ c29 M30,Ok u m0 (M30 :: [(b2,Obj.cells [(Value.string (bs s.2.Text)),c29,(Value.bool s.2.Not),(Value.int .i64 s.2.Least),(Value.int .i64 s.2.Most)].toArray 138 (0,0))] :: [(b1,Obj.cells [(Value.string (bs ([]))),(Value.slice none 0 0),(Value.bool false),(Value.int .i64 0),(Value.int .i64 0)].toArray 138 (0,0))] :: S) w ∧ Env 89 a [(0,(Value.string (bs s_0))),(1,(Value.int .i64 s.1)),(4,(Value.pointer (some ⟨b1,0,none⟩))),(6,(Value.pointer (some ⟨b2,0,none⟩)))] ∧ InR .i64 s.1 ∧ s.2.Text.length ≤ LIMS ∧ ORow 157 2 qbM m0 c29 s.2.Ranges M30 ∧ InR .i64 s.2.Least ∧ InR .i64 s.2.Most) (fun (b:(Item × Int)) e a w=>e = (.exit 0) ∧ ∃ c102 M103,Ok u m0 (M103 :: [(b2,Obj.cells [(Value.string (bs b.1.Text)),c102,(Value.bool b.1.Not),(Value.int .i64 b.1.Least),(Value.int .i64 b.1.Most)].toArray 138 (0,0))] :: [(b1,Obj.cells [(Value.string (bs ([]))),(Value.slice none 0 0),(Value.bool false),(Value.int .i64 0),(Value.int .i64 0)].toArray 138 (0,0))] :: S) w ∧ Env 89 a [(0,(Value.string (bs s_0))),(1,(Value.int .i64 b.2)),(4,(Value.pointer (some ⟨b1,0,none⟩))),(6,(Value.pointer (some ⟨b2,0,none⟩)))] ∧ b.1.Text.length ≤ LIMS ∧ ORow 157 2 qbM m0 c102 b.1.Ranges M103 ∧ InR .i64 b.1.Least ∧ InR .i64 b.1.Most ∧ InR .i64 b.2) ?_ ?_ N _ a w hL ⟨(Value.slice none 0 0),M24,ok,E.keep [0,1,4,6],r12,l13,h25,r14,r15⟩
 rotate_left
 ·intro e a w _ hO
  obtain ⟨rfl,c91,M92,ok,E,l90,h93,r94,r95,r96⟩:=hO
  refine qaT<|qad<|wp_seq<|sg<|lv E ok (qaa rfl) fun a E=>lv E ok (qaB rfl rfl) fun a E=>lv E ok (qaa rfl) fun a E=>?_
  refine qas (decide (o26.2 < 0)) (fun hc97=>?_) (fun hc97=>?_)
  ·replace hF:=qai hc97 hF
   replace E:=E.upd 79 hc97 rfl
   refine ls E fun a E=>ls E fun a E=>ls E fun a E=>ls E fun a E=>lv E ok (qak rfl rfl) fun a E=>wn<|c_if E rfl (fun _=>?_) (fun h=>by cases h)
   refine sg<|lv E ok (qa6 (ps:=[]) (qs:=[]) (cs:=[(Value.string (bs ([]))),(Value.slice none 0 0),(Value.bool false),(Value.int .i64 0),(Value.int .i64 0)]) qbz qcB rfl trivial rfl) fun a E=>qat E ok 2 rfl rfl rfl qbu rfl rfl ⟨rfl,rfl,rfl,rfl,rfl,trivial⟩ rfl rfl fun w ok=>lv E ok (qab rfl) fun a E=>wn<|wp_ret ?_
   refine qan ?_
   have hret:qbZ u m0 S ((Item.mk ([]) ([]) false 0 0),(-1)) a w:=⟨m0,[(Value.string (bs ([]))),(Value.slice none 0 0),(Value.bool false),(Value.int .i64 0),(Value.int .i64 0)],le_m0,ok.drop.drop.drop,E.d,⟨rv_c (cs:=[(Value.string (bs ([]))),(Value.slice none 0 0),(Value.bool false),(Value.int .i64 0),(Value.int .i64 0)]) E ok rfl qa7 rfl (qaf.own 2 rfl rfl),rv_t E rfl,trivial⟩,⟨_,rfl,(Nat.zero_le _),qbA,(show InR .i64 0 by decide),(show InR .i64 0 by decide)⟩,(show InR .i64 (-1) by decide)⟩
   obtain rfl:=sj hF
   exact fin _ _ hret
  replace hF:=qah hc97 hF
  replace E:=E.upd 79 hc97 rfl
  refine lv E ok (qaa rfl) fun a E=>lv E ok (qaa rfl) fun a E=>lv E ok (qaX Tryz.underlying9 rfl) fun a E=>lv E ok (qbg rfl rfl) fun a E=>lv E ok (qam rfl rfl) fun a E=>wn<|c_if E rfl (fun hc98=>?_) (fun hc98=>?_)
  ·replace hF:=qai hc98 hF
   refine sg<|lv E ok (qa6 (ps:=[]) (qs:=[]) (cs:=[(Value.string (bs ([]))),(Value.slice none 0 0),(Value.bool false),(Value.int .i64 0),(Value.int .i64 0)]) qbz qcB rfl trivial rfl) fun a E=>qat E ok 2 rfl rfl rfl qbu rfl rfl ⟨rfl,rfl,rfl,rfl,rfl,trivial⟩ rfl rfl fun w ok=>lv E ok (qab rfl) fun a E=>wn<|wp_ret ?_
   refine qan ?_
   have hret:qbZ u m0 S ((Item.mk ([]) ([]) false 0 0),(-1)) a w:=⟨m0,[(Value.string (bs ([]))),(Value.slice none 0 0),(Value.bool false),(Value.int .i64 0),(Value.int .i64 0)],le_m0,ok.drop.drop.drop,E.d,⟨rv_c (cs:=[(Value.string (bs ([]))),(Value.slice none 0 0),(Value.bool false),(Value.int .i64 0),(Value.int .i64 0)]) E ok rfl qa7 rfl (qaf.own 2 rfl rfl),rv_t E rfl,trivial⟩,⟨_,rfl,(Nat.zero_le _),qbA,(show InR .i64 0 by decide),(show InR .i64 0 by decide)⟩,(show InR .i64 (-1) by decide)⟩
   obtain rfl:=sj hF
   exact fin _ _ hret
  replace hF:=qah hc98 hF
  refine wp_skip<|qad<|sg<|lv E ok (qax (cs:=[(Value.string (bs o26.1.Text)),c91,(Value.bool o26.1.Not),(Value.int .i64 o26.1.Least),(Value.int .i64 o26.1.Most)]) qa7 rfl rfl (qaf.own 1 rfl rfl)) fun a E=>lv E ok (qaa rfl) fun a E=>lv E ok (qaL rfl rfl) fun a E=>qat E ok 2 rfl rfl rfl qbu rfl rfl ⟨rfl,(ORow.one h93),rfl,rfl,rfl,trivial⟩ rfl rfl fun w ok=>?_
  refine lv E ok (qab rfl) fun a E=>wn<|wp_ret ?_
  obtain ⟨m99,hle,ok,hfz⟩:=(ok.frs 0 rfl).freeze
  have h100:=ORow.froz qeh h93 hle hfz (by decide)
  have le_m0:=le_m0.trans hle
  have hret:qbZ u m0 S (o26.1,(IntKind.wrap .i64 (o26.2 + 1))) a w:=⟨m99,[(Value.string (bs o26.1.Text)),c91,(Value.bool o26.1.Not),(Value.int .i64 o26.1.Least),(Value.int .i64 o26.1.Most)],le_m0,ok.drop.drop,E.d,⟨rv_c (cs:=[(Value.string (bs o26.1.Text)),c91,(Value.bool o26.1.Not),(Value.int .i64 o26.1.Least),(Value.int .i64 o26.1.Most)]) E ok rfl qa7 rfl (qaf.own 1 rfl rfl),rv_t E rfl,trivial⟩,⟨_,rfl,l90,h100,r94,r95⟩,(InR.wrap _ _)⟩
  obtain rfl:=sj hF
  exact fin _ _ hret
 rintro ⟨at_34,x_35⟩ a w r ⟨c38,M39,ok,E,r36,l37,h40,r41,r42⟩ hF
 replace hF:qd1 N s_0 at_34 x_35 = some r:=hF
 unfold qd1 at hF
 refine wp_seq<|sg<|lv E ok (qaa rfl) fun a E=>lv E ok (qbg rfl rfl) fun a E=>lv E ok (qaa rfl) fun a E=>qas (decide (at_34 ≥ 0)) (fun hc43=>?_) (fun hc43=>?_)
 rotate_left
 ·replace hF:=qah hc43 hF
  replace E:=E.upd 28 hc43 rfl
  refine ls E fun a E=>ls E fun a E=>ls E fun a E=>ls E fun a E=>lv E ok (qam rfl rfl) fun a E=>lv E ok (qaa rfl) fun a E=>ls E fun a E=>ls E fun a E=>?_
  refine ls E fun a E=>ls E fun a E=>lv E ok (qam rfl rfl) fun a E=>wn<|c_if E rfl (fun h=>by cases h) (fun _=>?_)
  refine wp_exit<|qaD ?_
  obtain rfl:=sj hF
  exact qaq (by nofun) (⟨rfl,⟨c38,M39,ok,E.keep [0,1,4,6],l37,h40,r41,r42,r36⟩⟩)
 replace hF:=qai hc43 hF
 replace E:=E.upd 28 hc43 rfl
 refine lv E ok (qaa rfl) fun a E=>lv E ok (qaa rfl) fun a E=>lv E ok (qaX Tryz.underlying9 rfl) fun a E=>lv E ok (qaB rfl rfl) fun a E=>lv E ok (qak rfl rfl) fun a E=>lv E ok (qaa rfl) fun a E=>qas (decide (at_34 < (s_0.length:Int))) (fun hc44=>?_) (fun hc44=>?_)
 rotate_left
 ·replace hF:=qah hc44 hF
  replace E:=E.upd 34 hc44 rfl
  refine ls E fun a E=>ls E fun a E=>ls E fun a E=>ls E fun a E=>lv E ok (qam rfl rfl) fun a E=>wn<|c_if E rfl (fun h=>by cases h) (fun _=>?_)
  refine wp_exit<|qaD ?_
  obtain rfl:=sj hF
  exact qaq (by nofun) (⟨rfl,⟨c38,M39,ok,E.keep [0,1,4,6],l37,h40,r41,r42,r36⟩⟩)
 replace hF:=qai hc44 hF
 replace E:=E.upd 34 hc44 rfl
 refine lv E ok (qaa rfl) fun a E=>lv E ok (qaa rfl) fun a E=>?_
 obtain ⟨c45,e46,hF⟩:=bnd hF
 refine lv E ok (qa3 Tryz.underlying9 rfl rfl e46) fun a E=>lv E ok (qdm rfl rfl) fun a E=>lv E ok (qak rfl rfl) fun a E=>wn<|c_if E rfl (fun hc47=>?_) (fun hc47=>?_)
 rotate_left
 ·replace hF:=qah hc47 hF
  refine wp_exit<|qaD ?_
  obtain rfl:=sj hF
  exact qaq (by nofun) (⟨rfl,⟨c38,M39,ok,E.keep [0,1,4,6],l37,h40,r41,r42,r36⟩⟩)
 replace hF:=qai hc47 hF
 refine wp_skip<|qad<|wp_block<|sg<|lv E ok (qaa rfl) fun a E=>lv E ok (qaa rfl) fun a E=>?_
 obtain ⟨r48,e49,hF⟩:=bnd hF
 refine qaw E qjN rfl (qcQ N s_0 ls_0 at_34 r36 e49 hG ok) rfl rfl ?_
 rintro _ w ⟨⟨rfl,ok⟩,r50,r51⟩
 refine ⟨_,rfl,fun a E=>?_⟩
 refine lv E ok (qaa rfl) fun a E=>lv E ok (qaA rfl rfl) fun a E=>lv E ok (qaA rfl rfl) fun a E=>lv E ok (qab rfl) fun a E=>lv E ok (qab rfl) fun a E=>wn<|wp_seq ?_
 refine qae<|lv E ok (qaa rfl) fun a E=>lv E ok (qab rfl) fun a E=>wn<|wp_seq<|sg ?_
 refine lv E ok (qaa rfl) fun a E=>lv E ok (qbg rfl rfl) fun a E=>lv E ok (qaa rfl) fun a E=>qas (decide (r48.2 ≥ 0)) (fun hc52=>?_) (fun hc52=>?_)
 rotate_left
 ·replace hF:=qah hc52 hF
  replace E:=E.upd 49 hc52 rfl
  refine ls E fun a E=>ls E fun a E=>ls E fun a E=>ls E fun a E=>lv E ok (qam rfl rfl) fun a E=>lv E ok (qaa rfl) fun a E=>ls E fun a E=>ls E fun a E=>?_
  refine ls E fun a E=>ls E fun a E=>lv E ok (qam rfl rfl) fun a E=>wn<|c_if E rfl (fun h=>by cases h) (fun _=>?_)
  refine wp_skip<|qad<|qae<|lv E ok (qac qbp rfl) fun a E=>lv E ok (qaj qb2 rfl (qaf.own 1 rfl rfl)) fun a E=>lv E ok (qaa rfl) fun a E=>lv E ok (qaa rfl) fun a E=>lv E ok (qa6 (ps:=[(0,.tmp 70),(1,.tmp 71)]) (qs:=[(0,[(Value.int .u8 r48.1)]),(1,[(Value.int .u8 r48.1)])]) (cs:=[(Value.int .u8 r48.1),(Value.int .u8 r48.1)]) qcq qfX rfl ⟨rfl,rfl,rfl,⟨rfl,rfl,rfl,trivial⟩⟩ rfl) fun a E=>?_
  refine qbf (R:=qbM) (xo:=[.tmp 72]) (xs:=([(Range.mk r48.1 r48.1)]:List (Range))) E ok qbR qcq rfl ⟨⟨_,rfl,rfl,⟨rfl,r50,r50⟩⟩,trivial⟩ rfl rfl rfl rfl fun c82 M83 a w E ok h84=>?_
  obtain ⟨l85,e86,hF⟩:=bnd hF
  refine qcI (R:=qbM) E ok 1 qeh qbR Tryz.underlying136 rfl h40 (qbo.ofRow h84 0 rfl ok) e86 ⟨_,qcq,rfl⟩ rfl rfl rfl rfl fun c87 M88 a w E ok h89=>lv E ok (qaa rfl) fun a E=>lv E ok (qac qbp rfl) fun a E=>qat E ok 2 rfl rfl rfl qhE (ORow.cells h89) rfl ⟨(ORow.one h89),trivial⟩ rfl rfl fun w ok=>lv E ok (qab rfl) fun a E=>wpList_nil<|qar ?_
  obtain rfl:=sj hF
  exact qay ⟨c87,M88,(ok.pk 4 [1,2,3] rfl (by decide)),E.keep [0,1,4,6],r51,l37,h89,r41,r42⟩
 replace hF:=qai hc52 hF
 replace E:=E.upd 49 hc52 rfl
 refine lv E ok (qaa rfl) fun a E=>lv E ok (qaa rfl) fun a E=>lv E ok (qaX Tryz.underlying9 rfl) fun a E=>lv E ok (qaB rfl rfl) fun a E=>lv E ok (qak rfl rfl) fun a E=>lv E ok (qaa rfl) fun a E=>qas (decide (r48.2 < (s_0.length:Int))) (fun hc53=>?_) (fun hc53=>?_)
 rotate_left
 ·replace hF:=qah hc53 hF
  replace E:=E.upd 55 hc53 rfl
  refine ls E fun a E=>ls E fun a E=>ls E fun a E=>ls E fun a E=>lv E ok (qam rfl rfl) fun a E=>wn<|c_if E rfl (fun h=>by cases h) (fun _=>?_)
  refine wp_skip<|qad<|qae<|lv E ok (qac qbp rfl) fun a E=>lv E ok (qaj qb2 rfl (qaf.own 1 rfl rfl)) fun a E=>lv E ok (qaa rfl) fun a E=>lv E ok (qaa rfl) fun a E=>lv E ok (qa6 (ps:=[(0,.tmp 70),(1,.tmp 71)]) (qs:=[(0,[(Value.int .u8 r48.1)]),(1,[(Value.int .u8 r48.1)])]) (cs:=[(Value.int .u8 r48.1),(Value.int .u8 r48.1)]) qcq qfX rfl ⟨rfl,rfl,rfl,⟨rfl,rfl,rfl,trivial⟩⟩ rfl) fun a E=>?_
  refine qbf (R:=qbM) (xo:=[.tmp 72]) (xs:=([(Range.mk r48.1 r48.1)]:List (Range))) E ok qbR qcq rfl ⟨⟨_,rfl,rfl,⟨rfl,r50,r50⟩⟩,trivial⟩ rfl rfl rfl rfl fun c74 M75 a w E ok h76=>?_
  obtain ⟨l77,e78,hF⟩:=bnd hF
  refine qcI (R:=qbM) E ok 1 qeh qbR Tryz.underlying136 rfl h40 (qbo.ofRow h76 0 rfl ok) e78 ⟨_,qcq,rfl⟩ rfl rfl rfl rfl fun c79 M80 a w E ok h81=>lv E ok (qaa rfl) fun a E=>lv E ok (qac qbp rfl) fun a E=>qat E ok 2 rfl rfl rfl qhE (ORow.cells h81) rfl ⟨(ORow.one h81),trivial⟩ rfl rfl fun w ok=>lv E ok (qab rfl) fun a E=>wpList_nil<|qar ?_
  obtain rfl:=sj hF
  exact qay ⟨c79,M80,(ok.pk 4 [1,2,3] rfl (by decide)),E.keep [0,1,4,6],r51,l37,h81,r41,r42⟩
 replace hF:=qai hc53 hF
 replace E:=E.upd 55 hc53 rfl
 refine lv E ok (qaa rfl) fun a E=>lv E ok (qaa rfl) fun a E=>?_
 obtain ⟨c54,e55,hF⟩:=bnd hF
 refine lv E ok (qa3 Tryz.underlying9 rfl rfl e55) fun a E=>lv E ok (qbn rfl rfl) fun a E=>lv E ok (qak rfl rfl) fun a E=>wn ?_
 obtain ⟨o56,hJ,hF⟩:=bnd hF
 refine qbx (Q':=fun e a w=>e = .normal ∧ Ok u m0 (M39 :: [(b2,Obj.cells [(Value.string (bs x_35.Text)),c38,(Value.bool x_35.Not),(Value.int .i64 x_35.Least),(Value.int .i64 x_35.Most)].toArray 138 (0,0))] :: [(b1,Obj.cells [(Value.string (bs ([]))),(Value.slice none 0 0),(Value.bool false),(Value.int .i64 0),(Value.int .i64 0)].toArray 138 (0,0))] :: S) w ∧ Env 89 a [(0,(Value.string (bs s_0))),(4,(Value.pointer (some ⟨b1,0,none⟩))),(6,(Value.pointer (some ⟨b2,0,none⟩))),(7,(Value.int .u8 r48.1)),(8,(Value.int .i64 o56.1)),(9,(Value.int .u8 o56.2))] ∧ InR .i64 o56.1 ∧ InR .u8 o56.2) ?_ ?_
 rotate_left
 ·clear hJ
  intro e a w hO
  obtain ⟨rfl,ok,E,r64,r65⟩:=hO
  refine qad<|qae<|lv E ok (qac qbp rfl) fun a E=>lv E ok (qaj qb2 rfl (qaf.own 1 rfl rfl)) fun a E=>lv E ok (qaa rfl) fun a E=>lv E ok (qaa rfl) fun a E=>lv E ok (qa6 (ps:=[(0,.tmp 70),(1,.tmp 71)]) (qs:=[(0,[(Value.int .u8 r48.1)]),(1,[(Value.int .u8 o56.2)])]) (cs:=[(Value.int .u8 r48.1),(Value.int .u8 o56.2)]) qcq qfX rfl ⟨rfl,rfl,rfl,⟨rfl,rfl,rfl,trivial⟩⟩ rfl) fun a E=>qbf (R:=qbM) (xo:=[.tmp 72]) (xs:=([(Range.mk r48.1 o56.2)]:List (Range))) E ok qbR qcq rfl ⟨⟨_,rfl,rfl,⟨rfl,r50,r65⟩⟩,trivial⟩ rfl rfl rfl rfl fun c66 M67 a w E ok h68=>?_
  obtain ⟨l69,e70,hF⟩:=bnd hF
  refine qcI (R:=qbM) E ok 1 qeh qbR Tryz.underlying136 rfl h40 (qbo.ofRow h68 0 rfl ok) e70 ⟨_,qcq,rfl⟩ rfl rfl rfl rfl fun c71 M72 a w E ok h73=>lv E ok (qaa rfl) fun a E=>lv E ok (qac qbp rfl) fun a E=>qat E ok 2 rfl rfl rfl qhE (ORow.cells h73) rfl ⟨(ORow.one h73),trivial⟩ rfl rfl fun w ok=>lv E ok (qab rfl) fun a E=>wpList_nil<|qar ?_
  obtain rfl:=sj hF
  exact qay ⟨c71,M72,(ok.pk 4 [1,2,3] rfl (by decide)),E.keep [0,1,4,6],r64,l37,h73,r41,r42⟩
 replace hF:=hJ
 clear hJ
 refine c_if E rfl (fun hc59=>?_) (fun hc59=>?_)
 rotate_left
 ·replace hF:=qah hc59 hF
  refine wp_skip ?_
  obtain rfl:=sj hF
  exact ⟨rfl,⟨ok,E.keep [0,4,6,7,8,9],r51,r50⟩⟩
 replace hF:=qai hc59 hF
 refine qae<|lv E ok (qaa rfl) fun a E=>lv E ok (qaa rfl) fun a E=>lv E ok (qaC rfl rfl (InR.inc r51 (InR.len ls_0) hc53)) fun a E=>?_
 obtain ⟨r60,e61,hF⟩:=bnd hF
 refine qaw E qjN rfl (qcQ N s_0 ls_0 (r48.2 + 1) (InR.inc r51 (InR.len ls_0) hc53) e61 hG ok) rfl rfl ?_
 rintro _ w ⟨⟨rfl,ok⟩,r62,r63⟩
 refine ⟨_,rfl,fun a E=>?_⟩
 refine lv E ok (qaa rfl) fun a E=>lv E ok (qaA rfl rfl) fun a E=>lv E ok (qaA rfl rfl) fun a E=>lv E ok (qab rfl) fun a E=>lv E ok (qab rfl) fun a E=>wpList_nil ?_
 obtain rfl:=sj hF
 exact ⟨rfl,⟨ok,E.keep [0,4,6,7,8,9],r63,r62⟩⟩
def qaU (u:World) (m0:Mem) (S:Segs) (r:Item × Int) (a:Act) (w:World):Prop :=
 ∃ m1 v0,m0.le m1 ∧ Ok u m1 S w ∧ a.defers = [] ∧ RVs Tryz.prog a w [.c 4 138 (.agg v0.toArray),.t 5 (.int .i64 r.2)] ∧ qbJ m1 v0 r.1 ∧ InR .i64 r.2
set_option maxHeartbeats 4000000 in
set_option maxRecDepth 100000 in
theorem qev {u:World} {m0:Mem} {S:Segs} {w:World} (N:Nat) (s_0:List UInt8) (ls_0:s_0.length ≤ LIMS) (at_1:Int) (rat_1:InR .i64 at_1) {r:Item × Int} (hF:qc4 N s_0 at_1 = some r) (hG:Glob u) (ok:Ok u m0 S w) :
  Calls Tryz.prog 68 [Value.string (bs s_0),Value.int .i64 at_1].toArray w fun e w'=>∃ m1 v0,e = .returned (.tuple [(.agg v0.toArray),(.int .i64 r.2)].toArray) ∧ m0.le m1 ∧ Ok u m1 S w' ∧ qbJ m1 v0 r.1 ∧ InR .i64 r.2:=by
 have le_m0:=Mem.le.refl m0
 unfold qc4 at hF
 have fin:∀ a w,qaU u m0 S r a w → bodyPost Tryz.prog Tryz.f68 (fun e w'=>∃ m1 v0,e = .returned (.tuple [(.agg v0.toArray),(.int .i64 r.2)].toArray) ∧ m0.le m1 ∧ Ok u m1 S w' ∧ qbJ m1 v0 r.1 ∧ InR .i64 r.2) .ret a w:=by
  intro a w h
  obtain ⟨m1,v0,hle,ok,hd,hrv,h0,h1⟩:=h
  exact qaK [.c 4 138 (.agg v0.toArray),.t 5 (.int .i64 r.2)] hd rfl hrv ⟨m1,v0,rfl,hle,ok,h0,h1⟩
 refine enter Tryz.func68 rfl rfl rfl fun a E=>sg<|qaZ E ok qbz rfl rfl fun b1 a w E ok=>lv E ok (qab rfl) fun a E=>wn<|wp_seq ?_
 refine qae<|lv E ok (qa6 (ps:=[]) (qs:=[]) (cs:=[(Value.string (bs ([]))),(Value.slice none 0 0),(Value.bool false),(Value.int .i64 0),(Value.int .i64 0)]) qbz qcB rfl trivial rfl) fun a E=>qaZ E ok qbz rfl rfl fun b2 a w E ok=>qat E ok 0 rfl rfl rfl qbu rfl rfl ⟨rfl,rfl,rfl,rfl,rfl,trivial⟩ rfl rfl fun w ok=>wn<|wp_seq<|wp_block ?_
 refine sg<|lv E ok (qaa rfl) fun a E=>lv E ok (qaa rfl) fun a E=>lv E ok (qaX Tryz.underlying9 rfl) fun a E=>lv E ok (qaB rfl rfl) fun a E=>lv E ok (qaa rfl) fun a E=>qas (decide (at_1 < (s_0.length:Int))) (fun hc3=>?_) (fun hc3=>?_)
 rotate_left
 ·as_aux_lemma =>
   replace hF:=qah hc3 hF
   replace E:=E.upd 14 hc3 rfl
   refine ls E fun a E=>ls E fun a E=>ls E fun a E=>ls E fun a E=>lv E ok (qam rfl rfl) fun a E=>lv E ok (qab rfl) fun a E=>wn ?_
   refine c_if E rfl (fun h=>by cases h) (fun _=>?_)
   refine sg<|lv E ok (qaa rfl) fun a E=>lv E ok (qaa rfl) fun a E=>lv E ok (qaX Tryz.underlying9 rfl) fun a E=>lv E ok (qaB rfl rfl) fun a E=>lv E ok (qaa rfl) fun a E=>qas (decide (at_1 < (s_0.length:Int))) (fun hc57=>?_) (fun hc57=>?_)
   rotate_left
   ·replace hF:=qah hc57 hF
    replace E:=E.upd 31 hc57 rfl
    refine ls E fun a E=>ls E fun a E=>ls E fun a E=>ls E fun a E=>lv E ok (qam rfl rfl) fun a E=>lv E ok (qab rfl) fun a E=>wn ?_
    refine c_if E rfl (fun h=>by cases h) (fun _=>?_)
    refine sg<|lv E ok (qa6 (ps:=[]) (qs:=[]) (cs:=[(Value.string (bs ([]))),(Value.slice none 0 0),(Value.bool false),(Value.int .i64 0),(Value.int .i64 0)]) qbz qcB rfl trivial rfl) fun a E=>qat E ok 1 rfl rfl rfl qbu rfl rfl ⟨rfl,rfl,rfl,rfl,rfl,trivial⟩ rfl rfl fun w ok=>lv E ok (qab rfl) fun a E=>wn<|wp_ret ?_
    refine qap<|qan ?_
    have hret:qaU u m0 S ((Item.mk ([]) ([]) false 0 0),(-1)) a w:=⟨m0,[(Value.string (bs ([]))),(Value.slice none 0 0),(Value.bool false),(Value.int .i64 0),(Value.int .i64 0)],le_m0,ok.drop.drop,E.d,⟨rv_c (cs:=[(Value.string (bs ([]))),(Value.slice none 0 0),(Value.bool false),(Value.int .i64 0),(Value.int .i64 0)]) E ok rfl qa7 rfl (qaf.own 1 rfl rfl),rv_t E rfl,trivial⟩,⟨_,rfl,(Nat.zero_le _),qbA,(show InR .i64 0 by decide),(show InR .i64 0 by decide)⟩,(show InR .i64 (-1) by decide)⟩
    obtain rfl:=sj hF
    exact fin _ _ hret
   replace hF:=qai hc57 hF
   replace E:=E.upd 31 hc57 rfl
   refine lv E ok (qaa rfl) fun a E=>lv E ok (qaa rfl) fun a E=>?_
   obtain ⟨c58,e59,hF⟩:=bnd hF
   refine lv E ok (qa3 Tryz.underlying9 rfl rfl e59) fun a E=>lv E ok (qbn rfl rfl) fun a E=>lv E ok (qak rfl rfl) fun a E=>lv E ok (qab rfl) fun a E=>wn<|c_if E rfl (fun hc60=>?_) (fun hc60=>?_)
   rotate_left
   ·replace hF:=qah hc60 hF
    refine sg<|lv E ok (qa6 (ps:=[]) (qs:=[]) (cs:=[(Value.string (bs ([]))),(Value.slice none 0 0),(Value.bool false),(Value.int .i64 0),(Value.int .i64 0)]) qbz qcB rfl trivial rfl) fun a E=>qat E ok 1 rfl rfl rfl qbu rfl rfl ⟨rfl,rfl,rfl,rfl,rfl,trivial⟩ rfl rfl fun w ok=>lv E ok (qab rfl) fun a E=>wn<|wp_ret ?_
    refine qap<|qan ?_
    have hret:qaU u m0 S ((Item.mk ([]) ([]) false 0 0),(-1)) a w:=⟨m0,[(Value.string (bs ([]))),(Value.slice none 0 0),(Value.bool false),(Value.int .i64 0),(Value.int .i64 0)],le_m0,ok.drop.drop,E.d,⟨rv_c (cs:=[(Value.string (bs ([]))),(Value.slice none 0 0),(Value.bool false),(Value.int .i64 0),(Value.int .i64 0)]) E ok rfl qa7 rfl (qaf.own 1 rfl rfl),rv_t E rfl,trivial⟩,⟨_,rfl,(Nat.zero_le _),qbA,(show InR .i64 0 by decide),(show InR .i64 0 by decide)⟩,(show InR .i64 (-1) by decide)⟩
    obtain rfl:=sj hF
    exact fin _ _ hret
   replace hF:=qai hc60 hF
   refine qae<|lv E ok (qaa rfl) fun a E=>lv E ok (qaa rfl) fun a E=>?_
   obtain ⟨r61,e62,hF⟩:=bnd hF
   refine qaw E qoy rfl (qf1 N s_0 ls_0 at_1 rat_1 e62 hG ok) rfl rfl ?_
   rintro _ w ⟨m63,vs64,rfl,hle,ok,h65,r66⟩
   have le_m0:=le_m0.trans hle
   obtain ⟨c68,rfl,l67,h69,r70,r71⟩:=h65
   refine ⟨_,rfl,fun a E=>?_⟩
   refine lv E ok (qaa rfl) fun a E=>lv E ok (qaA rfl rfl) fun a E=>lv E ok (qaA rfl rfl) fun a E=>qat E ok 0 rfl rfl rfl qbu rfl rfl ⟨rfl,(qbB h69),rfl,rfl,rfl,trivial⟩ rfl rfl fun w ok=>lv E ok (qab rfl) fun a E=>wpList_nil<|qar<|qad ?_
   refine sg<|lv E ok (qac qdI rfl) fun a E=>qat E ok 0 rfl rfl rfl qd2 rfl rfl ⟨rfl,trivial⟩ rfl rfl fun w ok=>lv E ok (qac qdJ rfl) fun a E=>qat E ok 0 rfl rfl rfl qd2 rfl rfl ⟨rfl,trivial⟩ rfl rfl fun w ok=>wn ?_
   refine wp_seq<|sg<|lv E ok (qaa rfl) fun a E=>lv E ok (qbg rfl rfl) fun a E=>lv E ok (qaa rfl) fun a E=>qas (decide (r61.2 ≥ 0)) (fun hc72=>?_) (fun hc72=>?_)
   rotate_left
   ·replace hF:=qah hc72 hF
    replace E:=E.upd 47 hc72 rfl
    refine ls E fun a E=>ls E fun a E=>ls E fun a E=>ls E fun a E=>lv E ok (qam rfl rfl) fun a E=>wn<|c_if E rfl (fun h=>by cases h) (fun _=>?_)
    refine wp_skip<|qad<|sg<|lv E ok (qax (cs:=[(Value.string (bs r61.1.Text)),c68,(Value.bool r61.1.Not),(Value.int .i64 1),(Value.int .i64 1)]) qa7 rfl rfl (qaf.own 0 rfl rfl)) fun a E=>lv E ok (qaa rfl) fun a E=>qat E ok 1 rfl rfl rfl qbu rfl rfl ⟨rfl,(qbB h69),rfl,rfl,rfl,trivial⟩ rfl rfl fun w ok=>lv E ok (qab rfl) fun a E=>?_
    refine wn<|wp_ret ?_
    have hret:qaU u m0 S ((Item.mk r61.1.Text r61.1.Ranges r61.1.Not 1 1),r61.2) a w:=⟨m63,[(Value.string (bs r61.1.Text)),c68,(Value.bool r61.1.Not),(Value.int .i64 1),(Value.int .i64 1)],le_m0,ok.drop.drop,E.d,⟨rv_c (cs:=[(Value.string (bs r61.1.Text)),c68,(Value.bool r61.1.Not),(Value.int .i64 1),(Value.int .i64 1)]) E ok rfl qa7 rfl (qaf.own 1 rfl rfl),rv_t E rfl,trivial⟩,⟨_,rfl,l67,h69,(show InR .i64 (1) by decide),(show InR .i64 (1) by decide)⟩,r66⟩
    obtain rfl:=sj hF
    exact fin _ _ hret
   replace hF:=qai hc72 hF
   replace E:=E.upd 47 hc72 rfl
   refine lv E ok (qaa rfl) fun a E=>lv E ok (qaa rfl) fun a E=>lv E ok (qaX Tryz.underlying9 rfl) fun a E=>lv E ok (qaB rfl rfl) fun a E=>lv E ok (qak rfl rfl) fun a E=>wn<|c_if E rfl (fun hc73=>?_) (fun hc73=>?_)
   rotate_left
   ·replace hF:=qah hc73 hF
    refine wp_skip<|qad<|sg<|lv E ok (qax (cs:=[(Value.string (bs r61.1.Text)),c68,(Value.bool r61.1.Not),(Value.int .i64 1),(Value.int .i64 1)]) qa7 rfl rfl (qaf.own 0 rfl rfl)) fun a E=>lv E ok (qaa rfl) fun a E=>qat E ok 1 rfl rfl rfl qbu rfl rfl ⟨rfl,(qbB h69),rfl,rfl,rfl,trivial⟩ rfl rfl fun w ok=>lv E ok (qab rfl) fun a E=>?_
    refine wn<|wp_ret ?_
    have hret:qaU u m0 S ((Item.mk r61.1.Text r61.1.Ranges r61.1.Not 1 1),r61.2) a w:=⟨m63,[(Value.string (bs r61.1.Text)),c68,(Value.bool r61.1.Not),(Value.int .i64 1),(Value.int .i64 1)],le_m0,ok.drop.drop,E.d,⟨rv_c (cs:=[(Value.string (bs r61.1.Text)),c68,(Value.bool r61.1.Not),(Value.int .i64 1),(Value.int .i64 1)]) E ok rfl qa7 rfl (qaf.own 1 rfl rfl),rv_t E rfl,trivial⟩,⟨_,rfl,l67,h69,(show InR .i64 (1) by decide),(show InR .i64 (1) by decide)⟩,r66⟩
    obtain rfl:=sj hF
    exact fin _ _ hret
   replace hF:=qai hc73 hF
   refine sg<|lv E ok (qaa rfl) fun a E=>lv E ok (qaa rfl) fun a E=>?_
   obtain ⟨c74,e75,hF⟩:=bnd hF
   refine lv E ok (qa3 Tryz.underlying9 rfl rfl e75) fun a E=>wn<|wp_block<|sg<|lv E ok (qbn rfl rfl) fun a E=>lv E ok (qab rfl) fun a E=>?_
   refine wn<|c_if E rfl (fun hc76=>?_) (fun hc76=>?_)
   ·replace hF:=qai hc76 hF
    refine qae<|lv E ok (qaa rfl) fun a E=>lv E ok (qaC rfl rfl (InR.inc r66 (InR.len ls_0) hc73)) fun a E=>lv E ok (qac qdI rfl) fun a E=>qat E ok 0 rfl rfl rfl qd2 rfl rfl ⟨rfl,trivial⟩ rfl rfl fun w ok=>lv E ok (qab rfl) fun a E=>wpList_nil<|qar ?_
    refine qad<|sg<|lv E ok (qax (cs:=[(Value.string (bs r61.1.Text)),c68,(Value.bool r61.1.Not),(Value.int .i64 0),(Value.int .i64 1)]) qa7 rfl rfl (qaf.own 0 rfl rfl)) fun a E=>lv E ok (qaa rfl) fun a E=>qat E ok 1 rfl rfl rfl qbu rfl rfl ⟨rfl,(qbB h69),rfl,rfl,rfl,trivial⟩ rfl rfl fun w ok=>lv E ok (qab rfl) fun a E=>wpList_nil ?_
    refine qad<|wp_ret ?_
    have hret:qaU u m0 S ((Item.mk r61.1.Text r61.1.Ranges r61.1.Not 0 1),(r61.2 + 1)) a w:=⟨m63,[(Value.string (bs r61.1.Text)),c68,(Value.bool r61.1.Not),(Value.int .i64 0),(Value.int .i64 1)],le_m0,ok.drop.drop,E.d,⟨rv_c (cs:=[(Value.string (bs r61.1.Text)),c68,(Value.bool r61.1.Not),(Value.int .i64 0),(Value.int .i64 1)]) E ok rfl qa7 rfl (qaf.own 1 rfl rfl),rv_t E rfl,trivial⟩,⟨_,rfl,l67,h69,(show InR .i64 (0) by decide),(show InR .i64 (1) by decide)⟩,(InR.inc r66 (InR.len ls_0) hc73)⟩
    obtain rfl:=sj hF
    exact fin _ _ hret
   replace hF:=qah hc76 hF
   refine sg<|lv E ok (qbn rfl rfl) fun a E=>lv E ok (qab rfl) fun a E=>wn<|c_if E rfl (fun hc77=>?_) (fun hc77=>?_)
   ·replace hF:=qai hc77 hF
    refine qae<|lv E ok (qaa rfl) fun a E=>lv E ok (qaC rfl rfl (InR.inc r66 (InR.len ls_0) hc73)) fun a E=>lv E ok (qac qdI rfl) fun a E=>qat E ok 0 rfl rfl rfl qd2 rfl rfl ⟨rfl,trivial⟩ rfl rfl fun w ok=>lv E ok (qac qdJ rfl) fun a E=>qat E ok 0 rfl rfl rfl qd2 rfl rfl ⟨rfl,trivial⟩ rfl rfl fun w ok=>lv E ok (qab rfl) fun a E=>?_
    refine wpList_nil<|qar<|qad<|sg<|lv E ok (qax (cs:=[(Value.string (bs r61.1.Text)),c68,(Value.bool r61.1.Not),(Value.int .i64 0),(Value.int .i64 (-1))]) qa7 rfl rfl (qaf.own 0 rfl rfl)) fun a E=>lv E ok (qaa rfl) fun a E=>qat E ok 1 rfl rfl rfl qbu rfl rfl ⟨rfl,(qbB h69),rfl,rfl,rfl,trivial⟩ rfl rfl fun w ok=>?_
    refine lv E ok (qab rfl) fun a E=>wn<|wp_ret ?_
    have hret:qaU u m0 S ((Item.mk r61.1.Text r61.1.Ranges r61.1.Not 0 (-1)),(r61.2 + 1)) a w:=⟨m63,[(Value.string (bs r61.1.Text)),c68,(Value.bool r61.1.Not),(Value.int .i64 0),(Value.int .i64 (-1))],le_m0,ok.drop.drop,E.d,⟨rv_c (cs:=[(Value.string (bs r61.1.Text)),c68,(Value.bool r61.1.Not),(Value.int .i64 0),(Value.int .i64 (-1))]) E ok rfl qa7 rfl (qaf.own 1 rfl rfl),rv_t E rfl,trivial⟩,⟨_,rfl,l67,h69,(show InR .i64 (0) by decide),(show InR .i64 (-1) by decide)⟩,(InR.inc r66 (InR.len ls_0) hc73)⟩
    obtain rfl:=sj hF
    exact fin _ _ hret
   replace hF:=qah hc77 hF
   refine sg<|lv E ok (qbn rfl rfl) fun a E=>lv E ok (qab rfl) fun a E=>wn<|c_if E rfl (fun hc78=>?_) (fun hc78=>?_)
   rotate_left
   ·replace hF:=qah hc78 hF
    refine wp_skip<|qar<|qad<|sg<|lv E ok (qax (cs:=[(Value.string (bs r61.1.Text)),c68,(Value.bool r61.1.Not),(Value.int .i64 1),(Value.int .i64 1)]) qa7 rfl rfl (qaf.own 0 rfl rfl)) fun a E=>lv E ok (qaa rfl) fun a E=>qat E ok 1 rfl rfl rfl qbu rfl rfl ⟨rfl,(qbB h69),rfl,rfl,rfl,trivial⟩ rfl rfl fun w ok=>?_
    refine lv E ok (qab rfl) fun a E=>wn<|wp_ret ?_
    have hret:qaU u m0 S ((Item.mk r61.1.Text r61.1.Ranges r61.1.Not 1 1),r61.2) a w:=⟨m63,[(Value.string (bs r61.1.Text)),c68,(Value.bool r61.1.Not),(Value.int .i64 1),(Value.int .i64 1)],le_m0,ok.drop.drop,E.d,⟨rv_c (cs:=[(Value.string (bs r61.1.Text)),c68,(Value.bool r61.1.Not),(Value.int .i64 1),(Value.int .i64 1)]) E ok rfl qa7 rfl (qaf.own 1 rfl rfl),rv_t E rfl,trivial⟩,⟨_,rfl,l67,h69,(show InR .i64 (1) by decide),(show InR .i64 (1) by decide)⟩,r66⟩
    obtain rfl:=sj hF
    exact fin _ _ hret
   replace hF:=qai hc78 hF
   refine qae<|lv E ok (qaa rfl) fun a E=>lv E ok (qaC rfl rfl (InR.inc r66 (InR.len ls_0) hc73)) fun a E=>lv E ok (qac qdJ rfl) fun a E=>qat E ok 0 rfl rfl rfl qd2 rfl rfl ⟨rfl,trivial⟩ rfl rfl fun w ok=>lv E ok (qab rfl) fun a E=>wpList_nil<|qar ?_
   refine qad<|sg<|lv E ok (qax (cs:=[(Value.string (bs r61.1.Text)),c68,(Value.bool r61.1.Not),(Value.int .i64 1),(Value.int .i64 (-1))]) qa7 rfl rfl (qaf.own 0 rfl rfl)) fun a E=>lv E ok (qaa rfl) fun a E=>qat E ok 1 rfl rfl rfl qbu rfl rfl ⟨rfl,(qbB h69),rfl,rfl,rfl,trivial⟩ rfl rfl fun w ok=>lv E ok (qab rfl) fun a E=>wpList_nil ?_
   refine qad<|wp_ret ?_
   have hret:qaU u m0 S ((Item.mk r61.1.Text r61.1.Ranges r61.1.Not 1 (-1)),(r61.2 + 1)) a w:=⟨m63,[(Value.string (bs r61.1.Text)),c68,(Value.bool r61.1.Not),(Value.int .i64 1),(Value.int .i64 (-1))],le_m0,ok.drop.drop,E.d,⟨rv_c (cs:=[(Value.string (bs r61.1.Text)),c68,(Value.bool r61.1.Not),(Value.int .i64 1),(Value.int .i64 (-1))]) E ok rfl qa7 rfl (qaf.own 1 rfl rfl),rv_t E rfl,trivial⟩,⟨_,rfl,l67,h69,(show InR .i64 (1) by decide),(show InR .i64 (-1) by decide)⟩,(InR.inc r66 (InR.len ls_0) hc73)⟩
   obtain rfl:=sj hF
   exact fin _ _ hret
 replace hF:=qai hc3 hF
 replace E:=E.upd 14 hc3 rfl
 refine lv E ok (qaa rfl) fun a E=>lv E ok (qaa rfl) fun a E=>?_
 obtain ⟨c4,e5,hF⟩:=bnd hF
 refine lv E ok (qa3 Tryz.underlying9 rfl rfl e5) fun a E=>lv E ok (qbn rfl rfl) fun a E=>lv E ok (qak rfl rfl) fun a E=>lv E ok (qab rfl) fun a E=>wn ?_
 obtain ⟨o6,hJ,hF⟩:=bnd hF
 refine qbx (Q':=fun e a w=>(Sum.elim (fun b7=>e = .normal ∧ ∃ m8 c11,m0.le m8 ∧ Ok u m8 ([(b2,Obj.cells [(Value.string (bs b7.2.Text)),c11,(Value.bool b7.2.Not),(Value.int .i64 b7.2.Least),(Value.int .i64 b7.2.Most)].toArray 138 (0,0))] :: [(b1,Obj.cells [(Value.string (bs ([]))),(Value.slice none 0 0),(Value.bool false),(Value.int .i64 0),(Value.int .i64 0)].toArray 138 (0,0))] :: S) w ∧ Env 74 a [(0,(Value.string (bs s_0))),(1,(Value.int .i64 b7.1)),(4,(Value.pointer (some ⟨b1,0,none⟩))),(6,(Value.pointer (some ⟨b2,0,none⟩)))] ∧ InR .i64 b7.1 ∧ b7.2.Text.length ≤ LIMS ∧ (pL 2 qbM) m8 [c11] b7.2.Ranges ∧ InR .i64 b7.2.Least ∧ InR .i64 b7.2.Most) (fun b15=>e = .ret ∧ qaU u m0 S b15 a w)) o6) ?_ ?_
 ·as_aux_lemma =>
   replace hF:=hJ
   clear hJ
   refine c_if E rfl (fun hc16=>?_) (fun hc16=>?_)
   ·replace hF:=qai hc16 hF
    refine qae<|lv E ok (qaa rfl) fun a E=>lv E ok (qaa rfl) fun a E=>?_
    obtain ⟨r17,e18,hF⟩:=bnd hF
    refine qaw E qp7 rfl (qim N s_0 ls_0 at_1 rat_1 e18 hG ok) rfl rfl ?_
    rintro _ w ⟨m19,vs20,rfl,hle,ok,h21,r22⟩
    have le_m0:=le_m0.trans hle
    obtain ⟨c24,rfl,l23,h25,r26,r27⟩:=h21
    refine ⟨_,rfl,fun a E=>?_⟩
    refine lv E ok (qaa rfl) fun a E=>lv E ok (qaA rfl rfl) fun a E=>lv E ok (qaA rfl rfl) fun a E=>qat E ok 0 rfl rfl rfl qbu rfl rfl ⟨rfl,(qbB h25),rfl,rfl,rfl,trivial⟩ rfl rfl fun w ok=>lv E ok (qab rfl) fun a E=>wpList_nil ?_
    obtain rfl:=sj hF
    exact (sl ⟨rfl,⟨m19,c24,le_m0,ok,E.keep [0,1,4,6],r22,l23,h25,r26,r27⟩⟩)
   replace hF:=qah hc16 hF
   refine sg<|lv E ok (qaa rfl) fun a E=>lv E ok (qaa rfl) fun a E=>lv E ok (qaX Tryz.underlying9 rfl) fun a E=>lv E ok (qaB rfl rfl) fun a E=>lv E ok (qaa rfl) fun a E=>qas (decide (at_1 < (s_0.length:Int))) (fun hc28=>?_) (fun hc28=>?_)
   rotate_left
   ·replace hF:=qah hc28 hF
    replace E:=E.upd 31 hc28 rfl
    refine ls E fun a E=>ls E fun a E=>ls E fun a E=>ls E fun a E=>lv E ok (qam rfl rfl) fun a E=>lv E ok (qab rfl) fun a E=>wn ?_
    refine c_if E rfl (fun h=>by cases h) (fun _=>?_)
    refine sg<|lv E ok (qa6 (ps:=[]) (qs:=[]) (cs:=[(Value.string (bs ([]))),(Value.slice none 0 0),(Value.bool false),(Value.int .i64 0),(Value.int .i64 0)]) qbz qcB rfl trivial rfl) fun a E=>qat E ok 1 rfl rfl rfl qbu rfl rfl ⟨rfl,rfl,rfl,rfl,rfl,trivial⟩ rfl rfl fun w ok=>lv E ok (qab rfl) fun a E=>wn<|wp_ret ?_
    have hret:qaU u m0 S ((Item.mk ([]) ([]) false 0 0),(-1)) a w:=⟨m0,[(Value.string (bs ([]))),(Value.slice none 0 0),(Value.bool false),(Value.int .i64 0),(Value.int .i64 0)],le_m0,ok.drop.drop,E.d,⟨rv_c (cs:=[(Value.string (bs ([]))),(Value.slice none 0 0),(Value.bool false),(Value.int .i64 0),(Value.int .i64 0)]) E ok rfl qa7 rfl (qaf.own 1 rfl rfl),rv_t E rfl,trivial⟩,⟨_,rfl,(Nat.zero_le _),qbA,(show InR .i64 0 by decide),(show InR .i64 0 by decide)⟩,(show InR .i64 (-1) by decide)⟩
    obtain rfl:=sj hF
    exact (sr ⟨rfl,hret⟩)
   replace hF:=qai hc28 hF
   replace E:=E.upd 31 hc28 rfl
   refine lv E ok (qaa rfl) fun a E=>lv E ok (qaa rfl) fun a E=>?_
   obtain ⟨c29,e30,hF⟩:=bnd hF
   refine lv E ok (qa3 Tryz.underlying9 rfl rfl e30) fun a E=>lv E ok (qbn rfl rfl) fun a E=>lv E ok (qak rfl rfl) fun a E=>lv E ok (qab rfl) fun a E=>wn<|c_if E rfl (fun hc31=>?_) (fun hc31=>?_)
   rotate_left
   ·replace hF:=qah hc31 hF
    refine sg<|lv E ok (qa6 (ps:=[]) (qs:=[]) (cs:=[(Value.string (bs ([]))),(Value.slice none 0 0),(Value.bool false),(Value.int .i64 0),(Value.int .i64 0)]) qbz qcB rfl trivial rfl) fun a E=>qat E ok 1 rfl rfl rfl qbu rfl rfl ⟨rfl,rfl,rfl,rfl,rfl,trivial⟩ rfl rfl fun w ok=>lv E ok (qab rfl) fun a E=>wn<|wp_ret ?_
    have hret:qaU u m0 S ((Item.mk ([]) ([]) false 0 0),(-1)) a w:=⟨m0,[(Value.string (bs ([]))),(Value.slice none 0 0),(Value.bool false),(Value.int .i64 0),(Value.int .i64 0)],le_m0,ok.drop.drop,E.d,⟨rv_c (cs:=[(Value.string (bs ([]))),(Value.slice none 0 0),(Value.bool false),(Value.int .i64 0),(Value.int .i64 0)]) E ok rfl qa7 rfl (qaf.own 1 rfl rfl),rv_t E rfl,trivial⟩,⟨_,rfl,(Nat.zero_le _),qbA,(show InR .i64 0 by decide),(show InR .i64 0 by decide)⟩,(show InR .i64 (-1) by decide)⟩
    obtain rfl:=sj hF
    exact (sr ⟨rfl,hret⟩)
   replace hF:=qai hc31 hF
   refine qae<|lv E ok (qaa rfl) fun a E=>lv E ok (qaa rfl) fun a E=>?_
   obtain ⟨r32,e33,hF⟩:=bnd hF
   refine qaw E qoy rfl (qf1 N s_0 ls_0 at_1 rat_1 e33 hG ok) rfl rfl ?_
   rintro _ w ⟨m34,vs35,rfl,hle,ok,h36,r37⟩
   have le_m0:=le_m0.trans hle
   obtain ⟨c39,rfl,l38,h40,r41,r42⟩:=h36
   refine ⟨_,rfl,fun a E=>?_⟩
   refine lv E ok (qaa rfl) fun a E=>lv E ok (qaA rfl rfl) fun a E=>lv E ok (qaA rfl rfl) fun a E=>qat E ok 0 rfl rfl rfl qbu rfl rfl ⟨rfl,(qbB h40),rfl,rfl,rfl,trivial⟩ rfl rfl fun w ok=>lv E ok (qab rfl) fun a E=>wpList_nil ?_
   obtain rfl:=sj hF
   exact (sl ⟨rfl,⟨m34,c39,le_m0,ok,E.keep [0,1,4,6],r37,l38,h40,r41,r42⟩⟩)
 clear hJ
 intro e a w hO
 rcases o6 with o6 | o6
 rotate_left
 ·replace hF:=qba hF
  obtain ⟨rfl,hret⟩:=hO
  refine qap<|qan ?_
  obtain rfl:=sj hF
  exact fin _ _ hret
 replace hF:=qa9 hF
 obtain ⟨rfl,m43,c46,hle,ok,E,r44,l45,h47,r48,r49⟩:=hO
 have le_m0:=le_m0.trans hle
 refine qar<|qad<|sg<|lv E ok (qac qdI rfl) fun a E=>qat E ok 0 rfl rfl rfl qd2 rfl rfl ⟨rfl,trivial⟩ rfl rfl fun w ok=>lv E ok (qac qdJ rfl) fun a E=>qat E ok 0 rfl rfl rfl qd2 rfl rfl ⟨rfl,trivial⟩ rfl rfl fun w ok=>?_
 refine wn<|wp_seq<|sg<|lv E ok (qaa rfl) fun a E=>lv E ok (qbg rfl rfl) fun a E=>lv E ok (qaa rfl) fun a E=>?_
 refine qas (decide (o6.1 ≥ 0)) (fun hc50=>?_) (fun hc50=>?_)
 rotate_left
 ·replace hF:=qah hc50 hF
  replace E:=E.upd 47 hc50 rfl
  refine ls E fun a E=>ls E fun a E=>ls E fun a E=>ls E fun a E=>lv E ok (qam rfl rfl) fun a E=>wn<|c_if E rfl (fun h=>by cases h) (fun _=>?_)
  refine wp_skip<|qad<|sg<|lv E ok (qax (cs:=[(Value.string (bs o6.2.Text)),c46,(Value.bool o6.2.Not),(Value.int .i64 1),(Value.int .i64 1)]) qa7 rfl rfl (qaf.own 0 rfl rfl)) fun a E=>lv E ok (qaa rfl) fun a E=>qat E ok 1 rfl rfl rfl qbu rfl rfl ⟨rfl,(qbB h47),rfl,rfl,rfl,trivial⟩ rfl rfl fun w ok=>lv E ok (qab rfl) fun a E=>?_
  refine wn<|wp_ret ?_
  have hret:qaU u m0 S ((Item.mk o6.2.Text o6.2.Ranges o6.2.Not 1 1),o6.1) a w:=⟨m43,[(Value.string (bs o6.2.Text)),c46,(Value.bool o6.2.Not),(Value.int .i64 1),(Value.int .i64 1)],le_m0,ok.drop.drop,E.d,⟨rv_c (cs:=[(Value.string (bs o6.2.Text)),c46,(Value.bool o6.2.Not),(Value.int .i64 1),(Value.int .i64 1)]) E ok rfl qa7 rfl (qaf.own 1 rfl rfl),rv_t E rfl,trivial⟩,⟨_,rfl,l45,h47,(show InR .i64 (1) by decide),(show InR .i64 (1) by decide)⟩,r44⟩
  obtain rfl:=sj hF
  exact fin _ _ hret
 replace hF:=qai hc50 hF
 replace E:=E.upd 47 hc50 rfl
 refine lv E ok (qaa rfl) fun a E=>lv E ok (qaa rfl) fun a E=>lv E ok (qaX Tryz.underlying9 rfl) fun a E=>lv E ok (qaB rfl rfl) fun a E=>lv E ok (qak rfl rfl) fun a E=>wn<|c_if E rfl (fun hc51=>?_) (fun hc51=>?_)
 rotate_left
 ·replace hF:=qah hc51 hF
  refine wp_skip<|qad<|sg<|lv E ok (qax (cs:=[(Value.string (bs o6.2.Text)),c46,(Value.bool o6.2.Not),(Value.int .i64 1),(Value.int .i64 1)]) qa7 rfl rfl (qaf.own 0 rfl rfl)) fun a E=>lv E ok (qaa rfl) fun a E=>qat E ok 1 rfl rfl rfl qbu rfl rfl ⟨rfl,(qbB h47),rfl,rfl,rfl,trivial⟩ rfl rfl fun w ok=>lv E ok (qab rfl) fun a E=>?_
  refine wn<|wp_ret ?_
  have hret:qaU u m0 S ((Item.mk o6.2.Text o6.2.Ranges o6.2.Not 1 1),o6.1) a w:=⟨m43,[(Value.string (bs o6.2.Text)),c46,(Value.bool o6.2.Not),(Value.int .i64 1),(Value.int .i64 1)],le_m0,ok.drop.drop,E.d,⟨rv_c (cs:=[(Value.string (bs o6.2.Text)),c46,(Value.bool o6.2.Not),(Value.int .i64 1),(Value.int .i64 1)]) E ok rfl qa7 rfl (qaf.own 1 rfl rfl),rv_t E rfl,trivial⟩,⟨_,rfl,l45,h47,(show InR .i64 (1) by decide),(show InR .i64 (1) by decide)⟩,r44⟩
  obtain rfl:=sj hF
  exact fin _ _ hret
 replace hF:=qai hc51 hF
 refine sg<|lv E ok (qaa rfl) fun a E=>lv E ok (qaa rfl) fun a E=>?_
 obtain ⟨c52,e53,hF⟩:=bnd hF
 refine lv E ok (qa3 Tryz.underlying9 rfl rfl e53) fun a E=>wn<|wp_block<|sg<|lv E ok (qbn rfl rfl) fun a E=>lv E ok (qab rfl) fun a E=>?_
 refine wn<|c_if E rfl (fun hc54=>?_) (fun hc54=>?_)
 ·replace hF:=qai hc54 hF
  refine qae<|lv E ok (qaa rfl) fun a E=>lv E ok (qaC rfl rfl (InR.inc r44 (InR.len ls_0) hc51)) fun a E=>lv E ok (qac qdI rfl) fun a E=>qat E ok 0 rfl rfl rfl qd2 rfl rfl ⟨rfl,trivial⟩ rfl rfl fun w ok=>lv E ok (qab rfl) fun a E=>wpList_nil<|qar ?_
  refine qad<|sg<|lv E ok (qax (cs:=[(Value.string (bs o6.2.Text)),c46,(Value.bool o6.2.Not),(Value.int .i64 0),(Value.int .i64 1)]) qa7 rfl rfl (qaf.own 0 rfl rfl)) fun a E=>lv E ok (qaa rfl) fun a E=>qat E ok 1 rfl rfl rfl qbu rfl rfl ⟨rfl,(qbB h47),rfl,rfl,rfl,trivial⟩ rfl rfl fun w ok=>lv E ok (qab rfl) fun a E=>wpList_nil ?_
  refine qad<|wp_ret ?_
  have hret:qaU u m0 S ((Item.mk o6.2.Text o6.2.Ranges o6.2.Not 0 1),(o6.1 + 1)) a w:=⟨m43,[(Value.string (bs o6.2.Text)),c46,(Value.bool o6.2.Not),(Value.int .i64 0),(Value.int .i64 1)],le_m0,ok.drop.drop,E.d,⟨rv_c (cs:=[(Value.string (bs o6.2.Text)),c46,(Value.bool o6.2.Not),(Value.int .i64 0),(Value.int .i64 1)]) E ok rfl qa7 rfl (qaf.own 1 rfl rfl),rv_t E rfl,trivial⟩,⟨_,rfl,l45,h47,(show InR .i64 (0) by decide),(show InR .i64 (1) by decide)⟩,(InR.inc r44 (InR.len ls_0) hc51)⟩
  obtain rfl:=sj hF
  exact fin _ _ hret
 replace hF:=qah hc54 hF
 refine sg<|lv E ok (qbn rfl rfl) fun a E=>lv E ok (qab rfl) fun a E=>wn<|c_if E rfl (fun hc55=>?_) (fun hc55=>?_)
 ·replace hF:=qai hc55 hF
  refine qae<|lv E ok (qaa rfl) fun a E=>lv E ok (qaC rfl rfl (InR.inc r44 (InR.len ls_0) hc51)) fun a E=>lv E ok (qac qdI rfl) fun a E=>qat E ok 0 rfl rfl rfl qd2 rfl rfl ⟨rfl,trivial⟩ rfl rfl fun w ok=>lv E ok (qac qdJ rfl) fun a E=>qat E ok 0 rfl rfl rfl qd2 rfl rfl ⟨rfl,trivial⟩ rfl rfl fun w ok=>lv E ok (qab rfl) fun a E=>?_
  refine wpList_nil<|qar<|qad<|sg<|lv E ok (qax (cs:=[(Value.string (bs o6.2.Text)),c46,(Value.bool o6.2.Not),(Value.int .i64 0),(Value.int .i64 (-1))]) qa7 rfl rfl (qaf.own 0 rfl rfl)) fun a E=>lv E ok (qaa rfl) fun a E=>qat E ok 1 rfl rfl rfl qbu rfl rfl ⟨rfl,(qbB h47),rfl,rfl,rfl,trivial⟩ rfl rfl fun w ok=>?_
  refine lv E ok (qab rfl) fun a E=>wn<|wp_ret ?_
  have hret:qaU u m0 S ((Item.mk o6.2.Text o6.2.Ranges o6.2.Not 0 (-1)),(o6.1 + 1)) a w:=⟨m43,[(Value.string (bs o6.2.Text)),c46,(Value.bool o6.2.Not),(Value.int .i64 0),(Value.int .i64 (-1))],le_m0,ok.drop.drop,E.d,⟨rv_c (cs:=[(Value.string (bs o6.2.Text)),c46,(Value.bool o6.2.Not),(Value.int .i64 0),(Value.int .i64 (-1))]) E ok rfl qa7 rfl (qaf.own 1 rfl rfl),rv_t E rfl,trivial⟩,⟨_,rfl,l45,h47,(show InR .i64 (0) by decide),(show InR .i64 (-1) by decide)⟩,(InR.inc r44 (InR.len ls_0) hc51)⟩
  obtain rfl:=sj hF
  exact fin _ _ hret
 replace hF:=qah hc55 hF
 refine sg<|lv E ok (qbn rfl rfl) fun a E=>lv E ok (qab rfl) fun a E=>wn<|c_if E rfl (fun hc56=>?_) (fun hc56=>?_)
 rotate_left
 ·replace hF:=qah hc56 hF
  refine wp_skip<|qar<|qad<|sg<|lv E ok (qax (cs:=[(Value.string (bs o6.2.Text)),c46,(Value.bool o6.2.Not),(Value.int .i64 1),(Value.int .i64 1)]) qa7 rfl rfl (qaf.own 0 rfl rfl)) fun a E=>lv E ok (qaa rfl) fun a E=>qat E ok 1 rfl rfl rfl qbu rfl rfl ⟨rfl,(qbB h47),rfl,rfl,rfl,trivial⟩ rfl rfl fun w ok=>?_
  refine lv E ok (qab rfl) fun a E=>wn<|wp_ret ?_
  have hret:qaU u m0 S ((Item.mk o6.2.Text o6.2.Ranges o6.2.Not 1 1),o6.1) a w:=⟨m43,[(Value.string (bs o6.2.Text)),c46,(Value.bool o6.2.Not),(Value.int .i64 1),(Value.int .i64 1)],le_m0,ok.drop.drop,E.d,⟨rv_c (cs:=[(Value.string (bs o6.2.Text)),c46,(Value.bool o6.2.Not),(Value.int .i64 1),(Value.int .i64 1)]) E ok rfl qa7 rfl (qaf.own 1 rfl rfl),rv_t E rfl,trivial⟩,⟨_,rfl,l45,h47,(show InR .i64 (1) by decide),(show InR .i64 (1) by decide)⟩,r44⟩
  obtain rfl:=sj hF
  exact fin _ _ hret
 replace hF:=qai hc56 hF
 refine qae<|lv E ok (qaa rfl) fun a E=>lv E ok (qaC rfl rfl (InR.inc r44 (InR.len ls_0) hc51)) fun a E=>lv E ok (qac qdJ rfl) fun a E=>qat E ok 0 rfl rfl rfl qd2 rfl rfl ⟨rfl,trivial⟩ rfl rfl fun w ok=>lv E ok (qab rfl) fun a E=>wpList_nil<|qar ?_
 refine qad<|sg<|lv E ok (qax (cs:=[(Value.string (bs o6.2.Text)),c46,(Value.bool o6.2.Not),(Value.int .i64 1),(Value.int .i64 (-1))]) qa7 rfl rfl (qaf.own 0 rfl rfl)) fun a E=>lv E ok (qaa rfl) fun a E=>qat E ok 1 rfl rfl rfl qbu rfl rfl ⟨rfl,(qbB h47),rfl,rfl,rfl,trivial⟩ rfl rfl fun w ok=>lv E ok (qab rfl) fun a E=>wpList_nil ?_
 refine qad<|wp_ret ?_
 have hret:qaU u m0 S ((Item.mk o6.2.Text o6.2.Ranges o6.2.Not 1 (-1)),(o6.1 + 1)) a w:=⟨m43,[(Value.string (bs o6.2.Text)),c46,(Value.bool o6.2.Not),(Value.int .i64 1),(Value.int .i64 (-1))],le_m0,ok.drop.drop,E.d,⟨rv_c (cs:=[(Value.string (bs o6.2.Text)),c46,(Value.bool o6.2.Not),(Value.int .i64 1),(Value.int .i64 (-1))]) E ok rfl qa7 rfl (qaf.own 1 rfl rfl),rv_t E rfl,trivial⟩,⟨_,rfl,l45,h47,(show InR .i64 (1) by decide),(show InR .i64 (-1) by decide)⟩,(InR.inc r44 (InR.len ls_0) hc51)⟩
 obtain rfl:=sj hF
 exact fin _ _ hret
def qdA (u:World) (m0:Mem) (S:Segs) (r:Rule × Bool) (a:Act) (w:World):Prop :=
 ∃ m1 v0,m0.le m1 ∧ Ok u m1 S w ∧ a.defers = [] ∧ RVs Tryz.prog a w [.c 2 114 (.agg v0.toArray),.t 3 (.bool r.2)] ∧ qdn m1 v0 r.1
set_option maxHeartbeats 4000000 in
set_option maxRecDepth 100000 in
theorem qii {u:World} {m0:Mem} {S:Segs} {w:World} (N:Nat) (s_0:List UInt8) (ls_0:s_0.length ≤ LIMS) {r:Rule × Bool} (hF:qe6 N s_0 = some r) (hG:Glob u) (ok:Ok u m0 S w) :
  Calls Tryz.prog 41 [Value.string (bs s_0)].toArray w fun e w'=>∃ m1 v0,e = .returned (.tuple [(.agg v0.toArray),(.bool r.2)].toArray) ∧ m0.le m1 ∧ Ok u m1 S w' ∧ qdn m1 v0 r.1:=by
 have le_m0:=Mem.le.refl m0
 unfold qe6 at hF
 have fin:∀ a w,qdA u m0 S r a w → bodyPost Tryz.prog Tryz.f41 (fun e w'=>∃ m1 v0,e = .returned (.tuple [(.agg v0.toArray),(.bool r.2)].toArray) ∧ m0.le m1 ∧ Ok u m1 S w' ∧ qdn m1 v0 r.1) .ret a w:=by
  intro a w h
  obtain ⟨m1,v0,hle,ok,hd,hrv,h0⟩:=h
  exact qaK [.c 2 114 (.agg v0.toArray),.t 3 (.bool r.2)] hd rfl hrv ⟨m1,v0,rfl,hle,ok,h0⟩
 refine enter Tryz.func41 rfl rfl rfl fun a E=>sg<|qaZ E ok qdx rfl rfl fun b1 a w E ok=>lv E ok (qab rfl) fun a E=>wn<|wp_seq ?_
 refine qae<|lv E ok (qab rfl) fun a E=>wn<|wp_seq<|wp_block ?_
 obtain ⟨o3,hL,hF⟩:=bnd hF
 refine qaR _ (fun (s:Int) a w=>Ok u m0 ([(b1,Obj.cells [(Value.string (bs ([]))),(Value.slice none 0 0),(Value.string (bs ([])))].toArray 114 (0,0))] :: S) w ∧ Env 88 a [(0,(Value.string (bs s_0))),(2,(Value.pointer (some ⟨b1,0,none⟩))),(4,(Value.int .i64 s))] ∧ InR .i64 s) (fun (b:Int) e a w=>e = (.exit 0) ∧ Ok u m0 ([(b1,Obj.cells [(Value.string (bs ([]))),(Value.slice none 0 0),(Value.string (bs ([])))].toArray 114 (0,0))] :: S) w ∧ Env 88 a [(0,(Value.string (bs s_0))),(2,(Value.pointer (some ⟨b1,0,none⟩))),(4,(Value.int .i64 b))] ∧ InR .i64 b) ?_ ?_ N _ a w hL ⟨ok,E.keep [0,2,4],(show InR .i64 (0) by decide)⟩
 ·rintro at_5 a w r ⟨ok,E,r6⟩ hF
  replace hF:qd7 N s_0 at_5 = some r:=hF
  unfold qd7 at hF
  refine wp_seq<|sg<|lv E ok (qaa rfl) fun a E=>lv E ok (qaa rfl) fun a E=>lv E ok (qaX Tryz.underlying9 rfl) fun a E=>lv E ok (qaB rfl rfl) fun a E=>lv E ok (qaa rfl) fun a E=>?_
  refine qas (decide (at_5 < (s_0.length:Int))) (fun hc7=>?_) (fun hc7=>?_)
  rotate_left
  ·replace hF:=qah hc7 hF
   replace E:=E.upd 12 hc7 rfl
   refine ls E fun a E=>ls E fun a E=>ls E fun a E=>ls E fun a E=>lv E ok (qam rfl rfl) fun a E=>wn<|c_if E rfl (fun h=>by cases h) (fun _=>?_)
   refine wp_exit<|qaD ?_
   obtain rfl:=sj hF
   exact qaq (by nofun) (⟨rfl,⟨ok,E.keep [0,2,4],r6⟩⟩)
  replace hF:=qai hc7 hF
  replace E:=E.upd 12 hc7 rfl
  refine lv E ok (qaa rfl) fun a E=>lv E ok (qaa rfl) fun a E=>?_
  obtain ⟨c8,e9,hF⟩:=bnd hF
  refine lv E ok (qa3 Tryz.underlying9 rfl rfl e9) fun a E=>lv E ok (qdm rfl rfl) fun a E=>lv E ok (qak rfl rfl) fun a E=>wn<|c_if E rfl (fun hc10=>?_) (fun hc10=>?_)
  rotate_left
  ·replace hF:=qah hc10 hF
   refine wp_exit<|qaD ?_
   obtain rfl:=sj hF
   exact qaq (by nofun) (⟨rfl,⟨ok,E.keep [0,2,4],r6⟩⟩)
  replace hF:=qai hc10 hF
  refine wp_skip<|qad<|wp_block<|qae<|lv E ok (qaa rfl) fun a E=>lv E ok (qaC rfl rfl (InR.inc r6 (InR.len ls_0) hc7)) fun a E=>lv E ok (qab rfl) fun a E=>wpList_nil ?_
  refine qar ?_
  obtain rfl:=sj hF
  exact qay ⟨ok,E.keep [0,2,4],(InR.inc r6 (InR.len ls_0) hc7)⟩
 intro e a w _ hO
 obtain ⟨rfl,ok,E,r11⟩:=hO
 refine qaT<|qad<|sg<|lv E ok (qaa rfl) fun a E=>lv E ok (qaa rfl) fun a E=>?_
 obtain ⟨s12,e13,hF⟩:=bnd hF
 refine lv E ok (qaW Tryz.underlying9 e13 rfl rfl ⟨_,rfl⟩) fun a E=>lv E ok (qa6 (ps:=[(0,.tmp 22)]) (qs:=[(0,[(Value.string (bs s12))])]) (cs:=[(Value.string (bs s12)),(Value.slice none 0 0),(Value.string (bs ([])))]) qdx qkA rfl ⟨rfl,rfl,rfl,trivial⟩ rfl) fun a E=>qaZ E ok qdx rfl rfl fun b14 a w E ok=>qat E ok 0 rfl rfl rfl qgo rfl rfl ⟨rfl,rfl,rfl,trivial⟩ rfl rfl fun w ok=>wn<|wp_seq<|wp_block ?_
 obtain ⟨M25,ok,h26⟩:=qdp (e:=138) (k:=5) (R:=qbJ) ok
 obtain ⟨o27,hL,hF⟩:=bnd hF
 refine qaR _ (fun (s:Int × Rule) a w=>∃ m28 c31 M32,m0.le m28 ∧ Ok u m28 (M32 :: [(b14,Obj.cells [(Value.string (bs s.2.Kind)),c31,(Value.string (bs s.2.Next))].toArray 114 (0,0))] :: [(b1,Obj.cells [(Value.string (bs ([]))),(Value.slice none 0 0),(Value.string (bs ([])))].toArray 114 (0,0))] :: S) w ∧ Env 88 a [(0,(Value.string (bs s_0))),(2,(Value.pointer (some ⟨b1,0,none⟩))),(4,(Value.int .i64 s.1)),(5,(Value.pointer (some ⟨b14,0,none⟩)))] ∧ InR .i64 s.1 ∧ s.2.Kind.length ≤ LIMS ∧ ORow 138 5 qbJ m28 c31 s.2.Items M32 ∧ s.2.Next.length ≤ LIMS) (fun (b:((Rule × Int) ⊕ (Rule × Bool))) e a w=>(Sum.elim (fun b142=>e = (.exit 2) ∧ ∃ m143 c145 M146,m0.le m143 ∧ Ok u m143 (M146 :: [(b14,Obj.cells [(Value.string (bs b142.1.Kind)),c145,(Value.string (bs b142.1.Next))].toArray 114 (0,0))] :: [(b1,Obj.cells [(Value.string (bs ([]))),(Value.slice none 0 0),(Value.string (bs ([])))].toArray 114 (0,0))] :: S) w ∧ Env 88 a [(0,(Value.string (bs s_0))),(2,(Value.pointer (some ⟨b1,0,none⟩))),(4,(Value.int .i64 b142.2)),(5,(Value.pointer (some ⟨b14,0,none⟩)))] ∧ b142.1.Kind.length ≤ LIMS ∧ ORow 138 5 qbJ m143 c145 b142.1.Items M146 ∧ b142.1.Next.length ≤ LIMS ∧ InR .i64 b142.2) (fun b150=>e = .ret ∧ qdA u m0 S b150 a w)) b) ?_ ?_ N _ a w hL ⟨m0,(Value.slice none 0 0),M25,Mem.le.refl _,ok,E.keep [0,2,4,5],r11,(Nat.le_trans (qb1 e13) ls_0),h26,(Nat.zero_le _)⟩
 rotate_left
 ·as_aux_lemma =>
   intro e a w _ hO
   rcases o27 with o27 | o27
   rotate_left
   ·replace hF:=qba hF
    obtain ⟨rfl,hret⟩:=hO
    refine qap<|qan ?_
    obtain rfl:=sj hF
    exact fin _ _ hret
   replace hF:=qa9 hF
   obtain ⟨rfl,m116,c118,M119,hle,ok,E,l117,h120,l121,r122⟩:=hO
   have le_m0:=le_m0.trans hle
   refine qaT<|qad<|wp_seq ?_
   obtain ⟨m123,hle,ok,hfz⟩:=(ok.frs 0 rfl).freeze
   have h124:=ORow.froz qdc h120 hle hfz (by decide)
   have le_m0:=le_m0.trans hle
   obtain ⟨o125,hJ,hF⟩:=bnd hF
   refine qbx (Q':=fun e a w=>e = .normal ∧ ∃ c127,Ok u m123 ([(b14,Obj.cells [(Value.string (bs o27.1.Kind)),c118,(Value.string (bs o27.1.Next))].toArray 114 (0,0))] :: [(b1,Obj.cells [(Value.string (bs o125.2.Kind)),c127,(Value.string (bs o125.2.Next))].toArray 114 (0,0))] :: S) w ∧ Env 88 a [(2,(Value.pointer (some ⟨b1,0,none⟩))),(3,(Value.bool o125.1))] ∧ o125.2.Kind.length ≤ LIMS ∧ (pL 5 qbJ) m123 [c127] o125.2.Items ∧ o125.2.Next.length ≤ LIMS) ?_ ?_
   rotate_left
   ·clear hJ
    intro e a w hO
    obtain ⟨rfl,c139,ok,E,l138,h140,l141⟩:=hO
    refine qad<|wp_ret ?_
    have hret:qdA u m0 S (o125.2,o125.1) a w:=⟨m123,[(Value.string (bs o125.2.Kind)),c139,(Value.string (bs o125.2.Next))],le_m0,ok.drop.drop,E.d,⟨rv_c (cs:=[(Value.string (bs o125.2.Kind)),c139,(Value.string (bs o125.2.Next))]) E ok rfl qdt rfl (qaf.own 1 rfl rfl),rv_t E rfl,trivial⟩,⟨_,rfl,l138,h140,l141⟩⟩
    obtain rfl:=sj hF
    exact fin _ _ hret
   replace hF:=hJ
   clear hJ
   refine qas (decide (o27.2 ≥ 0)) (fun hc130=>?_) (fun hc130=>?_)
   rotate_left
   ·replace hF:=qah hc130 hF
    obtain rfl:=sj hF
    refine qcO [0] (Cls u m123 ([(b14,Obj.cells [(Value.string (bs o27.1.Kind)),c118,(Value.string (bs o27.1.Next))].toArray 114 (0,0))] :: [(b1,Obj.cells [(Value.string (bs ([]))),(Value.slice none 0 0),(Value.string (bs ([])))].toArray 114 (0,0))] :: [])) (Cls u m123 ([(b14,Obj.cells [(Value.string (bs o27.1.Kind)),c118,(Value.string (bs o27.1.Next))].toArray 114 (0,0))] :: [])) (by kernel_rfl) ?_
    intro w hw
    replace ok:=qcV ok hw
    clear hw
    have le_m123:=Mem.le.refl m123
    refine qaM (cl1 ⟨m123,_,le_m123,ok,⟨qal 0 rfl,qal 1 rfl,trivial⟩⟩ ⟨m123,_,le_m123,ok,⟨qal 0 rfl,trivial⟩⟩) fun hT=>qbE 0 E rfl (by kernel_rfl) nP hT (qax (cs:=[(Value.string (bs o27.1.Kind)),c118,(Value.string (bs o27.1.Next))]) qdt rfl rfl (qaf.cown 0 rfl rfl)) rfl rfl fun a E=>kt 1 E rfl hT (qaa rfl) fun a E=>kt 2 E rfl hT (qbg rfl rfl) fun a E=>kt 3 E rfl hT (qaa rfl) fun a E=>?_
    replace E:=E.upd 78 hc130 rfl
    refine qf7 4 false E rfl (by kernel_rfl) nP hT rfl rfl fun a E=>qf7 5 false E rfl (by kernel_rfl) nP hT rfl rfl fun a E=>kt 6 E rfl hT (qam rfl rfl) fun a E=>kt 7 E rfl hT (qaa rfl) fun a E=>qf7 8 false E rfl (by kernel_rfl) nP hT rfl rfl fun a E=>qf7 9 false E rfl (by kernel_rfl) nP hT rfl rfl fun a E=>qf7 10 false E rfl (by kernel_rfl) nP hT rfl rfl fun a E=>qf7 11 false E rfl (by kernel_rfl) nP hT rfl rfl fun a E=>?_
    refine kt 12 E rfl hT (qam rfl rfl) fun a E=>qbj [13] (by kernel_rfl) rfl (qbk ?_)
    ·refine qaz (o:=_) rfl<|qat E ok 1 rfl rfl rfl qgo rfl rfl ⟨rfl,(qbB h124),rfl,trivial⟩ rfl rfl fun w ok=>wn<|qaM (cl2 (by kernel_rfl) ⟨m123,_,le_m123,ok,⟨qal 0 rfl,trivial⟩⟩) fun hT=>kt 14 E rfl hT (qab rfl) fun a E=>qcP (by kernel_rfl) ?_
     exact ⟨rfl,⟨c118,ok,E.keep [2,3],l117,h124,l121⟩⟩
   replace hF:=qai hc130 hF
   obtain ⟨r131,e132,hF⟩:=bnd hF
   refine qas r131 (fun hc133=>?_) (fun hc133=>?_)
   rotate_left
   ·replace hF:=qah hc133 hF
    obtain rfl:=sj hF
    refine qcO [0] (Cls u m123 ([(b14,Obj.cells [(Value.string (bs o27.1.Kind)),c118,(Value.string (bs o27.1.Next))].toArray 114 (0,0))] :: [(b1,Obj.cells [(Value.string (bs ([]))),(Value.slice none 0 0),(Value.string (bs ([])))].toArray 114 (0,0))] :: [])) (Cls u m123 ([(b14,Obj.cells [(Value.string (bs o27.1.Kind)),c118,(Value.string (bs o27.1.Next))].toArray 114 (0,0))] :: [])) (by kernel_rfl) ?_
    intro w hw
    replace ok:=qcV ok hw
    clear hw
    have le_m123:=Mem.le.refl m123
    refine qaM (cl1 ⟨m123,_,le_m123,ok,⟨qal 0 rfl,qal 1 rfl,trivial⟩⟩ ⟨m123,_,le_m123,ok,⟨qal 0 rfl,trivial⟩⟩) fun hT=>qbE 0 E rfl (by kernel_rfl) nP hT (qax (cs:=[(Value.string (bs o27.1.Kind)),c118,(Value.string (bs o27.1.Next))]) qdt rfl rfl (qaf.cown 0 rfl rfl)) rfl rfl fun a E=>kt 1 E rfl hT (qaa rfl) fun a E=>kt 2 E rfl hT (qbg rfl rfl) fun a E=>kt 3 E rfl hT (qaa rfl) fun a E=>?_
    replace E:=E.upd 78 hc130 rfl
    refine kt 4 E rfl hT (qax (cs:=[(Value.string (bs o27.1.Kind)),c118,(Value.string (bs o27.1.Next))]) qdt rfl rfl (qaf.cown 0 rfl rfl)) fun a E=>qbj [5] (by kernel_rfl) rfl (qbk ?_)
    ·refine qaz (o:=_) rfl<|qaw E qmZ rfl (qe4 N _ o27.1 ⟨_,rfl,l117,h124,l121⟩ e132 hG ok) rfl rfl ?_
     rintro _ w ⟨rfl,ok⟩
     refine ⟨_,rfl,fun a E=>?_⟩
     refine wn<|qaM (cl1 ⟨m123,_,le_m123,ok,⟨qal 0 rfl,qal 1 rfl,trivial⟩⟩ ⟨m123,_,le_m123,ok,⟨qal 0 rfl,trivial⟩⟩) fun hT=>kt 6 E rfl hT (qak rfl rfl) fun a E=>kt 7 E rfl hT (qaa rfl) fun a E=>?_
     replace E:=E.upd 82 hc133 rfl
     refine qf7 8 false E rfl (by kernel_rfl) nP hT rfl rfl fun a E=>qf7 9 false E rfl (by kernel_rfl) nP hT rfl rfl fun a E=>qf7 10 false E rfl (by kernel_rfl) nP hT rfl rfl fun a E=>qf7 11 false E rfl (by kernel_rfl) nP hT rfl rfl fun a E=>kt 12 E rfl hT (qam rfl rfl) fun a E=>qbj [13] (by kernel_rfl) rfl (qbk ?_)
     ·refine qaz (o:=_) rfl<|qat E ok 1 rfl rfl rfl qgo rfl rfl ⟨rfl,(qbB h124),rfl,trivial⟩ rfl rfl fun w ok=>wn<|qaM (cl2 (by kernel_rfl) ⟨m123,_,le_m123,ok,⟨qal 0 rfl,trivial⟩⟩) fun hT=>kt 14 E rfl hT (qab rfl) fun a E=>qcP (by kernel_rfl) ?_
      exact ⟨rfl,⟨c118,ok,E.keep [2,3],l117,h124,l121⟩⟩
   replace hF:=qai hc133 hF
   obtain ⟨r134,e135,hF⟩:=bnd hF
   obtain rfl:=sj hF
   refine qcO [0] (Cls u m123 ([(b14,Obj.cells [(Value.string (bs o27.1.Kind)),c118,(Value.string (bs o27.1.Next))].toArray 114 (0,0))] :: [(b1,Obj.cells [(Value.string (bs ([]))),(Value.slice none 0 0),(Value.string (bs ([])))].toArray 114 (0,0))] :: [])) (Cls u m123 ([(b14,Obj.cells [(Value.string (bs o27.1.Kind)),c118,(Value.string (bs o27.1.Next))].toArray 114 (0,0))] :: [])) (by kernel_rfl) ?_
   intro w hw
   replace ok:=qcV ok hw
   clear hw
   have le_m123:=Mem.le.refl m123
   refine qaM (cl1 ⟨m123,_,le_m123,ok,⟨qal 0 rfl,qal 1 rfl,trivial⟩⟩ ⟨m123,_,le_m123,ok,⟨qal 0 rfl,trivial⟩⟩) fun hT=>qbE 0 E rfl (by kernel_rfl) nP hT (qax (cs:=[(Value.string (bs o27.1.Kind)),c118,(Value.string (bs o27.1.Next))]) qdt rfl rfl (qaf.cown 0 rfl rfl)) rfl rfl fun a E=>kt 1 E rfl hT (qaa rfl) fun a E=>kt 2 E rfl hT (qbg rfl rfl) fun a E=>kt 3 E rfl hT (qaa rfl) fun a E=>?_
   replace E:=E.upd 78 hc130 rfl
   refine kt 4 E rfl hT (qax (cs:=[(Value.string (bs o27.1.Kind)),c118,(Value.string (bs o27.1.Next))]) qdt rfl rfl (qaf.cown 0 rfl rfl)) fun a E=>qbj [5] (by kernel_rfl) rfl (qbk ?_)
   ·refine qaz (o:=_) rfl<|qaw E qmZ rfl (qe4 N _ o27.1 ⟨_,rfl,l117,h124,l121⟩ e132 hG ok) rfl rfl ?_
    rintro _ w ⟨rfl,ok⟩
    refine ⟨_,rfl,fun a E=>?_⟩
    refine wn<|qaM (cl1 ⟨m123,_,le_m123,ok,⟨qal 0 rfl,qal 1 rfl,trivial⟩⟩ ⟨m123,_,le_m123,ok,⟨qal 0 rfl,trivial⟩⟩) fun hT=>kt 6 E rfl hT (qak rfl rfl) fun a E=>kt 7 E rfl hT (qaa rfl) fun a E=>?_
    replace E:=E.upd 82 hc133 rfl
    refine kt 8 E rfl hT (qax (cs:=[(Value.string (bs o27.1.Kind)),c118,(Value.string (bs o27.1.Next))]) qdt rfl rfl (qaf.cown 0 rfl rfl)) fun a E=>kt 10 E rfl hT (qaa rfl) fun a E=>qbj [9] (by kernel_rfl) rfl (qbk ?_)
    ·refine qaz (o:=_) rfl<|qaw E qov rfl (qg9 N _ o27.1 ⟨_,rfl,l117,h124,l121⟩ e135 hG ok) rfl rfl ?_
     rintro _ w ⟨⟨rfl,ok⟩,l137⟩
     refine ⟨_,rfl,fun a E=>?_⟩
     refine wn<|qaM (cl1 ⟨m123,_,le_m123,ok,⟨qal 0 rfl,qal 1 rfl,trivial⟩⟩ ⟨m123,_,le_m123,ok,⟨qal 0 rfl,trivial⟩⟩) fun hT=>kt 11 E rfl hT (qa1 rfl rfl) fun a E=>kt 12 E rfl hT (qak rfl rfl) fun a E=>qbj [13] (by kernel_rfl) rfl (qbk ?_)
     ·refine qaz (o:=_) rfl<|qat E ok 1 rfl rfl rfl qgo rfl rfl ⟨rfl,(qbB h124),rfl,trivial⟩ rfl rfl fun w ok=>wn<|qaM (cl2 (by kernel_rfl) ⟨m123,_,le_m123,ok,⟨qal 0 rfl,trivial⟩⟩) fun hT=>kt 14 E rfl hT (qab rfl) fun a E=>qcP (by kernel_rfl) ?_
      exact ⟨rfl,⟨c118,ok,E.keep [2,3],l117,h124,l121⟩⟩
 rintro ⟨at_35,x_36⟩ a w r ⟨m37,c40,M41,hle,ok,E,r38,l39,h42,l43⟩ hF
 replace hF:qd6 N s_0 at_35 x_36 = some r:=hF
 unfold qd6 at hF
 have le_m0:=le_m0.trans hle
 refine wp_seq<|sg<|lv E ok (qaa rfl) fun a E=>lv E ok (qbg rfl rfl) fun a E=>lv E ok (qaa rfl) fun a E=>qas (decide (at_35 ≥ 0)) (fun hc44=>?_) (fun hc44=>?_)
 rotate_left
 ·replace hF:=qah hc44 hF
  replace E:=E.upd 26 hc44 rfl
  refine ls E fun a E=>ls E fun a E=>ls E fun a E=>ls E fun a E=>lv E ok (qam rfl rfl) fun a E=>wn<|c_if E rfl (fun h=>by cases h) (fun _=>?_)
  refine wp_exit<|qaD ?_
  obtain rfl:=sj hF
  exact qaq (by nofun) (sl ⟨rfl,⟨m37,c40,M41,le_m0,ok,E.keep [0,2,4,5],l39,h42,l43,r38⟩⟩)
 replace hF:=qai hc44 hF
 replace E:=E.upd 26 hc44 rfl
 refine lv E ok (qaa rfl) fun a E=>lv E ok (qaa rfl) fun a E=>lv E ok (qaX Tryz.underlying9 rfl) fun a E=>lv E ok (qaB rfl rfl) fun a E=>lv E ok (qak rfl rfl) fun a E=>wn<|c_if E rfl (fun hc45=>?_) (fun hc45=>?_)
 rotate_left
 ·replace hF:=qah hc45 hF
  refine wp_exit<|qaD ?_
  obtain rfl:=sj hF
  exact qaq (by nofun) (sl ⟨rfl,⟨m37,c40,M41,le_m0,ok,E.keep [0,2,4,5],l39,h42,l43,r38⟩⟩)
 replace hF:=qai hc45 hF
 refine wp_skip<|qad<|wp_block<|wp_seq<|sg<|lv E ok (qac qc5 rfl) fun a E=>lv E ok (qaj qeP rfl (qaf.own 1 rfl rfl)) fun a E=>?_
 refine lv E ok (qlQ qcY h42 rfl) fun a E=>lv E ok (qb4 rfl rfl) fun a E=>lv E ok (qaa rfl) fun a E=>qas (decide ((x_36.Items.length:Int) > 0)) (fun hc46=>?_) (fun hc46=>?_)
 rotate_left
 ·replace hF:=qah hc46 hF
  replace E:=E.upd 36 hc46 rfl
  refine ls E fun a E=>ls E fun a E=>ls E fun a E=>ls E fun a E=>ls E fun a E=>lv E ok (qam rfl rfl) fun a E=>lv E ok (qaa rfl) fun a E=>ls E fun a E=>?_
  refine ls E fun a E=>ls E fun a E=>ls E fun a E=>ls E fun a E=>ls E fun a E=>lv E ok (qam rfl rfl) fun a E=>wn ?_
  refine c_if E rfl (fun h=>by cases h) (fun _=>?_)
  refine wp_skip<|qad<|sg<|lv E ok (qaa rfl) fun a E=>lv E ok (qaa rfl) fun a E=>lv E ok (qaC rfl rfl (InR.inc r38 (InR.len ls_0) hc45)) fun a E=>?_
  obtain ⟨r96,e97,hF⟩:=bnd hF
  refine qaw E qnc rfl (qev N s_0 ls_0 (at_35 + 1) (InR.inc r38 (InR.len ls_0) hc45) e97 hG ok) rfl rfl ?_
  rintro _ w ⟨m98,vs99,rfl,hle,ok,h100,r101⟩
  have le_m0:=le_m0.trans hle
  have h42:=ORow.up qdc hle h42
  obtain ⟨c103,rfl,l102,h104,r105,r106⟩:=h100
  refine ⟨_,rfl,fun a E=>?_⟩
  refine lv E ok (qaa rfl) fun a E=>lv E ok (qaA rfl rfl) fun a E=>lv E ok (qaA rfl rfl) fun a E=>qaZ E ok qbz rfl rfl fun b107 a w E ok=>qat E ok 0 rfl rfl rfl qbu rfl rfl ⟨rfl,(qbB h104),rfl,rfl,rfl,trivial⟩ rfl rfl fun w ok=>lv E ok (qab rfl) fun a E=>wn ?_
  refine qae<|lv E ok (qac qc5 rfl) fun a E=>lv E ok (qaj qeP rfl (qaf.own 2 rfl rfl)) fun a E=>lv E ok (qax (cs:=[(Value.string (bs r96.1.Text)),c103,(Value.bool r96.1.Not),(Value.int .i64 r96.1.Least),(Value.int .i64 r96.1.Most)]) qa7 rfl rfl (qaf.own 0 rfl rfl)) fun a E=>qbf (R:=qbJ) (xo:=[.tmp 70]) (xs:=([r96.1]:List (Item))) E ok qcY qbz rfl ⟨⟨_,rfl,rfl,⟨_,rfl,l102,h104,r105,r106⟩⟩,trivial⟩ rfl rfl rfl rfl fun c108 M109 a w E ok h110=>?_
  obtain ⟨l111,e112,hF⟩:=bnd hF
  refine qcI (R:=qbJ) E ok 2 qdc qcY Tryz.underlying112 rfl h42 (qbo.ofRow h110 0 rfl ok) e112 ⟨_,qbz,rfl⟩ rfl rfl rfl rfl fun c113 M114 a w E ok h115=>lv E ok (qaa rfl) fun a E=>lv E ok (qac qc5 rfl) fun a E=>qat E ok 3 rfl rfl rfl qk2 (ORow.cells h115) rfl ⟨(ORow.one h115),trivial⟩ rfl rfl fun w ok=>lv E ok (qab rfl) fun a E=>wpList_nil<|qar ?_
  obtain rfl:=sj hF
  exact qay ⟨m98,c113,M114,le_m0,(ok.pk 5 [2,3,4] rfl (by decide)),E.keep [0,2,4,5],r101,l39,h115,l43⟩
 replace hF:=qai hc46 hF
 replace E:=E.upd 36 hc46 rfl
 refine lv E ok (qaa rfl) fun a E=>lv E ok (qaL rfl rfl) fun a E=>lv E ok (qaa rfl) fun a E=>lv E ok (qaX Tryz.underlying9 rfl) fun a E=>lv E ok (qct rfl rfl) fun a E=>lv E ok (qak rfl rfl) fun a E=>lv E ok (qaa rfl) fun a E=>qas (decide ((IntKind.wrap .i64 (at_35 + 4)) ≤ (s_0.length:Int))) (fun hc47=>?_) (fun hc47=>?_)
 rotate_left
 ·replace hF:=qah hc47 hF
  replace E:=E.upd 43 hc47 rfl
  refine ls E fun a E=>ls E fun a E=>ls E fun a E=>ls E fun a E=>ls E fun a E=>ls E fun a E=>lv E ok (qam rfl rfl) fun a E=>wpList_nil ?_
  refine qad<|c_if E rfl (fun h=>by cases h) (fun _=>?_)
  refine wp_skip<|qad<|sg<|lv E ok (qaa rfl) fun a E=>lv E ok (qaa rfl) fun a E=>lv E ok (qaC rfl rfl (InR.inc r38 (InR.len ls_0) hc45)) fun a E=>?_
  obtain ⟨r76,e77,hF⟩:=bnd hF
  refine qaw E qnc rfl (qev N s_0 ls_0 (at_35 + 1) (InR.inc r38 (InR.len ls_0) hc45) e77 hG ok) rfl rfl ?_
  rintro _ w ⟨m78,vs79,rfl,hle,ok,h80,r81⟩
  have le_m0:=le_m0.trans hle
  have h42:=ORow.up qdc hle h42
  obtain ⟨c83,rfl,l82,h84,r85,r86⟩:=h80
  refine ⟨_,rfl,fun a E=>?_⟩
  refine lv E ok (qaa rfl) fun a E=>lv E ok (qaA rfl rfl) fun a E=>lv E ok (qaA rfl rfl) fun a E=>qaZ E ok qbz rfl rfl fun b87 a w E ok=>qat E ok 0 rfl rfl rfl qbu rfl rfl ⟨rfl,(qbB h84),rfl,rfl,rfl,trivial⟩ rfl rfl fun w ok=>lv E ok (qab rfl) fun a E=>wn ?_
  refine qae<|lv E ok (qac qc5 rfl) fun a E=>lv E ok (qaj qeP rfl (qaf.own 2 rfl rfl)) fun a E=>lv E ok (qax (cs:=[(Value.string (bs r76.1.Text)),c83,(Value.bool r76.1.Not),(Value.int .i64 r76.1.Least),(Value.int .i64 r76.1.Most)]) qa7 rfl rfl (qaf.own 0 rfl rfl)) fun a E=>qbf (R:=qbJ) (xo:=[.tmp 70]) (xs:=([r76.1]:List (Item))) E ok qcY qbz rfl ⟨⟨_,rfl,rfl,⟨_,rfl,l82,h84,r85,r86⟩⟩,trivial⟩ rfl rfl rfl rfl fun c88 M89 a w E ok h90=>?_
  obtain ⟨l91,e92,hF⟩:=bnd hF
  refine qcI (R:=qbJ) E ok 2 qdc qcY Tryz.underlying112 rfl h42 (qbo.ofRow h90 0 rfl ok) e92 ⟨_,qbz,rfl⟩ rfl rfl rfl rfl fun c93 M94 a w E ok h95=>lv E ok (qaa rfl) fun a E=>lv E ok (qac qc5 rfl) fun a E=>qat E ok 3 rfl rfl rfl qk2 (ORow.cells h95) rfl ⟨(ORow.one h95),trivial⟩ rfl rfl fun w ok=>lv E ok (qab rfl) fun a E=>wpList_nil<|qar ?_
  obtain rfl:=sj hF
  exact qay ⟨m78,c93,M94,le_m0,(ok.pk 5 [2,3,4] rfl (by decide)),E.keep [0,2,4,5],r81,l39,h95,l43⟩
 replace hF:=qai hc47 hF
 replace E:=E.upd 43 hc47 rfl
 refine lv E ok (qaa rfl) fun a E=>lv E ok (qaa rfl) fun a E=>lv E ok (qaa rfl) fun a E=>lv E ok (qaL rfl rfl) fun a E=>?_
 obtain ⟨s48,e49,hF⟩:=bnd hF
 refine lv E ok (qaW Tryz.underlying9 e49 rfl ⟨_,rfl⟩ ⟨_,rfl⟩) fun a E=>lv E ok (qa1 rfl rfl) fun a E=>lv E ok (qak rfl rfl) fun a E=>wn<|c_if E rfl (fun hc50=>?_) (fun hc50=>?_)
 rotate_left
 ·replace hF:=qah hc50 hF
  refine wp_skip<|qad<|sg<|lv E ok (qaa rfl) fun a E=>lv E ok (qaa rfl) fun a E=>lv E ok (qaC rfl rfl (InR.inc r38 (InR.len ls_0) hc45)) fun a E=>?_
  obtain ⟨r56,e57,hF⟩:=bnd hF
  refine qaw E qnc rfl (qev N s_0 ls_0 (at_35 + 1) (InR.inc r38 (InR.len ls_0) hc45) e57 hG ok) rfl rfl ?_
  rintro _ w ⟨m58,vs59,rfl,hle,ok,h60,r61⟩
  have le_m0:=le_m0.trans hle
  have h42:=ORow.up qdc hle h42
  obtain ⟨c63,rfl,l62,h64,r65,r66⟩:=h60
  refine ⟨_,rfl,fun a E=>?_⟩
  refine lv E ok (qaa rfl) fun a E=>lv E ok (qaA rfl rfl) fun a E=>lv E ok (qaA rfl rfl) fun a E=>qaZ E ok qbz rfl rfl fun b67 a w E ok=>qat E ok 0 rfl rfl rfl qbu rfl rfl ⟨rfl,(qbB h64),rfl,rfl,rfl,trivial⟩ rfl rfl fun w ok=>lv E ok (qab rfl) fun a E=>wn ?_
  refine qae<|lv E ok (qac qc5 rfl) fun a E=>lv E ok (qaj qeP rfl (qaf.own 2 rfl rfl)) fun a E=>lv E ok (qax (cs:=[(Value.string (bs r56.1.Text)),c63,(Value.bool r56.1.Not),(Value.int .i64 r56.1.Least),(Value.int .i64 r56.1.Most)]) qa7 rfl rfl (qaf.own 0 rfl rfl)) fun a E=>qbf (R:=qbJ) (xo:=[.tmp 70]) (xs:=([r56.1]:List (Item))) E ok qcY qbz rfl ⟨⟨_,rfl,rfl,⟨_,rfl,l62,h64,r65,r66⟩⟩,trivial⟩ rfl rfl rfl rfl fun c68 M69 a w E ok h70=>?_
  obtain ⟨l71,e72,hF⟩:=bnd hF
  refine qcI (R:=qbJ) E ok 2 qdc qcY Tryz.underlying112 rfl h42 (qbo.ofRow h70 0 rfl ok) e72 ⟨_,qbz,rfl⟩ rfl rfl rfl rfl fun c73 M74 a w E ok h75=>lv E ok (qaa rfl) fun a E=>lv E ok (qac qc5 rfl) fun a E=>qat E ok 3 rfl rfl rfl qk2 (ORow.cells h75) rfl ⟨(ORow.one h75),trivial⟩ rfl rfl fun w ok=>lv E ok (qab rfl) fun a E=>wpList_nil<|qar ?_
  obtain rfl:=sj hF
  exact qay ⟨m58,c73,M74,le_m0,(ok.pk 5 [2,3,4] rfl (by decide)),E.keep [0,2,4,5],r61,l39,h75,l43⟩
 replace hF:=qai hc50 hF
 refine sg<|lv E ok (qaa rfl) fun a E=>lv E ok (qaa rfl) fun a E=>lv E ok (qaL rfl rfl) fun a E=>?_
 obtain ⟨s51,e52,hF⟩:=bnd hF
 refine lv E ok (qaW Tryz.underlying9 e52 rfl ⟨_,rfl⟩ rfl) fun a E=>lv E ok (qac qgb rfl) fun a E=>qat E ok 1 rfl rfl rfl qfy rfl rfl ⟨rfl,trivial⟩ rfl rfl fun w ok=>wn<|wp_seq<|sg ?_
 refine lv E ok (qac qgb rfl) fun a E=>lv E ok (qaj qav rfl (qaf.own 1 rfl rfl)) fun a E=>?_
 obtain ⟨r53,e54,hF⟩:=bnd hF
 refine qaw E qlz rfl (qem N s51 (Nat.le_trans (qb1 e52) ls_0) e54 hG ok) rfl rfl ?_
 rintro _ w ⟨rfl,ok⟩
 refine ⟨_,rfl,fun a E=>?_⟩
 refine lv E ok (qbP rfl) fun a E=>wn<|c_if E rfl (fun hc55=>?_) (fun hc55=>?_)
 rotate_left
 ·replace hF:=qah hc55 hF
  refine wp_skip<|qad<|wp_exit<|qaD<|qjE rfl ?_
  obtain rfl:=sj hF
  exact qaq (by nofun) (sl ⟨rfl,⟨m37,c40,M41,le_m0,ok,E.keep [0,2,4,5],l39,h42,(Nat.le_trans (qb1 e52) ls_0),r38⟩⟩)
 replace hF:=qai hc55 hF
 refine sg<|lv E ok (qa6 (ps:=[]) (qs:=[]) (cs:=[(Value.string (bs ([]))),(Value.slice none 0 0),(Value.string (bs ([])))]) qdx qkA rfl trivial rfl) fun a E=>qat E ok 2 rfl rfl rfl qgo rfl rfl ⟨rfl,rfl,rfl,trivial⟩ rfl rfl fun w ok=>lv E ok (qab rfl) fun a E=>wn<|wp_ret ?_
 refine qan<|qan<|qap ?_
 have hret:qdA u m0 S ((Rule.mk ([]) ([]) ([])),false) a w:=⟨m37,[(Value.string (bs ([]))),(Value.slice none 0 0),(Value.string (bs ([])))],le_m0,ok.drop.drop.drop,E.d,⟨rv_c (cs:=[(Value.string (bs ([]))),(Value.slice none 0 0),(Value.string (bs ([])))]) E ok rfl qdt rfl (qaf.own 2 rfl rfl),rv_t E rfl,trivial⟩,⟨_,rfl,(Nat.zero_le _),qbA,(Nat.zero_le _)⟩⟩
 obtain rfl:=sj hF
 exact qaq (by nofun) (sr ⟨rfl,hret⟩)
end Go.Proofs.YtllfckekodcdaaaGreatDoor
namespace Go.Proofs.YtllfckekodcdaaaGreatDoor
open Go.X
def qbs (u:World) (m0:Mem) (S:Segs) (r:(List (State)) × Int × Int) (a:Act) (w:World):Prop :=
 ∃ m1 v0,m0.le m1 ∧ Ok u m1 S w ∧ a.defers = [] ∧ RVs Tryz.prog a w [.t 2 v0,.t 3 (.int .i64 r.2.1),.t 4 (.int .i64 r.2.2)] ∧ (pL 2 qb3) m1 [v0] r.1 ∧ InR .i64 r.2.1 ∧ InR .i64 r.2.2
set_option maxHeartbeats 4000000 in
set_option maxRecDepth 100000 in
theorem qjj {u:World} {m0:Mem} {S:Segs} {w:World} (N:Nat) (s_0:List UInt8) (ls_0:s_0.length ≤ LIMS) {r:(List (State)) × Int × Int} (hF:qf6 N s_0 = some r) (hG:Glob u) (ok:Ok u m0 S w) :
  Calls Tryz.prog 27 [Value.string (bs s_0)].toArray w fun e w'=>∃ m1 v0,e = .returned (.tuple [v0,(.int .i64 r.2.1),(.int .i64 r.2.2)].toArray) ∧ m0.le m1 ∧ Ok u m1 S w' ∧ (pL 2 qb3) m1 [v0] r.1 ∧ InR .i64 r.2.1 ∧ InR .i64 r.2.2:=by
 have le_m0:=Mem.le.refl m0
 unfold qf6 at hF
 have fin:∀ a w,qbs u m0 S r a w → bodyPost Tryz.prog Tryz.f27 (fun e w'=>∃ m1 v0,e = .returned (.tuple [v0,(.int .i64 r.2.1),(.int .i64 r.2.2)].toArray) ∧ m0.le m1 ∧ Ok u m1 S w' ∧ (pL 2 qb3) m1 [v0] r.1 ∧ InR .i64 r.2.1 ∧ InR .i64 r.2.2) .ret a w:=by
  intro a w h
  obtain ⟨m1,v0,hle,ok,hd,hrv,h0,h1,h2⟩:=h
  exact qaK [.t 2 v0,.t 3 (.int .i64 r.2.1),.t 4 (.int .i64 r.2.2)] hd rfl hrv ⟨m1,v0,rfl,hle,ok,h0,h1,h2⟩
 refine enter Tryz.func27 rfl rfl rfl fun a E=>sg<|lv E ok (qab rfl) fun a E=>lv E ok (qab rfl) fun a E=>lv E ok (qab rfl) fun a E=>wn ?_
 refine sg<|lv E ok (qab rfl) fun a E=>wn<|sg<|lv E ok (qab rfl) fun a E=>?_
 refine lv E ok (qab rfl) fun a E=>wn<|wp_seq<|sg<|lv E ok (qab rfl) fun a E=>wpList_nil ?_
 refine qad<|wp_block ?_
 obtain ⟨M10,ok,h11⟩:=qmP (e:=108) (k:=2) (R:=qcC) ok
 obtain ⟨o12,hL,hF⟩:=bnd hF
 refine qaR _ (fun (s:(List (State)) × Int × Int × Int) a w=>∃ m13 c14 M15,m0.le m13 ∧ Ok u m13 (M15 :: S) w ∧ Env 88 a [(0,(Value.string (bs s_0))),(5,c14),(6,(Value.int .i64 s.2.1)),(7,(Value.int .i64 s.2.2.1)),(8,(Value.int .i64 s.2.2.2))] ∧ NRow 108 2 qcC m13 c14 s.1 M15 ∧ InR .i64 s.2.1 ∧ InR .i64 s.2.2.1 ∧ InR .i64 s.2.2.2) (fun (b:(((List (State)) × Int × Int) ⊕ ((List (State)) × Int × Int))) e a w=>(Sum.elim (fun b341=>e = (.exit 0) ∧ ∃ m342 c343 M344,m0.le m342 ∧ Ok u m342 (M344 :: S) w ∧ Env 88 a [(0,(Value.string (bs s_0))),(5,c343),(6,(Value.int .i64 b341.2.1)),(7,(Value.int .i64 b341.2.2))] ∧ NRow 108 2 qcC m342 c343 b341.1 M344 ∧ InR .i64 b341.2.1 ∧ InR .i64 b341.2.2) (fun b348=>e = .ret ∧ qbs u m0 S b348 a w)) b) ?_ ?_ N _ a w hL ⟨m0,(Value.slice none 0 0),M10,Mem.le.refl _,ok,E.keep [0,5,6,7,8],h11,(show InR .i64 (0) by decide),(show InR .i64 (0) by decide),(show InR .i64 (0) by decide)⟩
 rotate_left
 ·as_aux_lemma =>
   intro e a w _ hO
   rcases o12 with o12 | o12
   rotate_left
   ·replace hF:=qba hF
    obtain ⟨rfl,hret⟩:=hO
    refine qap<|qan ?_
    obtain rfl:=sj hF
    exact fin _ _ hret
   replace hF:=qa9 hF
   obtain ⟨rfl,m324,c325,M326,hle,ok,E,h327,r328,r329⟩:=hO
   have le_m0:=le_m0.trans hle
   refine qaT<|qad<|wp_seq<|sg<|lv E ok (qaa rfl) fun a E=>lv E ok (qaa rfl) fun a E=>lv E ok (qaX Tryz.underlying9 rfl) fun a E=>?_
   refine lv E ok (qaB rfl rfl) fun a E=>wn<|c_if E rfl (fun hc330=>?_) (fun hc330=>?_)
   ·replace hF:=qai hc330 hF
    refine sg<|lv E ok (qaa rfl) fun a E=>lv E ok (qab rfl) fun a E=>lv E ok (qab rfl) fun a E=>lv E ok (qab rfl) fun a E=>wn ?_
    refine wp_ret<|qan ?_
    have hret:qbs u m0 S ([],o12.2.2,3) a w:=⟨m324,(.slice none 0 0),le_m0,ok.drop,E.d,⟨rv_t E rfl,rv_t E rfl,rv_t E rfl,trivial⟩,qbA,r329,(show InR .i64 (3) by decide)⟩
    obtain rfl:=sj hF
    exact fin _ _ hret
   replace hF:=qah hc330 hF
   refine wp_skip<|qad<|wp_seq<|sg<|lv E ok (qaa rfl) fun a E=>?_
   obtain ⟨r336,e337,hF⟩:=bnd hF
   obtain ⟨m331,hle333,ok332,hfz334⟩:=(ok.frs 0 rfl).freeze
   have h335:=NRow.froz qjc h327 hle333 hfz334 (by decide)
   refine qaw E qqt rfl (qjh N _ o12.1 h335 e337 hG ok332) rfl rfl ?_
   rintro _ w ⟨rfl,okz⟩
   replace ok:=(Ok.thawAt 0 rfl ok hle333 hfz334 okz)
   refine ⟨_,rfl,fun a E=>?_⟩
   refine lv E ok (qbP rfl) fun a E=>wn<|c_if E rfl (fun hc338=>?_) (fun hc338=>?_)
   ·replace hF:=qai hc338 hF
    refine sg<|lv E ok (qab rfl) fun a E=>lv E ok (qab rfl) fun a E=>lv E ok (qab rfl) fun a E=>wn<|wp_ret ?_
    refine qan ?_
    have hret:qbs u m0 S ([],0,1) a w:=⟨m324,(.slice none 0 0),le_m0,ok.drop,E.d,⟨rv_t E rfl,rv_t E rfl,rv_t E rfl,trivial⟩,qbA,(show InR .i64 (0) by decide),(show InR .i64 (1) by decide)⟩
    obtain rfl:=sj hF
    exact fin _ _ hret
   replace hF:=qah hc338 hF
   refine wp_skip<|qad<|sg<|lv E ok (qaa rfl) fun a E=>lv E ok (qab rfl) fun a E=>lv E ok (qab rfl) fun a E=>lv E ok (qab rfl) fun a E=>?_
   refine wn<|wp_ret ?_
   obtain ⟨m339,hle,ok,hfz⟩:=(ok.frs 0 rfl).freeze
   have h340:=NRow.froz qjc h327 hle hfz (by decide)
   have le_m0:=le_m0.trans hle
   have hret:qbs u m0 S (o12.1,0,0) a w:=⟨m339,c325,le_m0,ok,E.d,⟨rv_t E rfl,rv_t E rfl,rv_t E rfl,trivial⟩,h340,(show InR .i64 (0) by decide),(show InR .i64 (0) by decide)⟩
   obtain rfl:=sj hF
   exact fin _ _ hret
 rintro ⟨out_20,from_21,n_22,i_23⟩ a w r ⟨m24,c25,M26,hle,ok,E,h27,r28,r29,r30⟩ hF
 replace hF:qeV N s_0 out_20 from_21 n_22 i_23 = some r:=hF
 unfold qeV at hF
 have le_m0:=le_m0.trans hle
 refine wp_seq<|sg<|lv E ok (qaa rfl) fun a E=>lv E ok (qaa rfl) fun a E=>lv E ok (qaX Tryz.underlying9 rfl) fun a E=>lv E ok (qaB rfl rfl) fun a E=>wpList_nil ?_
 refine qad<|c_if E rfl (fun hc31=>?_) (fun hc31=>?_)
 rotate_left
 ·replace hF:=qah hc31 hF
  refine wp_exit<|qaD ?_
  obtain rfl:=sj hF
  exact qaq (by nofun) (sl ⟨rfl,⟨m24,c25,M26,le_m0,ok,E.keep [0,5,6,7],h27,r28,r29⟩⟩)
 replace hF:=qai hc31 hF
 refine wp_skip<|qad<|wp_seq<|wp_block<|wp_seq<|sg<|lv E ok (qaa rfl) fun a E=>?_
 refine lv E ok (qaa rfl) fun a E=>?_
 obtain ⟨c32,e33,hF⟩:=bnd hF
 refine lv E ok (qa3 Tryz.underlying9 rfl rfl e33) fun a E=>lv E ok (qdm rfl rfl) fun a E=>wn<|c_if E rfl (fun hc34=>?_) (fun hc34=>?_)
 ·replace hF:=qai hc34 hF
  refine wp_exit<|qaD<|qaT<|qad<|qae<|lv E ok (qaa rfl) fun a E=>lv E ok (qaC rfl rfl (InR.inc r30 (InR.len ls_0) hc31)) fun a E=>lv E ok (qab rfl) fun a E=>?_
  refine wpList_nil ?_
  obtain rfl:=sj hF
  exact qay ⟨m24,c25,M26,le_m0,ok,E.keep [0,5,6,7,8],h27,r28,r29,(InR.inc r30 (InR.len ls_0) hc31)⟩
 replace hF:=qah hc34 hF
 refine wp_skip<|qad<|sg<|lv E ok (qaa rfl) fun a E=>lv E ok (qaa rfl) fun a E=>lv E ok (qaa rfl) fun a E=>?_
 obtain ⟨s35,e36,hF⟩:=bnd hF
 refine lv E ok (qaW Tryz.underlying9 e36 rfl ⟨_,rfl⟩ ⟨_,rfl⟩) fun a E=>lv E ok (qab rfl) fun a E=>wn<|sg<|lv E ok (qaa rfl) fun a E=>?_
 obtain ⟨r37,e38,hF⟩:=bnd hF
 refine qaw E qp4 rfl (qii N s35 (Nat.le_trans (qb1 e36) ls_0) e38 hG ok) rfl rfl ?_
 rintro _ w ⟨m39,vs40,rfl,hle,ok,h41⟩
 have le_m0:=le_m0.trans hle
 have h27:=NRow.up qlv hle h27
 obtain ⟨c43,rfl,l42,h44,l45⟩:=h41
 refine ⟨_,rfl,fun a E=>?_⟩
 refine lv E ok (qaa rfl) fun a E=>lv E ok (qaA rfl rfl) fun a E=>lv E ok (qaA rfl rfl) fun a E=>qaZ E ok qdx rfl rfl fun b46 a w E ok=>qat E ok 0 rfl rfl rfl qgo rfl rfl ⟨rfl,(qbB h44),rfl,trivial⟩ rfl rfl fun w ok=>lv E ok (qab rfl) fun a E=>wn ?_
 refine wp_seq<|wp_block<|sg<|lv E ok (qaa rfl) fun a E=>lv E ok (qaX Tryz.underlying9 rfl) fun a E=>lv E ok (qb4 rfl rfl) fun a E=>lv E ok (qaa rfl) fun a E=>?_
 refine qas (decide ((s35.length:Int) > 6)) (fun hc47=>?_) (fun hc47=>?_)
 rotate_left
 ·as_aux_lemma =>
   replace hF:=qah hc47 hF
   replace E:=E.upd 36 hc47 rfl
   refine ls E fun a E=>ls E fun a E=>ls E fun a E=>lv E ok (qam rfl rfl) fun a E=>lv E ok (qaa rfl) fun a E=>ls E fun a E=>ls E fun a E=>ls E fun a E=>?_
   refine lv E ok (qam rfl rfl) fun a E=>lv E ok (qab rfl) fun a E=>wn<|c_if E rfl (fun h=>by cases h) (fun _=>?_)
   refine sg<|lv E ok (qaa rfl) fun a E=>lv E ok (qaa rfl) fun a E=>qas r37.2 (fun hc241=>?_) (fun hc241=>?_)
   rotate_left
   ·replace hF:=qah hc241 hF
    replace E:=E.upd 54 hc241 rfl
    refine ls E fun a E=>ls E fun a E=>ls E fun a E=>lv E ok (qam rfl rfl) fun a E=>lv E ok (qab rfl) fun a E=>wn<|c_if E rfl (fun h=>by cases h) (fun _=>?_)
    refine sg<|lv E ok (qaa rfl) fun a E=>lv E ok (qab rfl) fun a E=>lv E ok (qab rfl) fun a E=>lv E ok (qab rfl) fun a E=>wn ?_
    refine wp_ret<|qap<|qan<|qap<|qan ?_
    have hret:qbs u m0 S ([],n_22,3) a w:=⟨m39,(.slice none 0 0),le_m0,ok.drop.drop,E.d,⟨rv_t E rfl,rv_t E rfl,rv_t E rfl,trivial⟩,qbA,r29,(show InR .i64 (3) by decide)⟩
    obtain rfl:=sj hF
    exact qaq (by nofun) (sr ⟨rfl,hret⟩)
   replace hF:=qai hc241 hF
   replace E:=E.upd 54 hc241 rfl
   refine lv E ok (qaa rfl) fun a E=>lv E ok (qjz qbW h27 rfl) fun a E=>lv E ok (qb4 rfl rfl) fun a E=>lv E ok (qak rfl rfl) fun a E=>lv E ok (qab rfl) fun a E=>wn<|c_if E rfl (fun hc242=>?_) (fun hc242=>?_)
   rotate_left
   ·replace hF:=qah hc242 hF
    refine sg<|lv E ok (qaa rfl) fun a E=>lv E ok (qab rfl) fun a E=>lv E ok (qab rfl) fun a E=>lv E ok (qab rfl) fun a E=>wn ?_
    refine wp_ret<|qap<|qan<|qap<|qan ?_
    have hret:qbs u m0 S ([],n_22,3) a w:=⟨m39,(.slice none 0 0),le_m0,ok.drop.drop,E.d,⟨rv_t E rfl,rv_t E rfl,rv_t E rfl,trivial⟩,qbA,r29,(show InR .i64 (3) by decide)⟩
    obtain rfl:=sj hF
    exact qaq (by nofun) (sr ⟨rfl,hret⟩)
   replace hF:=qai hc242 hF
   obtain ⟨o243,hJ,hF⟩:=bnd hF
   refine qbx (Q':=fun e a w=>e = .normal ∧ ∃ c244 M245,Ok u m39 ([(b46,Obj.cells [(Value.string (bs r37.1.Kind)),c43,(Value.string (bs r37.1.Next))].toArray 114 (0,0))] :: M245 :: S) w ∧ Env 88 a [(0,(Value.string (bs s_0))),(5,c244),(7,(Value.int .i64 n_22)),(8,(Value.int .i64 i_23))] ∧ NRow 108 2 qcC m39 c244 o243 M245) ?_ ?_
   rotate_left
   ·clear hJ
    intro e a w hO
    obtain ⟨rfl,c321,M322,ok,E,h323⟩:=hO
    refine qar<|qad<|qae<|lv E ok (qaa rfl) fun a E=>lv E ok (qaC rfl rfl (InR.inc r30 (InR.len ls_0) hc31)) fun a E=>lv E ok (qaa rfl) fun a E=>lv E ok (qaL rfl rfl) fun a E=>lv E ok (qab rfl) fun a E=>?_
    refine lv E ok (qab rfl) fun a E=>wpList_nil<|qar<|qad<|qae<|lv E ok (qaa rfl) fun a E=>lv E ok (qaC rfl rfl (InR.inc r30 (InR.len ls_0) hc31)) fun a E=>lv E ok (qab rfl) fun a E=>?_
    refine wpList_nil ?_
    obtain rfl:=sj hF
    exact qay ⟨m39,c321,M322,le_m0,(ok.pk 2 [1] rfl (by decide)),E.keep [0,5,6,7,8],h323,(InR.inc r30 (InR.len ls_0) hc31),(InR.wrap _ _),(InR.inc r30 (InR.len ls_0) hc31)⟩
   replace hF:=hJ
   clear hJ
   obtain ⟨x247,e248,hF⟩:=bnd hF
   obtain ⟨l270,e271,hF⟩:=bnd hF
   obtain ⟨x275,e276,hF⟩:=bnd hF
   obtain rfl:=sj hF
   replace ok:Ok u m39 (M26 :: [(b46,Obj.cells [(Value.string (bs r37.1.Kind)),c43,(Value.string (bs r37.1.Next))].toArray 114 (0,0))] :: S) w:=(ok.pk 2 [1,0] rfl (by decide))
   obtain ⟨cs287,c288,M289,M290,M291,ok,hr292,hx293,he294,hh295⟩:=NRow.open h27 e248 ok
   obtain ⟨c297,rfl,l296,h298⟩:=he294
   refine qcO [10,11] (Cls u m39 (M289 :: [(b46,Obj.cells [(Value.string (bs r37.1.Kind)),c43,(Value.string (bs r37.1.Next))].toArray 114 (0,0))] :: [])) (Cls u m39 ([(b46,Obj.cells [(Value.string (bs r37.1.Kind)),c43,(Value.string (bs r37.1.Next))].toArray 114 (0,0))] :: [])) (by kernel_rfl) ?_
   intro w hw
   replace ok:=qcV ok hw
   clear hw
   have le_m39:=Mem.le.refl m39
   refine qaM (cl1 ⟨m39,_,le_m39,ok,⟨qal 0 rfl,qal 3 rfl,trivial⟩⟩ ⟨m39,_,le_m39,ok,⟨qal 3 rfl,trivial⟩⟩) fun hT=>kt 0 E rfl hT (qaa rfl) fun a E=>kt 1 E rfl hT (qaa rfl) fun a E=>kt 2 E rfl hT (qeo qbW hr292 hh295 rfl) fun a E=>kt 3 E rfl hT (qjS rfl rfl (InR.dec (NRow.InR h27) (show InR .i64 (0) by decide) hc242)) fun a E=>kt 4 E rfl hT (qaa rfl) fun a E=>kt 5 E rfl hT (qaa rfl) fun a E=>kt 6 E rfl hT (qeo qbW hr292 hh295 rfl) fun a E=>?_
   refine kt 7 E rfl hT (qjS rfl rfl (InR.dec (NRow.InR h27) (show InR .i64 (0) by decide) hc242)) fun a E=>?_
   obtain ⟨b299,o300,hp301,yy302⟩:=qfA qbW hr292 hx293 (P:=Tryz.prog) (X:=.tmp 63) (I:=.tmp 66) (kd:=.i64) (qao E rfl) (qao E rfl)
   refine kt 8 E rfl hT (yy302 _ _) fun a E=>kt 9 E rfl hT (qac qdb rfl) fun a E=>?_
   obtain ⟨hl303,hh304⟩:=qda hr292 hx293 hp301 (by decide)
   refine qbE 10 E rfl (by kernel_rfl) nP hT (qaj qeK rfl (qaf.sub 1 1 (qaf.crow hh304 0 rfl))) rfl rfl fun a E=>qbE 11 E rfl (by kernel_rfl) nP hT (qax (cs:=[(Value.string (bs r37.1.Kind)),c43,(Value.string (bs r37.1.Next))]) qdt rfl rfl (qaf.cown 1 rfl rfl)) rfl rfl fun a E=>qbj [12] (by kernel_rfl) rfl (qbk ?_)
   ·refine qaz (o:=_) rfl<|qbf (R:=qdn) (xo:=[.tmp 70]) (xs:=([r37.1]:List (Rule))) E ok qen qdx rfl ⟨⟨_,rfl,rfl,⟨_,rfl,l42,h44,l45⟩⟩,trivial⟩ rfl rfl rfl rfl fun c305 M306 a w E ok h307=>wn<|qaM (cl1 ⟨m39,_,le_m39,ok,⟨qal 1 rfl,qal 4 rfl,trivial⟩⟩ ⟨m39,_,le_m39,ok,⟨qal 4 rfl,trivial⟩⟩) fun hT=>qbj [13] (by kernel_rfl) rfl (qbk ?_)
    ·refine qaz (o:=_) rfl<|qcI (R:=qdn) E ok 2 qc7 qen Tryz.underlying106 rfl h298 (qbo.ofRow h307 0 rfl ok) e271 ⟨_,qdx,rfl⟩ rfl rfl rfl rfl fun c308 M309 a w E ok h310=>wn<|qaM (cl1 ⟨m39,_,le_m39,ok,⟨qal 1 rfl,qal 4 rfl,trivial⟩⟩ ⟨m39,_,le_m39,ok,⟨qal 4 rfl,trivial⟩⟩) fun hT=>?_
     obtain ⟨b311,o312,hp313,yy314⟩:=qfA qbW hr292 hx293 (P:=Tryz.prog) (X:=.tmp 59) (I:=.tmp 62) (kd:=.i64) (qao E rfl) (qao E rfl)
     refine kt 14 E rfl hT (yy314 _ _) fun a E=>kt 15 E rfl hT (qac qdb rfl) fun a E=>qbj [16] (by kernel_rfl) rfl (qbk ?_)
     ·refine qaz (o:=_) rfl<|qfN (f:=1) (c':=[(Value.string (bs x247.Name)),c308]) E ok 1 rfl hr292 hx293 hp313 rfl rfl rfl qla (ORow.cells h310) rfl rfl ⟨(ORow.one h310),trivial⟩ rfl ⟨rfl,(ORow.one h310),trivial⟩ rfl fun M315 w ok hr316 hx317=>?_
      have hh318:=qdH.set (c':=[(Value.string (bs x247.Name)),c308]) hh295
      refine wn<|qaM (cl2 (by kernel_rfl) ⟨m39,_,le_m39,ok,⟨qal 4 rfl,trivial⟩⟩) fun hT=>qcP (by kernel_rfl) ?_
      replace ok:Ok u m39 (M315 :: M309 :: M291 :: M306 :: [(b46,Obj.cells [(Value.string (bs r37.1.Kind)),c43,(Value.string (bs r37.1.Next))].toArray 114 (0,0))] :: S) w:=(ok.pk 5 [1,2,3,0,4] rfl (by decide))
      obtain ⟨M319,ok,h320⟩:=NRow.close e248 ok hr316 hx317 (show qcC m39 [(Value.string (bs x247.Name)),c308] (State.mk x247.Name l270) M309 from ⟨_,rfl,l296,h310⟩) hh318
      exact ⟨rfl,⟨c25,M319,(ok.pk 3 [2,0] rfl (by decide)),E.keep [0,5,7,8],h320⟩⟩
 replace hF:=qai hc47 hF
 replace E:=E.upd 36 hc47 rfl
 refine lv E ok (qaa rfl) fun a E=>?_
 obtain ⟨s48,e49,hF⟩:=bnd hF
 refine lv E ok (qaW Tryz.underlying9 e49 rfl rfl ⟨_,rfl⟩) fun a E=>lv E ok (qa1 rfl rfl) fun a E=>lv E ok (qak rfl rfl) fun a E=>lv E ok (qaa rfl) fun a E=>qas (s48 == ([115,116,97,116,101,32])) (fun hc50=>?_) (fun hc50=>?_)
 rotate_left
 ·as_aux_lemma =>
   replace hF:=qah hc50 hF
   replace E:=E.upd 41 hc50 rfl
   refine ls E fun a E=>ls E fun a E=>ls E fun a E=>lv E ok (qam rfl rfl) fun a E=>lv E ok (qab rfl) fun a E=>wn<|c_if E rfl (fun h=>by cases h) (fun _=>?_)
   refine sg<|lv E ok (qaa rfl) fun a E=>lv E ok (qaa rfl) fun a E=>qas r37.2 (fun hc158=>?_) (fun hc158=>?_)
   rotate_left
   ·replace hF:=qah hc158 hF
    replace E:=E.upd 54 hc158 rfl
    refine ls E fun a E=>ls E fun a E=>ls E fun a E=>lv E ok (qam rfl rfl) fun a E=>lv E ok (qab rfl) fun a E=>wn<|c_if E rfl (fun h=>by cases h) (fun _=>?_)
    refine sg<|lv E ok (qaa rfl) fun a E=>lv E ok (qab rfl) fun a E=>lv E ok (qab rfl) fun a E=>lv E ok (qab rfl) fun a E=>wn ?_
    refine wp_ret<|qap<|qan<|qap<|qan ?_
    have hret:qbs u m0 S ([],n_22,3) a w:=⟨m39,(.slice none 0 0),le_m0,ok.drop.drop,E.d,⟨rv_t E rfl,rv_t E rfl,rv_t E rfl,trivial⟩,qbA,r29,(show InR .i64 (3) by decide)⟩
    obtain rfl:=sj hF
    exact qaq (by nofun) (sr ⟨rfl,hret⟩)
   replace hF:=qai hc158 hF
   replace E:=E.upd 54 hc158 rfl
   refine lv E ok (qaa rfl) fun a E=>lv E ok (qjz qbW h27 rfl) fun a E=>lv E ok (qb4 rfl rfl) fun a E=>lv E ok (qak rfl rfl) fun a E=>lv E ok (qab rfl) fun a E=>wn<|c_if E rfl (fun hc159=>?_) (fun hc159=>?_)
   rotate_left
   ·replace hF:=qah hc159 hF
    refine sg<|lv E ok (qaa rfl) fun a E=>lv E ok (qab rfl) fun a E=>lv E ok (qab rfl) fun a E=>lv E ok (qab rfl) fun a E=>wn ?_
    refine wp_ret<|qap<|qan<|qap<|qan ?_
    have hret:qbs u m0 S ([],n_22,3) a w:=⟨m39,(.slice none 0 0),le_m0,ok.drop.drop,E.d,⟨rv_t E rfl,rv_t E rfl,rv_t E rfl,trivial⟩,qbA,r29,(show InR .i64 (3) by decide)⟩
    obtain rfl:=sj hF
    exact qaq (by nofun) (sr ⟨rfl,hret⟩)
   replace hF:=qai hc159 hF
   obtain ⟨o160,hJ,hF⟩:=bnd hF
   refine qbx (Q':=fun e a w=>e = .normal ∧ ∃ c161 M162,Ok u m39 ([(b46,Obj.cells [(Value.string (bs r37.1.Kind)),c43,(Value.string (bs r37.1.Next))].toArray 114 (0,0))] :: M162 :: S) w ∧ Env 88 a [(0,(Value.string (bs s_0))),(5,c161),(7,(Value.int .i64 n_22)),(8,(Value.int .i64 i_23))] ∧ NRow 108 2 qcC m39 c161 o160 M162) ?_ ?_
   rotate_left
   ·clear hJ
    intro e a w hO
    obtain ⟨rfl,c238,M239,ok,E,h240⟩:=hO
    refine qar<|qad<|qae<|lv E ok (qaa rfl) fun a E=>lv E ok (qaC rfl rfl (InR.inc r30 (InR.len ls_0) hc31)) fun a E=>lv E ok (qaa rfl) fun a E=>lv E ok (qaL rfl rfl) fun a E=>lv E ok (qab rfl) fun a E=>?_
    refine lv E ok (qab rfl) fun a E=>wpList_nil<|qar<|qad<|qae<|lv E ok (qaa rfl) fun a E=>lv E ok (qaC rfl rfl (InR.inc r30 (InR.len ls_0) hc31)) fun a E=>lv E ok (qab rfl) fun a E=>?_
    refine wpList_nil ?_
    obtain rfl:=sj hF
    exact qay ⟨m39,c238,M239,le_m0,(ok.pk 2 [1] rfl (by decide)),E.keep [0,5,6,7,8],h240,(InR.inc r30 (InR.len ls_0) hc31),(InR.wrap _ _),(InR.inc r30 (InR.len ls_0) hc31)⟩
   replace hF:=hJ
   clear hJ
   obtain ⟨x164,e165,hF⟩:=bnd hF
   obtain ⟨l187,e188,hF⟩:=bnd hF
   obtain ⟨x192,e193,hF⟩:=bnd hF
   obtain rfl:=sj hF
   replace ok:Ok u m39 (M26 :: [(b46,Obj.cells [(Value.string (bs r37.1.Kind)),c43,(Value.string (bs r37.1.Next))].toArray 114 (0,0))] :: S) w:=(ok.pk 2 [1,0] rfl (by decide))
   obtain ⟨cs204,c205,M206,M207,M208,ok,hr209,hx210,he211,hh212⟩:=NRow.open h27 e165 ok
   obtain ⟨c214,rfl,l213,h215⟩:=he211
   refine qcO [10,11] (Cls u m39 (M206 :: [(b46,Obj.cells [(Value.string (bs r37.1.Kind)),c43,(Value.string (bs r37.1.Next))].toArray 114 (0,0))] :: [])) (Cls u m39 ([(b46,Obj.cells [(Value.string (bs r37.1.Kind)),c43,(Value.string (bs r37.1.Next))].toArray 114 (0,0))] :: [])) (by kernel_rfl) ?_
   intro w hw
   replace ok:=qcV ok hw
   clear hw
   have le_m39:=Mem.le.refl m39
   refine qaM (cl1 ⟨m39,_,le_m39,ok,⟨qal 0 rfl,qal 3 rfl,trivial⟩⟩ ⟨m39,_,le_m39,ok,⟨qal 3 rfl,trivial⟩⟩) fun hT=>kt 0 E rfl hT (qaa rfl) fun a E=>kt 1 E rfl hT (qaa rfl) fun a E=>kt 2 E rfl hT (qeo qbW hr209 hh212 rfl) fun a E=>kt 3 E rfl hT (qjS rfl rfl (InR.dec (NRow.InR h27) (show InR .i64 (0) by decide) hc159)) fun a E=>kt 4 E rfl hT (qaa rfl) fun a E=>kt 5 E rfl hT (qaa rfl) fun a E=>kt 6 E rfl hT (qeo qbW hr209 hh212 rfl) fun a E=>?_
   refine kt 7 E rfl hT (qjS rfl rfl (InR.dec (NRow.InR h27) (show InR .i64 (0) by decide) hc159)) fun a E=>?_
   obtain ⟨b216,o217,hp218,yy219⟩:=qfA qbW hr209 hx210 (P:=Tryz.prog) (X:=.tmp 63) (I:=.tmp 66) (kd:=.i64) (qao E rfl) (qao E rfl)
   refine kt 8 E rfl hT (yy219 _ _) fun a E=>kt 9 E rfl hT (qac qdb rfl) fun a E=>?_
   obtain ⟨hl220,hh221⟩:=qda hr209 hx210 hp218 (by decide)
   refine qbE 10 E rfl (by kernel_rfl) nP hT (qaj qeK rfl (qaf.sub 1 1 (qaf.crow hh221 0 rfl))) rfl rfl fun a E=>qbE 11 E rfl (by kernel_rfl) nP hT (qax (cs:=[(Value.string (bs r37.1.Kind)),c43,(Value.string (bs r37.1.Next))]) qdt rfl rfl (qaf.cown 1 rfl rfl)) rfl rfl fun a E=>qbj [12] (by kernel_rfl) rfl (qbk ?_)
   ·refine qaz (o:=_) rfl<|qbf (R:=qdn) (xo:=[.tmp 70]) (xs:=([r37.1]:List (Rule))) E ok qen qdx rfl ⟨⟨_,rfl,rfl,⟨_,rfl,l42,h44,l45⟩⟩,trivial⟩ rfl rfl rfl rfl fun c222 M223 a w E ok h224=>wn<|qaM (cl1 ⟨m39,_,le_m39,ok,⟨qal 1 rfl,qal 4 rfl,trivial⟩⟩ ⟨m39,_,le_m39,ok,⟨qal 4 rfl,trivial⟩⟩) fun hT=>qbj [13] (by kernel_rfl) rfl (qbk ?_)
    ·refine qaz (o:=_) rfl<|qcI (R:=qdn) E ok 2 qc7 qen Tryz.underlying106 rfl h215 (qbo.ofRow h224 0 rfl ok) e188 ⟨_,qdx,rfl⟩ rfl rfl rfl rfl fun c225 M226 a w E ok h227=>wn<|qaM (cl1 ⟨m39,_,le_m39,ok,⟨qal 1 rfl,qal 4 rfl,trivial⟩⟩ ⟨m39,_,le_m39,ok,⟨qal 4 rfl,trivial⟩⟩) fun hT=>?_
     obtain ⟨b228,o229,hp230,yy231⟩:=qfA qbW hr209 hx210 (P:=Tryz.prog) (X:=.tmp 59) (I:=.tmp 62) (kd:=.i64) (qao E rfl) (qao E rfl)
     refine kt 14 E rfl hT (yy231 _ _) fun a E=>kt 15 E rfl hT (qac qdb rfl) fun a E=>qbj [16] (by kernel_rfl) rfl (qbk ?_)
     ·refine qaz (o:=_) rfl<|qfN (f:=1) (c':=[(Value.string (bs x164.Name)),c225]) E ok 1 rfl hr209 hx210 hp230 rfl rfl rfl qla (ORow.cells h227) rfl rfl ⟨(ORow.one h227),trivial⟩ rfl ⟨rfl,(ORow.one h227),trivial⟩ rfl fun M232 w ok hr233 hx234=>?_
      have hh235:=qdH.set (c':=[(Value.string (bs x164.Name)),c225]) hh212
      refine wn<|qaM (cl2 (by kernel_rfl) ⟨m39,_,le_m39,ok,⟨qal 4 rfl,trivial⟩⟩) fun hT=>qcP (by kernel_rfl) ?_
      replace ok:Ok u m39 (M232 :: M226 :: M208 :: M223 :: [(b46,Obj.cells [(Value.string (bs r37.1.Kind)),c43,(Value.string (bs r37.1.Next))].toArray 114 (0,0))] :: S) w:=(ok.pk 5 [1,2,3,0,4] rfl (by decide))
      obtain ⟨M236,ok,h237⟩:=NRow.close e165 ok hr233 hx234 (show qcC m39 [(Value.string (bs x164.Name)),c225] (State.mk x164.Name l187) M226 from ⟨_,rfl,l213,h227⟩) hh235
      exact ⟨rfl,⟨c25,M236,(ok.pk 3 [2,0] rfl (by decide)),E.keep [0,5,7,8],h237⟩⟩
 replace hF:=qai hc50 hF
 replace E:=E.upd 41 hc50 rfl
 refine lv E ok (qaa rfl) fun a E=>?_
 obtain ⟨s51,e52,hF⟩:=bnd hF
 refine lv E ok (qaW Tryz.underlying9 e52 rfl ⟨_,rfl⟩ rfl) fun a E=>?_
 obtain ⟨r53,e54,hF⟩:=bnd hF
 refine qaw E qlz rfl (qem N s51 (Nat.le_trans (qb1 e52) (Nat.le_trans (qb1 e36) ls_0)) e54 hG ok) rfl rfl ?_
 rintro _ w ⟨rfl,ok⟩
 refine ⟨_,rfl,fun a E=>?_⟩
 refine lv E ok (qak rfl rfl) fun a E=>lv E ok (qab rfl) fun a E=>wn ?_
 obtain ⟨o55,hJ,hF⟩:=bnd hF
 refine qbx (Q':=fun e a w=>(Sum.elim (fun b56=>e = .normal ∧ ∃ c57 M58,Ok u m39 ([(b46,Obj.cells [(Value.string (bs r37.1.Kind)),c43,(Value.string (bs r37.1.Next))].toArray 114 (0,0))] :: M58 :: S) w ∧ Env 88 a [(0,(Value.string (bs s_0))),(5,c57),(7,(Value.int .i64 n_22)),(8,(Value.int .i64 i_23))] ∧ NRow 108 2 qcC m39 c57 b56 M58) (fun b60=>e = .ret ∧ qbs u m0 S b60 a w)) o55) ?_ ?_
 rotate_left
 ·clear hJ
  intro e a w hO
  rcases o55 with o55 | o55
  rotate_left
  ·replace hF:=qba hF
   obtain ⟨rfl,hret⟩:=hO
   refine qap<|qan<|qap<|qan ?_
   obtain rfl:=sj hF
   exact qaq (by nofun) (sr ⟨rfl,hret⟩)
  replace hF:=qa9 hF
  obtain ⟨rfl,c155,M156,ok,E,h157⟩:=hO
  refine qar<|qad<|qae<|lv E ok (qaa rfl) fun a E=>lv E ok (qaC rfl rfl (InR.inc r30 (InR.len ls_0) hc31)) fun a E=>lv E ok (qaa rfl) fun a E=>lv E ok (qaL rfl rfl) fun a E=>lv E ok (qab rfl) fun a E=>?_
  refine lv E ok (qab rfl) fun a E=>wpList_nil<|qar<|qad<|qae<|lv E ok (qaa rfl) fun a E=>lv E ok (qaC rfl rfl (InR.inc r30 (InR.len ls_0) hc31)) fun a E=>lv E ok (qab rfl) fun a E=>?_
  refine wpList_nil ?_
  obtain rfl:=sj hF
  exact qay ⟨m39,c155,M156,le_m0,(ok.pk 2 [1] rfl (by decide)),E.keep [0,5,6,7,8],h157,(InR.inc r30 (InR.len ls_0) hc31),(InR.wrap _ _),(InR.inc r30 (InR.len ls_0) hc31)⟩
 replace hF:=hJ
 clear hJ
 refine c_if E rfl (fun hc61=>?_) (fun hc61=>?_)
 ·replace hF:=qai hc61 hF
  refine qae<|lv E ok (qaa rfl) fun a E=>lv E ok (qaa rfl) fun a E=>?_
  obtain ⟨s62,e63,hF⟩:=bnd hF
  refine lv E ok (qaW Tryz.underlying9 e63 rfl ⟨_,rfl⟩ rfl) fun a E=>lv E ok (qa6 (ps:=[(0,.tmp 48)]) (qs:=[(0,[(Value.string (bs s62))])]) (cs:=[(Value.string (bs s62)),(Value.slice none 0 0)]) qkh qm5 rfl ⟨rfl,rfl,rfl,trivial⟩ rfl) fun a E=>qbf (R:=pRaw) (xo:=[.tmp 49]) (xs:=[[(Value.string (bs s62)),(Value.slice none 0 0)]]) E ok qbW qkh rfl ⟨⟨_,rfl,rfl,⟨rfl,⟨rfl,rfl,trivial⟩⟩⟩,trivial⟩ rfl rfl rfl rfl fun c64 M65 a w E ok h66=>?_
  replace ok:Ok u m39 (M26 :: M65 :: [(b46,Obj.cells [(Value.string (bs r37.1.Kind)),c43,(Value.string (bs r37.1.Next))].toArray 114 (0,0))] :: S) w:=(ok.pk 3 [2,0,1] rfl (by decide))
  obtain ⟨l67,e68,hF⟩:=bnd hF
  refine qkH (R:=qcC) E ok.addnil.swap2 qbW Tryz.underlying39 h27 (qbo.ofRow h66 1 rfl ok) ⟨_,rfl,(Nat.le_trans (qb1 e63) (Nat.le_trans (qb1 e36) ls_0)),ORow.nil⟩ e68 ⟨_,qkh,rfl⟩ rfl rfl rfl rfl fun c69 M70 a w E ok h71=>lv E ok (qab rfl) fun a E=>wpList_nil ?_
  obtain rfl:=sj hF
  exact (sl ⟨rfl,⟨c69,M70,(ok.pk 3 [2,0] rfl (by decide)),E.keep [0,5,7,8],h71⟩⟩)
 replace hF:=qah hc61 hF
 refine sg<|lv E ok (qaa rfl) fun a E=>lv E ok (qaa rfl) fun a E=>qas r37.2 (fun hc72=>?_) (fun hc72=>?_)
 rotate_left
 ·replace hF:=qah hc72 hF
  replace E:=E.upd 54 hc72 rfl
  refine ls E fun a E=>ls E fun a E=>ls E fun a E=>lv E ok (qam rfl rfl) fun a E=>lv E ok (qab rfl) fun a E=>wn<|c_if E rfl (fun h=>by cases h) (fun _=>?_)
  refine sg<|lv E ok (qaa rfl) fun a E=>lv E ok (qab rfl) fun a E=>lv E ok (qab rfl) fun a E=>lv E ok (qab rfl) fun a E=>wn ?_
  refine wp_ret ?_
  have hret:qbs u m0 S ([],n_22,3) a w:=⟨m39,(.slice none 0 0),le_m0,ok.drop.drop,E.d,⟨rv_t E rfl,rv_t E rfl,rv_t E rfl,trivial⟩,qbA,r29,(show InR .i64 (3) by decide)⟩
  obtain rfl:=sj hF
  exact (sr ⟨rfl,hret⟩)
 replace hF:=qai hc72 hF
 replace E:=E.upd 54 hc72 rfl
 refine lv E ok (qaa rfl) fun a E=>lv E ok (qjz qbW h27 rfl) fun a E=>lv E ok (qb4 rfl rfl) fun a E=>lv E ok (qak rfl rfl) fun a E=>lv E ok (qab rfl) fun a E=>wn<|c_if E rfl (fun hc73=>?_) (fun hc73=>?_)
 rotate_left
 ·replace hF:=qah hc73 hF
  refine sg<|lv E ok (qaa rfl) fun a E=>lv E ok (qab rfl) fun a E=>lv E ok (qab rfl) fun a E=>lv E ok (qab rfl) fun a E=>wn ?_
  refine wp_ret ?_
  have hret:qbs u m0 S ([],n_22,3) a w:=⟨m39,(.slice none 0 0),le_m0,ok.drop.drop,E.d,⟨rv_t E rfl,rv_t E rfl,rv_t E rfl,trivial⟩,qbA,r29,(show InR .i64 (3) by decide)⟩
  obtain rfl:=sj hF
  exact (sr ⟨rfl,hret⟩)
 replace hF:=qai hc73 hF
 obtain ⟨o74,hJ,hF⟩:=bnd hF
 refine qbx (Q':=fun e a w=>e = .normal ∧ ∃ c75 M76,Ok u m39 ([(b46,Obj.cells [(Value.string (bs r37.1.Kind)),c43,(Value.string (bs r37.1.Next))].toArray 114 (0,0))] :: M76 :: S) w ∧ Env 88 a [(0,(Value.string (bs s_0))),(5,c75),(7,(Value.int .i64 n_22)),(8,(Value.int .i64 i_23))] ∧ NRow 108 2 qcC m39 c75 o74 M76) ?_ ?_
 rotate_left
 ·clear hJ
  intro e a w hO
  obtain ⟨rfl,c152,M153,ok,E,h154⟩:=hO
  obtain rfl:=sj hF
  exact (sl ⟨rfl,⟨c152,M153,ok,E.keep [0,5,7,8],h154⟩⟩)
 replace hF:=hJ
 clear hJ
 obtain ⟨x78,e79,hF⟩:=bnd hF
 obtain ⟨l101,e102,hF⟩:=bnd hF
 obtain ⟨x106,e107,hF⟩:=bnd hF
 obtain rfl:=sj hF
 replace ok:Ok u m39 (M26 :: [(b46,Obj.cells [(Value.string (bs r37.1.Kind)),c43,(Value.string (bs r37.1.Next))].toArray 114 (0,0))] :: S) w:=(ok.pk 2 [1,0] rfl (by decide))
 obtain ⟨cs118,c119,M120,M121,M122,ok,hr123,hx124,he125,hh126⟩:=NRow.open h27 e79 ok
 obtain ⟨c128,rfl,l127,h129⟩:=he125
 refine qcO [10,11] (Cls u m39 (M120 :: [(b46,Obj.cells [(Value.string (bs r37.1.Kind)),c43,(Value.string (bs r37.1.Next))].toArray 114 (0,0))] :: [])) (Cls u m39 ([(b46,Obj.cells [(Value.string (bs r37.1.Kind)),c43,(Value.string (bs r37.1.Next))].toArray 114 (0,0))] :: [])) (by kernel_rfl) ?_
 intro w hw
 replace ok:=qcV ok hw
 clear hw
 have le_m39:=Mem.le.refl m39
 refine qaM (cl1 ⟨m39,_,le_m39,ok,⟨qal 0 rfl,qal 3 rfl,trivial⟩⟩ ⟨m39,_,le_m39,ok,⟨qal 3 rfl,trivial⟩⟩) fun hT=>kt 0 E rfl hT (qaa rfl) fun a E=>kt 1 E rfl hT (qaa rfl) fun a E=>kt 2 E rfl hT (qeo qbW hr123 hh126 rfl) fun a E=>kt 3 E rfl hT (qjS rfl rfl (InR.dec (NRow.InR h27) (show InR .i64 (0) by decide) hc73)) fun a E=>kt 4 E rfl hT (qaa rfl) fun a E=>kt 5 E rfl hT (qaa rfl) fun a E=>kt 6 E rfl hT (qeo qbW hr123 hh126 rfl) fun a E=>?_
 refine kt 7 E rfl hT (qjS rfl rfl (InR.dec (NRow.InR h27) (show InR .i64 (0) by decide) hc73)) fun a E=>?_
 obtain ⟨b130,o131,hp132,yy133⟩:=qfA qbW hr123 hx124 (P:=Tryz.prog) (X:=.tmp 63) (I:=.tmp 66) (kd:=.i64) (qao E rfl) (qao E rfl)
 refine kt 8 E rfl hT (yy133 _ _) fun a E=>kt 9 E rfl hT (qac qdb rfl) fun a E=>?_
 obtain ⟨hl134,hh135⟩:=qda hr123 hx124 hp132 (by decide)
 refine qbE 10 E rfl (by kernel_rfl) nP hT (qaj qeK rfl (qaf.sub 1 1 (qaf.crow hh135 0 rfl))) rfl rfl fun a E=>qbE 11 E rfl (by kernel_rfl) nP hT (qax (cs:=[(Value.string (bs r37.1.Kind)),c43,(Value.string (bs r37.1.Next))]) qdt rfl rfl (qaf.cown 1 rfl rfl)) rfl rfl fun a E=>qbj [12] (by kernel_rfl) rfl (qbk ?_)
 ·refine qaz (o:=_) rfl<|qbf (R:=qdn) (xo:=[.tmp 70]) (xs:=([r37.1]:List (Rule))) E ok qen qdx rfl ⟨⟨_,rfl,rfl,⟨_,rfl,l42,h44,l45⟩⟩,trivial⟩ rfl rfl rfl rfl fun c136 M137 a w E ok h138=>wn<|qaM (cl1 ⟨m39,_,le_m39,ok,⟨qal 1 rfl,qal 4 rfl,trivial⟩⟩ ⟨m39,_,le_m39,ok,⟨qal 4 rfl,trivial⟩⟩) fun hT=>qbj [13] (by kernel_rfl) rfl (qbk ?_)
  ·refine qaz (o:=_) rfl<|qcI (R:=qdn) E ok 2 qc7 qen Tryz.underlying106 rfl h129 (qbo.ofRow h138 0 rfl ok) e102 ⟨_,qdx,rfl⟩ rfl rfl rfl rfl fun c139 M140 a w E ok h141=>wn<|qaM (cl1 ⟨m39,_,le_m39,ok,⟨qal 1 rfl,qal 4 rfl,trivial⟩⟩ ⟨m39,_,le_m39,ok,⟨qal 4 rfl,trivial⟩⟩) fun hT=>?_
   obtain ⟨b142,o143,hp144,yy145⟩:=qfA qbW hr123 hx124 (P:=Tryz.prog) (X:=.tmp 59) (I:=.tmp 62) (kd:=.i64) (qao E rfl) (qao E rfl)
   refine kt 14 E rfl hT (yy145 _ _) fun a E=>kt 15 E rfl hT (qac qdb rfl) fun a E=>qbj [16] (by kernel_rfl) rfl (qbk ?_)
   ·refine qaz (o:=_) rfl<|qfN (f:=1) (c':=[(Value.string (bs x78.Name)),c139]) E ok 1 rfl hr123 hx124 hp144 rfl rfl rfl qla (ORow.cells h141) rfl rfl ⟨(ORow.one h141),trivial⟩ rfl ⟨rfl,(ORow.one h141),trivial⟩ rfl fun M146 w ok hr147 hx148=>?_
    have hh149:=qdH.set (c':=[(Value.string (bs x78.Name)),c139]) hh126
    refine wn<|qaM (cl2 (by kernel_rfl) ⟨m39,_,le_m39,ok,⟨qal 4 rfl,trivial⟩⟩) fun hT=>qcP (by kernel_rfl) ?_
    replace ok:Ok u m39 (M146 :: M140 :: M122 :: M137 :: [(b46,Obj.cells [(Value.string (bs r37.1.Kind)),c43,(Value.string (bs r37.1.Next))].toArray 114 (0,0))] :: S) w:=(ok.pk 5 [1,2,3,0,4] rfl (by decide))
    obtain ⟨M150,ok,h151⟩:=NRow.close e79 ok hr147 hx148 (show qcC m39 [(Value.string (bs x78.Name)),c139] (State.mk x78.Name l101) M140 from ⟨_,rfl,l127,h141⟩) hh149
    exact ⟨rfl,⟨c25,M150,(ok.pk 3 [2,0] rfl (by decide)),E.keep [0,5,7,8],h151⟩⟩
def qgM (u:World) (m0:Mem) (S:Segs) (r:(List (Item))) (a:Act) (w:World):Prop :=
 ∃ m1 v0,m0.le m1 ∧ Ok u m1 S w ∧ a.defers = [] ∧ RVs Tryz.prog a w [.t 2 v0] ∧ (pL 5 qbJ) m1 [v0] r
set_option maxHeartbeats 4000000 in
set_option maxRecDepth 100000 in
theorem qjl {u:World} {m0:Mem} {S:Segs} {w:World} (N:Nat) (vl_0:Value) (l_0:List (Item)) (hl_0:(pL 5 qbJ) m0 [vl_0] l_0) {r:(List (Item))} (hF:qf3 N l_0 = some r) (hG:Glob u) (ok:Ok u m0 S w) :
  Calls Tryz.prog 37 [vl_0].toArray w fun e w'=>∃ m1 v0,e = .returned v0 ∧ m0.le m1 ∧ Ok u m1 S w' ∧ (pL 5 qbJ) m1 [v0] r:=by
 have le_m0:=Mem.le.refl m0
 unfold qf3 at hF
 have fin:∀ a w,qgM u m0 S r a w → bodyPost Tryz.prog Tryz.f37 (fun e w'=>∃ m1 v0,e = .returned v0 ∧ m0.le m1 ∧ Ok u m1 S w' ∧ (pL 5 qbJ) m1 [v0] r) .ret a w:=by
  intro a w h
  obtain ⟨m1,v0,hle,ok,hd,hrv,h0⟩:=h
  exact qaK [.t 2 v0] hd rfl hrv ⟨m1,v0,rfl,hle,ok,h0⟩
 refine enter Tryz.func37 rfl rfl rfl fun a E=>sg<|lv E ok (qab rfl) fun a E=>wn<|sg ?_
 refine lv E ok (qab rfl) fun a E=>wn<|wp_seq<|sg<|lv E ok (qab rfl) fun a E=>wpList_nil ?_
 refine qad<|wp_block ?_
 obtain ⟨M6,ok,h7⟩:=qdp (e:=154) (k:=5) (R:=qbJ) ok
 obtain ⟨o8,hL,hF⟩:=bnd hF
 refine qaR _ (fun (s:(List (Item)) × Int) a w=>∃ m9 c10 M11,m0.le m9 ∧ Ok u m9 (M11 :: S) w ∧ Env 62 a [(0,vl_0),(3,c10),(4,(Value.int .i64 s.2))] ∧ ORow 154 5 qbJ m9 c10 s.1 M11 ∧ InR .i64 s.2) (fun (b:((List (Item)))) e a w=>e = (.exit 0) ∧ ∃ m280 c281 M282,m0.le m280 ∧ Ok u m280 (M282 :: S) w ∧ Env 62 a [(3,c281)] ∧ ORow 154 5 qbJ m280 c281 b M282) ?_ ?_ N _ a w hL ⟨m0,(Value.slice none 0 0),M6,Mem.le.refl _,ok,E.keep [0,3,4],h7,(show InR .i64 (0) by decide)⟩
 rotate_left
 ·intro e a w _ hO
  obtain ⟨rfl,m274,c275,M276,hle,ok,E,h277⟩:=hO
  have le_m0:=le_m0.trans hle
  have hl_0:=(mL qdc).up hle hl_0
  refine qaT<|qad<|sg<|lv E ok (qaa rfl) fun a E=>lv E ok (qab rfl) fun a E=>wn ?_
  refine wp_ret ?_
  obtain ⟨m278,hle,ok,hfz⟩:=(ok.frs 0 rfl).freeze
  have h279:=ORow.froz qdc h277 hle hfz (by decide)
  have le_m0:=le_m0.trans hle
  have hl_0:=(mL qdc).up hle hl_0
  have hret:qgM u m0 S o8 a w:=⟨m278,c275,le_m0,ok,E.d,⟨rv_t E rfl,trivial⟩,h279⟩
  obtain rfl:=sj hF
  exact fin _ _ hret
 rintro ⟨out_14,i_15⟩ a w r ⟨m16,c17,M18,hle,ok,E,h19,r20⟩ hF
 replace hF:qe1 N l_0 out_14 i_15 = some r:=hF
 unfold qe1 at hF
 have le_m0:=le_m0.trans hle
 have hl_0:=(mL qdc).up hle hl_0
 refine wp_seq<|sg<|lv E ok (qaa rfl) fun a E=>lv E ok (qaa rfl) fun a E=>lv E ok (qaG qcY hl_0 rfl) fun a E=>lv E ok (qaB rfl rfl) fun a E=>wpList_nil ?_
 refine qad<|c_if E rfl (fun hc21=>?_) (fun hc21=>?_)
 rotate_left
 ·replace hF:=qah hc21 hF
  refine wp_exit<|qaD ?_
  obtain rfl:=sj hF
  exact qaq (by nofun) (⟨rfl,⟨m16,c17,M18,le_m0,ok,E.keep [3],h19⟩⟩)
 replace hF:=qai hc21 hF
 refine wp_skip<|qad<|wp_seq<|wp_block<|wp_seq ?_
 obtain ⟨o22,hJ,hF⟩:=bnd hF
 refine qbx (Q':=fun e a w=>e = .normal ∧ ∃ b26,Ok u m16 ([(b26,Obj.cells [(Value.string (bs o22.Text)),(Value.slice none 0 0),(Value.bool o22.Not),(Value.int .i64 o22.Least),(Value.int .i64 o22.Most)].toArray 154 (0,0))] :: M18 :: S) w ∧ Env 62 a [(0,vl_0),(3,c17),(4,(Value.int .i64 i_15)),(5,(Value.pointer (some ⟨b26,0,none⟩)))] ∧ o22.Text.length ≤ LIMS ∧ InR .i64 o22.Least ∧ InR .i64 o22.Most) ?_ ?_
 ·replace hF:=hJ
  clear hJ
  obtain ⟨x27,e28,hF⟩:=bnd hF
  obtain ⟨x41,e42,hF⟩:=bnd hF
  obtain ⟨x55,e56,hF⟩:=bnd hF
  obtain ⟨x69,e70,hF⟩:=bnd hF
  obtain rfl:=sj hF
  refine qcO [] (Cls u m16 (M18 :: [])) (Cls u m16 (M18 :: [])) (by kernel_rfl) ?_
  intro w hw
  replace ok:=qcV ok hw
  clear hw
  have le_m16:=Mem.le.refl m16
  refine qaM (cl1 ⟨m16,_,le_m16,ok,⟨qal 0 rfl,trivial⟩⟩ ⟨m16,_,le_m16,ok,⟨qal 0 rfl,trivial⟩⟩) fun hT=>kt 0 E rfl hT (qaa rfl) fun a E=>kt 1 E rfl hT (qaa rfl) fun a E=>?_
  obtain ⟨b84,o85,es86,hl87,rr88,at89,yy90⟩:=qaI qcY hl_0 e28 (P:=Tryz.prog) (X:=.tmp 13) (I:=.tmp 14) (kd:=.i64) (qao E rfl) (qao E rfl)
  obtain ⟨c92,rfl,l91,h93,r94,r95⟩:=rr88
  refine kt 2 E rfl hT (yy90 _ _) fun a E=>kt 3 E rfl hT (qac qfG rfl) fun a E=>kt 4 E rfl hT (qaj qav rfl (qaf.cro (At.sub 0 1 at89))) fun a E=>kt 5 E rfl hT (qaa rfl) fun a E=>kt 6 E rfl hT (qaa rfl) fun a E=>?_
  obtain ⟨b96,o97,es98,hl99,rr100,at101,yy102⟩:=qaI qcY hl_0 e42 (P:=Tryz.prog) (X:=.tmp 18) (I:=.tmp 19) (kd:=.i64) (qao E rfl) (qao E rfl)
  obtain ⟨c104,rfl,l103,h105,r106,r107⟩:=rr100
  refine kt 7 E rfl hT (yy102 _ _) fun a E=>kt 8 E rfl hT (qac qh1 rfl) fun a E=>kt 9 E rfl hT (qaj qgz rfl (qaf.cro (At.sub 2 1 at101))) fun a E=>kt 10 E rfl hT (qaa rfl) fun a E=>kt 11 E rfl hT (qaa rfl) fun a E=>?_
  obtain ⟨b108,o109,es110,hl111,rr112,at113,yy114⟩:=qaI qcY hl_0 e56 (P:=Tryz.prog) (X:=.tmp 23) (I:=.tmp 24) (kd:=.i64) (qao E rfl) (qao E rfl)
  obtain ⟨c116,rfl,l115,h117,r118,r119⟩:=rr112
  refine kt 12 E rfl hT (yy114 _ _) fun a E=>kt 13 E rfl hT (qac qdI rfl) fun a E=>kt 14 E rfl hT (qaj qa0 rfl (qaf.cro (At.sub 3 1 at113))) fun a E=>kt 15 E rfl hT (qaa rfl) fun a E=>kt 16 E rfl hT (qaa rfl) fun a E=>?_
  obtain ⟨b120,o121,es122,hl123,rr124,at125,yy126⟩:=qaI qcY hl_0 e70 (P:=Tryz.prog) (X:=.tmp 28) (I:=.tmp 29) (kd:=.i64) (qao E rfl) (qao E rfl)
  obtain ⟨c128,rfl,l127,h129,r130,r131⟩:=rr124
  refine kt 17 E rfl hT (yy126 _ _) fun a E=>kt 18 E rfl hT (qac qdJ rfl) fun a E=>kt 19 E rfl hT (qaj qa0 rfl (qaf.cro (At.sub 4 1 at125))) fun a E=>kt 20 E rfl hT (qa6 (ps:=[(0,.tmp 17),(2,.tmp 22),(3,.tmp 27),(4,.tmp 32)]) (qs:=[(0,[(Value.string (bs x27.Text))]),(2,[(Value.bool x41.Not)]),(3,[(Value.int .i64 x55.Least)]),(4,[(Value.int .i64 x69.Most)])]) (cs:=[(Value.string (bs x27.Text)),(Value.slice none 0 0),(Value.bool x41.Not),(Value.int .i64 x55.Least),(Value.int .i64 x69.Most)]) qgc qm9 rfl ⟨rfl,rfl,rfl,⟨rfl,rfl,rfl,⟨rfl,rfl,rfl,⟨rfl,rfl,rfl,trivial⟩⟩⟩⟩ rfl) fun a E=>qbj [21] (by kernel_rfl) rfl (qbk ?_)
  ·refine qaz (o:=_) rfl<|qaZ E ok qgc rfl rfl fun b132 a w E ok=>wn<|qaM (cl1 ⟨m16,_,le_m16,ok,⟨qal 1 rfl,trivial⟩⟩ ⟨m16,_,le_m16,ok,⟨qal 1 rfl,trivial⟩⟩) fun hT=>qbj [22] (by kernel_rfl) rfl (qbk ?_)
   ·refine qaz (o:=_) rfl<|qat E ok 0 rfl rfl rfl qjQ rfl rfl ⟨rfl,rfl,rfl,rfl,rfl,trivial⟩ rfl rfl fun w ok=>wn<|qaM (cl1 ⟨m16,_,le_m16,ok,⟨qal 1 rfl,trivial⟩⟩ ⟨m16,_,le_m16,ok,⟨qal 1 rfl,trivial⟩⟩) fun hT=>qcP (by kernel_rfl) ?_
    exact ⟨rfl,⟨b132,ok,E.keep [0,3,4,5],l91,r118,r131⟩⟩
 clear hJ
 intro e a w hO
 obtain ⟨rfl,b136,ok,E,l133,r134,r135⟩:=hO
 refine qad<|wp_seq<|sg<|lv E ok (qab rfl) fun a E=>wn<|wp_block ?_
 obtain ⟨M145,ok,h146⟩:=qdp (e:=156) (k:=2) (R:=qbM) ok
 obtain ⟨o147,hL,hF⟩:=bnd hF
 refine qaR _ (fun (s:Int × Item) a w=>∃ c150 M151,Ok u m16 (M151 :: [(b136,Obj.cells [(Value.string (bs s.2.Text)),c150,(Value.bool s.2.Not),(Value.int .i64 s.2.Least),(Value.int .i64 s.2.Most)].toArray 154 (0,0))] :: M18 :: S) w ∧ Env 62 a [(0,vl_0),(3,c17),(4,(Value.int .i64 i_15)),(5,(Value.pointer (some ⟨b136,0,none⟩))),(6,(Value.int .i64 s.1))] ∧ InR .i64 s.1 ∧ s.2.Text.length ≤ LIMS ∧ ORow 156 2 qbM m16 c150 s.2.Ranges M151 ∧ InR .i64 s.2.Least ∧ InR .i64 s.2.Most) (fun (b:Item) e a w=>e = (.exit 2) ∧ ∃ c269 M270,Ok u m16 (M270 :: [(b136,Obj.cells [(Value.string (bs b.Text)),c269,(Value.bool b.Not),(Value.int .i64 b.Least),(Value.int .i64 b.Most)].toArray 154 (0,0))] :: M18 :: S) w ∧ Env 62 a [(0,vl_0),(3,c17),(4,(Value.int .i64 i_15)),(5,(Value.pointer (some ⟨b136,0,none⟩)))] ∧ b.Text.length ≤ LIMS ∧ ORow 156 2 qbM m16 c269 b.Ranges M270 ∧ InR .i64 b.Least ∧ InR .i64 b.Most) ?_ ?_ N _ a w hL ⟨(Value.slice none 0 0),M145,ok,E.keep [0,3,4,5,6],(show InR .i64 (0) by decide),l133,h146,r134,r135⟩
 rotate_left
 ·intro e a w _ hO
  obtain ⟨rfl,c253,M254,ok,E,l252,h255,r256,r257⟩:=hO
  refine qaT<|qad<|qae<|lv E ok (qaa rfl) fun a E=>lv E ok (qax (cs:=[(Value.string (bs o147.Text)),c253,(Value.bool o147.Not),(Value.int .i64 o147.Least),(Value.int .i64 o147.Most)]) qeL rfl rfl (qaf.own 1 rfl rfl)) fun a E=>?_
  obtain ⟨m258,hle,ok,hfz⟩:=(ok.frs 0 rfl).freeze
  have h259:=ORow.froz qeh h255 hle hfz (by decide)
  have le_m0:=le_m0.trans hle
  have hl_0:=(mL qdc).up hle hl_0
  have h19:=ORow.up qdc hle h19
  refine qbf (R:=qbJ) (xo:=[.tmp 58]) (xs:=([o147]:List (Item))) E ok qdZ qgc rfl ⟨⟨_,rfl,rfl,⟨_,rfl,l252,h259,r256,r257⟩⟩,trivial⟩ rfl rfl rfl rfl fun c260 M261 a w E ok h262=>?_
  obtain ⟨l263,e264,hF⟩:=bnd hF
  refine qkL (R:=qbJ) E ok 2 qdc qdZ Tryz.underlying115 rfl h19 (qbo.ofRow h262 0 rfl ok) e264 (qih qpr) ⟨_,qgc,rfl⟩ rfl rfl rfl rfl fun c265 M266 a w E ok h267=>lv E ok (qab rfl) fun a E=>wpList_nil<|qar<|qad<|qae<|lv E ok (qaa rfl) fun a E=>lv E ok (qaC rfl rfl (InR.inc r20 (qau hl_0) hc21)) fun a E=>?_
  refine lv E ok (qab rfl) fun a E=>wpList_nil ?_
  obtain rfl:=sj hF
  exact qay ⟨m258,c265,M266,le_m0,(ok.pk 3 [2] rfl (by decide)),E.keep [0,3,4],h267,(InR.inc r20 (qau hl_0) hc21)⟩
 rintro ⟨k_155,x_156⟩ a w r ⟨c159,M160,ok,E,r157,l158,h161,r162,r163⟩ hF
 replace hF:qeW N l_0 i_15 k_155 x_156 = some r:=hF
 unfold qeW at hF
 refine wp_seq<|sg<|lv E ok (qaa rfl) fun a E=>lv E ok (qaa rfl) fun a E=>lv E ok (qaa rfl) fun a E=>?_
 obtain ⟨x164,e165,hF⟩:=bnd hF
 obtain ⟨b166,o167,es168,hl169,rr170,at171,yy172⟩:=qaI qcY hl_0 e165 (P:=Tryz.prog) (X:=.tmp 35) (I:=.tmp 36) (kd:=.i64) (qao E rfl) (qao E rfl)
 obtain ⟨c174,rfl,l173,h175,r176,r177⟩:=rr170
 refine lv E ok (yy172 _ _) fun a E=>lv E ok (qac qbp rfl) fun a E=>lv E ok (qaj qb2 rfl (qaf.ro (At.sub 1 1 at171))) fun a E=>lv E ok (qaG qbR h175 rfl) fun a E=>lv E ok (qaB rfl rfl) fun a E=>wn<|c_if E rfl (fun hc178=>?_) (fun hc178=>?_)
 rotate_left
 ·replace hF:=qah hc178 hF
  refine wp_exit<|qaD ?_
  obtain rfl:=sj hF
  exact qaq (by nofun) (⟨rfl,⟨c159,M160,ok,E.keep [0,3,4,5],l158,h161,r162,r163⟩⟩)
 replace hF:=qai hc178 hF
 refine wp_skip<|qad<|wp_seq<|wp_block ?_
 obtain ⟨o179,hJ,hF⟩:=bnd hF
 refine qbx (Q':=fun e a w=>e = .normal ∧ ∃ c181 M182,Ok u m16 (M182 :: [(b136,Obj.cells [(Value.string (bs o179.Text)),c181,(Value.bool o179.Not),(Value.int .i64 o179.Least),(Value.int .i64 o179.Most)].toArray 154 (0,0))] :: M18 :: S) w ∧ Env 62 a [(0,vl_0),(3,c17),(4,(Value.int .i64 i_15)),(5,(Value.pointer (some ⟨b136,0,none⟩))),(6,(Value.int .i64 k_155))] ∧ o179.Text.length ≤ LIMS ∧ ORow 156 2 qbM m16 c181 o179.Ranges M182 ∧ InR .i64 o179.Least ∧ InR .i64 o179.Most) ?_ ?_
 rotate_left
 ·clear hJ
  intro e a w hO
  obtain ⟨rfl,c247,M248,ok,E,l246,h249,r250,r251⟩:=hO
  refine qar<|qad<|qae<|lv E ok (qaa rfl) fun a E=>lv E ok (qaC rfl rfl (InR.inc r157 (qau h175) hc178)) fun a E=>lv E ok (qab rfl) fun a E=>wpList_nil ?_
  obtain rfl:=sj hF
  exact qay ⟨c247,M248,ok,E.keep [0,3,4,5,6],(InR.inc r157 (qau h175) hc178),l246,h249,r250,r251⟩
 replace hF:=hJ
 clear hJ
 obtain ⟨x186,e187,hF⟩:=bnd hF
 obtain ⟨x200,e201,hF⟩:=bnd hF
 obtain ⟨l214,e215,hF⟩:=bnd hF
 obtain rfl:=sj hF
 refine qcO [1,6,9] (Cls u m16 ([(b136,Obj.cells [(Value.string (bs x_156.Text)),c159,(Value.bool x_156.Not),(Value.int .i64 x_156.Least),(Value.int .i64 x_156.Most)].toArray 154 (0,0))] :: M18 :: [])) (Cls u m16 (M18 :: [])) (by kernel_rfl) ?_
 intro w hw
 replace ok:=qcV ok hw
 clear hw
 have le_m16:=Mem.le.refl m16
 refine qaM (cl1 ⟨m16,_,le_m16,ok,⟨qal 1 rfl,qal 2 rfl,trivial⟩⟩ ⟨m16,_,le_m16,ok,⟨qal 2 rfl,trivial⟩⟩) fun hT=>kt 0 E rfl hT (qac qfJ rfl) fun a E=>qbE 1 E rfl (by kernel_rfl) nP hT (qaj qgZ rfl (qaf.cown 0 rfl rfl)) rfl rfl fun a E=>kt 2 E rfl hT (qaa rfl) fun a E=>kt 3 E rfl hT (qaa rfl) fun a E=>?_
 obtain ⟨b219,o220,es221,hl222,rr223,at224,yy225⟩:=qaI qcY hl_0 e187 (P:=Tryz.prog) (X:=.tmp 46) (I:=.tmp 47) (kd:=.i64) (qao E rfl) (qao E rfl)
 obtain ⟨c227,rfl,l226,h228,r229,r230⟩:=rr223
 refine kt 4 E rfl hT (yy225 _ _) fun a E=>kt 5 E rfl hT (qac qbp rfl) fun a E=>qbE 6 E rfl (by kernel_rfl) nP hT (qaj qb2 rfl (qaf.cro (At.sub 1 1 at224))) rfl rfl fun a E=>kt 7 E rfl hT (qaa rfl) fun a E=>?_
 obtain ⟨b231,o232,es233,hl234,rr235,at236,yy237⟩:=qaI qbR h228 e201 (P:=Tryz.prog) (X:=.tmp 50) (I:=.tmp 51) (kd:=.i64) (qao E rfl) (qao E rfl)
 obtain ⟨rfl,r238,r239⟩:=rr235
 refine kt 8 E rfl hT (yy237 _ _) fun a E=>qbE 9 E rfl (by kernel_rfl) nP hT (qax (cs:=[(Value.int .u8 x200.From),(Value.int .u8 x200.To)]) qoQ rfl rfl (qaf.cro at236)) rfl rfl fun a E=>qbj [10] (by kernel_rfl) rfl (qbk ?_)
 ·refine qaz (o:=_) rfl<|qbf (R:=qbM) (xo:=[.tmp 53]) (xs:=([x200]:List (Range))) E ok qfR qkc rfl ⟨⟨_,rfl,rfl,⟨rfl,r238,r239⟩⟩,trivial⟩ rfl rfl rfl rfl fun c240 M241 a w E ok h242=>wn<|qaM (cl1 ⟨m16,_,le_m16,ok,⟨qal 2 rfl,qal 3 rfl,trivial⟩⟩ ⟨m16,_,le_m16,ok,⟨qal 3 rfl,trivial⟩⟩) fun hT=>qbj [11] (by kernel_rfl) rfl (qbk ?_)
  ·refine qaz (o:=_) rfl<|qkL (R:=qbM) E ok 1 qeh qfR Tryz.underlying152 rfl h161 (qbo.ofRow h242 0 rfl ok) e215 (qih qpv) ⟨_,qkc,rfl⟩ rfl rfl rfl rfl fun c243 M244 a w E ok h245=>wn<|qaM (cl1 ⟨m16,_,le_m16,ok,⟨qal 2 rfl,qal 3 rfl,trivial⟩⟩ ⟨m16,_,le_m16,ok,⟨qal 3 rfl,trivial⟩⟩) fun hT=>kt 12 E rfl hT (qac qfJ rfl) fun a E=>qbj [13] (by kernel_rfl) rfl (qbk ?_)
   ·refine qaz (o:=_) rfl<|qat E ok 2 rfl rfl rfl qo3 (ORow.cells h245) rfl ⟨(ORow.one h245),trivial⟩ rfl rfl fun w ok=>wn<|qaM (cl2 (by kernel_rfl) ⟨m16,_,le_m16,ok,⟨qal 3 rfl,trivial⟩⟩) fun hT=>qcP (by kernel_rfl) ?_
    exact ⟨rfl,⟨c243,M244,(ok.pk 4 [1,2,3] rfl (by decide)),E.keep [0,3,4,5,6],l158,h245,r162,r163⟩⟩
def qht (u:World) (m0:Mem) (S:Segs) (r:(List (State))) (a:Act) (w:World):Prop :=
 ∃ m1 v0,m0.le m1 ∧ Ok u m1 S w ∧ a.defers = [] ∧ RVs Tryz.prog a w [.t 2 v0] ∧ (pL 2 qb3) m1 [v0] r
set_option maxHeartbeats 4000000 in
set_option maxRecDepth 100000 in
theorem qj3 {u:World} {m0:Mem} {S:Segs} {w:World} (N:Nat) (vs_0:Value) (s_0:List (State)) (hs_0:(pL 2 qb3) m0 [vs_0] s_0) {r:(List (State))} (hF:qgJ N s_0 = some r) (hG:Glob u) (ok:Ok u m0 S w) :
  Calls Tryz.prog 23 [vs_0].toArray w fun e w'=>∃ m1 v0,e = .returned v0 ∧ m0.le m1 ∧ Ok u m1 S w' ∧ (pL 2 qb3) m1 [v0] r:=by
 have le_m0:=Mem.le.refl m0
 unfold qgJ at hF
 have fin:∀ a w,qht u m0 S r a w → bodyPost Tryz.prog Tryz.f23 (fun e w'=>∃ m1 v0,e = .returned v0 ∧ m0.le m1 ∧ Ok u m1 S w' ∧ (pL 2 qb3) m1 [v0] r) .ret a w:=by
  intro a w h
  obtain ⟨m1,v0,hle,ok,hd,hrv,h0⟩:=h
  exact qaK [.t 2 v0] hd rfl hrv ⟨m1,v0,rfl,hle,ok,h0⟩
 refine enter Tryz.func23 rfl rfl rfl fun a E=>sg<|lv E ok (qab rfl) fun a E=>wn<|sg ?_
 refine lv E ok (qab rfl) fun a E=>wn<|wp_seq<|sg<|lv E ok (qab rfl) fun a E=>wpList_nil ?_
 refine qad<|wp_block ?_
 obtain ⟨M6,ok,h7⟩:=qdp (e:=111) (k:=2) (R:=qb3) ok
 obtain ⟨o8,hL,hF⟩:=bnd hF
 refine qaR _ (fun (s:(List (State)) × Int) a w=>∃ m9 c10 M11,m0.le m9 ∧ Ok u m9 (M11 :: S) w ∧ Env 56 a [(0,vs_0),(3,c10),(4,(Value.int .i64 s.2))] ∧ ORow 111 2 qb3 m9 c10 s.1 M11 ∧ InR .i64 s.2) (fun (b:((List (State)))) e a w=>e = (.exit 0) ∧ ∃ m156 c157 M158,m0.le m156 ∧ Ok u m156 (M158 :: S) w ∧ Env 56 a [(3,c157)] ∧ ORow 111 2 qb3 m156 c157 b M158) ?_ ?_ N _ a w hL ⟨m0,(Value.slice none 0 0),M6,Mem.le.refl _,ok,E.keep [0,3,4],h7,(show InR .i64 (0) by decide)⟩
 rotate_left
 ·intro e a w _ hO
  obtain ⟨rfl,m150,c151,M152,hle,ok,E,h153⟩:=hO
  have le_m0:=le_m0.trans hle
  have hs_0:=(mL qa2).up hle hs_0
  refine qaT<|qad<|sg<|lv E ok (qaa rfl) fun a E=>lv E ok (qab rfl) fun a E=>wn ?_
  refine wp_ret ?_
  obtain ⟨m154,hle,ok,hfz⟩:=(ok.frs 0 rfl).freeze
  have h155:=ORow.froz qa2 h153 hle hfz (by decide)
  have le_m0:=le_m0.trans hle
  have hs_0:=(mL qa2).up hle hs_0
  have hret:qht u m0 S o8 a w:=⟨m154,c151,le_m0,ok,E.d,⟨rv_t E rfl,trivial⟩,h155⟩
  obtain rfl:=sj hF
  exact fin _ _ hret
 rintro ⟨out_14,i_15⟩ a w r ⟨m16,c17,M18,hle,ok,E,h19,r20⟩ hF
 replace hF:qfL N s_0 out_14 i_15 = some r:=hF
 unfold qfL at hF
 have le_m0:=le_m0.trans hle
 have hs_0:=(mL qa2).up hle hs_0
 refine wp_seq<|sg<|lv E ok (qaa rfl) fun a E=>lv E ok (qaa rfl) fun a E=>lv E ok (qaG qbW hs_0 rfl) fun a E=>lv E ok (qaB rfl rfl) fun a E=>wpList_nil ?_
 refine qad<|c_if E rfl (fun hc21=>?_) (fun hc21=>?_)
 rotate_left
 ·replace hF:=qah hc21 hF
  refine wp_exit<|qaD ?_
  obtain rfl:=sj hF
  exact qaq (by nofun) (⟨rfl,⟨m16,c17,M18,le_m0,ok,E.keep [3],h19⟩⟩)
 replace hF:=qai hc21 hF
 refine wp_skip<|qad<|wp_seq<|wp_block<|sg<|lv E ok (qaa rfl) fun a E=>lv E ok (qaa rfl) fun a E=>?_
 obtain ⟨x22,e23,hF⟩:=bnd hF
 obtain ⟨b24,o25,es26,hl27,rr28,at29,yy30⟩:=qaI qbW hs_0 e23 (P:=Tryz.prog) (X:=.tmp 14) (I:=.tmp 15) (kd:=.i64) (qao E rfl) (qao E rfl)
 obtain ⟨c32,rfl,l31,h33⟩:=rr28
 refine lv E ok (yy30 _ _) fun a E=>lv E ok (qac qh0 rfl) fun a E=>lv E ok (qaj qav rfl (qaf.ro (At.sub 0 1 at29))) fun a E=>lv E ok (qa6 (ps:=[(0,.tmp 18)]) (qs:=[(0,[(Value.string (bs x22.Name))])]) (cs:=[(Value.string (bs x22.Name)),(Value.slice none 0 0)]) qfQ qnd rfl ⟨rfl,rfl,rfl,trivial⟩ rfl) fun a E=>qaZ E ok qfQ rfl rfl fun b34 a w E ok=>qat E ok 0 rfl rfl rfl qiO rfl rfl ⟨rfl,rfl,trivial⟩ rfl rfl fun w ok=>wn ?_
 refine wp_seq<|sg<|lv E ok (qab rfl) fun a E=>wn<|wp_block ?_
 obtain ⟨M41,ok,h42⟩:=qdp (e:=118) (k:=3) (R:=qdn) ok
 obtain ⟨o43,hL,hF⟩:=bnd hF
 refine qaR _ (fun (s:Int × State) a w=>∃ m44 c47 M48,m16.le m44 ∧ Ok u m44 (M48 :: [(b34,Obj.cells [(Value.string (bs s.2.Name)),c47].toArray 111 (0,0))] :: M18 :: S) w ∧ Env 56 a [(0,vs_0),(3,c17),(4,(Value.int .i64 i_15)),(5,(Value.pointer (some ⟨b34,0,none⟩))),(6,(Value.int .i64 s.1))] ∧ InR .i64 s.1 ∧ s.2.Name.length ≤ LIMS ∧ ORow 118 3 qdn m44 c47 s.2.Rules M48) (fun (b:State) e a w=>e = (.exit 2) ∧ ∃ m145 c147 M148,m16.le m145 ∧ Ok u m145 (M148 :: [(b34,Obj.cells [(Value.string (bs b.Name)),c147].toArray 111 (0,0))] :: M18 :: S) w ∧ Env 56 a [(0,vs_0),(3,c17),(4,(Value.int .i64 i_15)),(5,(Value.pointer (some ⟨b34,0,none⟩)))] ∧ b.Name.length ≤ LIMS ∧ ORow 118 3 qdn m145 c147 b.Rules M148) ?_ ?_ N _ a w hL ⟨m16,(Value.slice none 0 0),M41,Mem.le.refl _,ok,E.keep [0,3,4,5,6],(show InR .i64 (0) by decide),l31,h42⟩
 rotate_left
 ·intro e a w _ hO
  obtain ⟨rfl,m130,c132,M133,hle,ok,E,l131,h134⟩:=hO
  have le_m0:=le_m0.trans hle
  have hs_0:=(mL qa2).up hle hs_0
  have h19:=ORow.up qa2 hle h19
  have h33:=(mL qc7).up hle h33
  have at29:=At.up hle at29
  refine qaT<|qad<|qae<|lv E ok (qaa rfl) fun a E=>lv E ok (qax (cs:=[(Value.string (bs o43.Name)),c132]) qiN rfl rfl (qaf.own 1 rfl rfl)) fun a E=>?_
  obtain ⟨m135,hle,ok,hfz⟩:=(ok.frs 0 rfl).freeze
  have h136:=ORow.froz qc7 h134 hle hfz (by decide)
  have le_m0:=le_m0.trans hle
  have hs_0:=(mL qa2).up hle hs_0
  have h19:=ORow.up qa2 hle h19
  have h33:=(mL qc7).up hle h33
  have at29:=At.up hle at29
  refine qbf (R:=qb3) (xo:=[.tmp 52]) (xs:=([o43]:List (State))) E ok qfV qfQ rfl ⟨⟨_,rfl,rfl,⟨_,rfl,l131,h136⟩⟩,trivial⟩ rfl rfl rfl rfl fun c137 M138 a w E ok h139=>?_
  obtain ⟨l140,e141,hF⟩:=bnd hF
  refine qkL (R:=qb3) E ok 2 qa2 qfV Tryz.underlying73 rfl h19 (qbo.ofRow h139 0 rfl ok) e141 (qih qpX) ⟨_,qfQ,rfl⟩ rfl rfl rfl rfl fun c142 M143 a w E ok h144=>lv E ok (qab rfl) fun a E=>wpList_nil<|qar<|qad<|qae<|lv E ok (qaa rfl) fun a E=>lv E ok (qaC rfl rfl (InR.inc r20 (qau hs_0) hc21)) fun a E=>?_
  refine lv E ok (qab rfl) fun a E=>wpList_nil ?_
  obtain rfl:=sj hF
  exact qay ⟨m135,c142,M143,le_m0,(ok.pk 3 [2] rfl (by decide)),E.keep [0,3,4],h144,(InR.inc r20 (qau hs_0) hc21)⟩
 rintro ⟨k_50,x_51⟩ a w r ⟨m52,c55,M56,hle,ok,E,r53,l54,h57⟩ hF
 replace hF:qfE N s_0 i_15 k_50 x_51 = some r:=hF
 unfold qfE at hF
 have le_m16:=Mem.le.refl m16
 have le_m0:=le_m0.trans hle
 have le_m16:=le_m16.trans hle
 have hs_0:=(mL qa2).up hle hs_0
 have h19:=ORow.up qa2 hle h19
 have h33:=(mL qc7).up hle h33
 have at29:=At.up hle at29
 refine wp_seq<|sg<|lv E ok (qaa rfl) fun a E=>lv E ok (qaa rfl) fun a E=>lv E ok (qaa rfl) fun a E=>?_
 obtain ⟨x58,e59,hF⟩:=bnd hF
 obtain ⟨b60,o61,es62,hl63,rr64,at65,yy66⟩:=qaI qbW hs_0 e59 (P:=Tryz.prog) (X:=.tmp 21) (I:=.tmp 22) (kd:=.i64) (qao E rfl) (qao E rfl)
 obtain ⟨c68,rfl,l67,h69⟩:=rr64
 refine lv E ok (yy66 _ _) fun a E=>lv E ok (qac qdb rfl) fun a E=>lv E ok (qaj qeK rfl (qaf.ro (At.sub 1 1 at65))) fun a E=>lv E ok (qaG qen h69 rfl) fun a E=>lv E ok (qaB rfl rfl) fun a E=>wn<|c_if E rfl (fun hc70=>?_) (fun hc70=>?_)
 rotate_left
 ·replace hF:=qah hc70 hF
  refine wp_exit<|qaD ?_
  obtain rfl:=sj hF
  exact qaq (by nofun) (⟨rfl,⟨m52,c55,M56,le_m16,ok,E.keep [0,3,4,5],l54,h57⟩⟩)
 replace hF:=qai hc70 hF
 refine wp_skip<|qad<|wp_seq<|wp_block<|sg<|lv E ok (qaa rfl) fun a E=>lv E ok (qaa rfl) fun a E=>?_
 obtain ⟨x71,e72,hF⟩:=bnd hF
 obtain ⟨b73,o74,es75,hl76,rr77,at78,yy79⟩:=qaI qbW hs_0 e72 (P:=Tryz.prog) (X:=.tmp 30) (I:=.tmp 31) (kd:=.i64) (qao E rfl) (qao E rfl)
 obtain ⟨c81,rfl,l80,h82⟩:=rr77
 refine lv E ok (yy79 _ _) fun a E=>lv E ok (qac qdb rfl) fun a E=>lv E ok (qaj qeK rfl (qaf.ro (At.sub 1 1 at78))) fun a E=>lv E ok (qaa rfl) fun a E=>?_
 obtain ⟨x83,e84,hF⟩:=bnd hF
 obtain ⟨b85,o86,es87,hl88,rr89,at90,yy91⟩:=qaI qen h82 e84 (P:=Tryz.prog) (X:=.tmp 34) (I:=.tmp 35) (kd:=.i64) (qao E rfl) (qao E rfl)
 obtain ⟨c93,rfl,l92,h94,l95⟩:=rr89
 refine lv E ok (yy91 _ _) fun a E=>lv E ok (qax (cs:=[(Value.string (bs x83.Kind)),c93,(Value.string (bs x83.Next))]) qdt rfl rfl (qaf.ro at90)) fun a E=>qaZ E ok qdx rfl rfl fun b96 a w E ok=>qat E ok 0 rfl rfl rfl qgo rfl rfl ⟨rfl,(qbB h94),rfl,trivial⟩ rfl rfl fun w ok=>wn ?_
 obtain ⟨o97,hJ,hF⟩:=bnd hF
 refine qbx (Q':=fun e a w=>e = .normal ∧ ∃ m98 c100 M101,m52.le m98 ∧ Ok u m98 ([(b96,Obj.cells [(Value.string (bs x83.Kind)),c93,(Value.string (bs x83.Next))].toArray 114 (0,0))] :: M101 :: [(b34,Obj.cells [(Value.string (bs o97.Name)),c100].toArray 111 (0,0))] :: M18 :: S) w ∧ Env 56 a [(0,vs_0),(3,c17),(4,(Value.int .i64 i_15)),(5,(Value.pointer (some ⟨b34,0,none⟩))),(6,(Value.int .i64 k_50))] ∧ o97.Name.length ≤ LIMS ∧ ORow 118 3 qdn m98 c100 o97.Rules M101) ?_ ?_
 rotate_left
 ·clear hJ
  intro e a w hO
  obtain ⟨rfl,m125,c127,M128,hle,ok,E,l126,h129⟩:=hO
  have le_m0:=le_m0.trans hle
  have le_m16:=le_m16.trans hle
  have hs_0:=(mL qa2).up hle hs_0
  have h19:=ORow.up qa2 hle h19
  have h33:=(mL qc7).up hle h33
  have at29:=At.up hle at29
  have h69:=(mL qc7).up hle h69
  have at65:=At.up hle at65
  have h82:=(mL qc7).up hle h82
  have at78:=At.up hle at78
  have h94:=(mL qdc).up hle h94
  have at90:=At.up hle at90
  refine qar<|qad<|qae<|lv E ok (qaa rfl) fun a E=>lv E ok (qaC rfl rfl (InR.inc r53 (qau h69) hc70)) fun a E=>lv E ok (qab rfl) fun a E=>wpList_nil ?_
  obtain rfl:=sj hF
  exact qay ⟨m125,c127,M128,le_m16,(ok.pk 4 [1,2,3] rfl (by decide)),E.keep [0,3,4,5,6],(InR.inc r53 (qau h69) hc70),l126,h129⟩
 replace hF:=hJ
 clear hJ
 have le_m52:=Mem.le.refl m52
 obtain ⟨r103,e104,hF⟩:=bnd hF
 obtain ⟨l111,e112,hF⟩:=bnd hF
 obtain rfl:=sj hF
 refine qcO [1,3,5,8] (Cls u m52 ([(b96,Obj.cells [(Value.string (bs x83.Kind)),c93,(Value.string (bs x83.Next))].toArray 114 (0,0))] :: [(b34,Obj.cells [(Value.string (bs x_51.Name)),c55].toArray 111 (0,0))] :: M18 :: [])) (Cls u m52 ([(b96,Obj.cells [(Value.string (bs x83.Kind)),c93,(Value.string (bs x83.Next))].toArray 114 (0,0))] :: M18 :: [])) (by kernel_rfl) ?_
 intro w hw
 replace ok:=qcV ok hw
 clear hw
 have h94_o:=h94
 refine qaM (cl1 ⟨m52,_,le_m52,ok,⟨qal 0 rfl,qal 2 rfl,qal 3 rfl,trivial⟩⟩ ⟨m52,_,le_m52,ok,⟨qal 0 rfl,qal 3 rfl,trivial⟩⟩) fun hT=>kt 0 E rfl hT (qac qfI rfl) fun a E=>qbE 1 E rfl (by kernel_rfl) nP hT (qaj qgR rfl (qaf.cown 1 rfl rfl)) rfl rfl fun a E=>kt 2 E rfl hT (qac qkg rfl) fun a E=>qbE 3 E rfl (by kernel_rfl) nP hT (qaj qav rfl (qaf.cown 0 rfl rfl)) rfl rfl fun a E=>kt 4 E rfl hT (qac qc5 rfl) fun a E=>qbE 5 E rfl (by kernel_rfl) nP hT (qaj qeP rfl (qaf.cown 0 rfl rfl)) rfl rfl fun a E=>kt 7 E rfl hT (qac qgb rfl) fun a E=>?_
 refine qbE 8 E rfl (by kernel_rfl) nP hT (qaj qav rfl (qaf.cown 0 rfl rfl)) rfl rfl fun a E=>qbj [6] (by kernel_rfl) rfl (qbk ?_)
 ·refine qaz (o:=_) rfl<|qaw E qqk rfl (qjl N _ x83.Items h94 e104 hG ok) rfl rfl ?_
  rintro _ w ⟨m116,c117,rfl,hle,ok,h118⟩
  have le_m0:=le_m0.trans hle
  have le_m16:=le_m16.trans hle
  have le_m52:=le_m52.trans hle
  have hs_0:=(mL qa2).up hle hs_0
  have h19:=ORow.up qa2 hle h19
  have h33:=(mL qc7).up hle h33
  have at29:=At.up hle at29
  have h57:=ORow.up qc7 hle h57
  have h69:=(mL qc7).up hle h69
  have at65:=At.up hle at65
  have h82:=(mL qc7).up hle h82
  have at78:=At.up hle at78
  have h94:=(mL qdc).up hle h94
  have at90:=At.up hle at90
  refine ⟨_,rfl,fun a E=>?_⟩
  refine wn<|qaM (cl1 ⟨m116,_,le_m52,ok,⟨qal 0 rfl,qal 2 rfl,qal 3 rfl,trivial⟩⟩ ⟨m116,_,le_m52,ok,⟨qal 0 rfl,qal 3 rfl,trivial⟩⟩) fun hT=>kt 9 E rfl hT (qa6 (ps:=[(0,.tmp 41),(1,.tmp 44),(2,.tmp 46)]) (qs:=[(0,[(Value.string (bs x83.Kind))]),(1,[c117]),(2,[(Value.string (bs x83.Next))])]) (cs:=[(Value.string (bs x83.Kind)),c117,(Value.string (bs x83.Next))]) qgf qnf rfl ⟨rfl,rfl,rfl,⟨rfl,(qgg h118),rfl,⟨rfl,rfl,rfl,trivial⟩⟩⟩ rfl) fun a E=>qbj [10] (by kernel_rfl) rfl (qbk ?_)
  ·refine qaz (o:=_) rfl<|qbf (R:=qdn) (xo:=[.tmp 47]) (xs:=([(Rule.mk x83.Kind r103 x83.Next)]:List (Rule))) E ok qfe qgf rfl ⟨⟨_,rfl,rfl,⟨_,rfl,l92,h118,l95⟩⟩,trivial⟩ rfl rfl rfl rfl fun c119 M120 a w E ok h121=>wn<|qaM (cl1 ⟨m116,_,le_m52,ok,⟨qal 1 rfl,qal 3 rfl,qal 4 rfl,trivial⟩⟩ ⟨m116,_,le_m52,ok,⟨qal 1 rfl,qal 4 rfl,trivial⟩⟩) fun hT=>qbj [11] (by kernel_rfl) rfl (qbk ?_)
   ·refine qaz (o:=_) rfl<|qkL (R:=qdn) E ok 2 qc7 qfe Tryz.underlying109 rfl h57 (qbo.ofRow h121 0 rfl ok) e112 (qih qpF) ⟨_,qgf,rfl⟩ rfl rfl rfl rfl fun c122 M123 a w E ok h124=>wn<|qaM (cl1 ⟨m116,_,le_m52,ok,⟨qal 1 rfl,qal 3 rfl,qal 4 rfl,trivial⟩⟩ ⟨m116,_,le_m52,ok,⟨qal 1 rfl,qal 4 rfl,trivial⟩⟩) fun hT=>kt 12 E rfl hT (qac qfI rfl) fun a E=>qbj [13] (by kernel_rfl) rfl (qbk ?_)
    ·refine qaz (o:=_) rfl<|qat E ok 3 rfl rfl rfl qoP (ORow.cells h124) rfl ⟨(ORow.one h124),trivial⟩ rfl rfl fun w ok=>wn<|qaM (cl2 (by kernel_rfl) ⟨m116,_,le_m52,ok,⟨qal 1 rfl,qal 4 rfl,trivial⟩⟩) fun hT=>qcP (by kernel_rfl) ?_
     exact ⟨rfl,⟨m116,c122,M123,le_m52,(ok.pk 5 [1,2,3,4] rfl (by decide)),E.keep [0,3,4,5,6],l54,h124⟩⟩
def qhr (u:World) (m0:Mem) (S:Segs) (r:(List (Call))) (a:Act) (w:World):Prop :=
 ∃ m1 v0,m0.le m1 ∧ Ok u m1 S w ∧ a.defers = [] ∧ RVs Tryz.prog a w [.t 2 v0] ∧ (pL 3 qdy) m1 [v0] r
set_option maxHeartbeats 4000000 in
set_option maxRecDepth 100000 in
theorem qj6 {u:World} {m0:Mem} {S:Segs} {w:World} (N:Nat) (vl_0:Value) (l_0:List (Call)) (hl_0:(pL 3 qdy) m0 [vl_0] l_0) {r:(List (Call))} (hF:qeg N l_0 = some r) (hG:Glob u) (ok:Ok u m0 S w) :
  Calls Tryz.prog 13 [vl_0].toArray w fun e w'=>∃ m1 v0,e = .returned v0 ∧ m0.le m1 ∧ Ok u m1 S w' ∧ (pL 3 qdy) m1 [v0] r:=by
 have le_m0:=Mem.le.refl m0
 unfold qeg at hF
 have fin:∀ a w,qhr u m0 S r a w → bodyPost Tryz.prog Tryz.f13 (fun e w'=>∃ m1 v0,e = .returned v0 ∧ m0.le m1 ∧ Ok u m1 S w' ∧ (pL 3 qdy) m1 [v0] r) .ret a w:=by
  intro a w h
  obtain ⟨m1,v0,hle,ok,hd,hrv,h0⟩:=h
  exact qaK [.t 2 v0] hd rfl hrv ⟨m1,v0,rfl,hle,ok,h0⟩
 refine enter Tryz.func13 rfl rfl rfl fun a E=>sg<|lv E ok (qab rfl) fun a E=>wn<|sg ?_
 refine lv E ok (qab rfl) fun a E=>wn<|wp_seq<|sg<|lv E ok (qab rfl) fun a E=>wpList_nil ?_
 refine qad<|wp_block ?_
 obtain ⟨M6,ok,h7⟩:=qdp (e:=83) (k:=3) (R:=qdy) ok
 obtain ⟨o8,hL,hF⟩:=bnd hF
 refine qaR _ (fun (s:(List (Call)) × Int) a w=>∃ c9 M10,Ok u m0 (M10 :: S) w ∧ Env 19 a [(0,vl_0),(3,c9),(4,(Value.int .i64 s.2))] ∧ ORow 83 3 qdy m0 c9 s.1 M10 ∧ InR .i64 s.2) (fun (b:((List (Call)))) e a w=>e = (.exit 0) ∧ ∃ c45 M46,Ok u m0 (M46 :: S) w ∧ Env 19 a [(3,c45)] ∧ ORow 83 3 qdy m0 c45 b M46) ?_ ?_ N _ a w hL ⟨(Value.slice none 0 0),M6,ok,E.keep [0,3,4],h7,(show InR .i64 (0) by decide)⟩
 rotate_left
 ·intro e a w _ hO
  obtain ⟨rfl,c40,M41,ok,E,h42⟩:=hO
  refine qaT<|qad<|sg<|lv E ok (qaa rfl) fun a E=>lv E ok (qab rfl) fun a E=>wn ?_
  refine wp_ret ?_
  obtain ⟨m43,hle,ok,hfz⟩:=(ok.frs 0 rfl).freeze
  have h44:=ORow.froz qep h42 hle hfz (by decide)
  have le_m0:=le_m0.trans hle
  have hl_0:=(mL qep).up hle hl_0
  have hret:qhr u m0 S o8 a w:=⟨m43,c40,le_m0,ok,E.d,⟨rv_t E rfl,trivial⟩,h44⟩
  obtain rfl:=sj hF
  exact fin _ _ hret
 rintro ⟨out_13,i_14⟩ a w r ⟨c15,M16,ok,E,h17,r18⟩ hF
 replace hF:qdC N l_0 out_13 i_14 = some r:=hF
 unfold qdC at hF
 refine wp_seq<|sg<|lv E ok (qaa rfl) fun a E=>lv E ok (qaa rfl) fun a E=>lv E ok (qaG qg5 hl_0 rfl) fun a E=>lv E ok (qaB rfl rfl) fun a E=>wpList_nil ?_
 refine qad<|c_if E rfl (fun hc19=>?_) (fun hc19=>?_)
 rotate_left
 ·replace hF:=qah hc19 hF
  refine wp_exit<|qaD ?_
  obtain rfl:=sj hF
  exact qaq (by nofun) (⟨rfl,⟨c15,M16,ok,E.keep [3],h17⟩⟩)
 replace hF:=qai hc19 hF
 refine wp_skip<|qad<|wp_seq<|wp_block<|qae<|lv E ok (qaa rfl) fun a E=>lv E ok (qaa rfl) fun a E=>lv E ok (qaa rfl) fun a E=>?_
 obtain ⟨x20,e21,hF⟩:=bnd hF
 obtain ⟨b22,o23,es24,hl25,rr26,at27,yy28⟩:=qaI qg5 hl_0 e21 (P:=Tryz.prog) (X:=.tmp 12) (I:=.tmp 13) (kd:=.i64) (qao E rfl) (qao E rfl)
 obtain ⟨rfl,l29,r30,r31⟩:=rr26
 refine lv E ok (yy28 _ _) fun a E=>lv E ok (qax (cs:=[(Value.string (bs x20.Name)),(Value.int .i64 x20.ID),(Value.int .i64 x20.Source)]) qnD rfl rfl (qaf.ro at27)) fun a E=>qbf (R:=qdy) (xo:=[.tmp 15]) (xs:=([x20]:List (Call))) E ok qfz qiv rfl ⟨⟨_,rfl,rfl,⟨rfl,l29,r30,r31⟩⟩,trivial⟩ rfl rfl rfl rfl fun c32 M33 a w E ok h34=>?_
 obtain ⟨l35,e36,hF⟩:=bnd hF
 refine qcI (R:=qdy) E ok 1 qep qfz Tryz.underlying34 rfl h17 (qbo.ofRow h34 0 rfl ok) e36 ⟨_,qiv,rfl⟩ rfl rfl rfl rfl fun c37 M38 a w E ok h39=>lv E ok (qab rfl) fun a E=>wpList_nil<|qar<|qad<|qae<|lv E ok (qaa rfl) fun a E=>lv E ok (qaC rfl rfl (InR.inc r18 (qau hl_0) hc19)) fun a E=>?_
 refine lv E ok (qab rfl) fun a E=>wpList_nil ?_
 obtain rfl:=sj hF
 exact qay ⟨c37,M38,(ok.pk 2 [1] rfl (by decide)),E.keep [0,3,4],h39,(InR.inc r18 (qau hl_0) hc19)⟩
end Go.Proofs.YtllfckekodcdaaaGreatDoor
namespace Go.Proofs.YtllfckekodcdaaaGreatDoor
open Go.X
theorem qpc:aggB Tryz.prog 105 5 = true:=by kernel_rfl
theorem qgS:qaH Tryz.prog 105 2 2 = true:=by kernel_rfl
theorem qhS:qaH Tryz.prog 105 3 3 = true:=by kernel_rfl
theorem qpi:qaH Tryz.prog 29 2 2 = true:=by kernel_rfl
theorem qqN:goB Tryz.prog 54 = true:=by kernel_rfl
theorem qqE:goB Tryz.prog 55 = true:=by kernel_rfl
theorem qqc:goB Tryz.prog 57 = true:=by kernel_rfl
theorem qoE:goB Tryz.prog 58 = true:=by kernel_rfl
theorem qoo:goB Tryz.prog 59 = true:=by kernel_rfl
set_option maxRecDepth 100000 in
theorem qk8:∃ i,Tryz.prog.info? 105 = some i ∧ i.size = 5:=⟨_,rfl,by kernel_rfl⟩
theorem qhX:oneB Tryz.prog 34 = true:=by kernel_rfl
theorem qkI:qcW Tryz.prog 105 = some [(0,1),(1,1),(2,1),(3,1),(4,1)]:=by kernel_rfl
theorem qhO:qbv Tryz.prog 105 = some [(Value.int .i64 0),(Value.int .i64 0),(Value.string (bs ([]))),(Value.string (bs ([]))),(Value.string (bs ([])))]:=by kernel_rfl
def qdT (u:World) (m0:Mem) (S:Segs) (pb0:Nat) (x0:Token) (r:Bool) (a:Act) (w:World):Prop :=
 Ok u m0 ([(pb0,Obj.cells [(Value.string (bs x0.Kind)),(Value.string (bs x0.Text)),(Value.int .i64 x0.From)].toArray 29 (0,0))] :: S) w ∧ a.defers = [] ∧ RVs Tryz.prog a w [.t 3 (.bool r)]
set_option maxHeartbeats 4000000 in
set_option maxRecDepth 100000 in
theorem qhz {u:World} {m0:Mem} {S:Segs} {w:World} (N:Nat) (vc_0:List Value) (c_0:Call) (hc_0:qdy m0 vc_0 c_0) {pb0:Nat} (x0:Token) (l4:x0.Kind.length ≤ LIMS) (l5:x0.Text.length ≤ LIMS) (r6:InR .i64 x0.From) {r:Bool} (hF:qd8 N c_0 x0 = some r) (hG:Glob u) (ok:Ok u m0 ([(pb0,Obj.cells [(Value.string (bs x0.Kind)),(Value.string (bs x0.Text)),(Value.int .i64 x0.From)].toArray 29 (0,0))] :: S) w) :
  Calls Tryz.prog 55 [.agg vc_0.toArray,Value.pointer (some ⟨pb0,0,none⟩)].toArray w fun e w'=>(e = .returned (.bool r) ∧ Ok u m0 ([(pb0,Obj.cells [(Value.string (bs x0.Kind)),(Value.string (bs x0.Text)),(Value.int .i64 x0.From)].toArray 29 (0,0))] :: S) w'):=by
 obtain ⟨rfl,l1,r2,r3⟩:=hc_0
 have hb0:=ok.base
 have le_m0:=Mem.le.refl m0
 unfold qd8 at hF
 have fin:∀ a w,qdT u m0 S pb0 x0 r a w → bodyPost Tryz.prog Tryz.f55 (fun e w'=>(e = .returned (.bool r) ∧ Ok u m0 ([(pb0,Obj.cells [(Value.string (bs x0.Kind)),(Value.string (bs x0.Text)),(Value.int .i64 x0.From)].toArray 29 (0,0))] :: S) w')) .ret a w:=by
  intro a w h
  obtain ⟨ok,hd,hrv⟩:=h
  exact qaK [.t 3 (.bool r)] hd rfl hrv ⟨rfl,ok⟩
 refine enter Tryz.func55 rfl rfl rfl fun a E=>?_
 refine wp_seq ?_
 refine qae ?_
 refine qdF E ok rfl rfl rfl fun b7 a w E ok=>?_
 refine qag E ok (qab rfl) rfl rfl fun a E=>?_
 refine wpList_nil ?_
 refine qad ?_
 refine wp_seq ?_
 refine qae ?_
 refine qag E ok (qac qbT rfl) rfl rfl fun a E=>?_
 refine qag E ok (qaj qav rfl (qaf.own 1 rfl rfl)) rfl rfl fun a E=>?_
 refine qag E ok (qa1 rfl rfl) rfl rfl fun a E=>?_
 refine qag E ok (qaa rfl) rfl rfl fun a E=>?_
 refine qas (x0.Kind == ([110,97,109,101])) (fun hc8=>?_) (fun hc8=>?_)
 ·replace hF:=qai hc8 hF
  replace E:=E.upd 7 hc8 rfl
  refine qag E ok (qac qdv rfl) rfl rfl fun a E=>?_
  refine qag E ok (qaj qav rfl (qaf.own 1 rfl rfl)) rfl rfl fun a E=>?_
  refine qag E ok (qac qiH rfl) rfl rfl fun a E=>?_
  refine qag E ok (qaj qav rfl (qaf.own 0 rfl rfl)) rfl rfl fun a E=>?_
  refine qag E ok (qa1 rfl rfl) rfl rfl fun a E=>?_
  refine qag E ok (qak rfl rfl) rfl rfl fun a E=>?_
  refine qag E ok (qab rfl) rfl rfl fun a E=>?_
  refine wpList_nil ?_
  refine qad ?_
  refine wp_ret ?_
  have hret:qdT u m0 S pb0 x0 (x0.Text == c_0.Name) a w:=⟨ok.drop,E.d,⟨rv_t E rfl,trivial⟩⟩
  obtain rfl:=Option.some.inj hF
  exact fin _ _ hret
 replace hF:=qah hc8 hF
 replace E:=E.upd 7 hc8 rfl
 refine qbe E rfl rfl fun a E=>?_
 refine qbe E rfl rfl fun a E=>?_
 refine qbe E rfl rfl fun a E=>?_
 refine qbe E rfl rfl fun a E=>?_
 refine qbe E rfl rfl fun a E=>?_
 refine qag E ok (qam rfl rfl) rfl rfl fun a E=>?_
 refine qag E ok (qab rfl) rfl rfl fun a E=>?_
 refine wpList_nil ?_
 refine qad ?_
 refine wp_ret ?_
 have hret:qdT u m0 S pb0 x0 false a w:=⟨ok.drop,E.d,⟨rv_t E rfl,trivial⟩⟩
 obtain rfl:=Option.some.inj hF
 exact fin _ _ hret
def qbt (u:World) (m0:Mem) (S:Segs) (pb0:Nat) (x0:Token) (r:Int) (a:Act) (w:World):Prop :=
 Ok u m0 ([(pb0,Obj.cells [(Value.string (bs x0.Kind)),(Value.string (bs x0.Text)),(Value.int .i64 x0.From)].toArray 29 (0,0))] :: S) w ∧ a.defers = [] ∧ RVs Tryz.prog a w [.t 4 (.int .i64 r)] ∧ InR .i64 r
set_option maxHeartbeats 4000000 in
set_option maxRecDepth 100000 in
theorem qd0 {u:World} {m0:Mem} {S:Segs} {w:World} (N:Nat) (vs_0:Value) (s_0:List (Call)) (hs_0:(pL 3 qdy) m0 [vs_0] s_0) {pb0:Nat} (x0:Token) (l1:x0.Kind.length ≤ LIMS) (l2:x0.Text.length ≤ LIMS) (r3:InR .i64 x0.From) {r:Int} (hF:qbY N s_0 x0 = some r) (hG:Glob u) (ok:Ok u m0 ([(pb0,Obj.cells [(Value.string (bs x0.Kind)),(Value.string (bs x0.Text)),(Value.int .i64 x0.From)].toArray 29 (0,0))] :: S) w) :
  Calls Tryz.prog 54 [vs_0,Value.func (.func 55) #[] #[.pointer (some ⟨pb0,0,none⟩)]].toArray w fun e w'=>(e = .returned (.int .i64 r) ∧ Ok u m0 ([(pb0,Obj.cells [(Value.string (bs x0.Kind)),(Value.string (bs x0.Text)),(Value.int .i64 x0.From)].toArray 29 (0,0))] :: S) w') ∧ InR .i64 r:=by
 have hb0:=ok.base
 have le_m0:=Mem.le.refl m0
 unfold qbY at hF
 have fin:∀ a w,qbt u m0 S pb0 x0 r a w → bodyPost Tryz.prog Tryz.f54 (fun e w'=>(e = .returned (.int .i64 r) ∧ Ok u m0 ([(pb0,Obj.cells [(Value.string (bs x0.Kind)),(Value.string (bs x0.Text)),(Value.int .i64 x0.From)].toArray 29 (0,0))] :: S) w') ∧ InR .i64 r) .ret a w:=by
  intro a w h
  obtain ⟨ok,hd,hrv,h0⟩:=h
  exact qaK [.t 4 (.int .i64 r)] hd rfl hrv ⟨⟨rfl,ok⟩,h0⟩
 refine enter Tryz.func54 rfl rfl rfl fun a E=>?_
 refine wp_seq ?_
 refine qae ?_
 refine qag E ok (qab rfl) rfl rfl fun a E=>?_
 refine wpList_nil ?_
 refine qad ?_
 refine wp_seq ?_
 refine wp_seq ?_
 refine qae ?_
 refine qag E ok (qaa rfl) rfl rfl fun a E=>?_
 refine qag E ok (qaG qfz hs_0 rfl) rfl rfl fun a E=>?_
 refine qag E ok (qaa rfl) rfl rfl fun a E=>?_
 refine wpList_nil ?_
 refine qad ?_
 refine wp_block ?_
 obtain ⟨o5,hL,hF⟩:=bnd hF
 refine qaR _ (fun (s:Int) a w=>Ok u m0 ([(pb0,Obj.cells [(Value.string (bs x0.Kind)),(Value.string (bs x0.Text)),(Value.int .i64 x0.From)].toArray 29 (0,0))] :: S) w ∧ Env 19 a [(0,vs_0),(1,(Value.func (.func 55) #[] #[.pointer (some ⟨pb0,0,none⟩)])),(7,(Value.int .i64 (s_0.length:Int))),(8,(Value.int .i64 s))] ∧ InR .i64 s) (fun (b:(Unit ⊕ Int)) e a w=>(Sum.elim (fun b25=>e = (.exit 0) ∧ Ok u m0 ([(pb0,Obj.cells [(Value.string (bs x0.Kind)),(Value.string (bs x0.Text)),(Value.int .i64 x0.From)].toArray 29 (0,0))] :: S) w ∧ Env 19 a []) (fun b26=>e = .ret ∧ qbt u m0 S pb0 x0 b26 a w)) b) ?_ ?_ N _ a w hL ⟨ok,E.keep [0,1,7,8],(show InR .i64 (0) by decide)⟩
 rotate_left
 ·intro e a w _ hO
  rcases o5 with o5 | o5
  rotate_left
  ·replace hF:=qba hF
   obtain ⟨rfl,hret⟩:=hO
   refine qap ?_
   refine qan ?_
   obtain rfl:=Option.some.inj hF
   exact fin _ _ hret
  replace hF:=qa9 hF
  obtain ⟨rfl,ok,E⟩:=hO
  refine qaT ?_
  refine qad ?_
  refine wp_seq ?_
  refine qae ?_
  refine qag E ok (qab rfl) rfl rfl fun a E=>?_
  refine wpList_nil ?_
  refine qad ?_
  refine wp_ret ?_
  have hret:qbt u m0 S pb0 x0 (-1) a w:=⟨ok,E.d,⟨rv_t E rfl,trivial⟩,(show InR .i64 (-1) by decide)⟩
  obtain rfl:=Option.some.inj hF
  exact fin _ _ hret
 rintro x_7 a w r ⟨ok,E,r8⟩ hF
 replace hF:qbO N s_0 x0 x_7 = some r:=hF
 unfold qbO at hF
 refine wp_seq ?_
 refine qae ?_
 refine qag E ok (qaB rfl rfl) rfl rfl fun a E=>?_
 refine wpList_nil ?_
 refine qad ?_
 refine wp_seq ?_
 refine c_if E rfl (fun hc9=>?_) (fun hc9=>?_)
 rotate_left
 ·replace hF:=qah hc9 hF
  refine wp_exit ?_
  refine qaD ?_
  obtain rfl:=Option.some.inj hF
  exact qaq (by nofun) (sl ⟨rfl,⟨ok,E.keep []⟩⟩)
 replace hF:=qai hc9 hF
 refine wp_skip ?_
 refine qad ?_
 refine wp_seq ?_
 refine wp_block ?_
 refine wp_seq ?_
 refine qae ?_
 refine qag E ok (qaa rfl) rfl rfl fun a E=>?_
 refine qag E ok (qab rfl) rfl rfl fun a E=>?_
 refine wpList_nil ?_
 refine qad ?_
 refine wp_seq ?_
 refine qae ?_
 refine qag E ok (qaa rfl) rfl rfl fun a E=>?_
 refine qag E ok (qaa rfl) rfl rfl fun a E=>?_
 refine qag E ok (qaa rfl) rfl rfl fun a E=>?_
 obtain ⟨x10,e11,hF⟩:=bnd hF
 obtain ⟨b12,o13,es14,hl15,rr16,at17,yy18⟩:=qaI qfz hs_0 e11 (P:=Tryz.prog) (X:=.tmp 12) (I:=.tmp 13) (kd:=.i64) (qao E rfl) (qao E rfl)
 obtain ⟨rfl,l19,r20,r21⟩:=rr16
 refine qag E ok (yy18 _ _) rfl rfl fun a E=>?_
 refine qag E ok (qax (cs:=[(Value.string (bs x10.Name)),(Value.int .i64 x10.ID),(Value.int .i64 x10.Source)]) qnP rfl rfl (qaf.ro at17)) rfl rfl fun a E=>?_
 obtain ⟨r22,e23,hF⟩:=bnd hF
 refine qmA E rfl qqE rfl (qhz N _ x10 ⟨rfl,l19,r20,r21⟩ x0 l1 l2 r3 e23 hG ok) rfl rfl ?_
 rintro _ w ⟨rfl,ok⟩
 refine ⟨_,rfl,fun a E=>?_⟩
 refine wpList_nil ?_
 refine qad ?_
 refine c_if E rfl (fun hc24=>?_) (fun hc24=>?_)
 rotate_left
 ·replace hF:=qah hc24 hF
  refine wp_skip ?_
  refine qar ?_
  refine qad ?_
  refine qae ?_
  refine qag E ok (qaC rfl rfl (InR.inc r8 (qau hs_0) hc9)) rfl rfl fun a E=>?_
  refine qag E ok (qaa rfl) rfl rfl fun a E=>?_
  refine wpList_nil ?_
  obtain rfl:=Option.some.inj hF
  exact qay ⟨ok,E.keep [0,1,7,8],(InR.inc r8 (qau hs_0) hc9)⟩
 replace hF:=qai hc24 hF
 refine wp_seq ?_
 refine qae ?_
 refine qag E ok (qaa rfl) rfl rfl fun a E=>?_
 refine qag E ok (qab rfl) rfl rfl fun a E=>?_
 refine wpList_nil ?_
 refine qad ?_
 refine wp_ret ?_
 refine qap ?_
 refine qan ?_
 have hret:qbt u m0 S pb0 x0 x_7 a w:=⟨ok,E.d,⟨rv_t E rfl,trivial⟩,r8⟩
 obtain rfl:=Option.some.inj hF
 exact qaq (by nofun) (sr ⟨rfl,hret⟩)
theorem qiR {u:World} {m0:Mem} {S:Segs} {w:World} {vl vc:Value} (hl:vl.cells.toList = [vl]) (hc:vc.cells.toList = [vc]) (ok:Ok u m0 S w) :
  Calls Tryz.prog 36 [vl,vc].toArray w fun e w'=>∃ b1 b2,e = .returned (.func (.func 53) #[] #[.pointer (some ⟨b1,0,none⟩),.pointer (some ⟨b2,0,none⟩)]) ∧ Ok u m0 ([(b2,Obj.cells [vc].toArray 34 (0,0))] :: [(b1,Obj.cells [vl].toArray 26 (0,0))] :: S) w':=by
 refine enter Tryz.func36 rfl rfl rfl fun a E=>?_
 refine wp_seq ?_
 refine qae ?_
 refine qnB (cs:=[vl]) E ok rfl hl rfl rfl fun b1 a w E ok=>?_
 refine qnB (cs:=[vc]) E ok rfl hc rfl rfl fun b2 a w E ok=>?_
 refine qag E ok (qab rfl) rfl rfl fun a E=>?_
 refine wpList_nil ?_
 refine qad ?_
 refine wp_seq ?_
 refine qae ?_
 refine qag E ok (qi4 (caps:=[.tmp 2,.tmp 3]) rfl) rfl rfl fun a E=>?_
 refine qag E ok (qab rfl) rfl rfl fun a E=>?_
 refine wpList_nil ?_
 refine qad ?_
 refine wp_ret ?_
 exact qaK [.t 4 (.func (.func 53) #[] #[.pointer (some ⟨b1,0,none⟩),.pointer (some ⟨b2,0,none⟩)])] E.d rfl ⟨rv_t E rfl,trivial⟩ ⟨b1,b2,rfl,ok⟩
def KpO (u:World) (m:Mem) (T:Segs) (A B:World):Prop:=Ok u m T A → Ok u m T B
def FOk (nc B:Nat) (x:Found2):Prop:=0 ≤ x.call ∧ x.call < nc ∧ 0 ≤ x.offset ∧ x.offset ≤ B ∧ x.id.length ≤ B + 1000000 ∧ x.source.length ≤ B + 1000000 ∧ x.comment.length ≤ B + 1000000
abbrev Fo (nc B:Nat):={ x:Found2 // FOk nc B x }
def fcs (x:Found2):List Value:=[(Value.int .i64 x.call),(Value.int .i64 x.offset),(Value.string (bs x.id)),(Value.string (bs x.source)),(Value.string (bs x.comment))]
set_option maxRecDepth 100000 in
set_option maxHeartbeats 4000000 in
theorem qnR {u:World} {m0:Mem} {N nc B b1 b2:Nat} {vl_0 vcalls_1:Value} {l_0:List Token} {calls_1:List Call} {rs:List Found2} (hl_0:(pL 3 qbi) m0 [vl_0] l_0) (hcalls_1:(pL 3 qdy) m0 [vcalls_1] calls_1)
  (hF0:qff N l_0 calls_1 = some rs) (hB:∀ x ∈ rs,FOk nc B x) (hG:Glob u) {w:World} (ok:Ok u m0 [[(b2,Obj.cells [vcalls_1].toArray 34 (0,0))],[(b1,Obj.cells [vl_0].toArray 26 (0,0))]] w) :
  SeqStopsK Fence.wide 2 Tryz.prog 53 #[.pointer (some ⟨b1,0,none⟩),.pointer (some ⟨b2,0,none⟩)] (fun x:Fo nc B=>#[Value.agg (fcs x.1).toArray]) (KpO u m0 [[(b2,Obj.cells [vcalls_1].toArray 34 (0,0))],[(b1,Obj.cells [vl_0].toArray 26 (0,0))]]) (fun ys=>ys.map (·.1) = rs) (fun ys=>∃ zs,ys.map (·.1) ++ zs = rs) rs.length w:=by
 intro ln J Jx W hW hJ hJx hY h0
 have okW:Ok u m0 [[(b2,Obj.cells [vcalls_1].toArray 34 (0,0))],[(b1,Obj.cells [vl_0].toArray 26 (0,0))]] W:=ok.below' hW
 clear hW ok
 refine callsIn_wide.2 ?_
 rw [show (#[Value.func (.yield ln) #[] #[]] ++ #[Value.pointer (some ⟨b1,0,none⟩),Value.pointer (some ⟨b2,0,none⟩)]:Array Value) = [Value.func (.yield ln) #[] #[],Value.pointer (some ⟨b1,0,none⟩),Value.pointer (some ⟨b2,0,none⟩)].toArray from by simp]
 have grow:∀ {A C:World} {ys:List (Fo nc B)},J ys A → Go.RowKit.Below A.heap.size A C → J ys C:=fun hA hb=>hJ _ _ _ none hA ⟨hb.os,hb.tape,hb.output,hb.size,fun k hk _=>hb.block k hk⟩ (fun r e=>by cases e)
 refine enter Tryz.func53 rfl rfl rfl fun a E=>?_
 refine wp_seq ?_
 refine qae ?_
 refine qag E okW (qaj qeO rfl (qaf.own 1 rfl rfl)) rfl rfl fun a E=>?_
 refine qag E okW (qaG qck hl_0 rfl) rfl rfl fun a E=>?_
 refine qag E okW (qaa rfl) rfl rfl fun a E=>?_
 refine wpList_nil ?_
 refine qad ?_
 have hlen:=qdi.1 (qau hl_0)
 have E0:Env 126 a [(12,vl_0),(13,(Value.int .i64 (l_0.length:Int))),(14,(Value.int .i64 ((0:Nat):Int))),(0,(Value.func (.yield ln) #[] #[])),(1,(Value.pointer (some ⟨b1,0,none⟩))),(2,(Value.pointer (some ⟨b2,0,none⟩)))]:=E.keep [12,13,14,0,1,2]
 refine wp_block ?_
 unfold qff at hF0
 refine qoG (fun n a w=>∃ (i:Nat) (acc:List (Fo nc B)),n = l_0.length - i ∧ i ≤ l_0.length ∧ Env 126 a [(12,vl_0),(13,(Value.int .i64 (l_0.length:Int))),(14,(Value.int .i64 (i:Int))),(0,(Value.func (.yield ln) #[] #[])),(1,(Value.pointer (some ⟨b1,0,none⟩))),(2,(Value.pointer (some ⟨b2,0,none⟩)))] ∧ Ok u m0 [[(b2,Obj.cells [vcalls_1].toArray 34 (0,0))],[(b1,Obj.cells [vl_0].toArray 26 (0,0))]] w ∧ J acc w ∧ ∃ rest,qhy N l_0 calls_1 (l_0.length - i) i = some rest ∧ acc.map (·.1) ++ rest = rs) ?_ l_0.length _ _ ⟨0,[],rfl,by omega,E0,okW,h0,rs,hF0,rfl⟩
 clear E0 E okW h0 hF0
 rintro n a w ⟨i,acc,rfl,hi,E,okW,hJw,rest,hfo,hrs⟩
 refine wp_seq ?_
 refine qae ?_
 refine qag E okW (qaB rfl rfl) rfl rfl fun a E=>?_
 refine wpList_nil ?_
 refine qad ?_
 refine wp_seq ?_
 refine c_if E rfl (fun hc=>?_) (fun hc=>?_)
 rotate_left
 ·refine wp_exit<|qaD ?_
  refine .inr ⟨by nofun,?_⟩
  refine qaT ?_
  have hk6:i = l_0.length:=by have:=of_decide_eq_false hc; omega
  subst hk6
  rw [Nat.sub_self] at hfo
  obtain rfl:=Option.some.inj hfo
  exact qaK (R:=fun e W'=>(∃ v,e = Ending.returned v) ∧ ((∃ xs:List (Fo nc B),xs.map (·.1) = rs ∧ J xs W') ∨ (∃ pre:List (Fo nc B),(∃ zs,pre.map (·.1) ++ zs = rs) ∧ Jx pre W'))) (fn:=Tryz.f53) (P:=Tryz.prog) [] E.d rfl trivial ⟨⟨_,rfl⟩,.inl ⟨acc,by simpa using hrs,hJw⟩⟩
 have hi6:i < l_0.length:=by have:=of_decide_eq_true hc; omega
 rw [show l_0.length - i = (l_0.length - (i + 1)) + 1 by omega,qhy] at hfo
 obtain ⟨r,hF,hfo⟩:=bnd hfo
 obtain ⟨rest',hfo',hrest⟩:=bnd hfo
 obtain rfl:=Option.some.inj hrest
 replace E:=E.keep [12,13,14,0,1,2]
 obtain ⟨i_2,hi2⟩:∃ i_2:Int,i_2 = (i:Int):=⟨_,rfl⟩
 rw [← hi2] at hF E
 have ri_2:InR .i64 i_2:=by rw [hi2,qdi]; omega
 refine wp_skip<|qad<|wp_seq ?_
 obtain ⟨Q',hQ'⟩:∃ Q':Exit → Act → World → Prop,Q' = fun e a w=>(e = .normal ∧ ∃ acc':List (Fo nc B),Env 126 a [(12,vl_0),(13,(Value.int .i64 (l_0.length:Int))),(14,(Value.int .i64 i_2)),(0,(Value.func (.yield ln) #[] #[])),(1,(Value.pointer (some ⟨b1,0,none⟩))),(2,(Value.pointer (some ⟨b2,0,none⟩)))] ∧ Ok u m0 [[(b2,Obj.cells [vcalls_1].toArray 34 (0,0))],[(b1,Obj.cells [vl_0].toArray 26 (0,0))]] w ∧ J acc' w ∧ acc'.map (·.1) ++ rest' = rs) ∨ (e = .ret ∧ a.defers = [] ∧ ∃ pre:List (Fo nc B),(∃ zs,pre.map (·.1) ++ zs = rs) ∧ Jx pre w):=⟨_,rfl⟩
 refine qbx (Q':=Q') ?_ ?_
 rotate_left
 ·rw [hQ']
  rintro e a w (⟨rfl,acc',E,okW,hJ2,hrs2⟩ | ⟨rfl,hd,hpre⟩)
  ·refine qad ?_
   refine qae ?_
   refine lv E okW (qaL rfl rfl) fun a E=>lv E okW (qaa rfl) fun a E=>?_
   refine wpList_nil (.inl ⟨rfl,l_0.length - (i + 1),by omega,i + 1,acc',rfl,by omega,?_,okW,hJ2,rest',hfo',hrs2⟩)
   have hw:IntKind.wrap .i64 (i_2 + 1) = ((i + 1:Nat):Int):=by rw [hi2,qfW (qdi.2 ⟨by omega,by omega⟩)]; omega
   rw [hw] at E
   exact E.keep [12,13,14,0,1,2]
  ·refine qan ?_
   refine .inr ⟨by nofun,?_⟩
   refine qap ?_
   exact qaK (R:=fun e W'=>(∃ v,e = Ending.returned v) ∧ ((∃ xs:List (Fo nc B),xs.map (·.1) = rs ∧ J xs W') ∨ (∃ pre:List (Fo nc B),(∃ zs,pre.map (·.1) ++ zs = rs) ∧ Jx pre W'))) (fn:=Tryz.f53) (P:=Tryz.prog) [] hd rfl trivial ⟨⟨_,rfl⟩,.inr hpre⟩
 have belo:=fun {m4:Mem} {w':World} (hle:(hmx w [[(b2,Obj.cells [vcalls_1].toArray 34 (0,0))],[(b1,Obj.cells [vl_0].toArray 26 (0,0))]]).le m4) (ok4:Ok u m4 [[(b2,Obj.cells [vcalls_1].toArray 34 (0,0))],[(b1,Obj.cells [vl_0].toArray 26 (0,0))]] w')=>okW.belowX hle ok4
 have okF:=okW.full
 have hskip:∀ {m4:Mem} {a:Act} {w':World},(hmx w [[(b2,Obj.cells [vcalls_1].toArray 34 (0,0))],[(b1,Obj.cells [vl_0].toArray 26 (0,0))]]).le m4 → Ok u m4 [[(b2,Obj.cells [vcalls_1].toArray 34 (0,0))],[(b1,Obj.cells [vl_0].toArray 26 (0,0))]] w' → Env 126 a [(12,vl_0),(13,(Value.int .i64 (l_0.length:Int))),(14,(Value.int .i64 i_2)),(0,(Value.func (.yield ln) #[] #[])),(1,(Value.pointer (some ⟨b1,0,none⟩))),(2,(Value.pointer (some ⟨b2,0,none⟩)))] → r = none → Q' .normal a w':=by
  intro m4 a w' hle ok4 E hr
  rw [hQ']
  exact .inl ⟨rfl,acc,E,okW.below' (belo hle ok4),grow hJw (belo hle ok4),by rw [← hrs,hr]; rfl⟩
 have hyd:∀ {m4:Mem} {X:List (List (Nat × Obj))} {w':World} {x:Found2},(hmx w [[(b2,Obj.cells [vcalls_1].toArray 34 (0,0))],[(b1,Obj.cells [vl_0].toArray 26 (0,0))]]).le m4 → Ok u m4 [[(b2,Obj.cells [vcalls_1].toArray 34 (0,0))],[(b1,Obj.cells [vl_0].toArray 26 (0,0))]] w' → r = some x →
   Ok u m0 [[(b2,Obj.cells [vcalls_1].toArray 34 (0,0))],[(b1,Obj.cells [vl_0].toArray 26 (0,0))]] w' ∧ ∃ y:Fo nc B,y.1 = x ∧ (acc ++ [y]).map (·.1) ++ rest' = rs ∧ YieldAt Fence.wide 1 Tryz.prog ln #[Value.agg (fcs x).toArray] w' fun e W' =>
    (e = .returned (.bool true) ∧ J (acc ++ [y]) W' ∧ KpO u m0 [[(b2,Obj.cells [vcalls_1].toArray 34 (0,0))],[(b1,Obj.cells [vl_0].toArray 26 (0,0))]] w' W') ∨ (e = .returned (.bool false) ∧ Jx (acc ++ [y]) W'):=by
  intro m4 X w' x hle ok4 hr
  rw [hr] at hrs
  have hx:x ∈ rs:=by rw [← hrs]; simp
  have hn:acc.length < rs.length:=by rw [← hrs]; simp
  refine ⟨okW.below' (belo hle ok4),⟨x,hB x hx⟩,rfl,?_,hY acc ⟨x,hB x hx⟩ w' (grow hJw (belo hle ok4)) hn⟩
  rw [← hrs]; simp
 replace hl_0:=(mL qde).up okW.hmx_le hl_0
 replace hcalls_1:=(mL qep).up okW.hmx_le hcalls_1
 clear belo grow hJw okW
 obtain ⟨mo,hmo⟩:∃ mo:Mem,mo = m0:=⟨_,rfl⟩
 rw [← hmo] at hyd hQ'
 clear hmo hY hJ hJx
 obtain ⟨S,hS⟩:∃ S:Segs,S = []:=⟨_,rfl⟩
 rw [← hS] at hQ' hskip hyd okF hl_0 hcalls_1
 clear hS m0
 generalize hmx w _ = m0 at *
 have ok:=okF
 clear okF
 have le_m0:=Mem.le.refl m0
 unfold qhi at hF
 refine wp_block ?_
 refine wp_seq ?_
 refine qae ?_
 refine qag E ok (qaa rfl) rfl rfl fun a E=>?_
 obtain ⟨x12,e13,hF⟩:=bnd hF
 obtain ⟨b14,o15,es16,hl17,rr18,at19,yy20⟩:=qaI qck hl_0 e13 (P:=Tryz.prog) (X:=.tmp 12) (I:=.tmp 14) (kd:=.i64) (qao E rfl) (qao E rfl)
 obtain ⟨rfl,l21,l22,r23⟩:=rr18
 refine qag E ok (yy20 _ _) rfl rfl fun a E=>?_
 refine qag E ok (qax (cs:=[(Value.string (bs x12.Kind)),(Value.string (bs x12.Text)),(Value.int .i64 x12.From)]) qeD rfl rfl (qaf.ro at19)) rfl rfl fun a E=>?_
 refine qaZ E ok qcD rfl rfl fun b24 a w E ok=>?_
 refine qag E ok (qab rfl) rfl rfl fun a E=>?_
 refine qat E ok 0 rfl rfl rfl qiB rfl rfl ⟨rfl,rfl,rfl,trivial⟩ rfl rfl fun w ok=>?_
 refine wpList_nil ?_
 refine qad ?_
 refine wp_seq ?_
 refine qae ?_
 refine qag E ok (qaj qhX rfl (qaf.own 1 rfl rfl)) rfl rfl fun a E=>?_
 refine qag E ok (qi4 (caps:=[.tmp 5]) rfl) rfl rfl fun a E=>?_
 obtain ⟨r25,e26,hF⟩:=bnd hF
 refine qaw E qqN rfl (qd0 N _ calls_1 hcalls_1 x12 l21 l22 r23 e26 hG ok) rfl rfl ?_
 rintro _ w ⟨⟨rfl,ok⟩,r27⟩
 refine ⟨_,rfl,fun a E=>?_⟩
 refine qag E ok (qab rfl) rfl rfl fun a E=>?_
 refine wpList_nil ?_
 refine qad ?_
 refine wp_seq ?_
 refine qae ?_
 refine qag E ok (qaa rfl) rfl rfl fun a E=>?_
 refine qag E ok (qaL rfl rfl) rfl rfl fun a E=>?_
 refine qag E ok (qab rfl) rfl rfl fun a E=>?_
 refine wpList_nil ?_
 refine qad ?_
 refine wp_seq ?_
 refine wp_block ?_
 obtain ⟨o29,hL,hF⟩:=bnd hF
 refine qaR _ (fun (s:Int) a w=>Ok u m0 ([(b24,Obj.cells [(Value.string (bs x12.Kind)),(Value.string (bs x12.Text)),(Value.int .i64 x12.From)].toArray 29 (0,0))] :: [(b2,Obj.cells [vcalls_1].toArray 34 (0,0))] :: [(b1,Obj.cells [vl_0].toArray 26 (0,0))] :: S) w ∧ Env 126 a [(4,(Value.int .i64 i_2)),(5,(Value.pointer (some ⟨b24,0,none⟩))),(6,(Value.int .i64 r25)),(7,(Value.int .i64 s)),(12,vl_0),(13,(Value.int .i64 (l_0.length:Int))),(14,(Value.int .i64 i_2)),(0,(Value.func (.yield ln) #[] #[])),(1,(Value.pointer (some ⟨b1,0,none⟩))),(2,(Value.pointer (some ⟨b2,0,none⟩)))] ∧ InR .i64 s) (fun (b:Int) e a w=>e = (.exit 2) ∧ Ok u m0 ([(b24,Obj.cells [(Value.string (bs x12.Kind)),(Value.string (bs x12.Text)),(Value.int .i64 x12.From)].toArray 29 (0,0))] :: [(b2,Obj.cells [vcalls_1].toArray 34 (0,0))] :: [(b1,Obj.cells [vl_0].toArray 26 (0,0))] :: S) w ∧ Env 126 a [(4,(Value.int .i64 i_2)),(5,(Value.pointer (some ⟨b24,0,none⟩))),(6,(Value.int .i64 r25)),(7,(Value.int .i64 b)),(12,vl_0),(13,(Value.int .i64 (l_0.length:Int))),(14,(Value.int .i64 i_2)),(0,(Value.func (.yield ln) #[] #[])),(1,(Value.pointer (some ⟨b1,0,none⟩))),(2,(Value.pointer (some ⟨b2,0,none⟩)))] ∧ InR .i64 b) ?_ ?_ N _ a w hL ⟨ok,E.keep [4,5,6,7,12,13,14,0,1,2],(InR.wrap _ _)⟩
 ·rintro x_31 a w r ⟨ok,E,r32⟩ hF
  replace hF:qeN N l_0 x_31 = some r:=hF
  unfold qeN at hF
  refine wp_seq ?_
  refine wp_seq ?_
  refine qae ?_
  refine qag E ok (qaa rfl) rfl rfl fun a E=>?_
  refine qag E ok (qaj qeO rfl (qaf.own 2 rfl rfl)) rfl rfl fun a E=>?_
  refine qag E ok (qaG qck hl_0 rfl) rfl rfl fun a E=>?_
  refine qag E ok (qaB rfl rfl) rfl rfl fun a E=>?_
  refine qag E ok (qaa rfl) rfl rfl fun a E=>?_
  refine qas (decide (x_31 < (l_0.length:Int))) (fun hc33=>?_) (fun hc33=>?_)
  rotate_left
  ·replace hF:=qah hc33 hF
   replace E:=E.upd 28 hc33 rfl
   refine qbe E rfl rfl fun a E=>?_
   refine qbe E rfl rfl fun a E=>?_
   refine qbe E rfl rfl fun a E=>?_
   refine qbe E rfl rfl fun a E=>?_
   refine qbe E rfl rfl fun a E=>?_
   refine qag E ok (qam rfl rfl) rfl rfl fun a E=>?_
   refine wpList_nil ?_
   refine qad ?_
   refine c_if E rfl (fun h=>by cases h) (fun _=>?_)
   refine wp_exit ?_
   refine qaD ?_
   obtain rfl:=Option.some.inj hF
   exact qaq (by nofun) (⟨rfl,⟨ok,E.keep [4,5,6,7,12,13,14,0,1,2],r32⟩⟩)
  replace hF:=qai hc33 hF
  replace E:=E.upd 28 hc33 rfl
  refine qag E ok (qaj qeO rfl (qaf.own 2 rfl rfl)) rfl rfl fun a E=>?_
  refine qag E ok (qaa rfl) rfl rfl fun a E=>?_
  obtain ⟨x34,e35,hF⟩:=bnd hF
  obtain ⟨b36,o37,es38,hl39,rr40,at41,yy42⟩:=qaI qck hl_0 e35 (P:=Tryz.prog) (X:=.tmp 29) (I:=.tmp 30) (kd:=.i64) (qao E rfl) (qao E rfl)
  obtain ⟨rfl,l43,l44,r45⟩:=rr40
  refine qag E ok (yy42 _ _) rfl rfl fun a E=>?_
  refine qag E ok (qax (cs:=[(Value.string (bs x34.Kind)),(Value.string (bs x34.Text)),(Value.int .i64 x34.From)]) qeD rfl rfl (qaf.ro at41)) rfl rfl fun a E=>?_
  obtain ⟨r46,e47,hF⟩:=bnd hF
  refine qaw E qm4 rfl (qgG N _ x34 ⟨rfl,l43,l44,r45⟩ e47 hG ok) rfl rfl ?_
  rintro _ w ⟨rfl,ok⟩
  refine ⟨_,rfl,fun a E=>?_⟩
  refine qag E ok (qak rfl rfl) rfl rfl fun a E=>?_
  refine wpList_nil ?_
  refine qad ?_
  refine c_if E rfl (fun hc48=>?_) (fun hc48=>?_)
  rotate_left
  ·replace hF:=qah hc48 hF
   refine wp_exit ?_
   refine qaD ?_
   obtain rfl:=Option.some.inj hF
   exact qaq (by nofun) (⟨rfl,⟨ok,E.keep [4,5,6,7,12,13,14,0,1,2],r32⟩⟩)
  replace hF:=qai hc48 hF
  refine wp_skip ?_
  refine qad ?_
  refine wp_block ?_
  refine qae ?_
  refine qag E ok (qaa rfl) rfl rfl fun a E=>?_
  refine qag E ok (qaC rfl rfl (InR.inc r32 (qau hl_0) hc33)) rfl rfl fun a E=>?_
  refine qag E ok (qab rfl) rfl rfl fun a E=>?_
  refine wpList_nil ?_
  refine qar ?_
  obtain rfl:=Option.some.inj hF
  exact qay ⟨ok,E.keep [4,5,6,7,12,13,14,0,1,2],(InR.inc r32 (qau hl_0) hc33)⟩
 intro e a w _ hO
 obtain ⟨rfl,ok,E,r49⟩:=hO
 refine qaT ?_
 refine qad ?_
 refine wp_seq ?_
 refine wp_seq ?_
 refine qae ?_
 refine qag E ok (qaa rfl) rfl rfl fun a E=>?_
 refine qag E ok (qaB rfl rfl) rfl rfl fun a E=>?_
 refine qag E ok (qaa rfl) rfl rfl fun a E=>?_
 refine qas (decide (r25 < 0)) (fun hc50=>?_) (fun hc50=>?_)
 ·replace hF:=qai hc50 hF
  replace E:=E.upd 39 hc50 rfl
  refine qbe E rfl rfl fun a E=>?_
  refine qbe E rfl rfl fun a E=>?_
  refine qbe E rfl rfl fun a E=>?_
  refine qbe E rfl rfl fun a E=>?_
  refine qag E ok (qak rfl rfl) rfl rfl fun a E=>?_
  refine qag E ok (qaa rfl) rfl rfl fun a E=>?_
  refine qbe E rfl rfl fun a E=>?_
  refine qbe E rfl rfl fun a E=>?_
  refine qbe E rfl rfl fun a E=>?_
  refine qbe E rfl rfl fun a E=>?_
  refine qbe E rfl rfl fun a E=>?_
  refine qbe E rfl rfl fun a E=>?_
  refine qag E ok (qak rfl rfl) rfl rfl fun a E=>?_
  refine wpList_nil ?_
  refine qad ?_
  refine c_if E rfl (fun _=>?_) (fun h=>by cases h)
  refine wp_exit ?_
  refine qaD ?_
  refine qaT ?_
  exact hskip le_m0 (ok.pk 3 [1,2] rfl (by decide)) (E.keep [12,13,14,0,1,2]) (Option.some.inj hF).symm
 replace hF:=qah hc50 hF
 replace E:=E.upd 39 hc50 rfl
 refine qag E ok (qaa rfl) rfl rfl fun a E=>?_
 refine qag E ok (qaj qeO rfl (qaf.own 2 rfl rfl)) rfl rfl fun a E=>?_
 refine qag E ok (qaG qck hl_0 rfl) rfl rfl fun a E=>?_
 refine qag E ok (qbn rfl rfl) rfl rfl fun a E=>?_
 refine qag E ok (qam rfl rfl) rfl rfl fun a E=>?_
 refine qag E ok (qaa rfl) rfl rfl fun a E=>?_
 refine qas (o29 == (l_0.length:Int)) (fun hc51=>?_) (fun hc51=>?_)
 ·replace hF:=qai hc51 hF
  replace E:=E.upd 45 hc51 rfl
  refine qbe E rfl rfl fun a E=>?_
  refine qbe E rfl rfl fun a E=>?_
  refine qbe E rfl rfl fun a E=>?_
  refine qbe E rfl rfl fun a E=>?_
  refine qbe E rfl rfl fun a E=>?_
  refine qbe E rfl rfl fun a E=>?_
  refine qag E ok (qak rfl rfl) rfl rfl fun a E=>?_
  refine wpList_nil ?_
  refine qad ?_
  refine c_if E rfl (fun _=>?_) (fun h=>by cases h)
  refine wp_exit ?_
  refine qaD ?_
  refine qaT ?_
  exact hskip le_m0 (ok.pk 3 [1,2] rfl (by decide)) (E.keep [12,13,14,0,1,2]) (Option.some.inj hF).symm
 replace hF:=qah hc51 hF
 replace E:=E.upd 45 hc51 rfl
 refine qag E ok (qaj qeO rfl (qaf.own 2 rfl rfl)) rfl rfl fun a E=>?_
 refine qag E ok (qaa rfl) rfl rfl fun a E=>?_
 obtain ⟨x52,e53,hF⟩:=bnd hF
 obtain ⟨b54,o55,es56,hl57,rr58,at59,yy60⟩:=qaI qck hl_0 e53 (P:=Tryz.prog) (X:=.tmp 46) (I:=.tmp 47) (kd:=.i64) (qao E rfl) (qao E rfl)
 obtain ⟨rfl,l61,l62,r63⟩:=rr58
 refine qag E ok (yy60 _ _) rfl rfl fun a E=>?_
 refine qag E ok (qac qbT rfl) rfl rfl fun a E=>?_
 refine qag E ok (qaj qav rfl (qaf.ro (At.sub 0 1 at59))) rfl rfl fun a E=>?_
 refine qag E ok (qbQ rfl rfl) rfl rfl fun a E=>?_
 refine qag E ok (qam rfl rfl) rfl rfl fun a E=>?_
 refine wpList_nil ?_
 refine qad ?_
 refine c_if E rfl (fun hc64=>?_) (fun hc64=>?_)
 ·replace hF:=qai hc64 hF
  refine wp_exit ?_
  refine qaD ?_
  refine qaT ?_
  exact hskip le_m0 (ok.pk 3 [1,2] rfl (by decide)) (E.keep [12,13,14,0,1,2]) (Option.some.inj hF).symm
 replace hF:=qah hc64 hF
 refine wp_skip ?_
 refine qad ?_
 refine wp_seq ?_
 refine qae ?_
 refine qag E ok (qaj qeO rfl (qaf.own 2 rfl rfl)) rfl rfl fun a E=>?_
 refine qag E ok (qaa rfl) rfl rfl fun a E=>?_
 obtain ⟨r65,e66,hF⟩:=bnd hF
 refine qaw E qqc rfl (qji N _ l_0 hl_0 o29 r49 e66 hG ok) rfl rfl ?_
 rintro _ w ⟨m67,c68,rfl,hle,ok,h69⟩
 have le_m0:=le_m0.trans hle
 have hl_0:=(mL qde).up hle hl_0
 have hcalls_1:=(mL qep).up hle hcalls_1
 have at19:=At.up hle at19
 have at59:=At.up hle at59
 refine ⟨_,rfl,fun a E=>?_⟩
 refine qag E ok (qab rfl) rfl rfl fun a E=>?_
 refine wpList_nil ?_
 refine qad ?_
 refine wp_seq ?_
 obtain ⟨o70,hJ,hF⟩:=bnd hF
 refine qbx (Q':=fun e a w=>e = .normal ∧ ∃ b76,Ok u m67 ([(b76,Obj.cells [(Value.int .i64 o70.call),(Value.int .i64 o70.offset),(Value.string (bs o70.id)),(Value.string (bs o70.source)),(Value.string (bs o70.comment))].toArray 105 (0,0))] :: [(b24,Obj.cells [(Value.string (bs x12.Kind)),(Value.string (bs x12.Text)),(Value.int .i64 x12.From)].toArray 29 (0,0))] :: [(b2,Obj.cells [vcalls_1].toArray 34 (0,0))] :: [(b1,Obj.cells [vl_0].toArray 26 (0,0))] :: S) w ∧ Env 126 a [(6,(Value.int .i64 r25)),(8,c68),(9,(Value.pointer (some ⟨b76,0,none⟩))),(12,vl_0),(13,(Value.int .i64 (l_0.length:Int))),(14,(Value.int .i64 i_2)),(0,(Value.func (.yield ln) #[] #[])),(1,(Value.pointer (some ⟨b1,0,none⟩))),(2,(Value.pointer (some ⟨b2,0,none⟩)))] ∧ InR .i64 o70.call ∧ InR .i64 o70.offset ∧ o70.id.length ≤ LIMS ∧ o70.source.length ≤ LIMS ∧ o70.comment.length ≤ LIMS) ?_ ?_
 ·replace hF:=hJ
  clear hJ
  obtain ⟨r77,e78,hF⟩:=bnd hF
  obtain rfl:=Option.some.inj hF
  refine qcO [] (Cls u m67 ([(b24,Obj.cells [(Value.string (bs x12.Kind)),(Value.string (bs x12.Text)),(Value.int .i64 x12.From)].toArray 29 (0,0))] :: [(b2,Obj.cells [vcalls_1].toArray 34 (0,0))] :: [(b1,Obj.cells [vl_0].toArray 26 (0,0))] :: [])) (Cls u m67 ([(b24,Obj.cells [(Value.string (bs x12.Kind)),(Value.string (bs x12.Text)),(Value.int .i64 x12.From)].toArray 29 (0,0))] :: [(b2,Obj.cells [vcalls_1].toArray 34 (0,0))] :: [(b1,Obj.cells [vl_0].toArray 26 (0,0))] :: [])) (by kernel_rfl) ?_
  intro w hw
  replace ok:=qcV ok hw
  clear hw
  have le_m67:=Mem.le.refl m67
  refine qaM (cl1 ⟨m67,_,le_m67,ok,⟨qal 0 rfl,qal 1 rfl,qal 2 rfl,trivial⟩⟩ ⟨m67,_,le_m67,ok,⟨qal 0 rfl,qal 1 rfl,qal 2 rfl,trivial⟩⟩) fun hT=>?_
  refine qc6 0 E rfl (by kernel_rfl) nP hT (qaa rfl) rfl rfl fun a E=>?_
  refine qc6 1 E rfl (by kernel_rfl) nP hT (qac qpi rfl) rfl rfl fun a E=>?_
  refine qc6 2 E rfl (by kernel_rfl) nP hT (qaj qa0 rfl (qaf.cown 0 rfl rfl)) rfl rfl fun a E=>?_
  refine qc6 3 E rfl (by kernel_rfl) nP hT (qaj qeO rfl (qaf.cown 2 rfl rfl)) rfl rfl fun a E=>?_
  refine qc6 4 E rfl (by kernel_rfl) nP hT (qaa rfl) rfl rfl fun a E=>?_
  refine qbj [5,7] (by kernel_rfl) rfl (qm2 ?_ (qm2 ?_ (qou)))
  ·refine qaz (o:=_) rfl ?_
   refine qaw E qoE rfl (qhu N _ l_0 hl_0 i_2 ri_2 e78 hG ok) rfl rfl ?_
   rintro _ w ⟨⟨rfl,ok⟩,l81⟩
   refine ⟨_,rfl,fun a E=>?_⟩
   refine wpList_nil ?_
   refine qad ?_
   refine qaM (cl1 ⟨m67,_,le_m67,ok,⟨qal 0 rfl,qal 1 rfl,qal 2 rfl,trivial⟩⟩ ⟨m67,_,le_m67,ok,⟨qal 0 rfl,qal 1 rfl,qal 2 rfl,trivial⟩⟩) fun hT=>?_
   refine qc6 6 E rfl (by kernel_rfl) nP hT (qa6 (ps:=[(0,.tmp 56),(1,.tmp 58),(4,.tmp 61)]) (qs:=[(0,[(Value.int .i64 r25)]),(1,[(Value.int .i64 x12.From)]),(4,[(Value.string (bs r77))])]) (cs:=[(Value.int .i64 r25),(Value.int .i64 x12.From),(Value.string (bs ([]))),(Value.string (bs ([]))),(Value.string (bs r77))]) qhO qkI rfl ⟨rfl,rfl,rfl,⟨rfl,rfl,rfl,⟨rfl,rfl,rfl,trivial⟩⟩⟩ rfl) rfl rfl fun a E=>?_
   refine qbj [7] (by kernel_rfl) rfl (qbk ?_)
   ·refine qaz (o:=_) rfl ?_
    refine qaZ E ok qhO rfl rfl fun b82 a w E ok=>?_
    refine wpList_nil ?_
    refine qad ?_
    refine qaM (cl1 ⟨m67,_,le_m67,ok,⟨qal 1 rfl,qal 2 rfl,qal 3 rfl,trivial⟩⟩ ⟨m67,_,le_m67,ok,⟨qal 1 rfl,qal 2 rfl,qal 3 rfl,trivial⟩⟩) fun hT=>?_
    refine qbj [8] (by kernel_rfl) rfl (qbk ?_)
    ·refine qaz (o:=_) rfl ?_
     refine qat E ok 0 rfl rfl rfl qk8 rfl rfl ⟨rfl,rfl,rfl,rfl,rfl,trivial⟩ rfl rfl fun w ok=>?_
     refine wpList_nil ?_
     refine qad ?_
     refine qaM (cl1 ⟨m67,_,le_m67,ok,⟨qal 1 rfl,qal 2 rfl,qal 3 rfl,trivial⟩⟩ ⟨m67,_,le_m67,ok,⟨qal 1 rfl,qal 2 rfl,qal 3 rfl,trivial⟩⟩) fun hT=>?_
     refine qcP (by kernel_rfl) ?_
     exact ⟨rfl,⟨b82,ok,E.keep [6,8,9,12,13,14,0,1,2],r27,r23,(Nat.zero_le _),(Nat.zero_le _),l81⟩⟩
  refine qaz (o:=_) rfl ?_
  refine qaZ E ok qhO rfl rfl fun b83 a w E ok=>?_
  refine wpList_nil ?_
  refine qad ?_
  refine qaM (cl1 ⟨m67,_,le_m67,ok,⟨qal 1 rfl,qal 2 rfl,qal 3 rfl,trivial⟩⟩ ⟨m67,_,le_m67,ok,⟨qal 1 rfl,qal 2 rfl,qal 3 rfl,trivial⟩⟩) fun hT=>?_
  refine qbj [5] (by kernel_rfl) rfl (qbk ?_)
  ·refine qaz (o:=_) rfl ?_
   refine qaw E qoE rfl (qhu N _ l_0 hl_0 i_2 ri_2 e78 hG ok) rfl rfl ?_
   rintro _ w ⟨⟨rfl,ok⟩,l84⟩
   refine ⟨_,rfl,fun a E=>?_⟩
   refine wpList_nil ?_
   refine qad ?_
   refine qaM (cl1 ⟨m67,_,le_m67,ok,⟨qal 1 rfl,qal 2 rfl,qal 3 rfl,trivial⟩⟩ ⟨m67,_,le_m67,ok,⟨qal 1 rfl,qal 2 rfl,qal 3 rfl,trivial⟩⟩) fun hT=>?_
   refine qc6 6 E rfl (by kernel_rfl) nP hT (qa6 (ps:=[(0,.tmp 56),(1,.tmp 58),(4,.tmp 61)]) (qs:=[(0,[(Value.int .i64 r25)]),(1,[(Value.int .i64 x12.From)]),(4,[(Value.string (bs r77))])]) (cs:=[(Value.int .i64 r25),(Value.int .i64 x12.From),(Value.string (bs ([]))),(Value.string (bs ([]))),(Value.string (bs r77))]) qhO qkI rfl ⟨rfl,rfl,rfl,⟨rfl,rfl,rfl,⟨rfl,rfl,rfl,trivial⟩⟩⟩ rfl) rfl rfl fun a E=>?_
   refine qbj [8] (by kernel_rfl) rfl (qbk ?_)
   ·refine qaz (o:=_) rfl ?_
    refine qat E ok 0 rfl rfl rfl qk8 rfl rfl ⟨rfl,rfl,rfl,rfl,rfl,trivial⟩ rfl rfl fun w ok=>?_
    refine wpList_nil ?_
    refine qad ?_
    refine qaM (cl1 ⟨m67,_,le_m67,ok,⟨qal 1 rfl,qal 2 rfl,qal 3 rfl,trivial⟩⟩ ⟨m67,_,le_m67,ok,⟨qal 1 rfl,qal 2 rfl,qal 3 rfl,trivial⟩⟩) fun hT=>?_
    refine qcP (by kernel_rfl) ?_
    exact ⟨rfl,⟨b83,ok,E.keep [6,8,9,12,13,14,0,1,2],r27,r23,(Nat.zero_le _),(Nat.zero_le _),l84⟩⟩
 clear hJ
 intro e a w hO
 obtain ⟨rfl,b90,ok,E,r85,r86,l87,l88,l89⟩:=hO
 refine qad ?_
 refine wp_seq ?_
 refine qae ?_
 refine qag E ok (qab rfl) rfl rfl fun a E=>?_
 refine qag E ok (qab rfl) rfl rfl fun a E=>?_
 refine wpList_nil ?_
 refine qad ?_
 refine wp_seq ?_
 refine wp_seq ?_
 refine qae ?_
 refine qag E ok (qaj qhX rfl (qaf.own 2 rfl rfl)) rfl rfl fun a E=>?_
 refine qag E ok (qaa rfl) rfl rfl fun a E=>?_
 obtain ⟨x91,e92,hF⟩:=bnd hF
 obtain ⟨b93,o94,es95,hl96,rr97,at98,yy99⟩:=qaI qfz hcalls_1 e92 (P:=Tryz.prog) (X:=.tmp 63) (I:=.tmp 64) (kd:=.i64) (qao E rfl) (qao E rfl)
 obtain ⟨rfl,l100,r101,r102⟩:=rr97
 refine qag E ok (yy99 _ _) rfl rfl fun a E=>?_
 refine qag E ok (qac qhC rfl) rfl rfl fun a E=>?_
 refine qag E ok (qaj qa0 rfl (qaf.ro (At.sub 1 1 at98))) rfl rfl fun a E=>?_
 refine qag E ok (qbg rfl rfl) rfl rfl fun a E=>?_
 refine wpList_nil ?_
 refine qad ?_
 obtain ⟨o103,hJ,hF⟩:=bnd hF
 refine qbx (Q':=fun e a w=>e = .normal ∧ Ok u m67 ([(b90,Obj.cells [(Value.int .i64 o103.2.call),(Value.int .i64 o103.2.offset),(Value.string (bs o103.2.id)),(Value.string (bs o103.2.source)),(Value.string (bs o103.2.comment))].toArray 105 (0,0))] :: [(b24,Obj.cells [(Value.string (bs x12.Kind)),(Value.string (bs x12.Text)),(Value.int .i64 x12.From)].toArray 29 (0,0))] :: [(b2,Obj.cells [vcalls_1].toArray 34 (0,0))] :: [(b1,Obj.cells [vl_0].toArray 26 (0,0))] :: S) w ∧ Env 126 a [(6,(Value.int .i64 r25)),(8,c68),(9,(Value.pointer (some ⟨b90,0,none⟩))),(10,(Value.bool o103.1)),(11,(Value.bool true)),(12,vl_0),(13,(Value.int .i64 (l_0.length:Int))),(14,(Value.int .i64 i_2)),(0,(Value.func (.yield ln) #[] #[])),(1,(Value.pointer (some ⟨b1,0,none⟩))),(2,(Value.pointer (some ⟨b2,0,none⟩)))] ∧ InR .i64 o103.2.call ∧ InR .i64 o103.2.offset ∧ o103.2.id.length ≤ LIMS ∧ o103.2.source.length ≤ LIMS ∧ o103.2.comment.length ≤ LIMS) ?_ ?_
 ·replace hF:=hJ
  clear hJ
  refine c_if E rfl (fun hc109=>?_) (fun hc109=>?_)
  rotate_left
  ·replace hF:=qah hc109 hF
   refine wp_skip ?_
   obtain rfl:=Option.some.inj hF
   exact ⟨rfl,⟨ok,E.keep [6,8,9,10,11,12,13,14,0,1,2],r85,r86,l87,l88,l89⟩⟩
  replace hF:=qai hc109 hF
  refine qae ?_
  refine qag E ok (qaa rfl) rfl rfl fun a E=>?_
  refine qag E ok (qaj qhX rfl (qaf.own 2 rfl rfl)) rfl rfl fun a E=>?_
  refine qag E ok (qaa rfl) rfl rfl fun a E=>?_
  obtain ⟨x110,e111,hF⟩:=bnd hF
  obtain ⟨b112,o113,es114,hl115,rr116,at117,yy118⟩:=qaI qfz hcalls_1 e111 (P:=Tryz.prog) (X:=.tmp 71) (I:=.tmp 72) (kd:=.i64) (qao E rfl) (qao E rfl)
  obtain ⟨rfl,l119,r120,r121⟩:=rr116
  refine qag E ok (yy118 _ _) rfl rfl fun a E=>?_
  refine qag E ok (qac qhC rfl) rfl rfl fun a E=>?_
  refine qag E ok (qaj qa0 rfl (qaf.ro (At.sub 1 1 at117))) rfl rfl fun a E=>?_
  obtain ⟨r122,e123,hF⟩:=bnd hF
  refine qaw E qoo rfl (qib N _ r65 h69 x110.ID r120 e123 hG ok) rfl rfl ?_
  rintro _ w ⟨⟨rfl,ok⟩,l124⟩
  refine ⟨_,rfl,fun a E=>?_⟩
  refine qag E ok (qaa rfl) rfl rfl fun a E=>?_
  refine qag E ok (qaA rfl rfl) rfl rfl fun a E=>?_
  refine qag E ok (qaA rfl rfl) rfl rfl fun a E=>?_
  refine qag E ok (qac qgS rfl) rfl rfl fun a E=>?_
  refine qat E ok 0 rfl rfl rfl qfy rfl rfl ⟨rfl,trivial⟩ rfl rfl fun w ok=>?_
  refine qag E ok (qab rfl) rfl rfl fun a E=>?_
  refine wpList_nil ?_
  obtain rfl:=Option.some.inj hF
  exact ⟨rfl,⟨ok,E.keep [6,8,9,10,11,12,13,14,0,1,2],r85,r86,l124,l88,l89⟩⟩
 clear hJ
 intro e a w hO
 obtain ⟨rfl,ok,E,r125,r126,l127,l128,l129⟩:=hO
 refine qad ?_
 refine wp_seq ?_
 refine wp_seq ?_
 refine qae ?_
 refine qag E ok (qaj qhX rfl (qaf.own 2 rfl rfl)) rfl rfl fun a E=>?_
 refine qag E ok (qaa rfl) rfl rfl fun a E=>?_
 obtain ⟨x130,e131,hF⟩:=bnd hF
 obtain ⟨b132,o133,es134,hl135,rr136,at137,yy138⟩:=qaI qfz hcalls_1 e131 (P:=Tryz.prog) (X:=.tmp 80) (I:=.tmp 81) (kd:=.i64) (qao E rfl) (qao E rfl)
 obtain ⟨rfl,l139,r140,r141⟩:=rr136
 refine qag E ok (yy138 _ _) rfl rfl fun a E=>?_
 refine qag E ok (qac qhD rfl) rfl rfl fun a E=>?_
 refine qag E ok (qaj qa0 rfl (qaf.ro (At.sub 2 1 at137))) rfl rfl fun a E=>?_
 refine qag E ok (qbg rfl rfl) rfl rfl fun a E=>?_
 refine wpList_nil ?_
 refine qad ?_
 obtain ⟨o142,hJ,hF⟩:=bnd hF
 refine qbx (Q':=fun e a w=>e = .normal ∧ Ok u m67 ([(b90,Obj.cells [(Value.int .i64 o142.2.call),(Value.int .i64 o142.2.offset),(Value.string (bs o142.2.id)),(Value.string (bs o142.2.source)),(Value.string (bs o142.2.comment))].toArray 105 (0,0))] :: [(b24,Obj.cells [(Value.string (bs x12.Kind)),(Value.string (bs x12.Text)),(Value.int .i64 x12.From)].toArray 29 (0,0))] :: [(b2,Obj.cells [vcalls_1].toArray 34 (0,0))] :: [(b1,Obj.cells [vl_0].toArray 26 (0,0))] :: S) w ∧ Env 126 a [(6,(Value.int .i64 r25)),(9,(Value.pointer (some ⟨b90,0,none⟩))),(10,(Value.bool o103.1)),(11,(Value.bool o142.1)),(12,vl_0),(13,(Value.int .i64 (l_0.length:Int))),(14,(Value.int .i64 i_2)),(0,(Value.func (.yield ln) #[] #[])),(1,(Value.pointer (some ⟨b1,0,none⟩))),(2,(Value.pointer (some ⟨b2,0,none⟩)))] ∧ InR .i64 o142.2.call ∧ InR .i64 o142.2.offset ∧ o142.2.id.length ≤ LIMS ∧ o142.2.source.length ≤ LIMS ∧ o142.2.comment.length ≤ LIMS) ?_ ?_
 ·replace hF:=hJ
  clear hJ
  refine c_if E rfl (fun hc148=>?_) (fun hc148=>?_)
  rotate_left
  ·replace hF:=qah hc148 hF
   refine wp_skip ?_
   obtain rfl:=Option.some.inj hF
   exact ⟨rfl,⟨ok,E.keep [6,9,10,11,12,13,14,0,1,2],r125,r126,l127,l128,l129⟩⟩
  replace hF:=qai hc148 hF
  refine qae ?_
  refine qag E ok (qaa rfl) rfl rfl fun a E=>?_
  refine qag E ok (qaj qhX rfl (qaf.own 2 rfl rfl)) rfl rfl fun a E=>?_
  refine qag E ok (qaa rfl) rfl rfl fun a E=>?_
  obtain ⟨x149,e150,hF⟩:=bnd hF
  obtain ⟨b151,o152,es153,hl154,rr155,at156,yy157⟩:=qaI qfz hcalls_1 e150 (P:=Tryz.prog) (X:=.tmp 88) (I:=.tmp 89) (kd:=.i64) (qao E rfl) (qao E rfl)
  obtain ⟨rfl,l158,r159,r160⟩:=rr155
  refine qag E ok (yy157 _ _) rfl rfl fun a E=>?_
  refine qag E ok (qac qhD rfl) rfl rfl fun a E=>?_
  refine qag E ok (qaj qa0 rfl (qaf.ro (At.sub 2 1 at156))) rfl rfl fun a E=>?_
  obtain ⟨r161,e162,hF⟩:=bnd hF
  refine qaw E qoo rfl (qib N _ r65 h69 x149.Source r160 e162 hG ok) rfl rfl ?_
  rintro _ w ⟨⟨rfl,ok⟩,l163⟩
  refine ⟨_,rfl,fun a E=>?_⟩
  refine qag E ok (qaa rfl) rfl rfl fun a E=>?_
  refine qag E ok (qaA rfl rfl) rfl rfl fun a E=>?_
  refine qag E ok (qaA rfl rfl) rfl rfl fun a E=>?_
  refine qag E ok (qac qhS rfl) rfl rfl fun a E=>?_
  refine qat E ok 0 rfl rfl rfl qfy rfl rfl ⟨rfl,trivial⟩ rfl rfl fun w ok=>?_
  refine qag E ok (qab rfl) rfl rfl fun a E=>?_
  refine wpList_nil ?_
  obtain rfl:=Option.some.inj hF
  exact ⟨rfl,⟨ok,E.keep [6,9,10,11,12,13,14,0,1,2],r125,r126,l127,l163,l129⟩⟩
 clear hJ
 intro e a w hO
 obtain ⟨rfl,ok,E,r164,r165,l166,l167,l168⟩:=hO
 refine qad ?_
 refine wp_seq ?_
 refine wp_seq ?_
 refine qae ?_
 refine qag E ok (qaa rfl) rfl rfl fun a E=>?_
 refine qag E ok (qbP rfl) rfl rfl fun a E=>?_
 refine qag E ok (qaa rfl) rfl rfl fun a E=>?_
 refine qas (!o103.1) (fun hc169=>?_) (fun hc169=>?_)
 ·replace hF:=qai hc169 hF
  replace E:=E.upd 99 hc169 rfl
  refine qbe E rfl rfl fun a E=>?_
  refine qbe E rfl rfl fun a E=>?_
  refine qag E ok (qak rfl rfl) rfl rfl fun a E=>?_
  refine wpList_nil ?_
  refine qad ?_
  refine c_if E rfl (fun _=>?_) (fun h=>by cases h)
  refine wp_exit ?_
  refine qaD ?_
  refine qaT ?_
  exact hskip le_m0 (ok.pk 4 [2,3] rfl (by decide)) (E.keep [12,13,14,0,1,2]) (Option.some.inj hF).symm
 replace hF:=qah hc169 hF
 replace E:=E.upd 99 hc169 rfl
 refine qag E ok (qaa rfl) rfl rfl fun a E=>?_
 refine qag E ok (qbP rfl) rfl rfl fun a E=>?_
 refine qag E ok (qam rfl rfl) rfl rfl fun a E=>?_
 refine wpList_nil ?_
 refine qad ?_
 refine c_if E rfl (fun hc170=>?_) (fun hc170=>?_)
 ·replace hF:=qai hc170 hF
  refine wp_exit ?_
  refine qaD ?_
  refine qaT ?_
  exact hskip le_m0 (ok.pk 4 [2,3] rfl (by decide)) (E.keep [12,13,14,0,1,2]) (Option.some.inj hF).symm
 replace hF:=qah hc170 hF
 refine wp_skip ?_
 refine qad ?_
 refine wp_seq ?_
 refine wp_seq ?_
 refine qae ?_
 refine qag E ok (qaj qhX rfl (qaf.own 2 rfl rfl)) rfl rfl fun a E=>?_
 refine qag E ok (qaa rfl) rfl rfl fun a E=>?_
 obtain ⟨x171,e172,hF⟩:=bnd hF
 obtain ⟨b173,o174,es175,hl176,rr177,at178,yy179⟩:=qaI qfz hcalls_1 e172 (P:=Tryz.prog) (X:=.tmp 103) (I:=.tmp 104) (kd:=.i64) (qao E rfl) (qao E rfl)
 obtain ⟨rfl,l180,r181,r182⟩:=rr177
 refine qag E ok (yy179 _ _) rfl rfl fun a E=>?_
 refine qag E ok (qac qhC rfl) rfl rfl fun a E=>?_
 refine qag E ok (qaj qa0 rfl (qaf.ro (At.sub 1 1 at178))) rfl rfl fun a E=>?_
 refine qag E ok (qaB rfl rfl) rfl rfl fun a E=>?_
 refine wpList_nil ?_
 refine qad ?_
 obtain ⟨o183,hJ,hF⟩:=bnd hF
 refine qbx (Q':=fun e a w=>e = .normal ∧ Ok u m67 ([(b90,Obj.cells [(Value.int .i64 o183.call),(Value.int .i64 o183.offset),(Value.string (bs o183.id)),(Value.string (bs o183.source)),(Value.string (bs o183.comment))].toArray 105 (0,0))] :: [(b24,Obj.cells [(Value.string (bs x12.Kind)),(Value.string (bs x12.Text)),(Value.int .i64 x12.From)].toArray 29 (0,0))] :: [(b2,Obj.cells [vcalls_1].toArray 34 (0,0))] :: [(b1,Obj.cells [vl_0].toArray 26 (0,0))] :: S) w ∧ Env 126 a [(6,(Value.int .i64 r25)),(9,(Value.pointer (some ⟨b90,0,none⟩))),(12,vl_0),(13,(Value.int .i64 (l_0.length:Int))),(14,(Value.int .i64 i_2)),(0,(Value.func (.yield ln) #[] #[])),(1,(Value.pointer (some ⟨b1,0,none⟩))),(2,(Value.pointer (some ⟨b2,0,none⟩)))] ∧ InR .i64 o183.call ∧ InR .i64 o183.offset ∧ o183.id.length ≤ LIMS ∧ o183.source.length ≤ LIMS ∧ o183.comment.length ≤ LIMS) ?_ ?_
 ·replace hF:=hJ
  clear hJ
  refine c_if E rfl (fun hc189=>?_) (fun hc189=>?_)
  rotate_left
  ·replace hF:=qah hc189 hF
   refine wp_skip ?_
   obtain rfl:=Option.some.inj hF
   exact ⟨rfl,⟨ok,E.keep [6,9,12,13,14,0,1,2],r164,r165,l166,l167,l168⟩⟩
  replace hF:=qai hc189 hF
  refine qae ?_
  refine qag E ok (qac qhS rfl) rfl rfl fun a E=>?_
  refine qag E ok (qaj qav rfl (qaf.own 0 rfl rfl)) rfl rfl fun a E=>?_
  refine qag E ok (qac qgS rfl) rfl rfl fun a E=>?_
  refine qat E ok 0 rfl rfl rfl qfy rfl rfl ⟨rfl,trivial⟩ rfl rfl fun w ok=>?_
  refine wpList_nil ?_
  obtain rfl:=Option.some.inj hF
  exact ⟨rfl,⟨ok,E.keep [6,9,12,13,14,0,1,2],r164,r165,l167,l167,l168⟩⟩
 clear hJ
 intro e a w hO
 obtain ⟨rfl,ok,E,r190,r191,l192,l193,l194⟩:=hO
 refine qad ?_
 refine wp_seq ?_
 refine wp_seq ?_
 refine qae ?_
 refine qag E ok (qaj qhX rfl (qaf.own 2 rfl rfl)) rfl rfl fun a E=>?_
 refine qag E ok (qaa rfl) rfl rfl fun a E=>?_
 obtain ⟨x195,e196,hF⟩:=bnd hF
 obtain ⟨b197,o198,es199,hl200,rr201,at202,yy203⟩:=qaI qfz hcalls_1 e196 (P:=Tryz.prog) (X:=.tmp 112) (I:=.tmp 113) (kd:=.i64) (qao E rfl) (qao E rfl)
 obtain ⟨rfl,l204,r205,r206⟩:=rr201
 refine qag E ok (yy203 _ _) rfl rfl fun a E=>?_
 refine qag E ok (qac qhD rfl) rfl rfl fun a E=>?_
 refine qag E ok (qaj qa0 rfl (qaf.ro (At.sub 2 1 at202))) rfl rfl fun a E=>?_
 refine qag E ok (qaB rfl rfl) rfl rfl fun a E=>?_
 refine wpList_nil ?_
 refine qad ?_
 obtain ⟨o207,hJ,hF⟩:=bnd hF
 refine qbx (Q':=fun e a w=>e = .normal ∧ Ok u m67 ([(b90,Obj.cells [(Value.int .i64 o207.call),(Value.int .i64 o207.offset),(Value.string (bs o207.id)),(Value.string (bs o207.source)),(Value.string (bs o207.comment))].toArray 105 (0,0))] :: [(b24,Obj.cells [(Value.string (bs x12.Kind)),(Value.string (bs x12.Text)),(Value.int .i64 x12.From)].toArray 29 (0,0))] :: [(b2,Obj.cells [vcalls_1].toArray 34 (0,0))] :: [(b1,Obj.cells [vl_0].toArray 26 (0,0))] :: S) w ∧ Env 126 a [(9,(Value.pointer (some ⟨b90,0,none⟩))),(12,vl_0),(13,(Value.int .i64 (l_0.length:Int))),(14,(Value.int .i64 i_2)),(0,(Value.func (.yield ln) #[] #[])),(1,(Value.pointer (some ⟨b1,0,none⟩))),(2,(Value.pointer (some ⟨b2,0,none⟩)))] ∧ InR .i64 o207.call ∧ InR .i64 o207.offset ∧ o207.id.length ≤ LIMS ∧ o207.source.length ≤ LIMS ∧ o207.comment.length ≤ LIMS) ?_ ?_
 ·replace hF:=hJ
  clear hJ
  refine c_if E rfl (fun hc213=>?_) (fun hc213=>?_)
  rotate_left
  ·replace hF:=qah hc213 hF
   refine wp_skip ?_
   obtain rfl:=Option.some.inj hF
   exact ⟨rfl,⟨ok,E.keep [9,12,13,14,0,1,2],r190,r191,l192,l193,l194⟩⟩
  replace hF:=qai hc213 hF
  refine qae ?_
  refine qag E ok (qac qgS rfl) rfl rfl fun a E=>?_
  refine qag E ok (qaj qav rfl (qaf.own 0 rfl rfl)) rfl rfl fun a E=>?_
  refine qag E ok (qac qhS rfl) rfl rfl fun a E=>?_
  refine qat E ok 0 rfl rfl rfl qfy rfl rfl ⟨rfl,trivial⟩ rfl rfl fun w ok=>?_
  refine wpList_nil ?_
  obtain rfl:=Option.some.inj hF
  exact ⟨rfl,⟨ok,E.keep [9,12,13,14,0,1,2],r190,r191,l192,l192,l194⟩⟩
 clear hJ
 intro e a w hO
 obtain ⟨rfl,ok,E,r214,r215,l216,l217,l218⟩:=hO
 refine qad ?_
 refine wp_seq ?_
 obtain rfl:=Option.some.inj hF
 obtain ⟨okW,y,hyv,hrs2,hy⟩:=hyd (X:=[]) le_m0 (ok.pk 4 [2,3] rfl (by decide)) rfl
 refine (wpIn_wide (n:=2)).1 (wpIn_region_lit ?_)
 refine qkF (by intro c h; cases h) fun K hK=>lv E ok (qaa rfl) fun a E=>wn_ hK ?_
 refine qkF (by intro c h; cases h) fun K hK=>lv E ok (qax (cs:=fcs o207) qpc rfl rfl (qaf.own 0 rfl rfl)) fun a E=>wn_ hK ?_
 refine qpb E rfl rfl hy rfl rfl ?_
 rintro e w3 (⟨rfl,hJ3,hK3⟩ | ⟨rfl,hJ3⟩)
 ·refine ⟨_,rfl,fun a E=>?_⟩
  have ok3:=hK3 okW
  refine qkF (by intro c h; cases h) fun K hK=>lv E ok3 (qbP rfl) fun a E=>wn_ hK ?_
  refine wpListIn_nil (qad ?_)
  refine c_if E rfl (fun h=>by cases h) (fun _=>?_)
  refine wp_skip<|qar ?_
  rw [hQ']
  exact .inl ⟨rfl,acc ++ [y],E.keep [12,13,14,0,1,2],ok3,hJ3,hrs2⟩
 ·refine ⟨_,rfl,fun a E=>?_⟩
  refine qkF (by intro c h; cases h) fun K hK=>lw E (qbP rfl) fun a E=>wn_ hK ?_
  refine wpListIn_nil (qad ?_)
  refine c_if E rfl (fun _=>?_) (fun h=>by cases h)
  refine wp_ret<|qap ?_
  rw [hQ']
  exact .inr ⟨rfl,E.d,acc ++ [y],⟨rest',hrs2⟩,hJ3⟩
theorem qjG {σ ρ:Type} (f:σ → Found2 → Option (σ ⊕ ρ)):∀ (xs:List Found2) (x:Found2) (s s':σ),runF f xs s = some (.inl s') → runF f (xs ++ [x]) s = (f s' x).bind fun o=>Sum.elim (fun s'=>some (.inl s')) (fun r=>some (.inr r)) o
 | [],x,s,s',h=>by
  obtain rfl:=Sum.inl.inj (Option.some.inj h)
  rfl
 | y :: xs,x,s,s',h=>by
  rw [List.cons_append,runF]
  rw [runF] at h
  cases hf:f s y with
  | none=>rw [hf] at h; cases h
  | some o =>
   rw [hf] at h
   cases o with
   | inl s1=>exact qjG f xs x s1 s' h
   | inr r=>cases h
theorem qlU {σ ρ:Type} (f:σ → Found2 → Option (σ ⊕ ρ)):∀ (xs ys:List Found2) (s:σ) (r:ρ),runF f xs s = some (.inr r) → runF f (xs ++ ys) s = some (.inr r)
 | [],ys,s,r,h=>by cases h
 | y :: xs,ys,s,r,h=>by
  rw [List.cons_append,runF]
  rw [runF] at h
  cases hf:f s y with
  | none=>rw [hf] at h; cases h
  | some o =>
   rw [hf] at h
   cases o with
   | inl s1=>exact qlU f xs ys s1 r h
   | inr r1=>exact h
set_option maxRecDepth 100000 in
set_option maxHeartbeats 4000000 in
theorem qm0 {ds:List Deferred} {u:World} {m:Mem} {S0:Segs} {w:World} {a:Act} {L:List (Nat × Value)} {nt N nc B bl bc:Nat} {vl vc:Value} {l:List Token} {calls:List Call} {rs:List Found2} {σ ρ:Type} {Q:Exit → Act → World → Prop}
  {g:Operand} {p t id:Nat} {body:Code} {ty1 ty2:TypeId} {pos1 pos2:String} {af1 af2:Array Edge} (E:Env nt a L) (hX:ev L g = some (.func (.func 53) #[] #[.pointer (some ⟨bl,0,none⟩),.pointer (some ⟨bc,0,none⟩)])) (hp:Nat.blt p nt = true) (ht:Nat.blt t nt = true) (hlt:∀ v v':Value,ev ((t,v) :: (p,v') :: L) (.tmp t) = some v) (hlp:∀ v v':Value,ev ((t,v) :: (p,v') :: L) (.tmp p) = some v')
  (ok:Ok u m ([(bc,Obj.cells [vc].toArray 34 (0,0))] :: [(bl,Obj.cells [vl].toArray 26 (0,0))] :: S0) w) (hl:(pL 3 qbi) m [vl] l) (hc:(pL 3 qdy) m [vc] calls) (hF:qff N l calls = some rs) (hB:∀ x ∈ rs,FOk nc B x) (hG:Glob u)
  (Rep:Nat → σ → Segs → Prop) (RepX:ρ → Segs → Prop) (f:σ → Found2 → Option (σ ⊕ ρ)) (s0:σ) (h0:Rep 0 s0 S0)
  (hcl:∀ j s T,Rep j s T → ∀ q ∈ T.flatten,q.1 < w.heap.size ∨ q.2.isCells = true) (hclx:∀ r T,RepX r T → ∀ q ∈ T.flatten,q.1 < w.heap.size ∨ q.2.isCells = true)
  (hround:∀ (k j:Nat) (s:σ) (T:Segs) (x:Found2) (bx:Nat) (m':Mem) (a':Act) (W:World) (Q':Exit → Act → World → Prop),Rep j s T → j < rs.length → FOk nc B x → m.le m' →
   Ok u m' ([(bx,Obj.cells (fcs x).toArray 105 (0,0))] :: [(bc,Obj.cells [vc].toArray 34 (0,0))] :: [(bl,Obj.cells [vl].toArray 26 (0,0))] :: T) W → Env nt a' ((t,.pointer (some ⟨bx,0,none⟩)) :: (p,.agg (fcs x).toArray) :: L) →
   (∀ s' T' m'' a'' W',f s x = some (.inl s') → Rep (j + 1) s' T' → m'.le m'' → Ok u m'' ([(bc,Obj.cells [vc].toArray 34 (0,0))] :: [(bl,Obj.cells [vl].toArray 26 (0,0))] :: T') W' → Q' .normal a'' W') →
   (∀ r T' m'' a'' W',f s x = some (.inr r) → RepX r T' → m'.le m'' → Ok u m'' ([(bc,Obj.cells [vc].toArray 34 (0,0))] :: [(bl,Obj.cells [vl].toArray 26 (0,0))] :: T') W' → Q' .ret a'' W') →
   body.wpIn (rf_ k) 1 Tryz.prog Q' a' W)
  (hdone:∀ D s T W,Rep rs.length s T → runF f rs s0 = some (.inl s) → Ok u m ([(bc,Obj.cells [vc].toArray 34 (0,0))] :: [(bl,Obj.cells [vl].toArray 26 (0,0))] :: T) W → w.heap.size ≤ D → W.heap[D]? = some (.deferred (some [])) → Q .normal { a with defers:={ target:=.collected D,args:=#[] } :: ds } W)
  (hstop:∀ D r T W,RepX r T → runF f rs s0 = some (.inr r) → Ok u m ([(bc,Obj.cells [vc].toArray 34 (0,0))] :: [(bl,Obj.cells [vl].toArray 26 (0,0))] :: T) W → w.heap.size ≤ D → W.heap[D]? = some (.deferred (some [])) → Q .ret { a with defers:={ target:=.collected D,args:=#[] } :: ds } W) :
  (Code.rangeFunc g #[p] (Code.region id [⟨some t,.alloc 105,ty1,pos1,af1,none⟩,⟨none,.store 105 (.tmp t) (.tmp p),ty2,pos2,af2,none⟩].toArray false) body).wpIn Fence.wide 3 Tryz.prog Q { a with defers:=ds } w:=by
 have hmlt:∀ b o,m b = some o → b < w.heap.size:=fun b o h=>ok.m_lt h
 have T0lt:∀ q ∈ ([(bc,Obj.cells [vc].toArray 34 (0,0))] ++ [(bl,Obj.cells [vl].toArray 26 (0,0))]:List (Nat × Obj)),q.2.isCells = true:=fun q hq=>by
  rcases List.mem_append.1 hq with hq | hq <;> obtain rfl:=List.mem_singleton.1 hq <;> rfl
 have own:∀ {T:Segs} {X:List (Nat × Obj)},(∀ q ∈ X,q.2.isCells = true) → (∀ q ∈ T.flatten,q.1 < w.heap.size ∨ q.2.isCells = true) → ∀ q ∈ (X :: [(bc,Obj.cells [vc].toArray 34 (0,0))] :: [(bl,Obj.cells [vl].toArray 26 (0,0))] :: T).flatten,q.1 < w.heap.size ∨ q.2.isCells = true:=fun hX hT q hq=>by
  simp only [List.flatten_cons,List.mem_append] at hq
  rcases hq with hq | hq | hq | hq
  ·exact .inr (hX q hq)
  ·exact .inr (T0lt q (List.mem_append_left _ hq))
  ·exact .inr (T0lt q (List.mem_append_right _ hq))
  ·exact hT q hq
 have own0:∀ {T:Segs},(∀ q ∈ T.flatten,q.1 < w.heap.size ∨ q.2.isCells = true) → ∀ q ∈ ([(bc,Obj.cells [vc].toArray 34 (0,0))] :: [(bl,Obj.cells [vl].toArray 26 (0,0))] :: T).flatten,q.1 < w.heap.size ∨ q.2.isCells = true:=fun hT q hq=>by
  have:=own (X:=[]) (by simp) hT
  exact this q (by simpa using hq)
 have okT:Ok u m [[(bc,Obj.cells [vc].toArray 34 (0,0))],[(bl,Obj.cells [vl].toArray 26 (0,0))]] w:=Ok.init (A:=[[(bc,Obj.cells [vc].toArray 34 (0,0))],[(bl,Obj.cells [vl].toArray 26 (0,0))]]) ok
 refine qnr (α:=Fo nc B) (N:=rs.length) (encs:=fun x=>#[Value.agg (fcs x.1).toArray]) (Kp:=KpO u m [[(bc,Obj.cells [vc].toArray 34 (0,0))],[(bl,Obj.cells [vl].toArray 26 (0,0))]]) ((show ({ a with defers:=ds }:Act).eval g = a.eval g from by cases g <;> rfl).trans (E.ev hX)) (fun args w=>rfl) (qnR hl hc hF hB hG okT)
  (fun h k o=>k (h o)) (fun W l o o' hl h1 h2 h3 hok=>?_) (fun _=>rfl)
  (fun pre W=>∃ s T,Rep pre.length s T ∧ runF f (pre.map (·.1)) s0 = some (.inl s) ∧ Ok u m ([(bc,Obj.cells [vc].toArray 34 (0,0))] :: [(bl,Obj.cells [vl].toArray 26 (0,0))] :: T) W)
  (fun c pre W=>c = .ret ∧ ∃ r T,RepX r T ∧ runF f (pre.map (·.1)) s0 = some (.inr r) ∧ Ok u m ([(bc,Obj.cells [vc].toArray 34 (0,0))] :: [(bl,Obj.cells [vl].toArray 26 (0,0))] :: T) W)
  ?_ ?_ ⟨s0,S0,h0,rfl,ok⟩
  (fun pre x a' W=>∃ s T bx,Rep pre.length s T ∧ runF f (pre.map (·.1)) s0 = some (.inl s) ∧ Ok u m ([(bx,Obj.cells (fcs x.1).toArray 105 (0,0))] :: [(bc,Obj.cells [vc].toArray 34 (0,0))] :: [(bl,Obj.cells [vl].toArray 26 (0,0))] :: T) W ∧ Env nt a' ((t,.pointer (some ⟨bx,0,none⟩)) :: (p,.agg (fcs x.1).toArray) :: L))
  ?_ ?_ ?_ ?_ ?_
 ·refine hok.grownC (B:=w.heap.size) (grownBy_putObj' W l o') (fun r e=>by cases e; exact ⟨hl,o,h1,h2⟩) hmlt (fun q hq=>.inr (T0lt q (by simpa using hq)))
 ·rintro pre X Y row ⟨s,T,h1,h2,h3⟩ hg hr
  exact ⟨s,T,h1,h2,h3.grownC (B:=w.heap.size) hg hr hmlt (own0 (hcl _ _ _ h1))⟩
 ·rintro c pre X Y row ⟨rfl,r,T,h1,h2,h3⟩ hg hr
  exact ⟨rfl,r,T,h1,h2,h3.grownC (B:=w.heap.size) hg hr hmlt (own0 (hclx _ _ h1))⟩
 ·rintro pre x a' W l o o' ⟨s,T,bx,h1,h2,h3,h4⟩ hl hlo
  exact ⟨s,T,bx,h1,h2,h3.grownC (B:=w.heap.size) (grownBy_putObj' W l (.loop o')) (fun r e=>by cases e; exact ⟨hl,_,hlo,rfl⟩) hmlt (own (fun q hq=>by obtain rfl:=List.mem_singleton.1 hq; rfl) (hcl _ _ _ h1)),h4⟩
 ·-- the loop's variable
  rintro k pre x W K ⟨s,T,h1,h2,h3⟩ hlen hK
  have E1:=E.put p (Value.agg (fcs x.1).toArray) hp
  replace E1:=qm1 E1 (t:=((#[p]:Array Nat).zip #[Value.agg (fcs x.1).toArray]).foldl (fun t (p:Nat × Value)=>t.setIfInBounds p.1 p.2) a.tmps) (by simp [Act.put])
  have okF:=h3.full
  refine qdQ rfl ?_
  refine qaZ E1 okF qhO rfl ht fun bx a1 W1 E1 ok1=>?_
  refine qat (v:=.agg (fcs x.1).toArray) E1 ok1 0 rfl (hlt _ _) (hlp _ _) qk8 rfl rfl ⟨rfl,rfl,rfl,rfl,rfl,trivial⟩ rfl rfl fun W2 ok2=>?_
  refine wpList_nil ⟨rfl,qad ?_⟩
  have ok3:Ok u m ([(bx,Obj.cells (fcs x.1).toArray 105 (0,0))] :: [(bc,Obj.cells [vc].toArray 34 (0,0))] :: [(bl,Obj.cells [vl].toArray 26 (0,0))] :: T) W2:=ok2.down ok.base h3.hmx_le
  refine hK _ _ (h3.keepsS _ (own0 (hcl _ _ _ h1)) (Mem.le.refl _) ok2) (fun _=>Ok.init (A:=[[(bc,Obj.cells [vc].toArray 34 (0,0))],[(bl,Obj.cells [vl].toArray 26 (0,0))]]) ok3.drop) ⟨s,T,bx,h1,h2,ok3,E1⟩
 ·-- the body
  rintro k pre x a' W hk ⟨s,T,bx,h1,h2,h3,E1⟩ hlen
  have hx:=x.2
  have okF:=h3.full
  refine hround k pre.length s T x.1 bx _ a' W _ h1 hlen hx h3.hmx_le okF E1 (fun s' T' m'' a'' W' hf hr hle ok'=>?_) (fun r T' m'' a'' W' hf hr hle ok'=>?_)
  ·have okm:Ok u m _ W':=ok'.down ok.base (h3.hmx_le.trans hle)
   refine ⟨h3.keepsS _ (own (fun q hq=>by obtain rfl:=List.mem_singleton.1 hq; rfl) (hcl _ _ _ h1)) hle ok',fun _=>Ok.init (A:=[[(bc,Obj.cells [vc].toArray 34 (0,0))],[(bl,Obj.cells [vl].toArray 26 (0,0))]]) okm,s',T',by simpa using hr,?_,okm⟩
   rw [List.map_append,List.map_cons,List.map_nil,qjG f _ _ _ _ h2,hf]
   rfl
  ·have okm:Ok u m _ W':=ok'.down ok.base (h3.hmx_le.trans hle)
   refine ⟨h3.keepsS _ (own (fun q hq=>by obtain rfl:=List.mem_singleton.1 hq; rfl) (hcl _ _ _ h1)) hle ok',rfl,r,T',hr,?_,okm⟩
   rw [List.map_append,List.map_cons,List.map_nil,qjG f _ _ _ _ h2,hf]
   rfl
 ·rintro D xs W hD hxs ⟨s,T,h1,h2,h3⟩ hdef
  rw [hxs] at h2
  refine hdone D s T W ?_ h2 h3 hD hdef
  rw [← hxs,List.length_map]
  exact h1
 ·rintro D c pre W hD ⟨zs,hzs⟩ ⟨rfl,r,T,h1,h2,h3⟩ hdef
  refine wpIn_ret (hstop D r T W h1 ?_ h3 hD hdef)
  rw [← hzs]
  exact qlU f _ _ _ _ h2
end Go.Proofs.YtllfckekodcdaaaGreatDoor
namespace Go.Proofs.YtllfckekodcdaaaGreatDoor
open Go.X
theorem qhc:aggB Tryz.prog 46 2 = true:=by kernel_rfl
theorem ql6:qaH Tryz.prog 105 1 1 = true:=by kernel_rfl
theorem qkf:qaH Tryz.prog 105 4 4 = true:=by kernel_rfl
theorem qcN:qaH Tryz.prog 58 1 1 = true:=by kernel_rfl
theorem qmJ:qaH Tryz.prog 75 1 1 = true:=by kernel_rfl
theorem qoz:goB Tryz.prog 12 = true:=by kernel_rfl
theorem qqy:goB Tryz.prog 35 = true:=by kernel_rfl
theorem qqe:goB Tryz.prog 43 = true:=by kernel_rfl
theorem qp0:goB Tryz.prog 44 = true:=by kernel_rfl
theorem qqv:goB Tryz.prog 45 = true:=by kernel_rfl
theorem qqi:goB Tryz.prog 46 = true:=by kernel_rfl
set_option maxRecDepth 100000 in
theorem qo9:∃ i,Tryz.prog.info? 130 = some i ∧ i.size = 1:=⟨_,rfl,by kernel_rfl⟩
set_option maxRecDepth 100000 in
theorem qgF:∃ i,Tryz.prog.info? 44 = some i ∧ i.size = 1:=⟨_,rfl,by kernel_rfl⟩
set_option maxRecDepth 100000 in
theorem qgD:∃ i,Tryz.prog.info? 46 = some i ∧ i.size = 2:=⟨_,rfl,by kernel_rfl⟩
set_option maxRecDepth 100000 in
theorem qg7:∃ i,Tryz.prog.info? 47 = some i ∧ i.size = 1:=⟨_,rfl,by kernel_rfl⟩
set_option maxRecDepth 100000 in
theorem qpx:∃ i,Tryz.prog.info? 50 = some i ∧ i.size = 1:=⟨_,rfl,by kernel_rfl⟩
theorem qeJ:oneB Tryz.prog 44 = true:=by kernel_rfl
theorem qhh:oneB Tryz.prog 47 = true:=by kernel_rfl
theorem qeT:qcW Tryz.prog 46 = some [(0,1),(1,1)]:=by kernel_rfl
theorem qlk:qcW Tryz.prog 58 = some [(0,1),(1,1)]:=by kernel_rfl
theorem qnY:qbv Tryz.prog 130 = some [(Value.map none)]:=by kernel_rfl
theorem qmM:qbv Tryz.prog 44 = some [(Value.slice none 0 0)]:=by kernel_rfl
theorem qfi:qbv Tryz.prog 46 = some [(Value.int .i64 0),(Value.int .i64 0)]:=by kernel_rfl
theorem qoV:qbv Tryz.prog 47 = some [(Value.int .i64 0)]:=by kernel_rfl
theorem qjV:qbv Tryz.prog 58 = some [(Value.string (bs ([]))),(Value.string (bs ([])))]:=by kernel_rfl
theorem ql7:qbv Tryz.prog 9 = some [(Value.string (bs ([])))]:=by kernel_rfl
theorem qpm {nc B:Nat} {x:Found2} (h:fokb nc B x = true):FOk nc B x:=by
 unfold fokb at h
 have h1:=of_decide_eq_true h
 exact h1
theorem qny {N nc B:Nat} {l:List Token} {calls:List Call} {rs:List Found2} (h:qgX N nc B l calls = some rs):qff N l calls = some rs ∧ ∀ x ∈ rs,FOk nc B x:=by
 unfold qgX at h
 obtain ⟨r,h1,h⟩:=bnd h
 cases hb:r.all (fokb nc B) with
 | false=>rw [hb] at h; cases h
 | true =>
  rw [hb] at h
  obtain rfl:=Option.some.inj h
  rw [List.all_eq_true] at hb
  exact ⟨h1,fun x hx=>qpm (hb x hx)⟩
theorem qp2:goB Tryz.prog 36 = true:=by kernel_rfl
end Go.Proofs.YtllfckekodcdaaaGreatDoor
