/- Texts of this proof, put together by pack.py: what its declarations name. -/
import Derived.Test.YtllfckekodcdaaaGreatDoorPkKl4
import Derived.Test.YtllfckekodcdaaaGreatDoorCards
import Derived.Test.YtllfckekodcdaaaGreatDoorChecked
import Derived.Test.YtllfckekodcdaaaGreatDoorProg
import Derived.Test.YtllfckekodcdaaaGreatDoorRows
import Derived.Test.YtllfckekodcdaaaGreatDoorTie
set_option linter.unusedVariables false
namespace Go.Proofs.YtllfckekodcdaaaGreatDoor
open Go.X
def qet:Rp Field:=fun _ cs x=>cs = [.string (bs x.Name),.string (bs x.Value)] ∧ x.Name.length ≤ LIMS ∧ x.Value.length ≤ LIMS
theorem qiF:Mono qet:=⟨fun _ h=>by
 obtain ⟨e,h0,h1⟩:=h
 exact ⟨e,h0,h1⟩,fun h=>by
 obtain ⟨rfl,h0,h1⟩:=h
 exact ⟨rfl,rfl,trivial⟩⟩
def qfD:Rp Entry:=fun m cs x=>∃ c3 c4 c6,cs = [.string (bs x.ID),.string (bs x.Source),.string (bs x.Target),c3,c4,.int .i64 x.State,c6] ∧ x.ID.length ≤ LIMS ∧ x.Source.length ≤ LIMS ∧ x.Target.length ≤ LIMS ∧ (pL 1 pS) m [c3] x.Comments ∧ (pL 1 pS) m [c4] x.Flags ∧ InR .i64 x.State ∧ (pL 2 qet) m [c6] x.Fields
theorem qkt:Mono qfD:=⟨fun hm h=>by
 obtain ⟨c3,c4,c6,e,h0,h1,h2,h3,h4,h5,h6⟩:=h
 exact ⟨c3,c4,c6,e,h0,h1,h2,(mL mS).up hm h3,(mL mS).up hm h4,h5,(mL qiF).up hm h6⟩,fun h=>by
 obtain ⟨c3,c4,c6,rfl,h0,h1,h2,h3,h4,h5,h6⟩:=h
 exact ⟨rfl,rfl,rfl,((mL mS).one h3).1,((mL mS).one h4).1,rfl,((mL qiF).one h6).1,trivial⟩⟩
theorem qdt:aggB Tryz.prog 114 3 = true:=by kernel_rfl
theorem qa7:aggB Tryz.prog 138 5 = true:=by kernel_rfl
theorem qoQ:aggB Tryz.prog 157 2 = true:=by kernel_rfl
theorem qpM:aggB Tryz.prog 28 3 = true:=by kernel_rfl
theorem qnx:aggB Tryz.prog 53 7 = true:=by kernel_rfl
theorem qnH:aggB Tryz.prog 58 2 = true:=by kernel_rfl
theorem qnD:aggB Tryz.prog 66 3 = true:=by kernel_rfl
theorem qpX:qiP Tryz.prog 111 40 = true:=by kernel_rfl
theorem qpF:qiP Tryz.prog 118 56 = true:=by kernel_rfl
theorem qpr:qiP Tryz.prog 154 64 = true:=by kernel_rfl
theorem qpv:qiP Tryz.prog 156 2 = true:=by kernel_rfl
theorem qpJ:Tryz.prog.eqGuardType Tryz.prog.depth 58 = false:=by kernel_rfl
theorem qh0:qaH Tryz.prog 108 0 0 = true:=by kernel_rfl
theorem qdb:qaH Tryz.prog 108 1 1 = true:=by kernel_rfl
theorem qkg:qaH Tryz.prog 114 0 0 = true:=by kernel_rfl
theorem qc5:qaH Tryz.prog 114 1 1 = true:=by kernel_rfl
theorem qgb:qaH Tryz.prog 114 2 2 = true:=by kernel_rfl
theorem qfG:qaH Tryz.prog 138 0 0 = true:=by kernel_rfl
theorem qbp:qaH Tryz.prog 138 1 1 = true:=by kernel_rfl
theorem qh1:qaH Tryz.prog 138 2 2 = true:=by kernel_rfl
theorem qdI:qaH Tryz.prog 138 3 3 = true:=by kernel_rfl
theorem qdJ:qaH Tryz.prog 138 4 4 = true:=by kernel_rfl
theorem qi0:qaH Tryz.prog 157 0 0 = true:=by kernel_rfl
theorem qiU:qaH Tryz.prog 157 1 1 = true:=by kernel_rfl
theorem qeG:qaH Tryz.prog 28 0 0 = true:=by kernel_rfl
theorem qmF:qaH Tryz.prog 28 1 1 = true:=by kernel_rfl
theorem qmt:qaH Tryz.prog 53 0 0 = true:=by kernel_rfl
theorem qkX:qaH Tryz.prog 53 1 1 = true:=by kernel_rfl
theorem qmw:qaH Tryz.prog 53 2 2 = true:=by kernel_rfl
theorem qiA:qaH Tryz.prog 53 3 3 = true:=by kernel_rfl
theorem qmO:qaH Tryz.prog 53 4 4 = true:=by kernel_rfl
theorem qmC:qaH Tryz.prog 53 5 5 = true:=by kernel_rfl
theorem qdE:qaH Tryz.prog 53 6 6 = true:=by kernel_rfl
theorem qpf:qaH Tryz.prog 62 0 0 = true:=by kernel_rfl
theorem qoI:qaH Tryz.prog 62 1 1 = true:=by kernel_rfl
theorem qhG:qaH Tryz.prog 66 0 0 = true:=by kernel_rfl
theorem qkY:qaH Tryz.prog 66 1 1 = true:=by kernel_rfl
theorem qk1:qaH Tryz.prog 66 2 2 = true:=by kernel_rfl
theorem qjN:goB Tryz.prog 109 = true:=by kernel_rfl
theorem qqd:goB Tryz.prog 11 = true:=by kernel_rfl
theorem qlN:goB Tryz.prog 110 = true:=by kernel_rfl
theorem qkJ:goB Tryz.prog 131 = true:=by kernel_rfl
theorem qp6:goB Tryz.prog 14 = true:=by kernel_rfl
theorem qqq:goB Tryz.prog 19 = true:=by kernel_rfl
theorem qot:goB Tryz.prog 20 = true:=by kernel_rfl
theorem qqk:goB Tryz.prog 37 = true:=by kernel_rfl
theorem qqt:goB Tryz.prog 38 = true:=by kernel_rfl
theorem qp4:goB Tryz.prog 41 = true:=by kernel_rfl
theorem qlz:goB Tryz.prog 42 = true:=by kernel_rfl
theorem qoB:goB Tryz.prog 60 = true:=by kernel_rfl
theorem qmZ:goB Tryz.prog 61 = true:=by kernel_rfl
theorem qqC:goB Tryz.prog 62 = true:=by kernel_rfl
theorem qnc:goB Tryz.prog 68 = true:=by kernel_rfl
theorem qov:goB Tryz.prog 69 = true:=by kernel_rfl
theorem qqI:goB Tryz.prog 85 = true:=by kernel_rfl
theorem qp7:goB Tryz.prog 88 = true:=by kernel_rfl
theorem qoy:goB Tryz.prog 89 = true:=by kernel_rfl
theorem qqh:goB Tryz.prog 90 = true:=by kernel_rfl
set_option maxRecDepth 100000 in
theorem qla:∃ i,Tryz.prog.info? 106 = some i ∧ i.size = 1:=⟨_,rfl,by kernel_rfl⟩
set_option maxRecDepth 100000 in
theorem qoP:∃ i,Tryz.prog.info? 109 = some i ∧ i.size = 1:=⟨_,rfl,by kernel_rfl⟩
set_option maxRecDepth 100000 in
theorem qk2:∃ i,Tryz.prog.info? 112 = some i ∧ i.size = 1:=⟨_,rfl,by kernel_rfl⟩
set_option maxRecDepth 100000 in
theorem qgo:∃ i,Tryz.prog.info? 114 = some i ∧ i.size = 3:=⟨_,rfl,by kernel_rfl⟩
set_option maxRecDepth 100000 in
theorem qhE:∃ i,Tryz.prog.info? 136 = some i ∧ i.size = 1:=⟨_,rfl,by kernel_rfl⟩
set_option maxRecDepth 100000 in
theorem qbu:∃ i,Tryz.prog.info? 138 = some i ∧ i.size = 5:=⟨_,rfl,by kernel_rfl⟩
set_option maxRecDepth 100000 in
theorem qo3:∃ i,Tryz.prog.info? 152 = some i ∧ i.size = 1:=⟨_,rfl,by kernel_rfl⟩
set_option maxRecDepth 100000 in
theorem qpn:∃ i,Tryz.prog.info? 66 = some i ∧ i.size = 3:=⟨_,rfl,by kernel_rfl⟩
set_option maxRecDepth 100000 in
theorem qfy:∃ i,Tryz.prog.info? 9 = some i ∧ i.size = 1:=⟨_,rfl,by kernel_rfl⟩
theorem qeK:oneB Tryz.prog 106 = true:=by kernel_rfl
theorem qeP:oneB Tryz.prog 112 = true:=by kernel_rfl
theorem qb2:oneB Tryz.prog 136 = true:=by kernel_rfl
theorem qit:oneB Tryz.prog 50 = true:=by kernel_rfl
theorem qej:oneB Tryz.prog 51 = true:=by kernel_rfl
theorem qm5:qcW Tryz.prog 108 = some [(0,1),(1,1)]:=by kernel_rfl
theorem qnd:qcW Tryz.prog 111 = some [(0,1),(1,1)]:=by kernel_rfl
theorem qkA:qcW Tryz.prog 114 = some [(0,1),(1,1),(2,1)]:=by kernel_rfl
theorem qnf:qcW Tryz.prog 118 = some [(0,1),(1,1),(2,1)]:=by kernel_rfl
theorem qcB:qcW Tryz.prog 138 = some [(0,1),(1,1),(2,1),(3,1),(4,1)]:=by kernel_rfl
theorem qm9:qcW Tryz.prog 154 = some [(0,1),(1,1),(2,1),(3,1),(4,1)]:=by kernel_rfl
theorem qfX:qcW Tryz.prog 157 = some [(0,1),(1,1)]:=by kernel_rfl
theorem qlg:qcW Tryz.prog 53 = some [(0,1),(1,1),(2,1),(3,1),(4,1),(5,1),(6,1)]:=by kernel_rfl
theorem qen:SlT Tryz.prog 106 114 3:=SlT.of (by kernel_rfl)
theorem qcY:SlT Tryz.prog 112 138 5:=SlT.of (by kernel_rfl)
theorem qbR:SlT Tryz.prog 136 157 2:=SlT.of (by kernel_rfl)
theorem qg5:SlT Tryz.prog 22 66 3:=SlT.of (by kernel_rfl)
theorem qel:SlT Tryz.prog 23 28 3:=SlT.of (by kernel_rfl)
theorem qbW:SlT Tryz.prog 39 108 2:=SlT.of (by kernel_rfl)
theorem qlB:SlT Tryz.prog 42 62 2:=SlT.of (by kernel_rfl)
theorem qgy:SlT Tryz.prog 44 53 7:=SlT.of (by kernel_rfl)
theorem qcS:SlT Tryz.prog 51 58 2:=SlT.of (by kernel_rfl)
theorem qob:Tryz.prog.stoodInHeld 58 = false:=by kernel_rfl
theorem qkh:qbv Tryz.prog 108 = some [(Value.string (bs ([]))),(Value.slice none 0 0)]:=by kernel_rfl
theorem qdx:qbv Tryz.prog 114 = some [(Value.string (bs ([]))),(Value.slice none 0 0),(Value.string (bs ([])))]:=by kernel_rfl
theorem qbz:qbv Tryz.prog 138 = some [(Value.string (bs ([]))),(Value.slice none 0 0),(Value.bool false),(Value.int .i64 0),(Value.int .i64 0)]:=by kernel_rfl
theorem qcq:qbv Tryz.prog 157 = some [(Value.int .u8 0),(Value.int .u8 0)]:=by kernel_rfl
theorem qiS:qbv Tryz.prog 53 = some [(Value.string (bs ([]))),(Value.string (bs ([]))),(Value.string (bs ([]))),(Value.slice none 0 0),(Value.slice none 0 0),(Value.int .i64 0),(Value.slice none 0 0)]:=by kernel_rfl
theorem qpe:qbv Tryz.prog 66 = some [(Value.string (bs ([]))),(Value.int .i64 0),(Value.int .i64 0)]:=by kernel_rfl
def qcC:Ro (State):=fun m cs x M=>∃ c1,cs = [.string (bs x.Name),c1] ∧ x.Name.length ≤ LIMS ∧ ORow 114 3 qdn m c1 x.Rules M
theorem qlv:MonoO qcC:=⟨fun hm h=>by
 obtain ⟨c1,e,h0,h1⟩:=h
 exact ⟨c1,e,h0,h1.up qc7 hm⟩⟩
theorem qjc:FrozO qcC qb3:=⟨fun h hle hf=>by
 obtain ⟨c1,e,h0,h1⟩:=h
 exact ⟨c1,e,h0,h1.froz qc7 hle hf (by decide)⟩⟩
def qcp (u:World) (m0:Mem) (S:Segs) (r:Bool) (a:Act) (w:World):Prop :=
 Ok u m0 S w ∧ a.defers = [] ∧ RVs Tryz.prog a w [.t 4 (.bool r)]
set_option maxHeartbeats 4000000 in
set_option maxRecDepth 100000 in
theorem qj7 {u:World} {m0:Mem} {S:Segs} {w:World} (N:Nat) (vcalls_0:Value) (calls_0:List (Call)) (hcalls_0:(pL 3 qdy) m0 [vcalls_0] calls_0) (vfiles_1:Value) (files_1:List (File)) (hfiles_1:(pL 2 qkp) m0 [vfiles_1] files_1) {r:Bool} (hF:qeq N calls_0 files_1 = some r) (hG:Glob u) (ok:Ok u m0 S w) :
  Calls Tryz.prog 9 [vcalls_0,vfiles_1].toArray w fun e w'=>(e = .returned (.bool r) ∧ Ok u m0 S w'):=by
 have hb0:=ok.base
 have le_m0:=Mem.le.refl m0
 unfold qeq at hF
 have fin:∀ a w,qcp u m0 S r a w → bodyPost Tryz.prog Tryz.f9 (fun e w'=>(e = .returned (.bool r) ∧ Ok u m0 S w')) .ret a w:=by
  intro a w h
  obtain ⟨ok,hd,hrv⟩:=h
  exact qaK [.t 4 (.bool r)] hd rfl hrv ⟨rfl,ok⟩
 refine enter Tryz.func9 rfl rfl rfl fun a E=>sg<|lv E ok (qab rfl) fun a E=>wn<|wp_seq<|wp_seq ?_
 refine qae<|lv E ok (qab rfl) fun a E=>wn<|wp_block ?_
 obtain ⟨o2,hL,hF⟩:=bnd hF
 refine qaR _ (fun (s:Int) a w=>Ok u m0 (S) w ∧ Env 50 a [(0,vcalls_0),(1,vfiles_1),(5,(Value.int .i64 s))] ∧ InR .i64 s) (fun (b:(Unit ⊕ Bool)) e a w=>(Sum.elim (fun b53=>e = (.exit 0) ∧ Ok u m0 (S) w ∧ Env 50 a [(0,vcalls_0),(1,vfiles_1)]) (fun b54=>e = .ret ∧ qcp u m0 S b54 a w)) b) ?_ ?_ N _ a w hL ⟨ok,E.keep [0,1,5],(show InR .i64 (0) by decide)⟩
 ·as_aux_lemma =>
   rintro i_4 a w r ⟨ok,E,r5⟩ hF
   replace hF:qcX N files_1 i_4 = some r:=hF
   unfold qcX at hF
   refine wp_seq<|sg<|lv E ok (qaa rfl) fun a E=>lv E ok (qaa rfl) fun a E=>lv E ok (qaG qlB hfiles_1 rfl) fun a E=>lv E ok (qaB rfl rfl) fun a E=>wpList_nil ?_
   refine qad<|c_if E rfl (fun hc6=>?_) (fun hc6=>?_)
   rotate_left
   ·replace hF:=qah hc6 hF
    refine wp_exit<|qaD ?_
    obtain rfl:=sj hF
    exact qaq (by nofun) (sl ⟨rfl,⟨ok,E.keep [0,1]⟩⟩)
   replace hF:=qai hc6 hF
   refine wp_skip<|qad<|wp_seq<|wp_block<|sg<|lv E ok (qaa rfl) fun a E=>lv E ok (qaa rfl) fun a E=>?_
   obtain ⟨x7,e8,hF⟩:=bnd hF
   obtain ⟨b9,o10,es11,hl12,rr13,at14,yy15⟩:=qaI qlB hfiles_1 e8 (P:=Tryz.prog) (X:=.tmp 13) (I:=.tmp 14) (kd:=.i64) (qao E rfl) (qao E rfl)
   obtain ⟨rfl,l16,l17⟩:=rr13
   refine lv E ok (yy15 _ _) fun a E=>lv E ok (qac qoI rfl) fun a E=>lv E ok (qaj qav rfl (qaf.ro (At.sub 1 1 at14))) fun a E=>lv E ok (qaX Tryz.underlying9 rfl) fun a E=>lv E ok (qb4 rfl rfl) fun a E=>lv E ok (qaa rfl) fun a E=>qas (decide ((x7.Text.length:Int) > 400)) (fun hc18=>?_) (fun hc18=>?_)
   ·replace hF:=qai hc18 hF
    replace E:=E.upd 20 hc18 rfl
    refine ls E fun a E=>ls E fun a E=>ls E fun a E=>ls E fun a E=>ls E fun a E=>ls E fun a E=>ls E fun a E=>lv E ok (qak rfl rfl) fun a E=>?_
    refine wn<|c_if E rfl (fun _=>?_) (fun h=>by cases h)
    refine sg<|lv E ok (qab rfl) fun a E=>wn<|wp_ret<|qap<|qan ?_
    have hret:qcp u m0 S false a w:=⟨ok,E.d,⟨rv_t E rfl,trivial⟩⟩
    obtain rfl:=sj hF
    exact qaq (by nofun) (sr ⟨rfl,hret⟩)
   replace hF:=qah hc18 hF
   replace E:=E.upd 20 hc18 rfl
   refine lv E ok (qaa rfl) fun a E=>lv E ok (qaa rfl) fun a E=>?_
   obtain ⟨x19,e20,hF⟩:=bnd hF
   obtain ⟨b21,o22,es23,hl24,rr25,at26,yy27⟩:=qaI qlB hfiles_1 e20 (P:=Tryz.prog) (X:=.tmp 21) (I:=.tmp 22) (kd:=.i64) (qao E rfl) (qao E rfl)
   obtain ⟨rfl,l28,l29⟩:=rr25
   refine lv E ok (yy27 _ _) fun a E=>lv E ok (qac qpf rfl) fun a E=>lv E ok (qaj qav rfl (qaf.ro (At.sub 0 1 at26))) fun a E=>lv E ok (qaX Tryz.underlying9 rfl) fun a E=>lv E ok (qb4 rfl rfl) fun a E=>lv E ok (qam rfl rfl) fun a E=>wn ?_
   refine c_if E rfl (fun hc30=>?_) (fun hc30=>?_)
   rotate_left
   ·replace hF:=qah hc30 hF
    refine wp_skip<|qar<|qad<|qae<|lv E ok (qaa rfl) fun a E=>lv E ok (qaC rfl rfl (InR.inc r5 (qau hfiles_1) hc6)) fun a E=>lv E ok (qab rfl) fun a E=>wpList_nil ?_
    obtain rfl:=sj hF
    exact qay ⟨ok,E.keep [0,1,5],(InR.inc r5 (qau hfiles_1) hc6)⟩
   replace hF:=qai hc30 hF
   refine sg<|lv E ok (qab rfl) fun a E=>wn<|wp_ret<|qap<|qan ?_
   have hret:qcp u m0 S false a w:=⟨ok,E.d,⟨rv_t E rfl,trivial⟩⟩
   obtain rfl:=sj hF
   exact qaq (by nofun) (sr ⟨rfl,hret⟩)
 intro e a w _ hO
 rcases o2 with o2 | o2
 rotate_left
 ·replace hF:=qba hF
  obtain ⟨rfl,hret⟩:=hO
  refine qap<|qan ?_
  obtain rfl:=sj hF
  exact fin _ _ hret
 replace hF:=qa9 hF
 obtain ⟨rfl,ok,E⟩:=hO
 refine qaT<|qad<|wp_seq<|sg<|lv E ok (qab rfl) fun a E=>wn ?_
 refine wp_block ?_
 obtain ⟨o32,hL,hF⟩:=bnd hF
 refine qaR _ (fun (s:Int) a w=>Ok u m0 (S) w ∧ Env 50 a [(0,vcalls_0),(1,vfiles_1),(6,(Value.int .i64 s))] ∧ InR .i64 s) (fun (b:(Unit ⊕ Bool)) e a w=>(Sum.elim (fun b51=>e = (.exit 2) ∧ Ok u m0 (S) w ∧ Env 50 a [(0,vcalls_0),(1,vfiles_1)]) (fun b52=>e = .ret ∧ qcp u m0 S b52 a w)) b) ?_ ?_ N _ a w hL ⟨ok,E.keep [0,1,6],(show InR .i64 (0) by decide)⟩
 rotate_left
 ·intro e a w _ hO
  rcases o32 with o32 | o32
  rotate_left
  ·replace hF:=qba hF
   obtain ⟨rfl,hret⟩:=hO
   refine qap<|qan ?_
   obtain rfl:=sj hF
   exact fin _ _ hret
  replace hF:=qa9 hF
  obtain ⟨rfl,ok,E⟩:=hO
  refine qaT<|qad<|sg<|lv E ok (qaa rfl) fun a E=>lv E ok (qaG qg5 hcalls_0 rfl) fun a E=>lv E ok (qct rfl rfl) fun a E=>lv E ok (qaa rfl) fun a E=>?_
  refine qas (decide ((calls_0.length:Int) ≤ 45)) (fun hc50=>?_) (fun hc50=>?_)
  ·replace hF:=qai hc50 hF
   replace E:=E.upd 45 hc50 rfl
   refine lv E ok (qaa rfl) fun a E=>lv E ok (qaG qlB hfiles_1 rfl) fun a E=>lv E ok (qct rfl rfl) fun a E=>lv E ok (qak rfl rfl) fun a E=>lv E ok (qab rfl) fun a E=>wn<|wp_ret ?_
   have hret:qcp u m0 S (decide ((files_1.length:Int) ≤ 6)) a w:=⟨ok,E.d,⟨rv_t E rfl,trivial⟩⟩
   obtain rfl:=sj hF
   exact fin _ _ hret
  replace hF:=qah hc50 hF
  replace E:=E.upd 45 hc50 rfl
  refine ls E fun a E=>ls E fun a E=>ls E fun a E=>lv E ok (qam rfl rfl) fun a E=>lv E ok (qab rfl) fun a E=>wn<|wp_ret ?_
  have hret:qcp u m0 S false a w:=⟨ok,E.d,⟨rv_t E rfl,trivial⟩⟩
  obtain rfl:=sj hF
  exact fin _ _ hret
 rintro i_34 a w r ⟨ok,E,r35⟩ hF
 replace hF:qc0 N calls_0 i_34 = some r:=hF
 unfold qc0 at hF
 refine wp_seq<|sg<|lv E ok (qaa rfl) fun a E=>lv E ok (qaa rfl) fun a E=>lv E ok (qaG qg5 hcalls_0 rfl) fun a E=>lv E ok (qaB rfl rfl) fun a E=>wpList_nil ?_
 refine qad<|c_if E rfl (fun hc36=>?_) (fun hc36=>?_)
 rotate_left
 ·replace hF:=qah hc36 hF
  refine wp_exit<|qaD ?_
  obtain rfl:=sj hF
  exact qaq (by nofun) (sl ⟨rfl,⟨ok,E.keep [0,1]⟩⟩)
 replace hF:=qai hc36 hF
 refine wp_skip<|qad<|wp_seq<|wp_block<|sg<|lv E ok (qaa rfl) fun a E=>lv E ok (qaa rfl) fun a E=>?_
 obtain ⟨x37,e38,hF⟩:=bnd hF
 obtain ⟨b39,o40,es41,hl42,rr43,at44,yy45⟩:=qaI qg5 hcalls_0 e38 (P:=Tryz.prog) (X:=.tmp 35) (I:=.tmp 36) (kd:=.i64) (qao E rfl) (qao E rfl)
 obtain ⟨rfl,l46,r47,r48⟩:=rr43
 refine lv E ok (yy45 _ _) fun a E=>lv E ok (qac qhG rfl) fun a E=>lv E ok (qaj qav rfl (qaf.ro (At.sub 0 1 at44))) fun a E=>lv E ok (qaX Tryz.underlying9 rfl) fun a E=>lv E ok (qb4 rfl rfl) fun a E=>wn<|c_if E rfl (fun hc49=>?_) (fun hc49=>?_)
 rotate_left
 ·replace hF:=qah hc49 hF
  refine wp_skip<|qar<|qad<|qae<|lv E ok (qaa rfl) fun a E=>lv E ok (qaC rfl rfl (InR.inc r35 (qau hcalls_0) hc36)) fun a E=>lv E ok (qab rfl) fun a E=>wpList_nil ?_
  obtain rfl:=sj hF
  exact qay ⟨ok,E.keep [0,1,6],(InR.inc r35 (qau hcalls_0) hc36)⟩
 replace hF:=qai hc49 hF
 refine sg<|lv E ok (qab rfl) fun a E=>wn<|wp_ret<|qap<|qan ?_
 have hret:qcp u m0 S false a w:=⟨ok,E.d,⟨rv_t E rfl,trivial⟩⟩
 obtain rfl:=sj hF
 exact qaq (by nofun) (sr ⟨rfl,hret⟩)
def qbl (u:World) (m0:Mem) (S:Segs) (r:Bool) (a:Act) (w:World):Prop :=
 Ok u m0 S w ∧ a.defers = [] ∧ RVs Tryz.prog a w [.t 2 (.bool r)]
set_option maxHeartbeats 4000000 in
set_option maxRecDepth 100000 in
theorem qjm {u:World} {m0:Mem} {S:Segs} {w:World} (N:Nat) (vcalls_0:Value) (calls_0:List (Call)) (hcalls_0:(pL 3 qdy) m0 [vcalls_0] calls_0) {r:Bool} (hF:qdO N calls_0 = some r) (hG:Glob u) (ok:Ok u m0 S w) :
  Calls Tryz.prog 14 [vcalls_0].toArray w fun e w'=>(e = .returned (.bool r) ∧ Ok u m0 S w'):=by
 have hb0:=ok.base
 have le_m0:=Mem.le.refl m0
 unfold qdO at hF
 have fin:∀ a w,qbl u m0 S r a w → bodyPost Tryz.prog Tryz.f14 (fun e w'=>(e = .returned (.bool r) ∧ Ok u m0 S w')) .ret a w:=by
  intro a w h
  obtain ⟨ok,hd,hrv⟩:=h
  exact qaK [.t 2 (.bool r)] hd rfl hrv ⟨rfl,ok⟩
 refine enter Tryz.func14 rfl rfl rfl fun a E=>sg<|lv E ok (qab rfl) fun a E=>wn<|wp_seq<|wp_seq ?_
 refine qae<|lv E ok (qab rfl) fun a E=>wn<|wp_block ?_
 obtain ⟨o2,hL,hF⟩:=bnd hF
 refine qaR _ (fun (s:Int) a w=>Ok u m0 (S) w ∧ Env 65 a [(0,vcalls_0),(3,(Value.int .i64 s))] ∧ InR .i64 s) (fun (b:(Unit ⊕ Bool)) e a w=>(Sum.elim (fun b69=>e = (.exit 0) ∧ Ok u m0 (S) w ∧ Env 65 a [(0,vcalls_0)]) (fun b70=>e = .ret ∧ qbl u m0 S b70 a w)) b) ?_ ?_ N _ a w hL ⟨ok,E.keep [0,3],(show InR .i64 (0) by decide)⟩
 rotate_left
 ·intro e a w _ hO
  rcases o2 with o2 | o2
  rotate_left
  ·replace hF:=qba hF
   obtain ⟨rfl,hret⟩:=hO
   refine qap<|qan ?_
   obtain rfl:=sj hF
   exact fin _ _ hret
  replace hF:=qa9 hF
  obtain ⟨rfl,ok,E⟩:=hO
  refine qaT<|qad<|sg<|lv E ok (qaa rfl) fun a E=>lv E ok (qaG qg5 hcalls_0 rfl) fun a E=>lv E ok (qct rfl rfl) fun a E=>lv E ok (qab rfl) fun a E=>?_
  refine wn<|wp_ret ?_
  have hret:qbl u m0 S (decide ((calls_0.length:Int) ≤ 40)) a w:=⟨ok,E.d,⟨rv_t E rfl,trivial⟩⟩
  obtain rfl:=sj hF
  exact fin _ _ hret
 rintro i_4 a w r ⟨ok,E,r5⟩ hF
 replace hF:qci N calls_0 i_4 = some r:=hF
 unfold qci at hF
 refine wp_seq<|sg<|lv E ok (qaa rfl) fun a E=>lv E ok (qaa rfl) fun a E=>lv E ok (qaG qg5 hcalls_0 rfl) fun a E=>lv E ok (qaB rfl rfl) fun a E=>wpList_nil ?_
 refine qad<|c_if E rfl (fun hc6=>?_) (fun hc6=>?_)
 rotate_left
 ·replace hF:=qah hc6 hF
  refine wp_exit<|qaD ?_
  obtain rfl:=sj hF
  exact qaq (by nofun) (sl ⟨rfl,⟨ok,E.keep [0]⟩⟩)
 replace hF:=qai hc6 hF
 refine wp_skip<|qad<|wp_seq<|wp_block<|sg<|lv E ok (qaa rfl) fun a E=>lv E ok (qaa rfl) fun a E=>?_
 obtain ⟨x7,e8,hF⟩:=bnd hF
 obtain ⟨b9,o10,es11,hl12,rr13,at14,yy15⟩:=qaI qg5 hcalls_0 e8 (P:=Tryz.prog) (X:=.tmp 12) (I:=.tmp 13) (kd:=.i64) (qao E rfl) (qao E rfl)
 obtain ⟨rfl,l16,r17,r18⟩:=rr13
 refine lv E ok (yy15 _ _) fun a E=>lv E ok (qax (cs:=[(Value.string (bs x7.Name)),(Value.int .i64 x7.ID),(Value.int .i64 x7.Source)]) qnD rfl rfl (qaf.ro at14)) fun a E=>qaZ E ok qpe rfl rfl fun b19 a w E ok=>qat E ok 0 rfl rfl rfl qpn rfl rfl ⟨rfl,rfl,rfl,trivial⟩ rfl rfl fun w ok=>wn<|wp_seq<|wp_seq ?_
 refine qae<|lv E ok (qac qhG rfl) fun a E=>lv E ok (qaj qav rfl (qaf.own 0 rfl rfl)) fun a E=>lv E ok (qa1 rfl rfl) fun a E=>lv E ok (qaa rfl) fun a E=>qas (x7.Name == ([])) (fun hc20=>?_) (fun hc20=>?_)
 ·replace hF:=qai hc20 hF
  replace E:=E.upd 19 hc20 rfl
  refine ls E fun a E=>ls E fun a E=>ls E fun a E=>lv E ok (qak rfl rfl) fun a E=>lv E ok (qaa rfl) fun a E=>ls E fun a E=>ls E fun a E=>ls E fun a E=>?_
  refine lv E ok (qak rfl rfl) fun a E=>lv E ok (qaa rfl) fun a E=>ls E fun a E=>ls E fun a E=>ls E fun a E=>lv E ok (qak rfl rfl) fun a E=>lv E ok (qaa rfl) fun a E=>ls E fun a E=>?_
  refine ls E fun a E=>ls E fun a E=>lv E ok (qak rfl rfl) fun a E=>lv E ok (qaa rfl) fun a E=>ls E fun a E=>ls E fun a E=>ls E fun a E=>ls E fun a E=>?_
  refine ls E fun a E=>ls E fun a E=>ls E fun a E=>ls E fun a E=>lv E ok (qak rfl rfl) fun a E=>wn<|c_if E rfl (fun _=>?_) (fun h=>by cases h)
  refine sg<|lv E ok (qab rfl) fun a E=>wn<|wp_ret<|qan<|qap ?_
  refine qan ?_
  have hret:qbl u m0 S false a w:=⟨ok.drop,E.d,⟨rv_t E rfl,trivial⟩⟩
  obtain rfl:=sj hF
  exact qaq (by nofun) (sr ⟨rfl,hret⟩)
 replace hF:=qah hc20 hF
 replace E:=E.upd 19 hc20 rfl
 refine lv E ok (qac qkY rfl) fun a E=>lv E ok (qaj qa0 rfl (qaf.own 0 rfl rfl)) fun a E=>lv E ok (qaB rfl rfl) fun a E=>lv E ok (qam rfl rfl) fun a E=>lv E ok (qaa rfl) fun a E=>qas (decide (x7.ID < (-1))) (fun hc21=>?_) (fun hc21=>?_)
 ·replace hF:=qai hc21 hF
  replace E:=E.upd 24 hc21 rfl
  refine ls E fun a E=>ls E fun a E=>ls E fun a E=>lv E ok (qak rfl rfl) fun a E=>lv E ok (qaa rfl) fun a E=>ls E fun a E=>ls E fun a E=>ls E fun a E=>?_
  refine lv E ok (qak rfl rfl) fun a E=>lv E ok (qaa rfl) fun a E=>ls E fun a E=>ls E fun a E=>ls E fun a E=>lv E ok (qak rfl rfl) fun a E=>lv E ok (qaa rfl) fun a E=>ls E fun a E=>?_
  refine ls E fun a E=>ls E fun a E=>ls E fun a E=>ls E fun a E=>ls E fun a E=>ls E fun a E=>ls E fun a E=>lv E ok (qak rfl rfl) fun a E=>?_
  refine wn<|c_if E rfl (fun _=>?_) (fun h=>by cases h)
  refine sg<|lv E ok (qab rfl) fun a E=>wn<|wp_ret<|qan<|qap ?_
  refine qan ?_
  have hret:qbl u m0 S false a w:=⟨ok.drop,E.d,⟨rv_t E rfl,trivial⟩⟩
  obtain rfl:=sj hF
  exact qaq (by nofun) (sr ⟨rfl,hret⟩)
 replace hF:=qah hc21 hF
 replace E:=E.upd 24 hc21 rfl
 refine lv E ok (qac qkY rfl) fun a E=>lv E ok (qaj qa0 rfl (qaf.own 0 rfl rfl)) fun a E=>lv E ok (qb4 rfl rfl) fun a E=>lv E ok (qam rfl rfl) fun a E=>lv E ok (qaa rfl) fun a E=>qas (decide (x7.ID > 9)) (fun hc22=>?_) (fun hc22=>?_)
 ·replace hF:=qai hc22 hF
  replace E:=E.upd 29 hc22 rfl
  refine ls E fun a E=>ls E fun a E=>ls E fun a E=>lv E ok (qak rfl rfl) fun a E=>lv E ok (qaa rfl) fun a E=>ls E fun a E=>ls E fun a E=>ls E fun a E=>?_
  refine lv E ok (qak rfl rfl) fun a E=>lv E ok (qaa rfl) fun a E=>ls E fun a E=>ls E fun a E=>ls E fun a E=>ls E fun a E=>ls E fun a E=>ls E fun a E=>?_
  refine ls E fun a E=>ls E fun a E=>lv E ok (qak rfl rfl) fun a E=>wn<|c_if E rfl (fun _=>?_) (fun h=>by cases h)
  refine sg<|lv E ok (qab rfl) fun a E=>wn<|wp_ret<|qan<|qap ?_
  refine qan ?_
  have hret:qbl u m0 S false a w:=⟨ok.drop,E.d,⟨rv_t E rfl,trivial⟩⟩
  obtain rfl:=sj hF
  exact qaq (by nofun) (sr ⟨rfl,hret⟩)
 replace hF:=qah hc22 hF
 replace E:=E.upd 29 hc22 rfl
 refine lv E ok (qac qk1 rfl) fun a E=>lv E ok (qaj qa0 rfl (qaf.own 0 rfl rfl)) fun a E=>lv E ok (qaB rfl rfl) fun a E=>lv E ok (qam rfl rfl) fun a E=>lv E ok (qaa rfl) fun a E=>qas (decide (x7.Source < (-1))) (fun hc23=>?_) (fun hc23=>?_)
 ·replace hF:=qai hc23 hF
  replace E:=E.upd 34 hc23 rfl
  refine ls E fun a E=>ls E fun a E=>ls E fun a E=>lv E ok (qak rfl rfl) fun a E=>lv E ok (qaa rfl) fun a E=>ls E fun a E=>ls E fun a E=>ls E fun a E=>?_
  refine ls E fun a E=>ls E fun a E=>ls E fun a E=>ls E fun a E=>ls E fun a E=>lv E ok (qak rfl rfl) fun a E=>wn ?_
  refine c_if E rfl (fun _=>?_) (fun h=>by cases h)
  refine sg<|lv E ok (qab rfl) fun a E=>wn<|wp_ret<|qan<|qap ?_
  refine qan ?_
  have hret:qbl u m0 S false a w:=⟨ok.drop,E.d,⟨rv_t E rfl,trivial⟩⟩
  obtain rfl:=sj hF
  exact qaq (by nofun) (sr ⟨rfl,hret⟩)
 replace hF:=qah hc23 hF
 replace E:=E.upd 34 hc23 rfl
 refine lv E ok (qac qk1 rfl) fun a E=>lv E ok (qaj qa0 rfl (qaf.own 0 rfl rfl)) fun a E=>lv E ok (qb4 rfl rfl) fun a E=>lv E ok (qam rfl rfl) fun a E=>lv E ok (qaa rfl) fun a E=>qas (decide (x7.Source > 9)) (fun hc24=>?_) (fun hc24=>?_)
 ·replace hF:=qai hc24 hF
  replace E:=E.upd 39 hc24 rfl
  refine ls E fun a E=>ls E fun a E=>ls E fun a E=>ls E fun a E=>ls E fun a E=>ls E fun a E=>ls E fun a E=>ls E fun a E=>?_
  refine lv E ok (qak rfl rfl) fun a E=>wn<|c_if E rfl (fun _=>?_) (fun h=>by cases h)
  refine sg<|lv E ok (qab rfl) fun a E=>wn<|wp_ret<|qan<|qap ?_
  refine qan ?_
  have hret:qbl u m0 S false a w:=⟨ok.drop,E.d,⟨rv_t E rfl,trivial⟩⟩
  obtain rfl:=sj hF
  exact qaq (by nofun) (sr ⟨rfl,hret⟩)
 replace hF:=qah hc24 hF
 replace E:=E.upd 39 hc24 rfl
 refine lv E ok (qac qkY rfl) fun a E=>lv E ok (qaj qa0 rfl (qaf.own 0 rfl rfl)) fun a E=>lv E ok (qbn rfl rfl) fun a E=>lv E ok (qaa rfl) fun a E=>qas (x7.ID == (-1)) (fun hc25=>?_) (fun hc25=>?_)
 rotate_left
 ·as_aux_lemma =>
   replace hF:=qah hc25 hF
   replace E:=E.upd 43 hc25 rfl
   refine ls E fun a E=>ls E fun a E=>ls E fun a E=>lv E ok (qam rfl rfl) fun a E=>lv E ok (qam rfl rfl) fun a E=>wn<|c_if E rfl (fun h=>by cases h) (fun _=>?_)
   refine wp_skip<|qad<|sg<|lv E ok (qab rfl) fun a E=>wn<|wp_block ?_
   obtain ⟨o49,hL,hF⟩:=bnd hF
   refine qaR _ (fun (s:Int) a w=>Ok u m0 ([(b19,Obj.cells [(Value.string (bs x7.Name)),(Value.int .i64 x7.ID),(Value.int .i64 x7.Source)].toArray 66 (0,0))] :: S) w ∧ Env 65 a [(0,vcalls_0),(3,(Value.int .i64 i_4)),(4,(Value.pointer (some ⟨b19,0,none⟩))),(5,(Value.int .i64 s))] ∧ InR .i64 s) (fun (b:(Unit ⊕ Bool)) e a w=>(Sum.elim (fun b67=>e = (.exit 2) ∧ Ok u m0 ([(b19,Obj.cells [(Value.string (bs x7.Name)),(Value.int .i64 x7.ID),(Value.int .i64 x7.Source)].toArray 66 (0,0))] :: S) w ∧ Env 65 a [(0,vcalls_0),(3,(Value.int .i64 i_4))]) (fun b68=>e = .ret ∧ qbl u m0 S b68 a w)) b) ?_ ?_ N _ a w hL ⟨ok,E.keep [0,3,4,5],(show InR .i64 (0) by decide)⟩
   rotate_left
   ·intro e a w _ hO
    rcases o49 with o49 | o49
    rotate_left
    ·replace hF:=qba hF
     obtain ⟨rfl,hret⟩:=hO
     refine qap<|qap<|qan ?_
     obtain rfl:=sj hF
     exact qaq (by nofun) (sr ⟨rfl,hret⟩)
    replace hF:=qa9 hF
    obtain ⟨rfl,ok,E⟩:=hO
    refine qaT<|qar<|qad<|qae<|lv E ok (qaa rfl) fun a E=>lv E ok (qaC rfl rfl (InR.inc r5 (qau hcalls_0) hc6)) fun a E=>lv E ok (qab rfl) fun a E=>wpList_nil ?_
    obtain rfl:=sj hF
    exact qay ⟨(ok.pk 1 [] rfl (by decide)),E.keep [0,3],(InR.inc r5 (qau hcalls_0) hc6)⟩
   rintro k_51 a w r ⟨ok,E,r52⟩ hF
   replace hF:qdP N calls_0 i_4 x7 k_51 = some r:=hF
   unfold qdP at hF
   refine wp_seq<|sg<|lv E ok (qaa rfl) fun a E=>lv E ok (qaa rfl) fun a E=>lv E ok (qaB rfl rfl) fun a E=>wn ?_
   refine c_if E rfl (fun hc53=>?_) (fun hc53=>?_)
   rotate_left
   ·replace hF:=qah hc53 hF
    refine wp_exit<|qaD ?_
    obtain rfl:=sj hF
    exact qaq (by nofun) (sl ⟨rfl,⟨ok,E.keep [0,3]⟩⟩)
   replace hF:=qai hc53 hF
   refine wp_skip<|qad<|wp_seq<|wp_block<|wp_seq<|qbb (by kernel_rfl) (by kernel_rfl) ok<|qv E (qaa rfl) fun a E=>qv E (qaa rfl) fun a E=>?_
   obtain ⟨x54,e55,hF⟩:=bnd hF
   obtain ⟨b56,o57,es58,hl59,rr60,at61,yy62⟩:=qaI qg5 hcalls_0 e55 (P:=Tryz.prog) (X:=.tmp 54) (I:=.tmp 55) (kd:=.i64) (qao E rfl) (qao E rfl)
   obtain ⟨rfl,l63,r64,r65⟩:=rr60
   refine qv E (yy62 _ _) fun a E=>qv E (qac qhG rfl) fun a E=>qv E (qaj qav rfl (qaf.ro (At.sub 0 1 at61))) fun a E=>qv E (qac qhG rfl) fun a E=>qv E (qaj qav rfl (qaf.own 0 rfl rfl)) fun a E=>qv E (qa1 rfl rfl) fun a E=>wpQuiet_nil ?_
   intro w ok
   refine qad<|c_if E rfl (fun hc66=>?_) (fun hc66=>?_)
   rotate_left
   ·replace hF:=qah hc66 hF
    refine wp_skip<|qar<|qad<|qae<|lv E ok (qaa rfl) fun a E=>lv E ok (qaC rfl rfl (InR.inc r52 r5 hc53)) fun a E=>lv E ok (qab rfl) fun a E=>wpList_nil ?_
    obtain rfl:=sj hF
    exact qay ⟨ok,E.keep [0,3,4,5],(InR.inc r52 r5 hc53)⟩
   replace hF:=qai hc66 hF
   refine sg<|lv E ok (qab rfl) fun a E=>wn<|wp_ret<|qap<|qan ?_
   have hret:qbl u m0 S false a w:=⟨ok.drop,E.d,⟨rv_t E rfl,trivial⟩⟩
   obtain rfl:=sj hF
   exact qaq (by nofun) (sr ⟨rfl,hret⟩)
 replace hF:=qai hc25 hF
 replace E:=E.upd 43 hc25 rfl
 refine lv E ok (qac qk1 rfl) fun a E=>lv E ok (qaj qa0 rfl (qaf.own 0 rfl rfl)) fun a E=>lv E ok (qbn rfl rfl) fun a E=>lv E ok (qak rfl rfl) fun a E=>lv E ok (qam rfl rfl) fun a E=>wn<|c_if E rfl (fun hc26=>?_) (fun hc26=>?_)
 ·replace hF:=qai hc26 hF
  refine sg<|lv E ok (qab rfl) fun a E=>wn<|wp_ret<|qan<|qap ?_
  refine qan ?_
  have hret:qbl u m0 S false a w:=⟨ok.drop,E.d,⟨rv_t E rfl,trivial⟩⟩
  obtain rfl:=sj hF
  exact qaq (by nofun) (sr ⟨rfl,hret⟩)
 replace hF:=qah hc26 hF
 refine wp_skip<|qad<|sg<|lv E ok (qab rfl) fun a E=>wn<|wp_block ?_
 obtain ⟨o28,hL,hF⟩:=bnd hF
 refine qaR _ (fun (s:Int) a w=>Ok u m0 ([(b19,Obj.cells [(Value.string (bs x7.Name)),(Value.int .i64 x7.ID),(Value.int .i64 x7.Source)].toArray 66 (0,0))] :: S) w ∧ Env 65 a [(0,vcalls_0),(3,(Value.int .i64 i_4)),(4,(Value.pointer (some ⟨b19,0,none⟩))),(5,(Value.int .i64 s))] ∧ InR .i64 s) (fun (b:(Unit ⊕ Bool)) e a w=>(Sum.elim (fun b46=>e = (.exit 2) ∧ Ok u m0 ([(b19,Obj.cells [(Value.string (bs x7.Name)),(Value.int .i64 x7.ID),(Value.int .i64 x7.Source)].toArray 66 (0,0))] :: S) w ∧ Env 65 a [(0,vcalls_0),(3,(Value.int .i64 i_4))]) (fun b47=>e = .ret ∧ qbl u m0 S b47 a w)) b) ?_ ?_ N _ a w hL ⟨ok,E.keep [0,3,4,5],(show InR .i64 (0) by decide)⟩
 rotate_left
 ·intro e a w _ hO
  rcases o28 with o28 | o28
  rotate_left
  ·replace hF:=qba hF
   obtain ⟨rfl,hret⟩:=hO
   refine qap<|qap<|qan ?_
   obtain rfl:=sj hF
   exact qaq (by nofun) (sr ⟨rfl,hret⟩)
  replace hF:=qa9 hF
  obtain ⟨rfl,ok,E⟩:=hO
  refine qaT<|qar<|qad<|qae<|lv E ok (qaa rfl) fun a E=>lv E ok (qaC rfl rfl (InR.inc r5 (qau hcalls_0) hc6)) fun a E=>lv E ok (qab rfl) fun a E=>wpList_nil ?_
  obtain rfl:=sj hF
  exact qay ⟨(ok.pk 1 [] rfl (by decide)),E.keep [0,3],(InR.inc r5 (qau hcalls_0) hc6)⟩
 rintro k_30 a w r ⟨ok,E,r31⟩ hF
 replace hF:qdR N calls_0 i_4 x7 k_30 = some r:=hF
 unfold qdR at hF
 refine wp_seq<|sg<|lv E ok (qaa rfl) fun a E=>lv E ok (qaa rfl) fun a E=>lv E ok (qaB rfl rfl) fun a E=>wn ?_
 refine c_if E rfl (fun hc32=>?_) (fun hc32=>?_)
 rotate_left
 ·replace hF:=qah hc32 hF
  refine wp_exit<|qaD ?_
  obtain rfl:=sj hF
  exact qaq (by nofun) (sl ⟨rfl,⟨ok,E.keep [0,3]⟩⟩)
 replace hF:=qai hc32 hF
 refine wp_skip<|qad<|wp_seq<|wp_block<|wp_seq<|qbb (by kernel_rfl) (by kernel_rfl) ok<|qv E (qaa rfl) fun a E=>qv E (qaa rfl) fun a E=>?_
 obtain ⟨x33,e34,hF⟩:=bnd hF
 obtain ⟨b35,o36,es37,hl38,rr39,at40,yy41⟩:=qaI qg5 hcalls_0 e34 (P:=Tryz.prog) (X:=.tmp 54) (I:=.tmp 55) (kd:=.i64) (qao E rfl) (qao E rfl)
 obtain ⟨rfl,l42,r43,r44⟩:=rr39
 refine qv E (yy41 _ _) fun a E=>qv E (qac qhG rfl) fun a E=>qv E (qaj qav rfl (qaf.ro (At.sub 0 1 at40))) fun a E=>qv E (qac qhG rfl) fun a E=>qv E (qaj qav rfl (qaf.own 0 rfl rfl)) fun a E=>qv E (qa1 rfl rfl) fun a E=>wpQuiet_nil ?_
 intro w ok
 refine qad<|c_if E rfl (fun hc45=>?_) (fun hc45=>?_)
 rotate_left
 ·replace hF:=qah hc45 hF
  refine wp_skip<|qar<|qad<|qae<|lv E ok (qaa rfl) fun a E=>lv E ok (qaC rfl rfl (InR.inc r31 r5 hc32)) fun a E=>lv E ok (qab rfl) fun a E=>wpList_nil ?_
  obtain rfl:=sj hF
  exact qay ⟨ok,E.keep [0,3,4,5],(InR.inc r31 r5 hc32)⟩
 replace hF:=qai hc45 hF
 refine sg<|lv E ok (qab rfl) fun a E=>wn<|wp_ret<|qap<|qan ?_
 have hret:qbl u m0 S false a w:=⟨ok.drop,E.d,⟨rv_t E rfl,trivial⟩⟩
 obtain rfl:=sj hF
 exact qaq (by nofun) (sr ⟨rfl,hret⟩)
def qa8 (u:World) (m0:Mem) (S:Segs) (r:(List UInt8) × Bool) (a:Act) (w:World):Prop :=
 Ok u m0 S w ∧ a.defers = [] ∧ RVs Tryz.prog a w [.t 2 (.string (bs r.1)),.t 3 (.bool r.2)] ∧ r.1.length ≤ LIMS
set_option maxHeartbeats 4000000 in
set_option maxRecDepth 100000 in
theorem qiu {u:World} {m0:Mem} {S:Segs} {w:World} (N:Nat) (vl_0:Value) (l_0:List (Token)) (hl_0:(pL 3 qbi) m0 [vl_0] l_0) {r:(List UInt8) × Bool} (hF:qdr N l_0 = some r) (hG:Glob u) (ok:Ok u m0 S w) :
  Calls Tryz.prog 11 [vl_0].toArray w fun e w'=>(e = .returned (.tuple [(.string (bs r.1)),(.bool r.2)].toArray) ∧ Ok u m0 S w') ∧ r.1.length ≤ LIMS:=by
 have hb0:=ok.base
 have le_m0:=Mem.le.refl m0
 unfold qdr at hF
 have fin:∀ a w,qa8 u m0 S r a w → bodyPost Tryz.prog Tryz.f11 (fun e w'=>(e = .returned (.tuple [(.string (bs r.1)),(.bool r.2)].toArray) ∧ Ok u m0 S w') ∧ r.1.length ≤ LIMS) .ret a w:=by
  intro a w h
  obtain ⟨ok,hd,hrv,h0⟩:=h
  exact qaK [.t 2 (.string (bs r.1)),.t 3 (.bool r.2)] hd rfl hrv ⟨⟨rfl,ok⟩,h0⟩
 refine enter Tryz.func11 rfl rfl rfl fun a E=>sg<|lv E ok (qab rfl) fun a E=>lv E ok (qab rfl) fun a E=>wn<|wp_seq ?_
 refine qae<|lv E ok (qaa rfl) fun a E=>lv E ok (qaG qel hl_0 rfl) fun a E=>lv E ok (qab rfl) fun a E=>wn<|wp_seq<|wp_seq ?_
 refine qae<|lv E ok (qaa rfl) fun a E=>lv E ok (qaB rfl rfl) fun a E=>lv E ok (qaa rfl) fun a E=>qas (decide ((l_0.length:Int) < 2)) (fun hc1=>?_) (fun hc1=>?_)
 ·replace hF:=qai hc1 hF
  replace E:=E.upd 12 hc1 rfl
  refine ls E fun a E=>ls E fun a E=>ls E fun a E=>ls E fun a E=>ls E fun a E=>lv E ok (qak rfl rfl) fun a E=>lv E ok (qaa rfl) fun a E=>ls E fun a E=>?_
  refine ls E fun a E=>ls E fun a E=>ls E fun a E=>ls E fun a E=>ls E fun a E=>ls E fun a E=>lv E ok (qak rfl rfl) fun a E=>wpList_nil ?_
  refine qad<|c_if E rfl (fun _=>?_) (fun h=>by cases h)
  refine sg<|lv E ok (qab rfl) fun a E=>lv E ok (qab rfl) fun a E=>wn<|wp_ret<|qan ?_
  have hret:qa8 u m0 S ([],false) a w:=⟨ok,E.d,⟨rv_t E rfl,rv_t E rfl,trivial⟩,(show ([]:List UInt8).length ≤ LIMS by decide)⟩
  obtain rfl:=sj hF
  exact fin _ _ hret
 replace hF:=qah hc1 hF
 replace E:=E.upd 12 hc1 rfl
 refine lv E ok (qaa rfl) fun a E=>?_
 obtain ⟨x2,e3,hF⟩:=bnd hF
 obtain ⟨b4,o5,es6,hl7,rr8,at9,yy10⟩:=qaI qel hl_0 e3 (P:=Tryz.prog) (X:=.tmp 13) (I:=.const (Value.int .i64 0)) (kd:=.i64) (qao E rfl) (qao E rfl)
 obtain ⟨rfl,l11,l12,r13⟩:=rr8
 refine lv E ok (yy10 _ _) fun a E=>lv E ok (qac qeG rfl) fun a E=>lv E ok (qaj qav rfl (qaf.ro (At.sub 0 1 at9))) fun a E=>lv E ok (qbQ rfl rfl) fun a E=>lv E ok (qam rfl rfl) fun a E=>lv E ok (qaa rfl) fun a E=>qas (x2.Kind != ([115,116,114,105,110,103])) (fun hc14=>?_) (fun hc14=>?_)
 ·replace hF:=qai hc14 hF
  replace E:=E.upd 19 hc14 rfl
  refine ls E fun a E=>ls E fun a E=>ls E fun a E=>ls E fun a E=>ls E fun a E=>ls E fun a E=>ls E fun a E=>lv E ok (qak rfl rfl) fun a E=>?_
  refine wn<|c_if E rfl (fun _=>?_) (fun h=>by cases h)
  refine sg<|lv E ok (qab rfl) fun a E=>lv E ok (qab rfl) fun a E=>wn<|wp_ret<|qan ?_
  have hret:qa8 u m0 S ([],false) a w:=⟨ok,E.d,⟨rv_t E rfl,rv_t E rfl,trivial⟩,(show ([]:List UInt8).length ≤ LIMS by decide)⟩
  obtain rfl:=sj hF
  exact fin _ _ hret
 replace hF:=qah hc14 hF
 replace E:=E.upd 19 hc14 rfl
 refine lv E ok (qaa rfl) fun a E=>lv E ok (qaa rfl) fun a E=>lv E ok (qbV rfl rfl) fun a E=>?_
 obtain ⟨x15,e16,hF⟩:=bnd hF
 obtain ⟨b17,o18,es19,hl20,rr21,at22,yy23⟩:=qaI qel hl_0 e16 (P:=Tryz.prog) (X:=.tmp 20) (I:=.tmp 22) (kd:=.i64) (qao E rfl) (qao E rfl)
 obtain ⟨rfl,l24,l25,r26⟩:=rr21
 refine lv E ok (yy23 _ _) fun a E=>lv E ok (qac qeG rfl) fun a E=>lv E ok (qaj qav rfl (qaf.ro (At.sub 0 1 at22))) fun a E=>lv E ok (qbQ rfl rfl) fun a E=>lv E ok (qam rfl rfl) fun a E=>wn<|c_if E rfl (fun hc27=>?_) (fun hc27=>?_)
 ·replace hF:=qai hc27 hF
  refine sg<|lv E ok (qab rfl) fun a E=>lv E ok (qab rfl) fun a E=>wn<|wp_ret<|qan ?_
  have hret:qa8 u m0 S ([],false) a w:=⟨ok,E.d,⟨rv_t E rfl,rv_t E rfl,trivial⟩,(show ([]:List UInt8).length ≤ LIMS by decide)⟩
  obtain rfl:=sj hF
  exact fin _ _ hret
 replace hF:=qah hc27 hF
 refine wp_skip<|qad<|sg<|lv E ok (qab rfl) fun a E=>wn<|wp_seq ?_
 refine sg<|lv E ok (qab rfl) fun a E=>wn<|wp_block ?_
 obtain ⟨o30,hL,hF⟩:=bnd hF
 refine qaR _ (fun (s:(List UInt8) × Int) a w=>Ok u m0 (S) w ∧ Env 91 a [(0,vl_0),(4,(Value.int .i64 (l_0.length:Int))),(5,(Value.string (bs s.1))),(6,(Value.int .i64 s.2))] ∧ s.1.length ≤ LIMS ∧ InR .i64 s.2) (fun (b:(((List UInt8)) ⊕ ((List UInt8) × Bool))) e a w=>(Sum.elim (fun b186=>e = (.exit 0) ∧ Ok u m0 (S) w ∧ Env 91 a [(5,(Value.string (bs b186)))] ∧ b186.length ≤ LIMS) (fun b188=>e = .ret ∧ qa8 u m0 S b188 a w)) b) ?_ ?_ N _ a w hL ⟨ok,E.keep [0,4,5,6],(show ([]:List UInt8).length ≤ LIMS by decide),(show InR .i64 (1) by decide)⟩
 rotate_left
 ·intro e a w _ hO
  rcases o30 with o30 | o30
  rotate_left
  ·replace hF:=qba hF
   obtain ⟨rfl,hret⟩:=hO
   refine qap<|qan ?_
   obtain rfl:=sj hF
   exact fin _ _ hret
  replace hF:=qa9 hF
  obtain ⟨rfl,ok,E,l185⟩:=hO
  refine qaT<|qad<|sg<|lv E ok (qaa rfl) fun a E=>lv E ok (qab rfl) fun a E=>lv E ok (qab rfl) fun a E=>wpList_nil ?_
  refine qad<|wp_ret ?_
  have hret:qa8 u m0 S (o30,true) a w:=⟨ok,E.d,⟨rv_t E rfl,rv_t E rfl,trivial⟩,l185⟩
  obtain rfl:=sj hF
  exact fin _ _ hret
 rintro ⟨out_33,i_34⟩ a w r ⟨ok,E,l35,r36⟩ hF
 replace hF:qb8 N l_0 out_33 i_34 = some r:=hF
 unfold qb8 at hF
 refine wp_seq<|sg<|lv E ok (qaa rfl) fun a E=>lv E ok (qaa rfl) fun a E=>lv E ok (qbV rfl rfl) fun a E=>lv E ok (qaB rfl rfl) fun a E=>wpList_nil ?_
 refine qad<|c_if E rfl (fun hc37=>?_) (fun hc37=>?_)
 rotate_left
 ·replace hF:=qah hc37 hF
  refine wp_exit<|qaD ?_
  obtain rfl:=sj hF
  exact qaq (by nofun) (sl ⟨rfl,⟨ok,E.keep [5],l35⟩⟩)
 replace hF:=qai hc37 hF
 refine wp_skip<|qad<|wp_seq<|wp_block<|sg<|lv E ok (qaa rfl) fun a E=>lv E ok (qaa rfl) fun a E=>?_
 obtain ⟨x38,e39,hF⟩:=bnd hF
 obtain ⟨b40,o41,es42,hl43,rr44,at45,yy46⟩:=qaI qel hl_0 e39 (P:=Tryz.prog) (X:=.tmp 34) (I:=.tmp 35) (kd:=.i64) (qao E rfl) (qao E rfl)
 obtain ⟨rfl,l47,l48,r49⟩:=rr44
 refine lv E ok (yy46 _ _) fun a E=>lv E ok (qac qmF rfl) fun a E=>lv E ok (qaj qav rfl (qaf.ro (At.sub 1 1 at45))) fun a E=>lv E ok (qab rfl) fun a E=>wn<|wp_block<|wp_seq ?_
 refine qae<|lv E ok (qaa rfl) fun a E=>lv E ok (qaa rfl) fun a E=>?_
 obtain ⟨x50,e51,hF⟩:=bnd hF
 obtain ⟨b52,o53,es54,hl55,rr56,at57,yy58⟩:=qaI qel hl_0 e51 (P:=Tryz.prog) (X:=.tmp 40) (I:=.tmp 41) (kd:=.i64) (qao E rfl) (qao E rfl)
 obtain ⟨rfl,l59,l60,r61⟩:=rr56
 refine lv E ok (yy58 _ _) fun a E=>lv E ok (qac qeG rfl) fun a E=>lv E ok (qaj qav rfl (qaf.ro (At.sub 0 1 at57))) fun a E=>lv E ok (qa1 rfl rfl) fun a E=>lv E ok (qab rfl) fun a E=>wn<|c_if E rfl (fun hc62=>?_) (fun hc62=>?_)
 ·replace hF:=qai hc62 hF
  refine qae<|lv E ok (qaa rfl) fun a E=>lv E ok (qaa rfl) fun a E=>?_
  obtain ⟨s63,e64,hF⟩:=bnd hF
  refine lv E ok (qaQ rfl rfl e64) fun a E=>lv E ok (qab rfl) fun a E=>wpList_nil<|qar<|qar<|qad<|qae<|lv E ok (qaa rfl) fun a E=>?_
  refine lv E ok (qaC rfl rfl (InR.inc r36 (InR.wrap _ _) hc37)) fun a E=>lv E ok (qab rfl) fun a E=>wpList_nil ?_
  obtain rfl:=sj hF
  exact qay ⟨ok,E.keep [0,4,5,6],(qaN e64),(InR.inc r36 (InR.wrap _ _) hc37)⟩
 replace hF:=qah hc62 hF
 refine sg<|lv E ok (qaa rfl) fun a E=>lv E ok (qaa rfl) fun a E=>?_
 obtain ⟨x65,e66,hF⟩:=bnd hF
 obtain ⟨b67,o68,es69,hl70,rr71,at72,yy73⟩:=qaI qel hl_0 e66 (P:=Tryz.prog) (X:=.tmp 50) (I:=.tmp 51) (kd:=.i64) (qao E rfl) (qao E rfl)
 obtain ⟨rfl,l74,l75,r76⟩:=rr71
 refine lv E ok (yy73 _ _) fun a E=>lv E ok (qac qeG rfl) fun a E=>lv E ok (qaj qav rfl (qaf.ro (At.sub 0 1 at72))) fun a E=>lv E ok (qa1 rfl rfl) fun a E=>lv E ok (qaa rfl) fun a E=>qas (x65.Kind == ([101,115,99,97,112,101])) (fun hc77=>?_) (fun hc77=>?_)
 rotate_left
 ·as_aux_lemma =>
   replace hF:=qah hc77 hF
   replace E:=E.upd 56 hc77 rfl
   refine ls E fun a E=>ls E fun a E=>lv E ok (qam rfl rfl) fun a E=>lv E ok (qab rfl) fun a E=>wn<|c_if E rfl (fun h=>by cases h) (fun _=>?_)
   refine sg<|lv E ok (qaa rfl) fun a E=>lv E ok (qaa rfl) fun a E=>?_
   obtain ⟨x133,e134,hF⟩:=bnd hF
   obtain ⟨b135,o136,es137,hl138,rr139,at140,yy141⟩:=qaI qel hl_0 e134 (P:=Tryz.prog) (X:=.tmp 63) (I:=.tmp 64) (kd:=.i64) (qao E rfl) (qao E rfl)
   obtain ⟨rfl,l142,l143,r144⟩:=rr139
   refine lv E ok (yy141 _ _) fun a E=>lv E ok (qac qeG rfl) fun a E=>lv E ok (qaj qav rfl (qaf.ro (At.sub 0 1 at140))) fun a E=>lv E ok (qa1 rfl rfl) fun a E=>lv E ok (qaa rfl) fun a E=>qas (x133.Kind == ([101,115,99,97,112,101])) (fun hc145=>?_) (fun hc145=>?_)
   rotate_left
   ·as_aux_lemma =>
     replace hF:=qah hc145 hF
     replace E:=E.upd 69 hc145 rfl
     refine ls E fun a E=>ls E fun a E=>lv E ok (qam rfl rfl) fun a E=>lv E ok (qab rfl) fun a E=>wn<|c_if E rfl (fun h=>by cases h) (fun _=>?_)
     refine sg<|lv E ok (qaa rfl) fun a E=>lv E ok (qaa rfl) fun a E=>?_
     obtain ⟨x167,e168,hF⟩:=bnd hF
     obtain ⟨b169,o170,es171,hl172,rr173,at174,yy175⟩:=qaI qel hl_0 e168 (P:=Tryz.prog) (X:=.tmp 76) (I:=.tmp 77) (kd:=.i64) (qao E rfl) (qao E rfl)
     obtain ⟨rfl,l176,l177,r178⟩:=rr173
     refine lv E ok (yy175 _ _) fun a E=>lv E ok (qac qeG rfl) fun a E=>lv E ok (qaj qav rfl (qaf.ro (At.sub 0 1 at174))) fun a E=>lv E ok (qa1 rfl rfl) fun a E=>lv E ok (qaa rfl) fun a E=>qas (x167.Kind == ([101,115,99,97,112,101])) (fun hc179=>?_) (fun hc179=>?_)
     rotate_left
     ·replace hF:=qah hc179 hF
      replace E:=E.upd 82 hc179 rfl
      refine ls E fun a E=>ls E fun a E=>lv E ok (qam rfl rfl) fun a E=>lv E ok (qab rfl) fun a E=>wn<|c_if E rfl (fun h=>by cases h) (fun _=>?_)
      refine sg<|lv E ok (qab rfl) fun a E=>lv E ok (qab rfl) fun a E=>wn<|wp_ret<|qap ?_
      refine qap<|qan ?_
      have hret:qa8 u m0 S ([],false) a w:=⟨ok,E.d,⟨rv_t E rfl,rv_t E rfl,trivial⟩,(show ([]:List UInt8).length ≤ LIMS by decide)⟩
      obtain rfl:=sj hF
      exact qaq (by nofun) (sr ⟨rfl,hret⟩)
     replace hF:=qai hc179 hF
     replace E:=E.upd 82 hc179 rfl
     refine lv E ok (qaa rfl) fun a E=>lv E ok (qbQ rfl rfl) fun a E=>lv E ok (qak rfl rfl) fun a E=>lv E ok (qab rfl) fun a E=>wn<|c_if E rfl (fun hc180=>?_) (fun hc180=>?_)
     rotate_left
     ·replace hF:=qah hc180 hF
      refine sg<|lv E ok (qab rfl) fun a E=>lv E ok (qab rfl) fun a E=>wn<|wp_ret<|qap ?_
      refine qap<|qan ?_
      have hret:qa8 u m0 S ([],false) a w:=⟨ok,E.d,⟨rv_t E rfl,rv_t E rfl,trivial⟩,(show ([]:List UInt8).length ≤ LIMS by decide)⟩
      obtain rfl:=sj hF
      exact qaq (by nofun) (sr ⟨rfl,hret⟩)
     replace hF:=qai hc180 hF
     refine qae<|lv E ok (qaa rfl) fun a E=>lv E ok (qaa rfl) fun a E=>?_
     obtain ⟨s181,e182,hF⟩:=bnd hF
     refine lv E ok (qaW Tryz.underlying9 e182 rfl ⟨_,rfl⟩ rfl) fun a E=>?_
     obtain ⟨s183,e184,hF⟩:=bnd hF
     refine lv E ok (qaQ rfl rfl e184) fun a E=>lv E ok (qab rfl) fun a E=>wpList_nil<|qar<|qar<|qad<|qae<|lv E ok (qaa rfl) fun a E=>?_
     refine lv E ok (qaC rfl rfl (InR.inc r36 (InR.wrap _ _) hc37)) fun a E=>lv E ok (qab rfl) fun a E=>wpList_nil ?_
     obtain rfl:=sj hF
     exact qay ⟨ok,E.keep [0,4,5,6],(qaN e184),(InR.inc r36 (InR.wrap _ _) hc37)⟩
   replace hF:=qai hc145 hF
   replace E:=E.upd 69 hc145 rfl
   refine lv E ok (qaa rfl) fun a E=>lv E ok (qa1 rfl rfl) fun a E=>lv E ok (qak rfl rfl) fun a E=>lv E ok (qab rfl) fun a E=>wn<|c_if E rfl (fun hc146=>?_) (fun hc146=>?_)
   ·replace hF:=qai hc146 hF
    refine qae<|lv E ok (qaa rfl) fun a E=>?_
    obtain ⟨s147,e148,hF⟩:=bnd hF
    refine lv E ok (qaQ rfl rfl e148) fun a E=>lv E ok (qab rfl) fun a E=>wpList_nil<|qar<|qar<|qad<|qae<|lv E ok (qaa rfl) fun a E=>?_
    refine lv E ok (qaC rfl rfl (InR.inc r36 (InR.wrap _ _) hc37)) fun a E=>lv E ok (qab rfl) fun a E=>wpList_nil ?_
    obtain rfl:=sj hF
    exact qay ⟨ok,E.keep [0,4,5,6],(qaN e148),(InR.inc r36 (InR.wrap _ _) hc37)⟩
   replace hF:=qah hc146 hF
   refine sg<|lv E ok (qaa rfl) fun a E=>lv E ok (qaa rfl) fun a E=>?_
   obtain ⟨x149,e150,hF⟩:=bnd hF
   obtain ⟨b151,o152,es153,hl154,rr155,at156,yy157⟩:=qaI qel hl_0 e150 (P:=Tryz.prog) (X:=.tmp 76) (I:=.tmp 77) (kd:=.i64) (qao E rfl) (qao E rfl)
   obtain ⟨rfl,l158,l159,r160⟩:=rr155
   refine lv E ok (yy157 _ _) fun a E=>lv E ok (qac qeG rfl) fun a E=>lv E ok (qaj qav rfl (qaf.ro (At.sub 0 1 at156))) fun a E=>lv E ok (qa1 rfl rfl) fun a E=>lv E ok (qaa rfl) fun a E=>qas (x149.Kind == ([101,115,99,97,112,101])) (fun hc161=>?_) (fun hc161=>?_)
   rotate_left
   ·replace hF:=qah hc161 hF
    replace E:=E.upd 82 hc161 rfl
    refine ls E fun a E=>ls E fun a E=>lv E ok (qam rfl rfl) fun a E=>lv E ok (qab rfl) fun a E=>wn<|c_if E rfl (fun h=>by cases h) (fun _=>?_)
    refine sg<|lv E ok (qab rfl) fun a E=>lv E ok (qab rfl) fun a E=>wn<|wp_ret<|qap ?_
    refine qap<|qan ?_
    have hret:qa8 u m0 S ([],false) a w:=⟨ok,E.d,⟨rv_t E rfl,rv_t E rfl,trivial⟩,(show ([]:List UInt8).length ≤ LIMS by decide)⟩
    obtain rfl:=sj hF
    exact qaq (by nofun) (sr ⟨rfl,hret⟩)
   replace hF:=qai hc161 hF
   replace E:=E.upd 82 hc161 rfl
   refine lv E ok (qaa rfl) fun a E=>lv E ok (qbQ rfl rfl) fun a E=>lv E ok (qak rfl rfl) fun a E=>lv E ok (qab rfl) fun a E=>wn<|c_if E rfl (fun hc162=>?_) (fun hc162=>?_)
   rotate_left
   ·replace hF:=qah hc162 hF
    refine sg<|lv E ok (qab rfl) fun a E=>lv E ok (qab rfl) fun a E=>wn<|wp_ret<|qap ?_
    refine qap<|qan ?_
    have hret:qa8 u m0 S ([],false) a w:=⟨ok,E.d,⟨rv_t E rfl,rv_t E rfl,trivial⟩,(show ([]:List UInt8).length ≤ LIMS by decide)⟩
    obtain rfl:=sj hF
    exact qaq (by nofun) (sr ⟨rfl,hret⟩)
   replace hF:=qai hc162 hF
   refine qae<|lv E ok (qaa rfl) fun a E=>lv E ok (qaa rfl) fun a E=>?_
   obtain ⟨s163,e164,hF⟩:=bnd hF
   refine lv E ok (qaW Tryz.underlying9 e164 rfl ⟨_,rfl⟩ rfl) fun a E=>?_
   obtain ⟨s165,e166,hF⟩:=bnd hF
   refine lv E ok (qaQ rfl rfl e166) fun a E=>lv E ok (qab rfl) fun a E=>wpList_nil<|qar<|qar<|qad<|qae<|lv E ok (qaa rfl) fun a E=>?_
   refine lv E ok (qaC rfl rfl (InR.inc r36 (InR.wrap _ _) hc37)) fun a E=>lv E ok (qab rfl) fun a E=>wpList_nil ?_
   obtain rfl:=sj hF
   exact qay ⟨ok,E.keep [0,4,5,6],(qaN e166),(InR.inc r36 (InR.wrap _ _) hc37)⟩
 replace hF:=qai hc77 hF
 replace E:=E.upd 56 hc77 rfl
 refine lv E ok (qaa rfl) fun a E=>lv E ok (qa1 rfl rfl) fun a E=>lv E ok (qak rfl rfl) fun a E=>lv E ok (qab rfl) fun a E=>wn<|c_if E rfl (fun hc78=>?_) (fun hc78=>?_)
 ·replace hF:=qai hc78 hF
  refine qae<|lv E ok (qaa rfl) fun a E=>?_
  obtain ⟨s79,e80,hF⟩:=bnd hF
  refine lv E ok (qaQ rfl rfl e80) fun a E=>lv E ok (qab rfl) fun a E=>wpList_nil<|qar<|qar<|qad<|qae<|lv E ok (qaa rfl) fun a E=>?_
  refine lv E ok (qaC rfl rfl (InR.inc r36 (InR.wrap _ _) hc37)) fun a E=>lv E ok (qab rfl) fun a E=>wpList_nil ?_
  obtain rfl:=sj hF
  exact qay ⟨ok,E.keep [0,4,5,6],(qaN e80),(InR.inc r36 (InR.wrap _ _) hc37)⟩
 replace hF:=qah hc78 hF
 refine sg<|lv E ok (qaa rfl) fun a E=>lv E ok (qaa rfl) fun a E=>?_
 obtain ⟨x81,e82,hF⟩:=bnd hF
 obtain ⟨b83,o84,es85,hl86,rr87,at88,yy89⟩:=qaI qel hl_0 e82 (P:=Tryz.prog) (X:=.tmp 63) (I:=.tmp 64) (kd:=.i64) (qao E rfl) (qao E rfl)
 obtain ⟨rfl,l90,l91,r92⟩:=rr87
 refine lv E ok (yy89 _ _) fun a E=>lv E ok (qac qeG rfl) fun a E=>lv E ok (qaj qav rfl (qaf.ro (At.sub 0 1 at88))) fun a E=>lv E ok (qa1 rfl rfl) fun a E=>lv E ok (qaa rfl) fun a E=>qas (x81.Kind == ([101,115,99,97,112,101])) (fun hc93=>?_) (fun hc93=>?_)
 rotate_left
 ·as_aux_lemma =>
   replace hF:=qah hc93 hF
   replace E:=E.upd 69 hc93 rfl
   refine ls E fun a E=>ls E fun a E=>lv E ok (qam rfl rfl) fun a E=>lv E ok (qab rfl) fun a E=>wn<|c_if E rfl (fun h=>by cases h) (fun _=>?_)
   refine sg<|lv E ok (qaa rfl) fun a E=>lv E ok (qaa rfl) fun a E=>?_
   obtain ⟨x115,e116,hF⟩:=bnd hF
   obtain ⟨b117,o118,es119,hl120,rr121,at122,yy123⟩:=qaI qel hl_0 e116 (P:=Tryz.prog) (X:=.tmp 76) (I:=.tmp 77) (kd:=.i64) (qao E rfl) (qao E rfl)
   obtain ⟨rfl,l124,l125,r126⟩:=rr121
   refine lv E ok (yy123 _ _) fun a E=>lv E ok (qac qeG rfl) fun a E=>lv E ok (qaj qav rfl (qaf.ro (At.sub 0 1 at122))) fun a E=>lv E ok (qa1 rfl rfl) fun a E=>lv E ok (qaa rfl) fun a E=>qas (x115.Kind == ([101,115,99,97,112,101])) (fun hc127=>?_) (fun hc127=>?_)
   rotate_left
   ·replace hF:=qah hc127 hF
    replace E:=E.upd 82 hc127 rfl
    refine ls E fun a E=>ls E fun a E=>lv E ok (qam rfl rfl) fun a E=>lv E ok (qab rfl) fun a E=>wn<|c_if E rfl (fun h=>by cases h) (fun _=>?_)
    refine sg<|lv E ok (qab rfl) fun a E=>lv E ok (qab rfl) fun a E=>wn<|wp_ret<|qap ?_
    refine qap<|qan ?_
    have hret:qa8 u m0 S ([],false) a w:=⟨ok,E.d,⟨rv_t E rfl,rv_t E rfl,trivial⟩,(show ([]:List UInt8).length ≤ LIMS by decide)⟩
    obtain rfl:=sj hF
    exact qaq (by nofun) (sr ⟨rfl,hret⟩)
   replace hF:=qai hc127 hF
   replace E:=E.upd 82 hc127 rfl
   refine lv E ok (qaa rfl) fun a E=>lv E ok (qbQ rfl rfl) fun a E=>lv E ok (qak rfl rfl) fun a E=>lv E ok (qab rfl) fun a E=>wn<|c_if E rfl (fun hc128=>?_) (fun hc128=>?_)
   rotate_left
   ·replace hF:=qah hc128 hF
    refine sg<|lv E ok (qab rfl) fun a E=>lv E ok (qab rfl) fun a E=>wn<|wp_ret<|qap ?_
    refine qap<|qan ?_
    have hret:qa8 u m0 S ([],false) a w:=⟨ok,E.d,⟨rv_t E rfl,rv_t E rfl,trivial⟩,(show ([]:List UInt8).length ≤ LIMS by decide)⟩
    obtain rfl:=sj hF
    exact qaq (by nofun) (sr ⟨rfl,hret⟩)
   replace hF:=qai hc128 hF
   refine qae<|lv E ok (qaa rfl) fun a E=>lv E ok (qaa rfl) fun a E=>?_
   obtain ⟨s129,e130,hF⟩:=bnd hF
   refine lv E ok (qaW Tryz.underlying9 e130 rfl ⟨_,rfl⟩ rfl) fun a E=>?_
   obtain ⟨s131,e132,hF⟩:=bnd hF
   refine lv E ok (qaQ rfl rfl e132) fun a E=>lv E ok (qab rfl) fun a E=>wpList_nil<|qar<|qar<|qad<|qae<|lv E ok (qaa rfl) fun a E=>?_
   refine lv E ok (qaC rfl rfl (InR.inc r36 (InR.wrap _ _) hc37)) fun a E=>lv E ok (qab rfl) fun a E=>wpList_nil ?_
   obtain rfl:=sj hF
   exact qay ⟨ok,E.keep [0,4,5,6],(qaN e132),(InR.inc r36 (InR.wrap _ _) hc37)⟩
 replace hF:=qai hc93 hF
 replace E:=E.upd 69 hc93 rfl
 refine lv E ok (qaa rfl) fun a E=>lv E ok (qa1 rfl rfl) fun a E=>lv E ok (qak rfl rfl) fun a E=>lv E ok (qab rfl) fun a E=>wn<|c_if E rfl (fun hc94=>?_) (fun hc94=>?_)
 ·replace hF:=qai hc94 hF
  refine qae<|lv E ok (qaa rfl) fun a E=>?_
  obtain ⟨s95,e96,hF⟩:=bnd hF
  refine lv E ok (qaQ rfl rfl e96) fun a E=>lv E ok (qab rfl) fun a E=>wpList_nil<|qar<|qar<|qad<|qae<|lv E ok (qaa rfl) fun a E=>?_
  refine lv E ok (qaC rfl rfl (InR.inc r36 (InR.wrap _ _) hc37)) fun a E=>lv E ok (qab rfl) fun a E=>wpList_nil ?_
  obtain rfl:=sj hF
  exact qay ⟨ok,E.keep [0,4,5,6],(qaN e96),(InR.inc r36 (InR.wrap _ _) hc37)⟩
 replace hF:=qah hc94 hF
 refine sg<|lv E ok (qaa rfl) fun a E=>lv E ok (qaa rfl) fun a E=>?_
 obtain ⟨x97,e98,hF⟩:=bnd hF
 obtain ⟨b99,o100,es101,hl102,rr103,at104,yy105⟩:=qaI qel hl_0 e98 (P:=Tryz.prog) (X:=.tmp 76) (I:=.tmp 77) (kd:=.i64) (qao E rfl) (qao E rfl)
 obtain ⟨rfl,l106,l107,r108⟩:=rr103
 refine lv E ok (yy105 _ _) fun a E=>lv E ok (qac qeG rfl) fun a E=>lv E ok (qaj qav rfl (qaf.ro (At.sub 0 1 at104))) fun a E=>lv E ok (qa1 rfl rfl) fun a E=>lv E ok (qaa rfl) fun a E=>qas (x97.Kind == ([101,115,99,97,112,101])) (fun hc109=>?_) (fun hc109=>?_)
 rotate_left
 ·replace hF:=qah hc109 hF
  replace E:=E.upd 82 hc109 rfl
  refine ls E fun a E=>ls E fun a E=>lv E ok (qam rfl rfl) fun a E=>lv E ok (qab rfl) fun a E=>wn<|c_if E rfl (fun h=>by cases h) (fun _=>?_)
  refine sg<|lv E ok (qab rfl) fun a E=>lv E ok (qab rfl) fun a E=>wn<|wp_ret<|qap ?_
  refine qap<|qan ?_
  have hret:qa8 u m0 S ([],false) a w:=⟨ok,E.d,⟨rv_t E rfl,rv_t E rfl,trivial⟩,(show ([]:List UInt8).length ≤ LIMS by decide)⟩
  obtain rfl:=sj hF
  exact qaq (by nofun) (sr ⟨rfl,hret⟩)
 replace hF:=qai hc109 hF
 replace E:=E.upd 82 hc109 rfl
 refine lv E ok (qaa rfl) fun a E=>lv E ok (qbQ rfl rfl) fun a E=>lv E ok (qak rfl rfl) fun a E=>lv E ok (qab rfl) fun a E=>wn<|c_if E rfl (fun hc110=>?_) (fun hc110=>?_)
 rotate_left
 ·replace hF:=qah hc110 hF
  refine sg<|lv E ok (qab rfl) fun a E=>lv E ok (qab rfl) fun a E=>wn<|wp_ret<|qap ?_
  refine qap<|qan ?_
  have hret:qa8 u m0 S ([],false) a w:=⟨ok,E.d,⟨rv_t E rfl,rv_t E rfl,trivial⟩,(show ([]:List UInt8).length ≤ LIMS by decide)⟩
  obtain rfl:=sj hF
  exact qaq (by nofun) (sr ⟨rfl,hret⟩)
 replace hF:=qai hc110 hF
 refine qae<|lv E ok (qaa rfl) fun a E=>lv E ok (qaa rfl) fun a E=>?_
 obtain ⟨s111,e112,hF⟩:=bnd hF
 refine lv E ok (qaW Tryz.underlying9 e112 rfl ⟨_,rfl⟩ rfl) fun a E=>?_
 obtain ⟨s113,e114,hF⟩:=bnd hF
 refine lv E ok (qaQ rfl rfl e114) fun a E=>lv E ok (qab rfl) fun a E=>wpList_nil<|qar<|qar<|qad<|qae<|lv E ok (qaa rfl) fun a E=>?_
 refine lv E ok (qaC rfl rfl (InR.inc r36 (InR.wrap _ _) hc37)) fun a E=>lv E ok (qab rfl) fun a E=>wpList_nil ?_
 obtain rfl:=sj hF
 exact qay ⟨ok,E.keep [0,4,5,6],(qaN e114),(InR.inc r36 (InR.wrap _ _) hc37)⟩
def qcZ (u:World) (m0:Mem) (S:Segs) (r:Bool) (a:Act) (w:World):Prop :=
 Ok u m0 S w ∧ a.defers = [] ∧ RVs Tryz.prog a w [.t 2 (.bool r)]
set_option maxHeartbeats 4000000 in
set_option maxRecDepth 100000 in
theorem qem {u:World} {m0:Mem} {S:Segs} {w:World} (N:Nat) (s_0:List UInt8) (ls_0:s_0.length ≤ LIMS) {r:Bool} (hF:qds N s_0 = some r) (hG:Glob u) (ok:Ok u m0 S w) :
  Calls Tryz.prog 42 [Value.string (bs s_0)].toArray w fun e w'=>(e = .returned (.bool r) ∧ Ok u m0 S w'):=by
 have hb0:=ok.base
 have le_m0:=Mem.le.refl m0
 unfold qds at hF
 have fin:∀ a w,qcZ u m0 S r a w → bodyPost Tryz.prog Tryz.f42 (fun e w'=>(e = .returned (.bool r) ∧ Ok u m0 S w')) .ret a w:=by
  intro a w h
  obtain ⟨ok,hd,hrv⟩:=h
  exact qaK [.t 2 (.bool r)] hd rfl hrv ⟨rfl,ok⟩
 refine enter Tryz.func42 rfl rfl rfl fun a E=>sg<|lv E ok (qab rfl) fun a E=>wn<|wp_seq<|wp_seq ?_
 refine qae<|lv E ok (qab rfl) fun a E=>wn<|wp_block ?_
 obtain ⟨o2,hL,hF⟩:=bnd hF
 refine qaR _ (fun (s:Int) a w=>Ok u m0 (S) w ∧ Env 28 a [(0,(Value.string (bs s_0))),(3,(Value.int .i64 s))] ∧ InR .i64 s) (fun (b:(Unit ⊕ Bool)) e a w=>(Sum.elim (fun b14=>e = (.exit 0) ∧ Ok u m0 (S) w ∧ Env 28 a [(0,(Value.string (bs s_0)))]) (fun b15=>e = .ret ∧ qcZ u m0 S b15 a w)) b) ?_ ?_ N _ a w hL ⟨ok,E.keep [0,3],(show InR .i64 (0) by decide)⟩
 rotate_left
 ·intro e a w _ hO
  rcases o2 with o2 | o2
  rotate_left
  ·replace hF:=qba hF
   obtain ⟨rfl,hret⟩:=hO
   refine qap<|qan ?_
   obtain rfl:=sj hF
   exact fin _ _ hret
  replace hF:=qa9 hF
  obtain ⟨rfl,ok,E⟩:=hO
  refine qaT<|qad<|sg<|lv E ok (qaa rfl) fun a E=>lv E ok (qaX Tryz.underlying9 rfl) fun a E=>lv E ok (qbg rfl rfl) fun a E=>lv E ok (qaa rfl) fun a E=>?_
  refine qas (decide ((s_0.length:Int) ≥ 1)) (fun hc13=>?_) (fun hc13=>?_)
  ·replace hF:=qai hc13 hF
   replace E:=E.upd 23 hc13 rfl
   refine lv E ok (qaa rfl) fun a E=>lv E ok (qaX Tryz.underlying9 rfl) fun a E=>lv E ok (qct rfl rfl) fun a E=>lv E ok (qak rfl rfl) fun a E=>lv E ok (qab rfl) fun a E=>wn<|wp_ret ?_
   have hret:qcZ u m0 S (decide ((s_0.length:Int) ≤ 16)) a w:=⟨ok,E.d,⟨rv_t E rfl,trivial⟩⟩
   obtain rfl:=sj hF
   exact fin _ _ hret
  replace hF:=qah hc13 hF
  replace E:=E.upd 23 hc13 rfl
  refine ls E fun a E=>ls E fun a E=>ls E fun a E=>lv E ok (qam rfl rfl) fun a E=>lv E ok (qab rfl) fun a E=>wn<|wp_ret ?_
  have hret:qcZ u m0 S false a w:=⟨ok,E.d,⟨rv_t E rfl,trivial⟩⟩
  obtain rfl:=sj hF
  exact fin _ _ hret
 rintro i_4 a w r ⟨ok,E,r5⟩ hF
 replace hF:qfp N s_0 i_4 = some r:=hF
 unfold qfp at hF
 refine wp_seq<|sg<|lv E ok (qaa rfl) fun a E=>lv E ok (qaa rfl) fun a E=>lv E ok (qaX Tryz.underlying9 rfl) fun a E=>lv E ok (qaB rfl rfl) fun a E=>wpList_nil ?_
 refine qad<|c_if E rfl (fun hc6=>?_) (fun hc6=>?_)
 rotate_left
 ·replace hF:=qah hc6 hF
  refine wp_exit<|qaD ?_
  obtain rfl:=sj hF
  exact qaq (by nofun) (sl ⟨rfl,⟨ok,E.keep [0]⟩⟩)
 replace hF:=qai hc6 hF
 refine wp_skip<|qad<|wp_seq<|wp_block<|sg<|lv E ok (qaa rfl) fun a E=>lv E ok (qaa rfl) fun a E=>?_
 obtain ⟨c7,e8,hF⟩:=bnd hF
 refine lv E ok (qa3 Tryz.underlying9 rfl rfl e8) fun a E=>lv E ok (qaB rfl rfl) fun a E=>lv E ok (qaa rfl) fun a E=>qas (decide ((c7.toNat:Int) < 97)) (fun hc9=>?_) (fun hc9=>?_)
 ·replace hF:=qai hc9 hF
  replace E:=E.upd 14 hc9 rfl
  refine ls E fun a E=>ls E fun a E=>ls E fun a E=>ls E fun a E=>lv E ok (qak rfl rfl) fun a E=>wn<|c_if E rfl (fun _=>?_) (fun h=>by cases h)
  refine sg<|lv E ok (qab rfl) fun a E=>wn<|wp_ret<|qap<|qan ?_
  have hret:qcZ u m0 S false a w:=⟨ok,E.d,⟨rv_t E rfl,trivial⟩⟩
  obtain rfl:=sj hF
  exact qaq (by nofun) (sr ⟨rfl,hret⟩)
 replace hF:=qah hc9 hF
 replace E:=E.upd 14 hc9 rfl
 refine lv E ok (qaa rfl) fun a E=>lv E ok (qaa rfl) fun a E=>?_
 obtain ⟨c10,e11,hF⟩:=bnd hF
 refine lv E ok (qa3 Tryz.underlying9 rfl rfl e11) fun a E=>lv E ok (qb4 rfl rfl) fun a E=>lv E ok (qam rfl rfl) fun a E=>wn<|c_if E rfl (fun hc12=>?_) (fun hc12=>?_)
 rotate_left
 ·replace hF:=qah hc12 hF
  refine wp_skip<|qar<|qad<|qae<|lv E ok (qaa rfl) fun a E=>lv E ok (qaC rfl rfl (InR.inc r5 (InR.len ls_0) hc6)) fun a E=>lv E ok (qab rfl) fun a E=>wpList_nil ?_
  obtain rfl:=sj hF
  exact qay ⟨ok,E.keep [0,3],(InR.inc r5 (InR.len ls_0) hc6)⟩
 replace hF:=qai hc12 hF
 refine sg<|lv E ok (qab rfl) fun a E=>wn<|wp_ret<|qap<|qan ?_
 have hret:qcZ u m0 S false a w:=⟨ok,E.d,⟨rv_t E rfl,trivial⟩⟩
 obtain rfl:=sj hF
 exact qaq (by nofun) (sr ⟨rfl,hret⟩)
def qd3 (u:World) (m0:Mem) (S:Segs) (r:Int) (a:Act) (w:World):Prop :=
 Ok u m0 S w ∧ a.defers = [] ∧ RVs Tryz.prog a w [.t 4 (.int .i64 r)] ∧ InR .i64 r
set_option maxHeartbeats 4000000 in
set_option maxRecDepth 100000 in
theorem qgN {u:World} {m0:Mem} {S:Segs} {w:World} (N:Nat) (vs_0:Value) (s_0:List (State)) (hs_0:(pL 2 qb3) m0 [vs_0] s_0) (name_1:List UInt8) (lname_1:name_1.length ≤ LIMS) {r:Int} (hF:qeC N s_0 name_1 = some r) (hG:Glob u) (ok:Ok u m0 S w) :
  Calls Tryz.prog 60 [vs_0,Value.string (bs name_1)].toArray w fun e w'=>(e = .returned (.int .i64 r) ∧ Ok u m0 S w') ∧ InR .i64 r:=by
 have hb0:=ok.base
 have le_m0:=Mem.le.refl m0
 unfold qeC at hF
 have fin:∀ a w,qd3 u m0 S r a w → bodyPost Tryz.prog Tryz.f60 (fun e w'=>(e = .returned (.int .i64 r) ∧ Ok u m0 S w') ∧ InR .i64 r) .ret a w:=by
  intro a w h
  obtain ⟨ok,hd,hrv,h0⟩:=h
  exact qaK [.t 4 (.int .i64 r)] hd rfl hrv ⟨⟨rfl,ok⟩,h0⟩
 refine enter Tryz.func60 rfl rfl rfl fun a E=>sg<|lv E ok (qab rfl) fun a E=>wn<|wp_seq<|wp_seq ?_
 refine qae<|lv E ok (qab rfl) fun a E=>wn<|wp_block ?_
 obtain ⟨o2,hL,hF⟩:=bnd hF
 refine qaR _ (fun (s:Int) a w=>Ok u m0 (S) w ∧ Env 20 a [(0,vs_0),(1,(Value.string (bs name_1))),(5,(Value.int .i64 s))] ∧ InR .i64 s) (fun (b:(Unit ⊕ Int)) e a w=>(Sum.elim (fun b20=>e = (.exit 0) ∧ Ok u m0 (S) w ∧ Env 20 a []) (fun b21=>e = .ret ∧ qd3 u m0 S b21 a w)) b) ?_ ?_ N _ a w hL ⟨ok,E.keep [0,1,5],(show InR .i64 (0) by decide)⟩
 rotate_left
 ·intro e a w _ hO
  rcases o2 with o2 | o2
  rotate_left
  ·replace hF:=qba hF
   obtain ⟨rfl,hret⟩:=hO
   refine qap<|qan ?_
   obtain rfl:=sj hF
   exact fin _ _ hret
  replace hF:=qa9 hF
  obtain ⟨rfl,ok,E⟩:=hO
  refine qaT<|qad<|sg<|lv E ok (qab rfl) fun a E=>wn<|wp_ret ?_
  have hret:qd3 u m0 S (-1) a w:=⟨ok,E.d,⟨rv_t E rfl,trivial⟩,(show InR .i64 (-1) by decide)⟩
  obtain rfl:=sj hF
  exact fin _ _ hret
 rintro i_4 a w r ⟨ok,E,r5⟩ hF
 replace hF:qeY N s_0 name_1 i_4 = some r:=hF
 unfold qeY at hF
 refine wp_seq<|sg<|lv E ok (qaa rfl) fun a E=>lv E ok (qaa rfl) fun a E=>lv E ok (qaG qbW hs_0 rfl) fun a E=>lv E ok (qaB rfl rfl) fun a E=>wpList_nil ?_
 refine qad<|c_if E rfl (fun hc6=>?_) (fun hc6=>?_)
 rotate_left
 ·replace hF:=qah hc6 hF
  refine wp_exit<|qaD ?_
  obtain rfl:=sj hF
  exact qaq (by nofun) (sl ⟨rfl,⟨ok,E.keep []⟩⟩)
 replace hF:=qai hc6 hF
 refine wp_skip<|qad<|wp_seq<|wp_block<|sg<|lv E ok (qaa rfl) fun a E=>lv E ok (qaa rfl) fun a E=>?_
 obtain ⟨x7,e8,hF⟩:=bnd hF
 obtain ⟨b9,o10,es11,hl12,rr13,at14,yy15⟩:=qaI qbW hs_0 e8 (P:=Tryz.prog) (X:=.tmp 12) (I:=.tmp 13) (kd:=.i64) (qao E rfl) (qao E rfl)
 obtain ⟨c17,rfl,l16,h18⟩:=rr13
 refine lv E ok (yy15 _ _) fun a E=>lv E ok (qac qh0 rfl) fun a E=>lv E ok (qaj qav rfl (qaf.ro (At.sub 0 1 at14))) fun a E=>lv E ok (qaa rfl) fun a E=>lv E ok (qa1 rfl rfl) fun a E=>wn<|c_if E rfl (fun hc19=>?_) (fun hc19=>?_)
 rotate_left
 ·replace hF:=qah hc19 hF
  refine wp_skip<|qar<|qad<|qae<|lv E ok (qaa rfl) fun a E=>lv E ok (qaC rfl rfl (InR.inc r5 (qau hs_0) hc6)) fun a E=>lv E ok (qab rfl) fun a E=>wpList_nil ?_
  obtain rfl:=sj hF
  exact qay ⟨ok,E.keep [0,1,5],(InR.inc r5 (qau hs_0) hc6)⟩
 replace hF:=qai hc19 hF
 refine sg<|lv E ok (qaa rfl) fun a E=>lv E ok (qab rfl) fun a E=>wn<|wp_ret<|qap ?_
 refine qan ?_
 have hret:qd3 u m0 S i_4 a w:=⟨ok,E.d,⟨rv_t E rfl,trivial⟩,r5⟩
 obtain rfl:=sj hF
 exact qaq (by nofun) (sr ⟨rfl,hret⟩)
def qaY (u:World) (m0:Mem) (S:Segs) (r:Bool) (a:Act) (w:World):Prop :=
 Ok u m0 S w ∧ a.defers = [] ∧ RVs Tryz.prog a w [.t 2 (.bool r)]
set_option maxHeartbeats 4000000 in
set_option maxRecDepth 100000 in
theorem qi8 {u:World} {m0:Mem} {S:Segs} {w:World} (N:Nat) (vx_0:List Value) (x_0:Item) (hx_0:qbJ m0 vx_0 x_0) {r:Bool} (hF:qfK N x_0 = some r) (hG:Glob u) (ok:Ok u m0 S w) :
  Calls Tryz.prog 85 [.agg vx_0.toArray].toArray w fun e w'=>(e = .returned (.bool r) ∧ Ok u m0 S w'):=by
 obtain ⟨c2,rfl,l1,h3,r4,r5⟩:=hx_0
 have hb0:=ok.base
 have le_m0:=Mem.le.refl m0
 unfold qfK at hF
 have fin:∀ a w,qaY u m0 S r a w → bodyPost Tryz.prog Tryz.f85 (fun e w'=>(e = .returned (.bool r) ∧ Ok u m0 S w')) .ret a w:=by
  intro a w h
  obtain ⟨ok,hd,hrv⟩:=h
  exact qaK [.t 2 (.bool r)] hd rfl hrv ⟨rfl,ok⟩
 refine enter Tryz.func85 rfl rfl rfl fun a E=>sg<|qdF E ok rfl rfl rfl fun b6 a w E ok=>lv E ok (qab rfl) fun a E=>wn<|wp_seq ?_
 refine sg<|lv E ok (qac qdI rfl) fun a E=>lv E ok (qaj qa0 rfl (qaf.own 0 rfl rfl)) fun a E=>lv E ok (qaB rfl rfl) fun a E=>lv E ok (qaa rfl) fun a E=>qas (decide (x_0.Least < 0)) (fun hc7=>?_) (fun hc7=>?_)
 ·replace hF:=qai hc7 hF
  replace E:=E.upd 7 hc7 rfl
  refine ls E fun a E=>ls E fun a E=>ls E fun a E=>lv E ok (qak rfl rfl) fun a E=>lv E ok (qaa rfl) fun a E=>ls E fun a E=>ls E fun a E=>ls E fun a E=>?_
  refine ls E fun a E=>ls E fun a E=>ls E fun a E=>ls E fun a E=>ls E fun a E=>lv E ok (qak rfl rfl) fun a E=>wn ?_
  refine c_if E rfl (fun _=>?_) (fun h=>by cases h)
  refine sg<|lv E ok (qab rfl) fun a E=>wn<|wp_ret<|qan ?_
  have hret:qaY u m0 S false a w:=⟨ok.drop,E.d,⟨rv_t E rfl,trivial⟩⟩
  obtain rfl:=sj hF
  exact fin _ _ hret
 replace hF:=qah hc7 hF
 replace E:=E.upd 7 hc7 rfl
 refine lv E ok (qac qdI rfl) fun a E=>lv E ok (qaj qa0 rfl (qaf.own 0 rfl rfl)) fun a E=>lv E ok (qb4 rfl rfl) fun a E=>lv E ok (qam rfl rfl) fun a E=>lv E ok (qaa rfl) fun a E=>qas (decide (x_0.Least > 1)) (fun hc8=>?_) (fun hc8=>?_)
 ·replace hF:=qai hc8 hF
  replace E:=E.upd 12 hc8 rfl
  refine ls E fun a E=>ls E fun a E=>ls E fun a E=>ls E fun a E=>ls E fun a E=>ls E fun a E=>ls E fun a E=>ls E fun a E=>?_
  refine lv E ok (qak rfl rfl) fun a E=>wn<|c_if E rfl (fun _=>?_) (fun h=>by cases h)
  refine sg<|lv E ok (qab rfl) fun a E=>wn<|wp_ret<|qan ?_
  have hret:qaY u m0 S false a w:=⟨ok.drop,E.d,⟨rv_t E rfl,trivial⟩⟩
  obtain rfl:=sj hF
  exact fin _ _ hret
 replace hF:=qah hc8 hF
 replace E:=E.upd 12 hc8 rfl
 refine lv E ok (qac qdJ rfl) fun a E=>lv E ok (qaj qa0 rfl (qaf.own 0 rfl rfl)) fun a E=>lv E ok (qdm rfl rfl) fun a E=>lv E ok (qaa rfl) fun a E=>qas (x_0.Most != 1) (fun hc9=>?_) (fun hc9=>?_)
 rotate_left
 ·as_aux_lemma =>
   replace hF:=qah hc9 hF
   replace E:=E.upd 16 hc9 rfl
   refine ls E fun a E=>ls E fun a E=>ls E fun a E=>lv E ok (qam rfl rfl) fun a E=>lv E ok (qam rfl rfl) fun a E=>wn<|c_if E rfl (fun h=>by cases h) (fun _=>?_)
   refine wp_skip<|qad<|wp_seq<|sg<|lv E ok (qac qfG rfl) fun a E=>lv E ok (qaj qav rfl (qaf.own 0 rfl rfl)) fun a E=>lv E ok (qbQ rfl rfl) fun a E=>?_
   refine wn<|c_if E rfl (fun hc46=>?_) (fun hc46=>?_)
   ·replace hF:=qai hc46 hF
    refine sg<|lv E ok (qac qfG rfl) fun a E=>lv E ok (qaj qav rfl (qaf.own 0 rfl rfl)) fun a E=>lv E ok (qaX Tryz.underlying9 rfl) fun a E=>lv E ok (qct rfl rfl) fun a E=>lv E ok (qaa rfl) fun a E=>qas (decide ((x_0.Text.length:Int) ≤ 40)) (fun hc47=>?_) (fun hc47=>?_)
    rotate_left
    ·replace hF:=qah hc47 hF
     replace E:=E.upd 29 hc47 rfl
     refine ls E fun a E=>ls E fun a E=>ls E fun a E=>ls E fun a E=>lv E ok (qam rfl rfl) fun a E=>lv E ok (qaa rfl) fun a E=>ls E fun a E=>ls E fun a E=>?_
     refine ls E fun a E=>lv E ok (qam rfl rfl) fun a E=>lv E ok (qab rfl) fun a E=>wn<|wp_ret<|qan ?_
     have hret:qaY u m0 S false a w:=⟨ok.drop,E.d,⟨rv_t E rfl,trivial⟩⟩
     obtain rfl:=sj hF
     exact fin _ _ hret
    replace hF:=qai hc47 hF
    replace E:=E.upd 29 hc47 rfl
    refine lv E ok (qac qbp rfl) fun a E=>lv E ok (qaj qb2 rfl (qaf.own 0 rfl rfl)) fun a E=>lv E ok (qaG qbR h3 rfl) fun a E=>lv E ok (qbn rfl rfl) fun a E=>lv E ok (qak rfl rfl) fun a E=>lv E ok (qaa rfl) fun a E=>qas ((x_0.Ranges.length:Int) == 0) (fun hc48=>?_) (fun hc48=>?_)
    ·replace hF:=qai hc48 hF
     replace E:=E.upd 35 hc48 rfl
     refine lv E ok (qac qh1 rfl) fun a E=>lv E ok (qaj qgz rfl (qaf.own 0 rfl rfl)) fun a E=>lv E ok (qbP rfl) fun a E=>lv E ok (qak rfl rfl) fun a E=>lv E ok (qab rfl) fun a E=>wn<|wp_ret ?_
     refine qan ?_
     have hret:qaY u m0 S (!x_0.Not) a w:=⟨ok.drop,E.d,⟨rv_t E rfl,trivial⟩⟩
     obtain rfl:=sj hF
     exact fin _ _ hret
    replace hF:=qah hc48 hF
    replace E:=E.upd 35 hc48 rfl
    refine ls E fun a E=>ls E fun a E=>ls E fun a E=>lv E ok (qam rfl rfl) fun a E=>lv E ok (qab rfl) fun a E=>wn<|wp_ret ?_
    refine qan ?_
    have hret:qaY u m0 S false a w:=⟨ok.drop,E.d,⟨rv_t E rfl,trivial⟩⟩
    obtain rfl:=sj hF
    exact fin _ _ hret
   replace hF:=qah hc46 hF
   refine wp_skip<|qad<|wp_seq<|sg<|lv E ok (qab rfl) fun a E=>wn ?_
   refine wp_block ?_
   obtain ⟨o50,hL,hF⟩:=bnd hF
   refine qaR _ (fun (s:Int) a w=>Ok u m0 ([(b6,Obj.cells [(Value.string (bs x_0.Text)),c2,(Value.bool x_0.Not),(Value.int .i64 x_0.Least),(Value.int .i64 x_0.Most)].toArray 138 (0,0))] :: S) w ∧ Env 70 a [(1,(Value.pointer (some ⟨b6,0,none⟩))),(3,(Value.int .i64 s))] ∧ InR .i64 s) (fun (b:(Unit ⊕ Bool)) e a w=>(Sum.elim (fun b79=>e = (.exit 0) ∧ Ok u m0 ([(b6,Obj.cells [(Value.string (bs x_0.Text)),c2,(Value.bool x_0.Not),(Value.int .i64 x_0.Least),(Value.int .i64 x_0.Most)].toArray 138 (0,0))] :: S) w ∧ Env 70 a [(1,(Value.pointer (some ⟨b6,0,none⟩)))]) (fun b80=>e = .ret ∧ qaY u m0 S b80 a w)) b) ?_ ?_ N _ a w hL ⟨ok,E.keep [1,3],(show InR .i64 (0) by decide)⟩
   rotate_left
   ·intro e a w _ hO
    rcases o50 with o50 | o50
    rotate_left
    ·replace hF:=qba hF
     obtain ⟨rfl,hret⟩:=hO
     refine qap<|qan ?_
     obtain rfl:=sj hF
     exact fin _ _ hret
    replace hF:=qa9 hF
    obtain ⟨rfl,ok,E⟩:=hO
    refine qaT<|qad<|sg<|lv E ok (qac qbp rfl) fun a E=>lv E ok (qaj qb2 rfl (qaf.own 0 rfl rfl)) fun a E=>lv E ok (qaG qbR h3 rfl) fun a E=>lv E ok (qbg rfl rfl) fun a E=>?_
    refine lv E ok (qaa rfl) fun a E=>qas (decide ((x_0.Ranges.length:Int) ≥ 1)) (fun hc78=>?_) (fun hc78=>?_)
    ·replace hF:=qai hc78 hF
     replace E:=E.upd 64 hc78 rfl
     refine lv E ok (qac qbp rfl) fun a E=>lv E ok (qaj qb2 rfl (qaf.own 0 rfl rfl)) fun a E=>lv E ok (qaG qbR h3 rfl) fun a E=>lv E ok (qct rfl rfl) fun a E=>lv E ok (qak rfl rfl) fun a E=>lv E ok (qab rfl) fun a E=>wn ?_
     refine wp_ret ?_
     have hret:qaY u m0 S (decide ((x_0.Ranges.length:Int) ≤ 20)) a w:=⟨ok.drop,E.d,⟨rv_t E rfl,trivial⟩⟩
     obtain rfl:=sj hF
     exact fin _ _ hret
    replace hF:=qah hc78 hF
    replace E:=E.upd 64 hc78 rfl
    refine ls E fun a E=>ls E fun a E=>ls E fun a E=>ls E fun a E=>lv E ok (qam rfl rfl) fun a E=>lv E ok (qab rfl) fun a E=>wn ?_
    refine wp_ret ?_
    have hret:qaY u m0 S false a w:=⟨ok.drop,E.d,⟨rv_t E rfl,trivial⟩⟩
    obtain rfl:=sj hF
    exact fin _ _ hret
   rintro i_52 a w r ⟨ok,E,r53⟩ hF
   replace hF:qeE N x_0 i_52 = some r:=hF
   unfold qeE at hF
   refine wp_seq<|sg<|lv E ok (qaa rfl) fun a E=>lv E ok (qac qbp rfl) fun a E=>lv E ok (qaj qb2 rfl (qaf.own 0 rfl rfl)) fun a E=>lv E ok (qaG qbR h3 rfl) fun a E=>lv E ok (qaB rfl rfl) fun a E=>?_
   refine wn<|c_if E rfl (fun hc54=>?_) (fun hc54=>?_)
   rotate_left
   ·replace hF:=qah hc54 hF
    refine wp_exit<|qaD ?_
    obtain rfl:=sj hF
    exact qaq (by nofun) (sl ⟨rfl,⟨ok,E.keep [1]⟩⟩)
   replace hF:=qai hc54 hF
   refine wp_skip<|qad<|wp_seq<|wp_block<|wp_seq<|qbb (by kernel_rfl) (by kernel_rfl) ok<|qv E (qac qbp rfl) fun a E=>qv E (qaj qb2 rfl (qaf.own 0 rfl rfl)) fun a E=>?_
   refine qv E (qaa rfl) fun a E=>?_
   obtain ⟨x55,e56,hF⟩:=bnd hF
   obtain ⟨b57,o58,es59,hl60,rr61,at62,yy63⟩:=qaI qbR h3 e56 (P:=Tryz.prog) (X:=.tmp 48) (I:=.tmp 49) (kd:=.i64) (qao E rfl) (qao E rfl)
   obtain ⟨rfl,r64,r65⟩:=rr61
   refine qv E (yy63 _ _) fun a E=>qv E (qac qi0 rfl) fun a E=>qv E (qaj qex rfl (qaf.ro (At.sub 0 1 at62))) fun a E=>qv E (qac qbp rfl) fun a E=>qv E (qaj qb2 rfl (qaf.own 0 rfl rfl)) fun a E=>qv E (qaa rfl) fun a E=>?_
   obtain ⟨x66,e67,hF⟩:=bnd hF
   obtain ⟨b68,o69,es70,hl71,rr72,at73,yy74⟩:=qaI qbR h3 e67 (P:=Tryz.prog) (X:=.tmp 54) (I:=.tmp 55) (kd:=.i64) (qao E rfl) (qao E rfl)
   obtain ⟨rfl,r75,r76⟩:=rr72
   refine qv E (yy74 _ _) fun a E=>qv E (qac qiU rfl) fun a E=>qv E (qaj qex rfl (qaf.ro (At.sub 1 1 at73))) fun a E=>qv E (qb4 rfl rfl) fun a E=>wpQuiet_nil ?_
   intro w ok
   refine qad<|c_if E rfl (fun hc77=>?_) (fun hc77=>?_)
   rotate_left
   ·replace hF:=qah hc77 hF
    refine wp_skip<|qar<|qad<|qae<|lv E ok (qaa rfl) fun a E=>lv E ok (qaC rfl rfl (InR.inc r53 (qau h3) hc54)) fun a E=>lv E ok (qab rfl) fun a E=>wpList_nil ?_
    obtain rfl:=sj hF
    exact qay ⟨ok,E.keep [1,3],(InR.inc r53 (qau h3) hc54)⟩
   replace hF:=qai hc77 hF
   refine sg<|lv E ok (qab rfl) fun a E=>wn<|wp_ret<|qap<|qan ?_
   have hret:qaY u m0 S false a w:=⟨ok.drop,E.d,⟨rv_t E rfl,trivial⟩⟩
   obtain rfl:=sj hF
   exact qaq (by nofun) (sr ⟨rfl,hret⟩)
 replace hF:=qai hc9 hF
 replace E:=E.upd 16 hc9 rfl
 refine lv E ok (qac qdJ rfl) fun a E=>lv E ok (qaj qa0 rfl (qaf.own 0 rfl rfl)) fun a E=>lv E ok (qdm rfl rfl) fun a E=>lv E ok (qak rfl rfl) fun a E=>lv E ok (qam rfl rfl) fun a E=>wn<|c_if E rfl (fun hc10=>?_) (fun hc10=>?_)
 ·replace hF:=qai hc10 hF
  refine sg<|lv E ok (qab rfl) fun a E=>wn<|wp_ret<|qan ?_
  have hret:qaY u m0 S false a w:=⟨ok.drop,E.d,⟨rv_t E rfl,trivial⟩⟩
  obtain rfl:=sj hF
  exact fin _ _ hret
 replace hF:=qah hc10 hF
 refine wp_skip<|qad<|wp_seq<|sg<|lv E ok (qac qfG rfl) fun a E=>lv E ok (qaj qav rfl (qaf.own 0 rfl rfl)) fun a E=>lv E ok (qbQ rfl rfl) fun a E=>?_
 refine wn<|c_if E rfl (fun hc11=>?_) (fun hc11=>?_)
 ·replace hF:=qai hc11 hF
  refine sg<|lv E ok (qac qfG rfl) fun a E=>lv E ok (qaj qav rfl (qaf.own 0 rfl rfl)) fun a E=>lv E ok (qaX Tryz.underlying9 rfl) fun a E=>lv E ok (qct rfl rfl) fun a E=>lv E ok (qaa rfl) fun a E=>qas (decide ((x_0.Text.length:Int) ≤ 40)) (fun hc12=>?_) (fun hc12=>?_)
  rotate_left
  ·replace hF:=qah hc12 hF
   replace E:=E.upd 29 hc12 rfl
   refine ls E fun a E=>ls E fun a E=>ls E fun a E=>ls E fun a E=>lv E ok (qam rfl rfl) fun a E=>lv E ok (qaa rfl) fun a E=>ls E fun a E=>ls E fun a E=>?_
   refine ls E fun a E=>lv E ok (qam rfl rfl) fun a E=>lv E ok (qab rfl) fun a E=>wn<|wp_ret<|qan ?_
   have hret:qaY u m0 S false a w:=⟨ok.drop,E.d,⟨rv_t E rfl,trivial⟩⟩
   obtain rfl:=sj hF
   exact fin _ _ hret
  replace hF:=qai hc12 hF
  replace E:=E.upd 29 hc12 rfl
  refine lv E ok (qac qbp rfl) fun a E=>lv E ok (qaj qb2 rfl (qaf.own 0 rfl rfl)) fun a E=>lv E ok (qaG qbR h3 rfl) fun a E=>lv E ok (qbn rfl rfl) fun a E=>lv E ok (qak rfl rfl) fun a E=>lv E ok (qaa rfl) fun a E=>qas ((x_0.Ranges.length:Int) == 0) (fun hc13=>?_) (fun hc13=>?_)
  ·replace hF:=qai hc13 hF
   replace E:=E.upd 35 hc13 rfl
   refine lv E ok (qac qh1 rfl) fun a E=>lv E ok (qaj qgz rfl (qaf.own 0 rfl rfl)) fun a E=>lv E ok (qbP rfl) fun a E=>lv E ok (qak rfl rfl) fun a E=>lv E ok (qab rfl) fun a E=>wn<|wp_ret ?_
   refine qan ?_
   have hret:qaY u m0 S (!x_0.Not) a w:=⟨ok.drop,E.d,⟨rv_t E rfl,trivial⟩⟩
   obtain rfl:=sj hF
   exact fin _ _ hret
  replace hF:=qah hc13 hF
  replace E:=E.upd 35 hc13 rfl
  refine ls E fun a E=>ls E fun a E=>ls E fun a E=>lv E ok (qam rfl rfl) fun a E=>lv E ok (qab rfl) fun a E=>wn<|wp_ret ?_
  refine qan ?_
  have hret:qaY u m0 S false a w:=⟨ok.drop,E.d,⟨rv_t E rfl,trivial⟩⟩
  obtain rfl:=sj hF
  exact fin _ _ hret
 replace hF:=qah hc11 hF
 refine wp_skip<|qad<|wp_seq<|sg<|lv E ok (qab rfl) fun a E=>wn ?_
 refine wp_block ?_
 obtain ⟨o15,hL,hF⟩:=bnd hF
 refine qaR _ (fun (s:Int) a w=>Ok u m0 ([(b6,Obj.cells [(Value.string (bs x_0.Text)),c2,(Value.bool x_0.Not),(Value.int .i64 x_0.Least),(Value.int .i64 x_0.Most)].toArray 138 (0,0))] :: S) w ∧ Env 70 a [(1,(Value.pointer (some ⟨b6,0,none⟩))),(3,(Value.int .i64 s))] ∧ InR .i64 s) (fun (b:(Unit ⊕ Bool)) e a w=>(Sum.elim (fun b44=>e = (.exit 0) ∧ Ok u m0 ([(b6,Obj.cells [(Value.string (bs x_0.Text)),c2,(Value.bool x_0.Not),(Value.int .i64 x_0.Least),(Value.int .i64 x_0.Most)].toArray 138 (0,0))] :: S) w ∧ Env 70 a [(1,(Value.pointer (some ⟨b6,0,none⟩)))]) (fun b45=>e = .ret ∧ qaY u m0 S b45 a w)) b) ?_ ?_ N _ a w hL ⟨ok,E.keep [1,3],(show InR .i64 (0) by decide)⟩
 rotate_left
 ·intro e a w _ hO
  rcases o15 with o15 | o15
  rotate_left
  ·replace hF:=qba hF
   obtain ⟨rfl,hret⟩:=hO
   refine qap<|qan ?_
   obtain rfl:=sj hF
   exact fin _ _ hret
  replace hF:=qa9 hF
  obtain ⟨rfl,ok,E⟩:=hO
  refine qaT<|qad<|sg<|lv E ok (qac qbp rfl) fun a E=>lv E ok (qaj qb2 rfl (qaf.own 0 rfl rfl)) fun a E=>lv E ok (qaG qbR h3 rfl) fun a E=>lv E ok (qbg rfl rfl) fun a E=>?_
  refine lv E ok (qaa rfl) fun a E=>qas (decide ((x_0.Ranges.length:Int) ≥ 1)) (fun hc43=>?_) (fun hc43=>?_)
  ·replace hF:=qai hc43 hF
   replace E:=E.upd 64 hc43 rfl
   refine lv E ok (qac qbp rfl) fun a E=>lv E ok (qaj qb2 rfl (qaf.own 0 rfl rfl)) fun a E=>lv E ok (qaG qbR h3 rfl) fun a E=>lv E ok (qct rfl rfl) fun a E=>lv E ok (qak rfl rfl) fun a E=>lv E ok (qab rfl) fun a E=>wn ?_
   refine wp_ret ?_
   have hret:qaY u m0 S (decide ((x_0.Ranges.length:Int) ≤ 20)) a w:=⟨ok.drop,E.d,⟨rv_t E rfl,trivial⟩⟩
   obtain rfl:=sj hF
   exact fin _ _ hret
  replace hF:=qah hc43 hF
  replace E:=E.upd 64 hc43 rfl
  refine ls E fun a E=>ls E fun a E=>ls E fun a E=>ls E fun a E=>lv E ok (qam rfl rfl) fun a E=>lv E ok (qab rfl) fun a E=>wn ?_
  refine wp_ret ?_
  have hret:qaY u m0 S false a w:=⟨ok.drop,E.d,⟨rv_t E rfl,trivial⟩⟩
  obtain rfl:=sj hF
  exact fin _ _ hret
 rintro i_17 a w r ⟨ok,E,r18⟩ hF
 replace hF:qeM N x_0 i_17 = some r:=hF
 unfold qeM at hF
 refine wp_seq<|sg<|lv E ok (qaa rfl) fun a E=>lv E ok (qac qbp rfl) fun a E=>lv E ok (qaj qb2 rfl (qaf.own 0 rfl rfl)) fun a E=>lv E ok (qaG qbR h3 rfl) fun a E=>lv E ok (qaB rfl rfl) fun a E=>?_
 refine wn<|c_if E rfl (fun hc19=>?_) (fun hc19=>?_)
 rotate_left
 ·replace hF:=qah hc19 hF
  refine wp_exit<|qaD ?_
  obtain rfl:=sj hF
  exact qaq (by nofun) (sl ⟨rfl,⟨ok,E.keep [1]⟩⟩)
 replace hF:=qai hc19 hF
 refine wp_skip<|qad<|wp_seq<|wp_block<|wp_seq<|qbb (by kernel_rfl) (by kernel_rfl) ok<|qv E (qac qbp rfl) fun a E=>qv E (qaj qb2 rfl (qaf.own 0 rfl rfl)) fun a E=>?_
 refine qv E (qaa rfl) fun a E=>?_
 obtain ⟨x20,e21,hF⟩:=bnd hF
 obtain ⟨b22,o23,es24,hl25,rr26,at27,yy28⟩:=qaI qbR h3 e21 (P:=Tryz.prog) (X:=.tmp 48) (I:=.tmp 49) (kd:=.i64) (qao E rfl) (qao E rfl)
 obtain ⟨rfl,r29,r30⟩:=rr26
 refine qv E (yy28 _ _) fun a E=>qv E (qac qi0 rfl) fun a E=>qv E (qaj qex rfl (qaf.ro (At.sub 0 1 at27))) fun a E=>qv E (qac qbp rfl) fun a E=>qv E (qaj qb2 rfl (qaf.own 0 rfl rfl)) fun a E=>qv E (qaa rfl) fun a E=>?_
 obtain ⟨x31,e32,hF⟩:=bnd hF
 obtain ⟨b33,o34,es35,hl36,rr37,at38,yy39⟩:=qaI qbR h3 e32 (P:=Tryz.prog) (X:=.tmp 54) (I:=.tmp 55) (kd:=.i64) (qao E rfl) (qao E rfl)
 obtain ⟨rfl,r40,r41⟩:=rr37
 refine qv E (yy39 _ _) fun a E=>qv E (qac qiU rfl) fun a E=>qv E (qaj qex rfl (qaf.ro (At.sub 1 1 at38))) fun a E=>qv E (qb4 rfl rfl) fun a E=>wpQuiet_nil ?_
 intro w ok
 refine qad<|c_if E rfl (fun hc42=>?_) (fun hc42=>?_)
 rotate_left
 ·replace hF:=qah hc42 hF
  refine wp_skip<|qar<|qad<|qae<|lv E ok (qaa rfl) fun a E=>lv E ok (qaC rfl rfl (InR.inc r18 (qau h3) hc19)) fun a E=>lv E ok (qab rfl) fun a E=>wpList_nil ?_
  obtain rfl:=sj hF
  exact qay ⟨ok,E.keep [1,3],(InR.inc r18 (qau h3) hc19)⟩
 replace hF:=qai hc42 hF
 refine sg<|lv E ok (qab rfl) fun a E=>wn<|wp_ret<|qap<|qan ?_
 have hret:qaY u m0 S false a w:=⟨ok.drop,E.d,⟨rv_t E rfl,trivial⟩⟩
 obtain rfl:=sj hF
 exact qaq (by nofun) (sr ⟨rfl,hret⟩)
def qcF (u:World) (m0:Mem) (S:Segs) (r:Bool) (a:Act) (w:World):Prop :=
 Ok u m0 S w ∧ a.defers = [] ∧ RVs Tryz.prog a w [.t 2 (.bool r)]
set_option maxHeartbeats 4000000 in
set_option maxRecDepth 100000 in
theorem qe4 {u:World} {m0:Mem} {S:Segs} {w:World} (N:Nat) (vr_0:List Value) (r_0:Rule) (hr_0:qdn m0 vr_0 r_0) {r:Bool} (hF:qer N r_0 = some r) (hG:Glob u) (ok:Ok u m0 S w) :
  Calls Tryz.prog 61 [.agg vr_0.toArray].toArray w fun e w'=>(e = .returned (.bool r) ∧ Ok u m0 S w'):=by
 obtain ⟨c2,rfl,l1,h3,l4⟩:=hr_0
 have hb0:=ok.base
 have le_m0:=Mem.le.refl m0
 unfold qer at hF
 have fin:∀ a w,qcF u m0 S r a w → bodyPost Tryz.prog Tryz.f61 (fun e w'=>(e = .returned (.bool r) ∧ Ok u m0 S w')) .ret a w:=by
  intro a w h
  obtain ⟨ok,hd,hrv⟩:=h
  exact qaK [.t 2 (.bool r)] hd rfl hrv ⟨rfl,ok⟩
 refine enter Tryz.func61 rfl rfl rfl fun a E=>sg<|qdF E ok rfl rfl rfl fun b5 a w E ok=>lv E ok (qab rfl) fun a E=>wn<|wp_seq ?_
 refine sg<|lv E ok (qab rfl) fun a E=>wn<|wp_block ?_
 obtain ⟨o7,hL,hF⟩:=bnd hF
 refine qaR _ (fun (s:Int) a w=>Ok u m0 ([(b5,Obj.cells [(Value.string (bs r_0.Kind)),c2,(Value.string (bs r_0.Next))].toArray 114 (0,0))] :: S) w ∧ Env 33 a [(1,(Value.pointer (some ⟨b5,0,none⟩))),(3,(Value.int .i64 s))] ∧ InR .i64 s) (fun (b:(Unit ⊕ Bool)) e a w=>(Sum.elim (fun b33=>e = (.exit 0) ∧ Ok u m0 ([(b5,Obj.cells [(Value.string (bs r_0.Kind)),c2,(Value.string (bs r_0.Next))].toArray 114 (0,0))] :: S) w ∧ Env 33 a [(1,(Value.pointer (some ⟨b5,0,none⟩)))]) (fun b34=>e = .ret ∧ qcF u m0 S b34 a w)) b) ?_ ?_ N _ a w hL ⟨ok,E.keep [1,3],(show InR .i64 (0) by decide)⟩
 ·rintro i_9 a w r ⟨ok,E,r10⟩ hF
  replace hF:qeH N r_0 i_9 = some r:=hF
  unfold qeH at hF
  refine wp_seq<|sg<|lv E ok (qaa rfl) fun a E=>lv E ok (qac qc5 rfl) fun a E=>lv E ok (qaj qeP rfl (qaf.own 0 rfl rfl)) fun a E=>lv E ok (qaG qcY h3 rfl) fun a E=>lv E ok (qaB rfl rfl) fun a E=>?_
  refine wn<|c_if E rfl (fun hc11=>?_) (fun hc11=>?_)
  rotate_left
  ·replace hF:=qah hc11 hF
   refine wp_exit<|qaD ?_
   obtain rfl:=sj hF
   exact qaq (by nofun) (sl ⟨rfl,⟨ok,E.keep [1]⟩⟩)
  replace hF:=qai hc11 hF
  refine wp_skip<|qad<|wp_seq<|wp_block<|sg<|lv E ok (qac qc5 rfl) fun a E=>lv E ok (qaj qeP rfl (qaf.own 0 rfl rfl)) fun a E=>?_
  refine lv E ok (qaa rfl) fun a E=>?_
  obtain ⟨x12,e13,hF⟩:=bnd hF
  obtain ⟨b14,o15,es16,hl17,rr18,at19,yy20⟩:=qaI qcY h3 e13 (P:=Tryz.prog) (X:=.tmp 12) (I:=.tmp 13) (kd:=.i64) (qao E rfl) (qao E rfl)
  obtain ⟨c22,rfl,l21,h23,r24,r25⟩:=rr18
  refine lv E ok (yy20 _ _) fun a E=>lv E ok (qax (cs:=[(Value.string (bs x12.Text)),c22,(Value.bool x12.Not),(Value.int .i64 x12.Least),(Value.int .i64 x12.Most)]) qa7 rfl rfl (qaf.ro at19)) fun a E=>?_
  obtain ⟨r26,e27,hF⟩:=bnd hF
  refine qaw E qqI rfl (qi8 N _ x12 ⟨_,rfl,l21,h23,r24,r25⟩ e27 hG ok) rfl rfl ?_
  rintro _ w ⟨rfl,ok⟩
  refine ⟨_,rfl,fun a E=>?_⟩
  refine lv E ok (qbP rfl) fun a E=>wn<|c_if E rfl (fun hc28=>?_) (fun hc28=>?_)
  rotate_left
  ·replace hF:=qah hc28 hF
   refine wp_skip<|qar<|qad<|qae<|lv E ok (qaa rfl) fun a E=>lv E ok (qaC rfl rfl (InR.inc r10 (qau h3) hc11)) fun a E=>lv E ok (qab rfl) fun a E=>wpList_nil ?_
   obtain rfl:=sj hF
   exact qay ⟨ok,E.keep [1,3],(InR.inc r10 (qau h3) hc11)⟩
  replace hF:=qai hc28 hF
  refine sg<|lv E ok (qab rfl) fun a E=>wn<|wp_ret<|qap<|qan ?_
  have hret:qcF u m0 S false a w:=⟨ok.drop,E.d,⟨rv_t E rfl,trivial⟩⟩
  obtain rfl:=sj hF
  exact qaq (by nofun) (sr ⟨rfl,hret⟩)
 intro e a w _ hO
 rcases o7 with o7 | o7
 rotate_left
 ·replace hF:=qba hF
  obtain ⟨rfl,hret⟩:=hO
  refine qap<|qan ?_
  obtain rfl:=sj hF
  exact fin _ _ hret
 replace hF:=qa9 hF
 obtain ⟨rfl,ok,E⟩:=hO
 refine qaT<|qad<|sg<|lv E ok (qac qkg rfl) fun a E=>lv E ok (qaj qav rfl (qaf.own 0 rfl rfl)) fun a E=>?_
 obtain ⟨r29,e30,hF⟩:=bnd hF
 refine qaw E qlz rfl (qem N r_0.Kind l1 e30 hG ok) rfl rfl ?_
 rintro _ w ⟨rfl,ok⟩
 refine ⟨_,rfl,fun a E=>?_⟩
 refine lv E ok (qaa rfl) fun a E=>qas r29 (fun hc31=>?_) (fun hc31=>?_)
 rotate_left
 ·replace hF:=qah hc31 hF
  replace E:=E.upd 21 hc31 rfl
  refine ls E fun a E=>ls E fun a E=>ls E fun a E=>ls E fun a E=>lv E ok (qam rfl rfl) fun a E=>lv E ok (qaa rfl) fun a E=>ls E fun a E=>ls E fun a E=>?_
  refine ls E fun a E=>ls E fun a E=>lv E ok (qam rfl rfl) fun a E=>lv E ok (qab rfl) fun a E=>wn<|wp_ret ?_
  have hret:qcF u m0 S false a w:=⟨ok.drop,E.d,⟨rv_t E rfl,trivial⟩⟩
  obtain rfl:=sj hF
  exact fin _ _ hret
 replace hF:=qai hc31 hF
 replace E:=E.upd 21 hc31 rfl
 refine lv E ok (qac qc5 rfl) fun a E=>lv E ok (qaj qeP rfl (qaf.own 0 rfl rfl)) fun a E=>lv E ok (qaG qcY h3 rfl) fun a E=>lv E ok (qbg rfl rfl) fun a E=>lv E ok (qak rfl rfl) fun a E=>lv E ok (qaa rfl) fun a E=>qas (decide ((r_0.Items.length:Int) ≥ 1)) (fun hc32=>?_) (fun hc32=>?_)
 ·replace hF:=qai hc32 hF
  replace E:=E.upd 27 hc32 rfl
  refine lv E ok (qac qc5 rfl) fun a E=>lv E ok (qaj qeP rfl (qaf.own 0 rfl rfl)) fun a E=>lv E ok (qaG qcY h3 rfl) fun a E=>lv E ok (qct rfl rfl) fun a E=>lv E ok (qak rfl rfl) fun a E=>lv E ok (qab rfl) fun a E=>wn ?_
  refine wp_ret ?_
  have hret:qcF u m0 S (decide ((r_0.Items.length:Int) ≤ 20)) a w:=⟨ok.drop,E.d,⟨rv_t E rfl,trivial⟩⟩
  obtain rfl:=sj hF
  exact fin _ _ hret
 replace hF:=qah hc32 hF
 replace E:=E.upd 27 hc32 rfl
 refine ls E fun a E=>ls E fun a E=>ls E fun a E=>ls E fun a E=>lv E ok (qam rfl rfl) fun a E=>lv E ok (qab rfl) fun a E=>wn ?_
 refine wp_ret ?_
 have hret:qcF u m0 S false a w:=⟨ok.drop,E.d,⟨rv_t E rfl,trivial⟩⟩
 obtain rfl:=sj hF
 exact fin _ _ hret
def qaE (u:World) (m0:Mem) (S:Segs) (r:(List UInt8)) (a:Act) (w:World):Prop :=
 Ok u m0 S w ∧ a.defers = [] ∧ RVs Tryz.prog a w [.t 4 (.string (bs r))] ∧ r.length ≤ LIMS
set_option maxHeartbeats 4000000 in
set_option maxRecDepth 100000 in
theorem qf5 {u:World} {m0:Mem} {S:Segs} {w:World} (N:Nat) (c_0:Int) (rc_0:InR .u8 c_0) (brackets_1:Bool) {r:(List UInt8)} (hF:qes N c_0 brackets_1 = some r) (hG:Glob u) (ok:Ok u m0 S w) :
  Calls Tryz.prog 110 [Value.int .u8 c_0,Value.bool brackets_1].toArray w fun e w'=>(e = .returned (.string (bs r)) ∧ Ok u m0 S w') ∧ r.length ≤ LIMS:=by
 have hb0:=ok.base
 have le_m0:=Mem.le.refl m0
 unfold qes at hF
 have fin:∀ a w,qaE u m0 S r a w → bodyPost Tryz.prog Tryz.f110 (fun e w'=>(e = .returned (.string (bs r)) ∧ Ok u m0 S w') ∧ r.length ≤ LIMS) .ret a w:=by
  intro a w h
  obtain ⟨ok,hd,hrv,h0⟩:=h
  exact qaK [.t 4 (.string (bs r))] hd rfl hrv ⟨⟨rfl,ok⟩,h0⟩
 refine enter Tryz.func110 rfl rfl rfl fun a E=>sg<|lv E ok (qab rfl) fun a E=>wn<|sg ?_
 refine lv E ok (qab rfl) fun a E=>wn<|sg<|lv E ok (qaa rfl) fun a E=>lv E ok (qbn rfl rfl) fun a E=>lv E ok (qaa rfl) fun a E=>?_
 refine qas (c_0 == 92) (fun hc1=>?_) (fun hc1=>?_)
 ·replace hF:=qai hc1 hF
  replace E:=E.upd 9 hc1 rfl
  refine ls E fun a E=>ls E fun a E=>ls E fun a E=>ls E fun a E=>ls E fun a E=>ls E fun a E=>lv E ok (qak rfl rfl) fun a E=>lv E ok (qaa rfl) fun a E=>?_
  refine ls E fun a E=>ls E fun a E=>ls E fun a E=>ls E fun a E=>ls E fun a E=>ls E fun a E=>ls E fun a E=>ls E fun a E=>?_
  refine ls E fun a E=>ls E fun a E=>ls E fun a E=>ls E fun a E=>ls E fun a E=>ls E fun a E=>ls E fun a E=>ls E fun a E=>?_
  refine ls E fun a E=>lv E ok (qak rfl rfl) fun a E=>lv E ok (qab rfl) fun a E=>wn<|wp_seq<|wp_block<|wp_seq ?_
  refine qae<|lv E ok (qaa rfl) fun a E=>lv E ok (qab rfl) fun a E=>wn<|c_if E rfl (fun _=>?_) (fun h=>by cases h)
  refine sg<|lv E ok (qaa rfl) fun a E=>lv E ok (qbS Tryz.underlying5 Tryz.underlying9 rfl) fun a E=>?_
  obtain ⟨s2,e3,hF⟩:=bnd hF
  refine lv E ok (qaQ rfl rfl e3) fun a E=>lv E ok (qab rfl) fun a E=>wn<|wp_ret<|qap<|qan ?_
  have hret:qaE u m0 S s2 a w:=⟨ok,E.d,⟨rv_t E rfl,trivial⟩,(qaN e3)⟩
  obtain rfl:=sj hF
  exact fin _ _ hret
 replace hF:=qah hc1 hF
 replace E:=E.upd 9 hc1 rfl
 refine lv E ok (qaa rfl) fun a E=>lv E ok (qbP rfl) fun a E=>lv E ok (qaa rfl) fun a E=>qas (!brackets_1) (fun hc4=>?_) (fun hc4=>?_)
 rotate_left
 ·as_aux_lemma =>
   replace hF:=qah hc4 hF
   replace E:=E.upd 12 hc4 rfl
   refine ls E fun a E=>ls E fun a E=>lv E ok (qam rfl rfl) fun a E=>lv E ok (qam rfl rfl) fun a E=>lv E ok (qaa rfl) fun a E=>lv E ok (qaa rfl) fun a E=>lv E ok (qaa rfl) fun a E=>qas brackets_1 (fun hc101=>?_) (fun hc101=>?_)
   rotate_left
   ·as_aux_lemma =>
     replace hF:=qah hc101 hF
     replace E:=E.upd 19 hc101 rfl
     refine ls E fun a E=>ls E fun a E=>ls E fun a E=>ls E fun a E=>ls E fun a E=>ls E fun a E=>ls E fun a E=>ls E fun a E=>?_
     refine ls E fun a E=>ls E fun a E=>ls E fun a E=>ls E fun a E=>ls E fun a E=>ls E fun a E=>lv E ok (qam rfl rfl) fun a E=>lv E ok (qam rfl rfl) fun a E=>?_
     refine lv E ok (qab rfl) fun a E=>wn<|wp_seq<|wp_block<|sg<|lv E ok (qaa rfl) fun a E=>?_
     refine lv E ok (qab rfl) fun a E=>wn<|c_if E rfl (fun h=>by cases h) (fun _=>?_)
     refine sg<|lv E ok (qaa rfl) fun a E=>lv E ok (qaB rfl rfl) fun a E=>lv E ok (qaa rfl) fun a E=>qas (decide (c_0 < 32)) (fun hc154=>?_) (fun hc154=>?_)
     ·replace hF:=qai hc154 hF
      replace E:=E.upd 44 hc154 rfl
      refine ls E fun a E=>ls E fun a E=>lv E ok (qak rfl rfl) fun a E=>lv E ok (qaa rfl) fun a E=>ls E fun a E=>ls E fun a E=>ls E fun a E=>ls E fun a E=>?_
      refine ls E fun a E=>lv E ok (qak rfl rfl) fun a E=>lv E ok (qab rfl) fun a E=>wn<|c_if E rfl (fun _=>?_) (fun h=>by cases h)
      refine wp_seq<|qbb (by kernel_rfl) (by kernel_rfl) ok<|qv E (qaa rfl) fun a E=>qv E (qaa rfl) fun a E=>?_
      obtain ⟨q155,e156,hF⟩:=bnd hF
      refine qv E (qc1 rfl rfl e156) fun a E=>qv E (qaa rfl) fun a E=>?_
      obtain ⟨q157,e158,hF⟩:=bnd hF
      refine qv E (qc1 rfl rfl e158) fun a E=>qv E (qaL rfl rfl) fun a E=>?_
      obtain ⟨s159,e160,hF⟩:=bnd hF
      refine qv E (qaW Tryz.underlying9 e160 rfl ⟨_,rfl⟩ ⟨_,rfl⟩) fun a E=>?_
      obtain ⟨s161,e162,hF⟩:=bnd hF
      refine qv E (qaQ rfl rfl e162) fun a E=>qv E (qaa rfl) fun a E=>qv E (qaa rfl) fun a E=>qv E (qcr .and (by decide) rfl rfl) fun a E=>qv E (qaa rfl) fun a E=>qv E (qcr .and (by decide) rfl rfl) fun a E=>qv E (qaL rfl rfl) fun a E=>?_
      obtain ⟨s163,e164,hF⟩:=bnd hF
      refine qv E (qaW Tryz.underlying9 e164 rfl ⟨_,rfl⟩ ⟨_,rfl⟩) fun a E=>?_
      obtain ⟨s165,e166,hF⟩:=bnd hF
      refine qv E (qaQ rfl rfl e166) fun a E=>qv E (qab rfl) fun a E=>wpQuiet_nil ?_
      intro w ok
      refine qad<|wp_ret<|qap<|qan ?_
      have hret:qaE u m0 S s165 a w:=⟨ok,E.d,⟨rv_t E rfl,trivial⟩,(qaN e166)⟩
      obtain rfl:=sj hF
      exact fin _ _ hret
     replace hF:=qah hc154 hF
     replace E:=E.upd 44 hc154 rfl
     refine lv E ok (qaa rfl) fun a E=>lv E ok (qb4 rfl rfl) fun a E=>lv E ok (qam rfl rfl) fun a E=>lv E ok (qaa rfl) fun a E=>qas (decide (c_0 > 126)) (fun hc167=>?_) (fun hc167=>?_)
     ·replace hF:=qai hc167 hF
      replace E:=E.upd 48 hc167 rfl
      refine ls E fun a E=>ls E fun a E=>ls E fun a E=>ls E fun a E=>ls E fun a E=>lv E ok (qak rfl rfl) fun a E=>lv E ok (qab rfl) fun a E=>wpList_nil ?_
      refine qad<|c_if E rfl (fun _=>?_) (fun h=>by cases h)
      refine wp_seq<|qbb (by kernel_rfl) (by kernel_rfl) ok<|qv E (qaa rfl) fun a E=>qv E (qaa rfl) fun a E=>?_
      obtain ⟨q168,e169,hF⟩:=bnd hF
      refine qv E (qc1 rfl rfl e169) fun a E=>qv E (qaa rfl) fun a E=>?_
      obtain ⟨q170,e171,hF⟩:=bnd hF
      refine qv E (qc1 rfl rfl e171) fun a E=>qv E (qaL rfl rfl) fun a E=>?_
      obtain ⟨s172,e173,hF⟩:=bnd hF
      refine qv E (qaW Tryz.underlying9 e173 rfl ⟨_,rfl⟩ ⟨_,rfl⟩) fun a E=>?_
      obtain ⟨s174,e175,hF⟩:=bnd hF
      refine qv E (qaQ rfl rfl e175) fun a E=>qv E (qaa rfl) fun a E=>qv E (qaa rfl) fun a E=>qv E (qcr .and (by decide) rfl rfl) fun a E=>qv E (qaa rfl) fun a E=>qv E (qcr .and (by decide) rfl rfl) fun a E=>qv E (qaL rfl rfl) fun a E=>?_
      obtain ⟨s176,e177,hF⟩:=bnd hF
      refine qv E (qaW Tryz.underlying9 e177 rfl ⟨_,rfl⟩ ⟨_,rfl⟩) fun a E=>?_
      obtain ⟨s178,e179,hF⟩:=bnd hF
      refine qv E (qaQ rfl rfl e179) fun a E=>qv E (qab rfl) fun a E=>wpQuiet_nil ?_
      intro w ok
      refine qad<|wp_ret<|qap<|qan ?_
      have hret:qaE u m0 S s178 a w:=⟨ok,E.d,⟨rv_t E rfl,trivial⟩,(qaN e179)⟩
      obtain rfl:=sj hF
      exact fin _ _ hret
     replace hF:=qah hc167 hF
     replace E:=E.upd 48 hc167 rfl
     refine lv E ok (qaa rfl) fun a E=>lv E ok (qaa rfl) fun a E=>qas brackets_1 (fun hc180=>?_) (fun hc180=>?_)
     rotate_left
     ·replace hF:=qah hc180 hF
      replace E:=E.upd 50 hc180 rfl
      refine ls E fun a E=>ls E fun a E=>lv E ok (qam rfl rfl) fun a E=>lv E ok (qam rfl rfl) fun a E=>lv E ok (qab rfl) fun a E=>wn<|c_if E rfl (fun h=>by cases h) (fun _=>?_)
      refine wp_skip<|qar<|qad<|sg<|lv E ok (qaa rfl) fun a E=>lv E ok (qbS Tryz.underlying5 Tryz.underlying9 rfl) fun a E=>lv E ok (qab rfl) fun a E=>?_
      refine wn<|wp_ret ?_
      have hret:qaE u m0 S (qaJ c_0) a w:=⟨ok,E.d,⟨rv_t E rfl,trivial⟩,(qcx _)⟩
      obtain rfl:=sj hF
      exact fin _ _ hret
     replace hF:=qai hc180 hF
     replace E:=E.upd 50 hc180 rfl
     refine lv E ok (qaa rfl) fun a E=>lv E ok (qbn rfl rfl) fun a E=>lv E ok (qak rfl rfl) fun a E=>lv E ok (qam rfl rfl) fun a E=>lv E ok (qab rfl) fun a E=>wn<|c_if E rfl (fun hc181=>?_) (fun hc181=>?_)
     rotate_left
     ·replace hF:=qah hc181 hF
      refine wp_skip<|qar<|qad<|sg<|lv E ok (qaa rfl) fun a E=>lv E ok (qbS Tryz.underlying5 Tryz.underlying9 rfl) fun a E=>lv E ok (qab rfl) fun a E=>?_
      refine wn<|wp_ret ?_
      have hret:qaE u m0 S (qaJ c_0) a w:=⟨ok,E.d,⟨rv_t E rfl,trivial⟩,(qcx _)⟩
      obtain rfl:=sj hF
      exact fin _ _ hret
     replace hF:=qai hc181 hF
     refine wp_seq<|qbb (by kernel_rfl) (by kernel_rfl) ok<|qv E (qaa rfl) fun a E=>qv E (qaa rfl) fun a E=>?_
     obtain ⟨q182,e183,hF⟩:=bnd hF
     refine qv E (qc1 rfl rfl e183) fun a E=>qv E (qaa rfl) fun a E=>?_
     obtain ⟨q184,e185,hF⟩:=bnd hF
     refine qv E (qc1 rfl rfl e185) fun a E=>qv E (qaL rfl rfl) fun a E=>?_
     obtain ⟨s186,e187,hF⟩:=bnd hF
     refine qv E (qaW Tryz.underlying9 e187 rfl ⟨_,rfl⟩ ⟨_,rfl⟩) fun a E=>?_
     obtain ⟨s188,e189,hF⟩:=bnd hF
     refine qv E (qaQ rfl rfl e189) fun a E=>qv E (qaa rfl) fun a E=>qv E (qaa rfl) fun a E=>qv E (qcr .and (by decide) rfl rfl) fun a E=>qv E (qaa rfl) fun a E=>qv E (qcr .and (by decide) rfl rfl) fun a E=>qv E (qaL rfl rfl) fun a E=>?_
     obtain ⟨s190,e191,hF⟩:=bnd hF
     refine qv E (qaW Tryz.underlying9 e191 rfl ⟨_,rfl⟩ ⟨_,rfl⟩) fun a E=>?_
     obtain ⟨s192,e193,hF⟩:=bnd hF
     refine qv E (qaQ rfl rfl e193) fun a E=>qv E (qab rfl) fun a E=>wpQuiet_nil ?_
     intro w ok
     refine qad<|wp_ret<|qap<|qan ?_
     have hret:qaE u m0 S s192 a w:=⟨ok,E.d,⟨rv_t E rfl,trivial⟩,(qaN e193)⟩
     obtain rfl:=sj hF
     exact fin _ _ hret
   replace hF:=qai hc101 hF
   replace E:=E.upd 19 hc101 rfl
   refine lv E ok (qaa rfl) fun a E=>lv E ok (qbn rfl rfl) fun a E=>lv E ok (qaa rfl) fun a E=>qas (c_0 == 91) (fun hc102=>?_) (fun hc102=>?_)
   ·replace hF:=qai hc102 hF
    replace E:=E.upd 22 hc102 rfl
    refine ls E fun a E=>ls E fun a E=>lv E ok (qak rfl rfl) fun a E=>lv E ok (qaa rfl) fun a E=>ls E fun a E=>ls E fun a E=>lv E ok (qak rfl rfl) fun a E=>lv E ok (qaa rfl) fun a E=>?_
    refine ls E fun a E=>ls E fun a E=>lv E ok (qak rfl rfl) fun a E=>lv E ok (qak rfl rfl) fun a E=>lv E ok (qam rfl rfl) fun a E=>lv E ok (qab rfl) fun a E=>wn ?_
    refine wp_seq<|wp_block<|sg<|lv E ok (qaa rfl) fun a E=>lv E ok (qab rfl) fun a E=>wn ?_
    refine c_if E rfl (fun _=>?_) (fun h=>by cases h)
    refine sg<|lv E ok (qaa rfl) fun a E=>lv E ok (qbS Tryz.underlying5 Tryz.underlying9 rfl) fun a E=>?_
    obtain ⟨s103,e104,hF⟩:=bnd hF
    refine lv E ok (qaQ rfl rfl e104) fun a E=>lv E ok (qab rfl) fun a E=>wn<|wp_ret<|qap<|qan ?_
    have hret:qaE u m0 S s103 a w:=⟨ok,E.d,⟨rv_t E rfl,trivial⟩,(qaN e104)⟩
    obtain rfl:=sj hF
    exact fin _ _ hret
   replace hF:=qah hc102 hF
   replace E:=E.upd 22 hc102 rfl
   refine lv E ok (qaa rfl) fun a E=>lv E ok (qbn rfl rfl) fun a E=>lv E ok (qam rfl rfl) fun a E=>lv E ok (qaa rfl) fun a E=>qas (c_0 == 93) (fun hc105=>?_) (fun hc105=>?_)
   ·replace hF:=qai hc105 hF
    replace E:=E.upd 26 hc105 rfl
    refine ls E fun a E=>ls E fun a E=>lv E ok (qak rfl rfl) fun a E=>lv E ok (qaa rfl) fun a E=>ls E fun a E=>ls E fun a E=>lv E ok (qak rfl rfl) fun a E=>lv E ok (qak rfl rfl) fun a E=>?_
    refine lv E ok (qam rfl rfl) fun a E=>lv E ok (qab rfl) fun a E=>wn<|wp_seq<|wp_block<|sg ?_
    refine lv E ok (qaa rfl) fun a E=>lv E ok (qab rfl) fun a E=>wn<|c_if E rfl (fun _=>?_) (fun h=>by cases h)
    refine sg<|lv E ok (qaa rfl) fun a E=>lv E ok (qbS Tryz.underlying5 Tryz.underlying9 rfl) fun a E=>?_
    obtain ⟨s106,e107,hF⟩:=bnd hF
    refine lv E ok (qaQ rfl rfl e107) fun a E=>lv E ok (qab rfl) fun a E=>wn<|wp_ret<|qap<|qan ?_
    have hret:qaE u m0 S s106 a w:=⟨ok,E.d,⟨rv_t E rfl,trivial⟩,(qaN e107)⟩
    obtain rfl:=sj hF
    exact fin _ _ hret
   replace hF:=qah hc105 hF
   replace E:=E.upd 26 hc105 rfl
   refine lv E ok (qaa rfl) fun a E=>lv E ok (qbn rfl rfl) fun a E=>lv E ok (qam rfl rfl) fun a E=>lv E ok (qaa rfl) fun a E=>qas (c_0 == 94) (fun hc108=>?_) (fun hc108=>?_)
   ·replace hF:=qai hc108 hF
    replace E:=E.upd 30 hc108 rfl
    refine ls E fun a E=>ls E fun a E=>lv E ok (qak rfl rfl) fun a E=>lv E ok (qak rfl rfl) fun a E=>lv E ok (qam rfl rfl) fun a E=>lv E ok (qab rfl) fun a E=>wn ?_
    refine wp_seq<|wp_block<|sg<|lv E ok (qaa rfl) fun a E=>lv E ok (qab rfl) fun a E=>wn ?_
    refine c_if E rfl (fun _=>?_) (fun h=>by cases h)
    refine sg<|lv E ok (qaa rfl) fun a E=>lv E ok (qbS Tryz.underlying5 Tryz.underlying9 rfl) fun a E=>?_
    obtain ⟨s109,e110,hF⟩:=bnd hF
    refine lv E ok (qaQ rfl rfl e110) fun a E=>lv E ok (qab rfl) fun a E=>wn<|wp_ret<|qap<|qan ?_
    have hret:qaE u m0 S s109 a w:=⟨ok,E.d,⟨rv_t E rfl,trivial⟩,(qaN e110)⟩
    obtain rfl:=sj hF
    exact fin _ _ hret
   replace hF:=qah hc108 hF
   replace E:=E.upd 30 hc108 rfl
   refine lv E ok (qaa rfl) fun a E=>lv E ok (qbn rfl rfl) fun a E=>lv E ok (qam rfl rfl) fun a E=>lv E ok (qak rfl rfl) fun a E=>lv E ok (qam rfl rfl) fun a E=>lv E ok (qab rfl) fun a E=>wn ?_
   refine wp_seq<|wp_block<|sg<|lv E ok (qaa rfl) fun a E=>lv E ok (qab rfl) fun a E=>wn ?_
   refine c_if E rfl (fun hc111=>?_) (fun hc111=>?_)
   ·replace hF:=qai hc111 hF
    refine sg<|lv E ok (qaa rfl) fun a E=>lv E ok (qbS Tryz.underlying5 Tryz.underlying9 rfl) fun a E=>?_
    obtain ⟨s112,e113,hF⟩:=bnd hF
    refine lv E ok (qaQ rfl rfl e113) fun a E=>lv E ok (qab rfl) fun a E=>wn<|wp_ret<|qap<|qan ?_
    have hret:qaE u m0 S s112 a w:=⟨ok,E.d,⟨rv_t E rfl,trivial⟩,(qaN e113)⟩
    obtain rfl:=sj hF
    exact fin _ _ hret
   replace hF:=qah hc111 hF
   refine sg<|lv E ok (qaa rfl) fun a E=>lv E ok (qaB rfl rfl) fun a E=>lv E ok (qaa rfl) fun a E=>qas (decide (c_0 < 32)) (fun hc114=>?_) (fun hc114=>?_)
   ·replace hF:=qai hc114 hF
    replace E:=E.upd 44 hc114 rfl
    refine ls E fun a E=>ls E fun a E=>lv E ok (qak rfl rfl) fun a E=>lv E ok (qaa rfl) fun a E=>ls E fun a E=>ls E fun a E=>ls E fun a E=>ls E fun a E=>?_
    refine ls E fun a E=>lv E ok (qak rfl rfl) fun a E=>lv E ok (qab rfl) fun a E=>wn<|c_if E rfl (fun _=>?_) (fun h=>by cases h)
    refine wp_seq<|qbb (by kernel_rfl) (by kernel_rfl) ok<|qv E (qaa rfl) fun a E=>qv E (qaa rfl) fun a E=>?_
    obtain ⟨q115,e116,hF⟩:=bnd hF
    refine qv E (qc1 rfl rfl e116) fun a E=>qv E (qaa rfl) fun a E=>?_
    obtain ⟨q117,e118,hF⟩:=bnd hF
    refine qv E (qc1 rfl rfl e118) fun a E=>qv E (qaL rfl rfl) fun a E=>?_
    obtain ⟨s119,e120,hF⟩:=bnd hF
    refine qv E (qaW Tryz.underlying9 e120 rfl ⟨_,rfl⟩ ⟨_,rfl⟩) fun a E=>?_
    obtain ⟨s121,e122,hF⟩:=bnd hF
    refine qv E (qaQ rfl rfl e122) fun a E=>qv E (qaa rfl) fun a E=>qv E (qaa rfl) fun a E=>qv E (qcr .and (by decide) rfl rfl) fun a E=>qv E (qaa rfl) fun a E=>qv E (qcr .and (by decide) rfl rfl) fun a E=>qv E (qaL rfl rfl) fun a E=>?_
    obtain ⟨s123,e124,hF⟩:=bnd hF
    refine qv E (qaW Tryz.underlying9 e124 rfl ⟨_,rfl⟩ ⟨_,rfl⟩) fun a E=>?_
    obtain ⟨s125,e126,hF⟩:=bnd hF
    refine qv E (qaQ rfl rfl e126) fun a E=>qv E (qab rfl) fun a E=>wpQuiet_nil ?_
    intro w ok
    refine qad<|wp_ret<|qap<|qan ?_
    have hret:qaE u m0 S s125 a w:=⟨ok,E.d,⟨rv_t E rfl,trivial⟩,(qaN e126)⟩
    obtain rfl:=sj hF
    exact fin _ _ hret
   replace hF:=qah hc114 hF
   replace E:=E.upd 44 hc114 rfl
   refine lv E ok (qaa rfl) fun a E=>lv E ok (qb4 rfl rfl) fun a E=>lv E ok (qam rfl rfl) fun a E=>lv E ok (qaa rfl) fun a E=>qas (decide (c_0 > 126)) (fun hc127=>?_) (fun hc127=>?_)
   ·replace hF:=qai hc127 hF
    replace E:=E.upd 48 hc127 rfl
    refine ls E fun a E=>ls E fun a E=>ls E fun a E=>ls E fun a E=>ls E fun a E=>lv E ok (qak rfl rfl) fun a E=>lv E ok (qab rfl) fun a E=>wpList_nil ?_
    refine qad<|c_if E rfl (fun _=>?_) (fun h=>by cases h)
    refine wp_seq<|qbb (by kernel_rfl) (by kernel_rfl) ok<|qv E (qaa rfl) fun a E=>qv E (qaa rfl) fun a E=>?_
    obtain ⟨q128,e129,hF⟩:=bnd hF
    refine qv E (qc1 rfl rfl e129) fun a E=>qv E (qaa rfl) fun a E=>?_
    obtain ⟨q130,e131,hF⟩:=bnd hF
    refine qv E (qc1 rfl rfl e131) fun a E=>qv E (qaL rfl rfl) fun a E=>?_
    obtain ⟨s132,e133,hF⟩:=bnd hF
    refine qv E (qaW Tryz.underlying9 e133 rfl ⟨_,rfl⟩ ⟨_,rfl⟩) fun a E=>?_
    obtain ⟨s134,e135,hF⟩:=bnd hF
    refine qv E (qaQ rfl rfl e135) fun a E=>qv E (qaa rfl) fun a E=>qv E (qaa rfl) fun a E=>qv E (qcr .and (by decide) rfl rfl) fun a E=>qv E (qaa rfl) fun a E=>qv E (qcr .and (by decide) rfl rfl) fun a E=>qv E (qaL rfl rfl) fun a E=>?_
    obtain ⟨s136,e137,hF⟩:=bnd hF
    refine qv E (qaW Tryz.underlying9 e137 rfl ⟨_,rfl⟩ ⟨_,rfl⟩) fun a E=>?_
    obtain ⟨s138,e139,hF⟩:=bnd hF
    refine qv E (qaQ rfl rfl e139) fun a E=>qv E (qab rfl) fun a E=>wpQuiet_nil ?_
    intro w ok
    refine qad<|wp_ret<|qap<|qan ?_
    have hret:qaE u m0 S s138 a w:=⟨ok,E.d,⟨rv_t E rfl,trivial⟩,(qaN e139)⟩
    obtain rfl:=sj hF
    exact fin _ _ hret
   replace hF:=qah hc127 hF
   replace E:=E.upd 48 hc127 rfl
   refine lv E ok (qaa rfl) fun a E=>lv E ok (qaa rfl) fun a E=>qas brackets_1 (fun hc140=>?_) (fun hc140=>?_)
   rotate_left
   ·replace hF:=qah hc140 hF
    replace E:=E.upd 50 hc140 rfl
    refine ls E fun a E=>ls E fun a E=>lv E ok (qam rfl rfl) fun a E=>lv E ok (qam rfl rfl) fun a E=>lv E ok (qab rfl) fun a E=>wn<|c_if E rfl (fun h=>by cases h) (fun _=>?_)
    refine wp_skip<|qar<|qad<|sg<|lv E ok (qaa rfl) fun a E=>lv E ok (qbS Tryz.underlying5 Tryz.underlying9 rfl) fun a E=>lv E ok (qab rfl) fun a E=>?_
    refine wn<|wp_ret ?_
    have hret:qaE u m0 S (qaJ c_0) a w:=⟨ok,E.d,⟨rv_t E rfl,trivial⟩,(qcx _)⟩
    obtain rfl:=sj hF
    exact fin _ _ hret
   replace hF:=qai hc140 hF
   replace E:=E.upd 50 hc140 rfl
   refine lv E ok (qaa rfl) fun a E=>lv E ok (qbn rfl rfl) fun a E=>lv E ok (qak rfl rfl) fun a E=>lv E ok (qam rfl rfl) fun a E=>lv E ok (qab rfl) fun a E=>wn<|c_if E rfl (fun hc141=>?_) (fun hc141=>?_)
   rotate_left
   ·replace hF:=qah hc141 hF
    refine wp_skip<|qar<|qad<|sg<|lv E ok (qaa rfl) fun a E=>lv E ok (qbS Tryz.underlying5 Tryz.underlying9 rfl) fun a E=>lv E ok (qab rfl) fun a E=>?_
    refine wn<|wp_ret ?_
    have hret:qaE u m0 S (qaJ c_0) a w:=⟨ok,E.d,⟨rv_t E rfl,trivial⟩,(qcx _)⟩
    obtain rfl:=sj hF
    exact fin _ _ hret
   replace hF:=qai hc141 hF
   refine wp_seq<|qbb (by kernel_rfl) (by kernel_rfl) ok<|qv E (qaa rfl) fun a E=>qv E (qaa rfl) fun a E=>?_
   obtain ⟨q142,e143,hF⟩:=bnd hF
   refine qv E (qc1 rfl rfl e143) fun a E=>qv E (qaa rfl) fun a E=>?_
   obtain ⟨q144,e145,hF⟩:=bnd hF
   refine qv E (qc1 rfl rfl e145) fun a E=>qv E (qaL rfl rfl) fun a E=>?_
   obtain ⟨s146,e147,hF⟩:=bnd hF
   refine qv E (qaW Tryz.underlying9 e147 rfl ⟨_,rfl⟩ ⟨_,rfl⟩) fun a E=>?_
   obtain ⟨s148,e149,hF⟩:=bnd hF
   refine qv E (qaQ rfl rfl e149) fun a E=>qv E (qaa rfl) fun a E=>qv E (qaa rfl) fun a E=>qv E (qcr .and (by decide) rfl rfl) fun a E=>qv E (qaa rfl) fun a E=>qv E (qcr .and (by decide) rfl rfl) fun a E=>qv E (qaL rfl rfl) fun a E=>?_
   obtain ⟨s150,e151,hF⟩:=bnd hF
   refine qv E (qaW Tryz.underlying9 e151 rfl ⟨_,rfl⟩ ⟨_,rfl⟩) fun a E=>?_
   obtain ⟨s152,e153,hF⟩:=bnd hF
   refine qv E (qaQ rfl rfl e153) fun a E=>qv E (qab rfl) fun a E=>wpQuiet_nil ?_
   intro w ok
   refine qad<|wp_ret<|qap<|qan ?_
   have hret:qaE u m0 S s152 a w:=⟨ok,E.d,⟨rv_t E rfl,trivial⟩,(qaN e153)⟩
   obtain rfl:=sj hF
   exact fin _ _ hret
 replace hF:=qai hc4 hF
 replace E:=E.upd 12 hc4 rfl
 refine lv E ok (qaa rfl) fun a E=>lv E ok (qbn rfl rfl) fun a E=>lv E ok (qak rfl rfl) fun a E=>lv E ok (qam rfl rfl) fun a E=>lv E ok (qaa rfl) fun a E=>qas (c_0 == 34) (fun hc5=>?_) (fun hc5=>?_)
 ·replace hF:=qai hc5 hF
  replace E:=E.upd 17 hc5 rfl
  refine ls E fun a E=>ls E fun a E=>ls E fun a E=>ls E fun a E=>ls E fun a E=>ls E fun a E=>ls E fun a E=>ls E fun a E=>?_
  refine ls E fun a E=>ls E fun a E=>ls E fun a E=>ls E fun a E=>ls E fun a E=>ls E fun a E=>ls E fun a E=>ls E fun a E=>?_
  refine ls E fun a E=>lv E ok (qak rfl rfl) fun a E=>lv E ok (qab rfl) fun a E=>wn<|wp_seq<|wp_block<|wp_seq ?_
  refine qae<|lv E ok (qaa rfl) fun a E=>lv E ok (qab rfl) fun a E=>wn<|c_if E rfl (fun _=>?_) (fun h=>by cases h)
  refine sg<|lv E ok (qaa rfl) fun a E=>lv E ok (qbS Tryz.underlying5 Tryz.underlying9 rfl) fun a E=>?_
  obtain ⟨s6,e7,hF⟩:=bnd hF
  refine lv E ok (qaQ rfl rfl e7) fun a E=>lv E ok (qab rfl) fun a E=>wn<|wp_ret<|qap<|qan ?_
  have hret:qaE u m0 S s6 a w:=⟨ok,E.d,⟨rv_t E rfl,trivial⟩,(qaN e7)⟩
  obtain rfl:=sj hF
  exact fin _ _ hret
 replace hF:=qah hc5 hF
 replace E:=E.upd 17 hc5 rfl
 refine lv E ok (qaa rfl) fun a E=>lv E ok (qaa rfl) fun a E=>qas brackets_1 (fun hc8=>?_) (fun hc8=>?_)
 rotate_left
 ·as_aux_lemma =>
   replace hF:=qah hc8 hF
   replace E:=E.upd 19 hc8 rfl
   refine ls E fun a E=>ls E fun a E=>ls E fun a E=>ls E fun a E=>ls E fun a E=>ls E fun a E=>ls E fun a E=>ls E fun a E=>?_
   refine ls E fun a E=>ls E fun a E=>ls E fun a E=>ls E fun a E=>ls E fun a E=>ls E fun a E=>lv E ok (qam rfl rfl) fun a E=>lv E ok (qam rfl rfl) fun a E=>?_
   refine lv E ok (qab rfl) fun a E=>wn<|wp_seq<|wp_block<|sg<|lv E ok (qaa rfl) fun a E=>?_
   refine lv E ok (qab rfl) fun a E=>wn<|c_if E rfl (fun h=>by cases h) (fun _=>?_)
   refine sg<|lv E ok (qaa rfl) fun a E=>lv E ok (qaB rfl rfl) fun a E=>lv E ok (qaa rfl) fun a E=>qas (decide (c_0 < 32)) (fun hc61=>?_) (fun hc61=>?_)
   ·replace hF:=qai hc61 hF
    replace E:=E.upd 44 hc61 rfl
    refine ls E fun a E=>ls E fun a E=>lv E ok (qak rfl rfl) fun a E=>lv E ok (qaa rfl) fun a E=>ls E fun a E=>ls E fun a E=>ls E fun a E=>ls E fun a E=>?_
    refine ls E fun a E=>lv E ok (qak rfl rfl) fun a E=>lv E ok (qab rfl) fun a E=>wn<|c_if E rfl (fun _=>?_) (fun h=>by cases h)
    refine wp_seq<|qbb (by kernel_rfl) (by kernel_rfl) ok<|qv E (qaa rfl) fun a E=>qv E (qaa rfl) fun a E=>?_
    obtain ⟨q62,e63,hF⟩:=bnd hF
    refine qv E (qc1 rfl rfl e63) fun a E=>qv E (qaa rfl) fun a E=>?_
    obtain ⟨q64,e65,hF⟩:=bnd hF
    refine qv E (qc1 rfl rfl e65) fun a E=>qv E (qaL rfl rfl) fun a E=>?_
    obtain ⟨s66,e67,hF⟩:=bnd hF
    refine qv E (qaW Tryz.underlying9 e67 rfl ⟨_,rfl⟩ ⟨_,rfl⟩) fun a E=>?_
    obtain ⟨s68,e69,hF⟩:=bnd hF
    refine qv E (qaQ rfl rfl e69) fun a E=>qv E (qaa rfl) fun a E=>qv E (qaa rfl) fun a E=>qv E (qcr .and (by decide) rfl rfl) fun a E=>qv E (qaa rfl) fun a E=>qv E (qcr .and (by decide) rfl rfl) fun a E=>qv E (qaL rfl rfl) fun a E=>?_
    obtain ⟨s70,e71,hF⟩:=bnd hF
    refine qv E (qaW Tryz.underlying9 e71 rfl ⟨_,rfl⟩ ⟨_,rfl⟩) fun a E=>?_
    obtain ⟨s72,e73,hF⟩:=bnd hF
    refine qv E (qaQ rfl rfl e73) fun a E=>qv E (qab rfl) fun a E=>wpQuiet_nil ?_
    intro w ok
    refine qad<|wp_ret<|qap<|qan ?_
    have hret:qaE u m0 S s72 a w:=⟨ok,E.d,⟨rv_t E rfl,trivial⟩,(qaN e73)⟩
    obtain rfl:=sj hF
    exact fin _ _ hret
   replace hF:=qah hc61 hF
   replace E:=E.upd 44 hc61 rfl
   refine lv E ok (qaa rfl) fun a E=>lv E ok (qb4 rfl rfl) fun a E=>lv E ok (qam rfl rfl) fun a E=>lv E ok (qaa rfl) fun a E=>qas (decide (c_0 > 126)) (fun hc74=>?_) (fun hc74=>?_)
   ·replace hF:=qai hc74 hF
    replace E:=E.upd 48 hc74 rfl
    refine ls E fun a E=>ls E fun a E=>ls E fun a E=>ls E fun a E=>ls E fun a E=>lv E ok (qak rfl rfl) fun a E=>lv E ok (qab rfl) fun a E=>wpList_nil ?_
    refine qad<|c_if E rfl (fun _=>?_) (fun h=>by cases h)
    refine wp_seq<|qbb (by kernel_rfl) (by kernel_rfl) ok<|qv E (qaa rfl) fun a E=>qv E (qaa rfl) fun a E=>?_
    obtain ⟨q75,e76,hF⟩:=bnd hF
    refine qv E (qc1 rfl rfl e76) fun a E=>qv E (qaa rfl) fun a E=>?_
    obtain ⟨q77,e78,hF⟩:=bnd hF
    refine qv E (qc1 rfl rfl e78) fun a E=>qv E (qaL rfl rfl) fun a E=>?_
    obtain ⟨s79,e80,hF⟩:=bnd hF
    refine qv E (qaW Tryz.underlying9 e80 rfl ⟨_,rfl⟩ ⟨_,rfl⟩) fun a E=>?_
    obtain ⟨s81,e82,hF⟩:=bnd hF
    refine qv E (qaQ rfl rfl e82) fun a E=>qv E (qaa rfl) fun a E=>qv E (qaa rfl) fun a E=>qv E (qcr .and (by decide) rfl rfl) fun a E=>qv E (qaa rfl) fun a E=>qv E (qcr .and (by decide) rfl rfl) fun a E=>qv E (qaL rfl rfl) fun a E=>?_
    obtain ⟨s83,e84,hF⟩:=bnd hF
    refine qv E (qaW Tryz.underlying9 e84 rfl ⟨_,rfl⟩ ⟨_,rfl⟩) fun a E=>?_
    obtain ⟨s85,e86,hF⟩:=bnd hF
    refine qv E (qaQ rfl rfl e86) fun a E=>qv E (qab rfl) fun a E=>wpQuiet_nil ?_
    intro w ok
    refine qad<|wp_ret<|qap<|qan ?_
    have hret:qaE u m0 S s85 a w:=⟨ok,E.d,⟨rv_t E rfl,trivial⟩,(qaN e86)⟩
    obtain rfl:=sj hF
    exact fin _ _ hret
   replace hF:=qah hc74 hF
   replace E:=E.upd 48 hc74 rfl
   refine lv E ok (qaa rfl) fun a E=>lv E ok (qaa rfl) fun a E=>qas brackets_1 (fun hc87=>?_) (fun hc87=>?_)
   rotate_left
   ·replace hF:=qah hc87 hF
    replace E:=E.upd 50 hc87 rfl
    refine ls E fun a E=>ls E fun a E=>lv E ok (qam rfl rfl) fun a E=>lv E ok (qam rfl rfl) fun a E=>lv E ok (qab rfl) fun a E=>wn<|c_if E rfl (fun h=>by cases h) (fun _=>?_)
    refine wp_skip<|qar<|qad<|sg<|lv E ok (qaa rfl) fun a E=>lv E ok (qbS Tryz.underlying5 Tryz.underlying9 rfl) fun a E=>lv E ok (qab rfl) fun a E=>?_
    refine wn<|wp_ret ?_
    have hret:qaE u m0 S (qaJ c_0) a w:=⟨ok,E.d,⟨rv_t E rfl,trivial⟩,(qcx _)⟩
    obtain rfl:=sj hF
    exact fin _ _ hret
   replace hF:=qai hc87 hF
   replace E:=E.upd 50 hc87 rfl
   refine lv E ok (qaa rfl) fun a E=>lv E ok (qbn rfl rfl) fun a E=>lv E ok (qak rfl rfl) fun a E=>lv E ok (qam rfl rfl) fun a E=>lv E ok (qab rfl) fun a E=>wn<|c_if E rfl (fun hc88=>?_) (fun hc88=>?_)
   rotate_left
   ·replace hF:=qah hc88 hF
    refine wp_skip<|qar<|qad<|sg<|lv E ok (qaa rfl) fun a E=>lv E ok (qbS Tryz.underlying5 Tryz.underlying9 rfl) fun a E=>lv E ok (qab rfl) fun a E=>?_
    refine wn<|wp_ret ?_
    have hret:qaE u m0 S (qaJ c_0) a w:=⟨ok,E.d,⟨rv_t E rfl,trivial⟩,(qcx _)⟩
    obtain rfl:=sj hF
    exact fin _ _ hret
   replace hF:=qai hc88 hF
   refine wp_seq<|qbb (by kernel_rfl) (by kernel_rfl) ok<|qv E (qaa rfl) fun a E=>qv E (qaa rfl) fun a E=>?_
   obtain ⟨q89,e90,hF⟩:=bnd hF
   refine qv E (qc1 rfl rfl e90) fun a E=>qv E (qaa rfl) fun a E=>?_
   obtain ⟨q91,e92,hF⟩:=bnd hF
   refine qv E (qc1 rfl rfl e92) fun a E=>qv E (qaL rfl rfl) fun a E=>?_
   obtain ⟨s93,e94,hF⟩:=bnd hF
   refine qv E (qaW Tryz.underlying9 e94 rfl ⟨_,rfl⟩ ⟨_,rfl⟩) fun a E=>?_
   obtain ⟨s95,e96,hF⟩:=bnd hF
   refine qv E (qaQ rfl rfl e96) fun a E=>qv E (qaa rfl) fun a E=>qv E (qaa rfl) fun a E=>qv E (qcr .and (by decide) rfl rfl) fun a E=>qv E (qaa rfl) fun a E=>qv E (qcr .and (by decide) rfl rfl) fun a E=>qv E (qaL rfl rfl) fun a E=>?_
   obtain ⟨s97,e98,hF⟩:=bnd hF
   refine qv E (qaW Tryz.underlying9 e98 rfl ⟨_,rfl⟩ ⟨_,rfl⟩) fun a E=>?_
   obtain ⟨s99,e100,hF⟩:=bnd hF
   refine qv E (qaQ rfl rfl e100) fun a E=>qv E (qab rfl) fun a E=>wpQuiet_nil ?_
   intro w ok
   refine qad<|wp_ret<|qap<|qan ?_
   have hret:qaE u m0 S s99 a w:=⟨ok,E.d,⟨rv_t E rfl,trivial⟩,(qaN e100)⟩
   obtain rfl:=sj hF
   exact fin _ _ hret
 replace hF:=qai hc8 hF
 replace E:=E.upd 19 hc8 rfl
 refine lv E ok (qaa rfl) fun a E=>lv E ok (qbn rfl rfl) fun a E=>lv E ok (qaa rfl) fun a E=>qas (c_0 == 91) (fun hc9=>?_) (fun hc9=>?_)
 ·replace hF:=qai hc9 hF
  replace E:=E.upd 22 hc9 rfl
  refine ls E fun a E=>ls E fun a E=>lv E ok (qak rfl rfl) fun a E=>lv E ok (qaa rfl) fun a E=>ls E fun a E=>ls E fun a E=>lv E ok (qak rfl rfl) fun a E=>lv E ok (qaa rfl) fun a E=>?_
  refine ls E fun a E=>ls E fun a E=>lv E ok (qak rfl rfl) fun a E=>lv E ok (qak rfl rfl) fun a E=>lv E ok (qam rfl rfl) fun a E=>lv E ok (qab rfl) fun a E=>wn ?_
  refine wp_seq<|wp_block<|sg<|lv E ok (qaa rfl) fun a E=>lv E ok (qab rfl) fun a E=>wn ?_
  refine c_if E rfl (fun _=>?_) (fun h=>by cases h)
  refine sg<|lv E ok (qaa rfl) fun a E=>lv E ok (qbS Tryz.underlying5 Tryz.underlying9 rfl) fun a E=>?_
  obtain ⟨s10,e11,hF⟩:=bnd hF
  refine lv E ok (qaQ rfl rfl e11) fun a E=>lv E ok (qab rfl) fun a E=>wn<|wp_ret<|qap<|qan ?_
  have hret:qaE u m0 S s10 a w:=⟨ok,E.d,⟨rv_t E rfl,trivial⟩,(qaN e11)⟩
  obtain rfl:=sj hF
  exact fin _ _ hret
 replace hF:=qah hc9 hF
 replace E:=E.upd 22 hc9 rfl
 refine lv E ok (qaa rfl) fun a E=>lv E ok (qbn rfl rfl) fun a E=>lv E ok (qam rfl rfl) fun a E=>lv E ok (qaa rfl) fun a E=>qas (c_0 == 93) (fun hc12=>?_) (fun hc12=>?_)
 ·replace hF:=qai hc12 hF
  replace E:=E.upd 26 hc12 rfl
  refine ls E fun a E=>ls E fun a E=>lv E ok (qak rfl rfl) fun a E=>lv E ok (qaa rfl) fun a E=>ls E fun a E=>ls E fun a E=>lv E ok (qak rfl rfl) fun a E=>lv E ok (qak rfl rfl) fun a E=>?_
  refine lv E ok (qam rfl rfl) fun a E=>lv E ok (qab rfl) fun a E=>wn<|wp_seq<|wp_block<|sg ?_
  refine lv E ok (qaa rfl) fun a E=>lv E ok (qab rfl) fun a E=>wn<|c_if E rfl (fun _=>?_) (fun h=>by cases h)
  refine sg<|lv E ok (qaa rfl) fun a E=>lv E ok (qbS Tryz.underlying5 Tryz.underlying9 rfl) fun a E=>?_
  obtain ⟨s13,e14,hF⟩:=bnd hF
  refine lv E ok (qaQ rfl rfl e14) fun a E=>lv E ok (qab rfl) fun a E=>wn<|wp_ret<|qap<|qan ?_
  have hret:qaE u m0 S s13 a w:=⟨ok,E.d,⟨rv_t E rfl,trivial⟩,(qaN e14)⟩
  obtain rfl:=sj hF
  exact fin _ _ hret
 replace hF:=qah hc12 hF
 replace E:=E.upd 26 hc12 rfl
 refine lv E ok (qaa rfl) fun a E=>lv E ok (qbn rfl rfl) fun a E=>lv E ok (qam rfl rfl) fun a E=>lv E ok (qaa rfl) fun a E=>qas (c_0 == 94) (fun hc15=>?_) (fun hc15=>?_)
 ·replace hF:=qai hc15 hF
  replace E:=E.upd 30 hc15 rfl
  refine ls E fun a E=>ls E fun a E=>lv E ok (qak rfl rfl) fun a E=>lv E ok (qak rfl rfl) fun a E=>lv E ok (qam rfl rfl) fun a E=>lv E ok (qab rfl) fun a E=>wn ?_
  refine wp_seq<|wp_block<|sg<|lv E ok (qaa rfl) fun a E=>lv E ok (qab rfl) fun a E=>wn ?_
  refine c_if E rfl (fun _=>?_) (fun h=>by cases h)
  refine sg<|lv E ok (qaa rfl) fun a E=>lv E ok (qbS Tryz.underlying5 Tryz.underlying9 rfl) fun a E=>?_
  obtain ⟨s16,e17,hF⟩:=bnd hF
  refine lv E ok (qaQ rfl rfl e17) fun a E=>lv E ok (qab rfl) fun a E=>wn<|wp_ret<|qap<|qan ?_
  have hret:qaE u m0 S s16 a w:=⟨ok,E.d,⟨rv_t E rfl,trivial⟩,(qaN e17)⟩
  obtain rfl:=sj hF
  exact fin _ _ hret
 replace hF:=qah hc15 hF
 replace E:=E.upd 30 hc15 rfl
 refine lv E ok (qaa rfl) fun a E=>lv E ok (qbn rfl rfl) fun a E=>lv E ok (qam rfl rfl) fun a E=>lv E ok (qak rfl rfl) fun a E=>lv E ok (qam rfl rfl) fun a E=>lv E ok (qab rfl) fun a E=>wn ?_
 refine wp_seq<|wp_block<|sg<|lv E ok (qaa rfl) fun a E=>lv E ok (qab rfl) fun a E=>wn ?_
 refine c_if E rfl (fun hc18=>?_) (fun hc18=>?_)
 ·replace hF:=qai hc18 hF
  refine sg<|lv E ok (qaa rfl) fun a E=>lv E ok (qbS Tryz.underlying5 Tryz.underlying9 rfl) fun a E=>?_
  obtain ⟨s19,e20,hF⟩:=bnd hF
  refine lv E ok (qaQ rfl rfl e20) fun a E=>lv E ok (qab rfl) fun a E=>wn<|wp_ret<|qap<|qan ?_
  have hret:qaE u m0 S s19 a w:=⟨ok,E.d,⟨rv_t E rfl,trivial⟩,(qaN e20)⟩
  obtain rfl:=sj hF
  exact fin _ _ hret
 replace hF:=qah hc18 hF
 refine sg<|lv E ok (qaa rfl) fun a E=>lv E ok (qaB rfl rfl) fun a E=>lv E ok (qaa rfl) fun a E=>qas (decide (c_0 < 32)) (fun hc21=>?_) (fun hc21=>?_)
 ·replace hF:=qai hc21 hF
  replace E:=E.upd 44 hc21 rfl
  refine ls E fun a E=>ls E fun a E=>lv E ok (qak rfl rfl) fun a E=>lv E ok (qaa rfl) fun a E=>ls E fun a E=>ls E fun a E=>ls E fun a E=>ls E fun a E=>?_
  refine ls E fun a E=>lv E ok (qak rfl rfl) fun a E=>lv E ok (qab rfl) fun a E=>wn<|c_if E rfl (fun _=>?_) (fun h=>by cases h)
  refine wp_seq<|qbb (by kernel_rfl) (by kernel_rfl) ok<|qv E (qaa rfl) fun a E=>qv E (qaa rfl) fun a E=>?_
  obtain ⟨q22,e23,hF⟩:=bnd hF
  refine qv E (qc1 rfl rfl e23) fun a E=>qv E (qaa rfl) fun a E=>?_
  obtain ⟨q24,e25,hF⟩:=bnd hF
  refine qv E (qc1 rfl rfl e25) fun a E=>qv E (qaL rfl rfl) fun a E=>?_
  obtain ⟨s26,e27,hF⟩:=bnd hF
  refine qv E (qaW Tryz.underlying9 e27 rfl ⟨_,rfl⟩ ⟨_,rfl⟩) fun a E=>?_
  obtain ⟨s28,e29,hF⟩:=bnd hF
  refine qv E (qaQ rfl rfl e29) fun a E=>qv E (qaa rfl) fun a E=>qv E (qaa rfl) fun a E=>qv E (qcr .and (by decide) rfl rfl) fun a E=>qv E (qaa rfl) fun a E=>qv E (qcr .and (by decide) rfl rfl) fun a E=>qv E (qaL rfl rfl) fun a E=>?_
  obtain ⟨s30,e31,hF⟩:=bnd hF
  refine qv E (qaW Tryz.underlying9 e31 rfl ⟨_,rfl⟩ ⟨_,rfl⟩) fun a E=>?_
  obtain ⟨s32,e33,hF⟩:=bnd hF
  refine qv E (qaQ rfl rfl e33) fun a E=>qv E (qab rfl) fun a E=>wpQuiet_nil ?_
  intro w ok
  refine qad<|wp_ret<|qap<|qan ?_
  have hret:qaE u m0 S s32 a w:=⟨ok,E.d,⟨rv_t E rfl,trivial⟩,(qaN e33)⟩
  obtain rfl:=sj hF
  exact fin _ _ hret
 replace hF:=qah hc21 hF
 replace E:=E.upd 44 hc21 rfl
 refine lv E ok (qaa rfl) fun a E=>lv E ok (qb4 rfl rfl) fun a E=>lv E ok (qam rfl rfl) fun a E=>lv E ok (qaa rfl) fun a E=>qas (decide (c_0 > 126)) (fun hc34=>?_) (fun hc34=>?_)
 ·replace hF:=qai hc34 hF
  replace E:=E.upd 48 hc34 rfl
  refine ls E fun a E=>ls E fun a E=>ls E fun a E=>ls E fun a E=>ls E fun a E=>lv E ok (qak rfl rfl) fun a E=>lv E ok (qab rfl) fun a E=>wpList_nil ?_
  refine qad<|c_if E rfl (fun _=>?_) (fun h=>by cases h)
  refine wp_seq<|qbb (by kernel_rfl) (by kernel_rfl) ok<|qv E (qaa rfl) fun a E=>qv E (qaa rfl) fun a E=>?_
  obtain ⟨q35,e36,hF⟩:=bnd hF
  refine qv E (qc1 rfl rfl e36) fun a E=>qv E (qaa rfl) fun a E=>?_
  obtain ⟨q37,e38,hF⟩:=bnd hF
  refine qv E (qc1 rfl rfl e38) fun a E=>qv E (qaL rfl rfl) fun a E=>?_
  obtain ⟨s39,e40,hF⟩:=bnd hF
  refine qv E (qaW Tryz.underlying9 e40 rfl ⟨_,rfl⟩ ⟨_,rfl⟩) fun a E=>?_
  obtain ⟨s41,e42,hF⟩:=bnd hF
  refine qv E (qaQ rfl rfl e42) fun a E=>qv E (qaa rfl) fun a E=>qv E (qaa rfl) fun a E=>qv E (qcr .and (by decide) rfl rfl) fun a E=>qv E (qaa rfl) fun a E=>qv E (qcr .and (by decide) rfl rfl) fun a E=>qv E (qaL rfl rfl) fun a E=>?_
  obtain ⟨s43,e44,hF⟩:=bnd hF
  refine qv E (qaW Tryz.underlying9 e44 rfl ⟨_,rfl⟩ ⟨_,rfl⟩) fun a E=>?_
  obtain ⟨s45,e46,hF⟩:=bnd hF
  refine qv E (qaQ rfl rfl e46) fun a E=>qv E (qab rfl) fun a E=>wpQuiet_nil ?_
  intro w ok
  refine qad<|wp_ret<|qap<|qan ?_
  have hret:qaE u m0 S s45 a w:=⟨ok,E.d,⟨rv_t E rfl,trivial⟩,(qaN e46)⟩
  obtain rfl:=sj hF
  exact fin _ _ hret
 replace hF:=qah hc34 hF
 replace E:=E.upd 48 hc34 rfl
 refine lv E ok (qaa rfl) fun a E=>lv E ok (qaa rfl) fun a E=>qas brackets_1 (fun hc47=>?_) (fun hc47=>?_)
 rotate_left
 ·replace hF:=qah hc47 hF
  replace E:=E.upd 50 hc47 rfl
  refine ls E fun a E=>ls E fun a E=>lv E ok (qam rfl rfl) fun a E=>lv E ok (qam rfl rfl) fun a E=>lv E ok (qab rfl) fun a E=>wn<|c_if E rfl (fun h=>by cases h) (fun _=>?_)
  refine wp_skip<|qar<|qad<|sg<|lv E ok (qaa rfl) fun a E=>lv E ok (qbS Tryz.underlying5 Tryz.underlying9 rfl) fun a E=>lv E ok (qab rfl) fun a E=>?_
  refine wn<|wp_ret ?_
  have hret:qaE u m0 S (qaJ c_0) a w:=⟨ok,E.d,⟨rv_t E rfl,trivial⟩,(qcx _)⟩
  obtain rfl:=sj hF
  exact fin _ _ hret
 replace hF:=qai hc47 hF
 replace E:=E.upd 50 hc47 rfl
 refine lv E ok (qaa rfl) fun a E=>lv E ok (qbn rfl rfl) fun a E=>lv E ok (qak rfl rfl) fun a E=>lv E ok (qam rfl rfl) fun a E=>lv E ok (qab rfl) fun a E=>wn<|c_if E rfl (fun hc48=>?_) (fun hc48=>?_)
 rotate_left
 ·replace hF:=qah hc48 hF
  refine wp_skip<|qar<|qad<|sg<|lv E ok (qaa rfl) fun a E=>lv E ok (qbS Tryz.underlying5 Tryz.underlying9 rfl) fun a E=>lv E ok (qab rfl) fun a E=>?_
  refine wn<|wp_ret ?_
  have hret:qaE u m0 S (qaJ c_0) a w:=⟨ok,E.d,⟨rv_t E rfl,trivial⟩,(qcx _)⟩
  obtain rfl:=sj hF
  exact fin _ _ hret
 replace hF:=qai hc48 hF
 refine wp_seq<|qbb (by kernel_rfl) (by kernel_rfl) ok<|qv E (qaa rfl) fun a E=>qv E (qaa rfl) fun a E=>?_
 obtain ⟨q49,e50,hF⟩:=bnd hF
 refine qv E (qc1 rfl rfl e50) fun a E=>qv E (qaa rfl) fun a E=>?_
 obtain ⟨q51,e52,hF⟩:=bnd hF
 refine qv E (qc1 rfl rfl e52) fun a E=>qv E (qaL rfl rfl) fun a E=>?_
 obtain ⟨s53,e54,hF⟩:=bnd hF
 refine qv E (qaW Tryz.underlying9 e54 rfl ⟨_,rfl⟩ ⟨_,rfl⟩) fun a E=>?_
 obtain ⟨s55,e56,hF⟩:=bnd hF
 refine qv E (qaQ rfl rfl e56) fun a E=>qv E (qaa rfl) fun a E=>qv E (qaa rfl) fun a E=>qv E (qcr .and (by decide) rfl rfl) fun a E=>qv E (qaa rfl) fun a E=>qv E (qcr .and (by decide) rfl rfl) fun a E=>qv E (qaL rfl rfl) fun a E=>?_
 obtain ⟨s57,e58,hF⟩:=bnd hF
 refine qv E (qaW Tryz.underlying9 e58 rfl ⟨_,rfl⟩ ⟨_,rfl⟩) fun a E=>?_
 obtain ⟨s59,e60,hF⟩:=bnd hF
 refine qv E (qaQ rfl rfl e60) fun a E=>qv E (qab rfl) fun a E=>wpQuiet_nil ?_
 intro w ok
 refine qad<|wp_ret<|qap<|qan ?_
 have hret:qaE u m0 S s59 a w:=⟨ok,E.d,⟨rv_t E rfl,trivial⟩,(qaN e60)⟩
 obtain rfl:=sj hF
 exact fin _ _ hret
def qch (u:World) (m0:Mem) (S:Segs) (r:(List UInt8)) (a:Act) (w:World):Prop :=
 Ok u m0 S w ∧ a.defers = [] ∧ RVs Tryz.prog a w [.t 2 (.string (bs r))] ∧ r.length ≤ LIMS
set_option maxHeartbeats 4000000 in
set_option maxRecDepth 100000 in
theorem qjD {u:World} {m0:Mem} {S:Segs} {w:World} (N:Nat) (vx_0:List Value) (x_0:Item) (hx_0:qbJ m0 vx_0 x_0) {r:(List UInt8)} (hF:qgh N x_0 = some r) (hG:Glob u) (ok:Ok u m0 S w) :
  Calls Tryz.prog 90 [.agg vx_0.toArray].toArray w fun e w'=>(e = .returned (.string (bs r)) ∧ Ok u m0 S w') ∧ r.length ≤ LIMS:=by
 obtain ⟨c2,rfl,l1,h3,r4,r5⟩:=hx_0
 have hb0:=ok.base
 have le_m0:=Mem.le.refl m0
 unfold qgh at hF
 have fin:∀ a w,qch u m0 S r a w → bodyPost Tryz.prog Tryz.f90 (fun e w'=>(e = .returned (.string (bs r)) ∧ Ok u m0 S w') ∧ r.length ≤ LIMS) .ret a w:=by
  intro a w h
  obtain ⟨ok,hd,hrv,h0⟩:=h
  exact qaK [.t 2 (.string (bs r))] hd rfl hrv ⟨⟨rfl,ok⟩,h0⟩
 refine enter Tryz.func90 rfl rfl rfl fun a E=>sg<|qdF E ok rfl rfl rfl fun b6 a w E ok=>lv E ok (qab rfl) fun a E=>wn<|wp_seq ?_
 refine qae<|lv E ok (qab rfl) fun a E=>wn<|wp_seq<|sg<|lv E ok (qac qfG rfl) fun a E=>?_
 refine lv E ok (qaj qav rfl (qaf.own 0 rfl rfl)) fun a E=>lv E ok (qbQ rfl rfl) fun a E=>wn ?_
 obtain ⟨o7,hJ,hF⟩:=bnd hF
 refine qbx (Q':=fun e a w=>e = .normal ∧ Ok u m0 ([(b6,Obj.cells [(Value.string (bs x_0.Text)),c2,(Value.bool x_0.Not),(Value.int .i64 x_0.Least),(Value.int .i64 x_0.Most)].toArray 138 (0,0))] :: S) w ∧ Env 94 a [(1,(Value.pointer (some ⟨b6,0,none⟩))),(3,(Value.string (bs o7)))] ∧ o7.length ≤ LIMS) ?_ ?_
 rotate_left
 ·as_aux_lemma =>
   clear hJ
   intro e a w hO
   obtain ⟨rfl,ok,E,l108⟩:=hO
   refine qad<|wp_seq<|wp_block<|sg<|lv E ok (qac qdI rfl) fun a E=>lv E ok (qaj qa0 rfl (qaf.own 0 rfl rfl)) fun a E=>lv E ok (qbn rfl rfl) fun a E=>?_
   refine lv E ok (qaa rfl) fun a E=>qas (x_0.Least == 0) (fun hc109=>?_) (fun hc109=>?_)
   rotate_left
   ·as_aux_lemma =>
     replace hF:=qah hc109 hF
     replace E:=E.upd 74 hc109 rfl
     refine ls E fun a E=>ls E fun a E=>ls E fun a E=>lv E ok (qam rfl rfl) fun a E=>lv E ok (qab rfl) fun a E=>wn<|c_if E rfl (fun h=>by cases h) (fun _=>?_)
     refine sg<|lv E ok (qac qdI rfl) fun a E=>lv E ok (qaj qa0 rfl (qaf.own 0 rfl rfl)) fun a E=>lv E ok (qbn rfl rfl) fun a E=>lv E ok (qab rfl) fun a E=>wn ?_
     refine c_if E rfl (fun hc119=>?_) (fun hc119=>?_)
     ·replace hF:=qai hc119 hF
      refine qae<|lv E ok (qaa rfl) fun a E=>?_
      obtain ⟨s120,e121,hF⟩:=bnd hF
      refine lv E ok (qaQ rfl rfl e121) fun a E=>lv E ok (qab rfl) fun a E=>wpList_nil<|qar<|qad<|sg<|lv E ok (qaa rfl) fun a E=>?_
      refine lv E ok (qab rfl) fun a E=>wn<|wp_ret ?_
      have hret:qch u m0 S s120 a w:=⟨ok.drop,E.d,⟨rv_t E rfl,trivial⟩,(qaN e121)⟩
      obtain rfl:=sj hF
      exact fin _ _ hret
     replace hF:=qah hc119 hF
     refine sg<|lv E ok (qac qdJ rfl) fun a E=>lv E ok (qaj qa0 rfl (qaf.own 0 rfl rfl)) fun a E=>lv E ok (qdm rfl rfl) fun a E=>lv E ok (qab rfl) fun a E=>wn ?_
     refine c_if E rfl (fun hc122=>?_) (fun hc122=>?_)
     rotate_left
     ·replace hF:=qah hc122 hF
      refine wp_skip<|qar<|qad<|sg<|lv E ok (qaa rfl) fun a E=>lv E ok (qab rfl) fun a E=>wpList_nil ?_
      refine qad<|wp_ret ?_
      have hret:qch u m0 S o7 a w:=⟨ok.drop,E.d,⟨rv_t E rfl,trivial⟩,l108⟩
      obtain rfl:=sj hF
      exact fin _ _ hret
     replace hF:=qai hc122 hF
     refine qae<|lv E ok (qaa rfl) fun a E=>?_
     obtain ⟨s123,e124,hF⟩:=bnd hF
     refine lv E ok (qaQ rfl rfl e124) fun a E=>lv E ok (qab rfl) fun a E=>wpList_nil<|qar<|qad<|sg<|lv E ok (qaa rfl) fun a E=>?_
     refine lv E ok (qab rfl) fun a E=>wn<|wp_ret ?_
     have hret:qch u m0 S s123 a w:=⟨ok.drop,E.d,⟨rv_t E rfl,trivial⟩,(qaN e124)⟩
     obtain rfl:=sj hF
     exact fin _ _ hret
   replace hF:=qai hc109 hF
   replace E:=E.upd 74 hc109 rfl
   refine lv E ok (qac qdJ rfl) fun a E=>lv E ok (qaj qa0 rfl (qaf.own 0 rfl rfl)) fun a E=>lv E ok (qbn rfl rfl) fun a E=>lv E ok (qak rfl rfl) fun a E=>lv E ok (qab rfl) fun a E=>wn<|c_if E rfl (fun hc110=>?_) (fun hc110=>?_)
   ·replace hF:=qai hc110 hF
    refine qae<|lv E ok (qaa rfl) fun a E=>?_
    obtain ⟨s111,e112,hF⟩:=bnd hF
    refine lv E ok (qaQ rfl rfl e112) fun a E=>lv E ok (qab rfl) fun a E=>wpList_nil<|qar<|qad<|sg<|lv E ok (qaa rfl) fun a E=>?_
    refine lv E ok (qab rfl) fun a E=>wn<|wp_ret ?_
    have hret:qch u m0 S s111 a w:=⟨ok.drop,E.d,⟨rv_t E rfl,trivial⟩,(qaN e112)⟩
    obtain rfl:=sj hF
    exact fin _ _ hret
   replace hF:=qah hc110 hF
   refine sg<|lv E ok (qac qdI rfl) fun a E=>lv E ok (qaj qa0 rfl (qaf.own 0 rfl rfl)) fun a E=>lv E ok (qbn rfl rfl) fun a E=>lv E ok (qab rfl) fun a E=>wn ?_
   refine c_if E rfl (fun hc113=>?_) (fun hc113=>?_)
   ·replace hF:=qai hc113 hF
    refine qae<|lv E ok (qaa rfl) fun a E=>?_
    obtain ⟨s114,e115,hF⟩:=bnd hF
    refine lv E ok (qaQ rfl rfl e115) fun a E=>lv E ok (qab rfl) fun a E=>wpList_nil<|qar<|qad<|sg<|lv E ok (qaa rfl) fun a E=>?_
    refine lv E ok (qab rfl) fun a E=>wn<|wp_ret ?_
    have hret:qch u m0 S s114 a w:=⟨ok.drop,E.d,⟨rv_t E rfl,trivial⟩,(qaN e115)⟩
    obtain rfl:=sj hF
    exact fin _ _ hret
   replace hF:=qah hc113 hF
   refine sg<|lv E ok (qac qdJ rfl) fun a E=>lv E ok (qaj qa0 rfl (qaf.own 0 rfl rfl)) fun a E=>lv E ok (qdm rfl rfl) fun a E=>lv E ok (qab rfl) fun a E=>wn ?_
   refine c_if E rfl (fun hc116=>?_) (fun hc116=>?_)
   rotate_left
   ·replace hF:=qah hc116 hF
    refine wp_skip<|qar<|qad<|sg<|lv E ok (qaa rfl) fun a E=>lv E ok (qab rfl) fun a E=>wpList_nil ?_
    refine qad<|wp_ret ?_
    have hret:qch u m0 S o7 a w:=⟨ok.drop,E.d,⟨rv_t E rfl,trivial⟩,l108⟩
    obtain rfl:=sj hF
    exact fin _ _ hret
   replace hF:=qai hc116 hF
   refine qae<|lv E ok (qaa rfl) fun a E=>?_
   obtain ⟨s117,e118,hF⟩:=bnd hF
   refine lv E ok (qaQ rfl rfl e118) fun a E=>lv E ok (qab rfl) fun a E=>wpList_nil<|qar<|qad<|sg<|lv E ok (qaa rfl) fun a E=>?_
   refine lv E ok (qab rfl) fun a E=>wn<|wp_ret ?_
   have hret:qch u m0 S s117 a w:=⟨ok.drop,E.d,⟨rv_t E rfl,trivial⟩,(qaN e118)⟩
   obtain rfl:=sj hF
   exact fin _ _ hret
 replace hF:=hJ
 clear hJ
 refine c_if E rfl (fun hc9=>?_) (fun hc9=>?_)
 ·replace hF:=qai hc9 hF
  refine sg<|lv E ok (qab rfl) fun a E=>wn<|wp_seq<|sg ?_
  refine lv E ok (qab rfl) fun a E=>wn<|wp_block ?_
  obtain ⟨o12,hL,hF⟩:=bnd hF
  refine qaR _ (fun (s:(List UInt8) × Int) a w=>Ok u m0 ([(b6,Obj.cells [(Value.string (bs x_0.Text)),c2,(Value.bool x_0.Not),(Value.int .i64 x_0.Least),(Value.int .i64 x_0.Most)].toArray 138 (0,0))] :: S) w ∧ Env 94 a [(1,(Value.pointer (some ⟨b6,0,none⟩))),(3,(Value.string (bs s.1))),(4,(Value.int .i64 s.2))] ∧ s.1.length ≤ LIMS ∧ InR .i64 s.2) (fun (b:((List UInt8))) e a w=>e = (.exit 0) ∧ Ok u m0 ([(b6,Obj.cells [(Value.string (bs x_0.Text)),c2,(Value.bool x_0.Not),(Value.int .i64 x_0.Least),(Value.int .i64 x_0.Most)].toArray 138 (0,0))] :: S) w ∧ Env 94 a [(1,(Value.pointer (some ⟨b6,0,none⟩))),(3,(Value.string (bs b)))] ∧ b.length ≤ LIMS) ?_ ?_ N _ a w hL ⟨ok,E.keep [1,3,4],(show ([34]:List UInt8).length ≤ LIMS by decide),(show InR .i64 (0) by decide)⟩
  rotate_left
  ·intro e a w _ hO
   obtain ⟨rfl,ok,E,l27⟩:=hO
   refine qaT<|qad<|qae<|lv E ok (qaa rfl) fun a E=>?_
   obtain ⟨s28,e29,hF⟩:=bnd hF
   refine lv E ok (qaQ rfl rfl e29) fun a E=>lv E ok (qab rfl) fun a E=>wpList_nil ?_
   obtain rfl:=sj hF
   exact ⟨rfl,⟨ok,E.keep [1,3],(qaN e29)⟩⟩
  rintro ⟨s_15,i_16⟩ a w r ⟨ok,E,l17,r18⟩ hF
  replace hF:qfq N x_0 s_15 i_16 = some r:=hF
  unfold qfq at hF
  refine wp_seq<|sg<|lv E ok (qaa rfl) fun a E=>lv E ok (qac qfG rfl) fun a E=>lv E ok (qaj qav rfl (qaf.own 0 rfl rfl)) fun a E=>lv E ok (qaX Tryz.underlying9 rfl) fun a E=>lv E ok (qaB rfl rfl) fun a E=>?_
  refine wn<|c_if E rfl (fun hc19=>?_) (fun hc19=>?_)
  rotate_left
  ·replace hF:=qah hc19 hF
   refine wp_exit<|qaD ?_
   obtain rfl:=sj hF
   exact qaq (by nofun) (⟨rfl,⟨ok,E.keep [1,3],l17⟩⟩)
  replace hF:=qai hc19 hF
  refine wp_skip<|qad<|wp_seq<|wp_block<|qae<|lv E ok (qaa rfl) fun a E=>lv E ok (qac qfG rfl) fun a E=>lv E ok (qaj qav rfl (qaf.own 0 rfl rfl)) fun a E=>?_
  refine lv E ok (qaa rfl) fun a E=>?_
  obtain ⟨c20,e21,hF⟩:=bnd hF
  refine lv E ok (qa3 Tryz.underlying9 rfl rfl e21) fun a E=>?_
  obtain ⟨r22,e23,hF⟩:=bnd hF
  refine qaw E qlN rfl (qf5 N (c20.toNat:Int) (InR.byte c20) false e23 hG ok) rfl rfl ?_
  rintro _ w ⟨⟨rfl,ok⟩,l24⟩
  refine ⟨_,rfl,fun a E=>?_⟩
  obtain ⟨s25,e26,hF⟩:=bnd hF
  refine lv E ok (qaQ rfl rfl e26) fun a E=>lv E ok (qab rfl) fun a E=>wpList_nil<|qar<|qad<|qae<|lv E ok (qaa rfl) fun a E=>lv E ok (qaC rfl rfl (InR.inc r18 (InR.len l1) hc19)) fun a E=>?_
  refine lv E ok (qab rfl) fun a E=>wpList_nil ?_
  obtain rfl:=sj hF
  exact qay ⟨ok,E.keep [1,3,4],(qaN e26),(InR.inc r18 (InR.len l1) hc19)⟩
 replace hF:=qah hc9 hF
 refine sg<|lv E ok (qab rfl) fun a E=>wn<|wp_seq<|sg ?_
 refine lv E ok (qac qh1 rfl) fun a E=>lv E ok (qaj qgz rfl (qaf.own 0 rfl rfl)) fun a E=>wn ?_
 obtain ⟨o31,hJ,hF⟩:=bnd hF
 refine qbx (Q':=fun e a w=>e = .normal ∧ Ok u m0 ([(b6,Obj.cells [(Value.string (bs x_0.Text)),c2,(Value.bool x_0.Not),(Value.int .i64 x_0.Least),(Value.int .i64 x_0.Most)].toArray 138 (0,0))] :: S) w ∧ Env 94 a [(1,(Value.pointer (some ⟨b6,0,none⟩))),(3,(Value.string (bs o31)))] ∧ o31.length ≤ LIMS) ?_ ?_
 ·replace hF:=hJ
  clear hJ
  refine c_if E rfl (fun hc33=>?_) (fun hc33=>?_)
  rotate_left
  ·replace hF:=qah hc33 hF
   refine wp_skip ?_
   obtain rfl:=sj hF
   exact ⟨rfl,⟨ok,E.keep [1,3],(show ([91]:List UInt8).length ≤ LIMS by decide)⟩⟩
  replace hF:=qai hc33 hF
  refine qae<|lv E ok (qaa rfl) fun a E=>?_
  obtain ⟨s34,e35,hF⟩:=bnd hF
  refine lv E ok (qaQ rfl rfl e35) fun a E=>lv E ok (qab rfl) fun a E=>wpList_nil ?_
  obtain rfl:=sj hF
  exact ⟨rfl,⟨ok,E.keep [1,3],(qaN e35)⟩⟩
 clear hJ
 intro e a w hO
 obtain ⟨rfl,ok,E,l36⟩:=hO
 refine qad<|wp_seq<|sg<|lv E ok (qab rfl) fun a E=>wn<|wp_block ?_
 obtain ⟨o39,hL,hF⟩:=bnd hF
 refine qaR _ (fun (s:(List UInt8) × Int) a w=>Ok u m0 ([(b6,Obj.cells [(Value.string (bs x_0.Text)),c2,(Value.bool x_0.Not),(Value.int .i64 x_0.Least),(Value.int .i64 x_0.Most)].toArray 138 (0,0))] :: S) w ∧ Env 94 a [(1,(Value.pointer (some ⟨b6,0,none⟩))),(3,(Value.string (bs s.1))),(5,(Value.int .i64 s.2))] ∧ s.1.length ≤ LIMS ∧ InR .i64 s.2) (fun (b:((List UInt8))) e a w=>e = (.exit 2) ∧ Ok u m0 ([(b6,Obj.cells [(Value.string (bs x_0.Text)),c2,(Value.bool x_0.Not),(Value.int .i64 x_0.Least),(Value.int .i64 x_0.Most)].toArray 138 (0,0))] :: S) w ∧ Env 94 a [(1,(Value.pointer (some ⟨b6,0,none⟩))),(3,(Value.string (bs b)))] ∧ b.length ≤ LIMS) ?_ ?_ N _ a w hL ⟨ok,E.keep [1,3,5],l36,(show InR .i64 (0) by decide)⟩
 rotate_left
 ·intro e a w _ hO
  obtain ⟨rfl,ok,E,l104⟩:=hO
  refine qaT<|qad<|qae<|lv E ok (qaa rfl) fun a E=>?_
  obtain ⟨s105,e106,hF⟩:=bnd hF
  refine lv E ok (qaQ rfl rfl e106) fun a E=>lv E ok (qab rfl) fun a E=>wpList_nil ?_
  obtain rfl:=sj hF
  exact ⟨rfl,⟨ok,E.keep [1,3],(qaN e106)⟩⟩
 rintro ⟨s_42,i_43⟩ a w r ⟨ok,E,l44,r45⟩ hF
 replace hF:qfu N x_0 s_42 i_43 = some r:=hF
 unfold qfu at hF
 refine wp_seq<|sg<|lv E ok (qaa rfl) fun a E=>lv E ok (qac qbp rfl) fun a E=>lv E ok (qaj qb2 rfl (qaf.own 0 rfl rfl)) fun a E=>lv E ok (qaG qbR h3 rfl) fun a E=>lv E ok (qaB rfl rfl) fun a E=>?_
 refine wn<|c_if E rfl (fun hc46=>?_) (fun hc46=>?_)
 rotate_left
 ·replace hF:=qah hc46 hF
  refine wp_exit<|qaD ?_
  obtain rfl:=sj hF
  exact qaq (by nofun) (⟨rfl,⟨ok,E.keep [1,3],l44⟩⟩)
 replace hF:=qai hc46 hF
 refine wp_skip<|qad<|wp_seq<|wp_block<|sg<|lv E ok (qaa rfl) fun a E=>lv E ok (qac qbp rfl) fun a E=>?_
 refine lv E ok (qaj qb2 rfl (qaf.own 0 rfl rfl)) fun a E=>lv E ok (qaa rfl) fun a E=>?_
 obtain ⟨x47,e48,hF⟩:=bnd hF
 obtain ⟨b49,o50,es51,hl52,rr53,at54,yy55⟩:=qaI qbR h3 e48 (P:=Tryz.prog) (X:=.tmp 38) (I:=.tmp 39) (kd:=.i64) (qao E rfl) (qao E rfl)
 obtain ⟨rfl,r56,r57⟩:=rr53
 refine lv E ok (yy55 _ _) fun a E=>lv E ok (qac qi0 rfl) fun a E=>lv E ok (qaj qex rfl (qaf.ro (At.sub 0 1 at54))) fun a E=>?_
 obtain ⟨r58,e59,hF⟩:=bnd hF
 refine qaw E qlN rfl (qf5 N x47.From r56 true e59 hG ok) rfl rfl ?_
 rintro _ w ⟨⟨rfl,ok⟩,l60⟩
 refine ⟨_,rfl,fun a E=>?_⟩
 obtain ⟨s61,e62,hF⟩:=bnd hF
 refine lv E ok (qaQ rfl rfl e62) fun a E=>lv E ok (qab rfl) fun a E=>wn<|wp_seq<|qbb (by kernel_rfl) (by kernel_rfl) ok<|qv E (qac qbp rfl) fun a E=>qv E (qaj qb2 rfl (qaf.own 0 rfl rfl)) fun a E=>?_
 refine qv E (qaa rfl) fun a E=>?_
 obtain ⟨x63,e64,hF⟩:=bnd hF
 obtain ⟨b65,o66,es67,hl68,rr69,at70,yy71⟩:=qaI qbR h3 e64 (P:=Tryz.prog) (X:=.tmp 46) (I:=.tmp 47) (kd:=.i64) (qao E rfl) (qao E rfl)
 obtain ⟨rfl,r72,r73⟩:=rr69
 refine qv E (yy71 _ _) fun a E=>qv E (qac qiU rfl) fun a E=>qv E (qaj qex rfl (qaf.ro (At.sub 1 1 at70))) fun a E=>qv E (qac qbp rfl) fun a E=>qv E (qaj qb2 rfl (qaf.own 0 rfl rfl)) fun a E=>qv E (qaa rfl) fun a E=>?_
 obtain ⟨x74,e75,hF⟩:=bnd hF
 obtain ⟨b76,o77,es78,hl79,rr80,at81,yy82⟩:=qaI qbR h3 e75 (P:=Tryz.prog) (X:=.tmp 52) (I:=.tmp 53) (kd:=.i64) (qao E rfl) (qao E rfl)
 obtain ⟨rfl,r83,r84⟩:=rr80
 refine qv E (yy82 _ _) fun a E=>qv E (qac qi0 rfl) fun a E=>qv E (qaj qex rfl (qaf.ro (At.sub 0 1 at81))) fun a E=>qv E (qdm rfl rfl) fun a E=>wpQuiet_nil ?_
 intro w ok
 refine qad<|c_if E rfl (fun hc85=>?_) (fun hc85=>?_)
 rotate_left
 ·replace hF:=qah hc85 hF
  refine wp_skip<|qar<|qad<|qae<|lv E ok (qaa rfl) fun a E=>lv E ok (qaC rfl rfl (InR.inc r45 (qau h3) hc46)) fun a E=>lv E ok (qab rfl) fun a E=>wpList_nil ?_
  obtain rfl:=sj hF
  exact qay ⟨ok,E.keep [1,3,5],(qaN e62),(InR.inc r45 (qau h3) hc46)⟩
 replace hF:=qai hc85 hF
 refine qae<|lv E ok (qaa rfl) fun a E=>lv E ok (qac qbp rfl) fun a E=>lv E ok (qaj qb2 rfl (qaf.own 0 rfl rfl)) fun a E=>lv E ok (qaa rfl) fun a E=>?_
 obtain ⟨x86,e87,hF⟩:=bnd hF
 obtain ⟨b88,o89,es90,hl91,rr92,at93,yy94⟩:=qaI qbR h3 e87 (P:=Tryz.prog) (X:=.tmp 60) (I:=.tmp 61) (kd:=.i64) (qao E rfl) (qao E rfl)
 obtain ⟨rfl,r95,r96⟩:=rr92
 refine lv E ok (yy94 _ _) fun a E=>lv E ok (qac qiU rfl) fun a E=>lv E ok (qaj qex rfl (qaf.ro (At.sub 1 1 at93))) fun a E=>?_
 obtain ⟨r97,e98,hF⟩:=bnd hF
 refine qaw E qlN rfl (qf5 N x86.To r96 true e98 hG ok) rfl rfl ?_
 rintro _ w ⟨⟨rfl,ok⟩,l99⟩
 refine ⟨_,rfl,fun a E=>?_⟩
 obtain ⟨s100,e101,hF⟩:=bnd hF
 refine lv E ok (qaQ rfl rfl e101) fun a E=>?_
 obtain ⟨s102,e103,hF⟩:=bnd hF
 refine lv E ok (qaQ rfl rfl e103) fun a E=>lv E ok (qab rfl) fun a E=>wpList_nil<|qar<|qad<|qae<|lv E ok (qaa rfl) fun a E=>lv E ok (qaC rfl rfl (InR.inc r45 (qau h3) hc46)) fun a E=>?_
 refine lv E ok (qab rfl) fun a E=>wpList_nil ?_
 obtain rfl:=sj hF
 exact qay ⟨ok,E.keep [1,3,5],(qaN e103),(InR.inc r45 (qau h3) hc46)⟩
def qfC (u:World) (m0:Mem) (S:Segs) (r:(List UInt8)) (a:Act) (w:World):Prop :=
 Ok u m0 S w ∧ a.defers = [] ∧ RVs Tryz.prog a w [.t 2 (.string (bs r))] ∧ r.length ≤ LIMS
set_option maxHeartbeats 4000000 in
set_option maxRecDepth 100000 in
theorem qg9 {u:World} {m0:Mem} {S:Segs} {w:World} (N:Nat) (vr_0:List Value) (r_0:Rule) (hr_0:qdn m0 vr_0 r_0) {r:(List UInt8)} (hF:qe2 N r_0 = some r) (hG:Glob u) (ok:Ok u m0 S w) :
  Calls Tryz.prog 69 [.agg vr_0.toArray].toArray w fun e w'=>(e = .returned (.string (bs r)) ∧ Ok u m0 S w') ∧ r.length ≤ LIMS:=by
 obtain ⟨c2,rfl,l1,h3,l4⟩:=hr_0
 have hb0:=ok.base
 have le_m0:=Mem.le.refl m0
 unfold qe2 at hF
 have fin:∀ a w,qfC u m0 S r a w → bodyPost Tryz.prog Tryz.f69 (fun e w'=>(e = .returned (.string (bs r)) ∧ Ok u m0 S w') ∧ r.length ≤ LIMS) .ret a w:=by
  intro a w h
  obtain ⟨ok,hd,hrv,h0⟩:=h
  exact qaK [.t 2 (.string (bs r))] hd rfl hrv ⟨⟨rfl,ok⟩,h0⟩
 refine enter Tryz.func69 rfl rfl rfl fun a E=>sg<|qdF E ok rfl rfl rfl fun b5 a w E ok=>lv E ok (qab rfl) fun a E=>wn<|wp_seq ?_
 refine qae<|lv E ok (qac qkg rfl) fun a E=>lv E ok (qaj qav rfl (qaf.own 0 rfl rfl)) fun a E=>lv E ok (qab rfl) fun a E=>wn<|wp_seq<|wp_seq ?_
 refine qae<|lv E ok (qab rfl) fun a E=>wn<|wp_block ?_
 obtain ⟨o8,hL,hF⟩:=bnd hF
 refine qaR _ (fun (s:(List UInt8) × Int) a w=>Ok u m0 ([(b5,Obj.cells [(Value.string (bs r_0.Kind)),c2,(Value.string (bs r_0.Next))].toArray 114 (0,0))] :: S) w ∧ Env 32 a [(1,(Value.pointer (some ⟨b5,0,none⟩))),(3,(Value.string (bs s.1))),(4,(Value.int .i64 s.2))] ∧ s.1.length ≤ LIMS ∧ InR .i64 s.2) (fun (b:((List UInt8))) e a w=>e = (.exit 0) ∧ Ok u m0 ([(b5,Obj.cells [(Value.string (bs r_0.Kind)),c2,(Value.string (bs r_0.Next))].toArray 114 (0,0))] :: S) w ∧ Env 32 a [(1,(Value.pointer (some ⟨b5,0,none⟩))),(3,(Value.string (bs b)))] ∧ b.length ≤ LIMS) ?_ ?_ N _ a w hL ⟨ok,E.keep [1,3,4],l1,(show InR .i64 (0) by decide)⟩
 rotate_left
 ·intro e a w _ hO
  obtain ⟨rfl,ok,E,l37⟩:=hO
  refine qaT<|qad<|wp_seq<|sg<|lv E ok (qac qgb rfl) fun a E=>lv E ok (qaj qav rfl (qaf.own 0 rfl rfl)) fun a E=>lv E ok (qbQ rfl rfl) fun a E=>?_
  refine wn<|c_if E rfl (fun hc38=>?_) (fun hc38=>?_)
  rotate_left
  ·replace hF:=qah hc38 hF
   refine wp_skip<|qad<|sg<|lv E ok (qaa rfl) fun a E=>lv E ok (qab rfl) fun a E=>wn ?_
   refine wp_ret ?_
   have hret:qfC u m0 S o8 a w:=⟨ok.drop,E.d,⟨rv_t E rfl,trivial⟩,l37⟩
   obtain rfl:=sj hF
   exact fin _ _ hret
  replace hF:=qai hc38 hF
  refine qae<|lv E ok (qaa rfl) fun a E=>lv E ok (qac qgb rfl) fun a E=>lv E ok (qaj qav rfl (qaf.own 0 rfl rfl)) fun a E=>?_
  obtain ⟨s39,e40,hF⟩:=bnd hF
  refine lv E ok (qaQ rfl rfl e40) fun a E=>?_
  obtain ⟨s41,e42,hF⟩:=bnd hF
  refine lv E ok (qaQ rfl rfl e42) fun a E=>lv E ok (qab rfl) fun a E=>wn<|sg<|lv E ok (qaa rfl) fun a E=>lv E ok (qab rfl) fun a E=>?_
  refine wn<|wp_ret ?_
  have hret:qfC u m0 S s41 a w:=⟨ok.drop,E.d,⟨rv_t E rfl,trivial⟩,(qaN e42)⟩
  obtain rfl:=sj hF
  exact fin _ _ hret
 rintro ⟨s_11,i_12⟩ a w r ⟨ok,E,l13,r14⟩ hF
 replace hF:qft N r_0 s_11 i_12 = some r:=hF
 unfold qft at hF
 refine wp_seq<|sg<|lv E ok (qaa rfl) fun a E=>lv E ok (qac qc5 rfl) fun a E=>lv E ok (qaj qeP rfl (qaf.own 0 rfl rfl)) fun a E=>lv E ok (qaG qcY h3 rfl) fun a E=>lv E ok (qaB rfl rfl) fun a E=>?_
 refine wn<|c_if E rfl (fun hc15=>?_) (fun hc15=>?_)
 rotate_left
 ·replace hF:=qah hc15 hF
  refine wp_exit<|qaD ?_
  obtain rfl:=sj hF
  exact qaq (by nofun) (⟨rfl,⟨ok,E.keep [1,3],l13⟩⟩)
 replace hF:=qai hc15 hF
 refine wp_skip<|qad<|wp_seq<|wp_block<|qae<|lv E ok (qaa rfl) fun a E=>lv E ok (qac qc5 rfl) fun a E=>lv E ok (qaj qeP rfl (qaf.own 0 rfl rfl)) fun a E=>?_
 refine lv E ok (qaa rfl) fun a E=>?_
 obtain ⟨x16,e17,hF⟩:=bnd hF
 obtain ⟨b18,o19,es20,hl21,rr22,at23,yy24⟩:=qaI qcY h3 e17 (P:=Tryz.prog) (X:=.tmp 16) (I:=.tmp 17) (kd:=.i64) (qao E rfl) (qao E rfl)
 obtain ⟨c26,rfl,l25,h27,r28,r29⟩:=rr22
 refine lv E ok (yy24 _ _) fun a E=>lv E ok (qax (cs:=[(Value.string (bs x16.Text)),c26,(Value.bool x16.Not),(Value.int .i64 x16.Least),(Value.int .i64 x16.Most)]) qa7 rfl rfl (qaf.ro at23)) fun a E=>?_
 obtain ⟨r30,e31,hF⟩:=bnd hF
 refine qaw E qqh rfl (qjD N _ x16 ⟨_,rfl,l25,h27,r28,r29⟩ e31 hG ok) rfl rfl ?_
 rintro _ w ⟨⟨rfl,ok⟩,l32⟩
 refine ⟨_,rfl,fun a E=>?_⟩
 obtain ⟨s33,e34,hF⟩:=bnd hF
 refine lv E ok (qaQ rfl rfl e34) fun a E=>?_
 obtain ⟨s35,e36,hF⟩:=bnd hF
 refine lv E ok (qaQ rfl rfl e36) fun a E=>lv E ok (qab rfl) fun a E=>wpList_nil<|qar<|qad<|qae<|lv E ok (qaa rfl) fun a E=>lv E ok (qaC rfl rfl (InR.inc r14 (qau h3) hc15)) fun a E=>?_
 refine lv E ok (qab rfl) fun a E=>wpList_nil ?_
 obtain rfl:=sj hF
 exact qay ⟨ok,E.keep [1,3,4],(qaN e36),(InR.inc r14 (qau h3) hc15)⟩
def qhb (u:World) (m0:Mem) (S:Segs) (r:(List UInt8)) (a:Act) (w:World):Prop :=
 Ok u m0 S w ∧ a.defers = [] ∧ RVs Tryz.prog a w [.t 2 (.string (bs r))] ∧ r.length ≤ LIMS
set_option maxHeartbeats 4000000 in
set_option maxRecDepth 100000 in
theorem qjK {u:World} {m0:Mem} {S:Segs} {w:World} (N:Nat) (vs_0:Value) (s_0:List (State)) (hs_0:(pL 2 qb3) m0 [vs_0] s_0) {r:(List UInt8)} (hF:qgd N s_0 = some r) (hG:Glob u) (ok:Ok u m0 S w) :
  Calls Tryz.prog 62 [vs_0].toArray w fun e w'=>(e = .returned (.string (bs r)) ∧ Ok u m0 S w') ∧ r.length ≤ LIMS:=by
 have hb0:=ok.base
 have le_m0:=Mem.le.refl m0
 unfold qgd at hF
 have fin:∀ a w,qhb u m0 S r a w → bodyPost Tryz.prog Tryz.f62 (fun e w'=>(e = .returned (.string (bs r)) ∧ Ok u m0 S w') ∧ r.length ≤ LIMS) .ret a w:=by
  intro a w h
  obtain ⟨ok,hd,hrv,h0⟩:=h
  exact qaK [.t 2 (.string (bs r))] hd rfl hrv ⟨⟨rfl,ok⟩,h0⟩
 refine enter Tryz.func62 rfl rfl rfl fun a E=>sg<|lv E ok (qab rfl) fun a E=>wn<|sg ?_
 refine lv E ok (qab rfl) fun a E=>wn<|wp_seq<|sg<|lv E ok (qab rfl) fun a E=>wpList_nil ?_
 refine qad<|wp_block ?_
 obtain ⟨o3,hL,hF⟩:=bnd hF
 refine qaR _ (fun (s:(List UInt8) × Int) a w=>Ok u m0 (S) w ∧ Env 44 a [(0,vs_0),(3,(Value.string (bs s.1))),(4,(Value.int .i64 s.2))] ∧ s.1.length ≤ LIMS ∧ InR .i64 s.2) (fun (b:((List UInt8))) e a w=>e = (.exit 0) ∧ Ok u m0 (S) w ∧ Env 44 a [(3,(Value.string (bs b)))] ∧ b.length ≤ LIMS) ?_ ?_ N _ a w hL ⟨ok,E.keep [0,3,4],(show ([]:List UInt8).length ≤ LIMS by decide),(show InR .i64 (0) by decide)⟩
 rotate_left
 ·intro e a w _ hO
  obtain ⟨rfl,ok,E,l85⟩:=hO
  refine qaT<|qad<|sg<|lv E ok (qaa rfl) fun a E=>lv E ok (qab rfl) fun a E=>wn ?_
  refine wp_ret ?_
  have hret:qhb u m0 S o3 a w:=⟨ok,E.d,⟨rv_t E rfl,trivial⟩,l85⟩
  obtain rfl:=sj hF
  exact fin _ _ hret
 rintro ⟨out_6,i_7⟩ a w r ⟨ok,E,l8,r9⟩ hF
 replace hF:qfv N s_0 out_6 i_7 = some r:=hF
 unfold qfv at hF
 refine wp_seq<|sg<|lv E ok (qaa rfl) fun a E=>lv E ok (qaa rfl) fun a E=>lv E ok (qaG qbW hs_0 rfl) fun a E=>lv E ok (qaB rfl rfl) fun a E=>wpList_nil ?_
 refine qad<|c_if E rfl (fun hc10=>?_) (fun hc10=>?_)
 rotate_left
 ·replace hF:=qah hc10 hF
  refine wp_exit<|qaD ?_
  obtain rfl:=sj hF
  exact qaq (by nofun) (⟨rfl,⟨ok,E.keep [3],l8⟩⟩)
 replace hF:=qai hc10 hF
 refine wp_skip<|qad<|wp_seq<|wp_block<|sg<|lv E ok (qaa rfl) fun a E=>lv E ok (qaa rfl) fun a E=>?_
 refine lv E ok (qaa rfl) fun a E=>?_
 obtain ⟨x11,e12,hF⟩:=bnd hF
 obtain ⟨b13,o14,es15,hl16,rr17,at18,yy19⟩:=qaI qbW hs_0 e12 (P:=Tryz.prog) (X:=.tmp 13) (I:=.tmp 14) (kd:=.i64) (qao E rfl) (qao E rfl)
 obtain ⟨c21,rfl,l20,h22⟩:=rr17
 refine lv E ok (yy19 _ _) fun a E=>lv E ok (qac qh0 rfl) fun a E=>lv E ok (qaj qav rfl (qaf.ro (At.sub 0 1 at18))) fun a E=>?_
 obtain ⟨s23,e24,hF⟩:=bnd hF
 refine lv E ok (qaQ rfl rfl e24) fun a E=>?_
 obtain ⟨s25,e26,hF⟩:=bnd hF
 refine lv E ok (qaQ rfl rfl e26) fun a E=>?_
 obtain ⟨s27,e28,hF⟩:=bnd hF
 refine lv E ok (qaQ rfl rfl e28) fun a E=>lv E ok (qab rfl) fun a E=>wn<|sg<|lv E ok (qab rfl) fun a E=>wpList_nil ?_
 refine qad<|wp_block ?_
 obtain ⟨o31,hL,hF⟩:=bnd hF
 refine qaR _ (fun (s:(List UInt8) × Int) a w=>Ok u m0 (S) w ∧ Env 44 a [(0,vs_0),(3,(Value.string (bs s.1))),(4,(Value.int .i64 i_7)),(5,(Value.int .i64 s.2))] ∧ s.1.length ≤ LIMS ∧ InR .i64 s.2) (fun (b:((List UInt8))) e a w=>e = (.exit 2) ∧ Ok u m0 (S) w ∧ Env 44 a [(0,vs_0),(3,(Value.string (bs b))),(4,(Value.int .i64 i_7))] ∧ b.length ≤ LIMS) ?_ ?_ N _ a w hL ⟨ok,E.keep [0,3,4,5],(qaN e28),(show InR .i64 (0) by decide)⟩
 rotate_left
 ·intro e a w _ hO
  obtain ⟨rfl,ok,E,l83⟩:=hO
  refine qaT<|qar<|qad<|qae<|lv E ok (qaa rfl) fun a E=>lv E ok (qaC rfl rfl (InR.inc r9 (qau hs_0) hc10)) fun a E=>lv E ok (qab rfl) fun a E=>wpList_nil ?_
  obtain rfl:=sj hF
  exact qay ⟨ok,E.keep [0,3,4],l83,(InR.inc r9 (qau hs_0) hc10)⟩
 rintro ⟨out_34,k_35⟩ a w r ⟨ok,E,l36,r37⟩ hF
 replace hF:qfr N s_0 i_7 out_34 k_35 = some r:=hF
 unfold qfr at hF
 refine wp_seq<|sg<|lv E ok (qaa rfl) fun a E=>lv E ok (qaa rfl) fun a E=>lv E ok (qaa rfl) fun a E=>?_
 obtain ⟨x38,e39,hF⟩:=bnd hF
 obtain ⟨b40,o41,es42,hl43,rr44,at45,yy46⟩:=qaI qbW hs_0 e39 (P:=Tryz.prog) (X:=.tmp 22) (I:=.tmp 23) (kd:=.i64) (qao E rfl) (qao E rfl)
 obtain ⟨c48,rfl,l47,h49⟩:=rr44
 refine lv E ok (yy46 _ _) fun a E=>lv E ok (qac qdb rfl) fun a E=>lv E ok (qaj qeK rfl (qaf.ro (At.sub 1 1 at45))) fun a E=>lv E ok (qaG qen h49 rfl) fun a E=>lv E ok (qaB rfl rfl) fun a E=>wn<|c_if E rfl (fun hc50=>?_) (fun hc50=>?_)
 rotate_left
 ·replace hF:=qah hc50 hF
  refine wp_exit<|qaD ?_
  obtain rfl:=sj hF
  exact qaq (by nofun) (⟨rfl,⟨ok,E.keep [0,3,4],l36⟩⟩)
 replace hF:=qai hc50 hF
 refine wp_skip<|qad<|wp_seq<|wp_block<|qae<|lv E ok (qaa rfl) fun a E=>lv E ok (qaa rfl) fun a E=>lv E ok (qaa rfl) fun a E=>?_
 obtain ⟨x51,e52,hF⟩:=bnd hF
 obtain ⟨b53,o54,es55,hl56,rr57,at58,yy59⟩:=qaI qbW hs_0 e52 (P:=Tryz.prog) (X:=.tmp 32) (I:=.tmp 33) (kd:=.i64) (qao E rfl) (qao E rfl)
 obtain ⟨c61,rfl,l60,h62⟩:=rr57
 refine lv E ok (yy59 _ _) fun a E=>lv E ok (qac qdb rfl) fun a E=>lv E ok (qaj qeK rfl (qaf.ro (At.sub 1 1 at58))) fun a E=>lv E ok (qaa rfl) fun a E=>?_
 obtain ⟨x63,e64,hF⟩:=bnd hF
 obtain ⟨b65,o66,es67,hl68,rr69,at70,yy71⟩:=qaI qen h62 e64 (P:=Tryz.prog) (X:=.tmp 36) (I:=.tmp 37) (kd:=.i64) (qao E rfl) (qao E rfl)
 obtain ⟨c73,rfl,l72,h74,l75⟩:=rr69
 refine lv E ok (yy71 _ _) fun a E=>lv E ok (qax (cs:=[(Value.string (bs x63.Kind)),c73,(Value.string (bs x63.Next))]) qdt rfl rfl (qaf.ro at70)) fun a E=>?_
 obtain ⟨r76,e77,hF⟩:=bnd hF
 refine qaw E qov rfl (qg9 N _ x63 ⟨_,rfl,l72,h74,l75⟩ e77 hG ok) rfl rfl ?_
 rintro _ w ⟨⟨rfl,ok⟩,l78⟩
 refine ⟨_,rfl,fun a E=>?_⟩
 obtain ⟨s79,e80,hF⟩:=bnd hF
 refine lv E ok (qaQ rfl rfl e80) fun a E=>?_
 obtain ⟨s81,e82,hF⟩:=bnd hF
 refine lv E ok (qaQ rfl rfl e82) fun a E=>lv E ok (qab rfl) fun a E=>wpList_nil<|qar<|qad<|qae<|lv E ok (qaa rfl) fun a E=>lv E ok (qaC rfl rfl (InR.inc r37 (qau h49) hc50)) fun a E=>?_
 refine lv E ok (qab rfl) fun a E=>wpList_nil ?_
 obtain rfl:=sj hF
 exact qay ⟨ok,E.keep [0,3,4,5],(qaN e82),(InR.inc r37 (qau h49) hc50)⟩
end Go.Proofs.YtllfckekodcdaaaGreatDoor
namespace Go.Proofs.YtllfckekodcdaaaGreatDoor
open Go.X
def qbr (u:World) (m0:Mem) (S:Segs) (r:Bool) (a:Act) (w:World):Prop :=
 Ok u m0 S w ∧ a.defers = [] ∧ RVs Tryz.prog a w [.t 2 (.bool r)]
set_option maxHeartbeats 4000000 in
set_option maxRecDepth 100000 in
theorem qjh {u:World} {m0:Mem} {S:Segs} {w:World} (N:Nat) (vs_0:Value) (s_0:List (State)) (hs_0:(pL 2 qb3) m0 [vs_0] s_0) {r:Bool} (hF:qf2 N s_0 = some r) (hG:Glob u) (ok:Ok u m0 S w) :
  Calls Tryz.prog 38 [vs_0].toArray w fun e w'=>(e = .returned (.bool r) ∧ Ok u m0 S w'):=by
 have hb0:=ok.base
 have le_m0:=Mem.le.refl m0
 unfold qf2 at hF
 have fin:∀ a w,qbr u m0 S r a w → bodyPost Tryz.prog Tryz.f38 (fun e w'=>(e = .returned (.bool r) ∧ Ok u m0 S w')) .ret a w:=by
  intro a w h
  obtain ⟨ok,hd,hrv⟩:=h
  exact qaK [.t 2 (.bool r)] hd rfl hrv ⟨rfl,ok⟩
 refine enter Tryz.func38 rfl rfl rfl fun a E=>sg<|lv E ok (qab rfl) fun a E=>wn<|wp_seq<|wp_seq ?_
 refine qae<|lv E ok (qab rfl) fun a E=>wn<|wp_block ?_
 obtain ⟨o2,hL,hF⟩:=bnd hF
 refine qaR _ (fun (s:Int) a w=>Ok u m0 (S) w ∧ Env 95 a [(0,vs_0),(3,(Value.int .i64 s))] ∧ InR .i64 s) (fun (b:(Unit ⊕ Bool)) e a w=>(Sum.elim (fun b123=>e = (.exit 0) ∧ Ok u m0 (S) w ∧ Env 95 a [(0,vs_0)]) (fun b124=>e = .ret ∧ qbr u m0 S b124 a w)) b) ?_ ?_ N _ a w hL ⟨ok,E.keep [0,3],(show InR .i64 (0) by decide)⟩
 rotate_left
 ·intro e a w _ hO
  rcases o2 with o2 | o2
  rotate_left
  ·replace hF:=qba hF
   obtain ⟨rfl,hret⟩:=hO
   refine qap<|qan ?_
   obtain rfl:=sj hF
   exact fin _ _ hret
  replace hF:=qa9 hF
  obtain ⟨rfl,ok,E⟩:=hO
  refine qaT<|qad<|sg<|lv E ok (qaa rfl) fun a E=>lv E ok (qaG qbW hs_0 rfl) fun a E=>lv E ok (qbg rfl rfl) fun a E=>lv E ok (qaa rfl) fun a E=>?_
  refine qas (decide ((s_0.length:Int) ≥ 1)) (fun hc118=>?_) (fun hc118=>?_)
  rotate_left
  ·replace hF:=qah hc118 hF
   replace E:=E.upd 84 hc118 rfl
   refine ls E fun a E=>ls E fun a E=>ls E fun a E=>lv E ok (qam rfl rfl) fun a E=>lv E ok (qaa rfl) fun a E=>ls E fun a E=>ls E fun a E=>ls E fun a E=>?_
   refine ls E fun a E=>lv E ok (qam rfl rfl) fun a E=>lv E ok (qab rfl) fun a E=>wn<|wp_ret ?_
   have hret:qbr u m0 S false a w:=⟨ok,E.d,⟨rv_t E rfl,trivial⟩⟩
   obtain rfl:=sj hF
   exact fin _ _ hret
  replace hF:=qai hc118 hF
  replace E:=E.upd 84 hc118 rfl
  refine lv E ok (qaa rfl) fun a E=>lv E ok (qaG qbW hs_0 rfl) fun a E=>lv E ok (qct rfl rfl) fun a E=>lv E ok (qak rfl rfl) fun a E=>lv E ok (qaa rfl) fun a E=>qas (decide ((s_0.length:Int) ≤ 20)) (fun hc119=>?_) (fun hc119=>?_)
  rotate_left
  ·replace hF:=qah hc119 hF
   replace E:=E.upd 89 hc119 rfl
   refine ls E fun a E=>ls E fun a E=>ls E fun a E=>ls E fun a E=>lv E ok (qam rfl rfl) fun a E=>lv E ok (qab rfl) fun a E=>wn ?_
   refine wp_ret ?_
   have hret:qbr u m0 S false a w:=⟨ok,E.d,⟨rv_t E rfl,trivial⟩⟩
   obtain rfl:=sj hF
   exact fin _ _ hret
  replace hF:=qai hc119 hF
  replace E:=E.upd 89 hc119 rfl
  refine lv E ok (qaa rfl) fun a E=>?_
  obtain ⟨r120,e121,hF⟩:=bnd hF
  refine qaw E qqC rfl (qjK N _ s_0 hs_0 e121 hG ok) rfl rfl ?_
  rintro _ w ⟨⟨rfl,ok⟩,l122⟩
  refine ⟨_,rfl,fun a E=>?_⟩
  refine lv E ok (qaX Tryz.underlying9 rfl) fun a E=>lv E ok (qct rfl rfl) fun a E=>lv E ok (qak rfl rfl) fun a E=>lv E ok (qab rfl) fun a E=>wn<|wp_ret ?_
  have hret:qbr u m0 S (decide ((r120.length:Int) ≤ 8000)) a w:=⟨ok,E.d,⟨rv_t E rfl,trivial⟩⟩
  obtain rfl:=sj hF
  exact fin _ _ hret
 rintro i_4 a w r ⟨ok,E,r5⟩ hF
 replace hF:qe7 N s_0 i_4 = some r:=hF
 unfold qe7 at hF
 refine wp_seq<|sg<|lv E ok (qaa rfl) fun a E=>lv E ok (qaa rfl) fun a E=>lv E ok (qaG qbW hs_0 rfl) fun a E=>lv E ok (qaB rfl rfl) fun a E=>wpList_nil ?_
 refine qad<|c_if E rfl (fun hc6=>?_) (fun hc6=>?_)
 rotate_left
 ·replace hF:=qah hc6 hF
  refine wp_exit<|qaD ?_
  obtain rfl:=sj hF
  exact qaq (by nofun) (sl ⟨rfl,⟨ok,E.keep [0]⟩⟩)
 replace hF:=qai hc6 hF
 refine wp_skip<|qad<|wp_seq<|wp_block<|wp_seq<|sg<|lv E ok (qaa rfl) fun a E=>?_
 refine lv E ok (qaa rfl) fun a E=>?_
 obtain ⟨x7,e8,hF⟩:=bnd hF
 obtain ⟨b9,o10,es11,hl12,rr13,at14,yy15⟩:=qaI qbW hs_0 e8 (P:=Tryz.prog) (X:=.tmp 12) (I:=.tmp 13) (kd:=.i64) (qao E rfl) (qao E rfl)
 obtain ⟨c17,rfl,l16,h18⟩:=rr13
 refine lv E ok (yy15 _ _) fun a E=>lv E ok (qac qh0 rfl) fun a E=>lv E ok (qaj qav rfl (qaf.ro (At.sub 0 1 at14))) fun a E=>?_
 obtain ⟨r19,e20,hF⟩:=bnd hF
 refine qaw E qlz rfl (qem N x7.Name l16 e20 hG ok) rfl rfl ?_
 rintro _ w ⟨rfl,ok⟩
 refine ⟨_,rfl,fun a E=>?_⟩
 refine lv E ok (qbP rfl) fun a E=>lv E ok (qaa rfl) fun a E=>qas (!r19) (fun hc21=>?_) (fun hc21=>?_)
 ·replace hF:=qai hc21 hF
  replace E:=E.upd 19 hc21 rfl
  refine ls E fun a E=>ls E fun a E=>ls E fun a E=>ls E fun a E=>ls E fun a E=>ls E fun a E=>ls E fun a E=>ls E fun a E=>?_
  refine ls E fun a E=>lv E ok (qak rfl rfl) fun a E=>lv E ok (qaa rfl) fun a E=>ls E fun a E=>ls E fun a E=>ls E fun a E=>ls E fun a E=>ls E fun a E=>?_
  refine ls E fun a E=>ls E fun a E=>lv E ok (qak rfl rfl) fun a E=>lv E ok (qaa rfl) fun a E=>ls E fun a E=>ls E fun a E=>ls E fun a E=>ls E fun a E=>?_
  refine ls E fun a E=>ls E fun a E=>ls E fun a E=>lv E ok (qak rfl rfl) fun a E=>wn<|c_if E rfl (fun _=>?_) (fun h=>by cases h)
  refine sg<|lv E ok (qab rfl) fun a E=>wn<|wp_ret<|qan<|qap ?_
  refine qan ?_
  have hret:qbr u m0 S false a w:=⟨ok,E.d,⟨rv_t E rfl,trivial⟩⟩
  obtain rfl:=sj hF
  exact qaq (by nofun) (sr ⟨rfl,hret⟩)
 replace hF:=qah hc21 hF
 replace E:=E.upd 19 hc21 rfl
 refine lv E ok (qaa rfl) fun a E=>lv E ok (qaa rfl) fun a E=>lv E ok (qaa rfl) fun a E=>?_
 obtain ⟨x22,e23,hF⟩:=bnd hF
 obtain ⟨b24,o25,es26,hl27,rr28,at29,yy30⟩:=qaI qbW hs_0 e23 (P:=Tryz.prog) (X:=.tmp 21) (I:=.tmp 22) (kd:=.i64) (qao E rfl) (qao E rfl)
 obtain ⟨c32,rfl,l31,h33⟩:=rr28
 refine lv E ok (yy30 _ _) fun a E=>lv E ok (qac qh0 rfl) fun a E=>lv E ok (qaj qav rfl (qaf.ro (At.sub 0 1 at29))) fun a E=>?_
 obtain ⟨r34,e35,hF⟩:=bnd hF
 refine qaw E qoB rfl (qgN N _ s_0 hs_0 x22.Name l31 e35 hG ok) rfl rfl ?_
 rintro _ w ⟨⟨rfl,ok⟩,r36⟩
 refine ⟨_,rfl,fun a E=>?_⟩
 refine lv E ok (qaa rfl) fun a E=>lv E ok (qdm rfl rfl) fun a E=>lv E ok (qam rfl rfl) fun a E=>lv E ok (qaa rfl) fun a E=>qas (r34 != i_4) (fun hc37=>?_) (fun hc37=>?_)
 ·replace hF:=qai hc37 hF
  replace E:=E.upd 30 hc37 rfl
  refine ls E fun a E=>ls E fun a E=>ls E fun a E=>ls E fun a E=>ls E fun a E=>ls E fun a E=>ls E fun a E=>lv E ok (qak rfl rfl) fun a E=>?_
  refine lv E ok (qaa rfl) fun a E=>ls E fun a E=>ls E fun a E=>ls E fun a E=>ls E fun a E=>ls E fun a E=>ls E fun a E=>ls E fun a E=>?_
  refine lv E ok (qak rfl rfl) fun a E=>wn<|c_if E rfl (fun _=>?_) (fun h=>by cases h)
  refine sg<|lv E ok (qab rfl) fun a E=>wn<|wp_ret<|qan<|qap ?_
  refine qan ?_
  have hret:qbr u m0 S false a w:=⟨ok,E.d,⟨rv_t E rfl,trivial⟩⟩
  obtain rfl:=sj hF
  exact qaq (by nofun) (sr ⟨rfl,hret⟩)
 replace hF:=qah hc37 hF
 replace E:=E.upd 30 hc37 rfl
 refine lv E ok (qaa rfl) fun a E=>lv E ok (qaa rfl) fun a E=>?_
 obtain ⟨x38,e39,hF⟩:=bnd hF
 obtain ⟨b40,o41,es42,hl43,rr44,at45,yy46⟩:=qaI qbW hs_0 e39 (P:=Tryz.prog) (X:=.tmp 31) (I:=.tmp 32) (kd:=.i64) (qao E rfl) (qao E rfl)
 obtain ⟨c48,rfl,l47,h49⟩:=rr44
 refine lv E ok (yy46 _ _) fun a E=>lv E ok (qac qdb rfl) fun a E=>lv E ok (qaj qeK rfl (qaf.ro (At.sub 1 1 at45))) fun a E=>lv E ok (qaG qen h49 rfl) fun a E=>lv E ok (qaB rfl rfl) fun a E=>lv E ok (qam rfl rfl) fun a E=>lv E ok (qaa rfl) fun a E=>qas (decide ((x38.Rules.length:Int) < 1)) (fun hc50=>?_) (fun hc50=>?_)
 ·replace hF:=qai hc50 hF
  replace E:=E.upd 39 hc50 rfl
  refine ls E fun a E=>ls E fun a E=>ls E fun a E=>ls E fun a E=>ls E fun a E=>ls E fun a E=>ls E fun a E=>lv E ok (qak rfl rfl) fun a E=>?_
  refine wn<|c_if E rfl (fun _=>?_) (fun h=>by cases h)
  refine sg<|lv E ok (qab rfl) fun a E=>wn<|wp_ret<|qan<|qap ?_
  refine qan ?_
  have hret:qbr u m0 S false a w:=⟨ok,E.d,⟨rv_t E rfl,trivial⟩⟩
  obtain rfl:=sj hF
  exact qaq (by nofun) (sr ⟨rfl,hret⟩)
 replace hF:=qah hc50 hF
 replace E:=E.upd 39 hc50 rfl
 refine lv E ok (qaa rfl) fun a E=>lv E ok (qaa rfl) fun a E=>?_
 obtain ⟨x51,e52,hF⟩:=bnd hF
 obtain ⟨b53,o54,es55,hl56,rr57,at58,yy59⟩:=qaI qbW hs_0 e52 (P:=Tryz.prog) (X:=.tmp 40) (I:=.tmp 41) (kd:=.i64) (qao E rfl) (qao E rfl)
 obtain ⟨c61,rfl,l60,h62⟩:=rr57
 refine lv E ok (yy59 _ _) fun a E=>lv E ok (qac qdb rfl) fun a E=>lv E ok (qaj qeK rfl (qaf.ro (At.sub 1 1 at58))) fun a E=>lv E ok (qaG qen h62 rfl) fun a E=>lv E ok (qb4 rfl rfl) fun a E=>lv E ok (qam rfl rfl) fun a E=>wn ?_
 refine c_if E rfl (fun hc63=>?_) (fun hc63=>?_)
 ·replace hF:=qai hc63 hF
  refine sg<|lv E ok (qab rfl) fun a E=>wn<|wp_ret<|qan<|qap ?_
  refine qan ?_
  have hret:qbr u m0 S false a w:=⟨ok,E.d,⟨rv_t E rfl,trivial⟩⟩
  obtain rfl:=sj hF
  exact qaq (by nofun) (sr ⟨rfl,hret⟩)
 replace hF:=qah hc63 hF
 refine wp_skip<|qad<|sg<|lv E ok (qab rfl) fun a E=>wn<|wp_block ?_
 obtain ⟨o65,hL,hF⟩:=bnd hF
 refine qaR _ (fun (s:Int) a w=>Ok u m0 (S) w ∧ Env 95 a [(0,vs_0),(3,(Value.int .i64 i_4)),(4,(Value.int .i64 s))] ∧ InR .i64 s) (fun (b:(Unit ⊕ Bool)) e a w=>(Sum.elim (fun b116=>e = (.exit 2) ∧ Ok u m0 (S) w ∧ Env 95 a [(0,vs_0),(3,(Value.int .i64 i_4))]) (fun b117=>e = .ret ∧ qbr u m0 S b117 a w)) b) ?_ ?_ N _ a w hL ⟨ok,E.keep [0,3,4],(show InR .i64 (0) by decide)⟩
 rotate_left
 ·intro e a w _ hO
  rcases o65 with o65 | o65
  rotate_left
  ·replace hF:=qba hF
   obtain ⟨rfl,hret⟩:=hO
   refine qap<|qap<|qan ?_
   obtain rfl:=sj hF
   exact qaq (by nofun) (sr ⟨rfl,hret⟩)
  replace hF:=qa9 hF
  obtain ⟨rfl,ok,E⟩:=hO
  refine qaT<|qar<|qad<|qae<|lv E ok (qaa rfl) fun a E=>lv E ok (qaC rfl rfl (InR.inc r5 (qau hs_0) hc6)) fun a E=>lv E ok (qab rfl) fun a E=>wpList_nil ?_
  obtain rfl:=sj hF
  exact qay ⟨ok,E.keep [0,3],(InR.inc r5 (qau hs_0) hc6)⟩
 rintro k_67 a w r ⟨ok,E,r68⟩ hF
 replace hF:qfa N s_0 i_4 k_67 = some r:=hF
 unfold qfa at hF
 refine wp_seq<|sg<|lv E ok (qaa rfl) fun a E=>lv E ok (qaa rfl) fun a E=>lv E ok (qaa rfl) fun a E=>?_
 obtain ⟨x69,e70,hF⟩:=bnd hF
 obtain ⟨b71,o72,es73,hl74,rr75,at76,yy77⟩:=qaI qbW hs_0 e70 (P:=Tryz.prog) (X:=.tmp 49) (I:=.tmp 50) (kd:=.i64) (qao E rfl) (qao E rfl)
 obtain ⟨c79,rfl,l78,h80⟩:=rr75
 refine lv E ok (yy77 _ _) fun a E=>lv E ok (qac qdb rfl) fun a E=>lv E ok (qaj qeK rfl (qaf.ro (At.sub 1 1 at76))) fun a E=>lv E ok (qaG qen h80 rfl) fun a E=>lv E ok (qaB rfl rfl) fun a E=>wn<|c_if E rfl (fun hc81=>?_) (fun hc81=>?_)
 rotate_left
 ·replace hF:=qah hc81 hF
  refine wp_exit<|qaD ?_
  obtain rfl:=sj hF
  exact qaq (by nofun) (sl ⟨rfl,⟨ok,E.keep [0,3]⟩⟩)
 replace hF:=qai hc81 hF
 refine wp_skip<|qad<|wp_seq<|wp_block<|sg<|lv E ok (qaa rfl) fun a E=>lv E ok (qaa rfl) fun a E=>?_
 obtain ⟨x82,e83,hF⟩:=bnd hF
 obtain ⟨b84,o85,es86,hl87,rr88,at89,yy90⟩:=qaI qbW hs_0 e83 (P:=Tryz.prog) (X:=.tmp 58) (I:=.tmp 59) (kd:=.i64) (qao E rfl) (qao E rfl)
 obtain ⟨c92,rfl,l91,h93⟩:=rr88
 refine lv E ok (yy90 _ _) fun a E=>lv E ok (qac qdb rfl) fun a E=>lv E ok (qaj qeK rfl (qaf.ro (At.sub 1 1 at89))) fun a E=>lv E ok (qaa rfl) fun a E=>?_
 obtain ⟨x94,e95,hF⟩:=bnd hF
 obtain ⟨b96,o97,es98,hl99,rr100,at101,yy102⟩:=qaI qen h93 e95 (P:=Tryz.prog) (X:=.tmp 62) (I:=.tmp 63) (kd:=.i64) (qao E rfl) (qao E rfl)
 obtain ⟨c104,rfl,l103,h105,l106⟩:=rr100
 refine lv E ok (yy102 _ _) fun a E=>lv E ok (qax (cs:=[(Value.string (bs x94.Kind)),c104,(Value.string (bs x94.Next))]) qdt rfl rfl (qaf.ro at101)) fun a E=>qaZ E ok qdx rfl rfl fun b107 a w E ok=>qat E ok 0 rfl rfl rfl qgo rfl rfl ⟨rfl,(qbB h105),rfl,trivial⟩ rfl rfl fun w ok=>wn<|sg ?_
 refine lv E ok (qax (cs:=[(Value.string (bs x94.Kind)),c104,(Value.string (bs x94.Next))]) qdt rfl rfl (qaf.own 0 rfl rfl)) fun a E=>?_
 obtain ⟨r108,e109,hF⟩:=bnd hF
 refine qaw E qmZ rfl (qe4 N _ x94 ⟨_,rfl,l103,h105,l106⟩ e109 hG ok) rfl rfl ?_
 rintro _ w ⟨rfl,ok⟩
 refine ⟨_,rfl,fun a E=>?_⟩
 refine lv E ok (qbP rfl) fun a E=>lv E ok (qaa rfl) fun a E=>qas (!r108) (fun hc110=>?_) (fun hc110=>?_)
 ·replace hF:=qai hc110 hF
  replace E:=E.upd 69 hc110 rfl
  refine ls E fun a E=>ls E fun a E=>ls E fun a E=>ls E fun a E=>ls E fun a E=>ls E fun a E=>ls E fun a E=>ls E fun a E=>?_
  refine ls E fun a E=>ls E fun a E=>lv E ok (qak rfl rfl) fun a E=>wn<|c_if E rfl (fun _=>?_) (fun h=>by cases h)
  refine sg<|lv E ok (qab rfl) fun a E=>wn<|wp_ret<|qap<|qan ?_
  have hret:qbr u m0 S false a w:=⟨ok.drop,E.d,⟨rv_t E rfl,trivial⟩⟩
  obtain rfl:=sj hF
  exact qaq (by nofun) (sr ⟨rfl,hret⟩)
 replace hF:=qah hc110 hF
 replace E:=E.upd 69 hc110 rfl
 refine lv E ok (qac qgb rfl) fun a E=>lv E ok (qaj qav rfl (qaf.own 0 rfl rfl)) fun a E=>lv E ok (qbQ rfl rfl) fun a E=>lv E ok (qaa rfl) fun a E=>qas (x94.Next != ([])) (fun hc111=>?_) (fun hc111=>?_)
 rotate_left
 ·replace hF:=qah hc111 hF
  replace E:=E.upd 73 hc111 rfl
  refine ls E fun a E=>ls E fun a E=>ls E fun a E=>ls E fun a E=>ls E fun a E=>lv E ok (qam rfl rfl) fun a E=>lv E ok (qam rfl rfl) fun a E=>wpList_nil ?_
  refine qad<|c_if E rfl (fun h=>by cases h) (fun _=>?_)
  refine wp_skip<|qar<|qad<|qae<|lv E ok (qaa rfl) fun a E=>lv E ok (qaC rfl rfl (InR.inc r68 (qau h80) hc81)) fun a E=>lv E ok (qab rfl) fun a E=>wpList_nil ?_
  obtain rfl:=sj hF
  exact qay ⟨(ok.pk 1 [] rfl (by decide)),E.keep [0,3,4],(InR.inc r68 (qau h80) hc81)⟩
 replace hF:=qai hc111 hF
 replace E:=E.upd 73 hc111 rfl
 refine lv E ok (qaa rfl) fun a E=>lv E ok (qac qgb rfl) fun a E=>lv E ok (qaj qav rfl (qaf.own 0 rfl rfl)) fun a E=>?_
 obtain ⟨r112,e113,hF⟩:=bnd hF
 refine qaw E qoB rfl (qgN N _ s_0 hs_0 x94.Next l106 e113 hG ok) rfl rfl ?_
 rintro _ w ⟨⟨rfl,ok⟩,r114⟩
 refine ⟨_,rfl,fun a E=>?_⟩
 refine lv E ok (qaB rfl rfl) fun a E=>lv E ok (qak rfl rfl) fun a E=>lv E ok (qam rfl rfl) fun a E=>wn<|c_if E rfl (fun hc115=>?_) (fun hc115=>?_)
 rotate_left
 ·replace hF:=qah hc115 hF
  refine wp_skip<|qar<|qad<|qae<|lv E ok (qaa rfl) fun a E=>lv E ok (qaC rfl rfl (InR.inc r68 (qau h80) hc81)) fun a E=>lv E ok (qab rfl) fun a E=>wpList_nil ?_
  obtain rfl:=sj hF
  exact qay ⟨(ok.pk 1 [] rfl (by decide)),E.keep [0,3,4],(InR.inc r68 (qau h80) hc81)⟩
 replace hF:=qai hc115 hF
 refine sg<|lv E ok (qab rfl) fun a E=>wn<|wp_ret<|qap<|qan ?_
 have hret:qbr u m0 S false a w:=⟨ok.drop,E.d,⟨rv_t E rfl,trivial⟩⟩
 obtain rfl:=sj hF
 exact qaq (by nofun) (sr ⟨rfl,hret⟩)
def qcs (u:World) (m0:Mem) (S:Segs) (r:Bool) (a:Act) (w:World):Prop :=
 Ok u m0 S w ∧ a.defers = [] ∧ RVs Tryz.prog a w [.t 4 (.bool r)]
set_option maxHeartbeats 4000000 in
set_option maxRecDepth 100000 in
theorem qfw {u:World} {m0:Mem} {S:Segs} {w:World} (N:Nat) (va_0:Value) (a_0:List (List UInt8)) (ha_0:(pL 1 pS) m0 [va_0] a_0) (vb_1:Value) (b_1:List (List UInt8)) (hb_1:(pL 1 pS) m0 [vb_1] b_1) {r:Bool} (hF:qdl N a_0 b_1 = some r) (hG:Glob u) (ok:Ok u m0 S w) :
  Calls Tryz.prog 20 [va_0,vb_1].toArray w fun e w'=>(e = .returned (.bool r) ∧ Ok u m0 S w'):=by
 have hb0:=ok.base
 have le_m0:=Mem.le.refl m0
 unfold qdl at hF
 have fin:∀ a w,qcs u m0 S r a w → bodyPost Tryz.prog Tryz.f20 (fun e w'=>(e = .returned (.bool r) ∧ Ok u m0 S w')) .ret a w:=by
  intro a w h
  obtain ⟨ok,hd,hrv⟩:=h
  exact qaK [.t 4 (.bool r)] hd rfl hrv ⟨rfl,ok⟩
 refine enter Tryz.func20 rfl rfl rfl fun a E=>sg<|lv E ok (qab rfl) fun a E=>wn<|wp_seq<|wp_seq ?_
 refine qae<|lv E ok (qaa rfl) fun a E=>lv E ok (qaG qg3 ha_0 rfl) fun a E=>lv E ok (qaa rfl) fun a E=>lv E ok (qaG qg3 hb_1 rfl) fun a E=>lv E ok (qdm rfl rfl) fun a E=>wn ?_
 refine c_if E rfl (fun hc1=>?_) (fun hc1=>?_)
 ·replace hF:=qai hc1 hF
  refine sg<|lv E ok (qab rfl) fun a E=>wn<|wp_ret<|qan ?_
  have hret:qcs u m0 S false a w:=⟨ok,E.d,⟨rv_t E rfl,trivial⟩⟩
  obtain rfl:=sj hF
  exact fin _ _ hret
 replace hF:=qah hc1 hF
 refine wp_skip<|qad<|wp_seq<|sg<|lv E ok (qab rfl) fun a E=>wn ?_
 refine wp_block ?_
 obtain ⟨o3,hL,hF⟩:=bnd hF
 refine qaR _ (fun (s:Int) a w=>Ok u m0 (S) w ∧ Env 26 a [(0,va_0),(1,vb_1),(5,(Value.int .i64 s))] ∧ InR .i64 s) (fun (b:(Unit ⊕ Bool)) e a w=>(Sum.elim (fun b29=>e = (.exit 0) ∧ Ok u m0 (S) w ∧ Env 26 a []) (fun b30=>e = .ret ∧ qcs u m0 S b30 a w)) b) ?_ ?_ N _ a w hL ⟨ok,E.keep [0,1,5],(show InR .i64 (0) by decide)⟩
 rotate_left
 ·intro e a w _ hO
  rcases o3 with o3 | o3
  rotate_left
  ·replace hF:=qba hF
   obtain ⟨rfl,hret⟩:=hO
   refine qap<|qan ?_
   obtain rfl:=sj hF
   exact fin _ _ hret
  replace hF:=qa9 hF
  obtain ⟨rfl,ok,E⟩:=hO
  refine qaT<|qad<|sg<|lv E ok (qab rfl) fun a E=>wn<|wp_ret ?_
  have hret:qcs u m0 S true a w:=⟨ok,E.d,⟨rv_t E rfl,trivial⟩⟩
  obtain rfl:=sj hF
  exact fin _ _ hret
 rintro i_5 a w r ⟨ok,E,r6⟩ hF
 replace hF:qdM N a_0 b_1 i_5 = some r:=hF
 unfold qdM at hF
 refine wp_seq<|sg<|lv E ok (qaa rfl) fun a E=>lv E ok (qaa rfl) fun a E=>lv E ok (qaG qg3 ha_0 rfl) fun a E=>lv E ok (qaB rfl rfl) fun a E=>wpList_nil ?_
 refine qad<|c_if E rfl (fun hc7=>?_) (fun hc7=>?_)
 rotate_left
 ·replace hF:=qah hc7 hF
  refine wp_exit<|qaD ?_
  obtain rfl:=sj hF
  exact qaq (by nofun) (sl ⟨rfl,⟨ok,E.keep []⟩⟩)
 replace hF:=qai hc7 hF
 refine wp_skip<|qad<|wp_seq<|wp_block<|wp_seq<|qbb (by kernel_rfl) (by kernel_rfl) ok<|qv E (qaa rfl) fun a E=>qv E (qaa rfl) fun a E=>?_
 obtain ⟨x8,e9,hF⟩:=bnd hF
 obtain ⟨b10,o11,es12,hl13,rr14,at15,yy16⟩:=qaI qg3 ha_0 e9 (P:=Tryz.prog) (X:=.tmp 17) (I:=.tmp 18) (kd:=.i64) (qao E rfl) (qao E rfl)
 obtain ⟨rfl,l17⟩:=rr14
 refine qv E (yy16 _ _) fun a E=>qv E (qaj qav rfl (qaf.ro at15)) fun a E=>qv E (qaa rfl) fun a E=>qv E (qaa rfl) fun a E=>?_
 obtain ⟨x18,e19,hF⟩:=bnd hF
 obtain ⟨b20,o21,es22,hl23,rr24,at25,yy26⟩:=qaI qg3 hb_1 e19 (P:=Tryz.prog) (X:=.tmp 21) (I:=.tmp 22) (kd:=.i64) (qao E rfl) (qao E rfl)
 obtain ⟨rfl,l27⟩:=rr24
 refine qv E (yy26 _ _) fun a E=>qv E (qaj qav rfl (qaf.ro at25)) fun a E=>qv E (qbQ rfl rfl) fun a E=>wpQuiet_nil ?_
 intro w ok
 refine qad<|c_if E rfl (fun hc28=>?_) (fun hc28=>?_)
 rotate_left
 ·replace hF:=qah hc28 hF
  refine wp_skip<|qar<|qad<|qae<|lv E ok (qaa rfl) fun a E=>lv E ok (qaC rfl rfl (InR.inc r6 (qau ha_0) hc7)) fun a E=>lv E ok (qab rfl) fun a E=>wpList_nil ?_
  obtain rfl:=sj hF
  exact qay ⟨ok,E.keep [0,1,5],(InR.inc r6 (qau ha_0) hc7)⟩
 replace hF:=qai hc28 hF
 refine sg<|lv E ok (qab rfl) fun a E=>wn<|wp_ret<|qap<|qan ?_
 have hret:qcs u m0 S false a w:=⟨ok,E.d,⟨rv_t E rfl,trivial⟩⟩
 obtain rfl:=sj hF
 exact qaq (by nofun) (sr ⟨rfl,hret⟩)
end Go.Proofs.YtllfckekodcdaaaGreatDoor
