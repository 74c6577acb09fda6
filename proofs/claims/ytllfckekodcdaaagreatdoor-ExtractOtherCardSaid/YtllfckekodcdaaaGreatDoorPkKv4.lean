/- Texts of this proof, put together by pack.py: what its declarations name. -/
import Derived.Test.YtllfckekodcdaaaGreatDoorPkKv3
import Derived.Test.YtllfckekodcdaaaGreatDoorCards
import Derived.Test.YtllfckekodcdaaaGreatDoorChecked
import Derived.Test.YtllfckekodcdaaaGreatDoorProg
import Derived.Test.YtllfckekodcdaaaGreatDoorRows
import Derived.Test.YtllfckekodcdaaaGreatDoorTie
set_option linter.unusedVariables false
set_option linter.unusedSimpArgs false
namespace Go.Proofs.YtllfckekodcdaaaGreatDoor
open Go.X
variable {u:World} {m0:Mem} {S:Segs} {w:World}
set_option maxHeartbeats 4000000
set_option maxRecDepth 100000
def qeY:Rp Field:=fun _ cs x=>cs = [.string (bs x.Name),.string (bs x.Value)] ∧ x.Name.length ≤ LIMS ∧ x.Value.length ≤ LIMS
theorem qi4:Mono qeY:=⟨fun _ h=>by
 obtain ⟨e,h0,h1⟩:=h
 exact ⟨e,h0,h1⟩,fun h=>by
 obtain ⟨rfl,h0,h1⟩:=h
 exact ⟨rfl,rfl,trivial⟩⟩
def qeN:Rp Entry:=fun m cs x=>∃ c3 c4 c6,cs = [.string (bs x.ID),.string (bs x.Source),.string (bs x.Target),c3,c4,.int .i64 x.State,c6] ∧ x.ID.length ≤ LIMS ∧ x.Source.length ≤ LIMS ∧ x.Target.length ≤ LIMS ∧ (pL 1 pS) m [c3] x.Comments ∧ (pL 1 pS) m [c4] x.Flags ∧ InR .i64 x.State ∧ (pL 2 qeY) m [c6] x.Fields
theorem qeW:Mono qeN:=⟨fun hm h=>by
 obtain ⟨c3,c4,c6,e,h0,h1,h2,h3,h4,h5,h6⟩:=h
 exact ⟨c3,c4,c6,e,h0,h1,h2,(mL mS).up hm h3,(mL mS).up hm h4,h5,(mL qi4).up hm h6⟩,fun h=>by
 obtain ⟨c3,c4,c6,rfl,h0,h1,h2,h3,h4,h5,h6⟩:=h
 exact ⟨rfl,rfl,rfl,((mL mS).one h3).1,((mL mS).one h4).1,rfl,((mL qi4).one h6).1,trivial⟩⟩
theorem qdA:aggB Tryz.prog 114 3 = true:=by kernel_rfl
theorem qbh:aggB Tryz.prog 138 5 = true:=by kernel_rfl
theorem qsr:aggB Tryz.prog 157 2 = true:=by kernel_rfl
theorem qp8:aggB Tryz.prog 53 7 = true:=by kernel_rfl
theorem qqG:aggB Tryz.prog 58 2 = true:=by kernel_rfl
theorem qsW:aggB Tryz.prog 62 2 = true:=by kernel_rfl
theorem ql2:aggB Tryz.prog 66 3 = true:=by kernel_rfl
theorem qtm:qi6 Tryz.prog 111 40 = true:=by kernel_rfl
theorem qtk:qi6 Tryz.prog 118 56 = true:=by kernel_rfl
theorem qte:qi6 Tryz.prog 154 64 = true:=by kernel_rfl
theorem qtd:qi6 Tryz.prog 156 2 = true:=by kernel_rfl
theorem qtp:Tryz.prog.eqGuardType Tryz.prog.depth 58 = false:=by kernel_rfl
theorem qhG:qaI Tryz.prog 108 0 0 = true:=by kernel_rfl
theorem qcO:qaI Tryz.prog 108 1 1 = true:=by kernel_rfl
theorem qjI:qaI Tryz.prog 114 0 0 = true:=by kernel_rfl
theorem qcw:qaI Tryz.prog 114 1 1 = true:=by kernel_rfl
theorem qgf:qaI Tryz.prog 114 2 2 = true:=by kernel_rfl
theorem qfJ:qaI Tryz.prog 138 0 0 = true:=by kernel_rfl
theorem qbv:qaI Tryz.prog 138 1 1 = true:=by kernel_rfl
theorem qiy:qaI Tryz.prog 138 2 2 = true:=by kernel_rfl
theorem qd1:qaI Tryz.prog 138 3 3 = true:=by kernel_rfl
theorem qdZ:qaI Tryz.prog 138 4 4 = true:=by kernel_rfl
theorem qjF:qaI Tryz.prog 157 0 0 = true:=by kernel_rfl
theorem qjN:qaI Tryz.prog 157 1 1 = true:=by kernel_rfl
theorem qo8:qaI Tryz.prog 53 0 0 = true:=by kernel_rfl
theorem qmg:qaI Tryz.prog 53 1 1 = true:=by kernel_rfl
theorem qoI:qaI Tryz.prog 53 2 2 = true:=by kernel_rfl
theorem qjx:qaI Tryz.prog 53 3 3 = true:=by kernel_rfl
theorem qoP:qaI Tryz.prog 53 4 4 = true:=by kernel_rfl
theorem qoN:qaI Tryz.prog 53 5 5 = true:=by kernel_rfl
theorem qdS:qaI Tryz.prog 53 6 6 = true:=by kernel_rfl
theorem qso:qaI Tryz.prog 62 0 0 = true:=by kernel_rfl
theorem qjq:qaI Tryz.prog 62 1 1 = true:=by kernel_rfl
theorem qej:qaI Tryz.prog 66 0 0 = true:=by kernel_rfl
theorem qmM:qaI Tryz.prog 66 1 1 = true:=by kernel_rfl
theorem qmI:qaI Tryz.prog 66 2 2 = true:=by kernel_rfl
theorem qkH:goB Tryz.prog 109 = true:=by kernel_rfl
theorem qnG:goB Tryz.prog 110 = true:=by kernel_rfl
theorem qlE:goB Tryz.prog 131 = true:=by kernel_rfl
theorem qrJ:goB Tryz.prog 14 = true:=by kernel_rfl
theorem qtL:goB Tryz.prog 19 = true:=by kernel_rfl
theorem qrC:goB Tryz.prog 20 = true:=by kernel_rfl
theorem quw:goB Tryz.prog 37 = true:=by kernel_rfl
theorem qtM:goB Tryz.prog 38 = true:=by kernel_rfl
theorem quq:goB Tryz.prog 41 = true:=by kernel_rfl
theorem qnk:goB Tryz.prog 42 = true:=by kernel_rfl
theorem qrz:goB Tryz.prog 60 = true:=by kernel_rfl
theorem qpx:goB Tryz.prog 61 = true:=by kernel_rfl
theorem qtT:goB Tryz.prog 62 = true:=by kernel_rfl
theorem qpr:goB Tryz.prog 68 = true:=by kernel_rfl
theorem qrO:goB Tryz.prog 69 = true:=by kernel_rfl
theorem qt1:goB Tryz.prog 85 = true:=by kernel_rfl
theorem qtY:goB Tryz.prog 88 = true:=by kernel_rfl
theorem qrL:goB Tryz.prog 89 = true:=by kernel_rfl
theorem qus:goB Tryz.prog 90 = true:=by kernel_rfl
theorem qmt:∃ i,Tryz.prog.info? 106 = some i ∧ i.size = 1:=⟨_,rfl,by kernel_rfl⟩
theorem qsu:∃ i,Tryz.prog.info? 109 = some i ∧ i.size = 1:=⟨_,rfl,by kernel_rfl⟩
theorem qmz:∃ i,Tryz.prog.info? 112 = some i ∧ i.size = 1:=⟨_,rfl,by kernel_rfl⟩
theorem qgD:∃ i,Tryz.prog.info? 114 = some i ∧ i.size = 3:=⟨_,rfl,by kernel_rfl⟩
theorem qin:∃ i,Tryz.prog.info? 136 = some i ∧ i.size = 1:=⟨_,rfl,by kernel_rfl⟩
theorem qbA:∃ i,Tryz.prog.info? 138 = some i ∧ i.size = 5:=⟨_,rfl,by kernel_rfl⟩
theorem qr9:∃ i,Tryz.prog.info? 152 = some i ∧ i.size = 1:=⟨_,rfl,by kernel_rfl⟩
theorem qs8:∃ i,Tryz.prog.info? 66 = some i ∧ i.size = 3:=⟨_,rfl,by kernel_rfl⟩
theorem qf7:∃ i,Tryz.prog.info? 9 = some i ∧ i.size = 1:=⟨_,rfl,by kernel_rfl⟩
theorem qek:oneB Tryz.prog 106 = true:=by kernel_rfl
theorem qdW:oneB Tryz.prog 112 = true:=by kernel_rfl
theorem qbZ:oneB Tryz.prog 136 = true:=by kernel_rfl
theorem qjn:oneB Tryz.prog 50 = true:=by kernel_rfl
theorem qeR:oneB Tryz.prog 51 = true:=by kernel_rfl
theorem qpc:qcY Tryz.prog 108 = some [(0,1),(1,1)]:=by kernel_rfl
theorem qpn:qcY Tryz.prog 111 = some [(0,1),(1,1)]:=by kernel_rfl
theorem qlG:qcY Tryz.prog 114 = some [(0,1),(1,1),(2,1)]:=by kernel_rfl
theorem qph:qcY Tryz.prog 118 = some [(0,1),(1,1),(2,1)]:=by kernel_rfl
theorem qcI:qcY Tryz.prog 138 = some [(0,1),(1,1),(2,1),(3,1),(4,1)]:=by kernel_rfl
theorem qo9:qcY Tryz.prog 154 = some [(0,1),(1,1),(2,1),(3,1),(4,1)]:=by kernel_rfl
theorem qgC:qcY Tryz.prog 157 = some [(0,1),(1,1)]:=by kernel_rfl
theorem qmS:qcY Tryz.prog 53 = some [(0,1),(1,1),(2,1),(3,1),(4,1),(5,1),(6,1)]:=by kernel_rfl
theorem qd9:SlT Tryz.prog 106 114 3:=SlT.of (by kernel_rfl)
theorem qcx:SlT Tryz.prog 112 138 5:=SlT.of (by kernel_rfl)
theorem qbV:SlT Tryz.prog 136 157 2:=SlT.of (by kernel_rfl)
theorem qaQ:SlT Tryz.prog 22 66 3:=SlT.of (by kernel_rfl)
theorem qbP:SlT Tryz.prog 39 108 2:=SlT.of (by kernel_rfl)
theorem qgQ:SlT Tryz.prog 42 62 2:=SlT.of (by kernel_rfl)
theorem qgU:SlT Tryz.prog 44 53 7:=SlT.of (by kernel_rfl)
theorem qc2:SlT Tryz.prog 51 58 2:=SlT.of (by kernel_rfl)
theorem qqP:Tryz.prog.stoodInHeld 58 = false:=by kernel_rfl
theorem qlw:qby Tryz.prog 108 = some [(vs ([])),(Value.slice none 0 0)]:=by kernel_rfl
theorem qdu:qby Tryz.prog 114 = some [(vs ([])),(Value.slice none 0 0),(vs ([]))]:=by kernel_rfl
theorem qbE:qby Tryz.prog 138 = some [(vs ([])),(Value.slice none 0 0),vb false,vi 0,vi 0]:=by kernel_rfl
theorem qcs:qby Tryz.prog 157 = some [(Value.int .u8 0),(Value.int .u8 0)]:=by kernel_rfl
theorem qjk:qby Tryz.prog 53 = some [(vs ([])),(vs ([])),(vs ([])),(Value.slice none 0 0),(Value.slice none 0 0),vi 0,(Value.slice none 0 0)]:=by kernel_rfl
theorem qaD:qby Tryz.prog 66 = some [(vs ([])),vi 0,vi 0]:=by kernel_rfl
def qcJ:Ro (State):=fun m cs x M=>∃ c1,cs = [.string (bs x.Name),c1] ∧ x.Name.length ≤ LIMS ∧ ORow 114 3 qdv m c1 x.Rules M
theorem qnb:MonoO qcJ:=⟨fun hm h=>by
 obtain ⟨c1,e,h0,h1⟩:=h
 exact ⟨c1,e,h0,h1.up qdx hm⟩⟩
theorem qjV:FrozO qcJ qbU:=⟨fun h hle hf=>by
 obtain ⟨c1,e,h0,h1⟩:=h
 exact ⟨c1,e,h0,h1.froz qdx hle hf (by decide)⟩⟩
def qgI (u:World) (m0:Mem) (S:Segs) (r:Bool) (a:Act) (w:World):Prop :=
 Ok u m0 S w ∧ a.defers = [] ∧ RVs Tryz.prog a w [.t 4 (.bool r)]
theorem qld (N:Nat) (vcalls_0:Value) (calls_0:List (Call)) (hcalls_0:(pL 3 qaL) m0 [vcalls_0] calls_0) (vfiles_1:Value) (files_1:List (File)) (hfiles_1:(pL 2 qeM) m0 [vfiles_1] files_1) {r:Bool} (hF:qeS N calls_0 files_1 = some r) (hG:Glob u) (ok:Ok u m0 S w) :
  Calls Tryz.prog 9 [vcalls_0,vfiles_1].toArray w fun e w'=>(e = .returned (.bool r) ∧ Ok u m0 S w'):=by
 unfold qeS at hF
 refine en (qgI u m0 S) r Tryz.func9 rfl rfl rfl (by rintro a w ⟨ok,hd,hrv⟩; exact qaM [.t 4 (.bool r)] hd rfl hrv ⟨rfl,ok⟩) fun fin a E=>sg<|aw E rfl fun a E=>wp_seq<|wp_seq ?_
 refine qab<|aw E rfl fun a E=>wp_block ?_
 obtain ⟨o2,hL,hF⟩:=bnd hF
 refine qaO _ (fun (s:Int) a w=>Ok u m0 (S) w ∧ Env 50 a [(0,vcalls_0),(1,vfiles_1),(5,vi s)] ∧ InR .i64 s) (fun (b:(Unit ⊕ Bool)) e a w=>(Sum.elim (fun b53=>e = (.exit 0) ∧ Ok u m0 (S) w ∧ Env 50 a [(0,vcalls_0),(1,vfiles_1)]) (fun b54=>e = .ret ∧ qgI u m0 S b54 a w)) b) ?_ ?_ N _ a w hL ⟨ok,E.keep [0,1,5],(ir 0)⟩
 ·as_aux_lemma =>
   rintro i_4 a w r ⟨ok,E,r5⟩ hF
   replace hF:qdg N files_1 i_4 = some r:=hF
   unfold qdg at hF
   refine wp_seq<|sg<|mv E rfl fun a E=>mv E rfl fun a E=>lv E ok (qaE qgQ hfiles_1 rfl) fun a E=>lw E (qaA rfl rfl) fun a E=>wpList_nil ?_
   refine qaa<|cf E rfl hF (fun hc6 hF=>?_) fun hc6 hF=>?_
   rotate_left
   ·refine wp_exit<|qaB ?_
    obtain rfl:=sj hF
    exact so (sl ⟨rfl,⟨ok,E.keep [0,1]⟩⟩)
   refine wp_skip<|qaa<|wp_seq<|wp_block<|sg<|mv E rfl fun a E=>mv E rfl fun a E=>?_
   obtain ⟨x7,e8,hF⟩:=bnd hF
   obtain ⟨b9,o10,es11,hl12,rr13,at14,yy15⟩:=qaN qgQ hfiles_1 e8 (P:=Tryz.prog) (X:=.tmp 13) (I:=.tmp 14) (kd:=.i64) (qah E rfl) (qah E rfl)
   obtain ⟨rfl,l16,l17⟩:=rr13
   refine lv E ok (yy15 _ _) fun a E=>fv E qjq rfl fun a E=>lv E ok (qao qav rfl (qae.ro (At.sub 1 1 at14))) fun a E=>lw E (qaV Tryz.underlying9 rfl) fun a E=>lw E (qb9 rfl rfl) fun a E=>mv E rfl fun a E=>qap (decide ((x7.Text.length:Int) > 400)) (fun hc18=>?_) (fun hc18=>?_)
   ·replace hF:=qak hc18 hF
    replace E:=E.upd 20 hc18 rfl
    refine ls E fun a E=>ls E fun a E=>ls E fun a E=>ls E fun a E=>ls E fun a E=>ls E fun a E=>ls E fun a E=>pt E rfl rfl fun a E=>?_
    refine wn<|c_if E rfl (fun _=>?_) (fun h=>by cases h)
    refine sg<|aw E rfl fun a E=>wp_ret<|qan<|qag ?_
    obtain rfl:=sj hF
    exact so (sr ⟨rfl,⟨ok,E.d,⟨rv_t E rfl,trivial⟩⟩⟩)
   replace hF:=qaj hc18 hF
   replace E:=E.upd 20 hc18 rfl
   refine mv E rfl fun a E=>mv E rfl fun a E=>?_
   obtain ⟨x19,e20,hF⟩:=bnd hF
   obtain ⟨b21,o22,es23,hl24,rr25,at26,yy27⟩:=qaN qgQ hfiles_1 e20 (P:=Tryz.prog) (X:=.tmp 21) (I:=.tmp 22) (kd:=.i64) (qah E rfl) (qah E rfl)
   obtain ⟨rfl,l28,l29⟩:=rr25
   refine lv E ok (yy27 _ _) fun a E=>fv E qso rfl fun a E=>lv E ok (qao qav rfl (qae.ro (At.sub 0 1 at26))) fun a E=>lw E (qaV Tryz.underlying9 rfl) fun a E=>lw E (qb9 rfl rfl) fun a E=>pf E rfl rfl fun a E=>wn ?_
   refine cf E rfl hF (fun hc30 hF=>?_) fun hc30 hF=>?_
   rotate_left
   ·refine wp_skip<|qaq<|qaa<|qab<|mv E rfl fun a E=>lw E (qaG rfl rfl (InR.inc r5 (qas hfiles_1) hc6)) fun a E=>av E rfl fun a E=>wpList_nil ?_
    obtain rfl:=sj hF
    exact qay ⟨ok,E.keep [0,1,5],(InR.inc r5 (qas hfiles_1) hc6)⟩
   refine sg<|aw E rfl fun a E=>wp_ret<|qan<|qag ?_
   obtain rfl:=sj hF
   exact so (sr ⟨rfl,⟨ok,E.d,⟨rv_t E rfl,trivial⟩⟩⟩)
 intro e a w _ hO
 rcases o2 with o2 | o2
 rotate_left
 ·replace hF:=qbf hF
  obtain ⟨rfl,hret⟩:=hO
  refine qan<|qag ?_
  exact fin hF hret
 replace hF:=qbe hF
 obtain ⟨rfl,ok,E⟩:=hO
 refine qaS<|qaa<|wp_seq<|sg<|aw E rfl fun a E=>?_
 refine wp_block ?_
 obtain ⟨o32,hL,hF⟩:=bnd hF
 refine qaO _ (fun (s:Int) a w=>Ok u m0 (S) w ∧ Env 50 a [(0,vcalls_0),(1,vfiles_1),(6,vi s)] ∧ InR .i64 s) (fun (b:(Unit ⊕ Bool)) e a w=>(Sum.elim (fun b51=>e = (.exit 2) ∧ Ok u m0 (S) w ∧ Env 50 a [(0,vcalls_0),(1,vfiles_1)]) (fun b52=>e = .ret ∧ qgI u m0 S b52 a w)) b) ?_ ?_ N _ a w hL ⟨ok,E.keep [0,1,6],(ir 0)⟩
 rotate_left
 ·intro e a w _ hO
  rcases o32 with o32 | o32
  rotate_left
  ·replace hF:=qbf hF
   obtain ⟨rfl,hret⟩:=hO
   refine qan<|qag ?_
   exact fin hF hret
  replace hF:=qbe hF
  obtain ⟨rfl,ok,E⟩:=hO
  refine qaS<|qaa<|sg<|mv E rfl fun a E=>lv E ok (qaE qaQ hcalls_0 rfl) fun a E=>lw E (qcj rfl rfl) fun a E=>mv E rfl fun a E=>?_
  refine qap (decide ((calls_0.length:Int) ≤ 45)) (fun hc50=>?_) (fun hc50=>?_)
  ·replace hF:=qak hc50 hF
   replace E:=E.upd 45 hc50 rfl
   refine mv E rfl fun a E=>lv E ok (qaE qgQ hfiles_1 rfl) fun a E=>lw E (qcj rfl rfl) fun a E=>pt E rfl rfl fun a E=>aw E rfl fun a E=>wp_ret ?_
   exact fin hF ⟨ok,E.d,⟨rv_t E rfl,trivial⟩⟩
  replace hF:=qaj hc50 hF
  replace E:=E.upd 45 hc50 rfl
  refine ls E fun a E=>ls E fun a E=>ls E fun a E=>pf E rfl rfl fun a E=>aw E rfl fun a E=>wp_ret ?_
  exact fin hF ⟨ok,E.d,⟨rv_t E rfl,trivial⟩⟩
 rintro i_34 a w r ⟨ok,E,r35⟩ hF
 replace hF:qdi N calls_0 i_34 = some r:=hF
 unfold qdi at hF
 refine wp_seq<|sg<|mv E rfl fun a E=>mv E rfl fun a E=>lv E ok (qaE qaQ hcalls_0 rfl) fun a E=>lw E (qaA rfl rfl) fun a E=>wpList_nil ?_
 refine qaa<|cf E rfl hF (fun hc36 hF=>?_) fun hc36 hF=>?_
 rotate_left
 ·refine wp_exit<|qaB ?_
  obtain rfl:=sj hF
  exact so (sl ⟨rfl,⟨ok,E.keep [0,1]⟩⟩)
 refine wp_skip<|qaa<|wp_seq<|wp_block<|sg<|mv E rfl fun a E=>mv E rfl fun a E=>?_
 obtain ⟨x37,e38,hF⟩:=bnd hF
 obtain ⟨b39,o40,es41,hl42,rr43,at44,yy45⟩:=qaN qaQ hcalls_0 e38 (P:=Tryz.prog) (X:=.tmp 35) (I:=.tmp 36) (kd:=.i64) (qah E rfl) (qah E rfl)
 obtain ⟨rfl,l46,r47,r48⟩:=rr43
 refine lv E ok (yy45 _ _) fun a E=>fv E qej rfl fun a E=>lv E ok (qao qav rfl (qae.ro (At.sub 0 1 at44))) fun a E=>lw E (qaV Tryz.underlying9 rfl) fun a E=>lw E (qb9 rfl rfl) fun a E=>wn<|cf E rfl hF (fun hc49 hF=>?_) fun hc49 hF=>?_
 rotate_left
 ·refine wp_skip<|qaq<|qaa<|qab<|mv E rfl fun a E=>lw E (qaG rfl rfl (InR.inc r35 (qas hcalls_0) hc36)) fun a E=>av E rfl fun a E=>wpList_nil ?_
  obtain rfl:=sj hF
  exact qay ⟨ok,E.keep [0,1,6],(InR.inc r35 (qas hcalls_0) hc36)⟩
 refine sg<|aw E rfl fun a E=>wp_ret<|qan<|qag ?_
 obtain rfl:=sj hF
 exact so (sr ⟨rfl,⟨ok,E.d,⟨rv_t E rfl,trivial⟩⟩⟩)
def qez (u:World) (m0:Mem) (S:Segs) (r:Bool) (a:Act) (w:World):Prop :=
 Ok u m0 S w ∧ a.defers = [] ∧ RVs Tryz.prog a w [.t 2 (.bool r)]
theorem qhu (N:Nat) (vcalls_0:Value) (calls_0:List (Call)) (hcalls_0:(pL 3 qaL) m0 [vcalls_0] calls_0) {r:Bool} (hF:qcM N calls_0 = some r) (hG:Glob u) (ok:Ok u m0 S w) :
  Calls Tryz.prog 14 [vcalls_0].toArray w fun e w'=>(e = .returned (.bool r) ∧ Ok u m0 S w'):=by
 unfold qcM at hF
 refine en (qez u m0 S) r Tryz.func14 rfl rfl rfl (by rintro a w ⟨ok,hd,hrv⟩; exact qaM [.t 2 (.bool r)] hd rfl hrv ⟨rfl,ok⟩) fun fin a E=>sg<|aw E rfl fun a E=>wp_seq<|wp_seq ?_
 refine qab<|aw E rfl fun a E=>wp_block ?_
 obtain ⟨o2,hL,hF⟩:=bnd hF
 refine qaO _ (fun (s:Int) a w=>Ok u m0 (S) w ∧ Env 65 a [(0,vcalls_0),(3,vi s)] ∧ InR .i64 s) (fun (b:(Unit ⊕ Bool)) e a w=>(Sum.elim (fun b69=>e = (.exit 0) ∧ Ok u m0 (S) w ∧ Env 65 a [(0,vcalls_0)]) (fun b70=>e = .ret ∧ qez u m0 S b70 a w)) b) ?_ ?_ N _ a w hL ⟨ok,E.keep [0,3],(ir 0)⟩
 rotate_left
 ·intro e a w _ hO
  rcases o2 with o2 | o2
  rotate_left
  ·replace hF:=qbf hF
   obtain ⟨rfl,hret⟩:=hO
   refine qan<|qag ?_
   exact fin hF hret
  replace hF:=qbe hF
  obtain ⟨rfl,ok,E⟩:=hO
  refine qaS<|qaa<|sg<|mv E rfl fun a E=>lv E ok (qaE qaQ hcalls_0 rfl) fun a E=>lw E (qcj rfl rfl) fun a E=>av E rfl fun a E=>?_
  refine wn<|wp_ret ?_
  exact fin hF ⟨ok,E.d,⟨rv_t E rfl,trivial⟩⟩
 rintro i_4 a w r ⟨ok,E,r5⟩ hF
 replace hF:qcm N calls_0 i_4 = some r:=hF
 unfold qcm at hF
 refine wp_seq<|sg<|mv E rfl fun a E=>mv E rfl fun a E=>lv E ok (qaE qaQ hcalls_0 rfl) fun a E=>lw E (qaA rfl rfl) fun a E=>wpList_nil ?_
 refine qaa<|cf E rfl hF (fun hc6 hF=>?_) fun hc6 hF=>?_
 rotate_left
 ·refine wp_exit<|qaB ?_
  obtain rfl:=sj hF
  exact so (sl ⟨rfl,⟨ok,E.keep [0]⟩⟩)
 refine wp_skip<|qaa<|wp_seq<|wp_block<|sg<|mv E rfl fun a E=>mv E rfl fun a E=>?_
 obtain ⟨x7,e8,hF⟩:=bnd hF
 obtain ⟨b9,o10,es11,hl12,rr13,at14,yy15⟩:=qaN qaQ hcalls_0 e8 (P:=Tryz.prog) (X:=.tmp 12) (I:=.tmp 13) (kd:=.i64) (qah E rfl) (qah E rfl)
 obtain ⟨rfl,l16,r17,r18⟩:=rr13
 refine lv E ok (yy15 _ _) fun a E=>lv E ok (qat (cs:=[vs x7.Name,vi x7.ID,vi x7.Source]) ql2 rfl rfl (qae.ro at14)) fun a E=>qaC E ok qaD rfl rfl fun b19 a w E ok=>qai E ok 0 rfl rfl rfl qs8 rfl rfl ⟨rfl,rfl,rfl,trivial⟩ rfl rfl fun w ok=>wn<|wp_seq<|wp_seq ?_
 refine qab<|fv E qej rfl fun a E=>ld E ok qav 0 rfl rfl rfl fun a E=>lw E (qbl rfl rfl) fun a E=>mv E rfl fun a E=>qap (x7.Name == ([])) (fun hc20=>?_) (fun hc20=>?_)
 ·replace hF:=qak hc20 hF
  replace E:=E.upd 19 hc20 rfl
  refine ls E fun a E=>ls E fun a E=>ls E fun a E=>pt E rfl rfl fun a E=>mv E rfl fun a E=>ls E fun a E=>ls E fun a E=>ls E fun a E=>?_
  refine pt E rfl rfl fun a E=>mv E rfl fun a E=>ls E fun a E=>ls E fun a E=>ls E fun a E=>pt E rfl rfl fun a E=>mv E rfl fun a E=>ls E fun a E=>?_
  refine ls E fun a E=>ls E fun a E=>pt E rfl rfl fun a E=>mv E rfl fun a E=>ls E fun a E=>ls E fun a E=>ls E fun a E=>ls E fun a E=>?_
  refine ls E fun a E=>ls E fun a E=>ls E fun a E=>ls E fun a E=>pt E rfl rfl fun a E=>wn<|c_if E rfl (fun _=>?_) (fun h=>by cases h)
  refine sg<|aw E rfl fun a E=>wp_ret<|qag<|qan ?_
  refine qag ?_
  obtain rfl:=sj hF
  exact so (sr ⟨rfl,⟨ok.drop,E.d,⟨rv_t E rfl,trivial⟩⟩⟩)
 replace hF:=qaj hc20 hF
 replace E:=E.upd 19 hc20 rfl
 refine fv E qmM rfl fun a E=>ld E ok qaZ 0 rfl rfl rfl fun a E=>lw E (qaA rfl rfl) fun a E=>pf E rfl rfl fun a E=>mv E rfl fun a E=>qap (decide (x7.ID < (-1))) (fun hc21=>?_) (fun hc21=>?_)
 ·replace hF:=qak hc21 hF
  replace E:=E.upd 24 hc21 rfl
  refine ls E fun a E=>ls E fun a E=>ls E fun a E=>pt E rfl rfl fun a E=>mv E rfl fun a E=>ls E fun a E=>ls E fun a E=>ls E fun a E=>?_
  refine pt E rfl rfl fun a E=>mv E rfl fun a E=>ls E fun a E=>ls E fun a E=>ls E fun a E=>pt E rfl rfl fun a E=>mv E rfl fun a E=>ls E fun a E=>?_
  refine ls E fun a E=>ls E fun a E=>ls E fun a E=>ls E fun a E=>ls E fun a E=>ls E fun a E=>ls E fun a E=>pt E rfl rfl fun a E=>?_
  refine wn<|c_if E rfl (fun _=>?_) (fun h=>by cases h)
  refine sg<|aw E rfl fun a E=>wp_ret<|qag<|qan ?_
  refine qag ?_
  obtain rfl:=sj hF
  exact so (sr ⟨rfl,⟨ok.drop,E.d,⟨rv_t E rfl,trivial⟩⟩⟩)
 replace hF:=qaj hc21 hF
 replace E:=E.upd 24 hc21 rfl
 refine fv E qmM rfl fun a E=>ld E ok qaZ 0 rfl rfl rfl fun a E=>lw E (qb9 rfl rfl) fun a E=>pf E rfl rfl fun a E=>mv E rfl fun a E=>qap (decide (x7.ID > 9)) (fun hc22=>?_) (fun hc22=>?_)
 ·replace hF:=qak hc22 hF
  replace E:=E.upd 29 hc22 rfl
  refine ls E fun a E=>ls E fun a E=>ls E fun a E=>pt E rfl rfl fun a E=>mv E rfl fun a E=>ls E fun a E=>ls E fun a E=>ls E fun a E=>?_
  refine pt E rfl rfl fun a E=>mv E rfl fun a E=>ls E fun a E=>ls E fun a E=>ls E fun a E=>ls E fun a E=>ls E fun a E=>ls E fun a E=>?_
  refine ls E fun a E=>ls E fun a E=>pt E rfl rfl fun a E=>wn<|c_if E rfl (fun _=>?_) (fun h=>by cases h)
  refine sg<|aw E rfl fun a E=>wp_ret<|qag<|qan ?_
  refine qag ?_
  obtain rfl:=sj hF
  exact so (sr ⟨rfl,⟨ok.drop,E.d,⟨rv_t E rfl,trivial⟩⟩⟩)
 replace hF:=qaj hc22 hF
 replace E:=E.upd 29 hc22 rfl
 refine fv E qmI rfl fun a E=>ld E ok qaZ 0 rfl rfl rfl fun a E=>lw E (qaA rfl rfl) fun a E=>pf E rfl rfl fun a E=>mv E rfl fun a E=>qap (decide (x7.Source < (-1))) (fun hc23=>?_) (fun hc23=>?_)
 ·replace hF:=qak hc23 hF
  replace E:=E.upd 34 hc23 rfl
  refine ls E fun a E=>ls E fun a E=>ls E fun a E=>pt E rfl rfl fun a E=>mv E rfl fun a E=>ls E fun a E=>ls E fun a E=>ls E fun a E=>?_
  refine ls E fun a E=>ls E fun a E=>ls E fun a E=>ls E fun a E=>ls E fun a E=>pt E rfl rfl fun a E=>wn ?_
  refine c_if E rfl (fun _=>?_) (fun h=>by cases h)
  refine sg<|aw E rfl fun a E=>wp_ret<|qag<|qan ?_
  refine qag ?_
  obtain rfl:=sj hF
  exact so (sr ⟨rfl,⟨ok.drop,E.d,⟨rv_t E rfl,trivial⟩⟩⟩)
 replace hF:=qaj hc23 hF
 replace E:=E.upd 34 hc23 rfl
 refine fv E qmI rfl fun a E=>ld E ok qaZ 0 rfl rfl rfl fun a E=>lw E (qb9 rfl rfl) fun a E=>pf E rfl rfl fun a E=>mv E rfl fun a E=>qap (decide (x7.Source > 9)) (fun hc24=>?_) (fun hc24=>?_)
 ·replace hF:=qak hc24 hF
  replace E:=E.upd 39 hc24 rfl
  refine ls E fun a E=>ls E fun a E=>ls E fun a E=>ls E fun a E=>ls E fun a E=>ls E fun a E=>ls E fun a E=>ls E fun a E=>?_
  refine pt E rfl rfl fun a E=>wn<|c_if E rfl (fun _=>?_) (fun h=>by cases h)
  refine sg<|aw E rfl fun a E=>wp_ret<|qag<|qan ?_
  refine qag ?_
  obtain rfl:=sj hF
  exact so (sr ⟨rfl,⟨ok.drop,E.d,⟨rv_t E rfl,trivial⟩⟩⟩)
 replace hF:=qaj hc24 hF
 replace E:=E.upd 39 hc24 rfl
 refine fv E qmM rfl fun a E=>ld E ok qaZ 0 rfl rfl rfl fun a E=>lw E (qbt rfl rfl) fun a E=>mv E rfl fun a E=>qap (x7.ID == (-1)) (fun hc25=>?_) (fun hc25=>?_)
 rotate_left
 ·as_aux_lemma =>
   replace hF:=qaj hc25 hF
   replace E:=E.upd 43 hc25 rfl
   refine ls E fun a E=>ls E fun a E=>ls E fun a E=>pf E rfl rfl fun a E=>pf E rfl rfl fun a E=>wn<|c_if E rfl (fun h=>by cases h) (fun _=>?_)
   refine wp_skip<|qaa<|sg<|aw E rfl fun a E=>wp_block ?_
   obtain ⟨o49,hL,hF⟩:=bnd hF
   refine qaO _ (fun (s:Int) a w=>Ok u m0 ([(b19,oc 66 [vs x7.Name,vi x7.ID,vi x7.Source])] :: S) w ∧ Env 65 a [(0,vcalls_0),(3,vi i_4),(4,vp b19),(5,vi s)] ∧ InR .i64 s) (fun (b:(Unit ⊕ Bool)) e a w=>(Sum.elim (fun b67=>e = (.exit 2) ∧ Ok u m0 ([(b19,oc 66 [vs x7.Name,vi x7.ID,vi x7.Source])] :: S) w ∧ Env 65 a [(0,vcalls_0),(3,vi i_4)]) (fun b68=>e = .ret ∧ qez u m0 S b68 a w)) b) ?_ ?_ N _ a w hL ⟨ok,E.keep [0,3,4,5],(ir 0)⟩
   rotate_left
   ·intro e a w _ hO
    rcases o49 with o49 | o49
    rotate_left
    ·replace hF:=qbf hF
     obtain ⟨rfl,hret⟩:=hO
     refine qan<|qan<|qag ?_
     obtain rfl:=sj hF
     exact so (sr ⟨rfl,hret⟩)
    replace hF:=qbe hF
    obtain ⟨rfl,ok,E⟩:=hO
    refine qaS<|qaq<|qaa<|qab<|mv E rfl fun a E=>lw E (qaG rfl rfl (InR.inc r5 (qas hcalls_0) hc6)) fun a E=>av E rfl fun a E=>wpList_nil ?_
    obtain rfl:=sj hF
    exact qay ⟨(ok.pk 1 [] rfl (by decide)),E.keep [0,3],(InR.inc r5 (qas hcalls_0) hc6)⟩
   rintro k_51 a w r ⟨ok,E,r52⟩ hF
   replace hF:qef N calls_0 i_4 x7 k_51 = some r:=hF
   unfold qef at hF
   refine wp_seq<|sg<|mv E rfl fun a E=>mv E rfl fun a E=>lw E (qaA rfl rfl) fun a E=>wn ?_
   refine cf E rfl hF (fun hc53 hF=>?_) fun hc53 hF=>?_
   rotate_left
   ·refine wp_exit<|qaB ?_
    obtain rfl:=sj hF
    exact so (sl ⟨rfl,⟨ok,E.keep [0,3]⟩⟩)
   refine wp_skip<|qaa<|wp_seq<|wp_block<|wp_seq<|qbc (by kernel_rfl) (by kernel_rfl) ok<|qv E (qad rfl) fun a E=>qv E (qad rfl) fun a E=>?_
   obtain ⟨x54,e55,hF⟩:=bnd hF
   obtain ⟨b56,o57,es58,hl59,rr60,at61,yy62⟩:=qaN qaQ hcalls_0 e55 (P:=Tryz.prog) (X:=.tmp 54) (I:=.tmp 55) (kd:=.i64) (qah E rfl) (qah E rfl)
   obtain ⟨rfl,l63,r64,r65⟩:=rr60
   refine qv E (yy62 _ _) fun a E=>qv E (qaf qej rfl) fun a E=>qv E (qao qav rfl (qae.ro (At.sub 0 1 at61))) fun a E=>qv E (qaf qej rfl) fun a E=>qv E (qao qav rfl (qae.own 0 rfl rfl)) fun a E=>qv E (qbl rfl rfl) fun a E=>wpQuiet_nil ?_
   intro w ok
   refine qaa<|cf E rfl hF (fun hc66 hF=>?_) fun hc66 hF=>?_
   rotate_left
   ·refine wp_skip<|qaq<|qaa<|qab<|mv E rfl fun a E=>lw E (qaG rfl rfl (InR.inc r52 r5 hc53)) fun a E=>av E rfl fun a E=>wpList_nil ?_
    obtain rfl:=sj hF
    exact qay ⟨ok,E.keep [0,3,4,5],(InR.inc r52 r5 hc53)⟩
   refine sg<|aw E rfl fun a E=>wp_ret<|qan<|qag ?_
   obtain rfl:=sj hF
   exact so (sr ⟨rfl,⟨ok.drop,E.d,⟨rv_t E rfl,trivial⟩⟩⟩)
 replace hF:=qak hc25 hF
 replace E:=E.upd 43 hc25 rfl
 refine fv E qmI rfl fun a E=>ld E ok qaZ 0 rfl rfl rfl fun a E=>lw E (qbt rfl rfl) fun a E=>pt E rfl rfl fun a E=>pf E rfl rfl fun a E=>wn<|cf E rfl hF (fun hc26 hF=>?_) fun hc26 hF=>?_
 ·refine sg<|aw E rfl fun a E=>wp_ret<|qag<|qan ?_
  refine qag ?_
  obtain rfl:=sj hF
  exact so (sr ⟨rfl,⟨ok.drop,E.d,⟨rv_t E rfl,trivial⟩⟩⟩)
 refine wp_skip<|qaa<|sg<|aw E rfl fun a E=>wp_block ?_
 obtain ⟨o28,hL,hF⟩:=bnd hF
 refine qaO _ (fun (s:Int) a w=>Ok u m0 ([(b19,oc 66 [vs x7.Name,vi x7.ID,vi x7.Source])] :: S) w ∧ Env 65 a [(0,vcalls_0),(3,vi i_4),(4,vp b19),(5,vi s)] ∧ InR .i64 s) (fun (b:(Unit ⊕ Bool)) e a w=>(Sum.elim (fun b46=>e = (.exit 2) ∧ Ok u m0 ([(b19,oc 66 [vs x7.Name,vi x7.ID,vi x7.Source])] :: S) w ∧ Env 65 a [(0,vcalls_0),(3,vi i_4)]) (fun b47=>e = .ret ∧ qez u m0 S b47 a w)) b) ?_ ?_ N _ a w hL ⟨ok,E.keep [0,3,4,5],(ir 0)⟩
 rotate_left
 ·intro e a w _ hO
  rcases o28 with o28 | o28
  rotate_left
  ·replace hF:=qbf hF
   obtain ⟨rfl,hret⟩:=hO
   refine qan<|qan<|qag ?_
   obtain rfl:=sj hF
   exact so (sr ⟨rfl,hret⟩)
  replace hF:=qbe hF
  obtain ⟨rfl,ok,E⟩:=hO
  refine qaS<|qaq<|qaa<|qab<|mv E rfl fun a E=>lw E (qaG rfl rfl (InR.inc r5 (qas hcalls_0) hc6)) fun a E=>av E rfl fun a E=>wpList_nil ?_
  obtain rfl:=sj hF
  exact qay ⟨(ok.pk 1 [] rfl (by decide)),E.keep [0,3],(InR.inc r5 (qas hcalls_0) hc6)⟩
 rintro k_30 a w r ⟨ok,E,r31⟩ hF
 replace hF:qee N calls_0 i_4 x7 k_30 = some r:=hF
 unfold qee at hF
 refine wp_seq<|sg<|mv E rfl fun a E=>mv E rfl fun a E=>lw E (qaA rfl rfl) fun a E=>wn ?_
 refine cf E rfl hF (fun hc32 hF=>?_) fun hc32 hF=>?_
 rotate_left
 ·refine wp_exit<|qaB ?_
  obtain rfl:=sj hF
  exact so (sl ⟨rfl,⟨ok,E.keep [0,3]⟩⟩)
 refine wp_skip<|qaa<|wp_seq<|wp_block<|wp_seq<|qbc (by kernel_rfl) (by kernel_rfl) ok<|qv E (qad rfl) fun a E=>qv E (qad rfl) fun a E=>?_
 obtain ⟨x33,e34,hF⟩:=bnd hF
 obtain ⟨b35,o36,es37,hl38,rr39,at40,yy41⟩:=qaN qaQ hcalls_0 e34 (P:=Tryz.prog) (X:=.tmp 54) (I:=.tmp 55) (kd:=.i64) (qah E rfl) (qah E rfl)
 obtain ⟨rfl,l42,r43,r44⟩:=rr39
 refine qv E (yy41 _ _) fun a E=>qv E (qaf qej rfl) fun a E=>qv E (qao qav rfl (qae.ro (At.sub 0 1 at40))) fun a E=>qv E (qaf qej rfl) fun a E=>qv E (qao qav rfl (qae.own 0 rfl rfl)) fun a E=>qv E (qbl rfl rfl) fun a E=>wpQuiet_nil ?_
 intro w ok
 refine qaa<|cf E rfl hF (fun hc45 hF=>?_) fun hc45 hF=>?_
 rotate_left
 ·refine wp_skip<|qaq<|qaa<|qab<|mv E rfl fun a E=>lw E (qaG rfl rfl (InR.inc r31 r5 hc32)) fun a E=>av E rfl fun a E=>wpList_nil ?_
  obtain rfl:=sj hF
  exact qay ⟨ok,E.keep [0,3,4,5],(InR.inc r31 r5 hc32)⟩
 refine sg<|aw E rfl fun a E=>wp_ret<|qan<|qag ?_
 obtain rfl:=sj hF
 exact so (sr ⟨rfl,⟨ok.drop,E.d,⟨rv_t E rfl,trivial⟩⟩⟩)
def qhS (u:World) (m0:Mem) (S:Segs) (r:Bool) (a:Act) (w:World):Prop :=
 Ok u m0 S w ∧ a.defers = [] ∧ RVs Tryz.prog a w [.t 2 (.bool r)]
theorem qeU (N:Nat) (s_0:List UInt8) (ls_0:s_0.length ≤ LIMS) {r:Bool} (hF:qdM N s_0 = some r) (hG:Glob u) (ok:Ok u m0 S w) :
  Calls Tryz.prog 42 [vs s_0].toArray w fun e w'=>(e = .returned (.bool r) ∧ Ok u m0 S w'):=by
 unfold qdM at hF
 refine en (qhS u m0 S) r Tryz.func42 rfl rfl rfl (by rintro a w ⟨ok,hd,hrv⟩; exact qaM [.t 2 (.bool r)] hd rfl hrv ⟨rfl,ok⟩) fun fin a E=>sg<|aw E rfl fun a E=>wp_seq<|wp_seq ?_
 refine qab<|aw E rfl fun a E=>wp_block ?_
 obtain ⟨o2,hL,hF⟩:=bnd hF
 refine qaO _ (fun (s:Int) a w=>Ok u m0 (S) w ∧ Env 28 a [(0,vs s_0),(3,vi s)] ∧ InR .i64 s) (fun (b:(Unit ⊕ Bool)) e a w=>(Sum.elim (fun b14=>e = (.exit 0) ∧ Ok u m0 (S) w ∧ Env 28 a [(0,vs s_0)]) (fun b15=>e = .ret ∧ qhS u m0 S b15 a w)) b) ?_ ?_ N _ a w hL ⟨ok,E.keep [0,3],(ir 0)⟩
 rotate_left
 ·intro e a w _ hO
  rcases o2 with o2 | o2
  rotate_left
  ·replace hF:=qbf hF
   obtain ⟨rfl,hret⟩:=hO
   refine qan<|qag ?_
   exact fin hF hret
  replace hF:=qbe hF
  obtain ⟨rfl,ok,E⟩:=hO
  refine qaS<|qaa<|sg<|mv E rfl fun a E=>lw E (qaV Tryz.underlying9 rfl) fun a E=>lw E (qbo rfl rfl) fun a E=>mv E rfl fun a E=>?_
  refine qap (decide ((s_0.length:Int) ≥ 1)) (fun hc13=>?_) (fun hc13=>?_)
  ·replace hF:=qak hc13 hF
   replace E:=E.upd 23 hc13 rfl
   refine mv E rfl fun a E=>lw E (qaV Tryz.underlying9 rfl) fun a E=>lw E (qcj rfl rfl) fun a E=>pt E rfl rfl fun a E=>aw E rfl fun a E=>wp_ret ?_
   exact fin hF ⟨ok,E.d,⟨rv_t E rfl,trivial⟩⟩
  replace hF:=qaj hc13 hF
  replace E:=E.upd 23 hc13 rfl
  refine ls E fun a E=>ls E fun a E=>ls E fun a E=>pf E rfl rfl fun a E=>aw E rfl fun a E=>wp_ret ?_
  exact fin hF ⟨ok,E.d,⟨rv_t E rfl,trivial⟩⟩
 rintro i_4 a w r ⟨ok,E,r5⟩ hF
 replace hF:qf2 N s_0 i_4 = some r:=hF
 unfold qf2 at hF
 refine wp_seq<|sg<|mv E rfl fun a E=>mv E rfl fun a E=>lw E (qaV Tryz.underlying9 rfl) fun a E=>lw E (qaA rfl rfl) fun a E=>wpList_nil ?_
 refine qaa<|cf E rfl hF (fun hc6 hF=>?_) fun hc6 hF=>?_
 rotate_left
 ·refine wp_exit<|qaB ?_
  obtain rfl:=sj hF
  exact so (sl ⟨rfl,⟨ok,E.keep [0]⟩⟩)
 refine wp_skip<|qaa<|wp_seq<|wp_block<|sg<|mv E rfl fun a E=>mv E rfl fun a E=>?_
 obtain ⟨c7,e8,hF⟩:=bnd hF
 refine lv E ok (qba Tryz.underlying9 rfl rfl e8) fun a E=>lw E (qaA rfl rfl) fun a E=>mv E rfl fun a E=>qap (decide ((c7.toNat:Int) < 97)) (fun hc9=>?_) (fun hc9=>?_)
 ·replace hF:=qak hc9 hF
  replace E:=E.upd 14 hc9 rfl
  refine ls E fun a E=>ls E fun a E=>ls E fun a E=>ls E fun a E=>pt E rfl rfl fun a E=>wn<|c_if E rfl (fun _=>?_) (fun h=>by cases h)
  refine sg<|aw E rfl fun a E=>wp_ret<|qan<|qag ?_
  obtain rfl:=sj hF
  exact so (sr ⟨rfl,⟨ok,E.d,⟨rv_t E rfl,trivial⟩⟩⟩)
 replace hF:=qaj hc9 hF
 replace E:=E.upd 14 hc9 rfl
 refine mv E rfl fun a E=>mv E rfl fun a E=>?_
 obtain ⟨c10,e11,hF⟩:=bnd hF
 refine lv E ok (qba Tryz.underlying9 rfl rfl e11) fun a E=>lw E (qb9 rfl rfl) fun a E=>pf E rfl rfl fun a E=>wn<|cf E rfl hF (fun hc12 hF=>?_) fun hc12 hF=>?_
 rotate_left
 ·refine wp_skip<|qaq<|qaa<|qab<|mv E rfl fun a E=>lw E (qaG rfl rfl (InR.inc r5 (InR.len ls_0) hc6)) fun a E=>av E rfl fun a E=>wpList_nil ?_
  obtain rfl:=sj hF
  exact qay ⟨ok,E.keep [0,3],(InR.inc r5 (InR.len ls_0) hc6)⟩
 refine sg<|aw E rfl fun a E=>wp_ret<|qan<|qag ?_
 obtain rfl:=sj hF
 exact so (sr ⟨rfl,⟨ok,E.d,⟨rv_t E rfl,trivial⟩⟩⟩)
def qho (u:World) (m0:Mem) (S:Segs) (r:Int) (a:Act) (w:World):Prop :=
 Ok u m0 S w ∧ a.defers = [] ∧ RVs Tryz.prog a w [.t 4 (.int .i64 r)] ∧ InR .i64 r
theorem qhq (N:Nat) (vs_0:Value) (s_0:List (State)) (hs_0:(pL 2 qbU) m0 [vs_0] s_0) (name_1:List UInt8) (lname_1:name_1.length ≤ LIMS) {r:Int} (hF:qe8 N s_0 name_1 = some r) (hG:Glob u) (ok:Ok u m0 S w) :
  Calls Tryz.prog 60 [vs_0,vs name_1].toArray w fun e w'=>(e = .returned (.int .i64 r) ∧ Ok u m0 S w') ∧ InR .i64 r:=by
 unfold qe8 at hF
 refine en (qho u m0 S) r Tryz.func60 rfl rfl rfl (by rintro a w ⟨ok,hd,hrv,h0⟩; exact qaM [.t 4 (.int .i64 r)] hd rfl hrv ⟨⟨rfl,ok⟩,h0⟩) fun fin a E=>sg<|aw E rfl fun a E=>wp_seq<|wp_seq ?_
 refine qab<|aw E rfl fun a E=>wp_block ?_
 obtain ⟨o2,hL,hF⟩:=bnd hF
 refine qaO _ (fun (s:Int) a w=>Ok u m0 (S) w ∧ Env 20 a [(0,vs_0),(1,vs name_1),(5,vi s)] ∧ InR .i64 s) (fun (b:(Unit ⊕ Int)) e a w=>(Sum.elim (fun b20=>e = (.exit 0) ∧ Ok u m0 (S) w ∧ Env 20 a []) (fun b21=>e = .ret ∧ qho u m0 S b21 a w)) b) ?_ ?_ N _ a w hL ⟨ok,E.keep [0,1,5],(ir 0)⟩
 rotate_left
 ·intro e a w _ hO
  rcases o2 with o2 | o2
  rotate_left
  ·replace hF:=qbf hF
   obtain ⟨rfl,hret⟩:=hO
   refine qan<|qag ?_
   exact fin hF hret
  replace hF:=qbe hF
  obtain ⟨rfl,ok,E⟩:=hO
  refine qaS<|qaa<|sg<|aw E rfl fun a E=>wp_ret ?_
  exact fin hF ⟨ok,E.d,⟨rv_t E rfl,trivial⟩,(ir (-1))⟩
 rintro i_4 a w r ⟨ok,E,r5⟩ hF
 replace hF:qfG N s_0 name_1 i_4 = some r:=hF
 unfold qfG at hF
 refine wp_seq<|sg<|mv E rfl fun a E=>mv E rfl fun a E=>lv E ok (qaE qbP hs_0 rfl) fun a E=>lw E (qaA rfl rfl) fun a E=>wpList_nil ?_
 refine qaa<|cf E rfl hF (fun hc6 hF=>?_) fun hc6 hF=>?_
 rotate_left
 ·refine wp_exit<|qaB ?_
  obtain rfl:=sj hF
  exact so (sl ⟨rfl,⟨ok,E.keep []⟩⟩)
 refine wp_skip<|qaa<|wp_seq<|wp_block<|sg<|mv E rfl fun a E=>mv E rfl fun a E=>?_
 obtain ⟨x7,e8,hF⟩:=bnd hF
 obtain ⟨b9,o10,es11,hl12,rr13,at14,yy15⟩:=qaN qbP hs_0 e8 (P:=Tryz.prog) (X:=.tmp 12) (I:=.tmp 13) (kd:=.i64) (qah E rfl) (qah E rfl)
 obtain ⟨c17,rfl,l16,h18⟩:=rr13
 refine lv E ok (yy15 _ _) fun a E=>fv E qhG rfl fun a E=>lv E ok (qao qav rfl (qae.ro (At.sub 0 1 at14))) fun a E=>mv E rfl fun a E=>lw E (qbl rfl rfl) fun a E=>wn<|cf E rfl hF (fun hc19 hF=>?_) fun hc19 hF=>?_
 rotate_left
 ·refine wp_skip<|qaq<|qaa<|qab<|mv E rfl fun a E=>lw E (qaG rfl rfl (InR.inc r5 (qas hs_0) hc6)) fun a E=>av E rfl fun a E=>wpList_nil ?_
  obtain rfl:=sj hF
  exact qay ⟨ok,E.keep [0,1,5],(InR.inc r5 (qas hs_0) hc6)⟩
 refine sg<|mv E rfl fun a E=>aw E rfl fun a E=>wp_ret<|qan ?_
 refine qag ?_
 obtain rfl:=sj hF
 exact so (sr ⟨rfl,⟨ok,E.d,⟨rv_t E rfl,trivial⟩,r5⟩⟩)
def qfz (u:World) (m0:Mem) (S:Segs) (r:Bool) (a:Act) (w:World):Prop :=
 Ok u m0 S w ∧ a.defers = [] ∧ RVs Tryz.prog a w [.t 2 (.bool r)]
theorem qjG (N:Nat) (vx_0:List Value) (x_0:Item) (hx_0:qbO m0 vx_0 x_0) {r:Bool} (hF:qgq N x_0 = some r) (hG:Glob u) (ok:Ok u m0 S w) :
  Calls Tryz.prog 85 [.agg vx_0.toArray].toArray w fun e w'=>(e = .returned (.bool r) ∧ Ok u m0 S w'):=by
 obtain ⟨c2,rfl,l1,h3,r4,r5⟩:=hx_0
 unfold qgq at hF
 refine en (qfz u m0 S) r Tryz.func85 rfl rfl rfl (by rintro a w ⟨ok,hd,hrv⟩; exact qaM [.t 2 (.bool r)] hd rfl hrv ⟨rfl,ok⟩) fun fin a E=>sg<|qdk E ok rfl rfl rfl fun b6 a w E ok=>aw E rfl fun a E=>wp_seq ?_
 refine sg<|fv E qd1 rfl fun a E=>ld E ok qaZ 0 rfl rfl rfl fun a E=>lw E (qaA rfl rfl) fun a E=>mv E rfl fun a E=>qap (decide (x_0.Least < 0)) (fun hc7=>?_) (fun hc7=>?_)
 ·replace hF:=qak hc7 hF
  replace E:=E.upd 7 hc7 rfl
  refine ls E fun a E=>ls E fun a E=>ls E fun a E=>pt E rfl rfl fun a E=>mv E rfl fun a E=>ls E fun a E=>ls E fun a E=>ls E fun a E=>?_
  refine ls E fun a E=>ls E fun a E=>ls E fun a E=>ls E fun a E=>ls E fun a E=>pt E rfl rfl fun a E=>wn ?_
  refine c_if E rfl (fun _=>?_) (fun h=>by cases h)
  refine sg<|aw E rfl fun a E=>wp_ret<|qag ?_
  exact fin hF ⟨ok.drop,E.d,⟨rv_t E rfl,trivial⟩⟩
 replace hF:=qaj hc7 hF
 replace E:=E.upd 7 hc7 rfl
 refine fv E qd1 rfl fun a E=>ld E ok qaZ 0 rfl rfl rfl fun a E=>lw E (qb9 rfl rfl) fun a E=>pf E rfl rfl fun a E=>mv E rfl fun a E=>qap (decide (x_0.Least > 1)) (fun hc8=>?_) (fun hc8=>?_)
 ·replace hF:=qak hc8 hF
  replace E:=E.upd 12 hc8 rfl
  refine ls E fun a E=>ls E fun a E=>ls E fun a E=>ls E fun a E=>ls E fun a E=>ls E fun a E=>ls E fun a E=>ls E fun a E=>?_
  refine pt E rfl rfl fun a E=>wn<|c_if E rfl (fun _=>?_) (fun h=>by cases h)
  refine sg<|aw E rfl fun a E=>wp_ret<|qag ?_
  exact fin hF ⟨ok.drop,E.d,⟨rv_t E rfl,trivial⟩⟩
 replace hF:=qaj hc8 hF
 replace E:=E.upd 12 hc8 rfl
 refine fv E qdZ rfl fun a E=>ld E ok qaZ 0 rfl rfl rfl fun a E=>lw E (qdG rfl rfl) fun a E=>mv E rfl fun a E=>qap (x_0.Most != 1) (fun hc9=>?_) (fun hc9=>?_)
 rotate_left
 ·as_aux_lemma =>
   replace hF:=qaj hc9 hF
   replace E:=E.upd 16 hc9 rfl
   refine ls E fun a E=>ls E fun a E=>ls E fun a E=>pf E rfl rfl fun a E=>pf E rfl rfl fun a E=>wn<|c_if E rfl (fun h=>by cases h) (fun _=>?_)
   refine wp_skip<|qaa<|wp_seq<|sg<|fv E qfJ rfl fun a E=>ld E ok qav 0 rfl rfl rfl fun a E=>lw E (qcn rfl rfl) fun a E=>?_
   refine wn<|cf E rfl hF (fun hc46 hF=>?_) fun hc46 hF=>?_
   ·refine sg<|fv E qfJ rfl fun a E=>ld E ok qav 0 rfl rfl rfl fun a E=>lw E (qaV Tryz.underlying9 rfl) fun a E=>lw E (qcj rfl rfl) fun a E=>mv E rfl fun a E=>qap (decide ((x_0.Text.length:Int) ≤ 40)) (fun hc47=>?_) (fun hc47=>?_)
    rotate_left
    ·replace hF:=qaj hc47 hF
     replace E:=E.upd 29 hc47 rfl
     refine ls E fun a E=>ls E fun a E=>ls E fun a E=>ls E fun a E=>pf E rfl rfl fun a E=>mv E rfl fun a E=>ls E fun a E=>ls E fun a E=>?_
     refine ls E fun a E=>pf E rfl rfl fun a E=>aw E rfl fun a E=>wp_ret<|qag ?_
     exact fin hF ⟨ok.drop,E.d,⟨rv_t E rfl,trivial⟩⟩
    replace hF:=qak hc47 hF
    replace E:=E.upd 29 hc47 rfl
    refine fv E qbv rfl fun a E=>ld E ok qbZ 0 rfl rfl rfl fun a E=>lv E ok (qaE qbV h3 rfl) fun a E=>lw E (qbt rfl rfl) fun a E=>pt E rfl rfl fun a E=>mv E rfl fun a E=>qap ((x_0.Ranges.length:Int) == 0) (fun hc48=>?_) (fun hc48=>?_)
    ·replace hF:=qak hc48 hF
     replace E:=E.upd 35 hc48 rfl
     refine fv E qiy rfl fun a E=>ld E ok qhi 0 rfl rfl rfl fun a E=>lw E (qbQ rfl) fun a E=>pt E rfl rfl fun a E=>aw E rfl fun a E=>wp_ret ?_
     refine qag ?_
     exact fin hF ⟨ok.drop,E.d,⟨rv_t E rfl,trivial⟩⟩
    replace hF:=qaj hc48 hF
    replace E:=E.upd 35 hc48 rfl
    refine ls E fun a E=>ls E fun a E=>ls E fun a E=>pf E rfl rfl fun a E=>aw E rfl fun a E=>wp_ret ?_
    refine qag ?_
    exact fin hF ⟨ok.drop,E.d,⟨rv_t E rfl,trivial⟩⟩
   refine wp_skip<|qaa<|wp_seq<|sg<|aw E rfl fun a E=>?_
   refine wp_block ?_
   obtain ⟨o50,hL,hF⟩:=bnd hF
   refine qaO _ (fun (s:Int) a w=>Ok u m0 ([(b6,oc 138 [vs x_0.Text,c2,vb x_0.Not,vi x_0.Least,vi x_0.Most])] :: S) w ∧ Env 70 a [(1,vp b6),(3,vi s)] ∧ InR .i64 s) (fun (b:(Unit ⊕ Bool)) e a w=>(Sum.elim (fun b79=>e = (.exit 0) ∧ Ok u m0 ([(b6,oc 138 [vs x_0.Text,c2,vb x_0.Not,vi x_0.Least,vi x_0.Most])] :: S) w ∧ Env 70 a [(1,vp b6)]) (fun b80=>e = .ret ∧ qfz u m0 S b80 a w)) b) ?_ ?_ N _ a w hL ⟨ok,E.keep [1,3],(ir 0)⟩
   rotate_left
   ·intro e a w _ hO
    rcases o50 with o50 | o50
    rotate_left
    ·replace hF:=qbf hF
     obtain ⟨rfl,hret⟩:=hO
     refine qan<|qag ?_
     exact fin hF hret
    replace hF:=qbe hF
    obtain ⟨rfl,ok,E⟩:=hO
    refine qaS<|qaa<|sg<|fv E qbv rfl fun a E=>ld E ok qbZ 0 rfl rfl rfl fun a E=>lv E ok (qaE qbV h3 rfl) fun a E=>lw E (qbo rfl rfl) fun a E=>?_
    refine mv E rfl fun a E=>qap (decide ((x_0.Ranges.length:Int) ≥ 1)) (fun hc78=>?_) (fun hc78=>?_)
    ·replace hF:=qak hc78 hF
     replace E:=E.upd 64 hc78 rfl
     refine fv E qbv rfl fun a E=>ld E ok qbZ 0 rfl rfl rfl fun a E=>lv E ok (qaE qbV h3 rfl) fun a E=>lw E (qcj rfl rfl) fun a E=>pt E rfl rfl fun a E=>aw E rfl fun a E=>?_
     refine wp_ret ?_
     exact fin hF ⟨ok.drop,E.d,⟨rv_t E rfl,trivial⟩⟩
    replace hF:=qaj hc78 hF
    replace E:=E.upd 64 hc78 rfl
    refine ls E fun a E=>ls E fun a E=>ls E fun a E=>ls E fun a E=>pf E rfl rfl fun a E=>aw E rfl fun a E=>?_
    refine wp_ret ?_
    exact fin hF ⟨ok.drop,E.d,⟨rv_t E rfl,trivial⟩⟩
   rintro i_52 a w r ⟨ok,E,r53⟩ hF
   replace hF:qfc N x_0 i_52 = some r:=hF
   unfold qfc at hF
   refine wp_seq<|sg<|mv E rfl fun a E=>fv E qbv rfl fun a E=>ld E ok qbZ 0 rfl rfl rfl fun a E=>lv E ok (qaE qbV h3 rfl) fun a E=>lw E (qaA rfl rfl) fun a E=>?_
   refine wn<|cf E rfl hF (fun hc54 hF=>?_) fun hc54 hF=>?_
   rotate_left
   ·refine wp_exit<|qaB ?_
    obtain rfl:=sj hF
    exact so (sl ⟨rfl,⟨ok,E.keep [1]⟩⟩)
   refine wp_skip<|qaa<|wp_seq<|wp_block<|wp_seq<|qbc (by kernel_rfl) (by kernel_rfl) ok<|qv E (qaf qbv rfl) fun a E=>qv E (qao qbZ rfl (qae.own 0 rfl rfl)) fun a E=>?_
   refine qv E (qad rfl) fun a E=>?_
   obtain ⟨x55,e56,hF⟩:=bnd hF
   obtain ⟨b57,o58,es59,hl60,rr61,at62,yy63⟩:=qaN qbV h3 e56 (P:=Tryz.prog) (X:=.tmp 48) (I:=.tmp 49) (kd:=.i64) (qah E rfl) (qah E rfl)
   obtain ⟨rfl,r64,r65⟩:=rr61
   refine qv E (yy63 _ _) fun a E=>qv E (qaf qjF rfl) fun a E=>qv E (qao qfb rfl (qae.ro (At.sub 0 1 at62))) fun a E=>qv E (qaf qbv rfl) fun a E=>qv E (qao qbZ rfl (qae.own 0 rfl rfl)) fun a E=>qv E (qad rfl) fun a E=>?_
   obtain ⟨x66,e67,hF⟩:=bnd hF
   obtain ⟨b68,o69,es70,hl71,rr72,at73,yy74⟩:=qaN qbV h3 e67 (P:=Tryz.prog) (X:=.tmp 54) (I:=.tmp 55) (kd:=.i64) (qah E rfl) (qah E rfl)
   obtain ⟨rfl,r75,r76⟩:=rr72
   refine qv E (yy74 _ _) fun a E=>qv E (qaf qjN rfl) fun a E=>qv E (qao qfb rfl (qae.ro (At.sub 1 1 at73))) fun a E=>qv E (qb9 rfl rfl) fun a E=>wpQuiet_nil ?_
   intro w ok
   refine qaa<|cf E rfl hF (fun hc77 hF=>?_) fun hc77 hF=>?_
   rotate_left
   ·refine wp_skip<|qaq<|qaa<|qab<|mv E rfl fun a E=>lw E (qaG rfl rfl (InR.inc r53 (qas h3) hc54)) fun a E=>av E rfl fun a E=>wpList_nil ?_
    obtain rfl:=sj hF
    exact qay ⟨ok,E.keep [1,3],(InR.inc r53 (qas h3) hc54)⟩
   refine sg<|aw E rfl fun a E=>wp_ret<|qan<|qag ?_
   obtain rfl:=sj hF
   exact so (sr ⟨rfl,⟨ok.drop,E.d,⟨rv_t E rfl,trivial⟩⟩⟩)
 replace hF:=qak hc9 hF
 replace E:=E.upd 16 hc9 rfl
 refine fv E qdZ rfl fun a E=>ld E ok qaZ 0 rfl rfl rfl fun a E=>lw E (qdG rfl rfl) fun a E=>pt E rfl rfl fun a E=>pf E rfl rfl fun a E=>wn<|cf E rfl hF (fun hc10 hF=>?_) fun hc10 hF=>?_
 ·refine sg<|aw E rfl fun a E=>wp_ret<|qag ?_
  exact fin hF ⟨ok.drop,E.d,⟨rv_t E rfl,trivial⟩⟩
 refine wp_skip<|qaa<|wp_seq<|sg<|fv E qfJ rfl fun a E=>ld E ok qav 0 rfl rfl rfl fun a E=>lw E (qcn rfl rfl) fun a E=>?_
 refine wn<|cf E rfl hF (fun hc11 hF=>?_) fun hc11 hF=>?_
 ·refine sg<|fv E qfJ rfl fun a E=>ld E ok qav 0 rfl rfl rfl fun a E=>lw E (qaV Tryz.underlying9 rfl) fun a E=>lw E (qcj rfl rfl) fun a E=>mv E rfl fun a E=>qap (decide ((x_0.Text.length:Int) ≤ 40)) (fun hc12=>?_) (fun hc12=>?_)
  rotate_left
  ·replace hF:=qaj hc12 hF
   replace E:=E.upd 29 hc12 rfl
   refine ls E fun a E=>ls E fun a E=>ls E fun a E=>ls E fun a E=>pf E rfl rfl fun a E=>mv E rfl fun a E=>ls E fun a E=>ls E fun a E=>?_
   refine ls E fun a E=>pf E rfl rfl fun a E=>aw E rfl fun a E=>wp_ret<|qag ?_
   exact fin hF ⟨ok.drop,E.d,⟨rv_t E rfl,trivial⟩⟩
  replace hF:=qak hc12 hF
  replace E:=E.upd 29 hc12 rfl
  refine fv E qbv rfl fun a E=>ld E ok qbZ 0 rfl rfl rfl fun a E=>lv E ok (qaE qbV h3 rfl) fun a E=>lw E (qbt rfl rfl) fun a E=>pt E rfl rfl fun a E=>mv E rfl fun a E=>qap ((x_0.Ranges.length:Int) == 0) (fun hc13=>?_) (fun hc13=>?_)
  ·replace hF:=qak hc13 hF
   replace E:=E.upd 35 hc13 rfl
   refine fv E qiy rfl fun a E=>ld E ok qhi 0 rfl rfl rfl fun a E=>lw E (qbQ rfl) fun a E=>pt E rfl rfl fun a E=>aw E rfl fun a E=>wp_ret ?_
   refine qag ?_
   exact fin hF ⟨ok.drop,E.d,⟨rv_t E rfl,trivial⟩⟩
  replace hF:=qaj hc13 hF
  replace E:=E.upd 35 hc13 rfl
  refine ls E fun a E=>ls E fun a E=>ls E fun a E=>pf E rfl rfl fun a E=>aw E rfl fun a E=>wp_ret ?_
  refine qag ?_
  exact fin hF ⟨ok.drop,E.d,⟨rv_t E rfl,trivial⟩⟩
 refine wp_skip<|qaa<|wp_seq<|sg<|aw E rfl fun a E=>?_
 refine wp_block ?_
 obtain ⟨o15,hL,hF⟩:=bnd hF
 refine qaO _ (fun (s:Int) a w=>Ok u m0 ([(b6,oc 138 [vs x_0.Text,c2,vb x_0.Not,vi x_0.Least,vi x_0.Most])] :: S) w ∧ Env 70 a [(1,vp b6),(3,vi s)] ∧ InR .i64 s) (fun (b:(Unit ⊕ Bool)) e a w=>(Sum.elim (fun b44=>e = (.exit 0) ∧ Ok u m0 ([(b6,oc 138 [vs x_0.Text,c2,vb x_0.Not,vi x_0.Least,vi x_0.Most])] :: S) w ∧ Env 70 a [(1,vp b6)]) (fun b45=>e = .ret ∧ qfz u m0 S b45 a w)) b) ?_ ?_ N _ a w hL ⟨ok,E.keep [1,3],(ir 0)⟩
 rotate_left
 ·intro e a w _ hO
  rcases o15 with o15 | o15
  rotate_left
  ·replace hF:=qbf hF
   obtain ⟨rfl,hret⟩:=hO
   refine qan<|qag ?_
   exact fin hF hret
  replace hF:=qbe hF
  obtain ⟨rfl,ok,E⟩:=hO
  refine qaS<|qaa<|sg<|fv E qbv rfl fun a E=>ld E ok qbZ 0 rfl rfl rfl fun a E=>lv E ok (qaE qbV h3 rfl) fun a E=>lw E (qbo rfl rfl) fun a E=>?_
  refine mv E rfl fun a E=>qap (decide ((x_0.Ranges.length:Int) ≥ 1)) (fun hc43=>?_) (fun hc43=>?_)
  ·replace hF:=qak hc43 hF
   replace E:=E.upd 64 hc43 rfl
   refine fv E qbv rfl fun a E=>ld E ok qbZ 0 rfl rfl rfl fun a E=>lv E ok (qaE qbV h3 rfl) fun a E=>lw E (qcj rfl rfl) fun a E=>pt E rfl rfl fun a E=>aw E rfl fun a E=>?_
   refine wp_ret ?_
   exact fin hF ⟨ok.drop,E.d,⟨rv_t E rfl,trivial⟩⟩
  replace hF:=qaj hc43 hF
  replace E:=E.upd 64 hc43 rfl
  refine ls E fun a E=>ls E fun a E=>ls E fun a E=>ls E fun a E=>pf E rfl rfl fun a E=>aw E rfl fun a E=>?_
  refine wp_ret ?_
  exact fin hF ⟨ok.drop,E.d,⟨rv_t E rfl,trivial⟩⟩
 rintro i_17 a w r ⟨ok,E,r18⟩ hF
 replace hF:qfd N x_0 i_17 = some r:=hF
 unfold qfd at hF
 refine wp_seq<|sg<|mv E rfl fun a E=>fv E qbv rfl fun a E=>ld E ok qbZ 0 rfl rfl rfl fun a E=>lv E ok (qaE qbV h3 rfl) fun a E=>lw E (qaA rfl rfl) fun a E=>?_
 refine wn<|cf E rfl hF (fun hc19 hF=>?_) fun hc19 hF=>?_
 rotate_left
 ·refine wp_exit<|qaB ?_
  obtain rfl:=sj hF
  exact so (sl ⟨rfl,⟨ok,E.keep [1]⟩⟩)
 refine wp_skip<|qaa<|wp_seq<|wp_block<|wp_seq<|qbc (by kernel_rfl) (by kernel_rfl) ok<|qv E (qaf qbv rfl) fun a E=>qv E (qao qbZ rfl (qae.own 0 rfl rfl)) fun a E=>?_
 refine qv E (qad rfl) fun a E=>?_
 obtain ⟨x20,e21,hF⟩:=bnd hF
 obtain ⟨b22,o23,es24,hl25,rr26,at27,yy28⟩:=qaN qbV h3 e21 (P:=Tryz.prog) (X:=.tmp 48) (I:=.tmp 49) (kd:=.i64) (qah E rfl) (qah E rfl)
 obtain ⟨rfl,r29,r30⟩:=rr26
 refine qv E (yy28 _ _) fun a E=>qv E (qaf qjF rfl) fun a E=>qv E (qao qfb rfl (qae.ro (At.sub 0 1 at27))) fun a E=>qv E (qaf qbv rfl) fun a E=>qv E (qao qbZ rfl (qae.own 0 rfl rfl)) fun a E=>qv E (qad rfl) fun a E=>?_
 obtain ⟨x31,e32,hF⟩:=bnd hF
 obtain ⟨b33,o34,es35,hl36,rr37,at38,yy39⟩:=qaN qbV h3 e32 (P:=Tryz.prog) (X:=.tmp 54) (I:=.tmp 55) (kd:=.i64) (qah E rfl) (qah E rfl)
 obtain ⟨rfl,r40,r41⟩:=rr37
 refine qv E (yy39 _ _) fun a E=>qv E (qaf qjN rfl) fun a E=>qv E (qao qfb rfl (qae.ro (At.sub 1 1 at38))) fun a E=>qv E (qb9 rfl rfl) fun a E=>wpQuiet_nil ?_
 intro w ok
 refine qaa<|cf E rfl hF (fun hc42 hF=>?_) fun hc42 hF=>?_
 rotate_left
 ·refine wp_skip<|qaq<|qaa<|qab<|mv E rfl fun a E=>lw E (qaG rfl rfl (InR.inc r18 (qas h3) hc19)) fun a E=>av E rfl fun a E=>wpList_nil ?_
  obtain rfl:=sj hF
  exact qay ⟨ok,E.keep [1,3],(InR.inc r18 (qas h3) hc19)⟩
 refine sg<|aw E rfl fun a E=>wp_ret<|qan<|qag ?_
 obtain rfl:=sj hF
 exact so (sr ⟨rfl,⟨ok.drop,E.d,⟨rv_t E rfl,trivial⟩⟩⟩)
def qg7 (u:World) (m0:Mem) (S:Segs) (r:Bool) (a:Act) (w:World):Prop :=
 Ok u m0 S w ∧ a.defers = [] ∧ RVs Tryz.prog a w [.t 2 (.bool r)]
theorem qfE (N:Nat) (vr_0:List Value) (r_0:Rule) (hr_0:qdv m0 vr_0 r_0) {r:Bool} (hF:qeL N r_0 = some r) (hG:Glob u) (ok:Ok u m0 S w) :
  Calls Tryz.prog 61 [.agg vr_0.toArray].toArray w fun e w'=>(e = .returned (.bool r) ∧ Ok u m0 S w'):=by
 obtain ⟨c2,rfl,l1,h3,l4⟩:=hr_0
 unfold qeL at hF
 refine en (qg7 u m0 S) r Tryz.func61 rfl rfl rfl (by rintro a w ⟨ok,hd,hrv⟩; exact qaM [.t 2 (.bool r)] hd rfl hrv ⟨rfl,ok⟩) fun fin a E=>sg<|qdk E ok rfl rfl rfl fun b5 a w E ok=>aw E rfl fun a E=>wp_seq ?_
 refine sg<|aw E rfl fun a E=>wp_block ?_
 obtain ⟨o7,hL,hF⟩:=bnd hF
 refine qaO _ (fun (s:Int) a w=>Ok u m0 ([(b5,oc 114 [vs r_0.Kind,c2,vs r_0.Next])] :: S) w ∧ Env 33 a [(1,vp b5),(3,vi s)] ∧ InR .i64 s) (fun (b:(Unit ⊕ Bool)) e a w=>(Sum.elim (fun b33=>e = (.exit 0) ∧ Ok u m0 ([(b5,oc 114 [vs r_0.Kind,c2,vs r_0.Next])] :: S) w ∧ Env 33 a [(1,vp b5)]) (fun b34=>e = .ret ∧ qg7 u m0 S b34 a w)) b) ?_ ?_ N _ a w hL ⟨ok,E.keep [1,3],(ir 0)⟩
 ·rintro i_9 a w r ⟨ok,E,r10⟩ hF
  replace hF:qfe N r_0 i_9 = some r:=hF
  unfold qfe at hF
  refine wp_seq<|sg<|mv E rfl fun a E=>fv E qcw rfl fun a E=>ld E ok qdW 0 rfl rfl rfl fun a E=>lv E ok (qaE qcx h3 rfl) fun a E=>lw E (qaA rfl rfl) fun a E=>?_
  refine wn<|cf E rfl hF (fun hc11 hF=>?_) fun hc11 hF=>?_
  rotate_left
  ·refine wp_exit<|qaB ?_
   obtain rfl:=sj hF
   exact so (sl ⟨rfl,⟨ok,E.keep [1]⟩⟩)
  refine wp_skip<|qaa<|wp_seq<|wp_block<|sg<|fv E qcw rfl fun a E=>ld E ok qdW 0 rfl rfl rfl fun a E=>?_
  refine mv E rfl fun a E=>?_
  obtain ⟨x12,e13,hF⟩:=bnd hF
  obtain ⟨b14,o15,es16,hl17,rr18,at19,yy20⟩:=qaN qcx h3 e13 (P:=Tryz.prog) (X:=.tmp 12) (I:=.tmp 13) (kd:=.i64) (qah E rfl) (qah E rfl)
  obtain ⟨c22,rfl,l21,h23,r24,r25⟩:=rr18
  refine lv E ok (yy20 _ _) fun a E=>lv E ok (qat (cs:=[vs x12.Text,c22,vb x12.Not,vi x12.Least,vi x12.Most]) qbh rfl rfl (qae.ro at19)) fun a E=>?_
  obtain ⟨r26,e27,hF⟩:=bnd hF
  refine lc E qt1 rfl (qjG N _ x12 ⟨_,rfl,l21,h23,r24,r25⟩ e27 hG ok) fun w ok a E=>lw E (qbQ rfl) fun a E=>wn<|cf E rfl hF (fun hc28 hF=>?_) fun hc28 hF=>?_
  rotate_left
  ·refine wp_skip<|qaq<|qaa<|qab<|mv E rfl fun a E=>lw E (qaG rfl rfl (InR.inc r10 (qas h3) hc11)) fun a E=>av E rfl fun a E=>wpList_nil ?_
   obtain rfl:=sj hF
   exact qay ⟨ok,E.keep [1,3],(InR.inc r10 (qas h3) hc11)⟩
  refine sg<|aw E rfl fun a E=>wp_ret<|qan<|qag ?_
  obtain rfl:=sj hF
  exact so (sr ⟨rfl,⟨ok.drop,E.d,⟨rv_t E rfl,trivial⟩⟩⟩)
 intro e a w _ hO
 rcases o7 with o7 | o7
 rotate_left
 ·replace hF:=qbf hF
  obtain ⟨rfl,hret⟩:=hO
  refine qan<|qag ?_
  exact fin hF hret
 replace hF:=qbe hF
 obtain ⟨rfl,ok,E⟩:=hO
 refine qaS<|qaa<|sg<|fv E qjI rfl fun a E=>ld E ok qav 0 rfl rfl rfl fun a E=>?_
 obtain ⟨r29,e30,hF⟩:=bnd hF
 refine lc E qnk rfl (qeU N r_0.Kind l1 e30 hG ok) fun w ok a E=>mv E rfl fun a E=>qap r29 (fun hc31=>?_) (fun hc31=>?_)
 rotate_left
 ·replace hF:=qaj hc31 hF
  replace E:=E.upd 21 hc31 rfl
  refine ls E fun a E=>ls E fun a E=>ls E fun a E=>ls E fun a E=>pf E rfl rfl fun a E=>mv E rfl fun a E=>ls E fun a E=>ls E fun a E=>?_
  refine ls E fun a E=>ls E fun a E=>pf E rfl rfl fun a E=>aw E rfl fun a E=>wp_ret ?_
  exact fin hF ⟨ok.drop,E.d,⟨rv_t E rfl,trivial⟩⟩
 replace hF:=qak hc31 hF
 replace E:=E.upd 21 hc31 rfl
 refine fv E qcw rfl fun a E=>ld E ok qdW 0 rfl rfl rfl fun a E=>lv E ok (qaE qcx h3 rfl) fun a E=>lw E (qbo rfl rfl) fun a E=>pt E rfl rfl fun a E=>mv E rfl fun a E=>qap (decide ((r_0.Items.length:Int) ≥ 1)) (fun hc32=>?_) (fun hc32=>?_)
 ·replace hF:=qak hc32 hF
  replace E:=E.upd 27 hc32 rfl
  refine fv E qcw rfl fun a E=>ld E ok qdW 0 rfl rfl rfl fun a E=>lv E ok (qaE qcx h3 rfl) fun a E=>lw E (qcj rfl rfl) fun a E=>pt E rfl rfl fun a E=>aw E rfl fun a E=>?_
  refine wp_ret ?_
  exact fin hF ⟨ok.drop,E.d,⟨rv_t E rfl,trivial⟩⟩
 replace hF:=qaj hc32 hF
 replace E:=E.upd 27 hc32 rfl
 refine ls E fun a E=>ls E fun a E=>ls E fun a E=>ls E fun a E=>pf E rfl rfl fun a E=>aw E rfl fun a E=>?_
 refine wp_ret ?_
 exact fin hF ⟨ok.drop,E.d,⟨rv_t E rfl,trivial⟩⟩
def qk5 (u:World) (m0:Mem) (S:Segs) (r:(List UInt8)) (a:Act) (w:World):Prop :=
 Ok u m0 S w ∧ a.defers = [] ∧ RVs Tryz.prog a w [.t 4 (.string (bs r))] ∧ r.length ≤ LIMS
theorem qgK (N:Nat) (c_0:Int) (rc_0:InR .u8 c_0) (brackets_1:Bool) {r:(List UInt8)} (hF:qdq N c_0 brackets_1 = some r) (hG:Glob u) (ok:Ok u m0 S w) :
  Calls Tryz.prog 110 [Value.int .u8 c_0,vb brackets_1].toArray w fun e w'=>(e = .returned (.string (bs r)) ∧ Ok u m0 S w') ∧ r.length ≤ LIMS:=by
 unfold qdq at hF
 refine en (qk5 u m0 S) r Tryz.func110 rfl rfl rfl (by rintro a w ⟨ok,hd,hrv,h0⟩; exact qaM [.t 4 (.string (bs r))] hd rfl hrv ⟨⟨rfl,ok⟩,h0⟩) fun fin a E=>sg<|aw E rfl fun a E=>sg ?_
 refine aw E rfl fun a E=>sg<|mv E rfl fun a E=>lw E (qbt rfl rfl) fun a E=>mv E rfl fun a E=>?_
 refine qap (c_0 == 92) (fun hc1=>?_) (fun hc1=>?_)
 ·replace hF:=qak hc1 hF
  replace E:=E.upd 9 hc1 rfl
  refine ls E fun a E=>ls E fun a E=>ls E fun a E=>ls E fun a E=>ls E fun a E=>ls E fun a E=>pt E rfl rfl fun a E=>mv E rfl fun a E=>?_
  refine ls E fun a E=>ls E fun a E=>ls E fun a E=>ls E fun a E=>ls E fun a E=>ls E fun a E=>ls E fun a E=>ls E fun a E=>?_
  refine ls E fun a E=>ls E fun a E=>ls E fun a E=>ls E fun a E=>ls E fun a E=>ls E fun a E=>ls E fun a E=>ls E fun a E=>?_
  refine ls E fun a E=>pt E rfl rfl fun a E=>aw E rfl fun a E=>wp_seq<|wp_block<|wp_seq ?_
  refine qab<|mv E rfl fun a E=>aw E rfl fun a E=>c_if E rfl (fun _=>?_) (fun h=>by cases h)
  refine sg<|mv E rfl fun a E=>lv E ok (qb0 Tryz.underlying5 Tryz.underlying9 rfl) fun a E=>?_
  obtain ⟨s2,e3,hF⟩:=bnd hF
  refine lw E (qa5 rfl rfl e3) fun a E=>aw E rfl fun a E=>wp_ret<|qan<|qag ?_
  exact fin hF ⟨ok,E.d,⟨rv_t E rfl,trivial⟩,(qa1 e3)⟩
 replace hF:=qaj hc1 hF
 replace E:=E.upd 9 hc1 rfl
 refine mv E rfl fun a E=>lw E (qbQ rfl) fun a E=>mv E rfl fun a E=>qap (!brackets_1) (fun hc4=>?_) (fun hc4=>?_)
 rotate_left
 ·as_aux_lemma =>
   replace hF:=qaj hc4 hF
   replace E:=E.upd 12 hc4 rfl
   refine ls E fun a E=>ls E fun a E=>pf E rfl rfl fun a E=>pf E rfl rfl fun a E=>mv E rfl fun a E=>mv E rfl fun a E=>mv E rfl fun a E=>qap brackets_1 (fun hc101=>?_) (fun hc101=>?_)
   rotate_left
   ·as_aux_lemma =>
     replace hF:=qaj hc101 hF
     replace E:=E.upd 19 hc101 rfl
     refine ls E fun a E=>ls E fun a E=>ls E fun a E=>ls E fun a E=>ls E fun a E=>ls E fun a E=>ls E fun a E=>ls E fun a E=>?_
     refine ls E fun a E=>ls E fun a E=>ls E fun a E=>ls E fun a E=>ls E fun a E=>ls E fun a E=>pf E rfl rfl fun a E=>pf E rfl rfl fun a E=>?_
     refine aw E rfl fun a E=>wp_seq<|wp_block<|sg<|mv E rfl fun a E=>?_
     refine aw E rfl fun a E=>c_if E rfl (fun h=>by cases h) (fun _=>?_)
     refine sg<|mv E rfl fun a E=>lw E (qaA rfl rfl) fun a E=>mv E rfl fun a E=>qap (decide (c_0 < 32)) (fun hc154=>?_) (fun hc154=>?_)
     ·replace hF:=qak hc154 hF
      replace E:=E.upd 44 hc154 rfl
      refine ls E fun a E=>ls E fun a E=>pt E rfl rfl fun a E=>mv E rfl fun a E=>ls E fun a E=>ls E fun a E=>ls E fun a E=>ls E fun a E=>?_
      refine ls E fun a E=>pt E rfl rfl fun a E=>aw E rfl fun a E=>c_if E rfl (fun _=>?_) (fun h=>by cases h)
      refine wp_seq<|qbc (by kernel_rfl) (by kernel_rfl) ok<|qv E (qad rfl) fun a E=>qv E (qad rfl) fun a E=>?_
      obtain ⟨q155,e156,hF⟩:=bnd hF
      refine qv E (qdj rfl rfl e156) fun a E=>qv E (qad rfl) fun a E=>?_
      obtain ⟨q157,e158,hF⟩:=bnd hF
      refine qv E (qdj rfl rfl e158) fun a E=>qv E (qaF rfl rfl) fun a E=>?_
      obtain ⟨s159,e160,hF⟩:=bnd hF
      refine qv E (qa7 Tryz.underlying9 e160 rfl ⟨_,rfl⟩ ⟨_,rfl⟩) fun a E=>?_
      obtain ⟨s161,e162,hF⟩:=bnd hF
      refine qv E (qa5 rfl rfl e162) fun a E=>qv E (qad rfl) fun a E=>qv E (qad rfl) fun a E=>qv E (qct .and (by decide) rfl rfl) fun a E=>qv E (qad rfl) fun a E=>qv E (qct .and (by decide) rfl rfl) fun a E=>qv E (qaF rfl rfl) fun a E=>?_
      obtain ⟨s163,e164,hF⟩:=bnd hF
      refine qv E (qa7 Tryz.underlying9 e164 rfl ⟨_,rfl⟩ ⟨_,rfl⟩) fun a E=>?_
      obtain ⟨s165,e166,hF⟩:=bnd hF
      refine qv E (qa5 rfl rfl e166) fun a E=>qv E (qal rfl) fun a E=>wpQuiet_nil ?_
      intro w ok
      refine qaa<|wp_ret<|qan<|qag ?_
      exact fin hF ⟨ok,E.d,⟨rv_t E rfl,trivial⟩,(qa1 e166)⟩
     replace hF:=qaj hc154 hF
     replace E:=E.upd 44 hc154 rfl
     refine mv E rfl fun a E=>lw E (qb9 rfl rfl) fun a E=>pf E rfl rfl fun a E=>mv E rfl fun a E=>qap (decide (c_0 > 126)) (fun hc167=>?_) (fun hc167=>?_)
     ·replace hF:=qak hc167 hF
      replace E:=E.upd 48 hc167 rfl
      refine ls E fun a E=>ls E fun a E=>ls E fun a E=>ls E fun a E=>ls E fun a E=>pt E rfl rfl fun a E=>av E rfl fun a E=>wpList_nil ?_
      refine qaa<|c_if E rfl (fun _=>?_) (fun h=>by cases h)
      refine wp_seq<|qbc (by kernel_rfl) (by kernel_rfl) ok<|qv E (qad rfl) fun a E=>qv E (qad rfl) fun a E=>?_
      obtain ⟨q168,e169,hF⟩:=bnd hF
      refine qv E (qdj rfl rfl e169) fun a E=>qv E (qad rfl) fun a E=>?_
      obtain ⟨q170,e171,hF⟩:=bnd hF
      refine qv E (qdj rfl rfl e171) fun a E=>qv E (qaF rfl rfl) fun a E=>?_
      obtain ⟨s172,e173,hF⟩:=bnd hF
      refine qv E (qa7 Tryz.underlying9 e173 rfl ⟨_,rfl⟩ ⟨_,rfl⟩) fun a E=>?_
      obtain ⟨s174,e175,hF⟩:=bnd hF
      refine qv E (qa5 rfl rfl e175) fun a E=>qv E (qad rfl) fun a E=>qv E (qad rfl) fun a E=>qv E (qct .and (by decide) rfl rfl) fun a E=>qv E (qad rfl) fun a E=>qv E (qct .and (by decide) rfl rfl) fun a E=>qv E (qaF rfl rfl) fun a E=>?_
      obtain ⟨s176,e177,hF⟩:=bnd hF
      refine qv E (qa7 Tryz.underlying9 e177 rfl ⟨_,rfl⟩ ⟨_,rfl⟩) fun a E=>?_
      obtain ⟨s178,e179,hF⟩:=bnd hF
      refine qv E (qa5 rfl rfl e179) fun a E=>qv E (qal rfl) fun a E=>wpQuiet_nil ?_
      intro w ok
      refine qaa<|wp_ret<|qan<|qag ?_
      exact fin hF ⟨ok,E.d,⟨rv_t E rfl,trivial⟩,(qa1 e179)⟩
     replace hF:=qaj hc167 hF
     replace E:=E.upd 48 hc167 rfl
     refine mv E rfl fun a E=>mv E rfl fun a E=>qap brackets_1 (fun hc180=>?_) (fun hc180=>?_)
     rotate_left
     ·replace hF:=qaj hc180 hF
      replace E:=E.upd 50 hc180 rfl
      refine ls E fun a E=>ls E fun a E=>pf E rfl rfl fun a E=>pf E rfl rfl fun a E=>aw E rfl fun a E=>c_if E rfl (fun h=>by cases h) (fun _=>?_)
      refine wp_skip<|qaq<|qaa<|sg<|mv E rfl fun a E=>lv E ok (qb0 Tryz.underlying5 Tryz.underlying9 rfl) fun a E=>av E rfl fun a E=>?_
      refine wn<|wp_ret ?_
      exact fin hF ⟨ok,E.d,⟨rv_t E rfl,trivial⟩,(qcE _)⟩
     replace hF:=qak hc180 hF
     replace E:=E.upd 50 hc180 rfl
     refine mv E rfl fun a E=>lw E (qbt rfl rfl) fun a E=>pt E rfl rfl fun a E=>pf E rfl rfl fun a E=>aw E rfl fun a E=>cf E rfl hF (fun hc181 hF=>?_) fun hc181 hF=>?_
     rotate_left
     ·refine wp_skip<|qaq<|qaa<|sg<|mv E rfl fun a E=>lv E ok (qb0 Tryz.underlying5 Tryz.underlying9 rfl) fun a E=>av E rfl fun a E=>?_
      refine wn<|wp_ret ?_
      exact fin hF ⟨ok,E.d,⟨rv_t E rfl,trivial⟩,(qcE _)⟩
     refine wp_seq<|qbc (by kernel_rfl) (by kernel_rfl) ok<|qv E (qad rfl) fun a E=>qv E (qad rfl) fun a E=>?_
     obtain ⟨q182,e183,hF⟩:=bnd hF
     refine qv E (qdj rfl rfl e183) fun a E=>qv E (qad rfl) fun a E=>?_
     obtain ⟨q184,e185,hF⟩:=bnd hF
     refine qv E (qdj rfl rfl e185) fun a E=>qv E (qaF rfl rfl) fun a E=>?_
     obtain ⟨s186,e187,hF⟩:=bnd hF
     refine qv E (qa7 Tryz.underlying9 e187 rfl ⟨_,rfl⟩ ⟨_,rfl⟩) fun a E=>?_
     obtain ⟨s188,e189,hF⟩:=bnd hF
     refine qv E (qa5 rfl rfl e189) fun a E=>qv E (qad rfl) fun a E=>qv E (qad rfl) fun a E=>qv E (qct .and (by decide) rfl rfl) fun a E=>qv E (qad rfl) fun a E=>qv E (qct .and (by decide) rfl rfl) fun a E=>qv E (qaF rfl rfl) fun a E=>?_
     obtain ⟨s190,e191,hF⟩:=bnd hF
     refine qv E (qa7 Tryz.underlying9 e191 rfl ⟨_,rfl⟩ ⟨_,rfl⟩) fun a E=>?_
     obtain ⟨s192,e193,hF⟩:=bnd hF
     refine qv E (qa5 rfl rfl e193) fun a E=>qv E (qal rfl) fun a E=>wpQuiet_nil ?_
     intro w ok
     refine qaa<|wp_ret<|qan<|qag ?_
     exact fin hF ⟨ok,E.d,⟨rv_t E rfl,trivial⟩,(qa1 e193)⟩
   replace hF:=qak hc101 hF
   replace E:=E.upd 19 hc101 rfl
   refine mv E rfl fun a E=>lw E (qbt rfl rfl) fun a E=>mv E rfl fun a E=>qap (c_0 == 91) (fun hc102=>?_) (fun hc102=>?_)
   ·replace hF:=qak hc102 hF
    replace E:=E.upd 22 hc102 rfl
    refine ls E fun a E=>ls E fun a E=>pt E rfl rfl fun a E=>mv E rfl fun a E=>ls E fun a E=>ls E fun a E=>pt E rfl rfl fun a E=>mv E rfl fun a E=>?_
    refine ls E fun a E=>ls E fun a E=>pt E rfl rfl fun a E=>pt E rfl rfl fun a E=>pf E rfl rfl fun a E=>aw E rfl fun a E=>?_
    refine wp_seq<|wp_block<|sg<|mv E rfl fun a E=>aw E rfl fun a E=>?_
    refine c_if E rfl (fun _=>?_) (fun h=>by cases h)
    refine sg<|mv E rfl fun a E=>lv E ok (qb0 Tryz.underlying5 Tryz.underlying9 rfl) fun a E=>?_
    obtain ⟨s103,e104,hF⟩:=bnd hF
    refine lw E (qa5 rfl rfl e104) fun a E=>aw E rfl fun a E=>wp_ret<|qan<|qag ?_
    exact fin hF ⟨ok,E.d,⟨rv_t E rfl,trivial⟩,(qa1 e104)⟩
   replace hF:=qaj hc102 hF
   replace E:=E.upd 22 hc102 rfl
   refine mv E rfl fun a E=>lw E (qbt rfl rfl) fun a E=>pf E rfl rfl fun a E=>mv E rfl fun a E=>qap (c_0 == 93) (fun hc105=>?_) (fun hc105=>?_)
   ·replace hF:=qak hc105 hF
    replace E:=E.upd 26 hc105 rfl
    refine ls E fun a E=>ls E fun a E=>pt E rfl rfl fun a E=>mv E rfl fun a E=>ls E fun a E=>ls E fun a E=>pt E rfl rfl fun a E=>pt E rfl rfl fun a E=>?_
    refine pf E rfl rfl fun a E=>aw E rfl fun a E=>wp_seq<|wp_block<|sg ?_
    refine mv E rfl fun a E=>aw E rfl fun a E=>c_if E rfl (fun _=>?_) (fun h=>by cases h)
    refine sg<|mv E rfl fun a E=>lv E ok (qb0 Tryz.underlying5 Tryz.underlying9 rfl) fun a E=>?_
    obtain ⟨s106,e107,hF⟩:=bnd hF
    refine lw E (qa5 rfl rfl e107) fun a E=>aw E rfl fun a E=>wp_ret<|qan<|qag ?_
    exact fin hF ⟨ok,E.d,⟨rv_t E rfl,trivial⟩,(qa1 e107)⟩
   replace hF:=qaj hc105 hF
   replace E:=E.upd 26 hc105 rfl
   refine mv E rfl fun a E=>lw E (qbt rfl rfl) fun a E=>pf E rfl rfl fun a E=>mv E rfl fun a E=>qap (c_0 == 94) (fun hc108=>?_) (fun hc108=>?_)
   ·replace hF:=qak hc108 hF
    replace E:=E.upd 30 hc108 rfl
    refine ls E fun a E=>ls E fun a E=>pt E rfl rfl fun a E=>pt E rfl rfl fun a E=>pf E rfl rfl fun a E=>aw E rfl fun a E=>?_
    refine wp_seq<|wp_block<|sg<|mv E rfl fun a E=>aw E rfl fun a E=>?_
    refine c_if E rfl (fun _=>?_) (fun h=>by cases h)
    refine sg<|mv E rfl fun a E=>lv E ok (qb0 Tryz.underlying5 Tryz.underlying9 rfl) fun a E=>?_
    obtain ⟨s109,e110,hF⟩:=bnd hF
    refine lw E (qa5 rfl rfl e110) fun a E=>aw E rfl fun a E=>wp_ret<|qan<|qag ?_
    exact fin hF ⟨ok,E.d,⟨rv_t E rfl,trivial⟩,(qa1 e110)⟩
   replace hF:=qaj hc108 hF
   replace E:=E.upd 30 hc108 rfl
   refine mv E rfl fun a E=>lw E (qbt rfl rfl) fun a E=>pf E rfl rfl fun a E=>pt E rfl rfl fun a E=>pf E rfl rfl fun a E=>aw E rfl fun a E=>?_
   refine wp_seq<|wp_block<|sg<|mv E rfl fun a E=>aw E rfl fun a E=>?_
   refine cf E rfl hF (fun hc111 hF=>?_) fun hc111 hF=>?_
   ·refine sg<|mv E rfl fun a E=>lv E ok (qb0 Tryz.underlying5 Tryz.underlying9 rfl) fun a E=>?_
    obtain ⟨s112,e113,hF⟩:=bnd hF
    refine lw E (qa5 rfl rfl e113) fun a E=>aw E rfl fun a E=>wp_ret<|qan<|qag ?_
    exact fin hF ⟨ok,E.d,⟨rv_t E rfl,trivial⟩,(qa1 e113)⟩
   refine sg<|mv E rfl fun a E=>lw E (qaA rfl rfl) fun a E=>mv E rfl fun a E=>qap (decide (c_0 < 32)) (fun hc114=>?_) (fun hc114=>?_)
   ·replace hF:=qak hc114 hF
    replace E:=E.upd 44 hc114 rfl
    refine ls E fun a E=>ls E fun a E=>pt E rfl rfl fun a E=>mv E rfl fun a E=>ls E fun a E=>ls E fun a E=>ls E fun a E=>ls E fun a E=>?_
    refine ls E fun a E=>pt E rfl rfl fun a E=>aw E rfl fun a E=>c_if E rfl (fun _=>?_) (fun h=>by cases h)
    refine wp_seq<|qbc (by kernel_rfl) (by kernel_rfl) ok<|qv E (qad rfl) fun a E=>qv E (qad rfl) fun a E=>?_
    obtain ⟨q115,e116,hF⟩:=bnd hF
    refine qv E (qdj rfl rfl e116) fun a E=>qv E (qad rfl) fun a E=>?_
    obtain ⟨q117,e118,hF⟩:=bnd hF
    refine qv E (qdj rfl rfl e118) fun a E=>qv E (qaF rfl rfl) fun a E=>?_
    obtain ⟨s119,e120,hF⟩:=bnd hF
    refine qv E (qa7 Tryz.underlying9 e120 rfl ⟨_,rfl⟩ ⟨_,rfl⟩) fun a E=>?_
    obtain ⟨s121,e122,hF⟩:=bnd hF
    refine qv E (qa5 rfl rfl e122) fun a E=>qv E (qad rfl) fun a E=>qv E (qad rfl) fun a E=>qv E (qct .and (by decide) rfl rfl) fun a E=>qv E (qad rfl) fun a E=>qv E (qct .and (by decide) rfl rfl) fun a E=>qv E (qaF rfl rfl) fun a E=>?_
    obtain ⟨s123,e124,hF⟩:=bnd hF
    refine qv E (qa7 Tryz.underlying9 e124 rfl ⟨_,rfl⟩ ⟨_,rfl⟩) fun a E=>?_
    obtain ⟨s125,e126,hF⟩:=bnd hF
    refine qv E (qa5 rfl rfl e126) fun a E=>qv E (qal rfl) fun a E=>wpQuiet_nil ?_
    intro w ok
    refine qaa<|wp_ret<|qan<|qag ?_
    exact fin hF ⟨ok,E.d,⟨rv_t E rfl,trivial⟩,(qa1 e126)⟩
   replace hF:=qaj hc114 hF
   replace E:=E.upd 44 hc114 rfl
   refine mv E rfl fun a E=>lw E (qb9 rfl rfl) fun a E=>pf E rfl rfl fun a E=>mv E rfl fun a E=>qap (decide (c_0 > 126)) (fun hc127=>?_) (fun hc127=>?_)
   ·replace hF:=qak hc127 hF
    replace E:=E.upd 48 hc127 rfl
    refine ls E fun a E=>ls E fun a E=>ls E fun a E=>ls E fun a E=>ls E fun a E=>pt E rfl rfl fun a E=>av E rfl fun a E=>wpList_nil ?_
    refine qaa<|c_if E rfl (fun _=>?_) (fun h=>by cases h)
    refine wp_seq<|qbc (by kernel_rfl) (by kernel_rfl) ok<|qv E (qad rfl) fun a E=>qv E (qad rfl) fun a E=>?_
    obtain ⟨q128,e129,hF⟩:=bnd hF
    refine qv E (qdj rfl rfl e129) fun a E=>qv E (qad rfl) fun a E=>?_
    obtain ⟨q130,e131,hF⟩:=bnd hF
    refine qv E (qdj rfl rfl e131) fun a E=>qv E (qaF rfl rfl) fun a E=>?_
    obtain ⟨s132,e133,hF⟩:=bnd hF
    refine qv E (qa7 Tryz.underlying9 e133 rfl ⟨_,rfl⟩ ⟨_,rfl⟩) fun a E=>?_
    obtain ⟨s134,e135,hF⟩:=bnd hF
    refine qv E (qa5 rfl rfl e135) fun a E=>qv E (qad rfl) fun a E=>qv E (qad rfl) fun a E=>qv E (qct .and (by decide) rfl rfl) fun a E=>qv E (qad rfl) fun a E=>qv E (qct .and (by decide) rfl rfl) fun a E=>qv E (qaF rfl rfl) fun a E=>?_
    obtain ⟨s136,e137,hF⟩:=bnd hF
    refine qv E (qa7 Tryz.underlying9 e137 rfl ⟨_,rfl⟩ ⟨_,rfl⟩) fun a E=>?_
    obtain ⟨s138,e139,hF⟩:=bnd hF
    refine qv E (qa5 rfl rfl e139) fun a E=>qv E (qal rfl) fun a E=>wpQuiet_nil ?_
    intro w ok
    refine qaa<|wp_ret<|qan<|qag ?_
    exact fin hF ⟨ok,E.d,⟨rv_t E rfl,trivial⟩,(qa1 e139)⟩
   replace hF:=qaj hc127 hF
   replace E:=E.upd 48 hc127 rfl
   refine mv E rfl fun a E=>mv E rfl fun a E=>qap brackets_1 (fun hc140=>?_) (fun hc140=>?_)
   rotate_left
   ·replace hF:=qaj hc140 hF
    replace E:=E.upd 50 hc140 rfl
    refine ls E fun a E=>ls E fun a E=>pf E rfl rfl fun a E=>pf E rfl rfl fun a E=>aw E rfl fun a E=>c_if E rfl (fun h=>by cases h) (fun _=>?_)
    refine wp_skip<|qaq<|qaa<|sg<|mv E rfl fun a E=>lv E ok (qb0 Tryz.underlying5 Tryz.underlying9 rfl) fun a E=>av E rfl fun a E=>?_
    refine wn<|wp_ret ?_
    exact fin hF ⟨ok,E.d,⟨rv_t E rfl,trivial⟩,(qcE _)⟩
   replace hF:=qak hc140 hF
   replace E:=E.upd 50 hc140 rfl
   refine mv E rfl fun a E=>lw E (qbt rfl rfl) fun a E=>pt E rfl rfl fun a E=>pf E rfl rfl fun a E=>aw E rfl fun a E=>cf E rfl hF (fun hc141 hF=>?_) fun hc141 hF=>?_
   rotate_left
   ·refine wp_skip<|qaq<|qaa<|sg<|mv E rfl fun a E=>lv E ok (qb0 Tryz.underlying5 Tryz.underlying9 rfl) fun a E=>av E rfl fun a E=>?_
    refine wn<|wp_ret ?_
    exact fin hF ⟨ok,E.d,⟨rv_t E rfl,trivial⟩,(qcE _)⟩
   refine wp_seq<|qbc (by kernel_rfl) (by kernel_rfl) ok<|qv E (qad rfl) fun a E=>qv E (qad rfl) fun a E=>?_
   obtain ⟨q142,e143,hF⟩:=bnd hF
   refine qv E (qdj rfl rfl e143) fun a E=>qv E (qad rfl) fun a E=>?_
   obtain ⟨q144,e145,hF⟩:=bnd hF
   refine qv E (qdj rfl rfl e145) fun a E=>qv E (qaF rfl rfl) fun a E=>?_
   obtain ⟨s146,e147,hF⟩:=bnd hF
   refine qv E (qa7 Tryz.underlying9 e147 rfl ⟨_,rfl⟩ ⟨_,rfl⟩) fun a E=>?_
   obtain ⟨s148,e149,hF⟩:=bnd hF
   refine qv E (qa5 rfl rfl e149) fun a E=>qv E (qad rfl) fun a E=>qv E (qad rfl) fun a E=>qv E (qct .and (by decide) rfl rfl) fun a E=>qv E (qad rfl) fun a E=>qv E (qct .and (by decide) rfl rfl) fun a E=>qv E (qaF rfl rfl) fun a E=>?_
   obtain ⟨s150,e151,hF⟩:=bnd hF
   refine qv E (qa7 Tryz.underlying9 e151 rfl ⟨_,rfl⟩ ⟨_,rfl⟩) fun a E=>?_
   obtain ⟨s152,e153,hF⟩:=bnd hF
   refine qv E (qa5 rfl rfl e153) fun a E=>qv E (qal rfl) fun a E=>wpQuiet_nil ?_
   intro w ok
   refine qaa<|wp_ret<|qan<|qag ?_
   exact fin hF ⟨ok,E.d,⟨rv_t E rfl,trivial⟩,(qa1 e153)⟩
 replace hF:=qak hc4 hF
 replace E:=E.upd 12 hc4 rfl
 refine mv E rfl fun a E=>lw E (qbt rfl rfl) fun a E=>pt E rfl rfl fun a E=>pf E rfl rfl fun a E=>mv E rfl fun a E=>qap (c_0 == 34) (fun hc5=>?_) (fun hc5=>?_)
 ·replace hF:=qak hc5 hF
  replace E:=E.upd 17 hc5 rfl
  refine ls E fun a E=>ls E fun a E=>ls E fun a E=>ls E fun a E=>ls E fun a E=>ls E fun a E=>ls E fun a E=>ls E fun a E=>?_
  refine ls E fun a E=>ls E fun a E=>ls E fun a E=>ls E fun a E=>ls E fun a E=>ls E fun a E=>ls E fun a E=>ls E fun a E=>?_
  refine ls E fun a E=>pt E rfl rfl fun a E=>aw E rfl fun a E=>wp_seq<|wp_block<|wp_seq ?_
  refine qab<|mv E rfl fun a E=>aw E rfl fun a E=>c_if E rfl (fun _=>?_) (fun h=>by cases h)
  refine sg<|mv E rfl fun a E=>lv E ok (qb0 Tryz.underlying5 Tryz.underlying9 rfl) fun a E=>?_
  obtain ⟨s6,e7,hF⟩:=bnd hF
  refine lw E (qa5 rfl rfl e7) fun a E=>aw E rfl fun a E=>wp_ret<|qan<|qag ?_
  exact fin hF ⟨ok,E.d,⟨rv_t E rfl,trivial⟩,(qa1 e7)⟩
 replace hF:=qaj hc5 hF
 replace E:=E.upd 17 hc5 rfl
 refine mv E rfl fun a E=>mv E rfl fun a E=>qap brackets_1 (fun hc8=>?_) (fun hc8=>?_)
 rotate_left
 ·as_aux_lemma =>
   replace hF:=qaj hc8 hF
   replace E:=E.upd 19 hc8 rfl
   refine ls E fun a E=>ls E fun a E=>ls E fun a E=>ls E fun a E=>ls E fun a E=>ls E fun a E=>ls E fun a E=>ls E fun a E=>?_
   refine ls E fun a E=>ls E fun a E=>ls E fun a E=>ls E fun a E=>ls E fun a E=>ls E fun a E=>pf E rfl rfl fun a E=>pf E rfl rfl fun a E=>?_
   refine aw E rfl fun a E=>wp_seq<|wp_block<|sg<|mv E rfl fun a E=>?_
   refine aw E rfl fun a E=>c_if E rfl (fun h=>by cases h) (fun _=>?_)
   refine sg<|mv E rfl fun a E=>lw E (qaA rfl rfl) fun a E=>mv E rfl fun a E=>qap (decide (c_0 < 32)) (fun hc61=>?_) (fun hc61=>?_)
   ·replace hF:=qak hc61 hF
    replace E:=E.upd 44 hc61 rfl
    refine ls E fun a E=>ls E fun a E=>pt E rfl rfl fun a E=>mv E rfl fun a E=>ls E fun a E=>ls E fun a E=>ls E fun a E=>ls E fun a E=>?_
    refine ls E fun a E=>pt E rfl rfl fun a E=>aw E rfl fun a E=>c_if E rfl (fun _=>?_) (fun h=>by cases h)
    refine wp_seq<|qbc (by kernel_rfl) (by kernel_rfl) ok<|qv E (qad rfl) fun a E=>qv E (qad rfl) fun a E=>?_
    obtain ⟨q62,e63,hF⟩:=bnd hF
    refine qv E (qdj rfl rfl e63) fun a E=>qv E (qad rfl) fun a E=>?_
    obtain ⟨q64,e65,hF⟩:=bnd hF
    refine qv E (qdj rfl rfl e65) fun a E=>qv E (qaF rfl rfl) fun a E=>?_
    obtain ⟨s66,e67,hF⟩:=bnd hF
    refine qv E (qa7 Tryz.underlying9 e67 rfl ⟨_,rfl⟩ ⟨_,rfl⟩) fun a E=>?_
    obtain ⟨s68,e69,hF⟩:=bnd hF
    refine qv E (qa5 rfl rfl e69) fun a E=>qv E (qad rfl) fun a E=>qv E (qad rfl) fun a E=>qv E (qct .and (by decide) rfl rfl) fun a E=>qv E (qad rfl) fun a E=>qv E (qct .and (by decide) rfl rfl) fun a E=>qv E (qaF rfl rfl) fun a E=>?_
    obtain ⟨s70,e71,hF⟩:=bnd hF
    refine qv E (qa7 Tryz.underlying9 e71 rfl ⟨_,rfl⟩ ⟨_,rfl⟩) fun a E=>?_
    obtain ⟨s72,e73,hF⟩:=bnd hF
    refine qv E (qa5 rfl rfl e73) fun a E=>qv E (qal rfl) fun a E=>wpQuiet_nil ?_
    intro w ok
    refine qaa<|wp_ret<|qan<|qag ?_
    exact fin hF ⟨ok,E.d,⟨rv_t E rfl,trivial⟩,(qa1 e73)⟩
   replace hF:=qaj hc61 hF
   replace E:=E.upd 44 hc61 rfl
   refine mv E rfl fun a E=>lw E (qb9 rfl rfl) fun a E=>pf E rfl rfl fun a E=>mv E rfl fun a E=>qap (decide (c_0 > 126)) (fun hc74=>?_) (fun hc74=>?_)
   ·replace hF:=qak hc74 hF
    replace E:=E.upd 48 hc74 rfl
    refine ls E fun a E=>ls E fun a E=>ls E fun a E=>ls E fun a E=>ls E fun a E=>pt E rfl rfl fun a E=>av E rfl fun a E=>wpList_nil ?_
    refine qaa<|c_if E rfl (fun _=>?_) (fun h=>by cases h)
    refine wp_seq<|qbc (by kernel_rfl) (by kernel_rfl) ok<|qv E (qad rfl) fun a E=>qv E (qad rfl) fun a E=>?_
    obtain ⟨q75,e76,hF⟩:=bnd hF
    refine qv E (qdj rfl rfl e76) fun a E=>qv E (qad rfl) fun a E=>?_
    obtain ⟨q77,e78,hF⟩:=bnd hF
    refine qv E (qdj rfl rfl e78) fun a E=>qv E (qaF rfl rfl) fun a E=>?_
    obtain ⟨s79,e80,hF⟩:=bnd hF
    refine qv E (qa7 Tryz.underlying9 e80 rfl ⟨_,rfl⟩ ⟨_,rfl⟩) fun a E=>?_
    obtain ⟨s81,e82,hF⟩:=bnd hF
    refine qv E (qa5 rfl rfl e82) fun a E=>qv E (qad rfl) fun a E=>qv E (qad rfl) fun a E=>qv E (qct .and (by decide) rfl rfl) fun a E=>qv E (qad rfl) fun a E=>qv E (qct .and (by decide) rfl rfl) fun a E=>qv E (qaF rfl rfl) fun a E=>?_
    obtain ⟨s83,e84,hF⟩:=bnd hF
    refine qv E (qa7 Tryz.underlying9 e84 rfl ⟨_,rfl⟩ ⟨_,rfl⟩) fun a E=>?_
    obtain ⟨s85,e86,hF⟩:=bnd hF
    refine qv E (qa5 rfl rfl e86) fun a E=>qv E (qal rfl) fun a E=>wpQuiet_nil ?_
    intro w ok
    refine qaa<|wp_ret<|qan<|qag ?_
    exact fin hF ⟨ok,E.d,⟨rv_t E rfl,trivial⟩,(qa1 e86)⟩
   replace hF:=qaj hc74 hF
   replace E:=E.upd 48 hc74 rfl
   refine mv E rfl fun a E=>mv E rfl fun a E=>qap brackets_1 (fun hc87=>?_) (fun hc87=>?_)
   rotate_left
   ·replace hF:=qaj hc87 hF
    replace E:=E.upd 50 hc87 rfl
    refine ls E fun a E=>ls E fun a E=>pf E rfl rfl fun a E=>pf E rfl rfl fun a E=>aw E rfl fun a E=>c_if E rfl (fun h=>by cases h) (fun _=>?_)
    refine wp_skip<|qaq<|qaa<|sg<|mv E rfl fun a E=>lv E ok (qb0 Tryz.underlying5 Tryz.underlying9 rfl) fun a E=>av E rfl fun a E=>?_
    refine wn<|wp_ret ?_
    exact fin hF ⟨ok,E.d,⟨rv_t E rfl,trivial⟩,(qcE _)⟩
   replace hF:=qak hc87 hF
   replace E:=E.upd 50 hc87 rfl
   refine mv E rfl fun a E=>lw E (qbt rfl rfl) fun a E=>pt E rfl rfl fun a E=>pf E rfl rfl fun a E=>aw E rfl fun a E=>cf E rfl hF (fun hc88 hF=>?_) fun hc88 hF=>?_
   rotate_left
   ·refine wp_skip<|qaq<|qaa<|sg<|mv E rfl fun a E=>lv E ok (qb0 Tryz.underlying5 Tryz.underlying9 rfl) fun a E=>av E rfl fun a E=>?_
    refine wn<|wp_ret ?_
    exact fin hF ⟨ok,E.d,⟨rv_t E rfl,trivial⟩,(qcE _)⟩
   refine wp_seq<|qbc (by kernel_rfl) (by kernel_rfl) ok<|qv E (qad rfl) fun a E=>qv E (qad rfl) fun a E=>?_
   obtain ⟨q89,e90,hF⟩:=bnd hF
   refine qv E (qdj rfl rfl e90) fun a E=>qv E (qad rfl) fun a E=>?_
   obtain ⟨q91,e92,hF⟩:=bnd hF
   refine qv E (qdj rfl rfl e92) fun a E=>qv E (qaF rfl rfl) fun a E=>?_
   obtain ⟨s93,e94,hF⟩:=bnd hF
   refine qv E (qa7 Tryz.underlying9 e94 rfl ⟨_,rfl⟩ ⟨_,rfl⟩) fun a E=>?_
   obtain ⟨s95,e96,hF⟩:=bnd hF
   refine qv E (qa5 rfl rfl e96) fun a E=>qv E (qad rfl) fun a E=>qv E (qad rfl) fun a E=>qv E (qct .and (by decide) rfl rfl) fun a E=>qv E (qad rfl) fun a E=>qv E (qct .and (by decide) rfl rfl) fun a E=>qv E (qaF rfl rfl) fun a E=>?_
   obtain ⟨s97,e98,hF⟩:=bnd hF
   refine qv E (qa7 Tryz.underlying9 e98 rfl ⟨_,rfl⟩ ⟨_,rfl⟩) fun a E=>?_
   obtain ⟨s99,e100,hF⟩:=bnd hF
   refine qv E (qa5 rfl rfl e100) fun a E=>qv E (qal rfl) fun a E=>wpQuiet_nil ?_
   intro w ok
   refine qaa<|wp_ret<|qan<|qag ?_
   exact fin hF ⟨ok,E.d,⟨rv_t E rfl,trivial⟩,(qa1 e100)⟩
 replace hF:=qak hc8 hF
 replace E:=E.upd 19 hc8 rfl
 refine mv E rfl fun a E=>lw E (qbt rfl rfl) fun a E=>mv E rfl fun a E=>qap (c_0 == 91) (fun hc9=>?_) (fun hc9=>?_)
 ·replace hF:=qak hc9 hF
  replace E:=E.upd 22 hc9 rfl
  refine ls E fun a E=>ls E fun a E=>pt E rfl rfl fun a E=>mv E rfl fun a E=>ls E fun a E=>ls E fun a E=>pt E rfl rfl fun a E=>mv E rfl fun a E=>?_
  refine ls E fun a E=>ls E fun a E=>pt E rfl rfl fun a E=>pt E rfl rfl fun a E=>pf E rfl rfl fun a E=>aw E rfl fun a E=>?_
  refine wp_seq<|wp_block<|sg<|mv E rfl fun a E=>aw E rfl fun a E=>?_
  refine c_if E rfl (fun _=>?_) (fun h=>by cases h)
  refine sg<|mv E rfl fun a E=>lv E ok (qb0 Tryz.underlying5 Tryz.underlying9 rfl) fun a E=>?_
  obtain ⟨s10,e11,hF⟩:=bnd hF
  refine lw E (qa5 rfl rfl e11) fun a E=>aw E rfl fun a E=>wp_ret<|qan<|qag ?_
  exact fin hF ⟨ok,E.d,⟨rv_t E rfl,trivial⟩,(qa1 e11)⟩
 replace hF:=qaj hc9 hF
 replace E:=E.upd 22 hc9 rfl
 refine mv E rfl fun a E=>lw E (qbt rfl rfl) fun a E=>pf E rfl rfl fun a E=>mv E rfl fun a E=>qap (c_0 == 93) (fun hc12=>?_) (fun hc12=>?_)
 ·replace hF:=qak hc12 hF
  replace E:=E.upd 26 hc12 rfl
  refine ls E fun a E=>ls E fun a E=>pt E rfl rfl fun a E=>mv E rfl fun a E=>ls E fun a E=>ls E fun a E=>pt E rfl rfl fun a E=>pt E rfl rfl fun a E=>?_
  refine pf E rfl rfl fun a E=>aw E rfl fun a E=>wp_seq<|wp_block<|sg ?_
  refine mv E rfl fun a E=>aw E rfl fun a E=>c_if E rfl (fun _=>?_) (fun h=>by cases h)
  refine sg<|mv E rfl fun a E=>lv E ok (qb0 Tryz.underlying5 Tryz.underlying9 rfl) fun a E=>?_
  obtain ⟨s13,e14,hF⟩:=bnd hF
  refine lw E (qa5 rfl rfl e14) fun a E=>aw E rfl fun a E=>wp_ret<|qan<|qag ?_
  exact fin hF ⟨ok,E.d,⟨rv_t E rfl,trivial⟩,(qa1 e14)⟩
 replace hF:=qaj hc12 hF
 replace E:=E.upd 26 hc12 rfl
 refine mv E rfl fun a E=>lw E (qbt rfl rfl) fun a E=>pf E rfl rfl fun a E=>mv E rfl fun a E=>qap (c_0 == 94) (fun hc15=>?_) (fun hc15=>?_)
 ·replace hF:=qak hc15 hF
  replace E:=E.upd 30 hc15 rfl
  refine ls E fun a E=>ls E fun a E=>pt E rfl rfl fun a E=>pt E rfl rfl fun a E=>pf E rfl rfl fun a E=>aw E rfl fun a E=>?_
  refine wp_seq<|wp_block<|sg<|mv E rfl fun a E=>aw E rfl fun a E=>?_
  refine c_if E rfl (fun _=>?_) (fun h=>by cases h)
  refine sg<|mv E rfl fun a E=>lv E ok (qb0 Tryz.underlying5 Tryz.underlying9 rfl) fun a E=>?_
  obtain ⟨s16,e17,hF⟩:=bnd hF
  refine lw E (qa5 rfl rfl e17) fun a E=>aw E rfl fun a E=>wp_ret<|qan<|qag ?_
  exact fin hF ⟨ok,E.d,⟨rv_t E rfl,trivial⟩,(qa1 e17)⟩
 replace hF:=qaj hc15 hF
 replace E:=E.upd 30 hc15 rfl
 refine mv E rfl fun a E=>lw E (qbt rfl rfl) fun a E=>pf E rfl rfl fun a E=>pt E rfl rfl fun a E=>pf E rfl rfl fun a E=>aw E rfl fun a E=>?_
 refine wp_seq<|wp_block<|sg<|mv E rfl fun a E=>aw E rfl fun a E=>?_
 refine cf E rfl hF (fun hc18 hF=>?_) fun hc18 hF=>?_
 ·refine sg<|mv E rfl fun a E=>lv E ok (qb0 Tryz.underlying5 Tryz.underlying9 rfl) fun a E=>?_
  obtain ⟨s19,e20,hF⟩:=bnd hF
  refine lw E (qa5 rfl rfl e20) fun a E=>aw E rfl fun a E=>wp_ret<|qan<|qag ?_
  exact fin hF ⟨ok,E.d,⟨rv_t E rfl,trivial⟩,(qa1 e20)⟩
 refine sg<|mv E rfl fun a E=>lw E (qaA rfl rfl) fun a E=>mv E rfl fun a E=>qap (decide (c_0 < 32)) (fun hc21=>?_) (fun hc21=>?_)
 ·replace hF:=qak hc21 hF
  replace E:=E.upd 44 hc21 rfl
  refine ls E fun a E=>ls E fun a E=>pt E rfl rfl fun a E=>mv E rfl fun a E=>ls E fun a E=>ls E fun a E=>ls E fun a E=>ls E fun a E=>?_
  refine ls E fun a E=>pt E rfl rfl fun a E=>aw E rfl fun a E=>c_if E rfl (fun _=>?_) (fun h=>by cases h)
  refine wp_seq<|qbc (by kernel_rfl) (by kernel_rfl) ok<|qv E (qad rfl) fun a E=>qv E (qad rfl) fun a E=>?_
  obtain ⟨q22,e23,hF⟩:=bnd hF
  refine qv E (qdj rfl rfl e23) fun a E=>qv E (qad rfl) fun a E=>?_
  obtain ⟨q24,e25,hF⟩:=bnd hF
  refine qv E (qdj rfl rfl e25) fun a E=>qv E (qaF rfl rfl) fun a E=>?_
  obtain ⟨s26,e27,hF⟩:=bnd hF
  refine qv E (qa7 Tryz.underlying9 e27 rfl ⟨_,rfl⟩ ⟨_,rfl⟩) fun a E=>?_
  obtain ⟨s28,e29,hF⟩:=bnd hF
  refine qv E (qa5 rfl rfl e29) fun a E=>qv E (qad rfl) fun a E=>qv E (qad rfl) fun a E=>qv E (qct .and (by decide) rfl rfl) fun a E=>qv E (qad rfl) fun a E=>qv E (qct .and (by decide) rfl rfl) fun a E=>qv E (qaF rfl rfl) fun a E=>?_
  obtain ⟨s30,e31,hF⟩:=bnd hF
  refine qv E (qa7 Tryz.underlying9 e31 rfl ⟨_,rfl⟩ ⟨_,rfl⟩) fun a E=>?_
  obtain ⟨s32,e33,hF⟩:=bnd hF
  refine qv E (qa5 rfl rfl e33) fun a E=>qv E (qal rfl) fun a E=>wpQuiet_nil ?_
  intro w ok
  refine qaa<|wp_ret<|qan<|qag ?_
  exact fin hF ⟨ok,E.d,⟨rv_t E rfl,trivial⟩,(qa1 e33)⟩
 replace hF:=qaj hc21 hF
 replace E:=E.upd 44 hc21 rfl
 refine mv E rfl fun a E=>lw E (qb9 rfl rfl) fun a E=>pf E rfl rfl fun a E=>mv E rfl fun a E=>qap (decide (c_0 > 126)) (fun hc34=>?_) (fun hc34=>?_)
 ·replace hF:=qak hc34 hF
  replace E:=E.upd 48 hc34 rfl
  refine ls E fun a E=>ls E fun a E=>ls E fun a E=>ls E fun a E=>ls E fun a E=>pt E rfl rfl fun a E=>av E rfl fun a E=>wpList_nil ?_
  refine qaa<|c_if E rfl (fun _=>?_) (fun h=>by cases h)
  refine wp_seq<|qbc (by kernel_rfl) (by kernel_rfl) ok<|qv E (qad rfl) fun a E=>qv E (qad rfl) fun a E=>?_
  obtain ⟨q35,e36,hF⟩:=bnd hF
  refine qv E (qdj rfl rfl e36) fun a E=>qv E (qad rfl) fun a E=>?_
  obtain ⟨q37,e38,hF⟩:=bnd hF
  refine qv E (qdj rfl rfl e38) fun a E=>qv E (qaF rfl rfl) fun a E=>?_
  obtain ⟨s39,e40,hF⟩:=bnd hF
  refine qv E (qa7 Tryz.underlying9 e40 rfl ⟨_,rfl⟩ ⟨_,rfl⟩) fun a E=>?_
  obtain ⟨s41,e42,hF⟩:=bnd hF
  refine qv E (qa5 rfl rfl e42) fun a E=>qv E (qad rfl) fun a E=>qv E (qad rfl) fun a E=>qv E (qct .and (by decide) rfl rfl) fun a E=>qv E (qad rfl) fun a E=>qv E (qct .and (by decide) rfl rfl) fun a E=>qv E (qaF rfl rfl) fun a E=>?_
  obtain ⟨s43,e44,hF⟩:=bnd hF
  refine qv E (qa7 Tryz.underlying9 e44 rfl ⟨_,rfl⟩ ⟨_,rfl⟩) fun a E=>?_
  obtain ⟨s45,e46,hF⟩:=bnd hF
  refine qv E (qa5 rfl rfl e46) fun a E=>qv E (qal rfl) fun a E=>wpQuiet_nil ?_
  intro w ok
  refine qaa<|wp_ret<|qan<|qag ?_
  exact fin hF ⟨ok,E.d,⟨rv_t E rfl,trivial⟩,(qa1 e46)⟩
 replace hF:=qaj hc34 hF
 replace E:=E.upd 48 hc34 rfl
 refine mv E rfl fun a E=>mv E rfl fun a E=>qap brackets_1 (fun hc47=>?_) (fun hc47=>?_)
 rotate_left
 ·replace hF:=qaj hc47 hF
  replace E:=E.upd 50 hc47 rfl
  refine ls E fun a E=>ls E fun a E=>pf E rfl rfl fun a E=>pf E rfl rfl fun a E=>aw E rfl fun a E=>c_if E rfl (fun h=>by cases h) (fun _=>?_)
  refine wp_skip<|qaq<|qaa<|sg<|mv E rfl fun a E=>lv E ok (qb0 Tryz.underlying5 Tryz.underlying9 rfl) fun a E=>av E rfl fun a E=>?_
  refine wn<|wp_ret ?_
  exact fin hF ⟨ok,E.d,⟨rv_t E rfl,trivial⟩,(qcE _)⟩
 replace hF:=qak hc47 hF
 replace E:=E.upd 50 hc47 rfl
 refine mv E rfl fun a E=>lw E (qbt rfl rfl) fun a E=>pt E rfl rfl fun a E=>pf E rfl rfl fun a E=>aw E rfl fun a E=>cf E rfl hF (fun hc48 hF=>?_) fun hc48 hF=>?_
 rotate_left
 ·refine wp_skip<|qaq<|qaa<|sg<|mv E rfl fun a E=>lv E ok (qb0 Tryz.underlying5 Tryz.underlying9 rfl) fun a E=>av E rfl fun a E=>?_
  refine wn<|wp_ret ?_
  exact fin hF ⟨ok,E.d,⟨rv_t E rfl,trivial⟩,(qcE _)⟩
 refine wp_seq<|qbc (by kernel_rfl) (by kernel_rfl) ok<|qv E (qad rfl) fun a E=>qv E (qad rfl) fun a E=>?_
 obtain ⟨q49,e50,hF⟩:=bnd hF
 refine qv E (qdj rfl rfl e50) fun a E=>qv E (qad rfl) fun a E=>?_
 obtain ⟨q51,e52,hF⟩:=bnd hF
 refine qv E (qdj rfl rfl e52) fun a E=>qv E (qaF rfl rfl) fun a E=>?_
 obtain ⟨s53,e54,hF⟩:=bnd hF
 refine qv E (qa7 Tryz.underlying9 e54 rfl ⟨_,rfl⟩ ⟨_,rfl⟩) fun a E=>?_
 obtain ⟨s55,e56,hF⟩:=bnd hF
 refine qv E (qa5 rfl rfl e56) fun a E=>qv E (qad rfl) fun a E=>qv E (qad rfl) fun a E=>qv E (qct .and (by decide) rfl rfl) fun a E=>qv E (qad rfl) fun a E=>qv E (qct .and (by decide) rfl rfl) fun a E=>qv E (qaF rfl rfl) fun a E=>?_
 obtain ⟨s57,e58,hF⟩:=bnd hF
 refine qv E (qa7 Tryz.underlying9 e58 rfl ⟨_,rfl⟩ ⟨_,rfl⟩) fun a E=>?_
 obtain ⟨s59,e60,hF⟩:=bnd hF
 refine qv E (qa5 rfl rfl e60) fun a E=>qv E (qal rfl) fun a E=>wpQuiet_nil ?_
 intro w ok
 refine qaa<|wp_ret<|qan<|qag ?_
 exact fin hF ⟨ok,E.d,⟨rv_t E rfl,trivial⟩,(qa1 e60)⟩
def qkc (u:World) (m0:Mem) (S:Segs) (r:(List UInt8)) (a:Act) (w:World):Prop :=
 Ok u m0 S w ∧ a.defers = [] ∧ RVs Tryz.prog a w [.t 2 (.string (bs r))] ∧ r.length ≤ LIMS
theorem qku (N:Nat) (vx_0:List Value) (x_0:Item) (hx_0:qbO m0 vx_0 x_0) {r:(List UInt8)} (hF:qgX N x_0 = some r) (hG:Glob u) (ok:Ok u m0 S w) :
  Calls Tryz.prog 90 [.agg vx_0.toArray].toArray w fun e w'=>(e = .returned (.string (bs r)) ∧ Ok u m0 S w') ∧ r.length ≤ LIMS:=by
 obtain ⟨c2,rfl,l1,h3,r4,r5⟩:=hx_0
 unfold qgX at hF
 refine en (qkc u m0 S) r Tryz.func90 rfl rfl rfl (by rintro a w ⟨ok,hd,hrv,h0⟩; exact qaM [.t 2 (.string (bs r))] hd rfl hrv ⟨⟨rfl,ok⟩,h0⟩) fun fin a E=>sg<|qdk E ok rfl rfl rfl fun b6 a w E ok=>aw E rfl fun a E=>wp_seq ?_
 refine qab<|aw E rfl fun a E=>wp_seq<|sg<|fv E qfJ rfl fun a E=>?_
 refine ld E ok qav 0 rfl rfl rfl fun a E=>lw E (qcn rfl rfl) fun a E=>wn ?_
 obtain ⟨o7,hJ,hF⟩:=bnd hF
 refine qbx (Q':=fun e a w=>e = .normal ∧ Ok u m0 ([(b6,oc 138 [vs x_0.Text,c2,vb x_0.Not,vi x_0.Least,vi x_0.Most])] :: S) w ∧ Env 94 a [(1,vp b6),(3,vs o7)] ∧ o7.length ≤ LIMS) ?_ ?_
 rotate_left
 ·as_aux_lemma =>
   clear hJ
   intro e a w hO
   obtain ⟨rfl,ok,E,l108⟩:=hO
   refine qaa<|wp_seq<|wp_block<|sg<|fv E qd1 rfl fun a E=>ld E ok qaZ 0 rfl rfl rfl fun a E=>lw E (qbt rfl rfl) fun a E=>?_
   refine mv E rfl fun a E=>qap (x_0.Least == 0) (fun hc109=>?_) (fun hc109=>?_)
   rotate_left
   ·as_aux_lemma =>
     replace hF:=qaj hc109 hF
     replace E:=E.upd 74 hc109 rfl
     refine ls E fun a E=>ls E fun a E=>ls E fun a E=>pf E rfl rfl fun a E=>aw E rfl fun a E=>c_if E rfl (fun h=>by cases h) (fun _=>?_)
     refine sg<|fv E qd1 rfl fun a E=>ld E ok qaZ 0 rfl rfl rfl fun a E=>lw E (qbt rfl rfl) fun a E=>aw E rfl fun a E=>?_
     refine cf E rfl hF (fun hc119 hF=>?_) fun hc119 hF=>?_
     ·refine qab<|mv E rfl fun a E=>?_
      obtain ⟨s120,e121,hF⟩:=bnd hF
      refine lw E (qa5 rfl rfl e121) fun a E=>av E rfl fun a E=>wpList_nil<|qaq<|qaa<|sg<|mv E rfl fun a E=>?_
      refine aw E rfl fun a E=>wp_ret ?_
      exact fin hF ⟨ok.drop,E.d,⟨rv_t E rfl,trivial⟩,(qa1 e121)⟩
     refine sg<|fv E qdZ rfl fun a E=>ld E ok qaZ 0 rfl rfl rfl fun a E=>lw E (qdG rfl rfl) fun a E=>aw E rfl fun a E=>?_
     refine cf E rfl hF (fun hc122 hF=>?_) fun hc122 hF=>?_
     rotate_left
     ·refine wp_skip<|qaq<|qaa<|sg<|mv E rfl fun a E=>av E rfl fun a E=>wpList_nil ?_
      refine qaa<|wp_ret ?_
      exact fin hF ⟨ok.drop,E.d,⟨rv_t E rfl,trivial⟩,l108⟩
     refine qab<|mv E rfl fun a E=>?_
     obtain ⟨s123,e124,hF⟩:=bnd hF
     refine lw E (qa5 rfl rfl e124) fun a E=>av E rfl fun a E=>wpList_nil<|qaq<|qaa<|sg<|mv E rfl fun a E=>?_
     refine aw E rfl fun a E=>wp_ret ?_
     exact fin hF ⟨ok.drop,E.d,⟨rv_t E rfl,trivial⟩,(qa1 e124)⟩
   replace hF:=qak hc109 hF
   replace E:=E.upd 74 hc109 rfl
   refine fv E qdZ rfl fun a E=>ld E ok qaZ 0 rfl rfl rfl fun a E=>lw E (qbt rfl rfl) fun a E=>pt E rfl rfl fun a E=>aw E rfl fun a E=>cf E rfl hF (fun hc110 hF=>?_) fun hc110 hF=>?_
   ·refine qab<|mv E rfl fun a E=>?_
    obtain ⟨s111,e112,hF⟩:=bnd hF
    refine lw E (qa5 rfl rfl e112) fun a E=>av E rfl fun a E=>wpList_nil<|qaq<|qaa<|sg<|mv E rfl fun a E=>?_
    refine aw E rfl fun a E=>wp_ret ?_
    exact fin hF ⟨ok.drop,E.d,⟨rv_t E rfl,trivial⟩,(qa1 e112)⟩
   refine sg<|fv E qd1 rfl fun a E=>ld E ok qaZ 0 rfl rfl rfl fun a E=>lw E (qbt rfl rfl) fun a E=>aw E rfl fun a E=>?_
   refine cf E rfl hF (fun hc113 hF=>?_) fun hc113 hF=>?_
   ·refine qab<|mv E rfl fun a E=>?_
    obtain ⟨s114,e115,hF⟩:=bnd hF
    refine lw E (qa5 rfl rfl e115) fun a E=>av E rfl fun a E=>wpList_nil<|qaq<|qaa<|sg<|mv E rfl fun a E=>?_
    refine aw E rfl fun a E=>wp_ret ?_
    exact fin hF ⟨ok.drop,E.d,⟨rv_t E rfl,trivial⟩,(qa1 e115)⟩
   refine sg<|fv E qdZ rfl fun a E=>ld E ok qaZ 0 rfl rfl rfl fun a E=>lw E (qdG rfl rfl) fun a E=>aw E rfl fun a E=>?_
   refine cf E rfl hF (fun hc116 hF=>?_) fun hc116 hF=>?_
   rotate_left
   ·refine wp_skip<|qaq<|qaa<|sg<|mv E rfl fun a E=>av E rfl fun a E=>wpList_nil ?_
    refine qaa<|wp_ret ?_
    exact fin hF ⟨ok.drop,E.d,⟨rv_t E rfl,trivial⟩,l108⟩
   refine qab<|mv E rfl fun a E=>?_
   obtain ⟨s117,e118,hF⟩:=bnd hF
   refine lw E (qa5 rfl rfl e118) fun a E=>av E rfl fun a E=>wpList_nil<|qaq<|qaa<|sg<|mv E rfl fun a E=>?_
   refine aw E rfl fun a E=>wp_ret ?_
   exact fin hF ⟨ok.drop,E.d,⟨rv_t E rfl,trivial⟩,(qa1 e118)⟩
 replace hF:=hJ
 clear hJ
 refine cf E rfl hF (fun hc9 hF=>?_) fun hc9 hF=>?_
 ·refine sg<|aw E rfl fun a E=>wp_seq<|sg ?_
  refine aw E rfl fun a E=>wp_block ?_
  obtain ⟨o12,hL,hF⟩:=bnd hF
  refine qaO _ (fun (s:(List UInt8) × Int) a w=>Ok u m0 ([(b6,oc 138 [vs x_0.Text,c2,vb x_0.Not,vi x_0.Least,vi x_0.Most])] :: S) w ∧ Env 94 a [(1,vp b6),(3,vs s.1),(4,vi s.2)] ∧ s.1.length ≤ LIMS ∧ InR .i64 s.2) (fun (b:((List UInt8))) e a w=>e = (.exit 0) ∧ Ok u m0 ([(b6,oc 138 [vs x_0.Text,c2,vb x_0.Not,vi x_0.Least,vi x_0.Most])] :: S) w ∧ Env 94 a [(1,vp b6),(3,vs b)] ∧ b.length ≤ LIMS) ?_ ?_ N _ a w hL ⟨ok,E.keep [1,3,4],(show ([34]:List UInt8).length ≤ LIMS by decide),(ir 0)⟩
  rotate_left
  ·intro e a w _ hO
   obtain ⟨rfl,ok,E,l27⟩:=hO
   refine qaS<|qaa<|qab<|mv E rfl fun a E=>?_
   obtain ⟨s28,e29,hF⟩:=bnd hF
   refine lw E (qa5 rfl rfl e29) fun a E=>av E rfl fun a E=>wpList_nil ?_
   obtain rfl:=sj hF
   exact ⟨rfl,⟨ok,E.keep [1,3],(qa1 e29)⟩⟩
  rintro ⟨s_15,i_16⟩ a w r ⟨ok,E,l17,r18⟩ hF
  replace hF:qf3 N x_0 s_15 i_16 = some r:=hF
  unfold qf3 at hF
  refine wp_seq<|sg<|mv E rfl fun a E=>fv E qfJ rfl fun a E=>ld E ok qav 0 rfl rfl rfl fun a E=>lw E (qaV Tryz.underlying9 rfl) fun a E=>lw E (qaA rfl rfl) fun a E=>?_
  refine wn<|cf E rfl hF (fun hc19 hF=>?_) fun hc19 hF=>?_
  rotate_left
  ·refine wp_exit<|qaB ?_
   obtain rfl:=sj hF
   exact so (⟨rfl,⟨ok,E.keep [1,3],l17⟩⟩)
  refine wp_skip<|qaa<|wp_seq<|wp_block<|qab<|mv E rfl fun a E=>fv E qfJ rfl fun a E=>ld E ok qav 0 rfl rfl rfl fun a E=>?_
  refine mv E rfl fun a E=>?_
  obtain ⟨c20,e21,hF⟩:=bnd hF
  refine lv E ok (qba Tryz.underlying9 rfl rfl e21) fun a E=>?_
  obtain ⟨r22,e23,hF⟩:=bnd hF
  refine qaz E qnG rfl (qgK N (c20.toNat:Int) (InR.byte c20) false e23 hG ok) rfl rfl ?_
  rintro _ w ⟨⟨rfl,ok⟩,l24⟩
  refine ⟨_,rfl,fun a E=>?_⟩
  obtain ⟨s25,e26,hF⟩:=bnd hF
  refine lw E (qa5 rfl rfl e26) fun a E=>av E rfl fun a E=>wpList_nil<|qaq<|qaa<|qab<|mv E rfl fun a E=>lw E (qaG rfl rfl (InR.inc r18 (InR.len l1) hc19)) fun a E=>?_
  refine av E rfl fun a E=>wpList_nil ?_
  obtain rfl:=sj hF
  exact qay ⟨ok,E.keep [1,3,4],(qa1 e26),(InR.inc r18 (InR.len l1) hc19)⟩
 refine sg<|aw E rfl fun a E=>wp_seq<|sg ?_
 refine fv E qiy rfl fun a E=>ld E ok qhi 0 rfl rfl rfl fun a E=>wn ?_
 obtain ⟨o31,hJ,hF⟩:=bnd hF
 refine qbx (Q':=fun e a w=>e = .normal ∧ Ok u m0 ([(b6,oc 138 [vs x_0.Text,c2,vb x_0.Not,vi x_0.Least,vi x_0.Most])] :: S) w ∧ Env 94 a [(1,vp b6),(3,vs o31)] ∧ o31.length ≤ LIMS) ?_ ?_
 ·replace hF:=hJ
  clear hJ
  refine cf E rfl hF (fun hc33 hF=>?_) fun hc33 hF=>?_
  rotate_left
  ·refine wp_skip ?_
   obtain rfl:=sj hF
   exact ⟨rfl,⟨ok,E.keep [1,3],(show ([91]:List UInt8).length ≤ LIMS by decide)⟩⟩
  refine qab<|mv E rfl fun a E=>?_
  obtain ⟨s34,e35,hF⟩:=bnd hF
  refine lw E (qa5 rfl rfl e35) fun a E=>av E rfl fun a E=>wpList_nil ?_
  obtain rfl:=sj hF
  exact ⟨rfl,⟨ok,E.keep [1,3],(qa1 e35)⟩⟩
 clear hJ
 intro e a w hO
 obtain ⟨rfl,ok,E,l36⟩:=hO
 refine qaa<|wp_seq<|sg<|aw E rfl fun a E=>wp_block ?_
 obtain ⟨o39,hL,hF⟩:=bnd hF
 refine qaO _ (fun (s:(List UInt8) × Int) a w=>Ok u m0 ([(b6,oc 138 [vs x_0.Text,c2,vb x_0.Not,vi x_0.Least,vi x_0.Most])] :: S) w ∧ Env 94 a [(1,vp b6),(3,vs s.1),(5,vi s.2)] ∧ s.1.length ≤ LIMS ∧ InR .i64 s.2) (fun (b:((List UInt8))) e a w=>e = (.exit 2) ∧ Ok u m0 ([(b6,oc 138 [vs x_0.Text,c2,vb x_0.Not,vi x_0.Least,vi x_0.Most])] :: S) w ∧ Env 94 a [(1,vp b6),(3,vs b)] ∧ b.length ≤ LIMS) ?_ ?_ N _ a w hL ⟨ok,E.keep [1,3,5],l36,(ir 0)⟩
 rotate_left
 ·intro e a w _ hO
  obtain ⟨rfl,ok,E,l104⟩:=hO
  refine qaS<|qaa<|qab<|mv E rfl fun a E=>?_
  obtain ⟨s105,e106,hF⟩:=bnd hF
  refine lw E (qa5 rfl rfl e106) fun a E=>av E rfl fun a E=>wpList_nil ?_
  obtain rfl:=sj hF
  exact ⟨rfl,⟨ok,E.keep [1,3],(qa1 e106)⟩⟩
 rintro ⟨s_42,i_43⟩ a w r ⟨ok,E,l44,r45⟩ hF
 replace hF:qf4 N x_0 s_42 i_43 = some r:=hF
 unfold qf4 at hF
 refine wp_seq<|sg<|mv E rfl fun a E=>fv E qbv rfl fun a E=>ld E ok qbZ 0 rfl rfl rfl fun a E=>lv E ok (qaE qbV h3 rfl) fun a E=>lw E (qaA rfl rfl) fun a E=>?_
 refine wn<|cf E rfl hF (fun hc46 hF=>?_) fun hc46 hF=>?_
 rotate_left
 ·refine wp_exit<|qaB ?_
  obtain rfl:=sj hF
  exact so (⟨rfl,⟨ok,E.keep [1,3],l44⟩⟩)
 refine wp_skip<|qaa<|wp_seq<|wp_block<|sg<|mv E rfl fun a E=>fv E qbv rfl fun a E=>?_
 refine ld E ok qbZ 0 rfl rfl rfl fun a E=>mv E rfl fun a E=>?_
 obtain ⟨x47,e48,hF⟩:=bnd hF
 obtain ⟨b49,o50,es51,hl52,rr53,at54,yy55⟩:=qaN qbV h3 e48 (P:=Tryz.prog) (X:=.tmp 38) (I:=.tmp 39) (kd:=.i64) (qah E rfl) (qah E rfl)
 obtain ⟨rfl,r56,r57⟩:=rr53
 refine lv E ok (yy55 _ _) fun a E=>fv E qjF rfl fun a E=>lv E ok (qao qfb rfl (qae.ro (At.sub 0 1 at54))) fun a E=>?_
 obtain ⟨r58,e59,hF⟩:=bnd hF
 refine qaz E qnG rfl (qgK N x47.From r56 true e59 hG ok) rfl rfl ?_
 rintro _ w ⟨⟨rfl,ok⟩,l60⟩
 refine ⟨_,rfl,fun a E=>?_⟩
 obtain ⟨s61,e62,hF⟩:=bnd hF
 refine lw E (qa5 rfl rfl e62) fun a E=>aw E rfl fun a E=>wp_seq<|qbc (by kernel_rfl) (by kernel_rfl) ok<|qv E (qaf qbv rfl) fun a E=>qv E (qao qbZ rfl (qae.own 0 rfl rfl)) fun a E=>?_
 refine qv E (qad rfl) fun a E=>?_
 obtain ⟨x63,e64,hF⟩:=bnd hF
 obtain ⟨b65,o66,es67,hl68,rr69,at70,yy71⟩:=qaN qbV h3 e64 (P:=Tryz.prog) (X:=.tmp 46) (I:=.tmp 47) (kd:=.i64) (qah E rfl) (qah E rfl)
 obtain ⟨rfl,r72,r73⟩:=rr69
 refine qv E (yy71 _ _) fun a E=>qv E (qaf qjN rfl) fun a E=>qv E (qao qfb rfl (qae.ro (At.sub 1 1 at70))) fun a E=>qv E (qaf qbv rfl) fun a E=>qv E (qao qbZ rfl (qae.own 0 rfl rfl)) fun a E=>qv E (qad rfl) fun a E=>?_
 obtain ⟨x74,e75,hF⟩:=bnd hF
 obtain ⟨b76,o77,es78,hl79,rr80,at81,yy82⟩:=qaN qbV h3 e75 (P:=Tryz.prog) (X:=.tmp 52) (I:=.tmp 53) (kd:=.i64) (qah E rfl) (qah E rfl)
 obtain ⟨rfl,r83,r84⟩:=rr80
 refine qv E (yy82 _ _) fun a E=>qv E (qaf qjF rfl) fun a E=>qv E (qao qfb rfl (qae.ro (At.sub 0 1 at81))) fun a E=>qv E (qdG rfl rfl) fun a E=>wpQuiet_nil ?_
 intro w ok
 refine qaa<|cf E rfl hF (fun hc85 hF=>?_) fun hc85 hF=>?_
 rotate_left
 ·refine wp_skip<|qaq<|qaa<|qab<|mv E rfl fun a E=>lw E (qaG rfl rfl (InR.inc r45 (qas h3) hc46)) fun a E=>av E rfl fun a E=>wpList_nil ?_
  obtain rfl:=sj hF
  exact qay ⟨ok,E.keep [1,3,5],(qa1 e62),(InR.inc r45 (qas h3) hc46)⟩
 refine qab<|mv E rfl fun a E=>fv E qbv rfl fun a E=>ld E ok qbZ 0 rfl rfl rfl fun a E=>mv E rfl fun a E=>?_
 obtain ⟨x86,e87,hF⟩:=bnd hF
 obtain ⟨b88,o89,es90,hl91,rr92,at93,yy94⟩:=qaN qbV h3 e87 (P:=Tryz.prog) (X:=.tmp 60) (I:=.tmp 61) (kd:=.i64) (qah E rfl) (qah E rfl)
 obtain ⟨rfl,r95,r96⟩:=rr92
 refine lv E ok (yy94 _ _) fun a E=>fv E qjN rfl fun a E=>lv E ok (qao qfb rfl (qae.ro (At.sub 1 1 at93))) fun a E=>?_
 obtain ⟨r97,e98,hF⟩:=bnd hF
 refine qaz E qnG rfl (qgK N x86.To r96 true e98 hG ok) rfl rfl ?_
 rintro _ w ⟨⟨rfl,ok⟩,l99⟩
 refine ⟨_,rfl,fun a E=>?_⟩
 obtain ⟨s100,e101,hF⟩:=bnd hF
 refine lw E (qa5 rfl rfl e101) fun a E=>?_
 obtain ⟨s102,e103,hF⟩:=bnd hF
 refine lw E (qa5 rfl rfl e103) fun a E=>av E rfl fun a E=>wpList_nil<|qaq<|qaa<|qab<|mv E rfl fun a E=>lw E (qaG rfl rfl (InR.inc r45 (qas h3) hc46)) fun a E=>?_
 refine av E rfl fun a E=>wpList_nil ?_
 obtain rfl:=sj hF
 exact qay ⟨ok,E.keep [1,3,5],(qa1 e103),(InR.inc r45 (qas h3) hc46)⟩
def qkG (u:World) (m0:Mem) (S:Segs) (r:(List UInt8)) (a:Act) (w:World):Prop :=
 Ok u m0 S w ∧ a.defers = [] ∧ RVs Tryz.prog a w [.t 2 (.string (bs r))] ∧ r.length ≤ LIMS
theorem qhP (N:Nat) (vr_0:List Value) (r_0:Rule) (hr_0:qdv m0 vr_0 r_0) {r:(List UInt8)} (hF:qfH N r_0 = some r) (hG:Glob u) (ok:Ok u m0 S w) :
  Calls Tryz.prog 69 [.agg vr_0.toArray].toArray w fun e w'=>(e = .returned (.string (bs r)) ∧ Ok u m0 S w') ∧ r.length ≤ LIMS:=by
 obtain ⟨c2,rfl,l1,h3,l4⟩:=hr_0
 unfold qfH at hF
 refine en (qkG u m0 S) r Tryz.func69 rfl rfl rfl (by rintro a w ⟨ok,hd,hrv,h0⟩; exact qaM [.t 2 (.string (bs r))] hd rfl hrv ⟨⟨rfl,ok⟩,h0⟩) fun fin a E=>sg<|qdk E ok rfl rfl rfl fun b5 a w E ok=>aw E rfl fun a E=>wp_seq ?_
 refine qab<|fv E qjI rfl fun a E=>ld E ok qav 0 rfl rfl rfl fun a E=>aw E rfl fun a E=>wp_seq<|wp_seq ?_
 refine qab<|aw E rfl fun a E=>wp_block ?_
 obtain ⟨o8,hL,hF⟩:=bnd hF
 refine qaO _ (fun (s:(List UInt8) × Int) a w=>Ok u m0 ([(b5,oc 114 [vs r_0.Kind,c2,vs r_0.Next])] :: S) w ∧ Env 32 a [(1,vp b5),(3,vs s.1),(4,vi s.2)] ∧ s.1.length ≤ LIMS ∧ InR .i64 s.2) (fun (b:((List UInt8))) e a w=>e = (.exit 0) ∧ Ok u m0 ([(b5,oc 114 [vs r_0.Kind,c2,vs r_0.Next])] :: S) w ∧ Env 32 a [(1,vp b5),(3,vs b)] ∧ b.length ≤ LIMS) ?_ ?_ N _ a w hL ⟨ok,E.keep [1,3,4],l1,(ir 0)⟩
 rotate_left
 ·intro e a w _ hO
  obtain ⟨rfl,ok,E,l37⟩:=hO
  refine qaS<|qaa<|wp_seq<|sg<|fv E qgf rfl fun a E=>ld E ok qav 0 rfl rfl rfl fun a E=>lw E (qcn rfl rfl) fun a E=>?_
  refine wn<|cf E rfl hF (fun hc38 hF=>?_) fun hc38 hF=>?_
  rotate_left
  ·refine wp_skip<|qaa<|sg<|mv E rfl fun a E=>aw E rfl fun a E=>?_
   refine wp_ret ?_
   exact fin hF ⟨ok.drop,E.d,⟨rv_t E rfl,trivial⟩,l37⟩
  refine qab<|mv E rfl fun a E=>fv E qgf rfl fun a E=>ld E ok qav 0 rfl rfl rfl fun a E=>?_
  obtain ⟨s39,e40,hF⟩:=bnd hF
  refine lw E (qa5 rfl rfl e40) fun a E=>?_
  obtain ⟨s41,e42,hF⟩:=bnd hF
  refine lw E (qa5 rfl rfl e42) fun a E=>aw E rfl fun a E=>sg<|mv E rfl fun a E=>av E rfl fun a E=>?_
  refine wn<|wp_ret ?_
  exact fin hF ⟨ok.drop,E.d,⟨rv_t E rfl,trivial⟩,(qa1 e42)⟩
 rintro ⟨s_11,i_12⟩ a w r ⟨ok,E,l13,r14⟩ hF
 replace hF:qfY N r_0 s_11 i_12 = some r:=hF
 unfold qfY at hF
 refine wp_seq<|sg<|mv E rfl fun a E=>fv E qcw rfl fun a E=>ld E ok qdW 0 rfl rfl rfl fun a E=>lv E ok (qaE qcx h3 rfl) fun a E=>lw E (qaA rfl rfl) fun a E=>?_
 refine wn<|cf E rfl hF (fun hc15 hF=>?_) fun hc15 hF=>?_
 rotate_left
 ·refine wp_exit<|qaB ?_
  obtain rfl:=sj hF
  exact so (⟨rfl,⟨ok,E.keep [1,3],l13⟩⟩)
 refine wp_skip<|qaa<|wp_seq<|wp_block<|qab<|mv E rfl fun a E=>fv E qcw rfl fun a E=>ld E ok qdW 0 rfl rfl rfl fun a E=>?_
 refine mv E rfl fun a E=>?_
 obtain ⟨x16,e17,hF⟩:=bnd hF
 obtain ⟨b18,o19,es20,hl21,rr22,at23,yy24⟩:=qaN qcx h3 e17 (P:=Tryz.prog) (X:=.tmp 16) (I:=.tmp 17) (kd:=.i64) (qah E rfl) (qah E rfl)
 obtain ⟨c26,rfl,l25,h27,r28,r29⟩:=rr22
 refine lv E ok (yy24 _ _) fun a E=>lv E ok (qat (cs:=[vs x16.Text,c26,vb x16.Not,vi x16.Least,vi x16.Most]) qbh rfl rfl (qae.ro at23)) fun a E=>?_
 obtain ⟨r30,e31,hF⟩:=bnd hF
 refine qaz E qus rfl (qku N _ x16 ⟨_,rfl,l25,h27,r28,r29⟩ e31 hG ok) rfl rfl ?_
 rintro _ w ⟨⟨rfl,ok⟩,l32⟩
 refine ⟨_,rfl,fun a E=>?_⟩
 obtain ⟨s33,e34,hF⟩:=bnd hF
 refine lw E (qa5 rfl rfl e34) fun a E=>?_
 obtain ⟨s35,e36,hF⟩:=bnd hF
 refine lw E (qa5 rfl rfl e36) fun a E=>av E rfl fun a E=>wpList_nil<|qaq<|qaa<|qab<|mv E rfl fun a E=>lw E (qaG rfl rfl (InR.inc r14 (qas h3) hc15)) fun a E=>?_
 refine av E rfl fun a E=>wpList_nil ?_
 obtain rfl:=sj hF
 exact qay ⟨ok,E.keep [1,3,4],(qa1 e36),(InR.inc r14 (qas h3) hc15)⟩
def qkF (u:World) (m0:Mem) (S:Segs) (r:(List UInt8)) (a:Act) (w:World):Prop :=
 Ok u m0 S w ∧ a.defers = [] ∧ RVs Tryz.prog a w [.t 2 (.string (bs r))] ∧ r.length ≤ LIMS
theorem qkk (N:Nat) (vs_0:Value) (s_0:List (State)) (hs_0:(pL 2 qbU) m0 [vs_0] s_0) {r:(List UInt8)} (hF:qgW N s_0 = some r) (hG:Glob u) (ok:Ok u m0 S w) :
  Calls Tryz.prog 62 [vs_0].toArray w fun e w'=>(e = .returned (.string (bs r)) ∧ Ok u m0 S w') ∧ r.length ≤ LIMS:=by
 unfold qgW at hF
 refine en (qkF u m0 S) r Tryz.func62 rfl rfl rfl (by rintro a w ⟨ok,hd,hrv,h0⟩; exact qaM [.t 2 (.string (bs r))] hd rfl hrv ⟨⟨rfl,ok⟩,h0⟩) fun fin a E=>sg<|aw E rfl fun a E=>sg ?_
 refine aw E rfl fun a E=>wp_seq<|sg<|av E rfl fun a E=>wpList_nil ?_
 refine qaa<|wp_block ?_
 obtain ⟨o3,hL,hF⟩:=bnd hF
 refine qaO _ (fun (s:(List UInt8) × Int) a w=>Ok u m0 (S) w ∧ Env 44 a [(0,vs_0),(3,vs s.1),(4,vi s.2)] ∧ s.1.length ≤ LIMS ∧ InR .i64 s.2) (fun (b:((List UInt8))) e a w=>e = (.exit 0) ∧ Ok u m0 (S) w ∧ Env 44 a [(3,vs b)] ∧ b.length ≤ LIMS) ?_ ?_ N _ a w hL ⟨ok,E.keep [0,3,4],(show ([]:List UInt8).length ≤ LIMS by decide),(ir 0)⟩
 rotate_left
 ·intro e a w _ hO
  obtain ⟨rfl,ok,E,l85⟩:=hO
  refine qaS<|qaa<|sg<|mv E rfl fun a E=>aw E rfl fun a E=>?_
  refine wp_ret ?_
  exact fin hF ⟨ok,E.d,⟨rv_t E rfl,trivial⟩,l85⟩
 rintro ⟨out_6,i_7⟩ a w r ⟨ok,E,l8,r9⟩ hF
 replace hF:qf0 N s_0 out_6 i_7 = some r:=hF
 unfold qf0 at hF
 refine wp_seq<|sg<|mv E rfl fun a E=>mv E rfl fun a E=>lv E ok (qaE qbP hs_0 rfl) fun a E=>lw E (qaA rfl rfl) fun a E=>wpList_nil ?_
 refine qaa<|cf E rfl hF (fun hc10 hF=>?_) fun hc10 hF=>?_
 rotate_left
 ·refine wp_exit<|qaB ?_
  obtain rfl:=sj hF
  exact so (⟨rfl,⟨ok,E.keep [3],l8⟩⟩)
 refine wp_skip<|qaa<|wp_seq<|wp_block<|sg<|mv E rfl fun a E=>mv E rfl fun a E=>?_
 refine mv E rfl fun a E=>?_
 obtain ⟨x11,e12,hF⟩:=bnd hF
 obtain ⟨b13,o14,es15,hl16,rr17,at18,yy19⟩:=qaN qbP hs_0 e12 (P:=Tryz.prog) (X:=.tmp 13) (I:=.tmp 14) (kd:=.i64) (qah E rfl) (qah E rfl)
 obtain ⟨c21,rfl,l20,h22⟩:=rr17
 refine lv E ok (yy19 _ _) fun a E=>fv E qhG rfl fun a E=>lv E ok (qao qav rfl (qae.ro (At.sub 0 1 at18))) fun a E=>?_
 obtain ⟨s23,e24,hF⟩:=bnd hF
 refine lw E (qa5 rfl rfl e24) fun a E=>?_
 obtain ⟨s25,e26,hF⟩:=bnd hF
 refine lw E (qa5 rfl rfl e26) fun a E=>?_
 obtain ⟨s27,e28,hF⟩:=bnd hF
 refine lw E (qa5 rfl rfl e28) fun a E=>aw E rfl fun a E=>sg<|av E rfl fun a E=>wpList_nil ?_
 refine qaa<|wp_block ?_
 obtain ⟨o31,hL,hF⟩:=bnd hF
 refine qaO _ (fun (s:(List UInt8) × Int) a w=>Ok u m0 (S) w ∧ Env 44 a [(0,vs_0),(3,vs s.1),(4,vi i_7),(5,vi s.2)] ∧ s.1.length ≤ LIMS ∧ InR .i64 s.2) (fun (b:((List UInt8))) e a w=>e = (.exit 2) ∧ Ok u m0 (S) w ∧ Env 44 a [(0,vs_0),(3,vs b),(4,vi i_7)] ∧ b.length ≤ LIMS) ?_ ?_ N _ a w hL ⟨ok,E.keep [0,3,4,5],(qa1 e28),(ir 0)⟩
 rotate_left
 ·intro e a w _ hO
  obtain ⟨rfl,ok,E,l83⟩:=hO
  refine qaS<|qaq<|qaa<|qab<|mv E rfl fun a E=>lw E (qaG rfl rfl (InR.inc r9 (qas hs_0) hc10)) fun a E=>av E rfl fun a E=>wpList_nil ?_
  obtain rfl:=sj hF
  exact qay ⟨ok,E.keep [0,3,4],l83,(InR.inc r9 (qas hs_0) hc10)⟩
 rintro ⟨out_34,k_35⟩ a w r ⟨ok,E,l36,r37⟩ hF
 replace hF:qfZ N s_0 i_7 out_34 k_35 = some r:=hF
 unfold qfZ at hF
 refine wp_seq<|sg<|mv E rfl fun a E=>mv E rfl fun a E=>mv E rfl fun a E=>?_
 obtain ⟨x38,e39,hF⟩:=bnd hF
 obtain ⟨b40,o41,es42,hl43,rr44,at45,yy46⟩:=qaN qbP hs_0 e39 (P:=Tryz.prog) (X:=.tmp 22) (I:=.tmp 23) (kd:=.i64) (qah E rfl) (qah E rfl)
 obtain ⟨c48,rfl,l47,h49⟩:=rr44
 refine lv E ok (yy46 _ _) fun a E=>fv E qcO rfl fun a E=>lv E ok (qao qek rfl (qae.ro (At.sub 1 1 at45))) fun a E=>lv E ok (qaE qd9 h49 rfl) fun a E=>lw E (qaA rfl rfl) fun a E=>wn<|cf E rfl hF (fun hc50 hF=>?_) fun hc50 hF=>?_
 rotate_left
 ·refine wp_exit<|qaB ?_
  obtain rfl:=sj hF
  exact so (⟨rfl,⟨ok,E.keep [0,3,4],l36⟩⟩)
 refine wp_skip<|qaa<|wp_seq<|wp_block<|qab<|mv E rfl fun a E=>mv E rfl fun a E=>mv E rfl fun a E=>?_
 obtain ⟨x51,e52,hF⟩:=bnd hF
 obtain ⟨b53,o54,es55,hl56,rr57,at58,yy59⟩:=qaN qbP hs_0 e52 (P:=Tryz.prog) (X:=.tmp 32) (I:=.tmp 33) (kd:=.i64) (qah E rfl) (qah E rfl)
 obtain ⟨c61,rfl,l60,h62⟩:=rr57
 refine lv E ok (yy59 _ _) fun a E=>fv E qcO rfl fun a E=>lv E ok (qao qek rfl (qae.ro (At.sub 1 1 at58))) fun a E=>mv E rfl fun a E=>?_
 obtain ⟨x63,e64,hF⟩:=bnd hF
 obtain ⟨b65,o66,es67,hl68,rr69,at70,yy71⟩:=qaN qd9 h62 e64 (P:=Tryz.prog) (X:=.tmp 36) (I:=.tmp 37) (kd:=.i64) (qah E rfl) (qah E rfl)
 obtain ⟨c73,rfl,l72,h74,l75⟩:=rr69
 refine lv E ok (yy71 _ _) fun a E=>lv E ok (qat (cs:=[vs x63.Kind,c73,vs x63.Next]) qdA rfl rfl (qae.ro at70)) fun a E=>?_
 obtain ⟨r76,e77,hF⟩:=bnd hF
 refine qaz E qrO rfl (qhP N _ x63 ⟨_,rfl,l72,h74,l75⟩ e77 hG ok) rfl rfl ?_
 rintro _ w ⟨⟨rfl,ok⟩,l78⟩
 refine ⟨_,rfl,fun a E=>?_⟩
 obtain ⟨s79,e80,hF⟩:=bnd hF
 refine lw E (qa5 rfl rfl e80) fun a E=>?_
 obtain ⟨s81,e82,hF⟩:=bnd hF
 refine lw E (qa5 rfl rfl e82) fun a E=>av E rfl fun a E=>wpList_nil<|qaq<|qaa<|qab<|mv E rfl fun a E=>lw E (qaG rfl rfl (InR.inc r37 (qas h49) hc50)) fun a E=>?_
 refine av E rfl fun a E=>wpList_nil ?_
 obtain rfl:=sj hF
 exact qay ⟨ok,E.keep [0,3,4,5],(qa1 e82),(InR.inc r37 (qas h49) hc50)⟩
end Go.Proofs.YtllfckekodcdaaaGreatDoor
namespace Go.Proofs.YtllfckekodcdaaaGreatDoor
open Go.X
variable {u:World} {m0:Mem} {S:Segs} {w:World}
set_option maxHeartbeats 4000000
set_option maxRecDepth 100000
def qf1 (u:World) (m0:Mem) (S:Segs) (r:Bool) (a:Act) (w:World):Prop :=
 Ok u m0 S w ∧ a.defers = [] ∧ RVs Tryz.prog a w [.t 2 (.bool r)]
theorem qjY (N:Nat) (vs_0:Value) (s_0:List (State)) (hs_0:(pL 2 qbU) m0 [vs_0] s_0) {r:Bool} (hF:qgJ N s_0 = some r) (hG:Glob u) (ok:Ok u m0 S w) :
  Calls Tryz.prog 38 [vs_0].toArray w fun e w'=>(e = .returned (.bool r) ∧ Ok u m0 S w'):=by
 unfold qgJ at hF
 refine en (qf1 u m0 S) r Tryz.func38 rfl rfl rfl (by rintro a w ⟨ok,hd,hrv⟩; exact qaM [.t 2 (.bool r)] hd rfl hrv ⟨rfl,ok⟩) fun fin a E=>sg<|aw E rfl fun a E=>wp_seq<|wp_seq ?_
 refine qab<|aw E rfl fun a E=>wp_block ?_
 obtain ⟨o2,hL,hF⟩:=bnd hF
 refine qaO _ (fun (s:Int) a w=>Ok u m0 (S) w ∧ Env 95 a [(0,vs_0),(3,vi s)] ∧ InR .i64 s) (fun (b:(Unit ⊕ Bool)) e a w=>(Sum.elim (fun b123=>e = (.exit 0) ∧ Ok u m0 (S) w ∧ Env 95 a [(0,vs_0)]) (fun b124=>e = .ret ∧ qf1 u m0 S b124 a w)) b) ?_ ?_ N _ a w hL ⟨ok,E.keep [0,3],(ir 0)⟩
 rotate_left
 ·intro e a w _ hO
  rcases o2 with o2 | o2
  rotate_left
  ·replace hF:=qbf hF
   obtain ⟨rfl,hret⟩:=hO
   refine qan<|qag ?_
   exact fin hF hret
  replace hF:=qbe hF
  obtain ⟨rfl,ok,E⟩:=hO
  refine qaS<|qaa<|sg<|mv E rfl fun a E=>lv E ok (qaE qbP hs_0 rfl) fun a E=>lw E (qbo rfl rfl) fun a E=>mv E rfl fun a E=>?_
  refine qap (decide ((s_0.length:Int) ≥ 1)) (fun hc118=>?_) (fun hc118=>?_)
  rotate_left
  ·replace hF:=qaj hc118 hF
   replace E:=E.upd 84 hc118 rfl
   refine ls E fun a E=>ls E fun a E=>ls E fun a E=>pf E rfl rfl fun a E=>mv E rfl fun a E=>ls E fun a E=>ls E fun a E=>ls E fun a E=>?_
   refine ls E fun a E=>pf E rfl rfl fun a E=>aw E rfl fun a E=>wp_ret ?_
   exact fin hF ⟨ok,E.d,⟨rv_t E rfl,trivial⟩⟩
  replace hF:=qak hc118 hF
  replace E:=E.upd 84 hc118 rfl
  refine mv E rfl fun a E=>lv E ok (qaE qbP hs_0 rfl) fun a E=>lw E (qcj rfl rfl) fun a E=>pt E rfl rfl fun a E=>mv E rfl fun a E=>qap (decide ((s_0.length:Int) ≤ 20)) (fun hc119=>?_) (fun hc119=>?_)
  rotate_left
  ·replace hF:=qaj hc119 hF
   replace E:=E.upd 89 hc119 rfl
   refine ls E fun a E=>ls E fun a E=>ls E fun a E=>ls E fun a E=>pf E rfl rfl fun a E=>aw E rfl fun a E=>?_
   refine wp_ret ?_
   exact fin hF ⟨ok,E.d,⟨rv_t E rfl,trivial⟩⟩
  replace hF:=qak hc119 hF
  replace E:=E.upd 89 hc119 rfl
  refine mv E rfl fun a E=>?_
  obtain ⟨r120,e121,hF⟩:=bnd hF
  refine qaz E qtT rfl (qkk N _ s_0 hs_0 e121 hG ok) rfl rfl ?_
  rintro _ w ⟨⟨rfl,ok⟩,l122⟩
  refine ⟨_,rfl,fun a E=>?_⟩
  refine lw E (qaV Tryz.underlying9 rfl) fun a E=>lw E (qcj rfl rfl) fun a E=>pt E rfl rfl fun a E=>aw E rfl fun a E=>wp_ret ?_
  exact fin hF ⟨ok,E.d,⟨rv_t E rfl,trivial⟩⟩
 rintro i_4 a w r ⟨ok,E,r5⟩ hF
 replace hF:qfu N s_0 i_4 = some r:=hF
 unfold qfu at hF
 refine wp_seq<|sg<|mv E rfl fun a E=>mv E rfl fun a E=>lv E ok (qaE qbP hs_0 rfl) fun a E=>lw E (qaA rfl rfl) fun a E=>wpList_nil ?_
 refine qaa<|cf E rfl hF (fun hc6 hF=>?_) fun hc6 hF=>?_
 rotate_left
 ·refine wp_exit<|qaB ?_
  obtain rfl:=sj hF
  exact so (sl ⟨rfl,⟨ok,E.keep [0]⟩⟩)
 refine wp_skip<|qaa<|wp_seq<|wp_block<|wp_seq<|sg<|mv E rfl fun a E=>?_
 refine mv E rfl fun a E=>?_
 obtain ⟨x7,e8,hF⟩:=bnd hF
 obtain ⟨b9,o10,es11,hl12,rr13,at14,yy15⟩:=qaN qbP hs_0 e8 (P:=Tryz.prog) (X:=.tmp 12) (I:=.tmp 13) (kd:=.i64) (qah E rfl) (qah E rfl)
 obtain ⟨c17,rfl,l16,h18⟩:=rr13
 refine lv E ok (yy15 _ _) fun a E=>fv E qhG rfl fun a E=>lv E ok (qao qav rfl (qae.ro (At.sub 0 1 at14))) fun a E=>?_
 obtain ⟨r19,e20,hF⟩:=bnd hF
 refine lc E qnk rfl (qeU N x7.Name l16 e20 hG ok) fun w ok a E=>lw E (qbQ rfl) fun a E=>mv E rfl fun a E=>qap (!r19) (fun hc21=>?_) (fun hc21=>?_)
 ·replace hF:=qak hc21 hF
  replace E:=E.upd 19 hc21 rfl
  refine ls E fun a E=>ls E fun a E=>ls E fun a E=>ls E fun a E=>ls E fun a E=>ls E fun a E=>ls E fun a E=>ls E fun a E=>?_
  refine ls E fun a E=>pt E rfl rfl fun a E=>mv E rfl fun a E=>ls E fun a E=>ls E fun a E=>ls E fun a E=>ls E fun a E=>ls E fun a E=>?_
  refine ls E fun a E=>ls E fun a E=>pt E rfl rfl fun a E=>mv E rfl fun a E=>ls E fun a E=>ls E fun a E=>ls E fun a E=>ls E fun a E=>?_
  refine ls E fun a E=>ls E fun a E=>ls E fun a E=>pt E rfl rfl fun a E=>wn<|c_if E rfl (fun _=>?_) (fun h=>by cases h)
  refine sg<|aw E rfl fun a E=>wp_ret<|qag<|qan ?_
  refine qag ?_
  obtain rfl:=sj hF
  exact so (sr ⟨rfl,⟨ok,E.d,⟨rv_t E rfl,trivial⟩⟩⟩)
 replace hF:=qaj hc21 hF
 replace E:=E.upd 19 hc21 rfl
 refine mv E rfl fun a E=>mv E rfl fun a E=>mv E rfl fun a E=>?_
 obtain ⟨x22,e23,hF⟩:=bnd hF
 obtain ⟨b24,o25,es26,hl27,rr28,at29,yy30⟩:=qaN qbP hs_0 e23 (P:=Tryz.prog) (X:=.tmp 21) (I:=.tmp 22) (kd:=.i64) (qah E rfl) (qah E rfl)
 obtain ⟨c32,rfl,l31,h33⟩:=rr28
 refine lv E ok (yy30 _ _) fun a E=>fv E qhG rfl fun a E=>lv E ok (qao qav rfl (qae.ro (At.sub 0 1 at29))) fun a E=>?_
 obtain ⟨r34,e35,hF⟩:=bnd hF
 refine qaz E qrz rfl (qhq N _ s_0 hs_0 x22.Name l31 e35 hG ok) rfl rfl ?_
 rintro _ w ⟨⟨rfl,ok⟩,r36⟩
 refine ⟨_,rfl,fun a E=>?_⟩
 refine mv E rfl fun a E=>lw E (qdG rfl rfl) fun a E=>pf E rfl rfl fun a E=>mv E rfl fun a E=>qap (r34 != i_4) (fun hc37=>?_) (fun hc37=>?_)
 ·replace hF:=qak hc37 hF
  replace E:=E.upd 30 hc37 rfl
  refine ls E fun a E=>ls E fun a E=>ls E fun a E=>ls E fun a E=>ls E fun a E=>ls E fun a E=>ls E fun a E=>pt E rfl rfl fun a E=>?_
  refine mv E rfl fun a E=>ls E fun a E=>ls E fun a E=>ls E fun a E=>ls E fun a E=>ls E fun a E=>ls E fun a E=>ls E fun a E=>?_
  refine pt E rfl rfl fun a E=>wn<|c_if E rfl (fun _=>?_) (fun h=>by cases h)
  refine sg<|aw E rfl fun a E=>wp_ret<|qag<|qan ?_
  refine qag ?_
  obtain rfl:=sj hF
  exact so (sr ⟨rfl,⟨ok,E.d,⟨rv_t E rfl,trivial⟩⟩⟩)
 replace hF:=qaj hc37 hF
 replace E:=E.upd 30 hc37 rfl
 refine mv E rfl fun a E=>mv E rfl fun a E=>?_
 obtain ⟨x38,e39,hF⟩:=bnd hF
 obtain ⟨b40,o41,es42,hl43,rr44,at45,yy46⟩:=qaN qbP hs_0 e39 (P:=Tryz.prog) (X:=.tmp 31) (I:=.tmp 32) (kd:=.i64) (qah E rfl) (qah E rfl)
 obtain ⟨c48,rfl,l47,h49⟩:=rr44
 refine lv E ok (yy46 _ _) fun a E=>fv E qcO rfl fun a E=>lv E ok (qao qek rfl (qae.ro (At.sub 1 1 at45))) fun a E=>lv E ok (qaE qd9 h49 rfl) fun a E=>lw E (qaA rfl rfl) fun a E=>pf E rfl rfl fun a E=>mv E rfl fun a E=>qap (decide ((x38.Rules.length:Int) < 1)) (fun hc50=>?_) (fun hc50=>?_)
 ·replace hF:=qak hc50 hF
  replace E:=E.upd 39 hc50 rfl
  refine ls E fun a E=>ls E fun a E=>ls E fun a E=>ls E fun a E=>ls E fun a E=>ls E fun a E=>ls E fun a E=>pt E rfl rfl fun a E=>?_
  refine wn<|c_if E rfl (fun _=>?_) (fun h=>by cases h)
  refine sg<|aw E rfl fun a E=>wp_ret<|qag<|qan ?_
  refine qag ?_
  obtain rfl:=sj hF
  exact so (sr ⟨rfl,⟨ok,E.d,⟨rv_t E rfl,trivial⟩⟩⟩)
 replace hF:=qaj hc50 hF
 replace E:=E.upd 39 hc50 rfl
 refine mv E rfl fun a E=>mv E rfl fun a E=>?_
 obtain ⟨x51,e52,hF⟩:=bnd hF
 obtain ⟨b53,o54,es55,hl56,rr57,at58,yy59⟩:=qaN qbP hs_0 e52 (P:=Tryz.prog) (X:=.tmp 40) (I:=.tmp 41) (kd:=.i64) (qah E rfl) (qah E rfl)
 obtain ⟨c61,rfl,l60,h62⟩:=rr57
 refine lv E ok (yy59 _ _) fun a E=>fv E qcO rfl fun a E=>lv E ok (qao qek rfl (qae.ro (At.sub 1 1 at58))) fun a E=>lv E ok (qaE qd9 h62 rfl) fun a E=>lw E (qb9 rfl rfl) fun a E=>pf E rfl rfl fun a E=>wn ?_
 refine cf E rfl hF (fun hc63 hF=>?_) fun hc63 hF=>?_
 ·refine sg<|aw E rfl fun a E=>wp_ret<|qag<|qan ?_
  refine qag ?_
  obtain rfl:=sj hF
  exact so (sr ⟨rfl,⟨ok,E.d,⟨rv_t E rfl,trivial⟩⟩⟩)
 refine wp_skip<|qaa<|sg<|aw E rfl fun a E=>wp_block ?_
 obtain ⟨o65,hL,hF⟩:=bnd hF
 refine qaO _ (fun (s:Int) a w=>Ok u m0 (S) w ∧ Env 95 a [(0,vs_0),(3,vi i_4),(4,vi s)] ∧ InR .i64 s) (fun (b:(Unit ⊕ Bool)) e a w=>(Sum.elim (fun b116=>e = (.exit 2) ∧ Ok u m0 (S) w ∧ Env 95 a [(0,vs_0),(3,vi i_4)]) (fun b117=>e = .ret ∧ qf1 u m0 S b117 a w)) b) ?_ ?_ N _ a w hL ⟨ok,E.keep [0,3,4],(ir 0)⟩
 rotate_left
 ·intro e a w _ hO
  rcases o65 with o65 | o65
  rotate_left
  ·replace hF:=qbf hF
   obtain ⟨rfl,hret⟩:=hO
   refine qan<|qan<|qag ?_
   obtain rfl:=sj hF
   exact so (sr ⟨rfl,hret⟩)
  replace hF:=qbe hF
  obtain ⟨rfl,ok,E⟩:=hO
  refine qaS<|qaq<|qaa<|qab<|mv E rfl fun a E=>lw E (qaG rfl rfl (InR.inc r5 (qas hs_0) hc6)) fun a E=>av E rfl fun a E=>wpList_nil ?_
  obtain rfl:=sj hF
  exact qay ⟨ok,E.keep [0,3],(InR.inc r5 (qas hs_0) hc6)⟩
 rintro k_67 a w r ⟨ok,E,r68⟩ hF
 replace hF:qfB N s_0 i_4 k_67 = some r:=hF
 unfold qfB at hF
 refine wp_seq<|sg<|mv E rfl fun a E=>mv E rfl fun a E=>mv E rfl fun a E=>?_
 obtain ⟨x69,e70,hF⟩:=bnd hF
 obtain ⟨b71,o72,es73,hl74,rr75,at76,yy77⟩:=qaN qbP hs_0 e70 (P:=Tryz.prog) (X:=.tmp 49) (I:=.tmp 50) (kd:=.i64) (qah E rfl) (qah E rfl)
 obtain ⟨c79,rfl,l78,h80⟩:=rr75
 refine lv E ok (yy77 _ _) fun a E=>fv E qcO rfl fun a E=>lv E ok (qao qek rfl (qae.ro (At.sub 1 1 at76))) fun a E=>lv E ok (qaE qd9 h80 rfl) fun a E=>lw E (qaA rfl rfl) fun a E=>wn<|cf E rfl hF (fun hc81 hF=>?_) fun hc81 hF=>?_
 rotate_left
 ·refine wp_exit<|qaB ?_
  obtain rfl:=sj hF
  exact so (sl ⟨rfl,⟨ok,E.keep [0,3]⟩⟩)
 refine wp_skip<|qaa<|wp_seq<|wp_block<|sg<|mv E rfl fun a E=>mv E rfl fun a E=>?_
 obtain ⟨x82,e83,hF⟩:=bnd hF
 obtain ⟨b84,o85,es86,hl87,rr88,at89,yy90⟩:=qaN qbP hs_0 e83 (P:=Tryz.prog) (X:=.tmp 58) (I:=.tmp 59) (kd:=.i64) (qah E rfl) (qah E rfl)
 obtain ⟨c92,rfl,l91,h93⟩:=rr88
 refine lv E ok (yy90 _ _) fun a E=>fv E qcO rfl fun a E=>lv E ok (qao qek rfl (qae.ro (At.sub 1 1 at89))) fun a E=>mv E rfl fun a E=>?_
 obtain ⟨x94,e95,hF⟩:=bnd hF
 obtain ⟨b96,o97,es98,hl99,rr100,at101,yy102⟩:=qaN qd9 h93 e95 (P:=Tryz.prog) (X:=.tmp 62) (I:=.tmp 63) (kd:=.i64) (qah E rfl) (qah E rfl)
 obtain ⟨c104,rfl,l103,h105,l106⟩:=rr100
 refine lv E ok (yy102 _ _) fun a E=>lv E ok (qat (cs:=[vs x94.Kind,c104,vs x94.Next]) qdA rfl rfl (qae.ro at101)) fun a E=>qaC E ok qdu rfl rfl fun b107 a w E ok=>qai E ok 0 rfl rfl rfl qgD rfl rfl ⟨rfl,(qa0 h105),rfl,trivial⟩ rfl rfl fun w ok=>wn<|sg ?_
 refine lv E ok (qat (cs:=[vs x94.Kind,c104,vs x94.Next]) qdA rfl rfl (qae.own 0 rfl rfl)) fun a E=>?_
 obtain ⟨r108,e109,hF⟩:=bnd hF
 refine lc E qpx rfl (qfE N _ x94 ⟨_,rfl,l103,h105,l106⟩ e109 hG ok) fun w ok a E=>lw E (qbQ rfl) fun a E=>mv E rfl fun a E=>qap (!r108) (fun hc110=>?_) (fun hc110=>?_)
 ·replace hF:=qak hc110 hF
  replace E:=E.upd 69 hc110 rfl
  refine ls E fun a E=>ls E fun a E=>ls E fun a E=>ls E fun a E=>ls E fun a E=>ls E fun a E=>ls E fun a E=>ls E fun a E=>?_
  refine ls E fun a E=>ls E fun a E=>pt E rfl rfl fun a E=>wn<|c_if E rfl (fun _=>?_) (fun h=>by cases h)
  refine sg<|aw E rfl fun a E=>wp_ret<|qan<|qag ?_
  obtain rfl:=sj hF
  exact so (sr ⟨rfl,⟨ok.drop,E.d,⟨rv_t E rfl,trivial⟩⟩⟩)
 replace hF:=qaj hc110 hF
 replace E:=E.upd 69 hc110 rfl
 refine fv E qgf rfl fun a E=>ld E ok qav 0 rfl rfl rfl fun a E=>lw E (qcn rfl rfl) fun a E=>mv E rfl fun a E=>qap (x94.Next != ([])) (fun hc111=>?_) (fun hc111=>?_)
 rotate_left
 ·replace hF:=qaj hc111 hF
  replace E:=E.upd 73 hc111 rfl
  refine ls E fun a E=>ls E fun a E=>ls E fun a E=>ls E fun a E=>ls E fun a E=>pf E rfl rfl fun a E=>pf E rfl rfl fun a E=>wpList_nil ?_
  refine qaa<|c_if E rfl (fun h=>by cases h) (fun _=>?_)
  refine wp_skip<|qaq<|qaa<|qab<|mv E rfl fun a E=>lw E (qaG rfl rfl (InR.inc r68 (qas h80) hc81)) fun a E=>av E rfl fun a E=>wpList_nil ?_
  obtain rfl:=sj hF
  exact qay ⟨(ok.pk 1 [] rfl (by decide)),E.keep [0,3,4],(InR.inc r68 (qas h80) hc81)⟩
 replace hF:=qak hc111 hF
 replace E:=E.upd 73 hc111 rfl
 refine mv E rfl fun a E=>fv E qgf rfl fun a E=>ld E ok qav 0 rfl rfl rfl fun a E=>?_
 obtain ⟨r112,e113,hF⟩:=bnd hF
 refine qaz E qrz rfl (qhq N _ s_0 hs_0 x94.Next l106 e113 hG ok) rfl rfl ?_
 rintro _ w ⟨⟨rfl,ok⟩,r114⟩
 refine ⟨_,rfl,fun a E=>?_⟩
 refine lw E (qaA rfl rfl) fun a E=>pt E rfl rfl fun a E=>pf E rfl rfl fun a E=>wn<|cf E rfl hF (fun hc115 hF=>?_) fun hc115 hF=>?_
 rotate_left
 ·refine wp_skip<|qaq<|qaa<|qab<|mv E rfl fun a E=>lw E (qaG rfl rfl (InR.inc r68 (qas h80) hc81)) fun a E=>av E rfl fun a E=>wpList_nil ?_
  obtain rfl:=sj hF
  exact qay ⟨(ok.pk 1 [] rfl (by decide)),E.keep [0,3,4],(InR.inc r68 (qas h80) hc81)⟩
 refine sg<|aw E rfl fun a E=>wp_ret<|qan<|qag ?_
 obtain rfl:=sj hF
 exact so (sr ⟨rfl,⟨ok.drop,E.d,⟨rv_t E rfl,trivial⟩⟩⟩)
def qf8 (u:World) (m0:Mem) (S:Segs) (r:Bool) (a:Act) (w:World):Prop :=
 Ok u m0 S w ∧ a.defers = [] ∧ RVs Tryz.prog a w [.t 4 (.bool r)]
theorem qgb (N:Nat) (va_0:Value) (a_0:List (List UInt8)) (ha_0:(pL 1 pS) m0 [va_0] a_0) (vb_1:Value) (b_1:List (List UInt8)) (hb_1:(pL 1 pS) m0 [vb_1] b_1) {r:Bool} (hF:qcg N a_0 b_1 = some r) (hG:Glob u) (ok:Ok u m0 S w) :
  Calls Tryz.prog 20 [va_0,vb_1].toArray w fun e w'=>(e = .returned (.bool r) ∧ Ok u m0 S w'):=by
 unfold qcg at hF
 refine en (qf8 u m0 S) r Tryz.func20 rfl rfl rfl (by rintro a w ⟨ok,hd,hrv⟩; exact qaM [.t 4 (.bool r)] hd rfl hrv ⟨rfl,ok⟩) fun fin a E=>sg<|aw E rfl fun a E=>wp_seq<|wp_seq ?_
 refine qab<|mv E rfl fun a E=>lv E ok (qaE qhI ha_0 rfl) fun a E=>mv E rfl fun a E=>lv E ok (qaE qhI hb_1 rfl) fun a E=>lw E (qdG rfl rfl) fun a E=>wn ?_
 refine cf E rfl hF (fun hc1 hF=>?_) fun hc1 hF=>?_
 ·refine sg<|aw E rfl fun a E=>wp_ret<|qag ?_
  exact fin hF ⟨ok,E.d,⟨rv_t E rfl,trivial⟩⟩
 refine wp_skip<|qaa<|wp_seq<|sg<|aw E rfl fun a E=>?_
 refine wp_block ?_
 obtain ⟨o3,hL,hF⟩:=bnd hF
 refine qaO _ (fun (s:Int) a w=>Ok u m0 (S) w ∧ Env 26 a [(0,va_0),(1,vb_1),(5,vi s)] ∧ InR .i64 s) (fun (b:(Unit ⊕ Bool)) e a w=>(Sum.elim (fun b29=>e = (.exit 0) ∧ Ok u m0 (S) w ∧ Env 26 a []) (fun b30=>e = .ret ∧ qf8 u m0 S b30 a w)) b) ?_ ?_ N _ a w hL ⟨ok,E.keep [0,1,5],(ir 0)⟩
 rotate_left
 ·intro e a w _ hO
  rcases o3 with o3 | o3
  rotate_left
  ·replace hF:=qbf hF
   obtain ⟨rfl,hret⟩:=hO
   refine qan<|qag ?_
   exact fin hF hret
  replace hF:=qbe hF
  obtain ⟨rfl,ok,E⟩:=hO
  refine qaS<|qaa<|sg<|aw E rfl fun a E=>wp_ret ?_
  exact fin hF ⟨ok,E.d,⟨rv_t E rfl,trivial⟩⟩
 rintro i_5 a w r ⟨ok,E,r6⟩ hF
 replace hF:qb5 N a_0 b_1 i_5 = some r:=hF
 unfold qb5 at hF
 refine wp_seq<|sg<|mv E rfl fun a E=>mv E rfl fun a E=>lv E ok (qaE qhI ha_0 rfl) fun a E=>lw E (qaA rfl rfl) fun a E=>wpList_nil ?_
 refine qaa<|cf E rfl hF (fun hc7 hF=>?_) fun hc7 hF=>?_
 rotate_left
 ·refine wp_exit<|qaB ?_
  obtain rfl:=sj hF
  exact so (sl ⟨rfl,⟨ok,E.keep []⟩⟩)
 refine wp_skip<|qaa<|wp_seq<|wp_block<|wp_seq<|qbc (by kernel_rfl) (by kernel_rfl) ok<|qv E (qad rfl) fun a E=>qv E (qad rfl) fun a E=>?_
 obtain ⟨x8,e9,hF⟩:=bnd hF
 obtain ⟨b10,o11,es12,hl13,rr14,at15,yy16⟩:=qaN qhI ha_0 e9 (P:=Tryz.prog) (X:=.tmp 17) (I:=.tmp 18) (kd:=.i64) (qah E rfl) (qah E rfl)
 obtain ⟨rfl,l17⟩:=rr14
 refine qv E (yy16 _ _) fun a E=>qv E (qao qav rfl (qae.ro at15)) fun a E=>qv E (qad rfl) fun a E=>qv E (qad rfl) fun a E=>?_
 obtain ⟨x18,e19,hF⟩:=bnd hF
 obtain ⟨b20,o21,es22,hl23,rr24,at25,yy26⟩:=qaN qhI hb_1 e19 (P:=Tryz.prog) (X:=.tmp 21) (I:=.tmp 22) (kd:=.i64) (qah E rfl) (qah E rfl)
 obtain ⟨rfl,l27⟩:=rr24
 refine qv E (yy26 _ _) fun a E=>qv E (qao qav rfl (qae.ro at25)) fun a E=>qv E (qcn rfl rfl) fun a E=>wpQuiet_nil ?_
 intro w ok
 refine qaa<|cf E rfl hF (fun hc28 hF=>?_) fun hc28 hF=>?_
 rotate_left
 ·refine wp_skip<|qaq<|qaa<|qab<|mv E rfl fun a E=>lw E (qaG rfl rfl (InR.inc r6 (qas ha_0) hc7)) fun a E=>av E rfl fun a E=>wpList_nil ?_
  obtain rfl:=sj hF
  exact qay ⟨ok,E.keep [0,1,5],(InR.inc r6 (qas ha_0) hc7)⟩
 refine sg<|aw E rfl fun a E=>wp_ret<|qan<|qag ?_
 obtain rfl:=sj hF
 exact so (sr ⟨rfl,⟨ok,E.d,⟨rv_t E rfl,trivial⟩⟩⟩)
end Go.Proofs.YtllfckekodcdaaaGreatDoor
namespace Go.Proofs.YtllfckekodcdaaaGreatDoor
open Go.X
variable {u:World} {m0:Mem} {S:Segs} {w:World}
set_option maxHeartbeats 4000000
set_option maxRecDepth 100000
def qgF (u:World) (m0:Mem) (S:Segs) (r:Bool) (a:Act) (w:World):Prop :=
 Ok u m0 S w ∧ a.defers = [] ∧ RVs Tryz.prog a w [.t 4 (.bool r)]
theorem qiG (N:Nat) (vx_0:List Value) (x_0:Entry) (hx_0:qeN m0 vx_0 x_0) (vy_1:List Value) (y_1:Entry) (hy_1:qeN m0 vy_1 y_1) {r:Bool} (hF:qde N x_0 y_1 = some r) (hG:Glob u) (ok:Ok u m0 S w) :
  Calls Tryz.prog 19 [.agg vx_0.toArray,.agg vy_1.toArray].toArray w fun e w'=>(e = .returned (.bool r) ∧ Ok u m0 S w'):=by
 obtain ⟨c4,c6,c9,rfl,l1,l2,l3,h5,h7,r8,h10⟩:=hx_0
 obtain ⟨c14,c16,c19,rfl,l11,l12,l13,h15,h17,r18,h20⟩:=hy_1
 unfold qde at hF
 refine en (qgF u m0 S) r Tryz.func19 rfl rfl rfl (by rintro a w ⟨ok,hd,hrv⟩; exact qaM [.t 4 (.bool r)] hd rfl hrv ⟨rfl,ok⟩) fun fin a E=>sg<|qdk E ok rfl rfl rfl fun b21 a w E ok=>qdk E ok rfl rfl rfl fun b22 a w E ok=>aw E rfl fun a E=>?_
 refine wp_seq<|sg<|fv E qo8 rfl fun a E=>ld E ok qav 1 rfl rfl rfl fun a E=>fv E qo8 rfl fun a E=>ld E ok qav 0 rfl rfl rfl fun a E=>lw E (qcn rfl rfl) fun a E=>?_
 refine mv E rfl fun a E=>qap (x_0.ID != y_1.ID) (fun hc23=>?_) (fun hc23=>?_)
 ·replace hF:=qak hc23 hF
  replace E:=E.upd 11 hc23 rfl
  refine ls E fun a E=>ls E fun a E=>ls E fun a E=>ls E fun a E=>ls E fun a E=>pt E rfl rfl fun a E=>mv E rfl fun a E=>ls E fun a E=>?_
  refine ls E fun a E=>ls E fun a E=>ls E fun a E=>ls E fun a E=>pt E rfl rfl fun a E=>mv E rfl fun a E=>ls E fun a E=>ls E fun a E=>?_
  refine ls E fun a E=>ls E fun a E=>ls E fun a E=>pt E rfl rfl fun a E=>mv E rfl fun a E=>ls E fun a E=>ls E fun a E=>ls E fun a E=>?_
  refine ls E fun a E=>ls E fun a E=>ls E fun a E=>pt E rfl rfl fun a E=>mv E rfl fun a E=>ls E fun a E=>ls E fun a E=>ls E fun a E=>?_
  refine ls E fun a E=>ls E fun a E=>ls E fun a E=>pt E rfl rfl fun a E=>mv E rfl fun a E=>ls E fun a E=>ls E fun a E=>ls E fun a E=>?_
  refine ls E fun a E=>ls E fun a E=>ls E fun a E=>ls E fun a E=>pt E rfl rfl fun a E=>wn<|c_if E rfl (fun _=>?_) (fun h=>by cases h)
  refine sg<|aw E rfl fun a E=>wp_ret<|qag ?_
  exact fin hF ⟨ok.drop.drop,E.d,⟨rv_t E rfl,trivial⟩⟩
 replace hF:=qaj hc23 hF
 replace E:=E.upd 11 hc23 rfl
 refine fv E qmg rfl fun a E=>ld E ok qav 1 rfl rfl rfl fun a E=>fv E qmg rfl fun a E=>ld E ok qav 0 rfl rfl rfl fun a E=>lw E (qcn rfl rfl) fun a E=>pf E rfl rfl fun a E=>mv E rfl fun a E=>qap (x_0.Source != y_1.Source) (fun hc24=>?_) (fun hc24=>?_)
 ·replace hF:=qak hc24 hF
  replace E:=E.upd 18 hc24 rfl
  refine ls E fun a E=>ls E fun a E=>ls E fun a E=>ls E fun a E=>ls E fun a E=>pt E rfl rfl fun a E=>mv E rfl fun a E=>ls E fun a E=>?_
  refine ls E fun a E=>ls E fun a E=>ls E fun a E=>ls E fun a E=>pt E rfl rfl fun a E=>mv E rfl fun a E=>ls E fun a E=>ls E fun a E=>?_
  refine ls E fun a E=>ls E fun a E=>ls E fun a E=>ls E fun a E=>pt E rfl rfl fun a E=>mv E rfl fun a E=>ls E fun a E=>ls E fun a E=>?_
  refine ls E fun a E=>ls E fun a E=>ls E fun a E=>ls E fun a E=>pt E rfl rfl fun a E=>mv E rfl fun a E=>ls E fun a E=>ls E fun a E=>?_
  refine ls E fun a E=>ls E fun a E=>ls E fun a E=>ls E fun a E=>ls E fun a E=>pt E rfl rfl fun a E=>wn ?_
  refine c_if E rfl (fun _=>?_) (fun h=>by cases h)
  refine sg<|aw E rfl fun a E=>wp_ret<|qag ?_
  exact fin hF ⟨ok.drop.drop,E.d,⟨rv_t E rfl,trivial⟩⟩
 replace hF:=qaj hc24 hF
 replace E:=E.upd 18 hc24 rfl
 refine fv E qoI rfl fun a E=>ld E ok qav 1 rfl rfl rfl fun a E=>fv E qoI rfl fun a E=>ld E ok qav 0 rfl rfl rfl fun a E=>lw E (qcn rfl rfl) fun a E=>pf E rfl rfl fun a E=>mv E rfl fun a E=>qap (x_0.Target != y_1.Target) (fun hc25=>?_) (fun hc25=>?_)
 ·replace hF:=qak hc25 hF
  replace E:=E.upd 25 hc25 rfl
  refine ls E fun a E=>ls E fun a E=>ls E fun a E=>ls E fun a E=>ls E fun a E=>pt E rfl rfl fun a E=>mv E rfl fun a E=>ls E fun a E=>?_
  refine ls E fun a E=>ls E fun a E=>ls E fun a E=>ls E fun a E=>ls E fun a E=>pt E rfl rfl fun a E=>mv E rfl fun a E=>ls E fun a E=>?_
  refine ls E fun a E=>ls E fun a E=>ls E fun a E=>ls E fun a E=>ls E fun a E=>pt E rfl rfl fun a E=>mv E rfl fun a E=>ls E fun a E=>?_
  refine ls E fun a E=>ls E fun a E=>ls E fun a E=>ls E fun a E=>ls E fun a E=>ls E fun a E=>pt E rfl rfl fun a E=>wpList_nil ?_
  refine qaa<|c_if E rfl (fun _=>?_) (fun h=>by cases h)
  refine sg<|aw E rfl fun a E=>wp_ret<|qag ?_
  exact fin hF ⟨ok.drop.drop,E.d,⟨rv_t E rfl,trivial⟩⟩
 replace hF:=qaj hc25 hF
 replace E:=E.upd 25 hc25 rfl
 refine fv E qoN rfl fun a E=>ld E ok qaZ 1 rfl rfl rfl fun a E=>fv E qoN rfl fun a E=>ld E ok qaZ 0 rfl rfl rfl fun a E=>lw E (qdG rfl rfl) fun a E=>pf E rfl rfl fun a E=>mv E rfl fun a E=>qap (x_0.State != y_1.State) (fun hc26=>?_) (fun hc26=>?_)
 ·replace hF:=qak hc26 hF
  replace E:=E.upd 32 hc26 rfl
  refine ls E fun a E=>ls E fun a E=>ls E fun a E=>ls E fun a E=>ls E fun a E=>ls E fun a E=>pt E rfl rfl fun a E=>mv E rfl fun a E=>?_
  refine ls E fun a E=>ls E fun a E=>ls E fun a E=>ls E fun a E=>ls E fun a E=>ls E fun a E=>pt E rfl rfl fun a E=>mv E rfl fun a E=>?_
  refine ls E fun a E=>ls E fun a E=>ls E fun a E=>ls E fun a E=>ls E fun a E=>ls E fun a E=>ls E fun a E=>pt E rfl rfl fun a E=>?_
  refine wn<|c_if E rfl (fun _=>?_) (fun h=>by cases h)
  refine sg<|aw E rfl fun a E=>wp_ret<|qag ?_
  exact fin hF ⟨ok.drop.drop,E.d,⟨rv_t E rfl,trivial⟩⟩
 replace hF:=qaj hc26 hF
 replace E:=E.upd 32 hc26 rfl
 refine fv E qjx rfl fun a E=>ld E ok qjn 1 rfl rfl rfl fun a E=>fv E qjx rfl fun a E=>ld E ok qjn 0 rfl rfl rfl fun a E=>?_
 obtain ⟨r27,e28,hF⟩:=bnd hF
 refine lc E qrC rfl (qgb N _ x_0.Comments h5 _ y_1.Comments h15 e28 hG ok) fun w ok a E=>lw E (qbQ rfl) fun a E=>pf E rfl rfl fun a E=>mv E rfl fun a E=>qap (!r27) (fun hc29=>?_) (fun hc29=>?_)
 ·replace hF:=qak hc29 hF
  replace E:=E.upd 40 hc29 rfl
  refine ls E fun a E=>ls E fun a E=>ls E fun a E=>ls E fun a E=>ls E fun a E=>ls E fun a E=>pt E rfl rfl fun a E=>mv E rfl fun a E=>?_
  refine ls E fun a E=>ls E fun a E=>ls E fun a E=>ls E fun a E=>ls E fun a E=>ls E fun a E=>ls E fun a E=>pt E rfl rfl fun a E=>?_
  refine wn<|c_if E rfl (fun _=>?_) (fun h=>by cases h)
  refine sg<|aw E rfl fun a E=>wp_ret<|qag ?_
  exact fin hF ⟨ok.drop.drop,E.d,⟨rv_t E rfl,trivial⟩⟩
 replace hF:=qaj hc29 hF
 replace E:=E.upd 40 hc29 rfl
 refine fv E qoP rfl fun a E=>ld E ok qjn 1 rfl rfl rfl fun a E=>fv E qoP rfl fun a E=>ld E ok qjn 0 rfl rfl rfl fun a E=>?_
 obtain ⟨r30,e31,hF⟩:=bnd hF
 refine lc E qrC rfl (qgb N _ x_0.Flags h7 _ y_1.Flags h17 e31 hG ok) fun w ok a E=>lw E (qbQ rfl) fun a E=>pf E rfl rfl fun a E=>mv E rfl fun a E=>qap (!r30) (fun hc32=>?_) (fun hc32=>?_)
 ·replace hF:=qak hc32 hF
  replace E:=E.upd 48 hc32 rfl
  refine ls E fun a E=>ls E fun a E=>ls E fun a E=>ls E fun a E=>ls E fun a E=>ls E fun a E=>ls E fun a E=>pt E rfl rfl fun a E=>?_
  refine wn<|c_if E rfl (fun _=>?_) (fun h=>by cases h)
  refine sg<|aw E rfl fun a E=>wp_ret<|qag ?_
  exact fin hF ⟨ok.drop.drop,E.d,⟨rv_t E rfl,trivial⟩⟩
 replace hF:=qaj hc32 hF
 replace E:=E.upd 48 hc32 rfl
 refine fv E qdS rfl fun a E=>ld E ok qeR 1 rfl rfl rfl fun a E=>lv E ok (qaE qc2 h10 rfl) fun a E=>fv E qdS rfl fun a E=>ld E ok qeR 0 rfl rfl rfl fun a E=>lv E ok (qaE qc2 h20 rfl) fun a E=>lw E (qdG rfl rfl) fun a E=>pf E rfl rfl fun a E=>?_
 refine wn<|cf E rfl hF (fun hc33 hF=>?_) fun hc33 hF=>?_
 ·refine sg<|aw E rfl fun a E=>wp_ret<|qag ?_
  exact fin hF ⟨ok.drop.drop,E.d,⟨rv_t E rfl,trivial⟩⟩
 refine wp_skip<|qaa<|wp_seq<|sg<|aw E rfl fun a E=>?_
 refine wp_block ?_
 obtain ⟨o35,hL,hF⟩:=bnd hF
 refine qaO _ (fun (s:Int) a w=>Ok u m0 ([(b22,oc 53 [vs y_1.ID,vs y_1.Source,vs y_1.Target,c14,c16,vi y_1.State,c19])] :: [(b21,oc 53 [vs x_0.ID,vs x_0.Source,vs x_0.Target,c4,c6,vi x_0.State,c9])] :: S) w ∧ Env 75 a [(2,vp b21),(3,vp b22),(5,vi s)] ∧ InR .i64 s) (fun (b:(Unit ⊕ Bool)) e a w=>(Sum.elim (fun b63=>e = (.exit 0) ∧ Ok u m0 ([(b22,oc 53 [vs y_1.ID,vs y_1.Source,vs y_1.Target,c14,c16,vi y_1.State,c19])] :: [(b21,oc 53 [vs x_0.ID,vs x_0.Source,vs x_0.Target,c4,c6,vi x_0.State,c9])] :: S) w ∧ Env 75 a []) (fun b64=>e = .ret ∧ qgF u m0 S b64 a w)) b) ?_ ?_ N _ a w hL ⟨ok,E.keep [2,3,5],(ir 0)⟩
 rotate_left
 ·intro e a w _ hO
  rcases o35 with o35 | o35
  rotate_left
  ·replace hF:=qbf hF
   obtain ⟨rfl,hret⟩:=hO
   refine qan<|qag ?_
   exact fin hF hret
  replace hF:=qbe hF
  obtain ⟨rfl,ok,E⟩:=hO
  refine qaS<|qaa<|sg<|aw E rfl fun a E=>wp_ret ?_
  exact fin hF ⟨ok.drop.drop,E.d,⟨rv_t E rfl,trivial⟩⟩
 rintro i_37 a w r ⟨ok,E,r38⟩ hF
 replace hF:qcb N x_0 y_1 i_37 = some r:=hF
 unfold qcb at hF
 refine wp_seq<|sg<|mv E rfl fun a E=>fv E qdS rfl fun a E=>ld E ok qeR 1 rfl rfl rfl fun a E=>lv E ok (qaE qc2 h10 rfl) fun a E=>lw E (qaA rfl rfl) fun a E=>?_
 refine wn<|cf E rfl hF (fun hc39 hF=>?_) fun hc39 hF=>?_
 rotate_left
 ·refine wp_exit<|qaB ?_
  obtain rfl:=sj hF
  exact so (sl ⟨rfl,⟨ok,E.keep []⟩⟩)
 refine wp_skip<|qaa<|wp_seq<|wp_block<|wp_seq<|qbc (by kernel_rfl) (by kernel_rfl) ok<|qv E (qaf qdS rfl) fun a E=>qv E (qao qeR rfl (qae.own 1 rfl rfl)) fun a E=>?_
 refine qv E (qad rfl) fun a E=>?_
 obtain ⟨x40,e41,hF⟩:=bnd hF
 obtain ⟨b42,o43,es44,hl45,rr46,at47,yy48⟩:=qaN qc2 h10 e41 (P:=Tryz.prog) (X:=.tmp 65) (I:=.tmp 66) (kd:=.i64) (qah E rfl) (qah E rfl)
 obtain ⟨rfl,l49,l50⟩:=rr46
 refine qv E (yy48 _ _) fun a E=>qv E (qat (cs:=[vs x40.Name,vs x40.Value]) qqG rfl rfl (qae.ro at47)) fun a E=>qv E (qaf qdS rfl) fun a E=>qv E (qao qeR rfl (qae.own 0 rfl rfl)) fun a E=>qv E (qad rfl) fun a E=>?_
 obtain ⟨x51,e52,hF⟩:=bnd hF
 obtain ⟨b53,o54,es55,hl56,rr57,at58,yy59⟩:=qaN qc2 h20 e52 (P:=Tryz.prog) (X:=.tmp 70) (I:=.tmp 71) (kd:=.i64) (qah E rfl) (qah E rfl)
 obtain ⟨rfl,l60,l61⟩:=rr57
 refine qv E (yy59 _ _) fun a E=>qv E (qat (cs:=[vs x51.Name,vs x51.Value]) qqG rfl rfl (qae.ro at58)) fun a E=>qv E (qtB qtp (qjC Tryz.underlying58 qqP (qiN (by decide) (qbC qav rfl) (qbC qav rfl) (qoO Tryz.underlying9) (qkb (by decide) (qbC qav rfl) (qbC qav rfl) (qoO Tryz.underlying9)))) rfl rfl) fun a E=>wpQuiet_nil ?_
 intro w ok
 refine qaa<|cf E rfl hF (fun hc62 hF=>?_) fun hc62 hF=>?_
 rotate_left
 ·refine wp_skip<|qaq<|qaa<|qab<|mv E rfl fun a E=>lw E (qaG rfl rfl (InR.inc r38 (qas h10) hc39)) fun a E=>av E rfl fun a E=>wpList_nil ?_
  obtain rfl:=sj hF
  exact qay ⟨ok,E.keep [2,3,5],(InR.inc r38 (qas h10) hc39)⟩
 refine sg<|aw E rfl fun a E=>wp_ret<|qan<|qag ?_
 obtain rfl:=sj hF
 exact so (sr ⟨rfl,⟨ok.drop.drop,E.d,⟨rv_t E rfl,trivial⟩⟩⟩)
def qhY (u:World) (m0:Mem) (S:Segs) (r:Bool) (a:Act) (w:World):Prop :=
 Ok u m0 S w ∧ a.defers = [] ∧ RVs Tryz.prog a w [.t 4 (.bool r)]
theorem qgg (N:Nat) (va_0:Value) (a_0:List (Entry)) (ha_0:(pL 7 qeN) m0 [va_0] a_0) (vb_1:Value) (b_1:List (Entry)) (hb_1:(pL 7 qeN) m0 [vb_1] b_1) {r:Bool} (hF:qcv N a_0 b_1 = some r) (hG:Glob u) (ok:Ok u m0 S w) :
  Calls Tryz.prog 21 [va_0,vb_1].toArray w fun e w'=>(e = .returned (.bool r) ∧ Ok u m0 S w'):=by
 unfold qcv at hF
 refine en (qhY u m0 S) r Tryz.func21 rfl rfl rfl (by rintro a w ⟨ok,hd,hrv⟩; exact qaM [.t 4 (.bool r)] hd rfl hrv ⟨rfl,ok⟩) fun fin a E=>sg<|aw E rfl fun a E=>wp_seq<|wp_seq ?_
 refine qab<|mv E rfl fun a E=>lv E ok (qaE qgU ha_0 rfl) fun a E=>mv E rfl fun a E=>lv E ok (qaE qgU hb_1 rfl) fun a E=>lw E (qdG rfl rfl) fun a E=>wn ?_
 refine cf E rfl hF (fun hc1 hF=>?_) fun hc1 hF=>?_
 ·refine sg<|aw E rfl fun a E=>wp_ret<|qag ?_
  exact fin hF ⟨ok,E.d,⟨rv_t E rfl,trivial⟩⟩
 refine wp_skip<|qaa<|wp_seq<|sg<|aw E rfl fun a E=>?_
 refine wp_block ?_
 obtain ⟨o3,hL,hF⟩:=bnd hF
 refine qaO _ (fun (s:Int) a w=>Ok u m0 (S) w ∧ Env 27 a [(0,va_0),(1,vb_1),(5,vi s)] ∧ InR .i64 s) (fun (b:(Unit ⊕ Bool)) e a w=>(Sum.elim (fun b49=>e = (.exit 0) ∧ Ok u m0 (S) w ∧ Env 27 a []) (fun b50=>e = .ret ∧ qhY u m0 S b50 a w)) b) ?_ ?_ N _ a w hL ⟨ok,E.keep [0,1,5],(ir 0)⟩
 rotate_left
 ·intro e a w _ hO
  rcases o3 with o3 | o3
  rotate_left
  ·replace hF:=qbf hF
   obtain ⟨rfl,hret⟩:=hO
   refine qan<|qag ?_
   exact fin hF hret
  replace hF:=qbe hF
  obtain ⟨rfl,ok,E⟩:=hO
  refine qaS<|qaa<|sg<|aw E rfl fun a E=>wp_ret ?_
  exact fin hF ⟨ok,E.d,⟨rv_t E rfl,trivial⟩⟩
 rintro i_5 a w r ⟨ok,E,r6⟩ hF
 replace hF:qcZ N a_0 b_1 i_5 = some r:=hF
 unfold qcZ at hF
 refine wp_seq<|sg<|mv E rfl fun a E=>mv E rfl fun a E=>lv E ok (qaE qgU ha_0 rfl) fun a E=>lw E (qaA rfl rfl) fun a E=>wpList_nil ?_
 refine qaa<|cf E rfl hF (fun hc7 hF=>?_) fun hc7 hF=>?_
 rotate_left
 ·refine wp_exit<|qaB ?_
  obtain rfl:=sj hF
  exact so (sl ⟨rfl,⟨ok,E.keep []⟩⟩)
 refine wp_skip<|qaa<|wp_seq<|wp_block<|wp_seq<|qbc (by kernel_rfl) (by kernel_rfl) ok<|qv E (qad rfl) fun a E=>qv E (qad rfl) fun a E=>?_
 obtain ⟨x8,e9,hF⟩:=bnd hF
 obtain ⟨b10,o11,es12,hl13,rr14,at15,yy16⟩:=qaN qgU ha_0 e9 (P:=Tryz.prog) (X:=.tmp 17) (I:=.tmp 18) (kd:=.i64) (qah E rfl) (qah E rfl)
 obtain ⟨c20,c22,c25,rfl,l17,l18,l19,h21,h23,r24,h26⟩:=rr14
 refine qv E (yy16 _ _) fun a E=>qv E (qat (cs:=[vs x8.ID,vs x8.Source,vs x8.Target,c20,c22,vi x8.State,c25]) qp8 rfl rfl (qae.ro at15)) fun a E=>qv E (qad rfl) fun a E=>qv E (qad rfl) fun a E=>?_
 obtain ⟨x27,e28,hF⟩:=bnd hF
 obtain ⟨b29,o30,es31,hl32,rr33,at34,yy35⟩:=qaN qgU hb_1 e28 (P:=Tryz.prog) (X:=.tmp 21) (I:=.tmp 22) (kd:=.i64) (qah E rfl) (qah E rfl)
 obtain ⟨c39,c41,c44,rfl,l36,l37,l38,h40,h42,r43,h45⟩:=rr33
 refine qv E (yy35 _ _) fun a E=>qv E (qat (cs:=[vs x27.ID,vs x27.Source,vs x27.Target,c39,c41,vi x27.State,c44]) qp8 rfl rfl (qae.ro at34)) fun a E=>?_
 obtain ⟨r46,e47,hF⟩:=bnd hF
 refine qfR E qtL rfl (fun w ok=>(qiG N _ x8 ⟨_,_,_,rfl,l17,l18,l19,h21,h23,r24,h26⟩ _ x27 ⟨_,_,_,rfl,l36,l37,l38,h40,h42,r43,h45⟩ e47 hG ok).mono (fun _ _ h=>h)) rfl rfl fun a E=>qv E (qbQ rfl) fun a E=>wpQuiet_nil ?_
 intro w ok
 refine qaa<|cf E rfl hF (fun hc48 hF=>?_) fun hc48 hF=>?_
 rotate_left
 ·refine wp_skip<|qaq<|qaa<|qab<|mv E rfl fun a E=>lw E (qaG rfl rfl (InR.inc r6 (qas ha_0) hc7)) fun a E=>av E rfl fun a E=>wpList_nil ?_
  obtain rfl:=sj hF
  exact qay ⟨ok,E.keep [0,1,5],(InR.inc r6 (qas ha_0) hc7)⟩
 refine sg<|aw E rfl fun a E=>wp_ret<|qan<|qag ?_
 obtain rfl:=sj hF
 exact so (sr ⟨rfl,⟨ok,E.d,⟨rv_t E rfl,trivial⟩⟩⟩)
def qk8 (u:World) (m0:Mem) (S:Segs) (r:Bool) (a:Act) (w:World):Prop :=
 Ok u m0 S w ∧ a.defers = [] ∧ RVs Tryz.prog a w [.t 2 (.bool r)]
theorem qla (N:Nat) (vs_0:Value) (s_0:List (State)) (hs_0:(pL 2 qbU) m0 [vs_0] s_0) {r:Bool} (hF:qeQ N s_0 = some r) (hG:Glob u) (ok:Ok u m0 S w) :
  Calls Tryz.prog 32 [vs_0].toArray w fun e w'=>(e = .returned (.bool r) ∧ Ok u m0 S w'):=by
 unfold qeQ at hF
 refine en (qk8 u m0 S) r Tryz.func32 rfl rfl rfl (by rintro a w ⟨ok,hd,hrv⟩; exact qaM [.t 2 (.bool r)] hd rfl hrv ⟨rfl,ok⟩) fun fin a E=>sg<|aw E rfl fun a E=>sg ?_
 refine aw E rfl fun a E=>wp_seq<|sg<|av E rfl fun a E=>wpList_nil ?_
 refine qaa<|wp_block ?_
 obtain ⟨o3,hL,hF⟩:=bnd hF
 refine qaO _ (fun (s:Int × Int) a w=>Ok u m0 (S) w ∧ Env 83 a [(0,vs_0),(3,vi s.1),(4,vi s.2)] ∧ InR .i64 s.1 ∧ InR .i64 s.2) (fun (b:Int) e a w=>e = (.exit 0) ∧ Ok u m0 (S) w ∧ Env 83 a [(3,vi b)] ∧ InR .i64 b) ?_ ?_ N _ a w hL ⟨ok,E.keep [0,3,4],(ir 0),(ir 0)⟩
 rotate_left
 ·intro e a w _ hO
  obtain ⟨rfl,ok,E,r113⟩:=hO
  refine qaS<|qaa<|sg<|mv E rfl fun a E=>lw E (qcj rfl rfl) fun a E=>av E rfl fun a E=>wpList_nil ?_
  refine qaa<|wp_ret ?_
  exact fin hF ⟨ok,E.d,⟨rv_t E rfl,trivial⟩⟩
 rintro ⟨n_6,i_7⟩ a w r ⟨ok,E,r8,r9⟩ hF
 replace hF:qdb N s_0 n_6 i_7 = some r:=hF
 unfold qdb at hF
 refine wp_seq<|sg<|mv E rfl fun a E=>mv E rfl fun a E=>lv E ok (qaE qbP hs_0 rfl) fun a E=>lw E (qaA rfl rfl) fun a E=>wpList_nil ?_
 refine qaa<|cf E rfl hF (fun hc10 hF=>?_) fun hc10 hF=>?_
 rotate_left
 ·refine wp_exit<|qaB ?_
  obtain rfl:=sj hF
  exact so (⟨rfl,⟨ok,E.keep [3],r8⟩⟩)
 refine wp_skip<|qaa<|wp_seq<|wp_block<|wp_seq<|sg<|av E rfl fun a E=>?_
 refine wn<|wp_block ?_
 obtain ⟨o13,hL,hF⟩:=bnd hF
 refine qaO _ (fun (s:Int × Int) a w=>Ok u m0 (S) w ∧ Env 83 a [(0,vs_0),(3,vi s.1),(4,vi i_7),(5,vi s.2)] ∧ InR .i64 s.1 ∧ InR .i64 s.2) (fun (b:Int) e a w=>e = (.exit 2) ∧ Ok u m0 (S) w ∧ Env 83 a [(0,vs_0),(3,vi b),(4,vi i_7)] ∧ InR .i64 b) ?_ ?_ N _ a w hL ⟨ok,E.keep [0,3,4,5],r8,(ir 0)⟩
 rotate_left
 ·intro e a w _ hO
  obtain ⟨rfl,ok,E,r99⟩:=hO
  refine qaS<|qaa<|qab<|mv E rfl fun a E=>mv E rfl fun a E=>mv E rfl fun a E=>?_
  obtain ⟨x100,e101,hF⟩:=bnd hF
  obtain ⟨b102,o103,es104,hl105,rr106,at107,yy108⟩:=qaN qbP hs_0 e101 (P:=Tryz.prog) (X:=.tmp 72) (I:=.tmp 73) (kd:=.i64) (qah E rfl) (qah E rfl)
  obtain ⟨c110,rfl,l109,h111⟩:=rr106
  refine lv E ok (yy108 _ _) fun a E=>fv E qhG rfl fun a E=>lv E ok (qao qav rfl (qae.ro (At.sub 0 1 at107))) fun a E=>lw E (qaV Tryz.underlying9 rfl) fun a E=>lv E ok (qkW rfl rfl (by decide)) fun a E=>lw E (qaF rfl rfl) fun a E=>lw E (qaF rfl rfl) fun a E=>av E rfl fun a E=>?_
  refine wpList_nil<|qaq<|qaa<|qab<|mv E rfl fun a E=>lw E (qaG rfl rfl (InR.inc r9 (qas hs_0) hc10)) fun a E=>av E rfl fun a E=>wpList_nil ?_
  obtain rfl:=sj hF
  exact qay ⟨ok,E.keep [0,3,4],(InR.wrap _ _),(InR.inc r9 (qas hs_0) hc10)⟩
 rintro ⟨n_16,k_17⟩ a w r ⟨ok,E,r18,r19⟩ hF
 replace hF:qdc N s_0 i_7 n_16 k_17 = some r:=hF
 unfold qdc at hF
 refine wp_seq<|sg<|mv E rfl fun a E=>mv E rfl fun a E=>mv E rfl fun a E=>?_
 obtain ⟨x20,e21,hF⟩:=bnd hF
 obtain ⟨b22,o23,es24,hl25,rr26,at27,yy28⟩:=qaN qbP hs_0 e21 (P:=Tryz.prog) (X:=.tmp 15) (I:=.tmp 16) (kd:=.i64) (qah E rfl) (qah E rfl)
 obtain ⟨c30,rfl,l29,h31⟩:=rr26
 refine lv E ok (yy28 _ _) fun a E=>fv E qcO rfl fun a E=>lv E ok (qao qek rfl (qae.ro (At.sub 1 1 at27))) fun a E=>lv E ok (qaE qd9 h31 rfl) fun a E=>lw E (qaA rfl rfl) fun a E=>wn<|cf E rfl hF (fun hc32 hF=>?_) fun hc32 hF=>?_
 rotate_left
 ·refine wp_exit<|qaB ?_
  obtain rfl:=sj hF
  exact so (⟨rfl,⟨ok,E.keep [0,3,4],r18⟩⟩)
 refine wp_skip<|qaa<|wp_seq<|wp_block<|sg<|mv E rfl fun a E=>mv E rfl fun a E=>?_
 obtain ⟨x33,e34,hF⟩:=bnd hF
 obtain ⟨b35,o36,es37,hl38,rr39,at40,yy41⟩:=qaN qbP hs_0 e34 (P:=Tryz.prog) (X:=.tmp 24) (I:=.tmp 25) (kd:=.i64) (qah E rfl) (qah E rfl)
 obtain ⟨c43,rfl,l42,h44⟩:=rr39
 refine lv E ok (yy41 _ _) fun a E=>fv E qcO rfl fun a E=>lv E ok (qao qek rfl (qae.ro (At.sub 1 1 at40))) fun a E=>mv E rfl fun a E=>?_
 obtain ⟨x45,e46,hF⟩:=bnd hF
 obtain ⟨b47,o48,es49,hl50,rr51,at52,yy53⟩:=qaN qd9 h44 e46 (P:=Tryz.prog) (X:=.tmp 28) (I:=.tmp 29) (kd:=.i64) (qah E rfl) (qah E rfl)
 obtain ⟨c55,rfl,l54,h56,l57⟩:=rr51
 refine lv E ok (yy53 _ _) fun a E=>lv E ok (qat (cs:=[vs x45.Kind,c55,vs x45.Next]) qdA rfl rfl (qae.ro at52)) fun a E=>qaC E ok qdu rfl rfl fun b58 a w E ok=>qai E ok 0 rfl rfl rfl qgD rfl rfl ⟨rfl,(qa0 h56),rfl,trivial⟩ rfl rfl fun w ok=>wn<|sg ?_
 refine mv E rfl fun a E=>fv E qjI rfl fun a E=>ld E ok qav 0 rfl rfl rfl fun a E=>lw E (qaV Tryz.underlying9 rfl) fun a E=>lv E ok (qkW rfl rfl (by decide)) fun a E=>lw E (qaF rfl rfl) fun a E=>fv E qgf rfl fun a E=>ld E ok qav 0 rfl rfl rfl fun a E=>?_
 refine lw E (qaV Tryz.underlying9 rfl) fun a E=>lv E ok (qkW rfl rfl (by decide)) fun a E=>lw E (qaF rfl rfl) fun a E=>lw E (qaF rfl rfl) fun a E=>aw E rfl fun a E=>wp_seq ?_
 refine qab<|aw E rfl fun a E=>wp_block ?_
 obtain ⟨o61,hL,hF⟩:=bnd hF
 refine qaO _ (fun (s:Int × Int) a w=>Ok u m0 ([(b58,oc 114 [vs x45.Kind,c55,vs x45.Next])] :: S) w ∧ Env 83 a [(0,vs_0),(3,vi s.1),(4,vi i_7),(5,vi k_17),(6,vp b58),(7,vi s.2)] ∧ InR .i64 s.1 ∧ InR .i64 s.2) (fun (b:Int) e a w=>e = (.exit 4) ∧ Ok u m0 ([(b58,oc 114 [vs x45.Kind,c55,vs x45.Next])] :: S) w ∧ Env 83 a [(0,vs_0),(3,vi b),(4,vi i_7),(5,vi k_17)] ∧ InR .i64 b) ?_ ?_ N _ a w hL ⟨ok,E.keep [0,3,4,5,6,7],(InR.wrap _ _),(ir 0)⟩
 rotate_left
 ·intro e a w _ hO
  obtain ⟨rfl,ok,E,r97⟩:=hO
  refine qaS<|qaq<|qaa<|qab<|mv E rfl fun a E=>lw E (qaG rfl rfl (InR.inc r19 (qas h31) hc32)) fun a E=>av E rfl fun a E=>wpList_nil ?_
  obtain rfl:=sj hF
  exact qay ⟨(ok.pk 1 [] rfl (by decide)),E.keep [0,3,4,5],r97,(InR.inc r19 (qas h31) hc32)⟩
 rintro ⟨n_64,j_65⟩ a w r ⟨ok,E,r66,r67⟩ hF
 replace hF:qc9 N x45 n_64 j_65 = some r:=hF
 unfold qc9 at hF
 refine wp_seq<|sg<|mv E rfl fun a E=>fv E qcw rfl fun a E=>ld E ok qdW 0 rfl rfl rfl fun a E=>lv E ok (qaE qcx h56 rfl) fun a E=>lw E (qaA rfl rfl) fun a E=>?_
 refine wn<|cf E rfl hF (fun hc68 hF=>?_) fun hc68 hF=>?_
 rotate_left
 ·refine wp_exit<|qaB ?_
  obtain rfl:=sj hF
  exact so (⟨rfl,⟨ok,E.keep [0,3,4,5],r66⟩⟩)
 refine wp_skip<|qaa<|wp_seq<|wp_block<|qbc (by kernel_rfl) (by kernel_rfl) ok<|qv E (qad rfl) fun a E=>qv E (qaf qcw rfl) fun a E=>qv E (qao qdW rfl (qae.own 0 rfl rfl)) fun a E=>?_
 refine qv E (qad rfl) fun a E=>?_
 obtain ⟨x69,e70,hF⟩:=bnd hF
 obtain ⟨b71,o72,es73,hl74,rr75,at76,yy77⟩:=qaN qcx h56 e70 (P:=Tryz.prog) (X:=.tmp 53) (I:=.tmp 54) (kd:=.i64) (qah E rfl) (qah E rfl)
 obtain ⟨c79,rfl,l78,h80,r81,r82⟩:=rr75
 refine qv E (yy77 _ _) fun a E=>qv E (qaf qbv rfl) fun a E=>qv E (qao qbZ rfl (qae.ro (At.sub 1 1 at76))) fun a E=>qv E (qaE qbV h80 rfl) fun a E=>qv E (qkW rfl rfl (by decide)) fun a E=>qv E (qaF rfl rfl) fun a E=>qv E (qaf qcw rfl) fun a E=>qv E (qao qdW rfl (qae.own 0 rfl rfl)) fun a E=>?_
 refine qv E (qad rfl) fun a E=>?_
 obtain ⟨x83,e84,hF⟩:=bnd hF
 obtain ⟨b85,o86,es87,hl88,rr89,at90,yy91⟩:=qaN qcx h56 e84 (P:=Tryz.prog) (X:=.tmp 62) (I:=.tmp 63) (kd:=.i64) (qah E rfl) (qah E rfl)
 obtain ⟨c93,rfl,l92,h94,r95,r96⟩:=rr89
 refine qv E (yy91 _ _) fun a E=>qv E (qaf qfJ rfl) fun a E=>qv E (qao qav rfl (qae.ro (At.sub 0 1 at90))) fun a E=>qv E (qaV Tryz.underlying9 rfl) fun a E=>qv E (qkW rfl rfl (by decide)) fun a E=>qv E (qaF rfl rfl) fun a E=>qv E (qaF rfl rfl) fun a E=>qv E (qal rfl) fun a E=>?_
 refine wpQuiet_nil ?_
 intro w ok
 refine qaq<|qaa<|qab<|mv E rfl fun a E=>lw E (qaG rfl rfl (InR.inc r67 (qas h56) hc68)) fun a E=>av E rfl fun a E=>wpList_nil ?_
 obtain rfl:=sj hF
 exact qay ⟨ok,E.keep [0,3,4,5,6,7],(InR.wrap _ _),(InR.inc r67 (qas h56) hc68)⟩
def qjX (u:World) (m0:Mem) (S:Segs) (r:Int) (a:Act) (w:World):Prop :=
 Ok u m0 S w ∧ a.defers = [] ∧ RVs Tryz.prog a w [.t 2 (.int .i64 r)] ∧ InR .i64 r
theorem qcV (N:Nat) (c_0:Int) (rc_0:InR .u8 c_0) {r:Int} (hF:qdC N c_0 = some r) (hG:Glob u) (ok:Ok u m0 S w) :
  Calls Tryz.prog 131 [Value.int .u8 c_0].toArray w fun e w'=>(e = .returned (.int .i64 r) ∧ Ok u m0 S w') ∧ InR .i64 r:=by
 unfold qdC at hF
 refine en (qjX u m0 S) r Tryz.func131 rfl rfl rfl (by rintro a w ⟨ok,hd,hrv,h0⟩; exact qaM [.t 2 (.int .i64 r)] hd rfl hrv ⟨⟨rfl,ok⟩,h0⟩) fun fin a E=>sg<|aw E rfl fun a E=>wp_seq<|wp_block ?_
 refine sg<|mv E rfl fun a E=>lw E (qbo rfl rfl) fun a E=>mv E rfl fun a E=>qap (decide (c_0 ≥ 48)) (fun hc1=>?_) (fun hc1=>?_)
 rotate_left
 ·replace hF:=qaj hc1 hF
  replace E:=E.upd 6 hc1 rfl
  refine ls E fun a E=>ls E fun a E=>pf E rfl rfl fun a E=>aw E rfl fun a E=>c_if E rfl (fun h=>by cases h) (fun _=>?_)
  refine sg<|mv E rfl fun a E=>lw E (qbo rfl rfl) fun a E=>mv E rfl fun a E=>qap (decide (c_0 ≥ 97)) (fun hc5=>?_) (fun hc5=>?_)
  rotate_left
  ·replace hF:=qaj hc5 hF
   replace E:=E.upd 16 hc5 rfl
   refine ls E fun a E=>ls E fun a E=>pf E rfl rfl fun a E=>aw E rfl fun a E=>c_if E rfl (fun h=>by cases h) (fun _=>?_)
   refine wp_skip<|qaq<|qaa<|sg<|aw E rfl fun a E=>?_
   refine wp_ret ?_
   exact fin hF ⟨ok,E.d,⟨rv_t E rfl,trivial⟩,(ir (-1))⟩
  replace hF:=qak hc5 hF
  replace E:=E.upd 16 hc5 rfl
  refine mv E rfl fun a E=>lw E (qcj rfl rfl) fun a E=>pt E rfl rfl fun a E=>aw E rfl fun a E=>cf E rfl hF (fun hc6 hF=>?_) fun hc6 hF=>?_
  rotate_left
  ·refine wp_skip<|qaq<|qaa<|sg<|aw E rfl fun a E=>?_
   refine wp_ret ?_
   exact fin hF ⟨ok,E.d,⟨rv_t E rfl,trivial⟩,(ir (-1))⟩
  refine sg<|mv E rfl fun a E=>lw E (qca rfl rfl) fun a E=>lw E (qk1 Tryz.underlying5 Tryz.underlying3 rfl (InR.wrap _ _) (by decide)) fun a E=>lw E (qaF rfl rfl) fun a E=>av E rfl fun a E=>wpList_nil ?_
  refine qaa<|wp_ret<|qan<|qag ?_
  exact fin hF ⟨ok,E.d,⟨rv_t E rfl,trivial⟩,(InR.wrap _ _)⟩
 replace hF:=qak hc1 hF
 replace E:=E.upd 6 hc1 rfl
 refine mv E rfl fun a E=>lw E (qcj rfl rfl) fun a E=>pt E rfl rfl fun a E=>aw E rfl fun a E=>cf E rfl hF (fun hc2 hF=>?_) fun hc2 hF=>?_
 ·refine sg<|mv E rfl fun a E=>lw E (qca rfl rfl) fun a E=>lw E (qk1 Tryz.underlying5 Tryz.underlying3 rfl (InR.wrap _ _) (by decide)) fun a E=>aw E rfl fun a E=>?_
  refine wp_ret<|qan<|qag ?_
  exact fin hF ⟨ok,E.d,⟨rv_t E rfl,trivial⟩,(InR.widen (InR.wrap _ _) (by decide))⟩
 refine sg<|mv E rfl fun a E=>lw E (qbo rfl rfl) fun a E=>mv E rfl fun a E=>qap (decide (c_0 ≥ 97)) (fun hc3=>?_) (fun hc3=>?_)
 rotate_left
 ·replace hF:=qaj hc3 hF
  replace E:=E.upd 16 hc3 rfl
  refine ls E fun a E=>ls E fun a E=>pf E rfl rfl fun a E=>aw E rfl fun a E=>c_if E rfl (fun h=>by cases h) (fun _=>?_)
  refine wp_skip<|qaq<|qaa<|sg<|aw E rfl fun a E=>?_
  refine wp_ret ?_
  exact fin hF ⟨ok,E.d,⟨rv_t E rfl,trivial⟩,(ir (-1))⟩
 replace hF:=qak hc3 hF
 replace E:=E.upd 16 hc3 rfl
 refine mv E rfl fun a E=>lw E (qcj rfl rfl) fun a E=>pt E rfl rfl fun a E=>aw E rfl fun a E=>cf E rfl hF (fun hc4 hF=>?_) fun hc4 hF=>?_
 rotate_left
 ·refine wp_skip<|qaq<|qaa<|sg<|aw E rfl fun a E=>?_
  refine wp_ret ?_
  exact fin hF ⟨ok,E.d,⟨rv_t E rfl,trivial⟩,(ir (-1))⟩
 refine sg<|mv E rfl fun a E=>lw E (qca rfl rfl) fun a E=>lw E (qk1 Tryz.underlying5 Tryz.underlying3 rfl (InR.wrap _ _) (by decide)) fun a E=>lw E (qaF rfl rfl) fun a E=>av E rfl fun a E=>wpList_nil ?_
 refine qaa<|wp_ret<|qan<|qag ?_
 exact fin hF ⟨ok,E.d,⟨rv_t E rfl,trivial⟩,(InR.wrap _ _)⟩
def qiZ (u:World) (m0:Mem) (S:Segs) (r:Int × Int) (a:Act) (w:World):Prop :=
 Ok u m0 S w ∧ a.defers = [] ∧ RVs Tryz.prog a w [.t 4 (.int .u8 r.1),.t 5 (.int .i64 r.2)] ∧ InR .u8 r.1 ∧ InR .i64 r.2
theorem qc0 (N:Nat) (s_0:List UInt8) (ls_0:s_0.length ≤ LIMS) (at_1:Int) (rat_1:InR .i64 at_1) {r:Int × Int} (hF:qci N s_0 at_1 = some r) (hG:Glob u) (ok:Ok u m0 S w) :
  Calls Tryz.prog 109 [vs s_0,vi at_1].toArray w fun e w'=>(e = .returned (.tuple [(.int .u8 r.1),(.int .i64 r.2)].toArray) ∧ Ok u m0 S w') ∧ InR .u8 r.1 ∧ InR .i64 r.2:=by
 unfold qci at hF
 refine en (qiZ u m0 S) r Tryz.func109 rfl rfl rfl (by rintro a w ⟨ok,hd,hrv,h0,h1⟩; exact qaM [.t 4 (.int .u8 r.1),.t 5 (.int .i64 r.2)] hd rfl hrv ⟨⟨rfl,ok⟩,h0,h1⟩) fun fin a E=>sg<|av E rfl fun a E=>aw E rfl fun a E=>wp_seq ?_
 refine wp_block<|sg<|mv E rfl fun a E=>mv E rfl fun a E=>lw E (qaV Tryz.underlying9 rfl) fun a E=>lw E (qbo rfl rfl) fun a E=>av E rfl fun a E=>?_
 refine wn<|cf E rfl hF (fun hc1 hF=>?_) fun hc1 hF=>?_
 ·refine sg<|av E rfl fun a E=>aw E rfl fun a E=>wp_ret<|qan ?_
  refine qag ?_
  exact fin hF ⟨ok,E.d,⟨rv_t E rfl,rv_t E rfl,trivial⟩,(show InR .u8 (0) by decide),(ir (-1))⟩
 refine sg<|mv E rfl fun a E=>mv E rfl fun a E=>?_
 obtain ⟨c2,e3,hF⟩:=bnd hF
 refine lv E ok (qba Tryz.underlying9 rfl rfl e3) fun a E=>lw E (qdG rfl rfl) fun a E=>aw E rfl fun a E=>cf E rfl hF (fun hc4 hF=>?_) fun hc4 hF=>?_
 ·refine sg<|mv E rfl fun a E=>mv E rfl fun a E=>?_
  obtain ⟨c5,e6,hF⟩:=bnd hF
  refine lv E ok (qba Tryz.underlying9 rfl rfl e6) fun a E=>mv E rfl fun a E=>lw E (qaF rfl rfl) fun a E=>av E rfl fun a E=>aw E rfl fun a E=>wp_ret ?_
  refine qan<|qag ?_
  exact fin hF ⟨ok,E.d,⟨rv_t E rfl,rv_t E rfl,trivial⟩,(InR.byte c5),(InR.wrap _ _)⟩
 refine sg<|mv E rfl fun a E=>lw E (qaF rfl rfl) fun a E=>mv E rfl fun a E=>lw E (qaV Tryz.underlying9 rfl) fun a E=>lw E (qaA rfl rfl) fun a E=>mv E rfl fun a E=>?_
 refine qap (decide ((IntKind.wrap .i64 (at_1 + 3)) < (s_0.length:Int))) (fun hc7=>?_) (fun hc7=>?_)
 rotate_left
 ·replace hF:=qaj hc7 hF
  replace E:=E.upd 27 hc7 rfl
  refine ls E fun a E=>ls E fun a E=>ls E fun a E=>ls E fun a E=>ls E fun a E=>pf E rfl rfl fun a E=>mv E rfl fun a E=>ls E fun a E=>?_
  refine ls E fun a E=>ls E fun a E=>ls E fun a E=>ls E fun a E=>ls E fun a E=>pf E rfl rfl fun a E=>mv E rfl fun a E=>ls E fun a E=>?_
  refine ls E fun a E=>ls E fun a E=>ls E fun a E=>ls E fun a E=>ls E fun a E=>pf E rfl rfl fun a E=>av E rfl fun a E=>wpList_nil ?_
  refine qaa<|c_if E rfl (fun h=>by cases h) (fun _=>?_)
  refine sg<|mv E rfl fun a E=>lw E (qaF rfl rfl) fun a E=>mv E rfl fun a E=>lw E (qaV Tryz.underlying9 rfl) fun a E=>lw E (qaA rfl rfl) fun a E=>av E rfl fun a E=>?_
  refine wn<|cf E rfl hF (fun hc42 hF=>?_) fun hc42 hF=>?_
  rotate_left
  ·refine wp_skip<|qaq<|qaa<|sg<|av E rfl fun a E=>av E rfl fun a E=>wpList_nil ?_
   refine qaa<|wp_ret ?_
   exact fin hF ⟨ok,E.d,⟨rv_t E rfl,rv_t E rfl,trivial⟩,(show InR .u8 (0) by decide),(ir (-1))⟩
  refine sg<|mv E rfl fun a E=>mv E rfl fun a E=>lw E (qaF rfl rfl) fun a E=>?_
  obtain ⟨c43,e44,hF⟩:=bnd hF
  refine lv E ok (qba Tryz.underlying9 rfl rfl e44) fun a E=>mv E rfl fun a E=>lw E (qaF rfl rfl) fun a E=>av E rfl fun a E=>aw E rfl fun a E=>wp_ret ?_
  refine qan<|qag ?_
  exact fin hF ⟨ok,E.d,⟨rv_t E rfl,rv_t E rfl,trivial⟩,(InR.byte c43),(InR.wrap _ _)⟩
 replace hF:=qak hc7 hF
 replace E:=E.upd 27 hc7 rfl
 refine mv E rfl fun a E=>mv E rfl fun a E=>lw E (qaF rfl rfl) fun a E=>?_
 obtain ⟨c8,e9,hF⟩:=bnd hF
 refine lv E ok (qba Tryz.underlying9 rfl rfl e9) fun a E=>lw E (qbt rfl rfl) fun a E=>pt E rfl rfl fun a E=>mv E rfl fun a E=>qap ((c8.toNat:Int) == 120) (fun hc10=>?_) (fun hc10=>?_)
 rotate_left
 ·replace hF:=qaj hc10 hF
  replace E:=E.upd 34 hc10 rfl
  refine ls E fun a E=>ls E fun a E=>ls E fun a E=>ls E fun a E=>ls E fun a E=>ls E fun a E=>pf E rfl rfl fun a E=>mv E rfl fun a E=>?_
  refine ls E fun a E=>ls E fun a E=>ls E fun a E=>ls E fun a E=>ls E fun a E=>ls E fun a E=>pf E rfl rfl fun a E=>av E rfl fun a E=>?_
  refine wn<|c_if E rfl (fun h=>by cases h) (fun _=>?_)
  refine sg<|mv E rfl fun a E=>lw E (qaF rfl rfl) fun a E=>mv E rfl fun a E=>lw E (qaV Tryz.underlying9 rfl) fun a E=>lw E (qaA rfl rfl) fun a E=>av E rfl fun a E=>?_
  refine wn<|cf E rfl hF (fun hc39 hF=>?_) fun hc39 hF=>?_
  rotate_left
  ·refine wp_skip<|qaq<|qaa<|sg<|av E rfl fun a E=>av E rfl fun a E=>wpList_nil ?_
   refine qaa<|wp_ret ?_
   exact fin hF ⟨ok,E.d,⟨rv_t E rfl,rv_t E rfl,trivial⟩,(show InR .u8 (0) by decide),(ir (-1))⟩
  refine sg<|mv E rfl fun a E=>mv E rfl fun a E=>lw E (qaF rfl rfl) fun a E=>?_
  obtain ⟨c40,e41,hF⟩:=bnd hF
  refine lv E ok (qba Tryz.underlying9 rfl rfl e41) fun a E=>mv E rfl fun a E=>lw E (qaF rfl rfl) fun a E=>av E rfl fun a E=>aw E rfl fun a E=>wp_ret ?_
  refine qan<|qag ?_
  exact fin hF ⟨ok,E.d,⟨rv_t E rfl,rv_t E rfl,trivial⟩,(InR.byte c40),(InR.wrap _ _)⟩
 replace hF:=qak hc10 hF
 replace E:=E.upd 34 hc10 rfl
 refine mv E rfl fun a E=>mv E rfl fun a E=>lw E (qaF rfl rfl) fun a E=>?_
 obtain ⟨c11,e12,hF⟩:=bnd hF
 refine lv E ok (qba Tryz.underlying9 rfl rfl e12) fun a E=>?_
 obtain ⟨r13,e14,hF⟩:=bnd hF
 refine qaz E qlE rfl (qcV N (c11.toNat:Int) (InR.byte c11) e14 hG ok) rfl rfl ?_
 rintro _ w ⟨⟨rfl,ok⟩,r15⟩
 refine ⟨_,rfl,fun a E=>?_⟩
 refine lw E (qbo rfl rfl) fun a E=>pt E rfl rfl fun a E=>mv E rfl fun a E=>qap (decide (r13 ≥ 0)) (fun hc16=>?_) (fun hc16=>?_)
 rotate_left
 ·replace hF:=qaj hc16 hF
  replace E:=E.upd 42 hc16 rfl
  refine ls E fun a E=>ls E fun a E=>ls E fun a E=>ls E fun a E=>ls E fun a E=>ls E fun a E=>pf E rfl rfl fun a E=>av E rfl fun a E=>?_
  refine wn<|c_if E rfl (fun h=>by cases h) (fun _=>?_)
  refine sg<|mv E rfl fun a E=>lw E (qaF rfl rfl) fun a E=>mv E rfl fun a E=>lw E (qaV Tryz.underlying9 rfl) fun a E=>lw E (qaA rfl rfl) fun a E=>av E rfl fun a E=>?_
  refine wn<|cf E rfl hF (fun hc36 hF=>?_) fun hc36 hF=>?_
  rotate_left
  ·refine wp_skip<|qaq<|qaa<|sg<|av E rfl fun a E=>av E rfl fun a E=>wpList_nil ?_
   refine qaa<|wp_ret ?_
   exact fin hF ⟨ok,E.d,⟨rv_t E rfl,rv_t E rfl,trivial⟩,(show InR .u8 (0) by decide),(ir (-1))⟩
  refine sg<|mv E rfl fun a E=>mv E rfl fun a E=>lw E (qaF rfl rfl) fun a E=>?_
  obtain ⟨c37,e38,hF⟩:=bnd hF
  refine lv E ok (qba Tryz.underlying9 rfl rfl e38) fun a E=>mv E rfl fun a E=>lw E (qaF rfl rfl) fun a E=>av E rfl fun a E=>aw E rfl fun a E=>wp_ret ?_
  refine qan<|qag ?_
  exact fin hF ⟨ok,E.d,⟨rv_t E rfl,rv_t E rfl,trivial⟩,(InR.byte c37),(InR.wrap _ _)⟩
 replace hF:=qak hc16 hF
 replace E:=E.upd 42 hc16 rfl
 refine mv E rfl fun a E=>mv E rfl fun a E=>lw E (qaF rfl rfl) fun a E=>?_
 obtain ⟨c17,e18,hF⟩:=bnd hF
 refine lv E ok (qba Tryz.underlying9 rfl rfl e18) fun a E=>?_
 obtain ⟨r19,e20,hF⟩:=bnd hF
 refine qaz E qlE rfl (qcV N (c17.toNat:Int) (InR.byte c17) e20 hG ok) rfl rfl ?_
 rintro _ w ⟨⟨rfl,ok⟩,r21⟩
 refine ⟨_,rfl,fun a E=>?_⟩
 refine lw E (qbo rfl rfl) fun a E=>pt E rfl rfl fun a E=>aw E rfl fun a E=>cf E rfl hF (fun hc22 hF=>?_) fun hc22 hF=>?_
 ·refine wp_seq<|qbc (by kernel_rfl) (by kernel_rfl) ok<|qv E (qad rfl) fun a E=>qv E (qad rfl) fun a E=>qv E (qaF rfl rfl) fun a E=>?_
  obtain ⟨c23,e24,hF⟩:=bnd hF
  refine qv E (qba Tryz.underlying9 rfl rfl e24) fun a E=>?_
  obtain ⟨r25,e26,hF⟩:=bnd hF
  obtain ⟨_,_,⟨_,_⟩,r27⟩:=Go.X.Calls.get (qcV N (c23.toNat:Int) (InR.byte c23) e26 hG ok)
  refine qfR E qlE rfl (fun w ok=>(qcV N (c23.toNat:Int) (InR.byte c23) e26 hG ok).mono (fun _ _ h=>h.1)) rfl rfl fun a E=>qv E (qtz rfl rfl) fun a E=>qv E (qad rfl) fun a E=>qv E (qad rfl) fun a E=>qv E (qaF rfl rfl) fun a E=>?_
  obtain ⟨c28,e29,hF⟩:=bnd hF
  refine qv E (qba Tryz.underlying9 rfl rfl e29) fun a E=>?_
  obtain ⟨r30,e31,hF⟩:=bnd hF
  obtain ⟨_,_,⟨_,_⟩,r32⟩:=Go.X.Calls.get (qcV N (c28.toNat:Int) (InR.byte c28) e31 hG ok)
  refine qfR E qlE rfl (fun w ok=>(qcV N (c28.toNat:Int) (InR.byte c28) e31 hG ok).mono (fun _ _ h=>h.1)) rfl rfl fun a E=>qv E (qaF rfl rfl) fun a E=>qv E (qkB Tryz.underlying3 Tryz.underlying5 rfl) fun a E=>qv E (qad rfl) fun a E=>qv E (qaF rfl rfl) fun a E=>qv E (qal rfl) fun a E=>qv E (qal rfl) fun a E=>wpQuiet_nil ?_
  intro w ok
  refine qaa<|wp_ret<|qan<|qag ?_
  exact fin hF ⟨ok,E.d,⟨rv_t E rfl,rv_t E rfl,trivial⟩,(InR.wrap _ _),(InR.wrap _ _)⟩
 refine sg<|mv E rfl fun a E=>lw E (qaF rfl rfl) fun a E=>mv E rfl fun a E=>lw E (qaV Tryz.underlying9 rfl) fun a E=>lw E (qaA rfl rfl) fun a E=>av E rfl fun a E=>?_
 refine wn<|cf E rfl hF (fun hc33 hF=>?_) fun hc33 hF=>?_
 rotate_left
 ·refine wp_skip<|qaq<|qaa<|sg<|av E rfl fun a E=>av E rfl fun a E=>wpList_nil ?_
  refine qaa<|wp_ret ?_
  exact fin hF ⟨ok,E.d,⟨rv_t E rfl,rv_t E rfl,trivial⟩,(show InR .u8 (0) by decide),(ir (-1))⟩
 refine sg<|mv E rfl fun a E=>mv E rfl fun a E=>lw E (qaF rfl rfl) fun a E=>?_
 obtain ⟨c34,e35,hF⟩:=bnd hF
 refine lv E ok (qba Tryz.underlying9 rfl rfl e35) fun a E=>mv E rfl fun a E=>lw E (qaF rfl rfl) fun a E=>av E rfl fun a E=>aw E rfl fun a E=>wp_ret ?_
 refine qan<|qag ?_
 exact fin hF ⟨ok,E.d,⟨rv_t E rfl,rv_t E rfl,trivial⟩,(InR.byte c34),(InR.wrap _ _)⟩
def qi1 (u:World) (m0:Mem) (S:Segs) (r:Item × Int) (a:Act) (w:World):Prop :=
 ∃ m1 v0,m0.le m1 ∧ Ok u m1 S w ∧ a.defers = [] ∧ RVs Tryz.prog a w [.c 4 138 (.agg v0.toArray),.t 5 (.int .i64 r.2)] ∧ qbO m1 v0 r.1 ∧ InR .i64 r.2
theorem qi0 (N:Nat) (s_0:List UInt8) (ls_0:s_0.length ≤ LIMS) (at_1:Int) (rat_1:InR .i64 at_1) {r:Item × Int} (hF:qfD N s_0 at_1 = some r) (hG:Glob u) (ok:Ok u m0 S w) :
  Calls Tryz.prog 88 [vs s_0,vi at_1].toArray w fun e w'=>∃ m1 v0,e = .returned (.tuple [(.agg v0.toArray),(.int .i64 r.2)].toArray) ∧ m0.le m1 ∧ Ok u m1 S w' ∧ qbO m1 v0 r.1 ∧ InR .i64 r.2:=by
 have le_m0:=Mem.le.refl m0
 unfold qfD at hF
 refine en (qi1 u m0 S) r Tryz.func88 rfl rfl rfl (by rintro a w ⟨m1,v0,hle,ok,hd,hrv,h0,h1⟩; exact qaM [.c 4 138 (.agg v0.toArray),.t 5 (.int .i64 r.2)] hd rfl hrv ⟨m1,v0,rfl,hle,ok,h0,h1⟩) fun fin a E=>sg<|qaC E ok qbE rfl rfl fun b1 a w E ok=>aw E rfl fun a E=>wp_seq ?_
 refine qab<|aw E rfl fun a E=>sg<|mv E rfl fun a E=>lw E (qaF rfl rfl) fun a E=>?_
 refine aw E rfl fun a E=>wp_seq<|wp_block ?_
 obtain ⟨M7,ok,h8⟩:=qdI (e:=5) (k:=1) (R:=(pI .u8)) ok
 obtain ⟨o9,hL,hF⟩:=bnd hF
 refine qaO _ (fun (s:Int × (List (Int))) a w=>∃ c11 M12,Ok u m0 (M12 :: [(b1,oc 138 [(vs ([])),(Value.slice none 0 0),vb false,vi 0,vi 0])] :: S) w ∧ Env 50 a [(0,vs s_0),(1,vi s.1),(4,vp b1),(6,c11)] ∧ InR .i64 s.1 ∧ ORow 5 1 (pI .u8) m0 c11 s.2 M12) (fun (b:(Int × (List (Int)))) e a w=>e = (.exit 0) ∧ ∃ c44 M45,Ok u m0 (M45 :: [(b1,oc 138 [(vs ([])),(Value.slice none 0 0),vb false,vi 0,vi 0])] :: S) w ∧ Env 50 a [(0,vs s_0),(1,vi b.1),(4,vp b1),(6,c44)] ∧ InR .i64 b.1 ∧ ORow 5 1 (pI .u8) m0 c44 b.2 M45) ?_ ?_ N _ a w hL ⟨(Value.slice none 0 0),M7,ok,E.keep [0,1,4,6],(InR.wrap _ _),h8⟩
 rotate_left
 ·intro e a w _ hO
  obtain ⟨rfl,c38,M39,ok,E,r37,h40⟩:=hO
  refine qaS<|qaa<|wp_seq<|sg<|mv E rfl fun a E=>lw E (qaA rfl rfl) fun a E=>mv E rfl fun a E=>?_
  refine qap (decide (o9.1 < 0)) (fun hc41=>?_) (fun hc41=>?_)
  ·replace hF:=qak hc41 hF
   replace E:=E.upd 38 hc41 rfl
   refine ls E fun a E=>ls E fun a E=>ls E fun a E=>ls E fun a E=>pt E rfl rfl fun a E=>wn<|c_if E rfl (fun _=>?_) (fun h=>by cases h)
   refine sg<|lw E (qaK (ps:=[]) (qs:=[]) (cs:=[(vs ([])),(Value.slice none 0 0),vb false,vi 0,vi 0]) qbE qcI rfl trivial rfl) fun a E=>qai E ok 1 rfl rfl rfl qbA rfl rfl ⟨rfl,rfl,rfl,rfl,rfl,trivial⟩ rfl rfl fun w ok=>aw E rfl fun a E=>wp_ret ?_
   refine qag ?_
   exact fin hF ⟨m0,[(vs ([])),(Value.slice none 0 0),vb false,vi 0,vi 0],le_m0,ok.drop.drop,E.d,⟨rv_c (cs:=[(vs ([])),(Value.slice none 0 0),vb false,vi 0,vi 0]) E ok rfl qbh rfl (qae.own 1 rfl rfl),rv_t E rfl,trivial⟩,⟨_,rfl,(Nat.zero_le _),qbF,(ir 0),(ir 0)⟩,(ir (-1))⟩
  replace hF:=qaj hc41 hF
  replace E:=E.upd 38 hc41 rfl
  refine mv E rfl fun a E=>mv E rfl fun a E=>lw E (qaV Tryz.underlying9 rfl) fun a E=>lw E (qbo rfl rfl) fun a E=>pf E rfl rfl fun a E=>wn<|cf E rfl hF (fun hc42 hF=>?_) fun hc42 hF=>?_
  ·refine sg<|lw E (qaK (ps:=[]) (qs:=[]) (cs:=[(vs ([])),(Value.slice none 0 0),vb false,vi 0,vi 0]) qbE qcI rfl trivial rfl) fun a E=>qai E ok 1 rfl rfl rfl qbA rfl rfl ⟨rfl,rfl,rfl,rfl,rfl,trivial⟩ rfl rfl fun w ok=>aw E rfl fun a E=>wp_ret ?_
   refine qag ?_
   exact fin hF ⟨m0,[(vs ([])),(Value.slice none 0 0),vb false,vi 0,vi 0],le_m0,ok.drop.drop,E.d,⟨rv_c (cs:=[(vs ([])),(Value.slice none 0 0),vb false,vi 0,vi 0]) E ok rfl qbh rfl (qae.own 1 rfl rfl),rv_t E rfl,trivial⟩,⟨_,rfl,(Nat.zero_le _),qbF,(ir 0),(ir 0)⟩,(ir (-1))⟩
  refine wp_skip<|qaa<|sg<|mv E rfl fun a E=>lv E ok (qiu Tryz.underlying86 Tryz.underlying5 Tryz.underlying9 rfl (BR.ofRow h40 0 rfl)) fun a E=>lw E (qaK (ps:=[(0,.tmp 46)]) (qs:=[(0,[(vs (bytesOf o9.2))])]) (cs:=[(vs (bytesOf o9.2)),(Value.slice none 0 0),vb false,vi 0,vi 0]) qbE qcI rfl ⟨rfl,rfl,rfl,trivial⟩ rfl) fun a E=>mv E rfl fun a E=>?_
  refine lw E (qaF rfl rfl) fun a E=>qai E ok 1 rfl rfl rfl qbA rfl rfl ⟨rfl,rfl,rfl,rfl,rfl,trivial⟩ rfl rfl fun w ok=>aw E rfl fun a E=>wp_ret ?_
  exact fin hF ⟨m0,[(vs (bytesOf o9.2)),(Value.slice none 0 0),vb false,vi 0,vi 0],le_m0,ok.drop.drop,E.d,⟨rv_c (cs:=[(vs (bytesOf o9.2)),(Value.slice none 0 0),vb false,vi 0,vi 0]) E ok rfl qbh rfl (qae.own 1 rfl rfl),rv_t E rfl,trivial⟩,⟨_,rfl,(Nat.le_trans (Nat.le_of_eq qfX) h40.form.2),qbF,(ir 0),(ir 0)⟩,(InR.wrap _ _)⟩
 rintro ⟨at_14,l_15⟩ a w r ⟨c17,M18,ok,E,r16,h19⟩ hF
 replace hF:qeD N s_0 at_14 l_15 = some r:=hF
 unfold qeD at hF
 refine wp_seq<|sg<|mv E rfl fun a E=>lw E (qbo rfl rfl) fun a E=>mv E rfl fun a E=>qap (decide (at_14 ≥ 0)) (fun hc20=>?_) (fun hc20=>?_)
 rotate_left
 ·replace hF:=qaj hc20 hF
  replace E:=E.upd 13 hc20 rfl
  refine ls E fun a E=>ls E fun a E=>ls E fun a E=>ls E fun a E=>pf E rfl rfl fun a E=>mv E rfl fun a E=>ls E fun a E=>ls E fun a E=>?_
  refine ls E fun a E=>ls E fun a E=>pf E rfl rfl fun a E=>wn<|c_if E rfl (fun h=>by cases h) (fun _=>?_)
  refine wp_exit<|qaB ?_
  obtain rfl:=sj hF
  exact so (⟨rfl,⟨c17,M18,ok,E.keep [0,1,4,6],r16,h19⟩⟩)
 replace hF:=qak hc20 hF
 replace E:=E.upd 13 hc20 rfl
 refine mv E rfl fun a E=>mv E rfl fun a E=>lw E (qaV Tryz.underlying9 rfl) fun a E=>lw E (qaA rfl rfl) fun a E=>pt E rfl rfl fun a E=>mv E rfl fun a E=>qap (decide (at_14 < (s_0.length:Int))) (fun hc21=>?_) (fun hc21=>?_)
 rotate_left
 ·replace hF:=qaj hc21 hF
  replace E:=E.upd 19 hc21 rfl
  refine ls E fun a E=>ls E fun a E=>ls E fun a E=>ls E fun a E=>pf E rfl rfl fun a E=>wn<|c_if E rfl (fun h=>by cases h) (fun _=>?_)
  refine wp_exit<|qaB ?_
  obtain rfl:=sj hF
  exact so (⟨rfl,⟨c17,M18,ok,E.keep [0,1,4,6],r16,h19⟩⟩)
 replace hF:=qak hc21 hF
 replace E:=E.upd 19 hc21 rfl
 refine mv E rfl fun a E=>mv E rfl fun a E=>?_
 obtain ⟨c22,e23,hF⟩:=bnd hF
 refine lv E ok (qba Tryz.underlying9 rfl rfl e23) fun a E=>lw E (qdG rfl rfl) fun a E=>pt E rfl rfl fun a E=>wn<|cf E rfl hF (fun hc24 hF=>?_) fun hc24 hF=>?_
 rotate_left
 ·refine wp_exit<|qaB ?_
  obtain rfl:=sj hF
  exact so (⟨rfl,⟨c17,M18,ok,E.keep [0,1,4,6],r16,h19⟩⟩)
 refine wp_skip<|qaa<|wp_block<|sg<|mv E rfl fun a E=>mv E rfl fun a E=>?_
 obtain ⟨r25,e26,hF⟩:=bnd hF
 refine qaz E qkH rfl (qc0 N s_0 ls_0 at_14 r16 e26 hG ok) rfl rfl ?_
 rintro _ w ⟨⟨rfl,ok⟩,r27,r28⟩
 refine ⟨_,rfl,fun a E=>?_⟩
 refine mv E rfl fun a E=>lw E (qaw rfl rfl) fun a E=>lw E (qaw rfl rfl) fun a E=>av E rfl fun a E=>aw E rfl fun a E=>qab ?_
 refine mv E rfl fun a E=>mv E rfl fun a E=>qaT (R:=(pI .u8)) (xo:=[.tmp 32]) (xs:=([r25.1]:List (Int))) E ok qhc qgh rfl ⟨⟨_,rfl,rfl,(qgA r27)⟩,trivial⟩ rfl rfl rfl rfl fun c29 M30 a w E ok h31=>?_
 obtain ⟨l32,e33,hF⟩:=bnd hF
 refine qa3 (R:=(pI .u8)) E ok 1 (mI .u8) qhc Tryz.underlying86 rfl h19 (qaJ.ofRow h31 0 rfl ok) e33 ⟨_,qgh,rfl⟩ rfl rfl rfl rfl fun c34 M35 a w E ok h36=>mv E rfl fun a E=>av E rfl fun a E=>av E rfl fun a E=>wpList_nil<|qaq ?_
 obtain rfl:=sj hF
 exact qay ⟨c34,M35,(ok.pk 3 [1,2] rfl (by decide)),E.keep [0,1,4,6],r28,h36⟩
def qiF (u:World) (m0:Mem) (S:Segs) (r:Item × Int) (a:Act) (w:World):Prop :=
 ∃ m1 v0,m0.le m1 ∧ Ok u m1 S w ∧ a.defers = [] ∧ RVs Tryz.prog a w [.c 4 138 (.agg v0.toArray),.t 5 (.int .i64 r.2)] ∧ qbO m1 v0 r.1 ∧ InR .i64 r.2
theorem qgG (N:Nat) (s_0:List UInt8) (ls_0:s_0.length ≤ LIMS) (at_1:Int) (rat_1:InR .i64 at_1) {r:Item × Int} (hF:qdY N s_0 at_1 = some r) (hG:Glob u) (ok:Ok u m0 S w) :
  Calls Tryz.prog 89 [vs s_0,vi at_1].toArray w fun e w'=>∃ m1 v0,e = .returned (.tuple [(.agg v0.toArray),(.int .i64 r.2)].toArray) ∧ m0.le m1 ∧ Ok u m1 S w' ∧ qbO m1 v0 r.1 ∧ InR .i64 r.2:=by
 have le_m0:=Mem.le.refl m0
 unfold qdY at hF
 refine en (qiF u m0 S) r Tryz.func89 rfl rfl rfl (by rintro a w ⟨m1,v0,hle,ok,hd,hrv,h0,h1⟩; exact qaM [.c 4 138 (.agg v0.toArray),.t 5 (.int .i64 r.2)] hd rfl hrv ⟨m1,v0,rfl,hle,ok,h0,h1⟩) fun fin a E=>sg<|qaC E ok qbE rfl rfl fun b1 a w E ok=>aw E rfl fun a E=>wp_seq ?_
 refine qab<|lw E (qaK (ps:=[]) (qs:=[]) (cs:=[(vs ([])),(Value.slice none 0 0),vb false,vi 0,vi 0]) qbE qcI rfl trivial rfl) fun a E=>qaC E ok qbE rfl rfl fun b2 a w E ok=>qai E ok 0 rfl rfl rfl qbA rfl rfl ⟨rfl,rfl,rfl,rfl,rfl,trivial⟩ rfl rfl fun w ok=>wn<|sg ?_
 refine mv E rfl fun a E=>lw E (qaF rfl rfl) fun a E=>aw E rfl fun a E=>wp_seq<|sg ?_
 refine mv E rfl fun a E=>mv E rfl fun a E=>lw E (qaV Tryz.underlying9 rfl) fun a E=>lw E (qaA rfl rfl) fun a E=>mv E rfl fun a E=>qap (decide ((IntKind.wrap .i64 (at_1 + 1)) < (s_0.length:Int))) (fun hc3=>?_) (fun hc3=>?_)
 rotate_left
 ·as_aux_lemma =>
   replace hF:=qaj hc3 hF
   replace E:=E.upd 17 hc3 rfl
   refine ls E fun a E=>ls E fun a E=>ls E fun a E=>ls E fun a E=>pf E rfl rfl fun a E=>wn<|c_if E rfl (fun h=>by cases h) (fun _=>?_)
   refine wp_skip<|qaa<|wp_seq<|wp_block ?_
   obtain ⟨M116,ok,h117⟩:=qdI (e:=157) (k:=2) (R:=qbK) ok
   obtain ⟨o118,hL,hF⟩:=bnd hF
   refine qaO _ (fun (s:Int × Item) a w=>∃ c121 M122,Ok u m0 (M122 :: [(b2,oc 138 [vs s.2.Text,c121,vb s.2.Not,vi s.2.Least,vi s.2.Most])] :: [(b1,oc 138 [(vs ([])),(Value.slice none 0 0),vb false,vi 0,vi 0])] :: S) w ∧ Env 89 a [(0,vs s_0),(1,vi s.1),(4,vp b1),(6,vp b2)] ∧ InR .i64 s.1 ∧ s.2.Text.length ≤ LIMS ∧ ORow 157 2 qbK m0 c121 s.2.Ranges M122 ∧ InR .i64 s.2.Least ∧ InR .i64 s.2.Most) (fun (b:(Item × Int)) e a w=>e = (.exit 0) ∧ ∃ c194 M195,Ok u m0 (M195 :: [(b2,oc 138 [vs b.1.Text,c194,vb b.1.Not,vi b.1.Least,vi b.1.Most])] :: [(b1,oc 138 [(vs ([])),(Value.slice none 0 0),vb false,vi 0,vi 0])] :: S) w ∧ Env 89 a [(0,vs s_0),(1,vi b.2),(4,vp b1),(6,vp b2)] ∧ b.1.Text.length ≤ LIMS ∧ ORow 157 2 qbK m0 c194 b.1.Ranges M195 ∧ InR .i64 b.1.Least ∧ InR .i64 b.1.Most ∧ InR .i64 b.2) ?_ ?_ N _ a w hL ⟨(Value.slice none 0 0),M116,ok,E.keep [0,1,4,6],(InR.wrap _ _),(Nat.zero_le _),h117,(ir 0),(ir 0)⟩
   rotate_left
   ·intro e a w _ hO
    obtain ⟨rfl,c183,M184,ok,E,l182,h185,r186,r187,r188⟩:=hO
    refine qaS<|qaa<|wp_seq<|sg<|mv E rfl fun a E=>lw E (qaA rfl rfl) fun a E=>mv E rfl fun a E=>?_
    refine qap (decide (o118.2 < 0)) (fun hc189=>?_) (fun hc189=>?_)
    ·replace hF:=qak hc189 hF
     replace E:=E.upd 79 hc189 rfl
     refine ls E fun a E=>ls E fun a E=>ls E fun a E=>ls E fun a E=>pt E rfl rfl fun a E=>wn<|c_if E rfl (fun _=>?_) (fun h=>by cases h)
     refine sg<|lw E (qaK (ps:=[]) (qs:=[]) (cs:=[(vs ([])),(Value.slice none 0 0),vb false,vi 0,vi 0]) qbE qcI rfl trivial rfl) fun a E=>qai E ok 2 rfl rfl rfl qbA rfl rfl ⟨rfl,rfl,rfl,rfl,rfl,trivial⟩ rfl rfl fun w ok=>aw E rfl fun a E=>wp_ret ?_
     refine qag ?_
     exact fin hF ⟨m0,[(vs ([])),(Value.slice none 0 0),vb false,vi 0,vi 0],le_m0,ok.drop.drop.drop,E.d,⟨rv_c (cs:=[(vs ([])),(Value.slice none 0 0),vb false,vi 0,vi 0]) E ok rfl qbh rfl (qae.own 2 rfl rfl),rv_t E rfl,trivial⟩,⟨_,rfl,(Nat.zero_le _),qbF,(ir 0),(ir 0)⟩,(ir (-1))⟩
    replace hF:=qaj hc189 hF
    replace E:=E.upd 79 hc189 rfl
    refine mv E rfl fun a E=>mv E rfl fun a E=>lw E (qaV Tryz.underlying9 rfl) fun a E=>lw E (qbo rfl rfl) fun a E=>pf E rfl rfl fun a E=>wn<|cf E rfl hF (fun hc190 hF=>?_) fun hc190 hF=>?_
    ·refine sg<|lw E (qaK (ps:=[]) (qs:=[]) (cs:=[(vs ([])),(Value.slice none 0 0),vb false,vi 0,vi 0]) qbE qcI rfl trivial rfl) fun a E=>qai E ok 2 rfl rfl rfl qbA rfl rfl ⟨rfl,rfl,rfl,rfl,rfl,trivial⟩ rfl rfl fun w ok=>aw E rfl fun a E=>wp_ret ?_
     refine qag ?_
     exact fin hF ⟨m0,[(vs ([])),(Value.slice none 0 0),vb false,vi 0,vi 0],le_m0,ok.drop.drop.drop,E.d,⟨rv_c (cs:=[(vs ([])),(Value.slice none 0 0),vb false,vi 0,vi 0]) E ok rfl qbh rfl (qae.own 2 rfl rfl),rv_t E rfl,trivial⟩,⟨_,rfl,(Nat.zero_le _),qbF,(ir 0),(ir 0)⟩,(ir (-1))⟩
    refine wp_skip<|qaa<|sg<|lv E ok (qat (cs:=[vs o118.1.Text,c183,vb o118.1.Not,vi o118.1.Least,vi o118.1.Most]) qbh rfl rfl (qae.own 1 rfl rfl)) fun a E=>mv E rfl fun a E=>lw E (qaF rfl rfl) fun a E=>qai E ok 2 rfl rfl rfl qbA rfl rfl ⟨rfl,(ORow.one h185),rfl,rfl,rfl,trivial⟩ rfl rfl fun w ok=>?_
    refine aw E rfl fun a E=>wp_ret ?_
    obtain ⟨m191,hle,ok,hfz⟩:=(ok.frs 0 rfl).freeze
    have h192:=ORow.froz qe0 h185 hle hfz (by decide)
    have le_m0:=le_m0.trans hle
    exact fin hF ⟨m191,[vs o118.1.Text,c183,vb o118.1.Not,vi o118.1.Least,vi o118.1.Most],le_m0,ok.drop.drop,E.d,⟨rv_c (cs:=[vs o118.1.Text,c183,vb o118.1.Not,vi o118.1.Least,vi o118.1.Most]) E ok rfl qbh rfl (qae.own 1 rfl rfl),rv_t E rfl,trivial⟩,⟨_,rfl,l182,h192,r186,r187⟩,(InR.wrap _ _)⟩
   rintro ⟨at_126,x_127⟩ a w r ⟨c130,M131,ok,E,r128,l129,h132,r133,r134⟩ hF
   replace hF:qet N s_0 at_126 x_127 = some r:=hF
   unfold qet at hF
   refine wp_seq<|sg<|mv E rfl fun a E=>lw E (qbo rfl rfl) fun a E=>mv E rfl fun a E=>qap (decide (at_126 ≥ 0)) (fun hc135=>?_) (fun hc135=>?_)
   rotate_left
   ·replace hF:=qaj hc135 hF
    replace E:=E.upd 28 hc135 rfl
    refine ls E fun a E=>ls E fun a E=>ls E fun a E=>ls E fun a E=>pf E rfl rfl fun a E=>mv E rfl fun a E=>ls E fun a E=>ls E fun a E=>?_
    refine ls E fun a E=>ls E fun a E=>pf E rfl rfl fun a E=>wn<|c_if E rfl (fun h=>by cases h) (fun _=>?_)
    refine wp_exit<|qaB ?_
    obtain rfl:=sj hF
    exact so (⟨rfl,⟨c130,M131,ok,E.keep [0,1,4,6],l129,h132,r133,r134,r128⟩⟩)
   replace hF:=qak hc135 hF
   replace E:=E.upd 28 hc135 rfl
   refine mv E rfl fun a E=>mv E rfl fun a E=>lw E (qaV Tryz.underlying9 rfl) fun a E=>lw E (qaA rfl rfl) fun a E=>pt E rfl rfl fun a E=>mv E rfl fun a E=>qap (decide (at_126 < (s_0.length:Int))) (fun hc136=>?_) (fun hc136=>?_)
   rotate_left
   ·replace hF:=qaj hc136 hF
    replace E:=E.upd 34 hc136 rfl
    refine ls E fun a E=>ls E fun a E=>ls E fun a E=>ls E fun a E=>pf E rfl rfl fun a E=>wn<|c_if E rfl (fun h=>by cases h) (fun _=>?_)
    refine wp_exit<|qaB ?_
    obtain rfl:=sj hF
    exact so (⟨rfl,⟨c130,M131,ok,E.keep [0,1,4,6],l129,h132,r133,r134,r128⟩⟩)
   replace hF:=qak hc136 hF
   replace E:=E.upd 34 hc136 rfl
   refine mv E rfl fun a E=>mv E rfl fun a E=>?_
   obtain ⟨c137,e138,hF⟩:=bnd hF
   refine lv E ok (qba Tryz.underlying9 rfl rfl e138) fun a E=>lw E (qdG rfl rfl) fun a E=>pt E rfl rfl fun a E=>wn<|cf E rfl hF (fun hc139 hF=>?_) fun hc139 hF=>?_
   rotate_left
   ·refine wp_exit<|qaB ?_
    obtain rfl:=sj hF
    exact so (⟨rfl,⟨c130,M131,ok,E.keep [0,1,4,6],l129,h132,r133,r134,r128⟩⟩)
   refine wp_skip<|qaa<|wp_block<|sg<|mv E rfl fun a E=>mv E rfl fun a E=>?_
   obtain ⟨r140,e141,hF⟩:=bnd hF
   refine qaz E qkH rfl (qc0 N s_0 ls_0 at_126 r128 e141 hG ok) rfl rfl ?_
   rintro _ w ⟨⟨rfl,ok⟩,r142,r143⟩
   refine ⟨_,rfl,fun a E=>?_⟩
   refine mv E rfl fun a E=>lw E (qaw rfl rfl) fun a E=>lw E (qaw rfl rfl) fun a E=>av E rfl fun a E=>aw E rfl fun a E=>wp_seq ?_
   refine qab<|mv E rfl fun a E=>aw E rfl fun a E=>wp_seq<|sg ?_
   refine mv E rfl fun a E=>lw E (qbo rfl rfl) fun a E=>mv E rfl fun a E=>qap (decide (r140.2 ≥ 0)) (fun hc144=>?_) (fun hc144=>?_)
   rotate_left
   ·replace hF:=qaj hc144 hF
    replace E:=E.upd 49 hc144 rfl
    refine ls E fun a E=>ls E fun a E=>ls E fun a E=>ls E fun a E=>pf E rfl rfl fun a E=>mv E rfl fun a E=>ls E fun a E=>ls E fun a E=>?_
    refine ls E fun a E=>ls E fun a E=>pf E rfl rfl fun a E=>wn<|c_if E rfl (fun h=>by cases h) (fun _=>?_)
    refine wp_skip<|qaa<|qab<|fv E qbv rfl fun a E=>ld E ok qbZ 1 rfl rfl rfl fun a E=>mv E rfl fun a E=>mv E rfl fun a E=>lw E (qaK (ps:=[(0,.tmp 70),(1,.tmp 71)]) (qs:=[(0,[(Value.int .u8 r140.1)]),(1,[(Value.int .u8 r140.1)])]) (cs:=[(Value.int .u8 r140.1),(Value.int .u8 r140.1)]) qcs qgC rfl ⟨rfl,rfl,rfl,⟨rfl,rfl,rfl,trivial⟩⟩ rfl) fun a E=>?_
    refine qaT (R:=qbK) (xo:=[.tmp 72]) (xs:=([(Range.mk r140.1 r140.1)]:List (Range))) E ok qbV qcs rfl ⟨⟨_,rfl,rfl,⟨rfl,r142,r142⟩⟩,trivial⟩ rfl rfl rfl rfl fun c174 M175 a w E ok h176=>?_
    obtain ⟨l177,e178,hF⟩:=bnd hF
    refine qa3 (R:=qbK) E ok 1 qe0 qbV Tryz.underlying136 rfl h132 (qaJ.ofRow h176 0 rfl ok) e178 ⟨_,qcs,rfl⟩ rfl rfl rfl rfl fun c179 M180 a w E ok h181=>mv E rfl fun a E=>fv E qbv rfl fun a E=>qai E ok 2 rfl rfl rfl qin (ORow.cells h181) rfl ⟨(ORow.one h181),trivial⟩ rfl rfl fun w ok=>av E rfl fun a E=>wpList_nil<|qaq ?_
    obtain rfl:=sj hF
    exact qay ⟨c179,M180,(ok.pk 4 [1,2,3] rfl (by decide)),E.keep [0,1,4,6],r143,l129,h181,r133,r134⟩
   replace hF:=qak hc144 hF
   replace E:=E.upd 49 hc144 rfl
   refine mv E rfl fun a E=>mv E rfl fun a E=>lw E (qaV Tryz.underlying9 rfl) fun a E=>lw E (qaA rfl rfl) fun a E=>pt E rfl rfl fun a E=>mv E rfl fun a E=>qap (decide (r140.2 < (s_0.length:Int))) (fun hc145=>?_) (fun hc145=>?_)
   rotate_left
   ·replace hF:=qaj hc145 hF
    replace E:=E.upd 55 hc145 rfl
    refine ls E fun a E=>ls E fun a E=>ls E fun a E=>ls E fun a E=>pf E rfl rfl fun a E=>wn<|c_if E rfl (fun h=>by cases h) (fun _=>?_)
    refine wp_skip<|qaa<|qab<|fv E qbv rfl fun a E=>ld E ok qbZ 1 rfl rfl rfl fun a E=>mv E rfl fun a E=>mv E rfl fun a E=>lw E (qaK (ps:=[(0,.tmp 70),(1,.tmp 71)]) (qs:=[(0,[(Value.int .u8 r140.1)]),(1,[(Value.int .u8 r140.1)])]) (cs:=[(Value.int .u8 r140.1),(Value.int .u8 r140.1)]) qcs qgC rfl ⟨rfl,rfl,rfl,⟨rfl,rfl,rfl,trivial⟩⟩ rfl) fun a E=>?_
    refine qaT (R:=qbK) (xo:=[.tmp 72]) (xs:=([(Range.mk r140.1 r140.1)]:List (Range))) E ok qbV qcs rfl ⟨⟨_,rfl,rfl,⟨rfl,r142,r142⟩⟩,trivial⟩ rfl rfl rfl rfl fun c166 M167 a w E ok h168=>?_
    obtain ⟨l169,e170,hF⟩:=bnd hF
    refine qa3 (R:=qbK) E ok 1 qe0 qbV Tryz.underlying136 rfl h132 (qaJ.ofRow h168 0 rfl ok) e170 ⟨_,qcs,rfl⟩ rfl rfl rfl rfl fun c171 M172 a w E ok h173=>mv E rfl fun a E=>fv E qbv rfl fun a E=>qai E ok 2 rfl rfl rfl qin (ORow.cells h173) rfl ⟨(ORow.one h173),trivial⟩ rfl rfl fun w ok=>av E rfl fun a E=>wpList_nil<|qaq ?_
    obtain rfl:=sj hF
    exact qay ⟨c171,M172,(ok.pk 4 [1,2,3] rfl (by decide)),E.keep [0,1,4,6],r143,l129,h173,r133,r134⟩
   replace hF:=qak hc145 hF
   replace E:=E.upd 55 hc145 rfl
   refine mv E rfl fun a E=>mv E rfl fun a E=>?_
   obtain ⟨c146,e147,hF⟩:=bnd hF
   refine lv E ok (qba Tryz.underlying9 rfl rfl e147) fun a E=>lw E (qbt rfl rfl) fun a E=>pt E rfl rfl fun a E=>wn ?_
   obtain ⟨o148,hJ,hF⟩:=bnd hF
   refine qbx (Q':=fun e a w=>e = .normal ∧ Ok u m0 (M131 :: [(b2,oc 138 [vs x_127.Text,c130,vb x_127.Not,vi x_127.Least,vi x_127.Most])] :: [(b1,oc 138 [(vs ([])),(Value.slice none 0 0),vb false,vi 0,vi 0])] :: S) w ∧ Env 89 a [(0,vs s_0),(4,vp b1),(6,vp b2),(7,(Value.int .u8 r140.1)),(8,vi o148.1),(9,(Value.int .u8 o148.2))] ∧ InR .i64 o148.1 ∧ InR .u8 o148.2) ?_ ?_
   rotate_left
   ·clear hJ
    intro e a w hO
    obtain ⟨rfl,ok,E,r156,r157⟩:=hO
    refine qaa<|qab<|fv E qbv rfl fun a E=>ld E ok qbZ 1 rfl rfl rfl fun a E=>mv E rfl fun a E=>mv E rfl fun a E=>lw E (qaK (ps:=[(0,.tmp 70),(1,.tmp 71)]) (qs:=[(0,[(Value.int .u8 r140.1)]),(1,[(Value.int .u8 o148.2)])]) (cs:=[(Value.int .u8 r140.1),(Value.int .u8 o148.2)]) qcs qgC rfl ⟨rfl,rfl,rfl,⟨rfl,rfl,rfl,trivial⟩⟩ rfl) fun a E=>qaT (R:=qbK) (xo:=[.tmp 72]) (xs:=([(Range.mk r140.1 o148.2)]:List (Range))) E ok qbV qcs rfl ⟨⟨_,rfl,rfl,⟨rfl,r142,r157⟩⟩,trivial⟩ rfl rfl rfl rfl fun c158 M159 a w E ok h160=>?_
    obtain ⟨l161,e162,hF⟩:=bnd hF
    refine qa3 (R:=qbK) E ok 1 qe0 qbV Tryz.underlying136 rfl h132 (qaJ.ofRow h160 0 rfl ok) e162 ⟨_,qcs,rfl⟩ rfl rfl rfl rfl fun c163 M164 a w E ok h165=>mv E rfl fun a E=>fv E qbv rfl fun a E=>qai E ok 2 rfl rfl rfl qin (ORow.cells h165) rfl ⟨(ORow.one h165),trivial⟩ rfl rfl fun w ok=>av E rfl fun a E=>wpList_nil<|qaq ?_
    obtain rfl:=sj hF
    exact qay ⟨c163,M164,(ok.pk 4 [1,2,3] rfl (by decide)),E.keep [0,1,4,6],r156,l129,h165,r133,r134⟩
   replace hF:=hJ
   clear hJ
   refine cf E rfl hF (fun hc151 hF=>?_) fun hc151 hF=>?_
   rotate_left
   ·refine wp_skip ?_
    obtain rfl:=sj hF
    exact ⟨rfl,⟨ok,E.keep [0,4,6,7,8,9],r143,r142⟩⟩
   refine qab<|mv E rfl fun a E=>mv E rfl fun a E=>lw E (qaG rfl rfl (InR.inc r143 (InR.len ls_0) hc145)) fun a E=>?_
   obtain ⟨r152,e153,hF⟩:=bnd hF
   refine qaz E qkH rfl (qc0 N s_0 ls_0 (r140.2 + 1) (InR.inc r143 (InR.len ls_0) hc145) e153 hG ok) rfl rfl ?_
   rintro _ w ⟨⟨rfl,ok⟩,r154,r155⟩
   refine ⟨_,rfl,fun a E=>?_⟩
   refine mv E rfl fun a E=>lw E (qaw rfl rfl) fun a E=>lw E (qaw rfl rfl) fun a E=>av E rfl fun a E=>av E rfl fun a E=>wpList_nil ?_
   obtain rfl:=sj hF
   exact ⟨rfl,⟨ok,E.keep [0,4,6,7,8,9],r155,r154⟩⟩
 replace hF:=qak hc3 hF
 replace E:=E.upd 17 hc3 rfl
 refine mv E rfl fun a E=>mv E rfl fun a E=>?_
 obtain ⟨c4,e5,hF⟩:=bnd hF
 refine lv E ok (qba Tryz.underlying9 rfl rfl e5) fun a E=>lw E (qbt rfl rfl) fun a E=>pt E rfl rfl fun a E=>wn ?_
 obtain ⟨o6,hJ,hF⟩:=bnd hF
 refine qbx (Q':=fun e a w=>e = .normal ∧ Ok u m0 ([(b2,oc 138 [vs o6.2.Text,(Value.slice none 0 0),vb o6.2.Not,vi o6.2.Least,vi o6.2.Most])] :: [(b1,oc 138 [(vs ([])),(Value.slice none 0 0),vb false,vi 0,vi 0])] :: S) w ∧ Env 89 a [(0,vs s_0),(1,vi o6.1),(4,vp b1),(6,vp b2)] ∧ InR .i64 o6.1 ∧ o6.2.Text.length ≤ LIMS ∧ InR .i64 o6.2.Least ∧ InR .i64 o6.2.Most) ?_ ?_
 ·replace hF:=hJ
  clear hJ
  refine cf E rfl hF (fun hc11 hF=>?_) fun hc11 hF=>?_
  rotate_left
  ·refine wp_skip ?_
   obtain rfl:=sj hF
   exact ⟨rfl,⟨ok,E.keep [0,1,4,6],(InR.wrap _ _),(Nat.zero_le _),(ir 0),(ir 0)⟩⟩
  refine sg<|fv E qiy rfl fun a E=>qai E ok 0 rfl rfl rfl qrG rfl rfl ⟨rfl,trivial⟩ rfl rfl fun w ok=>wn<|qab<|mv E rfl fun a E=>?_
  refine lw E (qaG rfl rfl (InR.inc (InR.wrap _ _) (InR.len ls_0) hc3)) fun a E=>av E rfl fun a E=>wpList_nil ?_
  obtain rfl:=sj hF
  exact ⟨rfl,⟨ok,E.keep [0,1,4,6],(InR.inc (InR.wrap _ _) (InR.len ls_0) hc3),(Nat.zero_le _),(ir 0),(ir 0)⟩⟩
 clear hJ
 intro e a w hO
 obtain ⟨rfl,ok,E,r12,l13,r14,r15⟩:=hO
 refine qaa<|wp_seq<|wp_block ?_
 obtain ⟨M24,ok,h25⟩:=qdI (e:=157) (k:=2) (R:=qbK) ok
 obtain ⟨o26,hL,hF⟩:=bnd hF
 refine qaO _ (fun (s:Int × Item) a w=>∃ c29 M30,Ok u m0 (M30 :: [(b2,oc 138 [vs s.2.Text,c29,vb s.2.Not,vi s.2.Least,vi s.2.Most])] :: [(b1,oc 138 [(vs ([])),(Value.slice none 0 0),vb false,vi 0,vi 0])] :: S) w ∧ Env 89 a [(0,vs s_0),(1,vi s.1),(4,vp b1),(6,vp b2)] ∧ InR .i64 s.1 ∧ s.2.Text.length ≤ LIMS ∧ ORow 157 2 qbK m0 c29 s.2.Ranges M30 ∧ InR .i64 s.2.Least ∧ InR .i64 s.2.Most) (fun (b:(Item × Int)) e a w=>e = (.exit 0) ∧ ∃ c102 M103,Ok u m0 (M103 :: [(b2,oc 138 [vs b.1.Text,c102,vb b.1.Not,vi b.1.Least,vi b.1.Most])] :: [(b1,oc 138 [(vs ([])),(Value.slice none 0 0),vb false,vi 0,vi 0])] :: S) w ∧ Env 89 a [(0,vs s_0),(1,vi b.2),(4,vp b1),(6,vp b2)] ∧ b.1.Text.length ≤ LIMS ∧ ORow 157 2 qbK m0 c102 b.1.Ranges M103 ∧ InR .i64 b.1.Least ∧ InR .i64 b.1.Most ∧ InR .i64 b.2) ?_ ?_ N _ a w hL ⟨(Value.slice none 0 0),M24,ok,E.keep [0,1,4,6],r12,l13,h25,r14,r15⟩
 rotate_left
 ·intro e a w _ hO
  obtain ⟨rfl,c91,M92,ok,E,l90,h93,r94,r95,r96⟩:=hO
  refine qaS<|qaa<|wp_seq<|sg<|mv E rfl fun a E=>lw E (qaA rfl rfl) fun a E=>mv E rfl fun a E=>?_
  refine qap (decide (o26.2 < 0)) (fun hc97=>?_) (fun hc97=>?_)
  ·replace hF:=qak hc97 hF
   replace E:=E.upd 79 hc97 rfl
   refine ls E fun a E=>ls E fun a E=>ls E fun a E=>ls E fun a E=>pt E rfl rfl fun a E=>wn<|c_if E rfl (fun _=>?_) (fun h=>by cases h)
   refine sg<|lw E (qaK (ps:=[]) (qs:=[]) (cs:=[(vs ([])),(Value.slice none 0 0),vb false,vi 0,vi 0]) qbE qcI rfl trivial rfl) fun a E=>qai E ok 2 rfl rfl rfl qbA rfl rfl ⟨rfl,rfl,rfl,rfl,rfl,trivial⟩ rfl rfl fun w ok=>aw E rfl fun a E=>wp_ret ?_
   refine qag ?_
   exact fin hF ⟨m0,[(vs ([])),(Value.slice none 0 0),vb false,vi 0,vi 0],le_m0,ok.drop.drop.drop,E.d,⟨rv_c (cs:=[(vs ([])),(Value.slice none 0 0),vb false,vi 0,vi 0]) E ok rfl qbh rfl (qae.own 2 rfl rfl),rv_t E rfl,trivial⟩,⟨_,rfl,(Nat.zero_le _),qbF,(ir 0),(ir 0)⟩,(ir (-1))⟩
  replace hF:=qaj hc97 hF
  replace E:=E.upd 79 hc97 rfl
  refine mv E rfl fun a E=>mv E rfl fun a E=>lw E (qaV Tryz.underlying9 rfl) fun a E=>lw E (qbo rfl rfl) fun a E=>pf E rfl rfl fun a E=>wn<|cf E rfl hF (fun hc98 hF=>?_) fun hc98 hF=>?_
  ·refine sg<|lw E (qaK (ps:=[]) (qs:=[]) (cs:=[(vs ([])),(Value.slice none 0 0),vb false,vi 0,vi 0]) qbE qcI rfl trivial rfl) fun a E=>qai E ok 2 rfl rfl rfl qbA rfl rfl ⟨rfl,rfl,rfl,rfl,rfl,trivial⟩ rfl rfl fun w ok=>aw E rfl fun a E=>wp_ret ?_
   refine qag ?_
   exact fin hF ⟨m0,[(vs ([])),(Value.slice none 0 0),vb false,vi 0,vi 0],le_m0,ok.drop.drop.drop,E.d,⟨rv_c (cs:=[(vs ([])),(Value.slice none 0 0),vb false,vi 0,vi 0]) E ok rfl qbh rfl (qae.own 2 rfl rfl),rv_t E rfl,trivial⟩,⟨_,rfl,(Nat.zero_le _),qbF,(ir 0),(ir 0)⟩,(ir (-1))⟩
  refine wp_skip<|qaa<|sg<|lv E ok (qat (cs:=[vs o26.1.Text,c91,vb o26.1.Not,vi o26.1.Least,vi o26.1.Most]) qbh rfl rfl (qae.own 1 rfl rfl)) fun a E=>mv E rfl fun a E=>lw E (qaF rfl rfl) fun a E=>qai E ok 2 rfl rfl rfl qbA rfl rfl ⟨rfl,(ORow.one h93),rfl,rfl,rfl,trivial⟩ rfl rfl fun w ok=>?_
  refine aw E rfl fun a E=>wp_ret ?_
  obtain ⟨m99,hle,ok,hfz⟩:=(ok.frs 0 rfl).freeze
  have h100:=ORow.froz qe0 h93 hle hfz (by decide)
  have le_m0:=le_m0.trans hle
  exact fin hF ⟨m99,[vs o26.1.Text,c91,vb o26.1.Not,vi o26.1.Least,vi o26.1.Most],le_m0,ok.drop.drop,E.d,⟨rv_c (cs:=[vs o26.1.Text,c91,vb o26.1.Not,vi o26.1.Least,vi o26.1.Most]) E ok rfl qbh rfl (qae.own 1 rfl rfl),rv_t E rfl,trivial⟩,⟨_,rfl,l90,h100,r94,r95⟩,(InR.wrap _ _)⟩
 rintro ⟨at_34,x_35⟩ a w r ⟨c38,M39,ok,E,r36,l37,h40,r41,r42⟩ hF
 replace hF:qew N s_0 at_34 x_35 = some r:=hF
 unfold qew at hF
 refine wp_seq<|sg<|mv E rfl fun a E=>lw E (qbo rfl rfl) fun a E=>mv E rfl fun a E=>qap (decide (at_34 ≥ 0)) (fun hc43=>?_) (fun hc43=>?_)
 rotate_left
 ·replace hF:=qaj hc43 hF
  replace E:=E.upd 28 hc43 rfl
  refine ls E fun a E=>ls E fun a E=>ls E fun a E=>ls E fun a E=>pf E rfl rfl fun a E=>mv E rfl fun a E=>ls E fun a E=>ls E fun a E=>?_
  refine ls E fun a E=>ls E fun a E=>pf E rfl rfl fun a E=>wn<|c_if E rfl (fun h=>by cases h) (fun _=>?_)
  refine wp_exit<|qaB ?_
  obtain rfl:=sj hF
  exact so (⟨rfl,⟨c38,M39,ok,E.keep [0,1,4,6],l37,h40,r41,r42,r36⟩⟩)
 replace hF:=qak hc43 hF
 replace E:=E.upd 28 hc43 rfl
 refine mv E rfl fun a E=>mv E rfl fun a E=>lw E (qaV Tryz.underlying9 rfl) fun a E=>lw E (qaA rfl rfl) fun a E=>pt E rfl rfl fun a E=>mv E rfl fun a E=>qap (decide (at_34 < (s_0.length:Int))) (fun hc44=>?_) (fun hc44=>?_)
 rotate_left
 ·replace hF:=qaj hc44 hF
  replace E:=E.upd 34 hc44 rfl
  refine ls E fun a E=>ls E fun a E=>ls E fun a E=>ls E fun a E=>pf E rfl rfl fun a E=>wn<|c_if E rfl (fun h=>by cases h) (fun _=>?_)
  refine wp_exit<|qaB ?_
  obtain rfl:=sj hF
  exact so (⟨rfl,⟨c38,M39,ok,E.keep [0,1,4,6],l37,h40,r41,r42,r36⟩⟩)
 replace hF:=qak hc44 hF
 replace E:=E.upd 34 hc44 rfl
 refine mv E rfl fun a E=>mv E rfl fun a E=>?_
 obtain ⟨c45,e46,hF⟩:=bnd hF
 refine lv E ok (qba Tryz.underlying9 rfl rfl e46) fun a E=>lw E (qdG rfl rfl) fun a E=>pt E rfl rfl fun a E=>wn<|cf E rfl hF (fun hc47 hF=>?_) fun hc47 hF=>?_
 rotate_left
 ·refine wp_exit<|qaB ?_
  obtain rfl:=sj hF
  exact so (⟨rfl,⟨c38,M39,ok,E.keep [0,1,4,6],l37,h40,r41,r42,r36⟩⟩)
 refine wp_skip<|qaa<|wp_block<|sg<|mv E rfl fun a E=>mv E rfl fun a E=>?_
 obtain ⟨r48,e49,hF⟩:=bnd hF
 refine qaz E qkH rfl (qc0 N s_0 ls_0 at_34 r36 e49 hG ok) rfl rfl ?_
 rintro _ w ⟨⟨rfl,ok⟩,r50,r51⟩
 refine ⟨_,rfl,fun a E=>?_⟩
 refine mv E rfl fun a E=>lw E (qaw rfl rfl) fun a E=>lw E (qaw rfl rfl) fun a E=>av E rfl fun a E=>aw E rfl fun a E=>wp_seq ?_
 refine qab<|mv E rfl fun a E=>aw E rfl fun a E=>wp_seq<|sg ?_
 refine mv E rfl fun a E=>lw E (qbo rfl rfl) fun a E=>mv E rfl fun a E=>qap (decide (r48.2 ≥ 0)) (fun hc52=>?_) (fun hc52=>?_)
 rotate_left
 ·replace hF:=qaj hc52 hF
  replace E:=E.upd 49 hc52 rfl
  refine ls E fun a E=>ls E fun a E=>ls E fun a E=>ls E fun a E=>pf E rfl rfl fun a E=>mv E rfl fun a E=>ls E fun a E=>ls E fun a E=>?_
  refine ls E fun a E=>ls E fun a E=>pf E rfl rfl fun a E=>wn<|c_if E rfl (fun h=>by cases h) (fun _=>?_)
  refine wp_skip<|qaa<|qab<|fv E qbv rfl fun a E=>ld E ok qbZ 1 rfl rfl rfl fun a E=>mv E rfl fun a E=>mv E rfl fun a E=>lw E (qaK (ps:=[(0,.tmp 70),(1,.tmp 71)]) (qs:=[(0,[(Value.int .u8 r48.1)]),(1,[(Value.int .u8 r48.1)])]) (cs:=[(Value.int .u8 r48.1),(Value.int .u8 r48.1)]) qcs qgC rfl ⟨rfl,rfl,rfl,⟨rfl,rfl,rfl,trivial⟩⟩ rfl) fun a E=>?_
  refine qaT (R:=qbK) (xo:=[.tmp 72]) (xs:=([(Range.mk r48.1 r48.1)]:List (Range))) E ok qbV qcs rfl ⟨⟨_,rfl,rfl,⟨rfl,r50,r50⟩⟩,trivial⟩ rfl rfl rfl rfl fun c82 M83 a w E ok h84=>?_
  obtain ⟨l85,e86,hF⟩:=bnd hF
  refine qa3 (R:=qbK) E ok 1 qe0 qbV Tryz.underlying136 rfl h40 (qaJ.ofRow h84 0 rfl ok) e86 ⟨_,qcs,rfl⟩ rfl rfl rfl rfl fun c87 M88 a w E ok h89=>mv E rfl fun a E=>fv E qbv rfl fun a E=>qai E ok 2 rfl rfl rfl qin (ORow.cells h89) rfl ⟨(ORow.one h89),trivial⟩ rfl rfl fun w ok=>av E rfl fun a E=>wpList_nil<|qaq ?_
  obtain rfl:=sj hF
  exact qay ⟨c87,M88,(ok.pk 4 [1,2,3] rfl (by decide)),E.keep [0,1,4,6],r51,l37,h89,r41,r42⟩
 replace hF:=qak hc52 hF
 replace E:=E.upd 49 hc52 rfl
 refine mv E rfl fun a E=>mv E rfl fun a E=>lw E (qaV Tryz.underlying9 rfl) fun a E=>lw E (qaA rfl rfl) fun a E=>pt E rfl rfl fun a E=>mv E rfl fun a E=>qap (decide (r48.2 < (s_0.length:Int))) (fun hc53=>?_) (fun hc53=>?_)
 rotate_left
 ·replace hF:=qaj hc53 hF
  replace E:=E.upd 55 hc53 rfl
  refine ls E fun a E=>ls E fun a E=>ls E fun a E=>ls E fun a E=>pf E rfl rfl fun a E=>wn<|c_if E rfl (fun h=>by cases h) (fun _=>?_)
  refine wp_skip<|qaa<|qab<|fv E qbv rfl fun a E=>ld E ok qbZ 1 rfl rfl rfl fun a E=>mv E rfl fun a E=>mv E rfl fun a E=>lw E (qaK (ps:=[(0,.tmp 70),(1,.tmp 71)]) (qs:=[(0,[(Value.int .u8 r48.1)]),(1,[(Value.int .u8 r48.1)])]) (cs:=[(Value.int .u8 r48.1),(Value.int .u8 r48.1)]) qcs qgC rfl ⟨rfl,rfl,rfl,⟨rfl,rfl,rfl,trivial⟩⟩ rfl) fun a E=>?_
  refine qaT (R:=qbK) (xo:=[.tmp 72]) (xs:=([(Range.mk r48.1 r48.1)]:List (Range))) E ok qbV qcs rfl ⟨⟨_,rfl,rfl,⟨rfl,r50,r50⟩⟩,trivial⟩ rfl rfl rfl rfl fun c74 M75 a w E ok h76=>?_
  obtain ⟨l77,e78,hF⟩:=bnd hF
  refine qa3 (R:=qbK) E ok 1 qe0 qbV Tryz.underlying136 rfl h40 (qaJ.ofRow h76 0 rfl ok) e78 ⟨_,qcs,rfl⟩ rfl rfl rfl rfl fun c79 M80 a w E ok h81=>mv E rfl fun a E=>fv E qbv rfl fun a E=>qai E ok 2 rfl rfl rfl qin (ORow.cells h81) rfl ⟨(ORow.one h81),trivial⟩ rfl rfl fun w ok=>av E rfl fun a E=>wpList_nil<|qaq ?_
  obtain rfl:=sj hF
  exact qay ⟨c79,M80,(ok.pk 4 [1,2,3] rfl (by decide)),E.keep [0,1,4,6],r51,l37,h81,r41,r42⟩
 replace hF:=qak hc53 hF
 replace E:=E.upd 55 hc53 rfl
 refine mv E rfl fun a E=>mv E rfl fun a E=>?_
 obtain ⟨c54,e55,hF⟩:=bnd hF
 refine lv E ok (qba Tryz.underlying9 rfl rfl e55) fun a E=>lw E (qbt rfl rfl) fun a E=>pt E rfl rfl fun a E=>wn ?_
 obtain ⟨o56,hJ,hF⟩:=bnd hF
 refine qbx (Q':=fun e a w=>e = .normal ∧ Ok u m0 (M39 :: [(b2,oc 138 [vs x_35.Text,c38,vb x_35.Not,vi x_35.Least,vi x_35.Most])] :: [(b1,oc 138 [(vs ([])),(Value.slice none 0 0),vb false,vi 0,vi 0])] :: S) w ∧ Env 89 a [(0,vs s_0),(4,vp b1),(6,vp b2),(7,(Value.int .u8 r48.1)),(8,vi o56.1),(9,(Value.int .u8 o56.2))] ∧ InR .i64 o56.1 ∧ InR .u8 o56.2) ?_ ?_
 rotate_left
 ·clear hJ
  intro e a w hO
  obtain ⟨rfl,ok,E,r64,r65⟩:=hO
  refine qaa<|qab<|fv E qbv rfl fun a E=>ld E ok qbZ 1 rfl rfl rfl fun a E=>mv E rfl fun a E=>mv E rfl fun a E=>lw E (qaK (ps:=[(0,.tmp 70),(1,.tmp 71)]) (qs:=[(0,[(Value.int .u8 r48.1)]),(1,[(Value.int .u8 o56.2)])]) (cs:=[(Value.int .u8 r48.1),(Value.int .u8 o56.2)]) qcs qgC rfl ⟨rfl,rfl,rfl,⟨rfl,rfl,rfl,trivial⟩⟩ rfl) fun a E=>qaT (R:=qbK) (xo:=[.tmp 72]) (xs:=([(Range.mk r48.1 o56.2)]:List (Range))) E ok qbV qcs rfl ⟨⟨_,rfl,rfl,⟨rfl,r50,r65⟩⟩,trivial⟩ rfl rfl rfl rfl fun c66 M67 a w E ok h68=>?_
  obtain ⟨l69,e70,hF⟩:=bnd hF
  refine qa3 (R:=qbK) E ok 1 qe0 qbV Tryz.underlying136 rfl h40 (qaJ.ofRow h68 0 rfl ok) e70 ⟨_,qcs,rfl⟩ rfl rfl rfl rfl fun c71 M72 a w E ok h73=>mv E rfl fun a E=>fv E qbv rfl fun a E=>qai E ok 2 rfl rfl rfl qin (ORow.cells h73) rfl ⟨(ORow.one h73),trivial⟩ rfl rfl fun w ok=>av E rfl fun a E=>wpList_nil<|qaq ?_
  obtain rfl:=sj hF
  exact qay ⟨c71,M72,(ok.pk 4 [1,2,3] rfl (by decide)),E.keep [0,1,4,6],r64,l37,h73,r41,r42⟩
 replace hF:=hJ
 clear hJ
 refine cf E rfl hF (fun hc59 hF=>?_) fun hc59 hF=>?_
 rotate_left
 ·refine wp_skip ?_
  obtain rfl:=sj hF
  exact ⟨rfl,⟨ok,E.keep [0,4,6,7,8,9],r51,r50⟩⟩
 refine qab<|mv E rfl fun a E=>mv E rfl fun a E=>lw E (qaG rfl rfl (InR.inc r51 (InR.len ls_0) hc53)) fun a E=>?_
 obtain ⟨r60,e61,hF⟩:=bnd hF
 refine qaz E qkH rfl (qc0 N s_0 ls_0 (r48.2 + 1) (InR.inc r51 (InR.len ls_0) hc53) e61 hG ok) rfl rfl ?_
 rintro _ w ⟨⟨rfl,ok⟩,r62,r63⟩
 refine ⟨_,rfl,fun a E=>?_⟩
 refine mv E rfl fun a E=>lw E (qaw rfl rfl) fun a E=>lw E (qaw rfl rfl) fun a E=>av E rfl fun a E=>av E rfl fun a E=>wpList_nil ?_
 obtain rfl:=sj hF
 exact ⟨rfl,⟨ok,E.keep [0,4,6,7,8,9],r63,r62⟩⟩
def qdN (u:World) (m0:Mem) (S:Segs) (r:Item × Int) (a:Act) (w:World):Prop :=
 ∃ m1 v0,m0.le m1 ∧ Ok u m1 S w ∧ a.defers = [] ∧ RVs Tryz.prog a w [.c 4 138 (.agg v0.toArray),.t 5 (.int .i64 r.2)] ∧ qbO m1 v0 r.1 ∧ InR .i64 r.2
theorem qe7 (N:Nat) (s_0:List UInt8) (ls_0:s_0.length ≤ LIMS) (at_1:Int) (rat_1:InR .i64 at_1) {r:Item × Int} (hF:qdw N s_0 at_1 = some r) (hG:Glob u) (ok:Ok u m0 S w) :
  Calls Tryz.prog 68 [vs s_0,vi at_1].toArray w fun e w'=>∃ m1 v0,e = .returned (.tuple [(.agg v0.toArray),(.int .i64 r.2)].toArray) ∧ m0.le m1 ∧ Ok u m1 S w' ∧ qbO m1 v0 r.1 ∧ InR .i64 r.2:=by
 have le_m0:=Mem.le.refl m0
 unfold qdw at hF
 refine en (qdN u m0 S) r Tryz.func68 rfl rfl rfl (by rintro a w ⟨m1,v0,hle,ok,hd,hrv,h0,h1⟩; exact qaM [.c 4 138 (.agg v0.toArray),.t 5 (.int .i64 r.2)] hd rfl hrv ⟨m1,v0,rfl,hle,ok,h0,h1⟩) fun fin a E=>sg<|qaC E ok qbE rfl rfl fun b1 a w E ok=>aw E rfl fun a E=>wp_seq ?_
 refine qab<|lw E (qaK (ps:=[]) (qs:=[]) (cs:=[(vs ([])),(Value.slice none 0 0),vb false,vi 0,vi 0]) qbE qcI rfl trivial rfl) fun a E=>qaC E ok qbE rfl rfl fun b2 a w E ok=>qai E ok 0 rfl rfl rfl qbA rfl rfl ⟨rfl,rfl,rfl,rfl,rfl,trivial⟩ rfl rfl fun w ok=>wn<|wp_seq<|wp_block ?_
 refine sg<|mv E rfl fun a E=>mv E rfl fun a E=>lw E (qaV Tryz.underlying9 rfl) fun a E=>lw E (qaA rfl rfl) fun a E=>mv E rfl fun a E=>qap (decide (at_1 < (s_0.length:Int))) (fun hc3=>?_) (fun hc3=>?_)
 rotate_left
 ·as_aux_lemma =>
   replace hF:=qaj hc3 hF
   replace E:=E.upd 14 hc3 rfl
   refine ls E fun a E=>ls E fun a E=>ls E fun a E=>ls E fun a E=>pf E rfl rfl fun a E=>aw E rfl fun a E=>?_
   refine c_if E rfl (fun h=>by cases h) (fun _=>?_)
   refine sg<|mv E rfl fun a E=>mv E rfl fun a E=>lw E (qaV Tryz.underlying9 rfl) fun a E=>lw E (qaA rfl rfl) fun a E=>mv E rfl fun a E=>qap (decide (at_1 < (s_0.length:Int))) (fun hc57=>?_) (fun hc57=>?_)
   rotate_left
   ·replace hF:=qaj hc57 hF
    replace E:=E.upd 31 hc57 rfl
    refine ls E fun a E=>ls E fun a E=>ls E fun a E=>ls E fun a E=>pf E rfl rfl fun a E=>aw E rfl fun a E=>?_
    refine c_if E rfl (fun h=>by cases h) (fun _=>?_)
    refine sg<|lw E (qaK (ps:=[]) (qs:=[]) (cs:=[(vs ([])),(Value.slice none 0 0),vb false,vi 0,vi 0]) qbE qcI rfl trivial rfl) fun a E=>qai E ok 1 rfl rfl rfl qbA rfl rfl ⟨rfl,rfl,rfl,rfl,rfl,trivial⟩ rfl rfl fun w ok=>aw E rfl fun a E=>wp_ret ?_
    refine qan<|qag ?_
    exact fin hF ⟨m0,[(vs ([])),(Value.slice none 0 0),vb false,vi 0,vi 0],le_m0,ok.drop.drop,E.d,⟨rv_c (cs:=[(vs ([])),(Value.slice none 0 0),vb false,vi 0,vi 0]) E ok rfl qbh rfl (qae.own 1 rfl rfl),rv_t E rfl,trivial⟩,⟨_,rfl,(Nat.zero_le _),qbF,(ir 0),(ir 0)⟩,(ir (-1))⟩
   replace hF:=qak hc57 hF
   replace E:=E.upd 31 hc57 rfl
   refine mv E rfl fun a E=>mv E rfl fun a E=>?_
   obtain ⟨c58,e59,hF⟩:=bnd hF
   refine lv E ok (qba Tryz.underlying9 rfl rfl e59) fun a E=>lw E (qbt rfl rfl) fun a E=>pt E rfl rfl fun a E=>aw E rfl fun a E=>cf E rfl hF (fun hc60 hF=>?_) fun hc60 hF=>?_
   rotate_left
   ·refine sg<|lw E (qaK (ps:=[]) (qs:=[]) (cs:=[(vs ([])),(Value.slice none 0 0),vb false,vi 0,vi 0]) qbE qcI rfl trivial rfl) fun a E=>qai E ok 1 rfl rfl rfl qbA rfl rfl ⟨rfl,rfl,rfl,rfl,rfl,trivial⟩ rfl rfl fun w ok=>aw E rfl fun a E=>wp_ret ?_
    refine qan<|qag ?_
    exact fin hF ⟨m0,[(vs ([])),(Value.slice none 0 0),vb false,vi 0,vi 0],le_m0,ok.drop.drop,E.d,⟨rv_c (cs:=[(vs ([])),(Value.slice none 0 0),vb false,vi 0,vi 0]) E ok rfl qbh rfl (qae.own 1 rfl rfl),rv_t E rfl,trivial⟩,⟨_,rfl,(Nat.zero_le _),qbF,(ir 0),(ir 0)⟩,(ir (-1))⟩
   refine qab<|mv E rfl fun a E=>mv E rfl fun a E=>?_
   obtain ⟨r61,e62,hF⟩:=bnd hF
   refine qaz E qrL rfl (qgG N s_0 ls_0 at_1 rat_1 e62 hG ok) rfl rfl ?_
   rintro _ w ⟨m63,vs64,rfl,hle,ok,h65,r66⟩
   have le_m0:=le_m0.trans hle
   obtain ⟨c68,rfl,l67,h69,r70,r71⟩:=h65
   refine ⟨_,rfl,fun a E=>?_⟩
   refine mv E rfl fun a E=>lw E (qaw rfl rfl) fun a E=>lw E (qaw rfl rfl) fun a E=>qai E ok 0 rfl rfl rfl qbA rfl rfl ⟨rfl,(qa0 h69),rfl,rfl,rfl,trivial⟩ rfl rfl fun w ok=>av E rfl fun a E=>wpList_nil<|qaq<|qaa ?_
   refine sg<|fv E qd1 rfl fun a E=>qai E ok 0 rfl rfl rfl qey rfl rfl ⟨rfl,trivial⟩ rfl rfl fun w ok=>fv E qdZ rfl fun a E=>qai E ok 0 rfl rfl rfl qey rfl rfl ⟨rfl,trivial⟩ rfl rfl fun w ok=>wn ?_
   refine wp_seq<|sg<|mv E rfl fun a E=>lw E (qbo rfl rfl) fun a E=>mv E rfl fun a E=>qap (decide (r61.2 ≥ 0)) (fun hc72=>?_) (fun hc72=>?_)
   rotate_left
   ·replace hF:=qaj hc72 hF
    replace E:=E.upd 47 hc72 rfl
    refine ls E fun a E=>ls E fun a E=>ls E fun a E=>ls E fun a E=>pf E rfl rfl fun a E=>wn<|c_if E rfl (fun h=>by cases h) (fun _=>?_)
    refine wp_skip<|qaa<|sg<|lv E ok (qat (cs:=[vs r61.1.Text,c68,vb r61.1.Not,vi 1,vi 1]) qbh rfl rfl (qae.own 0 rfl rfl)) fun a E=>mv E rfl fun a E=>qai E ok 1 rfl rfl rfl qbA rfl rfl ⟨rfl,(qa0 h69),rfl,rfl,rfl,trivial⟩ rfl rfl fun w ok=>av E rfl fun a E=>?_
    refine wn<|wp_ret ?_
    exact fin hF ⟨m63,[vs r61.1.Text,c68,vb r61.1.Not,vi 1,vi 1],le_m0,ok.drop.drop,E.d,⟨rv_c (cs:=[vs r61.1.Text,c68,vb r61.1.Not,vi 1,vi 1]) E ok rfl qbh rfl (qae.own 1 rfl rfl),rv_t E rfl,trivial⟩,⟨_,rfl,l67,h69,(ir 1),(ir 1)⟩,r66⟩
   replace hF:=qak hc72 hF
   replace E:=E.upd 47 hc72 rfl
   refine mv E rfl fun a E=>mv E rfl fun a E=>lw E (qaV Tryz.underlying9 rfl) fun a E=>lw E (qaA rfl rfl) fun a E=>pt E rfl rfl fun a E=>wn<|cf E rfl hF (fun hc73 hF=>?_) fun hc73 hF=>?_
   rotate_left
   ·refine wp_skip<|qaa<|sg<|lv E ok (qat (cs:=[vs r61.1.Text,c68,vb r61.1.Not,vi 1,vi 1]) qbh rfl rfl (qae.own 0 rfl rfl)) fun a E=>mv E rfl fun a E=>qai E ok 1 rfl rfl rfl qbA rfl rfl ⟨rfl,(qa0 h69),rfl,rfl,rfl,trivial⟩ rfl rfl fun w ok=>av E rfl fun a E=>?_
    refine wn<|wp_ret ?_
    exact fin hF ⟨m63,[vs r61.1.Text,c68,vb r61.1.Not,vi 1,vi 1],le_m0,ok.drop.drop,E.d,⟨rv_c (cs:=[vs r61.1.Text,c68,vb r61.1.Not,vi 1,vi 1]) E ok rfl qbh rfl (qae.own 1 rfl rfl),rv_t E rfl,trivial⟩,⟨_,rfl,l67,h69,(ir 1),(ir 1)⟩,r66⟩
   refine sg<|mv E rfl fun a E=>mv E rfl fun a E=>?_
   obtain ⟨c74,e75,hF⟩:=bnd hF
   refine lv E ok (qba Tryz.underlying9 rfl rfl e75) fun a E=>wn<|wp_block<|sg<|lw E (qbt rfl rfl) fun a E=>av E rfl fun a E=>?_
   refine wn<|cf E rfl hF (fun hc76 hF=>?_) fun hc76 hF=>?_
   ·refine qab<|mv E rfl fun a E=>lw E (qaG rfl rfl (InR.inc r66 (InR.len ls_0) hc73)) fun a E=>fv E qd1 rfl fun a E=>qai E ok 0 rfl rfl rfl qey rfl rfl ⟨rfl,trivial⟩ rfl rfl fun w ok=>av E rfl fun a E=>wpList_nil<|qaq ?_
    refine qaa<|sg<|lv E ok (qat (cs:=[vs r61.1.Text,c68,vb r61.1.Not,vi 0,vi 1]) qbh rfl rfl (qae.own 0 rfl rfl)) fun a E=>mv E rfl fun a E=>qai E ok 1 rfl rfl rfl qbA rfl rfl ⟨rfl,(qa0 h69),rfl,rfl,rfl,trivial⟩ rfl rfl fun w ok=>av E rfl fun a E=>wpList_nil ?_
    refine qaa<|wp_ret ?_
    exact fin hF ⟨m63,[vs r61.1.Text,c68,vb r61.1.Not,vi 0,vi 1],le_m0,ok.drop.drop,E.d,⟨rv_c (cs:=[vs r61.1.Text,c68,vb r61.1.Not,vi 0,vi 1]) E ok rfl qbh rfl (qae.own 1 rfl rfl),rv_t E rfl,trivial⟩,⟨_,rfl,l67,h69,(ir 0),(ir 1)⟩,(InR.inc r66 (InR.len ls_0) hc73)⟩
   refine sg<|lw E (qbt rfl rfl) fun a E=>aw E rfl fun a E=>cf E rfl hF (fun hc77 hF=>?_) fun hc77 hF=>?_
   ·refine qab<|mv E rfl fun a E=>lw E (qaG rfl rfl (InR.inc r66 (InR.len ls_0) hc73)) fun a E=>fv E qd1 rfl fun a E=>qai E ok 0 rfl rfl rfl qey rfl rfl ⟨rfl,trivial⟩ rfl rfl fun w ok=>fv E qdZ rfl fun a E=>qai E ok 0 rfl rfl rfl qey rfl rfl ⟨rfl,trivial⟩ rfl rfl fun w ok=>av E rfl fun a E=>?_
    refine wpList_nil<|qaq<|qaa<|sg<|lv E ok (qat (cs:=[vs r61.1.Text,c68,vb r61.1.Not,vi 0,(vi (-1))]) qbh rfl rfl (qae.own 0 rfl rfl)) fun a E=>mv E rfl fun a E=>qai E ok 1 rfl rfl rfl qbA rfl rfl ⟨rfl,(qa0 h69),rfl,rfl,rfl,trivial⟩ rfl rfl fun w ok=>?_
    refine aw E rfl fun a E=>wp_ret ?_
    exact fin hF ⟨m63,[vs r61.1.Text,c68,vb r61.1.Not,vi 0,(vi (-1))],le_m0,ok.drop.drop,E.d,⟨rv_c (cs:=[vs r61.1.Text,c68,vb r61.1.Not,vi 0,(vi (-1))]) E ok rfl qbh rfl (qae.own 1 rfl rfl),rv_t E rfl,trivial⟩,⟨_,rfl,l67,h69,(ir 0),(ir (-1))⟩,(InR.inc r66 (InR.len ls_0) hc73)⟩
   refine sg<|lw E (qbt rfl rfl) fun a E=>aw E rfl fun a E=>cf E rfl hF (fun hc78 hF=>?_) fun hc78 hF=>?_
   rotate_left
   ·refine wp_skip<|qaq<|qaa<|sg<|lv E ok (qat (cs:=[vs r61.1.Text,c68,vb r61.1.Not,vi 1,vi 1]) qbh rfl rfl (qae.own 0 rfl rfl)) fun a E=>mv E rfl fun a E=>qai E ok 1 rfl rfl rfl qbA rfl rfl ⟨rfl,(qa0 h69),rfl,rfl,rfl,trivial⟩ rfl rfl fun w ok=>?_
    refine aw E rfl fun a E=>wp_ret ?_
    exact fin hF ⟨m63,[vs r61.1.Text,c68,vb r61.1.Not,vi 1,vi 1],le_m0,ok.drop.drop,E.d,⟨rv_c (cs:=[vs r61.1.Text,c68,vb r61.1.Not,vi 1,vi 1]) E ok rfl qbh rfl (qae.own 1 rfl rfl),rv_t E rfl,trivial⟩,⟨_,rfl,l67,h69,(ir 1),(ir 1)⟩,r66⟩
   refine qab<|mv E rfl fun a E=>lw E (qaG rfl rfl (InR.inc r66 (InR.len ls_0) hc73)) fun a E=>fv E qdZ rfl fun a E=>qai E ok 0 rfl rfl rfl qey rfl rfl ⟨rfl,trivial⟩ rfl rfl fun w ok=>av E rfl fun a E=>wpList_nil<|qaq ?_
   refine qaa<|sg<|lv E ok (qat (cs:=[vs r61.1.Text,c68,vb r61.1.Not,vi 1,(vi (-1))]) qbh rfl rfl (qae.own 0 rfl rfl)) fun a E=>mv E rfl fun a E=>qai E ok 1 rfl rfl rfl qbA rfl rfl ⟨rfl,(qa0 h69),rfl,rfl,rfl,trivial⟩ rfl rfl fun w ok=>av E rfl fun a E=>wpList_nil ?_
   refine qaa<|wp_ret ?_
   exact fin hF ⟨m63,[vs r61.1.Text,c68,vb r61.1.Not,vi 1,(vi (-1))],le_m0,ok.drop.drop,E.d,⟨rv_c (cs:=[vs r61.1.Text,c68,vb r61.1.Not,vi 1,(vi (-1))]) E ok rfl qbh rfl (qae.own 1 rfl rfl),rv_t E rfl,trivial⟩,⟨_,rfl,l67,h69,(ir 1),(ir (-1))⟩,(InR.inc r66 (InR.len ls_0) hc73)⟩
 replace hF:=qak hc3 hF
 replace E:=E.upd 14 hc3 rfl
 refine mv E rfl fun a E=>mv E rfl fun a E=>?_
 obtain ⟨c4,e5,hF⟩:=bnd hF
 refine lv E ok (qba Tryz.underlying9 rfl rfl e5) fun a E=>lw E (qbt rfl rfl) fun a E=>pt E rfl rfl fun a E=>aw E rfl fun a E=>?_
 obtain ⟨o6,hJ,hF⟩:=bnd hF
 refine qbx (Q':=fun e a w=>(Sum.elim (fun b7=>e = .normal ∧ ∃ m8 c11,m0.le m8 ∧ Ok u m8 ([(b2,oc 138 [vs b7.2.Text,c11,vb b7.2.Not,vi b7.2.Least,vi b7.2.Most])] :: [(b1,oc 138 [(vs ([])),(Value.slice none 0 0),vb false,vi 0,vi 0])] :: S) w ∧ Env 74 a [(0,vs s_0),(1,vi b7.1),(4,vp b1),(6,vp b2)] ∧ InR .i64 b7.1 ∧ b7.2.Text.length ≤ LIMS ∧ (pL 2 qbK) m8 [c11] b7.2.Ranges ∧ InR .i64 b7.2.Least ∧ InR .i64 b7.2.Most) (fun b15=>e = .ret ∧ qdN u m0 S b15 a w)) o6) ?_ ?_
 ·as_aux_lemma =>
   replace hF:=hJ
   clear hJ
   refine cf E rfl hF (fun hc16 hF=>?_) fun hc16 hF=>?_
   ·refine qab<|mv E rfl fun a E=>mv E rfl fun a E=>?_
    obtain ⟨r17,e18,hF⟩:=bnd hF
    refine qaz E qtY rfl (qi0 N s_0 ls_0 at_1 rat_1 e18 hG ok) rfl rfl ?_
    rintro _ w ⟨m19,vs20,rfl,hle,ok,h21,r22⟩
    have le_m0:=le_m0.trans hle
    obtain ⟨c24,rfl,l23,h25,r26,r27⟩:=h21
    refine ⟨_,rfl,fun a E=>?_⟩
    refine mv E rfl fun a E=>lw E (qaw rfl rfl) fun a E=>lw E (qaw rfl rfl) fun a E=>qai E ok 0 rfl rfl rfl qbA rfl rfl ⟨rfl,(qa0 h25),rfl,rfl,rfl,trivial⟩ rfl rfl fun w ok=>av E rfl fun a E=>wpList_nil ?_
    obtain rfl:=sj hF
    exact (sl ⟨rfl,⟨m19,c24,le_m0,ok,E.keep [0,1,4,6],r22,l23,h25,r26,r27⟩⟩)
   refine sg<|mv E rfl fun a E=>mv E rfl fun a E=>lw E (qaV Tryz.underlying9 rfl) fun a E=>lw E (qaA rfl rfl) fun a E=>mv E rfl fun a E=>qap (decide (at_1 < (s_0.length:Int))) (fun hc28=>?_) (fun hc28=>?_)
   rotate_left
   ·replace hF:=qaj hc28 hF
    replace E:=E.upd 31 hc28 rfl
    refine ls E fun a E=>ls E fun a E=>ls E fun a E=>ls E fun a E=>pf E rfl rfl fun a E=>aw E rfl fun a E=>?_
    refine c_if E rfl (fun h=>by cases h) (fun _=>?_)
    refine sg<|lw E (qaK (ps:=[]) (qs:=[]) (cs:=[(vs ([])),(Value.slice none 0 0),vb false,vi 0,vi 0]) qbE qcI rfl trivial rfl) fun a E=>qai E ok 1 rfl rfl rfl qbA rfl rfl ⟨rfl,rfl,rfl,rfl,rfl,trivial⟩ rfl rfl fun w ok=>aw E rfl fun a E=>wp_ret ?_
    have hret:qdN u m0 S ((Item.mk ([]) ([]) false 0 0),(-1)) a w:=⟨m0,[(vs ([])),(Value.slice none 0 0),vb false,vi 0,vi 0],le_m0,ok.drop.drop,E.d,⟨rv_c (cs:=[(vs ([])),(Value.slice none 0 0),vb false,vi 0,vi 0]) E ok rfl qbh rfl (qae.own 1 rfl rfl),rv_t E rfl,trivial⟩,⟨_,rfl,(Nat.zero_le _),qbF,(ir 0),(ir 0)⟩,(ir (-1))⟩
    obtain rfl:=sj hF
    exact (sr ⟨rfl,hret⟩)
   replace hF:=qak hc28 hF
   replace E:=E.upd 31 hc28 rfl
   refine mv E rfl fun a E=>mv E rfl fun a E=>?_
   obtain ⟨c29,e30,hF⟩:=bnd hF
   refine lv E ok (qba Tryz.underlying9 rfl rfl e30) fun a E=>lw E (qbt rfl rfl) fun a E=>pt E rfl rfl fun a E=>aw E rfl fun a E=>cf E rfl hF (fun hc31 hF=>?_) fun hc31 hF=>?_
   rotate_left
   ·refine sg<|lw E (qaK (ps:=[]) (qs:=[]) (cs:=[(vs ([])),(Value.slice none 0 0),vb false,vi 0,vi 0]) qbE qcI rfl trivial rfl) fun a E=>qai E ok 1 rfl rfl rfl qbA rfl rfl ⟨rfl,rfl,rfl,rfl,rfl,trivial⟩ rfl rfl fun w ok=>aw E rfl fun a E=>wp_ret ?_
    have hret:qdN u m0 S ((Item.mk ([]) ([]) false 0 0),(-1)) a w:=⟨m0,[(vs ([])),(Value.slice none 0 0),vb false,vi 0,vi 0],le_m0,ok.drop.drop,E.d,⟨rv_c (cs:=[(vs ([])),(Value.slice none 0 0),vb false,vi 0,vi 0]) E ok rfl qbh rfl (qae.own 1 rfl rfl),rv_t E rfl,trivial⟩,⟨_,rfl,(Nat.zero_le _),qbF,(ir 0),(ir 0)⟩,(ir (-1))⟩
    obtain rfl:=sj hF
    exact (sr ⟨rfl,hret⟩)
   refine qab<|mv E rfl fun a E=>mv E rfl fun a E=>?_
   obtain ⟨r32,e33,hF⟩:=bnd hF
   refine qaz E qrL rfl (qgG N s_0 ls_0 at_1 rat_1 e33 hG ok) rfl rfl ?_
   rintro _ w ⟨m34,vs35,rfl,hle,ok,h36,r37⟩
   have le_m0:=le_m0.trans hle
   obtain ⟨c39,rfl,l38,h40,r41,r42⟩:=h36
   refine ⟨_,rfl,fun a E=>?_⟩
   refine mv E rfl fun a E=>lw E (qaw rfl rfl) fun a E=>lw E (qaw rfl rfl) fun a E=>qai E ok 0 rfl rfl rfl qbA rfl rfl ⟨rfl,(qa0 h40),rfl,rfl,rfl,trivial⟩ rfl rfl fun w ok=>av E rfl fun a E=>wpList_nil ?_
   obtain rfl:=sj hF
   exact (sl ⟨rfl,⟨m34,c39,le_m0,ok,E.keep [0,1,4,6],r37,l38,h40,r41,r42⟩⟩)
 clear hJ
 intro e a w hO
 rcases o6 with o6 | o6
 rotate_left
 ·replace hF:=qbf hF
  obtain ⟨rfl,hret⟩:=hO
  refine qan<|qag ?_
  exact fin hF hret
 replace hF:=qbe hF
 obtain ⟨rfl,m43,c46,hle,ok,E,r44,l45,h47,r48,r49⟩:=hO
 have le_m0:=le_m0.trans hle
 refine qaq<|qaa<|sg<|fv E qd1 rfl fun a E=>qai E ok 0 rfl rfl rfl qey rfl rfl ⟨rfl,trivial⟩ rfl rfl fun w ok=>fv E qdZ rfl fun a E=>qai E ok 0 rfl rfl rfl qey rfl rfl ⟨rfl,trivial⟩ rfl rfl fun w ok=>?_
 refine wn<|wp_seq<|sg<|mv E rfl fun a E=>lw E (qbo rfl rfl) fun a E=>mv E rfl fun a E=>?_
 refine qap (decide (o6.1 ≥ 0)) (fun hc50=>?_) (fun hc50=>?_)
 rotate_left
 ·replace hF:=qaj hc50 hF
  replace E:=E.upd 47 hc50 rfl
  refine ls E fun a E=>ls E fun a E=>ls E fun a E=>ls E fun a E=>pf E rfl rfl fun a E=>wn<|c_if E rfl (fun h=>by cases h) (fun _=>?_)
  refine wp_skip<|qaa<|sg<|lv E ok (qat (cs:=[vs o6.2.Text,c46,vb o6.2.Not,vi 1,vi 1]) qbh rfl rfl (qae.own 0 rfl rfl)) fun a E=>mv E rfl fun a E=>qai E ok 1 rfl rfl rfl qbA rfl rfl ⟨rfl,(qa0 h47),rfl,rfl,rfl,trivial⟩ rfl rfl fun w ok=>av E rfl fun a E=>?_
  refine wn<|wp_ret ?_
  exact fin hF ⟨m43,[vs o6.2.Text,c46,vb o6.2.Not,vi 1,vi 1],le_m0,ok.drop.drop,E.d,⟨rv_c (cs:=[vs o6.2.Text,c46,vb o6.2.Not,vi 1,vi 1]) E ok rfl qbh rfl (qae.own 1 rfl rfl),rv_t E rfl,trivial⟩,⟨_,rfl,l45,h47,(ir 1),(ir 1)⟩,r44⟩
 replace hF:=qak hc50 hF
 replace E:=E.upd 47 hc50 rfl
 refine mv E rfl fun a E=>mv E rfl fun a E=>lw E (qaV Tryz.underlying9 rfl) fun a E=>lw E (qaA rfl rfl) fun a E=>pt E rfl rfl fun a E=>wn<|cf E rfl hF (fun hc51 hF=>?_) fun hc51 hF=>?_
 rotate_left
 ·refine wp_skip<|qaa<|sg<|lv E ok (qat (cs:=[vs o6.2.Text,c46,vb o6.2.Not,vi 1,vi 1]) qbh rfl rfl (qae.own 0 rfl rfl)) fun a E=>mv E rfl fun a E=>qai E ok 1 rfl rfl rfl qbA rfl rfl ⟨rfl,(qa0 h47),rfl,rfl,rfl,trivial⟩ rfl rfl fun w ok=>av E rfl fun a E=>?_
  refine wn<|wp_ret ?_
  exact fin hF ⟨m43,[vs o6.2.Text,c46,vb o6.2.Not,vi 1,vi 1],le_m0,ok.drop.drop,E.d,⟨rv_c (cs:=[vs o6.2.Text,c46,vb o6.2.Not,vi 1,vi 1]) E ok rfl qbh rfl (qae.own 1 rfl rfl),rv_t E rfl,trivial⟩,⟨_,rfl,l45,h47,(ir 1),(ir 1)⟩,r44⟩
 refine sg<|mv E rfl fun a E=>mv E rfl fun a E=>?_
 obtain ⟨c52,e53,hF⟩:=bnd hF
 refine lv E ok (qba Tryz.underlying9 rfl rfl e53) fun a E=>wn<|wp_block<|sg<|lw E (qbt rfl rfl) fun a E=>av E rfl fun a E=>?_
 refine wn<|cf E rfl hF (fun hc54 hF=>?_) fun hc54 hF=>?_
 ·refine qab<|mv E rfl fun a E=>lw E (qaG rfl rfl (InR.inc r44 (InR.len ls_0) hc51)) fun a E=>fv E qd1 rfl fun a E=>qai E ok 0 rfl rfl rfl qey rfl rfl ⟨rfl,trivial⟩ rfl rfl fun w ok=>av E rfl fun a E=>wpList_nil<|qaq ?_
  refine qaa<|sg<|lv E ok (qat (cs:=[vs o6.2.Text,c46,vb o6.2.Not,vi 0,vi 1]) qbh rfl rfl (qae.own 0 rfl rfl)) fun a E=>mv E rfl fun a E=>qai E ok 1 rfl rfl rfl qbA rfl rfl ⟨rfl,(qa0 h47),rfl,rfl,rfl,trivial⟩ rfl rfl fun w ok=>av E rfl fun a E=>wpList_nil ?_
  refine qaa<|wp_ret ?_
  exact fin hF ⟨m43,[vs o6.2.Text,c46,vb o6.2.Not,vi 0,vi 1],le_m0,ok.drop.drop,E.d,⟨rv_c (cs:=[vs o6.2.Text,c46,vb o6.2.Not,vi 0,vi 1]) E ok rfl qbh rfl (qae.own 1 rfl rfl),rv_t E rfl,trivial⟩,⟨_,rfl,l45,h47,(ir 0),(ir 1)⟩,(InR.inc r44 (InR.len ls_0) hc51)⟩
 refine sg<|lw E (qbt rfl rfl) fun a E=>aw E rfl fun a E=>cf E rfl hF (fun hc55 hF=>?_) fun hc55 hF=>?_
 ·refine qab<|mv E rfl fun a E=>lw E (qaG rfl rfl (InR.inc r44 (InR.len ls_0) hc51)) fun a E=>fv E qd1 rfl fun a E=>qai E ok 0 rfl rfl rfl qey rfl rfl ⟨rfl,trivial⟩ rfl rfl fun w ok=>fv E qdZ rfl fun a E=>qai E ok 0 rfl rfl rfl qey rfl rfl ⟨rfl,trivial⟩ rfl rfl fun w ok=>av E rfl fun a E=>?_
  refine wpList_nil<|qaq<|qaa<|sg<|lv E ok (qat (cs:=[vs o6.2.Text,c46,vb o6.2.Not,vi 0,(vi (-1))]) qbh rfl rfl (qae.own 0 rfl rfl)) fun a E=>mv E rfl fun a E=>qai E ok 1 rfl rfl rfl qbA rfl rfl ⟨rfl,(qa0 h47),rfl,rfl,rfl,trivial⟩ rfl rfl fun w ok=>?_
  refine aw E rfl fun a E=>wp_ret ?_
  exact fin hF ⟨m43,[vs o6.2.Text,c46,vb o6.2.Not,vi 0,(vi (-1))],le_m0,ok.drop.drop,E.d,⟨rv_c (cs:=[vs o6.2.Text,c46,vb o6.2.Not,vi 0,(vi (-1))]) E ok rfl qbh rfl (qae.own 1 rfl rfl),rv_t E rfl,trivial⟩,⟨_,rfl,l45,h47,(ir 0),(ir (-1))⟩,(InR.inc r44 (InR.len ls_0) hc51)⟩
 refine sg<|lw E (qbt rfl rfl) fun a E=>aw E rfl fun a E=>cf E rfl hF (fun hc56 hF=>?_) fun hc56 hF=>?_
 rotate_left
 ·refine wp_skip<|qaq<|qaa<|sg<|lv E ok (qat (cs:=[vs o6.2.Text,c46,vb o6.2.Not,vi 1,vi 1]) qbh rfl rfl (qae.own 0 rfl rfl)) fun a E=>mv E rfl fun a E=>qai E ok 1 rfl rfl rfl qbA rfl rfl ⟨rfl,(qa0 h47),rfl,rfl,rfl,trivial⟩ rfl rfl fun w ok=>?_
  refine aw E rfl fun a E=>wp_ret ?_
  exact fin hF ⟨m43,[vs o6.2.Text,c46,vb o6.2.Not,vi 1,vi 1],le_m0,ok.drop.drop,E.d,⟨rv_c (cs:=[vs o6.2.Text,c46,vb o6.2.Not,vi 1,vi 1]) E ok rfl qbh rfl (qae.own 1 rfl rfl),rv_t E rfl,trivial⟩,⟨_,rfl,l45,h47,(ir 1),(ir 1)⟩,r44⟩
 refine qab<|mv E rfl fun a E=>lw E (qaG rfl rfl (InR.inc r44 (InR.len ls_0) hc51)) fun a E=>fv E qdZ rfl fun a E=>qai E ok 0 rfl rfl rfl qey rfl rfl ⟨rfl,trivial⟩ rfl rfl fun w ok=>av E rfl fun a E=>wpList_nil<|qaq ?_
 refine qaa<|sg<|lv E ok (qat (cs:=[vs o6.2.Text,c46,vb o6.2.Not,vi 1,(vi (-1))]) qbh rfl rfl (qae.own 0 rfl rfl)) fun a E=>mv E rfl fun a E=>qai E ok 1 rfl rfl rfl qbA rfl rfl ⟨rfl,(qa0 h47),rfl,rfl,rfl,trivial⟩ rfl rfl fun w ok=>av E rfl fun a E=>wpList_nil ?_
 refine qaa<|wp_ret ?_
 exact fin hF ⟨m43,[vs o6.2.Text,c46,vb o6.2.Not,vi 1,(vi (-1))],le_m0,ok.drop.drop,E.d,⟨rv_c (cs:=[vs o6.2.Text,c46,vb o6.2.Not,vi 1,(vi (-1))]) E ok rfl qbh rfl (qae.own 1 rfl rfl),rv_t E rfl,trivial⟩,⟨_,rfl,l45,h47,(ir 1),(ir (-1))⟩,(InR.inc r44 (InR.len ls_0) hc51)⟩
def qgN (u:World) (m0:Mem) (S:Segs) (r:Rule × Bool) (a:Act) (w:World):Prop :=
 ∃ m1 v0,m0.le m1 ∧ Ok u m1 S w ∧ a.defers = [] ∧ RVs Tryz.prog a w [.c 2 114 (.agg v0.toArray),.t 3 (.bool r.2)] ∧ qdv m1 v0 r.1
theorem qiW (N:Nat) (s_0:List UInt8) (ls_0:s_0.length ≤ LIMS) {r:Rule × Bool} (hF:qfK N s_0 = some r) (hG:Glob u) (ok:Ok u m0 S w) :
  Calls Tryz.prog 41 [vs s_0].toArray w fun e w'=>∃ m1 v0,e = .returned (.tuple [(.agg v0.toArray),(.bool r.2)].toArray) ∧ m0.le m1 ∧ Ok u m1 S w' ∧ qdv m1 v0 r.1:=by
 have le_m0:=Mem.le.refl m0
 unfold qfK at hF
 refine en (qgN u m0 S) r Tryz.func41 rfl rfl rfl (by rintro a w ⟨m1,v0,hle,ok,hd,hrv,h0⟩; exact qaM [.c 2 114 (.agg v0.toArray),.t 3 (.bool r.2)] hd rfl hrv ⟨m1,v0,rfl,hle,ok,h0⟩) fun fin a E=>sg<|qaC E ok qdu rfl rfl fun b1 a w E ok=>aw E rfl fun a E=>wp_seq ?_
 refine qab<|aw E rfl fun a E=>wp_seq<|wp_block ?_
 obtain ⟨o3,hL,hF⟩:=bnd hF
 refine qaO _ (fun (s:Int) a w=>Ok u m0 ([(b1,oc 114 [(vs ([])),(Value.slice none 0 0),(vs ([]))])] :: S) w ∧ Env 88 a [(0,vs s_0),(2,vp b1),(4,vi s)] ∧ InR .i64 s) (fun (b:Int) e a w=>e = (.exit 0) ∧ Ok u m0 ([(b1,oc 114 [(vs ([])),(Value.slice none 0 0),(vs ([]))])] :: S) w ∧ Env 88 a [(0,vs s_0),(2,vp b1),(4,vi b)] ∧ InR .i64 b) ?_ ?_ N _ a w hL ⟨ok,E.keep [0,2,4],(ir 0)⟩
 ·rintro at_5 a w r ⟨ok,E,r6⟩ hF
  replace hF:qeC N s_0 at_5 = some r:=hF
  unfold qeC at hF
  refine wp_seq<|sg<|mv E rfl fun a E=>mv E rfl fun a E=>lw E (qaV Tryz.underlying9 rfl) fun a E=>lw E (qaA rfl rfl) fun a E=>mv E rfl fun a E=>?_
  refine qap (decide (at_5 < (s_0.length:Int))) (fun hc7=>?_) (fun hc7=>?_)
  rotate_left
  ·replace hF:=qaj hc7 hF
   replace E:=E.upd 12 hc7 rfl
   refine ls E fun a E=>ls E fun a E=>ls E fun a E=>ls E fun a E=>pf E rfl rfl fun a E=>wn<|c_if E rfl (fun h=>by cases h) (fun _=>?_)
   refine wp_exit<|qaB ?_
   obtain rfl:=sj hF
   exact so (⟨rfl,⟨ok,E.keep [0,2,4],r6⟩⟩)
  replace hF:=qak hc7 hF
  replace E:=E.upd 12 hc7 rfl
  refine mv E rfl fun a E=>mv E rfl fun a E=>?_
  obtain ⟨c8,e9,hF⟩:=bnd hF
  refine lv E ok (qba Tryz.underlying9 rfl rfl e9) fun a E=>lw E (qdG rfl rfl) fun a E=>pt E rfl rfl fun a E=>wn<|cf E rfl hF (fun hc10 hF=>?_) fun hc10 hF=>?_
  rotate_left
  ·refine wp_exit<|qaB ?_
   obtain rfl:=sj hF
   exact so (⟨rfl,⟨ok,E.keep [0,2,4],r6⟩⟩)
  refine wp_skip<|qaa<|wp_block<|qab<|mv E rfl fun a E=>lw E (qaG rfl rfl (InR.inc r6 (InR.len ls_0) hc7)) fun a E=>av E rfl fun a E=>wpList_nil ?_
  refine qaq ?_
  obtain rfl:=sj hF
  exact qay ⟨ok,E.keep [0,2,4],(InR.inc r6 (InR.len ls_0) hc7)⟩
 intro e a w _ hO
 obtain ⟨rfl,ok,E,r11⟩:=hO
 refine qaS<|qaa<|sg<|mv E rfl fun a E=>mv E rfl fun a E=>?_
 obtain ⟨s12,e13,hF⟩:=bnd hF
 refine lw E (qa7 Tryz.underlying9 e13 rfl rfl ⟨_,rfl⟩) fun a E=>lw E (qaK (ps:=[(0,.tmp 22)]) (qs:=[(0,[vs s12])]) (cs:=[vs s12,(Value.slice none 0 0),(vs ([]))]) qdu qlG rfl ⟨rfl,rfl,rfl,trivial⟩ rfl) fun a E=>qaC E ok qdu rfl rfl fun b14 a w E ok=>qai E ok 0 rfl rfl rfl qgD rfl rfl ⟨rfl,rfl,rfl,trivial⟩ rfl rfl fun w ok=>wn<|wp_seq<|wp_block ?_
 obtain ⟨M25,ok,h26⟩:=qdI (e:=138) (k:=5) (R:=qbO) ok
 obtain ⟨o27,hL,hF⟩:=bnd hF
 refine qaO _ (fun (s:Int × Rule) a w=>∃ m28 c31 M32,m0.le m28 ∧ Ok u m28 (M32 :: [(b14,oc 114 [vs s.2.Kind,c31,vs s.2.Next])] :: [(b1,oc 114 [(vs ([])),(Value.slice none 0 0),(vs ([]))])] :: S) w ∧ Env 88 a [(0,vs s_0),(2,vp b1),(4,vi s.1),(5,vp b14)] ∧ InR .i64 s.1 ∧ s.2.Kind.length ≤ LIMS ∧ ORow 138 5 qbO m28 c31 s.2.Items M32 ∧ s.2.Next.length ≤ LIMS) (fun (b:((Rule × Int) ⊕ (Rule × Bool))) e a w=>(Sum.elim (fun b142=>e = (.exit 2) ∧ ∃ m143 c145 M146,m0.le m143 ∧ Ok u m143 (M146 :: [(b14,oc 114 [vs b142.1.Kind,c145,vs b142.1.Next])] :: [(b1,oc 114 [(vs ([])),(Value.slice none 0 0),(vs ([]))])] :: S) w ∧ Env 88 a [(0,vs s_0),(2,vp b1),(4,vi b142.2),(5,vp b14)] ∧ b142.1.Kind.length ≤ LIMS ∧ ORow 138 5 qbO m143 c145 b142.1.Items M146 ∧ b142.1.Next.length ≤ LIMS ∧ InR .i64 b142.2) (fun b150=>e = .ret ∧ qgN u m0 S b150 a w)) b) ?_ ?_ N _ a w hL ⟨m0,(Value.slice none 0 0),M25,Mem.le.refl _,ok,E.keep [0,2,4,5],r11,(Nat.le_trans (qb6 e13) ls_0),h26,(Nat.zero_le _)⟩
 rotate_left
 ·as_aux_lemma =>
   intro e a w _ hO
   rcases o27 with o27 | o27
   rotate_left
   ·replace hF:=qbf hF
    obtain ⟨rfl,hret⟩:=hO
    refine qan<|qag ?_
    exact fin hF hret
   replace hF:=qbe hF
   obtain ⟨rfl,m116,c118,M119,hle,ok,E,l117,h120,l121,r122⟩:=hO
   have le_m0:=le_m0.trans hle
   refine qaS<|qaa<|wp_seq ?_
   obtain ⟨m123,hle,ok,hfz⟩:=(ok.frs 0 rfl).freeze
   have h124:=ORow.froz qds h120 hle hfz (by decide)
   have le_m0:=le_m0.trans hle
   obtain ⟨o125,hJ,hF⟩:=bnd hF
   refine qbx (Q':=fun e a w=>e = .normal ∧ ∃ c127,Ok u m123 ([(b14,oc 114 [vs o27.1.Kind,c118,vs o27.1.Next])] :: [(b1,oc 114 [vs o125.2.Kind,c127,vs o125.2.Next])] :: S) w ∧ Env 88 a [(2,vp b1),(3,vb o125.1)] ∧ o125.2.Kind.length ≤ LIMS ∧ (pL 5 qbO) m123 [c127] o125.2.Items ∧ o125.2.Next.length ≤ LIMS) ?_ ?_
   rotate_left
   ·clear hJ
    intro e a w hO
    obtain ⟨rfl,c139,ok,E,l138,h140,l141⟩:=hO
    refine qaa<|wp_ret ?_
    exact fin hF ⟨m123,[vs o125.2.Kind,c139,vs o125.2.Next],le_m0,ok.drop.drop,E.d,⟨rv_c (cs:=[vs o125.2.Kind,c139,vs o125.2.Next]) E ok rfl qdA rfl (qae.own 1 rfl rfl),rv_t E rfl,trivial⟩,⟨_,rfl,l138,h140,l141⟩⟩
   replace hF:=hJ
   clear hJ
   refine qap (decide (o27.2 ≥ 0)) (fun hc130=>?_) (fun hc130=>?_)
   rotate_left
   ·replace hF:=qaj hc130 hF
    obtain rfl:=sj hF
    refine qcp [0] (Cls u m123 ([(b14,oc 114 [vs o27.1.Kind,c118,vs o27.1.Next])] :: [(b1,oc 114 [(vs ([])),(Value.slice none 0 0),(vs ([]))])] :: [])) (Cls u m123 ([(b14,oc 114 [vs o27.1.Kind,c118,vs o27.1.Next])] :: [])) (by kernel_rfl) ?_
    intro w hw
    replace ok:=qcD ok hw
    clear hw
    have le_m123:=Mem.le.refl m123
    refine qam (cl1 (cq le_m123 ok [0,1] rfl) (cq le_m123 ok [0] rfl)) fun hT=>qbD 0 E rfl (by kernel_rfl) nP hT (qat (cs:=[vs o27.1.Kind,c118,vs o27.1.Next]) qdA rfl rfl (qae.cown 0 rfl rfl)) rfl rfl fun a E=>kt 1 E rfl hT (qad rfl) fun a E=>kt 2 E rfl hT (qbo rfl rfl) fun a E=>kt 3 E rfl hT (qad rfl) fun a E=>?_
    replace E:=E.upd 78 hc130 rfl
    refine qgL 4 false E rfl (by kernel_rfl) nP hT rfl rfl fun a E=>qgL 5 false E rfl (by kernel_rfl) nP hT rfl rfl fun a E=>kt 6 E rfl hT (qbH rfl rfl) fun a E=>kt 7 E rfl hT (qad rfl) fun a E=>qgL 8 false E rfl (by kernel_rfl) nP hT rfl rfl fun a E=>qgL 9 false E rfl (by kernel_rfl) nP hT rfl rfl fun a E=>qgL 10 false E rfl (by kernel_rfl) nP hT rfl rfl fun a E=>qgL 11 false E rfl (by kernel_rfl) nP hT rfl rfl fun a E=>?_
    refine kt 12 E rfl hT (qbH rfl rfl) fun a E=>qau [13] (by kernel_rfl) rfl (qax ?_)
    ·refine wo rfl<|qai E ok 1 rfl rfl rfl qgD rfl rfl ⟨rfl,(qa0 h124),rfl,trivial⟩ rfl rfl fun w ok=>wn<|qam (cl2 (by kernel_rfl) (cq le_m123 ok [0] rfl)) fun hT=>kt 14 E rfl hT (qal rfl) fun a E=>qbd (by kernel_rfl) ?_
     exact ⟨rfl,⟨c118,ok,E.keep [2,3],l117,h124,l121⟩⟩
   replace hF:=qak hc130 hF
   obtain ⟨r131,e132,hF⟩:=bnd hF
   refine qap r131 (fun hc133=>?_) (fun hc133=>?_)
   rotate_left
   ·replace hF:=qaj hc133 hF
    obtain rfl:=sj hF
    refine qcp [0] (Cls u m123 ([(b14,oc 114 [vs o27.1.Kind,c118,vs o27.1.Next])] :: [(b1,oc 114 [(vs ([])),(Value.slice none 0 0),(vs ([]))])] :: [])) (Cls u m123 ([(b14,oc 114 [vs o27.1.Kind,c118,vs o27.1.Next])] :: [])) (by kernel_rfl) ?_
    intro w hw
    replace ok:=qcD ok hw
    clear hw
    have le_m123:=Mem.le.refl m123
    refine qam (cl1 (cq le_m123 ok [0,1] rfl) (cq le_m123 ok [0] rfl)) fun hT=>qbD 0 E rfl (by kernel_rfl) nP hT (qat (cs:=[vs o27.1.Kind,c118,vs o27.1.Next]) qdA rfl rfl (qae.cown 0 rfl rfl)) rfl rfl fun a E=>kt 1 E rfl hT (qad rfl) fun a E=>kt 2 E rfl hT (qbo rfl rfl) fun a E=>kt 3 E rfl hT (qad rfl) fun a E=>?_
    replace E:=E.upd 78 hc130 rfl
    refine kt 4 E rfl hT (qat (cs:=[vs o27.1.Kind,c118,vs o27.1.Next]) qdA rfl rfl (qae.cown 0 rfl rfl)) fun a E=>qau [5] (by kernel_rfl) rfl (qax ?_)
    ·refine wo rfl<|lc E qpx rfl (qfE N _ o27.1 ⟨_,rfl,l117,h124,l121⟩ e132 hG ok) fun w ok a E=>wn<|qam (cl1 (cq le_m123 ok [0,1] rfl) (cq le_m123 ok [0] rfl)) fun hT=>kt 6 E rfl hT (qbR rfl rfl) fun a E=>kt 7 E rfl hT (qad rfl) fun a E=>?_
     replace E:=E.upd 82 hc133 rfl
     refine qgL 8 false E rfl (by kernel_rfl) nP hT rfl rfl fun a E=>qgL 9 false E rfl (by kernel_rfl) nP hT rfl rfl fun a E=>qgL 10 false E rfl (by kernel_rfl) nP hT rfl rfl fun a E=>qgL 11 false E rfl (by kernel_rfl) nP hT rfl rfl fun a E=>kt 12 E rfl hT (qbH rfl rfl) fun a E=>qau [13] (by kernel_rfl) rfl (qax ?_)
     ·refine wo rfl<|qai E ok 1 rfl rfl rfl qgD rfl rfl ⟨rfl,(qa0 h124),rfl,trivial⟩ rfl rfl fun w ok=>wn<|qam (cl2 (by kernel_rfl) (cq le_m123 ok [0] rfl)) fun hT=>kt 14 E rfl hT (qal rfl) fun a E=>qbd (by kernel_rfl) ?_
      exact ⟨rfl,⟨c118,ok,E.keep [2,3],l117,h124,l121⟩⟩
   replace hF:=qak hc133 hF
   obtain ⟨r134,e135,hF⟩:=bnd hF
   obtain rfl:=sj hF
   refine qcp [0] (Cls u m123 ([(b14,oc 114 [vs o27.1.Kind,c118,vs o27.1.Next])] :: [(b1,oc 114 [(vs ([])),(Value.slice none 0 0),(vs ([]))])] :: [])) (Cls u m123 ([(b14,oc 114 [vs o27.1.Kind,c118,vs o27.1.Next])] :: [])) (by kernel_rfl) ?_
   intro w hw
   replace ok:=qcD ok hw
   clear hw
   have le_m123:=Mem.le.refl m123
   refine qam (cl1 (cq le_m123 ok [0,1] rfl) (cq le_m123 ok [0] rfl)) fun hT=>qbD 0 E rfl (by kernel_rfl) nP hT (qat (cs:=[vs o27.1.Kind,c118,vs o27.1.Next]) qdA rfl rfl (qae.cown 0 rfl rfl)) rfl rfl fun a E=>kt 1 E rfl hT (qad rfl) fun a E=>kt 2 E rfl hT (qbo rfl rfl) fun a E=>kt 3 E rfl hT (qad rfl) fun a E=>?_
   replace E:=E.upd 78 hc130 rfl
   refine kt 4 E rfl hT (qat (cs:=[vs o27.1.Kind,c118,vs o27.1.Next]) qdA rfl rfl (qae.cown 0 rfl rfl)) fun a E=>qau [5] (by kernel_rfl) rfl (qax ?_)
   ·refine wo rfl<|lc E qpx rfl (qfE N _ o27.1 ⟨_,rfl,l117,h124,l121⟩ e132 hG ok) fun w ok a E=>wn<|qam (cl1 (cq le_m123 ok [0,1] rfl) (cq le_m123 ok [0] rfl)) fun hT=>kt 6 E rfl hT (qbR rfl rfl) fun a E=>kt 7 E rfl hT (qad rfl) fun a E=>?_
    replace E:=E.upd 82 hc133 rfl
    refine kt 8 E rfl hT (qat (cs:=[vs o27.1.Kind,c118,vs o27.1.Next]) qdA rfl rfl (qae.cown 0 rfl rfl)) fun a E=>kt 10 E rfl hT (qad rfl) fun a E=>qau [9] (by kernel_rfl) rfl (qax ?_)
    ·refine wo rfl<|qaz E qrO rfl (qhP N _ o27.1 ⟨_,rfl,l117,h124,l121⟩ e135 hG ok) rfl rfl ?_
     rintro _ w ⟨⟨rfl,ok⟩,l137⟩
     refine ⟨_,rfl,fun a E=>?_⟩
     refine wn<|qam (cl1 (cq le_m123 ok [0,1] rfl) (cq le_m123 ok [0] rfl)) fun hT=>kt 11 E rfl hT (qbl rfl rfl) fun a E=>kt 12 E rfl hT (qbR rfl rfl) fun a E=>qau [13] (by kernel_rfl) rfl (qax ?_)
     ·refine wo rfl<|qai E ok 1 rfl rfl rfl qgD rfl rfl ⟨rfl,(qa0 h124),rfl,trivial⟩ rfl rfl fun w ok=>wn<|qam (cl2 (by kernel_rfl) (cq le_m123 ok [0] rfl)) fun hT=>kt 14 E rfl hT (qal rfl) fun a E=>qbd (by kernel_rfl) ?_
      exact ⟨rfl,⟨c118,ok,E.keep [2,3],l117,h124,l121⟩⟩
 rintro ⟨at_35,x_36⟩ a w r ⟨m37,c40,M41,hle,ok,E,r38,l39,h42,l43⟩ hF
 replace hF:qeE N s_0 at_35 x_36 = some r:=hF
 unfold qeE at hF
 have le_m0:=le_m0.trans hle
 refine wp_seq<|sg<|mv E rfl fun a E=>lw E (qbo rfl rfl) fun a E=>mv E rfl fun a E=>qap (decide (at_35 ≥ 0)) (fun hc44=>?_) (fun hc44=>?_)
 rotate_left
 ·replace hF:=qaj hc44 hF
  replace E:=E.upd 26 hc44 rfl
  refine ls E fun a E=>ls E fun a E=>ls E fun a E=>ls E fun a E=>pf E rfl rfl fun a E=>wn<|c_if E rfl (fun h=>by cases h) (fun _=>?_)
  refine wp_exit<|qaB ?_
  obtain rfl:=sj hF
  exact so (sl ⟨rfl,⟨m37,c40,M41,le_m0,ok,E.keep [0,2,4,5],l39,h42,l43,r38⟩⟩)
 replace hF:=qak hc44 hF
 replace E:=E.upd 26 hc44 rfl
 refine mv E rfl fun a E=>mv E rfl fun a E=>lw E (qaV Tryz.underlying9 rfl) fun a E=>lw E (qaA rfl rfl) fun a E=>pt E rfl rfl fun a E=>wn<|cf E rfl hF (fun hc45 hF=>?_) fun hc45 hF=>?_
 rotate_left
 ·refine wp_exit<|qaB ?_
  obtain rfl:=sj hF
  exact so (sl ⟨rfl,⟨m37,c40,M41,le_m0,ok,E.keep [0,2,4,5],l39,h42,l43,r38⟩⟩)
 refine wp_skip<|qaa<|wp_block<|wp_seq<|sg<|fv E qcw rfl fun a E=>ld E ok qdW 1 rfl rfl rfl fun a E=>?_
 refine lv E ok (qoi qcx h42 rfl) fun a E=>lw E (qb9 rfl rfl) fun a E=>mv E rfl fun a E=>qap (decide ((x_36.Items.length:Int) > 0)) (fun hc46=>?_) (fun hc46=>?_)
 rotate_left
 ·replace hF:=qaj hc46 hF
  replace E:=E.upd 36 hc46 rfl
  refine ls E fun a E=>ls E fun a E=>ls E fun a E=>ls E fun a E=>ls E fun a E=>pf E rfl rfl fun a E=>mv E rfl fun a E=>ls E fun a E=>?_
  refine ls E fun a E=>ls E fun a E=>ls E fun a E=>ls E fun a E=>ls E fun a E=>pf E rfl rfl fun a E=>wn ?_
  refine c_if E rfl (fun h=>by cases h) (fun _=>?_)
  refine wp_skip<|qaa<|sg<|mv E rfl fun a E=>mv E rfl fun a E=>lw E (qaG rfl rfl (InR.inc r38 (InR.len ls_0) hc45)) fun a E=>?_
  obtain ⟨r96,e97,hF⟩:=bnd hF
  refine qaz E qpr rfl (qe7 N s_0 ls_0 (at_35 + 1) (InR.inc r38 (InR.len ls_0) hc45) e97 hG ok) rfl rfl ?_
  rintro _ w ⟨m98,vs99,rfl,hle,ok,h100,r101⟩
  have le_m0:=le_m0.trans hle
  have h42:=ORow.up qds hle h42
  obtain ⟨c103,rfl,l102,h104,r105,r106⟩:=h100
  refine ⟨_,rfl,fun a E=>?_⟩
  refine mv E rfl fun a E=>lw E (qaw rfl rfl) fun a E=>lw E (qaw rfl rfl) fun a E=>qaC E ok qbE rfl rfl fun b107 a w E ok=>qai E ok 0 rfl rfl rfl qbA rfl rfl ⟨rfl,(qa0 h104),rfl,rfl,rfl,trivial⟩ rfl rfl fun w ok=>aw E rfl fun a E=>?_
  refine qab<|fv E qcw rfl fun a E=>ld E ok qdW 2 rfl rfl rfl fun a E=>lv E ok (qat (cs:=[vs r96.1.Text,c103,vb r96.1.Not,vi r96.1.Least,vi r96.1.Most]) qbh rfl rfl (qae.own 0 rfl rfl)) fun a E=>qaT (R:=qbO) (xo:=[.tmp 70]) (xs:=([r96.1]:List (Item))) E ok qcx qbE rfl ⟨⟨_,rfl,rfl,⟨_,rfl,l102,h104,r105,r106⟩⟩,trivial⟩ rfl rfl rfl rfl fun c108 M109 a w E ok h110=>?_
  obtain ⟨l111,e112,hF⟩:=bnd hF
  refine qa3 (R:=qbO) E ok 2 qds qcx Tryz.underlying112 rfl h42 (qaJ.ofRow h110 0 rfl ok) e112 ⟨_,qbE,rfl⟩ rfl rfl rfl rfl fun c113 M114 a w E ok h115=>mv E rfl fun a E=>fv E qcw rfl fun a E=>qai E ok 3 rfl rfl rfl qmz (ORow.cells h115) rfl ⟨(ORow.one h115),trivial⟩ rfl rfl fun w ok=>av E rfl fun a E=>wpList_nil<|qaq ?_
  obtain rfl:=sj hF
  exact qay ⟨m98,c113,M114,le_m0,(ok.pk 5 [2,3,4] rfl (by decide)),E.keep [0,2,4,5],r101,l39,h115,l43⟩
 replace hF:=qak hc46 hF
 replace E:=E.upd 36 hc46 rfl
 refine mv E rfl fun a E=>lw E (qaF rfl rfl) fun a E=>mv E rfl fun a E=>lw E (qaV Tryz.underlying9 rfl) fun a E=>lw E (qcj rfl rfl) fun a E=>pt E rfl rfl fun a E=>mv E rfl fun a E=>qap (decide ((IntKind.wrap .i64 (at_35 + 4)) ≤ (s_0.length:Int))) (fun hc47=>?_) (fun hc47=>?_)
 rotate_left
 ·replace hF:=qaj hc47 hF
  replace E:=E.upd 43 hc47 rfl
  refine ls E fun a E=>ls E fun a E=>ls E fun a E=>ls E fun a E=>ls E fun a E=>ls E fun a E=>pf E rfl rfl fun a E=>wpList_nil ?_
  refine qaa<|c_if E rfl (fun h=>by cases h) (fun _=>?_)
  refine wp_skip<|qaa<|sg<|mv E rfl fun a E=>mv E rfl fun a E=>lw E (qaG rfl rfl (InR.inc r38 (InR.len ls_0) hc45)) fun a E=>?_
  obtain ⟨r76,e77,hF⟩:=bnd hF
  refine qaz E qpr rfl (qe7 N s_0 ls_0 (at_35 + 1) (InR.inc r38 (InR.len ls_0) hc45) e77 hG ok) rfl rfl ?_
  rintro _ w ⟨m78,vs79,rfl,hle,ok,h80,r81⟩
  have le_m0:=le_m0.trans hle
  have h42:=ORow.up qds hle h42
  obtain ⟨c83,rfl,l82,h84,r85,r86⟩:=h80
  refine ⟨_,rfl,fun a E=>?_⟩
  refine mv E rfl fun a E=>lw E (qaw rfl rfl) fun a E=>lw E (qaw rfl rfl) fun a E=>qaC E ok qbE rfl rfl fun b87 a w E ok=>qai E ok 0 rfl rfl rfl qbA rfl rfl ⟨rfl,(qa0 h84),rfl,rfl,rfl,trivial⟩ rfl rfl fun w ok=>aw E rfl fun a E=>?_
  refine qab<|fv E qcw rfl fun a E=>ld E ok qdW 2 rfl rfl rfl fun a E=>lv E ok (qat (cs:=[vs r76.1.Text,c83,vb r76.1.Not,vi r76.1.Least,vi r76.1.Most]) qbh rfl rfl (qae.own 0 rfl rfl)) fun a E=>qaT (R:=qbO) (xo:=[.tmp 70]) (xs:=([r76.1]:List (Item))) E ok qcx qbE rfl ⟨⟨_,rfl,rfl,⟨_,rfl,l82,h84,r85,r86⟩⟩,trivial⟩ rfl rfl rfl rfl fun c88 M89 a w E ok h90=>?_
  obtain ⟨l91,e92,hF⟩:=bnd hF
  refine qa3 (R:=qbO) E ok 2 qds qcx Tryz.underlying112 rfl h42 (qaJ.ofRow h90 0 rfl ok) e92 ⟨_,qbE,rfl⟩ rfl rfl rfl rfl fun c93 M94 a w E ok h95=>mv E rfl fun a E=>fv E qcw rfl fun a E=>qai E ok 3 rfl rfl rfl qmz (ORow.cells h95) rfl ⟨(ORow.one h95),trivial⟩ rfl rfl fun w ok=>av E rfl fun a E=>wpList_nil<|qaq ?_
  obtain rfl:=sj hF
  exact qay ⟨m78,c93,M94,le_m0,(ok.pk 5 [2,3,4] rfl (by decide)),E.keep [0,2,4,5],r81,l39,h95,l43⟩
 replace hF:=qak hc47 hF
 replace E:=E.upd 43 hc47 rfl
 refine mv E rfl fun a E=>mv E rfl fun a E=>mv E rfl fun a E=>lw E (qaF rfl rfl) fun a E=>?_
 obtain ⟨s48,e49,hF⟩:=bnd hF
 refine lw E (qa7 Tryz.underlying9 e49 rfl ⟨_,rfl⟩ ⟨_,rfl⟩) fun a E=>lw E (qbl rfl rfl) fun a E=>pt E rfl rfl fun a E=>wn<|cf E rfl hF (fun hc50 hF=>?_) fun hc50 hF=>?_
 rotate_left
 ·refine wp_skip<|qaa<|sg<|mv E rfl fun a E=>mv E rfl fun a E=>lw E (qaG rfl rfl (InR.inc r38 (InR.len ls_0) hc45)) fun a E=>?_
  obtain ⟨r56,e57,hF⟩:=bnd hF
  refine qaz E qpr rfl (qe7 N s_0 ls_0 (at_35 + 1) (InR.inc r38 (InR.len ls_0) hc45) e57 hG ok) rfl rfl ?_
  rintro _ w ⟨m58,vs59,rfl,hle,ok,h60,r61⟩
  have le_m0:=le_m0.trans hle
  have h42:=ORow.up qds hle h42
  obtain ⟨c63,rfl,l62,h64,r65,r66⟩:=h60
  refine ⟨_,rfl,fun a E=>?_⟩
  refine mv E rfl fun a E=>lw E (qaw rfl rfl) fun a E=>lw E (qaw rfl rfl) fun a E=>qaC E ok qbE rfl rfl fun b67 a w E ok=>qai E ok 0 rfl rfl rfl qbA rfl rfl ⟨rfl,(qa0 h64),rfl,rfl,rfl,trivial⟩ rfl rfl fun w ok=>aw E rfl fun a E=>?_
  refine qab<|fv E qcw rfl fun a E=>ld E ok qdW 2 rfl rfl rfl fun a E=>lv E ok (qat (cs:=[vs r56.1.Text,c63,vb r56.1.Not,vi r56.1.Least,vi r56.1.Most]) qbh rfl rfl (qae.own 0 rfl rfl)) fun a E=>qaT (R:=qbO) (xo:=[.tmp 70]) (xs:=([r56.1]:List (Item))) E ok qcx qbE rfl ⟨⟨_,rfl,rfl,⟨_,rfl,l62,h64,r65,r66⟩⟩,trivial⟩ rfl rfl rfl rfl fun c68 M69 a w E ok h70=>?_
  obtain ⟨l71,e72,hF⟩:=bnd hF
  refine qa3 (R:=qbO) E ok 2 qds qcx Tryz.underlying112 rfl h42 (qaJ.ofRow h70 0 rfl ok) e72 ⟨_,qbE,rfl⟩ rfl rfl rfl rfl fun c73 M74 a w E ok h75=>mv E rfl fun a E=>fv E qcw rfl fun a E=>qai E ok 3 rfl rfl rfl qmz (ORow.cells h75) rfl ⟨(ORow.one h75),trivial⟩ rfl rfl fun w ok=>av E rfl fun a E=>wpList_nil<|qaq ?_
  obtain rfl:=sj hF
  exact qay ⟨m58,c73,M74,le_m0,(ok.pk 5 [2,3,4] rfl (by decide)),E.keep [0,2,4,5],r61,l39,h75,l43⟩
 refine sg<|mv E rfl fun a E=>mv E rfl fun a E=>lw E (qaF rfl rfl) fun a E=>?_
 obtain ⟨s51,e52,hF⟩:=bnd hF
 refine lw E (qa7 Tryz.underlying9 e52 rfl ⟨_,rfl⟩ rfl) fun a E=>fv E qgf rfl fun a E=>qai E ok 1 rfl rfl rfl qf7 rfl rfl ⟨rfl,trivial⟩ rfl rfl fun w ok=>wn<|wp_seq<|sg ?_
 refine fv E qgf rfl fun a E=>ld E ok qav 1 rfl rfl rfl fun a E=>?_
 obtain ⟨r53,e54,hF⟩:=bnd hF
 refine lc E qnk rfl (qeU N s51 (Nat.le_trans (qb6 e52) ls_0) e54 hG ok) fun w ok a E=>lw E (qbQ rfl) fun a E=>wn<|cf E rfl hF (fun hc55 hF=>?_) fun hc55 hF=>?_
 rotate_left
 ·refine wp_skip<|qaa<|wp_exit<|qaB<|qko rfl ?_
  obtain rfl:=sj hF
  exact so (sl ⟨rfl,⟨m37,c40,M41,le_m0,ok,E.keep [0,2,4,5],l39,h42,(Nat.le_trans (qb6 e52) ls_0),r38⟩⟩)
 refine sg<|lw E (qaK (ps:=[]) (qs:=[]) (cs:=[(vs ([])),(Value.slice none 0 0),(vs ([]))]) qdu qlG rfl trivial rfl) fun a E=>qai E ok 2 rfl rfl rfl qgD rfl rfl ⟨rfl,rfl,rfl,trivial⟩ rfl rfl fun w ok=>aw E rfl fun a E=>wp_ret ?_
 refine qag<|qag<|qan ?_
 obtain rfl:=sj hF
 exact so (sr ⟨rfl,⟨m37,[(vs ([])),(Value.slice none 0 0),(vs ([]))],le_m0,ok.drop.drop.drop,E.d,⟨rv_c (cs:=[(vs ([])),(Value.slice none 0 0),(vs ([]))]) E ok rfl qdA rfl (qae.own 2 rfl rfl),rv_t E rfl,trivial⟩,⟨_,rfl,(Nat.zero_le _),qbF,(Nat.zero_le _)⟩⟩⟩)
end Go.Proofs.YtllfckekodcdaaaGreatDoor
