/- Texts of this proof, put together by pack.py: what its declarations name. -/
import Derived.Test.YtllfckekodcdaaaGreatDoorPkKp3
import Derived.Test.YtllfckekodcdaaaGreatDoorCards
import Derived.Test.YtllfckekodcdaaaGreatDoorChecked
import Derived.Test.YtllfckekodcdaaaGreatDoorProg
import Derived.Test.YtllfckekodcdaaaGreatDoorRows
import Derived.Test.YtllfckekodcdaaaGreatDoorTie
set_option linter.unusedVariables false
set_option linter.unusedSimpArgs false
namespace Go.Proofs.YtllfckekodcdaaaGreatDoor
open Go.X
variable {u:World} {m0:Mem} {S:Segs} {w:World}
set_option maxHeartbeats 4000000
set_option maxRecDepth 100000
def qc0:Rp Field:=fun _ cs x=>cs = [.string (bs x.Name),.string (bs x.Value)] ∧ x.Name.length ≤ LIMS ∧ x.Value.length ≤ LIMS
theorem qcA:Mono qc0:=⟨fun _ h=>by
 obtain ⟨e,h0,h1⟩:=h
 exact ⟨e,h0,h1⟩,fun h=>by
 obtain ⟨rfl,h0,h1⟩:=h
 exact ⟨rfl,rfl,trivial⟩⟩
def qc7:Rp Entry:=fun m cs x=>∃ c3 c4 c6,cs = [.string (bs x.ID),.string (bs x.Source),.string (bs x.Target),c3,c4,.int .i64 x.State,c6] ∧ x.ID.length ≤ LIMS ∧ x.Source.length ≤ LIMS ∧ x.Target.length ≤ LIMS ∧ (pL 1 pS) m [c3] x.Comments ∧ (pL 1 pS) m [c4] x.Flags ∧ InR .i64 x.State ∧ (pL 2 qc0) m [c6] x.Fields
theorem qbr:Mono qc7:=⟨fun hm h=>by
 obtain ⟨c3,c4,c6,e,h0,h1,h2,h3,h4,h5,h6⟩:=h
 exact ⟨c3,c4,c6,e,h0,h1,h2,(mL mS).up hm h3,(mL mS).up hm h4,h5,(mL qcA).up hm h6⟩,fun h=>by
 obtain ⟨c3,c4,c6,rfl,h0,h1,h2,h3,h4,h5,h6⟩:=h
 exact ⟨rfl,rfl,rfl,((mL mS).one h3).1,((mL mS).one h4).1,rfl,((mL qcA).one h6).1,trivial⟩⟩
theorem qdl:aggB Tryz.prog 114 3 = true:=by kernel_rfl
theorem qaW:aggB Tryz.prog 138 5 = true:=by kernel_rfl
theorem qsy:aggB Tryz.prog 157 2 = true:=by kernel_rfl
theorem qgv:aggB Tryz.prog 53 7 = true:=by kernel_rfl
theorem qqm:aggB Tryz.prog 58 2 = true:=by kernel_rfl
theorem qtv:aggB Tryz.prog 62 2 = true:=by kernel_rfl
theorem qtg:aggB Tryz.prog 66 3 = true:=by kernel_rfl
theorem qtb:qjg Tryz.prog 111 40 = true:=by kernel_rfl
theorem qtm:qjg Tryz.prog 118 56 = true:=by kernel_rfl
theorem qsQ:qjg Tryz.prog 154 64 = true:=by kernel_rfl
theorem qts:qjg Tryz.prog 156 2 = true:=by kernel_rfl
theorem qsZ:Tryz.prog.eqGuardType Tryz.prog.depth 58 = false:=by kernel_rfl
theorem qhp:qay Tryz.prog 108 0 0 = true:=by kernel_rfl
theorem qcB:qay Tryz.prog 108 1 1 = true:=by kernel_rfl
theorem qjw:qay Tryz.prog 114 0 0 = true:=by kernel_rfl
theorem qcl:qay Tryz.prog 114 1 1 = true:=by kernel_rfl
theorem qfR:qay Tryz.prog 114 2 2 = true:=by kernel_rfl
theorem qe8:qay Tryz.prog 138 0 0 = true:=by kernel_rfl
theorem qbd:qay Tryz.prog 138 1 1 = true:=by kernel_rfl
theorem qig:qay Tryz.prog 138 2 2 = true:=by kernel_rfl
theorem qdO:qay Tryz.prog 138 3 3 = true:=by kernel_rfl
theorem qdP:qay Tryz.prog 138 4 4 = true:=by kernel_rfl
theorem qjB:qay Tryz.prog 157 0 0 = true:=by kernel_rfl
theorem qjH:qay Tryz.prog 157 1 1 = true:=by kernel_rfl
theorem qgg:qay Tryz.prog 53 0 0 = true:=by kernel_rfl
theorem qmz:qay Tryz.prog 53 1 1 = true:=by kernel_rfl
theorem qoX:qay Tryz.prog 53 2 2 = true:=by kernel_rfl
theorem qd3:qay Tryz.prog 53 3 3 = true:=by kernel_rfl
theorem qov:qay Tryz.prog 53 4 4 = true:=by kernel_rfl
theorem qoP:qay Tryz.prog 53 5 5 = true:=by kernel_rfl
theorem qbD:qay Tryz.prog 53 6 6 = true:=by kernel_rfl
theorem qsx:qay Tryz.prog 62 0 0 = true:=by kernel_rfl
theorem qsB:qay Tryz.prog 62 1 1 = true:=by kernel_rfl
theorem qsI:qay Tryz.prog 66 0 0 = true:=by kernel_rfl
theorem qkh:goB Tryz.prog 109 = true:=by kernel_rfl
theorem qoe:goB Tryz.prog 110 = true:=by kernel_rfl
theorem qlQ:goB Tryz.prog 131 = true:=by kernel_rfl
theorem qrx:goB Tryz.prog 19 = true:=by kernel_rfl
theorem qrz:goB Tryz.prog 20 = true:=by kernel_rfl
theorem qt9:goB Tryz.prog 37 = true:=by kernel_rfl
theorem qus:goB Tryz.prog 38 = true:=by kernel_rfl
theorem qtQ:goB Tryz.prog 41 = true:=by kernel_rfl
theorem qm8:goB Tryz.prog 42 = true:=by kernel_rfl
theorem qrp:goB Tryz.prog 60 = true:=by kernel_rfl
theorem qpb:goB Tryz.prog 61 = true:=by kernel_rfl
theorem qt4:goB Tryz.prog 62 = true:=by kernel_rfl
theorem qpy:goB Tryz.prog 68 = true:=by kernel_rfl
theorem qrJ:goB Tryz.prog 69 = true:=by kernel_rfl
theorem qt6:goB Tryz.prog 85 = true:=by kernel_rfl
theorem qt0:goB Tryz.prog 88 = true:=by kernel_rfl
theorem qrI:goB Tryz.prog 89 = true:=by kernel_rfl
theorem que:goB Tryz.prog 90 = true:=by kernel_rfl
theorem qme:∃ i,Tryz.prog.info? 106 = some i ∧ i.size = 1:=⟨_,rfl,by kernel_rfl⟩
theorem qrP:∃ i,Tryz.prog.info? 109 = some i ∧ i.size = 1:=⟨_,rfl,by kernel_rfl⟩
theorem qmb:∃ i,Tryz.prog.info? 112 = some i ∧ i.size = 1:=⟨_,rfl,by kernel_rfl⟩
theorem qgh:∃ i,Tryz.prog.info? 114 = some i ∧ i.size = 3:=⟨_,rfl,by kernel_rfl⟩
theorem qh8:∃ i,Tryz.prog.info? 136 = some i ∧ i.size = 1:=⟨_,rfl,by kernel_rfl⟩
theorem qbg:∃ i,Tryz.prog.info? 138 = some i ∧ i.size = 5:=⟨_,rfl,by kernel_rfl⟩
theorem qsa:∃ i,Tryz.prog.info? 152 = some i ∧ i.size = 1:=⟨_,rfl,by kernel_rfl⟩
theorem qir:∃ i,Tryz.prog.info? 53 = some i ∧ i.size = 7:=⟨_,rfl,by kernel_rfl⟩
theorem qfI:∃ i,Tryz.prog.info? 9 = some i ∧ i.size = 1:=⟨_,rfl,by kernel_rfl⟩
theorem qd2:oneB Tryz.prog 106 = true:=by kernel_rfl
theorem qdG:oneB Tryz.prog 112 = true:=by kernel_rfl
theorem qbN:oneB Tryz.prog 136 = true:=by kernel_rfl
theorem qfr:oneB Tryz.prog 50 = true:=by kernel_rfl
theorem qb3:oneB Tryz.prog 51 = true:=by kernel_rfl
theorem qpn:qcZ Tryz.prog 108 = some [(0,1),(1,1)]:=by kernel_rfl
theorem qpE:qcZ Tryz.prog 111 = some [(0,1),(1,1)]:=by kernel_rfl
theorem qlH:qcZ Tryz.prog 114 = some [(0,1),(1,1),(2,1)]:=by kernel_rfl
theorem qpl:qcZ Tryz.prog 118 = some [(0,1),(1,1),(2,1)]:=by kernel_rfl
theorem qcx:qcZ Tryz.prog 138 = some [(0,1),(1,1),(2,1),(3,1),(4,1)]:=by kernel_rfl
theorem qo6:qcZ Tryz.prog 154 = some [(0,1),(1,1),(2,1),(3,1),(4,1)]:=by kernel_rfl
theorem qge:qcZ Tryz.prog 157 = some [(0,1),(1,1)]:=by kernel_rfl
theorem qj9:qcZ Tryz.prog 53 = some [(0,1),(1,1),(2,1),(3,1),(4,1),(5,1),(6,1)]:=by kernel_rfl
theorem qdR:SlT Tryz.prog 106 114 3:=SlT.of (by kernel_rfl)
theorem qcq:SlT Tryz.prog 112 138 5:=SlT.of (by kernel_rfl)
theorem qbC:SlT Tryz.prog 136 157 2:=SlT.of (by kernel_rfl)
theorem ql1:SlT Tryz.prog 22 66 3:=SlT.of (by kernel_rfl)
theorem qbv:SlT Tryz.prog 39 108 2:=SlT.of (by kernel_rfl)
theorem qh6:SlT Tryz.prog 42 62 2:=SlT.of (by kernel_rfl)
theorem qb0:SlT Tryz.prog 44 53 7:=SlT.of (by kernel_rfl)
theorem qbG:SlT Tryz.prog 51 58 2:=SlT.of (by kernel_rfl)
theorem qqR:Tryz.prog.stoodInHeld 58 = false:=by kernel_rfl
theorem qlp:qbj Tryz.prog 108 = some [(vs ([])),(Value.slice none 0 0)]:=by kernel_rfl
theorem qdc:qbj Tryz.prog 114 = some [(vs ([])),(Value.slice none 0 0),(vs ([]))]:=by kernel_rfl
theorem qbk:qbj Tryz.prog 138 = some [(vs ([])),(Value.slice none 0 0),vb false,vi 0,vi 0]:=by kernel_rfl
theorem qce:qbj Tryz.prog 157 = some [(Value.int .u8 0),(Value.int .u8 0)]:=by kernel_rfl
theorem qeU:qbj Tryz.prog 53 = some [(vs ([])),(vs ([])),(vs ([])),(Value.slice none 0 0),(Value.slice none 0 0),vi 0,(Value.slice none 0 0)]:=by kernel_rfl
def qcv:Ro (State):=fun m cs x M=>∃ c1,cs = [.string (bs x.Name),c1] ∧ x.Name.length ≤ LIMS ∧ ORow 114 3 qdh m c1 x.Rules M
theorem qm7:MonoO qcv:=⟨fun hm h=>by
 obtain ⟨c1,e,h0,h1⟩:=h
 exact ⟨c1,e,h0,h1.up qdj hm⟩⟩
theorem qjM:FrozO qcv qbP:=⟨fun h hle hf=>by
 obtain ⟨c1,e,h0,h1⟩:=h
 exact ⟨c1,e,h0,h1.froz qdj hle hf (by decide)⟩⟩
def qgq (u:World) (m0:Mem) (S:Segs) (r:Bool) (a:Act) (w:World):Prop :=
 Ok u m0 S w ∧ a.defers = [] ∧ RVs Tryz.prog a w [.t 4 (.bool r)]
theorem qk4 (N:Nat) (vcalls_0:Value) (calls_0:List (Call)) (hcalls_0:(pL 3 qdI) m0 [vcalls_0] calls_0) (vfiles_1:Value) (files_1:List (File)) (hfiles_1:(pL 2 qeG) m0 [vfiles_1] files_1) {r:Bool} (hF:qeE N calls_0 files_1 = some r) (hG:Glob u) (ok:Ok u m0 S w) :
  Calls Tryz.prog 9 [vcalls_0,vfiles_1].toArray w fun e w'=>(e = .returned (.bool r) ∧ Ok u m0 S w'):=by
 unfold qeE at hF
 refine en (qgq u m0 S) r Tryz.func9 rfl rfl rfl (fun _ _ h=>ra h rfl) fun fin a E=>sg<|aw E rfl fun a E=>wp_seq<|sg<|aw E rfl fun a E=>wp_block<|bd hF fun o2 hL hF=>qaC _ (fun (s:Int) a w=>Ok u m0 (S) w ∧ Env 50 a [(0,vcalls_0),(1,vfiles_1),(5,vi s)] ∧ InR .i64 s) (fun (b:(Unit ⊕ Bool)) e a w=>(Sum.elim (fun b53=>e = (.exit 0) ∧ Ok u m0 (S) w ∧ Env 50 a [(0,vcalls_0),(1,vfiles_1)]) (fun b54=>e = .ret ∧ qgq u m0 S b54 a w)) b) ?_ ?_ N _ a w hL ⟨ok,E.keep [0,1,5],(ir 0)⟩
 ·as_aux_lemma =>
   rintro v4 a w r ⟨ok,E,r5⟩ hF
   replace hF:qcS N files_1 v4 = some r:=hF
   unfold qcS at hF
   refine wp_seq<|sg<|mz E rfl rfl fun a E=>lv E ok (qao qh6 hfiles_1 rfl) fun a E=>lw E (qat rfl rfl) fun a E=>wn<|cg E rfl hF (fun c6 hF=>?_) fun c6 hF=>?_
   ·refine wp_exit<|qau ?_
    cases hF
    exact so (sl ⟨rfl,⟨ok,E.keep [0,1]⟩⟩)
   refine wp_skip<|qaa<|wp_seq<|wp_block<|sg<|mz E rfl rfl fun a E=>?_
   obtain ⟨x7,e8,hF⟩:=bnd hF
   obtain ⟨b9,o10,es11,hl12,rr13,at14,yy15⟩:=ia E 13 14 qh6 hfiles_1 e8
   obtain ⟨rfl,l16,l17⟩:=rr13
   refine lv E ok (yy15 _ _) fun a E=>fv E qsB rfl fun a E=>lv E ok (qai qam rfl (qac.ro (At.sub 1 1 at14))) fun a E=>lw E (qaJ Tryz.underlying9 rfl) fun a E=>lw E (qca rfl rfl) fun a E=>mv E rfl fun a E=>bu E 20 hF (fun c18 hF E=>?_) fun c18 hF E=>?_
   ·refine lsz E fun a E=>lsq E fun a E=>ls E fun a E=>pt E rfl rfl fun a E=>wn<|c_if E rfl (fun _=>?_) (fun h=>by cases h)
    refine sg<|aw E rfl fun a E=>wp_ret<|qah<|qae ?_
    cases hF
    exact so (sr ⟨rfl,⟨ok,E.d,rz E rfl⟩⟩)
   refine mz E rfl rfl fun a E=>?_
   obtain ⟨x19,e20,hF⟩:=bnd hF
   obtain ⟨b21,o22,es23,hl24,rr25,at26,yy27⟩:=ia E 21 22 qh6 hfiles_1 e20
   obtain ⟨rfl,l28,l29⟩:=rr25
   refine lv E ok (yy27 _ _) fun a E=>fv E qsx rfl fun a E=>lv E ok (qai qam rfl (qac.ro (At.sub 0 1 at26))) fun a E=>lw E (qaJ Tryz.underlying9 rfl) fun a E=>lw E (qca rfl rfl) fun a E=>pf E rfl rfl fun a E=>wn<|cg E rfl hF (fun c30 hF=>?_) fun c30 hF=>?_
   ·refine wp_skip<|qaj<|qaa<|qad<|mv E rfl fun a E=>lw E (qav rfl rfl (InR.inc r5 (qak hfiles_1) c6)) fun a E=>av E rfl fun a E=>wpList_nil ?_
    cases hF
    exact qaq ⟨ok,E.keep [0,1,5],(InR.inc r5 (qak hfiles_1) c6)⟩
   refine sg<|aw E rfl fun a E=>wp_ret<|qah<|qae ?_
   cases hF
   exact so (sr ⟨rfl,⟨ok,E.d,rz E rfl⟩⟩)
 intro e a w _ hO
 rcases o2 with o2 | o2
 rotate_left
 ·obtain ⟨rfl,hret⟩:=hO
  refine qah<|qae ?_
  exact fin hF hret
 have hF:=qa1 hF
 obtain ⟨rfl,ok,E⟩:=hO
 refine qaE<|qaa<|wp_seq<|sg<|aw E rfl fun a E=>wp_block<|bd hF fun o32 hL hF=>qaC _ (fun (s:Int) a w=>Ok u m0 (S) w ∧ Env 50 a [(0,vcalls_0),(1,vfiles_1),(6,vi s)] ∧ InR .i64 s) (fun (b:(Unit ⊕ Bool)) e a w=>(Sum.elim (fun b51=>e = (.exit 2) ∧ Ok u m0 (S) w ∧ Env 50 a [(0,vcalls_0),(1,vfiles_1)]) (fun b52=>e = .ret ∧ qgq u m0 S b52 a w)) b) ?_ ?_ N _ a w hL ⟨ok,E.keep [0,1,6],(ir 0)⟩
 rotate_left
 ·intro e a w _ hO
  rcases o32 with o32 | o32
  rotate_left
  ·obtain ⟨rfl,hret⟩:=hO
   refine qah<|qae ?_
   exact fin hF hret
  have hF:=qa1 hF
  obtain ⟨rfl,ok,E⟩:=hO
  refine qaE<|qaa<|sg<|mv E rfl fun a E=>lv E ok (qao ql1 hcalls_0 rfl) fun a E=>lw E (qch rfl rfl) fun a E=>mv E rfl fun a E=>bu E 45 hF (fun c50 hF E=>?_) fun c50 hF E=>?_
  ·refine mv E rfl fun a E=>lv E ok (qao qh6 hfiles_1 rfl) fun a E=>lw E (qch rfl rfl) fun a E=>pt E rfl rfl fun a E=>aw E rfl fun a E=>wp_ret ?_
   exact fin hF ⟨ok,E.d,rz E rfl⟩
  refine lsq E fun a E=>ls E fun a E=>pf E rfl rfl fun a E=>aw E rfl fun a E=>wp_ret ?_
  exact fin hF ⟨ok,E.d,rz E rfl⟩
 rintro v34 a w r ⟨ok,E,r35⟩ hF
 replace hF:qcY N calls_0 v34 = some r:=hF
 unfold qcY at hF
 refine wp_seq<|sg<|mz E rfl rfl fun a E=>lv E ok (qao ql1 hcalls_0 rfl) fun a E=>lw E (qat rfl rfl) fun a E=>wn<|cg E rfl hF (fun c36 hF=>?_) fun c36 hF=>?_
 ·refine wp_exit<|qau ?_
  cases hF
  exact so (sl ⟨rfl,⟨ok,E.keep [0,1]⟩⟩)
 refine wp_skip<|qaa<|wp_seq<|wp_block<|sg<|mz E rfl rfl fun a E=>?_
 obtain ⟨x37,e38,hF⟩:=bnd hF
 obtain ⟨b39,o40,es41,hl42,rr43,at44,yy45⟩:=ia E 35 36 ql1 hcalls_0 e38
 obtain ⟨rfl,l46,r47,r48⟩:=rr43
 refine lv E ok (yy45 _ _) fun a E=>fv E qsI rfl fun a E=>lv E ok (qai qam rfl (qac.ro (At.sub 0 1 at44))) fun a E=>lw E (qaJ Tryz.underlying9 rfl) fun a E=>lw E (qca rfl rfl) fun a E=>wn<|cg E rfl hF (fun c49 hF=>?_) fun c49 hF=>?_
 ·refine wp_skip<|qaj<|qaa<|qad<|mv E rfl fun a E=>lw E (qav rfl rfl (InR.inc r35 (qak hcalls_0) c36)) fun a E=>av E rfl fun a E=>wpList_nil ?_
  cases hF
  exact qaq ⟨ok,E.keep [0,1,6],(InR.inc r35 (qak hcalls_0) c36)⟩
 refine sg<|aw E rfl fun a E=>wp_ret<|qah<|qae ?_
 cases hF
 exact so (sr ⟨rfl,⟨ok,E.d,rz E rfl⟩⟩)
def qhO (u:World) (m0:Mem) (S:Segs) (r:Bool) (a:Act) (w:World):Prop :=
 Ok u m0 S w ∧ a.defers = [] ∧ RVs Tryz.prog a w [.t 2 (.bool r)]
theorem qeu (N:Nat) (s_0:List UInt8) (ls_0:s_0.length ≤ LIMS) {r:Bool} (hF:qdu N s_0 = some r) (hG:Glob u) (ok:Ok u m0 S w) :
  Calls Tryz.prog 42 [vs s_0].toArray w fun e w'=>(e = .returned (.bool r) ∧ Ok u m0 S w'):=by
 unfold qdu at hF
 refine en (qhO u m0 S) r Tryz.func42 rfl rfl rfl (fun _ _ h=>ra h rfl) fun fin a E=>sg<|aw E rfl fun a E=>wp_seq<|sg<|aw E rfl fun a E=>wp_block<|bd hF fun o2 hL hF=>qaC _ (fun (s:Int) a w=>Ok u m0 (S) w ∧ Env 28 a [(0,vs s_0),(3,vi s)] ∧ InR .i64 s) (fun (b:(Unit ⊕ Bool)) e a w=>(Sum.elim (fun b14=>e = (.exit 0) ∧ Ok u m0 (S) w ∧ Env 28 a [(0,vs s_0)]) (fun b15=>e = .ret ∧ qhO u m0 S b15 a w)) b) ?_ ?_ N _ a w hL ⟨ok,E.keep [0,3],(ir 0)⟩
 rotate_left
 ·intro e a w _ hO
  rcases o2 with o2 | o2
  rotate_left
  ·obtain ⟨rfl,hret⟩:=hO
   refine qah<|qae ?_
   exact fin hF hret
  have hF:=qa1 hF
  obtain ⟨rfl,ok,E⟩:=hO
  refine qaE<|qaa<|sg<|mv E rfl fun a E=>lw E (qaJ Tryz.underlying9 rfl) fun a E=>lw E (qaZ rfl rfl) fun a E=>mv E rfl fun a E=>bu E 23 hF (fun c13 hF E=>?_) fun c13 hF E=>?_
  ·refine mv E rfl fun a E=>lw E (qaJ Tryz.underlying9 rfl) fun a E=>lw E (qch rfl rfl) fun a E=>pt E rfl rfl fun a E=>aw E rfl fun a E=>wp_ret ?_
   exact fin hF ⟨ok,E.d,rz E rfl⟩
  refine lsq E fun a E=>ls E fun a E=>pf E rfl rfl fun a E=>aw E rfl fun a E=>wp_ret ?_
  exact fin hF ⟨ok,E.d,rz E rfl⟩
 rintro v4 a w r ⟨ok,E,r5⟩ hF
 replace hF:qfC N s_0 v4 = some r:=hF
 unfold qfC at hF
 refine wp_seq<|sg<|mz E rfl rfl fun a E=>lw E (qaJ Tryz.underlying9 rfl) fun a E=>lw E (qat rfl rfl) fun a E=>wn<|cg E rfl hF (fun c6 hF=>?_) fun c6 hF=>?_
 ·refine wp_exit<|qau ?_
  cases hF
  exact so (sl ⟨rfl,⟨ok,E.keep [0]⟩⟩)
 refine wp_skip<|qaa<|wp_seq<|wp_block<|sg<|mz E rfl rfl fun a E=>bd hF fun c7 e8 hF=>lv E ok (qaR Tryz.underlying9 rfl rfl e8) fun a E=>lw E (qat rfl rfl) fun a E=>mv E rfl fun a E=>bu E 14 hF (fun c9 hF E=>?_) fun c9 hF E=>?_
 ·refine lsz E fun a E=>pt E rfl rfl fun a E=>wn<|c_if E rfl (fun _=>?_) (fun h=>by cases h)
  refine sg<|aw E rfl fun a E=>wp_ret<|qah<|qae ?_
  cases hF
  exact so (sr ⟨rfl,⟨ok,E.d,rz E rfl⟩⟩)
 refine mz E rfl rfl fun a E=>bd hF fun c10 e11 hF=>lv E ok (qaR Tryz.underlying9 rfl rfl e11) fun a E=>lw E (qca rfl rfl) fun a E=>pf E rfl rfl fun a E=>wn<|cg E rfl hF (fun c12 hF=>?_) fun c12 hF=>?_
 ·refine wp_skip<|qaj<|qaa<|qad<|mv E rfl fun a E=>lw E (qav rfl rfl (InR.inc r5 (InR.len ls_0) c6)) fun a E=>av E rfl fun a E=>wpList_nil ?_
  cases hF
  exact qaq ⟨ok,E.keep [0,3],(InR.inc r5 (InR.len ls_0) c6)⟩
 refine sg<|aw E rfl fun a E=>wp_ret<|qah<|qae ?_
 cases hF
 exact so (sr ⟨rfl,⟨ok,E.d,rz E rfl⟩⟩)
def qhf (u:World) (m0:Mem) (S:Segs) (r:Int) (a:Act) (w:World):Prop :=
 Ok u m0 S w ∧ a.defers = [] ∧ RVs Tryz.prog a w [.t 4 (.int .i64 r)] ∧ InR .i64 r
theorem qhd (N:Nat) (vs_0:Value) (s_0:List (State)) (hs_0:(pL 2 qbP) m0 [vs_0] s_0) (name_1:List UInt8) (lname_1:name_1.length ≤ LIMS) {r:Int} (hF:qeR N s_0 name_1 = some r) (hG:Glob u) (ok:Ok u m0 S w) :
  Calls Tryz.prog 60 [vs_0,vs name_1].toArray w fun e w'=>(e = .returned (.int .i64 r) ∧ Ok u m0 S w') ∧ InR .i64 r:=by
 unfold qeR at hF
 refine en (qhf u m0 S) r Tryz.func60 rfl rfl rfl (fun _ _ h=>rb h rfl) fun fin a E=>sg<|aw E rfl fun a E=>wp_seq<|sg<|aw E rfl fun a E=>wp_block<|bd hF fun o2 hL hF=>qaC _ (fun (s:Int) a w=>Ok u m0 (S) w ∧ Env 20 a [(0,vs_0),(1,vs name_1),(5,vi s)] ∧ InR .i64 s) (fun (b:(Unit ⊕ Int)) e a w=>(Sum.elim (fun b20=>e = (.exit 0) ∧ Ok u m0 (S) w ∧ Env 20 a []) (fun b21=>e = .ret ∧ qhf u m0 S b21 a w)) b) ?_ ?_ N _ a w hL ⟨ok,E.keep [0,1,5],(ir 0)⟩
 rotate_left
 ·intro e a w _ hO
  rcases o2 with o2 | o2
  rotate_left
  ·obtain ⟨rfl,hret⟩:=hO
   refine qah<|qae ?_
   exact fin hF hret
  have hF:=qa1 hF
  obtain ⟨rfl,ok,E⟩:=hO
  refine qaE<|qaa<|sg<|aw E rfl fun a E=>wp_ret ?_
  exact fin hF ⟨ok,E.d,rz E rfl,(ir (-1))⟩
 rintro v4 a w r ⟨ok,E,r5⟩ hF
 replace hF:qfm N s_0 name_1 v4 = some r:=hF
 unfold qfm at hF
 refine wp_seq<|sg<|mz E rfl rfl fun a E=>lv E ok (qao qbv hs_0 rfl) fun a E=>lw E (qat rfl rfl) fun a E=>wn<|cg E rfl hF (fun c6 hF=>?_) fun c6 hF=>?_
 ·refine wp_exit<|qau ?_
  cases hF
  exact so (sl ⟨rfl,⟨ok,E.keep []⟩⟩)
 refine wp_skip<|qaa<|wp_seq<|wp_block<|sg<|mz E rfl rfl fun a E=>?_
 obtain ⟨x7,e8,hF⟩:=bnd hF
 obtain ⟨b9,o10,es11,hl12,rr13,at14,yy15⟩:=ia E 12 13 qbv hs_0 e8
 obtain ⟨c17,rfl,l16,h18⟩:=rr13
 refine lv E ok (yy15 _ _) fun a E=>fv E qhp rfl fun a E=>lv E ok (qai qam rfl (qac.ro (At.sub 0 1 at14))) fun a E=>mv E rfl fun a E=>lw E (qbb rfl rfl) fun a E=>wn<|cg E rfl hF (fun c19 hF=>?_) fun c19 hF=>?_
 ·refine wp_skip<|qaj<|qaa<|qad<|mv E rfl fun a E=>lw E (qav rfl rfl (InR.inc r5 (qak hs_0) c6)) fun a E=>av E rfl fun a E=>wpList_nil ?_
  cases hF
  exact qaq ⟨ok,E.keep [0,1,5],(InR.inc r5 (qak hs_0) c6)⟩
 refine sg<|mv E rfl fun a E=>aw E rfl fun a E=>wp_ret<|qah<|qae ?_
 cases hF
 exact so (sr ⟨rfl,⟨ok,E.d,rz E rfl,r5⟩⟩)
def qfc (u:World) (m0:Mem) (S:Segs) (r:Bool) (a:Act) (w:World):Prop :=
 Ok u m0 S w ∧ a.defers = [] ∧ RVs Tryz.prog a w [.t 2 (.bool r)]
theorem qjy (N:Nat) (vx_0:List Value) (x_0:Item) (hx_0:qbu m0 vx_0 x_0) {r:Bool} (hF:qf4 N x_0 = some r) (hG:Glob u) (ok:Ok u m0 S w) :
  Calls Tryz.prog 85 [.agg vx_0.toArray].toArray w fun e w'=>(e = .returned (.bool r) ∧ Ok u m0 S w'):=by
 obtain ⟨c2,rfl,l1,h3,r4,r5⟩:=hx_0
 unfold qf4 at hF
 refine en (qfc u m0 S) r Tryz.func85 rfl rfl rfl (fun _ _ h=>ra h rfl) fun fin a E=>sg<|qdi E ok rfl rfl rfl fun b6 a w E ok=>aw E rfl fun a E=>wp_seq<|sg<|fk E ok qdO qaQ rfl 0 rfl rfl fun a E=>lw E (qat rfl rfl) fun a E=>mv E rfl fun a E=>bu E 7 hF (fun c7 hF E=>?_) fun c7 hF E=>?_
 ·refine lsq E fun a E=>ls E fun a E=>pt E rfl rfl fun a E=>mv E rfl fun a E=>lsz E fun a E=>lsz E fun a E=>pt E rfl rfl fun a E=>wn<|c_if E rfl (fun _=>?_) (fun h=>by cases h)
  refine sg<|aw E rfl fun a E=>wp_ret<|qae ?_
  exact fin hF ⟨ok.drop,E.d,rz E rfl⟩
 refine fk E ok qdO qaQ rfl 0 rfl rfl fun a E=>lw E (qca rfl rfl) fun a E=>pf E rfl rfl fun a E=>mv E rfl fun a E=>bu E 12 hF (fun c8 hF E=>?_) fun c8 hF E=>?_
 ·refine lsz E fun a E=>lsz E fun a E=>pt E rfl rfl fun a E=>wn<|c_if E rfl (fun _=>?_) (fun h=>by cases h)
  refine sg<|aw E rfl fun a E=>wp_ret<|qae ?_
  exact fin hF ⟨ok.drop,E.d,rz E rfl⟩
 refine fk E ok qdP qaQ rfl 0 rfl rfl fun a E=>lw E (qbS rfl rfl) fun a E=>mv E rfl fun a E=>bw E 16 hF (fun c9 hF E=>?_) fun c9 hF E=>?_
 ·as_aux_lemma =>
   refine lsq E fun a E=>ls E fun a E=>pf E rfl rfl fun a E=>pf E rfl rfl fun a E=>wn<|c_if E rfl (fun h=>by cases h) (fun _=>?_)
   refine wp_skip<|qaa<|wp_seq<|sg<|fk E ok qe8 qam rfl 0 rfl rfl fun a E=>lw E (qbZ rfl rfl) fun a E=>wn<|cf E rfl hF (fun c46 hF=>?_) fun c46 hF=>?_
   ·refine sg<|fk E ok qe8 qam rfl 0 rfl rfl fun a E=>lw E (qaJ Tryz.underlying9 rfl) fun a E=>lw E (qch rfl rfl) fun a E=>mv E rfl fun a E=>bw E 29 hF (fun c47 hF E=>?_) fun c47 hF E=>?_
    ·refine lsz E fun a E=>pf E rfl rfl fun a E=>mv E rfl fun a E=>lsq E fun a E=>ls E fun a E=>pf E rfl rfl fun a E=>aw E rfl fun a E=>wp_ret<|qae ?_
     exact fin hF ⟨ok.drop,E.d,rz E rfl⟩
    refine fk E ok qbd qbN rfl 0 rfl rfl fun a E=>lv E ok (qao qbC h3 rfl) fun a E=>lw E (qa3 rfl rfl) fun a E=>pt E rfl rfl fun a E=>mv E rfl fun a E=>bu E 35 hF (fun c48 hF E=>?_) fun c48 hF E=>?_
    ·refine fk E ok qig qgW rfl 0 rfl rfl fun a E=>lw E (qbl rfl) fun a E=>pt E rfl rfl fun a E=>aw E rfl fun a E=>wp_ret<|qae ?_
     exact fin hF ⟨ok.drop,E.d,rz E rfl⟩
    refine lsq E fun a E=>ls E fun a E=>pf E rfl rfl fun a E=>aw E rfl fun a E=>wp_ret<|qae ?_
    exact fin hF ⟨ok.drop,E.d,rz E rfl⟩
   refine wp_skip<|qaa<|wp_seq<|sg<|aw E rfl fun a E=>wp_block<|bd hF fun o50 hL hF=>qaC _ (fun (s:Int) a w=>Ok u m0 ([(b6,oc 138 [vs x_0.Text,c2,vb x_0.Not,vi x_0.Least,vi x_0.Most])] :: S) w ∧ Env 70 a [(1,vp b6),(3,vi s)] ∧ InR .i64 s) (fun (b:(Unit ⊕ Bool)) e a w=>(Sum.elim (fun b79=>e = (.exit 0) ∧ Ok u m0 ([(b6,oc 138 [vs x_0.Text,c2,vb x_0.Not,vi x_0.Least,vi x_0.Most])] :: S) w ∧ Env 70 a [(1,vp b6)]) (fun b80=>e = .ret ∧ qfc u m0 S b80 a w)) b) ?_ ?_ N _ a w hL ⟨ok,E.keep [1,3],(ir 0)⟩
   rotate_left
   ·intro e a w _ hO
    rcases o50 with o50 | o50
    rotate_left
    ·obtain ⟨rfl,hret⟩:=hO
     refine qah<|qae ?_
     exact fin hF hret
    have hF:=qa1 hF
    obtain ⟨rfl,ok,E⟩:=hO
    refine qaE<|qaa<|sg<|fk E ok qbd qbN rfl 0 rfl rfl fun a E=>lv E ok (qao qbC h3 rfl) fun a E=>lw E (qaZ rfl rfl) fun a E=>mv E rfl fun a E=>bu E 64 hF (fun c78 hF E=>?_) fun c78 hF E=>?_
    ·refine fk E ok qbd qbN rfl 0 rfl rfl fun a E=>lv E ok (qao qbC h3 rfl) fun a E=>lw E (qch rfl rfl) fun a E=>pt E rfl rfl fun a E=>aw E rfl fun a E=>wp_ret ?_
     exact fin hF ⟨ok.drop,E.d,rz E rfl⟩
    refine lsz E fun a E=>pf E rfl rfl fun a E=>aw E rfl fun a E=>wp_ret ?_
    exact fin hF ⟨ok.drop,E.d,rz E rfl⟩
   rintro v52 a w r ⟨ok,E,r53⟩ hF
   replace hF:qeZ N x_0 v52 = some r:=hF
   unfold qeZ at hF
   refine wp_seq<|sg<|mv E rfl fun a E=>fk E ok qbd qbN rfl 0 rfl rfl fun a E=>lv E ok (qao qbC h3 rfl) fun a E=>lw E (qat rfl rfl) fun a E=>wn<|cg E rfl hF (fun c54 hF=>?_) fun c54 hF=>?_
   ·refine wp_exit<|qau ?_
    cases hF
    exact so (sl ⟨rfl,⟨ok,E.keep [1]⟩⟩)
   refine wp_skip<|qaa<|wp_seq<|wp_block<|wp_seq<|qaY (by kernel_rfl) (by kernel_rfl) ok<|qv E (qag qbd rfl) fun a E=>qv E (qai qbN rfl (qac.own 0 rfl rfl)) fun a E=>qv E (qab rfl) fun a E=>?_
   obtain ⟨x55,e56,hF⟩:=bnd hF
   obtain ⟨b57,o58,es59,hl60,rr61,at62,yy63⟩:=ia E 48 49 qbC h3 e56
   obtain ⟨rfl,r64,r65⟩:=rr61
   refine qv E (yy63 _ _) fun a E=>qv E (qag qjB rfl) fun a E=>qv E (qai qeO rfl (qac.ro (At.sub 0 1 at62))) fun a E=>qv E (qag qbd rfl) fun a E=>qv E (qai qbN rfl (qac.own 0 rfl rfl)) fun a E=>qv E (qab rfl) fun a E=>?_
   obtain ⟨x66,e67,hF⟩:=bnd hF
   obtain ⟨b68,o69,es70,hl71,rr72,at73,yy74⟩:=ia E 54 55 qbC h3 e67
   obtain ⟨rfl,r75,r76⟩:=rr72
   refine qv E (yy74 _ _) fun a E=>qv E (qag qjH rfl) fun a E=>qv E (qai qeO rfl (qac.ro (At.sub 1 1 at73))) fun a E=>qv E (qca rfl rfl) fun a E=>wpQuiet_nil ?_
   intro w ok
   refine qaa<|cg E rfl hF (fun c77 hF=>?_) fun c77 hF=>?_
   ·refine wp_skip<|qaj<|qaa<|qad<|mv E rfl fun a E=>lw E (qav rfl rfl (InR.inc r53 (qak h3) c54)) fun a E=>av E rfl fun a E=>wpList_nil ?_
    cases hF
    exact qaq ⟨ok,E.keep [1,3],(InR.inc r53 (qak h3) c54)⟩
   refine sg<|aw E rfl fun a E=>wp_ret<|qah<|qae ?_
   cases hF
   exact so (sr ⟨rfl,⟨ok.drop,E.d,rz E rfl⟩⟩)
 refine fk E ok qdP qaQ rfl 0 rfl rfl fun a E=>lw E (qbS rfl rfl) fun a E=>pt E rfl rfl fun a E=>pf E rfl rfl fun a E=>wn<|cf E rfl hF (fun c10 hF=>?_) fun c10 hF=>?_
 ·refine sg<|aw E rfl fun a E=>wp_ret<|qae ?_
  exact fin hF ⟨ok.drop,E.d,rz E rfl⟩
 refine wp_skip<|qaa<|wp_seq<|sg<|fk E ok qe8 qam rfl 0 rfl rfl fun a E=>lw E (qbZ rfl rfl) fun a E=>wn<|cf E rfl hF (fun c11 hF=>?_) fun c11 hF=>?_
 ·refine sg<|fk E ok qe8 qam rfl 0 rfl rfl fun a E=>lw E (qaJ Tryz.underlying9 rfl) fun a E=>lw E (qch rfl rfl) fun a E=>mv E rfl fun a E=>bw E 29 hF (fun c12 hF E=>?_) fun c12 hF E=>?_
  ·refine lsz E fun a E=>pf E rfl rfl fun a E=>mv E rfl fun a E=>lsq E fun a E=>ls E fun a E=>pf E rfl rfl fun a E=>aw E rfl fun a E=>wp_ret<|qae ?_
   exact fin hF ⟨ok.drop,E.d,rz E rfl⟩
  refine fk E ok qbd qbN rfl 0 rfl rfl fun a E=>lv E ok (qao qbC h3 rfl) fun a E=>lw E (qa3 rfl rfl) fun a E=>pt E rfl rfl fun a E=>mv E rfl fun a E=>bu E 35 hF (fun c13 hF E=>?_) fun c13 hF E=>?_
  ·refine fk E ok qig qgW rfl 0 rfl rfl fun a E=>lw E (qbl rfl) fun a E=>pt E rfl rfl fun a E=>aw E rfl fun a E=>wp_ret<|qae ?_
   exact fin hF ⟨ok.drop,E.d,rz E rfl⟩
  refine lsq E fun a E=>ls E fun a E=>pf E rfl rfl fun a E=>aw E rfl fun a E=>wp_ret<|qae ?_
  exact fin hF ⟨ok.drop,E.d,rz E rfl⟩
 refine wp_skip<|qaa<|wp_seq<|sg<|aw E rfl fun a E=>wp_block<|bd hF fun o15 hL hF=>qaC _ (fun (s:Int) a w=>Ok u m0 ([(b6,oc 138 [vs x_0.Text,c2,vb x_0.Not,vi x_0.Least,vi x_0.Most])] :: S) w ∧ Env 70 a [(1,vp b6),(3,vi s)] ∧ InR .i64 s) (fun (b:(Unit ⊕ Bool)) e a w=>(Sum.elim (fun b44=>e = (.exit 0) ∧ Ok u m0 ([(b6,oc 138 [vs x_0.Text,c2,vb x_0.Not,vi x_0.Least,vi x_0.Most])] :: S) w ∧ Env 70 a [(1,vp b6)]) (fun b45=>e = .ret ∧ qfc u m0 S b45 a w)) b) ?_ ?_ N _ a w hL ⟨ok,E.keep [1,3],(ir 0)⟩
 rotate_left
 ·intro e a w _ hO
  rcases o15 with o15 | o15
  rotate_left
  ·obtain ⟨rfl,hret⟩:=hO
   refine qah<|qae ?_
   exact fin hF hret
  have hF:=qa1 hF
  obtain ⟨rfl,ok,E⟩:=hO
  refine qaE<|qaa<|sg<|fk E ok qbd qbN rfl 0 rfl rfl fun a E=>lv E ok (qao qbC h3 rfl) fun a E=>lw E (qaZ rfl rfl) fun a E=>mv E rfl fun a E=>bu E 64 hF (fun c43 hF E=>?_) fun c43 hF E=>?_
  ·refine fk E ok qbd qbN rfl 0 rfl rfl fun a E=>lv E ok (qao qbC h3 rfl) fun a E=>lw E (qch rfl rfl) fun a E=>pt E rfl rfl fun a E=>aw E rfl fun a E=>wp_ret ?_
   exact fin hF ⟨ok.drop,E.d,rz E rfl⟩
  refine lsz E fun a E=>pf E rfl rfl fun a E=>aw E rfl fun a E=>wp_ret ?_
  exact fin hF ⟨ok.drop,E.d,rz E rfl⟩
 rintro v17 a w r ⟨ok,E,r18⟩ hF
 replace hF:qe3 N x_0 v17 = some r:=hF
 unfold qe3 at hF
 refine wp_seq<|sg<|mv E rfl fun a E=>fk E ok qbd qbN rfl 0 rfl rfl fun a E=>lv E ok (qao qbC h3 rfl) fun a E=>lw E (qat rfl rfl) fun a E=>wn<|cg E rfl hF (fun c19 hF=>?_) fun c19 hF=>?_
 ·refine wp_exit<|qau ?_
  cases hF
  exact so (sl ⟨rfl,⟨ok,E.keep [1]⟩⟩)
 refine wp_skip<|qaa<|wp_seq<|wp_block<|wp_seq<|qaY (by kernel_rfl) (by kernel_rfl) ok<|qv E (qag qbd rfl) fun a E=>qv E (qai qbN rfl (qac.own 0 rfl rfl)) fun a E=>qv E (qab rfl) fun a E=>?_
 obtain ⟨x20,e21,hF⟩:=bnd hF
 obtain ⟨b22,o23,es24,hl25,rr26,at27,yy28⟩:=ia E 48 49 qbC h3 e21
 obtain ⟨rfl,r29,r30⟩:=rr26
 refine qv E (yy28 _ _) fun a E=>qv E (qag qjB rfl) fun a E=>qv E (qai qeO rfl (qac.ro (At.sub 0 1 at27))) fun a E=>qv E (qag qbd rfl) fun a E=>qv E (qai qbN rfl (qac.own 0 rfl rfl)) fun a E=>qv E (qab rfl) fun a E=>?_
 obtain ⟨x31,e32,hF⟩:=bnd hF
 obtain ⟨b33,o34,es35,hl36,rr37,at38,yy39⟩:=ia E 54 55 qbC h3 e32
 obtain ⟨rfl,r40,r41⟩:=rr37
 refine qv E (yy39 _ _) fun a E=>qv E (qag qjH rfl) fun a E=>qv E (qai qeO rfl (qac.ro (At.sub 1 1 at38))) fun a E=>qv E (qca rfl rfl) fun a E=>wpQuiet_nil ?_
 intro w ok
 refine qaa<|cg E rfl hF (fun c42 hF=>?_) fun c42 hF=>?_
 ·refine wp_skip<|qaj<|qaa<|qad<|mv E rfl fun a E=>lw E (qav rfl rfl (InR.inc r18 (qak h3) c19)) fun a E=>av E rfl fun a E=>wpList_nil ?_
  cases hF
  exact qaq ⟨ok,E.keep [1,3],(InR.inc r18 (qak h3) c19)⟩
 refine sg<|aw E rfl fun a E=>wp_ret<|qah<|qae ?_
 cases hF
 exact so (sr ⟨rfl,⟨ok.drop,E.d,rz E rfl⟩⟩)
def qg0 (u:World) (m0:Mem) (S:Segs) (r:Bool) (a:Act) (w:World):Prop :=
 Ok u m0 S w ∧ a.defers = [] ∧ RVs Tryz.prog a w [.t 2 (.bool r)]
theorem qfj (N:Nat) (vr_0:List Value) (r_0:Rule) (hr_0:qdh m0 vr_0 r_0) {r:Bool} (hF:qew N r_0 = some r) (hG:Glob u) (ok:Ok u m0 S w) :
  Calls Tryz.prog 61 [.agg vr_0.toArray].toArray w fun e w'=>(e = .returned (.bool r) ∧ Ok u m0 S w'):=by
 obtain ⟨c2,rfl,l1,h3,l4⟩:=hr_0
 unfold qew at hF
 refine en (qg0 u m0 S) r Tryz.func61 rfl rfl rfl (fun _ _ h=>ra h rfl) fun fin a E=>sg<|qdi E ok rfl rfl rfl fun b5 a w E ok=>aw E rfl fun a E=>wp_seq<|sg<|aw E rfl fun a E=>wp_block<|bd hF fun o7 hL hF=>qaC _ (fun (s:Int) a w=>Ok u m0 ([(b5,oc 114 [vs r_0.Kind,c2,vs r_0.Next])] :: S) w ∧ Env 33 a [(1,vp b5),(3,vi s)] ∧ InR .i64 s) (fun (b:(Unit ⊕ Bool)) e a w=>(Sum.elim (fun b33=>e = (.exit 0) ∧ Ok u m0 ([(b5,oc 114 [vs r_0.Kind,c2,vs r_0.Next])] :: S) w ∧ Env 33 a [(1,vp b5)]) (fun b34=>e = .ret ∧ qg0 u m0 S b34 a w)) b) ?_ ?_ N _ a w hL ⟨ok,E.keep [1,3],(ir 0)⟩
 ·rintro v9 a w r ⟨ok,E,r10⟩ hF
  replace hF:qe1 N r_0 v9 = some r:=hF
  unfold qe1 at hF
  refine wp_seq<|sg<|mv E rfl fun a E=>fk E ok qcl qdG rfl 0 rfl rfl fun a E=>lv E ok (qao qcq h3 rfl) fun a E=>lw E (qat rfl rfl) fun a E=>wn<|cg E rfl hF (fun c11 hF=>?_) fun c11 hF=>?_
  ·refine wp_exit<|qau ?_
   cases hF
   exact so (sl ⟨rfl,⟨ok,E.keep [1]⟩⟩)
  refine wp_skip<|qaa<|wp_seq<|wp_block<|sg<|fk E ok qcl qdG rfl 0 rfl rfl fun a E=>mv E rfl fun a E=>?_
  obtain ⟨x12,e13,hF⟩:=bnd hF
  obtain ⟨b14,o15,es16,hl17,rr18,at19,yy20⟩:=ia E 12 13 qcq h3 e13
  obtain ⟨c22,rfl,l21,h23,r24,r25⟩:=rr18
  refine lv E ok (yy20 _ _) fun a E=>lv E ok (qal (cs:=[vs x12.Text,c22,vb x12.Not,vi x12.Least,vi x12.Most]) qaW rfl rfl (qac.ro at19)) fun a E=>bd hF fun r26 e27 hF=>lc E qt6 rfl (qjy N _ x12 ⟨_,rfl,l21,h23,r24,r25⟩ e27 hG ok) fun w ok a E=>lw E (qbl rfl) fun a E=>wn<|cg E rfl hF (fun c28 hF=>?_) fun c28 hF=>?_
  ·refine wp_skip<|qaj<|qaa<|qad<|mv E rfl fun a E=>lw E (qav rfl rfl (InR.inc r10 (qak h3) c11)) fun a E=>av E rfl fun a E=>wpList_nil ?_
   cases hF
   exact qaq ⟨ok,E.keep [1,3],(InR.inc r10 (qak h3) c11)⟩
  refine sg<|aw E rfl fun a E=>wp_ret<|qah<|qae ?_
  cases hF
  exact so (sr ⟨rfl,⟨ok.drop,E.d,rz E rfl⟩⟩)
 intro e a w _ hO
 rcases o7 with o7 | o7
 rotate_left
 ·obtain ⟨rfl,hret⟩:=hO
  refine qah<|qae ?_
  exact fin hF hret
 have hF:=qa1 hF
 obtain ⟨rfl,ok,E⟩:=hO
 refine qaE<|qaa<|sg<|fk E ok qjw qam rfl 0 rfl rfl fun a E=>bd hF fun r29 e30 hF=>lc E qm8 rfl (qeu N r_0.Kind l1 e30 hG ok) fun w ok a E=>mv E rfl fun a E=>qcr r29 (fun c31=>?_) (fun c31=>?_)
 rotate_left
 ·have hF:=qbB c31 hF
  have E:=E.upd 21 c31 rfl
  refine lsz E fun a E=>pf E rfl rfl fun a E=>mv E rfl fun a E=>lsz E fun a E=>pf E rfl rfl fun a E=>aw E rfl fun a E=>wp_ret ?_
  exact fin hF ⟨ok.drop,E.d,rz E rfl⟩
 have hF:=qbA c31 hF
 have E:=E.upd 21 c31 rfl
 refine fk E ok qcl qdG rfl 0 rfl rfl fun a E=>lv E ok (qao qcq h3 rfl) fun a E=>lw E (qaZ rfl rfl) fun a E=>pt E rfl rfl fun a E=>mv E rfl fun a E=>bu E 27 hF (fun c32 hF E=>?_) fun c32 hF E=>?_
 ·refine fk E ok qcl qdG rfl 0 rfl rfl fun a E=>lv E ok (qao qcq h3 rfl) fun a E=>lw E (qch rfl rfl) fun a E=>pt E rfl rfl fun a E=>aw E rfl fun a E=>wp_ret ?_
  exact fin hF ⟨ok.drop,E.d,rz E rfl⟩
 refine lsz E fun a E=>pf E rfl rfl fun a E=>aw E rfl fun a E=>wp_ret ?_
 exact fin hF ⟨ok.drop,E.d,rz E rfl⟩
def qkU (u:World) (m0:Mem) (S:Segs) (r:(List UInt8)) (a:Act) (w:World):Prop :=
 Ok u m0 S w ∧ a.defers = [] ∧ RVs Tryz.prog a w [.t 4 (.string (bs r))] ∧ r.length ≤ LIMS
theorem qgn (N:Nat) (c_0:Int) (rc_0:InR .u8 c_0) (brackets_1:Bool) {r:(List UInt8)} (hF:qdf N c_0 brackets_1 = some r) (hG:Glob u) (ok:Ok u m0 S w) :
  Calls Tryz.prog 110 [Value.int .u8 c_0,vb brackets_1].toArray w fun e w'=>(e = .returned (.string (bs r)) ∧ Ok u m0 S w') ∧ r.length ≤ LIMS:=by
 unfold qdf at hF
 refine en (qkU u m0 S) r Tryz.func110 rfl rfl rfl (fun _ _ h=>rb h rfl) fun fin a E=>sg<|aw E rfl fun a E=>sg<|aw E rfl fun a E=>sg<|mv E rfl fun a E=>lw E (qa3 rfl rfl) fun a E=>mv E rfl fun a E=>bu E 9 hF (fun c1 hF E=>?_) fun c1 hF E=>?_
 ·refine lsz E fun a E=>lsq E fun a E=>pt E rfl rfl fun a E=>mv E rfl fun a E=>lsz E fun a E=>lsz E fun a E=>?_
  refine lsz E fun a E=>lsz E fun a E=>ls E fun a E=>pt E rfl rfl fun a E=>aw E rfl fun a E=>wp_seq<|wp_block<|sg<|mv E rfl fun a E=>aw E rfl fun a E=>c_if E rfl (fun _=>?_) (fun h=>by cases h)
  refine sg<|mv E rfl fun a E=>lv E ok (qbM Tryz.underlying5 Tryz.underlying9 rfl) fun a E=>bd hF fun s2 e3 hF=>lw E (qaI rfl rfl e3) fun a E=>aw E rfl fun a E=>wp_ret<|qah<|qae ?_
  exact fin hF ⟨ok,E.d,rz E rfl,(qaH e3)⟩
 refine mv E rfl fun a E=>lw E (qbl rfl) fun a E=>mv E rfl fun a E=>bw E 12 hF (fun c4 hF E=>?_) fun c4 hF E=>?_
 ·as_aux_lemma =>
   refine lsq E fun a E=>pf E rfl rfl fun a E=>pf E rfl rfl fun a E=>mz E rfl rfl fun a E=>mv E rfl fun a E=>qcr brackets_1 (fun c101=>?_) (fun c101=>?_)
   rotate_left
   ·as_aux_lemma =>
     have hF:=qbB c101 hF
     have E:=E.upd 19 c101 rfl
     refine lsz E fun a E=>lsz E fun a E=>lsz E fun a E=>lsq E fun a E=>pf E rfl rfl fun a E=>pf E rfl rfl fun a E=>?_
     refine aw E rfl fun a E=>wp_seq<|wp_block<|sg<|mv E rfl fun a E=>aw E rfl fun a E=>c_if E rfl (fun h=>by cases h) (fun _=>?_)
     refine sg<|mv E rfl fun a E=>lw E (qat rfl rfl) fun a E=>mv E rfl fun a E=>bu E 44 hF (fun c154 hF E=>?_) fun c154 hF E=>?_
     ·refine lsq E fun a E=>pt E rfl rfl fun a E=>mv E rfl fun a E=>lsz E fun a E=>ls E fun a E=>pt E rfl rfl fun a E=>aw E rfl fun a E=>c_if E rfl (fun _=>?_) (fun h=>by cases h)
      refine wp_seq<|qaY (by kernel_rfl) (by kernel_rfl) ok<|qv E (qab rfl) fun a E=>qv E (qab rfl) fun a E=>bd hF fun q155 e156 hF=>qv E (qc2 rfl rfl e156) fun a E=>qv E (qab rfl) fun a E=>bd hF fun q157 e158 hF=>qv E (qc2 rfl rfl e158) fun a E=>qv E (qaw rfl rfl) fun a E=>bd hF fun s159 e160 hF=>qv E (qaN Tryz.underlying9 e160 rfl ⟨_,rfl⟩ ⟨_,rfl⟩) fun a E=>?_
      refine bd hF fun s161 e162 hF=>qv E (qaI rfl rfl e162) fun a E=>qv E (qab rfl) fun a E=>qv E (qab rfl) fun a E=>qv E (qcg .and (by decide) rfl rfl) fun a E=>qv E (qab rfl) fun a E=>qv E (qcg .and (by decide) rfl rfl) fun a E=>qv E (qaw rfl rfl) fun a E=>bd hF fun s163 e164 hF=>qv E (qaN Tryz.underlying9 e164 rfl ⟨_,rfl⟩ ⟨_,rfl⟩) fun a E=>bd hF fun s165 e166 hF=>qv E (qaI rfl rfl e166) fun a E=>qv E (qap rfl) fun a E=>wpQuiet_nil ?_
      intro w ok
      refine qaa<|wp_ret<|qah<|qae ?_
      exact fin hF ⟨ok,E.d,rz E rfl,(qaH e166)⟩
     refine mv E rfl fun a E=>lw E (qca rfl rfl) fun a E=>pf E rfl rfl fun a E=>mv E rfl fun a E=>bu E 48 hF (fun c167 hF E=>?_) fun c167 hF E=>?_
     ·refine lsz E fun a E=>ls E fun a E=>pt E rfl rfl fun a E=>av E rfl fun a E=>wn<|c_if E rfl (fun _=>?_) (fun h=>by cases h)
      refine wp_seq<|qaY (by kernel_rfl) (by kernel_rfl) ok<|qv E (qab rfl) fun a E=>qv E (qab rfl) fun a E=>bd hF fun q168 e169 hF=>qv E (qc2 rfl rfl e169) fun a E=>qv E (qab rfl) fun a E=>bd hF fun q170 e171 hF=>qv E (qc2 rfl rfl e171) fun a E=>qv E (qaw rfl rfl) fun a E=>bd hF fun s172 e173 hF=>qv E (qaN Tryz.underlying9 e173 rfl ⟨_,rfl⟩ ⟨_,rfl⟩) fun a E=>?_
      refine bd hF fun s174 e175 hF=>qv E (qaI rfl rfl e175) fun a E=>qv E (qab rfl) fun a E=>qv E (qab rfl) fun a E=>qv E (qcg .and (by decide) rfl rfl) fun a E=>qv E (qab rfl) fun a E=>qv E (qcg .and (by decide) rfl rfl) fun a E=>qv E (qaw rfl rfl) fun a E=>bd hF fun s176 e177 hF=>qv E (qaN Tryz.underlying9 e177 rfl ⟨_,rfl⟩ ⟨_,rfl⟩) fun a E=>bd hF fun s178 e179 hF=>qv E (qaI rfl rfl e179) fun a E=>qv E (qap rfl) fun a E=>wpQuiet_nil ?_
      intro w ok
      refine qaa<|wp_ret<|qah<|qae ?_
      exact fin hF ⟨ok,E.d,rz E rfl,(qaH e179)⟩
     refine mz E rfl rfl fun a E=>qcr brackets_1 (fun c180=>?_) (fun c180=>?_)
     rotate_left
     ·have hF:=qbB c180 hF
      have E:=E.upd 50 c180 rfl
      refine lsq E fun a E=>pf E rfl rfl fun a E=>pf E rfl rfl fun a E=>aw E rfl fun a E=>c_if E rfl (fun h=>by cases h) (fun _=>?_)
      refine wp_skip<|qaj<|qaa<|sg<|mv E rfl fun a E=>lv E ok (qbM Tryz.underlying5 Tryz.underlying9 rfl) fun a E=>av E rfl fun a E=>wn<|wp_ret ?_
      exact fin hF ⟨ok,E.d,rz E rfl,(qct _)⟩
     have hF:=qbA c180 hF
     have E:=E.upd 50 c180 rfl
     refine mv E rfl fun a E=>lw E (qa3 rfl rfl) fun a E=>pt E rfl rfl fun a E=>pf E rfl rfl fun a E=>aw E rfl fun a E=>cg E rfl hF (fun c181 hF=>?_) fun c181 hF=>?_
     ·refine wp_skip<|qaj<|qaa<|sg<|mv E rfl fun a E=>lv E ok (qbM Tryz.underlying5 Tryz.underlying9 rfl) fun a E=>av E rfl fun a E=>wn<|wp_ret ?_
      exact fin hF ⟨ok,E.d,rz E rfl,(qct _)⟩
     refine wp_seq<|qaY (by kernel_rfl) (by kernel_rfl) ok<|qv E (qab rfl) fun a E=>qv E (qab rfl) fun a E=>bd hF fun q182 e183 hF=>qv E (qc2 rfl rfl e183) fun a E=>qv E (qab rfl) fun a E=>bd hF fun q184 e185 hF=>qv E (qc2 rfl rfl e185) fun a E=>qv E (qaw rfl rfl) fun a E=>bd hF fun s186 e187 hF=>qv E (qaN Tryz.underlying9 e187 rfl ⟨_,rfl⟩ ⟨_,rfl⟩) fun a E=>?_
     refine bd hF fun s188 e189 hF=>qv E (qaI rfl rfl e189) fun a E=>qv E (qab rfl) fun a E=>qv E (qab rfl) fun a E=>qv E (qcg .and (by decide) rfl rfl) fun a E=>qv E (qab rfl) fun a E=>qv E (qcg .and (by decide) rfl rfl) fun a E=>qv E (qaw rfl rfl) fun a E=>bd hF fun s190 e191 hF=>qv E (qaN Tryz.underlying9 e191 rfl ⟨_,rfl⟩ ⟨_,rfl⟩) fun a E=>bd hF fun s192 e193 hF=>qv E (qaI rfl rfl e193) fun a E=>qv E (qap rfl) fun a E=>wpQuiet_nil ?_
     intro w ok
     refine qaa<|wp_ret<|qah<|qae ?_
     exact fin hF ⟨ok,E.d,rz E rfl,(qaH e193)⟩
   have hF:=qbA c101 hF
   have E:=E.upd 19 c101 rfl
   refine mv E rfl fun a E=>lw E (qa3 rfl rfl) fun a E=>mv E rfl fun a E=>bu E 22 hF (fun c102 hF E=>?_) fun c102 hF E=>?_
   ·refine lsq E fun a E=>pt E rfl rfl fun a E=>mv E rfl fun a E=>lsq E fun a E=>pt E rfl rfl fun a E=>mv E rfl fun a E=>lsq E fun a E=>pt E rfl rfl fun a E=>pt E rfl rfl fun a E=>pf E rfl rfl fun a E=>aw E rfl fun a E=>?_
    refine wp_seq<|wp_block<|sg<|mv E rfl fun a E=>aw E rfl fun a E=>c_if E rfl (fun _=>?_) (fun h=>by cases h)
    refine sg<|mv E rfl fun a E=>lv E ok (qbM Tryz.underlying5 Tryz.underlying9 rfl) fun a E=>bd hF fun s103 e104 hF=>lw E (qaI rfl rfl e104) fun a E=>aw E rfl fun a E=>wp_ret<|qah<|qae ?_
    exact fin hF ⟨ok,E.d,rz E rfl,(qaH e104)⟩
   refine mv E rfl fun a E=>lw E (qa3 rfl rfl) fun a E=>pf E rfl rfl fun a E=>mv E rfl fun a E=>bu E 26 hF (fun c105 hF E=>?_) fun c105 hF E=>?_
   ·refine lsq E fun a E=>pt E rfl rfl fun a E=>mv E rfl fun a E=>lsq E fun a E=>pt E rfl rfl fun a E=>pt E rfl rfl fun a E=>pf E rfl rfl fun a E=>aw E rfl fun a E=>wp_seq<|wp_block<|sg<|mv E rfl fun a E=>aw E rfl fun a E=>c_if E rfl (fun _=>?_) (fun h=>by cases h)
    refine sg<|mv E rfl fun a E=>lv E ok (qbM Tryz.underlying5 Tryz.underlying9 rfl) fun a E=>bd hF fun s106 e107 hF=>lw E (qaI rfl rfl e107) fun a E=>aw E rfl fun a E=>wp_ret<|qah<|qae ?_
    exact fin hF ⟨ok,E.d,rz E rfl,(qaH e107)⟩
   refine mv E rfl fun a E=>lw E (qa3 rfl rfl) fun a E=>pf E rfl rfl fun a E=>mv E rfl fun a E=>bu E 30 hF (fun c108 hF E=>?_) fun c108 hF E=>?_
   ·refine lsq E fun a E=>pt E rfl rfl fun a E=>pt E rfl rfl fun a E=>pf E rfl rfl fun a E=>aw E rfl fun a E=>wp_seq<|wp_block<|sg<|mv E rfl fun a E=>aw E rfl fun a E=>c_if E rfl (fun _=>?_) (fun h=>by cases h)
    refine sg<|mv E rfl fun a E=>lv E ok (qbM Tryz.underlying5 Tryz.underlying9 rfl) fun a E=>bd hF fun s109 e110 hF=>lw E (qaI rfl rfl e110) fun a E=>aw E rfl fun a E=>wp_ret<|qah<|qae ?_
    exact fin hF ⟨ok,E.d,rz E rfl,(qaH e110)⟩
   refine mv E rfl fun a E=>lw E (qa3 rfl rfl) fun a E=>pf E rfl rfl fun a E=>pt E rfl rfl fun a E=>pf E rfl rfl fun a E=>aw E rfl fun a E=>wp_seq<|wp_block<|sg<|mv E rfl fun a E=>aw E rfl fun a E=>cf E rfl hF (fun c111 hF=>?_) fun c111 hF=>?_
   ·refine sg<|mv E rfl fun a E=>lv E ok (qbM Tryz.underlying5 Tryz.underlying9 rfl) fun a E=>bd hF fun s112 e113 hF=>lw E (qaI rfl rfl e113) fun a E=>aw E rfl fun a E=>wp_ret<|qah<|qae ?_
    exact fin hF ⟨ok,E.d,rz E rfl,(qaH e113)⟩
   refine sg<|mv E rfl fun a E=>lw E (qat rfl rfl) fun a E=>mv E rfl fun a E=>bu E 44 hF (fun c114 hF E=>?_) fun c114 hF E=>?_
   ·refine lsq E fun a E=>pt E rfl rfl fun a E=>mv E rfl fun a E=>lsz E fun a E=>ls E fun a E=>pt E rfl rfl fun a E=>aw E rfl fun a E=>c_if E rfl (fun _=>?_) (fun h=>by cases h)
    refine wp_seq<|qaY (by kernel_rfl) (by kernel_rfl) ok<|qv E (qab rfl) fun a E=>qv E (qab rfl) fun a E=>bd hF fun q115 e116 hF=>qv E (qc2 rfl rfl e116) fun a E=>qv E (qab rfl) fun a E=>bd hF fun q117 e118 hF=>qv E (qc2 rfl rfl e118) fun a E=>qv E (qaw rfl rfl) fun a E=>bd hF fun s119 e120 hF=>qv E (qaN Tryz.underlying9 e120 rfl ⟨_,rfl⟩ ⟨_,rfl⟩) fun a E=>?_
    refine bd hF fun s121 e122 hF=>qv E (qaI rfl rfl e122) fun a E=>qv E (qab rfl) fun a E=>qv E (qab rfl) fun a E=>qv E (qcg .and (by decide) rfl rfl) fun a E=>qv E (qab rfl) fun a E=>qv E (qcg .and (by decide) rfl rfl) fun a E=>qv E (qaw rfl rfl) fun a E=>bd hF fun s123 e124 hF=>qv E (qaN Tryz.underlying9 e124 rfl ⟨_,rfl⟩ ⟨_,rfl⟩) fun a E=>bd hF fun s125 e126 hF=>qv E (qaI rfl rfl e126) fun a E=>qv E (qap rfl) fun a E=>wpQuiet_nil ?_
    intro w ok
    refine qaa<|wp_ret<|qah<|qae ?_
    exact fin hF ⟨ok,E.d,rz E rfl,(qaH e126)⟩
   refine mv E rfl fun a E=>lw E (qca rfl rfl) fun a E=>pf E rfl rfl fun a E=>mv E rfl fun a E=>bu E 48 hF (fun c127 hF E=>?_) fun c127 hF E=>?_
   ·refine lsz E fun a E=>ls E fun a E=>pt E rfl rfl fun a E=>av E rfl fun a E=>wn<|c_if E rfl (fun _=>?_) (fun h=>by cases h)
    refine wp_seq<|qaY (by kernel_rfl) (by kernel_rfl) ok<|qv E (qab rfl) fun a E=>qv E (qab rfl) fun a E=>bd hF fun q128 e129 hF=>qv E (qc2 rfl rfl e129) fun a E=>qv E (qab rfl) fun a E=>bd hF fun q130 e131 hF=>qv E (qc2 rfl rfl e131) fun a E=>qv E (qaw rfl rfl) fun a E=>bd hF fun s132 e133 hF=>qv E (qaN Tryz.underlying9 e133 rfl ⟨_,rfl⟩ ⟨_,rfl⟩) fun a E=>?_
    refine bd hF fun s134 e135 hF=>qv E (qaI rfl rfl e135) fun a E=>qv E (qab rfl) fun a E=>qv E (qab rfl) fun a E=>qv E (qcg .and (by decide) rfl rfl) fun a E=>qv E (qab rfl) fun a E=>qv E (qcg .and (by decide) rfl rfl) fun a E=>qv E (qaw rfl rfl) fun a E=>bd hF fun s136 e137 hF=>qv E (qaN Tryz.underlying9 e137 rfl ⟨_,rfl⟩ ⟨_,rfl⟩) fun a E=>bd hF fun s138 e139 hF=>qv E (qaI rfl rfl e139) fun a E=>qv E (qap rfl) fun a E=>wpQuiet_nil ?_
    intro w ok
    refine qaa<|wp_ret<|qah<|qae ?_
    exact fin hF ⟨ok,E.d,rz E rfl,(qaH e139)⟩
   refine mz E rfl rfl fun a E=>qcr brackets_1 (fun c140=>?_) (fun c140=>?_)
   rotate_left
   ·have hF:=qbB c140 hF
    have E:=E.upd 50 c140 rfl
    refine lsq E fun a E=>pf E rfl rfl fun a E=>pf E rfl rfl fun a E=>aw E rfl fun a E=>c_if E rfl (fun h=>by cases h) (fun _=>?_)
    refine wp_skip<|qaj<|qaa<|sg<|mv E rfl fun a E=>lv E ok (qbM Tryz.underlying5 Tryz.underlying9 rfl) fun a E=>av E rfl fun a E=>wn<|wp_ret ?_
    exact fin hF ⟨ok,E.d,rz E rfl,(qct _)⟩
   have hF:=qbA c140 hF
   have E:=E.upd 50 c140 rfl
   refine mv E rfl fun a E=>lw E (qa3 rfl rfl) fun a E=>pt E rfl rfl fun a E=>pf E rfl rfl fun a E=>aw E rfl fun a E=>cg E rfl hF (fun c141 hF=>?_) fun c141 hF=>?_
   ·refine wp_skip<|qaj<|qaa<|sg<|mv E rfl fun a E=>lv E ok (qbM Tryz.underlying5 Tryz.underlying9 rfl) fun a E=>av E rfl fun a E=>wn<|wp_ret ?_
    exact fin hF ⟨ok,E.d,rz E rfl,(qct _)⟩
   refine wp_seq<|qaY (by kernel_rfl) (by kernel_rfl) ok<|qv E (qab rfl) fun a E=>qv E (qab rfl) fun a E=>bd hF fun q142 e143 hF=>qv E (qc2 rfl rfl e143) fun a E=>qv E (qab rfl) fun a E=>bd hF fun q144 e145 hF=>qv E (qc2 rfl rfl e145) fun a E=>qv E (qaw rfl rfl) fun a E=>bd hF fun s146 e147 hF=>qv E (qaN Tryz.underlying9 e147 rfl ⟨_,rfl⟩ ⟨_,rfl⟩) fun a E=>?_
   refine bd hF fun s148 e149 hF=>qv E (qaI rfl rfl e149) fun a E=>qv E (qab rfl) fun a E=>qv E (qab rfl) fun a E=>qv E (qcg .and (by decide) rfl rfl) fun a E=>qv E (qab rfl) fun a E=>qv E (qcg .and (by decide) rfl rfl) fun a E=>qv E (qaw rfl rfl) fun a E=>bd hF fun s150 e151 hF=>qv E (qaN Tryz.underlying9 e151 rfl ⟨_,rfl⟩ ⟨_,rfl⟩) fun a E=>bd hF fun s152 e153 hF=>qv E (qaI rfl rfl e153) fun a E=>qv E (qap rfl) fun a E=>wpQuiet_nil ?_
   intro w ok
   refine qaa<|wp_ret<|qah<|qae ?_
   exact fin hF ⟨ok,E.d,rz E rfl,(qaH e153)⟩
 refine mv E rfl fun a E=>lw E (qa3 rfl rfl) fun a E=>pt E rfl rfl fun a E=>pf E rfl rfl fun a E=>mv E rfl fun a E=>bu E 17 hF (fun c5 hF E=>?_) fun c5 hF E=>?_
 ·refine lsz E fun a E=>lsz E fun a E=>lsz E fun a E=>lsz E fun a E=>?_
  refine ls E fun a E=>pt E rfl rfl fun a E=>aw E rfl fun a E=>wp_seq<|wp_block<|sg<|mv E rfl fun a E=>aw E rfl fun a E=>c_if E rfl (fun _=>?_) (fun h=>by cases h)
  refine sg<|mv E rfl fun a E=>lv E ok (qbM Tryz.underlying5 Tryz.underlying9 rfl) fun a E=>bd hF fun s6 e7 hF=>lw E (qaI rfl rfl e7) fun a E=>aw E rfl fun a E=>wp_ret<|qah<|qae ?_
  exact fin hF ⟨ok,E.d,rz E rfl,(qaH e7)⟩
 refine mz E rfl rfl fun a E=>qcr brackets_1 (fun c8=>?_) (fun c8=>?_)
 rotate_left
 ·as_aux_lemma =>
   have hF:=qbB c8 hF
   have E:=E.upd 19 c8 rfl
   refine lsz E fun a E=>lsz E fun a E=>lsz E fun a E=>lsq E fun a E=>pf E rfl rfl fun a E=>pf E rfl rfl fun a E=>?_
   refine aw E rfl fun a E=>wp_seq<|wp_block<|sg<|mv E rfl fun a E=>aw E rfl fun a E=>c_if E rfl (fun h=>by cases h) (fun _=>?_)
   refine sg<|mv E rfl fun a E=>lw E (qat rfl rfl) fun a E=>mv E rfl fun a E=>bu E 44 hF (fun c61 hF E=>?_) fun c61 hF E=>?_
   ·refine lsq E fun a E=>pt E rfl rfl fun a E=>mv E rfl fun a E=>lsz E fun a E=>ls E fun a E=>pt E rfl rfl fun a E=>aw E rfl fun a E=>c_if E rfl (fun _=>?_) (fun h=>by cases h)
    refine wp_seq<|qaY (by kernel_rfl) (by kernel_rfl) ok<|qv E (qab rfl) fun a E=>qv E (qab rfl) fun a E=>bd hF fun q62 e63 hF=>qv E (qc2 rfl rfl e63) fun a E=>qv E (qab rfl) fun a E=>bd hF fun q64 e65 hF=>qv E (qc2 rfl rfl e65) fun a E=>qv E (qaw rfl rfl) fun a E=>bd hF fun s66 e67 hF=>qv E (qaN Tryz.underlying9 e67 rfl ⟨_,rfl⟩ ⟨_,rfl⟩) fun a E=>?_
    refine bd hF fun s68 e69 hF=>qv E (qaI rfl rfl e69) fun a E=>qv E (qab rfl) fun a E=>qv E (qab rfl) fun a E=>qv E (qcg .and (by decide) rfl rfl) fun a E=>qv E (qab rfl) fun a E=>qv E (qcg .and (by decide) rfl rfl) fun a E=>qv E (qaw rfl rfl) fun a E=>bd hF fun s70 e71 hF=>qv E (qaN Tryz.underlying9 e71 rfl ⟨_,rfl⟩ ⟨_,rfl⟩) fun a E=>bd hF fun s72 e73 hF=>qv E (qaI rfl rfl e73) fun a E=>qv E (qap rfl) fun a E=>wpQuiet_nil ?_
    intro w ok
    refine qaa<|wp_ret<|qah<|qae ?_
    exact fin hF ⟨ok,E.d,rz E rfl,(qaH e73)⟩
   refine mv E rfl fun a E=>lw E (qca rfl rfl) fun a E=>pf E rfl rfl fun a E=>mv E rfl fun a E=>bu E 48 hF (fun c74 hF E=>?_) fun c74 hF E=>?_
   ·refine lsz E fun a E=>ls E fun a E=>pt E rfl rfl fun a E=>av E rfl fun a E=>wn<|c_if E rfl (fun _=>?_) (fun h=>by cases h)
    refine wp_seq<|qaY (by kernel_rfl) (by kernel_rfl) ok<|qv E (qab rfl) fun a E=>qv E (qab rfl) fun a E=>bd hF fun q75 e76 hF=>qv E (qc2 rfl rfl e76) fun a E=>qv E (qab rfl) fun a E=>bd hF fun q77 e78 hF=>qv E (qc2 rfl rfl e78) fun a E=>qv E (qaw rfl rfl) fun a E=>bd hF fun s79 e80 hF=>qv E (qaN Tryz.underlying9 e80 rfl ⟨_,rfl⟩ ⟨_,rfl⟩) fun a E=>?_
    refine bd hF fun s81 e82 hF=>qv E (qaI rfl rfl e82) fun a E=>qv E (qab rfl) fun a E=>qv E (qab rfl) fun a E=>qv E (qcg .and (by decide) rfl rfl) fun a E=>qv E (qab rfl) fun a E=>qv E (qcg .and (by decide) rfl rfl) fun a E=>qv E (qaw rfl rfl) fun a E=>bd hF fun s83 e84 hF=>qv E (qaN Tryz.underlying9 e84 rfl ⟨_,rfl⟩ ⟨_,rfl⟩) fun a E=>bd hF fun s85 e86 hF=>qv E (qaI rfl rfl e86) fun a E=>qv E (qap rfl) fun a E=>wpQuiet_nil ?_
    intro w ok
    refine qaa<|wp_ret<|qah<|qae ?_
    exact fin hF ⟨ok,E.d,rz E rfl,(qaH e86)⟩
   refine mz E rfl rfl fun a E=>qcr brackets_1 (fun c87=>?_) (fun c87=>?_)
   rotate_left
   ·have hF:=qbB c87 hF
    have E:=E.upd 50 c87 rfl
    refine lsq E fun a E=>pf E rfl rfl fun a E=>pf E rfl rfl fun a E=>aw E rfl fun a E=>c_if E rfl (fun h=>by cases h) (fun _=>?_)
    refine wp_skip<|qaj<|qaa<|sg<|mv E rfl fun a E=>lv E ok (qbM Tryz.underlying5 Tryz.underlying9 rfl) fun a E=>av E rfl fun a E=>wn<|wp_ret ?_
    exact fin hF ⟨ok,E.d,rz E rfl,(qct _)⟩
   have hF:=qbA c87 hF
   have E:=E.upd 50 c87 rfl
   refine mv E rfl fun a E=>lw E (qa3 rfl rfl) fun a E=>pt E rfl rfl fun a E=>pf E rfl rfl fun a E=>aw E rfl fun a E=>cg E rfl hF (fun c88 hF=>?_) fun c88 hF=>?_
   ·refine wp_skip<|qaj<|qaa<|sg<|mv E rfl fun a E=>lv E ok (qbM Tryz.underlying5 Tryz.underlying9 rfl) fun a E=>av E rfl fun a E=>wn<|wp_ret ?_
    exact fin hF ⟨ok,E.d,rz E rfl,(qct _)⟩
   refine wp_seq<|qaY (by kernel_rfl) (by kernel_rfl) ok<|qv E (qab rfl) fun a E=>qv E (qab rfl) fun a E=>bd hF fun q89 e90 hF=>qv E (qc2 rfl rfl e90) fun a E=>qv E (qab rfl) fun a E=>bd hF fun q91 e92 hF=>qv E (qc2 rfl rfl e92) fun a E=>qv E (qaw rfl rfl) fun a E=>bd hF fun s93 e94 hF=>qv E (qaN Tryz.underlying9 e94 rfl ⟨_,rfl⟩ ⟨_,rfl⟩) fun a E=>?_
   refine bd hF fun s95 e96 hF=>qv E (qaI rfl rfl e96) fun a E=>qv E (qab rfl) fun a E=>qv E (qab rfl) fun a E=>qv E (qcg .and (by decide) rfl rfl) fun a E=>qv E (qab rfl) fun a E=>qv E (qcg .and (by decide) rfl rfl) fun a E=>qv E (qaw rfl rfl) fun a E=>bd hF fun s97 e98 hF=>qv E (qaN Tryz.underlying9 e98 rfl ⟨_,rfl⟩ ⟨_,rfl⟩) fun a E=>bd hF fun s99 e100 hF=>qv E (qaI rfl rfl e100) fun a E=>qv E (qap rfl) fun a E=>wpQuiet_nil ?_
   intro w ok
   refine qaa<|wp_ret<|qah<|qae ?_
   exact fin hF ⟨ok,E.d,rz E rfl,(qaH e100)⟩
 have hF:=qbA c8 hF
 have E:=E.upd 19 c8 rfl
 refine mv E rfl fun a E=>lw E (qa3 rfl rfl) fun a E=>mv E rfl fun a E=>bu E 22 hF (fun c9 hF E=>?_) fun c9 hF E=>?_
 ·refine lsq E fun a E=>pt E rfl rfl fun a E=>mv E rfl fun a E=>lsq E fun a E=>pt E rfl rfl fun a E=>mv E rfl fun a E=>lsq E fun a E=>pt E rfl rfl fun a E=>pt E rfl rfl fun a E=>pf E rfl rfl fun a E=>aw E rfl fun a E=>?_
  refine wp_seq<|wp_block<|sg<|mv E rfl fun a E=>aw E rfl fun a E=>c_if E rfl (fun _=>?_) (fun h=>by cases h)
  refine sg<|mv E rfl fun a E=>lv E ok (qbM Tryz.underlying5 Tryz.underlying9 rfl) fun a E=>bd hF fun s10 e11 hF=>lw E (qaI rfl rfl e11) fun a E=>aw E rfl fun a E=>wp_ret<|qah<|qae ?_
  exact fin hF ⟨ok,E.d,rz E rfl,(qaH e11)⟩
 refine mv E rfl fun a E=>lw E (qa3 rfl rfl) fun a E=>pf E rfl rfl fun a E=>mv E rfl fun a E=>bu E 26 hF (fun c12 hF E=>?_) fun c12 hF E=>?_
 ·refine lsq E fun a E=>pt E rfl rfl fun a E=>mv E rfl fun a E=>lsq E fun a E=>pt E rfl rfl fun a E=>pt E rfl rfl fun a E=>pf E rfl rfl fun a E=>aw E rfl fun a E=>wp_seq<|wp_block<|sg<|mv E rfl fun a E=>aw E rfl fun a E=>c_if E rfl (fun _=>?_) (fun h=>by cases h)
  refine sg<|mv E rfl fun a E=>lv E ok (qbM Tryz.underlying5 Tryz.underlying9 rfl) fun a E=>bd hF fun s13 e14 hF=>lw E (qaI rfl rfl e14) fun a E=>aw E rfl fun a E=>wp_ret<|qah<|qae ?_
  exact fin hF ⟨ok,E.d,rz E rfl,(qaH e14)⟩
 refine mv E rfl fun a E=>lw E (qa3 rfl rfl) fun a E=>pf E rfl rfl fun a E=>mv E rfl fun a E=>bu E 30 hF (fun c15 hF E=>?_) fun c15 hF E=>?_
 ·refine lsq E fun a E=>pt E rfl rfl fun a E=>pt E rfl rfl fun a E=>pf E rfl rfl fun a E=>aw E rfl fun a E=>wp_seq<|wp_block<|sg<|mv E rfl fun a E=>aw E rfl fun a E=>c_if E rfl (fun _=>?_) (fun h=>by cases h)
  refine sg<|mv E rfl fun a E=>lv E ok (qbM Tryz.underlying5 Tryz.underlying9 rfl) fun a E=>bd hF fun s16 e17 hF=>lw E (qaI rfl rfl e17) fun a E=>aw E rfl fun a E=>wp_ret<|qah<|qae ?_
  exact fin hF ⟨ok,E.d,rz E rfl,(qaH e17)⟩
 refine mv E rfl fun a E=>lw E (qa3 rfl rfl) fun a E=>pf E rfl rfl fun a E=>pt E rfl rfl fun a E=>pf E rfl rfl fun a E=>aw E rfl fun a E=>wp_seq<|wp_block<|sg<|mv E rfl fun a E=>aw E rfl fun a E=>cf E rfl hF (fun c18 hF=>?_) fun c18 hF=>?_
 ·refine sg<|mv E rfl fun a E=>lv E ok (qbM Tryz.underlying5 Tryz.underlying9 rfl) fun a E=>bd hF fun s19 e20 hF=>lw E (qaI rfl rfl e20) fun a E=>aw E rfl fun a E=>wp_ret<|qah<|qae ?_
  exact fin hF ⟨ok,E.d,rz E rfl,(qaH e20)⟩
 refine sg<|mv E rfl fun a E=>lw E (qat rfl rfl) fun a E=>mv E rfl fun a E=>bu E 44 hF (fun c21 hF E=>?_) fun c21 hF E=>?_
 ·refine lsq E fun a E=>pt E rfl rfl fun a E=>mv E rfl fun a E=>lsz E fun a E=>ls E fun a E=>pt E rfl rfl fun a E=>aw E rfl fun a E=>c_if E rfl (fun _=>?_) (fun h=>by cases h)
  refine wp_seq<|qaY (by kernel_rfl) (by kernel_rfl) ok<|qv E (qab rfl) fun a E=>qv E (qab rfl) fun a E=>bd hF fun q22 e23 hF=>qv E (qc2 rfl rfl e23) fun a E=>qv E (qab rfl) fun a E=>bd hF fun q24 e25 hF=>qv E (qc2 rfl rfl e25) fun a E=>qv E (qaw rfl rfl) fun a E=>bd hF fun s26 e27 hF=>qv E (qaN Tryz.underlying9 e27 rfl ⟨_,rfl⟩ ⟨_,rfl⟩) fun a E=>?_
  refine bd hF fun s28 e29 hF=>qv E (qaI rfl rfl e29) fun a E=>qv E (qab rfl) fun a E=>qv E (qab rfl) fun a E=>qv E (qcg .and (by decide) rfl rfl) fun a E=>qv E (qab rfl) fun a E=>qv E (qcg .and (by decide) rfl rfl) fun a E=>qv E (qaw rfl rfl) fun a E=>bd hF fun s30 e31 hF=>qv E (qaN Tryz.underlying9 e31 rfl ⟨_,rfl⟩ ⟨_,rfl⟩) fun a E=>bd hF fun s32 e33 hF=>qv E (qaI rfl rfl e33) fun a E=>qv E (qap rfl) fun a E=>wpQuiet_nil ?_
  intro w ok
  refine qaa<|wp_ret<|qah<|qae ?_
  exact fin hF ⟨ok,E.d,rz E rfl,(qaH e33)⟩
 refine mv E rfl fun a E=>lw E (qca rfl rfl) fun a E=>pf E rfl rfl fun a E=>mv E rfl fun a E=>bu E 48 hF (fun c34 hF E=>?_) fun c34 hF E=>?_
 ·refine lsz E fun a E=>ls E fun a E=>pt E rfl rfl fun a E=>av E rfl fun a E=>wn<|c_if E rfl (fun _=>?_) (fun h=>by cases h)
  refine wp_seq<|qaY (by kernel_rfl) (by kernel_rfl) ok<|qv E (qab rfl) fun a E=>qv E (qab rfl) fun a E=>bd hF fun q35 e36 hF=>qv E (qc2 rfl rfl e36) fun a E=>qv E (qab rfl) fun a E=>bd hF fun q37 e38 hF=>qv E (qc2 rfl rfl e38) fun a E=>qv E (qaw rfl rfl) fun a E=>bd hF fun s39 e40 hF=>qv E (qaN Tryz.underlying9 e40 rfl ⟨_,rfl⟩ ⟨_,rfl⟩) fun a E=>?_
  refine bd hF fun s41 e42 hF=>qv E (qaI rfl rfl e42) fun a E=>qv E (qab rfl) fun a E=>qv E (qab rfl) fun a E=>qv E (qcg .and (by decide) rfl rfl) fun a E=>qv E (qab rfl) fun a E=>qv E (qcg .and (by decide) rfl rfl) fun a E=>qv E (qaw rfl rfl) fun a E=>bd hF fun s43 e44 hF=>qv E (qaN Tryz.underlying9 e44 rfl ⟨_,rfl⟩ ⟨_,rfl⟩) fun a E=>bd hF fun s45 e46 hF=>qv E (qaI rfl rfl e46) fun a E=>qv E (qap rfl) fun a E=>wpQuiet_nil ?_
  intro w ok
  refine qaa<|wp_ret<|qah<|qae ?_
  exact fin hF ⟨ok,E.d,rz E rfl,(qaH e46)⟩
 refine mz E rfl rfl fun a E=>qcr brackets_1 (fun c47=>?_) (fun c47=>?_)
 rotate_left
 ·have hF:=qbB c47 hF
  have E:=E.upd 50 c47 rfl
  refine lsq E fun a E=>pf E rfl rfl fun a E=>pf E rfl rfl fun a E=>aw E rfl fun a E=>c_if E rfl (fun h=>by cases h) (fun _=>?_)
  refine wp_skip<|qaj<|qaa<|sg<|mv E rfl fun a E=>lv E ok (qbM Tryz.underlying5 Tryz.underlying9 rfl) fun a E=>av E rfl fun a E=>wn<|wp_ret ?_
  exact fin hF ⟨ok,E.d,rz E rfl,(qct _)⟩
 have hF:=qbA c47 hF
 have E:=E.upd 50 c47 rfl
 refine mv E rfl fun a E=>lw E (qa3 rfl rfl) fun a E=>pt E rfl rfl fun a E=>pf E rfl rfl fun a E=>aw E rfl fun a E=>cg E rfl hF (fun c48 hF=>?_) fun c48 hF=>?_
 ·refine wp_skip<|qaj<|qaa<|sg<|mv E rfl fun a E=>lv E ok (qbM Tryz.underlying5 Tryz.underlying9 rfl) fun a E=>av E rfl fun a E=>wn<|wp_ret ?_
  exact fin hF ⟨ok,E.d,rz E rfl,(qct _)⟩
 refine wp_seq<|qaY (by kernel_rfl) (by kernel_rfl) ok<|qv E (qab rfl) fun a E=>qv E (qab rfl) fun a E=>bd hF fun q49 e50 hF=>qv E (qc2 rfl rfl e50) fun a E=>qv E (qab rfl) fun a E=>bd hF fun q51 e52 hF=>qv E (qc2 rfl rfl e52) fun a E=>qv E (qaw rfl rfl) fun a E=>bd hF fun s53 e54 hF=>qv E (qaN Tryz.underlying9 e54 rfl ⟨_,rfl⟩ ⟨_,rfl⟩) fun a E=>?_
 refine bd hF fun s55 e56 hF=>qv E (qaI rfl rfl e56) fun a E=>qv E (qab rfl) fun a E=>qv E (qab rfl) fun a E=>qv E (qcg .and (by decide) rfl rfl) fun a E=>qv E (qab rfl) fun a E=>qv E (qcg .and (by decide) rfl rfl) fun a E=>qv E (qaw rfl rfl) fun a E=>bd hF fun s57 e58 hF=>qv E (qaN Tryz.underlying9 e58 rfl ⟨_,rfl⟩ ⟨_,rfl⟩) fun a E=>bd hF fun s59 e60 hF=>qv E (qaI rfl rfl e60) fun a E=>qv E (qap rfl) fun a E=>wpQuiet_nil ?_
 intro w ok
 refine qaa<|wp_ret<|qah<|qae ?_
 exact fin hF ⟨ok,E.d,rz E rfl,(qaH e60)⟩
def qj3 (u:World) (m0:Mem) (S:Segs) (r:(List UInt8)) (a:Act) (w:World):Prop :=
 Ok u m0 S w ∧ a.defers = [] ∧ RVs Tryz.prog a w [.t 2 (.string (bs r))] ∧ r.length ≤ LIMS
theorem qkj (N:Nat) (vx_0:List Value) (x_0:Item) (hx_0:qbu m0 vx_0 x_0) {r:(List UInt8)} (hF:qgB N x_0 = some r) (hG:Glob u) (ok:Ok u m0 S w) :
  Calls Tryz.prog 90 [.agg vx_0.toArray].toArray w fun e w'=>(e = .returned (.string (bs r)) ∧ Ok u m0 S w') ∧ r.length ≤ LIMS:=by
 obtain ⟨c2,rfl,l1,h3,r4,r5⟩:=hx_0
 unfold qgB at hF
 refine en (qj3 u m0 S) r Tryz.func90 rfl rfl rfl (fun _ _ h=>rb h rfl) fun fin a E=>sg<|qdi E ok rfl rfl rfl fun b6 a w E ok=>aw E rfl fun a E=>sg<|aw E rfl fun a E=>wp_seq<|sg<|fv E qe8 rfl fun a E=>ld E ok qam 0 rfl rfl rfl fun a E=>lw E (qbZ rfl rfl) fun a E=>wn<|bd hF fun o7 hJ hF=>qba (Q':=fun e a w=>e = .normal ∧ Ok u m0 ([(b6,oc 138 [vs x_0.Text,c2,vb x_0.Not,vi x_0.Least,vi x_0.Most])] :: S) w ∧ Env 94 a [(1,vp b6),(3,vs o7)] ∧ o7.length ≤ LIMS) ?_ ?_
 rotate_left
 ·as_aux_lemma =>
   intro e a w hO
   obtain ⟨rfl,ok,E,l108⟩:=hO
   refine qaa<|wp_seq<|wp_block<|sg<|fk E ok qdO qaQ rfl 0 rfl rfl fun a E=>lw E (qa3 rfl rfl) fun a E=>mv E rfl fun a E=>bw E 74 hF (fun c109 hF E=>?_) fun c109 hF E=>?_
   ·as_aux_lemma =>
     refine lsq E fun a E=>ls E fun a E=>pf E rfl rfl fun a E=>aw E rfl fun a E=>c_if E rfl (fun h=>by cases h) (fun _=>?_)
     refine sg<|fk E ok qdO qaQ rfl 0 rfl rfl fun a E=>lw E (qa3 rfl rfl) fun a E=>aw E rfl fun a E=>cf E rfl hF (fun c119 hF=>?_) fun c119 hF=>?_
     ·refine qad<|mv E rfl fun a E=>bd hF fun s120 e121 hF=>lw E (qaI rfl rfl e121) fun a E=>av E rfl fun a E=>wpList_nil<|qaj<|qaa<|sg<|mv E rfl fun a E=>aw E rfl fun a E=>wp_ret ?_
      exact fin hF ⟨ok.drop,E.d,rz E rfl,(qaH e121)⟩
     refine sg<|fk E ok qdP qaQ rfl 0 rfl rfl fun a E=>lw E (qbS rfl rfl) fun a E=>aw E rfl fun a E=>cg E rfl hF (fun c122 hF=>?_) fun c122 hF=>?_
     ·refine wp_skip<|qaj<|qaa<|sg<|mv E rfl fun a E=>av E rfl fun a E=>wn<|wp_ret ?_
      exact fin hF ⟨ok.drop,E.d,rz E rfl,l108⟩
     refine qad<|mv E rfl fun a E=>bd hF fun s123 e124 hF=>lw E (qaI rfl rfl e124) fun a E=>av E rfl fun a E=>wpList_nil<|qaj<|qaa<|sg<|mv E rfl fun a E=>aw E rfl fun a E=>wp_ret ?_
     exact fin hF ⟨ok.drop,E.d,rz E rfl,(qaH e124)⟩
   refine fk E ok qdP qaQ rfl 0 rfl rfl fun a E=>lw E (qa3 rfl rfl) fun a E=>pt E rfl rfl fun a E=>aw E rfl fun a E=>cf E rfl hF (fun c110 hF=>?_) fun c110 hF=>?_
   ·refine qad<|mv E rfl fun a E=>bd hF fun s111 e112 hF=>lw E (qaI rfl rfl e112) fun a E=>av E rfl fun a E=>wpList_nil<|qaj<|qaa<|sg<|mv E rfl fun a E=>aw E rfl fun a E=>wp_ret ?_
    exact fin hF ⟨ok.drop,E.d,rz E rfl,(qaH e112)⟩
   refine sg<|fk E ok qdO qaQ rfl 0 rfl rfl fun a E=>lw E (qa3 rfl rfl) fun a E=>aw E rfl fun a E=>cf E rfl hF (fun c113 hF=>?_) fun c113 hF=>?_
   ·refine qad<|mv E rfl fun a E=>bd hF fun s114 e115 hF=>lw E (qaI rfl rfl e115) fun a E=>av E rfl fun a E=>wpList_nil<|qaj<|qaa<|sg<|mv E rfl fun a E=>aw E rfl fun a E=>wp_ret ?_
    exact fin hF ⟨ok.drop,E.d,rz E rfl,(qaH e115)⟩
   refine sg<|fk E ok qdP qaQ rfl 0 rfl rfl fun a E=>lw E (qbS rfl rfl) fun a E=>aw E rfl fun a E=>cg E rfl hF (fun c116 hF=>?_) fun c116 hF=>?_
   ·refine wp_skip<|qaj<|qaa<|sg<|mv E rfl fun a E=>av E rfl fun a E=>wn<|wp_ret ?_
    exact fin hF ⟨ok.drop,E.d,rz E rfl,l108⟩
   refine qad<|mv E rfl fun a E=>bd hF fun s117 e118 hF=>lw E (qaI rfl rfl e118) fun a E=>av E rfl fun a E=>wpList_nil<|qaj<|qaa<|sg<|mv E rfl fun a E=>aw E rfl fun a E=>wp_ret ?_
   exact fin hF ⟨ok.drop,E.d,rz E rfl,(qaH e118)⟩
 have hF:=hJ
 refine cf E rfl hF (fun c9 hF=>?_) fun c9 hF=>?_
 ·refine sg<|aw E rfl fun a E=>wp_seq<|sg<|aw E rfl fun a E=>wp_block<|bd hF fun o12 hL hF=>qaC _ (fun (s:(List UInt8) × Int) a w=>Ok u m0 ([(b6,oc 138 [vs x_0.Text,c2,vb x_0.Not,vi x_0.Least,vi x_0.Most])] :: S) w ∧ Env 94 a [(1,vp b6),(3,vs s.1),(4,vi s.2)] ∧ s.1.length ≤ LIMS ∧ InR .i64 s.2) (fun (b:((List UInt8))) e a w=>e = (.exit 0) ∧ Ok u m0 ([(b6,oc 138 [vs x_0.Text,c2,vb x_0.Not,vi x_0.Least,vi x_0.Most])] :: S) w ∧ Env 94 a [(1,vp b6),(3,vs b)] ∧ b.length ≤ LIMS) ?_ ?_ N _ a w hL ⟨ok,E.keep [1,3,4],(show ([34]:List UInt8).length ≤ LIMS by decide),(ir 0)⟩
  rotate_left
  ·intro e a w _ hO
   obtain ⟨rfl,ok,E,l27⟩:=hO
   refine qaE<|qaa<|qad<|mv E rfl fun a E=>bd hF fun s28 e29 hF=>lw E (qaI rfl rfl e29) fun a E=>av E rfl fun a E=>wpList_nil ?_
   cases hF
   exact ⟨rfl,⟨ok,E.keep [1,3],(qaH e29)⟩⟩
  rintro ⟨v15,v16⟩ a w r ⟨ok,E,l17,r18⟩ hF
  replace hF:qfB N x_0 v15 v16 = some r:=hF
  unfold qfB at hF
  refine wp_seq<|sg<|mv E rfl fun a E=>fk E ok qe8 qam rfl 0 rfl rfl fun a E=>lw E (qaJ Tryz.underlying9 rfl) fun a E=>lw E (qat rfl rfl) fun a E=>wn<|cg E rfl hF (fun c19 hF=>?_) fun c19 hF=>?_
  ·refine wp_exit<|qau ?_
   cases hF
   exact so (⟨rfl,⟨ok,E.keep [1,3],l17⟩⟩)
  refine wp_skip<|qaa<|wp_seq<|wp_block<|qad<|mv E rfl fun a E=>fk E ok qe8 qam rfl 0 rfl rfl fun a E=>mv E rfl fun a E=>bd hF fun c20 e21 hF=>lv E ok (qaR Tryz.underlying9 rfl rfl e21) fun a E=>bd hF fun r22 e23 hF=>qas E qoe rfl (qgn N (c20.toNat:Int) (InR.byte c20) false e23 hG ok) rfl rfl ?_
  rintro _ w ⟨⟨rfl,ok⟩,l24⟩
  refine ⟨_,rfl,fun a E=>?_⟩
  refine bd hF fun s25 e26 hF=>lw E (qaI rfl rfl e26) fun a E=>av E rfl fun a E=>wpList_nil<|qaj<|qaa<|qad<|mv E rfl fun a E=>lw E (qav rfl rfl (InR.inc r18 (InR.len l1) c19)) fun a E=>av E rfl fun a E=>wpList_nil ?_
  cases hF
  exact qaq ⟨ok,E.keep [1,3,4],(qaH e26),(InR.inc r18 (InR.len l1) c19)⟩
 refine sg<|aw E rfl fun a E=>wp_seq<|sg<|fk E ok qig qgW rfl 0 rfl rfl fun a E=>wn<|bd hF fun o31 hJ hF=>qba (Q':=fun e a w=>e = .normal ∧ Ok u m0 ([(b6,oc 138 [vs x_0.Text,c2,vb x_0.Not,vi x_0.Least,vi x_0.Most])] :: S) w ∧ Env 94 a [(1,vp b6),(3,vs o31)] ∧ o31.length ≤ LIMS) ?_ ?_
 ·have hF:=hJ
  refine cg E rfl hF (fun c33 hF=>?_) fun c33 hF=>?_
  ·refine wp_skip ?_
   cases hF
   exact ⟨rfl,⟨ok,E.keep [1,3],(show ([91]:List UInt8).length ≤ LIMS by decide)⟩⟩
  refine qad<|mv E rfl fun a E=>bd hF fun s34 e35 hF=>lw E (qaI rfl rfl e35) fun a E=>av E rfl fun a E=>wpList_nil ?_
  cases hF
  exact ⟨rfl,⟨ok,E.keep [1,3],(qaH e35)⟩⟩
 intro e a w hO
 obtain ⟨rfl,ok,E,l36⟩:=hO
 refine qaa<|wp_seq<|sg<|aw E rfl fun a E=>wp_block<|bd hF fun o39 hL hF=>qaC _ (fun (s:(List UInt8) × Int) a w=>Ok u m0 ([(b6,oc 138 [vs x_0.Text,c2,vb x_0.Not,vi x_0.Least,vi x_0.Most])] :: S) w ∧ Env 94 a [(1,vp b6),(3,vs s.1),(5,vi s.2)] ∧ s.1.length ≤ LIMS ∧ InR .i64 s.2) (fun (b:((List UInt8))) e a w=>e = (.exit 2) ∧ Ok u m0 ([(b6,oc 138 [vs x_0.Text,c2,vb x_0.Not,vi x_0.Least,vi x_0.Most])] :: S) w ∧ Env 94 a [(1,vp b6),(3,vs b)] ∧ b.length ≤ LIMS) ?_ ?_ N _ a w hL ⟨ok,E.keep [1,3,5],l36,(ir 0)⟩
 rotate_left
 ·intro e a w _ hO
  obtain ⟨rfl,ok,E,l104⟩:=hO
  refine qaE<|qaa<|qad<|mv E rfl fun a E=>bd hF fun s105 e106 hF=>lw E (qaI rfl rfl e106) fun a E=>av E rfl fun a E=>wpList_nil ?_
  cases hF
  exact ⟨rfl,⟨ok,E.keep [1,3],(qaH e106)⟩⟩
 rintro ⟨v42,v43⟩ a w r ⟨ok,E,l44,r45⟩ hF
 replace hF:qfE N x_0 v42 v43 = some r:=hF
 unfold qfE at hF
 refine wp_seq<|sg<|mv E rfl fun a E=>fk E ok qbd qbN rfl 0 rfl rfl fun a E=>lv E ok (qao qbC h3 rfl) fun a E=>lw E (qat rfl rfl) fun a E=>wn<|cg E rfl hF (fun c46 hF=>?_) fun c46 hF=>?_
 ·refine wp_exit<|qau ?_
  cases hF
  exact so (⟨rfl,⟨ok,E.keep [1,3],l44⟩⟩)
 refine wp_skip<|qaa<|wp_seq<|wp_block<|sg<|mv E rfl fun a E=>fv E qbd rfl fun a E=>ld E ok qbN 0 rfl rfl rfl fun a E=>mv E rfl fun a E=>?_
 obtain ⟨x47,e48,hF⟩:=bnd hF
 obtain ⟨b49,o50,es51,hl52,rr53,at54,yy55⟩:=ia E 38 39 qbC h3 e48
 obtain ⟨rfl,r56,r57⟩:=rr53
 refine lv E ok (yy55 _ _) fun a E=>fv E qjB rfl fun a E=>lv E ok (qai qeO rfl (qac.ro (At.sub 0 1 at54))) fun a E=>bd hF fun r58 e59 hF=>qas E qoe rfl (qgn N x47.From r56 true e59 hG ok) rfl rfl ?_
 rintro _ w ⟨⟨rfl,ok⟩,l60⟩
 refine ⟨_,rfl,fun a E=>?_⟩
 refine bd hF fun s61 e62 hF=>lw E (qaI rfl rfl e62) fun a E=>aw E rfl fun a E=>wp_seq<|qaY (by kernel_rfl) (by kernel_rfl) ok<|qv E (qag qbd rfl) fun a E=>qv E (qai qbN rfl (qac.own 0 rfl rfl)) fun a E=>qv E (qab rfl) fun a E=>?_
 obtain ⟨x63,e64,hF⟩:=bnd hF
 obtain ⟨b65,o66,es67,hl68,rr69,at70,yy71⟩:=ia E 46 47 qbC h3 e64
 obtain ⟨rfl,r72,r73⟩:=rr69
 refine qv E (yy71 _ _) fun a E=>qv E (qag qjH rfl) fun a E=>qv E (qai qeO rfl (qac.ro (At.sub 1 1 at70))) fun a E=>qv E (qag qbd rfl) fun a E=>qv E (qai qbN rfl (qac.own 0 rfl rfl)) fun a E=>qv E (qab rfl) fun a E=>?_
 obtain ⟨x74,e75,hF⟩:=bnd hF
 obtain ⟨b76,o77,es78,hl79,rr80,at81,yy82⟩:=ia E 52 53 qbC h3 e75
 obtain ⟨rfl,r83,r84⟩:=rr80
 refine qv E (yy82 _ _) fun a E=>qv E (qag qjB rfl) fun a E=>qv E (qai qeO rfl (qac.ro (At.sub 0 1 at81))) fun a E=>qv E (qbS rfl rfl) fun a E=>wpQuiet_nil ?_
 intro w ok
 refine qaa<|cg E rfl hF (fun c85 hF=>?_) fun c85 hF=>?_
 ·refine wp_skip<|qaj<|qaa<|qad<|mv E rfl fun a E=>lw E (qav rfl rfl (InR.inc r45 (qak h3) c46)) fun a E=>av E rfl fun a E=>wpList_nil ?_
  cases hF
  exact qaq ⟨ok,E.keep [1,3,5],(qaH e62),(InR.inc r45 (qak h3) c46)⟩
 refine qad<|mv E rfl fun a E=>fk E ok qbd qbN rfl 0 rfl rfl fun a E=>mv E rfl fun a E=>?_
 obtain ⟨x86,e87,hF⟩:=bnd hF
 obtain ⟨b88,o89,es90,hl91,rr92,at93,yy94⟩:=ia E 60 61 qbC h3 e87
 obtain ⟨rfl,r95,r96⟩:=rr92
 refine lv E ok (yy94 _ _) fun a E=>fv E qjH rfl fun a E=>lv E ok (qai qeO rfl (qac.ro (At.sub 1 1 at93))) fun a E=>bd hF fun r97 e98 hF=>qas E qoe rfl (qgn N x86.To r96 true e98 hG ok) rfl rfl ?_
 rintro _ w ⟨⟨rfl,ok⟩,l99⟩
 refine ⟨_,rfl,fun a E=>?_⟩
 refine bd hF fun s100 e101 hF=>lw E (qaI rfl rfl e101) fun a E=>bd hF fun s102 e103 hF=>lw E (qaI rfl rfl e103) fun a E=>av E rfl fun a E=>wpList_nil<|qaj<|qaa<|qad<|mv E rfl fun a E=>lw E (qav rfl rfl (InR.inc r45 (qak h3) c46)) fun a E=>av E rfl fun a E=>wpList_nil ?_
 cases hF
 exact qaq ⟨ok,E.keep [1,3,5],(qaH e103),(InR.inc r45 (qak h3) c46)⟩
def qkk (u:World) (m0:Mem) (S:Segs) (r:(List UInt8)) (a:Act) (w:World):Prop :=
 Ok u m0 S w ∧ a.defers = [] ∧ RVs Tryz.prog a w [.t 2 (.string (bs r))] ∧ r.length ≤ LIMS
theorem qhL (N:Nat) (vr_0:List Value) (r_0:Rule) (hr_0:qdh m0 vr_0 r_0) {r:(List UInt8)} (hF:qfo N r_0 = some r) (hG:Glob u) (ok:Ok u m0 S w) :
  Calls Tryz.prog 69 [.agg vr_0.toArray].toArray w fun e w'=>(e = .returned (.string (bs r)) ∧ Ok u m0 S w') ∧ r.length ≤ LIMS:=by
 obtain ⟨c2,rfl,l1,h3,l4⟩:=hr_0
 unfold qfo at hF
 refine en (qkk u m0 S) r Tryz.func69 rfl rfl rfl (fun _ _ h=>rb h rfl) fun fin a E=>sg<|qdi E ok rfl rfl rfl fun b5 a w E ok=>aw E rfl fun a E=>sg<|fk E ok qjw qam rfl 0 rfl rfl fun a E=>aw E rfl fun a E=>wp_seq<|sg<|aw E rfl fun a E=>wp_block<|bd hF fun o8 hL hF=>qaC _ (fun (s:(List UInt8) × Int) a w=>Ok u m0 ([(b5,oc 114 [vs r_0.Kind,c2,vs r_0.Next])] :: S) w ∧ Env 32 a [(1,vp b5),(3,vs s.1),(4,vi s.2)] ∧ s.1.length ≤ LIMS ∧ InR .i64 s.2) (fun (b:((List UInt8))) e a w=>e = (.exit 0) ∧ Ok u m0 ([(b5,oc 114 [vs r_0.Kind,c2,vs r_0.Next])] :: S) w ∧ Env 32 a [(1,vp b5),(3,vs b)] ∧ b.length ≤ LIMS) ?_ ?_ N _ a w hL ⟨ok,E.keep [1,3,4],l1,(ir 0)⟩
 rotate_left
 ·intro e a w _ hO
  obtain ⟨rfl,ok,E,l37⟩:=hO
  refine qaE<|qaa<|wp_seq<|sg<|fk E ok qfR qam rfl 0 rfl rfl fun a E=>lw E (qbZ rfl rfl) fun a E=>wn<|cg E rfl hF (fun c38 hF=>?_) fun c38 hF=>?_
  ·refine wp_skip<|qaa<|sg<|mv E rfl fun a E=>aw E rfl fun a E=>wp_ret ?_
   exact fin hF ⟨ok.drop,E.d,rz E rfl,l37⟩
  refine qad<|mv E rfl fun a E=>fk E ok qfR qam rfl 0 rfl rfl fun a E=>bd hF fun s39 e40 hF=>lw E (qaI rfl rfl e40) fun a E=>bd hF fun s41 e42 hF=>lw E (qaI rfl rfl e42) fun a E=>aw E rfl fun a E=>sg<|mv E rfl fun a E=>av E rfl fun a E=>wn<|wp_ret ?_
  exact fin hF ⟨ok.drop,E.d,rz E rfl,(qaH e42)⟩
 rintro ⟨v11,v12⟩ a w r ⟨ok,E,l13,r14⟩ hF
 replace hF:qfF N r_0 v11 v12 = some r:=hF
 unfold qfF at hF
 refine wp_seq<|sg<|mv E rfl fun a E=>fk E ok qcl qdG rfl 0 rfl rfl fun a E=>lv E ok (qao qcq h3 rfl) fun a E=>lw E (qat rfl rfl) fun a E=>wn<|cg E rfl hF (fun c15 hF=>?_) fun c15 hF=>?_
 ·refine wp_exit<|qau ?_
  cases hF
  exact so (⟨rfl,⟨ok,E.keep [1,3],l13⟩⟩)
 refine wp_skip<|qaa<|wp_seq<|wp_block<|qad<|mv E rfl fun a E=>fk E ok qcl qdG rfl 0 rfl rfl fun a E=>mv E rfl fun a E=>?_
 obtain ⟨x16,e17,hF⟩:=bnd hF
 obtain ⟨b18,o19,es20,hl21,rr22,at23,yy24⟩:=ia E 16 17 qcq h3 e17
 obtain ⟨c26,rfl,l25,h27,r28,r29⟩:=rr22
 refine lv E ok (yy24 _ _) fun a E=>lv E ok (qal (cs:=[vs x16.Text,c26,vb x16.Not,vi x16.Least,vi x16.Most]) qaW rfl rfl (qac.ro at23)) fun a E=>bd hF fun r30 e31 hF=>qas E que rfl (qkj N _ x16 ⟨_,rfl,l25,h27,r28,r29⟩ e31 hG ok) rfl rfl ?_
 rintro _ w ⟨⟨rfl,ok⟩,l32⟩
 refine ⟨_,rfl,fun a E=>?_⟩
 refine bd hF fun s33 e34 hF=>lw E (qaI rfl rfl e34) fun a E=>bd hF fun s35 e36 hF=>lw E (qaI rfl rfl e36) fun a E=>av E rfl fun a E=>wpList_nil<|qaj<|qaa<|qad<|mv E rfl fun a E=>lw E (qav rfl rfl (InR.inc r14 (qak h3) c15)) fun a E=>av E rfl fun a E=>wpList_nil ?_
 cases hF
 exact qaq ⟨ok,E.keep [1,3,4],(qaH e36),(InR.inc r14 (qak h3) c15)⟩
def qj5 (u:World) (m0:Mem) (S:Segs) (r:(List UInt8)) (a:Act) (w:World):Prop :=
 Ok u m0 S w ∧ a.defers = [] ∧ RVs Tryz.prog a w [.t 2 (.string (bs r))] ∧ r.length ≤ LIMS
theorem qky (N:Nat) (vs_0:Value) (s_0:List (State)) (hs_0:(pL 2 qbP) m0 [vs_0] s_0) {r:(List UInt8)} (hF:qgI N s_0 = some r) (hG:Glob u) (ok:Ok u m0 S w) :
  Calls Tryz.prog 62 [vs_0].toArray w fun e w'=>(e = .returned (.string (bs r)) ∧ Ok u m0 S w') ∧ r.length ≤ LIMS:=by
 unfold qgI at hF
 refine en (qj5 u m0 S) r Tryz.func62 rfl rfl rfl (fun _ _ h=>rb h rfl) fun fin a E=>sg<|aw E rfl fun a E=>sg<|aw E rfl fun a E=>wp_seq<|sg<|av E rfl fun a E=>wn<|wp_block<|bd hF fun o3 hL hF=>qaC _ (fun (s:(List UInt8) × Int) a w=>Ok u m0 (S) w ∧ Env 44 a [(0,vs_0),(3,vs s.1),(4,vi s.2)] ∧ s.1.length ≤ LIMS ∧ InR .i64 s.2) (fun (b:((List UInt8))) e a w=>e = (.exit 0) ∧ Ok u m0 (S) w ∧ Env 44 a [(3,vs b)] ∧ b.length ≤ LIMS) ?_ ?_ N _ a w hL ⟨ok,E.keep [0,3,4],(show ([]:List UInt8).length ≤ LIMS by decide),(ir 0)⟩
 rotate_left
 ·intro e a w _ hO
  obtain ⟨rfl,ok,E,l85⟩:=hO
  refine qaE<|qaa<|sg<|mv E rfl fun a E=>aw E rfl fun a E=>wp_ret ?_
  exact fin hF ⟨ok,E.d,rz E rfl,l85⟩
 rintro ⟨v6,v7⟩ a w r ⟨ok,E,l8,r9⟩ hF
 replace hF:qfD N s_0 v6 v7 = some r:=hF
 unfold qfD at hF
 refine wp_seq<|sg<|mz E rfl rfl fun a E=>lv E ok (qao qbv hs_0 rfl) fun a E=>lw E (qat rfl rfl) fun a E=>wn<|cg E rfl hF (fun c10 hF=>?_) fun c10 hF=>?_
 ·refine wp_exit<|qau ?_
  cases hF
  exact so (⟨rfl,⟨ok,E.keep [3],l8⟩⟩)
 refine wp_skip<|qaa<|wp_seq<|wp_block<|sg<|mz E rfl rfl fun a E=>mv E rfl fun a E=>?_
 obtain ⟨x11,e12,hF⟩:=bnd hF
 obtain ⟨b13,o14,es15,hl16,rr17,at18,yy19⟩:=ia E 13 14 qbv hs_0 e12
 obtain ⟨c21,rfl,l20,h22⟩:=rr17
 refine lv E ok (yy19 _ _) fun a E=>fv E qhp rfl fun a E=>lv E ok (qai qam rfl (qac.ro (At.sub 0 1 at18))) fun a E=>bd hF fun s23 e24 hF=>lw E (qaI rfl rfl e24) fun a E=>bd hF fun s25 e26 hF=>lw E (qaI rfl rfl e26) fun a E=>bd hF fun s27 e28 hF=>lw E (qaI rfl rfl e28) fun a E=>aw E rfl fun a E=>sg<|av E rfl fun a E=>wn<|wp_block<|bd hF fun o31 hL hF=>qaC _ (fun (s:(List UInt8) × Int) a w=>Ok u m0 (S) w ∧ Env 44 a [(0,vs_0),(3,vs s.1),(4,vi v7),(5,vi s.2)] ∧ s.1.length ≤ LIMS ∧ InR .i64 s.2) (fun (b:((List UInt8))) e a w=>e = (.exit 2) ∧ Ok u m0 (S) w ∧ Env 44 a [(0,vs_0),(3,vs b),(4,vi v7)] ∧ b.length ≤ LIMS) ?_ ?_ N _ a w hL ⟨ok,E.keep [0,3,4,5],(qaH e28),(ir 0)⟩
 rotate_left
 ·intro e a w _ hO
  obtain ⟨rfl,ok,E,l83⟩:=hO
  refine qaE<|qaj<|qaa<|qad<|mv E rfl fun a E=>lw E (qav rfl rfl (InR.inc r9 (qak hs_0) c10)) fun a E=>av E rfl fun a E=>wpList_nil ?_
  cases hF
  exact qaq ⟨ok,E.keep [0,3,4],l83,(InR.inc r9 (qak hs_0) c10)⟩
 rintro ⟨v34,v35⟩ a w r ⟨ok,E,l36,r37⟩ hF
 replace hF:qfH N s_0 v7 v34 v35 = some r:=hF
 unfold qfH at hF
 refine wp_seq<|sg<|mz E rfl rfl fun a E=>mv E rfl fun a E=>?_
 obtain ⟨x38,e39,hF⟩:=bnd hF
 obtain ⟨b40,o41,es42,hl43,rr44,at45,yy46⟩:=ia E 22 23 qbv hs_0 e39
 obtain ⟨c48,rfl,l47,h49⟩:=rr44
 refine lv E ok (yy46 _ _) fun a E=>fv E qcB rfl fun a E=>lv E ok (qai qd2 rfl (qac.ro (At.sub 1 1 at45))) fun a E=>lv E ok (qao qdR h49 rfl) fun a E=>lw E (qat rfl rfl) fun a E=>wn<|cg E rfl hF (fun c50 hF=>?_) fun c50 hF=>?_
 ·refine wp_exit<|qau ?_
  cases hF
  exact so (⟨rfl,⟨ok,E.keep [0,3,4],l36⟩⟩)
 refine wp_skip<|qaa<|wp_seq<|wp_block<|qad<|mz E rfl rfl fun a E=>mv E rfl fun a E=>?_
 obtain ⟨x51,e52,hF⟩:=bnd hF
 obtain ⟨b53,o54,es55,hl56,rr57,at58,yy59⟩:=ia E 32 33 qbv hs_0 e52
 obtain ⟨c61,rfl,l60,h62⟩:=rr57
 refine lv E ok (yy59 _ _) fun a E=>fv E qcB rfl fun a E=>lv E ok (qai qd2 rfl (qac.ro (At.sub 1 1 at58))) fun a E=>mv E rfl fun a E=>?_
 obtain ⟨x63,e64,hF⟩:=bnd hF
 obtain ⟨b65,o66,es67,hl68,rr69,at70,yy71⟩:=ia E 36 37 qdR h62 e64
 obtain ⟨c73,rfl,l72,h74,l75⟩:=rr69
 refine lv E ok (yy71 _ _) fun a E=>lv E ok (qal (cs:=[vs x63.Kind,c73,vs x63.Next]) qdl rfl rfl (qac.ro at70)) fun a E=>bd hF fun r76 e77 hF=>qas E qrJ rfl (qhL N _ x63 ⟨_,rfl,l72,h74,l75⟩ e77 hG ok) rfl rfl ?_
 rintro _ w ⟨⟨rfl,ok⟩,l78⟩
 refine ⟨_,rfl,fun a E=>?_⟩
 refine bd hF fun s79 e80 hF=>lw E (qaI rfl rfl e80) fun a E=>bd hF fun s81 e82 hF=>lw E (qaI rfl rfl e82) fun a E=>av E rfl fun a E=>wpList_nil<|qaj<|qaa<|qad<|mv E rfl fun a E=>lw E (qav rfl rfl (InR.inc r37 (qak h49) c50)) fun a E=>av E rfl fun a E=>wpList_nil ?_
 cases hF
 exact qaq ⟨ok,E.keep [0,3,4,5],(qaH e82),(InR.inc r37 (qak h49) c50)⟩
end Go.Proofs.YtllfckekodcdaaaGreatDoor
namespace Go.Proofs.YtllfckekodcdaaaGreatDoor
open Go.X
variable {u:World} {m0:Mem} {S:Segs} {w:World}
set_option maxHeartbeats 4000000
set_option maxRecDepth 100000
def qfG (u:World) (m0:Mem) (S:Segs) (r:Bool) (a:Act) (w:World):Prop :=
 Ok u m0 S w ∧ a.defers = [] ∧ RVs Tryz.prog a w [.t 2 (.bool r)]
theorem qjZ (N:Nat) (vs_0:Value) (s_0:List (State)) (hs_0:(pL 2 qbP) m0 [vs_0] s_0) {r:Bool} (hF:qgo N s_0 = some r) (hG:Glob u) (ok:Ok u m0 S w) :
  Calls Tryz.prog 38 [vs_0].toArray w fun e w'=>(e = .returned (.bool r) ∧ Ok u m0 S w'):=by
 unfold qgo at hF
 refine en (qfG u m0 S) r Tryz.func38 rfl rfl rfl (fun _ _ h=>ra h rfl) fun fin a E=>sg<|aw E rfl fun a E=>wp_seq<|sg<|aw E rfl fun a E=>wp_block<|bd hF fun o2 hL hF=>qaC _ (fun (s:Int) a w=>Ok u m0 (S) w ∧ Env 95 a [(0,vs_0),(3,vi s)] ∧ InR .i64 s) (fun (b:(Unit ⊕ Bool)) e a w=>(Sum.elim (fun b123=>e = (.exit 0) ∧ Ok u m0 (S) w ∧ Env 95 a [(0,vs_0)]) (fun b124=>e = .ret ∧ qfG u m0 S b124 a w)) b) ?_ ?_ N _ a w hL ⟨ok,E.keep [0,3],(ir 0)⟩
 rotate_left
 ·intro e a w _ hO
  rcases o2 with o2 | o2
  rotate_left
  ·obtain ⟨rfl,hret⟩:=hO
   refine qah<|qae ?_
   exact fin hF hret
  have hF:=qa1 hF
  obtain ⟨rfl,ok,E⟩:=hO
  refine qaE<|qaa<|sg<|mv E rfl fun a E=>lv E ok (qao qbv hs_0 rfl) fun a E=>lw E (qaZ rfl rfl) fun a E=>mv E rfl fun a E=>bw E 84 hF (fun c118 hF E=>?_) fun c118 hF E=>?_
  ·refine lsq E fun a E=>ls E fun a E=>pf E rfl rfl fun a E=>mv E rfl fun a E=>lsz E fun a E=>pf E rfl rfl fun a E=>aw E rfl fun a E=>wp_ret ?_
   exact fin hF ⟨ok,E.d,rz E rfl⟩
  refine mv E rfl fun a E=>lv E ok (qao qbv hs_0 rfl) fun a E=>lw E (qch rfl rfl) fun a E=>pt E rfl rfl fun a E=>mv E rfl fun a E=>bw E 89 hF (fun c119 hF E=>?_) fun c119 hF E=>?_
  ·refine lsz E fun a E=>pf E rfl rfl fun a E=>aw E rfl fun a E=>wp_ret ?_
   exact fin hF ⟨ok,E.d,rz E rfl⟩
  refine mv E rfl fun a E=>bd hF fun r120 e121 hF=>qas E qt4 rfl (qky N _ s_0 hs_0 e121 hG ok) rfl rfl ?_
  rintro _ w ⟨⟨rfl,ok⟩,l122⟩
  refine ⟨_,rfl,fun a E=>?_⟩
  refine lw E (qaJ Tryz.underlying9 rfl) fun a E=>lw E (qch rfl rfl) fun a E=>pt E rfl rfl fun a E=>aw E rfl fun a E=>wp_ret ?_
  exact fin hF ⟨ok,E.d,rz E rfl⟩
 rintro v4 a w r ⟨ok,E,r5⟩ hF
 replace hF:qfl N s_0 v4 = some r:=hF
 unfold qfl at hF
 refine wp_seq<|sg<|mz E rfl rfl fun a E=>lv E ok (qao qbv hs_0 rfl) fun a E=>lw E (qat rfl rfl) fun a E=>wn<|cg E rfl hF (fun c6 hF=>?_) fun c6 hF=>?_
 ·refine wp_exit<|qau ?_
  cases hF
  exact so (sl ⟨rfl,⟨ok,E.keep [0]⟩⟩)
 refine wp_skip<|qaa<|wp_seq<|wp_block<|wp_seq<|sg<|mv E rfl fun a E=>mv E rfl fun a E=>?_
 obtain ⟨x7,e8,hF⟩:=bnd hF
 obtain ⟨b9,o10,es11,hl12,rr13,at14,yy15⟩:=ia E 12 13 qbv hs_0 e8
 obtain ⟨c17,rfl,l16,h18⟩:=rr13
 refine lv E ok (yy15 _ _) fun a E=>fv E qhp rfl fun a E=>lv E ok (qai qam rfl (qac.ro (At.sub 0 1 at14))) fun a E=>bd hF fun r19 e20 hF=>lc E qm8 rfl (qeu N x7.Name l16 e20 hG ok) fun w ok a E=>lw E (qbl rfl) fun a E=>mv E rfl fun a E=>bu E 19 hF (fun c21 hF E=>?_) fun c21 hF E=>?_
 ·refine lsz E fun a E=>lsz E fun a E=>ls E fun a E=>pt E rfl rfl fun a E=>mv E rfl fun a E=>lsz E fun a E=>ls E fun a E=>?_
  refine lsq E fun a E=>pt E rfl rfl fun a E=>mv E rfl fun a E=>lsz E fun a E=>lsq E fun a E=>ls E fun a E=>pt E rfl rfl fun a E=>wn<|c_if E rfl (fun _=>?_) (fun h=>by cases h)
  refine sg<|aw E rfl fun a E=>wp_ret<|qae<|qah<|qae ?_
  cases hF
  exact so (sr ⟨rfl,⟨ok,E.d,rz E rfl⟩⟩)
 refine mz E rfl rfl fun a E=>mv E rfl fun a E=>?_
 obtain ⟨x22,e23,hF⟩:=bnd hF
 obtain ⟨b24,o25,es26,hl27,rr28,at29,yy30⟩:=ia E 21 22 qbv hs_0 e23
 obtain ⟨c32,rfl,l31,h33⟩:=rr28
 refine lv E ok (yy30 _ _) fun a E=>fv E qhp rfl fun a E=>lv E ok (qai qam rfl (qac.ro (At.sub 0 1 at29))) fun a E=>bd hF fun r34 e35 hF=>qas E qrp rfl (qhd N _ s_0 hs_0 x22.Name l31 e35 hG ok) rfl rfl ?_
 rintro _ w ⟨⟨rfl,ok⟩,r36⟩
 refine ⟨_,rfl,fun a E=>?_⟩
 refine mv E rfl fun a E=>lw E (qbS rfl rfl) fun a E=>pf E rfl rfl fun a E=>mv E rfl fun a E=>bu E 30 hF (fun c37 hF E=>?_) fun c37 hF E=>?_
 ·refine lsz E fun a E=>lsq E fun a E=>ls E fun a E=>pt E rfl rfl fun a E=>mv E rfl fun a E=>lsz E fun a E=>lsq E fun a E=>ls E fun a E=>?_
  refine pt E rfl rfl fun a E=>wn<|c_if E rfl (fun _=>?_) (fun h=>by cases h)
  refine sg<|aw E rfl fun a E=>wp_ret<|qae<|qah<|qae ?_
  cases hF
  exact so (sr ⟨rfl,⟨ok,E.d,rz E rfl⟩⟩)
 refine mz E rfl rfl fun a E=>?_
 obtain ⟨x38,e39,hF⟩:=bnd hF
 obtain ⟨b40,o41,es42,hl43,rr44,at45,yy46⟩:=ia E 31 32 qbv hs_0 e39
 obtain ⟨c48,rfl,l47,h49⟩:=rr44
 refine lv E ok (yy46 _ _) fun a E=>fv E qcB rfl fun a E=>lv E ok (qai qd2 rfl (qac.ro (At.sub 1 1 at45))) fun a E=>lv E ok (qao qdR h49 rfl) fun a E=>lw E (qat rfl rfl) fun a E=>pf E rfl rfl fun a E=>mv E rfl fun a E=>bu E 39 hF (fun c50 hF E=>?_) fun c50 hF E=>?_
 ·refine lsz E fun a E=>lsq E fun a E=>ls E fun a E=>pt E rfl rfl fun a E=>wn<|c_if E rfl (fun _=>?_) (fun h=>by cases h)
  refine sg<|aw E rfl fun a E=>wp_ret<|qae<|qah<|qae ?_
  cases hF
  exact so (sr ⟨rfl,⟨ok,E.d,rz E rfl⟩⟩)
 refine mz E rfl rfl fun a E=>?_
 obtain ⟨x51,e52,hF⟩:=bnd hF
 obtain ⟨b53,o54,es55,hl56,rr57,at58,yy59⟩:=ia E 40 41 qbv hs_0 e52
 obtain ⟨c61,rfl,l60,h62⟩:=rr57
 refine lv E ok (yy59 _ _) fun a E=>fv E qcB rfl fun a E=>lv E ok (qai qd2 rfl (qac.ro (At.sub 1 1 at58))) fun a E=>lv E ok (qao qdR h62 rfl) fun a E=>lw E (qca rfl rfl) fun a E=>pf E rfl rfl fun a E=>wn<|cf E rfl hF (fun c63 hF=>?_) fun c63 hF=>?_
 ·refine sg<|aw E rfl fun a E=>wp_ret<|qae<|qah<|qae ?_
  cases hF
  exact so (sr ⟨rfl,⟨ok,E.d,rz E rfl⟩⟩)
 refine wp_skip<|qaa<|sg<|aw E rfl fun a E=>wp_block<|bd hF fun o65 hL hF=>qaC _ (fun (s:Int) a w=>Ok u m0 (S) w ∧ Env 95 a [(0,vs_0),(3,vi v4),(4,vi s)] ∧ InR .i64 s) (fun (b:(Unit ⊕ Bool)) e a w=>(Sum.elim (fun b116=>e = (.exit 2) ∧ Ok u m0 (S) w ∧ Env 95 a [(0,vs_0),(3,vi v4)]) (fun b117=>e = .ret ∧ qfG u m0 S b117 a w)) b) ?_ ?_ N _ a w hL ⟨ok,E.keep [0,3,4],(ir 0)⟩
 rotate_left
 ·intro e a w _ hO
  rcases o65 with o65 | o65
  rotate_left
  ·have hF:=qgT hF
   obtain ⟨rfl,hret⟩:=hO
   refine qah<|qah<|qae ?_
   cases hF
   exact so (sr ⟨rfl,hret⟩)
  have hF:=qa1 hF
  obtain ⟨rfl,ok,E⟩:=hO
  refine qaE<|qaj<|qaa<|qad<|mv E rfl fun a E=>lw E (qav rfl rfl (InR.inc r5 (qak hs_0) c6)) fun a E=>av E rfl fun a E=>wpList_nil ?_
  cases hF
  exact qaq ⟨ok,E.keep [0,3],(InR.inc r5 (qak hs_0) c6)⟩
 rintro v67 a w r ⟨ok,E,r68⟩ hF
 replace hF:qfa N s_0 v4 v67 = some r:=hF
 unfold qfa at hF
 refine wp_seq<|sg<|mz E rfl rfl fun a E=>mv E rfl fun a E=>?_
 obtain ⟨x69,e70,hF⟩:=bnd hF
 obtain ⟨b71,o72,es73,hl74,rr75,at76,yy77⟩:=ia E 49 50 qbv hs_0 e70
 obtain ⟨c79,rfl,l78,h80⟩:=rr75
 refine lv E ok (yy77 _ _) fun a E=>fv E qcB rfl fun a E=>lv E ok (qai qd2 rfl (qac.ro (At.sub 1 1 at76))) fun a E=>lv E ok (qao qdR h80 rfl) fun a E=>lw E (qat rfl rfl) fun a E=>wn<|cg E rfl hF (fun c81 hF=>?_) fun c81 hF=>?_
 ·refine wp_exit<|qau ?_
  cases hF
  exact so (sl ⟨rfl,⟨ok,E.keep [0,3]⟩⟩)
 refine wp_skip<|qaa<|wp_seq<|wp_block<|sg<|mz E rfl rfl fun a E=>?_
 obtain ⟨x82,e83,hF⟩:=bnd hF
 obtain ⟨b84,o85,es86,hl87,rr88,at89,yy90⟩:=ia E 58 59 qbv hs_0 e83
 obtain ⟨c92,rfl,l91,h93⟩:=rr88
 refine lv E ok (yy90 _ _) fun a E=>fv E qcB rfl fun a E=>lv E ok (qai qd2 rfl (qac.ro (At.sub 1 1 at89))) fun a E=>mv E rfl fun a E=>?_
 obtain ⟨x94,e95,hF⟩:=bnd hF
 obtain ⟨b96,o97,es98,hl99,rr100,at101,yy102⟩:=ia E 62 63 qdR h93 e95
 obtain ⟨c104,rfl,l103,h105,l106⟩:=rr100
 refine lv E ok (yy102 _ _) fun a E=>lv E ok (qal (cs:=[vs x94.Kind,c104,vs x94.Next]) qdl rfl rfl (qac.ro at101)) fun a E=>qaB E ok qdc rfl rfl fun b107 a w E ok=>qaf E ok 0 rfl rfl rfl qgh rfl rfl ⟨rfl,(qaS h105),rfl,trivial⟩ rfl rfl fun w ok=>wn<|sg<|lv E ok (qal (cs:=[vs x94.Kind,c104,vs x94.Next]) qdl rfl rfl (qac.own 0 rfl rfl)) fun a E=>bd hF fun r108 e109 hF=>lc E qpb rfl (qfj N _ x94 ⟨_,rfl,l103,h105,l106⟩ e109 hG ok) fun w ok a E=>lw E (qbl rfl) fun a E=>mv E rfl fun a E=>bu E 69 hF (fun c110 hF E=>?_) fun c110 hF E=>?_
 ·refine lsz E fun a E=>lsz E fun a E=>lsq E fun a E=>pt E rfl rfl fun a E=>wn<|c_if E rfl (fun _=>?_) (fun h=>by cases h)
  refine sg<|aw E rfl fun a E=>wp_ret<|qah<|qae ?_
  cases hF
  exact so (sr ⟨rfl,⟨ok.drop,E.d,rz E rfl⟩⟩)
 refine fk E ok qfR qam rfl 0 rfl rfl fun a E=>lw E (qbZ rfl rfl) fun a E=>mv E rfl fun a E=>bw E 73 hF (fun c111 hF E=>?_) fun c111 hF E=>?_
 ·refine lsz E fun a E=>ls E fun a E=>pf E rfl rfl fun a E=>pf E rfl rfl fun a E=>wn<|c_if E rfl (fun h=>by cases h) (fun _=>?_)
  refine wp_skip<|qaj<|qaa<|qad<|mv E rfl fun a E=>lw E (qav rfl rfl (InR.inc r68 (qak h80) c81)) fun a E=>av E rfl fun a E=>wpList_nil ?_
  cases hF
  exact qaq ⟨(ok.pk 1 [] rfl (by decide)),E.keep [0,3,4],(InR.inc r68 (qak h80) c81)⟩
 refine mv E rfl fun a E=>fk E ok qfR qam rfl 0 rfl rfl fun a E=>bd hF fun r112 e113 hF=>qas E qrp rfl (qhd N _ s_0 hs_0 x94.Next l106 e113 hG ok) rfl rfl ?_
 rintro _ w ⟨⟨rfl,ok⟩,r114⟩
 refine ⟨_,rfl,fun a E=>?_⟩
 refine lw E (qat rfl rfl) fun a E=>pt E rfl rfl fun a E=>pf E rfl rfl fun a E=>wn<|cg E rfl hF (fun c115 hF=>?_) fun c115 hF=>?_
 ·refine wp_skip<|qaj<|qaa<|qad<|mv E rfl fun a E=>lw E (qav rfl rfl (InR.inc r68 (qak h80) c81)) fun a E=>av E rfl fun a E=>wpList_nil ?_
  cases hF
  exact qaq ⟨(ok.pk 1 [] rfl (by decide)),E.keep [0,3,4],(InR.inc r68 (qak h80) c81)⟩
 refine sg<|aw E rfl fun a E=>wp_ret<|qah<|qae ?_
 cases hF
 exact so (sr ⟨rfl,⟨ok.drop,E.d,rz E rfl⟩⟩)
def qfO (u:World) (m0:Mem) (S:Segs) (r:Bool) (a:Act) (w:World):Prop :=
 Ok u m0 S w ∧ a.defers = [] ∧ RVs Tryz.prog a w [.t 4 (.bool r)]
theorem qfN (N:Nat) (va_0:Value) (a_0:List (List UInt8)) (ha_0:(pL 1 pS) m0 [va_0] a_0) (vb_1:Value) (b_1:List (List UInt8)) (hb_1:(pL 1 pS) m0 [vb_1] b_1) {r:Bool} (hF:qb4 N a_0 b_1 = some r) (hG:Glob u) (ok:Ok u m0 S w) :
  Calls Tryz.prog 20 [va_0,vb_1].toArray w fun e w'=>(e = .returned (.bool r) ∧ Ok u m0 S w'):=by
 unfold qb4 at hF
 refine en (qfO u m0 S) r Tryz.func20 rfl rfl rfl (fun _ _ h=>ra h rfl) fun fin a E=>sg<|aw E rfl fun a E=>wp_seq<|sg<|mv E rfl fun a E=>lv E ok (qao qdY ha_0 rfl) fun a E=>mv E rfl fun a E=>lv E ok (qao qdY hb_1 rfl) fun a E=>lw E (qbS rfl rfl) fun a E=>wn<|cf E rfl hF (fun c1 hF=>?_) fun c1 hF=>?_
 ·refine sg<|aw E rfl fun a E=>wp_ret<|qae ?_
  exact fin hF ⟨ok,E.d,rz E rfl⟩
 refine wp_skip<|qaa<|wp_seq<|sg<|aw E rfl fun a E=>wp_block<|bd hF fun o3 hL hF=>qaC _ (fun (s:Int) a w=>Ok u m0 (S) w ∧ Env 26 a [(0,va_0),(1,vb_1),(5,vi s)] ∧ InR .i64 s) (fun (b:(Unit ⊕ Bool)) e a w=>(Sum.elim (fun b29=>e = (.exit 0) ∧ Ok u m0 (S) w ∧ Env 26 a []) (fun b30=>e = .ret ∧ qfO u m0 S b30 a w)) b) ?_ ?_ N _ a w hL ⟨ok,E.keep [0,1,5],(ir 0)⟩
 rotate_left
 ·intro e a w _ hO
  rcases o3 with o3 | o3
  rotate_left
  ·obtain ⟨rfl,hret⟩:=hO
   refine qah<|qae ?_
   exact fin hF hret
  have hF:=qa1 hF
  obtain ⟨rfl,ok,E⟩:=hO
  refine qaE<|qaa<|sg<|aw E rfl fun a E=>wp_ret ?_
  exact fin hF ⟨ok,E.d,rz E rfl⟩
 rintro v5 a w r ⟨ok,E,r6⟩ hF
 replace hF:qbQ N a_0 b_1 v5 = some r:=hF
 unfold qbQ at hF
 refine wp_seq<|sg<|mz E rfl rfl fun a E=>lv E ok (qao qdY ha_0 rfl) fun a E=>lw E (qat rfl rfl) fun a E=>wn<|cg E rfl hF (fun c7 hF=>?_) fun c7 hF=>?_
 ·refine wp_exit<|qau ?_
  cases hF
  exact so (sl ⟨rfl,⟨ok,E.keep []⟩⟩)
 refine wp_skip<|qaa<|wp_seq<|wp_block<|wp_seq<|qaY (by kernel_rfl) (by kernel_rfl) ok<|qv E (qab rfl) fun a E=>qv E (qab rfl) fun a E=>?_
 obtain ⟨x8,e9,hF⟩:=bnd hF
 obtain ⟨b10,o11,es12,hl13,rr14,at15,yy16⟩:=ia E 17 18 qdY ha_0 e9
 obtain ⟨rfl,l17⟩:=rr14
 refine qv E (yy16 _ _) fun a E=>qv E (qai qam rfl (qac.ro at15)) fun a E=>qv E (qab rfl) fun a E=>qv E (qab rfl) fun a E=>?_
 obtain ⟨x18,e19,hF⟩:=bnd hF
 obtain ⟨b20,o21,es22,hl23,rr24,at25,yy26⟩:=ia E 21 22 qdY hb_1 e19
 obtain ⟨rfl,l27⟩:=rr24
 refine qv E (yy26 _ _) fun a E=>qv E (qai qam rfl (qac.ro at25)) fun a E=>qv E (qbZ rfl rfl) fun a E=>wpQuiet_nil ?_
 intro w ok
 refine qaa<|cg E rfl hF (fun c28 hF=>?_) fun c28 hF=>?_
 ·refine wp_skip<|qaj<|qaa<|qad<|mv E rfl fun a E=>lw E (qav rfl rfl (InR.inc r6 (qak ha_0) c7)) fun a E=>av E rfl fun a E=>wpList_nil ?_
  cases hF
  exact qaq ⟨ok,E.keep [0,1,5],(InR.inc r6 (qak ha_0) c7)⟩
 refine sg<|aw E rfl fun a E=>wp_ret<|qah<|qae ?_
 cases hF
 exact so (sr ⟨rfl,⟨ok,E.d,rz E rfl⟩⟩)
end Go.Proofs.YtllfckekodcdaaaGreatDoor
namespace Go.Proofs.YtllfckekodcdaaaGreatDoor
open Go.X
variable {u:World} {m0:Mem} {S:Segs} {w:World}
set_option maxHeartbeats 4000000
set_option maxRecDepth 100000
def qgl (u:World) (m0:Mem) (S:Segs) (r:Bool) (a:Act) (w:World):Prop :=
 Ok u m0 S w ∧ a.defers = [] ∧ RVs Tryz.prog a w [.t 4 (.bool r)]
theorem qgk (N:Nat) (vx_0:List Value) (x_0:Entry) (hx_0:qc7 m0 vx_0 x_0) (vy_1:List Value) (y_1:Entry) (hy_1:qc7 m0 vy_1 y_1) {r:Bool} (hF:qbK N x_0 y_1 = some r) (hG:Glob u) (ok:Ok u m0 S w) :
  Calls Tryz.prog 19 [.agg vx_0.toArray,.agg vy_1.toArray].toArray w fun e w'=>(e = .returned (.bool r) ∧ Ok u m0 S w'):=by
 obtain ⟨c4,c6,c9,rfl,l1,l2,l3,h5,h7,r8,h10⟩:=hx_0
 obtain ⟨c14,c16,c19,rfl,l11,l12,l13,h15,h17,r18,h20⟩:=hy_1
 unfold qbK at hF
 refine en (qgl u m0 S) r Tryz.func19 rfl rfl rfl (fun _ _ h=>ra h rfl) fun fin a E=>sg<|qdi E ok rfl rfl rfl fun b21 a w E ok=>qdi E ok rfl rfl rfl fun b22 a w E ok=>aw E rfl fun a E=>wp_seq<|sg<|fk E ok qgg qam rfl 1 rfl rfl fun a E=>fk E ok qgg qam rfl 0 rfl rfl fun a E=>lw E (qbZ rfl rfl) fun a E=>mv E rfl fun a E=>bu E 11 hF (fun c23 hF E=>?_) fun c23 hF E=>?_
 ·refine lsz E fun a E=>ls E fun a E=>pt E rfl rfl fun a E=>mv E rfl fun a E=>lsz E fun a E=>ls E fun a E=>pt E rfl rfl fun a E=>mv E rfl fun a E=>lsq E fun a E=>?_
  refine lsq E fun a E=>ls E fun a E=>pt E rfl rfl fun a E=>mv E rfl fun a E=>lsz E fun a E=>lsq E fun a E=>pt E rfl rfl fun a E=>mv E rfl fun a E=>lsq E fun a E=>ls E fun a E=>?_
  refine lsq E fun a E=>ls E fun a E=>pt E rfl rfl fun a E=>mv E rfl fun a E=>lsz E fun a E=>lsq E fun a E=>ls E fun a E=>pt E rfl rfl fun a E=>wn<|c_if E rfl (fun _=>?_) (fun h=>by cases h)
  refine sg<|aw E rfl fun a E=>wp_ret<|qae ?_
  exact fin hF ⟨ok.drop.drop,E.d,rz E rfl⟩
 refine fk E ok qmz qam rfl 1 rfl rfl fun a E=>fk E ok qmz qam rfl 0 rfl rfl fun a E=>lw E (qbZ rfl rfl) fun a E=>pf E rfl rfl fun a E=>mv E rfl fun a E=>bu E 18 hF (fun c24 hF E=>?_) fun c24 hF E=>?_
 ·refine lsz E fun a E=>ls E fun a E=>pt E rfl rfl fun a E=>mv E rfl fun a E=>lsz E fun a E=>ls E fun a E=>pt E rfl rfl fun a E=>mv E rfl fun a E=>lsq E fun a E=>?_
  refine lsz E fun a E=>pt E rfl rfl fun a E=>mv E rfl fun a E=>lsz E fun a E=>lsq E fun a E=>pt E rfl rfl fun a E=>mv E rfl fun a E=>lsq E fun a E=>?_
  refine lsz E fun a E=>ls E fun a E=>pt E rfl rfl fun a E=>wn<|c_if E rfl (fun _=>?_) (fun h=>by cases h)
  refine sg<|aw E rfl fun a E=>wp_ret<|qae ?_
  exact fin hF ⟨ok.drop.drop,E.d,rz E rfl⟩
 refine fk E ok qoX qam rfl 1 rfl rfl fun a E=>fk E ok qoX qam rfl 0 rfl rfl fun a E=>lw E (qbZ rfl rfl) fun a E=>pf E rfl rfl fun a E=>mv E rfl fun a E=>bu E 25 hF (fun c25 hF E=>?_) fun c25 hF E=>?_
 ·refine lsz E fun a E=>ls E fun a E=>pt E rfl rfl fun a E=>mv E rfl fun a E=>lsz E fun a E=>lsq E fun a E=>pt E rfl rfl fun a E=>mv E rfl fun a E=>ls E fun a E=>?_
  refine lsz E fun a E=>ls E fun a E=>pt E rfl rfl fun a E=>mv E rfl fun a E=>lsz E fun a E=>lsq E fun a E=>ls E fun a E=>pt E rfl rfl fun a E=>wn<|c_if E rfl (fun _=>?_) (fun h=>by cases h)
  refine sg<|aw E rfl fun a E=>wp_ret<|qae ?_
  exact fin hF ⟨ok.drop.drop,E.d,rz E rfl⟩
 refine fk E ok qoP qaQ rfl 1 rfl rfl fun a E=>fk E ok qoP qaQ rfl 0 rfl rfl fun a E=>lw E (qbS rfl rfl) fun a E=>pf E rfl rfl fun a E=>mv E rfl fun a E=>bu E 32 hF (fun c26 hF E=>?_) fun c26 hF E=>?_
 ·refine lsz E fun a E=>lsq E fun a E=>pt E rfl rfl fun a E=>mv E rfl fun a E=>lsz E fun a E=>lsq E fun a E=>pt E rfl rfl fun a E=>mv E rfl fun a E=>?_
  refine lsz E fun a E=>lsq E fun a E=>ls E fun a E=>pt E rfl rfl fun a E=>wn<|c_if E rfl (fun _=>?_) (fun h=>by cases h)
  refine sg<|aw E rfl fun a E=>wp_ret<|qae ?_
  exact fin hF ⟨ok.drop.drop,E.d,rz E rfl⟩
 refine fk E ok qd3 qfr rfl 1 rfl rfl fun a E=>fk E ok qd3 qfr rfl 0 rfl rfl fun a E=>bd hF fun r27 e28 hF=>lc E qrz rfl (qfN N _ x_0.Comments h5 _ y_1.Comments h15 e28 hG ok) fun w ok a E=>lw E (qbl rfl) fun a E=>pf E rfl rfl fun a E=>mv E rfl fun a E=>bu E 40 hF (fun c29 hF E=>?_) fun c29 hF E=>?_
 ·refine lsz E fun a E=>lsq E fun a E=>pt E rfl rfl fun a E=>mv E rfl fun a E=>lsz E fun a E=>lsq E fun a E=>ls E fun a E=>pt E rfl rfl fun a E=>?_
  refine wn<|c_if E rfl (fun _=>?_) (fun h=>by cases h)
  refine sg<|aw E rfl fun a E=>wp_ret<|qae ?_
  exact fin hF ⟨ok.drop.drop,E.d,rz E rfl⟩
 refine fk E ok qov qfr rfl 1 rfl rfl fun a E=>fk E ok qov qfr rfl 0 rfl rfl fun a E=>bd hF fun r30 e31 hF=>lc E qrz rfl (qfN N _ x_0.Flags h7 _ y_1.Flags h17 e31 hG ok) fun w ok a E=>lw E (qbl rfl) fun a E=>pf E rfl rfl fun a E=>mv E rfl fun a E=>bu E 48 hF (fun c32 hF E=>?_) fun c32 hF E=>?_
 ·refine lsz E fun a E=>lsq E fun a E=>ls E fun a E=>pt E rfl rfl fun a E=>wn<|c_if E rfl (fun _=>?_) (fun h=>by cases h)
  refine sg<|aw E rfl fun a E=>wp_ret<|qae ?_
  exact fin hF ⟨ok.drop.drop,E.d,rz E rfl⟩
 refine fk E ok qbD qb3 rfl 1 rfl rfl fun a E=>lv E ok (qao qbG h10 rfl) fun a E=>fk E ok qbD qb3 rfl 0 rfl rfl fun a E=>lv E ok (qao qbG h20 rfl) fun a E=>lw E (qbS rfl rfl) fun a E=>pf E rfl rfl fun a E=>wn<|cf E rfl hF (fun c33 hF=>?_) fun c33 hF=>?_
 ·refine sg<|aw E rfl fun a E=>wp_ret<|qae ?_
  exact fin hF ⟨ok.drop.drop,E.d,rz E rfl⟩
 refine wp_skip<|qaa<|wp_seq<|sg<|aw E rfl fun a E=>wp_block<|bd hF fun o35 hL hF=>qaC _ (fun (s:Int) a w=>Ok u m0 ([(b22,oc 53 [vs y_1.ID,vs y_1.Source,vs y_1.Target,c14,c16,vi y_1.State,c19])] :: [(b21,oc 53 [vs x_0.ID,vs x_0.Source,vs x_0.Target,c4,c6,vi x_0.State,c9])] :: S) w ∧ Env 75 a [(2,vp b21),(3,vp b22),(5,vi s)] ∧ InR .i64 s) (fun (b:(Unit ⊕ Bool)) e a w=>(Sum.elim (fun b63=>e = (.exit 0) ∧ Ok u m0 ([(b22,oc 53 [vs y_1.ID,vs y_1.Source,vs y_1.Target,c14,c16,vi y_1.State,c19])] :: [(b21,oc 53 [vs x_0.ID,vs x_0.Source,vs x_0.Target,c4,c6,vi x_0.State,c9])] :: S) w ∧ Env 75 a []) (fun b64=>e = .ret ∧ qgl u m0 S b64 a w)) b) ?_ ?_ N _ a w hL ⟨ok,E.keep [2,3,5],(ir 0)⟩
 rotate_left
 ·intro e a w _ hO
  rcases o35 with o35 | o35
  rotate_left
  ·obtain ⟨rfl,hret⟩:=hO
   refine qah<|qae ?_
   exact fin hF hret
  have hF:=qa1 hF
  obtain ⟨rfl,ok,E⟩:=hO
  refine qaE<|qaa<|sg<|aw E rfl fun a E=>wp_ret ?_
  exact fin hF ⟨ok.drop.drop,E.d,rz E rfl⟩
 rintro v37 a w r ⟨ok,E,r38⟩ hF
 replace hF:qbX N x_0 y_1 v37 = some r:=hF
 unfold qbX at hF
 refine wp_seq<|sg<|mv E rfl fun a E=>fk E ok qbD qb3 rfl 1 rfl rfl fun a E=>lv E ok (qao qbG h10 rfl) fun a E=>lw E (qat rfl rfl) fun a E=>wn<|cg E rfl hF (fun c39 hF=>?_) fun c39 hF=>?_
 ·refine wp_exit<|qau ?_
  cases hF
  exact so (sl ⟨rfl,⟨ok,E.keep []⟩⟩)
 refine wp_skip<|qaa<|wp_seq<|wp_block<|wp_seq<|qaY (by kernel_rfl) (by kernel_rfl) ok<|qv E (qag qbD rfl) fun a E=>qv E (qai qb3 rfl (qac.own 1 rfl rfl)) fun a E=>qv E (qab rfl) fun a E=>?_
 obtain ⟨x40,e41,hF⟩:=bnd hF
 obtain ⟨b42,o43,es44,hl45,rr46,at47,yy48⟩:=ia E 65 66 qbG h10 e41
 obtain ⟨rfl,l49,l50⟩:=rr46
 refine qv E (yy48 _ _) fun a E=>qv E (qal (cs:=[vs x40.Name,vs x40.Value]) qqm rfl rfl (qac.ro at47)) fun a E=>qv E (qag qbD rfl) fun a E=>qv E (qai qb3 rfl (qac.own 0 rfl rfl)) fun a E=>qv E (qab rfl) fun a E=>?_
 obtain ⟨x51,e52,hF⟩:=bnd hF
 obtain ⟨b53,o54,es55,hl56,rr57,at58,yy59⟩:=ia E 70 71 qbG h20 e52
 obtain ⟨rfl,l60,l61⟩:=rr57
 refine qv E (yy59 _ _) fun a E=>qv E (qal (cs:=[vs x51.Name,vs x51.Value]) qqm rfl rfl (qac.ro at58)) fun a E=>qv E (qsT qsZ (qpA Tryz.underlying58 qqR (qmI (by decide) (qbW qam rfl) (qbW qam rfl) (qoK Tryz.underlying9) (qp0 (by decide) (qbW qam rfl) (qbW qam rfl) (qoK Tryz.underlying9)))) rfl rfl) fun a E=>wpQuiet_nil ?_
 intro w ok
 refine qaa<|cg E rfl hF (fun c62 hF=>?_) fun c62 hF=>?_
 ·refine wp_skip<|qaj<|qaa<|qad<|mv E rfl fun a E=>lw E (qav rfl rfl (InR.inc r38 (qak h10) c39)) fun a E=>av E rfl fun a E=>wpList_nil ?_
  cases hF
  exact qaq ⟨ok,E.keep [2,3,5],(InR.inc r38 (qak h10) c39)⟩
 refine sg<|aw E rfl fun a E=>wp_ret<|qah<|qae ?_
 cases hF
 exact so (sr ⟨rfl,⟨ok.drop.drop,E.d,rz E rfl⟩⟩)
def qhD (u:World) (m0:Mem) (S:Segs) (r:Bool) (a:Act) (w:World):Prop :=
 Ok u m0 S w ∧ a.defers = [] ∧ RVs Tryz.prog a w [.t 4 (.bool r)]
theorem qkg (N:Nat) (va_0:Value) (a_0:List (Entry)) (ha_0:(pL 7 qc7) m0 [va_0] a_0) (vb_1:Value) (b_1:List (Entry)) (hb_1:(pL 7 qc7) m0 [vb_1] b_1) {r:Bool} (hF:qgD N a_0 b_1 = some r) (hG:Glob u) (ok:Ok u m0 S w) :
  Calls Tryz.prog 21 [va_0,vb_1].toArray w fun e w'=>(e = .returned (.bool r) ∧ Ok u m0 S w'):=by
 unfold qgD at hF
 refine en (qhD u m0 S) r Tryz.func21 rfl rfl rfl (fun _ _ h=>ra h rfl) fun fin a E=>sg<|aw E rfl fun a E=>wp_seq<|sg<|mv E rfl fun a E=>lv E ok (qao qb0 ha_0 rfl) fun a E=>mv E rfl fun a E=>lv E ok (qao qb0 hb_1 rfl) fun a E=>lw E (qbS rfl rfl) fun a E=>wn<|cf E rfl hF (fun c1 hF=>?_) fun c1 hF=>?_
 ·refine sg<|aw E rfl fun a E=>wp_ret<|qae ?_
  exact fin hF ⟨ok,E.d,rz E rfl⟩
 refine wp_skip<|qaa<|wp_seq<|sg<|aw E rfl fun a E=>wp_block<|bd hF fun o3 hL hF=>qaC _ (fun (s:Int) a w=>Ok u m0 (S) w ∧ Env 27 a [(0,va_0),(1,vb_1),(5,vi s)] ∧ InR .i64 s) (fun (b:(Unit ⊕ Bool)) e a w=>(Sum.elim (fun b49=>e = (.exit 0) ∧ Ok u m0 (S) w ∧ Env 27 a []) (fun b50=>e = .ret ∧ qhD u m0 S b50 a w)) b) ?_ ?_ N _ a w hL ⟨ok,E.keep [0,1,5],(ir 0)⟩
 rotate_left
 ·intro e a w _ hO
  rcases o3 with o3 | o3
  rotate_left
  ·obtain ⟨rfl,hret⟩:=hO
   refine qah<|qae ?_
   exact fin hF hret
  have hF:=qa1 hF
  obtain ⟨rfl,ok,E⟩:=hO
  refine qaE<|qaa<|sg<|aw E rfl fun a E=>wp_ret ?_
  exact fin hF ⟨ok,E.d,rz E rfl⟩
 rintro v5 a w r ⟨ok,E,r6⟩ hF
 replace hF:qfA N a_0 b_1 v5 = some r:=hF
 unfold qfA at hF
 refine wp_seq<|sg<|mz E rfl rfl fun a E=>lv E ok (qao qb0 ha_0 rfl) fun a E=>lw E (qat rfl rfl) fun a E=>wn<|cg E rfl hF (fun c7 hF=>?_) fun c7 hF=>?_
 ·refine wp_exit<|qau ?_
  cases hF
  exact so (sl ⟨rfl,⟨ok,E.keep []⟩⟩)
 refine wp_skip<|qaa<|wp_seq<|wp_block<|wp_seq<|qaY (by kernel_rfl) (by kernel_rfl) ok<|qv E (qab rfl) fun a E=>qv E (qab rfl) fun a E=>?_
 obtain ⟨x8,e9,hF⟩:=bnd hF
 obtain ⟨b10,o11,es12,hl13,rr14,at15,yy16⟩:=ia E 17 18 qb0 ha_0 e9
 obtain ⟨c20,c22,c25,rfl,l17,l18,l19,h21,h23,r24,h26⟩:=rr14
 refine qv E (yy16 _ _) fun a E=>qv E (qal (cs:=[vs x8.ID,vs x8.Source,vs x8.Target,c20,c22,vi x8.State,c25]) qgv rfl rfl (qac.ro at15)) fun a E=>qv E (qab rfl) fun a E=>qv E (qab rfl) fun a E=>?_
 obtain ⟨x27,e28,hF⟩:=bnd hF
 obtain ⟨b29,o30,es31,hl32,rr33,at34,yy35⟩:=ia E 21 22 qb0 hb_1 e28
 obtain ⟨c39,c41,c44,rfl,l36,l37,l38,h40,h42,r43,h45⟩:=rr33
 refine qv E (yy35 _ _) fun a E=>qv E (qal (cs:=[vs x27.ID,vs x27.Source,vs x27.Target,c39,c41,vi x27.State,c44]) qgv rfl rfl (qac.ro at34)) fun a E=>bd hF fun r46 e47 hF=>qe6 E qrx rfl (fun w ok=>(qgk N _ x8 ⟨_,_,_,rfl,l17,l18,l19,h21,h23,r24,h26⟩ _ x27 ⟨_,_,_,rfl,l36,l37,l38,h40,h42,r43,h45⟩ e47 hG ok).mono (fun _ _ h=>h)) rfl rfl fun a E=>qv E (qbl rfl) fun a E=>wpQuiet_nil ?_
 intro w ok
 refine qaa<|cg E rfl hF (fun c48 hF=>?_) fun c48 hF=>?_
 ·refine wp_skip<|qaj<|qaa<|qad<|mv E rfl fun a E=>lw E (qav rfl rfl (InR.inc r6 (qak ha_0) c7)) fun a E=>av E rfl fun a E=>wpList_nil ?_
  cases hF
  exact qaq ⟨ok,E.keep [0,1,5],(InR.inc r6 (qak ha_0) c7)⟩
 refine sg<|aw E rfl fun a E=>wp_ret<|qah<|qae ?_
 cases hF
 exact so (sr ⟨rfl,⟨ok,E.d,rz E rfl⟩⟩)
def qkR (u:World) (m0:Mem) (S:Segs) (r:Bool) (a:Act) (w:World):Prop :=
 Ok u m0 S w ∧ a.defers = [] ∧ RVs Tryz.prog a w [.t 2 (.bool r)]
theorem qkW (N:Nat) (vs_0:Value) (s_0:List (State)) (hs_0:(pL 2 qbP) m0 [vs_0] s_0) {r:Bool} (hF:qeC N s_0 = some r) (hG:Glob u) (ok:Ok u m0 S w) :
  Calls Tryz.prog 32 [vs_0].toArray w fun e w'=>(e = .returned (.bool r) ∧ Ok u m0 S w'):=by
 unfold qeC at hF
 refine en (qkR u m0 S) r Tryz.func32 rfl rfl rfl (fun _ _ h=>ra h rfl) fun fin a E=>sg<|aw E rfl fun a E=>sg<|aw E rfl fun a E=>wp_seq<|sg<|av E rfl fun a E=>wn<|wp_block<|bd hF fun o3 hL hF=>qaC _ (fun (s:Int × Int) a w=>Ok u m0 (S) w ∧ Env 83 a [(0,vs_0),(3,vi s.1),(4,vi s.2)] ∧ InR .i64 s.1 ∧ InR .i64 s.2) (fun (b:Int) e a w=>e = (.exit 0) ∧ Ok u m0 (S) w ∧ Env 83 a [(3,vi b)] ∧ InR .i64 b) ?_ ?_ N _ a w hL ⟨ok,E.keep [0,3,4],(ir 0),(ir 0)⟩
 rotate_left
 ·intro e a w _ hO
  obtain ⟨rfl,ok,E,r113⟩:=hO
  refine qaE<|qaa<|sg<|mv E rfl fun a E=>lw E (qch rfl rfl) fun a E=>av E rfl fun a E=>wn<|wp_ret ?_
  exact fin hF ⟨ok,E.d,rz E rfl⟩
 rintro ⟨v6,v7⟩ a w r ⟨ok,E,r8,r9⟩ hF
 replace hF:qcX N s_0 v6 v7 = some r:=hF
 unfold qcX at hF
 refine wp_seq<|sg<|mz E rfl rfl fun a E=>lv E ok (qao qbv hs_0 rfl) fun a E=>lw E (qat rfl rfl) fun a E=>wn<|cg E rfl hF (fun c10 hF=>?_) fun c10 hF=>?_
 ·refine wp_exit<|qau ?_
  cases hF
  exact so (⟨rfl,⟨ok,E.keep [3],r8⟩⟩)
 refine wp_skip<|qaa<|wp_seq<|wp_block<|wp_seq<|sg<|av E rfl fun a E=>wn<|wp_block<|bd hF fun o13 hL hF=>qaC _ (fun (s:Int × Int) a w=>Ok u m0 (S) w ∧ Env 83 a [(0,vs_0),(3,vi s.1),(4,vi v7),(5,vi s.2)] ∧ InR .i64 s.1 ∧ InR .i64 s.2) (fun (b:Int) e a w=>e = (.exit 2) ∧ Ok u m0 (S) w ∧ Env 83 a [(0,vs_0),(3,vi b),(4,vi v7)] ∧ InR .i64 b) ?_ ?_ N _ a w hL ⟨ok,E.keep [0,3,4,5],r8,(ir 0)⟩
 rotate_left
 ·intro e a w _ hO
  obtain ⟨rfl,ok,E,r99⟩:=hO
  refine qaE<|qaa<|qad<|mz E rfl rfl fun a E=>mv E rfl fun a E=>?_
  obtain ⟨x100,e101,hF⟩:=bnd hF
  obtain ⟨b102,o103,es104,hl105,rr106,at107,yy108⟩:=ia E 72 73 qbv hs_0 e101
  obtain ⟨c110,rfl,l109,h111⟩:=rr106
  refine lv E ok (yy108 _ _) fun a E=>fv E qhp rfl fun a E=>lv E ok (qai qam rfl (qac.ro (At.sub 0 1 at107))) fun a E=>lw E (qaJ Tryz.underlying9 rfl) fun a E=>lv E ok (qkG rfl rfl (by decide)) fun a E=>lw E (qaw rfl rfl) fun a E=>lw E (qaw rfl rfl) fun a E=>av E rfl fun a E=>wpList_nil<|qaj<|qaa<|qad<|mv E rfl fun a E=>lw E (qav rfl rfl (InR.inc r9 (qak hs_0) c10)) fun a E=>av E rfl fun a E=>wpList_nil ?_
  cases hF
  exact qaq ⟨ok,E.keep [0,3,4],(InR.wrap _ _),(InR.inc r9 (qak hs_0) c10)⟩
 rintro ⟨v16,v17⟩ a w r ⟨ok,E,r18,r19⟩ hF
 replace hF:qcW N s_0 v7 v16 v17 = some r:=hF
 unfold qcW at hF
 refine wp_seq<|sg<|mz E rfl rfl fun a E=>mv E rfl fun a E=>?_
 obtain ⟨x20,e21,hF⟩:=bnd hF
 obtain ⟨b22,o23,es24,hl25,rr26,at27,yy28⟩:=ia E 15 16 qbv hs_0 e21
 obtain ⟨c30,rfl,l29,h31⟩:=rr26
 refine lv E ok (yy28 _ _) fun a E=>fv E qcB rfl fun a E=>lv E ok (qai qd2 rfl (qac.ro (At.sub 1 1 at27))) fun a E=>lv E ok (qao qdR h31 rfl) fun a E=>lw E (qat rfl rfl) fun a E=>wn<|cg E rfl hF (fun c32 hF=>?_) fun c32 hF=>?_
 ·refine wp_exit<|qau ?_
  cases hF
  exact so (⟨rfl,⟨ok,E.keep [0,3,4],r18⟩⟩)
 refine wp_skip<|qaa<|wp_seq<|wp_block<|sg<|mz E rfl rfl fun a E=>?_
 obtain ⟨x33,e34,hF⟩:=bnd hF
 obtain ⟨b35,o36,es37,hl38,rr39,at40,yy41⟩:=ia E 24 25 qbv hs_0 e34
 obtain ⟨c43,rfl,l42,h44⟩:=rr39
 refine lv E ok (yy41 _ _) fun a E=>fv E qcB rfl fun a E=>lv E ok (qai qd2 rfl (qac.ro (At.sub 1 1 at40))) fun a E=>mv E rfl fun a E=>?_
 obtain ⟨x45,e46,hF⟩:=bnd hF
 obtain ⟨b47,o48,es49,hl50,rr51,at52,yy53⟩:=ia E 28 29 qdR h44 e46
 obtain ⟨c55,rfl,l54,h56,l57⟩:=rr51
 refine lv E ok (yy53 _ _) fun a E=>lv E ok (qal (cs:=[vs x45.Kind,c55,vs x45.Next]) qdl rfl rfl (qac.ro at52)) fun a E=>qaB E ok qdc rfl rfl fun b58 a w E ok=>qaf E ok 0 rfl rfl rfl qgh rfl rfl ⟨rfl,(qaS h56),rfl,trivial⟩ rfl rfl fun w ok=>wn<|sg<|mv E rfl fun a E=>fk E ok qjw qam rfl 0 rfl rfl fun a E=>lw E (qaJ Tryz.underlying9 rfl) fun a E=>lv E ok (qkG rfl rfl (by decide)) fun a E=>lw E (qaw rfl rfl) fun a E=>fk E ok qfR qam rfl 0 rfl rfl fun a E=>lw E (qaJ Tryz.underlying9 rfl) fun a E=>lv E ok (qkG rfl rfl (by decide)) fun a E=>lw E (qaw rfl rfl) fun a E=>lw E (qaw rfl rfl) fun a E=>aw E rfl fun a E=>wp_seq ?_
 refine qad<|aw E rfl fun a E=>wp_block<|bd hF fun o61 hL hF=>qaC _ (fun (s:Int × Int) a w=>Ok u m0 ([(b58,oc 114 [vs x45.Kind,c55,vs x45.Next])] :: S) w ∧ Env 83 a [(0,vs_0),(3,vi s.1),(4,vi v7),(5,vi v17),(6,vp b58),(7,vi s.2)] ∧ InR .i64 s.1 ∧ InR .i64 s.2) (fun (b:Int) e a w=>e = (.exit 4) ∧ Ok u m0 ([(b58,oc 114 [vs x45.Kind,c55,vs x45.Next])] :: S) w ∧ Env 83 a [(0,vs_0),(3,vi b),(4,vi v7),(5,vi v17)] ∧ InR .i64 b) ?_ ?_ N _ a w hL ⟨ok,E.keep [0,3,4,5,6,7],(InR.wrap _ _),(ir 0)⟩
 rotate_left
 ·intro e a w _ hO
  obtain ⟨rfl,ok,E,r97⟩:=hO
  refine qaE<|qaj<|qaa<|qad<|mv E rfl fun a E=>lw E (qav rfl rfl (InR.inc r19 (qak h31) c32)) fun a E=>av E rfl fun a E=>wpList_nil ?_
  cases hF
  exact qaq ⟨(ok.pk 1 [] rfl (by decide)),E.keep [0,3,4,5],r97,(InR.inc r19 (qak h31) c32)⟩
 rintro ⟨v64,v65⟩ a w r ⟨ok,E,r66,r67⟩ hF
 replace hF:qcV N x45 v64 v65 = some r:=hF
 unfold qcV at hF
 refine wp_seq<|sg<|mv E rfl fun a E=>fk E ok qcl qdG rfl 0 rfl rfl fun a E=>lv E ok (qao qcq h56 rfl) fun a E=>lw E (qat rfl rfl) fun a E=>wn<|cg E rfl hF (fun c68 hF=>?_) fun c68 hF=>?_
 ·refine wp_exit<|qau ?_
  cases hF
  exact so (⟨rfl,⟨ok,E.keep [0,3,4,5],r66⟩⟩)
 refine wp_skip<|qaa<|wp_seq<|wp_block<|qaY (by kernel_rfl) (by kernel_rfl) ok<|qv E (qab rfl) fun a E=>qv E (qag qcl rfl) fun a E=>qv E (qai qdG rfl (qac.own 0 rfl rfl)) fun a E=>qv E (qab rfl) fun a E=>?_
 obtain ⟨x69,e70,hF⟩:=bnd hF
 obtain ⟨b71,o72,es73,hl74,rr75,at76,yy77⟩:=ia E 53 54 qcq h56 e70
 obtain ⟨c79,rfl,l78,h80,r81,r82⟩:=rr75
 refine qv E (yy77 _ _) fun a E=>qv E (qag qbd rfl) fun a E=>qv E (qai qbN rfl (qac.ro (At.sub 1 1 at76))) fun a E=>qv E (qao qbC h80 rfl) fun a E=>qv E (qkG rfl rfl (by decide)) fun a E=>qv E (qaw rfl rfl) fun a E=>qv E (qag qcl rfl) fun a E=>qv E (qai qdG rfl (qac.own 0 rfl rfl)) fun a E=>qv E (qab rfl) fun a E=>?_
 obtain ⟨x83,e84,hF⟩:=bnd hF
 obtain ⟨b85,o86,es87,hl88,rr89,at90,yy91⟩:=ia E 62 63 qcq h56 e84
 obtain ⟨c93,rfl,l92,h94,r95,r96⟩:=rr89
 refine qv E (yy91 _ _) fun a E=>qv E (qag qe8 rfl) fun a E=>qv E (qai qam rfl (qac.ro (At.sub 0 1 at90))) fun a E=>qv E (qaJ Tryz.underlying9 rfl) fun a E=>qv E (qkG rfl rfl (by decide)) fun a E=>qv E (qaw rfl rfl) fun a E=>qv E (qaw rfl rfl) fun a E=>qv E (qap rfl) fun a E=>wpQuiet_nil ?_
 intro w ok
 refine qaj<|qaa<|qad<|mv E rfl fun a E=>lw E (qav rfl rfl (InR.inc r67 (qak h56) c68)) fun a E=>av E rfl fun a E=>wpList_nil ?_
 cases hF
 exact qaq ⟨ok,E.keep [0,3,4,5,6,7],(InR.wrap _ _),(InR.inc r67 (qak h56) c68)⟩
def qjS (u:World) (m0:Mem) (S:Segs) (r:Int) (a:Act) (w:World):Prop :=
 Ok u m0 S w ∧ a.defers = [] ∧ RVs Tryz.prog a w [.t 2 (.int .i64 r)] ∧ InR .i64 r
theorem qcI (N:Nat) (c_0:Int) (rc_0:InR .u8 c_0) {r:Int} (hF:qdk N c_0 = some r) (hG:Glob u) (ok:Ok u m0 S w) :
  Calls Tryz.prog 131 [Value.int .u8 c_0].toArray w fun e w'=>(e = .returned (.int .i64 r) ∧ Ok u m0 S w') ∧ InR .i64 r:=by
 unfold qdk at hF
 refine en (qjS u m0 S) r Tryz.func131 rfl rfl rfl (fun _ _ h=>rb h rfl) fun fin a E=>sg<|aw E rfl fun a E=>wp_seq<|wp_block<|sg<|mv E rfl fun a E=>lw E (qaZ rfl rfl) fun a E=>mv E rfl fun a E=>bw E 6 hF (fun c1 hF E=>?_) fun c1 hF E=>?_
 ·refine lsq E fun a E=>pf E rfl rfl fun a E=>aw E rfl fun a E=>c_if E rfl (fun h=>by cases h) (fun _=>?_)
  refine sg<|mv E rfl fun a E=>lw E (qaZ rfl rfl) fun a E=>mv E rfl fun a E=>bw E 16 hF (fun c5 hF E=>?_) fun c5 hF E=>?_
  ·refine lsq E fun a E=>pf E rfl rfl fun a E=>aw E rfl fun a E=>c_if E rfl (fun h=>by cases h) (fun _=>?_)
   refine wp_skip<|qaj<|qaa<|sg<|aw E rfl fun a E=>wp_ret ?_
   exact fin hF ⟨ok,E.d,rz E rfl,(ir (-1))⟩
  refine mv E rfl fun a E=>lw E (qch rfl rfl) fun a E=>pt E rfl rfl fun a E=>aw E rfl fun a E=>cg E rfl hF (fun c6 hF=>?_) fun c6 hF=>?_
  ·refine wp_skip<|qaj<|qaa<|sg<|aw E rfl fun a E=>wp_ret ?_
   exact fin hF ⟨ok,E.d,rz E rfl,(ir (-1))⟩
  refine sg<|mv E rfl fun a E=>lw E (qbV rfl rfl) fun a E=>lw E (qjf Tryz.underlying5 Tryz.underlying3 rfl (InR.wrap _ _) (by decide)) fun a E=>lw E (qaw rfl rfl) fun a E=>av E rfl fun a E=>wn<|wp_ret<|qah<|qae ?_
  exact fin hF ⟨ok,E.d,rz E rfl,(InR.wrap _ _)⟩
 refine mv E rfl fun a E=>lw E (qch rfl rfl) fun a E=>pt E rfl rfl fun a E=>aw E rfl fun a E=>cf E rfl hF (fun c2 hF=>?_) fun c2 hF=>?_
 ·refine sg<|mv E rfl fun a E=>lw E (qbV rfl rfl) fun a E=>lw E (qjf Tryz.underlying5 Tryz.underlying3 rfl (InR.wrap _ _) (by decide)) fun a E=>aw E rfl fun a E=>wp_ret<|qah<|qae ?_
  exact fin hF ⟨ok,E.d,rz E rfl,(InR.widen (InR.wrap _ _) (by decide))⟩
 refine sg<|mv E rfl fun a E=>lw E (qaZ rfl rfl) fun a E=>mv E rfl fun a E=>bw E 16 hF (fun c3 hF E=>?_) fun c3 hF E=>?_
 ·refine lsq E fun a E=>pf E rfl rfl fun a E=>aw E rfl fun a E=>c_if E rfl (fun h=>by cases h) (fun _=>?_)
  refine wp_skip<|qaj<|qaa<|sg<|aw E rfl fun a E=>wp_ret ?_
  exact fin hF ⟨ok,E.d,rz E rfl,(ir (-1))⟩
 refine mv E rfl fun a E=>lw E (qch rfl rfl) fun a E=>pt E rfl rfl fun a E=>aw E rfl fun a E=>cg E rfl hF (fun c4 hF=>?_) fun c4 hF=>?_
 ·refine wp_skip<|qaj<|qaa<|sg<|aw E rfl fun a E=>wp_ret ?_
  exact fin hF ⟨ok,E.d,rz E rfl,(ir (-1))⟩
 refine sg<|mv E rfl fun a E=>lw E (qbV rfl rfl) fun a E=>lw E (qjf Tryz.underlying5 Tryz.underlying3 rfl (InR.wrap _ _) (by decide)) fun a E=>lw E (qaw rfl rfl) fun a E=>av E rfl fun a E=>wn<|wp_ret<|qah<|qae ?_
 exact fin hF ⟨ok,E.d,rz E rfl,(InR.wrap _ _)⟩
def qiR (u:World) (m0:Mem) (S:Segs) (r:Int × Int) (a:Act) (w:World):Prop :=
 Ok u m0 S w ∧ a.defers = [] ∧ RVs Tryz.prog a w [.t 4 (.int .u8 r.1),.t 5 (.int .i64 r.2)] ∧ InR .u8 r.1 ∧ InR .i64 r.2
theorem qcK (N:Nat) (s_0:List UInt8) (ls_0:s_0.length ≤ LIMS) (at_1:Int) (rat_1:InR .i64 at_1) {r:Int × Int} (hF:qb7 N s_0 at_1 = some r) (hG:Glob u) (ok:Ok u m0 S w) :
  Calls Tryz.prog 109 [vs s_0,vi at_1].toArray w fun e w'=>(e = .returned (.tuple [(.int .u8 r.1),(.int .i64 r.2)].toArray) ∧ Ok u m0 S w') ∧ InR .u8 r.1 ∧ InR .i64 r.2:=by
 unfold qb7 at hF
 refine en (qiR u m0 S) r Tryz.func109 rfl rfl rfl (by rintro a w ⟨ok,hd,hrv,h0,h1⟩; exact qbT [.t 4 (.int .u8 r.1),.t 5 (.int .i64 r.2)] hd rfl hrv ⟨⟨rfl,ok⟩,h0,h1⟩) fun fin a E=>sg<|av E rfl fun a E=>aw E rfl fun a E=>wp_seq<|wp_block<|sg<|mz E rfl rfl fun a E=>lw E (qaJ Tryz.underlying9 rfl) fun a E=>lw E (qaZ rfl rfl) fun a E=>av E rfl fun a E=>wn<|cf E rfl hF (fun c1 hF=>?_) fun c1 hF=>?_
 ·refine sg<|av E rfl fun a E=>aw E rfl fun a E=>wp_ret<|qah<|qae ?_
  exact fin hF ⟨ok,E.d,⟨rv_t E rfl,rv_t E rfl,trivial⟩,(show InR .u8 (0) by decide),(ir (-1))⟩
 refine sg<|mz E rfl rfl fun a E=>bd hF fun c2 e3 hF=>lv E ok (qaR Tryz.underlying9 rfl rfl e3) fun a E=>lw E (qbS rfl rfl) fun a E=>aw E rfl fun a E=>cf E rfl hF (fun c4 hF=>?_) fun c4 hF=>?_
 ·refine sg<|mz E rfl rfl fun a E=>bd hF fun c5 e6 hF=>lv E ok (qaR Tryz.underlying9 rfl rfl e6) fun a E=>mv E rfl fun a E=>lw E (qaw rfl rfl) fun a E=>av E rfl fun a E=>aw E rfl fun a E=>wp_ret<|qah<|qae ?_
  exact fin hF ⟨ok,E.d,⟨rv_t E rfl,rv_t E rfl,trivial⟩,(InR.byte c5),(InR.wrap _ _)⟩
 refine sg<|mv E rfl fun a E=>lw E (qaw rfl rfl) fun a E=>mv E rfl fun a E=>lw E (qaJ Tryz.underlying9 rfl) fun a E=>lw E (qat rfl rfl) fun a E=>mv E rfl fun a E=>bw E 27 hF (fun c7 hF E=>?_) fun c7 hF E=>?_
 ·refine lsz E fun a E=>ls E fun a E=>pf E rfl rfl fun a E=>mv E rfl fun a E=>lsz E fun a E=>lsq E fun a E=>pf E rfl rfl fun a E=>mv E rfl fun a E=>ls E fun a E=>?_
  refine lsz E fun a E=>ls E fun a E=>pf E rfl rfl fun a E=>av E rfl fun a E=>wn<|c_if E rfl (fun h=>by cases h) (fun _=>?_)
  refine sg<|mv E rfl fun a E=>lw E (qaw rfl rfl) fun a E=>mv E rfl fun a E=>lw E (qaJ Tryz.underlying9 rfl) fun a E=>lw E (qat rfl rfl) fun a E=>av E rfl fun a E=>wn<|cg E rfl hF (fun c42 hF=>?_) fun c42 hF=>?_
  ·refine wp_skip<|qaj<|qaa<|sg<|av E rfl fun a E=>av E rfl fun a E=>wn<|wp_ret ?_
   exact fin hF ⟨ok,E.d,⟨rv_t E rfl,rv_t E rfl,trivial⟩,(show InR .u8 (0) by decide),(ir (-1))⟩
  refine sg<|mz E rfl rfl fun a E=>lw E (qaw rfl rfl) fun a E=>bd hF fun c43 e44 hF=>lv E ok (qaR Tryz.underlying9 rfl rfl e44) fun a E=>mv E rfl fun a E=>lw E (qaw rfl rfl) fun a E=>av E rfl fun a E=>aw E rfl fun a E=>wp_ret<|qah<|qae ?_
  exact fin hF ⟨ok,E.d,⟨rv_t E rfl,rv_t E rfl,trivial⟩,(InR.byte c43),(InR.wrap _ _)⟩
 refine mz E rfl rfl fun a E=>lw E (qaw rfl rfl) fun a E=>bd hF fun c8 e9 hF=>lv E ok (qaR Tryz.underlying9 rfl rfl e9) fun a E=>lw E (qa3 rfl rfl) fun a E=>pt E rfl rfl fun a E=>mv E rfl fun a E=>bw E 34 hF (fun c10 hF E=>?_) fun c10 hF E=>?_
 ·refine lsz E fun a E=>lsq E fun a E=>pf E rfl rfl fun a E=>mv E rfl fun a E=>lsz E fun a E=>lsq E fun a E=>pf E rfl rfl fun a E=>av E rfl fun a E=>?_
  refine wn<|c_if E rfl (fun h=>by cases h) (fun _=>?_)
  refine sg<|mv E rfl fun a E=>lw E (qaw rfl rfl) fun a E=>mv E rfl fun a E=>lw E (qaJ Tryz.underlying9 rfl) fun a E=>lw E (qat rfl rfl) fun a E=>av E rfl fun a E=>wn<|cg E rfl hF (fun c39 hF=>?_) fun c39 hF=>?_
  ·refine wp_skip<|qaj<|qaa<|sg<|av E rfl fun a E=>av E rfl fun a E=>wn<|wp_ret ?_
   exact fin hF ⟨ok,E.d,⟨rv_t E rfl,rv_t E rfl,trivial⟩,(show InR .u8 (0) by decide),(ir (-1))⟩
  refine sg<|mz E rfl rfl fun a E=>lw E (qaw rfl rfl) fun a E=>bd hF fun c40 e41 hF=>lv E ok (qaR Tryz.underlying9 rfl rfl e41) fun a E=>mv E rfl fun a E=>lw E (qaw rfl rfl) fun a E=>av E rfl fun a E=>aw E rfl fun a E=>wp_ret<|qah<|qae ?_
  exact fin hF ⟨ok,E.d,⟨rv_t E rfl,rv_t E rfl,trivial⟩,(InR.byte c40),(InR.wrap _ _)⟩
 refine mz E rfl rfl fun a E=>lw E (qaw rfl rfl) fun a E=>bd hF fun c11 e12 hF=>lv E ok (qaR Tryz.underlying9 rfl rfl e12) fun a E=>bd hF fun r13 e14 hF=>qas E qlQ rfl (qcI N (c11.toNat:Int) (InR.byte c11) e14 hG ok) rfl rfl ?_
 rintro _ w ⟨⟨rfl,ok⟩,r15⟩
 refine ⟨_,rfl,fun a E=>?_⟩
 refine lw E (qaZ rfl rfl) fun a E=>pt E rfl rfl fun a E=>mv E rfl fun a E=>bw E 42 hF (fun c16 hF E=>?_) fun c16 hF E=>?_
 ·refine lsz E fun a E=>lsq E fun a E=>pf E rfl rfl fun a E=>av E rfl fun a E=>wn<|c_if E rfl (fun h=>by cases h) (fun _=>?_)
  refine sg<|mv E rfl fun a E=>lw E (qaw rfl rfl) fun a E=>mv E rfl fun a E=>lw E (qaJ Tryz.underlying9 rfl) fun a E=>lw E (qat rfl rfl) fun a E=>av E rfl fun a E=>wn<|cg E rfl hF (fun c36 hF=>?_) fun c36 hF=>?_
  ·refine wp_skip<|qaj<|qaa<|sg<|av E rfl fun a E=>av E rfl fun a E=>wn<|wp_ret ?_
   exact fin hF ⟨ok,E.d,⟨rv_t E rfl,rv_t E rfl,trivial⟩,(show InR .u8 (0) by decide),(ir (-1))⟩
  refine sg<|mz E rfl rfl fun a E=>lw E (qaw rfl rfl) fun a E=>bd hF fun c37 e38 hF=>lv E ok (qaR Tryz.underlying9 rfl rfl e38) fun a E=>mv E rfl fun a E=>lw E (qaw rfl rfl) fun a E=>av E rfl fun a E=>aw E rfl fun a E=>wp_ret<|qah<|qae ?_
  exact fin hF ⟨ok,E.d,⟨rv_t E rfl,rv_t E rfl,trivial⟩,(InR.byte c37),(InR.wrap _ _)⟩
 refine mz E rfl rfl fun a E=>lw E (qaw rfl rfl) fun a E=>bd hF fun c17 e18 hF=>lv E ok (qaR Tryz.underlying9 rfl rfl e18) fun a E=>bd hF fun r19 e20 hF=>qas E qlQ rfl (qcI N (c17.toNat:Int) (InR.byte c17) e20 hG ok) rfl rfl ?_
 rintro _ w ⟨⟨rfl,ok⟩,r21⟩
 refine ⟨_,rfl,fun a E=>?_⟩
 refine lw E (qaZ rfl rfl) fun a E=>pt E rfl rfl fun a E=>aw E rfl fun a E=>cf E rfl hF (fun c22 hF=>?_) fun c22 hF=>?_
 ·refine wp_seq<|qaY (by kernel_rfl) (by kernel_rfl) ok<|qv E (qab rfl) fun a E=>qv E (qab rfl) fun a E=>qv E (qaw rfl rfl) fun a E=>bd hF fun c23 e24 hF=>qv E (qaR Tryz.underlying9 rfl rfl e24) fun a E=>?_
  obtain ⟨r25,e26,hF⟩:=bnd hF
  obtain ⟨_,_,⟨_,_⟩,r27⟩:=Go.X.Calls.get (qcI N (c23.toNat:Int) (InR.byte c23) e26 hG ok)
  refine qe6 E qlQ rfl (fun w ok=>(qcI N (c23.toNat:Int) (InR.byte c23) e26 hG ok).mono (fun _ _ h=>h.1)) rfl rfl fun a E=>qv E (qs2 rfl rfl) fun a E=>qv E (qab rfl) fun a E=>qv E (qab rfl) fun a E=>qv E (qaw rfl rfl) fun a E=>bd hF fun c28 e29 hF=>qv E (qaR Tryz.underlying9 rfl rfl e29) fun a E=>?_
  obtain ⟨r30,e31,hF⟩:=bnd hF
  obtain ⟨_,_,⟨_,_⟩,r32⟩:=Go.X.Calls.get (qcI N (c28.toNat:Int) (InR.byte c28) e31 hG ok)
  refine qe6 E qlQ rfl (fun w ok=>(qcI N (c28.toNat:Int) (InR.byte c28) e31 hG ok).mono (fun _ _ h=>h.1)) rfl rfl fun a E=>qv E (qaw rfl rfl) fun a E=>qv E (qkl Tryz.underlying3 Tryz.underlying5 rfl) fun a E=>qv E (qab rfl) fun a E=>qv E (qaw rfl rfl) fun a E=>qv E (qap rfl) fun a E=>qv E (qap rfl) fun a E=>wpQuiet_nil ?_
  intro w ok
  refine qaa<|wp_ret<|qah<|qae ?_
  exact fin hF ⟨ok,E.d,⟨rv_t E rfl,rv_t E rfl,trivial⟩,(InR.wrap _ _),(InR.wrap _ _)⟩
 refine sg<|mv E rfl fun a E=>lw E (qaw rfl rfl) fun a E=>mv E rfl fun a E=>lw E (qaJ Tryz.underlying9 rfl) fun a E=>lw E (qat rfl rfl) fun a E=>av E rfl fun a E=>wn<|cg E rfl hF (fun c33 hF=>?_) fun c33 hF=>?_
 ·refine wp_skip<|qaj<|qaa<|sg<|av E rfl fun a E=>av E rfl fun a E=>wn<|wp_ret ?_
  exact fin hF ⟨ok,E.d,⟨rv_t E rfl,rv_t E rfl,trivial⟩,(show InR .u8 (0) by decide),(ir (-1))⟩
 refine sg<|mz E rfl rfl fun a E=>lw E (qaw rfl rfl) fun a E=>bd hF fun c34 e35 hF=>lv E ok (qaR Tryz.underlying9 rfl rfl e35) fun a E=>mv E rfl fun a E=>lw E (qaw rfl rfl) fun a E=>av E rfl fun a E=>aw E rfl fun a E=>wp_ret<|qah<|qae ?_
 exact fin hF ⟨ok,E.d,⟨rv_t E rfl,rv_t E rfl,trivial⟩,(InR.byte c34),(InR.wrap _ _)⟩
def qiW (u:World) (m0:Mem) (S:Segs) (r:Item × Int) (a:Act) (w:World):Prop :=
 ∃ m1 v0,m0.le m1 ∧ Ok u m1 S w ∧ a.defers = [] ∧ RVs Tryz.prog a w [.c 4 138 (.agg v0.toArray),.t 5 (.int .i64 r.2)] ∧ qbu m1 v0 r.1 ∧ InR .i64 r.2
theorem qiS (N:Nat) (s_0:List UInt8) (ls_0:s_0.length ≤ LIMS) (at_1:Int) (rat_1:InR .i64 at_1) {r:Item × Int} (hF:qfp N s_0 at_1 = some r) (hG:Glob u) (ok:Ok u m0 S w) :
  Calls Tryz.prog 88 [vs s_0,vi at_1].toArray w fun e w'=>∃ m1 v0,e = .returned (.tuple [(.agg v0.toArray),(.int .i64 r.2)].toArray) ∧ m0.le m1 ∧ Ok u m1 S w' ∧ qbu m1 v0 r.1 ∧ InR .i64 r.2:=by
 have le_m0:=Mem.le.refl m0
 unfold qfp at hF
 refine en (qiW u m0 S) r Tryz.func88 rfl rfl rfl (by rintro a w ⟨m1,v0,hle,ok,hd,hrv,h0,h1⟩; exact qbT [.c 4 138 (.agg v0.toArray),.t 5 (.int .i64 r.2)] hd rfl hrv ⟨m1,v0,rfl,hle,ok,h0,h1⟩) fun fin a E=>sg<|qaB E ok qbk rfl rfl fun b1 a w E ok=>aw E rfl fun a E=>sg<|aw E rfl fun a E=>sg<|mv E rfl fun a E=>lw E (qaw rfl rfl) fun a E=>aw E rfl fun a E=>wp_seq<|wp_block ?_
 obtain ⟨M7,ok,h8⟩:=qdq (e:=5) (k:=1) (R:=(pI .u8)) ok
 refine bd hF fun o9 hL hF=>qaC _ (fun (s:Int × (List (Int))) a w=>∃ c11 M12,Ok u m0 (M12 :: [(b1,oc 138 [(vs ([])),(Value.slice none 0 0),vb false,vi 0,vi 0])] :: S) w ∧ Env 50 a [(0,vs s_0),(1,vi s.1),(4,vp b1),(6,c11)] ∧ InR .i64 s.1 ∧ ORow 5 1 (pI .u8) m0 c11 s.2 M12) (fun (b:(Int × (List (Int)))) e a w=>e = (.exit 0) ∧ ∃ c44 M45,Ok u m0 (M45 :: [(b1,oc 138 [(vs ([])),(Value.slice none 0 0),vb false,vi 0,vi 0])] :: S) w ∧ Env 50 a [(0,vs s_0),(1,vi b.1),(4,vp b1),(6,c44)] ∧ InR .i64 b.1 ∧ ORow 5 1 (pI .u8) m0 c44 b.2 M45) ?_ ?_ N _ a w hL ⟨(Value.slice none 0 0),M7,ok,E.keep [0,1,4,6],(InR.wrap _ _),h8⟩
 rotate_left
 ·intro e a w _ hO
  obtain ⟨rfl,c38,M39,ok,E,r37,h40⟩:=hO
  refine qaE<|qaa<|wp_seq<|sg<|mv E rfl fun a E=>lw E (qat rfl rfl) fun a E=>mv E rfl fun a E=>bu E 38 hF (fun c41 hF E=>?_) fun c41 hF E=>?_
  ·refine lsz E fun a E=>pt E rfl rfl fun a E=>wn<|c_if E rfl (fun _=>?_) (fun h=>by cases h)
   refine sg<|lw E (qaT (ps:=[]) (qs:=[]) (cs:=[(vs ([])),(Value.slice none 0 0),vb false,vi 0,vi 0]) qbk qcx rfl trivial rfl) fun a E=>qaf E ok 1 rfl rfl rfl qbg rfl rfl ⟨rfl,rfl,rfl,rfl,rfl,trivial⟩ rfl rfl fun w ok=>aw E rfl fun a E=>wp_ret<|qae ?_
   exact fin hF ⟨m0,[(vs ([])),(Value.slice none 0 0),vb false,vi 0,vi 0],le_m0,ok.drop.drop,E.d,⟨rv_c (cs:=[(vs ([])),(Value.slice none 0 0),vb false,vi 0,vi 0]) E ok rfl qaW rfl (qac.own 1 rfl rfl),rv_t E rfl,trivial⟩,⟨_,rfl,(Nat.zero_le _),qbh,(ir 0),(ir 0)⟩,(ir (-1))⟩
  refine mz E rfl rfl fun a E=>lw E (qaJ Tryz.underlying9 rfl) fun a E=>lw E (qaZ rfl rfl) fun a E=>pf E rfl rfl fun a E=>wn<|cf E rfl hF (fun c42 hF=>?_) fun c42 hF=>?_
  ·refine sg<|lw E (qaT (ps:=[]) (qs:=[]) (cs:=[(vs ([])),(Value.slice none 0 0),vb false,vi 0,vi 0]) qbk qcx rfl trivial rfl) fun a E=>qaf E ok 1 rfl rfl rfl qbg rfl rfl ⟨rfl,rfl,rfl,rfl,rfl,trivial⟩ rfl rfl fun w ok=>aw E rfl fun a E=>wp_ret<|qae ?_
   exact fin hF ⟨m0,[(vs ([])),(Value.slice none 0 0),vb false,vi 0,vi 0],le_m0,ok.drop.drop,E.d,⟨rv_c (cs:=[(vs ([])),(Value.slice none 0 0),vb false,vi 0,vi 0]) E ok rfl qaW rfl (qac.own 1 rfl rfl),rv_t E rfl,trivial⟩,⟨_,rfl,(Nat.zero_le _),qbh,(ir 0),(ir 0)⟩,(ir (-1))⟩
  refine wp_skip<|qaa<|sg<|mv E rfl fun a E=>lv E ok (qiu Tryz.underlying86 Tryz.underlying5 Tryz.underlying9 rfl (BR.ofRow h40 0 rfl)) fun a E=>lw E (qaT (ps:=[(0,.tmp 46)]) (qs:=[(0,[(vs (bytesOf o9.2))])]) (cs:=[(vs (bytesOf o9.2)),(Value.slice none 0 0),vb false,vi 0,vi 0]) qbk qcx rfl ⟨rfl,rfl,rfl,trivial⟩ rfl) fun a E=>mv E rfl fun a E=>lw E (qaw rfl rfl) fun a E=>qaf E ok 1 rfl rfl rfl qbg rfl rfl ⟨rfl,rfl,rfl,rfl,rfl,trivial⟩ rfl rfl fun w ok=>aw E rfl fun a E=>wp_ret ?_
  exact fin hF ⟨m0,[(vs (bytesOf o9.2)),(Value.slice none 0 0),vb false,vi 0,vi 0],le_m0,ok.drop.drop,E.d,⟨rv_c (cs:=[(vs (bytesOf o9.2)),(Value.slice none 0 0),vb false,vi 0,vi 0]) E ok rfl qaW rfl (qac.own 1 rfl rfl),rv_t E rfl,trivial⟩,⟨_,rfl,(Nat.le_trans (Nat.le_of_eq qfz) h40.form.2),qbh,(ir 0),(ir 0)⟩,(InR.wrap _ _)⟩
 rintro ⟨v14,v15⟩ a w r ⟨c17,M18,ok,E,r16,h19⟩ hF
 replace hF:qem N s_0 v14 v15 = some r:=hF
 unfold qem at hF
 refine wp_seq<|sg<|mv E rfl fun a E=>lw E (qaZ rfl rfl) fun a E=>mv E rfl fun a E=>bw E 13 hF (fun c20 hF E=>?_) fun c20 hF E=>?_
 ·refine lsz E fun a E=>pf E rfl rfl fun a E=>mv E rfl fun a E=>lsz E fun a E=>pf E rfl rfl fun a E=>wn<|c_if E rfl (fun h=>by cases h) (fun _=>?_)
  refine wp_exit<|qau ?_
  cases hF
  exact so (⟨rfl,⟨c17,M18,ok,E.keep [0,1,4,6],r16,h19⟩⟩)
 refine mz E rfl rfl fun a E=>lw E (qaJ Tryz.underlying9 rfl) fun a E=>lw E (qat rfl rfl) fun a E=>pt E rfl rfl fun a E=>mv E rfl fun a E=>bw E 19 hF (fun c21 hF E=>?_) fun c21 hF E=>?_
 ·refine lsz E fun a E=>pf E rfl rfl fun a E=>wn<|c_if E rfl (fun h=>by cases h) (fun _=>?_)
  refine wp_exit<|qau ?_
  cases hF
  exact so (⟨rfl,⟨c17,M18,ok,E.keep [0,1,4,6],r16,h19⟩⟩)
 refine mz E rfl rfl fun a E=>bd hF fun c22 e23 hF=>lv E ok (qaR Tryz.underlying9 rfl rfl e23) fun a E=>lw E (qbS rfl rfl) fun a E=>pt E rfl rfl fun a E=>wn<|cg E rfl hF (fun c24 hF=>?_) fun c24 hF=>?_
 ·refine wp_exit<|qau ?_
  cases hF
  exact so (⟨rfl,⟨c17,M18,ok,E.keep [0,1,4,6],r16,h19⟩⟩)
 refine wp_skip<|qaa<|wp_block<|sg<|mz E rfl rfl fun a E=>bd hF fun r25 e26 hF=>qas E qkh rfl (qcK N s_0 ls_0 v14 r16 e26 hG ok) rfl rfl ?_
 rintro _ w ⟨⟨rfl,ok⟩,r27,r28⟩
 refine ⟨_,rfl,fun a E=>?_⟩
 refine mv E rfl fun a E=>lw E (qan rfl rfl) fun a E=>lw E (qan rfl rfl) fun a E=>av E rfl fun a E=>aw E rfl fun a E=>qad<|mz E rfl rfl fun a E=>qa2 (R:=(pI .u8)) (xo:=[.tmp 32]) (xs:=([r25.1]:List (Int))) E ok qgX qfV rfl ⟨⟨_,rfl,rfl,(qga r27)⟩,trivial⟩ rfl rfl rfl rfl fun c29 M30 a w E ok h31=>bd hF fun l32 e33 hF=>qcj (R:=(pI .u8)) E ok 1 (mI .u8) qgX Tryz.underlying86 rfl h19 (qa5.ofRow h31 0 rfl ok) e33 ⟨_,qfV,rfl⟩ rfl rfl rfl rfl fun c34 M35 a w E ok h36=>mv E rfl fun a E=>av E rfl fun a E=>av E rfl fun a E=>wpList_nil<|qaj ?_
 cases hF
 exact qaq ⟨c34,M35,(ok.pk 3 [1,2] rfl (by decide)),E.keep [0,1,4,6],r28,h36⟩
def qix (u:World) (m0:Mem) (S:Segs) (r:Item × Int) (a:Act) (w:World):Prop :=
 ∃ m1 v0,m0.le m1 ∧ Ok u m1 S w ∧ a.defers = [] ∧ RVs Tryz.prog a w [.c 4 138 (.agg v0.toArray),.t 5 (.int .i64 r.2)] ∧ qbu m1 v0 r.1 ∧ InR .i64 r.2
theorem qgm (N:Nat) (s_0:List UInt8) (ls_0:s_0.length ≤ LIMS) (at_1:Int) (rat_1:InR .i64 at_1) {r:Item × Int} (hF:qdF N s_0 at_1 = some r) (hG:Glob u) (ok:Ok u m0 S w) :
  Calls Tryz.prog 89 [vs s_0,vi at_1].toArray w fun e w'=>∃ m1 v0,e = .returned (.tuple [(.agg v0.toArray),(.int .i64 r.2)].toArray) ∧ m0.le m1 ∧ Ok u m1 S w' ∧ qbu m1 v0 r.1 ∧ InR .i64 r.2:=by
 have le_m0:=Mem.le.refl m0
 unfold qdF at hF
 refine en (qix u m0 S) r Tryz.func89 rfl rfl rfl (by rintro a w ⟨m1,v0,hle,ok,hd,hrv,h0,h1⟩; exact qbT [.c 4 138 (.agg v0.toArray),.t 5 (.int .i64 r.2)] hd rfl hrv ⟨m1,v0,rfl,hle,ok,h0,h1⟩) fun fin a E=>sg<|qaB E ok qbk rfl rfl fun b1 a w E ok=>aw E rfl fun a E=>sg<|lw E (qaT (ps:=[]) (qs:=[]) (cs:=[(vs ([])),(Value.slice none 0 0),vb false,vi 0,vi 0]) qbk qcx rfl trivial rfl) fun a E=>qaB E ok qbk rfl rfl fun b2 a w E ok=>qaf E ok 0 rfl rfl rfl qbg rfl rfl ⟨rfl,rfl,rfl,rfl,rfl,trivial⟩ rfl rfl fun w ok=>wn<|sg<|mv E rfl fun a E=>lw E (qaw rfl rfl) fun a E=>aw E rfl fun a E=>wp_seq<|sg<|mz E rfl rfl fun a E=>lw E (qaJ Tryz.underlying9 rfl) fun a E=>lw E (qat rfl rfl) fun a E=>mv E rfl fun a E=>bw E 17 hF (fun c3 hF E=>?_) fun c3 hF E=>?_
 ·as_aux_lemma =>
   refine lsz E fun a E=>pf E rfl rfl fun a E=>wn<|c_if E rfl (fun h=>by cases h) (fun _=>?_)
   refine wp_skip<|qaa<|wp_seq<|wp_block ?_
   obtain ⟨M116,ok,h117⟩:=qdq (e:=157) (k:=2) (R:=qbp) ok
   refine bd hF fun o118 hL hF=>qaC _ (fun (s:Int × Item) a w=>∃ c121 M122,Ok u m0 (M122 :: [(b2,oc 138 [vs s.2.Text,c121,vb s.2.Not,vi s.2.Least,vi s.2.Most])] :: [(b1,oc 138 [(vs ([])),(Value.slice none 0 0),vb false,vi 0,vi 0])] :: S) w ∧ Env 89 a [(0,vs s_0),(1,vi s.1),(4,vp b1),(6,vp b2)] ∧ InR .i64 s.1 ∧ s.2.Text.length ≤ LIMS ∧ ORow 157 2 qbp m0 c121 s.2.Ranges M122 ∧ InR .i64 s.2.Least ∧ InR .i64 s.2.Most) (fun (b:(Item × Int)) e a w=>e = (.exit 0) ∧ ∃ c194 M195,Ok u m0 (M195 :: [(b2,oc 138 [vs b.1.Text,c194,vb b.1.Not,vi b.1.Least,vi b.1.Most])] :: [(b1,oc 138 [(vs ([])),(Value.slice none 0 0),vb false,vi 0,vi 0])] :: S) w ∧ Env 89 a [(0,vs s_0),(1,vi b.2),(4,vp b1),(6,vp b2)] ∧ b.1.Text.length ≤ LIMS ∧ ORow 157 2 qbp m0 c194 b.1.Ranges M195 ∧ InR .i64 b.1.Least ∧ InR .i64 b.1.Most ∧ InR .i64 b.2) ?_ ?_ N _ a w hL ⟨(Value.slice none 0 0),M116,ok,E.keep [0,1,4,6],(InR.wrap _ _),(Nat.zero_le _),h117,(ir 0),(ir 0)⟩
   rotate_left
   ·intro e a w _ hO
    obtain ⟨rfl,c183,M184,ok,E,l182,h185,r186,r187,r188⟩:=hO
    refine qaE<|qaa<|wp_seq<|sg<|mv E rfl fun a E=>lw E (qat rfl rfl) fun a E=>mv E rfl fun a E=>bu E 79 hF (fun c189 hF E=>?_) fun c189 hF E=>?_
    ·refine lsz E fun a E=>pt E rfl rfl fun a E=>wn<|c_if E rfl (fun _=>?_) (fun h=>by cases h)
     refine sg<|lw E (qaT (ps:=[]) (qs:=[]) (cs:=[(vs ([])),(Value.slice none 0 0),vb false,vi 0,vi 0]) qbk qcx rfl trivial rfl) fun a E=>qaf E ok 2 rfl rfl rfl qbg rfl rfl ⟨rfl,rfl,rfl,rfl,rfl,trivial⟩ rfl rfl fun w ok=>aw E rfl fun a E=>wp_ret<|qae ?_
     exact fin hF ⟨m0,[(vs ([])),(Value.slice none 0 0),vb false,vi 0,vi 0],le_m0,ok.drop.drop.drop,E.d,⟨rv_c (cs:=[(vs ([])),(Value.slice none 0 0),vb false,vi 0,vi 0]) E ok rfl qaW rfl (qac.own 2 rfl rfl),rv_t E rfl,trivial⟩,⟨_,rfl,(Nat.zero_le _),qbh,(ir 0),(ir 0)⟩,(ir (-1))⟩
    refine mz E rfl rfl fun a E=>lw E (qaJ Tryz.underlying9 rfl) fun a E=>lw E (qaZ rfl rfl) fun a E=>pf E rfl rfl fun a E=>wn<|cf E rfl hF (fun c190 hF=>?_) fun c190 hF=>?_
    ·refine sg<|lw E (qaT (ps:=[]) (qs:=[]) (cs:=[(vs ([])),(Value.slice none 0 0),vb false,vi 0,vi 0]) qbk qcx rfl trivial rfl) fun a E=>qaf E ok 2 rfl rfl rfl qbg rfl rfl ⟨rfl,rfl,rfl,rfl,rfl,trivial⟩ rfl rfl fun w ok=>aw E rfl fun a E=>wp_ret<|qae ?_
     exact fin hF ⟨m0,[(vs ([])),(Value.slice none 0 0),vb false,vi 0,vi 0],le_m0,ok.drop.drop.drop,E.d,⟨rv_c (cs:=[(vs ([])),(Value.slice none 0 0),vb false,vi 0,vi 0]) E ok rfl qaW rfl (qac.own 2 rfl rfl),rv_t E rfl,trivial⟩,⟨_,rfl,(Nat.zero_le _),qbh,(ir 0),(ir 0)⟩,(ir (-1))⟩
    refine wp_skip<|qaa<|sg<|lv E ok (qal (cs:=[vs o118.1.Text,c183,vb o118.1.Not,vi o118.1.Least,vi o118.1.Most]) qaW rfl rfl (qac.own 1 rfl rfl)) fun a E=>mv E rfl fun a E=>lw E (qaw rfl rfl) fun a E=>qaf E ok 2 rfl rfl rfl qbg rfl rfl ⟨rfl,(ORow.one h185),rfl,rfl,rfl,trivial⟩ rfl rfl fun w ok=>aw E rfl fun a E=>wp_ret ?_
    obtain ⟨m191,hle,ok,hfz⟩:=(ok.frs 0 rfl).freeze
    have h192:=ORow.froz qeH h185 hle hfz (by decide)
    have le_m0:=le_m0.trans hle
    exact fin hF ⟨m191,[vs o118.1.Text,c183,vb o118.1.Not,vi o118.1.Least,vi o118.1.Most],le_m0,ok.drop.drop,E.d,⟨rv_c (cs:=[vs o118.1.Text,c183,vb o118.1.Not,vi o118.1.Least,vi o118.1.Most]) E ok rfl qaW rfl (qac.own 1 rfl rfl),rv_t E rfl,trivial⟩,⟨_,rfl,l182,h192,r186,r187⟩,(InR.wrap _ _)⟩
   rintro ⟨v126,v127⟩ a w r ⟨c130,M131,ok,E,r128,l129,h132,r133,r134⟩ hF
   replace hF:qef N s_0 v126 v127 = some r:=hF
   unfold qef at hF
   refine wp_seq<|sg<|mv E rfl fun a E=>lw E (qaZ rfl rfl) fun a E=>mv E rfl fun a E=>bw E 28 hF (fun c135 hF E=>?_) fun c135 hF E=>?_
   ·refine lsz E fun a E=>pf E rfl rfl fun a E=>mv E rfl fun a E=>lsz E fun a E=>pf E rfl rfl fun a E=>wn<|c_if E rfl (fun h=>by cases h) (fun _=>?_)
    refine wp_exit<|qau ?_
    cases hF
    exact so (⟨rfl,⟨c130,M131,ok,E.keep [0,1,4,6],l129,h132,r133,r134,r128⟩⟩)
   refine mz E rfl rfl fun a E=>lw E (qaJ Tryz.underlying9 rfl) fun a E=>lw E (qat rfl rfl) fun a E=>pt E rfl rfl fun a E=>mv E rfl fun a E=>bw E 34 hF (fun c136 hF E=>?_) fun c136 hF E=>?_
   ·refine lsz E fun a E=>pf E rfl rfl fun a E=>wn<|c_if E rfl (fun h=>by cases h) (fun _=>?_)
    refine wp_exit<|qau ?_
    cases hF
    exact so (⟨rfl,⟨c130,M131,ok,E.keep [0,1,4,6],l129,h132,r133,r134,r128⟩⟩)
   refine mz E rfl rfl fun a E=>bd hF fun c137 e138 hF=>lv E ok (qaR Tryz.underlying9 rfl rfl e138) fun a E=>lw E (qbS rfl rfl) fun a E=>pt E rfl rfl fun a E=>wn<|cg E rfl hF (fun c139 hF=>?_) fun c139 hF=>?_
   ·refine wp_exit<|qau ?_
    cases hF
    exact so (⟨rfl,⟨c130,M131,ok,E.keep [0,1,4,6],l129,h132,r133,r134,r128⟩⟩)
   refine wp_skip<|qaa<|wp_block<|sg<|mz E rfl rfl fun a E=>bd hF fun r140 e141 hF=>qas E qkh rfl (qcK N s_0 ls_0 v126 r128 e141 hG ok) rfl rfl ?_
   rintro _ w ⟨⟨rfl,ok⟩,r142,r143⟩
   refine ⟨_,rfl,fun a E=>?_⟩
   refine mv E rfl fun a E=>lw E (qan rfl rfl) fun a E=>lw E (qan rfl rfl) fun a E=>av E rfl fun a E=>aw E rfl fun a E=>sg<|mv E rfl fun a E=>aw E rfl fun a E=>wp_seq<|sg<|mv E rfl fun a E=>lw E (qaZ rfl rfl) fun a E=>mv E rfl fun a E=>bw E 49 hF (fun c144 hF E=>?_) fun c144 hF E=>?_
   ·refine lsz E fun a E=>pf E rfl rfl fun a E=>mv E rfl fun a E=>lsz E fun a E=>pf E rfl rfl fun a E=>wn<|c_if E rfl (fun h=>by cases h) (fun _=>?_)
    refine wp_skip<|qaa<|qad<|fk E ok qbd qbN rfl 1 rfl rfl fun a E=>mz E rfl rfl fun a E=>lw E (qaT (ps:=[(0,.tmp 70),(1,.tmp 71)]) (qs:=[(0,[(Value.int .u8 r140.1)]),(1,[(Value.int .u8 r140.1)])]) (cs:=[(Value.int .u8 r140.1),(Value.int .u8 r140.1)]) qce qge rfl ⟨rfl,rfl,rfl,⟨rfl,rfl,rfl,trivial⟩⟩ rfl) fun a E=>qa2 (R:=qbp) (xo:=[.tmp 72]) (xs:=([(Range.mk r140.1 r140.1)]:List (Range))) E ok qbC qce rfl ⟨⟨_,rfl,rfl,⟨rfl,r142,r142⟩⟩,trivial⟩ rfl rfl rfl rfl fun c174 M175 a w E ok h176=>bd hF fun l177 e178 hF=>qcj (R:=qbp) E ok 1 qeH qbC Tryz.underlying136 rfl h132 (qa5.ofRow h176 0 rfl ok) e178 ⟨_,qce,rfl⟩ rfl rfl rfl rfl fun c179 M180 a w E ok h181=>mv E rfl fun a E=>fv E qbd rfl fun a E=>qaf E ok 2 rfl rfl rfl qh8 (ORow.cells h181) rfl ⟨(ORow.one h181),trivial⟩ rfl rfl fun w ok=>av E rfl fun a E=>wpList_nil<|qaj ?_
    cases hF
    exact qaq ⟨c179,M180,(ok.pk 4 [1,2,3] rfl (by decide)),E.keep [0,1,4,6],r143,l129,h181,r133,r134⟩
   refine mz E rfl rfl fun a E=>lw E (qaJ Tryz.underlying9 rfl) fun a E=>lw E (qat rfl rfl) fun a E=>pt E rfl rfl fun a E=>mv E rfl fun a E=>bw E 55 hF (fun c145 hF E=>?_) fun c145 hF E=>?_
   ·refine lsz E fun a E=>pf E rfl rfl fun a E=>wn<|c_if E rfl (fun h=>by cases h) (fun _=>?_)
    refine wp_skip<|qaa<|qad<|fk E ok qbd qbN rfl 1 rfl rfl fun a E=>mz E rfl rfl fun a E=>lw E (qaT (ps:=[(0,.tmp 70),(1,.tmp 71)]) (qs:=[(0,[(Value.int .u8 r140.1)]),(1,[(Value.int .u8 r140.1)])]) (cs:=[(Value.int .u8 r140.1),(Value.int .u8 r140.1)]) qce qge rfl ⟨rfl,rfl,rfl,⟨rfl,rfl,rfl,trivial⟩⟩ rfl) fun a E=>qa2 (R:=qbp) (xo:=[.tmp 72]) (xs:=([(Range.mk r140.1 r140.1)]:List (Range))) E ok qbC qce rfl ⟨⟨_,rfl,rfl,⟨rfl,r142,r142⟩⟩,trivial⟩ rfl rfl rfl rfl fun c166 M167 a w E ok h168=>bd hF fun l169 e170 hF=>qcj (R:=qbp) E ok 1 qeH qbC Tryz.underlying136 rfl h132 (qa5.ofRow h168 0 rfl ok) e170 ⟨_,qce,rfl⟩ rfl rfl rfl rfl fun c171 M172 a w E ok h173=>mv E rfl fun a E=>fv E qbd rfl fun a E=>qaf E ok 2 rfl rfl rfl qh8 (ORow.cells h173) rfl ⟨(ORow.one h173),trivial⟩ rfl rfl fun w ok=>av E rfl fun a E=>wpList_nil<|qaj ?_
    cases hF
    exact qaq ⟨c171,M172,(ok.pk 4 [1,2,3] rfl (by decide)),E.keep [0,1,4,6],r143,l129,h173,r133,r134⟩
   refine mz E rfl rfl fun a E=>bd hF fun c146 e147 hF=>lv E ok (qaR Tryz.underlying9 rfl rfl e147) fun a E=>lw E (qa3 rfl rfl) fun a E=>pt E rfl rfl fun a E=>wn<|bd hF fun o148 hJ hF=>qba (Q':=fun e a w=>e = .normal ∧ Ok u m0 (M131 :: [(b2,oc 138 [vs v127.Text,c130,vb v127.Not,vi v127.Least,vi v127.Most])] :: [(b1,oc 138 [(vs ([])),(Value.slice none 0 0),vb false,vi 0,vi 0])] :: S) w ∧ Env 89 a [(0,vs s_0),(4,vp b1),(6,vp b2),(7,(Value.int .u8 r140.1)),(8,vi o148.1),(9,(Value.int .u8 o148.2))] ∧ InR .i64 o148.1 ∧ InR .u8 o148.2) ?_ ?_
   rotate_left
   ·intro e a w hO
    obtain ⟨rfl,ok,E,r156,r157⟩:=hO
    refine qaa<|qad<|fk E ok qbd qbN rfl 1 rfl rfl fun a E=>mz E rfl rfl fun a E=>lw E (qaT (ps:=[(0,.tmp 70),(1,.tmp 71)]) (qs:=[(0,[(Value.int .u8 r140.1)]),(1,[(Value.int .u8 o148.2)])]) (cs:=[(Value.int .u8 r140.1),(Value.int .u8 o148.2)]) qce qge rfl ⟨rfl,rfl,rfl,⟨rfl,rfl,rfl,trivial⟩⟩ rfl) fun a E=>qa2 (R:=qbp) (xo:=[.tmp 72]) (xs:=([(Range.mk r140.1 o148.2)]:List (Range))) E ok qbC qce rfl ⟨⟨_,rfl,rfl,⟨rfl,r142,r157⟩⟩,trivial⟩ rfl rfl rfl rfl fun c158 M159 a w E ok h160=>bd hF fun l161 e162 hF=>qcj (R:=qbp) E ok 1 qeH qbC Tryz.underlying136 rfl h132 (qa5.ofRow h160 0 rfl ok) e162 ⟨_,qce,rfl⟩ rfl rfl rfl rfl fun c163 M164 a w E ok h165=>mv E rfl fun a E=>fv E qbd rfl fun a E=>qaf E ok 2 rfl rfl rfl qh8 (ORow.cells h165) rfl ⟨(ORow.one h165),trivial⟩ rfl rfl fun w ok=>av E rfl fun a E=>wpList_nil<|qaj ?_
    cases hF
    exact qaq ⟨c163,M164,(ok.pk 4 [1,2,3] rfl (by decide)),E.keep [0,1,4,6],r156,l129,h165,r133,r134⟩
   have hF:=hJ
   refine cg E rfl hF (fun c151 hF=>?_) fun c151 hF=>?_
   ·refine wp_skip ?_
    cases hF
    exact ⟨rfl,⟨ok,E.keep [0,4,6,7,8,9],r143,r142⟩⟩
   refine qad<|mz E rfl rfl fun a E=>lw E (qav rfl rfl (InR.inc r143 (InR.len ls_0) c145)) fun a E=>bd hF fun r152 e153 hF=>qas E qkh rfl (qcK N s_0 ls_0 (r140.2 + 1) (InR.inc r143 (InR.len ls_0) c145) e153 hG ok) rfl rfl ?_
   rintro _ w ⟨⟨rfl,ok⟩,r154,r155⟩
   refine ⟨_,rfl,fun a E=>?_⟩
   refine mv E rfl fun a E=>lw E (qan rfl rfl) fun a E=>lw E (qan rfl rfl) fun a E=>av E rfl fun a E=>av E rfl fun a E=>wpList_nil ?_
   cases hF
   exact ⟨rfl,⟨ok,E.keep [0,4,6,7,8,9],r155,r154⟩⟩
 refine mz E rfl rfl fun a E=>bd hF fun c4 e5 hF=>lv E ok (qaR Tryz.underlying9 rfl rfl e5) fun a E=>lw E (qa3 rfl rfl) fun a E=>pt E rfl rfl fun a E=>wn<|bd hF fun o6 hJ hF=>qba (Q':=fun e a w=>e = .normal ∧ Ok u m0 ([(b2,oc 138 [vs o6.2.Text,(Value.slice none 0 0),vb o6.2.Not,vi o6.2.Least,vi o6.2.Most])] :: [(b1,oc 138 [(vs ([])),(Value.slice none 0 0),vb false,vi 0,vi 0])] :: S) w ∧ Env 89 a [(0,vs s_0),(1,vi o6.1),(4,vp b1),(6,vp b2)] ∧ InR .i64 o6.1 ∧ o6.2.Text.length ≤ LIMS ∧ InR .i64 o6.2.Least ∧ InR .i64 o6.2.Most) ?_ ?_
 ·have hF:=hJ
  refine cg E rfl hF (fun c11 hF=>?_) fun c11 hF=>?_
  ·refine wp_skip ?_
   cases hF
   exact ⟨rfl,⟨ok,E.keep [0,1,4,6],(InR.wrap _ _),(Nat.zero_le _),(ir 0),(ir 0)⟩⟩
  refine sg<|fv E qig rfl fun a E=>qaf E ok 0 rfl rfl rfl qry rfl rfl ⟨rfl,trivial⟩ rfl rfl fun w ok=>wn<|qad<|mv E rfl fun a E=>lw E (qav rfl rfl (InR.inc (InR.wrap _ _) (InR.len ls_0) c3)) fun a E=>av E rfl fun a E=>wpList_nil ?_
  cases hF
  exact ⟨rfl,⟨ok,E.keep [0,1,4,6],(InR.inc (InR.wrap _ _) (InR.len ls_0) c3),(Nat.zero_le _),(ir 0),(ir 0)⟩⟩
 intro e a w hO
 obtain ⟨rfl,ok,E,r12,l13,r14,r15⟩:=hO
 refine qaa<|wp_seq<|wp_block ?_
 obtain ⟨M24,ok,h25⟩:=qdq (e:=157) (k:=2) (R:=qbp) ok
 refine bd hF fun o26 hL hF=>qaC _ (fun (s:Int × Item) a w=>∃ c29 M30,Ok u m0 (M30 :: [(b2,oc 138 [vs s.2.Text,c29,vb s.2.Not,vi s.2.Least,vi s.2.Most])] :: [(b1,oc 138 [(vs ([])),(Value.slice none 0 0),vb false,vi 0,vi 0])] :: S) w ∧ Env 89 a [(0,vs s_0),(1,vi s.1),(4,vp b1),(6,vp b2)] ∧ InR .i64 s.1 ∧ s.2.Text.length ≤ LIMS ∧ ORow 157 2 qbp m0 c29 s.2.Ranges M30 ∧ InR .i64 s.2.Least ∧ InR .i64 s.2.Most) (fun (b:(Item × Int)) e a w=>e = (.exit 0) ∧ ∃ c102 M103,Ok u m0 (M103 :: [(b2,oc 138 [vs b.1.Text,c102,vb b.1.Not,vi b.1.Least,vi b.1.Most])] :: [(b1,oc 138 [(vs ([])),(Value.slice none 0 0),vb false,vi 0,vi 0])] :: S) w ∧ Env 89 a [(0,vs s_0),(1,vi b.2),(4,vp b1),(6,vp b2)] ∧ b.1.Text.length ≤ LIMS ∧ ORow 157 2 qbp m0 c102 b.1.Ranges M103 ∧ InR .i64 b.1.Least ∧ InR .i64 b.1.Most ∧ InR .i64 b.2) ?_ ?_ N _ a w hL ⟨(Value.slice none 0 0),M24,ok,E.keep [0,1,4,6],r12,l13,h25,r14,r15⟩
 rotate_left
 ·intro e a w _ hO
  obtain ⟨rfl,c91,M92,ok,E,l90,h93,r94,r95,r96⟩:=hO
  refine qaE<|qaa<|wp_seq<|sg<|mv E rfl fun a E=>lw E (qat rfl rfl) fun a E=>mv E rfl fun a E=>bu E 79 hF (fun c97 hF E=>?_) fun c97 hF E=>?_
  ·refine lsz E fun a E=>pt E rfl rfl fun a E=>wn<|c_if E rfl (fun _=>?_) (fun h=>by cases h)
   refine sg<|lw E (qaT (ps:=[]) (qs:=[]) (cs:=[(vs ([])),(Value.slice none 0 0),vb false,vi 0,vi 0]) qbk qcx rfl trivial rfl) fun a E=>qaf E ok 2 rfl rfl rfl qbg rfl rfl ⟨rfl,rfl,rfl,rfl,rfl,trivial⟩ rfl rfl fun w ok=>aw E rfl fun a E=>wp_ret<|qae ?_
   exact fin hF ⟨m0,[(vs ([])),(Value.slice none 0 0),vb false,vi 0,vi 0],le_m0,ok.drop.drop.drop,E.d,⟨rv_c (cs:=[(vs ([])),(Value.slice none 0 0),vb false,vi 0,vi 0]) E ok rfl qaW rfl (qac.own 2 rfl rfl),rv_t E rfl,trivial⟩,⟨_,rfl,(Nat.zero_le _),qbh,(ir 0),(ir 0)⟩,(ir (-1))⟩
  refine mz E rfl rfl fun a E=>lw E (qaJ Tryz.underlying9 rfl) fun a E=>lw E (qaZ rfl rfl) fun a E=>pf E rfl rfl fun a E=>wn<|cf E rfl hF (fun c98 hF=>?_) fun c98 hF=>?_
  ·refine sg<|lw E (qaT (ps:=[]) (qs:=[]) (cs:=[(vs ([])),(Value.slice none 0 0),vb false,vi 0,vi 0]) qbk qcx rfl trivial rfl) fun a E=>qaf E ok 2 rfl rfl rfl qbg rfl rfl ⟨rfl,rfl,rfl,rfl,rfl,trivial⟩ rfl rfl fun w ok=>aw E rfl fun a E=>wp_ret<|qae ?_
   exact fin hF ⟨m0,[(vs ([])),(Value.slice none 0 0),vb false,vi 0,vi 0],le_m0,ok.drop.drop.drop,E.d,⟨rv_c (cs:=[(vs ([])),(Value.slice none 0 0),vb false,vi 0,vi 0]) E ok rfl qaW rfl (qac.own 2 rfl rfl),rv_t E rfl,trivial⟩,⟨_,rfl,(Nat.zero_le _),qbh,(ir 0),(ir 0)⟩,(ir (-1))⟩
  refine wp_skip<|qaa<|sg<|lv E ok (qal (cs:=[vs o26.1.Text,c91,vb o26.1.Not,vi o26.1.Least,vi o26.1.Most]) qaW rfl rfl (qac.own 1 rfl rfl)) fun a E=>mv E rfl fun a E=>lw E (qaw rfl rfl) fun a E=>qaf E ok 2 rfl rfl rfl qbg rfl rfl ⟨rfl,(ORow.one h93),rfl,rfl,rfl,trivial⟩ rfl rfl fun w ok=>aw E rfl fun a E=>wp_ret ?_
  obtain ⟨m99,hle,ok,hfz⟩:=(ok.frs 0 rfl).freeze
  have h100:=ORow.froz qeH h93 hle hfz (by decide)
  have le_m0:=le_m0.trans hle
  exact fin hF ⟨m99,[vs o26.1.Text,c91,vb o26.1.Not,vi o26.1.Least,vi o26.1.Most],le_m0,ok.drop.drop,E.d,⟨rv_c (cs:=[vs o26.1.Text,c91,vb o26.1.Not,vi o26.1.Least,vi o26.1.Most]) E ok rfl qaW rfl (qac.own 1 rfl rfl),rv_t E rfl,trivial⟩,⟨_,rfl,l90,h100,r94,r95⟩,(InR.wrap _ _)⟩
 rintro ⟨v34,v35⟩ a w r ⟨c38,M39,ok,E,r36,l37,h40,r41,r42⟩ hF
 replace hF:qee N s_0 v34 v35 = some r:=hF
 unfold qee at hF
 refine wp_seq<|sg<|mv E rfl fun a E=>lw E (qaZ rfl rfl) fun a E=>mv E rfl fun a E=>bw E 28 hF (fun c43 hF E=>?_) fun c43 hF E=>?_
 ·refine lsz E fun a E=>pf E rfl rfl fun a E=>mv E rfl fun a E=>lsz E fun a E=>pf E rfl rfl fun a E=>wn<|c_if E rfl (fun h=>by cases h) (fun _=>?_)
  refine wp_exit<|qau ?_
  cases hF
  exact so (⟨rfl,⟨c38,M39,ok,E.keep [0,1,4,6],l37,h40,r41,r42,r36⟩⟩)
 refine mz E rfl rfl fun a E=>lw E (qaJ Tryz.underlying9 rfl) fun a E=>lw E (qat rfl rfl) fun a E=>pt E rfl rfl fun a E=>mv E rfl fun a E=>bw E 34 hF (fun c44 hF E=>?_) fun c44 hF E=>?_
 ·refine lsz E fun a E=>pf E rfl rfl fun a E=>wn<|c_if E rfl (fun h=>by cases h) (fun _=>?_)
  refine wp_exit<|qau ?_
  cases hF
  exact so (⟨rfl,⟨c38,M39,ok,E.keep [0,1,4,6],l37,h40,r41,r42,r36⟩⟩)
 refine mz E rfl rfl fun a E=>bd hF fun c45 e46 hF=>lv E ok (qaR Tryz.underlying9 rfl rfl e46) fun a E=>lw E (qbS rfl rfl) fun a E=>pt E rfl rfl fun a E=>wn<|cg E rfl hF (fun c47 hF=>?_) fun c47 hF=>?_
 ·refine wp_exit<|qau ?_
  cases hF
  exact so (⟨rfl,⟨c38,M39,ok,E.keep [0,1,4,6],l37,h40,r41,r42,r36⟩⟩)
 refine wp_skip<|qaa<|wp_block<|sg<|mz E rfl rfl fun a E=>bd hF fun r48 e49 hF=>qas E qkh rfl (qcK N s_0 ls_0 v34 r36 e49 hG ok) rfl rfl ?_
 rintro _ w ⟨⟨rfl,ok⟩,r50,r51⟩
 refine ⟨_,rfl,fun a E=>?_⟩
 refine mv E rfl fun a E=>lw E (qan rfl rfl) fun a E=>lw E (qan rfl rfl) fun a E=>av E rfl fun a E=>aw E rfl fun a E=>sg<|mv E rfl fun a E=>aw E rfl fun a E=>wp_seq<|sg<|mv E rfl fun a E=>lw E (qaZ rfl rfl) fun a E=>mv E rfl fun a E=>bw E 49 hF (fun c52 hF E=>?_) fun c52 hF E=>?_
 ·refine lsz E fun a E=>pf E rfl rfl fun a E=>mv E rfl fun a E=>lsz E fun a E=>pf E rfl rfl fun a E=>wn<|c_if E rfl (fun h=>by cases h) (fun _=>?_)
  refine wp_skip<|qaa<|qad<|fk E ok qbd qbN rfl 1 rfl rfl fun a E=>mz E rfl rfl fun a E=>lw E (qaT (ps:=[(0,.tmp 70),(1,.tmp 71)]) (qs:=[(0,[(Value.int .u8 r48.1)]),(1,[(Value.int .u8 r48.1)])]) (cs:=[(Value.int .u8 r48.1),(Value.int .u8 r48.1)]) qce qge rfl ⟨rfl,rfl,rfl,⟨rfl,rfl,rfl,trivial⟩⟩ rfl) fun a E=>qa2 (R:=qbp) (xo:=[.tmp 72]) (xs:=([(Range.mk r48.1 r48.1)]:List (Range))) E ok qbC qce rfl ⟨⟨_,rfl,rfl,⟨rfl,r50,r50⟩⟩,trivial⟩ rfl rfl rfl rfl fun c82 M83 a w E ok h84=>bd hF fun l85 e86 hF=>qcj (R:=qbp) E ok 1 qeH qbC Tryz.underlying136 rfl h40 (qa5.ofRow h84 0 rfl ok) e86 ⟨_,qce,rfl⟩ rfl rfl rfl rfl fun c87 M88 a w E ok h89=>mv E rfl fun a E=>fv E qbd rfl fun a E=>qaf E ok 2 rfl rfl rfl qh8 (ORow.cells h89) rfl ⟨(ORow.one h89),trivial⟩ rfl rfl fun w ok=>av E rfl fun a E=>wpList_nil<|qaj ?_
  cases hF
  exact qaq ⟨c87,M88,(ok.pk 4 [1,2,3] rfl (by decide)),E.keep [0,1,4,6],r51,l37,h89,r41,r42⟩
 refine mz E rfl rfl fun a E=>lw E (qaJ Tryz.underlying9 rfl) fun a E=>lw E (qat rfl rfl) fun a E=>pt E rfl rfl fun a E=>mv E rfl fun a E=>bw E 55 hF (fun c53 hF E=>?_) fun c53 hF E=>?_
 ·refine lsz E fun a E=>pf E rfl rfl fun a E=>wn<|c_if E rfl (fun h=>by cases h) (fun _=>?_)
  refine wp_skip<|qaa<|qad<|fk E ok qbd qbN rfl 1 rfl rfl fun a E=>mz E rfl rfl fun a E=>lw E (qaT (ps:=[(0,.tmp 70),(1,.tmp 71)]) (qs:=[(0,[(Value.int .u8 r48.1)]),(1,[(Value.int .u8 r48.1)])]) (cs:=[(Value.int .u8 r48.1),(Value.int .u8 r48.1)]) qce qge rfl ⟨rfl,rfl,rfl,⟨rfl,rfl,rfl,trivial⟩⟩ rfl) fun a E=>qa2 (R:=qbp) (xo:=[.tmp 72]) (xs:=([(Range.mk r48.1 r48.1)]:List (Range))) E ok qbC qce rfl ⟨⟨_,rfl,rfl,⟨rfl,r50,r50⟩⟩,trivial⟩ rfl rfl rfl rfl fun c74 M75 a w E ok h76=>bd hF fun l77 e78 hF=>qcj (R:=qbp) E ok 1 qeH qbC Tryz.underlying136 rfl h40 (qa5.ofRow h76 0 rfl ok) e78 ⟨_,qce,rfl⟩ rfl rfl rfl rfl fun c79 M80 a w E ok h81=>mv E rfl fun a E=>fv E qbd rfl fun a E=>qaf E ok 2 rfl rfl rfl qh8 (ORow.cells h81) rfl ⟨(ORow.one h81),trivial⟩ rfl rfl fun w ok=>av E rfl fun a E=>wpList_nil<|qaj ?_
  cases hF
  exact qaq ⟨c79,M80,(ok.pk 4 [1,2,3] rfl (by decide)),E.keep [0,1,4,6],r51,l37,h81,r41,r42⟩
 refine mz E rfl rfl fun a E=>bd hF fun c54 e55 hF=>lv E ok (qaR Tryz.underlying9 rfl rfl e55) fun a E=>lw E (qa3 rfl rfl) fun a E=>pt E rfl rfl fun a E=>wn<|bd hF fun o56 hJ hF=>qba (Q':=fun e a w=>e = .normal ∧ Ok u m0 (M39 :: [(b2,oc 138 [vs v35.Text,c38,vb v35.Not,vi v35.Least,vi v35.Most])] :: [(b1,oc 138 [(vs ([])),(Value.slice none 0 0),vb false,vi 0,vi 0])] :: S) w ∧ Env 89 a [(0,vs s_0),(4,vp b1),(6,vp b2),(7,(Value.int .u8 r48.1)),(8,vi o56.1),(9,(Value.int .u8 o56.2))] ∧ InR .i64 o56.1 ∧ InR .u8 o56.2) ?_ ?_
 rotate_left
 ·intro e a w hO
  obtain ⟨rfl,ok,E,r64,r65⟩:=hO
  refine qaa<|qad<|fk E ok qbd qbN rfl 1 rfl rfl fun a E=>mz E rfl rfl fun a E=>lw E (qaT (ps:=[(0,.tmp 70),(1,.tmp 71)]) (qs:=[(0,[(Value.int .u8 r48.1)]),(1,[(Value.int .u8 o56.2)])]) (cs:=[(Value.int .u8 r48.1),(Value.int .u8 o56.2)]) qce qge rfl ⟨rfl,rfl,rfl,⟨rfl,rfl,rfl,trivial⟩⟩ rfl) fun a E=>qa2 (R:=qbp) (xo:=[.tmp 72]) (xs:=([(Range.mk r48.1 o56.2)]:List (Range))) E ok qbC qce rfl ⟨⟨_,rfl,rfl,⟨rfl,r50,r65⟩⟩,trivial⟩ rfl rfl rfl rfl fun c66 M67 a w E ok h68=>bd hF fun l69 e70 hF=>qcj (R:=qbp) E ok 1 qeH qbC Tryz.underlying136 rfl h40 (qa5.ofRow h68 0 rfl ok) e70 ⟨_,qce,rfl⟩ rfl rfl rfl rfl fun c71 M72 a w E ok h73=>mv E rfl fun a E=>fv E qbd rfl fun a E=>qaf E ok 2 rfl rfl rfl qh8 (ORow.cells h73) rfl ⟨(ORow.one h73),trivial⟩ rfl rfl fun w ok=>av E rfl fun a E=>wpList_nil<|qaj ?_
  cases hF
  exact qaq ⟨c71,M72,(ok.pk 4 [1,2,3] rfl (by decide)),E.keep [0,1,4,6],r64,l37,h73,r41,r42⟩
 have hF:=hJ
 refine cg E rfl hF (fun c59 hF=>?_) fun c59 hF=>?_
 ·refine wp_skip ?_
  cases hF
  exact ⟨rfl,⟨ok,E.keep [0,4,6,7,8,9],r51,r50⟩⟩
 refine qad<|mz E rfl rfl fun a E=>lw E (qav rfl rfl (InR.inc r51 (InR.len ls_0) c53)) fun a E=>bd hF fun r60 e61 hF=>qas E qkh rfl (qcK N s_0 ls_0 (r48.2 + 1) (InR.inc r51 (InR.len ls_0) c53) e61 hG ok) rfl rfl ?_
 rintro _ w ⟨⟨rfl,ok⟩,r62,r63⟩
 refine ⟨_,rfl,fun a E=>?_⟩
 refine mv E rfl fun a E=>lw E (qan rfl rfl) fun a E=>lw E (qan rfl rfl) fun a E=>av E rfl fun a E=>av E rfl fun a E=>wpList_nil ?_
 cases hF
 exact ⟨rfl,⟨ok,E.keep [0,4,6,7,8,9],r63,r62⟩⟩
def qdx (u:World) (m0:Mem) (S:Segs) (r:Item × Int) (a:Act) (w:World):Prop :=
 ∃ m1 v0,m0.le m1 ∧ Ok u m1 S w ∧ a.defers = [] ∧ RVs Tryz.prog a w [.c 4 138 (.agg v0.toArray),.t 5 (.int .i64 r.2)] ∧ qbu m1 v0 r.1 ∧ InR .i64 r.2
theorem qeL (N:Nat) (s_0:List UInt8) (ls_0:s_0.length ≤ LIMS) (at_1:Int) (rat_1:InR .i64 at_1) {r:Item × Int} (hF:qdb N s_0 at_1 = some r) (hG:Glob u) (ok:Ok u m0 S w) :
  Calls Tryz.prog 68 [vs s_0,vi at_1].toArray w fun e w'=>∃ m1 v0,e = .returned (.tuple [(.agg v0.toArray),(.int .i64 r.2)].toArray) ∧ m0.le m1 ∧ Ok u m1 S w' ∧ qbu m1 v0 r.1 ∧ InR .i64 r.2:=by
 have le_m0:=Mem.le.refl m0
 unfold qdb at hF
 refine en (qdx u m0 S) r Tryz.func68 rfl rfl rfl (by rintro a w ⟨m1,v0,hle,ok,hd,hrv,h0,h1⟩; exact qbT [.c 4 138 (.agg v0.toArray),.t 5 (.int .i64 r.2)] hd rfl hrv ⟨m1,v0,rfl,hle,ok,h0,h1⟩) fun fin a E=>sg<|qaB E ok qbk rfl rfl fun b1 a w E ok=>aw E rfl fun a E=>sg<|lw E (qaT (ps:=[]) (qs:=[]) (cs:=[(vs ([])),(Value.slice none 0 0),vb false,vi 0,vi 0]) qbk qcx rfl trivial rfl) fun a E=>qaB E ok qbk rfl rfl fun b2 a w E ok=>qaf E ok 0 rfl rfl rfl qbg rfl rfl ⟨rfl,rfl,rfl,rfl,rfl,trivial⟩ rfl rfl fun w ok=>wn<|wp_seq<|wp_block<|sg<|mz E rfl rfl fun a E=>lw E (qaJ Tryz.underlying9 rfl) fun a E=>lw E (qat rfl rfl) fun a E=>mv E rfl fun a E=>bw E 14 hF (fun c3 hF E=>?_) fun c3 hF E=>?_
 ·as_aux_lemma =>
   refine lsz E fun a E=>pf E rfl rfl fun a E=>aw E rfl fun a E=>c_if E rfl (fun h=>by cases h) (fun _=>?_)
   refine sg<|mz E rfl rfl fun a E=>lw E (qaJ Tryz.underlying9 rfl) fun a E=>lw E (qat rfl rfl) fun a E=>mv E rfl fun a E=>bw E 31 hF (fun c57 hF E=>?_) fun c57 hF E=>?_
   ·refine lsz E fun a E=>pf E rfl rfl fun a E=>aw E rfl fun a E=>c_if E rfl (fun h=>by cases h) (fun _=>?_)
    refine sg<|lw E (qaT (ps:=[]) (qs:=[]) (cs:=[(vs ([])),(Value.slice none 0 0),vb false,vi 0,vi 0]) qbk qcx rfl trivial rfl) fun a E=>qaf E ok 1 rfl rfl rfl qbg rfl rfl ⟨rfl,rfl,rfl,rfl,rfl,trivial⟩ rfl rfl fun w ok=>aw E rfl fun a E=>wp_ret<|qah<|qae ?_
    exact fin hF ⟨m0,[(vs ([])),(Value.slice none 0 0),vb false,vi 0,vi 0],le_m0,ok.drop.drop,E.d,⟨rv_c (cs:=[(vs ([])),(Value.slice none 0 0),vb false,vi 0,vi 0]) E ok rfl qaW rfl (qac.own 1 rfl rfl),rv_t E rfl,trivial⟩,⟨_,rfl,(Nat.zero_le _),qbh,(ir 0),(ir 0)⟩,(ir (-1))⟩
   refine mz E rfl rfl fun a E=>bd hF fun c58 e59 hF=>lv E ok (qaR Tryz.underlying9 rfl rfl e59) fun a E=>lw E (qa3 rfl rfl) fun a E=>pt E rfl rfl fun a E=>aw E rfl fun a E=>cg E rfl hF (fun c60 hF=>?_) fun c60 hF=>?_
   ·refine sg<|lw E (qaT (ps:=[]) (qs:=[]) (cs:=[(vs ([])),(Value.slice none 0 0),vb false,vi 0,vi 0]) qbk qcx rfl trivial rfl) fun a E=>qaf E ok 1 rfl rfl rfl qbg rfl rfl ⟨rfl,rfl,rfl,rfl,rfl,trivial⟩ rfl rfl fun w ok=>aw E rfl fun a E=>wp_ret<|qah<|qae ?_
    exact fin hF ⟨m0,[(vs ([])),(Value.slice none 0 0),vb false,vi 0,vi 0],le_m0,ok.drop.drop,E.d,⟨rv_c (cs:=[(vs ([])),(Value.slice none 0 0),vb false,vi 0,vi 0]) E ok rfl qaW rfl (qac.own 1 rfl rfl),rv_t E rfl,trivial⟩,⟨_,rfl,(Nat.zero_le _),qbh,(ir 0),(ir 0)⟩,(ir (-1))⟩
   refine qad<|mz E rfl rfl fun a E=>bd hF fun r61 e62 hF=>qas E qrI rfl (qgm N s_0 ls_0 at_1 rat_1 e62 hG ok) rfl rfl ?_
   rintro _ w ⟨m63,vs64,rfl,hle,ok,h65,r66⟩
   have le_m0:=le_m0.trans hle
   obtain ⟨c68,rfl,l67,h69,r70,r71⟩:=h65
   refine ⟨_,rfl,fun a E=>?_⟩
   refine mv E rfl fun a E=>lw E (qan rfl rfl) fun a E=>lw E (qan rfl rfl) fun a E=>qaf E ok 0 rfl rfl rfl qbg rfl rfl ⟨rfl,(qaS h69),rfl,rfl,rfl,trivial⟩ rfl rfl fun w ok=>av E rfl fun a E=>wpList_nil<|qaj<|qaa<|sg<|fv E qdO rfl fun a E=>qaf E ok 0 rfl rfl rfl qeg rfl rfl ⟨rfl,trivial⟩ rfl rfl fun w ok=>fv E qdP rfl fun a E=>qaf E ok 0 rfl rfl rfl qeg rfl rfl ⟨rfl,trivial⟩ rfl rfl fun w ok=>wn ?_
   refine wp_seq<|sg<|mv E rfl fun a E=>lw E (qaZ rfl rfl) fun a E=>mv E rfl fun a E=>bw E 47 hF (fun c72 hF E=>?_) fun c72 hF E=>?_
   ·refine lsz E fun a E=>pf E rfl rfl fun a E=>wn<|c_if E rfl (fun h=>by cases h) (fun _=>?_)
    refine wp_skip<|qaa<|sg<|lv E ok (qal (cs:=[vs r61.1.Text,c68,vb r61.1.Not,vi 1,vi 1]) qaW rfl rfl (qac.own 0 rfl rfl)) fun a E=>mv E rfl fun a E=>qaf E ok 1 rfl rfl rfl qbg rfl rfl ⟨rfl,(qaS h69),rfl,rfl,rfl,trivial⟩ rfl rfl fun w ok=>av E rfl fun a E=>wn<|wp_ret ?_
    exact fin hF ⟨m63,[vs r61.1.Text,c68,vb r61.1.Not,vi 1,vi 1],le_m0,ok.drop.drop,E.d,⟨rv_c (cs:=[vs r61.1.Text,c68,vb r61.1.Not,vi 1,vi 1]) E ok rfl qaW rfl (qac.own 1 rfl rfl),rv_t E rfl,trivial⟩,⟨_,rfl,l67,h69,(ir 1),(ir 1)⟩,r66⟩
   refine mz E rfl rfl fun a E=>lw E (qaJ Tryz.underlying9 rfl) fun a E=>lw E (qat rfl rfl) fun a E=>pt E rfl rfl fun a E=>wn<|cg E rfl hF (fun c73 hF=>?_) fun c73 hF=>?_
   ·refine wp_skip<|qaa<|sg<|lv E ok (qal (cs:=[vs r61.1.Text,c68,vb r61.1.Not,vi 1,vi 1]) qaW rfl rfl (qac.own 0 rfl rfl)) fun a E=>mv E rfl fun a E=>qaf E ok 1 rfl rfl rfl qbg rfl rfl ⟨rfl,(qaS h69),rfl,rfl,rfl,trivial⟩ rfl rfl fun w ok=>av E rfl fun a E=>wn<|wp_ret ?_
    exact fin hF ⟨m63,[vs r61.1.Text,c68,vb r61.1.Not,vi 1,vi 1],le_m0,ok.drop.drop,E.d,⟨rv_c (cs:=[vs r61.1.Text,c68,vb r61.1.Not,vi 1,vi 1]) E ok rfl qaW rfl (qac.own 1 rfl rfl),rv_t E rfl,trivial⟩,⟨_,rfl,l67,h69,(ir 1),(ir 1)⟩,r66⟩
   refine sg<|mz E rfl rfl fun a E=>bd hF fun c74 e75 hF=>lv E ok (qaR Tryz.underlying9 rfl rfl e75) fun a E=>wn<|wp_block<|sg<|lw E (qa3 rfl rfl) fun a E=>av E rfl fun a E=>wn<|cf E rfl hF (fun c76 hF=>?_) fun c76 hF=>?_
   ·refine qad<|mv E rfl fun a E=>lw E (qav rfl rfl (InR.inc r66 (InR.len ls_0) c73)) fun a E=>fv E qdO rfl fun a E=>qaf E ok 0 rfl rfl rfl qeg rfl rfl ⟨rfl,trivial⟩ rfl rfl fun w ok=>av E rfl fun a E=>wpList_nil<|qaj<|qaa<|sg<|lv E ok (qal (cs:=[vs r61.1.Text,c68,vb r61.1.Not,vi 0,vi 1]) qaW rfl rfl (qac.own 0 rfl rfl)) fun a E=>mv E rfl fun a E=>qaf E ok 1 rfl rfl rfl qbg rfl rfl ⟨rfl,(qaS h69),rfl,rfl,rfl,trivial⟩ rfl rfl fun w ok=>av E rfl fun a E=>wn<|wp_ret ?_
    exact fin hF ⟨m63,[vs r61.1.Text,c68,vb r61.1.Not,vi 0,vi 1],le_m0,ok.drop.drop,E.d,⟨rv_c (cs:=[vs r61.1.Text,c68,vb r61.1.Not,vi 0,vi 1]) E ok rfl qaW rfl (qac.own 1 rfl rfl),rv_t E rfl,trivial⟩,⟨_,rfl,l67,h69,(ir 0),(ir 1)⟩,(InR.inc r66 (InR.len ls_0) c73)⟩
   refine sg<|lw E (qa3 rfl rfl) fun a E=>aw E rfl fun a E=>cf E rfl hF (fun c77 hF=>?_) fun c77 hF=>?_
   ·refine qad<|mv E rfl fun a E=>lw E (qav rfl rfl (InR.inc r66 (InR.len ls_0) c73)) fun a E=>fv E qdO rfl fun a E=>qaf E ok 0 rfl rfl rfl qeg rfl rfl ⟨rfl,trivial⟩ rfl rfl fun w ok=>fv E qdP rfl fun a E=>qaf E ok 0 rfl rfl rfl qeg rfl rfl ⟨rfl,trivial⟩ rfl rfl fun w ok=>av E rfl fun a E=>wpList_nil<|qaj<|qaa<|sg<|lv E ok (qal (cs:=[vs r61.1.Text,c68,vb r61.1.Not,vi 0,(vi (-1))]) qaW rfl rfl (qac.own 0 rfl rfl)) fun a E=>mv E rfl fun a E=>qaf E ok 1 rfl rfl rfl qbg rfl rfl ⟨rfl,(qaS h69),rfl,rfl,rfl,trivial⟩ rfl rfl fun w ok=>aw E rfl fun a E=>wp_ret ?_
    exact fin hF ⟨m63,[vs r61.1.Text,c68,vb r61.1.Not,vi 0,(vi (-1))],le_m0,ok.drop.drop,E.d,⟨rv_c (cs:=[vs r61.1.Text,c68,vb r61.1.Not,vi 0,(vi (-1))]) E ok rfl qaW rfl (qac.own 1 rfl rfl),rv_t E rfl,trivial⟩,⟨_,rfl,l67,h69,(ir 0),(ir (-1))⟩,(InR.inc r66 (InR.len ls_0) c73)⟩
   refine sg<|lw E (qa3 rfl rfl) fun a E=>aw E rfl fun a E=>cg E rfl hF (fun c78 hF=>?_) fun c78 hF=>?_
   ·refine wp_skip<|qaj<|qaa<|sg<|lv E ok (qal (cs:=[vs r61.1.Text,c68,vb r61.1.Not,vi 1,vi 1]) qaW rfl rfl (qac.own 0 rfl rfl)) fun a E=>mv E rfl fun a E=>qaf E ok 1 rfl rfl rfl qbg rfl rfl ⟨rfl,(qaS h69),rfl,rfl,rfl,trivial⟩ rfl rfl fun w ok=>aw E rfl fun a E=>wp_ret ?_
    exact fin hF ⟨m63,[vs r61.1.Text,c68,vb r61.1.Not,vi 1,vi 1],le_m0,ok.drop.drop,E.d,⟨rv_c (cs:=[vs r61.1.Text,c68,vb r61.1.Not,vi 1,vi 1]) E ok rfl qaW rfl (qac.own 1 rfl rfl),rv_t E rfl,trivial⟩,⟨_,rfl,l67,h69,(ir 1),(ir 1)⟩,r66⟩
   refine qad<|mv E rfl fun a E=>lw E (qav rfl rfl (InR.inc r66 (InR.len ls_0) c73)) fun a E=>fv E qdP rfl fun a E=>qaf E ok 0 rfl rfl rfl qeg rfl rfl ⟨rfl,trivial⟩ rfl rfl fun w ok=>av E rfl fun a E=>wpList_nil<|qaj<|qaa<|sg<|lv E ok (qal (cs:=[vs r61.1.Text,c68,vb r61.1.Not,vi 1,(vi (-1))]) qaW rfl rfl (qac.own 0 rfl rfl)) fun a E=>mv E rfl fun a E=>qaf E ok 1 rfl rfl rfl qbg rfl rfl ⟨rfl,(qaS h69),rfl,rfl,rfl,trivial⟩ rfl rfl fun w ok=>av E rfl fun a E=>wn<|wp_ret ?_
   exact fin hF ⟨m63,[vs r61.1.Text,c68,vb r61.1.Not,vi 1,(vi (-1))],le_m0,ok.drop.drop,E.d,⟨rv_c (cs:=[vs r61.1.Text,c68,vb r61.1.Not,vi 1,(vi (-1))]) E ok rfl qaW rfl (qac.own 1 rfl rfl),rv_t E rfl,trivial⟩,⟨_,rfl,l67,h69,(ir 1),(ir (-1))⟩,(InR.inc r66 (InR.len ls_0) c73)⟩
 refine mz E rfl rfl fun a E=>bd hF fun c4 e5 hF=>lv E ok (qaR Tryz.underlying9 rfl rfl e5) fun a E=>lw E (qa3 rfl rfl) fun a E=>pt E rfl rfl fun a E=>aw E rfl fun a E=>bd hF fun o6 hJ hF=>qba (Q':=fun e a w=>(Sum.elim (fun b7=>e = .normal ∧ ∃ m8 c11,m0.le m8 ∧ Ok u m8 ([(b2,oc 138 [vs b7.2.Text,c11,vb b7.2.Not,vi b7.2.Least,vi b7.2.Most])] :: [(b1,oc 138 [(vs ([])),(Value.slice none 0 0),vb false,vi 0,vi 0])] :: S) w ∧ Env 74 a [(0,vs s_0),(1,vi b7.1),(4,vp b1),(6,vp b2)] ∧ InR .i64 b7.1 ∧ b7.2.Text.length ≤ LIMS ∧ (pL 2 qbp) m8 [c11] b7.2.Ranges ∧ InR .i64 b7.2.Least ∧ InR .i64 b7.2.Most) (fun b15=>e = .ret ∧ qdx u m0 S b15 a w)) o6) ?_ ?_
 ·as_aux_lemma =>
   have hF:=hJ
   refine cf E rfl hF (fun c16 hF=>?_) fun c16 hF=>?_
   ·refine qad<|mz E rfl rfl fun a E=>bd hF fun r17 e18 hF=>qas E qt0 rfl (qiS N s_0 ls_0 at_1 rat_1 e18 hG ok) rfl rfl ?_
    rintro _ w ⟨m19,vs20,rfl,hle,ok,h21,r22⟩
    have le_m0:=le_m0.trans hle
    obtain ⟨c24,rfl,l23,h25,r26,r27⟩:=h21
    refine ⟨_,rfl,fun a E=>?_⟩
    refine mv E rfl fun a E=>lw E (qan rfl rfl) fun a E=>lw E (qan rfl rfl) fun a E=>qaf E ok 0 rfl rfl rfl qbg rfl rfl ⟨rfl,(qaS h25),rfl,rfl,rfl,trivial⟩ rfl rfl fun w ok=>av E rfl fun a E=>wpList_nil ?_
    cases hF
    exact (sl ⟨rfl,⟨m19,c24,le_m0,ok,E.keep [0,1,4,6],r22,l23,h25,r26,r27⟩⟩)
   refine sg<|mz E rfl rfl fun a E=>lw E (qaJ Tryz.underlying9 rfl) fun a E=>lw E (qat rfl rfl) fun a E=>mv E rfl fun a E=>bw E 31 hF (fun c28 hF E=>?_) fun c28 hF E=>?_
   ·refine lsz E fun a E=>pf E rfl rfl fun a E=>aw E rfl fun a E=>c_if E rfl (fun h=>by cases h) (fun _=>?_)
    refine sg<|lw E (qaT (ps:=[]) (qs:=[]) (cs:=[(vs ([])),(Value.slice none 0 0),vb false,vi 0,vi 0]) qbk qcx rfl trivial rfl) fun a E=>qaf E ok 1 rfl rfl rfl qbg rfl rfl ⟨rfl,rfl,rfl,rfl,rfl,trivial⟩ rfl rfl fun w ok=>aw E rfl fun a E=>wp_ret ?_
    have hret:qdx u m0 S ((Item.mk ([]) ([]) false 0 0),(-1)) a w:=⟨m0,[(vs ([])),(Value.slice none 0 0),vb false,vi 0,vi 0],le_m0,ok.drop.drop,E.d,⟨rv_c (cs:=[(vs ([])),(Value.slice none 0 0),vb false,vi 0,vi 0]) E ok rfl qaW rfl (qac.own 1 rfl rfl),rv_t E rfl,trivial⟩,⟨_,rfl,(Nat.zero_le _),qbh,(ir 0),(ir 0)⟩,(ir (-1))⟩
    cases hF
    exact (sr ⟨rfl,hret⟩)
   refine mz E rfl rfl fun a E=>bd hF fun c29 e30 hF=>lv E ok (qaR Tryz.underlying9 rfl rfl e30) fun a E=>lw E (qa3 rfl rfl) fun a E=>pt E rfl rfl fun a E=>aw E rfl fun a E=>cg E rfl hF (fun c31 hF=>?_) fun c31 hF=>?_
   ·refine sg<|lw E (qaT (ps:=[]) (qs:=[]) (cs:=[(vs ([])),(Value.slice none 0 0),vb false,vi 0,vi 0]) qbk qcx rfl trivial rfl) fun a E=>qaf E ok 1 rfl rfl rfl qbg rfl rfl ⟨rfl,rfl,rfl,rfl,rfl,trivial⟩ rfl rfl fun w ok=>aw E rfl fun a E=>wp_ret ?_
    have hret:qdx u m0 S ((Item.mk ([]) ([]) false 0 0),(-1)) a w:=⟨m0,[(vs ([])),(Value.slice none 0 0),vb false,vi 0,vi 0],le_m0,ok.drop.drop,E.d,⟨rv_c (cs:=[(vs ([])),(Value.slice none 0 0),vb false,vi 0,vi 0]) E ok rfl qaW rfl (qac.own 1 rfl rfl),rv_t E rfl,trivial⟩,⟨_,rfl,(Nat.zero_le _),qbh,(ir 0),(ir 0)⟩,(ir (-1))⟩
    cases hF
    exact (sr ⟨rfl,hret⟩)
   refine qad<|mz E rfl rfl fun a E=>bd hF fun r32 e33 hF=>qas E qrI rfl (qgm N s_0 ls_0 at_1 rat_1 e33 hG ok) rfl rfl ?_
   rintro _ w ⟨m34,vs35,rfl,hle,ok,h36,r37⟩
   have le_m0:=le_m0.trans hle
   obtain ⟨c39,rfl,l38,h40,r41,r42⟩:=h36
   refine ⟨_,rfl,fun a E=>?_⟩
   refine mv E rfl fun a E=>lw E (qan rfl rfl) fun a E=>lw E (qan rfl rfl) fun a E=>qaf E ok 0 rfl rfl rfl qbg rfl rfl ⟨rfl,(qaS h40),rfl,rfl,rfl,trivial⟩ rfl rfl fun w ok=>av E rfl fun a E=>wpList_nil ?_
   cases hF
   exact (sl ⟨rfl,⟨m34,c39,le_m0,ok,E.keep [0,1,4,6],r37,l38,h40,r41,r42⟩⟩)
 intro e a w hO
 rcases o6 with o6 | o6
 rotate_left
 ·obtain ⟨rfl,hret⟩:=hO
  refine qah<|qae ?_
  exact fin hF hret
 have hF:=qa1 hF
 obtain ⟨rfl,m43,c46,hle,ok,E,r44,l45,h47,r48,r49⟩:=hO
 have le_m0:=le_m0.trans hle
 refine qaj<|qaa<|sg<|fv E qdO rfl fun a E=>qaf E ok 0 rfl rfl rfl qeg rfl rfl ⟨rfl,trivial⟩ rfl rfl fun w ok=>fv E qdP rfl fun a E=>qaf E ok 0 rfl rfl rfl qeg rfl rfl ⟨rfl,trivial⟩ rfl rfl fun w ok=>wn<|wp_seq<|sg<|mv E rfl fun a E=>lw E (qaZ rfl rfl) fun a E=>mv E rfl fun a E=>bw E 47 hF (fun c50 hF E=>?_) fun c50 hF E=>?_
 ·refine lsz E fun a E=>pf E rfl rfl fun a E=>wn<|c_if E rfl (fun h=>by cases h) (fun _=>?_)
  refine wp_skip<|qaa<|sg<|lv E ok (qal (cs:=[vs o6.2.Text,c46,vb o6.2.Not,vi 1,vi 1]) qaW rfl rfl (qac.own 0 rfl rfl)) fun a E=>mv E rfl fun a E=>qaf E ok 1 rfl rfl rfl qbg rfl rfl ⟨rfl,(qaS h47),rfl,rfl,rfl,trivial⟩ rfl rfl fun w ok=>av E rfl fun a E=>wn<|wp_ret ?_
  exact fin hF ⟨m43,[vs o6.2.Text,c46,vb o6.2.Not,vi 1,vi 1],le_m0,ok.drop.drop,E.d,⟨rv_c (cs:=[vs o6.2.Text,c46,vb o6.2.Not,vi 1,vi 1]) E ok rfl qaW rfl (qac.own 1 rfl rfl),rv_t E rfl,trivial⟩,⟨_,rfl,l45,h47,(ir 1),(ir 1)⟩,r44⟩
 refine mz E rfl rfl fun a E=>lw E (qaJ Tryz.underlying9 rfl) fun a E=>lw E (qat rfl rfl) fun a E=>pt E rfl rfl fun a E=>wn<|cg E rfl hF (fun c51 hF=>?_) fun c51 hF=>?_
 ·refine wp_skip<|qaa<|sg<|lv E ok (qal (cs:=[vs o6.2.Text,c46,vb o6.2.Not,vi 1,vi 1]) qaW rfl rfl (qac.own 0 rfl rfl)) fun a E=>mv E rfl fun a E=>qaf E ok 1 rfl rfl rfl qbg rfl rfl ⟨rfl,(qaS h47),rfl,rfl,rfl,trivial⟩ rfl rfl fun w ok=>av E rfl fun a E=>wn<|wp_ret ?_
  exact fin hF ⟨m43,[vs o6.2.Text,c46,vb o6.2.Not,vi 1,vi 1],le_m0,ok.drop.drop,E.d,⟨rv_c (cs:=[vs o6.2.Text,c46,vb o6.2.Not,vi 1,vi 1]) E ok rfl qaW rfl (qac.own 1 rfl rfl),rv_t E rfl,trivial⟩,⟨_,rfl,l45,h47,(ir 1),(ir 1)⟩,r44⟩
 refine sg<|mz E rfl rfl fun a E=>bd hF fun c52 e53 hF=>lv E ok (qaR Tryz.underlying9 rfl rfl e53) fun a E=>wn<|wp_block<|sg<|lw E (qa3 rfl rfl) fun a E=>av E rfl fun a E=>wn<|cf E rfl hF (fun c54 hF=>?_) fun c54 hF=>?_
 ·refine qad<|mv E rfl fun a E=>lw E (qav rfl rfl (InR.inc r44 (InR.len ls_0) c51)) fun a E=>fv E qdO rfl fun a E=>qaf E ok 0 rfl rfl rfl qeg rfl rfl ⟨rfl,trivial⟩ rfl rfl fun w ok=>av E rfl fun a E=>wpList_nil<|qaj<|qaa<|sg<|lv E ok (qal (cs:=[vs o6.2.Text,c46,vb o6.2.Not,vi 0,vi 1]) qaW rfl rfl (qac.own 0 rfl rfl)) fun a E=>mv E rfl fun a E=>qaf E ok 1 rfl rfl rfl qbg rfl rfl ⟨rfl,(qaS h47),rfl,rfl,rfl,trivial⟩ rfl rfl fun w ok=>av E rfl fun a E=>wn<|wp_ret ?_
  exact fin hF ⟨m43,[vs o6.2.Text,c46,vb o6.2.Not,vi 0,vi 1],le_m0,ok.drop.drop,E.d,⟨rv_c (cs:=[vs o6.2.Text,c46,vb o6.2.Not,vi 0,vi 1]) E ok rfl qaW rfl (qac.own 1 rfl rfl),rv_t E rfl,trivial⟩,⟨_,rfl,l45,h47,(ir 0),(ir 1)⟩,(InR.inc r44 (InR.len ls_0) c51)⟩
 refine sg<|lw E (qa3 rfl rfl) fun a E=>aw E rfl fun a E=>cf E rfl hF (fun c55 hF=>?_) fun c55 hF=>?_
 ·refine qad<|mv E rfl fun a E=>lw E (qav rfl rfl (InR.inc r44 (InR.len ls_0) c51)) fun a E=>fv E qdO rfl fun a E=>qaf E ok 0 rfl rfl rfl qeg rfl rfl ⟨rfl,trivial⟩ rfl rfl fun w ok=>fv E qdP rfl fun a E=>qaf E ok 0 rfl rfl rfl qeg rfl rfl ⟨rfl,trivial⟩ rfl rfl fun w ok=>av E rfl fun a E=>wpList_nil<|qaj<|qaa<|sg<|lv E ok (qal (cs:=[vs o6.2.Text,c46,vb o6.2.Not,vi 0,(vi (-1))]) qaW rfl rfl (qac.own 0 rfl rfl)) fun a E=>mv E rfl fun a E=>qaf E ok 1 rfl rfl rfl qbg rfl rfl ⟨rfl,(qaS h47),rfl,rfl,rfl,trivial⟩ rfl rfl fun w ok=>aw E rfl fun a E=>wp_ret ?_
  exact fin hF ⟨m43,[vs o6.2.Text,c46,vb o6.2.Not,vi 0,(vi (-1))],le_m0,ok.drop.drop,E.d,⟨rv_c (cs:=[vs o6.2.Text,c46,vb o6.2.Not,vi 0,(vi (-1))]) E ok rfl qaW rfl (qac.own 1 rfl rfl),rv_t E rfl,trivial⟩,⟨_,rfl,l45,h47,(ir 0),(ir (-1))⟩,(InR.inc r44 (InR.len ls_0) c51)⟩
 refine sg<|lw E (qa3 rfl rfl) fun a E=>aw E rfl fun a E=>cg E rfl hF (fun c56 hF=>?_) fun c56 hF=>?_
 ·refine wp_skip<|qaj<|qaa<|sg<|lv E ok (qal (cs:=[vs o6.2.Text,c46,vb o6.2.Not,vi 1,vi 1]) qaW rfl rfl (qac.own 0 rfl rfl)) fun a E=>mv E rfl fun a E=>qaf E ok 1 rfl rfl rfl qbg rfl rfl ⟨rfl,(qaS h47),rfl,rfl,rfl,trivial⟩ rfl rfl fun w ok=>aw E rfl fun a E=>wp_ret ?_
  exact fin hF ⟨m43,[vs o6.2.Text,c46,vb o6.2.Not,vi 1,vi 1],le_m0,ok.drop.drop,E.d,⟨rv_c (cs:=[vs o6.2.Text,c46,vb o6.2.Not,vi 1,vi 1]) E ok rfl qaW rfl (qac.own 1 rfl rfl),rv_t E rfl,trivial⟩,⟨_,rfl,l45,h47,(ir 1),(ir 1)⟩,r44⟩
 refine qad<|mv E rfl fun a E=>lw E (qav rfl rfl (InR.inc r44 (InR.len ls_0) c51)) fun a E=>fv E qdP rfl fun a E=>qaf E ok 0 rfl rfl rfl qeg rfl rfl ⟨rfl,trivial⟩ rfl rfl fun w ok=>av E rfl fun a E=>wpList_nil<|qaj<|qaa<|sg<|lv E ok (qal (cs:=[vs o6.2.Text,c46,vb o6.2.Not,vi 1,(vi (-1))]) qaW rfl rfl (qac.own 0 rfl rfl)) fun a E=>mv E rfl fun a E=>qaf E ok 1 rfl rfl rfl qbg rfl rfl ⟨rfl,(qaS h47),rfl,rfl,rfl,trivial⟩ rfl rfl fun w ok=>av E rfl fun a E=>wn<|wp_ret ?_
 exact fin hF ⟨m43,[vs o6.2.Text,c46,vb o6.2.Not,vi 1,(vi (-1))],le_m0,ok.drop.drop,E.d,⟨rv_c (cs:=[vs o6.2.Text,c46,vb o6.2.Not,vi 1,(vi (-1))]) E ok rfl qaW rfl (qac.own 1 rfl rfl),rv_t E rfl,trivial⟩,⟨_,rfl,l45,h47,(ir 1),(ir (-1))⟩,(InR.inc r44 (InR.len ls_0) c51)⟩
def qgr (u:World) (m0:Mem) (S:Segs) (r:Rule × Bool) (a:Act) (w:World):Prop :=
 ∃ m1 v0,m0.le m1 ∧ Ok u m1 S w ∧ a.defers = [] ∧ RVs Tryz.prog a w [.c 2 114 (.agg v0.toArray),.t 3 (.bool r.2)] ∧ qdh m1 v0 r.1
theorem qiU (N:Nat) (s_0:List UInt8) (ls_0:s_0.length ≤ LIMS) {r:Rule × Bool} (hF:qfn N s_0 = some r) (hG:Glob u) (ok:Ok u m0 S w) :
  Calls Tryz.prog 41 [vs s_0].toArray w fun e w'=>∃ m1 v0,e = .returned (.tuple [(.agg v0.toArray),(.bool r.2)].toArray) ∧ m0.le m1 ∧ Ok u m1 S w' ∧ qdh m1 v0 r.1:=by
 have le_m0:=Mem.le.refl m0
 unfold qfn at hF
 refine en (qgr u m0 S) r Tryz.func41 rfl rfl rfl (by rintro a w ⟨m1,v0,hle,ok,hd,hrv,h0⟩; exact qbT [.c 2 114 (.agg v0.toArray),.t 3 (.bool r.2)] hd rfl hrv ⟨m1,v0,rfl,hle,ok,h0⟩) fun fin a E=>sg<|qaB E ok qdc rfl rfl fun b1 a w E ok=>aw E rfl fun a E=>sg<|aw E rfl fun a E=>wp_seq<|wp_block<|bd hF fun o3 hL hF=>qaC _ (fun (s:Int) a w=>Ok u m0 ([(b1,oc 114 [(vs ([])),(Value.slice none 0 0),(vs ([]))])] :: S) w ∧ Env 88 a [(0,vs s_0),(2,vp b1),(4,vi s)] ∧ InR .i64 s) (fun (b:Int) e a w=>e = (.exit 0) ∧ Ok u m0 ([(b1,oc 114 [(vs ([])),(Value.slice none 0 0),(vs ([]))])] :: S) w ∧ Env 88 a [(0,vs s_0),(2,vp b1),(4,vi b)] ∧ InR .i64 b) ?_ ?_ N _ a w hL ⟨ok,E.keep [0,2,4],(ir 0)⟩
 ·rintro v5 a w r ⟨ok,E,r6⟩ hF
  replace hF:qek N s_0 v5 = some r:=hF
  unfold qek at hF
  refine wp_seq<|sg<|mz E rfl rfl fun a E=>lw E (qaJ Tryz.underlying9 rfl) fun a E=>lw E (qat rfl rfl) fun a E=>mv E rfl fun a E=>bw E 12 hF (fun c7 hF E=>?_) fun c7 hF E=>?_
  ·refine lsz E fun a E=>pf E rfl rfl fun a E=>wn<|c_if E rfl (fun h=>by cases h) (fun _=>?_)
   refine wp_exit<|qau ?_
   cases hF
   exact so (⟨rfl,⟨ok,E.keep [0,2,4],r6⟩⟩)
  refine mz E rfl rfl fun a E=>bd hF fun c8 e9 hF=>lv E ok (qaR Tryz.underlying9 rfl rfl e9) fun a E=>lw E (qbS rfl rfl) fun a E=>pt E rfl rfl fun a E=>wn<|cg E rfl hF (fun c10 hF=>?_) fun c10 hF=>?_
  ·refine wp_exit<|qau ?_
   cases hF
   exact so (⟨rfl,⟨ok,E.keep [0,2,4],r6⟩⟩)
  refine wp_skip<|qaa<|wp_block<|qad<|mv E rfl fun a E=>lw E (qav rfl rfl (InR.inc r6 (InR.len ls_0) c7)) fun a E=>av E rfl fun a E=>wpList_nil<|qaj ?_
  cases hF
  exact qaq ⟨ok,E.keep [0,2,4],(InR.inc r6 (InR.len ls_0) c7)⟩
 intro e a w _ hO
 obtain ⟨rfl,ok,E,r11⟩:=hO
 refine qaE<|qaa<|sg<|mz E rfl rfl fun a E=>bd hF fun s12 e13 hF=>lw E (qaN Tryz.underlying9 e13 rfl rfl ⟨_,rfl⟩) fun a E=>lw E (qaT (ps:=[(0,.tmp 22)]) (qs:=[(0,[vs s12])]) (cs:=[vs s12,(Value.slice none 0 0),(vs ([]))]) qdc qlH rfl ⟨rfl,rfl,rfl,trivial⟩ rfl) fun a E=>qaB E ok qdc rfl rfl fun b14 a w E ok=>qaf E ok 0 rfl rfl rfl qgh rfl rfl ⟨rfl,rfl,rfl,trivial⟩ rfl rfl fun w ok=>wn<|wp_seq<|wp_block ?_
 obtain ⟨M25,ok,h26⟩:=qdq (e:=138) (k:=5) (R:=qbu) ok
 refine bd hF fun o27 hL hF=>qaC _ (fun (s:Int × Rule) a w=>∃ m28 c31 M32,m0.le m28 ∧ Ok u m28 (M32 :: [(b14,oc 114 [vs s.2.Kind,c31,vs s.2.Next])] :: [(b1,oc 114 [(vs ([])),(Value.slice none 0 0),(vs ([]))])] :: S) w ∧ Env 88 a [(0,vs s_0),(2,vp b1),(4,vi s.1),(5,vp b14)] ∧ InR .i64 s.1 ∧ s.2.Kind.length ≤ LIMS ∧ ORow 138 5 qbu m28 c31 s.2.Items M32 ∧ s.2.Next.length ≤ LIMS) (fun (b:((Rule × Int) ⊕ (Rule × Bool))) e a w=>(Sum.elim (fun b142=>e = (.exit 2) ∧ ∃ m143 c145 M146,m0.le m143 ∧ Ok u m143 (M146 :: [(b14,oc 114 [vs b142.1.Kind,c145,vs b142.1.Next])] :: [(b1,oc 114 [(vs ([])),(Value.slice none 0 0),(vs ([]))])] :: S) w ∧ Env 88 a [(0,vs s_0),(2,vp b1),(4,vi b142.2),(5,vp b14)] ∧ b142.1.Kind.length ≤ LIMS ∧ ORow 138 5 qbu m143 c145 b142.1.Items M146 ∧ b142.1.Next.length ≤ LIMS ∧ InR .i64 b142.2) (fun b150=>e = .ret ∧ qgr u m0 S b150 a w)) b) ?_ ?_ N _ a w hL ⟨m0,(Value.slice none 0 0),M25,Mem.le.refl _,ok,E.keep [0,2,4,5],r11,(Nat.le_trans (qbR e13) ls_0),h26,(Nat.zero_le _)⟩
 rotate_left
 ·as_aux_lemma =>
   intro e a w _ hO
   rcases o27 with o27 | o27
   rotate_left
   ·obtain ⟨rfl,hret⟩:=hO
    refine qah<|qae ?_
    exact fin hF hret
   have hF:=qa1 hF
   obtain ⟨rfl,m116,c118,M119,hle,ok,E,l117,h120,l121,r122⟩:=hO
   have le_m0:=le_m0.trans hle
   refine qaE<|qaa<|wp_seq ?_
   obtain ⟨m123,hle,ok,hfz⟩:=(ok.frs 0 rfl).freeze
   have h124:=ORow.froz qdd h120 hle hfz (by decide)
   have le_m0:=le_m0.trans hle
   refine bd hF fun o125 hJ hF=>qba (Q':=fun e a w=>e = .normal ∧ ∃ c127,Ok u m123 ([(b14,oc 114 [vs o27.1.Kind,c118,vs o27.1.Next])] :: [(b1,oc 114 [vs o125.2.Kind,c127,vs o125.2.Next])] :: S) w ∧ Env 88 a [(2,vp b1),(3,vb o125.1)] ∧ o125.2.Kind.length ≤ LIMS ∧ (pL 5 qbu) m123 [c127] o125.2.Items ∧ o125.2.Next.length ≤ LIMS) ?_ ?_
   rotate_left
   ·intro e a w hO
    obtain ⟨rfl,c139,ok,E,l138,h140,l141⟩:=hO
    refine qaa<|wp_ret ?_
    exact fin hF ⟨m123,[vs o125.2.Kind,c139,vs o125.2.Next],le_m0,ok.drop.drop,E.d,⟨rv_c (cs:=[vs o125.2.Kind,c139,vs o125.2.Next]) E ok rfl qdl rfl (qac.own 1 rfl rfl),rv_t E rfl,trivial⟩,⟨_,rfl,l138,h140,l141⟩⟩
   have hF:=hJ
   refine qcr (decide (o27.2 ≥ 0)) (fun c130=>?_) (fun c130=>?_)
   rotate_left
   ·have hF:=qbB c130 hF
    cases hF
    refine qbY [0] (Cls u m123 ([(b14,oc 114 [vs o27.1.Kind,c118,vs o27.1.Next])] :: [(b1,oc 114 [(vs ([])),(Value.slice none 0 0),(vs ([]))])] :: [])) (Cls u m123 ([(b14,oc 114 [vs o27.1.Kind,c118,vs o27.1.Next])] :: [])) (by kernel_rfl) ?_
    intro w hw
    replace ok:=qb9 ok hw
    clear hw
    have le_m123:=Mem.le.refl m123
    refine qar (cl1 (cq le_m123 ok [0,1] rfl) (cq le_m123 ok [0] rfl)) fun hT=>qa6 0 E rfl (by kernel_rfl) nP hT (qal (cs:=[vs o27.1.Kind,c118,vs o27.1.Next]) qdl rfl rfl (qac.cown 0 rfl rfl)) rfl rfl fun a E=>kt 1 E rfl hT (qab rfl) fun a E=>kt 2 E rfl hT (qaZ rfl rfl) fun a E=>kt 3 E rfl hT (qab rfl) fun a E=>?_
    have E:=E.upd 78 c130 rfl
    refine qgu 4 false E rfl (by kernel_rfl) nP hT rfl rfl fun a E=>qgu 5 false E rfl (by kernel_rfl) nP hT rfl rfl fun a E=>kt 6 E rfl hT (qaU rfl rfl) fun a E=>kt 7 E rfl hT (qab rfl) fun a E=>qgu 8 false E rfl (by kernel_rfl) nP hT rfl rfl fun a E=>qgu 9 false E rfl (by kernel_rfl) nP hT rfl rfl fun a E=>qgu 10 false E rfl (by kernel_rfl) nP hT rfl rfl fun a E=>qgu 11 false E rfl (by kernel_rfl) nP hT rfl rfl fun a E=>kt 12 E rfl hT (qaU rfl rfl) fun a E=>qaL [13] (by kernel_rfl) rfl (qaM ?_)
    ·refine wo rfl<|qaf E ok 1 rfl rfl rfl qgh rfl rfl ⟨rfl,(qaS h124),rfl,trivial⟩ rfl rfl fun w ok=>wn<|qar (cl2 (by kernel_rfl) (cq le_m123 ok [0] rfl)) fun hT=>kt 14 E rfl hT (qap rfl) fun a E=>qbU (by kernel_rfl) ?_
     exact ⟨rfl,⟨c118,ok,E.keep [2,3],l117,h124,l121⟩⟩
   have hF:=qbA c130 hF
   refine bd hF fun r131 e132 hF=>qcr r131 (fun c133=>?_) (fun c133=>?_)
   rotate_left
   ·have hF:=qbB c133 hF
    cases hF
    refine qbY [0] (Cls u m123 ([(b14,oc 114 [vs o27.1.Kind,c118,vs o27.1.Next])] :: [(b1,oc 114 [(vs ([])),(Value.slice none 0 0),(vs ([]))])] :: [])) (Cls u m123 ([(b14,oc 114 [vs o27.1.Kind,c118,vs o27.1.Next])] :: [])) (by kernel_rfl) ?_
    intro w hw
    replace ok:=qb9 ok hw
    clear hw
    have le_m123:=Mem.le.refl m123
    refine qar (cl1 (cq le_m123 ok [0,1] rfl) (cq le_m123 ok [0] rfl)) fun hT=>qa6 0 E rfl (by kernel_rfl) nP hT (qal (cs:=[vs o27.1.Kind,c118,vs o27.1.Next]) qdl rfl rfl (qac.cown 0 rfl rfl)) rfl rfl fun a E=>kt 1 E rfl hT (qab rfl) fun a E=>kt 2 E rfl hT (qaZ rfl rfl) fun a E=>kt 3 E rfl hT (qab rfl) fun a E=>?_
    have E:=E.upd 78 c130 rfl
    refine kt 4 E rfl hT (qal (cs:=[vs o27.1.Kind,c118,vs o27.1.Next]) qdl rfl rfl (qac.cown 0 rfl rfl)) fun a E=>qaL [5] (by kernel_rfl) rfl (qaM ?_)
    ·refine wo rfl<|lc E qpb rfl (qfj N _ o27.1 ⟨_,rfl,l117,h124,l121⟩ e132 hG ok) fun w ok a E=>wn<|qar (cl1 (cq le_m123 ok [0,1] rfl) (cq le_m123 ok [0] rfl)) fun hT=>kt 6 E rfl hT (qbf rfl rfl) fun a E=>kt 7 E rfl hT (qab rfl) fun a E=>?_
     have E:=E.upd 82 c133 rfl
     refine qgu 8 false E rfl (by kernel_rfl) nP hT rfl rfl fun a E=>qgu 9 false E rfl (by kernel_rfl) nP hT rfl rfl fun a E=>qgu 10 false E rfl (by kernel_rfl) nP hT rfl rfl fun a E=>qgu 11 false E rfl (by kernel_rfl) nP hT rfl rfl fun a E=>kt 12 E rfl hT (qaU rfl rfl) fun a E=>qaL [13] (by kernel_rfl) rfl (qaM ?_)
     ·refine wo rfl<|qaf E ok 1 rfl rfl rfl qgh rfl rfl ⟨rfl,(qaS h124),rfl,trivial⟩ rfl rfl fun w ok=>wn<|qar (cl2 (by kernel_rfl) (cq le_m123 ok [0] rfl)) fun hT=>kt 14 E rfl hT (qap rfl) fun a E=>qbU (by kernel_rfl) ?_
      exact ⟨rfl,⟨c118,ok,E.keep [2,3],l117,h124,l121⟩⟩
   have hF:=qbA c133 hF
   obtain ⟨r134,e135,hF⟩:=bnd hF
   obtain rfl:=sj hF
   refine qbY [0] (Cls u m123 ([(b14,oc 114 [vs o27.1.Kind,c118,vs o27.1.Next])] :: [(b1,oc 114 [(vs ([])),(Value.slice none 0 0),(vs ([]))])] :: [])) (Cls u m123 ([(b14,oc 114 [vs o27.1.Kind,c118,vs o27.1.Next])] :: [])) (by kernel_rfl) ?_
   intro w hw
   replace ok:=qb9 ok hw
   clear hw
   have le_m123:=Mem.le.refl m123
   refine qar (cl1 (cq le_m123 ok [0,1] rfl) (cq le_m123 ok [0] rfl)) fun hT=>qa6 0 E rfl (by kernel_rfl) nP hT (qal (cs:=[vs o27.1.Kind,c118,vs o27.1.Next]) qdl rfl rfl (qac.cown 0 rfl rfl)) rfl rfl fun a E=>kt 1 E rfl hT (qab rfl) fun a E=>kt 2 E rfl hT (qaZ rfl rfl) fun a E=>kt 3 E rfl hT (qab rfl) fun a E=>?_
   have E:=E.upd 78 c130 rfl
   refine kt 4 E rfl hT (qal (cs:=[vs o27.1.Kind,c118,vs o27.1.Next]) qdl rfl rfl (qac.cown 0 rfl rfl)) fun a E=>qaL [5] (by kernel_rfl) rfl (qaM ?_)
   ·refine wo rfl<|lc E qpb rfl (qfj N _ o27.1 ⟨_,rfl,l117,h124,l121⟩ e132 hG ok) fun w ok a E=>wn<|qar (cl1 (cq le_m123 ok [0,1] rfl) (cq le_m123 ok [0] rfl)) fun hT=>kt 6 E rfl hT (qbf rfl rfl) fun a E=>kt 7 E rfl hT (qab rfl) fun a E=>?_
    have E:=E.upd 82 c133 rfl
    refine kt 8 E rfl hT (qal (cs:=[vs o27.1.Kind,c118,vs o27.1.Next]) qdl rfl rfl (qac.cown 0 rfl rfl)) fun a E=>kt 10 E rfl hT (qab rfl) fun a E=>qaL [9] (by kernel_rfl) rfl (qaM ?_)
    ·refine wo rfl<|qas E qrJ rfl (qhL N _ o27.1 ⟨_,rfl,l117,h124,l121⟩ e135 hG ok) rfl rfl ?_
     rintro _ w ⟨⟨rfl,ok⟩,l137⟩
     refine ⟨_,rfl,fun a E=>?_⟩
     refine wn<|qar (cl1 (cq le_m123 ok [0,1] rfl) (cq le_m123 ok [0] rfl)) fun hT=>kt 11 E rfl hT (qbb rfl rfl) fun a E=>kt 12 E rfl hT (qbf rfl rfl) fun a E=>qaL [13] (by kernel_rfl) rfl (qaM ?_)
     ·refine wo rfl<|qaf E ok 1 rfl rfl rfl qgh rfl rfl ⟨rfl,(qaS h124),rfl,trivial⟩ rfl rfl fun w ok=>wn<|qar (cl2 (by kernel_rfl) (cq le_m123 ok [0] rfl)) fun hT=>kt 14 E rfl hT (qap rfl) fun a E=>qbU (by kernel_rfl) ?_
      exact ⟨rfl,⟨c118,ok,E.keep [2,3],l117,h124,l121⟩⟩
 rintro ⟨v35,v36⟩ a w r ⟨m37,c40,M41,hle,ok,E,r38,l39,h42,l43⟩ hF
 replace hF:qel N s_0 v35 v36 = some r:=hF
 unfold qel at hF
 have le_m0:=le_m0.trans hle
 refine wp_seq<|sg<|mv E rfl fun a E=>lw E (qaZ rfl rfl) fun a E=>mv E rfl fun a E=>bw E 26 hF (fun c44 hF E=>?_) fun c44 hF E=>?_
 ·refine lsz E fun a E=>pf E rfl rfl fun a E=>wn<|c_if E rfl (fun h=>by cases h) (fun _=>?_)
  refine wp_exit<|qau ?_
  cases hF
  exact so (sl ⟨rfl,⟨m37,c40,M41,le_m0,ok,E.keep [0,2,4,5],l39,h42,l43,r38⟩⟩)
 refine mz E rfl rfl fun a E=>lw E (qaJ Tryz.underlying9 rfl) fun a E=>lw E (qat rfl rfl) fun a E=>pt E rfl rfl fun a E=>wn<|cg E rfl hF (fun c45 hF=>?_) fun c45 hF=>?_
 ·refine wp_exit<|qau ?_
  cases hF
  exact so (sl ⟨rfl,⟨m37,c40,M41,le_m0,ok,E.keep [0,2,4,5],l39,h42,l43,r38⟩⟩)
 refine wp_skip<|qaa<|wp_block<|wp_seq<|sg<|fk E ok qcl qdG rfl 1 rfl rfl fun a E=>lv E ok (qnV qcq h42 rfl) fun a E=>lw E (qca rfl rfl) fun a E=>mv E rfl fun a E=>bw E 36 hF (fun c46 hF E=>?_) fun c46 hF E=>?_
 ·refine lsz E fun a E=>ls E fun a E=>pf E rfl rfl fun a E=>mv E rfl fun a E=>lsz E fun a E=>lsq E fun a E=>pf E rfl rfl fun a E=>wn<|c_if E rfl (fun h=>by cases h) (fun _=>?_)
  refine wp_skip<|qaa<|sg<|mz E rfl rfl fun a E=>lw E (qav rfl rfl (InR.inc r38 (InR.len ls_0) c45)) fun a E=>bd hF fun r96 e97 hF=>qas E qpy rfl (qeL N s_0 ls_0 (v35 + 1) (InR.inc r38 (InR.len ls_0) c45) e97 hG ok) rfl rfl ?_
  rintro _ w ⟨m98,vs99,rfl,hle,ok,h100,r101⟩
  have le_m0:=le_m0.trans hle
  have h42:=ORow.up qdd hle h42
  obtain ⟨c103,rfl,l102,h104,r105,r106⟩:=h100
  refine ⟨_,rfl,fun a E=>?_⟩
  refine mv E rfl fun a E=>lw E (qan rfl rfl) fun a E=>lw E (qan rfl rfl) fun a E=>qaB E ok qbk rfl rfl fun b107 a w E ok=>qaf E ok 0 rfl rfl rfl qbg rfl rfl ⟨rfl,(qaS h104),rfl,rfl,rfl,trivial⟩ rfl rfl fun w ok=>aw E rfl fun a E=>qad<|fk E ok qcl qdG rfl 2 rfl rfl fun a E=>lv E ok (qal (cs:=[vs r96.1.Text,c103,vb r96.1.Not,vi r96.1.Least,vi r96.1.Most]) qaW rfl rfl (qac.own 0 rfl rfl)) fun a E=>qa2 (R:=qbu) (xo:=[.tmp 70]) (xs:=([r96.1]:List (Item))) E ok qcq qbk rfl ⟨⟨_,rfl,rfl,⟨_,rfl,l102,h104,r105,r106⟩⟩,trivial⟩ rfl rfl rfl rfl fun c108 M109 a w E ok h110=>bd hF fun l111 e112 hF=>qcj (R:=qbu) E ok 2 qdd qcq Tryz.underlying112 rfl h42 (qa5.ofRow h110 0 rfl ok) e112 ⟨_,qbk,rfl⟩ rfl rfl rfl rfl fun c113 M114 a w E ok h115=>mv E rfl fun a E=>fv E qcl rfl fun a E=>qaf E ok 3 rfl rfl rfl qmb (ORow.cells h115) rfl ⟨(ORow.one h115),trivial⟩ rfl rfl fun w ok=>av E rfl fun a E=>wpList_nil<|qaj ?_
  cases hF
  exact qaq ⟨m98,c113,M114,le_m0,(ok.pk 5 [2,3,4] rfl (by decide)),E.keep [0,2,4,5],r101,l39,h115,l43⟩
 refine mv E rfl fun a E=>lw E (qaw rfl rfl) fun a E=>mv E rfl fun a E=>lw E (qaJ Tryz.underlying9 rfl) fun a E=>lw E (qch rfl rfl) fun a E=>pt E rfl rfl fun a E=>mv E rfl fun a E=>bw E 43 hF (fun c47 hF E=>?_) fun c47 hF E=>?_
 ·refine lsz E fun a E=>lsq E fun a E=>pf E rfl rfl fun a E=>wn<|c_if E rfl (fun h=>by cases h) (fun _=>?_)
  refine wp_skip<|qaa<|sg<|mz E rfl rfl fun a E=>lw E (qav rfl rfl (InR.inc r38 (InR.len ls_0) c45)) fun a E=>bd hF fun r76 e77 hF=>qas E qpy rfl (qeL N s_0 ls_0 (v35 + 1) (InR.inc r38 (InR.len ls_0) c45) e77 hG ok) rfl rfl ?_
  rintro _ w ⟨m78,vs79,rfl,hle,ok,h80,r81⟩
  have le_m0:=le_m0.trans hle
  have h42:=ORow.up qdd hle h42
  obtain ⟨c83,rfl,l82,h84,r85,r86⟩:=h80
  refine ⟨_,rfl,fun a E=>?_⟩
  refine mv E rfl fun a E=>lw E (qan rfl rfl) fun a E=>lw E (qan rfl rfl) fun a E=>qaB E ok qbk rfl rfl fun b87 a w E ok=>qaf E ok 0 rfl rfl rfl qbg rfl rfl ⟨rfl,(qaS h84),rfl,rfl,rfl,trivial⟩ rfl rfl fun w ok=>aw E rfl fun a E=>qad<|fk E ok qcl qdG rfl 2 rfl rfl fun a E=>lv E ok (qal (cs:=[vs r76.1.Text,c83,vb r76.1.Not,vi r76.1.Least,vi r76.1.Most]) qaW rfl rfl (qac.own 0 rfl rfl)) fun a E=>qa2 (R:=qbu) (xo:=[.tmp 70]) (xs:=([r76.1]:List (Item))) E ok qcq qbk rfl ⟨⟨_,rfl,rfl,⟨_,rfl,l82,h84,r85,r86⟩⟩,trivial⟩ rfl rfl rfl rfl fun c88 M89 a w E ok h90=>bd hF fun l91 e92 hF=>qcj (R:=qbu) E ok 2 qdd qcq Tryz.underlying112 rfl h42 (qa5.ofRow h90 0 rfl ok) e92 ⟨_,qbk,rfl⟩ rfl rfl rfl rfl fun c93 M94 a w E ok h95=>mv E rfl fun a E=>fv E qcl rfl fun a E=>qaf E ok 3 rfl rfl rfl qmb (ORow.cells h95) rfl ⟨(ORow.one h95),trivial⟩ rfl rfl fun w ok=>av E rfl fun a E=>wpList_nil<|qaj ?_
  cases hF
  exact qaq ⟨m78,c93,M94,le_m0,(ok.pk 5 [2,3,4] rfl (by decide)),E.keep [0,2,4,5],r81,l39,h95,l43⟩
 refine mz E rfl rfl fun a E=>mv E rfl fun a E=>lw E (qaw rfl rfl) fun a E=>bd hF fun s48 e49 hF=>lw E (qaN Tryz.underlying9 e49 rfl ⟨_,rfl⟩ ⟨_,rfl⟩) fun a E=>lw E (qbb rfl rfl) fun a E=>pt E rfl rfl fun a E=>wn<|cg E rfl hF (fun c50 hF=>?_) fun c50 hF=>?_
 ·refine wp_skip<|qaa<|sg<|mz E rfl rfl fun a E=>lw E (qav rfl rfl (InR.inc r38 (InR.len ls_0) c45)) fun a E=>bd hF fun r56 e57 hF=>qas E qpy rfl (qeL N s_0 ls_0 (v35 + 1) (InR.inc r38 (InR.len ls_0) c45) e57 hG ok) rfl rfl ?_
  rintro _ w ⟨m58,vs59,rfl,hle,ok,h60,r61⟩
  have le_m0:=le_m0.trans hle
  have h42:=ORow.up qdd hle h42
  obtain ⟨c63,rfl,l62,h64,r65,r66⟩:=h60
  refine ⟨_,rfl,fun a E=>?_⟩
  refine mv E rfl fun a E=>lw E (qan rfl rfl) fun a E=>lw E (qan rfl rfl) fun a E=>qaB E ok qbk rfl rfl fun b67 a w E ok=>qaf E ok 0 rfl rfl rfl qbg rfl rfl ⟨rfl,(qaS h64),rfl,rfl,rfl,trivial⟩ rfl rfl fun w ok=>aw E rfl fun a E=>qad<|fk E ok qcl qdG rfl 2 rfl rfl fun a E=>lv E ok (qal (cs:=[vs r56.1.Text,c63,vb r56.1.Not,vi r56.1.Least,vi r56.1.Most]) qaW rfl rfl (qac.own 0 rfl rfl)) fun a E=>qa2 (R:=qbu) (xo:=[.tmp 70]) (xs:=([r56.1]:List (Item))) E ok qcq qbk rfl ⟨⟨_,rfl,rfl,⟨_,rfl,l62,h64,r65,r66⟩⟩,trivial⟩ rfl rfl rfl rfl fun c68 M69 a w E ok h70=>bd hF fun l71 e72 hF=>qcj (R:=qbu) E ok 2 qdd qcq Tryz.underlying112 rfl h42 (qa5.ofRow h70 0 rfl ok) e72 ⟨_,qbk,rfl⟩ rfl rfl rfl rfl fun c73 M74 a w E ok h75=>mv E rfl fun a E=>fv E qcl rfl fun a E=>qaf E ok 3 rfl rfl rfl qmb (ORow.cells h75) rfl ⟨(ORow.one h75),trivial⟩ rfl rfl fun w ok=>av E rfl fun a E=>wpList_nil<|qaj ?_
  cases hF
  exact qaq ⟨m58,c73,M74,le_m0,(ok.pk 5 [2,3,4] rfl (by decide)),E.keep [0,2,4,5],r61,l39,h75,l43⟩
 refine sg<|mz E rfl rfl fun a E=>lw E (qaw rfl rfl) fun a E=>bd hF fun s51 e52 hF=>lw E (qaN Tryz.underlying9 e52 rfl ⟨_,rfl⟩ rfl) fun a E=>fv E qfR rfl fun a E=>qaf E ok 1 rfl rfl rfl qfI rfl rfl ⟨rfl,trivial⟩ rfl rfl fun w ok=>wn<|wp_seq<|sg<|fk E ok qfR qam rfl 1 rfl rfl fun a E=>?_
 refine bd hF fun r53 e54 hF=>lc E qm8 rfl (qeu N s51 (Nat.le_trans (qbR e52) ls_0) e54 hG ok) fun w ok a E=>lw E (qbl rfl) fun a E=>wn<|cg E rfl hF (fun c55 hF=>?_) fun c55 hF=>?_
 ·refine wp_skip<|qaa<|wp_exit<|qau<|qkp rfl ?_
  cases hF
  exact so (sl ⟨rfl,⟨m37,c40,M41,le_m0,ok,E.keep [0,2,4,5],l39,h42,(Nat.le_trans (qbR e52) ls_0),r38⟩⟩)
 refine sg<|lw E (qaT (ps:=[]) (qs:=[]) (cs:=[(vs ([])),(Value.slice none 0 0),(vs ([]))]) qdc qlH rfl trivial rfl) fun a E=>qaf E ok 2 rfl rfl rfl qgh rfl rfl ⟨rfl,rfl,rfl,trivial⟩ rfl rfl fun w ok=>aw E rfl fun a E=>wp_ret<|qae<|qae<|qah ?_
 cases hF
 exact so (sr ⟨rfl,⟨m37,[(vs ([])),(Value.slice none 0 0),(vs ([]))],le_m0,ok.drop.drop.drop,E.d,⟨rv_c (cs:=[(vs ([])),(Value.slice none 0 0),(vs ([]))]) E ok rfl qdl rfl (qac.own 2 rfl rfl),rv_t E rfl,trivial⟩,⟨_,rfl,(Nat.zero_le _),qbh,(Nat.zero_le _)⟩⟩⟩)
end Go.Proofs.YtllfckekodcdaaaGreatDoor
namespace Go.Proofs.YtllfckekodcdaaaGreatDoor
open Go.X
variable {u:World} {m0:Mem} {S:Segs} {w:World}
set_option maxHeartbeats 4000000
set_option maxRecDepth 100000
def qdr (u:World) (m0:Mem) (S:Segs) (r:(List (State)) × Int × Int) (a:Act) (w:World):Prop :=
 ∃ m1 v0,m0.le m1 ∧ Ok u m1 S w ∧ a.defers = [] ∧ RVs Tryz.prog a w [.t 2 v0,.t 3 (.int .i64 r.2.1),.t 4 (.int .i64 r.2.2)] ∧ (pL 2 qbP) m1 [v0] r.1 ∧ InR .i64 r.2.1 ∧ InR .i64 r.2.2
theorem qjV (N:Nat) (s_0:List UInt8) (ls_0:s_0.length ≤ LIMS) {r:(List (State)) × Int × Int} (hF:qgp N s_0 = some r) (hG:Glob u) (ok:Ok u m0 S w) :
  Calls Tryz.prog 27 [vs s_0].toArray w fun e w'=>∃ m1 v0,e = .returned (.tuple [v0,(.int .i64 r.2.1),(.int .i64 r.2.2)].toArray) ∧ m0.le m1 ∧ Ok u m1 S w' ∧ (pL 2 qbP) m1 [v0] r.1 ∧ InR .i64 r.2.1 ∧ InR .i64 r.2.2:=by
 have le_m0:=Mem.le.refl m0
 unfold qgp at hF
 refine en (qdr u m0 S) r Tryz.func27 rfl rfl rfl (by rintro a w ⟨m1,v0,hle,ok,hd,hrv,h0,h1,h2⟩; exact qbT [.t 2 v0,.t 3 (.int .i64 r.2.1),.t 4 (.int .i64 r.2.2)] hd rfl hrv ⟨m1,v0,rfl,hle,ok,h0,h1,h2⟩) fun fin a E=>sg<|av E rfl fun a E=>av E rfl fun a E=>aw E rfl fun a E=>sg<|aw E rfl fun a E=>sg<|av E rfl fun a E=>aw E rfl fun a E=>wp_seq<|sg<|av E rfl fun a E=>wn<|wp_block ?_
 obtain ⟨M10,ok,h11⟩:=qoC (e:=108) (k:=2) (R:=qcv) ok
 refine bd hF fun o12 hL hF=>qaC _ (fun (s:(List (State)) × Int × Int × Int) a w=>∃ m13 c14 M15,m0.le m13 ∧ Ok u m13 (M15 :: S) w ∧ Env 88 a [(0,vs s_0),(5,c14),(6,vi s.2.1),(7,vi s.2.2.1),(8,vi s.2.2.2)] ∧ NRow 108 2 qcv m13 c14 s.1 M15 ∧ InR .i64 s.2.1 ∧ InR .i64 s.2.2.1 ∧ InR .i64 s.2.2.2) (fun (b:(((List (State)) × Int × Int) ⊕ ((List (State)) × Int × Int))) e a w=>(Sum.elim (fun b341=>e = (.exit 0) ∧ ∃ m342 c343 M344,m0.le m342 ∧ Ok u m342 (M344 :: S) w ∧ Env 88 a [(0,vs s_0),(5,c343),(6,vi b341.2.1),(7,vi b341.2.2)] ∧ NRow 108 2 qcv m342 c343 b341.1 M344 ∧ InR .i64 b341.2.1 ∧ InR .i64 b341.2.2) (fun b348=>e = .ret ∧ qdr u m0 S b348 a w)) b) ?_ ?_ N _ a w hL ⟨m0,(Value.slice none 0 0),M10,Mem.le.refl _,ok,E.keep [0,5,6,7,8],h11,(ir 0),(ir 0),(ir 0)⟩
 rotate_left
 ·as_aux_lemma =>
   intro e a w _ hO
   rcases o12 with o12 | o12
   rotate_left
   ·obtain ⟨rfl,hret⟩:=hO
    refine qah<|qae ?_
    exact fin hF hret
   have hF:=qa1 hF
   obtain ⟨rfl,m324,c325,M326,hle,ok,E,h327,r328,r329⟩:=hO
   have le_m0:=le_m0.trans hle
   refine qaE<|qaa<|wp_seq<|sg<|mz E rfl rfl fun a E=>lw E (qaJ Tryz.underlying9 rfl) fun a E=>lw E (qat rfl rfl) fun a E=>wn<|cf E rfl hF (fun c330 hF=>?_) fun c330 hF=>?_
   ·refine sg<|mv E rfl fun a E=>av E rfl fun a E=>av E rfl fun a E=>aw E rfl fun a E=>wp_ret<|qae ?_
    exact fin hF ⟨m324,(.slice none 0 0),le_m0,ok.drop,E.d,⟨rv_t E rfl,rv_t E rfl,rv_t E rfl,trivial⟩,qbh,r329,(ir 3)⟩
   refine wp_skip<|qaa<|wp_seq<|sg<|mv E rfl fun a E=>?_
   obtain ⟨r336,e337,hF⟩:=bnd hF
   obtain ⟨m331,hle333,ok332,hfz334⟩:=(ok.frs 0 rfl).freeze
   have h335:=NRow.froz qjM h327 hle333 hfz334 (by decide)
   refine qas E qus rfl (qjZ N _ o12.1 h335 e337 hG ok332) rfl rfl ?_
   rintro _ w ⟨rfl,okz⟩
   replace ok:=(Ok.thawAt 0 rfl ok hle333 hfz334 okz)
   refine ⟨_,rfl,fun a E=>?_⟩
   refine lw E (qbl rfl) fun a E=>wn<|cf E rfl hF (fun c338 hF=>?_) fun c338 hF=>?_
   ·refine sg<|av E rfl fun a E=>av E rfl fun a E=>aw E rfl fun a E=>wp_ret<|qae ?_
    exact fin hF ⟨m324,(.slice none 0 0),le_m0,ok.drop,E.d,⟨rv_t E rfl,rv_t E rfl,rv_t E rfl,trivial⟩,qbh,(ir 0),(ir 1)⟩
   refine wp_skip<|qaa<|sg<|mv E rfl fun a E=>av E rfl fun a E=>av E rfl fun a E=>av E rfl fun a E=>wn<|wp_ret ?_
   obtain ⟨m339,hle,ok,hfz⟩:=(ok.frs 0 rfl).freeze
   have h340:=NRow.froz qjM h327 hle hfz (by decide)
   have le_m0:=le_m0.trans hle
   exact fin hF ⟨m339,c325,le_m0,ok,E.d,⟨rv_t E rfl,rv_t E rfl,rv_t E rfl,trivial⟩,h340,(ir 0),(ir 0)⟩
 rintro ⟨v20,v21,v22,v23⟩ a w r ⟨m24,c25,M26,hle,ok,E,h27,r28,r29,r30⟩ hF
 replace hF:qff N s_0 v20 v21 v22 v23 = some r:=hF
 unfold qff at hF
 have le_m0:=le_m0.trans hle
 refine wp_seq<|sg<|mz E rfl rfl fun a E=>lw E (qaJ Tryz.underlying9 rfl) fun a E=>lw E (qat rfl rfl) fun a E=>wn<|cg E rfl hF (fun c31 hF=>?_) fun c31 hF=>?_
 ·refine wp_exit<|qau ?_
  cases hF
  exact so (sl ⟨rfl,⟨m24,c25,M26,le_m0,ok,E.keep [0,5,6,7],h27,r28,r29⟩⟩)
 refine wp_skip<|qaa<|wp_seq<|wp_block<|wp_seq<|sg<|mv E rfl fun a E=>mv E rfl fun a E=>bd hF fun c32 e33 hF=>lv E ok (qaR Tryz.underlying9 rfl rfl e33) fun a E=>lw E (qbS rfl rfl) fun a E=>wn<|cf E rfl hF (fun c34 hF=>?_) fun c34 hF=>?_
 ·refine wp_exit<|qau<|qaE<|qaa<|qad<|mv E rfl fun a E=>lw E (qav rfl rfl (InR.inc r30 (InR.len ls_0) c31)) fun a E=>av E rfl fun a E=>wpList_nil ?_
  cases hF
  exact qaq ⟨m24,c25,M26,le_m0,ok,E.keep [0,5,6,7,8],h27,r28,r29,(InR.inc r30 (InR.len ls_0) c31)⟩
 refine wp_skip<|qaa<|sg<|mz E rfl rfl fun a E=>mv E rfl fun a E=>bd hF fun s35 e36 hF=>lw E (qaN Tryz.underlying9 e36 rfl ⟨_,rfl⟩ ⟨_,rfl⟩) fun a E=>aw E rfl fun a E=>sg<|mv E rfl fun a E=>bd hF fun r37 e38 hF=>qas E qtQ rfl (qiU N s35 (Nat.le_trans (qbR e36) ls_0) e38 hG ok) rfl rfl ?_
 rintro _ w ⟨m39,vs40,rfl,hle,ok,h41⟩
 have le_m0:=le_m0.trans hle
 have h27:=NRow.up qm7 hle h27
 obtain ⟨c43,rfl,l42,h44,l45⟩:=h41
 refine ⟨_,rfl,fun a E=>?_⟩
 refine mv E rfl fun a E=>lw E (qan rfl rfl) fun a E=>lw E (qan rfl rfl) fun a E=>qaB E ok qdc rfl rfl fun b46 a w E ok=>qaf E ok 0 rfl rfl rfl qgh rfl rfl ⟨rfl,(qaS h44),rfl,trivial⟩ rfl rfl fun w ok=>aw E rfl fun a E=>wp_seq<|wp_block<|sg<|mv E rfl fun a E=>lw E (qaJ Tryz.underlying9 rfl) fun a E=>lw E (qca rfl rfl) fun a E=>mv E rfl fun a E=>bw E 36 hF (fun c47 hF E=>?_) fun c47 hF E=>?_
 ·as_aux_lemma =>
   refine lsq E fun a E=>ls E fun a E=>pf E rfl rfl fun a E=>mv E rfl fun a E=>lsq E fun a E=>ls E fun a E=>pf E rfl rfl fun a E=>aw E rfl fun a E=>c_if E rfl (fun h=>by cases h) (fun _=>?_)
   refine sg<|mz E rfl rfl fun a E=>qcr r37.2 (fun c241=>?_) (fun c241=>?_)
   rotate_left
   ·have hF:=qbB c241 hF
    have E:=E.upd 54 c241 rfl
    refine lsq E fun a E=>ls E fun a E=>pf E rfl rfl fun a E=>aw E rfl fun a E=>c_if E rfl (fun h=>by cases h) (fun _=>?_)
    refine sg<|mv E rfl fun a E=>av E rfl fun a E=>av E rfl fun a E=>aw E rfl fun a E=>wp_ret<|qah<|qae<|qah<|qae ?_
    cases hF
    exact so (sr ⟨rfl,⟨m39,(.slice none 0 0),le_m0,ok.drop.drop,E.d,⟨rv_t E rfl,rv_t E rfl,rv_t E rfl,trivial⟩,qbh,r29,(ir 3)⟩⟩)
   have hF:=qbA c241 hF
   have E:=E.upd 54 c241 rfl
   refine mv E rfl fun a E=>lv E ok (qku qbv h27 rfl) fun a E=>lw E (qca rfl rfl) fun a E=>pt E rfl rfl fun a E=>aw E rfl fun a E=>cg E rfl hF (fun c242 hF=>?_) fun c242 hF=>?_
   ·refine sg<|mv E rfl fun a E=>av E rfl fun a E=>av E rfl fun a E=>aw E rfl fun a E=>wp_ret<|qah<|qae<|qah<|qae ?_
    cases hF
    exact so (sr ⟨rfl,⟨m39,(.slice none 0 0),le_m0,ok.drop.drop,E.d,⟨rv_t E rfl,rv_t E rfl,rv_t E rfl,trivial⟩,qbh,r29,(ir 3)⟩⟩)
   refine bd hF fun o243 hJ hF=>qba (Q':=fun e a w=>e = .normal ∧ ∃ c244 M245,Ok u m39 ([(b46,oc 114 [vs r37.1.Kind,c43,vs r37.1.Next])] :: M245 :: S) w ∧ Env 88 a [(0,vs s_0),(5,c244),(7,vi v22),(8,vi v23)] ∧ NRow 108 2 qcv m39 c244 o243 M245) ?_ ?_
   rotate_left
   ·intro e a w hO
    obtain ⟨rfl,c321,M322,ok,E,h323⟩:=hO
    refine qaj<|qaa<|qad<|mv E rfl fun a E=>lw E (qav rfl rfl (InR.inc r30 (InR.len ls_0) c31)) fun a E=>mv E rfl fun a E=>lw E (qaw rfl rfl) fun a E=>av E rfl fun a E=>av E rfl fun a E=>wpList_nil<|qaj<|qaa<|qad<|mv E rfl fun a E=>lw E (qav rfl rfl (InR.inc r30 (InR.len ls_0) c31)) fun a E=>av E rfl fun a E=>wpList_nil ?_
    cases hF
    exact qaq ⟨m39,c321,M322,le_m0,(ok.pk 2 [1] rfl (by decide)),E.keep [0,5,6,7,8],h323,(InR.inc r30 (InR.len ls_0) c31),(InR.wrap _ _),(InR.inc r30 (InR.len ls_0) c31)⟩
   have hF:=hJ
   obtain ⟨x247,e248,hF⟩:=bnd hF
   obtain ⟨l270,e271,hF⟩:=bnd hF
   obtain ⟨x275,e276,hF⟩:=bnd hF
   obtain rfl:=sj hF
   replace ok:Ok u m39 (M26 :: [(b46,oc 114 [vs r37.1.Kind,c43,vs r37.1.Next])] :: S) w:=(ok.pk 2 [1,0] rfl (by decide))
   obtain ⟨cs287,c288,M289,M290,M291,ok,hr292,hx293,he294,hh295⟩:=NRow.open h27 e248 ok
   obtain ⟨c297,rfl,l296,h298⟩:=he294
   refine qbY [10,11] (Cls u m39 (M289 :: [(b46,oc 114 [vs r37.1.Kind,c43,vs r37.1.Next])] :: [])) (Cls u m39 ([(b46,oc 114 [vs r37.1.Kind,c43,vs r37.1.Next])] :: [])) (by kernel_rfl) ?_
   intro w hw
   replace ok:=qb9 ok hw
   clear hw
   have le_m39:=Mem.le.refl m39
   refine qar (cl1 (cq le_m39 ok [0,3] rfl) (cq le_m39 ok [3] rfl)) fun hT=>kt 0 E rfl hT (qab rfl) fun a E=>kt 1 E rfl hT (qab rfl) fun a E=>kt 2 E rfl hT (qey qbv hr292 hh295 rfl) fun a E=>kt 3 E rfl hT (qkC rfl rfl (InR.dec (NRow.InR h27) (ir 0) c242)) fun a E=>kt 4 E rfl hT (qab rfl) fun a E=>kt 5 E rfl hT (qab rfl) fun a E=>kt 6 E rfl hT (qey qbv hr292 hh295 rfl) fun a E=>kt 7 E rfl hT (qkC rfl rfl (InR.dec (NRow.InR h27) (ir 0) c242)) fun a E=>?_
   obtain ⟨b299,o300,hp301,yy302⟩:=qfM qbv hr292 hx293 (P:=Tryz.prog) (X:=.tmp 63) (I:=.tmp 66) (kd:=.i64) (qaz E rfl) (qaz E rfl)
   refine kt 8 E rfl hT (yy302 _ _) fun a E=>kt 9 E rfl hT (qag qcB rfl) fun a E=>?_
   obtain ⟨hl303,hh304⟩:=qdg hr292 hx293 hp301 (by decide)
   refine qa6 10 E rfl (by kernel_rfl) nP hT (qai qd2 rfl (qac.sub 1 1 (qac.crow hh304 0 rfl))) rfl rfl fun a E=>qa6 11 E rfl (by kernel_rfl) nP hT (qal (cs:=[vs r37.1.Kind,c43,vs r37.1.Next]) qdl rfl rfl (qac.cown 1 rfl rfl)) rfl rfl fun a E=>qaL [12] (by kernel_rfl) rfl (qaM ?_)
   ·refine wo rfl<|qa2 (R:=qdh) (xo:=[.tmp 70]) (xs:=([r37.1]:List (Rule))) E ok qdR qdc rfl ⟨⟨_,rfl,rfl,⟨_,rfl,l42,h44,l45⟩⟩,trivial⟩ rfl rfl rfl rfl fun c305 M306 a w E ok h307=>wn<|qar (cl1 (cq le_m39 ok [1,4] rfl) (cq le_m39 ok [4] rfl)) fun hT=>qaL [13] (by kernel_rfl) rfl (qaM ?_)
    ·refine wo rfl<|qcj (R:=qdh) E ok 2 qdj qdR Tryz.underlying106 rfl h298 (qa5.ofRow h307 0 rfl ok) e271 ⟨_,qdc,rfl⟩ rfl rfl rfl rfl fun c308 M309 a w E ok h310=>wn<|qar (cl1 (cq le_m39 ok [1,4] rfl) (cq le_m39 ok [4] rfl)) fun hT=>?_
     obtain ⟨b311,o312,hp313,yy314⟩:=qfM qbv hr292 hx293 (P:=Tryz.prog) (X:=.tmp 59) (I:=.tmp 62) (kd:=.i64) (qaz E rfl) (qaz E rfl)
     refine kt 14 E rfl hT (yy314 _ _) fun a E=>kt 15 E rfl hT (qag qcB rfl) fun a E=>qaL [16] (by kernel_rfl) rfl (qaM ?_)
     ·refine wo rfl<|qf5 (f:=1) (c':=[vs x247.Name,c308]) E ok 1 rfl hr292 hx293 hp313 rfl rfl rfl qme (ORow.cells h310) rfl rfl ⟨(ORow.one h310),trivial⟩ rfl ⟨rfl,(ORow.one h310),trivial⟩ rfl fun M315 w ok hr316 hx317=>?_
      have hh318:=qdE.set (c':=[vs x247.Name,c308]) hh295
      refine wn<|qar (cl2 (by kernel_rfl) (cq le_m39 ok [4] rfl)) fun hT=>qbU (by kernel_rfl) ?_
      replace ok:Ok u m39 (M315 :: M309 :: M291 :: M306 :: [(b46,oc 114 [vs r37.1.Kind,c43,vs r37.1.Next])] :: S) w:=(ok.pk 5 [1,2,3,0,4] rfl (by decide))
      obtain ⟨M319,ok,h320⟩:=NRow.close e248 ok hr316 hx317 (show qcv m39 [vs x247.Name,c308] (State.mk x247.Name l270) M309 from ⟨_,rfl,l296,h310⟩) hh318
      exact ⟨rfl,⟨c25,M319,(ok.pk 3 [2,0] rfl (by decide)),E.keep [0,5,7,8],h320⟩⟩
 refine mv E rfl fun a E=>bd hF fun s48 e49 hF=>lw E (qaN Tryz.underlying9 e49 rfl rfl ⟨_,rfl⟩) fun a E=>lw E (qbb rfl rfl) fun a E=>pt E rfl rfl fun a E=>mv E rfl fun a E=>bw E 41 hF (fun c50 hF E=>?_) fun c50 hF E=>?_
 ·as_aux_lemma =>
   refine lsq E fun a E=>ls E fun a E=>pf E rfl rfl fun a E=>aw E rfl fun a E=>c_if E rfl (fun h=>by cases h) (fun _=>?_)
   refine sg<|mz E rfl rfl fun a E=>qcr r37.2 (fun c158=>?_) (fun c158=>?_)
   rotate_left
   ·have hF:=qbB c158 hF
    have E:=E.upd 54 c158 rfl
    refine lsq E fun a E=>ls E fun a E=>pf E rfl rfl fun a E=>aw E rfl fun a E=>c_if E rfl (fun h=>by cases h) (fun _=>?_)
    refine sg<|mv E rfl fun a E=>av E rfl fun a E=>av E rfl fun a E=>aw E rfl fun a E=>wp_ret<|qah<|qae<|qah<|qae ?_
    cases hF
    exact so (sr ⟨rfl,⟨m39,(.slice none 0 0),le_m0,ok.drop.drop,E.d,⟨rv_t E rfl,rv_t E rfl,rv_t E rfl,trivial⟩,qbh,r29,(ir 3)⟩⟩)
   have hF:=qbA c158 hF
   have E:=E.upd 54 c158 rfl
   refine mv E rfl fun a E=>lv E ok (qku qbv h27 rfl) fun a E=>lw E (qca rfl rfl) fun a E=>pt E rfl rfl fun a E=>aw E rfl fun a E=>cg E rfl hF (fun c159 hF=>?_) fun c159 hF=>?_
   ·refine sg<|mv E rfl fun a E=>av E rfl fun a E=>av E rfl fun a E=>aw E rfl fun a E=>wp_ret<|qah<|qae<|qah<|qae ?_
    cases hF
    exact so (sr ⟨rfl,⟨m39,(.slice none 0 0),le_m0,ok.drop.drop,E.d,⟨rv_t E rfl,rv_t E rfl,rv_t E rfl,trivial⟩,qbh,r29,(ir 3)⟩⟩)
   refine bd hF fun o160 hJ hF=>qba (Q':=fun e a w=>e = .normal ∧ ∃ c161 M162,Ok u m39 ([(b46,oc 114 [vs r37.1.Kind,c43,vs r37.1.Next])] :: M162 :: S) w ∧ Env 88 a [(0,vs s_0),(5,c161),(7,vi v22),(8,vi v23)] ∧ NRow 108 2 qcv m39 c161 o160 M162) ?_ ?_
   rotate_left
   ·intro e a w hO
    obtain ⟨rfl,c238,M239,ok,E,h240⟩:=hO
    refine qaj<|qaa<|qad<|mv E rfl fun a E=>lw E (qav rfl rfl (InR.inc r30 (InR.len ls_0) c31)) fun a E=>mv E rfl fun a E=>lw E (qaw rfl rfl) fun a E=>av E rfl fun a E=>av E rfl fun a E=>wpList_nil<|qaj<|qaa<|qad<|mv E rfl fun a E=>lw E (qav rfl rfl (InR.inc r30 (InR.len ls_0) c31)) fun a E=>av E rfl fun a E=>wpList_nil ?_
    cases hF
    exact qaq ⟨m39,c238,M239,le_m0,(ok.pk 2 [1] rfl (by decide)),E.keep [0,5,6,7,8],h240,(InR.inc r30 (InR.len ls_0) c31),(InR.wrap _ _),(InR.inc r30 (InR.len ls_0) c31)⟩
   have hF:=hJ
   obtain ⟨x164,e165,hF⟩:=bnd hF
   obtain ⟨l187,e188,hF⟩:=bnd hF
   obtain ⟨x192,e193,hF⟩:=bnd hF
   obtain rfl:=sj hF
   replace ok:Ok u m39 (M26 :: [(b46,oc 114 [vs r37.1.Kind,c43,vs r37.1.Next])] :: S) w:=(ok.pk 2 [1,0] rfl (by decide))
   obtain ⟨cs204,c205,M206,M207,M208,ok,hr209,hx210,he211,hh212⟩:=NRow.open h27 e165 ok
   obtain ⟨c214,rfl,l213,h215⟩:=he211
   refine qbY [10,11] (Cls u m39 (M206 :: [(b46,oc 114 [vs r37.1.Kind,c43,vs r37.1.Next])] :: [])) (Cls u m39 ([(b46,oc 114 [vs r37.1.Kind,c43,vs r37.1.Next])] :: [])) (by kernel_rfl) ?_
   intro w hw
   replace ok:=qb9 ok hw
   clear hw
   have le_m39:=Mem.le.refl m39
   refine qar (cl1 (cq le_m39 ok [0,3] rfl) (cq le_m39 ok [3] rfl)) fun hT=>kt 0 E rfl hT (qab rfl) fun a E=>kt 1 E rfl hT (qab rfl) fun a E=>kt 2 E rfl hT (qey qbv hr209 hh212 rfl) fun a E=>kt 3 E rfl hT (qkC rfl rfl (InR.dec (NRow.InR h27) (ir 0) c159)) fun a E=>kt 4 E rfl hT (qab rfl) fun a E=>kt 5 E rfl hT (qab rfl) fun a E=>kt 6 E rfl hT (qey qbv hr209 hh212 rfl) fun a E=>kt 7 E rfl hT (qkC rfl rfl (InR.dec (NRow.InR h27) (ir 0) c159)) fun a E=>?_
   obtain ⟨b216,o217,hp218,yy219⟩:=qfM qbv hr209 hx210 (P:=Tryz.prog) (X:=.tmp 63) (I:=.tmp 66) (kd:=.i64) (qaz E rfl) (qaz E rfl)
   refine kt 8 E rfl hT (yy219 _ _) fun a E=>kt 9 E rfl hT (qag qcB rfl) fun a E=>?_
   obtain ⟨hl220,hh221⟩:=qdg hr209 hx210 hp218 (by decide)
   refine qa6 10 E rfl (by kernel_rfl) nP hT (qai qd2 rfl (qac.sub 1 1 (qac.crow hh221 0 rfl))) rfl rfl fun a E=>qa6 11 E rfl (by kernel_rfl) nP hT (qal (cs:=[vs r37.1.Kind,c43,vs r37.1.Next]) qdl rfl rfl (qac.cown 1 rfl rfl)) rfl rfl fun a E=>qaL [12] (by kernel_rfl) rfl (qaM ?_)
   ·refine wo rfl<|qa2 (R:=qdh) (xo:=[.tmp 70]) (xs:=([r37.1]:List (Rule))) E ok qdR qdc rfl ⟨⟨_,rfl,rfl,⟨_,rfl,l42,h44,l45⟩⟩,trivial⟩ rfl rfl rfl rfl fun c222 M223 a w E ok h224=>wn<|qar (cl1 (cq le_m39 ok [1,4] rfl) (cq le_m39 ok [4] rfl)) fun hT=>qaL [13] (by kernel_rfl) rfl (qaM ?_)
    ·refine wo rfl<|qcj (R:=qdh) E ok 2 qdj qdR Tryz.underlying106 rfl h215 (qa5.ofRow h224 0 rfl ok) e188 ⟨_,qdc,rfl⟩ rfl rfl rfl rfl fun c225 M226 a w E ok h227=>wn<|qar (cl1 (cq le_m39 ok [1,4] rfl) (cq le_m39 ok [4] rfl)) fun hT=>?_
     obtain ⟨b228,o229,hp230,yy231⟩:=qfM qbv hr209 hx210 (P:=Tryz.prog) (X:=.tmp 59) (I:=.tmp 62) (kd:=.i64) (qaz E rfl) (qaz E rfl)
     refine kt 14 E rfl hT (yy231 _ _) fun a E=>kt 15 E rfl hT (qag qcB rfl) fun a E=>qaL [16] (by kernel_rfl) rfl (qaM ?_)
     ·refine wo rfl<|qf5 (f:=1) (c':=[vs x164.Name,c225]) E ok 1 rfl hr209 hx210 hp230 rfl rfl rfl qme (ORow.cells h227) rfl rfl ⟨(ORow.one h227),trivial⟩ rfl ⟨rfl,(ORow.one h227),trivial⟩ rfl fun M232 w ok hr233 hx234=>?_
      have hh235:=qdE.set (c':=[vs x164.Name,c225]) hh212
      refine wn<|qar (cl2 (by kernel_rfl) (cq le_m39 ok [4] rfl)) fun hT=>qbU (by kernel_rfl) ?_
      replace ok:Ok u m39 (M232 :: M226 :: M208 :: M223 :: [(b46,oc 114 [vs r37.1.Kind,c43,vs r37.1.Next])] :: S) w:=(ok.pk 5 [1,2,3,0,4] rfl (by decide))
      obtain ⟨M236,ok,h237⟩:=NRow.close e165 ok hr233 hx234 (show qcv m39 [vs x164.Name,c225] (State.mk x164.Name l187) M226 from ⟨_,rfl,l213,h227⟩) hh235
      exact ⟨rfl,⟨c25,M236,(ok.pk 3 [2,0] rfl (by decide)),E.keep [0,5,7,8],h237⟩⟩
 refine mv E rfl fun a E=>bd hF fun s51 e52 hF=>lw E (qaN Tryz.underlying9 e52 rfl ⟨_,rfl⟩ rfl) fun a E=>bd hF fun r53 e54 hF=>lc E qm8 rfl (qeu N s51 (Nat.le_trans (qbR e52) (Nat.le_trans (qbR e36) ls_0)) e54 hG ok) fun w ok a E=>pt E rfl rfl fun a E=>aw E rfl fun a E=>bd hF fun o55 hJ hF=>qba (Q':=fun e a w=>(Sum.elim (fun b56=>e = .normal ∧ ∃ c57 M58,Ok u m39 ([(b46,oc 114 [vs r37.1.Kind,c43,vs r37.1.Next])] :: M58 :: S) w ∧ Env 88 a [(0,vs s_0),(5,c57),(7,vi v22),(8,vi v23)] ∧ NRow 108 2 qcv m39 c57 b56 M58) (fun b60=>e = .ret ∧ qdr u m0 S b60 a w)) o55) ?_ ?_
 rotate_left
 ·intro e a w hO
  rcases o55 with o55 | o55
  rotate_left
  ·have hF:=qgT hF
   obtain ⟨rfl,hret⟩:=hO
   refine qah<|qae<|qah<|qae ?_
   cases hF
   exact so (sr ⟨rfl,hret⟩)
  have hF:=qa1 hF
  obtain ⟨rfl,c155,M156,ok,E,h157⟩:=hO
  refine qaj<|qaa<|qad<|mv E rfl fun a E=>lw E (qav rfl rfl (InR.inc r30 (InR.len ls_0) c31)) fun a E=>mv E rfl fun a E=>lw E (qaw rfl rfl) fun a E=>av E rfl fun a E=>av E rfl fun a E=>wpList_nil<|qaj<|qaa<|qad<|mv E rfl fun a E=>lw E (qav rfl rfl (InR.inc r30 (InR.len ls_0) c31)) fun a E=>av E rfl fun a E=>wpList_nil ?_
  cases hF
  exact qaq ⟨m39,c155,M156,le_m0,(ok.pk 2 [1] rfl (by decide)),E.keep [0,5,6,7,8],h157,(InR.inc r30 (InR.len ls_0) c31),(InR.wrap _ _),(InR.inc r30 (InR.len ls_0) c31)⟩
 have hF:=hJ
 refine cf E rfl hF (fun c61 hF=>?_) fun c61 hF=>?_
 ·refine qad<|mz E rfl rfl fun a E=>bd hF fun s62 e63 hF=>lw E (qaN Tryz.underlying9 e63 rfl ⟨_,rfl⟩ rfl) fun a E=>lw E (qaT (ps:=[(0,.tmp 48)]) (qs:=[(0,[vs s62])]) (cs:=[vs s62,(Value.slice none 0 0)]) qlp qpn rfl ⟨rfl,rfl,rfl,trivial⟩ rfl) fun a E=>qa2 (R:=pRaw) (xo:=[.tmp 49]) (xs:=[[vs s62,(Value.slice none 0 0)]]) E ok qbv qlp rfl ⟨⟨_,rfl,rfl,⟨rfl,⟨rfl,rfl,trivial⟩⟩⟩,trivial⟩ rfl rfl rfl rfl fun c64 M65 a w E ok h66=>?_
  replace ok:Ok u m39 (M26 :: M65 :: [(b46,oc 114 [vs r37.1.Kind,c43,vs r37.1.Next])] :: S) w:=(ok.pk 3 [2,0,1] rfl (by decide))
  refine bd hF fun l67 e68 hF=>qlE (R:=qcv) E ok.addnil.swap2 qbv Tryz.underlying39 h27 (qa5.ofRow h66 1 rfl ok) ⟨_,rfl,(Nat.le_trans (qbR e63) (Nat.le_trans (qbR e36) ls_0)),ORow.nil⟩ e68 ⟨_,qlp,rfl⟩ rfl rfl rfl rfl fun c69 M70 a w E ok h71=>av E rfl fun a E=>wpList_nil ?_
  cases hF
  exact (sl ⟨rfl,⟨c69,M70,(ok.pk 3 [2,0] rfl (by decide)),E.keep [0,5,7,8],h71⟩⟩)
 refine sg<|mz E rfl rfl fun a E=>qcr r37.2 (fun c72=>?_) (fun c72=>?_)
 rotate_left
 ·have hF:=qbB c72 hF
  have E:=E.upd 54 c72 rfl
  refine lsq E fun a E=>ls E fun a E=>pf E rfl rfl fun a E=>aw E rfl fun a E=>c_if E rfl (fun h=>by cases h) (fun _=>?_)
  refine sg<|mv E rfl fun a E=>av E rfl fun a E=>av E rfl fun a E=>aw E rfl fun a E=>wp_ret ?_
  have hret:qdr u m0 S ([],v22,3) a w:=⟨m39,(.slice none 0 0),le_m0,ok.drop.drop,E.d,⟨rv_t E rfl,rv_t E rfl,rv_t E rfl,trivial⟩,qbh,r29,(ir 3)⟩
  cases hF
  exact (sr ⟨rfl,hret⟩)
 have hF:=qbA c72 hF
 have E:=E.upd 54 c72 rfl
 refine mv E rfl fun a E=>lv E ok (qku qbv h27 rfl) fun a E=>lw E (qca rfl rfl) fun a E=>pt E rfl rfl fun a E=>aw E rfl fun a E=>cg E rfl hF (fun c73 hF=>?_) fun c73 hF=>?_
 ·refine sg<|mv E rfl fun a E=>av E rfl fun a E=>av E rfl fun a E=>aw E rfl fun a E=>wp_ret ?_
  have hret:qdr u m0 S ([],v22,3) a w:=⟨m39,(.slice none 0 0),le_m0,ok.drop.drop,E.d,⟨rv_t E rfl,rv_t E rfl,rv_t E rfl,trivial⟩,qbh,r29,(ir 3)⟩
  cases hF
  exact (sr ⟨rfl,hret⟩)
 refine bd hF fun o74 hJ hF=>qba (Q':=fun e a w=>e = .normal ∧ ∃ c75 M76,Ok u m39 ([(b46,oc 114 [vs r37.1.Kind,c43,vs r37.1.Next])] :: M76 :: S) w ∧ Env 88 a [(0,vs s_0),(5,c75),(7,vi v22),(8,vi v23)] ∧ NRow 108 2 qcv m39 c75 o74 M76) ?_ ?_
 rotate_left
 ·intro e a w hO
  obtain ⟨rfl,c152,M153,ok,E,h154⟩:=hO
  cases hF
  exact (sl ⟨rfl,⟨c152,M153,ok,E.keep [0,5,7,8],h154⟩⟩)
 have hF:=hJ
 obtain ⟨x78,e79,hF⟩:=bnd hF
 obtain ⟨l101,e102,hF⟩:=bnd hF
 obtain ⟨x106,e107,hF⟩:=bnd hF
 obtain rfl:=sj hF
 replace ok:Ok u m39 (M26 :: [(b46,oc 114 [vs r37.1.Kind,c43,vs r37.1.Next])] :: S) w:=(ok.pk 2 [1,0] rfl (by decide))
 obtain ⟨cs118,c119,M120,M121,M122,ok,hr123,hx124,he125,hh126⟩:=NRow.open h27 e79 ok
 obtain ⟨c128,rfl,l127,h129⟩:=he125
 refine qbY [10,11] (Cls u m39 (M120 :: [(b46,oc 114 [vs r37.1.Kind,c43,vs r37.1.Next])] :: [])) (Cls u m39 ([(b46,oc 114 [vs r37.1.Kind,c43,vs r37.1.Next])] :: [])) (by kernel_rfl) ?_
 intro w hw
 replace ok:=qb9 ok hw
 clear hw
 have le_m39:=Mem.le.refl m39
 refine qar (cl1 (cq le_m39 ok [0,3] rfl) (cq le_m39 ok [3] rfl)) fun hT=>kt 0 E rfl hT (qab rfl) fun a E=>kt 1 E rfl hT (qab rfl) fun a E=>kt 2 E rfl hT (qey qbv hr123 hh126 rfl) fun a E=>kt 3 E rfl hT (qkC rfl rfl (InR.dec (NRow.InR h27) (ir 0) c73)) fun a E=>kt 4 E rfl hT (qab rfl) fun a E=>kt 5 E rfl hT (qab rfl) fun a E=>kt 6 E rfl hT (qey qbv hr123 hh126 rfl) fun a E=>kt 7 E rfl hT (qkC rfl rfl (InR.dec (NRow.InR h27) (ir 0) c73)) fun a E=>?_
 obtain ⟨b130,o131,hp132,yy133⟩:=qfM qbv hr123 hx124 (P:=Tryz.prog) (X:=.tmp 63) (I:=.tmp 66) (kd:=.i64) (qaz E rfl) (qaz E rfl)
 refine kt 8 E rfl hT (yy133 _ _) fun a E=>kt 9 E rfl hT (qag qcB rfl) fun a E=>?_
 obtain ⟨hl134,hh135⟩:=qdg hr123 hx124 hp132 (by decide)
 refine qa6 10 E rfl (by kernel_rfl) nP hT (qai qd2 rfl (qac.sub 1 1 (qac.crow hh135 0 rfl))) rfl rfl fun a E=>qa6 11 E rfl (by kernel_rfl) nP hT (qal (cs:=[vs r37.1.Kind,c43,vs r37.1.Next]) qdl rfl rfl (qac.cown 1 rfl rfl)) rfl rfl fun a E=>qaL [12] (by kernel_rfl) rfl (qaM ?_)
 ·refine wo rfl<|qa2 (R:=qdh) (xo:=[.tmp 70]) (xs:=([r37.1]:List (Rule))) E ok qdR qdc rfl ⟨⟨_,rfl,rfl,⟨_,rfl,l42,h44,l45⟩⟩,trivial⟩ rfl rfl rfl rfl fun c136 M137 a w E ok h138=>wn<|qar (cl1 (cq le_m39 ok [1,4] rfl) (cq le_m39 ok [4] rfl)) fun hT=>qaL [13] (by kernel_rfl) rfl (qaM ?_)
  ·refine wo rfl<|qcj (R:=qdh) E ok 2 qdj qdR Tryz.underlying106 rfl h129 (qa5.ofRow h138 0 rfl ok) e102 ⟨_,qdc,rfl⟩ rfl rfl rfl rfl fun c139 M140 a w E ok h141=>wn<|qar (cl1 (cq le_m39 ok [1,4] rfl) (cq le_m39 ok [4] rfl)) fun hT=>?_
   obtain ⟨b142,o143,hp144,yy145⟩:=qfM qbv hr123 hx124 (P:=Tryz.prog) (X:=.tmp 59) (I:=.tmp 62) (kd:=.i64) (qaz E rfl) (qaz E rfl)
   refine kt 14 E rfl hT (yy145 _ _) fun a E=>kt 15 E rfl hT (qag qcB rfl) fun a E=>qaL [16] (by kernel_rfl) rfl (qaM ?_)
   ·refine wo rfl<|qf5 (f:=1) (c':=[vs x78.Name,c139]) E ok 1 rfl hr123 hx124 hp144 rfl rfl rfl qme (ORow.cells h141) rfl rfl ⟨(ORow.one h141),trivial⟩ rfl ⟨rfl,(ORow.one h141),trivial⟩ rfl fun M146 w ok hr147 hx148=>?_
    have hh149:=qdE.set (c':=[vs x78.Name,c139]) hh126
    refine wn<|qar (cl2 (by kernel_rfl) (cq le_m39 ok [4] rfl)) fun hT=>qbU (by kernel_rfl) ?_
    replace ok:Ok u m39 (M146 :: M140 :: M122 :: M137 :: [(b46,oc 114 [vs r37.1.Kind,c43,vs r37.1.Next])] :: S) w:=(ok.pk 5 [1,2,3,0,4] rfl (by decide))
    obtain ⟨M150,ok,h151⟩:=NRow.close e79 ok hr147 hx148 (show qcv m39 [vs x78.Name,c139] (State.mk x78.Name l101) M140 from ⟨_,rfl,l127,h141⟩) hh149
    exact ⟨rfl,⟨c25,M150,(ok.pk 3 [2,0] rfl (by decide)),E.keep [0,5,7,8],h151⟩⟩
def qjT (u:World) (m0:Mem) (S:Segs) (r:(List (Item))) (a:Act) (w:World):Prop :=
 ∃ m1 v0,m0.le m1 ∧ Ok u m1 S w ∧ a.defers = [] ∧ RVs Tryz.prog a w [.t 2 v0] ∧ (pL 5 qbu) m1 [v0] r
theorem qj1 (N:Nat) (vl_0:Value) (l_0:List (Item)) (hl_0:(pL 5 qbu) m0 [vl_0] l_0) {r:(List (Item))} (hF:qdV N l_0 = some r) (hG:Glob u) (ok:Ok u m0 S w) :
  Calls Tryz.prog 37 [vl_0].toArray w fun e w'=>∃ m1 v0,e = .returned v0 ∧ m0.le m1 ∧ Ok u m1 S w' ∧ (pL 5 qbu) m1 [v0] r:=by
 have le_m0:=Mem.le.refl m0
 unfold qdV at hF
 refine en (qjT u m0 S) r Tryz.func37 rfl rfl rfl (fun _ _ h=>rc h fun _=>rfl) fun fin a E=>sg<|aw E rfl fun a E=>sg<|aw E rfl fun a E=>wp_seq<|sg<|av E rfl fun a E=>wn<|wp_block ?_
 obtain ⟨M6,ok,h7⟩:=qdq (e:=154) (k:=5) (R:=qbu) ok
 refine bd hF fun o8 hL hF=>qaC _ (fun (s:(List (Item)) × Int) a w=>∃ m9 c10 M11,m0.le m9 ∧ Ok u m9 (M11 :: S) w ∧ Env 62 a [(0,vl_0),(3,c10),(4,vi s.2)] ∧ ORow 154 5 qbu m9 c10 s.1 M11 ∧ InR .i64 s.2) (fun (b:((List (Item)))) e a w=>e = (.exit 0) ∧ ∃ m280 c281 M282,m0.le m280 ∧ Ok u m280 (M282 :: S) w ∧ Env 62 a [(3,c281)] ∧ ORow 154 5 qbu m280 c281 b M282) ?_ ?_ N _ a w hL ⟨m0,(Value.slice none 0 0),M6,Mem.le.refl _,ok,E.keep [0,3,4],h7,(ir 0)⟩
 rotate_left
 ·intro e a w _ hO
  obtain ⟨rfl,m274,c275,M276,hle,ok,E,h277⟩:=hO
  have le_m0:=le_m0.trans hle
  have hl_0:=(mL qdd).up hle hl_0
  refine qaE<|qaa<|sg<|mv E rfl fun a E=>aw E rfl fun a E=>wp_ret ?_
  obtain ⟨m278,hle,ok,hfz⟩:=(ok.frs 0 rfl).freeze
  have h279:=ORow.froz qdd h277 hle hfz (by decide)
  have le_m0:=le_m0.trans hle
  have hl_0:=(mL qdd).up hle hl_0
  exact fin hF ⟨m278,c275,le_m0,ok,E.d,rz E rfl,h279⟩
 rintro ⟨v14,v15⟩ a w r ⟨m16,c17,M18,hle,ok,E,h19,r20⟩ hF
 replace hF:qc9 N l_0 v14 v15 = some r:=hF
 unfold qc9 at hF
 have le_m0:=le_m0.trans hle
 have hl_0:=(mL qdd).up hle hl_0
 refine wp_seq<|sg<|mz E rfl rfl fun a E=>lv E ok (qao qcq hl_0 rfl) fun a E=>lw E (qat rfl rfl) fun a E=>wn<|cg E rfl hF (fun c21 hF=>?_) fun c21 hF=>?_
 ·refine wp_exit<|qau ?_
  cases hF
  exact so (⟨rfl,⟨m16,c17,M18,le_m0,ok,E.keep [3],h19⟩⟩)
 refine wp_skip<|qaa<|wp_seq<|wp_block<|wp_seq<|bd hF fun o22 hJ hF=>qba (Q':=fun e a w=>e = .normal ∧ ∃ b26,Ok u m16 ([(b26,oc 154 [vs o22.Text,(Value.slice none 0 0),vb o22.Not,vi o22.Least,vi o22.Most])] :: M18 :: S) w ∧ Env 62 a [(0,vl_0),(3,c17),(4,vi v15),(5,vp b26)] ∧ o22.Text.length ≤ LIMS ∧ InR .i64 o22.Least ∧ InR .i64 o22.Most) ?_ ?_
 ·have hF:=hJ
  obtain ⟨x27,e28,hF⟩:=bnd hF
  obtain ⟨x41,e42,hF⟩:=bnd hF
  obtain ⟨x55,e56,hF⟩:=bnd hF
  obtain ⟨x69,e70,hF⟩:=bnd hF
  obtain rfl:=sj hF
  refine qbY [] (Cls u m16 (M18 :: [])) (Cls u m16 (M18 :: [])) (by kernel_rfl) ?_
  intro w hw
  replace ok:=qb9 ok hw
  clear hw
  have le_m16:=Mem.le.refl m16
  refine qar (cl1 (cq le_m16 ok [0] rfl) (cq le_m16 ok [0] rfl)) fun hT=>kt 0 E rfl hT (qab rfl) fun a E=>kt 1 E rfl hT (qab rfl) fun a E=>?_
  obtain ⟨b84,o85,es86,hl87,rr88,at89,yy90⟩:=ia E 13 14 qcq hl_0 e28
  obtain ⟨c92,rfl,l91,h93,r94,r95⟩:=rr88
  refine kt 2 E rfl hT (yy90 _ _) fun a E=>kt 3 E rfl hT (qag qe8 rfl) fun a E=>kt 4 E rfl hT (qai qam rfl (qac.cro (At.sub 0 1 at89))) fun a E=>kt 5 E rfl hT (qab rfl) fun a E=>kt 6 E rfl hT (qab rfl) fun a E=>?_
  obtain ⟨b96,o97,es98,hl99,rr100,at101,yy102⟩:=ia E 18 19 qcq hl_0 e42
  obtain ⟨c104,rfl,l103,h105,r106,r107⟩:=rr100
  refine kt 7 E rfl hT (yy102 _ _) fun a E=>kt 8 E rfl hT (qag qig rfl) fun a E=>kt 9 E rfl hT (qai qgW rfl (qac.cro (At.sub 2 1 at101))) fun a E=>kt 10 E rfl hT (qab rfl) fun a E=>kt 11 E rfl hT (qab rfl) fun a E=>?_
  obtain ⟨b108,o109,es110,hl111,rr112,at113,yy114⟩:=ia E 23 24 qcq hl_0 e56
  obtain ⟨c116,rfl,l115,h117,r118,r119⟩:=rr112
  refine kt 12 E rfl hT (yy114 _ _) fun a E=>kt 13 E rfl hT (qag qdO rfl) fun a E=>kt 14 E rfl hT (qai qaQ rfl (qac.cro (At.sub 3 1 at113))) fun a E=>kt 15 E rfl hT (qab rfl) fun a E=>kt 16 E rfl hT (qab rfl) fun a E=>?_
  obtain ⟨b120,o121,es122,hl123,rr124,at125,yy126⟩:=ia E 28 29 qcq hl_0 e70
  obtain ⟨c128,rfl,l127,h129,r130,r131⟩:=rr124
  refine kt 17 E rfl hT (yy126 _ _) fun a E=>kt 18 E rfl hT (qag qdP rfl) fun a E=>kt 19 E rfl hT (qai qaQ rfl (qac.cro (At.sub 4 1 at125))) fun a E=>kt 20 E rfl hT (qaT (ps:=[(0,.tmp 17),(2,.tmp 22),(3,.tmp 27),(4,.tmp 32)]) (qs:=[(0,[vs x27.Text]),(2,[vb x41.Not]),(3,[vi x55.Least]),(4,[vi x69.Most])]) (cs:=[vs x27.Text,(Value.slice none 0 0),vb x41.Not,vi x55.Least,vi x69.Most]) qgG qo6 rfl ⟨rfl,rfl,rfl,⟨rfl,rfl,rfl,⟨rfl,rfl,rfl,⟨rfl,rfl,rfl,trivial⟩⟩⟩⟩ rfl) fun a E=>qaL [21] (by kernel_rfl) rfl (qaM ?_)
  ·refine wo rfl<|qaB E ok qgG rfl rfl fun b132 a w E ok=>wn<|qar (cl1 (cq le_m16 ok [1] rfl) (cq le_m16 ok [1] rfl)) fun hT=>qaL [22] (by kernel_rfl) rfl (qaM ?_)
   ·refine wo rfl<|qaf E ok 0 rfl rfl rfl qkO rfl rfl ⟨rfl,rfl,rfl,rfl,rfl,trivial⟩ rfl rfl fun w ok=>wn<|qar (cl1 (cq le_m16 ok [1] rfl) (cq le_m16 ok [1] rfl)) fun hT=>qbU (by kernel_rfl) ?_
    exact ⟨rfl,⟨b132,ok,E.keep [0,3,4,5],l91,r118,r131⟩⟩
 intro e a w hO
 obtain ⟨rfl,b136,ok,E,l133,r134,r135⟩:=hO
 refine qaa<|wp_seq<|sg<|aw E rfl fun a E=>wp_block ?_
 obtain ⟨M145,ok,h146⟩:=qdq (e:=156) (k:=2) (R:=qbp) ok
 refine bd hF fun o147 hL hF=>qaC _ (fun (s:Int × Item) a w=>∃ c150 M151,Ok u m16 (M151 :: [(b136,oc 154 [vs s.2.Text,c150,vb s.2.Not,vi s.2.Least,vi s.2.Most])] :: M18 :: S) w ∧ Env 62 a [(0,vl_0),(3,c17),(4,vi v15),(5,vp b136),(6,vi s.1)] ∧ InR .i64 s.1 ∧ s.2.Text.length ≤ LIMS ∧ ORow 156 2 qbp m16 c150 s.2.Ranges M151 ∧ InR .i64 s.2.Least ∧ InR .i64 s.2.Most) (fun (b:Item) e a w=>e = (.exit 2) ∧ ∃ c269 M270,Ok u m16 (M270 :: [(b136,oc 154 [vs b.Text,c269,vb b.Not,vi b.Least,vi b.Most])] :: M18 :: S) w ∧ Env 62 a [(0,vl_0),(3,c17),(4,vi v15),(5,vp b136)] ∧ b.Text.length ≤ LIMS ∧ ORow 156 2 qbp m16 c269 b.Ranges M270 ∧ InR .i64 b.Least ∧ InR .i64 b.Most) ?_ ?_ N _ a w hL ⟨(Value.slice none 0 0),M145,ok,E.keep [0,3,4,5,6],(ir 0),l133,h146,r134,r135⟩
 rotate_left
 ·intro e a w _ hO
  obtain ⟨rfl,c253,M254,ok,E,l252,h255,r256,r257⟩:=hO
  refine qaE<|qaa<|qad<|mv E rfl fun a E=>lv E ok (qal (cs:=[vs o147.Text,c253,vb o147.Not,vi o147.Least,vi o147.Most]) qeW rfl rfl (qac.own 1 rfl rfl)) fun a E=>?_
  obtain ⟨m258,hle,ok,hfz⟩:=(ok.frs 0 rfl).freeze
  have h259:=ORow.froz qeH h255 hle hfz (by decide)
  have le_m0:=le_m0.trans hle
  have hl_0:=(mL qdd).up hle hl_0
  have h19:=ORow.up qdd hle h19
  refine qa2 (R:=qbu) (xo:=[.tmp 58]) (xs:=([o147]:List (Item))) E ok qeb qgG rfl ⟨⟨_,rfl,rfl,⟨_,rfl,l252,h259,r256,r257⟩⟩,trivial⟩ rfl rfl rfl rfl fun c260 M261 a w E ok h262=>bd hF fun l263 e264 hF=>qly (R:=qbu) E ok 2 qdd qeb Tryz.underlying115 rfl h19 (qa5.ofRow h262 0 rfl ok) e264 (qiO qsQ) ⟨_,qgG,rfl⟩ rfl rfl rfl rfl fun c265 M266 a w E ok h267=>av E rfl fun a E=>wpList_nil<|qaj<|qaa<|qad<|mv E rfl fun a E=>lw E (qav rfl rfl (InR.inc r20 (qak hl_0) c21)) fun a E=>av E rfl fun a E=>wpList_nil ?_
  cases hF
  exact qaq ⟨m258,c265,M266,le_m0,(ok.pk 3 [2] rfl (by decide)),E.keep [0,3,4],h267,(InR.inc r20 (qak hl_0) c21)⟩
 rintro ⟨v155,v156⟩ a w r ⟨c159,M160,ok,E,r157,l158,h161,r162,r163⟩ hF
 replace hF:qcw N l_0 v15 v155 v156 = some r:=hF
 unfold qcw at hF
 refine wp_seq<|sg<|mz E rfl rfl fun a E=>mv E rfl fun a E=>?_
 obtain ⟨x164,e165,hF⟩:=bnd hF
 obtain ⟨b166,o167,es168,hl169,rr170,at171,yy172⟩:=ia E 35 36 qcq hl_0 e165
 obtain ⟨c174,rfl,l173,h175,r176,r177⟩:=rr170
 refine lv E ok (yy172 _ _) fun a E=>fv E qbd rfl fun a E=>lv E ok (qai qbN rfl (qac.ro (At.sub 1 1 at171))) fun a E=>lv E ok (qao qbC h175 rfl) fun a E=>lw E (qat rfl rfl) fun a E=>wn<|cg E rfl hF (fun c178 hF=>?_) fun c178 hF=>?_
 ·refine wp_exit<|qau ?_
  cases hF
  exact so (⟨rfl,⟨c159,M160,ok,E.keep [0,3,4,5],l158,h161,r162,r163⟩⟩)
 refine wp_skip<|qaa<|wp_seq<|wp_block<|bd hF fun o179 hJ hF=>qba (Q':=fun e a w=>e = .normal ∧ ∃ c181 M182,Ok u m16 (M182 :: [(b136,oc 154 [vs o179.Text,c181,vb o179.Not,vi o179.Least,vi o179.Most])] :: M18 :: S) w ∧ Env 62 a [(0,vl_0),(3,c17),(4,vi v15),(5,vp b136),(6,vi v155)] ∧ o179.Text.length ≤ LIMS ∧ ORow 156 2 qbp m16 c181 o179.Ranges M182 ∧ InR .i64 o179.Least ∧ InR .i64 o179.Most) ?_ ?_
 rotate_left
 ·intro e a w hO
  obtain ⟨rfl,c247,M248,ok,E,l246,h249,r250,r251⟩:=hO
  refine qaj<|qaa<|qad<|mv E rfl fun a E=>lw E (qav rfl rfl (InR.inc r157 (qak h175) c178)) fun a E=>av E rfl fun a E=>wpList_nil ?_
  cases hF
  exact qaq ⟨c247,M248,ok,E.keep [0,3,4,5,6],(InR.inc r157 (qak h175) c178),l246,h249,r250,r251⟩
 have hF:=hJ
 obtain ⟨x186,e187,hF⟩:=bnd hF
 obtain ⟨x200,e201,hF⟩:=bnd hF
 obtain ⟨l214,e215,hF⟩:=bnd hF
 obtain rfl:=sj hF
 refine qbY [1,6,9] (Cls u m16 ([(b136,oc 154 [vs v156.Text,c159,vb v156.Not,vi v156.Least,vi v156.Most])] :: M18 :: [])) (Cls u m16 (M18 :: [])) (by kernel_rfl) ?_
 intro w hw
 replace ok:=qb9 ok hw
 clear hw
 have le_m16:=Mem.le.refl m16
 refine qar (cl1 (cq le_m16 ok [1,2] rfl) (cq le_m16 ok [2] rfl)) fun hT=>kt 0 E rfl hT (qag qf0 rfl) fun a E=>qa6 1 E rfl (by kernel_rfl) nP hT (qai qhm rfl (qac.cown 0 rfl rfl)) rfl rfl fun a E=>kt 2 E rfl hT (qab rfl) fun a E=>kt 3 E rfl hT (qab rfl) fun a E=>?_
 obtain ⟨b219,o220,es221,hl222,rr223,at224,yy225⟩:=ia E 46 47 qcq hl_0 e187
 obtain ⟨c227,rfl,l226,h228,r229,r230⟩:=rr223
 refine kt 4 E rfl hT (yy225 _ _) fun a E=>kt 5 E rfl hT (qag qbd rfl) fun a E=>qa6 6 E rfl (by kernel_rfl) nP hT (qai qbN rfl (qac.cro (At.sub 1 1 at224))) rfl rfl fun a E=>kt 7 E rfl hT (qab rfl) fun a E=>?_
 obtain ⟨b231,o232,es233,hl234,rr235,at236,yy237⟩:=ia E 50 51 qbC h228 e201
 obtain ⟨rfl,r238,r239⟩:=rr235
 refine kt 8 E rfl hT (yy237 _ _) fun a E=>qa6 9 E rfl (by kernel_rfl) nP hT (qal (cs:=[(Value.int .u8 x200.From),(Value.int .u8 x200.To)]) qsy rfl rfl (qac.cro at236)) rfl rfl fun a E=>qaL [10] (by kernel_rfl) rfl (qaM ?_)
 ·refine wo rfl<|qa2 (R:=qbp) (xo:=[.tmp 53]) (xs:=([x200]:List (Range))) E ok qfX qlj rfl ⟨⟨_,rfl,rfl,⟨rfl,r238,r239⟩⟩,trivial⟩ rfl rfl rfl rfl fun c240 M241 a w E ok h242=>wn<|qar (cl1 (cq le_m16 ok [2,3] rfl) (cq le_m16 ok [3] rfl)) fun hT=>qaL [11] (by kernel_rfl) rfl (qaM ?_)
  ·refine wo rfl<|qly (R:=qbp) E ok 1 qeH qfX Tryz.underlying152 rfl h161 (qa5.ofRow h242 0 rfl ok) e215 (qiO qts) ⟨_,qlj,rfl⟩ rfl rfl rfl rfl fun c243 M244 a w E ok h245=>wn<|qar (cl1 (cq le_m16 ok [2,3] rfl) (cq le_m16 ok [3] rfl)) fun hT=>kt 12 E rfl hT (qag qf0 rfl) fun a E=>qaL [13] (by kernel_rfl) rfl (qaM ?_)
   ·refine wo rfl<|qaf E ok 2 rfl rfl rfl qsa (ORow.cells h245) rfl ⟨(ORow.one h245),trivial⟩ rfl rfl fun w ok=>wn<|qar (cl2 (by kernel_rfl) (cq le_m16 ok [3] rfl)) fun hT=>qbU (by kernel_rfl) ?_
    exact ⟨rfl,⟨c243,M244,(ok.pk 4 [1,2,3] rfl (by decide)),E.keep [0,3,4,5,6],l158,h245,r162,r163⟩⟩
def qk0 (u:World) (m0:Mem) (S:Segs) (r:(List (State))) (a:Act) (w:World):Prop :=
 ∃ m1 v0,m0.le m1 ∧ Ok u m1 S w ∧ a.defers = [] ∧ RVs Tryz.prog a w [.t 2 v0] ∧ (pL 2 qbP) m1 [v0] r
theorem qhT (N:Nat) (vs_0:Value) (s_0:List (State)) (hs_0:(pL 2 qbP) m0 [vs_0] s_0) {r:(List (State))} (hF:qdC N s_0 = some r) (hG:Glob u) (ok:Ok u m0 S w) :
  Calls Tryz.prog 23 [vs_0].toArray w fun e w'=>∃ m1 v0,e = .returned v0 ∧ m0.le m1 ∧ Ok u m1 S w' ∧ (pL 2 qbP) m1 [v0] r:=by
 have le_m0:=Mem.le.refl m0
 unfold qdC at hF
 refine en (qk0 u m0 S) r Tryz.func23 rfl rfl rfl (fun _ _ h=>rc h fun _=>rfl) fun fin a E=>sg<|aw E rfl fun a E=>sg<|aw E rfl fun a E=>wp_seq<|sg<|av E rfl fun a E=>wn<|wp_block ?_
 obtain ⟨M6,ok,h7⟩:=qdq (e:=111) (k:=2) (R:=qbP) ok
 refine bd hF fun o8 hL hF=>qaC _ (fun (s:(List (State)) × Int) a w=>∃ m9 c10 M11,m0.le m9 ∧ Ok u m9 (M11 :: S) w ∧ Env 56 a [(0,vs_0),(3,c10),(4,vi s.2)] ∧ ORow 111 2 qbP m9 c10 s.1 M11 ∧ InR .i64 s.2) (fun (b:((List (State)))) e a w=>e = (.exit 0) ∧ ∃ m156 c157 M158,m0.le m156 ∧ Ok u m156 (M158 :: S) w ∧ Env 56 a [(3,c157)] ∧ ORow 111 2 qbP m156 c157 b M158) ?_ ?_ N _ a w hL ⟨m0,(Value.slice none 0 0),M6,Mem.le.refl _,ok,E.keep [0,3,4],h7,(ir 0)⟩
 rotate_left
 ·intro e a w _ hO
  obtain ⟨rfl,m150,c151,M152,hle,ok,E,h153⟩:=hO
  have le_m0:=le_m0.trans hle
  have hs_0:=(mL qaA).up hle hs_0
  refine qaE<|qaa<|sg<|mv E rfl fun a E=>aw E rfl fun a E=>wp_ret ?_
  obtain ⟨m154,hle,ok,hfz⟩:=(ok.frs 0 rfl).freeze
  have h155:=ORow.froz qaA h153 hle hfz (by decide)
  have le_m0:=le_m0.trans hle
  have hs_0:=(mL qaA).up hle hs_0
  exact fin hF ⟨m154,c151,le_m0,ok,E.d,rz E rfl,h155⟩
 rintro ⟨v14,v15⟩ a w r ⟨m16,c17,M18,hle,ok,E,h19,r20⟩ hF
 replace hF:qdy N s_0 v14 v15 = some r:=hF
 unfold qdy at hF
 have le_m0:=le_m0.trans hle
 have hs_0:=(mL qaA).up hle hs_0
 refine wp_seq<|sg<|mz E rfl rfl fun a E=>lv E ok (qao qbv hs_0 rfl) fun a E=>lw E (qat rfl rfl) fun a E=>wn<|cg E rfl hF (fun c21 hF=>?_) fun c21 hF=>?_
 ·refine wp_exit<|qau ?_
  cases hF
  exact so (⟨rfl,⟨m16,c17,M18,le_m0,ok,E.keep [3],h19⟩⟩)
 refine wp_skip<|qaa<|wp_seq<|wp_block<|sg<|mz E rfl rfl fun a E=>?_
 obtain ⟨x22,e23,hF⟩:=bnd hF
 obtain ⟨b24,o25,es26,hl27,rr28,at29,yy30⟩:=ia E 14 15 qbv hs_0 e23
 obtain ⟨c32,rfl,l31,h33⟩:=rr28
 refine lv E ok (yy30 _ _) fun a E=>fv E qhp rfl fun a E=>lv E ok (qai qam rfl (qac.ro (At.sub 0 1 at29))) fun a E=>lw E (qaT (ps:=[(0,.tmp 18)]) (qs:=[(0,[vs x22.Name])]) (cs:=[vs x22.Name,(Value.slice none 0 0)]) qfT qpE rfl ⟨rfl,rfl,rfl,trivial⟩ rfl) fun a E=>qaB E ok qfT rfl rfl fun b34 a w E ok=>qaf E ok 0 rfl rfl rfl qjc rfl rfl ⟨rfl,rfl,trivial⟩ rfl rfl fun w ok=>wn<|wp_seq<|sg<|aw E rfl fun a E=>wp_block ?_
 obtain ⟨M41,ok,h42⟩:=qdq (e:=118) (k:=3) (R:=qdh) ok
 refine bd hF fun o43 hL hF=>qaC _ (fun (s:Int × State) a w=>∃ m44 c47 M48,m16.le m44 ∧ Ok u m44 (M48 :: [(b34,oc 111 [vs s.2.Name,c47])] :: M18 :: S) w ∧ Env 56 a [(0,vs_0),(3,c17),(4,vi v15),(5,vp b34),(6,vi s.1)] ∧ InR .i64 s.1 ∧ s.2.Name.length ≤ LIMS ∧ ORow 118 3 qdh m44 c47 s.2.Rules M48) (fun (b:State) e a w=>e = (.exit 2) ∧ ∃ m145 c147 M148,m16.le m145 ∧ Ok u m145 (M148 :: [(b34,oc 111 [vs b.Name,c147])] :: M18 :: S) w ∧ Env 56 a [(0,vs_0),(3,c17),(4,vi v15),(5,vp b34)] ∧ b.Name.length ≤ LIMS ∧ ORow 118 3 qdh m145 c147 b.Rules M148) ?_ ?_ N _ a w hL ⟨m16,(Value.slice none 0 0),M41,Mem.le.refl _,ok,E.keep [0,3,4,5,6],(ir 0),l31,h42⟩
 rotate_left
 ·intro e a w _ hO
  obtain ⟨rfl,m130,c132,M133,hle,ok,E,l131,h134⟩:=hO
  have le_m0:=le_m0.trans hle
  have hs_0:=(mL qaA).up hle hs_0
  have h19:=ORow.up qaA hle h19
  have h33:=(mL qdj).up hle h33
  have at29:=At.up hle at29
  refine qaE<|qaa<|qad<|mv E rfl fun a E=>lv E ok (qal (cs:=[vs o43.Name,c132]) qi7 rfl rfl (qac.own 1 rfl rfl)) fun a E=>?_
  obtain ⟨m135,hle,ok,hfz⟩:=(ok.frs 0 rfl).freeze
  have h136:=ORow.froz qdj h134 hle hfz (by decide)
  have le_m0:=le_m0.trans hle
  have hs_0:=(mL qaA).up hle hs_0
  have h19:=ORow.up qaA hle h19
  have h33:=(mL qdj).up hle h33
  have at29:=At.up hle at29
  refine qa2 (R:=qbP) (xo:=[.tmp 52]) (xs:=([o43]:List (State))) E ok qgd qfT rfl ⟨⟨_,rfl,rfl,⟨_,rfl,l131,h136⟩⟩,trivial⟩ rfl rfl rfl rfl fun c137 M138 a w E ok h139=>bd hF fun l140 e141 hF=>qly (R:=qbP) E ok 2 qaA qgd Tryz.underlying73 rfl h19 (qa5.ofRow h139 0 rfl ok) e141 (qiO qtb) ⟨_,qfT,rfl⟩ rfl rfl rfl rfl fun c142 M143 a w E ok h144=>av E rfl fun a E=>wpList_nil<|qaj<|qaa<|qad<|mv E rfl fun a E=>lw E (qav rfl rfl (InR.inc r20 (qak hs_0) c21)) fun a E=>av E rfl fun a E=>wpList_nil ?_
  cases hF
  exact qaq ⟨m135,c142,M143,le_m0,(ok.pk 3 [2] rfl (by decide)),E.keep [0,3,4],h144,(InR.inc r20 (qak hs_0) c21)⟩
 rintro ⟨v50,v51⟩ a w r ⟨m52,c55,M56,hle,ok,E,r53,l54,h57⟩ hF
 replace hF:qdB N s_0 v15 v50 v51 = some r:=hF
 unfold qdB at hF
 have le_m16:=Mem.le.refl m16
 have le_m0:=le_m0.trans hle
 have le_m16:=le_m16.trans hle
 have hs_0:=(mL qaA).up hle hs_0
 have h19:=ORow.up qaA hle h19
 have h33:=(mL qdj).up hle h33
 have at29:=At.up hle at29
 refine wp_seq<|sg<|mz E rfl rfl fun a E=>mv E rfl fun a E=>?_
 obtain ⟨x58,e59,hF⟩:=bnd hF
 obtain ⟨b60,o61,es62,hl63,rr64,at65,yy66⟩:=ia E 21 22 qbv hs_0 e59
 obtain ⟨c68,rfl,l67,h69⟩:=rr64
 refine lv E ok (yy66 _ _) fun a E=>fv E qcB rfl fun a E=>lv E ok (qai qd2 rfl (qac.ro (At.sub 1 1 at65))) fun a E=>lv E ok (qao qdR h69 rfl) fun a E=>lw E (qat rfl rfl) fun a E=>wn<|cg E rfl hF (fun c70 hF=>?_) fun c70 hF=>?_
 ·refine wp_exit<|qau ?_
  cases hF
  exact so (⟨rfl,⟨m52,c55,M56,le_m16,ok,E.keep [0,3,4,5],l54,h57⟩⟩)
 refine wp_skip<|qaa<|wp_seq<|wp_block<|sg<|mz E rfl rfl fun a E=>?_
 obtain ⟨x71,e72,hF⟩:=bnd hF
 obtain ⟨b73,o74,es75,hl76,rr77,at78,yy79⟩:=ia E 30 31 qbv hs_0 e72
 obtain ⟨c81,rfl,l80,h82⟩:=rr77
 refine lv E ok (yy79 _ _) fun a E=>fv E qcB rfl fun a E=>lv E ok (qai qd2 rfl (qac.ro (At.sub 1 1 at78))) fun a E=>mv E rfl fun a E=>?_
 obtain ⟨x83,e84,hF⟩:=bnd hF
 obtain ⟨b85,o86,es87,hl88,rr89,at90,yy91⟩:=ia E 34 35 qdR h82 e84
 obtain ⟨c93,rfl,l92,h94,l95⟩:=rr89
 refine lv E ok (yy91 _ _) fun a E=>lv E ok (qal (cs:=[vs x83.Kind,c93,vs x83.Next]) qdl rfl rfl (qac.ro at90)) fun a E=>qaB E ok qdc rfl rfl fun b96 a w E ok=>qaf E ok 0 rfl rfl rfl qgh rfl rfl ⟨rfl,(qaS h94),rfl,trivial⟩ rfl rfl fun w ok=>wn<|bd hF fun o97 hJ hF=>qba (Q':=fun e a w=>e = .normal ∧ ∃ m98 c100 M101,m52.le m98 ∧ Ok u m98 ([(b96,oc 114 [vs x83.Kind,c93,vs x83.Next])] :: M101 :: [(b34,oc 111 [vs o97.Name,c100])] :: M18 :: S) w ∧ Env 56 a [(0,vs_0),(3,c17),(4,vi v15),(5,vp b34),(6,vi v50)] ∧ o97.Name.length ≤ LIMS ∧ ORow 118 3 qdh m98 c100 o97.Rules M101) ?_ ?_
 rotate_left
 ·intro e a w hO
  obtain ⟨rfl,m125,c127,M128,hle,ok,E,l126,h129⟩:=hO
  have le_m0:=le_m0.trans hle
  have le_m16:=le_m16.trans hle
  have hs_0:=(mL qaA).up hle hs_0
  have h19:=ORow.up qaA hle h19
  have h33:=(mL qdj).up hle h33
  have at29:=At.up hle at29
  have h69:=(mL qdj).up hle h69
  have at65:=At.up hle at65
  have h82:=(mL qdj).up hle h82
  have at78:=At.up hle at78
  have h94:=(mL qdd).up hle h94
  have at90:=At.up hle at90
  refine qaj<|qaa<|qad<|mv E rfl fun a E=>lw E (qav rfl rfl (InR.inc r53 (qak h69) c70)) fun a E=>av E rfl fun a E=>wpList_nil ?_
  cases hF
  exact qaq ⟨m125,c127,M128,le_m16,(ok.pk 4 [1,2,3] rfl (by decide)),E.keep [0,3,4,5,6],(InR.inc r53 (qak h69) c70),l126,h129⟩
 have hF:=hJ
 have le_m52:=Mem.le.refl m52
 obtain ⟨r103,e104,hF⟩:=bnd hF
 obtain ⟨l111,e112,hF⟩:=bnd hF
 obtain rfl:=sj hF
 refine qbY [1,3,5,8] (Cls u m52 ([(b96,oc 114 [vs x83.Kind,c93,vs x83.Next])] :: [(b34,oc 111 [vs v51.Name,c55])] :: M18 :: [])) (Cls u m52 ([(b96,oc 114 [vs x83.Kind,c93,vs x83.Next])] :: M18 :: [])) (by kernel_rfl) ?_
 intro w hw
 replace ok:=qb9 ok hw
 clear hw
 have h94_o:=h94
 refine qar (cl1 (cq le_m52 ok [0,2,3] rfl) (cq le_m52 ok [0,3] rfl)) fun hT=>kt 0 E rfl hT (qag qf1 rfl) fun a E=>qa6 1 E rfl (by kernel_rfl) nP hT (qai qhq rfl (qac.cown 1 rfl rfl)) rfl rfl fun a E=>kt 2 E rfl hT (qag qjw rfl) fun a E=>qa6 3 E rfl (by kernel_rfl) nP hT (qai qam rfl (qac.cown 0 rfl rfl)) rfl rfl fun a E=>kt 4 E rfl hT (qag qcl rfl) fun a E=>qa6 5 E rfl (by kernel_rfl) nP hT (qai qdG rfl (qac.cown 0 rfl rfl)) rfl rfl fun a E=>kt 7 E rfl hT (qag qfR rfl) fun a E=>qa6 8 E rfl (by kernel_rfl) nP hT (qai qam rfl (qac.cown 0 rfl rfl)) rfl rfl fun a E=>qaL [6] (by kernel_rfl) rfl (qaM ?_)
 ·refine wo rfl<|qas E qt9 rfl (qj1 N _ x83.Items h94 e104 hG ok) rfl rfl ?_
  rintro _ w ⟨m116,c117,rfl,hle,ok,h118⟩
  have le_m0:=le_m0.trans hle
  have le_m16:=le_m16.trans hle
  have le_m52:=le_m52.trans hle
  have hs_0:=(mL qaA).up hle hs_0
  have h19:=ORow.up qaA hle h19
  have h33:=(mL qdj).up hle h33
  have at29:=At.up hle at29
  have h57:=ORow.up qdj hle h57
  have h69:=(mL qdj).up hle h69
  have at65:=At.up hle at65
  have h82:=(mL qdj).up hle h82
  have at78:=At.up hle at78
  have h94:=(mL qdd).up hle h94
  have at90:=At.up hle at90
  refine ⟨_,rfl,fun a E=>?_⟩
  refine wn<|qar (cl1 (cq le_m52 ok [0,2,3] rfl) (cq le_m52 ok [0,3] rfl)) fun hT=>kt 9 E rfl hT (qaT (ps:=[(0,.tmp 41),(1,.tmp 44),(2,.tmp 46)]) (qs:=[(0,[vs x83.Kind]),(1,[c117]),(2,[vs x83.Next])]) (cs:=[vs x83.Kind,c117,vs x83.Next]) qgH qpl rfl ⟨rfl,rfl,rfl,⟨rfl,(qgJ h118),rfl,⟨rfl,rfl,rfl,trivial⟩⟩⟩ rfl) fun a E=>qaL [10] (by kernel_rfl) rfl (qaM ?_)
  ·refine wo rfl<|qa2 (R:=qdh) (xo:=[.tmp 47]) (xs:=([(Rule.mk x83.Kind r103 x83.Next)]:List (Rule))) E ok qft qgH rfl ⟨⟨_,rfl,rfl,⟨_,rfl,l92,h118,l95⟩⟩,trivial⟩ rfl rfl rfl rfl fun c119 M120 a w E ok h121=>wn<|qar (cl1 (cq le_m52 ok [1,3,4] rfl) (cq le_m52 ok [1,4] rfl)) fun hT=>qaL [11] (by kernel_rfl) rfl (qaM ?_)
   ·refine wo rfl<|qly (R:=qdh) E ok 2 qdj qft Tryz.underlying109 rfl h57 (qa5.ofRow h121 0 rfl ok) e112 (qiO qtm) ⟨_,qgH,rfl⟩ rfl rfl rfl rfl fun c122 M123 a w E ok h124=>wn<|qar (cl1 (cq le_m52 ok [1,3,4] rfl) (cq le_m52 ok [1,4] rfl)) fun hT=>kt 12 E rfl hT (qag qf1 rfl) fun a E=>qaL [13] (by kernel_rfl) rfl (qaM ?_)
    ·refine wo rfl<|qaf E ok 3 rfl rfl rfl qrP (ORow.cells h124) rfl ⟨(ORow.one h124),trivial⟩ rfl rfl fun w ok=>wn<|qar (cl2 (by kernel_rfl) (cq le_m52 ok [1,4] rfl)) fun hT=>qbU (by kernel_rfl) ?_
     exact ⟨rfl,⟨m116,c122,M123,le_m52,(ok.pk 5 [1,2,3,4] rfl (by decide)),E.keep [0,3,4,5,6],l54,h124⟩⟩
def qk3 (u:World) (m0:Mem) (S:Segs) (r:(List (Call))) (a:Act) (w:World):Prop :=
 ∃ m1 v0,m0.le m1 ∧ Ok u m1 S w ∧ a.defers = [] ∧ RVs Tryz.prog a w [.t 2 v0] ∧ (pL 3 qdI) m1 [v0] r
theorem qkY (N:Nat) (vl_0:Value) (l_0:List (Call)) (hl_0:(pL 3 qdI) m0 [vl_0] l_0) {r:(List (Call))} (hF:qeJ N l_0 = some r) (hG:Glob u) (ok:Ok u m0 S w) :
  Calls Tryz.prog 13 [vl_0].toArray w fun e w'=>∃ m1 v0,e = .returned v0 ∧ m0.le m1 ∧ Ok u m1 S w' ∧ (pL 3 qdI) m1 [v0] r:=by
 have le_m0:=Mem.le.refl m0
 unfold qeJ at hF
 refine en (qk3 u m0 S) r Tryz.func13 rfl rfl rfl (fun _ _ h=>rc h fun _=>rfl) fun fin a E=>sg<|aw E rfl fun a E=>sg<|aw E rfl fun a E=>wp_seq<|sg<|av E rfl fun a E=>wn<|wp_block ?_
 obtain ⟨M6,ok,h7⟩:=qdq (e:=83) (k:=3) (R:=qdI) ok
 refine bd hF fun o8 hL hF=>qaC _ (fun (s:(List (Call)) × Int) a w=>∃ c9 M10,Ok u m0 (M10 :: S) w ∧ Env 19 a [(0,vl_0),(3,c9),(4,vi s.2)] ∧ ORow 83 3 qdI m0 c9 s.1 M10 ∧ InR .i64 s.2) (fun (b:((List (Call)))) e a w=>e = (.exit 0) ∧ ∃ c45 M46,Ok u m0 (M46 :: S) w ∧ Env 19 a [(3,c45)] ∧ ORow 83 3 qdI m0 c45 b M46) ?_ ?_ N _ a w hL ⟨(Value.slice none 0 0),M6,ok,E.keep [0,3,4],h7,(ir 0)⟩
 rotate_left
 ·intro e a w _ hO
  obtain ⟨rfl,c40,M41,ok,E,h42⟩:=hO
  refine qaE<|qaa<|sg<|mv E rfl fun a E=>aw E rfl fun a E=>wp_ret ?_
  obtain ⟨m43,hle,ok,hfz⟩:=(ok.frs 0 rfl).freeze
  have h44:=ORow.froz qbI h42 hle hfz (by decide)
  have le_m0:=le_m0.trans hle
  have hl_0:=(mL qbI).up hle hl_0
  exact fin hF ⟨m43,c40,le_m0,ok,E.d,rz E rfl,h44⟩
 rintro ⟨v13,v14⟩ a w r ⟨c15,M16,ok,E,h17,r18⟩ hF
 replace hF:qdA N l_0 v13 v14 = some r:=hF
 unfold qdA at hF
 refine wp_seq<|sg<|mz E rfl rfl fun a E=>lv E ok (qao ql1 hl_0 rfl) fun a E=>lw E (qat rfl rfl) fun a E=>wn<|cg E rfl hF (fun c19 hF=>?_) fun c19 hF=>?_
 ·refine wp_exit<|qau ?_
  cases hF
  exact so (⟨rfl,⟨c15,M16,ok,E.keep [3],h17⟩⟩)
 refine wp_skip<|qaa<|wp_seq<|wp_block<|qad<|mz E rfl rfl fun a E=>mv E rfl fun a E=>?_
 obtain ⟨x20,e21,hF⟩:=bnd hF
 obtain ⟨b22,o23,es24,hl25,rr26,at27,yy28⟩:=ia E 12 13 ql1 hl_0 e21
 obtain ⟨rfl,l29,r30,r31⟩:=rr26
 refine lv E ok (yy28 _ _) fun a E=>lv E ok (qal (cs:=[vs x20.Name,vi x20.ID,vi x20.Source]) qtg rfl rfl (qac.ro at27)) fun a E=>qa2 (R:=qdI) (xo:=[.tmp 15]) (xs:=([x20]:List (Call))) E ok qfJ qjo rfl ⟨⟨_,rfl,rfl,⟨rfl,l29,r30,r31⟩⟩,trivial⟩ rfl rfl rfl rfl fun c32 M33 a w E ok h34=>bd hF fun l35 e36 hF=>qcj (R:=qdI) E ok 1 qbI qfJ Tryz.underlying34 rfl h17 (qa5.ofRow h34 0 rfl ok) e36 ⟨_,qjo,rfl⟩ rfl rfl rfl rfl fun c37 M38 a w E ok h39=>av E rfl fun a E=>wpList_nil<|qaj<|qaa<|qad<|mv E rfl fun a E=>lw E (qav rfl rfl (InR.inc r18 (qak hl_0) c19)) fun a E=>av E rfl fun a E=>wpList_nil ?_
 cases hF
 exact qaq ⟨c37,M38,(ok.pk 2 [1] rfl (by decide)),E.keep [0,3,4],h39,(InR.inc r18 (qak hl_0) c19)⟩
def qjQ (u:World) (m0:Mem) (S:Segs) (r:(List (File))) (a:Act) (w:World):Prop :=
 ∃ m1 v0,m0.le m1 ∧ Ok u m1 S w ∧ a.defers = [] ∧ RVs Tryz.prog a w [.t 2 v0] ∧ (pL 2 qeG) m1 [v0] r
theorem qjW (N:Nat) (vl_0:Value) (l_0:List (File)) (hl_0:(pL 2 qeG) m0 [vl_0] l_0) {r:(List (File))} (hF:qdU N l_0 = some r) (hG:Glob u) (ok:Ok u m0 S w) :
  Calls Tryz.prog 33 [vl_0].toArray w fun e w'=>∃ m1 v0,e = .returned v0 ∧ m0.le m1 ∧ Ok u m1 S w' ∧ (pL 2 qeG) m1 [v0] r:=by
 have le_m0:=Mem.le.refl m0
 unfold qdU at hF
 refine en (qjQ u m0 S) r Tryz.func33 rfl rfl rfl (fun _ _ h=>rc h fun _=>rfl) fun fin a E=>sg<|aw E rfl fun a E=>sg<|aw E rfl fun a E=>wp_seq<|sg<|av E rfl fun a E=>wn<|wp_block ?_
 obtain ⟨M6,ok,h7⟩:=qdq (e:=75) (k:=2) (R:=qeG) ok
 refine bd hF fun o8 hL hF=>qaC _ (fun (s:(List (File)) × Int) a w=>∃ c9 M10,Ok u m0 (M10 :: S) w ∧ Env 19 a [(0,vl_0),(3,c9),(4,vi s.2)] ∧ ORow 75 2 qeG m0 c9 s.1 M10 ∧ InR .i64 s.2) (fun (b:((List (File)))) e a w=>e = (.exit 0) ∧ ∃ c44 M45,Ok u m0 (M45 :: S) w ∧ Env 19 a [(3,c44)] ∧ ORow 75 2 qeG m0 c44 b M45) ?_ ?_ N _ a w hL ⟨(Value.slice none 0 0),M6,ok,E.keep [0,3,4],h7,(ir 0)⟩
 rotate_left
 ·intro e a w _ hO
  obtain ⟨rfl,c39,M40,ok,E,h41⟩:=hO
  refine qaE<|qaa<|sg<|mv E rfl fun a E=>aw E rfl fun a E=>wp_ret ?_
  obtain ⟨m42,hle,ok,hfz⟩:=(ok.frs 0 rfl).freeze
  have h43:=ORow.froz qbF h41 hle hfz (by decide)
  have le_m0:=le_m0.trans hle
  have hl_0:=(mL qbF).up hle hl_0
  exact fin hF ⟨m42,c39,le_m0,ok,E.d,rz E rfl,h43⟩
 rintro ⟨v13,v14⟩ a w r ⟨c15,M16,ok,E,h17,r18⟩ hF
 replace hF:qda N l_0 v13 v14 = some r:=hF
 unfold qda at hF
 refine wp_seq<|sg<|mz E rfl rfl fun a E=>lv E ok (qao qh6 hl_0 rfl) fun a E=>lw E (qat rfl rfl) fun a E=>wn<|cg E rfl hF (fun c19 hF=>?_) fun c19 hF=>?_
 ·refine wp_exit<|qau ?_
  cases hF
  exact so (⟨rfl,⟨c15,M16,ok,E.keep [3],h17⟩⟩)
 refine wp_skip<|qaa<|wp_seq<|wp_block<|qad<|mz E rfl rfl fun a E=>mv E rfl fun a E=>?_
 obtain ⟨x20,e21,hF⟩:=bnd hF
 obtain ⟨b22,o23,es24,hl25,rr26,at27,yy28⟩:=ia E 12 13 qh6 hl_0 e21
 obtain ⟨rfl,l29,l30⟩:=rr26
 refine lv E ok (yy28 _ _) fun a E=>lv E ok (qal (cs:=[vs x20.Name,vs x20.Text]) qtv rfl rfl (qac.ro at27)) fun a E=>qa2 (R:=qeG) (xo:=[.tmp 15]) (xs:=([x20]:List (File))) E ok qhw qhs rfl ⟨⟨_,rfl,rfl,⟨rfl,l29,l30⟩⟩,trivial⟩ rfl rfl rfl rfl fun c31 M32 a w E ok h33=>bd hF fun l34 e35 hF=>qcj (R:=qeG) E ok 1 qbF qhw Tryz.underlying84 rfl h17 (qa5.ofRow h33 0 rfl ok) e35 ⟨_,qhs,rfl⟩ rfl rfl rfl rfl fun c36 M37 a w E ok h38=>av E rfl fun a E=>wpList_nil<|qaj<|qaa<|qad<|mv E rfl fun a E=>lw E (qav rfl rfl (InR.inc r18 (qak hl_0) c19)) fun a E=>av E rfl fun a E=>wpList_nil ?_
 cases hF
 exact qaq ⟨c36,M37,(ok.pk 2 [1] rfl (by decide)),E.keep [0,3,4],h38,(InR.inc r18 (qak hl_0) c19)⟩
def qhM (u:World) (m0:Mem) (S:Segs) (r:Entry × Bool) (a:Act) (w:World):Prop :=
 ∃ m1 v0,m0.le m1 ∧ Ok u m1 S w ∧ a.defers = [] ∧ RVs Tryz.prog a w [.c 4 53 (.agg v0.toArray),.t 5 (.bool r.2)] ∧ qc7 m1 v0 r.1
theorem qhz (N:Nat) (vl_0:Value) (l_0:List (Entry)) (hl_0:(pL 7 qc7) m0 [vl_0] l_0) (id_1:List UInt8) (lid_1:id_1.length ≤ LIMS) {r:Entry × Bool} (hF:qds N l_0 id_1 = some r) (hG:Glob u) (ok:Ok u m0 S w) :
  Calls Tryz.prog 17 [vl_0,Value.string (bs id_1)].toArray w fun e w'=>∃ m1 v0,e = .returned (.tuple [(.agg v0.toArray),(.bool r.2)].toArray) ∧ m0.le m1 ∧ Ok u m1 S w' ∧ qc7 m1 v0 r.1:=by
 have le_m0:=Mem.le.refl m0
 unfold qds at hF
 refine en (qhM u m0 S) r Tryz.func17 rfl rfl rfl (by rintro a w ⟨m1,v0,hle,ok,hd,hrv,h0⟩; exact qbT [.c 4 53 (.agg v0.toArray),.t 5 (.bool r.2)] hd rfl hrv ⟨m1,v0,rfl,hle,ok,h0⟩) fun fin a E=>sg<|qaB E ok qeU rfl rfl fun b1 a w E ok=>aw E rfl fun a E=>wp_seq<|sg<|aw E rfl fun a E=>wp_block<|bd hF fun o3 hL hF=>qaC _ (fun (s:Int) a w=>Ok u m0 ([(b1,oc 53 [(vs ([])),(vs ([])),(vs ([])),(Value.slice none 0 0),(Value.slice none 0 0),vi 0,(Value.slice none 0 0)])] :: S) w ∧ Env 25 a [(0,vl_0),(1,vs id_1),(4,vp b1),(6,vi s)] ∧ InR .i64 s) (fun (b:(Unit ⊕ (Entry × Bool))) e a w=>(Sum.elim (fun b47=>e = (.exit 0) ∧ Ok u m0 ([(b1,oc 53 [(vs ([])),(vs ([])),(vs ([])),(Value.slice none 0 0),(Value.slice none 0 0),vi 0,(Value.slice none 0 0)])] :: S) w ∧ Env 25 a [(4,vp b1)]) (fun b48=>e = .ret ∧ qhM u m0 S b48 a w)) b) ?_ ?_ N _ a w hL ⟨ok,E.keep [0,1,4,6],(ir 0)⟩
 rotate_left
 ·intro e a w _ hO
  rcases o3 with o3 | o3
  rotate_left
  ·obtain ⟨rfl,hret⟩:=hO
   refine qah<|qae ?_
   exact fin hF hret
  have hF:=qa1 hF
  obtain ⟨rfl,ok,E⟩:=hO
  refine qaE<|qaa<|sg<|lw E (qaT (ps:=[]) (qs:=[]) (cs:=[(vs ([])),(vs ([])),(vs ([])),(Value.slice none 0 0),(Value.slice none 0 0),vi 0,(Value.slice none 0 0)]) qeU qj9 rfl trivial rfl) fun a E=>qaf E ok 0 rfl rfl rfl qir rfl rfl ⟨rfl,rfl,rfl,rfl,rfl,rfl,rfl,trivial⟩ rfl rfl fun w ok=>av E rfl fun a E=>wn<|wp_ret ?_
  exact fin hF ⟨m0,[(vs ([])),(vs ([])),(vs ([])),(Value.slice none 0 0),(Value.slice none 0 0),vi 0,(Value.slice none 0 0)],le_m0,ok.drop,E.d,⟨rv_c (cs:=[(vs ([])),(vs ([])),(vs ([])),(Value.slice none 0 0),(Value.slice none 0 0),vi 0,(Value.slice none 0 0)]) E ok rfl qgv rfl (qac.own 0 rfl rfl),rv_t E rfl,trivial⟩,⟨_,_,_,rfl,(Nat.zero_le _),(Nat.zero_le _),(Nat.zero_le _),qbh,qbh,(ir 0),qbh⟩⟩
 rintro v5 a w r ⟨ok,E,r6⟩ hF
 replace hF:qcG N l_0 id_1 v5 = some r:=hF
 unfold qcG at hF
 refine wp_seq<|sg<|mz E rfl rfl fun a E=>lv E ok (qao qb0 hl_0 rfl) fun a E=>lw E (qat rfl rfl) fun a E=>wn<|cg E rfl hF (fun c7 hF=>?_) fun c7 hF=>?_
 ·refine wp_exit<|qau ?_
  cases hF
  exact so (sl ⟨rfl,⟨ok,E.keep [4]⟩⟩)
 refine wp_skip<|qaa<|wp_seq<|wp_block<|sg<|mz E rfl rfl fun a E=>?_
 obtain ⟨x8,e9,hF⟩:=bnd hF
 obtain ⟨b10,o11,es12,hl13,rr14,at15,yy16⟩:=ia E 13 14 qb0 hl_0 e9
 obtain ⟨c20,c22,c25,rfl,l17,l18,l19,h21,h23,r24,h26⟩:=rr14
 refine lv E ok (yy16 _ _) fun a E=>fv E qgg rfl fun a E=>lv E ok (qai qam rfl (qac.ro (At.sub 0 1 at15))) fun a E=>mv E rfl fun a E=>lw E (qbb rfl rfl) fun a E=>wn<|cg E rfl hF (fun c27 hF=>?_) fun c27 hF=>?_
 ·refine wp_skip<|qaj<|qaa<|qad<|mv E rfl fun a E=>lw E (qav rfl rfl (InR.inc r6 (qak hl_0) c7)) fun a E=>av E rfl fun a E=>wpList_nil ?_
  cases hF
  exact qaq ⟨ok,E.keep [0,1,4,6],(InR.inc r6 (qak hl_0) c7)⟩
 refine sg<|mz E rfl rfl fun a E=>?_
 obtain ⟨x28,e29,hF⟩:=bnd hF
 obtain ⟨b30,o31,es32,hl33,rr34,at35,yy36⟩:=ia E 20 21 qb0 hl_0 e29
 obtain ⟨c40,c42,c45,rfl,l37,l38,l39,h41,h43,r44,h46⟩:=rr34
 refine lv E ok (yy36 _ _) fun a E=>lv E ok (qal (cs:=[vs x28.ID,vs x28.Source,vs x28.Target,c40,c42,vi x28.State,c45]) qgv rfl rfl (qac.ro at35)) fun a E=>qaf E ok 0 rfl rfl rfl qir rfl rfl ⟨rfl,rfl,rfl,(qaS h41),(qaS h43),rfl,(qaS h46),trivial⟩ rfl rfl fun w ok=>aw E rfl fun a E=>wp_ret<|qah<|qae ?_
 cases hF
 exact so (sr ⟨rfl,⟨m0,[vs x28.ID,vs x28.Source,vs x28.Target,c40,c42,vi x28.State,c45],le_m0,ok.drop,E.d,⟨rv_c (cs:=[vs x28.ID,vs x28.Source,vs x28.Target,c40,c42,vi x28.State,c45]) E ok rfl qgv rfl (qac.own 0 rfl rfl),rv_t E rfl,trivial⟩,⟨_,_,_,rfl,l37,l38,l39,h41,h43,r44,h46⟩⟩⟩)
def qhS (u:World) (m0:Mem) (S:Segs) (r:Bool) (a:Act) (w:World):Prop :=
 Ok u m0 S w ∧ a.defers = [] ∧ RVs Tryz.prog a w [.t 4 (.bool r)]
theorem qk1 (N:Nat) (vl_0:Value) (l_0:List (List UInt8)) (hl_0:(pL 1 pS) m0 [vl_0] l_0) (s_1:List UInt8) (ls_1:s_1.length ≤ LIMS) {r:Bool} (hF:qex N l_0 s_1 = some r) (hG:Glob u) (ok:Ok u m0 S w) :
  Calls Tryz.prog 18 [vl_0,Value.string (bs s_1)].toArray w fun e w'=>(e = .returned (.bool r) ∧ Ok u m0 S w'):=by
 unfold qex at hF
 refine en (qhS u m0 S) r Tryz.func18 rfl rfl rfl (fun _ _ h=>ra h rfl) fun fin a E=>sg<|aw E rfl fun a E=>wp_seq<|sg<|aw E rfl fun a E=>wp_block<|bd hF fun o2 hL hF=>qaC _ (fun (s:Int) a w=>Ok u m0 (S) w ∧ Env 18 a [(0,vl_0),(1,vs s_1),(5,vi s)] ∧ InR .i64 s) (fun (b:(Unit ⊕ Bool)) e a w=>(Sum.elim (fun b18=>e = (.exit 0) ∧ Ok u m0 (S) w ∧ Env 18 a []) (fun b19=>e = .ret ∧ qhS u m0 S b19 a w)) b) ?_ ?_ N _ a w hL ⟨ok,E.keep [0,1,5],(ir 0)⟩
 rotate_left
 ·intro e a w _ hO
  rcases o2 with o2 | o2
  rotate_left
  ·obtain ⟨rfl,hret⟩:=hO
   refine qah<|qae ?_
   exact fin hF hret
  have hF:=qa1 hF
  obtain ⟨rfl,ok,E⟩:=hO
  refine qaE<|qaa<|sg<|aw E rfl fun a E=>wp_ret ?_
  exact fin hF ⟨ok,E.d,rz E rfl⟩
 rintro v4 a w r ⟨ok,E,r5⟩ hF
 replace hF:qcQ N l_0 s_1 v4 = some r:=hF
 unfold qcQ at hF
 refine wp_seq<|sg<|mz E rfl rfl fun a E=>lv E ok (qao qdY hl_0 rfl) fun a E=>lw E (qat rfl rfl) fun a E=>wn<|cg E rfl hF (fun c6 hF=>?_) fun c6 hF=>?_
 ·refine wp_exit<|qau ?_
  cases hF
  exact so (sl ⟨rfl,⟨ok,E.keep []⟩⟩)
 refine wp_skip<|qaa<|wp_seq<|wp_block<|sg<|mz E rfl rfl fun a E=>?_
 obtain ⟨x7,e8,hF⟩:=bnd hF
 obtain ⟨b9,o10,es11,hl12,rr13,at14,yy15⟩:=ia E 12 13 qdY hl_0 e8
 obtain ⟨rfl,l16⟩:=rr13
 refine lv E ok (yy15 _ _) fun a E=>lv E ok (qai qam rfl (qac.ro at14)) fun a E=>mv E rfl fun a E=>lw E (qbb rfl rfl) fun a E=>wn<|cg E rfl hF (fun c17 hF=>?_) fun c17 hF=>?_
 ·refine wp_skip<|qaj<|qaa<|qad<|mv E rfl fun a E=>lw E (qav rfl rfl (InR.inc r5 (qak hl_0) c6)) fun a E=>av E rfl fun a E=>wpList_nil ?_
  cases hF
  exact qaq ⟨ok,E.keep [0,1,5],(InR.inc r5 (qak hl_0) c6)⟩
 refine sg<|aw E rfl fun a E=>wp_ret<|qah<|qae ?_
 cases hF
 exact so (sr ⟨rfl,⟨ok,E.d,rz E rfl⟩⟩)
end Go.Proofs.YtllfckekodcdaaaGreatDoor
