/- Texts of this proof, put together by pack.py: what its declarations name. -/
import Derived.Test.YtllfckekodcdaaaGreatDoorPkKn3
import Derived.Test.YtllfckekodcdaaaGreatDoorCards
import Derived.Test.YtllfckekodcdaaaGreatDoorChecked
import Derived.Test.YtllfckekodcdaaaGreatDoorProg
import Derived.Test.YtllfckekodcdaaaGreatDoorRows
import Derived.Test.YtllfckekodcdaaaGreatDoorTie
set_option linter.unusedVariables false
set_option linter.unusedSimpArgs false
namespace Go.Proofs.YtllfckekodcdaaaGreatDoor
open Go.X
variable {u:World} {m0:Mem} {S:Segs} {w:World}
set_option maxHeartbeats 4000000
set_option maxRecDepth 100000
def qgU:Rp Found:=fun _ cs x=>cs = [.int .i64 x.Call,.int .i64 x.Offset,.string (bs x.ID),.string (bs x.Source),.string (bs x.Comment)] ∧ InR .i64 x.Call ∧ InR .i64 x.Offset ∧ x.ID.length ≤ LIMS ∧ x.Source.length ≤ LIMS ∧ x.Comment.length ≤ LIMS
theorem qm4:Mono qgU:=⟨fun _ h=>by
 obtain ⟨e,h0,h1,h2,h3,h4⟩:=h
 exact ⟨e,h0,h1,h2,h3,h4⟩,fun h=>by
 obtain ⟨rfl,h0,h1,h2,h3,h4⟩:=h
 exact ⟨rfl,rfl,rfl,rfl,rfl,trivial⟩⟩
def qft:Rp Field:=fun _ cs x=>cs = [.string (bs x.Name),.string (bs x.Value)] ∧ x.Name.length ≤ LIMS ∧ x.Value.length ≤ LIMS
theorem qky:Mono qft:=⟨fun _ h=>by
 obtain ⟨e,h0,h1⟩:=h
 exact ⟨e,h0,h1⟩,fun h=>by
 obtain ⟨rfl,h0,h1⟩:=h
 exact ⟨rfl,rfl,trivial⟩⟩
def qfB:Rp Entry:=fun m cs x=>∃ c3 c4 c6,cs = [.string (bs x.ID),.string (bs x.Source),.string (bs x.Target),c3,c4,.int .i64 x.State,c6] ∧ x.ID.length ≤ LIMS ∧ x.Source.length ≤ LIMS ∧ x.Target.length ≤ LIMS ∧ (pL 1 pS) m [c3] x.Comments ∧ (pL 1 pS) m [c4] x.Flags ∧ InR .i64 x.State ∧ (pL 2 qft) m [c6] x.Fields
theorem qnw:Mono qfB:=⟨fun hm h=>by
 obtain ⟨c3,c4,c6,e,h0,h1,h2,h3,h4,h5,h6⟩:=h
 exact ⟨c3,c4,c6,e,h0,h1,h2,(mL mS).up hm h3,(mL mS).up hm h4,h5,(mL qky).up hm h6⟩,fun h=>by
 obtain ⟨c3,c4,c6,rfl,h0,h1,h2,h3,h4,h5,h6⟩:=h
 exact ⟨rfl,rfl,rfl,((mL mS).one h3).1,((mL mS).one h4).1,rfl,((mL qky).one h6).1,trivial⟩⟩
theorem qdt:aggB Tryz.prog 114 3 = true:=by kernel_rfl
theorem qaU:aggB Tryz.prog 138 5 = true:=by kernel_rfl
theorem quR:aggB Tryz.prog 157 2 = true:=by kernel_rfl
theorem qfx:aggB Tryz.prog 28 3 = true:=by kernel_rfl
theorem qsi:aggB Tryz.prog 53 7 = true:=by kernel_rfl
theorem qr3:aggB Tryz.prog 58 2 = true:=by kernel_rfl
theorem qlS:aggB Tryz.prog 62 2 = true:=by kernel_rfl
theorem qse:aggB Tryz.prog 66 3 = true:=by kernel_rfl
theorem qvu:qkx Tryz.prog 111 40 = true:=by kernel_rfl
theorem qu8:qkx Tryz.prog 118 56 = true:=by kernel_rfl
theorem qvv:qkx Tryz.prog 154 64 = true:=by kernel_rfl
theorem qvw:qkx Tryz.prog 156 2 = true:=by kernel_rfl
theorem qu1:Tryz.prog.eqGuardType Tryz.prog.depth 58 = false:=by kernel_rfl
theorem qim:qaw Tryz.prog 108 0 0 = true:=by kernel_rfl
theorem qcx:qaw Tryz.prog 108 1 1 = true:=by kernel_rfl
theorem qju:qaw Tryz.prog 114 0 0 = true:=by kernel_rfl
theorem qcv:qaw Tryz.prog 114 1 1 = true:=by kernel_rfl
theorem qfK:qaw Tryz.prog 114 2 2 = true:=by kernel_rfl
theorem qsG:qaw Tryz.prog 124 0 0 = true:=by kernel_rfl
theorem qbE:qaw Tryz.prog 138 0 0 = true:=by kernel_rfl
theorem qa8:qaw Tryz.prog 138 1 1 = true:=by kernel_rfl
theorem qhB:qaw Tryz.prog 138 2 2 = true:=by kernel_rfl
theorem qd7:qaw Tryz.prog 138 3 3 = true:=by kernel_rfl
theorem qdI:qaw Tryz.prog 138 4 4 = true:=by kernel_rfl
theorem qjj:qaw Tryz.prog 157 0 0 = true:=by kernel_rfl
theorem qjm:qaw Tryz.prog 157 1 1 = true:=by kernel_rfl
theorem qdn:qaw Tryz.prog 28 0 0 = true:=by kernel_rfl
theorem qmd:qaw Tryz.prog 28 1 1 = true:=by kernel_rfl
theorem qui:qaw Tryz.prog 28 2 2 = true:=by kernel_rfl
theorem qqD:qaw Tryz.prog 53 0 0 = true:=by kernel_rfl
theorem qnP:qaw Tryz.prog 53 1 1 = true:=by kernel_rfl
theorem qqW:qaw Tryz.prog 53 2 2 = true:=by kernel_rfl
theorem qkt:qaw Tryz.prog 53 3 3 = true:=by kernel_rfl
theorem qqE:qaw Tryz.prog 53 4 4 = true:=by kernel_rfl
theorem qqP:qaw Tryz.prog 53 5 5 = true:=by kernel_rfl
theorem qdS:qaw Tryz.prog 53 6 6 = true:=by kernel_rfl
theorem qun:qaw Tryz.prog 62 0 0 = true:=by kernel_rfl
theorem qqI:qaw Tryz.prog 62 1 1 = true:=by kernel_rfl
theorem qid:qaw Tryz.prog 66 0 0 = true:=by kernel_rfl
theorem qks:qaw Tryz.prog 66 1 1 = true:=by kernel_rfl
theorem qj6:qaw Tryz.prog 66 2 2 = true:=by kernel_rfl
theorem qm5:goB Tryz.prog 108 = true:=by kernel_rfl
theorem qlq:goB Tryz.prog 109 = true:=by kernel_rfl
theorem qwx:goB Tryz.prog 11 = true:=by kernel_rfl
theorem qpi:goB Tryz.prog 110 = true:=by kernel_rfl
theorem qvG:goB Tryz.prog 130 = true:=by kernel_rfl
theorem qnx:goB Tryz.prog 131 = true:=by kernel_rfl
theorem qwE:goB Tryz.prog 14 = true:=by kernel_rfl
theorem qwi:goB Tryz.prog 19 = true:=by kernel_rfl
theorem qtu:goB Tryz.prog 20 = true:=by kernel_rfl
theorem qwK:goB Tryz.prog 37 = true:=by kernel_rfl
theorem qoS:goB Tryz.prog 38 = true:=by kernel_rfl
theorem qvY:goB Tryz.prog 39 = true:=by kernel_rfl
theorem qwq:goB Tryz.prog 40 = true:=by kernel_rfl
theorem qwO:goB Tryz.prog 41 = true:=by kernel_rfl
theorem qoP:goB Tryz.prog 42 = true:=by kernel_rfl
theorem qrz:goB Tryz.prog 60 = true:=by kernel_rfl
theorem qrh:goB Tryz.prog 61 = true:=by kernel_rfl
theorem qv0:goB Tryz.prog 62 = true:=by kernel_rfl
theorem qwI:goB Tryz.prog 63 = true:=by kernel_rfl
theorem qtR:goB Tryz.prog 64 = true:=by kernel_rfl
theorem qwF:goB Tryz.prog 65 = true:=by kernel_rfl
theorem qtD:goB Tryz.prog 66 = true:=by kernel_rfl
theorem qwo:goB Tryz.prog 67 = true:=by kernel_rfl
theorem qrE:goB Tryz.prog 68 = true:=by kernel_rfl
theorem qtN:goB Tryz.prog 69 = true:=by kernel_rfl
theorem qwQ:goB Tryz.prog 85 = true:=by kernel_rfl
theorem qvU:goB Tryz.prog 86 = true:=by kernel_rfl
theorem qrs:goB Tryz.prog 87 = true:=by kernel_rfl
theorem qwB:goB Tryz.prog 88 = true:=by kernel_rfl
theorem qtH:goB Tryz.prog 89 = true:=by kernel_rfl
theorem qwy:goB Tryz.prog 90 = true:=by kernel_rfl
theorem qnL:∃ i,Tryz.prog.info? 106 = some i ∧ i.size = 1:=⟨_,rfl,by kernel_rfl⟩
theorem qtW:∃ i,Tryz.prog.info? 109 = some i ∧ i.size = 1:=⟨_,rfl,by kernel_rfl⟩
theorem qnU:∃ i,Tryz.prog.info? 112 = some i ∧ i.size = 1:=⟨_,rfl,by kernel_rfl⟩
theorem qgu:∃ i,Tryz.prog.info? 114 = some i ∧ i.size = 3:=⟨_,rfl,by kernel_rfl⟩
theorem qi9:∃ i,Tryz.prog.info? 136 = some i ∧ i.size = 1:=⟨_,rfl,by kernel_rfl⟩
theorem qbg:∃ i,Tryz.prog.info? 138 = some i ∧ i.size = 5:=⟨_,rfl,by kernel_rfl⟩
theorem quj:∃ i,Tryz.prog.info? 152 = some i ∧ i.size = 1:=⟨_,rfl,by kernel_rfl⟩
theorem qhR:∃ i,Tryz.prog.info? 28 = some i ∧ i.size = 3:=⟨_,rfl,by kernel_rfl⟩
theorem qu6:∃ i,Tryz.prog.info? 66 = some i ∧ i.size = 3:=⟨_,rfl,by kernel_rfl⟩
theorem qgB:∃ i,Tryz.prog.info? 9 = some i ∧ i.size = 1:=⟨_,rfl,by kernel_rfl⟩
theorem qd6:oneB Tryz.prog 106 = true:=by kernel_rfl
theorem qea:oneB Tryz.prog 112 = true:=by kernel_rfl
theorem qbB:oneB Tryz.prog 136 = true:=by kernel_rfl
theorem qvi:oneB Tryz.prog 23 = true:=by kernel_rfl
theorem qku:oneB Tryz.prog 50 = true:=by kernel_rfl
theorem qeG:oneB Tryz.prog 51 = true:=by kernel_rfl
theorem qrx:qcN Tryz.prog 108 = some [(0,1),(1,1)]:=by kernel_rfl
theorem qrc:qcN Tryz.prog 111 = some [(0,1),(1,1)]:=by kernel_rfl
theorem qnf:qcN Tryz.prog 114 = some [(0,1),(1,1),(2,1)]:=by kernel_rfl
theorem qq0:qcN Tryz.prog 118 = some [(0,1),(1,1),(2,1)]:=by kernel_rfl
theorem qqZ:qcN Tryz.prog 124 = some [(0,1),(1,1),(2,1),(3,1),(4,1)]:=by kernel_rfl
theorem qcO:qcN Tryz.prog 138 = some [(0,1),(1,1),(2,1),(3,1),(4,1)]:=by kernel_rfl
theorem qq1:qcN Tryz.prog 154 = some [(0,1),(1,1),(2,1),(3,1),(4,1)]:=by kernel_rfl
theorem qg7:qcN Tryz.prog 157 = some [(0,1),(1,1)]:=by kernel_rfl
theorem qf4:qcN Tryz.prog 28 = some [(0,1),(1,1),(2,1)]:=by kernel_rfl
theorem qod:qcN Tryz.prog 53 = some [(0,1),(1,1),(2,1),(3,1),(4,1),(5,1),(6,1)]:=by kernel_rfl
theorem qdZ:SlT Tryz.prog 106 114 3:=SlT.of (by kernel_rfl)
theorem qcm:SlT Tryz.prog 112 138 5:=SlT.of (by kernel_rfl)
theorem qm6:SlT Tryz.prog 121 124 5:=SlT.of (by kernel_rfl)
theorem qbx:SlT Tryz.prog 136 157 2:=SlT.of (by kernel_rfl)
theorem qgX:SlT Tryz.prog 163 23 1:=SlT.of (by kernel_rfl)
theorem qfz:SlT Tryz.prog 22 66 3:=SlT.of (by kernel_rfl)
theorem qbl:SlT Tryz.prog 23 28 3:=SlT.of (by kernel_rfl)
theorem qbu:SlT Tryz.prog 39 108 2:=SlT.of (by kernel_rfl)
theorem qjW:SlT Tryz.prog 42 62 2:=SlT.of (by kernel_rfl)
theorem qgH:SlT Tryz.prog 44 53 7:=SlT.of (by kernel_rfl)
theorem qcQ:SlT Tryz.prog 51 58 2:=SlT.of (by kernel_rfl)
theorem qg8:SlT Tryz.prog 69 3 1:=SlT.of (by kernel_rfl)
theorem qsE:Tryz.prog.stoodInHeld 58 = false:=by kernel_rfl
theorem qmU:qbf Tryz.prog 108 = some [(vs ([])),(Value.slice none 0 0)]:=by kernel_rfl
theorem qde:qbf Tryz.prog 114 = some [(vs ([])),(Value.slice none 0 0),(vs ([]))]:=by kernel_rfl
theorem qmE:qbf Tryz.prog 124 = some [vi 0,vi 0,(vs ([])),(vs ([])),(vs ([]))]:=by kernel_rfl
theorem qbp:qbf Tryz.prog 138 = some [(vs ([])),(Value.slice none 0 0),vb false,vi 0,vi 0]:=by kernel_rfl
theorem qcw:qbf Tryz.prog 157 = some [(Value.int .u8 0),(Value.int .u8 0)]:=by kernel_rfl
theorem qhH:qbf Tryz.prog 23 = some [(Value.slice none 0 0)]:=by kernel_rfl
theorem qb9:qbf Tryz.prog 28 = some [(vs ([])),(vs ([])),vi 0]:=by kernel_rfl
theorem qj5:qbf Tryz.prog 53 = some [(vs ([])),(vs ([])),(vs ([])),(Value.slice none 0 0),(Value.slice none 0 0),vi 0,(Value.slice none 0 0)]:=by kernel_rfl
theorem qtT:qbf Tryz.prog 66 = some [(vs ([])),vi 0,vi 0]:=by kernel_rfl
def qcP:Ro (State):=fun m cs x M=>∃ c1,cs = [.string (bs x.Name),c1] ∧ x.Name.length ≤ LIMS ∧ ORow 114 3 qdC m c1 x.Rules M
theorem qoy:MonoO qcP:=⟨fun hm h=>by
 obtain ⟨c1,e,h0,h1⟩:=h
 exact ⟨c1,e,h0,h1.up qdO hm⟩⟩
theorem qkY:FrozO qcP qbA:=⟨fun h hle hf=>by
 obtain ⟨c1,e,h0,h1⟩:=h
 exact ⟨c1,e,h0,h1.froz qdO hle hf (by decide)⟩⟩
def qhh (u:World) (m0:Mem) (S:Segs) (r:Bool) (a:Act) (w:World):Prop :=
 Ok u m0 S w ∧ a.defers = [] ∧ RVs Tryz.prog a w [.t 4 (.bool r)]
theorem qmm (N:Nat) (vcalls_0:Value) (calls_0:List (Call)) (hcalls_0:(pL 3 qdd) m0 [vcalls_0] calls_0) (vfiles_1:Value) (files_1:List (File)) (hfiles_1:(pL 2 qef) m0 [vfiles_1] files_1) {r:Bool} (hF:qfJ N calls_0 files_1 = some r) (hG:Glob u) (ok:Ok u m0 S w) :
  Calls Tryz.prog 9 [vcalls_0,vfiles_1].toArray w fun e w'=>(e = .returned (.bool r) ∧ Ok u m0 S w'):=by
 unfold qfJ at hF
 refine en (qhh u m0 S) r Tryz.func9 rfl rfl rfl (fun _ _ h=>ra h rfl) fun fin a E=>sg<|aw E rfl fun a E=>wp_seq<|sg<|aw E rfl fun a E=>wp_block<|bd hF fun o2 hL hF=>qax _ (fun (s:Int) a w=>Ok u m0 (S) w ∧ Env 50 a [(0,vcalls_0),(1,vfiles_1),(5,vi s)] ∧ InR .i64 s) (fun (b:(Unit ⊕ Bool)) e a w=>(Sum.elim (fun b53=>e = (.exit 0) ∧ Ok u m0 (S) w ∧ Env 50 a [(0,vcalls_0),(1,vfiles_1)]) (fun b54=>e = .ret ∧ qhh u m0 S b54 a w)) b) ?_ ?_ N _ a w hL ⟨ok,E.keep [0,1,5],(ir 0)⟩
 ·as_aux_lemma =>
   rintro v4 a w r ⟨ok,E,r5⟩ hF
   replace hF:qdp N files_1 v4 = some r:=hF
   unfold qdp at hF
   refine wp_seq<|sg<|mz E rfl rfl fun a E=>lv E ok (qau qjW hfiles_1 rfl) fun a E=>lw E (qat rfl rfl) fun a E=>wn<|cg E rfl hF (fun c6 hF=>?_) fun c6 hF=>?_
   ·refine wp_exit<|qap ?_
    cases hF
    exact so (sl ⟨rfl,⟨ok,E.keep [0,1]⟩⟩)
   refine wp_skip<|qaa<|wp_seq<|wp_block<|sg<|mz E rfl rfl fun a E=>?_
   obtain ⟨x7,e8,hF⟩:=bnd hF
   obtain ⟨b9,o10,es11,hl12,rr13,at14,yy15⟩:=ia E 13 14 qjW hfiles_1 e8
   obtain ⟨rfl,l16,l17⟩:=rr13
   refine lv E ok (yy15 _ _) fun a E=>fv E qqI rfl fun a E=>lv E ok (qah qal rfl (qac.ro (At.sub 1 1 at14))) fun a E=>lw E (qaA Tryz.underlying9 rfl) fun a E=>lw E (qbN rfl rfl) fun a E=>mv E rfl fun a E=>bu E 20 hF (fun c18 hF E=>?_) fun c18 hF E=>?_
   ·refine lsz E fun a E=>lsq E fun a E=>ls E fun a E=>pt E rfl rfl fun a E=>wn<|c_if E rfl (fun _=>?_) (fun h=>by cases h)
    refine sg<|aw E rfl fun a E=>wp_ret<|qag<|qae ?_
    cases hF
    exact so (sr ⟨rfl,⟨ok,E.d,rz E rfl⟩⟩)
   refine mz E rfl rfl fun a E=>?_
   obtain ⟨x19,e20,hF⟩:=bnd hF
   obtain ⟨b21,o22,es23,hl24,rr25,at26,yy27⟩:=ia E 21 22 qjW hfiles_1 e20
   obtain ⟨rfl,l28,l29⟩:=rr25
   refine lv E ok (yy27 _ _) fun a E=>fv E qun rfl fun a E=>lv E ok (qah qal rfl (qac.ro (At.sub 0 1 at26))) fun a E=>lw E (qaA Tryz.underlying9 rfl) fun a E=>lw E (qbN rfl rfl) fun a E=>pf E rfl rfl fun a E=>wn<|cg E rfl hF (fun c30 hF=>?_) fun c30 hF=>?_
   ·refine wp_skip<|qaf<|qaa<|qab<|mv E rfl fun a E=>lw E (qar rfl rfl (InR.inc r5 (qaj hfiles_1) c6)) fun a E=>av E rfl fun a E=>wpList_nil ?_
    cases hF
    exact qan ⟨ok,E.keep [0,1,5],(InR.inc r5 (qaj hfiles_1) c6)⟩
   refine sg<|aw E rfl fun a E=>wp_ret<|qag<|qae ?_
   cases hF
   exact so (sr ⟨rfl,⟨ok,E.d,rz E rfl⟩⟩)
 intro e a w _ hO
 rcases o2 with o2 | o2
 rotate_left
 ·obtain ⟨rfl,hret⟩:=hO
  refine qag<|qae ?_
  exact fin hF hret
 have hF:=qaX hF
 obtain ⟨rfl,ok,E⟩:=hO
 refine qaz<|qaa<|wp_seq<|sg<|aw E rfl fun a E=>wp_block<|bd hF fun o32 hL hF=>qax _ (fun (s:Int) a w=>Ok u m0 (S) w ∧ Env 50 a [(0,vcalls_0),(1,vfiles_1),(6,vi s)] ∧ InR .i64 s) (fun (b:(Unit ⊕ Bool)) e a w=>(Sum.elim (fun b51=>e = (.exit 2) ∧ Ok u m0 (S) w ∧ Env 50 a [(0,vcalls_0),(1,vfiles_1)]) (fun b52=>e = .ret ∧ qhh u m0 S b52 a w)) b) ?_ ?_ N _ a w hL ⟨ok,E.keep [0,1,6],(ir 0)⟩
 rotate_left
 ·intro e a w _ hO
  rcases o32 with o32 | o32
  rotate_left
  ·obtain ⟨rfl,hret⟩:=hO
   refine qag<|qae ?_
   exact fin hF hret
  have hF:=qaX hF
  obtain ⟨rfl,ok,E⟩:=hO
  refine qaz<|qaa<|sg<|mv E rfl fun a E=>lv E ok (qau qfz hcalls_0 rfl) fun a E=>lw E (qb2 rfl rfl) fun a E=>mv E rfl fun a E=>bu E 45 hF (fun c50 hF E=>?_) fun c50 hF E=>?_
  ·refine mv E rfl fun a E=>lv E ok (qau qjW hfiles_1 rfl) fun a E=>lw E (qb2 rfl rfl) fun a E=>pt E rfl rfl fun a E=>aw E rfl fun a E=>wp_ret ?_
   exact fin hF ⟨ok,E.d,rz E rfl⟩
  refine lsq E fun a E=>ls E fun a E=>pf E rfl rfl fun a E=>aw E rfl fun a E=>wp_ret ?_
  exact fin hF ⟨ok,E.d,rz E rfl⟩
 rintro v34 a w r ⟨ok,E,r35⟩ hF
 replace hF:qdi N calls_0 v34 = some r:=hF
 unfold qdi at hF
 refine wp_seq<|sg<|mz E rfl rfl fun a E=>lv E ok (qau qfz hcalls_0 rfl) fun a E=>lw E (qat rfl rfl) fun a E=>wn<|cg E rfl hF (fun c36 hF=>?_) fun c36 hF=>?_
 ·refine wp_exit<|qap ?_
  cases hF
  exact so (sl ⟨rfl,⟨ok,E.keep [0,1]⟩⟩)
 refine wp_skip<|qaa<|wp_seq<|wp_block<|sg<|mz E rfl rfl fun a E=>?_
 obtain ⟨x37,e38,hF⟩:=bnd hF
 obtain ⟨b39,o40,es41,hl42,rr43,at44,yy45⟩:=ia E 35 36 qfz hcalls_0 e38
 obtain ⟨rfl,l46,r47,r48⟩:=rr43
 refine lv E ok (yy45 _ _) fun a E=>fv E qid rfl fun a E=>lv E ok (qah qal rfl (qac.ro (At.sub 0 1 at44))) fun a E=>lw E (qaA Tryz.underlying9 rfl) fun a E=>lw E (qbN rfl rfl) fun a E=>wn<|cg E rfl hF (fun c49 hF=>?_) fun c49 hF=>?_
 ·refine wp_skip<|qaf<|qaa<|qab<|mv E rfl fun a E=>lw E (qar rfl rfl (InR.inc r35 (qaj hcalls_0) c36)) fun a E=>av E rfl fun a E=>wpList_nil ?_
  cases hF
  exact qan ⟨ok,E.keep [0,1,6],(InR.inc r35 (qaj hcalls_0) c36)⟩
 refine sg<|aw E rfl fun a E=>wp_ret<|qag<|qae ?_
 cases hF
 exact so (sr ⟨rfl,⟨ok,E.d,rz E rfl⟩⟩)
def qfc (u:World) (m0:Mem) (S:Segs) (r:Bool) (a:Act) (w:World):Prop :=
 Ok u m0 S w ∧ a.defers = [] ∧ RVs Tryz.prog a w [.t 2 (.bool r)]
theorem qld (N:Nat) (vcalls_0:Value) (calls_0:List (Call)) (hcalls_0:(pL 3 qdd) m0 [vcalls_0] calls_0) {r:Bool} (hF:qeH N calls_0 = some r) (hG:Glob u) (ok:Ok u m0 S w) :
  Calls Tryz.prog 14 [vcalls_0].toArray w fun e w'=>(e = .returned (.bool r) ∧ Ok u m0 S w'):=by
 unfold qeH at hF
 refine en (qfc u m0 S) r Tryz.func14 rfl rfl rfl (fun _ _ h=>ra h rfl) fun fin a E=>sg<|aw E rfl fun a E=>wp_seq<|sg<|aw E rfl fun a E=>wp_block<|bd hF fun o2 hL hF=>qax _ (fun (s:Int) a w=>Ok u m0 (S) w ∧ Env 65 a [(0,vcalls_0),(3,vi s)] ∧ InR .i64 s) (fun (b:(Unit ⊕ Bool)) e a w=>(Sum.elim (fun b69=>e = (.exit 0) ∧ Ok u m0 (S) w ∧ Env 65 a [(0,vcalls_0)]) (fun b70=>e = .ret ∧ qfc u m0 S b70 a w)) b) ?_ ?_ N _ a w hL ⟨ok,E.keep [0,3],(ir 0)⟩
 rotate_left
 ·intro e a w _ hO
  rcases o2 with o2 | o2
  rotate_left
  ·obtain ⟨rfl,hret⟩:=hO
   refine qag<|qae ?_
   exact fin hF hret
  have hF:=qaX hF
  obtain ⟨rfl,ok,E⟩:=hO
  refine qaz<|qaa<|sg<|mv E rfl fun a E=>lv E ok (qau qfz hcalls_0 rfl) fun a E=>lw E (qb2 rfl rfl) fun a E=>av E rfl fun a E=>wn<|wp_ret ?_
  exact fin hF ⟨ok,E.d,rz E rfl⟩
 rintro v4 a w r ⟨ok,E,r5⟩ hF
 replace hF:qci N calls_0 v4 = some r:=hF
 unfold qci at hF
 refine wp_seq<|sg<|mz E rfl rfl fun a E=>lv E ok (qau qfz hcalls_0 rfl) fun a E=>lw E (qat rfl rfl) fun a E=>wn<|cg E rfl hF (fun c6 hF=>?_) fun c6 hF=>?_
 ·refine wp_exit<|qap ?_
  cases hF
  exact so (sl ⟨rfl,⟨ok,E.keep [0]⟩⟩)
 refine wp_skip<|qaa<|wp_seq<|wp_block<|sg<|mz E rfl rfl fun a E=>?_
 obtain ⟨x7,e8,hF⟩:=bnd hF
 obtain ⟨b9,o10,es11,hl12,rr13,at14,yy15⟩:=ia E 12 13 qfz hcalls_0 e8
 obtain ⟨rfl,l16,r17,r18⟩:=rr13
 refine lv E ok (yy15 _ _) fun a E=>lv E ok (qam (cs:=[vs x7.Name,vi x7.ID,vi x7.Source]) qse rfl rfl (qac.ro at14)) fun a E=>qaM E ok qtT rfl rfl fun b19 a w E ok=>qai E ok 0 rfl rfl rfl qu6 rfl rfl ⟨rfl,rfl,rfl,trivial⟩ rfl rfl fun w ok=>wn<|wp_seq<|sg<|fk E ok qid qal rfl 0 rfl rfl fun a E=>lw E (qaG rfl rfl) fun a E=>mv E rfl fun a E=>bu E 19 hF (fun c20 hF E=>?_) fun c20 hF E=>?_
 ·refine lsq E fun a E=>ls E fun a E=>pt E rfl rfl fun a E=>mv E rfl fun a E=>lsq E fun a E=>ls E fun a E=>pt E rfl rfl fun a E=>mv E rfl fun a E=>lsq E fun a E=>ls E fun a E=>pt E rfl rfl fun a E=>mv E rfl fun a E=>lsq E fun a E=>ls E fun a E=>pt E rfl rfl fun a E=>mv E rfl fun a E=>lsz E fun a E=>?_
  refine lsz E fun a E=>pt E rfl rfl fun a E=>wn<|c_if E rfl (fun _=>?_) (fun h=>by cases h)
  refine sg<|aw E rfl fun a E=>wp_ret<|qae<|qag<|qae ?_
  cases hF
  exact so (sr ⟨rfl,⟨ok.drop,E.d,rz E rfl⟩⟩)
 refine fk E ok qks qaJ rfl 0 rfl rfl fun a E=>lw E (qat rfl rfl) fun a E=>pf E rfl rfl fun a E=>mv E rfl fun a E=>bu E 24 hF (fun c21 hF E=>?_) fun c21 hF E=>?_
 ·refine lsq E fun a E=>ls E fun a E=>pt E rfl rfl fun a E=>mv E rfl fun a E=>lsq E fun a E=>ls E fun a E=>pt E rfl rfl fun a E=>mv E rfl fun a E=>lsq E fun a E=>ls E fun a E=>pt E rfl rfl fun a E=>mv E rfl fun a E=>lsz E fun a E=>lsz E fun a E=>pt E rfl rfl fun a E=>?_
  refine wn<|c_if E rfl (fun _=>?_) (fun h=>by cases h)
  refine sg<|aw E rfl fun a E=>wp_ret<|qae<|qag<|qae ?_
  cases hF
  exact so (sr ⟨rfl,⟨ok.drop,E.d,rz E rfl⟩⟩)
 refine fk E ok qks qaJ rfl 0 rfl rfl fun a E=>lw E (qbN rfl rfl) fun a E=>pf E rfl rfl fun a E=>mv E rfl fun a E=>bu E 29 hF (fun c22 hF E=>?_) fun c22 hF E=>?_
 ·refine lsq E fun a E=>ls E fun a E=>pt E rfl rfl fun a E=>mv E rfl fun a E=>lsq E fun a E=>ls E fun a E=>pt E rfl rfl fun a E=>mv E rfl fun a E=>lsz E fun a E=>lsz E fun a E=>pt E rfl rfl fun a E=>wn<|c_if E rfl (fun _=>?_) (fun h=>by cases h)
  refine sg<|aw E rfl fun a E=>wp_ret<|qae<|qag<|qae ?_
  cases hF
  exact so (sr ⟨rfl,⟨ok.drop,E.d,rz E rfl⟩⟩)
 refine fk E ok qj6 qaJ rfl 0 rfl rfl fun a E=>lw E (qat rfl rfl) fun a E=>pf E rfl rfl fun a E=>mv E rfl fun a E=>bu E 34 hF (fun c23 hF E=>?_) fun c23 hF E=>?_
 ·refine lsq E fun a E=>ls E fun a E=>pt E rfl rfl fun a E=>mv E rfl fun a E=>lsz E fun a E=>lsz E fun a E=>pt E rfl rfl fun a E=>wn<|c_if E rfl (fun _=>?_) (fun h=>by cases h)
  refine sg<|aw E rfl fun a E=>wp_ret<|qae<|qag<|qae ?_
  cases hF
  exact so (sr ⟨rfl,⟨ok.drop,E.d,rz E rfl⟩⟩)
 refine fk E ok qj6 qaJ rfl 0 rfl rfl fun a E=>lw E (qbN rfl rfl) fun a E=>pf E rfl rfl fun a E=>mv E rfl fun a E=>bu E 39 hF (fun c24 hF E=>?_) fun c24 hF E=>?_
 ·refine lsz E fun a E=>lsz E fun a E=>pt E rfl rfl fun a E=>wn<|c_if E rfl (fun _=>?_) (fun h=>by cases h)
  refine sg<|aw E rfl fun a E=>wp_ret<|qae<|qag<|qae ?_
  cases hF
  exact so (sr ⟨rfl,⟨ok.drop,E.d,rz E rfl⟩⟩)
 refine fk E ok qks qaJ rfl 0 rfl rfl fun a E=>lw E (qa0 rfl rfl) fun a E=>mv E rfl fun a E=>bw E 43 hF (fun c25 hF E=>?_) fun c25 hF E=>?_
 ·as_aux_lemma =>
   refine lsq E fun a E=>ls E fun a E=>pf E rfl rfl fun a E=>pf E rfl rfl fun a E=>wn<|c_if E rfl (fun h=>by cases h) (fun _=>?_)
   refine wp_skip<|qaa<|sg<|aw E rfl fun a E=>wp_block<|bd hF fun o49 hL hF=>qax _ (fun (s:Int) a w=>Ok u m0 ([(b19,oc 66 [vs x7.Name,vi x7.ID,vi x7.Source])] :: S) w ∧ Env 65 a [(0,vcalls_0),(3,vi v4),(4,vp b19),(5,vi s)] ∧ InR .i64 s) (fun (b:(Unit ⊕ Bool)) e a w=>(Sum.elim (fun b67=>e = (.exit 2) ∧ Ok u m0 ([(b19,oc 66 [vs x7.Name,vi x7.ID,vi x7.Source])] :: S) w ∧ Env 65 a [(0,vcalls_0),(3,vi v4)]) (fun b68=>e = .ret ∧ qfc u m0 S b68 a w)) b) ?_ ?_ N _ a w hL ⟨ok,E.keep [0,3,4,5],(ir 0)⟩
   rotate_left
   ·intro e a w _ hO
    rcases o49 with o49 | o49
    rotate_left
    ·have hF:=qhk hF
     obtain ⟨rfl,hret⟩:=hO
     refine qag<|qag<|qae ?_
     cases hF
     exact so (sr ⟨rfl,hret⟩)
    have hF:=qaX hF
    obtain ⟨rfl,ok,E⟩:=hO
    refine qaz<|qaf<|qaa<|qab<|mv E rfl fun a E=>lw E (qar rfl rfl (InR.inc r5 (qaj hcalls_0) c6)) fun a E=>av E rfl fun a E=>wpList_nil ?_
    cases hF
    exact qan ⟨(ok.pk 1 [] rfl (by decide)),E.keep [0,3],(InR.inc r5 (qaj hcalls_0) c6)⟩
   rintro v51 a w r ⟨ok,E,r52⟩ hF
   replace hF:qeN N calls_0 v4 x7 v51 = some r:=hF
   unfold qeN at hF
   refine wp_seq<|sg<|mz E rfl rfl fun a E=>lw E (qat rfl rfl) fun a E=>wn<|cg E rfl hF (fun c53 hF=>?_) fun c53 hF=>?_
   ·refine wp_exit<|qap ?_
    cases hF
    exact so (sl ⟨rfl,⟨ok,E.keep [0,3]⟩⟩)
   refine wp_skip<|qaa<|wp_seq<|wp_block<|wp_seq<|qaY (by kernel_rfl) (by kernel_rfl) ok<|qv E (qad rfl) fun a E=>qv E (qad rfl) fun a E=>?_
   obtain ⟨x54,e55,hF⟩:=bnd hF
   obtain ⟨b56,o57,es58,hl59,rr60,at61,yy62⟩:=ia E 54 55 qfz hcalls_0 e55
   obtain ⟨rfl,l63,r64,r65⟩:=rr60
   refine qv E (yy62 _ _) fun a E=>qv E (qak qid rfl) fun a E=>qv E (qah qal rfl (qac.ro (At.sub 0 1 at61))) fun a E=>qv E (qak qid rfl) fun a E=>qv E (qah qal rfl (qac.own 0 rfl rfl)) fun a E=>qv E (qaG rfl rfl) fun a E=>wpQuiet_nil ?_
   intro w ok
   refine qaa<|cg E rfl hF (fun c66 hF=>?_) fun c66 hF=>?_
   ·refine wp_skip<|qaf<|qaa<|qab<|mv E rfl fun a E=>lw E (qar rfl rfl (InR.inc r52 r5 c53)) fun a E=>av E rfl fun a E=>wpList_nil ?_
    cases hF
    exact qan ⟨ok,E.keep [0,3,4,5],(InR.inc r52 r5 c53)⟩
   refine sg<|aw E rfl fun a E=>wp_ret<|qag<|qae ?_
   cases hF
   exact so (sr ⟨rfl,⟨ok.drop,E.d,rz E rfl⟩⟩)
 refine fk E ok qj6 qaJ rfl 0 rfl rfl fun a E=>lw E (qa0 rfl rfl) fun a E=>pt E rfl rfl fun a E=>pf E rfl rfl fun a E=>wn<|cf E rfl hF (fun c26 hF=>?_) fun c26 hF=>?_
 ·refine sg<|aw E rfl fun a E=>wp_ret<|qae<|qag<|qae ?_
  cases hF
  exact so (sr ⟨rfl,⟨ok.drop,E.d,rz E rfl⟩⟩)
 refine wp_skip<|qaa<|sg<|aw E rfl fun a E=>wp_block<|bd hF fun o28 hL hF=>qax _ (fun (s:Int) a w=>Ok u m0 ([(b19,oc 66 [vs x7.Name,vi x7.ID,vi x7.Source])] :: S) w ∧ Env 65 a [(0,vcalls_0),(3,vi v4),(4,vp b19),(5,vi s)] ∧ InR .i64 s) (fun (b:(Unit ⊕ Bool)) e a w=>(Sum.elim (fun b46=>e = (.exit 2) ∧ Ok u m0 ([(b19,oc 66 [vs x7.Name,vi x7.ID,vi x7.Source])] :: S) w ∧ Env 65 a [(0,vcalls_0),(3,vi v4)]) (fun b47=>e = .ret ∧ qfc u m0 S b47 a w)) b) ?_ ?_ N _ a w hL ⟨ok,E.keep [0,3,4,5],(ir 0)⟩
 rotate_left
 ·intro e a w _ hO
  rcases o28 with o28 | o28
  rotate_left
  ·have hF:=qhk hF
   obtain ⟨rfl,hret⟩:=hO
   refine qag<|qag<|qae ?_
   cases hF
   exact so (sr ⟨rfl,hret⟩)
  have hF:=qaX hF
  obtain ⟨rfl,ok,E⟩:=hO
  refine qaz<|qaf<|qaa<|qab<|mv E rfl fun a E=>lw E (qar rfl rfl (InR.inc r5 (qaj hcalls_0) c6)) fun a E=>av E rfl fun a E=>wpList_nil ?_
  cases hF
  exact qan ⟨(ok.pk 1 [] rfl (by decide)),E.keep [0,3],(InR.inc r5 (qaj hcalls_0) c6)⟩
 rintro v30 a w r ⟨ok,E,r31⟩ hF
 replace hF:qeM N calls_0 v4 x7 v30 = some r:=hF
 unfold qeM at hF
 refine wp_seq<|sg<|mz E rfl rfl fun a E=>lw E (qat rfl rfl) fun a E=>wn<|cg E rfl hF (fun c32 hF=>?_) fun c32 hF=>?_
 ·refine wp_exit<|qap ?_
  cases hF
  exact so (sl ⟨rfl,⟨ok,E.keep [0,3]⟩⟩)
 refine wp_skip<|qaa<|wp_seq<|wp_block<|wp_seq<|qaY (by kernel_rfl) (by kernel_rfl) ok<|qv E (qad rfl) fun a E=>qv E (qad rfl) fun a E=>?_
 obtain ⟨x33,e34,hF⟩:=bnd hF
 obtain ⟨b35,o36,es37,hl38,rr39,at40,yy41⟩:=ia E 54 55 qfz hcalls_0 e34
 obtain ⟨rfl,l42,r43,r44⟩:=rr39
 refine qv E (yy41 _ _) fun a E=>qv E (qak qid rfl) fun a E=>qv E (qah qal rfl (qac.ro (At.sub 0 1 at40))) fun a E=>qv E (qak qid rfl) fun a E=>qv E (qah qal rfl (qac.own 0 rfl rfl)) fun a E=>qv E (qaG rfl rfl) fun a E=>wpQuiet_nil ?_
 intro w ok
 refine qaa<|cg E rfl hF (fun c45 hF=>?_) fun c45 hF=>?_
 ·refine wp_skip<|qaf<|qaa<|qab<|mv E rfl fun a E=>lw E (qar rfl rfl (InR.inc r31 r5 c32)) fun a E=>av E rfl fun a E=>wpList_nil ?_
  cases hF
  exact qan ⟨ok,E.keep [0,3,4,5],(InR.inc r31 r5 c32)⟩
 refine sg<|aw E rfl fun a E=>wp_ret<|qag<|qae ?_
 cases hF
 exact so (sr ⟨rfl,⟨ok.drop,E.d,rz E rfl⟩⟩)
def qhD (u:World) (m0:Mem) (S:Segs) (r:(List UInt8) × Bool) (a:Act) (w:World):Prop :=
 Ok u m0 S w ∧ a.defers = [] ∧ RVs Tryz.prog a w [.t 2 (.string (bs r.1)),.t 3 (.bool r.2)] ∧ r.1.length ≤ LIMS
theorem qkw (N:Nat) (vl_0:Value) (l_0:List (Token)) (hl_0:(pL 3 qaE) m0 [vl_0] l_0) {r:(List UInt8) × Bool} (hF:qd4 N l_0 = some r) (hG:Glob u) (ok:Ok u m0 S w) :
  Calls Tryz.prog 11 [vl_0].toArray w fun e w'=>(e = .returned (.tuple [(.string (bs r.1)),(.bool r.2)].toArray) ∧ Ok u m0 S w') ∧ r.1.length ≤ LIMS:=by
 unfold qd4 at hF
 refine en (qhD u m0 S) r Tryz.func11 rfl rfl rfl (by rintro a w ⟨ok,hd,hrv,h0⟩; exact qbs [.t 2 (.string (bs r.1)),.t 3 (.bool r.2)] hd rfl hrv ⟨⟨rfl,ok⟩,h0⟩) fun fin a E=>sg<|av E rfl fun a E=>aw E rfl fun a E=>sg<|mv E rfl fun a E=>lv E ok (qau qbl hl_0 rfl) fun a E=>aw E rfl fun a E=>wp_seq<|sg<|mv E rfl fun a E=>lw E (qat rfl rfl) fun a E=>mv E rfl fun a E=>bu E 12 hF (fun c1 hF E=>?_) fun c1 hF E=>?_
 ·refine lsz E fun a E=>ls E fun a E=>pt E rfl rfl fun a E=>mv E rfl fun a E=>lsz E fun a E=>lsq E fun a E=>ls E fun a E=>pt E rfl rfl fun a E=>wn<|c_if E rfl (fun _=>?_) (fun h=>by cases h)
  refine sg<|av E rfl fun a E=>aw E rfl fun a E=>wp_ret<|qae ?_
  exact fin hF ⟨ok,E.d,⟨rv_t E rfl,rv_t E rfl,trivial⟩,(show ([]:List UInt8).length ≤ LIMS by decide)⟩
 refine mv E rfl fun a E=>?_
 obtain ⟨x2,e3,hF⟩:=bnd hF
 obtain ⟨b4,o5,es6,hl7,rr8,at9,yy10⟩:=qoV qbl hl_0 e3 (P:=Tryz.prog) (X:=.tmp 13) (I:=.const (vi 0)) (kd:=.i64) (qaC E rfl) (qaC E rfl)
 obtain ⟨rfl,l11,l12,r13⟩:=rr8
 refine lv E ok (yy10 _ _) fun a E=>fv E qdn rfl fun a E=>lv E ok (qah qal rfl (qac.ro (At.sub 0 1 at9))) fun a E=>lw E (qbn rfl rfl) fun a E=>pf E rfl rfl fun a E=>mv E rfl fun a E=>bu E 19 hF (fun c14 hF E=>?_) fun c14 hF E=>?_
 ·refine lsz E fun a E=>lsq E fun a E=>ls E fun a E=>pt E rfl rfl fun a E=>wn<|c_if E rfl (fun _=>?_) (fun h=>by cases h)
  refine sg<|av E rfl fun a E=>aw E rfl fun a E=>wp_ret<|qae ?_
  exact fin hF ⟨ok,E.d,⟨rv_t E rfl,rv_t E rfl,trivial⟩,(show ([]:List UInt8).length ≤ LIMS by decide)⟩
 refine mz E rfl rfl fun a E=>lw E (qbo rfl rfl) fun a E=>?_
 obtain ⟨x15,e16,hF⟩:=bnd hF
 obtain ⟨b17,o18,es19,hl20,rr21,at22,yy23⟩:=ia E 20 22 qbl hl_0 e16
 obtain ⟨rfl,l24,l25,r26⟩:=rr21
 refine lv E ok (yy23 _ _) fun a E=>fv E qdn rfl fun a E=>lv E ok (qah qal rfl (qac.ro (At.sub 0 1 at22))) fun a E=>lw E (qbn rfl rfl) fun a E=>pf E rfl rfl fun a E=>wn<|cf E rfl hF (fun c27 hF=>?_) fun c27 hF=>?_
 ·refine sg<|av E rfl fun a E=>aw E rfl fun a E=>wp_ret<|qae ?_
  exact fin hF ⟨ok,E.d,⟨rv_t E rfl,rv_t E rfl,trivial⟩,(show ([]:List UInt8).length ≤ LIMS by decide)⟩
 refine wp_skip<|qaa<|sg<|aw E rfl fun a E=>wp_seq<|sg<|aw E rfl fun a E=>wp_block<|bd hF fun o30 hL hF=>qax _ (fun (s:(List UInt8) × Int) a w=>Ok u m0 (S) w ∧ Env 91 a [(0,vl_0),(4,(vi (l_0.length:Int))),(5,vs s.1),(6,vi s.2)] ∧ s.1.length ≤ LIMS ∧ InR .i64 s.2) (fun (b:(((List UInt8)) ⊕ ((List UInt8) × Bool))) e a w=>(Sum.elim (fun b186=>e = (.exit 0) ∧ Ok u m0 (S) w ∧ Env 91 a [(5,vs b186)] ∧ b186.length ≤ LIMS) (fun b188=>e = .ret ∧ qhD u m0 S b188 a w)) b) ?_ ?_ N _ a w hL ⟨ok,E.keep [0,4,5,6],(show ([]:List UInt8).length ≤ LIMS by decide),(ir 1)⟩
 rotate_left
 ·intro e a w _ hO
  rcases o30 with o30 | o30
  rotate_left
  ·obtain ⟨rfl,hret⟩:=hO
   refine qag<|qae ?_
   exact fin hF hret
  have hF:=qaX hF
  obtain ⟨rfl,ok,E,l185⟩:=hO
  refine qaz<|qaa<|sg<|mv E rfl fun a E=>av E rfl fun a E=>av E rfl fun a E=>wn<|wp_ret ?_
  exact fin hF ⟨ok,E.d,⟨rv_t E rfl,rv_t E rfl,trivial⟩,l185⟩
 rintro ⟨v33,v34⟩ a w r ⟨ok,E,l35,r36⟩ hF
 replace hF:qb0 N l_0 v33 v34 = some r:=hF
 unfold qb0 at hF
 refine wp_seq<|sg<|mz E rfl rfl fun a E=>lw E (qbo rfl rfl) fun a E=>lw E (qat rfl rfl) fun a E=>wn<|cg E rfl hF (fun c37 hF=>?_) fun c37 hF=>?_
 ·refine wp_exit<|qap ?_
  cases hF
  exact so (sl ⟨rfl,⟨ok,E.keep [5],l35⟩⟩)
 refine wp_skip<|qaa<|wp_seq<|wp_block<|sg<|mz E rfl rfl fun a E=>?_
 obtain ⟨x38,e39,hF⟩:=bnd hF
 obtain ⟨b40,o41,es42,hl43,rr44,at45,yy46⟩:=ia E 34 35 qbl hl_0 e39
 obtain ⟨rfl,l47,l48,r49⟩:=rr44
 refine lv E ok (yy46 _ _) fun a E=>fv E qmd rfl fun a E=>lv E ok (qah qal rfl (qac.ro (At.sub 1 1 at45))) fun a E=>aw E rfl fun a E=>wp_block<|sg<|mz E rfl rfl fun a E=>?_
 obtain ⟨x50,e51,hF⟩:=bnd hF
 obtain ⟨b52,o53,es54,hl55,rr56,at57,yy58⟩:=ia E 40 41 qbl hl_0 e51
 obtain ⟨rfl,l59,l60,r61⟩:=rr56
 refine lv E ok (yy58 _ _) fun a E=>fv E qdn rfl fun a E=>lv E ok (qah qal rfl (qac.ro (At.sub 0 1 at57))) fun a E=>lw E (qaG rfl rfl) fun a E=>aw E rfl fun a E=>cf E rfl hF (fun c62 hF=>?_) fun c62 hF=>?_
 ·refine qab<|mz E rfl rfl fun a E=>bd hF fun s63 e64 hF=>lw E (qaL rfl rfl e64) fun a E=>av E rfl fun a E=>wpList_nil<|qaf<|qaf<|qaa<|qab<|mv E rfl fun a E=>lw E (qar rfl rfl (InR.inc r36 (InR.wrap _ _) c37)) fun a E=>av E rfl fun a E=>wpList_nil ?_
  cases hF
  exact qan ⟨ok,E.keep [0,4,5,6],(qaH e64),(InR.inc r36 (InR.wrap _ _) c37)⟩
 refine sg<|mz E rfl rfl fun a E=>?_
 obtain ⟨x65,e66,hF⟩:=bnd hF
 obtain ⟨b67,o68,es69,hl70,rr71,at72,yy73⟩:=ia E 50 51 qbl hl_0 e66
 obtain ⟨rfl,l74,l75,r76⟩:=rr71
 refine lv E ok (yy73 _ _) fun a E=>fv E qdn rfl fun a E=>lv E ok (qah qal rfl (qac.ro (At.sub 0 1 at72))) fun a E=>lw E (qaG rfl rfl) fun a E=>mv E rfl fun a E=>bw E 56 hF (fun c77 hF E=>?_) fun c77 hF E=>?_
 ·as_aux_lemma =>
   refine lsq E fun a E=>pf E rfl rfl fun a E=>aw E rfl fun a E=>c_if E rfl (fun h=>by cases h) (fun _=>?_)
   refine sg<|mz E rfl rfl fun a E=>?_
   obtain ⟨x133,e134,hF⟩:=bnd hF
   obtain ⟨b135,o136,es137,hl138,rr139,at140,yy141⟩:=ia E 63 64 qbl hl_0 e134
   obtain ⟨rfl,l142,l143,r144⟩:=rr139
   refine lv E ok (yy141 _ _) fun a E=>fv E qdn rfl fun a E=>lv E ok (qah qal rfl (qac.ro (At.sub 0 1 at140))) fun a E=>lw E (qaG rfl rfl) fun a E=>mv E rfl fun a E=>bw E 69 hF (fun c145 hF E=>?_) fun c145 hF E=>?_
   ·as_aux_lemma =>
     refine lsq E fun a E=>pf E rfl rfl fun a E=>aw E rfl fun a E=>c_if E rfl (fun h=>by cases h) (fun _=>?_)
     refine sg<|mz E rfl rfl fun a E=>?_
     obtain ⟨x167,e168,hF⟩:=bnd hF
     obtain ⟨b169,o170,es171,hl172,rr173,at174,yy175⟩:=ia E 76 77 qbl hl_0 e168
     obtain ⟨rfl,l176,l177,r178⟩:=rr173
     refine lv E ok (yy175 _ _) fun a E=>fv E qdn rfl fun a E=>lv E ok (qah qal rfl (qac.ro (At.sub 0 1 at174))) fun a E=>lw E (qaG rfl rfl) fun a E=>mv E rfl fun a E=>bw E 82 hF (fun c179 hF E=>?_) fun c179 hF E=>?_
     ·refine lsq E fun a E=>pf E rfl rfl fun a E=>aw E rfl fun a E=>c_if E rfl (fun h=>by cases h) (fun _=>?_)
      refine sg<|av E rfl fun a E=>aw E rfl fun a E=>wp_ret<|qag<|qag<|qae ?_
      cases hF
      exact so (sr ⟨rfl,⟨ok,E.d,⟨rv_t E rfl,rv_t E rfl,trivial⟩,(show ([]:List UInt8).length ≤ LIMS by decide)⟩⟩)
     refine mv E rfl fun a E=>lw E (qbn rfl rfl) fun a E=>pt E rfl rfl fun a E=>aw E rfl fun a E=>cg E rfl hF (fun c180 hF=>?_) fun c180 hF=>?_
     ·refine sg<|av E rfl fun a E=>aw E rfl fun a E=>wp_ret<|qag<|qag<|qae ?_
      cases hF
      exact so (sr ⟨rfl,⟨ok,E.d,⟨rv_t E rfl,rv_t E rfl,trivial⟩,(show ([]:List UInt8).length ≤ LIMS by decide)⟩⟩)
     refine qab<|mz E rfl rfl fun a E=>bd hF fun s181 e182 hF=>lw E (qaF Tryz.underlying9 e182 rfl ⟨_,rfl⟩ rfl) fun a E=>bd hF fun s183 e184 hF=>lw E (qaL rfl rfl e184) fun a E=>av E rfl fun a E=>wpList_nil<|qaf<|qaf<|qaa<|qab<|mv E rfl fun a E=>lw E (qar rfl rfl (InR.inc r36 (InR.wrap _ _) c37)) fun a E=>av E rfl fun a E=>wpList_nil ?_
     cases hF
     exact qan ⟨ok,E.keep [0,4,5,6],(qaH e184),(InR.inc r36 (InR.wrap _ _) c37)⟩
   refine mv E rfl fun a E=>lw E (qaG rfl rfl) fun a E=>pt E rfl rfl fun a E=>aw E rfl fun a E=>cf E rfl hF (fun c146 hF=>?_) fun c146 hF=>?_
   ·refine qab<|mv E rfl fun a E=>bd hF fun s147 e148 hF=>lw E (qaL rfl rfl e148) fun a E=>av E rfl fun a E=>wpList_nil<|qaf<|qaf<|qaa<|qab<|mv E rfl fun a E=>lw E (qar rfl rfl (InR.inc r36 (InR.wrap _ _) c37)) fun a E=>av E rfl fun a E=>wpList_nil ?_
    cases hF
    exact qan ⟨ok,E.keep [0,4,5,6],(qaH e148),(InR.inc r36 (InR.wrap _ _) c37)⟩
   refine sg<|mz E rfl rfl fun a E=>?_
   obtain ⟨x149,e150,hF⟩:=bnd hF
   obtain ⟨b151,o152,es153,hl154,rr155,at156,yy157⟩:=ia E 76 77 qbl hl_0 e150
   obtain ⟨rfl,l158,l159,r160⟩:=rr155
   refine lv E ok (yy157 _ _) fun a E=>fv E qdn rfl fun a E=>lv E ok (qah qal rfl (qac.ro (At.sub 0 1 at156))) fun a E=>lw E (qaG rfl rfl) fun a E=>mv E rfl fun a E=>bw E 82 hF (fun c161 hF E=>?_) fun c161 hF E=>?_
   ·refine lsq E fun a E=>pf E rfl rfl fun a E=>aw E rfl fun a E=>c_if E rfl (fun h=>by cases h) (fun _=>?_)
    refine sg<|av E rfl fun a E=>aw E rfl fun a E=>wp_ret<|qag<|qag<|qae ?_
    cases hF
    exact so (sr ⟨rfl,⟨ok,E.d,⟨rv_t E rfl,rv_t E rfl,trivial⟩,(show ([]:List UInt8).length ≤ LIMS by decide)⟩⟩)
   refine mv E rfl fun a E=>lw E (qbn rfl rfl) fun a E=>pt E rfl rfl fun a E=>aw E rfl fun a E=>cg E rfl hF (fun c162 hF=>?_) fun c162 hF=>?_
   ·refine sg<|av E rfl fun a E=>aw E rfl fun a E=>wp_ret<|qag<|qag<|qae ?_
    cases hF
    exact so (sr ⟨rfl,⟨ok,E.d,⟨rv_t E rfl,rv_t E rfl,trivial⟩,(show ([]:List UInt8).length ≤ LIMS by decide)⟩⟩)
   refine qab<|mz E rfl rfl fun a E=>bd hF fun s163 e164 hF=>lw E (qaF Tryz.underlying9 e164 rfl ⟨_,rfl⟩ rfl) fun a E=>bd hF fun s165 e166 hF=>lw E (qaL rfl rfl e166) fun a E=>av E rfl fun a E=>wpList_nil<|qaf<|qaf<|qaa<|qab<|mv E rfl fun a E=>lw E (qar rfl rfl (InR.inc r36 (InR.wrap _ _) c37)) fun a E=>av E rfl fun a E=>wpList_nil ?_
   cases hF
   exact qan ⟨ok,E.keep [0,4,5,6],(qaH e166),(InR.inc r36 (InR.wrap _ _) c37)⟩
 refine mv E rfl fun a E=>lw E (qaG rfl rfl) fun a E=>pt E rfl rfl fun a E=>aw E rfl fun a E=>cf E rfl hF (fun c78 hF=>?_) fun c78 hF=>?_
 ·refine qab<|mv E rfl fun a E=>bd hF fun s79 e80 hF=>lw E (qaL rfl rfl e80) fun a E=>av E rfl fun a E=>wpList_nil<|qaf<|qaf<|qaa<|qab<|mv E rfl fun a E=>lw E (qar rfl rfl (InR.inc r36 (InR.wrap _ _) c37)) fun a E=>av E rfl fun a E=>wpList_nil ?_
  cases hF
  exact qan ⟨ok,E.keep [0,4,5,6],(qaH e80),(InR.inc r36 (InR.wrap _ _) c37)⟩
 refine sg<|mz E rfl rfl fun a E=>?_
 obtain ⟨x81,e82,hF⟩:=bnd hF
 obtain ⟨b83,o84,es85,hl86,rr87,at88,yy89⟩:=ia E 63 64 qbl hl_0 e82
 obtain ⟨rfl,l90,l91,r92⟩:=rr87
 refine lv E ok (yy89 _ _) fun a E=>fv E qdn rfl fun a E=>lv E ok (qah qal rfl (qac.ro (At.sub 0 1 at88))) fun a E=>lw E (qaG rfl rfl) fun a E=>mv E rfl fun a E=>bw E 69 hF (fun c93 hF E=>?_) fun c93 hF E=>?_
 ·as_aux_lemma =>
   refine lsq E fun a E=>pf E rfl rfl fun a E=>aw E rfl fun a E=>c_if E rfl (fun h=>by cases h) (fun _=>?_)
   refine sg<|mz E rfl rfl fun a E=>?_
   obtain ⟨x115,e116,hF⟩:=bnd hF
   obtain ⟨b117,o118,es119,hl120,rr121,at122,yy123⟩:=ia E 76 77 qbl hl_0 e116
   obtain ⟨rfl,l124,l125,r126⟩:=rr121
   refine lv E ok (yy123 _ _) fun a E=>fv E qdn rfl fun a E=>lv E ok (qah qal rfl (qac.ro (At.sub 0 1 at122))) fun a E=>lw E (qaG rfl rfl) fun a E=>mv E rfl fun a E=>bw E 82 hF (fun c127 hF E=>?_) fun c127 hF E=>?_
   ·refine lsq E fun a E=>pf E rfl rfl fun a E=>aw E rfl fun a E=>c_if E rfl (fun h=>by cases h) (fun _=>?_)
    refine sg<|av E rfl fun a E=>aw E rfl fun a E=>wp_ret<|qag<|qag<|qae ?_
    cases hF
    exact so (sr ⟨rfl,⟨ok,E.d,⟨rv_t E rfl,rv_t E rfl,trivial⟩,(show ([]:List UInt8).length ≤ LIMS by decide)⟩⟩)
   refine mv E rfl fun a E=>lw E (qbn rfl rfl) fun a E=>pt E rfl rfl fun a E=>aw E rfl fun a E=>cg E rfl hF (fun c128 hF=>?_) fun c128 hF=>?_
   ·refine sg<|av E rfl fun a E=>aw E rfl fun a E=>wp_ret<|qag<|qag<|qae ?_
    cases hF
    exact so (sr ⟨rfl,⟨ok,E.d,⟨rv_t E rfl,rv_t E rfl,trivial⟩,(show ([]:List UInt8).length ≤ LIMS by decide)⟩⟩)
   refine qab<|mz E rfl rfl fun a E=>bd hF fun s129 e130 hF=>lw E (qaF Tryz.underlying9 e130 rfl ⟨_,rfl⟩ rfl) fun a E=>bd hF fun s131 e132 hF=>lw E (qaL rfl rfl e132) fun a E=>av E rfl fun a E=>wpList_nil<|qaf<|qaf<|qaa<|qab<|mv E rfl fun a E=>lw E (qar rfl rfl (InR.inc r36 (InR.wrap _ _) c37)) fun a E=>av E rfl fun a E=>wpList_nil ?_
   cases hF
   exact qan ⟨ok,E.keep [0,4,5,6],(qaH e132),(InR.inc r36 (InR.wrap _ _) c37)⟩
 refine mv E rfl fun a E=>lw E (qaG rfl rfl) fun a E=>pt E rfl rfl fun a E=>aw E rfl fun a E=>cf E rfl hF (fun c94 hF=>?_) fun c94 hF=>?_
 ·refine qab<|mv E rfl fun a E=>bd hF fun s95 e96 hF=>lw E (qaL rfl rfl e96) fun a E=>av E rfl fun a E=>wpList_nil<|qaf<|qaf<|qaa<|qab<|mv E rfl fun a E=>lw E (qar rfl rfl (InR.inc r36 (InR.wrap _ _) c37)) fun a E=>av E rfl fun a E=>wpList_nil ?_
  cases hF
  exact qan ⟨ok,E.keep [0,4,5,6],(qaH e96),(InR.inc r36 (InR.wrap _ _) c37)⟩
 refine sg<|mz E rfl rfl fun a E=>?_
 obtain ⟨x97,e98,hF⟩:=bnd hF
 obtain ⟨b99,o100,es101,hl102,rr103,at104,yy105⟩:=ia E 76 77 qbl hl_0 e98
 obtain ⟨rfl,l106,l107,r108⟩:=rr103
 refine lv E ok (yy105 _ _) fun a E=>fv E qdn rfl fun a E=>lv E ok (qah qal rfl (qac.ro (At.sub 0 1 at104))) fun a E=>lw E (qaG rfl rfl) fun a E=>mv E rfl fun a E=>bw E 82 hF (fun c109 hF E=>?_) fun c109 hF E=>?_
 ·refine lsq E fun a E=>pf E rfl rfl fun a E=>aw E rfl fun a E=>c_if E rfl (fun h=>by cases h) (fun _=>?_)
  refine sg<|av E rfl fun a E=>aw E rfl fun a E=>wp_ret<|qag<|qag<|qae ?_
  cases hF
  exact so (sr ⟨rfl,⟨ok,E.d,⟨rv_t E rfl,rv_t E rfl,trivial⟩,(show ([]:List UInt8).length ≤ LIMS by decide)⟩⟩)
 refine mv E rfl fun a E=>lw E (qbn rfl rfl) fun a E=>pt E rfl rfl fun a E=>aw E rfl fun a E=>cg E rfl hF (fun c110 hF=>?_) fun c110 hF=>?_
 ·refine sg<|av E rfl fun a E=>aw E rfl fun a E=>wp_ret<|qag<|qag<|qae ?_
  cases hF
  exact so (sr ⟨rfl,⟨ok,E.d,⟨rv_t E rfl,rv_t E rfl,trivial⟩,(show ([]:List UInt8).length ≤ LIMS by decide)⟩⟩)
 refine qab<|mz E rfl rfl fun a E=>bd hF fun s111 e112 hF=>lw E (qaF Tryz.underlying9 e112 rfl ⟨_,rfl⟩ rfl) fun a E=>bd hF fun s113 e114 hF=>lw E (qaL rfl rfl e114) fun a E=>av E rfl fun a E=>wpList_nil<|qaf<|qaf<|qaa<|qab<|mv E rfl fun a E=>lw E (qar rfl rfl (InR.inc r36 (InR.wrap _ _) c37)) fun a E=>av E rfl fun a E=>wpList_nil ?_
 cases hF
 exact qan ⟨ok,E.keep [0,4,5,6],(qaH e114),(InR.inc r36 (InR.wrap _ _) c37)⟩
def qiK (u:World) (m0:Mem) (S:Segs) (r:Bool) (a:Act) (w:World):Prop :=
 Ok u m0 S w ∧ a.defers = [] ∧ RVs Tryz.prog a w [.t 2 (.bool r)]
theorem qfq (N:Nat) (s_0:List UInt8) (ls_0:s_0.length ≤ LIMS) {r:Bool} (hF:qcI N s_0 = some r) (hG:Glob u) (ok:Ok u m0 S w) :
  Calls Tryz.prog 42 [vs s_0].toArray w fun e w'=>(e = .returned (.bool r) ∧ Ok u m0 S w'):=by
 unfold qcI at hF
 refine en (qiK u m0 S) r Tryz.func42 rfl rfl rfl (fun _ _ h=>ra h rfl) fun fin a E=>sg<|aw E rfl fun a E=>wp_seq<|sg<|aw E rfl fun a E=>wp_block<|bd hF fun o2 hL hF=>qax _ (fun (s:Int) a w=>Ok u m0 (S) w ∧ Env 28 a [(0,vs s_0),(3,vi s)] ∧ InR .i64 s) (fun (b:(Unit ⊕ Bool)) e a w=>(Sum.elim (fun b14=>e = (.exit 0) ∧ Ok u m0 (S) w ∧ Env 28 a [(0,vs s_0)]) (fun b15=>e = .ret ∧ qiK u m0 S b15 a w)) b) ?_ ?_ N _ a w hL ⟨ok,E.keep [0,3],(ir 0)⟩
 rotate_left
 ·intro e a w _ hO
  rcases o2 with o2 | o2
  rotate_left
  ·obtain ⟨rfl,hret⟩:=hO
   refine qag<|qae ?_
   exact fin hF hret
  have hF:=qaX hF
  obtain ⟨rfl,ok,E⟩:=hO
  refine qaz<|qaa<|sg<|mv E rfl fun a E=>lw E (qaA Tryz.underlying9 rfl) fun a E=>lw E (qa2 rfl rfl) fun a E=>mv E rfl fun a E=>bu E 23 hF (fun c13 hF E=>?_) fun c13 hF E=>?_
  ·refine mv E rfl fun a E=>lw E (qaA Tryz.underlying9 rfl) fun a E=>lw E (qb2 rfl rfl) fun a E=>pt E rfl rfl fun a E=>aw E rfl fun a E=>wp_ret ?_
   exact fin hF ⟨ok,E.d,rz E rfl⟩
  refine lsq E fun a E=>ls E fun a E=>pf E rfl rfl fun a E=>aw E rfl fun a E=>wp_ret ?_
  exact fin hF ⟨ok,E.d,rz E rfl⟩
 rintro v4 a w r ⟨ok,E,r5⟩ hF
 replace hF:qfd N s_0 v4 = some r:=hF
 unfold qfd at hF
 refine wp_seq<|sg<|mz E rfl rfl fun a E=>lw E (qaA Tryz.underlying9 rfl) fun a E=>lw E (qat rfl rfl) fun a E=>wn<|cg E rfl hF (fun c6 hF=>?_) fun c6 hF=>?_
 ·refine wp_exit<|qap ?_
  cases hF
  exact so (sl ⟨rfl,⟨ok,E.keep [0]⟩⟩)
 refine wp_skip<|qaa<|wp_seq<|wp_block<|sg<|mz E rfl rfl fun a E=>bd hF fun c7 e8 hF=>lv E ok (qaQ Tryz.underlying9 rfl rfl e8) fun a E=>lw E (qat rfl rfl) fun a E=>mv E rfl fun a E=>bu E 14 hF (fun c9 hF E=>?_) fun c9 hF E=>?_
 ·refine lsz E fun a E=>pt E rfl rfl fun a E=>wn<|c_if E rfl (fun _=>?_) (fun h=>by cases h)
  refine sg<|aw E rfl fun a E=>wp_ret<|qag<|qae ?_
  cases hF
  exact so (sr ⟨rfl,⟨ok,E.d,rz E rfl⟩⟩)
 refine mz E rfl rfl fun a E=>bd hF fun c10 e11 hF=>lv E ok (qaQ Tryz.underlying9 rfl rfl e11) fun a E=>lw E (qbN rfl rfl) fun a E=>pf E rfl rfl fun a E=>wn<|cg E rfl hF (fun c12 hF=>?_) fun c12 hF=>?_
 ·refine wp_skip<|qaf<|qaa<|qab<|mv E rfl fun a E=>lw E (qar rfl rfl (InR.inc r5 (InR.len ls_0) c6)) fun a E=>av E rfl fun a E=>wpList_nil ?_
  cases hF
  exact qan ⟨ok,E.keep [0,3],(InR.inc r5 (InR.len ls_0) c6)⟩
 refine sg<|aw E rfl fun a E=>wp_ret<|qag<|qae ?_
 cases hF
 exact so (sr ⟨rfl,⟨ok,E.d,rz E rfl⟩⟩)
def qh5 (u:World) (m0:Mem) (S:Segs) (r:Int) (a:Act) (w:World):Prop :=
 Ok u m0 S w ∧ a.defers = [] ∧ RVs Tryz.prog a w [.t 4 (.int .i64 r)] ∧ InR .i64 r
theorem qgy (N:Nat) (vs_0:Value) (s_0:List (State)) (hs_0:(pL 2 qbA) m0 [vs_0] s_0) (name_1:List UInt8) (lname_1:name_1.length ≤ LIMS) {r:Int} (hF:qcU N s_0 name_1 = some r) (hG:Glob u) (ok:Ok u m0 S w) :
  Calls Tryz.prog 60 [vs_0,vs name_1].toArray w fun e w'=>(e = .returned (.int .i64 r) ∧ Ok u m0 S w') ∧ InR .i64 r:=by
 unfold qcU at hF
 refine en (qh5 u m0 S) r Tryz.func60 rfl rfl rfl (fun _ _ h=>rb h rfl) fun fin a E=>sg<|aw E rfl fun a E=>wp_seq<|sg<|aw E rfl fun a E=>wp_block<|bd hF fun o2 hL hF=>qax _ (fun (s:Int) a w=>Ok u m0 (S) w ∧ Env 20 a [(0,vs_0),(1,vs name_1),(5,vi s)] ∧ InR .i64 s) (fun (b:(Unit ⊕ Int)) e a w=>(Sum.elim (fun b20=>e = (.exit 0) ∧ Ok u m0 (S) w ∧ Env 20 a []) (fun b21=>e = .ret ∧ qh5 u m0 S b21 a w)) b) ?_ ?_ N _ a w hL ⟨ok,E.keep [0,1,5],(ir 0)⟩
 rotate_left
 ·intro e a w _ hO
  rcases o2 with o2 | o2
  rotate_left
  ·obtain ⟨rfl,hret⟩:=hO
   refine qag<|qae ?_
   exact fin hF hret
  have hF:=qaX hF
  obtain ⟨rfl,ok,E⟩:=hO
  refine qaz<|qaa<|sg<|aw E rfl fun a E=>wp_ret ?_
  exact fin hF ⟨ok,E.d,rz E rfl,(ir (-1))⟩
 rintro v4 a w r ⟨ok,E,r5⟩ hF
 replace hF:qcK N s_0 name_1 v4 = some r:=hF
 unfold qcK at hF
 refine wp_seq<|sg<|mz E rfl rfl fun a E=>lv E ok (qau qbu hs_0 rfl) fun a E=>lw E (qat rfl rfl) fun a E=>wn<|cg E rfl hF (fun c6 hF=>?_) fun c6 hF=>?_
 ·refine wp_exit<|qap ?_
  cases hF
  exact so (sl ⟨rfl,⟨ok,E.keep []⟩⟩)
 refine wp_skip<|qaa<|wp_seq<|wp_block<|sg<|mz E rfl rfl fun a E=>?_
 obtain ⟨x7,e8,hF⟩:=bnd hF
 obtain ⟨b9,o10,es11,hl12,rr13,at14,yy15⟩:=ia E 12 13 qbu hs_0 e8
 obtain ⟨c17,rfl,l16,h18⟩:=rr13
 refine lv E ok (yy15 _ _) fun a E=>fv E qim rfl fun a E=>lv E ok (qah qal rfl (qac.ro (At.sub 0 1 at14))) fun a E=>mv E rfl fun a E=>lw E (qaG rfl rfl) fun a E=>wn<|cg E rfl hF (fun c19 hF=>?_) fun c19 hF=>?_
 ·refine wp_skip<|qaf<|qaa<|qab<|mv E rfl fun a E=>lw E (qar rfl rfl (InR.inc r5 (qaj hs_0) c6)) fun a E=>av E rfl fun a E=>wpList_nil ?_
  cases hF
  exact qan ⟨ok,E.keep [0,1,5],(InR.inc r5 (qaj hs_0) c6)⟩
 refine sg<|mv E rfl fun a E=>aw E rfl fun a E=>wp_ret<|qag<|qae ?_
 cases hF
 exact so (sr ⟨rfl,⟨ok,E.d,rz E rfl,r5⟩⟩)
def qgj (u:World) (m0:Mem) (S:Segs) (r:Bool) (a:Act) (w:World):Prop :=
 Ok u m0 S w ∧ a.defers = [] ∧ RVs Tryz.prog a w [.t 2 (.bool r)]
theorem qkF (N:Nat) (vx_0:List Value) (x_0:Item) (hx_0:qbt m0 vx_0 x_0) {r:Bool} (hF:qem N x_0 = some r) (hG:Glob u) (ok:Ok u m0 S w) :
  Calls Tryz.prog 85 [.agg vx_0.toArray].toArray w fun e w'=>(e = .returned (.bool r) ∧ Ok u m0 S w'):=by
 obtain ⟨c2,rfl,l1,h3,r4,r5⟩:=hx_0
 unfold qem at hF
 refine en (qgj u m0 S) r Tryz.func85 rfl rfl rfl (fun _ _ h=>ra h rfl) fun fin a E=>sg<|qcC E ok rfl rfl rfl fun b6 a w E ok=>aw E rfl fun a E=>wp_seq<|sg<|fk E ok qd7 qaJ rfl 0 rfl rfl fun a E=>lw E (qat rfl rfl) fun a E=>mv E rfl fun a E=>bu E 7 hF (fun c7 hF E=>?_) fun c7 hF E=>?_
 ·refine lsq E fun a E=>ls E fun a E=>pt E rfl rfl fun a E=>mv E rfl fun a E=>lsz E fun a E=>lsz E fun a E=>pt E rfl rfl fun a E=>wn<|c_if E rfl (fun _=>?_) (fun h=>by cases h)
  refine sg<|aw E rfl fun a E=>wp_ret<|qae ?_
  exact fin hF ⟨ok.drop,E.d,rz E rfl⟩
 refine fk E ok qd7 qaJ rfl 0 rfl rfl fun a E=>lw E (qbN rfl rfl) fun a E=>pf E rfl rfl fun a E=>mv E rfl fun a E=>bu E 12 hF (fun c8 hF E=>?_) fun c8 hF E=>?_
 ·refine lsz E fun a E=>lsz E fun a E=>pt E rfl rfl fun a E=>wn<|c_if E rfl (fun _=>?_) (fun h=>by cases h)
  refine sg<|aw E rfl fun a E=>wp_ret<|qae ?_
  exact fin hF ⟨ok.drop,E.d,rz E rfl⟩
 refine fk E ok qdI qaJ rfl 0 rfl rfl fun a E=>lw E (qcn rfl rfl) fun a E=>mv E rfl fun a E=>bw E 16 hF (fun c9 hF E=>?_) fun c9 hF E=>?_
 ·as_aux_lemma =>
   refine lsq E fun a E=>ls E fun a E=>pf E rfl rfl fun a E=>pf E rfl rfl fun a E=>wn<|c_if E rfl (fun h=>by cases h) (fun _=>?_)
   refine wp_skip<|qaa<|wp_seq<|sg<|fk E ok qbE qal rfl 0 rfl rfl fun a E=>lw E (qbn rfl rfl) fun a E=>wn<|cf E rfl hF (fun c46 hF=>?_) fun c46 hF=>?_
   ·refine sg<|fk E ok qbE qal rfl 0 rfl rfl fun a E=>lw E (qaA Tryz.underlying9 rfl) fun a E=>lw E (qb2 rfl rfl) fun a E=>mv E rfl fun a E=>bw E 29 hF (fun c47 hF E=>?_) fun c47 hF E=>?_
    ·refine lsz E fun a E=>pf E rfl rfl fun a E=>mv E rfl fun a E=>lsq E fun a E=>ls E fun a E=>pf E rfl rfl fun a E=>aw E rfl fun a E=>wp_ret<|qae ?_
     exact fin hF ⟨ok.drop,E.d,rz E rfl⟩
    refine fk E ok qa8 qbB rfl 0 rfl rfl fun a E=>lv E ok (qau qbx h3 rfl) fun a E=>lw E (qa0 rfl rfl) fun a E=>pt E rfl rfl fun a E=>mv E rfl fun a E=>bu E 35 hF (fun c48 hF E=>?_) fun c48 hF E=>?_
    ·refine fk E ok qhB qhb rfl 0 rfl rfl fun a E=>lw E (qbj rfl) fun a E=>pt E rfl rfl fun a E=>aw E rfl fun a E=>wp_ret<|qae ?_
     exact fin hF ⟨ok.drop,E.d,rz E rfl⟩
    refine lsq E fun a E=>ls E fun a E=>pf E rfl rfl fun a E=>aw E rfl fun a E=>wp_ret<|qae ?_
    exact fin hF ⟨ok.drop,E.d,rz E rfl⟩
   refine wp_skip<|qaa<|wp_seq<|sg<|aw E rfl fun a E=>wp_block<|bd hF fun o50 hL hF=>qax _ (fun (s:Int) a w=>Ok u m0 ([(b6,oc 138 [vs x_0.Text,c2,vb x_0.Not,vi x_0.Least,vi x_0.Most])] :: S) w ∧ Env 70 a [(1,vp b6),(3,vi s)] ∧ InR .i64 s) (fun (b:(Unit ⊕ Bool)) e a w=>(Sum.elim (fun b79=>e = (.exit 0) ∧ Ok u m0 ([(b6,oc 138 [vs x_0.Text,c2,vb x_0.Not,vi x_0.Least,vi x_0.Most])] :: S) w ∧ Env 70 a [(1,vp b6)]) (fun b80=>e = .ret ∧ qgj u m0 S b80 a w)) b) ?_ ?_ N _ a w hL ⟨ok,E.keep [1,3],(ir 0)⟩
   rotate_left
   ·intro e a w _ hO
    rcases o50 with o50 | o50
    rotate_left
    ·obtain ⟨rfl,hret⟩:=hO
     refine qag<|qae ?_
     exact fin hF hret
    have hF:=qaX hF
    obtain ⟨rfl,ok,E⟩:=hO
    refine qaz<|qaa<|sg<|fk E ok qa8 qbB rfl 0 rfl rfl fun a E=>lv E ok (qau qbx h3 rfl) fun a E=>lw E (qa2 rfl rfl) fun a E=>mv E rfl fun a E=>bu E 64 hF (fun c78 hF E=>?_) fun c78 hF E=>?_
    ·refine fk E ok qa8 qbB rfl 0 rfl rfl fun a E=>lv E ok (qau qbx h3 rfl) fun a E=>lw E (qb2 rfl rfl) fun a E=>pt E rfl rfl fun a E=>aw E rfl fun a E=>wp_ret ?_
     exact fin hF ⟨ok.drop,E.d,rz E rfl⟩
    refine lsz E fun a E=>pf E rfl rfl fun a E=>aw E rfl fun a E=>wp_ret ?_
    exact fin hF ⟨ok.drop,E.d,rz E rfl⟩
   rintro v52 a w r ⟨ok,E,r53⟩ hF
   replace hF:qdx N x_0 v52 = some r:=hF
   unfold qdx at hF
   refine wp_seq<|sg<|mv E rfl fun a E=>fk E ok qa8 qbB rfl 0 rfl rfl fun a E=>lv E ok (qau qbx h3 rfl) fun a E=>lw E (qat rfl rfl) fun a E=>wn<|cg E rfl hF (fun c54 hF=>?_) fun c54 hF=>?_
   ·refine wp_exit<|qap ?_
    cases hF
    exact so (sl ⟨rfl,⟨ok,E.keep [1]⟩⟩)
   refine wp_skip<|qaa<|wp_seq<|wp_block<|wp_seq<|qaY (by kernel_rfl) (by kernel_rfl) ok<|qv E (qak qa8 rfl) fun a E=>qv E (qah qbB rfl (qac.own 0 rfl rfl)) fun a E=>qv E (qad rfl) fun a E=>?_
   obtain ⟨x55,e56,hF⟩:=bnd hF
   obtain ⟨b57,o58,es59,hl60,rr61,at62,yy63⟩:=ia E 48 49 qbx h3 e56
   obtain ⟨rfl,r64,r65⟩:=rr61
   refine qv E (yy63 _ _) fun a E=>qv E (qak qjj rfl) fun a E=>qv E (qah qfa rfl (qac.ro (At.sub 0 1 at62))) fun a E=>qv E (qak qa8 rfl) fun a E=>qv E (qah qbB rfl (qac.own 0 rfl rfl)) fun a E=>qv E (qad rfl) fun a E=>?_
   obtain ⟨x66,e67,hF⟩:=bnd hF
   obtain ⟨b68,o69,es70,hl71,rr72,at73,yy74⟩:=ia E 54 55 qbx h3 e67
   obtain ⟨rfl,r75,r76⟩:=rr72
   refine qv E (yy74 _ _) fun a E=>qv E (qak qjm rfl) fun a E=>qv E (qah qfa rfl (qac.ro (At.sub 1 1 at73))) fun a E=>qv E (qbN rfl rfl) fun a E=>wpQuiet_nil ?_
   intro w ok
   refine qaa<|cg E rfl hF (fun c77 hF=>?_) fun c77 hF=>?_
   ·refine wp_skip<|qaf<|qaa<|qab<|mv E rfl fun a E=>lw E (qar rfl rfl (InR.inc r53 (qaj h3) c54)) fun a E=>av E rfl fun a E=>wpList_nil ?_
    cases hF
    exact qan ⟨ok,E.keep [1,3],(InR.inc r53 (qaj h3) c54)⟩
   refine sg<|aw E rfl fun a E=>wp_ret<|qag<|qae ?_
   cases hF
   exact so (sr ⟨rfl,⟨ok.drop,E.d,rz E rfl⟩⟩)
 refine fk E ok qdI qaJ rfl 0 rfl rfl fun a E=>lw E (qcn rfl rfl) fun a E=>pt E rfl rfl fun a E=>pf E rfl rfl fun a E=>wn<|cf E rfl hF (fun c10 hF=>?_) fun c10 hF=>?_
 ·refine sg<|aw E rfl fun a E=>wp_ret<|qae ?_
  exact fin hF ⟨ok.drop,E.d,rz E rfl⟩
 refine wp_skip<|qaa<|wp_seq<|sg<|fk E ok qbE qal rfl 0 rfl rfl fun a E=>lw E (qbn rfl rfl) fun a E=>wn<|cf E rfl hF (fun c11 hF=>?_) fun c11 hF=>?_
 ·refine sg<|fk E ok qbE qal rfl 0 rfl rfl fun a E=>lw E (qaA Tryz.underlying9 rfl) fun a E=>lw E (qb2 rfl rfl) fun a E=>mv E rfl fun a E=>bw E 29 hF (fun c12 hF E=>?_) fun c12 hF E=>?_
  ·refine lsz E fun a E=>pf E rfl rfl fun a E=>mv E rfl fun a E=>lsq E fun a E=>ls E fun a E=>pf E rfl rfl fun a E=>aw E rfl fun a E=>wp_ret<|qae ?_
   exact fin hF ⟨ok.drop,E.d,rz E rfl⟩
  refine fk E ok qa8 qbB rfl 0 rfl rfl fun a E=>lv E ok (qau qbx h3 rfl) fun a E=>lw E (qa0 rfl rfl) fun a E=>pt E rfl rfl fun a E=>mv E rfl fun a E=>bu E 35 hF (fun c13 hF E=>?_) fun c13 hF E=>?_
  ·refine fk E ok qhB qhb rfl 0 rfl rfl fun a E=>lw E (qbj rfl) fun a E=>pt E rfl rfl fun a E=>aw E rfl fun a E=>wp_ret<|qae ?_
   exact fin hF ⟨ok.drop,E.d,rz E rfl⟩
  refine lsq E fun a E=>ls E fun a E=>pf E rfl rfl fun a E=>aw E rfl fun a E=>wp_ret<|qae ?_
  exact fin hF ⟨ok.drop,E.d,rz E rfl⟩
 refine wp_skip<|qaa<|wp_seq<|sg<|aw E rfl fun a E=>wp_block<|bd hF fun o15 hL hF=>qax _ (fun (s:Int) a w=>Ok u m0 ([(b6,oc 138 [vs x_0.Text,c2,vb x_0.Not,vi x_0.Least,vi x_0.Most])] :: S) w ∧ Env 70 a [(1,vp b6),(3,vi s)] ∧ InR .i64 s) (fun (b:(Unit ⊕ Bool)) e a w=>(Sum.elim (fun b44=>e = (.exit 0) ∧ Ok u m0 ([(b6,oc 138 [vs x_0.Text,c2,vb x_0.Not,vi x_0.Least,vi x_0.Most])] :: S) w ∧ Env 70 a [(1,vp b6)]) (fun b45=>e = .ret ∧ qgj u m0 S b45 a w)) b) ?_ ?_ N _ a w hL ⟨ok,E.keep [1,3],(ir 0)⟩
 rotate_left
 ·intro e a w _ hO
  rcases o15 with o15 | o15
  rotate_left
  ·obtain ⟨rfl,hret⟩:=hO
   refine qag<|qae ?_
   exact fin hF hret
  have hF:=qaX hF
  obtain ⟨rfl,ok,E⟩:=hO
  refine qaz<|qaa<|sg<|fk E ok qa8 qbB rfl 0 rfl rfl fun a E=>lv E ok (qau qbx h3 rfl) fun a E=>lw E (qa2 rfl rfl) fun a E=>mv E rfl fun a E=>bu E 64 hF (fun c43 hF E=>?_) fun c43 hF E=>?_
  ·refine fk E ok qa8 qbB rfl 0 rfl rfl fun a E=>lv E ok (qau qbx h3 rfl) fun a E=>lw E (qb2 rfl rfl) fun a E=>pt E rfl rfl fun a E=>aw E rfl fun a E=>wp_ret ?_
   exact fin hF ⟨ok.drop,E.d,rz E rfl⟩
  refine lsz E fun a E=>pf E rfl rfl fun a E=>aw E rfl fun a E=>wp_ret ?_
  exact fin hF ⟨ok.drop,E.d,rz E rfl⟩
 rintro v17 a w r ⟨ok,E,r18⟩ hF
 replace hF:qdw N x_0 v17 = some r:=hF
 unfold qdw at hF
 refine wp_seq<|sg<|mv E rfl fun a E=>fk E ok qa8 qbB rfl 0 rfl rfl fun a E=>lv E ok (qau qbx h3 rfl) fun a E=>lw E (qat rfl rfl) fun a E=>wn<|cg E rfl hF (fun c19 hF=>?_) fun c19 hF=>?_
 ·refine wp_exit<|qap ?_
  cases hF
  exact so (sl ⟨rfl,⟨ok,E.keep [1]⟩⟩)
 refine wp_skip<|qaa<|wp_seq<|wp_block<|wp_seq<|qaY (by kernel_rfl) (by kernel_rfl) ok<|qv E (qak qa8 rfl) fun a E=>qv E (qah qbB rfl (qac.own 0 rfl rfl)) fun a E=>qv E (qad rfl) fun a E=>?_
 obtain ⟨x20,e21,hF⟩:=bnd hF
 obtain ⟨b22,o23,es24,hl25,rr26,at27,yy28⟩:=ia E 48 49 qbx h3 e21
 obtain ⟨rfl,r29,r30⟩:=rr26
 refine qv E (yy28 _ _) fun a E=>qv E (qak qjj rfl) fun a E=>qv E (qah qfa rfl (qac.ro (At.sub 0 1 at27))) fun a E=>qv E (qak qa8 rfl) fun a E=>qv E (qah qbB rfl (qac.own 0 rfl rfl)) fun a E=>qv E (qad rfl) fun a E=>?_
 obtain ⟨x31,e32,hF⟩:=bnd hF
 obtain ⟨b33,o34,es35,hl36,rr37,at38,yy39⟩:=ia E 54 55 qbx h3 e32
 obtain ⟨rfl,r40,r41⟩:=rr37
 refine qv E (yy39 _ _) fun a E=>qv E (qak qjm rfl) fun a E=>qv E (qah qfa rfl (qac.ro (At.sub 1 1 at38))) fun a E=>qv E (qbN rfl rfl) fun a E=>wpQuiet_nil ?_
 intro w ok
 refine qaa<|cg E rfl hF (fun c42 hF=>?_) fun c42 hF=>?_
 ·refine wp_skip<|qaf<|qaa<|qab<|mv E rfl fun a E=>lw E (qar rfl rfl (InR.inc r18 (qaj h3) c19)) fun a E=>av E rfl fun a E=>wpList_nil ?_
  cases hF
  exact qan ⟨ok,E.keep [1,3],(InR.inc r18 (qaj h3) c19)⟩
 refine sg<|aw E rfl fun a E=>wp_ret<|qag<|qae ?_
 cases hF
 exact so (sr ⟨rfl,⟨ok.drop,E.d,rz E rfl⟩⟩)
def qhW (u:World) (m0:Mem) (S:Segs) (r:Bool) (a:Act) (w:World):Prop :=
 Ok u m0 S w ∧ a.defers = [] ∧ RVs Tryz.prog a w [.t 2 (.bool r)]
theorem qge (N:Nat) (vr_0:List Value) (r_0:Rule) (hr_0:qdC m0 vr_0 r_0) {r:Bool} (hF:qdv N r_0 = some r) (hG:Glob u) (ok:Ok u m0 S w) :
  Calls Tryz.prog 61 [.agg vr_0.toArray].toArray w fun e w'=>(e = .returned (.bool r) ∧ Ok u m0 S w'):=by
 obtain ⟨c2,rfl,l1,h3,l4⟩:=hr_0
 unfold qdv at hF
 refine en (qhW u m0 S) r Tryz.func61 rfl rfl rfl (fun _ _ h=>ra h rfl) fun fin a E=>sg<|qcC E ok rfl rfl rfl fun b5 a w E ok=>aw E rfl fun a E=>wp_seq<|sg<|aw E rfl fun a E=>wp_block<|bd hF fun o7 hL hF=>qax _ (fun (s:Int) a w=>Ok u m0 ([(b5,oc 114 [vs r_0.Kind,c2,vs r_0.Next])] :: S) w ∧ Env 33 a [(1,vp b5),(3,vi s)] ∧ InR .i64 s) (fun (b:(Unit ⊕ Bool)) e a w=>(Sum.elim (fun b33=>e = (.exit 0) ∧ Ok u m0 ([(b5,oc 114 [vs r_0.Kind,c2,vs r_0.Next])] :: S) w ∧ Env 33 a [(1,vp b5)]) (fun b34=>e = .ret ∧ qhW u m0 S b34 a w)) b) ?_ ?_ N _ a w hL ⟨ok,E.keep [1,3],(ir 0)⟩
 ·rintro v9 a w r ⟨ok,E,r10⟩ hF
  replace hF:qb6 N r_0 v9 = some r:=hF
  unfold qb6 at hF
  refine wp_seq<|sg<|mv E rfl fun a E=>fk E ok qcv qea rfl 0 rfl rfl fun a E=>lv E ok (qau qcm h3 rfl) fun a E=>lw E (qat rfl rfl) fun a E=>wn<|cg E rfl hF (fun c11 hF=>?_) fun c11 hF=>?_
  ·refine wp_exit<|qap ?_
   cases hF
   exact so (sl ⟨rfl,⟨ok,E.keep [1]⟩⟩)
  refine wp_skip<|qaa<|wp_seq<|wp_block<|sg<|fk E ok qcv qea rfl 0 rfl rfl fun a E=>mv E rfl fun a E=>?_
  obtain ⟨x12,e13,hF⟩:=bnd hF
  obtain ⟨b14,o15,es16,hl17,rr18,at19,yy20⟩:=ia E 12 13 qcm h3 e13
  obtain ⟨c22,rfl,l21,h23,r24,r25⟩:=rr18
  refine lv E ok (yy20 _ _) fun a E=>lv E ok (qam (cs:=[vs x12.Text,c22,vb x12.Not,vi x12.Least,vi x12.Most]) qaU rfl rfl (qac.ro at19)) fun a E=>bd hF fun r26 e27 hF=>lc E qwQ rfl (qkF N _ x12 ⟨_,rfl,l21,h23,r24,r25⟩ e27 hG ok) fun w ok a E=>lw E (qbj rfl) fun a E=>wn<|cg E rfl hF (fun c28 hF=>?_) fun c28 hF=>?_
  ·refine wp_skip<|qaf<|qaa<|qab<|mv E rfl fun a E=>lw E (qar rfl rfl (InR.inc r10 (qaj h3) c11)) fun a E=>av E rfl fun a E=>wpList_nil ?_
   cases hF
   exact qan ⟨ok,E.keep [1,3],(InR.inc r10 (qaj h3) c11)⟩
  refine sg<|aw E rfl fun a E=>wp_ret<|qag<|qae ?_
  cases hF
  exact so (sr ⟨rfl,⟨ok.drop,E.d,rz E rfl⟩⟩)
 intro e a w _ hO
 rcases o7 with o7 | o7
 rotate_left
 ·obtain ⟨rfl,hret⟩:=hO
  refine qag<|qae ?_
  exact fin hF hret
 have hF:=qaX hF
 obtain ⟨rfl,ok,E⟩:=hO
 refine qaz<|qaa<|sg<|fk E ok qju qal rfl 0 rfl rfl fun a E=>bd hF fun r29 e30 hF=>lc E qoP rfl (qfq N r_0.Kind l1 e30 hG ok) fun w ok a E=>mv E rfl fun a E=>qc8 r29 (fun c31=>?_) (fun c31=>?_)
 rotate_left
 ·have hF:=qbV c31 hF
  have E:=E.upd 21 c31 rfl
  refine lsz E fun a E=>pf E rfl rfl fun a E=>mv E rfl fun a E=>lsz E fun a E=>pf E rfl rfl fun a E=>aw E rfl fun a E=>wp_ret ?_
  exact fin hF ⟨ok.drop,E.d,rz E rfl⟩
 have hF:=qbW c31 hF
 have E:=E.upd 21 c31 rfl
 refine fk E ok qcv qea rfl 0 rfl rfl fun a E=>lv E ok (qau qcm h3 rfl) fun a E=>lw E (qa2 rfl rfl) fun a E=>pt E rfl rfl fun a E=>mv E rfl fun a E=>bu E 27 hF (fun c32 hF E=>?_) fun c32 hF E=>?_
 ·refine fk E ok qcv qea rfl 0 rfl rfl fun a E=>lv E ok (qau qcm h3 rfl) fun a E=>lw E (qb2 rfl rfl) fun a E=>pt E rfl rfl fun a E=>aw E rfl fun a E=>wp_ret ?_
  exact fin hF ⟨ok.drop,E.d,rz E rfl⟩
 refine lsz E fun a E=>pf E rfl rfl fun a E=>aw E rfl fun a E=>wp_ret ?_
 exact fin hF ⟨ok.drop,E.d,rz E rfl⟩
def qmn (u:World) (m0:Mem) (S:Segs) (r:(List UInt8)) (a:Act) (w:World):Prop :=
 Ok u m0 S w ∧ a.defers = [] ∧ RVs Tryz.prog a w [.t 4 (.string (bs r))] ∧ r.length ≤ LIMS
theorem qhg (N:Nat) (c_0:Int) (rc_0:InR .u8 c_0) (brackets_1:Bool) {r:(List UInt8)} (hF:qcZ N c_0 brackets_1 = some r) (hG:Glob u) (ok:Ok u m0 S w) :
  Calls Tryz.prog 110 [Value.int .u8 c_0,vb brackets_1].toArray w fun e w'=>(e = .returned (.string (bs r)) ∧ Ok u m0 S w') ∧ r.length ≤ LIMS:=by
 unfold qcZ at hF
 refine en (qmn u m0 S) r Tryz.func110 rfl rfl rfl (fun _ _ h=>rb h rfl) fun fin a E=>sg<|aw E rfl fun a E=>sg<|aw E rfl fun a E=>sg<|mv E rfl fun a E=>lw E (qa0 rfl rfl) fun a E=>mv E rfl fun a E=>bu E 9 hF (fun c1 hF E=>?_) fun c1 hF E=>?_
 ·refine lsz E fun a E=>lsq E fun a E=>pt E rfl rfl fun a E=>mv E rfl fun a E=>lsz E fun a E=>lsz E fun a E=>lsz E fun a E=>lsz E fun a E=>?_
  refine ls E fun a E=>pt E rfl rfl fun a E=>aw E rfl fun a E=>wp_seq<|wp_block<|sg<|mv E rfl fun a E=>aw E rfl fun a E=>c_if E rfl (fun _=>?_) (fun h=>by cases h)
  refine sg<|mv E rfl fun a E=>lv E ok (qbS Tryz.underlying5 Tryz.underlying9 rfl) fun a E=>bd hF fun s2 e3 hF=>lw E (qaL rfl rfl e3) fun a E=>aw E rfl fun a E=>wp_ret<|qag<|qae ?_
  exact fin hF ⟨ok,E.d,rz E rfl,(qaH e3)⟩
 refine mv E rfl fun a E=>lw E (qbj rfl) fun a E=>mv E rfl fun a E=>bw E 12 hF (fun c4 hF E=>?_) fun c4 hF E=>?_
 ·as_aux_lemma =>
   refine lsq E fun a E=>pf E rfl rfl fun a E=>pf E rfl rfl fun a E=>mz E rfl rfl fun a E=>mv E rfl fun a E=>qc8 brackets_1 (fun c101=>?_) (fun c101=>?_)
   rotate_left
   ·as_aux_lemma =>
     have hF:=qbV c101 hF
     have E:=E.upd 19 c101 rfl
     refine lsz E fun a E=>lsz E fun a E=>lsz E fun a E=>lsq E fun a E=>pf E rfl rfl fun a E=>pf E rfl rfl fun a E=>aw E rfl fun a E=>wp_seq<|wp_block<|sg<|mv E rfl fun a E=>aw E rfl fun a E=>c_if E rfl (fun h=>by cases h) (fun _=>?_)
     refine sg<|mv E rfl fun a E=>lw E (qat rfl rfl) fun a E=>mv E rfl fun a E=>bu E 44 hF (fun c154 hF E=>?_) fun c154 hF E=>?_
     ·refine lsq E fun a E=>pt E rfl rfl fun a E=>mv E rfl fun a E=>lsz E fun a E=>ls E fun a E=>pt E rfl rfl fun a E=>aw E rfl fun a E=>c_if E rfl (fun _=>?_) (fun h=>by cases h)
      refine wp_seq<|qaY (by kernel_rfl) (by kernel_rfl) ok<|qv E (qad rfl) fun a E=>qv E (qad rfl) fun a E=>bd hF fun q155 e156 hF=>qv E (qdy rfl rfl e156) fun a E=>qv E (qad rfl) fun a E=>bd hF fun q157 e158 hF=>qv E (qdy rfl rfl e158) fun a E=>qv E (qav rfl rfl) fun a E=>bd hF fun s159 e160 hF=>qv E (qaF Tryz.underlying9 e160 rfl ⟨_,rfl⟩ ⟨_,rfl⟩) fun a E=>bd hF fun s161 e162 hF=>qv E (qaL rfl rfl e162) fun a E=>qv E (qad rfl) fun a E=>qv E (qad rfl) fun a E=>qv E (qcA .and (by decide) rfl rfl) fun a E=>qv E (qad rfl) fun a E=>qv E (qcA .and (by decide) rfl rfl) fun a E=>qv E (qav rfl rfl) fun a E=>bd hF fun s163 e164 hF=>qv E (qaF Tryz.underlying9 e164 rfl ⟨_,rfl⟩ ⟨_,rfl⟩) fun a E=>?_
      refine bd hF fun s165 e166 hF=>qv E (qaL rfl rfl e166) fun a E=>qv E (qaq rfl) fun a E=>wpQuiet_nil ?_
      intro w ok
      refine qaa<|wp_ret<|qag<|qae ?_
      exact fin hF ⟨ok,E.d,rz E rfl,(qaH e166)⟩
     refine mv E rfl fun a E=>lw E (qbN rfl rfl) fun a E=>pf E rfl rfl fun a E=>mv E rfl fun a E=>bu E 48 hF (fun c167 hF E=>?_) fun c167 hF E=>?_
     ·refine lsz E fun a E=>ls E fun a E=>pt E rfl rfl fun a E=>av E rfl fun a E=>wn<|c_if E rfl (fun _=>?_) (fun h=>by cases h)
      refine wp_seq<|qaY (by kernel_rfl) (by kernel_rfl) ok<|qv E (qad rfl) fun a E=>qv E (qad rfl) fun a E=>bd hF fun q168 e169 hF=>qv E (qdy rfl rfl e169) fun a E=>qv E (qad rfl) fun a E=>bd hF fun q170 e171 hF=>qv E (qdy rfl rfl e171) fun a E=>qv E (qav rfl rfl) fun a E=>bd hF fun s172 e173 hF=>qv E (qaF Tryz.underlying9 e173 rfl ⟨_,rfl⟩ ⟨_,rfl⟩) fun a E=>bd hF fun s174 e175 hF=>qv E (qaL rfl rfl e175) fun a E=>qv E (qad rfl) fun a E=>qv E (qad rfl) fun a E=>qv E (qcA .and (by decide) rfl rfl) fun a E=>qv E (qad rfl) fun a E=>qv E (qcA .and (by decide) rfl rfl) fun a E=>qv E (qav rfl rfl) fun a E=>bd hF fun s176 e177 hF=>qv E (qaF Tryz.underlying9 e177 rfl ⟨_,rfl⟩ ⟨_,rfl⟩) fun a E=>?_
      refine bd hF fun s178 e179 hF=>qv E (qaL rfl rfl e179) fun a E=>qv E (qaq rfl) fun a E=>wpQuiet_nil ?_
      intro w ok
      refine qaa<|wp_ret<|qag<|qae ?_
      exact fin hF ⟨ok,E.d,rz E rfl,(qaH e179)⟩
     refine mz E rfl rfl fun a E=>qc8 brackets_1 (fun c180=>?_) (fun c180=>?_)
     rotate_left
     ·have hF:=qbV c180 hF
      have E:=E.upd 50 c180 rfl
      refine lsq E fun a E=>pf E rfl rfl fun a E=>pf E rfl rfl fun a E=>aw E rfl fun a E=>c_if E rfl (fun h=>by cases h) (fun _=>?_)
      refine wp_skip<|qaf<|qaa<|sg<|mv E rfl fun a E=>lv E ok (qbS Tryz.underlying5 Tryz.underlying9 rfl) fun a E=>av E rfl fun a E=>wn<|wp_ret ?_
      exact fin hF ⟨ok,E.d,rz E rfl,(qcJ _)⟩
     have hF:=qbW c180 hF
     have E:=E.upd 50 c180 rfl
     refine mv E rfl fun a E=>lw E (qa0 rfl rfl) fun a E=>pt E rfl rfl fun a E=>pf E rfl rfl fun a E=>aw E rfl fun a E=>cg E rfl hF (fun c181 hF=>?_) fun c181 hF=>?_
     ·refine wp_skip<|qaf<|qaa<|sg<|mv E rfl fun a E=>lv E ok (qbS Tryz.underlying5 Tryz.underlying9 rfl) fun a E=>av E rfl fun a E=>wn<|wp_ret ?_
      exact fin hF ⟨ok,E.d,rz E rfl,(qcJ _)⟩
     refine wp_seq<|qaY (by kernel_rfl) (by kernel_rfl) ok<|qv E (qad rfl) fun a E=>qv E (qad rfl) fun a E=>bd hF fun q182 e183 hF=>qv E (qdy rfl rfl e183) fun a E=>qv E (qad rfl) fun a E=>bd hF fun q184 e185 hF=>qv E (qdy rfl rfl e185) fun a E=>qv E (qav rfl rfl) fun a E=>bd hF fun s186 e187 hF=>qv E (qaF Tryz.underlying9 e187 rfl ⟨_,rfl⟩ ⟨_,rfl⟩) fun a E=>bd hF fun s188 e189 hF=>qv E (qaL rfl rfl e189) fun a E=>qv E (qad rfl) fun a E=>qv E (qad rfl) fun a E=>qv E (qcA .and (by decide) rfl rfl) fun a E=>qv E (qad rfl) fun a E=>qv E (qcA .and (by decide) rfl rfl) fun a E=>qv E (qav rfl rfl) fun a E=>bd hF fun s190 e191 hF=>qv E (qaF Tryz.underlying9 e191 rfl ⟨_,rfl⟩ ⟨_,rfl⟩) fun a E=>?_
     refine bd hF fun s192 e193 hF=>qv E (qaL rfl rfl e193) fun a E=>qv E (qaq rfl) fun a E=>wpQuiet_nil ?_
     intro w ok
     refine qaa<|wp_ret<|qag<|qae ?_
     exact fin hF ⟨ok,E.d,rz E rfl,(qaH e193)⟩
   have hF:=qbW c101 hF
   have E:=E.upd 19 c101 rfl
   refine mv E rfl fun a E=>lw E (qa0 rfl rfl) fun a E=>mv E rfl fun a E=>bu E 22 hF (fun c102 hF E=>?_) fun c102 hF E=>?_
   ·refine lsq E fun a E=>pt E rfl rfl fun a E=>mv E rfl fun a E=>lsq E fun a E=>pt E rfl rfl fun a E=>mv E rfl fun a E=>lsq E fun a E=>pt E rfl rfl fun a E=>pt E rfl rfl fun a E=>pf E rfl rfl fun a E=>aw E rfl fun a E=>wp_seq<|wp_block<|sg<|mv E rfl fun a E=>aw E rfl fun a E=>c_if E rfl (fun _=>?_) (fun h=>by cases h)
    refine sg<|mv E rfl fun a E=>lv E ok (qbS Tryz.underlying5 Tryz.underlying9 rfl) fun a E=>bd hF fun s103 e104 hF=>lw E (qaL rfl rfl e104) fun a E=>aw E rfl fun a E=>wp_ret<|qag<|qae ?_
    exact fin hF ⟨ok,E.d,rz E rfl,(qaH e104)⟩
   refine mv E rfl fun a E=>lw E (qa0 rfl rfl) fun a E=>pf E rfl rfl fun a E=>mv E rfl fun a E=>bu E 26 hF (fun c105 hF E=>?_) fun c105 hF E=>?_
   ·refine lsq E fun a E=>pt E rfl rfl fun a E=>mv E rfl fun a E=>lsq E fun a E=>pt E rfl rfl fun a E=>pt E rfl rfl fun a E=>pf E rfl rfl fun a E=>aw E rfl fun a E=>wp_seq<|wp_block<|sg<|mv E rfl fun a E=>aw E rfl fun a E=>c_if E rfl (fun _=>?_) (fun h=>by cases h)
    refine sg<|mv E rfl fun a E=>lv E ok (qbS Tryz.underlying5 Tryz.underlying9 rfl) fun a E=>bd hF fun s106 e107 hF=>lw E (qaL rfl rfl e107) fun a E=>aw E rfl fun a E=>wp_ret<|qag<|qae ?_
    exact fin hF ⟨ok,E.d,rz E rfl,(qaH e107)⟩
   refine mv E rfl fun a E=>lw E (qa0 rfl rfl) fun a E=>pf E rfl rfl fun a E=>mv E rfl fun a E=>bu E 30 hF (fun c108 hF E=>?_) fun c108 hF E=>?_
   ·refine lsq E fun a E=>pt E rfl rfl fun a E=>pt E rfl rfl fun a E=>pf E rfl rfl fun a E=>aw E rfl fun a E=>wp_seq<|wp_block<|sg<|mv E rfl fun a E=>aw E rfl fun a E=>c_if E rfl (fun _=>?_) (fun h=>by cases h)
    refine sg<|mv E rfl fun a E=>lv E ok (qbS Tryz.underlying5 Tryz.underlying9 rfl) fun a E=>bd hF fun s109 e110 hF=>lw E (qaL rfl rfl e110) fun a E=>aw E rfl fun a E=>wp_ret<|qag<|qae ?_
    exact fin hF ⟨ok,E.d,rz E rfl,(qaH e110)⟩
   refine mv E rfl fun a E=>lw E (qa0 rfl rfl) fun a E=>pf E rfl rfl fun a E=>pt E rfl rfl fun a E=>pf E rfl rfl fun a E=>aw E rfl fun a E=>wp_seq<|wp_block<|sg<|mv E rfl fun a E=>aw E rfl fun a E=>cf E rfl hF (fun c111 hF=>?_) fun c111 hF=>?_
   ·refine sg<|mv E rfl fun a E=>lv E ok (qbS Tryz.underlying5 Tryz.underlying9 rfl) fun a E=>bd hF fun s112 e113 hF=>lw E (qaL rfl rfl e113) fun a E=>aw E rfl fun a E=>wp_ret<|qag<|qae ?_
    exact fin hF ⟨ok,E.d,rz E rfl,(qaH e113)⟩
   refine sg<|mv E rfl fun a E=>lw E (qat rfl rfl) fun a E=>mv E rfl fun a E=>bu E 44 hF (fun c114 hF E=>?_) fun c114 hF E=>?_
   ·refine lsq E fun a E=>pt E rfl rfl fun a E=>mv E rfl fun a E=>lsz E fun a E=>ls E fun a E=>pt E rfl rfl fun a E=>aw E rfl fun a E=>c_if E rfl (fun _=>?_) (fun h=>by cases h)
    refine wp_seq<|qaY (by kernel_rfl) (by kernel_rfl) ok<|qv E (qad rfl) fun a E=>qv E (qad rfl) fun a E=>bd hF fun q115 e116 hF=>qv E (qdy rfl rfl e116) fun a E=>qv E (qad rfl) fun a E=>bd hF fun q117 e118 hF=>qv E (qdy rfl rfl e118) fun a E=>qv E (qav rfl rfl) fun a E=>bd hF fun s119 e120 hF=>qv E (qaF Tryz.underlying9 e120 rfl ⟨_,rfl⟩ ⟨_,rfl⟩) fun a E=>bd hF fun s121 e122 hF=>qv E (qaL rfl rfl e122) fun a E=>qv E (qad rfl) fun a E=>qv E (qad rfl) fun a E=>qv E (qcA .and (by decide) rfl rfl) fun a E=>qv E (qad rfl) fun a E=>qv E (qcA .and (by decide) rfl rfl) fun a E=>qv E (qav rfl rfl) fun a E=>bd hF fun s123 e124 hF=>qv E (qaF Tryz.underlying9 e124 rfl ⟨_,rfl⟩ ⟨_,rfl⟩) fun a E=>?_
    refine bd hF fun s125 e126 hF=>qv E (qaL rfl rfl e126) fun a E=>qv E (qaq rfl) fun a E=>wpQuiet_nil ?_
    intro w ok
    refine qaa<|wp_ret<|qag<|qae ?_
    exact fin hF ⟨ok,E.d,rz E rfl,(qaH e126)⟩
   refine mv E rfl fun a E=>lw E (qbN rfl rfl) fun a E=>pf E rfl rfl fun a E=>mv E rfl fun a E=>bu E 48 hF (fun c127 hF E=>?_) fun c127 hF E=>?_
   ·refine lsz E fun a E=>ls E fun a E=>pt E rfl rfl fun a E=>av E rfl fun a E=>wn<|c_if E rfl (fun _=>?_) (fun h=>by cases h)
    refine wp_seq<|qaY (by kernel_rfl) (by kernel_rfl) ok<|qv E (qad rfl) fun a E=>qv E (qad rfl) fun a E=>bd hF fun q128 e129 hF=>qv E (qdy rfl rfl e129) fun a E=>qv E (qad rfl) fun a E=>bd hF fun q130 e131 hF=>qv E (qdy rfl rfl e131) fun a E=>qv E (qav rfl rfl) fun a E=>bd hF fun s132 e133 hF=>qv E (qaF Tryz.underlying9 e133 rfl ⟨_,rfl⟩ ⟨_,rfl⟩) fun a E=>bd hF fun s134 e135 hF=>qv E (qaL rfl rfl e135) fun a E=>qv E (qad rfl) fun a E=>qv E (qad rfl) fun a E=>qv E (qcA .and (by decide) rfl rfl) fun a E=>qv E (qad rfl) fun a E=>qv E (qcA .and (by decide) rfl rfl) fun a E=>qv E (qav rfl rfl) fun a E=>bd hF fun s136 e137 hF=>qv E (qaF Tryz.underlying9 e137 rfl ⟨_,rfl⟩ ⟨_,rfl⟩) fun a E=>?_
    refine bd hF fun s138 e139 hF=>qv E (qaL rfl rfl e139) fun a E=>qv E (qaq rfl) fun a E=>wpQuiet_nil ?_
    intro w ok
    refine qaa<|wp_ret<|qag<|qae ?_
    exact fin hF ⟨ok,E.d,rz E rfl,(qaH e139)⟩
   refine mz E rfl rfl fun a E=>qc8 brackets_1 (fun c140=>?_) (fun c140=>?_)
   rotate_left
   ·have hF:=qbV c140 hF
    have E:=E.upd 50 c140 rfl
    refine lsq E fun a E=>pf E rfl rfl fun a E=>pf E rfl rfl fun a E=>aw E rfl fun a E=>c_if E rfl (fun h=>by cases h) (fun _=>?_)
    refine wp_skip<|qaf<|qaa<|sg<|mv E rfl fun a E=>lv E ok (qbS Tryz.underlying5 Tryz.underlying9 rfl) fun a E=>av E rfl fun a E=>wn<|wp_ret ?_
    exact fin hF ⟨ok,E.d,rz E rfl,(qcJ _)⟩
   have hF:=qbW c140 hF
   have E:=E.upd 50 c140 rfl
   refine mv E rfl fun a E=>lw E (qa0 rfl rfl) fun a E=>pt E rfl rfl fun a E=>pf E rfl rfl fun a E=>aw E rfl fun a E=>cg E rfl hF (fun c141 hF=>?_) fun c141 hF=>?_
   ·refine wp_skip<|qaf<|qaa<|sg<|mv E rfl fun a E=>lv E ok (qbS Tryz.underlying5 Tryz.underlying9 rfl) fun a E=>av E rfl fun a E=>wn<|wp_ret ?_
    exact fin hF ⟨ok,E.d,rz E rfl,(qcJ _)⟩
   refine wp_seq<|qaY (by kernel_rfl) (by kernel_rfl) ok<|qv E (qad rfl) fun a E=>qv E (qad rfl) fun a E=>bd hF fun q142 e143 hF=>qv E (qdy rfl rfl e143) fun a E=>qv E (qad rfl) fun a E=>bd hF fun q144 e145 hF=>qv E (qdy rfl rfl e145) fun a E=>qv E (qav rfl rfl) fun a E=>bd hF fun s146 e147 hF=>qv E (qaF Tryz.underlying9 e147 rfl ⟨_,rfl⟩ ⟨_,rfl⟩) fun a E=>bd hF fun s148 e149 hF=>qv E (qaL rfl rfl e149) fun a E=>qv E (qad rfl) fun a E=>qv E (qad rfl) fun a E=>qv E (qcA .and (by decide) rfl rfl) fun a E=>qv E (qad rfl) fun a E=>qv E (qcA .and (by decide) rfl rfl) fun a E=>qv E (qav rfl rfl) fun a E=>bd hF fun s150 e151 hF=>qv E (qaF Tryz.underlying9 e151 rfl ⟨_,rfl⟩ ⟨_,rfl⟩) fun a E=>?_
   refine bd hF fun s152 e153 hF=>qv E (qaL rfl rfl e153) fun a E=>qv E (qaq rfl) fun a E=>wpQuiet_nil ?_
   intro w ok
   refine qaa<|wp_ret<|qag<|qae ?_
   exact fin hF ⟨ok,E.d,rz E rfl,(qaH e153)⟩
 refine mv E rfl fun a E=>lw E (qa0 rfl rfl) fun a E=>pt E rfl rfl fun a E=>pf E rfl rfl fun a E=>mv E rfl fun a E=>bu E 17 hF (fun c5 hF E=>?_) fun c5 hF E=>?_
 ·refine lsz E fun a E=>lsz E fun a E=>lsz E fun a E=>lsz E fun a E=>ls E fun a E=>pt E rfl rfl fun a E=>aw E rfl fun a E=>wp_seq<|wp_block<|sg<|mv E rfl fun a E=>aw E rfl fun a E=>c_if E rfl (fun _=>?_) (fun h=>by cases h)
  refine sg<|mv E rfl fun a E=>lv E ok (qbS Tryz.underlying5 Tryz.underlying9 rfl) fun a E=>bd hF fun s6 e7 hF=>lw E (qaL rfl rfl e7) fun a E=>aw E rfl fun a E=>wp_ret<|qag<|qae ?_
  exact fin hF ⟨ok,E.d,rz E rfl,(qaH e7)⟩
 refine mz E rfl rfl fun a E=>qc8 brackets_1 (fun c8=>?_) (fun c8=>?_)
 rotate_left
 ·as_aux_lemma =>
   have hF:=qbV c8 hF
   have E:=E.upd 19 c8 rfl
   refine lsz E fun a E=>lsz E fun a E=>lsz E fun a E=>lsq E fun a E=>pf E rfl rfl fun a E=>pf E rfl rfl fun a E=>aw E rfl fun a E=>wp_seq<|wp_block<|sg<|mv E rfl fun a E=>aw E rfl fun a E=>c_if E rfl (fun h=>by cases h) (fun _=>?_)
   refine sg<|mv E rfl fun a E=>lw E (qat rfl rfl) fun a E=>mv E rfl fun a E=>bu E 44 hF (fun c61 hF E=>?_) fun c61 hF E=>?_
   ·refine lsq E fun a E=>pt E rfl rfl fun a E=>mv E rfl fun a E=>lsz E fun a E=>ls E fun a E=>pt E rfl rfl fun a E=>aw E rfl fun a E=>c_if E rfl (fun _=>?_) (fun h=>by cases h)
    refine wp_seq<|qaY (by kernel_rfl) (by kernel_rfl) ok<|qv E (qad rfl) fun a E=>qv E (qad rfl) fun a E=>bd hF fun q62 e63 hF=>qv E (qdy rfl rfl e63) fun a E=>qv E (qad rfl) fun a E=>bd hF fun q64 e65 hF=>qv E (qdy rfl rfl e65) fun a E=>qv E (qav rfl rfl) fun a E=>bd hF fun s66 e67 hF=>qv E (qaF Tryz.underlying9 e67 rfl ⟨_,rfl⟩ ⟨_,rfl⟩) fun a E=>bd hF fun s68 e69 hF=>qv E (qaL rfl rfl e69) fun a E=>qv E (qad rfl) fun a E=>qv E (qad rfl) fun a E=>qv E (qcA .and (by decide) rfl rfl) fun a E=>qv E (qad rfl) fun a E=>qv E (qcA .and (by decide) rfl rfl) fun a E=>qv E (qav rfl rfl) fun a E=>bd hF fun s70 e71 hF=>qv E (qaF Tryz.underlying9 e71 rfl ⟨_,rfl⟩ ⟨_,rfl⟩) fun a E=>?_
    refine bd hF fun s72 e73 hF=>qv E (qaL rfl rfl e73) fun a E=>qv E (qaq rfl) fun a E=>wpQuiet_nil ?_
    intro w ok
    refine qaa<|wp_ret<|qag<|qae ?_
    exact fin hF ⟨ok,E.d,rz E rfl,(qaH e73)⟩
   refine mv E rfl fun a E=>lw E (qbN rfl rfl) fun a E=>pf E rfl rfl fun a E=>mv E rfl fun a E=>bu E 48 hF (fun c74 hF E=>?_) fun c74 hF E=>?_
   ·refine lsz E fun a E=>ls E fun a E=>pt E rfl rfl fun a E=>av E rfl fun a E=>wn<|c_if E rfl (fun _=>?_) (fun h=>by cases h)
    refine wp_seq<|qaY (by kernel_rfl) (by kernel_rfl) ok<|qv E (qad rfl) fun a E=>qv E (qad rfl) fun a E=>bd hF fun q75 e76 hF=>qv E (qdy rfl rfl e76) fun a E=>qv E (qad rfl) fun a E=>bd hF fun q77 e78 hF=>qv E (qdy rfl rfl e78) fun a E=>qv E (qav rfl rfl) fun a E=>bd hF fun s79 e80 hF=>qv E (qaF Tryz.underlying9 e80 rfl ⟨_,rfl⟩ ⟨_,rfl⟩) fun a E=>bd hF fun s81 e82 hF=>qv E (qaL rfl rfl e82) fun a E=>qv E (qad rfl) fun a E=>qv E (qad rfl) fun a E=>qv E (qcA .and (by decide) rfl rfl) fun a E=>qv E (qad rfl) fun a E=>qv E (qcA .and (by decide) rfl rfl) fun a E=>qv E (qav rfl rfl) fun a E=>bd hF fun s83 e84 hF=>qv E (qaF Tryz.underlying9 e84 rfl ⟨_,rfl⟩ ⟨_,rfl⟩) fun a E=>?_
    refine bd hF fun s85 e86 hF=>qv E (qaL rfl rfl e86) fun a E=>qv E (qaq rfl) fun a E=>wpQuiet_nil ?_
    intro w ok
    refine qaa<|wp_ret<|qag<|qae ?_
    exact fin hF ⟨ok,E.d,rz E rfl,(qaH e86)⟩
   refine mz E rfl rfl fun a E=>qc8 brackets_1 (fun c87=>?_) (fun c87=>?_)
   rotate_left
   ·have hF:=qbV c87 hF
    have E:=E.upd 50 c87 rfl
    refine lsq E fun a E=>pf E rfl rfl fun a E=>pf E rfl rfl fun a E=>aw E rfl fun a E=>c_if E rfl (fun h=>by cases h) (fun _=>?_)
    refine wp_skip<|qaf<|qaa<|sg<|mv E rfl fun a E=>lv E ok (qbS Tryz.underlying5 Tryz.underlying9 rfl) fun a E=>av E rfl fun a E=>wn<|wp_ret ?_
    exact fin hF ⟨ok,E.d,rz E rfl,(qcJ _)⟩
   have hF:=qbW c87 hF
   have E:=E.upd 50 c87 rfl
   refine mv E rfl fun a E=>lw E (qa0 rfl rfl) fun a E=>pt E rfl rfl fun a E=>pf E rfl rfl fun a E=>aw E rfl fun a E=>cg E rfl hF (fun c88 hF=>?_) fun c88 hF=>?_
   ·refine wp_skip<|qaf<|qaa<|sg<|mv E rfl fun a E=>lv E ok (qbS Tryz.underlying5 Tryz.underlying9 rfl) fun a E=>av E rfl fun a E=>wn<|wp_ret ?_
    exact fin hF ⟨ok,E.d,rz E rfl,(qcJ _)⟩
   refine wp_seq<|qaY (by kernel_rfl) (by kernel_rfl) ok<|qv E (qad rfl) fun a E=>qv E (qad rfl) fun a E=>bd hF fun q89 e90 hF=>qv E (qdy rfl rfl e90) fun a E=>qv E (qad rfl) fun a E=>bd hF fun q91 e92 hF=>qv E (qdy rfl rfl e92) fun a E=>qv E (qav rfl rfl) fun a E=>bd hF fun s93 e94 hF=>qv E (qaF Tryz.underlying9 e94 rfl ⟨_,rfl⟩ ⟨_,rfl⟩) fun a E=>bd hF fun s95 e96 hF=>qv E (qaL rfl rfl e96) fun a E=>qv E (qad rfl) fun a E=>qv E (qad rfl) fun a E=>qv E (qcA .and (by decide) rfl rfl) fun a E=>qv E (qad rfl) fun a E=>qv E (qcA .and (by decide) rfl rfl) fun a E=>qv E (qav rfl rfl) fun a E=>bd hF fun s97 e98 hF=>qv E (qaF Tryz.underlying9 e98 rfl ⟨_,rfl⟩ ⟨_,rfl⟩) fun a E=>?_
   refine bd hF fun s99 e100 hF=>qv E (qaL rfl rfl e100) fun a E=>qv E (qaq rfl) fun a E=>wpQuiet_nil ?_
   intro w ok
   refine qaa<|wp_ret<|qag<|qae ?_
   exact fin hF ⟨ok,E.d,rz E rfl,(qaH e100)⟩
 have hF:=qbW c8 hF
 have E:=E.upd 19 c8 rfl
 refine mv E rfl fun a E=>lw E (qa0 rfl rfl) fun a E=>mv E rfl fun a E=>bu E 22 hF (fun c9 hF E=>?_) fun c9 hF E=>?_
 ·refine lsq E fun a E=>pt E rfl rfl fun a E=>mv E rfl fun a E=>lsq E fun a E=>pt E rfl rfl fun a E=>mv E rfl fun a E=>lsq E fun a E=>pt E rfl rfl fun a E=>pt E rfl rfl fun a E=>pf E rfl rfl fun a E=>aw E rfl fun a E=>wp_seq<|wp_block<|sg<|mv E rfl fun a E=>aw E rfl fun a E=>c_if E rfl (fun _=>?_) (fun h=>by cases h)
  refine sg<|mv E rfl fun a E=>lv E ok (qbS Tryz.underlying5 Tryz.underlying9 rfl) fun a E=>bd hF fun s10 e11 hF=>lw E (qaL rfl rfl e11) fun a E=>aw E rfl fun a E=>wp_ret<|qag<|qae ?_
  exact fin hF ⟨ok,E.d,rz E rfl,(qaH e11)⟩
 refine mv E rfl fun a E=>lw E (qa0 rfl rfl) fun a E=>pf E rfl rfl fun a E=>mv E rfl fun a E=>bu E 26 hF (fun c12 hF E=>?_) fun c12 hF E=>?_
 ·refine lsq E fun a E=>pt E rfl rfl fun a E=>mv E rfl fun a E=>lsq E fun a E=>pt E rfl rfl fun a E=>pt E rfl rfl fun a E=>pf E rfl rfl fun a E=>aw E rfl fun a E=>wp_seq<|wp_block<|sg<|mv E rfl fun a E=>aw E rfl fun a E=>c_if E rfl (fun _=>?_) (fun h=>by cases h)
  refine sg<|mv E rfl fun a E=>lv E ok (qbS Tryz.underlying5 Tryz.underlying9 rfl) fun a E=>bd hF fun s13 e14 hF=>lw E (qaL rfl rfl e14) fun a E=>aw E rfl fun a E=>wp_ret<|qag<|qae ?_
  exact fin hF ⟨ok,E.d,rz E rfl,(qaH e14)⟩
 refine mv E rfl fun a E=>lw E (qa0 rfl rfl) fun a E=>pf E rfl rfl fun a E=>mv E rfl fun a E=>bu E 30 hF (fun c15 hF E=>?_) fun c15 hF E=>?_
 ·refine lsq E fun a E=>pt E rfl rfl fun a E=>pt E rfl rfl fun a E=>pf E rfl rfl fun a E=>aw E rfl fun a E=>wp_seq<|wp_block<|sg<|mv E rfl fun a E=>aw E rfl fun a E=>c_if E rfl (fun _=>?_) (fun h=>by cases h)
  refine sg<|mv E rfl fun a E=>lv E ok (qbS Tryz.underlying5 Tryz.underlying9 rfl) fun a E=>bd hF fun s16 e17 hF=>lw E (qaL rfl rfl e17) fun a E=>aw E rfl fun a E=>wp_ret<|qag<|qae ?_
  exact fin hF ⟨ok,E.d,rz E rfl,(qaH e17)⟩
 refine mv E rfl fun a E=>lw E (qa0 rfl rfl) fun a E=>pf E rfl rfl fun a E=>pt E rfl rfl fun a E=>pf E rfl rfl fun a E=>aw E rfl fun a E=>wp_seq<|wp_block<|sg<|mv E rfl fun a E=>aw E rfl fun a E=>cf E rfl hF (fun c18 hF=>?_) fun c18 hF=>?_
 ·refine sg<|mv E rfl fun a E=>lv E ok (qbS Tryz.underlying5 Tryz.underlying9 rfl) fun a E=>bd hF fun s19 e20 hF=>lw E (qaL rfl rfl e20) fun a E=>aw E rfl fun a E=>wp_ret<|qag<|qae ?_
  exact fin hF ⟨ok,E.d,rz E rfl,(qaH e20)⟩
 refine sg<|mv E rfl fun a E=>lw E (qat rfl rfl) fun a E=>mv E rfl fun a E=>bu E 44 hF (fun c21 hF E=>?_) fun c21 hF E=>?_
 ·refine lsq E fun a E=>pt E rfl rfl fun a E=>mv E rfl fun a E=>lsz E fun a E=>ls E fun a E=>pt E rfl rfl fun a E=>aw E rfl fun a E=>c_if E rfl (fun _=>?_) (fun h=>by cases h)
  refine wp_seq<|qaY (by kernel_rfl) (by kernel_rfl) ok<|qv E (qad rfl) fun a E=>qv E (qad rfl) fun a E=>bd hF fun q22 e23 hF=>qv E (qdy rfl rfl e23) fun a E=>qv E (qad rfl) fun a E=>bd hF fun q24 e25 hF=>qv E (qdy rfl rfl e25) fun a E=>qv E (qav rfl rfl) fun a E=>bd hF fun s26 e27 hF=>qv E (qaF Tryz.underlying9 e27 rfl ⟨_,rfl⟩ ⟨_,rfl⟩) fun a E=>bd hF fun s28 e29 hF=>qv E (qaL rfl rfl e29) fun a E=>qv E (qad rfl) fun a E=>qv E (qad rfl) fun a E=>qv E (qcA .and (by decide) rfl rfl) fun a E=>qv E (qad rfl) fun a E=>qv E (qcA .and (by decide) rfl rfl) fun a E=>qv E (qav rfl rfl) fun a E=>bd hF fun s30 e31 hF=>qv E (qaF Tryz.underlying9 e31 rfl ⟨_,rfl⟩ ⟨_,rfl⟩) fun a E=>?_
  refine bd hF fun s32 e33 hF=>qv E (qaL rfl rfl e33) fun a E=>qv E (qaq rfl) fun a E=>wpQuiet_nil ?_
  intro w ok
  refine qaa<|wp_ret<|qag<|qae ?_
  exact fin hF ⟨ok,E.d,rz E rfl,(qaH e33)⟩
 refine mv E rfl fun a E=>lw E (qbN rfl rfl) fun a E=>pf E rfl rfl fun a E=>mv E rfl fun a E=>bu E 48 hF (fun c34 hF E=>?_) fun c34 hF E=>?_
 ·refine lsz E fun a E=>ls E fun a E=>pt E rfl rfl fun a E=>av E rfl fun a E=>wn<|c_if E rfl (fun _=>?_) (fun h=>by cases h)
  refine wp_seq<|qaY (by kernel_rfl) (by kernel_rfl) ok<|qv E (qad rfl) fun a E=>qv E (qad rfl) fun a E=>bd hF fun q35 e36 hF=>qv E (qdy rfl rfl e36) fun a E=>qv E (qad rfl) fun a E=>bd hF fun q37 e38 hF=>qv E (qdy rfl rfl e38) fun a E=>qv E (qav rfl rfl) fun a E=>bd hF fun s39 e40 hF=>qv E (qaF Tryz.underlying9 e40 rfl ⟨_,rfl⟩ ⟨_,rfl⟩) fun a E=>bd hF fun s41 e42 hF=>qv E (qaL rfl rfl e42) fun a E=>qv E (qad rfl) fun a E=>qv E (qad rfl) fun a E=>qv E (qcA .and (by decide) rfl rfl) fun a E=>qv E (qad rfl) fun a E=>qv E (qcA .and (by decide) rfl rfl) fun a E=>qv E (qav rfl rfl) fun a E=>bd hF fun s43 e44 hF=>qv E (qaF Tryz.underlying9 e44 rfl ⟨_,rfl⟩ ⟨_,rfl⟩) fun a E=>?_
  refine bd hF fun s45 e46 hF=>qv E (qaL rfl rfl e46) fun a E=>qv E (qaq rfl) fun a E=>wpQuiet_nil ?_
  intro w ok
  refine qaa<|wp_ret<|qag<|qae ?_
  exact fin hF ⟨ok,E.d,rz E rfl,(qaH e46)⟩
 refine mz E rfl rfl fun a E=>qc8 brackets_1 (fun c47=>?_) (fun c47=>?_)
 rotate_left
 ·have hF:=qbV c47 hF
  have E:=E.upd 50 c47 rfl
  refine lsq E fun a E=>pf E rfl rfl fun a E=>pf E rfl rfl fun a E=>aw E rfl fun a E=>c_if E rfl (fun h=>by cases h) (fun _=>?_)
  refine wp_skip<|qaf<|qaa<|sg<|mv E rfl fun a E=>lv E ok (qbS Tryz.underlying5 Tryz.underlying9 rfl) fun a E=>av E rfl fun a E=>wn<|wp_ret ?_
  exact fin hF ⟨ok,E.d,rz E rfl,(qcJ _)⟩
 have hF:=qbW c47 hF
 have E:=E.upd 50 c47 rfl
 refine mv E rfl fun a E=>lw E (qa0 rfl rfl) fun a E=>pt E rfl rfl fun a E=>pf E rfl rfl fun a E=>aw E rfl fun a E=>cg E rfl hF (fun c48 hF=>?_) fun c48 hF=>?_
 ·refine wp_skip<|qaf<|qaa<|sg<|mv E rfl fun a E=>lv E ok (qbS Tryz.underlying5 Tryz.underlying9 rfl) fun a E=>av E rfl fun a E=>wn<|wp_ret ?_
  exact fin hF ⟨ok,E.d,rz E rfl,(qcJ _)⟩
 refine wp_seq<|qaY (by kernel_rfl) (by kernel_rfl) ok<|qv E (qad rfl) fun a E=>qv E (qad rfl) fun a E=>bd hF fun q49 e50 hF=>qv E (qdy rfl rfl e50) fun a E=>qv E (qad rfl) fun a E=>bd hF fun q51 e52 hF=>qv E (qdy rfl rfl e52) fun a E=>qv E (qav rfl rfl) fun a E=>bd hF fun s53 e54 hF=>qv E (qaF Tryz.underlying9 e54 rfl ⟨_,rfl⟩ ⟨_,rfl⟩) fun a E=>bd hF fun s55 e56 hF=>qv E (qaL rfl rfl e56) fun a E=>qv E (qad rfl) fun a E=>qv E (qad rfl) fun a E=>qv E (qcA .and (by decide) rfl rfl) fun a E=>qv E (qad rfl) fun a E=>qv E (qcA .and (by decide) rfl rfl) fun a E=>qv E (qav rfl rfl) fun a E=>bd hF fun s57 e58 hF=>qv E (qaF Tryz.underlying9 e58 rfl ⟨_,rfl⟩ ⟨_,rfl⟩) fun a E=>?_
 refine bd hF fun s59 e60 hF=>qv E (qaL rfl rfl e60) fun a E=>qv E (qaq rfl) fun a E=>wpQuiet_nil ?_
 intro w ok
 refine qaa<|wp_ret<|qag<|qae ?_
 exact fin hF ⟨ok,E.d,rz E rfl,(qaH e60)⟩
def qlx (u:World) (m0:Mem) (S:Segs) (r:(List UInt8)) (a:Act) (w:World):Prop :=
 Ok u m0 S w ∧ a.defers = [] ∧ RVs Tryz.prog a w [.t 2 (.string (bs r))] ∧ r.length ≤ LIMS
theorem qlM (N:Nat) (vx_0:List Value) (x_0:Item) (hx_0:qbt m0 vx_0 x_0) {r:(List UInt8)} (hF:qeY N x_0 = some r) (hG:Glob u) (ok:Ok u m0 S w) :
  Calls Tryz.prog 90 [.agg vx_0.toArray].toArray w fun e w'=>(e = .returned (.string (bs r)) ∧ Ok u m0 S w') ∧ r.length ≤ LIMS:=by
 obtain ⟨c2,rfl,l1,h3,r4,r5⟩:=hx_0
 unfold qeY at hF
 refine en (qlx u m0 S) r Tryz.func90 rfl rfl rfl (fun _ _ h=>rb h rfl) fun fin a E=>sg<|qcC E ok rfl rfl rfl fun b6 a w E ok=>aw E rfl fun a E=>sg<|aw E rfl fun a E=>wp_seq<|sg<|fv E qbE rfl fun a E=>ld E ok qal 0 rfl rfl rfl fun a E=>lw E (qbn rfl rfl) fun a E=>wn<|bd hF fun o7 hJ hF=>qa6 (Q':=fun e a w=>e = .normal ∧ Ok u m0 ([(b6,oc 138 [vs x_0.Text,c2,vb x_0.Not,vi x_0.Least,vi x_0.Most])] :: S) w ∧ Env 94 a [(1,vp b6),(3,vs o7)] ∧ o7.length ≤ LIMS) ?_ ?_
 rotate_left
 ·as_aux_lemma =>
   intro e a w hO
   obtain ⟨rfl,ok,E,l108⟩:=hO
   refine qaa<|wp_seq<|wp_block<|sg<|fk E ok qd7 qaJ rfl 0 rfl rfl fun a E=>lw E (qa0 rfl rfl) fun a E=>mv E rfl fun a E=>bw E 74 hF (fun c109 hF E=>?_) fun c109 hF E=>?_
   ·as_aux_lemma =>
     refine lsq E fun a E=>ls E fun a E=>pf E rfl rfl fun a E=>aw E rfl fun a E=>c_if E rfl (fun h=>by cases h) (fun _=>?_)
     refine sg<|fk E ok qd7 qaJ rfl 0 rfl rfl fun a E=>lw E (qa0 rfl rfl) fun a E=>aw E rfl fun a E=>cf E rfl hF (fun c119 hF=>?_) fun c119 hF=>?_
     ·refine qab<|mv E rfl fun a E=>bd hF fun s120 e121 hF=>lw E (qaL rfl rfl e121) fun a E=>av E rfl fun a E=>wpList_nil<|qaf<|qaa<|sg<|mv E rfl fun a E=>aw E rfl fun a E=>wp_ret ?_
      exact fin hF ⟨ok.drop,E.d,rz E rfl,(qaH e121)⟩
     refine sg<|fk E ok qdI qaJ rfl 0 rfl rfl fun a E=>lw E (qcn rfl rfl) fun a E=>aw E rfl fun a E=>cg E rfl hF (fun c122 hF=>?_) fun c122 hF=>?_
     ·refine wp_skip<|qaf<|qaa<|sg<|mv E rfl fun a E=>av E rfl fun a E=>wn<|wp_ret ?_
      exact fin hF ⟨ok.drop,E.d,rz E rfl,l108⟩
     refine qab<|mv E rfl fun a E=>bd hF fun s123 e124 hF=>lw E (qaL rfl rfl e124) fun a E=>av E rfl fun a E=>wpList_nil<|qaf<|qaa<|sg<|mv E rfl fun a E=>aw E rfl fun a E=>wp_ret ?_
     exact fin hF ⟨ok.drop,E.d,rz E rfl,(qaH e124)⟩
   refine fk E ok qdI qaJ rfl 0 rfl rfl fun a E=>lw E (qa0 rfl rfl) fun a E=>pt E rfl rfl fun a E=>aw E rfl fun a E=>cf E rfl hF (fun c110 hF=>?_) fun c110 hF=>?_
   ·refine qab<|mv E rfl fun a E=>bd hF fun s111 e112 hF=>lw E (qaL rfl rfl e112) fun a E=>av E rfl fun a E=>wpList_nil<|qaf<|qaa<|sg<|mv E rfl fun a E=>aw E rfl fun a E=>wp_ret ?_
    exact fin hF ⟨ok.drop,E.d,rz E rfl,(qaH e112)⟩
   refine sg<|fk E ok qd7 qaJ rfl 0 rfl rfl fun a E=>lw E (qa0 rfl rfl) fun a E=>aw E rfl fun a E=>cf E rfl hF (fun c113 hF=>?_) fun c113 hF=>?_
   ·refine qab<|mv E rfl fun a E=>bd hF fun s114 e115 hF=>lw E (qaL rfl rfl e115) fun a E=>av E rfl fun a E=>wpList_nil<|qaf<|qaa<|sg<|mv E rfl fun a E=>aw E rfl fun a E=>wp_ret ?_
    exact fin hF ⟨ok.drop,E.d,rz E rfl,(qaH e115)⟩
   refine sg<|fk E ok qdI qaJ rfl 0 rfl rfl fun a E=>lw E (qcn rfl rfl) fun a E=>aw E rfl fun a E=>cg E rfl hF (fun c116 hF=>?_) fun c116 hF=>?_
   ·refine wp_skip<|qaf<|qaa<|sg<|mv E rfl fun a E=>av E rfl fun a E=>wn<|wp_ret ?_
    exact fin hF ⟨ok.drop,E.d,rz E rfl,l108⟩
   refine qab<|mv E rfl fun a E=>bd hF fun s117 e118 hF=>lw E (qaL rfl rfl e118) fun a E=>av E rfl fun a E=>wpList_nil<|qaf<|qaa<|sg<|mv E rfl fun a E=>aw E rfl fun a E=>wp_ret ?_
   exact fin hF ⟨ok.drop,E.d,rz E rfl,(qaH e118)⟩
 have hF:=hJ
 refine cf E rfl hF (fun c9 hF=>?_) fun c9 hF=>?_
 ·refine sg<|aw E rfl fun a E=>wp_seq<|sg<|aw E rfl fun a E=>wp_block<|bd hF fun o12 hL hF=>qax _ (fun (s:(List UInt8) × Int) a w=>Ok u m0 ([(b6,oc 138 [vs x_0.Text,c2,vb x_0.Not,vi x_0.Least,vi x_0.Most])] :: S) w ∧ Env 94 a [(1,vp b6),(3,vs s.1),(4,vi s.2)] ∧ s.1.length ≤ LIMS ∧ InR .i64 s.2) (fun (b:((List UInt8))) e a w=>e = (.exit 0) ∧ Ok u m0 ([(b6,oc 138 [vs x_0.Text,c2,vb x_0.Not,vi x_0.Least,vi x_0.Most])] :: S) w ∧ Env 94 a [(1,vp b6),(3,vs b)] ∧ b.length ≤ LIMS) ?_ ?_ N _ a w hL ⟨ok,E.keep [1,3,4],(show ([34]:List UInt8).length ≤ LIMS by decide),(ir 0)⟩
  rotate_left
  ·intro e a w _ hO
   obtain ⟨rfl,ok,E,l27⟩:=hO
   refine qaz<|qaa<|qab<|mv E rfl fun a E=>bd hF fun s28 e29 hF=>lw E (qaL rfl rfl e29) fun a E=>av E rfl fun a E=>wpList_nil ?_
   cases hF
   exact ⟨rfl,⟨ok,E.keep [1,3],(qaH e29)⟩⟩
  rintro ⟨v15,v16⟩ a w r ⟨ok,E,l17,r18⟩ hF
  replace hF:qc7 N x_0 v15 v16 = some r:=hF
  unfold qc7 at hF
  refine wp_seq<|sg<|mv E rfl fun a E=>fk E ok qbE qal rfl 0 rfl rfl fun a E=>lw E (qaA Tryz.underlying9 rfl) fun a E=>lw E (qat rfl rfl) fun a E=>wn<|cg E rfl hF (fun c19 hF=>?_) fun c19 hF=>?_
  ·refine wp_exit<|qap ?_
   cases hF
   exact so (⟨rfl,⟨ok,E.keep [1,3],l17⟩⟩)
  refine wp_skip<|qaa<|wp_seq<|wp_block<|qab<|mv E rfl fun a E=>fk E ok qbE qal rfl 0 rfl rfl fun a E=>mv E rfl fun a E=>bd hF fun c20 e21 hF=>lv E ok (qaQ Tryz.underlying9 rfl rfl e21) fun a E=>bd hF fun r22 e23 hF=>qas E qpi rfl (qhg N (c20.toNat:Int) (InR.byte c20) false e23 hG ok) rfl rfl ?_
  rintro _ w ⟨⟨rfl,ok⟩,l24⟩
  refine ⟨_,rfl,fun a E=>?_⟩
  refine bd hF fun s25 e26 hF=>lw E (qaL rfl rfl e26) fun a E=>av E rfl fun a E=>wpList_nil<|qaf<|qaa<|qab<|mv E rfl fun a E=>lw E (qar rfl rfl (InR.inc r18 (InR.len l1) c19)) fun a E=>av E rfl fun a E=>wpList_nil ?_
  cases hF
  exact qan ⟨ok,E.keep [1,3,4],(qaH e26),(InR.inc r18 (InR.len l1) c19)⟩
 refine sg<|aw E rfl fun a E=>wp_seq<|sg<|fk E ok qhB qhb rfl 0 rfl rfl fun a E=>wn<|bd hF fun o31 hJ hF=>qa6 (Q':=fun e a w=>e = .normal ∧ Ok u m0 ([(b6,oc 138 [vs x_0.Text,c2,vb x_0.Not,vi x_0.Least,vi x_0.Most])] :: S) w ∧ Env 94 a [(1,vp b6),(3,vs o31)] ∧ o31.length ≤ LIMS) ?_ ?_
 ·have hF:=hJ
  refine cg E rfl hF (fun c33 hF=>?_) fun c33 hF=>?_
  ·refine wp_skip ?_
   cases hF
   exact ⟨rfl,⟨ok,E.keep [1,3],(show ([91]:List UInt8).length ≤ LIMS by decide)⟩⟩
  refine qab<|mv E rfl fun a E=>bd hF fun s34 e35 hF=>lw E (qaL rfl rfl e35) fun a E=>av E rfl fun a E=>wpList_nil ?_
  cases hF
  exact ⟨rfl,⟨ok,E.keep [1,3],(qaH e35)⟩⟩
 intro e a w hO
 obtain ⟨rfl,ok,E,l36⟩:=hO
 refine qaa<|wp_seq<|sg<|aw E rfl fun a E=>wp_block<|bd hF fun o39 hL hF=>qax _ (fun (s:(List UInt8) × Int) a w=>Ok u m0 ([(b6,oc 138 [vs x_0.Text,c2,vb x_0.Not,vi x_0.Least,vi x_0.Most])] :: S) w ∧ Env 94 a [(1,vp b6),(3,vs s.1),(5,vi s.2)] ∧ s.1.length ≤ LIMS ∧ InR .i64 s.2) (fun (b:((List UInt8))) e a w=>e = (.exit 2) ∧ Ok u m0 ([(b6,oc 138 [vs x_0.Text,c2,vb x_0.Not,vi x_0.Least,vi x_0.Most])] :: S) w ∧ Env 94 a [(1,vp b6),(3,vs b)] ∧ b.length ≤ LIMS) ?_ ?_ N _ a w hL ⟨ok,E.keep [1,3,5],l36,(ir 0)⟩
 rotate_left
 ·intro e a w _ hO
  obtain ⟨rfl,ok,E,l104⟩:=hO
  refine qaz<|qaa<|qab<|mv E rfl fun a E=>bd hF fun s105 e106 hF=>lw E (qaL rfl rfl e106) fun a E=>av E rfl fun a E=>wpList_nil ?_
  cases hF
  exact ⟨rfl,⟨ok,E.keep [1,3],(qaH e106)⟩⟩
 rintro ⟨v42,v43⟩ a w r ⟨ok,E,l44,r45⟩ hF
 replace hF:qc3 N x_0 v42 v43 = some r:=hF
 unfold qc3 at hF
 refine wp_seq<|sg<|mv E rfl fun a E=>fk E ok qa8 qbB rfl 0 rfl rfl fun a E=>lv E ok (qau qbx h3 rfl) fun a E=>lw E (qat rfl rfl) fun a E=>wn<|cg E rfl hF (fun c46 hF=>?_) fun c46 hF=>?_
 ·refine wp_exit<|qap ?_
  cases hF
  exact so (⟨rfl,⟨ok,E.keep [1,3],l44⟩⟩)
 refine wp_skip<|qaa<|wp_seq<|wp_block<|sg<|mv E rfl fun a E=>fv E qa8 rfl fun a E=>ld E ok qbB 0 rfl rfl rfl fun a E=>mv E rfl fun a E=>?_
 obtain ⟨x47,e48,hF⟩:=bnd hF
 obtain ⟨b49,o50,es51,hl52,rr53,at54,yy55⟩:=ia E 38 39 qbx h3 e48
 obtain ⟨rfl,r56,r57⟩:=rr53
 refine lv E ok (yy55 _ _) fun a E=>fv E qjj rfl fun a E=>lv E ok (qah qfa rfl (qac.ro (At.sub 0 1 at54))) fun a E=>bd hF fun r58 e59 hF=>qas E qpi rfl (qhg N x47.From r56 true e59 hG ok) rfl rfl ?_
 rintro _ w ⟨⟨rfl,ok⟩,l60⟩
 refine ⟨_,rfl,fun a E=>?_⟩
 refine bd hF fun s61 e62 hF=>lw E (qaL rfl rfl e62) fun a E=>aw E rfl fun a E=>wp_seq<|qaY (by kernel_rfl) (by kernel_rfl) ok<|qv E (qak qa8 rfl) fun a E=>qv E (qah qbB rfl (qac.own 0 rfl rfl)) fun a E=>qv E (qad rfl) fun a E=>?_
 obtain ⟨x63,e64,hF⟩:=bnd hF
 obtain ⟨b65,o66,es67,hl68,rr69,at70,yy71⟩:=ia E 46 47 qbx h3 e64
 obtain ⟨rfl,r72,r73⟩:=rr69
 refine qv E (yy71 _ _) fun a E=>qv E (qak qjm rfl) fun a E=>qv E (qah qfa rfl (qac.ro (At.sub 1 1 at70))) fun a E=>qv E (qak qa8 rfl) fun a E=>qv E (qah qbB rfl (qac.own 0 rfl rfl)) fun a E=>qv E (qad rfl) fun a E=>?_
 obtain ⟨x74,e75,hF⟩:=bnd hF
 obtain ⟨b76,o77,es78,hl79,rr80,at81,yy82⟩:=ia E 52 53 qbx h3 e75
 obtain ⟨rfl,r83,r84⟩:=rr80
 refine qv E (yy82 _ _) fun a E=>qv E (qak qjj rfl) fun a E=>qv E (qah qfa rfl (qac.ro (At.sub 0 1 at81))) fun a E=>qv E (qcn rfl rfl) fun a E=>wpQuiet_nil ?_
 intro w ok
 refine qaa<|cg E rfl hF (fun c85 hF=>?_) fun c85 hF=>?_
 ·refine wp_skip<|qaf<|qaa<|qab<|mv E rfl fun a E=>lw E (qar rfl rfl (InR.inc r45 (qaj h3) c46)) fun a E=>av E rfl fun a E=>wpList_nil ?_
  cases hF
  exact qan ⟨ok,E.keep [1,3,5],(qaH e62),(InR.inc r45 (qaj h3) c46)⟩
 refine qab<|mv E rfl fun a E=>fk E ok qa8 qbB rfl 0 rfl rfl fun a E=>mv E rfl fun a E=>?_
 obtain ⟨x86,e87,hF⟩:=bnd hF
 obtain ⟨b88,o89,es90,hl91,rr92,at93,yy94⟩:=ia E 60 61 qbx h3 e87
 obtain ⟨rfl,r95,r96⟩:=rr92
 refine lv E ok (yy94 _ _) fun a E=>fv E qjm rfl fun a E=>lv E ok (qah qfa rfl (qac.ro (At.sub 1 1 at93))) fun a E=>bd hF fun r97 e98 hF=>qas E qpi rfl (qhg N x86.To r96 true e98 hG ok) rfl rfl ?_
 rintro _ w ⟨⟨rfl,ok⟩,l99⟩
 refine ⟨_,rfl,fun a E=>?_⟩
 refine bd hF fun s100 e101 hF=>lw E (qaL rfl rfl e101) fun a E=>bd hF fun s102 e103 hF=>lw E (qaL rfl rfl e103) fun a E=>av E rfl fun a E=>wpList_nil<|qaf<|qaa<|qab<|mv E rfl fun a E=>lw E (qar rfl rfl (InR.inc r45 (qaj h3) c46)) fun a E=>av E rfl fun a E=>wpList_nil ?_
 cases hF
 exact qan ⟨ok,E.keep [1,3,5],(qaH e103),(InR.inc r45 (qaj h3) c46)⟩
def qlQ (u:World) (m0:Mem) (S:Segs) (r:(List UInt8)) (a:Act) (w:World):Prop :=
 Ok u m0 S w ∧ a.defers = [] ∧ RVs Tryz.prog a w [.t 2 (.string (bs r))] ∧ r.length ≤ LIMS
theorem qiL (N:Nat) (vr_0:List Value) (r_0:Rule) (hr_0:qdC m0 vr_0 r_0) {r:(List UInt8)} (hF:qd9 N r_0 = some r) (hG:Glob u) (ok:Ok u m0 S w) :
  Calls Tryz.prog 69 [.agg vr_0.toArray].toArray w fun e w'=>(e = .returned (.string (bs r)) ∧ Ok u m0 S w') ∧ r.length ≤ LIMS:=by
 obtain ⟨c2,rfl,l1,h3,l4⟩:=hr_0
 unfold qd9 at hF
 refine en (qlQ u m0 S) r Tryz.func69 rfl rfl rfl (fun _ _ h=>rb h rfl) fun fin a E=>sg<|qcC E ok rfl rfl rfl fun b5 a w E ok=>aw E rfl fun a E=>sg<|fk E ok qju qal rfl 0 rfl rfl fun a E=>aw E rfl fun a E=>wp_seq<|sg<|aw E rfl fun a E=>wp_block<|bd hF fun o8 hL hF=>qax _ (fun (s:(List UInt8) × Int) a w=>Ok u m0 ([(b5,oc 114 [vs r_0.Kind,c2,vs r_0.Next])] :: S) w ∧ Env 32 a [(1,vp b5),(3,vs s.1),(4,vi s.2)] ∧ s.1.length ≤ LIMS ∧ InR .i64 s.2) (fun (b:((List UInt8))) e a w=>e = (.exit 0) ∧ Ok u m0 ([(b5,oc 114 [vs r_0.Kind,c2,vs r_0.Next])] :: S) w ∧ Env 32 a [(1,vp b5),(3,vs b)] ∧ b.length ≤ LIMS) ?_ ?_ N _ a w hL ⟨ok,E.keep [1,3,4],l1,(ir 0)⟩
 rotate_left
 ·intro e a w _ hO
  obtain ⟨rfl,ok,E,l37⟩:=hO
  refine qaz<|qaa<|wp_seq<|sg<|fk E ok qfK qal rfl 0 rfl rfl fun a E=>lw E (qbn rfl rfl) fun a E=>wn<|cg E rfl hF (fun c38 hF=>?_) fun c38 hF=>?_
  ·refine wp_skip<|qaa<|sg<|mv E rfl fun a E=>aw E rfl fun a E=>wp_ret ?_
   exact fin hF ⟨ok.drop,E.d,rz E rfl,l37⟩
  refine qab<|mv E rfl fun a E=>fk E ok qfK qal rfl 0 rfl rfl fun a E=>bd hF fun s39 e40 hF=>lw E (qaL rfl rfl e40) fun a E=>bd hF fun s41 e42 hF=>lw E (qaL rfl rfl e42) fun a E=>aw E rfl fun a E=>sg<|mv E rfl fun a E=>av E rfl fun a E=>wn<|wp_ret ?_
  exact fin hF ⟨ok.drop,E.d,rz E rfl,(qaH e42)⟩
 rintro ⟨v11,v12⟩ a w r ⟨ok,E,l13,r14⟩ hF
 replace hF:qd2 N r_0 v11 v12 = some r:=hF
 unfold qd2 at hF
 refine wp_seq<|sg<|mv E rfl fun a E=>fk E ok qcv qea rfl 0 rfl rfl fun a E=>lv E ok (qau qcm h3 rfl) fun a E=>lw E (qat rfl rfl) fun a E=>wn<|cg E rfl hF (fun c15 hF=>?_) fun c15 hF=>?_
 ·refine wp_exit<|qap ?_
  cases hF
  exact so (⟨rfl,⟨ok,E.keep [1,3],l13⟩⟩)
 refine wp_skip<|qaa<|wp_seq<|wp_block<|qab<|mv E rfl fun a E=>fk E ok qcv qea rfl 0 rfl rfl fun a E=>mv E rfl fun a E=>?_
 obtain ⟨x16,e17,hF⟩:=bnd hF
 obtain ⟨b18,o19,es20,hl21,rr22,at23,yy24⟩:=ia E 16 17 qcm h3 e17
 obtain ⟨c26,rfl,l25,h27,r28,r29⟩:=rr22
 refine lv E ok (yy24 _ _) fun a E=>lv E ok (qam (cs:=[vs x16.Text,c26,vb x16.Not,vi x16.Least,vi x16.Most]) qaU rfl rfl (qac.ro at23)) fun a E=>bd hF fun r30 e31 hF=>qas E qwy rfl (qlM N _ x16 ⟨_,rfl,l25,h27,r28,r29⟩ e31 hG ok) rfl rfl ?_
 rintro _ w ⟨⟨rfl,ok⟩,l32⟩
 refine ⟨_,rfl,fun a E=>?_⟩
 refine bd hF fun s33 e34 hF=>lw E (qaL rfl rfl e34) fun a E=>bd hF fun s35 e36 hF=>lw E (qaL rfl rfl e36) fun a E=>av E rfl fun a E=>wpList_nil<|qaf<|qaa<|qab<|mv E rfl fun a E=>lw E (qar rfl rfl (InR.inc r14 (qaj h3) c15)) fun a E=>av E rfl fun a E=>wpList_nil ?_
 cases hF
 exact qan ⟨ok,E.keep [1,3,4],(qaH e36),(InR.inc r14 (qaj h3) c15)⟩
def qlJ (u:World) (m0:Mem) (S:Segs) (r:(List UInt8)) (a:Act) (w:World):Prop :=
 Ok u m0 S w ∧ a.defers = [] ∧ RVs Tryz.prog a w [.t 2 (.string (bs r))] ∧ r.length ≤ LIMS
theorem qlp (N:Nat) (vs_0:Value) (s_0:List (State)) (hs_0:(pL 2 qbA) m0 [vs_0] s_0) {r:(List UInt8)} (hF:qeU N s_0 = some r) (hG:Glob u) (ok:Ok u m0 S w) :
  Calls Tryz.prog 62 [vs_0].toArray w fun e w'=>(e = .returned (.string (bs r)) ∧ Ok u m0 S w') ∧ r.length ≤ LIMS:=by
 unfold qeU at hF
 refine en (qlJ u m0 S) r Tryz.func62 rfl rfl rfl (fun _ _ h=>rb h rfl) fun fin a E=>sg<|aw E rfl fun a E=>sg<|aw E rfl fun a E=>wp_seq<|sg<|av E rfl fun a E=>wn<|wp_block<|bd hF fun o3 hL hF=>qax _ (fun (s:(List UInt8) × Int) a w=>Ok u m0 (S) w ∧ Env 44 a [(0,vs_0),(3,vs s.1),(4,vi s.2)] ∧ s.1.length ≤ LIMS ∧ InR .i64 s.2) (fun (b:((List UInt8))) e a w=>e = (.exit 0) ∧ Ok u m0 (S) w ∧ Env 44 a [(3,vs b)] ∧ b.length ≤ LIMS) ?_ ?_ N _ a w hL ⟨ok,E.keep [0,3,4],(show ([]:List UInt8).length ≤ LIMS by decide),(ir 0)⟩
 rotate_left
 ·intro e a w _ hO
  obtain ⟨rfl,ok,E,l85⟩:=hO
  refine qaz<|qaa<|sg<|mv E rfl fun a E=>aw E rfl fun a E=>wp_ret ?_
  exact fin hF ⟨ok,E.d,rz E rfl,l85⟩
 rintro ⟨v6,v7⟩ a w r ⟨ok,E,l8,r9⟩ hF
 replace hF:qd0 N s_0 v6 v7 = some r:=hF
 unfold qd0 at hF
 refine wp_seq<|sg<|mz E rfl rfl fun a E=>lv E ok (qau qbu hs_0 rfl) fun a E=>lw E (qat rfl rfl) fun a E=>wn<|cg E rfl hF (fun c10 hF=>?_) fun c10 hF=>?_
 ·refine wp_exit<|qap ?_
  cases hF
  exact so (⟨rfl,⟨ok,E.keep [3],l8⟩⟩)
 refine wp_skip<|qaa<|wp_seq<|wp_block<|sg<|mz E rfl rfl fun a E=>mv E rfl fun a E=>?_
 obtain ⟨x11,e12,hF⟩:=bnd hF
 obtain ⟨b13,o14,es15,hl16,rr17,at18,yy19⟩:=ia E 13 14 qbu hs_0 e12
 obtain ⟨c21,rfl,l20,h22⟩:=rr17
 refine lv E ok (yy19 _ _) fun a E=>fv E qim rfl fun a E=>lv E ok (qah qal rfl (qac.ro (At.sub 0 1 at18))) fun a E=>bd hF fun s23 e24 hF=>lw E (qaL rfl rfl e24) fun a E=>bd hF fun s25 e26 hF=>lw E (qaL rfl rfl e26) fun a E=>bd hF fun s27 e28 hF=>lw E (qaL rfl rfl e28) fun a E=>aw E rfl fun a E=>sg<|av E rfl fun a E=>wn<|wp_block<|bd hF fun o31 hL hF=>qax _ (fun (s:(List UInt8) × Int) a w=>Ok u m0 (S) w ∧ Env 44 a [(0,vs_0),(3,vs s.1),(4,vi v7),(5,vi s.2)] ∧ s.1.length ≤ LIMS ∧ InR .i64 s.2) (fun (b:((List UInt8))) e a w=>e = (.exit 2) ∧ Ok u m0 (S) w ∧ Env 44 a [(0,vs_0),(3,vs b),(4,vi v7)] ∧ b.length ≤ LIMS) ?_ ?_ N _ a w hL ⟨ok,E.keep [0,3,4,5],(qaH e28),(ir 0)⟩
 rotate_left
 ·intro e a w _ hO
  obtain ⟨rfl,ok,E,l83⟩:=hO
  refine qaz<|qaf<|qaa<|qab<|mv E rfl fun a E=>lw E (qar rfl rfl (InR.inc r9 (qaj hs_0) c10)) fun a E=>av E rfl fun a E=>wpList_nil ?_
  cases hF
  exact qan ⟨ok,E.keep [0,3,4],l83,(InR.inc r9 (qaj hs_0) c10)⟩
 rintro ⟨v34,v35⟩ a w r ⟨ok,E,l36,r37⟩ hF
 replace hF:qd3 N s_0 v7 v34 v35 = some r:=hF
 unfold qd3 at hF
 refine wp_seq<|sg<|mz E rfl rfl fun a E=>mv E rfl fun a E=>?_
 obtain ⟨x38,e39,hF⟩:=bnd hF
 obtain ⟨b40,o41,es42,hl43,rr44,at45,yy46⟩:=ia E 22 23 qbu hs_0 e39
 obtain ⟨c48,rfl,l47,h49⟩:=rr44
 refine lv E ok (yy46 _ _) fun a E=>fv E qcx rfl fun a E=>lv E ok (qah qd6 rfl (qac.ro (At.sub 1 1 at45))) fun a E=>lv E ok (qau qdZ h49 rfl) fun a E=>lw E (qat rfl rfl) fun a E=>wn<|cg E rfl hF (fun c50 hF=>?_) fun c50 hF=>?_
 ·refine wp_exit<|qap ?_
  cases hF
  exact so (⟨rfl,⟨ok,E.keep [0,3,4],l36⟩⟩)
 refine wp_skip<|qaa<|wp_seq<|wp_block<|qab<|mz E rfl rfl fun a E=>mv E rfl fun a E=>?_
 obtain ⟨x51,e52,hF⟩:=bnd hF
 obtain ⟨b53,o54,es55,hl56,rr57,at58,yy59⟩:=ia E 32 33 qbu hs_0 e52
 obtain ⟨c61,rfl,l60,h62⟩:=rr57
 refine lv E ok (yy59 _ _) fun a E=>fv E qcx rfl fun a E=>lv E ok (qah qd6 rfl (qac.ro (At.sub 1 1 at58))) fun a E=>mv E rfl fun a E=>?_
 obtain ⟨x63,e64,hF⟩:=bnd hF
 obtain ⟨b65,o66,es67,hl68,rr69,at70,yy71⟩:=ia E 36 37 qdZ h62 e64
 obtain ⟨c73,rfl,l72,h74,l75⟩:=rr69
 refine lv E ok (yy71 _ _) fun a E=>lv E ok (qam (cs:=[vs x63.Kind,c73,vs x63.Next]) qdt rfl rfl (qac.ro at70)) fun a E=>bd hF fun r76 e77 hF=>qas E qtN rfl (qiL N _ x63 ⟨_,rfl,l72,h74,l75⟩ e77 hG ok) rfl rfl ?_
 rintro _ w ⟨⟨rfl,ok⟩,l78⟩
 refine ⟨_,rfl,fun a E=>?_⟩
 refine bd hF fun s79 e80 hF=>lw E (qaL rfl rfl e80) fun a E=>bd hF fun s81 e82 hF=>lw E (qaL rfl rfl e82) fun a E=>av E rfl fun a E=>wpList_nil<|qaf<|qaa<|qab<|mv E rfl fun a E=>lw E (qar rfl rfl (InR.inc r37 (qaj h49) c50)) fun a E=>av E rfl fun a E=>wpList_nil ?_
 cases hF
 exact qan ⟨ok,E.keep [0,3,4,5],(qaH e82),(InR.inc r37 (qaj h49) c50)⟩
end Go.Proofs.YtllfckekodcdaaaGreatDoor
namespace Go.Proofs.YtllfckekodcdaaaGreatDoor
open Go.X
variable {u:World} {m0:Mem} {S:Segs} {w:World}
set_option maxHeartbeats 4000000
set_option maxRecDepth 100000
def qgz (u:World) (m0:Mem) (S:Segs) (r:Bool) (a:Act) (w:World):Prop :=
 Ok u m0 S w ∧ a.defers = [] ∧ RVs Tryz.prog a w [.t 2 (.bool r)]
theorem qe8 (N:Nat) (vs_0:Value) (s_0:List (State)) (hs_0:(pL 2 qbA) m0 [vs_0] s_0) {r:Bool} (hF:qct N s_0 = some r) (hG:Glob u) (ok:Ok u m0 S w) :
  Calls Tryz.prog 38 [vs_0].toArray w fun e w'=>(e = .returned (.bool r) ∧ Ok u m0 S w'):=by
 unfold qct at hF
 refine en (qgz u m0 S) r Tryz.func38 rfl rfl rfl (fun _ _ h=>ra h rfl) fun fin a E=>sg<|aw E rfl fun a E=>wp_seq<|sg<|aw E rfl fun a E=>wp_block<|bd hF fun o2 hL hF=>qax _ (fun (s:Int) a w=>Ok u m0 (S) w ∧ Env 95 a [(0,vs_0),(3,vi s)] ∧ InR .i64 s) (fun (b:(Unit ⊕ Bool)) e a w=>(Sum.elim (fun b123=>e = (.exit 0) ∧ Ok u m0 (S) w ∧ Env 95 a [(0,vs_0)]) (fun b124=>e = .ret ∧ qgz u m0 S b124 a w)) b) ?_ ?_ N _ a w hL ⟨ok,E.keep [0,3],(ir 0)⟩
 rotate_left
 ·intro e a w _ hO
  rcases o2 with o2 | o2
  rotate_left
  ·obtain ⟨rfl,hret⟩:=hO
   refine qag<|qae ?_
   exact fin hF hret
  have hF:=qaX hF
  obtain ⟨rfl,ok,E⟩:=hO
  refine qaz<|qaa<|sg<|mv E rfl fun a E=>lv E ok (qau qbu hs_0 rfl) fun a E=>lw E (qa2 rfl rfl) fun a E=>mv E rfl fun a E=>bw E 84 hF (fun c118 hF E=>?_) fun c118 hF E=>?_
  ·refine lsq E fun a E=>ls E fun a E=>pf E rfl rfl fun a E=>mv E rfl fun a E=>lsz E fun a E=>pf E rfl rfl fun a E=>aw E rfl fun a E=>wp_ret ?_
   exact fin hF ⟨ok,E.d,rz E rfl⟩
  refine mv E rfl fun a E=>lv E ok (qau qbu hs_0 rfl) fun a E=>lw E (qb2 rfl rfl) fun a E=>pt E rfl rfl fun a E=>mv E rfl fun a E=>bw E 89 hF (fun c119 hF E=>?_) fun c119 hF E=>?_
  ·refine lsz E fun a E=>pf E rfl rfl fun a E=>aw E rfl fun a E=>wp_ret ?_
   exact fin hF ⟨ok,E.d,rz E rfl⟩
  refine mv E rfl fun a E=>bd hF fun r120 e121 hF=>qas E qv0 rfl (qlp N _ s_0 hs_0 e121 hG ok) rfl rfl ?_
  rintro _ w ⟨⟨rfl,ok⟩,l122⟩
  refine ⟨_,rfl,fun a E=>?_⟩
  refine lw E (qaA Tryz.underlying9 rfl) fun a E=>lw E (qb2 rfl rfl) fun a E=>pt E rfl rfl fun a E=>aw E rfl fun a E=>wp_ret ?_
  exact fin hF ⟨ok,E.d,rz E rfl⟩
 rintro v4 a w r ⟨ok,E,r5⟩ hF
 replace hF:qbY N s_0 v4 = some r:=hF
 unfold qbY at hF
 refine wp_seq<|sg<|mz E rfl rfl fun a E=>lv E ok (qau qbu hs_0 rfl) fun a E=>lw E (qat rfl rfl) fun a E=>wn<|cg E rfl hF (fun c6 hF=>?_) fun c6 hF=>?_
 ·refine wp_exit<|qap ?_
  cases hF
  exact so (sl ⟨rfl,⟨ok,E.keep [0]⟩⟩)
 refine wp_skip<|qaa<|wp_seq<|wp_block<|wp_seq<|sg<|mv E rfl fun a E=>mv E rfl fun a E=>?_
 obtain ⟨x7,e8,hF⟩:=bnd hF
 obtain ⟨b9,o10,es11,hl12,rr13,at14,yy15⟩:=ia E 12 13 qbu hs_0 e8
 obtain ⟨c17,rfl,l16,h18⟩:=rr13
 refine lv E ok (yy15 _ _) fun a E=>fv E qim rfl fun a E=>lv E ok (qah qal rfl (qac.ro (At.sub 0 1 at14))) fun a E=>bd hF fun r19 e20 hF=>lc E qoP rfl (qfq N x7.Name l16 e20 hG ok) fun w ok a E=>lw E (qbj rfl) fun a E=>mv E rfl fun a E=>bu E 19 hF (fun c21 hF E=>?_) fun c21 hF E=>?_
 ·refine lsz E fun a E=>lsz E fun a E=>ls E fun a E=>pt E rfl rfl fun a E=>mv E rfl fun a E=>lsz E fun a E=>lsq E fun a E=>ls E fun a E=>pt E rfl rfl fun a E=>mv E rfl fun a E=>lsz E fun a E=>?_
  refine lsq E fun a E=>ls E fun a E=>pt E rfl rfl fun a E=>wn<|c_if E rfl (fun _=>?_) (fun h=>by cases h)
  refine sg<|aw E rfl fun a E=>wp_ret<|qae<|qag<|qae ?_
  cases hF
  exact so (sr ⟨rfl,⟨ok,E.d,rz E rfl⟩⟩)
 refine mz E rfl rfl fun a E=>mv E rfl fun a E=>?_
 obtain ⟨x22,e23,hF⟩:=bnd hF
 obtain ⟨b24,o25,es26,hl27,rr28,at29,yy30⟩:=ia E 21 22 qbu hs_0 e23
 obtain ⟨c32,rfl,l31,h33⟩:=rr28
 refine lv E ok (yy30 _ _) fun a E=>fv E qim rfl fun a E=>lv E ok (qah qal rfl (qac.ro (At.sub 0 1 at29))) fun a E=>bd hF fun r34 e35 hF=>qas E qrz rfl (qgy N _ s_0 hs_0 x22.Name l31 e35 hG ok) rfl rfl ?_
 rintro _ w ⟨⟨rfl,ok⟩,r36⟩
 refine ⟨_,rfl,fun a E=>?_⟩
 refine mv E rfl fun a E=>lw E (qcn rfl rfl) fun a E=>pf E rfl rfl fun a E=>mv E rfl fun a E=>bu E 30 hF (fun c37 hF E=>?_) fun c37 hF E=>?_
 ·refine lsz E fun a E=>lsq E fun a E=>ls E fun a E=>pt E rfl rfl fun a E=>mv E rfl fun a E=>lsz E fun a E=>lsq E fun a E=>ls E fun a E=>pt E rfl rfl fun a E=>wn<|c_if E rfl (fun _=>?_) (fun h=>by cases h)
  refine sg<|aw E rfl fun a E=>wp_ret<|qae<|qag<|qae ?_
  cases hF
  exact so (sr ⟨rfl,⟨ok,E.d,rz E rfl⟩⟩)
 refine mz E rfl rfl fun a E=>?_
 obtain ⟨x38,e39,hF⟩:=bnd hF
 obtain ⟨b40,o41,es42,hl43,rr44,at45,yy46⟩:=ia E 31 32 qbu hs_0 e39
 obtain ⟨c48,rfl,l47,h49⟩:=rr44
 refine lv E ok (yy46 _ _) fun a E=>fv E qcx rfl fun a E=>lv E ok (qah qd6 rfl (qac.ro (At.sub 1 1 at45))) fun a E=>lv E ok (qau qdZ h49 rfl) fun a E=>lw E (qat rfl rfl) fun a E=>pf E rfl rfl fun a E=>mv E rfl fun a E=>bu E 39 hF (fun c50 hF E=>?_) fun c50 hF E=>?_
 ·refine lsz E fun a E=>lsq E fun a E=>ls E fun a E=>pt E rfl rfl fun a E=>wn<|c_if E rfl (fun _=>?_) (fun h=>by cases h)
  refine sg<|aw E rfl fun a E=>wp_ret<|qae<|qag<|qae ?_
  cases hF
  exact so (sr ⟨rfl,⟨ok,E.d,rz E rfl⟩⟩)
 refine mz E rfl rfl fun a E=>?_
 obtain ⟨x51,e52,hF⟩:=bnd hF
 obtain ⟨b53,o54,es55,hl56,rr57,at58,yy59⟩:=ia E 40 41 qbu hs_0 e52
 obtain ⟨c61,rfl,l60,h62⟩:=rr57
 refine lv E ok (yy59 _ _) fun a E=>fv E qcx rfl fun a E=>lv E ok (qah qd6 rfl (qac.ro (At.sub 1 1 at58))) fun a E=>lv E ok (qau qdZ h62 rfl) fun a E=>lw E (qbN rfl rfl) fun a E=>pf E rfl rfl fun a E=>wn<|cf E rfl hF (fun c63 hF=>?_) fun c63 hF=>?_
 ·refine sg<|aw E rfl fun a E=>wp_ret<|qae<|qag<|qae ?_
  cases hF
  exact so (sr ⟨rfl,⟨ok,E.d,rz E rfl⟩⟩)
 refine wp_skip<|qaa<|sg<|aw E rfl fun a E=>wp_block<|bd hF fun o65 hL hF=>qax _ (fun (s:Int) a w=>Ok u m0 (S) w ∧ Env 95 a [(0,vs_0),(3,vi v4),(4,vi s)] ∧ InR .i64 s) (fun (b:(Unit ⊕ Bool)) e a w=>(Sum.elim (fun b116=>e = (.exit 2) ∧ Ok u m0 (S) w ∧ Env 95 a [(0,vs_0),(3,vi v4)]) (fun b117=>e = .ret ∧ qgz u m0 S b117 a w)) b) ?_ ?_ N _ a w hL ⟨ok,E.keep [0,3,4],(ir 0)⟩
 rotate_left
 ·intro e a w _ hO
  rcases o65 with o65 | o65
  rotate_left
  ·have hF:=qhk hF
   obtain ⟨rfl,hret⟩:=hO
   refine qag<|qag<|qae ?_
   cases hF
   exact so (sr ⟨rfl,hret⟩)
  have hF:=qaX hF
  obtain ⟨rfl,ok,E⟩:=hO
  refine qaz<|qaf<|qaa<|qab<|mv E rfl fun a E=>lw E (qar rfl rfl (InR.inc r5 (qaj hs_0) c6)) fun a E=>av E rfl fun a E=>wpList_nil ?_
  cases hF
  exact qan ⟨ok,E.keep [0,3],(InR.inc r5 (qaj hs_0) c6)⟩
 rintro v67 a w r ⟨ok,E,r68⟩ hF
 replace hF:qcg N s_0 v4 v67 = some r:=hF
 unfold qcg at hF
 refine wp_seq<|sg<|mz E rfl rfl fun a E=>mv E rfl fun a E=>?_
 obtain ⟨x69,e70,hF⟩:=bnd hF
 obtain ⟨b71,o72,es73,hl74,rr75,at76,yy77⟩:=ia E 49 50 qbu hs_0 e70
 obtain ⟨c79,rfl,l78,h80⟩:=rr75
 refine lv E ok (yy77 _ _) fun a E=>fv E qcx rfl fun a E=>lv E ok (qah qd6 rfl (qac.ro (At.sub 1 1 at76))) fun a E=>lv E ok (qau qdZ h80 rfl) fun a E=>lw E (qat rfl rfl) fun a E=>wn<|cg E rfl hF (fun c81 hF=>?_) fun c81 hF=>?_
 ·refine wp_exit<|qap ?_
  cases hF
  exact so (sl ⟨rfl,⟨ok,E.keep [0,3]⟩⟩)
 refine wp_skip<|qaa<|wp_seq<|wp_block<|sg<|mz E rfl rfl fun a E=>?_
 obtain ⟨x82,e83,hF⟩:=bnd hF
 obtain ⟨b84,o85,es86,hl87,rr88,at89,yy90⟩:=ia E 58 59 qbu hs_0 e83
 obtain ⟨c92,rfl,l91,h93⟩:=rr88
 refine lv E ok (yy90 _ _) fun a E=>fv E qcx rfl fun a E=>lv E ok (qah qd6 rfl (qac.ro (At.sub 1 1 at89))) fun a E=>mv E rfl fun a E=>?_
 obtain ⟨x94,e95,hF⟩:=bnd hF
 obtain ⟨b96,o97,es98,hl99,rr100,at101,yy102⟩:=ia E 62 63 qdZ h93 e95
 obtain ⟨c104,rfl,l103,h105,l106⟩:=rr100
 refine lv E ok (yy102 _ _) fun a E=>lv E ok (qam (cs:=[vs x94.Kind,c104,vs x94.Next]) qdt rfl rfl (qac.ro at101)) fun a E=>qaM E ok qde rfl rfl fun b107 a w E ok=>qai E ok 0 rfl rfl rfl qgu rfl rfl ⟨rfl,(qbi h105),rfl,trivial⟩ rfl rfl fun w ok=>wn<|sg<|lv E ok (qam (cs:=[vs x94.Kind,c104,vs x94.Next]) qdt rfl rfl (qac.own 0 rfl rfl)) fun a E=>bd hF fun r108 e109 hF=>lc E qrh rfl (qge N _ x94 ⟨_,rfl,l103,h105,l106⟩ e109 hG ok) fun w ok a E=>lw E (qbj rfl) fun a E=>mv E rfl fun a E=>bu E 69 hF (fun c110 hF E=>?_) fun c110 hF E=>?_
 ·refine lsz E fun a E=>lsz E fun a E=>lsq E fun a E=>pt E rfl rfl fun a E=>wn<|c_if E rfl (fun _=>?_) (fun h=>by cases h)
  refine sg<|aw E rfl fun a E=>wp_ret<|qag<|qae ?_
  cases hF
  exact so (sr ⟨rfl,⟨ok.drop,E.d,rz E rfl⟩⟩)
 refine fk E ok qfK qal rfl 0 rfl rfl fun a E=>lw E (qbn rfl rfl) fun a E=>mv E rfl fun a E=>bw E 73 hF (fun c111 hF E=>?_) fun c111 hF E=>?_
 ·refine lsz E fun a E=>ls E fun a E=>pf E rfl rfl fun a E=>pf E rfl rfl fun a E=>wn<|c_if E rfl (fun h=>by cases h) (fun _=>?_)
  refine wp_skip<|qaf<|qaa<|qab<|mv E rfl fun a E=>lw E (qar rfl rfl (InR.inc r68 (qaj h80) c81)) fun a E=>av E rfl fun a E=>wpList_nil ?_
  cases hF
  exact qan ⟨(ok.pk 1 [] rfl (by decide)),E.keep [0,3,4],(InR.inc r68 (qaj h80) c81)⟩
 refine mv E rfl fun a E=>fk E ok qfK qal rfl 0 rfl rfl fun a E=>bd hF fun r112 e113 hF=>qas E qrz rfl (qgy N _ s_0 hs_0 x94.Next l106 e113 hG ok) rfl rfl ?_
 rintro _ w ⟨⟨rfl,ok⟩,r114⟩
 refine ⟨_,rfl,fun a E=>?_⟩
 refine lw E (qat rfl rfl) fun a E=>pt E rfl rfl fun a E=>pf E rfl rfl fun a E=>wn<|cg E rfl hF (fun c115 hF=>?_) fun c115 hF=>?_
 ·refine wp_skip<|qaf<|qaa<|qab<|mv E rfl fun a E=>lw E (qar rfl rfl (InR.inc r68 (qaj h80) c81)) fun a E=>av E rfl fun a E=>wpList_nil ?_
  cases hF
  exact qan ⟨(ok.pk 1 [] rfl (by decide)),E.keep [0,3,4],(InR.inc r68 (qaj h80) c81)⟩
 refine sg<|aw E rfl fun a E=>wp_ret<|qag<|qae ?_
 cases hF
 exact so (sr ⟨rfl,⟨ok.drop,E.d,rz E rfl⟩⟩)
def qiY (u:World) (m0:Mem) (S:Segs) (r:Bool) (a:Act) (w:World):Prop :=
 Ok u m0 S w ∧ a.defers = [] ∧ RVs Tryz.prog a w [.t 4 (.bool r)]
theorem qmo (N:Nat) (vx_0:List Value) (x_0:Item) (hx_0:qbt m0 vx_0 x_0) (c_1:Int) (rc_1:InR .u8 c_1) {r:Bool} (hF:qfF N x_0 c_1 = some r) (hG:Glob u) (ok:Ok u m0 S w) :
  Calls Tryz.prog 130 [.agg vx_0.toArray,Value.int .u8 c_1].toArray w fun e w'=>(e = .returned (.bool r) ∧ Ok u m0 S w'):=by
 obtain ⟨c2,rfl,l1,h3,r4,r5⟩:=hx_0
 unfold qfF at hF
 refine en (qiY u m0 S) r Tryz.func130 rfl rfl rfl (fun _ _ h=>ra h rfl) fun fin a E=>sg<|qcC E ok rfl rfl rfl fun b6 a w E ok=>aw E rfl fun a E=>wp_seq<|sg<|aw E rfl fun a E=>wp_block<|bd hF fun o8 hL hF=>qax _ (fun (s:Int) a w=>Ok u m0 ([(b6,oc 138 [vs x_0.Text,c2,vb x_0.Not,vi x_0.Least,vi x_0.Most])] :: S) w ∧ Env 36 a [(1,(Value.int .u8 c_1)),(2,vp b6),(5,vi s)] ∧ InR .i64 s) (fun (b:(Unit ⊕ Bool)) e a w=>(Sum.elim (fun b37=>e = (.exit 0) ∧ Ok u m0 ([(b6,oc 138 [vs x_0.Text,c2,vb x_0.Not,vi x_0.Least,vi x_0.Most])] :: S) w ∧ Env 36 a [(2,vp b6)]) (fun b38=>e = .ret ∧ qiY u m0 S b38 a w)) b) ?_ ?_ N _ a w hL ⟨ok,E.keep [1,2,5],(ir 0)⟩
 rotate_left
 ·intro e a w _ hO
  rcases o8 with o8 | o8
  rotate_left
  ·obtain ⟨rfl,hret⟩:=hO
   refine qag<|qae ?_
   exact fin hF hret
  have hF:=qaX hF
  obtain ⟨rfl,ok,E⟩:=hO
  refine qaz<|qaa<|sg<|fk E ok qhB qhb rfl 0 rfl rfl fun a E=>av E rfl fun a E=>wn<|wp_ret ?_
  exact fin hF ⟨ok.drop,E.d,rz E rfl⟩
 rintro v10 a w r ⟨ok,E,r11⟩ hF
 replace hF:qeh N x_0 c_1 v10 = some r:=hF
 unfold qeh at hF
 refine wp_seq<|sg<|mv E rfl fun a E=>fk E ok qa8 qbB rfl 0 rfl rfl fun a E=>lv E ok (qau qbx h3 rfl) fun a E=>lw E (qat rfl rfl) fun a E=>wn<|cg E rfl hF (fun c12 hF=>?_) fun c12 hF=>?_
 ·refine wp_exit<|qap ?_
  cases hF
  exact so (sl ⟨rfl,⟨ok,E.keep [2]⟩⟩)
 refine wp_skip<|qaa<|wp_seq<|wp_block<|sg<|mv E rfl fun a E=>fv E qa8 rfl fun a E=>ld E ok qbB 0 rfl rfl rfl fun a E=>mv E rfl fun a E=>?_
 obtain ⟨x13,e14,hF⟩:=bnd hF
 obtain ⟨b15,o16,es17,hl18,rr19,at20,yy21⟩:=ia E 15 16 qbx h3 e14
 obtain ⟨rfl,r22,r23⟩:=rr19
 refine lv E ok (yy21 _ _) fun a E=>fv E qjj rfl fun a E=>lv E ok (qah qfa rfl (qac.ro (At.sub 0 1 at20))) fun a E=>lw E (qa2 rfl rfl) fun a E=>mv E rfl fun a E=>bw E 21 hF (fun c24 hF E=>?_) fun c24 hF E=>?_
 ·refine lsz E fun a E=>lsz E fun a E=>pf E rfl rfl fun a E=>wn<|c_if E rfl (fun h=>by cases h) (fun _=>?_)
  refine wp_skip<|qaf<|qaa<|qab<|mv E rfl fun a E=>lw E (qar rfl rfl (InR.inc r11 (qaj h3) c12)) fun a E=>av E rfl fun a E=>wpList_nil ?_
  cases hF
  exact qan ⟨ok,E.keep [1,2,5],(InR.inc r11 (qaj h3) c12)⟩
 refine mv E rfl fun a E=>fk E ok qa8 qbB rfl 0 rfl rfl fun a E=>mv E rfl fun a E=>?_
 obtain ⟨x25,e26,hF⟩:=bnd hF
 obtain ⟨b27,o28,es29,hl30,rr31,at32,yy33⟩:=ia E 24 25 qbx h3 e26
 obtain ⟨rfl,r34,r35⟩:=rr31
 refine lv E ok (yy33 _ _) fun a E=>fv E qjm rfl fun a E=>lv E ok (qah qfa rfl (qac.ro (At.sub 1 1 at32))) fun a E=>lw E (qb2 rfl rfl) fun a E=>pt E rfl rfl fun a E=>wn<|cg E rfl hF (fun c36 hF=>?_) fun c36 hF=>?_
 ·refine wp_skip<|qaf<|qaa<|qab<|mv E rfl fun a E=>lw E (qar rfl rfl (InR.inc r11 (qaj h3) c12)) fun a E=>av E rfl fun a E=>wpList_nil ?_
  cases hF
  exact qan ⟨ok,E.keep [1,2,5],(InR.inc r11 (qaj h3) c12)⟩
 refine sg<|fk E ok qhB qhb rfl 0 rfl rfl fun a E=>lw E (qbj rfl) fun a E=>aw E rfl fun a E=>wp_ret<|qag<|qae ?_
 cases hF
 exact so (sr ⟨rfl,⟨ok.drop,E.d,rz E rfl⟩⟩)
def qk1 (u:World) (m0:Mem) (S:Segs) (r:Int) (a:Act) (w:World):Prop :=
 Ok u m0 S w ∧ a.defers = [] ∧ RVs Tryz.prog a w [.t 6 (.int .i64 r)] ∧ InR .i64 r
theorem qe9 (N:Nat) (vx_0:List Value) (x_0:Item) (hx_0:qbt m0 vx_0 x_0) (s_1:List UInt8) (ls_1:s_1.length ≤ LIMS) (at_2:Int) (rat_2:InR .i64 at_2) {r:Int} (hF:qcu N x_0 s_1 at_2 = some r) (hG:Glob u) (ok:Ok u m0 S w) :
  Calls Tryz.prog 108 [.agg vx_0.toArray,vs s_1,vi at_2].toArray w fun e w'=>(e = .returned (.int .i64 r) ∧ Ok u m0 S w') ∧ InR .i64 r:=by
 obtain ⟨c2,rfl,l1,h3,r4,r5⟩:=hx_0
 unfold qcu at hF
 refine en (qk1 u m0 S) r Tryz.func108 rfl rfl rfl (fun _ _ h=>rb h rfl) fun fin a E=>sg<|qcC E ok rfl rfl rfl fun b6 a w E ok=>aw E rfl fun a E=>wp_seq<|wp_block<|wp_seq<|qaY (by kernel_rfl) (by kernel_rfl) ok<|qv E (qak qbE rfl) fun a E=>qv E (qah qal rfl (qac.own 0 rfl rfl)) fun a E=>qv E (qaG rfl rfl) fun a E=>qv E (qad rfl) fun a E=>bw E 11 hF (fun c7 hF E=>?_) fun c7 hF E=>?_
 ·as_aux_lemma =>
   refine qs E fun a E=>qs E fun a E=>qs E fun a E=>qs E fun a E=>qv E (qbq rfl rfl) fun a E=>qv E (qad rfl) fun a E=>qs E fun a E=>qs E fun a E=>qs E fun a E=>qs E fun a E=>qs E fun a E=>qv E (qbq rfl rfl) fun a E=>qv E (qaq rfl) fun a E=>wpQuiet_nil ?_
   intro w ok
   refine qaa<|c_if E rfl (fun h=>by cases h) (fun _=>?_)
   refine wp_seq<|qaY (by kernel_rfl) (by kernel_rfl) ok<|qv E (qak qbE rfl) fun a E=>qv E (qah qal rfl (qac.own 0 rfl rfl)) fun a E=>qv E (qbn rfl rfl) fun a E=>qv E (qad rfl) fun a E=>bw E 28 hF (fun c24 hF E=>?_) fun c24 hF E=>?_
   ·refine qs E fun a E=>qs E fun a E=>qs E fun a E=>qs E fun a E=>qs E fun a E=>qs E fun a E=>qs E fun a E=>qs E fun a E=>qv E (qbq rfl rfl) fun a E=>qv E (qad rfl) fun a E=>qs E fun a E=>qs E fun a E=>qs E fun a E=>qs E fun a E=>qs E fun a E=>qs E fun a E=>qs E fun a E=>qs E fun a E=>qs E fun a E=>qs E fun a E=>qs E fun a E=>qv E (qbq rfl rfl) fun a E=>qv E (qaq rfl) fun a E=>wpQuiet_nil ?_
    intro w ok
    refine qaa<|c_if E rfl (fun h=>by cases h) (fun _=>?_)
    refine wp_skip<|qaf<|qaa<|sg<|aw E rfl fun a E=>wp_ret ?_
    exact fin hF ⟨ok.drop,E.d,rz E rfl,(ir (-1))⟩
   refine qv E (qad rfl) fun a E=>qv E (qak qbE rfl) fun a E=>qv E (qah qal rfl (qac.own 0 rfl rfl)) fun a E=>qv E (qaA Tryz.underlying9 rfl) fun a E=>qv E (qav rfl rfl) fun a E=>qv E (qad rfl) fun a E=>qv E (qaA Tryz.underlying9 rfl) fun a E=>qv E (qb2 rfl rfl) fun a E=>qv E (qb5 rfl rfl) fun a E=>qv E (qad rfl) fun a E=>bw E 38 hF (fun c25 hF E=>?_) fun c25 hF E=>?_
   ·refine qs E fun a E=>qs E fun a E=>qs E fun a E=>qs E fun a E=>qs E fun a E=>qs E fun a E=>qs E fun a E=>qs E fun a E=>qs E fun a E=>qs E fun a E=>qs E fun a E=>qv E (qbq rfl rfl) fun a E=>qv E (qaq rfl) fun a E=>wpQuiet_nil ?_
    intro w ok
    refine qaa<|c_if E rfl (fun h=>by cases h) (fun _=>?_)
    refine wp_skip<|qaf<|qaa<|sg<|aw E rfl fun a E=>wp_ret ?_
    exact fin hF ⟨ok.drop,E.d,rz E rfl,(ir (-1))⟩
   refine qv E (qad rfl) fun a E=>qv E (qad rfl) fun a E=>qv E (qad rfl) fun a E=>qv E (qak qbE rfl) fun a E=>qv E (qah qal rfl (qac.own 0 rfl rfl)) fun a E=>qv E (qaA Tryz.underlying9 rfl) fun a E=>qv E (qav rfl rfl) fun a E=>bd hF fun s26 e27 hF=>qv E (qaF Tryz.underlying9 e27 rfl ⟨_,rfl⟩ ⟨_,rfl⟩) fun a E=>qv E (qak qbE rfl) fun a E=>qv E (qah qal rfl (qac.own 0 rfl rfl)) fun a E=>qv E (qaG rfl rfl) fun a E=>qv E (qb5 rfl rfl) fun a E=>qv E (qaq rfl) fun a E=>wpQuiet_nil ?_
   intro w ok
   refine qaa<|cg E rfl hF (fun c28 hF=>?_) fun c28 hF=>?_
   ·refine wp_skip<|qaf<|qaa<|sg<|aw E rfl fun a E=>wp_ret ?_
    exact fin hF ⟨ok.drop,E.d,rz E rfl,(ir (-1))⟩
   refine sg<|fk E ok qbE qal rfl 0 rfl rfl fun a E=>lw E (qaA Tryz.underlying9 rfl) fun a E=>aw E rfl fun a E=>wp_ret<|qag<|qae ?_
   exact fin hF ⟨ok.drop,E.d,rz E rfl,(InR.len l1)⟩
 refine qv E (qad rfl) fun a E=>qv E (qad rfl) fun a E=>qv E (qaA Tryz.underlying9 rfl) fun a E=>qv E (qat rfl rfl) fun a E=>qv E (qb5 rfl rfl) fun a E=>qv E (qad rfl) fun a E=>bw E 17 hF (fun c8 hF E=>?_) fun c8 hF E=>?_
 ·as_aux_lemma =>
   refine qs E fun a E=>qs E fun a E=>qs E fun a E=>qs E fun a E=>qs E fun a E=>qv E (qbq rfl rfl) fun a E=>qv E (qaq rfl) fun a E=>wpQuiet_nil ?_
   intro w ok
   refine qaa<|c_if E rfl (fun h=>by cases h) (fun _=>?_)
   refine wp_seq<|qaY (by kernel_rfl) (by kernel_rfl) ok<|qv E (qak qbE rfl) fun a E=>qv E (qah qal rfl (qac.own 0 rfl rfl)) fun a E=>qv E (qbn rfl rfl) fun a E=>qv E (qad rfl) fun a E=>bw E 28 hF (fun c19 hF E=>?_) fun c19 hF E=>?_
   ·refine qs E fun a E=>qs E fun a E=>qs E fun a E=>qs E fun a E=>qs E fun a E=>qs E fun a E=>qs E fun a E=>qs E fun a E=>qv E (qbq rfl rfl) fun a E=>qv E (qad rfl) fun a E=>qs E fun a E=>qs E fun a E=>qs E fun a E=>qs E fun a E=>qs E fun a E=>qs E fun a E=>qs E fun a E=>qs E fun a E=>qs E fun a E=>qs E fun a E=>qs E fun a E=>qv E (qbq rfl rfl) fun a E=>qv E (qaq rfl) fun a E=>wpQuiet_nil ?_
    intro w ok
    refine qaa<|c_if E rfl (fun h=>by cases h) (fun _=>?_)
    refine wp_skip<|qaf<|qaa<|sg<|aw E rfl fun a E=>wp_ret ?_
    exact fin hF ⟨ok.drop,E.d,rz E rfl,(ir (-1))⟩
   refine qv E (qad rfl) fun a E=>qv E (qak qbE rfl) fun a E=>qv E (qah qal rfl (qac.own 0 rfl rfl)) fun a E=>qv E (qaA Tryz.underlying9 rfl) fun a E=>qv E (qav rfl rfl) fun a E=>qv E (qad rfl) fun a E=>qv E (qaA Tryz.underlying9 rfl) fun a E=>qv E (qb2 rfl rfl) fun a E=>qv E (qb5 rfl rfl) fun a E=>qv E (qad rfl) fun a E=>bw E 38 hF (fun c20 hF E=>?_) fun c20 hF E=>?_
   ·refine qs E fun a E=>qs E fun a E=>qs E fun a E=>qs E fun a E=>qs E fun a E=>qs E fun a E=>qs E fun a E=>qs E fun a E=>qs E fun a E=>qs E fun a E=>qs E fun a E=>qv E (qbq rfl rfl) fun a E=>qv E (qaq rfl) fun a E=>wpQuiet_nil ?_
    intro w ok
    refine qaa<|c_if E rfl (fun h=>by cases h) (fun _=>?_)
    refine wp_skip<|qaf<|qaa<|sg<|aw E rfl fun a E=>wp_ret ?_
    exact fin hF ⟨ok.drop,E.d,rz E rfl,(ir (-1))⟩
   refine qv E (qad rfl) fun a E=>qv E (qad rfl) fun a E=>qv E (qad rfl) fun a E=>qv E (qak qbE rfl) fun a E=>qv E (qah qal rfl (qac.own 0 rfl rfl)) fun a E=>qv E (qaA Tryz.underlying9 rfl) fun a E=>qv E (qav rfl rfl) fun a E=>bd hF fun s21 e22 hF=>qv E (qaF Tryz.underlying9 e22 rfl ⟨_,rfl⟩ ⟨_,rfl⟩) fun a E=>qv E (qak qbE rfl) fun a E=>qv E (qah qal rfl (qac.own 0 rfl rfl)) fun a E=>qv E (qaG rfl rfl) fun a E=>qv E (qb5 rfl rfl) fun a E=>qv E (qaq rfl) fun a E=>wpQuiet_nil ?_
   intro w ok
   refine qaa<|cg E rfl hF (fun c23 hF=>?_) fun c23 hF=>?_
   ·refine wp_skip<|qaf<|qaa<|sg<|aw E rfl fun a E=>wp_ret ?_
    exact fin hF ⟨ok.drop,E.d,rz E rfl,(ir (-1))⟩
   refine sg<|fk E ok qbE qal rfl 0 rfl rfl fun a E=>lw E (qaA Tryz.underlying9 rfl) fun a E=>aw E rfl fun a E=>wp_ret<|qag<|qae ?_
   exact fin hF ⟨ok.drop,E.d,rz E rfl,(InR.len l1)⟩
 refine qv E (qam (cs:=[vs x_0.Text,c2,vb x_0.Not,vi x_0.Least,vi x_0.Most]) qaU rfl rfl (qac.own 0 rfl rfl)) fun a E=>qv E (qad rfl) fun a E=>qv E (qad rfl) fun a E=>bd hF fun c9 e10 hF=>qv E (qaQ Tryz.underlying9 rfl rfl e10) fun a E=>bd hF fun r11 e12 hF=>qfZ E qvG rfl (fun w ok=>(qmo N _ x_0 ⟨_,rfl,l1,h3,r4,r5⟩ (c9.toNat:Int) (InR.byte c9) e12 hG ok).mono (fun _ _ h=>h)) rfl rfl fun a E=>qv E (qb5 rfl rfl) fun a E=>qv E (qaq rfl) fun a E=>wpQuiet_nil ?_
 intro w ok
 refine qaa<|cf E rfl hF (fun c13 hF=>?_) fun c13 hF=>?_
 ·refine sg<|aw E rfl fun a E=>wp_ret<|qag<|qae ?_
  exact fin hF ⟨ok.drop,E.d,rz E rfl,(ir 1)⟩
 refine wp_seq<|qaY (by kernel_rfl) (by kernel_rfl) ok<|qv E (qak qbE rfl) fun a E=>qv E (qah qal rfl (qac.own 0 rfl rfl)) fun a E=>qv E (qbn rfl rfl) fun a E=>qv E (qad rfl) fun a E=>bw E 28 hF (fun c14 hF E=>?_) fun c14 hF E=>?_
 ·refine qs E fun a E=>qs E fun a E=>qs E fun a E=>qs E fun a E=>qs E fun a E=>qs E fun a E=>qs E fun a E=>qs E fun a E=>qv E (qbq rfl rfl) fun a E=>qv E (qad rfl) fun a E=>qs E fun a E=>qs E fun a E=>qs E fun a E=>qs E fun a E=>qs E fun a E=>qs E fun a E=>qs E fun a E=>qs E fun a E=>qs E fun a E=>qs E fun a E=>qs E fun a E=>qv E (qbq rfl rfl) fun a E=>qv E (qaq rfl) fun a E=>wpQuiet_nil ?_
  intro w ok
  refine qaa<|c_if E rfl (fun h=>by cases h) (fun _=>?_)
  refine wp_skip<|qaf<|qaa<|sg<|aw E rfl fun a E=>wp_ret ?_
  exact fin hF ⟨ok.drop,E.d,rz E rfl,(ir (-1))⟩
 refine qv E (qad rfl) fun a E=>qv E (qak qbE rfl) fun a E=>qv E (qah qal rfl (qac.own 0 rfl rfl)) fun a E=>qv E (qaA Tryz.underlying9 rfl) fun a E=>qv E (qav rfl rfl) fun a E=>qv E (qad rfl) fun a E=>qv E (qaA Tryz.underlying9 rfl) fun a E=>qv E (qb2 rfl rfl) fun a E=>qv E (qb5 rfl rfl) fun a E=>qv E (qad rfl) fun a E=>bw E 38 hF (fun c15 hF E=>?_) fun c15 hF E=>?_
 ·refine qs E fun a E=>qs E fun a E=>qs E fun a E=>qs E fun a E=>qs E fun a E=>qs E fun a E=>qs E fun a E=>qs E fun a E=>qs E fun a E=>qs E fun a E=>qs E fun a E=>qv E (qbq rfl rfl) fun a E=>qv E (qaq rfl) fun a E=>wpQuiet_nil ?_
  intro w ok
  refine qaa<|c_if E rfl (fun h=>by cases h) (fun _=>?_)
  refine wp_skip<|qaf<|qaa<|sg<|aw E rfl fun a E=>wp_ret ?_
  exact fin hF ⟨ok.drop,E.d,rz E rfl,(ir (-1))⟩
 refine qv E (qad rfl) fun a E=>qv E (qad rfl) fun a E=>qv E (qad rfl) fun a E=>qv E (qak qbE rfl) fun a E=>qv E (qah qal rfl (qac.own 0 rfl rfl)) fun a E=>qv E (qaA Tryz.underlying9 rfl) fun a E=>qv E (qav rfl rfl) fun a E=>bd hF fun s16 e17 hF=>qv E (qaF Tryz.underlying9 e17 rfl ⟨_,rfl⟩ ⟨_,rfl⟩) fun a E=>qv E (qak qbE rfl) fun a E=>qv E (qah qal rfl (qac.own 0 rfl rfl)) fun a E=>qv E (qaG rfl rfl) fun a E=>qv E (qb5 rfl rfl) fun a E=>qv E (qaq rfl) fun a E=>wpQuiet_nil ?_
 intro w ok
 refine qaa<|cg E rfl hF (fun c18 hF=>?_) fun c18 hF=>?_
 ·refine wp_skip<|qaf<|qaa<|sg<|aw E rfl fun a E=>wp_ret ?_
  exact fin hF ⟨ok.drop,E.d,rz E rfl,(ir (-1))⟩
 refine sg<|fk E ok qbE qal rfl 0 rfl rfl fun a E=>lw E (qaA Tryz.underlying9 rfl) fun a E=>aw E rfl fun a E=>wp_ret<|qag<|qae ?_
 exact fin hF ⟨ok.drop,E.d,rz E rfl,(InR.len l1)⟩
def qh9 (u:World) (m0:Mem) (S:Segs) (r:Int × Bool) (a:Act) (w:World):Prop :=
 Ok u m0 S w ∧ a.defers = [] ∧ RVs Tryz.prog a w [.t 6 (.int .i64 r.1),.t 7 (.bool r.2)] ∧ InR .i64 r.1
theorem qk6 (N:Nat) (vitems_0:Value) (items_0:List (Item)) (hitems_0:(pL 5 qbt) m0 [vitems_0] items_0) (s_1:List UInt8) (ls_1:s_1.length ≤ LIMS) (at_2:Int) (rat_2:InR .i64 at_2) {r:Int × Bool} (hF:qeE N items_0 s_1 at_2 = some r) (hG:Glob u) (ok:Ok u m0 S w) :
  Calls Tryz.prog 86 [vitems_0,vs s_1,vi at_2].toArray w fun e w'=>(e = .returned (.tuple [(.int .i64 r.1),(.bool r.2)].toArray) ∧ Ok u m0 S w') ∧ InR .i64 r.1:=by
 unfold qeE at hF
 refine en (qh9 u m0 S) r Tryz.func86 rfl rfl rfl (by rintro a w ⟨ok,hd,hrv,h0⟩; exact qbs [.t 6 (.int .i64 r.1),.t 7 (.bool r.2)] hd rfl hrv ⟨⟨rfl,ok⟩,h0⟩) fun fin a E=>sg<|av E rfl fun a E=>aw E rfl fun a E=>wp_seq<|sg<|mv E rfl fun a E=>lw E (qat rfl rfl) fun a E=>mv E rfl fun a E=>bu E 14 hF (fun c1 hF E=>?_) fun c1 hF E=>?_
 ·refine lsz E fun a E=>pt E rfl rfl fun a E=>wn<|c_if E rfl (fun _=>?_) (fun h=>by cases h)
  refine sg<|av E rfl fun a E=>aw E rfl fun a E=>wp_ret<|qae ?_
  exact fin hF ⟨ok,E.d,⟨rv_t E rfl,rv_t E rfl,trivial⟩,(ir 0)⟩
 refine mz E rfl rfl fun a E=>lw E (qaA Tryz.underlying9 rfl) fun a E=>lw E (qbN rfl rfl) fun a E=>pf E rfl rfl fun a E=>wn<|cf E rfl hF (fun c2 hF=>?_) fun c2 hF=>?_
 ·refine sg<|av E rfl fun a E=>aw E rfl fun a E=>wp_ret<|qae ?_
  exact fin hF ⟨ok,E.d,⟨rv_t E rfl,rv_t E rfl,trivial⟩,(ir 0)⟩
 refine wp_skip<|qaa<|sg<|mv E rfl fun a E=>aw E rfl fun a E=>wp_seq<|sg<|aw E rfl fun a E=>wp_block<|bd hF fun o5 hL hF=>qax _ (fun (s:Int × Int) a w=>Ok u m0 (S) w ∧ Env 62 a [(0,vitems_0),(1,vs s_1),(2,vi s.1),(8,vi at_2),(9,vi s.2)] ∧ InR .i64 s.1 ∧ InR .i64 s.2) (fun (b:(Int ⊕ (Int × Bool))) e a w=>(Sum.elim (fun b59=>e = (.exit 0) ∧ Ok u m0 (S) w ∧ Env 62 a [(2,vi b59),(8,vi at_2)] ∧ InR .i64 b59) (fun b61=>e = .ret ∧ qh9 u m0 S b61 a w)) b) ?_ ?_ N _ a w hL ⟨ok,E.keep [0,1,2,8,9],rat_2,(ir 0)⟩
 rotate_left
 ·intro e a w _ hO
  rcases o5 with o5 | o5
  rotate_left
  ·obtain ⟨rfl,hret⟩:=hO
   refine qag<|qae ?_
   exact fin hF hret
  have hF:=qaX hF
  obtain ⟨rfl,ok,E,r58⟩:=hO
  refine qaz<|qaa<|sg<|mz E rfl rfl fun a E=>lw E (qbo rfl rfl) fun a E=>av E rfl fun a E=>aw E rfl fun a E=>wp_ret ?_
  exact fin hF ⟨ok,E.d,⟨rv_t E rfl,rv_t E rfl,trivial⟩,(InR.wrap _ _)⟩
 rintro ⟨v8,v9⟩ a w r ⟨ok,E,r10,r11⟩ hF
 replace hF:qbL N items_0 s_1 v8 v9 = some r:=hF
 unfold qbL at hF
 refine wp_seq<|sg<|mz E rfl rfl fun a E=>lv E ok (qau qcm hitems_0 rfl) fun a E=>lw E (qat rfl rfl) fun a E=>wn<|cg E rfl hF (fun c12 hF=>?_) fun c12 hF=>?_
 ·refine wp_exit<|qap ?_
  cases hF
  exact so (sl ⟨rfl,⟨ok,E.keep [2,8],r10⟩⟩)
 refine wp_skip<|qaa<|wp_seq<|wp_block<|sg<|mz E rfl rfl fun a E=>?_
 obtain ⟨x13,e14,hF⟩:=bnd hF
 obtain ⟨b15,o16,es17,hl18,rr19,at20,yy21⟩:=ia E 27 28 qcm hitems_0 e14
 obtain ⟨c23,rfl,l22,h24,r25,r26⟩:=rr19
 refine lv E ok (yy21 _ _) fun a E=>lv E ok (qam (cs:=[vs x13.Text,c23,vb x13.Not,vi x13.Least,vi x13.Most]) qaU rfl rfl (qac.ro at20)) fun a E=>qaM E ok qbp rfl rfl fun b27 a w E ok=>qai E ok 0 rfl rfl rfl qbg rfl rfl ⟨rfl,(qbi h24),rfl,rfl,rfl,trivial⟩ rfl rfl fun w ok=>wn<|sg<|aw E rfl fun a E=>wp_seq<|wp_block<|bd hF fun o30 hL hF=>qax _ (fun (s:Int × Int) a w=>Ok u m0 ([(b27,oc 138 [vs x13.Text,c23,vb x13.Not,vi x13.Least,vi x13.Most])] :: S) w ∧ Env 62 a [(0,vitems_0),(1,vs s_1),(2,vi s.1),(8,vi at_2),(9,vi v9),(10,vp b27),(11,vi s.2)] ∧ InR .i64 s.1 ∧ InR .i64 s.2) (fun (b:(Int × Int)) e a w=>e = (.exit 2) ∧ Ok u m0 ([(b27,oc 138 [vs x13.Text,c23,vb x13.Not,vi x13.Least,vi x13.Most])] :: S) w ∧ Env 62 a [(0,vitems_0),(1,vs s_1),(2,vi b.1),(8,vi at_2),(9,vi v9),(10,vp b27),(11,vi b.2)] ∧ InR .i64 b.1 ∧ InR .i64 b.2) ?_ ?_ N _ a w hL ⟨ok,E.keep [0,1,2,8,9,10,11],r10,(ir 0)⟩
 rotate_left
 ·intro e a w _ hO
  obtain ⟨rfl,ok,E,r53,r54⟩:=hO
  refine qaz<|qaa<|sg<|mv E rfl fun a E=>fk E ok qd7 qaJ rfl 0 rfl rfl fun a E=>lw E (qat rfl rfl) fun a E=>wn<|cg E rfl hF (fun c55 hF=>?_) fun c55 hF=>?_
  ·refine wp_skip<|qaf<|qaa<|qab<|mv E rfl fun a E=>lw E (qar rfl rfl (InR.inc r11 (qaj hitems_0) c12)) fun a E=>av E rfl fun a E=>wpList_nil ?_
   cases hF
   exact qan ⟨(ok.pk 1 [] rfl (by decide)),E.keep [0,1,2,8,9],r53,(InR.inc r11 (qaj hitems_0) c12)⟩
  refine sg<|av E rfl fun a E=>aw E rfl fun a E=>wp_ret<|qag<|qae ?_
  cases hF
  exact so (sr ⟨rfl,⟨ok.drop,E.d,⟨rv_t E rfl,rv_t E rfl,trivial⟩,(ir 0)⟩⟩)
 rintro ⟨v33,v34⟩ a w r ⟨ok,E,r35,r36⟩ hF
 replace hF:qch N s_1 x13 v33 v34 = some r:=hF
 unfold qch at hF
 refine wp_seq<|sg<|fk E ok qdI qaJ rfl 0 rfl rfl fun a E=>lw E (qat rfl rfl) fun a E=>mv E rfl fun a E=>bu E 34 hF (fun c37 hF E=>?_) fun c37 hF E=>?_
 ·refine lsz E fun a E=>pt E rfl rfl fun a E=>mv E rfl fun a E=>lv E ok (qam (cs:=[vs x13.Text,c23,vb x13.Not,vi x13.Least,vi x13.Most]) qaU rfl rfl (qac.own 0 rfl rfl)) fun a E=>mv E rfl fun a E=>mv E rfl fun a E=>bd hF fun r38 e39 hF=>qas E qm5 rfl (qe9 N _ x13 ⟨_,rfl,l22,h24,r25,r26⟩ s_1 ls_1 v33 r35 e39 hG ok) rfl rfl ?_
  rintro _ w ⟨⟨rfl,ok⟩,r40⟩
  refine ⟨_,rfl,fun a E=>?_⟩
  refine lw E (qa2 rfl rfl) fun a E=>pt E rfl rfl fun a E=>wn<|cg E rfl hF (fun c41 hF=>?_) fun c41 hF=>?_
  ·refine wp_exit<|qap ?_
   cases hF
   exact so (⟨rfl,⟨ok,E.keep [0,1,2,8,9,10,11],r35,r36⟩⟩)
  refine wp_skip<|qaa<|wp_block<|sg<|mv E rfl fun a E=>lv E ok (qam (cs:=[vs x13.Text,c23,vb x13.Not,vi x13.Least,vi x13.Most]) qaU rfl rfl (qac.own 0 rfl rfl)) fun a E=>mv E rfl fun a E=>mv E rfl fun a E=>bd hF fun r42 e43 hF=>qas E qm5 rfl (qe9 N _ x13 ⟨_,rfl,l22,h24,r25,r26⟩ s_1 ls_1 v33 r35 e43 hG ok) rfl rfl ?_
  rintro _ w ⟨⟨rfl,ok⟩,r44⟩
  refine ⟨_,rfl,fun a E=>?_⟩
  refine lw E (qav rfl rfl) fun a E=>aw E rfl fun a E=>qab<|mv E rfl fun a E=>lw E (qav rfl rfl) fun a E=>av E rfl fun a E=>wpList_nil<|qaf ?_
  cases hF
  exact qan ⟨ok,E.keep [0,1,2,8,9,10,11],(InR.wrap _ _),(InR.wrap _ _)⟩
 refine mv E rfl fun a E=>fk E ok qdI qaJ rfl 0 rfl rfl fun a E=>lw E (qat rfl rfl) fun a E=>pf E rfl rfl fun a E=>mv E rfl fun a E=>bw E 40 hF (fun c45 hF E=>?_) fun c45 hF E=>?_
 ·refine lsz E fun a E=>ls E fun a E=>pf E rfl rfl fun a E=>wn<|c_if E rfl (fun h=>by cases h) (fun _=>?_)
  refine wp_exit<|qap ?_
  cases hF
  exact so (⟨rfl,⟨ok,E.keep [0,1,2,8,9,10,11],r35,r36⟩⟩)
 refine lv E ok (qam (cs:=[vs x13.Text,c23,vb x13.Not,vi x13.Least,vi x13.Most]) qaU rfl rfl (qac.own 0 rfl rfl)) fun a E=>mz E rfl rfl fun a E=>bd hF fun r46 e47 hF=>qas E qm5 rfl (qe9 N _ x13 ⟨_,rfl,l22,h24,r25,r26⟩ s_1 ls_1 v33 r35 e47 hG ok) rfl rfl ?_
 rintro _ w ⟨⟨rfl,ok⟩,r48⟩
 refine ⟨_,rfl,fun a E=>?_⟩
 refine lw E (qa2 rfl rfl) fun a E=>pt E rfl rfl fun a E=>wn<|cg E rfl hF (fun c49 hF=>?_) fun c49 hF=>?_
 ·refine wp_exit<|qap ?_
  cases hF
  exact so (⟨rfl,⟨ok,E.keep [0,1,2,8,9,10,11],r35,r36⟩⟩)
 refine wp_skip<|qaa<|wp_block<|sg<|mv E rfl fun a E=>lv E ok (qam (cs:=[vs x13.Text,c23,vb x13.Not,vi x13.Least,vi x13.Most]) qaU rfl rfl (qac.own 0 rfl rfl)) fun a E=>mv E rfl fun a E=>mv E rfl fun a E=>bd hF fun r50 e51 hF=>qas E qm5 rfl (qe9 N _ x13 ⟨_,rfl,l22,h24,r25,r26⟩ s_1 ls_1 v33 r35 e51 hG ok) rfl rfl ?_
 rintro _ w ⟨⟨rfl,ok⟩,r52⟩
 refine ⟨_,rfl,fun a E=>?_⟩
 refine lw E (qav rfl rfl) fun a E=>aw E rfl fun a E=>qab<|mv E rfl fun a E=>lw E (qar rfl rfl (InR.inc r36 r26 c45)) fun a E=>av E rfl fun a E=>wpList_nil<|qaf ?_
 cases hF
 exact qan ⟨ok,E.keep [0,1,2,8,9,10,11],(InR.wrap _ _),(InR.inc r36 r26 c45)⟩
def qiy (u:World) (m0:Mem) (S:Segs) (r:Token × Int × Int) (a:Act) (w:World):Prop :=
 ∃ m1 v0,m0.le m1 ∧ Ok u m1 S w ∧ a.defers = [] ∧ RVs Tryz.prog a w [.c 8 28 (.agg v0.toArray),.t 9 (.int .i64 r.2.1),.t 10 (.int .i64 r.2.2)] ∧ qaE m1 v0 r.1 ∧ InR .i64 r.2.1 ∧ InR .i64 r.2.2
theorem qlG (N:Nat) (vscript_0:Value) (script_0:List (State)) (hscript_0:(pL 2 qbA) m0 [vscript_0] script_0) (state_1:Int) (rstate_1:InR .i64 state_1) (s_2:List UInt8) (ls_2:s_2.length ≤ LIMS) (at_3:Int) (rat_3:InR .i64 at_3) {r:Token × Int × Int} (hF:qe6 N script_0 state_1 s_2 at_3 = some r) (hG:Glob u) (ok:Ok u m0 S w) :
  Calls Tryz.prog 63 [vscript_0,vi state_1,vs s_2,vi at_3].toArray w fun e w'=>∃ m1 v0,e = .returned (.tuple [(.agg v0.toArray),(.int .i64 r.2.1),(.int .i64 r.2.2)].toArray) ∧ m0.le m1 ∧ Ok u m1 S w' ∧ qaE m1 v0 r.1 ∧ InR .i64 r.2.1 ∧ InR .i64 r.2.2:=by
 have le_m0:=Mem.le.refl m0
 unfold qe6 at hF
 refine en (qiy u m0 S) r Tryz.func63 rfl rfl rfl (by rintro a w ⟨m1,v0,hle,ok,hd,hrv,h0,h1,h2⟩; exact qbs [.c 8 28 (.agg v0.toArray),.t 9 (.int .i64 r.2.1),.t 10 (.int .i64 r.2.2)] hd rfl hrv ⟨m1,v0,rfl,hle,ok,h0,h1,h2⟩) fun fin a E=>sg<|qaM E ok qb9 rfl rfl fun b1 a w E ok=>av E rfl fun a E=>aw E rfl fun a E=>wp_seq<|wp_block<|sg<|mv E rfl fun a E=>bd hF fun r2 e3 hF=>lc E qoS rfl (qe8 N _ script_0 hscript_0 e3 hG ok) fun w ok a E=>lw E (qbj rfl) fun a E=>aw E rfl fun a E=>cf E rfl hF (fun c4 hF=>?_) fun c4 hF=>?_
 ·refine sg<|lw E (qaR (ps:=[]) (qs:=[]) (cs:=[(vs ([])),(vs ([])),vi 0]) qb9 qf4 rfl trivial rfl) fun a E=>qai E ok 0 rfl rfl rfl qhR rfl rfl ⟨rfl,rfl,rfl,trivial⟩ rfl rfl fun w ok=>av E rfl fun a E=>aw E rfl fun a E=>wp_ret<|qag<|qae ?_
  exact fin hF ⟨m0,[(vs ([])),(vs ([])),vi 0],le_m0,ok.drop,E.d,⟨rv_c (cs:=[(vs ([])),(vs ([])),vi 0]) E ok rfl qfx rfl (qac.own 0 rfl rfl),rv_t E rfl,rv_t E rfl,trivial⟩,⟨rfl,(Nat.zero_le _),(Nat.zero_le _),(ir 0)⟩,(ir 0),(ir 1)⟩
 refine sg<|mv E rfl fun a E=>lw E (qat rfl rfl) fun a E=>mv E rfl fun a E=>bu E 23 hF (fun c5 hF E=>?_) fun c5 hF E=>?_
 ·refine lsz E fun a E=>pt E rfl rfl fun a E=>mv E rfl fun a E=>lsq E fun a E=>pt E rfl rfl fun a E=>mv E rfl fun a E=>lsz E fun a E=>pt E rfl rfl fun a E=>av E rfl fun a E=>wn<|c_if E rfl (fun _=>?_) (fun h=>by cases h)
  refine sg<|lw E (qaR (ps:=[]) (qs:=[]) (cs:=[(vs ([])),(vs ([])),vi 0]) qb9 qf4 rfl trivial rfl) fun a E=>qai E ok 0 rfl rfl rfl qhR rfl rfl ⟨rfl,rfl,rfl,trivial⟩ rfl rfl fun w ok=>av E rfl fun a E=>aw E rfl fun a E=>wp_ret<|qag<|qae ?_
  exact fin hF ⟨m0,[(vs ([])),(vs ([])),vi 0],le_m0,ok.drop,E.d,⟨rv_c (cs:=[(vs ([])),(vs ([])),vi 0]) E ok rfl qfx rfl (qac.own 0 rfl rfl),rv_t E rfl,rv_t E rfl,trivial⟩,⟨rfl,(Nat.zero_le _),(Nat.zero_le _),(ir 0)⟩,(ir 0),(ir 2)⟩
 refine mz E rfl rfl fun a E=>lv E ok (qau qbu hscript_0 rfl) fun a E=>lw E (qa2 rfl rfl) fun a E=>pf E rfl rfl fun a E=>mv E rfl fun a E=>bu E 29 hF (fun c6 hF E=>?_) fun c6 hF E=>?_
 ·refine lsq E fun a E=>pt E rfl rfl fun a E=>mv E rfl fun a E=>lsz E fun a E=>pt E rfl rfl fun a E=>aw E rfl fun a E=>c_if E rfl (fun _=>?_) (fun h=>by cases h)
  refine sg<|lw E (qaR (ps:=[]) (qs:=[]) (cs:=[(vs ([])),(vs ([])),vi 0]) qb9 qf4 rfl trivial rfl) fun a E=>qai E ok 0 rfl rfl rfl qhR rfl rfl ⟨rfl,rfl,rfl,trivial⟩ rfl rfl fun w ok=>av E rfl fun a E=>aw E rfl fun a E=>wp_ret<|qag<|qae ?_
  exact fin hF ⟨m0,[(vs ([])),(vs ([])),vi 0],le_m0,ok.drop,E.d,⟨rv_c (cs:=[(vs ([])),(vs ([])),vi 0]) E ok rfl qfx rfl (qac.own 0 rfl rfl),rv_t E rfl,rv_t E rfl,trivial⟩,⟨rfl,(Nat.zero_le _),(Nat.zero_le _),(ir 0)⟩,(ir 0),(ir 2)⟩
 refine mv E rfl fun a E=>lw E (qat rfl rfl) fun a E=>pf E rfl rfl fun a E=>mv E rfl fun a E=>bu E 33 hF (fun c7 hF E=>?_) fun c7 hF E=>?_
 ·refine lsz E fun a E=>pt E rfl rfl fun a E=>aw E rfl fun a E=>c_if E rfl (fun _=>?_) (fun h=>by cases h)
  refine sg<|lw E (qaR (ps:=[]) (qs:=[]) (cs:=[(vs ([])),(vs ([])),vi 0]) qb9 qf4 rfl trivial rfl) fun a E=>qai E ok 0 rfl rfl rfl qhR rfl rfl ⟨rfl,rfl,rfl,trivial⟩ rfl rfl fun w ok=>av E rfl fun a E=>aw E rfl fun a E=>wp_ret<|qag<|qae ?_
  exact fin hF ⟨m0,[(vs ([])),(vs ([])),vi 0],le_m0,ok.drop,E.d,⟨rv_c (cs:=[(vs ([])),(vs ([])),vi 0]) E ok rfl qfx rfl (qac.own 0 rfl rfl),rv_t E rfl,rv_t E rfl,trivial⟩,⟨rfl,(Nat.zero_le _),(Nat.zero_le _),(ir 0)⟩,(ir 0),(ir 2)⟩
 refine mz E rfl rfl fun a E=>lw E (qaA Tryz.underlying9 rfl) fun a E=>lw E (qbN rfl rfl) fun a E=>pf E rfl rfl fun a E=>aw E rfl fun a E=>cf E rfl hF (fun c8 hF=>?_) fun c8 hF=>?_
 ·refine sg<|lw E (qaR (ps:=[]) (qs:=[]) (cs:=[(vs ([])),(vs ([])),vi 0]) qb9 qf4 rfl trivial rfl) fun a E=>qai E ok 0 rfl rfl rfl qhR rfl rfl ⟨rfl,rfl,rfl,trivial⟩ rfl rfl fun w ok=>av E rfl fun a E=>aw E rfl fun a E=>wp_ret<|qag<|qae ?_
  exact fin hF ⟨m0,[(vs ([])),(vs ([])),vi 0],le_m0,ok.drop,E.d,⟨rv_c (cs:=[(vs ([])),(vs ([])),vi 0]) E ok rfl qfx rfl (qac.own 0 rfl rfl),rv_t E rfl,rv_t E rfl,trivial⟩,⟨rfl,(Nat.zero_le _),(Nat.zero_le _),(ir 0)⟩,(ir 0),(ir 2)⟩
 refine sg<|mz E rfl rfl fun a E=>lw E (qaA Tryz.underlying9 rfl) fun a E=>lw E (qa0 rfl rfl) fun a E=>av E rfl fun a E=>wn<|cf E rfl hF (fun c9 hF=>?_) fun c9 hF=>?_
 ·refine sg<|lw E (qaR (ps:=[]) (qs:=[]) (cs:=[(vs ([])),(vs ([])),vi 0]) qb9 qf4 rfl trivial rfl) fun a E=>qai E ok 0 rfl rfl rfl qhR rfl rfl ⟨rfl,rfl,rfl,trivial⟩ rfl rfl fun w ok=>av E rfl fun a E=>aw E rfl fun a E=>wp_ret<|qag<|qae ?_
  exact fin hF ⟨m0,[(vs ([])),(vs ([])),vi 0],le_m0,ok.drop,E.d,⟨rv_c (cs:=[(vs ([])),(vs ([])),vi 0]) E ok rfl qfx rfl (qac.own 0 rfl rfl),rv_t E rfl,rv_t E rfl,trivial⟩,⟨rfl,(Nat.zero_le _),(Nat.zero_le _),(ir 0)⟩,(ir 0),(ir 8)⟩
 refine wp_skip<|qaf<|qaa<|wp_seq<|sg<|av E rfl fun a E=>wn<|wp_block<|bd hF fun o12 hL hF=>qax _ (fun (s:Int × Int) a w=>Ok u m0 ([(b1,oc 28 [(vs ([])),(vs ([])),vi 0])] :: S) w ∧ Env 96 a [(0,vscript_0),(1,vi s.1),(2,vs s_2),(3,vi at_3),(8,vp b1),(11,vi s.2)] ∧ InR .i64 s.1 ∧ InR .i64 s.2) (fun (b:(Unit ⊕ (Token × Int × Int))) e a w=>(Sum.elim (fun b81=>e = (.exit 1) ∧ Ok u m0 ([(b1,oc 28 [(vs ([])),(vs ([])),vi 0])] :: S) w ∧ Env 96 a [(8,vp b1)]) (fun b82=>e = .ret ∧ qiy u m0 S b82 a w)) b) ?_ ?_ N _ a w hL ⟨ok,E.keep [0,1,2,3,8,11],rstate_1,(ir 0)⟩
 rotate_left
 ·intro e a w _ hO
  rcases o12 with o12 | o12
  rotate_left
  ·obtain ⟨rfl,hret⟩:=hO
   refine qag<|qae ?_
   exact fin hF hret
  have hF:=qaX hF
  obtain ⟨rfl,ok,E⟩:=hO
  refine qaz<|qaa<|sg<|lw E (qaR (ps:=[]) (qs:=[]) (cs:=[(vs ([])),(vs ([])),vi 0]) qb9 qf4 rfl trivial rfl) fun a E=>qai E ok 0 rfl rfl rfl qhR rfl rfl ⟨rfl,rfl,rfl,trivial⟩ rfl rfl fun w ok=>av E rfl fun a E=>av E rfl fun a E=>wn<|wp_ret ?_
  exact fin hF ⟨m0,[(vs ([])),(vs ([])),vi 0],le_m0,ok.drop,E.d,⟨rv_c (cs:=[(vs ([])),(vs ([])),vi 0]) E ok rfl qfx rfl (qac.own 0 rfl rfl),rv_t E rfl,rv_t E rfl,trivial⟩,⟨rfl,(Nat.zero_le _),(Nat.zero_le _),(ir 0)⟩,(ir 0),(ir 3)⟩
 rintro ⟨v15,v16⟩ a w r ⟨ok,E,r17,r18⟩ hF
 replace hF:qbQ N script_0 s_2 at_3 v15 v16 = some r:=hF
 unfold qbQ at hF
 refine wp_seq<|sg<|mz E rfl rfl fun a E=>mv E rfl fun a E=>?_
 obtain ⟨x19,e20,hF⟩:=bnd hF
 obtain ⟨b21,o22,es23,hl24,rr25,at26,yy27⟩:=ia E 47 48 qbu hscript_0 e20
 obtain ⟨c29,rfl,l28,h30⟩:=rr25
 refine lv E ok (yy27 _ _) fun a E=>fv E qcx rfl fun a E=>lv E ok (qah qd6 rfl (qac.ro (At.sub 1 1 at26))) fun a E=>lv E ok (qau qdZ h30 rfl) fun a E=>lw E (qat rfl rfl) fun a E=>wn<|cg E rfl hF (fun c31 hF=>?_) fun c31 hF=>?_
 ·refine wp_exit<|qap ?_
  cases hF
  exact so (sl ⟨rfl,⟨ok,E.keep [8]⟩⟩)
 refine wp_skip<|qaa<|wp_seq<|wp_block<|sg<|mz E rfl rfl fun a E=>?_
 obtain ⟨x32,e33,hF⟩:=bnd hF
 obtain ⟨b34,o35,es36,hl37,rr38,at39,yy40⟩:=ia E 56 57 qbu hscript_0 e33
 obtain ⟨c42,rfl,l41,h43⟩:=rr38
 refine lv E ok (yy40 _ _) fun a E=>fv E qcx rfl fun a E=>lv E ok (qah qd6 rfl (qac.ro (At.sub 1 1 at39))) fun a E=>mv E rfl fun a E=>?_
 obtain ⟨x44,e45,hF⟩:=bnd hF
 obtain ⟨b46,o47,es48,hl49,rr50,at51,yy52⟩:=ia E 60 61 qdZ h43 e45
 obtain ⟨c54,rfl,l53,h55,l56⟩:=rr50
 refine lv E ok (yy52 _ _) fun a E=>lv E ok (qam (cs:=[vs x44.Kind,c54,vs x44.Next]) qdt rfl rfl (qac.ro at51)) fun a E=>qaM E ok qde rfl rfl fun b57 a w E ok=>qai E ok 0 rfl rfl rfl qgu rfl rfl ⟨rfl,(qbi h55),rfl,trivial⟩ rfl rfl fun w ok=>wn<|sg<|fk E ok qcv qea rfl 0 rfl rfl fun a E=>mz E rfl rfl fun a E=>bd hF fun r58 e59 hF=>qas E qvU rfl (qk6 N _ x44.Items h55 s_2 ls_2 at_3 rat_3 e59 hG ok) rfl rfl ?_
 rintro _ w ⟨⟨rfl,ok⟩,r60⟩
 refine ⟨_,rfl,fun a E=>?_⟩
 refine mv E rfl fun a E=>lw E (qao rfl rfl) fun a E=>lw E (qao rfl rfl) fun a E=>av E rfl fun a E=>aw E rfl fun a E=>sg<|mz E rfl rfl fun a E=>qc8 r58.2 (fun c61=>?_) (fun c61=>?_)
 rotate_left
 ·have hF:=qbV c61 hF
  have E:=E.upd 73 c61 rfl
  refine lsq E fun a E=>pf E rfl rfl fun a E=>wn<|c_if E rfl (fun h=>by cases h) (fun _=>?_)
  refine wp_skip<|qaf<|qaa<|qab<|mv E rfl fun a E=>lw E (qar rfl rfl (InR.inc r18 (qaj h30) c31)) fun a E=>av E rfl fun a E=>wpList_nil ?_
  cases hF
  exact qan ⟨(ok.pk 2 [1] rfl (by decide)),E.keep [0,1,2,3,8,11],r17,(InR.inc r18 (qaj h30) c31)⟩
 have hF:=qbW c61 hF
 have E:=E.upd 73 c61 rfl
 refine mv E rfl fun a E=>lw E (qbN rfl rfl) fun a E=>pt E rfl rfl fun a E=>wn<|cg E rfl hF (fun c62 hF=>?_) fun c62 hF=>?_
 ·refine wp_skip<|qaf<|qaa<|qab<|mv E rfl fun a E=>lw E (qar rfl rfl (InR.inc r18 (qaj h30) c31)) fun a E=>av E rfl fun a E=>wpList_nil ?_
  cases hF
  exact qan ⟨(ok.pk 2 [1] rfl (by decide)),E.keep [0,1,2,3,8,11],r17,(InR.inc r18 (qaj h30) c31)⟩
 refine wp_seq<|sg<|fk E ok qfK qal rfl 0 rfl rfl fun a E=>lw E (qbn rfl rfl) fun a E=>wn<|bd hF fun o63 hJ hF=>qa6 (Q':=fun e a w=>e = .normal ∧ Ok u m0 ([(b57,oc 114 [vs x44.Kind,c54,vs x44.Next])] :: [(b1,oc 28 [(vs ([])),(vs ([])),vi 0])] :: S) w ∧ Env 96 a [(1,vi o63),(2,vs s_2),(3,vi at_3),(8,vp b1),(12,vp b57),(13,vi r58.1)] ∧ InR .i64 o63) ?_ ?_
 ·have hF:=hJ
  refine cg E rfl hF (fun c65 hF=>?_) fun c65 hF=>?_
  ·refine wp_skip ?_
   cases hF
   exact ⟨rfl,⟨ok,E.keep [1,2,3,8,12,13],r17⟩⟩
  refine qab<|mv E rfl fun a E=>fk E ok qfK qal rfl 0 rfl rfl fun a E=>bd hF fun r66 e67 hF=>qas E qrz rfl (qgy N _ script_0 hscript_0 x44.Next l56 e67 hG ok) rfl rfl ?_
  rintro _ w ⟨⟨rfl,ok⟩,r68⟩
  refine ⟨_,rfl,fun a E=>?_⟩
  refine av E rfl fun a E=>wpList_nil ?_
  cases hF
  exact ⟨rfl,⟨ok,E.keep [1,2,3,8,12,13],r68⟩⟩
 intro e a w hO
 obtain ⟨rfl,ok,E,r69⟩:=hO
 refine qaa<|wp_seq<|bd hF fun o70 hJ hF=>qa6 (Q':=fun e a w=>e = .normal ∧ Ok u m0 ([(b57,oc 114 [vs x44.Kind,c54,vs x44.Next])] :: [(b1,oc 28 [vs o70.2.Kind,vs o70.2.Text,vi o70.2.From])] :: S) w ∧ Env 96 a [(8,vp b1),(9,vi o70.1),(10,vi 0)] ∧ InR .i64 o70.1 ∧ o70.2.Kind.length ≤ LIMS ∧ o70.2.Text.length ≤ LIMS ∧ InR .i64 o70.2.From) ?_ ?_
 rotate_left
 ·intro e a w hO
  obtain ⟨rfl,ok,E,r77,l78,l79,r80⟩:=hO
  refine qaa<|wp_ret<|qag<|qae ?_
  cases hF
  exact so (sr ⟨rfl,⟨m0,[vs o70.2.Kind,vs o70.2.Text,vi o70.2.From],le_m0,ok.drop.drop,E.d,⟨rv_c (cs:=[vs o70.2.Kind,vs o70.2.Text,vi o70.2.From]) E ok rfl qfx rfl (qac.own 1 rfl rfl),rv_t E rfl,rv_t E rfl,trivial⟩,⟨rfl,l78,l79,r80⟩,r77,(ir 0)⟩⟩)
 have hF:=hJ
 obtain ⟨s75,e76,hF⟩:=bnd hF
 obtain rfl:=sj hF
 refine qcb [1] (Cls u m0 ([(b57,oc 114 [vs x44.Kind,c54,vs x44.Next])] :: [(b1,oc 28 [(vs ([])),(vs ([])),vi 0])] :: [])) (Cls u m0 ([(b57,oc 114 [vs x44.Kind,c54,vs x44.Next])] :: [])) (by kernel_rfl) ?_
 intro w hw
 replace ok:=qcB ok hw
 clear hw
 refine qay (cl1 (cq le_m0 ok [0,1] rfl) (cq le_m0 ok [0] rfl)) fun hT=>kt 0 E rfl hT (qak qju rfl) fun a E=>qbk 1 E rfl (by kernel_rfl) nP hT (qah qal rfl (qac.cown 0 rfl rfl)) rfl rfl fun a E=>kt 2 E rfl hT (qad rfl) fun a E=>kt 3 E rfl hT (qad rfl) fun a E=>kt 4 E rfl hT (qad rfl) fun a E=>kt 5 E rfl hT (qad rfl) fun a E=>kt 6 E rfl hT (qav rfl rfl) fun a E=>kt 7 E rfl hT (qaF Tryz.underlying9 e76 rfl ⟨_,rfl⟩ ⟨_,rfl⟩) fun a E=>kt 8 E rfl hT (qad rfl) fun a E=>kt 9 E rfl hT (qaR (ps:=[(0,.tmp 85),(1,.tmp 91),(2,.tmp 92)]) (qs:=[(0,[vs x44.Kind]),(1,[vs s75]),(2,[vi at_3])]) (cs:=[vs x44.Kind,vs s75,vi at_3]) qb9 qf4 rfl ⟨rfl,rfl,rfl,⟨rfl,rfl,rfl,⟨rfl,rfl,rfl,trivial⟩⟩⟩ rfl) fun a E=>kt 10 E rfl hT (qad rfl) fun a E=>qaZ [11] (by kernel_rfl) rfl (qa1 ?_)
 ·refine wo rfl<|qai E ok 1 rfl rfl rfl qhR rfl rfl ⟨rfl,rfl,rfl,trivial⟩ rfl rfl fun w ok=>wn<|qay (cl2 (by kernel_rfl) (cq le_m0 ok [0] rfl)) fun hT=>kt 12 E rfl hT (qaq rfl) fun a E=>kt 13 E rfl hT (qaq rfl) fun a E=>qcl (by kernel_rfl) ?_
  exact ⟨rfl,⟨ok,E.keep [8,9,10],r69,l53,(Nat.le_trans (qbr e76) ls_2),rat_3⟩⟩
def qhT (u:World) (m0:Mem) (S:Segs) (r:(List (Token)) × Int × Int) (a:Act) (w:World):Prop :=
 ∃ m1 v0,m0.le m1 ∧ Ok u m1 S w ∧ a.defers = [] ∧ RVs Tryz.prog a w [.t 4 v0,.t 5 (.int .i64 r.2.1),.t 6 (.int .i64 r.2.2)] ∧ (pL 3 qaE) m1 [v0] r.1 ∧ InR .i64 r.2.1 ∧ InR .i64 r.2.2
theorem qkQ (N:Nat) (vscript_0:Value) (script_0:List (State)) (hscript_0:(pL 2 qbA) m0 [vscript_0] script_0) (s_1:List UInt8) (ls_1:s_1.length ≤ LIMS) {r:(List (Token)) × Int × Int} (hF:qej N script_0 s_1 = some r) (hG:Glob u) (ok:Ok u m0 S w) :
  Calls Tryz.prog 39 [vscript_0,vs s_1].toArray w fun e w'=>∃ m1 v0,e = .returned (.tuple [v0,(.int .i64 r.2.1),(.int .i64 r.2.2)].toArray) ∧ m0.le m1 ∧ Ok u m1 S w' ∧ (pL 3 qaE) m1 [v0] r.1 ∧ InR .i64 r.2.1 ∧ InR .i64 r.2.2:=by
 have le_m0:=Mem.le.refl m0
 unfold qej at hF
 refine en (qhT u m0 S) r Tryz.func39 rfl rfl rfl (by rintro a w ⟨m1,v0,hle,ok,hd,hrv,h0,h1,h2⟩; exact qbs [.t 4 v0,.t 5 (.int .i64 r.2.1),.t 6 (.int .i64 r.2.2)] hd rfl hrv ⟨m1,v0,rfl,hle,ok,h0,h1,h2⟩) fun fin a E=>sg<|av E rfl fun a E=>av E rfl fun a E=>aw E rfl fun a E=>wp_seq<|sg<|mv E rfl fun a E=>bd hF fun r1 e2 hF=>lc E qoS rfl (qe8 N _ script_0 hscript_0 e2 hG ok) fun w ok a E=>lw E (qbj rfl) fun a E=>wn<|cf E rfl hF (fun c3 hF=>?_) fun c3 hF=>?_
 ·refine sg<|av E rfl fun a E=>av E rfl fun a E=>aw E rfl fun a E=>wp_ret<|qae ?_
  exact fin hF ⟨m0,(.slice none 0 0),le_m0,ok,E.d,⟨rv_t E rfl,rv_t E rfl,rv_t E rfl,trivial⟩,qa9,(ir 0),(ir 1)⟩
 refine wp_skip<|qaa<|wp_seq<|sg<|mv E rfl fun a E=>lw E (qaA Tryz.underlying9 rfl) fun a E=>lw E (qbN rfl rfl) fun a E=>wn<|cf E rfl hF (fun c4 hF=>?_) fun c4 hF=>?_
 ·refine sg<|av E rfl fun a E=>av E rfl fun a E=>aw E rfl fun a E=>wp_ret<|qae ?_
  exact fin hF ⟨m0,(.slice none 0 0),le_m0,ok,E.d,⟨rv_t E rfl,rv_t E rfl,rv_t E rfl,trivial⟩,qa9,(ir 200000),(ir 6)⟩
 refine wp_skip<|qaa<|sg<|aw E rfl fun a E=>sg<|av E rfl fun a E=>aw E rfl fun a E=>wp_seq<|wp_block ?_
 obtain ⟨M12,ok,h13⟩:=qck (e:=28) (k:=3) (R:=qaE) ok
 refine bd hF fun o14 hL hF=>qax _ (fun (s:(List (Token)) × Int × Int) a w=>∃ m15 c16 M17,m0.le m15 ∧ Ok u m15 (M17 :: S) w ∧ Env 47 a [(0,vscript_0),(1,vs s_1),(7,c16),(8,vi s.2.1),(9,vi s.2.2)] ∧ ORow 28 3 qaE m15 c16 s.1 M17 ∧ InR .i64 s.2.1 ∧ InR .i64 s.2.2) (fun (b:(((List (Token))) ⊕ ((List (Token)) × Int × Int))) e a w=>(Sum.elim (fun b57=>e = (.exit 0) ∧ ∃ m58 c59 M60,m0.le m58 ∧ Ok u m58 (M60 :: S) w ∧ Env 47 a [(7,c59)] ∧ ORow 28 3 qaE m58 c59 b57 M60) (fun b62=>e = .ret ∧ qhT u m0 S b62 a w)) b) ?_ ?_ N _ a w hL ⟨m0,(Value.slice none 0 0),M12,Mem.le.refl _,ok,E.keep [0,1,7,8,9],h13,(ir 0),(ir 0)⟩
 rotate_left
 ·intro e a w _ hO
  rcases o14 with o14 | o14
  rotate_left
  ·obtain ⟨rfl,hret⟩:=hO
   refine qag<|qae ?_
   exact fin hF hret
  have hF:=qaX hF
  obtain ⟨rfl,m51,c52,M53,hle,ok,E,h54⟩:=hO
  have le_m0:=le_m0.trans hle
  have hscript_0:=(mL qaD).up hle hscript_0
  refine qaz<|qaa<|sg<|mv E rfl fun a E=>av E rfl fun a E=>av E rfl fun a E=>av E rfl fun a E=>wn<|wp_ret ?_
  obtain ⟨m55,hle,ok,hfz⟩:=(ok.frs 0 rfl).freeze
  have h56:=ORow.froz qaN h54 hle hfz (by decide)
  have le_m0:=le_m0.trans hle
  have hscript_0:=(mL qaD).up hle hscript_0
  exact fin hF ⟨m55,c52,le_m0,ok,E.d,⟨rv_t E rfl,rv_t E rfl,rv_t E rfl,trivial⟩,h56,(ir 0),(ir 0)⟩
 rintro ⟨v21,v22,v23⟩ a w r ⟨m24,c25,M26,hle,ok,E,h27,r28,r29⟩ hF
 replace hF:qdq N script_0 s_1 v21 v22 v23 = some r:=hF
 unfold qdq at hF
 have le_m0:=le_m0.trans hle
 have hscript_0:=(mL qaD).up hle hscript_0
 refine wp_seq<|sg<|mz E rfl rfl fun a E=>lw E (qaA Tryz.underlying9 rfl) fun a E=>lw E (qat rfl rfl) fun a E=>wn<|cg E rfl hF (fun c30 hF=>?_) fun c30 hF=>?_
 ·refine wp_exit<|qap ?_
  cases hF
  exact so (sl ⟨rfl,⟨m24,c25,M26,le_m0,ok,E.keep [7],h27⟩⟩)
 refine wp_skip<|qaa<|wp_block<|sg<|mz E rfl rfl fun a E=>mv E rfl fun a E=>mv E rfl fun a E=>bd hF fun r31 e32 hF=>qas E qwI rfl (qlG N _ script_0 hscript_0 v23 r29 s_1 ls_1 v22 r28 e32 hG ok) rfl rfl ?_
 rintro _ w ⟨m33,vs34,rfl,hle,ok,h35,r36,r37⟩
 have le_m0:=le_m0.trans hle
 have hscript_0:=(mL qaD).up hle hscript_0
 have h27:=ORow.up qaN hle h27
 obtain ⟨rfl,l38,l39,r40⟩:=h35
 refine ⟨_,rfl,fun a E=>?_⟩
 refine mv E rfl fun a E=>lw E (qao rfl rfl) fun a E=>lw E (qao rfl rfl) fun a E=>lw E (qao rfl rfl) fun a E=>qaM E ok qb9 rfl rfl fun b41 a w E ok=>qai E ok 0 rfl rfl rfl qhR rfl rfl ⟨rfl,rfl,rfl,trivial⟩ rfl rfl fun w ok=>av E rfl fun a E=>av E rfl fun a E=>wn<|wp_seq<|sg<|mv E rfl fun a E=>lw E (qcn rfl rfl) fun a E=>wn<|cf E rfl hF (fun c42 hF=>?_) fun c42 hF=>?_
 ·refine sg<|mz E rfl rfl fun a E=>av E rfl fun a E=>av E rfl fun a E=>av E rfl fun a E=>wn<|wp_ret<|qae<|qag ?_
  cases hF
  exact so (sr ⟨rfl,⟨m33,(.slice none 0 0),le_m0,ok.drop.drop,E.d,⟨rv_t E rfl,rv_t E rfl,rv_t E rfl,trivial⟩,qa9,r28,r37⟩⟩)
 refine wp_skip<|qaa<|sg<|mv E rfl fun a E=>lv E ok (qam (cs:=[vs r31.1.Kind,vs r31.1.Text,vi r31.1.From]) qfx rfl rfl (qac.own 0 rfl rfl)) fun a E=>qaT (R:=qaE) (xo:=[.tmp 37]) (xs:=([r31.1]:List (Token))) E ok qbl qb9 rfl ⟨⟨_,rfl,rfl,⟨rfl,l38,l39,r40⟩⟩,trivial⟩ rfl rfl rfl rfl fun c43 M44 a w E ok h45=>bd hF fun l46 e47 hF=>qbR (R:=qaE) E ok 2 qaN qbl Tryz.underlying23 rfl h27 (qa3.ofRow h45 0 rfl ok) e47 ⟨_,qb9,rfl⟩ rfl rfl rfl rfl fun c48 M49 a w E ok h50=>aw E rfl fun a E=>qab<|mv E rfl fun a E=>fk E ok qmd qal rfl 1 rfl rfl fun a E=>lw E (qaA Tryz.underlying9 rfl) fun a E=>lw E (qav rfl rfl) fun a E=>mv E rfl fun a E=>av E rfl fun a E=>av E rfl fun a E=>wpList_nil<|qaf ?_
 cases hF
 exact qan ⟨m33,c48,M49,le_m0,(ok.pk 3 [2] rfl (by decide)),E.keep [0,1,7,8,9],h50,(InR.wrap _ _),r36⟩
def qk7 (u:World) (m0:Mem) (S:Segs) (r:Bool) (a:Act) (w:World):Prop :=
 Ok u m0 S w ∧ a.defers = [] ∧ RVs Tryz.prog a w [.t 2 (.bool r)]
theorem qh7 (N:Nat) (kind_0:List UInt8) (lkind_0:kind_0.length ≤ LIMS) {r:Bool} (hF:qdR N kind_0 = some r) (hG:Glob u) (ok:Ok u m0 S w) :
  Calls Tryz.prog 64 [vs kind_0].toArray w fun e w'=>(e = .returned (.bool r) ∧ Ok u m0 S w'):=by
 unfold qdR at hF
 refine en (qk7 u m0 S) r Tryz.func64 rfl rfl rfl (fun _ _ h=>ra h rfl) fun fin a E=>sg<|aw E rfl fun a E=>sg<|mv E rfl fun a E=>lw E (qaG rfl rfl) fun a E=>mv E rfl fun a E=>bu E 5 hF (fun c1 hF E=>?_) fun c1 hF E=>?_
 ·refine lsq E fun a E=>pt E rfl rfl fun a E=>aw E rfl fun a E=>wp_ret ?_
  exact fin hF ⟨ok,E.d,rz E rfl⟩
 refine mv E rfl fun a E=>lw E (qaG rfl rfl) fun a E=>pf E rfl rfl fun a E=>aw E rfl fun a E=>wp_ret ?_
 exact fin hF ⟨ok,E.d,rz E rfl⟩
def qk8 (u:World) (m0:Mem) (S:Segs) (r:(List (Token))) (a:Act) (w:World):Prop :=
 ∃ m1 v0,m0.le m1 ∧ Ok u m1 S w ∧ a.defers = [] ∧ RVs Tryz.prog a w [.t 2 v0] ∧ (pL 3 qaE) m1 [v0] r
theorem qgw (N:Nat) (vl_0:Value) (l_0:List (Token)) (hl_0:(pL 3 qaE) m0 [vl_0] l_0) {r:(List (Token))} (hF:qcs N l_0 = some r) (hG:Glob u) (ok:Ok u m0 S w) :
  Calls Tryz.prog 87 [vl_0].toArray w fun e w'=>∃ m1 v0,e = .returned v0 ∧ m0.le m1 ∧ Ok u m1 S w' ∧ (pL 3 qaE) m1 [v0] r:=by
 have le_m0:=Mem.le.refl m0
 unfold qcs at hF
 refine en (qk8 u m0 S) r Tryz.func87 rfl rfl rfl (fun _ _ h=>rc h fun _=>rfl) fun fin a E=>sg<|aw E rfl fun a E=>sg<|aw E rfl fun a E=>wp_seq<|sg<|av E rfl fun a E=>wn<|wp_block ?_
 obtain ⟨M6,ok,h7⟩:=qck (e:=28) (k:=3) (R:=qaE) ok
 refine bd hF fun o8 hL hF=>qax _ (fun (s:(List (Token)) × Int) a w=>∃ c9 M10,Ok u m0 (M10 :: S) w ∧ Env 26 a [(0,vl_0),(3,c9),(4,vi s.2)] ∧ ORow 28 3 qaE m0 c9 s.1 M10 ∧ InR .i64 s.2) (fun (b:((List (Token)))) e a w=>e = (.exit 0) ∧ ∃ c60 M61,Ok u m0 (M61 :: S) w ∧ Env 26 a [(3,c60)] ∧ ORow 28 3 qaE m0 c60 b M61) ?_ ?_ N _ a w hL ⟨(Value.slice none 0 0),M6,ok,E.keep [0,3,4],h7,(ir 0)⟩
 rotate_left
 ·intro e a w _ hO
  obtain ⟨rfl,c55,M56,ok,E,h57⟩:=hO
  refine qaz<|qaa<|sg<|mv E rfl fun a E=>aw E rfl fun a E=>wp_ret ?_
  obtain ⟨m58,hle,ok,hfz⟩:=(ok.frs 0 rfl).freeze
  have h59:=ORow.froz qaN h57 hle hfz (by decide)
  have le_m0:=le_m0.trans hle
  have hl_0:=(mL qaN).up hle hl_0
  exact fin hF ⟨m58,c55,le_m0,ok,E.d,rz E rfl,h59⟩
 rintro ⟨v13,v14⟩ a w r ⟨c15,M16,ok,E,h17,r18⟩ hF
 replace hF:qdL N l_0 v13 v14 = some r:=hF
 unfold qdL at hF
 refine wp_seq<|sg<|mz E rfl rfl fun a E=>lv E ok (qau qbl hl_0 rfl) fun a E=>lw E (qat rfl rfl) fun a E=>wn<|cg E rfl hF (fun c19 hF=>?_) fun c19 hF=>?_
 ·refine wp_exit<|qap ?_
  cases hF
  exact so (⟨rfl,⟨c15,M16,ok,E.keep [3],h17⟩⟩)
 refine wp_skip<|qaa<|wp_seq<|wp_block<|sg<|mz E rfl rfl fun a E=>?_
 obtain ⟨x20,e21,hF⟩:=bnd hF
 obtain ⟨b22,o23,es24,hl25,rr26,at27,yy28⟩:=ia E 11 12 qbl hl_0 e21
 obtain ⟨rfl,l29,l30,r31⟩:=rr26
 refine lv E ok (yy28 _ _) fun a E=>fv E qdn rfl fun a E=>lv E ok (qah qal rfl (qac.ro (At.sub 0 1 at27))) fun a E=>bd hF fun r32 e33 hF=>lc E qtR rfl (qh7 N x20.Kind l29 e33 hG ok) fun w ok a E=>lw E (qbj rfl) fun a E=>wn<|cg E rfl hF (fun c34 hF=>?_) fun c34 hF=>?_
 ·refine wp_skip<|qaf<|qaa<|qab<|mv E rfl fun a E=>lw E (qar rfl rfl (InR.inc r18 (qaj hl_0) c19)) fun a E=>av E rfl fun a E=>wpList_nil ?_
  cases hF
  exact qan ⟨c15,M16,ok,E.keep [0,3,4],h17,(InR.inc r18 (qaj hl_0) c19)⟩
 refine qab<|mz E rfl rfl fun a E=>mv E rfl fun a E=>?_
 obtain ⟨x35,e36,hF⟩:=bnd hF
 obtain ⟨b37,o38,es39,hl40,rr41,at42,yy43⟩:=ia E 19 20 qbl hl_0 e36
 obtain ⟨rfl,l44,l45,r46⟩:=rr41
 refine lv E ok (yy43 _ _) fun a E=>lv E ok (qam (cs:=[vs x35.Kind,vs x35.Text,vi x35.From]) qfx rfl rfl (qac.ro at42)) fun a E=>qaT (R:=qaE) (xo:=[.tmp 22]) (xs:=([x35]:List (Token))) E ok qbl qb9 rfl ⟨⟨_,rfl,rfl,⟨rfl,l44,l45,r46⟩⟩,trivial⟩ rfl rfl rfl rfl fun c47 M48 a w E ok h49=>bd hF fun l50 e51 hF=>qbR (R:=qaE) E ok 1 qaN qbl Tryz.underlying23 rfl h17 (qa3.ofRow h49 0 rfl ok) e51 ⟨_,qb9,rfl⟩ rfl rfl rfl rfl fun c52 M53 a w E ok h54=>av E rfl fun a E=>wpList_nil<|qaf<|qaa<|qab<|mv E rfl fun a E=>lw E (qar rfl rfl (InR.inc r18 (qaj hl_0) c19)) fun a E=>av E rfl fun a E=>wpList_nil ?_
 cases hF
 exact qan ⟨c52,M53,(ok.pk 2 [1] rfl (by decide)),E.keep [0,3,4],h54,(InR.inc r18 (qaj hl_0) c19)⟩
def qhe (u:World) (m0:Mem) (S:Segs) (r:(List (List (Token)))) (a:Act) (w:World):Prop :=
 ∃ m1 v0,m0.le m1 ∧ Ok u m1 S w ∧ a.defers = [] ∧ RVs Tryz.prog a w [.t 2 v0] ∧ (pL 1 (pL 3 qaE)) m1 [v0] r
theorem qjA (N:Nat) (vl_0:Value) (l_0:List (Token)) (hl_0:(pL 3 qaE) m0 [vl_0] l_0) {r:(List (List (Token)))} (hF:qdj N l_0 = some r) (hG:Glob u) (ok:Ok u m0 S w) :
  Calls Tryz.prog 65 [vl_0].toArray w fun e w'=>∃ m1 v0,e = .returned v0 ∧ m0.le m1 ∧ Ok u m1 S w' ∧ (pL 1 (pL 3 qaE)) m1 [v0] r:=by
 have le_m0:=Mem.le.refl m0
 unfold qdj at hF
 refine en (qhe u m0 S) r Tryz.func65 rfl rfl rfl (fun _ _ h=>rc h fun _=>rfl) fun fin a E=>sg<|aw E rfl fun a E=>sg<|aw E rfl fun a E=>sg<|aw E rfl fun a E=>sg<|aw E rfl fun a E=>wp_seq<|sg<|aw E rfl fun a E=>wp_block ?_
 obtain ⟨M11,ok,h12⟩:=qck (e:=23) (k:=1) (R:=(pL 3 qaE)) ok
 obtain ⟨M13,ok,h14⟩:=qck (e:=28) (k:=3) (R:=qaE) ok
 refine bd hF fun o15 hL hF=>qax _ (fun (s:(List (List (Token))) × (List (Token)) × Int × Int) a w=>∃ m16 c17 M18 c20 M21,m0.le m16 ∧ Ok u m16 (M21 :: M18 :: S) w ∧ Env 69 a [(0,vl_0),(3,c17),(4,c20),(5,vi s.2.2.1),(6,vi s.2.2.2)] ∧ ORow 23 1 (pL 3 qaE) m16 c17 s.1 M18 ∧ ORow 28 3 qaE m16 c20 s.2.1 M21 ∧ InR .i64 s.2.2.1 ∧ InR .i64 s.2.2.2) (fun (b:(Unit ⊕ ((List (List (Token)))))) e a w=>(Sum.elim (fun b221=>e = (.exit 0) ∧ ∃ m222,m0.le m222 ∧ Ok u m222 (S) w ∧ Env 69 a []) (fun b223=>e = .ret ∧ qhe u m0 S b223 a w)) b) ?_ ?_ N _ a w hL ⟨m0,(Value.slice none 0 0),M11,(Value.slice none 0 0),M13,Mem.le.refl _,ok,E.keep [0,3,4,5,6],h12,h14,(ir 0),(ir 0)⟩
 rotate_left
 ·intro e a w _ hO
  rcases o15 with o15 | o15
  rotate_left
  ·obtain ⟨rfl,hret⟩:=hO
   refine qag<|qae ?_
   exact fin hF hret
  have hF:=qaX hF
  obtain ⟨rfl,m220,hle,ok,E⟩:=hO
  have le_m0:=le_m0.trans hle
  have hl_0:=(mL qaN).up hle hl_0
  refine qaz<|qaa<|sg<|aw E rfl fun a E=>wp_ret ?_
  exact fin hF ⟨m220,(.slice none 0 0),le_m0,ok,E.d,rz E rfl,qa9⟩
 rintro ⟨v25,v26,v27,v28⟩ a w r ⟨m29,c30,M31,c33,M34,hle,ok,E,h32,h35,r36,r37⟩ hF
 replace hF:qbO N l_0 v25 v26 v27 v28 = some r:=hF
 unfold qbO at hF
 have le_m0:=le_m0.trans hle
 have hl_0:=(mL qaN).up hle hl_0
 refine wp_seq<|sg<|mz E rfl rfl fun a E=>lv E ok (qau qbl hl_0 rfl) fun a E=>lw E (qat rfl rfl) fun a E=>wn<|cg E rfl hF (fun c38 hF=>?_) fun c38 hF=>?_
 ·refine wp_exit<|qap ?_
  cases hF
  exact so (sl ⟨rfl,⟨m29,le_m0,(ok.pk 2 [] rfl (by decide)),E.keep []⟩⟩)
 refine wp_skip<|qaa<|wp_seq<|wp_block<|sg<|mz E rfl rfl fun a E=>?_
 obtain ⟨x39,e40,hF⟩:=bnd hF
 obtain ⟨b41,o42,es43,hl44,rr45,at46,yy47⟩:=ia E 14 15 qbl hl_0 e40
 obtain ⟨rfl,l48,l49,r50⟩:=rr45
 refine lv E ok (yy47 _ _) fun a E=>fv E qdn rfl fun a E=>lv E ok (qah qal rfl (qac.ro (At.sub 0 1 at46))) fun a E=>aw E rfl fun a E=>wp_seq<|wp_block<|sg<|mv E rfl fun a E=>lw E (qaG rfl rfl) fun a E=>mv E rfl fun a E=>bw E 22 hF (fun c51 hF E=>?_) fun c51 hF E=>?_
 ·as_aux_lemma =>
   refine lsq E fun a E=>pf E rfl rfl fun a E=>aw E rfl fun a E=>c_if E rfl (fun h=>by cases h) (fun _=>?_)
   refine sg<|mv E rfl fun a E=>lw E (qaG rfl rfl) fun a E=>mv E rfl fun a E=>bw E 43 hF (fun c151 hF E=>?_) fun c151 hF E=>?_
   ·refine lsq E fun a E=>pf E rfl rfl fun a E=>aw E rfl fun a E=>c_if E rfl (fun h=>by cases h) (fun _=>?_)
    refine sg<|mv E rfl fun a E=>lw E (qaG rfl rfl) fun a E=>aw E rfl fun a E=>bd hF fun o195 hJ hF=>qa6 (Q':=fun e a w=>e = .normal ∧ Ok u m29 (M34 :: M31 :: S) w ∧ Env 69 a [(0,vl_0),(3,c30),(4,c33),(5,vi o195),(6,vi v28)] ∧ InR .i64 o195) ?_ ?_
    rotate_left
    ·intro e a w hO
     obtain ⟨rfl,ok,E,r199⟩:=hO
     refine qaf<|qaa<|qab<|mz E rfl rfl fun a E=>mv E rfl fun a E=>?_
     obtain ⟨x200,e201,hF⟩:=bnd hF
     obtain ⟨b202,o203,es204,hl205,rr206,at207,yy208⟩:=ia E 63 64 qbl hl_0 e201
     obtain ⟨rfl,l209,l210,r211⟩:=rr206
     refine lv E ok (yy208 _ _) fun a E=>lv E ok (qam (cs:=[vs x200.Kind,vs x200.Text,vi x200.From]) qfx rfl rfl (qac.ro at207)) fun a E=>qaT (R:=qaE) (xo:=[.tmp 66]) (xs:=([x200]:List (Token))) E ok qbl qb9 rfl ⟨⟨_,rfl,rfl,⟨rfl,l209,l210,r211⟩⟩,trivial⟩ rfl rfl rfl rfl fun c212 M213 a w E ok h214=>bd hF fun l215 e216 hF=>qbR (R:=qaE) E ok 1 qaN qbl Tryz.underlying23 rfl h35 (qa3.ofRow h214 0 rfl ok) e216 ⟨_,qb9,rfl⟩ rfl rfl rfl rfl fun c217 M218 a w E ok h219=>av E rfl fun a E=>wpList_nil<|qaf<|qaa<|qab<|mv E rfl fun a E=>lw E (qar rfl rfl (InR.inc r37 (qaj hl_0) c38)) fun a E=>av E rfl fun a E=>wpList_nil ?_
     cases hF
     exact qan ⟨m29,c30,M31,c217,M218,le_m0,(ok.pk 3 [1,2] rfl (by decide)),E.keep [0,3,4,5,6],h32,h219,r199,(InR.inc r37 (qaj hl_0) c38)⟩
    have hF:=hJ
    refine cf E rfl hF (fun c197 hF=>?_) fun c197 hF=>?_
    ·refine qab<|mv E rfl fun a E=>lw E (qav rfl rfl) fun a E=>av E rfl fun a E=>wpList_nil ?_
     cases hF
     exact ⟨rfl,⟨ok,E.keep [0,3,4,5,6],(InR.wrap _ _)⟩⟩
    refine sg<|mv E rfl fun a E=>lw E (qaG rfl rfl) fun a E=>aw E rfl fun a E=>cg E rfl hF (fun c198 hF=>?_) fun c198 hF=>?_
    ·refine wp_skip ?_
     cases hF
     exact ⟨rfl,⟨ok,E.keep [0,3,4,5,6],r36⟩⟩
    refine qab<|mv E rfl fun a E=>lw E (qbo rfl rfl) fun a E=>av E rfl fun a E=>wpList_nil ?_
    cases hF
    exact ⟨rfl,⟨ok,E.keep [0,3,4,5,6],(InR.wrap _ _)⟩⟩
   refine mv E rfl fun a E=>lw E (qa0 rfl rfl) fun a E=>pt E rfl rfl fun a E=>aw E rfl fun a E=>cf E rfl hF (fun c152 hF=>?_) fun c152 hF=>?_
   ·refine sg<|mz E rfl rfl fun a E=>?_
    obtain ⟨m153,hle,ok,hfz⟩:=(ok.frs 0 rfl).freeze
    have h154:=ORow.froz qaN h35 hle hfz (by decide)
    have le_m0:=le_m0.trans hle
    have hl_0:=(mL qaN).up hle hl_0
    have h32:=ORow.up (mL qaN) hle h32
    have at46:=At.up hle at46
    refine bd hF fun r155 e156 hF=>qas E qrs rfl (qgw N _ v26 h154 e156 hG ok) rfl rfl ?_
    rintro _ w ⟨m157,c158,rfl,hle,ok,h159⟩
    have le_m0:=le_m0.trans hle
    have hl_0:=(mL qaN).up hle hl_0
    have h32:=ORow.up (mL qaN) hle h32
    have at46:=At.up hle at46
    have h154:=(mL qaN).up hle h154
    refine ⟨_,rfl,fun a E=>?_⟩
    refine qaT (R:=(pL 3 qaE)) (xo:=[.tmp 49]) (xs:=([r155]:List (List (Token)))) E ok qgX qhH rfl ⟨⟨_,(qec h159),rfl,h159⟩,trivial⟩ rfl rfl rfl rfl fun c160 M161 a w E ok h162=>bd hF fun l163 e164 hF=>qbR (R:=(pL 3 qaE)) E ok 1 (mL qaN) qgX Tryz.underlying163 rfl h32 (qa3.ofRow h162 0 rfl ok) e164 ⟨_,qhH,rfl⟩ rfl rfl rfl rfl fun c165 M166 a w E ok h167=>aw E rfl fun a E=>sg<|av E rfl fun a E=>wn<|wp_exit<|qjy rfl<|qap<|qaz<|qaa<|qab<|mv E rfl fun a E=>lw E (qar rfl rfl (InR.inc r37 (qaj hl_0) c38)) fun a E=>av E rfl fun a E=>wpList_nil ?_
    obtain ⟨M168,ok,h169⟩:=qck (e:=28) (k:=3) (R:=qaE) ok
    cases hF
    exact qan ⟨m157,c165,M166,(Value.slice none 0 0),M168,le_m0,(ok.pk 3 [0,2] rfl (by decide)),E.keep [0,3,4,5,6],h167,h169,r36,(InR.inc r37 (qaj hl_0) c38)⟩
   refine sg<|mv E rfl fun a E=>lw E (qaG rfl rfl) fun a E=>aw E rfl fun a E=>bd hF fun o170 hJ hF=>qa6 (Q':=fun e a w=>e = .normal ∧ Ok u m29 (M34 :: M31 :: S) w ∧ Env 69 a [(0,vl_0),(3,c30),(4,c33),(5,vi o170),(6,vi v28)] ∧ InR .i64 o170) ?_ ?_
   rotate_left
   ·intro e a w hO
    obtain ⟨rfl,ok,E,r174⟩:=hO
    refine qaf<|qaa<|qab<|mz E rfl rfl fun a E=>mv E rfl fun a E=>?_
    obtain ⟨x175,e176,hF⟩:=bnd hF
    obtain ⟨b177,o178,es179,hl180,rr181,at182,yy183⟩:=ia E 63 64 qbl hl_0 e176
    obtain ⟨rfl,l184,l185,r186⟩:=rr181
    refine lv E ok (yy183 _ _) fun a E=>lv E ok (qam (cs:=[vs x175.Kind,vs x175.Text,vi x175.From]) qfx rfl rfl (qac.ro at182)) fun a E=>qaT (R:=qaE) (xo:=[.tmp 66]) (xs:=([x175]:List (Token))) E ok qbl qb9 rfl ⟨⟨_,rfl,rfl,⟨rfl,l184,l185,r186⟩⟩,trivial⟩ rfl rfl rfl rfl fun c187 M188 a w E ok h189=>bd hF fun l190 e191 hF=>qbR (R:=qaE) E ok 1 qaN qbl Tryz.underlying23 rfl h35 (qa3.ofRow h189 0 rfl ok) e191 ⟨_,qb9,rfl⟩ rfl rfl rfl rfl fun c192 M193 a w E ok h194=>av E rfl fun a E=>wpList_nil<|qaf<|qaa<|qab<|mv E rfl fun a E=>lw E (qar rfl rfl (InR.inc r37 (qaj hl_0) c38)) fun a E=>av E rfl fun a E=>wpList_nil ?_
    cases hF
    exact qan ⟨m29,c30,M31,c192,M193,le_m0,(ok.pk 3 [1,2] rfl (by decide)),E.keep [0,3,4,5,6],h32,h194,r174,(InR.inc r37 (qaj hl_0) c38)⟩
   have hF:=hJ
   refine cf E rfl hF (fun c172 hF=>?_) fun c172 hF=>?_
   ·refine qab<|mv E rfl fun a E=>lw E (qav rfl rfl) fun a E=>av E rfl fun a E=>wpList_nil ?_
    cases hF
    exact ⟨rfl,⟨ok,E.keep [0,3,4,5,6],(InR.wrap _ _)⟩⟩
   refine sg<|mv E rfl fun a E=>lw E (qaG rfl rfl) fun a E=>aw E rfl fun a E=>cg E rfl hF (fun c173 hF=>?_) fun c173 hF=>?_
   ·refine wp_skip ?_
    cases hF
    exact ⟨rfl,⟨ok,E.keep [0,3,4,5,6],r36⟩⟩
   refine qab<|mv E rfl fun a E=>lw E (qbo rfl rfl) fun a E=>av E rfl fun a E=>wpList_nil ?_
   cases hF
   exact ⟨rfl,⟨ok,E.keep [0,3,4,5,6],(InR.wrap _ _)⟩⟩
 refine mv E rfl fun a E=>lw E (qa0 rfl rfl) fun a E=>pt E rfl rfl fun a E=>aw E rfl fun a E=>cf E rfl hF (fun c52 hF=>?_) fun c52 hF=>?_
 ·as_aux_lemma =>
   refine sg<|mv E rfl fun a E=>?_
   obtain ⟨m53,hle,ok,hfz⟩:=(ok.frs 0 rfl).freeze
   have h54:=ORow.froz qaN h35 hle hfz (by decide)
   have le_m0:=le_m0.trans hle
   have hl_0:=(mL qaN).up hle hl_0
   have h32:=ORow.up (mL qaN) hle h32
   have at46:=At.up hle at46
   refine bd hF fun r55 e56 hF=>qas E qrs rfl (qgw N _ v26 h54 e56 hG ok) rfl rfl ?_
   rintro _ w ⟨m57,c58,rfl,hle,ok,h59⟩
   have le_m0:=le_m0.trans hle
   have hl_0:=(mL qaN).up hle hl_0
   have h32:=ORow.up (mL qaN) hle h32
   have at46:=At.up hle at46
   have h54:=(mL qaN).up hle h54
   refine ⟨_,rfl,fun a E=>?_⟩
   refine aw E rfl fun a E=>wp_seq<|sg<|mv E rfl fun a E=>lv E ok (qno qgX h32 rfl) fun a E=>lw E (qa0 rfl rfl) fun a E=>mv E rfl fun a E=>bw E 31 hF (fun c60 hF E=>?_) fun c60 hF E=>?_
   ·refine lsq E fun a E=>ls E fun a E=>pf E rfl rfl fun a E=>wn<|c_if E rfl (fun h=>by cases h) (fun _=>?_)
    refine wp_skip<|qaa<|sg<|mz E rfl rfl fun a E=>qaT (R:=(pL 3 qaE)) (xo:=[.tmp 37]) (xs:=([r55]:List (List (Token)))) E ok qgX qhH rfl ⟨⟨_,(qec h59),rfl,h59⟩,trivial⟩ rfl rfl rfl rfl fun c72 M73 a w E ok h74=>bd hF fun l75 e76 hF=>qbR (R:=(pL 3 qaE)) E ok 1 (mL qaN) qgX Tryz.underlying163 rfl h32 (qa3.ofRow h74 0 rfl ok) e76 ⟨_,qhH,rfl⟩ rfl rfl rfl rfl fun c77 M78 a w E ok h79=>aw E rfl fun a E=>wp_ret<|qag<|qae<|qag<|qae ?_
    obtain ⟨m80,hle,ok,hfz⟩:=(ok.frs 1 rfl).freeze
    have h81:=ORow.froz (mL qaN) h79 hle hfz (by decide)
    have le_m0:=le_m0.trans hle
    have hl_0:=(mL qaN).up hle hl_0
    have at46:=At.up hle at46
    have h54:=(mL qaN).up hle h54
    have h59:=(mL qaN).up hle h59
    have h74:=ORow.up (mL qaN) hle h74
    cases hF
    exact so (sr ⟨rfl,⟨m80,c77,le_m0,ok.drop,E.d,rz E rfl,h81⟩⟩)
   refine mv E rfl fun a E=>lv E ok (qau qbl h59 rfl) fun a E=>lw E (qa0 rfl rfl) fun a E=>pt E rfl rfl fun a E=>wn<|cf E rfl hF (fun c61 hF=>?_) fun c61 hF=>?_
   ·refine sg<|aw E rfl fun a E=>wp_ret<|qae<|qag<|qae<|qag<|qae ?_
    cases hF
    exact so (sr ⟨rfl,⟨m57,(.slice none 0 0),le_m0,ok.drop,E.d,rz E rfl,qa9⟩⟩)
   refine wp_skip<|qaa<|sg<|mz E rfl rfl fun a E=>qaT (R:=(pL 3 qaE)) (xo:=[.tmp 37]) (xs:=([r55]:List (List (Token)))) E ok qgX qhH rfl ⟨⟨_,(qec h59),rfl,h59⟩,trivial⟩ rfl rfl rfl rfl fun c62 M63 a w E ok h64=>bd hF fun l65 e66 hF=>qbR (R:=(pL 3 qaE)) E ok 1 (mL qaN) qgX Tryz.underlying163 rfl h32 (qa3.ofRow h64 0 rfl ok) e66 ⟨_,qhH,rfl⟩ rfl rfl rfl rfl fun c67 M68 a w E ok h69=>aw E rfl fun a E=>wp_ret<|qag<|qae<|qag<|qae ?_
   obtain ⟨m70,hle,ok,hfz⟩:=(ok.frs 1 rfl).freeze
   have h71:=ORow.froz (mL qaN) h69 hle hfz (by decide)
   have le_m0:=le_m0.trans hle
   have hl_0:=(mL qaN).up hle hl_0
   have at46:=At.up hle at46
   have h54:=(mL qaN).up hle h54
   have h59:=(mL qaN).up hle h59
   have h64:=ORow.up (mL qaN) hle h64
   cases hF
   exact so (sr ⟨rfl,⟨m70,c67,le_m0,ok.drop,E.d,rz E rfl,h71⟩⟩)
 refine sg<|mv E rfl fun a E=>lw E (qaG rfl rfl) fun a E=>mv E rfl fun a E=>bw E 43 hF (fun c82 hF E=>?_) fun c82 hF E=>?_
 ·refine lsq E fun a E=>pf E rfl rfl fun a E=>aw E rfl fun a E=>c_if E rfl (fun h=>by cases h) (fun _=>?_)
  refine sg<|mv E rfl fun a E=>lw E (qaG rfl rfl) fun a E=>aw E rfl fun a E=>bd hF fun o126 hJ hF=>qa6 (Q':=fun e a w=>e = .normal ∧ Ok u m29 (M34 :: M31 :: S) w ∧ Env 69 a [(0,vl_0),(3,c30),(4,c33),(5,vi o126),(6,vi v28)] ∧ InR .i64 o126) ?_ ?_
  rotate_left
  ·intro e a w hO
   obtain ⟨rfl,ok,E,r130⟩:=hO
   refine qaf<|qaa<|qab<|mz E rfl rfl fun a E=>mv E rfl fun a E=>?_
   obtain ⟨x131,e132,hF⟩:=bnd hF
   obtain ⟨b133,o134,es135,hl136,rr137,at138,yy139⟩:=ia E 63 64 qbl hl_0 e132
   obtain ⟨rfl,l140,l141,r142⟩:=rr137
   refine lv E ok (yy139 _ _) fun a E=>lv E ok (qam (cs:=[vs x131.Kind,vs x131.Text,vi x131.From]) qfx rfl rfl (qac.ro at138)) fun a E=>qaT (R:=qaE) (xo:=[.tmp 66]) (xs:=([x131]:List (Token))) E ok qbl qb9 rfl ⟨⟨_,rfl,rfl,⟨rfl,l140,l141,r142⟩⟩,trivial⟩ rfl rfl rfl rfl fun c143 M144 a w E ok h145=>bd hF fun l146 e147 hF=>qbR (R:=qaE) E ok 1 qaN qbl Tryz.underlying23 rfl h35 (qa3.ofRow h145 0 rfl ok) e147 ⟨_,qb9,rfl⟩ rfl rfl rfl rfl fun c148 M149 a w E ok h150=>av E rfl fun a E=>wpList_nil<|qaf<|qaa<|qab<|mv E rfl fun a E=>lw E (qar rfl rfl (InR.inc r37 (qaj hl_0) c38)) fun a E=>av E rfl fun a E=>wpList_nil ?_
   cases hF
   exact qan ⟨m29,c30,M31,c148,M149,le_m0,(ok.pk 3 [1,2] rfl (by decide)),E.keep [0,3,4,5,6],h32,h150,r130,(InR.inc r37 (qaj hl_0) c38)⟩
  have hF:=hJ
  refine cf E rfl hF (fun c128 hF=>?_) fun c128 hF=>?_
  ·refine qab<|mv E rfl fun a E=>lw E (qav rfl rfl) fun a E=>av E rfl fun a E=>wpList_nil ?_
   cases hF
   exact ⟨rfl,⟨ok,E.keep [0,3,4,5,6],(InR.wrap _ _)⟩⟩
  refine sg<|mv E rfl fun a E=>lw E (qaG rfl rfl) fun a E=>aw E rfl fun a E=>cg E rfl hF (fun c129 hF=>?_) fun c129 hF=>?_
  ·refine wp_skip ?_
   cases hF
   exact ⟨rfl,⟨ok,E.keep [0,3,4,5,6],r36⟩⟩
  refine qab<|mv E rfl fun a E=>lw E (qbo rfl rfl) fun a E=>av E rfl fun a E=>wpList_nil ?_
  cases hF
  exact ⟨rfl,⟨ok,E.keep [0,3,4,5,6],(InR.wrap _ _)⟩⟩
 refine mv E rfl fun a E=>lw E (qa0 rfl rfl) fun a E=>pt E rfl rfl fun a E=>aw E rfl fun a E=>cf E rfl hF (fun c83 hF=>?_) fun c83 hF=>?_
 ·refine sg<|mz E rfl rfl fun a E=>?_
  obtain ⟨m84,hle,ok,hfz⟩:=(ok.frs 0 rfl).freeze
  have h85:=ORow.froz qaN h35 hle hfz (by decide)
  have le_m0:=le_m0.trans hle
  have hl_0:=(mL qaN).up hle hl_0
  have h32:=ORow.up (mL qaN) hle h32
  have at46:=At.up hle at46
  refine bd hF fun r86 e87 hF=>qas E qrs rfl (qgw N _ v26 h85 e87 hG ok) rfl rfl ?_
  rintro _ w ⟨m88,c89,rfl,hle,ok,h90⟩
  have le_m0:=le_m0.trans hle
  have hl_0:=(mL qaN).up hle hl_0
  have h32:=ORow.up (mL qaN) hle h32
  have at46:=At.up hle at46
  have h85:=(mL qaN).up hle h85
  refine ⟨_,rfl,fun a E=>?_⟩
  refine qaT (R:=(pL 3 qaE)) (xo:=[.tmp 49]) (xs:=([r86]:List (List (Token)))) E ok qgX qhH rfl ⟨⟨_,(qec h90),rfl,h90⟩,trivial⟩ rfl rfl rfl rfl fun c91 M92 a w E ok h93=>bd hF fun l94 e95 hF=>qbR (R:=(pL 3 qaE)) E ok 1 (mL qaN) qgX Tryz.underlying163 rfl h32 (qa3.ofRow h93 0 rfl ok) e95 ⟨_,qhH,rfl⟩ rfl rfl rfl rfl fun c96 M97 a w E ok h98=>aw E rfl fun a E=>sg<|av E rfl fun a E=>wn<|wp_exit<|qjy rfl<|qap<|qaz<|qaa<|qab<|mv E rfl fun a E=>lw E (qar rfl rfl (InR.inc r37 (qaj hl_0) c38)) fun a E=>av E rfl fun a E=>wpList_nil ?_
  obtain ⟨M99,ok,h100⟩:=qck (e:=28) (k:=3) (R:=qaE) ok
  cases hF
  exact qan ⟨m88,c96,M97,(Value.slice none 0 0),M99,le_m0,(ok.pk 3 [0,2] rfl (by decide)),E.keep [0,3,4,5,6],h98,h100,r36,(InR.inc r37 (qaj hl_0) c38)⟩
 refine sg<|mv E rfl fun a E=>lw E (qaG rfl rfl) fun a E=>aw E rfl fun a E=>bd hF fun o101 hJ hF=>qa6 (Q':=fun e a w=>e = .normal ∧ Ok u m29 (M34 :: M31 :: S) w ∧ Env 69 a [(0,vl_0),(3,c30),(4,c33),(5,vi o101),(6,vi v28)] ∧ InR .i64 o101) ?_ ?_
 rotate_left
 ·intro e a w hO
  obtain ⟨rfl,ok,E,r105⟩:=hO
  refine qaf<|qaa<|qab<|mz E rfl rfl fun a E=>mv E rfl fun a E=>?_
  obtain ⟨x106,e107,hF⟩:=bnd hF
  obtain ⟨b108,o109,es110,hl111,rr112,at113,yy114⟩:=ia E 63 64 qbl hl_0 e107
  obtain ⟨rfl,l115,l116,r117⟩:=rr112
  refine lv E ok (yy114 _ _) fun a E=>lv E ok (qam (cs:=[vs x106.Kind,vs x106.Text,vi x106.From]) qfx rfl rfl (qac.ro at113)) fun a E=>qaT (R:=qaE) (xo:=[.tmp 66]) (xs:=([x106]:List (Token))) E ok qbl qb9 rfl ⟨⟨_,rfl,rfl,⟨rfl,l115,l116,r117⟩⟩,trivial⟩ rfl rfl rfl rfl fun c118 M119 a w E ok h120=>bd hF fun l121 e122 hF=>qbR (R:=qaE) E ok 1 qaN qbl Tryz.underlying23 rfl h35 (qa3.ofRow h120 0 rfl ok) e122 ⟨_,qb9,rfl⟩ rfl rfl rfl rfl fun c123 M124 a w E ok h125=>av E rfl fun a E=>wpList_nil<|qaf<|qaa<|qab<|mv E rfl fun a E=>lw E (qar rfl rfl (InR.inc r37 (qaj hl_0) c38)) fun a E=>av E rfl fun a E=>wpList_nil ?_
  cases hF
  exact qan ⟨m29,c30,M31,c123,M124,le_m0,(ok.pk 3 [1,2] rfl (by decide)),E.keep [0,3,4,5,6],h32,h125,r105,(InR.inc r37 (qaj hl_0) c38)⟩
 have hF:=hJ
 refine cf E rfl hF (fun c103 hF=>?_) fun c103 hF=>?_
 ·refine qab<|mv E rfl fun a E=>lw E (qav rfl rfl) fun a E=>av E rfl fun a E=>wpList_nil ?_
  cases hF
  exact ⟨rfl,⟨ok,E.keep [0,3,4,5,6],(InR.wrap _ _)⟩⟩
 refine sg<|mv E rfl fun a E=>lw E (qaG rfl rfl) fun a E=>aw E rfl fun a E=>cg E rfl hF (fun c104 hF=>?_) fun c104 hF=>?_
 ·refine wp_skip ?_
  cases hF
  exact ⟨rfl,⟨ok,E.keep [0,3,4,5,6],r36⟩⟩
 refine qab<|mv E rfl fun a E=>lw E (qbo rfl rfl) fun a E=>av E rfl fun a E=>wpList_nil ?_
 cases hF
 exact ⟨rfl,⟨ok,E.keep [0,3,4,5,6],(InR.wrap _ _)⟩⟩
def qla (u:World) (m0:Mem) (S:Segs) (r:(List UInt8) × Bool) (a:Act) (w:World):Prop :=
 Ok u m0 S w ∧ a.defers = [] ∧ RVs Tryz.prog a w [.t 4 (.string (bs r.1)),.t 5 (.bool r.2)] ∧ r.1.length ≤ LIMS
theorem qh8 (N:Nat) (vl_0:Value) (l_0:List (List (Token))) (hl_0:(pL 1 (pL 3 qaE)) m0 [vl_0] l_0) (i_1:Int) (ri_1:InR .i64 i_1) {r:(List UInt8) × Bool} (hF:qdQ N l_0 i_1 = some r) (hG:Glob u) (ok:Ok u m0 S w) :
  Calls Tryz.prog 66 [vl_0,vi i_1].toArray w fun e w'=>(e = .returned (.tuple [(.string (bs r.1)),(.bool r.2)].toArray) ∧ Ok u m0 S w') ∧ r.1.length ≤ LIMS:=by
 unfold qdQ at hF
 refine en (qla u m0 S) r Tryz.func66 rfl rfl rfl (by rintro a w ⟨ok,hd,hrv,h0⟩; exact qbs [.t 4 (.string (bs r.1)),.t 5 (.bool r.2)] hd rfl hrv ⟨⟨rfl,ok⟩,h0⟩) fun fin a E=>sg<|av E rfl fun a E=>aw E rfl fun a E=>wp_seq<|sg<|mv E rfl fun a E=>lw E (qat rfl rfl) fun a E=>mv E rfl fun a E=>bu E 8 hF (fun c1 hF E=>?_) fun c1 hF E=>?_
 ·refine lsz E fun a E=>pt E rfl rfl fun a E=>wn<|c_if E rfl (fun _=>?_) (fun h=>by cases h)
  refine sg<|av E rfl fun a E=>aw E rfl fun a E=>wp_ret<|qae ?_
  exact fin hF ⟨ok,E.d,⟨rv_t E rfl,rv_t E rfl,trivial⟩,(show ([]:List UInt8).length ≤ LIMS by decide)⟩
 refine mz E rfl rfl fun a E=>lv E ok (qau qgX hl_0 rfl) fun a E=>lw E (qa2 rfl rfl) fun a E=>pf E rfl rfl fun a E=>wn<|cf E rfl hF (fun c2 hF=>?_) fun c2 hF=>?_
 ·refine sg<|av E rfl fun a E=>aw E rfl fun a E=>wp_ret<|qae ?_
  exact fin hF ⟨ok,E.d,⟨rv_t E rfl,rv_t E rfl,trivial⟩,(show ([]:List UInt8).length ≤ LIMS by decide)⟩
 refine wp_skip<|qaa<|sg<|mz E rfl rfl fun a E=>?_
 obtain ⟨x3,e4,hF⟩:=bnd hF
 obtain ⟨b5,o6,es7,hl8,rr9,at10,yy11⟩:=ia E 14 15 qgX hl_0 e4
 obtain ⟨c12,rfl,h13⟩:=qkd rr9
 refine lv E ok (yy11 _ _) fun a E=>lv E ok (qah qvi rfl (qac.ro at10)) fun a E=>bd hF fun r14 e15 hF=>qas E qwx rfl (qkw N _ x3 h13 e15 hG ok) rfl rfl ?_
 rintro _ w ⟨⟨rfl,ok⟩,l16⟩
 refine ⟨_,rfl,fun a E=>?_⟩
 refine lw E (qao rfl rfl) fun a E=>lw E (qao rfl rfl) fun a E=>av E rfl fun a E=>aw E rfl fun a E=>wp_ret ?_
 exact fin hF ⟨ok,E.d,⟨rv_t E rfl,rv_t E rfl,trivial⟩,l16⟩
def qkh (u:World) (m0:Mem) (S:Segs) (r:(List UInt8)) (a:Act) (w:World):Prop :=
 Ok u m0 S w ∧ a.defers = [] ∧ RVs Tryz.prog a w [.t 4 (.string (bs r))] ∧ r.length ≤ LIMS
theorem qj8 (N:Nat) (vl_0:Value) (l_0:List (Token)) (hl_0:(pL 3 qaE) m0 [vl_0] l_0) (at_1:Int) (rat_1:InR .i64 at_1) {r:(List UInt8)} (hF:qc5 N l_0 at_1 = some r) (hG:Glob u) (ok:Ok u m0 S w) :
  Calls Tryz.prog 67 [vl_0,vi at_1].toArray w fun e w'=>(e = .returned (.string (bs r)) ∧ Ok u m0 S w') ∧ r.length ≤ LIMS:=by
 unfold qc5 at hF
 refine en (qkh u m0 S) r Tryz.func67 rfl rfl rfl (fun _ _ h=>rb h rfl) fun fin a E=>sg<|aw E rfl fun a E=>sg<|mv E rfl fun a E=>lw E (qbo rfl rfl) fun a E=>aw E rfl fun a E=>wp_seq<|wp_block<|bd hF fun o2 hL hF=>qax _ (fun (s:Int) a w=>Ok u m0 (S) w ∧ Env 77 a [(0,vl_0),(1,vi s)] ∧ InR .i64 s) (fun (b:Int) e a w=>e = (.exit 0) ∧ Ok u m0 (S) w ∧ Env 77 a [(0,vl_0),(1,vi b)] ∧ InR .i64 b) ?_ ?_ N _ a w hL ⟨ok,E.keep [0,1],(InR.wrap _ _)⟩
 ·rintro v4 a w r ⟨ok,E,r5⟩ hF
  replace hF:qco N l_0 v4 = some r:=hF
  unfold qco at hF
  refine wp_seq<|sg<|mv E rfl fun a E=>lw E (qa2 rfl rfl) fun a E=>mv E rfl fun a E=>bw E 10 hF (fun c6 hF E=>?_) fun c6 hF E=>?_
  ·refine lsz E fun a E=>lsq E fun a E=>pf E rfl rfl fun a E=>wn<|c_if E rfl (fun h=>by cases h) (fun _=>?_)
   refine wp_exit<|qap ?_
   cases hF
   exact so (⟨rfl,⟨ok,E.keep [0,1],r5⟩⟩)
  refine mz E rfl rfl fun a E=>?_
  obtain ⟨x7,e8,hF⟩:=bnd hF
  obtain ⟨b9,o10,es11,hl12,rr13,at14,yy15⟩:=ia E 11 12 qbl hl_0 e8
  obtain ⟨rfl,l16,l17,r18⟩:=rr13
  refine lv E ok (yy15 _ _) fun a E=>fv E qdn rfl fun a E=>lv E ok (qah qal rfl (qac.ro (At.sub 0 1 at14))) fun a E=>lw E (qaG rfl rfl) fun a E=>pt E rfl rfl fun a E=>wn<|cg E rfl hF (fun c19 hF=>?_) fun c19 hF=>?_
  ·refine wp_exit<|qap ?_
   cases hF
   exact so (⟨rfl,⟨ok,E.keep [0,1],r5⟩⟩)
  refine wp_skip<|qaa<|wp_block<|qab<|mv E rfl fun a E=>lw E (qbo rfl rfl) fun a E=>av E rfl fun a E=>wpList_nil<|qaf ?_
  cases hF
  exact qan ⟨ok,E.keep [0,1],(InR.wrap _ _)⟩
 intro e a w _ hO
 obtain ⟨rfl,ok,E,r20⟩:=hO
 refine qaz<|qaa<|wp_seq<|sg<|mv E rfl fun a E=>lw E (qat rfl rfl) fun a E=>mv E rfl fun a E=>bu E 22 hF (fun c21 hF E=>?_) fun c21 hF E=>?_
 ·refine lsz E fun a E=>lsq E fun a E=>pt E rfl rfl fun a E=>wn<|c_if E rfl (fun _=>?_) (fun h=>by cases h)
  refine sg<|aw E rfl fun a E=>wp_ret<|qae ?_
  exact fin hF ⟨ok,E.d,rz E rfl,(show ([]:List UInt8).length ≤ LIMS by decide)⟩
 refine mz E rfl rfl fun a E=>?_
 obtain ⟨x22,e23,hF⟩:=bnd hF
 obtain ⟨b24,o25,es26,hl27,rr28,at29,yy30⟩:=ia E 23 24 qbl hl_0 e23
 obtain ⟨rfl,l31,l32,r33⟩:=rr28
 refine lv E ok (yy30 _ _) fun a E=>fv E qdn rfl fun a E=>lv E ok (qah qal rfl (qac.ro (At.sub 0 1 at29))) fun a E=>lw E (qbn rfl rfl) fun a E=>pf E rfl rfl fun a E=>wn<|cf E rfl hF (fun c34 hF=>?_) fun c34 hF=>?_
 ·refine sg<|aw E rfl fun a E=>wp_ret<|qae ?_
  exact fin hF ⟨ok,E.d,rz E rfl,(show ([]:List UInt8).length ≤ LIMS by decide)⟩
 refine wp_skip<|qaa<|sg<|mz E rfl rfl fun a E=>?_
 obtain ⟨x35,e36,hF⟩:=bnd hF
 obtain ⟨b37,o38,es39,hl40,rr41,at42,yy43⟩:=ia E 30 31 qbl hl_0 e36
 obtain ⟨rfl,l44,l45,r46⟩:=rr41
 refine lv E ok (yy43 _ _) fun a E=>fv E qmd rfl fun a E=>lv E ok (qah qal rfl (qac.ro (At.sub 1 1 at42))) fun a E=>aw E rfl fun a E=>wp_seq<|wp_block<|bd hF fun o48 hL hF=>qax _ (fun (s:(List UInt8)) a w=>Ok u m0 (S) w ∧ Env 77 a [(5,vs s)] ∧ s.length ≤ LIMS) (fun (b:((List UInt8))) e a w=>e = (.exit 2) ∧ Ok u m0 (S) w ∧ Env 77 a [(5,vs b)] ∧ b.length ≤ LIMS) ?_ ?_ N _ a w hL ⟨ok,E.keep [5],l45⟩
 rotate_left
 ·as_aux_lemma =>
   intro e a w _ hO
   obtain ⟨rfl,ok,E,l73⟩:=hO
   refine qaz<|qaa<|wp_seq<|wp_block<|bd hF fun o75 hL hF=>qax _ (fun (s:(List UInt8)) a w=>Ok u m0 (S) w ∧ Env 77 a [(5,vs s)] ∧ s.length ≤ LIMS) (fun (b:((List UInt8))) e a w=>e = (.exit 4) ∧ Ok u m0 (S) w ∧ Env 77 a [(5,vs b)] ∧ b.length ≤ LIMS) ?_ ?_ N _ a w hL ⟨ok,E.keep [5],l73⟩
   rotate_left
   ·intro e a w _ hO
    obtain ⟨rfl,ok,E,l85⟩:=hO
    refine qaz<|qaa<|sg<|mv E rfl fun a E=>aw E rfl fun a E=>wp_ret ?_
    exact fin hF ⟨ok,E.d,rz E rfl,l85⟩
   rintro v77 a w r ⟨ok,E,l78⟩ hF
   replace hF:qb1 N v77 = some r:=hF
   unfold qb1 at hF
   refine wp_seq<|sg<|mv E rfl fun a E=>lw E (qaA Tryz.underlying9 rfl) fun a E=>lw E (qbN rfl rfl) fun a E=>mv E rfl fun a E=>bw E 63 hF (fun c79 hF E=>?_) fun c79 hF E=>?_
   ·refine lsz E fun a E=>lsq E fun a E=>pf E rfl rfl fun a E=>wn<|c_if E rfl (fun h=>by cases h) (fun _=>?_)
    refine wp_exit<|qap ?_
    cases hF
    exact so (⟨rfl,⟨ok,E.keep [5],l78⟩⟩)
   refine mz E rfl rfl fun a E=>lw E (qaA Tryz.underlying9 rfl) fun a E=>lw E (qjH rfl rfl (InR.dec (InR.len l78) (ir 0) c79)) fun a E=>bd hF fun c80 e81 hF=>lv E ok (qaQ Tryz.underlying9 rfl rfl e81) fun a E=>lw E (qa0 rfl rfl) fun a E=>pt E rfl rfl fun a E=>wn<|cg E rfl hF (fun c82 hF=>?_) fun c82 hF=>?_
   ·refine wp_exit<|qap ?_
    cases hF
    exact so (⟨rfl,⟨ok,E.keep [5],l78⟩⟩)
   refine wp_skip<|qaa<|wp_block<|qab<|mz E rfl rfl fun a E=>lw E (qaA Tryz.underlying9 rfl) fun a E=>lw E (qjH rfl rfl (InR.dec (InR.len l78) (ir 0) c79)) fun a E=>bd hF fun s83 e84 hF=>lw E (qaF Tryz.underlying9 e84 rfl rfl ⟨_,rfl⟩) fun a E=>av E rfl fun a E=>wpList_nil<|qaf ?_
   cases hF
   exact qan ⟨ok,E.keep [5],(Nat.le_trans (qbr e84) l78)⟩
 rintro v50 a w r ⟨ok,E,l51⟩ hF
 replace hF:qbZ N v50 = some r:=hF
 unfold qbZ at hF
 refine wp_seq<|sg<|mv E rfl fun a E=>lw E (qaA Tryz.underlying9 rfl) fun a E=>lw E (qbN rfl rfl) fun a E=>mv E rfl fun a E=>bw E 38 hF (fun c52 hF E=>?_) fun c52 hF E=>?_
 ·refine lsz E fun a E=>lsz E fun a E=>lsz E fun a E=>lsz E fun a E=>lsq E fun a E=>pf E rfl rfl fun a E=>wn<|c_if E rfl (fun h=>by cases h) (fun _=>?_)
  refine wp_exit<|qap ?_
  cases hF
  exact so (⟨rfl,⟨ok,E.keep [5],l51⟩⟩)
 refine mv E rfl fun a E=>bd hF fun c53 e54 hF=>lv E ok (qaQ Tryz.underlying9 rfl rfl e54) fun a E=>lw E (qa0 rfl rfl) fun a E=>mv E rfl fun a E=>bu E 42 hF (fun c55 hF E=>?_) fun c55 hF E=>?_
 ·refine lsq E fun a E=>ls E fun a E=>pt E rfl rfl fun a E=>mv E rfl fun a E=>lsq E fun a E=>ls E fun a E=>pt E rfl rfl fun a E=>mv E rfl fun a E=>lsq E fun a E=>ls E fun a E=>pt E rfl rfl fun a E=>pt E rfl rfl fun a E=>wn<|c_if E rfl (fun _=>?_) (fun h=>by cases h)
  refine wp_skip<|qaa<|wp_block<|qab<|mv E rfl fun a E=>bd hF fun s56 e57 hF=>lw E (qaF Tryz.underlying9 e57 rfl ⟨_,rfl⟩ rfl) fun a E=>av E rfl fun a E=>wpList_nil<|qaf ?_
  cases hF
  exact qan ⟨ok,E.keep [5],(Nat.le_trans (qbr e57) l51)⟩
 refine mv E rfl fun a E=>bd hF fun c58 e59 hF=>lv E ok (qaQ Tryz.underlying9 rfl rfl e59) fun a E=>lw E (qa0 rfl rfl) fun a E=>pf E rfl rfl fun a E=>mv E rfl fun a E=>bu E 47 hF (fun c60 hF E=>?_) fun c60 hF E=>?_
 ·refine lsq E fun a E=>ls E fun a E=>pt E rfl rfl fun a E=>mv E rfl fun a E=>lsq E fun a E=>ls E fun a E=>pt E rfl rfl fun a E=>pt E rfl rfl fun a E=>wn<|c_if E rfl (fun _=>?_) (fun h=>by cases h)
  refine wp_skip<|qaa<|wp_block<|qab<|mv E rfl fun a E=>bd hF fun s61 e62 hF=>lw E (qaF Tryz.underlying9 e62 rfl ⟨_,rfl⟩ rfl) fun a E=>av E rfl fun a E=>wpList_nil<|qaf ?_
  cases hF
  exact qan ⟨ok,E.keep [5],(Nat.le_trans (qbr e62) l51)⟩
 refine mv E rfl fun a E=>bd hF fun c63 e64 hF=>lv E ok (qaQ Tryz.underlying9 rfl rfl e64) fun a E=>lw E (qa0 rfl rfl) fun a E=>pf E rfl rfl fun a E=>mv E rfl fun a E=>bu E 52 hF (fun c65 hF E=>?_) fun c65 hF E=>?_
 ·refine lsq E fun a E=>ls E fun a E=>pt E rfl rfl fun a E=>pt E rfl rfl fun a E=>wn<|c_if E rfl (fun _=>?_) (fun h=>by cases h)
  refine wp_skip<|qaa<|wp_block<|qab<|mv E rfl fun a E=>bd hF fun s66 e67 hF=>lw E (qaF Tryz.underlying9 e67 rfl ⟨_,rfl⟩ rfl) fun a E=>av E rfl fun a E=>wpList_nil<|qaf ?_
  cases hF
  exact qan ⟨ok,E.keep [5],(Nat.le_trans (qbr e67) l51)⟩
 refine mv E rfl fun a E=>bd hF fun c68 e69 hF=>lv E ok (qaQ Tryz.underlying9 rfl rfl e69) fun a E=>lw E (qa0 rfl rfl) fun a E=>pf E rfl rfl fun a E=>pt E rfl rfl fun a E=>wn<|cg E rfl hF (fun c70 hF=>?_) fun c70 hF=>?_
 ·refine wp_exit<|qap ?_
  cases hF
  exact so (⟨rfl,⟨ok,E.keep [5],l51⟩⟩)
 refine wp_skip<|qaa<|wp_block<|qab<|mv E rfl fun a E=>bd hF fun s71 e72 hF=>lw E (qaF Tryz.underlying9 e72 rfl ⟨_,rfl⟩ rfl) fun a E=>av E rfl fun a E=>wpList_nil<|qaf ?_
 cases hF
 exact qan ⟨ok,E.keep [5],(Nat.le_trans (qbr e72) l51)⟩
def qlE (u:World) (m0:Mem) (S:Segs) (r:(List (Found))) (a:Act) (w:World):Prop :=
 ∃ m1 v0,m0.le m1 ∧ Ok u m1 S w ∧ a.defers = [] ∧ RVs Tryz.prog a w [.t 4 v0] ∧ (pL 5 qgU) m1 [v0] r
theorem qlu (N:Nat) (vl_0:Value) (l_0:List (Token)) (hl_0:(pL 3 qaE) m0 [vl_0] l_0) (vcalls_1:Value) (calls_1:List (Call)) (hcalls_1:(pL 3 qdd) m0 [vcalls_1] calls_1) {r:(List (Found))} (hF:qeX N l_0 calls_1 = some r) (hG:Glob u) (ok:Ok u m0 S w) :
  Calls Tryz.prog 40 [vl_0,vcalls_1].toArray w fun e w'=>∃ m1 v0,e = .returned v0 ∧ m0.le m1 ∧ Ok u m1 S w' ∧ (pL 5 qgU) m1 [v0] r:=by
 have le_m0:=Mem.le.refl m0
 unfold qeX at hF
 refine en (qlE u m0 S) r Tryz.func40 rfl rfl rfl (fun _ _ h=>rc h fun _=>rfl) fun fin a E=>sg<|aw E rfl fun a E=>sg<|aw E rfl fun a E=>wp_seq<|sg<|av E rfl fun a E=>wn<|wp_block ?_
 obtain ⟨M6,ok,h7⟩:=qck (e:=124) (k:=5) (R:=qgU) ok
 refine bd hF fun o8 hL hF=>qax _ (fun (s:(List (Found)) × Int) a w=>∃ m9 c10 M11,m0.le m9 ∧ Ok u m9 (M11 :: S) w ∧ Env 134 a [(0,vl_0),(1,vcalls_1),(5,c10),(6,vi s.2)] ∧ ORow 124 5 qgU m9 c10 s.1 M11 ∧ InR .i64 s.2) (fun (b:((List (Found)))) e a w=>e = (.exit 0) ∧ ∃ m250 c251 M252,m0.le m250 ∧ Ok u m250 (M252 :: S) w ∧ Env 134 a [(5,c251)] ∧ ORow 124 5 qgU m250 c251 b M252) ?_ ?_ N _ a w hL ⟨m0,(Value.slice none 0 0),M6,Mem.le.refl _,ok,E.keep [0,1,5,6],h7,(ir 0)⟩
 rotate_left
 ·intro e a w _ hO
  obtain ⟨rfl,m244,c245,M246,hle,ok,E,h247⟩:=hO
  have le_m0:=le_m0.trans hle
  have hl_0:=(mL qaN).up hle hl_0
  have hcalls_1:=(mL qby).up hle hcalls_1
  refine qaz<|qaa<|sg<|mv E rfl fun a E=>aw E rfl fun a E=>wp_ret ?_
  obtain ⟨m248,hle,ok,hfz⟩:=(ok.frs 0 rfl).freeze
  have h249:=ORow.froz qm4 h247 hle hfz (by decide)
  have le_m0:=le_m0.trans hle
  have hl_0:=(mL qaN).up hle hl_0
  have hcalls_1:=(mL qby).up hle hcalls_1
  exact fin hF ⟨m248,c245,le_m0,ok,E.d,rz E rfl,h249⟩
 rintro ⟨v14,v15⟩ a w r ⟨m16,c17,M18,hle,ok,E,h19,r20⟩ hF
 replace hF:qc2 N l_0 calls_1 v14 v15 = some r:=hF
 unfold qc2 at hF
 have le_m0:=le_m0.trans hle
 have hl_0:=(mL qaN).up hle hl_0
 have hcalls_1:=(mL qby).up hle hcalls_1
 refine wp_seq<|sg<|mz E rfl rfl fun a E=>lv E ok (qau qbl hl_0 rfl) fun a E=>lw E (qat rfl rfl) fun a E=>wn<|cg E rfl hF (fun c21 hF=>?_) fun c21 hF=>?_
 ·refine wp_exit<|qap ?_
  cases hF
  exact so (⟨rfl,⟨m16,c17,M18,le_m0,ok,E.keep [5],h19⟩⟩)
 refine wp_skip<|qaa<|wp_seq<|wp_block<|sg<|av E rfl fun a E=>wn<|wp_block<|bd hF fun o26 hL hF=>qax _ (fun (s:(List (Found)) × Int) a w=>∃ m27 c28 M29,m16.le m27 ∧ Ok u m27 (M29 :: S) w ∧ Env 134 a [(0,vl_0),(1,vcalls_1),(5,c28),(6,vi v15),(7,vi s.2)] ∧ ORow 124 5 qgU m27 c28 s.1 M29 ∧ InR .i64 s.2) (fun (b:((List (Found)))) e a w=>e = (.exit 2) ∧ ∃ m240 c241 M242,m16.le m240 ∧ Ok u m240 (M242 :: S) w ∧ Env 134 a [(0,vl_0),(1,vcalls_1),(5,c241),(6,vi v15)] ∧ ORow 124 5 qgU m240 c241 b M242) ?_ ?_ N _ a w hL ⟨m16,c17,M18,Mem.le.refl _,ok,E.keep [0,1,5,6,7],h19,(ir 0)⟩
 rotate_left
 ·intro e a w _ hO
  obtain ⟨rfl,m236,c237,M238,hle,ok,E,h239⟩:=hO
  have le_m0:=le_m0.trans hle
  have hl_0:=(mL qaN).up hle hl_0
  have hcalls_1:=(mL qby).up hle hcalls_1
  refine qaz<|qaf<|qaa<|qab<|mv E rfl fun a E=>lw E (qar rfl rfl (InR.inc r20 (qaj hl_0) c21)) fun a E=>av E rfl fun a E=>wpList_nil ?_
  cases hF
  exact qan ⟨m236,c237,M238,le_m0,ok,E.keep [0,1,5,6],h239,(InR.inc r20 (qaj hl_0) c21)⟩
 rintro ⟨v32,v33⟩ a w r ⟨m34,c35,M36,hle,ok,E,h37,r38⟩ hF
 replace hF:qbD N l_0 calls_1 v15 v32 v33 = some r:=hF
 unfold qbD at hF
 have le_m16:=Mem.le.refl m16
 have le_m0:=le_m0.trans hle
 have le_m16:=le_m16.trans hle
 have hl_0:=(mL qaN).up hle hl_0
 have hcalls_1:=(mL qby).up hle hcalls_1
 refine wp_seq<|sg<|mz E rfl rfl fun a E=>lv E ok (qau qfz hcalls_1 rfl) fun a E=>lw E (qat rfl rfl) fun a E=>mv E rfl fun a E=>bw E 24 hF (fun c39 hF E=>?_) fun c39 hF E=>?_
 ·refine lsz E fun a E=>lsq E fun a E=>pf E rfl rfl fun a E=>wn<|c_if E rfl (fun h=>by cases h) (fun _=>?_)
  refine wp_exit<|qap ?_
  cases hF
  exact so (⟨rfl,⟨m34,c35,M36,le_m16,ok,E.keep [0,1,5,6],h37⟩⟩)
 refine mz E rfl rfl fun a E=>?_
 obtain ⟨x40,e41,hF⟩:=bnd hF
 obtain ⟨b42,o43,es44,hl45,rr46,at47,yy48⟩:=ia E 25 26 qbl hl_0 e41
 obtain ⟨rfl,l49,l50,r51⟩:=rr46
 refine lv E ok (yy48 _ _) fun a E=>fv E qdn rfl fun a E=>lv E ok (qah qal rfl (qac.ro (At.sub 0 1 at47))) fun a E=>lw E (qaG rfl rfl) fun a E=>pt E rfl rfl fun a E=>wn<|cg E rfl hF (fun c52 hF=>?_) fun c52 hF=>?_
 ·refine wp_exit<|qap ?_
  cases hF
  exact so (⟨rfl,⟨m34,c35,M36,le_m16,ok,E.keep [0,1,5,6],h37⟩⟩)
 refine wp_skip<|qaa<|wp_seq<|wp_block<|wp_seq<|wp_seq<|qaY (by kernel_rfl) (by kernel_rfl) ok<|qv E (qad rfl) fun a E=>qv E (qad rfl) fun a E=>?_
 obtain ⟨x53,e54,hF⟩:=bnd hF
 obtain ⟨b55,o56,es57,hl58,rr59,at60,yy61⟩:=ia E 34 35 qfz hcalls_1 e54
 obtain ⟨rfl,l62,r63,r64⟩:=rr59
 refine qv E (yy61 _ _) fun a E=>qv E (qak qid rfl) fun a E=>qv E (qah qal rfl (qac.ro (At.sub 0 1 at60))) fun a E=>qv E (qad rfl) fun a E=>qv E (qad rfl) fun a E=>?_
 obtain ⟨x65,e66,hF⟩:=bnd hF
 obtain ⟨b67,o68,es69,hl70,rr71,at72,yy73⟩:=ia E 39 40 qbl hl_0 e66
 obtain ⟨rfl,l74,l75,r76⟩:=rr71
 refine qv E (yy73 _ _) fun a E=>qv E (qak qmd rfl) fun a E=>qv E (qah qal rfl (qac.ro (At.sub 1 1 at72))) fun a E=>qv E (qbn rfl rfl) fun a E=>wpQuiet_nil ?_
 intro w ok
 refine qaa<|cf E rfl hF (fun c77 hF=>?_) fun c77 hF=>?_
 ·refine wp_exit<|qap<|qaz<|qaa<|qab<|mv E rfl fun a E=>lw E (qar rfl rfl (InR.inc r38 (qaj hcalls_1) c39)) fun a E=>av E rfl fun a E=>wpList_nil ?_
  cases hF
  exact qan ⟨m34,c35,M36,le_m16,ok,E.keep [0,1,5,6,7],h37,(InR.inc r38 (qaj hcalls_1) c39)⟩
 refine wp_skip<|qaa<|sg<|mv E rfl fun a E=>lw E (qar rfl rfl (InR.inc r20 (qaj hl_0) c21)) fun a E=>av E rfl fun a E=>wn<|wp_seq<|wp_block<|bd hF fun o79 hL hF=>qax _ (fun (s:Int) a w=>Ok u m34 (M36 :: S) w ∧ Env 134 a [(0,vl_0),(1,vcalls_1),(5,c35),(6,vi v15),(7,vi v33),(8,vi s)] ∧ InR .i64 s) (fun (b:Int) e a w=>e = (.exit 4) ∧ Ok u m34 (M36 :: S) w ∧ Env 134 a [(0,vl_0),(1,vcalls_1),(5,c35),(6,vi v15),(7,vi v33),(8,vi b)] ∧ InR .i64 b) ?_ ?_ N _ a w hL ⟨ok,E.keep [0,1,5,6,7,8],(InR.inc r20 (qaj hl_0) c21)⟩
 ·rintro v81 a w r ⟨ok,E,r82⟩ hF
  replace hF:qd1 N l_0 v81 = some r:=hF
  unfold qd1 at hF
  refine wp_seq<|sg<|mz E rfl rfl fun a E=>lv E ok (qau qbl hl_0 rfl) fun a E=>lw E (qat rfl rfl) fun a E=>mv E rfl fun a E=>bw E 51 hF (fun c83 hF E=>?_) fun c83 hF E=>?_
  ·refine lsz E fun a E=>lsq E fun a E=>pf E rfl rfl fun a E=>wn<|c_if E rfl (fun h=>by cases h) (fun _=>?_)
   refine wp_exit<|qap ?_
   cases hF
   exact so (⟨rfl,⟨ok,E.keep [0,1,5,6,7,8],r82⟩⟩)
  refine mz E rfl rfl fun a E=>?_
  obtain ⟨x84,e85,hF⟩:=bnd hF
  obtain ⟨b86,o87,es88,hl89,rr90,at91,yy92⟩:=ia E 52 53 qbl hl_0 e85
  obtain ⟨rfl,l93,l94,r95⟩:=rr90
  refine lv E ok (yy92 _ _) fun a E=>fv E qdn rfl fun a E=>lv E ok (qah qal rfl (qac.ro (At.sub 0 1 at91))) fun a E=>bd hF fun r96 e97 hF=>lc E qtR rfl (qh7 N x84.Kind l93 e97 hG ok) fun w ok a E=>pt E rfl rfl fun a E=>wn<|cg E rfl hF (fun c98 hF=>?_) fun c98 hF=>?_
  ·refine wp_exit<|qap ?_
   cases hF
   exact so (⟨rfl,⟨ok,E.keep [0,1,5,6,7,8],r82⟩⟩)
  refine wp_skip<|qaa<|wp_block<|qab<|mv E rfl fun a E=>lw E (qar rfl rfl (InR.inc r82 (qaj hl_0) c83)) fun a E=>av E rfl fun a E=>wpList_nil<|qaf ?_
  cases hF
  exact qan ⟨ok,E.keep [0,1,5,6,7,8],(InR.inc r82 (qaj hl_0) c83)⟩
 intro e a w _ hO
 obtain ⟨rfl,ok,E,r99⟩:=hO
 refine qaz<|qaa<|wp_seq<|sg<|mz E rfl rfl fun a E=>lv E ok (qau qbl hl_0 rfl) fun a E=>lw E (qa2 rfl rfl) fun a E=>mv E rfl fun a E=>bu E 65 hF (fun c100 hF E=>?_) fun c100 hF E=>?_
 ·refine lsz E fun a E=>lsq E fun a E=>pt E rfl rfl fun a E=>wn<|c_if E rfl (fun _=>?_) (fun h=>by cases h)
  refine wp_exit<|qap<|qaz<|qaa<|qab<|mv E rfl fun a E=>lw E (qar rfl rfl (InR.inc r38 (qaj hcalls_1) c39)) fun a E=>av E rfl fun a E=>wpList_nil ?_
  cases hF
  exact qan ⟨m34,c35,M36,le_m16,ok,E.keep [0,1,5,6,7],h37,(InR.inc r38 (qaj hcalls_1) c39)⟩
 refine mz E rfl rfl fun a E=>?_
 obtain ⟨x101,e102,hF⟩:=bnd hF
 obtain ⟨b103,o104,es105,hl106,rr107,at108,yy109⟩:=ia E 66 67 qbl hl_0 e102
 obtain ⟨rfl,l110,l111,r112⟩:=rr107
 refine lv E ok (yy109 _ _) fun a E=>fv E qdn rfl fun a E=>lv E ok (qah qal rfl (qac.ro (At.sub 0 1 at108))) fun a E=>lw E (qbn rfl rfl) fun a E=>pf E rfl rfl fun a E=>wn<|cf E rfl hF (fun c113 hF=>?_) fun c113 hF=>?_
 ·refine wp_exit<|qap<|qaz<|qaa<|qab<|mv E rfl fun a E=>lw E (qar rfl rfl (InR.inc r38 (qaj hcalls_1) c39)) fun a E=>av E rfl fun a E=>wpList_nil ?_
  cases hF
  exact qan ⟨m34,c35,M36,le_m16,ok,E.keep [0,1,5,6,7],h37,(InR.inc r38 (qaj hcalls_1) c39)⟩
 refine wp_skip<|qaa<|sg<|mz E rfl rfl fun a E=>lw E (qav rfl rfl) fun a E=>?_
 obtain ⟨l114,e115,hF⟩:=bnd hF
 obtain ⟨c116,h117,yy118⟩:=qmS qbl hl_0 e115 (P:=Tryz.prog) (X:=.tmp 73) (lov:=(some (.tmp 75))) (hiv:=none) (qaC E rfl) (ql9 E ⟨_,rfl⟩) (ql9 E rfl)
 refine lv E ok (yy118 _ _) fun a E=>bd hF fun r119 e120 hF=>qas E qwF rfl (qjA N _ l114 h117 e120 hG ok) rfl rfl ?_
 rintro _ w ⟨m121,c122,rfl,hle,ok,h123⟩
 have le_m0:=le_m0.trans hle
 have le_m16:=le_m16.trans hle
 have hl_0:=(mL qaN).up hle hl_0
 have hcalls_1:=(mL qby).up hle hcalls_1
 have h37:=ORow.up qm4 hle h37
 have at47:=At.up hle at47
 have at60:=At.up hle at60
 have at72:=At.up hle at72
 have at108:=At.up hle at108
 have h117:=(mL qaN).up hle h117
 refine ⟨_,rfl,fun a E=>?_⟩
 refine aw E rfl fun a E=>sg<|mz E rfl rfl fun a E=>mv E rfl fun a E=>?_
 obtain ⟨x124,e125,hF⟩:=bnd hF
 obtain ⟨b126,o127,es128,hl129,rr130,at131,yy132⟩:=ia E 80 81 qfz hcalls_1 e125
 obtain ⟨rfl,l133,r134,r135⟩:=rr130
 refine lv E ok (yy132 _ _) fun a E=>fv E qks rfl fun a E=>lv E ok (qah qaJ rfl (qac.ro (At.sub 1 1 at131))) fun a E=>bd hF fun r136 e137 hF=>qas E qtD rfl (qh8 N _ r119 h123 x124.ID r134 e137 hG ok) rfl rfl ?_
 rintro _ w ⟨⟨rfl,ok⟩,l138⟩
 refine ⟨_,rfl,fun a E=>?_⟩
 refine mv E rfl fun a E=>lw E (qao rfl rfl) fun a E=>lw E (qao rfl rfl) fun a E=>av E rfl fun a E=>aw E rfl fun a E=>sg<|mz E rfl rfl fun a E=>mv E rfl fun a E=>?_
 obtain ⟨x139,e140,hF⟩:=bnd hF
 obtain ⟨b141,o142,es143,hl144,rr145,at146,yy147⟩:=ia E 90 91 qfz hcalls_1 e140
 obtain ⟨rfl,l148,r149,r150⟩:=rr145
 refine lv E ok (yy147 _ _) fun a E=>fv E qj6 rfl fun a E=>lv E ok (qah qaJ rfl (qac.ro (At.sub 2 1 at146))) fun a E=>bd hF fun r151 e152 hF=>qas E qtD rfl (qh8 N _ r119 h123 x139.Source r150 e152 hG ok) rfl rfl ?_
 rintro _ w ⟨⟨rfl,ok⟩,l153⟩
 refine ⟨_,rfl,fun a E=>?_⟩
 refine mv E rfl fun a E=>lw E (qao rfl rfl) fun a E=>lw E (qao rfl rfl) fun a E=>av E rfl fun a E=>aw E rfl fun a E=>wp_seq<|sg<|mz E rfl rfl fun a E=>?_
 obtain ⟨x154,e155,hF⟩:=bnd hF
 obtain ⟨b156,o157,es158,hl159,rr160,at161,yy162⟩:=ia E 98 99 qfz hcalls_1 e155
 obtain ⟨rfl,l163,r164,r165⟩:=rr160
 refine lv E ok (yy162 _ _) fun a E=>fv E qks rfl fun a E=>lv E ok (qah qaJ rfl (qac.ro (At.sub 1 1 at161))) fun a E=>lw E (qa0 rfl rfl) fun a E=>wn<|bd hF fun o166 hJ hF=>qa6 (Q':=fun e a w=>e = .normal ∧ Ok u m121 (M36 :: S) w ∧ Env 134 a [(0,vl_0),(1,vcalls_1),(5,c35),(6,vi v15),(7,vi v33),(10,vs o166.1),(11,vb o166.2),(12,vs r151.1),(13,vb r151.2)] ∧ o166.1.length ≤ LIMS) ?_ ?_
 ·have hF:=hJ
  refine cg E rfl hF (fun c168 hF=>?_) fun c168 hF=>?_
  ·refine wp_skip ?_
   cases hF
   exact ⟨rfl,⟨ok,E.keep [0,1,5,6,7,10,11,12,13],l138⟩⟩
  refine qab<|mz E rfl rfl fun a E=>av E rfl fun a E=>av E rfl fun a E=>wpList_nil ?_
  cases hF
  exact ⟨rfl,⟨ok,E.keep [0,1,5,6,7,10,11,12,13],l153⟩⟩
 intro e a w hO
 obtain ⟨rfl,ok,E,l169⟩:=hO
 refine qaa<|wp_seq<|sg<|mz E rfl rfl fun a E=>?_
 obtain ⟨x170,e171,hF⟩:=bnd hF
 obtain ⟨b172,o173,es174,hl175,rr176,at177,yy178⟩:=ia E 106 107 qfz hcalls_1 e171
 obtain ⟨rfl,l179,r180,r181⟩:=rr176
 refine lv E ok (yy178 _ _) fun a E=>fv E qj6 rfl fun a E=>lv E ok (qah qaJ rfl (qac.ro (At.sub 2 1 at177))) fun a E=>lw E (qa0 rfl rfl) fun a E=>wn<|bd hF fun o182 hJ hF=>qa6 (Q':=fun e a w=>e = .normal ∧ Ok u m121 (M36 :: S) w ∧ Env 134 a [(0,vl_0),(1,vcalls_1),(5,c35),(6,vi v15),(7,vi v33),(10,vs o166.1),(11,vb o166.2),(12,vs o182.1),(13,vb o182.2)] ∧ o182.1.length ≤ LIMS) ?_ ?_
 ·have hF:=hJ
  refine cg E rfl hF (fun c184 hF=>?_) fun c184 hF=>?_
  ·refine wp_skip ?_
   cases hF
   exact ⟨rfl,⟨ok,E.keep [0,1,5,6,7,10,11,12,13],l153⟩⟩
  refine qab<|mz E rfl rfl fun a E=>av E rfl fun a E=>av E rfl fun a E=>wpList_nil ?_
  cases hF
  exact ⟨rfl,⟨ok,E.keep [0,1,5,6,7,10,11,12,13],l169⟩⟩
 intro e a w hO
 obtain ⟨rfl,ok,E,l185⟩:=hO
 refine qaa<|sg<|mz E rfl rfl fun a E=>qc8 o166.2 (fun c186=>?_) (fun c186=>?_)
 rotate_left
 ·have hF:=qbV c186 hF
  have E:=E.upd 115 c186 rfl
  refine ls E fun a E=>pf E rfl rfl fun a E=>wn<|c_if E rfl (fun h=>by cases h) (fun _=>?_)
  refine wp_skip<|qaf<|qaa<|qab<|mv E rfl fun a E=>lw E (qar rfl rfl (InR.inc r38 (qaj hcalls_1) c39)) fun a E=>av E rfl fun a E=>wpList_nil ?_
  cases hF
  exact qan ⟨m121,c35,M36,le_m16,ok,E.keep [0,1,5,6,7],h37,(InR.inc r38 (qaj hcalls_1) c39)⟩
 have hF:=qbW c186 hF
 have E:=E.upd 115 c186 rfl
 refine mv E rfl fun a E=>pt E rfl rfl fun a E=>wn<|cg E rfl hF (fun c187 hF=>?_) fun c187 hF=>?_
 ·refine wp_skip<|qaf<|qaa<|qab<|mv E rfl fun a E=>lw E (qar rfl rfl (InR.inc r38 (qaj hcalls_1) c39)) fun a E=>av E rfl fun a E=>wpList_nil ?_
  cases hF
  exact qan ⟨m121,c35,M36,le_m16,ok,E.keep [0,1,5,6,7],h37,(InR.inc r38 (qaj hcalls_1) c39)⟩
 refine bd hF fun o188 hJ hF=>qa6 (Q':=fun e a w=>e = .normal ∧ ∃ c189 M190,Ok u m121 (M190 :: S) w ∧ Env 134 a [(0,vl_0),(1,vcalls_1),(5,c189),(6,vi v15),(7,vi v33)] ∧ ORow 124 5 qgU m121 c189 o188 M190) ?_ ?_
 rotate_left
 ·intro e a w hO
  obtain ⟨rfl,c232,M233,ok,E,h234⟩:=hO
  refine qaf<|qaa<|qab<|mv E rfl fun a E=>lw E (qar rfl rfl (InR.inc r38 (qaj hcalls_1) c39)) fun a E=>av E rfl fun a E=>wpList_nil ?_
  cases hF
  exact qan ⟨m121,c232,M233,le_m16,ok,E.keep [0,1,5,6,7],h234,(InR.inc r38 (qaj hcalls_1) c39)⟩
 have hF:=hJ
 obtain ⟨x192,e193,hF⟩:=bnd hF
 obtain ⟨r204,e205,hF⟩:=bnd hF
 obtain ⟨l210,e211,hF⟩:=bnd hF
 obtain rfl:=sj hF
 refine qcb [] (Cls u m121 ([])) (Cls u m121 ([])) (by kernel_rfl) ?_
 intro w hw
 replace ok:=qcB ok hw
 clear hw
 have le_m121:=Mem.le.refl m121
 refine qay (cl1 (cq le_m121 ok [] rfl) (cq le_m121 ok [] rfl)) fun hT=>kt 0 E rfl hT (qad rfl) fun a E=>kt 1 E rfl hT (qad rfl) fun a E=>kt 2 E rfl hT (qad rfl) fun a E=>kt 3 E rfl hT (qad rfl) fun a E=>?_
 obtain ⟨b215,o216,es217,hl218,rr219,at220,yy221⟩:=ia E 120 121 qbl hl_0 e193
 obtain ⟨rfl,l222,l223,r224⟩:=rr219
 refine kt 4 E rfl hT (yy221 _ _) fun a E=>kt 5 E rfl hT (qak qui rfl) fun a E=>kt 6 E rfl hT (qah qaJ rfl (qac.cro (At.sub 2 1 at220))) fun a E=>kt 7 E rfl hT (qad rfl) fun a E=>kt 8 E rfl hT (qad rfl) fun a E=>kt 9 E rfl hT (qad rfl) fun a E=>kt 10 E rfl hT (qad rfl) fun a E=>qaZ [11] (by kernel_rfl) rfl (qa1 ?_)
 ·refine wo rfl<|qas E qwo rfl (qj8 N _ l_0 hl_0 v15 r20 e205 hG ok) rfl rfl ?_
  rintro _ w ⟨⟨rfl,ok⟩,l225⟩
  refine ⟨_,rfl,fun a E=>?_⟩
  refine wn<|qay (cl1 (cq le_m121 ok [] rfl) (cq le_m121 ok [] rfl)) fun hT=>kt 12 E rfl hT (qaR (ps:=[(0,.tmp 119),(1,.tmp 124),(2,.tmp 125),(3,.tmp 126),(4,.tmp 129)]) (qs:=[(0,[vi v33]),(1,[vi x192.From]),(2,[vs o166.1]),(3,[vs o182.1]),(4,[vs r204])]) (cs:=[vi v33,vi x192.From,vs o166.1,vs o182.1,vs r204]) qmE qqZ rfl ⟨rfl,rfl,rfl,⟨rfl,rfl,rfl,⟨rfl,rfl,rfl,⟨rfl,rfl,rfl,⟨rfl,rfl,rfl,trivial⟩⟩⟩⟩⟩ rfl) fun a E=>qaZ [13] (by kernel_rfl) rfl (qa1 ?_)
  ·refine wo rfl<|qaT (R:=qgU) (xo:=[.tmp 130]) (xs:=([(Found.mk v33 x192.From o166.1 o182.1 r204)]:List (Found))) E ok qm6 qmE rfl ⟨⟨_,rfl,rfl,⟨rfl,r38,r224,l169,l185,l225⟩⟩,trivial⟩ rfl rfl rfl rfl fun c226 M227 a w E ok h228=>wn<|qay (cl1 (cq le_m121 ok [] rfl) (cq le_m121 ok [] rfl)) fun hT=>qaZ [14] (by kernel_rfl) rfl (qa1 ?_)
   ·refine wo rfl<|qbR (R:=qgU) E ok 1 qm4 qm6 Tryz.underlying121 rfl h37 (qa3.ofRow h228 0 rfl ok) e211 ⟨_,qmE,rfl⟩ rfl rfl rfl rfl fun c229 M230 a w E ok h231=>wn<|qay (cl1 (cq le_m121 ok [] rfl) (cq le_m121 ok [] rfl)) fun hT=>kt 15 E rfl hT (qaq rfl) fun a E=>qcl (by kernel_rfl) ?_
    exact ⟨rfl,⟨c229,M230,(ok.pk 2 [1] rfl (by decide)),E.keep [0,1,5,6,7],h231⟩⟩
def qlk (u:World) (m0:Mem) (S:Segs) (r:(List (Int)) × Int) (a:Act) (w:World):Prop :=
 ∃ m1 v0,m0.le m1 ∧ Ok u m1 S w ∧ a.defers = [] ∧ RVs Tryz.prog a w [.t 6 v0,.t 7 (.int .i64 r.2)] ∧ (pL 1 (pI .i64)) m1 [v0] r.1 ∧ InR .i64 r.2
theorem qlh (N:Nat) (vscript_0:Value) (script_0:List (State)) (hscript_0:(pL 2 qbA) m0 [vscript_0] script_0) (vcalls_1:Value) (calls_1:List (Call)) (hcalls_1:(pL 3 qdd) m0 [vcalls_1] calls_1) (vfile_2:List Value) (file_2:File) (hfile_2:qef m0 vfile_2 file_2) {r:(List (Int)) × Int} (hF:qeK N script_0 calls_1 file_2 = some r) (hG:Glob u) (ok:Ok u m0 S w) :
  Calls Tryz.prog 24 [vscript_0,vcalls_1,.agg vfile_2.toArray].toArray w fun e w'=>∃ m1 v0,e = .returned (.tuple [v0,(.int .i64 r.2)].toArray) ∧ m0.le m1 ∧ Ok u m1 S w' ∧ (pL 1 (pI .i64)) m1 [v0] r.1 ∧ InR .i64 r.2:=by
 obtain ⟨rfl,l1,l2⟩:=hfile_2
 have le_m0:=Mem.le.refl m0
 unfold qeK at hF
 refine en (qlk u m0 S) r Tryz.func24 rfl rfl rfl (by rintro a w ⟨m1,v0,hle,ok,hd,hrv,h0,h1⟩; exact qbs [.t 6 v0,.t 7 (.int .i64 r.2)] hd rfl hrv ⟨m1,v0,rfl,hle,ok,h0,h1⟩) fun fin a E=>sg<|qcC E ok rfl rfl rfl fun b3 a w E ok=>av E rfl fun a E=>aw E rfl fun a E=>wp_seq<|sg<|mv E rfl fun a E=>bd hF fun r4 e5 hF=>lc E qoS rfl (qe8 N _ script_0 hscript_0 e5 hG ok) fun w ok a E=>lw E (qbj rfl) fun a E=>mv E rfl fun a E=>bu E 17 hF (fun c6 hF E=>?_) fun c6 hF E=>?_
 ·refine lsq E fun a E=>ls E fun a E=>pt E rfl rfl fun a E=>wn<|c_if E rfl (fun _=>?_) (fun h=>by cases h)
  refine sg<|av E rfl fun a E=>aw E rfl fun a E=>wp_ret<|qae ?_
  exact fin hF ⟨m0,(.slice none 0 0),le_m0,ok.drop,E.d,⟨rv_t E rfl,rv_t E rfl,trivial⟩,qa9,(ir 1)⟩
 refine mv E rfl fun a E=>bd hF fun r7 e8 hF=>lc E qwE rfl (qld N _ calls_1 hcalls_1 e8 hG ok) fun w ok a E=>lw E (qbj rfl) fun a E=>pf E rfl rfl fun a E=>wn<|cf E rfl hF (fun c9 hF=>?_) fun c9 hF=>?_
 ·refine sg<|av E rfl fun a E=>aw E rfl fun a E=>wp_ret<|qae ?_
  exact fin hF ⟨m0,(.slice none 0 0),le_m0,ok.drop,E.d,⟨rv_t E rfl,rv_t E rfl,trivial⟩,qa9,(ir 1)⟩
 refine wp_skip<|qaa<|sg<|mv E rfl fun a E=>fk E ok qqI qal rfl 0 rfl rfl fun a E=>bd hF fun r10 e11 hF=>qas E qvY rfl (qkQ N _ script_0 hscript_0 file_2.Text l2 e11 hG ok) rfl rfl ?_
 rintro _ w ⟨m12,c13,rfl,hle,ok,h14,r15,r16⟩
 have le_m0:=le_m0.trans hle
 have hscript_0:=(mL qaD).up hle hscript_0
 have hcalls_1:=(mL qby).up hle hcalls_1
 refine ⟨_,rfl,fun a E=>?_⟩
 refine mv E rfl fun a E=>lw E (qao rfl rfl) fun a E=>lw E (qao rfl rfl) fun a E=>lw E (qao rfl rfl) fun a E=>av E rfl fun a E=>av E rfl fun a E=>av E rfl fun a E=>wn<|wp_seq<|sg<|mv E rfl fun a E=>lw E (qcn rfl rfl) fun a E=>wn<|cf E rfl hF (fun c17 hF=>?_) fun c17 hF=>?_
 ·refine sg<|mv E rfl fun a E=>av E rfl fun a E=>aw E rfl fun a E=>wp_ret<|qae ?_
  exact fin hF ⟨m12,(.slice none 0 0),le_m0,ok.drop,E.d,⟨rv_t E rfl,rv_t E rfl,trivial⟩,qa9,r16⟩
 refine wp_skip<|qaa<|sg<|mv E rfl fun a E=>lv E ok (qau qfz hcalls_1 rfl) fun a E=>bd hF fun l18 e19 hF=>qo7 (R:=(pI .i64)) E ok qg8 qni rfl (qfI (ir 0)) rfl e19 rfl rfl fun c20 M21 a w E ok h22=>aw E rfl fun a E=>sg<|mz E rfl rfl fun a E=>bd hF fun r23 e24 hF=>qas E qwq rfl (qlu N _ r10.1 h14 _ calls_1 hcalls_1 e24 hG ok) rfl rfl ?_
 rintro _ w ⟨m25,c26,rfl,hle,ok,h27⟩
 have le_m0:=le_m0.trans hle
 have hscript_0:=(mL qaD).up hle hscript_0
 have hcalls_1:=(mL qby).up hle hcalls_1
 have h14:=(mL qaN).up hle h14
 have h22:=ORow.up (mI .i64) hle h22
 refine ⟨_,rfl,fun a E=>?_⟩
 refine aw E rfl fun a E=>wp_seq<|sg<|av E rfl fun a E=>wn<|wp_block<|bd hF fun o33 hL hF=>qax _ (fun (s:Int × (List (Int))) a w=>∃ c35 M36,Ok u m25 (M36 :: [(b3,oc 62 [vs file_2.Name,vs file_2.Text])] :: S) w ∧ Env 56 a [(11,c35),(12,c26),(13,vi s.1)] ∧ InR .i64 s.1 ∧ ORow 3 1 (pI .i64) m25 c35 s.2 M36) (fun (b:((List (Int)))) e a w=>e = (.exit 0) ∧ ∃ c85 M86,Ok u m25 (M86 :: [(b3,oc 62 [vs file_2.Name,vs file_2.Text])] :: S) w ∧ Env 56 a [(11,c85)] ∧ ORow 3 1 (pI .i64) m25 c85 b M86) ?_ ?_ N _ a w hL ⟨c20,M21,ok,E.keep [11,12,13],(ir 0),h22⟩
 rotate_left
 ·intro e a w _ hO
  obtain ⟨rfl,c80,M81,ok,E,h82⟩:=hO
  refine qaz<|qaa<|sg<|mv E rfl fun a E=>av E rfl fun a E=>av E rfl fun a E=>wn<|wp_ret ?_
  obtain ⟨m83,hle,ok,hfz⟩:=(ok.frs 0 rfl).freeze
  have h84:=ORow.froz (mI .i64) h82 hle hfz (by decide)
  have le_m0:=le_m0.trans hle
  have hscript_0:=(mL qaD).up hle hscript_0
  have hcalls_1:=(mL qby).up hle hcalls_1
  have h14:=(mL qaN).up hle h14
  have h27:=(mL qm4).up hle h27
  exact fin hF ⟨m83,c80,le_m0,ok.drop,E.d,⟨rv_t E rfl,rv_t E rfl,trivial⟩,h84,(ir 0)⟩
 rintro ⟨v38,v39⟩ a w r ⟨c41,M42,ok,E,r40,h43⟩ hF
 replace hF:qcj N r23 v38 v39 = some r:=hF
 unfold qcj at hF
 refine wp_seq<|sg<|mz E rfl rfl fun a E=>lv E ok (qau qm6 h27 rfl) fun a E=>lw E (qat rfl rfl) fun a E=>wn<|cg E rfl hF (fun c44 hF=>?_) fun c44 hF=>?_
 ·refine wp_exit<|qap ?_
  cases hF
  exact so (⟨rfl,⟨c41,M42,ok,E.keep [11],h43⟩⟩)
 refine wp_skip<|qaa<|wp_seq<|wp_block<|qab<|mz E rfl rfl fun a E=>mv E rfl fun a E=>?_
 obtain ⟨x45,e46,hF⟩:=bnd hF
 obtain ⟨b47,o48,es49,hl50,rr51,at52,yy53⟩:=ia E 46 47 qm6 h27 e46
 obtain ⟨rfl,r54,r55,l56,l57,l58⟩:=rr51
 refine lv E ok (yy53 _ _) fun a E=>fv E qsG rfl fun a E=>lv E ok (qah qaJ rfl (qac.ro (At.sub 0 1 at52))) fun a E=>?_
 obtain ⟨x59,e60,hF⟩:=bnd hF
 obtain ⟨b61,o62,hp63,yy64⟩:=qb4 qg8 h43 e60 (P:=Tryz.prog) (X:=.tmp 45) (I:=.tmp 50) (kd:=.i64) (qaC E rfl) (qaC E rfl)
 refine lv E ok (yy64 _ _) fun a E=>?_
 obtain ⟨es65,hl66,rr67,hh68⟩:=qev h43 e60 hp63 (by decide)
 obtain ⟨rfl,r69⟩:=rr67
 refine lv E ok (qah qaJ rfl (hh68 _ _ _ 0 rfl)) fun a E=>lw E (qav rfl rfl) fun a E=>?_
 obtain ⟨x70,e71,hF⟩:=bnd hF
 obtain ⟨b72,o73,hp74,yy75⟩:=qb4 qg8 h43 e71 (P:=Tryz.prog) (X:=.tmp 45) (I:=.tmp 50) (kd:=.i64) (qaC E rfl) (qaC E rfl)
 refine lv E ok (yy75 _ _) fun a E=>bd hF fun l76 e77 hF=>qkW (R:=(pI .i64)) E ok 0 rfl h43 e71 hp74 rfl rfl qes rfl rfl rfl ⟨rfl,trivial⟩ (qfI (InR.wrap _ _)) e77 rfl fun M78 w ok h79=>wpList_nil<|qaf<|qaa<|qab<|mv E rfl fun a E=>lw E (qar rfl rfl (InR.inc r40 (qaj h27) c44)) fun a E=>av E rfl fun a E=>wpList_nil ?_
 cases hF
 exact qan ⟨c41,M78,ok,E.keep [11,12,13],(InR.inc r40 (qaj h27) c44),h79⟩
def qgG (u:World) (m0:Mem) (S:Segs) (r:Bool) (a:Act) (w:World):Prop :=
 Ok u m0 S w ∧ a.defers = [] ∧ RVs Tryz.prog a w [.t 4 (.bool r)]
theorem qgA (N:Nat) (va_0:Value) (a_0:List (List UInt8)) (ha_0:(pL 1 pS) m0 [va_0] a_0) (vb_1:Value) (b_1:List (List UInt8)) (hb_1:(pL 1 pS) m0 [vb_1] b_1) {r:Bool} (hF:qdX N a_0 b_1 = some r) (hG:Glob u) (ok:Ok u m0 S w) :
  Calls Tryz.prog 20 [va_0,vb_1].toArray w fun e w'=>(e = .returned (.bool r) ∧ Ok u m0 S w'):=by
 unfold qdX at hF
 refine en (qgG u m0 S) r Tryz.func20 rfl rfl rfl (fun _ _ h=>ra h rfl) fun fin a E=>sg<|aw E rfl fun a E=>wp_seq<|sg<|mv E rfl fun a E=>lv E ok (qau qit ha_0 rfl) fun a E=>mv E rfl fun a E=>lv E ok (qau qit hb_1 rfl) fun a E=>lw E (qcn rfl rfl) fun a E=>wn<|cf E rfl hF (fun c1 hF=>?_) fun c1 hF=>?_
 ·refine sg<|aw E rfl fun a E=>wp_ret<|qae ?_
  exact fin hF ⟨ok,E.d,rz E rfl⟩
 refine wp_skip<|qaa<|wp_seq<|sg<|aw E rfl fun a E=>wp_block<|bd hF fun o3 hL hF=>qax _ (fun (s:Int) a w=>Ok u m0 (S) w ∧ Env 26 a [(0,va_0),(1,vb_1),(5,vi s)] ∧ InR .i64 s) (fun (b:(Unit ⊕ Bool)) e a w=>(Sum.elim (fun b29=>e = (.exit 0) ∧ Ok u m0 (S) w ∧ Env 26 a []) (fun b30=>e = .ret ∧ qgG u m0 S b30 a w)) b) ?_ ?_ N _ a w hL ⟨ok,E.keep [0,1,5],(ir 0)⟩
 rotate_left
 ·intro e a w _ hO
  rcases o3 with o3 | o3
  rotate_left
  ·obtain ⟨rfl,hret⟩:=hO
   refine qag<|qae ?_
   exact fin hF hret
  have hF:=qaX hF
  obtain ⟨rfl,ok,E⟩:=hO
  refine qaz<|qaa<|sg<|aw E rfl fun a E=>wp_ret ?_
  exact fin hF ⟨ok,E.d,rz E rfl⟩
 rintro v5 a w r ⟨ok,E,r6⟩ hF
 replace hF:qeB N a_0 b_1 v5 = some r:=hF
 unfold qeB at hF
 refine wp_seq<|sg<|mz E rfl rfl fun a E=>lv E ok (qau qit ha_0 rfl) fun a E=>lw E (qat rfl rfl) fun a E=>wn<|cg E rfl hF (fun c7 hF=>?_) fun c7 hF=>?_
 ·refine wp_exit<|qap ?_
  cases hF
  exact so (sl ⟨rfl,⟨ok,E.keep []⟩⟩)
 refine wp_skip<|qaa<|wp_seq<|wp_block<|wp_seq<|qaY (by kernel_rfl) (by kernel_rfl) ok<|qv E (qad rfl) fun a E=>qv E (qad rfl) fun a E=>?_
 obtain ⟨x8,e9,hF⟩:=bnd hF
 obtain ⟨b10,o11,es12,hl13,rr14,at15,yy16⟩:=ia E 17 18 qit ha_0 e9
 obtain ⟨rfl,l17⟩:=rr14
 refine qv E (yy16 _ _) fun a E=>qv E (qah qal rfl (qac.ro at15)) fun a E=>qv E (qad rfl) fun a E=>qv E (qad rfl) fun a E=>?_
 obtain ⟨x18,e19,hF⟩:=bnd hF
 obtain ⟨b20,o21,es22,hl23,rr24,at25,yy26⟩:=ia E 21 22 qit hb_1 e19
 obtain ⟨rfl,l27⟩:=rr24
 refine qv E (yy26 _ _) fun a E=>qv E (qah qal rfl (qac.ro at25)) fun a E=>qv E (qbn rfl rfl) fun a E=>wpQuiet_nil ?_
 intro w ok
 refine qaa<|cg E rfl hF (fun c28 hF=>?_) fun c28 hF=>?_
 ·refine wp_skip<|qaf<|qaa<|qab<|mv E rfl fun a E=>lw E (qar rfl rfl (InR.inc r6 (qaj ha_0) c7)) fun a E=>av E rfl fun a E=>wpList_nil ?_
  cases hF
  exact qan ⟨ok,E.keep [0,1,5],(InR.inc r6 (qaj ha_0) c7)⟩
 refine sg<|aw E rfl fun a E=>wp_ret<|qag<|qae ?_
 cases hF
 exact so (sr ⟨rfl,⟨ok,E.d,rz E rfl⟩⟩)
end Go.Proofs.YtllfckekodcdaaaGreatDoor
