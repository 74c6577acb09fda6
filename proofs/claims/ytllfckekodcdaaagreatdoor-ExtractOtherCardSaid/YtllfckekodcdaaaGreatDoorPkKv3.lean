/- Texts of this proof, put together by pack.py: what its declarations name. -/
import Derived.Test.YtllfckekodcdaaaGreatDoorPkKv2
import Derived.Test.YtllfckekodcdaaaGreatDoorCards
import Derived.Test.YtllfckekodcdaaaGreatDoorChecked
import Derived.Test.YtllfckekodcdaaaGreatDoorProg
import Derived.Test.YtllfckekodcdaaaGreatDoorRows
import Derived.Test.YtllfckekodcdaaaGreatDoorTie
set_option linter.unusedVariables false
set_option linter.unusedSimpArgs false
namespace Go.Proofs.YtllfckekodcdaaaGreatDoor
open Go.X
variable {u:World} {m0:Mem} {S:Segs} {w:World}
set_option maxHeartbeats 4000000
set_option maxRecDepth 100000
def Tab (u:World):Prop:=Lib.TabIs Tryz.prog u "internal/strconv.uint64pow10" .u64 Lib.pow10Tab
def qaL:Rp Call:=fun _ cs x=>cs = [.string (bs x.Name),.int .i64 x.ID,.int .i64 x.Source] ∧ x.Name.length ≤ LIMS ∧ InR .i64 x.ID ∧ InR .i64 x.Source
theorem qaR:Mono qaL:=⟨fun _ h=>by
 obtain ⟨e,h0,h1,h2⟩:=h
 exact ⟨e,h0,h1,h2⟩,fun h=>by
 obtain ⟨rfl,h0,h1,h2⟩:=h
 exact ⟨rfl,rfl,rfl,trivial⟩⟩
def qbM:Rp Token:=fun _ cs x=>cs = [.string (bs x.Kind),.string (bs x.Text),.int .i64 x.From] ∧ x.Kind.length ≤ LIMS ∧ x.Text.length ≤ LIMS ∧ InR .i64 x.From
theorem qev:Mono qbM:=⟨fun _ h=>by
 obtain ⟨e,h0,h1,h2⟩:=h
 exact ⟨e,h0,h1,h2⟩,fun h=>by
 obtain ⟨rfl,h0,h1,h2⟩:=h
 exact ⟨rfl,rfl,rfl,trivial⟩⟩
def qeM:Rp File:=fun _ cs x=>cs = [.string (bs x.Name),.string (bs x.Text)] ∧ x.Name.length ≤ LIMS ∧ x.Text.length ≤ LIMS
theorem qcK:Mono qeM:=⟨fun _ h=>by
 obtain ⟨e,h0,h1⟩:=h
 exact ⟨e,h0,h1⟩,fun h=>by
 obtain ⟨rfl,h0,h1⟩:=h
 exact ⟨rfl,rfl,trivial⟩⟩
def qbK:Rp Range:=fun _ cs x=>cs = [.int .u8 x.From,.int .u8 x.To] ∧ InR .u8 x.From ∧ InR .u8 x.To
theorem qe0:Mono qbK:=⟨fun _ h=>by
 obtain ⟨e,h0,h1⟩:=h
 exact ⟨e,h0,h1⟩,fun h=>by
 obtain ⟨rfl,h0,h1⟩:=h
 exact ⟨rfl,rfl,trivial⟩⟩
def qbO:Rp Item:=fun m cs x=>∃ c1,cs = [.string (bs x.Text),c1,.bool x.Not,.int .i64 x.Least,.int .i64 x.Most] ∧ x.Text.length ≤ LIMS ∧ (pL 2 qbK) m [c1] x.Ranges ∧ InR .i64 x.Least ∧ InR .i64 x.Most
theorem qds:Mono qbO:=⟨fun hm h=>by
 obtain ⟨c1,e,h0,h1,h3,h4⟩:=h
 exact ⟨c1,e,h0,(mL qe0).up hm h1,h3,h4⟩,fun h=>by
 obtain ⟨c1,rfl,h0,h1,h3,h4⟩:=h
 exact ⟨rfl,((mL qe0).one h1).1,rfl,rfl,rfl,trivial⟩⟩
def qdv:Rp Rule:=fun m cs x=>∃ c1,cs = [.string (bs x.Kind),c1,.string (bs x.Next)] ∧ x.Kind.length ≤ LIMS ∧ (pL 5 qbO) m [c1] x.Items ∧ x.Next.length ≤ LIMS
theorem qdx:Mono qdv:=⟨fun hm h=>by
 obtain ⟨c1,e,h0,h1,h2⟩:=h
 exact ⟨c1,e,h0,(mL qds).up hm h1,h2⟩,fun h=>by
 obtain ⟨c1,rfl,h0,h1,h2⟩:=h
 exact ⟨rfl,((mL qds).one h1).1,rfl,trivial⟩⟩
def qbU:Rp State:=fun m cs x=>∃ c1,cs = [.string (bs x.Name),c1] ∧ x.Name.length ≤ LIMS ∧ (pL 3 qdv) m [c1] x.Rules
theorem qaP:Mono qbU:=⟨fun hm h=>by
 obtain ⟨c1,e,h0,h1⟩:=h
 exact ⟨c1,e,h0,(mL qdx).up hm h1⟩,fun h=>by
 obtain ⟨c1,rfl,h0,h1⟩:=h
 exact ⟨rfl,((mL qdx).one h1).1,trivial⟩⟩
theorem qjl:aggB Tryz.prog 111 2 = true:=by kernel_rfl
theorem qii:aggB Tryz.prog 118 3 = true:=by kernel_rfl
theorem qfn:aggB Tryz.prog 154 5 = true:=by kernel_rfl
theorem qmG:aggB Tryz.prog 156 2 = true:=by kernel_rfl
theorem qfi:aggB Tryz.prog 29 3 = true:=by kernel_rfl
theorem qnW:aggB Tryz.prog 75 2 = true:=by kernel_rfl
theorem qpP:aggB Tryz.prog 83 3 = true:=by kernel_rfl
theorem qjy:ArT Tryz.prog 200 4 256 1:=ArT.of (by kernel_rfl)
theorem qju:ArT Tryz.prog 221 3 2 1:=ArT.of (by kernel_rfl)
theorem qkM:Tryz.prog.eqGuardType Tryz.prog.depth 221 = false:=by kernel_rfl
theorem qiE:qaI Tryz.prog 111 0 0 = true:=by kernel_rfl
theorem qgp:qaI Tryz.prog 111 1 1 = true:=by kernel_rfl
theorem qly:qaI Tryz.prog 118 0 0 = true:=by kernel_rfl
theorem qfI:qaI Tryz.prog 118 1 1 = true:=by kernel_rfl
theorem qgt:qaI Tryz.prog 118 2 2 = true:=by kernel_rfl
theorem qcN:qaI Tryz.prog 154 0 0 = true:=by kernel_rfl
theorem qgd:qaI Tryz.prog 154 1 1 = true:=by kernel_rfl
theorem qlB:qaI Tryz.prog 154 2 2 = true:=by kernel_rfl
theorem qdn:qaI Tryz.prog 154 3 3 = true:=by kernel_rfl
theorem qlo:qaI Tryz.prog 154 4 4 = true:=by kernel_rfl
theorem qjS:qaI Tryz.prog 156 0 0 = true:=by kernel_rfl
theorem qjO:qaI Tryz.prog 156 1 1 = true:=by kernel_rfl
theorem qqV:qaI Tryz.prog 180 0 0 = true:=by kernel_rfl
theorem qlA:qaI Tryz.prog 180 1 1 = true:=by kernel_rfl
theorem qn7:qaI Tryz.prog 180 2 2 = true:=by kernel_rfl
theorem qbY:qaI Tryz.prog 29 0 0 = true:=by kernel_rfl
theorem qdL:qaI Tryz.prog 29 1 1 = true:=by kernel_rfl
theorem qik:qaI Tryz.prog 75 0 0 = true:=by kernel_rfl
theorem qji:qaI Tryz.prog 83 0 0 = true:=by kernel_rfl
theorem qij:qaI Tryz.prog 83 1 1 = true:=by kernel_rfl
theorem qim:qaI Tryz.prog 83 2 2 = true:=by kernel_rfl
theorem qkR:qaI Tryz.prog 88 0 0 = true:=by kernel_rfl
theorem qkN:qaI Tryz.prog 88 1 1 = true:=by kernel_rfl
theorem qt6:goB Tryz.prog 10 = true:=by kernel_rfl
theorem qs7:goB Tryz.prog 100 = true:=by kernel_rfl
theorem qpQ:goB Tryz.prog 122 = true:=by kernel_rfl
theorem qtu:goB Tryz.prog 123 = true:=by kernel_rfl
theorem qqc:goB Tryz.prog 124 = true:=by kernel_rfl
theorem qtn:goB Tryz.prog 125 = true:=by kernel_rfl
theorem qqb:goB Tryz.prog 126 = true:=by kernel_rfl
theorem qmb:goB Tryz.prog 141 = true:=by kernel_rfl
theorem qf9:goB Tryz.prog 29 = true:=by kernel_rfl
theorem qjT:goB Tryz.prog 30 = true:=by kernel_rfl
theorem qno:goB Tryz.prog 31 = true:=by kernel_rfl
theorem qrD:goB Tryz.prog 34 = true:=by kernel_rfl
theorem qrx:goB Tryz.prog 47 = true:=by kernel_rfl
theorem qpq:goB Tryz.prog 48 = true:=by kernel_rfl
theorem qur:goB Tryz.prog 49 = true:=by kernel_rfl
theorem qtQ:goB Tryz.prog 50 = true:=by kernel_rfl
theorem qud:goB Tryz.prog 51 = true:=by kernel_rfl
theorem qtU:goB Tryz.prog 52 = true:=by kernel_rfl
theorem qpy:goB Tryz.prog 56 = true:=by kernel_rfl
theorem qt3:goB Tryz.prog 70 = true:=by kernel_rfl
theorem qtR:goB Tryz.prog 75 = true:=by kernel_rfl
theorem qrS:goB Tryz.prog 77 = true:=by kernel_rfl
theorem qul:goB Tryz.prog 78 = true:=by kernel_rfl
theorem qun:goB Tryz.prog 79 = true:=by kernel_rfl
theorem qux:goB Tryz.prog 80 = true:=by kernel_rfl
theorem qt7:goB Tryz.prog 81 = true:=by kernel_rfl
theorem qtV:goB Tryz.prog 82 = true:=by kernel_rfl
theorem qub:goB Tryz.prog 83 = true:=by kernel_rfl
theorem qt4:goB Tryz.prog 84 = true:=by kernel_rfl
theorem qtS:goB Tryz.prog 91 = true:=by kernel_rfl
theorem qut:goB Tryz.prog 94 = true:=by kernel_rfl
theorem qrE:goB Tryz.prog 95 = true:=by kernel_rfl
theorem qrU:goB Tryz.prog 96 = true:=by kernel_rfl
theorem qtK:goB Tryz.prog 97 = true:=by kernel_rfl
theorem qtJ:goB Tryz.prog 98 = true:=by kernel_rfl
theorem quC:goB Tryz.prog 99 = true:=by kernel_rfl
theorem qjs:∃ i,Tryz.prog.info? 111 = some i ∧ i.size = 2:=⟨_,rfl,by kernel_rfl⟩
theorem qk4:∃ i,Tryz.prog.info? 118 = some i ∧ i.size = 3:=⟨_,rfl,by kernel_rfl⟩
theorem qk0:∃ i,Tryz.prog.info? 154 = some i ∧ i.size = 5:=⟨_,rfl,by kernel_rfl⟩
theorem qsD:∃ i,Tryz.prog.info? 156 = some i ∧ i.size = 2:=⟨_,rfl,by kernel_rfl⟩
theorem qsR:∃ i,Tryz.prog.info? 178 = some i ∧ i.size = 1:=⟨_,rfl,by kernel_rfl⟩
theorem qsA:∃ i,Tryz.prog.info? 196 = some i ∧ i.size = 1:=⟨_,rfl,by kernel_rfl⟩
theorem qlQ:∃ i,Tryz.prog.info? 26 = some i ∧ i.size = 1:=⟨_,rfl,by kernel_rfl⟩
theorem qjh:∃ i,Tryz.prog.info? 29 = some i ∧ i.size = 3:=⟨_,rfl,by kernel_rfl⟩
theorem qey:∃ i,Tryz.prog.info? 3 = some i ∧ i.size = 1:=⟨_,rfl,by kernel_rfl⟩
theorem qrG:∃ i,Tryz.prog.info? 4 = some i ∧ i.size = 1:=⟨_,rfl,by kernel_rfl⟩
theorem qoh:∃ i,Tryz.prog.info? 75 = some i ∧ i.size = 2:=⟨_,rfl,by kernel_rfl⟩
theorem qtc:∃ i,Tryz.prog.info? 83 = some i ∧ i.size = 3:=⟨_,rfl,by kernel_rfl⟩
theorem qs4:∃ i,Tryz.prog.info? 85 = some i ∧ i.size = 1:=⟨_,rfl,by kernel_rfl⟩
theorem qqD:∃ i,Tryz.prog.info? 86 = some i ∧ i.size = 1:=⟨_,rfl,by kernel_rfl⟩
theorem qty:∃ i,Tryz.prog.info? 88 = some i ∧ i.size = 2:=⟨_,rfl,by kernel_rfl⟩
theorem qoL:∃ i,Tryz.prog.info? 88 = some i:=⟨_,rfl⟩
theorem qsy:liesAt Tryz.prog Tryz.prog.depth 88 (2 / Tryz.prog.cellsOf 88) 0 88 1 = true:=by kernel_rfl
theorem qhD:oneB Tryz.prog 109 = true:=by kernel_rfl
theorem qgB:oneB Tryz.prog 115 = true:=by kernel_rfl
theorem qkV:oneB Tryz.prog 130 = true:=by kernel_rfl
theorem qhE:oneB Tryz.prog 152 = true:=by kernel_rfl
theorem qo4:oneB Tryz.prog 178 = true:=by kernel_rfl
theorem qr4:oneB Tryz.prog 181 = true:=by kernel_rfl
theorem qsm:oneB Tryz.prog 182 = true:=by kernel_rfl
theorem qsN:oneB Tryz.prog 196 = true:=by kernel_rfl
theorem qfg:oneB Tryz.prog 26 = true:=by kernel_rfl
theorem qaZ:oneB Tryz.prog 3 = true:=by kernel_rfl
theorem qhi:oneB Tryz.prog 4 = true:=by kernel_rfl
theorem qfb:oneB Tryz.prog 5 = true:=by kernel_rfl
theorem qsX:oneB Tryz.prog 73 = true:=by kernel_rfl
theorem qnP:oneB Tryz.prog 85 = true:=by kernel_rfl
theorem qqF:oneB Tryz.prog 86 = true:=by kernel_rfl
theorem qav:oneB Tryz.prog 9 = true:=by kernel_rfl
theorem qpe:qcY Tryz.prog 180 = some [(0,1),(1,1),(2,1)]:=by kernel_rfl
theorem qmX:qcY Tryz.prog 29 = some [(0,1),(1,1),(2,1)]:=by kernel_rfl
theorem qfU:SlT Tryz.prog 109 118 3:=SlT.of (by kernel_rfl)
theorem qep:SlT Tryz.prog 115 154 5:=SlT.of (by kernel_rfl)
theorem qcc:SlT Tryz.prog 129 26 1:=SlT.of (by kernel_rfl)
theorem qgs:SlT Tryz.prog 152 156 2:=SlT.of (by kernel_rfl)
theorem qn9:SlT Tryz.prog 178 181 1:=SlT.of (by kernel_rfl)
theorem qn2:SlT Tryz.prog 181 182 1:=SlT.of (by kernel_rfl)
theorem qnp:SlT Tryz.prog 182 196 1:=SlT.of (by kernel_rfl)
theorem qcu:SlT Tryz.prog 26 29 3:=SlT.of (by kernel_rfl)
theorem qf6:SlT Tryz.prog 34 83 3:=SlT.of (by kernel_rfl)
theorem qhI:SlT Tryz.prog 50 9 1:=SlT.of (by kernel_rfl)
theorem qgy:SlT Tryz.prog 73 111 2:=SlT.of (by kernel_rfl)
theorem qhL:SlT Tryz.prog 84 75 2:=SlT.of (by kernel_rfl)
theorem qhc:SlT Tryz.prog 86 5 1:=SlT.of (by kernel_rfl)
theorem qo5:qlU Tryz.prog 3 = some (vi 0):=by kernel_rfl
theorem qkO:qlU Tryz.prog 4 = some (vb false):=by kernel_rfl
theorem qgl:qby Tryz.prog 111 = some [(vs ([])),(Value.slice none 0 0)]:=by kernel_rfl
theorem qg0:qby Tryz.prog 118 = some [(vs ([])),(Value.slice none 0 0),(vs ([]))]:=by kernel_rfl
theorem qgZ:qby Tryz.prog 154 = some [(vs ([])),(Value.slice none 0 0),vb false,vi 0,vi 0]:=by kernel_rfl
theorem qlp:qby Tryz.prog 156 = some [(Value.int .u8 0),(Value.int .u8 0)]:=by kernel_rfl
theorem qrc:qby Tryz.prog 180 = some [(Value.slice none 0 0),(Value.slice none 0 0),(Value.map none)]:=by kernel_rfl
theorem qnJ:qby Tryz.prog 181 = some [(Value.slice none 0 0)]:=by kernel_rfl
theorem qod:qby Tryz.prog 182 = some [(Value.slice none 0 0)]:=by kernel_rfl
theorem qra:qby Tryz.prog 196 = some [(Value.pointer none)]:=by kernel_rfl
theorem qrk:qby Tryz.prog 200 = some (List.map vb (List.replicate 256 false)):=by kernel_rfl
theorem qip:qby Tryz.prog 221 = some [vi 0,vi 0]:=by kernel_rfl
theorem qhB:qby Tryz.prog 26 = some [(Value.slice none 0 0)]:=by kernel_rfl
theorem qdh:qby Tryz.prog 29 = some [(vs ([])),(vs ([])),vi 0]:=by kernel_rfl
theorem qqd:qby Tryz.prog 3 = some [vi 0]:=by kernel_rfl
theorem qgh:qby Tryz.prog 5 = some [(Value.int .u8 0)]:=by kernel_rfl
theorem qhH:qby Tryz.prog 75 = some [(vs ([])),(vs ([]))]:=by kernel_rfl
theorem qjp:qby Tryz.prog 83 = some [(vs ([])),vi 0,vi 0]:=by kernel_rfl
theorem qml:qby Tryz.prog 88 = some [(Value.pointer none),(Value.slice none 0 0)]:=by kernel_rfl
def qcF:Ro (List (Token)):=fun m cs x M=>∃ c0,cs = [c0] ∧ ORow 29 3 qbM m c0 x M
theorem qni:FrozO qcF (pL 3 qbM):=⟨fun h hle hf=>by
 obtain ⟨c0,e,h0⟩:=h
 subst e
 exact h0.froz qev hle hf (by decide)⟩
def qiV (u:World) (m0:Mem) (S:Segs) (r:Bool) (a:Act) (w:World):Prop :=
 Ok u m0 S w ∧ a.defers = [] ∧ RVs Tryz.prog a w [.t 2 (.bool r)]
theorem qma (N:Nat) (vcalls_0:Value) (calls_0:List (Call)) (hcalls_0:(pL 3 qaL) m0 [vcalls_0] calls_0) {r:Bool} (hF:qfQ N calls_0 = some r) (hG:Glob u) (ok:Ok u m0 S w) :
  Calls Tryz.prog 12 [vcalls_0].toArray w fun e w'=>(e = .returned (.bool r) ∧ Ok u m0 S w'):=by
 unfold qfQ at hF
 refine en (qiV u m0 S) r Tryz.func12 rfl rfl rfl (by rintro a w ⟨ok,hd,hrv⟩; exact qaM [.t 2 (.bool r)] hd rfl hrv ⟨rfl,ok⟩) fun fin a E=>sg<|aw E rfl fun a E=>sg ?_
 refine qhW kS (oneV pB) E ok rfl rfl fun c1 M2 a w E ok h3=>aw E rfl fun a E=>wp_seq<|sg<|mv E rfl fun a E=>?_
 refine lv E ok (qaE qf6 hcalls_0 rfl) fun a E=>mv E rfl fun a E=>wn<|wp_block ?_
 obtain ⟨o9,hL,hF⟩:=bnd hF
 refine qaO _ (fun (s:Int × (List (List UInt8 × Bool))) a w=>∃ c11 M12,Ok u m0 (M12 :: S) w ∧ Env 59 a [(0,vcalls_0),(3,c11),(7,vcalls_0),(8,(vi (calls_0.length:Int))),(9,vi s.1)] ∧ InR .i64 s.1 ∧ OMap kS (oneV pB) m0 c11 s.2 M12) (fun (b:(Unit ⊕ Bool)) e a w=>(Sum.elim (fun b54=>e = (.exit 0) ∧ Ok u m0 (S) w ∧ Env 59 a [(0,vcalls_0)]) (fun b55=>e = .ret ∧ qiV u m0 S b55 a w)) b) ?_ ?_ N _ a w hL ⟨c1,M2,ok,E.keep [0,3,7,8,9],(ir 0),h3⟩
 rotate_left
 ·intro e a w _ hO
  rcases o9 with o9 | o9
  rotate_left
  ·replace hF:=qbf hF
   obtain ⟨rfl,hret⟩:=hO
   refine qan<|qag ?_
   exact fin hF hret
  replace hF:=qbe hF
  obtain ⟨rfl,ok,E⟩:=hO
  refine qaS<|qaa<|sg<|mv E rfl fun a E=>lv E ok (qaE qf6 hcalls_0 rfl) fun a E=>lw E (qcj rfl rfl) fun a E=>av E rfl fun a E=>?_
  refine wn<|wp_ret ?_
  exact fin hF ⟨ok,E.d,⟨rv_t E rfl,trivial⟩⟩
 rintro ⟨x_14,seen_15⟩ a w r ⟨c17,M18,ok,E,r16,h19⟩ hF
 replace hF:qc6 N calls_0 x_14 seen_15 = some r:=hF
 unfold qc6 at hF
 refine sg<|lw E (qaA rfl rfl) fun a E=>wn<|wp_seq<|cf E rfl hF (fun hc20 hF=>?_) fun hc20 hF=>?_
 rotate_left
 ·refine wp_exit<|qaB ?_
  obtain rfl:=sj hF
  exact so (sl ⟨rfl,⟨(ok.pk 1 [] rfl (by decide)),E.keep [0]⟩⟩)
 refine wp_skip<|qaa<|wp_seq<|wp_block<|sg ?_
 obtain ⟨x21,e22,hF⟩:=bnd hF
 obtain ⟨b23,o24,es25,hl26,rr27,at28,yy29⟩:=qaN qf6 hcalls_0 e22 (P:=Tryz.prog) (X:=.tmp 7) (I:=.tmp 9) (kd:=.i64) (qah E rfl) (qah E rfl)
 obtain ⟨rfl,l30,r31,r32⟩:=rr27
 refine lv E ok (yy29 _ _) fun a E=>lv E ok (qat (cs:=[vs x21.Name,vi x21.ID,vi x21.Source]) qpP rfl rfl (qae.ro at28)) fun a E=>qaC E ok qjp rfl rfl fun b33 a w E ok=>qai E ok 0 rfl rfl rfl qtc rfl rfl ⟨rfl,rfl,rfl,trivial⟩ rfl rfl fun w ok=>wn<|wp_seq<|wp_seq ?_
 refine qab<|fv E qji rfl fun a E=>ld E ok qav 0 rfl rfl rfl fun a E=>lw E (qbl rfl rfl) fun a E=>mv E rfl fun a E=>qap (x21.Name == ([])) (fun hc34=>?_) (fun hc34=>?_)
 ·replace hF:=qak hc34 hF
  replace E:=E.upd 16 hc34 rfl
  refine ls E fun a E=>ls E fun a E=>ls E fun a E=>ls E fun a E=>pt E rfl rfl fun a E=>mv E rfl fun a E=>ls E fun a E=>ls E fun a E=>?_
  refine ls E fun a E=>pt E rfl rfl fun a E=>mv E rfl fun a E=>ls E fun a E=>ls E fun a E=>ls E fun a E=>pt E rfl rfl fun a E=>mv E rfl fun a E=>?_
  refine ls E fun a E=>ls E fun a E=>ls E fun a E=>pt E rfl rfl fun a E=>mv E rfl fun a E=>ls E fun a E=>ls E fun a E=>ls E fun a E=>?_
  refine pt E rfl rfl fun a E=>mv E rfl fun a E=>ls E fun a E=>ls E fun a E=>ls E fun a E=>ls E fun a E=>ls E fun a E=>ls E fun a E=>?_
  refine ls E fun a E=>ls E fun a E=>pt E rfl rfl fun a E=>wn<|c_if E rfl (fun _=>?_) (fun h=>by cases h)
  refine sg<|aw E rfl fun a E=>wp_ret<|qag<|qan ?_
  refine qag ?_
  obtain rfl:=sj hF
  exact so (sr ⟨rfl,⟨ok.drop.drop,E.d,⟨rv_t E rfl,trivial⟩⟩⟩)
 replace hF:=qaj hc34 hF
 replace E:=E.upd 16 hc34 rfl
 refine mv E rfl fun a E=>fv E qji rfl fun a E=>ld E ok qav 0 rfl rfl rfl fun a E=>?_
 obtain ⟨xv35,h36,yy37,yy38⟩:=qkQ (P:=Tryz.prog) (mo:=.tmp 17) (ko:=.tmp 19) (zx:=(false:Bool)) ok 1 (qd5 Tryz.underlying9) Tryz.underlying95 h19 rfl (qah E rfl) (qah E rfl) ⟨rfl,l30⟩ qkO qiI
 obtain rfl:=qkq h36
 refine lv E ok (yy37 _) fun a E=>pf E rfl rfl fun a E=>mv E rfl fun a E=>qap ((mget seen_15 x21.Name).getD false) (fun hc39=>?_) (fun hc39=>?_)
 ·replace hF:=qak hc39 hF
  replace E:=E.upd 22 hc39 rfl
  refine ls E fun a E=>ls E fun a E=>ls E fun a E=>pt E rfl rfl fun a E=>mv E rfl fun a E=>ls E fun a E=>ls E fun a E=>ls E fun a E=>?_
  refine pt E rfl rfl fun a E=>mv E rfl fun a E=>ls E fun a E=>ls E fun a E=>ls E fun a E=>pt E rfl rfl fun a E=>mv E rfl fun a E=>ls E fun a E=>?_
  refine ls E fun a E=>ls E fun a E=>pt E rfl rfl fun a E=>mv E rfl fun a E=>ls E fun a E=>ls E fun a E=>ls E fun a E=>ls E fun a E=>?_
  refine ls E fun a E=>ls E fun a E=>ls E fun a E=>ls E fun a E=>pt E rfl rfl fun a E=>wn<|c_if E rfl (fun _=>?_) (fun h=>by cases h)
  refine sg<|aw E rfl fun a E=>wp_ret<|qag<|qan ?_
  refine qag ?_
  obtain rfl:=sj hF
  exact so (sr ⟨rfl,⟨ok.drop.drop,E.d,⟨rv_t E rfl,trivial⟩⟩⟩)
 replace hF:=qaj hc39 hF
 replace E:=E.upd 22 hc39 rfl
 refine fv E qij rfl fun a E=>ld E ok qaZ 0 rfl rfl rfl fun a E=>lw E (qaA rfl rfl) fun a E=>pf E rfl rfl fun a E=>mv E rfl fun a E=>qap (decide (x21.ID < (-1))) (fun hc40=>?_) (fun hc40=>?_)
 ·replace hF:=qak hc40 hF
  replace E:=E.upd 27 hc40 rfl
  refine ls E fun a E=>ls E fun a E=>ls E fun a E=>pt E rfl rfl fun a E=>mv E rfl fun a E=>ls E fun a E=>ls E fun a E=>ls E fun a E=>?_
  refine pt E rfl rfl fun a E=>mv E rfl fun a E=>ls E fun a E=>ls E fun a E=>ls E fun a E=>pt E rfl rfl fun a E=>mv E rfl fun a E=>ls E fun a E=>?_
  refine ls E fun a E=>ls E fun a E=>ls E fun a E=>ls E fun a E=>ls E fun a E=>ls E fun a E=>ls E fun a E=>pt E rfl rfl fun a E=>?_
  refine wn<|c_if E rfl (fun _=>?_) (fun h=>by cases h)
  refine sg<|aw E rfl fun a E=>wp_ret<|qag<|qan ?_
  refine qag ?_
  obtain rfl:=sj hF
  exact so (sr ⟨rfl,⟨ok.drop.drop,E.d,⟨rv_t E rfl,trivial⟩⟩⟩)
 replace hF:=qaj hc40 hF
 replace E:=E.upd 27 hc40 rfl
 refine fv E qij rfl fun a E=>ld E ok qaZ 0 rfl rfl rfl fun a E=>lw E (qb9 rfl rfl) fun a E=>pf E rfl rfl fun a E=>mv E rfl fun a E=>qap (decide (x21.ID > 9)) (fun hc41=>?_) (fun hc41=>?_)
 ·replace hF:=qak hc41 hF
  replace E:=E.upd 32 hc41 rfl
  refine ls E fun a E=>ls E fun a E=>ls E fun a E=>pt E rfl rfl fun a E=>mv E rfl fun a E=>ls E fun a E=>ls E fun a E=>ls E fun a E=>?_
  refine pt E rfl rfl fun a E=>mv E rfl fun a E=>ls E fun a E=>ls E fun a E=>ls E fun a E=>ls E fun a E=>ls E fun a E=>ls E fun a E=>?_
  refine ls E fun a E=>ls E fun a E=>pt E rfl rfl fun a E=>wn<|c_if E rfl (fun _=>?_) (fun h=>by cases h)
  refine sg<|aw E rfl fun a E=>wp_ret<|qag<|qan ?_
  refine qag ?_
  obtain rfl:=sj hF
  exact so (sr ⟨rfl,⟨ok.drop.drop,E.d,⟨rv_t E rfl,trivial⟩⟩⟩)
 replace hF:=qaj hc41 hF
 replace E:=E.upd 32 hc41 rfl
 refine fv E qim rfl fun a E=>ld E ok qaZ 0 rfl rfl rfl fun a E=>lw E (qaA rfl rfl) fun a E=>pf E rfl rfl fun a E=>mv E rfl fun a E=>qap (decide (x21.Source < (-1))) (fun hc42=>?_) (fun hc42=>?_)
 ·replace hF:=qak hc42 hF
  replace E:=E.upd 37 hc42 rfl
  refine ls E fun a E=>ls E fun a E=>ls E fun a E=>pt E rfl rfl fun a E=>mv E rfl fun a E=>ls E fun a E=>ls E fun a E=>ls E fun a E=>?_
  refine ls E fun a E=>ls E fun a E=>ls E fun a E=>ls E fun a E=>ls E fun a E=>pt E rfl rfl fun a E=>wn ?_
  refine c_if E rfl (fun _=>?_) (fun h=>by cases h)
  refine sg<|aw E rfl fun a E=>wp_ret<|qag<|qan ?_
  refine qag ?_
  obtain rfl:=sj hF
  exact so (sr ⟨rfl,⟨ok.drop.drop,E.d,⟨rv_t E rfl,trivial⟩⟩⟩)
 replace hF:=qaj hc42 hF
 replace E:=E.upd 37 hc42 rfl
 refine fv E qim rfl fun a E=>ld E ok qaZ 0 rfl rfl rfl fun a E=>lw E (qb9 rfl rfl) fun a E=>pf E rfl rfl fun a E=>mv E rfl fun a E=>qap (decide (x21.Source > 9)) (fun hc43=>?_) (fun hc43=>?_)
 ·replace hF:=qak hc43 hF
  replace E:=E.upd 42 hc43 rfl
  refine ls E fun a E=>ls E fun a E=>ls E fun a E=>ls E fun a E=>ls E fun a E=>ls E fun a E=>ls E fun a E=>ls E fun a E=>?_
  refine pt E rfl rfl fun a E=>wn<|c_if E rfl (fun _=>?_) (fun h=>by cases h)
  refine sg<|aw E rfl fun a E=>wp_ret<|qag<|qan ?_
  refine qag ?_
  obtain rfl:=sj hF
  exact so (sr ⟨rfl,⟨ok.drop.drop,E.d,⟨rv_t E rfl,trivial⟩⟩⟩)
 replace hF:=qaj hc43 hF
 replace E:=E.upd 42 hc43 rfl
 refine fv E qij rfl fun a E=>ld E ok qaZ 0 rfl rfl rfl fun a E=>lw E (qbt rfl rfl) fun a E=>mv E rfl fun a E=>qap (x21.ID == (-1)) (fun hc44=>?_) (fun hc44=>?_)
 rotate_left
 ·replace hF:=qaj hc44 hF
  replace E:=E.upd 46 hc44 rfl
  refine ls E fun a E=>ls E fun a E=>ls E fun a E=>pf E rfl rfl fun a E=>pf E rfl rfl fun a E=>wn<|c_if E rfl (fun h=>by cases h) (fun _=>?_)
  refine wp_skip<|qaa<|qab<|mv E rfl fun a E=>fv E qji rfl fun a E=>ld E ok qav 0 rfl rfl rfl fun a E=>?_
  obtain ⟨l50,e51,hF⟩:=bnd hF
  refine qjf (.inl rfl) E ok 1 (qd5 Tryz.underlying9) Tryz.underlying95 h19 rfl rfl rfl rfl ⟨rfl,l30⟩ qiI e51 rfl fun M52 w ok h53=>wpList_nil<|qaq<|qaa<|qab<|lw E (qaG rfl rfl (InR.inc r16 (qas hcalls_0) hc20)) fun a E=>mv E rfl fun a E=>wpList_nil ?_
  obtain rfl:=sj hF
  exact qay ⟨c17,M52,(ok.pk 2 [1] rfl (by decide)),E.keep [0,3,7,8,9],(InR.inc r16 (qas hcalls_0) hc20),h53⟩
 replace hF:=qak hc44 hF
 replace E:=E.upd 46 hc44 rfl
 refine fv E qim rfl fun a E=>ld E ok qaZ 0 rfl rfl rfl fun a E=>lw E (qbt rfl rfl) fun a E=>pt E rfl rfl fun a E=>pf E rfl rfl fun a E=>wn<|cf E rfl hF (fun hc45 hF=>?_) fun hc45 hF=>?_
 ·refine sg<|aw E rfl fun a E=>wp_ret<|qag<|qan ?_
  refine qag ?_
  obtain rfl:=sj hF
  exact so (sr ⟨rfl,⟨ok.drop.drop,E.d,⟨rv_t E rfl,trivial⟩⟩⟩)
 refine wp_skip<|qaa<|qab<|mv E rfl fun a E=>fv E qji rfl fun a E=>ld E ok qav 0 rfl rfl rfl fun a E=>?_
 obtain ⟨l46,e47,hF⟩:=bnd hF
 refine qjf (.inl rfl) E ok 1 (qd5 Tryz.underlying9) Tryz.underlying95 h19 rfl rfl rfl rfl ⟨rfl,l30⟩ qiI e47 rfl fun M48 w ok h49=>wpList_nil<|qaq<|qaa<|qab<|lw E (qaG rfl rfl (InR.inc r16 (qas hcalls_0) hc20)) fun a E=>mv E rfl fun a E=>wpList_nil ?_
 obtain rfl:=sj hF
 exact qay ⟨c17,M48,(ok.pk 2 [1] rfl (by decide)),E.keep [0,3,7,8,9],(InR.inc r16 (qas hcalls_0) hc20),h49⟩
theorem qi9 {u:World} {m:Mem} {S:Segs} {w:World} {b:Nat} {v:Value} (ok:Ok u m ([(b,oc 88 [(Value.pointer none),v])] :: S) w) :
  Calls Tryz.prog 47 [.pointer (some ⟨b,0,none⟩)].toArray w fun e w'=>e = .returned (.tuple [].toArray) ∧ Ok u m ([(b,oc 88 [vp b,v])] :: S) w':=by
 have fin:∀ a w,(a.defers = [] ∧ Ok u m ([(b,oc 88 [vp b,v])] :: S) w) → bodyPost Tryz.prog Tryz.f47 (fun e w'=>e = .returned (.tuple [].toArray) ∧ Ok u m ([(b,oc 88 [vp b,v])] :: S) w') .ret a w:=fun a w h=>qaM [] h.1 rfl trivial ⟨rfl,h.2⟩
 refine enter Tryz.func47 rfl rfl rfl fun a E=>sg<|mv E rfl fun a E=>lw E (qbk rfl) fun a E=>fv E qkR rfl fun a E=>ld E ok qnP 0 rfl rfl rfl fun a E=>lv E ok (qp3 Tryz.underlying85 rfl rfl) fun a E=>?_
 refine wn<|c_if E rfl (fun _=>?_) (fun h=>by cases h)
 refine qab<|mv E rfl fun a E=>mv E rfl fun a E=>lv E ok (qpp Tryz.underlying85 Tryz.underlying173 qty (by decide) (qm0 (c:=[(Value.pointer none),v]) 0 rfl) (Nat.le_of_ble_eq_true rfl) rfl) fun a E=>lv E ok (qpw Tryz.func76 (by kernel_rfl) (by kernel_rfl) (by kernel_rfl) (by kernel_rfl) rfl) fun a E=>lv E ok (qol Tryz.underlying173 Tryz.underlying85 qoL (qm0 (c:=[(Value.pointer none),v]) 0 rfl) qsy rfl) fun a E=>lw E (qbk rfl) fun a E=>fv E qkR rfl fun a E=>?_
 refine qai E ok 0 rfl rfl rfl qs4 rfl rfl ⟨rfl,trivial⟩ rfl rfl fun w ok=>wpList_nil ?_
 exact fin _ _ ⟨E.d,ok⟩
theorem qi2 {u:World} {m:Mem} {S:Segs} {w:World} {b:Nat} {v:Value} (ok:Ok u m ([(b,oc 88 [vp b,v])] :: S) w) :
  Calls Tryz.prog 47 [.pointer (some ⟨b,0,none⟩)].toArray w fun e w'=>e = .returned (.tuple [].toArray) ∧ Ok u m ([(b,oc 88 [vp b,v])] :: S) w':=by
 have fin:∀ a w,(a.defers = [] ∧ Ok u m ([(b,oc 88 [vp b,v])] :: S) w) → bodyPost Tryz.prog Tryz.f47 (fun e w'=>e = .returned (.tuple [].toArray) ∧ Ok u m ([(b,oc 88 [vp b,v])] :: S) w') .ret a w:=fun a w h=>qaM [] h.1 rfl trivial ⟨rfl,h.2⟩
 refine enter Tryz.func47 rfl rfl rfl fun a E=>sg<|mv E rfl fun a E=>lw E (qbk rfl) fun a E=>fv E qkR rfl fun a E=>ld E ok qnP 0 rfl rfl rfl fun a E=>lv E ok (qp3 Tryz.underlying85 rfl rfl) fun a E=>?_
 refine wn<|c_if E rfl (fun h=>by cases h) (fun _=>?_)
 refine sg<|mv E rfl fun a E=>lw E (qbk rfl) fun a E=>fv E qkR rfl fun a E=>ld E ok qnP 0 rfl rfl rfl fun a E=>mv E rfl fun a E=>lv E ok (qqp Tryz.underlying85 qoL rfl rfl) fun a E=>?_
 refine wn<|c_if E rfl (fun h=>by cases h) (fun _=>?_)
 refine wp_skip ?_
 exact fin _ _ ⟨E.d,ok⟩
theorem qhs {u:World} {m:Mem} {S:Segs} {w:World} {b:Nat} {a v:Value} (ha:BAd b a) (ok:Ok u m ([(b,oc 88 [a,v])] :: S) w) :
  Calls Tryz.prog 47 [.pointer (some ⟨b,0,none⟩)].toArray w fun e w'=>e = .returned (.tuple [].toArray) ∧ Ok u m ([(b,oc 88 [vp b,v])] :: S) w':=by
 rcases ha with rfl | rfl
 ·exact qi9 ok
 ·exact qi2 ok
def qhn (u:World) (m0:Mem) (S:Segs) (pb0:Nat) (x0:Builder) (c1:Value) (c3:Value) (M4:List (Nat × Obj)) (r:Int × Unit × Builder) (a:Act) (w:World):Prop :=
 ∃ c6 c8 M9,Ok u m0 ([(pb0,oc 88 [c6,c8])] :: M9 :: S) w ∧ a.defers = [] ∧ RVs Tryz.prog a w [.t 4 (.int .i64 r.1),.t 5 .nilIface] ∧ InR .i64 r.1 ∧ BAd pb0 c6 ∧ ORow 5 1 (pI .u8) m0 c8 r.2.2.buf M9
theorem qaW (N:Nat) (s_1:List UInt8) (ls_1:s_1.length ≤ LIMS) {pb0:Nat} {c1:Value} {c3:Value} {M4:List (Nat × Obj)} (x0:Builder) (h2:BAd pb0 c1) (h5:ORow 5 1 (pI .u8) m0 c3 x0.buf M4) {r:Int × Unit × Builder} (hF:qaH N s_1 x0 = some r) (hG:Glob u) (ok:Ok u m0 ([(pb0,oc 88 [c1,c3])] :: M4 :: S) w) :
  Calls Tryz.prog 29 [vp pb0,vs s_1].toArray w fun e w'=>∃ c6 c8 M9,(e = .returned (.tuple [(.int .i64 r.1),.nilIface].toArray) ∧ Ok u m0 ([(pb0,oc 88 [c6,c8])] :: M9 :: S) w') ∧ InR .i64 r.1 ∧ BAd pb0 c6 ∧ ORow 5 1 (pI .u8) m0 c8 r.2.2.buf M9:=by
 unfold qaH at hF
 refine en (qhn u m0 S pb0 x0 c1 c3 M4) r Tryz.func29 rfl rfl rfl (by rintro a w ⟨c6,c8,M9,ok,hd,hrv,h0,h1,h2⟩; exact qaM [.t 4 (.int .i64 r.1),.t 5 .nilIface] hd rfl hrv ⟨c6,c8,M9,⟨rfl,ok⟩,h0,h1,h2⟩) fun fin a E=>sg<|av E rfl fun a E=>aw E rfl fun a E=>wp_seq ?_
 refine qab<|mv E rfl fun a E=>lc E qrx rfl (qhs h2 ok) fun w ok a E=>wn<|sg<|mv E rfl fun a E=>mv E rfl fun a E=>lw E (qbk rfl) fun a E=>fv E qkN rfl fun a E=>?_
 refine ld E ok qqF 0 rfl rfl rfl fun a E=>mv E rfl fun a E=>?_
 obtain ⟨l11,e12,hF⟩:=bnd hF
 refine qtj E ok 1 qhc Tryz.underlying9 rfl h5 e12 ⟨_,qgh,rfl⟩ rfl rfl rfl rfl fun c13 M14 a w E ok h15=>lw E (qbk rfl) fun a E=>fv E qkN rfl fun a E=>qai E ok 0 rfl rfl rfl qqD (ORow.cells h15) rfl ⟨(ORow.one h15),trivial⟩ rfl rfl fun w ok=>wn<|sg ?_
 refine mv E rfl fun a E=>lw E (qaV Tryz.underlying9 rfl) fun a E=>av E rfl fun a E=>aw E rfl fun a E=>wp_ret ?_
 exact fin hF ⟨(vp pb0),c13,M14,ok,E.d,⟨rv_t E rfl,rv_t E rfl,trivial⟩,(InR.len ls_1),(.inr rfl),h15⟩
def qhT (u:World) (m0:Mem) (S:Segs) (pb0:Nat) (x0:Builder) (c1:Value) (c3:Value) (M4:List (Nat × Obj)) (r:Unit × Builder) (a:Act) (w:World):Prop :=
 ∃ c6 c8 M9,Ok u m0 ([(pb0,oc 88 [c6,c8])] :: M9 :: S) w ∧ a.defers = [] ∧ RVs Tryz.prog a w [.t 4 .nilIface] ∧ BAd pb0 c6 ∧ ORow 5 1 (pI .u8) m0 c8 r.2.buf M9
theorem qbJ (N:Nat) (c_1:Int) (rc_1:InR .u8 c_1) {pb0:Nat} {c1:Value} {c3:Value} {M4:List (Nat × Obj)} (x0:Builder) (h2:BAd pb0 c1) (h5:ORow 5 1 (pI .u8) m0 c3 x0.buf M4) {r:Unit × Builder} (hF:qa8 N c_1 x0 = some r) (hG:Glob u) (ok:Ok u m0 ([(pb0,oc 88 [c1,c3])] :: M4 :: S) w) :
  Calls Tryz.prog 30 [vp pb0,Value.int .u8 c_1].toArray w fun e w'=>∃ c6 c8 M9,(e = .returned .nilIface ∧ Ok u m0 ([(pb0,oc 88 [c6,c8])] :: M9 :: S) w') ∧ BAd pb0 c6 ∧ ORow 5 1 (pI .u8) m0 c8 r.2.buf M9:=by
 unfold qa8 at hF
 refine en (qhT u m0 S pb0 x0 c1 c3 M4) r Tryz.func30 rfl rfl rfl (by rintro a w ⟨c6,c8,M9,ok,hd,hrv,h0,h1⟩; exact qaM [.t 4 .nilIface] hd rfl hrv ⟨c6,c8,M9,⟨rfl,ok⟩,h0,h1⟩) fun fin a E=>sg<|aw E rfl fun a E=>sg ?_
 refine mv E rfl fun a E=>lc E qrx rfl (qhs h2 ok) fun w ok a E=>wn<|sg<|mv E rfl fun a E=>mv E rfl fun a E=>lw E (qbk rfl) fun a E=>fv E qkN rfl fun a E=>?_
 refine ld E ok qqF 0 rfl rfl rfl fun a E=>mv E rfl fun a E=>qaT (R:=(pI .u8)) (xo:=[.tmp 12]) (xs:=([c_1]:List (Int))) E ok qhc qgh rfl ⟨⟨_,rfl,rfl,(qgA rc_1)⟩,trivial⟩ rfl rfl rfl rfl fun c11 M12 a w E ok h13=>?_
 obtain ⟨l14,e15,hF⟩:=bnd hF
 refine qa3 (R:=(pI .u8)) E ok 2 (mI .u8) qhc Tryz.underlying86 rfl h5 (qaJ.ofRow h13 0 rfl ok) e15 ⟨_,qgh,rfl⟩ rfl rfl rfl rfl fun c16 M17 a w E ok h18=>lw E (qbk rfl) fun a E=>fv E qkN rfl fun a E=>qai E ok 1 rfl rfl rfl qqD (ORow.cells h18) rfl ⟨(ORow.one h18),trivial⟩ rfl rfl fun w ok=>wn<|sg ?_
 refine aw E rfl fun a E=>wp_ret ?_
 exact fin hF ⟨(vp pb0),c16,M17,ok.drop,E.d,⟨rv_t E rfl,trivial⟩,(.inr rfl),h18⟩
def qh7 (u:World) (m0:Mem) (S:Segs) (r:(List UInt8) × Bool) (a:Act) (w:World):Prop :=
 Ok u m0 S w ∧ a.defers = [] ∧ RVs Tryz.prog a w [.t 2 (.string (bs r.1)),.t 3 (.bool r.2)] ∧ r.1.length ≤ LIMS
theorem qk7 (N:Nat) (vl_0:Value) (l_0:List (Token)) (hl_0:(pL 3 qbM) m0 [vl_0] l_0) {r:(List UInt8) × Bool} (hF:qeO N l_0 = some r) (hG:Glob u) (ok:Ok u m0 S w) :
  Calls Tryz.prog 10 [vl_0].toArray w fun e w'=>(e = .returned (.tuple [(.string (bs r.1)),(.bool r.2)].toArray) ∧ Ok u m0 S w') ∧ r.1.length ≤ LIMS:=by
 unfold qeO at hF
 refine en (qh7 u m0 S) r Tryz.func10 rfl rfl rfl (by rintro a w ⟨ok,hd,hrv,h0⟩; exact qaM [.t 2 (.string (bs r.1)),.t 3 (.bool r.2)] hd rfl hrv ⟨⟨rfl,ok⟩,h0⟩) fun fin a E=>sg<|av E rfl fun a E=>aw E rfl fun a E=>wp_seq ?_
 refine sg<|mv E rfl fun a E=>lv E ok (qaE qcu hl_0 rfl) fun a E=>lw E (qaA rfl rfl) fun a E=>mv E rfl fun a E=>qap (decide ((l_0.length:Int) < 2)) (fun hc1=>?_) (fun hc1=>?_)
 ·replace hF:=qak hc1 hF
  replace E:=E.upd 10 hc1 rfl
  refine ls E fun a E=>ls E fun a E=>ls E fun a E=>ls E fun a E=>ls E fun a E=>pt E rfl rfl fun a E=>mv E rfl fun a E=>ls E fun a E=>?_
  refine ls E fun a E=>ls E fun a E=>ls E fun a E=>ls E fun a E=>ls E fun a E=>ls E fun a E=>ls E fun a E=>pt E rfl rfl fun a E=>?_
  refine wn<|c_if E rfl (fun _=>?_) (fun h=>by cases h)
  refine sg<|av E rfl fun a E=>aw E rfl fun a E=>wp_ret<|qag ?_
  exact fin hF ⟨ok,E.d,⟨rv_t E rfl,rv_t E rfl,trivial⟩,(show ([]:List UInt8).length ≤ LIMS by decide)⟩
 replace hF:=qaj hc1 hF
 replace E:=E.upd 10 hc1 rfl
 refine mv E rfl fun a E=>?_
 obtain ⟨x2,e3,hF⟩:=bnd hF
 obtain ⟨b4,o5,es6,hl7,rr8,at9,yy10⟩:=qaN qcu hl_0 e3 (P:=Tryz.prog) (X:=.tmp 11) (I:=.const (vi 0)) (kd:=.i64) (qah E rfl) (qah E rfl)
 obtain ⟨rfl,l11,l12,r13⟩:=rr8
 refine lv E ok (yy10 _ _) fun a E=>fv E qbY rfl fun a E=>lv E ok (qao qav rfl (qae.ro (At.sub 0 1 at9))) fun a E=>lw E (qcn rfl rfl) fun a E=>pf E rfl rfl fun a E=>mv E rfl fun a E=>qap (x2.Kind != ([115,116,114,105,110,103])) (fun hc14=>?_) (fun hc14=>?_)
 ·replace hF:=qak hc14 hF
  replace E:=E.upd 17 hc14 rfl
  refine ls E fun a E=>ls E fun a E=>ls E fun a E=>ls E fun a E=>ls E fun a E=>ls E fun a E=>ls E fun a E=>ls E fun a E=>?_
  refine pt E rfl rfl fun a E=>wn<|c_if E rfl (fun _=>?_) (fun h=>by cases h)
  refine sg<|av E rfl fun a E=>aw E rfl fun a E=>wp_ret<|qag ?_
  exact fin hF ⟨ok,E.d,⟨rv_t E rfl,rv_t E rfl,trivial⟩,(show ([]:List UInt8).length ≤ LIMS by decide)⟩
 replace hF:=qaj hc14 hF
 replace E:=E.upd 17 hc14 rfl
 refine mv E rfl fun a E=>mv E rfl fun a E=>lv E ok (qaE qcu hl_0 rfl) fun a E=>lw E (qca rfl rfl) fun a E=>?_
 obtain ⟨x15,e16,hF⟩:=bnd hF
 obtain ⟨b17,o18,es19,hl20,rr21,at22,yy23⟩:=qaN qcu hl_0 e16 (P:=Tryz.prog) (X:=.tmp 18) (I:=.tmp 21) (kd:=.i64) (qah E rfl) (qah E rfl)
 obtain ⟨rfl,l24,l25,r26⟩:=rr21
 refine lv E ok (yy23 _ _) fun a E=>fv E qbY rfl fun a E=>lv E ok (qao qav rfl (qae.ro (At.sub 0 1 at22))) fun a E=>lw E (qcn rfl rfl) fun a E=>pf E rfl rfl fun a E=>wn<|cf E rfl hF (fun hc27 hF=>?_) fun hc27 hF=>?_
 ·refine sg<|av E rfl fun a E=>aw E rfl fun a E=>wp_ret<|qag ?_
  exact fin hF ⟨ok,E.d,⟨rv_t E rfl,rv_t E rfl,trivial⟩,(show ([]:List UInt8).length ≤ LIMS by decide)⟩
 refine wp_skip<|qaa<|sg<|qaC E ok qml rfl rfl fun b28 a w E ok=>wn<|wp_seq ?_
 refine sg<|mv E rfl fun a E=>mv E rfl fun a E=>lv E ok (qaE qcu hl_0 rfl) fun a E=>lw E (qca rfl rfl) fun a E=>?_
 obtain ⟨l29,e30,hF⟩:=bnd hF
 obtain ⟨c31,h32,yy33⟩:=qoc qcu hl_0 e30 (P:=Tryz.prog) (X:=.tmp 27) (lov:=(some (.const (vi 1)))) (hiv:=(some (.tmp 30))) (qah E rfl) (qnm E ⟨_,rfl⟩) (qnm E ⟨_,rfl⟩)
 refine lv E ok (yy33 _ _) fun a E=>lv E ok (qaE qcu h32 rfl) fun a E=>mv E rfl fun a E=>wn<|wp_block ?_
 obtain ⟨M41,ok,h42⟩:=qdI (e:=5) (k:=1) (R:=(pI .u8)) ok
 obtain ⟨o43,hL,hF⟩:=bnd hF
 refine qaO _ (fun (s:Int × Builder) a w=>∃ c45 c47 M48,Ok u m0 (M48 :: [(b28,oc 88 [c45,c47])] :: S) w ∧ Env 79 a [(4,vp b28),(31,c31),(32,(vi (l29.length:Int))),(33,vi s.1)] ∧ InR .i64 s.1 ∧ BAd b28 c45 ∧ ORow 5 1 (pI .u8) m0 c47 s.2.buf M48) (fun (b:(Builder ⊕ ((List UInt8) × Bool))) e a w=>(Sum.elim (fun b162=>e = (.exit 0) ∧ ∃ c163 c165 M166,Ok u m0 (M166 :: [(b28,oc 88 [c163,c165])] :: S) w ∧ Env 79 a [(4,vp b28)] ∧ BAd b28 c163 ∧ ORow 5 1 (pI .u8) m0 c165 b162.buf M166) (fun b168=>e = .ret ∧ qh7 u m0 S b168 a w)) b) ?_ ?_ N _ a w hL ⟨(Value.pointer none),(Value.slice none 0 0),M41,ok,E.keep [4,31,32,33],(ir 0),(.inl rfl),h42⟩
 rotate_left
 ·intro e a w _ hO
  rcases o43 with o43 | o43
  rotate_left
  ·replace hF:=qbf hF
   obtain ⟨rfl,hret⟩:=hO
   refine qan<|qag ?_
   exact fin hF hret
  replace hF:=qbe hF
  obtain ⟨rfl,c156,c158,M159,ok,E,h157,h160⟩:=hO
  refine qaS<|qaa<|sg ?_
  replace ok:Ok u m0 ([(b28,oc 88 [c156,c158])] :: M159 :: S) w:=(ok.pk 2 [1,0] rfl (by decide))
  refine qaz E qno rfl (qig Tryz.lays169 Tryz.Builder_Extra_169 h160 ok) rfl rfl ?_
  rintro _ w ⟨⟨rfl,ok⟩,l161⟩
  refine ⟨_,rfl,fun a E=>?_⟩
  refine av E rfl fun a E=>aw E rfl fun a E=>wp_ret ?_
  exact fin hF ⟨ok,E.d,⟨rv_t E rfl,rv_t E rfl,trivial⟩,l161⟩
 rintro ⟨x_50,x_51⟩ a w r ⟨c53,c55,M56,ok,E,r52,h54,h57⟩ hF
 replace hF:qcC N l29 x_50 x_51 = some r:=hF
 unfold qcC at hF
 refine sg<|lw E (qaA rfl rfl) fun a E=>wn<|wp_seq<|cf E rfl hF (fun hc58 hF=>?_) fun hc58 hF=>?_
 rotate_left
 ·refine wp_exit<|qaB ?_
  obtain rfl:=sj hF
  exact so (sl ⟨rfl,⟨c53,c55,M56,ok,E.keep [4],h54,h57⟩⟩)
 refine wp_skip<|qaa<|wp_seq<|wp_block<|sg ?_
 obtain ⟨x59,e60,hF⟩:=bnd hF
 obtain ⟨b61,o62,es63,hl64,rr65,at66,yy67⟩:=qaN qcu h32 e60 (P:=Tryz.prog) (X:=.tmp 31) (I:=.tmp 33) (kd:=.i64) (qah E rfl) (qah E rfl)
 obtain ⟨rfl,l68,l69,r70⟩:=rr65
 refine lv E ok (yy67 _ _) fun a E=>lv E ok (qat (cs:=[vs x59.Kind,vs x59.Text,vi x59.From]) qfi rfl rfl (qae.ro at66)) fun a E=>qaC E ok qdh rfl rfl fun b71 a w E ok=>qai E ok 0 rfl rfl rfl qjh rfl rfl ⟨rfl,rfl,rfl,trivial⟩ rfl rfl fun w ok=>wn<|wp_block<|wp_seq ?_
 refine qab<|fv E qbY rfl fun a E=>ld E ok qav 0 rfl rfl rfl fun a E=>lw E (qbl rfl rfl) fun a E=>aw E rfl fun a E=>cf E rfl hF (fun hc72 hF=>?_) fun hc72 hF=>?_
 ·refine qab<|fv E qdL rfl fun a E=>ld E ok qav 0 rfl rfl rfl fun a E=>?_
  obtain ⟨r73,e74,hF⟩:=bnd hF
  replace ok:Ok u m0 ([(b28,oc 88 [c53,c55])] :: M56 :: [(b71,oc 29 [vs x59.Kind,vs x59.Text,vi x59.From])] :: S) w:=(ok.pk 3 [2,1,0] rfl (by decide))
  refine qaz E qf9 rfl (qaW N x59.Text l69 (Builder.mk () x_51.buf) h54 h57 e74 hG ok) rfl rfl ?_
  rintro _ w ⟨c76,c78,M79,⟨rfl,ok⟩,r75,h77,h80⟩
  refine ⟨_,rfl,fun a E=>?_⟩
  refine wpList_nil<|qaq<|qaq<|qaa<|qab<|lw E (qaG rfl rfl (InR.inc r52 (qas h32) hc58)) fun a E=>mv E rfl fun a E=>wpList_nil ?_
  obtain rfl:=sj hF
  exact qay ⟨c76,c78,M79,(ok.pk 3 [1,0] rfl (by decide)),E.keep [4,31,32,33],(InR.inc r52 (qas h32) hc58),h77,h80⟩
 refine sg<|fv E qbY rfl fun a E=>ld E ok qav 0 rfl rfl rfl fun a E=>lw E (qbl rfl rfl) fun a E=>mv E rfl fun a E=>qap (x59.Kind == ([101,115,99,97,112,101])) (fun hc81=>?_) (fun hc81=>?_)
 rotate_left
 ·as_aux_lemma =>
   replace hF:=qaj hc81 hF
   replace E:=E.upd 48 hc81 rfl
   refine ls E fun a E=>ls E fun a E=>ls E fun a E=>pf E rfl rfl fun a E=>aw E rfl fun a E=>c_if E rfl (fun h=>by cases h) (fun _=>?_)
   refine sg<|fv E qbY rfl fun a E=>ld E ok qav 0 rfl rfl rfl fun a E=>lw E (qbl rfl rfl) fun a E=>mv E rfl fun a E=>qap (x59.Kind == ([101,115,99,97,112,101])) (fun hc123=>?_) (fun hc123=>?_)
   rotate_left
   ·as_aux_lemma =>
     replace hF:=qaj hc123 hF
     replace E:=E.upd 58 hc123 rfl
     refine ls E fun a E=>ls E fun a E=>ls E fun a E=>pf E rfl rfl fun a E=>aw E rfl fun a E=>c_if E rfl (fun h=>by cases h) (fun _=>?_)
     refine sg<|fv E qbY rfl fun a E=>ld E ok qav 0 rfl rfl rfl fun a E=>lw E (qbl rfl rfl) fun a E=>mv E rfl fun a E=>qap (x59.Kind == ([101,115,99,97,112,101])) (fun hc144=>?_) (fun hc144=>?_)
     rotate_left
     ·replace hF:=qaj hc144 hF
      replace E:=E.upd 68 hc144 rfl
      refine ls E fun a E=>ls E fun a E=>ls E fun a E=>pf E rfl rfl fun a E=>aw E rfl fun a E=>c_if E rfl (fun h=>by cases h) (fun _=>?_)
      refine sg<|av E rfl fun a E=>aw E rfl fun a E=>wp_ret<|qan ?_
      refine qan<|qag ?_
      obtain rfl:=sj hF
      exact so (sr ⟨rfl,⟨ok.drop.drop.drop,E.d,⟨rv_t E rfl,rv_t E rfl,trivial⟩,(show ([]:List UInt8).length ≤ LIMS by decide)⟩⟩)
     replace hF:=qak hc144 hF
     replace E:=E.upd 68 hc144 rfl
     refine fv E qdL rfl fun a E=>ld E ok qav 0 rfl rfl rfl fun a E=>lw E (qcn rfl rfl) fun a E=>pt E rfl rfl fun a E=>aw E rfl fun a E=>cf E rfl hF (fun hc145 hF=>?_) fun hc145 hF=>?_
     rotate_left
     ·refine sg<|av E rfl fun a E=>aw E rfl fun a E=>wp_ret<|qan ?_
      refine qan<|qag ?_
      obtain rfl:=sj hF
      exact so (sr ⟨rfl,⟨ok.drop.drop.drop,E.d,⟨rv_t E rfl,rv_t E rfl,trivial⟩,(show ([]:List UInt8).length ≤ LIMS by decide)⟩⟩)
     refine qab<|fv E qdL rfl fun a E=>ld E ok qav 0 rfl rfl rfl fun a E=>?_
     obtain ⟨s146,e147,hF⟩:=bnd hF
     refine lw E (qa7 Tryz.underlying9 e147 rfl ⟨_,rfl⟩ rfl) fun a E=>?_
     obtain ⟨r148,e149,hF⟩:=bnd hF
     replace ok:Ok u m0 ([(b28,oc 88 [c53,c55])] :: M56 :: [(b71,oc 29 [vs x59.Kind,vs x59.Text,vi x59.From])] :: S) w:=(ok.pk 3 [2,1,0] rfl (by decide))
     refine qaz E qf9 rfl (qaW N s146 (Nat.le_trans (qb6 e147) l69) (Builder.mk () x_51.buf) h54 h57 e149 hG ok) rfl rfl ?_
     rintro _ w ⟨c151,c153,M154,⟨rfl,ok⟩,r150,h152,h155⟩
     refine ⟨_,rfl,fun a E=>?_⟩
     refine wpList_nil<|qaq<|qaq<|qaa<|qab<|lw E (qaG rfl rfl (InR.inc r52 (qas h32) hc58)) fun a E=>mv E rfl fun a E=>wpList_nil ?_
     obtain rfl:=sj hF
     exact qay ⟨c151,c153,M154,(ok.pk 3 [1,0] rfl (by decide)),E.keep [4,31,32,33],(InR.inc r52 (qas h32) hc58),h152,h155⟩
   replace hF:=qak hc123 hF
   replace E:=E.upd 58 hc123 rfl
   refine fv E qdL rfl fun a E=>ld E ok qav 0 rfl rfl rfl fun a E=>lw E (qbl rfl rfl) fun a E=>pt E rfl rfl fun a E=>aw E rfl fun a E=>cf E rfl hF (fun hc124 hF=>?_) fun hc124 hF=>?_
   ·refine qab ?_
    obtain ⟨r125,e126,hF⟩:=bnd hF
    replace ok:Ok u m0 ([(b28,oc 88 [c53,c55])] :: M56 :: [(b71,oc 29 [vs x59.Kind,vs x59.Text,vi x59.From])] :: S) w:=(ok.pk 3 [2,1,0] rfl (by decide))
    refine qaz E qjT rfl (qbJ N 9 (show InR .u8 (9) by decide) (Builder.mk () x_51.buf) h54 h57 e126 hG ok) rfl rfl ?_
    rintro _ w ⟨c127,c129,M130,⟨rfl,ok⟩,h128,h131⟩
    refine ⟨_,rfl,fun a E=>?_⟩
    refine wpList_nil<|qaq<|qaq<|qaa<|qab<|lw E (qaG rfl rfl (InR.inc r52 (qas h32) hc58)) fun a E=>mv E rfl fun a E=>wpList_nil ?_
    obtain rfl:=sj hF
    exact qay ⟨c127,c129,M130,(ok.pk 3 [1,0] rfl (by decide)),E.keep [4,31,32,33],(InR.inc r52 (qas h32) hc58),h128,h131⟩
   refine sg<|fv E qbY rfl fun a E=>ld E ok qav 0 rfl rfl rfl fun a E=>lw E (qbl rfl rfl) fun a E=>mv E rfl fun a E=>qap (x59.Kind == ([101,115,99,97,112,101])) (fun hc132=>?_) (fun hc132=>?_)
   rotate_left
   ·replace hF:=qaj hc132 hF
    replace E:=E.upd 68 hc132 rfl
    refine ls E fun a E=>ls E fun a E=>ls E fun a E=>pf E rfl rfl fun a E=>aw E rfl fun a E=>c_if E rfl (fun h=>by cases h) (fun _=>?_)
    refine sg<|av E rfl fun a E=>aw E rfl fun a E=>wp_ret<|qan ?_
    refine qan<|qag ?_
    obtain rfl:=sj hF
    exact so (sr ⟨rfl,⟨ok.drop.drop.drop,E.d,⟨rv_t E rfl,rv_t E rfl,trivial⟩,(show ([]:List UInt8).length ≤ LIMS by decide)⟩⟩)
   replace hF:=qak hc132 hF
   replace E:=E.upd 68 hc132 rfl
   refine fv E qdL rfl fun a E=>ld E ok qav 0 rfl rfl rfl fun a E=>lw E (qcn rfl rfl) fun a E=>pt E rfl rfl fun a E=>aw E rfl fun a E=>cf E rfl hF (fun hc133 hF=>?_) fun hc133 hF=>?_
   rotate_left
   ·refine sg<|av E rfl fun a E=>aw E rfl fun a E=>wp_ret<|qan ?_
    refine qan<|qag ?_
    obtain rfl:=sj hF
    exact so (sr ⟨rfl,⟨ok.drop.drop.drop,E.d,⟨rv_t E rfl,rv_t E rfl,trivial⟩,(show ([]:List UInt8).length ≤ LIMS by decide)⟩⟩)
   refine qab<|fv E qdL rfl fun a E=>ld E ok qav 0 rfl rfl rfl fun a E=>?_
   obtain ⟨s134,e135,hF⟩:=bnd hF
   refine lw E (qa7 Tryz.underlying9 e135 rfl ⟨_,rfl⟩ rfl) fun a E=>?_
   obtain ⟨r136,e137,hF⟩:=bnd hF
   replace ok:Ok u m0 ([(b28,oc 88 [c53,c55])] :: M56 :: [(b71,oc 29 [vs x59.Kind,vs x59.Text,vi x59.From])] :: S) w:=(ok.pk 3 [2,1,0] rfl (by decide))
   refine qaz E qf9 rfl (qaW N s134 (Nat.le_trans (qb6 e135) l69) (Builder.mk () x_51.buf) h54 h57 e137 hG ok) rfl rfl ?_
   rintro _ w ⟨c139,c141,M142,⟨rfl,ok⟩,r138,h140,h143⟩
   refine ⟨_,rfl,fun a E=>?_⟩
   refine wpList_nil<|qaq<|qaq<|qaa<|qab<|lw E (qaG rfl rfl (InR.inc r52 (qas h32) hc58)) fun a E=>mv E rfl fun a E=>wpList_nil ?_
   obtain rfl:=sj hF
   exact qay ⟨c139,c141,M142,(ok.pk 3 [1,0] rfl (by decide)),E.keep [4,31,32,33],(InR.inc r52 (qas h32) hc58),h140,h143⟩
 replace hF:=qak hc81 hF
 replace E:=E.upd 48 hc81 rfl
 refine fv E qdL rfl fun a E=>ld E ok qav 0 rfl rfl rfl fun a E=>lw E (qbl rfl rfl) fun a E=>pt E rfl rfl fun a E=>aw E rfl fun a E=>cf E rfl hF (fun hc82 hF=>?_) fun hc82 hF=>?_
 ·refine qab ?_
  obtain ⟨r83,e84,hF⟩:=bnd hF
  replace ok:Ok u m0 ([(b28,oc 88 [c53,c55])] :: M56 :: [(b71,oc 29 [vs x59.Kind,vs x59.Text,vi x59.From])] :: S) w:=(ok.pk 3 [2,1,0] rfl (by decide))
  refine qaz E qjT rfl (qbJ N 10 (show InR .u8 (10) by decide) (Builder.mk () x_51.buf) h54 h57 e84 hG ok) rfl rfl ?_
  rintro _ w ⟨c85,c87,M88,⟨rfl,ok⟩,h86,h89⟩
  refine ⟨_,rfl,fun a E=>?_⟩
  refine wpList_nil<|qaq<|qaq<|qaa<|qab<|lw E (qaG rfl rfl (InR.inc r52 (qas h32) hc58)) fun a E=>mv E rfl fun a E=>wpList_nil ?_
  obtain rfl:=sj hF
  exact qay ⟨c85,c87,M88,(ok.pk 3 [1,0] rfl (by decide)),E.keep [4,31,32,33],(InR.inc r52 (qas h32) hc58),h86,h89⟩
 refine sg<|fv E qbY rfl fun a E=>ld E ok qav 0 rfl rfl rfl fun a E=>lw E (qbl rfl rfl) fun a E=>mv E rfl fun a E=>qap (x59.Kind == ([101,115,99,97,112,101])) (fun hc90=>?_) (fun hc90=>?_)
 rotate_left
 ·as_aux_lemma =>
   replace hF:=qaj hc90 hF
   replace E:=E.upd 58 hc90 rfl
   refine ls E fun a E=>ls E fun a E=>ls E fun a E=>pf E rfl rfl fun a E=>aw E rfl fun a E=>c_if E rfl (fun h=>by cases h) (fun _=>?_)
   refine sg<|fv E qbY rfl fun a E=>ld E ok qav 0 rfl rfl rfl fun a E=>lw E (qbl rfl rfl) fun a E=>mv E rfl fun a E=>qap (x59.Kind == ([101,115,99,97,112,101])) (fun hc111=>?_) (fun hc111=>?_)
   rotate_left
   ·replace hF:=qaj hc111 hF
    replace E:=E.upd 68 hc111 rfl
    refine ls E fun a E=>ls E fun a E=>ls E fun a E=>pf E rfl rfl fun a E=>aw E rfl fun a E=>c_if E rfl (fun h=>by cases h) (fun _=>?_)
    refine sg<|av E rfl fun a E=>aw E rfl fun a E=>wp_ret<|qan ?_
    refine qan<|qag ?_
    obtain rfl:=sj hF
    exact so (sr ⟨rfl,⟨ok.drop.drop.drop,E.d,⟨rv_t E rfl,rv_t E rfl,trivial⟩,(show ([]:List UInt8).length ≤ LIMS by decide)⟩⟩)
   replace hF:=qak hc111 hF
   replace E:=E.upd 68 hc111 rfl
   refine fv E qdL rfl fun a E=>ld E ok qav 0 rfl rfl rfl fun a E=>lw E (qcn rfl rfl) fun a E=>pt E rfl rfl fun a E=>aw E rfl fun a E=>cf E rfl hF (fun hc112 hF=>?_) fun hc112 hF=>?_
   rotate_left
   ·refine sg<|av E rfl fun a E=>aw E rfl fun a E=>wp_ret<|qan ?_
    refine qan<|qag ?_
    obtain rfl:=sj hF
    exact so (sr ⟨rfl,⟨ok.drop.drop.drop,E.d,⟨rv_t E rfl,rv_t E rfl,trivial⟩,(show ([]:List UInt8).length ≤ LIMS by decide)⟩⟩)
   refine qab<|fv E qdL rfl fun a E=>ld E ok qav 0 rfl rfl rfl fun a E=>?_
   obtain ⟨s113,e114,hF⟩:=bnd hF
   refine lw E (qa7 Tryz.underlying9 e114 rfl ⟨_,rfl⟩ rfl) fun a E=>?_
   obtain ⟨r115,e116,hF⟩:=bnd hF
   replace ok:Ok u m0 ([(b28,oc 88 [c53,c55])] :: M56 :: [(b71,oc 29 [vs x59.Kind,vs x59.Text,vi x59.From])] :: S) w:=(ok.pk 3 [2,1,0] rfl (by decide))
   refine qaz E qf9 rfl (qaW N s113 (Nat.le_trans (qb6 e114) l69) (Builder.mk () x_51.buf) h54 h57 e116 hG ok) rfl rfl ?_
   rintro _ w ⟨c118,c120,M121,⟨rfl,ok⟩,r117,h119,h122⟩
   refine ⟨_,rfl,fun a E=>?_⟩
   refine wpList_nil<|qaq<|qaq<|qaa<|qab<|lw E (qaG rfl rfl (InR.inc r52 (qas h32) hc58)) fun a E=>mv E rfl fun a E=>wpList_nil ?_
   obtain rfl:=sj hF
   exact qay ⟨c118,c120,M121,(ok.pk 3 [1,0] rfl (by decide)),E.keep [4,31,32,33],(InR.inc r52 (qas h32) hc58),h119,h122⟩
 replace hF:=qak hc90 hF
 replace E:=E.upd 58 hc90 rfl
 refine fv E qdL rfl fun a E=>ld E ok qav 0 rfl rfl rfl fun a E=>lw E (qbl rfl rfl) fun a E=>pt E rfl rfl fun a E=>aw E rfl fun a E=>cf E rfl hF (fun hc91 hF=>?_) fun hc91 hF=>?_
 ·refine qab ?_
  obtain ⟨r92,e93,hF⟩:=bnd hF
  replace ok:Ok u m0 ([(b28,oc 88 [c53,c55])] :: M56 :: [(b71,oc 29 [vs x59.Kind,vs x59.Text,vi x59.From])] :: S) w:=(ok.pk 3 [2,1,0] rfl (by decide))
  refine qaz E qjT rfl (qbJ N 9 (show InR .u8 (9) by decide) (Builder.mk () x_51.buf) h54 h57 e93 hG ok) rfl rfl ?_
  rintro _ w ⟨c94,c96,M97,⟨rfl,ok⟩,h95,h98⟩
  refine ⟨_,rfl,fun a E=>?_⟩
  refine wpList_nil<|qaq<|qaq<|qaa<|qab<|lw E (qaG rfl rfl (InR.inc r52 (qas h32) hc58)) fun a E=>mv E rfl fun a E=>wpList_nil ?_
  obtain rfl:=sj hF
  exact qay ⟨c94,c96,M97,(ok.pk 3 [1,0] rfl (by decide)),E.keep [4,31,32,33],(InR.inc r52 (qas h32) hc58),h95,h98⟩
 refine sg<|fv E qbY rfl fun a E=>ld E ok qav 0 rfl rfl rfl fun a E=>lw E (qbl rfl rfl) fun a E=>mv E rfl fun a E=>qap (x59.Kind == ([101,115,99,97,112,101])) (fun hc99=>?_) (fun hc99=>?_)
 rotate_left
 ·replace hF:=qaj hc99 hF
  replace E:=E.upd 68 hc99 rfl
  refine ls E fun a E=>ls E fun a E=>ls E fun a E=>pf E rfl rfl fun a E=>aw E rfl fun a E=>c_if E rfl (fun h=>by cases h) (fun _=>?_)
  refine sg<|av E rfl fun a E=>aw E rfl fun a E=>wp_ret<|qan ?_
  refine qan<|qag ?_
  obtain rfl:=sj hF
  exact so (sr ⟨rfl,⟨ok.drop.drop.drop,E.d,⟨rv_t E rfl,rv_t E rfl,trivial⟩,(show ([]:List UInt8).length ≤ LIMS by decide)⟩⟩)
 replace hF:=qak hc99 hF
 replace E:=E.upd 68 hc99 rfl
 refine fv E qdL rfl fun a E=>ld E ok qav 0 rfl rfl rfl fun a E=>lw E (qcn rfl rfl) fun a E=>pt E rfl rfl fun a E=>aw E rfl fun a E=>cf E rfl hF (fun hc100 hF=>?_) fun hc100 hF=>?_
 rotate_left
 ·refine sg<|av E rfl fun a E=>aw E rfl fun a E=>wp_ret<|qan ?_
  refine qan<|qag ?_
  obtain rfl:=sj hF
  exact so (sr ⟨rfl,⟨ok.drop.drop.drop,E.d,⟨rv_t E rfl,rv_t E rfl,trivial⟩,(show ([]:List UInt8).length ≤ LIMS by decide)⟩⟩)
 refine qab<|fv E qdL rfl fun a E=>ld E ok qav 0 rfl rfl rfl fun a E=>?_
 obtain ⟨s101,e102,hF⟩:=bnd hF
 refine lw E (qa7 Tryz.underlying9 e102 rfl ⟨_,rfl⟩ rfl) fun a E=>?_
 obtain ⟨r103,e104,hF⟩:=bnd hF
 replace ok:Ok u m0 ([(b28,oc 88 [c53,c55])] :: M56 :: [(b71,oc 29 [vs x59.Kind,vs x59.Text,vi x59.From])] :: S) w:=(ok.pk 3 [2,1,0] rfl (by decide))
 refine qaz E qf9 rfl (qaW N s101 (Nat.le_trans (qb6 e102) l69) (Builder.mk () x_51.buf) h54 h57 e104 hG ok) rfl rfl ?_
 rintro _ w ⟨c106,c108,M109,⟨rfl,ok⟩,r105,h107,h110⟩
 refine ⟨_,rfl,fun a E=>?_⟩
 refine wpList_nil<|qaq<|qaq<|qaa<|qab<|lw E (qaG rfl rfl (InR.inc r52 (qas h32) hc58)) fun a E=>mv E rfl fun a E=>wpList_nil ?_
 obtain rfl:=sj hF
 exact qay ⟨c106,c108,M109,(ok.pk 3 [1,0] rfl (by decide)),E.keep [4,31,32,33],(InR.inc r52 (qas h32) hc58),h107,h110⟩
def qi3 (u:World) (m0:Mem) (S:Segs) (r:Bool) (a:Act) (w:World):Prop :=
 Ok u m0 S w ∧ a.defers = [] ∧ RVs Tryz.prog a w [.t 4 (.bool r)]
theorem qi8 (N:Nat) (s_0:List UInt8) (ls_0:s_0.length ≤ LIMS) (chars_1:List UInt8) (lchars_1:chars_1.length ≤ LIMS) {r:Bool} (hF:qex N s_0 chars_1 = some r) (hG:Glob u) (ok:Ok u m0 S w) :
  Calls Tryz.prog 70 [vs s_0,vs chars_1].toArray w fun e w'=>(e = .returned (.bool r) ∧ Ok u m0 S w'):=by
 unfold qex at hF
 refine en (qi3 u m0 S) r Tryz.func70 rfl rfl rfl (by rintro a w ⟨ok,hd,hrv⟩; exact qaM [.t 4 (.bool r)] hd rfl hrv ⟨rfl,ok⟩) fun fin a E=>sg<|aw E rfl fun a E=>sg ?_
 refine mv E rfl fun a E=>mv E rfl fun a E=>?_
 obtain ⟨r1,e2,hF⟩:=bnd hF
 refine qaz E qtS rfl (qkh N s_0 ls_0 chars_1 lchars_1 e2 hG ok) rfl rfl ?_
 rintro _ w ⟨⟨rfl,ok⟩,r3⟩
 refine ⟨_,rfl,fun a E=>?_⟩
 refine lw E (qbo rfl rfl) fun a E=>aw E rfl fun a E=>wp_ret ?_
 exact fin hF ⟨ok,E.d,⟨rv_t E rfl,trivial⟩⟩
def qiM (u:World) (m0:Mem) (S:Segs) (r:Bool) (a:Act) (w:World):Prop :=
 Ok u m0 S w ∧ a.defers = [] ∧ RVs Tryz.prog a w [.t 2 (.bool r)]
theorem qlX (N:Nat) (vfiles_0:Value) (files_0:List (File)) (hfiles_0:(pL 2 qeM) m0 [vfiles_0] files_0) {r:Bool} (hF:qfO N files_0 = some r) (hG:Glob u) (ok:Ok u m0 S w) :
  Calls Tryz.prog 43 [vfiles_0].toArray w fun e w'=>(e = .returned (.bool r) ∧ Ok u m0 S w'):=by
 unfold qfO at hF
 refine en (qiM u m0 S) r Tryz.func43 rfl rfl rfl (by rintro a w ⟨ok,hd,hrv⟩; exact qaM [.t 2 (.bool r)] hd rfl hrv ⟨rfl,ok⟩) fun fin a E=>sg<|aw E rfl fun a E=>sg ?_
 refine qhW kS (oneV pB) E ok rfl rfl fun c1 M2 a w E ok h3=>aw E rfl fun a E=>wp_seq<|sg<|mv E rfl fun a E=>?_
 refine lv E ok (qaE qhL hfiles_0 rfl) fun a E=>mv E rfl fun a E=>wn<|wp_block ?_
 obtain ⟨o9,hL,hF⟩:=bnd hF
 refine qaO _ (fun (s:Int × (List (List UInt8 × Bool))) a w=>∃ c11 M12,Ok u m0 (M12 :: S) w ∧ Env 37 a [(3,c11),(7,vfiles_0),(8,(vi (files_0.length:Int))),(9,vi s.1)] ∧ InR .i64 s.1 ∧ OMap kS (oneV pB) m0 c11 s.2 M12) (fun (b:(Unit ⊕ Bool)) e a w=>(Sum.elim (fun b47=>e = (.exit 0) ∧ Ok u m0 (S) w ∧ Env 37 a []) (fun b48=>e = .ret ∧ qiM u m0 S b48 a w)) b) ?_ ?_ N _ a w hL ⟨c1,M2,ok,E.keep [3,7,8,9],(ir 0),h3⟩
 rotate_left
 ·intro e a w _ hO
  rcases o9 with o9 | o9
  rotate_left
  ·replace hF:=qbf hF
   obtain ⟨rfl,hret⟩:=hO
   refine qan<|qag ?_
   exact fin hF hret
  replace hF:=qbe hF
  obtain ⟨rfl,ok,E⟩:=hO
  refine qaS<|qaa<|sg<|aw E rfl fun a E=>wp_ret ?_
  exact fin hF ⟨ok,E.d,⟨rv_t E rfl,trivial⟩⟩
 rintro ⟨x_14,seen_15⟩ a w r ⟨c17,M18,ok,E,r16,h19⟩ hF
 replace hF:qc7 N files_0 x_14 seen_15 = some r:=hF
 unfold qc7 at hF
 refine sg<|lw E (qaA rfl rfl) fun a E=>wn<|wp_seq<|cf E rfl hF (fun hc20 hF=>?_) fun hc20 hF=>?_
 rotate_left
 ·refine wp_exit<|qaB ?_
  obtain rfl:=sj hF
  exact so (sl ⟨rfl,⟨(ok.pk 1 [] rfl (by decide)),E.keep []⟩⟩)
 refine wp_skip<|qaa<|wp_seq<|wp_block<|sg ?_
 obtain ⟨x21,e22,hF⟩:=bnd hF
 obtain ⟨b23,o24,es25,hl26,rr27,at28,yy29⟩:=qaN qhL hfiles_0 e22 (P:=Tryz.prog) (X:=.tmp 7) (I:=.tmp 9) (kd:=.i64) (qah E rfl) (qah E rfl)
 obtain ⟨rfl,l30,l31⟩:=rr27
 refine lv E ok (yy29 _ _) fun a E=>lv E ok (qat (cs:=[vs x21.Name,vs x21.Text]) qnW rfl rfl (qae.ro at28)) fun a E=>qaC E ok qhH rfl rfl fun b32 a w E ok=>qai E ok 0 rfl rfl rfl qoh rfl rfl ⟨rfl,rfl,trivial⟩ rfl rfl fun w ok=>wn<|wp_seq<|wp_seq ?_
 refine qab<|fv E qik rfl fun a E=>ld E ok qav 0 rfl rfl rfl fun a E=>lw E (qbl rfl rfl) fun a E=>mv E rfl fun a E=>qap (x21.Name == ([])) (fun hc33=>?_) (fun hc33=>?_)
 ·replace hF:=qak hc33 hF
  replace E:=E.upd 16 hc33 rfl
  refine ls E fun a E=>ls E fun a E=>ls E fun a E=>ls E fun a E=>pt E rfl rfl fun a E=>mv E rfl fun a E=>ls E fun a E=>ls E fun a E=>?_
  refine ls E fun a E=>ls E fun a E=>pt E rfl rfl fun a E=>mv E rfl fun a E=>ls E fun a E=>ls E fun a E=>ls E fun a E=>pt E rfl rfl fun a E=>?_
  refine wn<|c_if E rfl (fun _=>?_) (fun h=>by cases h)
  refine sg<|aw E rfl fun a E=>wp_ret<|qag<|qan ?_
  refine qag ?_
  obtain rfl:=sj hF
  exact so (sr ⟨rfl,⟨ok.drop.drop,E.d,⟨rv_t E rfl,trivial⟩⟩⟩)
 replace hF:=qaj hc33 hF
 replace E:=E.upd 16 hc33 rfl
 refine fv E qik rfl fun a E=>ld E ok qav 0 rfl rfl rfl fun a E=>lw E (qaV Tryz.underlying9 rfl) fun a E=>lw E (qb9 rfl rfl) fun a E=>pf E rfl rfl fun a E=>mv E rfl fun a E=>qap (decide ((x21.Name.length:Int) > 100)) (fun hc34=>?_) (fun hc34=>?_)
 ·replace hF:=qak hc34 hF
  replace E:=E.upd 22 hc34 rfl
  refine ls E fun a E=>ls E fun a E=>ls E fun a E=>ls E fun a E=>pt E rfl rfl fun a E=>mv E rfl fun a E=>ls E fun a E=>ls E fun a E=>?_
  refine ls E fun a E=>pt E rfl rfl fun a E=>wn<|c_if E rfl (fun _=>?_) (fun h=>by cases h)
  refine sg<|aw E rfl fun a E=>wp_ret<|qag<|qan ?_
  refine qag ?_
  obtain rfl:=sj hF
  exact so (sr ⟨rfl,⟨ok.drop.drop,E.d,⟨rv_t E rfl,trivial⟩⟩⟩)
 replace hF:=qaj hc34 hF
 replace E:=E.upd 22 hc34 rfl
 refine mv E rfl fun a E=>fv E qik rfl fun a E=>ld E ok qav 0 rfl rfl rfl fun a E=>?_
 obtain ⟨xv35,h36,yy37,yy38⟩:=qkQ (P:=Tryz.prog) (mo:=.tmp 23) (ko:=.tmp 25) (zx:=(false:Bool)) ok 1 (qd5 Tryz.underlying9) Tryz.underlying95 h19 rfl (qah E rfl) (qah E rfl) ⟨rfl,l30⟩ qkO qiI
 obtain rfl:=qkq h36
 refine lv E ok (yy37 _) fun a E=>pf E rfl rfl fun a E=>mv E rfl fun a E=>qap ((mget seen_15 x21.Name).getD false) (fun hc39=>?_) (fun hc39=>?_)
 ·replace hF:=qak hc39 hF
  replace E:=E.upd 28 hc39 rfl
  refine ls E fun a E=>ls E fun a E=>ls E fun a E=>pt E rfl rfl fun a E=>wn<|c_if E rfl (fun _=>?_) (fun h=>by cases h)
  refine sg<|aw E rfl fun a E=>wp_ret<|qag<|qan ?_
  refine qag ?_
  obtain rfl:=sj hF
  exact so (sr ⟨rfl,⟨ok.drop.drop,E.d,⟨rv_t E rfl,trivial⟩⟩⟩)
 replace hF:=qaj hc39 hF
 replace E:=E.upd 28 hc39 rfl
 refine fv E qik rfl fun a E=>ld E ok qav 0 rfl rfl rfl fun a E=>?_
 obtain ⟨r40,e41,hF⟩:=bnd hF
 refine lc E qt3 rfl (qi8 N x21.Name l30 ([32,10]) (show ([32,10]:List UInt8).length ≤ LIMS by decide) e41 hG ok) fun w ok a E=>pf E rfl rfl fun a E=>wn<|cf E rfl hF (fun hc42 hF=>?_) fun hc42 hF=>?_
 ·refine sg<|aw E rfl fun a E=>wp_ret<|qag<|qan ?_
  refine qag ?_
  obtain rfl:=sj hF
  exact so (sr ⟨rfl,⟨ok.drop.drop,E.d,⟨rv_t E rfl,trivial⟩⟩⟩)
 refine wp_skip<|qaa<|qab<|mv E rfl fun a E=>fv E qik rfl fun a E=>ld E ok qav 0 rfl rfl rfl fun a E=>?_
 obtain ⟨l43,e44,hF⟩:=bnd hF
 refine qjf (.inl rfl) E ok 1 (qd5 Tryz.underlying9) Tryz.underlying95 h19 rfl rfl rfl rfl ⟨rfl,l30⟩ qiI e44 rfl fun M45 w ok h46=>wpList_nil<|qaq<|qaa<|qab<|lw E (qaG rfl rfl (InR.inc r16 (qas hfiles_0) hc20)) fun a E=>mv E rfl fun a E=>wpList_nil ?_
 obtain rfl:=sj hF
 exact qay ⟨c17,M45,(ok.pk 2 [1] rfl (by decide)),E.keep [3,7,8,9],(InR.inc r16 (qas hfiles_0) hc20),h46⟩
def ql7 (u:World) (m0:Mem) (S:Segs) (r:Bool) (a:Act) (w:World):Prop :=
 Ok u m0 S w ∧ a.defers = [] ∧ RVs Tryz.prog a w [.t 2 (.bool r)]
theorem qg8 (N:Nat) (vt_0:List Value) (t_0:Token) (ht_0:qbM m0 vt_0 t_0) {r:Bool} (hF:qd6 N t_0 = some r) (hG:Glob u) (ok:Ok u m0 S w) :
  Calls Tryz.prog 56 [.agg vt_0.toArray].toArray w fun e w'=>(e = .returned (.bool r) ∧ Ok u m0 S w'):=by
 obtain ⟨rfl,l1,l2,r3⟩:=ht_0
 unfold qd6 at hF
 refine en (ql7 u m0 S) r Tryz.func56 rfl rfl rfl (by rintro a w ⟨ok,hd,hrv⟩; exact qaM [.t 2 (.bool r)] hd rfl hrv ⟨rfl,ok⟩) fun fin a E=>sg<|qdk E ok rfl rfl rfl fun b4 a w E ok=>aw E rfl fun a E=>wp_seq ?_
 refine qab<|fv E qbY rfl fun a E=>ld E ok qav 0 rfl rfl rfl fun a E=>lw E (qbl rfl rfl) fun a E=>mv E rfl fun a E=>qap (t_0.Kind == ([115,107,105,112])) (fun hc5=>?_) (fun hc5=>?_)
 ·replace hF:=qak hc5 hF
  replace E:=E.upd 6 hc5 rfl
  refine ls E fun a E=>ls E fun a E=>ls E fun a E=>pt E rfl rfl fun a E=>aw E rfl fun a E=>wp_ret ?_
  exact fin hF ⟨ok.drop,E.d,⟨rv_t E rfl,trivial⟩⟩
 replace hF:=qaj hc5 hF
 replace E:=E.upd 6 hc5 rfl
 refine fv E qbY rfl fun a E=>ld E ok qav 0 rfl rfl rfl fun a E=>lw E (qbl rfl rfl) fun a E=>pf E rfl rfl fun a E=>aw E rfl fun a E=>wp_ret ?_
 exact fin hF ⟨ok.drop,E.d,⟨rv_t E rfl,trivial⟩⟩
def qhp (u:World) (m0:Mem) (S:Segs) (r:(List (List (Token)))) (a:Act) (w:World):Prop :=
 ∃ m1 v0,m0.le m1 ∧ Ok u m1 S w ∧ a.defers = [] ∧ RVs Tryz.prog a w [.t 4 v0] ∧ (pL 1 (pL 3 qbM)) m1 [v0] r
theorem qj4 (N:Nat) (vl_0:Value) (l_0:List (Token)) (hl_0:(pL 3 qbM) m0 [vl_0] l_0) (open_1:Int) (ropen_1:InR .i64 open_1) {r:(List (List (Token)))} (hF:qd8 N l_0 open_1 = some r) (hG:Glob u) (ok:Ok u m0 S w) :
  Calls Tryz.prog 57 [vl_0,vi open_1].toArray w fun e w'=>∃ m1 v0,e = .returned v0 ∧ m0.le m1 ∧ Ok u m1 S w' ∧ (pL 1 (pL 3 qbM)) m1 [v0] r:=by
 have le_m0:=Mem.le.refl m0
 unfold qd8 at hF
 refine en (qhp u m0 S) r Tryz.func57 rfl rfl rfl (by rintro a w ⟨m1,v0,hle,ok,hd,hrv,h0⟩; exact qaM [.t 4 v0] hd rfl hrv ⟨m1,v0,rfl,hle,ok,h0⟩) fun fin a E=>sg<|aw E rfl fun a E=>sg ?_
 refine qaT (R:=pRaw) (xo:=[.const (Value.slice none 0 0)]) (xs:=[[(Value.slice none 0 0)]]) E ok qcc qhB rfl ⟨⟨_,rfl,rfl,⟨rfl,⟨rfl,trivial⟩⟩⟩,trivial⟩ rfl rfl rfl rfl fun c1 M2 a w E ok h3=>?_
 obtain ⟨M4,ok,h5⟩:=NRow.lit (R:=qcF) ok.addnil.swap2 h3 ⟨_,rfl,ORow.nil⟩
 refine aw E rfl fun a E=>sg<|av E rfl fun a E=>av E rfl fun a E=>wpList_nil ?_
 refine qaa<|wp_seq<|sg<|mv E rfl fun a E=>mv E rfl fun a E=>lw E (qaF rfl rfl) fun a E=>?_
 obtain ⟨l6,e7,hF⟩:=bnd hF
 obtain ⟨c8,h9,yy10⟩:=qoc qcu hl_0 e7 (P:=Tryz.prog) (X:=.tmp 11) (lov:=(some (.tmp 13))) (hiv:=none) (qah E rfl) (qnm E ⟨_,rfl⟩) (qnm E rfl)
 refine lv E ok (yy10 _ _) fun a E=>lv E ok (qaE qcu h9 rfl) fun a E=>mv E rfl fun a E=>wn<|wp_block ?_
 obtain ⟨o16,hL,hF⟩:=bnd hF
 refine qaO _ (fun (s:(List (List (Token))) × Int × Bool × Int) a w=>∃ c17 M18,Ok u m0 (M18 :: S) w ∧ Env 72 a [(5,c17),(6,vi s.2.1),(7,vb s.2.2.1),(14,c8),(15,(vi (l6.length:Int))),(16,vi s.2.2.2)] ∧ NRow 26 1 qcF m0 c17 s.1 M18 ∧ InR .i64 s.2.1 ∧ InR .i64 s.2.2.2) (fun (b:(Unit ⊕ ((List (List (Token)))))) e a w=>(Sum.elim (fun b412=>e = (.exit 0) ∧ Ok u m0 (S) w ∧ Env 72 a []) (fun b413=>e = .ret ∧ qhp u m0 S b413 a w)) b) ?_ ?_ N _ a w hL ⟨c1,M4,ok,E.keep [5,6,7,14,15,16],h5,(ir 0),(ir 0)⟩
 rotate_left
 ·intro e a w _ hO
  rcases o16 with o16 | o16
  rotate_left
  ·replace hF:=qbf hF
   obtain ⟨rfl,hret⟩:=hO
   refine qan<|qag ?_
   exact fin hF hret
  replace hF:=qbe hF
  obtain ⟨rfl,ok,E⟩:=hO
  refine qaS<|qaa<|sg<|aw E rfl fun a E=>wp_ret ?_
  exact fin hF ⟨m0,(.slice none 0 0),le_m0,ok,E.d,⟨rv_t E rfl,trivial⟩,qbF⟩
 rintro ⟨out_22,depth_23,some_24,x_25⟩ a w r ⟨c26,M27,ok,E,h28,r29,r30⟩ hF
 replace hF:qck N l6 out_22 depth_23 some_24 x_25 = some r:=hF
 unfold qck at hF
 refine sg<|lw E (qaA rfl rfl) fun a E=>wn<|wp_seq<|cf E rfl hF (fun hc31 hF=>?_) fun hc31 hF=>?_
 rotate_left
 ·refine wp_exit<|qaB ?_
  obtain rfl:=sj hF
  exact so (sl ⟨rfl,⟨(ok.pk 1 [] rfl (by decide)),E.keep []⟩⟩)
 refine wp_skip<|qaa<|wp_seq<|wp_block<|sg ?_
 obtain ⟨x32,e33,hF⟩:=bnd hF
 obtain ⟨b34,o35,es36,hl37,rr38,at39,yy40⟩:=qaN qcu h9 e33 (P:=Tryz.prog) (X:=.tmp 14) (I:=.tmp 16) (kd:=.i64) (qah E rfl) (qah E rfl)
 obtain ⟨rfl,l41,l42,r43⟩:=rr38
 refine lv E ok (yy40 _ _) fun a E=>lv E ok (qat (cs:=[vs x32.Kind,vs x32.Text,vi x32.From]) qfi rfl rfl (qae.ro at39)) fun a E=>qaC E ok qdh rfl rfl fun b44 a w E ok=>qai E ok 0 rfl rfl rfl qjh rfl rfl ⟨rfl,rfl,rfl,trivial⟩ rfl rfl fun w ok=>wn<|wp_seq<|wp_block ?_
 refine sg<|fv E qbY rfl fun a E=>ld E ok qav 0 rfl rfl rfl fun a E=>lw E (qbl rfl rfl) fun a E=>mv E rfl fun a E=>qap (x32.Kind == ([99,108,111,115,101])) (fun hc45=>?_) (fun hc45=>?_)
 rotate_left
 ·as_aux_lemma =>
   replace hF:=qaj hc45 hF
   replace E:=E.upd 24 hc45 rfl
   refine ls E fun a E=>ls E fun a E=>pf E rfl rfl fun a E=>aw E rfl fun a E=>c_if E rfl (fun h=>by cases h) (fun _=>?_)
   refine sg<|lv E ok (qat (cs:=[vs x32.Kind,vs x32.Text,vi x32.From]) qfi rfl rfl (qae.own 0 rfl rfl)) fun a E=>?_
   obtain ⟨r231,e232,hF⟩:=bnd hF
   refine lc E qpy rfl (qg8 N _ x32 ⟨rfl,l41,l42,r43⟩ e232 hG ok) fun w ok a E=>aw E rfl fun a E=>cf E rfl hF (fun hc233 hF=>?_) fun hc233 hF=>?_
   ·refine wp_exit<|qko rfl<|qaB<|qaS<|qaa<|qab<|lw E (qaG rfl rfl (InR.inc r30 (qas h9) hc31)) fun a E=>mv E rfl fun a E=>?_
    refine wpList_nil ?_
    obtain rfl:=sj hF
    exact qay ⟨c26,M27,(ok.pk 2 [1] rfl (by decide)),E.keep [5,6,7,14,15,16],h28,r29,(InR.inc r30 (qas h9) hc31)⟩
   refine sg<|fv E qbY rfl fun a E=>ld E ok qav 0 rfl rfl rfl fun a E=>lw E (qbl rfl rfl) fun a E=>mv E rfl fun a E=>qap (x32.Kind == ([99,111,109,109,97])) (fun hc234=>?_) (fun hc234=>?_)
   rotate_left
   ·as_aux_lemma =>
     replace hF:=qaj hc234 hF
     replace E:=E.upd 38 hc234 rfl
     refine ls E fun a E=>ls E fun a E=>pf E rfl rfl fun a E=>aw E rfl fun a E=>c_if E rfl (fun h=>by cases h) (fun _=>?_)
     refine sg<|fv E qbY rfl fun a E=>ld E ok qav 0 rfl rfl rfl fun a E=>lw E (qbl rfl rfl) fun a E=>aw E rfl fun a E=>?_
     obtain ⟨o328,hJ,hF⟩:=bnd hF
     refine qbx (Q':=fun e a w=>e = .normal ∧ Ok u m0 ([(b44,oc 29 [vs x32.Kind,vs x32.Text,vi x32.From])] :: M27 :: S) w ∧ Env 72 a [(5,c26),(6,vi o328),(9,vp b44),(14,c8),(15,(vi (l6.length:Int))),(16,vi x_25)] ∧ InR .i64 o328) ?_ ?_
     ·replace hF:=hJ
      clear hJ
      refine cf E rfl hF (fun hc330 hF=>?_) fun hc330 hF=>?_
      ·refine qab<|mv E rfl fun a E=>lw E (qaF rfl rfl) fun a E=>av E rfl fun a E=>wpList_nil ?_
       obtain rfl:=sj hF
       exact ⟨rfl,⟨ok,E.keep [5,6,9,14,15,16],(InR.wrap _ _)⟩⟩
      refine sg<|fv E qbY rfl fun a E=>ld E ok qav 0 rfl rfl rfl fun a E=>lw E (qbl rfl rfl) fun a E=>aw E rfl fun a E=>?_
      refine cf E rfl hF (fun hc331 hF=>?_) fun hc331 hF=>?_
      rotate_left
      ·refine wp_skip ?_
       obtain rfl:=sj hF
       exact ⟨rfl,⟨ok,E.keep [5,6,9,14,15,16],r29⟩⟩
      refine qab<|mv E rfl fun a E=>lw E (qca rfl rfl) fun a E=>av E rfl fun a E=>wpList_nil ?_
      obtain rfl:=sj hF
      exact ⟨rfl,⟨ok,E.keep [5,6,9,14,15,16],(InR.wrap _ _)⟩⟩
     clear hJ
     intro e a w hO
     obtain ⟨rfl,ok,E,r332⟩:=hO
     refine qaq<|qaa<|sg<|aw E rfl fun a E=>?_
     obtain ⟨o333,hJ,hF⟩:=bnd hF
     refine qbx (Q':=fun e a w=>e = .normal ∧ ∃ c334 M335,Ok u m0 ([(b44,oc 29 [vs x32.Kind,vs x32.Text,vi x32.From])] :: M335 :: S) w ∧ Env 72 a [(5,c334),(6,vi o328),(7,vb true),(14,c8),(15,(vi (l6.length:Int))),(16,vi x_25)] ∧ NRow 26 1 qcF m0 c334 o333 M335) ?_ ?_
     rotate_left
     ·clear hJ
      intro e a w hO
      obtain ⟨rfl,c409,M410,ok,E,h411⟩:=hO
      refine qaq<|qaa<|qab<|lw E (qaG rfl rfl (InR.inc r30 (qas h9) hc31)) fun a E=>mv E rfl fun a E=>wpList_nil ?_
      obtain rfl:=sj hF
      exact qay ⟨c409,M410,(ok.pk 2 [1] rfl (by decide)),E.keep [5,6,7,14,15,16],h411,r332,(InR.inc r30 (qas h9) hc31)⟩
     replace hF:=hJ
     clear hJ
     obtain ⟨x337,e338,hF⟩:=bnd hF
     obtain ⟨l359,e360,hF⟩:=bnd hF
     obtain ⟨x364,e365,hF⟩:=bnd hF
     obtain rfl:=sj hF
     replace ok:Ok u m0 (M27 :: [(b44,oc 29 [vs x32.Kind,vs x32.Text,vi x32.From])] :: S) w:=(ok.pk 2 [1,0] rfl (by decide))
     obtain ⟨cs376,c377,M378,M379,M380,ok,hr381,hx382,he383,hh384⟩:=NRow.open h28 e338 ok
     obtain ⟨c385,rfl,h386⟩:=he383
     refine qcp [9,10] (Cls u m0 (M378 :: [(b44,oc 29 [vs x32.Kind,vs x32.Text,vi x32.From])] :: [])) (Cls u m0 ([(b44,oc 29 [vs x32.Kind,vs x32.Text,vi x32.From])] :: [])) (by kernel_rfl) ?_
     intro w hw
     replace ok:=qcD ok hw
     clear hw
     refine qam (cl1 (cq le_m0 ok [0,3] rfl) (cq le_m0 ok [3] rfl)) fun hT=>kt 0 E rfl hT (qad rfl) fun a E=>kt 1 E rfl hT (qad rfl) fun a E=>kt 2 E rfl hT (qeK qcc hr381 hh384 rfl) fun a E=>kt 3 E rfl hT (qca rfl rfl) fun a E=>kt 4 E rfl hT (qad rfl) fun a E=>kt 5 E rfl hT (qad rfl) fun a E=>kt 6 E rfl hT (qeK qcc hr381 hh384 rfl) fun a E=>?_
     refine kt 7 E rfl hT (qca rfl rfl) fun a E=>?_
     obtain ⟨b387,o388,hp389,yy390⟩:=qf5 qcc hr381 hx382 (P:=Tryz.prog) (X:=.tmp 61) (I:=.tmp 64) (kd:=.i64) (qah E rfl) (qah E rfl)
     refine kt 8 E rfl hT (yy390 _ _) fun a E=>?_
     obtain ⟨hl391,hh392⟩:=qdt hr381 hx382 hp389 (by decide)
     refine qbD 9 E rfl (by kernel_rfl) nP hT (qao qfg rfl (qae.crow hh392 0 rfl)) rfl rfl fun a E=>qbD 10 E rfl (by kernel_rfl) nP hT (qat (cs:=[vs x32.Kind,vs x32.Text,vi x32.From]) qfi rfl rfl (qae.cown 1 rfl rfl)) rfl rfl fun a E=>qau [11] (by kernel_rfl) rfl (qax ?_)
     ·refine wo rfl<|qaT (R:=qbM) (xo:=[.tmp 67]) (xs:=([x32]:List (Token))) E ok qcu qdh rfl ⟨⟨_,rfl,rfl,⟨rfl,l41,l42,r43⟩⟩,trivial⟩ rfl rfl rfl rfl fun c393 M394 a w E ok h395=>wn<|qam (cl1 (cq le_m0 ok [1,4] rfl) (cq le_m0 ok [4] rfl)) fun hT=>qau [12] (by kernel_rfl) rfl (qax ?_)
      ·refine wo rfl<|qa3 (R:=qbM) E ok 2 qev qcu Tryz.underlying26 rfl h386 (qaJ.ofRow h395 0 rfl ok) e360 ⟨_,qdh,rfl⟩ rfl rfl rfl rfl fun c396 M397 a w E ok h398=>wn<|qam (cl1 (cq le_m0 ok [1,4] rfl) (cq le_m0 ok [4] rfl)) fun hT=>?_
       obtain ⟨b399,o400,hp401,yy402⟩:=qf5 qcc hr381 hx382 (P:=Tryz.prog) (X:=.tmp 57) (I:=.tmp 60) (kd:=.i64) (qah E rfl) (qah E rfl)
       refine kt 13 E rfl hT (yy402 _ _) fun a E=>qau [14] (by kernel_rfl) rfl (qax ?_)
       ·refine wo rfl<|qgm (f:=0) (c':=[c396]) E ok 1 rfl hr381 hx382 hp401 rfl rfl rfl qlQ (ORow.cells h398) rfl rfl ⟨(ORow.one h398),trivial⟩ rfl ⟨(ORow.one h398),trivial⟩ rfl fun M403 w ok hr404 hx405=>?_
        have hh406:=qdU.set (c':=[c396]) hh384
        refine wn<|qam (cl2 (by kernel_rfl) (cq le_m0 ok [4] rfl)) fun hT=>qbd (by kernel_rfl) ?_
        replace ok:Ok u m0 (M403 :: M397 :: M380 :: M394 :: [(b44,oc 29 [vs x32.Kind,vs x32.Text,vi x32.From])] :: S) w:=(ok.pk 5 [1,2,3,0,4] rfl (by decide))
        obtain ⟨M407,ok,h408⟩:=NRow.close e338 ok hr404 hx405 (show qcF m0 [c396] l359 M397 from ⟨_,rfl,h398⟩) hh406
        exact ⟨rfl,⟨c26,M407,(ok.pk 3 [2,0] rfl (by decide)),E.keep [5,6,7,14,15,16],h408⟩⟩
   replace hF:=qak hc234 hF
   replace E:=E.upd 38 hc234 rfl
   refine mv E rfl fun a E=>lw E (qbt rfl rfl) fun a E=>pt E rfl rfl fun a E=>aw E rfl fun a E=>cf E rfl hF (fun hc235 hF=>?_) fun hc235 hF=>?_
   ·refine sg<|mv E rfl fun a E=>qaT (R:=pRaw) (xo:=[.const (Value.slice none 0 0)]) (xs:=[[(Value.slice none 0 0)]]) E ok qcc qhB rfl ⟨⟨_,rfl,rfl,⟨rfl,⟨rfl,trivial⟩⟩⟩,trivial⟩ rfl rfl rfl rfl fun c236 M237 a w E ok h238=>?_
    replace ok:Ok u m0 (M27 :: M237 :: [(b44,oc 29 [vs x32.Kind,vs x32.Text,vi x32.From])] :: S) w:=(ok.pk 3 [2,0,1] rfl (by decide))
    obtain ⟨l239,e240,hF⟩:=bnd hF
    refine qlZ (R:=qcF) E ok.addnil.swap2 qcc Tryz.underlying129 h28 (qaJ.ofRow h238 1 rfl ok) ⟨_,rfl,ORow.nil⟩ e240 ⟨_,qhB,rfl⟩ rfl rfl rfl rfl fun c241 M242 a w E ok h243=>aw E rfl fun a E=>sg<|av E rfl fun a E=>wpList_nil ?_
    refine qaa<|wp_exit<|qko rfl<|qaB<|qaS<|qaa<|qab<|lw E (qaG rfl rfl (InR.inc r30 (qas h9) hc31)) fun a E=>?_
    refine mv E rfl fun a E=>wpList_nil ?_
    obtain rfl:=sj hF
    exact qay ⟨c241,M242,(ok.pk 3 [0] rfl (by decide)),E.keep [5,6,7,14,15,16],h243,r29,(InR.inc r30 (qas h9) hc31)⟩
   refine sg<|fv E qbY rfl fun a E=>ld E ok qav 0 rfl rfl rfl fun a E=>lw E (qbl rfl rfl) fun a E=>aw E rfl fun a E=>?_
   obtain ⟨o244,hJ,hF⟩:=bnd hF
   refine qbx (Q':=fun e a w=>e = .normal ∧ Ok u m0 ([(b44,oc 29 [vs x32.Kind,vs x32.Text,vi x32.From])] :: M27 :: S) w ∧ Env 72 a [(5,c26),(6,vi o244),(9,vp b44),(14,c8),(15,(vi (l6.length:Int))),(16,vi x_25)] ∧ InR .i64 o244) ?_ ?_
   ·replace hF:=hJ
    clear hJ
    refine cf E rfl hF (fun hc246 hF=>?_) fun hc246 hF=>?_
    ·refine qab<|mv E rfl fun a E=>lw E (qaF rfl rfl) fun a E=>av E rfl fun a E=>wpList_nil ?_
     obtain rfl:=sj hF
     exact ⟨rfl,⟨ok,E.keep [5,6,9,14,15,16],(InR.wrap _ _)⟩⟩
    refine sg<|fv E qbY rfl fun a E=>ld E ok qav 0 rfl rfl rfl fun a E=>lw E (qbl rfl rfl) fun a E=>aw E rfl fun a E=>?_
    refine cf E rfl hF (fun hc247 hF=>?_) fun hc247 hF=>?_
    rotate_left
    ·refine wp_skip ?_
     obtain rfl:=sj hF
     exact ⟨rfl,⟨ok,E.keep [5,6,9,14,15,16],r29⟩⟩
    refine qab<|mv E rfl fun a E=>lw E (qca rfl rfl) fun a E=>av E rfl fun a E=>wpList_nil ?_
    obtain rfl:=sj hF
    exact ⟨rfl,⟨ok,E.keep [5,6,9,14,15,16],(InR.wrap _ _)⟩⟩
   clear hJ
   intro e a w hO
   obtain ⟨rfl,ok,E,r248⟩:=hO
   refine qaq<|qaa<|sg<|aw E rfl fun a E=>?_
   obtain ⟨o249,hJ,hF⟩:=bnd hF
   refine qbx (Q':=fun e a w=>e = .normal ∧ ∃ c250 M251,Ok u m0 ([(b44,oc 29 [vs x32.Kind,vs x32.Text,vi x32.From])] :: M251 :: S) w ∧ Env 72 a [(5,c250),(6,vi o244),(7,vb true),(14,c8),(15,(vi (l6.length:Int))),(16,vi x_25)] ∧ NRow 26 1 qcF m0 c250 o249 M251) ?_ ?_
   rotate_left
   ·clear hJ
    intro e a w hO
    obtain ⟨rfl,c325,M326,ok,E,h327⟩:=hO
    refine qaq<|qaa<|qab<|lw E (qaG rfl rfl (InR.inc r30 (qas h9) hc31)) fun a E=>mv E rfl fun a E=>wpList_nil ?_
    obtain rfl:=sj hF
    exact qay ⟨c325,M326,(ok.pk 2 [1] rfl (by decide)),E.keep [5,6,7,14,15,16],h327,r248,(InR.inc r30 (qas h9) hc31)⟩
   replace hF:=hJ
   clear hJ
   obtain ⟨x253,e254,hF⟩:=bnd hF
   obtain ⟨l275,e276,hF⟩:=bnd hF
   obtain ⟨x280,e281,hF⟩:=bnd hF
   obtain rfl:=sj hF
   replace ok:Ok u m0 (M27 :: [(b44,oc 29 [vs x32.Kind,vs x32.Text,vi x32.From])] :: S) w:=(ok.pk 2 [1,0] rfl (by decide))
   obtain ⟨cs292,c293,M294,M295,M296,ok,hr297,hx298,he299,hh300⟩:=NRow.open h28 e254 ok
   obtain ⟨c301,rfl,h302⟩:=he299
   refine qcp [9,10] (Cls u m0 (M294 :: [(b44,oc 29 [vs x32.Kind,vs x32.Text,vi x32.From])] :: [])) (Cls u m0 ([(b44,oc 29 [vs x32.Kind,vs x32.Text,vi x32.From])] :: [])) (by kernel_rfl) ?_
   intro w hw
   replace ok:=qcD ok hw
   clear hw
   refine qam (cl1 (cq le_m0 ok [0,3] rfl) (cq le_m0 ok [3] rfl)) fun hT=>kt 0 E rfl hT (qad rfl) fun a E=>kt 1 E rfl hT (qad rfl) fun a E=>kt 2 E rfl hT (qeK qcc hr297 hh300 rfl) fun a E=>kt 3 E rfl hT (qca rfl rfl) fun a E=>kt 4 E rfl hT (qad rfl) fun a E=>kt 5 E rfl hT (qad rfl) fun a E=>kt 6 E rfl hT (qeK qcc hr297 hh300 rfl) fun a E=>?_
   refine kt 7 E rfl hT (qca rfl rfl) fun a E=>?_
   obtain ⟨b303,o304,hp305,yy306⟩:=qf5 qcc hr297 hx298 (P:=Tryz.prog) (X:=.tmp 61) (I:=.tmp 64) (kd:=.i64) (qah E rfl) (qah E rfl)
   refine kt 8 E rfl hT (yy306 _ _) fun a E=>?_
   obtain ⟨hl307,hh308⟩:=qdt hr297 hx298 hp305 (by decide)
   refine qbD 9 E rfl (by kernel_rfl) nP hT (qao qfg rfl (qae.crow hh308 0 rfl)) rfl rfl fun a E=>qbD 10 E rfl (by kernel_rfl) nP hT (qat (cs:=[vs x32.Kind,vs x32.Text,vi x32.From]) qfi rfl rfl (qae.cown 1 rfl rfl)) rfl rfl fun a E=>qau [11] (by kernel_rfl) rfl (qax ?_)
   ·refine wo rfl<|qaT (R:=qbM) (xo:=[.tmp 67]) (xs:=([x32]:List (Token))) E ok qcu qdh rfl ⟨⟨_,rfl,rfl,⟨rfl,l41,l42,r43⟩⟩,trivial⟩ rfl rfl rfl rfl fun c309 M310 a w E ok h311=>wn<|qam (cl1 (cq le_m0 ok [1,4] rfl) (cq le_m0 ok [4] rfl)) fun hT=>qau [12] (by kernel_rfl) rfl (qax ?_)
    ·refine wo rfl<|qa3 (R:=qbM) E ok 2 qev qcu Tryz.underlying26 rfl h302 (qaJ.ofRow h311 0 rfl ok) e276 ⟨_,qdh,rfl⟩ rfl rfl rfl rfl fun c312 M313 a w E ok h314=>wn<|qam (cl1 (cq le_m0 ok [1,4] rfl) (cq le_m0 ok [4] rfl)) fun hT=>?_
     obtain ⟨b315,o316,hp317,yy318⟩:=qf5 qcc hr297 hx298 (P:=Tryz.prog) (X:=.tmp 57) (I:=.tmp 60) (kd:=.i64) (qah E rfl) (qah E rfl)
     refine kt 13 E rfl hT (yy318 _ _) fun a E=>qau [14] (by kernel_rfl) rfl (qax ?_)
     ·refine wo rfl<|qgm (f:=0) (c':=[c312]) E ok 1 rfl hr297 hx298 hp317 rfl rfl rfl qlQ (ORow.cells h314) rfl rfl ⟨(ORow.one h314),trivial⟩ rfl ⟨(ORow.one h314),trivial⟩ rfl fun M319 w ok hr320 hx321=>?_
      have hh322:=qdU.set (c':=[c312]) hh300
      refine wn<|qam (cl2 (by kernel_rfl) (cq le_m0 ok [4] rfl)) fun hT=>qbd (by kernel_rfl) ?_
      replace ok:Ok u m0 (M319 :: M313 :: M296 :: M310 :: [(b44,oc 29 [vs x32.Kind,vs x32.Text,vi x32.From])] :: S) w:=(ok.pk 5 [1,2,3,0,4] rfl (by decide))
      obtain ⟨M323,ok,h324⟩:=NRow.close e254 ok hr320 hx321 (show qcF m0 [c312] l275 M313 from ⟨_,rfl,h314⟩) hh322
      exact ⟨rfl,⟨c26,M323,(ok.pk 3 [2,0] rfl (by decide)),E.keep [5,6,7,14,15,16],h324⟩⟩
 replace hF:=qak hc45 hF
 replace E:=E.upd 24 hc45 rfl
 refine mv E rfl fun a E=>lw E (qbt rfl rfl) fun a E=>pt E rfl rfl fun a E=>aw E rfl fun a E=>cf E rfl hF (fun hc46 hF=>?_) fun hc46 hF=>?_
 ·refine wp_seq<|sg<|mv E rfl fun a E=>lw E (qbQ rfl) fun a E=>wn<|cf E rfl hF (fun hc47 hF=>?_) fun hc47 hF=>?_
  ·refine sg<|aw E rfl fun a E=>wp_ret<|qag<|qan ?_
   refine qag<|qan<|qag ?_
   obtain rfl:=sj hF
   exact so (sr ⟨rfl,⟨m0,(.slice none 0 0),le_m0,ok.drop.drop,E.d,⟨rv_t E rfl,trivial⟩,qbF⟩⟩)
  refine wp_skip<|qaa<|sg<|mv E rfl fun a E=>aw E rfl fun a E=>?_
  refine wp_ret<|qan<|qag<|qan<|qag ?_
  obtain ⟨m48,hle,ok,hfz⟩:=(ok.frs 1 rfl).freeze
  have h49:=NRow.froz qni h28 hle hfz (by decide)
  have le_m0:=le_m0.trans hle
  have hl_0:=(mL qev).up hle hl_0
  have h9:=(mL qev).up hle h9
  have at39:=At.up hle at39
  obtain rfl:=sj hF
  exact so (sr ⟨rfl,⟨m48,c26,le_m0,ok.drop,E.d,⟨rv_t E rfl,trivial⟩,h49⟩⟩)
 refine sg<|lv E ok (qat (cs:=[vs x32.Kind,vs x32.Text,vi x32.From]) qfi rfl rfl (qae.own 0 rfl rfl)) fun a E=>?_
 obtain ⟨r50,e51,hF⟩:=bnd hF
 refine lc E qpy rfl (qg8 N _ x32 ⟨rfl,l41,l42,r43⟩ e51 hG ok) fun w ok a E=>aw E rfl fun a E=>cf E rfl hF (fun hc52 hF=>?_) fun hc52 hF=>?_
 ·refine wp_exit<|qko rfl<|qaB<|qaS<|qaa<|qab<|lw E (qaG rfl rfl (InR.inc r30 (qas h9) hc31)) fun a E=>mv E rfl fun a E=>?_
  refine wpList_nil ?_
  obtain rfl:=sj hF
  exact qay ⟨c26,M27,(ok.pk 2 [1] rfl (by decide)),E.keep [5,6,7,14,15,16],h28,r29,(InR.inc r30 (qas h9) hc31)⟩
 refine sg<|fv E qbY rfl fun a E=>ld E ok qav 0 rfl rfl rfl fun a E=>lw E (qbl rfl rfl) fun a E=>mv E rfl fun a E=>qap (x32.Kind == ([99,111,109,109,97])) (fun hc53=>?_) (fun hc53=>?_)
 rotate_left
 ·as_aux_lemma =>
   replace hF:=qaj hc53 hF
   replace E:=E.upd 38 hc53 rfl
   refine ls E fun a E=>ls E fun a E=>pf E rfl rfl fun a E=>aw E rfl fun a E=>c_if E rfl (fun h=>by cases h) (fun _=>?_)
   refine sg<|fv E qbY rfl fun a E=>ld E ok qav 0 rfl rfl rfl fun a E=>lw E (qbl rfl rfl) fun a E=>aw E rfl fun a E=>?_
   obtain ⟨o147,hJ,hF⟩:=bnd hF
   refine qbx (Q':=fun e a w=>e = .normal ∧ Ok u m0 ([(b44,oc 29 [vs x32.Kind,vs x32.Text,vi x32.From])] :: M27 :: S) w ∧ Env 72 a [(5,c26),(6,vi o147),(9,vp b44),(14,c8),(15,(vi (l6.length:Int))),(16,vi x_25)] ∧ InR .i64 o147) ?_ ?_
   ·replace hF:=hJ
    clear hJ
    refine cf E rfl hF (fun hc149 hF=>?_) fun hc149 hF=>?_
    ·refine qab<|mv E rfl fun a E=>lw E (qaF rfl rfl) fun a E=>av E rfl fun a E=>wpList_nil ?_
     obtain rfl:=sj hF
     exact ⟨rfl,⟨ok,E.keep [5,6,9,14,15,16],(InR.wrap _ _)⟩⟩
    refine sg<|fv E qbY rfl fun a E=>ld E ok qav 0 rfl rfl rfl fun a E=>lw E (qbl rfl rfl) fun a E=>aw E rfl fun a E=>?_
    refine cf E rfl hF (fun hc150 hF=>?_) fun hc150 hF=>?_
    rotate_left
    ·refine wp_skip ?_
     obtain rfl:=sj hF
     exact ⟨rfl,⟨ok,E.keep [5,6,9,14,15,16],r29⟩⟩
    refine qab<|mv E rfl fun a E=>lw E (qca rfl rfl) fun a E=>av E rfl fun a E=>wpList_nil ?_
    obtain rfl:=sj hF
    exact ⟨rfl,⟨ok,E.keep [5,6,9,14,15,16],(InR.wrap _ _)⟩⟩
   clear hJ
   intro e a w hO
   obtain ⟨rfl,ok,E,r151⟩:=hO
   refine qaq<|qaa<|sg<|aw E rfl fun a E=>?_
   obtain ⟨o152,hJ,hF⟩:=bnd hF
   refine qbx (Q':=fun e a w=>e = .normal ∧ ∃ c153 M154,Ok u m0 ([(b44,oc 29 [vs x32.Kind,vs x32.Text,vi x32.From])] :: M154 :: S) w ∧ Env 72 a [(5,c153),(6,vi o147),(7,vb true),(14,c8),(15,(vi (l6.length:Int))),(16,vi x_25)] ∧ NRow 26 1 qcF m0 c153 o152 M154) ?_ ?_
   rotate_left
   ·clear hJ
    intro e a w hO
    obtain ⟨rfl,c228,M229,ok,E,h230⟩:=hO
    refine qaq<|qaa<|qab<|lw E (qaG rfl rfl (InR.inc r30 (qas h9) hc31)) fun a E=>mv E rfl fun a E=>wpList_nil ?_
    obtain rfl:=sj hF
    exact qay ⟨c228,M229,(ok.pk 2 [1] rfl (by decide)),E.keep [5,6,7,14,15,16],h230,r151,(InR.inc r30 (qas h9) hc31)⟩
   replace hF:=hJ
   clear hJ
   obtain ⟨x156,e157,hF⟩:=bnd hF
   obtain ⟨l178,e179,hF⟩:=bnd hF
   obtain ⟨x183,e184,hF⟩:=bnd hF
   obtain rfl:=sj hF
   replace ok:Ok u m0 (M27 :: [(b44,oc 29 [vs x32.Kind,vs x32.Text,vi x32.From])] :: S) w:=(ok.pk 2 [1,0] rfl (by decide))
   obtain ⟨cs195,c196,M197,M198,M199,ok,hr200,hx201,he202,hh203⟩:=NRow.open h28 e157 ok
   obtain ⟨c204,rfl,h205⟩:=he202
   refine qcp [9,10] (Cls u m0 (M197 :: [(b44,oc 29 [vs x32.Kind,vs x32.Text,vi x32.From])] :: [])) (Cls u m0 ([(b44,oc 29 [vs x32.Kind,vs x32.Text,vi x32.From])] :: [])) (by kernel_rfl) ?_
   intro w hw
   replace ok:=qcD ok hw
   clear hw
   refine qam (cl1 (cq le_m0 ok [0,3] rfl) (cq le_m0 ok [3] rfl)) fun hT=>kt 0 E rfl hT (qad rfl) fun a E=>kt 1 E rfl hT (qad rfl) fun a E=>kt 2 E rfl hT (qeK qcc hr200 hh203 rfl) fun a E=>kt 3 E rfl hT (qca rfl rfl) fun a E=>kt 4 E rfl hT (qad rfl) fun a E=>kt 5 E rfl hT (qad rfl) fun a E=>kt 6 E rfl hT (qeK qcc hr200 hh203 rfl) fun a E=>?_
   refine kt 7 E rfl hT (qca rfl rfl) fun a E=>?_
   obtain ⟨b206,o207,hp208,yy209⟩:=qf5 qcc hr200 hx201 (P:=Tryz.prog) (X:=.tmp 61) (I:=.tmp 64) (kd:=.i64) (qah E rfl) (qah E rfl)
   refine kt 8 E rfl hT (yy209 _ _) fun a E=>?_
   obtain ⟨hl210,hh211⟩:=qdt hr200 hx201 hp208 (by decide)
   refine qbD 9 E rfl (by kernel_rfl) nP hT (qao qfg rfl (qae.crow hh211 0 rfl)) rfl rfl fun a E=>qbD 10 E rfl (by kernel_rfl) nP hT (qat (cs:=[vs x32.Kind,vs x32.Text,vi x32.From]) qfi rfl rfl (qae.cown 1 rfl rfl)) rfl rfl fun a E=>qau [11] (by kernel_rfl) rfl (qax ?_)
   ·refine wo rfl<|qaT (R:=qbM) (xo:=[.tmp 67]) (xs:=([x32]:List (Token))) E ok qcu qdh rfl ⟨⟨_,rfl,rfl,⟨rfl,l41,l42,r43⟩⟩,trivial⟩ rfl rfl rfl rfl fun c212 M213 a w E ok h214=>wn<|qam (cl1 (cq le_m0 ok [1,4] rfl) (cq le_m0 ok [4] rfl)) fun hT=>qau [12] (by kernel_rfl) rfl (qax ?_)
    ·refine wo rfl<|qa3 (R:=qbM) E ok 2 qev qcu Tryz.underlying26 rfl h205 (qaJ.ofRow h214 0 rfl ok) e179 ⟨_,qdh,rfl⟩ rfl rfl rfl rfl fun c215 M216 a w E ok h217=>wn<|qam (cl1 (cq le_m0 ok [1,4] rfl) (cq le_m0 ok [4] rfl)) fun hT=>?_
     obtain ⟨b218,o219,hp220,yy221⟩:=qf5 qcc hr200 hx201 (P:=Tryz.prog) (X:=.tmp 57) (I:=.tmp 60) (kd:=.i64) (qah E rfl) (qah E rfl)
     refine kt 13 E rfl hT (yy221 _ _) fun a E=>qau [14] (by kernel_rfl) rfl (qax ?_)
     ·refine wo rfl<|qgm (f:=0) (c':=[c215]) E ok 1 rfl hr200 hx201 hp220 rfl rfl rfl qlQ (ORow.cells h217) rfl rfl ⟨(ORow.one h217),trivial⟩ rfl ⟨(ORow.one h217),trivial⟩ rfl fun M222 w ok hr223 hx224=>?_
      have hh225:=qdU.set (c':=[c215]) hh203
      refine wn<|qam (cl2 (by kernel_rfl) (cq le_m0 ok [4] rfl)) fun hT=>qbd (by kernel_rfl) ?_
      replace ok:Ok u m0 (M222 :: M216 :: M199 :: M213 :: [(b44,oc 29 [vs x32.Kind,vs x32.Text,vi x32.From])] :: S) w:=(ok.pk 5 [1,2,3,0,4] rfl (by decide))
      obtain ⟨M226,ok,h227⟩:=NRow.close e157 ok hr223 hx224 (show qcF m0 [c215] l178 M216 from ⟨_,rfl,h217⟩) hh225
      exact ⟨rfl,⟨c26,M226,(ok.pk 3 [2,0] rfl (by decide)),E.keep [5,6,7,14,15,16],h227⟩⟩
 replace hF:=qak hc53 hF
 replace E:=E.upd 38 hc53 rfl
 refine mv E rfl fun a E=>lw E (qbt rfl rfl) fun a E=>pt E rfl rfl fun a E=>aw E rfl fun a E=>cf E rfl hF (fun hc54 hF=>?_) fun hc54 hF=>?_
 ·refine sg<|mv E rfl fun a E=>qaT (R:=pRaw) (xo:=[.const (Value.slice none 0 0)]) (xs:=[[(Value.slice none 0 0)]]) E ok qcc qhB rfl ⟨⟨_,rfl,rfl,⟨rfl,⟨rfl,trivial⟩⟩⟩,trivial⟩ rfl rfl rfl rfl fun c55 M56 a w E ok h57=>?_
  replace ok:Ok u m0 (M27 :: M56 :: [(b44,oc 29 [vs x32.Kind,vs x32.Text,vi x32.From])] :: S) w:=(ok.pk 3 [2,0,1] rfl (by decide))
  obtain ⟨l58,e59,hF⟩:=bnd hF
  refine qlZ (R:=qcF) E ok.addnil.swap2 qcc Tryz.underlying129 h28 (qaJ.ofRow h57 1 rfl ok) ⟨_,rfl,ORow.nil⟩ e59 ⟨_,qhB,rfl⟩ rfl rfl rfl rfl fun c60 M61 a w E ok h62=>aw E rfl fun a E=>sg<|av E rfl fun a E=>wpList_nil ?_
  refine qaa<|wp_exit<|qko rfl<|qaB<|qaS<|qaa<|qab<|lw E (qaG rfl rfl (InR.inc r30 (qas h9) hc31)) fun a E=>?_
  refine mv E rfl fun a E=>wpList_nil ?_
  obtain rfl:=sj hF
  exact qay ⟨c60,M61,(ok.pk 3 [0] rfl (by decide)),E.keep [5,6,7,14,15,16],h62,r29,(InR.inc r30 (qas h9) hc31)⟩
 refine sg<|fv E qbY rfl fun a E=>ld E ok qav 0 rfl rfl rfl fun a E=>lw E (qbl rfl rfl) fun a E=>aw E rfl fun a E=>?_
 obtain ⟨o63,hJ,hF⟩:=bnd hF
 refine qbx (Q':=fun e a w=>e = .normal ∧ Ok u m0 ([(b44,oc 29 [vs x32.Kind,vs x32.Text,vi x32.From])] :: M27 :: S) w ∧ Env 72 a [(5,c26),(6,vi o63),(9,vp b44),(14,c8),(15,(vi (l6.length:Int))),(16,vi x_25)] ∧ InR .i64 o63) ?_ ?_
 ·replace hF:=hJ
  clear hJ
  refine cf E rfl hF (fun hc65 hF=>?_) fun hc65 hF=>?_
  ·refine qab<|mv E rfl fun a E=>lw E (qaF rfl rfl) fun a E=>av E rfl fun a E=>wpList_nil ?_
   obtain rfl:=sj hF
   exact ⟨rfl,⟨ok,E.keep [5,6,9,14,15,16],(InR.wrap _ _)⟩⟩
  refine sg<|fv E qbY rfl fun a E=>ld E ok qav 0 rfl rfl rfl fun a E=>lw E (qbl rfl rfl) fun a E=>aw E rfl fun a E=>?_
  refine cf E rfl hF (fun hc66 hF=>?_) fun hc66 hF=>?_
  rotate_left
  ·refine wp_skip ?_
   obtain rfl:=sj hF
   exact ⟨rfl,⟨ok,E.keep [5,6,9,14,15,16],r29⟩⟩
  refine qab<|mv E rfl fun a E=>lw E (qca rfl rfl) fun a E=>av E rfl fun a E=>wpList_nil ?_
  obtain rfl:=sj hF
  exact ⟨rfl,⟨ok,E.keep [5,6,9,14,15,16],(InR.wrap _ _)⟩⟩
 clear hJ
 intro e a w hO
 obtain ⟨rfl,ok,E,r67⟩:=hO
 refine qaq<|qaa<|sg<|aw E rfl fun a E=>?_
 obtain ⟨o68,hJ,hF⟩:=bnd hF
 refine qbx (Q':=fun e a w=>e = .normal ∧ ∃ c69 M70,Ok u m0 ([(b44,oc 29 [vs x32.Kind,vs x32.Text,vi x32.From])] :: M70 :: S) w ∧ Env 72 a [(5,c69),(6,vi o63),(7,vb true),(14,c8),(15,(vi (l6.length:Int))),(16,vi x_25)] ∧ NRow 26 1 qcF m0 c69 o68 M70) ?_ ?_
 rotate_left
 ·clear hJ
  intro e a w hO
  obtain ⟨rfl,c144,M145,ok,E,h146⟩:=hO
  refine qaq<|qaa<|qab<|lw E (qaG rfl rfl (InR.inc r30 (qas h9) hc31)) fun a E=>mv E rfl fun a E=>wpList_nil ?_
  obtain rfl:=sj hF
  exact qay ⟨c144,M145,(ok.pk 2 [1] rfl (by decide)),E.keep [5,6,7,14,15,16],h146,r67,(InR.inc r30 (qas h9) hc31)⟩
 replace hF:=hJ
 clear hJ
 obtain ⟨x72,e73,hF⟩:=bnd hF
 obtain ⟨l94,e95,hF⟩:=bnd hF
 obtain ⟨x99,e100,hF⟩:=bnd hF
 obtain rfl:=sj hF
 replace ok:Ok u m0 (M27 :: [(b44,oc 29 [vs x32.Kind,vs x32.Text,vi x32.From])] :: S) w:=(ok.pk 2 [1,0] rfl (by decide))
 obtain ⟨cs111,c112,M113,M114,M115,ok,hr116,hx117,he118,hh119⟩:=NRow.open h28 e73 ok
 obtain ⟨c120,rfl,h121⟩:=he118
 refine qcp [9,10] (Cls u m0 (M113 :: [(b44,oc 29 [vs x32.Kind,vs x32.Text,vi x32.From])] :: [])) (Cls u m0 ([(b44,oc 29 [vs x32.Kind,vs x32.Text,vi x32.From])] :: [])) (by kernel_rfl) ?_
 intro w hw
 replace ok:=qcD ok hw
 clear hw
 refine qam (cl1 (cq le_m0 ok [0,3] rfl) (cq le_m0 ok [3] rfl)) fun hT=>kt 0 E rfl hT (qad rfl) fun a E=>kt 1 E rfl hT (qad rfl) fun a E=>kt 2 E rfl hT (qeK qcc hr116 hh119 rfl) fun a E=>kt 3 E rfl hT (qca rfl rfl) fun a E=>kt 4 E rfl hT (qad rfl) fun a E=>kt 5 E rfl hT (qad rfl) fun a E=>kt 6 E rfl hT (qeK qcc hr116 hh119 rfl) fun a E=>?_
 refine kt 7 E rfl hT (qca rfl rfl) fun a E=>?_
 obtain ⟨b122,o123,hp124,yy125⟩:=qf5 qcc hr116 hx117 (P:=Tryz.prog) (X:=.tmp 61) (I:=.tmp 64) (kd:=.i64) (qah E rfl) (qah E rfl)
 refine kt 8 E rfl hT (yy125 _ _) fun a E=>?_
 obtain ⟨hl126,hh127⟩:=qdt hr116 hx117 hp124 (by decide)
 refine qbD 9 E rfl (by kernel_rfl) nP hT (qao qfg rfl (qae.crow hh127 0 rfl)) rfl rfl fun a E=>qbD 10 E rfl (by kernel_rfl) nP hT (qat (cs:=[vs x32.Kind,vs x32.Text,vi x32.From]) qfi rfl rfl (qae.cown 1 rfl rfl)) rfl rfl fun a E=>qau [11] (by kernel_rfl) rfl (qax ?_)
 ·refine wo rfl<|qaT (R:=qbM) (xo:=[.tmp 67]) (xs:=([x32]:List (Token))) E ok qcu qdh rfl ⟨⟨_,rfl,rfl,⟨rfl,l41,l42,r43⟩⟩,trivial⟩ rfl rfl rfl rfl fun c128 M129 a w E ok h130=>wn<|qam (cl1 (cq le_m0 ok [1,4] rfl) (cq le_m0 ok [4] rfl)) fun hT=>qau [12] (by kernel_rfl) rfl (qax ?_)
  ·refine wo rfl<|qa3 (R:=qbM) E ok 2 qev qcu Tryz.underlying26 rfl h121 (qaJ.ofRow h130 0 rfl ok) e95 ⟨_,qdh,rfl⟩ rfl rfl rfl rfl fun c131 M132 a w E ok h133=>wn<|qam (cl1 (cq le_m0 ok [1,4] rfl) (cq le_m0 ok [4] rfl)) fun hT=>?_
   obtain ⟨b134,o135,hp136,yy137⟩:=qf5 qcc hr116 hx117 (P:=Tryz.prog) (X:=.tmp 57) (I:=.tmp 60) (kd:=.i64) (qah E rfl) (qah E rfl)
   refine kt 13 E rfl hT (yy137 _ _) fun a E=>qau [14] (by kernel_rfl) rfl (qax ?_)
   ·refine wo rfl<|qgm (f:=0) (c':=[c131]) E ok 1 rfl hr116 hx117 hp136 rfl rfl rfl qlQ (ORow.cells h133) rfl rfl ⟨(ORow.one h133),trivial⟩ rfl ⟨(ORow.one h133),trivial⟩ rfl fun M138 w ok hr139 hx140=>?_
    have hh141:=qdU.set (c':=[c131]) hh119
    refine wn<|qam (cl2 (by kernel_rfl) (cq le_m0 ok [4] rfl)) fun hT=>qbd (by kernel_rfl) ?_
    replace ok:Ok u m0 (M138 :: M132 :: M115 :: M129 :: [(b44,oc 29 [vs x32.Kind,vs x32.Text,vi x32.From])] :: S) w:=(ok.pk 5 [1,2,3,0,4] rfl (by decide))
    obtain ⟨M142,ok,h143⟩:=NRow.close e73 ok hr139 hx140 (show qcF m0 [c131] l94 M132 from ⟨_,rfl,h133⟩) hh141
    exact ⟨rfl,⟨c26,M142,(ok.pk 3 [2,0] rfl (by decide)),E.keep [5,6,7,14,15,16],h143⟩⟩
def ql8 (u:World) (m0:Mem) (S:Segs) (r:(List UInt8) × Bool) (a:Act) (w:World):Prop :=
 Ok u m0 S w ∧ a.defers = [] ∧ RVs Tryz.prog a w [.t 4 (.string (bs r.1)),.t 5 (.bool r.2)] ∧ r.1.length ≤ LIMS
theorem qiK (N:Nat) (vargs_0:Value) (args_0:List (List (Token))) (hargs_0:(pL 1 (pL 3 qbM)) m0 [vargs_0] args_0) (i_1:Int) (ri_1:InR .i64 i_1) {r:(List UInt8) × Bool} (hF:qd0 N args_0 i_1 = some r) (hG:Glob u) (ok:Ok u m0 S w) :
  Calls Tryz.prog 59 [vargs_0,vi i_1].toArray w fun e w'=>(e = .returned (.tuple [(.string (bs r.1)),(.bool r.2)].toArray) ∧ Ok u m0 S w') ∧ r.1.length ≤ LIMS:=by
 unfold qd0 at hF
 refine en (ql8 u m0 S) r Tryz.func59 rfl rfl rfl (by rintro a w ⟨ok,hd,hrv,h0⟩; exact qaM [.t 4 (.string (bs r.1)),.t 5 (.bool r.2)] hd rfl hrv ⟨⟨rfl,ok⟩,h0⟩) fun fin a E=>sg<|av E rfl fun a E=>aw E rfl fun a E=>wp_seq ?_
 refine sg<|mv E rfl fun a E=>mv E rfl fun a E=>lv E ok (qaE qcc hargs_0 rfl) fun a E=>lw E (qbo rfl rfl) fun a E=>wn ?_
 refine cf E rfl hF (fun hc1 hF=>?_) fun hc1 hF=>?_
 ·refine sg<|av E rfl fun a E=>aw E rfl fun a E=>wp_ret<|qag ?_
  exact fin hF ⟨ok,E.d,⟨rv_t E rfl,rv_t E rfl,trivial⟩,(show ([]:List UInt8).length ≤ LIMS by decide)⟩
 refine wp_skip<|qaa<|sg<|mv E rfl fun a E=>mv E rfl fun a E=>?_
 obtain ⟨x2,e3,hF⟩:=bnd hF
 obtain ⟨b4,o5,es6,hl7,rr8,at9,yy10⟩:=qaN qcc hargs_0 e3 (P:=Tryz.prog) (X:=.tmp 10) (I:=.tmp 11) (kd:=.i64) (qah E rfl) (qah E rfl)
 obtain ⟨c11,rfl,h12⟩:=qkP rr8
 refine lv E ok (yy10 _ _) fun a E=>lv E ok (qao qfg rfl (qae.ro at9)) fun a E=>?_
 obtain ⟨r13,e14,hF⟩:=bnd hF
 refine qaz E qt6 rfl (qk7 N _ x2 h12 e14 hG ok) rfl rfl ?_
 rintro _ w ⟨⟨rfl,ok⟩,l15⟩
 refine ⟨_,rfl,fun a E=>?_⟩
 refine lw E (qaw rfl rfl) fun a E=>lw E (qaw rfl rfl) fun a E=>av E rfl fun a E=>aw E rfl fun a E=>wp_ret ?_
 exact fin hF ⟨ok,E.d,⟨rv_t E rfl,rv_t E rfl,trivial⟩,l15⟩
theorem qj1 {u:World} {m0:Mem} {S:Segs} {w:World} (N:Nat) (p0_0:List UInt8) (lp0_0:p0_0.length ≤ LIMS) (p1_1:List UInt8) (lp1_1:p1_1.length ≤ LIMS) {r:(List UInt8)} (hF:qec N p0_0 p1_1 = some r) (hG:Glob u) (ok:Ok u m0 S w) :
 Calls Tryz.prog 83 [vs p0_0,vs p1_1].toArray w fun e w'=>(e = .returned (.string (bs r)) ∧ Ok u m0 S w') ∧ r.length ≤ LIMS:=qna Tryz.lays162 (by kernel_rfl) p0_0 p1_1 hF lp0_0 ok
theorem qkp {u:World} {m0:Mem} {S:Segs} {w:World} (N:Nat) (p0_0:List UInt8) (lp0_0:p0_0.length ≤ LIMS) (p1_1:List UInt8) (lp1_1:p1_1.length ≤ LIMS) {r:(List UInt8)} (hF:qes N p0_0 p1_1 = some r) (hG:Glob u) (ok:Ok u m0 S w) :
 Calls Tryz.prog 84 [vs p0_0,vs p1_1].toArray w fun e w'=>(e = .returned (.string (bs r)) ∧ Ok u m0 S w') ∧ r.length ≤ LIMS:=qnv Tryz.lays161 (by kernel_rfl) p0_0 p1_1 hF lp0_0 ok
def qh8 (u:World) (m0:Mem) (S:Segs) (r:(List UInt8)) (a:Act) (w:World):Prop :=
 Ok u m0 S w ∧ a.defers = [] ∧ RVs Tryz.prog a w [.t 4 (.string (bs r))] ∧ r.length ≤ LIMS
theorem qh5 (N:Nat) (vl_0:Value) (l_0:List (Token)) (hl_0:(pL 3 qbM) m0 [vl_0] l_0) (at_1:Int) (rat_1:InR .i64 at_1) {r:(List UInt8)} (hF:qe4 N l_0 at_1 = some r) (hG:Glob u) (ok:Ok u m0 S w) :
  Calls Tryz.prog 58 [vl_0,vi at_1].toArray w fun e w'=>(e = .returned (.string (bs r)) ∧ Ok u m0 S w') ∧ r.length ≤ LIMS:=by
 unfold qe4 at hF
 refine en (qh8 u m0 S) r Tryz.func58 rfl rfl rfl (by rintro a w ⟨ok,hd,hrv,h0⟩; exact qaM [.t 4 (.string (bs r))] hd rfl hrv ⟨⟨rfl,ok⟩,h0⟩) fun fin a E=>sg<|aw E rfl fun a E=>wp_seq<|wp_seq ?_
 refine qab<|mv E rfl fun a E=>lw E (qca rfl rfl) fun a E=>aw E rfl fun a E=>wp_block ?_
 obtain ⟨o2,hL,hF⟩:=bnd hF
 refine qaO _ (fun (s:Int) a w=>Ok u m0 (S) w ∧ Env 27 a [(0,vl_0),(1,vi s)] ∧ InR .i64 s) (fun (b:(Unit ⊕ ((List UInt8)))) e a w=>(Sum.elim (fun b39=>e = (.exit 0) ∧ Ok u m0 (S) w ∧ Env 27 a []) (fun b40=>e = .ret ∧ qh8 u m0 S b40 a w)) b) ?_ ?_ N _ a w hL ⟨ok,E.keep [0,1],(InR.wrap _ _)⟩
 rotate_left
 ·intro e a w _ hO
  rcases o2 with o2 | o2
  rotate_left
  ·replace hF:=qbf hF
   obtain ⟨rfl,hret⟩:=hO
   refine qan<|qag ?_
   exact fin hF hret
  replace hF:=qbe hF
  obtain ⟨rfl,ok,E⟩:=hO
  refine qaS<|qaa<|sg<|aw E rfl fun a E=>wp_ret ?_
  exact fin hF ⟨ok,E.d,⟨rv_t E rfl,trivial⟩,(show ([]:List UInt8).length ≤ LIMS by decide)⟩
 rintro at_4 a w r ⟨ok,E,r5⟩ hF
 replace hF:qcB N l_0 at_4 = some r:=hF
 unfold qcB at hF
 refine wp_seq<|sg<|mv E rfl fun a E=>lw E (qbo rfl rfl) fun a E=>wn<|cf E rfl hF (fun hc6 hF=>?_) fun hc6 hF=>?_
 rotate_left
 ·refine wp_exit<|qaB ?_
  obtain rfl:=sj hF
  exact so (sl ⟨rfl,⟨ok,E.keep []⟩⟩)
 refine wp_skip<|qaa<|wp_seq<|wp_block<|sg<|mv E rfl fun a E=>mv E rfl fun a E=>?_
 obtain ⟨x7,e8,hF⟩:=bnd hF
 obtain ⟨b9,o10,es11,hl12,rr13,at14,yy15⟩:=qaN qcu hl_0 e8 (P:=Tryz.prog) (X:=.tmp 11) (I:=.tmp 12) (kd:=.i64) (qah E rfl) (qah E rfl)
 obtain ⟨rfl,l16,l17,r18⟩:=rr13
 refine lv E ok (yy15 _ _) fun a E=>fv E qbY rfl fun a E=>lv E ok (qao qav rfl (qae.ro (At.sub 0 1 at14))) fun a E=>wn<|wp_block<|sg ?_
 refine lw E (qbl rfl rfl) fun a E=>aw E rfl fun a E=>cf E rfl hF (fun hc19 hF=>?_) fun hc19 hF=>?_
 ·refine wp_skip<|qaq<|qaq<|qaa<|qab<|mv E rfl fun a E=>lw E (qca rfl rfl) fun a E=>av E rfl fun a E=>?_
  refine wpList_nil ?_
  obtain rfl:=sj hF
  exact qay ⟨ok,E.keep [0,1],(InR.wrap _ _)⟩
 refine sg<|lw E (qbl rfl rfl) fun a E=>aw E rfl fun a E=>cf E rfl hF (fun hc20 hF=>?_) fun hc20 hF=>?_
 rotate_left
 ·refine sg<|aw E rfl fun a E=>wp_ret<|qan<|qan ?_
  refine qag ?_
  obtain rfl:=sj hF
  exact so (sr ⟨rfl,⟨ok,E.d,⟨rv_t E rfl,trivial⟩,(show ([]:List UInt8).length ≤ LIMS by decide)⟩⟩)
 refine sg<|mv E rfl fun a E=>mv E rfl fun a E=>?_
 obtain ⟨x21,e22,hF⟩:=bnd hF
 obtain ⟨b23,o24,es25,hl26,rr27,at28,yy29⟩:=qaN qcu hl_0 e22 (P:=Tryz.prog) (X:=.tmp 20) (I:=.tmp 21) (kd:=.i64) (qah E rfl) (qah E rfl)
 obtain ⟨rfl,l30,l31,r32⟩:=rr27
 refine lv E ok (yy29 _ _) fun a E=>fv E qdL rfl fun a E=>lv E ok (qao qav rfl (qae.ro (At.sub 1 1 at28))) fun a E=>?_
 obtain ⟨r33,e34,hF⟩:=bnd hF
 refine qaz E qt4 rfl (qkp N x21.Text l31 ([47,35,42,32]) (show ([47,35,42,32]:List UInt8).length ≤ LIMS by decide) e34 hG ok) rfl rfl ?_
 rintro _ w ⟨⟨rfl,ok⟩,l35⟩
 refine ⟨_,rfl,fun a E=>?_⟩
 obtain ⟨r36,e37,hF⟩:=bnd hF
 refine qaz E qub rfl (qj1 N r33 l35 ([32]) (show ([32]:List UInt8).length ≤ LIMS by decide) e37 hG ok) rfl rfl ?_
 rintro _ w ⟨⟨rfl,ok⟩,l38⟩
 refine ⟨_,rfl,fun a E=>?_⟩
 refine aw E rfl fun a E=>wp_ret<|qan<|qan<|qag ?_
 obtain rfl:=sj hF
 exact so (sr ⟨rfl,⟨ok,E.d,⟨rv_t E rfl,trivial⟩,l38⟩⟩)
def qlk (u:World) (m0:Mem) (S:Segs) (r:Bool) (a:Act) (w:World):Prop :=
 Ok u m0 S w ∧ a.defers = [] ∧ RVs Tryz.prog a w [.t 2 (.bool r)]
theorem qiY (N:Nat) (s_0:List UInt8) (ls_0:s_0.length ≤ LIMS) {r:Bool} (hF:qgi N s_0 = some r) (hG:Glob u) (ok:Ok u m0 S w) :
  Calls Tryz.prog 48 [vs s_0].toArray w fun e w'=>(e = .returned (.bool r) ∧ Ok u m0 S w'):=by
 unfold qgi at hF
 refine en (qlk u m0 S) r Tryz.func48 rfl rfl rfl (by rintro a w ⟨ok,hd,hrv⟩; exact qaM [.t 2 (.bool r)] hd rfl hrv ⟨rfl,ok⟩) fun fin a E=>sg<|aw E rfl fun a E=>wp_seq<|wp_seq ?_
 refine qab<|mv E rfl fun a E=>lw E (qaV Tryz.underlying9 rfl) fun a E=>mv E rfl fun a E=>wn<|wp_block ?_
 obtain ⟨o2,hL,hF⟩:=bnd hF
 refine qaO _ (fun (s:Int) a w=>Ok u m0 (S) w ∧ Env 28 a [(0,vs s_0),(5,(vi (s_0.length:Int))),(6,vi s)] ∧ InR .i64 s) (fun (b:(Unit ⊕ Bool)) e a w=>(Sum.elim (fun b14=>e = (.exit 0) ∧ Ok u m0 (S) w ∧ Env 28 a [(0,vs s_0)]) (fun b15=>e = .ret ∧ qlk u m0 S b15 a w)) b) ?_ ?_ N _ a w hL ⟨ok,E.keep [0,5,6],(ir 0)⟩
 rotate_left
 ·intro e a w _ hO
  rcases o2 with o2 | o2
  rotate_left
  ·replace hF:=qbf hF
   obtain ⟨rfl,hret⟩:=hO
   refine qan<|qag ?_
   exact fin hF hret
  replace hF:=qbe hF
  obtain ⟨rfl,ok,E⟩:=hO
  refine qaS<|qaa<|sg<|mv E rfl fun a E=>lw E (qaV Tryz.underlying9 rfl) fun a E=>lw E (qbo rfl rfl) fun a E=>mv E rfl fun a E=>?_
  refine qap (decide ((s_0.length:Int) ≥ 1)) (fun hc13=>?_) (fun hc13=>?_)
  ·replace hF:=qak hc13 hF
   replace E:=E.upd 23 hc13 rfl
   refine mv E rfl fun a E=>lw E (qaV Tryz.underlying9 rfl) fun a E=>lw E (qcj rfl rfl) fun a E=>pt E rfl rfl fun a E=>aw E rfl fun a E=>wp_ret ?_
   exact fin hF ⟨ok,E.d,⟨rv_t E rfl,trivial⟩⟩
  replace hF:=qaj hc13 hF
  replace E:=E.upd 23 hc13 rfl
  refine ls E fun a E=>ls E fun a E=>ls E fun a E=>pf E rfl rfl fun a E=>aw E rfl fun a E=>wp_ret ?_
  exact fin hF ⟨ok,E.d,⟨rv_t E rfl,trivial⟩⟩
 rintro x_4 a w r ⟨ok,E,r5⟩ hF
 replace hF:qg9 N s_0 x_4 = some r:=hF
 unfold qg9 at hF
 refine sg<|lw E (qaA rfl rfl) fun a E=>wn<|wp_seq<|cf E rfl hF (fun hc6 hF=>?_) fun hc6 hF=>?_
 rotate_left
 ·refine wp_exit<|qaB ?_
  obtain rfl:=sj hF
  exact so (sl ⟨rfl,⟨ok,E.keep [0]⟩⟩)
 refine wp_skip<|qaa<|wp_seq<|wp_block<|sg<|mv E rfl fun a E=>av E rfl fun a E=>?_
 refine wn<|sg<|mv E rfl fun a E=>mv E rfl fun a E=>?_
 obtain ⟨c7,e8,hF⟩:=bnd hF
 refine lv E ok (qba Tryz.underlying9 rfl rfl e8) fun a E=>lw E (qaA rfl rfl) fun a E=>mv E rfl fun a E=>qap (decide ((c7.toNat:Int) < 97)) (fun hc9=>?_) (fun hc9=>?_)
 ·replace hF:=qak hc9 hF
  replace E:=E.upd 13 hc9 rfl
  refine ls E fun a E=>ls E fun a E=>ls E fun a E=>ls E fun a E=>pt E rfl rfl fun a E=>wn<|c_if E rfl (fun _=>?_) (fun h=>by cases h)
  refine sg<|aw E rfl fun a E=>wp_ret<|qan<|qag ?_
  obtain rfl:=sj hF
  exact so (sr ⟨rfl,⟨ok,E.d,⟨rv_t E rfl,trivial⟩⟩⟩)
 replace hF:=qaj hc9 hF
 replace E:=E.upd 13 hc9 rfl
 refine mv E rfl fun a E=>mv E rfl fun a E=>?_
 obtain ⟨c10,e11,hF⟩:=bnd hF
 refine lv E ok (qba Tryz.underlying9 rfl rfl e11) fun a E=>lw E (qb9 rfl rfl) fun a E=>pf E rfl rfl fun a E=>wn<|cf E rfl hF (fun hc12 hF=>?_) fun hc12 hF=>?_
 rotate_left
 ·refine wp_skip<|qaq<|qaa<|qab<|lw E (qaG rfl rfl (InR.inc r5 (InR.len ls_0) hc6)) fun a E=>mv E rfl fun a E=>wpList_nil ?_
  obtain rfl:=sj hF
  exact qay ⟨ok,E.keep [0,5,6],(InR.inc r5 (InR.len ls_0) hc6)⟩
 refine sg<|aw E rfl fun a E=>wp_ret<|qan<|qag ?_
 obtain rfl:=sj hF
 exact so (sr ⟨rfl,⟨ok,E.d,⟨rv_t E rfl,trivial⟩⟩⟩)
def qoB (u:World) (m0:Mem) (S:Segs) (r:(List UInt8) × Bool) (a:Act) (w:World):Prop :=
 Ok u m0 S w ∧ a.defers = [] ∧ RVs Tryz.prog a w [.t 2 (.string (bs r.1)),.t 3 (.bool r.2)] ∧ r.1.length ≤ LIMS
theorem qli (N:Nat) (vx_0:List Value) (x_0:Item) (hx_0:qbO m0 vx_0 x_0) {r:(List UInt8) × Bool} (hF:qg1 N x_0 = some r) (hG:Glob u) (ok:Ok u m0 S w) :
  Calls Tryz.prog 95 [.agg vx_0.toArray].toArray w fun e w'=>(e = .returned (.tuple [(.string (bs r.1)),(.bool r.2)].toArray) ∧ Ok u m0 S w') ∧ r.1.length ≤ LIMS:=by
 obtain ⟨c2,rfl,l1,h3,r4,r5⟩:=hx_0
 unfold qg1 at hF
 refine en (qoB u m0 S) r Tryz.func95 rfl rfl rfl (by rintro a w ⟨ok,hd,hrv,h0⟩; exact qaM [.t 2 (.string (bs r.1)),.t 3 (.bool r.2)] hd rfl hrv ⟨⟨rfl,ok⟩,h0⟩) fun fin a E=>sg<|qdk E ok rfl rfl rfl fun b6 a w E ok=>av E rfl fun a E=>aw E rfl fun a E=>?_
 refine wp_seq<|sg<|fv E qdn rfl fun a E=>ld E ok qaZ 0 rfl rfl rfl fun a E=>fv E qlo rfl fun a E=>ld E ok qaZ 0 rfl rfl rfl fun a E=>lv E ok (qiw (ps:=[(0,.tmp 5),(1,.tmp 7)]) (qs:=[(0,[vi x_0.Least]),(1,[vi x_0.Most])]) (cs:=[vi x_0.Least,vi x_0.Most]) qip qju rfl ⟨rfl,rfl,rfl,⟨rfl,rfl,rfl,trivial⟩⟩ rfl) fun a E=>?_
 refine wn<|wp_block<|sg<|lv E ok (qiw (ps:=[(0,.const (vi 1)),(1,.const (vi 1))]) (qs:=[(0,[vi 1]),(1,[vi 1])]) (cs:=[vi 1,vi 1]) qip qju rfl ⟨rfl,rfl,rfl,⟨rfl,rfl,rfl,trivial⟩⟩ rfl) fun a E=>lv E ok (qjt qkM (qiJ (is:=[0,1]) Tryz.underlying221 qey (by kernel_rfl) rfl (qhQ (qbC qaZ rfl) (qbC qaZ rfl) (qeI Tryz.underlying3) (qiR (qbC qaZ rfl) (qbC qaZ rfl) (qeI Tryz.underlying3)))) rfl rfl) fun a E=>av E rfl fun a E=>?_
 refine wn<|cf E rfl hF (fun hc7 hF=>?_) fun hc7 hF=>?_
 ·refine sg<|av E rfl fun a E=>aw E rfl fun a E=>wp_ret<|qan ?_
  refine qag ?_
  exact fin hF ⟨ok.drop,E.d,⟨rv_t E rfl,rv_t E rfl,trivial⟩,(show ([]:List UInt8).length ≤ LIMS by decide)⟩
 refine sg<|lv E ok (qiw (ps:=[(0,.const (vi 0)),(1,.const (vi 1))]) (qs:=[(0,[vi 0]),(1,[vi 1])]) (cs:=[vi 0,vi 1]) qip qju rfl ⟨rfl,rfl,rfl,⟨rfl,rfl,rfl,trivial⟩⟩ rfl) fun a E=>lv E ok (qjt qkM (qiJ (is:=[0,1]) Tryz.underlying221 qey (by kernel_rfl) rfl (qhQ (qbC qaZ rfl) (qbC qaZ rfl) (qeI Tryz.underlying3) (qiR (qbC qaZ rfl) (qbC qaZ rfl) (qeI Tryz.underlying3)))) rfl rfl) fun a E=>aw E rfl fun a E=>cf E rfl hF (fun hc8 hF=>?_) fun hc8 hF=>?_
 ·refine sg<|av E rfl fun a E=>aw E rfl fun a E=>wp_ret<|qan ?_
  refine qag ?_
  exact fin hF ⟨ok.drop,E.d,⟨rv_t E rfl,rv_t E rfl,trivial⟩,(show ([63]:List UInt8).length ≤ LIMS by decide)⟩
 refine sg<|lv E ok (qiw (ps:=[(0,.const (vi 0)),(1,.const (vi (-1)))]) (qs:=[(0,[vi 0]),(1,[(vi (-1))])]) (cs:=[vi 0,(vi (-1))]) qip qju rfl ⟨rfl,rfl,rfl,⟨rfl,rfl,rfl,trivial⟩⟩ rfl) fun a E=>lv E ok (qjt qkM (qiJ (is:=[0,1]) Tryz.underlying221 qey (by kernel_rfl) rfl (qhQ (qbC qaZ rfl) (qbC qaZ rfl) (qeI Tryz.underlying3) (qiR (qbC qaZ rfl) (qbC qaZ rfl) (qeI Tryz.underlying3)))) rfl rfl) fun a E=>aw E rfl fun a E=>cf E rfl hF (fun hc9 hF=>?_) fun hc9 hF=>?_
 ·refine sg<|av E rfl fun a E=>aw E rfl fun a E=>wp_ret<|qan ?_
  refine qag ?_
  exact fin hF ⟨ok.drop,E.d,⟨rv_t E rfl,rv_t E rfl,trivial⟩,(show ([42]:List UInt8).length ≤ LIMS by decide)⟩
 refine sg<|lv E ok (qiw (ps:=[(0,.const (vi 1)),(1,.const (vi (-1)))]) (qs:=[(0,[vi 1]),(1,[(vi (-1))])]) (cs:=[vi 1,(vi (-1))]) qip qju rfl ⟨rfl,rfl,rfl,⟨rfl,rfl,rfl,trivial⟩⟩ rfl) fun a E=>lv E ok (qjt qkM (qiJ (is:=[0,1]) Tryz.underlying221 qey (by kernel_rfl) rfl (qhQ (qbC qaZ rfl) (qbC qaZ rfl) (qeI Tryz.underlying3) (qiR (qbC qaZ rfl) (qbC qaZ rfl) (qeI Tryz.underlying3)))) rfl rfl) fun a E=>aw E rfl fun a E=>cf E rfl hF (fun hc10 hF=>?_) fun hc10 hF=>?_
 ·refine sg<|av E rfl fun a E=>aw E rfl fun a E=>wp_ret<|qan ?_
  refine qag ?_
  exact fin hF ⟨ok.drop,E.d,⟨rv_t E rfl,rv_t E rfl,trivial⟩,(show ([43]:List UInt8).length ≤ LIMS by decide)⟩
 refine wp_skip<|qaq<|qaa<|sg<|av E rfl fun a E=>av E rfl fun a E=>wpList_nil ?_
 refine qaa<|wp_ret ?_
 exact fin hF ⟨ok.drop,E.d,⟨rv_t E rfl,rv_t E rfl,trivial⟩,(show ([]:List UInt8).length ≤ LIMS by decide)⟩
def ql0 (u:World) (m0:Mem) (S:Segs) (r:Bool) (a:Act) (w:World):Prop :=
 Ok u m0 S w ∧ a.defers = [] ∧ RVs Tryz.prog a w [.t 2 (.bool r)]
theorem qlM (N:Nat) (vr_0:List Value) (r_0:Range) (hr_0:qbK m0 vr_0 r_0) {r:Bool} (hF:qgV N r_0 = some r) (hG:Glob u) (ok:Ok u m0 S w) :
  Calls Tryz.prog 97 [.agg vr_0.toArray].toArray w fun e w'=>(e = .returned (.bool r) ∧ Ok u m0 S w'):=by
 obtain ⟨rfl,r1,r2⟩:=hr_0
 unfold qgV at hF
 refine en (ql0 u m0 S) r Tryz.func97 rfl rfl rfl (by rintro a w ⟨ok,hd,hrv⟩; exact qaM [.t 2 (.bool r)] hd rfl hrv ⟨rfl,ok⟩) fun fin a E=>sg<|qdk E ok rfl rfl rfl fun b3 a w E ok=>aw E rfl fun a E=>wp_seq ?_
 refine qab<|fv E qjS rfl fun a E=>ld E ok qfb 0 rfl rfl rfl fun a E=>fv E qjO rfl fun a E=>ld E ok qfb 0 rfl rfl rfl fun a E=>lw E (qb9 rfl rfl) fun a E=>av E rfl fun a E=>wpList_nil ?_
 refine qaa<|wp_ret ?_
 exact fin hF ⟨ok.drop,E.d,⟨rv_t E rfl,trivial⟩⟩
def qc1 (u:World) (m0:Mem) (S:Segs) (r:Int) (a:Act) (w:World):Prop :=
 Ok u m0 S w ∧ a.defers = [] ∧ RVs Tryz.prog a w [.t 4 (.int .i64 r)] ∧ InR .i64 r
theorem qe5 (N:Nat) (vs_0:Value) (s_0:List (Range)) (hs_0:(pL 2 qbK) m0 [vs_0] s_0) {r:Int} (hF:qbN N s_0 = some r) (hG:Glob u) (ok:Ok u m0 S w) :
  Calls Tryz.prog 122 [vs_0,.func (.func 97) #[] #[]].toArray w fun e w'=>(e = .returned (.int .i64 r) ∧ Ok u m0 S w') ∧ InR .i64 r:=by
 unfold qbN at hF
 refine en (qc1 u m0 S) r Tryz.func122 rfl rfl rfl (by rintro a w ⟨ok,hd,hrv,h0⟩; exact qaM [.t 4 (.int .i64 r)] hd rfl hrv ⟨⟨rfl,ok⟩,h0⟩) fun fin a E=>sg<|aw E rfl fun a E=>wp_seq<|wp_seq ?_
 refine qab<|mv E rfl fun a E=>lv E ok (qaE qgs hs_0 rfl) fun a E=>mv E rfl fun a E=>wn<|wp_block ?_
 obtain ⟨o2,hL,hF⟩:=bnd hF
 refine qaO _ (fun (s:Int) a w=>Ok u m0 (S) w ∧ Env 19 a [(0,vs_0),(1,(Value.func (.func 97) #[] #[])),(7,(vi (s_0.length:Int))),(8,vi s)] ∧ InR .i64 s) (fun (b:(Unit ⊕ Int)) e a w=>(Sum.elim (fun b21=>e = (.exit 0) ∧ Ok u m0 (S) w ∧ Env 19 a []) (fun b22=>e = .ret ∧ qc1 u m0 S b22 a w)) b) ?_ ?_ N _ a w hL ⟨ok,E.keep [0,1,7,8],(ir 0)⟩
 rotate_left
 ·intro e a w _ hO
  rcases o2 with o2 | o2
  rotate_left
  ·replace hF:=qbf hF
   obtain ⟨rfl,hret⟩:=hO
   refine qan<|qag ?_
   exact fin hF hret
  replace hF:=qbe hF
  obtain ⟨rfl,ok,E⟩:=hO
  refine qaS<|qaa<|sg<|aw E rfl fun a E=>wp_ret ?_
  exact fin hF ⟨ok,E.d,⟨rv_t E rfl,trivial⟩,(ir (-1))⟩
 rintro x_4 a w r ⟨ok,E,r5⟩ hF
 replace hF:qbg N s_0 x_4 = some r:=hF
 unfold qbg at hF
 refine sg<|lw E (qaA rfl rfl) fun a E=>wn<|wp_seq<|cf E rfl hF (fun hc6 hF=>?_) fun hc6 hF=>?_
 rotate_left
 ·refine wp_exit<|qaB ?_
  obtain rfl:=sj hF
  exact so (sl ⟨rfl,⟨ok,E.keep []⟩⟩)
 refine wp_skip<|qaa<|wp_seq<|wp_block<|sg<|mv E rfl fun a E=>av E rfl fun a E=>?_
 refine wn<|sg<|mv E rfl fun a E=>mv E rfl fun a E=>mv E rfl fun a E=>?_
 obtain ⟨x7,e8,hF⟩:=bnd hF
 obtain ⟨b9,o10,es11,hl12,rr13,at14,yy15⟩:=qaN qgs hs_0 e8 (P:=Tryz.prog) (X:=.tmp 12) (I:=.tmp 13) (kd:=.i64) (qah E rfl) (qah E rfl)
 obtain ⟨rfl,r16,r17⟩:=rr13
 refine lv E ok (yy15 _ _) fun a E=>lv E ok (qat (cs:=[(Value.int .u8 x7.From),(Value.int .u8 x7.To)]) qmG rfl rfl (qae.ro at14)) fun a E=>?_
 obtain ⟨r18,e19,hF⟩:=bnd hF
 refine qoQ E rfl qtK rfl (qlM N _ x7 ⟨rfl,r16,r17⟩ e19 hG ok) rfl rfl ?_
 rintro _ w ⟨rfl,ok⟩
 refine ⟨_,rfl,fun a E=>?_⟩
 refine wn<|cf E rfl hF (fun hc20 hF=>?_) fun hc20 hF=>?_
 rotate_left
 ·refine wp_skip<|qaq<|qaa<|qab<|lw E (qaG rfl rfl (InR.inc r5 (qas hs_0) hc6)) fun a E=>mv E rfl fun a E=>wpList_nil ?_
  obtain rfl:=sj hF
  exact qay ⟨ok,E.keep [0,1,7,8],(InR.inc r5 (qas hs_0) hc6)⟩
 refine sg<|mv E rfl fun a E=>aw E rfl fun a E=>wp_ret<|qan ?_
 refine qag ?_
 obtain rfl:=sj hF
 exact so (sr ⟨rfl,⟨ok,E.d,⟨rv_t E rfl,trivial⟩,r5⟩⟩)
def qeA (u:World) (m0:Mem) (S:Segs) (r:Bool) (a:Act) (w:World):Prop :=
 Ok u m0 S w ∧ a.defers = [] ∧ RVs Tryz.prog a w [.t 4 (.bool r)]
theorem qeB (N:Nat) (vs_0:Value) (s_0:List (Range)) (hs_0:(pL 2 qbK) m0 [vs_0] s_0) {r:Bool} (hF:qbu N s_0 = some r) (hG:Glob u) (ok:Ok u m0 S w) :
  Calls Tryz.prog 96 [vs_0,.func (.func 97) #[] #[]].toArray w fun e w'=>(e = .returned (.bool r) ∧ Ok u m0 S w'):=by
 unfold qbu at hF
 refine en (qeA u m0 S) r Tryz.func96 rfl rfl rfl (by rintro a w ⟨ok,hd,hrv⟩; exact qaM [.t 4 (.bool r)] hd rfl hrv ⟨rfl,ok⟩) fun fin a E=>sg<|aw E rfl fun a E=>sg ?_
 refine mv E rfl fun a E=>mv E rfl fun a E=>?_
 obtain ⟨r1,e2,hF⟩:=bnd hF
 refine qaz E qpQ rfl (qe5 N _ s_0 hs_0 e2 hG ok) rfl rfl ?_
 rintro _ w ⟨⟨rfl,ok⟩,r3⟩
 refine ⟨_,rfl,fun a E=>?_⟩
 refine lw E (qbo rfl rfl) fun a E=>aw E rfl fun a E=>wp_ret ?_
 exact fin hF ⟨ok,E.d,⟨rv_t E rfl,trivial⟩⟩
def qnd (u:World) (m0:Mem) (S:Segs) (r:Bool) (a:Act) (w:World):Prop :=
 Ok u m0 S w ∧ a.defers = [] ∧ RVs Tryz.prog a w [.t 2 (.bool r)]
theorem qm8 (N:Nat) (vx_0:List Value) (x_0:Item) (hx_0:qbO m0 vx_0 x_0) {r:Bool} (hF:qgO N x_0 = some r) (hG:Glob u) (ok:Ok u m0 S w) :
  Calls Tryz.prog 79 [.agg vx_0.toArray].toArray w fun e w'=>(e = .returned (.bool r) ∧ Ok u m0 S w'):=by
 obtain ⟨c2,rfl,l1,h3,r4,r5⟩:=hx_0
 unfold qgO at hF
 refine en (qnd u m0 S) r Tryz.func79 rfl rfl rfl (by rintro a w ⟨ok,hd,hrv⟩; exact qaM [.t 2 (.bool r)] hd rfl hrv ⟨rfl,ok⟩) fun fin a E=>sg<|qdk E ok rfl rfl rfl fun b6 a w E ok=>aw E rfl fun a E=>wp_seq ?_
 refine sg<|lv E ok (qat (cs:=[vs x_0.Text,c2,vb x_0.Not,vi x_0.Least,vi x_0.Most]) qfn rfl rfl (qae.own 0 rfl rfl)) fun a E=>?_
 obtain ⟨r7,e8,hF⟩:=bnd hF
 refine qaz E qrE rfl (qli N _ x_0 ⟨_,rfl,l1,h3,r4,r5⟩ e8 hG ok) rfl rfl ?_
 rintro _ w ⟨⟨rfl,ok⟩,l9⟩
 refine ⟨_,rfl,fun a E=>?_⟩
 refine mv E rfl fun a E=>lw E (qaw rfl rfl) fun a E=>lw E (qaw rfl rfl) fun a E=>av E rfl fun a E=>aw E rfl fun a E=>wp_seq ?_
 refine qab<|mv E rfl fun a E=>lw E (qbQ rfl) fun a E=>wn<|cf E rfl hF (fun hc10 hF=>?_) fun hc10 hF=>?_
 ·refine sg<|aw E rfl fun a E=>wp_ret<|qag ?_
  exact fin hF ⟨ok.drop,E.d,⟨rv_t E rfl,trivial⟩⟩
 refine wp_skip<|qaa<|wp_seq<|sg<|fv E qcN rfl fun a E=>ld E ok qav 0 rfl rfl rfl fun a E=>lw E (qcn rfl rfl) fun a E=>?_
 refine wn<|cf E rfl hF (fun hc11 hF=>?_) fun hc11 hF=>?_
 ·refine sg<|fv E qcN rfl fun a E=>ld E ok qav 0 rfl rfl rfl fun a E=>lw E (qaV Tryz.underlying9 rfl) fun a E=>lw E (qcj rfl rfl) fun a E=>mv E rfl fun a E=>qap (decide ((x_0.Text.length:Int) ≤ 40)) (fun hc12=>?_) (fun hc12=>?_)
  rotate_left
  ·replace hF:=qaj hc12 hF
   replace E:=E.upd 19 hc12 rfl
   refine ls E fun a E=>ls E fun a E=>ls E fun a E=>ls E fun a E=>pf E rfl rfl fun a E=>mv E rfl fun a E=>ls E fun a E=>ls E fun a E=>?_
   refine ls E fun a E=>pf E rfl rfl fun a E=>aw E rfl fun a E=>wp_ret<|qag ?_
   exact fin hF ⟨ok.drop,E.d,⟨rv_t E rfl,trivial⟩⟩
  replace hF:=qak hc12 hF
  replace E:=E.upd 19 hc12 rfl
  refine fv E qgd rfl fun a E=>ld E ok qhE 0 rfl rfl rfl fun a E=>lv E ok (qaE qgs h3 rfl) fun a E=>lw E (qbt rfl rfl) fun a E=>pt E rfl rfl fun a E=>mv E rfl fun a E=>qap ((x_0.Ranges.length:Int) == 0) (fun hc13=>?_) (fun hc13=>?_)
  ·replace hF:=qak hc13 hF
   replace E:=E.upd 25 hc13 rfl
   refine fv E qlB rfl fun a E=>ld E ok qhi 0 rfl rfl rfl fun a E=>lw E (qbQ rfl) fun a E=>pt E rfl rfl fun a E=>aw E rfl fun a E=>wp_ret ?_
   refine qag ?_
   exact fin hF ⟨ok.drop,E.d,⟨rv_t E rfl,trivial⟩⟩
  replace hF:=qaj hc13 hF
  replace E:=E.upd 25 hc13 rfl
  refine ls E fun a E=>ls E fun a E=>ls E fun a E=>pf E rfl rfl fun a E=>aw E rfl fun a E=>wp_ret ?_
  refine qag ?_
  exact fin hF ⟨ok.drop,E.d,⟨rv_t E rfl,trivial⟩⟩
 refine wp_skip<|qaa<|sg<|fv E qgd rfl fun a E=>ld E ok qhE 0 rfl rfl rfl fun a E=>lv E ok (qaE qgs h3 rfl) fun a E=>lw E (qbo rfl rfl) fun a E=>?_
 refine mv E rfl fun a E=>qap (decide ((x_0.Ranges.length:Int) ≥ 1)) (fun hc14=>?_) (fun hc14=>?_)
 rotate_left
 ·replace hF:=qaj hc14 hF
  replace E:=E.upd 34 hc14 rfl
  refine ls E fun a E=>ls E fun a E=>ls E fun a E=>ls E fun a E=>pf E rfl rfl fun a E=>mv E rfl fun a E=>ls E fun a E=>ls E fun a E=>?_
  refine ls E fun a E=>ls E fun a E=>pf E rfl rfl fun a E=>aw E rfl fun a E=>wp_ret ?_
  exact fin hF ⟨ok.drop,E.d,⟨rv_t E rfl,trivial⟩⟩
 replace hF:=qak hc14 hF
 replace E:=E.upd 34 hc14 rfl
 refine fv E qgd rfl fun a E=>ld E ok qhE 0 rfl rfl rfl fun a E=>lv E ok (qaE qgs h3 rfl) fun a E=>lw E (qcj rfl rfl) fun a E=>pt E rfl rfl fun a E=>mv E rfl fun a E=>qap (decide ((x_0.Ranges.length:Int) ≤ 20)) (fun hc15=>?_) (fun hc15=>?_)
 rotate_left
 ·replace hF:=qaj hc15 hF
  replace E:=E.upd 40 hc15 rfl
  refine ls E fun a E=>ls E fun a E=>ls E fun a E=>ls E fun a E=>pf E rfl rfl fun a E=>aw E rfl fun a E=>?_
  refine wp_ret ?_
  exact fin hF ⟨ok.drop,E.d,⟨rv_t E rfl,trivial⟩⟩
 replace hF:=qak hc15 hF
 replace E:=E.upd 40 hc15 rfl
 refine fv E qgd rfl fun a E=>ld E ok qhE 0 rfl rfl rfl fun a E=>?_
 obtain ⟨r16,e17,hF⟩:=bnd hF
 refine lc E qrU rfl (qeB N _ x_0.Ranges h3 e17 hG ok) fun w ok a E=>lw E (qbQ rfl) fun a E=>pt E rfl rfl fun a E=>aw E rfl fun a E=>wp_ret ?_
 exact fin hF ⟨ok.drop,E.d,⟨rv_t E rfl,trivial⟩⟩
def qmB (u:World) (m0:Mem) (S:Segs) (r:Bool) (a:Act) (w:World):Prop :=
 Ok u m0 S w ∧ a.defers = [] ∧ RVs Tryz.prog a w [.t 2 (.bool r)]
theorem qmE (N:Nat) (vx_0:List Value) (x_0:Item) (hx_0:qbO m0 vx_0 x_0) {r:Bool} (hF:qha N x_0 = some r) (hG:Glob u) (ok:Ok u m0 S w) :
  Calls Tryz.prog 78 [.agg vx_0.toArray].toArray w fun e w'=>(e = .returned (.bool r) ∧ Ok u m0 S w'):=by
 obtain ⟨c2,rfl,l1,h3,r4,r5⟩:=hx_0
 unfold qha at hF
 refine en (qmB u m0 S) r Tryz.func78 rfl rfl rfl (by rintro a w ⟨ok,hd,hrv⟩; exact qaM [.t 2 (.bool r)] hd rfl hrv ⟨rfl,ok⟩) fun fin a E=>sg<|qdk E ok rfl rfl rfl fun b6 a w E ok=>aw E rfl fun a E=>wp_seq ?_
 refine qab<|lv E ok (qat (cs:=[vs x_0.Text,c2,vb x_0.Not,vi x_0.Least,vi x_0.Most]) qfn rfl rfl (qae.own 0 rfl rfl)) fun a E=>?_
 obtain ⟨r7,e8,hF⟩:=bnd hF
 refine lc E qun rfl (qm8 N _ x_0 ⟨_,rfl,l1,h3,r4,r5⟩ e8 hG ok) fun w ok a E=>lw E (qbQ rfl) fun a E=>aw E rfl fun a E=>wp_ret ?_
 exact fin hF ⟨ok.drop,E.d,⟨rv_t E rfl,trivial⟩⟩
def qdd (u:World) (m0:Mem) (S:Segs) (r:Int) (a:Act) (w:World):Prop :=
 Ok u m0 S w ∧ a.defers = [] ∧ RVs Tryz.prog a w [.t 4 (.int .i64 r)] ∧ InR .i64 r
theorem qfk (N:Nat) (vs_0:Value) (s_0:List (Item)) (hs_0:(pL 5 qbO) m0 [vs_0] s_0) {r:Int} (hF:qbT N s_0 = some r) (hG:Glob u) (ok:Ok u m0 S w) :
  Calls Tryz.prog 94 [vs_0,.func (.func 78) #[] #[]].toArray w fun e w'=>(e = .returned (.int .i64 r) ∧ Ok u m0 S w') ∧ InR .i64 r:=by
 unfold qbT at hF
 refine en (qdd u m0 S) r Tryz.func94 rfl rfl rfl (by rintro a w ⟨ok,hd,hrv,h0⟩; exact qaM [.t 4 (.int .i64 r)] hd rfl hrv ⟨⟨rfl,ok⟩,h0⟩) fun fin a E=>sg<|aw E rfl fun a E=>wp_seq<|wp_seq ?_
 refine qab<|mv E rfl fun a E=>lv E ok (qaE qep hs_0 rfl) fun a E=>mv E rfl fun a E=>wn<|wp_block ?_
 obtain ⟨o2,hL,hF⟩:=bnd hF
 refine qaO _ (fun (s:Int) a w=>Ok u m0 (S) w ∧ Env 19 a [(0,vs_0),(1,(Value.func (.func 78) #[] #[])),(7,(vi (s_0.length:Int))),(8,vi s)] ∧ InR .i64 s) (fun (b:(Unit ⊕ Int)) e a w=>(Sum.elim (fun b24=>e = (.exit 0) ∧ Ok u m0 (S) w ∧ Env 19 a []) (fun b25=>e = .ret ∧ qdd u m0 S b25 a w)) b) ?_ ?_ N _ a w hL ⟨ok,E.keep [0,1,7,8],(ir 0)⟩
 rotate_left
 ·intro e a w _ hO
  rcases o2 with o2 | o2
  rotate_left
  ·replace hF:=qbf hF
   obtain ⟨rfl,hret⟩:=hO
   refine qan<|qag ?_
   exact fin hF hret
  replace hF:=qbe hF
  obtain ⟨rfl,ok,E⟩:=hO
  refine qaS<|qaa<|sg<|aw E rfl fun a E=>wp_ret ?_
  exact fin hF ⟨ok,E.d,⟨rv_t E rfl,trivial⟩,(ir (-1))⟩
 rintro x_4 a w r ⟨ok,E,r5⟩ hF
 replace hF:qbj N s_0 x_4 = some r:=hF
 unfold qbj at hF
 refine sg<|lw E (qaA rfl rfl) fun a E=>wn<|wp_seq<|cf E rfl hF (fun hc6 hF=>?_) fun hc6 hF=>?_
 rotate_left
 ·refine wp_exit<|qaB ?_
  obtain rfl:=sj hF
  exact so (sl ⟨rfl,⟨ok,E.keep []⟩⟩)
 refine wp_skip<|qaa<|wp_seq<|wp_block<|sg<|mv E rfl fun a E=>av E rfl fun a E=>?_
 refine wn<|sg<|mv E rfl fun a E=>mv E rfl fun a E=>mv E rfl fun a E=>?_
 obtain ⟨x7,e8,hF⟩:=bnd hF
 obtain ⟨b9,o10,es11,hl12,rr13,at14,yy15⟩:=qaN qep hs_0 e8 (P:=Tryz.prog) (X:=.tmp 12) (I:=.tmp 13) (kd:=.i64) (qah E rfl) (qah E rfl)
 obtain ⟨c17,rfl,l16,h18,r19,r20⟩:=rr13
 refine lv E ok (yy15 _ _) fun a E=>lv E ok (qat (cs:=[vs x7.Text,c17,vb x7.Not,vi x7.Least,vi x7.Most]) qfn rfl rfl (qae.ro at14)) fun a E=>?_
 obtain ⟨r21,e22,hF⟩:=bnd hF
 refine qoQ E rfl qul rfl (qmE N _ x7 ⟨_,rfl,l16,h18,r19,r20⟩ e22 hG ok) rfl rfl ?_
 rintro _ w ⟨rfl,ok⟩
 refine ⟨_,rfl,fun a E=>?_⟩
 refine wn<|cf E rfl hF (fun hc23 hF=>?_) fun hc23 hF=>?_
 rotate_left
 ·refine wp_skip<|qaq<|qaa<|qab<|lw E (qaG rfl rfl (InR.inc r5 (qas hs_0) hc6)) fun a E=>mv E rfl fun a E=>wpList_nil ?_
  obtain rfl:=sj hF
  exact qay ⟨ok,E.keep [0,1,7,8],(InR.inc r5 (qas hs_0) hc6)⟩
 refine sg<|mv E rfl fun a E=>aw E rfl fun a E=>wp_ret<|qan ?_
 refine qag ?_
 obtain rfl:=sj hF
 exact so (sr ⟨rfl,⟨ok,E.d,⟨rv_t E rfl,trivial⟩,r5⟩⟩)
def qeX (u:World) (m0:Mem) (S:Segs) (r:Bool) (a:Act) (w:World):Prop :=
 Ok u m0 S w ∧ a.defers = [] ∧ RVs Tryz.prog a w [.t 4 (.bool r)]
theorem qcQ (N:Nat) (vs_0:Value) (s_0:List (Item)) (hs_0:(pL 5 qbO) m0 [vs_0] s_0) {r:Bool} (hF:qa6 N s_0 = some r) (hG:Glob u) (ok:Ok u m0 S w) :
  Calls Tryz.prog 77 [vs_0,.func (.func 78) #[] #[]].toArray w fun e w'=>(e = .returned (.bool r) ∧ Ok u m0 S w'):=by
 unfold qa6 at hF
 refine en (qeX u m0 S) r Tryz.func77 rfl rfl rfl (by rintro a w ⟨ok,hd,hrv⟩; exact qaM [.t 4 (.bool r)] hd rfl hrv ⟨rfl,ok⟩) fun fin a E=>sg<|aw E rfl fun a E=>sg ?_
 refine mv E rfl fun a E=>mv E rfl fun a E=>?_
 obtain ⟨r1,e2,hF⟩:=bnd hF
 refine qaz E qut rfl (qfk N _ s_0 hs_0 e2 hG ok) rfl rfl ?_
 rintro _ w ⟨⟨rfl,ok⟩,r3⟩
 refine ⟨_,rfl,fun a E=>?_⟩
 refine lw E (qbo rfl rfl) fun a E=>aw E rfl fun a E=>wp_ret ?_
 exact fin hF ⟨ok,E.d,⟨rv_t E rfl,trivial⟩⟩
def qnX (u:World) (m0:Mem) (S:Segs) (r:Bool) (a:Act) (w:World):Prop :=
 Ok u m0 S w ∧ a.defers = [] ∧ RVs Tryz.prog a w [.t 2 (.bool r)]
theorem qn1 (N:Nat) (vr_0:List Value) (r_0:Rule) (hr_0:qdv m0 vr_0 r_0) {r:Bool} (hF:qhj N r_0 = some r) (hG:Glob u) (ok:Ok u m0 S w) :
  Calls Tryz.prog 49 [.agg vr_0.toArray].toArray w fun e w'=>(e = .returned (.bool r) ∧ Ok u m0 S w'):=by
 obtain ⟨c2,rfl,l1,h3,l4⟩:=hr_0
 unfold qhj at hF
 refine en (qnX u m0 S) r Tryz.func49 rfl rfl rfl (by rintro a w ⟨ok,hd,hrv⟩; exact qaM [.t 2 (.bool r)] hd rfl hrv ⟨rfl,ok⟩) fun fin a E=>sg<|qdk E ok rfl rfl rfl fun b5 a w E ok=>aw E rfl fun a E=>wp_seq ?_
 refine qab<|fv E qly rfl fun a E=>ld E ok qav 0 rfl rfl rfl fun a E=>?_
 obtain ⟨r6,e7,hF⟩:=bnd hF
 refine lc E qpq rfl (qiY N r_0.Kind l1 e7 hG ok) fun w ok a E=>mv E rfl fun a E=>qap r6 (fun hc8=>?_) (fun hc8=>?_)
 rotate_left
 ·replace hF:=qaj hc8 hF
  replace E:=E.upd 6 hc8 rfl
  refine ls E fun a E=>ls E fun a E=>ls E fun a E=>ls E fun a E=>ls E fun a E=>ls E fun a E=>ls E fun a E=>ls E fun a E=>?_
  refine pf E rfl rfl fun a E=>mv E rfl fun a E=>ls E fun a E=>ls E fun a E=>ls E fun a E=>ls E fun a E=>pf E rfl rfl fun a E=>mv E rfl fun a E=>?_
  refine ls E fun a E=>ls E fun a E=>ls E fun a E=>ls E fun a E=>pf E rfl rfl fun a E=>mv E rfl fun a E=>ls E fun a E=>ls E fun a E=>?_
  refine ls E fun a E=>ls E fun a E=>pf E rfl rfl fun a E=>aw E rfl fun a E=>wp_ret ?_
  exact fin hF ⟨ok.drop,E.d,⟨rv_t E rfl,trivial⟩⟩
 replace hF:=qak hc8 hF
 replace E:=E.upd 6 hc8 rfl
 refine fv E qgt rfl fun a E=>ld E ok qav 0 rfl rfl rfl fun a E=>lw E (qbl rfl rfl) fun a E=>mv E rfl fun a E=>qap (r_0.Next == ([])) (fun hc9=>?_) (fun hc9=>?_)
 ·replace hF:=qak hc9 hF
  replace E:=E.upd 10 hc9 rfl
  refine ls E fun a E=>ls E fun a E=>ls E fun a E=>pt E rfl rfl fun a E=>pt E rfl rfl fun a E=>mv E rfl fun a E=>fv E qfI rfl fun a E=>ld E ok qgB 0 rfl rfl rfl fun a E=>?_
  refine lv E ok (qaE qep h3 rfl) fun a E=>lw E (qbo rfl rfl) fun a E=>pt E rfl rfl fun a E=>mv E rfl fun a E=>qap (decide ((r_0.Items.length:Int) ≥ 1)) (fun hc10=>?_) (fun hc10=>?_)
  rotate_left
  ·replace hF:=qaj hc10 hF
   replace E:=E.upd 22 hc10 rfl
   refine ls E fun a E=>ls E fun a E=>ls E fun a E=>ls E fun a E=>pf E rfl rfl fun a E=>mv E rfl fun a E=>ls E fun a E=>ls E fun a E=>?_
   refine ls E fun a E=>ls E fun a E=>pf E rfl rfl fun a E=>aw E rfl fun a E=>wp_ret ?_
   exact fin hF ⟨ok.drop,E.d,⟨rv_t E rfl,trivial⟩⟩
  replace hF:=qak hc10 hF
  replace E:=E.upd 22 hc10 rfl
  refine fv E qfI rfl fun a E=>ld E ok qgB 0 rfl rfl rfl fun a E=>lv E ok (qaE qep h3 rfl) fun a E=>lw E (qcj rfl rfl) fun a E=>pt E rfl rfl fun a E=>mv E rfl fun a E=>qap (decide ((r_0.Items.length:Int) ≤ 20)) (fun hc11=>?_) (fun hc11=>?_)
  rotate_left
  ·replace hF:=qaj hc11 hF
   replace E:=E.upd 28 hc11 rfl
   refine ls E fun a E=>ls E fun a E=>ls E fun a E=>ls E fun a E=>pf E rfl rfl fun a E=>aw E rfl fun a E=>?_
   refine wp_ret ?_
   exact fin hF ⟨ok.drop,E.d,⟨rv_t E rfl,trivial⟩⟩
  replace hF:=qak hc11 hF
  replace E:=E.upd 28 hc11 rfl
  refine fv E qfI rfl fun a E=>ld E ok qgB 0 rfl rfl rfl fun a E=>?_
  obtain ⟨r12,e13,hF⟩:=bnd hF
  refine lc E qrS rfl (qcQ N _ r_0.Items h3 e13 hG ok) fun w ok a E=>lw E (qbQ rfl) fun a E=>pt E rfl rfl fun a E=>aw E rfl fun a E=>wp_ret ?_
  exact fin hF ⟨ok.drop,E.d,⟨rv_t E rfl,trivial⟩⟩
 replace hF:=qaj hc9 hF
 replace E:=E.upd 10 hc9 rfl
 refine fv E qgt rfl fun a E=>ld E ok qav 0 rfl rfl rfl fun a E=>?_
 obtain ⟨r14,e15,hF⟩:=bnd hF
 refine lc E qpq rfl (qiY N r_0.Next l4 e15 hG ok) fun w ok a E=>pf E rfl rfl fun a E=>pt E rfl rfl fun a E=>mv E rfl fun a E=>qap r14 (fun hc16=>?_) (fun hc16=>?_)
 rotate_left
 ·replace hF:=qaj hc16 hF
  replace E:=E.upd 16 hc16 rfl
  refine ls E fun a E=>ls E fun a E=>ls E fun a E=>ls E fun a E=>pf E rfl rfl fun a E=>mv E rfl fun a E=>ls E fun a E=>ls E fun a E=>?_
  refine ls E fun a E=>ls E fun a E=>pf E rfl rfl fun a E=>mv E rfl fun a E=>ls E fun a E=>ls E fun a E=>ls E fun a E=>ls E fun a E=>?_
  refine pf E rfl rfl fun a E=>aw E rfl fun a E=>wp_ret ?_
  exact fin hF ⟨ok.drop,E.d,⟨rv_t E rfl,trivial⟩⟩
 replace hF:=qak hc16 hF
 replace E:=E.upd 16 hc16 rfl
 refine fv E qfI rfl fun a E=>ld E ok qgB 0 rfl rfl rfl fun a E=>lv E ok (qaE qep h3 rfl) fun a E=>lw E (qbo rfl rfl) fun a E=>pt E rfl rfl fun a E=>mv E rfl fun a E=>qap (decide ((r_0.Items.length:Int) ≥ 1)) (fun hc17=>?_) (fun hc17=>?_)
 rotate_left
 ·replace hF:=qaj hc17 hF
  replace E:=E.upd 22 hc17 rfl
  refine ls E fun a E=>ls E fun a E=>ls E fun a E=>ls E fun a E=>pf E rfl rfl fun a E=>mv E rfl fun a E=>ls E fun a E=>ls E fun a E=>?_
  refine ls E fun a E=>ls E fun a E=>pf E rfl rfl fun a E=>aw E rfl fun a E=>wp_ret ?_
  exact fin hF ⟨ok.drop,E.d,⟨rv_t E rfl,trivial⟩⟩
 replace hF:=qak hc17 hF
 replace E:=E.upd 22 hc17 rfl
 refine fv E qfI rfl fun a E=>ld E ok qgB 0 rfl rfl rfl fun a E=>lv E ok (qaE qep h3 rfl) fun a E=>lw E (qcj rfl rfl) fun a E=>pt E rfl rfl fun a E=>mv E rfl fun a E=>qap (decide ((r_0.Items.length:Int) ≤ 20)) (fun hc18=>?_) (fun hc18=>?_)
 rotate_left
 ·replace hF:=qaj hc18 hF
  replace E:=E.upd 28 hc18 rfl
  refine ls E fun a E=>ls E fun a E=>ls E fun a E=>ls E fun a E=>pf E rfl rfl fun a E=>aw E rfl fun a E=>?_
  refine wp_ret ?_
  exact fin hF ⟨ok.drop,E.d,⟨rv_t E rfl,trivial⟩⟩
 replace hF:=qak hc18 hF
 replace E:=E.upd 28 hc18 rfl
 refine fv E qfI rfl fun a E=>ld E ok qgB 0 rfl rfl rfl fun a E=>?_
 obtain ⟨r19,e20,hF⟩:=bnd hF
 refine lc E qrS rfl (qcQ N _ r_0.Items h3 e20 hG ok) fun w ok a E=>lw E (qbQ rfl) fun a E=>pt E rfl rfl fun a E=>aw E rfl fun a E=>wp_ret ?_
 exact fin hF ⟨ok.drop,E.d,⟨rv_t E rfl,trivial⟩⟩
def qpB (u:World) (m0:Mem) (S:Segs) (r:(List UInt8)) (a:Act) (w:World):Prop :=
 Ok u m0 S w ∧ a.defers = [] ∧ RVs Tryz.prog a w [.t 2 (.string (bs r))] ∧ r.length ≤ LIMS
theorem qie (N:Nat) (c_0:Int) (rc_0:InR .u8 c_0) {r:(List UInt8)} (hF:qhy N c_0 = some r) (hG:Glob u) (ok:Ok u m0 S w) :
  Calls Tryz.prog 141 [Value.int .u8 c_0].toArray w fun e w'=>(e = .returned (.string (bs r)) ∧ Ok u m0 S w') ∧ r.length ≤ LIMS:=by
 have le_m0:=Mem.le.refl m0
 unfold qhy at hF
 refine en (qpB u m0 S) r Tryz.func141 rfl rfl rfl (by rintro a w ⟨ok,hd,hrv,h0⟩; exact qaM [.t 2 (.string (bs r))] hd rfl hrv ⟨⟨rfl,ok⟩,h0⟩) fun fin a E=>sg<|aw E rfl fun a E=>wp_seq ?_
 obtain ⟨o1,hJ,hF⟩:=bnd hF
 refine qbx (Q':=fun e a w=>e = .normal ∧ Ok u m0 (S) w ∧ Env 12 a [(2,vs o1)] ∧ o1.length ≤ LIMS) ?_ ?_
 rotate_left
 ·clear hJ
  intro e a w hO
  obtain ⟨rfl,ok,E,l17⟩:=hO
  refine qaa<|wp_ret ?_
  exact fin hF ⟨ok,E.d,⟨rv_t E rfl,trivial⟩,l17⟩
 replace hF:=hJ
 clear hJ
 obtain ⟨c3,e4,hF⟩:=bnd hF
 obtain ⟨q5,e6,hF⟩:=bnd hF
 obtain ⟨c7,e8,hF⟩:=bnd hF
 obtain ⟨s12,e13,hF⟩:=bnd hF
 obtain rfl:=sj hF
 refine qcp [] (Cls u m0 ([])) (Cls u m0 ([])) (by kernel_rfl) ?_
 intro w hw
 replace ok:=qcD ok hw
 clear hw
 refine qam (cl1 (cq le_m0 ok [] rfl) (cq le_m0 ok [] rfl)) fun hT=>kt 0 E rfl hT (qad rfl) fun a E=>kt 1 E rfl hT (qkW rfl rfl (by decide)) fun a E=>kt 2 E rfl hT (qba Tryz.underlying9 rfl rfl e4) fun a E=>kt 3 E rfl hT (qad rfl) fun a E=>kt 4 E rfl hT (y_rm rfl rfl e6) fun a E=>kt 5 E rfl hT (qba Tryz.underlying9 rfl rfl e8) fun a E=>qau [6] (by kernel_rfl) rfl (qax ?_)
 ·refine wo rfl<|qaT (R:=(pI .u8)) (xo:=[.tmp 5,.tmp 8]) (xs:=([(c3.toNat:Int),(c7.toNat:Int)]:List (Int))) E ok qhc qgh rfl ⟨⟨_,rfl,rfl,(qgA (InR.byte c3))⟩,⟨_,rfl,rfl,(qgA (InR.byte c7))⟩,trivial⟩ rfl rfl rfl rfl fun c14 M15 a w E ok h16=>wn<|qam (cl1 (cq le_m0 ok [] rfl) (cq le_m0 ok [] rfl)) fun hT=>qau [7] (by kernel_rfl) rfl (qax ?_)
  ·refine wo rfl<|lv E ok (qiu Tryz.underlying86 Tryz.underlying5 Tryz.underlying9 rfl (BR.ofRow h16 0 rfl)) fun a E=>wn<|qam (cl1 (cq le_m0 ok [] rfl) (cq le_m0 ok [] rfl)) fun hT=>kt 8 E rfl hT (qa5 rfl rfl e13) fun a E=>kt 9 E rfl hT (qal rfl) fun a E=>qbd (by kernel_rfl) ?_
   exact ⟨rfl,⟨(ok.pk 1 [] rfl (by decide)),E.keep [2],(qa1 e13)⟩⟩
def qng (u:World) (m0:Mem) (S:Segs) (r:(List UInt8)) (a:Act) (w:World):Prop :=
 Ok u m0 S w ∧ a.defers = [] ∧ RVs Tryz.prog a w [.t 2 (.string (bs r))] ∧ r.length ≤ LIMS
theorem qm2 (N:Nat) (c_0:Int) (rc_0:InR .u8 c_0) {r:(List UInt8)} (hF:qgP N c_0 = some r) (hG:Glob u) (ok:Ok u m0 S w) :
  Calls Tryz.prog 123 [Value.int .u8 c_0].toArray w fun e w'=>(e = .returned (.string (bs r)) ∧ Ok u m0 S w') ∧ r.length ≤ LIMS:=by
 unfold qgP at hF
 refine en (qng u m0 S) r Tryz.func123 rfl rfl rfl (by rintro a w ⟨ok,hd,hrv,h0⟩; exact qaM [.t 2 (.string (bs r))] hd rfl hrv ⟨⟨rfl,ok⟩,h0⟩) fun fin a E=>sg<|aw E rfl fun a E=>wp_seq<|wp_block ?_
 refine sg<|mv E rfl fun a E=>lw E (qaA rfl rfl) fun a E=>mv E rfl fun a E=>qap (decide (c_0 < 32)) (fun hc1=>?_) (fun hc1=>?_)
 ·replace hF:=qak hc1 hF
  replace E:=E.upd 6 hc1 rfl
  refine ls E fun a E=>ls E fun a E=>pt E rfl rfl fun a E=>aw E rfl fun a E=>c_if E rfl (fun _=>?_) (fun h=>by cases h)
  refine sg<|mv E rfl fun a E=>?_
  obtain ⟨r2,e3,hF⟩:=bnd hF
  refine qaz E qmb rfl (qie N c_0 rc_0 e3 hG ok) rfl rfl ?_
  rintro _ w ⟨⟨rfl,ok⟩,l4⟩
  refine ⟨_,rfl,fun a E=>?_⟩
  refine aw E rfl fun a E=>wp_ret<|qan<|qag ?_
  exact fin hF ⟨ok,E.d,⟨rv_t E rfl,trivial⟩,l4⟩
 replace hF:=qaj hc1 hF
 replace E:=E.upd 6 hc1 rfl
 refine mv E rfl fun a E=>lw E (qb9 rfl rfl) fun a E=>pf E rfl rfl fun a E=>aw E rfl fun a E=>cf E rfl hF (fun hc5 hF=>?_) fun hc5 hF=>?_
 ·refine sg<|mv E rfl fun a E=>?_
  obtain ⟨r6,e7,hF⟩:=bnd hF
  refine qaz E qmb rfl (qie N c_0 rc_0 e7 hG ok) rfl rfl ?_
  rintro _ w ⟨⟨rfl,ok⟩,l8⟩
  refine ⟨_,rfl,fun a E=>?_⟩
  refine aw E rfl fun a E=>wp_ret<|qan<|qag ?_
  exact fin hF ⟨ok,E.d,⟨rv_t E rfl,trivial⟩,l8⟩
 refine sg<|mv E rfl fun a E=>lw E (qbt rfl rfl) fun a E=>mv E rfl fun a E=>qap (c_0 == 34) (fun hc9=>?_) (fun hc9=>?_)
 ·replace hF:=qak hc9 hF
  replace E:=E.upd 15 hc9 rfl
  refine ls E fun a E=>ls E fun a E=>pt E rfl rfl fun a E=>aw E rfl fun a E=>c_if E rfl (fun _=>?_) (fun h=>by cases h)
  refine sg<|mv E rfl fun a E=>qaT (R:=(pI .u8)) (xo:=[.tmp 19]) (xs:=([c_0]:List (Int))) E ok qhc qgh rfl ⟨⟨_,rfl,rfl,(qgA rc_0)⟩,trivial⟩ rfl rfl rfl rfl fun c10 M11 a w E ok h12=>lv E ok (qiu Tryz.underlying86 Tryz.underlying5 Tryz.underlying9 rfl (BR.ofRow h12 0 rfl)) fun a E=>?_
  obtain ⟨s13,e14,hF⟩:=bnd hF
  refine lw E (qa5 rfl rfl e14) fun a E=>aw E rfl fun a E=>wp_ret<|qan<|qag ?_
  exact fin hF ⟨ok.drop,E.d,⟨rv_t E rfl,trivial⟩,(qa1 e14)⟩
 replace hF:=qaj hc9 hF
 replace E:=E.upd 15 hc9 rfl
 refine mv E rfl fun a E=>lw E (qbt rfl rfl) fun a E=>pf E rfl rfl fun a E=>aw E rfl fun a E=>cf E rfl hF (fun hc15 hF=>?_) fun hc15 hF=>?_
 rotate_left
 ·refine wp_skip<|qaq<|qaa<|sg<|mv E rfl fun a E=>qaT (R:=(pI .u8)) (xo:=[.tmp 23]) (xs:=([c_0]:List (Int))) E ok qhc qgh rfl ⟨⟨_,rfl,rfl,(qgA rc_0)⟩,trivial⟩ rfl rfl rfl rfl fun c21 M22 a w E ok h23=>lv E ok (qiu Tryz.underlying86 Tryz.underlying5 Tryz.underlying9 rfl (BR.ofRow h23 0 rfl)) fun a E=>?_
  refine aw E rfl fun a E=>wp_ret ?_
  exact fin hF ⟨ok.drop,E.d,⟨rv_t E rfl,trivial⟩,(Nat.le_trans (Nat.le_of_eq qfX) h23.form.2)⟩
 refine sg<|mv E rfl fun a E=>qaT (R:=(pI .u8)) (xo:=[.tmp 19]) (xs:=([c_0]:List (Int))) E ok qhc qgh rfl ⟨⟨_,rfl,rfl,(qgA rc_0)⟩,trivial⟩ rfl rfl rfl rfl fun c16 M17 a w E ok h18=>lv E ok (qiu Tryz.underlying86 Tryz.underlying5 Tryz.underlying9 rfl (BR.ofRow h18 0 rfl)) fun a E=>?_
 obtain ⟨s19,e20,hF⟩:=bnd hF
 refine lw E (qa5 rfl rfl e20) fun a E=>aw E rfl fun a E=>wp_ret<|qan<|qag ?_
 exact fin hF ⟨ok.drop,E.d,⟨rv_t E rfl,trivial⟩,(qa1 e20)⟩
def qln (u:World) (m0:Mem) (S:Segs) (r:(List UInt8)) (a:Act) (w:World):Prop :=
 Ok u m0 S w ∧ a.defers = [] ∧ RVs Tryz.prog a w [.t 2 (.string (bs r))] ∧ r.length ≤ LIMS
theorem qiB (N:Nat) (c_0:Int) (rc_0:InR .u8 c_0) {r:(List UInt8)} (hF:qel N c_0 = some r) (hG:Glob u) (ok:Ok u m0 S w) :
  Calls Tryz.prog 124 [Value.int .u8 c_0].toArray w fun e w'=>(e = .returned (.string (bs r)) ∧ Ok u m0 S w') ∧ r.length ≤ LIMS:=by
 unfold qel at hF
 refine en (qln u m0 S) r Tryz.func124 rfl rfl rfl (by rintro a w ⟨ok,hd,hrv,h0⟩; exact qaM [.t 2 (.string (bs r))] hd rfl hrv ⟨⟨rfl,ok⟩,h0⟩) fun fin a E=>sg<|aw E rfl fun a E=>wp_seq<|wp_block ?_
 refine sg<|mv E rfl fun a E=>lw E (qcj rfl rfl) fun a E=>mv E rfl fun a E=>qap (decide (c_0 ≤ 32)) (fun hc1=>?_) (fun hc1=>?_)
 ·replace hF:=qak hc1 hF
  replace E:=E.upd 6 hc1 rfl
  refine ls E fun a E=>ls E fun a E=>pt E rfl rfl fun a E=>aw E rfl fun a E=>c_if E rfl (fun _=>?_) (fun h=>by cases h)
  refine sg<|mv E rfl fun a E=>?_
  obtain ⟨r2,e3,hF⟩:=bnd hF
  refine qaz E qmb rfl (qie N c_0 rc_0 e3 hG ok) rfl rfl ?_
  rintro _ w ⟨⟨rfl,ok⟩,l4⟩
  refine ⟨_,rfl,fun a E=>?_⟩
  refine aw E rfl fun a E=>wp_ret<|qan<|qag ?_
  exact fin hF ⟨ok,E.d,⟨rv_t E rfl,trivial⟩,l4⟩
 replace hF:=qaj hc1 hF
 replace E:=E.upd 6 hc1 rfl
 refine mv E rfl fun a E=>lw E (qb9 rfl rfl) fun a E=>pf E rfl rfl fun a E=>aw E rfl fun a E=>cf E rfl hF (fun hc5 hF=>?_) fun hc5 hF=>?_
 ·refine sg<|mv E rfl fun a E=>?_
  obtain ⟨r6,e7,hF⟩:=bnd hF
  refine qaz E qmb rfl (qie N c_0 rc_0 e7 hG ok) rfl rfl ?_
  rintro _ w ⟨⟨rfl,ok⟩,l8⟩
  refine ⟨_,rfl,fun a E=>?_⟩
  refine aw E rfl fun a E=>wp_ret<|qan<|qag ?_
  exact fin hF ⟨ok,E.d,⟨rv_t E rfl,trivial⟩,l8⟩
 refine sg<|mv E rfl fun a E=>?_
 obtain ⟨r9,e10,hF⟩:=bnd hF
 refine qaz E qlL rfl (qcW N ([91,93,94,45,92]) (show ([91,93,94,45,92]:List UInt8).length ≤ LIMS by decide) c_0 rc_0 e10 hG ok) rfl rfl ?_
 rintro _ w ⟨⟨rfl,ok⟩,r11⟩
 refine ⟨_,rfl,fun a E=>?_⟩
 refine lw E (qbo rfl rfl) fun a E=>aw E rfl fun a E=>cf E rfl hF (fun hc12 hF=>?_) fun hc12 hF=>?_
 rotate_left
 ·refine wp_skip<|qaq<|qaa<|sg<|mv E rfl fun a E=>qaT (R:=(pI .u8)) (xo:=[.tmp 20]) (xs:=([c_0]:List (Int))) E ok qhc qgh rfl ⟨⟨_,rfl,rfl,(qgA rc_0)⟩,trivial⟩ rfl rfl rfl rfl fun c18 M19 a w E ok h20=>lv E ok (qiu Tryz.underlying86 Tryz.underlying5 Tryz.underlying9 rfl (BR.ofRow h20 0 rfl)) fun a E=>?_
  refine aw E rfl fun a E=>wp_ret ?_
  exact fin hF ⟨ok.drop,E.d,⟨rv_t E rfl,trivial⟩,(Nat.le_trans (Nat.le_of_eq qfX) h20.form.2)⟩
 refine sg<|mv E rfl fun a E=>qaT (R:=(pI .u8)) (xo:=[.tmp 16]) (xs:=([c_0]:List (Int))) E ok qhc qgh rfl ⟨⟨_,rfl,rfl,(qgA rc_0)⟩,trivial⟩ rfl rfl rfl rfl fun c13 M14 a w E ok h15=>lv E ok (qiu Tryz.underlying86 Tryz.underlying5 Tryz.underlying9 rfl (BR.ofRow h15 0 rfl)) fun a E=>?_
 obtain ⟨s16,e17,hF⟩:=bnd hF
 refine lw E (qa5 rfl rfl e17) fun a E=>aw E rfl fun a E=>wp_ret<|qan<|qag ?_
 exact fin hF ⟨ok.drop,E.d,⟨rv_t E rfl,trivial⟩,(qa1 e17)⟩
end Go.Proofs.YtllfckekodcdaaaGreatDoor
namespace Go.Proofs.YtllfckekodcdaaaGreatDoor
open Go.X
variable {u:World} {m0:Mem} {S:Segs} {w:World}
set_option maxHeartbeats 4000000
set_option maxRecDepth 100000
def qoC (u:World) (m0:Mem) (S:Segs) (pb0:Nat) (x0:Builder) (c6:Value) (c8:Value) (M9:List (Nat × Obj)) (r:Builder) (a:Act) (w:World):Prop :=
 ∃ c11 c13 M14,Ok u m0 ([(pb0,oc 88 [c11,c13])] :: M14 :: S) w ∧ a.defers = [] ∧ RVs Tryz.prog a w [] ∧ BAd pb0 c11 ∧ ORow 5 1 (pI .u8) m0 c13 r.buf M14
theorem qow (N:Nat) (vx_1:List Value) (x_1:Item) (hx_1:qbO m0 vx_1 x_1) {pb0:Nat} {c6:Value} {c8:Value} {M9:List (Nat × Obj)} (x0:Builder) (h7:BAd pb0 c6) (h10:ORow 5 1 (pI .u8) m0 c8 x0.buf M9) {r:Builder} (hF:qh2 N x_1 x0 = some r) (hG:Glob u) (ok:Ok u m0 ([(pb0,oc 88 [c6,c8])] :: M9 :: S) w) :
  Calls Tryz.prog 98 [vp pb0,.agg vx_1.toArray].toArray w fun e w'=>∃ c11 c13 M14,(e = .returned (.tuple [].toArray) ∧ Ok u m0 ([(pb0,oc 88 [c11,c13])] :: M14 :: S) w') ∧ BAd pb0 c11 ∧ ORow 5 1 (pI .u8) m0 c13 r.buf M14:=by
 obtain ⟨c2,rfl,l1,h3,r4,r5⟩:=hx_1
 unfold qh2 at hF
 refine en (qoC u m0 S pb0 x0 c6 c8 M9) r Tryz.func98 rfl rfl rfl (by rintro a w ⟨c11,c13,M14,ok,hd,hrv,h0,h1⟩; exact qaM [] hd rfl hrv ⟨c11,c13,M14,⟨rfl,ok⟩,h0,h1⟩) fun fin a E=>sg<|qdk E ok rfl rfl rfl fun b16 a w E ok=>wn<|sg ?_
 refine lv E ok (qat (cs:=[vs x_1.Text,c2,vb x_1.Not,vi x_1.Least,vi x_1.Most]) qfn rfl rfl (qae.own 0 rfl rfl)) fun a E=>?_
 obtain ⟨r17,e18,hF⟩:=bnd hF
 refine qaz E qrE rfl (qli N _ x_1 ⟨_,rfl,l1,h3,r4,r5⟩ e18 hG ok) rfl rfl ?_
 rintro _ w ⟨⟨rfl,ok⟩,l19⟩
 refine ⟨_,rfl,fun a E=>?_⟩
 refine mv E rfl fun a E=>lw E (qaw rfl rfl) fun a E=>lw E (qaw rfl rfl) fun a E=>av E rfl fun a E=>aw E rfl fun a E=>wp_seq ?_
 refine sg<|fv E qcN rfl fun a E=>ld E ok qav 0 rfl rfl rfl fun a E=>lw E (qcn rfl rfl) fun a E=>wn<|cf E rfl hF (fun hc20 hF=>?_) fun hc20 hF=>?_
 ·as_aux_lemma =>
   refine sg<|mv E rfl fun a E=>?_
   obtain ⟨r21,e22,hF⟩:=bnd hF
   replace ok:Ok u m0 ([(pb0,oc 88 [c6,c8])] :: M9 :: [(b16,oc 154 [vs x_1.Text,c2,vb x_1.Not,vi x_1.Least,vi x_1.Most])] :: S) w:=(ok.pk 3 [1,2,0] rfl (by decide))
   refine qaz E qjT rfl (qbJ N 34 (show InR .u8 (34) by decide) (Builder.mk () x0.buf) h7 h10 e22 hG ok) rfl rfl ?_
   rintro _ w ⟨c23,c25,M26,⟨rfl,ok⟩,h24,h27⟩
   refine ⟨_,rfl,fun a E=>?_⟩
   refine wn<|wp_seq<|sg<|fv E qcN rfl fun a E=>ld E ok qav 2 rfl rfl rfl fun a E=>lw E (qaV Tryz.underlying9 rfl) fun a E=>?_
   refine mv E rfl fun a E=>wn<|wp_block ?_
   obtain ⟨o35,hL,hF⟩:=bnd hF
   refine qaO _ (fun (s:Int × Builder) a w=>∃ c37 c39 M40,Ok u m0 ([(pb0,oc 88 [c37,c39])] :: M40 :: [(b16,oc 154 [vs x_1.Text,c2,vb x_1.Not,vi x_1.Least,vi x_1.Most])] :: S) w ∧ Env 71 a [(0,vp pb0),(3,vp b16),(4,vs r17.1),(21,(vi (x_1.Text.length:Int))),(22,vi s.1)] ∧ InR .i64 s.1 ∧ BAd pb0 c37 ∧ ORow 5 1 (pI .u8) m0 c39 s.2.buf M40) (fun (b:Builder) e a w=>e = (.exit 0) ∧ ∃ c79 c81 M82,Ok u m0 ([(pb0,oc 88 [c79,c81])] :: M82 :: [(b16,oc 154 [vs x_1.Text,c2,vb x_1.Not,vi x_1.Least,vi x_1.Most])] :: S) w ∧ Env 71 a [(0,vp pb0),(4,vs r17.1)] ∧ BAd pb0 c79 ∧ ORow 5 1 (pI .u8) m0 c81 b.buf M82) ?_ ?_ N _ a w hL ⟨c23,c25,M26,ok,E.keep [0,3,4,21,22],(ir 0),h24,h27⟩
   rotate_left
   ·intro e a w _ hO
    obtain ⟨rfl,c64,c66,M67,ok,E,h65,h68⟩:=hO
    refine qaS<|qaa<|sg<|mv E rfl fun a E=>mv E rfl fun a E=>?_
    obtain ⟨s69,e70,hF⟩:=bnd hF
    refine lw E (qa5 rfl rfl e70) fun a E=>?_
    obtain ⟨r71,e72,hF⟩:=bnd hF
    refine qaz E qf9 rfl (qaW N s69 (qa1 e70) (Builder.mk () o35.buf) h65 h68 e72 hG ok) rfl rfl ?_
    rintro _ w ⟨c74,c76,M77,⟨rfl,ok⟩,r73,h75,h78⟩
    refine ⟨_,rfl,fun a E=>?_⟩
    refine wn<|wp_ret<|qag ?_
    exact fin hF ⟨c74,c76,M77,(ok.pk 3 [0,1] rfl (by decide)),E.d,trivial,h75,h78⟩
   rintro ⟨x_42,x_43⟩ a w r ⟨c45,c47,M48,ok,E,r44,h46,h49⟩ hF
   replace hF:qgj N x_1 x_42 x_43 = some r:=hF
   unfold qgj at hF
   refine sg<|lw E (qaA rfl rfl) fun a E=>wn<|wp_seq<|cf E rfl hF (fun hc50 hF=>?_) fun hc50 hF=>?_
   rotate_left
   ·refine wp_exit<|qaB ?_
    obtain rfl:=sj hF
    exact so (⟨rfl,⟨c45,c47,M48,ok,E.keep [0,4],h46,h49⟩⟩)
   refine wp_skip<|qaa<|wp_seq<|wp_block<|sg<|mv E rfl fun a E=>av E rfl fun a E=>?_
   refine wn<|qab<|mv E rfl fun a E=>fv E qcN rfl fun a E=>ld E ok qav 2 rfl rfl rfl fun a E=>mv E rfl fun a E=>?_
   obtain ⟨c51,e52,hF⟩:=bnd hF
   refine lv E ok (qba Tryz.underlying9 rfl rfl e52) fun a E=>?_
   obtain ⟨r53,e54,hF⟩:=bnd hF
   refine qaz E qtu rfl (qm2 N (c51.toNat:Int) (InR.byte c51) e54 hG ok) rfl rfl ?_
   rintro _ w ⟨⟨rfl,ok⟩,l55⟩
   refine ⟨_,rfl,fun a E=>?_⟩
   obtain ⟨r56,e57,hF⟩:=bnd hF
   refine qaz E qf9 rfl (qaW N r53 l55 (Builder.mk () x_43.buf) h46 h49 e57 hG ok) rfl rfl ?_
   rintro _ w ⟨c59,c61,M62,⟨rfl,ok⟩,r58,h60,h63⟩
   refine ⟨_,rfl,fun a E=>?_⟩
   refine wpList_nil<|qaq<|qaa<|qab<|lw E (qaG rfl rfl (InR.inc r44 (InR.len l1) hc50)) fun a E=>mv E rfl fun a E=>wpList_nil ?_
   obtain rfl:=sj hF
   exact qay ⟨c59,c61,M62,ok,E.keep [0,3,4,21,22],(InR.inc r44 (InR.len l1) hc50),h60,h63⟩
 refine wp_skip<|qaa<|sg<|mv E rfl fun a E=>?_
 obtain ⟨r84,e85,hF⟩:=bnd hF
 replace ok:Ok u m0 ([(pb0,oc 88 [c6,c8])] :: M9 :: [(b16,oc 154 [vs x_1.Text,c2,vb x_1.Not,vi x_1.Least,vi x_1.Most])] :: S) w:=(ok.pk 3 [1,2,0] rfl (by decide))
 refine qaz E qjT rfl (qbJ N 91 (show InR .u8 (91) by decide) (Builder.mk () x0.buf) h7 h10 e85 hG ok) rfl rfl ?_
 rintro _ w ⟨c86,c88,M89,⟨rfl,ok⟩,h87,h90⟩
 refine ⟨_,rfl,fun a E=>?_⟩
 refine wn<|wp_seq<|sg<|fv E qlB rfl fun a E=>ld E ok qhi 2 rfl rfl rfl fun a E=>wpList_nil ?_
 refine qaa ?_
 obtain ⟨o91,hJ,hF⟩:=bnd hF
 refine qbx (Q':=fun e a w=>e = .normal ∧ ∃ c92 c94 M95,Ok u m0 ([(pb0,oc 88 [c92,c94])] :: M95 :: [(b16,oc 154 [vs x_1.Text,c2,vb x_1.Not,vi x_1.Least,vi x_1.Most])] :: S) w ∧ Env 71 a [(0,vp pb0),(3,vp b16),(4,vs r17.1)] ∧ BAd pb0 c92 ∧ ORow 5 1 (pI .u8) m0 c94 o91.buf M95) ?_ ?_
 ·replace hF:=hJ
  clear hJ
  refine cf E rfl hF (fun hc97 hF=>?_) fun hc97 hF=>?_
  rotate_left
  ·refine wp_skip ?_
   obtain rfl:=sj hF
   exact ⟨rfl,⟨c86,c88,M89,ok,E.keep [0,3,4],h87,h90⟩⟩
  refine qab<|mv E rfl fun a E=>?_
  obtain ⟨r98,e99,hF⟩:=bnd hF
  refine qaz E qjT rfl (qbJ N 94 (show InR .u8 (94) by decide) (Builder.mk () r84.2.buf) h87 h90 e99 hG ok) rfl rfl ?_
  rintro _ w ⟨c100,c102,M103,⟨rfl,ok⟩,h101,h104⟩
  refine ⟨_,rfl,fun a E=>?_⟩
  refine wpList_nil ?_
  obtain rfl:=sj hF
  exact ⟨rfl,⟨c100,c102,M103,ok,E.keep [0,3,4],h101,h104⟩⟩
 clear hJ
 intro e a w hO
 obtain ⟨rfl,c105,c107,M108,ok,E,h106,h109⟩:=hO
 refine qaa<|wp_seq<|sg<|fv E qgd rfl fun a E=>ld E ok qhE 2 rfl rfl rfl fun a E=>lv E ok (qaE qgs h3 rfl) fun a E=>mv E rfl fun a E=>?_
 refine wn<|wp_block ?_
 obtain ⟨o117,hL,hF⟩:=bnd hF
 refine qaO _ (fun (s:Int × Builder) a w=>∃ c119 c121 M122,Ok u m0 ([(pb0,oc 88 [c119,c121])] :: M122 :: [(b16,oc 154 [vs x_1.Text,c2,vb x_1.Not,vi x_1.Least,vi x_1.Most])] :: S) w ∧ Env 71 a [(0,vp pb0),(4,vs r17.1),(44,c2),(45,(vi (x_1.Ranges.length:Int))),(46,vi s.1)] ∧ InR .i64 s.1 ∧ BAd pb0 c119 ∧ ORow 5 1 (pI .u8) m0 c121 s.2.buf M122) (fun (b:Builder) e a w=>e = (.exit 2) ∧ ∃ c185 c187 M188,Ok u m0 ([(pb0,oc 88 [c185,c187])] :: M188 :: [(b16,oc 154 [vs x_1.Text,c2,vb x_1.Not,vi x_1.Least,vi x_1.Most])] :: S) w ∧ Env 71 a [(0,vp pb0),(4,vs r17.1)] ∧ BAd pb0 c185 ∧ ORow 5 1 (pI .u8) m0 c187 b.buf M188) ?_ ?_ N _ a w hL ⟨c105,c107,M108,ok,E.keep [0,4,44,45,46],(ir 0),h106,h109⟩
 rotate_left
 ·intro e a w _ hO
  obtain ⟨rfl,c170,c172,M173,ok,E,h171,h174⟩:=hO
  refine qaS<|qaa<|qab<|mv E rfl fun a E=>mv E rfl fun a E=>?_
  obtain ⟨s175,e176,hF⟩:=bnd hF
  refine lw E (qa5 rfl rfl e176) fun a E=>?_
  obtain ⟨r177,e178,hF⟩:=bnd hF
  refine qaz E qf9 rfl (qaW N s175 (qa1 e176) (Builder.mk () o117.buf) h171 h174 e178 hG ok) rfl rfl ?_
  rintro _ w ⟨c180,c182,M183,⟨rfl,ok⟩,r179,h181,h184⟩
  refine ⟨_,rfl,fun a E=>?_⟩
  refine wpList_nil ?_
  exact fin hF ⟨c180,c182,M183,(ok.pk 3 [0,1] rfl (by decide)),E.d,trivial,h181,h184⟩
 rintro ⟨x_124,x_125⟩ a w r ⟨c127,c129,M130,ok,E,r126,h128,h131⟩ hF
 replace hF:qge N x_1 x_124 x_125 = some r:=hF
 unfold qge at hF
 refine sg<|lw E (qaA rfl rfl) fun a E=>wn<|wp_seq<|cf E rfl hF (fun hc132 hF=>?_) fun hc132 hF=>?_
 rotate_left
 ·refine wp_exit<|qaB ?_
  obtain rfl:=sj hF
  exact so (⟨rfl,⟨c127,c129,M130,ok,E.keep [0,4],h128,h131⟩⟩)
 refine wp_skip<|qaa<|wp_seq<|wp_block<|sg ?_
 obtain ⟨x133,e134,hF⟩:=bnd hF
 obtain ⟨b135,o136,es137,hl138,rr139,at140,yy141⟩:=qaN qgs h3 e134 (P:=Tryz.prog) (X:=.tmp 44) (I:=.tmp 46) (kd:=.i64) (qah E rfl) (qah E rfl)
 obtain ⟨rfl,r142,r143⟩:=rr139
 refine lv E ok (yy141 _ _) fun a E=>lv E ok (qat (cs:=[(Value.int .u8 x133.From),(Value.int .u8 x133.To)]) qmG rfl rfl (qae.ro at140)) fun a E=>qaC E ok qlp rfl rfl fun b144 a w E ok=>qai E ok 0 rfl rfl rfl qsD rfl rfl ⟨rfl,rfl,trivial⟩ rfl rfl fun w ok=>wn<|sg ?_
 refine mv E rfl fun a E=>fv E qjS rfl fun a E=>ld E ok qfb 0 rfl rfl rfl fun a E=>?_
 obtain ⟨r145,e146,hF⟩:=bnd hF
 refine qaz E qqc rfl (qiB N x133.From r142 e146 hG ok) rfl rfl ?_
 rintro _ w ⟨⟨rfl,ok⟩,l147⟩
 refine ⟨_,rfl,fun a E=>?_⟩
 obtain ⟨r148,e149,hF⟩:=bnd hF
 replace ok:Ok u m0 ([(pb0,oc 88 [c127,c129])] :: M130 :: [(b144,oc 156 [(Value.int .u8 x133.From),(Value.int .u8 x133.To)])] :: [(b16,oc 154 [vs x_1.Text,c2,vb x_1.Not,vi x_1.Least,vi x_1.Most])] :: S) w:=(ok.pk 4 [1,2,0,3] rfl (by decide))
 refine qaz E qf9 rfl (qaW N r145 l147 (Builder.mk () x_125.buf) h128 h131 e149 hG ok) rfl rfl ?_
 rintro _ w ⟨c151,c153,M154,⟨rfl,ok⟩,r150,h152,h155⟩
 refine ⟨_,rfl,fun a E=>?_⟩
 refine wn<|sg<|fv E qjO rfl fun a E=>ld E ok qfb 2 rfl rfl rfl fun a E=>fv E qjS rfl fun a E=>ld E ok qfb 2 rfl rfl rfl fun a E=>?_
 refine lw E (qdG rfl rfl) fun a E=>wn<|cf E rfl hF (fun hc156 hF=>?_) fun hc156 hF=>?_
 rotate_left
 ·refine wp_skip<|qaq<|qaa<|qab<|lw E (qaG rfl rfl (InR.inc r126 (qas h3) hc132)) fun a E=>mv E rfl fun a E=>wpList_nil ?_
  obtain rfl:=sj hF
  exact qay ⟨c151,c153,M154,(ok.pk 4 [0,1,3] rfl (by decide)),E.keep [0,4,44,45,46],(InR.inc r126 (qas h3) hc132),h152,h155⟩
 refine qab<|mv E rfl fun a E=>fv E qjO rfl fun a E=>ld E ok qfb 2 rfl rfl rfl fun a E=>?_
 obtain ⟨r157,e158,hF⟩:=bnd hF
 refine qaz E qqc rfl (qiB N x133.To r143 e158 hG ok) rfl rfl ?_
 rintro _ w ⟨⟨rfl,ok⟩,l159⟩
 refine ⟨_,rfl,fun a E=>?_⟩
 obtain ⟨s160,e161,hF⟩:=bnd hF
 refine lw E (qa5 rfl rfl e161) fun a E=>?_
 obtain ⟨r162,e163,hF⟩:=bnd hF
 refine qaz E qf9 rfl (qaW N s160 (qa1 e161) (Builder.mk () r148.2.2.buf) h152 h155 e163 hG ok) rfl rfl ?_
 rintro _ w ⟨c165,c167,M168,⟨rfl,ok⟩,r164,h166,h169⟩
 refine ⟨_,rfl,fun a E=>?_⟩
 refine wpList_nil<|qaq<|qaa<|qab<|lw E (qaG rfl rfl (InR.inc r126 (qas h3) hc132)) fun a E=>mv E rfl fun a E=>wpList_nil ?_
 obtain rfl:=sj hF
 exact qay ⟨c165,c167,M168,(ok.pk 4 [0,1,3] rfl (by decide)),E.keep [0,4,44,45,46],(InR.inc r126 (qas h3) hc132),h166,h169⟩
def qoF (u:World) (m0:Mem) (S:Segs) (r:(List UInt8)) (a:Act) (w:World):Prop :=
 Ok u m0 S w ∧ a.defers = [] ∧ RVs Tryz.prog a w [.t 2 (.string (bs r))] ∧ r.length ≤ LIMS
theorem qoy (N:Nat) (vr_0:List Value) (r_0:Rule) (hr_0:qdv m0 vr_0 r_0) {r:(List UInt8)} (hF:qhU N r_0 = some r) (hG:Glob u) (ok:Ok u m0 S w) :
  Calls Tryz.prog 80 [.agg vr_0.toArray].toArray w fun e w'=>(e = .returned (.string (bs r)) ∧ Ok u m0 S w') ∧ r.length ≤ LIMS:=by
 obtain ⟨c2,rfl,l1,h3,l4⟩:=hr_0
 unfold qhU at hF
 refine en (qoF u m0 S) r Tryz.func80 rfl rfl rfl (by rintro a w ⟨ok,hd,hrv,h0⟩; exact qaM [.t 2 (.string (bs r))] hd rfl hrv ⟨⟨rfl,ok⟩,h0⟩) fun fin a E=>sg<|qdk E ok rfl rfl rfl fun b5 a w E ok=>aw E rfl fun a E=>wp_seq ?_
 refine qab<|qaC E ok qml rfl rfl fun b6 a w E ok=>wn<|sg<|fv E qly rfl fun a E=>ld E ok qav 1 rfl rfl rfl fun a E=>?_
 obtain ⟨M7,ok,h8⟩:=qdI (e:=5) (k:=1) (R:=(pI .u8)) ok
 obtain ⟨r9,e10,hF⟩:=bnd hF
 replace ok:Ok u m0 ([(b6,oc 88 [(Value.pointer none),(Value.slice none 0 0)])] :: M7 :: [(b5,oc 118 [vs r_0.Kind,c2,vs r_0.Next])] :: S) w:=(ok.pk 3 [1,0,2] rfl (by decide))
 refine qaz E qf9 rfl (qaW N r_0.Kind l1 (Builder.mk () ([])) (.inl rfl) h8 e10 hG ok) rfl rfl ?_
 rintro _ w ⟨c12,c14,M15,⟨rfl,ok⟩,r11,h13,h16⟩
 refine ⟨_,rfl,fun a E=>?_⟩
 refine wn<|wp_seq<|sg<|fv E qfI rfl fun a E=>ld E ok qgB 2 rfl rfl rfl fun a E=>lv E ok (qaE qep h3 rfl) fun a E=>?_
 refine mv E rfl fun a E=>wn<|wp_block ?_
 obtain ⟨o24,hL,hF⟩:=bnd hF
 refine qaO _ (fun (s:Int × Builder) a w=>∃ c26 c28 M29,Ok u m0 ([(b6,oc 88 [c26,c28])] :: M29 :: [(b5,oc 118 [vs r_0.Kind,c2,vs r_0.Next])] :: S) w ∧ Env 28 a [(1,vp b5),(3,vp b6),(10,c2),(11,(vi (r_0.Items.length:Int))),(12,vi s.1)] ∧ InR .i64 s.1 ∧ BAd b6 c26 ∧ ORow 5 1 (pI .u8) m0 c28 s.2.buf M29) (fun (b:Builder) e a w=>e = (.exit 0) ∧ ∃ c87 c89 M90,Ok u m0 ([(b6,oc 88 [c87,c89])] :: M90 :: [(b5,oc 118 [vs r_0.Kind,c2,vs r_0.Next])] :: S) w ∧ Env 28 a [(1,vp b5),(3,vp b6)] ∧ BAd b6 c87 ∧ ORow 5 1 (pI .u8) m0 c89 b.buf M90) ?_ ?_ N _ a w hL ⟨c12,c14,M15,ok,E.keep [1,3,10,11,12],(ir 0),h13,h16⟩
 rotate_left
 ·intro e a w _ hO
  obtain ⟨rfl,c69,c71,M72,ok,E,h70,h73⟩:=hO
  refine qaS<|qaa<|wp_seq<|sg<|fv E qgt rfl fun a E=>ld E ok qav 2 rfl rfl rfl fun a E=>lw E (qcn rfl rfl) fun a E=>?_
  refine wn<|cf E rfl hF (fun hc74 hF=>?_) fun hc74 hF=>?_
  rotate_left
  ·refine wp_skip<|qaa<|sg<|qaz E qno rfl (qig Tryz.lays169 Tryz.Builder_Extra_169 h73 ok) rfl rfl ?_
   rintro _ w ⟨⟨rfl,ok⟩,l86⟩
   refine ⟨_,rfl,fun a E=>?_⟩
   refine aw E rfl fun a E=>wp_ret ?_
   exact fin hF ⟨ok.drop,E.d,⟨rv_t E rfl,trivial⟩,l86⟩
  refine qab<|fv E qgt rfl fun a E=>ld E ok qav 2 rfl rfl rfl fun a E=>?_
  obtain ⟨s75,e76,hF⟩:=bnd hF
  refine lw E (qa5 rfl rfl e76) fun a E=>?_
  obtain ⟨r77,e78,hF⟩:=bnd hF
  refine qaz E qf9 rfl (qaW N s75 (qa1 e76) (Builder.mk () o24.buf) h70 h73 e78 hG ok) rfl rfl ?_
  rintro _ w ⟨c80,c82,M83,⟨rfl,ok⟩,r79,h81,h84⟩
  refine ⟨_,rfl,fun a E=>?_⟩
  refine wn<|sg<|qaz E qno rfl (qig Tryz.lays169 Tryz.Builder_Extra_169 h84 ok) rfl rfl ?_
  rintro _ w ⟨⟨rfl,ok⟩,l85⟩
  refine ⟨_,rfl,fun a E=>?_⟩
  refine aw E rfl fun a E=>wp_ret ?_
  exact fin hF ⟨ok.drop,E.d,⟨rv_t E rfl,trivial⟩,l85⟩
 rintro ⟨x_31,x_32⟩ a w r ⟨c34,c36,M37,ok,E,r33,h35,h38⟩ hF
 replace hF:qgr N r_0 x_31 x_32 = some r:=hF
 unfold qgr at hF
 refine sg<|lw E (qaA rfl rfl) fun a E=>wn<|wp_seq<|cf E rfl hF (fun hc39 hF=>?_) fun hc39 hF=>?_
 rotate_left
 ·refine wp_exit<|qaB ?_
  obtain rfl:=sj hF
  exact so (⟨rfl,⟨c34,c36,M37,ok,E.keep [1,3],h35,h38⟩⟩)
 refine wp_skip<|qaa<|wp_seq<|wp_block<|sg ?_
 obtain ⟨x40,e41,hF⟩:=bnd hF
 obtain ⟨b42,o43,es44,hl45,rr46,at47,yy48⟩:=qaN qep h3 e41 (P:=Tryz.prog) (X:=.tmp 10) (I:=.tmp 12) (kd:=.i64) (qah E rfl) (qah E rfl)
 obtain ⟨c50,rfl,l49,h51,r52,r53⟩:=rr46
 refine lv E ok (yy48 _ _) fun a E=>lv E ok (qat (cs:=[vs x40.Text,c50,vb x40.Not,vi x40.Least,vi x40.Most]) qfn rfl rfl (qae.ro at47)) fun a E=>qaC E ok qgZ rfl rfl fun b54 a w E ok=>qai E ok 0 rfl rfl rfl qk0 rfl rfl ⟨rfl,(qa0 h51),rfl,rfl,rfl,trivial⟩ rfl rfl fun w ok=>wn<|sg ?_
 obtain ⟨r55,e56,hF⟩:=bnd hF
 replace ok:Ok u m0 ([(b6,oc 88 [c34,c36])] :: M37 :: [(b54,oc 154 [vs x40.Text,c50,vb x40.Not,vi x40.Least,vi x40.Most])] :: [(b5,oc 118 [vs r_0.Kind,c2,vs r_0.Next])] :: S) w:=(ok.pk 4 [1,2,0,3] rfl (by decide))
 refine qaz E qjT rfl (qbJ N 32 (show InR .u8 (32) by decide) (Builder.mk () x_32.buf) h35 h38 e56 hG ok) rfl rfl ?_
 rintro _ w ⟨c57,c59,M60,⟨rfl,ok⟩,h58,h61⟩
 refine ⟨_,rfl,fun a E=>?_⟩
 refine wn<|qab<|lv E ok (qat (cs:=[vs x40.Text,c50,vb x40.Not,vi x40.Least,vi x40.Most]) qfn rfl rfl (qae.own 2 rfl rfl)) fun a E=>?_
 obtain ⟨r62,e63,hF⟩:=bnd hF
 refine qaz E qtJ rfl (qow N _ x40 ⟨_,rfl,l49,h51,r52,r53⟩ (Builder.mk () r55.2.buf) h58 h61 e63 hG ok) rfl rfl ?_
 rintro _ w ⟨c64,c66,M67,⟨rfl,ok⟩,h65,h68⟩
 refine ⟨_,rfl,fun a E=>?_⟩
 refine wpList_nil<|qaq<|qaa<|qab<|lw E (qaG rfl rfl (InR.inc r33 (qas h3) hc39)) fun a E=>mv E rfl fun a E=>wpList_nil ?_
 obtain rfl:=sj hF
 exact qay ⟨c64,c66,M67,(ok.pk 4 [0,1,3] rfl (by decide)),E.keep [1,3,10,11,12],(InR.inc r33 (qas h3) hc39),h65,h68⟩
def qoE (u:World) (m0:Mem) (S:Segs) (r:(List UInt8)) (a:Act) (w:World):Prop :=
 Ok u m0 S w ∧ a.defers = [] ∧ RVs Tryz.prog a w [.t 2 (.string (bs r))] ∧ r.length ≤ LIMS
theorem qor (N:Nat) (vs_0:Value) (s_0:List (State)) (hs_0:(pL 2 qbU) m0 [vs_0] s_0) {r:(List UInt8)} (hF:qhO N s_0 = some r) (hG:Glob u) (ok:Ok u m0 S w) :
  Calls Tryz.prog 50 [vs_0].toArray w fun e w'=>(e = .returned (.string (bs r)) ∧ Ok u m0 S w') ∧ r.length ≤ LIMS:=by
 unfold qhO at hF
 refine en (qoE u m0 S) r Tryz.func50 rfl rfl rfl (by rintro a w ⟨ok,hd,hrv,h0⟩; exact qaM [.t 2 (.string (bs r))] hd rfl hrv ⟨⟨rfl,ok⟩,h0⟩) fun fin a E=>sg<|aw E rfl fun a E=>sg ?_
 refine qaC E ok qml rfl rfl fun b1 a w E ok=>wn<|wp_seq<|sg<|mv E rfl fun a E=>lv E ok (qaE qgy hs_0 rfl) fun a E=>?_
 refine mv E rfl fun a E=>wn<|wp_block ?_
 obtain ⟨M9,ok,h10⟩:=qdI (e:=5) (k:=1) (R:=(pI .u8)) ok
 obtain ⟨o11,hL,hF⟩:=bnd hF
 refine qaO _ (fun (s:Int × Builder) a w=>∃ c13 c15 M16,Ok u m0 (M16 :: [(b1,oc 88 [c13,c15])] :: S) w ∧ Env 33 a [(3,vp b1),(8,vs_0),(9,(vi (s_0.length:Int))),(10,vi s.1)] ∧ InR .i64 s.1 ∧ BAd b1 c13 ∧ ORow 5 1 (pI .u8) m0 c15 s.2.buf M16) (fun (b:Builder) e a w=>e = (.exit 0) ∧ ∃ c118 c120 M121,Ok u m0 (M121 :: [(b1,oc 88 [c118,c120])] :: S) w ∧ Env 33 a [(3,vp b1)] ∧ BAd b1 c118 ∧ ORow 5 1 (pI .u8) m0 c120 b.buf M121) ?_ ?_ N _ a w hL ⟨(Value.pointer none),(Value.slice none 0 0),M9,ok,E.keep [3,8,9,10],(ir 0),(.inl rfl),h10⟩
 rotate_left
 ·intro e a w _ hO
  obtain ⟨rfl,c112,c114,M115,ok,E,h113,h116⟩:=hO
  refine qaS<|qaa<|sg ?_
  replace ok:Ok u m0 ([(b1,oc 88 [c112,c114])] :: M115 :: S) w:=(ok.pk 2 [1,0] rfl (by decide))
  refine qaz E qno rfl (qig Tryz.lays169 Tryz.Builder_Extra_169 h116 ok) rfl rfl ?_
  rintro _ w ⟨⟨rfl,ok⟩,l117⟩
  refine ⟨_,rfl,fun a E=>?_⟩
  refine aw E rfl fun a E=>wp_ret ?_
  exact fin hF ⟨ok,E.d,⟨rv_t E rfl,trivial⟩,l117⟩
 rintro ⟨x_18,x_19⟩ a w r ⟨c21,c23,M24,ok,E,r20,h22,h25⟩ hF
 replace hF:qgv N s_0 x_18 x_19 = some r:=hF
 unfold qgv at hF
 refine sg<|lw E (qaA rfl rfl) fun a E=>wn<|wp_seq<|cf E rfl hF (fun hc26 hF=>?_) fun hc26 hF=>?_
 rotate_left
 ·refine wp_exit<|qaB ?_
  obtain rfl:=sj hF
  exact so (⟨rfl,⟨c21,c23,M24,ok,E.keep [3],h22,h25⟩⟩)
 refine wp_skip<|qaa<|wp_seq<|wp_block<|sg ?_
 obtain ⟨x27,e28,hF⟩:=bnd hF
 obtain ⟨b29,o30,es31,hl32,rr33,at34,yy35⟩:=qaN qgy hs_0 e28 (P:=Tryz.prog) (X:=.tmp 8) (I:=.tmp 10) (kd:=.i64) (qah E rfl) (qah E rfl)
 obtain ⟨c37,rfl,l36,h38⟩:=rr33
 refine lv E ok (yy35 _ _) fun a E=>lv E ok (qat (cs:=[vs x27.Name,c37]) qjl rfl rfl (qae.ro at34)) fun a E=>qaC E ok qgl rfl rfl fun b39 a w E ok=>qai E ok 0 rfl rfl rfl qjs rfl rfl ⟨rfl,(qa0 h38),trivial⟩ rfl rfl fun w ok=>wn<|sg ?_
 refine fv E qiE rfl fun a E=>ld E ok qav 0 rfl rfl rfl fun a E=>?_
 obtain ⟨s40,e41,hF⟩:=bnd hF
 refine lw E (qa5 rfl rfl e41) fun a E=>?_
 obtain ⟨s42,e43,hF⟩:=bnd hF
 refine lw E (qa5 rfl rfl e43) fun a E=>?_
 obtain ⟨r44,e45,hF⟩:=bnd hF
 replace ok:Ok u m0 ([(b1,oc 88 [c21,c23])] :: M24 :: [(b39,oc 111 [vs x27.Name,c37])] :: S) w:=(ok.pk 3 [2,1,0] rfl (by decide))
 refine qaz E qf9 rfl (qaW N s42 (qa1 e43) (Builder.mk () x_19.buf) h22 h25 e45 hG ok) rfl rfl ?_
 rintro _ w ⟨c47,c49,M50,⟨rfl,ok⟩,r46,h48,h51⟩
 refine ⟨_,rfl,fun a E=>?_⟩
 refine wn<|sg<|fv E qgp rfl fun a E=>ld E ok qhD 2 rfl rfl rfl fun a E=>lv E ok (qaE qfU h38 rfl) fun a E=>mv E rfl fun a E=>?_
 refine wn<|wp_block ?_
 obtain ⟨o59,hL,hF⟩:=bnd hF
 refine qaO _ (fun (s:Int × Builder) a w=>∃ c61 c63 M64,Ok u m0 ([(b1,oc 88 [c61,c63])] :: M64 :: [(b39,oc 111 [vs x27.Name,c37])] :: S) w ∧ Env 33 a [(3,vp b1),(8,vs_0),(9,(vi (s_0.length:Int))),(10,vi x_18),(20,c37),(21,(vi (x27.Rules.length:Int))),(22,vi s.1)] ∧ InR .i64 s.1 ∧ BAd b1 c61 ∧ ORow 5 1 (pI .u8) m0 c63 s.2.buf M64) (fun (b:Builder) e a w=>e = (.exit 2) ∧ ∃ c107 c109 M110,Ok u m0 ([(b1,oc 88 [c107,c109])] :: M110 :: [(b39,oc 111 [vs x27.Name,c37])] :: S) w ∧ Env 33 a [(3,vp b1),(8,vs_0),(9,(vi (s_0.length:Int))),(10,vi x_18)] ∧ BAd b1 c107 ∧ ORow 5 1 (pI .u8) m0 c109 b.buf M110) ?_ ?_ N _ a w hL ⟨c47,c49,M50,ok,E.keep [3,8,9,10,20,21,22],(ir 0),h48,h51⟩
 rotate_left
 ·intro e a w _ hO
  obtain ⟨rfl,c102,c104,M105,ok,E,h103,h106⟩:=hO
  refine qaS<|qaq<|qaa<|qab<|lw E (qaG rfl rfl (InR.inc r20 (qas hs_0) hc26)) fun a E=>mv E rfl fun a E=>wpList_nil ?_
  obtain rfl:=sj hF
  exact qay ⟨c102,c104,M105,(ok.pk 3 [1,0] rfl (by decide)),E.keep [3,8,9,10],(InR.inc r20 (qas hs_0) hc26),h103,h106⟩
 rintro ⟨x_66,x_67⟩ a w r ⟨c69,c71,M72,ok,E,r68,h70,h73⟩ hF
 replace hF:qgk N x27 x_66 x_67 = some r:=hF
 unfold qgk at hF
 refine sg<|lw E (qaA rfl rfl) fun a E=>wn<|wp_seq<|cf E rfl hF (fun hc74 hF=>?_) fun hc74 hF=>?_
 rotate_left
 ·refine wp_exit<|qaB ?_
  obtain rfl:=sj hF
  exact so (⟨rfl,⟨c69,c71,M72,ok,E.keep [3,8,9,10],h70,h73⟩⟩)
 refine wp_skip<|qaa<|wp_seq<|wp_block<|sg ?_
 obtain ⟨x75,e76,hF⟩:=bnd hF
 obtain ⟨b77,o78,es79,hl80,rr81,at82,yy83⟩:=qaN qfU h38 e76 (P:=Tryz.prog) (X:=.tmp 20) (I:=.tmp 22) (kd:=.i64) (qah E rfl) (qah E rfl)
 obtain ⟨c85,rfl,l84,h86,l87⟩:=rr81
 refine lv E ok (yy83 _ _) fun a E=>lv E ok (qat (cs:=[vs x75.Kind,c85,vs x75.Next]) qii rfl rfl (qae.ro at82)) fun a E=>qaC E ok qg0 rfl rfl fun b88 a w E ok=>qai E ok 0 rfl rfl rfl qk4 rfl rfl ⟨rfl,(qa0 h86),rfl,trivial⟩ rfl rfl fun w ok=>wn<|qab<|lv E ok (qat (cs:=[vs x75.Kind,c85,vs x75.Next]) qii rfl rfl (qae.own 0 rfl rfl)) fun a E=>?_
 obtain ⟨r89,e90,hF⟩:=bnd hF
 refine qaz E qux rfl (qoy N _ x75 ⟨_,rfl,l84,h86,l87⟩ e90 hG ok) rfl rfl ?_
 rintro _ w ⟨⟨rfl,ok⟩,l91⟩
 refine ⟨_,rfl,fun a E=>?_⟩
 obtain ⟨s92,e93,hF⟩:=bnd hF
 refine lw E (qa5 rfl rfl e93) fun a E=>?_
 obtain ⟨r94,e95,hF⟩:=bnd hF
 replace ok:Ok u m0 ([(b1,oc 88 [c69,c71])] :: M72 :: [(b88,oc 118 [vs x75.Kind,c85,vs x75.Next])] :: [(b39,oc 111 [vs x27.Name,c37])] :: S) w:=(ok.pk 4 [1,2,0,3] rfl (by decide))
 refine qaz E qf9 rfl (qaW N s92 (qa1 e93) (Builder.mk () x_67.buf) h70 h73 e95 hG ok) rfl rfl ?_
 rintro _ w ⟨c97,c99,M100,⟨rfl,ok⟩,r96,h98,h101⟩
 refine ⟨_,rfl,fun a E=>?_⟩
 refine wpList_nil<|qaq<|qaa<|qab<|lw E (qaG rfl rfl (InR.inc r68 (qas h38) hc74)) fun a E=>mv E rfl fun a E=>wpList_nil ?_
 obtain rfl:=sj hF
 exact qay ⟨c97,c99,M100,(ok.pk 4 [0,1,3] rfl (by decide)),E.keep [3,8,9,10,20,21,22],(InR.inc r68 (qas h38) hc74),h98,h101⟩
def qhe (u:World) (m0:Mem) (S:Segs) (r:Bool) (a:Act) (w:World):Prop :=
 Ok u m0 S w ∧ a.defers = [] ∧ RVs Tryz.prog a w [.t 2 (.bool r)]
theorem qkx (N:Nat) (vs_0:Value) (s_0:List (State)) (hs_0:(pL 2 qbU) m0 [vs_0] s_0) {r:Bool} (hF:qgE N s_0 = some r) (hG:Glob u) (ok:Ok u m0 S w) :
  Calls Tryz.prog 34 [vs_0].toArray w fun e w'=>(e = .returned (.bool r) ∧ Ok u m0 S w'):=by
 unfold qgE at hF
 refine en (qhe u m0 S) r Tryz.func34 rfl rfl rfl (by rintro a w ⟨ok,hd,hrv⟩; exact qaM [.t 2 (.bool r)] hd rfl hrv ⟨rfl,ok⟩) fun fin a E=>sg<|aw E rfl fun a E=>wp_seq<|wp_seq ?_
 refine qab<|mv E rfl fun a E=>lv E ok (qaE qgy hs_0 rfl) fun a E=>lw E (qaA rfl rfl) fun a E=>mv E rfl fun a E=>qap (decide ((s_0.length:Int) < 1)) (fun hc1=>?_) (fun hc1=>?_)
 ·replace hF:=qak hc1 hF
  replace E:=E.upd 13 hc1 rfl
  refine ls E fun a E=>ls E fun a E=>ls E fun a E=>pt E rfl rfl fun a E=>wn<|c_if E rfl (fun _=>?_) (fun h=>by cases h)
  refine sg<|aw E rfl fun a E=>wp_ret<|qag ?_
  exact fin hF ⟨ok,E.d,⟨rv_t E rfl,trivial⟩⟩
 replace hF:=qaj hc1 hF
 replace E:=E.upd 13 hc1 rfl
 refine mv E rfl fun a E=>lv E ok (qaE qgy hs_0 rfl) fun a E=>lw E (qb9 rfl rfl) fun a E=>pf E rfl rfl fun a E=>wn<|cf E rfl hF (fun hc2 hF=>?_) fun hc2 hF=>?_
 ·refine sg<|aw E rfl fun a E=>wp_ret<|qag ?_
  exact fin hF ⟨ok,E.d,⟨rv_t E rfl,trivial⟩⟩
 refine wp_skip<|qaa<|sg<|qhW kS (oneV pB) E ok rfl rfl fun c3 M4 a w E ok h5=>aw E rfl fun a E=>?_
 refine wp_seq<|sg<|mv E rfl fun a E=>lv E ok (qaE qgy hs_0 rfl) fun a E=>mv E rfl fun a E=>wn ?_
 refine wp_block ?_
 obtain ⟨o11,hL,hF⟩:=bnd hF
 refine qaO _ (fun (s:Int × (List (List UInt8 × Bool))) a w=>∃ c13 M14,Ok u m0 (M14 :: S) w ∧ Env 85 a [(0,vs_0),(3,c13),(19,vs_0),(20,(vi (s_0.length:Int))),(21,vi s.1)] ∧ InR .i64 s.1 ∧ OMap kS (oneV pB) m0 c13 s.2 M14) (fun (b:(((List (List UInt8 × Bool))) ⊕ Bool)) e a w=>(Sum.elim (fun b108=>e = (.exit 0) ∧ ∃ c109 M110,Ok u m0 (M110 :: S) w ∧ Env 85 a [(0,vs_0),(3,c109)] ∧ OMap kS (oneV pB) m0 c109 b108 M110) (fun b112=>e = .ret ∧ qhe u m0 S b112 a w)) b) ?_ ?_ N _ a w hL ⟨c3,M4,ok,E.keep [0,3,19,20,21],(ir 0),h5⟩
 ·as_aux_lemma =>
   rintro ⟨x_16,names_17⟩ a w r ⟨c19,M20,ok,E,r18,h21⟩ hF
   replace hF:qdE N s_0 x_16 names_17 = some r:=hF
   unfold qdE at hF
   refine sg<|lw E (qaA rfl rfl) fun a E=>wn<|wp_seq<|cf E rfl hF (fun hc22 hF=>?_) fun hc22 hF=>?_
   rotate_left
   ·refine wp_exit<|qaB ?_
    obtain rfl:=sj hF
    exact so (sl ⟨rfl,⟨c19,M20,ok,E.keep [0,3],h21⟩⟩)
   refine wp_skip<|qaa<|wp_seq<|wp_block<|sg ?_
   obtain ⟨x23,e24,hF⟩:=bnd hF
   obtain ⟨b25,o26,es27,hl28,rr29,at30,yy31⟩:=qaN qgy hs_0 e24 (P:=Tryz.prog) (X:=.tmp 19) (I:=.tmp 21) (kd:=.i64) (qah E rfl) (qah E rfl)
   obtain ⟨c33,rfl,l32,h34⟩:=rr29
   refine lv E ok (yy31 _ _) fun a E=>lv E ok (qat (cs:=[vs x23.Name,c33]) qjl rfl rfl (qae.ro at30)) fun a E=>qaC E ok qgl rfl rfl fun b35 a w E ok=>qai E ok 0 rfl rfl rfl qjs rfl rfl ⟨rfl,(qa0 h34),trivial⟩ rfl rfl fun w ok=>wn<|wp_seq<|wp_seq ?_
   refine qab<|fv E qiE rfl fun a E=>ld E ok qav 0 rfl rfl rfl fun a E=>?_
   obtain ⟨r36,e37,hF⟩:=bnd hF
   refine lc E qpq rfl (qiY N x23.Name l32 e37 hG ok) fun w ok a E=>lw E (qbQ rfl) fun a E=>mv E rfl fun a E=>qap (!r36) (fun hc38=>?_) (fun hc38=>?_)
   ·replace hF:=qak hc38 hF
    replace E:=E.upd 29 hc38 rfl
    refine ls E fun a E=>ls E fun a E=>ls E fun a E=>ls E fun a E=>pt E rfl rfl fun a E=>mv E rfl fun a E=>ls E fun a E=>ls E fun a E=>?_
    refine ls E fun a E=>ls E fun a E=>pt E rfl rfl fun a E=>mv E rfl fun a E=>ls E fun a E=>ls E fun a E=>ls E fun a E=>ls E fun a E=>?_
    refine pt E rfl rfl fun a E=>wn<|c_if E rfl (fun _=>?_) (fun h=>by cases h)
    refine sg<|aw E rfl fun a E=>wp_ret<|qag<|qan ?_
    refine qag ?_
    obtain rfl:=sj hF
    exact so (sr ⟨rfl,⟨ok.drop.drop,E.d,⟨rv_t E rfl,trivial⟩⟩⟩)
   replace hF:=qaj hc38 hF
   replace E:=E.upd 29 hc38 rfl
   refine mv E rfl fun a E=>fv E qiE rfl fun a E=>ld E ok qav 0 rfl rfl rfl fun a E=>?_
   obtain ⟨xv39,h40,yy41,yy42⟩:=qkQ (P:=Tryz.prog) (mo:=.tmp 30) (ko:=.tmp 32) (zx:=(false:Bool)) ok 1 (qd5 Tryz.underlying9) Tryz.underlying95 h21 rfl (qah E rfl) (qah E rfl) ⟨rfl,l32⟩ qkO qiI
   obtain rfl:=qkq h40
   refine lv E ok (yy41 _) fun a E=>pf E rfl rfl fun a E=>mv E rfl fun a E=>qap ((mget names_17 x23.Name).getD false) (fun hc43=>?_) (fun hc43=>?_)
   ·replace hF:=qak hc43 hF
    replace E:=E.upd 35 hc43 rfl
    refine ls E fun a E=>ls E fun a E=>ls E fun a E=>ls E fun a E=>pt E rfl rfl fun a E=>mv E rfl fun a E=>ls E fun a E=>ls E fun a E=>?_
    refine ls E fun a E=>ls E fun a E=>pt E rfl rfl fun a E=>wn<|c_if E rfl (fun _=>?_) (fun h=>by cases h)
    refine sg<|aw E rfl fun a E=>wp_ret<|qag<|qan ?_
    refine qag ?_
    obtain rfl:=sj hF
    exact so (sr ⟨rfl,⟨ok.drop.drop,E.d,⟨rv_t E rfl,trivial⟩⟩⟩)
   replace hF:=qaj hc43 hF
   replace E:=E.upd 35 hc43 rfl
   refine fv E qgp rfl fun a E=>ld E ok qhD 0 rfl rfl rfl fun a E=>lv E ok (qaE qfU h34 rfl) fun a E=>lw E (qaA rfl rfl) fun a E=>pf E rfl rfl fun a E=>mv E rfl fun a E=>qap (decide ((x23.Rules.length:Int) < 1)) (fun hc44=>?_) (fun hc44=>?_)
   ·replace hF:=qak hc44 hF
    replace E:=E.upd 41 hc44 rfl
    refine ls E fun a E=>ls E fun a E=>ls E fun a E=>ls E fun a E=>pt E rfl rfl fun a E=>wn<|c_if E rfl (fun _=>?_) (fun h=>by cases h)
    refine sg<|aw E rfl fun a E=>wp_ret<|qag<|qan ?_
    refine qag ?_
    obtain rfl:=sj hF
    exact so (sr ⟨rfl,⟨ok.drop.drop,E.d,⟨rv_t E rfl,trivial⟩⟩⟩)
   replace hF:=qaj hc44 hF
   replace E:=E.upd 41 hc44 rfl
   refine fv E qgp rfl fun a E=>ld E ok qhD 0 rfl rfl rfl fun a E=>lv E ok (qaE qfU h34 rfl) fun a E=>lw E (qb9 rfl rfl) fun a E=>pf E rfl rfl fun a E=>wn<|cf E rfl hF (fun hc45 hF=>?_) fun hc45 hF=>?_
   ·refine sg<|aw E rfl fun a E=>wp_ret<|qag<|qan ?_
    refine qag ?_
    obtain rfl:=sj hF
    exact so (sr ⟨rfl,⟨ok.drop.drop,E.d,⟨rv_t E rfl,trivial⟩⟩⟩)
   refine wp_skip<|qaa<|qab<|mv E rfl fun a E=>fv E qiE rfl fun a E=>ld E ok qav 0 rfl rfl rfl fun a E=>?_
   obtain ⟨l46,e47,hF⟩:=bnd hF
   refine qjf (.inl rfl) E ok 1 (qd5 Tryz.underlying9) Tryz.underlying95 h21 rfl rfl rfl rfl ⟨rfl,l32⟩ qiI e47 rfl fun M48 w ok h49=>wpList_nil<|qaq<|qaa<|qab<|lw E (qaG rfl rfl (InR.inc r18 (qas hs_0) hc22)) fun a E=>mv E rfl fun a E=>wpList_nil ?_
   obtain rfl:=sj hF
   exact qay ⟨c19,M48,(ok.pk 2 [1] rfl (by decide)),E.keep [0,3,19,20,21],(InR.inc r18 (qas hs_0) hc22),h49⟩
 intro e a w _ hO
 rcases o11 with o11 | o11
 rotate_left
 ·replace hF:=qbf hF
  obtain ⟨rfl,hret⟩:=hO
  refine qan<|qag ?_
  exact fin hF hret
 replace hF:=qbe hF
 obtain ⟨rfl,c50,M51,ok,E,h52⟩:=hO
 refine qaS<|qaa<|wp_seq<|sg<|mv E rfl fun a E=>lv E ok (qaE qgy hs_0 rfl) fun a E=>mv E rfl fun a E=>?_
 refine wn<|wp_block ?_
 obtain ⟨o54,hL,hF⟩:=bnd hF
 refine qaO _ (fun (s:Int) a w=>Ok u m0 (M51 :: S) w ∧ Env 85 a [(0,vs_0),(3,c50),(51,vs_0),(52,(vi (s_0.length:Int))),(53,vi s)] ∧ InR .i64 s) (fun (b:(Unit ⊕ Bool)) e a w=>(Sum.elim (fun b106=>e = (.exit 2) ∧ Ok u m0 (M51 :: S) w ∧ Env 85 a [(0,vs_0)]) (fun b107=>e = .ret ∧ qhe u m0 S b107 a w)) b) ?_ ?_ N _ a w hL ⟨ok,E.keep [0,3,51,52,53],(ir 0)⟩
 rotate_left
 ·intro e a w _ hO
  rcases o54 with o54 | o54
  rotate_left
  ·replace hF:=qbf hF
   obtain ⟨rfl,hret⟩:=hO
   refine qan<|qag ?_
   exact fin hF hret
  replace hF:=qbe hF
  obtain ⟨rfl,ok,E⟩:=hO
  refine qaS<|qaa<|sg<|mv E rfl fun a E=>?_
  obtain ⟨r103,e104,hF⟩:=bnd hF
  refine qaz E qtQ rfl (qor N _ s_0 hs_0 e104 hG ok) rfl rfl ?_
  rintro _ w ⟨⟨rfl,ok⟩,l105⟩
  refine ⟨_,rfl,fun a E=>?_⟩
  refine lw E (qaV Tryz.underlying9 rfl) fun a E=>lw E (qcj rfl rfl) fun a E=>aw E rfl fun a E=>wp_ret ?_
  exact fin hF ⟨ok.drop,E.d,⟨rv_t E rfl,trivial⟩⟩
 rintro x_56 a w r ⟨ok,E,r57⟩ hF
 replace hF:qd2 N s_0 o11 x_56 = some r:=hF
 unfold qd2 at hF
 refine sg<|lw E (qaA rfl rfl) fun a E=>wn<|wp_seq<|cf E rfl hF (fun hc58 hF=>?_) fun hc58 hF=>?_
 rotate_left
 ·refine wp_exit<|qaB ?_
  obtain rfl:=sj hF
  exact so (sl ⟨rfl,⟨ok,E.keep [0]⟩⟩)
 refine wp_skip<|qaa<|wp_seq<|wp_block<|sg ?_
 obtain ⟨x59,e60,hF⟩:=bnd hF
 obtain ⟨b61,o62,es63,hl64,rr65,at66,yy67⟩:=qaN qgy hs_0 e60 (P:=Tryz.prog) (X:=.tmp 51) (I:=.tmp 53) (kd:=.i64) (qah E rfl) (qah E rfl)
 obtain ⟨c69,rfl,l68,h70⟩:=rr65
 refine lv E ok (yy67 _ _) fun a E=>lv E ok (qat (cs:=[vs x59.Name,c69]) qjl rfl rfl (qae.ro at66)) fun a E=>qaC E ok qgl rfl rfl fun b71 a w E ok=>qai E ok 0 rfl rfl rfl qjs rfl rfl ⟨rfl,(qa0 h70),trivial⟩ rfl rfl fun w ok=>wn<|sg ?_
 refine fv E qgp rfl fun a E=>ld E ok qhD 0 rfl rfl rfl fun a E=>lv E ok (qaE qfU h70 rfl) fun a E=>mv E rfl fun a E=>wn<|wp_block ?_
 obtain ⟨o73,hL,hF⟩:=bnd hF
 refine qaO _ (fun (s:Int) a w=>Ok u m0 ([(b71,oc 111 [vs x59.Name,c69])] :: M51 :: S) w ∧ Env 85 a [(0,vs_0),(3,c50),(51,vs_0),(52,(vi (s_0.length:Int))),(53,vi x_56),(58,c69),(59,(vi (x59.Rules.length:Int))),(60,vi s)] ∧ InR .i64 s) (fun (b:(Unit ⊕ Bool)) e a w=>(Sum.elim (fun b101=>e = (.exit 4) ∧ Ok u m0 ([(b71,oc 111 [vs x59.Name,c69])] :: M51 :: S) w ∧ Env 85 a [(0,vs_0),(3,c50),(51,vs_0),(52,(vi (s_0.length:Int))),(53,vi x_56)]) (fun b102=>e = .ret ∧ qhe u m0 S b102 a w)) b) ?_ ?_ N _ a w hL ⟨ok,E.keep [0,3,51,52,53,58,59,60],(ir 0)⟩
 rotate_left
 ·intro e a w _ hO
  rcases o73 with o73 | o73
  rotate_left
  ·replace hF:=qbf hF
   obtain ⟨rfl,hret⟩:=hO
   refine qan<|qan<|qag ?_
   obtain rfl:=sj hF
   exact so (sr ⟨rfl,hret⟩)
  replace hF:=qbe hF
  obtain ⟨rfl,ok,E⟩:=hO
  refine qaS<|qaq<|qaa<|qab<|lw E (qaG rfl rfl (InR.inc r57 (qas hs_0) hc58)) fun a E=>mv E rfl fun a E=>wpList_nil ?_
  obtain rfl:=sj hF
  exact qay ⟨(ok.pk 2 [1] rfl (by decide)),E.keep [0,3,51,52,53],(InR.inc r57 (qas hs_0) hc58)⟩
 rintro x_75 a w r ⟨ok,E,r76⟩ hF
 replace hF:qd3 N o11 x59 x_75 = some r:=hF
 unfold qd3 at hF
 refine sg<|lw E (qaA rfl rfl) fun a E=>wn<|wp_seq<|cf E rfl hF (fun hc77 hF=>?_) fun hc77 hF=>?_
 rotate_left
 ·refine wp_exit<|qaB ?_
  obtain rfl:=sj hF
  exact so (sl ⟨rfl,⟨ok,E.keep [0,3,51,52,53]⟩⟩)
 refine wp_skip<|qaa<|wp_seq<|wp_block<|sg ?_
 obtain ⟨x78,e79,hF⟩:=bnd hF
 obtain ⟨b80,o81,es82,hl83,rr84,at85,yy86⟩:=qaN qfU h70 e79 (P:=Tryz.prog) (X:=.tmp 58) (I:=.tmp 60) (kd:=.i64) (qah E rfl) (qah E rfl)
 obtain ⟨c88,rfl,l87,h89,l90⟩:=rr84
 refine lv E ok (yy86 _ _) fun a E=>lv E ok (qat (cs:=[vs x78.Kind,c88,vs x78.Next]) qii rfl rfl (qae.ro at85)) fun a E=>qaC E ok qg0 rfl rfl fun b91 a w E ok=>qai E ok 0 rfl rfl rfl qk4 rfl rfl ⟨rfl,(qa0 h89),rfl,trivial⟩ rfl rfl fun w ok=>wn<|sg ?_
 refine lv E ok (qat (cs:=[vs x78.Kind,c88,vs x78.Next]) qii rfl rfl (qae.own 0 rfl rfl)) fun a E=>?_
 obtain ⟨r92,e93,hF⟩:=bnd hF
 refine lc E qur rfl (qn1 N _ x78 ⟨_,rfl,l87,h89,l90⟩ e93 hG ok) fun w ok a E=>lw E (qbQ rfl) fun a E=>mv E rfl fun a E=>qap (!r92) (fun hc94=>?_) (fun hc94=>?_)
 ·replace hF:=qak hc94 hF
  replace E:=E.upd 67 hc94 rfl
  refine ls E fun a E=>ls E fun a E=>ls E fun a E=>ls E fun a E=>ls E fun a E=>ls E fun a E=>ls E fun a E=>ls E fun a E=>?_
  refine ls E fun a E=>ls E fun a E=>pt E rfl rfl fun a E=>wn<|c_if E rfl (fun _=>?_) (fun h=>by cases h)
  refine sg<|aw E rfl fun a E=>wp_ret<|qan<|qag ?_
  obtain rfl:=sj hF
  exact so (sr ⟨rfl,⟨ok.drop.drop.drop,E.d,⟨rv_t E rfl,trivial⟩⟩⟩)
 replace hF:=qaj hc94 hF
 replace E:=E.upd 67 hc94 rfl
 refine fv E qgt rfl fun a E=>ld E ok qav 0 rfl rfl rfl fun a E=>lw E (qcn rfl rfl) fun a E=>mv E rfl fun a E=>qap (x78.Next != ([])) (fun hc95=>?_) (fun hc95=>?_)
 rotate_left
 ·replace hF:=qaj hc95 hF
  replace E:=E.upd 71 hc95 rfl
  refine ls E fun a E=>ls E fun a E=>ls E fun a E=>ls E fun a E=>ls E fun a E=>pf E rfl rfl fun a E=>pf E rfl rfl fun a E=>wpList_nil ?_
  refine qaa<|c_if E rfl (fun h=>by cases h) (fun _=>?_)
  refine wp_skip<|qaq<|qaa<|qab<|lw E (qaG rfl rfl (InR.inc r76 (qas h70) hc77)) fun a E=>mv E rfl fun a E=>wpList_nil ?_
  obtain rfl:=sj hF
  exact qay ⟨(ok.pk 3 [1,2] rfl (by decide)),E.keep [0,3,51,52,53,58,59,60],(InR.inc r76 (qas h70) hc77)⟩
 replace hF:=qak hc95 hF
 replace E:=E.upd 71 hc95 rfl
 refine mv E rfl fun a E=>fv E qgt rfl fun a E=>ld E ok qav 0 rfl rfl rfl fun a E=>?_
 obtain ⟨xv96,h97,yy98,yy99⟩:=qkQ (P:=Tryz.prog) (mo:=.tmp 72) (ko:=.tmp 74) (zx:=(false:Bool)) ok 2 (qd5 Tryz.underlying9) Tryz.underlying95 h52 rfl (qah E rfl) (qah E rfl) ⟨rfl,l90⟩ qkO qiI
 obtain rfl:=qkq h97
 refine lv E ok (yy98 _) fun a E=>lw E (qbQ rfl) fun a E=>pt E rfl rfl fun a E=>pf E rfl rfl fun a E=>wn<|cf E rfl hF (fun hc100 hF=>?_) fun hc100 hF=>?_
 rotate_left
 ·refine wp_skip<|qaq<|qaa<|qab<|lw E (qaG rfl rfl (InR.inc r76 (qas h70) hc77)) fun a E=>mv E rfl fun a E=>wpList_nil ?_
  obtain rfl:=sj hF
  exact qay ⟨(ok.pk 3 [1,2] rfl (by decide)),E.keep [0,3,51,52,53,58,59,60],(InR.inc r76 (qas h70) hc77)⟩
 refine sg<|aw E rfl fun a E=>wp_ret<|qan<|qag ?_
 obtain rfl:=sj hF
 exact so (sr ⟨rfl,⟨ok.drop.drop.drop,E.d,⟨rv_t E rfl,trivial⟩⟩⟩)
def qmC (u:World) (m0:Mem) (S:Segs) (pb0:Nat) (x0:Int) (r:Bool) (a:Act) (w:World):Prop :=
 Ok u m0 ([(pb0,oc 3 [vi x0])] :: S) w ∧ a.defers = [] ∧ RVs Tryz.prog a w [.t 3 (.bool r)]
theorem qmn (N:Nat) (vr_0:List Value) (r_0:Range) (hr_0:qbK m0 vr_0 r_0) {pb0:Nat} (x0:Int) (r3:InR .i64 x0) {r:Bool} (hF:qhk N r_0 x0 = some r) (hG:Glob u) (ok:Ok u m0 ([(pb0,oc 3 [vi x0])] :: S) w) :
  Calls Tryz.prog 125 [.agg vr_0.toArray,vp pb0].toArray w fun e w'=>(e = .returned (.bool r) ∧ Ok u m0 ([(pb0,oc 3 [vi x0])] :: S) w'):=by
 obtain ⟨rfl,r1,r2⟩:=hr_0
 unfold qhk at hF
 refine en (qmC u m0 S pb0 x0) r Tryz.func125 rfl rfl rfl (by rintro a w ⟨ok,hd,hrv⟩; exact qaM [.t 3 (.bool r)] hd rfl hrv ⟨rfl,ok⟩) fun fin a E=>sg<|qdk E ok rfl rfl rfl fun b4 a w E ok=>aw E rfl fun a E=>wp_seq ?_
 refine qab<|ld E ok qaZ 1 rfl rfl rfl fun a E=>lv E ok (qkB Tryz.underlying3 Tryz.underlying5 rfl) fun a E=>fv E qjS rfl fun a E=>ld E ok qfb 0 rfl rfl rfl fun a E=>lw E (qbo rfl rfl) fun a E=>mv E rfl fun a E=>qap (decide ((IntKind.wrap .u8 x0) ≥ r_0.From)) (fun hc5=>?_) (fun hc5=>?_)
 ·replace hF:=qak hc5 hF
  replace E:=E.upd 9 hc5 rfl
  refine ld E ok qaZ 1 rfl rfl rfl fun a E=>lv E ok (qkB Tryz.underlying3 Tryz.underlying5 rfl) fun a E=>fv E qjO rfl fun a E=>ld E ok qfb 0 rfl rfl rfl fun a E=>lw E (qcj rfl rfl) fun a E=>pt E rfl rfl fun a E=>av E rfl fun a E=>wpList_nil ?_
  refine qaa<|wp_ret ?_
  exact fin hF ⟨ok.drop,E.d,⟨rv_t E rfl,trivial⟩⟩
 replace hF:=qaj hc5 hF
 replace E:=E.upd 9 hc5 rfl
 refine ls E fun a E=>ls E fun a E=>ls E fun a E=>ls E fun a E=>ls E fun a E=>pf E rfl rfl fun a E=>av E rfl fun a E=>wpList_nil ?_
 refine qaa<|wp_ret ?_
 exact fin hF ⟨ok.drop,E.d,⟨rv_t E rfl,trivial⟩⟩
def qcS (u:World) (m0:Mem) (S:Segs) (pb0:Nat) (x0:Int) (r:Int) (a:Act) (w:World):Prop :=
 Ok u m0 ([(pb0,oc 3 [vi x0])] :: S) w ∧ a.defers = [] ∧ RVs Tryz.prog a w [.t 4 (.int .i64 r)] ∧ InR .i64 r
theorem qeV (N:Nat) (vs_0:Value) (s_0:List (Range)) (hs_0:(pL 2 qbK) m0 [vs_0] s_0) {pb0:Nat} (x0:Int) (r1:InR .i64 x0) {r:Int} (hF:qbL N s_0 x0 = some r) (hG:Glob u) (ok:Ok u m0 ([(pb0,oc 3 [vi x0])] :: S) w) :
  Calls Tryz.prog 122 [vs_0,Value.func (.func 125) #[] #[.pointer (some ⟨pb0,0,none⟩)]].toArray w fun e w'=>(e = .returned (.int .i64 r) ∧ Ok u m0 ([(pb0,oc 3 [vi x0])] :: S) w') ∧ InR .i64 r:=by
 unfold qbL at hF
 refine en (qcS u m0 S pb0 x0) r Tryz.func122 rfl rfl rfl (by rintro a w ⟨ok,hd,hrv,h0⟩; exact qaM [.t 4 (.int .i64 r)] hd rfl hrv ⟨⟨rfl,ok⟩,h0⟩) fun fin a E=>sg<|aw E rfl fun a E=>wp_seq<|wp_seq ?_
 refine qab<|mv E rfl fun a E=>lv E ok (qaE qgs hs_0 rfl) fun a E=>mv E rfl fun a E=>wn<|wp_block ?_
 obtain ⟨o3,hL,hF⟩:=bnd hF
 refine qaO _ (fun (s:Int) a w=>Ok u m0 ([(pb0,oc 3 [vi x0])] :: S) w ∧ Env 19 a [(0,vs_0),(1,(Value.func (.func 125) #[] #[.pointer (some ⟨pb0,0,none⟩)])),(7,(vi (s_0.length:Int))),(8,vi s)] ∧ InR .i64 s) (fun (b:(Unit ⊕ Int)) e a w=>(Sum.elim (fun b22=>e = (.exit 0) ∧ Ok u m0 ([(pb0,oc 3 [vi x0])] :: S) w ∧ Env 19 a []) (fun b23=>e = .ret ∧ qcS u m0 S pb0 x0 b23 a w)) b) ?_ ?_ N _ a w hL ⟨ok,E.keep [0,1,7,8],(ir 0)⟩
 rotate_left
 ·intro e a w _ hO
  rcases o3 with o3 | o3
  rotate_left
  ·replace hF:=qbf hF
   obtain ⟨rfl,hret⟩:=hO
   refine qan<|qag ?_
   exact fin hF hret
  replace hF:=qbe hF
  obtain ⟨rfl,ok,E⟩:=hO
  refine qaS<|qaa<|sg<|aw E rfl fun a E=>wp_ret ?_
  exact fin hF ⟨ok,E.d,⟨rv_t E rfl,trivial⟩,(ir (-1))⟩
 rintro x_5 a w r ⟨ok,E,r6⟩ hF
 replace hF:qbs N s_0 x0 x_5 = some r:=hF
 unfold qbs at hF
 refine sg<|lw E (qaA rfl rfl) fun a E=>wn<|wp_seq<|cf E rfl hF (fun hc7 hF=>?_) fun hc7 hF=>?_
 rotate_left
 ·refine wp_exit<|qaB ?_
  obtain rfl:=sj hF
  exact so (sl ⟨rfl,⟨ok,E.keep []⟩⟩)
 refine wp_skip<|qaa<|wp_seq<|wp_block<|sg<|mv E rfl fun a E=>av E rfl fun a E=>?_
 refine wn<|sg<|mv E rfl fun a E=>mv E rfl fun a E=>mv E rfl fun a E=>?_
 obtain ⟨x8,e9,hF⟩:=bnd hF
 obtain ⟨b10,o11,es12,hl13,rr14,at15,yy16⟩:=qaN qgs hs_0 e9 (P:=Tryz.prog) (X:=.tmp 12) (I:=.tmp 13) (kd:=.i64) (qah E rfl) (qah E rfl)
 obtain ⟨rfl,r17,r18⟩:=rr14
 refine lv E ok (yy16 _ _) fun a E=>lv E ok (qat (cs:=[(Value.int .u8 x8.From),(Value.int .u8 x8.To)]) qmG rfl rfl (qae.ro at15)) fun a E=>?_
 obtain ⟨r19,e20,hF⟩:=bnd hF
 refine qoU E rfl qtn rfl (qmn N _ x8 ⟨rfl,r17,r18⟩ x0 r1 e20 hG ok) rfl rfl ?_
 rintro _ w ⟨rfl,ok⟩
 refine ⟨_,rfl,fun a E=>?_⟩
 refine wn<|cf E rfl hF (fun hc21 hF=>?_) fun hc21 hF=>?_
 rotate_left
 ·refine wp_skip<|qaq<|qaa<|qab<|lw E (qaG rfl rfl (InR.inc r6 (qas hs_0) hc7)) fun a E=>mv E rfl fun a E=>wpList_nil ?_
  obtain rfl:=sj hF
  exact qay ⟨ok,E.keep [0,1,7,8],(InR.inc r6 (qas hs_0) hc7)⟩
 refine sg<|mv E rfl fun a E=>aw E rfl fun a E=>wp_ret<|qan ?_
 refine qag ?_
 obtain rfl:=sj hF
 exact so (sr ⟨rfl,⟨ok,E.d,⟨rv_t E rfl,trivial⟩,r6⟩⟩)
def qeq (u:World) (m0:Mem) (S:Segs) (pb0:Nat) (x0:Int) (r:Bool) (a:Act) (w:World):Prop :=
 Ok u m0 ([(pb0,oc 3 [vi x0])] :: S) w ∧ a.defers = [] ∧ RVs Tryz.prog a w [.t 4 (.bool r)]
theorem qer (N:Nat) (vs_0:Value) (s_0:List (Range)) (hs_0:(pL 2 qbK) m0 [vs_0] s_0) {pb0:Nat} (x0:Int) (r1:InR .i64 x0) {r:Bool} (hF:qbq N s_0 x0 = some r) (hG:Glob u) (ok:Ok u m0 ([(pb0,oc 3 [vi x0])] :: S) w) :
  Calls Tryz.prog 96 [vs_0,Value.func (.func 125) #[] #[.pointer (some ⟨pb0,0,none⟩)]].toArray w fun e w'=>(e = .returned (.bool r) ∧ Ok u m0 ([(pb0,oc 3 [vi x0])] :: S) w'):=by
 unfold qbq at hF
 refine en (qeq u m0 S pb0 x0) r Tryz.func96 rfl rfl rfl (by rintro a w ⟨ok,hd,hrv⟩; exact qaM [.t 4 (.bool r)] hd rfl hrv ⟨rfl,ok⟩) fun fin a E=>sg<|aw E rfl fun a E=>sg ?_
 refine mv E rfl fun a E=>mv E rfl fun a E=>?_
 obtain ⟨r2,e3,hF⟩:=bnd hF
 refine qaz E qpQ rfl (qeV N _ s_0 hs_0 x0 r1 e3 hG ok) rfl rfl ?_
 rintro _ w ⟨⟨rfl,ok⟩,r4⟩
 refine ⟨_,rfl,fun a E=>?_⟩
 refine lw E (qbo rfl rfl) fun a E=>aw E rfl fun a E=>wp_ret ?_
 exact fin hF ⟨ok,E.d,⟨rv_t E rfl,trivial⟩⟩
def qnI (u:World) (m0:Mem) (S:Segs) (r:(Option (List Bool))) (a:Act) (w:World):Prop :=
 ∃ m1 v0,m0.le m1 ∧ Ok u m1 (S) w ∧ a.defers = [] ∧ RVs Tryz.prog a w [.t 2 v0] ∧ (pP 256 (pGB 256)) m1 [v0] r
theorem qnO (N:Nat) (vx_0:List Value) (x_0:Item) (hx_0:qbO m0 vx_0 x_0) {r:(Option (List Bool))} (hF:qhd N x_0 = some r) (hG:Glob u) (ok:Ok u m0 (S) w) :
  Calls Tryz.prog 99 [.agg vx_0.toArray].toArray w fun e w'=>∃ m1 v0,e = .returned v0 ∧ m0.le m1 ∧ Ok u m1 (S) w' ∧ (pP 256 (pGB 256)) m1 [v0] r:=by
 obtain ⟨c2,rfl,l1,h3,r4,r5⟩:=hx_0
 have le_m0:=Mem.le.refl m0
 unfold qhd at hF
 refine en (qnI u m0 S) r Tryz.func99 rfl rfl rfl (by rintro a w ⟨m1,v0,hle,ok,hd,hrv,h0⟩; exact qaM [.t 2 v0] hd rfl hrv ⟨m1,v0,rfl,hle,ok,h0⟩) fun fin a E=>sg<|qdk E ok rfl rfl rfl fun b6 a w E ok=>aw E rfl fun a E=>wp_seq ?_
 refine qab<|qaC E ok qrk rfl rfl fun b7 a w E ok=>wn<|wp_seq<|sg<|mv E rfl fun a E=>?_
 refine wn<|wp_block ?_
 obtain ⟨o11,hL,hF⟩:=bnd hF
 refine qaO _ (fun (s:Int × (List Bool)) a w=>Ok u m0 ([(b7,Obj.cells (List.toArray (List.map vb s.2)) 200 (0,0))] :: [(b6,oc 154 [vs x_0.Text,c2,vb x_0.Not,vi x_0.Least,vi x_0.Most])] :: S) w ∧ Env 18 a [(1,vp b6),(3,vp b7),(5,vi s.1)] ∧ InR .i64 s.1 ∧ s.2.length = 256) (fun (b:((List Bool))) e a w=>e = (.exit 0) ∧ Ok u m0 ([(b7,Obj.cells (List.toArray (List.map vb b)) 200 (0,0))] :: [(b6,oc 154 [vs x_0.Text,c2,vb x_0.Not,vi x_0.Least,vi x_0.Most])] :: S) w ∧ Env 18 a [(3,vp b7)] ∧ b.length = 256) ?_ ?_ N _ a w hL ⟨ok,E.keep [1,3,5],(ir 0),(by rw [List.length_replicate])⟩
 rotate_left
 ·intro e a w _ hO
  obtain ⟨rfl,ok,E,l31⟩:=hO
  refine qaS<|qaa<|sg<|aw E rfl fun a E=>wp_ret ?_
  have hbx:=(show (pGB 256) m0 (List.map vb o11) o11 from ⟨rfl,l31⟩)
  obtain ⟨m32,hle,ok,hfz⟩:=(ok.frs 0 rfl).freeze
  have h33:=qrV (k:=256) (mGB 256) hbx hle hfz (by rw [List.length_map]; exact l31)
  clear hbx
  have le_m0:=le_m0.trans hle
  have h3:=(mL qe0).up hle h3
  exact fin hF ⟨m32,vp b7,le_m0,ok.drop,E.d,⟨rv_t E rfl,trivial⟩,h33⟩
 rintro ⟨x_14,x_15⟩ a w r ⟨ok,E,r16,l17⟩ hF
 replace hF:qfN N x_0 x_14 x_15 = some r:=hF
 unfold qfN at hF
 refine sg<|lw E (qaA rfl rfl) fun a E=>wn<|wp_seq<|cf E rfl hF (fun hc18 hF=>?_) fun hc18 hF=>?_
 rotate_left
 ·refine wp_exit<|qaB ?_
  obtain rfl:=sj hF
  exact so (⟨rfl,⟨ok,E.keep [3],l17⟩⟩)
 refine wp_skip<|qaa<|wp_seq<|wp_block<|sg<|mv E rfl fun a E=>qaC E ok qqd rfl rfl fun b19 a w E ok=>?_
 refine qai E ok 0 rfl rfl rfl qey rfl rfl ⟨rfl,trivial⟩ rfl rfl fun w ok=>wn ?_
 obtain ⟨o20,hJ,hF⟩:=bnd hF
 refine qbx (Q':=fun e a w=>e = .normal ∧ Ok u m0 ([(b19,oc 3 [vi x_14])] :: [(b7,Obj.cells (List.toArray (List.map vb o20)) 200 (0,0))] :: [(b6,oc 154 [vs x_0.Text,c2,vb x_0.Not,vi x_0.Least,vi x_0.Most])] :: S) w ∧ Env 18 a [(1,vp b6),(3,vp b7),(5,vi x_14)] ∧ o20.length = 256) ?_ ?_
 rotate_left
 ·clear hJ
  intro e a w hO
  obtain ⟨rfl,ok,E,l30⟩:=hO
  refine qaq<|qaa<|qab<|lw E (qaG rfl rfl (InR.inc r16 (ir 256) hc18)) fun a E=>mv E rfl fun a E=>wpList_nil ?_
  obtain rfl:=sj hF
  exact qay ⟨(ok.pk 3 [1,2] rfl (by decide)),E.keep [1,3,5],(InR.inc r16 (ir 256) hc18),l30⟩
 replace hF:=hJ
 clear hJ
 obtain ⟨r22,e23,hF⟩:=bnd hF
 obtain ⟨x24,e25,hF⟩:=bnd hF
 obtain ⟨z26,e27,hF⟩:=bnd hF
 obtain rfl:=sj hF
 refine qcp [0,2,4] (Cls u m0 ([(b19,oc 3 [vi x_14])] :: [(b7,Obj.cells (List.toArray (List.map vb x_15)) 200 (0,0))] :: [(b6,oc 154 [vs x_0.Text,c2,vb x_0.Not,vi x_0.Least,vi x_0.Most])] :: [])) (Cls u m0 ([(b19,oc 3 [vi x_14])] :: [(b6,oc 154 [vs x_0.Text,c2,vb x_0.Not,vi x_0.Least,vi x_0.Most])] :: [])) (by kernel_rfl) ?_
 intro w hw
 replace ok:=qcD ok hw
 clear hw
 refine qam (cl1 (cq le_m0 ok [0,1,2] rfl) (cq le_m0 ok [0,2] rfl)) fun hT=>qbD 0 E rfl (by kernel_rfl) nP hT (qao qaZ rfl (qae.cown 0 rfl rfl)) rfl rfl fun a E=>kt 1 E rfl hT (qaf qlB rfl) fun a E=>qbD 2 E rfl (by kernel_rfl) nP hT (qao qhi rfl (qae.cown 2 rfl rfl)) rfl rfl fun a E=>kt 3 E rfl hT (qaf qgd rfl) fun a E=>qbD 4 E rfl (by kernel_rfl) nP hT (qao qhE rfl (qae.cown 2 rfl rfl)) rfl rfl fun a E=>kt 5 E rfl hT (qjH (caps:=[.tmp 4]) rfl) fun a E=>qau [6] (by kernel_rfl) rfl (qax ?_)
 ·refine wo rfl<|lc E qrU rfl (qer N _ x_0.Ranges h3 x_14 r16 e23 hG ok) fun w ok a E=>wn<|qam (cl1 (cq le_m0 ok [0,1,2] rfl) (cq le_m0 ok [0,2] rfl)) fun hT=>kt 7 E rfl hT (qti Tryz.underlying4 rfl rfl) fun a E=>kt 8 E rfl hT (qjj (f:=Value.bool) (q:=fun _=>True) qjy l17 rfl rfl e25) fun a E=>qau [9] (by kernel_rfl) rfl (qax ?_)
  ·refine qb7 (o:=_) rfl ?_
   have l29:=qoz e27 l17
   refine qpR (c:=List.map vb x_15) (c':=List.map vb z26) E ok 1 rfl rfl rfl qrG rfl rfl ⟨rfl,trivial⟩ (qt2 l17 e25) (quj e27) rfl fun w ok=>wn<|qam (cl2 (by kernel_rfl) (cq le_m0 ok [0,2] rfl)) fun hT=>qbd (by kernel_rfl) ?_
   exact ⟨rfl,⟨ok,E.keep [1,3,5],l29⟩⟩
def qmh (u:World) (m0:Mem) (S:Segs) (r:(List (Option (List Bool)))) (a:Act) (w:World):Prop :=
 ∃ m1 v0,m0.le m1 ∧ Ok u m1 S w ∧ a.defers = [] ∧ RVs Tryz.prog a w [.t 2 v0] ∧ (pL 1 (pP 256 (pGB 256))) m1 [v0] r
theorem qms (N:Nat) (vitems_0:Value) (items_0:List (Item)) (hitems_0:(pL 5 qbO) m0 [vitems_0] items_0) {r:(List (Option (List Bool)))} (hF:qgu N items_0 = some r) (hG:Glob u) (ok:Ok u m0 S w) :
  Calls Tryz.prog 81 [vitems_0].toArray w fun e w'=>∃ m1 v0,e = .returned v0 ∧ m0.le m1 ∧ Ok u m1 S w' ∧ (pL 1 (pP 256 (pGB 256))) m1 [v0] r:=by
 have le_m0:=Mem.le.refl m0
 unfold qgu at hF
 refine en (qmh u m0 S) r Tryz.func81 rfl rfl rfl (by rintro a w ⟨m1,v0,hle,ok,hd,hrv,h0⟩; exact qaM [.t 2 v0] hd rfl hrv ⟨m1,v0,rfl,hle,ok,h0⟩) fun fin a E=>sg<|aw E rfl fun a E=>sg ?_
 refine mv E rfl fun a E=>lv E ok (qaE qep hitems_0 rfl) fun a E=>?_
 obtain ⟨l1,e2,hF⟩:=bnd hF
 refine qtl (R:=(pP 256 (pGB 256))) E ok qnp qra rfl qtw rfl e2 rfl rfl fun c3 M4 a w E ok h5=>aw E rfl fun a E=>wp_seq<|sg<|mv E rfl fun a E=>?_
 refine lv E ok (qaE qep hitems_0 rfl) fun a E=>mv E rfl fun a E=>wn<|wp_block ?_
 obtain ⟨o11,hL,hF⟩:=bnd hF
 refine qaO _ (fun (s:Int × (List (Option (List Bool)))) a w=>∃ m12 c14 M15,m0.le m12 ∧ Ok u m12 (M15 :: S) w ∧ Env 26 a [(3,c14),(9,vitems_0),(10,(vi (items_0.length:Int))),(11,vi s.1)] ∧ InR .i64 s.1 ∧ ORow 196 1 (pP 256 (pGB 256)) m12 c14 s.2 M15) (fun (b:((List (Option (List Bool))))) e a w=>e = (.exit 0) ∧ ∃ m62 c63 M64,m0.le m62 ∧ Ok u m62 (M64 :: S) w ∧ Env 26 a [(3,c63)] ∧ ORow 196 1 (pP 256 (pGB 256)) m62 c63 b M64) ?_ ?_ N _ a w hL ⟨m0,c3,M4,Mem.le.refl _,ok,E.keep [3,9,10,11],(ir 0),h5⟩
 rotate_left
 ·intro e a w _ hO
  obtain ⟨rfl,m56,c57,M58,hle,ok,E,h59⟩:=hO
  have le_m0:=le_m0.trans hle
  have hitems_0:=(mL qds).up hle hitems_0
  refine qaS<|qaa<|sg<|mv E rfl fun a E=>aw E rfl fun a E=>?_
  refine wp_ret ?_
  obtain ⟨m60,hle,ok,hfz⟩:=(ok.frs 0 rfl).freeze
  have h61:=ORow.froz (mP (mGB 256)) h59 hle hfz (by decide)
  have le_m0:=le_m0.trans hle
  have hitems_0:=(mL qds).up hle hitems_0
  exact fin hF ⟨m60,c57,le_m0,ok,E.d,⟨rv_t E rfl,trivial⟩,h61⟩
 rintro ⟨x_17,out_18⟩ a w r ⟨m19,c21,M22,hle,ok,E,r20,h23⟩ hF
 replace hF:qe3 N items_0 x_17 out_18 = some r:=hF
 unfold qe3 at hF
 have le_m0:=le_m0.trans hle
 have hitems_0:=(mL qds).up hle hitems_0
 refine sg<|lw E (qaA rfl rfl) fun a E=>wn<|wp_seq<|cf E rfl hF (fun hc24 hF=>?_) fun hc24 hF=>?_
 rotate_left
 ·refine wp_exit<|qaB ?_
  obtain rfl:=sj hF
  exact so (⟨rfl,⟨m19,c21,M22,le_m0,ok,E.keep [3],h23⟩⟩)
 refine wp_skip<|qaa<|wp_seq<|wp_block<|sg<|mv E rfl fun a E=>?_
 obtain ⟨x25,e26,hF⟩:=bnd hF
 obtain ⟨b27,o28,es29,hl30,rr31,at32,yy33⟩:=qaN qep hitems_0 e26 (P:=Tryz.prog) (X:=.tmp 9) (I:=.tmp 11) (kd:=.i64) (qah E rfl) (qah E rfl)
 obtain ⟨c35,rfl,l34,h36,r37,r38⟩:=rr31
 refine lv E ok (yy33 _ _) fun a E=>lv E ok (qat (cs:=[vs x25.Text,c35,vb x25.Not,vi x25.Least,vi x25.Most]) qfn rfl rfl (qae.ro at32)) fun a E=>qaC E ok qgZ rfl rfl fun b39 a w E ok=>av E rfl fun a E=>qai E ok 0 rfl rfl rfl qk0 rfl rfl ⟨rfl,(qa0 h36),rfl,rfl,rfl,trivial⟩ rfl rfl fun w ok=>wn<|wp_seq ?_
 refine qab<|fv E qcN rfl fun a E=>ld E ok qav 0 rfl rfl rfl fun a E=>lw E (qbl rfl rfl) fun a E=>wn<|cf E rfl hF (fun hc40 hF=>?_) fun hc40 hF=>?_
 rotate_left
 ·refine wp_skip<|qaq<|qaa<|qab<|lw E (qaG rfl rfl (InR.inc r20 (qas hitems_0) hc24)) fun a E=>mv E rfl fun a E=>wpList_nil ?_
  obtain rfl:=sj hF
  exact qay ⟨m19,c21,M22,le_m0,(ok.pk 2 [1] rfl (by decide)),E.keep [3,9,10,11],(InR.inc r20 (qas hitems_0) hc24),h23⟩
 refine qab<|mv E rfl fun a E=>mv E rfl fun a E=>lv E ok (qat (cs:=[vs x25.Text,c35,vb x25.Not,vi x25.Least,vi x25.Most]) qfn rfl rfl (qae.own 0 rfl rfl)) fun a E=>?_
 obtain ⟨r41,e42,hF⟩:=bnd hF
 refine qaz E quC rfl (qnO N _ x25 ⟨_,rfl,l34,h36,r37,r38⟩ e42 hG ok) rfl rfl ?_
 rintro _ w ⟨m43,c44,rfl,hle,ok,h45⟩
 have le_m0:=le_m0.trans hle
 have hitems_0:=(mL qds).up hle hitems_0
 have h23:=ORow.up (mP (mGB 256)) hle h23
 have h36:=(mL qe0).up hle h36
 have at32:=At.up hle at32
 refine ⟨_,rfl,fun a E=>?_⟩
 obtain ⟨x46,e47,hF⟩:=bnd hF
 obtain ⟨b48,o49,hp50,yy51⟩:=qcA qnp h23 e47 (P:=Tryz.prog) (X:=.tmp 19) (I:=.tmp 20) (kd:=.i64) (qah E rfl) (qah E rfl)
 refine lv E ok (yy51 _ _) fun a E=>?_
 obtain ⟨l52,e53,hF⟩:=bnd hF
 refine qpj (R:=(pP 256 (pGB 256))) E ok 1 rfl h23 e47 hp50 rfl rfl qsA (qqW h45) rfl rfl ⟨(qtq h45),trivial⟩ h45 e53 rfl fun M54 w ok h55=>wpList_nil<|qaq<|qaa<|qab<|lw E (qaG rfl rfl (InR.inc r20 (qas hitems_0) hc24)) fun a E=>mv E rfl fun a E=>wpList_nil ?_
 obtain rfl:=sj hF
 exact qay ⟨m43,c21,M54,le_m0,(ok.pk 2 [1] rfl (by decide)),E.keep [3,9,10,11],(InR.inc r20 (qas hitems_0) hc24),h55⟩
def qmf (u:World) (m0:Mem) (S:Segs) (r:Lexer) (a:Act) (w:World):Prop :=
 ∃ m1 b0 c1 c3 M4 c6 M7,m0.le m1 ∧ Ok u m1 ([(b0,oc 180 [c1,c3,c6])] :: M4 :: M7 :: S) w ∧ a.defers = [] ∧ RVs Tryz.prog a w [.t 2 (.pointer (some ⟨b0,0,none⟩))] ∧ (pL 2 qbU) m1 [c1] r.script ∧ ORow 181 1 (pL 1 (pL 1 (pP 256 (pGB 256)))) m1 c3 r.bits M4 ∧ OMap kS (oneV (pI .i64)) m1 c6 r.states M7
theorem qmw (N:Nat) (vs_0:Value) (s_0:List (State)) (hs_0:(pL 2 qbU) m0 [vs_0] s_0) {r:Lexer} (hF:qgw N s_0 = some r) (hG:Glob u) (ok:Ok u m0 (S) w) :
  Calls Tryz.prog 51 [vs_0].toArray w fun e w'=>∃ m1 b0 c1 c3 M4 c6 M7,e = .returned (.pointer (some ⟨b0,0,none⟩)) ∧ m0.le m1 ∧ Ok u m1 ([(b0,oc 180 [c1,c3,c6])] :: M4 :: M7 :: S) w' ∧ (pL 2 qbU) m1 [c1] r.script ∧ ORow 181 1 (pL 1 (pL 1 (pP 256 (pGB 256)))) m1 c3 r.bits M4 ∧ OMap kS (oneV (pI .i64)) m1 c6 r.states M7:=by
 have le_m0:=Mem.le.refl m0
 unfold qgw at hF
 refine en (qmf u m0 S) r Tryz.func51 rfl rfl rfl (by rintro a w ⟨m1,b0,c1,c3,M4,c6,M7,hle,ok,hd,hrv,h0,h1,h2⟩; exact qaM [.t 2 (.pointer (some ⟨b0,0,none⟩))] hd rfl hrv ⟨m1,b0,c1,c3,M4,c6,M7,rfl,hle,ok,h0,h1,h2⟩) fun fin a E=>sg<|aw E rfl fun a E=>sg ?_
 refine mv E rfl fun a E=>qhW kS (oneV (pI .i64)) E ok rfl rfl fun c9 M10 a w E ok h11=>lw E (qaK (ps:=[(0,.tmp 9),(2,.tmp 10)]) (qs:=[(0,[vs_0]),(2,[c9])]) (cs:=[vs_0,(Value.slice none 0 0),c9]) qrc qpe rfl ⟨rfl,(qbi hs_0),rfl,⟨rfl,(OMap.cells h11),rfl,trivial⟩⟩ rfl) fun a E=>qdk E ok rfl rfl rfl fun b12 a w E ok=>aw E rfl fun a E=>wp_seq ?_
 refine sg<|mv E rfl fun a E=>lv E ok (qaE qgy hs_0 rfl) fun a E=>mv E rfl fun a E=>wn<|wp_block ?_
 obtain ⟨M23,ok,h24⟩:=qdI (e:=181) (k:=1) (R:=(pL 1 (pL 1 (pP 256 (pGB 256))))) ok
 obtain ⟨o25,hL,hF⟩:=bnd hF
 refine qaO _ (fun (s:Int × Lexer) a w=>∃ m26 c28 c30 M31 c33 M34,m0.le m26 ∧ Ok u m26 (M31 :: [(b12,oc 180 [c28,c30,c33])] :: M34 :: S) w ∧ Env 53 a [(3,vp b12),(13,vs_0),(14,(vi (s_0.length:Int))),(15,vi s.1)] ∧ InR .i64 s.1 ∧ (pL 2 qbU) m26 [c28] s.2.script ∧ ORow 181 1 (pL 1 (pL 1 (pP 256 (pGB 256)))) m26 c30 s.2.bits M31 ∧ OMap kS (oneV (pI .i64)) m26 c33 s.2.states M34) (fun (b:Lexer) e a w=>e = (.exit 0) ∧ ∃ m160 c161 c163 M164 c166 M167,m0.le m160 ∧ Ok u m160 (M164 :: [(b12,oc 180 [c161,c163,c166])] :: M167 :: S) w ∧ Env 53 a [(3,vp b12)] ∧ (pL 2 qbU) m160 [c161] b.script ∧ ORow 181 1 (pL 1 (pL 1 (pP 256 (pGB 256)))) m160 c163 b.bits M164 ∧ OMap kS (oneV (pI .i64)) m160 c166 b.states M167) ?_ ?_ N _ a w hL ⟨m0,vs_0,(Value.slice none 0 0),M23,c9,M10,Mem.le.refl _,ok,E.keep [3,13,14,15],(ir 0),hs_0,h24,h11⟩
 rotate_left
 ·intro e a w _ hO
  obtain ⟨rfl,m151,c152,c154,M155,c157,M158,hle,ok,E,h153,h156,h159⟩:=hO
  have le_m0:=le_m0.trans hle
  have hs_0:=(mL qaP).up hle hs_0
  refine qaS<|qaa<|sg<|mv E rfl fun a E=>aw E rfl fun a E=>?_
  refine wp_ret ?_
  exact fin hF ⟨m151,b12,c152,c154,M155,c157,M158,le_m0,(ok.pk 3 [1,0,2] rfl (by decide)),E.d,⟨rv_t E rfl,trivial⟩,h153,h156,h159⟩
 rintro ⟨x_36,x_37⟩ a w r ⟨m38,c40,c42,M43,c45,M46,hle,ok,E,r39,h41,h44,h47⟩ hF
 replace hF:qeJ N s_0 x_36 x_37 = some r:=hF
 unfold qeJ at hF
 have le_m0:=le_m0.trans hle
 have hs_0:=(mL qaP).up hle hs_0
 refine sg<|lw E (qaA rfl rfl) fun a E=>wn<|wp_seq<|cf E rfl hF (fun hc48 hF=>?_) fun hc48 hF=>?_
 rotate_left
 ·refine wp_exit<|qaB ?_
  obtain rfl:=sj hF
  exact so (⟨rfl,⟨m38,c40,c42,M43,c45,M46,le_m0,ok,E.keep [3],h41,h44,h47⟩⟩)
 refine wp_skip<|qaa<|wp_seq<|wp_block<|sg<|mv E rfl fun a E=>?_
 obtain ⟨x49,e50,hF⟩:=bnd hF
 obtain ⟨b51,o52,es53,hl54,rr55,at56,yy57⟩:=qaN qgy hs_0 e50 (P:=Tryz.prog) (X:=.tmp 13) (I:=.tmp 15) (kd:=.i64) (qah E rfl) (qah E rfl)
 obtain ⟨c59,rfl,l58,h60⟩:=rr55
 refine lv E ok (yy57 _ _) fun a E=>lv E ok (qat (cs:=[vs x49.Name,c59]) qjl rfl rfl (qae.ro at56)) fun a E=>qaC E ok qgl rfl rfl fun b61 a w E ok=>av E rfl fun a E=>qai E ok 0 rfl rfl rfl qjs rfl rfl ⟨rfl,(qa0 h60),trivial⟩ rfl rfl fun w ok=>wn<|wp_seq ?_
 obtain ⟨o62,hJ,hF⟩:=bnd hF
 refine qbx (Q':=fun e a w=>e = .normal ∧ ∃ c63 c65 M66 c68 M69,Ok u m38 ([(b61,oc 111 [vs x49.Name,c59])] :: M66 :: [(b12,oc 180 [c63,c65,c68])] :: M69 :: S) w ∧ Env 53 a [(3,vp b12),(5,vp b61),(13,vs_0),(14,(vi (s_0.length:Int))),(15,vi x_36)] ∧ (pL 2 qbU) m38 [c63] o62.script ∧ ORow 181 1 (pL 1 (pL 1 (pP 256 (pGB 256)))) m38 c65 o62.bits M66 ∧ OMap kS (oneV (pI .i64)) m38 c68 o62.states M69) ?_ ?_
 ·replace hF:=hJ
  clear hJ
  obtain ⟨l71,e72,hF⟩:=bnd hF
  obtain rfl:=sj hF
  refine qcp [] (Cls u m38 ([(b61,oc 111 [vs x49.Name,c59])] :: M43 :: [])) (Cls u m38 ([(b61,oc 111 [vs x49.Name,c59])] :: M43 :: [])) (by kernel_rfl) ?_
  intro w hw
  replace ok:=qcD ok hw
  clear hw
  have le_m38:=Mem.le.refl m38
  refine qam (cl1 (cq le_m38 ok [0,1] rfl) (cq le_m38 ok [0,1] rfl)) fun hT=>kt 0 E rfl hT (qad rfl) fun a E=>kt 1 E rfl hT (qbk rfl) fun a E=>kt 2 E rfl hT (qaf qn7 rfl) fun a E=>kt 4 E rfl hT (qaf qiE rfl) fun a E=>kt 5 E rfl hT (qao qav rfl (qae.cown 0 rfl rfl)) fun a E=>kt 6 E rfl hT (qad rfl) fun a E=>qau [3] (by kernel_rfl) rfl (qax ?_)
  ·refine wo rfl<|ld E ok qkV 2 rfl rfl rfl fun a E=>wn<|qam (cl1 (cq le_m38 ok [0,1] rfl) (cq le_m38 ok [0,1] rfl)) fun hT=>qau [7] (by kernel_rfl) rfl (qax ?_)
   ·refine wo rfl<|qjf (.inl rfl) E ok 3 (qd5 Tryz.underlying9) Tryz.underlying130 h47 rfl rfl rfl rfl ⟨rfl,l58⟩ (qgA r39) e72 rfl fun M75 w ok h76=>wn<|qam (cl1 (cq le_m38 ok [0,1] rfl) (cq le_m38 ok [0,1] rfl)) fun hT=>qbd (by kernel_rfl) ?_
    exact ⟨rfl,⟨c40,c42,M43,c45,M75,ok,E.keep [3,5,13,14,15],h41,h44,h76⟩⟩
 clear hJ
 intro e a w hO
 obtain ⟨rfl,c77,c79,M80,c82,M83,ok,E,h78,h81,h84⟩:=hO
 refine qaa<|sg<|aw E rfl fun a E=>wp_seq<|wp_seq ?_
 refine qab<|fv E qgp rfl fun a E=>ld E ok qhD 0 rfl rfl rfl fun a E=>lv E ok (qaE qfU h60 rfl) fun a E=>mv E rfl fun a E=>wn<|wp_block ?_
 obtain ⟨M90,ok,h91⟩:=qdI (e:=182) (k:=1) (R:=(pL 1 (pP 256 (pGB 256)))) ok
 obtain ⟨o92,hL,hF⟩:=bnd hF
 refine qaO _ (fun (s:(List (List (Option (List Bool)))) × Int) a w=>∃ m93 c94 M95,m38.le m93 ∧ Ok u m93 (M95 :: [(b61,oc 111 [vs x49.Name,c59])] :: M80 :: [(b12,oc 180 [c77,c79,c82])] :: M83 :: S) w ∧ Env 53 a [(3,vp b12),(6,c94),(13,vs_0),(14,(vi (s_0.length:Int))),(15,vi x_36),(28,c59),(29,(vi (x49.Rules.length:Int))),(30,vi s.2)] ∧ ORow 182 1 (pL 1 (pP 256 (pGB 256))) m93 c94 s.1 M95 ∧ InR .i64 s.2) (fun (b:((List (List (Option (List Bool)))))) e a w=>e = (.exit 2) ∧ ∃ m147 c148 M149,m38.le m147 ∧ Ok u m147 (M149 :: [(b61,oc 111 [vs x49.Name,c59])] :: M80 :: [(b12,oc 180 [c77,c79,c82])] :: M83 :: S) w ∧ Env 53 a [(3,vp b12),(6,c148),(13,vs_0),(14,(vi (s_0.length:Int))),(15,vi x_36)] ∧ ORow 182 1 (pL 1 (pP 256 (pGB 256))) m147 c148 b M149) ?_ ?_ N _ a w hL ⟨m38,(Value.slice none 0 0),M90,Mem.le.refl _,ok,E.keep [3,6,13,14,15,28,29,30],h91,(ir 0)⟩
 rotate_left
 ·intro e a w _ hO
  obtain ⟨rfl,m133,c134,M135,hle,ok,E,h136⟩:=hO
  have le_m0:=le_m0.trans hle
  have hs_0:=(mL qaP).up hle hs_0
  have h41:=(mL qaP).up hle h41
  have h60:=(mL qdx).up hle h60
  have at56:=At.up hle at56
  have h78:=(mL qaP).up hle h78
  have h81:=ORow.up (mL (mL (mP (mGB 256)))) hle h81
  have h84:=OMap.up (qfV (mI .i64)) hle h84
  refine qaS<|qaa<|qab<|mv E rfl fun a E=>mv E rfl fun a E=>lw E (qbk rfl) fun a E=>fv E qlA rfl fun a E=>ld E ok qo4 3 rfl rfl rfl fun a E=>?_
  refine mv E rfl fun a E=>?_
  obtain ⟨m137,hle,ok,hfz⟩:=(ok.frs 0 rfl).freeze
  have h138:=ORow.froz (mL (mP (mGB 256))) h136 hle hfz (by decide)
  have le_m0:=le_m0.trans hle
  have hs_0:=(mL qaP).up hle hs_0
  have h41:=(mL qaP).up hle h41
  have h60:=(mL qdx).up hle h60
  have at56:=At.up hle at56
  have h78:=(mL qaP).up hle h78
  have h81:=ORow.up (mL (mL (mP (mGB 256)))) hle h81
  have h84:=OMap.up (qfV (mI .i64)) hle h84
  refine qaT (R:=(pL 1 (pL 1 (pP 256 (pGB 256))))) (xo:=[.tmp 46]) (xs:=([o92]:List (List (List (Option (List Bool)))))) E ok qn9 qnJ rfl ⟨⟨_,(qbi h138),rfl,h138⟩,trivial⟩ rfl rfl rfl rfl fun c139 M140 a w E ok h141=>?_
  obtain ⟨l142,e143,hF⟩:=bnd hF
  refine qa3 (R:=(pL 1 (pL 1 (pP 256 (pGB 256))))) E ok 2 (mL (mL (mP (mGB 256)))) qn9 Tryz.underlying178 rfl h81 (qaJ.ofRow h141 0 rfl ok) e143 ⟨_,qnJ,rfl⟩ rfl rfl rfl rfl fun c144 M145 a w E ok h146=>lw E (qbk rfl) fun a E=>fv E qlA rfl fun a E=>qai E ok 3 rfl rfl rfl qsR (ORow.cells h146) rfl ⟨(ORow.one h146),trivial⟩ rfl rfl fun w ok=>wpList_nil<|qaq<|qaa<|qab ?_
  refine lw E (qaG rfl rfl (InR.inc r39 (qas hs_0) hc48)) fun a E=>mv E rfl fun a E=>wpList_nil ?_
  obtain rfl:=sj hF
  exact qay ⟨m137,c77,c144,M145,c82,M83,le_m0,(ok.pk 5 [2,3,4] rfl (by decide)),E.keep [3,13,14,15],(InR.inc r39 (qas hs_0) hc48),h78,h146,h84⟩
 rintro ⟨row_98,x_99⟩ a w r ⟨m100,c101,M102,hle,ok,E,h103,r104⟩ hF
 replace hF:qdX N x49 row_98 x_99 = some r:=hF
 unfold qdX at hF
 have le_m38:=Mem.le.refl m38
 have le_m0:=le_m0.trans hle
 have le_m38:=le_m38.trans hle
 have hs_0:=(mL qaP).up hle hs_0
 have h41:=(mL qaP).up hle h41
 have h60:=(mL qdx).up hle h60
 have at56:=At.up hle at56
 have h78:=(mL qaP).up hle h78
 have h81:=ORow.up (mL (mL (mP (mGB 256)))) hle h81
 have h84:=OMap.up (qfV (mI .i64)) hle h84
 refine sg<|lw E (qaA rfl rfl) fun a E=>wn<|wp_seq<|cf E rfl hF (fun hc105 hF=>?_) fun hc105 hF=>?_
 rotate_left
 ·refine wp_exit<|qaB ?_
  obtain rfl:=sj hF
  exact so (⟨rfl,⟨m100,c101,M102,le_m38,ok,E.keep [3,6,13,14,15],h103⟩⟩)
 refine wp_skip<|qaa<|wp_seq<|wp_block<|sg ?_
 obtain ⟨x106,e107,hF⟩:=bnd hF
 obtain ⟨b108,o109,es110,hl111,rr112,at113,yy114⟩:=qaN qfU h60 e107 (P:=Tryz.prog) (X:=.tmp 28) (I:=.tmp 30) (kd:=.i64) (qah E rfl) (qah E rfl)
 obtain ⟨c116,rfl,l115,h117,l118⟩:=rr112
 refine lv E ok (yy114 _ _) fun a E=>lv E ok (qat (cs:=[vs x106.Kind,c116,vs x106.Next]) qii rfl rfl (qae.ro at113)) fun a E=>qaC E ok qg0 rfl rfl fun b119 a w E ok=>qai E ok 0 rfl rfl rfl qk4 rfl rfl ⟨rfl,(qa0 h117),rfl,trivial⟩ rfl rfl fun w ok=>wn<|qab<|mv E rfl fun a E=>?_
 refine fv E qfI rfl fun a E=>ld E ok qgB 0 rfl rfl rfl fun a E=>?_
 obtain ⟨r120,e121,hF⟩:=bnd hF
 refine qaz E qt7 rfl (qms N _ x106.Items h117 e121 hG ok) rfl rfl ?_
 rintro _ w ⟨m122,c123,rfl,hle,ok,h124⟩
 have le_m0:=le_m0.trans hle
 have le_m38:=le_m38.trans hle
 have hs_0:=(mL qaP).up hle hs_0
 have h41:=(mL qaP).up hle h41
 have h60:=(mL qdx).up hle h60
 have at56:=At.up hle at56
 have h78:=(mL qaP).up hle h78
 have h81:=ORow.up (mL (mL (mP (mGB 256)))) hle h81
 have h84:=OMap.up (qfV (mI .i64)) hle h84
 have h103:=ORow.up (mL (mP (mGB 256))) hle h103
 have h117:=(mL qds).up hle h117
 have at113:=At.up hle at113
 refine ⟨_,rfl,fun a E=>?_⟩
 refine qaT (R:=(pL 1 (pP 256 (pGB 256)))) (xo:=[.tmp 37]) (xs:=([r120]:List (List (Option (List Bool))))) E ok qn2 qod rfl ⟨⟨_,(qbi h124),rfl,h124⟩,trivial⟩ rfl rfl rfl rfl fun c125 M126 a w E ok h127=>?_
 obtain ⟨l128,e129,hF⟩:=bnd hF
 refine qa3 (R:=(pL 1 (pP 256 (pGB 256)))) E ok 2 (mL (mP (mGB 256))) qn2 Tryz.underlying181 rfl h103 (qaJ.ofRow h127 0 rfl ok) e129 ⟨_,qod,rfl⟩ rfl rfl rfl rfl fun c130 M131 a w E ok h132=>av E rfl fun a E=>wpList_nil<|qaq<|qaa<|qab<|lw E (qaG rfl rfl (InR.inc r104 (qas h60) hc105)) fun a E=>mv E rfl fun a E=>?_
 refine wpList_nil ?_
 obtain rfl:=sj hF
 exact qay ⟨m122,c130,M131,le_m38,(ok.pk 7 [2,3,4,5,6] rfl (by decide)),E.keep [3,6,13,14,15,28,29,30],h132,(InR.inc r104 (qas h60) hc105)⟩
theorem qht {u:World} {m0:Mem} {S:Segs} {w:World} (N:Nat) (p0_0:List UInt8) (lp0_0:p0_0.length ≤ LIMS) (p1_1:List UInt8) (lp1_1:p1_1.length ≤ LIMS) {r:Bool} (hF:strings_HasPrefix N p0_0 p1_1 = some r) (hG:Glob u) (ok:Ok u m0 S w) :
 Calls Tryz.prog 126 [vs p0_0,vs p1_1].toArray w fun e w'=>(e = .returned (.bool r) ∧ Ok u m0 S w'):=qm3 Tryz.lays99 p0_0 p1_1 hF ok
def qll (u:World) (m0:Mem) (S:Segs) (r:Int × Bool) (a:Act) (w:World):Prop :=
 Ok u m0 S w ∧ a.defers = [] ∧ RVs Tryz.prog a w [.t 6 (.int .i64 r.1),.t 7 (.bool r.2)] ∧ InR .i64 r.1
theorem qlj (N:Nat) (vx_0:List Value) (x_0:Item) (hx_0:qbO m0 vx_0 x_0) (vbits_1:Value) (bits_1:Option (List Bool)) (hbits_1:(pP 256 (pGB 256)) m0 [vbits_1] bits_1) (s_2:List UInt8) (ls_2:s_2.length ≤ LIMS) {r:Int × Bool} (hF:qhN N x_0 bits_1 s_2 = some r) (hG:Glob u) (ok:Ok u m0 S w) :
  Calls Tryz.prog 100 [.agg vx_0.toArray,vbits_1,vs s_2].toArray w fun e w'=>(e = .returned (.tuple [(.int .i64 r.1),(.bool r.2)].toArray) ∧ Ok u m0 S w') ∧ InR .i64 r.1:=by
 obtain ⟨c2,rfl,l1,h3,r4,r5⟩:=hx_0
 unfold qhN at hF
 refine en (qll u m0 S) r Tryz.func100 rfl rfl rfl (by rintro a w ⟨ok,hd,hrv,h0⟩; exact qaM [.t 6 (.int .i64 r.1),.t 7 (.bool r.2)] hd rfl hrv ⟨⟨rfl,ok⟩,h0⟩) fun fin a E=>sg<|qdk E ok rfl rfl rfl fun b6 a w E ok=>av E rfl fun a E=>aw E rfl fun a E=>?_
 refine sg<|av E rfl fun a E=>aw E rfl fun a E=>wp_seq<|wp_block ?_
 obtain ⟨o9,hL,hF⟩:=bnd hF
 refine qaO _ (fun (s:Int × Int) a w=>Ok u m0 ([(b6,oc 154 [vs x_0.Text,c2,vb x_0.Not,vi x_0.Least,vi x_0.Most])] :: S) w ∧ Env 69 a [(1,vbits_1),(2,vs s_2),(3,vp b6),(8,vi s.1),(9,vi s.2)] ∧ InR .i64 s.1 ∧ InR .i64 s.2) (fun (b:((Int × Int) ⊕ (Int × Bool))) e a w=>(Sum.elim (fun b100=>e = (.exit 0) ∧ Ok u m0 ([(b6,oc 154 [vs x_0.Text,c2,vb x_0.Not,vi x_0.Least,vi x_0.Most])] :: S) w ∧ Env 69 a [(3,vp b6),(8,vi b100.1),(9,vi b100.2)] ∧ InR .i64 b100.1 ∧ InR .i64 b100.2) (fun b103=>e = .ret ∧ qll u m0 S b103 a w)) b) ?_ ?_ N _ a w hL ⟨ok,E.keep [1,2,3,8,9],(ir 0),(ir 0)⟩
 rotate_left
 ·intro e a w _ hO
  rcases o9 with o9 | o9
  rotate_left
  ·replace hF:=qbf hF
   obtain ⟨rfl,hret⟩:=hO
   refine qan<|qag ?_
   exact fin hF hret
  replace hF:=qbe hF
  obtain ⟨rfl,ok,E,r98,r99⟩:=hO
  refine qaS<|qaa<|wp_seq<|qbc (by kernel_rfl) (by kernel_rfl) ok<|qv E (qad rfl) fun a E=>qv E (qad rfl) fun a E=>qv E (qaf qdn rfl) fun a E=>qv E (qao qaZ rfl (qae.own 0 rfl rfl)) fun a E=>?_
  refine qv E (qbo rfl rfl) fun a E=>qv E (qal rfl) fun a E=>qv E (qal rfl) fun a E=>wpQuiet_nil ?_
  intro w ok
  refine qaa<|wp_ret ?_
  exact fin hF ⟨ok.drop,E.d,⟨rv_t E rfl,rv_t E rfl,trivial⟩,r98⟩
 rintro ⟨n_12,count_13⟩ a w r ⟨ok,E,r14,r15⟩ hF
 replace hF:qeu N x_0 bits_1 s_2 n_12 count_13 = some r:=hF
 unfold qeu at hF
 refine wp_seq<|sg<|fv E qlo rfl fun a E=>ld E ok qaZ 0 rfl rfl rfl fun a E=>lw E (qaA rfl rfl) fun a E=>mv E rfl fun a E=>qap (decide (x_0.Most < 0)) (fun hc16=>?_) (fun hc16=>?_)
 ·as_aux_lemma =>
   replace hF:=qak hc16 hF
   replace E:=E.upd 13 hc16 rfl
   refine ls E fun a E=>ls E fun a E=>ls E fun a E=>ls E fun a E=>pt E rfl rfl fun a E=>wn<|c_if E rfl (fun _=>?_) (fun h=>by cases h)
   refine wp_skip<|qaa<|wp_block<|wp_seq<|wp_block<|wp_seq<|qbc (by kernel_rfl) (by kernel_rfl) ok<|qv E (qaf qcN rfl) fun a E=>?_
   refine qv E (qao qav rfl (qae.own 0 rfl rfl)) fun a E=>qv E (qcn rfl rfl) fun a E=>qv E (qad rfl) fun a E=>qap (x_0.Text != ([])) (fun hc17=>?_) (fun hc17=>?_)
   rotate_left
   ·as_aux_lemma =>
     replace hF:=qaj hc17 hF
     replace E:=E.upd 28 hc17 rfl
     refine qs E fun a E=>qs E fun a E=>qs E fun a E=>qs E fun a E=>qs E fun a E=>qs E fun a E=>qv E (qbH rfl rfl) fun a E=>qv E (qal rfl) fun a E=>?_
     refine wpQuiet_nil ?_
     intro w ok
     refine qaa<|c_if E rfl (fun h=>by cases h) (fun _=>?_)
     refine wp_seq<|qbc (by kernel_rfl) (by kernel_rfl) ok<|qv E (qaf qcN rfl) fun a E=>qv E (qao qav rfl (qae.own 0 rfl rfl)) fun a E=>qv E (qbl rfl rfl) fun a E=>qv E (qad rfl) fun a E=>qap (x_0.Text == ([])) (fun hc40=>?_) (fun hc40=>?_)
     rotate_left
     ·replace hF:=qaj hc40 hF
      replace E:=E.upd 45 hc40 rfl
      refine qs E fun a E=>qs E fun a E=>qs E fun a E=>qs E fun a E=>qv E (qbH rfl rfl) fun a E=>qv E (qad rfl) fun a E=>qs E fun a E=>qs E fun a E=>?_
      refine qs E fun a E=>qs E fun a E=>qs E fun a E=>qs E fun a E=>qs E fun a E=>qv E (qbH rfl rfl) fun a E=>qv E (qal rfl) fun a E=>wpQuiet_nil ?_
      intro w ok
      refine qaa<|c_if E rfl (fun h=>by cases h) (fun _=>?_)
      refine wp_seq<|qbc (by kernel_rfl) (by kernel_rfl) ok<|qv E (qad rfl) fun a E=>qv E (qad rfl) fun a E=>qv E (qaf qdn rfl) fun a E=>qv E (qao qaZ rfl (qae.own 0 rfl rfl)) fun a E=>qv E (qbo rfl rfl) fun a E=>qv E (qal rfl) fun a E=>?_
      refine qv E (qal rfl) fun a E=>wpQuiet_nil ?_
      intro w ok
      refine qaa<|wp_ret<|qan<|qag<|qan ?_
      obtain rfl:=sj hF
      exact so (sr ⟨rfl,⟨ok.drop,E.d,⟨rv_t E rfl,rv_t E rfl,trivial⟩,r14⟩⟩)
     replace hF:=qak hc40 hF
     replace E:=E.upd 45 hc40 rfl
     refine qv E (qad rfl) fun a E=>qv E (qad rfl) fun a E=>qv E (qaV Tryz.underlying9 rfl) fun a E=>qv E (qaA rfl rfl) fun a E=>qv E (qbR rfl rfl) fun a E=>qv E (qad rfl) fun a E=>qap (decide (n_12 < (s_2.length:Int))) (fun hc41=>?_) (fun hc41=>?_)
     rotate_left
     ·replace hF:=qaj hc41 hF
      replace E:=E.upd 51 hc41 rfl
      refine qs E fun a E=>qs E fun a E=>qs E fun a E=>qs E fun a E=>qs E fun a E=>qs E fun a E=>qs E fun a E=>qv E (qbH rfl rfl) fun a E=>?_
      refine qv E (qal rfl) fun a E=>wpQuiet_nil ?_
      intro w ok
      refine qaa<|c_if E rfl (fun h=>by cases h) (fun _=>?_)
      refine wp_seq<|qbc (by kernel_rfl) (by kernel_rfl) ok<|qv E (qad rfl) fun a E=>qv E (qad rfl) fun a E=>qv E (qaf qdn rfl) fun a E=>qv E (qao qaZ rfl (qae.own 0 rfl rfl)) fun a E=>qv E (qbo rfl rfl) fun a E=>qv E (qal rfl) fun a E=>?_
      refine qv E (qal rfl) fun a E=>wpQuiet_nil ?_
      intro w ok
      refine qaa<|wp_ret<|qan<|qag<|qan ?_
      obtain rfl:=sj hF
      exact so (sr ⟨rfl,⟨ok.drop,E.d,⟨rv_t E rfl,rv_t E rfl,trivial⟩,r14⟩⟩)
     replace hF:=qak hc41 hF
     replace E:=E.upd 51 hc41 rfl
     refine qv E (qad rfl) fun a E=>qv E (qad rfl) fun a E=>qv E (qad rfl) fun a E=>?_
     obtain ⟨c42,e43,hF⟩:=bnd hF
     refine qv E (qba Tryz.underlying9 rfl rfl e43) fun a E=>?_
     obtain ⟨y44,e45,hF⟩:=bnd hF
     obtain ⟨b46,o47,es48,hv49,hl50,hR51,at52⟩:=qkJ hbits_1 e45
     obtain ⟨rfl,l53⟩:=hR51
     refine qv E (qhJ hv49 rfl) fun a E=>?_
     obtain ⟨x54,e55,hF⟩:=bnd hF
     refine qv E (qjj (f:=Value.bool) (q:=fun _=>True) qjy l53 rfl rfl e55) fun a E=>qv E (qao qhi rfl (qae.idx (xs:=y44) (f:=Value.bool) (qae.ro at52) e55)) fun a E=>qv E (qbR rfl rfl) fun a E=>qv E (qal rfl) fun a E=>wpQuiet_nil ?_
     intro w ok
     refine qaa<|cf E rfl hF (fun hc56 hF=>?_) fun hc56 hF=>?_
     ·refine qab<|mv E rfl fun a E=>lw E (qaG rfl rfl (InR.inc r14 (InR.len ls_2) hc41)) fun a E=>av E rfl fun a E=>wpList_nil<|qaq<|qaa<|qab ?_
      refine mv E rfl fun a E=>lw E (qaF rfl rfl) fun a E=>av E rfl fun a E=>wpList_nil<|qaq ?_
      obtain rfl:=sj hF
      exact qay ⟨ok,E.keep [1,2,3,8,9],(InR.inc r14 (InR.len ls_2) hc41),(InR.wrap _ _)⟩
     refine wp_seq<|qbc (by kernel_rfl) (by kernel_rfl) ok<|qv E (qad rfl) fun a E=>qv E (qad rfl) fun a E=>qv E (qaf qdn rfl) fun a E=>qv E (qao qaZ rfl (qae.own 0 rfl rfl)) fun a E=>qv E (qbo rfl rfl) fun a E=>qv E (qal rfl) fun a E=>?_
     refine qv E (qal rfl) fun a E=>wpQuiet_nil ?_
     intro w ok
     refine qaa<|wp_ret<|qan<|qag<|qan ?_
     obtain rfl:=sj hF
     exact so (sr ⟨rfl,⟨ok.drop,E.d,⟨rv_t E rfl,rv_t E rfl,trivial⟩,r14⟩⟩)
   replace hF:=qak hc17 hF
   replace E:=E.upd 28 hc17 rfl
   refine qv E (qad rfl) fun a E=>qv E (qad rfl) fun a E=>?_
   obtain ⟨s18,e19,hF⟩:=bnd hF
   refine qv E (qa7 Tryz.underlying9 e19 rfl ⟨_,rfl⟩ rfl) fun a E=>qv E (qaf qcN rfl) fun a E=>qv E (qao qav rfl (qae.own 0 rfl rfl)) fun a E=>?_
   obtain ⟨r20,e21,hF⟩:=bnd hF
   refine qfR E qqb rfl (fun w ok=>(qht N s18 (Nat.le_trans (qb6 e19) ls_2) x_0.Text l1 e21 hG ok).mono (fun _ _ h=>h)) rfl rfl fun a E=>qv E (qbR rfl rfl) fun a E=>qv E (qal rfl) fun a E=>wpQuiet_nil ?_
   intro w ok
   refine qaa<|cf E rfl hF (fun hc22 hF=>?_) fun hc22 hF=>?_
   ·refine qab<|mv E rfl fun a E=>fv E qcN rfl fun a E=>ld E ok qav 0 rfl rfl rfl fun a E=>lw E (qaV Tryz.underlying9 rfl) fun a E=>lw E (qaF rfl rfl) fun a E=>av E rfl fun a E=>wpList_nil ?_
    refine qaq<|qaa<|qab<|mv E rfl fun a E=>lw E (qaF rfl rfl) fun a E=>av E rfl fun a E=>wpList_nil<|qaq ?_
    obtain rfl:=sj hF
    exact qay ⟨ok,E.keep [1,2,3,8,9],(InR.wrap _ _),(InR.wrap _ _)⟩
   refine wp_seq<|qbc (by kernel_rfl) (by kernel_rfl) ok<|qv E (qaf qcN rfl) fun a E=>qv E (qao qav rfl (qae.own 0 rfl rfl)) fun a E=>qv E (qbl rfl rfl) fun a E=>qv E (qad rfl) fun a E=>qap (x_0.Text == ([])) (fun hc23=>?_) (fun hc23=>?_)
   rotate_left
   ·replace hF:=qaj hc23 hF
    replace E:=E.upd 45 hc23 rfl
    refine qs E fun a E=>qs E fun a E=>qs E fun a E=>qs E fun a E=>qv E (qbH rfl rfl) fun a E=>qv E (qad rfl) fun a E=>qs E fun a E=>qs E fun a E=>?_
    refine qs E fun a E=>qs E fun a E=>qs E fun a E=>qs E fun a E=>qs E fun a E=>qv E (qbH rfl rfl) fun a E=>qv E (qal rfl) fun a E=>wpQuiet_nil ?_
    intro w ok
    refine qaa<|c_if E rfl (fun h=>by cases h) (fun _=>?_)
    refine wp_seq<|qbc (by kernel_rfl) (by kernel_rfl) ok<|qv E (qad rfl) fun a E=>qv E (qad rfl) fun a E=>qv E (qaf qdn rfl) fun a E=>qv E (qao qaZ rfl (qae.own 0 rfl rfl)) fun a E=>qv E (qbo rfl rfl) fun a E=>qv E (qal rfl) fun a E=>?_
    refine qv E (qal rfl) fun a E=>wpQuiet_nil ?_
    intro w ok
    refine qaa<|wp_ret<|qan<|qag<|qan ?_
    obtain rfl:=sj hF
    exact so (sr ⟨rfl,⟨ok.drop,E.d,⟨rv_t E rfl,rv_t E rfl,trivial⟩,r14⟩⟩)
   replace hF:=qak hc23 hF
   replace E:=E.upd 45 hc23 rfl
   refine qv E (qad rfl) fun a E=>qv E (qad rfl) fun a E=>qv E (qaV Tryz.underlying9 rfl) fun a E=>qv E (qaA rfl rfl) fun a E=>qv E (qbR rfl rfl) fun a E=>qv E (qad rfl) fun a E=>qap (decide (n_12 < (s_2.length:Int))) (fun hc24=>?_) (fun hc24=>?_)
   rotate_left
   ·replace hF:=qaj hc24 hF
    replace E:=E.upd 51 hc24 rfl
    refine qs E fun a E=>qs E fun a E=>qs E fun a E=>qs E fun a E=>qs E fun a E=>qs E fun a E=>qs E fun a E=>qv E (qbH rfl rfl) fun a E=>?_
    refine qv E (qal rfl) fun a E=>wpQuiet_nil ?_
    intro w ok
    refine qaa<|c_if E rfl (fun h=>by cases h) (fun _=>?_)
    refine wp_seq<|qbc (by kernel_rfl) (by kernel_rfl) ok<|qv E (qad rfl) fun a E=>qv E (qad rfl) fun a E=>qv E (qaf qdn rfl) fun a E=>qv E (qao qaZ rfl (qae.own 0 rfl rfl)) fun a E=>qv E (qbo rfl rfl) fun a E=>qv E (qal rfl) fun a E=>?_
    refine qv E (qal rfl) fun a E=>wpQuiet_nil ?_
    intro w ok
    refine qaa<|wp_ret<|qan<|qag<|qan ?_
    obtain rfl:=sj hF
    exact so (sr ⟨rfl,⟨ok.drop,E.d,⟨rv_t E rfl,rv_t E rfl,trivial⟩,r14⟩⟩)
   replace hF:=qak hc24 hF
   replace E:=E.upd 51 hc24 rfl
   refine qv E (qad rfl) fun a E=>qv E (qad rfl) fun a E=>qv E (qad rfl) fun a E=>?_
   obtain ⟨c25,e26,hF⟩:=bnd hF
   refine qv E (qba Tryz.underlying9 rfl rfl e26) fun a E=>?_
   obtain ⟨y27,e28,hF⟩:=bnd hF
   obtain ⟨b29,o30,es31,hv32,hl33,hR34,at35⟩:=qkJ hbits_1 e28
   obtain ⟨rfl,l36⟩:=hR34
   refine qv E (qhJ hv32 rfl) fun a E=>?_
   obtain ⟨x37,e38,hF⟩:=bnd hF
   refine qv E (qjj (f:=Value.bool) (q:=fun _=>True) qjy l36 rfl rfl e38) fun a E=>qv E (qao qhi rfl (qae.idx (xs:=y27) (f:=Value.bool) (qae.ro at35) e38)) fun a E=>qv E (qbR rfl rfl) fun a E=>qv E (qal rfl) fun a E=>wpQuiet_nil ?_
   intro w ok
   refine qaa<|cf E rfl hF (fun hc39 hF=>?_) fun hc39 hF=>?_
   ·refine qab<|mv E rfl fun a E=>lw E (qaG rfl rfl (InR.inc r14 (InR.len ls_2) hc24)) fun a E=>av E rfl fun a E=>wpList_nil<|qaq<|qaa<|qab ?_
    refine mv E rfl fun a E=>lw E (qaF rfl rfl) fun a E=>av E rfl fun a E=>wpList_nil<|qaq ?_
    obtain rfl:=sj hF
    exact qay ⟨ok,E.keep [1,2,3,8,9],(InR.inc r14 (InR.len ls_2) hc24),(InR.wrap _ _)⟩
   refine wp_seq<|qbc (by kernel_rfl) (by kernel_rfl) ok<|qv E (qad rfl) fun a E=>qv E (qad rfl) fun a E=>qv E (qaf qdn rfl) fun a E=>qv E (qao qaZ rfl (qae.own 0 rfl rfl)) fun a E=>qv E (qbo rfl rfl) fun a E=>qv E (qal rfl) fun a E=>?_
   refine qv E (qal rfl) fun a E=>wpQuiet_nil ?_
   intro w ok
   refine qaa<|wp_ret<|qan<|qag<|qan ?_
   obtain rfl:=sj hF
   exact so (sr ⟨rfl,⟨ok.drop,E.d,⟨rv_t E rfl,rv_t E rfl,trivial⟩,r14⟩⟩)
 replace hF:=qaj hc16 hF
 replace E:=E.upd 13 hc16 rfl
 refine mv E rfl fun a E=>fv E qlo rfl fun a E=>ld E ok qaZ 0 rfl rfl rfl fun a E=>lw E (qaA rfl rfl) fun a E=>pf E rfl rfl fun a E=>wn<|cf E rfl hF (fun hc57 hF=>?_) fun hc57 hF=>?_
 rotate_left
 ·refine wp_exit<|qaB ?_
  obtain rfl:=sj hF
  exact so (sl ⟨rfl,⟨ok,E.keep [3,8,9],r14,r15⟩⟩)
 refine wp_skip<|qaa<|wp_block<|wp_seq<|wp_block<|wp_seq<|qbc (by kernel_rfl) (by kernel_rfl) ok<|qv E (qaf qcN rfl) fun a E=>?_
 refine qv E (qao qav rfl (qae.own 0 rfl rfl)) fun a E=>qv E (qcn rfl rfl) fun a E=>qv E (qad rfl) fun a E=>qap (x_0.Text != ([])) (fun hc58=>?_) (fun hc58=>?_)
 rotate_left
 ·as_aux_lemma =>
   replace hF:=qaj hc58 hF
   replace E:=E.upd 28 hc58 rfl
   refine qs E fun a E=>qs E fun a E=>qs E fun a E=>qs E fun a E=>qs E fun a E=>qs E fun a E=>qv E (qbH rfl rfl) fun a E=>qv E (qal rfl) fun a E=>?_
   refine wpQuiet_nil ?_
   intro w ok
   refine qaa<|c_if E rfl (fun h=>by cases h) (fun _=>?_)
   refine wp_seq<|qbc (by kernel_rfl) (by kernel_rfl) ok<|qv E (qaf qcN rfl) fun a E=>qv E (qao qav rfl (qae.own 0 rfl rfl)) fun a E=>qv E (qbl rfl rfl) fun a E=>qv E (qad rfl) fun a E=>qap (x_0.Text == ([])) (fun hc81=>?_) (fun hc81=>?_)
   rotate_left
   ·replace hF:=qaj hc81 hF
    replace E:=E.upd 45 hc81 rfl
    refine qs E fun a E=>qs E fun a E=>qs E fun a E=>qs E fun a E=>qv E (qbH rfl rfl) fun a E=>qv E (qad rfl) fun a E=>qs E fun a E=>qs E fun a E=>?_
    refine qs E fun a E=>qs E fun a E=>qs E fun a E=>qs E fun a E=>qs E fun a E=>qv E (qbH rfl rfl) fun a E=>qv E (qal rfl) fun a E=>wpQuiet_nil ?_
    intro w ok
    refine qaa<|c_if E rfl (fun h=>by cases h) (fun _=>?_)
    refine wp_seq<|qbc (by kernel_rfl) (by kernel_rfl) ok<|qv E (qad rfl) fun a E=>qv E (qad rfl) fun a E=>qv E (qaf qdn rfl) fun a E=>qv E (qao qaZ rfl (qae.own 0 rfl rfl)) fun a E=>qv E (qbo rfl rfl) fun a E=>qv E (qal rfl) fun a E=>?_
    refine qv E (qal rfl) fun a E=>wpQuiet_nil ?_
    intro w ok
    refine qaa<|wp_ret<|qan<|qag<|qan ?_
    obtain rfl:=sj hF
    exact so (sr ⟨rfl,⟨ok.drop,E.d,⟨rv_t E rfl,rv_t E rfl,trivial⟩,r14⟩⟩)
   replace hF:=qak hc81 hF
   replace E:=E.upd 45 hc81 rfl
   refine qv E (qad rfl) fun a E=>qv E (qad rfl) fun a E=>qv E (qaV Tryz.underlying9 rfl) fun a E=>qv E (qaA rfl rfl) fun a E=>qv E (qbR rfl rfl) fun a E=>qv E (qad rfl) fun a E=>qap (decide (n_12 < (s_2.length:Int))) (fun hc82=>?_) (fun hc82=>?_)
   rotate_left
   ·replace hF:=qaj hc82 hF
    replace E:=E.upd 51 hc82 rfl
    refine qs E fun a E=>qs E fun a E=>qs E fun a E=>qs E fun a E=>qs E fun a E=>qs E fun a E=>qs E fun a E=>qv E (qbH rfl rfl) fun a E=>?_
    refine qv E (qal rfl) fun a E=>wpQuiet_nil ?_
    intro w ok
    refine qaa<|c_if E rfl (fun h=>by cases h) (fun _=>?_)
    refine wp_seq<|qbc (by kernel_rfl) (by kernel_rfl) ok<|qv E (qad rfl) fun a E=>qv E (qad rfl) fun a E=>qv E (qaf qdn rfl) fun a E=>qv E (qao qaZ rfl (qae.own 0 rfl rfl)) fun a E=>qv E (qbo rfl rfl) fun a E=>qv E (qal rfl) fun a E=>?_
    refine qv E (qal rfl) fun a E=>wpQuiet_nil ?_
    intro w ok
    refine qaa<|wp_ret<|qan<|qag<|qan ?_
    obtain rfl:=sj hF
    exact so (sr ⟨rfl,⟨ok.drop,E.d,⟨rv_t E rfl,rv_t E rfl,trivial⟩,r14⟩⟩)
   replace hF:=qak hc82 hF
   replace E:=E.upd 51 hc82 rfl
   refine qv E (qad rfl) fun a E=>qv E (qad rfl) fun a E=>qv E (qad rfl) fun a E=>?_
   obtain ⟨c83,e84,hF⟩:=bnd hF
   refine qv E (qba Tryz.underlying9 rfl rfl e84) fun a E=>?_
   obtain ⟨y85,e86,hF⟩:=bnd hF
   obtain ⟨b87,o88,es89,hv90,hl91,hR92,at93⟩:=qkJ hbits_1 e86
   obtain ⟨rfl,l94⟩:=hR92
   refine qv E (qhJ hv90 rfl) fun a E=>?_
   obtain ⟨x95,e96,hF⟩:=bnd hF
   refine qv E (qjj (f:=Value.bool) (q:=fun _=>True) qjy l94 rfl rfl e96) fun a E=>qv E (qao qhi rfl (qae.idx (xs:=y85) (f:=Value.bool) (qae.ro at93) e96)) fun a E=>qv E (qbR rfl rfl) fun a E=>qv E (qal rfl) fun a E=>wpQuiet_nil ?_
   intro w ok
   refine qaa<|cf E rfl hF (fun hc97 hF=>?_) fun hc97 hF=>?_
   ·refine qab<|mv E rfl fun a E=>lw E (qaG rfl rfl (InR.inc r14 (InR.len ls_2) hc82)) fun a E=>av E rfl fun a E=>wpList_nil<|qaq<|qaa<|qab ?_
    refine mv E rfl fun a E=>lw E (qaG rfl rfl (InR.inc r15 r5 hc57)) fun a E=>av E rfl fun a E=>wpList_nil<|qaq ?_
    obtain rfl:=sj hF
    exact qay ⟨ok,E.keep [1,2,3,8,9],(InR.inc r14 (InR.len ls_2) hc82),(InR.inc r15 r5 hc57)⟩
   refine wp_seq<|qbc (by kernel_rfl) (by kernel_rfl) ok<|qv E (qad rfl) fun a E=>qv E (qad rfl) fun a E=>qv E (qaf qdn rfl) fun a E=>qv E (qao qaZ rfl (qae.own 0 rfl rfl)) fun a E=>qv E (qbo rfl rfl) fun a E=>qv E (qal rfl) fun a E=>?_
   refine qv E (qal rfl) fun a E=>wpQuiet_nil ?_
   intro w ok
   refine qaa<|wp_ret<|qan<|qag<|qan ?_
   obtain rfl:=sj hF
   exact so (sr ⟨rfl,⟨ok.drop,E.d,⟨rv_t E rfl,rv_t E rfl,trivial⟩,r14⟩⟩)
 replace hF:=qak hc58 hF
 replace E:=E.upd 28 hc58 rfl
 refine qv E (qad rfl) fun a E=>qv E (qad rfl) fun a E=>?_
 obtain ⟨s59,e60,hF⟩:=bnd hF
 refine qv E (qa7 Tryz.underlying9 e60 rfl ⟨_,rfl⟩ rfl) fun a E=>qv E (qaf qcN rfl) fun a E=>qv E (qao qav rfl (qae.own 0 rfl rfl)) fun a E=>?_
 obtain ⟨r61,e62,hF⟩:=bnd hF
 refine qfR E qqb rfl (fun w ok=>(qht N s59 (Nat.le_trans (qb6 e60) ls_2) x_0.Text l1 e62 hG ok).mono (fun _ _ h=>h)) rfl rfl fun a E=>qv E (qbR rfl rfl) fun a E=>qv E (qal rfl) fun a E=>wpQuiet_nil ?_
 intro w ok
 refine qaa<|cf E rfl hF (fun hc63 hF=>?_) fun hc63 hF=>?_
 ·refine qab<|mv E rfl fun a E=>fv E qcN rfl fun a E=>ld E ok qav 0 rfl rfl rfl fun a E=>lw E (qaV Tryz.underlying9 rfl) fun a E=>lw E (qaF rfl rfl) fun a E=>av E rfl fun a E=>wpList_nil ?_
  refine qaq<|qaa<|qab<|mv E rfl fun a E=>lw E (qaG rfl rfl (InR.inc r15 r5 hc57)) fun a E=>av E rfl fun a E=>wpList_nil<|qaq ?_
  obtain rfl:=sj hF
  exact qay ⟨ok,E.keep [1,2,3,8,9],(InR.wrap _ _),(InR.inc r15 r5 hc57)⟩
 refine wp_seq<|qbc (by kernel_rfl) (by kernel_rfl) ok<|qv E (qaf qcN rfl) fun a E=>qv E (qao qav rfl (qae.own 0 rfl rfl)) fun a E=>qv E (qbl rfl rfl) fun a E=>qv E (qad rfl) fun a E=>qap (x_0.Text == ([])) (fun hc64=>?_) (fun hc64=>?_)
 rotate_left
 ·replace hF:=qaj hc64 hF
  replace E:=E.upd 45 hc64 rfl
  refine qs E fun a E=>qs E fun a E=>qs E fun a E=>qs E fun a E=>qv E (qbH rfl rfl) fun a E=>qv E (qad rfl) fun a E=>qs E fun a E=>qs E fun a E=>?_
  refine qs E fun a E=>qs E fun a E=>qs E fun a E=>qs E fun a E=>qs E fun a E=>qv E (qbH rfl rfl) fun a E=>qv E (qal rfl) fun a E=>wpQuiet_nil ?_
  intro w ok
  refine qaa<|c_if E rfl (fun h=>by cases h) (fun _=>?_)
  refine wp_seq<|qbc (by kernel_rfl) (by kernel_rfl) ok<|qv E (qad rfl) fun a E=>qv E (qad rfl) fun a E=>qv E (qaf qdn rfl) fun a E=>qv E (qao qaZ rfl (qae.own 0 rfl rfl)) fun a E=>qv E (qbo rfl rfl) fun a E=>qv E (qal rfl) fun a E=>?_
  refine qv E (qal rfl) fun a E=>wpQuiet_nil ?_
  intro w ok
  refine qaa<|wp_ret<|qan<|qag<|qan ?_
  obtain rfl:=sj hF
  exact so (sr ⟨rfl,⟨ok.drop,E.d,⟨rv_t E rfl,rv_t E rfl,trivial⟩,r14⟩⟩)
 replace hF:=qak hc64 hF
 replace E:=E.upd 45 hc64 rfl
 refine qv E (qad rfl) fun a E=>qv E (qad rfl) fun a E=>qv E (qaV Tryz.underlying9 rfl) fun a E=>qv E (qaA rfl rfl) fun a E=>qv E (qbR rfl rfl) fun a E=>qv E (qad rfl) fun a E=>qap (decide (n_12 < (s_2.length:Int))) (fun hc65=>?_) (fun hc65=>?_)
 rotate_left
 ·replace hF:=qaj hc65 hF
  replace E:=E.upd 51 hc65 rfl
  refine qs E fun a E=>qs E fun a E=>qs E fun a E=>qs E fun a E=>qs E fun a E=>qs E fun a E=>qs E fun a E=>qv E (qbH rfl rfl) fun a E=>?_
  refine qv E (qal rfl) fun a E=>wpQuiet_nil ?_
  intro w ok
  refine qaa<|c_if E rfl (fun h=>by cases h) (fun _=>?_)
  refine wp_seq<|qbc (by kernel_rfl) (by kernel_rfl) ok<|qv E (qad rfl) fun a E=>qv E (qad rfl) fun a E=>qv E (qaf qdn rfl) fun a E=>qv E (qao qaZ rfl (qae.own 0 rfl rfl)) fun a E=>qv E (qbo rfl rfl) fun a E=>qv E (qal rfl) fun a E=>?_
  refine qv E (qal rfl) fun a E=>wpQuiet_nil ?_
  intro w ok
  refine qaa<|wp_ret<|qan<|qag<|qan ?_
  obtain rfl:=sj hF
  exact so (sr ⟨rfl,⟨ok.drop,E.d,⟨rv_t E rfl,rv_t E rfl,trivial⟩,r14⟩⟩)
 replace hF:=qak hc65 hF
 replace E:=E.upd 51 hc65 rfl
 refine qv E (qad rfl) fun a E=>qv E (qad rfl) fun a E=>qv E (qad rfl) fun a E=>?_
 obtain ⟨c66,e67,hF⟩:=bnd hF
 refine qv E (qba Tryz.underlying9 rfl rfl e67) fun a E=>?_
 obtain ⟨y68,e69,hF⟩:=bnd hF
 obtain ⟨b70,o71,es72,hv73,hl74,hR75,at76⟩:=qkJ hbits_1 e69
 obtain ⟨rfl,l77⟩:=hR75
 refine qv E (qhJ hv73 rfl) fun a E=>?_
 obtain ⟨x78,e79,hF⟩:=bnd hF
 refine qv E (qjj (f:=Value.bool) (q:=fun _=>True) qjy l77 rfl rfl e79) fun a E=>qv E (qao qhi rfl (qae.idx (xs:=y68) (f:=Value.bool) (qae.ro at76) e79)) fun a E=>qv E (qbR rfl rfl) fun a E=>qv E (qal rfl) fun a E=>wpQuiet_nil ?_
 intro w ok
 refine qaa<|cf E rfl hF (fun hc80 hF=>?_) fun hc80 hF=>?_
 ·refine qab<|mv E rfl fun a E=>lw E (qaG rfl rfl (InR.inc r14 (InR.len ls_2) hc65)) fun a E=>av E rfl fun a E=>wpList_nil<|qaq<|qaa<|qab ?_
  refine mv E rfl fun a E=>lw E (qaG rfl rfl (InR.inc r15 r5 hc57)) fun a E=>av E rfl fun a E=>wpList_nil<|qaq ?_
  obtain rfl:=sj hF
  exact qay ⟨ok,E.keep [1,2,3,8,9],(InR.inc r14 (InR.len ls_2) hc65),(InR.inc r15 r5 hc57)⟩
 refine wp_seq<|qbc (by kernel_rfl) (by kernel_rfl) ok<|qv E (qad rfl) fun a E=>qv E (qad rfl) fun a E=>qv E (qaf qdn rfl) fun a E=>qv E (qao qaZ rfl (qae.own 0 rfl rfl)) fun a E=>qv E (qbo rfl rfl) fun a E=>qv E (qal rfl) fun a E=>?_
 refine qv E (qal rfl) fun a E=>wpQuiet_nil ?_
 intro w ok
 refine qaa<|wp_ret<|qan<|qag<|qan ?_
 obtain rfl:=sj hF
 exact so (sr ⟨rfl,⟨ok.drop,E.d,⟨rv_t E rfl,rv_t E rfl,trivial⟩,r14⟩⟩)
def qkr (u:World) (m0:Mem) (S:Segs) (r:Int × Bool) (a:Act) (w:World):Prop :=
 Ok u m0 S w ∧ a.defers = [] ∧ RVs Tryz.prog a w [.t 6 (.int .i64 r.1),.t 7 (.bool r.2)] ∧ InR .i64 r.1
theorem qkE (N:Nat) (vitems_0:Value) (items_0:List (Item)) (hitems_0:(pL 5 qbO) m0 [vitems_0] items_0) (vbits_1:Value) (bits_1:List (Option (List Bool))) (hbits_1:(pL 1 (pP 256 (pGB 256))) m0 [vbits_1] bits_1) (s_2:List UInt8) (ls_2:s_2.length ≤ LIMS) {r:Int × Bool} (hF:qhg N items_0 bits_1 s_2 = some r) (hG:Glob u) (ok:Ok u m0 S w) :
  Calls Tryz.prog 82 [vitems_0,vbits_1,vs s_2].toArray w fun e w'=>(e = .returned (.tuple [(.int .i64 r.1),(.bool r.2)].toArray) ∧ Ok u m0 S w') ∧ InR .i64 r.1:=by
 unfold qhg at hF
 refine en (qkr u m0 S) r Tryz.func82 rfl rfl rfl (by rintro a w ⟨ok,hd,hrv,h0⟩; exact qaM [.t 6 (.int .i64 r.1),.t 7 (.bool r.2)] hd rfl hrv ⟨⟨rfl,ok⟩,h0⟩) fun fin a E=>sg<|av E rfl fun a E=>aw E rfl fun a E=>wp_seq ?_
 refine qab<|aw E rfl fun a E=>wp_seq<|sg<|mv E rfl fun a E=>?_
 refine lv E ok (qaE qep hitems_0 rfl) fun a E=>mv E rfl fun a E=>wn<|wp_block ?_
 obtain ⟨o3,hL,hF⟩:=bnd hF
 refine qaO _ (fun (s:Int × Int) a w=>Ok u m0 (S) w ∧ Env 39 a [(1,vbits_1),(2,vs s_2),(8,vi s.1),(13,vitems_0),(14,(vi (items_0.length:Int))),(15,vi s.2)] ∧ InR .i64 s.1 ∧ InR .i64 s.2) (fun (b:(Int ⊕ (Int × Bool))) e a w=>(Sum.elim (fun b44=>e = (.exit 0) ∧ Ok u m0 (S) w ∧ Env 39 a [(8,vi b44)] ∧ InR .i64 b44) (fun b46=>e = .ret ∧ qkr u m0 S b46 a w)) b) ?_ ?_ N _ a w hL ⟨ok,E.keep [1,2,8,13,14,15],(ir 0),(ir 0)⟩
 rotate_left
 ·intro e a w _ hO
  rcases o3 with o3 | o3
  rotate_left
  ·replace hF:=qbf hF
   obtain ⟨rfl,hret⟩:=hO
   refine qan<|qag ?_
   exact fin hF hret
  replace hF:=qbe hF
  obtain ⟨rfl,ok,E,r43⟩:=hO
  refine qaS<|qaa<|sg<|mv E rfl fun a E=>av E rfl fun a E=>av E rfl fun a E=>wpList_nil ?_
  refine qaa<|wp_ret ?_
  exact fin hF ⟨ok,E.d,⟨rv_t E rfl,rv_t E rfl,trivial⟩,r43⟩
 rintro ⟨n_6,x_7⟩ a w r ⟨ok,E,r8,r9⟩ hF
 replace hF:qc4 N items_0 bits_1 s_2 n_6 x_7 = some r:=hF
 unfold qc4 at hF
 refine sg<|lw E (qaA rfl rfl) fun a E=>wn<|wp_seq<|cf E rfl hF (fun hc10 hF=>?_) fun hc10 hF=>?_
 rotate_left
 ·refine wp_exit<|qaB ?_
  obtain rfl:=sj hF
  exact so (sl ⟨rfl,⟨ok,E.keep [8],r8⟩⟩)
 refine wp_skip<|qaa<|wp_seq<|wp_block<|sg<|mv E rfl fun a E=>?_
 obtain ⟨x11,e12,hF⟩:=bnd hF
 obtain ⟨b13,o14,es15,hl16,rr17,at18,yy19⟩:=qaN qep hitems_0 e12 (P:=Tryz.prog) (X:=.tmp 13) (I:=.tmp 15) (kd:=.i64) (qah E rfl) (qah E rfl)
 obtain ⟨c21,rfl,l20,h22,r23,r24⟩:=rr17
 refine lv E ok (yy19 _ _) fun a E=>lv E ok (qat (cs:=[vs x11.Text,c21,vb x11.Not,vi x11.Least,vi x11.Most]) qfn rfl rfl (qae.ro at18)) fun a E=>qaC E ok qgZ rfl rfl fun b25 a w E ok=>av E rfl fun a E=>qai E ok 0 rfl rfl rfl qk0 rfl rfl ⟨rfl,(qa0 h22),rfl,rfl,rfl,trivial⟩ rfl rfl fun w ok=>wn<|wp_seq ?_
 refine qbc (by kernel_rfl) (by kernel_rfl) ok<|qv E (qat (cs:=[vs x11.Text,c21,vb x11.Not,vi x11.Least,vi x11.Most]) qfn rfl rfl (qae.own 0 rfl rfl)) fun a E=>qv E (qad rfl) fun a E=>qv E (qad rfl) fun a E=>?_
 obtain ⟨x26,e27,hF⟩:=bnd hF
 obtain ⟨b28,o29,es30,hl31,rr32,at33,yy34⟩:=qaN qnp hbits_1 e27 (P:=Tryz.prog) (X:=.tmp 22) (I:=.tmp 23) (kd:=.i64) (qah E rfl) (qah E rfl)
 obtain ⟨c35,rfl,h36⟩:=qst rr32
 refine qv E (yy34 _ _) fun a E=>qv E (qao qsN rfl (qae.ro at33)) fun a E=>qv E (qad rfl) fun a E=>qv E (qad rfl) fun a E=>?_
 obtain ⟨s37,e38,hF⟩:=bnd hF
 refine qv E (qa7 Tryz.underlying9 e38 rfl ⟨_,rfl⟩ rfl) fun a E=>?_
 obtain ⟨r39,e40,hF⟩:=bnd hF
 obtain ⟨_,_,⟨_,_⟩,r41⟩:=Go.X.Calls.get (qlj N _ x11 ⟨_,rfl,l20,h22,r23,r24⟩ _ x26 h36 s37 (Nat.le_trans (qb6 e38) ls_2) e40 hG ok)
 refine qfR E qs7 rfl (fun w ok=>(qlj N _ x11 ⟨_,rfl,l20,h22,r23,r24⟩ _ x26 h36 s37 (Nat.le_trans (qb6 e38) ls_2) e40 hG ok).mono (fun _ _ h=>h.1)) rfl rfl fun a E=>qv E (qad rfl) fun a E=>qv E (qaw rfl rfl) fun a E=>qv E (qaw rfl rfl) fun a E=>qv E (qal rfl) fun a E=>qv E (qal rfl) fun a E=>wpQuiet_nil ?_
 intro w ok
 refine qaa<|wp_seq<|sg<|mv E rfl fun a E=>lw E (qbQ rfl) fun a E=>wn ?_
 refine cf E rfl hF (fun hc42 hF=>?_) fun hc42 hF=>?_
 ·refine sg<|av E rfl fun a E=>aw E rfl fun a E=>wp_ret<|qag ?_
  refine qan<|qag ?_
  obtain rfl:=sj hF
  exact so (sr ⟨rfl,⟨ok.drop,E.d,⟨rv_t E rfl,rv_t E rfl,trivial⟩,(ir 0)⟩⟩)
 refine wp_skip<|qaa<|qab<|mv E rfl fun a E=>mv E rfl fun a E=>lw E (qaF rfl rfl) fun a E=>av E rfl fun a E=>wpList_nil ?_
 refine qaq<|qaa<|qab<|lw E (qaG rfl rfl (InR.inc r9 (qas hitems_0) hc10)) fun a E=>mv E rfl fun a E=>wpList_nil ?_
 obtain rfl:=sj hF
 exact qay ⟨(ok.pk 1 [] rfl (by decide)),E.keep [1,2,8,13,14,15],(InR.wrap _ _),(InR.inc r9 (qas hitems_0) hc10)⟩
def qh9 (u:World) (m0:Mem) (S:Segs) (pb0:Nat) (x0:Lexer) (c1:Value) (c3:Value) (M4:List (Nat × Obj)) (c6:Value) (M7:List (Nat × Obj)) (r:Token × Int × Bool) (a:Act) (w:World):Prop :=
 ∃ m1 v0,m0.le m1 ∧ Ok u m1 ([(pb0,oc 180 [c1,c3,c6])] :: M4 :: M7 :: S) w ∧ a.defers = [] ∧ RVs Tryz.prog a w [.c 8 29 (.agg v0.toArray),.t 9 (.int .i64 r.2.1),.t 10 (.bool r.2.2)] ∧ qbM m1 v0 r.1 ∧ InR .i64 r.2.1
theorem qlh (N:Nat) (state_1:Int) (rstate_1:InR .i64 state_1) (s_2:List UInt8) (ls_2:s_2.length ≤ LIMS) (at_3:Int) (rat_3:InR .i64 at_3) {pb0:Nat} {c1:Value} {c3:Value} {M4:List (Nat × Obj)} {c6:Value} {M7:List (Nat × Obj)} (x0:Lexer) (h2:(pL 2 qbU) m0 [c1] x0.script) (h5:ORow 181 1 (pL 1 (pL 1 (pP 256 (pGB 256)))) m0 c3 x0.bits M4) (h8:OMap kS (oneV (pI .i64)) m0 c6 x0.states M7) {r:Token × Int × Bool} (hF:qeP N state_1 s_2 at_3 x0 = some r) (hG:Glob u) (ok:Ok u m0 ([(pb0,oc 180 [c1,c3,c6])] :: M4 :: M7 :: S) w) :
  Calls Tryz.prog 52 [vp pb0,vi state_1,vs s_2,vi at_3].toArray w fun e w'=>∃ m1 v0,e = .returned (.tuple [(.agg v0.toArray),(.int .i64 r.2.1),(.bool r.2.2)].toArray) ∧ m0.le m1 ∧ Ok u m1 ([(pb0,oc 180 [c1,c3,c6])] :: M4 :: M7 :: S) w' ∧ qbM m1 v0 r.1 ∧ InR .i64 r.2.1:=by
 have le_m0:=Mem.le.refl m0
 unfold qeP at hF
 refine en (qh9 u m0 S pb0 x0 c1 c3 M4 c6 M7) r Tryz.func52 rfl rfl rfl (by rintro a w ⟨m1,v0,hle,ok,hd,hrv,h0,h1⟩; exact qaM [.c 8 29 (.agg v0.toArray),.t 9 (.int .i64 r.2.1),.t 10 (.bool r.2.2)] hd rfl hrv ⟨m1,v0,rfl,hle,ok,h0,h1⟩) fun fin a E=>sg<|qaC E ok qdh rfl rfl fun b9 a w E ok=>av E rfl fun a E=>aw E rfl fun a E=>?_
 refine wp_seq<|sg<|mv E rfl fun a E=>lw E (qbk rfl) fun a E=>fv E qqV rfl fun a E=>ld E ok qsX 1 rfl rfl rfl fun a E=>mv E rfl fun a E=>?_
 obtain ⟨x10,e11,hF⟩:=bnd hF
 obtain ⟨b12,o13,es14,hl15,rr16,at17,yy18⟩:=qaN qgy h2 e11 (P:=Tryz.prog) (X:=.tmp 18) (I:=.tmp 19) (kd:=.i64) (qah E rfl) (qah E rfl)
 obtain ⟨c20,rfl,l19,h21⟩:=rr16
 refine lv E ok (yy18 _ _) fun a E=>fv E qgp rfl fun a E=>lv E ok (qao qhD rfl (qae.ro (At.sub 1 1 at17))) fun a E=>lv E ok (qaE qfU h21 rfl) fun a E=>mv E rfl fun a E=>wn<|wp_block ?_
 obtain ⟨o24,hL,hF⟩:=bnd hF
 refine qaO _ (fun (s:Int × Int) a w=>Ok u m0 ([(b9,oc 29 [(vs ([])),(vs ([])),vi 0])] :: [(pb0,oc 180 [c1,c3,c6])] :: M4 :: M7 :: S) w ∧ Env 77 a [(0,vp pb0),(1,vi s.1),(2,vs s_2),(3,vi at_3),(8,vp b9),(22,c20),(23,(vi (x10.Rules.length:Int))),(24,vi s.2)] ∧ InR .i64 s.1 ∧ InR .i64 s.2) (fun (b:(Unit ⊕ (Token × Int × Bool))) e a w=>(Sum.elim (fun b96=>e = (.exit 0) ∧ Ok u m0 ([(b9,oc 29 [(vs ([])),(vs ([])),vi 0])] :: [(pb0,oc 180 [c1,c3,c6])] :: M4 :: M7 :: S) w ∧ Env 77 a [(8,vp b9)]) (fun b97=>e = .ret ∧ qh9 u m0 S pb0 x0 c1 c3 M4 c6 M7 b97 a w)) b) ?_ ?_ N _ a w hL ⟨ok,E.keep [0,1,2,3,8,22,23,24],rstate_1,(ir 0)⟩
 rotate_left
 ·intro e a w _ hO
  rcases o24 with o24 | o24
  rotate_left
  ·replace hF:=qbf hF
   obtain ⟨rfl,hret⟩:=hO
   refine qan<|qag ?_
   exact fin hF hret
  replace hF:=qbe hF
  obtain ⟨rfl,ok,E⟩:=hO
  refine qaS<|qaa<|sg<|lw E (qaK (ps:=[]) (qs:=[]) (cs:=[(vs ([])),(vs ([])),vi 0]) qdh qmX rfl trivial rfl) fun a E=>qai E ok 0 rfl rfl rfl qjh rfl rfl ⟨rfl,rfl,rfl,trivial⟩ rfl rfl fun w ok=>av E rfl fun a E=>av E rfl fun a E=>?_
  refine wn<|wp_ret ?_
  exact fin hF ⟨m0,[(vs ([])),(vs ([])),vi 0],le_m0,ok.drop,E.d,⟨rv_c (cs:=[(vs ([])),(vs ([])),vi 0]) E ok rfl qfi rfl (qae.own 0 rfl rfl),rv_t E rfl,rv_t E rfl,trivial⟩,⟨rfl,(Nat.zero_le _),(Nat.zero_le _),(ir 0)⟩,(ir 0)⟩
 rintro ⟨state_27,x_28⟩ a w r ⟨ok,E,r29,r30⟩ hF
 replace hF:qcd N s_2 at_3 x0 x10 state_27 x_28 = some r:=hF
 unfold qcd at hF
 refine sg<|lw E (qaA rfl rfl) fun a E=>wn<|wp_seq<|cf E rfl hF (fun hc31 hF=>?_) fun hc31 hF=>?_
 rotate_left
 ·refine wp_exit<|qaB ?_
  obtain rfl:=sj hF
  exact so (sl ⟨rfl,⟨ok,E.keep [8]⟩⟩)
 refine wp_skip<|qaa<|wp_seq<|wp_block<|sg<|mv E rfl fun a E=>?_
 obtain ⟨x32,e33,hF⟩:=bnd hF
 obtain ⟨b34,o35,es36,hl37,rr38,at39,yy40⟩:=qaN qfU h21 e33 (P:=Tryz.prog) (X:=.tmp 22) (I:=.tmp 24) (kd:=.i64) (qah E rfl) (qah E rfl)
 obtain ⟨c42,rfl,l41,h43,l44⟩:=rr38
 refine lv E ok (yy40 _ _) fun a E=>lv E ok (qat (cs:=[vs x32.Kind,c42,vs x32.Next]) qii rfl rfl (qae.ro at39)) fun a E=>qaC E ok qg0 rfl rfl fun b45 a w E ok=>av E rfl fun a E=>qai E ok 0 rfl rfl rfl qk4 rfl rfl ⟨rfl,(qa0 h43),rfl,trivial⟩ rfl rfl fun w ok=>wn<|wp_seq ?_
 refine qbc (by kernel_rfl) (by kernel_rfl) ok<|qv E (qaf qfI rfl) fun a E=>qv E (qao qgB rfl (qae.own 0 rfl rfl)) fun a E=>qv E (qad rfl) fun a E=>qv E (qbk rfl) fun a E=>qv E (qaf qlA rfl) fun a E=>qv E (qao qo4 rfl (qae.own 2 rfl rfl)) fun a E=>qv E (qad rfl) fun a E=>?_
 obtain ⟨x46,e47,hF⟩:=bnd hF
 obtain ⟨b48,o49,hp50,yy51⟩:=qcA qn9 h5 e47 (P:=Tryz.prog) (X:=.tmp 35) (I:=.tmp 36) (kd:=.i64) (qah E rfl) (qah E rfl)
 refine qv E (yy51 _ _) fun a E=>?_
 obtain ⟨es52,hl53,rr54,hh55⟩:=qeF h5 e47 hp50 (by decide)
 obtain ⟨c56,rfl,h57⟩:=qkP rr54
 refine qv E (qao qr4 rfl (hh55 _ _ _ 3 rfl)) fun a E=>qv E (qad rfl) fun a E=>?_
 obtain ⟨x58,e59,hF⟩:=bnd hF
 obtain ⟨b60,o61,es62,hl63,rr64,at65,yy66⟩:=qaN qn2 h57 e59 (P:=Tryz.prog) (X:=.tmp 38) (I:=.tmp 39) (kd:=.i64) (qah E rfl) (qah E rfl)
 obtain ⟨c67,rfl,h68⟩:=qkP rr64
 refine qv E (yy66 _ _) fun a E=>qv E (qao qsm rfl (qae.ro at65)) fun a E=>qv E (qad rfl) fun a E=>qv E (qad rfl) fun a E=>?_
 obtain ⟨s69,e70,hF⟩:=bnd hF
 refine qv E (qa7 Tryz.underlying9 e70 rfl ⟨_,rfl⟩ rfl) fun a E=>?_
 obtain ⟨r71,e72,hF⟩:=bnd hF
 obtain ⟨_,_,⟨_,_⟩,r73⟩:=Go.X.Calls.get (qkE N _ x32.Items h43 _ x58 h68 s69 (Nat.le_trans (qb6 e70) ls_2) e72 hG ok)
 refine qfR E qtV rfl (fun w ok=>(qkE N _ x32.Items h43 _ x58 h68 s69 (Nat.le_trans (qb6 e70) ls_2) e72 hG ok).mono (fun _ _ h=>h.1)) rfl rfl fun a E=>qv E (qad rfl) fun a E=>qv E (qaw rfl rfl) fun a E=>qv E (qaw rfl rfl) fun a E=>qv E (qal rfl) fun a E=>qv E (qal rfl) fun a E=>wpQuiet_nil ?_
 intro w ok
 refine qaa<|wp_seq<|sg<|mv E rfl fun a E=>lw E (qbQ rfl) fun a E=>mv E rfl fun a E=>qap (!r71.2) (fun hc74=>?_) (fun hc74=>?_)
 ·replace hF:=qak hc74 hF
  replace E:=E.upd 50 hc74 rfl
  refine ls E fun a E=>ls E fun a E=>pt E rfl rfl fun a E=>wn<|c_if E rfl (fun _=>?_) (fun h=>by cases h)
  refine wp_exit<|qaB<|qaS<|qaa<|qab<|lw E (qaG rfl rfl (InR.inc r30 (qas h21) hc31)) fun a E=>mv E rfl fun a E=>wpList_nil ?_
  obtain rfl:=sj hF
  exact qay ⟨(ok.pk 5 [1,2,3,4] rfl (by decide)),E.keep [0,1,2,3,8,22,23,24],r29,(InR.inc r30 (qas h21) hc31)⟩
 replace hF:=qaj hc74 hF
 replace E:=E.upd 50 hc74 rfl
 refine mv E rfl fun a E=>lw E (qbt rfl rfl) fun a E=>pf E rfl rfl fun a E=>wn<|cf E rfl hF (fun hc75 hF=>?_) fun hc75 hF=>?_
 ·refine wp_exit<|qaB<|qaS<|qaa<|qab<|lw E (qaG rfl rfl (InR.inc r30 (qas h21) hc31)) fun a E=>mv E rfl fun a E=>wpList_nil ?_
  obtain rfl:=sj hF
  exact qay ⟨(ok.pk 5 [1,2,3,4] rfl (by decide)),E.keep [0,1,2,3,8,22,23,24],r29,(InR.inc r30 (qas h21) hc31)⟩
 refine wp_skip<|qaa<|wp_seq<|sg<|fv E qgt rfl fun a E=>ld E ok qav 0 rfl rfl rfl fun a E=>lw E (qcn rfl rfl) fun a E=>?_
 refine wn ?_
 obtain ⟨o76,hJ,hF⟩:=bnd hF
 refine qbx (Q':=fun e a w=>e = .normal ∧ Ok u m0 ([(b45,oc 118 [vs x32.Kind,c42,vs x32.Next])] :: [(b9,oc 29 [(vs ([])),(vs ([])),vi 0])] :: [(pb0,oc 180 [c1,c3,c6])] :: M4 :: M7 :: S) w ∧ Env 77 a [(1,vi o76),(2,vs s_2),(3,vi at_3),(8,vp b9),(12,vp b45),(13,vi r71.1)] ∧ InR .i64 o76) ?_ ?_
 ·replace hF:=hJ
  clear hJ
  refine cf E rfl hF (fun hc78 hF=>?_) fun hc78 hF=>?_
  rotate_left
  ·refine wp_skip ?_
   obtain rfl:=sj hF
   exact ⟨rfl,⟨ok,E.keep [1,2,3,8,12,13],r29⟩⟩
  refine qbc (by kernel_rfl) (by kernel_rfl) ok<|qv E (qad rfl) fun a E=>qv E (qbk rfl) fun a E=>qv E (qaf qn7 rfl) fun a E=>qv E (qao qkV rfl (qae.own 2 rfl rfl)) fun a E=>qv E (qaf qgt rfl) fun a E=>qv E (qao qav rfl (qae.own 0 rfl rfl)) fun a E=>?_
  obtain ⟨xv79,h80,yy81,yy82⟩:=qkQ (P:=Tryz.prog) (mo:=.tmp 60) (ko:=.tmp 62) (zx:=(0:Int)) ok 4 (qd5 Tryz.underlying9) Tryz.underlying130 h8 rfl (qah E rfl) (qah E rfl) ⟨rfl,l44⟩ qo5 (qgA (ir 0))
  obtain ⟨rfl,r83⟩:=qh0 h80
  refine qv E (yy81 _) fun a E=>qv E (qal rfl) fun a E=>wpQuiet_nil ?_
  intro w ok
  obtain rfl:=sj hF
  exact ⟨rfl,⟨ok,E.keep [1,2,3,8,12,13],r83⟩⟩
 clear hJ
 intro e a w hO
 obtain ⟨rfl,ok,E,r84⟩:=hO
 refine qaa<|wp_seq ?_
 obtain ⟨o85,hJ,hF⟩:=bnd hF
 refine qbx (Q':=fun e a w=>e = .normal ∧ Ok u m0 ([(b45,oc 118 [vs x32.Kind,c42,vs x32.Next])] :: [(b9,oc 29 [vs o85.2.Kind,vs o85.2.Text,vi o85.2.From])] :: [(pb0,oc 180 [c1,c3,c6])] :: M4 :: M7 :: S) w ∧ Env 77 a [(8,vp b9),(9,vi o85.1),(10,vb true)] ∧ InR .i64 o85.1 ∧ o85.2.Kind.length ≤ LIMS ∧ o85.2.Text.length ≤ LIMS ∧ InR .i64 o85.2.From) ?_ ?_
 rotate_left
 ·clear hJ
  intro e a w hO
  obtain ⟨rfl,ok,E,r92,l93,l94,r95⟩:=hO
  refine qaa<|wp_ret<|qan<|qag ?_
  obtain rfl:=sj hF
  exact so (sr ⟨rfl,⟨m0,[vs o85.2.Kind,vs o85.2.Text,vi o85.2.From],le_m0,ok.drop.drop,E.d,⟨rv_c (cs:=[vs o85.2.Kind,vs o85.2.Text,vi o85.2.From]) E ok rfl qfi rfl (qae.own 1 rfl rfl),rv_t E rfl,rv_t E rfl,trivial⟩,⟨rfl,l93,l94,r95⟩,r92⟩⟩)
 replace hF:=hJ
 clear hJ
 obtain ⟨s90,e91,hF⟩:=bnd hF
 obtain rfl:=sj hF
 refine qcp [1] (Cls u m0 ([(b45,oc 118 [vs x32.Kind,c42,vs x32.Next])] :: [(b9,oc 29 [(vs ([])),(vs ([])),vi 0])] :: [(pb0,oc 180 [c1,c3,c6])] :: M4 :: M7 :: [])) (Cls u m0 ([(b45,oc 118 [vs x32.Kind,c42,vs x32.Next])] :: [(pb0,oc 180 [c1,c3,c6])] :: M4 :: M7 :: [])) (by kernel_rfl) ?_
 intro w hw
 replace ok:=qcD ok hw
 clear hw
 refine qam (cl1 (cq le_m0 ok [0,1,2,3,4] rfl) (cq le_m0 ok [0,2,3,4] rfl)) fun hT=>kt 0 E rfl hT (qaf qly rfl) fun a E=>qbD 1 E rfl (by kernel_rfl) nP hT (qao qav rfl (qae.cown 0 rfl rfl)) rfl rfl fun a E=>kt 2 E rfl hT (qad rfl) fun a E=>kt 3 E rfl hT (qad rfl) fun a E=>kt 4 E rfl hT (qad rfl) fun a E=>kt 5 E rfl hT (qad rfl) fun a E=>kt 6 E rfl hT (qaF rfl rfl) fun a E=>?_
 refine kt 7 E rfl hT (qa7 Tryz.underlying9 e91 rfl ⟨_,rfl⟩ ⟨_,rfl⟩) fun a E=>kt 8 E rfl hT (qad rfl) fun a E=>kt 9 E rfl hT (qaK (ps:=[(0,.tmp 65),(1,.tmp 71),(2,.tmp 72)]) (qs:=[(0,[vs x32.Kind]),(1,[vs s90]),(2,[vi at_3])]) (cs:=[vs x32.Kind,vs s90,vi at_3]) qdh qmX rfl ⟨rfl,rfl,rfl,⟨rfl,rfl,rfl,⟨rfl,rfl,rfl,trivial⟩⟩⟩ rfl) fun a E=>kt 10 E rfl hT (qad rfl) fun a E=>qau [11] (by kernel_rfl) rfl (qax ?_)
 ·refine wo rfl<|qai E ok 1 rfl rfl rfl qjh rfl rfl ⟨rfl,rfl,rfl,trivial⟩ rfl rfl fun w ok=>wn<|qam (cl2 (by kernel_rfl) (cq le_m0 ok [0,2,3,4] rfl)) fun hT=>kt 12 E rfl hT (qal rfl) fun a E=>kt 13 E rfl hT (qal rfl) fun a E=>qbd (by kernel_rfl) ?_
  exact ⟨rfl,⟨ok,E.keep [8,9,10],r84,l41,(Nat.le_trans (qb6 e91) ls_2),rat_3⟩⟩
def qjU (u:World) (m0:Mem) (S:Segs) (r:(List (Token)) × Int × Int) (a:Act) (w:World):Prop :=
 ∃ m1 v0,m0.le m1 ∧ Ok u m1 S w ∧ a.defers = [] ∧ RVs Tryz.prog a w [.t 4 v0,.t 5 (.int .i64 r.2.1),.t 6 (.int .i64 r.2.2)] ∧ (pL 3 qbM) m1 [v0] r.1 ∧ InR .i64 r.2.1 ∧ InR .i64 r.2.2
theorem qm9 (N:Nat) (vscript_0:Value) (script_0:List (State)) (hscript_0:(pL 2 qbU) m0 [vscript_0] script_0) (s_1:List UInt8) (ls_1:s_1.length ≤ LIMS) {r:(List (Token)) × Int × Int} (hF:qfW N script_0 s_1 = some r) (hG:Glob u) (ok:Ok u m0 S w) :
  Calls Tryz.prog 35 [vscript_0,vs s_1].toArray w fun e w'=>∃ m1 v0,e = .returned (.tuple [v0,(.int .i64 r.2.1),(.int .i64 r.2.2)].toArray) ∧ m0.le m1 ∧ Ok u m1 S w' ∧ (pL 3 qbM) m1 [v0] r.1 ∧ InR .i64 r.2.1 ∧ InR .i64 r.2.2:=by
 have le_m0:=Mem.le.refl m0
 unfold qfW at hF
 refine en (qjU u m0 S) r Tryz.func35 rfl rfl rfl (by rintro a w ⟨m1,v0,hle,ok,hd,hrv,h0,h1,h2⟩; exact qaM [.t 4 v0,.t 5 (.int .i64 r.2.1),.t 6 (.int .i64 r.2.2)] hd rfl hrv ⟨m1,v0,rfl,hle,ok,h0,h1,h2⟩) fun fin a E=>sg<|av E rfl fun a E=>av E rfl fun a E=>aw E rfl fun a E=>?_
 refine wp_seq<|sg<|mv E rfl fun a E=>?_
 obtain ⟨r1,e2,hF⟩:=bnd hF
 refine lc E qrD rfl (qkx N _ script_0 hscript_0 e2 hG ok) fun w ok a E=>lw E (qbQ rfl) fun a E=>wn<|cf E rfl hF (fun hc3 hF=>?_) fun hc3 hF=>?_
 ·refine sg<|av E rfl fun a E=>av E rfl fun a E=>aw E rfl fun a E=>wp_ret ?_
  refine qag ?_
  exact fin hF ⟨m0,(.slice none 0 0),le_m0,ok,E.d,⟨rv_t E rfl,rv_t E rfl,rv_t E rfl,trivial⟩,qbF,(ir 0),(ir 1)⟩
 refine wp_skip<|qaa<|wp_seq<|sg<|mv E rfl fun a E=>lw E (qaV Tryz.underlying9 rfl) fun a E=>lw E (qb9 rfl rfl) fun a E=>?_
 refine wn<|cf E rfl hF (fun hc4 hF=>?_) fun hc4 hF=>?_
 ·refine sg<|av E rfl fun a E=>av E rfl fun a E=>aw E rfl fun a E=>wp_ret ?_
  refine qag ?_
  exact fin hF ⟨m0,(.slice none 0 0),le_m0,ok,E.d,⟨rv_t E rfl,rv_t E rfl,rv_t E rfl,trivial⟩,qbF,(ir 200000),(ir 6)⟩
 refine wp_skip<|qaa<|sg<|mv E rfl fun a E=>?_
 obtain ⟨r5,e6,hF⟩:=bnd hF
 refine qaz E qud rfl (qmw N _ script_0 hscript_0 e6 hG ok) rfl rfl ?_
 rintro _ w ⟨m7,b8,c9,c11,M12,c14,M15,rfl,hle,ok,h10,h13,h16⟩
 have le_m0:=le_m0.trans hle
 have hscript_0:=(mL qaP).up hle hscript_0
 refine ⟨_,rfl,fun a E=>?_⟩
 refine av E rfl fun a E=>aw E rfl fun a E=>wp_seq<|wp_block ?_
 obtain ⟨M24,ok,h25⟩:=qdI (e:=29) (k:=3) (R:=qbM) ok
 obtain ⟨o26,hL,hF⟩:=bnd hF
 refine qaO _ (fun (s:(List (Token)) × Int × Int) a w=>∃ m27 c28 M29,m7.le m27 ∧ Ok u m27 (M29 :: [(b8,oc 180 [c9,c11,c14])] :: M12 :: M15 :: S) w ∧ Env 47 a [(1,vs s_1),(4,c28),(5,vi s.2.1),(7,vp b8),(8,vi s.2.2)] ∧ ORow 29 3 qbM m27 c28 s.1 M29 ∧ InR .i64 s.2.1 ∧ InR .i64 s.2.2) (fun (b:(((List (Token))) ⊕ ((List (Token)) × Int × Int))) e a w=>(Sum.elim (fun b68=>e = (.exit 0) ∧ ∃ m69 c70 M71,m7.le m69 ∧ Ok u m69 (M71 :: [(b8,oc 180 [c9,c11,c14])] :: M12 :: M15 :: S) w ∧ Env 47 a [(4,c70)] ∧ ORow 29 3 qbM m69 c70 b68 M71) (fun b73=>e = .ret ∧ qjU u m0 S b73 a w)) b) ?_ ?_ N _ a w hL ⟨m7,(Value.slice none 0 0),M24,Mem.le.refl _,ok,E.keep [1,4,5,7,8],h25,(ir 0),(ir 0)⟩
 rotate_left
 ·intro e a w _ hO
  rcases o26 with o26 | o26
  rotate_left
  ·replace hF:=qbf hF
   obtain ⟨rfl,hret⟩:=hO
   refine qan<|qag ?_
   exact fin hF hret
  replace hF:=qbe hF
  obtain ⟨rfl,m62,c63,M64,hle,ok,E,h65⟩:=hO
  have le_m0:=le_m0.trans hle
  have hscript_0:=(mL qaP).up hle hscript_0
  have h10:=(mL qaP).up hle h10
  have h13:=ORow.up (mL (mL (mP (mGB 256)))) hle h13
  have h16:=OMap.up (qfV (mI .i64)) hle h16
  refine qaS<|qaa<|sg<|mv E rfl fun a E=>av E rfl fun a E=>av E rfl fun a E=>av E rfl fun a E=>?_
  refine wn<|wp_ret ?_
  obtain ⟨m66,hle,ok,hfz⟩:=(ok.frs 0 rfl).freeze
  have h67:=ORow.froz qev h65 hle hfz (by decide)
  have le_m0:=le_m0.trans hle
  have hscript_0:=(mL qaP).up hle hscript_0
  have h10:=(mL qaP).up hle h10
  have h13:=ORow.up (mL (mL (mP (mGB 256)))) hle h13
  have h16:=OMap.up (qfV (mI .i64)) hle h16
  exact fin hF ⟨m66,c63,le_m0,ok.drop.drop.drop,E.d,⟨rv_t E rfl,rv_t E rfl,rv_t E rfl,trivial⟩,h67,(ir 0),(ir 0)⟩
 rintro ⟨l_33,at_34,state_35⟩ a w r ⟨m36,c37,M38,hle,ok,E,h39,r40,r41⟩ hF
 replace hF:qfo N s_1 r5 l_33 at_34 state_35 = some r:=hF
 unfold qfo at hF
 have le_m7:=Mem.le.refl m7
 have le_m0:=le_m0.trans hle
 have le_m7:=le_m7.trans hle
 have hscript_0:=(mL qaP).up hle hscript_0
 have h10:=(mL qaP).up hle h10
 have h13:=ORow.up (mL (mL (mP (mGB 256)))) hle h13
 have h16:=OMap.up (qfV (mI .i64)) hle h16
 refine wp_seq<|sg<|mv E rfl fun a E=>mv E rfl fun a E=>lw E (qaV Tryz.underlying9 rfl) fun a E=>lw E (qaA rfl rfl) fun a E=>wpList_nil ?_
 refine qaa<|cf E rfl hF (fun hc42 hF=>?_) fun hc42 hF=>?_
 rotate_left
 ·refine wp_exit<|qaB ?_
  obtain rfl:=sj hF
  exact so (sl ⟨rfl,⟨m36,c37,M38,le_m7,ok,E.keep [4],h39⟩⟩)
 refine wp_skip<|qaa<|wp_block<|sg<|mv E rfl fun a E=>mv E rfl fun a E=>mv E rfl fun a E=>?_
 refine mv E rfl fun a E=>?_
 obtain ⟨r43,e44,hF⟩:=bnd hF
 replace ok:Ok u m36 ([(b8,oc 180 [c9,c11,c14])] :: M12 :: M15 :: M38 :: S) w:=(ok.pk 4 [1,2,3,0] rfl (by decide))
 refine qaz E qtU rfl (qlh N state_35 r41 s_1 ls_1 at_34 r40 r5 h10 h13 h16 e44 hG ok) rfl rfl ?_
 rintro _ w ⟨m45,vs46,rfl,hle,ok,h47,r48⟩
 have le_m0:=le_m0.trans hle
 have le_m7:=le_m7.trans hle
 have hscript_0:=(mL qaP).up hle hscript_0
 have h10:=(mL qaP).up hle h10
 have h13:=ORow.up (mL (mL (mP (mGB 256)))) hle h13
 have h16:=OMap.up (qfV (mI .i64)) hle h16
 have h39:=ORow.up qev hle h39
 obtain ⟨rfl,l49,l50,r51⟩:=h47
 refine ⟨_,rfl,fun a E=>?_⟩
 refine mv E rfl fun a E=>lw E (qaw rfl rfl) fun a E=>lw E (qaw rfl rfl) fun a E=>lw E (qaw rfl rfl) fun a E=>qaC E ok qdh rfl rfl fun b52 a w E ok=>qai E ok 0 rfl rfl rfl qjh rfl rfl ⟨rfl,rfl,rfl,trivial⟩ rfl rfl fun w ok=>av E rfl fun a E=>av E rfl fun a E=>?_
 refine wn<|wp_seq<|sg<|mv E rfl fun a E=>lw E (qbQ rfl) fun a E=>wpList_nil ?_
 refine qaa<|cf E rfl hF (fun hc53 hF=>?_) fun hc53 hF=>?_
 ·refine sg<|mv E rfl fun a E=>av E rfl fun a E=>av E rfl fun a E=>aw E rfl fun a E=>?_
  refine wp_ret<|qag<|qan ?_
  obtain rfl:=sj hF
  exact so (sr ⟨rfl,⟨m45,(.slice none 0 0),le_m0,ok.drop.drop.drop.drop.drop,E.d,⟨rv_t E rfl,rv_t E rfl,rv_t E rfl,trivial⟩,qbF,r40,(ir 3)⟩⟩)
 refine wp_skip<|qaa<|sg<|mv E rfl fun a E=>lv E ok (qat (cs:=[vs r43.1.Kind,vs r43.1.Text,vi r43.1.From]) qfi rfl rfl (qae.own 0 rfl rfl)) fun a E=>qaT (R:=qbM) (xo:=[.tmp 37]) (xs:=([r43.1]:List (Token))) E ok qcu qdh rfl ⟨⟨_,rfl,rfl,⟨rfl,l49,l50,r51⟩⟩,trivial⟩ rfl rfl rfl rfl fun c54 M55 a w E ok h56=>?_
 obtain ⟨l57,e58,hF⟩:=bnd hF
 refine qa3 (R:=qbM) E ok 5 qev qcu Tryz.underlying26 rfl h39 (qaJ.ofRow h56 0 rfl ok) e58 ⟨_,qdh,rfl⟩ rfl rfl rfl rfl fun c59 M60 a w E ok h61=>aw E rfl fun a E=>sg<|mv E rfl fun a E=>fv E qdL rfl fun a E=>?_
 refine ld E ok qav 1 rfl rfl rfl fun a E=>lw E (qaV Tryz.underlying9 rfl) fun a E=>lw E (qaF rfl rfl) fun a E=>aw E rfl fun a E=>qab<|mv E rfl fun a E=>?_
 refine av E rfl fun a E=>wpList_nil<|qaq ?_
 obtain rfl:=sj hF
 exact qay ⟨m45,c59,M60,le_m7,(ok.pk 6 [5,2,3,4] rfl (by decide)),E.keep [1,4,5,7,8],h61,(InR.wrap _ _),r48⟩
theorem qiP (N:Nat) (p0_0:List UInt8) (lp0_0:p0_0.length ≤ LIMS) (p1_1:List UInt8) (lp1_1:p1_1.length ≤ LIMS) {r:Int} (hF:qeG N p0_0 p1_1 = some r) (hG:Glob u) (ok:Ok u m0 S w) :
  Calls Tryz.prog 45 [vs p0_0,vs p1_1].toArray w fun e w'=>(e = .returned (.int .i64 r) ∧ Ok u m0 S w') ∧ InR .i64 r:=by
 obtain ⟨mx,hmx⟩:=hG
 exact qqJ Tryz.lays138 hmx p0_0 p1_1 hF ok
theorem qiQ {u:World} {m0:Mem} {S:Segs} {w:World} (N:Nat) (p0_0:Int) (rp0_0:InR .i64 p0_0) {r:(List UInt8)} (hF:qeH N p0_0 = some r) (hG:Glob u) (hTb:Tab u) (ok:Ok u m0 S w) :
 Calls Tryz.prog 44 [vi p0_0].toArray w fun e w'=>(e = .returned (.string (bs r)) ∧ Ok u m0 S w') ∧ r.length ≤ LIMS:=qqE Tryz.laysM171 hTb p0_0 rp0_0 hF ok
def qfh (u:World) (m0:Mem) (S:Segs) (r:Int) (a:Act) (w:World):Prop :=
 Ok u m0 S w ∧ a.defers = [] ∧ RVs Tryz.prog a w [.t 4 (.int .i64 r)] ∧ InR .i64 r
theorem qhw (N:Nat) (vs_0:Value) (s_0:List (List UInt8)) (hs_0:(pL 1 pS) m0 [vs_0] s_0) (v_1:List UInt8) (lv_1:v_1.length ≤ LIMS) {r:Int} (hF:qc3 N s_0 v_1 = some r) (hG:Glob u) (ok:Ok u m0 S w) :
  Calls Tryz.prog 75 [vs_0,vs v_1].toArray w fun e w'=>(e = .returned (.int .i64 r) ∧ Ok u m0 S w') ∧ InR .i64 r:=by
 unfold qc3 at hF
 refine en (qfh u m0 S) r Tryz.func75 rfl rfl rfl (by rintro a w ⟨ok,hd,hrv,h0⟩; exact qaM [.t 4 (.int .i64 r)] hd rfl hrv ⟨⟨rfl,ok⟩,h0⟩) fun fin a E=>sg<|aw E rfl fun a E=>wp_seq<|wp_seq ?_
 refine qab<|mv E rfl fun a E=>lv E ok (qaE qhI hs_0 rfl) fun a E=>mv E rfl fun a E=>wn<|wp_block ?_
 obtain ⟨o2,hL,hF⟩:=bnd hF
 refine qaO _ (fun (s:Int) a w=>Ok u m0 (S) w ∧ Env 19 a [(0,vs_0),(1,vs v_1),(7,(vi (s_0.length:Int))),(8,vi s)] ∧ InR .i64 s) (fun (b:(Unit ⊕ Int)) e a w=>(Sum.elim (fun b18=>e = (.exit 0) ∧ Ok u m0 (S) w ∧ Env 19 a []) (fun b19=>e = .ret ∧ qfh u m0 S b19 a w)) b) ?_ ?_ N _ a w hL ⟨ok,E.keep [0,1,7,8],(ir 0)⟩
 rotate_left
 ·intro e a w _ hO
  rcases o2 with o2 | o2
  rotate_left
  ·replace hF:=qbf hF
   obtain ⟨rfl,hret⟩:=hO
   refine qan<|qag ?_
   exact fin hF hret
  replace hF:=qbe hF
  obtain ⟨rfl,ok,E⟩:=hO
  refine qaS<|qaa<|sg<|aw E rfl fun a E=>wp_ret ?_
  exact fin hF ⟨ok,E.d,⟨rv_t E rfl,trivial⟩,(ir (-1))⟩
 rintro x_4 a w r ⟨ok,E,r5⟩ hF
 replace hF:qbw N s_0 v_1 x_4 = some r:=hF
 unfold qbw at hF
 refine sg<|lw E (qaA rfl rfl) fun a E=>wn<|wp_seq<|cf E rfl hF (fun hc6 hF=>?_) fun hc6 hF=>?_
 rotate_left
 ·refine wp_exit<|qaB ?_
  obtain rfl:=sj hF
  exact so (sl ⟨rfl,⟨ok,E.keep []⟩⟩)
 refine wp_skip<|qaa<|wp_seq<|wp_block<|sg<|mv E rfl fun a E=>av E rfl fun a E=>?_
 refine wn<|sg<|mv E rfl fun a E=>mv E rfl fun a E=>mv E rfl fun a E=>?_
 obtain ⟨x7,e8,hF⟩:=bnd hF
 obtain ⟨b9,o10,es11,hl12,rr13,at14,yy15⟩:=qaN qhI hs_0 e8 (P:=Tryz.prog) (X:=.tmp 12) (I:=.tmp 13) (kd:=.i64) (qah E rfl) (qah E rfl)
 obtain ⟨rfl,l16⟩:=rr13
 refine lv E ok (yy15 _ _) fun a E=>lv E ok (qao qav rfl (qae.ro at14)) fun a E=>lw E (qbl rfl rfl) fun a E=>wn<|cf E rfl hF (fun hc17 hF=>?_) fun hc17 hF=>?_
 rotate_left
 ·refine wp_skip<|qaq<|qaa<|qab<|lw E (qaG rfl rfl (InR.inc r5 (qas hs_0) hc6)) fun a E=>mv E rfl fun a E=>wpList_nil ?_
  obtain rfl:=sj hF
  exact qay ⟨ok,E.keep [0,1,7,8],(InR.inc r5 (qas hs_0) hc6)⟩
 refine sg<|mv E rfl fun a E=>aw E rfl fun a E=>wp_ret<|qan ?_
 refine qag ?_
 obtain rfl:=sj hF
 exact so (sr ⟨rfl,⟨ok,E.d,⟨rv_t E rfl,trivial⟩,r5⟩⟩)
def qg6 (u:World) (m0:Mem) (S:Segs) (r:Bool) (a:Act) (w:World):Prop :=
 Ok u m0 S w ∧ a.defers = [] ∧ RVs Tryz.prog a w [.t 4 (.bool r)]
theorem qg5 (N:Nat) (vs_0:Value) (s_0:List (List UInt8)) (hs_0:(pL 1 pS) m0 [vs_0] s_0) (v_1:List UInt8) (lv_1:v_1.length ≤ LIMS) {r:Bool} (hF:qbS N s_0 v_1 = some r) (hG:Glob u) (ok:Ok u m0 S w) :
  Calls Tryz.prog 46 [vs_0,vs v_1].toArray w fun e w'=>(e = .returned (.bool r) ∧ Ok u m0 S w'):=by
 unfold qbS at hF
 refine en (qg6 u m0 S) r Tryz.func46 rfl rfl rfl (by rintro a w ⟨ok,hd,hrv⟩; exact qaM [.t 4 (.bool r)] hd rfl hrv ⟨rfl,ok⟩) fun fin a E=>sg<|aw E rfl fun a E=>sg ?_
 refine mv E rfl fun a E=>mv E rfl fun a E=>?_
 obtain ⟨r1,e2,hF⟩:=bnd hF
 refine qaz E qtR rfl (qhw N _ s_0 hs_0 v_1 lv_1 e2 hG ok) rfl rfl ?_
 rintro _ w ⟨⟨rfl,ok⟩,r3⟩
 refine ⟨_,rfl,fun a E=>?_⟩
 refine lw E (qbo rfl rfl) fun a E=>aw E rfl fun a E=>wp_ret ?_
 exact fin hF ⟨ok,E.d,⟨rv_t E rfl,trivial⟩⟩
end Go.Proofs.YtllfckekodcdaaaGreatDoor
