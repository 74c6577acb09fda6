/- Texts of this proof, put together by pack.py: what its declarations name. -/
import Derived.Test.YtllfckekodcdaaaGreatDoorPkKn2
import Derived.Test.YtllfckekodcdaaaGreatDoorCards
import Derived.Test.YtllfckekodcdaaaGreatDoorChecked
import Derived.Test.YtllfckekodcdaaaGreatDoorProg
import Derived.Test.YtllfckekodcdaaaGreatDoorRows
import Derived.Test.YtllfckekodcdaaaGreatDoorTie
set_option linter.unusedVariables false
set_option linter.unusedSimpArgs false
namespace Go.Proofs.YtllfckekodcdaaaGreatDoor
open Go.X
variable {u:World} {m0:Mem} {S:Segs} {w:World}
set_option maxHeartbeats 4000000
set_option maxRecDepth 100000
def Tab (u:World):Prop:=Lib.TabIs Tryz.prog u "internal/strconv.uint64pow10" .u64 Lib.pow10Tab
def qdd:Rp Call:=fun _ cs x=>cs = [.string (bs x.Name),.int .i64 x.ID,.int .i64 x.Source] ∧ x.Name.length ≤ LIMS ∧ InR .i64 x.ID ∧ InR .i64 x.Source
theorem qby:Mono qdd:=⟨fun _ h=>by
 obtain ⟨e,h0,h1,h2⟩:=h
 exact ⟨e,h0,h1,h2⟩,fun h=>by
 obtain ⟨rfl,h0,h1,h2⟩:=h
 exact ⟨rfl,rfl,rfl,trivial⟩⟩
def qaE:Rp Token:=fun _ cs x=>cs = [.string (bs x.Kind),.string (bs x.Text),.int .i64 x.From] ∧ x.Kind.length ≤ LIMS ∧ x.Text.length ≤ LIMS ∧ InR .i64 x.From
theorem qaN:Mono qaE:=⟨fun _ h=>by
 obtain ⟨e,h0,h1,h2⟩:=h
 exact ⟨e,h0,h1,h2⟩,fun h=>by
 obtain ⟨rfl,h0,h1,h2⟩:=h
 exact ⟨rfl,rfl,rfl,trivial⟩⟩
def qef:Rp File:=fun _ cs x=>cs = [.string (bs x.Name),.string (bs x.Text)] ∧ x.Name.length ≤ LIMS ∧ x.Text.length ≤ LIMS
theorem qcX:Mono qef:=⟨fun _ h=>by
 obtain ⟨e,h0,h1⟩:=h
 exact ⟨e,h0,h1⟩,fun h=>by
 obtain ⟨rfl,h0,h1⟩:=h
 exact ⟨rfl,rfl,trivial⟩⟩
def qbv:Rp Range:=fun _ cs x=>cs = [.int .u8 x.From,.int .u8 x.To] ∧ InR .u8 x.From ∧ InR .u8 x.To
theorem qfA:Mono qbv:=⟨fun _ h=>by
 obtain ⟨e,h0,h1⟩:=h
 exact ⟨e,h0,h1⟩,fun h=>by
 obtain ⟨rfl,h0,h1⟩:=h
 exact ⟨rfl,rfl,trivial⟩⟩
def qbt:Rp Item:=fun m cs x=>∃ c1,cs = [.string (bs x.Text),c1,.bool x.Not,.int .i64 x.Least,.int .i64 x.Most] ∧ x.Text.length ≤ LIMS ∧ (pL 2 qbv) m [c1] x.Ranges ∧ InR .i64 x.Least ∧ InR .i64 x.Most
theorem qdE:Mono qbt:=⟨fun hm h=>by
 obtain ⟨c1,e,h0,h1,h3,h4⟩:=h
 exact ⟨c1,e,h0,(mL qfA).up hm h1,h3,h4⟩,fun h=>by
 obtain ⟨c1,rfl,h0,h1,h3,h4⟩:=h
 exact ⟨rfl,((mL qfA).one h1).1,rfl,rfl,rfl,trivial⟩⟩
def qdC:Rp Rule:=fun m cs x=>∃ c1,cs = [.string (bs x.Kind),c1,.string (bs x.Next)] ∧ x.Kind.length ≤ LIMS ∧ (pL 5 qbt) m [c1] x.Items ∧ x.Next.length ≤ LIMS
theorem qdO:Mono qdC:=⟨fun hm h=>by
 obtain ⟨c1,e,h0,h1,h2⟩:=h
 exact ⟨c1,e,h0,(mL qdE).up hm h1,h2⟩,fun h=>by
 obtain ⟨c1,rfl,h0,h1,h2⟩:=h
 exact ⟨rfl,((mL qdE).one h1).1,rfl,trivial⟩⟩
def qbA:Rp State:=fun m cs x=>∃ c1,cs = [.string (bs x.Name),c1] ∧ x.Name.length ≤ LIMS ∧ (pL 3 qdC) m [c1] x.Rules
theorem qaD:Mono qbA:=⟨fun hm h=>by
 obtain ⟨c1,e,h0,h1⟩:=h
 exact ⟨c1,e,h0,(mL qdO).up hm h1⟩,fun h=>by
 obtain ⟨c1,rfl,h0,h1⟩:=h
 exact ⟨rfl,((mL qdO).one h1).1,trivial⟩⟩
theorem qkk:aggB Tryz.prog 111 2 = true:=by kernel_rfl
theorem qi6:aggB Tryz.prog 118 3 = true:=by kernel_rfl
theorem qfX:aggB Tryz.prog 154 5 = true:=by kernel_rfl
theorem qnQ:aggB Tryz.prog 156 2 = true:=by kernel_rfl
theorem qf2:aggB Tryz.prog 29 3 = true:=by kernel_rfl
theorem qpa:aggB Tryz.prog 75 2 = true:=by kernel_rfl
theorem qsD:aggB Tryz.prog 83 3 = true:=by kernel_rfl
theorem qkq:ArT Tryz.prog 200 4 256 1:=ArT.of (by kernel_rfl)
theorem qj9:ArT Tryz.prog 221 3 2 1:=ArT.of (by kernel_rfl)
theorem ql3:Tryz.prog.eqGuardType Tryz.prog.depth 221 = false:=by kernel_rfl
theorem qjq:qaw Tryz.prog 111 0 0 = true:=by kernel_rfl
theorem qg0:qaw Tryz.prog 111 1 1 = true:=by kernel_rfl
theorem qmK:qaw Tryz.prog 118 0 0 = true:=by kernel_rfl
theorem qf7:qaw Tryz.prog 118 1 1 = true:=by kernel_rfl
theorem qg2:qaw Tryz.prog 118 2 2 = true:=by kernel_rfl
theorem qcV:qaw Tryz.prog 154 0 0 = true:=by kernel_rfl
theorem qg1:qaw Tryz.prog 154 1 1 = true:=by kernel_rfl
theorem qmX:qaw Tryz.prog 154 2 2 = true:=by kernel_rfl
theorem qdM:qaw Tryz.prog 154 3 3 = true:=by kernel_rfl
theorem qmI:qaw Tryz.prog 154 4 4 = true:=by kernel_rfl
theorem qkK:qaw Tryz.prog 156 0 0 = true:=by kernel_rfl
theorem qkV:qaw Tryz.prog 156 1 1 = true:=by kernel_rfl
theorem qs6:qaw Tryz.prog 180 0 0 = true:=by kernel_rfl
theorem qmJ:qaw Tryz.prog 180 1 1 = true:=by kernel_rfl
theorem qpS:qaw Tryz.prog 180 2 2 = true:=by kernel_rfl
theorem qbT:qaw Tryz.prog 29 0 0 = true:=by kernel_rfl
theorem qd8:qaw Tryz.prog 29 1 1 = true:=by kernel_rfl
theorem qja:qaw Tryz.prog 75 0 0 = true:=by kernel_rfl
theorem qkf:qaw Tryz.prog 83 0 0 = true:=by kernel_rfl
theorem qjb:qaw Tryz.prog 83 1 1 = true:=by kernel_rfl
theorem qi8:qaw Tryz.prog 83 2 2 = true:=by kernel_rfl
theorem qmb:qaw Tryz.prog 88 0 0 = true:=by kernel_rfl
theorem qlW:qaw Tryz.prog 88 1 1 = true:=by kernel_rfl
theorem qv5:goB Tryz.prog 10 = true:=by kernel_rfl
theorem qvn:goB Tryz.prog 100 = true:=by kernel_rfl
theorem qsr:goB Tryz.prog 122 = true:=by kernel_rfl
theorem qvg:goB Tryz.prog 123 = true:=by kernel_rfl
theorem qsv:goB Tryz.prog 124 = true:=by kernel_rfl
theorem qu4:goB Tryz.prog 125 = true:=by kernel_rfl
theorem qr8:goB Tryz.prog 126 = true:=by kernel_rfl
theorem qnb:goB Tryz.prog 141 = true:=by kernel_rfl
theorem qgD:goB Tryz.prog 29 = true:=by kernel_rfl
theorem qkJ:goB Tryz.prog 30 = true:=by kernel_rfl
theorem qoW:goB Tryz.prog 31 = true:=by kernel_rfl
theorem qrk:goB Tryz.prog 34 = true:=by kernel_rfl
theorem qtM:goB Tryz.prog 47 = true:=by kernel_rfl
theorem qrp:goB Tryz.prog 48 = true:=by kernel_rfl
theorem qwa:goB Tryz.prog 49 = true:=by kernel_rfl
theorem qwn:goB Tryz.prog 50 = true:=by kernel_rfl
theorem qwG:goB Tryz.prog 51 = true:=by kernel_rfl
theorem qwk:goB Tryz.prog 52 = true:=by kernel_rfl
theorem qrv:goB Tryz.prog 56 = true:=by kernel_rfl
theorem qv9:goB Tryz.prog 70 = true:=by kernel_rfl
theorem qwu:goB Tryz.prog 75 = true:=by kernel_rfl
theorem qtq:goB Tryz.prog 77 = true:=by kernel_rfl
theorem qwc:goB Tryz.prog 78 = true:=by kernel_rfl
theorem qvR:goB Tryz.prog 79 = true:=by kernel_rfl
theorem qvM:goB Tryz.prog 80 = true:=by kernel_rfl
theorem qww:goB Tryz.prog 81 = true:=by kernel_rfl
theorem qwj:goB Tryz.prog 82 = true:=by kernel_rfl
theorem qwg:goB Tryz.prog 83 = true:=by kernel_rfl
theorem qv2:goB Tryz.prog 84 = true:=by kernel_rfl
theorem qwC:goB Tryz.prog 91 = true:=by kernel_rfl
theorem qvP:goB Tryz.prog 94 = true:=by kernel_rfl
theorem qtC:goB Tryz.prog 95 = true:=by kernel_rfl
theorem qtv:goB Tryz.prog 96 = true:=by kernel_rfl
theorem qv4:goB Tryz.prog 97 = true:=by kernel_rfl
theorem qwN:goB Tryz.prog 98 = true:=by kernel_rfl
theorem qvW:goB Tryz.prog 99 = true:=by kernel_rfl
theorem qkc:∃ i,Tryz.prog.info? 111 = some i ∧ i.size = 2:=⟨_,rfl,by kernel_rfl⟩
theorem qmh:∃ i,Tryz.prog.info? 118 = some i ∧ i.size = 3:=⟨_,rfl,by kernel_rfl⟩
theorem qlY:∃ i,Tryz.prog.info? 154 = some i ∧ i.size = 5:=⟨_,rfl,by kernel_rfl⟩
theorem qua:∃ i,Tryz.prog.info? 156 = some i ∧ i.size = 2:=⟨_,rfl,by kernel_rfl⟩
theorem quc:∃ i,Tryz.prog.info? 178 = some i ∧ i.size = 1:=⟨_,rfl,by kernel_rfl⟩
theorem quu:∃ i,Tryz.prog.info? 196 = some i ∧ i.size = 1:=⟨_,rfl,by kernel_rfl⟩
theorem qng:∃ i,Tryz.prog.info? 26 = some i ∧ i.size = 1:=⟨_,rfl,by kernel_rfl⟩
theorem qke:∃ i,Tryz.prog.info? 29 = some i ∧ i.size = 3:=⟨_,rfl,by kernel_rfl⟩
theorem qes:∃ i,Tryz.prog.info? 3 = some i ∧ i.size = 1:=⟨_,rfl,by kernel_rfl⟩
theorem qts:∃ i,Tryz.prog.info? 4 = some i ∧ i.size = 1:=⟨_,rfl,by kernel_rfl⟩
theorem qo9:∃ i,Tryz.prog.info? 75 = some i ∧ i.size = 2:=⟨_,rfl,by kernel_rfl⟩
theorem qvo:∃ i,Tryz.prog.info? 83 = some i ∧ i.size = 3:=⟨_,rfl,by kernel_rfl⟩
theorem qvf:∃ i,Tryz.prog.info? 85 = some i ∧ i.size = 1:=⟨_,rfl,by kernel_rfl⟩
theorem qrN:∃ i,Tryz.prog.info? 86 = some i ∧ i.size = 1:=⟨_,rfl,by kernel_rfl⟩
theorem qvD:∃ i,Tryz.prog.info? 88 = some i ∧ i.size = 2:=⟨_,rfl,by kernel_rfl⟩
theorem qqA:∃ i,Tryz.prog.info? 88 = some i:=⟨_,rfl⟩
theorem qtY:liesAt Tryz.prog Tryz.prog.depth 88 (2 / Tryz.prog.cellsOf 88) 0 88 1 = true:=by kernel_rfl
theorem qio:oneB Tryz.prog 109 = true:=by kernel_rfl
theorem qha:oneB Tryz.prog 115 = true:=by kernel_rfl
theorem qme:oneB Tryz.prog 130 = true:=by kernel_rfl
theorem qif:oneB Tryz.prog 152 = true:=by kernel_rfl
theorem qqJ:oneB Tryz.prog 178 = true:=by kernel_rfl
theorem quw:oneB Tryz.prog 181 = true:=by kernel_rfl
theorem quF:oneB Tryz.prog 182 = true:=by kernel_rfl
theorem qum:oneB Tryz.prog 196 = true:=by kernel_rfl
theorem qfV:oneB Tryz.prog 26 = true:=by kernel_rfl
theorem qaJ:oneB Tryz.prog 3 = true:=by kernel_rfl
theorem qhb:oneB Tryz.prog 4 = true:=by kernel_rfl
theorem qfa:oneB Tryz.prog 5 = true:=by kernel_rfl
theorem qvr:oneB Tryz.prog 73 = true:=by kernel_rfl
theorem qp0:oneB Tryz.prog 85 = true:=by kernel_rfl
theorem qsq:oneB Tryz.prog 86 = true:=by kernel_rfl
theorem qal:oneB Tryz.prog 9 = true:=by kernel_rfl
theorem qrn:qcN Tryz.prog 180 = some [(0,1),(1,1),(2,1)]:=by kernel_rfl
theorem qoc:qcN Tryz.prog 29 = some [(0,1),(1,1),(2,1)]:=by kernel_rfl
theorem qgq:SlT Tryz.prog 109 118 3:=SlT.of (by kernel_rfl)
theorem qeZ:SlT Tryz.prog 115 154 5:=SlT.of (by kernel_rfl)
theorem qb7:SlT Tryz.prog 129 26 1:=SlT.of (by kernel_rfl)
theorem qg3:SlT Tryz.prog 152 156 2:=SlT.of (by kernel_rfl)
theorem qo0:SlT Tryz.prog 178 181 1:=SlT.of (by kernel_rfl)
theorem qpB:SlT Tryz.prog 181 182 1:=SlT.of (by kernel_rfl)
theorem qo6:SlT Tryz.prog 182 196 1:=SlT.of (by kernel_rfl)
theorem qcz:SlT Tryz.prog 26 29 3:=SlT.of (by kernel_rfl)
theorem qgg:SlT Tryz.prog 34 83 3:=SlT.of (by kernel_rfl)
theorem qit:SlT Tryz.prog 50 9 1:=SlT.of (by kernel_rfl)
theorem qg6:SlT Tryz.prog 73 111 2:=SlT.of (by kernel_rfl)
theorem qis:SlT Tryz.prog 84 75 2:=SlT.of (by kernel_rfl)
theorem qhY:SlT Tryz.prog 86 5 1:=SlT.of (by kernel_rfl)
theorem qqy:qnt Tryz.prog 3 = some (vi 0):=by kernel_rfl
theorem ql2:qnt Tryz.prog 4 = some (vb false):=by kernel_rfl
theorem qgP:qbf Tryz.prog 111 = some [(vs ([])),(Value.slice none 0 0)]:=by kernel_rfl
theorem qhv:qbf Tryz.prog 118 = some [(vs ([])),(Value.slice none 0 0),(vs ([]))]:=by kernel_rfl
theorem qhC:qbf Tryz.prog 154 = some [(vs ([])),(Value.slice none 0 0),vb false,vi 0,vi 0]:=by kernel_rfl
theorem qmF:qbf Tryz.prog 156 = some [(Value.int .u8 0),(Value.int .u8 0)]:=by kernel_rfl
theorem qte:qbf Tryz.prog 180 = some [(Value.slice none 0 0),(Value.slice none 0 0),(Value.map none)]:=by kernel_rfl
theorem qo1:qbf Tryz.prog 181 = some [(Value.slice none 0 0)]:=by kernel_rfl
theorem qp1:qbf Tryz.prog 182 = some [(Value.slice none 0 0)]:=by kernel_rfl
theorem qsR:qbf Tryz.prog 196 = some [(Value.pointer none)]:=by kernel_rfl
theorem qs1:qbf Tryz.prog 200 = some (List.map vb (List.replicate 256 false)):=by kernel_rfl
theorem qjc:qbf Tryz.prog 221 = some [vi 0,vi 0]:=by kernel_rfl
theorem qie:qbf Tryz.prog 26 = some [(Value.slice none 0 0)]:=by kernel_rfl
theorem qdo:qbf Tryz.prog 29 = some [(vs ([])),(vs ([])),vi 0]:=by kernel_rfl
theorem qni:qbf Tryz.prog 3 = some [vi 0]:=by kernel_rfl
theorem qg4:qbf Tryz.prog 5 = some [(Value.int .u8 0)]:=by kernel_rfl
theorem qin:qbf Tryz.prog 75 = some [(vs ([])),(vs ([]))]:=by kernel_rfl
theorem qkl:qbf Tryz.prog 83 = some [(vs ([])),vi 0,vi 0]:=by kernel_rfl
theorem qn0:qbf Tryz.prog 88 = some [(Value.pointer none),(Value.slice none 0 0)]:=by kernel_rfl
def qcS:Ro (List (Token)):=fun m cs x M=>∃ c0,cs = [c0] ∧ ORow 29 3 qaE m c0 x M
theorem qoE:FrozO qcS (pL 3 qaE):=⟨fun h hle hf=>by
 obtain ⟨c0,e,h0⟩:=h
 subst e
 exact h0.froz qaN hle hf (by decide)⟩
def qjL (u:World) (m0:Mem) (S:Segs) (r:Bool) (a:Act) (w:World):Prop :=
 Ok u m0 S w ∧ a.defers = [] ∧ RVs Tryz.prog a w [.t 2 (.bool r)]
theorem qjI (N:Nat) (vcalls_0:Value) (calls_0:List (Call)) (hcalls_0:(pL 3 qdd) m0 [vcalls_0] calls_0) {r:Bool} (hF:qfl N calls_0 = some r) (hG:Glob u) (ok:Ok u m0 S w) :
  Calls Tryz.prog 12 [vcalls_0].toArray w fun e w'=>(e = .returned (.bool r) ∧ Ok u m0 S w'):=by
 unfold qfl at hF
 refine en (qjL u m0 S) r Tryz.func12 rfl rfl rfl (fun _ _ h=>ra h rfl) fun fin a E=>sg<|aw E rfl fun a E=>sg<|qiJ kS (oneV pB) E ok rfl rfl fun c1 M2 a w E ok h3=>aw E rfl fun a E=>wp_seq<|sg<|mv E rfl fun a E=>lv E ok (qau qgg hcalls_0 rfl) fun a E=>mv E rfl fun a E=>wn<|wp_block<|bd hF fun o9 hL hF=>qax _ (fun (s:Int × (List (List UInt8 × Bool))) a w=>∃ c11 M12,Ok u m0 (M12 :: S) w ∧ Env 59 a [(0,vcalls_0),(3,c11),(7,vcalls_0),(8,(vi (calls_0.length:Int))),(9,vi s.1)] ∧ InR .i64 s.1 ∧ OMap kS (oneV pB) m0 c11 s.2 M12) (fun (b:(Unit ⊕ Bool)) e a w=>(Sum.elim (fun b54=>e = (.exit 0) ∧ Ok u m0 (S) w ∧ Env 59 a [(0,vcalls_0)]) (fun b55=>e = .ret ∧ qjL u m0 S b55 a w)) b) ?_ ?_ N _ a w hL ⟨c1,M2,ok,E.keep [0,3,7,8,9],(ir 0),h3⟩
 rotate_left
 ·intro e a w _ hO
  rcases o9 with o9 | o9
  rotate_left
  ·obtain ⟨rfl,hret⟩:=hO
   refine qag<|qae ?_
   exact fin hF hret
  have hF:=qaX hF
  obtain ⟨rfl,ok,E⟩:=hO
  refine qaz<|qaa<|sg<|mv E rfl fun a E=>lv E ok (qau qgg hcalls_0 rfl) fun a E=>lw E (qb2 rfl rfl) fun a E=>av E rfl fun a E=>wn<|wp_ret ?_
  exact fin hF ⟨ok,E.d,rz E rfl⟩
 rintro ⟨v14,v15⟩ a w r ⟨c17,M18,ok,E,r16,h19⟩ hF
 replace hF:qdf N calls_0 v14 v15 = some r:=hF
 unfold qdf at hF
 refine sg<|lw E (qat rfl rfl) fun a E=>wn<|wp_seq<|cg E rfl hF (fun c20 hF=>?_) fun c20 hF=>?_
 ·refine wp_exit<|qap ?_
  cases hF
  exact so (sl ⟨rfl,⟨(ok.pk 1 [] rfl (by decide)),E.keep [0]⟩⟩)
 refine wp_skip<|qaa<|wp_seq<|wp_block<|sg ?_
 obtain ⟨x21,e22,hF⟩:=bnd hF
 obtain ⟨b23,o24,es25,hl26,rr27,at28,yy29⟩:=ia E 7 9 qgg hcalls_0 e22
 obtain ⟨rfl,l30,r31,r32⟩:=rr27
 refine lv E ok (yy29 _ _) fun a E=>lv E ok (qam (cs:=[vs x21.Name,vi x21.ID,vi x21.Source]) qsD rfl rfl (qac.ro at28)) fun a E=>qaM E ok qkl rfl rfl fun b33 a w E ok=>qai E ok 0 rfl rfl rfl qvo rfl rfl ⟨rfl,rfl,rfl,trivial⟩ rfl rfl fun w ok=>wn<|wp_seq<|sg<|fk E ok qkf qal rfl 0 rfl rfl fun a E=>lw E (qaG rfl rfl) fun a E=>mv E rfl fun a E=>bu E 16 hF (fun c34 hF E=>?_) fun c34 hF E=>?_
 ·refine lsz E fun a E=>pt E rfl rfl fun a E=>mv E rfl fun a E=>lsq E fun a E=>ls E fun a E=>pt E rfl rfl fun a E=>mv E rfl fun a E=>lsq E fun a E=>ls E fun a E=>pt E rfl rfl fun a E=>mv E rfl fun a E=>lsq E fun a E=>ls E fun a E=>pt E rfl rfl fun a E=>mv E rfl fun a E=>lsq E fun a E=>ls E fun a E=>?_
  refine pt E rfl rfl fun a E=>mv E rfl fun a E=>lsz E fun a E=>lsz E fun a E=>pt E rfl rfl fun a E=>wn<|c_if E rfl (fun _=>?_) (fun h=>by cases h)
  refine sg<|aw E rfl fun a E=>wp_ret<|qae<|qag<|qae ?_
  cases hF
  exact so (sr ⟨rfl,⟨ok.drop.drop,E.d,rz E rfl⟩⟩)
 refine mv E rfl fun a E=>fk E ok qkf qal rfl 0 rfl rfl fun a E=>?_
 obtain ⟨xv35,h36,yy37,yy38⟩:=ql7 (P:=Tryz.prog) (mo:=.tmp 17) (ko:=.tmp 19) (zx:=(false:Bool)) ok 1 (qeA Tryz.underlying9) Tryz.underlying95 h19 rfl (qaC E rfl) (qaC E rfl) ⟨rfl,l30⟩ ql2 qjS
 obtain rfl:=qls h36
 refine lv E ok (yy37 _) fun a E=>pf E rfl rfl fun a E=>mv E rfl fun a E=>bu E 22 hF (fun c39 hF E=>?_) fun c39 hF E=>?_
 ·refine lsq E fun a E=>ls E fun a E=>pt E rfl rfl fun a E=>mv E rfl fun a E=>lsq E fun a E=>ls E fun a E=>pt E rfl rfl fun a E=>mv E rfl fun a E=>lsq E fun a E=>ls E fun a E=>pt E rfl rfl fun a E=>mv E rfl fun a E=>lsq E fun a E=>ls E fun a E=>pt E rfl rfl fun a E=>mv E rfl fun a E=>lsz E fun a E=>?_
  refine lsz E fun a E=>pt E rfl rfl fun a E=>wn<|c_if E rfl (fun _=>?_) (fun h=>by cases h)
  refine sg<|aw E rfl fun a E=>wp_ret<|qae<|qag<|qae ?_
  cases hF
  exact so (sr ⟨rfl,⟨ok.drop.drop,E.d,rz E rfl⟩⟩)
 refine fk E ok qjb qaJ rfl 0 rfl rfl fun a E=>lw E (qat rfl rfl) fun a E=>pf E rfl rfl fun a E=>mv E rfl fun a E=>bu E 27 hF (fun c40 hF E=>?_) fun c40 hF E=>?_
 ·refine lsq E fun a E=>ls E fun a E=>pt E rfl rfl fun a E=>mv E rfl fun a E=>lsq E fun a E=>ls E fun a E=>pt E rfl rfl fun a E=>mv E rfl fun a E=>lsq E fun a E=>ls E fun a E=>pt E rfl rfl fun a E=>mv E rfl fun a E=>lsz E fun a E=>lsz E fun a E=>pt E rfl rfl fun a E=>?_
  refine wn<|c_if E rfl (fun _=>?_) (fun h=>by cases h)
  refine sg<|aw E rfl fun a E=>wp_ret<|qae<|qag<|qae ?_
  cases hF
  exact so (sr ⟨rfl,⟨ok.drop.drop,E.d,rz E rfl⟩⟩)
 refine fk E ok qjb qaJ rfl 0 rfl rfl fun a E=>lw E (qbN rfl rfl) fun a E=>pf E rfl rfl fun a E=>mv E rfl fun a E=>bu E 32 hF (fun c41 hF E=>?_) fun c41 hF E=>?_
 ·refine lsq E fun a E=>ls E fun a E=>pt E rfl rfl fun a E=>mv E rfl fun a E=>lsq E fun a E=>ls E fun a E=>pt E rfl rfl fun a E=>mv E rfl fun a E=>lsz E fun a E=>lsz E fun a E=>pt E rfl rfl fun a E=>wn<|c_if E rfl (fun _=>?_) (fun h=>by cases h)
  refine sg<|aw E rfl fun a E=>wp_ret<|qae<|qag<|qae ?_
  cases hF
  exact so (sr ⟨rfl,⟨ok.drop.drop,E.d,rz E rfl⟩⟩)
 refine fk E ok qi8 qaJ rfl 0 rfl rfl fun a E=>lw E (qat rfl rfl) fun a E=>pf E rfl rfl fun a E=>mv E rfl fun a E=>bu E 37 hF (fun c42 hF E=>?_) fun c42 hF E=>?_
 ·refine lsq E fun a E=>ls E fun a E=>pt E rfl rfl fun a E=>mv E rfl fun a E=>lsz E fun a E=>lsz E fun a E=>pt E rfl rfl fun a E=>wn<|c_if E rfl (fun _=>?_) (fun h=>by cases h)
  refine sg<|aw E rfl fun a E=>wp_ret<|qae<|qag<|qae ?_
  cases hF
  exact so (sr ⟨rfl,⟨ok.drop.drop,E.d,rz E rfl⟩⟩)
 refine fk E ok qi8 qaJ rfl 0 rfl rfl fun a E=>lw E (qbN rfl rfl) fun a E=>pf E rfl rfl fun a E=>mv E rfl fun a E=>bu E 42 hF (fun c43 hF E=>?_) fun c43 hF E=>?_
 ·refine lsz E fun a E=>lsz E fun a E=>pt E rfl rfl fun a E=>wn<|c_if E rfl (fun _=>?_) (fun h=>by cases h)
  refine sg<|aw E rfl fun a E=>wp_ret<|qae<|qag<|qae ?_
  cases hF
  exact so (sr ⟨rfl,⟨ok.drop.drop,E.d,rz E rfl⟩⟩)
 refine fk E ok qjb qaJ rfl 0 rfl rfl fun a E=>lw E (qa0 rfl rfl) fun a E=>mv E rfl fun a E=>bw E 46 hF (fun c44 hF E=>?_) fun c44 hF E=>?_
 ·refine lsq E fun a E=>ls E fun a E=>pf E rfl rfl fun a E=>pf E rfl rfl fun a E=>wn<|c_if E rfl (fun h=>by cases h) (fun _=>?_)
  refine wp_skip<|qaa<|qab<|mv E rfl fun a E=>fk E ok qkf qal rfl 0 rfl rfl fun a E=>bd hF fun l50 e51 hF=>qkm (.inl rfl) E ok 1 (qeA Tryz.underlying9) Tryz.underlying95 h19 rfl rfl rfl rfl ⟨rfl,l30⟩ qjS e51 rfl fun M52 w ok h53=>wpList_nil<|qaf<|qaa<|qab<|lw E (qar rfl rfl (InR.inc r16 (qaj hcalls_0) c20)) fun a E=>mv E rfl fun a E=>wpList_nil ?_
  cases hF
  exact qan ⟨c17,M52,(ok.pk 2 [1] rfl (by decide)),E.keep [0,3,7,8,9],(InR.inc r16 (qaj hcalls_0) c20),h53⟩
 refine fk E ok qi8 qaJ rfl 0 rfl rfl fun a E=>lw E (qa0 rfl rfl) fun a E=>pt E rfl rfl fun a E=>pf E rfl rfl fun a E=>wn<|cf E rfl hF (fun c45 hF=>?_) fun c45 hF=>?_
 ·refine sg<|aw E rfl fun a E=>wp_ret<|qae<|qag<|qae ?_
  cases hF
  exact so (sr ⟨rfl,⟨ok.drop.drop,E.d,rz E rfl⟩⟩)
 refine wp_skip<|qaa<|qab<|mv E rfl fun a E=>fk E ok qkf qal rfl 0 rfl rfl fun a E=>bd hF fun l46 e47 hF=>qkm (.inl rfl) E ok 1 (qeA Tryz.underlying9) Tryz.underlying95 h19 rfl rfl rfl rfl ⟨rfl,l30⟩ qjS e47 rfl fun M48 w ok h49=>wpList_nil<|qaf<|qaa<|qab<|lw E (qar rfl rfl (InR.inc r16 (qaj hcalls_0) c20)) fun a E=>mv E rfl fun a E=>wpList_nil ?_
 cases hF
 exact qan ⟨c17,M48,(ok.pk 2 [1] rfl (by decide)),E.keep [0,3,7,8,9],(InR.inc r16 (qaj hcalls_0) c20),h49⟩
theorem qj7 {u:World} {m:Mem} {S:Segs} {w:World} {b:Nat} {v:Value} (ok:Ok u m ([(b,oc 88 [(Value.pointer none),v])] :: S) w) :
  Calls Tryz.prog 47 [.pointer (some ⟨b,0,none⟩)].toArray w fun e w'=>e = .returned (.tuple [].toArray) ∧ Ok u m ([(b,oc 88 [vp b,v])] :: S) w':=by
 have fin:∀ a w,(a.defers = [] ∧ Ok u m ([(b,oc 88 [vp b,v])] :: S) w) → bodyPost Tryz.prog Tryz.f47 (fun e w'=>e = .returned (.tuple [].toArray) ∧ Ok u m ([(b,oc 88 [vp b,v])] :: S) w') .ret a w:=fun a w h=>qbs [] h.1 rfl trivial ⟨rfl,h.2⟩
 refine enter Tryz.func47 rfl rfl rfl fun a E=>sg<|mv E rfl fun a E=>lw E (qa7 rfl) fun a E=>fk E ok qmb qp0 rfl 0 rfl rfl fun a E=>lv E ok (qsj Tryz.underlying85 rfl rfl) fun a E=>wn<|c_if E rfl (fun _=>?_) (fun h=>by cases h)
 refine qab<|mz E rfl rfl fun a E=>lv E ok (qq7 Tryz.underlying85 Tryz.underlying173 qvD (by decide) (qop (c:=[(Value.pointer none),v]) 0 rfl) (Nat.le_of_ble_eq_true rfl) rfl) fun a E=>lv E ok (qrm Tryz.func76 (by kernel_rfl) (by kernel_rfl) (by kernel_rfl) (by kernel_rfl) rfl) fun a E=>lv E ok (qpF Tryz.underlying173 Tryz.underlying85 qqA (qop (c:=[(Value.pointer none),v]) 0 rfl) qtY rfl) fun a E=>lw E (qa7 rfl) fun a E=>fv E qmb rfl fun a E=>qai E ok 0 rfl rfl rfl qvf rfl rfl ⟨rfl,trivial⟩ rfl rfl fun w ok=>wpList_nil ?_
 exact fin _ _ ⟨E.d,ok⟩
theorem qj1 {u:World} {m:Mem} {S:Segs} {w:World} {b:Nat} {v:Value} (ok:Ok u m ([(b,oc 88 [vp b,v])] :: S) w) :
  Calls Tryz.prog 47 [.pointer (some ⟨b,0,none⟩)].toArray w fun e w'=>e = .returned (.tuple [].toArray) ∧ Ok u m ([(b,oc 88 [vp b,v])] :: S) w':=by
 have fin:∀ a w,(a.defers = [] ∧ Ok u m ([(b,oc 88 [vp b,v])] :: S) w) → bodyPost Tryz.prog Tryz.f47 (fun e w'=>e = .returned (.tuple [].toArray) ∧ Ok u m ([(b,oc 88 [vp b,v])] :: S) w') .ret a w:=fun a w h=>qbs [] h.1 rfl trivial ⟨rfl,h.2⟩
 refine enter Tryz.func47 rfl rfl rfl fun a E=>sg<|mv E rfl fun a E=>lw E (qa7 rfl) fun a E=>fk E ok qmb qp0 rfl 0 rfl rfl fun a E=>lv E ok (qsj Tryz.underlying85 rfl rfl) fun a E=>wn<|c_if E rfl (fun h=>by cases h) (fun _=>?_)
 refine sg<|mv E rfl fun a E=>lw E (qa7 rfl) fun a E=>fk E ok qmb qp0 rfl 0 rfl rfl fun a E=>mv E rfl fun a E=>lv E ok (qst Tryz.underlying85 qqA rfl rfl) fun a E=>wn<|c_if E rfl (fun h=>by cases h) (fun _=>?_)
 refine wp_skip ?_
 exact fin _ _ ⟨E.d,ok⟩
theorem qia {u:World} {m:Mem} {S:Segs} {w:World} {b:Nat} {a v:Value} (ha:BAd b a) (ok:Ok u m ([(b,oc 88 [a,v])] :: S) w) :
  Calls Tryz.prog 47 [.pointer (some ⟨b,0,none⟩)].toArray w fun e w'=>e = .returned (.tuple [].toArray) ∧ Ok u m ([(b,oc 88 [vp b,v])] :: S) w':=by
 rcases ha with rfl | rfl
 ·exact qj7 ok
 ·exact qj1 ok
def qh4 (u:World) (m0:Mem) (S:Segs) (pb0:Nat) (x0:Builder) (c1:Value) (c3:Value) (M4:List (Nat × Obj)) (r:Int × Unit × Builder) (a:Act) (w:World):Prop :=
 ∃ c6 c8 M9,Ok u m0 ([(pb0,oc 88 [c6,c8])] :: M9 :: S) w ∧ a.defers = [] ∧ RVs Tryz.prog a w [.t 4 (.int .i64 r.1),.t 5 .nilIface] ∧ InR .i64 r.1 ∧ BAd pb0 c6 ∧ ORow 5 1 (pI .u8) m0 c8 r.2.2.buf M9
theorem qaK (N:Nat) (s_1:List UInt8) (ls_1:s_1.length ≤ LIMS) {pb0:Nat} {c1:Value} {c3:Value} {M4:List (Nat × Obj)} (x0:Builder) (h2:BAd pb0 c1) (h5:ORow 5 1 (pI .u8) m0 c3 x0.buf M4) {r:Int × Unit × Builder} (hF:qaB N s_1 x0 = some r) (hG:Glob u) (ok:Ok u m0 ([(pb0,oc 88 [c1,c3])] :: M4 :: S) w) :
  Calls Tryz.prog 29 [vp pb0,vs s_1].toArray w fun e w'=>∃ c6 c8 M9,(e = .returned (.tuple [(.int .i64 r.1),.nilIface].toArray) ∧ Ok u m0 ([(pb0,oc 88 [c6,c8])] :: M9 :: S) w') ∧ InR .i64 r.1 ∧ BAd pb0 c6 ∧ ORow 5 1 (pI .u8) m0 c8 r.2.2.buf M9:=by
 unfold qaB at hF
 refine en (qh4 u m0 S pb0 x0 c1 c3 M4) r Tryz.func29 rfl rfl rfl (by rintro a w ⟨c6,c8,M9,ok,hd,hrv,h0,h1,h2⟩; exact qbs [.t 4 (.int .i64 r.1),.t 5 .nilIface] hd rfl hrv ⟨c6,c8,M9,⟨rfl,ok⟩,h0,h1,h2⟩) fun fin a E=>sg<|av E rfl fun a E=>aw E rfl fun a E=>sg<|mv E rfl fun a E=>lc E qtM rfl (qia h2 ok) fun w ok a E=>wn<|sg<|mz E rfl rfl fun a E=>lw E (qa7 rfl) fun a E=>fv E qlW rfl fun a E=>ld E ok qsq 0 rfl rfl rfl fun a E=>mv E rfl fun a E=>bd hF fun l11 e12 hF=>quZ E ok 1 qhY Tryz.underlying9 rfl h5 e12 ⟨_,qg4,rfl⟩ rfl rfl rfl rfl fun c13 M14 a w E ok h15=>lw E (qa7 rfl) fun a E=>fv E qlW rfl fun a E=>qai E ok 0 rfl rfl rfl qrN (ORow.cells h15) rfl ⟨(ORow.one h15),trivial⟩ rfl rfl fun w ok=>wn<|sg<|mv E rfl fun a E=>lw E (qaA Tryz.underlying9 rfl) fun a E=>av E rfl fun a E=>aw E rfl fun a E=>wp_ret ?_
 exact fin hF ⟨(vp pb0),c13,M14,ok,E.d,⟨rv_t E rfl,rv_t E rfl,trivial⟩,(InR.len ls_1),(.inr rfl),h15⟩
def qiO (u:World) (m0:Mem) (S:Segs) (pb0:Nat) (x0:Builder) (c1:Value) (c3:Value) (M4:List (Nat × Obj)) (r:Unit × Builder) (a:Act) (w:World):Prop :=
 ∃ c6 c8 M9,Ok u m0 ([(pb0,oc 88 [c6,c8])] :: M9 :: S) w ∧ a.defers = [] ∧ RVs Tryz.prog a w [.t 4 .nilIface] ∧ BAd pb0 c6 ∧ ORow 5 1 (pI .u8) m0 c8 r.2.buf M9
theorem qbw (N:Nat) (c_1:Int) (rc_1:InR .u8 c_1) {pb0:Nat} {c1:Value} {c3:Value} {M4:List (Nat × Obj)} (x0:Builder) (h2:BAd pb0 c1) (h5:ORow 5 1 (pI .u8) m0 c3 x0.buf M4) {r:Unit × Builder} (hF:qaV N c_1 x0 = some r) (hG:Glob u) (ok:Ok u m0 ([(pb0,oc 88 [c1,c3])] :: M4 :: S) w) :
  Calls Tryz.prog 30 [vp pb0,Value.int .u8 c_1].toArray w fun e w'=>∃ c6 c8 M9,(e = .returned .nilIface ∧ Ok u m0 ([(pb0,oc 88 [c6,c8])] :: M9 :: S) w') ∧ BAd pb0 c6 ∧ ORow 5 1 (pI .u8) m0 c8 r.2.buf M9:=by
 unfold qaV at hF
 refine en (qiO u m0 S pb0 x0 c1 c3 M4) r Tryz.func30 rfl rfl rfl (by rintro a w ⟨c6,c8,M9,ok,hd,hrv,h0,h1⟩; exact qbs [.t 4 .nilIface] hd rfl hrv ⟨c6,c8,M9,⟨rfl,ok⟩,h0,h1⟩) fun fin a E=>sg<|aw E rfl fun a E=>sg<|mv E rfl fun a E=>lc E qtM rfl (qia h2 ok) fun w ok a E=>wn<|sg<|mz E rfl rfl fun a E=>lw E (qa7 rfl) fun a E=>fv E qlW rfl fun a E=>ld E ok qsq 0 rfl rfl rfl fun a E=>mv E rfl fun a E=>qaT (R:=(pI .u8)) (xo:=[.tmp 12]) (xs:=([c_1]:List (Int))) E ok qhY qg4 rfl ⟨⟨_,rfl,rfl,(qfI rc_1)⟩,trivial⟩ rfl rfl rfl rfl fun c11 M12 a w E ok h13=>bd hF fun l14 e15 hF=>qbR (R:=(pI .u8)) E ok 2 (mI .u8) qhY Tryz.underlying86 rfl h5 (qa3.ofRow h13 0 rfl ok) e15 ⟨_,qg4,rfl⟩ rfl rfl rfl rfl fun c16 M17 a w E ok h18=>lw E (qa7 rfl) fun a E=>fv E qlW rfl fun a E=>qai E ok 1 rfl rfl rfl qrN (ORow.cells h18) rfl ⟨(ORow.one h18),trivial⟩ rfl rfl fun w ok=>wn<|sg<|aw E rfl fun a E=>wp_ret ?_
 exact fin hF ⟨(vp pb0),c16,M17,ok.drop,E.d,rz E rfl,(.inr rfl),h18⟩
def qiZ (u:World) (m0:Mem) (S:Segs) (r:(List UInt8) × Bool) (a:Act) (w:World):Prop :=
 Ok u m0 S w ∧ a.defers = [] ∧ RVs Tryz.prog a w [.t 2 (.string (bs r.1)),.t 3 (.bool r.2)] ∧ r.1.length ≤ LIMS
theorem qmv (N:Nat) (vl_0:Value) (l_0:List (Token)) (hl_0:(pL 3 qaE) m0 [vl_0] l_0) {r:(List UInt8) × Bool} (hF:qfu N l_0 = some r) (hG:Glob u) (ok:Ok u m0 S w) :
  Calls Tryz.prog 10 [vl_0].toArray w fun e w'=>(e = .returned (.tuple [(.string (bs r.1)),(.bool r.2)].toArray) ∧ Ok u m0 S w') ∧ r.1.length ≤ LIMS:=by
 unfold qfu at hF
 refine en (qiZ u m0 S) r Tryz.func10 rfl rfl rfl (by rintro a w ⟨ok,hd,hrv,h0⟩; exact qbs [.t 2 (.string (bs r.1)),.t 3 (.bool r.2)] hd rfl hrv ⟨⟨rfl,ok⟩,h0⟩) fun fin a E=>sg<|av E rfl fun a E=>aw E rfl fun a E=>wp_seq<|sg<|mv E rfl fun a E=>lv E ok (qau qcz hl_0 rfl) fun a E=>lw E (qat rfl rfl) fun a E=>mv E rfl fun a E=>bu E 10 hF (fun c1 hF E=>?_) fun c1 hF E=>?_
 ·refine lsz E fun a E=>ls E fun a E=>pt E rfl rfl fun a E=>mv E rfl fun a E=>lsz E fun a E=>lsz E fun a E=>pt E rfl rfl fun a E=>wn<|c_if E rfl (fun _=>?_) (fun h=>by cases h)
  refine sg<|av E rfl fun a E=>aw E rfl fun a E=>wp_ret<|qae ?_
  exact fin hF ⟨ok,E.d,⟨rv_t E rfl,rv_t E rfl,trivial⟩,(show ([]:List UInt8).length ≤ LIMS by decide)⟩
 refine mv E rfl fun a E=>?_
 obtain ⟨x2,e3,hF⟩:=bnd hF
 obtain ⟨b4,o5,es6,hl7,rr8,at9,yy10⟩:=qoV qcz hl_0 e3 (P:=Tryz.prog) (X:=.tmp 11) (I:=.const (vi 0)) (kd:=.i64) (qaC E rfl) (qaC E rfl)
 obtain ⟨rfl,l11,l12,r13⟩:=rr8
 refine lv E ok (yy10 _ _) fun a E=>fv E qbT rfl fun a E=>lv E ok (qah qal rfl (qac.ro (At.sub 0 1 at9))) fun a E=>lw E (qbn rfl rfl) fun a E=>pf E rfl rfl fun a E=>mv E rfl fun a E=>bu E 17 hF (fun c14 hF E=>?_) fun c14 hF E=>?_
 ·refine lsz E fun a E=>lsz E fun a E=>pt E rfl rfl fun a E=>wn<|c_if E rfl (fun _=>?_) (fun h=>by cases h)
  refine sg<|av E rfl fun a E=>aw E rfl fun a E=>wp_ret<|qae ?_
  exact fin hF ⟨ok,E.d,⟨rv_t E rfl,rv_t E rfl,trivial⟩,(show ([]:List UInt8).length ≤ LIMS by decide)⟩
 refine mz E rfl rfl fun a E=>lv E ok (qau qcz hl_0 rfl) fun a E=>lw E (qbo rfl rfl) fun a E=>?_
 obtain ⟨x15,e16,hF⟩:=bnd hF
 obtain ⟨b17,o18,es19,hl20,rr21,at22,yy23⟩:=ia E 18 21 qcz hl_0 e16
 obtain ⟨rfl,l24,l25,r26⟩:=rr21
 refine lv E ok (yy23 _ _) fun a E=>fv E qbT rfl fun a E=>lv E ok (qah qal rfl (qac.ro (At.sub 0 1 at22))) fun a E=>lw E (qbn rfl rfl) fun a E=>pf E rfl rfl fun a E=>wn<|cf E rfl hF (fun c27 hF=>?_) fun c27 hF=>?_
 ·refine sg<|av E rfl fun a E=>aw E rfl fun a E=>wp_ret<|qae ?_
  exact fin hF ⟨ok,E.d,⟨rv_t E rfl,rv_t E rfl,trivial⟩,(show ([]:List UInt8).length ≤ LIMS by decide)⟩
 refine wp_skip<|qaa<|sg<|qaM E ok qn0 rfl rfl fun b28 a w E ok=>wn<|wp_seq<|sg<|mz E rfl rfl fun a E=>lv E ok (qau qcz hl_0 rfl) fun a E=>lw E (qbo rfl rfl) fun a E=>?_
 obtain ⟨l29,e30,hF⟩:=bnd hF
 obtain ⟨c31,h32,yy33⟩:=qmS qcz hl_0 e30 (P:=Tryz.prog) (X:=.tmp 27) (lov:=(some (.const (vi 1)))) (hiv:=(some (.tmp 30))) (qaC E rfl) (ql9 E ⟨_,rfl⟩) (ql9 E ⟨_,rfl⟩)
 refine lv E ok (yy33 _ _) fun a E=>lv E ok (qau qcz h32 rfl) fun a E=>mv E rfl fun a E=>wn<|wp_block ?_
 obtain ⟨M41,ok,h42⟩:=qck (e:=5) (k:=1) (R:=(pI .u8)) ok
 refine bd hF fun o43 hL hF=>qax _ (fun (s:Int × Builder) a w=>∃ c45 c47 M48,Ok u m0 (M48 :: [(b28,oc 88 [c45,c47])] :: S) w ∧ Env 79 a [(4,vp b28),(31,c31),(32,(vi (l29.length:Int))),(33,vi s.1)] ∧ InR .i64 s.1 ∧ BAd b28 c45 ∧ ORow 5 1 (pI .u8) m0 c47 s.2.buf M48) (fun (b:(Builder ⊕ ((List UInt8) × Bool))) e a w=>(Sum.elim (fun b162=>e = (.exit 0) ∧ ∃ c163 c165 M166,Ok u m0 (M166 :: [(b28,oc 88 [c163,c165])] :: S) w ∧ Env 79 a [(4,vp b28)] ∧ BAd b28 c163 ∧ ORow 5 1 (pI .u8) m0 c165 b162.buf M166) (fun b168=>e = .ret ∧ qiZ u m0 S b168 a w)) b) ?_ ?_ N _ a w hL ⟨(Value.pointer none),(Value.slice none 0 0),M41,ok,E.keep [4,31,32,33],(ir 0),(.inl rfl),h42⟩
 rotate_left
 ·intro e a w _ hO
  rcases o43 with o43 | o43
  rotate_left
  ·obtain ⟨rfl,hret⟩:=hO
   refine qag<|qae ?_
   exact fin hF hret
  have hF:=qaX hF
  obtain ⟨rfl,c156,c158,M159,ok,E,h157,h160⟩:=hO
  refine qaz<|qaa<|sg ?_
  replace ok:Ok u m0 ([(b28,oc 88 [c156,c158])] :: M159 :: S) w:=(ok.pk 2 [1,0] rfl (by decide))
  refine qas E qoW rfl (qi2 Tryz.lays169 Tryz.Builder_Extra_169 h160 ok) rfl rfl ?_
  rintro _ w ⟨⟨rfl,ok⟩,l161⟩
  refine ⟨_,rfl,fun a E=>?_⟩
  refine av E rfl fun a E=>aw E rfl fun a E=>wp_ret ?_
  exact fin hF ⟨ok,E.d,⟨rv_t E rfl,rv_t E rfl,trivial⟩,l161⟩
 rintro ⟨v50,v51⟩ a w r ⟨c53,c55,M56,ok,E,r52,h54,h57⟩ hF
 replace hF:qcD N l29 v50 v51 = some r:=hF
 unfold qcD at hF
 refine sg<|lw E (qat rfl rfl) fun a E=>wn<|wp_seq<|cg E rfl hF (fun c58 hF=>?_) fun c58 hF=>?_
 ·refine wp_exit<|qap ?_
  cases hF
  exact so (sl ⟨rfl,⟨c53,c55,M56,ok,E.keep [4],h54,h57⟩⟩)
 refine wp_skip<|qaa<|wp_seq<|wp_block<|sg ?_
 obtain ⟨x59,e60,hF⟩:=bnd hF
 obtain ⟨b61,o62,es63,hl64,rr65,at66,yy67⟩:=ia E 31 33 qcz h32 e60
 obtain ⟨rfl,l68,l69,r70⟩:=rr65
 refine lv E ok (yy67 _ _) fun a E=>lv E ok (qam (cs:=[vs x59.Kind,vs x59.Text,vi x59.From]) qf2 rfl rfl (qac.ro at66)) fun a E=>qaM E ok qdo rfl rfl fun b71 a w E ok=>qai E ok 0 rfl rfl rfl qke rfl rfl ⟨rfl,rfl,rfl,trivial⟩ rfl rfl fun w ok=>wn<|wp_block<|sg<|fk E ok qbT qal rfl 0 rfl rfl fun a E=>lw E (qaG rfl rfl) fun a E=>aw E rfl fun a E=>cf E rfl hF (fun c72 hF=>?_) fun c72 hF=>?_
 ·refine qab<|fk E ok qd8 qal rfl 0 rfl rfl fun a E=>?_
  obtain ⟨r73,e74,hF⟩:=bnd hF
  replace ok:Ok u m0 ([(b28,oc 88 [c53,c55])] :: M56 :: [(b71,oc 29 [vs x59.Kind,vs x59.Text,vi x59.From])] :: S) w:=(ok.pk 3 [2,1,0] rfl (by decide))
  refine qas E qgD rfl (qaK N x59.Text l69 (Builder.mk () v51.buf) h54 h57 e74 hG ok) rfl rfl ?_
  rintro _ w ⟨c76,c78,M79,⟨rfl,ok⟩,r75,h77,h80⟩
  refine ⟨_,rfl,fun a E=>?_⟩
  refine wpList_nil<|qaf<|qaf<|qaa<|qab<|lw E (qar rfl rfl (InR.inc r52 (qaj h32) c58)) fun a E=>mv E rfl fun a E=>wpList_nil ?_
  cases hF
  exact qan ⟨c76,c78,M79,(ok.pk 3 [1,0] rfl (by decide)),E.keep [4,31,32,33],(InR.inc r52 (qaj h32) c58),h77,h80⟩
 refine sg<|fk E ok qbT qal rfl 0 rfl rfl fun a E=>lw E (qaG rfl rfl) fun a E=>mv E rfl fun a E=>bw E 48 hF (fun c81 hF E=>?_) fun c81 hF E=>?_
 ·as_aux_lemma =>
   refine lsq E fun a E=>ls E fun a E=>pf E rfl rfl fun a E=>aw E rfl fun a E=>c_if E rfl (fun h=>by cases h) (fun _=>?_)
   refine sg<|fk E ok qbT qal rfl 0 rfl rfl fun a E=>lw E (qaG rfl rfl) fun a E=>mv E rfl fun a E=>bw E 58 hF (fun c123 hF E=>?_) fun c123 hF E=>?_
   ·as_aux_lemma =>
     refine lsq E fun a E=>ls E fun a E=>pf E rfl rfl fun a E=>aw E rfl fun a E=>c_if E rfl (fun h=>by cases h) (fun _=>?_)
     refine sg<|fk E ok qbT qal rfl 0 rfl rfl fun a E=>lw E (qaG rfl rfl) fun a E=>mv E rfl fun a E=>bw E 68 hF (fun c144 hF E=>?_) fun c144 hF E=>?_
     ·refine lsq E fun a E=>ls E fun a E=>pf E rfl rfl fun a E=>aw E rfl fun a E=>c_if E rfl (fun h=>by cases h) (fun _=>?_)
      refine sg<|av E rfl fun a E=>aw E rfl fun a E=>wp_ret<|qag<|qag<|qae ?_
      cases hF
      exact so (sr ⟨rfl,⟨ok.drop.drop.drop,E.d,⟨rv_t E rfl,rv_t E rfl,trivial⟩,(show ([]:List UInt8).length ≤ LIMS by decide)⟩⟩)
     refine fk E ok qd8 qal rfl 0 rfl rfl fun a E=>lw E (qbn rfl rfl) fun a E=>pt E rfl rfl fun a E=>aw E rfl fun a E=>cg E rfl hF (fun c145 hF=>?_) fun c145 hF=>?_
     ·refine sg<|av E rfl fun a E=>aw E rfl fun a E=>wp_ret<|qag<|qag<|qae ?_
      cases hF
      exact so (sr ⟨rfl,⟨ok.drop.drop.drop,E.d,⟨rv_t E rfl,rv_t E rfl,trivial⟩,(show ([]:List UInt8).length ≤ LIMS by decide)⟩⟩)
     refine qab<|fk E ok qd8 qal rfl 0 rfl rfl fun a E=>bd hF fun s146 e147 hF=>lw E (qaF Tryz.underlying9 e147 rfl ⟨_,rfl⟩ rfl) fun a E=>?_
     obtain ⟨r148,e149,hF⟩:=bnd hF
     replace ok:Ok u m0 ([(b28,oc 88 [c53,c55])] :: M56 :: [(b71,oc 29 [vs x59.Kind,vs x59.Text,vi x59.From])] :: S) w:=(ok.pk 3 [2,1,0] rfl (by decide))
     refine qas E qgD rfl (qaK N s146 (Nat.le_trans (qbr e147) l69) (Builder.mk () v51.buf) h54 h57 e149 hG ok) rfl rfl ?_
     rintro _ w ⟨c151,c153,M154,⟨rfl,ok⟩,r150,h152,h155⟩
     refine ⟨_,rfl,fun a E=>?_⟩
     refine wpList_nil<|qaf<|qaf<|qaa<|qab<|lw E (qar rfl rfl (InR.inc r52 (qaj h32) c58)) fun a E=>mv E rfl fun a E=>wpList_nil ?_
     cases hF
     exact qan ⟨c151,c153,M154,(ok.pk 3 [1,0] rfl (by decide)),E.keep [4,31,32,33],(InR.inc r52 (qaj h32) c58),h152,h155⟩
   refine fk E ok qd8 qal rfl 0 rfl rfl fun a E=>lw E (qaG rfl rfl) fun a E=>pt E rfl rfl fun a E=>aw E rfl fun a E=>cf E rfl hF (fun c124 hF=>?_) fun c124 hF=>?_
   ·refine qab ?_
    obtain ⟨r125,e126,hF⟩:=bnd hF
    replace ok:Ok u m0 ([(b28,oc 88 [c53,c55])] :: M56 :: [(b71,oc 29 [vs x59.Kind,vs x59.Text,vi x59.From])] :: S) w:=(ok.pk 3 [2,1,0] rfl (by decide))
    refine qas E qkJ rfl (qbw N 9 (show InR .u8 (9) by decide) (Builder.mk () v51.buf) h54 h57 e126 hG ok) rfl rfl ?_
    rintro _ w ⟨c127,c129,M130,⟨rfl,ok⟩,h128,h131⟩
    refine ⟨_,rfl,fun a E=>?_⟩
    refine wpList_nil<|qaf<|qaf<|qaa<|qab<|lw E (qar rfl rfl (InR.inc r52 (qaj h32) c58)) fun a E=>mv E rfl fun a E=>wpList_nil ?_
    cases hF
    exact qan ⟨c127,c129,M130,(ok.pk 3 [1,0] rfl (by decide)),E.keep [4,31,32,33],(InR.inc r52 (qaj h32) c58),h128,h131⟩
   refine sg<|fk E ok qbT qal rfl 0 rfl rfl fun a E=>lw E (qaG rfl rfl) fun a E=>mv E rfl fun a E=>bw E 68 hF (fun c132 hF E=>?_) fun c132 hF E=>?_
   ·refine lsq E fun a E=>ls E fun a E=>pf E rfl rfl fun a E=>aw E rfl fun a E=>c_if E rfl (fun h=>by cases h) (fun _=>?_)
    refine sg<|av E rfl fun a E=>aw E rfl fun a E=>wp_ret<|qag<|qag<|qae ?_
    cases hF
    exact so (sr ⟨rfl,⟨ok.drop.drop.drop,E.d,⟨rv_t E rfl,rv_t E rfl,trivial⟩,(show ([]:List UInt8).length ≤ LIMS by decide)⟩⟩)
   refine fk E ok qd8 qal rfl 0 rfl rfl fun a E=>lw E (qbn rfl rfl) fun a E=>pt E rfl rfl fun a E=>aw E rfl fun a E=>cg E rfl hF (fun c133 hF=>?_) fun c133 hF=>?_
   ·refine sg<|av E rfl fun a E=>aw E rfl fun a E=>wp_ret<|qag<|qag<|qae ?_
    cases hF
    exact so (sr ⟨rfl,⟨ok.drop.drop.drop,E.d,⟨rv_t E rfl,rv_t E rfl,trivial⟩,(show ([]:List UInt8).length ≤ LIMS by decide)⟩⟩)
   refine qab<|fk E ok qd8 qal rfl 0 rfl rfl fun a E=>bd hF fun s134 e135 hF=>lw E (qaF Tryz.underlying9 e135 rfl ⟨_,rfl⟩ rfl) fun a E=>?_
   obtain ⟨r136,e137,hF⟩:=bnd hF
   replace ok:Ok u m0 ([(b28,oc 88 [c53,c55])] :: M56 :: [(b71,oc 29 [vs x59.Kind,vs x59.Text,vi x59.From])] :: S) w:=(ok.pk 3 [2,1,0] rfl (by decide))
   refine qas E qgD rfl (qaK N s134 (Nat.le_trans (qbr e135) l69) (Builder.mk () v51.buf) h54 h57 e137 hG ok) rfl rfl ?_
   rintro _ w ⟨c139,c141,M142,⟨rfl,ok⟩,r138,h140,h143⟩
   refine ⟨_,rfl,fun a E=>?_⟩
   refine wpList_nil<|qaf<|qaf<|qaa<|qab<|lw E (qar rfl rfl (InR.inc r52 (qaj h32) c58)) fun a E=>mv E rfl fun a E=>wpList_nil ?_
   cases hF
   exact qan ⟨c139,c141,M142,(ok.pk 3 [1,0] rfl (by decide)),E.keep [4,31,32,33],(InR.inc r52 (qaj h32) c58),h140,h143⟩
 refine fk E ok qd8 qal rfl 0 rfl rfl fun a E=>lw E (qaG rfl rfl) fun a E=>pt E rfl rfl fun a E=>aw E rfl fun a E=>cf E rfl hF (fun c82 hF=>?_) fun c82 hF=>?_
 ·refine qab ?_
  obtain ⟨r83,e84,hF⟩:=bnd hF
  replace ok:Ok u m0 ([(b28,oc 88 [c53,c55])] :: M56 :: [(b71,oc 29 [vs x59.Kind,vs x59.Text,vi x59.From])] :: S) w:=(ok.pk 3 [2,1,0] rfl (by decide))
  refine qas E qkJ rfl (qbw N 10 (show InR .u8 (10) by decide) (Builder.mk () v51.buf) h54 h57 e84 hG ok) rfl rfl ?_
  rintro _ w ⟨c85,c87,M88,⟨rfl,ok⟩,h86,h89⟩
  refine ⟨_,rfl,fun a E=>?_⟩
  refine wpList_nil<|qaf<|qaf<|qaa<|qab<|lw E (qar rfl rfl (InR.inc r52 (qaj h32) c58)) fun a E=>mv E rfl fun a E=>wpList_nil ?_
  cases hF
  exact qan ⟨c85,c87,M88,(ok.pk 3 [1,0] rfl (by decide)),E.keep [4,31,32,33],(InR.inc r52 (qaj h32) c58),h86,h89⟩
 refine sg<|fk E ok qbT qal rfl 0 rfl rfl fun a E=>lw E (qaG rfl rfl) fun a E=>mv E rfl fun a E=>bw E 58 hF (fun c90 hF E=>?_) fun c90 hF E=>?_
 ·as_aux_lemma =>
   refine lsq E fun a E=>ls E fun a E=>pf E rfl rfl fun a E=>aw E rfl fun a E=>c_if E rfl (fun h=>by cases h) (fun _=>?_)
   refine sg<|fk E ok qbT qal rfl 0 rfl rfl fun a E=>lw E (qaG rfl rfl) fun a E=>mv E rfl fun a E=>bw E 68 hF (fun c111 hF E=>?_) fun c111 hF E=>?_
   ·refine lsq E fun a E=>ls E fun a E=>pf E rfl rfl fun a E=>aw E rfl fun a E=>c_if E rfl (fun h=>by cases h) (fun _=>?_)
    refine sg<|av E rfl fun a E=>aw E rfl fun a E=>wp_ret<|qag<|qag<|qae ?_
    cases hF
    exact so (sr ⟨rfl,⟨ok.drop.drop.drop,E.d,⟨rv_t E rfl,rv_t E rfl,trivial⟩,(show ([]:List UInt8).length ≤ LIMS by decide)⟩⟩)
   refine fk E ok qd8 qal rfl 0 rfl rfl fun a E=>lw E (qbn rfl rfl) fun a E=>pt E rfl rfl fun a E=>aw E rfl fun a E=>cg E rfl hF (fun c112 hF=>?_) fun c112 hF=>?_
   ·refine sg<|av E rfl fun a E=>aw E rfl fun a E=>wp_ret<|qag<|qag<|qae ?_
    cases hF
    exact so (sr ⟨rfl,⟨ok.drop.drop.drop,E.d,⟨rv_t E rfl,rv_t E rfl,trivial⟩,(show ([]:List UInt8).length ≤ LIMS by decide)⟩⟩)
   refine qab<|fk E ok qd8 qal rfl 0 rfl rfl fun a E=>bd hF fun s113 e114 hF=>lw E (qaF Tryz.underlying9 e114 rfl ⟨_,rfl⟩ rfl) fun a E=>?_
   obtain ⟨r115,e116,hF⟩:=bnd hF
   replace ok:Ok u m0 ([(b28,oc 88 [c53,c55])] :: M56 :: [(b71,oc 29 [vs x59.Kind,vs x59.Text,vi x59.From])] :: S) w:=(ok.pk 3 [2,1,0] rfl (by decide))
   refine qas E qgD rfl (qaK N s113 (Nat.le_trans (qbr e114) l69) (Builder.mk () v51.buf) h54 h57 e116 hG ok) rfl rfl ?_
   rintro _ w ⟨c118,c120,M121,⟨rfl,ok⟩,r117,h119,h122⟩
   refine ⟨_,rfl,fun a E=>?_⟩
   refine wpList_nil<|qaf<|qaf<|qaa<|qab<|lw E (qar rfl rfl (InR.inc r52 (qaj h32) c58)) fun a E=>mv E rfl fun a E=>wpList_nil ?_
   cases hF
   exact qan ⟨c118,c120,M121,(ok.pk 3 [1,0] rfl (by decide)),E.keep [4,31,32,33],(InR.inc r52 (qaj h32) c58),h119,h122⟩
 refine fk E ok qd8 qal rfl 0 rfl rfl fun a E=>lw E (qaG rfl rfl) fun a E=>pt E rfl rfl fun a E=>aw E rfl fun a E=>cf E rfl hF (fun c91 hF=>?_) fun c91 hF=>?_
 ·refine qab ?_
  obtain ⟨r92,e93,hF⟩:=bnd hF
  replace ok:Ok u m0 ([(b28,oc 88 [c53,c55])] :: M56 :: [(b71,oc 29 [vs x59.Kind,vs x59.Text,vi x59.From])] :: S) w:=(ok.pk 3 [2,1,0] rfl (by decide))
  refine qas E qkJ rfl (qbw N 9 (show InR .u8 (9) by decide) (Builder.mk () v51.buf) h54 h57 e93 hG ok) rfl rfl ?_
  rintro _ w ⟨c94,c96,M97,⟨rfl,ok⟩,h95,h98⟩
  refine ⟨_,rfl,fun a E=>?_⟩
  refine wpList_nil<|qaf<|qaf<|qaa<|qab<|lw E (qar rfl rfl (InR.inc r52 (qaj h32) c58)) fun a E=>mv E rfl fun a E=>wpList_nil ?_
  cases hF
  exact qan ⟨c94,c96,M97,(ok.pk 3 [1,0] rfl (by decide)),E.keep [4,31,32,33],(InR.inc r52 (qaj h32) c58),h95,h98⟩
 refine sg<|fk E ok qbT qal rfl 0 rfl rfl fun a E=>lw E (qaG rfl rfl) fun a E=>mv E rfl fun a E=>bw E 68 hF (fun c99 hF E=>?_) fun c99 hF E=>?_
 ·refine lsq E fun a E=>ls E fun a E=>pf E rfl rfl fun a E=>aw E rfl fun a E=>c_if E rfl (fun h=>by cases h) (fun _=>?_)
  refine sg<|av E rfl fun a E=>aw E rfl fun a E=>wp_ret<|qag<|qag<|qae ?_
  cases hF
  exact so (sr ⟨rfl,⟨ok.drop.drop.drop,E.d,⟨rv_t E rfl,rv_t E rfl,trivial⟩,(show ([]:List UInt8).length ≤ LIMS by decide)⟩⟩)
 refine fk E ok qd8 qal rfl 0 rfl rfl fun a E=>lw E (qbn rfl rfl) fun a E=>pt E rfl rfl fun a E=>aw E rfl fun a E=>cg E rfl hF (fun c100 hF=>?_) fun c100 hF=>?_
 ·refine sg<|av E rfl fun a E=>aw E rfl fun a E=>wp_ret<|qag<|qag<|qae ?_
  cases hF
  exact so (sr ⟨rfl,⟨ok.drop.drop.drop,E.d,⟨rv_t E rfl,rv_t E rfl,trivial⟩,(show ([]:List UInt8).length ≤ LIMS by decide)⟩⟩)
 refine qab<|fk E ok qd8 qal rfl 0 rfl rfl fun a E=>bd hF fun s101 e102 hF=>lw E (qaF Tryz.underlying9 e102 rfl ⟨_,rfl⟩ rfl) fun a E=>?_
 obtain ⟨r103,e104,hF⟩:=bnd hF
 replace ok:Ok u m0 ([(b28,oc 88 [c53,c55])] :: M56 :: [(b71,oc 29 [vs x59.Kind,vs x59.Text,vi x59.From])] :: S) w:=(ok.pk 3 [2,1,0] rfl (by decide))
 refine qas E qgD rfl (qaK N s101 (Nat.le_trans (qbr e102) l69) (Builder.mk () v51.buf) h54 h57 e104 hG ok) rfl rfl ?_
 rintro _ w ⟨c106,c108,M109,⟨rfl,ok⟩,r105,h107,h110⟩
 refine ⟨_,rfl,fun a E=>?_⟩
 refine wpList_nil<|qaf<|qaf<|qaa<|qab<|lw E (qar rfl rfl (InR.inc r52 (qaj h32) c58)) fun a E=>mv E rfl fun a E=>wpList_nil ?_
 cases hF
 exact qan ⟨c106,c108,M109,(ok.pk 3 [1,0] rfl (by decide)),E.keep [4,31,32,33],(InR.inc r52 (qaj h32) c58),h107,h110⟩
def qko (u:World) (m0:Mem) (S:Segs) (r:Bool) (a:Act) (w:World):Prop :=
 Ok u m0 S w ∧ a.defers = [] ∧ RVs Tryz.prog a w [.t 4 (.bool r)]
theorem qkz (N:Nat) (s_0:List UInt8) (ls_0:s_0.length ≤ LIMS) (chars_1:List UInt8) (lchars_1:chars_1.length ≤ LIMS) {r:Bool} (hF:qfe N s_0 chars_1 = some r) (hG:Glob u) (ok:Ok u m0 S w) :
  Calls Tryz.prog 70 [vs s_0,vs chars_1].toArray w fun e w'=>(e = .returned (.bool r) ∧ Ok u m0 S w'):=by
 unfold qfe at hF
 refine en (qko u m0 S) r Tryz.func70 rfl rfl rfl (fun _ _ h=>ra h rfl) fun fin a E=>sg<|aw E rfl fun a E=>sg<|mz E rfl rfl fun a E=>bd hF fun r1 e2 hF=>qas E qwC rfl (qlz N s_0 ls_0 chars_1 lchars_1 e2 hG ok) rfl rfl ?_
 rintro _ w ⟨⟨rfl,ok⟩,r3⟩
 refine ⟨_,rfl,fun a E=>?_⟩
 refine lw E (qa2 rfl rfl) fun a E=>aw E rfl fun a E=>wp_ret ?_
 exact fin hF ⟨ok,E.d,rz E rfl⟩
def qjU (u:World) (m0:Mem) (S:Segs) (r:Bool) (a:Act) (w:World):Prop :=
 Ok u m0 S w ∧ a.defers = [] ∧ RVs Tryz.prog a w [.t 2 (.bool r)]
theorem qm3 (N:Nat) (vfiles_0:Value) (files_0:List (File)) (hfiles_0:(pL 2 qef) m0 [vfiles_0] files_0) {r:Bool} (hF:qgp N files_0 = some r) (hG:Glob u) (ok:Ok u m0 S w) :
  Calls Tryz.prog 43 [vfiles_0].toArray w fun e w'=>(e = .returned (.bool r) ∧ Ok u m0 S w'):=by
 unfold qgp at hF
 refine en (qjU u m0 S) r Tryz.func43 rfl rfl rfl (fun _ _ h=>ra h rfl) fun fin a E=>sg<|aw E rfl fun a E=>sg<|qiJ kS (oneV pB) E ok rfl rfl fun c1 M2 a w E ok h3=>aw E rfl fun a E=>wp_seq<|sg<|mv E rfl fun a E=>lv E ok (qau qis hfiles_0 rfl) fun a E=>mv E rfl fun a E=>wn<|wp_block<|bd hF fun o9 hL hF=>qax _ (fun (s:Int × (List (List UInt8 × Bool))) a w=>∃ c11 M12,Ok u m0 (M12 :: S) w ∧ Env 37 a [(3,c11),(7,vfiles_0),(8,(vi (files_0.length:Int))),(9,vi s.1)] ∧ InR .i64 s.1 ∧ OMap kS (oneV pB) m0 c11 s.2 M12) (fun (b:(Unit ⊕ Bool)) e a w=>(Sum.elim (fun b47=>e = (.exit 0) ∧ Ok u m0 (S) w ∧ Env 37 a []) (fun b48=>e = .ret ∧ qjU u m0 S b48 a w)) b) ?_ ?_ N _ a w hL ⟨c1,M2,ok,E.keep [3,7,8,9],(ir 0),h3⟩
 rotate_left
 ·intro e a w _ hO
  rcases o9 with o9 | o9
  rotate_left
  ·obtain ⟨rfl,hret⟩:=hO
   refine qag<|qae ?_
   exact fin hF hret
  have hF:=qaX hF
  obtain ⟨rfl,ok,E⟩:=hO
  refine qaz<|qaa<|sg<|aw E rfl fun a E=>wp_ret ?_
  exact fin hF ⟨ok,E.d,rz E rfl⟩
 rintro ⟨v14,v15⟩ a w r ⟨c17,M18,ok,E,r16,h19⟩ hF
 replace hF:qdg N files_0 v14 v15 = some r:=hF
 unfold qdg at hF
 refine sg<|lw E (qat rfl rfl) fun a E=>wn<|wp_seq<|cg E rfl hF (fun c20 hF=>?_) fun c20 hF=>?_
 ·refine wp_exit<|qap ?_
  cases hF
  exact so (sl ⟨rfl,⟨(ok.pk 1 [] rfl (by decide)),E.keep []⟩⟩)
 refine wp_skip<|qaa<|wp_seq<|wp_block<|sg ?_
 obtain ⟨x21,e22,hF⟩:=bnd hF
 obtain ⟨b23,o24,es25,hl26,rr27,at28,yy29⟩:=ia E 7 9 qis hfiles_0 e22
 obtain ⟨rfl,l30,l31⟩:=rr27
 refine lv E ok (yy29 _ _) fun a E=>lv E ok (qam (cs:=[vs x21.Name,vs x21.Text]) qpa rfl rfl (qac.ro at28)) fun a E=>qaM E ok qin rfl rfl fun b32 a w E ok=>qai E ok 0 rfl rfl rfl qo9 rfl rfl ⟨rfl,rfl,trivial⟩ rfl rfl fun w ok=>wn<|wp_seq<|sg<|fk E ok qja qal rfl 0 rfl rfl fun a E=>lw E (qaG rfl rfl) fun a E=>mv E rfl fun a E=>bu E 16 hF (fun c33 hF E=>?_) fun c33 hF E=>?_
 ·refine lsz E fun a E=>pt E rfl rfl fun a E=>mv E rfl fun a E=>lsz E fun a E=>pt E rfl rfl fun a E=>mv E rfl fun a E=>lsq E fun a E=>ls E fun a E=>pt E rfl rfl fun a E=>wn<|c_if E rfl (fun _=>?_) (fun h=>by cases h)
  refine sg<|aw E rfl fun a E=>wp_ret<|qae<|qag<|qae ?_
  cases hF
  exact so (sr ⟨rfl,⟨ok.drop.drop,E.d,rz E rfl⟩⟩)
 refine fk E ok qja qal rfl 0 rfl rfl fun a E=>lw E (qaA Tryz.underlying9 rfl) fun a E=>lw E (qbN rfl rfl) fun a E=>pf E rfl rfl fun a E=>mv E rfl fun a E=>bu E 22 hF (fun c34 hF E=>?_) fun c34 hF E=>?_
 ·refine lsz E fun a E=>pt E rfl rfl fun a E=>mv E rfl fun a E=>lsq E fun a E=>ls E fun a E=>pt E rfl rfl fun a E=>wn<|c_if E rfl (fun _=>?_) (fun h=>by cases h)
  refine sg<|aw E rfl fun a E=>wp_ret<|qae<|qag<|qae ?_
  cases hF
  exact so (sr ⟨rfl,⟨ok.drop.drop,E.d,rz E rfl⟩⟩)
 refine mv E rfl fun a E=>fk E ok qja qal rfl 0 rfl rfl fun a E=>?_
 obtain ⟨xv35,h36,yy37,yy38⟩:=ql7 (P:=Tryz.prog) (mo:=.tmp 23) (ko:=.tmp 25) (zx:=(false:Bool)) ok 1 (qeA Tryz.underlying9) Tryz.underlying95 h19 rfl (qaC E rfl) (qaC E rfl) ⟨rfl,l30⟩ ql2 qjS
 obtain rfl:=qls h36
 refine lv E ok (yy37 _) fun a E=>pf E rfl rfl fun a E=>mv E rfl fun a E=>bu E 28 hF (fun c39 hF E=>?_) fun c39 hF E=>?_
 ·refine lsq E fun a E=>ls E fun a E=>pt E rfl rfl fun a E=>wn<|c_if E rfl (fun _=>?_) (fun h=>by cases h)
  refine sg<|aw E rfl fun a E=>wp_ret<|qae<|qag<|qae ?_
  cases hF
  exact so (sr ⟨rfl,⟨ok.drop.drop,E.d,rz E rfl⟩⟩)
 refine fk E ok qja qal rfl 0 rfl rfl fun a E=>bd hF fun r40 e41 hF=>lc E qv9 rfl (qkz N x21.Name l30 ([32,10]) (show ([32,10]:List UInt8).length ≤ LIMS by decide) e41 hG ok) fun w ok a E=>pf E rfl rfl fun a E=>wn<|cf E rfl hF (fun c42 hF=>?_) fun c42 hF=>?_
 ·refine sg<|aw E rfl fun a E=>wp_ret<|qae<|qag<|qae ?_
  cases hF
  exact so (sr ⟨rfl,⟨ok.drop.drop,E.d,rz E rfl⟩⟩)
 refine wp_skip<|qaa<|qab<|mv E rfl fun a E=>fk E ok qja qal rfl 0 rfl rfl fun a E=>bd hF fun l43 e44 hF=>qkm (.inl rfl) E ok 1 (qeA Tryz.underlying9) Tryz.underlying95 h19 rfl rfl rfl rfl ⟨rfl,l30⟩ qjS e44 rfl fun M45 w ok h46=>wpList_nil<|qaf<|qaa<|qab<|lw E (qar rfl rfl (InR.inc r16 (qaj hfiles_0) c20)) fun a E=>mv E rfl fun a E=>wpList_nil ?_
 cases hF
 exact qan ⟨c17,M45,(ok.pk 2 [1] rfl (by decide)),E.keep [3,7,8,9],(InR.inc r16 (qaj hfiles_0) c20),h46⟩
def qnj (u:World) (m0:Mem) (S:Segs) (r:Bool) (a:Act) (w:World):Prop :=
 Ok u m0 S w ∧ a.defers = [] ∧ RVs Tryz.prog a w [.t 2 (.bool r)]
theorem qhQ (N:Nat) (vt_0:List Value) (t_0:Token) (ht_0:qaE m0 vt_0 t_0) {r:Bool} (hF:qex N t_0 = some r) (hG:Glob u) (ok:Ok u m0 S w) :
  Calls Tryz.prog 56 [.agg vt_0.toArray].toArray w fun e w'=>(e = .returned (.bool r) ∧ Ok u m0 S w'):=by
 obtain ⟨rfl,l1,l2,r3⟩:=ht_0
 unfold qex at hF
 refine en (qnj u m0 S) r Tryz.func56 rfl rfl rfl (fun _ _ h=>ra h rfl) fun fin a E=>sg<|qcC E ok rfl rfl rfl fun b4 a w E ok=>aw E rfl fun a E=>sg<|fk E ok qbT qal rfl 0 rfl rfl fun a E=>lw E (qaG rfl rfl) fun a E=>mv E rfl fun a E=>bu E 6 hF (fun c5 hF E=>?_) fun c5 hF E=>?_
 ·refine lsq E fun a E=>ls E fun a E=>pt E rfl rfl fun a E=>aw E rfl fun a E=>wp_ret ?_
  exact fin hF ⟨ok.drop,E.d,rz E rfl⟩
 refine fk E ok qbT qal rfl 0 rfl rfl fun a E=>lw E (qaG rfl rfl) fun a E=>pf E rfl rfl fun a E=>aw E rfl fun a E=>wp_ret ?_
 exact fin hF ⟨ok.drop,E.d,rz E rfl⟩
def qib (u:World) (m0:Mem) (S:Segs) (r:(List (List (Token)))) (a:Act) (w:World):Prop :=
 ∃ m1 v0,m0.le m1 ∧ Ok u m1 S w ∧ a.defers = [] ∧ RVs Tryz.prog a w [.t 4 v0] ∧ (pL 1 (pL 3 qaE)) m1 [v0] r
theorem qk5 (N:Nat) (vl_0:Value) (l_0:List (Token)) (hl_0:(pL 3 qaE) m0 [vl_0] l_0) (open_1:Int) (ropen_1:InR .i64 open_1) {r:(List (List (Token)))} (hF:qeF N l_0 open_1 = some r) (hG:Glob u) (ok:Ok u m0 S w) :
  Calls Tryz.prog 57 [vl_0,vi open_1].toArray w fun e w'=>∃ m1 v0,e = .returned v0 ∧ m0.le m1 ∧ Ok u m1 S w' ∧ (pL 1 (pL 3 qaE)) m1 [v0] r:=by
 have le_m0:=Mem.le.refl m0
 unfold qeF at hF
 refine en (qib u m0 S) r Tryz.func57 rfl rfl rfl (fun _ _ h=>rc h fun _=>rfl) fun fin a E=>sg<|aw E rfl fun a E=>sg<|qaT (R:=pRaw) (xo:=[.const (Value.slice none 0 0)]) (xs:=[[(Value.slice none 0 0)]]) E ok qb7 qie rfl ⟨⟨_,rfl,rfl,⟨rfl,⟨rfl,trivial⟩⟩⟩,trivial⟩ rfl rfl rfl rfl fun c1 M2 a w E ok h3=>?_
 obtain ⟨M4,ok,h5⟩:=NRow.lit (R:=qcS) ok.addnil.swap2 h3 ⟨_,rfl,ORow.nil⟩
 refine aw E rfl fun a E=>sg<|av E rfl fun a E=>av E rfl fun a E=>wn<|wp_seq<|sg<|mz E rfl rfl fun a E=>lw E (qav rfl rfl) fun a E=>?_
 obtain ⟨l6,e7,hF⟩:=bnd hF
 obtain ⟨c8,h9,yy10⟩:=qmS qcz hl_0 e7 (P:=Tryz.prog) (X:=.tmp 11) (lov:=(some (.tmp 13))) (hiv:=none) (qaC E rfl) (ql9 E ⟨_,rfl⟩) (ql9 E rfl)
 refine lv E ok (yy10 _ _) fun a E=>lv E ok (qau qcz h9 rfl) fun a E=>mv E rfl fun a E=>wn<|wp_block<|bd hF fun o16 hL hF=>qax _ (fun (s:(List (List (Token))) × Int × Bool × Int) a w=>∃ c17 M18,Ok u m0 (M18 :: S) w ∧ Env 72 a [(5,c17),(6,vi s.2.1),(7,vb s.2.2.1),(14,c8),(15,(vi (l6.length:Int))),(16,vi s.2.2.2)] ∧ NRow 26 1 qcS m0 c17 s.1 M18 ∧ InR .i64 s.2.1 ∧ InR .i64 s.2.2.2) (fun (b:(Unit ⊕ ((List (List (Token)))))) e a w=>(Sum.elim (fun b412=>e = (.exit 0) ∧ Ok u m0 (S) w ∧ Env 72 a []) (fun b413=>e = .ret ∧ qib u m0 S b413 a w)) b) ?_ ?_ N _ a w hL ⟨c1,M4,ok,E.keep [5,6,7,14,15,16],h5,(ir 0),(ir 0)⟩
 rotate_left
 ·intro e a w _ hO
  rcases o16 with o16 | o16
  rotate_left
  ·obtain ⟨rfl,hret⟩:=hO
   refine qag<|qae ?_
   exact fin hF hret
  have hF:=qaX hF
  obtain ⟨rfl,ok,E⟩:=hO
  refine qaz<|qaa<|sg<|aw E rfl fun a E=>wp_ret ?_
  exact fin hF ⟨m0,(.slice none 0 0),le_m0,ok,E.d,rz E rfl,qa9⟩
 rintro ⟨v22,v23,v24,v25⟩ a w r ⟨c26,M27,ok,E,h28,r29,r30⟩ hF
 replace hF:qcd N l6 v22 v23 v24 v25 = some r:=hF
 unfold qcd at hF
 refine sg<|lw E (qat rfl rfl) fun a E=>wn<|wp_seq<|cg E rfl hF (fun c31 hF=>?_) fun c31 hF=>?_
 ·refine wp_exit<|qap ?_
  cases hF
  exact so (sl ⟨rfl,⟨(ok.pk 1 [] rfl (by decide)),E.keep []⟩⟩)
 refine wp_skip<|qaa<|wp_seq<|wp_block<|sg ?_
 obtain ⟨x32,e33,hF⟩:=bnd hF
 obtain ⟨b34,o35,es36,hl37,rr38,at39,yy40⟩:=ia E 14 16 qcz h9 e33
 obtain ⟨rfl,l41,l42,r43⟩:=rr38
 refine lv E ok (yy40 _ _) fun a E=>lv E ok (qam (cs:=[vs x32.Kind,vs x32.Text,vi x32.From]) qf2 rfl rfl (qac.ro at39)) fun a E=>qaM E ok qdo rfl rfl fun b44 a w E ok=>qai E ok 0 rfl rfl rfl qke rfl rfl ⟨rfl,rfl,rfl,trivial⟩ rfl rfl fun w ok=>wn<|wp_seq<|wp_block<|sg<|fk E ok qbT qal rfl 0 rfl rfl fun a E=>lw E (qaG rfl rfl) fun a E=>mv E rfl fun a E=>bw E 24 hF (fun c45 hF E=>?_) fun c45 hF E=>?_
 ·as_aux_lemma =>
   refine lsq E fun a E=>pf E rfl rfl fun a E=>aw E rfl fun a E=>c_if E rfl (fun h=>by cases h) (fun _=>?_)
   refine sg<|lv E ok (qam (cs:=[vs x32.Kind,vs x32.Text,vi x32.From]) qf2 rfl rfl (qac.own 0 rfl rfl)) fun a E=>bd hF fun r231 e232 hF=>lc E qrv rfl (qhQ N _ x32 ⟨rfl,l41,l42,r43⟩ e232 hG ok) fun w ok a E=>aw E rfl fun a E=>cf E rfl hF (fun c233 hF=>?_) fun c233 hF=>?_
   ·refine wp_exit<|qjy rfl<|qap<|qaz<|qaa<|qab<|lw E (qar rfl rfl (InR.inc r30 (qaj h9) c31)) fun a E=>mv E rfl fun a E=>wpList_nil ?_
    cases hF
    exact qan ⟨c26,M27,(ok.pk 2 [1] rfl (by decide)),E.keep [5,6,7,14,15,16],h28,r29,(InR.inc r30 (qaj h9) c31)⟩
   refine sg<|fk E ok qbT qal rfl 0 rfl rfl fun a E=>lw E (qaG rfl rfl) fun a E=>mv E rfl fun a E=>bw E 38 hF (fun c234 hF E=>?_) fun c234 hF E=>?_
   ·as_aux_lemma =>
     refine lsq E fun a E=>pf E rfl rfl fun a E=>aw E rfl fun a E=>c_if E rfl (fun h=>by cases h) (fun _=>?_)
     refine sg<|fk E ok qbT qal rfl 0 rfl rfl fun a E=>lw E (qaG rfl rfl) fun a E=>aw E rfl fun a E=>bd hF fun o328 hJ hF=>qa6 (Q':=fun e a w=>e = .normal ∧ Ok u m0 ([(b44,oc 29 [vs x32.Kind,vs x32.Text,vi x32.From])] :: M27 :: S) w ∧ Env 72 a [(5,c26),(6,vi o328),(9,vp b44),(14,c8),(15,(vi (l6.length:Int))),(16,vi v25)] ∧ InR .i64 o328) ?_ ?_
     ·have hF:=hJ
      refine cf E rfl hF (fun c330 hF=>?_) fun c330 hF=>?_
      ·refine qab<|mv E rfl fun a E=>lw E (qav rfl rfl) fun a E=>av E rfl fun a E=>wpList_nil ?_
       cases hF
       exact ⟨rfl,⟨ok,E.keep [5,6,9,14,15,16],(InR.wrap _ _)⟩⟩
      refine sg<|fk E ok qbT qal rfl 0 rfl rfl fun a E=>lw E (qaG rfl rfl) fun a E=>aw E rfl fun a E=>cg E rfl hF (fun c331 hF=>?_) fun c331 hF=>?_
      ·refine wp_skip ?_
       cases hF
       exact ⟨rfl,⟨ok,E.keep [5,6,9,14,15,16],r29⟩⟩
      refine qab<|mv E rfl fun a E=>lw E (qbo rfl rfl) fun a E=>av E rfl fun a E=>wpList_nil ?_
      cases hF
      exact ⟨rfl,⟨ok,E.keep [5,6,9,14,15,16],(InR.wrap _ _)⟩⟩
     intro e a w hO
     obtain ⟨rfl,ok,E,r332⟩:=hO
     refine qaf<|qaa<|sg<|aw E rfl fun a E=>bd hF fun o333 hJ hF=>qa6 (Q':=fun e a w=>e = .normal ∧ ∃ c334 M335,Ok u m0 ([(b44,oc 29 [vs x32.Kind,vs x32.Text,vi x32.From])] :: M335 :: S) w ∧ Env 72 a [(5,c334),(6,vi o328),(7,vb true),(14,c8),(15,(vi (l6.length:Int))),(16,vi v25)] ∧ NRow 26 1 qcS m0 c334 o333 M335) ?_ ?_
     rotate_left
     ·intro e a w hO
      obtain ⟨rfl,c409,M410,ok,E,h411⟩:=hO
      refine qaf<|qaa<|qab<|lw E (qar rfl rfl (InR.inc r30 (qaj h9) c31)) fun a E=>mv E rfl fun a E=>wpList_nil ?_
      cases hF
      exact qan ⟨c409,M410,(ok.pk 2 [1] rfl (by decide)),E.keep [5,6,7,14,15,16],h411,r332,(InR.inc r30 (qaj h9) c31)⟩
     have hF:=hJ
     obtain ⟨x337,e338,hF⟩:=bnd hF
     obtain ⟨l359,e360,hF⟩:=bnd hF
     obtain ⟨x364,e365,hF⟩:=bnd hF
     obtain rfl:=sj hF
     replace ok:Ok u m0 (M27 :: [(b44,oc 29 [vs x32.Kind,vs x32.Text,vi x32.From])] :: S) w:=(ok.pk 2 [1,0] rfl (by decide))
     obtain ⟨cs376,c377,M378,M379,M380,ok,hr381,hx382,he383,hh384⟩:=NRow.open h28 e338 ok
     obtain ⟨c385,rfl,h386⟩:=he383
     refine qcb [9,10] (Cls u m0 (M378 :: [(b44,oc 29 [vs x32.Kind,vs x32.Text,vi x32.From])] :: [])) (Cls u m0 ([(b44,oc 29 [vs x32.Kind,vs x32.Text,vi x32.From])] :: [])) (by kernel_rfl) ?_
     intro w hw
     replace ok:=qcB ok hw
     clear hw
     refine qay (cl1 (cq le_m0 ok [0,3] rfl) (cq le_m0 ok [3] rfl)) fun hT=>kt 0 E rfl hT (qad rfl) fun a E=>kt 1 E rfl hT (qad rfl) fun a E=>kt 2 E rfl hT (qfw qb7 hr381 hh384 rfl) fun a E=>kt 3 E rfl hT (qbo rfl rfl) fun a E=>kt 4 E rfl hT (qad rfl) fun a E=>kt 5 E rfl hT (qad rfl) fun a E=>kt 6 E rfl hT (qfw qb7 hr381 hh384 rfl) fun a E=>kt 7 E rfl hT (qbo rfl rfl) fun a E=>?_
     obtain ⟨b387,o388,hp389,yy390⟩:=qgF qb7 hr381 hx382 (P:=Tryz.prog) (X:=.tmp 61) (I:=.tmp 64) (kd:=.i64) (qaC E rfl) (qaC E rfl)
     refine kt 8 E rfl hT (yy390 _ _) fun a E=>?_
     obtain ⟨hl391,hh392⟩:=qdK hr381 hx382 hp389 (by decide)
     refine qbk 9 E rfl (by kernel_rfl) nP hT (qah qfV rfl (qac.crow hh392 0 rfl)) rfl rfl fun a E=>qbk 10 E rfl (by kernel_rfl) nP hT (qam (cs:=[vs x32.Kind,vs x32.Text,vi x32.From]) qf2 rfl rfl (qac.cown 1 rfl rfl)) rfl rfl fun a E=>qaZ [11] (by kernel_rfl) rfl (qa1 ?_)
     ·refine wo rfl<|qaT (R:=qaE) (xo:=[.tmp 67]) (xs:=([x32]:List (Token))) E ok qcz qdo rfl ⟨⟨_,rfl,rfl,⟨rfl,l41,l42,r43⟩⟩,trivial⟩ rfl rfl rfl rfl fun c393 M394 a w E ok h395=>wn<|qay (cl1 (cq le_m0 ok [1,4] rfl) (cq le_m0 ok [4] rfl)) fun hT=>qaZ [12] (by kernel_rfl) rfl (qa1 ?_)
      ·refine wo rfl<|qbR (R:=qaE) E ok 2 qaN qcz Tryz.underlying26 rfl h386 (qa3.ofRow h395 0 rfl ok) e360 ⟨_,qdo,rfl⟩ rfl rfl rfl rfl fun c396 M397 a w E ok h398=>wn<|qay (cl1 (cq le_m0 ok [1,4] rfl) (cq le_m0 ok [4] rfl)) fun hT=>?_
       obtain ⟨b399,o400,hp401,yy402⟩:=qgF qb7 hr381 hx382 (P:=Tryz.prog) (X:=.tmp 57) (I:=.tmp 60) (kd:=.i64) (qaC E rfl) (qaC E rfl)
       refine kt 13 E rfl hT (yy402 _ _) fun a E=>qaZ [14] (by kernel_rfl) rfl (qa1 ?_)
       ·refine wo rfl<|qgR (f:=0) (c':=[c396]) E ok 1 rfl hr381 hx382 hp401 rfl rfl rfl qng (ORow.cells h398) rfl rfl ⟨(ORow.one h398),trivial⟩ rfl ⟨(ORow.one h398),trivial⟩ rfl fun M403 w ok hr404 hx405=>?_
        have hh406:=qeu.set (c':=[c396]) hh384
        refine wn<|qay (cl2 (by kernel_rfl) (cq le_m0 ok [4] rfl)) fun hT=>qcl (by kernel_rfl) ?_
        replace ok:Ok u m0 (M403 :: M397 :: M380 :: M394 :: [(b44,oc 29 [vs x32.Kind,vs x32.Text,vi x32.From])] :: S) w:=(ok.pk 5 [1,2,3,0,4] rfl (by decide))
        obtain ⟨M407,ok,h408⟩:=NRow.close e338 ok hr404 hx405 (show qcS m0 [c396] l359 M397 from ⟨_,rfl,h398⟩) hh406
        exact ⟨rfl,⟨c26,M407,(ok.pk 3 [2,0] rfl (by decide)),E.keep [5,6,7,14,15,16],h408⟩⟩
   refine mv E rfl fun a E=>lw E (qa0 rfl rfl) fun a E=>pt E rfl rfl fun a E=>aw E rfl fun a E=>cf E rfl hF (fun c235 hF=>?_) fun c235 hF=>?_
   ·refine sg<|mv E rfl fun a E=>qaT (R:=pRaw) (xo:=[.const (Value.slice none 0 0)]) (xs:=[[(Value.slice none 0 0)]]) E ok qb7 qie rfl ⟨⟨_,rfl,rfl,⟨rfl,⟨rfl,trivial⟩⟩⟩,trivial⟩ rfl rfl rfl rfl fun c236 M237 a w E ok h238=>?_
    replace ok:Ok u m0 (M27 :: M237 :: [(b44,oc 29 [vs x32.Kind,vs x32.Text,vi x32.From])] :: S) w:=(ok.pk 3 [2,0,1] rfl (by decide))
    refine bd hF fun l239 e240 hF=>qnz (R:=qcS) E ok.addnil.swap2 qb7 Tryz.underlying129 h28 (qa3.ofRow h238 1 rfl ok) ⟨_,rfl,ORow.nil⟩ e240 ⟨_,qie,rfl⟩ rfl rfl rfl rfl fun c241 M242 a w E ok h243=>aw E rfl fun a E=>sg<|av E rfl fun a E=>wn<|wp_exit<|qjy rfl<|qap<|qaz<|qaa<|qab<|lw E (qar rfl rfl (InR.inc r30 (qaj h9) c31)) fun a E=>mv E rfl fun a E=>wpList_nil ?_
    cases hF
    exact qan ⟨c241,M242,(ok.pk 3 [0] rfl (by decide)),E.keep [5,6,7,14,15,16],h243,r29,(InR.inc r30 (qaj h9) c31)⟩
   refine sg<|fk E ok qbT qal rfl 0 rfl rfl fun a E=>lw E (qaG rfl rfl) fun a E=>aw E rfl fun a E=>bd hF fun o244 hJ hF=>qa6 (Q':=fun e a w=>e = .normal ∧ Ok u m0 ([(b44,oc 29 [vs x32.Kind,vs x32.Text,vi x32.From])] :: M27 :: S) w ∧ Env 72 a [(5,c26),(6,vi o244),(9,vp b44),(14,c8),(15,(vi (l6.length:Int))),(16,vi v25)] ∧ InR .i64 o244) ?_ ?_
   ·have hF:=hJ
    refine cf E rfl hF (fun c246 hF=>?_) fun c246 hF=>?_
    ·refine qab<|mv E rfl fun a E=>lw E (qav rfl rfl) fun a E=>av E rfl fun a E=>wpList_nil ?_
     cases hF
     exact ⟨rfl,⟨ok,E.keep [5,6,9,14,15,16],(InR.wrap _ _)⟩⟩
    refine sg<|fk E ok qbT qal rfl 0 rfl rfl fun a E=>lw E (qaG rfl rfl) fun a E=>aw E rfl fun a E=>cg E rfl hF (fun c247 hF=>?_) fun c247 hF=>?_
    ·refine wp_skip ?_
     cases hF
     exact ⟨rfl,⟨ok,E.keep [5,6,9,14,15,16],r29⟩⟩
    refine qab<|mv E rfl fun a E=>lw E (qbo rfl rfl) fun a E=>av E rfl fun a E=>wpList_nil ?_
    cases hF
    exact ⟨rfl,⟨ok,E.keep [5,6,9,14,15,16],(InR.wrap _ _)⟩⟩
   intro e a w hO
   obtain ⟨rfl,ok,E,r248⟩:=hO
   refine qaf<|qaa<|sg<|aw E rfl fun a E=>bd hF fun o249 hJ hF=>qa6 (Q':=fun e a w=>e = .normal ∧ ∃ c250 M251,Ok u m0 ([(b44,oc 29 [vs x32.Kind,vs x32.Text,vi x32.From])] :: M251 :: S) w ∧ Env 72 a [(5,c250),(6,vi o244),(7,vb true),(14,c8),(15,(vi (l6.length:Int))),(16,vi v25)] ∧ NRow 26 1 qcS m0 c250 o249 M251) ?_ ?_
   rotate_left
   ·intro e a w hO
    obtain ⟨rfl,c325,M326,ok,E,h327⟩:=hO
    refine qaf<|qaa<|qab<|lw E (qar rfl rfl (InR.inc r30 (qaj h9) c31)) fun a E=>mv E rfl fun a E=>wpList_nil ?_
    cases hF
    exact qan ⟨c325,M326,(ok.pk 2 [1] rfl (by decide)),E.keep [5,6,7,14,15,16],h327,r248,(InR.inc r30 (qaj h9) c31)⟩
   have hF:=hJ
   obtain ⟨x253,e254,hF⟩:=bnd hF
   obtain ⟨l275,e276,hF⟩:=bnd hF
   obtain ⟨x280,e281,hF⟩:=bnd hF
   obtain rfl:=sj hF
   replace ok:Ok u m0 (M27 :: [(b44,oc 29 [vs x32.Kind,vs x32.Text,vi x32.From])] :: S) w:=(ok.pk 2 [1,0] rfl (by decide))
   obtain ⟨cs292,c293,M294,M295,M296,ok,hr297,hx298,he299,hh300⟩:=NRow.open h28 e254 ok
   obtain ⟨c301,rfl,h302⟩:=he299
   refine qcb [9,10] (Cls u m0 (M294 :: [(b44,oc 29 [vs x32.Kind,vs x32.Text,vi x32.From])] :: [])) (Cls u m0 ([(b44,oc 29 [vs x32.Kind,vs x32.Text,vi x32.From])] :: [])) (by kernel_rfl) ?_
   intro w hw
   replace ok:=qcB ok hw
   clear hw
   refine qay (cl1 (cq le_m0 ok [0,3] rfl) (cq le_m0 ok [3] rfl)) fun hT=>kt 0 E rfl hT (qad rfl) fun a E=>kt 1 E rfl hT (qad rfl) fun a E=>kt 2 E rfl hT (qfw qb7 hr297 hh300 rfl) fun a E=>kt 3 E rfl hT (qbo rfl rfl) fun a E=>kt 4 E rfl hT (qad rfl) fun a E=>kt 5 E rfl hT (qad rfl) fun a E=>kt 6 E rfl hT (qfw qb7 hr297 hh300 rfl) fun a E=>kt 7 E rfl hT (qbo rfl rfl) fun a E=>?_
   obtain ⟨b303,o304,hp305,yy306⟩:=qgF qb7 hr297 hx298 (P:=Tryz.prog) (X:=.tmp 61) (I:=.tmp 64) (kd:=.i64) (qaC E rfl) (qaC E rfl)
   refine kt 8 E rfl hT (yy306 _ _) fun a E=>?_
   obtain ⟨hl307,hh308⟩:=qdK hr297 hx298 hp305 (by decide)
   refine qbk 9 E rfl (by kernel_rfl) nP hT (qah qfV rfl (qac.crow hh308 0 rfl)) rfl rfl fun a E=>qbk 10 E rfl (by kernel_rfl) nP hT (qam (cs:=[vs x32.Kind,vs x32.Text,vi x32.From]) qf2 rfl rfl (qac.cown 1 rfl rfl)) rfl rfl fun a E=>qaZ [11] (by kernel_rfl) rfl (qa1 ?_)
   ·refine wo rfl<|qaT (R:=qaE) (xo:=[.tmp 67]) (xs:=([x32]:List (Token))) E ok qcz qdo rfl ⟨⟨_,rfl,rfl,⟨rfl,l41,l42,r43⟩⟩,trivial⟩ rfl rfl rfl rfl fun c309 M310 a w E ok h311=>wn<|qay (cl1 (cq le_m0 ok [1,4] rfl) (cq le_m0 ok [4] rfl)) fun hT=>qaZ [12] (by kernel_rfl) rfl (qa1 ?_)
    ·refine wo rfl<|qbR (R:=qaE) E ok 2 qaN qcz Tryz.underlying26 rfl h302 (qa3.ofRow h311 0 rfl ok) e276 ⟨_,qdo,rfl⟩ rfl rfl rfl rfl fun c312 M313 a w E ok h314=>wn<|qay (cl1 (cq le_m0 ok [1,4] rfl) (cq le_m0 ok [4] rfl)) fun hT=>?_
     obtain ⟨b315,o316,hp317,yy318⟩:=qgF qb7 hr297 hx298 (P:=Tryz.prog) (X:=.tmp 57) (I:=.tmp 60) (kd:=.i64) (qaC E rfl) (qaC E rfl)
     refine kt 13 E rfl hT (yy318 _ _) fun a E=>qaZ [14] (by kernel_rfl) rfl (qa1 ?_)
     ·refine wo rfl<|qgR (f:=0) (c':=[c312]) E ok 1 rfl hr297 hx298 hp317 rfl rfl rfl qng (ORow.cells h314) rfl rfl ⟨(ORow.one h314),trivial⟩ rfl ⟨(ORow.one h314),trivial⟩ rfl fun M319 w ok hr320 hx321=>?_
      have hh322:=qeu.set (c':=[c312]) hh300
      refine wn<|qay (cl2 (by kernel_rfl) (cq le_m0 ok [4] rfl)) fun hT=>qcl (by kernel_rfl) ?_
      replace ok:Ok u m0 (M319 :: M313 :: M296 :: M310 :: [(b44,oc 29 [vs x32.Kind,vs x32.Text,vi x32.From])] :: S) w:=(ok.pk 5 [1,2,3,0,4] rfl (by decide))
      obtain ⟨M323,ok,h324⟩:=NRow.close e254 ok hr320 hx321 (show qcS m0 [c312] l275 M313 from ⟨_,rfl,h314⟩) hh322
      exact ⟨rfl,⟨c26,M323,(ok.pk 3 [2,0] rfl (by decide)),E.keep [5,6,7,14,15,16],h324⟩⟩
 refine mv E rfl fun a E=>lw E (qa0 rfl rfl) fun a E=>pt E rfl rfl fun a E=>aw E rfl fun a E=>cf E rfl hF (fun c46 hF=>?_) fun c46 hF=>?_
 ·refine wp_seq<|sg<|mv E rfl fun a E=>lw E (qbj rfl) fun a E=>wn<|cf E rfl hF (fun c47 hF=>?_) fun c47 hF=>?_
  ·refine sg<|aw E rfl fun a E=>wp_ret<|qae<|qag<|qae<|qag<|qae ?_
   cases hF
   exact so (sr ⟨rfl,⟨m0,(.slice none 0 0),le_m0,ok.drop.drop,E.d,rz E rfl,qa9⟩⟩)
  refine wp_skip<|qaa<|sg<|mv E rfl fun a E=>aw E rfl fun a E=>wp_ret<|qag<|qae<|qag<|qae ?_
  obtain ⟨m48,hle,ok,hfz⟩:=(ok.frs 1 rfl).freeze
  have h49:=NRow.froz qoE h28 hle hfz (by decide)
  have le_m0:=le_m0.trans hle
  have hl_0:=(mL qaN).up hle hl_0
  have h9:=(mL qaN).up hle h9
  have at39:=At.up hle at39
  cases hF
  exact so (sr ⟨rfl,⟨m48,c26,le_m0,ok.drop,E.d,rz E rfl,h49⟩⟩)
 refine sg<|lv E ok (qam (cs:=[vs x32.Kind,vs x32.Text,vi x32.From]) qf2 rfl rfl (qac.own 0 rfl rfl)) fun a E=>bd hF fun r50 e51 hF=>lc E qrv rfl (qhQ N _ x32 ⟨rfl,l41,l42,r43⟩ e51 hG ok) fun w ok a E=>aw E rfl fun a E=>cf E rfl hF (fun c52 hF=>?_) fun c52 hF=>?_
 ·refine wp_exit<|qjy rfl<|qap<|qaz<|qaa<|qab<|lw E (qar rfl rfl (InR.inc r30 (qaj h9) c31)) fun a E=>mv E rfl fun a E=>wpList_nil ?_
  cases hF
  exact qan ⟨c26,M27,(ok.pk 2 [1] rfl (by decide)),E.keep [5,6,7,14,15,16],h28,r29,(InR.inc r30 (qaj h9) c31)⟩
 refine sg<|fk E ok qbT qal rfl 0 rfl rfl fun a E=>lw E (qaG rfl rfl) fun a E=>mv E rfl fun a E=>bw E 38 hF (fun c53 hF E=>?_) fun c53 hF E=>?_
 ·as_aux_lemma =>
   refine lsq E fun a E=>pf E rfl rfl fun a E=>aw E rfl fun a E=>c_if E rfl (fun h=>by cases h) (fun _=>?_)
   refine sg<|fk E ok qbT qal rfl 0 rfl rfl fun a E=>lw E (qaG rfl rfl) fun a E=>aw E rfl fun a E=>bd hF fun o147 hJ hF=>qa6 (Q':=fun e a w=>e = .normal ∧ Ok u m0 ([(b44,oc 29 [vs x32.Kind,vs x32.Text,vi x32.From])] :: M27 :: S) w ∧ Env 72 a [(5,c26),(6,vi o147),(9,vp b44),(14,c8),(15,(vi (l6.length:Int))),(16,vi v25)] ∧ InR .i64 o147) ?_ ?_
   ·have hF:=hJ
    refine cf E rfl hF (fun c149 hF=>?_) fun c149 hF=>?_
    ·refine qab<|mv E rfl fun a E=>lw E (qav rfl rfl) fun a E=>av E rfl fun a E=>wpList_nil ?_
     cases hF
     exact ⟨rfl,⟨ok,E.keep [5,6,9,14,15,16],(InR.wrap _ _)⟩⟩
    refine sg<|fk E ok qbT qal rfl 0 rfl rfl fun a E=>lw E (qaG rfl rfl) fun a E=>aw E rfl fun a E=>cg E rfl hF (fun c150 hF=>?_) fun c150 hF=>?_
    ·refine wp_skip ?_
     cases hF
     exact ⟨rfl,⟨ok,E.keep [5,6,9,14,15,16],r29⟩⟩
    refine qab<|mv E rfl fun a E=>lw E (qbo rfl rfl) fun a E=>av E rfl fun a E=>wpList_nil ?_
    cases hF
    exact ⟨rfl,⟨ok,E.keep [5,6,9,14,15,16],(InR.wrap _ _)⟩⟩
   intro e a w hO
   obtain ⟨rfl,ok,E,r151⟩:=hO
   refine qaf<|qaa<|sg<|aw E rfl fun a E=>bd hF fun o152 hJ hF=>qa6 (Q':=fun e a w=>e = .normal ∧ ∃ c153 M154,Ok u m0 ([(b44,oc 29 [vs x32.Kind,vs x32.Text,vi x32.From])] :: M154 :: S) w ∧ Env 72 a [(5,c153),(6,vi o147),(7,vb true),(14,c8),(15,(vi (l6.length:Int))),(16,vi v25)] ∧ NRow 26 1 qcS m0 c153 o152 M154) ?_ ?_
   rotate_left
   ·intro e a w hO
    obtain ⟨rfl,c228,M229,ok,E,h230⟩:=hO
    refine qaf<|qaa<|qab<|lw E (qar rfl rfl (InR.inc r30 (qaj h9) c31)) fun a E=>mv E rfl fun a E=>wpList_nil ?_
    cases hF
    exact qan ⟨c228,M229,(ok.pk 2 [1] rfl (by decide)),E.keep [5,6,7,14,15,16],h230,r151,(InR.inc r30 (qaj h9) c31)⟩
   have hF:=hJ
   obtain ⟨x156,e157,hF⟩:=bnd hF
   obtain ⟨l178,e179,hF⟩:=bnd hF
   obtain ⟨x183,e184,hF⟩:=bnd hF
   obtain rfl:=sj hF
   replace ok:Ok u m0 (M27 :: [(b44,oc 29 [vs x32.Kind,vs x32.Text,vi x32.From])] :: S) w:=(ok.pk 2 [1,0] rfl (by decide))
   obtain ⟨cs195,c196,M197,M198,M199,ok,hr200,hx201,he202,hh203⟩:=NRow.open h28 e157 ok
   obtain ⟨c204,rfl,h205⟩:=he202
   refine qcb [9,10] (Cls u m0 (M197 :: [(b44,oc 29 [vs x32.Kind,vs x32.Text,vi x32.From])] :: [])) (Cls u m0 ([(b44,oc 29 [vs x32.Kind,vs x32.Text,vi x32.From])] :: [])) (by kernel_rfl) ?_
   intro w hw
   replace ok:=qcB ok hw
   clear hw
   refine qay (cl1 (cq le_m0 ok [0,3] rfl) (cq le_m0 ok [3] rfl)) fun hT=>kt 0 E rfl hT (qad rfl) fun a E=>kt 1 E rfl hT (qad rfl) fun a E=>kt 2 E rfl hT (qfw qb7 hr200 hh203 rfl) fun a E=>kt 3 E rfl hT (qbo rfl rfl) fun a E=>kt 4 E rfl hT (qad rfl) fun a E=>kt 5 E rfl hT (qad rfl) fun a E=>kt 6 E rfl hT (qfw qb7 hr200 hh203 rfl) fun a E=>kt 7 E rfl hT (qbo rfl rfl) fun a E=>?_
   obtain ⟨b206,o207,hp208,yy209⟩:=qgF qb7 hr200 hx201 (P:=Tryz.prog) (X:=.tmp 61) (I:=.tmp 64) (kd:=.i64) (qaC E rfl) (qaC E rfl)
   refine kt 8 E rfl hT (yy209 _ _) fun a E=>?_
   obtain ⟨hl210,hh211⟩:=qdK hr200 hx201 hp208 (by decide)
   refine qbk 9 E rfl (by kernel_rfl) nP hT (qah qfV rfl (qac.crow hh211 0 rfl)) rfl rfl fun a E=>qbk 10 E rfl (by kernel_rfl) nP hT (qam (cs:=[vs x32.Kind,vs x32.Text,vi x32.From]) qf2 rfl rfl (qac.cown 1 rfl rfl)) rfl rfl fun a E=>qaZ [11] (by kernel_rfl) rfl (qa1 ?_)
   ·refine wo rfl<|qaT (R:=qaE) (xo:=[.tmp 67]) (xs:=([x32]:List (Token))) E ok qcz qdo rfl ⟨⟨_,rfl,rfl,⟨rfl,l41,l42,r43⟩⟩,trivial⟩ rfl rfl rfl rfl fun c212 M213 a w E ok h214=>wn<|qay (cl1 (cq le_m0 ok [1,4] rfl) (cq le_m0 ok [4] rfl)) fun hT=>qaZ [12] (by kernel_rfl) rfl (qa1 ?_)
    ·refine wo rfl<|qbR (R:=qaE) E ok 2 qaN qcz Tryz.underlying26 rfl h205 (qa3.ofRow h214 0 rfl ok) e179 ⟨_,qdo,rfl⟩ rfl rfl rfl rfl fun c215 M216 a w E ok h217=>wn<|qay (cl1 (cq le_m0 ok [1,4] rfl) (cq le_m0 ok [4] rfl)) fun hT=>?_
     obtain ⟨b218,o219,hp220,yy221⟩:=qgF qb7 hr200 hx201 (P:=Tryz.prog) (X:=.tmp 57) (I:=.tmp 60) (kd:=.i64) (qaC E rfl) (qaC E rfl)
     refine kt 13 E rfl hT (yy221 _ _) fun a E=>qaZ [14] (by kernel_rfl) rfl (qa1 ?_)
     ·refine wo rfl<|qgR (f:=0) (c':=[c215]) E ok 1 rfl hr200 hx201 hp220 rfl rfl rfl qng (ORow.cells h217) rfl rfl ⟨(ORow.one h217),trivial⟩ rfl ⟨(ORow.one h217),trivial⟩ rfl fun M222 w ok hr223 hx224=>?_
      have hh225:=qeu.set (c':=[c215]) hh203
      refine wn<|qay (cl2 (by kernel_rfl) (cq le_m0 ok [4] rfl)) fun hT=>qcl (by kernel_rfl) ?_
      replace ok:Ok u m0 (M222 :: M216 :: M199 :: M213 :: [(b44,oc 29 [vs x32.Kind,vs x32.Text,vi x32.From])] :: S) w:=(ok.pk 5 [1,2,3,0,4] rfl (by decide))
      obtain ⟨M226,ok,h227⟩:=NRow.close e157 ok hr223 hx224 (show qcS m0 [c215] l178 M216 from ⟨_,rfl,h217⟩) hh225
      exact ⟨rfl,⟨c26,M226,(ok.pk 3 [2,0] rfl (by decide)),E.keep [5,6,7,14,15,16],h227⟩⟩
 refine mv E rfl fun a E=>lw E (qa0 rfl rfl) fun a E=>pt E rfl rfl fun a E=>aw E rfl fun a E=>cf E rfl hF (fun c54 hF=>?_) fun c54 hF=>?_
 ·refine sg<|mv E rfl fun a E=>qaT (R:=pRaw) (xo:=[.const (Value.slice none 0 0)]) (xs:=[[(Value.slice none 0 0)]]) E ok qb7 qie rfl ⟨⟨_,rfl,rfl,⟨rfl,⟨rfl,trivial⟩⟩⟩,trivial⟩ rfl rfl rfl rfl fun c55 M56 a w E ok h57=>?_
  replace ok:Ok u m0 (M27 :: M56 :: [(b44,oc 29 [vs x32.Kind,vs x32.Text,vi x32.From])] :: S) w:=(ok.pk 3 [2,0,1] rfl (by decide))
  refine bd hF fun l58 e59 hF=>qnz (R:=qcS) E ok.addnil.swap2 qb7 Tryz.underlying129 h28 (qa3.ofRow h57 1 rfl ok) ⟨_,rfl,ORow.nil⟩ e59 ⟨_,qie,rfl⟩ rfl rfl rfl rfl fun c60 M61 a w E ok h62=>aw E rfl fun a E=>sg<|av E rfl fun a E=>wn<|wp_exit<|qjy rfl<|qap<|qaz<|qaa<|qab<|lw E (qar rfl rfl (InR.inc r30 (qaj h9) c31)) fun a E=>mv E rfl fun a E=>wpList_nil ?_
  cases hF
  exact qan ⟨c60,M61,(ok.pk 3 [0] rfl (by decide)),E.keep [5,6,7,14,15,16],h62,r29,(InR.inc r30 (qaj h9) c31)⟩
 refine sg<|fk E ok qbT qal rfl 0 rfl rfl fun a E=>lw E (qaG rfl rfl) fun a E=>aw E rfl fun a E=>bd hF fun o63 hJ hF=>qa6 (Q':=fun e a w=>e = .normal ∧ Ok u m0 ([(b44,oc 29 [vs x32.Kind,vs x32.Text,vi x32.From])] :: M27 :: S) w ∧ Env 72 a [(5,c26),(6,vi o63),(9,vp b44),(14,c8),(15,(vi (l6.length:Int))),(16,vi v25)] ∧ InR .i64 o63) ?_ ?_
 ·have hF:=hJ
  refine cf E rfl hF (fun c65 hF=>?_) fun c65 hF=>?_
  ·refine qab<|mv E rfl fun a E=>lw E (qav rfl rfl) fun a E=>av E rfl fun a E=>wpList_nil ?_
   cases hF
   exact ⟨rfl,⟨ok,E.keep [5,6,9,14,15,16],(InR.wrap _ _)⟩⟩
  refine sg<|fk E ok qbT qal rfl 0 rfl rfl fun a E=>lw E (qaG rfl rfl) fun a E=>aw E rfl fun a E=>cg E rfl hF (fun c66 hF=>?_) fun c66 hF=>?_
  ·refine wp_skip ?_
   cases hF
   exact ⟨rfl,⟨ok,E.keep [5,6,9,14,15,16],r29⟩⟩
  refine qab<|mv E rfl fun a E=>lw E (qbo rfl rfl) fun a E=>av E rfl fun a E=>wpList_nil ?_
  cases hF
  exact ⟨rfl,⟨ok,E.keep [5,6,9,14,15,16],(InR.wrap _ _)⟩⟩
 intro e a w hO
 obtain ⟨rfl,ok,E,r67⟩:=hO
 refine qaf<|qaa<|sg<|aw E rfl fun a E=>bd hF fun o68 hJ hF=>qa6 (Q':=fun e a w=>e = .normal ∧ ∃ c69 M70,Ok u m0 ([(b44,oc 29 [vs x32.Kind,vs x32.Text,vi x32.From])] :: M70 :: S) w ∧ Env 72 a [(5,c69),(6,vi o63),(7,vb true),(14,c8),(15,(vi (l6.length:Int))),(16,vi v25)] ∧ NRow 26 1 qcS m0 c69 o68 M70) ?_ ?_
 rotate_left
 ·intro e a w hO
  obtain ⟨rfl,c144,M145,ok,E,h146⟩:=hO
  refine qaf<|qaa<|qab<|lw E (qar rfl rfl (InR.inc r30 (qaj h9) c31)) fun a E=>mv E rfl fun a E=>wpList_nil ?_
  cases hF
  exact qan ⟨c144,M145,(ok.pk 2 [1] rfl (by decide)),E.keep [5,6,7,14,15,16],h146,r67,(InR.inc r30 (qaj h9) c31)⟩
 have hF:=hJ
 obtain ⟨x72,e73,hF⟩:=bnd hF
 obtain ⟨l94,e95,hF⟩:=bnd hF
 obtain ⟨x99,e100,hF⟩:=bnd hF
 obtain rfl:=sj hF
 replace ok:Ok u m0 (M27 :: [(b44,oc 29 [vs x32.Kind,vs x32.Text,vi x32.From])] :: S) w:=(ok.pk 2 [1,0] rfl (by decide))
 obtain ⟨cs111,c112,M113,M114,M115,ok,hr116,hx117,he118,hh119⟩:=NRow.open h28 e73 ok
 obtain ⟨c120,rfl,h121⟩:=he118
 refine qcb [9,10] (Cls u m0 (M113 :: [(b44,oc 29 [vs x32.Kind,vs x32.Text,vi x32.From])] :: [])) (Cls u m0 ([(b44,oc 29 [vs x32.Kind,vs x32.Text,vi x32.From])] :: [])) (by kernel_rfl) ?_
 intro w hw
 replace ok:=qcB ok hw
 clear hw
 refine qay (cl1 (cq le_m0 ok [0,3] rfl) (cq le_m0 ok [3] rfl)) fun hT=>kt 0 E rfl hT (qad rfl) fun a E=>kt 1 E rfl hT (qad rfl) fun a E=>kt 2 E rfl hT (qfw qb7 hr116 hh119 rfl) fun a E=>kt 3 E rfl hT (qbo rfl rfl) fun a E=>kt 4 E rfl hT (qad rfl) fun a E=>kt 5 E rfl hT (qad rfl) fun a E=>kt 6 E rfl hT (qfw qb7 hr116 hh119 rfl) fun a E=>kt 7 E rfl hT (qbo rfl rfl) fun a E=>?_
 obtain ⟨b122,o123,hp124,yy125⟩:=qgF qb7 hr116 hx117 (P:=Tryz.prog) (X:=.tmp 61) (I:=.tmp 64) (kd:=.i64) (qaC E rfl) (qaC E rfl)
 refine kt 8 E rfl hT (yy125 _ _) fun a E=>?_
 obtain ⟨hl126,hh127⟩:=qdK hr116 hx117 hp124 (by decide)
 refine qbk 9 E rfl (by kernel_rfl) nP hT (qah qfV rfl (qac.crow hh127 0 rfl)) rfl rfl fun a E=>qbk 10 E rfl (by kernel_rfl) nP hT (qam (cs:=[vs x32.Kind,vs x32.Text,vi x32.From]) qf2 rfl rfl (qac.cown 1 rfl rfl)) rfl rfl fun a E=>qaZ [11] (by kernel_rfl) rfl (qa1 ?_)
 ·refine wo rfl<|qaT (R:=qaE) (xo:=[.tmp 67]) (xs:=([x32]:List (Token))) E ok qcz qdo rfl ⟨⟨_,rfl,rfl,⟨rfl,l41,l42,r43⟩⟩,trivial⟩ rfl rfl rfl rfl fun c128 M129 a w E ok h130=>wn<|qay (cl1 (cq le_m0 ok [1,4] rfl) (cq le_m0 ok [4] rfl)) fun hT=>qaZ [12] (by kernel_rfl) rfl (qa1 ?_)
  ·refine wo rfl<|qbR (R:=qaE) E ok 2 qaN qcz Tryz.underlying26 rfl h121 (qa3.ofRow h130 0 rfl ok) e95 ⟨_,qdo,rfl⟩ rfl rfl rfl rfl fun c131 M132 a w E ok h133=>wn<|qay (cl1 (cq le_m0 ok [1,4] rfl) (cq le_m0 ok [4] rfl)) fun hT=>?_
   obtain ⟨b134,o135,hp136,yy137⟩:=qgF qb7 hr116 hx117 (P:=Tryz.prog) (X:=.tmp 57) (I:=.tmp 60) (kd:=.i64) (qaC E rfl) (qaC E rfl)
   refine kt 13 E rfl hT (yy137 _ _) fun a E=>qaZ [14] (by kernel_rfl) rfl (qa1 ?_)
   ·refine wo rfl<|qgR (f:=0) (c':=[c131]) E ok 1 rfl hr116 hx117 hp136 rfl rfl rfl qng (ORow.cells h133) rfl rfl ⟨(ORow.one h133),trivial⟩ rfl ⟨(ORow.one h133),trivial⟩ rfl fun M138 w ok hr139 hx140=>?_
    have hh141:=qeu.set (c':=[c131]) hh119
    refine wn<|qay (cl2 (by kernel_rfl) (cq le_m0 ok [4] rfl)) fun hT=>qcl (by kernel_rfl) ?_
    replace ok:Ok u m0 (M138 :: M132 :: M115 :: M129 :: [(b44,oc 29 [vs x32.Kind,vs x32.Text,vi x32.From])] :: S) w:=(ok.pk 5 [1,2,3,0,4] rfl (by decide))
    obtain ⟨M142,ok,h143⟩:=NRow.close e73 ok hr139 hx140 (show qcS m0 [c131] l94 M132 from ⟨_,rfl,h133⟩) hh141
    exact ⟨rfl,⟨c26,M142,(ok.pk 3 [2,0] rfl (by decide)),E.keep [5,6,7,14,15,16],h143⟩⟩
def qm9 (u:World) (m0:Mem) (S:Segs) (r:(List UInt8) × Bool) (a:Act) (w:World):Prop :=
 Ok u m0 S w ∧ a.defers = [] ∧ RVs Tryz.prog a w [.t 4 (.string (bs r.1)),.t 5 (.bool r.2)] ∧ r.1.length ≤ LIMS
theorem qjV (N:Nat) (vargs_0:Value) (args_0:List (List (Token))) (hargs_0:(pL 1 (pL 3 qaE)) m0 [vargs_0] args_0) (i_1:Int) (ri_1:InR .i64 i_1) {r:(List UInt8) × Bool} (hF:qeC N args_0 i_1 = some r) (hG:Glob u) (ok:Ok u m0 S w) :
  Calls Tryz.prog 59 [vargs_0,vi i_1].toArray w fun e w'=>(e = .returned (.tuple [(.string (bs r.1)),(.bool r.2)].toArray) ∧ Ok u m0 S w') ∧ r.1.length ≤ LIMS:=by
 unfold qeC at hF
 refine en (qm9 u m0 S) r Tryz.func59 rfl rfl rfl (by rintro a w ⟨ok,hd,hrv,h0⟩; exact qbs [.t 4 (.string (bs r.1)),.t 5 (.bool r.2)] hd rfl hrv ⟨⟨rfl,ok⟩,h0⟩) fun fin a E=>sg<|av E rfl fun a E=>aw E rfl fun a E=>wp_seq<|sg<|mz E rfl rfl fun a E=>lv E ok (qau qb7 hargs_0 rfl) fun a E=>lw E (qa2 rfl rfl) fun a E=>wn<|cf E rfl hF (fun c1 hF=>?_) fun c1 hF=>?_
 ·refine sg<|av E rfl fun a E=>aw E rfl fun a E=>wp_ret<|qae ?_
  exact fin hF ⟨ok,E.d,⟨rv_t E rfl,rv_t E rfl,trivial⟩,(show ([]:List UInt8).length ≤ LIMS by decide)⟩
 refine wp_skip<|qaa<|sg<|mz E rfl rfl fun a E=>?_
 obtain ⟨x2,e3,hF⟩:=bnd hF
 obtain ⟨b4,o5,es6,hl7,rr8,at9,yy10⟩:=ia E 10 11 qb7 hargs_0 e3
 obtain ⟨c11,rfl,h12⟩:=qkd rr8
 refine lv E ok (yy10 _ _) fun a E=>lv E ok (qah qfV rfl (qac.ro at9)) fun a E=>bd hF fun r13 e14 hF=>qas E qv5 rfl (qmv N _ x2 h12 e14 hG ok) rfl rfl ?_
 rintro _ w ⟨⟨rfl,ok⟩,l15⟩
 refine ⟨_,rfl,fun a E=>?_⟩
 refine lw E (qao rfl rfl) fun a E=>lw E (qao rfl rfl) fun a E=>av E rfl fun a E=>aw E rfl fun a E=>wp_ret ?_
 exact fin hF ⟨ok,E.d,⟨rv_t E rfl,rv_t E rfl,trivial⟩,l15⟩
theorem qlj {u:World} {m0:Mem} {S:Segs} {w:World} (N:Nat) (p0_0:List UInt8) (lp0_0:p0_0.length ≤ LIMS) (p1_1:List UInt8) (lp1_1:p1_1.length ≤ LIMS) {r:(List UInt8)} (hF:qeD N p0_0 p1_1 = some r) (hG:Glob u) (ok:Ok u m0 S w) :
 Calls Tryz.prog 83 [vs p0_0,vs p1_1].toArray w fun e w'=>(e = .returned (.string (bs r)) ∧ Ok u m0 S w') ∧ r.length ≤ LIMS:=qoF Tryz.lays162 (by kernel_rfl) p0_0 p1_1 hF lp0_0 ok
theorem qlT {u:World} {m0:Mem} {S:Segs} {w:World} (N:Nat) (p0_0:List UInt8) (lp0_0:p0_0.length ≤ LIMS) (p1_1:List UInt8) (lp1_1:p1_1.length ≤ LIMS) {r:(List UInt8)} (hF:qeW N p0_0 p1_1 = some r) (hG:Glob u) (ok:Ok u m0 S w) :
 Calls Tryz.prog 84 [vs p0_0,vs p1_1].toArray w fun e w'=>(e = .returned (.string (bs r)) ∧ Ok u m0 S w') ∧ r.length ≤ LIMS:=qpq Tryz.lays161 (by kernel_rfl) p0_0 p1_1 hF lp0_0 ok
def qiV (u:World) (m0:Mem) (S:Segs) (r:(List UInt8)) (a:Act) (w:World):Prop :=
 Ok u m0 S w ∧ a.defers = [] ∧ RVs Tryz.prog a w [.t 4 (.string (bs r))] ∧ r.length ≤ LIMS
theorem qiX (N:Nat) (vl_0:Value) (l_0:List (Token)) (hl_0:(pL 3 qaE) m0 [vl_0] l_0) (at_1:Int) (rat_1:InR .i64 at_1) {r:(List UInt8)} (hF:qfv N l_0 at_1 = some r) (hG:Glob u) (ok:Ok u m0 S w) :
  Calls Tryz.prog 58 [vl_0,vi at_1].toArray w fun e w'=>(e = .returned (.string (bs r)) ∧ Ok u m0 S w') ∧ r.length ≤ LIMS:=by
 unfold qfv at hF
 refine en (qiV u m0 S) r Tryz.func58 rfl rfl rfl (fun _ _ h=>rb h rfl) fun fin a E=>sg<|aw E rfl fun a E=>wp_seq<|sg<|mv E rfl fun a E=>lw E (qbo rfl rfl) fun a E=>aw E rfl fun a E=>wp_block<|bd hF fun o2 hL hF=>qax _ (fun (s:Int) a w=>Ok u m0 (S) w ∧ Env 27 a [(0,vl_0),(1,vi s)] ∧ InR .i64 s) (fun (b:(Unit ⊕ ((List UInt8)))) e a w=>(Sum.elim (fun b39=>e = (.exit 0) ∧ Ok u m0 (S) w ∧ Env 27 a []) (fun b40=>e = .ret ∧ qiV u m0 S b40 a w)) b) ?_ ?_ N _ a w hL ⟨ok,E.keep [0,1],(InR.wrap _ _)⟩
 rotate_left
 ·intro e a w _ hO
  rcases o2 with o2 | o2
  rotate_left
  ·obtain ⟨rfl,hret⟩:=hO
   refine qag<|qae ?_
   exact fin hF hret
  have hF:=qaX hF
  obtain ⟨rfl,ok,E⟩:=hO
  refine qaz<|qaa<|sg<|aw E rfl fun a E=>wp_ret ?_
  exact fin hF ⟨ok,E.d,rz E rfl,(show ([]:List UInt8).length ≤ LIMS by decide)⟩
 rintro v4 a w r ⟨ok,E,r5⟩ hF
 replace hF:qcH N l_0 v4 = some r:=hF
 unfold qcH at hF
 refine wp_seq<|sg<|mv E rfl fun a E=>lw E (qa2 rfl rfl) fun a E=>wn<|cg E rfl hF (fun c6 hF=>?_) fun c6 hF=>?_
 ·refine wp_exit<|qap ?_
  cases hF
  exact so (sl ⟨rfl,⟨ok,E.keep []⟩⟩)
 refine wp_skip<|qaa<|wp_seq<|wp_block<|sg<|mz E rfl rfl fun a E=>?_
 obtain ⟨x7,e8,hF⟩:=bnd hF
 obtain ⟨b9,o10,es11,hl12,rr13,at14,yy15⟩:=ia E 11 12 qcz hl_0 e8
 obtain ⟨rfl,l16,l17,r18⟩:=rr13
 refine lv E ok (yy15 _ _) fun a E=>fv E qbT rfl fun a E=>lv E ok (qah qal rfl (qac.ro (At.sub 0 1 at14))) fun a E=>wn<|wp_block<|sg<|lw E (qaG rfl rfl) fun a E=>aw E rfl fun a E=>cf E rfl hF (fun c19 hF=>?_) fun c19 hF=>?_
 ·refine wp_skip<|qaf<|qaf<|qaa<|qab<|mv E rfl fun a E=>lw E (qbo rfl rfl) fun a E=>av E rfl fun a E=>wpList_nil ?_
  cases hF
  exact qan ⟨ok,E.keep [0,1],(InR.wrap _ _)⟩
 refine sg<|lw E (qaG rfl rfl) fun a E=>aw E rfl fun a E=>cg E rfl hF (fun c20 hF=>?_) fun c20 hF=>?_
 ·refine sg<|aw E rfl fun a E=>wp_ret<|qag<|qag<|qae ?_
  cases hF
  exact so (sr ⟨rfl,⟨ok,E.d,rz E rfl,(show ([]:List UInt8).length ≤ LIMS by decide)⟩⟩)
 refine sg<|mz E rfl rfl fun a E=>?_
 obtain ⟨x21,e22,hF⟩:=bnd hF
 obtain ⟨b23,o24,es25,hl26,rr27,at28,yy29⟩:=ia E 20 21 qcz hl_0 e22
 obtain ⟨rfl,l30,l31,r32⟩:=rr27
 refine lv E ok (yy29 _ _) fun a E=>fv E qd8 rfl fun a E=>lv E ok (qah qal rfl (qac.ro (At.sub 1 1 at28))) fun a E=>bd hF fun r33 e34 hF=>qas E qv2 rfl (qlT N x21.Text l31 ([47,35,42,32]) (show ([47,35,42,32]:List UInt8).length ≤ LIMS by decide) e34 hG ok) rfl rfl ?_
 rintro _ w ⟨⟨rfl,ok⟩,l35⟩
 refine ⟨_,rfl,fun a E=>?_⟩
 refine bd hF fun r36 e37 hF=>qas E qwg rfl (qlj N r33 l35 ([32]) (show ([32]:List UInt8).length ≤ LIMS by decide) e37 hG ok) rfl rfl ?_
 rintro _ w ⟨⟨rfl,ok⟩,l38⟩
 refine ⟨_,rfl,fun a E=>?_⟩
 refine aw E rfl fun a E=>wp_ret<|qag<|qag<|qae ?_
 cases hF
 exact so (sr ⟨rfl,⟨ok,E.d,rz E rfl,l38⟩⟩)
def qmz (u:World) (m0:Mem) (S:Segs) (r:Bool) (a:Act) (w:World):Prop :=
 Ok u m0 S w ∧ a.defers = [] ∧ RVs Tryz.prog a w [.t 2 (.bool r)]
theorem qjY (N:Nat) (s_0:List UInt8) (ls_0:s_0.length ≤ LIMS) {r:Bool} (hF:qgS N s_0 = some r) (hG:Glob u) (ok:Ok u m0 S w) :
  Calls Tryz.prog 48 [vs s_0].toArray w fun e w'=>(e = .returned (.bool r) ∧ Ok u m0 S w'):=by
 unfold qgS at hF
 refine en (qmz u m0 S) r Tryz.func48 rfl rfl rfl (fun _ _ h=>ra h rfl) fun fin a E=>sg<|aw E rfl fun a E=>wp_seq<|sg<|mv E rfl fun a E=>lw E (qaA Tryz.underlying9 rfl) fun a E=>mv E rfl fun a E=>wn<|wp_block<|bd hF fun o2 hL hF=>qax _ (fun (s:Int) a w=>Ok u m0 (S) w ∧ Env 28 a [(0,vs s_0),(5,(vi (s_0.length:Int))),(6,vi s)] ∧ InR .i64 s) (fun (b:(Unit ⊕ Bool)) e a w=>(Sum.elim (fun b14=>e = (.exit 0) ∧ Ok u m0 (S) w ∧ Env 28 a [(0,vs s_0)]) (fun b15=>e = .ret ∧ qmz u m0 S b15 a w)) b) ?_ ?_ N _ a w hL ⟨ok,E.keep [0,5,6],(ir 0)⟩
 rotate_left
 ·intro e a w _ hO
  rcases o2 with o2 | o2
  rotate_left
  ·obtain ⟨rfl,hret⟩:=hO
   refine qag<|qae ?_
   exact fin hF hret
  have hF:=qaX hF
  obtain ⟨rfl,ok,E⟩:=hO
  refine qaz<|qaa<|sg<|mv E rfl fun a E=>lw E (qaA Tryz.underlying9 rfl) fun a E=>lw E (qa2 rfl rfl) fun a E=>mv E rfl fun a E=>bu E 23 hF (fun c13 hF E=>?_) fun c13 hF E=>?_
  ·refine mv E rfl fun a E=>lw E (qaA Tryz.underlying9 rfl) fun a E=>lw E (qb2 rfl rfl) fun a E=>pt E rfl rfl fun a E=>aw E rfl fun a E=>wp_ret ?_
   exact fin hF ⟨ok,E.d,rz E rfl⟩
  refine lsq E fun a E=>ls E fun a E=>pf E rfl rfl fun a E=>aw E rfl fun a E=>wp_ret ?_
  exact fin hF ⟨ok,E.d,rz E rfl⟩
 rintro v4 a w r ⟨ok,E,r5⟩ hF
 replace hF:qh2 N s_0 v4 = some r:=hF
 unfold qh2 at hF
 refine sg<|lw E (qat rfl rfl) fun a E=>wn<|wp_seq<|cg E rfl hF (fun c6 hF=>?_) fun c6 hF=>?_
 ·refine wp_exit<|qap ?_
  cases hF
  exact so (sl ⟨rfl,⟨ok,E.keep [0]⟩⟩)
 refine wp_skip<|qaa<|wp_seq<|wp_block<|sg<|mv E rfl fun a E=>av E rfl fun a E=>wn<|sg<|mz E rfl rfl fun a E=>bd hF fun c7 e8 hF=>lv E ok (qaQ Tryz.underlying9 rfl rfl e8) fun a E=>lw E (qat rfl rfl) fun a E=>mv E rfl fun a E=>bu E 13 hF (fun c9 hF E=>?_) fun c9 hF E=>?_
 ·refine lsz E fun a E=>pt E rfl rfl fun a E=>wn<|c_if E rfl (fun _=>?_) (fun h=>by cases h)
  refine sg<|aw E rfl fun a E=>wp_ret<|qag<|qae ?_
  cases hF
  exact so (sr ⟨rfl,⟨ok,E.d,rz E rfl⟩⟩)
 refine mz E rfl rfl fun a E=>bd hF fun c10 e11 hF=>lv E ok (qaQ Tryz.underlying9 rfl rfl e11) fun a E=>lw E (qbN rfl rfl) fun a E=>pf E rfl rfl fun a E=>wn<|cg E rfl hF (fun c12 hF=>?_) fun c12 hF=>?_
 ·refine wp_skip<|qaf<|qaa<|qab<|lw E (qar rfl rfl (InR.inc r5 (InR.len ls_0) c6)) fun a E=>mv E rfl fun a E=>wpList_nil ?_
  cases hF
  exact qan ⟨ok,E.keep [0,5,6],(InR.inc r5 (InR.len ls_0) c6)⟩
 refine sg<|aw E rfl fun a E=>wp_ret<|qag<|qae ?_
 cases hF
 exact so (sr ⟨rfl,⟨ok,E.d,rz E rfl⟩⟩)
def qqk (u:World) (m0:Mem) (S:Segs) (r:(List UInt8) × Bool) (a:Act) (w:World):Prop :=
 Ok u m0 S w ∧ a.defers = [] ∧ RVs Tryz.prog a w [.t 2 (.string (bs r.1)),.t 3 (.bool r.2)] ∧ r.1.length ≤ LIMS
theorem qmD (N:Nat) (vx_0:List Value) (x_0:Item) (hx_0:qbt m0 vx_0 x_0) {r:(List UInt8) × Bool} (hF:qhL N x_0 = some r) (hG:Glob u) (ok:Ok u m0 S w) :
  Calls Tryz.prog 95 [.agg vx_0.toArray].toArray w fun e w'=>(e = .returned (.tuple [(.string (bs r.1)),(.bool r.2)].toArray) ∧ Ok u m0 S w') ∧ r.1.length ≤ LIMS:=by
 obtain ⟨c2,rfl,l1,h3,r4,r5⟩:=hx_0
 unfold qhL at hF
 refine en (qqk u m0 S) r Tryz.func95 rfl rfl rfl (by rintro a w ⟨ok,hd,hrv,h0⟩; exact qbs [.t 2 (.string (bs r.1)),.t 3 (.bool r.2)] hd rfl hrv ⟨⟨rfl,ok⟩,h0⟩) fun fin a E=>sg<|qcC E ok rfl rfl rfl fun b6 a w E ok=>av E rfl fun a E=>aw E rfl fun a E=>wp_seq<|sg<|fk E ok qdM qaJ rfl 0 rfl rfl fun a E=>fk E ok qmI qaJ rfl 0 rfl rfl fun a E=>lv E ok (qjk (ps:=[(0,.tmp 5),(1,.tmp 7)]) (qs:=[(0,[vi x_0.Least]),(1,[vi x_0.Most])]) (cs:=[vi x_0.Least,vi x_0.Most]) qjc qj9 rfl ⟨rfl,rfl,rfl,⟨rfl,rfl,rfl,trivial⟩⟩ rfl) fun a E=>wn<|wp_block<|sg<|lv E ok (qjk (ps:=[(0,.const (vi 1)),(1,.const (vi 1))]) (qs:=[(0,[vi 1]),(1,[vi 1])]) (cs:=[vi 1,vi 1]) qjc qj9 rfl ⟨rfl,rfl,rfl,⟨rfl,rfl,rfl,trivial⟩⟩ rfl) fun a E=>lv E ok (qmZ ql3 (qjT (is:=[0,1]) Tryz.underlying221 qes (by kernel_rfl) rfl (qiH (qb3 qaJ rfl) (qb3 qaJ rfl) (qhE Tryz.underlying3) (qjN (qb3 qaJ rfl) (qb3 qaJ rfl) (qhE Tryz.underlying3)))) rfl rfl) fun a E=>av E rfl fun a E=>wn<|cf E rfl hF (fun c7 hF=>?_) fun c7 hF=>?_
 ·refine sg<|av E rfl fun a E=>aw E rfl fun a E=>wp_ret<|qag<|qae ?_
  exact fin hF ⟨ok.drop,E.d,⟨rv_t E rfl,rv_t E rfl,trivial⟩,(show ([]:List UInt8).length ≤ LIMS by decide)⟩
 refine sg<|lv E ok (qjk (ps:=[(0,.const (vi 0)),(1,.const (vi 1))]) (qs:=[(0,[vi 0]),(1,[vi 1])]) (cs:=[vi 0,vi 1]) qjc qj9 rfl ⟨rfl,rfl,rfl,⟨rfl,rfl,rfl,trivial⟩⟩ rfl) fun a E=>lv E ok (qmZ ql3 (qjT (is:=[0,1]) Tryz.underlying221 qes (by kernel_rfl) rfl (qiH (qb3 qaJ rfl) (qb3 qaJ rfl) (qhE Tryz.underlying3) (qjN (qb3 qaJ rfl) (qb3 qaJ rfl) (qhE Tryz.underlying3)))) rfl rfl) fun a E=>aw E rfl fun a E=>cf E rfl hF (fun c8 hF=>?_) fun c8 hF=>?_
 ·refine sg<|av E rfl fun a E=>aw E rfl fun a E=>wp_ret<|qag<|qae ?_
  exact fin hF ⟨ok.drop,E.d,⟨rv_t E rfl,rv_t E rfl,trivial⟩,(show ([63]:List UInt8).length ≤ LIMS by decide)⟩
 refine sg<|lv E ok (qjk (ps:=[(0,.const (vi 0)),(1,.const (vi (-1)))]) (qs:=[(0,[vi 0]),(1,[(vi (-1))])]) (cs:=[vi 0,(vi (-1))]) qjc qj9 rfl ⟨rfl,rfl,rfl,⟨rfl,rfl,rfl,trivial⟩⟩ rfl) fun a E=>lv E ok (qmZ ql3 (qjT (is:=[0,1]) Tryz.underlying221 qes (by kernel_rfl) rfl (qiH (qb3 qaJ rfl) (qb3 qaJ rfl) (qhE Tryz.underlying3) (qjN (qb3 qaJ rfl) (qb3 qaJ rfl) (qhE Tryz.underlying3)))) rfl rfl) fun a E=>aw E rfl fun a E=>cf E rfl hF (fun c9 hF=>?_) fun c9 hF=>?_
 ·refine sg<|av E rfl fun a E=>aw E rfl fun a E=>wp_ret<|qag<|qae ?_
  exact fin hF ⟨ok.drop,E.d,⟨rv_t E rfl,rv_t E rfl,trivial⟩,(show ([42]:List UInt8).length ≤ LIMS by decide)⟩
 refine sg<|lv E ok (qjk (ps:=[(0,.const (vi 1)),(1,.const (vi (-1)))]) (qs:=[(0,[vi 1]),(1,[(vi (-1))])]) (cs:=[vi 1,(vi (-1))]) qjc qj9 rfl ⟨rfl,rfl,rfl,⟨rfl,rfl,rfl,trivial⟩⟩ rfl) fun a E=>lv E ok (qmZ ql3 (qjT (is:=[0,1]) Tryz.underlying221 qes (by kernel_rfl) rfl (qiH (qb3 qaJ rfl) (qb3 qaJ rfl) (qhE Tryz.underlying3) (qjN (qb3 qaJ rfl) (qb3 qaJ rfl) (qhE Tryz.underlying3)))) rfl rfl) fun a E=>aw E rfl fun a E=>cf E rfl hF (fun c10 hF=>?_) fun c10 hF=>?_
 ·refine sg<|av E rfl fun a E=>aw E rfl fun a E=>wp_ret<|qag<|qae ?_
  exact fin hF ⟨ok.drop,E.d,⟨rv_t E rfl,rv_t E rfl,trivial⟩,(show ([43]:List UInt8).length ≤ LIMS by decide)⟩
 refine wp_skip<|qaf<|qaa<|sg<|av E rfl fun a E=>av E rfl fun a E=>wn<|wp_ret ?_
 exact fin hF ⟨ok.drop,E.d,⟨rv_t E rfl,rv_t E rfl,trivial⟩,(show ([]:List UInt8).length ≤ LIMS by decide)⟩
def qnq (u:World) (m0:Mem) (S:Segs) (r:Bool) (a:Act) (w:World):Prop :=
 Ok u m0 S w ∧ a.defers = [] ∧ RVs Tryz.prog a w [.t 2 (.bool r)]
theorem qnB (N:Nat) (vr_0:List Value) (r_0:Range) (hr_0:qbv m0 vr_0 r_0) {r:Bool} (hF:qht N r_0 = some r) (hG:Glob u) (ok:Ok u m0 S w) :
  Calls Tryz.prog 97 [.agg vr_0.toArray].toArray w fun e w'=>(e = .returned (.bool r) ∧ Ok u m0 S w'):=by
 obtain ⟨rfl,r1,r2⟩:=hr_0
 unfold qht at hF
 refine en (qnq u m0 S) r Tryz.func97 rfl rfl rfl (fun _ _ h=>ra h rfl) fun fin a E=>sg<|qcC E ok rfl rfl rfl fun b3 a w E ok=>aw E rfl fun a E=>sg<|fk E ok qkK qfa rfl 0 rfl rfl fun a E=>fk E ok qkV qfa rfl 0 rfl rfl fun a E=>lw E (qbN rfl rfl) fun a E=>av E rfl fun a E=>wn<|wp_ret ?_
 exact fin hF ⟨ok.drop,E.d,rz E rfl⟩
def qda (u:World) (m0:Mem) (S:Segs) (r:Int) (a:Act) (w:World):Prop :=
 Ok u m0 S w ∧ a.defers = [] ∧ RVs Tryz.prog a w [.t 4 (.int .i64 r)] ∧ InR .i64 r
theorem qfM (N:Nat) (vs_0:Value) (s_0:List (Range)) (hs_0:(pL 2 qbv) m0 [vs_0] s_0) {r:Int} (hF:qbC N s_0 = some r) (hG:Glob u) (ok:Ok u m0 S w) :
  Calls Tryz.prog 122 [vs_0,.func (.func 97) #[] #[]].toArray w fun e w'=>(e = .returned (.int .i64 r) ∧ Ok u m0 S w') ∧ InR .i64 r:=by
 unfold qbC at hF
 refine en (qda u m0 S) r Tryz.func122 rfl rfl rfl (fun _ _ h=>rb h rfl) fun fin a E=>sg<|aw E rfl fun a E=>wp_seq<|sg<|mv E rfl fun a E=>lv E ok (qau qg3 hs_0 rfl) fun a E=>mv E rfl fun a E=>wn<|wp_block<|bd hF fun o2 hL hF=>qax _ (fun (s:Int) a w=>Ok u m0 (S) w ∧ Env 19 a [(0,vs_0),(1,(Value.func (.func 97) #[] #[])),(7,(vi (s_0.length:Int))),(8,vi s)] ∧ InR .i64 s) (fun (b:(Unit ⊕ Int)) e a w=>(Sum.elim (fun b21=>e = (.exit 0) ∧ Ok u m0 (S) w ∧ Env 19 a []) (fun b22=>e = .ret ∧ qda u m0 S b22 a w)) b) ?_ ?_ N _ a w hL ⟨ok,E.keep [0,1,7,8],(ir 0)⟩
 rotate_left
 ·intro e a w _ hO
  rcases o2 with o2 | o2
  rotate_left
  ·obtain ⟨rfl,hret⟩:=hO
   refine qag<|qae ?_
   exact fin hF hret
  have hF:=qaX hF
  obtain ⟨rfl,ok,E⟩:=hO
  refine qaz<|qaa<|sg<|aw E rfl fun a E=>wp_ret ?_
  exact fin hF ⟨ok,E.d,rz E rfl,(ir (-1))⟩
 rintro v4 a w r ⟨ok,E,r5⟩ hF
 replace hF:qa4 N s_0 v4 = some r:=hF
 unfold qa4 at hF
 refine sg<|lw E (qat rfl rfl) fun a E=>wn<|wp_seq<|cg E rfl hF (fun c6 hF=>?_) fun c6 hF=>?_
 ·refine wp_exit<|qap ?_
  cases hF
  exact so (sl ⟨rfl,⟨ok,E.keep []⟩⟩)
 refine wp_skip<|qaa<|wp_seq<|wp_block<|sg<|mv E rfl fun a E=>av E rfl fun a E=>wn<|sg<|mz E rfl rfl fun a E=>mv E rfl fun a E=>?_
 obtain ⟨x7,e8,hF⟩:=bnd hF
 obtain ⟨b9,o10,es11,hl12,rr13,at14,yy15⟩:=ia E 12 13 qg3 hs_0 e8
 obtain ⟨rfl,r16,r17⟩:=rr13
 refine lv E ok (yy15 _ _) fun a E=>lv E ok (qam (cs:=[(Value.int .u8 x7.From),(Value.int .u8 x7.To)]) qnQ rfl rfl (qac.ro at14)) fun a E=>bd hF fun r18 e19 hF=>qqX E rfl qv4 rfl (qnB N _ x7 ⟨rfl,r16,r17⟩ e19 hG ok) rfl rfl ?_
 rintro _ w ⟨rfl,ok⟩
 refine ⟨_,rfl,fun a E=>?_⟩
 refine wn<|cg E rfl hF (fun c20 hF=>?_) fun c20 hF=>?_
 ·refine wp_skip<|qaf<|qaa<|qab<|lw E (qar rfl rfl (InR.inc r5 (qaj hs_0) c6)) fun a E=>mv E rfl fun a E=>wpList_nil ?_
  cases hF
  exact qan ⟨ok,E.keep [0,1,7,8],(InR.inc r5 (qaj hs_0) c6)⟩
 refine sg<|mv E rfl fun a E=>aw E rfl fun a E=>wp_ret<|qag<|qae ?_
 cases hF
 exact so (sr ⟨rfl,⟨ok,E.d,rz E rfl,r5⟩⟩)
def qff (u:World) (m0:Mem) (S:Segs) (r:Bool) (a:Act) (w:World):Prop :=
 Ok u m0 S w ∧ a.defers = [] ∧ RVs Tryz.prog a w [.t 4 (.bool r)]
theorem qfg (N:Nat) (vs_0:Value) (s_0:List (Range)) (hs_0:(pL 2 qbv) m0 [vs_0] s_0) {r:Bool} (hF:qbd N s_0 = some r) (hG:Glob u) (ok:Ok u m0 S w) :
  Calls Tryz.prog 96 [vs_0,.func (.func 97) #[] #[]].toArray w fun e w'=>(e = .returned (.bool r) ∧ Ok u m0 S w'):=by
 unfold qbd at hF
 refine en (qff u m0 S) r Tryz.func96 rfl rfl rfl (fun _ _ h=>ra h rfl) fun fin a E=>sg<|aw E rfl fun a E=>sg<|mz E rfl rfl fun a E=>bd hF fun r1 e2 hF=>qas E qsr rfl (qfM N _ s_0 hs_0 e2 hG ok) rfl rfl ?_
 rintro _ w ⟨⟨rfl,ok⟩,r3⟩
 refine ⟨_,rfl,fun a E=>?_⟩
 refine lw E (qa2 rfl rfl) fun a E=>aw E rfl fun a E=>wp_ret ?_
 exact fin hF ⟨ok,E.d,rz E rfl⟩
def qoB (u:World) (m0:Mem) (S:Segs) (r:Bool) (a:Act) (w:World):Prop :=
 Ok u m0 S w ∧ a.defers = [] ∧ RVs Tryz.prog a w [.t 2 (.bool r)]
theorem qoD (N:Nat) (vx_0:List Value) (x_0:Item) (hx_0:qbt m0 vx_0 x_0) {r:Bool} (hF:qho N x_0 = some r) (hG:Glob u) (ok:Ok u m0 S w) :
  Calls Tryz.prog 79 [.agg vx_0.toArray].toArray w fun e w'=>(e = .returned (.bool r) ∧ Ok u m0 S w'):=by
 obtain ⟨c2,rfl,l1,h3,r4,r5⟩:=hx_0
 unfold qho at hF
 refine en (qoB u m0 S) r Tryz.func79 rfl rfl rfl (fun _ _ h=>ra h rfl) fun fin a E=>sg<|qcC E ok rfl rfl rfl fun b6 a w E ok=>aw E rfl fun a E=>wp_seq<|sg<|lv E ok (qam (cs:=[vs x_0.Text,c2,vb x_0.Not,vi x_0.Least,vi x_0.Most]) qfX rfl rfl (qac.own 0 rfl rfl)) fun a E=>bd hF fun r7 e8 hF=>qas E qtC rfl (qmD N _ x_0 ⟨_,rfl,l1,h3,r4,r5⟩ e8 hG ok) rfl rfl ?_
 rintro _ w ⟨⟨rfl,ok⟩,l9⟩
 refine ⟨_,rfl,fun a E=>?_⟩
 refine mv E rfl fun a E=>lw E (qao rfl rfl) fun a E=>lw E (qao rfl rfl) fun a E=>av E rfl fun a E=>aw E rfl fun a E=>sg<|mv E rfl fun a E=>lw E (qbj rfl) fun a E=>wn<|cf E rfl hF (fun c10 hF=>?_) fun c10 hF=>?_
 ·refine sg<|aw E rfl fun a E=>wp_ret<|qae ?_
  exact fin hF ⟨ok.drop,E.d,rz E rfl⟩
 refine wp_skip<|qaa<|wp_seq<|sg<|fk E ok qcV qal rfl 0 rfl rfl fun a E=>lw E (qbn rfl rfl) fun a E=>wn<|cf E rfl hF (fun c11 hF=>?_) fun c11 hF=>?_
 ·refine sg<|fk E ok qcV qal rfl 0 rfl rfl fun a E=>lw E (qaA Tryz.underlying9 rfl) fun a E=>lw E (qb2 rfl rfl) fun a E=>mv E rfl fun a E=>bw E 19 hF (fun c12 hF E=>?_) fun c12 hF E=>?_
  ·refine lsz E fun a E=>pf E rfl rfl fun a E=>mv E rfl fun a E=>lsq E fun a E=>ls E fun a E=>pf E rfl rfl fun a E=>aw E rfl fun a E=>wp_ret<|qae ?_
   exact fin hF ⟨ok.drop,E.d,rz E rfl⟩
  refine fk E ok qg1 qif rfl 0 rfl rfl fun a E=>lv E ok (qau qg3 h3 rfl) fun a E=>lw E (qa0 rfl rfl) fun a E=>pt E rfl rfl fun a E=>mv E rfl fun a E=>bu E 25 hF (fun c13 hF E=>?_) fun c13 hF E=>?_
  ·refine fk E ok qmX qhb rfl 0 rfl rfl fun a E=>lw E (qbj rfl) fun a E=>pt E rfl rfl fun a E=>aw E rfl fun a E=>wp_ret<|qae ?_
   exact fin hF ⟨ok.drop,E.d,rz E rfl⟩
  refine lsq E fun a E=>ls E fun a E=>pf E rfl rfl fun a E=>aw E rfl fun a E=>wp_ret<|qae ?_
  exact fin hF ⟨ok.drop,E.d,rz E rfl⟩
 refine wp_skip<|qaa<|sg<|fk E ok qg1 qif rfl 0 rfl rfl fun a E=>lv E ok (qau qg3 h3 rfl) fun a E=>lw E (qa2 rfl rfl) fun a E=>mv E rfl fun a E=>bw E 34 hF (fun c14 hF E=>?_) fun c14 hF E=>?_
 ·refine lsz E fun a E=>pf E rfl rfl fun a E=>mv E rfl fun a E=>lsz E fun a E=>pf E rfl rfl fun a E=>aw E rfl fun a E=>wp_ret ?_
  exact fin hF ⟨ok.drop,E.d,rz E rfl⟩
 refine fk E ok qg1 qif rfl 0 rfl rfl fun a E=>lv E ok (qau qg3 h3 rfl) fun a E=>lw E (qb2 rfl rfl) fun a E=>pt E rfl rfl fun a E=>mv E rfl fun a E=>bw E 40 hF (fun c15 hF E=>?_) fun c15 hF E=>?_
 ·refine lsz E fun a E=>pf E rfl rfl fun a E=>aw E rfl fun a E=>wp_ret ?_
  exact fin hF ⟨ok.drop,E.d,rz E rfl⟩
 refine fk E ok qg1 qif rfl 0 rfl rfl fun a E=>bd hF fun r16 e17 hF=>lc E qtv rfl (qfg N _ x_0.Ranges h3 e17 hG ok) fun w ok a E=>lw E (qbj rfl) fun a E=>pt E rfl rfl fun a E=>aw E rfl fun a E=>wp_ret ?_
 exact fin hF ⟨ok.drop,E.d,rz E rfl⟩
def qnM (u:World) (m0:Mem) (S:Segs) (r:Bool) (a:Act) (w:World):Prop :=
 Ok u m0 S w ∧ a.defers = [] ∧ RVs Tryz.prog a w [.t 2 (.bool r)]
theorem qn9 (N:Nat) (vx_0:List Value) (x_0:Item) (hx_0:qbt m0 vx_0 x_0) {r:Bool} (hF:qhZ N x_0 = some r) (hG:Glob u) (ok:Ok u m0 S w) :
  Calls Tryz.prog 78 [.agg vx_0.toArray].toArray w fun e w'=>(e = .returned (.bool r) ∧ Ok u m0 S w'):=by
 obtain ⟨c2,rfl,l1,h3,r4,r5⟩:=hx_0
 unfold qhZ at hF
 refine en (qnM u m0 S) r Tryz.func78 rfl rfl rfl (fun _ _ h=>ra h rfl) fun fin a E=>sg<|qcC E ok rfl rfl rfl fun b6 a w E ok=>aw E rfl fun a E=>sg<|lv E ok (qam (cs:=[vs x_0.Text,c2,vb x_0.Not,vi x_0.Least,vi x_0.Most]) qfX rfl rfl (qac.own 0 rfl rfl)) fun a E=>bd hF fun r7 e8 hF=>lc E qvR rfl (qoD N _ x_0 ⟨_,rfl,l1,h3,r4,r5⟩ e8 hG ok) fun w ok a E=>lw E (qbj rfl) fun a E=>aw E rfl fun a E=>wp_ret ?_
 exact fin hF ⟨ok.drop,E.d,rz E rfl⟩
def qdu (u:World) (m0:Mem) (S:Segs) (r:Int) (a:Act) (w:World):Prop :=
 Ok u m0 S w ∧ a.defers = [] ∧ RVs Tryz.prog a w [.t 4 (.int .i64 r)] ∧ InR .i64 r
theorem qf1 (N:Nat) (vs_0:Value) (s_0:List (Item)) (hs_0:(pL 5 qbt) m0 [vs_0] s_0) {r:Int} (hF:qbK N s_0 = some r) (hG:Glob u) (ok:Ok u m0 S w) :
  Calls Tryz.prog 94 [vs_0,.func (.func 78) #[] #[]].toArray w fun e w'=>(e = .returned (.int .i64 r) ∧ Ok u m0 S w') ∧ InR .i64 r:=by
 unfold qbK at hF
 refine en (qdu u m0 S) r Tryz.func94 rfl rfl rfl (fun _ _ h=>rb h rfl) fun fin a E=>sg<|aw E rfl fun a E=>wp_seq<|sg<|mv E rfl fun a E=>lv E ok (qau qeZ hs_0 rfl) fun a E=>mv E rfl fun a E=>wn<|wp_block<|bd hF fun o2 hL hF=>qax _ (fun (s:Int) a w=>Ok u m0 (S) w ∧ Env 19 a [(0,vs_0),(1,(Value.func (.func 78) #[] #[])),(7,(vi (s_0.length:Int))),(8,vi s)] ∧ InR .i64 s) (fun (b:(Unit ⊕ Int)) e a w=>(Sum.elim (fun b24=>e = (.exit 0) ∧ Ok u m0 (S) w ∧ Env 19 a []) (fun b25=>e = .ret ∧ qdu u m0 S b25 a w)) b) ?_ ?_ N _ a w hL ⟨ok,E.keep [0,1,7,8],(ir 0)⟩
 rotate_left
 ·intro e a w _ hO
  rcases o2 with o2 | o2
  rotate_left
  ·obtain ⟨rfl,hret⟩:=hO
   refine qag<|qae ?_
   exact fin hF hret
  have hF:=qaX hF
  obtain ⟨rfl,ok,E⟩:=hO
  refine qaz<|qaa<|sg<|aw E rfl fun a E=>wp_ret ?_
  exact fin hF ⟨ok,E.d,rz E rfl,(ir (-1))⟩
 rintro v4 a w r ⟨ok,E,r5⟩ hF
 replace hF:qa5 N s_0 v4 = some r:=hF
 unfold qa5 at hF
 refine sg<|lw E (qat rfl rfl) fun a E=>wn<|wp_seq<|cg E rfl hF (fun c6 hF=>?_) fun c6 hF=>?_
 ·refine wp_exit<|qap ?_
  cases hF
  exact so (sl ⟨rfl,⟨ok,E.keep []⟩⟩)
 refine wp_skip<|qaa<|wp_seq<|wp_block<|sg<|mv E rfl fun a E=>av E rfl fun a E=>wn<|sg<|mz E rfl rfl fun a E=>mv E rfl fun a E=>?_
 obtain ⟨x7,e8,hF⟩:=bnd hF
 obtain ⟨b9,o10,es11,hl12,rr13,at14,yy15⟩:=ia E 12 13 qeZ hs_0 e8
 obtain ⟨c17,rfl,l16,h18,r19,r20⟩:=rr13
 refine lv E ok (yy15 _ _) fun a E=>lv E ok (qam (cs:=[vs x7.Text,c17,vb x7.Not,vi x7.Least,vi x7.Most]) qfX rfl rfl (qac.ro at14)) fun a E=>bd hF fun r21 e22 hF=>qqX E rfl qwc rfl (qn9 N _ x7 ⟨_,rfl,l16,h18,r19,r20⟩ e22 hG ok) rfl rfl ?_
 rintro _ w ⟨rfl,ok⟩
 refine ⟨_,rfl,fun a E=>?_⟩
 refine wn<|cg E rfl hF (fun c23 hF=>?_) fun c23 hF=>?_
 ·refine wp_skip<|qaf<|qaa<|qab<|lw E (qar rfl rfl (InR.inc r5 (qaj hs_0) c6)) fun a E=>mv E rfl fun a E=>wpList_nil ?_
  cases hF
  exact qan ⟨ok,E.keep [0,1,7,8],(InR.inc r5 (qaj hs_0) c6)⟩
 refine sg<|mv E rfl fun a E=>aw E rfl fun a E=>wp_ret<|qag<|qae ?_
 cases hF
 exact so (sr ⟨rfl,⟨ok,E.d,rz E rfl,r5⟩⟩)
def qfE (u:World) (m0:Mem) (S:Segs) (r:Bool) (a:Act) (w:World):Prop :=
 Ok u m0 S w ∧ a.defers = [] ∧ RVs Tryz.prog a w [.t 4 (.bool r)]
theorem qc0 (N:Nat) (vs_0:Value) (s_0:List (Item)) (hs_0:(pL 5 qbt) m0 [vs_0] s_0) {r:Bool} (hF:qaP N s_0 = some r) (hG:Glob u) (ok:Ok u m0 S w) :
  Calls Tryz.prog 77 [vs_0,.func (.func 78) #[] #[]].toArray w fun e w'=>(e = .returned (.bool r) ∧ Ok u m0 S w'):=by
 unfold qaP at hF
 refine en (qfE u m0 S) r Tryz.func77 rfl rfl rfl (fun _ _ h=>ra h rfl) fun fin a E=>sg<|aw E rfl fun a E=>sg<|mz E rfl rfl fun a E=>bd hF fun r1 e2 hF=>qas E qvP rfl (qf1 N _ s_0 hs_0 e2 hG ok) rfl rfl ?_
 rintro _ w ⟨⟨rfl,ok⟩,r3⟩
 refine ⟨_,rfl,fun a E=>?_⟩
 refine lw E (qa2 rfl rfl) fun a E=>aw E rfl fun a E=>wp_ret ?_
 exact fin hF ⟨ok,E.d,rz E rfl⟩
def qpW (u:World) (m0:Mem) (S:Segs) (r:Bool) (a:Act) (w:World):Prop :=
 Ok u m0 S w ∧ a.defers = [] ∧ RVs Tryz.prog a w [.t 2 (.bool r)]
theorem qpH (N:Nat) (vr_0:List Value) (r_0:Rule) (hr_0:qdC m0 vr_0 r_0) {r:Bool} (hF:qhO N r_0 = some r) (hG:Glob u) (ok:Ok u m0 S w) :
  Calls Tryz.prog 49 [.agg vr_0.toArray].toArray w fun e w'=>(e = .returned (.bool r) ∧ Ok u m0 S w'):=by
 obtain ⟨c2,rfl,l1,h3,l4⟩:=hr_0
 unfold qhO at hF
 refine en (qpW u m0 S) r Tryz.func49 rfl rfl rfl (fun _ _ h=>ra h rfl) fun fin a E=>sg<|qcC E ok rfl rfl rfl fun b5 a w E ok=>aw E rfl fun a E=>sg<|fk E ok qmK qal rfl 0 rfl rfl fun a E=>bd hF fun r6 e7 hF=>lc E qrp rfl (qjY N r_0.Kind l1 e7 hG ok) fun w ok a E=>mv E rfl fun a E=>qc8 r6 (fun c8=>?_) (fun c8=>?_)
 rotate_left
 ·have hF:=qbV c8 hF
  have E:=E.upd 6 c8 rfl
  refine lsz E fun a E=>lsz E fun a E=>pf E rfl rfl fun a E=>mv E rfl fun a E=>lsz E fun a E=>pf E rfl rfl fun a E=>mv E rfl fun a E=>lsz E fun a E=>pf E rfl rfl fun a E=>mv E rfl fun a E=>lsq E fun a E=>?_
  refine lsq E fun a E=>pf E rfl rfl fun a E=>aw E rfl fun a E=>wp_ret ?_
  exact fin hF ⟨ok.drop,E.d,rz E rfl⟩
 have hF:=qbW c8 hF
 have E:=E.upd 6 c8 rfl
 refine fk E ok qg2 qal rfl 0 rfl rfl fun a E=>lw E (qaG rfl rfl) fun a E=>mv E rfl fun a E=>bu E 10 hF (fun c9 hF E=>?_) fun c9 hF E=>?_
 ·refine lsq E fun a E=>ls E fun a E=>pt E rfl rfl fun a E=>pt E rfl rfl fun a E=>mv E rfl fun a E=>fk E ok qf7 qha rfl 0 rfl rfl fun a E=>lv E ok (qau qeZ h3 rfl) fun a E=>lw E (qa2 rfl rfl) fun a E=>pt E rfl rfl fun a E=>mv E rfl fun a E=>bw E 22 hF (fun c10 hF E=>?_) fun c10 hF E=>?_
  ·refine lsz E fun a E=>pf E rfl rfl fun a E=>mv E rfl fun a E=>lsz E fun a E=>pf E rfl rfl fun a E=>aw E rfl fun a E=>wp_ret ?_
   exact fin hF ⟨ok.drop,E.d,rz E rfl⟩
  refine fk E ok qf7 qha rfl 0 rfl rfl fun a E=>lv E ok (qau qeZ h3 rfl) fun a E=>lw E (qb2 rfl rfl) fun a E=>pt E rfl rfl fun a E=>mv E rfl fun a E=>bw E 28 hF (fun c11 hF E=>?_) fun c11 hF E=>?_
  ·refine lsz E fun a E=>pf E rfl rfl fun a E=>aw E rfl fun a E=>wp_ret ?_
   exact fin hF ⟨ok.drop,E.d,rz E rfl⟩
  refine fk E ok qf7 qha rfl 0 rfl rfl fun a E=>bd hF fun r12 e13 hF=>lc E qtq rfl (qc0 N _ r_0.Items h3 e13 hG ok) fun w ok a E=>lw E (qbj rfl) fun a E=>pt E rfl rfl fun a E=>aw E rfl fun a E=>wp_ret ?_
  exact fin hF ⟨ok.drop,E.d,rz E rfl⟩
 refine fk E ok qg2 qal rfl 0 rfl rfl fun a E=>bd hF fun r14 e15 hF=>lc E qrp rfl (qjY N r_0.Next l4 e15 hG ok) fun w ok a E=>pf E rfl rfl fun a E=>pt E rfl rfl fun a E=>mv E rfl fun a E=>qc8 r14 (fun c16=>?_) (fun c16=>?_)
 rotate_left
 ·have hF:=qbV c16 hF
  have E:=E.upd 16 c16 rfl
  refine lsz E fun a E=>pf E rfl rfl fun a E=>mv E rfl fun a E=>lsz E fun a E=>pf E rfl rfl fun a E=>mv E rfl fun a E=>lsz E fun a E=>pf E rfl rfl fun a E=>aw E rfl fun a E=>wp_ret ?_
  exact fin hF ⟨ok.drop,E.d,rz E rfl⟩
 have hF:=qbW c16 hF
 have E:=E.upd 16 c16 rfl
 refine fk E ok qf7 qha rfl 0 rfl rfl fun a E=>lv E ok (qau qeZ h3 rfl) fun a E=>lw E (qa2 rfl rfl) fun a E=>pt E rfl rfl fun a E=>mv E rfl fun a E=>bw E 22 hF (fun c17 hF E=>?_) fun c17 hF E=>?_
 ·refine lsz E fun a E=>pf E rfl rfl fun a E=>mv E rfl fun a E=>lsz E fun a E=>pf E rfl rfl fun a E=>aw E rfl fun a E=>wp_ret ?_
  exact fin hF ⟨ok.drop,E.d,rz E rfl⟩
 refine fk E ok qf7 qha rfl 0 rfl rfl fun a E=>lv E ok (qau qeZ h3 rfl) fun a E=>lw E (qb2 rfl rfl) fun a E=>pt E rfl rfl fun a E=>mv E rfl fun a E=>bw E 28 hF (fun c18 hF E=>?_) fun c18 hF E=>?_
 ·refine lsz E fun a E=>pf E rfl rfl fun a E=>aw E rfl fun a E=>wp_ret ?_
  exact fin hF ⟨ok.drop,E.d,rz E rfl⟩
 refine fk E ok qf7 qha rfl 0 rfl rfl fun a E=>bd hF fun r19 e20 hF=>lc E qtq rfl (qc0 N _ r_0.Items h3 e20 hG ok) fun w ok a E=>lw E (qbj rfl) fun a E=>pt E rfl rfl fun a E=>aw E rfl fun a E=>wp_ret ?_
 exact fin hF ⟨ok.drop,E.d,rz E rfl⟩
def qq8 (u:World) (m0:Mem) (S:Segs) (r:(List UInt8)) (a:Act) (w:World):Prop :=
 Ok u m0 S w ∧ a.defers = [] ∧ RVs Tryz.prog a w [.t 2 (.string (bs r))] ∧ r.length ≤ LIMS
theorem qi3 (N:Nat) (c_0:Int) (rc_0:InR .u8 c_0) {r:(List UInt8)} (hF:qil N c_0 = some r) (hG:Glob u) (ok:Ok u m0 S w) :
  Calls Tryz.prog 141 [Value.int .u8 c_0].toArray w fun e w'=>(e = .returned (.string (bs r)) ∧ Ok u m0 S w') ∧ r.length ≤ LIMS:=by
 have le_m0:=Mem.le.refl m0
 unfold qil at hF
 refine en (qq8 u m0 S) r Tryz.func141 rfl rfl rfl (fun _ _ h=>rb h rfl) fun fin a E=>sg<|aw E rfl fun a E=>wp_seq<|bd hF fun o1 hJ hF=>qa6 (Q':=fun e a w=>e = .normal ∧ Ok u m0 (S) w ∧ Env 12 a [(2,vs o1)] ∧ o1.length ≤ LIMS) ?_ ?_
 rotate_left
 ·intro e a w hO
  obtain ⟨rfl,ok,E,l17⟩:=hO
  refine qaa<|wp_ret ?_
  exact fin hF ⟨ok,E.d,rz E rfl,l17⟩
 have hF:=hJ
 obtain ⟨c3,e4,hF⟩:=bnd hF
 obtain ⟨q5,e6,hF⟩:=bnd hF
 obtain ⟨c7,e8,hF⟩:=bnd hF
 obtain ⟨s12,e13,hF⟩:=bnd hF
 obtain rfl:=sj hF
 refine qcb [] (Cls u m0 ([])) (Cls u m0 ([])) (by kernel_rfl) ?_
 intro w hw
 replace ok:=qcB ok hw
 clear hw
 refine qay (cl1 (cq le_m0 ok [] rfl) (cq le_m0 ok [] rfl)) fun hT=>kt 0 E rfl hT (qad rfl) fun a E=>kt 1 E rfl hT (qmf rfl rfl (by decide)) fun a E=>kt 2 E rfl hT (qaQ Tryz.underlying9 rfl rfl e4) fun a E=>kt 3 E rfl hT (qad rfl) fun a E=>kt 4 E rfl hT (y_rm rfl rfl e6) fun a E=>kt 5 E rfl hT (qaQ Tryz.underlying9 rfl rfl e8) fun a E=>qaZ [6] (by kernel_rfl) rfl (qa1 ?_)
 ·refine wo rfl<|qaT (R:=(pI .u8)) (xo:=[.tmp 5,.tmp 8]) (xs:=([(c3.toNat:Int),(c7.toNat:Int)]:List (Int))) E ok qhY qg4 rfl ⟨⟨_,rfl,rfl,(qfI (InR.byte c3))⟩,⟨_,rfl,rfl,(qfI (InR.byte c7))⟩,trivial⟩ rfl rfl rfl rfl fun c14 M15 a w E ok h16=>wn<|qay (cl1 (cq le_m0 ok [] rfl) (cq le_m0 ok [] rfl)) fun hT=>qaZ [7] (by kernel_rfl) rfl (qa1 ?_)
  ·refine wo rfl<|lv E ok (qjs Tryz.underlying86 Tryz.underlying5 Tryz.underlying9 rfl (BR.ofRow h16 0 rfl)) fun a E=>wn<|qay (cl1 (cq le_m0 ok [] rfl) (cq le_m0 ok [] rfl)) fun hT=>kt 8 E rfl hT (qaL rfl rfl e13) fun a E=>kt 9 E rfl hT (qaq rfl) fun a E=>qcl (by kernel_rfl) ?_
   exact ⟨rfl,⟨(ok.pk 1 [] rfl (by decide)),E.keep [2],(qaH e13)⟩⟩
def qoG (u:World) (m0:Mem) (S:Segs) (r:(List UInt8)) (a:Act) (w:World):Prop :=
 Ok u m0 S w ∧ a.defers = [] ∧ RVs Tryz.prog a w [.t 2 (.string (bs r))] ∧ r.length ≤ LIMS
theorem qoz (N:Nat) (c_0:Int) (rc_0:InR .u8 c_0) {r:(List UInt8)} (hF:qhq N c_0 = some r) (hG:Glob u) (ok:Ok u m0 S w) :
  Calls Tryz.prog 123 [Value.int .u8 c_0].toArray w fun e w'=>(e = .returned (.string (bs r)) ∧ Ok u m0 S w') ∧ r.length ≤ LIMS:=by
 unfold qhq at hF
 refine en (qoG u m0 S) r Tryz.func123 rfl rfl rfl (fun _ _ h=>rb h rfl) fun fin a E=>sg<|aw E rfl fun a E=>wp_seq<|wp_block<|sg<|mv E rfl fun a E=>lw E (qat rfl rfl) fun a E=>mv E rfl fun a E=>bu E 6 hF (fun c1 hF E=>?_) fun c1 hF E=>?_
 ·refine lsq E fun a E=>pt E rfl rfl fun a E=>aw E rfl fun a E=>c_if E rfl (fun _=>?_) (fun h=>by cases h)
  refine sg<|mv E rfl fun a E=>bd hF fun r2 e3 hF=>qas E qnb rfl (qi3 N c_0 rc_0 e3 hG ok) rfl rfl ?_
  rintro _ w ⟨⟨rfl,ok⟩,l4⟩
  refine ⟨_,rfl,fun a E=>?_⟩
  refine aw E rfl fun a E=>wp_ret<|qag<|qae ?_
  exact fin hF ⟨ok,E.d,rz E rfl,l4⟩
 refine mv E rfl fun a E=>lw E (qbN rfl rfl) fun a E=>pf E rfl rfl fun a E=>aw E rfl fun a E=>cf E rfl hF (fun c5 hF=>?_) fun c5 hF=>?_
 ·refine sg<|mv E rfl fun a E=>bd hF fun r6 e7 hF=>qas E qnb rfl (qi3 N c_0 rc_0 e7 hG ok) rfl rfl ?_
  rintro _ w ⟨⟨rfl,ok⟩,l8⟩
  refine ⟨_,rfl,fun a E=>?_⟩
  refine aw E rfl fun a E=>wp_ret<|qag<|qae ?_
  exact fin hF ⟨ok,E.d,rz E rfl,l8⟩
 refine sg<|mv E rfl fun a E=>lw E (qa0 rfl rfl) fun a E=>mv E rfl fun a E=>bu E 15 hF (fun c9 hF E=>?_) fun c9 hF E=>?_
 ·refine lsq E fun a E=>pt E rfl rfl fun a E=>aw E rfl fun a E=>c_if E rfl (fun _=>?_) (fun h=>by cases h)
  refine sg<|mv E rfl fun a E=>qaT (R:=(pI .u8)) (xo:=[.tmp 19]) (xs:=([c_0]:List (Int))) E ok qhY qg4 rfl ⟨⟨_,rfl,rfl,(qfI rc_0)⟩,trivial⟩ rfl rfl rfl rfl fun c10 M11 a w E ok h12=>lv E ok (qjs Tryz.underlying86 Tryz.underlying5 Tryz.underlying9 rfl (BR.ofRow h12 0 rfl)) fun a E=>bd hF fun s13 e14 hF=>lw E (qaL rfl rfl e14) fun a E=>aw E rfl fun a E=>wp_ret<|qag<|qae ?_
  exact fin hF ⟨ok.drop,E.d,rz E rfl,(qaH e14)⟩
 refine mv E rfl fun a E=>lw E (qa0 rfl rfl) fun a E=>pf E rfl rfl fun a E=>aw E rfl fun a E=>cg E rfl hF (fun c15 hF=>?_) fun c15 hF=>?_
 ·refine wp_skip<|qaf<|qaa<|sg<|mv E rfl fun a E=>qaT (R:=(pI .u8)) (xo:=[.tmp 23]) (xs:=([c_0]:List (Int))) E ok qhY qg4 rfl ⟨⟨_,rfl,rfl,(qfI rc_0)⟩,trivial⟩ rfl rfl rfl rfl fun c21 M22 a w E ok h23=>lv E ok (qjs Tryz.underlying86 Tryz.underlying5 Tryz.underlying9 rfl (BR.ofRow h23 0 rfl)) fun a E=>aw E rfl fun a E=>wp_ret ?_
  exact fin hF ⟨ok.drop,E.d,rz E rfl,(Nat.le_trans (Nat.le_of_eq qgv) h23.form.2)⟩
 refine sg<|mv E rfl fun a E=>qaT (R:=(pI .u8)) (xo:=[.tmp 19]) (xs:=([c_0]:List (Int))) E ok qhY qg4 rfl ⟨⟨_,rfl,rfl,(qfI rc_0)⟩,trivial⟩ rfl rfl rfl rfl fun c16 M17 a w E ok h18=>lv E ok (qjs Tryz.underlying86 Tryz.underlying5 Tryz.underlying9 rfl (BR.ofRow h18 0 rfl)) fun a E=>bd hF fun s19 e20 hF=>lw E (qaL rfl rfl e20) fun a E=>aw E rfl fun a E=>wp_ret<|qag<|qae ?_
 exact fin hF ⟨ok.drop,E.d,rz E rfl,(qaH e20)⟩
def qmM (u:World) (m0:Mem) (S:Segs) (r:(List UInt8)) (a:Act) (w:World):Prop :=
 Ok u m0 S w ∧ a.defers = [] ∧ RVs Tryz.prog a w [.t 2 (.string (bs r))] ∧ r.length ≤ LIMS
theorem qjh (N:Nat) (c_0:Int) (rc_0:InR .u8 c_0) {r:(List UInt8)} (hF:qeS N c_0 = some r) (hG:Glob u) (ok:Ok u m0 S w) :
  Calls Tryz.prog 124 [Value.int .u8 c_0].toArray w fun e w'=>(e = .returned (.string (bs r)) ∧ Ok u m0 S w') ∧ r.length ≤ LIMS:=by
 unfold qeS at hF
 refine en (qmM u m0 S) r Tryz.func124 rfl rfl rfl (fun _ _ h=>rb h rfl) fun fin a E=>sg<|aw E rfl fun a E=>wp_seq<|wp_block<|sg<|mv E rfl fun a E=>lw E (qb2 rfl rfl) fun a E=>mv E rfl fun a E=>bu E 6 hF (fun c1 hF E=>?_) fun c1 hF E=>?_
 ·refine lsq E fun a E=>pt E rfl rfl fun a E=>aw E rfl fun a E=>c_if E rfl (fun _=>?_) (fun h=>by cases h)
  refine sg<|mv E rfl fun a E=>bd hF fun r2 e3 hF=>qas E qnb rfl (qi3 N c_0 rc_0 e3 hG ok) rfl rfl ?_
  rintro _ w ⟨⟨rfl,ok⟩,l4⟩
  refine ⟨_,rfl,fun a E=>?_⟩
  refine aw E rfl fun a E=>wp_ret<|qag<|qae ?_
  exact fin hF ⟨ok,E.d,rz E rfl,l4⟩
 refine mv E rfl fun a E=>lw E (qbN rfl rfl) fun a E=>pf E rfl rfl fun a E=>aw E rfl fun a E=>cf E rfl hF (fun c5 hF=>?_) fun c5 hF=>?_
 ·refine sg<|mv E rfl fun a E=>bd hF fun r6 e7 hF=>qas E qnb rfl (qi3 N c_0 rc_0 e7 hG ok) rfl rfl ?_
  rintro _ w ⟨⟨rfl,ok⟩,l8⟩
  refine ⟨_,rfl,fun a E=>?_⟩
  refine aw E rfl fun a E=>wp_ret<|qag<|qae ?_
  exact fin hF ⟨ok,E.d,rz E rfl,l8⟩
 refine sg<|mv E rfl fun a E=>bd hF fun r9 e10 hF=>qas E qnm rfl (qc4 N ([91,93,94,45,92]) (show ([91,93,94,45,92]:List UInt8).length ≤ LIMS by decide) c_0 rc_0 e10 hG ok) rfl rfl ?_
 rintro _ w ⟨⟨rfl,ok⟩,r11⟩
 refine ⟨_,rfl,fun a E=>?_⟩
 refine lw E (qa2 rfl rfl) fun a E=>aw E rfl fun a E=>cg E rfl hF (fun c12 hF=>?_) fun c12 hF=>?_
 ·refine wp_skip<|qaf<|qaa<|sg<|mv E rfl fun a E=>qaT (R:=(pI .u8)) (xo:=[.tmp 20]) (xs:=([c_0]:List (Int))) E ok qhY qg4 rfl ⟨⟨_,rfl,rfl,(qfI rc_0)⟩,trivial⟩ rfl rfl rfl rfl fun c18 M19 a w E ok h20=>lv E ok (qjs Tryz.underlying86 Tryz.underlying5 Tryz.underlying9 rfl (BR.ofRow h20 0 rfl)) fun a E=>aw E rfl fun a E=>wp_ret ?_
  exact fin hF ⟨ok.drop,E.d,rz E rfl,(Nat.le_trans (Nat.le_of_eq qgv) h20.form.2)⟩
 refine sg<|mv E rfl fun a E=>qaT (R:=(pI .u8)) (xo:=[.tmp 16]) (xs:=([c_0]:List (Int))) E ok qhY qg4 rfl ⟨⟨_,rfl,rfl,(qfI rc_0)⟩,trivial⟩ rfl rfl rfl rfl fun c13 M14 a w E ok h15=>lv E ok (qjs Tryz.underlying86 Tryz.underlying5 Tryz.underlying9 rfl (BR.ofRow h15 0 rfl)) fun a E=>bd hF fun s16 e17 hF=>lw E (qaL rfl rfl e17) fun a E=>aw E rfl fun a E=>wp_ret<|qag<|qae ?_
 exact fin hF ⟨ok.drop,E.d,rz E rfl,(qaH e17)⟩
end Go.Proofs.YtllfckekodcdaaaGreatDoor
namespace Go.Proofs.YtllfckekodcdaaaGreatDoor
open Go.X
variable {u:World} {m0:Mem} {S:Segs} {w:World}
set_option maxHeartbeats 4000000
set_option maxRecDepth 100000
def qqh (u:World) (m0:Mem) (S:Segs) (pb0:Nat) (x0:Builder) (c6:Value) (c8:Value) (M9:List (Nat × Obj)) (r:Builder) (a:Act) (w:World):Prop :=
 ∃ c11 c13 M14,Ok u m0 ([(pb0,oc 88 [c11,c13])] :: M14 :: S) w ∧ a.defers = [] ∧ RVs Tryz.prog a w [] ∧ BAd pb0 c11 ∧ ORow 5 1 (pI .u8) m0 c13 r.buf M14
theorem qqe (N:Nat) (vx_1:List Value) (x_1:Item) (hx_1:qbt m0 vx_1 x_1) {pb0:Nat} {c6:Value} {c8:Value} {M9:List (Nat × Obj)} (x0:Builder) (h7:BAd pb0 c6) (h10:ORow 5 1 (pI .u8) m0 c8 x0.buf M9) {r:Builder} (hF:qix N x_1 x0 = some r) (hG:Glob u) (ok:Ok u m0 ([(pb0,oc 88 [c6,c8])] :: M9 :: S) w) :
  Calls Tryz.prog 98 [vp pb0,.agg vx_1.toArray].toArray w fun e w'=>∃ c11 c13 M14,(e = .returned (.tuple [].toArray) ∧ Ok u m0 ([(pb0,oc 88 [c11,c13])] :: M14 :: S) w') ∧ BAd pb0 c11 ∧ ORow 5 1 (pI .u8) m0 c13 r.buf M14:=by
 obtain ⟨c2,rfl,l1,h3,r4,r5⟩:=hx_1
 unfold qix at hF
 refine en (qqh u m0 S pb0 x0 c6 c8 M9) r Tryz.func98 rfl rfl rfl (by rintro a w ⟨c11,c13,M14,ok,hd,hrv,h0,h1⟩; exact qbs [] hd rfl hrv ⟨c11,c13,M14,⟨rfl,ok⟩,h0,h1⟩) fun fin a E=>sg<|qcC E ok rfl rfl rfl fun b16 a w E ok=>wn<|sg<|lv E ok (qam (cs:=[vs x_1.Text,c2,vb x_1.Not,vi x_1.Least,vi x_1.Most]) qfX rfl rfl (qac.own 0 rfl rfl)) fun a E=>bd hF fun r17 e18 hF=>qas E qtC rfl (qmD N _ x_1 ⟨_,rfl,l1,h3,r4,r5⟩ e18 hG ok) rfl rfl ?_
 rintro _ w ⟨⟨rfl,ok⟩,l19⟩
 refine ⟨_,rfl,fun a E=>?_⟩
 refine mv E rfl fun a E=>lw E (qao rfl rfl) fun a E=>lw E (qao rfl rfl) fun a E=>av E rfl fun a E=>aw E rfl fun a E=>wp_seq<|sg<|fk E ok qcV qal rfl 0 rfl rfl fun a E=>lw E (qbn rfl rfl) fun a E=>wn<|cf E rfl hF (fun c20 hF=>?_) fun c20 hF=>?_
 ·as_aux_lemma =>
   refine sg<|mv E rfl fun a E=>?_
   obtain ⟨r21,e22,hF⟩:=bnd hF
   replace ok:Ok u m0 ([(pb0,oc 88 [c6,c8])] :: M9 :: [(b16,oc 154 [vs x_1.Text,c2,vb x_1.Not,vi x_1.Least,vi x_1.Most])] :: S) w:=(ok.pk 3 [1,2,0] rfl (by decide))
   refine qas E qkJ rfl (qbw N 34 (show InR .u8 (34) by decide) (Builder.mk () x0.buf) h7 h10 e22 hG ok) rfl rfl ?_
   rintro _ w ⟨c23,c25,M26,⟨rfl,ok⟩,h24,h27⟩
   refine ⟨_,rfl,fun a E=>?_⟩
   refine wn<|wp_seq<|sg<|fk E ok qcV qal rfl 2 rfl rfl fun a E=>lw E (qaA Tryz.underlying9 rfl) fun a E=>mv E rfl fun a E=>wn<|wp_block<|bd hF fun o35 hL hF=>qax _ (fun (s:Int × Builder) a w=>∃ c37 c39 M40,Ok u m0 ([(pb0,oc 88 [c37,c39])] :: M40 :: [(b16,oc 154 [vs x_1.Text,c2,vb x_1.Not,vi x_1.Least,vi x_1.Most])] :: S) w ∧ Env 71 a [(0,vp pb0),(3,vp b16),(4,vs r17.1),(21,(vi (x_1.Text.length:Int))),(22,vi s.1)] ∧ InR .i64 s.1 ∧ BAd pb0 c37 ∧ ORow 5 1 (pI .u8) m0 c39 s.2.buf M40) (fun (b:Builder) e a w=>e = (.exit 0) ∧ ∃ c79 c81 M82,Ok u m0 ([(pb0,oc 88 [c79,c81])] :: M82 :: [(b16,oc 154 [vs x_1.Text,c2,vb x_1.Not,vi x_1.Least,vi x_1.Most])] :: S) w ∧ Env 71 a [(0,vp pb0),(4,vs r17.1)] ∧ BAd pb0 c79 ∧ ORow 5 1 (pI .u8) m0 c81 b.buf M82) ?_ ?_ N _ a w hL ⟨c23,c25,M26,ok,E.keep [0,3,4,21,22],(ir 0),h24,h27⟩
   rotate_left
   ·intro e a w _ hO
    obtain ⟨rfl,c64,c66,M67,ok,E,h65,h68⟩:=hO
    refine qaz<|qaa<|sg<|mz E rfl rfl fun a E=>bd hF fun s69 e70 hF=>lw E (qaL rfl rfl e70) fun a E=>bd hF fun r71 e72 hF=>qas E qgD rfl (qaK N s69 (qaH e70) (Builder.mk () o35.buf) h65 h68 e72 hG ok) rfl rfl ?_
    rintro _ w ⟨c74,c76,M77,⟨rfl,ok⟩,r73,h75,h78⟩
    refine ⟨_,rfl,fun a E=>?_⟩
    refine wn<|wp_ret<|qae ?_
    exact fin hF ⟨c74,c76,M77,(ok.pk 3 [0,1] rfl (by decide)),E.d,trivial,h75,h78⟩
   rintro ⟨v42,v43⟩ a w r ⟨c45,c47,M48,ok,E,r44,h46,h49⟩ hF
   replace hF:qgJ N x_1 v42 v43 = some r:=hF
   unfold qgJ at hF
   refine sg<|lw E (qat rfl rfl) fun a E=>wn<|wp_seq<|cg E rfl hF (fun c50 hF=>?_) fun c50 hF=>?_
   ·refine wp_exit<|qap ?_
    cases hF
    exact so (⟨rfl,⟨c45,c47,M48,ok,E.keep [0,4],h46,h49⟩⟩)
   refine wp_skip<|qaa<|wp_seq<|wp_block<|sg<|mv E rfl fun a E=>av E rfl fun a E=>wn<|qab<|mv E rfl fun a E=>fk E ok qcV qal rfl 2 rfl rfl fun a E=>mv E rfl fun a E=>bd hF fun c51 e52 hF=>lv E ok (qaQ Tryz.underlying9 rfl rfl e52) fun a E=>bd hF fun r53 e54 hF=>qas E qvg rfl (qoz N (c51.toNat:Int) (InR.byte c51) e54 hG ok) rfl rfl ?_
   rintro _ w ⟨⟨rfl,ok⟩,l55⟩
   refine ⟨_,rfl,fun a E=>?_⟩
   refine bd hF fun r56 e57 hF=>qas E qgD rfl (qaK N r53 l55 (Builder.mk () v43.buf) h46 h49 e57 hG ok) rfl rfl ?_
   rintro _ w ⟨c59,c61,M62,⟨rfl,ok⟩,r58,h60,h63⟩
   refine ⟨_,rfl,fun a E=>?_⟩
   refine wpList_nil<|qaf<|qaa<|qab<|lw E (qar rfl rfl (InR.inc r44 (InR.len l1) c50)) fun a E=>mv E rfl fun a E=>wpList_nil ?_
   cases hF
   exact qan ⟨c59,c61,M62,ok,E.keep [0,3,4,21,22],(InR.inc r44 (InR.len l1) c50),h60,h63⟩
 refine wp_skip<|qaa<|sg<|mv E rfl fun a E=>?_
 obtain ⟨r84,e85,hF⟩:=bnd hF
 replace ok:Ok u m0 ([(pb0,oc 88 [c6,c8])] :: M9 :: [(b16,oc 154 [vs x_1.Text,c2,vb x_1.Not,vi x_1.Least,vi x_1.Most])] :: S) w:=(ok.pk 3 [1,2,0] rfl (by decide))
 refine qas E qkJ rfl (qbw N 91 (show InR .u8 (91) by decide) (Builder.mk () x0.buf) h7 h10 e85 hG ok) rfl rfl ?_
 rintro _ w ⟨c86,c88,M89,⟨rfl,ok⟩,h87,h90⟩
 refine ⟨_,rfl,fun a E=>?_⟩
 refine wn<|wp_seq<|sg<|fk E ok qmX qhb rfl 2 rfl rfl fun a E=>wn<|bd hF fun o91 hJ hF=>qa6 (Q':=fun e a w=>e = .normal ∧ ∃ c92 c94 M95,Ok u m0 ([(pb0,oc 88 [c92,c94])] :: M95 :: [(b16,oc 154 [vs x_1.Text,c2,vb x_1.Not,vi x_1.Least,vi x_1.Most])] :: S) w ∧ Env 71 a [(0,vp pb0),(3,vp b16),(4,vs r17.1)] ∧ BAd pb0 c92 ∧ ORow 5 1 (pI .u8) m0 c94 o91.buf M95) ?_ ?_
 ·have hF:=hJ
  refine cg E rfl hF (fun c97 hF=>?_) fun c97 hF=>?_
  ·refine wp_skip ?_
   cases hF
   exact ⟨rfl,⟨c86,c88,M89,ok,E.keep [0,3,4],h87,h90⟩⟩
  refine qab<|mv E rfl fun a E=>bd hF fun r98 e99 hF=>qas E qkJ rfl (qbw N 94 (show InR .u8 (94) by decide) (Builder.mk () r84.2.buf) h87 h90 e99 hG ok) rfl rfl ?_
  rintro _ w ⟨c100,c102,M103,⟨rfl,ok⟩,h101,h104⟩
  refine ⟨_,rfl,fun a E=>?_⟩
  refine wpList_nil ?_
  cases hF
  exact ⟨rfl,⟨c100,c102,M103,ok,E.keep [0,3,4],h101,h104⟩⟩
 intro e a w hO
 obtain ⟨rfl,c105,c107,M108,ok,E,h106,h109⟩:=hO
 refine qaa<|wp_seq<|sg<|fk E ok qg1 qif rfl 2 rfl rfl fun a E=>lv E ok (qau qg3 h3 rfl) fun a E=>mv E rfl fun a E=>wn<|wp_block<|bd hF fun o117 hL hF=>qax _ (fun (s:Int × Builder) a w=>∃ c119 c121 M122,Ok u m0 ([(pb0,oc 88 [c119,c121])] :: M122 :: [(b16,oc 154 [vs x_1.Text,c2,vb x_1.Not,vi x_1.Least,vi x_1.Most])] :: S) w ∧ Env 71 a [(0,vp pb0),(4,vs r17.1),(44,c2),(45,(vi (x_1.Ranges.length:Int))),(46,vi s.1)] ∧ InR .i64 s.1 ∧ BAd pb0 c119 ∧ ORow 5 1 (pI .u8) m0 c121 s.2.buf M122) (fun (b:Builder) e a w=>e = (.exit 2) ∧ ∃ c185 c187 M188,Ok u m0 ([(pb0,oc 88 [c185,c187])] :: M188 :: [(b16,oc 154 [vs x_1.Text,c2,vb x_1.Not,vi x_1.Least,vi x_1.Most])] :: S) w ∧ Env 71 a [(0,vp pb0),(4,vs r17.1)] ∧ BAd pb0 c185 ∧ ORow 5 1 (pI .u8) m0 c187 b.buf M188) ?_ ?_ N _ a w hL ⟨c105,c107,M108,ok,E.keep [0,4,44,45,46],(ir 0),h106,h109⟩
 rotate_left
 ·intro e a w _ hO
  obtain ⟨rfl,c170,c172,M173,ok,E,h171,h174⟩:=hO
  refine qaz<|qaa<|qab<|mz E rfl rfl fun a E=>bd hF fun s175 e176 hF=>lw E (qaL rfl rfl e176) fun a E=>bd hF fun r177 e178 hF=>qas E qgD rfl (qaK N s175 (qaH e176) (Builder.mk () o117.buf) h171 h174 e178 hG ok) rfl rfl ?_
  rintro _ w ⟨c180,c182,M183,⟨rfl,ok⟩,r179,h181,h184⟩
  refine ⟨_,rfl,fun a E=>?_⟩
  refine wpList_nil ?_
  exact fin hF ⟨c180,c182,M183,(ok.pk 3 [0,1] rfl (by decide)),E.d,trivial,h181,h184⟩
 rintro ⟨v124,v125⟩ a w r ⟨c127,c129,M130,ok,E,r126,h128,h131⟩ hF
 replace hF:qgV N x_1 v124 v125 = some r:=hF
 unfold qgV at hF
 refine sg<|lw E (qat rfl rfl) fun a E=>wn<|wp_seq<|cg E rfl hF (fun c132 hF=>?_) fun c132 hF=>?_
 ·refine wp_exit<|qap ?_
  cases hF
  exact so (⟨rfl,⟨c127,c129,M130,ok,E.keep [0,4],h128,h131⟩⟩)
 refine wp_skip<|qaa<|wp_seq<|wp_block<|sg ?_
 obtain ⟨x133,e134,hF⟩:=bnd hF
 obtain ⟨b135,o136,es137,hl138,rr139,at140,yy141⟩:=ia E 44 46 qg3 h3 e134
 obtain ⟨rfl,r142,r143⟩:=rr139
 refine lv E ok (yy141 _ _) fun a E=>lv E ok (qam (cs:=[(Value.int .u8 x133.From),(Value.int .u8 x133.To)]) qnQ rfl rfl (qac.ro at140)) fun a E=>qaM E ok qmF rfl rfl fun b144 a w E ok=>qai E ok 0 rfl rfl rfl qua rfl rfl ⟨rfl,rfl,trivial⟩ rfl rfl fun w ok=>wn<|sg<|mv E rfl fun a E=>fk E ok qkK qfa rfl 0 rfl rfl fun a E=>bd hF fun r145 e146 hF=>qas E qsv rfl (qjh N x133.From r142 e146 hG ok) rfl rfl ?_
 rintro _ w ⟨⟨rfl,ok⟩,l147⟩
 refine ⟨_,rfl,fun a E=>?_⟩
 obtain ⟨r148,e149,hF⟩:=bnd hF
 replace ok:Ok u m0 ([(pb0,oc 88 [c127,c129])] :: M130 :: [(b144,oc 156 [(Value.int .u8 x133.From),(Value.int .u8 x133.To)])] :: [(b16,oc 154 [vs x_1.Text,c2,vb x_1.Not,vi x_1.Least,vi x_1.Most])] :: S) w:=(ok.pk 4 [1,2,0,3] rfl (by decide))
 refine qas E qgD rfl (qaK N r145 l147 (Builder.mk () v125.buf) h128 h131 e149 hG ok) rfl rfl ?_
 rintro _ w ⟨c151,c153,M154,⟨rfl,ok⟩,r150,h152,h155⟩
 refine ⟨_,rfl,fun a E=>?_⟩
 refine wn<|sg<|fk E ok qkV qfa rfl 2 rfl rfl fun a E=>fk E ok qkK qfa rfl 2 rfl rfl fun a E=>lw E (qcn rfl rfl) fun a E=>wn<|cg E rfl hF (fun c156 hF=>?_) fun c156 hF=>?_
 ·refine wp_skip<|qaf<|qaa<|qab<|lw E (qar rfl rfl (InR.inc r126 (qaj h3) c132)) fun a E=>mv E rfl fun a E=>wpList_nil ?_
  cases hF
  exact qan ⟨c151,c153,M154,(ok.pk 4 [0,1,3] rfl (by decide)),E.keep [0,4,44,45,46],(InR.inc r126 (qaj h3) c132),h152,h155⟩
 refine qab<|mv E rfl fun a E=>fk E ok qkV qfa rfl 2 rfl rfl fun a E=>bd hF fun r157 e158 hF=>qas E qsv rfl (qjh N x133.To r143 e158 hG ok) rfl rfl ?_
 rintro _ w ⟨⟨rfl,ok⟩,l159⟩
 refine ⟨_,rfl,fun a E=>?_⟩
 refine bd hF fun s160 e161 hF=>lw E (qaL rfl rfl e161) fun a E=>bd hF fun r162 e163 hF=>qas E qgD rfl (qaK N s160 (qaH e161) (Builder.mk () r148.2.2.buf) h152 h155 e163 hG ok) rfl rfl ?_
 rintro _ w ⟨c165,c167,M168,⟨rfl,ok⟩,r164,h166,h169⟩
 refine ⟨_,rfl,fun a E=>?_⟩
 refine wpList_nil<|qaf<|qaa<|qab<|lw E (qar rfl rfl (InR.inc r126 (qaj h3) c132)) fun a E=>mv E rfl fun a E=>wpList_nil ?_
 cases hF
 exact qan ⟨c165,c167,M168,(ok.pk 4 [0,1,3] rfl (by decide)),E.keep [0,4,44,45,46],(InR.inc r126 (qaj h3) c132),h166,h169⟩
def qqr (u:World) (m0:Mem) (S:Segs) (r:(List UInt8)) (a:Act) (w:World):Prop :=
 Ok u m0 S w ∧ a.defers = [] ∧ RVs Tryz.prog a w [.t 2 (.string (bs r))] ∧ r.length ≤ LIMS
theorem qqj (N:Nat) (vr_0:List Value) (r_0:Rule) (hr_0:qdC m0 vr_0 r_0) {r:(List UInt8)} (hF:qiz N r_0 = some r) (hG:Glob u) (ok:Ok u m0 S w) :
  Calls Tryz.prog 80 [.agg vr_0.toArray].toArray w fun e w'=>(e = .returned (.string (bs r)) ∧ Ok u m0 S w') ∧ r.length ≤ LIMS:=by
 obtain ⟨c2,rfl,l1,h3,l4⟩:=hr_0
 unfold qiz at hF
 refine en (qqr u m0 S) r Tryz.func80 rfl rfl rfl (fun _ _ h=>rb h rfl) fun fin a E=>sg<|qcC E ok rfl rfl rfl fun b5 a w E ok=>aw E rfl fun a E=>sg<|qaM E ok qn0 rfl rfl fun b6 a w E ok=>wn<|sg<|fk E ok qmK qal rfl 1 rfl rfl fun a E=>?_
 obtain ⟨M7,ok,h8⟩:=qck (e:=5) (k:=1) (R:=(pI .u8)) ok
 obtain ⟨r9,e10,hF⟩:=bnd hF
 replace ok:Ok u m0 ([(b6,oc 88 [(Value.pointer none),(Value.slice none 0 0)])] :: M7 :: [(b5,oc 118 [vs r_0.Kind,c2,vs r_0.Next])] :: S) w:=(ok.pk 3 [1,0,2] rfl (by decide))
 refine qas E qgD rfl (qaK N r_0.Kind l1 (Builder.mk () ([])) (.inl rfl) h8 e10 hG ok) rfl rfl ?_
 rintro _ w ⟨c12,c14,M15,⟨rfl,ok⟩,r11,h13,h16⟩
 refine ⟨_,rfl,fun a E=>?_⟩
 refine wn<|wp_seq<|sg<|fk E ok qf7 qha rfl 2 rfl rfl fun a E=>lv E ok (qau qeZ h3 rfl) fun a E=>mv E rfl fun a E=>wn<|wp_block<|bd hF fun o24 hL hF=>qax _ (fun (s:Int × Builder) a w=>∃ c26 c28 M29,Ok u m0 ([(b6,oc 88 [c26,c28])] :: M29 :: [(b5,oc 118 [vs r_0.Kind,c2,vs r_0.Next])] :: S) w ∧ Env 28 a [(1,vp b5),(3,vp b6),(10,c2),(11,(vi (r_0.Items.length:Int))),(12,vi s.1)] ∧ InR .i64 s.1 ∧ BAd b6 c26 ∧ ORow 5 1 (pI .u8) m0 c28 s.2.buf M29) (fun (b:Builder) e a w=>e = (.exit 0) ∧ ∃ c87 c89 M90,Ok u m0 ([(b6,oc 88 [c87,c89])] :: M90 :: [(b5,oc 118 [vs r_0.Kind,c2,vs r_0.Next])] :: S) w ∧ Env 28 a [(1,vp b5),(3,vp b6)] ∧ BAd b6 c87 ∧ ORow 5 1 (pI .u8) m0 c89 b.buf M90) ?_ ?_ N _ a w hL ⟨c12,c14,M15,ok,E.keep [1,3,10,11,12],(ir 0),h13,h16⟩
 rotate_left
 ·intro e a w _ hO
  obtain ⟨rfl,c69,c71,M72,ok,E,h70,h73⟩:=hO
  refine qaz<|qaa<|wp_seq<|sg<|fk E ok qg2 qal rfl 2 rfl rfl fun a E=>lw E (qbn rfl rfl) fun a E=>wn<|cg E rfl hF (fun c74 hF=>?_) fun c74 hF=>?_
  ·refine wp_skip<|qaa<|sg<|qas E qoW rfl (qi2 Tryz.lays169 Tryz.Builder_Extra_169 h73 ok) rfl rfl ?_
   rintro _ w ⟨⟨rfl,ok⟩,l86⟩
   refine ⟨_,rfl,fun a E=>?_⟩
   refine aw E rfl fun a E=>wp_ret ?_
   exact fin hF ⟨ok.drop,E.d,rz E rfl,l86⟩
  refine qab<|fk E ok qg2 qal rfl 2 rfl rfl fun a E=>bd hF fun s75 e76 hF=>lw E (qaL rfl rfl e76) fun a E=>bd hF fun r77 e78 hF=>qas E qgD rfl (qaK N s75 (qaH e76) (Builder.mk () o24.buf) h70 h73 e78 hG ok) rfl rfl ?_
  rintro _ w ⟨c80,c82,M83,⟨rfl,ok⟩,r79,h81,h84⟩
  refine ⟨_,rfl,fun a E=>?_⟩
  refine wn<|sg<|qas E qoW rfl (qi2 Tryz.lays169 Tryz.Builder_Extra_169 h84 ok) rfl rfl ?_
  rintro _ w ⟨⟨rfl,ok⟩,l85⟩
  refine ⟨_,rfl,fun a E=>?_⟩
  refine aw E rfl fun a E=>wp_ret ?_
  exact fin hF ⟨ok.drop,E.d,rz E rfl,l85⟩
 rintro ⟨v31,v32⟩ a w r ⟨c34,c36,M37,ok,E,r33,h35,h38⟩ hF
 replace hF:qg5 N r_0 v31 v32 = some r:=hF
 unfold qg5 at hF
 refine sg<|lw E (qat rfl rfl) fun a E=>wn<|wp_seq<|cg E rfl hF (fun c39 hF=>?_) fun c39 hF=>?_
 ·refine wp_exit<|qap ?_
  cases hF
  exact so (⟨rfl,⟨c34,c36,M37,ok,E.keep [1,3],h35,h38⟩⟩)
 refine wp_skip<|qaa<|wp_seq<|wp_block<|sg ?_
 obtain ⟨x40,e41,hF⟩:=bnd hF
 obtain ⟨b42,o43,es44,hl45,rr46,at47,yy48⟩:=ia E 10 12 qeZ h3 e41
 obtain ⟨c50,rfl,l49,h51,r52,r53⟩:=rr46
 refine lv E ok (yy48 _ _) fun a E=>lv E ok (qam (cs:=[vs x40.Text,c50,vb x40.Not,vi x40.Least,vi x40.Most]) qfX rfl rfl (qac.ro at47)) fun a E=>qaM E ok qhC rfl rfl fun b54 a w E ok=>qai E ok 0 rfl rfl rfl qlY rfl rfl ⟨rfl,(qbi h51),rfl,rfl,rfl,trivial⟩ rfl rfl fun w ok=>wn<|sg ?_
 obtain ⟨r55,e56,hF⟩:=bnd hF
 replace ok:Ok u m0 ([(b6,oc 88 [c34,c36])] :: M37 :: [(b54,oc 154 [vs x40.Text,c50,vb x40.Not,vi x40.Least,vi x40.Most])] :: [(b5,oc 118 [vs r_0.Kind,c2,vs r_0.Next])] :: S) w:=(ok.pk 4 [1,2,0,3] rfl (by decide))
 refine qas E qkJ rfl (qbw N 32 (show InR .u8 (32) by decide) (Builder.mk () v32.buf) h35 h38 e56 hG ok) rfl rfl ?_
 rintro _ w ⟨c57,c59,M60,⟨rfl,ok⟩,h58,h61⟩
 refine ⟨_,rfl,fun a E=>?_⟩
 refine wn<|qab<|lv E ok (qam (cs:=[vs x40.Text,c50,vb x40.Not,vi x40.Least,vi x40.Most]) qfX rfl rfl (qac.own 2 rfl rfl)) fun a E=>bd hF fun r62 e63 hF=>qas E qwN rfl (qqe N _ x40 ⟨_,rfl,l49,h51,r52,r53⟩ (Builder.mk () r55.2.buf) h58 h61 e63 hG ok) rfl rfl ?_
 rintro _ w ⟨c64,c66,M67,⟨rfl,ok⟩,h65,h68⟩
 refine ⟨_,rfl,fun a E=>?_⟩
 refine wpList_nil<|qaf<|qaa<|qab<|lw E (qar rfl rfl (InR.inc r33 (qaj h3) c39)) fun a E=>mv E rfl fun a E=>wpList_nil ?_
 cases hF
 exact qan ⟨c64,c66,M67,(ok.pk 4 [0,1,3] rfl (by decide)),E.keep [1,3,10,11,12],(InR.inc r33 (qaj h3) c39),h65,h68⟩
def qqd (u:World) (m0:Mem) (S:Segs) (r:(List UInt8)) (a:Act) (w:World):Prop :=
 Ok u m0 S w ∧ a.defers = [] ∧ RVs Tryz.prog a w [.t 2 (.string (bs r))] ∧ r.length ≤ LIMS
theorem qqf (N:Nat) (vs_0:Value) (s_0:List (State)) (hs_0:(pL 2 qbA) m0 [vs_0] s_0) {r:(List UInt8)} (hF:qiA N s_0 = some r) (hG:Glob u) (ok:Ok u m0 S w) :
  Calls Tryz.prog 50 [vs_0].toArray w fun e w'=>(e = .returned (.string (bs r)) ∧ Ok u m0 S w') ∧ r.length ≤ LIMS:=by
 unfold qiA at hF
 refine en (qqd u m0 S) r Tryz.func50 rfl rfl rfl (fun _ _ h=>rb h rfl) fun fin a E=>sg<|aw E rfl fun a E=>sg<|qaM E ok qn0 rfl rfl fun b1 a w E ok=>wn<|wp_seq<|sg<|mv E rfl fun a E=>lv E ok (qau qg6 hs_0 rfl) fun a E=>mv E rfl fun a E=>wn<|wp_block ?_
 obtain ⟨M9,ok,h10⟩:=qck (e:=5) (k:=1) (R:=(pI .u8)) ok
 refine bd hF fun o11 hL hF=>qax _ (fun (s:Int × Builder) a w=>∃ c13 c15 M16,Ok u m0 (M16 :: [(b1,oc 88 [c13,c15])] :: S) w ∧ Env 33 a [(3,vp b1),(8,vs_0),(9,(vi (s_0.length:Int))),(10,vi s.1)] ∧ InR .i64 s.1 ∧ BAd b1 c13 ∧ ORow 5 1 (pI .u8) m0 c15 s.2.buf M16) (fun (b:Builder) e a w=>e = (.exit 0) ∧ ∃ c118 c120 M121,Ok u m0 (M121 :: [(b1,oc 88 [c118,c120])] :: S) w ∧ Env 33 a [(3,vp b1)] ∧ BAd b1 c118 ∧ ORow 5 1 (pI .u8) m0 c120 b.buf M121) ?_ ?_ N _ a w hL ⟨(Value.pointer none),(Value.slice none 0 0),M9,ok,E.keep [3,8,9,10],(ir 0),(.inl rfl),h10⟩
 rotate_left
 ·intro e a w _ hO
  obtain ⟨rfl,c112,c114,M115,ok,E,h113,h116⟩:=hO
  refine qaz<|qaa<|sg ?_
  replace ok:Ok u m0 ([(b1,oc 88 [c112,c114])] :: M115 :: S) w:=(ok.pk 2 [1,0] rfl (by decide))
  refine qas E qoW rfl (qi2 Tryz.lays169 Tryz.Builder_Extra_169 h116 ok) rfl rfl ?_
  rintro _ w ⟨⟨rfl,ok⟩,l117⟩
  refine ⟨_,rfl,fun a E=>?_⟩
  refine aw E rfl fun a E=>wp_ret ?_
  exact fin hF ⟨ok,E.d,rz E rfl,l117⟩
 rintro ⟨v18,v19⟩ a w r ⟨c21,c23,M24,ok,E,r20,h22,h25⟩ hF
 replace hF:qgY N s_0 v18 v19 = some r:=hF
 unfold qgY at hF
 refine sg<|lw E (qat rfl rfl) fun a E=>wn<|wp_seq<|cg E rfl hF (fun c26 hF=>?_) fun c26 hF=>?_
 ·refine wp_exit<|qap ?_
  cases hF
  exact so (⟨rfl,⟨c21,c23,M24,ok,E.keep [3],h22,h25⟩⟩)
 refine wp_skip<|qaa<|wp_seq<|wp_block<|sg ?_
 obtain ⟨x27,e28,hF⟩:=bnd hF
 obtain ⟨b29,o30,es31,hl32,rr33,at34,yy35⟩:=ia E 8 10 qg6 hs_0 e28
 obtain ⟨c37,rfl,l36,h38⟩:=rr33
 refine lv E ok (yy35 _ _) fun a E=>lv E ok (qam (cs:=[vs x27.Name,c37]) qkk rfl rfl (qac.ro at34)) fun a E=>qaM E ok qgP rfl rfl fun b39 a w E ok=>qai E ok 0 rfl rfl rfl qkc rfl rfl ⟨rfl,(qbi h38),trivial⟩ rfl rfl fun w ok=>wn<|sg<|fk E ok qjq qal rfl 0 rfl rfl fun a E=>bd hF fun s40 e41 hF=>lw E (qaL rfl rfl e41) fun a E=>bd hF fun s42 e43 hF=>lw E (qaL rfl rfl e43) fun a E=>?_
 obtain ⟨r44,e45,hF⟩:=bnd hF
 replace ok:Ok u m0 ([(b1,oc 88 [c21,c23])] :: M24 :: [(b39,oc 111 [vs x27.Name,c37])] :: S) w:=(ok.pk 3 [2,1,0] rfl (by decide))
 refine qas E qgD rfl (qaK N s42 (qaH e43) (Builder.mk () v19.buf) h22 h25 e45 hG ok) rfl rfl ?_
 rintro _ w ⟨c47,c49,M50,⟨rfl,ok⟩,r46,h48,h51⟩
 refine ⟨_,rfl,fun a E=>?_⟩
 refine wn<|sg<|fk E ok qg0 qio rfl 2 rfl rfl fun a E=>lv E ok (qau qgq h38 rfl) fun a E=>mv E rfl fun a E=>wn<|wp_block<|bd hF fun o59 hL hF=>qax _ (fun (s:Int × Builder) a w=>∃ c61 c63 M64,Ok u m0 ([(b1,oc 88 [c61,c63])] :: M64 :: [(b39,oc 111 [vs x27.Name,c37])] :: S) w ∧ Env 33 a [(3,vp b1),(8,vs_0),(9,(vi (s_0.length:Int))),(10,vi v18),(20,c37),(21,(vi (x27.Rules.length:Int))),(22,vi s.1)] ∧ InR .i64 s.1 ∧ BAd b1 c61 ∧ ORow 5 1 (pI .u8) m0 c63 s.2.buf M64) (fun (b:Builder) e a w=>e = (.exit 2) ∧ ∃ c107 c109 M110,Ok u m0 ([(b1,oc 88 [c107,c109])] :: M110 :: [(b39,oc 111 [vs x27.Name,c37])] :: S) w ∧ Env 33 a [(3,vp b1),(8,vs_0),(9,(vi (s_0.length:Int))),(10,vi v18)] ∧ BAd b1 c107 ∧ ORow 5 1 (pI .u8) m0 c109 b.buf M110) ?_ ?_ N _ a w hL ⟨c47,c49,M50,ok,E.keep [3,8,9,10,20,21,22],(ir 0),h48,h51⟩
 rotate_left
 ·intro e a w _ hO
  obtain ⟨rfl,c102,c104,M105,ok,E,h103,h106⟩:=hO
  refine qaz<|qaf<|qaa<|qab<|lw E (qar rfl rfl (InR.inc r20 (qaj hs_0) c26)) fun a E=>mv E rfl fun a E=>wpList_nil ?_
  cases hF
  exact qan ⟨c102,c104,M105,(ok.pk 3 [1,0] rfl (by decide)),E.keep [3,8,9,10],(InR.inc r20 (qaj hs_0) c26),h103,h106⟩
 rintro ⟨v66,v67⟩ a w r ⟨c69,c71,M72,ok,E,r68,h70,h73⟩ hF
 replace hF:qgZ N x27 v66 v67 = some r:=hF
 unfold qgZ at hF
 refine sg<|lw E (qat rfl rfl) fun a E=>wn<|wp_seq<|cg E rfl hF (fun c74 hF=>?_) fun c74 hF=>?_
 ·refine wp_exit<|qap ?_
  cases hF
  exact so (⟨rfl,⟨c69,c71,M72,ok,E.keep [3,8,9,10],h70,h73⟩⟩)
 refine wp_skip<|qaa<|wp_seq<|wp_block<|sg ?_
 obtain ⟨x75,e76,hF⟩:=bnd hF
 obtain ⟨b77,o78,es79,hl80,rr81,at82,yy83⟩:=ia E 20 22 qgq h38 e76
 obtain ⟨c85,rfl,l84,h86,l87⟩:=rr81
 refine lv E ok (yy83 _ _) fun a E=>lv E ok (qam (cs:=[vs x75.Kind,c85,vs x75.Next]) qi6 rfl rfl (qac.ro at82)) fun a E=>qaM E ok qhv rfl rfl fun b88 a w E ok=>qai E ok 0 rfl rfl rfl qmh rfl rfl ⟨rfl,(qbi h86),rfl,trivial⟩ rfl rfl fun w ok=>wn<|qab<|lv E ok (qam (cs:=[vs x75.Kind,c85,vs x75.Next]) qi6 rfl rfl (qac.own 0 rfl rfl)) fun a E=>bd hF fun r89 e90 hF=>qas E qvM rfl (qqj N _ x75 ⟨_,rfl,l84,h86,l87⟩ e90 hG ok) rfl rfl ?_
 rintro _ w ⟨⟨rfl,ok⟩,l91⟩
 refine ⟨_,rfl,fun a E=>?_⟩
 refine bd hF fun s92 e93 hF=>lw E (qaL rfl rfl e93) fun a E=>?_
 obtain ⟨r94,e95,hF⟩:=bnd hF
 replace ok:Ok u m0 ([(b1,oc 88 [c69,c71])] :: M72 :: [(b88,oc 118 [vs x75.Kind,c85,vs x75.Next])] :: [(b39,oc 111 [vs x27.Name,c37])] :: S) w:=(ok.pk 4 [1,2,0,3] rfl (by decide))
 refine qas E qgD rfl (qaK N s92 (qaH e93) (Builder.mk () v67.buf) h70 h73 e95 hG ok) rfl rfl ?_
 rintro _ w ⟨c97,c99,M100,⟨rfl,ok⟩,r96,h98,h101⟩
 refine ⟨_,rfl,fun a E=>?_⟩
 refine wpList_nil<|qaf<|qaa<|qab<|lw E (qar rfl rfl (InR.inc r68 (qaj h38) c74)) fun a E=>mv E rfl fun a E=>wpList_nil ?_
 cases hF
 exact qan ⟨c97,c99,M100,(ok.pk 4 [0,1,3] rfl (by decide)),E.keep [3,8,9,10,20,21,22],(InR.inc r68 (qaj h38) c74),h98,h101⟩
def qhV (u:World) (m0:Mem) (S:Segs) (r:Bool) (a:Act) (w:World):Prop :=
 Ok u m0 S w ∧ a.defers = [] ∧ RVs Tryz.prog a w [.t 2 (.bool r)]
theorem qjo (N:Nat) (vs_0:Value) (s_0:List (State)) (hs_0:(pL 2 qbA) m0 [vs_0] s_0) {r:Bool} (hF:qgh N s_0 = some r) (hG:Glob u) (ok:Ok u m0 S w) :
  Calls Tryz.prog 34 [vs_0].toArray w fun e w'=>(e = .returned (.bool r) ∧ Ok u m0 S w'):=by
 unfold qgh at hF
 refine en (qhV u m0 S) r Tryz.func34 rfl rfl rfl (fun _ _ h=>ra h rfl) fun fin a E=>sg<|aw E rfl fun a E=>wp_seq<|sg<|mv E rfl fun a E=>lv E ok (qau qg6 hs_0 rfl) fun a E=>lw E (qat rfl rfl) fun a E=>mv E rfl fun a E=>bu E 13 hF (fun c1 hF E=>?_) fun c1 hF E=>?_
 ·refine lsq E fun a E=>ls E fun a E=>pt E rfl rfl fun a E=>wn<|c_if E rfl (fun _=>?_) (fun h=>by cases h)
  refine sg<|aw E rfl fun a E=>wp_ret<|qae ?_
  exact fin hF ⟨ok,E.d,rz E rfl⟩
 refine mv E rfl fun a E=>lv E ok (qau qg6 hs_0 rfl) fun a E=>lw E (qbN rfl rfl) fun a E=>pf E rfl rfl fun a E=>wn<|cf E rfl hF (fun c2 hF=>?_) fun c2 hF=>?_
 ·refine sg<|aw E rfl fun a E=>wp_ret<|qae ?_
  exact fin hF ⟨ok,E.d,rz E rfl⟩
 refine wp_skip<|qaa<|sg<|qiJ kS (oneV pB) E ok rfl rfl fun c3 M4 a w E ok h5=>aw E rfl fun a E=>wp_seq<|sg<|mv E rfl fun a E=>lv E ok (qau qg6 hs_0 rfl) fun a E=>mv E rfl fun a E=>wn<|wp_block<|bd hF fun o11 hL hF=>qax _ (fun (s:Int × (List (List UInt8 × Bool))) a w=>∃ c13 M14,Ok u m0 (M14 :: S) w ∧ Env 85 a [(0,vs_0),(3,c13),(19,vs_0),(20,(vi (s_0.length:Int))),(21,vi s.1)] ∧ InR .i64 s.1 ∧ OMap kS (oneV pB) m0 c13 s.2 M14) (fun (b:(((List (List UInt8 × Bool))) ⊕ Bool)) e a w=>(Sum.elim (fun b108=>e = (.exit 0) ∧ ∃ c109 M110,Ok u m0 (M110 :: S) w ∧ Env 85 a [(0,vs_0),(3,c109)] ∧ OMap kS (oneV pB) m0 c109 b108 M110) (fun b112=>e = .ret ∧ qhV u m0 S b112 a w)) b) ?_ ?_ N _ a w hL ⟨c3,M4,ok,E.keep [0,3,19,20,21],(ir 0),h5⟩
 ·as_aux_lemma =>
   rintro ⟨v16,v17⟩ a w r ⟨c19,M20,ok,E,r18,h21⟩ hF
   replace hF:qdW N s_0 v16 v17 = some r:=hF
   unfold qdW at hF
   refine sg<|lw E (qat rfl rfl) fun a E=>wn<|wp_seq<|cg E rfl hF (fun c22 hF=>?_) fun c22 hF=>?_
   ·refine wp_exit<|qap ?_
    cases hF
    exact so (sl ⟨rfl,⟨c19,M20,ok,E.keep [0,3],h21⟩⟩)
   refine wp_skip<|qaa<|wp_seq<|wp_block<|sg ?_
   obtain ⟨x23,e24,hF⟩:=bnd hF
   obtain ⟨b25,o26,es27,hl28,rr29,at30,yy31⟩:=ia E 19 21 qg6 hs_0 e24
   obtain ⟨c33,rfl,l32,h34⟩:=rr29
   refine lv E ok (yy31 _ _) fun a E=>lv E ok (qam (cs:=[vs x23.Name,c33]) qkk rfl rfl (qac.ro at30)) fun a E=>qaM E ok qgP rfl rfl fun b35 a w E ok=>qai E ok 0 rfl rfl rfl qkc rfl rfl ⟨rfl,(qbi h34),trivial⟩ rfl rfl fun w ok=>wn<|wp_seq<|sg<|fk E ok qjq qal rfl 0 rfl rfl fun a E=>bd hF fun r36 e37 hF=>lc E qrp rfl (qjY N x23.Name l32 e37 hG ok) fun w ok a E=>lw E (qbj rfl) fun a E=>mv E rfl fun a E=>bu E 29 hF (fun c38 hF E=>?_) fun c38 hF E=>?_
   ·refine lsz E fun a E=>pt E rfl rfl fun a E=>mv E rfl fun a E=>lsz E fun a E=>pt E rfl rfl fun a E=>mv E rfl fun a E=>lsz E fun a E=>pt E rfl rfl fun a E=>wn<|c_if E rfl (fun _=>?_) (fun h=>by cases h)
    refine sg<|aw E rfl fun a E=>wp_ret<|qae<|qag<|qae ?_
    cases hF
    exact so (sr ⟨rfl,⟨ok.drop.drop,E.d,rz E rfl⟩⟩)
   refine mv E rfl fun a E=>fk E ok qjq qal rfl 0 rfl rfl fun a E=>?_
   obtain ⟨xv39,h40,yy41,yy42⟩:=ql7 (P:=Tryz.prog) (mo:=.tmp 30) (ko:=.tmp 32) (zx:=(false:Bool)) ok 1 (qeA Tryz.underlying9) Tryz.underlying95 h21 rfl (qaC E rfl) (qaC E rfl) ⟨rfl,l32⟩ ql2 qjS
   obtain rfl:=qls h40
   refine lv E ok (yy41 _) fun a E=>pf E rfl rfl fun a E=>mv E rfl fun a E=>bu E 35 hF (fun c43 hF E=>?_) fun c43 hF E=>?_
   ·refine lsz E fun a E=>pt E rfl rfl fun a E=>mv E rfl fun a E=>lsz E fun a E=>pt E rfl rfl fun a E=>wn<|c_if E rfl (fun _=>?_) (fun h=>by cases h)
    refine sg<|aw E rfl fun a E=>wp_ret<|qae<|qag<|qae ?_
    cases hF
    exact so (sr ⟨rfl,⟨ok.drop.drop,E.d,rz E rfl⟩⟩)
   refine fk E ok qg0 qio rfl 0 rfl rfl fun a E=>lv E ok (qau qgq h34 rfl) fun a E=>lw E (qat rfl rfl) fun a E=>pf E rfl rfl fun a E=>mv E rfl fun a E=>bu E 41 hF (fun c44 hF E=>?_) fun c44 hF E=>?_
   ·refine lsz E fun a E=>pt E rfl rfl fun a E=>wn<|c_if E rfl (fun _=>?_) (fun h=>by cases h)
    refine sg<|aw E rfl fun a E=>wp_ret<|qae<|qag<|qae ?_
    cases hF
    exact so (sr ⟨rfl,⟨ok.drop.drop,E.d,rz E rfl⟩⟩)
   refine fk E ok qg0 qio rfl 0 rfl rfl fun a E=>lv E ok (qau qgq h34 rfl) fun a E=>lw E (qbN rfl rfl) fun a E=>pf E rfl rfl fun a E=>wn<|cf E rfl hF (fun c45 hF=>?_) fun c45 hF=>?_
   ·refine sg<|aw E rfl fun a E=>wp_ret<|qae<|qag<|qae ?_
    cases hF
    exact so (sr ⟨rfl,⟨ok.drop.drop,E.d,rz E rfl⟩⟩)
   refine wp_skip<|qaa<|qab<|mv E rfl fun a E=>fk E ok qjq qal rfl 0 rfl rfl fun a E=>bd hF fun l46 e47 hF=>qkm (.inl rfl) E ok 1 (qeA Tryz.underlying9) Tryz.underlying95 h21 rfl rfl rfl rfl ⟨rfl,l32⟩ qjS e47 rfl fun M48 w ok h49=>wpList_nil<|qaf<|qaa<|qab<|lw E (qar rfl rfl (InR.inc r18 (qaj hs_0) c22)) fun a E=>mv E rfl fun a E=>wpList_nil ?_
   cases hF
   exact qan ⟨c19,M48,(ok.pk 2 [1] rfl (by decide)),E.keep [0,3,19,20,21],(InR.inc r18 (qaj hs_0) c22),h49⟩
 intro e a w _ hO
 rcases o11 with o11 | o11
 rotate_left
 ·obtain ⟨rfl,hret⟩:=hO
  refine qag<|qae ?_
  exact fin hF hret
 have hF:=qaX hF
 obtain ⟨rfl,c50,M51,ok,E,h52⟩:=hO
 refine qaz<|qaa<|wp_seq<|sg<|mv E rfl fun a E=>lv E ok (qau qg6 hs_0 rfl) fun a E=>mv E rfl fun a E=>wn<|wp_block<|bd hF fun o54 hL hF=>qax _ (fun (s:Int) a w=>Ok u m0 (M51 :: S) w ∧ Env 85 a [(0,vs_0),(3,c50),(51,vs_0),(52,(vi (s_0.length:Int))),(53,vi s)] ∧ InR .i64 s) (fun (b:(Unit ⊕ Bool)) e a w=>(Sum.elim (fun b106=>e = (.exit 2) ∧ Ok u m0 (M51 :: S) w ∧ Env 85 a [(0,vs_0)]) (fun b107=>e = .ret ∧ qhV u m0 S b107 a w)) b) ?_ ?_ N _ a w hL ⟨ok,E.keep [0,3,51,52,53],(ir 0)⟩
 rotate_left
 ·intro e a w _ hO
  rcases o54 with o54 | o54
  rotate_left
  ·obtain ⟨rfl,hret⟩:=hO
   refine qag<|qae ?_
   exact fin hF hret
  have hF:=qaX hF
  obtain ⟨rfl,ok,E⟩:=hO
  refine qaz<|qaa<|sg<|mv E rfl fun a E=>bd hF fun r103 e104 hF=>qas E qwn rfl (qqf N _ s_0 hs_0 e104 hG ok) rfl rfl ?_
  rintro _ w ⟨⟨rfl,ok⟩,l105⟩
  refine ⟨_,rfl,fun a E=>?_⟩
  refine lw E (qaA Tryz.underlying9 rfl) fun a E=>lw E (qb2 rfl rfl) fun a E=>aw E rfl fun a E=>wp_ret ?_
  exact fin hF ⟨ok.drop,E.d,rz E rfl⟩
 rintro v56 a w r ⟨ok,E,r57⟩ hF
 replace hF:qez N s_0 o11 v56 = some r:=hF
 unfold qez at hF
 refine sg<|lw E (qat rfl rfl) fun a E=>wn<|wp_seq<|cg E rfl hF (fun c58 hF=>?_) fun c58 hF=>?_
 ·refine wp_exit<|qap ?_
  cases hF
  exact so (sl ⟨rfl,⟨ok,E.keep [0]⟩⟩)
 refine wp_skip<|qaa<|wp_seq<|wp_block<|sg ?_
 obtain ⟨x59,e60,hF⟩:=bnd hF
 obtain ⟨b61,o62,es63,hl64,rr65,at66,yy67⟩:=ia E 51 53 qg6 hs_0 e60
 obtain ⟨c69,rfl,l68,h70⟩:=rr65
 refine lv E ok (yy67 _ _) fun a E=>lv E ok (qam (cs:=[vs x59.Name,c69]) qkk rfl rfl (qac.ro at66)) fun a E=>qaM E ok qgP rfl rfl fun b71 a w E ok=>qai E ok 0 rfl rfl rfl qkc rfl rfl ⟨rfl,(qbi h70),trivial⟩ rfl rfl fun w ok=>wn<|sg<|fk E ok qg0 qio rfl 0 rfl rfl fun a E=>lv E ok (qau qgq h70 rfl) fun a E=>mv E rfl fun a E=>wn<|wp_block<|bd hF fun o73 hL hF=>qax _ (fun (s:Int) a w=>Ok u m0 ([(b71,oc 111 [vs x59.Name,c69])] :: M51 :: S) w ∧ Env 85 a [(0,vs_0),(3,c50),(51,vs_0),(52,(vi (s_0.length:Int))),(53,vi v56),(58,c69),(59,(vi (x59.Rules.length:Int))),(60,vi s)] ∧ InR .i64 s) (fun (b:(Unit ⊕ Bool)) e a w=>(Sum.elim (fun b101=>e = (.exit 4) ∧ Ok u m0 ([(b71,oc 111 [vs x59.Name,c69])] :: M51 :: S) w ∧ Env 85 a [(0,vs_0),(3,c50),(51,vs_0),(52,(vi (s_0.length:Int))),(53,vi v56)]) (fun b102=>e = .ret ∧ qhV u m0 S b102 a w)) b) ?_ ?_ N _ a w hL ⟨ok,E.keep [0,3,51,52,53,58,59,60],(ir 0)⟩
 rotate_left
 ·intro e a w _ hO
  rcases o73 with o73 | o73
  rotate_left
  ·have hF:=qhk hF
   obtain ⟨rfl,hret⟩:=hO
   refine qag<|qag<|qae ?_
   cases hF
   exact so (sr ⟨rfl,hret⟩)
  have hF:=qaX hF
  obtain ⟨rfl,ok,E⟩:=hO
  refine qaz<|qaf<|qaa<|qab<|lw E (qar rfl rfl (InR.inc r57 (qaj hs_0) c58)) fun a E=>mv E rfl fun a E=>wpList_nil ?_
  cases hF
  exact qan ⟨(ok.pk 2 [1] rfl (by decide)),E.keep [0,3,51,52,53],(InR.inc r57 (qaj hs_0) c58)⟩
 rintro v75 a w r ⟨ok,E,r76⟩ hF
 replace hF:qey N o11 x59 v75 = some r:=hF
 unfold qey at hF
 refine sg<|lw E (qat rfl rfl) fun a E=>wn<|wp_seq<|cg E rfl hF (fun c77 hF=>?_) fun c77 hF=>?_
 ·refine wp_exit<|qap ?_
  cases hF
  exact so (sl ⟨rfl,⟨ok,E.keep [0,3,51,52,53]⟩⟩)
 refine wp_skip<|qaa<|wp_seq<|wp_block<|sg ?_
 obtain ⟨x78,e79,hF⟩:=bnd hF
 obtain ⟨b80,o81,es82,hl83,rr84,at85,yy86⟩:=ia E 58 60 qgq h70 e79
 obtain ⟨c88,rfl,l87,h89,l90⟩:=rr84
 refine lv E ok (yy86 _ _) fun a E=>lv E ok (qam (cs:=[vs x78.Kind,c88,vs x78.Next]) qi6 rfl rfl (qac.ro at85)) fun a E=>qaM E ok qhv rfl rfl fun b91 a w E ok=>qai E ok 0 rfl rfl rfl qmh rfl rfl ⟨rfl,(qbi h89),rfl,trivial⟩ rfl rfl fun w ok=>wn<|sg<|lv E ok (qam (cs:=[vs x78.Kind,c88,vs x78.Next]) qi6 rfl rfl (qac.own 0 rfl rfl)) fun a E=>bd hF fun r92 e93 hF=>lc E qwa rfl (qpH N _ x78 ⟨_,rfl,l87,h89,l90⟩ e93 hG ok) fun w ok a E=>lw E (qbj rfl) fun a E=>mv E rfl fun a E=>bu E 67 hF (fun c94 hF E=>?_) fun c94 hF E=>?_
 ·refine lsz E fun a E=>lsz E fun a E=>lsq E fun a E=>pt E rfl rfl fun a E=>wn<|c_if E rfl (fun _=>?_) (fun h=>by cases h)
  refine sg<|aw E rfl fun a E=>wp_ret<|qag<|qae ?_
  cases hF
  exact so (sr ⟨rfl,⟨ok.drop.drop.drop,E.d,rz E rfl⟩⟩)
 refine fk E ok qg2 qal rfl 0 rfl rfl fun a E=>lw E (qbn rfl rfl) fun a E=>mv E rfl fun a E=>bw E 71 hF (fun c95 hF E=>?_) fun c95 hF E=>?_
 ·refine lsz E fun a E=>ls E fun a E=>pf E rfl rfl fun a E=>pf E rfl rfl fun a E=>wn<|c_if E rfl (fun h=>by cases h) (fun _=>?_)
  refine wp_skip<|qaf<|qaa<|qab<|lw E (qar rfl rfl (InR.inc r76 (qaj h70) c77)) fun a E=>mv E rfl fun a E=>wpList_nil ?_
  cases hF
  exact qan ⟨(ok.pk 3 [1,2] rfl (by decide)),E.keep [0,3,51,52,53,58,59,60],(InR.inc r76 (qaj h70) c77)⟩
 refine mv E rfl fun a E=>fk E ok qg2 qal rfl 0 rfl rfl fun a E=>?_
 obtain ⟨xv96,h97,yy98,yy99⟩:=ql7 (P:=Tryz.prog) (mo:=.tmp 72) (ko:=.tmp 74) (zx:=(false:Bool)) ok 2 (qeA Tryz.underlying9) Tryz.underlying95 h52 rfl (qaC E rfl) (qaC E rfl) ⟨rfl,l90⟩ ql2 qjS
 obtain rfl:=qls h97
 refine lv E ok (yy98 _) fun a E=>lw E (qbj rfl) fun a E=>pt E rfl rfl fun a E=>pf E rfl rfl fun a E=>wn<|cg E rfl hF (fun c100 hF=>?_) fun c100 hF=>?_
 ·refine wp_skip<|qaf<|qaa<|qab<|lw E (qar rfl rfl (InR.inc r76 (qaj h70) c77)) fun a E=>mv E rfl fun a E=>wpList_nil ?_
  cases hF
  exact qan ⟨(ok.pk 3 [1,2] rfl (by decide)),E.keep [0,3,51,52,53,58,59,60],(InR.inc r76 (qaj h70) c77)⟩
 refine sg<|aw E rfl fun a E=>wp_ret<|qag<|qae ?_
 cases hF
 exact so (sr ⟨rfl,⟨ok.drop.drop.drop,E.d,rz E rfl⟩⟩)
def qnN (u:World) (m0:Mem) (S:Segs) (pb0:Nat) (x0:Int) (r:Bool) (a:Act) (w:World):Prop :=
 Ok u m0 ([(pb0,oc 3 [vi x0])] :: S) w ∧ a.defers = [] ∧ RVs Tryz.prog a w [.t 3 (.bool r)]
theorem qnC (N:Nat) (vr_0:List Value) (r_0:Range) (hr_0:qbv m0 vr_0 r_0) {pb0:Nat} (x0:Int) (r3:InR .i64 x0) {r:Bool} (hF:qh3 N r_0 x0 = some r) (hG:Glob u) (ok:Ok u m0 ([(pb0,oc 3 [vi x0])] :: S) w) :
  Calls Tryz.prog 125 [.agg vr_0.toArray,vp pb0].toArray w fun e w'=>(e = .returned (.bool r) ∧ Ok u m0 ([(pb0,oc 3 [vi x0])] :: S) w'):=by
 obtain ⟨rfl,r1,r2⟩:=hr_0
 unfold qh3 at hF
 refine en (qnN u m0 S pb0 x0) r Tryz.func125 rfl rfl rfl (fun _ _ h=>ra h rfl) fun fin a E=>sg<|qcC E ok rfl rfl rfl fun b4 a w E ok=>aw E rfl fun a E=>sg<|ld E ok qaJ 1 rfl rfl rfl fun a E=>lv E ok (qlR Tryz.underlying3 Tryz.underlying5 rfl) fun a E=>fk E ok qkK qfa rfl 0 rfl rfl fun a E=>lw E (qa2 rfl rfl) fun a E=>mv E rfl fun a E=>bu E 9 hF (fun c5 hF E=>?_) fun c5 hF E=>?_
 ·refine ld E ok qaJ 1 rfl rfl rfl fun a E=>lv E ok (qlR Tryz.underlying3 Tryz.underlying5 rfl) fun a E=>fk E ok qkV qfa rfl 0 rfl rfl fun a E=>lw E (qb2 rfl rfl) fun a E=>pt E rfl rfl fun a E=>av E rfl fun a E=>wn<|wp_ret ?_
  exact fin hF ⟨ok.drop,E.d,rz E rfl⟩
 refine lsz E fun a E=>ls E fun a E=>pf E rfl rfl fun a E=>av E rfl fun a E=>wn<|wp_ret ?_
 exact fin hF ⟨ok.drop,E.d,rz E rfl⟩
def qcW (u:World) (m0:Mem) (S:Segs) (pb0:Nat) (x0:Int) (r:Int) (a:Act) (w:World):Prop :=
 Ok u m0 ([(pb0,oc 3 [vi x0])] :: S) w ∧ a.defers = [] ∧ RVs Tryz.prog a w [.t 4 (.int .i64 r)] ∧ InR .i64 r
theorem qfy (N:Nat) (vs_0:Value) (s_0:List (Range)) (hs_0:(pL 2 qbv) m0 [vs_0] s_0) {pb0:Nat} (x0:Int) (r1:InR .i64 x0) {r:Int} (hF:qbz N s_0 x0 = some r) (hG:Glob u) (ok:Ok u m0 ([(pb0,oc 3 [vi x0])] :: S) w) :
  Calls Tryz.prog 122 [vs_0,Value.func (.func 125) #[] #[.pointer (some ⟨pb0,0,none⟩)]].toArray w fun e w'=>(e = .returned (.int .i64 r) ∧ Ok u m0 ([(pb0,oc 3 [vi x0])] :: S) w') ∧ InR .i64 r:=by
 unfold qbz at hF
 refine en (qcW u m0 S pb0 x0) r Tryz.func122 rfl rfl rfl (fun _ _ h=>rb h rfl) fun fin a E=>sg<|aw E rfl fun a E=>wp_seq<|sg<|mv E rfl fun a E=>lv E ok (qau qg3 hs_0 rfl) fun a E=>mv E rfl fun a E=>wn<|wp_block<|bd hF fun o3 hL hF=>qax _ (fun (s:Int) a w=>Ok u m0 ([(pb0,oc 3 [vi x0])] :: S) w ∧ Env 19 a [(0,vs_0),(1,(Value.func (.func 125) #[] #[.pointer (some ⟨pb0,0,none⟩)])),(7,(vi (s_0.length:Int))),(8,vi s)] ∧ InR .i64 s) (fun (b:(Unit ⊕ Int)) e a w=>(Sum.elim (fun b22=>e = (.exit 0) ∧ Ok u m0 ([(pb0,oc 3 [vi x0])] :: S) w ∧ Env 19 a []) (fun b23=>e = .ret ∧ qcW u m0 S pb0 x0 b23 a w)) b) ?_ ?_ N _ a w hL ⟨ok,E.keep [0,1,7,8],(ir 0)⟩
 rotate_left
 ·intro e a w _ hO
  rcases o3 with o3 | o3
  rotate_left
  ·obtain ⟨rfl,hret⟩:=hO
   refine qag<|qae ?_
   exact fin hF hret
  have hF:=qaX hF
  obtain ⟨rfl,ok,E⟩:=hO
  refine qaz<|qaa<|sg<|aw E rfl fun a E=>wp_ret ?_
  exact fin hF ⟨ok,E.d,rz E rfl,(ir (-1))⟩
 rintro v5 a w r ⟨ok,E,r6⟩ hF
 replace hF:qbc N s_0 x0 v5 = some r:=hF
 unfold qbc at hF
 refine sg<|lw E (qat rfl rfl) fun a E=>wn<|wp_seq<|cg E rfl hF (fun c7 hF=>?_) fun c7 hF=>?_
 ·refine wp_exit<|qap ?_
  cases hF
  exact so (sl ⟨rfl,⟨ok,E.keep []⟩⟩)
 refine wp_skip<|qaa<|wp_seq<|wp_block<|sg<|mv E rfl fun a E=>av E rfl fun a E=>wn<|sg<|mz E rfl rfl fun a E=>mv E rfl fun a E=>?_
 obtain ⟨x8,e9,hF⟩:=bnd hF
 obtain ⟨b10,o11,es12,hl13,rr14,at15,yy16⟩:=ia E 12 13 qg3 hs_0 e9
 obtain ⟨rfl,r17,r18⟩:=rr14
 refine lv E ok (yy16 _ _) fun a E=>lv E ok (qam (cs:=[(Value.int .u8 x8.From),(Value.int .u8 x8.To)]) qnQ rfl rfl (qac.ro at15)) fun a E=>bd hF fun r19 e20 hF=>qqH E rfl qu4 rfl (qnC N _ x8 ⟨rfl,r17,r18⟩ x0 r1 e20 hG ok) rfl rfl ?_
 rintro _ w ⟨rfl,ok⟩
 refine ⟨_,rfl,fun a E=>?_⟩
 refine wn<|cg E rfl hF (fun c21 hF=>?_) fun c21 hF=>?_
 ·refine wp_skip<|qaf<|qaa<|qab<|lw E (qar rfl rfl (InR.inc r6 (qaj hs_0) c7)) fun a E=>mv E rfl fun a E=>wpList_nil ?_
  cases hF
  exact qan ⟨ok,E.keep [0,1,7,8],(InR.inc r6 (qaj hs_0) c7)⟩
 refine sg<|mv E rfl fun a E=>aw E rfl fun a E=>wp_ret<|qag<|qae ?_
 cases hF
 exact so (sr ⟨rfl,⟨ok,E.d,rz E rfl,r6⟩⟩)
def qe2 (u:World) (m0:Mem) (S:Segs) (pb0:Nat) (x0:Int) (r:Bool) (a:Act) (w:World):Prop :=
 Ok u m0 ([(pb0,oc 3 [vi x0])] :: S) w ∧ a.defers = [] ∧ RVs Tryz.prog a w [.t 4 (.bool r)]
theorem qeV (N:Nat) (vs_0:Value) (s_0:List (Range)) (hs_0:(pL 2 qbv) m0 [vs_0] s_0) {pb0:Nat} (x0:Int) (r1:InR .i64 x0) {r:Bool} (hF:qbb N s_0 x0 = some r) (hG:Glob u) (ok:Ok u m0 ([(pb0,oc 3 [vi x0])] :: S) w) :
  Calls Tryz.prog 96 [vs_0,Value.func (.func 125) #[] #[.pointer (some ⟨pb0,0,none⟩)]].toArray w fun e w'=>(e = .returned (.bool r) ∧ Ok u m0 ([(pb0,oc 3 [vi x0])] :: S) w'):=by
 unfold qbb at hF
 refine en (qe2 u m0 S pb0 x0) r Tryz.func96 rfl rfl rfl (fun _ _ h=>ra h rfl) fun fin a E=>sg<|aw E rfl fun a E=>sg<|mz E rfl rfl fun a E=>bd hF fun r2 e3 hF=>qas E qsr rfl (qfy N _ s_0 hs_0 x0 r1 e3 hG ok) rfl rfl ?_
 rintro _ w ⟨⟨rfl,ok⟩,r4⟩
 refine ⟨_,rfl,fun a E=>?_⟩
 refine lw E (qa2 rfl rfl) fun a E=>aw E rfl fun a E=>wp_ret ?_
 exact fin hF ⟨ok,E.d,rz E rfl⟩
def qpp (u:World) (m0:Mem) (S:Segs) (r:(Option (List Bool))) (a:Act) (w:World):Prop :=
 ∃ m1 v0,m0.le m1 ∧ Ok u m1 (S) w ∧ a.defers = [] ∧ RVs Tryz.prog a w [.t 2 v0] ∧ (pP 256 (pGB 256)) m1 [v0] r
theorem qpw (N:Nat) (vx_0:List Value) (x_0:Item) (hx_0:qbt m0 vx_0 x_0) {r:(Option (List Bool))} (hF:qh0 N x_0 = some r) (hG:Glob u) (ok:Ok u m0 (S) w) :
  Calls Tryz.prog 99 [.agg vx_0.toArray].toArray w fun e w'=>∃ m1 v0,e = .returned v0 ∧ m0.le m1 ∧ Ok u m1 (S) w' ∧ (pP 256 (pGB 256)) m1 [v0] r:=by
 obtain ⟨c2,rfl,l1,h3,r4,r5⟩:=hx_0
 have le_m0:=Mem.le.refl m0
 unfold qh0 at hF
 refine en (qpp u m0 S) r Tryz.func99 rfl rfl rfl (fun _ _ h=>rc h fun _=>rfl) fun fin a E=>sg<|qcC E ok rfl rfl rfl fun b6 a w E ok=>aw E rfl fun a E=>sg<|qaM E ok qs1 rfl rfl fun b7 a w E ok=>wn<|wp_seq<|sg<|mv E rfl fun a E=>wn<|wp_block<|bd hF fun o11 hL hF=>qax _ (fun (s:Int × (List Bool)) a w=>Ok u m0 ([(b7,Obj.cells (List.toArray (List.map vb s.2)) 200 (0,0))] :: [(b6,oc 154 [vs x_0.Text,c2,vb x_0.Not,vi x_0.Least,vi x_0.Most])] :: S) w ∧ Env 18 a [(1,vp b6),(3,vp b7),(5,vi s.1)] ∧ InR .i64 s.1 ∧ s.2.length = 256) (fun (b:((List Bool))) e a w=>e = (.exit 0) ∧ Ok u m0 ([(b7,Obj.cells (List.toArray (List.map vb b)) 200 (0,0))] :: [(b6,oc 154 [vs x_0.Text,c2,vb x_0.Not,vi x_0.Least,vi x_0.Most])] :: S) w ∧ Env 18 a [(3,vp b7)] ∧ b.length = 256) ?_ ?_ N _ a w hL ⟨ok,E.keep [1,3,5],(ir 0),(by rw [List.length_replicate])⟩
 rotate_left
 ·intro e a w _ hO
  obtain ⟨rfl,ok,E,l31⟩:=hO
  refine qaz<|qaa<|sg<|aw E rfl fun a E=>wp_ret ?_
  have hbx:=(show (pGB 256) m0 (List.map vb o11) o11 from ⟨rfl,l31⟩)
  obtain ⟨m32,hle,ok,hfz⟩:=(ok.frs 0 rfl).freeze
  have h33:=qtS (k:=256) (mGB 256) hbx hle hfz (by rw [List.length_map]; exact l31)
  clear hbx
  have le_m0:=le_m0.trans hle
  have h3:=(mL qfA).up hle h3
  exact fin hF ⟨m32,vp b7,le_m0,ok.drop,E.d,rz E rfl,h33⟩
 rintro ⟨v14,v15⟩ a w r ⟨ok,E,r16,l17⟩ hF
 replace hF:qgo N x_0 v14 v15 = some r:=hF
 unfold qgo at hF
 refine sg<|lw E (qat rfl rfl) fun a E=>wn<|wp_seq<|cg E rfl hF (fun c18 hF=>?_) fun c18 hF=>?_
 ·refine wp_exit<|qap ?_
  cases hF
  exact so (⟨rfl,⟨ok,E.keep [3],l17⟩⟩)
 refine wp_skip<|qaa<|wp_seq<|wp_block<|sg<|mv E rfl fun a E=>qaM E ok qni rfl rfl fun b19 a w E ok=>qai E ok 0 rfl rfl rfl qes rfl rfl ⟨rfl,trivial⟩ rfl rfl fun w ok=>wn<|bd hF fun o20 hJ hF=>qa6 (Q':=fun e a w=>e = .normal ∧ Ok u m0 ([(b19,oc 3 [vi v14])] :: [(b7,Obj.cells (List.toArray (List.map vb o20)) 200 (0,0))] :: [(b6,oc 154 [vs x_0.Text,c2,vb x_0.Not,vi x_0.Least,vi x_0.Most])] :: S) w ∧ Env 18 a [(1,vp b6),(3,vp b7),(5,vi v14)] ∧ o20.length = 256) ?_ ?_
 rotate_left
 ·intro e a w hO
  obtain ⟨rfl,ok,E,l30⟩:=hO
  refine qaf<|qaa<|qab<|lw E (qar rfl rfl (InR.inc r16 (ir 256) c18)) fun a E=>mv E rfl fun a E=>wpList_nil ?_
  cases hF
  exact qan ⟨(ok.pk 3 [1,2] rfl (by decide)),E.keep [1,3,5],(InR.inc r16 (ir 256) c18),l30⟩
 have hF:=hJ
 obtain ⟨r22,e23,hF⟩:=bnd hF
 obtain ⟨x24,e25,hF⟩:=bnd hF
 obtain ⟨z26,e27,hF⟩:=bnd hF
 obtain rfl:=sj hF
 refine qcb [0,2,4] (Cls u m0 ([(b19,oc 3 [vi v14])] :: [(b7,Obj.cells (List.toArray (List.map vb v15)) 200 (0,0))] :: [(b6,oc 154 [vs x_0.Text,c2,vb x_0.Not,vi x_0.Least,vi x_0.Most])] :: [])) (Cls u m0 ([(b19,oc 3 [vi v14])] :: [(b6,oc 154 [vs x_0.Text,c2,vb x_0.Not,vi x_0.Least,vi x_0.Most])] :: [])) (by kernel_rfl) ?_
 intro w hw
 replace ok:=qcB ok hw
 clear hw
 refine qay (cl1 (cq le_m0 ok [0,1,2] rfl) (cq le_m0 ok [0,2] rfl)) fun hT=>qbk 0 E rfl (by kernel_rfl) nP hT (qah qaJ rfl (qac.cown 0 rfl rfl)) rfl rfl fun a E=>kt 1 E rfl hT (qak qmX rfl) fun a E=>qbk 2 E rfl (by kernel_rfl) nP hT (qah qhb rfl (qac.cown 2 rfl rfl)) rfl rfl fun a E=>kt 3 E rfl hT (qak qg1 rfl) fun a E=>qbk 4 E rfl (by kernel_rfl) nP hT (qah qif rfl (qac.cown 2 rfl rfl)) rfl rfl fun a E=>kt 5 E rfl hT (qkI (caps:=[.tmp 4]) rfl) fun a E=>qaZ [6] (by kernel_rfl) rfl (qa1 ?_)
 ·refine wo rfl<|lc E qtv rfl (qeV N _ x_0.Ranges h3 v14 r16 e23 hG ok) fun w ok a E=>wn<|qay (cl1 (cq le_m0 ok [0,1,2] rfl) (cq le_m0 ok [0,2] rfl)) fun hT=>kt 7 E rfl hT (qvA Tryz.underlying4 rfl rfl) fun a E=>kt 8 E rfl hT (qkv (f:=Value.bool) (q:=fun _=>True) qkq l17 rfl rfl e25) fun a E=>qaZ [9] (by kernel_rfl) rfl (qa1 ?_)
  ·refine qlw (o:=_) rfl ?_
   have l29:=qmA e27 l17
   refine qsd (c:=List.map vb v15) (c':=List.map vb z26) E ok 1 rfl rfl rfl qts rfl rfl ⟨rfl,trivial⟩ (qws l17 e25) (qvL e27) rfl fun w ok=>wn<|qay (cl2 (by kernel_rfl) (cq le_m0 ok [0,2] rfl)) fun hT=>qcl (by kernel_rfl) ?_
   exact ⟨rfl,⟨ok,E.keep [1,3,5],l29⟩⟩
def qn2 (u:World) (m0:Mem) (S:Segs) (r:(List (Option (List Bool)))) (a:Act) (w:World):Prop :=
 ∃ m1 v0,m0.le m1 ∧ Ok u m1 S w ∧ a.defers = [] ∧ RVs Tryz.prog a w [.t 2 v0] ∧ (pL 1 (pP 256 (pGB 256))) m1 [v0] r
theorem qnF (N:Nat) (vitems_0:Value) (items_0:List (Item)) (hitems_0:(pL 5 qbt) m0 [vitems_0] items_0) {r:(List (Option (List Bool)))} (hF:qgM N items_0 = some r) (hG:Glob u) (ok:Ok u m0 S w) :
  Calls Tryz.prog 81 [vitems_0].toArray w fun e w'=>∃ m1 v0,e = .returned v0 ∧ m0.le m1 ∧ Ok u m1 S w' ∧ (pL 1 (pP 256 (pGB 256))) m1 [v0] r:=by
 have le_m0:=Mem.le.refl m0
 unfold qgM at hF
 refine en (qn2 u m0 S) r Tryz.func81 rfl rfl rfl (fun _ _ h=>rc h fun _=>rfl) fun fin a E=>sg<|aw E rfl fun a E=>sg<|mv E rfl fun a E=>lv E ok (qau qeZ hitems_0 rfl) fun a E=>bd hF fun l1 e2 hF=>qo7 (R:=(pP 256 (pGB 256))) E ok qo6 qsR rfl qvs rfl e2 rfl rfl fun c3 M4 a w E ok h5=>aw E rfl fun a E=>wp_seq<|sg<|mv E rfl fun a E=>lv E ok (qau qeZ hitems_0 rfl) fun a E=>mv E rfl fun a E=>wn<|wp_block<|bd hF fun o11 hL hF=>qax _ (fun (s:Int × (List (Option (List Bool)))) a w=>∃ m12 c14 M15,m0.le m12 ∧ Ok u m12 (M15 :: S) w ∧ Env 26 a [(3,c14),(9,vitems_0),(10,(vi (items_0.length:Int))),(11,vi s.1)] ∧ InR .i64 s.1 ∧ ORow 196 1 (pP 256 (pGB 256)) m12 c14 s.2 M15) (fun (b:((List (Option (List Bool))))) e a w=>e = (.exit 0) ∧ ∃ m62 c63 M64,m0.le m62 ∧ Ok u m62 (M64 :: S) w ∧ Env 26 a [(3,c63)] ∧ ORow 196 1 (pP 256 (pGB 256)) m62 c63 b M64) ?_ ?_ N _ a w hL ⟨m0,c3,M4,Mem.le.refl _,ok,E.keep [3,9,10,11],(ir 0),h5⟩
 rotate_left
 ·intro e a w _ hO
  obtain ⟨rfl,m56,c57,M58,hle,ok,E,h59⟩:=hO
  have le_m0:=le_m0.trans hle
  have hitems_0:=(mL qdE).up hle hitems_0
  refine qaz<|qaa<|sg<|mv E rfl fun a E=>aw E rfl fun a E=>wp_ret ?_
  obtain ⟨m60,hle,ok,hfz⟩:=(ok.frs 0 rfl).freeze
  have h61:=ORow.froz (mP (mGB 256)) h59 hle hfz (by decide)
  have le_m0:=le_m0.trans hle
  have hitems_0:=(mL qdE).up hle hitems_0
  exact fin hF ⟨m60,c57,le_m0,ok,E.d,rz E rfl,h61⟩
 rintro ⟨v17,v18⟩ a w r ⟨m19,c21,M22,hle,ok,E,r20,h23⟩ hF
 replace hF:qfH N items_0 v17 v18 = some r:=hF
 unfold qfH at hF
 have le_m0:=le_m0.trans hle
 have hitems_0:=(mL qdE).up hle hitems_0
 refine sg<|lw E (qat rfl rfl) fun a E=>wn<|wp_seq<|cg E rfl hF (fun c24 hF=>?_) fun c24 hF=>?_
 ·refine wp_exit<|qap ?_
  cases hF
  exact so (⟨rfl,⟨m19,c21,M22,le_m0,ok,E.keep [3],h23⟩⟩)
 refine wp_skip<|qaa<|wp_seq<|wp_block<|sg<|mv E rfl fun a E=>?_
 obtain ⟨x25,e26,hF⟩:=bnd hF
 obtain ⟨b27,o28,es29,hl30,rr31,at32,yy33⟩:=ia E 9 11 qeZ hitems_0 e26
 obtain ⟨c35,rfl,l34,h36,r37,r38⟩:=rr31
 refine lv E ok (yy33 _ _) fun a E=>lv E ok (qam (cs:=[vs x25.Text,c35,vb x25.Not,vi x25.Least,vi x25.Most]) qfX rfl rfl (qac.ro at32)) fun a E=>qaM E ok qhC rfl rfl fun b39 a w E ok=>av E rfl fun a E=>qai E ok 0 rfl rfl rfl qlY rfl rfl ⟨rfl,(qbi h36),rfl,rfl,rfl,trivial⟩ rfl rfl fun w ok=>wn<|sg<|fk E ok qcV qal rfl 0 rfl rfl fun a E=>lw E (qaG rfl rfl) fun a E=>wn<|cg E rfl hF (fun c40 hF=>?_) fun c40 hF=>?_
 ·refine wp_skip<|qaf<|qaa<|qab<|lw E (qar rfl rfl (InR.inc r20 (qaj hitems_0) c24)) fun a E=>mv E rfl fun a E=>wpList_nil ?_
  cases hF
  exact qan ⟨m19,c21,M22,le_m0,(ok.pk 2 [1] rfl (by decide)),E.keep [3,9,10,11],(InR.inc r20 (qaj hitems_0) c24),h23⟩
 refine qab<|mz E rfl rfl fun a E=>lv E ok (qam (cs:=[vs x25.Text,c35,vb x25.Not,vi x25.Least,vi x25.Most]) qfX rfl rfl (qac.own 0 rfl rfl)) fun a E=>bd hF fun r41 e42 hF=>qas E qvW rfl (qpw N _ x25 ⟨_,rfl,l34,h36,r37,r38⟩ e42 hG ok) rfl rfl ?_
 rintro _ w ⟨m43,c44,rfl,hle,ok,h45⟩
 have le_m0:=le_m0.trans hle
 have hitems_0:=(mL qdE).up hle hitems_0
 have h23:=ORow.up (mP (mGB 256)) hle h23
 have h36:=(mL qfA).up hle h36
 have at32:=At.up hle at32
 refine ⟨_,rfl,fun a E=>?_⟩
 obtain ⟨x46,e47,hF⟩:=bnd hF
 obtain ⟨b48,o49,hp50,yy51⟩:=qb4 qo6 h23 e47 (P:=Tryz.prog) (X:=.tmp 19) (I:=.tmp 20) (kd:=.i64) (qaC E rfl) (qaC E rfl)
 refine lv E ok (yy51 _ _) fun a E=>bd hF fun l52 e53 hF=>qkW (R:=(pP 256 (pGB 256))) E ok 1 rfl h23 e47 hp50 rfl rfl quu (qsI h45) rfl rfl ⟨(qu0 h45),trivial⟩ h45 e53 rfl fun M54 w ok h55=>wpList_nil<|qaf<|qaa<|qab<|lw E (qar rfl rfl (InR.inc r20 (qaj hitems_0) c24)) fun a E=>mv E rfl fun a E=>wpList_nil ?_
 cases hF
 exact qan ⟨m43,c21,M54,le_m0,(ok.pk 2 [1] rfl (by decide)),E.keep [3,9,10,11],(InR.inc r20 (qaj hitems_0) c24),h55⟩
def qnH (u:World) (m0:Mem) (S:Segs) (r:Lexer) (a:Act) (w:World):Prop :=
 ∃ m1 b0 c1 c3 M4 c6 M7,m0.le m1 ∧ Ok u m1 ([(b0,oc 180 [c1,c3,c6])] :: M4 :: M7 :: S) w ∧ a.defers = [] ∧ RVs Tryz.prog a w [.t 2 (.pointer (some ⟨b0,0,none⟩))] ∧ (pL 2 qbA) m1 [c1] r.script ∧ ORow 181 1 (pL 1 (pL 1 (pP 256 (pGB 256)))) m1 c3 r.bits M4 ∧ OMap kS (oneV (pI .i64)) m1 c6 r.states M7
theorem qnK (N:Nat) (vs_0:Value) (s_0:List (State)) (hs_0:(pL 2 qbA) m0 [vs_0] s_0) {r:Lexer} (hF:qgQ N s_0 = some r) (hG:Glob u) (ok:Ok u m0 (S) w) :
  Calls Tryz.prog 51 [vs_0].toArray w fun e w'=>∃ m1 b0 c1 c3 M4 c6 M7,e = .returned (.pointer (some ⟨b0,0,none⟩)) ∧ m0.le m1 ∧ Ok u m1 ([(b0,oc 180 [c1,c3,c6])] :: M4 :: M7 :: S) w' ∧ (pL 2 qbA) m1 [c1] r.script ∧ ORow 181 1 (pL 1 (pL 1 (pP 256 (pGB 256)))) m1 c3 r.bits M4 ∧ OMap kS (oneV (pI .i64)) m1 c6 r.states M7:=by
 have le_m0:=Mem.le.refl m0
 unfold qgQ at hF
 refine en (qnH u m0 S) r Tryz.func51 rfl rfl rfl (by rintro a w ⟨m1,b0,c1,c3,M4,c6,M7,hle,ok,hd,hrv,h0,h1,h2⟩; exact qbs [.t 2 (.pointer (some ⟨b0,0,none⟩))] hd rfl hrv ⟨m1,b0,c1,c3,M4,c6,M7,rfl,hle,ok,h0,h1,h2⟩) fun fin a E=>sg<|aw E rfl fun a E=>sg<|mv E rfl fun a E=>qiJ kS (oneV (pI .i64)) E ok rfl rfl fun c9 M10 a w E ok h11=>lw E (qaR (ps:=[(0,.tmp 9),(2,.tmp 10)]) (qs:=[(0,[vs_0]),(2,[c9])]) (cs:=[vs_0,(Value.slice none 0 0),c9]) qte qrn rfl ⟨rfl,(qec hs_0),rfl,⟨rfl,(OMap.cells h11),rfl,trivial⟩⟩ rfl) fun a E=>qcC E ok rfl rfl rfl fun b12 a w E ok=>aw E rfl fun a E=>wp_seq<|sg<|mv E rfl fun a E=>lv E ok (qau qg6 hs_0 rfl) fun a E=>mv E rfl fun a E=>wn<|wp_block ?_
 obtain ⟨M23,ok,h24⟩:=qck (e:=181) (k:=1) (R:=(pL 1 (pL 1 (pP 256 (pGB 256))))) ok
 refine bd hF fun o25 hL hF=>qax _ (fun (s:Int × Lexer) a w=>∃ m26 c28 c30 M31 c33 M34,m0.le m26 ∧ Ok u m26 (M31 :: [(b12,oc 180 [c28,c30,c33])] :: M34 :: S) w ∧ Env 53 a [(3,vp b12),(13,vs_0),(14,(vi (s_0.length:Int))),(15,vi s.1)] ∧ InR .i64 s.1 ∧ (pL 2 qbA) m26 [c28] s.2.script ∧ ORow 181 1 (pL 1 (pL 1 (pP 256 (pGB 256)))) m26 c30 s.2.bits M31 ∧ OMap kS (oneV (pI .i64)) m26 c33 s.2.states M34) (fun (b:Lexer) e a w=>e = (.exit 0) ∧ ∃ m160 c161 c163 M164 c166 M167,m0.le m160 ∧ Ok u m160 (M164 :: [(b12,oc 180 [c161,c163,c166])] :: M167 :: S) w ∧ Env 53 a [(3,vp b12)] ∧ (pL 2 qbA) m160 [c161] b.script ∧ ORow 181 1 (pL 1 (pL 1 (pP 256 (pGB 256)))) m160 c163 b.bits M164 ∧ OMap kS (oneV (pI .i64)) m160 c166 b.states M167) ?_ ?_ N _ a w hL ⟨m0,vs_0,(Value.slice none 0 0),M23,c9,M10,Mem.le.refl _,ok,E.keep [3,13,14,15],(ir 0),hs_0,h24,h11⟩
 rotate_left
 ·intro e a w _ hO
  obtain ⟨rfl,m151,c152,c154,M155,c157,M158,hle,ok,E,h153,h156,h159⟩:=hO
  have le_m0:=le_m0.trans hle
  have hs_0:=(mL qaD).up hle hs_0
  refine qaz<|qaa<|sg<|mv E rfl fun a E=>aw E rfl fun a E=>wp_ret ?_
  exact fin hF ⟨m151,b12,c152,c154,M155,c157,M158,le_m0,(ok.pk 3 [1,0,2] rfl (by decide)),E.d,rz E rfl,h153,h156,h159⟩
 rintro ⟨v36,v37⟩ a w r ⟨m38,c40,c42,M43,c45,M46,hle,ok,E,r39,h41,h44,h47⟩ hF
 replace hF:qfr N s_0 v36 v37 = some r:=hF
 unfold qfr at hF
 have le_m0:=le_m0.trans hle
 have hs_0:=(mL qaD).up hle hs_0
 refine sg<|lw E (qat rfl rfl) fun a E=>wn<|wp_seq<|cg E rfl hF (fun c48 hF=>?_) fun c48 hF=>?_
 ·refine wp_exit<|qap ?_
  cases hF
  exact so (⟨rfl,⟨m38,c40,c42,M43,c45,M46,le_m0,ok,E.keep [3],h41,h44,h47⟩⟩)
 refine wp_skip<|qaa<|wp_seq<|wp_block<|sg<|mv E rfl fun a E=>?_
 obtain ⟨x49,e50,hF⟩:=bnd hF
 obtain ⟨b51,o52,es53,hl54,rr55,at56,yy57⟩:=ia E 13 15 qg6 hs_0 e50
 obtain ⟨c59,rfl,l58,h60⟩:=rr55
 refine lv E ok (yy57 _ _) fun a E=>lv E ok (qam (cs:=[vs x49.Name,c59]) qkk rfl rfl (qac.ro at56)) fun a E=>qaM E ok qgP rfl rfl fun b61 a w E ok=>av E rfl fun a E=>qai E ok 0 rfl rfl rfl qkc rfl rfl ⟨rfl,(qbi h60),trivial⟩ rfl rfl fun w ok=>wn<|wp_seq<|bd hF fun o62 hJ hF=>qa6 (Q':=fun e a w=>e = .normal ∧ ∃ c63 c65 M66 c68 M69,Ok u m38 ([(b61,oc 111 [vs x49.Name,c59])] :: M66 :: [(b12,oc 180 [c63,c65,c68])] :: M69 :: S) w ∧ Env 53 a [(3,vp b12),(5,vp b61),(13,vs_0),(14,(vi (s_0.length:Int))),(15,vi v36)] ∧ (pL 2 qbA) m38 [c63] o62.script ∧ ORow 181 1 (pL 1 (pL 1 (pP 256 (pGB 256)))) m38 c65 o62.bits M66 ∧ OMap kS (oneV (pI .i64)) m38 c68 o62.states M69) ?_ ?_
 ·have hF:=hJ
  obtain ⟨l71,e72,hF⟩:=bnd hF
  obtain rfl:=sj hF
  refine qcb [] (Cls u m38 ([(b61,oc 111 [vs x49.Name,c59])] :: M43 :: [])) (Cls u m38 ([(b61,oc 111 [vs x49.Name,c59])] :: M43 :: [])) (by kernel_rfl) ?_
  intro w hw
  replace ok:=qcB ok hw
  clear hw
  have le_m38:=Mem.le.refl m38
  refine qay (cl1 (cq le_m38 ok [0,1] rfl) (cq le_m38 ok [0,1] rfl)) fun hT=>kt 0 E rfl hT (qad rfl) fun a E=>kt 1 E rfl hT (qa7 rfl) fun a E=>kt 2 E rfl hT (qak qpS rfl) fun a E=>kt 4 E rfl hT (qak qjq rfl) fun a E=>kt 5 E rfl hT (qah qal rfl (qac.cown 0 rfl rfl)) fun a E=>kt 6 E rfl hT (qad rfl) fun a E=>qaZ [3] (by kernel_rfl) rfl (qa1 ?_)
  ·refine wo rfl<|ld E ok qme 2 rfl rfl rfl fun a E=>wn<|qay (cl1 (cq le_m38 ok [0,1] rfl) (cq le_m38 ok [0,1] rfl)) fun hT=>qaZ [7] (by kernel_rfl) rfl (qa1 ?_)
   ·refine wo rfl<|qkm (.inl rfl) E ok 3 (qeA Tryz.underlying9) Tryz.underlying130 h47 rfl rfl rfl rfl ⟨rfl,l58⟩ (qfI r39) e72 rfl fun M75 w ok h76=>wn<|qay (cl1 (cq le_m38 ok [0,1] rfl) (cq le_m38 ok [0,1] rfl)) fun hT=>qcl (by kernel_rfl) ?_
    exact ⟨rfl,⟨c40,c42,M43,c45,M75,ok,E.keep [3,5,13,14,15],h41,h44,h76⟩⟩
 intro e a w hO
 obtain ⟨rfl,c77,c79,M80,c82,M83,ok,E,h78,h81,h84⟩:=hO
 refine qaa<|sg<|aw E rfl fun a E=>wp_seq<|sg<|fk E ok qg0 qio rfl 0 rfl rfl fun a E=>lv E ok (qau qgq h60 rfl) fun a E=>mv E rfl fun a E=>wn<|wp_block ?_
 obtain ⟨M90,ok,h91⟩:=qck (e:=182) (k:=1) (R:=(pL 1 (pP 256 (pGB 256)))) ok
 refine bd hF fun o92 hL hF=>qax _ (fun (s:(List (List (Option (List Bool)))) × Int) a w=>∃ m93 c94 M95,m38.le m93 ∧ Ok u m93 (M95 :: [(b61,oc 111 [vs x49.Name,c59])] :: M80 :: [(b12,oc 180 [c77,c79,c82])] :: M83 :: S) w ∧ Env 53 a [(3,vp b12),(6,c94),(13,vs_0),(14,(vi (s_0.length:Int))),(15,vi v36),(28,c59),(29,(vi (x49.Rules.length:Int))),(30,vi s.2)] ∧ ORow 182 1 (pL 1 (pP 256 (pGB 256))) m93 c94 s.1 M95 ∧ InR .i64 s.2) (fun (b:((List (List (Option (List Bool)))))) e a w=>e = (.exit 2) ∧ ∃ m147 c148 M149,m38.le m147 ∧ Ok u m147 (M149 :: [(b61,oc 111 [vs x49.Name,c59])] :: M80 :: [(b12,oc 180 [c77,c79,c82])] :: M83 :: S) w ∧ Env 53 a [(3,vp b12),(6,c148),(13,vs_0),(14,(vi (s_0.length:Int))),(15,vi v36)] ∧ ORow 182 1 (pL 1 (pP 256 (pGB 256))) m147 c148 b M149) ?_ ?_ N _ a w hL ⟨m38,(Value.slice none 0 0),M90,Mem.le.refl _,ok,E.keep [3,6,13,14,15,28,29,30],h91,(ir 0)⟩
 rotate_left
 ·intro e a w _ hO
  obtain ⟨rfl,m133,c134,M135,hle,ok,E,h136⟩:=hO
  have le_m0:=le_m0.trans hle
  have hs_0:=(mL qaD).up hle hs_0
  have h41:=(mL qaD).up hle h41
  have h60:=(mL qdO).up hle h60
  have at56:=At.up hle at56
  have h78:=(mL qaD).up hle h78
  have h81:=ORow.up (mL (mL (mP (mGB 256)))) hle h81
  have h84:=OMap.up (qgt (mI .i64)) hle h84
  refine qaz<|qaa<|qab<|mz E rfl rfl fun a E=>lw E (qa7 rfl) fun a E=>fk E ok qmJ qqJ rfl 3 rfl rfl fun a E=>mv E rfl fun a E=>?_
  obtain ⟨m137,hle,ok,hfz⟩:=(ok.frs 0 rfl).freeze
  have h138:=ORow.froz (mL (mP (mGB 256))) h136 hle hfz (by decide)
  have le_m0:=le_m0.trans hle
  have hs_0:=(mL qaD).up hle hs_0
  have h41:=(mL qaD).up hle h41
  have h60:=(mL qdO).up hle h60
  have at56:=At.up hle at56
  have h78:=(mL qaD).up hle h78
  have h81:=ORow.up (mL (mL (mP (mGB 256)))) hle h81
  have h84:=OMap.up (qgt (mI .i64)) hle h84
  refine qaT (R:=(pL 1 (pL 1 (pP 256 (pGB 256))))) (xo:=[.tmp 46]) (xs:=([o92]:List (List (List (Option (List Bool)))))) E ok qo0 qo1 rfl ⟨⟨_,(qec h138),rfl,h138⟩,trivial⟩ rfl rfl rfl rfl fun c139 M140 a w E ok h141=>bd hF fun l142 e143 hF=>qbR (R:=(pL 1 (pL 1 (pP 256 (pGB 256))))) E ok 2 (mL (mL (mP (mGB 256)))) qo0 Tryz.underlying178 rfl h81 (qa3.ofRow h141 0 rfl ok) e143 ⟨_,qo1,rfl⟩ rfl rfl rfl rfl fun c144 M145 a w E ok h146=>lw E (qa7 rfl) fun a E=>fv E qmJ rfl fun a E=>qai E ok 3 rfl rfl rfl quc (ORow.cells h146) rfl ⟨(ORow.one h146),trivial⟩ rfl rfl fun w ok=>wpList_nil<|qaf<|qaa<|qab<|lw E (qar rfl rfl (InR.inc r39 (qaj hs_0) c48)) fun a E=>mv E rfl fun a E=>wpList_nil ?_
  cases hF
  exact qan ⟨m137,c77,c144,M145,c82,M83,le_m0,(ok.pk 5 [2,3,4] rfl (by decide)),E.keep [3,13,14,15],(InR.inc r39 (qaj hs_0) c48),h78,h146,h84⟩
 rintro ⟨v98,v99⟩ a w r ⟨m100,c101,M102,hle,ok,E,h103,r104⟩ hF
 replace hF:qer N x49 v98 v99 = some r:=hF
 unfold qer at hF
 have le_m38:=Mem.le.refl m38
 have le_m0:=le_m0.trans hle
 have le_m38:=le_m38.trans hle
 have hs_0:=(mL qaD).up hle hs_0
 have h41:=(mL qaD).up hle h41
 have h60:=(mL qdO).up hle h60
 have at56:=At.up hle at56
 have h78:=(mL qaD).up hle h78
 have h81:=ORow.up (mL (mL (mP (mGB 256)))) hle h81
 have h84:=OMap.up (qgt (mI .i64)) hle h84
 refine sg<|lw E (qat rfl rfl) fun a E=>wn<|wp_seq<|cg E rfl hF (fun c105 hF=>?_) fun c105 hF=>?_
 ·refine wp_exit<|qap ?_
  cases hF
  exact so (⟨rfl,⟨m100,c101,M102,le_m38,ok,E.keep [3,6,13,14,15],h103⟩⟩)
 refine wp_skip<|qaa<|wp_seq<|wp_block<|sg ?_
 obtain ⟨x106,e107,hF⟩:=bnd hF
 obtain ⟨b108,o109,es110,hl111,rr112,at113,yy114⟩:=ia E 28 30 qgq h60 e107
 obtain ⟨c116,rfl,l115,h117,l118⟩:=rr112
 refine lv E ok (yy114 _ _) fun a E=>lv E ok (qam (cs:=[vs x106.Kind,c116,vs x106.Next]) qi6 rfl rfl (qac.ro at113)) fun a E=>qaM E ok qhv rfl rfl fun b119 a w E ok=>qai E ok 0 rfl rfl rfl qmh rfl rfl ⟨rfl,(qbi h117),rfl,trivial⟩ rfl rfl fun w ok=>wn<|qab<|mv E rfl fun a E=>fk E ok qf7 qha rfl 0 rfl rfl fun a E=>bd hF fun r120 e121 hF=>qas E qww rfl (qnF N _ x106.Items h117 e121 hG ok) rfl rfl ?_
 rintro _ w ⟨m122,c123,rfl,hle,ok,h124⟩
 have le_m0:=le_m0.trans hle
 have le_m38:=le_m38.trans hle
 have hs_0:=(mL qaD).up hle hs_0
 have h41:=(mL qaD).up hle h41
 have h60:=(mL qdO).up hle h60
 have at56:=At.up hle at56
 have h78:=(mL qaD).up hle h78
 have h81:=ORow.up (mL (mL (mP (mGB 256)))) hle h81
 have h84:=OMap.up (qgt (mI .i64)) hle h84
 have h103:=ORow.up (mL (mP (mGB 256))) hle h103
 have h117:=(mL qdE).up hle h117
 have at113:=At.up hle at113
 refine ⟨_,rfl,fun a E=>?_⟩
 refine qaT (R:=(pL 1 (pP 256 (pGB 256)))) (xo:=[.tmp 37]) (xs:=([r120]:List (List (Option (List Bool))))) E ok qpB qp1 rfl ⟨⟨_,(qec h124),rfl,h124⟩,trivial⟩ rfl rfl rfl rfl fun c125 M126 a w E ok h127=>bd hF fun l128 e129 hF=>qbR (R:=(pL 1 (pP 256 (pGB 256)))) E ok 2 (mL (mP (mGB 256))) qpB Tryz.underlying181 rfl h103 (qa3.ofRow h127 0 rfl ok) e129 ⟨_,qp1,rfl⟩ rfl rfl rfl rfl fun c130 M131 a w E ok h132=>av E rfl fun a E=>wpList_nil<|qaf<|qaa<|qab<|lw E (qar rfl rfl (InR.inc r104 (qaj h60) c105)) fun a E=>mv E rfl fun a E=>wpList_nil ?_
 cases hF
 exact qan ⟨m122,c130,M131,le_m38,(ok.pk 7 [2,3,4,5,6] rfl (by decide)),E.keep [3,6,13,14,15,28,29,30],h132,(InR.inc r104 (qaj h60) c105)⟩
theorem qh6 {u:World} {m0:Mem} {S:Segs} {w:World} (N:Nat) (p0_0:List UInt8) (lp0_0:p0_0.length ≤ LIMS) (p1_1:List UInt8) (lp1_1:p1_1.length ≤ LIMS) {r:Bool} (hF:strings_HasPrefix N p0_0 p1_1 = some r) (hG:Glob u) (ok:Ok u m0 S w) :
 Calls Tryz.prog 126 [vs p0_0,vs p1_1].toArray w fun e w'=>(e = .returned (.bool r) ∧ Ok u m0 S w'):=qow Tryz.lays99 p0_0 p1_1 hF ok
def qmx (u:World) (m0:Mem) (S:Segs) (r:Int × Bool) (a:Act) (w:World):Prop :=
 Ok u m0 S w ∧ a.defers = [] ∧ RVs Tryz.prog a w [.t 6 (.int .i64 r.1),.t 7 (.bool r.2)] ∧ InR .i64 r.1
theorem qmB (N:Nat) (vx_0:List Value) (x_0:Item) (hx_0:qbt m0 vx_0 x_0) (vbits_1:Value) (bits_1:Option (List Bool)) (hbits_1:(pP 256 (pGB 256)) m0 [vbits_1] bits_1) (s_2:List UInt8) (ls_2:s_2.length ≤ LIMS) {r:Int × Bool} (hF:qiM N x_0 bits_1 s_2 = some r) (hG:Glob u) (ok:Ok u m0 S w) :
  Calls Tryz.prog 100 [.agg vx_0.toArray,vbits_1,vs s_2].toArray w fun e w'=>(e = .returned (.tuple [(.int .i64 r.1),(.bool r.2)].toArray) ∧ Ok u m0 S w') ∧ InR .i64 r.1:=by
 obtain ⟨c2,rfl,l1,h3,r4,r5⟩:=hx_0
 unfold qiM at hF
 refine en (qmx u m0 S) r Tryz.func100 rfl rfl rfl (by rintro a w ⟨ok,hd,hrv,h0⟩; exact qbs [.t 6 (.int .i64 r.1),.t 7 (.bool r.2)] hd rfl hrv ⟨⟨rfl,ok⟩,h0⟩) fun fin a E=>sg<|qcC E ok rfl rfl rfl fun b6 a w E ok=>av E rfl fun a E=>aw E rfl fun a E=>sg<|av E rfl fun a E=>aw E rfl fun a E=>wp_seq<|wp_block<|bd hF fun o9 hL hF=>qax _ (fun (s:Int × Int) a w=>Ok u m0 ([(b6,oc 154 [vs x_0.Text,c2,vb x_0.Not,vi x_0.Least,vi x_0.Most])] :: S) w ∧ Env 69 a [(1,vbits_1),(2,vs s_2),(3,vp b6),(8,vi s.1),(9,vi s.2)] ∧ InR .i64 s.1 ∧ InR .i64 s.2) (fun (b:((Int × Int) ⊕ (Int × Bool))) e a w=>(Sum.elim (fun b100=>e = (.exit 0) ∧ Ok u m0 ([(b6,oc 154 [vs x_0.Text,c2,vb x_0.Not,vi x_0.Least,vi x_0.Most])] :: S) w ∧ Env 69 a [(3,vp b6),(8,vi b100.1),(9,vi b100.2)] ∧ InR .i64 b100.1 ∧ InR .i64 b100.2) (fun b103=>e = .ret ∧ qmx u m0 S b103 a w)) b) ?_ ?_ N _ a w hL ⟨ok,E.keep [1,2,3,8,9],(ir 0),(ir 0)⟩
 rotate_left
 ·intro e a w _ hO
  rcases o9 with o9 | o9
  rotate_left
  ·obtain ⟨rfl,hret⟩:=hO
   refine qag<|qae ?_
   exact fin hF hret
  have hF:=qaX hF
  obtain ⟨rfl,ok,E,r98,r99⟩:=hO
  refine qaz<|qaa<|wp_seq<|qaY (by kernel_rfl) (by kernel_rfl) ok<|qv E (qad rfl) fun a E=>qv E (qad rfl) fun a E=>qv E (qak qdM rfl) fun a E=>qv E (qah qaJ rfl (qac.own 0 rfl rfl)) fun a E=>qv E (qa2 rfl rfl) fun a E=>qv E (qaq rfl) fun a E=>qv E (qaq rfl) fun a E=>wpQuiet_nil ?_
  intro w ok
  refine qaa<|wp_ret ?_
  exact fin hF ⟨ok.drop,E.d,⟨rv_t E rfl,rv_t E rfl,trivial⟩,r98⟩
 rintro ⟨v12,v13⟩ a w r ⟨ok,E,r14,r15⟩ hF
 replace hF:qe1 N x_0 bits_1 s_2 v12 v13 = some r:=hF
 unfold qe1 at hF
 refine wp_seq<|sg<|fk E ok qmI qaJ rfl 0 rfl rfl fun a E=>lw E (qat rfl rfl) fun a E=>mv E rfl fun a E=>bu E 13 hF (fun c16 hF E=>?_) fun c16 hF E=>?_
 ·as_aux_lemma =>
   refine lsz E fun a E=>pt E rfl rfl fun a E=>wn<|c_if E rfl (fun _=>?_) (fun h=>by cases h)
   refine wp_skip<|qaa<|wp_block<|wp_seq<|wp_block<|wp_seq<|qaY (by kernel_rfl) (by kernel_rfl) ok<|qv E (qak qcV rfl) fun a E=>qv E (qah qal rfl (qac.own 0 rfl rfl)) fun a E=>qv E (qbn rfl rfl) fun a E=>qv E (qad rfl) fun a E=>bw E 28 hF (fun c17 hF E=>?_) fun c17 hF E=>?_
   ·as_aux_lemma =>
     refine qs E fun a E=>qs E fun a E=>qs E fun a E=>qs E fun a E=>qs E fun a E=>qs E fun a E=>qv E (qbq rfl rfl) fun a E=>qv E (qaq rfl) fun a E=>wpQuiet_nil ?_
     intro w ok
     refine qaa<|c_if E rfl (fun h=>by cases h) (fun _=>?_)
     refine wp_seq<|qaY (by kernel_rfl) (by kernel_rfl) ok<|qv E (qak qcV rfl) fun a E=>qv E (qah qal rfl (qac.own 0 rfl rfl)) fun a E=>qv E (qaG rfl rfl) fun a E=>qv E (qad rfl) fun a E=>bw E 45 hF (fun c40 hF E=>?_) fun c40 hF E=>?_
     ·refine qs E fun a E=>qs E fun a E=>qs E fun a E=>qs E fun a E=>qv E (qbq rfl rfl) fun a E=>qv E (qad rfl) fun a E=>qs E fun a E=>qs E fun a E=>qs E fun a E=>qs E fun a E=>qs E fun a E=>qs E fun a E=>qs E fun a E=>qv E (qbq rfl rfl) fun a E=>qv E (qaq rfl) fun a E=>wpQuiet_nil ?_
      intro w ok
      refine qaa<|c_if E rfl (fun h=>by cases h) (fun _=>?_)
      refine wp_seq<|qaY (by kernel_rfl) (by kernel_rfl) ok<|qv E (qad rfl) fun a E=>qv E (qad rfl) fun a E=>qv E (qak qdM rfl) fun a E=>qv E (qah qaJ rfl (qac.own 0 rfl rfl)) fun a E=>qv E (qa2 rfl rfl) fun a E=>qv E (qaq rfl) fun a E=>qv E (qaq rfl) fun a E=>wpQuiet_nil ?_
      intro w ok
      refine qaa<|wp_ret<|qag<|qae<|qag ?_
      cases hF
      exact so (sr ⟨rfl,⟨ok.drop,E.d,⟨rv_t E rfl,rv_t E rfl,trivial⟩,r14⟩⟩)
     refine qv E (qad rfl) fun a E=>qv E (qad rfl) fun a E=>qv E (qaA Tryz.underlying9 rfl) fun a E=>qv E (qat rfl rfl) fun a E=>qv E (qb5 rfl rfl) fun a E=>qv E (qad rfl) fun a E=>bw E 51 hF (fun c41 hF E=>?_) fun c41 hF E=>?_
     ·refine qs E fun a E=>qs E fun a E=>qs E fun a E=>qs E fun a E=>qs E fun a E=>qs E fun a E=>qs E fun a E=>qv E (qbq rfl rfl) fun a E=>qv E (qaq rfl) fun a E=>wpQuiet_nil ?_
      intro w ok
      refine qaa<|c_if E rfl (fun h=>by cases h) (fun _=>?_)
      refine wp_seq<|qaY (by kernel_rfl) (by kernel_rfl) ok<|qv E (qad rfl) fun a E=>qv E (qad rfl) fun a E=>qv E (qak qdM rfl) fun a E=>qv E (qah qaJ rfl (qac.own 0 rfl rfl)) fun a E=>qv E (qa2 rfl rfl) fun a E=>qv E (qaq rfl) fun a E=>qv E (qaq rfl) fun a E=>wpQuiet_nil ?_
      intro w ok
      refine qaa<|wp_ret<|qag<|qae<|qag ?_
      cases hF
      exact so (sr ⟨rfl,⟨ok.drop,E.d,⟨rv_t E rfl,rv_t E rfl,trivial⟩,r14⟩⟩)
     refine qv E (qad rfl) fun a E=>qv E (qad rfl) fun a E=>qv E (qad rfl) fun a E=>bd hF fun c42 e43 hF=>qv E (qaQ Tryz.underlying9 rfl rfl e43) fun a E=>?_
     obtain ⟨y44,e45,hF⟩:=bnd hF
     obtain ⟨b46,o47,es48,hv49,hl50,hR51,at52⟩:=ql0 hbits_1 e45
     obtain ⟨rfl,l53⟩:=hR51
     refine qv E (qiw hv49 rfl) fun a E=>bd hF fun x54 e55 hF=>qv E (qkv (f:=Value.bool) (q:=fun _=>True) qkq l53 rfl rfl e55) fun a E=>qv E (qah qhb rfl (qac.idx (xs:=y44) (f:=Value.bool) (qac.ro at52) e55)) fun a E=>qv E (qb5 rfl rfl) fun a E=>qv E (qaq rfl) fun a E=>wpQuiet_nil ?_
     intro w ok
     refine qaa<|cf E rfl hF (fun c56 hF=>?_) fun c56 hF=>?_
     ·refine qab<|mv E rfl fun a E=>lw E (qar rfl rfl (InR.inc r14 (InR.len ls_2) c41)) fun a E=>av E rfl fun a E=>wpList_nil<|qaf<|qaa<|qab<|mv E rfl fun a E=>lw E (qav rfl rfl) fun a E=>av E rfl fun a E=>wpList_nil<|qaf ?_
      cases hF
      exact qan ⟨ok,E.keep [1,2,3,8,9],(InR.inc r14 (InR.len ls_2) c41),(InR.wrap _ _)⟩
     refine wp_seq<|qaY (by kernel_rfl) (by kernel_rfl) ok<|qv E (qad rfl) fun a E=>qv E (qad rfl) fun a E=>qv E (qak qdM rfl) fun a E=>qv E (qah qaJ rfl (qac.own 0 rfl rfl)) fun a E=>qv E (qa2 rfl rfl) fun a E=>qv E (qaq rfl) fun a E=>qv E (qaq rfl) fun a E=>wpQuiet_nil ?_
     intro w ok
     refine qaa<|wp_ret<|qag<|qae<|qag ?_
     cases hF
     exact so (sr ⟨rfl,⟨ok.drop,E.d,⟨rv_t E rfl,rv_t E rfl,trivial⟩,r14⟩⟩)
   refine qv E (qad rfl) fun a E=>qv E (qad rfl) fun a E=>bd hF fun s18 e19 hF=>qv E (qaF Tryz.underlying9 e19 rfl ⟨_,rfl⟩ rfl) fun a E=>qv E (qak qcV rfl) fun a E=>qv E (qah qal rfl (qac.own 0 rfl rfl)) fun a E=>bd hF fun r20 e21 hF=>qfZ E qr8 rfl (fun w ok=>(qh6 N s18 (Nat.le_trans (qbr e19) ls_2) x_0.Text l1 e21 hG ok).mono (fun _ _ h=>h)) rfl rfl fun a E=>qv E (qb5 rfl rfl) fun a E=>qv E (qaq rfl) fun a E=>wpQuiet_nil ?_
   intro w ok
   refine qaa<|cf E rfl hF (fun c22 hF=>?_) fun c22 hF=>?_
   ·refine qab<|mv E rfl fun a E=>fk E ok qcV qal rfl 0 rfl rfl fun a E=>lw E (qaA Tryz.underlying9 rfl) fun a E=>lw E (qav rfl rfl) fun a E=>av E rfl fun a E=>wpList_nil<|qaf<|qaa<|qab<|mv E rfl fun a E=>lw E (qav rfl rfl) fun a E=>av E rfl fun a E=>wpList_nil<|qaf ?_
    cases hF
    exact qan ⟨ok,E.keep [1,2,3,8,9],(InR.wrap _ _),(InR.wrap _ _)⟩
   refine wp_seq<|qaY (by kernel_rfl) (by kernel_rfl) ok<|qv E (qak qcV rfl) fun a E=>qv E (qah qal rfl (qac.own 0 rfl rfl)) fun a E=>qv E (qaG rfl rfl) fun a E=>qv E (qad rfl) fun a E=>bw E 45 hF (fun c23 hF E=>?_) fun c23 hF E=>?_
   ·refine qs E fun a E=>qs E fun a E=>qs E fun a E=>qs E fun a E=>qv E (qbq rfl rfl) fun a E=>qv E (qad rfl) fun a E=>qs E fun a E=>qs E fun a E=>qs E fun a E=>qs E fun a E=>qs E fun a E=>qs E fun a E=>qs E fun a E=>qv E (qbq rfl rfl) fun a E=>qv E (qaq rfl) fun a E=>wpQuiet_nil ?_
    intro w ok
    refine qaa<|c_if E rfl (fun h=>by cases h) (fun _=>?_)
    refine wp_seq<|qaY (by kernel_rfl) (by kernel_rfl) ok<|qv E (qad rfl) fun a E=>qv E (qad rfl) fun a E=>qv E (qak qdM rfl) fun a E=>qv E (qah qaJ rfl (qac.own 0 rfl rfl)) fun a E=>qv E (qa2 rfl rfl) fun a E=>qv E (qaq rfl) fun a E=>qv E (qaq rfl) fun a E=>wpQuiet_nil ?_
    intro w ok
    refine qaa<|wp_ret<|qag<|qae<|qag ?_
    cases hF
    exact so (sr ⟨rfl,⟨ok.drop,E.d,⟨rv_t E rfl,rv_t E rfl,trivial⟩,r14⟩⟩)
   refine qv E (qad rfl) fun a E=>qv E (qad rfl) fun a E=>qv E (qaA Tryz.underlying9 rfl) fun a E=>qv E (qat rfl rfl) fun a E=>qv E (qb5 rfl rfl) fun a E=>qv E (qad rfl) fun a E=>bw E 51 hF (fun c24 hF E=>?_) fun c24 hF E=>?_
   ·refine qs E fun a E=>qs E fun a E=>qs E fun a E=>qs E fun a E=>qs E fun a E=>qs E fun a E=>qs E fun a E=>qv E (qbq rfl rfl) fun a E=>qv E (qaq rfl) fun a E=>wpQuiet_nil ?_
    intro w ok
    refine qaa<|c_if E rfl (fun h=>by cases h) (fun _=>?_)
    refine wp_seq<|qaY (by kernel_rfl) (by kernel_rfl) ok<|qv E (qad rfl) fun a E=>qv E (qad rfl) fun a E=>qv E (qak qdM rfl) fun a E=>qv E (qah qaJ rfl (qac.own 0 rfl rfl)) fun a E=>qv E (qa2 rfl rfl) fun a E=>qv E (qaq rfl) fun a E=>qv E (qaq rfl) fun a E=>wpQuiet_nil ?_
    intro w ok
    refine qaa<|wp_ret<|qag<|qae<|qag ?_
    cases hF
    exact so (sr ⟨rfl,⟨ok.drop,E.d,⟨rv_t E rfl,rv_t E rfl,trivial⟩,r14⟩⟩)
   refine qv E (qad rfl) fun a E=>qv E (qad rfl) fun a E=>qv E (qad rfl) fun a E=>bd hF fun c25 e26 hF=>qv E (qaQ Tryz.underlying9 rfl rfl e26) fun a E=>?_
   obtain ⟨y27,e28,hF⟩:=bnd hF
   obtain ⟨b29,o30,es31,hv32,hl33,hR34,at35⟩:=ql0 hbits_1 e28
   obtain ⟨rfl,l36⟩:=hR34
   refine qv E (qiw hv32 rfl) fun a E=>bd hF fun x37 e38 hF=>qv E (qkv (f:=Value.bool) (q:=fun _=>True) qkq l36 rfl rfl e38) fun a E=>qv E (qah qhb rfl (qac.idx (xs:=y27) (f:=Value.bool) (qac.ro at35) e38)) fun a E=>qv E (qb5 rfl rfl) fun a E=>qv E (qaq rfl) fun a E=>wpQuiet_nil ?_
   intro w ok
   refine qaa<|cf E rfl hF (fun c39 hF=>?_) fun c39 hF=>?_
   ·refine qab<|mv E rfl fun a E=>lw E (qar rfl rfl (InR.inc r14 (InR.len ls_2) c24)) fun a E=>av E rfl fun a E=>wpList_nil<|qaf<|qaa<|qab<|mv E rfl fun a E=>lw E (qav rfl rfl) fun a E=>av E rfl fun a E=>wpList_nil<|qaf ?_
    cases hF
    exact qan ⟨ok,E.keep [1,2,3,8,9],(InR.inc r14 (InR.len ls_2) c24),(InR.wrap _ _)⟩
   refine wp_seq<|qaY (by kernel_rfl) (by kernel_rfl) ok<|qv E (qad rfl) fun a E=>qv E (qad rfl) fun a E=>qv E (qak qdM rfl) fun a E=>qv E (qah qaJ rfl (qac.own 0 rfl rfl)) fun a E=>qv E (qa2 rfl rfl) fun a E=>qv E (qaq rfl) fun a E=>qv E (qaq rfl) fun a E=>wpQuiet_nil ?_
   intro w ok
   refine qaa<|wp_ret<|qag<|qae<|qag ?_
   cases hF
   exact so (sr ⟨rfl,⟨ok.drop,E.d,⟨rv_t E rfl,rv_t E rfl,trivial⟩,r14⟩⟩)
 refine mv E rfl fun a E=>fk E ok qmI qaJ rfl 0 rfl rfl fun a E=>lw E (qat rfl rfl) fun a E=>pf E rfl rfl fun a E=>wn<|cg E rfl hF (fun c57 hF=>?_) fun c57 hF=>?_
 ·refine wp_exit<|qap ?_
  cases hF
  exact so (sl ⟨rfl,⟨ok,E.keep [3,8,9],r14,r15⟩⟩)
 refine wp_skip<|qaa<|wp_block<|wp_seq<|wp_block<|wp_seq<|qaY (by kernel_rfl) (by kernel_rfl) ok<|qv E (qak qcV rfl) fun a E=>qv E (qah qal rfl (qac.own 0 rfl rfl)) fun a E=>qv E (qbn rfl rfl) fun a E=>qv E (qad rfl) fun a E=>bw E 28 hF (fun c58 hF E=>?_) fun c58 hF E=>?_
 ·as_aux_lemma =>
   refine qs E fun a E=>qs E fun a E=>qs E fun a E=>qs E fun a E=>qs E fun a E=>qs E fun a E=>qv E (qbq rfl rfl) fun a E=>qv E (qaq rfl) fun a E=>wpQuiet_nil ?_
   intro w ok
   refine qaa<|c_if E rfl (fun h=>by cases h) (fun _=>?_)
   refine wp_seq<|qaY (by kernel_rfl) (by kernel_rfl) ok<|qv E (qak qcV rfl) fun a E=>qv E (qah qal rfl (qac.own 0 rfl rfl)) fun a E=>qv E (qaG rfl rfl) fun a E=>qv E (qad rfl) fun a E=>bw E 45 hF (fun c81 hF E=>?_) fun c81 hF E=>?_
   ·refine qs E fun a E=>qs E fun a E=>qs E fun a E=>qs E fun a E=>qv E (qbq rfl rfl) fun a E=>qv E (qad rfl) fun a E=>qs E fun a E=>qs E fun a E=>qs E fun a E=>qs E fun a E=>qs E fun a E=>qs E fun a E=>qs E fun a E=>qv E (qbq rfl rfl) fun a E=>qv E (qaq rfl) fun a E=>wpQuiet_nil ?_
    intro w ok
    refine qaa<|c_if E rfl (fun h=>by cases h) (fun _=>?_)
    refine wp_seq<|qaY (by kernel_rfl) (by kernel_rfl) ok<|qv E (qad rfl) fun a E=>qv E (qad rfl) fun a E=>qv E (qak qdM rfl) fun a E=>qv E (qah qaJ rfl (qac.own 0 rfl rfl)) fun a E=>qv E (qa2 rfl rfl) fun a E=>qv E (qaq rfl) fun a E=>qv E (qaq rfl) fun a E=>wpQuiet_nil ?_
    intro w ok
    refine qaa<|wp_ret<|qag<|qae<|qag ?_
    cases hF
    exact so (sr ⟨rfl,⟨ok.drop,E.d,⟨rv_t E rfl,rv_t E rfl,trivial⟩,r14⟩⟩)
   refine qv E (qad rfl) fun a E=>qv E (qad rfl) fun a E=>qv E (qaA Tryz.underlying9 rfl) fun a E=>qv E (qat rfl rfl) fun a E=>qv E (qb5 rfl rfl) fun a E=>qv E (qad rfl) fun a E=>bw E 51 hF (fun c82 hF E=>?_) fun c82 hF E=>?_
   ·refine qs E fun a E=>qs E fun a E=>qs E fun a E=>qs E fun a E=>qs E fun a E=>qs E fun a E=>qs E fun a E=>qv E (qbq rfl rfl) fun a E=>qv E (qaq rfl) fun a E=>wpQuiet_nil ?_
    intro w ok
    refine qaa<|c_if E rfl (fun h=>by cases h) (fun _=>?_)
    refine wp_seq<|qaY (by kernel_rfl) (by kernel_rfl) ok<|qv E (qad rfl) fun a E=>qv E (qad rfl) fun a E=>qv E (qak qdM rfl) fun a E=>qv E (qah qaJ rfl (qac.own 0 rfl rfl)) fun a E=>qv E (qa2 rfl rfl) fun a E=>qv E (qaq rfl) fun a E=>qv E (qaq rfl) fun a E=>wpQuiet_nil ?_
    intro w ok
    refine qaa<|wp_ret<|qag<|qae<|qag ?_
    cases hF
    exact so (sr ⟨rfl,⟨ok.drop,E.d,⟨rv_t E rfl,rv_t E rfl,trivial⟩,r14⟩⟩)
   refine qv E (qad rfl) fun a E=>qv E (qad rfl) fun a E=>qv E (qad rfl) fun a E=>bd hF fun c83 e84 hF=>qv E (qaQ Tryz.underlying9 rfl rfl e84) fun a E=>?_
   obtain ⟨y85,e86,hF⟩:=bnd hF
   obtain ⟨b87,o88,es89,hv90,hl91,hR92,at93⟩:=ql0 hbits_1 e86
   obtain ⟨rfl,l94⟩:=hR92
   refine qv E (qiw hv90 rfl) fun a E=>bd hF fun x95 e96 hF=>qv E (qkv (f:=Value.bool) (q:=fun _=>True) qkq l94 rfl rfl e96) fun a E=>qv E (qah qhb rfl (qac.idx (xs:=y85) (f:=Value.bool) (qac.ro at93) e96)) fun a E=>qv E (qb5 rfl rfl) fun a E=>qv E (qaq rfl) fun a E=>wpQuiet_nil ?_
   intro w ok
   refine qaa<|cf E rfl hF (fun c97 hF=>?_) fun c97 hF=>?_
   ·refine qab<|mv E rfl fun a E=>lw E (qar rfl rfl (InR.inc r14 (InR.len ls_2) c82)) fun a E=>av E rfl fun a E=>wpList_nil<|qaf<|qaa<|qab<|mv E rfl fun a E=>lw E (qar rfl rfl (InR.inc r15 r5 c57)) fun a E=>av E rfl fun a E=>wpList_nil<|qaf ?_
    cases hF
    exact qan ⟨ok,E.keep [1,2,3,8,9],(InR.inc r14 (InR.len ls_2) c82),(InR.inc r15 r5 c57)⟩
   refine wp_seq<|qaY (by kernel_rfl) (by kernel_rfl) ok<|qv E (qad rfl) fun a E=>qv E (qad rfl) fun a E=>qv E (qak qdM rfl) fun a E=>qv E (qah qaJ rfl (qac.own 0 rfl rfl)) fun a E=>qv E (qa2 rfl rfl) fun a E=>qv E (qaq rfl) fun a E=>qv E (qaq rfl) fun a E=>wpQuiet_nil ?_
   intro w ok
   refine qaa<|wp_ret<|qag<|qae<|qag ?_
   cases hF
   exact so (sr ⟨rfl,⟨ok.drop,E.d,⟨rv_t E rfl,rv_t E rfl,trivial⟩,r14⟩⟩)
 refine qv E (qad rfl) fun a E=>qv E (qad rfl) fun a E=>bd hF fun s59 e60 hF=>qv E (qaF Tryz.underlying9 e60 rfl ⟨_,rfl⟩ rfl) fun a E=>qv E (qak qcV rfl) fun a E=>qv E (qah qal rfl (qac.own 0 rfl rfl)) fun a E=>bd hF fun r61 e62 hF=>qfZ E qr8 rfl (fun w ok=>(qh6 N s59 (Nat.le_trans (qbr e60) ls_2) x_0.Text l1 e62 hG ok).mono (fun _ _ h=>h)) rfl rfl fun a E=>qv E (qb5 rfl rfl) fun a E=>qv E (qaq rfl) fun a E=>wpQuiet_nil ?_
 intro w ok
 refine qaa<|cf E rfl hF (fun c63 hF=>?_) fun c63 hF=>?_
 ·refine qab<|mv E rfl fun a E=>fk E ok qcV qal rfl 0 rfl rfl fun a E=>lw E (qaA Tryz.underlying9 rfl) fun a E=>lw E (qav rfl rfl) fun a E=>av E rfl fun a E=>wpList_nil<|qaf<|qaa<|qab<|mv E rfl fun a E=>lw E (qar rfl rfl (InR.inc r15 r5 c57)) fun a E=>av E rfl fun a E=>wpList_nil<|qaf ?_
  cases hF
  exact qan ⟨ok,E.keep [1,2,3,8,9],(InR.wrap _ _),(InR.inc r15 r5 c57)⟩
 refine wp_seq<|qaY (by kernel_rfl) (by kernel_rfl) ok<|qv E (qak qcV rfl) fun a E=>qv E (qah qal rfl (qac.own 0 rfl rfl)) fun a E=>qv E (qaG rfl rfl) fun a E=>qv E (qad rfl) fun a E=>bw E 45 hF (fun c64 hF E=>?_) fun c64 hF E=>?_
 ·refine qs E fun a E=>qs E fun a E=>qs E fun a E=>qs E fun a E=>qv E (qbq rfl rfl) fun a E=>qv E (qad rfl) fun a E=>qs E fun a E=>qs E fun a E=>qs E fun a E=>qs E fun a E=>qs E fun a E=>qs E fun a E=>qs E fun a E=>qv E (qbq rfl rfl) fun a E=>qv E (qaq rfl) fun a E=>wpQuiet_nil ?_
  intro w ok
  refine qaa<|c_if E rfl (fun h=>by cases h) (fun _=>?_)
  refine wp_seq<|qaY (by kernel_rfl) (by kernel_rfl) ok<|qv E (qad rfl) fun a E=>qv E (qad rfl) fun a E=>qv E (qak qdM rfl) fun a E=>qv E (qah qaJ rfl (qac.own 0 rfl rfl)) fun a E=>qv E (qa2 rfl rfl) fun a E=>qv E (qaq rfl) fun a E=>qv E (qaq rfl) fun a E=>wpQuiet_nil ?_
  intro w ok
  refine qaa<|wp_ret<|qag<|qae<|qag ?_
  cases hF
  exact so (sr ⟨rfl,⟨ok.drop,E.d,⟨rv_t E rfl,rv_t E rfl,trivial⟩,r14⟩⟩)
 refine qv E (qad rfl) fun a E=>qv E (qad rfl) fun a E=>qv E (qaA Tryz.underlying9 rfl) fun a E=>qv E (qat rfl rfl) fun a E=>qv E (qb5 rfl rfl) fun a E=>qv E (qad rfl) fun a E=>bw E 51 hF (fun c65 hF E=>?_) fun c65 hF E=>?_
 ·refine qs E fun a E=>qs E fun a E=>qs E fun a E=>qs E fun a E=>qs E fun a E=>qs E fun a E=>qs E fun a E=>qv E (qbq rfl rfl) fun a E=>qv E (qaq rfl) fun a E=>wpQuiet_nil ?_
  intro w ok
  refine qaa<|c_if E rfl (fun h=>by cases h) (fun _=>?_)
  refine wp_seq<|qaY (by kernel_rfl) (by kernel_rfl) ok<|qv E (qad rfl) fun a E=>qv E (qad rfl) fun a E=>qv E (qak qdM rfl) fun a E=>qv E (qah qaJ rfl (qac.own 0 rfl rfl)) fun a E=>qv E (qa2 rfl rfl) fun a E=>qv E (qaq rfl) fun a E=>qv E (qaq rfl) fun a E=>wpQuiet_nil ?_
  intro w ok
  refine qaa<|wp_ret<|qag<|qae<|qag ?_
  cases hF
  exact so (sr ⟨rfl,⟨ok.drop,E.d,⟨rv_t E rfl,rv_t E rfl,trivial⟩,r14⟩⟩)
 refine qv E (qad rfl) fun a E=>qv E (qad rfl) fun a E=>qv E (qad rfl) fun a E=>bd hF fun c66 e67 hF=>qv E (qaQ Tryz.underlying9 rfl rfl e67) fun a E=>?_
 obtain ⟨y68,e69,hF⟩:=bnd hF
 obtain ⟨b70,o71,es72,hv73,hl74,hR75,at76⟩:=ql0 hbits_1 e69
 obtain ⟨rfl,l77⟩:=hR75
 refine qv E (qiw hv73 rfl) fun a E=>bd hF fun x78 e79 hF=>qv E (qkv (f:=Value.bool) (q:=fun _=>True) qkq l77 rfl rfl e79) fun a E=>qv E (qah qhb rfl (qac.idx (xs:=y68) (f:=Value.bool) (qac.ro at76) e79)) fun a E=>qv E (qb5 rfl rfl) fun a E=>qv E (qaq rfl) fun a E=>wpQuiet_nil ?_
 intro w ok
 refine qaa<|cf E rfl hF (fun c80 hF=>?_) fun c80 hF=>?_
 ·refine qab<|mv E rfl fun a E=>lw E (qar rfl rfl (InR.inc r14 (InR.len ls_2) c65)) fun a E=>av E rfl fun a E=>wpList_nil<|qaf<|qaa<|qab<|mv E rfl fun a E=>lw E (qar rfl rfl (InR.inc r15 r5 c57)) fun a E=>av E rfl fun a E=>wpList_nil<|qaf ?_
  cases hF
  exact qan ⟨ok,E.keep [1,2,3,8,9],(InR.inc r14 (InR.len ls_2) c65),(InR.inc r15 r5 c57)⟩
 refine wp_seq<|qaY (by kernel_rfl) (by kernel_rfl) ok<|qv E (qad rfl) fun a E=>qv E (qad rfl) fun a E=>qv E (qak qdM rfl) fun a E=>qv E (qah qaJ rfl (qac.own 0 rfl rfl)) fun a E=>qv E (qa2 rfl rfl) fun a E=>qv E (qaq rfl) fun a E=>qv E (qaq rfl) fun a E=>wpQuiet_nil ?_
 intro w ok
 refine qaa<|wp_ret<|qag<|qae<|qag ?_
 cases hF
 exact so (sr ⟨rfl,⟨ok.drop,E.d,⟨rv_t E rfl,rv_t E rfl,trivial⟩,r14⟩⟩)
def qlK (u:World) (m0:Mem) (S:Segs) (r:Int × Bool) (a:Act) (w:World):Prop :=
 Ok u m0 S w ∧ a.defers = [] ∧ RVs Tryz.prog a w [.t 6 (.int .i64 r.1),.t 7 (.bool r.2)] ∧ InR .i64 r.1
theorem qlv (N:Nat) (vitems_0:Value) (items_0:List (Item)) (hitems_0:(pL 5 qbt) m0 [vitems_0] items_0) (vbits_1:Value) (bits_1:List (Option (List Bool))) (hbits_1:(pL 1 (pP 256 (pGB 256))) m0 [vbits_1] bits_1) (s_2:List UInt8) (ls_2:s_2.length ≤ LIMS) {r:Int × Bool} (hF:qhX N items_0 bits_1 s_2 = some r) (hG:Glob u) (ok:Ok u m0 S w) :
  Calls Tryz.prog 82 [vitems_0,vbits_1,vs s_2].toArray w fun e w'=>(e = .returned (.tuple [(.int .i64 r.1),(.bool r.2)].toArray) ∧ Ok u m0 S w') ∧ InR .i64 r.1:=by
 unfold qhX at hF
 refine en (qlK u m0 S) r Tryz.func82 rfl rfl rfl (by rintro a w ⟨ok,hd,hrv,h0⟩; exact qbs [.t 6 (.int .i64 r.1),.t 7 (.bool r.2)] hd rfl hrv ⟨⟨rfl,ok⟩,h0⟩) fun fin a E=>sg<|av E rfl fun a E=>aw E rfl fun a E=>sg<|aw E rfl fun a E=>wp_seq<|sg<|mv E rfl fun a E=>lv E ok (qau qeZ hitems_0 rfl) fun a E=>mv E rfl fun a E=>wn<|wp_block<|bd hF fun o3 hL hF=>qax _ (fun (s:Int × Int) a w=>Ok u m0 (S) w ∧ Env 39 a [(1,vbits_1),(2,vs s_2),(8,vi s.1),(13,vitems_0),(14,(vi (items_0.length:Int))),(15,vi s.2)] ∧ InR .i64 s.1 ∧ InR .i64 s.2) (fun (b:(Int ⊕ (Int × Bool))) e a w=>(Sum.elim (fun b44=>e = (.exit 0) ∧ Ok u m0 (S) w ∧ Env 39 a [(8,vi b44)] ∧ InR .i64 b44) (fun b46=>e = .ret ∧ qlK u m0 S b46 a w)) b) ?_ ?_ N _ a w hL ⟨ok,E.keep [1,2,8,13,14,15],(ir 0),(ir 0)⟩
 rotate_left
 ·intro e a w _ hO
  rcases o3 with o3 | o3
  rotate_left
  ·obtain ⟨rfl,hret⟩:=hO
   refine qag<|qae ?_
   exact fin hF hret
  have hF:=qaX hF
  obtain ⟨rfl,ok,E,r43⟩:=hO
  refine qaz<|qaa<|sg<|mv E rfl fun a E=>av E rfl fun a E=>av E rfl fun a E=>wn<|wp_ret ?_
  exact fin hF ⟨ok,E.d,⟨rv_t E rfl,rv_t E rfl,trivial⟩,r43⟩
 rintro ⟨v6,v7⟩ a w r ⟨ok,E,r8,r9⟩ hF
 replace hF:qdb N items_0 bits_1 s_2 v6 v7 = some r:=hF
 unfold qdb at hF
 refine sg<|lw E (qat rfl rfl) fun a E=>wn<|wp_seq<|cg E rfl hF (fun c10 hF=>?_) fun c10 hF=>?_
 ·refine wp_exit<|qap ?_
  cases hF
  exact so (sl ⟨rfl,⟨ok,E.keep [8],r8⟩⟩)
 refine wp_skip<|qaa<|wp_seq<|wp_block<|sg<|mv E rfl fun a E=>?_
 obtain ⟨x11,e12,hF⟩:=bnd hF
 obtain ⟨b13,o14,es15,hl16,rr17,at18,yy19⟩:=ia E 13 15 qeZ hitems_0 e12
 obtain ⟨c21,rfl,l20,h22,r23,r24⟩:=rr17
 refine lv E ok (yy19 _ _) fun a E=>lv E ok (qam (cs:=[vs x11.Text,c21,vb x11.Not,vi x11.Least,vi x11.Most]) qfX rfl rfl (qac.ro at18)) fun a E=>qaM E ok qhC rfl rfl fun b25 a w E ok=>av E rfl fun a E=>qai E ok 0 rfl rfl rfl qlY rfl rfl ⟨rfl,(qbi h22),rfl,rfl,rfl,trivial⟩ rfl rfl fun w ok=>wn<|wp_seq<|qaY (by kernel_rfl) (by kernel_rfl) ok<|qv E (qam (cs:=[vs x11.Text,c21,vb x11.Not,vi x11.Least,vi x11.Most]) qfX rfl rfl (qac.own 0 rfl rfl)) fun a E=>qv E (qad rfl) fun a E=>qv E (qad rfl) fun a E=>?_
 obtain ⟨x26,e27,hF⟩:=bnd hF
 obtain ⟨b28,o29,es30,hl31,rr32,at33,yy34⟩:=ia E 22 23 qo6 hbits_1 e27
 obtain ⟨c35,rfl,h36⟩:=quz rr32
 refine qv E (yy34 _ _) fun a E=>qv E (qah qum rfl (qac.ro at33)) fun a E=>qv E (qad rfl) fun a E=>qv E (qad rfl) fun a E=>bd hF fun s37 e38 hF=>qv E (qaF Tryz.underlying9 e38 rfl ⟨_,rfl⟩ rfl) fun a E=>?_
 obtain ⟨r39,e40,hF⟩:=bnd hF
 obtain ⟨_,_,⟨_,_⟩,r41⟩:=Go.X.Calls.get (qmB N _ x11 ⟨_,rfl,l20,h22,r23,r24⟩ _ x26 h36 s37 (Nat.le_trans (qbr e38) ls_2) e40 hG ok)
 refine qfZ E qvn rfl (fun w ok=>(qmB N _ x11 ⟨_,rfl,l20,h22,r23,r24⟩ _ x26 h36 s37 (Nat.le_trans (qbr e38) ls_2) e40 hG ok).mono (fun _ _ h=>h.1)) rfl rfl fun a E=>qv E (qad rfl) fun a E=>qv E (qao rfl rfl) fun a E=>qv E (qao rfl rfl) fun a E=>qv E (qaq rfl) fun a E=>qv E (qaq rfl) fun a E=>wpQuiet_nil ?_
 intro w ok
 refine qaa<|wp_seq<|sg<|mv E rfl fun a E=>lw E (qbj rfl) fun a E=>wn<|cf E rfl hF (fun c42 hF=>?_) fun c42 hF=>?_
 ·refine sg<|av E rfl fun a E=>aw E rfl fun a E=>wp_ret<|qae<|qag<|qae ?_
  cases hF
  exact so (sr ⟨rfl,⟨ok.drop,E.d,⟨rv_t E rfl,rv_t E rfl,trivial⟩,(ir 0)⟩⟩)
 refine wp_skip<|qaa<|qab<|mz E rfl rfl fun a E=>lw E (qav rfl rfl) fun a E=>av E rfl fun a E=>wpList_nil<|qaf<|qaa<|qab<|lw E (qar rfl rfl (InR.inc r9 (qaj hitems_0) c10)) fun a E=>mv E rfl fun a E=>wpList_nil ?_
 cases hF
 exact qan ⟨(ok.pk 1 [] rfl (by decide)),E.keep [1,2,8,13,14,15],(InR.wrap _ _),(InR.inc r9 (qaj hitems_0) c10)⟩
def qiW (u:World) (m0:Mem) (S:Segs) (pb0:Nat) (x0:Lexer) (c1:Value) (c3:Value) (M4:List (Nat × Obj)) (c6:Value) (M7:List (Nat × Obj)) (r:Token × Int × Bool) (a:Act) (w:World):Prop :=
 ∃ m1 v0,m0.le m1 ∧ Ok u m1 ([(pb0,oc 180 [c1,c3,c6])] :: M4 :: M7 :: S) w ∧ a.defers = [] ∧ RVs Tryz.prog a w [.c 8 29 (.agg v0.toArray),.t 9 (.int .i64 r.2.1),.t 10 (.bool r.2.2)] ∧ qaE m1 v0 r.1 ∧ InR .i64 r.2.1
theorem qms (N:Nat) (state_1:Int) (rstate_1:InR .i64 state_1) (s_2:List UInt8) (ls_2:s_2.length ≤ LIMS) (at_3:Int) (rat_3:InR .i64 at_3) {pb0:Nat} {c1:Value} {c3:Value} {M4:List (Nat × Obj)} {c6:Value} {M7:List (Nat × Obj)} (x0:Lexer) (h2:(pL 2 qbA) m0 [c1] x0.script) (h5:ORow 181 1 (pL 1 (pL 1 (pP 256 (pGB 256)))) m0 c3 x0.bits M4) (h8:OMap kS (oneV (pI .i64)) m0 c6 x0.states M7) {r:Token × Int × Bool} (hF:qfD N state_1 s_2 at_3 x0 = some r) (hG:Glob u) (ok:Ok u m0 ([(pb0,oc 180 [c1,c3,c6])] :: M4 :: M7 :: S) w) :
  Calls Tryz.prog 52 [vp pb0,vi state_1,vs s_2,vi at_3].toArray w fun e w'=>∃ m1 v0,e = .returned (.tuple [(.agg v0.toArray),(.int .i64 r.2.1),(.bool r.2.2)].toArray) ∧ m0.le m1 ∧ Ok u m1 ([(pb0,oc 180 [c1,c3,c6])] :: M4 :: M7 :: S) w' ∧ qaE m1 v0 r.1 ∧ InR .i64 r.2.1:=by
 have le_m0:=Mem.le.refl m0
 unfold qfD at hF
 refine en (qiW u m0 S pb0 x0 c1 c3 M4 c6 M7) r Tryz.func52 rfl rfl rfl (by rintro a w ⟨m1,v0,hle,ok,hd,hrv,h0,h1⟩; exact qbs [.c 8 29 (.agg v0.toArray),.t 9 (.int .i64 r.2.1),.t 10 (.bool r.2.2)] hd rfl hrv ⟨m1,v0,rfl,hle,ok,h0,h1⟩) fun fin a E=>sg<|qaM E ok qdo rfl rfl fun b9 a w E ok=>av E rfl fun a E=>aw E rfl fun a E=>wp_seq<|sg<|mv E rfl fun a E=>lw E (qa7 rfl) fun a E=>fk E ok qs6 qvr rfl 1 rfl rfl fun a E=>mv E rfl fun a E=>?_
 obtain ⟨x10,e11,hF⟩:=bnd hF
 obtain ⟨b12,o13,es14,hl15,rr16,at17,yy18⟩:=ia E 18 19 qg6 h2 e11
 obtain ⟨c20,rfl,l19,h21⟩:=rr16
 refine lv E ok (yy18 _ _) fun a E=>fv E qg0 rfl fun a E=>lv E ok (qah qio rfl (qac.ro (At.sub 1 1 at17))) fun a E=>lv E ok (qau qgq h21 rfl) fun a E=>mv E rfl fun a E=>wn<|wp_block<|bd hF fun o24 hL hF=>qax _ (fun (s:Int × Int) a w=>Ok u m0 ([(b9,oc 29 [(vs ([])),(vs ([])),vi 0])] :: [(pb0,oc 180 [c1,c3,c6])] :: M4 :: M7 :: S) w ∧ Env 77 a [(0,vp pb0),(1,vi s.1),(2,vs s_2),(3,vi at_3),(8,vp b9),(22,c20),(23,(vi (x10.Rules.length:Int))),(24,vi s.2)] ∧ InR .i64 s.1 ∧ InR .i64 s.2) (fun (b:(Unit ⊕ (Token × Int × Bool))) e a w=>(Sum.elim (fun b96=>e = (.exit 0) ∧ Ok u m0 ([(b9,oc 29 [(vs ([])),(vs ([])),vi 0])] :: [(pb0,oc 180 [c1,c3,c6])] :: M4 :: M7 :: S) w ∧ Env 77 a [(8,vp b9)]) (fun b97=>e = .ret ∧ qiW u m0 S pb0 x0 c1 c3 M4 c6 M7 b97 a w)) b) ?_ ?_ N _ a w hL ⟨ok,E.keep [0,1,2,3,8,22,23,24],rstate_1,(ir 0)⟩
 rotate_left
 ·intro e a w _ hO
  rcases o24 with o24 | o24
  rotate_left
  ·obtain ⟨rfl,hret⟩:=hO
   refine qag<|qae ?_
   exact fin hF hret
  have hF:=qaX hF
  obtain ⟨rfl,ok,E⟩:=hO
  refine qaz<|qaa<|sg<|lw E (qaR (ps:=[]) (qs:=[]) (cs:=[(vs ([])),(vs ([])),vi 0]) qdo qoc rfl trivial rfl) fun a E=>qai E ok 0 rfl rfl rfl qke rfl rfl ⟨rfl,rfl,rfl,trivial⟩ rfl rfl fun w ok=>av E rfl fun a E=>av E rfl fun a E=>wn<|wp_ret ?_
  exact fin hF ⟨m0,[(vs ([])),(vs ([])),vi 0],le_m0,ok.drop,E.d,⟨rv_c (cs:=[(vs ([])),(vs ([])),vi 0]) E ok rfl qf2 rfl (qac.own 0 rfl rfl),rv_t E rfl,rv_t E rfl,trivial⟩,⟨rfl,(Nat.zero_le _),(Nat.zero_le _),(ir 0)⟩,(ir 0)⟩
 rintro ⟨v27,v28⟩ a w r ⟨ok,E,r29,r30⟩ hF
 replace hF:qb8 N s_2 at_3 x0 x10 v27 v28 = some r:=hF
 unfold qb8 at hF
 refine sg<|lw E (qat rfl rfl) fun a E=>wn<|wp_seq<|cg E rfl hF (fun c31 hF=>?_) fun c31 hF=>?_
 ·refine wp_exit<|qap ?_
  cases hF
  exact so (sl ⟨rfl,⟨ok,E.keep [8]⟩⟩)
 refine wp_skip<|qaa<|wp_seq<|wp_block<|sg<|mv E rfl fun a E=>?_
 obtain ⟨x32,e33,hF⟩:=bnd hF
 obtain ⟨b34,o35,es36,hl37,rr38,at39,yy40⟩:=ia E 22 24 qgq h21 e33
 obtain ⟨c42,rfl,l41,h43,l44⟩:=rr38
 refine lv E ok (yy40 _ _) fun a E=>lv E ok (qam (cs:=[vs x32.Kind,c42,vs x32.Next]) qi6 rfl rfl (qac.ro at39)) fun a E=>qaM E ok qhv rfl rfl fun b45 a w E ok=>av E rfl fun a E=>qai E ok 0 rfl rfl rfl qmh rfl rfl ⟨rfl,(qbi h43),rfl,trivial⟩ rfl rfl fun w ok=>wn<|wp_seq<|qaY (by kernel_rfl) (by kernel_rfl) ok<|qv E (qak qf7 rfl) fun a E=>qv E (qah qha rfl (qac.own 0 rfl rfl)) fun a E=>qv E (qad rfl) fun a E=>qv E (qa7 rfl) fun a E=>qv E (qak qmJ rfl) fun a E=>qv E (qah qqJ rfl (qac.own 2 rfl rfl)) fun a E=>qv E (qad rfl) fun a E=>?_
 obtain ⟨x46,e47,hF⟩:=bnd hF
 obtain ⟨b48,o49,hp50,yy51⟩:=qb4 qo0 h5 e47 (P:=Tryz.prog) (X:=.tmp 35) (I:=.tmp 36) (kd:=.i64) (qaC E rfl) (qaC E rfl)
 refine qv E (yy51 _ _) fun a E=>?_
 obtain ⟨es52,hl53,rr54,hh55⟩:=qev h5 e47 hp50 (by decide)
 obtain ⟨c56,rfl,h57⟩:=qkd rr54
 refine qv E (qah quw rfl (hh55 _ _ _ 3 rfl)) fun a E=>qv E (qad rfl) fun a E=>?_
 obtain ⟨x58,e59,hF⟩:=bnd hF
 obtain ⟨b60,o61,es62,hl63,rr64,at65,yy66⟩:=ia E 38 39 qpB h57 e59
 obtain ⟨c67,rfl,h68⟩:=qkd rr64
 refine qv E (yy66 _ _) fun a E=>qv E (qah quF rfl (qac.ro at65)) fun a E=>qv E (qad rfl) fun a E=>qv E (qad rfl) fun a E=>bd hF fun s69 e70 hF=>qv E (qaF Tryz.underlying9 e70 rfl ⟨_,rfl⟩ rfl) fun a E=>?_
 obtain ⟨r71,e72,hF⟩:=bnd hF
 obtain ⟨_,_,⟨_,_⟩,r73⟩:=Go.X.Calls.get (qlv N _ x32.Items h43 _ x58 h68 s69 (Nat.le_trans (qbr e70) ls_2) e72 hG ok)
 refine qfZ E qwj rfl (fun w ok=>(qlv N _ x32.Items h43 _ x58 h68 s69 (Nat.le_trans (qbr e70) ls_2) e72 hG ok).mono (fun _ _ h=>h.1)) rfl rfl fun a E=>qv E (qad rfl) fun a E=>qv E (qao rfl rfl) fun a E=>qv E (qao rfl rfl) fun a E=>qv E (qaq rfl) fun a E=>qv E (qaq rfl) fun a E=>wpQuiet_nil ?_
 intro w ok
 refine qaa<|wp_seq<|sg<|mv E rfl fun a E=>lw E (qbj rfl) fun a E=>mv E rfl fun a E=>bu E 50 hF (fun c74 hF E=>?_) fun c74 hF E=>?_
 ·refine lsq E fun a E=>pt E rfl rfl fun a E=>wn<|c_if E rfl (fun _=>?_) (fun h=>by cases h)
  refine wp_exit<|qap<|qaz<|qaa<|qab<|lw E (qar rfl rfl (InR.inc r30 (qaj h21) c31)) fun a E=>mv E rfl fun a E=>wpList_nil ?_
  cases hF
  exact qan ⟨(ok.pk 5 [1,2,3,4] rfl (by decide)),E.keep [0,1,2,3,8,22,23,24],r29,(InR.inc r30 (qaj h21) c31)⟩
 refine mv E rfl fun a E=>lw E (qa0 rfl rfl) fun a E=>pf E rfl rfl fun a E=>wn<|cf E rfl hF (fun c75 hF=>?_) fun c75 hF=>?_
 ·refine wp_exit<|qap<|qaz<|qaa<|qab<|lw E (qar rfl rfl (InR.inc r30 (qaj h21) c31)) fun a E=>mv E rfl fun a E=>wpList_nil ?_
  cases hF
  exact qan ⟨(ok.pk 5 [1,2,3,4] rfl (by decide)),E.keep [0,1,2,3,8,22,23,24],r29,(InR.inc r30 (qaj h21) c31)⟩
 refine wp_skip<|qaa<|wp_seq<|sg<|fk E ok qg2 qal rfl 0 rfl rfl fun a E=>lw E (qbn rfl rfl) fun a E=>wn<|bd hF fun o76 hJ hF=>qa6 (Q':=fun e a w=>e = .normal ∧ Ok u m0 ([(b45,oc 118 [vs x32.Kind,c42,vs x32.Next])] :: [(b9,oc 29 [(vs ([])),(vs ([])),vi 0])] :: [(pb0,oc 180 [c1,c3,c6])] :: M4 :: M7 :: S) w ∧ Env 77 a [(1,vi o76),(2,vs s_2),(3,vi at_3),(8,vp b9),(12,vp b45),(13,vi r71.1)] ∧ InR .i64 o76) ?_ ?_
 ·have hF:=hJ
  refine cg E rfl hF (fun c78 hF=>?_) fun c78 hF=>?_
  ·refine wp_skip ?_
   cases hF
   exact ⟨rfl,⟨ok,E.keep [1,2,3,8,12,13],r29⟩⟩
  refine qaY (by kernel_rfl) (by kernel_rfl) ok<|qv E (qad rfl) fun a E=>qv E (qa7 rfl) fun a E=>qv E (qak qpS rfl) fun a E=>qv E (qah qme rfl (qac.own 2 rfl rfl)) fun a E=>qv E (qak qg2 rfl) fun a E=>qv E (qah qal rfl (qac.own 0 rfl rfl)) fun a E=>?_
  obtain ⟨xv79,h80,yy81,yy82⟩:=ql7 (P:=Tryz.prog) (mo:=.tmp 60) (ko:=.tmp 62) (zx:=(0:Int)) ok 4 (qeA Tryz.underlying9) Tryz.underlying130 h8 rfl (qaC E rfl) (qaC E rfl) ⟨rfl,l44⟩ qqy (qfI (ir 0))
  obtain ⟨rfl,r83⟩:=qiQ h80
  refine qv E (yy81 _) fun a E=>qv E (qaq rfl) fun a E=>wpQuiet_nil ?_
  intro w ok
  cases hF
  exact ⟨rfl,⟨ok,E.keep [1,2,3,8,12,13],r83⟩⟩
 intro e a w hO
 obtain ⟨rfl,ok,E,r84⟩:=hO
 refine qaa<|wp_seq<|bd hF fun o85 hJ hF=>qa6 (Q':=fun e a w=>e = .normal ∧ Ok u m0 ([(b45,oc 118 [vs x32.Kind,c42,vs x32.Next])] :: [(b9,oc 29 [vs o85.2.Kind,vs o85.2.Text,vi o85.2.From])] :: [(pb0,oc 180 [c1,c3,c6])] :: M4 :: M7 :: S) w ∧ Env 77 a [(8,vp b9),(9,vi o85.1),(10,vb true)] ∧ InR .i64 o85.1 ∧ o85.2.Kind.length ≤ LIMS ∧ o85.2.Text.length ≤ LIMS ∧ InR .i64 o85.2.From) ?_ ?_
 rotate_left
 ·intro e a w hO
  obtain ⟨rfl,ok,E,r92,l93,l94,r95⟩:=hO
  refine qaa<|wp_ret<|qag<|qae ?_
  cases hF
  exact so (sr ⟨rfl,⟨m0,[vs o85.2.Kind,vs o85.2.Text,vi o85.2.From],le_m0,ok.drop.drop,E.d,⟨rv_c (cs:=[vs o85.2.Kind,vs o85.2.Text,vi o85.2.From]) E ok rfl qf2 rfl (qac.own 1 rfl rfl),rv_t E rfl,rv_t E rfl,trivial⟩,⟨rfl,l93,l94,r95⟩,r92⟩⟩)
 have hF:=hJ
 obtain ⟨s90,e91,hF⟩:=bnd hF
 obtain rfl:=sj hF
 refine qcb [1] (Cls u m0 ([(b45,oc 118 [vs x32.Kind,c42,vs x32.Next])] :: [(b9,oc 29 [(vs ([])),(vs ([])),vi 0])] :: [(pb0,oc 180 [c1,c3,c6])] :: M4 :: M7 :: [])) (Cls u m0 ([(b45,oc 118 [vs x32.Kind,c42,vs x32.Next])] :: [(pb0,oc 180 [c1,c3,c6])] :: M4 :: M7 :: [])) (by kernel_rfl) ?_
 intro w hw
 replace ok:=qcB ok hw
 clear hw
 refine qay (cl1 (cq le_m0 ok [0,1,2,3,4] rfl) (cq le_m0 ok [0,2,3,4] rfl)) fun hT=>kt 0 E rfl hT (qak qmK rfl) fun a E=>qbk 1 E rfl (by kernel_rfl) nP hT (qah qal rfl (qac.cown 0 rfl rfl)) rfl rfl fun a E=>kt 2 E rfl hT (qad rfl) fun a E=>kt 3 E rfl hT (qad rfl) fun a E=>kt 4 E rfl hT (qad rfl) fun a E=>kt 5 E rfl hT (qad rfl) fun a E=>kt 6 E rfl hT (qav rfl rfl) fun a E=>kt 7 E rfl hT (qaF Tryz.underlying9 e91 rfl ⟨_,rfl⟩ ⟨_,rfl⟩) fun a E=>kt 8 E rfl hT (qad rfl) fun a E=>kt 9 E rfl hT (qaR (ps:=[(0,.tmp 65),(1,.tmp 71),(2,.tmp 72)]) (qs:=[(0,[vs x32.Kind]),(1,[vs s90]),(2,[vi at_3])]) (cs:=[vs x32.Kind,vs s90,vi at_3]) qdo qoc rfl ⟨rfl,rfl,rfl,⟨rfl,rfl,rfl,⟨rfl,rfl,rfl,trivial⟩⟩⟩ rfl) fun a E=>kt 10 E rfl hT (qad rfl) fun a E=>qaZ [11] (by kernel_rfl) rfl (qa1 ?_)
 ·refine wo rfl<|qai E ok 1 rfl rfl rfl qke rfl rfl ⟨rfl,rfl,rfl,trivial⟩ rfl rfl fun w ok=>wn<|qay (cl2 (by kernel_rfl) (cq le_m0 ok [0,2,3,4] rfl)) fun hT=>kt 12 E rfl hT (qaq rfl) fun a E=>kt 13 E rfl hT (qaq rfl) fun a E=>qcl (by kernel_rfl) ?_
  exact ⟨rfl,⟨ok,E.keep [8,9,10],r84,l41,(Nat.le_trans (qbr e91) ls_2),rat_3⟩⟩
def qkX (u:World) (m0:Mem) (S:Segs) (r:(List (Token)) × Int × Int) (a:Act) (w:World):Prop :=
 ∃ m1 v0,m0.le m1 ∧ Ok u m1 S w ∧ a.defers = [] ∧ RVs Tryz.prog a w [.t 4 v0,.t 5 (.int .i64 r.2.1),.t 6 (.int .i64 r.2.2)] ∧ (pL 3 qaE) m1 [v0] r.1 ∧ InR .i64 r.2.1 ∧ InR .i64 r.2.2
theorem qkZ (N:Nat) (vscript_0:Value) (script_0:List (State)) (hscript_0:(pL 2 qbA) m0 [vscript_0] script_0) (s_1:List UInt8) (ls_1:s_1.length ≤ LIMS) {r:(List (Token)) × Int × Int} (hF:qfO N script_0 s_1 = some r) (hG:Glob u) (ok:Ok u m0 S w) :
  Calls Tryz.prog 35 [vscript_0,vs s_1].toArray w fun e w'=>∃ m1 v0,e = .returned (.tuple [v0,(.int .i64 r.2.1),(.int .i64 r.2.2)].toArray) ∧ m0.le m1 ∧ Ok u m1 S w' ∧ (pL 3 qaE) m1 [v0] r.1 ∧ InR .i64 r.2.1 ∧ InR .i64 r.2.2:=by
 have le_m0:=Mem.le.refl m0
 unfold qfO at hF
 refine en (qkX u m0 S) r Tryz.func35 rfl rfl rfl (by rintro a w ⟨m1,v0,hle,ok,hd,hrv,h0,h1,h2⟩; exact qbs [.t 4 v0,.t 5 (.int .i64 r.2.1),.t 6 (.int .i64 r.2.2)] hd rfl hrv ⟨m1,v0,rfl,hle,ok,h0,h1,h2⟩) fun fin a E=>sg<|av E rfl fun a E=>av E rfl fun a E=>aw E rfl fun a E=>wp_seq<|sg<|mv E rfl fun a E=>bd hF fun r1 e2 hF=>lc E qrk rfl (qjo N _ script_0 hscript_0 e2 hG ok) fun w ok a E=>lw E (qbj rfl) fun a E=>wn<|cf E rfl hF (fun c3 hF=>?_) fun c3 hF=>?_
 ·refine sg<|av E rfl fun a E=>av E rfl fun a E=>aw E rfl fun a E=>wp_ret<|qae ?_
  exact fin hF ⟨m0,(.slice none 0 0),le_m0,ok,E.d,⟨rv_t E rfl,rv_t E rfl,rv_t E rfl,trivial⟩,qa9,(ir 0),(ir 1)⟩
 refine wp_skip<|qaa<|wp_seq<|sg<|mv E rfl fun a E=>lw E (qaA Tryz.underlying9 rfl) fun a E=>lw E (qbN rfl rfl) fun a E=>wn<|cf E rfl hF (fun c4 hF=>?_) fun c4 hF=>?_
 ·refine sg<|av E rfl fun a E=>av E rfl fun a E=>aw E rfl fun a E=>wp_ret<|qae ?_
  exact fin hF ⟨m0,(.slice none 0 0),le_m0,ok,E.d,⟨rv_t E rfl,rv_t E rfl,rv_t E rfl,trivial⟩,qa9,(ir 200000),(ir 6)⟩
 refine wp_skip<|qaa<|sg<|mv E rfl fun a E=>bd hF fun r5 e6 hF=>qas E qwG rfl (qnK N _ script_0 hscript_0 e6 hG ok) rfl rfl ?_
 rintro _ w ⟨m7,b8,c9,c11,M12,c14,M15,rfl,hle,ok,h10,h13,h16⟩
 have le_m0:=le_m0.trans hle
 have hscript_0:=(mL qaD).up hle hscript_0
 refine ⟨_,rfl,fun a E=>?_⟩
 refine av E rfl fun a E=>aw E rfl fun a E=>wp_seq<|wp_block ?_
 obtain ⟨M24,ok,h25⟩:=qck (e:=29) (k:=3) (R:=qaE) ok
 refine bd hF fun o26 hL hF=>qax _ (fun (s:(List (Token)) × Int × Int) a w=>∃ m27 c28 M29,m7.le m27 ∧ Ok u m27 (M29 :: [(b8,oc 180 [c9,c11,c14])] :: M12 :: M15 :: S) w ∧ Env 47 a [(1,vs s_1),(4,c28),(5,vi s.2.1),(7,vp b8),(8,vi s.2.2)] ∧ ORow 29 3 qaE m27 c28 s.1 M29 ∧ InR .i64 s.2.1 ∧ InR .i64 s.2.2) (fun (b:(((List (Token))) ⊕ ((List (Token)) × Int × Int))) e a w=>(Sum.elim (fun b68=>e = (.exit 0) ∧ ∃ m69 c70 M71,m7.le m69 ∧ Ok u m69 (M71 :: [(b8,oc 180 [c9,c11,c14])] :: M12 :: M15 :: S) w ∧ Env 47 a [(4,c70)] ∧ ORow 29 3 qaE m69 c70 b68 M71) (fun b73=>e = .ret ∧ qkX u m0 S b73 a w)) b) ?_ ?_ N _ a w hL ⟨m7,(Value.slice none 0 0),M24,Mem.le.refl _,ok,E.keep [1,4,5,7,8],h25,(ir 0),(ir 0)⟩
 rotate_left
 ·intro e a w _ hO
  rcases o26 with o26 | o26
  rotate_left
  ·obtain ⟨rfl,hret⟩:=hO
   refine qag<|qae ?_
   exact fin hF hret
  have hF:=qaX hF
  obtain ⟨rfl,m62,c63,M64,hle,ok,E,h65⟩:=hO
  have le_m0:=le_m0.trans hle
  have hscript_0:=(mL qaD).up hle hscript_0
  have h10:=(mL qaD).up hle h10
  have h13:=ORow.up (mL (mL (mP (mGB 256)))) hle h13
  have h16:=OMap.up (qgt (mI .i64)) hle h16
  refine qaz<|qaa<|sg<|mv E rfl fun a E=>av E rfl fun a E=>av E rfl fun a E=>av E rfl fun a E=>wn<|wp_ret ?_
  obtain ⟨m66,hle,ok,hfz⟩:=(ok.frs 0 rfl).freeze
  have h67:=ORow.froz qaN h65 hle hfz (by decide)
  have le_m0:=le_m0.trans hle
  have hscript_0:=(mL qaD).up hle hscript_0
  have h10:=(mL qaD).up hle h10
  have h13:=ORow.up (mL (mL (mP (mGB 256)))) hle h13
  have h16:=OMap.up (qgt (mI .i64)) hle h16
  exact fin hF ⟨m66,c63,le_m0,ok.drop.drop.drop,E.d,⟨rv_t E rfl,rv_t E rfl,rv_t E rfl,trivial⟩,h67,(ir 0),(ir 0)⟩
 rintro ⟨v33,v34,v35⟩ a w r ⟨m36,c37,M38,hle,ok,E,h39,r40,r41⟩ hF
 replace hF:qfU N s_1 r5 v33 v34 v35 = some r:=hF
 unfold qfU at hF
 have le_m7:=Mem.le.refl m7
 have le_m0:=le_m0.trans hle
 have le_m7:=le_m7.trans hle
 have hscript_0:=(mL qaD).up hle hscript_0
 have h10:=(mL qaD).up hle h10
 have h13:=ORow.up (mL (mL (mP (mGB 256)))) hle h13
 have h16:=OMap.up (qgt (mI .i64)) hle h16
 refine wp_seq<|sg<|mz E rfl rfl fun a E=>lw E (qaA Tryz.underlying9 rfl) fun a E=>lw E (qat rfl rfl) fun a E=>wn<|cg E rfl hF (fun c42 hF=>?_) fun c42 hF=>?_
 ·refine wp_exit<|qap ?_
  cases hF
  exact so (sl ⟨rfl,⟨m36,c37,M38,le_m7,ok,E.keep [4],h39⟩⟩)
 refine wp_skip<|qaa<|wp_block<|sg<|mz E rfl rfl fun a E=>mv E rfl fun a E=>mv E rfl fun a E=>?_
 obtain ⟨r43,e44,hF⟩:=bnd hF
 replace ok:Ok u m36 ([(b8,oc 180 [c9,c11,c14])] :: M12 :: M15 :: M38 :: S) w:=(ok.pk 4 [1,2,3,0] rfl (by decide))
 refine qas E qwk rfl (qms N v35 r41 s_1 ls_1 v34 r40 r5 h10 h13 h16 e44 hG ok) rfl rfl ?_
 rintro _ w ⟨m45,vs46,rfl,hle,ok,h47,r48⟩
 have le_m0:=le_m0.trans hle
 have le_m7:=le_m7.trans hle
 have hscript_0:=(mL qaD).up hle hscript_0
 have h10:=(mL qaD).up hle h10
 have h13:=ORow.up (mL (mL (mP (mGB 256)))) hle h13
 have h16:=OMap.up (qgt (mI .i64)) hle h16
 have h39:=ORow.up qaN hle h39
 obtain ⟨rfl,l49,l50,r51⟩:=h47
 refine ⟨_,rfl,fun a E=>?_⟩
 refine mv E rfl fun a E=>lw E (qao rfl rfl) fun a E=>lw E (qao rfl rfl) fun a E=>lw E (qao rfl rfl) fun a E=>qaM E ok qdo rfl rfl fun b52 a w E ok=>qai E ok 0 rfl rfl rfl qke rfl rfl ⟨rfl,rfl,rfl,trivial⟩ rfl rfl fun w ok=>av E rfl fun a E=>av E rfl fun a E=>wn<|wp_seq<|sg<|mv E rfl fun a E=>lw E (qbj rfl) fun a E=>wn<|cf E rfl hF (fun c53 hF=>?_) fun c53 hF=>?_
 ·refine sg<|mv E rfl fun a E=>av E rfl fun a E=>av E rfl fun a E=>aw E rfl fun a E=>wp_ret<|qae<|qag ?_
  cases hF
  exact so (sr ⟨rfl,⟨m45,(.slice none 0 0),le_m0,ok.drop.drop.drop.drop.drop,E.d,⟨rv_t E rfl,rv_t E rfl,rv_t E rfl,trivial⟩,qa9,r40,(ir 3)⟩⟩)
 refine wp_skip<|qaa<|sg<|mv E rfl fun a E=>lv E ok (qam (cs:=[vs r43.1.Kind,vs r43.1.Text,vi r43.1.From]) qf2 rfl rfl (qac.own 0 rfl rfl)) fun a E=>qaT (R:=qaE) (xo:=[.tmp 37]) (xs:=([r43.1]:List (Token))) E ok qcz qdo rfl ⟨⟨_,rfl,rfl,⟨rfl,l49,l50,r51⟩⟩,trivial⟩ rfl rfl rfl rfl fun c54 M55 a w E ok h56=>bd hF fun l57 e58 hF=>qbR (R:=qaE) E ok 5 qaN qcz Tryz.underlying26 rfl h39 (qa3.ofRow h56 0 rfl ok) e58 ⟨_,qdo,rfl⟩ rfl rfl rfl rfl fun c59 M60 a w E ok h61=>aw E rfl fun a E=>sg<|mv E rfl fun a E=>fv E qd8 rfl fun a E=>ld E ok qal 1 rfl rfl rfl fun a E=>lw E (qaA Tryz.underlying9 rfl) fun a E=>lw E (qav rfl rfl) fun a E=>aw E rfl fun a E=>qab<|mv E rfl fun a E=>av E rfl fun a E=>wpList_nil<|qaf ?_
 cases hF
 exact qan ⟨m45,c59,M60,le_m7,(ok.pk 6 [5,2,3,4] rfl (by decide)),E.keep [1,4,5,7,8],h61,(InR.wrap _ _),r48⟩
theorem qjE (N:Nat) (p0_0:List UInt8) (lp0_0:p0_0.length ≤ LIMS) (p1_1:List UInt8) (lp1_1:p1_1.length ≤ LIMS) {r:Int} (hF:qfn N p0_0 p1_1 = some r) (hG:Glob u) (ok:Ok u m0 S w) :
  Calls Tryz.prog 45 [vs p0_0,vs p1_1].toArray w fun e w'=>(e = .returned (.int .i64 r) ∧ Ok u m0 S w') ∧ InR .i64 r:=by
 obtain ⟨mx,hmx⟩:=hG
 exact qsy Tryz.lays138 hmx p0_0 p1_1 hF ok
theorem qjO {u:World} {m0:Mem} {S:Segs} {w:World} (N:Nat) (p0_0:Int) (rp0_0:InR .i64 p0_0) {r:(List UInt8)} (hF:qfm N p0_0 = some r) (hG:Glob u) (hTb:Tab u) (ok:Ok u m0 S w) :
 Calls Tryz.prog 44 [vi p0_0].toArray w fun e w'=>(e = .returned (.string (bs r)) ∧ Ok u m0 S w') ∧ r.length ≤ LIMS:=qso Tryz.laysM171 hTb p0_0 rp0_0 hF ok
def qfY (u:World) (m0:Mem) (S:Segs) (r:Int) (a:Act) (w:World):Prop :=
 Ok u m0 S w ∧ a.defers = [] ∧ RVs Tryz.prog a w [.t 4 (.int .i64 r)] ∧ InR .i64 r
theorem qig (N:Nat) (vs_0:Value) (s_0:List (List UInt8)) (hs_0:(pL 1 pS) m0 [vs_0] s_0) (v_1:List UInt8) (lv_1:v_1.length ≤ LIMS) {r:Int} (hF:qdc N s_0 v_1 = some r) (hG:Glob u) (ok:Ok u m0 S w) :
  Calls Tryz.prog 75 [vs_0,vs v_1].toArray w fun e w'=>(e = .returned (.int .i64 r) ∧ Ok u m0 S w') ∧ InR .i64 r:=by
 unfold qdc at hF
 refine en (qfY u m0 S) r Tryz.func75 rfl rfl rfl (fun _ _ h=>rb h rfl) fun fin a E=>sg<|aw E rfl fun a E=>wp_seq<|sg<|mv E rfl fun a E=>lv E ok (qau qit hs_0 rfl) fun a E=>mv E rfl fun a E=>wn<|wp_block<|bd hF fun o2 hL hF=>qax _ (fun (s:Int) a w=>Ok u m0 (S) w ∧ Env 19 a [(0,vs_0),(1,vs v_1),(7,(vi (s_0.length:Int))),(8,vi s)] ∧ InR .i64 s) (fun (b:(Unit ⊕ Int)) e a w=>(Sum.elim (fun b18=>e = (.exit 0) ∧ Ok u m0 (S) w ∧ Env 19 a []) (fun b19=>e = .ret ∧ qfY u m0 S b19 a w)) b) ?_ ?_ N _ a w hL ⟨ok,E.keep [0,1,7,8],(ir 0)⟩
 rotate_left
 ·intro e a w _ hO
  rcases o2 with o2 | o2
  rotate_left
  ·obtain ⟨rfl,hret⟩:=hO
   refine qag<|qae ?_
   exact fin hF hret
  have hF:=qaX hF
  obtain ⟨rfl,ok,E⟩:=hO
  refine qaz<|qaa<|sg<|aw E rfl fun a E=>wp_ret ?_
  exact fin hF ⟨ok,E.d,rz E rfl,(ir (-1))⟩
 rintro v4 a w r ⟨ok,E,r5⟩ hF
 replace hF:qbe N s_0 v_1 v4 = some r:=hF
 unfold qbe at hF
 refine sg<|lw E (qat rfl rfl) fun a E=>wn<|wp_seq<|cg E rfl hF (fun c6 hF=>?_) fun c6 hF=>?_
 ·refine wp_exit<|qap ?_
  cases hF
  exact so (sl ⟨rfl,⟨ok,E.keep []⟩⟩)
 refine wp_skip<|qaa<|wp_seq<|wp_block<|sg<|mv E rfl fun a E=>av E rfl fun a E=>wn<|sg<|mz E rfl rfl fun a E=>mv E rfl fun a E=>?_
 obtain ⟨x7,e8,hF⟩:=bnd hF
 obtain ⟨b9,o10,es11,hl12,rr13,at14,yy15⟩:=ia E 12 13 qit hs_0 e8
 obtain ⟨rfl,l16⟩:=rr13
 refine lv E ok (yy15 _ _) fun a E=>lv E ok (qah qal rfl (qac.ro at14)) fun a E=>lw E (qaG rfl rfl) fun a E=>wn<|cg E rfl hF (fun c17 hF=>?_) fun c17 hF=>?_
 ·refine wp_skip<|qaf<|qaa<|qab<|lw E (qar rfl rfl (InR.inc r5 (qaj hs_0) c6)) fun a E=>mv E rfl fun a E=>wpList_nil ?_
  cases hF
  exact qan ⟨ok,E.keep [0,1,7,8],(InR.inc r5 (qaj hs_0) c6)⟩
 refine sg<|mv E rfl fun a E=>aw E rfl fun a E=>wp_ret<|qag<|qae ?_
 cases hF
 exact so (sr ⟨rfl,⟨ok,E.d,rz E rfl,r5⟩⟩)
def qhM (u:World) (m0:Mem) (S:Segs) (r:Bool) (a:Act) (w:World):Prop :=
 Ok u m0 S w ∧ a.defers = [] ∧ RVs Tryz.prog a w [.t 4 (.bool r)]
theorem qhN (N:Nat) (vs_0:Value) (s_0:List (List UInt8)) (hs_0:(pL 1 pS) m0 [vs_0] s_0) (v_1:List UInt8) (lv_1:v_1.length ≤ LIMS) {r:Bool} (hF:qbH N s_0 v_1 = some r) (hG:Glob u) (ok:Ok u m0 S w) :
  Calls Tryz.prog 46 [vs_0,vs v_1].toArray w fun e w'=>(e = .returned (.bool r) ∧ Ok u m0 S w'):=by
 unfold qbH at hF
 refine en (qhM u m0 S) r Tryz.func46 rfl rfl rfl (fun _ _ h=>ra h rfl) fun fin a E=>sg<|aw E rfl fun a E=>sg<|mz E rfl rfl fun a E=>bd hF fun r1 e2 hF=>qas E qwu rfl (qig N _ s_0 hs_0 v_1 lv_1 e2 hG ok) rfl rfl ?_
 rintro _ w ⟨⟨rfl,ok⟩,r3⟩
 refine ⟨_,rfl,fun a E=>?_⟩
 refine lw E (qa2 rfl rfl) fun a E=>aw E rfl fun a E=>wp_ret ?_
 exact fin hF ⟨ok,E.d,rz E rfl⟩
end Go.Proofs.YtllfckekodcdaaaGreatDoor
