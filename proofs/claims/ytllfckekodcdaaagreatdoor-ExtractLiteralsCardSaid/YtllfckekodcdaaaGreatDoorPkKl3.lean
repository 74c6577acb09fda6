/- Texts of this proof, put together by pack.py: what its declarations name. -/
import Derived.Test.YtllfckekodcdaaaGreatDoorPkKl2
import Derived.Test.YtllfckekodcdaaaGreatDoorCards
import Derived.Test.YtllfckekodcdaaaGreatDoorChecked
import Derived.Test.YtllfckekodcdaaaGreatDoorProg
import Derived.Test.YtllfckekodcdaaaGreatDoorRows
import Derived.Test.YtllfckekodcdaaaGreatDoorTie
set_option linter.unusedVariables false
namespace Go.Proofs.YtllfckekodcdaaaGreatDoor
open Go.X
def Tab (u:World):Prop:=Lib.TabIs Tryz.prog u "internal/strconv.uint64pow10" .u64 Lib.pow10Tab
def qdy:Rp Call:=fun _ cs x=>cs = [.string (bs x.Name),.int .i64 x.ID,.int .i64 x.Source] ∧ x.Name.length ≤ LIMS ∧ InR .i64 x.ID ∧ InR .i64 x.Source
theorem qep:Mono qdy:=⟨fun _ h=>by
 obtain ⟨e,h0,h1,h2⟩:=h
 exact ⟨e,h0,h1,h2⟩,fun h=>by
 obtain ⟨rfl,h0,h1,h2⟩:=h
 exact ⟨rfl,rfl,rfl,trivial⟩⟩
def qbi:Rp Token:=fun _ cs x=>cs = [.string (bs x.Kind),.string (bs x.Text),.int .i64 x.From] ∧ x.Kind.length ≤ LIMS ∧ x.Text.length ≤ LIMS ∧ InR .i64 x.From
theorem qde:Mono qbi:=⟨fun _ h=>by
 obtain ⟨e,h0,h1,h2⟩:=h
 exact ⟨e,h0,h1,h2⟩,fun h=>by
 obtain ⟨rfl,h0,h1,h2⟩:=h
 exact ⟨rfl,rfl,rfl,trivial⟩⟩
def qkp:Rp File:=fun _ cs x=>cs = [.string (bs x.Name),.string (bs x.Text)] ∧ x.Name.length ≤ LIMS ∧ x.Text.length ≤ LIMS
theorem qgC:Mono qkp:=⟨fun _ h=>by
 obtain ⟨e,h0,h1⟩:=h
 exact ⟨e,h0,h1⟩,fun h=>by
 obtain ⟨rfl,h0,h1⟩:=h
 exact ⟨rfl,rfl,trivial⟩⟩
def qbM:Rp Range:=fun _ cs x=>cs = [.int .u8 x.From,.int .u8 x.To] ∧ InR .u8 x.From ∧ InR .u8 x.To
theorem qeh:Mono qbM:=⟨fun _ h=>by
 obtain ⟨e,h0,h1⟩:=h
 exact ⟨e,h0,h1⟩,fun h=>by
 obtain ⟨rfl,h0,h1⟩:=h
 exact ⟨rfl,rfl,trivial⟩⟩
def qbJ:Rp Item:=fun m cs x=>∃ c1,cs = [.string (bs x.Text),c1,.bool x.Not,.int .i64 x.Least,.int .i64 x.Most] ∧ x.Text.length ≤ LIMS ∧ (pL 2 qbM) m [c1] x.Ranges ∧ InR .i64 x.Least ∧ InR .i64 x.Most
theorem qdc:Mono qbJ:=⟨fun hm h=>by
 obtain ⟨c1,e,h0,h1,h3,h4⟩:=h
 exact ⟨c1,e,h0,(mL qeh).up hm h1,h3,h4⟩,fun h=>by
 obtain ⟨c1,rfl,h0,h1,h3,h4⟩:=h
 exact ⟨rfl,((mL qeh).one h1).1,rfl,rfl,rfl,trivial⟩⟩
def qdn:Rp Rule:=fun m cs x=>∃ c1,cs = [.string (bs x.Kind),c1,.string (bs x.Next)] ∧ x.Kind.length ≤ LIMS ∧ (pL 5 qbJ) m [c1] x.Items ∧ x.Next.length ≤ LIMS
theorem qc7:Mono qdn:=⟨fun hm h=>by
 obtain ⟨c1,e,h0,h1,h2⟩:=h
 exact ⟨c1,e,h0,(mL qdc).up hm h1,h2⟩,fun h=>by
 obtain ⟨c1,rfl,h0,h1,h2⟩:=h
 exact ⟨rfl,((mL qdc).one h1).1,rfl,trivial⟩⟩
def qb3:Rp State:=fun m cs x=>∃ c1,cs = [.string (bs x.Name),c1] ∧ x.Name.length ≤ LIMS ∧ (pL 3 qdn) m [c1] x.Rules
theorem qa2:Mono qb3:=⟨fun hm h=>by
 obtain ⟨c1,e,h0,h1⟩:=h
 exact ⟨c1,e,h0,(mL qc7).up hm h1⟩,fun h=>by
 obtain ⟨c1,rfl,h0,h1⟩:=h
 exact ⟨rfl,((mL qc7).one h1).1,trivial⟩⟩
theorem qiN:aggB Tryz.prog 111 2 = true:=by kernel_rfl
theorem qhB:aggB Tryz.prog 118 3 = true:=by kernel_rfl
theorem qeL:aggB Tryz.prog 154 5 = true:=by kernel_rfl
theorem qkT:aggB Tryz.prog 156 2 = true:=by kernel_rfl
theorem qeD:aggB Tryz.prog 29 3 = true:=by kernel_rfl
theorem qlD:aggB Tryz.prog 75 2 = true:=by kernel_rfl
theorem qnP:aggB Tryz.prog 83 3 = true:=by kernel_rfl
theorem qiD:ArT Tryz.prog 200 4 256 1:=ArT.of (by kernel_rfl)
theorem qiK:ArT Tryz.prog 221 3 2 1:=ArT.of (by kernel_rfl)
theorem qjY:Tryz.prog.eqGuardType Tryz.prog.depth 221 = false:=by kernel_rfl
theorem qhV:qaH Tryz.prog 111 0 0 = true:=by kernel_rfl
theorem qfI:qaH Tryz.prog 111 1 1 = true:=by kernel_rfl
theorem qki:qaH Tryz.prog 118 0 0 = true:=by kernel_rfl
theorem qe5:qaH Tryz.prog 118 1 1 = true:=by kernel_rfl
theorem qfT:qaH Tryz.prog 118 2 2 = true:=by kernel_rfl
theorem qcG:qaH Tryz.prog 154 0 0 = true:=by kernel_rfl
theorem qfJ:qaH Tryz.prog 154 1 1 = true:=by kernel_rfl
theorem qkj:qaH Tryz.prog 154 2 2 = true:=by kernel_rfl
theorem qdf:qaH Tryz.prog 154 3 3 = true:=by kernel_rfl
theorem qkl:qaH Tryz.prog 154 4 4 = true:=by kernel_rfl
theorem qi5:qaH Tryz.prog 156 0 0 = true:=by kernel_rfl
theorem qi7:qaH Tryz.prog 156 1 1 = true:=by kernel_rfl
theorem qn2:qaH Tryz.prog 180 0 0 = true:=by kernel_rfl
theorem qkm:qaH Tryz.prog 180 1 1 = true:=by kernel_rfl
theorem qlM:qaH Tryz.prog 180 2 2 = true:=by kernel_rfl
theorem qbT:qaH Tryz.prog 29 0 0 = true:=by kernel_rfl
theorem qdv:qaH Tryz.prog 29 1 1 = true:=by kernel_rfl
theorem qhF:qaH Tryz.prog 75 0 0 = true:=by kernel_rfl
theorem qiH:qaH Tryz.prog 83 0 0 = true:=by kernel_rfl
theorem qhC:qaH Tryz.prog 83 1 1 = true:=by kernel_rfl
theorem qhD:qaH Tryz.prog 83 2 2 = true:=by kernel_rfl
theorem qjX:qaH Tryz.prog 88 0 0 = true:=by kernel_rfl
theorem qjP:qaH Tryz.prog 88 1 1 = true:=by kernel_rfl
theorem qoq:goB Tryz.prog 10 = true:=by kernel_rfl
theorem qpW:goB Tryz.prog 100 = true:=by kernel_rfl
theorem qnF:goB Tryz.prog 122 = true:=by kernel_rfl
theorem qpz:goB Tryz.prog 123 = true:=by kernel_rfl
theorem qnJ:goB Tryz.prog 124 = true:=by kernel_rfl
theorem qpA:goB Tryz.prog 125 = true:=by kernel_rfl
theorem qnl:goB Tryz.prog 126 = true:=by kernel_rfl
theorem qkq:goB Tryz.prog 141 = true:=by kernel_rfl
theorem qfx:goB Tryz.prog 29 = true:=by kernel_rfl
theorem qja:goB Tryz.prog 30 = true:=by kernel_rfl
theorem qlx:goB Tryz.prog 31 = true:=by kernel_rfl
theorem qoA:goB Tryz.prog 34 = true:=by kernel_rfl
theorem qop:goB Tryz.prog 47 = true:=by kernel_rfl
theorem qm8:goB Tryz.prog 48 = true:=by kernel_rfl
theorem qqx:goB Tryz.prog 49 = true:=by kernel_rfl
theorem qqo:goB Tryz.prog 50 = true:=by kernel_rfl
theorem qp3:goB Tryz.prog 51 = true:=by kernel_rfl
theorem qqj:goB Tryz.prog 52 = true:=by kernel_rfl
theorem qm4:goB Tryz.prog 56 = true:=by kernel_rfl
theorem qqG:goB Tryz.prog 70 = true:=by kernel_rfl
theorem qqz:goB Tryz.prog 75 = true:=by kernel_rfl
theorem qox:goB Tryz.prog 77 = true:=by kernel_rfl
theorem qql:goB Tryz.prog 78 = true:=by kernel_rfl
theorem qqA:goB Tryz.prog 79 = true:=by kernel_rfl
theorem qpZ:goB Tryz.prog 80 = true:=by kernel_rfl
theorem qqg:goB Tryz.prog 81 = true:=by kernel_rfl
theorem qqs:goB Tryz.prog 82 = true:=by kernel_rfl
theorem qp8:goB Tryz.prog 83 = true:=by kernel_rfl
theorem qqn:goB Tryz.prog 84 = true:=by kernel_rfl
theorem qqF:goB Tryz.prog 91 = true:=by kernel_rfl
theorem qqL:goB Tryz.prog 94 = true:=by kernel_rfl
theorem qon:goB Tryz.prog 95 = true:=by kernel_rfl
theorem qor:goB Tryz.prog 96 = true:=by kernel_rfl
theorem qqD:goB Tryz.prog 97 = true:=by kernel_rfl
theorem qqf:goB Tryz.prog 98 = true:=by kernel_rfl
theorem qqb:goB Tryz.prog 99 = true:=by kernel_rfl
set_option maxRecDepth 100000 in
theorem qiO:∃ i,Tryz.prog.info? 111 = some i ∧ i.size = 2:=⟨_,rfl,by kernel_rfl⟩
set_option maxRecDepth 100000 in
theorem qjT:∃ i,Tryz.prog.info? 118 = some i ∧ i.size = 3:=⟨_,rfl,by kernel_rfl⟩
set_option maxRecDepth 100000 in
theorem qjQ:∃ i,Tryz.prog.info? 154 = some i ∧ i.size = 5:=⟨_,rfl,by kernel_rfl⟩
set_option maxRecDepth 100000 in
theorem qoL:∃ i,Tryz.prog.info? 156 = some i ∧ i.size = 2:=⟨_,rfl,by kernel_rfl⟩
set_option maxRecDepth 100000 in
theorem qo5:∃ i,Tryz.prog.info? 178 = some i ∧ i.size = 1:=⟨_,rfl,by kernel_rfl⟩
set_option maxRecDepth 100000 in
theorem qoO:∃ i,Tryz.prog.info? 196 = some i ∧ i.size = 1:=⟨_,rfl,by kernel_rfl⟩
set_option maxRecDepth 100000 in
theorem qkw:∃ i,Tryz.prog.info? 26 = some i ∧ i.size = 1:=⟨_,rfl,by kernel_rfl⟩
set_option maxRecDepth 100000 in
theorem qiB:∃ i,Tryz.prog.info? 29 = some i ∧ i.size = 3:=⟨_,rfl,by kernel_rfl⟩
set_option maxRecDepth 100000 in
theorem qd2:∃ i,Tryz.prog.info? 3 = some i ∧ i.size = 1:=⟨_,rfl,by kernel_rfl⟩
set_option maxRecDepth 100000 in
theorem qos:∃ i,Tryz.prog.info? 4 = some i ∧ i.size = 1:=⟨_,rfl,by kernel_rfl⟩
set_option maxRecDepth 100000 in
theorem qlX:∃ i,Tryz.prog.info? 75 = some i ∧ i.size = 2:=⟨_,rfl,by kernel_rfl⟩
set_option maxRecDepth 100000 in
theorem qpt:∃ i,Tryz.prog.info? 83 = some i ∧ i.size = 3:=⟨_,rfl,by kernel_rfl⟩
set_option maxRecDepth 100000 in
theorem qpR:∃ i,Tryz.prog.info? 85 = some i ∧ i.size = 1:=⟨_,rfl,by kernel_rfl⟩
set_option maxRecDepth 100000 in
theorem qno:∃ i,Tryz.prog.info? 86 = some i ∧ i.size = 1:=⟨_,rfl,by kernel_rfl⟩
set_option maxRecDepth 100000 in
theorem qpl:∃ i,Tryz.prog.info? 88 = some i ∧ i.size = 2:=⟨_,rfl,by kernel_rfl⟩
set_option maxRecDepth 100000 in
theorem qmH:∃ i,Tryz.prog.info? 88 = some i:=⟨_,rfl⟩
theorem qoT:liesAt Tryz.prog Tryz.prog.depth 88 (2 / Tryz.prog.cellsOf 88) 0 88 1 = true:=by kernel_rfl
theorem qgR:oneB Tryz.prog 109 = true:=by kernel_rfl
theorem qfZ:oneB Tryz.prog 115 = true:=by kernel_rfl
theorem qj1:oneB Tryz.prog 130 = true:=by kernel_rfl
theorem qgZ:oneB Tryz.prog 152 = true:=by kernel_rfl
theorem qmD:oneB Tryz.prog 178 = true:=by kernel_rfl
theorem qoM:oneB Tryz.prog 181 = true:=by kernel_rfl
theorem qpk:oneB Tryz.prog 182 = true:=by kernel_rfl
theorem qo2:oneB Tryz.prog 196 = true:=by kernel_rfl
theorem qeO:oneB Tryz.prog 26 = true:=by kernel_rfl
theorem qa0:oneB Tryz.prog 3 = true:=by kernel_rfl
theorem qgz:oneB Tryz.prog 4 = true:=by kernel_rfl
theorem qex:oneB Tryz.prog 5 = true:=by kernel_rfl
theorem qpq:oneB Tryz.prog 73 = true:=by kernel_rfl
theorem qmg:oneB Tryz.prog 85 = true:=by kernel_rfl
theorem qnM:oneB Tryz.prog 86 = true:=by kernel_rfl
theorem qav:oneB Tryz.prog 9 = true:=by kernel_rfl
theorem qnb:qcW Tryz.prog 180 = some [(0,1),(1,1),(2,1)]:=by kernel_rfl
theorem qll:qcW Tryz.prog 29 = some [(0,1),(1,1),(2,1)]:=by kernel_rfl
theorem qfe:SlT Tryz.prog 109 118 3:=SlT.of (by kernel_rfl)
theorem qdZ:SlT Tryz.prog 115 154 5:=SlT.of (by kernel_rfl)
theorem qcg:SlT Tryz.prog 129 26 1:=SlT.of (by kernel_rfl)
theorem qfR:SlT Tryz.prog 152 156 2:=SlT.of (by kernel_rfl)
theorem qmb:SlT Tryz.prog 178 181 1:=SlT.of (by kernel_rfl)
theorem qlP:SlT Tryz.prog 181 182 1:=SlT.of (by kernel_rfl)
theorem qlK:SlT Tryz.prog 182 196 1:=SlT.of (by kernel_rfl)
theorem qck:SlT Tryz.prog 26 29 3:=SlT.of (by kernel_rfl)
theorem qfz:SlT Tryz.prog 34 83 3:=SlT.of (by kernel_rfl)
theorem qg3:SlT Tryz.prog 50 9 1:=SlT.of (by kernel_rfl)
theorem qfV:SlT Tryz.prog 73 111 2:=SlT.of (by kernel_rfl)
theorem qig:SlT Tryz.prog 84 75 2:=SlT.of (by kernel_rfl)
theorem qgI:SlT Tryz.prog 86 5 1:=SlT.of (by kernel_rfl)
theorem qmE:qko Tryz.prog 3 = some (Value.int .i64 0):=by kernel_rfl
theorem qjW:qko Tryz.prog 4 = some (Value.bool false):=by kernel_rfl
theorem qfQ:qbv Tryz.prog 111 = some [(Value.string (bs ([]))),(Value.slice none 0 0)]:=by kernel_rfl
theorem qgf:qbv Tryz.prog 118 = some [(Value.string (bs ([]))),(Value.slice none 0 0),(Value.string (bs ([])))]:=by kernel_rfl
theorem qgc:qbv Tryz.prog 154 = some [(Value.string (bs ([]))),(Value.slice none 0 0),(Value.bool false),(Value.int .i64 0),(Value.int .i64 0)]:=by kernel_rfl
theorem qkc:qbv Tryz.prog 156 = some [(Value.int .u8 0),(Value.int .u8 0)]:=by kernel_rfl
theorem qn9:qbv Tryz.prog 180 = some [(Value.slice none 0 0),(Value.slice none 0 0),(Value.map none)]:=by kernel_rfl
theorem qmf:qbv Tryz.prog 181 = some [(Value.slice none 0 0)]:=by kernel_rfl
theorem ql3:qbv Tryz.prog 182 = some [(Value.slice none 0 0)]:=by kernel_rfl
theorem qn6:qbv Tryz.prog 196 = some [(Value.pointer none)]:=by kernel_rfl
theorem qod:qbv Tryz.prog 200 = some (List.map Value.bool (List.replicate 256 false)):=by kernel_rfl
theorem qhH:qbv Tryz.prog 221 = some [(Value.int .i64 0),(Value.int .i64 0)]:=by kernel_rfl
theorem qg0:qbv Tryz.prog 26 = some [(Value.slice none 0 0)]:=by kernel_rfl
theorem qcD:qbv Tryz.prog 29 = some [(Value.string (bs ([]))),(Value.string (bs ([]))),(Value.int .i64 0)]:=by kernel_rfl
theorem qnt:qbv Tryz.prog 3 = some [(Value.int .i64 0)]:=by kernel_rfl
theorem qfB:qbv Tryz.prog 5 = some [(Value.int .u8 0)]:=by kernel_rfl
theorem qiI:qbv Tryz.prog 75 = some [(Value.string (bs ([]))),(Value.string (bs ([])))]:=by kernel_rfl
theorem qiv:qbv Tryz.prog 83 = some [(Value.string (bs ([]))),(Value.int .i64 0),(Value.int .i64 0)]:=by kernel_rfl
theorem qkR:qbv Tryz.prog 88 = some [(Value.pointer none),(Value.slice none 0 0)]:=by kernel_rfl
def qcz:Ro (List (Token)):=fun m cs x M=>∃ c0,cs = [c0] ∧ ORow 29 3 qbi m c0 x M
theorem qlo:FrozO qcz (pL 3 qbi):=⟨fun h hle hf=>by
 obtain ⟨c0,e,h0⟩:=h
 subst e
 exact h0.froz qde hle hf (by decide)⟩
def qcf (u:World) (m0:Mem) (S:Segs) (r:Bool) (a:Act) (w:World):Prop :=
 Ok u m0 S w ∧ a.defers = [] ∧ RVs Tryz.prog a w [.t 2 (.bool r)]
set_option maxHeartbeats 4000000 in
set_option maxRecDepth 100000 in
theorem qh7 {u:World} {m0:Mem} {S:Segs} {w:World} (N:Nat) (vcalls_0:Value) (calls_0:List (Call)) (hcalls_0:(pL 3 qdy) m0 [vcalls_0] calls_0) {r:Bool} (hF:qea N calls_0 = some r) (hG:Glob u) (ok:Ok u m0 S w) :
  Calls Tryz.prog 12 [vcalls_0].toArray w fun e w'=>(e = .returned (.bool r) ∧ Ok u m0 S w'):=by
 have hb0:=ok.base
 have le_m0:=Mem.le.refl m0
 unfold qea at hF
 have fin:∀ a w,qcf u m0 S r a w → bodyPost Tryz.prog Tryz.f12 (fun e w'=>(e = .returned (.bool r) ∧ Ok u m0 S w')) .ret a w:=by
  intro a w h
  obtain ⟨ok,hd,hrv⟩:=h
  exact qaK [.t 2 (.bool r)] hd rfl hrv ⟨rfl,ok⟩
 refine enter Tryz.func12 rfl rfl rfl fun a E=>sg<|lv E ok (qab rfl) fun a E=>wn<|sg ?_
 refine qg8 kS (oneV pB) E ok rfl rfl fun c1 M2 a w E ok h3=>lv E ok (qab rfl) fun a E=>wn<|wp_seq<|sg<|lv E ok (qaa rfl) fun a E=>?_
 refine lv E ok (qaG qfz hcalls_0 rfl) fun a E=>lv E ok (qaa rfl) fun a E=>wn<|wp_block ?_
 obtain ⟨o9,hL,hF⟩:=bnd hF
 refine qaR _ (fun (s:Int × (List (List UInt8 × Bool))) a w=>∃ c11 M12,Ok u m0 (M12 :: S) w ∧ Env 59 a [(0,vcalls_0),(3,c11),(7,vcalls_0),(8,(Value.int .i64 (calls_0.length:Int))),(9,(Value.int .i64 s.1))] ∧ InR .i64 s.1 ∧ OMap kS (oneV pB) m0 c11 s.2 M12) (fun (b:(Unit ⊕ Bool)) e a w=>(Sum.elim (fun b54=>e = (.exit 0) ∧ Ok u m0 (S) w ∧ Env 59 a [(0,vcalls_0)]) (fun b55=>e = .ret ∧ qcf u m0 S b55 a w)) b) ?_ ?_ N _ a w hL ⟨c1,M2,ok,E.keep [0,3,7,8,9],(show InR .i64 (0) by decide),h3⟩
 rotate_left
 ·intro e a w _ hO
  rcases o9 with o9 | o9
  rotate_left
  ·replace hF:=qba hF
   obtain ⟨rfl,hret⟩:=hO
   refine qap<|qan ?_
   obtain rfl:=sj hF
   exact fin _ _ hret
  replace hF:=qa9 hF
  obtain ⟨rfl,ok,E⟩:=hO
  refine qaT<|qad<|sg<|lv E ok (qaa rfl) fun a E=>lv E ok (qaG qfz hcalls_0 rfl) fun a E=>lv E ok (qct rfl rfl) fun a E=>lv E ok (qab rfl) fun a E=>?_
  refine wn<|wp_ret ?_
  have hret:qcf u m0 S (decide ((calls_0.length:Int) ≤ 40)) a w:=⟨ok,E.d,⟨rv_t E rfl,trivial⟩⟩
  obtain rfl:=sj hF
  exact fin _ _ hret
 rintro ⟨x_14,seen_15⟩ a w r ⟨c17,M18,ok,E,r16,h19⟩ hF
 replace hF:qcT N calls_0 x_14 seen_15 = some r:=hF
 unfold qcT at hF
 refine sg<|lv E ok (qaB rfl rfl) fun a E=>wn<|wp_seq<|c_if E rfl (fun hc20=>?_) (fun hc20=>?_)
 rotate_left
 ·replace hF:=qah hc20 hF
  refine wp_exit<|qaD ?_
  obtain rfl:=sj hF
  exact qaq (by nofun) (sl ⟨rfl,⟨(ok.pk 1 [] rfl (by decide)),E.keep [0]⟩⟩)
 replace hF:=qai hc20 hF
 refine wp_skip<|qad<|wp_seq<|wp_block<|sg ?_
 obtain ⟨x21,e22,hF⟩:=bnd hF
 obtain ⟨b23,o24,es25,hl26,rr27,at28,yy29⟩:=qaI qfz hcalls_0 e22 (P:=Tryz.prog) (X:=.tmp 7) (I:=.tmp 9) (kd:=.i64) (qao E rfl) (qao E rfl)
 obtain ⟨rfl,l30,r31,r32⟩:=rr27
 refine lv E ok (yy29 _ _) fun a E=>lv E ok (qax (cs:=[(Value.string (bs x21.Name)),(Value.int .i64 x21.ID),(Value.int .i64 x21.Source)]) qnP rfl rfl (qaf.ro at28)) fun a E=>qaZ E ok qiv rfl rfl fun b33 a w E ok=>qat E ok 0 rfl rfl rfl qpt rfl rfl ⟨rfl,rfl,rfl,trivial⟩ rfl rfl fun w ok=>wn<|wp_seq<|wp_seq ?_
 refine qae<|lv E ok (qac qiH rfl) fun a E=>lv E ok (qaj qav rfl (qaf.own 0 rfl rfl)) fun a E=>lv E ok (qa1 rfl rfl) fun a E=>lv E ok (qaa rfl) fun a E=>qas (x21.Name == ([])) (fun hc34=>?_) (fun hc34=>?_)
 ·replace hF:=qai hc34 hF
  replace E:=E.upd 16 hc34 rfl
  refine ls E fun a E=>ls E fun a E=>ls E fun a E=>ls E fun a E=>lv E ok (qak rfl rfl) fun a E=>lv E ok (qaa rfl) fun a E=>ls E fun a E=>ls E fun a E=>?_
  refine ls E fun a E=>lv E ok (qak rfl rfl) fun a E=>lv E ok (qaa rfl) fun a E=>ls E fun a E=>ls E fun a E=>ls E fun a E=>lv E ok (qak rfl rfl) fun a E=>lv E ok (qaa rfl) fun a E=>?_
  refine ls E fun a E=>ls E fun a E=>ls E fun a E=>lv E ok (qak rfl rfl) fun a E=>lv E ok (qaa rfl) fun a E=>ls E fun a E=>ls E fun a E=>ls E fun a E=>?_
  refine lv E ok (qak rfl rfl) fun a E=>lv E ok (qaa rfl) fun a E=>ls E fun a E=>ls E fun a E=>ls E fun a E=>ls E fun a E=>ls E fun a E=>ls E fun a E=>?_
  refine ls E fun a E=>ls E fun a E=>lv E ok (qak rfl rfl) fun a E=>wn<|c_if E rfl (fun _=>?_) (fun h=>by cases h)
  refine sg<|lv E ok (qab rfl) fun a E=>wn<|wp_ret<|qan<|qap ?_
  refine qan ?_
  have hret:qcf u m0 S false a w:=⟨ok.drop.drop,E.d,⟨rv_t E rfl,trivial⟩⟩
  obtain rfl:=sj hF
  exact qaq (by nofun) (sr ⟨rfl,hret⟩)
 replace hF:=qah hc34 hF
 replace E:=E.upd 16 hc34 rfl
 refine lv E ok (qaa rfl) fun a E=>lv E ok (qac qiH rfl) fun a E=>lv E ok (qaj qav rfl (qaf.own 0 rfl rfl)) fun a E=>?_
 obtain ⟨xv35,h36,yy37,yy38⟩:=qjU (P:=Tryz.prog) (mo:=.tmp 17) (ko:=.tmp 19) (zx:=(false:Bool)) ok 1 (qdK Tryz.underlying9) Tryz.underlying95 h19 rfl (qao E rfl) (qao E rfl) ⟨rfl,l30⟩ qjW qif
 obtain rfl:=qkz h36
 refine lv E ok (yy37 _) fun a E=>lv E ok (qam rfl rfl) fun a E=>lv E ok (qaa rfl) fun a E=>qas ((mget seen_15 x21.Name).getD false) (fun hc39=>?_) (fun hc39=>?_)
 ·replace hF:=qai hc39 hF
  replace E:=E.upd 22 hc39 rfl
  refine ls E fun a E=>ls E fun a E=>ls E fun a E=>lv E ok (qak rfl rfl) fun a E=>lv E ok (qaa rfl) fun a E=>ls E fun a E=>ls E fun a E=>ls E fun a E=>?_
  refine lv E ok (qak rfl rfl) fun a E=>lv E ok (qaa rfl) fun a E=>ls E fun a E=>ls E fun a E=>ls E fun a E=>lv E ok (qak rfl rfl) fun a E=>lv E ok (qaa rfl) fun a E=>ls E fun a E=>?_
  refine ls E fun a E=>ls E fun a E=>lv E ok (qak rfl rfl) fun a E=>lv E ok (qaa rfl) fun a E=>ls E fun a E=>ls E fun a E=>ls E fun a E=>ls E fun a E=>?_
  refine ls E fun a E=>ls E fun a E=>ls E fun a E=>ls E fun a E=>lv E ok (qak rfl rfl) fun a E=>wn<|c_if E rfl (fun _=>?_) (fun h=>by cases h)
  refine sg<|lv E ok (qab rfl) fun a E=>wn<|wp_ret<|qan<|qap ?_
  refine qan ?_
  have hret:qcf u m0 S false a w:=⟨ok.drop.drop,E.d,⟨rv_t E rfl,trivial⟩⟩
  obtain rfl:=sj hF
  exact qaq (by nofun) (sr ⟨rfl,hret⟩)
 replace hF:=qah hc39 hF
 replace E:=E.upd 22 hc39 rfl
 refine lv E ok (qac qhC rfl) fun a E=>lv E ok (qaj qa0 rfl (qaf.own 0 rfl rfl)) fun a E=>lv E ok (qaB rfl rfl) fun a E=>lv E ok (qam rfl rfl) fun a E=>lv E ok (qaa rfl) fun a E=>qas (decide (x21.ID < (-1))) (fun hc40=>?_) (fun hc40=>?_)
 ·replace hF:=qai hc40 hF
  replace E:=E.upd 27 hc40 rfl
  refine ls E fun a E=>ls E fun a E=>ls E fun a E=>lv E ok (qak rfl rfl) fun a E=>lv E ok (qaa rfl) fun a E=>ls E fun a E=>ls E fun a E=>ls E fun a E=>?_
  refine lv E ok (qak rfl rfl) fun a E=>lv E ok (qaa rfl) fun a E=>ls E fun a E=>ls E fun a E=>ls E fun a E=>lv E ok (qak rfl rfl) fun a E=>lv E ok (qaa rfl) fun a E=>ls E fun a E=>?_
  refine ls E fun a E=>ls E fun a E=>ls E fun a E=>ls E fun a E=>ls E fun a E=>ls E fun a E=>ls E fun a E=>lv E ok (qak rfl rfl) fun a E=>?_
  refine wn<|c_if E rfl (fun _=>?_) (fun h=>by cases h)
  refine sg<|lv E ok (qab rfl) fun a E=>wn<|wp_ret<|qan<|qap ?_
  refine qan ?_
  have hret:qcf u m0 S false a w:=⟨ok.drop.drop,E.d,⟨rv_t E rfl,trivial⟩⟩
  obtain rfl:=sj hF
  exact qaq (by nofun) (sr ⟨rfl,hret⟩)
 replace hF:=qah hc40 hF
 replace E:=E.upd 27 hc40 rfl
 refine lv E ok (qac qhC rfl) fun a E=>lv E ok (qaj qa0 rfl (qaf.own 0 rfl rfl)) fun a E=>lv E ok (qb4 rfl rfl) fun a E=>lv E ok (qam rfl rfl) fun a E=>lv E ok (qaa rfl) fun a E=>qas (decide (x21.ID > 9)) (fun hc41=>?_) (fun hc41=>?_)
 ·replace hF:=qai hc41 hF
  replace E:=E.upd 32 hc41 rfl
  refine ls E fun a E=>ls E fun a E=>ls E fun a E=>lv E ok (qak rfl rfl) fun a E=>lv E ok (qaa rfl) fun a E=>ls E fun a E=>ls E fun a E=>ls E fun a E=>?_
  refine lv E ok (qak rfl rfl) fun a E=>lv E ok (qaa rfl) fun a E=>ls E fun a E=>ls E fun a E=>ls E fun a E=>ls E fun a E=>ls E fun a E=>ls E fun a E=>?_
  refine ls E fun a E=>ls E fun a E=>lv E ok (qak rfl rfl) fun a E=>wn<|c_if E rfl (fun _=>?_) (fun h=>by cases h)
  refine sg<|lv E ok (qab rfl) fun a E=>wn<|wp_ret<|qan<|qap ?_
  refine qan ?_
  have hret:qcf u m0 S false a w:=⟨ok.drop.drop,E.d,⟨rv_t E rfl,trivial⟩⟩
  obtain rfl:=sj hF
  exact qaq (by nofun) (sr ⟨rfl,hret⟩)
 replace hF:=qah hc41 hF
 replace E:=E.upd 32 hc41 rfl
 refine lv E ok (qac qhD rfl) fun a E=>lv E ok (qaj qa0 rfl (qaf.own 0 rfl rfl)) fun a E=>lv E ok (qaB rfl rfl) fun a E=>lv E ok (qam rfl rfl) fun a E=>lv E ok (qaa rfl) fun a E=>qas (decide (x21.Source < (-1))) (fun hc42=>?_) (fun hc42=>?_)
 ·replace hF:=qai hc42 hF
  replace E:=E.upd 37 hc42 rfl
  refine ls E fun a E=>ls E fun a E=>ls E fun a E=>lv E ok (qak rfl rfl) fun a E=>lv E ok (qaa rfl) fun a E=>ls E fun a E=>ls E fun a E=>ls E fun a E=>?_
  refine ls E fun a E=>ls E fun a E=>ls E fun a E=>ls E fun a E=>ls E fun a E=>lv E ok (qak rfl rfl) fun a E=>wn ?_
  refine c_if E rfl (fun _=>?_) (fun h=>by cases h)
  refine sg<|lv E ok (qab rfl) fun a E=>wn<|wp_ret<|qan<|qap ?_
  refine qan ?_
  have hret:qcf u m0 S false a w:=⟨ok.drop.drop,E.d,⟨rv_t E rfl,trivial⟩⟩
  obtain rfl:=sj hF
  exact qaq (by nofun) (sr ⟨rfl,hret⟩)
 replace hF:=qah hc42 hF
 replace E:=E.upd 37 hc42 rfl
 refine lv E ok (qac qhD rfl) fun a E=>lv E ok (qaj qa0 rfl (qaf.own 0 rfl rfl)) fun a E=>lv E ok (qb4 rfl rfl) fun a E=>lv E ok (qam rfl rfl) fun a E=>lv E ok (qaa rfl) fun a E=>qas (decide (x21.Source > 9)) (fun hc43=>?_) (fun hc43=>?_)
 ·replace hF:=qai hc43 hF
  replace E:=E.upd 42 hc43 rfl
  refine ls E fun a E=>ls E fun a E=>ls E fun a E=>ls E fun a E=>ls E fun a E=>ls E fun a E=>ls E fun a E=>ls E fun a E=>?_
  refine lv E ok (qak rfl rfl) fun a E=>wn<|c_if E rfl (fun _=>?_) (fun h=>by cases h)
  refine sg<|lv E ok (qab rfl) fun a E=>wn<|wp_ret<|qan<|qap ?_
  refine qan ?_
  have hret:qcf u m0 S false a w:=⟨ok.drop.drop,E.d,⟨rv_t E rfl,trivial⟩⟩
  obtain rfl:=sj hF
  exact qaq (by nofun) (sr ⟨rfl,hret⟩)
 replace hF:=qah hc43 hF
 replace E:=E.upd 42 hc43 rfl
 refine lv E ok (qac qhC rfl) fun a E=>lv E ok (qaj qa0 rfl (qaf.own 0 rfl rfl)) fun a E=>lv E ok (qbn rfl rfl) fun a E=>lv E ok (qaa rfl) fun a E=>qas (x21.ID == (-1)) (fun hc44=>?_) (fun hc44=>?_)
 rotate_left
 ·replace hF:=qah hc44 hF
  replace E:=E.upd 46 hc44 rfl
  refine ls E fun a E=>ls E fun a E=>ls E fun a E=>lv E ok (qam rfl rfl) fun a E=>lv E ok (qam rfl rfl) fun a E=>wn<|c_if E rfl (fun h=>by cases h) (fun _=>?_)
  refine wp_skip<|qad<|qae<|lv E ok (qaa rfl) fun a E=>lv E ok (qac qiH rfl) fun a E=>lv E ok (qaj qav rfl (qaf.own 0 rfl rfl)) fun a E=>?_
  obtain ⟨l50,e51,hF⟩:=bnd hF
  refine qiC (.inl rfl) E ok 1 (qdK Tryz.underlying9) Tryz.underlying95 h19 rfl rfl rfl rfl ⟨rfl,l30⟩ qif e51 rfl fun M52 w ok h53=>wpList_nil<|qar<|qad<|qae<|lv E ok (qaC rfl rfl (InR.inc r16 (qau hcalls_0) hc20)) fun a E=>lv E ok (qaa rfl) fun a E=>wpList_nil ?_
  obtain rfl:=sj hF
  exact qay ⟨c17,M52,(ok.pk 2 [1] rfl (by decide)),E.keep [0,3,7,8,9],(InR.inc r16 (qau hcalls_0) hc20),h53⟩
 replace hF:=qai hc44 hF
 replace E:=E.upd 46 hc44 rfl
 refine lv E ok (qac qhD rfl) fun a E=>lv E ok (qaj qa0 rfl (qaf.own 0 rfl rfl)) fun a E=>lv E ok (qbn rfl rfl) fun a E=>lv E ok (qak rfl rfl) fun a E=>lv E ok (qam rfl rfl) fun a E=>wn<|c_if E rfl (fun hc45=>?_) (fun hc45=>?_)
 ·replace hF:=qai hc45 hF
  refine sg<|lv E ok (qab rfl) fun a E=>wn<|wp_ret<|qan<|qap ?_
  refine qan ?_
  have hret:qcf u m0 S false a w:=⟨ok.drop.drop,E.d,⟨rv_t E rfl,trivial⟩⟩
  obtain rfl:=sj hF
  exact qaq (by nofun) (sr ⟨rfl,hret⟩)
 replace hF:=qah hc45 hF
 refine wp_skip<|qad<|qae<|lv E ok (qaa rfl) fun a E=>lv E ok (qac qiH rfl) fun a E=>lv E ok (qaj qav rfl (qaf.own 0 rfl rfl)) fun a E=>?_
 obtain ⟨l46,e47,hF⟩:=bnd hF
 refine qiC (.inl rfl) E ok 1 (qdK Tryz.underlying9) Tryz.underlying95 h19 rfl rfl rfl rfl ⟨rfl,l30⟩ qif e47 rfl fun M48 w ok h49=>wpList_nil<|qar<|qad<|qae<|lv E ok (qaC rfl rfl (InR.inc r16 (qau hcalls_0) hc20)) fun a E=>lv E ok (qaa rfl) fun a E=>wpList_nil ?_
 obtain rfl:=sj hF
 exact qay ⟨c17,M48,(ok.pk 2 [1] rfl (by decide)),E.keep [0,3,7,8,9],(InR.inc r16 (qau hcalls_0) hc20),h49⟩
theorem qiJ {u:World} {m:Mem} {S:Segs} {w:World} {b:Nat} {v:Value} (ok:Ok u m ([(b,Obj.cells [(Value.pointer none),v].toArray 88 (0,0))] :: S) w) :
  Calls Tryz.prog 47 [.pointer (some ⟨b,0,none⟩)].toArray w fun e w'=>e = .returned (.tuple [].toArray) ∧ Ok u m ([(b,Obj.cells [(Value.pointer (some ⟨b,0,none⟩)),v].toArray 88 (0,0))] :: S) w':=by
 have fin:∀ a w,(a.defers = [] ∧ Ok u m ([(b,Obj.cells [(Value.pointer (some ⟨b,0,none⟩)),v].toArray 88 (0,0))] :: S) w) → bodyPost Tryz.prog Tryz.f47 (fun e w'=>e = .returned (.tuple [].toArray) ∧ Ok u m ([(b,Obj.cells [(Value.pointer (some ⟨b,0,none⟩)),v].toArray 88 (0,0))] :: S) w') .ret a w:=fun a w h=>qaK [] h.1 rfl trivial ⟨rfl,h.2⟩
 refine enter Tryz.func47 rfl rfl rfl fun a E=>sg<|lv E ok (qaa rfl) fun a E=>lv E ok (qbc rfl) fun a E=>lv E ok (qac qjX rfl) fun a E=>lv E ok (qaj qmg rfl (qaf.own 0 rfl rfl)) fun a E=>lv E ok (qnz Tryz.underlying85 rfl rfl) fun a E=>?_
 refine wn<|c_if E rfl (fun _=>?_) (fun h=>by cases h)
 refine qae<|lv E ok (qaa rfl) fun a E=>lv E ok (qaa rfl) fun a E=>lv E ok (qmY Tryz.underlying85 Tryz.underlying173 qpl (by decide) (qlc (c:=[(Value.pointer none),v]) 0 rfl) (Nat.le_of_ble_eq_true rfl) rfl) fun a E=>lv E ok (qm3 Tryz.func76 (by kernel_rfl) (by kernel_rfl) (by kernel_rfl) (by kernel_rfl) rfl) fun a E=>lv E ok (ql4 Tryz.underlying173 Tryz.underlying85 qmH (qlc (c:=[(Value.pointer none),v]) 0 rfl) qoT rfl) fun a E=>lv E ok (qbc rfl) fun a E=>lv E ok (qac qjX rfl) fun a E=>?_
 refine qat E ok 0 rfl rfl rfl qpR rfl rfl ⟨rfl,trivial⟩ rfl rfl fun w ok=>wpList_nil ?_
 exact fin _ _ ⟨E.d,ok⟩
theorem qik {u:World} {m:Mem} {S:Segs} {w:World} {b:Nat} {v:Value} (ok:Ok u m ([(b,Obj.cells [(Value.pointer (some ⟨b,0,none⟩)),v].toArray 88 (0,0))] :: S) w) :
  Calls Tryz.prog 47 [.pointer (some ⟨b,0,none⟩)].toArray w fun e w'=>e = .returned (.tuple [].toArray) ∧ Ok u m ([(b,Obj.cells [(Value.pointer (some ⟨b,0,none⟩)),v].toArray 88 (0,0))] :: S) w':=by
 have fin:∀ a w,(a.defers = [] ∧ Ok u m ([(b,Obj.cells [(Value.pointer (some ⟨b,0,none⟩)),v].toArray 88 (0,0))] :: S) w) → bodyPost Tryz.prog Tryz.f47 (fun e w'=>e = .returned (.tuple [].toArray) ∧ Ok u m ([(b,Obj.cells [(Value.pointer (some ⟨b,0,none⟩)),v].toArray 88 (0,0))] :: S) w') .ret a w:=fun a w h=>qaK [] h.1 rfl trivial ⟨rfl,h.2⟩
 refine enter Tryz.func47 rfl rfl rfl fun a E=>sg<|lv E ok (qaa rfl) fun a E=>lv E ok (qbc rfl) fun a E=>lv E ok (qac qjX rfl) fun a E=>lv E ok (qaj qmg rfl (qaf.own 0 rfl rfl)) fun a E=>lv E ok (qnz Tryz.underlying85 rfl rfl) fun a E=>?_
 refine wn<|c_if E rfl (fun h=>by cases h) (fun _=>?_)
 refine sg<|lv E ok (qaa rfl) fun a E=>lv E ok (qbc rfl) fun a E=>lv E ok (qac qjX rfl) fun a E=>lv E ok (qaj qmg rfl (qaf.own 0 rfl rfl)) fun a E=>lv E ok (qaa rfl) fun a E=>lv E ok (qnG Tryz.underlying85 qmH rfl rfl) fun a E=>?_
 refine wn<|c_if E rfl (fun h=>by cases h) (fun _=>?_)
 refine wp_skip ?_
 exact fin _ _ ⟨E.d,ok⟩
theorem qgP {u:World} {m:Mem} {S:Segs} {w:World} {b:Nat} {a v:Value} (ha:BAd b a) (ok:Ok u m ([(b,Obj.cells [a,v].toArray 88 (0,0))] :: S) w) :
  Calls Tryz.prog 47 [.pointer (some ⟨b,0,none⟩)].toArray w fun e w'=>e = .returned (.tuple [].toArray) ∧ Ok u m ([(b,Obj.cells [(Value.pointer (some ⟨b,0,none⟩)),v].toArray 88 (0,0))] :: S) w':=by
 rcases ha with rfl | rfl
 ·exact qiJ ok
 ·exact qik ok
def qew (u:World) (m0:Mem) (S:Segs) (pb0:Nat) (x0:Builder) (c1:Value) (c3:Value) (M4:List (Nat × Obj)) (r:Int × Unit × Builder) (a:Act) (w:World):Prop :=
 ∃ c6 c8 M9,Ok u m0 ([(pb0,Obj.cells [c6,c8].toArray 88 (0,0))] :: M9 :: S) w ∧ a.defers = [] ∧ RVs Tryz.prog a w [.t 4 (.int .i64 r.1),.t 5 .nilIface] ∧ InR .i64 r.1 ∧ BAd pb0 c6 ∧ ORow 5 1 (pI .u8) m0 c8 r.2.2.buf M9
set_option maxHeartbeats 4000000 in
set_option maxRecDepth 100000 in
theorem qaP {u:World} {m0:Mem} {S:Segs} {w:World} (N:Nat) (s_1:List UInt8) (ls_1:s_1.length ≤ LIMS) {pb0:Nat} {c1:Value} {c3:Value} {M4:List (Nat × Obj)} (x0:Builder) (h2:BAd pb0 c1) (h5:ORow 5 1 (pI .u8) m0 c3 x0.buf M4) {r:Int × Unit × Builder} (hF:qaF N s_1 x0 = some r) (hG:Glob u) (ok:Ok u m0 ([(pb0,Obj.cells [c1,c3].toArray 88 (0,0))] :: M4 :: S) w) :
  Calls Tryz.prog 29 [Value.pointer (some ⟨pb0,0,none⟩),Value.string (bs s_1)].toArray w fun e w'=>∃ c6 c8 M9,(e = .returned (.tuple [(.int .i64 r.1),.nilIface].toArray) ∧ Ok u m0 ([(pb0,Obj.cells [c6,c8].toArray 88 (0,0))] :: M9 :: S) w') ∧ InR .i64 r.1 ∧ BAd pb0 c6 ∧ ORow 5 1 (pI .u8) m0 c8 r.2.2.buf M9:=by
 have hb0:=ok.base
 have le_m0:=Mem.le.refl m0
 unfold qaF at hF
 have fin:∀ a w,qew u m0 S pb0 x0 c1 c3 M4 r a w → bodyPost Tryz.prog Tryz.f29 (fun e w'=>∃ c6 c8 M9,(e = .returned (.tuple [(.int .i64 r.1),.nilIface].toArray) ∧ Ok u m0 ([(pb0,Obj.cells [c6,c8].toArray 88 (0,0))] :: M9 :: S) w') ∧ InR .i64 r.1 ∧ BAd pb0 c6 ∧ ORow 5 1 (pI .u8) m0 c8 r.2.2.buf M9) .ret a w:=by
  intro a w h
  obtain ⟨c6,c8,M9,ok,hd,hrv,h0,h1,h2⟩:=h
  exact qaK [.t 4 (.int .i64 r.1),.t 5 .nilIface] hd rfl hrv ⟨c6,c8,M9,⟨rfl,ok⟩,h0,h1,h2⟩
 refine enter Tryz.func29 rfl rfl rfl fun a E=>sg<|lv E ok (qab rfl) fun a E=>lv E ok (qab rfl) fun a E=>wn<|wp_seq ?_
 refine qae<|lv E ok (qaa rfl) fun a E=>qaw E qop rfl (qgP h2 ok) rfl rfl ?_
 rintro _ w ⟨rfl,ok⟩
 refine ⟨_,rfl,fun a E=>?_⟩
 refine wn<|sg<|lv E ok (qaa rfl) fun a E=>lv E ok (qaa rfl) fun a E=>lv E ok (qbc rfl) fun a E=>lv E ok (qac qjP rfl) fun a E=>?_
 refine lv E ok (qaj qnM rfl (qaf.own 0 rfl rfl)) fun a E=>lv E ok (qaa rfl) fun a E=>?_
 obtain ⟨l11,e12,hF⟩:=bnd hF
 refine qpI E ok 1 qgI Tryz.underlying9 rfl h5 e12 ⟨_,qfB,rfl⟩ rfl rfl rfl rfl fun c13 M14 a w E ok h15=>lv E ok (qbc rfl) fun a E=>lv E ok (qac qjP rfl) fun a E=>qat E ok 0 rfl rfl rfl qno (ORow.cells h15) rfl ⟨(ORow.one h15),trivial⟩ rfl rfl fun w ok=>wn<|sg ?_
 refine lv E ok (qaa rfl) fun a E=>lv E ok (qaX Tryz.underlying9 rfl) fun a E=>lv E ok (qab rfl) fun a E=>lv E ok (qab rfl) fun a E=>wn<|wp_ret ?_
 have hret:qew u m0 S pb0 x0 c1 c3 M4 ((s_1.length:Int),(),(Builder.mk () l11)) a w:=⟨(Value.pointer (some ⟨pb0,0,none⟩)),c13,M14,ok,E.d,⟨rv_t E rfl,rv_t E rfl,trivial⟩,(InR.len ls_1),(.inr rfl),h15⟩
 obtain rfl:=sj hF
 exact fin _ _ hret
def qeR (u:World) (m0:Mem) (S:Segs) (pb0:Nat) (x0:Builder) (c1:Value) (c3:Value) (M4:List (Nat × Obj)) (r:Unit × Builder) (a:Act) (w:World):Prop :=
 ∃ c6 c8 M9,Ok u m0 ([(pb0,Obj.cells [c6,c8].toArray 88 (0,0))] :: M9 :: S) w ∧ a.defers = [] ∧ RVs Tryz.prog a w [.t 4 .nilIface] ∧ BAd pb0 c6 ∧ ORow 5 1 (pI .u8) m0 c8 r.2.buf M9
set_option maxHeartbeats 4000000 in
set_option maxRecDepth 100000 in
theorem qbH {u:World} {m0:Mem} {S:Segs} {w:World} (N:Nat) (c_1:Int) (rc_1:InR .u8 c_1) {pb0:Nat} {c1:Value} {c3:Value} {M4:List (Nat × Obj)} (x0:Builder) (h2:BAd pb0 c1) (h5:ORow 5 1 (pI .u8) m0 c3 x0.buf M4) {r:Unit × Builder} (hF:qa4 N c_1 x0 = some r) (hG:Glob u) (ok:Ok u m0 ([(pb0,Obj.cells [c1,c3].toArray 88 (0,0))] :: M4 :: S) w) :
  Calls Tryz.prog 30 [Value.pointer (some ⟨pb0,0,none⟩),Value.int .u8 c_1].toArray w fun e w'=>∃ c6 c8 M9,(e = .returned .nilIface ∧ Ok u m0 ([(pb0,Obj.cells [c6,c8].toArray 88 (0,0))] :: M9 :: S) w') ∧ BAd pb0 c6 ∧ ORow 5 1 (pI .u8) m0 c8 r.2.buf M9:=by
 have hb0:=ok.base
 have le_m0:=Mem.le.refl m0
 unfold qa4 at hF
 have fin:∀ a w,qeR u m0 S pb0 x0 c1 c3 M4 r a w → bodyPost Tryz.prog Tryz.f30 (fun e w'=>∃ c6 c8 M9,(e = .returned .nilIface ∧ Ok u m0 ([(pb0,Obj.cells [c6,c8].toArray 88 (0,0))] :: M9 :: S) w') ∧ BAd pb0 c6 ∧ ORow 5 1 (pI .u8) m0 c8 r.2.buf M9) .ret a w:=by
  intro a w h
  obtain ⟨c6,c8,M9,ok,hd,hrv,h0,h1⟩:=h
  exact qaK [.t 4 .nilIface] hd rfl hrv ⟨c6,c8,M9,⟨rfl,ok⟩,h0,h1⟩
 refine enter Tryz.func30 rfl rfl rfl fun a E=>sg<|lv E ok (qab rfl) fun a E=>wn<|sg ?_
 refine lv E ok (qaa rfl) fun a E=>qaw E qop rfl (qgP h2 ok) rfl rfl ?_
 rintro _ w ⟨rfl,ok⟩
 refine ⟨_,rfl,fun a E=>?_⟩
 refine wn<|sg<|lv E ok (qaa rfl) fun a E=>lv E ok (qaa rfl) fun a E=>lv E ok (qbc rfl) fun a E=>lv E ok (qac qjP rfl) fun a E=>?_
 refine lv E ok (qaj qnM rfl (qaf.own 0 rfl rfl)) fun a E=>lv E ok (qaa rfl) fun a E=>qbf (R:=(pI .u8)) (xo:=[.tmp 12]) (xs:=([c_1]:List (Int))) E ok qgI qfB rfl ⟨⟨_,rfl,rfl,(qf0 rc_1)⟩,trivial⟩ rfl rfl rfl rfl fun c11 M12 a w E ok h13=>?_
 obtain ⟨l14,e15,hF⟩:=bnd hF
 refine qcI (R:=(pI .u8)) E ok 2 (mI .u8) qgI Tryz.underlying86 rfl h5 (qbo.ofRow h13 0 rfl ok) e15 ⟨_,qfB,rfl⟩ rfl rfl rfl rfl fun c16 M17 a w E ok h18=>lv E ok (qbc rfl) fun a E=>lv E ok (qac qjP rfl) fun a E=>qat E ok 1 rfl rfl rfl qno (ORow.cells h18) rfl ⟨(ORow.one h18),trivial⟩ rfl rfl fun w ok=>wn<|sg ?_
 refine lv E ok (qab rfl) fun a E=>wn<|wp_ret ?_
 have hret:qeR u m0 S pb0 x0 c1 c3 M4 ((),(Builder.mk () l14)) a w:=⟨(Value.pointer (some ⟨pb0,0,none⟩)),c16,M17,ok.drop,E.d,⟨rv_t E rfl,trivial⟩,(.inr rfl),h18⟩
 obtain rfl:=sj hF
 exact fin _ _ hret
def qbq (u:World) (m0:Mem) (S:Segs) (r:(List UInt8) × Bool) (a:Act) (w:World):Prop :=
 Ok u m0 S w ∧ a.defers = [] ∧ RVs Tryz.prog a w [.t 2 (.string (bs r.1)),.t 3 (.bool r.2)] ∧ r.1.length ≤ LIMS
set_option maxHeartbeats 4000000 in
set_option maxRecDepth 100000 in
theorem qhs {u:World} {m0:Mem} {S:Segs} {w:World} (N:Nat) (vl_0:Value) (l_0:List (Token)) (hl_0:(pL 3 qbi) m0 [vl_0] l_0) {r:(List UInt8) × Bool} (hF:qc9 N l_0 = some r) (hG:Glob u) (ok:Ok u m0 S w) :
  Calls Tryz.prog 10 [vl_0].toArray w fun e w'=>(e = .returned (.tuple [(.string (bs r.1)),(.bool r.2)].toArray) ∧ Ok u m0 S w') ∧ r.1.length ≤ LIMS:=by
 have hb0:=ok.base
 have le_m0:=Mem.le.refl m0
 unfold qc9 at hF
 have fin:∀ a w,qbq u m0 S r a w → bodyPost Tryz.prog Tryz.f10 (fun e w'=>(e = .returned (.tuple [(.string (bs r.1)),(.bool r.2)].toArray) ∧ Ok u m0 S w') ∧ r.1.length ≤ LIMS) .ret a w:=by
  intro a w h
  obtain ⟨ok,hd,hrv,h0⟩:=h
  exact qaK [.t 2 (.string (bs r.1)),.t 3 (.bool r.2)] hd rfl hrv ⟨⟨rfl,ok⟩,h0⟩
 refine enter Tryz.func10 rfl rfl rfl fun a E=>sg<|lv E ok (qab rfl) fun a E=>lv E ok (qab rfl) fun a E=>wn<|wp_seq ?_
 refine sg<|lv E ok (qaa rfl) fun a E=>lv E ok (qaG qck hl_0 rfl) fun a E=>lv E ok (qaB rfl rfl) fun a E=>lv E ok (qaa rfl) fun a E=>qas (decide ((l_0.length:Int) < 2)) (fun hc1=>?_) (fun hc1=>?_)
 ·replace hF:=qai hc1 hF
  replace E:=E.upd 10 hc1 rfl
  refine ls E fun a E=>ls E fun a E=>ls E fun a E=>ls E fun a E=>ls E fun a E=>lv E ok (qak rfl rfl) fun a E=>lv E ok (qaa rfl) fun a E=>ls E fun a E=>?_
  refine ls E fun a E=>ls E fun a E=>ls E fun a E=>ls E fun a E=>ls E fun a E=>ls E fun a E=>ls E fun a E=>lv E ok (qak rfl rfl) fun a E=>?_
  refine wn<|c_if E rfl (fun _=>?_) (fun h=>by cases h)
  refine sg<|lv E ok (qab rfl) fun a E=>lv E ok (qab rfl) fun a E=>wn<|wp_ret<|qan ?_
  have hret:qbq u m0 S ([],false) a w:=⟨ok,E.d,⟨rv_t E rfl,rv_t E rfl,trivial⟩,(show ([]:List UInt8).length ≤ LIMS by decide)⟩
  obtain rfl:=sj hF
  exact fin _ _ hret
 replace hF:=qah hc1 hF
 replace E:=E.upd 10 hc1 rfl
 refine lv E ok (qaa rfl) fun a E=>?_
 obtain ⟨x2,e3,hF⟩:=bnd hF
 obtain ⟨b4,o5,es6,hl7,rr8,at9,yy10⟩:=qaI qck hl_0 e3 (P:=Tryz.prog) (X:=.tmp 11) (I:=.const (Value.int .i64 0)) (kd:=.i64) (qao E rfl) (qao E rfl)
 obtain ⟨rfl,l11,l12,r13⟩:=rr8
 refine lv E ok (yy10 _ _) fun a E=>lv E ok (qac qbT rfl) fun a E=>lv E ok (qaj qav rfl (qaf.ro (At.sub 0 1 at9))) fun a E=>lv E ok (qbQ rfl rfl) fun a E=>lv E ok (qam rfl rfl) fun a E=>lv E ok (qaa rfl) fun a E=>qas (x2.Kind != ([115,116,114,105,110,103])) (fun hc14=>?_) (fun hc14=>?_)
 ·replace hF:=qai hc14 hF
  replace E:=E.upd 17 hc14 rfl
  refine ls E fun a E=>ls E fun a E=>ls E fun a E=>ls E fun a E=>ls E fun a E=>ls E fun a E=>ls E fun a E=>ls E fun a E=>?_
  refine lv E ok (qak rfl rfl) fun a E=>wn<|c_if E rfl (fun _=>?_) (fun h=>by cases h)
  refine sg<|lv E ok (qab rfl) fun a E=>lv E ok (qab rfl) fun a E=>wn<|wp_ret<|qan ?_
  have hret:qbq u m0 S ([],false) a w:=⟨ok,E.d,⟨rv_t E rfl,rv_t E rfl,trivial⟩,(show ([]:List UInt8).length ≤ LIMS by decide)⟩
  obtain rfl:=sj hF
  exact fin _ _ hret
 replace hF:=qah hc14 hF
 replace E:=E.upd 17 hc14 rfl
 refine lv E ok (qaa rfl) fun a E=>lv E ok (qaa rfl) fun a E=>lv E ok (qaG qck hl_0 rfl) fun a E=>lv E ok (qbV rfl rfl) fun a E=>?_
 obtain ⟨x15,e16,hF⟩:=bnd hF
 obtain ⟨b17,o18,es19,hl20,rr21,at22,yy23⟩:=qaI qck hl_0 e16 (P:=Tryz.prog) (X:=.tmp 18) (I:=.tmp 21) (kd:=.i64) (qao E rfl) (qao E rfl)
 obtain ⟨rfl,l24,l25,r26⟩:=rr21
 refine lv E ok (yy23 _ _) fun a E=>lv E ok (qac qbT rfl) fun a E=>lv E ok (qaj qav rfl (qaf.ro (At.sub 0 1 at22))) fun a E=>lv E ok (qbQ rfl rfl) fun a E=>lv E ok (qam rfl rfl) fun a E=>wn<|c_if E rfl (fun hc27=>?_) (fun hc27=>?_)
 ·replace hF:=qai hc27 hF
  refine sg<|lv E ok (qab rfl) fun a E=>lv E ok (qab rfl) fun a E=>wn<|wp_ret<|qan ?_
  have hret:qbq u m0 S ([],false) a w:=⟨ok,E.d,⟨rv_t E rfl,rv_t E rfl,trivial⟩,(show ([]:List UInt8).length ≤ LIMS by decide)⟩
  obtain rfl:=sj hF
  exact fin _ _ hret
 replace hF:=qah hc27 hF
 refine wp_skip<|qad<|sg<|qaZ E ok qkR rfl rfl fun b28 a w E ok=>wn<|wp_seq ?_
 refine sg<|lv E ok (qaa rfl) fun a E=>lv E ok (qaa rfl) fun a E=>lv E ok (qaG qck hl_0 rfl) fun a E=>lv E ok (qbV rfl rfl) fun a E=>?_
 obtain ⟨l29,e30,hF⟩:=bnd hF
 obtain ⟨c31,h32,yy33⟩:=qlJ qck hl_0 e30 (P:=Tryz.prog) (X:=.tmp 27) (lov:=(some (.const (Value.int .i64 1)))) (hiv:=(some (.tmp 30))) (qao E rfl) (qlA E ⟨_,rfl⟩) (qlA E ⟨_,rfl⟩)
 refine lv E ok (yy33 _ _) fun a E=>lv E ok (qaG qck h32 rfl) fun a E=>lv E ok (qaa rfl) fun a E=>wn<|wp_block ?_
 obtain ⟨M41,ok,h42⟩:=qdp (e:=5) (k:=1) (R:=(pI .u8)) ok
 obtain ⟨o43,hL,hF⟩:=bnd hF
 refine qaR _ (fun (s:Int × Builder) a w=>∃ c45 c47 M48,Ok u m0 (M48 :: [(b28,Obj.cells [c45,c47].toArray 88 (0,0))] :: S) w ∧ Env 79 a [(4,(Value.pointer (some ⟨b28,0,none⟩))),(31,c31),(32,(Value.int .i64 (l29.length:Int))),(33,(Value.int .i64 s.1))] ∧ InR .i64 s.1 ∧ BAd b28 c45 ∧ ORow 5 1 (pI .u8) m0 c47 s.2.buf M48) (fun (b:(Builder ⊕ ((List UInt8) × Bool))) e a w=>(Sum.elim (fun b162=>e = (.exit 0) ∧ ∃ c163 c165 M166,Ok u m0 (M166 :: [(b28,Obj.cells [c163,c165].toArray 88 (0,0))] :: S) w ∧ Env 79 a [(4,(Value.pointer (some ⟨b28,0,none⟩)))] ∧ BAd b28 c163 ∧ ORow 5 1 (pI .u8) m0 c165 b162.buf M166) (fun b168=>e = .ret ∧ qbq u m0 S b168 a w)) b) ?_ ?_ N _ a w hL ⟨(Value.pointer none),(Value.slice none 0 0),M41,ok,E.keep [4,31,32,33],(show InR .i64 (0) by decide),(.inl rfl),h42⟩
 rotate_left
 ·intro e a w _ hO
  rcases o43 with o43 | o43
  rotate_left
  ·replace hF:=qba hF
   obtain ⟨rfl,hret⟩:=hO
   refine qap<|qan ?_
   obtain rfl:=sj hF
   exact fin _ _ hret
  replace hF:=qa9 hF
  obtain ⟨rfl,c156,c158,M159,ok,E,h157,h160⟩:=hO
  refine qaT<|qad<|sg ?_
  replace ok:Ok u m0 ([(b28,Obj.cells [c156,c158].toArray 88 (0,0))] :: M159 :: S) w:=(ok.pk 2 [1,0] rfl (by decide))
  refine qaw E qlx rfl (qhw Tryz.lays169 Tryz.Builder_Extra_169 h160 ok) rfl rfl ?_
  rintro _ w ⟨⟨rfl,ok⟩,l161⟩
  refine ⟨_,rfl,fun a E=>?_⟩
  refine lv E ok (qab rfl) fun a E=>lv E ok (qab rfl) fun a E=>wn<|wp_ret ?_
  have hret:qbq u m0 S ((bytesOf o43.buf),true) a w:=⟨ok,E.d,⟨rv_t E rfl,rv_t E rfl,trivial⟩,l161⟩
  obtain rfl:=sj hF
  exact fin _ _ hret
 rintro ⟨x_50,x_51⟩ a w r ⟨c53,c55,M56,ok,E,r52,h54,h57⟩ hF
 replace hF:qcu N l29 x_50 x_51 = some r:=hF
 unfold qcu at hF
 refine sg<|lv E ok (qaB rfl rfl) fun a E=>wn<|wp_seq<|c_if E rfl (fun hc58=>?_) (fun hc58=>?_)
 rotate_left
 ·replace hF:=qah hc58 hF
  refine wp_exit<|qaD ?_
  obtain rfl:=sj hF
  exact qaq (by nofun) (sl ⟨rfl,⟨c53,c55,M56,ok,E.keep [4],h54,h57⟩⟩)
 replace hF:=qai hc58 hF
 refine wp_skip<|qad<|wp_seq<|wp_block<|sg ?_
 obtain ⟨x59,e60,hF⟩:=bnd hF
 obtain ⟨b61,o62,es63,hl64,rr65,at66,yy67⟩:=qaI qck h32 e60 (P:=Tryz.prog) (X:=.tmp 31) (I:=.tmp 33) (kd:=.i64) (qao E rfl) (qao E rfl)
 obtain ⟨rfl,l68,l69,r70⟩:=rr65
 refine lv E ok (yy67 _ _) fun a E=>lv E ok (qax (cs:=[(Value.string (bs x59.Kind)),(Value.string (bs x59.Text)),(Value.int .i64 x59.From)]) qeD rfl rfl (qaf.ro at66)) fun a E=>qaZ E ok qcD rfl rfl fun b71 a w E ok=>qat E ok 0 rfl rfl rfl qiB rfl rfl ⟨rfl,rfl,rfl,trivial⟩ rfl rfl fun w ok=>wn<|wp_block<|wp_seq ?_
 refine qae<|lv E ok (qac qbT rfl) fun a E=>lv E ok (qaj qav rfl (qaf.own 0 rfl rfl)) fun a E=>lv E ok (qa1 rfl rfl) fun a E=>lv E ok (qab rfl) fun a E=>wn<|c_if E rfl (fun hc72=>?_) (fun hc72=>?_)
 ·replace hF:=qai hc72 hF
  refine qae<|lv E ok (qac qdv rfl) fun a E=>lv E ok (qaj qav rfl (qaf.own 0 rfl rfl)) fun a E=>?_
  obtain ⟨r73,e74,hF⟩:=bnd hF
  replace ok:Ok u m0 ([(b28,Obj.cells [c53,c55].toArray 88 (0,0))] :: M56 :: [(b71,Obj.cells [(Value.string (bs x59.Kind)),(Value.string (bs x59.Text)),(Value.int .i64 x59.From)].toArray 29 (0,0))] :: S) w:=(ok.pk 3 [2,1,0] rfl (by decide))
  refine qaw E qfx rfl (qaP N x59.Text l69 (Builder.mk () x_51.buf) h54 h57 e74 hG ok) rfl rfl ?_
  rintro _ w ⟨c76,c78,M79,⟨rfl,ok⟩,r75,h77,h80⟩
  refine ⟨_,rfl,fun a E=>?_⟩
  refine wpList_nil<|qar<|qar<|qad<|qae<|lv E ok (qaC rfl rfl (InR.inc r52 (qau h32) hc58)) fun a E=>lv E ok (qaa rfl) fun a E=>wpList_nil ?_
  obtain rfl:=sj hF
  exact qay ⟨c76,c78,M79,(ok.pk 3 [1,0] rfl (by decide)),E.keep [4,31,32,33],(InR.inc r52 (qau h32) hc58),h77,h80⟩
 replace hF:=qah hc72 hF
 refine sg<|lv E ok (qac qbT rfl) fun a E=>lv E ok (qaj qav rfl (qaf.own 0 rfl rfl)) fun a E=>lv E ok (qa1 rfl rfl) fun a E=>lv E ok (qaa rfl) fun a E=>qas (x59.Kind == ([101,115,99,97,112,101])) (fun hc81=>?_) (fun hc81=>?_)
 rotate_left
 ·as_aux_lemma =>
   replace hF:=qah hc81 hF
   replace E:=E.upd 48 hc81 rfl
   refine ls E fun a E=>ls E fun a E=>ls E fun a E=>lv E ok (qam rfl rfl) fun a E=>lv E ok (qab rfl) fun a E=>wn<|c_if E rfl (fun h=>by cases h) (fun _=>?_)
   refine sg<|lv E ok (qac qbT rfl) fun a E=>lv E ok (qaj qav rfl (qaf.own 0 rfl rfl)) fun a E=>lv E ok (qa1 rfl rfl) fun a E=>lv E ok (qaa rfl) fun a E=>qas (x59.Kind == ([101,115,99,97,112,101])) (fun hc123=>?_) (fun hc123=>?_)
   rotate_left
   ·as_aux_lemma =>
     replace hF:=qah hc123 hF
     replace E:=E.upd 58 hc123 rfl
     refine ls E fun a E=>ls E fun a E=>ls E fun a E=>lv E ok (qam rfl rfl) fun a E=>lv E ok (qab rfl) fun a E=>wn<|c_if E rfl (fun h=>by cases h) (fun _=>?_)
     refine sg<|lv E ok (qac qbT rfl) fun a E=>lv E ok (qaj qav rfl (qaf.own 0 rfl rfl)) fun a E=>lv E ok (qa1 rfl rfl) fun a E=>lv E ok (qaa rfl) fun a E=>qas (x59.Kind == ([101,115,99,97,112,101])) (fun hc144=>?_) (fun hc144=>?_)
     rotate_left
     ·replace hF:=qah hc144 hF
      replace E:=E.upd 68 hc144 rfl
      refine ls E fun a E=>ls E fun a E=>ls E fun a E=>lv E ok (qam rfl rfl) fun a E=>lv E ok (qab rfl) fun a E=>wn<|c_if E rfl (fun h=>by cases h) (fun _=>?_)
      refine sg<|lv E ok (qab rfl) fun a E=>lv E ok (qab rfl) fun a E=>wn<|wp_ret<|qap ?_
      refine qap<|qan ?_
      have hret:qbq u m0 S ([],false) a w:=⟨ok.drop.drop.drop,E.d,⟨rv_t E rfl,rv_t E rfl,trivial⟩,(show ([]:List UInt8).length ≤ LIMS by decide)⟩
      obtain rfl:=sj hF
      exact qaq (by nofun) (sr ⟨rfl,hret⟩)
     replace hF:=qai hc144 hF
     replace E:=E.upd 68 hc144 rfl
     refine lv E ok (qac qdv rfl) fun a E=>lv E ok (qaj qav rfl (qaf.own 0 rfl rfl)) fun a E=>lv E ok (qbQ rfl rfl) fun a E=>lv E ok (qak rfl rfl) fun a E=>lv E ok (qab rfl) fun a E=>wn<|c_if E rfl (fun hc145=>?_) (fun hc145=>?_)
     rotate_left
     ·replace hF:=qah hc145 hF
      refine sg<|lv E ok (qab rfl) fun a E=>lv E ok (qab rfl) fun a E=>wn<|wp_ret<|qap ?_
      refine qap<|qan ?_
      have hret:qbq u m0 S ([],false) a w:=⟨ok.drop.drop.drop,E.d,⟨rv_t E rfl,rv_t E rfl,trivial⟩,(show ([]:List UInt8).length ≤ LIMS by decide)⟩
      obtain rfl:=sj hF
      exact qaq (by nofun) (sr ⟨rfl,hret⟩)
     replace hF:=qai hc145 hF
     refine qae<|lv E ok (qac qdv rfl) fun a E=>lv E ok (qaj qav rfl (qaf.own 0 rfl rfl)) fun a E=>?_
     obtain ⟨s146,e147,hF⟩:=bnd hF
     refine lv E ok (qaW Tryz.underlying9 e147 rfl ⟨_,rfl⟩ rfl) fun a E=>?_
     obtain ⟨r148,e149,hF⟩:=bnd hF
     replace ok:Ok u m0 ([(b28,Obj.cells [c53,c55].toArray 88 (0,0))] :: M56 :: [(b71,Obj.cells [(Value.string (bs x59.Kind)),(Value.string (bs x59.Text)),(Value.int .i64 x59.From)].toArray 29 (0,0))] :: S) w:=(ok.pk 3 [2,1,0] rfl (by decide))
     refine qaw E qfx rfl (qaP N s146 (Nat.le_trans (qb1 e147) l69) (Builder.mk () x_51.buf) h54 h57 e149 hG ok) rfl rfl ?_
     rintro _ w ⟨c151,c153,M154,⟨rfl,ok⟩,r150,h152,h155⟩
     refine ⟨_,rfl,fun a E=>?_⟩
     refine wpList_nil<|qar<|qar<|qad<|qae<|lv E ok (qaC rfl rfl (InR.inc r52 (qau h32) hc58)) fun a E=>lv E ok (qaa rfl) fun a E=>wpList_nil ?_
     obtain rfl:=sj hF
     exact qay ⟨c151,c153,M154,(ok.pk 3 [1,0] rfl (by decide)),E.keep [4,31,32,33],(InR.inc r52 (qau h32) hc58),h152,h155⟩
   replace hF:=qai hc123 hF
   replace E:=E.upd 58 hc123 rfl
   refine lv E ok (qac qdv rfl) fun a E=>lv E ok (qaj qav rfl (qaf.own 0 rfl rfl)) fun a E=>lv E ok (qa1 rfl rfl) fun a E=>lv E ok (qak rfl rfl) fun a E=>lv E ok (qab rfl) fun a E=>wn<|c_if E rfl (fun hc124=>?_) (fun hc124=>?_)
   ·replace hF:=qai hc124 hF
    refine qae ?_
    obtain ⟨r125,e126,hF⟩:=bnd hF
    replace ok:Ok u m0 ([(b28,Obj.cells [c53,c55].toArray 88 (0,0))] :: M56 :: [(b71,Obj.cells [(Value.string (bs x59.Kind)),(Value.string (bs x59.Text)),(Value.int .i64 x59.From)].toArray 29 (0,0))] :: S) w:=(ok.pk 3 [2,1,0] rfl (by decide))
    refine qaw E qja rfl (qbH N 9 (show InR .u8 (9) by decide) (Builder.mk () x_51.buf) h54 h57 e126 hG ok) rfl rfl ?_
    rintro _ w ⟨c127,c129,M130,⟨rfl,ok⟩,h128,h131⟩
    refine ⟨_,rfl,fun a E=>?_⟩
    refine wpList_nil<|qar<|qar<|qad<|qae<|lv E ok (qaC rfl rfl (InR.inc r52 (qau h32) hc58)) fun a E=>lv E ok (qaa rfl) fun a E=>wpList_nil ?_
    obtain rfl:=sj hF
    exact qay ⟨c127,c129,M130,(ok.pk 3 [1,0] rfl (by decide)),E.keep [4,31,32,33],(InR.inc r52 (qau h32) hc58),h128,h131⟩
   replace hF:=qah hc124 hF
   refine sg<|lv E ok (qac qbT rfl) fun a E=>lv E ok (qaj qav rfl (qaf.own 0 rfl rfl)) fun a E=>lv E ok (qa1 rfl rfl) fun a E=>lv E ok (qaa rfl) fun a E=>qas (x59.Kind == ([101,115,99,97,112,101])) (fun hc132=>?_) (fun hc132=>?_)
   rotate_left
   ·replace hF:=qah hc132 hF
    replace E:=E.upd 68 hc132 rfl
    refine ls E fun a E=>ls E fun a E=>ls E fun a E=>lv E ok (qam rfl rfl) fun a E=>lv E ok (qab rfl) fun a E=>wn<|c_if E rfl (fun h=>by cases h) (fun _=>?_)
    refine sg<|lv E ok (qab rfl) fun a E=>lv E ok (qab rfl) fun a E=>wn<|wp_ret<|qap ?_
    refine qap<|qan ?_
    have hret:qbq u m0 S ([],false) a w:=⟨ok.drop.drop.drop,E.d,⟨rv_t E rfl,rv_t E rfl,trivial⟩,(show ([]:List UInt8).length ≤ LIMS by decide)⟩
    obtain rfl:=sj hF
    exact qaq (by nofun) (sr ⟨rfl,hret⟩)
   replace hF:=qai hc132 hF
   replace E:=E.upd 68 hc132 rfl
   refine lv E ok (qac qdv rfl) fun a E=>lv E ok (qaj qav rfl (qaf.own 0 rfl rfl)) fun a E=>lv E ok (qbQ rfl rfl) fun a E=>lv E ok (qak rfl rfl) fun a E=>lv E ok (qab rfl) fun a E=>wn<|c_if E rfl (fun hc133=>?_) (fun hc133=>?_)
   rotate_left
   ·replace hF:=qah hc133 hF
    refine sg<|lv E ok (qab rfl) fun a E=>lv E ok (qab rfl) fun a E=>wn<|wp_ret<|qap ?_
    refine qap<|qan ?_
    have hret:qbq u m0 S ([],false) a w:=⟨ok.drop.drop.drop,E.d,⟨rv_t E rfl,rv_t E rfl,trivial⟩,(show ([]:List UInt8).length ≤ LIMS by decide)⟩
    obtain rfl:=sj hF
    exact qaq (by nofun) (sr ⟨rfl,hret⟩)
   replace hF:=qai hc133 hF
   refine qae<|lv E ok (qac qdv rfl) fun a E=>lv E ok (qaj qav rfl (qaf.own 0 rfl rfl)) fun a E=>?_
   obtain ⟨s134,e135,hF⟩:=bnd hF
   refine lv E ok (qaW Tryz.underlying9 e135 rfl ⟨_,rfl⟩ rfl) fun a E=>?_
   obtain ⟨r136,e137,hF⟩:=bnd hF
   replace ok:Ok u m0 ([(b28,Obj.cells [c53,c55].toArray 88 (0,0))] :: M56 :: [(b71,Obj.cells [(Value.string (bs x59.Kind)),(Value.string (bs x59.Text)),(Value.int .i64 x59.From)].toArray 29 (0,0))] :: S) w:=(ok.pk 3 [2,1,0] rfl (by decide))
   refine qaw E qfx rfl (qaP N s134 (Nat.le_trans (qb1 e135) l69) (Builder.mk () x_51.buf) h54 h57 e137 hG ok) rfl rfl ?_
   rintro _ w ⟨c139,c141,M142,⟨rfl,ok⟩,r138,h140,h143⟩
   refine ⟨_,rfl,fun a E=>?_⟩
   refine wpList_nil<|qar<|qar<|qad<|qae<|lv E ok (qaC rfl rfl (InR.inc r52 (qau h32) hc58)) fun a E=>lv E ok (qaa rfl) fun a E=>wpList_nil ?_
   obtain rfl:=sj hF
   exact qay ⟨c139,c141,M142,(ok.pk 3 [1,0] rfl (by decide)),E.keep [4,31,32,33],(InR.inc r52 (qau h32) hc58),h140,h143⟩
 replace hF:=qai hc81 hF
 replace E:=E.upd 48 hc81 rfl
 refine lv E ok (qac qdv rfl) fun a E=>lv E ok (qaj qav rfl (qaf.own 0 rfl rfl)) fun a E=>lv E ok (qa1 rfl rfl) fun a E=>lv E ok (qak rfl rfl) fun a E=>lv E ok (qab rfl) fun a E=>wn<|c_if E rfl (fun hc82=>?_) (fun hc82=>?_)
 ·replace hF:=qai hc82 hF
  refine qae ?_
  obtain ⟨r83,e84,hF⟩:=bnd hF
  replace ok:Ok u m0 ([(b28,Obj.cells [c53,c55].toArray 88 (0,0))] :: M56 :: [(b71,Obj.cells [(Value.string (bs x59.Kind)),(Value.string (bs x59.Text)),(Value.int .i64 x59.From)].toArray 29 (0,0))] :: S) w:=(ok.pk 3 [2,1,0] rfl (by decide))
  refine qaw E qja rfl (qbH N 10 (show InR .u8 (10) by decide) (Builder.mk () x_51.buf) h54 h57 e84 hG ok) rfl rfl ?_
  rintro _ w ⟨c85,c87,M88,⟨rfl,ok⟩,h86,h89⟩
  refine ⟨_,rfl,fun a E=>?_⟩
  refine wpList_nil<|qar<|qar<|qad<|qae<|lv E ok (qaC rfl rfl (InR.inc r52 (qau h32) hc58)) fun a E=>lv E ok (qaa rfl) fun a E=>wpList_nil ?_
  obtain rfl:=sj hF
  exact qay ⟨c85,c87,M88,(ok.pk 3 [1,0] rfl (by decide)),E.keep [4,31,32,33],(InR.inc r52 (qau h32) hc58),h86,h89⟩
 replace hF:=qah hc82 hF
 refine sg<|lv E ok (qac qbT rfl) fun a E=>lv E ok (qaj qav rfl (qaf.own 0 rfl rfl)) fun a E=>lv E ok (qa1 rfl rfl) fun a E=>lv E ok (qaa rfl) fun a E=>qas (x59.Kind == ([101,115,99,97,112,101])) (fun hc90=>?_) (fun hc90=>?_)
 rotate_left
 ·as_aux_lemma =>
   replace hF:=qah hc90 hF
   replace E:=E.upd 58 hc90 rfl
   refine ls E fun a E=>ls E fun a E=>ls E fun a E=>lv E ok (qam rfl rfl) fun a E=>lv E ok (qab rfl) fun a E=>wn<|c_if E rfl (fun h=>by cases h) (fun _=>?_)
   refine sg<|lv E ok (qac qbT rfl) fun a E=>lv E ok (qaj qav rfl (qaf.own 0 rfl rfl)) fun a E=>lv E ok (qa1 rfl rfl) fun a E=>lv E ok (qaa rfl) fun a E=>qas (x59.Kind == ([101,115,99,97,112,101])) (fun hc111=>?_) (fun hc111=>?_)
   rotate_left
   ·replace hF:=qah hc111 hF
    replace E:=E.upd 68 hc111 rfl
    refine ls E fun a E=>ls E fun a E=>ls E fun a E=>lv E ok (qam rfl rfl) fun a E=>lv E ok (qab rfl) fun a E=>wn<|c_if E rfl (fun h=>by cases h) (fun _=>?_)
    refine sg<|lv E ok (qab rfl) fun a E=>lv E ok (qab rfl) fun a E=>wn<|wp_ret<|qap ?_
    refine qap<|qan ?_
    have hret:qbq u m0 S ([],false) a w:=⟨ok.drop.drop.drop,E.d,⟨rv_t E rfl,rv_t E rfl,trivial⟩,(show ([]:List UInt8).length ≤ LIMS by decide)⟩
    obtain rfl:=sj hF
    exact qaq (by nofun) (sr ⟨rfl,hret⟩)
   replace hF:=qai hc111 hF
   replace E:=E.upd 68 hc111 rfl
   refine lv E ok (qac qdv rfl) fun a E=>lv E ok (qaj qav rfl (qaf.own 0 rfl rfl)) fun a E=>lv E ok (qbQ rfl rfl) fun a E=>lv E ok (qak rfl rfl) fun a E=>lv E ok (qab rfl) fun a E=>wn<|c_if E rfl (fun hc112=>?_) (fun hc112=>?_)
   rotate_left
   ·replace hF:=qah hc112 hF
    refine sg<|lv E ok (qab rfl) fun a E=>lv E ok (qab rfl) fun a E=>wn<|wp_ret<|qap ?_
    refine qap<|qan ?_
    have hret:qbq u m0 S ([],false) a w:=⟨ok.drop.drop.drop,E.d,⟨rv_t E rfl,rv_t E rfl,trivial⟩,(show ([]:List UInt8).length ≤ LIMS by decide)⟩
    obtain rfl:=sj hF
    exact qaq (by nofun) (sr ⟨rfl,hret⟩)
   replace hF:=qai hc112 hF
   refine qae<|lv E ok (qac qdv rfl) fun a E=>lv E ok (qaj qav rfl (qaf.own 0 rfl rfl)) fun a E=>?_
   obtain ⟨s113,e114,hF⟩:=bnd hF
   refine lv E ok (qaW Tryz.underlying9 e114 rfl ⟨_,rfl⟩ rfl) fun a E=>?_
   obtain ⟨r115,e116,hF⟩:=bnd hF
   replace ok:Ok u m0 ([(b28,Obj.cells [c53,c55].toArray 88 (0,0))] :: M56 :: [(b71,Obj.cells [(Value.string (bs x59.Kind)),(Value.string (bs x59.Text)),(Value.int .i64 x59.From)].toArray 29 (0,0))] :: S) w:=(ok.pk 3 [2,1,0] rfl (by decide))
   refine qaw E qfx rfl (qaP N s113 (Nat.le_trans (qb1 e114) l69) (Builder.mk () x_51.buf) h54 h57 e116 hG ok) rfl rfl ?_
   rintro _ w ⟨c118,c120,M121,⟨rfl,ok⟩,r117,h119,h122⟩
   refine ⟨_,rfl,fun a E=>?_⟩
   refine wpList_nil<|qar<|qar<|qad<|qae<|lv E ok (qaC rfl rfl (InR.inc r52 (qau h32) hc58)) fun a E=>lv E ok (qaa rfl) fun a E=>wpList_nil ?_
   obtain rfl:=sj hF
   exact qay ⟨c118,c120,M121,(ok.pk 3 [1,0] rfl (by decide)),E.keep [4,31,32,33],(InR.inc r52 (qau h32) hc58),h119,h122⟩
 replace hF:=qai hc90 hF
 replace E:=E.upd 58 hc90 rfl
 refine lv E ok (qac qdv rfl) fun a E=>lv E ok (qaj qav rfl (qaf.own 0 rfl rfl)) fun a E=>lv E ok (qa1 rfl rfl) fun a E=>lv E ok (qak rfl rfl) fun a E=>lv E ok (qab rfl) fun a E=>wn<|c_if E rfl (fun hc91=>?_) (fun hc91=>?_)
 ·replace hF:=qai hc91 hF
  refine qae ?_
  obtain ⟨r92,e93,hF⟩:=bnd hF
  replace ok:Ok u m0 ([(b28,Obj.cells [c53,c55].toArray 88 (0,0))] :: M56 :: [(b71,Obj.cells [(Value.string (bs x59.Kind)),(Value.string (bs x59.Text)),(Value.int .i64 x59.From)].toArray 29 (0,0))] :: S) w:=(ok.pk 3 [2,1,0] rfl (by decide))
  refine qaw E qja rfl (qbH N 9 (show InR .u8 (9) by decide) (Builder.mk () x_51.buf) h54 h57 e93 hG ok) rfl rfl ?_
  rintro _ w ⟨c94,c96,M97,⟨rfl,ok⟩,h95,h98⟩
  refine ⟨_,rfl,fun a E=>?_⟩
  refine wpList_nil<|qar<|qar<|qad<|qae<|lv E ok (qaC rfl rfl (InR.inc r52 (qau h32) hc58)) fun a E=>lv E ok (qaa rfl) fun a E=>wpList_nil ?_
  obtain rfl:=sj hF
  exact qay ⟨c94,c96,M97,(ok.pk 3 [1,0] rfl (by decide)),E.keep [4,31,32,33],(InR.inc r52 (qau h32) hc58),h95,h98⟩
 replace hF:=qah hc91 hF
 refine sg<|lv E ok (qac qbT rfl) fun a E=>lv E ok (qaj qav rfl (qaf.own 0 rfl rfl)) fun a E=>lv E ok (qa1 rfl rfl) fun a E=>lv E ok (qaa rfl) fun a E=>qas (x59.Kind == ([101,115,99,97,112,101])) (fun hc99=>?_) (fun hc99=>?_)
 rotate_left
 ·replace hF:=qah hc99 hF
  replace E:=E.upd 68 hc99 rfl
  refine ls E fun a E=>ls E fun a E=>ls E fun a E=>lv E ok (qam rfl rfl) fun a E=>lv E ok (qab rfl) fun a E=>wn<|c_if E rfl (fun h=>by cases h) (fun _=>?_)
  refine sg<|lv E ok (qab rfl) fun a E=>lv E ok (qab rfl) fun a E=>wn<|wp_ret<|qap ?_
  refine qap<|qan ?_
  have hret:qbq u m0 S ([],false) a w:=⟨ok.drop.drop.drop,E.d,⟨rv_t E rfl,rv_t E rfl,trivial⟩,(show ([]:List UInt8).length ≤ LIMS by decide)⟩
  obtain rfl:=sj hF
  exact qaq (by nofun) (sr ⟨rfl,hret⟩)
 replace hF:=qai hc99 hF
 replace E:=E.upd 68 hc99 rfl
 refine lv E ok (qac qdv rfl) fun a E=>lv E ok (qaj qav rfl (qaf.own 0 rfl rfl)) fun a E=>lv E ok (qbQ rfl rfl) fun a E=>lv E ok (qak rfl rfl) fun a E=>lv E ok (qab rfl) fun a E=>wn<|c_if E rfl (fun hc100=>?_) (fun hc100=>?_)
 rotate_left
 ·replace hF:=qah hc100 hF
  refine sg<|lv E ok (qab rfl) fun a E=>lv E ok (qab rfl) fun a E=>wn<|wp_ret<|qap ?_
  refine qap<|qan ?_
  have hret:qbq u m0 S ([],false) a w:=⟨ok.drop.drop.drop,E.d,⟨rv_t E rfl,rv_t E rfl,trivial⟩,(show ([]:List UInt8).length ≤ LIMS by decide)⟩
  obtain rfl:=sj hF
  exact qaq (by nofun) (sr ⟨rfl,hret⟩)
 replace hF:=qai hc100 hF
 refine qae<|lv E ok (qac qdv rfl) fun a E=>lv E ok (qaj qav rfl (qaf.own 0 rfl rfl)) fun a E=>?_
 obtain ⟨s101,e102,hF⟩:=bnd hF
 refine lv E ok (qaW Tryz.underlying9 e102 rfl ⟨_,rfl⟩ rfl) fun a E=>?_
 obtain ⟨r103,e104,hF⟩:=bnd hF
 replace ok:Ok u m0 ([(b28,Obj.cells [c53,c55].toArray 88 (0,0))] :: M56 :: [(b71,Obj.cells [(Value.string (bs x59.Kind)),(Value.string (bs x59.Text)),(Value.int .i64 x59.From)].toArray 29 (0,0))] :: S) w:=(ok.pk 3 [2,1,0] rfl (by decide))
 refine qaw E qfx rfl (qaP N s101 (Nat.le_trans (qb1 e102) l69) (Builder.mk () x_51.buf) h54 h57 e104 hG ok) rfl rfl ?_
 rintro _ w ⟨c106,c108,M109,⟨rfl,ok⟩,r105,h107,h110⟩
 refine ⟨_,rfl,fun a E=>?_⟩
 refine wpList_nil<|qar<|qar<|qad<|qae<|lv E ok (qaC rfl rfl (InR.inc r52 (qau h32) hc58)) fun a E=>lv E ok (qaa rfl) fun a E=>wpList_nil ?_
 obtain rfl:=sj hF
 exact qay ⟨c106,c108,M109,(ok.pk 3 [1,0] rfl (by decide)),E.keep [4,31,32,33],(InR.inc r52 (qau h32) hc58),h107,h110⟩
def qgn (u:World) (m0:Mem) (S:Segs) (r:Bool) (a:Act) (w:World):Prop :=
 Ok u m0 S w ∧ a.defers = [] ∧ RVs Tryz.prog a w [.t 4 (.bool r)]
set_option maxHeartbeats 4000000 in
set_option maxRecDepth 100000 in
theorem qiz {u:World} {m0:Mem} {S:Segs} {w:World} (N:Nat) (s_0:List UInt8) (ls_0:s_0.length ≤ LIMS) (chars_1:List UInt8) (lchars_1:chars_1.length ≤ LIMS) {r:Bool} (hF:qfs N s_0 chars_1 = some r) (hG:Glob u) (ok:Ok u m0 S w) :
  Calls Tryz.prog 70 [Value.string (bs s_0),Value.string (bs chars_1)].toArray w fun e w'=>(e = .returned (.bool r) ∧ Ok u m0 S w'):=by
 have hb0:=ok.base
 have le_m0:=Mem.le.refl m0
 unfold qfs at hF
 have fin:∀ a w,qgn u m0 S r a w → bodyPost Tryz.prog Tryz.f70 (fun e w'=>(e = .returned (.bool r) ∧ Ok u m0 S w')) .ret a w:=by
  intro a w h
  obtain ⟨ok,hd,hrv⟩:=h
  exact qaK [.t 4 (.bool r)] hd rfl hrv ⟨rfl,ok⟩
 refine enter Tryz.func70 rfl rfl rfl fun a E=>sg<|lv E ok (qab rfl) fun a E=>wn<|sg ?_
 refine lv E ok (qaa rfl) fun a E=>lv E ok (qaa rfl) fun a E=>?_
 obtain ⟨r1,e2,hF⟩:=bnd hF
 refine qaw E qqF rfl (qju N s_0 ls_0 chars_1 lchars_1 e2 hG ok) rfl rfl ?_
 rintro _ w ⟨⟨rfl,ok⟩,r3⟩
 refine ⟨_,rfl,fun a E=>?_⟩
 refine lv E ok (qbg rfl rfl) fun a E=>lv E ok (qab rfl) fun a E=>wn<|wp_ret ?_
 have hret:qgn u m0 S (decide (r1 ≥ 0)) a w:=⟨ok,E.d,⟨rv_t E rfl,trivial⟩⟩
 obtain rfl:=sj hF
 exact fin _ _ hret
def qc8 (u:World) (m0:Mem) (S:Segs) (r:Bool) (a:Act) (w:World):Prop :=
 Ok u m0 S w ∧ a.defers = [] ∧ RVs Tryz.prog a w [.t 2 (.bool r)]
set_option maxHeartbeats 4000000 in
set_option maxRecDepth 100000 in
theorem qkN {u:World} {m0:Mem} {S:Segs} {w:World} (N:Nat) (vfiles_0:Value) (files_0:List (File)) (hfiles_0:(pL 2 qkp) m0 [vfiles_0] files_0) {r:Bool} (hF:qhl N files_0 = some r) (hG:Glob u) (ok:Ok u m0 S w) :
  Calls Tryz.prog 43 [vfiles_0].toArray w fun e w'=>(e = .returned (.bool r) ∧ Ok u m0 S w'):=by
 have hb0:=ok.base
 have le_m0:=Mem.le.refl m0
 unfold qhl at hF
 have fin:∀ a w,qc8 u m0 S r a w → bodyPost Tryz.prog Tryz.f43 (fun e w'=>(e = .returned (.bool r) ∧ Ok u m0 S w')) .ret a w:=by
  intro a w h
  obtain ⟨ok,hd,hrv⟩:=h
  exact qaK [.t 2 (.bool r)] hd rfl hrv ⟨rfl,ok⟩
 refine enter Tryz.func43 rfl rfl rfl fun a E=>sg<|lv E ok (qab rfl) fun a E=>wn<|sg ?_
 refine qg8 kS (oneV pB) E ok rfl rfl fun c1 M2 a w E ok h3=>lv E ok (qab rfl) fun a E=>wn<|wp_seq<|sg<|lv E ok (qaa rfl) fun a E=>?_
 refine lv E ok (qaG qig hfiles_0 rfl) fun a E=>lv E ok (qaa rfl) fun a E=>wn<|wp_block ?_
 obtain ⟨o9,hL,hF⟩:=bnd hF
 refine qaR _ (fun (s:Int × (List (List UInt8 × Bool))) a w=>∃ c11 M12,Ok u m0 (M12 :: S) w ∧ Env 37 a [(3,c11),(7,vfiles_0),(8,(Value.int .i64 (files_0.length:Int))),(9,(Value.int .i64 s.1))] ∧ InR .i64 s.1 ∧ OMap kS (oneV pB) m0 c11 s.2 M12) (fun (b:(Unit ⊕ Bool)) e a w=>(Sum.elim (fun b47=>e = (.exit 0) ∧ Ok u m0 (S) w ∧ Env 37 a []) (fun b48=>e = .ret ∧ qc8 u m0 S b48 a w)) b) ?_ ?_ N _ a w hL ⟨c1,M2,ok,E.keep [3,7,8,9],(show InR .i64 (0) by decide),h3⟩
 rotate_left
 ·intro e a w _ hO
  rcases o9 with o9 | o9
  rotate_left
  ·replace hF:=qba hF
   obtain ⟨rfl,hret⟩:=hO
   refine qap<|qan ?_
   obtain rfl:=sj hF
   exact fin _ _ hret
  replace hF:=qa9 hF
  obtain ⟨rfl,ok,E⟩:=hO
  refine qaT<|qad<|sg<|lv E ok (qab rfl) fun a E=>wn<|wp_ret ?_
  have hret:qc8 u m0 S true a w:=⟨ok,E.d,⟨rv_t E rfl,trivial⟩⟩
  obtain rfl:=sj hF
  exact fin _ _ hret
 rintro ⟨x_14,seen_15⟩ a w r ⟨c17,M18,ok,E,r16,h19⟩ hF
 replace hF:qgi N files_0 x_14 seen_15 = some r:=hF
 unfold qgi at hF
 refine sg<|lv E ok (qaB rfl rfl) fun a E=>wn<|wp_seq<|c_if E rfl (fun hc20=>?_) (fun hc20=>?_)
 rotate_left
 ·replace hF:=qah hc20 hF
  refine wp_exit<|qaD ?_
  obtain rfl:=sj hF
  exact qaq (by nofun) (sl ⟨rfl,⟨(ok.pk 1 [] rfl (by decide)),E.keep []⟩⟩)
 replace hF:=qai hc20 hF
 refine wp_skip<|qad<|wp_seq<|wp_block<|sg ?_
 obtain ⟨x21,e22,hF⟩:=bnd hF
 obtain ⟨b23,o24,es25,hl26,rr27,at28,yy29⟩:=qaI qig hfiles_0 e22 (P:=Tryz.prog) (X:=.tmp 7) (I:=.tmp 9) (kd:=.i64) (qao E rfl) (qao E rfl)
 obtain ⟨rfl,l30,l31⟩:=rr27
 refine lv E ok (yy29 _ _) fun a E=>lv E ok (qax (cs:=[(Value.string (bs x21.Name)),(Value.string (bs x21.Text))]) qlD rfl rfl (qaf.ro at28)) fun a E=>qaZ E ok qiI rfl rfl fun b32 a w E ok=>qat E ok 0 rfl rfl rfl qlX rfl rfl ⟨rfl,rfl,trivial⟩ rfl rfl fun w ok=>wn<|wp_seq<|wp_seq ?_
 refine qae<|lv E ok (qac qhF rfl) fun a E=>lv E ok (qaj qav rfl (qaf.own 0 rfl rfl)) fun a E=>lv E ok (qa1 rfl rfl) fun a E=>lv E ok (qaa rfl) fun a E=>qas (x21.Name == ([])) (fun hc33=>?_) (fun hc33=>?_)
 ·replace hF:=qai hc33 hF
  replace E:=E.upd 16 hc33 rfl
  refine ls E fun a E=>ls E fun a E=>ls E fun a E=>ls E fun a E=>lv E ok (qak rfl rfl) fun a E=>lv E ok (qaa rfl) fun a E=>ls E fun a E=>ls E fun a E=>?_
  refine ls E fun a E=>ls E fun a E=>lv E ok (qak rfl rfl) fun a E=>lv E ok (qaa rfl) fun a E=>ls E fun a E=>ls E fun a E=>ls E fun a E=>lv E ok (qak rfl rfl) fun a E=>?_
  refine wn<|c_if E rfl (fun _=>?_) (fun h=>by cases h)
  refine sg<|lv E ok (qab rfl) fun a E=>wn<|wp_ret<|qan<|qap ?_
  refine qan ?_
  have hret:qc8 u m0 S false a w:=⟨ok.drop.drop,E.d,⟨rv_t E rfl,trivial⟩⟩
  obtain rfl:=sj hF
  exact qaq (by nofun) (sr ⟨rfl,hret⟩)
 replace hF:=qah hc33 hF
 replace E:=E.upd 16 hc33 rfl
 refine lv E ok (qac qhF rfl) fun a E=>lv E ok (qaj qav rfl (qaf.own 0 rfl rfl)) fun a E=>lv E ok (qaX Tryz.underlying9 rfl) fun a E=>lv E ok (qb4 rfl rfl) fun a E=>lv E ok (qam rfl rfl) fun a E=>lv E ok (qaa rfl) fun a E=>qas (decide ((x21.Name.length:Int) > 100)) (fun hc34=>?_) (fun hc34=>?_)
 ·replace hF:=qai hc34 hF
  replace E:=E.upd 22 hc34 rfl
  refine ls E fun a E=>ls E fun a E=>ls E fun a E=>ls E fun a E=>lv E ok (qak rfl rfl) fun a E=>lv E ok (qaa rfl) fun a E=>ls E fun a E=>ls E fun a E=>?_
  refine ls E fun a E=>lv E ok (qak rfl rfl) fun a E=>wn<|c_if E rfl (fun _=>?_) (fun h=>by cases h)
  refine sg<|lv E ok (qab rfl) fun a E=>wn<|wp_ret<|qan<|qap ?_
  refine qan ?_
  have hret:qc8 u m0 S false a w:=⟨ok.drop.drop,E.d,⟨rv_t E rfl,trivial⟩⟩
  obtain rfl:=sj hF
  exact qaq (by nofun) (sr ⟨rfl,hret⟩)
 replace hF:=qah hc34 hF
 replace E:=E.upd 22 hc34 rfl
 refine lv E ok (qaa rfl) fun a E=>lv E ok (qac qhF rfl) fun a E=>lv E ok (qaj qav rfl (qaf.own 0 rfl rfl)) fun a E=>?_
 obtain ⟨xv35,h36,yy37,yy38⟩:=qjU (P:=Tryz.prog) (mo:=.tmp 23) (ko:=.tmp 25) (zx:=(false:Bool)) ok 1 (qdK Tryz.underlying9) Tryz.underlying95 h19 rfl (qao E rfl) (qao E rfl) ⟨rfl,l30⟩ qjW qif
 obtain rfl:=qkz h36
 refine lv E ok (yy37 _) fun a E=>lv E ok (qam rfl rfl) fun a E=>lv E ok (qaa rfl) fun a E=>qas ((mget seen_15 x21.Name).getD false) (fun hc39=>?_) (fun hc39=>?_)
 ·replace hF:=qai hc39 hF
  replace E:=E.upd 28 hc39 rfl
  refine ls E fun a E=>ls E fun a E=>ls E fun a E=>lv E ok (qak rfl rfl) fun a E=>wn<|c_if E rfl (fun _=>?_) (fun h=>by cases h)
  refine sg<|lv E ok (qab rfl) fun a E=>wn<|wp_ret<|qan<|qap ?_
  refine qan ?_
  have hret:qc8 u m0 S false a w:=⟨ok.drop.drop,E.d,⟨rv_t E rfl,trivial⟩⟩
  obtain rfl:=sj hF
  exact qaq (by nofun) (sr ⟨rfl,hret⟩)
 replace hF:=qah hc39 hF
 replace E:=E.upd 28 hc39 rfl
 refine lv E ok (qac qhF rfl) fun a E=>lv E ok (qaj qav rfl (qaf.own 0 rfl rfl)) fun a E=>?_
 obtain ⟨r40,e41,hF⟩:=bnd hF
 refine qaw E qqG rfl (qiz N x21.Name l30 ([32,10]) (show ([32,10]:List UInt8).length ≤ LIMS by decide) e41 hG ok) rfl rfl ?_
 rintro _ w ⟨rfl,ok⟩
 refine ⟨_,rfl,fun a E=>?_⟩
 refine lv E ok (qam rfl rfl) fun a E=>wn<|c_if E rfl (fun hc42=>?_) (fun hc42=>?_)
 ·replace hF:=qai hc42 hF
  refine sg<|lv E ok (qab rfl) fun a E=>wn<|wp_ret<|qan<|qap ?_
  refine qan ?_
  have hret:qc8 u m0 S false a w:=⟨ok.drop.drop,E.d,⟨rv_t E rfl,trivial⟩⟩
  obtain rfl:=sj hF
  exact qaq (by nofun) (sr ⟨rfl,hret⟩)
 replace hF:=qah hc42 hF
 refine wp_skip<|qad<|qae<|lv E ok (qaa rfl) fun a E=>lv E ok (qac qhF rfl) fun a E=>lv E ok (qaj qav rfl (qaf.own 0 rfl rfl)) fun a E=>?_
 obtain ⟨l43,e44,hF⟩:=bnd hF
 refine qiC (.inl rfl) E ok 1 (qdK Tryz.underlying9) Tryz.underlying95 h19 rfl rfl rfl rfl ⟨rfl,l30⟩ qif e44 rfl fun M45 w ok h46=>wpList_nil<|qar<|qad<|qae<|lv E ok (qaC rfl rfl (InR.inc r16 (qau hfiles_0) hc20)) fun a E=>lv E ok (qaa rfl) fun a E=>wpList_nil ?_
 obtain rfl:=sj hF
 exact qay ⟨c17,M45,(ok.pk 2 [1] rfl (by decide)),E.keep [3,7,8,9],(InR.inc r16 (qau hfiles_0) hc20),h46⟩
def qgr (u:World) (m0:Mem) (S:Segs) (r:Bool) (a:Act) (w:World):Prop :=
 Ok u m0 S w ∧ a.defers = [] ∧ RVs Tryz.prog a w [.t 2 (.bool r)]
set_option maxHeartbeats 4000000 in
set_option maxRecDepth 100000 in
theorem qgG {u:World} {m0:Mem} {S:Segs} {w:World} (N:Nat) (vt_0:List Value) (t_0:Token) (ht_0:qbi m0 vt_0 t_0) {r:Bool} (hF:qfg N t_0 = some r) (hG:Glob u) (ok:Ok u m0 S w) :
  Calls Tryz.prog 56 [.agg vt_0.toArray].toArray w fun e w'=>(e = .returned (.bool r) ∧ Ok u m0 S w'):=by
 obtain ⟨rfl,l1,l2,r3⟩:=ht_0
 have hb0:=ok.base
 have le_m0:=Mem.le.refl m0
 unfold qfg at hF
 have fin:∀ a w,qgr u m0 S r a w → bodyPost Tryz.prog Tryz.f56 (fun e w'=>(e = .returned (.bool r) ∧ Ok u m0 S w')) .ret a w:=by
  intro a w h
  obtain ⟨ok,hd,hrv⟩:=h
  exact qaK [.t 2 (.bool r)] hd rfl hrv ⟨rfl,ok⟩
 refine enter Tryz.func56 rfl rfl rfl fun a E=>sg<|qdF E ok rfl rfl rfl fun b4 a w E ok=>lv E ok (qab rfl) fun a E=>wn<|wp_seq ?_
 refine qae<|lv E ok (qac qbT rfl) fun a E=>lv E ok (qaj qav rfl (qaf.own 0 rfl rfl)) fun a E=>lv E ok (qa1 rfl rfl) fun a E=>lv E ok (qaa rfl) fun a E=>qas (t_0.Kind == ([115,107,105,112])) (fun hc5=>?_) (fun hc5=>?_)
 ·replace hF:=qai hc5 hF
  replace E:=E.upd 6 hc5 rfl
  refine ls E fun a E=>ls E fun a E=>ls E fun a E=>lv E ok (qak rfl rfl) fun a E=>lv E ok (qab rfl) fun a E=>wn<|wp_ret ?_
  have hret:qgr u m0 S true a w:=⟨ok.drop,E.d,⟨rv_t E rfl,trivial⟩⟩
  obtain rfl:=sj hF
  exact fin _ _ hret
 replace hF:=qah hc5 hF
 replace E:=E.upd 6 hc5 rfl
 refine lv E ok (qac qbT rfl) fun a E=>lv E ok (qaj qav rfl (qaf.own 0 rfl rfl)) fun a E=>lv E ok (qa1 rfl rfl) fun a E=>lv E ok (qam rfl rfl) fun a E=>lv E ok (qab rfl) fun a E=>wn<|wp_ret ?_
 have hret:qgr u m0 S (t_0.Kind == ([99,111,109,109,101,110,116])) a w:=⟨ok.drop,E.d,⟨rv_t E rfl,trivial⟩⟩
 obtain rfl:=sj hF
 exact fin _ _ hret
def qdq (u:World) (m0:Mem) (S:Segs) (r:(List (List (Token)))) (a:Act) (w:World):Prop :=
 ∃ m1 v0,m0.le m1 ∧ Ok u m1 S w ∧ a.defers = [] ∧ RVs Tryz.prog a w [.t 4 v0] ∧ (pL 1 (pL 3 qbi)) m1 [v0] r
set_option maxHeartbeats 4000000 in
set_option maxRecDepth 100000 in
theorem qji {u:World} {m0:Mem} {S:Segs} {w:World} (N:Nat) (vl_0:Value) (l_0:List (Token)) (hl_0:(pL 3 qbi) m0 [vl_0] l_0) (open_1:Int) (ropen_1:InR .i64 open_1) {r:(List (List (Token)))} (hF:qf4 N l_0 open_1 = some r) (hG:Glob u) (ok:Ok u m0 S w) :
  Calls Tryz.prog 57 [vl_0,Value.int .i64 open_1].toArray w fun e w'=>∃ m1 v0,e = .returned v0 ∧ m0.le m1 ∧ Ok u m1 S w' ∧ (pL 1 (pL 3 qbi)) m1 [v0] r:=by
 have le_m0:=Mem.le.refl m0
 unfold qf4 at hF
 have fin:∀ a w,qdq u m0 S r a w → bodyPost Tryz.prog Tryz.f57 (fun e w'=>∃ m1 v0,e = .returned v0 ∧ m0.le m1 ∧ Ok u m1 S w' ∧ (pL 1 (pL 3 qbi)) m1 [v0] r) .ret a w:=by
  intro a w h
  obtain ⟨m1,v0,hle,ok,hd,hrv,h0⟩:=h
  exact qaK [.t 4 v0] hd rfl hrv ⟨m1,v0,rfl,hle,ok,h0⟩
 refine enter Tryz.func57 rfl rfl rfl fun a E=>sg<|lv E ok (qab rfl) fun a E=>wn<|sg ?_
 refine qbf (R:=pRaw) (xo:=[.const (Value.slice none 0 0)]) (xs:=[[(Value.slice none 0 0)]]) E ok qcg qg0 rfl ⟨⟨_,rfl,rfl,⟨rfl,⟨rfl,trivial⟩⟩⟩,trivial⟩ rfl rfl rfl rfl fun c1 M2 a w E ok h3=>?_
 obtain ⟨M4,ok,h5⟩:=NRow.lit (R:=qcz) ok.addnil.swap2 h3 ⟨_,rfl,ORow.nil⟩
 refine lv E ok (qab rfl) fun a E=>wn<|sg<|lv E ok (qab rfl) fun a E=>lv E ok (qab rfl) fun a E=>wpList_nil ?_
 refine qad<|wp_seq<|sg<|lv E ok (qaa rfl) fun a E=>lv E ok (qaa rfl) fun a E=>lv E ok (qaL rfl rfl) fun a E=>?_
 obtain ⟨l6,e7,hF⟩:=bnd hF
 obtain ⟨c8,h9,yy10⟩:=qlJ qck hl_0 e7 (P:=Tryz.prog) (X:=.tmp 11) (lov:=(some (.tmp 13))) (hiv:=none) (qao E rfl) (qlA E ⟨_,rfl⟩) (qlA E rfl)
 refine lv E ok (yy10 _ _) fun a E=>lv E ok (qaG qck h9 rfl) fun a E=>lv E ok (qaa rfl) fun a E=>wn<|wp_block ?_
 obtain ⟨o16,hL,hF⟩:=bnd hF
 refine qaR _ (fun (s:(List (List (Token))) × Int × Bool × Int) a w=>∃ c17 M18,Ok u m0 (M18 :: S) w ∧ Env 72 a [(5,c17),(6,(Value.int .i64 s.2.1)),(7,(Value.bool s.2.2.1)),(14,c8),(15,(Value.int .i64 (l6.length:Int))),(16,(Value.int .i64 s.2.2.2))] ∧ NRow 26 1 qcz m0 c17 s.1 M18 ∧ InR .i64 s.2.1 ∧ InR .i64 s.2.2.2) (fun (b:(Unit ⊕ ((List (List (Token)))))) e a w=>(Sum.elim (fun b412=>e = (.exit 0) ∧ Ok u m0 (S) w ∧ Env 72 a []) (fun b413=>e = .ret ∧ qdq u m0 S b413 a w)) b) ?_ ?_ N _ a w hL ⟨c1,M4,ok,E.keep [5,6,7,14,15,16],h5,(show InR .i64 (0) by decide),(show InR .i64 (0) by decide)⟩
 rotate_left
 ·intro e a w _ hO
  rcases o16 with o16 | o16
  rotate_left
  ·replace hF:=qba hF
   obtain ⟨rfl,hret⟩:=hO
   refine qap<|qan ?_
   obtain rfl:=sj hF
   exact fin _ _ hret
  replace hF:=qa9 hF
  obtain ⟨rfl,ok,E⟩:=hO
  refine qaT<|qad<|sg<|lv E ok (qab rfl) fun a E=>wn<|wp_ret ?_
  have hret:qdq u m0 S ([]) a w:=⟨m0,(.slice none 0 0),le_m0,ok,E.d,⟨rv_t E rfl,trivial⟩,qbA⟩
  obtain rfl:=sj hF
  exact fin _ _ hret
 rintro ⟨out_22,depth_23,some_24,x_25⟩ a w r ⟨c26,M27,ok,E,h28,r29,r30⟩ hF
 replace hF:qfc N l6 out_22 depth_23 some_24 x_25 = some r:=hF
 unfold qfc at hF
 refine sg<|lv E ok (qaB rfl rfl) fun a E=>wn<|wp_seq<|c_if E rfl (fun hc31=>?_) (fun hc31=>?_)
 rotate_left
 ·replace hF:=qah hc31 hF
  refine wp_exit<|qaD ?_
  obtain rfl:=sj hF
  exact qaq (by nofun) (sl ⟨rfl,⟨(ok.pk 1 [] rfl (by decide)),E.keep []⟩⟩)
 replace hF:=qai hc31 hF
 refine wp_skip<|qad<|wp_seq<|wp_block<|sg ?_
 obtain ⟨x32,e33,hF⟩:=bnd hF
 obtain ⟨b34,o35,es36,hl37,rr38,at39,yy40⟩:=qaI qck h9 e33 (P:=Tryz.prog) (X:=.tmp 14) (I:=.tmp 16) (kd:=.i64) (qao E rfl) (qao E rfl)
 obtain ⟨rfl,l41,l42,r43⟩:=rr38
 refine lv E ok (yy40 _ _) fun a E=>lv E ok (qax (cs:=[(Value.string (bs x32.Kind)),(Value.string (bs x32.Text)),(Value.int .i64 x32.From)]) qeD rfl rfl (qaf.ro at39)) fun a E=>qaZ E ok qcD rfl rfl fun b44 a w E ok=>qat E ok 0 rfl rfl rfl qiB rfl rfl ⟨rfl,rfl,rfl,trivial⟩ rfl rfl fun w ok=>wn<|wp_seq<|wp_block ?_
 refine sg<|lv E ok (qac qbT rfl) fun a E=>lv E ok (qaj qav rfl (qaf.own 0 rfl rfl)) fun a E=>lv E ok (qa1 rfl rfl) fun a E=>lv E ok (qaa rfl) fun a E=>qas (x32.Kind == ([99,108,111,115,101])) (fun hc45=>?_) (fun hc45=>?_)
 rotate_left
 ·as_aux_lemma =>
   replace hF:=qah hc45 hF
   replace E:=E.upd 24 hc45 rfl
   refine ls E fun a E=>ls E fun a E=>lv E ok (qam rfl rfl) fun a E=>lv E ok (qab rfl) fun a E=>wn<|c_if E rfl (fun h=>by cases h) (fun _=>?_)
   refine sg<|lv E ok (qax (cs:=[(Value.string (bs x32.Kind)),(Value.string (bs x32.Text)),(Value.int .i64 x32.From)]) qeD rfl rfl (qaf.own 0 rfl rfl)) fun a E=>?_
   obtain ⟨r231,e232,hF⟩:=bnd hF
   refine qaw E qm4 rfl (qgG N _ x32 ⟨rfl,l41,l42,r43⟩ e232 hG ok) rfl rfl ?_
   rintro _ w ⟨rfl,ok⟩
   refine ⟨_,rfl,fun a E=>?_⟩
   refine lv E ok (qab rfl) fun a E=>wn<|c_if E rfl (fun hc233=>?_) (fun hc233=>?_)
   ·replace hF:=qai hc233 hF
    refine wp_exit<|qjE rfl<|qaD<|qaT<|qad<|qae<|lv E ok (qaC rfl rfl (InR.inc r30 (qau h9) hc31)) fun a E=>lv E ok (qaa rfl) fun a E=>?_
    refine wpList_nil ?_
    obtain rfl:=sj hF
    exact qay ⟨c26,M27,(ok.pk 2 [1] rfl (by decide)),E.keep [5,6,7,14,15,16],h28,r29,(InR.inc r30 (qau h9) hc31)⟩
   replace hF:=qah hc233 hF
   refine sg<|lv E ok (qac qbT rfl) fun a E=>lv E ok (qaj qav rfl (qaf.own 0 rfl rfl)) fun a E=>lv E ok (qa1 rfl rfl) fun a E=>lv E ok (qaa rfl) fun a E=>qas (x32.Kind == ([99,111,109,109,97])) (fun hc234=>?_) (fun hc234=>?_)
   rotate_left
   ·as_aux_lemma =>
     replace hF:=qah hc234 hF
     replace E:=E.upd 38 hc234 rfl
     refine ls E fun a E=>ls E fun a E=>lv E ok (qam rfl rfl) fun a E=>lv E ok (qab rfl) fun a E=>wn<|c_if E rfl (fun h=>by cases h) (fun _=>?_)
     refine sg<|lv E ok (qac qbT rfl) fun a E=>lv E ok (qaj qav rfl (qaf.own 0 rfl rfl)) fun a E=>lv E ok (qa1 rfl rfl) fun a E=>lv E ok (qab rfl) fun a E=>wn ?_
     obtain ⟨o328,hJ,hF⟩:=bnd hF
     refine qbx (Q':=fun e a w=>e = .normal ∧ Ok u m0 ([(b44,Obj.cells [(Value.string (bs x32.Kind)),(Value.string (bs x32.Text)),(Value.int .i64 x32.From)].toArray 29 (0,0))] :: M27 :: S) w ∧ Env 72 a [(5,c26),(6,(Value.int .i64 o328)),(9,(Value.pointer (some ⟨b44,0,none⟩))),(14,c8),(15,(Value.int .i64 (l6.length:Int))),(16,(Value.int .i64 x_25))] ∧ InR .i64 o328) ?_ ?_
     ·replace hF:=hJ
      clear hJ
      refine c_if E rfl (fun hc330=>?_) (fun hc330=>?_)
      ·replace hF:=qai hc330 hF
       refine qae<|lv E ok (qaa rfl) fun a E=>lv E ok (qaL rfl rfl) fun a E=>lv E ok (qab rfl) fun a E=>wpList_nil ?_
       obtain rfl:=sj hF
       exact ⟨rfl,⟨ok,E.keep [5,6,9,14,15,16],(InR.wrap _ _)⟩⟩
      replace hF:=qah hc330 hF
      refine sg<|lv E ok (qac qbT rfl) fun a E=>lv E ok (qaj qav rfl (qaf.own 0 rfl rfl)) fun a E=>lv E ok (qa1 rfl rfl) fun a E=>lv E ok (qab rfl) fun a E=>wn ?_
      refine c_if E rfl (fun hc331=>?_) (fun hc331=>?_)
      rotate_left
      ·replace hF:=qah hc331 hF
       refine wp_skip ?_
       obtain rfl:=sj hF
       exact ⟨rfl,⟨ok,E.keep [5,6,9,14,15,16],r29⟩⟩
      replace hF:=qai hc331 hF
      refine qae<|lv E ok (qaa rfl) fun a E=>lv E ok (qbV rfl rfl) fun a E=>lv E ok (qab rfl) fun a E=>wpList_nil ?_
      obtain rfl:=sj hF
      exact ⟨rfl,⟨ok,E.keep [5,6,9,14,15,16],(InR.wrap _ _)⟩⟩
     clear hJ
     intro e a w hO
     obtain ⟨rfl,ok,E,r332⟩:=hO
     refine qar<|qad<|sg<|lv E ok (qab rfl) fun a E=>wn ?_
     obtain ⟨o333,hJ,hF⟩:=bnd hF
     refine qbx (Q':=fun e a w=>e = .normal ∧ ∃ c334 M335,Ok u m0 ([(b44,Obj.cells [(Value.string (bs x32.Kind)),(Value.string (bs x32.Text)),(Value.int .i64 x32.From)].toArray 29 (0,0))] :: M335 :: S) w ∧ Env 72 a [(5,c334),(6,(Value.int .i64 o328)),(7,(Value.bool true)),(14,c8),(15,(Value.int .i64 (l6.length:Int))),(16,(Value.int .i64 x_25))] ∧ NRow 26 1 qcz m0 c334 o333 M335) ?_ ?_
     rotate_left
     ·clear hJ
      intro e a w hO
      obtain ⟨rfl,c409,M410,ok,E,h411⟩:=hO
      refine qar<|qad<|qae<|lv E ok (qaC rfl rfl (InR.inc r30 (qau h9) hc31)) fun a E=>lv E ok (qaa rfl) fun a E=>wpList_nil ?_
      obtain rfl:=sj hF
      exact qay ⟨c409,M410,(ok.pk 2 [1] rfl (by decide)),E.keep [5,6,7,14,15,16],h411,r332,(InR.inc r30 (qau h9) hc31)⟩
     replace hF:=hJ
     clear hJ
     obtain ⟨x337,e338,hF⟩:=bnd hF
     obtain ⟨l359,e360,hF⟩:=bnd hF
     obtain ⟨x364,e365,hF⟩:=bnd hF
     obtain rfl:=sj hF
     replace ok:Ok u m0 (M27 :: [(b44,Obj.cells [(Value.string (bs x32.Kind)),(Value.string (bs x32.Text)),(Value.int .i64 x32.From)].toArray 29 (0,0))] :: S) w:=(ok.pk 2 [1,0] rfl (by decide))
     obtain ⟨cs376,c377,M378,M379,M380,ok,hr381,hx382,he383,hh384⟩:=NRow.open h28 e338 ok
     obtain ⟨c385,rfl,h386⟩:=he383
     refine qcO [9,10] (Cls u m0 (M378 :: [(b44,Obj.cells [(Value.string (bs x32.Kind)),(Value.string (bs x32.Text)),(Value.int .i64 x32.From)].toArray 29 (0,0))] :: [])) (Cls u m0 ([(b44,Obj.cells [(Value.string (bs x32.Kind)),(Value.string (bs x32.Text)),(Value.int .i64 x32.From)].toArray 29 (0,0))] :: [])) (by kernel_rfl) ?_
     intro w hw
     replace ok:=qcV ok hw
     clear hw
     refine qaM (cl1 ⟨m0,_,le_m0,ok,⟨qal 0 rfl,qal 3 rfl,trivial⟩⟩ ⟨m0,_,le_m0,ok,⟨qal 3 rfl,trivial⟩⟩) fun hT=>kt 0 E rfl hT (qaa rfl) fun a E=>kt 1 E rfl hT (qaa rfl) fun a E=>kt 2 E rfl hT (qeo qcg hr381 hh384 rfl) fun a E=>kt 3 E rfl hT (qbV rfl rfl) fun a E=>kt 4 E rfl hT (qaa rfl) fun a E=>kt 5 E rfl hT (qaa rfl) fun a E=>kt 6 E rfl hT (qeo qcg hr381 hh384 rfl) fun a E=>?_
     refine kt 7 E rfl hT (qbV rfl rfl) fun a E=>?_
     obtain ⟨b387,o388,hp389,yy390⟩:=qfA qcg hr381 hx382 (P:=Tryz.prog) (X:=.tmp 61) (I:=.tmp 64) (kd:=.i64) (qao E rfl) (qao E rfl)
     refine kt 8 E rfl hT (yy390 _ _) fun a E=>?_
     obtain ⟨hl391,hh392⟩:=qda hr381 hx382 hp389 (by decide)
     refine qbE 9 E rfl (by kernel_rfl) nP hT (qaj qeO rfl (qaf.crow hh392 0 rfl)) rfl rfl fun a E=>qbE 10 E rfl (by kernel_rfl) nP hT (qax (cs:=[(Value.string (bs x32.Kind)),(Value.string (bs x32.Text)),(Value.int .i64 x32.From)]) qeD rfl rfl (qaf.cown 1 rfl rfl)) rfl rfl fun a E=>qbj [11] (by kernel_rfl) rfl (qbk ?_)
     ·refine qaz (o:=_) rfl<|qbf (R:=qbi) (xo:=[.tmp 67]) (xs:=([x32]:List (Token))) E ok qck qcD rfl ⟨⟨_,rfl,rfl,⟨rfl,l41,l42,r43⟩⟩,trivial⟩ rfl rfl rfl rfl fun c393 M394 a w E ok h395=>wn<|qaM (cl1 ⟨m0,_,le_m0,ok,⟨qal 1 rfl,qal 4 rfl,trivial⟩⟩ ⟨m0,_,le_m0,ok,⟨qal 4 rfl,trivial⟩⟩) fun hT=>qbj [12] (by kernel_rfl) rfl (qbk ?_)
      ·refine qaz (o:=_) rfl<|qcI (R:=qbi) E ok 2 qde qck Tryz.underlying26 rfl h386 (qbo.ofRow h395 0 rfl ok) e360 ⟨_,qcD,rfl⟩ rfl rfl rfl rfl fun c396 M397 a w E ok h398=>wn<|qaM (cl1 ⟨m0,_,le_m0,ok,⟨qal 1 rfl,qal 4 rfl,trivial⟩⟩ ⟨m0,_,le_m0,ok,⟨qal 4 rfl,trivial⟩⟩) fun hT=>?_
       obtain ⟨b399,o400,hp401,yy402⟩:=qfA qcg hr381 hx382 (P:=Tryz.prog) (X:=.tmp 57) (I:=.tmp 60) (kd:=.i64) (qao E rfl) (qao E rfl)
       refine kt 13 E rfl hT (yy402 _ _) fun a E=>qbj [14] (by kernel_rfl) rfl (qbk ?_)
       ·refine qaz (o:=_) rfl<|qfN (f:=0) (c':=[c396]) E ok 1 rfl hr381 hx382 hp401 rfl rfl rfl qkw (ORow.cells h398) rfl rfl ⟨(ORow.one h398),trivial⟩ rfl ⟨(ORow.one h398),trivial⟩ rfl fun M403 w ok hr404 hx405=>?_
        have hh406:=qdH.set (c':=[c396]) hh384
        refine wn<|qaM (cl2 (by kernel_rfl) ⟨m0,_,le_m0,ok,⟨qal 4 rfl,trivial⟩⟩) fun hT=>qcP (by kernel_rfl) ?_
        replace ok:Ok u m0 (M403 :: M397 :: M380 :: M394 :: [(b44,Obj.cells [(Value.string (bs x32.Kind)),(Value.string (bs x32.Text)),(Value.int .i64 x32.From)].toArray 29 (0,0))] :: S) w:=(ok.pk 5 [1,2,3,0,4] rfl (by decide))
        obtain ⟨M407,ok,h408⟩:=NRow.close e338 ok hr404 hx405 (show qcz m0 [c396] l359 M397 from ⟨_,rfl,h398⟩) hh406
        exact ⟨rfl,⟨c26,M407,(ok.pk 3 [2,0] rfl (by decide)),E.keep [5,6,7,14,15,16],h408⟩⟩
   replace hF:=qai hc234 hF
   replace E:=E.upd 38 hc234 rfl
   refine lv E ok (qaa rfl) fun a E=>lv E ok (qbn rfl rfl) fun a E=>lv E ok (qak rfl rfl) fun a E=>lv E ok (qab rfl) fun a E=>wn<|c_if E rfl (fun hc235=>?_) (fun hc235=>?_)
   ·replace hF:=qai hc235 hF
    refine sg<|lv E ok (qaa rfl) fun a E=>qbf (R:=pRaw) (xo:=[.const (Value.slice none 0 0)]) (xs:=[[(Value.slice none 0 0)]]) E ok qcg qg0 rfl ⟨⟨_,rfl,rfl,⟨rfl,⟨rfl,trivial⟩⟩⟩,trivial⟩ rfl rfl rfl rfl fun c236 M237 a w E ok h238=>?_
    replace ok:Ok u m0 (M27 :: M237 :: [(b44,Obj.cells [(Value.string (bs x32.Kind)),(Value.string (bs x32.Text)),(Value.int .i64 x32.From)].toArray 29 (0,0))] :: S) w:=(ok.pk 3 [2,0,1] rfl (by decide))
    obtain ⟨l239,e240,hF⟩:=bnd hF
    refine qkH (R:=qcz) E ok.addnil.swap2 qcg Tryz.underlying129 h28 (qbo.ofRow h238 1 rfl ok) ⟨_,rfl,ORow.nil⟩ e240 ⟨_,qg0,rfl⟩ rfl rfl rfl rfl fun c241 M242 a w E ok h243=>lv E ok (qab rfl) fun a E=>wn<|sg<|lv E ok (qab rfl) fun a E=>wpList_nil ?_
    refine qad<|wp_exit<|qjE rfl<|qaD<|qaT<|qad<|qae<|lv E ok (qaC rfl rfl (InR.inc r30 (qau h9) hc31)) fun a E=>?_
    refine lv E ok (qaa rfl) fun a E=>wpList_nil ?_
    obtain rfl:=sj hF
    exact qay ⟨c241,M242,(ok.pk 3 [0] rfl (by decide)),E.keep [5,6,7,14,15,16],h243,r29,(InR.inc r30 (qau h9) hc31)⟩
   replace hF:=qah hc235 hF
   refine sg<|lv E ok (qac qbT rfl) fun a E=>lv E ok (qaj qav rfl (qaf.own 0 rfl rfl)) fun a E=>lv E ok (qa1 rfl rfl) fun a E=>lv E ok (qab rfl) fun a E=>wn ?_
   obtain ⟨o244,hJ,hF⟩:=bnd hF
   refine qbx (Q':=fun e a w=>e = .normal ∧ Ok u m0 ([(b44,Obj.cells [(Value.string (bs x32.Kind)),(Value.string (bs x32.Text)),(Value.int .i64 x32.From)].toArray 29 (0,0))] :: M27 :: S) w ∧ Env 72 a [(5,c26),(6,(Value.int .i64 o244)),(9,(Value.pointer (some ⟨b44,0,none⟩))),(14,c8),(15,(Value.int .i64 (l6.length:Int))),(16,(Value.int .i64 x_25))] ∧ InR .i64 o244) ?_ ?_
   ·replace hF:=hJ
    clear hJ
    refine c_if E rfl (fun hc246=>?_) (fun hc246=>?_)
    ·replace hF:=qai hc246 hF
     refine qae<|lv E ok (qaa rfl) fun a E=>lv E ok (qaL rfl rfl) fun a E=>lv E ok (qab rfl) fun a E=>wpList_nil ?_
     obtain rfl:=sj hF
     exact ⟨rfl,⟨ok,E.keep [5,6,9,14,15,16],(InR.wrap _ _)⟩⟩
    replace hF:=qah hc246 hF
    refine sg<|lv E ok (qac qbT rfl) fun a E=>lv E ok (qaj qav rfl (qaf.own 0 rfl rfl)) fun a E=>lv E ok (qa1 rfl rfl) fun a E=>lv E ok (qab rfl) fun a E=>wn ?_
    refine c_if E rfl (fun hc247=>?_) (fun hc247=>?_)
    rotate_left
    ·replace hF:=qah hc247 hF
     refine wp_skip ?_
     obtain rfl:=sj hF
     exact ⟨rfl,⟨ok,E.keep [5,6,9,14,15,16],r29⟩⟩
    replace hF:=qai hc247 hF
    refine qae<|lv E ok (qaa rfl) fun a E=>lv E ok (qbV rfl rfl) fun a E=>lv E ok (qab rfl) fun a E=>wpList_nil ?_
    obtain rfl:=sj hF
    exact ⟨rfl,⟨ok,E.keep [5,6,9,14,15,16],(InR.wrap _ _)⟩⟩
   clear hJ
   intro e a w hO
   obtain ⟨rfl,ok,E,r248⟩:=hO
   refine qar<|qad<|sg<|lv E ok (qab rfl) fun a E=>wn ?_
   obtain ⟨o249,hJ,hF⟩:=bnd hF
   refine qbx (Q':=fun e a w=>e = .normal ∧ ∃ c250 M251,Ok u m0 ([(b44,Obj.cells [(Value.string (bs x32.Kind)),(Value.string (bs x32.Text)),(Value.int .i64 x32.From)].toArray 29 (0,0))] :: M251 :: S) w ∧ Env 72 a [(5,c250),(6,(Value.int .i64 o244)),(7,(Value.bool true)),(14,c8),(15,(Value.int .i64 (l6.length:Int))),(16,(Value.int .i64 x_25))] ∧ NRow 26 1 qcz m0 c250 o249 M251) ?_ ?_
   rotate_left
   ·clear hJ
    intro e a w hO
    obtain ⟨rfl,c325,M326,ok,E,h327⟩:=hO
    refine qar<|qad<|qae<|lv E ok (qaC rfl rfl (InR.inc r30 (qau h9) hc31)) fun a E=>lv E ok (qaa rfl) fun a E=>wpList_nil ?_
    obtain rfl:=sj hF
    exact qay ⟨c325,M326,(ok.pk 2 [1] rfl (by decide)),E.keep [5,6,7,14,15,16],h327,r248,(InR.inc r30 (qau h9) hc31)⟩
   replace hF:=hJ
   clear hJ
   obtain ⟨x253,e254,hF⟩:=bnd hF
   obtain ⟨l275,e276,hF⟩:=bnd hF
   obtain ⟨x280,e281,hF⟩:=bnd hF
   obtain rfl:=sj hF
   replace ok:Ok u m0 (M27 :: [(b44,Obj.cells [(Value.string (bs x32.Kind)),(Value.string (bs x32.Text)),(Value.int .i64 x32.From)].toArray 29 (0,0))] :: S) w:=(ok.pk 2 [1,0] rfl (by decide))
   obtain ⟨cs292,c293,M294,M295,M296,ok,hr297,hx298,he299,hh300⟩:=NRow.open h28 e254 ok
   obtain ⟨c301,rfl,h302⟩:=he299
   refine qcO [9,10] (Cls u m0 (M294 :: [(b44,Obj.cells [(Value.string (bs x32.Kind)),(Value.string (bs x32.Text)),(Value.int .i64 x32.From)].toArray 29 (0,0))] :: [])) (Cls u m0 ([(b44,Obj.cells [(Value.string (bs x32.Kind)),(Value.string (bs x32.Text)),(Value.int .i64 x32.From)].toArray 29 (0,0))] :: [])) (by kernel_rfl) ?_
   intro w hw
   replace ok:=qcV ok hw
   clear hw
   refine qaM (cl1 ⟨m0,_,le_m0,ok,⟨qal 0 rfl,qal 3 rfl,trivial⟩⟩ ⟨m0,_,le_m0,ok,⟨qal 3 rfl,trivial⟩⟩) fun hT=>kt 0 E rfl hT (qaa rfl) fun a E=>kt 1 E rfl hT (qaa rfl) fun a E=>kt 2 E rfl hT (qeo qcg hr297 hh300 rfl) fun a E=>kt 3 E rfl hT (qbV rfl rfl) fun a E=>kt 4 E rfl hT (qaa rfl) fun a E=>kt 5 E rfl hT (qaa rfl) fun a E=>kt 6 E rfl hT (qeo qcg hr297 hh300 rfl) fun a E=>?_
   refine kt 7 E rfl hT (qbV rfl rfl) fun a E=>?_
   obtain ⟨b303,o304,hp305,yy306⟩:=qfA qcg hr297 hx298 (P:=Tryz.prog) (X:=.tmp 61) (I:=.tmp 64) (kd:=.i64) (qao E rfl) (qao E rfl)
   refine kt 8 E rfl hT (yy306 _ _) fun a E=>?_
   obtain ⟨hl307,hh308⟩:=qda hr297 hx298 hp305 (by decide)
   refine qbE 9 E rfl (by kernel_rfl) nP hT (qaj qeO rfl (qaf.crow hh308 0 rfl)) rfl rfl fun a E=>qbE 10 E rfl (by kernel_rfl) nP hT (qax (cs:=[(Value.string (bs x32.Kind)),(Value.string (bs x32.Text)),(Value.int .i64 x32.From)]) qeD rfl rfl (qaf.cown 1 rfl rfl)) rfl rfl fun a E=>qbj [11] (by kernel_rfl) rfl (qbk ?_)
   ·refine qaz (o:=_) rfl<|qbf (R:=qbi) (xo:=[.tmp 67]) (xs:=([x32]:List (Token))) E ok qck qcD rfl ⟨⟨_,rfl,rfl,⟨rfl,l41,l42,r43⟩⟩,trivial⟩ rfl rfl rfl rfl fun c309 M310 a w E ok h311=>wn<|qaM (cl1 ⟨m0,_,le_m0,ok,⟨qal 1 rfl,qal 4 rfl,trivial⟩⟩ ⟨m0,_,le_m0,ok,⟨qal 4 rfl,trivial⟩⟩) fun hT=>qbj [12] (by kernel_rfl) rfl (qbk ?_)
    ·refine qaz (o:=_) rfl<|qcI (R:=qbi) E ok 2 qde qck Tryz.underlying26 rfl h302 (qbo.ofRow h311 0 rfl ok) e276 ⟨_,qcD,rfl⟩ rfl rfl rfl rfl fun c312 M313 a w E ok h314=>wn<|qaM (cl1 ⟨m0,_,le_m0,ok,⟨qal 1 rfl,qal 4 rfl,trivial⟩⟩ ⟨m0,_,le_m0,ok,⟨qal 4 rfl,trivial⟩⟩) fun hT=>?_
     obtain ⟨b315,o316,hp317,yy318⟩:=qfA qcg hr297 hx298 (P:=Tryz.prog) (X:=.tmp 57) (I:=.tmp 60) (kd:=.i64) (qao E rfl) (qao E rfl)
     refine kt 13 E rfl hT (yy318 _ _) fun a E=>qbj [14] (by kernel_rfl) rfl (qbk ?_)
     ·refine qaz (o:=_) rfl<|qfN (f:=0) (c':=[c312]) E ok 1 rfl hr297 hx298 hp317 rfl rfl rfl qkw (ORow.cells h314) rfl rfl ⟨(ORow.one h314),trivial⟩ rfl ⟨(ORow.one h314),trivial⟩ rfl fun M319 w ok hr320 hx321=>?_
      have hh322:=qdH.set (c':=[c312]) hh300
      refine wn<|qaM (cl2 (by kernel_rfl) ⟨m0,_,le_m0,ok,⟨qal 4 rfl,trivial⟩⟩) fun hT=>qcP (by kernel_rfl) ?_
      replace ok:Ok u m0 (M319 :: M313 :: M296 :: M310 :: [(b44,Obj.cells [(Value.string (bs x32.Kind)),(Value.string (bs x32.Text)),(Value.int .i64 x32.From)].toArray 29 (0,0))] :: S) w:=(ok.pk 5 [1,2,3,0,4] rfl (by decide))
      obtain ⟨M323,ok,h324⟩:=NRow.close e254 ok hr320 hx321 (show qcz m0 [c312] l275 M313 from ⟨_,rfl,h314⟩) hh322
      exact ⟨rfl,⟨c26,M323,(ok.pk 3 [2,0] rfl (by decide)),E.keep [5,6,7,14,15,16],h324⟩⟩
 replace hF:=qai hc45 hF
 replace E:=E.upd 24 hc45 rfl
 refine lv E ok (qaa rfl) fun a E=>lv E ok (qbn rfl rfl) fun a E=>lv E ok (qak rfl rfl) fun a E=>lv E ok (qab rfl) fun a E=>wn<|c_if E rfl (fun hc46=>?_) (fun hc46=>?_)
 ·replace hF:=qai hc46 hF
  refine wp_seq<|sg<|lv E ok (qaa rfl) fun a E=>lv E ok (qbP rfl) fun a E=>wn<|c_if E rfl (fun hc47=>?_) (fun hc47=>?_)
  ·replace hF:=qai hc47 hF
   refine sg<|lv E ok (qab rfl) fun a E=>wn<|wp_ret<|qan<|qap ?_
   refine qan<|qap<|qan ?_
   have hret:qdq u m0 S ([]) a w:=⟨m0,(.slice none 0 0),le_m0,ok.drop.drop,E.d,⟨rv_t E rfl,trivial⟩,qbA⟩
   obtain rfl:=sj hF
   exact qaq (by nofun) (sr ⟨rfl,hret⟩)
  replace hF:=qah hc47 hF
  refine wp_skip<|qad<|sg<|lv E ok (qaa rfl) fun a E=>lv E ok (qab rfl) fun a E=>wn ?_
  refine wp_ret<|qap<|qan<|qap<|qan ?_
  obtain ⟨m48,hle,ok,hfz⟩:=(ok.frs 1 rfl).freeze
  have h49:=NRow.froz qlo h28 hle hfz (by decide)
  have le_m0:=le_m0.trans hle
  have hl_0:=(mL qde).up hle hl_0
  have h9:=(mL qde).up hle h9
  have at39:=At.up hle at39
  have hret:qdq u m0 S out_22 a w:=⟨m48,c26,le_m0,ok.drop,E.d,⟨rv_t E rfl,trivial⟩,h49⟩
  obtain rfl:=sj hF
  exact qaq (by nofun) (sr ⟨rfl,hret⟩)
 replace hF:=qah hc46 hF
 refine sg<|lv E ok (qax (cs:=[(Value.string (bs x32.Kind)),(Value.string (bs x32.Text)),(Value.int .i64 x32.From)]) qeD rfl rfl (qaf.own 0 rfl rfl)) fun a E=>?_
 obtain ⟨r50,e51,hF⟩:=bnd hF
 refine qaw E qm4 rfl (qgG N _ x32 ⟨rfl,l41,l42,r43⟩ e51 hG ok) rfl rfl ?_
 rintro _ w ⟨rfl,ok⟩
 refine ⟨_,rfl,fun a E=>?_⟩
 refine lv E ok (qab rfl) fun a E=>wn<|c_if E rfl (fun hc52=>?_) (fun hc52=>?_)
 ·replace hF:=qai hc52 hF
  refine wp_exit<|qjE rfl<|qaD<|qaT<|qad<|qae<|lv E ok (qaC rfl rfl (InR.inc r30 (qau h9) hc31)) fun a E=>lv E ok (qaa rfl) fun a E=>?_
  refine wpList_nil ?_
  obtain rfl:=sj hF
  exact qay ⟨c26,M27,(ok.pk 2 [1] rfl (by decide)),E.keep [5,6,7,14,15,16],h28,r29,(InR.inc r30 (qau h9) hc31)⟩
 replace hF:=qah hc52 hF
 refine sg<|lv E ok (qac qbT rfl) fun a E=>lv E ok (qaj qav rfl (qaf.own 0 rfl rfl)) fun a E=>lv E ok (qa1 rfl rfl) fun a E=>lv E ok (qaa rfl) fun a E=>qas (x32.Kind == ([99,111,109,109,97])) (fun hc53=>?_) (fun hc53=>?_)
 rotate_left
 ·as_aux_lemma =>
   replace hF:=qah hc53 hF
   replace E:=E.upd 38 hc53 rfl
   refine ls E fun a E=>ls E fun a E=>lv E ok (qam rfl rfl) fun a E=>lv E ok (qab rfl) fun a E=>wn<|c_if E rfl (fun h=>by cases h) (fun _=>?_)
   refine sg<|lv E ok (qac qbT rfl) fun a E=>lv E ok (qaj qav rfl (qaf.own 0 rfl rfl)) fun a E=>lv E ok (qa1 rfl rfl) fun a E=>lv E ok (qab rfl) fun a E=>wn ?_
   obtain ⟨o147,hJ,hF⟩:=bnd hF
   refine qbx (Q':=fun e a w=>e = .normal ∧ Ok u m0 ([(b44,Obj.cells [(Value.string (bs x32.Kind)),(Value.string (bs x32.Text)),(Value.int .i64 x32.From)].toArray 29 (0,0))] :: M27 :: S) w ∧ Env 72 a [(5,c26),(6,(Value.int .i64 o147)),(9,(Value.pointer (some ⟨b44,0,none⟩))),(14,c8),(15,(Value.int .i64 (l6.length:Int))),(16,(Value.int .i64 x_25))] ∧ InR .i64 o147) ?_ ?_
   ·replace hF:=hJ
    clear hJ
    refine c_if E rfl (fun hc149=>?_) (fun hc149=>?_)
    ·replace hF:=qai hc149 hF
     refine qae<|lv E ok (qaa rfl) fun a E=>lv E ok (qaL rfl rfl) fun a E=>lv E ok (qab rfl) fun a E=>wpList_nil ?_
     obtain rfl:=sj hF
     exact ⟨rfl,⟨ok,E.keep [5,6,9,14,15,16],(InR.wrap _ _)⟩⟩
    replace hF:=qah hc149 hF
    refine sg<|lv E ok (qac qbT rfl) fun a E=>lv E ok (qaj qav rfl (qaf.own 0 rfl rfl)) fun a E=>lv E ok (qa1 rfl rfl) fun a E=>lv E ok (qab rfl) fun a E=>wn ?_
    refine c_if E rfl (fun hc150=>?_) (fun hc150=>?_)
    rotate_left
    ·replace hF:=qah hc150 hF
     refine wp_skip ?_
     obtain rfl:=sj hF
     exact ⟨rfl,⟨ok,E.keep [5,6,9,14,15,16],r29⟩⟩
    replace hF:=qai hc150 hF
    refine qae<|lv E ok (qaa rfl) fun a E=>lv E ok (qbV rfl rfl) fun a E=>lv E ok (qab rfl) fun a E=>wpList_nil ?_
    obtain rfl:=sj hF
    exact ⟨rfl,⟨ok,E.keep [5,6,9,14,15,16],(InR.wrap _ _)⟩⟩
   clear hJ
   intro e a w hO
   obtain ⟨rfl,ok,E,r151⟩:=hO
   refine qar<|qad<|sg<|lv E ok (qab rfl) fun a E=>wn ?_
   obtain ⟨o152,hJ,hF⟩:=bnd hF
   refine qbx (Q':=fun e a w=>e = .normal ∧ ∃ c153 M154,Ok u m0 ([(b44,Obj.cells [(Value.string (bs x32.Kind)),(Value.string (bs x32.Text)),(Value.int .i64 x32.From)].toArray 29 (0,0))] :: M154 :: S) w ∧ Env 72 a [(5,c153),(6,(Value.int .i64 o147)),(7,(Value.bool true)),(14,c8),(15,(Value.int .i64 (l6.length:Int))),(16,(Value.int .i64 x_25))] ∧ NRow 26 1 qcz m0 c153 o152 M154) ?_ ?_
   rotate_left
   ·clear hJ
    intro e a w hO
    obtain ⟨rfl,c228,M229,ok,E,h230⟩:=hO
    refine qar<|qad<|qae<|lv E ok (qaC rfl rfl (InR.inc r30 (qau h9) hc31)) fun a E=>lv E ok (qaa rfl) fun a E=>wpList_nil ?_
    obtain rfl:=sj hF
    exact qay ⟨c228,M229,(ok.pk 2 [1] rfl (by decide)),E.keep [5,6,7,14,15,16],h230,r151,(InR.inc r30 (qau h9) hc31)⟩
   replace hF:=hJ
   clear hJ
   obtain ⟨x156,e157,hF⟩:=bnd hF
   obtain ⟨l178,e179,hF⟩:=bnd hF
   obtain ⟨x183,e184,hF⟩:=bnd hF
   obtain rfl:=sj hF
   replace ok:Ok u m0 (M27 :: [(b44,Obj.cells [(Value.string (bs x32.Kind)),(Value.string (bs x32.Text)),(Value.int .i64 x32.From)].toArray 29 (0,0))] :: S) w:=(ok.pk 2 [1,0] rfl (by decide))
   obtain ⟨cs195,c196,M197,M198,M199,ok,hr200,hx201,he202,hh203⟩:=NRow.open h28 e157 ok
   obtain ⟨c204,rfl,h205⟩:=he202
   refine qcO [9,10] (Cls u m0 (M197 :: [(b44,Obj.cells [(Value.string (bs x32.Kind)),(Value.string (bs x32.Text)),(Value.int .i64 x32.From)].toArray 29 (0,0))] :: [])) (Cls u m0 ([(b44,Obj.cells [(Value.string (bs x32.Kind)),(Value.string (bs x32.Text)),(Value.int .i64 x32.From)].toArray 29 (0,0))] :: [])) (by kernel_rfl) ?_
   intro w hw
   replace ok:=qcV ok hw
   clear hw
   refine qaM (cl1 ⟨m0,_,le_m0,ok,⟨qal 0 rfl,qal 3 rfl,trivial⟩⟩ ⟨m0,_,le_m0,ok,⟨qal 3 rfl,trivial⟩⟩) fun hT=>kt 0 E rfl hT (qaa rfl) fun a E=>kt 1 E rfl hT (qaa rfl) fun a E=>kt 2 E rfl hT (qeo qcg hr200 hh203 rfl) fun a E=>kt 3 E rfl hT (qbV rfl rfl) fun a E=>kt 4 E rfl hT (qaa rfl) fun a E=>kt 5 E rfl hT (qaa rfl) fun a E=>kt 6 E rfl hT (qeo qcg hr200 hh203 rfl) fun a E=>?_
   refine kt 7 E rfl hT (qbV rfl rfl) fun a E=>?_
   obtain ⟨b206,o207,hp208,yy209⟩:=qfA qcg hr200 hx201 (P:=Tryz.prog) (X:=.tmp 61) (I:=.tmp 64) (kd:=.i64) (qao E rfl) (qao E rfl)
   refine kt 8 E rfl hT (yy209 _ _) fun a E=>?_
   obtain ⟨hl210,hh211⟩:=qda hr200 hx201 hp208 (by decide)
   refine qbE 9 E rfl (by kernel_rfl) nP hT (qaj qeO rfl (qaf.crow hh211 0 rfl)) rfl rfl fun a E=>qbE 10 E rfl (by kernel_rfl) nP hT (qax (cs:=[(Value.string (bs x32.Kind)),(Value.string (bs x32.Text)),(Value.int .i64 x32.From)]) qeD rfl rfl (qaf.cown 1 rfl rfl)) rfl rfl fun a E=>qbj [11] (by kernel_rfl) rfl (qbk ?_)
   ·refine qaz (o:=_) rfl<|qbf (R:=qbi) (xo:=[.tmp 67]) (xs:=([x32]:List (Token))) E ok qck qcD rfl ⟨⟨_,rfl,rfl,⟨rfl,l41,l42,r43⟩⟩,trivial⟩ rfl rfl rfl rfl fun c212 M213 a w E ok h214=>wn<|qaM (cl1 ⟨m0,_,le_m0,ok,⟨qal 1 rfl,qal 4 rfl,trivial⟩⟩ ⟨m0,_,le_m0,ok,⟨qal 4 rfl,trivial⟩⟩) fun hT=>qbj [12] (by kernel_rfl) rfl (qbk ?_)
    ·refine qaz (o:=_) rfl<|qcI (R:=qbi) E ok 2 qde qck Tryz.underlying26 rfl h205 (qbo.ofRow h214 0 rfl ok) e179 ⟨_,qcD,rfl⟩ rfl rfl rfl rfl fun c215 M216 a w E ok h217=>wn<|qaM (cl1 ⟨m0,_,le_m0,ok,⟨qal 1 rfl,qal 4 rfl,trivial⟩⟩ ⟨m0,_,le_m0,ok,⟨qal 4 rfl,trivial⟩⟩) fun hT=>?_
     obtain ⟨b218,o219,hp220,yy221⟩:=qfA qcg hr200 hx201 (P:=Tryz.prog) (X:=.tmp 57) (I:=.tmp 60) (kd:=.i64) (qao E rfl) (qao E rfl)
     refine kt 13 E rfl hT (yy221 _ _) fun a E=>qbj [14] (by kernel_rfl) rfl (qbk ?_)
     ·refine qaz (o:=_) rfl<|qfN (f:=0) (c':=[c215]) E ok 1 rfl hr200 hx201 hp220 rfl rfl rfl qkw (ORow.cells h217) rfl rfl ⟨(ORow.one h217),trivial⟩ rfl ⟨(ORow.one h217),trivial⟩ rfl fun M222 w ok hr223 hx224=>?_
      have hh225:=qdH.set (c':=[c215]) hh203
      refine wn<|qaM (cl2 (by kernel_rfl) ⟨m0,_,le_m0,ok,⟨qal 4 rfl,trivial⟩⟩) fun hT=>qcP (by kernel_rfl) ?_
      replace ok:Ok u m0 (M222 :: M216 :: M199 :: M213 :: [(b44,Obj.cells [(Value.string (bs x32.Kind)),(Value.string (bs x32.Text)),(Value.int .i64 x32.From)].toArray 29 (0,0))] :: S) w:=(ok.pk 5 [1,2,3,0,4] rfl (by decide))
      obtain ⟨M226,ok,h227⟩:=NRow.close e157 ok hr223 hx224 (show qcz m0 [c215] l178 M216 from ⟨_,rfl,h217⟩) hh225
      exact ⟨rfl,⟨c26,M226,(ok.pk 3 [2,0] rfl (by decide)),E.keep [5,6,7,14,15,16],h227⟩⟩
 replace hF:=qai hc53 hF
 replace E:=E.upd 38 hc53 rfl
 refine lv E ok (qaa rfl) fun a E=>lv E ok (qbn rfl rfl) fun a E=>lv E ok (qak rfl rfl) fun a E=>lv E ok (qab rfl) fun a E=>wn<|c_if E rfl (fun hc54=>?_) (fun hc54=>?_)
 ·replace hF:=qai hc54 hF
  refine sg<|lv E ok (qaa rfl) fun a E=>qbf (R:=pRaw) (xo:=[.const (Value.slice none 0 0)]) (xs:=[[(Value.slice none 0 0)]]) E ok qcg qg0 rfl ⟨⟨_,rfl,rfl,⟨rfl,⟨rfl,trivial⟩⟩⟩,trivial⟩ rfl rfl rfl rfl fun c55 M56 a w E ok h57=>?_
  replace ok:Ok u m0 (M27 :: M56 :: [(b44,Obj.cells [(Value.string (bs x32.Kind)),(Value.string (bs x32.Text)),(Value.int .i64 x32.From)].toArray 29 (0,0))] :: S) w:=(ok.pk 3 [2,0,1] rfl (by decide))
  obtain ⟨l58,e59,hF⟩:=bnd hF
  refine qkH (R:=qcz) E ok.addnil.swap2 qcg Tryz.underlying129 h28 (qbo.ofRow h57 1 rfl ok) ⟨_,rfl,ORow.nil⟩ e59 ⟨_,qg0,rfl⟩ rfl rfl rfl rfl fun c60 M61 a w E ok h62=>lv E ok (qab rfl) fun a E=>wn<|sg<|lv E ok (qab rfl) fun a E=>wpList_nil ?_
  refine qad<|wp_exit<|qjE rfl<|qaD<|qaT<|qad<|qae<|lv E ok (qaC rfl rfl (InR.inc r30 (qau h9) hc31)) fun a E=>?_
  refine lv E ok (qaa rfl) fun a E=>wpList_nil ?_
  obtain rfl:=sj hF
  exact qay ⟨c60,M61,(ok.pk 3 [0] rfl (by decide)),E.keep [5,6,7,14,15,16],h62,r29,(InR.inc r30 (qau h9) hc31)⟩
 replace hF:=qah hc54 hF
 refine sg<|lv E ok (qac qbT rfl) fun a E=>lv E ok (qaj qav rfl (qaf.own 0 rfl rfl)) fun a E=>lv E ok (qa1 rfl rfl) fun a E=>lv E ok (qab rfl) fun a E=>wn ?_
 obtain ⟨o63,hJ,hF⟩:=bnd hF
 refine qbx (Q':=fun e a w=>e = .normal ∧ Ok u m0 ([(b44,Obj.cells [(Value.string (bs x32.Kind)),(Value.string (bs x32.Text)),(Value.int .i64 x32.From)].toArray 29 (0,0))] :: M27 :: S) w ∧ Env 72 a [(5,c26),(6,(Value.int .i64 o63)),(9,(Value.pointer (some ⟨b44,0,none⟩))),(14,c8),(15,(Value.int .i64 (l6.length:Int))),(16,(Value.int .i64 x_25))] ∧ InR .i64 o63) ?_ ?_
 ·replace hF:=hJ
  clear hJ
  refine c_if E rfl (fun hc65=>?_) (fun hc65=>?_)
  ·replace hF:=qai hc65 hF
   refine qae<|lv E ok (qaa rfl) fun a E=>lv E ok (qaL rfl rfl) fun a E=>lv E ok (qab rfl) fun a E=>wpList_nil ?_
   obtain rfl:=sj hF
   exact ⟨rfl,⟨ok,E.keep [5,6,9,14,15,16],(InR.wrap _ _)⟩⟩
  replace hF:=qah hc65 hF
  refine sg<|lv E ok (qac qbT rfl) fun a E=>lv E ok (qaj qav rfl (qaf.own 0 rfl rfl)) fun a E=>lv E ok (qa1 rfl rfl) fun a E=>lv E ok (qab rfl) fun a E=>wn ?_
  refine c_if E rfl (fun hc66=>?_) (fun hc66=>?_)
  rotate_left
  ·replace hF:=qah hc66 hF
   refine wp_skip ?_
   obtain rfl:=sj hF
   exact ⟨rfl,⟨ok,E.keep [5,6,9,14,15,16],r29⟩⟩
  replace hF:=qai hc66 hF
  refine qae<|lv E ok (qaa rfl) fun a E=>lv E ok (qbV rfl rfl) fun a E=>lv E ok (qab rfl) fun a E=>wpList_nil ?_
  obtain rfl:=sj hF
  exact ⟨rfl,⟨ok,E.keep [5,6,9,14,15,16],(InR.wrap _ _)⟩⟩
 clear hJ
 intro e a w hO
 obtain ⟨rfl,ok,E,r67⟩:=hO
 refine qar<|qad<|sg<|lv E ok (qab rfl) fun a E=>wn ?_
 obtain ⟨o68,hJ,hF⟩:=bnd hF
 refine qbx (Q':=fun e a w=>e = .normal ∧ ∃ c69 M70,Ok u m0 ([(b44,Obj.cells [(Value.string (bs x32.Kind)),(Value.string (bs x32.Text)),(Value.int .i64 x32.From)].toArray 29 (0,0))] :: M70 :: S) w ∧ Env 72 a [(5,c69),(6,(Value.int .i64 o63)),(7,(Value.bool true)),(14,c8),(15,(Value.int .i64 (l6.length:Int))),(16,(Value.int .i64 x_25))] ∧ NRow 26 1 qcz m0 c69 o68 M70) ?_ ?_
 rotate_left
 ·clear hJ
  intro e a w hO
  obtain ⟨rfl,c144,M145,ok,E,h146⟩:=hO
  refine qar<|qad<|qae<|lv E ok (qaC rfl rfl (InR.inc r30 (qau h9) hc31)) fun a E=>lv E ok (qaa rfl) fun a E=>wpList_nil ?_
  obtain rfl:=sj hF
  exact qay ⟨c144,M145,(ok.pk 2 [1] rfl (by decide)),E.keep [5,6,7,14,15,16],h146,r67,(InR.inc r30 (qau h9) hc31)⟩
 replace hF:=hJ
 clear hJ
 obtain ⟨x72,e73,hF⟩:=bnd hF
 obtain ⟨l94,e95,hF⟩:=bnd hF
 obtain ⟨x99,e100,hF⟩:=bnd hF
 obtain rfl:=sj hF
 replace ok:Ok u m0 (M27 :: [(b44,Obj.cells [(Value.string (bs x32.Kind)),(Value.string (bs x32.Text)),(Value.int .i64 x32.From)].toArray 29 (0,0))] :: S) w:=(ok.pk 2 [1,0] rfl (by decide))
 obtain ⟨cs111,c112,M113,M114,M115,ok,hr116,hx117,he118,hh119⟩:=NRow.open h28 e73 ok
 obtain ⟨c120,rfl,h121⟩:=he118
 refine qcO [9,10] (Cls u m0 (M113 :: [(b44,Obj.cells [(Value.string (bs x32.Kind)),(Value.string (bs x32.Text)),(Value.int .i64 x32.From)].toArray 29 (0,0))] :: [])) (Cls u m0 ([(b44,Obj.cells [(Value.string (bs x32.Kind)),(Value.string (bs x32.Text)),(Value.int .i64 x32.From)].toArray 29 (0,0))] :: [])) (by kernel_rfl) ?_
 intro w hw
 replace ok:=qcV ok hw
 clear hw
 refine qaM (cl1 ⟨m0,_,le_m0,ok,⟨qal 0 rfl,qal 3 rfl,trivial⟩⟩ ⟨m0,_,le_m0,ok,⟨qal 3 rfl,trivial⟩⟩) fun hT=>kt 0 E rfl hT (qaa rfl) fun a E=>kt 1 E rfl hT (qaa rfl) fun a E=>kt 2 E rfl hT (qeo qcg hr116 hh119 rfl) fun a E=>kt 3 E rfl hT (qbV rfl rfl) fun a E=>kt 4 E rfl hT (qaa rfl) fun a E=>kt 5 E rfl hT (qaa rfl) fun a E=>kt 6 E rfl hT (qeo qcg hr116 hh119 rfl) fun a E=>?_
 refine kt 7 E rfl hT (qbV rfl rfl) fun a E=>?_
 obtain ⟨b122,o123,hp124,yy125⟩:=qfA qcg hr116 hx117 (P:=Tryz.prog) (X:=.tmp 61) (I:=.tmp 64) (kd:=.i64) (qao E rfl) (qao E rfl)
 refine kt 8 E rfl hT (yy125 _ _) fun a E=>?_
 obtain ⟨hl126,hh127⟩:=qda hr116 hx117 hp124 (by decide)
 refine qbE 9 E rfl (by kernel_rfl) nP hT (qaj qeO rfl (qaf.crow hh127 0 rfl)) rfl rfl fun a E=>qbE 10 E rfl (by kernel_rfl) nP hT (qax (cs:=[(Value.string (bs x32.Kind)),(Value.string (bs x32.Text)),(Value.int .i64 x32.From)]) qeD rfl rfl (qaf.cown 1 rfl rfl)) rfl rfl fun a E=>qbj [11] (by kernel_rfl) rfl (qbk ?_)
 ·refine qaz (o:=_) rfl<|qbf (R:=qbi) (xo:=[.tmp 67]) (xs:=([x32]:List (Token))) E ok qck qcD rfl ⟨⟨_,rfl,rfl,⟨rfl,l41,l42,r43⟩⟩,trivial⟩ rfl rfl rfl rfl fun c128 M129 a w E ok h130=>wn<|qaM (cl1 ⟨m0,_,le_m0,ok,⟨qal 1 rfl,qal 4 rfl,trivial⟩⟩ ⟨m0,_,le_m0,ok,⟨qal 4 rfl,trivial⟩⟩) fun hT=>qbj [12] (by kernel_rfl) rfl (qbk ?_)
  ·refine qaz (o:=_) rfl<|qcI (R:=qbi) E ok 2 qde qck Tryz.underlying26 rfl h121 (qbo.ofRow h130 0 rfl ok) e95 ⟨_,qcD,rfl⟩ rfl rfl rfl rfl fun c131 M132 a w E ok h133=>wn<|qaM (cl1 ⟨m0,_,le_m0,ok,⟨qal 1 rfl,qal 4 rfl,trivial⟩⟩ ⟨m0,_,le_m0,ok,⟨qal 4 rfl,trivial⟩⟩) fun hT=>?_
   obtain ⟨b134,o135,hp136,yy137⟩:=qfA qcg hr116 hx117 (P:=Tryz.prog) (X:=.tmp 57) (I:=.tmp 60) (kd:=.i64) (qao E rfl) (qao E rfl)
   refine kt 13 E rfl hT (yy137 _ _) fun a E=>qbj [14] (by kernel_rfl) rfl (qbk ?_)
   ·refine qaz (o:=_) rfl<|qfN (f:=0) (c':=[c131]) E ok 1 rfl hr116 hx117 hp136 rfl rfl rfl qkw (ORow.cells h133) rfl rfl ⟨(ORow.one h133),trivial⟩ rfl ⟨(ORow.one h133),trivial⟩ rfl fun M138 w ok hr139 hx140=>?_
    have hh141:=qdH.set (c':=[c131]) hh119
    refine wn<|qaM (cl2 (by kernel_rfl) ⟨m0,_,le_m0,ok,⟨qal 4 rfl,trivial⟩⟩) fun hT=>qcP (by kernel_rfl) ?_
    replace ok:Ok u m0 (M138 :: M132 :: M115 :: M129 :: [(b44,Obj.cells [(Value.string (bs x32.Kind)),(Value.string (bs x32.Text)),(Value.int .i64 x32.From)].toArray 29 (0,0))] :: S) w:=(ok.pk 5 [1,2,3,0,4] rfl (by decide))
    obtain ⟨M142,ok,h143⟩:=NRow.close e73 ok hr139 hx140 (show qcz m0 [c131] l94 M132 from ⟨_,rfl,h133⟩) hh141
    exact ⟨rfl,⟨c26,M142,(ok.pk 3 [2,0] rfl (by decide)),E.keep [5,6,7,14,15,16],h143⟩⟩
def qgH (u:World) (m0:Mem) (S:Segs) (r:(List UInt8) × Bool) (a:Act) (w:World):Prop :=
 Ok u m0 S w ∧ a.defers = [] ∧ RVs Tryz.prog a w [.t 4 (.string (bs r.1)),.t 5 (.bool r.2)] ∧ r.1.length ≤ LIMS
set_option maxHeartbeats 4000000 in
set_option maxRecDepth 100000 in
theorem qib {u:World} {m0:Mem} {S:Segs} {w:World} (N:Nat) (vargs_0:Value) (args_0:List (List (Token))) (hargs_0:(pL 1 (pL 3 qbi)) m0 [vargs_0] args_0) (i_1:Int) (ri_1:InR .i64 i_1) {r:(List UInt8) × Bool} (hF:qga N args_0 i_1 = some r) (hG:Glob u) (ok:Ok u m0 S w) :
  Calls Tryz.prog 59 [vargs_0,Value.int .i64 i_1].toArray w fun e w'=>(e = .returned (.tuple [(.string (bs r.1)),(.bool r.2)].toArray) ∧ Ok u m0 S w') ∧ r.1.length ≤ LIMS:=by
 have hb0:=ok.base
 have le_m0:=Mem.le.refl m0
 unfold qga at hF
 have fin:∀ a w,qgH u m0 S r a w → bodyPost Tryz.prog Tryz.f59 (fun e w'=>(e = .returned (.tuple [(.string (bs r.1)),(.bool r.2)].toArray) ∧ Ok u m0 S w') ∧ r.1.length ≤ LIMS) .ret a w:=by
  intro a w h
  obtain ⟨ok,hd,hrv,h0⟩:=h
  exact qaK [.t 4 (.string (bs r.1)),.t 5 (.bool r.2)] hd rfl hrv ⟨⟨rfl,ok⟩,h0⟩
 refine enter Tryz.func59 rfl rfl rfl fun a E=>sg<|lv E ok (qab rfl) fun a E=>lv E ok (qab rfl) fun a E=>wn<|wp_seq ?_
 refine sg<|lv E ok (qaa rfl) fun a E=>lv E ok (qaa rfl) fun a E=>lv E ok (qaG qcg hargs_0 rfl) fun a E=>lv E ok (qbg rfl rfl) fun a E=>wn ?_
 refine c_if E rfl (fun hc1=>?_) (fun hc1=>?_)
 ·replace hF:=qai hc1 hF
  refine sg<|lv E ok (qab rfl) fun a E=>lv E ok (qab rfl) fun a E=>wn<|wp_ret<|qan ?_
  have hret:qgH u m0 S ([],false) a w:=⟨ok,E.d,⟨rv_t E rfl,rv_t E rfl,trivial⟩,(show ([]:List UInt8).length ≤ LIMS by decide)⟩
  obtain rfl:=sj hF
  exact fin _ _ hret
 replace hF:=qah hc1 hF
 refine wp_skip<|qad<|sg<|lv E ok (qaa rfl) fun a E=>lv E ok (qaa rfl) fun a E=>?_
 obtain ⟨x2,e3,hF⟩:=bnd hF
 obtain ⟨b4,o5,es6,hl7,rr8,at9,yy10⟩:=qaI qcg hargs_0 e3 (P:=Tryz.prog) (X:=.tmp 10) (I:=.tmp 11) (kd:=.i64) (qao E rfl) (qao E rfl)
 obtain ⟨c11,rfl,h12⟩:=qjO rr8
 refine lv E ok (yy10 _ _) fun a E=>lv E ok (qaj qeO rfl (qaf.ro at9)) fun a E=>?_
 obtain ⟨r13,e14,hF⟩:=bnd hF
 refine qaw E qoq rfl (qhs N _ x2 h12 e14 hG ok) rfl rfl ?_
 rintro _ w ⟨⟨rfl,ok⟩,l15⟩
 refine ⟨_,rfl,fun a E=>?_⟩
 refine lv E ok (qaA rfl rfl) fun a E=>lv E ok (qaA rfl rfl) fun a E=>lv E ok (qab rfl) fun a E=>lv E ok (qab rfl) fun a E=>wn<|wp_ret ?_
 have hret:qgH u m0 S (r13.1,r13.2) a w:=⟨ok,E.d,⟨rv_t E rfl,rv_t E rfl,trivial⟩,l15⟩
 obtain rfl:=sj hF
 exact fin _ _ hret
theorem qjk {u:World} {m0:Mem} {S:Segs} {w:World} (N:Nat) (p0_0:List UInt8) (lp0_0:p0_0.length ≤ LIMS) (p1_1:List UInt8) (lp1_1:p1_1.length ≤ LIMS) {r:(List UInt8)} (hF:qeB N p0_0 p1_1 = some r) (hG:Glob u) (ok:Ok u m0 S w) :
  Calls Tryz.prog 83 [Value.string (bs p0_0),Value.string (bs p1_1)].toArray w fun e w'=>(e = .returned (.string (bs r)) ∧ Ok u m0 S w') ∧ r.length ≤ LIMS:=qls Tryz.lays162 (by kernel_rfl) p0_0 p1_1 hF lp0_0 ok
theorem qjH {u:World} {m0:Mem} {S:Segs} {w:World} (N:Nat) (p0_0:List UInt8) (lp0_0:p0_0.length ≤ LIMS) (p1_1:List UInt8) (lp1_1:p1_1.length ≤ LIMS) {r:(List UInt8)} (hF:qeX N p0_0 p1_1 = some r) (hG:Glob u) (ok:Ok u m0 S w) :
  Calls Tryz.prog 84 [Value.string (bs p0_0),Value.string (bs p1_1)].toArray w fun e w'=>(e = .returned (.string (bs r)) ∧ Ok u m0 S w') ∧ r.length ≤ LIMS:=ql2 Tryz.lays161 (by kernel_rfl) p0_0 p1_1 hF lp0_0 ok
def qdN (u:World) (m0:Mem) (S:Segs) (r:(List UInt8)) (a:Act) (w:World):Prop :=
 Ok u m0 S w ∧ a.defers = [] ∧ RVs Tryz.prog a w [.t 4 (.string (bs r))] ∧ r.length ≤ LIMS
set_option maxHeartbeats 4000000 in
set_option maxRecDepth 100000 in
theorem qhu {u:World} {m0:Mem} {S:Segs} {w:World} (N:Nat) (vl_0:Value) (l_0:List (Token)) (hl_0:(pL 3 qbi) m0 [vl_0] l_0) (at_1:Int) (rat_1:InR .i64 at_1) {r:(List UInt8)} (hF:qgB N l_0 at_1 = some r) (hG:Glob u) (ok:Ok u m0 S w) :
  Calls Tryz.prog 58 [vl_0,Value.int .i64 at_1].toArray w fun e w'=>(e = .returned (.string (bs r)) ∧ Ok u m0 S w') ∧ r.length ≤ LIMS:=by
 have hb0:=ok.base
 have le_m0:=Mem.le.refl m0
 unfold qgB at hF
 have fin:∀ a w,qdN u m0 S r a w → bodyPost Tryz.prog Tryz.f58 (fun e w'=>(e = .returned (.string (bs r)) ∧ Ok u m0 S w') ∧ r.length ≤ LIMS) .ret a w:=by
  intro a w h
  obtain ⟨ok,hd,hrv,h0⟩:=h
  exact qaK [.t 4 (.string (bs r))] hd rfl hrv ⟨⟨rfl,ok⟩,h0⟩
 refine enter Tryz.func58 rfl rfl rfl fun a E=>sg<|lv E ok (qab rfl) fun a E=>wn<|wp_seq<|wp_seq ?_
 refine qae<|lv E ok (qaa rfl) fun a E=>lv E ok (qbV rfl rfl) fun a E=>lv E ok (qab rfl) fun a E=>wn<|wp_block ?_
 obtain ⟨o2,hL,hF⟩:=bnd hF
 refine qaR _ (fun (s:Int) a w=>Ok u m0 (S) w ∧ Env 27 a [(0,vl_0),(1,(Value.int .i64 s))] ∧ InR .i64 s) (fun (b:(Unit ⊕ ((List UInt8)))) e a w=>(Sum.elim (fun b39=>e = (.exit 0) ∧ Ok u m0 (S) w ∧ Env 27 a []) (fun b40=>e = .ret ∧ qdN u m0 S b40 a w)) b) ?_ ?_ N _ a w hL ⟨ok,E.keep [0,1],(InR.wrap _ _)⟩
 rotate_left
 ·intro e a w _ hO
  rcases o2 with o2 | o2
  rotate_left
  ·replace hF:=qba hF
   obtain ⟨rfl,hret⟩:=hO
   refine qap<|qan ?_
   obtain rfl:=sj hF
   exact fin _ _ hret
  replace hF:=qa9 hF
  obtain ⟨rfl,ok,E⟩:=hO
  refine qaT<|qad<|sg<|lv E ok (qab rfl) fun a E=>wn<|wp_ret ?_
  have hret:qdN u m0 S ([]) a w:=⟨ok,E.d,⟨rv_t E rfl,trivial⟩,(show ([]:List UInt8).length ≤ LIMS by decide)⟩
  obtain rfl:=sj hF
  exact fin _ _ hret
 rintro at_4 a w r ⟨ok,E,r5⟩ hF
 replace hF:qfM N l_0 at_4 = some r:=hF
 unfold qfM at hF
 refine wp_seq<|sg<|lv E ok (qaa rfl) fun a E=>lv E ok (qbg rfl rfl) fun a E=>wn<|c_if E rfl (fun hc6=>?_) (fun hc6=>?_)
 rotate_left
 ·replace hF:=qah hc6 hF
  refine wp_exit<|qaD ?_
  obtain rfl:=sj hF
  exact qaq (by nofun) (sl ⟨rfl,⟨ok,E.keep []⟩⟩)
 replace hF:=qai hc6 hF
 refine wp_skip<|qad<|wp_seq<|wp_block<|sg<|lv E ok (qaa rfl) fun a E=>lv E ok (qaa rfl) fun a E=>?_
 obtain ⟨x7,e8,hF⟩:=bnd hF
 obtain ⟨b9,o10,es11,hl12,rr13,at14,yy15⟩:=qaI qck hl_0 e8 (P:=Tryz.prog) (X:=.tmp 11) (I:=.tmp 12) (kd:=.i64) (qao E rfl) (qao E rfl)
 obtain ⟨rfl,l16,l17,r18⟩:=rr13
 refine lv E ok (yy15 _ _) fun a E=>lv E ok (qac qbT rfl) fun a E=>lv E ok (qaj qav rfl (qaf.ro (At.sub 0 1 at14))) fun a E=>wn<|wp_block<|sg ?_
 refine lv E ok (qa1 rfl rfl) fun a E=>lv E ok (qab rfl) fun a E=>wn<|c_if E rfl (fun hc19=>?_) (fun hc19=>?_)
 ·replace hF:=qai hc19 hF
  refine wp_skip<|qar<|qar<|qad<|qae<|lv E ok (qaa rfl) fun a E=>lv E ok (qbV rfl rfl) fun a E=>lv E ok (qab rfl) fun a E=>?_
  refine wpList_nil ?_
  obtain rfl:=sj hF
  exact qay ⟨ok,E.keep [0,1],(InR.wrap _ _)⟩
 replace hF:=qah hc19 hF
 refine sg<|lv E ok (qa1 rfl rfl) fun a E=>lv E ok (qab rfl) fun a E=>wn<|c_if E rfl (fun hc20=>?_) (fun hc20=>?_)
 rotate_left
 ·replace hF:=qah hc20 hF
  refine sg<|lv E ok (qab rfl) fun a E=>wn<|wp_ret<|qap<|qap ?_
  refine qan ?_
  have hret:qdN u m0 S ([]) a w:=⟨ok,E.d,⟨rv_t E rfl,trivial⟩,(show ([]:List UInt8).length ≤ LIMS by decide)⟩
  obtain rfl:=sj hF
  exact qaq (by nofun) (sr ⟨rfl,hret⟩)
 replace hF:=qai hc20 hF
 refine sg<|lv E ok (qaa rfl) fun a E=>lv E ok (qaa rfl) fun a E=>?_
 obtain ⟨x21,e22,hF⟩:=bnd hF
 obtain ⟨b23,o24,es25,hl26,rr27,at28,yy29⟩:=qaI qck hl_0 e22 (P:=Tryz.prog) (X:=.tmp 20) (I:=.tmp 21) (kd:=.i64) (qao E rfl) (qao E rfl)
 obtain ⟨rfl,l30,l31,r32⟩:=rr27
 refine lv E ok (yy29 _ _) fun a E=>lv E ok (qac qdv rfl) fun a E=>lv E ok (qaj qav rfl (qaf.ro (At.sub 1 1 at28))) fun a E=>?_
 obtain ⟨r33,e34,hF⟩:=bnd hF
 refine qaw E qqn rfl (qjH N x21.Text l31 ([47,35,42,32]) (show ([47,35,42,32]:List UInt8).length ≤ LIMS by decide) e34 hG ok) rfl rfl ?_
 rintro _ w ⟨⟨rfl,ok⟩,l35⟩
 refine ⟨_,rfl,fun a E=>?_⟩
 obtain ⟨r36,e37,hF⟩:=bnd hF
 refine qaw E qp8 rfl (qjk N r33 l35 ([32]) (show ([32]:List UInt8).length ≤ LIMS by decide) e37 hG ok) rfl rfl ?_
 rintro _ w ⟨⟨rfl,ok⟩,l38⟩
 refine ⟨_,rfl,fun a E=>?_⟩
 refine lv E ok (qab rfl) fun a E=>wn<|wp_ret<|qap<|qap<|qan ?_
 have hret:qdN u m0 S r36 a w:=⟨ok,E.d,⟨rv_t E rfl,trivial⟩,l38⟩
 obtain rfl:=sj hF
 exact qaq (by nofun) (sr ⟨rfl,hret⟩)
def qfl (u:World) (m0:Mem) (S:Segs) (r:Bool) (a:Act) (w:World):Prop :=
 Ok u m0 S w ∧ a.defers = [] ∧ RVs Tryz.prog a w [.t 2 (.bool r)]
set_option maxHeartbeats 4000000 in
set_option maxRecDepth 100000 in
theorem qis {u:World} {m0:Mem} {S:Segs} {w:World} (N:Nat) (s_0:List UInt8) (ls_0:s_0.length ≤ LIMS) {r:Bool} (hF:qha N s_0 = some r) (hG:Glob u) (ok:Ok u m0 S w) :
  Calls Tryz.prog 48 [Value.string (bs s_0)].toArray w fun e w'=>(e = .returned (.bool r) ∧ Ok u m0 S w'):=by
 have hb0:=ok.base
 have le_m0:=Mem.le.refl m0
 unfold qha at hF
 have fin:∀ a w,qfl u m0 S r a w → bodyPost Tryz.prog Tryz.f48 (fun e w'=>(e = .returned (.bool r) ∧ Ok u m0 S w')) .ret a w:=by
  intro a w h
  obtain ⟨ok,hd,hrv⟩:=h
  exact qaK [.t 2 (.bool r)] hd rfl hrv ⟨rfl,ok⟩
 refine enter Tryz.func48 rfl rfl rfl fun a E=>sg<|lv E ok (qab rfl) fun a E=>wn<|wp_seq<|wp_seq ?_
 refine qae<|lv E ok (qaa rfl) fun a E=>lv E ok (qaX Tryz.underlying9 rfl) fun a E=>lv E ok (qaa rfl) fun a E=>wn<|wp_block ?_
 obtain ⟨o2,hL,hF⟩:=bnd hF
 refine qaR _ (fun (s:Int) a w=>Ok u m0 (S) w ∧ Env 28 a [(0,(Value.string (bs s_0))),(5,(Value.int .i64 (s_0.length:Int))),(6,(Value.int .i64 s))] ∧ InR .i64 s) (fun (b:(Unit ⊕ Bool)) e a w=>(Sum.elim (fun b14=>e = (.exit 0) ∧ Ok u m0 (S) w ∧ Env 28 a [(0,(Value.string (bs s_0)))]) (fun b15=>e = .ret ∧ qfl u m0 S b15 a w)) b) ?_ ?_ N _ a w hL ⟨ok,E.keep [0,5,6],(show InR .i64 (0) by decide)⟩
 rotate_left
 ·intro e a w _ hO
  rcases o2 with o2 | o2
  rotate_left
  ·replace hF:=qba hF
   obtain ⟨rfl,hret⟩:=hO
   refine qap<|qan ?_
   obtain rfl:=sj hF
   exact fin _ _ hret
  replace hF:=qa9 hF
  obtain ⟨rfl,ok,E⟩:=hO
  refine qaT<|qad<|sg<|lv E ok (qaa rfl) fun a E=>lv E ok (qaX Tryz.underlying9 rfl) fun a E=>lv E ok (qbg rfl rfl) fun a E=>lv E ok (qaa rfl) fun a E=>?_
  refine qas (decide ((s_0.length:Int) ≥ 1)) (fun hc13=>?_) (fun hc13=>?_)
  ·replace hF:=qai hc13 hF
   replace E:=E.upd 23 hc13 rfl
   refine lv E ok (qaa rfl) fun a E=>lv E ok (qaX Tryz.underlying9 rfl) fun a E=>lv E ok (qct rfl rfl) fun a E=>lv E ok (qak rfl rfl) fun a E=>lv E ok (qab rfl) fun a E=>wn<|wp_ret ?_
   have hret:qfl u m0 S (decide ((s_0.length:Int) ≤ 16)) a w:=⟨ok,E.d,⟨rv_t E rfl,trivial⟩⟩
   obtain rfl:=sj hF
   exact fin _ _ hret
  replace hF:=qah hc13 hF
  replace E:=E.upd 23 hc13 rfl
  refine ls E fun a E=>ls E fun a E=>ls E fun a E=>lv E ok (qam rfl rfl) fun a E=>lv E ok (qab rfl) fun a E=>wn<|wp_ret ?_
  have hret:qfl u m0 S false a w:=⟨ok,E.d,⟨rv_t E rfl,trivial⟩⟩
  obtain rfl:=sj hF
  exact fin _ _ hret
 rintro x_4 a w r ⟨ok,E,r5⟩ hF
 replace hF:qhJ N s_0 x_4 = some r:=hF
 unfold qhJ at hF
 refine sg<|lv E ok (qaB rfl rfl) fun a E=>wn<|wp_seq<|c_if E rfl (fun hc6=>?_) (fun hc6=>?_)
 rotate_left
 ·replace hF:=qah hc6 hF
  refine wp_exit<|qaD ?_
  obtain rfl:=sj hF
  exact qaq (by nofun) (sl ⟨rfl,⟨ok,E.keep [0]⟩⟩)
 replace hF:=qai hc6 hF
 refine wp_skip<|qad<|wp_seq<|wp_block<|sg<|lv E ok (qaa rfl) fun a E=>lv E ok (qab rfl) fun a E=>?_
 refine wn<|sg<|lv E ok (qaa rfl) fun a E=>lv E ok (qaa rfl) fun a E=>?_
 obtain ⟨c7,e8,hF⟩:=bnd hF
 refine lv E ok (qa3 Tryz.underlying9 rfl rfl e8) fun a E=>lv E ok (qaB rfl rfl) fun a E=>lv E ok (qaa rfl) fun a E=>qas (decide ((c7.toNat:Int) < 97)) (fun hc9=>?_) (fun hc9=>?_)
 ·replace hF:=qai hc9 hF
  replace E:=E.upd 13 hc9 rfl
  refine ls E fun a E=>ls E fun a E=>ls E fun a E=>ls E fun a E=>lv E ok (qak rfl rfl) fun a E=>wn<|c_if E rfl (fun _=>?_) (fun h=>by cases h)
  refine sg<|lv E ok (qab rfl) fun a E=>wn<|wp_ret<|qap<|qan ?_
  have hret:qfl u m0 S false a w:=⟨ok,E.d,⟨rv_t E rfl,trivial⟩⟩
  obtain rfl:=sj hF
  exact qaq (by nofun) (sr ⟨rfl,hret⟩)
 replace hF:=qah hc9 hF
 replace E:=E.upd 13 hc9 rfl
 refine lv E ok (qaa rfl) fun a E=>lv E ok (qaa rfl) fun a E=>?_
 obtain ⟨c10,e11,hF⟩:=bnd hF
 refine lv E ok (qa3 Tryz.underlying9 rfl rfl e11) fun a E=>lv E ok (qb4 rfl rfl) fun a E=>lv E ok (qam rfl rfl) fun a E=>wn<|c_if E rfl (fun hc12=>?_) (fun hc12=>?_)
 rotate_left
 ·replace hF:=qah hc12 hF
  refine wp_skip<|qar<|qad<|qae<|lv E ok (qaC rfl rfl (InR.inc r5 (InR.len ls_0) hc6)) fun a E=>lv E ok (qaa rfl) fun a E=>wpList_nil ?_
  obtain rfl:=sj hF
  exact qay ⟨ok,E.keep [0,5,6],(InR.inc r5 (InR.len ls_0) hc6)⟩
 replace hF:=qai hc12 hF
 refine sg<|lv E ok (qab rfl) fun a E=>wn<|wp_ret<|qap<|qan ?_
 have hret:qfl u m0 S false a w:=⟨ok,E.d,⟨rv_t E rfl,trivial⟩⟩
 obtain rfl:=sj hF
 exact qaq (by nofun) (sr ⟨rfl,hret⟩)
def qfk (u:World) (m0:Mem) (S:Segs) (r:(List UInt8) × Bool) (a:Act) (w:World):Prop :=
 Ok u m0 S w ∧ a.defers = [] ∧ RVs Tryz.prog a w [.t 2 (.string (bs r.1)),.t 3 (.bool r.2)] ∧ r.1.length ≤ LIMS
set_option maxHeartbeats 4000000 in
set_option maxRecDepth 100000 in
theorem qj9 {u:World} {m0:Mem} {S:Segs} {w:World} (N:Nat) (vx_0:List Value) (x_0:Item) (hx_0:qbJ m0 vx_0 x_0) {r:(List UInt8) × Bool} (hF:qic N x_0 = some r) (hG:Glob u) (ok:Ok u m0 S w) :
  Calls Tryz.prog 95 [.agg vx_0.toArray].toArray w fun e w'=>(e = .returned (.tuple [(.string (bs r.1)),(.bool r.2)].toArray) ∧ Ok u m0 S w') ∧ r.1.length ≤ LIMS:=by
 obtain ⟨c2,rfl,l1,h3,r4,r5⟩:=hx_0
 have hb0:=ok.base
 have le_m0:=Mem.le.refl m0
 unfold qic at hF
 have fin:∀ a w,qfk u m0 S r a w → bodyPost Tryz.prog Tryz.f95 (fun e w'=>(e = .returned (.tuple [(.string (bs r.1)),(.bool r.2)].toArray) ∧ Ok u m0 S w') ∧ r.1.length ≤ LIMS) .ret a w:=by
  intro a w h
  obtain ⟨ok,hd,hrv,h0⟩:=h
  exact qaK [.t 2 (.string (bs r.1)),.t 3 (.bool r.2)] hd rfl hrv ⟨⟨rfl,ok⟩,h0⟩
 refine enter Tryz.func95 rfl rfl rfl fun a E=>sg<|qdF E ok rfl rfl rfl fun b6 a w E ok=>lv E ok (qab rfl) fun a E=>lv E ok (qab rfl) fun a E=>wn ?_
 refine wp_seq<|sg<|lv E ok (qac qdf rfl) fun a E=>lv E ok (qaj qa0 rfl (qaf.own 0 rfl rfl)) fun a E=>lv E ok (qac qkl rfl) fun a E=>lv E ok (qaj qa0 rfl (qaf.own 0 rfl rfl)) fun a E=>lv E ok (qhZ (ps:=[(0,.tmp 5),(1,.tmp 7)]) (qs:=[(0,[(Value.int .i64 x_0.Least)]),(1,[(Value.int .i64 x_0.Most)])]) (cs:=[(Value.int .i64 x_0.Least),(Value.int .i64 x_0.Most)]) qhH qiK rfl ⟨rfl,rfl,rfl,⟨rfl,rfl,rfl,trivial⟩⟩ rfl) fun a E=>?_
 refine wn<|wp_block<|sg<|lv E ok (qhZ (ps:=[(0,.const (Value.int .i64 1)),(1,.const (Value.int .i64 1))]) (qs:=[(0,[(Value.int .i64 1)]),(1,[(Value.int .i64 1)])]) (cs:=[(Value.int .i64 1),(Value.int .i64 1)]) qhH qiK rfl ⟨rfl,rfl,rfl,⟨rfl,rfl,rfl,trivial⟩⟩ rfl) fun a E=>lv E ok (qku qjY (qia (is:=[0,1]) Tryz.underlying221 qd2 (by kernel_rfl) rfl (qg6 (qcd qa0 rfl) (qcd qa0 rfl) (qgk Tryz.underlying3) (qh9 (qcd qa0 rfl) (qcd qa0 rfl) (qgk Tryz.underlying3)))) rfl rfl) fun a E=>lv E ok (qab rfl) fun a E=>?_
 refine wn<|c_if E rfl (fun hc7=>?_) (fun hc7=>?_)
 ·replace hF:=qai hc7 hF
  refine sg<|lv E ok (qab rfl) fun a E=>lv E ok (qab rfl) fun a E=>wn<|wp_ret<|qap ?_
  refine qan ?_
  have hret:qfk u m0 S ([],true) a w:=⟨ok.drop,E.d,⟨rv_t E rfl,rv_t E rfl,trivial⟩,(show ([]:List UInt8).length ≤ LIMS by decide)⟩
  obtain rfl:=sj hF
  exact fin _ _ hret
 replace hF:=qah hc7 hF
 refine sg<|lv E ok (qhZ (ps:=[(0,.const (Value.int .i64 0)),(1,.const (Value.int .i64 1))]) (qs:=[(0,[(Value.int .i64 0)]),(1,[(Value.int .i64 1)])]) (cs:=[(Value.int .i64 0),(Value.int .i64 1)]) qhH qiK rfl ⟨rfl,rfl,rfl,⟨rfl,rfl,rfl,trivial⟩⟩ rfl) fun a E=>lv E ok (qku qjY (qia (is:=[0,1]) Tryz.underlying221 qd2 (by kernel_rfl) rfl (qg6 (qcd qa0 rfl) (qcd qa0 rfl) (qgk Tryz.underlying3) (qh9 (qcd qa0 rfl) (qcd qa0 rfl) (qgk Tryz.underlying3)))) rfl rfl) fun a E=>lv E ok (qab rfl) fun a E=>wn<|c_if E rfl (fun hc8=>?_) (fun hc8=>?_)
 ·replace hF:=qai hc8 hF
  refine sg<|lv E ok (qab rfl) fun a E=>lv E ok (qab rfl) fun a E=>wn<|wp_ret<|qap ?_
  refine qan ?_
  have hret:qfk u m0 S ([63],true) a w:=⟨ok.drop,E.d,⟨rv_t E rfl,rv_t E rfl,trivial⟩,(show ([63]:List UInt8).length ≤ LIMS by decide)⟩
  obtain rfl:=sj hF
  exact fin _ _ hret
 replace hF:=qah hc8 hF
 refine sg<|lv E ok (qhZ (ps:=[(0,.const (Value.int .i64 0)),(1,.const (Value.int .i64 (-1)))]) (qs:=[(0,[(Value.int .i64 0)]),(1,[(Value.int .i64 (-1))])]) (cs:=[(Value.int .i64 0),(Value.int .i64 (-1))]) qhH qiK rfl ⟨rfl,rfl,rfl,⟨rfl,rfl,rfl,trivial⟩⟩ rfl) fun a E=>lv E ok (qku qjY (qia (is:=[0,1]) Tryz.underlying221 qd2 (by kernel_rfl) rfl (qg6 (qcd qa0 rfl) (qcd qa0 rfl) (qgk Tryz.underlying3) (qh9 (qcd qa0 rfl) (qcd qa0 rfl) (qgk Tryz.underlying3)))) rfl rfl) fun a E=>lv E ok (qab rfl) fun a E=>wn<|c_if E rfl (fun hc9=>?_) (fun hc9=>?_)
 ·replace hF:=qai hc9 hF
  refine sg<|lv E ok (qab rfl) fun a E=>lv E ok (qab rfl) fun a E=>wn<|wp_ret<|qap ?_
  refine qan ?_
  have hret:qfk u m0 S ([42],true) a w:=⟨ok.drop,E.d,⟨rv_t E rfl,rv_t E rfl,trivial⟩,(show ([42]:List UInt8).length ≤ LIMS by decide)⟩
  obtain rfl:=sj hF
  exact fin _ _ hret
 replace hF:=qah hc9 hF
 refine sg<|lv E ok (qhZ (ps:=[(0,.const (Value.int .i64 1)),(1,.const (Value.int .i64 (-1)))]) (qs:=[(0,[(Value.int .i64 1)]),(1,[(Value.int .i64 (-1))])]) (cs:=[(Value.int .i64 1),(Value.int .i64 (-1))]) qhH qiK rfl ⟨rfl,rfl,rfl,⟨rfl,rfl,rfl,trivial⟩⟩ rfl) fun a E=>lv E ok (qku qjY (qia (is:=[0,1]) Tryz.underlying221 qd2 (by kernel_rfl) rfl (qg6 (qcd qa0 rfl) (qcd qa0 rfl) (qgk Tryz.underlying3) (qh9 (qcd qa0 rfl) (qcd qa0 rfl) (qgk Tryz.underlying3)))) rfl rfl) fun a E=>lv E ok (qab rfl) fun a E=>wn<|c_if E rfl (fun hc10=>?_) (fun hc10=>?_)
 ·replace hF:=qai hc10 hF
  refine sg<|lv E ok (qab rfl) fun a E=>lv E ok (qab rfl) fun a E=>wn<|wp_ret<|qap ?_
  refine qan ?_
  have hret:qfk u m0 S ([43],true) a w:=⟨ok.drop,E.d,⟨rv_t E rfl,rv_t E rfl,trivial⟩,(show ([43]:List UInt8).length ≤ LIMS by decide)⟩
  obtain rfl:=sj hF
  exact fin _ _ hret
 replace hF:=qah hc10 hF
 refine wp_skip<|qar<|qad<|sg<|lv E ok (qab rfl) fun a E=>lv E ok (qab rfl) fun a E=>wpList_nil ?_
 refine qad<|wp_ret ?_
 have hret:qfk u m0 S ([],false) a w:=⟨ok.drop,E.d,⟨rv_t E rfl,rv_t E rfl,trivial⟩,(show ([]:List UInt8).length ≤ LIMS by decide)⟩
 obtain rfl:=sj hF
 exact fin _ _ hret
def qh5 (u:World) (m0:Mem) (S:Segs) (r:Bool) (a:Act) (w:World):Prop :=
 Ok u m0 S w ∧ a.defers = [] ∧ RVs Tryz.prog a w [.t 2 (.bool r)]
set_option maxHeartbeats 4000000 in
set_option maxRecDepth 100000 in
theorem qkr {u:World} {m0:Mem} {S:Segs} {w:World} (N:Nat) (vr_0:List Value) (r_0:Range) (hr_0:qbM m0 vr_0 r_0) {r:Bool} (hF:qhj N r_0 = some r) (hG:Glob u) (ok:Ok u m0 S w) :
  Calls Tryz.prog 97 [.agg vr_0.toArray].toArray w fun e w'=>(e = .returned (.bool r) ∧ Ok u m0 S w'):=by
 obtain ⟨rfl,r1,r2⟩:=hr_0
 have hb0:=ok.base
 have le_m0:=Mem.le.refl m0
 unfold qhj at hF
 have fin:∀ a w,qh5 u m0 S r a w → bodyPost Tryz.prog Tryz.f97 (fun e w'=>(e = .returned (.bool r) ∧ Ok u m0 S w')) .ret a w:=by
  intro a w h
  obtain ⟨ok,hd,hrv⟩:=h
  exact qaK [.t 2 (.bool r)] hd rfl hrv ⟨rfl,ok⟩
 refine enter Tryz.func97 rfl rfl rfl fun a E=>sg<|qdF E ok rfl rfl rfl fun b3 a w E ok=>lv E ok (qab rfl) fun a E=>wn<|wp_seq ?_
 refine qae<|lv E ok (qac qi5 rfl) fun a E=>lv E ok (qaj qex rfl (qaf.own 0 rfl rfl)) fun a E=>lv E ok (qac qi7 rfl) fun a E=>lv E ok (qaj qex rfl (qaf.own 0 rfl rfl)) fun a E=>lv E ok (qb4 rfl rfl) fun a E=>lv E ok (qab rfl) fun a E=>wpList_nil ?_
 refine qad<|wp_ret ?_
 have hret:qh5 u m0 S (decide (r_0.From > r_0.To)) a w:=⟨ok.drop,E.d,⟨rv_t E rfl,trivial⟩⟩
 obtain rfl:=sj hF
 exact fin _ _ hret
def qbD (u:World) (m0:Mem) (S:Segs) (r:Int) (a:Act) (w:World):Prop :=
 Ok u m0 S w ∧ a.defers = [] ∧ RVs Tryz.prog a w [.t 4 (.int .i64 r)] ∧ InR .i64 r
set_option maxHeartbeats 4000000 in
set_option maxRecDepth 100000 in
theorem qeu {u:World} {m0:Mem} {S:Segs} {w:World} (N:Nat) (vs_0:Value) (s_0:List (Range)) (hs_0:(pL 2 qbM) m0 [vs_0] s_0) {r:Int} (hF:qce N s_0 = some r) (hG:Glob u) (ok:Ok u m0 S w) :
  Calls Tryz.prog 122 [vs_0,.func (.func 97) #[] #[]].toArray w fun e w'=>(e = .returned (.int .i64 r) ∧ Ok u m0 S w') ∧ InR .i64 r:=by
 have hb0:=ok.base
 have le_m0:=Mem.le.refl m0
 unfold qce at hF
 have fin:∀ a w,qbD u m0 S r a w → bodyPost Tryz.prog Tryz.f122 (fun e w'=>(e = .returned (.int .i64 r) ∧ Ok u m0 S w') ∧ InR .i64 r) .ret a w:=by
  intro a w h
  obtain ⟨ok,hd,hrv,h0⟩:=h
  exact qaK [.t 4 (.int .i64 r)] hd rfl hrv ⟨⟨rfl,ok⟩,h0⟩
 refine enter Tryz.func122 rfl rfl rfl fun a E=>sg<|lv E ok (qab rfl) fun a E=>wn<|wp_seq<|wp_seq ?_
 refine qae<|lv E ok (qaa rfl) fun a E=>lv E ok (qaG qfR hs_0 rfl) fun a E=>lv E ok (qaa rfl) fun a E=>wn<|wp_block ?_
 obtain ⟨o2,hL,hF⟩:=bnd hF
 refine qaR _ (fun (s:Int) a w=>Ok u m0 (S) w ∧ Env 19 a [(0,vs_0),(1,(Value.func (.func 97) #[] #[])),(7,(Value.int .i64 (s_0.length:Int))),(8,(Value.int .i64 s))] ∧ InR .i64 s) (fun (b:(Unit ⊕ Int)) e a w=>(Sum.elim (fun b21=>e = (.exit 0) ∧ Ok u m0 (S) w ∧ Env 19 a []) (fun b22=>e = .ret ∧ qbD u m0 S b22 a w)) b) ?_ ?_ N _ a w hL ⟨ok,E.keep [0,1,7,8],(show InR .i64 (0) by decide)⟩
 rotate_left
 ·intro e a w _ hO
  rcases o2 with o2 | o2
  rotate_left
  ·replace hF:=qba hF
   obtain ⟨rfl,hret⟩:=hO
   refine qap<|qan ?_
   obtain rfl:=sj hF
   exact fin _ _ hret
  replace hF:=qa9 hF
  obtain ⟨rfl,ok,E⟩:=hO
  refine qaT<|qad<|sg<|lv E ok (qab rfl) fun a E=>wn<|wp_ret ?_
  have hret:qbD u m0 S (-1) a w:=⟨ok,E.d,⟨rv_t E rfl,trivial⟩,(show InR .i64 (-1) by decide)⟩
  obtain rfl:=sj hF
  exact fin _ _ hret
 rintro x_4 a w r ⟨ok,E,r5⟩ hF
 replace hF:qb5 N s_0 x_4 = some r:=hF
 unfold qb5 at hF
 refine sg<|lv E ok (qaB rfl rfl) fun a E=>wn<|wp_seq<|c_if E rfl (fun hc6=>?_) (fun hc6=>?_)
 rotate_left
 ·replace hF:=qah hc6 hF
  refine wp_exit<|qaD ?_
  obtain rfl:=sj hF
  exact qaq (by nofun) (sl ⟨rfl,⟨ok,E.keep []⟩⟩)
 replace hF:=qai hc6 hF
 refine wp_skip<|qad<|wp_seq<|wp_block<|sg<|lv E ok (qaa rfl) fun a E=>lv E ok (qab rfl) fun a E=>?_
 refine wn<|sg<|lv E ok (qaa rfl) fun a E=>lv E ok (qaa rfl) fun a E=>lv E ok (qaa rfl) fun a E=>?_
 obtain ⟨x7,e8,hF⟩:=bnd hF
 obtain ⟨b9,o10,es11,hl12,rr13,at14,yy15⟩:=qaI qfR hs_0 e8 (P:=Tryz.prog) (X:=.tmp 12) (I:=.tmp 13) (kd:=.i64) (qao E rfl) (qao E rfl)
 obtain ⟨rfl,r16,r17⟩:=rr13
 refine lv E ok (yy15 _ _) fun a E=>lv E ok (qax (cs:=[(Value.int .u8 x7.From),(Value.int .u8 x7.To)]) qkT rfl rfl (qaf.ro at14)) fun a E=>?_
 obtain ⟨r18,e19,hF⟩:=bnd hF
 refine qmB E rfl qqD rfl (qkr N _ x7 ⟨rfl,r16,r17⟩ e19 hG ok) rfl rfl ?_
 rintro _ w ⟨rfl,ok⟩
 refine ⟨_,rfl,fun a E=>?_⟩
 refine wn<|c_if E rfl (fun hc20=>?_) (fun hc20=>?_)
 rotate_left
 ·replace hF:=qah hc20 hF
  refine wp_skip<|qar<|qad<|qae<|lv E ok (qaC rfl rfl (InR.inc r5 (qau hs_0) hc6)) fun a E=>lv E ok (qaa rfl) fun a E=>wpList_nil ?_
  obtain rfl:=sj hF
  exact qay ⟨ok,E.keep [0,1,7,8],(InR.inc r5 (qau hs_0) hc6)⟩
 replace hF:=qai hc20 hF
 refine sg<|lv E ok (qaa rfl) fun a E=>lv E ok (qab rfl) fun a E=>wn<|wp_ret<|qap ?_
 refine qan ?_
 have hret:qbD u m0 S x_4 a w:=⟨ok,E.d,⟨rv_t E rfl,trivial⟩,r5⟩
 obtain rfl:=sj hF
 exact qaq (by nofun) (sr ⟨rfl,hret⟩)
def qcy (u:World) (m0:Mem) (S:Segs) (r:Bool) (a:Act) (w:World):Prop :=
 Ok u m0 S w ∧ a.defers = [] ∧ RVs Tryz.prog a w [.t 4 (.bool r)]
set_option maxHeartbeats 4000000 in
set_option maxRecDepth 100000 in
theorem qd4 {u:World} {m0:Mem} {S:Segs} {w:World} (N:Nat) (vs_0:Value) (s_0:List (Range)) (hs_0:(pL 2 qbM) m0 [vs_0] s_0) {r:Bool} (hF:qb6 N s_0 = some r) (hG:Glob u) (ok:Ok u m0 S w) :
  Calls Tryz.prog 96 [vs_0,.func (.func 97) #[] #[]].toArray w fun e w'=>(e = .returned (.bool r) ∧ Ok u m0 S w'):=by
 have hb0:=ok.base
 have le_m0:=Mem.le.refl m0
 unfold qb6 at hF
 have fin:∀ a w,qcy u m0 S r a w → bodyPost Tryz.prog Tryz.f96 (fun e w'=>(e = .returned (.bool r) ∧ Ok u m0 S w')) .ret a w:=by
  intro a w h
  obtain ⟨ok,hd,hrv⟩:=h
  exact qaK [.t 4 (.bool r)] hd rfl hrv ⟨rfl,ok⟩
 refine enter Tryz.func96 rfl rfl rfl fun a E=>sg<|lv E ok (qab rfl) fun a E=>wn<|sg ?_
 refine lv E ok (qaa rfl) fun a E=>lv E ok (qaa rfl) fun a E=>?_
 obtain ⟨r1,e2,hF⟩:=bnd hF
 refine qaw E qnF rfl (qeu N _ s_0 hs_0 e2 hG ok) rfl rfl ?_
 rintro _ w ⟨⟨rfl,ok⟩,r3⟩
 refine ⟨_,rfl,fun a E=>?_⟩
 refine lv E ok (qbg rfl rfl) fun a E=>lv E ok (qab rfl) fun a E=>wn<|wp_ret ?_
 have hret:qcy u m0 S (decide (r1 ≥ 0)) a w:=⟨ok,E.d,⟨rv_t E rfl,trivial⟩⟩
 obtain rfl:=sj hF
 exact fin _ _ hret
def qdj (u:World) (m0:Mem) (S:Segs) (r:Bool) (a:Act) (w:World):Prop :=
 Ok u m0 S w ∧ a.defers = [] ∧ RVs Tryz.prog a w [.t 2 (.bool r)]
set_option maxHeartbeats 4000000 in
set_option maxRecDepth 100000 in
theorem qlr {u:World} {m0:Mem} {S:Segs} {w:World} (N:Nat) (vx_0:List Value) (x_0:Item) (hx_0:qbJ m0 vx_0 x_0) {r:Bool} (hF:qin N x_0 = some r) (hG:Glob u) (ok:Ok u m0 S w) :
  Calls Tryz.prog 79 [.agg vx_0.toArray].toArray w fun e w'=>(e = .returned (.bool r) ∧ Ok u m0 S w'):=by
 obtain ⟨c2,rfl,l1,h3,r4,r5⟩:=hx_0
 have hb0:=ok.base
 have le_m0:=Mem.le.refl m0
 unfold qin at hF
 have fin:∀ a w,qdj u m0 S r a w → bodyPost Tryz.prog Tryz.f79 (fun e w'=>(e = .returned (.bool r) ∧ Ok u m0 S w')) .ret a w:=by
  intro a w h
  obtain ⟨ok,hd,hrv⟩:=h
  exact qaK [.t 2 (.bool r)] hd rfl hrv ⟨rfl,ok⟩
 refine enter Tryz.func79 rfl rfl rfl fun a E=>sg<|qdF E ok rfl rfl rfl fun b6 a w E ok=>lv E ok (qab rfl) fun a E=>wn<|wp_seq ?_
 refine sg<|lv E ok (qax (cs:=[(Value.string (bs x_0.Text)),c2,(Value.bool x_0.Not),(Value.int .i64 x_0.Least),(Value.int .i64 x_0.Most)]) qeL rfl rfl (qaf.own 0 rfl rfl)) fun a E=>?_
 obtain ⟨r7,e8,hF⟩:=bnd hF
 refine qaw E qon rfl (qj9 N _ x_0 ⟨_,rfl,l1,h3,r4,r5⟩ e8 hG ok) rfl rfl ?_
 rintro _ w ⟨⟨rfl,ok⟩,l9⟩
 refine ⟨_,rfl,fun a E=>?_⟩
 refine lv E ok (qaa rfl) fun a E=>lv E ok (qaA rfl rfl) fun a E=>lv E ok (qaA rfl rfl) fun a E=>lv E ok (qab rfl) fun a E=>lv E ok (qab rfl) fun a E=>wn<|wp_seq ?_
 refine qae<|lv E ok (qaa rfl) fun a E=>lv E ok (qbP rfl) fun a E=>wn<|c_if E rfl (fun hc10=>?_) (fun hc10=>?_)
 ·replace hF:=qai hc10 hF
  refine sg<|lv E ok (qab rfl) fun a E=>wn<|wp_ret<|qan ?_
  have hret:qdj u m0 S false a w:=⟨ok.drop,E.d,⟨rv_t E rfl,trivial⟩⟩
  obtain rfl:=sj hF
  exact fin _ _ hret
 replace hF:=qah hc10 hF
 refine wp_skip<|qad<|wp_seq<|sg<|lv E ok (qac qcG rfl) fun a E=>lv E ok (qaj qav rfl (qaf.own 0 rfl rfl)) fun a E=>lv E ok (qbQ rfl rfl) fun a E=>?_
 refine wn<|c_if E rfl (fun hc11=>?_) (fun hc11=>?_)
 ·replace hF:=qai hc11 hF
  refine sg<|lv E ok (qac qcG rfl) fun a E=>lv E ok (qaj qav rfl (qaf.own 0 rfl rfl)) fun a E=>lv E ok (qaX Tryz.underlying9 rfl) fun a E=>lv E ok (qct rfl rfl) fun a E=>lv E ok (qaa rfl) fun a E=>qas (decide ((x_0.Text.length:Int) ≤ 40)) (fun hc12=>?_) (fun hc12=>?_)
  rotate_left
  ·replace hF:=qah hc12 hF
   replace E:=E.upd 19 hc12 rfl
   refine ls E fun a E=>ls E fun a E=>ls E fun a E=>ls E fun a E=>lv E ok (qam rfl rfl) fun a E=>lv E ok (qaa rfl) fun a E=>ls E fun a E=>ls E fun a E=>?_
   refine ls E fun a E=>lv E ok (qam rfl rfl) fun a E=>lv E ok (qab rfl) fun a E=>wn<|wp_ret<|qan ?_
   have hret:qdj u m0 S false a w:=⟨ok.drop,E.d,⟨rv_t E rfl,trivial⟩⟩
   obtain rfl:=sj hF
   exact fin _ _ hret
  replace hF:=qai hc12 hF
  replace E:=E.upd 19 hc12 rfl
  refine lv E ok (qac qfJ rfl) fun a E=>lv E ok (qaj qgZ rfl (qaf.own 0 rfl rfl)) fun a E=>lv E ok (qaG qfR h3 rfl) fun a E=>lv E ok (qbn rfl rfl) fun a E=>lv E ok (qak rfl rfl) fun a E=>lv E ok (qaa rfl) fun a E=>qas ((x_0.Ranges.length:Int) == 0) (fun hc13=>?_) (fun hc13=>?_)
  ·replace hF:=qai hc13 hF
   replace E:=E.upd 25 hc13 rfl
   refine lv E ok (qac qkj rfl) fun a E=>lv E ok (qaj qgz rfl (qaf.own 0 rfl rfl)) fun a E=>lv E ok (qbP rfl) fun a E=>lv E ok (qak rfl rfl) fun a E=>lv E ok (qab rfl) fun a E=>wn<|wp_ret ?_
   refine qan ?_
   have hret:qdj u m0 S (!x_0.Not) a w:=⟨ok.drop,E.d,⟨rv_t E rfl,trivial⟩⟩
   obtain rfl:=sj hF
   exact fin _ _ hret
  replace hF:=qah hc13 hF
  replace E:=E.upd 25 hc13 rfl
  refine ls E fun a E=>ls E fun a E=>ls E fun a E=>lv E ok (qam rfl rfl) fun a E=>lv E ok (qab rfl) fun a E=>wn<|wp_ret ?_
  refine qan ?_
  have hret:qdj u m0 S false a w:=⟨ok.drop,E.d,⟨rv_t E rfl,trivial⟩⟩
  obtain rfl:=sj hF
  exact fin _ _ hret
 replace hF:=qah hc11 hF
 refine wp_skip<|qad<|sg<|lv E ok (qac qfJ rfl) fun a E=>lv E ok (qaj qgZ rfl (qaf.own 0 rfl rfl)) fun a E=>lv E ok (qaG qfR h3 rfl) fun a E=>lv E ok (qbg rfl rfl) fun a E=>?_
 refine lv E ok (qaa rfl) fun a E=>qas (decide ((x_0.Ranges.length:Int) ≥ 1)) (fun hc14=>?_) (fun hc14=>?_)
 rotate_left
 ·replace hF:=qah hc14 hF
  replace E:=E.upd 34 hc14 rfl
  refine ls E fun a E=>ls E fun a E=>ls E fun a E=>ls E fun a E=>lv E ok (qam rfl rfl) fun a E=>lv E ok (qaa rfl) fun a E=>ls E fun a E=>ls E fun a E=>?_
  refine ls E fun a E=>ls E fun a E=>lv E ok (qam rfl rfl) fun a E=>lv E ok (qab rfl) fun a E=>wn<|wp_ret ?_
  have hret:qdj u m0 S false a w:=⟨ok.drop,E.d,⟨rv_t E rfl,trivial⟩⟩
  obtain rfl:=sj hF
  exact fin _ _ hret
 replace hF:=qai hc14 hF
 replace E:=E.upd 34 hc14 rfl
 refine lv E ok (qac qfJ rfl) fun a E=>lv E ok (qaj qgZ rfl (qaf.own 0 rfl rfl)) fun a E=>lv E ok (qaG qfR h3 rfl) fun a E=>lv E ok (qct rfl rfl) fun a E=>lv E ok (qak rfl rfl) fun a E=>lv E ok (qaa rfl) fun a E=>qas (decide ((x_0.Ranges.length:Int) ≤ 20)) (fun hc15=>?_) (fun hc15=>?_)
 rotate_left
 ·replace hF:=qah hc15 hF
  replace E:=E.upd 40 hc15 rfl
  refine ls E fun a E=>ls E fun a E=>ls E fun a E=>ls E fun a E=>lv E ok (qam rfl rfl) fun a E=>lv E ok (qab rfl) fun a E=>wn ?_
  refine wp_ret ?_
  have hret:qdj u m0 S false a w:=⟨ok.drop,E.d,⟨rv_t E rfl,trivial⟩⟩
  obtain rfl:=sj hF
  exact fin _ _ hret
 replace hF:=qai hc15 hF
 replace E:=E.upd 40 hc15 rfl
 refine lv E ok (qac qfJ rfl) fun a E=>lv E ok (qaj qgZ rfl (qaf.own 0 rfl rfl)) fun a E=>?_
 obtain ⟨r16,e17,hF⟩:=bnd hF
 refine qaw E qor rfl (qd4 N _ x_0.Ranges h3 e17 hG ok) rfl rfl ?_
 rintro _ w ⟨rfl,ok⟩
 refine ⟨_,rfl,fun a E=>?_⟩
 refine lv E ok (qbP rfl) fun a E=>lv E ok (qak rfl rfl) fun a E=>lv E ok (qab rfl) fun a E=>wn<|wp_ret ?_
 have hret:qdj u m0 S (!r16) a w:=⟨ok.drop,E.d,⟨rv_t E rfl,trivial⟩⟩
 obtain rfl:=sj hF
 exact fin _ _ hret
def qiG (u:World) (m0:Mem) (S:Segs) (r:Bool) (a:Act) (w:World):Prop :=
 Ok u m0 S w ∧ a.defers = [] ∧ RVs Tryz.prog a w [.t 2 (.bool r)]
set_option maxHeartbeats 4000000 in
set_option maxRecDepth 100000 in
theorem qkS {u:World} {m0:Mem} {S:Segs} {w:World} (N:Nat) (vx_0:List Value) (x_0:Item) (hx_0:qbJ m0 vx_0 x_0) {r:Bool} (hF:qhK N x_0 = some r) (hG:Glob u) (ok:Ok u m0 S w) :
  Calls Tryz.prog 78 [.agg vx_0.toArray].toArray w fun e w'=>(e = .returned (.bool r) ∧ Ok u m0 S w'):=by
 obtain ⟨c2,rfl,l1,h3,r4,r5⟩:=hx_0
 have hb0:=ok.base
 have le_m0:=Mem.le.refl m0
 unfold qhK at hF
 have fin:∀ a w,qiG u m0 S r a w → bodyPost Tryz.prog Tryz.f78 (fun e w'=>(e = .returned (.bool r) ∧ Ok u m0 S w')) .ret a w:=by
  intro a w h
  obtain ⟨ok,hd,hrv⟩:=h
  exact qaK [.t 2 (.bool r)] hd rfl hrv ⟨rfl,ok⟩
 refine enter Tryz.func78 rfl rfl rfl fun a E=>sg<|qdF E ok rfl rfl rfl fun b6 a w E ok=>lv E ok (qab rfl) fun a E=>wn<|wp_seq ?_
 refine qae<|lv E ok (qax (cs:=[(Value.string (bs x_0.Text)),c2,(Value.bool x_0.Not),(Value.int .i64 x_0.Least),(Value.int .i64 x_0.Most)]) qeL rfl rfl (qaf.own 0 rfl rfl)) fun a E=>?_
 obtain ⟨r7,e8,hF⟩:=bnd hF
 refine qaw E qqA rfl (qlr N _ x_0 ⟨_,rfl,l1,h3,r4,r5⟩ e8 hG ok) rfl rfl ?_
 rintro _ w ⟨rfl,ok⟩
 refine ⟨_,rfl,fun a E=>?_⟩
 refine lv E ok (qbP rfl) fun a E=>lv E ok (qab rfl) fun a E=>wn<|wp_ret ?_
 have hret:qiG u m0 S (!r7) a w:=⟨ok.drop,E.d,⟨rv_t E rfl,trivial⟩⟩
 obtain rfl:=sj hF
 exact fin _ _ hret
def qbK (u:World) (m0:Mem) (S:Segs) (r:Int) (a:Act) (w:World):Prop :=
 Ok u m0 S w ∧ a.defers = [] ∧ RVs Tryz.prog a w [.t 4 (.int .i64 r)] ∧ InR .i64 r
set_option maxHeartbeats 4000000 in
set_option maxRecDepth 100000 in
theorem qeI {u:World} {m0:Mem} {S:Segs} {w:World} (N:Nat) (vs_0:Value) (s_0:List (Item)) (hs_0:(pL 5 qbJ) m0 [vs_0] s_0) {r:Int} (hF:qcl N s_0 = some r) (hG:Glob u) (ok:Ok u m0 S w) :
  Calls Tryz.prog 94 [vs_0,.func (.func 78) #[] #[]].toArray w fun e w'=>(e = .returned (.int .i64 r) ∧ Ok u m0 S w') ∧ InR .i64 r:=by
 have hb0:=ok.base
 have le_m0:=Mem.le.refl m0
 unfold qcl at hF
 have fin:∀ a w,qbK u m0 S r a w → bodyPost Tryz.prog Tryz.f94 (fun e w'=>(e = .returned (.int .i64 r) ∧ Ok u m0 S w') ∧ InR .i64 r) .ret a w:=by
  intro a w h
  obtain ⟨ok,hd,hrv,h0⟩:=h
  exact qaK [.t 4 (.int .i64 r)] hd rfl hrv ⟨⟨rfl,ok⟩,h0⟩
 refine enter Tryz.func94 rfl rfl rfl fun a E=>sg<|lv E ok (qab rfl) fun a E=>wn<|wp_seq<|wp_seq ?_
 refine qae<|lv E ok (qaa rfl) fun a E=>lv E ok (qaG qdZ hs_0 rfl) fun a E=>lv E ok (qaa rfl) fun a E=>wn<|wp_block ?_
 obtain ⟨o2,hL,hF⟩:=bnd hF
 refine qaR _ (fun (s:Int) a w=>Ok u m0 (S) w ∧ Env 19 a [(0,vs_0),(1,(Value.func (.func 78) #[] #[])),(7,(Value.int .i64 (s_0.length:Int))),(8,(Value.int .i64 s))] ∧ InR .i64 s) (fun (b:(Unit ⊕ Int)) e a w=>(Sum.elim (fun b24=>e = (.exit 0) ∧ Ok u m0 (S) w ∧ Env 19 a []) (fun b25=>e = .ret ∧ qbK u m0 S b25 a w)) b) ?_ ?_ N _ a w hL ⟨ok,E.keep [0,1,7,8],(show InR .i64 (0) by decide)⟩
 rotate_left
 ·intro e a w _ hO
  rcases o2 with o2 | o2
  rotate_left
  ·replace hF:=qba hF
   obtain ⟨rfl,hret⟩:=hO
   refine qap<|qan ?_
   obtain rfl:=sj hF
   exact fin _ _ hret
  replace hF:=qa9 hF
  obtain ⟨rfl,ok,E⟩:=hO
  refine qaT<|qad<|sg<|lv E ok (qab rfl) fun a E=>wn<|wp_ret ?_
  have hret:qbK u m0 S (-1) a w:=⟨ok,E.d,⟨rv_t E rfl,trivial⟩,(show InR .i64 (-1) by decide)⟩
  obtain rfl:=sj hF
  exact fin _ _ hret
 rintro x_4 a w r ⟨ok,E,r5⟩ hF
 replace hF:qca N s_0 x_4 = some r:=hF
 unfold qca at hF
 refine sg<|lv E ok (qaB rfl rfl) fun a E=>wn<|wp_seq<|c_if E rfl (fun hc6=>?_) (fun hc6=>?_)
 rotate_left
 ·replace hF:=qah hc6 hF
  refine wp_exit<|qaD ?_
  obtain rfl:=sj hF
  exact qaq (by nofun) (sl ⟨rfl,⟨ok,E.keep []⟩⟩)
 replace hF:=qai hc6 hF
 refine wp_skip<|qad<|wp_seq<|wp_block<|sg<|lv E ok (qaa rfl) fun a E=>lv E ok (qab rfl) fun a E=>?_
 refine wn<|sg<|lv E ok (qaa rfl) fun a E=>lv E ok (qaa rfl) fun a E=>lv E ok (qaa rfl) fun a E=>?_
 obtain ⟨x7,e8,hF⟩:=bnd hF
 obtain ⟨b9,o10,es11,hl12,rr13,at14,yy15⟩:=qaI qdZ hs_0 e8 (P:=Tryz.prog) (X:=.tmp 12) (I:=.tmp 13) (kd:=.i64) (qao E rfl) (qao E rfl)
 obtain ⟨c17,rfl,l16,h18,r19,r20⟩:=rr13
 refine lv E ok (yy15 _ _) fun a E=>lv E ok (qax (cs:=[(Value.string (bs x7.Text)),c17,(Value.bool x7.Not),(Value.int .i64 x7.Least),(Value.int .i64 x7.Most)]) qeL rfl rfl (qaf.ro at14)) fun a E=>?_
 obtain ⟨r21,e22,hF⟩:=bnd hF
 refine qmB E rfl qql rfl (qkS N _ x7 ⟨_,rfl,l16,h18,r19,r20⟩ e22 hG ok) rfl rfl ?_
 rintro _ w ⟨rfl,ok⟩
 refine ⟨_,rfl,fun a E=>?_⟩
 refine wn<|c_if E rfl (fun hc23=>?_) (fun hc23=>?_)
 rotate_left
 ·replace hF:=qah hc23 hF
  refine wp_skip<|qar<|qad<|qae<|lv E ok (qaC rfl rfl (InR.inc r5 (qau hs_0) hc6)) fun a E=>lv E ok (qaa rfl) fun a E=>wpList_nil ?_
  obtain rfl:=sj hF
  exact qay ⟨ok,E.keep [0,1,7,8],(InR.inc r5 (qau hs_0) hc6)⟩
 replace hF:=qai hc23 hF
 refine sg<|lv E ok (qaa rfl) fun a E=>lv E ok (qab rfl) fun a E=>wn<|wp_ret<|qap ?_
 refine qan ?_
 have hret:qbK u m0 S x_4 a w:=⟨ok,E.d,⟨rv_t E rfl,trivial⟩,r5⟩
 obtain rfl:=sj hF
 exact qaq (by nofun) (sr ⟨rfl,hret⟩)
def qcH (u:World) (m0:Mem) (S:Segs) (r:Bool) (a:Act) (w:World):Prop :=
 Ok u m0 S w ∧ a.defers = [] ∧ RVs Tryz.prog a w [.t 4 (.bool r)]
set_option maxHeartbeats 4000000 in
set_option maxRecDepth 100000 in
theorem qcK {u:World} {m0:Mem} {S:Segs} {w:World} (N:Nat) (vs_0:Value) (s_0:List (Item)) (hs_0:(pL 5 qbJ) m0 [vs_0] s_0) {r:Bool} (hF:qbI N s_0 = some r) (hG:Glob u) (ok:Ok u m0 S w) :
  Calls Tryz.prog 77 [vs_0,.func (.func 78) #[] #[]].toArray w fun e w'=>(e = .returned (.bool r) ∧ Ok u m0 S w'):=by
 have hb0:=ok.base
 have le_m0:=Mem.le.refl m0
 unfold qbI at hF
 have fin:∀ a w,qcH u m0 S r a w → bodyPost Tryz.prog Tryz.f77 (fun e w'=>(e = .returned (.bool r) ∧ Ok u m0 S w')) .ret a w:=by
  intro a w h
  obtain ⟨ok,hd,hrv⟩:=h
  exact qaK [.t 4 (.bool r)] hd rfl hrv ⟨rfl,ok⟩
 refine enter Tryz.func77 rfl rfl rfl fun a E=>sg<|lv E ok (qab rfl) fun a E=>wn<|sg ?_
 refine lv E ok (qaa rfl) fun a E=>lv E ok (qaa rfl) fun a E=>?_
 obtain ⟨r1,e2,hF⟩:=bnd hF
 refine qaw E qqL rfl (qeI N _ s_0 hs_0 e2 hG ok) rfl rfl ?_
 rintro _ w ⟨⟨rfl,ok⟩,r3⟩
 refine ⟨_,rfl,fun a E=>?_⟩
 refine lv E ok (qbg rfl rfl) fun a E=>lv E ok (qab rfl) fun a E=>wn<|wp_ret ?_
 have hret:qcH u m0 S (decide (r1 ≥ 0)) a w:=⟨ok,E.d,⟨rv_t E rfl,trivial⟩⟩
 obtain rfl:=sj hF
 exact fin _ _ hret
def qdd (u:World) (m0:Mem) (S:Segs) (r:Bool) (a:Act) (w:World):Prop :=
 Ok u m0 S w ∧ a.defers = [] ∧ RVs Tryz.prog a w [.t 2 (.bool r)]
set_option maxHeartbeats 4000000 in
set_option maxRecDepth 100000 in
theorem qmh {u:World} {m0:Mem} {S:Segs} {w:World} (N:Nat) (vr_0:List Value) (r_0:Rule) (hr_0:qdn m0 vr_0 r_0) {r:Bool} (hF:qi3 N r_0 = some r) (hG:Glob u) (ok:Ok u m0 S w) :
  Calls Tryz.prog 49 [.agg vr_0.toArray].toArray w fun e w'=>(e = .returned (.bool r) ∧ Ok u m0 S w'):=by
 obtain ⟨c2,rfl,l1,h3,l4⟩:=hr_0
 have hb0:=ok.base
 have le_m0:=Mem.le.refl m0
 unfold qi3 at hF
 have fin:∀ a w,qdd u m0 S r a w → bodyPost Tryz.prog Tryz.f49 (fun e w'=>(e = .returned (.bool r) ∧ Ok u m0 S w')) .ret a w:=by
  intro a w h
  obtain ⟨ok,hd,hrv⟩:=h
  exact qaK [.t 2 (.bool r)] hd rfl hrv ⟨rfl,ok⟩
 refine enter Tryz.func49 rfl rfl rfl fun a E=>sg<|qdF E ok rfl rfl rfl fun b5 a w E ok=>lv E ok (qab rfl) fun a E=>wn<|wp_seq ?_
 refine qae<|lv E ok (qac qki rfl) fun a E=>lv E ok (qaj qav rfl (qaf.own 0 rfl rfl)) fun a E=>?_
 obtain ⟨r6,e7,hF⟩:=bnd hF
 refine qaw E qm8 rfl (qis N r_0.Kind l1 e7 hG ok) rfl rfl ?_
 rintro _ w ⟨rfl,ok⟩
 refine ⟨_,rfl,fun a E=>?_⟩
 refine lv E ok (qaa rfl) fun a E=>qas r6 (fun hc8=>?_) (fun hc8=>?_)
 rotate_left
 ·replace hF:=qah hc8 hF
  replace E:=E.upd 6 hc8 rfl
  refine ls E fun a E=>ls E fun a E=>ls E fun a E=>ls E fun a E=>ls E fun a E=>ls E fun a E=>ls E fun a E=>ls E fun a E=>?_
  refine lv E ok (qam rfl rfl) fun a E=>lv E ok (qaa rfl) fun a E=>ls E fun a E=>ls E fun a E=>ls E fun a E=>ls E fun a E=>lv E ok (qam rfl rfl) fun a E=>lv E ok (qaa rfl) fun a E=>?_
  refine ls E fun a E=>ls E fun a E=>ls E fun a E=>ls E fun a E=>lv E ok (qam rfl rfl) fun a E=>lv E ok (qaa rfl) fun a E=>ls E fun a E=>ls E fun a E=>?_
  refine ls E fun a E=>ls E fun a E=>lv E ok (qam rfl rfl) fun a E=>lv E ok (qab rfl) fun a E=>wn<|wp_ret ?_
  have hret:qdd u m0 S false a w:=⟨ok.drop,E.d,⟨rv_t E rfl,trivial⟩⟩
  obtain rfl:=sj hF
  exact fin _ _ hret
 replace hF:=qai hc8 hF
 replace E:=E.upd 6 hc8 rfl
 refine lv E ok (qac qfT rfl) fun a E=>lv E ok (qaj qav rfl (qaf.own 0 rfl rfl)) fun a E=>lv E ok (qa1 rfl rfl) fun a E=>lv E ok (qaa rfl) fun a E=>qas (r_0.Next == ([])) (fun hc9=>?_) (fun hc9=>?_)
 ·replace hF:=qai hc9 hF
  replace E:=E.upd 10 hc9 rfl
  refine ls E fun a E=>ls E fun a E=>ls E fun a E=>lv E ok (qak rfl rfl) fun a E=>lv E ok (qak rfl rfl) fun a E=>lv E ok (qaa rfl) fun a E=>lv E ok (qac qe5 rfl) fun a E=>lv E ok (qaj qfZ rfl (qaf.own 0 rfl rfl)) fun a E=>?_
  refine lv E ok (qaG qdZ h3 rfl) fun a E=>lv E ok (qbg rfl rfl) fun a E=>lv E ok (qak rfl rfl) fun a E=>lv E ok (qaa rfl) fun a E=>qas (decide ((r_0.Items.length:Int) ≥ 1)) (fun hc10=>?_) (fun hc10=>?_)
  rotate_left
  ·replace hF:=qah hc10 hF
   replace E:=E.upd 22 hc10 rfl
   refine ls E fun a E=>ls E fun a E=>ls E fun a E=>ls E fun a E=>lv E ok (qam rfl rfl) fun a E=>lv E ok (qaa rfl) fun a E=>ls E fun a E=>ls E fun a E=>?_
   refine ls E fun a E=>ls E fun a E=>lv E ok (qam rfl rfl) fun a E=>lv E ok (qab rfl) fun a E=>wn<|wp_ret ?_
   have hret:qdd u m0 S false a w:=⟨ok.drop,E.d,⟨rv_t E rfl,trivial⟩⟩
   obtain rfl:=sj hF
   exact fin _ _ hret
  replace hF:=qai hc10 hF
  replace E:=E.upd 22 hc10 rfl
  refine lv E ok (qac qe5 rfl) fun a E=>lv E ok (qaj qfZ rfl (qaf.own 0 rfl rfl)) fun a E=>lv E ok (qaG qdZ h3 rfl) fun a E=>lv E ok (qct rfl rfl) fun a E=>lv E ok (qak rfl rfl) fun a E=>lv E ok (qaa rfl) fun a E=>qas (decide ((r_0.Items.length:Int) ≤ 20)) (fun hc11=>?_) (fun hc11=>?_)
  rotate_left
  ·replace hF:=qah hc11 hF
   replace E:=E.upd 28 hc11 rfl
   refine ls E fun a E=>ls E fun a E=>ls E fun a E=>ls E fun a E=>lv E ok (qam rfl rfl) fun a E=>lv E ok (qab rfl) fun a E=>wn ?_
   refine wp_ret ?_
   have hret:qdd u m0 S false a w:=⟨ok.drop,E.d,⟨rv_t E rfl,trivial⟩⟩
   obtain rfl:=sj hF
   exact fin _ _ hret
  replace hF:=qai hc11 hF
  replace E:=E.upd 28 hc11 rfl
  refine lv E ok (qac qe5 rfl) fun a E=>lv E ok (qaj qfZ rfl (qaf.own 0 rfl rfl)) fun a E=>?_
  obtain ⟨r12,e13,hF⟩:=bnd hF
  refine qaw E qox rfl (qcK N _ r_0.Items h3 e13 hG ok) rfl rfl ?_
  rintro _ w ⟨rfl,ok⟩
  refine ⟨_,rfl,fun a E=>?_⟩
  refine lv E ok (qbP rfl) fun a E=>lv E ok (qak rfl rfl) fun a E=>lv E ok (qab rfl) fun a E=>wn<|wp_ret ?_
  have hret:qdd u m0 S (!r12) a w:=⟨ok.drop,E.d,⟨rv_t E rfl,trivial⟩⟩
  obtain rfl:=sj hF
  exact fin _ _ hret
 replace hF:=qah hc9 hF
 replace E:=E.upd 10 hc9 rfl
 refine lv E ok (qac qfT rfl) fun a E=>lv E ok (qaj qav rfl (qaf.own 0 rfl rfl)) fun a E=>?_
 obtain ⟨r14,e15,hF⟩:=bnd hF
 refine qaw E qm8 rfl (qis N r_0.Next l4 e15 hG ok) rfl rfl ?_
 rintro _ w ⟨rfl,ok⟩
 refine ⟨_,rfl,fun a E=>?_⟩
 refine lv E ok (qam rfl rfl) fun a E=>lv E ok (qak rfl rfl) fun a E=>lv E ok (qaa rfl) fun a E=>qas r14 (fun hc16=>?_) (fun hc16=>?_)
 rotate_left
 ·replace hF:=qah hc16 hF
  replace E:=E.upd 16 hc16 rfl
  refine ls E fun a E=>ls E fun a E=>ls E fun a E=>ls E fun a E=>lv E ok (qam rfl rfl) fun a E=>lv E ok (qaa rfl) fun a E=>ls E fun a E=>ls E fun a E=>?_
  refine ls E fun a E=>ls E fun a E=>lv E ok (qam rfl rfl) fun a E=>lv E ok (qaa rfl) fun a E=>ls E fun a E=>ls E fun a E=>ls E fun a E=>ls E fun a E=>?_
  refine lv E ok (qam rfl rfl) fun a E=>lv E ok (qab rfl) fun a E=>wn<|wp_ret ?_
  have hret:qdd u m0 S false a w:=⟨ok.drop,E.d,⟨rv_t E rfl,trivial⟩⟩
  obtain rfl:=sj hF
  exact fin _ _ hret
 replace hF:=qai hc16 hF
 replace E:=E.upd 16 hc16 rfl
 refine lv E ok (qac qe5 rfl) fun a E=>lv E ok (qaj qfZ rfl (qaf.own 0 rfl rfl)) fun a E=>lv E ok (qaG qdZ h3 rfl) fun a E=>lv E ok (qbg rfl rfl) fun a E=>lv E ok (qak rfl rfl) fun a E=>lv E ok (qaa rfl) fun a E=>qas (decide ((r_0.Items.length:Int) ≥ 1)) (fun hc17=>?_) (fun hc17=>?_)
 rotate_left
 ·replace hF:=qah hc17 hF
  replace E:=E.upd 22 hc17 rfl
  refine ls E fun a E=>ls E fun a E=>ls E fun a E=>ls E fun a E=>lv E ok (qam rfl rfl) fun a E=>lv E ok (qaa rfl) fun a E=>ls E fun a E=>ls E fun a E=>?_
  refine ls E fun a E=>ls E fun a E=>lv E ok (qam rfl rfl) fun a E=>lv E ok (qab rfl) fun a E=>wn<|wp_ret ?_
  have hret:qdd u m0 S false a w:=⟨ok.drop,E.d,⟨rv_t E rfl,trivial⟩⟩
  obtain rfl:=sj hF
  exact fin _ _ hret
 replace hF:=qai hc17 hF
 replace E:=E.upd 22 hc17 rfl
 refine lv E ok (qac qe5 rfl) fun a E=>lv E ok (qaj qfZ rfl (qaf.own 0 rfl rfl)) fun a E=>lv E ok (qaG qdZ h3 rfl) fun a E=>lv E ok (qct rfl rfl) fun a E=>lv E ok (qak rfl rfl) fun a E=>lv E ok (qaa rfl) fun a E=>qas (decide ((r_0.Items.length:Int) ≤ 20)) (fun hc18=>?_) (fun hc18=>?_)
 rotate_left
 ·replace hF:=qah hc18 hF
  replace E:=E.upd 28 hc18 rfl
  refine ls E fun a E=>ls E fun a E=>ls E fun a E=>ls E fun a E=>lv E ok (qam rfl rfl) fun a E=>lv E ok (qab rfl) fun a E=>wn ?_
  refine wp_ret ?_
  have hret:qdd u m0 S false a w:=⟨ok.drop,E.d,⟨rv_t E rfl,trivial⟩⟩
  obtain rfl:=sj hF
  exact fin _ _ hret
 replace hF:=qai hc18 hF
 replace E:=E.upd 28 hc18 rfl
 refine lv E ok (qac qe5 rfl) fun a E=>lv E ok (qaj qfZ rfl (qaf.own 0 rfl rfl)) fun a E=>?_
 obtain ⟨r19,e20,hF⟩:=bnd hF
 refine qaw E qox rfl (qcK N _ r_0.Items h3 e20 hG ok) rfl rfl ?_
 rintro _ w ⟨rfl,ok⟩
 refine ⟨_,rfl,fun a E=>?_⟩
 refine lv E ok (qbP rfl) fun a E=>lv E ok (qak rfl rfl) fun a E=>lv E ok (qab rfl) fun a E=>wn<|wp_ret ?_
 have hret:qdd u m0 S (!r19) a w:=⟨ok.drop,E.d,⟨rv_t E rfl,trivial⟩⟩
 obtain rfl:=sj hF
 exact fin _ _ hret
def qkx (u:World) (m0:Mem) (S:Segs) (r:(List UInt8)) (a:Act) (w:World):Prop :=
 Ok u m0 S w ∧ a.defers = [] ∧ RVs Tryz.prog a w [.t 2 (.string (bs r))] ∧ r.length ≤ LIMS
set_option maxHeartbeats 4000000 in
set_option maxRecDepth 100000 in
theorem qhx {u:World} {m0:Mem} {S:Segs} {w:World} (N:Nat) (c_0:Int) (rc_0:InR .u8 c_0) {r:(List UInt8)} (hF:qgU N c_0 = some r) (hG:Glob u) (ok:Ok u m0 S w) :
  Calls Tryz.prog 141 [Value.int .u8 c_0].toArray w fun e w'=>(e = .returned (.string (bs r)) ∧ Ok u m0 S w') ∧ r.length ≤ LIMS:=by
 have hb0:=ok.base
 have le_m0:=Mem.le.refl m0
 unfold qgU at hF
 have fin:∀ a w,qkx u m0 S r a w → bodyPost Tryz.prog Tryz.f141 (fun e w'=>(e = .returned (.string (bs r)) ∧ Ok u m0 S w') ∧ r.length ≤ LIMS) .ret a w:=by
  intro a w h
  obtain ⟨ok,hd,hrv,h0⟩:=h
  exact qaK [.t 2 (.string (bs r))] hd rfl hrv ⟨⟨rfl,ok⟩,h0⟩
 refine enter Tryz.func141 rfl rfl rfl fun a E=>sg<|lv E ok (qab rfl) fun a E=>wn<|wp_seq ?_
 obtain ⟨o1,hJ,hF⟩:=bnd hF
 refine qbx (Q':=fun e a w=>e = .normal ∧ Ok u m0 (S) w ∧ Env 12 a [(2,(Value.string (bs o1)))] ∧ o1.length ≤ LIMS) ?_ ?_
 rotate_left
 ·clear hJ
  intro e a w hO
  obtain ⟨rfl,ok,E,l17⟩:=hO
  refine qad<|wp_ret ?_
  have hret:qkx u m0 S o1 a w:=⟨ok,E.d,⟨rv_t E rfl,trivial⟩,l17⟩
  obtain rfl:=sj hF
  exact fin _ _ hret
 replace hF:=hJ
 clear hJ
 obtain ⟨c3,e4,hF⟩:=bnd hF
 obtain ⟨q5,e6,hF⟩:=bnd hF
 obtain ⟨c7,e8,hF⟩:=bnd hF
 obtain ⟨s12,e13,hF⟩:=bnd hF
 obtain rfl:=sj hF
 refine qcO [] (Cls u m0 ([])) (Cls u m0 ([])) (by kernel_rfl) ?_
 intro w hw
 replace ok:=qcV ok hw
 clear hw
 refine qaM (cl1 ⟨m0,_,le_m0,ok,trivial⟩ ⟨m0,_,le_m0,ok,trivial⟩) fun hT=>kt 0 E rfl hT (qaa rfl) fun a E=>kt 1 E rfl hT (qqr rfl rfl (by decide)) fun a E=>kt 2 E rfl hT (qa3 Tryz.underlying9 rfl rfl e4) fun a E=>kt 3 E rfl hT (qaa rfl) fun a E=>kt 4 E rfl hT (y_rm rfl rfl e6) fun a E=>kt 5 E rfl hT (qa3 Tryz.underlying9 rfl rfl e8) fun a E=>qbj [6] (by kernel_rfl) rfl (qbk ?_)
 ·refine qaz (o:=_) rfl<|qbf (R:=(pI .u8)) (xo:=[.tmp 5,.tmp 8]) (xs:=([(c3.toNat:Int),(c7.toNat:Int)]:List (Int))) E ok qgI qfB rfl ⟨⟨_,rfl,rfl,(qf0 (InR.byte c3))⟩,⟨_,rfl,rfl,(qf0 (InR.byte c7))⟩,trivial⟩ rfl rfl rfl rfl fun c14 M15 a w E ok h16=>wn<|qaM (cl1 ⟨m0,_,le_m0,ok,trivial⟩ ⟨m0,_,le_m0,ok,trivial⟩) fun hT=>qbj [7] (by kernel_rfl) rfl (qbk ?_)
  ·refine qaz (o:=_) rfl<|lv E ok (qhN Tryz.underlying86 Tryz.underlying5 Tryz.underlying9 rfl (BR.ofRow h16 0 rfl)) fun a E=>wn<|qaM (cl1 ⟨m0,_,le_m0,ok,trivial⟩ ⟨m0,_,le_m0,ok,trivial⟩) fun hT=>kt 8 E rfl hT (qaQ rfl rfl e13) fun a E=>kt 9 E rfl hT (qab rfl) fun a E=>qcP (by kernel_rfl) ?_
   exact ⟨rfl,⟨(ok.pk 1 [] rfl (by decide)),E.keep [2],(qaN e13)⟩⟩
def qec (u:World) (m0:Mem) (S:Segs) (r:(List UInt8)) (a:Act) (w:World):Prop :=
 Ok u m0 S w ∧ a.defers = [] ∧ RVs Tryz.prog a w [.t 2 (.string (bs r))] ∧ r.length ≤ LIMS
set_option maxHeartbeats 4000000 in
set_option maxRecDepth 100000 in
theorem qlt {u:World} {m0:Mem} {S:Segs} {w:World} (N:Nat) (c_0:Int) (rc_0:InR .u8 c_0) {r:(List UInt8)} (hF:qij N c_0 = some r) (hG:Glob u) (ok:Ok u m0 S w) :
  Calls Tryz.prog 123 [Value.int .u8 c_0].toArray w fun e w'=>(e = .returned (.string (bs r)) ∧ Ok u m0 S w') ∧ r.length ≤ LIMS:=by
 have hb0:=ok.base
 have le_m0:=Mem.le.refl m0
 unfold qij at hF
 have fin:∀ a w,qec u m0 S r a w → bodyPost Tryz.prog Tryz.f123 (fun e w'=>(e = .returned (.string (bs r)) ∧ Ok u m0 S w') ∧ r.length ≤ LIMS) .ret a w:=by
  intro a w h
  obtain ⟨ok,hd,hrv,h0⟩:=h
  exact qaK [.t 2 (.string (bs r))] hd rfl hrv ⟨⟨rfl,ok⟩,h0⟩
 refine enter Tryz.func123 rfl rfl rfl fun a E=>sg<|lv E ok (qab rfl) fun a E=>wn<|wp_seq<|wp_block ?_
 refine sg<|lv E ok (qaa rfl) fun a E=>lv E ok (qaB rfl rfl) fun a E=>lv E ok (qaa rfl) fun a E=>qas (decide (c_0 < 32)) (fun hc1=>?_) (fun hc1=>?_)
 ·replace hF:=qai hc1 hF
  replace E:=E.upd 6 hc1 rfl
  refine ls E fun a E=>ls E fun a E=>lv E ok (qak rfl rfl) fun a E=>lv E ok (qab rfl) fun a E=>wn<|c_if E rfl (fun _=>?_) (fun h=>by cases h)
  refine sg<|lv E ok (qaa rfl) fun a E=>?_
  obtain ⟨r2,e3,hF⟩:=bnd hF
  refine qaw E qkq rfl (qhx N c_0 rc_0 e3 hG ok) rfl rfl ?_
  rintro _ w ⟨⟨rfl,ok⟩,l4⟩
  refine ⟨_,rfl,fun a E=>?_⟩
  refine lv E ok (qab rfl) fun a E=>wn<|wp_ret<|qap<|qan ?_
  have hret:qec u m0 S r2 a w:=⟨ok,E.d,⟨rv_t E rfl,trivial⟩,l4⟩
  obtain rfl:=sj hF
  exact fin _ _ hret
 replace hF:=qah hc1 hF
 replace E:=E.upd 6 hc1 rfl
 refine lv E ok (qaa rfl) fun a E=>lv E ok (qb4 rfl rfl) fun a E=>lv E ok (qam rfl rfl) fun a E=>lv E ok (qab rfl) fun a E=>wn<|c_if E rfl (fun hc5=>?_) (fun hc5=>?_)
 ·replace hF:=qai hc5 hF
  refine sg<|lv E ok (qaa rfl) fun a E=>?_
  obtain ⟨r6,e7,hF⟩:=bnd hF
  refine qaw E qkq rfl (qhx N c_0 rc_0 e7 hG ok) rfl rfl ?_
  rintro _ w ⟨⟨rfl,ok⟩,l8⟩
  refine ⟨_,rfl,fun a E=>?_⟩
  refine lv E ok (qab rfl) fun a E=>wn<|wp_ret<|qap<|qan ?_
  have hret:qec u m0 S r6 a w:=⟨ok,E.d,⟨rv_t E rfl,trivial⟩,l8⟩
  obtain rfl:=sj hF
  exact fin _ _ hret
 replace hF:=qah hc5 hF
 refine sg<|lv E ok (qaa rfl) fun a E=>lv E ok (qbn rfl rfl) fun a E=>lv E ok (qaa rfl) fun a E=>qas (c_0 == 34) (fun hc9=>?_) (fun hc9=>?_)
 ·replace hF:=qai hc9 hF
  replace E:=E.upd 15 hc9 rfl
  refine ls E fun a E=>ls E fun a E=>lv E ok (qak rfl rfl) fun a E=>lv E ok (qab rfl) fun a E=>wn<|c_if E rfl (fun _=>?_) (fun h=>by cases h)
  refine sg<|lv E ok (qaa rfl) fun a E=>qbf (R:=(pI .u8)) (xo:=[.tmp 19]) (xs:=([c_0]:List (Int))) E ok qgI qfB rfl ⟨⟨_,rfl,rfl,(qf0 rc_0)⟩,trivial⟩ rfl rfl rfl rfl fun c10 M11 a w E ok h12=>lv E ok (qhN Tryz.underlying86 Tryz.underlying5 Tryz.underlying9 rfl (BR.ofRow h12 0 rfl)) fun a E=>?_
  obtain ⟨s13,e14,hF⟩:=bnd hF
  refine lv E ok (qaQ rfl rfl e14) fun a E=>lv E ok (qab rfl) fun a E=>wn<|wp_ret<|qap<|qan ?_
  have hret:qec u m0 S s13 a w:=⟨ok.drop,E.d,⟨rv_t E rfl,trivial⟩,(qaN e14)⟩
  obtain rfl:=sj hF
  exact fin _ _ hret
 replace hF:=qah hc9 hF
 replace E:=E.upd 15 hc9 rfl
 refine lv E ok (qaa rfl) fun a E=>lv E ok (qbn rfl rfl) fun a E=>lv E ok (qam rfl rfl) fun a E=>lv E ok (qab rfl) fun a E=>wn<|c_if E rfl (fun hc15=>?_) (fun hc15=>?_)
 rotate_left
 ·replace hF:=qah hc15 hF
  refine wp_skip<|qar<|qad<|sg<|lv E ok (qaa rfl) fun a E=>qbf (R:=(pI .u8)) (xo:=[.tmp 23]) (xs:=([c_0]:List (Int))) E ok qgI qfB rfl ⟨⟨_,rfl,rfl,(qf0 rc_0)⟩,trivial⟩ rfl rfl rfl rfl fun c21 M22 a w E ok h23=>lv E ok (qhN Tryz.underlying86 Tryz.underlying5 Tryz.underlying9 rfl (BR.ofRow h23 0 rfl)) fun a E=>?_
  refine lv E ok (qab rfl) fun a E=>wn<|wp_ret ?_
  have hret:qec u m0 S (bytesOf ([c_0]:List (Int))) a w:=⟨ok.drop,E.d,⟨rv_t E rfl,trivial⟩,(Nat.le_trans (Nat.le_of_eq qfj) h23.form.2)⟩
  obtain rfl:=sj hF
  exact fin _ _ hret
 replace hF:=qai hc15 hF
 refine sg<|lv E ok (qaa rfl) fun a E=>qbf (R:=(pI .u8)) (xo:=[.tmp 19]) (xs:=([c_0]:List (Int))) E ok qgI qfB rfl ⟨⟨_,rfl,rfl,(qf0 rc_0)⟩,trivial⟩ rfl rfl rfl rfl fun c16 M17 a w E ok h18=>lv E ok (qhN Tryz.underlying86 Tryz.underlying5 Tryz.underlying9 rfl (BR.ofRow h18 0 rfl)) fun a E=>?_
 obtain ⟨s19,e20,hF⟩:=bnd hF
 refine lv E ok (qaQ rfl rfl e20) fun a E=>lv E ok (qab rfl) fun a E=>wn<|wp_ret<|qap<|qan ?_
 have hret:qec u m0 S s19 a w:=⟨ok.drop,E.d,⟨rv_t E rfl,trivial⟩,(qaN e20)⟩
 obtain rfl:=sj hF
 exact fin _ _ hret
def qdX (u:World) (m0:Mem) (S:Segs) (r:(List UInt8)) (a:Act) (w:World):Prop :=
 Ok u m0 S w ∧ a.defers = [] ∧ RVs Tryz.prog a w [.t 2 (.string (bs r))] ∧ r.length ≤ LIMS
set_option maxHeartbeats 4000000 in
set_option maxRecDepth 100000 in
theorem qhP {u:World} {m0:Mem} {S:Segs} {w:World} (N:Nat) (c_0:Int) (rc_0:InR .u8 c_0) {r:(List UInt8)} (hF:qfU N c_0 = some r) (hG:Glob u) (ok:Ok u m0 S w) :
  Calls Tryz.prog 124 [Value.int .u8 c_0].toArray w fun e w'=>(e = .returned (.string (bs r)) ∧ Ok u m0 S w') ∧ r.length ≤ LIMS:=by
 have hb0:=ok.base
 have le_m0:=Mem.le.refl m0
 unfold qfU at hF
 have fin:∀ a w,qdX u m0 S r a w → bodyPost Tryz.prog Tryz.f124 (fun e w'=>(e = .returned (.string (bs r)) ∧ Ok u m0 S w') ∧ r.length ≤ LIMS) .ret a w:=by
  intro a w h
  obtain ⟨ok,hd,hrv,h0⟩:=h
  exact qaK [.t 2 (.string (bs r))] hd rfl hrv ⟨⟨rfl,ok⟩,h0⟩
 refine enter Tryz.func124 rfl rfl rfl fun a E=>sg<|lv E ok (qab rfl) fun a E=>wn<|wp_seq<|wp_block ?_
 refine sg<|lv E ok (qaa rfl) fun a E=>lv E ok (qct rfl rfl) fun a E=>lv E ok (qaa rfl) fun a E=>qas (decide (c_0 ≤ 32)) (fun hc1=>?_) (fun hc1=>?_)
 ·replace hF:=qai hc1 hF
  replace E:=E.upd 6 hc1 rfl
  refine ls E fun a E=>ls E fun a E=>lv E ok (qak rfl rfl) fun a E=>lv E ok (qab rfl) fun a E=>wn<|c_if E rfl (fun _=>?_) (fun h=>by cases h)
  refine sg<|lv E ok (qaa rfl) fun a E=>?_
  obtain ⟨r2,e3,hF⟩:=bnd hF
  refine qaw E qkq rfl (qhx N c_0 rc_0 e3 hG ok) rfl rfl ?_
  rintro _ w ⟨⟨rfl,ok⟩,l4⟩
  refine ⟨_,rfl,fun a E=>?_⟩
  refine lv E ok (qab rfl) fun a E=>wn<|wp_ret<|qap<|qan ?_
  have hret:qdX u m0 S r2 a w:=⟨ok,E.d,⟨rv_t E rfl,trivial⟩,l4⟩
  obtain rfl:=sj hF
  exact fin _ _ hret
 replace hF:=qah hc1 hF
 replace E:=E.upd 6 hc1 rfl
 refine lv E ok (qaa rfl) fun a E=>lv E ok (qb4 rfl rfl) fun a E=>lv E ok (qam rfl rfl) fun a E=>lv E ok (qab rfl) fun a E=>wn<|c_if E rfl (fun hc5=>?_) (fun hc5=>?_)
 ·replace hF:=qai hc5 hF
  refine sg<|lv E ok (qaa rfl) fun a E=>?_
  obtain ⟨r6,e7,hF⟩:=bnd hF
  refine qaw E qkq rfl (qhx N c_0 rc_0 e7 hG ok) rfl rfl ?_
  rintro _ w ⟨⟨rfl,ok⟩,l8⟩
  refine ⟨_,rfl,fun a E=>?_⟩
  refine lv E ok (qab rfl) fun a E=>wn<|wp_ret<|qap<|qan ?_
  have hret:qdX u m0 S r6 a w:=⟨ok,E.d,⟨rv_t E rfl,trivial⟩,l8⟩
  obtain rfl:=sj hF
  exact fin _ _ hret
 replace hF:=qah hc5 hF
 refine sg<|lv E ok (qaa rfl) fun a E=>?_
 obtain ⟨r9,e10,hF⟩:=bnd hF
 refine qaw E qkG rfl (qcM N ([91,93,94,45,92]) (show ([91,93,94,45,92]:List UInt8).length ≤ LIMS by decide) c_0 rc_0 e10 hG ok) rfl rfl ?_
 rintro _ w ⟨⟨rfl,ok⟩,r11⟩
 refine ⟨_,rfl,fun a E=>?_⟩
 refine lv E ok (qbg rfl rfl) fun a E=>lv E ok (qab rfl) fun a E=>wn<|c_if E rfl (fun hc12=>?_) (fun hc12=>?_)
 rotate_left
 ·replace hF:=qah hc12 hF
  refine wp_skip<|qar<|qad<|sg<|lv E ok (qaa rfl) fun a E=>qbf (R:=(pI .u8)) (xo:=[.tmp 20]) (xs:=([c_0]:List (Int))) E ok qgI qfB rfl ⟨⟨_,rfl,rfl,(qf0 rc_0)⟩,trivial⟩ rfl rfl rfl rfl fun c18 M19 a w E ok h20=>lv E ok (qhN Tryz.underlying86 Tryz.underlying5 Tryz.underlying9 rfl (BR.ofRow h20 0 rfl)) fun a E=>?_
  refine lv E ok (qab rfl) fun a E=>wn<|wp_ret ?_
  have hret:qdX u m0 S (bytesOf ([c_0]:List (Int))) a w:=⟨ok.drop,E.d,⟨rv_t E rfl,trivial⟩,(Nat.le_trans (Nat.le_of_eq qfj) h20.form.2)⟩
  obtain rfl:=sj hF
  exact fin _ _ hret
 replace hF:=qai hc12 hF
 refine sg<|lv E ok (qaa rfl) fun a E=>qbf (R:=(pI .u8)) (xo:=[.tmp 16]) (xs:=([c_0]:List (Int))) E ok qgI qfB rfl ⟨⟨_,rfl,rfl,(qf0 rc_0)⟩,trivial⟩ rfl rfl rfl rfl fun c13 M14 a w E ok h15=>lv E ok (qhN Tryz.underlying86 Tryz.underlying5 Tryz.underlying9 rfl (BR.ofRow h15 0 rfl)) fun a E=>?_
 obtain ⟨s16,e17,hF⟩:=bnd hF
 refine lv E ok (qaQ rfl rfl e17) fun a E=>lv E ok (qab rfl) fun a E=>wn<|wp_ret<|qap<|qan ?_
 have hret:qdX u m0 S s16 a w:=⟨ok.drop,E.d,⟨rv_t E rfl,trivial⟩,(qaN e17)⟩
 obtain rfl:=sj hF
 exact fin _ _ hret
end Go.Proofs.YtllfckekodcdaaaGreatDoor
