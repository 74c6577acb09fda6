/- Texts of this proof, put together by pack.py: what its declarations name. -/
import Derived.Test.YtboacfcnmhnbdaaGreatDoorPkS1
import Derived.Test.YtboacfcnmhnbdaaGreatDoorCards
import Derived.Test.YtboacfcnmhnbdaaGreatDoorChecked
import Derived.Test.YtboacfcnmhnbdaaGreatDoorProg
import Derived.Test.YtboacfcnmhnbdaaGreatDoorRows
import Derived.Test.YtboacfcnmhnbdaaGreatDoorTie
set_option linter.unusedVariables false
namespace Go.Proofs.YtboacfcnmhnbdaaGreatDoor
open Go.X
variable {u:World} {m0:Mem} {S:Segs} {w:World}
set_option maxHeartbeats 4000000
set_option maxRecDepth 100000
def Glob (u:World):Prop:=∃ mx,u.cell? ⟨0,0,none⟩ = some (.int .i64 mx)
def Tab (u:World):Prop:=Lib.TabIs Tryz.prog u "internal/strconv.uint64pow10" .u64 Lib.pow10Tab
def qeB:Rp Span:=fun _ cs x=>cs = [.int .i64 x.From,.int .i64 x.To] ∧ InR .i64 x.From ∧ InR .i64 x.To
theorem qgv:Mono qeB:=⟨fun _ h=>by
 obtain ⟨e,h0,h1⟩:=h
 exact ⟨e,h0,h1⟩,fun h=>by
 obtain ⟨rfl,h0,h1⟩:=h
 exact ⟨rfl,rfl,trivial⟩⟩
def qai:Rp Relation:=fun m cs x=>∃ c3,cs = [.int .i64 x.Operand,.int .i64 x.Mod,.bool x.Not,c3] ∧ InR .i64 x.Operand ∧ InR .i64 x.Mod ∧ (pL 2 qeB) m [c3] x.Spans
theorem qad:Mono qai:=⟨fun hm h=>by
 obtain ⟨c3,e,h0,h1,h3⟩:=h
 exact ⟨c3,e,h0,h1,(mL qgv).up hm h3⟩,fun h=>by
 obtain ⟨c3,rfl,h0,h1,h3⟩:=h
 exact ⟨rfl,rfl,rfl,((mL qgv).one h3).1,trivial⟩⟩
def qeR:Rp Rule:=fun m cs x=>∃ c1,cs = [.string (bs x.Class),c1] ∧ x.Class.length ≤ LIMS ∧ (pL 1 (pL 4 qai)) m [c1] x.Cond
theorem qfo:Mono qeR:=⟨fun hm h=>by
 obtain ⟨c1,e,h0,h1⟩:=h
 exact ⟨c1,e,h0,(mL (mL qad)).up hm h1⟩,fun h=>by
 obtain ⟨c1,rfl,h0,h1⟩:=h
 exact ⟨rfl,((mL (mL qad)).one h1).1,trivial⟩⟩
def qj9:Rp Arr6_List_UInt8:=fun _ cs x=>cs = [.string (bs x.e0),.string (bs x.e1),.string (bs x.e2),.string (bs x.e3),.string (bs x.e4),.string (bs x.e5)] ∧ x.e0.length ≤ LIMS ∧ x.e1.length ≤ LIMS ∧ x.e2.length ≤ LIMS ∧ x.e3.length ≤ LIMS ∧ x.e4.length ≤ LIMS ∧ x.e5.length ≤ LIMS
def qoQ:Rp Number:=fun _ cs x=>cs = [.bool x.negative,.string (bs x.whole),.string (bs x.fraction)] ∧ x.whole.length ≤ LIMS ∧ x.fraction.length ≤ LIMS
def qcj:Rp Part:=fun _ cs x=>cs = [.int .u64 x.bits,.string (bs x.text)] ∧ InR .u64 x.bits ∧ x.text.length ≤ LIMS
theorem qcO:Mono qcj:=⟨fun _ h=>by
 obtain ⟨e,h0,h1⟩:=h
 exact ⟨e,h0,h1⟩,fun h=>by
 obtain ⟨rfl,h0,h1⟩:=h
 exact ⟨rfl,rfl,trivial⟩⟩
def qeE:Rp Classes:=fun m cs x=>∃ c0 c1 c2,cs = [c0,c1,c2] ∧ (pL 4 qai) m [c0] x.l ∧ (pL 2 qcj) m [c1] x.wholes ∧ (pL 2 qcj) m [c2] x.fraction
theorem qtL:Mono qeE:=⟨fun hm h=>by
 obtain ⟨c0,c1,c2,e,h0,h1,h2⟩:=h
 exact ⟨c0,c1,c2,e,(mL qad).up hm h0,(mL qcO).up hm h1,(mL qcO).up hm h2⟩,fun h=>by
 obtain ⟨c0,c1,c2,rfl,h0,h1,h2⟩:=h
 exact ⟨((mL qad).one h0).1,((mL qcO).one h1).1,((mL qcO).one h2).1,trivial⟩⟩
def qbA:Rp Tracker:=fun _ cs x=>cs = [.int .i64 x.a,.int .i64 x.b] ∧ InR .i64 x.a ∧ InR .i64 x.b
theorem qbd:Mono qbA:=⟨fun _ h=>by
 obtain ⟨e,h0,h1⟩:=h
 exact ⟨e,h0,h1⟩,fun h=>by
 obtain ⟨rfl,h0,h1⟩:=h
 exact ⟨rfl,rfl,trivial⟩⟩
def qia:Rp State:=fun m cs x=>∃ c1,cs = [.string (bs x.s),c1,.bool x.integer] ∧ x.s.length ≤ LIMS ∧ (pL 2 qbA) m [c1] x.trackers
theorem qes:Mono qia:=⟨fun hm h=>by
 obtain ⟨c1,e,h0,h1⟩:=h
 exact ⟨c1,e,h0,(mL qbd).up hm h1⟩,fun h=>by
 obtain ⟨c1,rfl,h0,h1⟩:=h
 exact ⟨rfl,((mL qbd).one h1).1,rfl,trivial⟩⟩
theorem qbU:aggB Tryz.prog 157 2 = true:=by kernel_rfl
theorem qhl:aggB Tryz.prog 162 2 = true:=by kernel_rfl
theorem qrd:aggB Tryz.prog 172 3 = true:=by kernel_rfl
theorem qlo:aggB Tryz.prog 44 2 = true:=by kernel_rfl
theorem qhI:aggB Tryz.prog 49 2 = true:=by kernel_rfl
theorem qcL:aggB Tryz.prog 52 4 = true:=by kernel_rfl
theorem qvY:aggB Tryz.prog 80 6 = true:=by kernel_rfl
theorem qbb:aggB Tryz.prog 92 3 = true:=by kernel_rfl
theorem qvS:ArT Tryz.prog 80 9 6 1:=ArT.of (by kernel_rfl)
theorem qi6:qa5 Tryz.prog 153 0 0 = true:=by kernel_rfl
theorem qj6:qa5 Tryz.prog 153 1 1 = true:=by kernel_rfl
theorem qkj:qa5 Tryz.prog 153 2 2 = true:=by kernel_rfl
theorem qfx:qa5 Tryz.prog 157 0 0 = true:=by kernel_rfl
theorem qgc:qa5 Tryz.prog 157 1 1 = true:=by kernel_rfl
theorem qih:qa5 Tryz.prog 162 0 0 = true:=by kernel_rfl
theorem qga:qa5 Tryz.prog 162 1 1 = true:=by kernel_rfl
theorem qn4:qa5 Tryz.prog 172 0 0 = true:=by kernel_rfl
theorem qkd:qa5 Tryz.prog 172 1 1 = true:=by kernel_rfl
theorem qlz:qa5 Tryz.prog 172 2 2 = true:=by kernel_rfl
theorem qg4:qa5 Tryz.prog 44 0 0 = true:=by kernel_rfl
theorem qhn:qa5 Tryz.prog 44 1 1 = true:=by kernel_rfl
theorem qgr:qa5 Tryz.prog 49 0 0 = true:=by kernel_rfl
theorem qf4:qa5 Tryz.prog 49 1 1 = true:=by kernel_rfl
theorem qbl:qa5 Tryz.prog 52 0 0 = true:=by kernel_rfl
theorem qef:qa5 Tryz.prog 52 1 1 = true:=by kernel_rfl
theorem qgq:qa5 Tryz.prog 52 2 2 = true:=by kernel_rfl
theorem qck:qa5 Tryz.prog 52 3 3 = true:=by kernel_rfl
theorem qpi:qa5 Tryz.prog 88 0 0 = true:=by kernel_rfl
theorem qaZ:qa5 Tryz.prog 88 1 1 = true:=by kernel_rfl
theorem qjZ:qa5 Tryz.prog 88 2 2 = true:=by kernel_rfl
theorem qb8:qa5 Tryz.prog 88 3 3 = true:=by kernel_rfl
theorem qo3:qa5 Tryz.prog 92 1 1 = true:=by kernel_rfl
theorem qne:qa5 Tryz.prog 92 2 2 = true:=by kernel_rfl
theorem qvR:goB Tryz.prog 100 = true:=by kernel_rfl
theorem qvM:goB Tryz.prog 101 = true:=by kernel_rfl
theorem qvK:goB Tryz.prog 102 = true:=by kernel_rfl
theorem qm7:goB Tryz.prog 103 = true:=by kernel_rfl
theorem qod:goB Tryz.prog 104 = true:=by kernel_rfl
theorem qvD:goB Tryz.prog 105 = true:=by kernel_rfl
theorem qoF:goB Tryz.prog 106 = true:=by kernel_rfl
theorem qvx:goB Tryz.prog 107 = true:=by kernel_rfl
theorem qv5:goB Tryz.prog 108 = true:=by kernel_rfl
theorem qtZ:goB Tryz.prog 11 = true:=by kernel_rfl
theorem qwe:goB Tryz.prog 111 = true:=by kernel_rfl
theorem qqf:goB Tryz.prog 112 = true:=by kernel_rfl
theorem qqh:goB Tryz.prog 113 = true:=by kernel_rfl
theorem qqE:goB Tryz.prog 114 = true:=by kernel_rfl
theorem qk9:goB Tryz.prog 115 = true:=by kernel_rfl
theorem qp8:goB Tryz.prog 116 = true:=by kernel_rfl
theorem qvV:goB Tryz.prog 117 = true:=by kernel_rfl
theorem qso:goB Tryz.prog 122 = true:=by kernel_rfl
theorem qr6:goB Tryz.prog 123 = true:=by kernel_rfl
theorem qm4:goB Tryz.prog 124 = true:=by kernel_rfl
theorem qvt:goB Tryz.prog 125 = true:=by kernel_rfl
theorem qfK:goB Tryz.prog 127 = true:=by kernel_rfl
theorem qmU:goB Tryz.prog 128 = true:=by kernel_rfl
theorem qmG:goB Tryz.prog 129 = true:=by kernel_rfl
theorem qtW:goB Tryz.prog 13 = true:=by kernel_rfl
theorem qsl:goB Tryz.prog 133 = true:=by kernel_rfl
theorem qsg:goB Tryz.prog 134 = true:=by kernel_rfl
theorem qvf:goB Tryz.prog 139 = true:=by kernel_rfl
theorem qvu:goB Tryz.prog 140 = true:=by kernel_rfl
theorem qg5:goB Tryz.prog 141 = true:=by kernel_rfl
theorem qmN:goB Tryz.prog 142 = true:=by kernel_rfl
theorem qoK:goB Tryz.prog 143 = true:=by kernel_rfl
theorem qsW:goB Tryz.prog 144 = true:=by kernel_rfl
theorem qsx:goB Tryz.prog 145 = true:=by kernel_rfl
theorem qvF:goB Tryz.prog 146 = true:=by kernel_rfl
theorem qqj:goB Tryz.prog 147 = true:=by kernel_rfl
theorem qvC:goB Tryz.prog 148 = true:=by kernel_rfl
theorem qvv:goB Tryz.prog 149 = true:=by kernel_rfl
theorem qvh:goB Tryz.prog 165 = true:=by kernel_rfl
theorem qvz:goB Tryz.prog 166 = true:=by kernel_rfl
theorem qvO:goB Tryz.prog 167 = true:=by kernel_rfl
theorem qwb:goB Tryz.prog 168 = true:=by kernel_rfl
theorem qv7:goB Tryz.prog 179 = true:=by kernel_rfl
theorem quj:goB Tryz.prog 25 = true:=by kernel_rfl
theorem qwm:goB Tryz.prog 26 = true:=by kernel_rfl
theorem qt6:goB Tryz.prog 27 = true:=by kernel_rfl
theorem qw5:goB Tryz.prog 29 = true:=by kernel_rfl
theorem qpY:goB Tryz.prog 30 = true:=by kernel_rfl
theorem qwK:goB Tryz.prog 31 = true:=by kernel_rfl
theorem qwI:goB Tryz.prog 32 = true:=by kernel_rfl
theorem qt9:goB Tryz.prog 47 = true:=by kernel_rfl
theorem qwo:goB Tryz.prog 48 = true:=by kernel_rfl
theorem qwV:goB Tryz.prog 49 = true:=by kernel_rfl
theorem qwO:goB Tryz.prog 50 = true:=by kernel_rfl
theorem qtY:goB Tryz.prog 51 = true:=by kernel_rfl
theorem qxh:goB Tryz.prog 52 = true:=by kernel_rfl
theorem qwL:goB Tryz.prog 53 = true:=by kernel_rfl
theorem qwH:goB Tryz.prog 55 = true:=by kernel_rfl
theorem qt3:goB Tryz.prog 56 = true:=by kernel_rfl
theorem qwn:goB Tryz.prog 57 = true:=by kernel_rfl
theorem qwY:goB Tryz.prog 58 = true:=by kernel_rfl
theorem qw7:goB Tryz.prog 59 = true:=by kernel_rfl
theorem qwD:goB Tryz.prog 61 = true:=by kernel_rfl
theorem qw0:goB Tryz.prog 62 = true:=by kernel_rfl
theorem qxd:goB Tryz.prog 63 = true:=by kernel_rfl
theorem qlW:goB Tryz.prog 68 = true:=by kernel_rfl
theorem qxf:goB Tryz.prog 69 = true:=by kernel_rfl
theorem qtV:goB Tryz.prog 70 = true:=by kernel_rfl
theorem qcP:goB Tryz.prog 71 = true:=by kernel_rfl
theorem qt5:goB Tryz.prog 72 = true:=by kernel_rfl
theorem qwX:goB Tryz.prog 73 = true:=by kernel_rfl
theorem qui:goB Tryz.prog 74 = true:=by kernel_rfl
theorem qwZ:goB Tryz.prog 75 = true:=by kernel_rfl
theorem qxg:goB Tryz.prog 76 = true:=by kernel_rfl
theorem qwJ:goB Tryz.prog 79 = true:=by kernel_rfl
theorem qua:goB Tryz.prog 80 = true:=by kernel_rfl
theorem qp2:goB Tryz.prog 81 = true:=by kernel_rfl
theorem qt1:goB Tryz.prog 85 = true:=by kernel_rfl
theorem qrH:goB Tryz.prog 86 = true:=by kernel_rfl
theorem qxb:goB Tryz.prog 87 = true:=by kernel_rfl
theorem qwf:goB Tryz.prog 88 = true:=by kernel_rfl
theorem qwE:goB Tryz.prog 89 = true:=by kernel_rfl
theorem qnj:goB Tryz.prog 94 = true:=by kernel_rfl
theorem qwR:goB Tryz.prog 95 = true:=by kernel_rfl
theorem qpX:goB Tryz.prog 96 = true:=by kernel_rfl
theorem qpV:goB Tryz.prog 97 = true:=by kernel_rfl
theorem qoa:goB Tryz.prog 98 = true:=by kernel_rfl
theorem qt7:goB Tryz.prog 99 = true:=by kernel_rfl
theorem qpk:∃ i,Tryz.prog.info? 104 = some i ∧ i.size = 1:=⟨_,rfl,by kernel_rfl⟩
theorem qrx:∃ i,Tryz.prog.info? 151 = some i ∧ i.size = 1:=⟨_,rfl,by kernel_rfl⟩
theorem qfp:∃ i,Tryz.prog.info? 157 = some i ∧ i.size = 2:=⟨_,rfl,by kernel_rfl⟩
theorem qi5:∃ i,Tryz.prog.info? 162 = some i ∧ i.size = 2:=⟨_,rfl,by kernel_rfl⟩
theorem qf1:∃ i,Tryz.prog.info? 172 = some i ∧ i.size = 3:=⟨_,rfl,by kernel_rfl⟩
theorem qvA:∃ i,Tryz.prog.info? 25 = some i ∧ i.size = 1:=⟨_,rfl,by kernel_rfl⟩
theorem qbO:∃ i,Tryz.prog.info? 3 = some i ∧ i.size = 1:=⟨_,rfl,by kernel_rfl⟩
theorem qnf:∃ i,Tryz.prog.info? 4 = some i ∧ i.size = 1:=⟨_,rfl,by kernel_rfl⟩
theorem qmJ:∃ i,Tryz.prog.info? 44 = some i ∧ i.size = 2:=⟨_,rfl,by kernel_rfl⟩
theorem qiF:∃ i,Tryz.prog.info? 49 = some i ∧ i.size = 2:=⟨_,rfl,by kernel_rfl⟩
theorem qs4:∃ i,Tryz.prog.info? 50 = some i ∧ i.size = 1:=⟨_,rfl,by kernel_rfl⟩
theorem qjt:∃ i,Tryz.prog.info? 52 = some i ∧ i.size = 4:=⟨_,rfl,by kernel_rfl⟩
theorem qse:∃ i,Tryz.prog.info? 80 = some i ∧ i.size = 6:=⟨_,rfl,by kernel_rfl⟩
theorem qkB:∃ i,Tryz.prog.info? 9 = some i ∧ i.size = 1:=⟨_,rfl,by kernel_rfl⟩
theorem qdn:∃ i,Tryz.prog.info? 92 = some i ∧ i.size = 3:=⟨_,rfl,by kernel_rfl⟩
theorem qnq:oneB Tryz.prog 104 = true:=by kernel_rfl
theorem qoV:oneB Tryz.prog 108 = true:=by kernel_rfl
theorem qi9:oneB Tryz.prog 127 = true:=by kernel_rfl
theorem quJ:oneB Tryz.prog 130 = true:=by kernel_rfl
theorem qij:oneB Tryz.prog 151 = true:=by kernel_rfl
theorem qlg:oneB Tryz.prog 154 = true:=by kernel_rfl
theorem qje:oneB Tryz.prog 159 = true:=by kernel_rfl
theorem qc4:oneB Tryz.prog 25 = true:=by kernel_rfl
theorem qaC:oneB Tryz.prog 3 = true:=by kernel_rfl
theorem qeQ:oneB Tryz.prog 4 = true:=by kernel_rfl
theorem qdA:oneB Tryz.prog 42 = true:=by kernel_rfl
theorem qdz:oneB Tryz.prog 50 = true:=by kernel_rfl
theorem qeS:oneB Tryz.prog 53 = true:=by kernel_rfl
theorem qhj:oneB Tryz.prog 64 = true:=by kernel_rfl
theorem qaN:oneB Tryz.prog 9 = true:=by kernel_rfl
theorem qrJ:qg3 Tryz.prog 153 = some [(0,1),(1,1),(2,1)]:=by kernel_rfl
theorem qog:qg3 Tryz.prog 162 = some [(0,1),(1,1)]:=by kernel_rfl
theorem qdN:qg3 Tryz.prog 172 = some [(0,1),(1,1),(2,1)]:=by kernel_rfl
theorem qpu:qg3 Tryz.prog 44 = some [(0,1),(1,1)]:=by kernel_rfl
theorem qpB:qg3 Tryz.prog 49 = some [(0,1),(1,1)]:=by kernel_rfl
theorem qm2:qg3 Tryz.prog 52 = some [(0,1),(1,1),(2,1),(3,1)]:=by kernel_rfl
theorem qsp:qg3 Tryz.prog 88 = some [(0,1),(1,1),(2,1),(3,1)]:=by kernel_rfl
theorem qsF:qg3 Tryz.prog 92 = some [(0,1),(1,1),(2,1)]:=by kernel_rfl
theorem qgx:SlT Tryz.prog 104 3 1:=SlT.of (by kernel_rfl)
theorem qhS:SlT Tryz.prog 107 4 1:=SlT.of (by kernel_rfl)
theorem qfM:SlT Tryz.prog 151 162 2:=SlT.of (by kernel_rfl)
theorem qeT:SlT Tryz.prog 154 157 2:=SlT.of (by kernel_rfl)
theorem qm1:SlT Tryz.prog 173 172 3:=SlT.of (by kernel_rfl)
theorem qc2:SlT Tryz.prog 22 44 2:=SlT.of (by kernel_rfl)
theorem qbe:SlT Tryz.prog 32 9 1:=SlT.of (by kernel_rfl)
theorem qea:SlT Tryz.prog 42 53 1:=SlT.of (by kernel_rfl)
theorem qcx:SlT Tryz.prog 50 49 2:=SlT.of (by kernel_rfl)
theorem qbT:SlT Tryz.prog 53 52 4:=SlT.of (by kernel_rfl)
theorem qbr:SlT Tryz.prog 64 42 1:=SlT.of (by kernel_rfl)
theorem qu1:qpS Tryz.prog 4 = some (vb false):=by kernel_rfl
theorem qnO:qdE Tryz.prog 104 = some [(Value.slice none 0 0)]:=by kernel_rfl
theorem qtm:qdE Tryz.prog 153 = some [(Value.slice none 0 0),(Value.slice none 0 0),(Value.slice none 0 0)]:=by kernel_rfl
theorem qe1:qdE Tryz.prog 157 = some [vi 0,vi 0]:=by kernel_rfl
theorem qf6:qdE Tryz.prog 162 = some [vu 0,(vs ([]))]:=by kernel_rfl
theorem qbH:qdE Tryz.prog 172 = some [(vs ([])),(Value.slice none 0 0),vb false]:=by kernel_rfl
theorem qib:qdE Tryz.prog 3 = some [vi 0]:=by kernel_rfl
theorem qqd:qdE Tryz.prog 4 = some [vb false]:=by kernel_rfl
theorem qf2:qdE Tryz.prog 42 = some [(Value.slice none 0 0)]:=by kernel_rfl
theorem qin:qdE Tryz.prog 44 = some [(vs ([])),(Value.slice none 0 0)]:=by kernel_rfl
theorem qfb:qdE Tryz.prog 49 = some [vi 0,vi 0]:=by kernel_rfl
theorem qdS:qdE Tryz.prog 52 = some [vi 0,vi 0,vb false,(Value.slice none 0 0)]:=by kernel_rfl
theorem qpa:qdE Tryz.prog 53 = some [(Value.slice none 0 0)]:=by kernel_rfl
theorem qoZ:qdE Tryz.prog 80 = some [(vs ([])),(vs ([])),(vs ([])),(vs ([])),(vs ([])),(vs ([]))]:=by kernel_rfl
theorem quT:qdE Tryz.prog 88 = some [(vs ([])),vi 0,vi 0,vi 0]:=by kernel_rfl
theorem qdB:qdE Tryz.prog 9 = some [(vs ([]))]:=by kernel_rfl
theorem qlj:qdE Tryz.prog 92 = some [vb false,(vs ([])),(vs ([]))]:=by kernel_rfl
def qo8 (u:World) (m0:Mem) (S:Segs) (r:Arr6_List_UInt8) (a:Act) (w:World):Prop :=
 ∃ m1 v0,m0.le m1 ∧ Ok u m1 S w ∧ a.defers = [] ∧ RVs Tryz.prog a w [.c 0 80 (.agg v0.toArray)] ∧ qj9 m1 v0 r
theorem qlf (N:Nat) {r:Arr6_List_UInt8} (hF:qj5 N  = some r) (hG:Glob u) (ok:Ok u m0 S w) :
  Calls Tryz.prog 55 [].toArray w fun e w'=>∃ m1 v0,e = .returned (.agg v0.toArray) ∧ m0.le m1 ∧ Ok u m1 S w' ∧ qj9 m1 v0 r:=by
 have le_m0:=Mem.le.refl m0
 unfold qj5 at hF
 refine en (qo8 u m0 S) r Tryz.func55 rfl rfl rfl (by rintro a w ⟨m1,v0,hle,ok,hd,hrv,h0⟩; exact qat [.c 0 80 (.agg v0.toArray)] hd rfl hrv ⟨m1,v0,rfl,hle,ok,h0⟩) fun fin a E=>sg<|qaR E ok qoZ rfl rfl fun b1 a w E ok=>wn<|sg ?_
 refine lv E ok (qtH (ps:=[(0,.const (vs ([122,101,114,111]))),(1,.const (vs ([111,110,101]))),(2,.const (vs ([116,119,111]))),(3,.const (vs ([102,101,119]))),(4,.const (vs ([109,97,110,121]))),(5,.const (vs ([111,116,104,101,114])))]) (qs:=[(0,[(vs ([122,101,114,111]))]),(1,[(vs ([111,110,101]))]),(2,[(vs ([116,119,111]))]),(3,[(vs ([102,101,119]))]),(4,[(vs ([109,97,110,121]))]),(5,[(vs ([111,116,104,101,114]))])]) (cs:=[(vs ([122,101,114,111])),(vs ([111,110,101])),(vs ([116,119,111])),(vs ([102,101,119])),(vs ([109,97,110,121])),(vs ([111,116,104,101,114]))]) qoZ qvS rfl ⟨rfl,rfl,rfl,⟨rfl,rfl,rfl,⟨rfl,rfl,rfl,⟨rfl,rfl,rfl,⟨rfl,rfl,rfl,⟨rfl,rfl,rfl,trivial⟩⟩⟩⟩⟩⟩ rfl) fun a E=>qae E ok 0 rfl rfl rfl qse rfl rfl ⟨rfl,rfl,rfl,rfl,rfl,rfl,trivial⟩ rfl rfl fun w ok=>wn<|wp_ret ?_
 exact fin hF ⟨m0,[(vs ([122,101,114,111])),(vs ([111,110,101])),(vs ([116,119,111])),(vs ([102,101,119])),(vs ([109,97,110,121])),(vs ([111,116,104,101,114]))],le_m0,ok.drop,E.d,⟨rv_c (cs:=[(vs ([122,101,114,111])),(vs ([111,110,101])),(vs ([116,119,111])),(vs ([102,101,119])),(vs ([109,97,110,121])),(vs ([111,116,104,101,114]))]) E ok rfl qvY rfl (qac.own 0 rfl rfl),trivial⟩,⟨rfl,(show ([122,101,114,111]:List UInt8).length ≤ LIMS by decide),(show ([111,110,101]:List UInt8).length ≤ LIMS by decide),(show ([116,119,111]:List UInt8).length ≤ LIMS by decide),(show ([102,101,119]:List UInt8).length ≤ LIMS by decide),(show ([109,97,110,121]:List UInt8).length ≤ LIMS by decide),(show ([111,116,104,101,114]:List UInt8).length ≤ LIMS by decide)⟩⟩
def qgX (u:World) (m0:Mem) (S:Segs) (r:Int) (a:Act) (w:World):Prop :=
 Ok u m0 S w ∧ a.defers = [] ∧ RVs Tryz.prog a w [.t 4 (.int .i64 r)] ∧ InR .i64 r
theorem qja (N:Nat) (vs_0:Value) (s_0:List (List UInt8)) (hs_0:(pL 1 pS) m0 [vs_0] s_0) (v_1:List UInt8) (lv_1:v_1.length ≤ LIMS) {r:Int} (hF:qel N s_0 v_1 = some r) (hG:Glob u) (ok:Ok u m0 S w) :
  Calls Tryz.prog 79 [vs_0,vs v_1].toArray w fun e w'=>(e = .returned (.int .i64 r) ∧ Ok u m0 S w') ∧ InR .i64 r:=by
 unfold qel at hF
 refine en (qgX u m0 S) r Tryz.func79 rfl rfl rfl (by rintro a w ⟨ok,hd,hrv,h0⟩; exact qat [.t 4 (.int .i64 r)] hd rfl hrv ⟨⟨rfl,ok⟩,h0⟩) fun fin a E=>sg<|aw E rfl fun a E=>wp_seq<|wp_seq ?_
 refine qab<|mv E rfl fun a E=>lv E ok (qaH qbe hs_0 rfl) fun a E=>mv E rfl fun a E=>wn<|wp_block ?_
 obtain ⟨o2,hL,hF⟩:=bnd hF
 refine qaI _ (fun (s:Int) a w=>Ok u m0 (S) w ∧ Env 19 a [(0,vs_0),(1,vs v_1),(7,(vi (s_0.length:Int))),(8,vi s)] ∧ InR .i64 s) (fun (b:(Unit ⊕ Int)) e a w=>(Sum.elim (fun b18=>e = (.exit 0) ∧ Ok u m0 (S) w ∧ Env 19 a []) (fun b19=>e = .ret ∧ qgX u m0 S b19 a w)) b) ?_ ?_ N _ a w hL ⟨ok,E.keep [0,1,7,8],(ir 0)⟩
 rotate_left
 ·intro e a w _ hO
  rcases o2 with o2 | o2
  rotate_left
  ·replace hF:=qa7 hF
   obtain ⟨rfl,hret⟩:=hO
   refine qax<|qaf ?_
   exact fin hF hret
  replace hF:=qa6 hF
  obtain ⟨rfl,ok,E⟩:=hO
  refine qaK<|qaa<|sg<|aw E rfl fun a E=>wp_ret ?_
  exact fin hF ⟨ok,E.d,⟨rv_t E rfl,trivial⟩,(ir (-1))⟩
 rintro x_4 a w r ⟨ok,E,r5⟩ hF
 replace hF:qcJ N s_0 v_1 x_4 = some r:=hF
 unfold qcJ at hF
 refine sg<|lw E (qaF rfl rfl) fun a E=>wn<|wp_seq<|cf E rfl hF (fun hc6 hF=>?_) fun hc6 hF=>?_
 rotate_left
 ·refine wp_exit<|qaB ?_
  obtain rfl:=sj hF
  exact so (sl ⟨rfl,⟨ok,E.keep []⟩⟩)
 refine wp_skip<|qaa<|wp_seq<|wp_block<|sg<|mv E rfl fun a E=>av E rfl fun a E=>?_
 refine wn<|sg<|mv E rfl fun a E=>mv E rfl fun a E=>mv E rfl fun a E=>?_
 obtain ⟨x7,e8,hF⟩:=bnd hF
 obtain ⟨b9,o10,es11,hl12,rr13,at14,yy15⟩:=qaO qbe hs_0 e8 (P:=Tryz.prog) (X:=.tmp 12) (I:=.tmp 13) (kd:=.i64) (qak E rfl) (qak E rfl)
 obtain ⟨rfl,l16⟩:=rr13
 refine lv E ok (yy15 _ _) fun a E=>lv E ok (qap qaN rfl (qac.ro at14)) fun a E=>lw E (qet rfl rfl) fun a E=>wn<|cf E rfl hF (fun hc17 hF=>?_) fun hc17 hF=>?_
 rotate_left
 ·refine wp_skip<|qal<|qaa<|qab<|lw E (qaD rfl rfl (InR.inc r5 (qaj hs_0) hc6)) fun a E=>mv E rfl fun a E=>wpList_nil ?_
  obtain rfl:=sj hF
  exact qau ⟨ok,E.keep [0,1,7,8],(InR.inc r5 (qaj hs_0) hc6)⟩
 refine sg<|mv E rfl fun a E=>aw E rfl fun a E=>wp_ret<|qax ?_
 refine qaf ?_
 obtain rfl:=sj hF
 exact so (sr ⟨rfl,⟨ok,E.d,⟨rv_t E rfl,trivial⟩,r5⟩⟩)
def qiq (u:World) (m0:Mem) (S:Segs) (r:Bool) (a:Act) (w:World):Prop :=
 Ok u m0 S w ∧ a.defers = [] ∧ RVs Tryz.prog a w [.t 4 (.bool r)]
theorem qgo (N:Nat) (vs_0:Value) (s_0:List (List UInt8)) (hs_0:(pL 1 pS) m0 [vs_0] s_0) (v_1:List UInt8) (lv_1:v_1.length ≤ LIMS) {r:Bool} (hF:qbz N s_0 v_1 = some r) (hG:Glob u) (ok:Ok u m0 S w) :
  Calls Tryz.prog 56 [vs_0,vs v_1].toArray w fun e w'=>(e = .returned (.bool r) ∧ Ok u m0 S w'):=by
 unfold qbz at hF
 refine en (qiq u m0 S) r Tryz.func56 rfl rfl rfl (by rintro a w ⟨ok,hd,hrv⟩; exact qat [.t 4 (.bool r)] hd rfl hrv ⟨rfl,ok⟩) fun fin a E=>sg<|aw E rfl fun a E=>sg ?_
 refine mv E rfl fun a E=>mv E rfl fun a E=>?_
 obtain ⟨r1,e2,hF⟩:=bnd hF
 refine qag E qwJ rfl (qja N _ s_0 hs_0 v_1 lv_1 e2 hG ok) rfl rfl ?_
 rintro _ w ⟨⟨rfl,ok⟩,r3⟩
 refine ⟨_,rfl,fun a E=>?_⟩
 refine lw E (qgh rfl rfl) fun a E=>aw E rfl fun a E=>wp_ret ?_
 exact fin hF ⟨ok,E.d,⟨rv_t E rfl,trivial⟩⟩
def qoN (u:World) (m0:Mem) (S:Segs) (r:Bool) (a:Act) (w:World):Prop :=
 Ok u m0 S w ∧ a.defers = [] ∧ RVs Tryz.prog a w [.t 2 (.bool r)]
theorem qpj (N:Nat) (class_0:List UInt8) (lclass_0:class_0.length ≤ LIMS) {r:Bool} (hF:qhL N class_0 = some r) (hG:Glob u) (ok:Ok u m0 S w) :
  Calls Tryz.prog 29 [vs class_0].toArray w fun e w'=>(e = .returned (.bool r) ∧ Ok u m0 S w'):=by
 have hb0:=ok.base
 have le_m0:=Mem.le.refl m0
 unfold qhL at hF
 refine en (qoN u m0 S) r Tryz.func29 rfl rfl rfl (by rintro a w ⟨ok,hd,hrv⟩; exact qat [.t 2 (.bool r)] hd rfl hrv ⟨rfl,ok⟩) fun fin a E=>sg<|aw E rfl fun a E=>sg ?_
 obtain ⟨r1,e2,hF⟩:=bnd hF
 refine qag E qwH rfl (qlf N  e2 hG ok) rfl rfl ?_
 rintro _ w ⟨m3,vs4,rfl,hle,ok,h5⟩
 have le_m0:=le_m0.trans hle
 obtain ⟨rfl,l6,l7,l8,l9,l10,l11⟩:=h5
 refine ⟨_,rfl,fun a E=>?_⟩
 refine qaR E ok qoZ rfl rfl fun b12 a w E ok=>qae E ok 0 rfl rfl rfl qse rfl rfl ⟨rfl,rfl,rfl,rfl,rfl,rfl,trivial⟩ rfl rfl fun w ok=>wn<|sg<|lv E ok (qw3 Tryz.underlying80 qkB rfl) fun a E=>?_
 have lits:=(show Lits 1 pS m3 [vs r1.e0,vs r1.e1,vs r1.e2,vs r1.e3,vs r1.e4,vs r1.e5] ([r1.e0,r1.e1,r1.e2,r1.e3,r1.e4,r1.e5]:List (List UInt8)) from ⟨⟨_,rfl,rfl,(qc3 l6)⟩,⟨_,rfl,rfl,(qc3 l7)⟩,⟨_,rfl,rfl,(qc3 l8)⟩,⟨_,rfl,rfl,(qc3 l9)⟩,⟨_,rfl,rfl,(qc3 l10)⟩,⟨_,rfl,rfl,(qc3 l11)⟩,trivial⟩)
 obtain ⟨m13,hle,ok,hfz⟩:=(ok.frs 0 rfl).freeze
 have h14:=quW (n:=6) mS lits rfl hle hfz rfl rfl
 clear lits
 have le_m0:=le_m0.trans hle
 refine mv E rfl fun a E=>?_
 obtain ⟨r15,e16,hF⟩:=bnd hF
 refine lc E qt3 rfl (qgo N _ ([r1.e0,r1.e1,r1.e2,r1.e3,r1.e4,r1.e5]:List (List UInt8)) h14 class_0 lclass_0 e16 hG ok) fun w ok a E=>aw E rfl fun a E=>wp_ret ?_
 exact fin hF ⟨(ok).down hb0 le_m0,E.d,⟨rv_t E rfl,trivial⟩⟩
def qid (u:World) (m0:Mem) (S:Segs) (r:Int) (a:Act) (w:World):Prop :=
 Ok u m0 S w ∧ a.defers = [] ∧ RVs Tryz.prog a w [.t 4 (.int .i64 r)] ∧ InR .i64 r
theorem qkO (N:Nat) (vs_0:Value) (s_0:List (Int)) (hs_0:(pL 1 (pI .i64)) m0 [vs_0] s_0) (v_1:Int) (rv_1:InR .i64 v_1) {r:Int} (hF:qfS N s_0 v_1 = some r) (hG:Glob u) (ok:Ok u m0 S w) :
  Calls Tryz.prog 140 [vs_0,vi v_1].toArray w fun e w'=>(e = .returned (.int .i64 r) ∧ Ok u m0 S w') ∧ InR .i64 r:=by
 unfold qfS at hF
 refine en (qid u m0 S) r Tryz.func140 rfl rfl rfl (by rintro a w ⟨ok,hd,hrv,h0⟩; exact qat [.t 4 (.int .i64 r)] hd rfl hrv ⟨⟨rfl,ok⟩,h0⟩) fun fin a E=>sg<|aw E rfl fun a E=>wp_seq<|wp_seq ?_
 refine qab<|mv E rfl fun a E=>lv E ok (qaH qgx hs_0 rfl) fun a E=>mv E rfl fun a E=>wn<|wp_block ?_
 obtain ⟨o2,hL,hF⟩:=bnd hF
 refine qaI _ (fun (s:Int) a w=>Ok u m0 (S) w ∧ Env 19 a [(0,vs_0),(1,vi v_1),(7,(vi (s_0.length:Int))),(8,vi s)] ∧ InR .i64 s) (fun (b:(Unit ⊕ Int)) e a w=>(Sum.elim (fun b18=>e = (.exit 0) ∧ Ok u m0 (S) w ∧ Env 19 a []) (fun b19=>e = .ret ∧ qid u m0 S b19 a w)) b) ?_ ?_ N _ a w hL ⟨ok,E.keep [0,1,7,8],(ir 0)⟩
 rotate_left
 ·intro e a w _ hO
  rcases o2 with o2 | o2
  rotate_left
  ·replace hF:=qa7 hF
   obtain ⟨rfl,hret⟩:=hO
   refine qax<|qaf ?_
   exact fin hF hret
  replace hF:=qa6 hF
  obtain ⟨rfl,ok,E⟩:=hO
  refine qaK<|qaa<|sg<|aw E rfl fun a E=>wp_ret ?_
  exact fin hF ⟨ok,E.d,⟨rv_t E rfl,trivial⟩,(ir (-1))⟩
 rintro x_4 a w r ⟨ok,E,r5⟩ hF
 replace hF:qdW N s_0 v_1 x_4 = some r:=hF
 unfold qdW at hF
 refine sg<|lw E (qaF rfl rfl) fun a E=>wn<|wp_seq<|cf E rfl hF (fun hc6 hF=>?_) fun hc6 hF=>?_
 rotate_left
 ·refine wp_exit<|qaB ?_
  obtain rfl:=sj hF
  exact so (sl ⟨rfl,⟨ok,E.keep []⟩⟩)
 refine wp_skip<|qaa<|wp_seq<|wp_block<|sg<|mv E rfl fun a E=>av E rfl fun a E=>?_
 refine wn<|sg<|mv E rfl fun a E=>mv E rfl fun a E=>mv E rfl fun a E=>?_
 obtain ⟨x7,e8,hF⟩:=bnd hF
 obtain ⟨b9,o10,es11,hl12,rr13,at14,yy15⟩:=qaO qgx hs_0 e8 (P:=Tryz.prog) (X:=.tmp 12) (I:=.tmp 13) (kd:=.i64) (qak E rfl) (qak E rfl)
 obtain ⟨rfl,r16⟩:=rr13
 refine lv E ok (yy15 _ _) fun a E=>lv E ok (qap qaC rfl (qac.ro at14)) fun a E=>lw E (qaM rfl rfl) fun a E=>wn<|cf E rfl hF (fun hc17 hF=>?_) fun hc17 hF=>?_
 rotate_left
 ·refine wp_skip<|qal<|qaa<|qab<|lw E (qaD rfl rfl (InR.inc r5 (qaj hs_0) hc6)) fun a E=>mv E rfl fun a E=>wpList_nil ?_
  obtain rfl:=sj hF
  exact qau ⟨ok,E.keep [0,1,7,8],(InR.inc r5 (qaj hs_0) hc6)⟩
 refine sg<|mv E rfl fun a E=>aw E rfl fun a E=>wp_ret<|qax ?_
 refine qaf ?_
 obtain rfl:=sj hF
 exact so (sr ⟨rfl,⟨ok,E.d,⟨rv_t E rfl,trivial⟩,r5⟩⟩)
def qjM (u:World) (m0:Mem) (S:Segs) (r:Bool) (a:Act) (w:World):Prop :=
 Ok u m0 S w ∧ a.defers = [] ∧ RVs Tryz.prog a w [.t 4 (.bool r)]
theorem qjP (N:Nat) (vs_0:Value) (s_0:List (Int)) (hs_0:(pL 1 (pI .i64)) m0 [vs_0] s_0) (v_1:Int) (rv_1:InR .i64 v_1) {r:Bool} (hF:qdY N s_0 v_1 = some r) (hG:Glob u) (ok:Ok u m0 S w) :
  Calls Tryz.prog 111 [vs_0,vi v_1].toArray w fun e w'=>(e = .returned (.bool r) ∧ Ok u m0 S w'):=by
 unfold qdY at hF
 refine en (qjM u m0 S) r Tryz.func111 rfl rfl rfl (by rintro a w ⟨ok,hd,hrv⟩; exact qat [.t 4 (.bool r)] hd rfl hrv ⟨rfl,ok⟩) fun fin a E=>sg<|aw E rfl fun a E=>sg ?_
 refine mv E rfl fun a E=>mv E rfl fun a E=>?_
 obtain ⟨r1,e2,hF⟩:=bnd hF
 refine qag E qvu rfl (qkO N _ s_0 hs_0 v_1 rv_1 e2 hG ok) rfl rfl ?_
 rintro _ w ⟨⟨rfl,ok⟩,r3⟩
 refine ⟨_,rfl,fun a E=>?_⟩
 refine lw E (qgh rfl rfl) fun a E=>aw E rfl fun a E=>wp_ret ?_
 exact fin hF ⟨ok,E.d,⟨rv_t E rfl,trivial⟩⟩
def qkQ (u:World) (m0:Mem) (S:Segs) (r:Bool) (a:Act) (w:World):Prop :=
 Ok u m0 S w ∧ a.defers = [] ∧ RVs Tryz.prog a w [.t 4 (.bool r)]
theorem qip (N:Nat) (operand_0:Int) (roperand_0:InR .i64 operand_0) (mod_1:Int) (rmod_1:InR .i64 mod_1) {r:Bool} (hF:qeh N operand_0 mod_1 = some r) (hG:Glob u) (ok:Ok u m0 S w) :
  Calls Tryz.prog 80 [vi operand_0,vi mod_1].toArray w fun e w'=>(e = .returned (.bool r) ∧ Ok u m0 S w'):=by
 unfold qeh at hF
 refine en (qkQ u m0 S) r Tryz.func80 rfl rfl rfl (by rintro a w ⟨ok,hd,hrv⟩; exact qat [.t 4 (.bool r)] hd rfl hrv ⟨rfl,ok⟩) fun fin a E=>sg<|aw E rfl fun a E=>wp_seq<|wp_seq ?_
 refine qab<|mv E rfl fun a E=>wn<|wp_block<|wp_seq<|sg ?_
 refine lw E (qaM rfl rfl) fun a E=>aw E rfl fun a E=>?_
 obtain ⟨o1,hJ,hF⟩:=bnd hF
 refine qaV (Q':=fun e a w=>e = .normal ∧ Ok u m0 (S) w ∧ Env 21 a [(1,vi mod_1),(5,vi operand_0),(6,vb o1)]) ?_ ?_
 ·replace hF:=hJ
  clear hJ
  refine cf E rfl hF (fun hc2 hF=>?_) fun hc2 hF=>?_
  ·refine wp_skip ?_
   obtain rfl:=sj hF
   exact ⟨rfl,⟨ok,E.keep [1,5,6]⟩⟩
  refine qab<|lw E (qaM rfl rfl) fun a E=>av E rfl fun a E=>wpList_nil ?_
  obtain rfl:=sj hF
  exact ⟨rfl,⟨ok,E.keep [1,5,6]⟩⟩
 clear hJ
 intro e a w hO
 obtain ⟨rfl,ok,E⟩:=hO
 refine qaa<|cf E rfl hF (fun hc3 hF=>?_) fun hc3 hF=>?_
 ·refine sg<|qbs (R:=(pI .i64)) (xo:=[.const (vi 2),.const (vi 3),.const (vi 4),.const (vi 5),.const (vi 6),.const (vi 10),.const (vi 20),.const (vi 25),.const (vi 50),.const (vi 100)]) (xs:=([2,3,4,5,6,10,20,25,50,100]:List (Int))) E ok qgx qib rfl ⟨⟨_,rfl,rfl,(qdw (ir 2))⟩,⟨_,rfl,rfl,(qdw (ir 3))⟩,⟨_,rfl,rfl,(qdw (ir 4))⟩,⟨_,rfl,rfl,(qdw (ir 5))⟩,⟨_,rfl,rfl,(qdw (ir 6))⟩,⟨_,rfl,rfl,(qdw (ir 10))⟩,⟨_,rfl,rfl,(qdw (ir 20))⟩,⟨_,rfl,rfl,(qdw (ir 25))⟩,⟨_,rfl,rfl,(qdw (ir 50))⟩,⟨_,rfl,rfl,(qdw (ir 100))⟩,trivial⟩ rfl rfl rfl rfl fun c4 M5 a w E ok h6=>mv E rfl fun a E=>?_
  obtain ⟨r12,e13,hF⟩:=bnd hF
  obtain ⟨m7,hle9,ok8,hfz10⟩:=(ok.frs 0 rfl).freeze
  have h11:=ORow.froz (mI .i64) h6 hle9 hfz10 (by decide)
  refine qag E qwe rfl (qjP N _ ([2,3,4,5,6,10,20,25,50,100]:List (Int)) h11 mod_1 rmod_1 e13 hG ok8) rfl rfl ?_
  rintro _ w ⟨rfl,okz⟩
  replace ok:=(Ok.thawAt 0 rfl ok hle9 hfz10 okz)
  refine ⟨_,rfl,fun a E=>?_⟩
  refine aw E rfl fun a E=>wp_ret<|qax<|qaf ?_
  exact fin hF ⟨ok.drop,E.d,⟨rv_t E rfl,trivial⟩⟩
 refine wp_seq<|sg<|lw E (qaM rfl rfl) fun a E=>aw E rfl fun a E=>?_
 obtain ⟨o14,hJ,hF⟩:=bnd hF
 refine qaV (Q':=fun e a w=>e = .normal ∧ Ok u m0 (S) w ∧ Env 21 a [(1,vi mod_1),(12,vb o14)]) ?_ ?_
 ·replace hF:=hJ
  clear hJ
  refine cf E rfl hF (fun hc15 hF=>?_) fun hc15 hF=>?_
  ·refine wp_skip ?_
   obtain rfl:=sj hF
   exact ⟨rfl,⟨ok,E.keep [1,12]⟩⟩
  refine qab<|lw E (qaM rfl rfl) fun a E=>av E rfl fun a E=>wpList_nil ?_
  obtain rfl:=sj hF
  exact ⟨rfl,⟨ok,E.keep [1,12]⟩⟩
 clear hJ
 intro e a w hO
 obtain ⟨rfl,ok,E⟩:=hO
 refine qaa<|cf E rfl hF (fun hc16 hF=>?_) fun hc16 hF=>?_
 rotate_left
 ·refine wp_skip<|qal<|qaa<|sg<|aw E rfl fun a E=>?_
  refine wp_ret ?_
  exact fin hF ⟨ok,E.d,⟨rv_t E rfl,trivial⟩⟩
 refine sg<|mv E rfl fun a E=>lw E (qaM rfl rfl) fun a E=>mv E rfl fun a E=>qav (mod_1 == 10) (fun hc17=>?_) (fun hc17=>?_)
 ·replace hF:=qas hc17 hF
  replace E:=E.upd 17 hc17 rfl
  refine ls E fun a E=>ls E fun a E=>pt E rfl rfl fun a E=>aw E rfl fun a E=>wp_ret<|qax ?_
  refine qaf ?_
  exact fin hF ⟨ok,E.d,⟨rv_t E rfl,trivial⟩⟩
 replace hF:=qar hc17 hF
 replace E:=E.upd 17 hc17 rfl
 refine mv E rfl fun a E=>lw E (qaM rfl rfl) fun a E=>pf E rfl rfl fun a E=>aw E rfl fun a E=>wp_ret<|qax ?_
 refine qaf ?_
 exact fin hF ⟨ok,E.d,⟨rv_t E rfl,trivial⟩⟩
def qlR (u:World) (m0:Mem) (S:Segs) (r:Int) (a:Act) (w:World):Prop :=
 Ok u m0 S w ∧ a.defers = [] ∧ RVs Tryz.prog a w [.t 2 (.int .i64 r)] ∧ InR .i64 r
theorem qdR (N:Nat) (operand_0:Int) (roperand_0:InR .i64 operand_0) {r:Int} (hF:qc8 N operand_0 = some r) (hG:Glob u) (ok:Ok u m0 S w) :
  Calls Tryz.prog 81 [vi operand_0].toArray w fun e w'=>(e = .returned (.int .i64 r) ∧ Ok u m0 S w') ∧ InR .i64 r:=by
 unfold qc8 at hF
 refine en (qlR u m0 S) r Tryz.func81 rfl rfl rfl (by rintro a w ⟨ok,hd,hrv,h0⟩; exact qat [.t 2 (.int .i64 r)] hd rfl hrv ⟨⟨rfl,ok⟩,h0⟩) fun fin a E=>sg<|aw E rfl fun a E=>wp_seq<|wp_seq ?_
 refine qab<|mv E rfl fun a E=>lw E (qaM rfl rfl) fun a E=>mv E rfl fun a E=>qav (operand_0 == 3) (fun hc1=>?_) (fun hc1=>?_)
 ·replace hF:=qas hc1 hF
  replace E:=E.upd 5 hc1 rfl
  refine ls E fun a E=>ls E fun a E=>pt E rfl rfl fun a E=>wn<|c_if E rfl (fun _=>?_) (fun h=>by cases h)
  refine sg<|aw E rfl fun a E=>wp_ret<|qaf ?_
  exact fin hF ⟨ok,E.d,⟨rv_t E rfl,trivial⟩,(ir 6)⟩
 replace hF:=qar hc1 hF
 replace E:=E.upd 5 hc1 rfl
 refine mv E rfl fun a E=>lw E (qaM rfl rfl) fun a E=>pf E rfl rfl fun a E=>wn<|cf E rfl hF (fun hc2 hF=>?_) fun hc2 hF=>?_
 ·refine sg<|aw E rfl fun a E=>wp_ret<|qaf ?_
  exact fin hF ⟨ok,E.d,⟨rv_t E rfl,trivial⟩,(ir 6)⟩
 refine wp_skip<|qaa<|sg<|aw E rfl fun a E=>wp_ret ?_
 exact fin hF ⟨ok,E.d,⟨rv_t E rfl,trivial⟩,(ir 100)⟩
def qhV (u:World) (m0:Mem) (S:Segs) (r:Bool) (a:Act) (w:World):Prop :=
 Ok u m0 S w ∧ a.defers = [] ∧ RVs Tryz.prog a w [.t 2 (.bool r)]
theorem qnd (N:Nat) (vr_0:List Value) (r_0:Relation) (hr_0:qai m0 vr_0 r_0) {r:Bool} (hF:qf8 N r_0 = some r) (hG:Glob u) (ok:Ok u m0 S w) :
  Calls Tryz.prog 58 [.agg vr_0.toArray].toArray w fun e w'=>(e = .returned (.bool r) ∧ Ok u m0 S w'):=by
 obtain ⟨c3,rfl,r1,r2,h4⟩:=hr_0
 unfold qf8 at hF
 refine en (qhV u m0 S) r Tryz.func58 rfl rfl rfl (by rintro a w ⟨ok,hd,hrv⟩; exact qat [.t 2 (.bool r)] hd rfl hrv ⟨rfl,ok⟩) fun fin a E=>sg<|qcH E ok rfl rfl rfl fun b5 a w E ok=>aw E rfl fun a E=>wp_seq ?_
 refine sg<|fv E qbl rfl fun a E=>ld E ok qaC 0 rfl rfl rfl fun a E=>lw E (qaF rfl rfl) fun a E=>mv E rfl fun a E=>qav (decide (r_0.Operand < 1)) (fun hc6=>?_) (fun hc6=>?_)
 ·replace hF:=qas hc6 hF
  replace E:=E.upd 8 hc6 rfl
  refine ls E fun a E=>ls E fun a E=>ls E fun a E=>pt E rfl rfl fun a E=>mv E rfl fun a E=>ls E fun a E=>ls E fun a E=>ls E fun a E=>?_
  refine ls E fun a E=>ls E fun a E=>ls E fun a E=>ls E fun a E=>ls E fun a E=>ls E fun a E=>ls E fun a E=>ls E fun a E=>?_
  refine pt E rfl rfl fun a E=>mv E rfl fun a E=>ls E fun a E=>ls E fun a E=>ls E fun a E=>ls E fun a E=>pt E rfl rfl fun a E=>mv E rfl fun a E=>?_
  refine ls E fun a E=>ls E fun a E=>ls E fun a E=>ls E fun a E=>pt E rfl rfl fun a E=>wn<|c_if E rfl (fun _=>?_) (fun h=>by cases h)
  refine sg<|aw E rfl fun a E=>wp_ret<|qaf ?_
  exact fin hF ⟨ok.drop,E.d,⟨rv_t E rfl,trivial⟩⟩
 replace hF:=qar hc6 hF
 replace E:=E.upd 8 hc6 rfl
 refine fv E qbl rfl fun a E=>ld E ok qaC 0 rfl rfl rfl fun a E=>lw E (qa4 rfl rfl) fun a E=>pf E rfl rfl fun a E=>mv E rfl fun a E=>qav (decide (r_0.Operand > 6)) (fun hc7=>?_) (fun hc7=>?_)
 ·replace hF:=qas hc7 hF
  replace E:=E.upd 13 hc7 rfl
  refine ls E fun a E=>ls E fun a E=>ls E fun a E=>ls E fun a E=>ls E fun a E=>ls E fun a E=>ls E fun a E=>ls E fun a E=>?_
  refine ls E fun a E=>ls E fun a E=>ls E fun a E=>pt E rfl rfl fun a E=>mv E rfl fun a E=>ls E fun a E=>ls E fun a E=>ls E fun a E=>?_
  refine ls E fun a E=>pt E rfl rfl fun a E=>mv E rfl fun a E=>ls E fun a E=>ls E fun a E=>ls E fun a E=>ls E fun a E=>pt E rfl rfl fun a E=>?_
  refine wn<|c_if E rfl (fun _=>?_) (fun h=>by cases h)
  refine sg<|aw E rfl fun a E=>wp_ret<|qaf ?_
  exact fin hF ⟨ok.drop,E.d,⟨rv_t E rfl,trivial⟩⟩
 replace hF:=qar hc7 hF
 replace E:=E.upd 13 hc7 rfl
 refine fv E qef rfl fun a E=>ld E ok qaC 0 rfl rfl rfl fun a E=>lw E (qaW rfl rfl) fun a E=>mv E rfl fun a E=>qav (r_0.Mod != 0) (fun hc8=>?_) (fun hc8=>?_)
 rotate_left
 ·as_aux_lemma =>
   replace hF:=qar hc8 hF
   replace E:=E.upd 17 hc8 rfl
   refine ls E fun a E=>ls E fun a E=>ls E fun a E=>ls E fun a E=>ls E fun a E=>ls E fun a E=>pf E rfl rfl fun a E=>pf E rfl rfl fun a E=>?_
   refine mv E rfl fun a E=>fv E qck rfl fun a E=>ld E ok qdz 0 rfl rfl rfl fun a E=>lv E ok (qaH qcx h4 rfl) fun a E=>lw E (qaF rfl rfl) fun a E=>pf E rfl rfl fun a E=>mv E rfl fun a E=>qav (decide ((r_0.Spans.length:Int) < 1)) (fun hc40=>?_) (fun hc40=>?_)
   ·replace hF:=qas hc40 hF
    replace E:=E.upd 32 hc40 rfl
    refine ls E fun a E=>ls E fun a E=>ls E fun a E=>ls E fun a E=>pt E rfl rfl fun a E=>wn<|c_if E rfl (fun _=>?_) (fun h=>by cases h)
    refine sg<|aw E rfl fun a E=>wp_ret<|qaf ?_
    exact fin hF ⟨ok.drop,E.d,⟨rv_t E rfl,trivial⟩⟩
   replace hF:=qar hc40 hF
   replace E:=E.upd 32 hc40 rfl
   refine fv E qck rfl fun a E=>ld E ok qdz 0 rfl rfl rfl fun a E=>lv E ok (qaH qcx h4 rfl) fun a E=>lw E (qa4 rfl rfl) fun a E=>pf E rfl rfl fun a E=>wn<|cf E rfl hF (fun hc41 hF=>?_) fun hc41 hF=>?_
   ·refine sg<|aw E rfl fun a E=>wp_ret<|qaf ?_
    exact fin hF ⟨ok.drop,E.d,⟨rv_t E rfl,trivial⟩⟩
   refine wp_skip<|qaa<|wp_seq<|sg<|fv E qck rfl fun a E=>ld E ok qdz 0 rfl rfl rfl fun a E=>lv E ok (qaH qcx h4 rfl) fun a E=>?_
   refine mv E rfl fun a E=>wn<|wp_block ?_
   obtain ⟨o43,hL,hF⟩:=bnd hF
   refine qaI _ (fun (s:Int) a w=>Ok u m0 ([(b5,oc 52 [vi r_0.Operand,vi r_0.Mod,vb r_0.Not,c3])] :: S) w ∧ Env 64 a [(1,vp b5),(39,c3),(40,(vi (r_0.Spans.length:Int))),(41,vi s)] ∧ InR .i64 s) (fun (b:(Unit ⊕ Bool)) e a w=>(Sum.elim (fun b66=>e = (.exit 0) ∧ Ok u m0 ([(b5,oc 52 [vi r_0.Operand,vi r_0.Mod,vb r_0.Not,c3])] :: S) w ∧ Env 64 a []) (fun b67=>e = .ret ∧ qhV u m0 S b67 a w)) b) ?_ ?_ N _ a w hL ⟨ok,E.keep [1,39,40,41],(ir 0)⟩
   rotate_left
   ·intro e a w _ hO
    rcases o43 with o43 | o43
    rotate_left
    ·replace hF:=qa7 hF
     obtain ⟨rfl,hret⟩:=hO
     refine qax<|qaf ?_
     exact fin hF hret
    replace hF:=qa6 hF
    obtain ⟨rfl,ok,E⟩:=hO
    refine qaK<|qaa<|sg<|aw E rfl fun a E=>wp_ret ?_
    exact fin hF ⟨ok.drop,E.d,⟨rv_t E rfl,trivial⟩⟩
   rintro x_45 a w r ⟨ok,E,r46⟩ hF
   replace hF:qgj N r_0 x_45 = some r:=hF
   unfold qgj at hF
   refine sg<|lw E (qaF rfl rfl) fun a E=>wn<|wp_seq<|cf E rfl hF (fun hc47 hF=>?_) fun hc47 hF=>?_
   rotate_left
   ·refine wp_exit<|qaB ?_
    obtain rfl:=sj hF
    exact so (sl ⟨rfl,⟨ok,E.keep []⟩⟩)
   refine wp_skip<|qaa<|wp_seq<|wp_block<|sg ?_
   obtain ⟨x48,e49,hF⟩:=bnd hF
   obtain ⟨b50,o51,es52,hl53,rr54,at55,yy56⟩:=qaO qcx h4 e49 (P:=Tryz.prog) (X:=.tmp 39) (I:=.tmp 41) (kd:=.i64) (qak E rfl) (qak E rfl)
   obtain ⟨rfl,r57,r58⟩:=rr54
   refine lv E ok (yy56 _ _) fun a E=>lv E ok (qao (cs:=[vi x48.From,vi x48.To]) qhI rfl rfl (qac.ro at55)) fun a E=>qaR E ok qfb rfl rfl fun b59 a w E ok=>qae E ok 0 rfl rfl rfl qiF rfl rfl ⟨rfl,rfl,trivial⟩ rfl rfl fun w ok=>wn<|wp_seq<|qfD (by kernel_rfl) (by kernel_rfl) ok ?_
   refine qv E (qan qgr rfl) fun a E=>qv E (qap qaC rfl (qac.own 0 rfl rfl)) fun a E=>qv E (qaF rfl rfl) fun a E=>qv E (qah rfl) fun a E=>qav (decide (x48.From < 0)) (fun hc60=>?_) (fun hc60=>?_)
   ·replace hF:=qas hc60 hF
    replace E:=E.upd 48 hc60 rfl
    refine qs E fun a E=>qs E fun a E=>qs E fun a E=>qs E fun a E=>qs E fun a E=>qv E (qa1 rfl rfl) fun a E=>qv E (qah rfl) fun a E=>qs E fun a E=>?_
    refine qs E fun a E=>qs E fun a E=>qs E fun a E=>qs E fun a E=>qs E fun a E=>qv E (qa1 rfl rfl) fun a E=>wpQuiet_nil ?_
    intro w ok
    refine qaa<|c_if E rfl (fun _=>?_) (fun h=>by cases h)
    refine sg<|aw E rfl fun a E=>wp_ret<|qax<|qaf ?_
    obtain rfl:=sj hF
    exact so (sr ⟨rfl,⟨ok.drop.drop,E.d,⟨rv_t E rfl,trivial⟩⟩⟩)
   replace hF:=qar hc60 hF
   replace E:=E.upd 48 hc60 rfl
   refine qv E (qan qgr rfl) fun a E=>qv E (qap qaC rfl (qac.own 0 rfl rfl)) fun a E=>qv E (qan qf4 rfl) fun a E=>qv E (qap qaC rfl (qac.own 0 rfl rfl)) fun a E=>qv E (qa4 rfl rfl) fun a E=>qv E (qaY rfl rfl) fun a E=>qv E (qah rfl) fun a E=>qav (decide (x48.From > x48.To)) (fun hc61=>?_) (fun hc61=>?_)
   ·replace hF:=qas hc61 hF
    replace E:=E.upd 55 hc61 rfl
    refine qs E fun a E=>qs E fun a E=>qs E fun a E=>qs E fun a E=>qs E fun a E=>qs E fun a E=>qv E (qa1 rfl rfl) fun a E=>wpQuiet_nil ?_
    intro w ok
    refine qaa<|c_if E rfl (fun _=>?_) (fun h=>by cases h)
    refine sg<|aw E rfl fun a E=>wp_ret<|qax<|qaf ?_
    obtain rfl:=sj hF
    exact so (sr ⟨rfl,⟨ok.drop.drop,E.d,⟨rv_t E rfl,trivial⟩⟩⟩)
   replace hF:=qar hc61 hF
   replace E:=E.upd 55 hc61 rfl
   refine qv E (qan qf4 rfl) fun a E=>qv E (qap qaC rfl (qac.own 0 rfl rfl)) fun a E=>qv E (qan qbl rfl) fun a E=>qv E (qap qaC rfl (qac.own 1 rfl rfl)) fun a E=>?_
   obtain ⟨r62,e63,hF⟩:=bnd hF
   obtain ⟨_,_,⟨_,_⟩,r64⟩:=Go.X.Calls.get (qdR N r_0.Operand r1 e63 hG ok)
   refine qhi E qp2 rfl (fun w ok=>(qdR N r_0.Operand r1 e63 hG ok).mono (fun _ _ h=>h.1)) rfl rfl fun a E=>qv E (qa4 rfl rfl) fun a E=>qv E (qaY rfl rfl) fun a E=>wpQuiet_nil ?_
   intro w ok
   refine qaa<|cf E rfl hF (fun hc65 hF=>?_) fun hc65 hF=>?_
   rotate_left
   ·refine wp_skip<|qal<|qaa<|qab<|lw E (qaD rfl rfl (InR.inc r46 (qaj h4) hc47)) fun a E=>mv E rfl fun a E=>wpList_nil ?_
    obtain rfl:=sj hF
    exact qau ⟨(ok.pk 2 [1] rfl (by decide)),E.keep [1,39,40,41],(InR.inc r46 (qaj h4) hc47)⟩
   refine sg<|aw E rfl fun a E=>wp_ret<|qax<|qaf ?_
   obtain rfl:=sj hF
   exact so (sr ⟨rfl,⟨ok.drop.drop,E.d,⟨rv_t E rfl,trivial⟩⟩⟩)
 replace hF:=qas hc8 hF
 replace E:=E.upd 17 hc8 rfl
 refine fv E qbl rfl fun a E=>ld E ok qaC 0 rfl rfl rfl fun a E=>fv E qef rfl fun a E=>ld E ok qaC 0 rfl rfl rfl fun a E=>?_
 obtain ⟨r9,e10,hF⟩:=bnd hF
 refine lc E qua rfl (qip N r_0.Operand r1 r_0.Mod r2 e10 hG ok) fun w ok a E=>lw E (qaS rfl) fun a E=>pt E rfl rfl fun a E=>pf E rfl rfl fun a E=>mv E rfl fun a E=>qav (!r9) (fun hc11=>?_) (fun hc11=>?_)
 ·replace hF:=qas hc11 hF
  replace E:=E.upd 26 hc11 rfl
  refine ls E fun a E=>ls E fun a E=>ls E fun a E=>ls E fun a E=>pt E rfl rfl fun a E=>mv E rfl fun a E=>ls E fun a E=>ls E fun a E=>?_
  refine ls E fun a E=>ls E fun a E=>pt E rfl rfl fun a E=>wn<|c_if E rfl (fun _=>?_) (fun h=>by cases h)
  refine sg<|aw E rfl fun a E=>wp_ret<|qaf ?_
  exact fin hF ⟨ok.drop,E.d,⟨rv_t E rfl,trivial⟩⟩
 replace hF:=qar hc11 hF
 replace E:=E.upd 26 hc11 rfl
 refine fv E qck rfl fun a E=>ld E ok qdz 0 rfl rfl rfl fun a E=>lv E ok (qaH qcx h4 rfl) fun a E=>lw E (qaF rfl rfl) fun a E=>pf E rfl rfl fun a E=>mv E rfl fun a E=>qav (decide ((r_0.Spans.length:Int) < 1)) (fun hc12=>?_) (fun hc12=>?_)
 ·replace hF:=qas hc12 hF
  replace E:=E.upd 32 hc12 rfl
  refine ls E fun a E=>ls E fun a E=>ls E fun a E=>ls E fun a E=>pt E rfl rfl fun a E=>wn<|c_if E rfl (fun _=>?_) (fun h=>by cases h)
  refine sg<|aw E rfl fun a E=>wp_ret<|qaf ?_
  exact fin hF ⟨ok.drop,E.d,⟨rv_t E rfl,trivial⟩⟩
 replace hF:=qar hc12 hF
 replace E:=E.upd 32 hc12 rfl
 refine fv E qck rfl fun a E=>ld E ok qdz 0 rfl rfl rfl fun a E=>lv E ok (qaH qcx h4 rfl) fun a E=>lw E (qa4 rfl rfl) fun a E=>pf E rfl rfl fun a E=>wn<|cf E rfl hF (fun hc13 hF=>?_) fun hc13 hF=>?_
 ·refine sg<|aw E rfl fun a E=>wp_ret<|qaf ?_
  exact fin hF ⟨ok.drop,E.d,⟨rv_t E rfl,trivial⟩⟩
 refine wp_skip<|qaa<|wp_seq<|sg<|fv E qck rfl fun a E=>ld E ok qdz 0 rfl rfl rfl fun a E=>lv E ok (qaH qcx h4 rfl) fun a E=>?_
 refine mv E rfl fun a E=>wn<|wp_block ?_
 obtain ⟨o15,hL,hF⟩:=bnd hF
 refine qaI _ (fun (s:Int) a w=>Ok u m0 ([(b5,oc 52 [vi r_0.Operand,vi r_0.Mod,vb r_0.Not,c3])] :: S) w ∧ Env 64 a [(1,vp b5),(39,c3),(40,(vi (r_0.Spans.length:Int))),(41,vi s)] ∧ InR .i64 s) (fun (b:(Unit ⊕ Bool)) e a w=>(Sum.elim (fun b38=>e = (.exit 0) ∧ Ok u m0 ([(b5,oc 52 [vi r_0.Operand,vi r_0.Mod,vb r_0.Not,c3])] :: S) w ∧ Env 64 a []) (fun b39=>e = .ret ∧ qhV u m0 S b39 a w)) b) ?_ ?_ N _ a w hL ⟨ok,E.keep [1,39,40,41],(ir 0)⟩
 rotate_left
 ·intro e a w _ hO
  rcases o15 with o15 | o15
  rotate_left
  ·replace hF:=qa7 hF
   obtain ⟨rfl,hret⟩:=hO
   refine qax<|qaf ?_
   exact fin hF hret
  replace hF:=qa6 hF
  obtain ⟨rfl,ok,E⟩:=hO
  refine qaK<|qaa<|sg<|aw E rfl fun a E=>wp_ret ?_
  exact fin hF ⟨ok.drop,E.d,⟨rv_t E rfl,trivial⟩⟩
 rintro x_17 a w r ⟨ok,E,r18⟩ hF
 replace hF:qeg N r_0 x_17 = some r:=hF
 unfold qeg at hF
 refine sg<|lw E (qaF rfl rfl) fun a E=>wn<|wp_seq<|cf E rfl hF (fun hc19 hF=>?_) fun hc19 hF=>?_
 rotate_left
 ·refine wp_exit<|qaB ?_
  obtain rfl:=sj hF
  exact so (sl ⟨rfl,⟨ok,E.keep []⟩⟩)
 refine wp_skip<|qaa<|wp_seq<|wp_block<|sg ?_
 obtain ⟨x20,e21,hF⟩:=bnd hF
 obtain ⟨b22,o23,es24,hl25,rr26,at27,yy28⟩:=qaO qcx h4 e21 (P:=Tryz.prog) (X:=.tmp 39) (I:=.tmp 41) (kd:=.i64) (qak E rfl) (qak E rfl)
 obtain ⟨rfl,r29,r30⟩:=rr26
 refine lv E ok (yy28 _ _) fun a E=>lv E ok (qao (cs:=[vi x20.From,vi x20.To]) qhI rfl rfl (qac.ro at27)) fun a E=>qaR E ok qfb rfl rfl fun b31 a w E ok=>qae E ok 0 rfl rfl rfl qiF rfl rfl ⟨rfl,rfl,trivial⟩ rfl rfl fun w ok=>wn<|wp_seq<|qfD (by kernel_rfl) (by kernel_rfl) ok ?_
 refine qv E (qan qgr rfl) fun a E=>qv E (qap qaC rfl (qac.own 0 rfl rfl)) fun a E=>qv E (qaF rfl rfl) fun a E=>qv E (qah rfl) fun a E=>qav (decide (x20.From < 0)) (fun hc32=>?_) (fun hc32=>?_)
 ·replace hF:=qas hc32 hF
  replace E:=E.upd 48 hc32 rfl
  refine qs E fun a E=>qs E fun a E=>qs E fun a E=>qs E fun a E=>qs E fun a E=>qv E (qa1 rfl rfl) fun a E=>qv E (qah rfl) fun a E=>qs E fun a E=>?_
  refine qs E fun a E=>qs E fun a E=>qs E fun a E=>qs E fun a E=>qs E fun a E=>qv E (qa1 rfl rfl) fun a E=>wpQuiet_nil ?_
  intro w ok
  refine qaa<|c_if E rfl (fun _=>?_) (fun h=>by cases h)
  refine sg<|aw E rfl fun a E=>wp_ret<|qax<|qaf ?_
  obtain rfl:=sj hF
  exact so (sr ⟨rfl,⟨ok.drop.drop,E.d,⟨rv_t E rfl,trivial⟩⟩⟩)
 replace hF:=qar hc32 hF
 replace E:=E.upd 48 hc32 rfl
 refine qv E (qan qgr rfl) fun a E=>qv E (qap qaC rfl (qac.own 0 rfl rfl)) fun a E=>qv E (qan qf4 rfl) fun a E=>qv E (qap qaC rfl (qac.own 0 rfl rfl)) fun a E=>qv E (qa4 rfl rfl) fun a E=>qv E (qaY rfl rfl) fun a E=>qv E (qah rfl) fun a E=>qav (decide (x20.From > x20.To)) (fun hc33=>?_) (fun hc33=>?_)
 ·replace hF:=qas hc33 hF
  replace E:=E.upd 55 hc33 rfl
  refine qs E fun a E=>qs E fun a E=>qs E fun a E=>qs E fun a E=>qs E fun a E=>qs E fun a E=>qv E (qa1 rfl rfl) fun a E=>wpQuiet_nil ?_
  intro w ok
  refine qaa<|c_if E rfl (fun _=>?_) (fun h=>by cases h)
  refine sg<|aw E rfl fun a E=>wp_ret<|qax<|qaf ?_
  obtain rfl:=sj hF
  exact so (sr ⟨rfl,⟨ok.drop.drop,E.d,⟨rv_t E rfl,trivial⟩⟩⟩)
 replace hF:=qar hc33 hF
 replace E:=E.upd 55 hc33 rfl
 refine qv E (qan qf4 rfl) fun a E=>qv E (qap qaC rfl (qac.own 0 rfl rfl)) fun a E=>qv E (qan qbl rfl) fun a E=>qv E (qap qaC rfl (qac.own 1 rfl rfl)) fun a E=>?_
 obtain ⟨r34,e35,hF⟩:=bnd hF
 obtain ⟨_,_,⟨_,_⟩,r36⟩:=Go.X.Calls.get (qdR N r_0.Operand r1 e35 hG ok)
 refine qhi E qp2 rfl (fun w ok=>(qdR N r_0.Operand r1 e35 hG ok).mono (fun _ _ h=>h.1)) rfl rfl fun a E=>qv E (qa4 rfl rfl) fun a E=>qv E (qaY rfl rfl) fun a E=>wpQuiet_nil ?_
 intro w ok
 refine qaa<|cf E rfl hF (fun hc37 hF=>?_) fun hc37 hF=>?_
 rotate_left
 ·refine wp_skip<|qal<|qaa<|qab<|lw E (qaD rfl rfl (InR.inc r18 (qaj h4) hc19)) fun a E=>mv E rfl fun a E=>wpList_nil ?_
  obtain rfl:=sj hF
  exact qau ⟨(ok.pk 2 [1] rfl (by decide)),E.keep [1,39,40,41],(InR.inc r18 (qaj h4) hc19)⟩
 refine sg<|aw E rfl fun a E=>wp_ret<|qax<|qaf ?_
 obtain rfl:=sj hF
 exact so (sr ⟨rfl,⟨ok.drop.drop,E.d,⟨rv_t E rfl,trivial⟩⟩⟩)
def qmg (u:World) (m0:Mem) (S:Segs) (r:Bool) (a:Act) (w:World):Prop :=
 Ok u m0 S w ∧ a.defers = [] ∧ RVs Tryz.prog a w [.t 2 (.bool r)]
theorem ql9 (N:Nat) (vr_0:List Value) (r_0:Relation) (hr_0:qai m0 vr_0 r_0) {r:Bool} (hF:qgM N r_0 = some r) (hG:Glob u) (ok:Ok u m0 S w) :
  Calls Tryz.prog 57 [.agg vr_0.toArray].toArray w fun e w'=>(e = .returned (.bool r) ∧ Ok u m0 S w'):=by
 obtain ⟨c3,rfl,r1,r2,h4⟩:=hr_0
 unfold qgM at hF
 refine en (qmg u m0 S) r Tryz.func57 rfl rfl rfl (by rintro a w ⟨ok,hd,hrv⟩; exact qat [.t 2 (.bool r)] hd rfl hrv ⟨rfl,ok⟩) fun fin a E=>sg<|qcH E ok rfl rfl rfl fun b5 a w E ok=>aw E rfl fun a E=>wp_seq ?_
 refine qab<|lv E ok (qao (cs:=[vi r_0.Operand,vi r_0.Mod,vb r_0.Not,c3]) qcL rfl rfl (qac.own 0 rfl rfl)) fun a E=>?_
 obtain ⟨r6,e7,hF⟩:=bnd hF
 refine lc E qwY rfl (qnd N _ r_0 ⟨_,rfl,r1,r2,h4⟩ e7 hG ok) fun w ok a E=>lw E (qaS rfl) fun a E=>aw E rfl fun a E=>wp_ret ?_
 exact fin hF ⟨ok.drop,E.d,⟨rv_t E rfl,trivial⟩⟩
def qdI (u:World) (m0:Mem) (S:Segs) (r:Int) (a:Act) (w:World):Prop :=
 Ok u m0 S w ∧ a.defers = [] ∧ RVs Tryz.prog a w [.t 4 (.int .i64 r)] ∧ InR .i64 r
theorem qgg (N:Nat) (vs_0:Value) (s_0:List (Relation)) (hs_0:(pL 4 qai) m0 [vs_0] s_0) {r:Int} (hF:qbC N s_0 = some r) (hG:Glob u) (ok:Ok u m0 S w) :
  Calls Tryz.prog 74 [vs_0,.func (.func 57) #[] #[]].toArray w fun e w'=>(e = .returned (.int .i64 r) ∧ Ok u m0 S w') ∧ InR .i64 r:=by
 unfold qbC at hF
 refine en (qdI u m0 S) r Tryz.func74 rfl rfl rfl (by rintro a w ⟨ok,hd,hrv,h0⟩; exact qat [.t 4 (.int .i64 r)] hd rfl hrv ⟨⟨rfl,ok⟩,h0⟩) fun fin a E=>sg<|aw E rfl fun a E=>wp_seq<|wp_seq ?_
 refine qab<|mv E rfl fun a E=>lv E ok (qaH qbT hs_0 rfl) fun a E=>mv E rfl fun a E=>wn<|wp_block ?_
 obtain ⟨o2,hL,hF⟩:=bnd hF
 refine qaI _ (fun (s:Int) a w=>Ok u m0 (S) w ∧ Env 19 a [(0,vs_0),(1,(Value.func (.func 57) #[] #[])),(7,(vi (s_0.length:Int))),(8,vi s)] ∧ InR .i64 s) (fun (b:(Unit ⊕ Int)) e a w=>(Sum.elim (fun b23=>e = (.exit 0) ∧ Ok u m0 (S) w ∧ Env 19 a []) (fun b24=>e = .ret ∧ qdI u m0 S b24 a w)) b) ?_ ?_ N _ a w hL ⟨ok,E.keep [0,1,7,8],(ir 0)⟩
 rotate_left
 ·intro e a w _ hO
  rcases o2 with o2 | o2
  rotate_left
  ·replace hF:=qa7 hF
   obtain ⟨rfl,hret⟩:=hO
   refine qax<|qaf ?_
   exact fin hF hret
  replace hF:=qa6 hF
  obtain ⟨rfl,ok,E⟩:=hO
  refine qaK<|qaa<|sg<|aw E rfl fun a E=>wp_ret ?_
  exact fin hF ⟨ok,E.d,⟨rv_t E rfl,trivial⟩,(ir (-1))⟩
 rintro x_4 a w r ⟨ok,E,r5⟩ hF
 replace hF:qa2 N s_0 x_4 = some r:=hF
 unfold qa2 at hF
 refine sg<|lw E (qaF rfl rfl) fun a E=>wn<|wp_seq<|cf E rfl hF (fun hc6 hF=>?_) fun hc6 hF=>?_
 rotate_left
 ·refine wp_exit<|qaB ?_
  obtain rfl:=sj hF
  exact so (sl ⟨rfl,⟨ok,E.keep []⟩⟩)
 refine wp_skip<|qaa<|wp_seq<|wp_block<|sg<|mv E rfl fun a E=>av E rfl fun a E=>?_
 refine wn<|sg<|mv E rfl fun a E=>mv E rfl fun a E=>mv E rfl fun a E=>?_
 obtain ⟨x7,e8,hF⟩:=bnd hF
 obtain ⟨b9,o10,es11,hl12,rr13,at14,yy15⟩:=qaO qbT hs_0 e8 (P:=Tryz.prog) (X:=.tmp 12) (I:=.tmp 13) (kd:=.i64) (qak E rfl) (qak E rfl)
 obtain ⟨c18,rfl,r16,r17,h19⟩:=rr13
 refine lv E ok (yy15 _ _) fun a E=>lv E ok (qao (cs:=[vi x7.Operand,vi x7.Mod,vb x7.Not,c18]) qcL rfl rfl (qac.ro at14)) fun a E=>?_
 obtain ⟨r20,e21,hF⟩:=bnd hF
 refine qjW E rfl qwn rfl (ql9 N _ x7 ⟨_,rfl,r16,r17,h19⟩ e21 hG ok) rfl rfl ?_
 rintro _ w ⟨rfl,ok⟩
 refine ⟨_,rfl,fun a E=>?_⟩
 refine wn<|cf E rfl hF (fun hc22 hF=>?_) fun hc22 hF=>?_
 rotate_left
 ·refine wp_skip<|qal<|qaa<|qab<|lw E (qaD rfl rfl (InR.inc r5 (qaj hs_0) hc6)) fun a E=>mv E rfl fun a E=>wpList_nil ?_
  obtain rfl:=sj hF
  exact qau ⟨ok,E.keep [0,1,7,8],(InR.inc r5 (qaj hs_0) hc6)⟩
 refine sg<|mv E rfl fun a E=>aw E rfl fun a E=>wp_ret<|qax ?_
 refine qaf ?_
 obtain rfl:=sj hF
 exact so (sr ⟨rfl,⟨ok,E.d,⟨rv_t E rfl,trivial⟩,r5⟩⟩)
def qfE (u:World) (m0:Mem) (S:Segs) (r:Bool) (a:Act) (w:World):Prop :=
 Ok u m0 S w ∧ a.defers = [] ∧ RVs Tryz.prog a w [.t 4 (.bool r)]
theorem qfH (N:Nat) (vs_0:Value) (s_0:List (Relation)) (hs_0:(pL 4 qai) m0 [vs_0] s_0) {r:Bool} (hF:qa3 N s_0 = some r) (hG:Glob u) (ok:Ok u m0 S w) :
  Calls Tryz.prog 51 [vs_0,.func (.func 57) #[] #[]].toArray w fun e w'=>(e = .returned (.bool r) ∧ Ok u m0 S w'):=by
 unfold qa3 at hF
 refine en (qfE u m0 S) r Tryz.func51 rfl rfl rfl (by rintro a w ⟨ok,hd,hrv⟩; exact qat [.t 4 (.bool r)] hd rfl hrv ⟨rfl,ok⟩) fun fin a E=>sg<|aw E rfl fun a E=>sg ?_
 refine mv E rfl fun a E=>mv E rfl fun a E=>?_
 obtain ⟨r1,e2,hF⟩:=bnd hF
 refine qag E qui rfl (qgg N _ s_0 hs_0 e2 hG ok) rfl rfl ?_
 rintro _ w ⟨⟨rfl,ok⟩,r3⟩
 refine ⟨_,rfl,fun a E=>?_⟩
 refine lw E (qgh rfl rfl) fun a E=>aw E rfl fun a E=>wp_ret ?_
 exact fin hF ⟨ok,E.d,⟨rv_t E rfl,trivial⟩⟩
def qjG (u:World) (m0:Mem) (S:Segs) (r:Bool) (a:Act) (w:World):Prop :=
 Ok u m0 S w ∧ a.defers = [] ∧ RVs Tryz.prog a w [.t 2 (.bool r)]
theorem qgR (N:Nat) (vc_0:Value) (c_0:List (List (Relation))) (hc_0:(pL 1 (pL 4 qai)) m0 [vc_0] c_0) {r:Bool} (hF:qeb N c_0 = some r) (hG:Glob u) (ok:Ok u m0 S w) :
  Calls Tryz.prog 30 [vc_0].toArray w fun e w'=>(e = .returned (.bool r) ∧ Ok u m0 S w'):=by
 unfold qeb at hF
 refine en (qjG u m0 S) r Tryz.func30 rfl rfl rfl (by rintro a w ⟨ok,hd,hrv⟩; exact qat [.t 2 (.bool r)] hd rfl hrv ⟨rfl,ok⟩) fun fin a E=>sg<|aw E rfl fun a E=>sg ?_
 refine aw E rfl fun a E=>wp_seq<|sg<|mv E rfl fun a E=>lv E ok (qaH qea hc_0 rfl) fun a E=>?_
 refine mv E rfl fun a E=>wn<|wp_block ?_
 obtain ⟨o3,hL,hF⟩:=bnd hF
 refine qaI _ (fun (s:Int × Int) a w=>Ok u m0 (S) w ∧ Env 31 a [(0,vc_0),(3,vi s.1),(6,vc_0),(7,(vi (c_0.length:Int))),(8,vi s.2)] ∧ InR .i64 s.1 ∧ InR .i64 s.2) (fun (b:(Int ⊕ Bool)) e a w=>(Sum.elim (fun b28=>e = (.exit 0) ∧ Ok u m0 (S) w ∧ Env 31 a [(0,vc_0),(3,vi b28)] ∧ InR .i64 b28) (fun b30=>e = .ret ∧ qjG u m0 S b30 a w)) b) ?_ ?_ N _ a w hL ⟨ok,E.keep [0,3,6,7,8],(ir 0),(ir 0)⟩
 rotate_left
 ·intro e a w _ hO
  rcases o3 with o3 | o3
  rotate_left
  ·replace hF:=qa7 hF
   obtain ⟨rfl,hret⟩:=hO
   refine qax<|qaf ?_
   exact fin hF hret
  replace hF:=qa6 hF
  obtain ⟨rfl,ok,E,r26⟩:=hO
  refine qaK<|qaa<|sg<|mv E rfl fun a E=>lv E ok (qaH qea hc_0 rfl) fun a E=>lw E (qa4 rfl rfl) fun a E=>mv E rfl fun a E=>?_
  refine qav (decide ((c_0.length:Int) > 0)) (fun hc27=>?_) (fun hc27=>?_)
  ·replace hF:=qas hc27 hF
   replace E:=E.upd 27 hc27 rfl
   refine mv E rfl fun a E=>lw E (qgT rfl rfl) fun a E=>pt E rfl rfl fun a E=>aw E rfl fun a E=>wp_ret ?_
   exact fin hF ⟨ok,E.d,⟨rv_t E rfl,trivial⟩⟩
  replace hF:=qar hc27 hF
  replace E:=E.upd 27 hc27 rfl
  refine ls E fun a E=>ls E fun a E=>pf E rfl rfl fun a E=>aw E rfl fun a E=>wp_ret ?_
  exact fin hF ⟨ok,E.d,⟨rv_t E rfl,trivial⟩⟩
 rintro ⟨n_6,x_7⟩ a w r ⟨ok,E,r8,r9⟩ hF
 replace hF:qc6 N c_0 n_6 x_7 = some r:=hF
 unfold qc6 at hF
 refine sg<|lw E (qaF rfl rfl) fun a E=>wn<|wp_seq<|cf E rfl hF (fun hc10 hF=>?_) fun hc10 hF=>?_
 rotate_left
 ·refine wp_exit<|qaB ?_
  obtain rfl:=sj hF
  exact so (sl ⟨rfl,⟨ok,E.keep [0,3],r8⟩⟩)
 refine wp_skip<|qaa<|wp_seq<|wp_block<|sg ?_
 obtain ⟨x11,e12,hF⟩:=bnd hF
 obtain ⟨b13,o14,es15,hl16,rr17,at18,yy19⟩:=qaO qea hc_0 e12 (P:=Tryz.prog) (X:=.tmp 6) (I:=.tmp 8) (kd:=.i64) (qak E rfl) (qak E rfl)
 obtain ⟨c20,rfl,h21⟩:=qcm rr17
 refine lv E ok (yy19 _ _) fun a E=>lv E ok (qap qeS rfl (qac.ro at18)) fun a E=>aw E rfl fun a E=>wp_seq<|sg ?_
 refine mv E rfl fun a E=>lv E ok (qaH qbT h21 rfl) fun a E=>lw E (qaM rfl rfl) fun a E=>mv E rfl fun a E=>qav ((x11.length:Int) == 0) (fun hc22=>?_) (fun hc22=>?_)
 ·replace hF:=qas hc22 hF
  replace E:=E.upd 15 hc22 rfl
  refine ls E fun a E=>ls E fun a E=>pt E rfl rfl fun a E=>wn<|c_if E rfl (fun _=>?_) (fun h=>by cases h)
  refine sg<|aw E rfl fun a E=>wp_ret<|qaf<|qax ?_
  refine qaf ?_
  obtain rfl:=sj hF
  exact so (sr ⟨rfl,⟨ok,E.d,⟨rv_t E rfl,trivial⟩⟩⟩)
 replace hF:=qar hc22 hF
 replace E:=E.upd 15 hc22 rfl
 refine mv E rfl fun a E=>?_
 obtain ⟨r23,e24,hF⟩:=bnd hF
 refine lc E qtY rfl (qfH N _ x11 h21 e24 hG ok) fun w ok a E=>pf E rfl rfl fun a E=>wn<|cf E rfl hF (fun hc25 hF=>?_) fun hc25 hF=>?_
 ·refine sg<|aw E rfl fun a E=>wp_ret<|qaf<|qax ?_
  refine qaf ?_
  obtain rfl:=sj hF
  exact so (sr ⟨rfl,⟨ok,E.d,⟨rv_t E rfl,trivial⟩⟩⟩)
 refine wp_skip<|qaa<|qab<|mv E rfl fun a E=>mv E rfl fun a E=>lv E ok (qaH qbT h21 rfl) fun a E=>lw E (qbc rfl rfl) fun a E=>av E rfl fun a E=>?_
 refine wpList_nil<|qal<|qaa<|qab<|lw E (qaD rfl rfl (InR.inc r9 (qaj hc_0) hc10)) fun a E=>mv E rfl fun a E=>wpList_nil ?_
 obtain rfl:=sj hF
 exact qau ⟨ok,E.keep [0,3,6,7,8],(InR.wrap _ _),(InR.inc r9 (qaj hc_0) hc10)⟩
def qnX (u:World) (m0:Mem) (S:Segs) (pb0:Nat) (x0:Rule) (c5:Value) (r:Bool) (a:Act) (w:World):Prop :=
 Ok u m0 ([(pb0,oc 44 [vs x0.Class,c5])] :: S) w ∧ a.defers = [] ∧ RVs Tryz.prog a w [.t 3 (.bool r)]
theorem qnQ (N:Nat) (vx_0:List Value) (x_0:Rule) (hx_0:qeR m0 vx_0 x_0) {pb0:Nat} {c5:Value} (x0:Rule) (l4:x0.Class.length ≤ LIMS) (h6:(pL 1 (pL 4 qai)) m0 [c5] x0.Cond) {r:Bool} (hF:qhY N x_0 x0 = some r) (hG:Glob u) (ok:Ok u m0 ([(pb0,oc 44 [vs x0.Class,c5])] :: S) w) :
  Calls Tryz.prog 32 [.agg vx_0.toArray,vp pb0].toArray w fun e w'=>(e = .returned (.bool r) ∧ Ok u m0 ([(pb0,oc 44 [vs x0.Class,c5])] :: S) w'):=by
 obtain ⟨c2,rfl,l1,h3⟩:=hx_0
 unfold qhY at hF
 refine en (qnX u m0 S pb0 x0 c5) r Tryz.func32 rfl rfl rfl (by rintro a w ⟨ok,hd,hrv⟩; exact qat [.t 3 (.bool r)] hd rfl hrv ⟨rfl,ok⟩) fun fin a E=>sg<|qcH E ok rfl rfl rfl fun b7 a w E ok=>aw E rfl fun a E=>wp_seq ?_
 refine qab<|fv E qg4 rfl fun a E=>ld E ok qaN 0 rfl rfl rfl fun a E=>fv E qg4 rfl fun a E=>ld E ok qaN 1 rfl rfl rfl fun a E=>lw E (qet rfl rfl) fun a E=>av E rfl fun a E=>wpList_nil ?_
 refine qaa<|wp_ret ?_
 exact fin hF ⟨ok.drop,E.d,⟨rv_t E rfl,trivial⟩⟩
def qeJ (u:World) (m0:Mem) (S:Segs) (pb0:Nat) (x0:Rule) (c2:Value) (r:Int) (a:Act) (w:World):Prop :=
 Ok u m0 ([(pb0,oc 44 [vs x0.Class,c2])] :: S) w ∧ a.defers = [] ∧ RVs Tryz.prog a w [.t 4 (.int .i64 r)] ∧ InR .i64 r
theorem qhd (N:Nat) (vs_0:Value) (s_0:List (Rule)) (hs_0:(pL 2 qeR) m0 [vs_0] s_0) {pb0:Nat} {c2:Value} (x0:Rule) (l1:x0.Class.length ≤ LIMS) (h3:(pL 1 (pL 4 qai)) m0 [c2] x0.Cond) {r:Int} (hF:qch N s_0 x0 = some r) (hG:Glob u) (ok:Ok u m0 ([(pb0,oc 44 [vs x0.Class,c2])] :: S) w) :
  Calls Tryz.prog 59 [vs_0,Value.func (.func 32) #[] #[.pointer (some ⟨pb0,0,none⟩)]].toArray w fun e w'=>(e = .returned (.int .i64 r) ∧ Ok u m0 ([(pb0,oc 44 [vs x0.Class,c2])] :: S) w') ∧ InR .i64 r:=by
 unfold qch at hF
 refine en (qeJ u m0 S pb0 x0 c2) r Tryz.func59 rfl rfl rfl (by rintro a w ⟨ok,hd,hrv,h0⟩; exact qat [.t 4 (.int .i64 r)] hd rfl hrv ⟨⟨rfl,ok⟩,h0⟩) fun fin a E=>sg<|aw E rfl fun a E=>wp_seq<|wp_seq ?_
 refine qab<|mv E rfl fun a E=>lv E ok (qaH qc2 hs_0 rfl) fun a E=>mv E rfl fun a E=>wn<|wp_block ?_
 obtain ⟨o5,hL,hF⟩:=bnd hF
 refine qaI _ (fun (s:Int) a w=>Ok u m0 ([(pb0,oc 44 [vs x0.Class,c2])] :: S) w ∧ Env 19 a [(0,vs_0),(1,(Value.func (.func 32) #[] #[.pointer (some ⟨pb0,0,none⟩)])),(7,(vi (s_0.length:Int))),(8,vi s)] ∧ InR .i64 s) (fun (b:(Unit ⊕ Int)) e a w=>(Sum.elim (fun b25=>e = (.exit 0) ∧ Ok u m0 ([(pb0,oc 44 [vs x0.Class,c2])] :: S) w ∧ Env 19 a []) (fun b26=>e = .ret ∧ qeJ u m0 S pb0 x0 c2 b26 a w)) b) ?_ ?_ N _ a w hL ⟨ok,E.keep [0,1,7,8],(ir 0)⟩
 rotate_left
 ·intro e a w _ hO
  rcases o5 with o5 | o5
  rotate_left
  ·replace hF:=qa7 hF
   obtain ⟨rfl,hret⟩:=hO
   refine qax<|qaf ?_
   exact fin hF hret
  replace hF:=qa6 hF
  obtain ⟨rfl,ok,E⟩:=hO
  refine qaK<|qaa<|sg<|aw E rfl fun a E=>wp_ret ?_
  exact fin hF ⟨ok,E.d,⟨rv_t E rfl,trivial⟩,(ir (-1))⟩
 rintro x_7 a w r ⟨ok,E,r8⟩ hF
 replace hF:qbj N s_0 x0 x_7 = some r:=hF
 unfold qbj at hF
 refine sg<|lw E (qaF rfl rfl) fun a E=>wn<|wp_seq<|cf E rfl hF (fun hc9 hF=>?_) fun hc9 hF=>?_
 rotate_left
 ·refine wp_exit<|qaB ?_
  obtain rfl:=sj hF
  exact so (sl ⟨rfl,⟨ok,E.keep []⟩⟩)
 refine wp_skip<|qaa<|wp_seq<|wp_block<|sg<|mv E rfl fun a E=>av E rfl fun a E=>?_
 refine wn<|sg<|mv E rfl fun a E=>mv E rfl fun a E=>mv E rfl fun a E=>?_
 obtain ⟨x10,e11,hF⟩:=bnd hF
 obtain ⟨b12,o13,es14,hl15,rr16,at17,yy18⟩:=qaO qc2 hs_0 e11 (P:=Tryz.prog) (X:=.tmp 12) (I:=.tmp 13) (kd:=.i64) (qak E rfl) (qak E rfl)
 obtain ⟨c20,rfl,l19,h21⟩:=rr16
 refine lv E ok (yy18 _ _) fun a E=>lv E ok (qao (cs:=[vs x10.Class,c20]) qlo rfl rfl (qac.ro at17)) fun a E=>?_
 obtain ⟨r22,e23,hF⟩:=bnd hF
 refine qcc E rfl qwI rfl (qnQ N _ x10 ⟨_,rfl,l19,h21⟩ x0 l1 h3 e23 hG ok) rfl rfl ?_
 rintro _ w ⟨rfl,ok⟩
 refine ⟨_,rfl,fun a E=>?_⟩
 refine wn<|cf E rfl hF (fun hc24 hF=>?_) fun hc24 hF=>?_
 rotate_left
 ·refine wp_skip<|qal<|qaa<|qab<|lw E (qaD rfl rfl (InR.inc r8 (qaj hs_0) hc9)) fun a E=>mv E rfl fun a E=>wpList_nil ?_
  obtain rfl:=sj hF
  exact qau ⟨ok,E.keep [0,1,7,8],(InR.inc r8 (qaj hs_0) hc9)⟩
 refine sg<|mv E rfl fun a E=>aw E rfl fun a E=>wp_ret<|qax ?_
 refine qaf ?_
 obtain rfl:=sj hF
 exact so (sr ⟨rfl,⟨ok,E.d,⟨rv_t E rfl,trivial⟩,r8⟩⟩)
def qgL (u:World) (m0:Mem) (S:Segs) (pb0:Nat) (x0:Rule) (c2:Value) (r:Bool) (a:Act) (w:World):Prop :=
 Ok u m0 ([(pb0,oc 44 [vs x0.Class,c2])] :: S) w ∧ a.defers = [] ∧ RVs Tryz.prog a w [.t 4 (.bool r)]
theorem qgK (N:Nat) (vs_0:Value) (s_0:List (Rule)) (hs_0:(pL 2 qeR) m0 [vs_0] s_0) {pb0:Nat} {c2:Value} (x0:Rule) (l1:x0.Class.length ≤ LIMS) (h3:(pL 1 (pL 4 qai)) m0 [c2] x0.Cond) {r:Bool} (hF:qbk N s_0 x0 = some r) (hG:Glob u) (ok:Ok u m0 ([(pb0,oc 44 [vs x0.Class,c2])] :: S) w) :
  Calls Tryz.prog 31 [vs_0,Value.func (.func 32) #[] #[.pointer (some ⟨pb0,0,none⟩)]].toArray w fun e w'=>(e = .returned (.bool r) ∧ Ok u m0 ([(pb0,oc 44 [vs x0.Class,c2])] :: S) w'):=by
 unfold qbk at hF
 refine en (qgL u m0 S pb0 x0 c2) r Tryz.func31 rfl rfl rfl (by rintro a w ⟨ok,hd,hrv⟩; exact qat [.t 4 (.bool r)] hd rfl hrv ⟨rfl,ok⟩) fun fin a E=>sg<|aw E rfl fun a E=>sg ?_
 refine mv E rfl fun a E=>mv E rfl fun a E=>?_
 obtain ⟨r4,e5,hF⟩:=bnd hF
 refine qag E qw7 rfl (qhd N _ s_0 hs_0 x0 l1 h3 e5 hG ok) rfl rfl ?_
 rintro _ w ⟨⟨rfl,ok⟩,r6⟩
 refine ⟨_,rfl,fun a E=>?_⟩
 refine lw E (qgh rfl rfl) fun a E=>aw E rfl fun a E=>wp_ret ?_
 exact fin hF ⟨ok,E.d,⟨rv_t E rfl,trivial⟩⟩
def qkS (u:World) (m0:Mem) (S:Segs) (r:Bool) (a:Act) (w:World):Prop :=
 Ok u m0 S w ∧ a.defers = [] ∧ RVs Tryz.prog a w [.t 2 (.bool r)]
theorem qll (N:Nat) (vl_0:Value) (l_0:List (Rule)) (hl_0:(pL 2 qeR) m0 [vl_0] l_0) {r:Bool} (hF:qg2 N l_0 = some r) (hG:Glob u) (ok:Ok u m0 S w) :
  Calls Tryz.prog 13 [vl_0].toArray w fun e w'=>(e = .returned (.bool r) ∧ Ok u m0 S w'):=by
 unfold qg2 at hF
 refine en (qkS u m0 S) r Tryz.func13 rfl rfl rfl (by rintro a w ⟨ok,hd,hrv⟩; exact qat [.t 2 (.bool r)] hd rfl hrv ⟨rfl,ok⟩) fun fin a E=>sg<|aw E rfl fun a E=>wp_seq<|wp_seq ?_
 refine qab<|mv E rfl fun a E=>lv E ok (qaH qc2 hl_0 rfl) fun a E=>mv E rfl fun a E=>wn<|wp_block ?_
 obtain ⟨o2,hL,hF⟩:=bnd hF
 refine qaI _ (fun (s:Int) a w=>Ok u m0 (S) w ∧ Env 35 a [(0,vl_0),(5,vl_0),(6,(vi (l_0.length:Int))),(7,vi s)] ∧ InR .i64 s) (fun (b:(Unit ⊕ Bool)) e a w=>(Sum.elim (fun b35=>e = (.exit 0) ∧ Ok u m0 (S) w ∧ Env 35 a []) (fun b36=>e = .ret ∧ qkS u m0 S b36 a w)) b) ?_ ?_ N _ a w hL ⟨ok,E.keep [0,5,6,7],(ir 0)⟩
 rotate_left
 ·intro e a w _ hO
  rcases o2 with o2 | o2
  rotate_left
  ·replace hF:=qa7 hF
   obtain ⟨rfl,hret⟩:=hO
   refine qax<|qaf ?_
   exact fin hF hret
  replace hF:=qa6 hF
  obtain ⟨rfl,ok,E⟩:=hO
  refine qaK<|qaa<|sg<|aw E rfl fun a E=>wp_ret ?_
  exact fin hF ⟨ok,E.d,⟨rv_t E rfl,trivial⟩⟩
 rintro x_4 a w r ⟨ok,E,r5⟩ hF
 replace hF:qec N l_0 x_4 = some r:=hF
 unfold qec at hF
 refine sg<|lw E (qaF rfl rfl) fun a E=>wn<|wp_seq<|cf E rfl hF (fun hc6 hF=>?_) fun hc6 hF=>?_
 rotate_left
 ·refine wp_exit<|qaB ?_
  obtain rfl:=sj hF
  exact so (sl ⟨rfl,⟨ok,E.keep []⟩⟩)
 refine wp_skip<|qaa<|wp_seq<|wp_block<|sg<|mv E rfl fun a E=>?_
 obtain ⟨x7,e8,hF⟩:=bnd hF
 obtain ⟨b9,o10,es11,hl12,rr13,at14,yy15⟩:=qaO qc2 hl_0 e8 (P:=Tryz.prog) (X:=.tmp 5) (I:=.tmp 7) (kd:=.i64) (qak E rfl) (qak E rfl)
 obtain ⟨c17,rfl,l16,h18⟩:=rr13
 refine lv E ok (yy15 _ _) fun a E=>lv E ok (qao (cs:=[vs x7.Class,c17]) qlo rfl rfl (qac.ro at14)) fun a E=>qaR E ok qin rfl rfl fun b19 a w E ok=>av E rfl fun a E=>qae E ok 0 rfl rfl rfl qmJ rfl rfl ⟨rfl,(qh9 h18),trivial⟩ rfl rfl fun w ok=>wn<|wp_seq ?_
 refine qab<|fv E qg4 rfl fun a E=>ld E ok qaN 0 rfl rfl rfl fun a E=>?_
 obtain ⟨r20,e21,hF⟩:=bnd hF
 refine lc E qw5 rfl (qpj N x7.Class l16 e21 hG ok) fun w ok a E=>lw E (qaS rfl) fun a E=>mv E rfl fun a E=>qav (!r20) (fun hc22=>?_) (fun hc22=>?_)
 ·replace hF:=qas hc22 hF
  replace E:=E.upd 16 hc22 rfl
  refine ls E fun a E=>ls E fun a E=>ls E fun a E=>pt E rfl rfl fun a E=>mv E rfl fun a E=>ls E fun a E=>ls E fun a E=>ls E fun a E=>?_
  refine ls E fun a E=>pt E rfl rfl fun a E=>mv E rfl fun a E=>ls E fun a E=>ls E fun a E=>ls E fun a E=>ls E fun a E=>ls E fun a E=>?_
  refine pt E rfl rfl fun a E=>wn<|c_if E rfl (fun _=>?_) (fun h=>by cases h)
  refine sg<|aw E rfl fun a E=>wp_ret<|qax<|qaf ?_
  obtain rfl:=sj hF
  exact so (sr ⟨rfl,⟨ok.drop,E.d,⟨rv_t E rfl,trivial⟩⟩⟩)
 replace hF:=qar hc22 hF
 replace E:=E.upd 16 hc22 rfl
 refine fv E qg4 rfl fun a E=>ld E ok qaN 0 rfl rfl rfl fun a E=>lw E (qet rfl rfl) fun a E=>pf E rfl rfl fun a E=>mv E rfl fun a E=>qav (x7.Class == ([111,116,104,101,114])) (fun hc23=>?_) (fun hc23=>?_)
 ·replace hF:=qas hc23 hF
  replace E:=E.upd 21 hc23 rfl
  refine ls E fun a E=>ls E fun a E=>ls E fun a E=>ls E fun a E=>pt E rfl rfl fun a E=>mv E rfl fun a E=>ls E fun a E=>ls E fun a E=>?_
  refine ls E fun a E=>ls E fun a E=>ls E fun a E=>pt E rfl rfl fun a E=>wn<|c_if E rfl (fun _=>?_) (fun h=>by cases h)
  refine sg<|aw E rfl fun a E=>wp_ret<|qax<|qaf ?_
  obtain rfl:=sj hF
  exact so (sr ⟨rfl,⟨ok.drop,E.d,⟨rv_t E rfl,trivial⟩⟩⟩)
 replace hF:=qar hc23 hF
 replace E:=E.upd 21 hc23 rfl
 refine fv E qhn rfl fun a E=>ld E ok qdA 0 rfl rfl rfl fun a E=>?_
 obtain ⟨r24,e25,hF⟩:=bnd hF
 refine lc E qpY rfl (qgR N _ x7.Cond h18 e25 hG ok) fun w ok a E=>lw E (qaS rfl) fun a E=>pf E rfl rfl fun a E=>mv E rfl fun a E=>qav (!r24) (fun hc26=>?_) (fun hc26=>?_)
 ·replace hF:=qas hc26 hF
  replace E:=E.upd 27 hc26 rfl
  refine ls E fun a E=>ls E fun a E=>ls E fun a E=>ls E fun a E=>ls E fun a E=>pt E rfl rfl fun a E=>wn ?_
  refine c_if E rfl (fun _=>?_) (fun h=>by cases h)
  refine sg<|aw E rfl fun a E=>wp_ret<|qax<|qaf ?_
  obtain rfl:=sj hF
  exact so (sr ⟨rfl,⟨ok.drop,E.d,⟨rv_t E rfl,trivial⟩⟩⟩)
 replace hF:=qar hc26 hF
 replace E:=E.upd 27 hc26 rfl
 refine mv E rfl fun a E=>mv E rfl fun a E=>?_
 obtain ⟨l27,e28,hF⟩:=bnd hF
 obtain ⟨c29,h30,yy31⟩:=qs9 qc2 hl_0 e28 (P:=Tryz.prog) (X:=.tmp 28) (lov:=none) (hiv:=(some (.tmp 29))) (qak E rfl) (qtX E rfl) (qtX E ⟨_,rfl⟩)
 refine lv E ok (yy31 _ _) fun a E=>lv E ok (qbI (caps:=[.tmp 4]) rfl) fun a E=>?_
 obtain ⟨r32,e33,hF⟩:=bnd hF
 refine lc E qwK rfl (qgK N _ l27 h30 x7 l16 h18 e33 hG ok) fun w ok a E=>pf E rfl rfl fun a E=>wn<|cf E rfl hF (fun hc34 hF=>?_) fun hc34 hF=>?_
 rotate_left
 ·refine wp_skip<|qal<|qaa<|qab<|lw E (qaD rfl rfl (InR.inc r5 (qaj hl_0) hc6)) fun a E=>mv E rfl fun a E=>wpList_nil ?_
  obtain rfl:=sj hF
  exact qau ⟨(ok.pk 1 [] rfl (by decide)),E.keep [0,5,6,7],(InR.inc r5 (qaj hl_0) hc6)⟩
 refine sg<|aw E rfl fun a E=>wp_ret<|qax<|qaf ?_
 obtain rfl:=sj hF
 exact so (sr ⟨rfl,⟨ok.drop,E.d,⟨rv_t E rfl,trivial⟩⟩⟩)
theorem qmp {u:World} {m0:Mem} {S:Segs} {w:World} (N:Nat) (p0_0:List UInt8) (lp0_0:p0_0.length ≤ LIMS) (p1_1:List UInt8) (lp1_1:p1_1.length ≤ LIMS) {r:(List UInt8) × Bool} (hF:strings_CutPrefix N p0_0 p1_1 = some r) (hG:Glob u) (ok:Ok u m0 S w) :
 Calls Tryz.prog 101 [vs p0_0,vs p1_1].toArray w fun e w'=>(e = .returned (.tuple [(.string (bs r.1)),(.bool r.2)].toArray) ∧ Ok u m0 S w') ∧ r.1.length ≤ LIMS:=qpQ Tryz.lays103 p0_0 p1_1 hF lp0_0 ok
theorem qpO (N:Nat) (p0_0:List UInt8) (lp0_0:p0_0.length ≤ LIMS) (p1_1:List UInt8) (lp1_1:p1_1.length ≤ LIMS) {r:(List UInt8) × (List UInt8) × Bool} (hF:strings_Cut N p0_0 p1_1 = some r) (hG:Glob u) (ok:Ok u m0 S w) :
  Calls Tryz.prog 102 [vs p0_0,vs p1_1].toArray w fun e w'=>(e = .returned (.tuple [(.string (bs r.1)),(.string (bs r.2.1)),(.bool r.2.2)].toArray) ∧ Ok u m0 S w') ∧ r.1.length ≤ LIMS ∧ r.2.1.length ≤ LIMS:=by
 obtain ⟨mx,hmx⟩:=hG
 exact quu Tryz.lays145 hmx p0_0 p1_1 hF lp0_0 ok
theorem qlb {u:World} {m0:Mem} {S:Segs} {w:World} (N:Nat) (p0_0:List UInt8) (lp0_0:p0_0.length ≤ LIMS) (p1_1:List UInt8) (lp1_1:p1_1.length ≤ LIMS) {r:(List UInt8)} (hF:qhP N p0_0 p1_1 = some r) (hG:Glob u) (ok:Ok u m0 S w) :
 Calls Tryz.prog 133 [vs p0_0,vs p1_1].toArray w fun e w'=>(e = .returned (.string (bs r)) ∧ Ok u m0 S w') ∧ r.length ≤ LIMS:=qtT Tryz.lays160 (by kernel_rfl) p0_0 p1_1 hF lp0_0 ok
def qn6 (u:World) (m0:Mem) (S:Segs) (r:Bool) (a:Act) (w:World):Prop :=
 Ok u m0 S w ∧ a.defers = [] ∧ RVs Tryz.prog a w [.t 2 (.bool r)]
theorem qgf (N:Nat) (s_0:List UInt8) (ls_0:s_0.length ≤ LIMS) {r:Bool} (hF:qe7 N s_0 = some r) (hG:Glob u) (ok:Ok u m0 S w) :
  Calls Tryz.prog 103 [vs s_0].toArray w fun e w'=>(e = .returned (.bool r) ∧ Ok u m0 S w'):=by
 unfold qe7 at hF
 refine en (qn6 u m0 S) r Tryz.func103 rfl rfl rfl (by rintro a w ⟨ok,hd,hrv⟩; exact qat [.t 2 (.bool r)] hd rfl hrv ⟨rfl,ok⟩) fun fin a E=>sg<|aw E rfl fun a E=>sg ?_
 refine mv E rfl fun a E=>?_
 obtain ⟨r1,e2,hF⟩:=bnd hF
 refine qag E qsl rfl (qlb N s_0 ls_0 ([48,49,50,51,52,53,54,55,56,57]) (show ([48,49,50,51,52,53,54,55,56,57]:List UInt8).length ≤ LIMS by decide) e2 hG ok) rfl rfl ?_
 rintro _ w ⟨⟨rfl,ok⟩,l3⟩
 refine ⟨_,rfl,fun a E=>?_⟩
 refine lw E (qet rfl rfl) fun a E=>aw E rfl fun a E=>wp_ret ?_
 exact fin hF ⟨ok,E.d,⟨rv_t E rfl,trivial⟩⟩
def qo1 (u:World) (m0:Mem) (S:Segs) (r:Bool) (a:Act) (w:World):Prop :=
 Ok u m0 S w ∧ a.defers = [] ∧ RVs Tryz.prog a w [.t 2 (.bool r)]
theorem qlq (N:Nat) (s_0:List UInt8) (ls_0:s_0.length ≤ LIMS) {r:Bool} (hF:qiA N s_0 = some r) (hG:Glob u) (ok:Ok u m0 S w) :
  Calls Tryz.prog 134 [vs s_0].toArray w fun e w'=>(e = .returned (.bool r) ∧ Ok u m0 S w'):=by
 unfold qiA at hF
 refine en (qo1 u m0 S) r Tryz.func134 rfl rfl rfl (by rintro a w ⟨ok,hd,hrv⟩; exact qat [.t 2 (.bool r)] hd rfl hrv ⟨rfl,ok⟩) fun fin a E=>sg<|aw E rfl fun a E=>sg ?_
 refine mv E rfl fun a E=>?_
 obtain ⟨r1,e2,hF⟩:=bnd hF
 refine qag E qsl rfl (qlb N s_0 ls_0 ([48]) (show ([48]:List UInt8).length ≤ LIMS by decide) e2 hG ok) rfl rfl ?_
 rintro _ w ⟨⟨rfl,ok⟩,l3⟩
 refine ⟨_,rfl,fun a E=>?_⟩
 refine lw E (qet rfl rfl) fun a E=>aw E rfl fun a E=>wp_ret ?_
 exact fin hF ⟨ok,E.d,⟨rv_t E rfl,trivial⟩⟩
def qln (u:World) (m0:Mem) (S:Segs) (r:Bool) (a:Act) (w:World):Prop :=
 Ok u m0 S w ∧ a.defers = [] ∧ RVs Tryz.prog a w [.t 2 (.bool r)]
theorem qfv (N:Nat) (vx_0:List Value) (x_0:Number) (hx_0:qoQ m0 vx_0 x_0) {r:Bool} (hF:qed N x_0 = some r) (hG:Glob u) (ok:Ok u m0 S w) :
  Calls Tryz.prog 104 [.agg vx_0.toArray].toArray w fun e w'=>(e = .returned (.bool r) ∧ Ok u m0 S w'):=by
 obtain ⟨rfl,l1,l2⟩:=hx_0
 unfold qed at hF
 refine en (qln u m0 S) r Tryz.func104 rfl rfl rfl (by rintro a w ⟨ok,hd,hrv⟩; exact qat [.t 2 (.bool r)] hd rfl hrv ⟨rfl,ok⟩) fun fin a E=>sg<|qcH E ok rfl rfl rfl fun b3 a w E ok=>aw E rfl fun a E=>wp_seq ?_
 refine qab<|fv E qo3 rfl fun a E=>ld E ok qaN 0 rfl rfl rfl fun a E=>?_
 obtain ⟨r4,e5,hF⟩:=bnd hF
 refine lc E qsg rfl (qlq N x_0.whole l1 e5 hG ok) fun w ok a E=>mv E rfl fun a E=>qav r4 (fun hc6=>?_) (fun hc6=>?_)
 rotate_left
 ·replace hF:=qar hc6 hF
  replace E:=E.upd 6 hc6 rfl
  refine ls E fun a E=>ls E fun a E=>ls E fun a E=>pf E rfl rfl fun a E=>aw E rfl fun a E=>wp_ret ?_
  exact fin hF ⟨ok.drop,E.d,⟨rv_t E rfl,trivial⟩⟩
 replace hF:=qas hc6 hF
 replace E:=E.upd 6 hc6 rfl
 refine fv E qne rfl fun a E=>ld E ok qaN 0 rfl rfl rfl fun a E=>?_
 obtain ⟨r7,e8,hF⟩:=bnd hF
 refine lc E qsg rfl (qlq N x_0.fraction l2 e8 hG ok) fun w ok a E=>pt E rfl rfl fun a E=>aw E rfl fun a E=>wp_ret ?_
 exact fin hF ⟨ok.drop,E.d,⟨rv_t E rfl,trivial⟩⟩
def qot (u:World) (m0:Mem) (S:Segs) (r:Number × Bool) (a:Act) (w:World):Prop :=
 ∃ m1 v0,m0.le m1 ∧ Ok u m1 S w ∧ a.defers = [] ∧ RVs Tryz.prog a w [.c 2 92 (.agg v0.toArray),.t 3 (.bool r.2)] ∧ qoQ m1 v0 r.1
theorem qky (N:Nat) (s_0:List UInt8) (ls_0:s_0.length ≤ LIMS) {r:Number × Bool} (hF:qig N s_0 = some r) (hG:Glob u) (ok:Ok u m0 S w) :
  Calls Tryz.prog 72 [vs s_0].toArray w fun e w'=>∃ m1 v0,e = .returned (.tuple [(.agg v0.toArray),(.bool r.2)].toArray) ∧ m0.le m1 ∧ Ok u m1 S w' ∧ qoQ m1 v0 r.1:=by
 have le_m0:=Mem.le.refl m0
 unfold qig at hF
 refine en (qot u m0 S) r Tryz.func72 rfl rfl rfl (by rintro a w ⟨m1,v0,hle,ok,hd,hrv,h0⟩; exact qat [.c 2 92 (.agg v0.toArray),.t 3 (.bool r.2)] hd rfl hrv ⟨m1,v0,rfl,hle,ok,h0⟩) fun fin a E=>sg<|qaR E ok qlj rfl rfl fun b1 a w E ok=>aw E rfl fun a E=>wp_seq ?_
 refine qab<|mv E rfl fun a E=>?_
 obtain ⟨r2,e3,hF⟩:=bnd hF
 refine qag E qvM rfl (qmp N s_0 ls_0 ([45]) (show ([45]:List UInt8).length ≤ LIMS by decide) e3 hG ok) rfl rfl ?_
 rintro _ w ⟨⟨rfl,ok⟩,l4⟩
 refine ⟨_,rfl,fun a E=>?_⟩
 refine mv E rfl fun a E=>lw E (qam rfl rfl) fun a E=>lw E (qam rfl rfl) fun a E=>av E rfl fun a E=>aw E rfl fun a E=>wp_seq ?_
 refine qab<|mv E rfl fun a E=>?_
 obtain ⟨r5,e6,hF⟩:=bnd hF
 refine qag E qvK rfl (qpO N r2.1 l4 ([46]) (show ([46]:List UInt8).length ≤ LIMS by decide) e6 hG ok) rfl rfl ?_
 rintro _ w ⟨⟨rfl,ok⟩,l7,l8⟩
 refine ⟨_,rfl,fun a E=>?_⟩
 refine mv E rfl fun a E=>lw E (qam rfl rfl) fun a E=>lw E (qam rfl rfl) fun a E=>lw E (qam rfl rfl) fun a E=>av E rfl fun a E=>av E rfl fun a E=>av E rfl fun a E=>wpList_nil ?_
 refine qaa<|sg<|mv E rfl fun a E=>mv E rfl fun a E=>mv E rfl fun a E=>lw E (qa0 (ps:=[(0,.tmp 21),(1,.tmp 22),(2,.tmp 23)]) (qs:=[(0,[vb r2.2]),(1,[vs r5.1]),(2,[vs r5.2.1])]) (cs:=[vb r2.2,vs r5.1,vs r5.2.1]) qlj qsF rfl ⟨rfl,rfl,rfl,⟨rfl,rfl,rfl,⟨rfl,rfl,rfl,trivial⟩⟩⟩ rfl) fun a E=>qaR E ok qlj rfl rfl fun b9 a w E ok=>?_
 refine qae E ok 0 rfl rfl rfl qdn rfl rfl ⟨rfl,rfl,rfl,trivial⟩ rfl rfl fun w ok=>wn<|wp_seq<|wp_block<|sg<|mv E rfl fun a E=>?_
 refine lw E (qaL Tryz.underlying9 rfl) fun a E=>lw E (qaF rfl rfl) fun a E=>mv E rfl fun a E=>qav (decide ((r5.1.length:Int) < 1)) (fun hc10=>?_) (fun hc10=>?_)
 ·replace hF:=qas hc10 hF
  replace E:=E.upd 29 hc10 rfl
  refine ls E fun a E=>ls E fun a E=>ls E fun a E=>pt E rfl rfl fun a E=>mv E rfl fun a E=>ls E fun a E=>ls E fun a E=>ls E fun a E=>?_
  refine pt E rfl rfl fun a E=>mv E rfl fun a E=>ls E fun a E=>ls E fun a E=>ls E fun a E=>ls E fun a E=>ls E fun a E=>ls E fun a E=>?_
  refine ls E fun a E=>ls E fun a E=>pt E rfl rfl fun a E=>aw E rfl fun a E=>c_if E rfl (fun _=>?_) (fun h=>by cases h)
  refine sg<|lv E ok (qao (cs:=[vb r2.2,vs r5.1,vs r5.2.1]) qbb rfl rfl (qac.own 0 rfl rfl)) fun a E=>qae E ok 1 rfl rfl rfl qdn rfl rfl ⟨rfl,rfl,rfl,trivial⟩ rfl rfl fun w ok=>aw E rfl fun a E=>wp_ret ?_
  refine qax<|qaf ?_
  exact fin hF ⟨m0,[vb r2.2,vs r5.1,vs r5.2.1],le_m0,ok.drop.drop,E.d,⟨rv_c (cs:=[vb r2.2,vs r5.1,vs r5.2.1]) E ok rfl qbb rfl (qac.own 1 rfl rfl),rv_t E rfl,trivial⟩,⟨rfl,l7,l8⟩⟩
 replace hF:=qar hc10 hF
 replace E:=E.upd 29 hc10 rfl
 refine mv E rfl fun a E=>lw E (qaL Tryz.underlying9 rfl) fun a E=>lw E (qa4 rfl rfl) fun a E=>pf E rfl rfl fun a E=>mv E rfl fun a E=>qav (decide ((r5.1.length:Int) > 15)) (fun hc11=>?_) (fun hc11=>?_)
 ·replace hF:=qas hc11 hF
  replace E:=E.upd 34 hc11 rfl
  refine ls E fun a E=>ls E fun a E=>ls E fun a E=>pt E rfl rfl fun a E=>mv E rfl fun a E=>ls E fun a E=>ls E fun a E=>ls E fun a E=>?_
  refine ls E fun a E=>ls E fun a E=>ls E fun a E=>ls E fun a E=>ls E fun a E=>pt E rfl rfl fun a E=>av E rfl fun a E=>wpList_nil ?_
  refine qaa<|c_if E rfl (fun _=>?_) (fun h=>by cases h)
  refine sg<|lv E ok (qao (cs:=[vb r2.2,vs r5.1,vs r5.2.1]) qbb rfl rfl (qac.own 0 rfl rfl)) fun a E=>qae E ok 1 rfl rfl rfl qdn rfl rfl ⟨rfl,rfl,rfl,trivial⟩ rfl rfl fun w ok=>aw E rfl fun a E=>wp_ret ?_
  refine qax<|qaf ?_
  exact fin hF ⟨m0,[vb r2.2,vs r5.1,vs r5.2.1],le_m0,ok.drop.drop,E.d,⟨rv_c (cs:=[vb r2.2,vs r5.1,vs r5.2.1]) E ok rfl qbb rfl (qac.own 1 rfl rfl),rv_t E rfl,trivial⟩,⟨rfl,l7,l8⟩⟩
 replace hF:=qar hc11 hF
 replace E:=E.upd 34 hc11 rfl
 refine mv E rfl fun a E=>?_
 obtain ⟨r12,e13,hF⟩:=bnd hF
 refine lc E qm7 rfl (qgf N r5.1 l7 e13 hG ok) fun w ok a E=>lw E (qaS rfl) fun a E=>pf E rfl rfl fun a E=>mv E rfl fun a E=>qav (!r12) (fun hc14=>?_) (fun hc14=>?_)
 ·replace hF:=qas hc14 hF
  replace E:=E.upd 39 hc14 rfl
  refine ls E fun a E=>ls E fun a E=>ls E fun a E=>ls E fun a E=>ls E fun a E=>ls E fun a E=>ls E fun a E=>ls E fun a E=>?_
  refine pt E rfl rfl fun a E=>aw E rfl fun a E=>c_if E rfl (fun _=>?_) (fun h=>by cases h)
  refine sg<|lv E ok (qao (cs:=[vb r2.2,vs r5.1,vs r5.2.1]) qbb rfl rfl (qac.own 0 rfl rfl)) fun a E=>qae E ok 1 rfl rfl rfl qdn rfl rfl ⟨rfl,rfl,rfl,trivial⟩ rfl rfl fun w ok=>aw E rfl fun a E=>wp_ret ?_
  refine qax<|qaf ?_
  exact fin hF ⟨m0,[vb r2.2,vs r5.1,vs r5.2.1],le_m0,ok.drop.drop,E.d,⟨rv_c (cs:=[vb r2.2,vs r5.1,vs r5.2.1]) E ok rfl qbb rfl (qac.own 1 rfl rfl),rv_t E rfl,trivial⟩,⟨rfl,l7,l8⟩⟩
 replace hF:=qar hc14 hF
 replace E:=E.upd 39 hc14 rfl
 refine mv E rfl fun a E=>lw E (qaL Tryz.underlying9 rfl) fun a E=>lw E (qa4 rfl rfl) fun a E=>mv E rfl fun a E=>qav (decide ((r5.1.length:Int) > 1)) (fun hc15=>?_) (fun hc15=>?_)
 rotate_left
 ·as_aux_lemma =>
   replace hF:=qar hc15 hF
   replace E:=E.upd 43 hc15 rfl
   refine ls E fun a E=>ls E fun a E=>ls E fun a E=>pf E rfl rfl fun a E=>pf E rfl rfl fun a E=>aw E rfl fun a E=>?_
   refine c_if E rfl (fun h=>by cases h) (fun _=>?_)
   refine sg<|mv E rfl fun a E=>mv E rfl fun a E=>qav r5.2.2 (fun hc45=>?_) (fun hc45=>?_)
   rotate_left
   ·as_aux_lemma =>
     replace hF:=qar hc45 hF
     replace E:=E.upd 52 hc45 rfl
     refine ls E fun a E=>ls E fun a E=>ls E fun a E=>pf E rfl rfl fun a E=>mv E rfl fun a E=>mv E rfl fun a E=>lw E (qaL Tryz.underlying9 rfl) fun a E=>lw E (qa4 rfl rfl) fun a E=>?_
     refine pf E rfl rfl fun a E=>mv E rfl fun a E=>qav (decide ((r5.2.1.length:Int) > 6)) (fun hc59=>?_) (fun hc59=>?_)
     ·replace hF:=qas hc59 hF
      replace E:=E.upd 62 hc59 rfl
      refine ls E fun a E=>ls E fun a E=>ls E fun a E=>pt E rfl rfl fun a E=>aw E rfl fun a E=>c_if E rfl (fun _=>?_) (fun h=>by cases h)
      refine sg<|lv E ok (qao (cs:=[vb r2.2,vs r5.1,vs r5.2.1]) qbb rfl rfl (qac.own 0 rfl rfl)) fun a E=>qae E ok 1 rfl rfl rfl qdn rfl rfl ⟨rfl,rfl,rfl,trivial⟩ rfl rfl fun w ok=>aw E rfl fun a E=>wp_ret ?_
      refine qax<|qaf ?_
      exact fin hF ⟨m0,[vb r2.2,vs r5.1,vs r5.2.1],le_m0,ok.drop.drop,E.d,⟨rv_c (cs:=[vb r2.2,vs r5.1,vs r5.2.1]) E ok rfl qbb rfl (qac.own 1 rfl rfl),rv_t E rfl,trivial⟩,⟨rfl,l7,l8⟩⟩
     replace hF:=qar hc59 hF
     replace E:=E.upd 62 hc59 rfl
     refine mv E rfl fun a E=>?_
     obtain ⟨r60,e61,hF⟩:=bnd hF
     refine lc E qm7 rfl (qgf N r5.2.1 l8 e61 hG ok) fun w ok a E=>lw E (qaS rfl) fun a E=>pf E rfl rfl fun a E=>aw E rfl fun a E=>cf E rfl hF (fun hc62 hF=>?_) fun hc62 hF=>?_
     ·refine sg<|lv E ok (qao (cs:=[vb r2.2,vs r5.1,vs r5.2.1]) qbb rfl rfl (qac.own 0 rfl rfl)) fun a E=>qae E ok 1 rfl rfl rfl qdn rfl rfl ⟨rfl,rfl,rfl,trivial⟩ rfl rfl fun w ok=>aw E rfl fun a E=>wp_ret ?_
      refine qax<|qaf ?_
      exact fin hF ⟨m0,[vb r2.2,vs r5.1,vs r5.2.1],le_m0,ok.drop.drop,E.d,⟨rv_c (cs:=[vb r2.2,vs r5.1,vs r5.2.1]) E ok rfl qbb rfl (qac.own 1 rfl rfl),rv_t E rfl,trivial⟩,⟨rfl,l7,l8⟩⟩
     refine wp_skip<|qal<|qaa<|wp_seq ?_
     obtain ⟨o63,hJ,hF⟩:=bnd hF
     refine qaV (Q':=fun e a w=>e = .normal ∧ Ok u m0 ([(b9,oc 92 [vb r2.2,vs r5.1,vs r5.2.1])] :: [(b1,oc 92 [vb o63.2.negative,vs o63.2.whole,vs o63.2.fraction])] :: S) w ∧ Env 76 a [(2,vp b1),(3,vb o63.1)] ∧ o63.2.whole.length ≤ LIMS ∧ o63.2.fraction.length ≤ LIMS) ?_ ?_
     rotate_left
     ·clear hJ
      intro e a w hO
      obtain ⟨rfl,ok,E,l69,l70⟩:=hO
      refine qaa<|wp_ret ?_
      exact fin hF ⟨m0,[vb o63.2.negative,vs o63.2.whole,vs o63.2.fraction],le_m0,ok.drop.drop,E.d,⟨rv_c (cs:=[vb o63.2.negative,vs o63.2.whole,vs o63.2.fraction]) E ok rfl qbb rfl (qac.own 1 rfl rfl),rv_t E rfl,trivial⟩,⟨rfl,l69,l70⟩⟩
     replace hF:=hJ
     clear hJ
     refine qav (!r2.2) (fun hc66=>?_) (fun hc66=>?_)
     ·replace hF:=qas hc66 hF
      obtain rfl:=sj hF
      refine qbG [0] (Cls u m0 ([(b9,oc 92 [vb r2.2,vs r5.1,vs r5.2.1])] :: [(b1,oc 92 [vb false,(vs ([])),(vs ([]))])] :: [])) (Cls u m0 ([(b9,oc 92 [vb r2.2,vs r5.1,vs r5.2.1])] :: [])) (by kernel_rfl) ?_
      intro w hw
      replace ok:=qce ok hw
      clear hw
      refine qaA (cl1 (cq le_m0 ok [0,1] rfl) (cq le_m0 ok [0] rfl)) fun hT=>qdo 0 E rfl (by kernel_rfl) nP hT (qao (cs:=[vb r2.2,vs r5.1,vs r5.2.1]) qbb rfl rfl (qac.cown 0 rfl rfl)) rfl rfl fun a E=>kt 1 E rfl hT (qah rfl) fun a E=>kt 2 E rfl hT (qaS rfl) fun a E=>kt 3 E rfl hT (qah rfl) fun a E=>?_
      replace E:=E.upd 71 hc66 rfl
      refine qaE 4 false E rfl (by kernel_rfl) nP hT rfl rfl fun a E=>qaE 5 false E rfl (by kernel_rfl) nP hT rfl rfl fun a E=>qaE 6 false E rfl (by kernel_rfl) nP hT rfl rfl fun a E=>kt 7 E rfl hT (qa1 rfl rfl) fun a E=>qaP [8] (by kernel_rfl) rfl (qaU ?_)
      ·refine wo rfl<|qae E ok 1 rfl rfl rfl qdn rfl rfl ⟨rfl,rfl,rfl,trivial⟩ rfl rfl fun w ok=>wn<|qaA (cl2 (by kernel_rfl) (cq le_m0 ok [0] rfl)) fun hT=>kt 9 E rfl hT (qaG rfl) fun a E=>qbg (by kernel_rfl) ?_
       exact ⟨rfl,⟨ok,E.keep [2,3],l7,l8⟩⟩
     replace hF:=qar hc66 hF
     obtain ⟨r67,e68,hF⟩:=bnd hF
     obtain rfl:=sj hF
     refine qbG [0] (Cls u m0 ([(b9,oc 92 [vb r2.2,vs r5.1,vs r5.2.1])] :: [(b1,oc 92 [vb false,(vs ([])),(vs ([]))])] :: [])) (Cls u m0 ([(b9,oc 92 [vb r2.2,vs r5.1,vs r5.2.1])] :: [])) (by kernel_rfl) ?_
     intro w hw
     replace ok:=qce ok hw
     clear hw
     refine qaA (cl1 (cq le_m0 ok [0,1] rfl) (cq le_m0 ok [0] rfl)) fun hT=>qdo 0 E rfl (by kernel_rfl) nP hT (qao (cs:=[vb r2.2,vs r5.1,vs r5.2.1]) qbb rfl rfl (qac.cown 0 rfl rfl)) rfl rfl fun a E=>kt 1 E rfl hT (qah rfl) fun a E=>kt 2 E rfl hT (qaS rfl) fun a E=>kt 3 E rfl hT (qah rfl) fun a E=>?_
     replace E:=E.upd 71 hc66 rfl
     refine kt 4 E rfl hT (qao (cs:=[vb r2.2,vs r5.1,vs r5.2.1]) qbb rfl rfl (qac.cown 0 rfl rfl)) fun a E=>qaP [5] (by kernel_rfl) rfl (qaU ?_)
     ·refine wo rfl<|lc E qod rfl (qfv N _ (Number.mk r2.2 r5.1 r5.2.1) ⟨rfl,l7,l8⟩ e68 hG ok) fun w ok a E=>wn<|qaA (cl1 (cq le_m0 ok [0,1] rfl) (cq le_m0 ok [0] rfl)) fun hT=>kt 6 E rfl hT (qaS rfl) fun a E=>kt 7 E rfl hT (qaY rfl rfl) fun a E=>qaP [8] (by kernel_rfl) rfl (qaU ?_)
      ·refine wo rfl<|qae E ok 1 rfl rfl rfl qdn rfl rfl ⟨rfl,rfl,rfl,trivial⟩ rfl rfl fun w ok=>wn<|qaA (cl2 (by kernel_rfl) (cq le_m0 ok [0] rfl)) fun hT=>kt 9 E rfl hT (qaG rfl) fun a E=>qbg (by kernel_rfl) ?_
       exact ⟨rfl,⟨ok,E.keep [2,3],l7,l8⟩⟩
   replace hF:=qas hc45 hF
   replace E:=E.upd 52 hc45 rfl
   refine mv E rfl fun a E=>lw E (qaL Tryz.underlying9 rfl) fun a E=>lw E (qaM rfl rfl) fun a E=>pt E rfl rfl fun a E=>mv E rfl fun a E=>qav ((r5.2.1.length:Int) == 0) (fun hc46=>?_) (fun hc46=>?_)
   ·replace hF:=qas hc46 hF
    replace E:=E.upd 57 hc46 rfl
    refine ls E fun a E=>ls E fun a E=>ls E fun a E=>pt E rfl rfl fun a E=>mv E rfl fun a E=>ls E fun a E=>ls E fun a E=>ls E fun a E=>?_
    refine pt E rfl rfl fun a E=>aw E rfl fun a E=>c_if E rfl (fun _=>?_) (fun h=>by cases h)
    refine sg<|lv E ok (qao (cs:=[vb r2.2,vs r5.1,vs r5.2.1]) qbb rfl rfl (qac.own 0 rfl rfl)) fun a E=>qae E ok 1 rfl rfl rfl qdn rfl rfl ⟨rfl,rfl,rfl,trivial⟩ rfl rfl fun w ok=>aw E rfl fun a E=>wp_ret ?_
    refine qax<|qaf ?_
    exact fin hF ⟨m0,[vb r2.2,vs r5.1,vs r5.2.1],le_m0,ok.drop.drop,E.d,⟨rv_c (cs:=[vb r2.2,vs r5.1,vs r5.2.1]) E ok rfl qbb rfl (qac.own 1 rfl rfl),rv_t E rfl,trivial⟩,⟨rfl,l7,l8⟩⟩
   replace hF:=qar hc46 hF
   replace E:=E.upd 57 hc46 rfl
   refine mv E rfl fun a E=>lw E (qaL Tryz.underlying9 rfl) fun a E=>lw E (qa4 rfl rfl) fun a E=>pf E rfl rfl fun a E=>mv E rfl fun a E=>qav (decide ((r5.2.1.length:Int) > 6)) (fun hc47=>?_) (fun hc47=>?_)
   ·replace hF:=qas hc47 hF
    replace E:=E.upd 62 hc47 rfl
    refine ls E fun a E=>ls E fun a E=>ls E fun a E=>pt E rfl rfl fun a E=>aw E rfl fun a E=>c_if E rfl (fun _=>?_) (fun h=>by cases h)
    refine sg<|lv E ok (qao (cs:=[vb r2.2,vs r5.1,vs r5.2.1]) qbb rfl rfl (qac.own 0 rfl rfl)) fun a E=>qae E ok 1 rfl rfl rfl qdn rfl rfl ⟨rfl,rfl,rfl,trivial⟩ rfl rfl fun w ok=>aw E rfl fun a E=>wp_ret ?_
    refine qax<|qaf ?_
    exact fin hF ⟨m0,[vb r2.2,vs r5.1,vs r5.2.1],le_m0,ok.drop.drop,E.d,⟨rv_c (cs:=[vb r2.2,vs r5.1,vs r5.2.1]) E ok rfl qbb rfl (qac.own 1 rfl rfl),rv_t E rfl,trivial⟩,⟨rfl,l7,l8⟩⟩
   replace hF:=qar hc47 hF
   replace E:=E.upd 62 hc47 rfl
   refine mv E rfl fun a E=>?_
   obtain ⟨r48,e49,hF⟩:=bnd hF
   refine lc E qm7 rfl (qgf N r5.2.1 l8 e49 hG ok) fun w ok a E=>lw E (qaS rfl) fun a E=>pf E rfl rfl fun a E=>aw E rfl fun a E=>cf E rfl hF (fun hc50 hF=>?_) fun hc50 hF=>?_
   ·refine sg<|lv E ok (qao (cs:=[vb r2.2,vs r5.1,vs r5.2.1]) qbb rfl rfl (qac.own 0 rfl rfl)) fun a E=>qae E ok 1 rfl rfl rfl qdn rfl rfl ⟨rfl,rfl,rfl,trivial⟩ rfl rfl fun w ok=>aw E rfl fun a E=>wp_ret ?_
    refine qax<|qaf ?_
    exact fin hF ⟨m0,[vb r2.2,vs r5.1,vs r5.2.1],le_m0,ok.drop.drop,E.d,⟨rv_c (cs:=[vb r2.2,vs r5.1,vs r5.2.1]) E ok rfl qbb rfl (qac.own 1 rfl rfl),rv_t E rfl,trivial⟩,⟨rfl,l7,l8⟩⟩
   refine wp_skip<|qal<|qaa<|wp_seq ?_
   obtain ⟨o51,hJ,hF⟩:=bnd hF
   refine qaV (Q':=fun e a w=>e = .normal ∧ Ok u m0 ([(b9,oc 92 [vb r2.2,vs r5.1,vs r5.2.1])] :: [(b1,oc 92 [vb o51.2.negative,vs o51.2.whole,vs o51.2.fraction])] :: S) w ∧ Env 76 a [(2,vp b1),(3,vb o51.1)] ∧ o51.2.whole.length ≤ LIMS ∧ o51.2.fraction.length ≤ LIMS) ?_ ?_
   rotate_left
   ·clear hJ
    intro e a w hO
    obtain ⟨rfl,ok,E,l57,l58⟩:=hO
    refine qaa<|wp_ret ?_
    exact fin hF ⟨m0,[vb o51.2.negative,vs o51.2.whole,vs o51.2.fraction],le_m0,ok.drop.drop,E.d,⟨rv_c (cs:=[vb o51.2.negative,vs o51.2.whole,vs o51.2.fraction]) E ok rfl qbb rfl (qac.own 1 rfl rfl),rv_t E rfl,trivial⟩,⟨rfl,l57,l58⟩⟩
   replace hF:=hJ
   clear hJ
   refine qav (!r2.2) (fun hc54=>?_) (fun hc54=>?_)
   ·replace hF:=qas hc54 hF
    obtain rfl:=sj hF
    refine qbG [0] (Cls u m0 ([(b9,oc 92 [vb r2.2,vs r5.1,vs r5.2.1])] :: [(b1,oc 92 [vb false,(vs ([])),(vs ([]))])] :: [])) (Cls u m0 ([(b9,oc 92 [vb r2.2,vs r5.1,vs r5.2.1])] :: [])) (by kernel_rfl) ?_
    intro w hw
    replace ok:=qce ok hw
    clear hw
    refine qaA (cl1 (cq le_m0 ok [0,1] rfl) (cq le_m0 ok [0] rfl)) fun hT=>qdo 0 E rfl (by kernel_rfl) nP hT (qao (cs:=[vb r2.2,vs r5.1,vs r5.2.1]) qbb rfl rfl (qac.cown 0 rfl rfl)) rfl rfl fun a E=>kt 1 E rfl hT (qah rfl) fun a E=>kt 2 E rfl hT (qaS rfl) fun a E=>kt 3 E rfl hT (qah rfl) fun a E=>?_
    replace E:=E.upd 71 hc54 rfl
    refine qaE 4 false E rfl (by kernel_rfl) nP hT rfl rfl fun a E=>qaE 5 false E rfl (by kernel_rfl) nP hT rfl rfl fun a E=>qaE 6 false E rfl (by kernel_rfl) nP hT rfl rfl fun a E=>kt 7 E rfl hT (qa1 rfl rfl) fun a E=>qaP [8] (by kernel_rfl) rfl (qaU ?_)
    ·refine wo rfl<|qae E ok 1 rfl rfl rfl qdn rfl rfl ⟨rfl,rfl,rfl,trivial⟩ rfl rfl fun w ok=>wn<|qaA (cl2 (by kernel_rfl) (cq le_m0 ok [0] rfl)) fun hT=>kt 9 E rfl hT (qaG rfl) fun a E=>qbg (by kernel_rfl) ?_
     exact ⟨rfl,⟨ok,E.keep [2,3],l7,l8⟩⟩
   replace hF:=qar hc54 hF
   obtain ⟨r55,e56,hF⟩:=bnd hF
   obtain rfl:=sj hF
   refine qbG [0] (Cls u m0 ([(b9,oc 92 [vb r2.2,vs r5.1,vs r5.2.1])] :: [(b1,oc 92 [vb false,(vs ([])),(vs ([]))])] :: [])) (Cls u m0 ([(b9,oc 92 [vb r2.2,vs r5.1,vs r5.2.1])] :: [])) (by kernel_rfl) ?_
   intro w hw
   replace ok:=qce ok hw
   clear hw
   refine qaA (cl1 (cq le_m0 ok [0,1] rfl) (cq le_m0 ok [0] rfl)) fun hT=>qdo 0 E rfl (by kernel_rfl) nP hT (qao (cs:=[vb r2.2,vs r5.1,vs r5.2.1]) qbb rfl rfl (qac.cown 0 rfl rfl)) rfl rfl fun a E=>kt 1 E rfl hT (qah rfl) fun a E=>kt 2 E rfl hT (qaS rfl) fun a E=>kt 3 E rfl hT (qah rfl) fun a E=>?_
   replace E:=E.upd 71 hc54 rfl
   refine kt 4 E rfl hT (qao (cs:=[vb r2.2,vs r5.1,vs r5.2.1]) qbb rfl rfl (qac.cown 0 rfl rfl)) fun a E=>qaP [5] (by kernel_rfl) rfl (qaU ?_)
   ·refine wo rfl<|lc E qod rfl (qfv N _ (Number.mk r2.2 r5.1 r5.2.1) ⟨rfl,l7,l8⟩ e56 hG ok) fun w ok a E=>wn<|qaA (cl1 (cq le_m0 ok [0,1] rfl) (cq le_m0 ok [0] rfl)) fun hT=>kt 6 E rfl hT (qaS rfl) fun a E=>kt 7 E rfl hT (qaY rfl rfl) fun a E=>qaP [8] (by kernel_rfl) rfl (qaU ?_)
    ·refine wo rfl<|qae E ok 1 rfl rfl rfl qdn rfl rfl ⟨rfl,rfl,rfl,trivial⟩ rfl rfl fun w ok=>wn<|qaA (cl2 (by kernel_rfl) (cq le_m0 ok [0] rfl)) fun hT=>kt 9 E rfl hT (qaG rfl) fun a E=>qbg (by kernel_rfl) ?_
     exact ⟨rfl,⟨ok,E.keep [2,3],l7,l8⟩⟩
 replace hF:=qas hc15 hF
 replace E:=E.upd 43 hc15 rfl
 refine mv E rfl fun a E=>?_
 obtain ⟨c16,e17,hF⟩:=bnd hF
 refine lv E ok (qbB Tryz.underlying9 rfl rfl e17) fun a E=>lw E (qaM rfl rfl) fun a E=>pt E rfl rfl fun a E=>pf E rfl rfl fun a E=>aw E rfl fun a E=>cf E rfl hF (fun hc18 hF=>?_) fun hc18 hF=>?_
 ·refine sg<|lv E ok (qao (cs:=[vb r2.2,vs r5.1,vs r5.2.1]) qbb rfl rfl (qac.own 0 rfl rfl)) fun a E=>qae E ok 1 rfl rfl rfl qdn rfl rfl ⟨rfl,rfl,rfl,trivial⟩ rfl rfl fun w ok=>aw E rfl fun a E=>wp_ret ?_
  refine qax<|qaf ?_
  exact fin hF ⟨m0,[vb r2.2,vs r5.1,vs r5.2.1],le_m0,ok.drop.drop,E.d,⟨rv_c (cs:=[vb r2.2,vs r5.1,vs r5.2.1]) E ok rfl qbb rfl (qac.own 1 rfl rfl),rv_t E rfl,trivial⟩,⟨rfl,l7,l8⟩⟩
 refine sg<|mv E rfl fun a E=>mv E rfl fun a E=>qav r5.2.2 (fun hc19=>?_) (fun hc19=>?_)
 rotate_left
 ·as_aux_lemma =>
   replace hF:=qar hc19 hF
   replace E:=E.upd 52 hc19 rfl
   refine ls E fun a E=>ls E fun a E=>ls E fun a E=>pf E rfl rfl fun a E=>mv E rfl fun a E=>mv E rfl fun a E=>lw E (qaL Tryz.underlying9 rfl) fun a E=>lw E (qa4 rfl rfl) fun a E=>?_
   refine pf E rfl rfl fun a E=>mv E rfl fun a E=>qav (decide ((r5.2.1.length:Int) > 6)) (fun hc33=>?_) (fun hc33=>?_)
   ·replace hF:=qas hc33 hF
    replace E:=E.upd 62 hc33 rfl
    refine ls E fun a E=>ls E fun a E=>ls E fun a E=>pt E rfl rfl fun a E=>aw E rfl fun a E=>c_if E rfl (fun _=>?_) (fun h=>by cases h)
    refine sg<|lv E ok (qao (cs:=[vb r2.2,vs r5.1,vs r5.2.1]) qbb rfl rfl (qac.own 0 rfl rfl)) fun a E=>qae E ok 1 rfl rfl rfl qdn rfl rfl ⟨rfl,rfl,rfl,trivial⟩ rfl rfl fun w ok=>aw E rfl fun a E=>wp_ret ?_
    refine qax<|qaf ?_
    exact fin hF ⟨m0,[vb r2.2,vs r5.1,vs r5.2.1],le_m0,ok.drop.drop,E.d,⟨rv_c (cs:=[vb r2.2,vs r5.1,vs r5.2.1]) E ok rfl qbb rfl (qac.own 1 rfl rfl),rv_t E rfl,trivial⟩,⟨rfl,l7,l8⟩⟩
   replace hF:=qar hc33 hF
   replace E:=E.upd 62 hc33 rfl
   refine mv E rfl fun a E=>?_
   obtain ⟨r34,e35,hF⟩:=bnd hF
   refine lc E qm7 rfl (qgf N r5.2.1 l8 e35 hG ok) fun w ok a E=>lw E (qaS rfl) fun a E=>pf E rfl rfl fun a E=>aw E rfl fun a E=>cf E rfl hF (fun hc36 hF=>?_) fun hc36 hF=>?_
   ·refine sg<|lv E ok (qao (cs:=[vb r2.2,vs r5.1,vs r5.2.1]) qbb rfl rfl (qac.own 0 rfl rfl)) fun a E=>qae E ok 1 rfl rfl rfl qdn rfl rfl ⟨rfl,rfl,rfl,trivial⟩ rfl rfl fun w ok=>aw E rfl fun a E=>wp_ret ?_
    refine qax<|qaf ?_
    exact fin hF ⟨m0,[vb r2.2,vs r5.1,vs r5.2.1],le_m0,ok.drop.drop,E.d,⟨rv_c (cs:=[vb r2.2,vs r5.1,vs r5.2.1]) E ok rfl qbb rfl (qac.own 1 rfl rfl),rv_t E rfl,trivial⟩,⟨rfl,l7,l8⟩⟩
   refine wp_skip<|qal<|qaa<|wp_seq ?_
   obtain ⟨o37,hJ,hF⟩:=bnd hF
   refine qaV (Q':=fun e a w=>e = .normal ∧ Ok u m0 ([(b9,oc 92 [vb r2.2,vs r5.1,vs r5.2.1])] :: [(b1,oc 92 [vb o37.2.negative,vs o37.2.whole,vs o37.2.fraction])] :: S) w ∧ Env 76 a [(2,vp b1),(3,vb o37.1)] ∧ o37.2.whole.length ≤ LIMS ∧ o37.2.fraction.length ≤ LIMS) ?_ ?_
   rotate_left
   ·clear hJ
    intro e a w hO
    obtain ⟨rfl,ok,E,l43,l44⟩:=hO
    refine qaa<|wp_ret ?_
    exact fin hF ⟨m0,[vb o37.2.negative,vs o37.2.whole,vs o37.2.fraction],le_m0,ok.drop.drop,E.d,⟨rv_c (cs:=[vb o37.2.negative,vs o37.2.whole,vs o37.2.fraction]) E ok rfl qbb rfl (qac.own 1 rfl rfl),rv_t E rfl,trivial⟩,⟨rfl,l43,l44⟩⟩
   replace hF:=hJ
   clear hJ
   refine qav (!r2.2) (fun hc40=>?_) (fun hc40=>?_)
   ·replace hF:=qas hc40 hF
    obtain rfl:=sj hF
    refine qbG [0] (Cls u m0 ([(b9,oc 92 [vb r2.2,vs r5.1,vs r5.2.1])] :: [(b1,oc 92 [vb false,(vs ([])),(vs ([]))])] :: [])) (Cls u m0 ([(b9,oc 92 [vb r2.2,vs r5.1,vs r5.2.1])] :: [])) (by kernel_rfl) ?_
    intro w hw
    replace ok:=qce ok hw
    clear hw
    refine qaA (cl1 (cq le_m0 ok [0,1] rfl) (cq le_m0 ok [0] rfl)) fun hT=>qdo 0 E rfl (by kernel_rfl) nP hT (qao (cs:=[vb r2.2,vs r5.1,vs r5.2.1]) qbb rfl rfl (qac.cown 0 rfl rfl)) rfl rfl fun a E=>kt 1 E rfl hT (qah rfl) fun a E=>kt 2 E rfl hT (qaS rfl) fun a E=>kt 3 E rfl hT (qah rfl) fun a E=>?_
    replace E:=E.upd 71 hc40 rfl
    refine qaE 4 false E rfl (by kernel_rfl) nP hT rfl rfl fun a E=>qaE 5 false E rfl (by kernel_rfl) nP hT rfl rfl fun a E=>qaE 6 false E rfl (by kernel_rfl) nP hT rfl rfl fun a E=>kt 7 E rfl hT (qa1 rfl rfl) fun a E=>qaP [8] (by kernel_rfl) rfl (qaU ?_)
    ·refine wo rfl<|qae E ok 1 rfl rfl rfl qdn rfl rfl ⟨rfl,rfl,rfl,trivial⟩ rfl rfl fun w ok=>wn<|qaA (cl2 (by kernel_rfl) (cq le_m0 ok [0] rfl)) fun hT=>kt 9 E rfl hT (qaG rfl) fun a E=>qbg (by kernel_rfl) ?_
     exact ⟨rfl,⟨ok,E.keep [2,3],l7,l8⟩⟩
   replace hF:=qar hc40 hF
   obtain ⟨r41,e42,hF⟩:=bnd hF
   obtain rfl:=sj hF
   refine qbG [0] (Cls u m0 ([(b9,oc 92 [vb r2.2,vs r5.1,vs r5.2.1])] :: [(b1,oc 92 [vb false,(vs ([])),(vs ([]))])] :: [])) (Cls u m0 ([(b9,oc 92 [vb r2.2,vs r5.1,vs r5.2.1])] :: [])) (by kernel_rfl) ?_
   intro w hw
   replace ok:=qce ok hw
   clear hw
   refine qaA (cl1 (cq le_m0 ok [0,1] rfl) (cq le_m0 ok [0] rfl)) fun hT=>qdo 0 E rfl (by kernel_rfl) nP hT (qao (cs:=[vb r2.2,vs r5.1,vs r5.2.1]) qbb rfl rfl (qac.cown 0 rfl rfl)) rfl rfl fun a E=>kt 1 E rfl hT (qah rfl) fun a E=>kt 2 E rfl hT (qaS rfl) fun a E=>kt 3 E rfl hT (qah rfl) fun a E=>?_
   replace E:=E.upd 71 hc40 rfl
   refine kt 4 E rfl hT (qao (cs:=[vb r2.2,vs r5.1,vs r5.2.1]) qbb rfl rfl (qac.cown 0 rfl rfl)) fun a E=>qaP [5] (by kernel_rfl) rfl (qaU ?_)
   ·refine wo rfl<|lc E qod rfl (qfv N _ (Number.mk r2.2 r5.1 r5.2.1) ⟨rfl,l7,l8⟩ e42 hG ok) fun w ok a E=>wn<|qaA (cl1 (cq le_m0 ok [0,1] rfl) (cq le_m0 ok [0] rfl)) fun hT=>kt 6 E rfl hT (qaS rfl) fun a E=>kt 7 E rfl hT (qaY rfl rfl) fun a E=>qaP [8] (by kernel_rfl) rfl (qaU ?_)
    ·refine wo rfl<|qae E ok 1 rfl rfl rfl qdn rfl rfl ⟨rfl,rfl,rfl,trivial⟩ rfl rfl fun w ok=>wn<|qaA (cl2 (by kernel_rfl) (cq le_m0 ok [0] rfl)) fun hT=>kt 9 E rfl hT (qaG rfl) fun a E=>qbg (by kernel_rfl) ?_
     exact ⟨rfl,⟨ok,E.keep [2,3],l7,l8⟩⟩
 replace hF:=qas hc19 hF
 replace E:=E.upd 52 hc19 rfl
 refine mv E rfl fun a E=>lw E (qaL Tryz.underlying9 rfl) fun a E=>lw E (qaM rfl rfl) fun a E=>pt E rfl rfl fun a E=>mv E rfl fun a E=>qav ((r5.2.1.length:Int) == 0) (fun hc20=>?_) (fun hc20=>?_)
 ·replace hF:=qas hc20 hF
  replace E:=E.upd 57 hc20 rfl
  refine ls E fun a E=>ls E fun a E=>ls E fun a E=>pt E rfl rfl fun a E=>mv E rfl fun a E=>ls E fun a E=>ls E fun a E=>ls E fun a E=>?_
  refine pt E rfl rfl fun a E=>aw E rfl fun a E=>c_if E rfl (fun _=>?_) (fun h=>by cases h)
  refine sg<|lv E ok (qao (cs:=[vb r2.2,vs r5.1,vs r5.2.1]) qbb rfl rfl (qac.own 0 rfl rfl)) fun a E=>qae E ok 1 rfl rfl rfl qdn rfl rfl ⟨rfl,rfl,rfl,trivial⟩ rfl rfl fun w ok=>aw E rfl fun a E=>wp_ret ?_
  refine qax<|qaf ?_
  exact fin hF ⟨m0,[vb r2.2,vs r5.1,vs r5.2.1],le_m0,ok.drop.drop,E.d,⟨rv_c (cs:=[vb r2.2,vs r5.1,vs r5.2.1]) E ok rfl qbb rfl (qac.own 1 rfl rfl),rv_t E rfl,trivial⟩,⟨rfl,l7,l8⟩⟩
 replace hF:=qar hc20 hF
 replace E:=E.upd 57 hc20 rfl
 refine mv E rfl fun a E=>lw E (qaL Tryz.underlying9 rfl) fun a E=>lw E (qa4 rfl rfl) fun a E=>pf E rfl rfl fun a E=>mv E rfl fun a E=>qav (decide ((r5.2.1.length:Int) > 6)) (fun hc21=>?_) (fun hc21=>?_)
 ·replace hF:=qas hc21 hF
  replace E:=E.upd 62 hc21 rfl
  refine ls E fun a E=>ls E fun a E=>ls E fun a E=>pt E rfl rfl fun a E=>aw E rfl fun a E=>c_if E rfl (fun _=>?_) (fun h=>by cases h)
  refine sg<|lv E ok (qao (cs:=[vb r2.2,vs r5.1,vs r5.2.1]) qbb rfl rfl (qac.own 0 rfl rfl)) fun a E=>qae E ok 1 rfl rfl rfl qdn rfl rfl ⟨rfl,rfl,rfl,trivial⟩ rfl rfl fun w ok=>aw E rfl fun a E=>wp_ret ?_
  refine qax<|qaf ?_
  exact fin hF ⟨m0,[vb r2.2,vs r5.1,vs r5.2.1],le_m0,ok.drop.drop,E.d,⟨rv_c (cs:=[vb r2.2,vs r5.1,vs r5.2.1]) E ok rfl qbb rfl (qac.own 1 rfl rfl),rv_t E rfl,trivial⟩,⟨rfl,l7,l8⟩⟩
 replace hF:=qar hc21 hF
 replace E:=E.upd 62 hc21 rfl
 refine mv E rfl fun a E=>?_
 obtain ⟨r22,e23,hF⟩:=bnd hF
 refine lc E qm7 rfl (qgf N r5.2.1 l8 e23 hG ok) fun w ok a E=>lw E (qaS rfl) fun a E=>pf E rfl rfl fun a E=>aw E rfl fun a E=>cf E rfl hF (fun hc24 hF=>?_) fun hc24 hF=>?_
 ·refine sg<|lv E ok (qao (cs:=[vb r2.2,vs r5.1,vs r5.2.1]) qbb rfl rfl (qac.own 0 rfl rfl)) fun a E=>qae E ok 1 rfl rfl rfl qdn rfl rfl ⟨rfl,rfl,rfl,trivial⟩ rfl rfl fun w ok=>aw E rfl fun a E=>wp_ret ?_
  refine qax<|qaf ?_
  exact fin hF ⟨m0,[vb r2.2,vs r5.1,vs r5.2.1],le_m0,ok.drop.drop,E.d,⟨rv_c (cs:=[vb r2.2,vs r5.1,vs r5.2.1]) E ok rfl qbb rfl (qac.own 1 rfl rfl),rv_t E rfl,trivial⟩,⟨rfl,l7,l8⟩⟩
 refine wp_skip<|qal<|qaa<|wp_seq ?_
 obtain ⟨o25,hJ,hF⟩:=bnd hF
 refine qaV (Q':=fun e a w=>e = .normal ∧ Ok u m0 ([(b9,oc 92 [vb r2.2,vs r5.1,vs r5.2.1])] :: [(b1,oc 92 [vb o25.2.negative,vs o25.2.whole,vs o25.2.fraction])] :: S) w ∧ Env 76 a [(2,vp b1),(3,vb o25.1)] ∧ o25.2.whole.length ≤ LIMS ∧ o25.2.fraction.length ≤ LIMS) ?_ ?_
 rotate_left
 ·clear hJ
  intro e a w hO
  obtain ⟨rfl,ok,E,l31,l32⟩:=hO
  refine qaa<|wp_ret ?_
  exact fin hF ⟨m0,[vb o25.2.negative,vs o25.2.whole,vs o25.2.fraction],le_m0,ok.drop.drop,E.d,⟨rv_c (cs:=[vb o25.2.negative,vs o25.2.whole,vs o25.2.fraction]) E ok rfl qbb rfl (qac.own 1 rfl rfl),rv_t E rfl,trivial⟩,⟨rfl,l31,l32⟩⟩
 replace hF:=hJ
 clear hJ
 refine qav (!r2.2) (fun hc28=>?_) (fun hc28=>?_)
 ·replace hF:=qas hc28 hF
  obtain rfl:=sj hF
  refine qbG [0] (Cls u m0 ([(b9,oc 92 [vb r2.2,vs r5.1,vs r5.2.1])] :: [(b1,oc 92 [vb false,(vs ([])),(vs ([]))])] :: [])) (Cls u m0 ([(b9,oc 92 [vb r2.2,vs r5.1,vs r5.2.1])] :: [])) (by kernel_rfl) ?_
  intro w hw
  replace ok:=qce ok hw
  clear hw
  refine qaA (cl1 (cq le_m0 ok [0,1] rfl) (cq le_m0 ok [0] rfl)) fun hT=>qdo 0 E rfl (by kernel_rfl) nP hT (qao (cs:=[vb r2.2,vs r5.1,vs r5.2.1]) qbb rfl rfl (qac.cown 0 rfl rfl)) rfl rfl fun a E=>kt 1 E rfl hT (qah rfl) fun a E=>kt 2 E rfl hT (qaS rfl) fun a E=>kt 3 E rfl hT (qah rfl) fun a E=>?_
  replace E:=E.upd 71 hc28 rfl
  refine qaE 4 false E rfl (by kernel_rfl) nP hT rfl rfl fun a E=>qaE 5 false E rfl (by kernel_rfl) nP hT rfl rfl fun a E=>qaE 6 false E rfl (by kernel_rfl) nP hT rfl rfl fun a E=>kt 7 E rfl hT (qa1 rfl rfl) fun a E=>qaP [8] (by kernel_rfl) rfl (qaU ?_)
  ·refine wo rfl<|qae E ok 1 rfl rfl rfl qdn rfl rfl ⟨rfl,rfl,rfl,trivial⟩ rfl rfl fun w ok=>wn<|qaA (cl2 (by kernel_rfl) (cq le_m0 ok [0] rfl)) fun hT=>kt 9 E rfl hT (qaG rfl) fun a E=>qbg (by kernel_rfl) ?_
   exact ⟨rfl,⟨ok,E.keep [2,3],l7,l8⟩⟩
 replace hF:=qar hc28 hF
 obtain ⟨r29,e30,hF⟩:=bnd hF
 obtain rfl:=sj hF
 refine qbG [0] (Cls u m0 ([(b9,oc 92 [vb r2.2,vs r5.1,vs r5.2.1])] :: [(b1,oc 92 [vb false,(vs ([])),(vs ([]))])] :: [])) (Cls u m0 ([(b9,oc 92 [vb r2.2,vs r5.1,vs r5.2.1])] :: [])) (by kernel_rfl) ?_
 intro w hw
 replace ok:=qce ok hw
 clear hw
 refine qaA (cl1 (cq le_m0 ok [0,1] rfl) (cq le_m0 ok [0] rfl)) fun hT=>qdo 0 E rfl (by kernel_rfl) nP hT (qao (cs:=[vb r2.2,vs r5.1,vs r5.2.1]) qbb rfl rfl (qac.cown 0 rfl rfl)) rfl rfl fun a E=>kt 1 E rfl hT (qah rfl) fun a E=>kt 2 E rfl hT (qaS rfl) fun a E=>kt 3 E rfl hT (qah rfl) fun a E=>?_
 replace E:=E.upd 71 hc28 rfl
 refine kt 4 E rfl hT (qao (cs:=[vb r2.2,vs r5.1,vs r5.2.1]) qbb rfl rfl (qac.cown 0 rfl rfl)) fun a E=>qaP [5] (by kernel_rfl) rfl (qaU ?_)
 ·refine wo rfl<|lc E qod rfl (qfv N _ (Number.mk r2.2 r5.1 r5.2.1) ⟨rfl,l7,l8⟩ e30 hG ok) fun w ok a E=>wn<|qaA (cl1 (cq le_m0 ok [0,1] rfl) (cq le_m0 ok [0] rfl)) fun hT=>kt 6 E rfl hT (qaS rfl) fun a E=>kt 7 E rfl hT (qaY rfl rfl) fun a E=>qaP [8] (by kernel_rfl) rfl (qaU ?_)
  ·refine wo rfl<|qae E ok 1 rfl rfl rfl qdn rfl rfl ⟨rfl,rfl,rfl,trivial⟩ rfl rfl fun w ok=>wn<|qaA (cl2 (by kernel_rfl) (cq le_m0 ok [0] rfl)) fun hT=>kt 9 E rfl hT (qaG rfl) fun a E=>qbg (by kernel_rfl) ?_
   exact ⟨rfl,⟨ok,E.keep [2,3],l7,l8⟩⟩
def qow (u:World) (m0:Mem) (S:Segs) (r:Bool) (a:Act) (w:World):Prop :=
 Ok u m0 S w ∧ a.defers = [] ∧ RVs Tryz.prog a w [.t 2 (.bool r)]
theorem qos (N:Nat) (s_0:List UInt8) (ls_0:s_0.length ≤ LIMS) {r:Bool} (hF:qjx N s_0 = some r) (hG:Glob u) (ok:Ok u m0 S w) :
  Calls Tryz.prog 48 [vs s_0].toArray w fun e w'=>(e = .returned (.bool r) ∧ Ok u m0 S w'):=by
 have hb0:=ok.base
 have le_m0:=Mem.le.refl m0
 unfold qjx at hF
 refine en (qow u m0 S) r Tryz.func48 rfl rfl rfl (by rintro a w ⟨ok,hd,hrv⟩; exact qat [.t 2 (.bool r)] hd rfl hrv ⟨rfl,ok⟩) fun fin a E=>sg<|aw E rfl fun a E=>sg ?_
 refine mv E rfl fun a E=>?_
 obtain ⟨r1,e2,hF⟩:=bnd hF
 refine qag E qt5 rfl (qky N s_0 ls_0 e2 hG ok) rfl rfl ?_
 rintro _ w ⟨m3,vs4,rfl,hle,ok,h5⟩
 have le_m0:=le_m0.trans hle
 obtain ⟨rfl,l6,l7⟩:=h5
 refine ⟨_,rfl,fun a E=>?_⟩
 refine mv E rfl fun a E=>lw E (qam rfl rfl) fun a E=>lw E (qam rfl rfl) fun a E=>qaR E ok qlj rfl rfl fun b8 a w E ok=>qae E ok 0 rfl rfl rfl qdn rfl rfl ⟨rfl,rfl,rfl,trivial⟩ rfl rfl fun w ok=>aw E rfl fun a E=>?_
 refine sg<|mv E rfl fun a E=>aw E rfl fun a E=>wp_ret ?_
 exact fin hF ⟨(ok.drop).down hb0 le_m0,E.d,⟨rv_t E rfl,trivial⟩⟩
theorem ql4 {u:World} {m0:Mem} {S:Segs} {w:World} (N:Nat) (p0_0:List UInt8) (lp0_0:p0_0.length ≤ LIMS) (p1_1:List UInt8) (lp1_1:p1_1.length ≤ LIMS) {r:(List UInt8)} (hF:qgQ N p0_0 p1_1 = some r) (hG:Glob u) (ok:Ok u m0 S w) :
 Calls Tryz.prog 105 [vs p0_0,vs p1_1].toArray w fun e w'=>(e = .returned (.string (bs r)) ∧ Ok u m0 S w') ∧ r.length ≤ LIMS:=qpE Tryz.lays162 (by kernel_rfl) p0_0 p1_1 hF lp0_0 ok
theorem qbu {u:World} {m0:Mem} {S:Segs} {w:World} (N:Nat) (p0_0:List UInt8) (lp0_0:p0_0.length ≤ LIMS) {r:Int × Unit} (hF:strconv_Atoi N p0_0 = some r) (hG:Glob u) (ok:Ok u m0 S w) :
 Calls Tryz.prog 127 [vs p0_0].toArray w fun e w'=>(e = .returned (.tuple [(.int .i64 r.1),.nilIface].toArray) ∧ Ok u m0 (S) w') ∧ InR .i64 r.1:=qtr Tryz.lays172 p0_0 hF ok
def qoL (u:World) (m0:Mem) (S:Segs) (r:Int) (a:Act) (w:World):Prop :=
 Ok u m0 S w ∧ a.defers = [] ∧ RVs Tryz.prog a w [.t 2 (.int .i64 r)] ∧ InR .i64 r
theorem qhz (N:Nat) (s_0:List UInt8) (ls_0:s_0.length ≤ LIMS) {r:Int} (hF:qgp N s_0 = some r) (hG:Glob u) (ok:Ok u m0 S w) :
  Calls Tryz.prog 106 [vs s_0].toArray w fun e w'=>(e = .returned (.int .i64 r) ∧ Ok u m0 S w') ∧ InR .i64 r:=by
 unfold qgp at hF
 refine en (qoL u m0 S) r Tryz.func106 rfl rfl rfl (by rintro a w ⟨ok,hd,hrv,h0⟩; exact qat [.t 2 (.int .i64 r)] hd rfl hrv ⟨⟨rfl,ok⟩,h0⟩) fun fin a E=>sg<|aw E rfl fun a E=>sg ?_
 refine mv E rfl fun a E=>?_
 obtain ⟨s1,e2,hF⟩:=bnd hF
 refine lw E (qcd rfl rfl e2) fun a E=>?_
 obtain ⟨r3,e4,hF⟩:=bnd hF
 refine qag E qfK rfl (qbu N s1 (qbt e2) e4 hG ok) rfl rfl ?_
 rintro _ w ⟨⟨rfl,ok⟩,r5⟩
 refine ⟨_,rfl,fun a E=>?_⟩
 refine mv E rfl fun a E=>lw E (qam rfl rfl) fun a E=>lw E (qam rfl rfl) fun a E=>av E rfl fun a E=>aw E rfl fun a E=>wp_seq ?_
 refine qab<|mv E rfl fun a E=>aw E rfl fun a E=>wp_ret ?_
 exact fin hF ⟨ok,E.d,⟨rv_t E rfl,trivial⟩,r5⟩
def qnv (u:World) (m0:Mem) (S:Segs) (r:Int × Int) (a:Act) (w:World):Prop :=
 Ok u m0 S w ∧ a.defers = [] ∧ RVs Tryz.prog a w [.t 4 (.int .i64 r.1),.t 5 (.int .i64 r.2)] ∧ InR .i64 r.1 ∧ InR .i64 r.2
theorem qnF (N:Nat) (s_0:List UInt8) (ls_0:s_0.length ≤ LIMS) (operand_1:Int) (roperand_1:InR .i64 operand_1) {r:Int × Int} (hF:qiQ N s_0 operand_1 = some r) (hG:Glob u) (ok:Ok u m0 S w) :
  Calls Tryz.prog 75 [vs s_0,vi operand_1].toArray w fun e w'=>(e = .returned (.tuple [(.int .i64 r.1),(.int .i64 r.2)].toArray) ∧ Ok u m0 S w') ∧ InR .i64 r.1 ∧ InR .i64 r.2:=by
 have hb0:=ok.base
 have le_m0:=Mem.le.refl m0
 unfold qiQ at hF
 refine en (qnv u m0 S) r Tryz.func75 rfl rfl rfl (by rintro a w ⟨ok,hd,hrv,h0,h1⟩; exact qat [.t 4 (.int .i64 r.1),.t 5 (.int .i64 r.2)] hd rfl hrv ⟨⟨rfl,ok⟩,h0,h1⟩) fun fin a E=>sg<|av E rfl fun a E=>aw E rfl fun a E=>wp_seq ?_
 refine qab<|mv E rfl fun a E=>?_
 obtain ⟨r1,e2,hF⟩:=bnd hF
 refine qag E qt5 rfl (qky N s_0 ls_0 e2 hG ok) rfl rfl ?_
 rintro _ w ⟨m3,vs4,rfl,hle,ok,h5⟩
 have le_m0:=le_m0.trans hle
 obtain ⟨rfl,l6,l7⟩:=h5
 refine ⟨_,rfl,fun a E=>?_⟩
 refine mv E rfl fun a E=>lw E (qam rfl rfl) fun a E=>lw E (qam rfl rfl) fun a E=>qaR E ok qlj rfl rfl fun b8 a w E ok=>qae E ok 0 rfl rfl rfl qdn rfl rfl ⟨rfl,rfl,rfl,trivial⟩ rfl rfl fun w ok=>aw E rfl fun a E=>?_
 refine wp_seq<|sg<|mv E rfl fun a E=>lw E (qaS rfl) fun a E=>wn<|cf E rfl hF (fun hc9 hF=>?_) fun hc9 hF=>?_
 ·refine sg<|av E rfl fun a E=>aw E rfl fun a E=>wp_ret<|qaf ?_
  exact fin hF ⟨(ok.drop).down hb0 le_m0,E.d,⟨rv_t E rfl,rv_t E rfl,trivial⟩,(ir 0),(ir 1)⟩
 refine wp_skip<|qaa<|sg<|fv E qne rfl fun a E=>ld E ok qaN 0 rfl rfl rfl fun a E=>?_
 obtain ⟨r10,e11,hF⟩:=bnd hF
 refine qag E qvD rfl (ql4 N r1.1.fraction l7 ([48]) (show ([48]:List UInt8).length ≤ LIMS by decide) e11 hG ok) rfl rfl ?_
 rintro _ w ⟨⟨rfl,ok⟩,l12⟩
 refine ⟨_,rfl,fun a E=>?_⟩
 refine aw E rfl fun a E=>wp_seq<|sg<|mv E rfl fun a E=>wpList_nil ?_
 refine qaa<|wp_block<|sg<|lw E (qaM rfl rfl) fun a E=>aw E rfl fun a E=>?_
 refine cf E rfl hF (fun hc13 hF=>?_) fun hc13 hF=>?_
 ·refine wp_seq<|sg<|mv E rfl fun a E=>lw E (qkc rfl rfl) fun a E=>wn<|cf E rfl hF (fun hc14 hF=>?_) fun hc14 hF=>?_
  ·refine sg<|av E rfl fun a E=>aw E rfl fun a E=>wp_ret<|qaf ?_
   refine qax<|qaf ?_
   exact fin hF ⟨(ok.drop).down hb0 le_m0,E.d,⟨rv_t E rfl,rv_t E rfl,trivial⟩,(ir 0),(ir 8)⟩
  refine wp_skip<|qaa<|sg<|fv E qo3 rfl fun a E=>ld E ok qaN 0 rfl rfl rfl fun a E=>?_
  obtain ⟨r15,e16,hF⟩:=bnd hF
  refine qag E qoF rfl (qhz N r1.1.whole l6 e16 hG ok) rfl rfl ?_
  rintro _ w ⟨⟨rfl,ok⟩,r17⟩
  refine ⟨_,rfl,fun a E=>?_⟩
  refine av E rfl fun a E=>aw E rfl fun a E=>wp_ret<|qax<|qaf ?_
  exact fin hF ⟨(ok.drop).down hb0 le_m0,E.d,⟨rv_t E rfl,rv_t E rfl,trivial⟩,r17,(ir 0)⟩
 refine sg<|lw E (qaM rfl rfl) fun a E=>aw E rfl fun a E=>cf E rfl hF (fun hc18 hF=>?_) fun hc18 hF=>?_
 ·refine sg<|fv E qo3 rfl fun a E=>ld E ok qaN 0 rfl rfl rfl fun a E=>?_
  obtain ⟨r19,e20,hF⟩:=bnd hF
  refine qag E qoF rfl (qhz N r1.1.whole l6 e20 hG ok) rfl rfl ?_
  rintro _ w ⟨⟨rfl,ok⟩,r21⟩
  refine ⟨_,rfl,fun a E=>?_⟩
  refine av E rfl fun a E=>aw E rfl fun a E=>wp_ret<|qax<|qaf ?_
  exact fin hF ⟨(ok.drop).down hb0 le_m0,E.d,⟨rv_t E rfl,rv_t E rfl,trivial⟩,r21,(ir 0)⟩
 refine sg<|lw E (qaM rfl rfl) fun a E=>aw E rfl fun a E=>cf E rfl hF (fun hc22 hF=>?_) fun hc22 hF=>?_
 ·refine sg<|fv E qne rfl fun a E=>ld E ok qaN 0 rfl rfl rfl fun a E=>lw E (qaL Tryz.underlying9 rfl) fun a E=>av E rfl fun a E=>av E rfl fun a E=>wpList_nil ?_
  refine qaa<|wp_ret<|qax<|qaf ?_
  exact fin hF ⟨(ok.drop).down hb0 le_m0,E.d,⟨rv_t E rfl,rv_t E rfl,trivial⟩,(InR.len l7),(ir 0)⟩
 refine sg<|lw E (qaM rfl rfl) fun a E=>aw E rfl fun a E=>cf E rfl hF (fun hc23 hF=>?_) fun hc23 hF=>?_
 ·refine sg<|mv E rfl fun a E=>lw E (qaL Tryz.underlying9 rfl) fun a E=>av E rfl fun a E=>aw E rfl fun a E=>?_
  refine wp_ret<|qax<|qaf ?_
  exact fin hF ⟨(ok.drop).down hb0 le_m0,E.d,⟨rv_t E rfl,rv_t E rfl,trivial⟩,(InR.len l12),(ir 0)⟩
 refine sg<|lw E (qaM rfl rfl) fun a E=>aw E rfl fun a E=>cf E rfl hF (fun hc24 hF=>?_) fun hc24 hF=>?_
 ·refine sg<|fv E qne rfl fun a E=>ld E ok qaN 0 rfl rfl rfl fun a E=>?_
  obtain ⟨r25,e26,hF⟩:=bnd hF
  refine qag E qoF rfl (qhz N r1.1.fraction l7 e26 hG ok) rfl rfl ?_
  rintro _ w ⟨⟨rfl,ok⟩,r27⟩
  refine ⟨_,rfl,fun a E=>?_⟩
  refine av E rfl fun a E=>aw E rfl fun a E=>wp_ret<|qax<|qaf ?_
  exact fin hF ⟨(ok.drop).down hb0 le_m0,E.d,⟨rv_t E rfl,rv_t E rfl,trivial⟩,r27,(ir 0)⟩
 refine sg<|lw E (qaM rfl rfl) fun a E=>aw E rfl fun a E=>cf E rfl hF (fun hc28 hF=>?_) fun hc28 hF=>?_
 rotate_left
 ·refine wp_skip<|qal<|qaa<|sg<|av E rfl fun a E=>av E rfl fun a E=>wpList_nil ?_
  refine qaa<|wp_ret ?_
  exact fin hF ⟨(ok.drop).down hb0 le_m0,E.d,⟨rv_t E rfl,rv_t E rfl,trivial⟩,(ir 0),(ir 1)⟩
 refine sg<|mv E rfl fun a E=>?_
 obtain ⟨r29,e30,hF⟩:=bnd hF
 refine qag E qoF rfl (qhz N r10 l12 e30 hG ok) rfl rfl ?_
 rintro _ w ⟨⟨rfl,ok⟩,r31⟩
 refine ⟨_,rfl,fun a E=>?_⟩
 refine av E rfl fun a E=>aw E rfl fun a E=>wp_ret<|qax<|qaf ?_
 exact fin hF ⟨(ok.drop).down hb0 le_m0,E.d,⟨rv_t E rfl,rv_t E rfl,trivial⟩,r31,(ir 0)⟩
def qn5 (u:World) (m0:Mem) (S:Segs) (pb0:Nat) (x0:Int) (r:Bool) (a:Act) (w:World):Prop :=
 Ok u m0 ([(pb0,oc 3 [vi x0])] :: S) w ∧ a.defers = [] ∧ RVs Tryz.prog a w [.t 3 (.bool r)]
theorem qnN (N:Nat) (vs_0:List Value) (s_0:Span) (hs_0:qeB m0 vs_0 s_0) {pb0:Nat} (x0:Int) (r3:InR .i64 x0) {r:Bool} (hF:qjc N s_0 x0 = some r) (hG:Glob u) (ok:Ok u m0 ([(pb0,oc 3 [vi x0])] :: S) w) :
  Calls Tryz.prog 108 [.agg vs_0.toArray,vp pb0].toArray w fun e w'=>(e = .returned (.bool r) ∧ Ok u m0 ([(pb0,oc 3 [vi x0])] :: S) w'):=by
 obtain ⟨rfl,r1,r2⟩:=hs_0
 unfold qjc at hF
 refine en (qn5 u m0 S pb0 x0) r Tryz.func108 rfl rfl rfl (by rintro a w ⟨ok,hd,hrv⟩; exact qat [.t 3 (.bool r)] hd rfl hrv ⟨rfl,ok⟩) fun fin a E=>sg<|qcH E ok rfl rfl rfl fun b4 a w E ok=>aw E rfl fun a E=>wp_seq ?_
 refine qab<|ld E ok qaC 1 rfl rfl rfl fun a E=>fv E qgr rfl fun a E=>ld E ok qaC 0 rfl rfl rfl fun a E=>lw E (qgh rfl rfl) fun a E=>mv E rfl fun a E=>qav (decide (x0 ≥ s_0.From)) (fun hc5=>?_) (fun hc5=>?_)
 ·replace hF:=qas hc5 hF
  replace E:=E.upd 8 hc5 rfl
  refine ld E ok qaC 1 rfl rfl rfl fun a E=>fv E qf4 rfl fun a E=>ld E ok qaC 0 rfl rfl rfl fun a E=>lw E (qgT rfl rfl) fun a E=>pt E rfl rfl fun a E=>aw E rfl fun a E=>?_
  refine wp_ret ?_
  exact fin hF ⟨ok.drop,E.d,⟨rv_t E rfl,trivial⟩⟩
 replace hF:=qar hc5 hF
 replace E:=E.upd 8 hc5 rfl
 refine ls E fun a E=>ls E fun a E=>ls E fun a E=>ls E fun a E=>pf E rfl rfl fun a E=>aw E rfl fun a E=>?_
 refine wp_ret ?_
 exact fin hF ⟨ok.drop,E.d,⟨rv_t E rfl,trivial⟩⟩
def qeC (u:World) (m0:Mem) (S:Segs) (pb0:Nat) (x0:Int) (r:Int) (a:Act) (w:World):Prop :=
 Ok u m0 ([(pb0,oc 3 [vi x0])] :: S) w ∧ a.defers = [] ∧ RVs Tryz.prog a w [.t 4 (.int .i64 r)] ∧ InR .i64 r
theorem qg7 (N:Nat) (vs_0:Value) (s_0:List (Span)) (hs_0:(pL 2 qeB) m0 [vs_0] s_0) {pb0:Nat} (x0:Int) (r1:InR .i64 x0) {r:Int} (hF:qdm N s_0 x0 = some r) (hG:Glob u) (ok:Ok u m0 ([(pb0,oc 3 [vi x0])] :: S) w) :
  Calls Tryz.prog 139 [vs_0,Value.func (.func 108) #[] #[.pointer (some ⟨pb0,0,none⟩)]].toArray w fun e w'=>(e = .returned (.int .i64 r) ∧ Ok u m0 ([(pb0,oc 3 [vi x0])] :: S) w') ∧ InR .i64 r:=by
 unfold qdm at hF
 refine en (qeC u m0 S pb0 x0) r Tryz.func139 rfl rfl rfl (by rintro a w ⟨ok,hd,hrv,h0⟩; exact qat [.t 4 (.int .i64 r)] hd rfl hrv ⟨⟨rfl,ok⟩,h0⟩) fun fin a E=>sg<|aw E rfl fun a E=>wp_seq<|wp_seq ?_
 refine qab<|mv E rfl fun a E=>lv E ok (qaH qcx hs_0 rfl) fun a E=>mv E rfl fun a E=>wn<|wp_block ?_
 obtain ⟨o3,hL,hF⟩:=bnd hF
 refine qaI _ (fun (s:Int) a w=>Ok u m0 ([(pb0,oc 3 [vi x0])] :: S) w ∧ Env 19 a [(0,vs_0),(1,(Value.func (.func 108) #[] #[.pointer (some ⟨pb0,0,none⟩)])),(7,(vi (s_0.length:Int))),(8,vi s)] ∧ InR .i64 s) (fun (b:(Unit ⊕ Int)) e a w=>(Sum.elim (fun b22=>e = (.exit 0) ∧ Ok u m0 ([(pb0,oc 3 [vi x0])] :: S) w ∧ Env 19 a []) (fun b23=>e = .ret ∧ qeC u m0 S pb0 x0 b23 a w)) b) ?_ ?_ N _ a w hL ⟨ok,E.keep [0,1,7,8],(ir 0)⟩
 rotate_left
 ·intro e a w _ hO
  rcases o3 with o3 | o3
  rotate_left
  ·replace hF:=qa7 hF
   obtain ⟨rfl,hret⟩:=hO
   refine qax<|qaf ?_
   exact fin hF hret
  replace hF:=qa6 hF
  obtain ⟨rfl,ok,E⟩:=hO
  refine qaK<|qaa<|sg<|aw E rfl fun a E=>wp_ret ?_
  exact fin hF ⟨ok,E.d,⟨rv_t E rfl,trivial⟩,(ir (-1))⟩
 rintro x_5 a w r ⟨ok,E,r6⟩ hF
 replace hF:qcV N s_0 x0 x_5 = some r:=hF
 unfold qcV at hF
 refine sg<|lw E (qaF rfl rfl) fun a E=>wn<|wp_seq<|cf E rfl hF (fun hc7 hF=>?_) fun hc7 hF=>?_
 rotate_left
 ·refine wp_exit<|qaB ?_
  obtain rfl:=sj hF
  exact so (sl ⟨rfl,⟨ok,E.keep []⟩⟩)
 refine wp_skip<|qaa<|wp_seq<|wp_block<|sg<|mv E rfl fun a E=>av E rfl fun a E=>?_
 refine wn<|sg<|mv E rfl fun a E=>mv E rfl fun a E=>mv E rfl fun a E=>?_
 obtain ⟨x8,e9,hF⟩:=bnd hF
 obtain ⟨b10,o11,es12,hl13,rr14,at15,yy16⟩:=qaO qcx hs_0 e9 (P:=Tryz.prog) (X:=.tmp 12) (I:=.tmp 13) (kd:=.i64) (qak E rfl) (qak E rfl)
 obtain ⟨rfl,r17,r18⟩:=rr14
 refine lv E ok (yy16 _ _) fun a E=>lv E ok (qao (cs:=[vi x8.From,vi x8.To]) qhI rfl rfl (qac.ro at15)) fun a E=>?_
 obtain ⟨r19,e20,hF⟩:=bnd hF
 refine qcc E rfl qv5 rfl (qnN N _ x8 ⟨rfl,r17,r18⟩ x0 r1 e20 hG ok) rfl rfl ?_
 rintro _ w ⟨rfl,ok⟩
 refine ⟨_,rfl,fun a E=>?_⟩
 refine wn<|cf E rfl hF (fun hc21 hF=>?_) fun hc21 hF=>?_
 rotate_left
 ·refine wp_skip<|qal<|qaa<|qab<|lw E (qaD rfl rfl (InR.inc r6 (qaj hs_0) hc7)) fun a E=>mv E rfl fun a E=>wpList_nil ?_
  obtain rfl:=sj hF
  exact qau ⟨ok,E.keep [0,1,7,8],(InR.inc r6 (qaj hs_0) hc7)⟩
 refine sg<|mv E rfl fun a E=>aw E rfl fun a E=>wp_ret<|qax ?_
 refine qaf ?_
 obtain rfl:=sj hF
 exact so (sr ⟨rfl,⟨ok,E.d,⟨rv_t E rfl,trivial⟩,r6⟩⟩)
def qgF (u:World) (m0:Mem) (S:Segs) (pb0:Nat) (x0:Int) (r:Bool) (a:Act) (w:World):Prop :=
 Ok u m0 ([(pb0,oc 3 [vi x0])] :: S) w ∧ a.defers = [] ∧ RVs Tryz.prog a w [.t 4 (.bool r)]
theorem qgE (N:Nat) (vs_0:Value) (s_0:List (Span)) (hs_0:(pL 2 qeB) m0 [vs_0] s_0) {pb0:Nat} (x0:Int) (r1:InR .i64 x0) {r:Bool} (hF:qc1 N s_0 x0 = some r) (hG:Glob u) (ok:Ok u m0 ([(pb0,oc 3 [vi x0])] :: S) w) :
  Calls Tryz.prog 107 [vs_0,Value.func (.func 108) #[] #[.pointer (some ⟨pb0,0,none⟩)]].toArray w fun e w'=>(e = .returned (.bool r) ∧ Ok u m0 ([(pb0,oc 3 [vi x0])] :: S) w'):=by
 unfold qc1 at hF
 refine en (qgF u m0 S pb0 x0) r Tryz.func107 rfl rfl rfl (by rintro a w ⟨ok,hd,hrv⟩; exact qat [.t 4 (.bool r)] hd rfl hrv ⟨rfl,ok⟩) fun fin a E=>sg<|aw E rfl fun a E=>sg ?_
 refine mv E rfl fun a E=>mv E rfl fun a E=>?_
 obtain ⟨r2,e3,hF⟩:=bnd hF
 refine qag E qvf rfl (qg7 N _ s_0 hs_0 x0 r1 e3 hG ok) rfl rfl ?_
 rintro _ w ⟨⟨rfl,ok⟩,r4⟩
 refine ⟨_,rfl,fun a E=>?_⟩
 refine lw E (qgh rfl rfl) fun a E=>aw E rfl fun a E=>wp_ret ?_
 exact fin hF ⟨ok,E.d,⟨rv_t E rfl,trivial⟩⟩
def qpc (u:World) (m0:Mem) (S:Segs) (r:Bool) (a:Act) (w:World):Prop :=
 Ok u m0 S w ∧ a.defers = [] ∧ RVs Tryz.prog a w [.t 4 (.bool r)]
theorem qoU (N:Nat) (vl_0:Value) (l_0:List (Span)) (hl_0:(pL 2 qeB) m0 [vl_0] l_0) (n_1:Int) (rn_1:InR .i64 n_1) {r:Bool} (hF:qka N l_0 n_1 = some r) (hG:Glob u) (ok:Ok u m0 S w) :
  Calls Tryz.prog 76 [vl_0,vi n_1].toArray w fun e w'=>(e = .returned (.bool r) ∧ Ok u m0 S w'):=by
 unfold qka at hF
 refine en (qpc u m0 S) r Tryz.func76 rfl rfl rfl (by rintro a w ⟨ok,hd,hrv⟩; exact qat [.t 4 (.bool r)] hd rfl hrv ⟨rfl,ok⟩) fun fin a E=>sg<|qcH E ok rfl rfl rfl fun b1 a w E ok=>aw E rfl fun a E=>wp_seq ?_
 refine qab<|mv E rfl fun a E=>lv E ok (qbI (caps:=[.tmp 3]) rfl) fun a E=>?_
 obtain ⟨r2,e3,hF⟩:=bnd hF
 refine lc E qvx rfl (qgE N _ l_0 hl_0 n_1 rn_1 e3 hG ok) fun w ok a E=>aw E rfl fun a E=>wp_ret ?_
 exact fin hF ⟨ok.drop,E.d,⟨rv_t E rfl,trivial⟩⟩
def qnz (u:World) (m0:Mem) (S:Segs) (r:Bool) (a:Act) (w:World):Prop :=
 Ok u m0 S w ∧ a.defers = [] ∧ RVs Tryz.prog a w [.t 4 (.bool r)]
theorem qnw (N:Nat) (vr_0:List Value) (r_0:Relation) (hr_0:qai m0 vr_0 r_0) (number_1:List UInt8) (lnumber_1:number_1.length ≤ LIMS) {r:Bool} (hF:qiv N r_0 number_1 = some r) (hG:Glob u) (ok:Ok u m0 S w) :
  Calls Tryz.prog 53 [.agg vr_0.toArray,vs number_1].toArray w fun e w'=>(e = .returned (.bool r) ∧ Ok u m0 S w'):=by
 obtain ⟨c3,rfl,r1,r2,h4⟩:=hr_0
 unfold qiv at hF
 refine en (qnz u m0 S) r Tryz.func53 rfl rfl rfl (by rintro a w ⟨ok,hd,hrv⟩; exact qat [.t 4 (.bool r)] hd rfl hrv ⟨rfl,ok⟩) fun fin a E=>sg<|qcH E ok rfl rfl rfl fun b5 a w E ok=>aw E rfl fun a E=>wp_seq ?_
 refine qab<|mv E rfl fun a E=>fv E qbl rfl fun a E=>ld E ok qaC 0 rfl rfl rfl fun a E=>?_
 obtain ⟨r6,e7,hF⟩:=bnd hF
 refine qag E qwZ rfl (qnF N number_1 lnumber_1 r_0.Operand r1 e7 hG ok) rfl rfl ?_
 rintro _ w ⟨⟨rfl,ok⟩,r8,r9⟩
 refine ⟨_,rfl,fun a E=>?_⟩
 refine mv E rfl fun a E=>lw E (qam rfl rfl) fun a E=>lw E (qam rfl rfl) fun a E=>av E rfl fun a E=>aw E rfl fun a E=>wp_seq ?_
 refine sg<|mv E rfl fun a E=>lw E (qaW rfl rfl) fun a E=>wn<|cf E rfl hF (fun hc10 hF=>?_) fun hc10 hF=>?_
 ·refine sg<|fv E qgq rfl fun a E=>ld E ok qeQ 0 rfl rfl rfl fun a E=>aw E rfl fun a E=>wp_ret ?_
  refine qaf ?_
  exact fin hF ⟨ok.drop,E.d,⟨rv_t E rfl,trivial⟩⟩
 refine wp_skip<|qaa<|wp_seq<|sg<|fv E qef rfl fun a E=>ld E ok qaC 0 rfl rfl rfl fun a E=>lw E (qaW rfl rfl) fun a E=>?_
 refine wn ?_
 obtain ⟨o11,hJ,hF⟩:=bnd hF
 refine qaV (Q':=fun e a w=>e = .normal ∧ Ok u m0 ([(b5,oc 52 [vi r_0.Operand,vi r_0.Mod,vb r_0.Not,c3])] :: S) w ∧ Env 32 a [(2,vp b5),(5,vi o11)] ∧ InR .i64 o11) ?_ ?_
 ·replace hF:=hJ
  clear hJ
  refine cf E rfl hF (fun hc13 hF=>?_) fun hc13 hF=>?_
  rotate_left
  ·refine wp_skip ?_
   obtain rfl:=sj hF
   exact ⟨rfl,⟨ok,E.keep [2,5],r8⟩⟩
  refine qab<|mv E rfl fun a E=>fv E qef rfl fun a E=>ld E ok qaC 0 rfl rfl rfl fun a E=>?_
  obtain ⟨q14,e15,hF⟩:=bnd hF
  refine lw E (y_rm rfl rfl e15) fun a E=>av E rfl fun a E=>wpList_nil ?_
  obtain rfl:=sj hF
  exact ⟨rfl,⟨ok,E.keep [2,5],(qoi e15 r8)⟩⟩
 clear hJ
 intro e a w hO
 obtain ⟨rfl,ok,E,r16⟩:=hO
 refine qaa<|wp_seq<|qfD (by kernel_rfl) (by kernel_rfl) ok<|qv E (qan qck rfl) fun a E=>qv E (qap qdz rfl (qac.own 0 rfl rfl)) fun a E=>qv E (qah rfl) fun a E=>?_
 obtain ⟨r17,e18,hF⟩:=bnd hF
 refine qhi E qxg rfl (fun w ok=>(qoU N _ r_0.Spans h4 o11 r16 e18 hG ok).mono (fun _ _ h=>h)) rfl rfl fun a E=>qv E (qan qgq rfl) fun a E=>qv E (qap qeQ rfl (qac.own 0 rfl rfl)) fun a E=>qv E (qmQ Tryz.underlying4 rfl rfl) fun a E=>qv E (qaG rfl) fun a E=>wpQuiet_nil ?_
 intro w ok
 refine qaa<|wp_ret ?_
 exact fin hF ⟨ok.drop,E.d,⟨rv_t E rfl,trivial⟩⟩
def qlr (u:World) (m0:Mem) (S:Segs) (pb0:Nat) (x0:List UInt8) (r:Bool) (a:Act) (w:World):Prop :=
 Ok u m0 ([(pb0,oc 9 [vs x0])] :: S) w ∧ a.defers = [] ∧ RVs Tryz.prog a w [.t 3 (.bool r)]
theorem qlc (N:Nat) (vr_0:List Value) (r_0:Relation) (hr_0:qai m0 vr_0 r_0) {pb0:Nat} (x0:List UInt8) (l5:x0.length ≤ LIMS) {r:Bool} (hF:qhu N r_0 x0 = some r) (hG:Glob u) (ok:Ok u m0 ([(pb0,oc 9 [vs x0])] :: S) w) :
  Calls Tryz.prog 52 [.agg vr_0.toArray,vp pb0].toArray w fun e w'=>(e = .returned (.bool r) ∧ Ok u m0 ([(pb0,oc 9 [vs x0])] :: S) w'):=by
 obtain ⟨c3,rfl,r1,r2,h4⟩:=hr_0
 unfold qhu at hF
 refine en (qlr u m0 S pb0 x0) r Tryz.func52 rfl rfl rfl (by rintro a w ⟨ok,hd,hrv⟩; exact qat [.t 3 (.bool r)] hd rfl hrv ⟨rfl,ok⟩) fun fin a E=>sg<|qcH E ok rfl rfl rfl fun b6 a w E ok=>aw E rfl fun a E=>wp_seq ?_
 refine qab<|lv E ok (qao (cs:=[vi r_0.Operand,vi r_0.Mod,vb r_0.Not,c3]) qcL rfl rfl (qac.own 0 rfl rfl)) fun a E=>ld E ok qaN 1 rfl rfl rfl fun a E=>?_
 obtain ⟨r7,e8,hF⟩:=bnd hF
 refine lc E qwL rfl (qnw N _ r_0 ⟨_,rfl,r1,r2,h4⟩ x0 l5 e8 hG ok) fun w ok a E=>lw E (qaS rfl) fun a E=>aw E rfl fun a E=>wp_ret ?_
 exact fin hF ⟨ok.drop,E.d,⟨rv_t E rfl,trivial⟩⟩
def qdH (u:World) (m0:Mem) (S:Segs) (pb0:Nat) (x0:List UInt8) (r:Int) (a:Act) (w:World):Prop :=
 Ok u m0 ([(pb0,oc 9 [vs x0])] :: S) w ∧ a.defers = [] ∧ RVs Tryz.prog a w [.t 4 (.int .i64 r)] ∧ InR .i64 r
theorem qgd (N:Nat) (vs_0:Value) (s_0:List (Relation)) (hs_0:(pL 4 qai) m0 [vs_0] s_0) {pb0:Nat} (x0:List UInt8) (l1:x0.length ≤ LIMS) {r:Int} (hF:qcq N s_0 x0 = some r) (hG:Glob u) (ok:Ok u m0 ([(pb0,oc 9 [vs x0])] :: S) w) :
  Calls Tryz.prog 74 [vs_0,Value.func (.func 52) #[] #[.pointer (some ⟨pb0,0,none⟩)]].toArray w fun e w'=>(e = .returned (.int .i64 r) ∧ Ok u m0 ([(pb0,oc 9 [vs x0])] :: S) w') ∧ InR .i64 r:=by
 unfold qcq at hF
 refine en (qdH u m0 S pb0 x0) r Tryz.func74 rfl rfl rfl (by rintro a w ⟨ok,hd,hrv,h0⟩; exact qat [.t 4 (.int .i64 r)] hd rfl hrv ⟨⟨rfl,ok⟩,h0⟩) fun fin a E=>sg<|aw E rfl fun a E=>wp_seq<|wp_seq ?_
 refine qab<|mv E rfl fun a E=>lv E ok (qaH qbT hs_0 rfl) fun a E=>mv E rfl fun a E=>wn<|wp_block ?_
 obtain ⟨o3,hL,hF⟩:=bnd hF
 refine qaI _ (fun (s:Int) a w=>Ok u m0 ([(pb0,oc 9 [vs x0])] :: S) w ∧ Env 19 a [(0,vs_0),(1,(Value.func (.func 52) #[] #[.pointer (some ⟨pb0,0,none⟩)])),(7,(vi (s_0.length:Int))),(8,vi s)] ∧ InR .i64 s) (fun (b:(Unit ⊕ Int)) e a w=>(Sum.elim (fun b24=>e = (.exit 0) ∧ Ok u m0 ([(pb0,oc 9 [vs x0])] :: S) w ∧ Env 19 a []) (fun b25=>e = .ret ∧ qdH u m0 S pb0 x0 b25 a w)) b) ?_ ?_ N _ a w hL ⟨ok,E.keep [0,1,7,8],(ir 0)⟩
 rotate_left
 ·intro e a w _ hO
  rcases o3 with o3 | o3
  rotate_left
  ·replace hF:=qa7 hF
   obtain ⟨rfl,hret⟩:=hO
   refine qax<|qaf ?_
   exact fin hF hret
  replace hF:=qa6 hF
  obtain ⟨rfl,ok,E⟩:=hO
  refine qaK<|qaa<|sg<|aw E rfl fun a E=>wp_ret ?_
  exact fin hF ⟨ok,E.d,⟨rv_t E rfl,trivial⟩,(ir (-1))⟩
 rintro x_5 a w r ⟨ok,E,r6⟩ hF
 replace hF:qb9 N s_0 x0 x_5 = some r:=hF
 unfold qb9 at hF
 refine sg<|lw E (qaF rfl rfl) fun a E=>wn<|wp_seq<|cf E rfl hF (fun hc7 hF=>?_) fun hc7 hF=>?_
 rotate_left
 ·refine wp_exit<|qaB ?_
  obtain rfl:=sj hF
  exact so (sl ⟨rfl,⟨ok,E.keep []⟩⟩)
 refine wp_skip<|qaa<|wp_seq<|wp_block<|sg<|mv E rfl fun a E=>av E rfl fun a E=>?_
 refine wn<|sg<|mv E rfl fun a E=>mv E rfl fun a E=>mv E rfl fun a E=>?_
 obtain ⟨x8,e9,hF⟩:=bnd hF
 obtain ⟨b10,o11,es12,hl13,rr14,at15,yy16⟩:=qaO qbT hs_0 e9 (P:=Tryz.prog) (X:=.tmp 12) (I:=.tmp 13) (kd:=.i64) (qak E rfl) (qak E rfl)
 obtain ⟨c19,rfl,r17,r18,h20⟩:=rr14
 refine lv E ok (yy16 _ _) fun a E=>lv E ok (qao (cs:=[vi x8.Operand,vi x8.Mod,vb x8.Not,c19]) qcL rfl rfl (qac.ro at15)) fun a E=>?_
 obtain ⟨r21,e22,hF⟩:=bnd hF
 refine qcc E rfl qxh rfl (qlc N _ x8 ⟨_,rfl,r17,r18,h20⟩ x0 l1 e22 hG ok) rfl rfl ?_
 rintro _ w ⟨rfl,ok⟩
 refine ⟨_,rfl,fun a E=>?_⟩
 refine wn<|cf E rfl hF (fun hc23 hF=>?_) fun hc23 hF=>?_
 rotate_left
 ·refine wp_skip<|qal<|qaa<|qab<|lw E (qaD rfl rfl (InR.inc r6 (qaj hs_0) hc7)) fun a E=>mv E rfl fun a E=>wpList_nil ?_
  obtain rfl:=sj hF
  exact qau ⟨ok,E.keep [0,1,7,8],(InR.inc r6 (qaj hs_0) hc7)⟩
 refine sg<|mv E rfl fun a E=>aw E rfl fun a E=>wp_ret<|qax ?_
 refine qaf ?_
 obtain rfl:=sj hF
 exact so (sr ⟨rfl,⟨ok,E.d,⟨rv_t E rfl,trivial⟩,r6⟩⟩)
def qfF (u:World) (m0:Mem) (S:Segs) (pb0:Nat) (x0:List UInt8) (r:Bool) (a:Act) (w:World):Prop :=
 Ok u m0 ([(pb0,oc 9 [vs x0])] :: S) w ∧ a.defers = [] ∧ RVs Tryz.prog a w [.t 4 (.bool r)]
theorem qfL (N:Nat) (vs_0:Value) (s_0:List (Relation)) (hs_0:(pL 4 qai) m0 [vs_0] s_0) {pb0:Nat} (x0:List UInt8) (l1:x0.length ≤ LIMS) {r:Bool} (hF:qcb N s_0 x0 = some r) (hG:Glob u) (ok:Ok u m0 ([(pb0,oc 9 [vs x0])] :: S) w) :
  Calls Tryz.prog 51 [vs_0,Value.func (.func 52) #[] #[.pointer (some ⟨pb0,0,none⟩)]].toArray w fun e w'=>(e = .returned (.bool r) ∧ Ok u m0 ([(pb0,oc 9 [vs x0])] :: S) w'):=by
 unfold qcb at hF
 refine en (qfF u m0 S pb0 x0) r Tryz.func51 rfl rfl rfl (by rintro a w ⟨ok,hd,hrv⟩; exact qat [.t 4 (.bool r)] hd rfl hrv ⟨rfl,ok⟩) fun fin a E=>sg<|aw E rfl fun a E=>sg ?_
 refine mv E rfl fun a E=>mv E rfl fun a E=>?_
 obtain ⟨r2,e3,hF⟩:=bnd hF
 refine qag E qui rfl (qgd N _ s_0 hs_0 x0 l1 e3 hG ok) rfl rfl ?_
 rintro _ w ⟨⟨rfl,ok⟩,r4⟩
 refine ⟨_,rfl,fun a E=>?_⟩
 refine lw E (qgh rfl rfl) fun a E=>aw E rfl fun a E=>wp_ret ?_
 exact fin hF ⟨ok,E.d,⟨rv_t E rfl,trivial⟩⟩
def qmq (u:World) (m0:Mem) (S:Segs) (pb0:Nat) (x0:List UInt8) (r:Bool) (a:Act) (w:World):Prop :=
 Ok u m0 ([(pb0,oc 9 [vs x0])] :: S) w ∧ a.defers = [] ∧ RVs Tryz.prog a w [.t 3 (.bool r)]
theorem qmw (N:Nat) (vlist_0:Value) (list_0:List (Relation)) (hlist_0:(pL 4 qai) m0 [vlist_0] list_0) {pb0:Nat} (x0:List UInt8) (l1:x0.length ≤ LIMS) {r:Bool} (hF:qh7 N list_0 x0 = some r) (hG:Glob u) (ok:Ok u m0 ([(pb0,oc 9 [vs x0])] :: S) w) :
  Calls Tryz.prog 50 [vlist_0,vp pb0].toArray w fun e w'=>(e = .returned (.bool r) ∧ Ok u m0 ([(pb0,oc 9 [vs x0])] :: S) w'):=by
 unfold qh7 at hF
 refine en (qmq u m0 S pb0 x0) r Tryz.func50 rfl rfl rfl (by rintro a w ⟨ok,hd,hrv⟩; exact qat [.t 3 (.bool r)] hd rfl hrv ⟨rfl,ok⟩) fun fin a E=>sg<|aw E rfl fun a E=>sg ?_
 refine mv E rfl fun a E=>lv E ok (qbI (caps:=[.tmp 1]) rfl) fun a E=>?_
 obtain ⟨r2,e3,hF⟩:=bnd hF
 refine lc E qtY rfl (qfL N _ list_0 hlist_0 x0 l1 e3 hG ok) fun w ok a E=>lw E (qaS rfl) fun a E=>aw E rfl fun a E=>wp_ret ?_
 exact fin hF ⟨ok,E.d,⟨rv_t E rfl,trivial⟩⟩
def qei (u:World) (m0:Mem) (S:Segs) (pb0:Nat) (x0:List UInt8) (r:Int) (a:Act) (w:World):Prop :=
 Ok u m0 ([(pb0,oc 9 [vs x0])] :: S) w ∧ a.defers = [] ∧ RVs Tryz.prog a w [.t 4 (.int .i64 r)] ∧ InR .i64 r
theorem qgD (N:Nat) (vs_0:Value) (s_0:List (List (Relation))) (hs_0:(pL 1 (pL 4 qai)) m0 [vs_0] s_0) {pb0:Nat} (x0:List UInt8) (l1:x0.length ≤ LIMS) {r:Int} (hF:qcX N s_0 x0 = some r) (hG:Glob u) (ok:Ok u m0 ([(pb0,oc 9 [vs x0])] :: S) w) :
  Calls Tryz.prog 73 [vs_0,Value.func (.func 50) #[] #[.pointer (some ⟨pb0,0,none⟩)]].toArray w fun e w'=>(e = .returned (.int .i64 r) ∧ Ok u m0 ([(pb0,oc 9 [vs x0])] :: S) w') ∧ InR .i64 r:=by
 unfold qcX at hF
 refine en (qei u m0 S pb0 x0) r Tryz.func73 rfl rfl rfl (by rintro a w ⟨ok,hd,hrv,h0⟩; exact qat [.t 4 (.int .i64 r)] hd rfl hrv ⟨⟨rfl,ok⟩,h0⟩) fun fin a E=>sg<|aw E rfl fun a E=>wp_seq<|wp_seq ?_
 refine qab<|mv E rfl fun a E=>lv E ok (qaH qea hs_0 rfl) fun a E=>mv E rfl fun a E=>wn<|wp_block ?_
 obtain ⟨o3,hL,hF⟩:=bnd hF
 refine qaI _ (fun (s:Int) a w=>Ok u m0 ([(pb0,oc 9 [vs x0])] :: S) w ∧ Env 19 a [(0,vs_0),(1,(Value.func (.func 50) #[] #[.pointer (some ⟨pb0,0,none⟩)])),(7,(vi (s_0.length:Int))),(8,vi s)] ∧ InR .i64 s) (fun (b:(Unit ⊕ Int)) e a w=>(Sum.elim (fun b22=>e = (.exit 0) ∧ Ok u m0 ([(pb0,oc 9 [vs x0])] :: S) w ∧ Env 19 a []) (fun b23=>e = .ret ∧ qei u m0 S pb0 x0 b23 a w)) b) ?_ ?_ N _ a w hL ⟨ok,E.keep [0,1,7,8],(ir 0)⟩
 rotate_left
 ·intro e a w _ hO
  rcases o3 with o3 | o3
  rotate_left
  ·replace hF:=qa7 hF
   obtain ⟨rfl,hret⟩:=hO
   refine qax<|qaf ?_
   exact fin hF hret
  replace hF:=qa6 hF
  obtain ⟨rfl,ok,E⟩:=hO
  refine qaK<|qaa<|sg<|aw E rfl fun a E=>wp_ret ?_
  exact fin hF ⟨ok,E.d,⟨rv_t E rfl,trivial⟩,(ir (-1))⟩
 rintro x_5 a w r ⟨ok,E,r6⟩ hF
 replace hF:qcD N s_0 x0 x_5 = some r:=hF
 unfold qcD at hF
 refine sg<|lw E (qaF rfl rfl) fun a E=>wn<|wp_seq<|cf E rfl hF (fun hc7 hF=>?_) fun hc7 hF=>?_
 rotate_left
 ·refine wp_exit<|qaB ?_
  obtain rfl:=sj hF
  exact so (sl ⟨rfl,⟨ok,E.keep []⟩⟩)
 refine wp_skip<|qaa<|wp_seq<|wp_block<|sg<|mv E rfl fun a E=>av E rfl fun a E=>?_
 refine wn<|sg<|mv E rfl fun a E=>mv E rfl fun a E=>mv E rfl fun a E=>?_
 obtain ⟨x8,e9,hF⟩:=bnd hF
 obtain ⟨b10,o11,es12,hl13,rr14,at15,yy16⟩:=qaO qea hs_0 e9 (P:=Tryz.prog) (X:=.tmp 12) (I:=.tmp 13) (kd:=.i64) (qak E rfl) (qak E rfl)
 obtain ⟨c17,rfl,h18⟩:=qcm rr14
 refine lv E ok (yy16 _ _) fun a E=>lv E ok (qap qeS rfl (qac.ro at15)) fun a E=>?_
 obtain ⟨r19,e20,hF⟩:=bnd hF
 refine qcc E rfl qwO rfl (qmw N _ x8 h18 x0 l1 e20 hG ok) rfl rfl ?_
 rintro _ w ⟨rfl,ok⟩
 refine ⟨_,rfl,fun a E=>?_⟩
 refine wn<|cf E rfl hF (fun hc21 hF=>?_) fun hc21 hF=>?_
 rotate_left
 ·refine wp_skip<|qal<|qaa<|qab<|lw E (qaD rfl rfl (InR.inc r6 (qaj hs_0) hc7)) fun a E=>mv E rfl fun a E=>wpList_nil ?_
  obtain rfl:=sj hF
  exact qau ⟨ok,E.keep [0,1,7,8],(InR.inc r6 (qaj hs_0) hc7)⟩
 refine sg<|mv E rfl fun a E=>aw E rfl fun a E=>wp_ret<|qax ?_
 refine qaf ?_
 obtain rfl:=sj hF
 exact so (sr ⟨rfl,⟨ok,E.d,⟨rv_t E rfl,trivial⟩,r6⟩⟩)
def qgm (u:World) (m0:Mem) (S:Segs) (pb0:Nat) (x0:List UInt8) (r:Bool) (a:Act) (w:World):Prop :=
 Ok u m0 ([(pb0,oc 9 [vs x0])] :: S) w ∧ a.defers = [] ∧ RVs Tryz.prog a w [.t 4 (.bool r)]
theorem qgn (N:Nat) (vs_0:Value) (s_0:List (List (Relation))) (hs_0:(pL 1 (pL 4 qai)) m0 [vs_0] s_0) {pb0:Nat} (x0:List UInt8) (l1:x0.length ≤ LIMS) {r:Bool} (hF:qcE N s_0 x0 = some r) (hG:Glob u) (ok:Ok u m0 ([(pb0,oc 9 [vs x0])] :: S) w) :
  Calls Tryz.prog 49 [vs_0,Value.func (.func 50) #[] #[.pointer (some ⟨pb0,0,none⟩)]].toArray w fun e w'=>(e = .returned (.bool r) ∧ Ok u m0 ([(pb0,oc 9 [vs x0])] :: S) w'):=by
 unfold qcE at hF
 refine en (qgm u m0 S pb0 x0) r Tryz.func49 rfl rfl rfl (by rintro a w ⟨ok,hd,hrv⟩; exact qat [.t 4 (.bool r)] hd rfl hrv ⟨rfl,ok⟩) fun fin a E=>sg<|aw E rfl fun a E=>sg ?_
 refine mv E rfl fun a E=>mv E rfl fun a E=>?_
 obtain ⟨r2,e3,hF⟩:=bnd hF
 refine qag E qwX rfl (qgD N _ s_0 hs_0 x0 l1 e3 hG ok) rfl rfl ?_
 rintro _ w ⟨⟨rfl,ok⟩,r4⟩
 refine ⟨_,rfl,fun a E=>?_⟩
 refine lw E (qgh rfl rfl) fun a E=>aw E rfl fun a E=>wp_ret ?_
 exact fin hF ⟨ok,E.d,⟨rv_t E rfl,trivial⟩⟩
def qns (u:World) (m0:Mem) (S:Segs) (r:Bool × Int) (a:Act) (w:World):Prop :=
 Ok u m0 S w ∧ a.defers = [] ∧ RVs Tryz.prog a w [.t 4 (.bool r.1),.t 5 (.int .i64 r.2)] ∧ InR .i64 r.2
theorem qjF (N:Nat) (vc_0:Value) (c_0:List (List (Relation))) (hc_0:(pL 1 (pL 4 qai)) m0 [vc_0] c_0) (number_1:List UInt8) (lnumber_1:number_1.length ≤ LIMS) {r:Bool × Int} (hF:qhA N c_0 number_1 = some r) (hG:Glob u) (ok:Ok u m0 S w) :
  Calls Tryz.prog 27 [vc_0,vs number_1].toArray w fun e w'=>(e = .returned (.tuple [(.bool r.1),(.int .i64 r.2)].toArray) ∧ Ok u m0 S w') ∧ InR .i64 r.2:=by
 unfold qhA at hF
 refine en (qns u m0 S) r Tryz.func27 rfl rfl rfl (by rintro a w ⟨ok,hd,hrv,h0⟩; exact qat [.t 4 (.bool r.1),.t 5 (.int .i64 r.2)] hd rfl hrv ⟨⟨rfl,ok⟩,h0⟩) fun fin a E=>sg<|qcH E ok rfl rfl rfl fun b1 a w E ok=>av E rfl fun a E=>aw E rfl fun a E=>?_
 refine wp_seq<|sg<|mv E rfl fun a E=>?_
 obtain ⟨r2,e3,hF⟩:=bnd hF
 refine lc E qpY rfl (qgR N _ c_0 hc_0 e3 hG ok) fun w ok a E=>lw E (qaS rfl) fun a E=>mv E rfl fun a E=>qav (!r2) (fun hc4=>?_) (fun hc4=>?_)
 ·replace hF:=qas hc4 hF
  replace E:=E.upd 9 hc4 rfl
  refine ls E fun a E=>ls E fun a E=>ls E fun a E=>pt E rfl rfl fun a E=>wn<|c_if E rfl (fun _=>?_) (fun h=>by cases h)
  refine sg<|av E rfl fun a E=>aw E rfl fun a E=>wp_ret<|qaf ?_
  exact fin hF ⟨ok.drop,E.d,⟨rv_t E rfl,rv_t E rfl,trivial⟩,(ir 1)⟩
 replace hF:=qar hc4 hF
 replace E:=E.upd 9 hc4 rfl
 refine ld E ok qaN 0 rfl rfl rfl fun a E=>?_
 obtain ⟨r5,e6,hF⟩:=bnd hF
 refine lc E qwo rfl (qos N number_1 lnumber_1 e6 hG ok) fun w ok a E=>lw E (qaS rfl) fun a E=>pf E rfl rfl fun a E=>wn<|cf E rfl hF (fun hc7 hF=>?_) fun hc7 hF=>?_
 ·refine sg<|av E rfl fun a E=>aw E rfl fun a E=>wp_ret<|qaf ?_
  exact fin hF ⟨ok.drop,E.d,⟨rv_t E rfl,rv_t E rfl,trivial⟩,(ir 1)⟩
 refine wp_skip<|qaa<|sg<|mv E rfl fun a E=>lv E ok (qbI (caps:=[.tmp 3]) rfl) fun a E=>?_
 obtain ⟨r8,e9,hF⟩:=bnd hF
 refine lc E qwV rfl (qgn N _ c_0 hc_0 number_1 lnumber_1 e9 hG ok) fun w ok a E=>av E rfl fun a E=>aw E rfl fun a E=>wp_ret ?_
 exact fin hF ⟨ok.drop,E.d,⟨rv_t E rfl,rv_t E rfl,trivial⟩,(ir 0)⟩
end Go.Proofs.YtboacfcnmhnbdaaGreatDoor
namespace Go.Proofs.YtboacfcnmhnbdaaGreatDoor
open Go.X
def qix (N:Nat) (l_0:List (Rule)) (number_1:List UInt8) (x_29:Int):Option (Int ⊕ ((Unit ⊕ ((List UInt8) × Int)))) :=
 bif (decide (x_29 < (l_0.length:Int))) then
  (idx l_0 x_29).bind fun x32 =>
  (qhA N x32.Cond number_1).bind fun r45 =>
  bif (r45.2 != 0) then
   some (.inr (.inr ([],r45.2)))
  else
   bif r45.1 then
    some (.inr (.inr (x32.Class,0)))
   else
    some (.inl (x_29 + 1))
 else
  some (.inr (.inl ()))
def qiS (N:Nat) (l_0:List (Rule)) (number_1:List UInt8):Option ((List UInt8) × Int) :=
 (qg2 N l_0).bind fun r1 =>
 bif (!r1) then
  some ([],1)
 else
  (qhA N ([([(Relation.mk 2 0 true ([(Span.mk 0 0)]:List (Span)))]:List (Relation))]:List (List (Relation))) number_1).bind fun r22 =>
  bif (r22.2 != 0) then
   some ([],1)
  else
   (iter (fun s=>qix N l_0 number_1 s) N 0).bind fun o27 =>
   Sum.elim (fun _o27 =>
    some ([111,116,104,101,114],0))
   (fun o27 =>
    some o27) o27
def qf5 (N:Nat) (x_18:Parser):Option (Parser ⊕ Parser) :=
 bif (decide (x_18.at_ < (x_18.s.length:Int))) then
  (idx x_18.s x_18.at_).bind fun c24 =>
  (strings_IndexByte N ([32,9,10]) (c24.toNat:Int)).bind fun r26 =>
  bif (decide (r26 ≥ 0)) then
   some (.inl (Parser.mk x_18.s (x_18.at_ + 1) x_18.relations x_18.e))
  else
   some (.inr x_18)
 else
  some (.inr x_18)
def qfq (N:Nat) (x0:Parser):Option Parser :=
 (iter (fun s=>qf5 N s) N x0).bind fun o13 =>
 some o13
def qhh (_N:Nat) (c_0:Int):Option Bool :=
 bif (decide (c_0 ≥ 97)) then
  some (decide (c_0 ≤ 122))
 else
  some false
def qgV (N:Nat) (s_0:List UInt8) (n_4:Int):Option (Int ⊕ Int) :=
 bif (decide (n_4 < (s_0.length:Int))) then
  (idx s_0 n_4).bind fun c7 =>
  (qhh N (c7.toNat:Int)).bind fun r9 =>
  bif r9 then
   some (.inl (n_4 + 1))
  else
   some (.inr n_4)
 else
  some (.inr n_4)
def qhO (N:Nat) (s_0:List UInt8):Option (List UInt8) :=
 (iter (fun s=>qgV N s_0 s) N 0).bind fun o2 =>
 (slc s_0 0 o2).bind fun s13 =>
 some s13
def qeH (_N:Nat) (c_0:Int):Option Bool :=
 bif (decide (c_0 ≥ 48)) then
  some (decide (c_0 ≤ 57))
 else
  some false
def qg0 (N:Nat) (s_0:List UInt8) (n_4:Int):Option (Int ⊕ Int) :=
 bif (decide (n_4 < (s_0.length:Int))) then
  (idx s_0 n_4).bind fun c7 =>
  (qeH N (c7.toNat:Int)).bind fun r9 =>
  bif r9 then
   some (.inl (n_4 + 1))
  else
   some (.inr n_4)
 else
  some (.inr n_4)
def qhW (N:Nat) (s_0:List UInt8):Option (List UInt8) :=
 (iter (fun s=>qg0 N s_0 s) N 0).bind fun o2 =>
 (slc s_0 0 o2).bind fun s13 =>
 some s13
def qgb (N:Nat) (r9:Parser) (s15:List UInt8) (x_40:Int):Option (Int ⊕ ((Unit ⊕ ((List UInt8) × Parser)))) :=
 bif (decide (x_40 < (([[46,46],[33,61],[37],[61],[44]]:List (List UInt8)).length:Int))) then
  (idx ([[46,46],[33,61],[37],[61],[44]]:List (List UInt8)) x_40).bind fun x43 =>
  (strings_HasPrefix N s15 x43).bind fun r54 =>
  bif r54 then
   some (.inr (.inr (x43,r9)))
  else
   some (.inl (x_40 + 1))
 else
  some (.inr (.inl ()))
def qcn (N:Nat) (x0:Parser):Option ((List UInt8) × Parser) :=
 (qfq N x0).bind fun r9 =>
 (slc r9.s r9.at_ (r9.s.length:Int)).bind fun s15 =>
 bif (s15 == ([])) then
  some ([],r9)
 else
  (idx s15 0).bind fun c18 =>
  (qhh N (c18.toNat:Int)).bind fun r20 =>
  bif r20 then
   (qhO N s15).bind fun r23 =>
   some (r23,r9)
  else
   (idx s15 0).bind fun c26 =>
   (qeH N (c26.toNat:Int)).bind fun r28 =>
   bif r28 then
    (qhW N s15).bind fun r31 =>
    some (r31,r9)
   else
    (iter (fun s=>qgb N r9 s15 s) N 0).bind fun o38 =>
    Sum.elim (fun _o38 =>
     some ([],r9))
    (fun o38 =>
     some o38) o38
def qbP (N:Nat) (t_1:List UInt8) (x0:Parser):Option (Bool × Parser) :=
 bif (x0.e != 0) then
  some (false,x0)
 else
  (qcn N x0).bind fun r10 =>
  bif (r10.1 != t_1) then
   some (false,r10.2)
  else
   some (true,(Parser.mk r10.2.s (IntKind.wrap .i64 (r10.2.at_ + (t_1.length:Int))) r10.2.relations r10.2.e))
def qay (_N:Nat) (e_1:Int) (x0:Parser):Option Parser :=
 bif (x0.e == 0) then
  some (Parser.mk x0.s x0.at_ x0.relations e_1)
 else
  some x0
def qdC (N:Nat) (l_1:List (List UInt8)) (x0:Parser):Option ((List UInt8) × Parser) :=
 (qcn N x0).bind fun r9 =>
 bif (r9.2.e == 0) then
  (qbz N l_1 r9.1).bind fun r17 =>
  (show Option Parser from
   bif (!r17) then
    (qay N 3 r9.2).bind fun r25 =>
    some r25
   else
    some r9.2).bind fun o19 =>
  bif (o19.e != 0) then
   some ([],o19)
  else
   some (r9.1,(Parser.mk o19.s (IntKind.wrap .i64 (o19.at_ + (r9.1.length:Int))) o19.relations o19.e))
 else
  bif (r9.2.e != 0) then
   some ([],r9.2)
  else
   some (r9.1,(Parser.mk r9.2.s (IntKind.wrap .i64 (r9.2.at_ + (r9.1.length:Int))) r9.2.relations r9.2.e))
def qbL (N:Nat) (n_0:Int) (x0:Int):Option Int :=
 (qeh N x0 n_0).bind fun r2 =>
 bif (!r2) then
  some 2
 else
  some 0
def qd9 (N:Nat) (x0:Parser) (x1:Int):Option (Int × Parser) :=
 (qcn N x0).bind fun r10 =>
 bif (r10.1 == ([])) then
  (qay N 3 r10.2).bind fun r18 =>
  bif (r18.e != 0) then
   some (0,r18)
  else
   (strconv_Atoi N r10.1).bind fun r25 =>
   (qbL N r25.1 x1).bind fun r28 =>
   bif (r28 != 0) then
    (qay N r28 r18).bind fun r32 =>
    some (0,r32)
   else
    some (r25.1,(Parser.mk r18.s (IntKind.wrap .i64 (r18.at_ + (r10.1.length:Int))) r18.relations r18.e))
 else
  (idx r10.1 0).bind fun c38 =>
  (qeH N (c38.toNat:Int)).bind fun r40 =>
  bif (!r40) then
   (qay N 3 r10.2).bind fun r43 =>
   bif (r43.e != 0) then
    some (0,r43)
   else
    (strconv_Atoi N r10.1).bind fun r50 =>
    (qbL N r50.1 x1).bind fun r53 =>
    bif (r53 != 0) then
     (qay N r53 r43).bind fun r57 =>
     some (0,r57)
    else
     some (r50.1,(Parser.mk r43.s (IntKind.wrap .i64 (r43.at_ + (r10.1.length:Int))) r43.relations r43.e))
  else
   bif (decide ((r10.1.length:Int) > 3)) then
    (qay N 3 r10.2).bind fun r64 =>
    bif (r64.e != 0) then
     some (0,r64)
    else
     (strconv_Atoi N r10.1).bind fun r71 =>
     (qbL N r71.1 x1).bind fun r74 =>
     bif (r74 != 0) then
      (qay N r74 r64).bind fun r78 =>
      some (0,r78)
     else
      some (r71.1,(Parser.mk r64.s (IntKind.wrap .i64 (r64.at_ + (r10.1.length:Int))) r64.relations r64.e))
   else
    bif (decide ((r10.1.length:Int) > 1)) then
     (idx r10.1 0).bind fun c85 =>
     (show Option Parser from
      bif ((c85.toNat:Int) == 48) then
       (qay N 3 r10.2).bind fun r93 =>
       some r93
      else
       some r10.2).bind fun o87 =>
     bif (o87.e != 0) then
      some (0,o87)
     else
      (strconv_Atoi N r10.1).bind fun r104 =>
      (qbL N r104.1 x1).bind fun r107 =>
      bif (r107 != 0) then
       (qay N r107 o87).bind fun r111 =>
       some (0,r111)
      else
       some (r104.1,(Parser.mk o87.s (IntKind.wrap .i64 (o87.at_ + (r10.1.length:Int))) o87.relations o87.e))
    else
     bif (r10.2.e != 0) then
      some (0,r10.2)
     else
      (strconv_Atoi N r10.1).bind fun r118 =>
      (qbL N r118.1 x1).bind fun r121 =>
      bif (r121 != 0) then
       (qay N r121 r10.2).bind fun r125 =>
       some (0,r125)
      else
       some (r118.1,(Parser.mk r10.2.s (IntKind.wrap .i64 (r10.2.at_ + (r10.1.length:Int))) r10.2.relations r10.2.e))
def qco (N:Nat) (n_0:Int) (x0:Int) (x1:Int):Option Int :=
 (qc8 N x0).bind fun r3 =>
 bif (decide (n_0 > r3)) then
  some 2
 else
  bif (decide (x1 ≥ 4)) then
   some 6
  else
   some 0
def qe4 (N:Nat) (x0:Parser) (x1:Int) (x2:Int):Option (Int × Parser) :=
 (qcn N x0).bind fun r11 =>
 bif (r11.1 == ([])) then
  (qay N 3 r11.2).bind fun r19 =>
  bif (r19.e != 0) then
   some (0,r19)
  else
   (strconv_Atoi N r11.1).bind fun r26 =>
   (qco N r26.1 x1 x2).bind fun r29 =>
   bif (r29 != 0) then
    (qay N r29 r19).bind fun r33 =>
    some (0,r33)
   else
    some (r26.1,(Parser.mk r19.s (IntKind.wrap .i64 (r19.at_ + (r11.1.length:Int))) r19.relations r19.e))
 else
  (idx r11.1 0).bind fun c39 =>
  (qeH N (c39.toNat:Int)).bind fun r41 =>
  bif (!r41) then
   (qay N 3 r11.2).bind fun r44 =>
   bif (r44.e != 0) then
    some (0,r44)
   else
    (strconv_Atoi N r11.1).bind fun r51 =>
    (qco N r51.1 x1 x2).bind fun r54 =>
    bif (r54 != 0) then
     (qay N r54 r44).bind fun r58 =>
     some (0,r58)
    else
     some (r51.1,(Parser.mk r44.s (IntKind.wrap .i64 (r44.at_ + (r11.1.length:Int))) r44.relations r44.e))
  else
   bif (decide ((r11.1.length:Int) > 3)) then
    (qay N 3 r11.2).bind fun r65 =>
    bif (r65.e != 0) then
     some (0,r65)
    else
     (strconv_Atoi N r11.1).bind fun r72 =>
     (qco N r72.1 x1 x2).bind fun r75 =>
     bif (r75 != 0) then
      (qay N r75 r65).bind fun r79 =>
      some (0,r79)
     else
      some (r72.1,(Parser.mk r65.s (IntKind.wrap .i64 (r65.at_ + (r11.1.length:Int))) r65.relations r65.e))
   else
    bif (decide ((r11.1.length:Int) > 1)) then
     (idx r11.1 0).bind fun c86 =>
     (show Option Parser from
      bif ((c86.toNat:Int) == 48) then
       (qay N 3 r11.2).bind fun r94 =>
       some r94
      else
       some r11.2).bind fun o88 =>
     bif (o88.e != 0) then
      some (0,o88)
     else
      (strconv_Atoi N r11.1).bind fun r105 =>
      (qco N r105.1 x1 x2).bind fun r108 =>
      bif (r108 != 0) then
       (qay N r108 o88).bind fun r112 =>
       some (0,r112)
      else
       some (r105.1,(Parser.mk o88.s (IntKind.wrap .i64 (o88.at_ + (r11.1.length:Int))) o88.relations o88.e))
    else
     bif (r11.2.e != 0) then
      some (0,r11.2)
     else
      (strconv_Atoi N r11.1).bind fun r119 =>
      (qco N r119.1 x1 x2).bind fun r122 =>
      bif (r122 != 0) then
       (qay N r122 r11.2).bind fun r126 =>
       some (0,r126)
      else
       some (r119.1,(Parser.mk r11.2.s (IntKind.wrap .i64 (r11.2.at_ + (r11.1.length:Int))) r11.2.relations r11.2.e))
def qcs (N:Nat) (n_0:Int) (x0:Int) (x1:Span):Option Int :=
 (qc8 N x0).bind fun r4 =>
 bif (decide (n_0 > r4)) then
  some 2
 else
  bif (decide (n_0 < x1.From)) then
   some 2
  else
   some 0
def qe8 (N:Nat) (x0:Parser) (x1:Int) (x2:Span):Option (Int × Parser) :=
 (qcn N x0).bind fun r12 =>
 bif (r12.1 == ([])) then
  (qay N 3 r12.2).bind fun r20 =>
  bif (r20.e != 0) then
   some (0,r20)
  else
   (strconv_Atoi N r12.1).bind fun r27 =>
   (qcs N r27.1 x1 x2).bind fun r30 =>
   bif (r30 != 0) then
    (qay N r30 r20).bind fun r34 =>
    some (0,r34)
   else
    some (r27.1,(Parser.mk r20.s (IntKind.wrap .i64 (r20.at_ + (r12.1.length:Int))) r20.relations r20.e))
 else
  (idx r12.1 0).bind fun c40 =>
  (qeH N (c40.toNat:Int)).bind fun r42 =>
  bif (!r42) then
   (qay N 3 r12.2).bind fun r45 =>
   bif (r45.e != 0) then
    some (0,r45)
   else
    (strconv_Atoi N r12.1).bind fun r52 =>
    (qcs N r52.1 x1 x2).bind fun r55 =>
    bif (r55 != 0) then
     (qay N r55 r45).bind fun r59 =>
     some (0,r59)
    else
     some (r52.1,(Parser.mk r45.s (IntKind.wrap .i64 (r45.at_ + (r12.1.length:Int))) r45.relations r45.e))
  else
   bif (decide ((r12.1.length:Int) > 3)) then
    (qay N 3 r12.2).bind fun r66 =>
    bif (r66.e != 0) then
     some (0,r66)
    else
     (strconv_Atoi N r12.1).bind fun r73 =>
     (qcs N r73.1 x1 x2).bind fun r76 =>
     bif (r76 != 0) then
      (qay N r76 r66).bind fun r80 =>
      some (0,r80)
     else
      some (r73.1,(Parser.mk r66.s (IntKind.wrap .i64 (r66.at_ + (r12.1.length:Int))) r66.relations r66.e))
   else
    bif (decide ((r12.1.length:Int) > 1)) then
     (idx r12.1 0).bind fun c87 =>
     (show Option Parser from
      bif ((c87.toNat:Int) == 48) then
       (qay N 3 r12.2).bind fun r95 =>
       some r95
      else
       some r12.2).bind fun o89 =>
     bif (o89.e != 0) then
      some (0,o89)
     else
      (strconv_Atoi N r12.1).bind fun r106 =>
      (qcs N r106.1 x1 x2).bind fun r109 =>
      bif (r109 != 0) then
       (qay N r109 o89).bind fun r113 =>
       some (0,r113)
      else
       some (r106.1,(Parser.mk o89.s (IntKind.wrap .i64 (o89.at_ + (r12.1.length:Int))) o89.relations o89.e))
    else
     bif (r12.2.e != 0) then
      some (0,r12.2)
     else
      (strconv_Atoi N r12.1).bind fun r120 =>
      (qcs N r120.1 x1 x2).bind fun r123 =>
      bif (r123 != 0) then
       (qay N r123 r12.2).bind fun r127 =>
       some (0,r127)
      else
       some (r120.1,(Parser.mk r12.2.s (IntKind.wrap .i64 (r12.2.at_ + (r12.1.length:Int))) r12.2.relations r12.2.e))
def qfs (N:Nat) (operand_1:Int) (count_2:Int) (x0:Parser):Option (Span × Parser) :=
 (qe4 N x0 operand_1 count_2).bind fun r12 =>
 (qbP N ([46,46]) r12.2).bind fun r20 =>
 bif r20.1 then
  (qe8 N r20.2 operand_1 (Span.mk r12.1 r12.1)).bind fun r27 =>
  some ((Span.mk r12.1 r27.1),r27.2)
 else
  some ((Span.mk r12.1 r12.1),r20.2)
end Go.Proofs.YtboacfcnmhnbdaaGreatDoor
namespace Go.Proofs.YtboacfcnmhnbdaaGreatDoor
open Go.X
variable {u:World} {m0:Mem} {S:Segs} {w:World}
set_option maxHeartbeats 4000000
set_option maxRecDepth 100000
def qlp (u:World) (m0:Mem) (S:Segs) (r:(List UInt8) × Int) (a:Act) (w:World):Prop :=
 Ok u m0 S w ∧ a.defers = [] ∧ RVs Tryz.prog a w [.t 4 (.string (bs r.1)),.t 5 (.int .i64 r.2)] ∧ r.1.length ≤ LIMS ∧ InR .i64 r.2
theorem qk7 (N:Nat) (vl_0:Value) (l_0:List (Rule)) (hl_0:(pL 2 qeR) m0 [vl_0] l_0) (number_1:List UInt8) (lnumber_1:number_1.length ≤ LIMS) {r:(List UInt8) × Int} (hF:qiS N l_0 number_1 = some r) (hG:Glob u) (ok:Ok u m0 S w) :
  Calls Tryz.prog 11 [vl_0,vs number_1].toArray w fun e w'=>(e = .returned (.tuple [(.string (bs r.1)),(.int .i64 r.2)].toArray) ∧ Ok u m0 S w') ∧ r.1.length ≤ LIMS ∧ InR .i64 r.2:=by
 have hb0:=ok.base
 have le_m0:=Mem.le.refl m0
 unfold qiS at hF
 refine en (qlp u m0 S) r Tryz.func11 rfl rfl rfl (by rintro a w ⟨ok,hd,hrv,h0,h1⟩; exact qat [.t 4 (.string (bs r.1)),.t 5 (.int .i64 r.2)] hd rfl hrv ⟨⟨rfl,ok⟩,h0,h1⟩) fun fin a E=>sg<|av E rfl fun a E=>aw E rfl fun a E=>wp_seq ?_
 refine sg<|mv E rfl fun a E=>?_
 obtain ⟨r1,e2,hF⟩:=bnd hF
 refine lc E qtW rfl (qll N _ l_0 hl_0 e2 hG ok) fun w ok a E=>lw E (qaS rfl) fun a E=>wn<|cf E rfl hF (fun hc3 hF=>?_) fun hc3 hF=>?_
 ·refine sg<|av E rfl fun a E=>aw E rfl fun a E=>wp_ret<|qaf ?_
  exact fin hF ⟨ok,E.d,⟨rv_t E rfl,rv_t E rfl,trivial⟩,(show ([]:List UInt8).length ≤ LIMS by decide),(ir 1)⟩
 refine wp_skip<|qaa<|sg<|lw E (qa0 (ps:=[]) (qs:=[]) (cs:=[vi 0,vi 0]) qfb qpB rfl trivial rfl) fun a E=>qbs (R:=qeB) (xo:=[.tmp 16]) (xs:=([(Span.mk 0 0)]:List (Span))) E ok qcx qfb rfl ⟨⟨_,rfl,rfl,⟨rfl,(ir 0),(ir 0)⟩⟩,trivial⟩ rfl rfl rfl rfl fun c4 M5 a w E ok h6=>lw E (qa0 (ps:=[(0,.const (vi 2)),(2,.const (vb true)),(3,.tmp 17)]) (qs:=[(0,[vi 2]),(2,[vb true]),(3,[c4])]) (cs:=[vi 2,vi 0,vb true,c4]) qdS qm2 rfl ⟨rfl,rfl,rfl,⟨rfl,rfl,rfl,⟨rfl,(ORow.cells h6),rfl,trivial⟩⟩⟩ rfl) fun a E=>?_
 obtain ⟨m7,hle,ok,hfz⟩:=(ok.frs 0 rfl).freeze
 have h8:=ORow.froz qgv h6 hle hfz (by decide)
 have le_m0:=le_m0.trans hle
 have hl_0:=(mL qfo).up hle hl_0
 refine qbs (R:=qai) (xo:=[.tmp 18]) (xs:=([(Relation.mk 2 0 true ([(Span.mk 0 0)]:List (Span)))]:List (Relation))) E ok qbT qdS rfl ⟨⟨_,rfl,rfl,⟨_,rfl,(ir 2),(ir 0),h8⟩⟩,trivial⟩ rfl rfl rfl rfl fun c9 M10 a w E ok h11=>?_
 obtain ⟨m12,hle,ok,hfz⟩:=(ok.frs 0 rfl).freeze
 have h13:=ORow.froz qad h11 hle hfz (by decide)
 have le_m0:=le_m0.trans hle
 have hl_0:=(mL qfo).up hle hl_0
 have h8:=(mL qgv).up hle h8
 refine qbs (R:=(pL 4 qai)) (xo:=[.tmp 19]) (xs:=([([(Relation.mk 2 0 true ([(Span.mk 0 0)]:List (Span)))]:List (Relation))]:List (List (Relation)))) E ok qea qpa rfl ⟨⟨_,(qcY h13),rfl,h13⟩,trivial⟩ rfl rfl rfl rfl fun c14 M15 a w E ok h16=>aw E rfl fun a E=>wp_seq<|sg<|mv E rfl fun a E=>?_
 refine mv E rfl fun a E=>?_
 obtain ⟨r22,e23,hF⟩:=bnd hF
 obtain ⟨m17,hle19,ok18,hfz20⟩:=(ok.frs 0 rfl).freeze
 have h21:=ORow.froz (mL qad) h16 hle19 hfz20 (by decide)
 refine qag E qt6 rfl (qjF N _ ([([(Relation.mk 2 0 true ([(Span.mk 0 0)]:List (Span)))]:List (Relation))]:List (List (Relation))) h21 number_1 lnumber_1 e23 hG ok18) rfl rfl ?_
 rintro _ w ⟨⟨rfl,okz⟩,r24⟩
 replace ok:=(Ok.thawAt 0 rfl ok hle19 hfz20 okz)
 refine ⟨_,rfl,fun a E=>?_⟩
 refine mv E rfl fun a E=>lw E (qam rfl rfl) fun a E=>lw E (qam rfl rfl) fun a E=>av E rfl fun a E=>aw E rfl fun a E=>wp_seq ?_
 refine qab<|mv E rfl fun a E=>lw E (qaW rfl rfl) fun a E=>wn<|cf E rfl hF (fun hc25 hF=>?_) fun hc25 hF=>?_
 ·refine sg<|av E rfl fun a E=>aw E rfl fun a E=>wp_ret<|qaf ?_
  exact fin hF ⟨(ok.drop).down hb0 le_m0,E.d,⟨rv_t E rfl,rv_t E rfl,trivial⟩,(show ([]:List UInt8).length ≤ LIMS by decide),(ir 1)⟩
 refine wp_skip<|qaa<|wp_seq<|sg<|mv E rfl fun a E=>lv E ok (qaH qc2 hl_0 rfl) fun a E=>mv E rfl fun a E=>?_
 refine wn<|wp_block ?_
 obtain ⟨o27,hL,hF⟩:=bnd hF
 refine qaI _ (fun (s:Int) a w=>Ok u m12 (M15 :: S) w ∧ Env 51 a [(1,vs number_1),(29,vl_0),(30,(vi (l_0.length:Int))),(31,vi s)] ∧ InR .i64 s) (fun (b:(Unit ⊕ ((List UInt8) × Int))) e a w=>(Sum.elim (fun b50=>e = (.exit 0) ∧ Ok u m12 (M15 :: S) w ∧ Env 51 a []) (fun b51=>e = .ret ∧ qlp u m0 S b51 a w)) b) ?_ ?_ N _ a w hL ⟨ok,E.keep [1,29,30,31],(ir 0)⟩
 rotate_left
 ·intro e a w _ hO
  rcases o27 with o27 | o27
  rotate_left
  ·replace hF:=qa7 hF
   obtain ⟨rfl,hret⟩:=hO
   refine qax<|qaf ?_
   exact fin hF hret
  replace hF:=qa6 hF
  obtain ⟨rfl,ok,E⟩:=hO
  refine qaK<|qaa<|sg<|av E rfl fun a E=>aw E rfl fun a E=>?_
  refine wp_ret ?_
  exact fin hF ⟨(ok.drop).down hb0 le_m0,E.d,⟨rv_t E rfl,rv_t E rfl,trivial⟩,(show ([111,116,104,101,114]:List UInt8).length ≤ LIMS by decide),(ir 0)⟩
 rintro x_29 a w r ⟨ok,E,r30⟩ hF
 replace hF:qix N l_0 number_1 x_29 = some r:=hF
 unfold qix at hF
 refine sg<|lw E (qaF rfl rfl) fun a E=>wn<|wp_seq<|cf E rfl hF (fun hc31 hF=>?_) fun hc31 hF=>?_
 rotate_left
 ·refine wp_exit<|qaB ?_
  obtain rfl:=sj hF
  exact so (sl ⟨rfl,⟨ok,E.keep []⟩⟩)
 refine wp_skip<|qaa<|wp_seq<|wp_block<|sg ?_
 obtain ⟨x32,e33,hF⟩:=bnd hF
 obtain ⟨b34,o35,es36,hl37,rr38,at39,yy40⟩:=qaO qc2 hl_0 e33 (P:=Tryz.prog) (X:=.tmp 29) (I:=.tmp 31) (kd:=.i64) (qak E rfl) (qak E rfl)
 obtain ⟨c42,rfl,l41,h43⟩:=rr38
 refine lv E ok (yy40 _ _) fun a E=>lv E ok (qao (cs:=[vs x32.Class,c42]) qlo rfl rfl (qac.ro at39)) fun a E=>qaR E ok qin rfl rfl fun b44 a w E ok=>qae E ok 0 rfl rfl rfl qmJ rfl rfl ⟨rfl,(qh9 h43),trivial⟩ rfl rfl fun w ok=>wn<|sg ?_
 refine fv E qhn rfl fun a E=>ld E ok qdA 0 rfl rfl rfl fun a E=>mv E rfl fun a E=>?_
 obtain ⟨r45,e46,hF⟩:=bnd hF
 refine qag E qt6 rfl (qjF N _ x32.Cond h43 number_1 lnumber_1 e46 hG ok) rfl rfl ?_
 rintro _ w ⟨⟨rfl,ok⟩,r47⟩
 refine ⟨_,rfl,fun a E=>?_⟩
 refine mv E rfl fun a E=>lw E (qam rfl rfl) fun a E=>lw E (qam rfl rfl) fun a E=>av E rfl fun a E=>aw E rfl fun a E=>wp_block ?_
 refine sg<|mv E rfl fun a E=>lw E (qaW rfl rfl) fun a E=>aw E rfl fun a E=>cf E rfl hF (fun hc48 hF=>?_) fun hc48 hF=>?_
 ·refine sg<|mv E rfl fun a E=>av E rfl fun a E=>aw E rfl fun a E=>wp_ret ?_
  refine qax<|qax<|qaf ?_
  obtain rfl:=sj hF
  exact so (sr ⟨rfl,⟨(ok.drop.drop).down hb0 le_m0,E.d,⟨rv_t E rfl,rv_t E rfl,trivial⟩,(show ([]:List UInt8).length ≤ LIMS by decide),r47⟩⟩)
 refine sg<|mv E rfl fun a E=>aw E rfl fun a E=>cf E rfl hF (fun hc49 hF=>?_) fun hc49 hF=>?_
 rotate_left
 ·refine wp_skip<|qal<|qal<|qaa<|qab<|lw E (qaD rfl rfl (InR.inc r30 (qaj hl_0) hc31)) fun a E=>mv E rfl fun a E=>wpList_nil ?_
  obtain rfl:=sj hF
  exact qau ⟨(ok.pk 2 [1] rfl (by decide)),E.keep [1,29,30,31],(InR.inc r30 (qaj hl_0) hc31)⟩
 refine sg<|fv E qg4 rfl fun a E=>ld E ok qaN 0 rfl rfl rfl fun a E=>av E rfl fun a E=>aw E rfl fun a E=>?_
 refine wp_ret<|qax<|qax<|qaf ?_
 obtain rfl:=sj hF
 exact so (sr ⟨rfl,⟨(ok.drop.drop).down hb0 le_m0,E.d,⟨rv_t E rfl,rv_t E rfl,trivial⟩,l41,(ir 0)⟩⟩)
theorem qi3 {u:World} {m0:Mem} {S:Segs} {w:World} (N:Nat) (p0_0:List UInt8) (lp0_0:p0_0.length ≤ LIMS) (p1_1:Int) (rp1_1:InR .u8 p1_1) {r:Int} (hF:strings_IndexByte N p0_0 p1_1 = some r) (hG:Glob u) (ok:Ok u m0 S w) :
 Calls Tryz.prog 100 [vs p0_0,Value.int .u8 p1_1].toArray w fun e w'=>(e = .returned (.int .i64 r) ∧ Ok u m0 S w') ∧ InR .i64 r:=qpD Tryz.lays137 p0_0 p1_1 hF lp0_0 ok
def qko (u:World) (m0:Mem) (S:Segs) (pb0:Nat) (x0:Parser) (r:Parser) (a:Act) (w:World):Prop :=
 Ok u m0 ([(pb0,oc 88 [vs r.s,vi r.at_,vi r.relations,vi r.e])] :: S) w ∧ a.defers = [] ∧ RVs Tryz.prog a w [] ∧ r.s.length ≤ LIMS ∧ InR .i64 r.at_ ∧ InR .i64 r.relations ∧ InR .i64 r.e
theorem qh2 (N:Nat) {pb0:Nat} (x0:Parser) (l1:x0.s.length ≤ LIMS) (r2:InR .i64 x0.at_) (r3:InR .i64 x0.relations) (r4:InR .i64 x0.e) {r:Parser} (hF:qfq N x0 = some r) (hG:Glob u) (ok:Ok u m0 ([(pb0,oc 88 [vs x0.s,vi x0.at_,vi x0.relations,vi x0.e])] :: S) w) :
  Calls Tryz.prog 70 [vp pb0].toArray w fun e w'=>(e = .returned (.tuple [].toArray) ∧ Ok u m0 ([(pb0,oc 88 [vs r.s,vi r.at_,vi r.relations,vi r.e])] :: S) w') ∧ r.s.length ≤ LIMS ∧ InR .i64 r.at_ ∧ InR .i64 r.relations ∧ InR .i64 r.e:=by
 unfold qfq at hF
 refine en (qko u m0 S pb0 x0) r Tryz.func70 rfl rfl rfl (by rintro a w ⟨ok,hd,hrv,h0,h1,h2,h3⟩; exact qat [] hd rfl hrv ⟨⟨rfl,ok⟩,h0,h1,h2,h3⟩) fun fin a E=>wp_block ?_
 obtain ⟨o13,hL,hF⟩:=bnd hF
 refine qaI _ (fun (s:Parser) a w=>Ok u m0 ([(pb0,oc 88 [vs s.s,vi s.at_,vi s.relations,vi s.e])] :: S) w ∧ Env 32 a [(0,vp pb0)] ∧ s.s.length ≤ LIMS ∧ InR .i64 s.at_ ∧ InR .i64 s.relations ∧ InR .i64 s.e) (fun (b:Parser) e a w=>e = (.exit 0) ∧ Ok u m0 ([(pb0,oc 88 [vs b.s,vi b.at_,vi b.relations,vi b.e])] :: S) w ∧ Env 32 a [] ∧ b.s.length ≤ LIMS ∧ InR .i64 b.at_ ∧ InR .i64 b.relations ∧ InR .i64 b.e) ?_ ?_ N _ a w hL ⟨ok,E.keep [0],l1,r2,r3,r4⟩
 rotate_left
 ·intro e a w _ hO
  obtain ⟨rfl,ok,E,l30,r31,r32,r33⟩:=hO
  refine qaK ?_
  exact fin hF ⟨ok,E.d,trivial,l30,r31,r32,r33⟩
 rintro x_18 a w r ⟨ok,E,l19,r20,r21,r22⟩ hF
 replace hF:qf5 N x_18 = some r:=hF
 unfold qf5 at hF
 refine wp_seq<|wp_seq<|qfD (by kernel_rfl) (by kernel_rfl) ok<|qv E (qah rfl) fun a E=>qv E (qaq rfl) fun a E=>qv E (qan qaZ rfl) fun a E=>qv E (qap qaC rfl (qac.own 0 rfl rfl)) fun a E=>qv E (qah rfl) fun a E=>?_
 refine qv E (qaq rfl) fun a E=>qv E (qan qpi rfl) fun a E=>qv E (qap qaN rfl (qac.own 0 rfl rfl)) fun a E=>qv E (qaL Tryz.underlying9 rfl) fun a E=>qv E (qaF rfl rfl) fun a E=>qv E (qah rfl) fun a E=>qav (decide (x_18.at_ < (x_18.s.length:Int))) (fun hc23=>?_) (fun hc23=>?_)
 rotate_left
 ·replace hF:=qar hc23 hF
  replace E:=E.upd 12 hc23 rfl
  refine qs E fun a E=>qs E fun a E=>qs E fun a E=>qs E fun a E=>qs E fun a E=>qs E fun a E=>qs E fun a E=>qs E fun a E=>?_
  refine qs E fun a E=>qs E fun a E=>qs E fun a E=>qv E (qaY rfl rfl) fun a E=>wpQuiet_nil ?_
  intro w ok
  refine qaa<|c_if E rfl (fun h=>by cases h) (fun _=>?_)
  refine wp_exit<|qaB ?_
  obtain rfl:=sj hF
  exact so (⟨rfl,⟨ok,E.keep [],l19,r20,r21,r22⟩⟩)
 replace hF:=qas hc23 hF
 replace E:=E.upd 12 hc23 rfl
 refine qv E (qah rfl) fun a E=>qv E (qaq rfl) fun a E=>qv E (qan qpi rfl) fun a E=>qv E (qap qaN rfl (qac.own 0 rfl rfl)) fun a E=>qv E (qah rfl) fun a E=>qv E (qaq rfl) fun a E=>qv E (qan qaZ rfl) fun a E=>qv E (qap qaC rfl (qac.own 0 rfl rfl)) fun a E=>?_
 obtain ⟨c24,e25,hF⟩:=bnd hF
 refine qv E (qbB Tryz.underlying9 rfl rfl e25) fun a E=>?_
 obtain ⟨r26,e27,hF⟩:=bnd hF
 obtain ⟨_,_,⟨_,_⟩,r28⟩:=Go.X.Calls.get (qi3 N ([32,9,10]) (show ([32,9,10]:List UInt8).length ≤ LIMS by decide) (c24.toNat:Int) (InR.byte c24) e27 hG ok)
 refine qhi E qvR rfl (fun w ok=>(qi3 N ([32,9,10]) (show ([32,9,10]:List UInt8).length ≤ LIMS by decide) (c24.toNat:Int) (InR.byte c24) e27 hG ok).mono (fun _ _ h=>h.1)) rfl rfl fun a E=>qv E (qgh rfl rfl) fun a E=>qv E (qa1 rfl rfl) fun a E=>wpQuiet_nil ?_
 intro w ok
 refine qaa<|cf E rfl hF (fun hc29 hF=>?_) fun hc29 hF=>?_
 rotate_left
 ·refine wp_exit<|qaB ?_
  obtain rfl:=sj hF
  exact so (⟨rfl,⟨ok,E.keep [],l19,r20,r21,r22⟩⟩)
 refine wp_skip<|qaa<|wp_block<|qab<|mv E rfl fun a E=>lw E (qaq rfl) fun a E=>fv E qaZ rfl fun a E=>ld E ok qaC 0 rfl rfl rfl fun a E=>?_
 refine lw E (qaD rfl rfl (InR.inc r20 (InR.len l19) hc23)) fun a E=>lw E (qaq rfl) fun a E=>fv E qaZ rfl fun a E=>qae E ok 0 rfl rfl rfl qbO rfl rfl ⟨rfl,trivial⟩ rfl rfl fun w ok=>wpList_nil<|qal ?_
 obtain rfl:=sj hF
 exact qau ⟨ok,E.keep [0],l19,(InR.inc r20 (InR.len l19) hc23),r21,r22⟩
def qm5 (u:World) (m0:Mem) (S:Segs) (r:Bool) (a:Act) (w:World):Prop :=
 Ok u m0 S w ∧ a.defers = [] ∧ RVs Tryz.prog a w [.t 2 (.bool r)]
theorem qjm (N:Nat) (c_0:Int) (rc_0:InR .u8 c_0) {r:Bool} (hF:qhh N c_0 = some r) (hG:Glob u) (ok:Ok u m0 S w) :
  Calls Tryz.prog 122 [Value.int .u8 c_0].toArray w fun e w'=>(e = .returned (.bool r) ∧ Ok u m0 S w'):=by
 unfold qhh at hF
 refine en (qm5 u m0 S) r Tryz.func122 rfl rfl rfl (by rintro a w ⟨ok,hd,hrv⟩; exact qat [.t 2 (.bool r)] hd rfl hrv ⟨rfl,ok⟩) fun fin a E=>sg<|aw E rfl fun a E=>sg ?_
 refine mv E rfl fun a E=>lw E (qgh rfl rfl) fun a E=>mv E rfl fun a E=>qav (decide (c_0 ≥ 97)) (fun hc1=>?_) (fun hc1=>?_)
 ·replace hF:=qas hc1 hF
  replace E:=E.upd 5 hc1 rfl
  refine mv E rfl fun a E=>lw E (qgT rfl rfl) fun a E=>pt E rfl rfl fun a E=>aw E rfl fun a E=>wp_ret ?_
  exact fin hF ⟨ok,E.d,⟨rv_t E rfl,trivial⟩⟩
 replace hF:=qar hc1 hF
 replace E:=E.upd 5 hc1 rfl
 refine ls E fun a E=>ls E fun a E=>pf E rfl rfl fun a E=>aw E rfl fun a E=>wp_ret ?_
 exact fin hF ⟨ok,E.d,⟨rv_t E rfl,trivial⟩⟩
def qlY (u:World) (m0:Mem) (S:Segs) (r:(List UInt8)) (a:Act) (w:World):Prop :=
 Ok u m0 S w ∧ a.defers = [] ∧ RVs Tryz.prog a w [.t 4 (.string (bs r))] ∧ r.length ≤ LIMS
theorem qlM (N:Nat) (s_0:List UInt8) (ls_0:s_0.length ≤ LIMS) {r:(List UInt8)} (hF:qhO N s_0 = some r) (hG:Glob u) (ok:Ok u m0 S w) :
  Calls Tryz.prog 123 [vs s_0,.func (.func 122) #[] #[]].toArray w fun e w'=>(e = .returned (.string (bs r)) ∧ Ok u m0 S w') ∧ r.length ≤ LIMS:=by
 unfold qhO at hF
 refine en (qlY u m0 S) r Tryz.func123 rfl rfl rfl (by rintro a w ⟨ok,hd,hrv,h0⟩; exact qat [.t 4 (.string (bs r))] hd rfl hrv ⟨⟨rfl,ok⟩,h0⟩) fun fin a E=>sg<|aw E rfl fun a E=>sg ?_
 refine aw E rfl fun a E=>wp_seq<|wp_block ?_
 obtain ⟨o2,hL,hF⟩:=bnd hF
 refine qaI _ (fun (s:Int) a w=>Ok u m0 (S) w ∧ Env 22 a [(0,vs s_0),(1,(Value.func (.func 122) #[] #[])),(5,vi s)] ∧ InR .i64 s) (fun (b:Int) e a w=>e = (.exit 0) ∧ Ok u m0 (S) w ∧ Env 22 a [(0,vs s_0),(5,vi b)] ∧ InR .i64 b) ?_ ?_ N _ a w hL ⟨ok,E.keep [0,1,5],(ir 0)⟩
 rotate_left
 ·intro e a w _ hO
  obtain ⟨rfl,ok,E,r12⟩:=hO
  refine qaK<|qaa<|sg<|mv E rfl fun a E=>mv E rfl fun a E=>?_
  obtain ⟨s13,e14,hF⟩:=bnd hF
  refine lw E (qf9 Tryz.underlying9 e14 rfl rfl ⟨_,rfl⟩) fun a E=>aw E rfl fun a E=>wp_ret ?_
  exact fin hF ⟨ok,E.d,⟨rv_t E rfl,trivial⟩,(Nat.le_trans (qe5 e14) ls_0)⟩
 rintro n_4 a w r ⟨ok,E,r5⟩ hF
 replace hF:qgV N s_0 n_4 = some r:=hF
 unfold qgV at hF
 refine wp_seq<|sg<|mv E rfl fun a E=>mv E rfl fun a E=>lw E (qaL Tryz.underlying9 rfl) fun a E=>lw E (qaF rfl rfl) fun a E=>mv E rfl fun a E=>?_
 refine qav (decide (n_4 < (s_0.length:Int))) (fun hc6=>?_) (fun hc6=>?_)
 rotate_left
 ·replace hF:=qar hc6 hF
  replace E:=E.upd 10 hc6 rfl
  refine ls E fun a E=>ls E fun a E=>ls E fun a E=>ls E fun a E=>ls E fun a E=>pf E rfl rfl fun a E=>wn ?_
  refine c_if E rfl (fun h=>by cases h) (fun _=>?_)
  refine wp_exit<|qaB ?_
  obtain rfl:=sj hF
  exact so (⟨rfl,⟨ok,E.keep [0,5],r5⟩⟩)
 replace hF:=qas hc6 hF
 replace E:=E.upd 10 hc6 rfl
 refine mv E rfl fun a E=>mv E rfl fun a E=>mv E rfl fun a E=>?_
 obtain ⟨c7,e8,hF⟩:=bnd hF
 refine lv E ok (qbB Tryz.underlying9 rfl rfl e8) fun a E=>?_
 obtain ⟨r9,e10,hF⟩:=bnd hF
 refine qjW E rfl qso rfl (qjm N (c7.toNat:Int) (InR.byte c7) e10 hG ok) rfl rfl ?_
 rintro _ w ⟨rfl,ok⟩
 refine ⟨_,rfl,fun a E=>?_⟩
 refine pt E rfl rfl fun a E=>wn<|cf E rfl hF (fun hc11 hF=>?_) fun hc11 hF=>?_
 rotate_left
 ·refine wp_exit<|qaB ?_
  obtain rfl:=sj hF
  exact so (⟨rfl,⟨ok,E.keep [0,5],r5⟩⟩)
 refine wp_skip<|qaa<|wp_block<|qab<|mv E rfl fun a E=>lw E (qaD rfl rfl (InR.inc r5 (InR.len ls_0) hc6)) fun a E=>av E rfl fun a E=>wpList_nil ?_
 refine qal ?_
 obtain rfl:=sj hF
 exact qau ⟨ok,E.keep [0,1,5],(InR.inc r5 (InR.len ls_0) hc6)⟩
def qnG (u:World) (m0:Mem) (S:Segs) (r:Bool) (a:Act) (w:World):Prop :=
 Ok u m0 S w ∧ a.defers = [] ∧ RVs Tryz.prog a w [.t 2 (.bool r)]
theorem qfG (N:Nat) (c_0:Int) (rc_0:InR .u8 c_0) {r:Bool} (hF:qeH N c_0 = some r) (hG:Glob u) (ok:Ok u m0 S w) :
  Calls Tryz.prog 124 [Value.int .u8 c_0].toArray w fun e w'=>(e = .returned (.bool r) ∧ Ok u m0 S w'):=by
 unfold qeH at hF
 refine en (qnG u m0 S) r Tryz.func124 rfl rfl rfl (by rintro a w ⟨ok,hd,hrv⟩; exact qat [.t 2 (.bool r)] hd rfl hrv ⟨rfl,ok⟩) fun fin a E=>sg<|aw E rfl fun a E=>sg ?_
 refine mv E rfl fun a E=>lw E (qgh rfl rfl) fun a E=>mv E rfl fun a E=>qav (decide (c_0 ≥ 48)) (fun hc1=>?_) (fun hc1=>?_)
 ·replace hF:=qas hc1 hF
  replace E:=E.upd 5 hc1 rfl
  refine mv E rfl fun a E=>lw E (qgT rfl rfl) fun a E=>pt E rfl rfl fun a E=>aw E rfl fun a E=>wp_ret ?_
  exact fin hF ⟨ok,E.d,⟨rv_t E rfl,trivial⟩⟩
 replace hF:=qar hc1 hF
 replace E:=E.upd 5 hc1 rfl
 refine ls E fun a E=>ls E fun a E=>pf E rfl rfl fun a E=>aw E rfl fun a E=>wp_ret ?_
 exact fin hF ⟨ok,E.d,⟨rv_t E rfl,trivial⟩⟩
def qlU (u:World) (m0:Mem) (S:Segs) (r:(List UInt8)) (a:Act) (w:World):Prop :=
 Ok u m0 S w ∧ a.defers = [] ∧ RVs Tryz.prog a w [.t 4 (.string (bs r))] ∧ r.length ≤ LIMS
theorem qlN (N:Nat) (s_0:List UInt8) (ls_0:s_0.length ≤ LIMS) {r:(List UInt8)} (hF:qhW N s_0 = some r) (hG:Glob u) (ok:Ok u m0 S w) :
  Calls Tryz.prog 123 [vs s_0,.func (.func 124) #[] #[]].toArray w fun e w'=>(e = .returned (.string (bs r)) ∧ Ok u m0 S w') ∧ r.length ≤ LIMS:=by
 unfold qhW at hF
 refine en (qlU u m0 S) r Tryz.func123 rfl rfl rfl (by rintro a w ⟨ok,hd,hrv,h0⟩; exact qat [.t 4 (.string (bs r))] hd rfl hrv ⟨⟨rfl,ok⟩,h0⟩) fun fin a E=>sg<|aw E rfl fun a E=>sg ?_
 refine aw E rfl fun a E=>wp_seq<|wp_block ?_
 obtain ⟨o2,hL,hF⟩:=bnd hF
 refine qaI _ (fun (s:Int) a w=>Ok u m0 (S) w ∧ Env 22 a [(0,vs s_0),(1,(Value.func (.func 124) #[] #[])),(5,vi s)] ∧ InR .i64 s) (fun (b:Int) e a w=>e = (.exit 0) ∧ Ok u m0 (S) w ∧ Env 22 a [(0,vs s_0),(5,vi b)] ∧ InR .i64 b) ?_ ?_ N _ a w hL ⟨ok,E.keep [0,1,5],(ir 0)⟩
 rotate_left
 ·intro e a w _ hO
  obtain ⟨rfl,ok,E,r12⟩:=hO
  refine qaK<|qaa<|sg<|mv E rfl fun a E=>mv E rfl fun a E=>?_
  obtain ⟨s13,e14,hF⟩:=bnd hF
  refine lw E (qf9 Tryz.underlying9 e14 rfl rfl ⟨_,rfl⟩) fun a E=>aw E rfl fun a E=>wp_ret ?_
  exact fin hF ⟨ok,E.d,⟨rv_t E rfl,trivial⟩,(Nat.le_trans (qe5 e14) ls_0)⟩
 rintro n_4 a w r ⟨ok,E,r5⟩ hF
 replace hF:qg0 N s_0 n_4 = some r:=hF
 unfold qg0 at hF
 refine wp_seq<|sg<|mv E rfl fun a E=>mv E rfl fun a E=>lw E (qaL Tryz.underlying9 rfl) fun a E=>lw E (qaF rfl rfl) fun a E=>mv E rfl fun a E=>?_
 refine qav (decide (n_4 < (s_0.length:Int))) (fun hc6=>?_) (fun hc6=>?_)
 rotate_left
 ·replace hF:=qar hc6 hF
  replace E:=E.upd 10 hc6 rfl
  refine ls E fun a E=>ls E fun a E=>ls E fun a E=>ls E fun a E=>ls E fun a E=>pf E rfl rfl fun a E=>wn ?_
  refine c_if E rfl (fun h=>by cases h) (fun _=>?_)
  refine wp_exit<|qaB ?_
  obtain rfl:=sj hF
  exact so (⟨rfl,⟨ok,E.keep [0,5],r5⟩⟩)
 replace hF:=qas hc6 hF
 replace E:=E.upd 10 hc6 rfl
 refine mv E rfl fun a E=>mv E rfl fun a E=>mv E rfl fun a E=>?_
 obtain ⟨c7,e8,hF⟩:=bnd hF
 refine lv E ok (qbB Tryz.underlying9 rfl rfl e8) fun a E=>?_
 obtain ⟨r9,e10,hF⟩:=bnd hF
 refine qjW E rfl qm4 rfl (qfG N (c7.toNat:Int) (InR.byte c7) e10 hG ok) rfl rfl ?_
 rintro _ w ⟨rfl,ok⟩
 refine ⟨_,rfl,fun a E=>?_⟩
 refine pt E rfl rfl fun a E=>wn<|cf E rfl hF (fun hc11 hF=>?_) fun hc11 hF=>?_
 rotate_left
 ·refine wp_exit<|qaB ?_
  obtain rfl:=sj hF
  exact so (⟨rfl,⟨ok,E.keep [0,5],r5⟩⟩)
 refine wp_skip<|qaa<|wp_block<|qab<|mv E rfl fun a E=>lw E (qaD rfl rfl (InR.inc r5 (InR.len ls_0) hc6)) fun a E=>av E rfl fun a E=>wpList_nil ?_
 refine qal ?_
 obtain rfl:=sj hF
 exact qau ⟨ok,E.keep [0,1,5],(InR.inc r5 (InR.len ls_0) hc6)⟩
theorem qmo {u:World} {m0:Mem} {S:Segs} {w:World} (N:Nat) (p0_0:List UInt8) (lp0_0:p0_0.length ≤ LIMS) (p1_1:List UInt8) (lp1_1:p1_1.length ≤ LIMS) {r:Bool} (hF:strings_HasPrefix N p0_0 p1_1 = some r) (hG:Glob u) (ok:Ok u m0 S w) :
 Calls Tryz.prog 125 [vs p0_0,vs p1_1].toArray w fun e w'=>(e = .returned (.bool r) ∧ Ok u m0 S w'):=qpJ Tryz.lays99 p0_0 p1_1 hF ok
def qh3 (u:World) (m0:Mem) (S:Segs) (pb0:Nat) (x0:Parser) (r:(List UInt8) × Parser) (a:Act) (w:World):Prop :=
 Ok u m0 ([(pb0,oc 88 [vs r.2.s,vi r.2.at_,vi r.2.relations,vi r.2.e])] :: S) w ∧ a.defers = [] ∧ RVs Tryz.prog a w [.t 2 (.string (bs r.1))] ∧ r.1.length ≤ LIMS ∧ r.2.s.length ≤ LIMS ∧ InR .i64 r.2.at_ ∧ InR .i64 r.2.relations ∧ InR .i64 r.2.e
theorem qdd (N:Nat) {pb0:Nat} (x0:Parser) (l1:x0.s.length ≤ LIMS) (r2:InR .i64 x0.at_) (r3:InR .i64 x0.relations) (r4:InR .i64 x0.e) {r:(List UInt8) × Parser} (hF:qcn N x0 = some r) (hG:Glob u) (ok:Ok u m0 ([(pb0,oc 88 [vs x0.s,vi x0.at_,vi x0.relations,vi x0.e])] :: S) w) :
  Calls Tryz.prog 94 [vp pb0].toArray w fun e w'=>(e = .returned (.string (bs r.1)) ∧ Ok u m0 ([(pb0,oc 88 [vs r.2.s,vi r.2.at_,vi r.2.relations,vi r.2.e])] :: S) w') ∧ r.1.length ≤ LIMS ∧ r.2.s.length ≤ LIMS ∧ InR .i64 r.2.at_ ∧ InR .i64 r.2.relations ∧ InR .i64 r.2.e:=by
 unfold qcn at hF
 refine en (qh3 u m0 S pb0 x0) r Tryz.func94 rfl rfl rfl (by rintro a w ⟨ok,hd,hrv,h0,h1,h2,h3,h4⟩; exact qat [.t 2 (.string (bs r.1))] hd rfl hrv ⟨⟨rfl,ok⟩,h0,h1,h2,h3,h4⟩) fun fin a E=>sg<|aw E rfl fun a E=>sg ?_
 refine mv E rfl fun a E=>?_
 obtain ⟨r9,e10,hF⟩:=bnd hF
 refine qag E qtV rfl (qh2 N x0 l1 r2 r3 r4 e10 hG ok) rfl rfl ?_
 rintro _ w ⟨⟨rfl,ok⟩,l11,r12,r13,r14⟩
 refine ⟨_,rfl,fun a E=>?_⟩
 refine wn<|wp_seq<|qfD (by kernel_rfl) (by kernel_rfl) ok<|qv E (qah rfl) fun a E=>qv E (qaq rfl) fun a E=>qv E (qan qpi rfl) fun a E=>qv E (qap qaN rfl (qac.own 0 rfl rfl)) fun a E=>?_
 refine qv E (qah rfl) fun a E=>qv E (qaq rfl) fun a E=>qv E (qan qaZ rfl) fun a E=>qv E (qap qaC rfl (qac.own 0 rfl rfl)) fun a E=>?_
 obtain ⟨s15,e16,hF⟩:=bnd hF
 refine qv E (qf9 Tryz.underlying9 e16 rfl ⟨_,rfl⟩ rfl) fun a E=>qv E (qaG rfl) fun a E=>wpQuiet_nil ?_
 intro w ok
 refine qaa<|wp_seq<|wp_block<|sg<|mv E rfl fun a E=>lw E (qet rfl rfl) fun a E=>av E rfl fun a E=>?_
 refine wn<|cf E rfl hF (fun hc17 hF=>?_) fun hc17 hF=>?_
 ·refine sg<|aw E rfl fun a E=>wp_ret<|qax<|qaf ?_
  exact fin hF ⟨ok,E.d,⟨rv_t E rfl,trivial⟩,(show ([]:List UInt8).length ≤ LIMS by decide),l11,r12,r13,r14⟩
 refine sg<|mv E rfl fun a E=>?_
 obtain ⟨c18,e19,hF⟩:=bnd hF
 refine lv E ok (qbB Tryz.underlying9 rfl rfl e19) fun a E=>?_
 obtain ⟨r20,e21,hF⟩:=bnd hF
 refine lc E qso rfl (qjm N (c18.toNat:Int) (InR.byte c18) e21 hG ok) fun w ok a E=>aw E rfl fun a E=>cf E rfl hF (fun hc22 hF=>?_) fun hc22 hF=>?_
 ·refine sg<|mv E rfl fun a E=>?_
  obtain ⟨r23,e24,hF⟩:=bnd hF
  refine qag E qr6 rfl (qlM N s15 (Nat.le_trans (qe5 e16) l11) e24 hG ok) rfl rfl ?_
  rintro _ w ⟨⟨rfl,ok⟩,l25⟩
  refine ⟨_,rfl,fun a E=>?_⟩
  refine aw E rfl fun a E=>wp_ret<|qax<|qaf ?_
  exact fin hF ⟨ok,E.d,⟨rv_t E rfl,trivial⟩,l25,l11,r12,r13,r14⟩
 refine sg<|mv E rfl fun a E=>?_
 obtain ⟨c26,e27,hF⟩:=bnd hF
 refine lv E ok (qbB Tryz.underlying9 rfl rfl e27) fun a E=>?_
 obtain ⟨r28,e29,hF⟩:=bnd hF
 refine lc E qm4 rfl (qfG N (c26.toNat:Int) (InR.byte c26) e29 hG ok) fun w ok a E=>aw E rfl fun a E=>cf E rfl hF (fun hc30 hF=>?_) fun hc30 hF=>?_
 ·refine sg<|mv E rfl fun a E=>?_
  obtain ⟨r31,e32,hF⟩:=bnd hF
  refine qag E qr6 rfl (qlN N s15 (Nat.le_trans (qe5 e16) l11) e32 hG ok) rfl rfl ?_
  rintro _ w ⟨⟨rfl,ok⟩,l33⟩
  refine ⟨_,rfl,fun a E=>?_⟩
  refine aw E rfl fun a E=>wp_ret<|qax<|qaf ?_
  exact fin hF ⟨ok,E.d,⟨rv_t E rfl,trivial⟩,l33,l11,r12,r13,r14⟩
 refine wp_skip<|qal<|qaa<|wp_seq<|sg<|qbs (R:=pS) (xo:=[.const (vs ([46,46])),.const (vs ([33,61])),.const (vs ([37])),.const (vs ([61])),.const (vs ([44]))]) (xs:=([[46,46],[33,61],[37],[61],[44]]:List (List UInt8))) E ok qbe qdB rfl ⟨⟨_,rfl,rfl,(qc3 (show ([46,46]:List UInt8).length ≤ LIMS by decide))⟩,⟨_,rfl,rfl,(qc3 (show ([33,61]:List UInt8).length ≤ LIMS by decide))⟩,⟨_,rfl,rfl,(qc3 (show ([37]:List UInt8).length ≤ LIMS by decide))⟩,⟨_,rfl,rfl,(qc3 (show ([61]:List UInt8).length ≤ LIMS by decide))⟩,⟨_,rfl,rfl,(qc3 (show ([44]:List UInt8).length ≤ LIMS by decide))⟩,trivial⟩ rfl rfl rfl rfl fun c34 M35 a w E ok h36=>lv E ok (qhJ qbe h36 rfl) fun a E=>?_
 refine mv E rfl fun a E=>wn<|wp_block ?_
 obtain ⟨o38,hL,hF⟩:=bnd hF
 refine qaI _ (fun (s:Int) a w=>Ok u m0 (M35 :: [(pb0,oc 88 [vs r9.s,vi r9.at_,vi r9.relations,vi r9.e])] :: S) w ∧ Env 43 a [(3,vs s15),(32,c34),(33,(vi (([[46,46],[33,61],[37],[61],[44]]:List (List UInt8)).length:Int))),(34,vi s)] ∧ InR .i64 s) (fun (b:(Unit ⊕ ((List UInt8) × Parser))) e a w=>(Sum.elim (fun b57=>e = (.exit 1) ∧ Ok u m0 (M35 :: [(pb0,oc 88 [vs r9.s,vi r9.at_,vi r9.relations,vi r9.e])] :: S) w ∧ Env 43 a []) (fun b58=>e = .ret ∧ qh3 u m0 S pb0 x0 b58 a w)) b) ?_ ?_ N _ a w hL ⟨ok,E.keep [3,32,33,34],(ir 0)⟩
 rotate_left
 ·intro e a w _ hO
  rcases o38 with o38 | o38
  rotate_left
  ·replace hF:=qa7 hF
   obtain ⟨rfl,hret⟩:=hO
   refine qax<|qaf ?_
   exact fin hF hret
  replace hF:=qa6 hF
  obtain ⟨rfl,ok,E⟩:=hO
  refine qaK<|qaa<|sg<|aw E rfl fun a E=>wp_ret ?_
  exact fin hF ⟨ok.drop,E.d,⟨rv_t E rfl,trivial⟩,(show ([]:List UInt8).length ≤ LIMS by decide),l11,r12,r13,r14⟩
 rintro x_40 a w r ⟨ok,E,r41⟩ hF
 replace hF:qgb N r9 s15 x_40 = some r:=hF
 unfold qgb at hF
 refine sg<|lw E (qaF rfl rfl) fun a E=>wn<|wp_seq<|cf E rfl hF (fun hc42 hF=>?_) fun hc42 hF=>?_
 rotate_left
 ·refine wp_exit<|qaB ?_
  obtain rfl:=sj hF
  exact so (sl ⟨rfl,⟨ok,E.keep []⟩⟩)
 refine wp_skip<|qaa<|wp_seq<|wp_block<|sg ?_
 obtain ⟨x43,e44,hF⟩:=bnd hF
 obtain ⟨b45,o46,hp47,yy48⟩:=qdZ qbe h36 e44 (P:=Tryz.prog) (X:=.tmp 32) (I:=.tmp 34) (kd:=.i64) (qak E rfl) (qak E rfl)
 refine lv E ok (yy48 _ _) fun a E=>?_
 obtain ⟨es49,hl50,rr51,hh52⟩:=qgs h36 e44 hp47 (by decide)
 obtain ⟨rfl,l53⟩:=rr51
 refine lv E ok (qap qaN rfl (hh52 _ _ _ 0 rfl)) fun a E=>aw E rfl fun a E=>sg<|mv E rfl fun a E=>mv E rfl fun a E=>?_
 obtain ⟨r54,e55,hF⟩:=bnd hF
 refine lc E qvt rfl (qmo N s15 (Nat.le_trans (qe5 e16) l11) x43 l53 e55 hG ok) fun w ok a E=>wn<|cf E rfl hF (fun hc56 hF=>?_) fun hc56 hF=>?_
 rotate_left
 ·refine wp_skip<|qal<|qaa<|qab<|lw E (qaD rfl rfl (InR.inc r41 (ORow.InR h36) hc42)) fun a E=>mv E rfl fun a E=>wpList_nil ?_
  obtain rfl:=sj hF
  exact qau ⟨ok,E.keep [3,32,33,34],(InR.inc r41 (ORow.InR h36) hc42)⟩
 refine sg<|mv E rfl fun a E=>aw E rfl fun a E=>wp_ret<|qax ?_
 refine qaf ?_
 obtain rfl:=sj hF
 exact so (sr ⟨rfl,⟨ok.drop,E.d,⟨rv_t E rfl,trivial⟩,l53,l11,r12,r13,r14⟩⟩)
def qkq (u:World) (m0:Mem) (S:Segs) (pb0:Nat) (x0:Parser) (r:Bool × Parser) (a:Act) (w:World):Prop :=
 Ok u m0 ([(pb0,oc 88 [vs r.2.s,vi r.2.at_,vi r.2.relations,vi r.2.e])] :: S) w ∧ a.defers = [] ∧ RVs Tryz.prog a w [.t 4 (.bool r.1)] ∧ r.2.s.length ≤ LIMS ∧ InR .i64 r.2.at_ ∧ InR .i64 r.2.relations ∧ InR .i64 r.2.e
theorem qcp (N:Nat) (t_1:List UInt8) (lt_1:t_1.length ≤ LIMS) {pb0:Nat} (x0:Parser) (l1:x0.s.length ≤ LIMS) (r2:InR .i64 x0.at_) (r3:InR .i64 x0.relations) (r4:InR .i64 x0.e) {r:Bool × Parser} (hF:qbP N t_1 x0 = some r) (hG:Glob u) (ok:Ok u m0 ([(pb0,oc 88 [vs x0.s,vi x0.at_,vi x0.relations,vi x0.e])] :: S) w) :
  Calls Tryz.prog 68 [vp pb0,vs t_1].toArray w fun e w'=>(e = .returned (.bool r.1) ∧ Ok u m0 ([(pb0,oc 88 [vs r.2.s,vi r.2.at_,vi r.2.relations,vi r.2.e])] :: S) w') ∧ r.2.s.length ≤ LIMS ∧ InR .i64 r.2.at_ ∧ InR .i64 r.2.relations ∧ InR .i64 r.2.e:=by
 unfold qbP at hF
 refine en (qkq u m0 S pb0 x0) r Tryz.func68 rfl rfl rfl (by rintro a w ⟨ok,hd,hrv,h0,h1,h2,h3⟩; exact qat [.t 4 (.bool r.1)] hd rfl hrv ⟨⟨rfl,ok⟩,h0,h1,h2,h3⟩) fun fin a E=>sg<|aw E rfl fun a E=>wp_seq<|wp_seq ?_
 refine qab<|mv E rfl fun a E=>lw E (qaq rfl) fun a E=>fv E qb8 rfl fun a E=>ld E ok qc4 0 rfl rfl rfl fun a E=>lw E (qaW rfl rfl) fun a E=>mv E rfl fun a E=>qav (x0.e != 0) (fun hc9=>?_) (fun hc9=>?_)
 ·replace hF:=qas hc9 hF
  replace E:=E.upd 10 hc9 rfl
  refine ls E fun a E=>ls E fun a E=>ls E fun a E=>ls E fun a E=>pt E rfl rfl fun a E=>wn<|c_if E rfl (fun _=>?_) (fun h=>by cases h)
  refine sg<|aw E rfl fun a E=>wp_ret<|qaf ?_
  exact fin hF ⟨ok,E.d,⟨rv_t E rfl,trivial⟩,l1,r2,r3,r4⟩
 replace hF:=qar hc9 hF
 replace E:=E.upd 10 hc9 rfl
 refine mv E rfl fun a E=>?_
 obtain ⟨r10,e11,hF⟩:=bnd hF
 refine qag E qnj rfl (qdd N x0 l1 r2 r3 r4 e11 hG ok) rfl rfl ?_
 rintro _ w ⟨⟨rfl,ok⟩,l12,l13,r14,r15,r16⟩
 refine ⟨_,rfl,fun a E=>?_⟩
 refine mv E rfl fun a E=>lw E (qkc rfl rfl) fun a E=>pf E rfl rfl fun a E=>wn<|cf E rfl hF (fun hc17 hF=>?_) fun hc17 hF=>?_
 ·refine sg<|aw E rfl fun a E=>wp_ret<|qaf ?_
  exact fin hF ⟨ok,E.d,⟨rv_t E rfl,trivial⟩,l13,r14,r15,r16⟩
 refine wp_skip<|qaa<|sg<|mv E rfl fun a E=>lw E (qaq rfl) fun a E=>fv E qaZ rfl fun a E=>ld E ok qaC 0 rfl rfl rfl fun a E=>?_
 refine mv E rfl fun a E=>lw E (qaL Tryz.underlying9 rfl) fun a E=>lw E (qbc rfl rfl) fun a E=>lw E (qaq rfl) fun a E=>fv E qaZ rfl fun a E=>qae E ok 0 rfl rfl rfl qbO rfl rfl ⟨rfl,trivial⟩ rfl rfl fun w ok=>wn ?_
 refine sg<|aw E rfl fun a E=>wp_ret ?_
 exact fin hF ⟨ok,E.d,⟨rv_t E rfl,trivial⟩,l13,(InR.wrap _ _),r15,r16⟩
def qkm (u:World) (m0:Mem) (S:Segs) (pb0:Nat) (x0:Parser) (r:Parser) (a:Act) (w:World):Prop :=
 Ok u m0 ([(pb0,oc 88 [vs r.s,vi r.at_,vi r.relations,vi r.e])] :: S) w ∧ a.defers = [] ∧ RVs Tryz.prog a w [] ∧ r.s.length ≤ LIMS ∧ InR .i64 r.at_ ∧ InR .i64 r.relations ∧ InR .i64 r.e
theorem qaw (N:Nat) (e_1:Int) (re_1:InR .i64 e_1) {pb0:Nat} (x0:Parser) (l1:x0.s.length ≤ LIMS) (r2:InR .i64 x0.at_) (r3:InR .i64 x0.relations) (r4:InR .i64 x0.e) {r:Parser} (hF:qay N e_1 x0 = some r) (hG:Glob u) (ok:Ok u m0 ([(pb0,oc 88 [vs x0.s,vi x0.at_,vi x0.relations,vi x0.e])] :: S) w) :
  Calls Tryz.prog 71 [vp pb0,vi e_1].toArray w fun e w'=>(e = .returned (.tuple [].toArray) ∧ Ok u m0 ([(pb0,oc 88 [vs r.s,vi r.at_,vi r.relations,vi r.e])] :: S) w') ∧ r.s.length ≤ LIMS ∧ InR .i64 r.at_ ∧ InR .i64 r.relations ∧ InR .i64 r.e:=by
 unfold qay at hF
 refine en (qkm u m0 S pb0 x0) r Tryz.func71 rfl rfl rfl (by rintro a w ⟨ok,hd,hrv,h0,h1,h2,h3⟩; exact qat [] hd rfl hrv ⟨⟨rfl,ok⟩,h0,h1,h2,h3⟩) fun fin a E=>sg<|mv E rfl fun a E=>lw E (qaq rfl) fun a E=>fv E qb8 rfl fun a E=>ld E ok qc4 0 rfl rfl rfl fun a E=>lw E (qaM rfl rfl) fun a E=>?_
 refine wn<|cf E rfl hF (fun hc9 hF=>?_) fun hc9 hF=>?_
 rotate_left
 ·refine wp_skip ?_
  exact fin hF ⟨ok,E.d,trivial,l1,r2,r3,r4⟩
 refine qab<|mv E rfl fun a E=>mv E rfl fun a E=>lw E (qaq rfl) fun a E=>fv E qb8 rfl fun a E=>qae E ok 0 rfl rfl rfl qvA rfl rfl ⟨rfl,trivial⟩ rfl rfl fun w ok=>wpList_nil ?_
 exact fin hF ⟨ok,E.d,trivial,l1,r2,r3,re_1⟩
theorem qor (N:Nat) (p0_0:List UInt8) (lp0_0:p0_0.length ≤ LIMS) (p1_1:List UInt8) (lp1_1:p1_1.length ≤ LIMS) {r:Int} (hF:strings_Index N p0_0 p1_1 = some r) (hG:Glob u) (ok:Ok u m0 S w) :
  Calls Tryz.prog 95 [vs p0_0,vs p1_1].toArray w fun e w'=>(e = .returned (.int .i64 r) ∧ Ok u m0 S w') ∧ InR .i64 r:=by
 obtain ⟨mx,hmx⟩:=hG
 exact qsS Tryz.lays143 hmx p0_0 p1_1 hF ok
def qkl (u:World) (m0:Mem) (S:Segs) (pb0:Nat) (x0:Parser) (r:(List UInt8) × Parser) (a:Act) (w:World):Prop :=
 Ok u m0 ([(pb0,oc 88 [vs r.2.s,vi r.2.at_,vi r.2.relations,vi r.2.e])] :: S) w ∧ a.defers = [] ∧ RVs Tryz.prog a w [.t 4 (.string (bs r.1))] ∧ r.1.length ≤ LIMS ∧ r.2.s.length ≤ LIMS ∧ InR .i64 r.2.at_ ∧ InR .i64 r.2.relations ∧ InR .i64 r.2.e
theorem qeP (N:Nat) (vl_1:Value) (l_1:List (List UInt8)) (hl_1:(pL 1 pS) m0 [vl_1] l_1) {pb0:Nat} (x0:Parser) (l1:x0.s.length ≤ LIMS) (r2:InR .i64 x0.at_) (r3:InR .i64 x0.relations) (r4:InR .i64 x0.e) {r:(List UInt8) × Parser} (hF:qdC N l_1 x0 = some r) (hG:Glob u) (ok:Ok u m0 ([(pb0,oc 88 [vs x0.s,vi x0.at_,vi x0.relations,vi x0.e])] :: S) w) :
  Calls Tryz.prog 96 [vp pb0,vl_1].toArray w fun e w'=>(e = .returned (.string (bs r.1)) ∧ Ok u m0 ([(pb0,oc 88 [vs r.2.s,vi r.2.at_,vi r.2.relations,vi r.2.e])] :: S) w') ∧ r.1.length ≤ LIMS ∧ r.2.s.length ≤ LIMS ∧ InR .i64 r.2.at_ ∧ InR .i64 r.2.relations ∧ InR .i64 r.2.e:=by
 unfold qdC at hF
 refine en (qkl u m0 S pb0 x0) r Tryz.func96 rfl rfl rfl (by rintro a w ⟨ok,hd,hrv,h0,h1,h2,h3,h4⟩; exact qat [.t 4 (.string (bs r.1))] hd rfl hrv ⟨⟨rfl,ok⟩,h0,h1,h2,h3,h4⟩) fun fin a E=>sg<|aw E rfl fun a E=>sg ?_
 refine mv E rfl fun a E=>?_
 obtain ⟨r9,e10,hF⟩:=bnd hF
 refine qag E qnj rfl (qdd N x0 l1 r2 r3 r4 e10 hG ok) rfl rfl ?_
 rintro _ w ⟨⟨rfl,ok⟩,l11,l12,r13,r14,r15⟩
 refine ⟨_,rfl,fun a E=>?_⟩
 refine aw E rfl fun a E=>wp_seq<|sg<|mv E rfl fun a E=>lw E (qaq rfl) fun a E=>?_
 refine fv E qb8 rfl fun a E=>ld E ok qc4 0 rfl rfl rfl fun a E=>lw E (qaM rfl rfl) fun a E=>mv E rfl fun a E=>qav (r9.2.e == 0) (fun hc16=>?_) (fun hc16=>?_)
 rotate_left
 ·replace hF:=qar hc16 hF
  replace E:=E.upd 13 hc16 rfl
  refine ls E fun a E=>ls E fun a E=>ls E fun a E=>ls E fun a E=>pf E rfl rfl fun a E=>wn<|c_if E rfl (fun h=>by cases h) (fun _=>?_)
  refine wp_skip<|qaa<|wp_seq<|sg<|mv E rfl fun a E=>lw E (qaq rfl) fun a E=>fv E qb8 rfl fun a E=>?_
  refine ld E ok qc4 0 rfl rfl rfl fun a E=>lw E (qaW rfl rfl) fun a E=>wn<|cf E rfl hF (fun hc36 hF=>?_) fun hc36 hF=>?_
  ·refine sg<|aw E rfl fun a E=>wp_ret<|qaf ?_
   exact fin hF ⟨ok,E.d,⟨rv_t E rfl,trivial⟩,(show ([]:List UInt8).length ≤ LIMS by decide),l12,r13,r14,r15⟩
  refine wp_skip<|qaa<|sg<|mv E rfl fun a E=>lw E (qaq rfl) fun a E=>fv E qaZ rfl fun a E=>ld E ok qaC 0 rfl rfl rfl fun a E=>?_
  refine mv E rfl fun a E=>lw E (qaL Tryz.underlying9 rfl) fun a E=>lw E (qbc rfl rfl) fun a E=>lw E (qaq rfl) fun a E=>fv E qaZ rfl fun a E=>qae E ok 0 rfl rfl rfl qbO rfl rfl ⟨rfl,trivial⟩ rfl rfl fun w ok=>wn ?_
  refine sg<|mv E rfl fun a E=>aw E rfl fun a E=>wp_ret ?_
  exact fin hF ⟨ok,E.d,⟨rv_t E rfl,trivial⟩,l11,l12,(InR.wrap _ _),r14,r15⟩
 replace hF:=qas hc16 hF
 replace E:=E.upd 13 hc16 rfl
 refine mv E rfl fun a E=>mv E rfl fun a E=>?_
 obtain ⟨r17,e18,hF⟩:=bnd hF
 refine lc E qt3 rfl (qgo N _ l_1 hl_1 r9.1 l11 e18 hG ok) fun w ok a E=>lw E (qaS rfl) fun a E=>pt E rfl rfl fun a E=>wn ?_
 obtain ⟨o19,hJ,hF⟩:=bnd hF
 refine qaV (Q':=fun e a w=>e = .normal ∧ Ok u m0 ([(pb0,oc 88 [vs o19.s,vi o19.at_,vi o19.relations,vi o19.e])] :: S) w ∧ Env 36 a [(0,vp pb0),(5,vs r9.1)] ∧ o19.s.length ≤ LIMS ∧ InR .i64 o19.at_ ∧ InR .i64 o19.relations ∧ InR .i64 o19.e) ?_ ?_
 ·replace hF:=hJ
  clear hJ
  refine cf E rfl hF (fun hc24 hF=>?_) fun hc24 hF=>?_
  rotate_left
  ·refine wp_skip ?_
   obtain rfl:=sj hF
   exact ⟨rfl,⟨ok,E.keep [0,5],l12,r13,r14,r15⟩⟩
  refine qab<|mv E rfl fun a E=>?_
  obtain ⟨r25,e26,hF⟩:=bnd hF
  refine qag E qcP rfl (qaw N 3 (ir 3) r9.2 l12 r13 r14 r15 e26 hG ok) rfl rfl ?_
  rintro _ w ⟨⟨rfl,ok⟩,l27,r28,r29,r30⟩
  refine ⟨_,rfl,fun a E=>?_⟩
  refine wpList_nil ?_
  obtain rfl:=sj hF
  exact ⟨rfl,⟨ok,E.keep [0,5],l27,r28,r29,r30⟩⟩
 clear hJ
 intro e a w hO
 obtain ⟨rfl,ok,E,l31,r32,r33,r34⟩:=hO
 refine qaa<|wp_seq<|sg<|mv E rfl fun a E=>lw E (qaq rfl) fun a E=>fv E qb8 rfl fun a E=>ld E ok qc4 0 rfl rfl rfl fun a E=>?_
 refine lw E (qaW rfl rfl) fun a E=>wn<|cf E rfl hF (fun hc35 hF=>?_) fun hc35 hF=>?_
 ·refine sg<|aw E rfl fun a E=>wp_ret<|qaf ?_
  exact fin hF ⟨ok,E.d,⟨rv_t E rfl,trivial⟩,(show ([]:List UInt8).length ≤ LIMS by decide),l31,r32,r33,r34⟩
 refine wp_skip<|qaa<|sg<|mv E rfl fun a E=>lw E (qaq rfl) fun a E=>fv E qaZ rfl fun a E=>ld E ok qaC 0 rfl rfl rfl fun a E=>?_
 refine mv E rfl fun a E=>lw E (qaL Tryz.underlying9 rfl) fun a E=>lw E (qbc rfl rfl) fun a E=>lw E (qaq rfl) fun a E=>fv E qaZ rfl fun a E=>qae E ok 0 rfl rfl rfl qbO rfl rfl ⟨rfl,trivial⟩ rfl rfl fun w ok=>wn ?_
 refine sg<|mv E rfl fun a E=>aw E rfl fun a E=>wp_ret ?_
 exact fin hF ⟨ok,E.d,⟨rv_t E rfl,trivial⟩,l11,l31,(InR.wrap _ _),r33,r34⟩
def qiT (u:World) (m0:Mem) (S:Segs) (pb0:Nat) (x0:Int) (r:Int) (a:Act) (w:World):Prop :=
 Ok u m0 ([(pb0,oc 3 [vi x0])] :: S) w ∧ a.defers = [] ∧ RVs Tryz.prog a w [.t 3 (.int .i64 r)] ∧ InR .i64 r
theorem qcK (N:Nat) (n_0:Int) (rn_0:InR .i64 n_0) {pb0:Nat} (x0:Int) (r1:InR .i64 x0) {r:Int} (hF:qbL N n_0 x0 = some r) (hG:Glob u) (ok:Ok u m0 ([(pb0,oc 3 [vi x0])] :: S) w) :
  Calls Tryz.prog 98 [vi n_0,vp pb0].toArray w fun e w'=>(e = .returned (.int .i64 r) ∧ Ok u m0 ([(pb0,oc 3 [vi x0])] :: S) w') ∧ InR .i64 r:=by
 unfold qbL at hF
 refine en (qiT u m0 S pb0 x0) r Tryz.func98 rfl rfl rfl (by rintro a w ⟨ok,hd,hrv,h0⟩; exact qat [.t 3 (.int .i64 r)] hd rfl hrv ⟨⟨rfl,ok⟩,h0⟩) fun fin a E=>sg<|aw E rfl fun a E=>wp_seq<|wp_seq ?_
 refine qab<|ld E ok qaC 0 rfl rfl rfl fun a E=>mv E rfl fun a E=>?_
 obtain ⟨r2,e3,hF⟩:=bnd hF
 refine lc E qua rfl (qip N x0 r1 n_0 rn_0 e3 hG ok) fun w ok a E=>lw E (qaS rfl) fun a E=>wn<|cf E rfl hF (fun hc4 hF=>?_) fun hc4 hF=>?_
 ·refine sg<|aw E rfl fun a E=>wp_ret<|qaf ?_
  exact fin hF ⟨ok,E.d,⟨rv_t E rfl,trivial⟩,(ir 2)⟩
 refine wp_skip<|qaa<|sg<|aw E rfl fun a E=>wp_ret ?_
 exact fin hF ⟨ok,E.d,⟨rv_t E rfl,trivial⟩,(ir 0)⟩
def qiU (u:World) (m0:Mem) (S:Segs) (pb0:Nat) (pb1:Nat) (x0:Parser) (x1:Int) (r:Int × Parser) (a:Act) (w:World):Prop :=
 Ok u m0 ([(pb0,oc 88 [vs r.2.s,vi r.2.at_,vi r.2.relations,vi r.2.e])] :: [(pb1,oc 3 [vi x1])] :: S) w ∧ a.defers = [] ∧ RVs Tryz.prog a w [.t 4 (.int .i64 r.1)] ∧ InR .i64 r.1 ∧ r.2.s.length ≤ LIMS ∧ InR .i64 r.2.at_ ∧ InR .i64 r.2.relations ∧ InR .i64 r.2.e
theorem qgJ (N:Nat) {pb0:Nat} (x0:Parser) (l1:x0.s.length ≤ LIMS) (r2:InR .i64 x0.at_) (r3:InR .i64 x0.relations) (r4:InR .i64 x0.e) {pb1:Nat} (x1:Int) (r5:InR .i64 x1) {r:Int × Parser} (hF:qd9 N x0 x1 = some r) (hG:Glob u) (ok:Ok u m0 ([(pb0,oc 88 [vs x0.s,vi x0.at_,vi x0.relations,vi x0.e])] :: [(pb1,oc 3 [vi x1])] :: S) w) :
  Calls Tryz.prog 97 [vp pb0,Value.func (.func 98) #[] #[.pointer (some ⟨pb1,0,none⟩)]].toArray w fun e w'=>(e = .returned (.int .i64 r.1) ∧ Ok u m0 ([(pb0,oc 88 [vs r.2.s,vi r.2.at_,vi r.2.relations,vi r.2.e])] :: [(pb1,oc 3 [vi x1])] :: S) w') ∧ InR .i64 r.1 ∧ r.2.s.length ≤ LIMS ∧ InR .i64 r.2.at_ ∧ InR .i64 r.2.relations ∧ InR .i64 r.2.e:=by
 unfold qd9 at hF
 refine en (qiU u m0 S pb0 pb1 x0 x1) r Tryz.func97 rfl rfl rfl (by rintro a w ⟨ok,hd,hrv,h0,h1,h2,h3,h4⟩; exact qat [.t 4 (.int .i64 r.1)] hd rfl hrv ⟨⟨rfl,ok⟩,h0,h1,h2,h3,h4⟩) fun fin a E=>sg<|aw E rfl fun a E=>sg ?_
 refine mv E rfl fun a E=>?_
 obtain ⟨r10,e11,hF⟩:=bnd hF
 refine qag E qnj rfl (qdd N x0 l1 r2 r3 r4 e11 hG ok) rfl rfl ?_
 rintro _ w ⟨⟨rfl,ok⟩,l12,l13,r14,r15,r16⟩
 refine ⟨_,rfl,fun a E=>?_⟩
 refine aw E rfl fun a E=>wp_seq<|sg<|mv E rfl fun a E=>lw E (qet rfl rfl) fun a E=>?_
 refine mv E rfl fun a E=>qav (r10.1 == ([])) (fun hc17=>?_) (fun hc17=>?_)
 ·as_aux_lemma =>
   replace hF:=qas hc17 hF
   replace E:=E.upd 13 hc17 rfl
   refine ls E fun a E=>ls E fun a E=>ls E fun a E=>ls E fun a E=>pt E rfl rfl fun a E=>mv E rfl fun a E=>ls E fun a E=>ls E fun a E=>?_
   refine ls E fun a E=>pt E rfl rfl fun a E=>mv E rfl fun a E=>ls E fun a E=>ls E fun a E=>ls E fun a E=>ls E fun a E=>ls E fun a E=>?_
   refine ls E fun a E=>ls E fun a E=>ls E fun a E=>pt E rfl rfl fun a E=>wn<|c_if E rfl (fun _=>?_) (fun h=>by cases h)
   refine qab<|mv E rfl fun a E=>?_
   obtain ⟨r18,e19,hF⟩:=bnd hF
   refine qag E qcP rfl (qaw N 3 (ir 3) r10.2 l13 r14 r15 r16 e19 hG ok) rfl rfl ?_
   rintro _ w ⟨⟨rfl,ok⟩,l20,r21,r22,r23⟩
   refine ⟨_,rfl,fun a E=>?_⟩
   refine wn<|wp_seq<|sg<|mv E rfl fun a E=>lw E (qaq rfl) fun a E=>fv E qb8 rfl fun a E=>?_
   refine ld E ok qc4 0 rfl rfl rfl fun a E=>lw E (qaW rfl rfl) fun a E=>wn<|cf E rfl hF (fun hc24 hF=>?_) fun hc24 hF=>?_
   ·refine sg<|aw E rfl fun a E=>wp_ret<|qaf ?_
    exact fin hF ⟨ok,E.d,⟨rv_t E rfl,trivial⟩,(ir 0),l20,r21,r22,r23⟩
   refine wp_skip<|qaa<|sg<|mv E rfl fun a E=>?_
   obtain ⟨r25,e26,hF⟩:=bnd hF
   refine qag E qfK rfl (qbu N r10.1 l12 e26 hG ok) rfl rfl ?_
   rintro _ w ⟨⟨rfl,ok⟩,r27⟩
   refine ⟨_,rfl,fun a E=>?_⟩
   refine mv E rfl fun a E=>lw E (qam rfl rfl) fun a E=>lw E (qam rfl rfl) fun a E=>av E rfl fun a E=>aw E rfl fun a E=>wp_seq ?_
   refine sg<|mv E rfl fun a E=>mv E rfl fun a E=>?_
   obtain ⟨r28,e29,hF⟩:=bnd hF
   replace ok:Ok u m0 ([(pb1,oc 3 [vi x1])] :: [(pb0,oc 88 [vs r18.s,vi r18.at_,vi r18.relations,vi r18.e])] :: S) w:=(ok.pk 2 [1,0] rfl (by decide))
   refine qcc E rfl qoa rfl (qcK N r25.1 r27 x1 r5 e29 hG ok) rfl rfl ?_
   rintro _ w ⟨⟨rfl,ok⟩,r30⟩
   refine ⟨_,rfl,fun a E=>?_⟩
   refine aw E rfl fun a E=>sg<|mv E rfl fun a E=>lw E (qaW rfl rfl) fun a E=>wpList_nil ?_
   refine qaa<|cf E rfl hF (fun hc31 hF=>?_) fun hc31 hF=>?_
   ·refine sg<|mv E rfl fun a E=>mv E rfl fun a E=>?_
    obtain ⟨r32,e33,hF⟩:=bnd hF
    replace ok:Ok u m0 ([(pb0,oc 88 [vs r18.s,vi r18.at_,vi r18.relations,vi r18.e])] :: [(pb1,oc 3 [vi x1])] :: S) w:=(ok.pk 2 [1,0] rfl (by decide))
    refine qag E qcP rfl (qaw N r28 r30 r18 l20 r21 r22 r23 e33 hG ok) rfl rfl ?_
    rintro _ w ⟨⟨rfl,ok⟩,l34,r35,r36,r37⟩
    refine ⟨_,rfl,fun a E=>?_⟩
    refine wn<|sg<|aw E rfl fun a E=>wp_ret ?_
    refine qaf ?_
    exact fin hF ⟨ok,E.d,⟨rv_t E rfl,trivial⟩,(ir 0),l34,r35,r36,r37⟩
   refine wp_skip<|qaa<|sg<|mv E rfl fun a E=>lw E (qaq rfl) fun a E=>fv E qaZ rfl fun a E=>ld E ok qaC 1 rfl rfl rfl fun a E=>?_
   refine mv E rfl fun a E=>lw E (qaL Tryz.underlying9 rfl) fun a E=>lw E (qbc rfl rfl) fun a E=>lw E (qaq rfl) fun a E=>fv E qaZ rfl fun a E=>qae E ok 1 rfl rfl rfl qbO rfl rfl ⟨rfl,trivial⟩ rfl rfl fun w ok=>wn ?_
   refine sg<|mv E rfl fun a E=>aw E rfl fun a E=>wp_ret ?_
   exact fin hF ⟨(ok.pk 2 [1,0] rfl (by decide)),E.d,⟨rv_t E rfl,trivial⟩,r27,l20,(InR.wrap _ _),r22,r23⟩
 replace hF:=qar hc17 hF
 replace E:=E.upd 13 hc17 rfl
 refine mv E rfl fun a E=>?_
 obtain ⟨c38,e39,hF⟩:=bnd hF
 refine lv E ok (qbB Tryz.underlying9 rfl rfl e39) fun a E=>?_
 obtain ⟨r40,e41,hF⟩:=bnd hF
 refine lc E qm4 rfl (qfG N (c38.toNat:Int) (InR.byte c38) e41 hG ok) fun w ok a E=>lw E (qaS rfl) fun a E=>pf E rfl rfl fun a E=>mv E rfl fun a E=>qav (!r40) (fun hc42=>?_) (fun hc42=>?_)
 ·as_aux_lemma =>
   replace hF:=qas hc42 hF
   replace E:=E.upd 19 hc42 rfl
   refine ls E fun a E=>ls E fun a E=>ls E fun a E=>pt E rfl rfl fun a E=>mv E rfl fun a E=>ls E fun a E=>ls E fun a E=>ls E fun a E=>?_
   refine ls E fun a E=>ls E fun a E=>ls E fun a E=>ls E fun a E=>ls E fun a E=>pt E rfl rfl fun a E=>wn ?_
   refine c_if E rfl (fun _=>?_) (fun h=>by cases h)
   refine qab<|mv E rfl fun a E=>?_
   obtain ⟨r43,e44,hF⟩:=bnd hF
   refine qag E qcP rfl (qaw N 3 (ir 3) r10.2 l13 r14 r15 r16 e44 hG ok) rfl rfl ?_
   rintro _ w ⟨⟨rfl,ok⟩,l45,r46,r47,r48⟩
   refine ⟨_,rfl,fun a E=>?_⟩
   refine wn<|wp_seq<|sg<|mv E rfl fun a E=>lw E (qaq rfl) fun a E=>fv E qb8 rfl fun a E=>?_
   refine ld E ok qc4 0 rfl rfl rfl fun a E=>lw E (qaW rfl rfl) fun a E=>wn<|cf E rfl hF (fun hc49 hF=>?_) fun hc49 hF=>?_
   ·refine sg<|aw E rfl fun a E=>wp_ret<|qaf ?_
    exact fin hF ⟨ok,E.d,⟨rv_t E rfl,trivial⟩,(ir 0),l45,r46,r47,r48⟩
   refine wp_skip<|qaa<|sg<|mv E rfl fun a E=>?_
   obtain ⟨r50,e51,hF⟩:=bnd hF
   refine qag E qfK rfl (qbu N r10.1 l12 e51 hG ok) rfl rfl ?_
   rintro _ w ⟨⟨rfl,ok⟩,r52⟩
   refine ⟨_,rfl,fun a E=>?_⟩
   refine mv E rfl fun a E=>lw E (qam rfl rfl) fun a E=>lw E (qam rfl rfl) fun a E=>av E rfl fun a E=>aw E rfl fun a E=>wp_seq ?_
   refine sg<|mv E rfl fun a E=>mv E rfl fun a E=>?_
   obtain ⟨r53,e54,hF⟩:=bnd hF
   replace ok:Ok u m0 ([(pb1,oc 3 [vi x1])] :: [(pb0,oc 88 [vs r43.s,vi r43.at_,vi r43.relations,vi r43.e])] :: S) w:=(ok.pk 2 [1,0] rfl (by decide))
   refine qcc E rfl qoa rfl (qcK N r50.1 r52 x1 r5 e54 hG ok) rfl rfl ?_
   rintro _ w ⟨⟨rfl,ok⟩,r55⟩
   refine ⟨_,rfl,fun a E=>?_⟩
   refine aw E rfl fun a E=>sg<|mv E rfl fun a E=>lw E (qaW rfl rfl) fun a E=>wpList_nil ?_
   refine qaa<|cf E rfl hF (fun hc56 hF=>?_) fun hc56 hF=>?_
   ·refine sg<|mv E rfl fun a E=>mv E rfl fun a E=>?_
    obtain ⟨r57,e58,hF⟩:=bnd hF
    replace ok:Ok u m0 ([(pb0,oc 88 [vs r43.s,vi r43.at_,vi r43.relations,vi r43.e])] :: [(pb1,oc 3 [vi x1])] :: S) w:=(ok.pk 2 [1,0] rfl (by decide))
    refine qag E qcP rfl (qaw N r53 r55 r43 l45 r46 r47 r48 e58 hG ok) rfl rfl ?_
    rintro _ w ⟨⟨rfl,ok⟩,l59,r60,r61,r62⟩
    refine ⟨_,rfl,fun a E=>?_⟩
    refine wn<|sg<|aw E rfl fun a E=>wp_ret ?_
    refine qaf ?_
    exact fin hF ⟨ok,E.d,⟨rv_t E rfl,trivial⟩,(ir 0),l59,r60,r61,r62⟩
   refine wp_skip<|qaa<|sg<|mv E rfl fun a E=>lw E (qaq rfl) fun a E=>fv E qaZ rfl fun a E=>ld E ok qaC 1 rfl rfl rfl fun a E=>?_
   refine mv E rfl fun a E=>lw E (qaL Tryz.underlying9 rfl) fun a E=>lw E (qbc rfl rfl) fun a E=>lw E (qaq rfl) fun a E=>fv E qaZ rfl fun a E=>qae E ok 1 rfl rfl rfl qbO rfl rfl ⟨rfl,trivial⟩ rfl rfl fun w ok=>wn ?_
   refine sg<|mv E rfl fun a E=>aw E rfl fun a E=>wp_ret ?_
   exact fin hF ⟨(ok.pk 2 [1,0] rfl (by decide)),E.d,⟨rv_t E rfl,trivial⟩,r52,l45,(InR.wrap _ _),r47,r48⟩
 replace hF:=qar hc42 hF
 replace E:=E.upd 19 hc42 rfl
 refine mv E rfl fun a E=>lw E (qaL Tryz.underlying9 rfl) fun a E=>lw E (qa4 rfl rfl) fun a E=>pf E rfl rfl fun a E=>mv E rfl fun a E=>qav (decide ((r10.1.length:Int) > 3)) (fun hc63=>?_) (fun hc63=>?_)
 ·as_aux_lemma =>
   replace hF:=qas hc63 hF
   replace E:=E.upd 24 hc63 rfl
   refine ls E fun a E=>ls E fun a E=>ls E fun a E=>ls E fun a E=>ls E fun a E=>ls E fun a E=>ls E fun a E=>ls E fun a E=>?_
   refine pt E rfl rfl fun a E=>wn<|c_if E rfl (fun _=>?_) (fun h=>by cases h)
   refine qab<|mv E rfl fun a E=>?_
   obtain ⟨r64,e65,hF⟩:=bnd hF
   refine qag E qcP rfl (qaw N 3 (ir 3) r10.2 l13 r14 r15 r16 e65 hG ok) rfl rfl ?_
   rintro _ w ⟨⟨rfl,ok⟩,l66,r67,r68,r69⟩
   refine ⟨_,rfl,fun a E=>?_⟩
   refine wn<|wp_seq<|sg<|mv E rfl fun a E=>lw E (qaq rfl) fun a E=>fv E qb8 rfl fun a E=>?_
   refine ld E ok qc4 0 rfl rfl rfl fun a E=>lw E (qaW rfl rfl) fun a E=>wn<|cf E rfl hF (fun hc70 hF=>?_) fun hc70 hF=>?_
   ·refine sg<|aw E rfl fun a E=>wp_ret<|qaf ?_
    exact fin hF ⟨ok,E.d,⟨rv_t E rfl,trivial⟩,(ir 0),l66,r67,r68,r69⟩
   refine wp_skip<|qaa<|sg<|mv E rfl fun a E=>?_
   obtain ⟨r71,e72,hF⟩:=bnd hF
   refine qag E qfK rfl (qbu N r10.1 l12 e72 hG ok) rfl rfl ?_
   rintro _ w ⟨⟨rfl,ok⟩,r73⟩
   refine ⟨_,rfl,fun a E=>?_⟩
   refine mv E rfl fun a E=>lw E (qam rfl rfl) fun a E=>lw E (qam rfl rfl) fun a E=>av E rfl fun a E=>aw E rfl fun a E=>wp_seq ?_
   refine sg<|mv E rfl fun a E=>mv E rfl fun a E=>?_
   obtain ⟨r74,e75,hF⟩:=bnd hF
   replace ok:Ok u m0 ([(pb1,oc 3 [vi x1])] :: [(pb0,oc 88 [vs r64.s,vi r64.at_,vi r64.relations,vi r64.e])] :: S) w:=(ok.pk 2 [1,0] rfl (by decide))
   refine qcc E rfl qoa rfl (qcK N r71.1 r73 x1 r5 e75 hG ok) rfl rfl ?_
   rintro _ w ⟨⟨rfl,ok⟩,r76⟩
   refine ⟨_,rfl,fun a E=>?_⟩
   refine aw E rfl fun a E=>sg<|mv E rfl fun a E=>lw E (qaW rfl rfl) fun a E=>wpList_nil ?_
   refine qaa<|cf E rfl hF (fun hc77 hF=>?_) fun hc77 hF=>?_
   ·refine sg<|mv E rfl fun a E=>mv E rfl fun a E=>?_
    obtain ⟨r78,e79,hF⟩:=bnd hF
    replace ok:Ok u m0 ([(pb0,oc 88 [vs r64.s,vi r64.at_,vi r64.relations,vi r64.e])] :: [(pb1,oc 3 [vi x1])] :: S) w:=(ok.pk 2 [1,0] rfl (by decide))
    refine qag E qcP rfl (qaw N r74 r76 r64 l66 r67 r68 r69 e79 hG ok) rfl rfl ?_
    rintro _ w ⟨⟨rfl,ok⟩,l80,r81,r82,r83⟩
    refine ⟨_,rfl,fun a E=>?_⟩
    refine wn<|sg<|aw E rfl fun a E=>wp_ret ?_
    refine qaf ?_
    exact fin hF ⟨ok,E.d,⟨rv_t E rfl,trivial⟩,(ir 0),l80,r81,r82,r83⟩
   refine wp_skip<|qaa<|sg<|mv E rfl fun a E=>lw E (qaq rfl) fun a E=>fv E qaZ rfl fun a E=>ld E ok qaC 1 rfl rfl rfl fun a E=>?_
   refine mv E rfl fun a E=>lw E (qaL Tryz.underlying9 rfl) fun a E=>lw E (qbc rfl rfl) fun a E=>lw E (qaq rfl) fun a E=>fv E qaZ rfl fun a E=>qae E ok 1 rfl rfl rfl qbO rfl rfl ⟨rfl,trivial⟩ rfl rfl fun w ok=>wn ?_
   refine sg<|mv E rfl fun a E=>aw E rfl fun a E=>wp_ret ?_
   exact fin hF ⟨(ok.pk 2 [1,0] rfl (by decide)),E.d,⟨rv_t E rfl,trivial⟩,r73,l66,(InR.wrap _ _),r68,r69⟩
 replace hF:=qar hc63 hF
 replace E:=E.upd 24 hc63 rfl
 refine mv E rfl fun a E=>lw E (qaL Tryz.underlying9 rfl) fun a E=>lw E (qa4 rfl rfl) fun a E=>mv E rfl fun a E=>qav (decide ((r10.1.length:Int) > 1)) (fun hc84=>?_) (fun hc84=>?_)
 rotate_left
 ·as_aux_lemma =>
   replace hF:=qar hc84 hF
   replace E:=E.upd 28 hc84 rfl
   refine ls E fun a E=>ls E fun a E=>ls E fun a E=>pf E rfl rfl fun a E=>pf E rfl rfl fun a E=>wn<|c_if E rfl (fun h=>by cases h) (fun _=>?_)
   refine wp_skip<|qaa<|wp_seq<|sg<|mv E rfl fun a E=>lw E (qaq rfl) fun a E=>fv E qb8 rfl fun a E=>?_
   refine ld E ok qc4 0 rfl rfl rfl fun a E=>lw E (qaW rfl rfl) fun a E=>wn<|cf E rfl hF (fun hc117 hF=>?_) fun hc117 hF=>?_
   ·refine sg<|aw E rfl fun a E=>wp_ret<|qaf ?_
    exact fin hF ⟨ok,E.d,⟨rv_t E rfl,trivial⟩,(ir 0),l13,r14,r15,r16⟩
   refine wp_skip<|qaa<|sg<|mv E rfl fun a E=>?_
   obtain ⟨r118,e119,hF⟩:=bnd hF
   refine qag E qfK rfl (qbu N r10.1 l12 e119 hG ok) rfl rfl ?_
   rintro _ w ⟨⟨rfl,ok⟩,r120⟩
   refine ⟨_,rfl,fun a E=>?_⟩
   refine mv E rfl fun a E=>lw E (qam rfl rfl) fun a E=>lw E (qam rfl rfl) fun a E=>av E rfl fun a E=>aw E rfl fun a E=>wp_seq ?_
   refine sg<|mv E rfl fun a E=>mv E rfl fun a E=>?_
   obtain ⟨r121,e122,hF⟩:=bnd hF
   replace ok:Ok u m0 ([(pb1,oc 3 [vi x1])] :: [(pb0,oc 88 [vs r10.2.s,vi r10.2.at_,vi r10.2.relations,vi r10.2.e])] :: S) w:=(ok.pk 2 [1,0] rfl (by decide))
   refine qcc E rfl qoa rfl (qcK N r118.1 r120 x1 r5 e122 hG ok) rfl rfl ?_
   rintro _ w ⟨⟨rfl,ok⟩,r123⟩
   refine ⟨_,rfl,fun a E=>?_⟩
   refine aw E rfl fun a E=>sg<|mv E rfl fun a E=>lw E (qaW rfl rfl) fun a E=>wpList_nil ?_
   refine qaa<|cf E rfl hF (fun hc124 hF=>?_) fun hc124 hF=>?_
   ·refine sg<|mv E rfl fun a E=>mv E rfl fun a E=>?_
    obtain ⟨r125,e126,hF⟩:=bnd hF
    replace ok:Ok u m0 ([(pb0,oc 88 [vs r10.2.s,vi r10.2.at_,vi r10.2.relations,vi r10.2.e])] :: [(pb1,oc 3 [vi x1])] :: S) w:=(ok.pk 2 [1,0] rfl (by decide))
    refine qag E qcP rfl (qaw N r121 r123 r10.2 l13 r14 r15 r16 e126 hG ok) rfl rfl ?_
    rintro _ w ⟨⟨rfl,ok⟩,l127,r128,r129,r130⟩
    refine ⟨_,rfl,fun a E=>?_⟩
    refine wn<|sg<|aw E rfl fun a E=>wp_ret ?_
    refine qaf ?_
    exact fin hF ⟨ok,E.d,⟨rv_t E rfl,trivial⟩,(ir 0),l127,r128,r129,r130⟩
   refine wp_skip<|qaa<|sg<|mv E rfl fun a E=>lw E (qaq rfl) fun a E=>fv E qaZ rfl fun a E=>ld E ok qaC 1 rfl rfl rfl fun a E=>?_
   refine mv E rfl fun a E=>lw E (qaL Tryz.underlying9 rfl) fun a E=>lw E (qbc rfl rfl) fun a E=>lw E (qaq rfl) fun a E=>fv E qaZ rfl fun a E=>qae E ok 1 rfl rfl rfl qbO rfl rfl ⟨rfl,trivial⟩ rfl rfl fun w ok=>wn ?_
   refine sg<|mv E rfl fun a E=>aw E rfl fun a E=>wp_ret ?_
   exact fin hF ⟨(ok.pk 2 [1,0] rfl (by decide)),E.d,⟨rv_t E rfl,trivial⟩,r120,l13,(InR.wrap _ _),r15,r16⟩
 replace hF:=qas hc84 hF
 replace E:=E.upd 28 hc84 rfl
 refine mv E rfl fun a E=>?_
 obtain ⟨c85,e86,hF⟩:=bnd hF
 refine lv E ok (qbB Tryz.underlying9 rfl rfl e86) fun a E=>lw E (qaM rfl rfl) fun a E=>pt E rfl rfl fun a E=>pf E rfl rfl fun a E=>wn ?_
 obtain ⟨o87,hJ,hF⟩:=bnd hF
 refine qaV (Q':=fun e a w=>e = .normal ∧ Ok u m0 ([(pb0,oc 88 [vs o87.s,vi o87.at_,vi o87.relations,vi o87.e])] :: [(pb1,oc 3 [vi x1])] :: S) w ∧ Env 64 a [(0,vp pb0),(1,(Value.func (.func 98) #[] #[.pointer (some ⟨pb1,0,none⟩)])),(5,vs r10.1)] ∧ o87.s.length ≤ LIMS ∧ InR .i64 o87.at_ ∧ InR .i64 o87.relations ∧ InR .i64 o87.e) ?_ ?_
 ·replace hF:=hJ
  clear hJ
  refine cf E rfl hF (fun hc92 hF=>?_) fun hc92 hF=>?_
  rotate_left
  ·refine wp_skip ?_
   obtain rfl:=sj hF
   exact ⟨rfl,⟨ok,E.keep [0,1,5],l13,r14,r15,r16⟩⟩
  refine qab<|mv E rfl fun a E=>?_
  obtain ⟨r93,e94,hF⟩:=bnd hF
  refine qag E qcP rfl (qaw N 3 (ir 3) r10.2 l13 r14 r15 r16 e94 hG ok) rfl rfl ?_
  rintro _ w ⟨⟨rfl,ok⟩,l95,r96,r97,r98⟩
  refine ⟨_,rfl,fun a E=>?_⟩
  refine wpList_nil ?_
  obtain rfl:=sj hF
  exact ⟨rfl,⟨ok,E.keep [0,1,5],l95,r96,r97,r98⟩⟩
 clear hJ
 intro e a w hO
 obtain ⟨rfl,ok,E,l99,r100,r101,r102⟩:=hO
 refine qaa<|wp_seq<|sg<|mv E rfl fun a E=>lw E (qaq rfl) fun a E=>fv E qb8 rfl fun a E=>ld E ok qc4 0 rfl rfl rfl fun a E=>?_
 refine lw E (qaW rfl rfl) fun a E=>wn<|cf E rfl hF (fun hc103 hF=>?_) fun hc103 hF=>?_
 ·refine sg<|aw E rfl fun a E=>wp_ret<|qaf ?_
  exact fin hF ⟨ok,E.d,⟨rv_t E rfl,trivial⟩,(ir 0),l99,r100,r101,r102⟩
 refine wp_skip<|qaa<|sg<|mv E rfl fun a E=>?_
 obtain ⟨r104,e105,hF⟩:=bnd hF
 refine qag E qfK rfl (qbu N r10.1 l12 e105 hG ok) rfl rfl ?_
 rintro _ w ⟨⟨rfl,ok⟩,r106⟩
 refine ⟨_,rfl,fun a E=>?_⟩
 refine mv E rfl fun a E=>lw E (qam rfl rfl) fun a E=>lw E (qam rfl rfl) fun a E=>av E rfl fun a E=>aw E rfl fun a E=>wp_seq ?_
 refine sg<|mv E rfl fun a E=>mv E rfl fun a E=>?_
 obtain ⟨r107,e108,hF⟩:=bnd hF
 replace ok:Ok u m0 ([(pb1,oc 3 [vi x1])] :: [(pb0,oc 88 [vs o87.s,vi o87.at_,vi o87.relations,vi o87.e])] :: S) w:=(ok.pk 2 [1,0] rfl (by decide))
 refine qcc E rfl qoa rfl (qcK N r104.1 r106 x1 r5 e108 hG ok) rfl rfl ?_
 rintro _ w ⟨⟨rfl,ok⟩,r109⟩
 refine ⟨_,rfl,fun a E=>?_⟩
 refine aw E rfl fun a E=>sg<|mv E rfl fun a E=>lw E (qaW rfl rfl) fun a E=>wpList_nil ?_
 refine qaa<|cf E rfl hF (fun hc110 hF=>?_) fun hc110 hF=>?_
 ·refine sg<|mv E rfl fun a E=>mv E rfl fun a E=>?_
  obtain ⟨r111,e112,hF⟩:=bnd hF
  replace ok:Ok u m0 ([(pb0,oc 88 [vs o87.s,vi o87.at_,vi o87.relations,vi o87.e])] :: [(pb1,oc 3 [vi x1])] :: S) w:=(ok.pk 2 [1,0] rfl (by decide))
  refine qag E qcP rfl (qaw N r107 r109 o87 l99 r100 r101 r102 e112 hG ok) rfl rfl ?_
  rintro _ w ⟨⟨rfl,ok⟩,l113,r114,r115,r116⟩
  refine ⟨_,rfl,fun a E=>?_⟩
  refine wn<|sg<|aw E rfl fun a E=>wp_ret ?_
  refine qaf ?_
  exact fin hF ⟨ok,E.d,⟨rv_t E rfl,trivial⟩,(ir 0),l113,r114,r115,r116⟩
 refine wp_skip<|qaa<|sg<|mv E rfl fun a E=>lw E (qaq rfl) fun a E=>fv E qaZ rfl fun a E=>ld E ok qaC 1 rfl rfl rfl fun a E=>?_
 refine mv E rfl fun a E=>lw E (qaL Tryz.underlying9 rfl) fun a E=>lw E (qbc rfl rfl) fun a E=>lw E (qaq rfl) fun a E=>fv E qaZ rfl fun a E=>qae E ok 1 rfl rfl rfl qbO rfl rfl ⟨rfl,trivial⟩ rfl rfl fun w ok=>wn ?_
 refine sg<|mv E rfl fun a E=>aw E rfl fun a E=>wp_ret ?_
 exact fin hF ⟨(ok.pk 2 [1,0] rfl (by decide)),E.d,⟨rv_t E rfl,trivial⟩,r106,l99,(InR.wrap _ _),r101,r102⟩
def qjU (u:World) (m0:Mem) (S:Segs) (pb0:Nat) (pb1:Nat) (x0:Int) (x1:Int) (r:Int) (a:Act) (w:World):Prop :=
 Ok u m0 ([(pb0,oc 3 [vi x0])] :: [(pb1,oc 3 [vi x1])] :: S) w ∧ a.defers = [] ∧ RVs Tryz.prog a w [.t 4 (.int .i64 r)] ∧ InR .i64 r
theorem qdy (N:Nat) (n_0:Int) (rn_0:InR .i64 n_0) {pb0:Nat} (x0:Int) (r1:InR .i64 x0) {pb1:Nat} (x1:Int) (r2:InR .i64 x1) {r:Int} (hF:qco N n_0 x0 x1 = some r) (hG:Glob u) (ok:Ok u m0 ([(pb0,oc 3 [vi x0])] :: [(pb1,oc 3 [vi x1])] :: S) w) :
  Calls Tryz.prog 128 [vi n_0,vp pb0,vp pb1].toArray w fun e w'=>(e = .returned (.int .i64 r) ∧ Ok u m0 ([(pb0,oc 3 [vi x0])] :: [(pb1,oc 3 [vi x1])] :: S) w') ∧ InR .i64 r:=by
 unfold qco at hF
 refine en (qjU u m0 S pb0 pb1 x0 x1) r Tryz.func128 rfl rfl rfl (by rintro a w ⟨ok,hd,hrv,h0⟩; exact qat [.t 4 (.int .i64 r)] hd rfl hrv ⟨⟨rfl,ok⟩,h0⟩) fun fin a E=>sg<|aw E rfl fun a E=>wp_seq<|wp_block ?_
 refine sg<|mv E rfl fun a E=>ld E ok qaC 0 rfl rfl rfl fun a E=>?_
 obtain ⟨r3,e4,hF⟩:=bnd hF
 refine qag E qp2 rfl (qdR N x0 r1 e4 hG ok) rfl rfl ?_
 rintro _ w ⟨⟨rfl,ok⟩,r5⟩
 refine ⟨_,rfl,fun a E=>?_⟩
 refine lw E (qa4 rfl rfl) fun a E=>aw E rfl fun a E=>cf E rfl hF (fun hc6 hF=>?_) fun hc6 hF=>?_
 ·refine sg<|aw E rfl fun a E=>wp_ret<|qax<|qaf ?_
  exact fin hF ⟨ok,E.d,⟨rv_t E rfl,trivial⟩,(ir 2)⟩
 refine sg<|ld E ok qaC 1 rfl rfl rfl fun a E=>lw E (qgh rfl rfl) fun a E=>aw E rfl fun a E=>cf E rfl hF (fun hc7 hF=>?_) fun hc7 hF=>?_
 ·refine sg<|aw E rfl fun a E=>wp_ret<|qax<|qaf ?_
  exact fin hF ⟨ok,E.d,⟨rv_t E rfl,trivial⟩,(ir 6)⟩
 refine wp_skip<|qal<|qaa<|sg<|aw E rfl fun a E=>?_
 refine wp_ret ?_
 exact fin hF ⟨ok,E.d,⟨rv_t E rfl,trivial⟩,(ir 0)⟩
def qit (u:World) (m0:Mem) (S:Segs) (pb0:Nat) (pb1:Nat) (pb2:Nat) (x0:Parser) (x1:Int) (x2:Int) (r:Int × Parser) (a:Act) (w:World):Prop :=
 Ok u m0 ([(pb0,oc 88 [vs r.2.s,vi r.2.at_,vi r.2.relations,vi r.2.e])] :: [(pb1,oc 3 [vi x1])] :: [(pb2,oc 3 [vi x2])] :: S) w ∧ a.defers = [] ∧ RVs Tryz.prog a w [.t 4 (.int .i64 r.1)] ∧ InR .i64 r.1 ∧ r.2.s.length ≤ LIMS ∧ InR .i64 r.2.at_ ∧ InR .i64 r.2.relations ∧ InR .i64 r.2.e
theorem qiP (N:Nat) {pb0:Nat} (x0:Parser) (l1:x0.s.length ≤ LIMS) (r2:InR .i64 x0.at_) (r3:InR .i64 x0.relations) (r4:InR .i64 x0.e) {pb1:Nat} (x1:Int) (r5:InR .i64 x1) {pb2:Nat} (x2:Int) (r6:InR .i64 x2) {r:Int × Parser} (hF:qe4 N x0 x1 x2 = some r) (hG:Glob u) (ok:Ok u m0 ([(pb0,oc 88 [vs x0.s,vi x0.at_,vi x0.relations,vi x0.e])] :: [(pb1,oc 3 [vi x1])] :: [(pb2,oc 3 [vi x2])] :: S) w) :
  Calls Tryz.prog 97 [vp pb0,Value.func (.func 128) #[] #[.pointer (some ⟨pb1,0,none⟩),.pointer (some ⟨pb2,0,none⟩)]].toArray w fun e w'=>(e = .returned (.int .i64 r.1) ∧ Ok u m0 ([(pb0,oc 88 [vs r.2.s,vi r.2.at_,vi r.2.relations,vi r.2.e])] :: [(pb1,oc 3 [vi x1])] :: [(pb2,oc 3 [vi x2])] :: S) w') ∧ InR .i64 r.1 ∧ r.2.s.length ≤ LIMS ∧ InR .i64 r.2.at_ ∧ InR .i64 r.2.relations ∧ InR .i64 r.2.e:=by
 unfold qe4 at hF
 refine en (qit u m0 S pb0 pb1 pb2 x0 x1 x2) r Tryz.func97 rfl rfl rfl (by rintro a w ⟨ok,hd,hrv,h0,h1,h2,h3,h4⟩; exact qat [.t 4 (.int .i64 r.1)] hd rfl hrv ⟨⟨rfl,ok⟩,h0,h1,h2,h3,h4⟩) fun fin a E=>sg<|aw E rfl fun a E=>sg ?_
 refine mv E rfl fun a E=>?_
 obtain ⟨r11,e12,hF⟩:=bnd hF
 refine qag E qnj rfl (qdd N x0 l1 r2 r3 r4 e12 hG ok) rfl rfl ?_
 rintro _ w ⟨⟨rfl,ok⟩,l13,l14,r15,r16,r17⟩
 refine ⟨_,rfl,fun a E=>?_⟩
 refine aw E rfl fun a E=>wp_seq<|sg<|mv E rfl fun a E=>lw E (qet rfl rfl) fun a E=>?_
 refine mv E rfl fun a E=>qav (r11.1 == ([])) (fun hc18=>?_) (fun hc18=>?_)
 ·as_aux_lemma =>
   replace hF:=qas hc18 hF
   replace E:=E.upd 13 hc18 rfl
   refine ls E fun a E=>ls E fun a E=>ls E fun a E=>ls E fun a E=>pt E rfl rfl fun a E=>mv E rfl fun a E=>ls E fun a E=>ls E fun a E=>?_
   refine ls E fun a E=>pt E rfl rfl fun a E=>mv E rfl fun a E=>ls E fun a E=>ls E fun a E=>ls E fun a E=>ls E fun a E=>ls E fun a E=>?_
   refine ls E fun a E=>ls E fun a E=>ls E fun a E=>pt E rfl rfl fun a E=>wn<|c_if E rfl (fun _=>?_) (fun h=>by cases h)
   refine qab<|mv E rfl fun a E=>?_
   obtain ⟨r19,e20,hF⟩:=bnd hF
   refine qag E qcP rfl (qaw N 3 (ir 3) r11.2 l14 r15 r16 r17 e20 hG ok) rfl rfl ?_
   rintro _ w ⟨⟨rfl,ok⟩,l21,r22,r23,r24⟩
   refine ⟨_,rfl,fun a E=>?_⟩
   refine wn<|wp_seq<|sg<|mv E rfl fun a E=>lw E (qaq rfl) fun a E=>fv E qb8 rfl fun a E=>?_
   refine ld E ok qc4 0 rfl rfl rfl fun a E=>lw E (qaW rfl rfl) fun a E=>wn<|cf E rfl hF (fun hc25 hF=>?_) fun hc25 hF=>?_
   ·refine sg<|aw E rfl fun a E=>wp_ret<|qaf ?_
    exact fin hF ⟨ok,E.d,⟨rv_t E rfl,trivial⟩,(ir 0),l21,r22,r23,r24⟩
   refine wp_skip<|qaa<|sg<|mv E rfl fun a E=>?_
   obtain ⟨r26,e27,hF⟩:=bnd hF
   refine qag E qfK rfl (qbu N r11.1 l13 e27 hG ok) rfl rfl ?_
   rintro _ w ⟨⟨rfl,ok⟩,r28⟩
   refine ⟨_,rfl,fun a E=>?_⟩
   refine mv E rfl fun a E=>lw E (qam rfl rfl) fun a E=>lw E (qam rfl rfl) fun a E=>av E rfl fun a E=>aw E rfl fun a E=>wp_seq ?_
   refine sg<|mv E rfl fun a E=>mv E rfl fun a E=>?_
   obtain ⟨r29,e30,hF⟩:=bnd hF
   replace ok:Ok u m0 ([(pb1,oc 3 [vi x1])] :: [(pb2,oc 3 [vi x2])] :: [(pb0,oc 88 [vs r19.s,vi r19.at_,vi r19.relations,vi r19.e])] :: S) w:=(ok.pk 3 [1,2,0] rfl (by decide))
   refine qcc E rfl qmU rfl (qdy N r26.1 r28 x1 r5 x2 r6 e30 hG ok) rfl rfl ?_
   rintro _ w ⟨⟨rfl,ok⟩,r31⟩
   refine ⟨_,rfl,fun a E=>?_⟩
   refine aw E rfl fun a E=>sg<|mv E rfl fun a E=>lw E (qaW rfl rfl) fun a E=>wpList_nil ?_
   refine qaa<|cf E rfl hF (fun hc32 hF=>?_) fun hc32 hF=>?_
   ·refine sg<|mv E rfl fun a E=>mv E rfl fun a E=>?_
    obtain ⟨r33,e34,hF⟩:=bnd hF
    replace ok:Ok u m0 ([(pb0,oc 88 [vs r19.s,vi r19.at_,vi r19.relations,vi r19.e])] :: [(pb1,oc 3 [vi x1])] :: [(pb2,oc 3 [vi x2])] :: S) w:=(ok.pk 3 [2,0,1] rfl (by decide))
    refine qag E qcP rfl (qaw N r29 r31 r19 l21 r22 r23 r24 e34 hG ok) rfl rfl ?_
    rintro _ w ⟨⟨rfl,ok⟩,l35,r36,r37,r38⟩
    refine ⟨_,rfl,fun a E=>?_⟩
    refine wn<|sg<|aw E rfl fun a E=>wp_ret ?_
    refine qaf ?_
    exact fin hF ⟨ok,E.d,⟨rv_t E rfl,trivial⟩,(ir 0),l35,r36,r37,r38⟩
   refine wp_skip<|qaa<|sg<|mv E rfl fun a E=>lw E (qaq rfl) fun a E=>fv E qaZ rfl fun a E=>ld E ok qaC 2 rfl rfl rfl fun a E=>?_
   refine mv E rfl fun a E=>lw E (qaL Tryz.underlying9 rfl) fun a E=>lw E (qbc rfl rfl) fun a E=>lw E (qaq rfl) fun a E=>fv E qaZ rfl fun a E=>qae E ok 2 rfl rfl rfl qbO rfl rfl ⟨rfl,trivial⟩ rfl rfl fun w ok=>wn ?_
   refine sg<|mv E rfl fun a E=>aw E rfl fun a E=>wp_ret ?_
   exact fin hF ⟨(ok.pk 3 [2,0,1] rfl (by decide)),E.d,⟨rv_t E rfl,trivial⟩,r28,l21,(InR.wrap _ _),r23,r24⟩
 replace hF:=qar hc18 hF
 replace E:=E.upd 13 hc18 rfl
 refine mv E rfl fun a E=>?_
 obtain ⟨c39,e40,hF⟩:=bnd hF
 refine lv E ok (qbB Tryz.underlying9 rfl rfl e40) fun a E=>?_
 obtain ⟨r41,e42,hF⟩:=bnd hF
 refine lc E qm4 rfl (qfG N (c39.toNat:Int) (InR.byte c39) e42 hG ok) fun w ok a E=>lw E (qaS rfl) fun a E=>pf E rfl rfl fun a E=>mv E rfl fun a E=>qav (!r41) (fun hc43=>?_) (fun hc43=>?_)
 ·as_aux_lemma =>
   replace hF:=qas hc43 hF
   replace E:=E.upd 19 hc43 rfl
   refine ls E fun a E=>ls E fun a E=>ls E fun a E=>pt E rfl rfl fun a E=>mv E rfl fun a E=>ls E fun a E=>ls E fun a E=>ls E fun a E=>?_
   refine ls E fun a E=>ls E fun a E=>ls E fun a E=>ls E fun a E=>ls E fun a E=>pt E rfl rfl fun a E=>wn ?_
   refine c_if E rfl (fun _=>?_) (fun h=>by cases h)
   refine qab<|mv E rfl fun a E=>?_
   obtain ⟨r44,e45,hF⟩:=bnd hF
   refine qag E qcP rfl (qaw N 3 (ir 3) r11.2 l14 r15 r16 r17 e45 hG ok) rfl rfl ?_
   rintro _ w ⟨⟨rfl,ok⟩,l46,r47,r48,r49⟩
   refine ⟨_,rfl,fun a E=>?_⟩
   refine wn<|wp_seq<|sg<|mv E rfl fun a E=>lw E (qaq rfl) fun a E=>fv E qb8 rfl fun a E=>?_
   refine ld E ok qc4 0 rfl rfl rfl fun a E=>lw E (qaW rfl rfl) fun a E=>wn<|cf E rfl hF (fun hc50 hF=>?_) fun hc50 hF=>?_
   ·refine sg<|aw E rfl fun a E=>wp_ret<|qaf ?_
    exact fin hF ⟨ok,E.d,⟨rv_t E rfl,trivial⟩,(ir 0),l46,r47,r48,r49⟩
   refine wp_skip<|qaa<|sg<|mv E rfl fun a E=>?_
   obtain ⟨r51,e52,hF⟩:=bnd hF
   refine qag E qfK rfl (qbu N r11.1 l13 e52 hG ok) rfl rfl ?_
   rintro _ w ⟨⟨rfl,ok⟩,r53⟩
   refine ⟨_,rfl,fun a E=>?_⟩
   refine mv E rfl fun a E=>lw E (qam rfl rfl) fun a E=>lw E (qam rfl rfl) fun a E=>av E rfl fun a E=>aw E rfl fun a E=>wp_seq ?_
   refine sg<|mv E rfl fun a E=>mv E rfl fun a E=>?_
   obtain ⟨r54,e55,hF⟩:=bnd hF
   replace ok:Ok u m0 ([(pb1,oc 3 [vi x1])] :: [(pb2,oc 3 [vi x2])] :: [(pb0,oc 88 [vs r44.s,vi r44.at_,vi r44.relations,vi r44.e])] :: S) w:=(ok.pk 3 [1,2,0] rfl (by decide))
   refine qcc E rfl qmU rfl (qdy N r51.1 r53 x1 r5 x2 r6 e55 hG ok) rfl rfl ?_
   rintro _ w ⟨⟨rfl,ok⟩,r56⟩
   refine ⟨_,rfl,fun a E=>?_⟩
   refine aw E rfl fun a E=>sg<|mv E rfl fun a E=>lw E (qaW rfl rfl) fun a E=>wpList_nil ?_
   refine qaa<|cf E rfl hF (fun hc57 hF=>?_) fun hc57 hF=>?_
   ·refine sg<|mv E rfl fun a E=>mv E rfl fun a E=>?_
    obtain ⟨r58,e59,hF⟩:=bnd hF
    replace ok:Ok u m0 ([(pb0,oc 88 [vs r44.s,vi r44.at_,vi r44.relations,vi r44.e])] :: [(pb1,oc 3 [vi x1])] :: [(pb2,oc 3 [vi x2])] :: S) w:=(ok.pk 3 [2,0,1] rfl (by decide))
    refine qag E qcP rfl (qaw N r54 r56 r44 l46 r47 r48 r49 e59 hG ok) rfl rfl ?_
    rintro _ w ⟨⟨rfl,ok⟩,l60,r61,r62,r63⟩
    refine ⟨_,rfl,fun a E=>?_⟩
    refine wn<|sg<|aw E rfl fun a E=>wp_ret ?_
    refine qaf ?_
    exact fin hF ⟨ok,E.d,⟨rv_t E rfl,trivial⟩,(ir 0),l60,r61,r62,r63⟩
   refine wp_skip<|qaa<|sg<|mv E rfl fun a E=>lw E (qaq rfl) fun a E=>fv E qaZ rfl fun a E=>ld E ok qaC 2 rfl rfl rfl fun a E=>?_
   refine mv E rfl fun a E=>lw E (qaL Tryz.underlying9 rfl) fun a E=>lw E (qbc rfl rfl) fun a E=>lw E (qaq rfl) fun a E=>fv E qaZ rfl fun a E=>qae E ok 2 rfl rfl rfl qbO rfl rfl ⟨rfl,trivial⟩ rfl rfl fun w ok=>wn ?_
   refine sg<|mv E rfl fun a E=>aw E rfl fun a E=>wp_ret ?_
   exact fin hF ⟨(ok.pk 3 [2,0,1] rfl (by decide)),E.d,⟨rv_t E rfl,trivial⟩,r53,l46,(InR.wrap _ _),r48,r49⟩
 replace hF:=qar hc43 hF
 replace E:=E.upd 19 hc43 rfl
 refine mv E rfl fun a E=>lw E (qaL Tryz.underlying9 rfl) fun a E=>lw E (qa4 rfl rfl) fun a E=>pf E rfl rfl fun a E=>mv E rfl fun a E=>qav (decide ((r11.1.length:Int) > 3)) (fun hc64=>?_) (fun hc64=>?_)
 ·as_aux_lemma =>
   replace hF:=qas hc64 hF
   replace E:=E.upd 24 hc64 rfl
   refine ls E fun a E=>ls E fun a E=>ls E fun a E=>ls E fun a E=>ls E fun a E=>ls E fun a E=>ls E fun a E=>ls E fun a E=>?_
   refine pt E rfl rfl fun a E=>wn<|c_if E rfl (fun _=>?_) (fun h=>by cases h)
   refine qab<|mv E rfl fun a E=>?_
   obtain ⟨r65,e66,hF⟩:=bnd hF
   refine qag E qcP rfl (qaw N 3 (ir 3) r11.2 l14 r15 r16 r17 e66 hG ok) rfl rfl ?_
   rintro _ w ⟨⟨rfl,ok⟩,l67,r68,r69,r70⟩
   refine ⟨_,rfl,fun a E=>?_⟩
   refine wn<|wp_seq<|sg<|mv E rfl fun a E=>lw E (qaq rfl) fun a E=>fv E qb8 rfl fun a E=>?_
   refine ld E ok qc4 0 rfl rfl rfl fun a E=>lw E (qaW rfl rfl) fun a E=>wn<|cf E rfl hF (fun hc71 hF=>?_) fun hc71 hF=>?_
   ·refine sg<|aw E rfl fun a E=>wp_ret<|qaf ?_
    exact fin hF ⟨ok,E.d,⟨rv_t E rfl,trivial⟩,(ir 0),l67,r68,r69,r70⟩
   refine wp_skip<|qaa<|sg<|mv E rfl fun a E=>?_
   obtain ⟨r72,e73,hF⟩:=bnd hF
   refine qag E qfK rfl (qbu N r11.1 l13 e73 hG ok) rfl rfl ?_
   rintro _ w ⟨⟨rfl,ok⟩,r74⟩
   refine ⟨_,rfl,fun a E=>?_⟩
   refine mv E rfl fun a E=>lw E (qam rfl rfl) fun a E=>lw E (qam rfl rfl) fun a E=>av E rfl fun a E=>aw E rfl fun a E=>wp_seq ?_
   refine sg<|mv E rfl fun a E=>mv E rfl fun a E=>?_
   obtain ⟨r75,e76,hF⟩:=bnd hF
   replace ok:Ok u m0 ([(pb1,oc 3 [vi x1])] :: [(pb2,oc 3 [vi x2])] :: [(pb0,oc 88 [vs r65.s,vi r65.at_,vi r65.relations,vi r65.e])] :: S) w:=(ok.pk 3 [1,2,0] rfl (by decide))
   refine qcc E rfl qmU rfl (qdy N r72.1 r74 x1 r5 x2 r6 e76 hG ok) rfl rfl ?_
   rintro _ w ⟨⟨rfl,ok⟩,r77⟩
   refine ⟨_,rfl,fun a E=>?_⟩
   refine aw E rfl fun a E=>sg<|mv E rfl fun a E=>lw E (qaW rfl rfl) fun a E=>wpList_nil ?_
   refine qaa<|cf E rfl hF (fun hc78 hF=>?_) fun hc78 hF=>?_
   ·refine sg<|mv E rfl fun a E=>mv E rfl fun a E=>?_
    obtain ⟨r79,e80,hF⟩:=bnd hF
    replace ok:Ok u m0 ([(pb0,oc 88 [vs r65.s,vi r65.at_,vi r65.relations,vi r65.e])] :: [(pb1,oc 3 [vi x1])] :: [(pb2,oc 3 [vi x2])] :: S) w:=(ok.pk 3 [2,0,1] rfl (by decide))
    refine qag E qcP rfl (qaw N r75 r77 r65 l67 r68 r69 r70 e80 hG ok) rfl rfl ?_
    rintro _ w ⟨⟨rfl,ok⟩,l81,r82,r83,r84⟩
    refine ⟨_,rfl,fun a E=>?_⟩
    refine wn<|sg<|aw E rfl fun a E=>wp_ret ?_
    refine qaf ?_
    exact fin hF ⟨ok,E.d,⟨rv_t E rfl,trivial⟩,(ir 0),l81,r82,r83,r84⟩
   refine wp_skip<|qaa<|sg<|mv E rfl fun a E=>lw E (qaq rfl) fun a E=>fv E qaZ rfl fun a E=>ld E ok qaC 2 rfl rfl rfl fun a E=>?_
   refine mv E rfl fun a E=>lw E (qaL Tryz.underlying9 rfl) fun a E=>lw E (qbc rfl rfl) fun a E=>lw E (qaq rfl) fun a E=>fv E qaZ rfl fun a E=>qae E ok 2 rfl rfl rfl qbO rfl rfl ⟨rfl,trivial⟩ rfl rfl fun w ok=>wn ?_
   refine sg<|mv E rfl fun a E=>aw E rfl fun a E=>wp_ret ?_
   exact fin hF ⟨(ok.pk 3 [2,0,1] rfl (by decide)),E.d,⟨rv_t E rfl,trivial⟩,r74,l67,(InR.wrap _ _),r69,r70⟩
 replace hF:=qar hc64 hF
 replace E:=E.upd 24 hc64 rfl
 refine mv E rfl fun a E=>lw E (qaL Tryz.underlying9 rfl) fun a E=>lw E (qa4 rfl rfl) fun a E=>mv E rfl fun a E=>qav (decide ((r11.1.length:Int) > 1)) (fun hc85=>?_) (fun hc85=>?_)
 rotate_left
 ·as_aux_lemma =>
   replace hF:=qar hc85 hF
   replace E:=E.upd 28 hc85 rfl
   refine ls E fun a E=>ls E fun a E=>ls E fun a E=>pf E rfl rfl fun a E=>pf E rfl rfl fun a E=>wn<|c_if E rfl (fun h=>by cases h) (fun _=>?_)
   refine wp_skip<|qaa<|wp_seq<|sg<|mv E rfl fun a E=>lw E (qaq rfl) fun a E=>fv E qb8 rfl fun a E=>?_
   refine ld E ok qc4 0 rfl rfl rfl fun a E=>lw E (qaW rfl rfl) fun a E=>wn<|cf E rfl hF (fun hc118 hF=>?_) fun hc118 hF=>?_
   ·refine sg<|aw E rfl fun a E=>wp_ret<|qaf ?_
    exact fin hF ⟨ok,E.d,⟨rv_t E rfl,trivial⟩,(ir 0),l14,r15,r16,r17⟩
   refine wp_skip<|qaa<|sg<|mv E rfl fun a E=>?_
   obtain ⟨r119,e120,hF⟩:=bnd hF
   refine qag E qfK rfl (qbu N r11.1 l13 e120 hG ok) rfl rfl ?_
   rintro _ w ⟨⟨rfl,ok⟩,r121⟩
   refine ⟨_,rfl,fun a E=>?_⟩
   refine mv E rfl fun a E=>lw E (qam rfl rfl) fun a E=>lw E (qam rfl rfl) fun a E=>av E rfl fun a E=>aw E rfl fun a E=>wp_seq ?_
   refine sg<|mv E rfl fun a E=>mv E rfl fun a E=>?_
   obtain ⟨r122,e123,hF⟩:=bnd hF
   replace ok:Ok u m0 ([(pb1,oc 3 [vi x1])] :: [(pb2,oc 3 [vi x2])] :: [(pb0,oc 88 [vs r11.2.s,vi r11.2.at_,vi r11.2.relations,vi r11.2.e])] :: S) w:=(ok.pk 3 [1,2,0] rfl (by decide))
   refine qcc E rfl qmU rfl (qdy N r119.1 r121 x1 r5 x2 r6 e123 hG ok) rfl rfl ?_
   rintro _ w ⟨⟨rfl,ok⟩,r124⟩
   refine ⟨_,rfl,fun a E=>?_⟩
   refine aw E rfl fun a E=>sg<|mv E rfl fun a E=>lw E (qaW rfl rfl) fun a E=>wpList_nil ?_
   refine qaa<|cf E rfl hF (fun hc125 hF=>?_) fun hc125 hF=>?_
   ·refine sg<|mv E rfl fun a E=>mv E rfl fun a E=>?_
    obtain ⟨r126,e127,hF⟩:=bnd hF
    replace ok:Ok u m0 ([(pb0,oc 88 [vs r11.2.s,vi r11.2.at_,vi r11.2.relations,vi r11.2.e])] :: [(pb1,oc 3 [vi x1])] :: [(pb2,oc 3 [vi x2])] :: S) w:=(ok.pk 3 [2,0,1] rfl (by decide))
    refine qag E qcP rfl (qaw N r122 r124 r11.2 l14 r15 r16 r17 e127 hG ok) rfl rfl ?_
    rintro _ w ⟨⟨rfl,ok⟩,l128,r129,r130,r131⟩
    refine ⟨_,rfl,fun a E=>?_⟩
    refine wn<|sg<|aw E rfl fun a E=>wp_ret ?_
    refine qaf ?_
    exact fin hF ⟨ok,E.d,⟨rv_t E rfl,trivial⟩,(ir 0),l128,r129,r130,r131⟩
   refine wp_skip<|qaa<|sg<|mv E rfl fun a E=>lw E (qaq rfl) fun a E=>fv E qaZ rfl fun a E=>ld E ok qaC 2 rfl rfl rfl fun a E=>?_
   refine mv E rfl fun a E=>lw E (qaL Tryz.underlying9 rfl) fun a E=>lw E (qbc rfl rfl) fun a E=>lw E (qaq rfl) fun a E=>fv E qaZ rfl fun a E=>qae E ok 2 rfl rfl rfl qbO rfl rfl ⟨rfl,trivial⟩ rfl rfl fun w ok=>wn ?_
   refine sg<|mv E rfl fun a E=>aw E rfl fun a E=>wp_ret ?_
   exact fin hF ⟨(ok.pk 3 [2,0,1] rfl (by decide)),E.d,⟨rv_t E rfl,trivial⟩,r121,l14,(InR.wrap _ _),r16,r17⟩
 replace hF:=qas hc85 hF
 replace E:=E.upd 28 hc85 rfl
 refine mv E rfl fun a E=>?_
 obtain ⟨c86,e87,hF⟩:=bnd hF
 refine lv E ok (qbB Tryz.underlying9 rfl rfl e87) fun a E=>lw E (qaM rfl rfl) fun a E=>pt E rfl rfl fun a E=>pf E rfl rfl fun a E=>wn ?_
 obtain ⟨o88,hJ,hF⟩:=bnd hF
 refine qaV (Q':=fun e a w=>e = .normal ∧ Ok u m0 ([(pb0,oc 88 [vs o88.s,vi o88.at_,vi o88.relations,vi o88.e])] :: [(pb1,oc 3 [vi x1])] :: [(pb2,oc 3 [vi x2])] :: S) w ∧ Env 64 a [(0,vp pb0),(1,(Value.func (.func 128) #[] #[.pointer (some ⟨pb1,0,none⟩),.pointer (some ⟨pb2,0,none⟩)])),(5,vs r11.1)] ∧ o88.s.length ≤ LIMS ∧ InR .i64 o88.at_ ∧ InR .i64 o88.relations ∧ InR .i64 o88.e) ?_ ?_
 ·replace hF:=hJ
  clear hJ
  refine cf E rfl hF (fun hc93 hF=>?_) fun hc93 hF=>?_
  rotate_left
  ·refine wp_skip ?_
   obtain rfl:=sj hF
   exact ⟨rfl,⟨ok,E.keep [0,1,5],l14,r15,r16,r17⟩⟩
  refine qab<|mv E rfl fun a E=>?_
  obtain ⟨r94,e95,hF⟩:=bnd hF
  refine qag E qcP rfl (qaw N 3 (ir 3) r11.2 l14 r15 r16 r17 e95 hG ok) rfl rfl ?_
  rintro _ w ⟨⟨rfl,ok⟩,l96,r97,r98,r99⟩
  refine ⟨_,rfl,fun a E=>?_⟩
  refine wpList_nil ?_
  obtain rfl:=sj hF
  exact ⟨rfl,⟨ok,E.keep [0,1,5],l96,r97,r98,r99⟩⟩
 clear hJ
 intro e a w hO
 obtain ⟨rfl,ok,E,l100,r101,r102,r103⟩:=hO
 refine qaa<|wp_seq<|sg<|mv E rfl fun a E=>lw E (qaq rfl) fun a E=>fv E qb8 rfl fun a E=>ld E ok qc4 0 rfl rfl rfl fun a E=>?_
 refine lw E (qaW rfl rfl) fun a E=>wn<|cf E rfl hF (fun hc104 hF=>?_) fun hc104 hF=>?_
 ·refine sg<|aw E rfl fun a E=>wp_ret<|qaf ?_
  exact fin hF ⟨ok,E.d,⟨rv_t E rfl,trivial⟩,(ir 0),l100,r101,r102,r103⟩
 refine wp_skip<|qaa<|sg<|mv E rfl fun a E=>?_
 obtain ⟨r105,e106,hF⟩:=bnd hF
 refine qag E qfK rfl (qbu N r11.1 l13 e106 hG ok) rfl rfl ?_
 rintro _ w ⟨⟨rfl,ok⟩,r107⟩
 refine ⟨_,rfl,fun a E=>?_⟩
 refine mv E rfl fun a E=>lw E (qam rfl rfl) fun a E=>lw E (qam rfl rfl) fun a E=>av E rfl fun a E=>aw E rfl fun a E=>wp_seq ?_
 refine sg<|mv E rfl fun a E=>mv E rfl fun a E=>?_
 obtain ⟨r108,e109,hF⟩:=bnd hF
 replace ok:Ok u m0 ([(pb1,oc 3 [vi x1])] :: [(pb2,oc 3 [vi x2])] :: [(pb0,oc 88 [vs o88.s,vi o88.at_,vi o88.relations,vi o88.e])] :: S) w:=(ok.pk 3 [1,2,0] rfl (by decide))
 refine qcc E rfl qmU rfl (qdy N r105.1 r107 x1 r5 x2 r6 e109 hG ok) rfl rfl ?_
 rintro _ w ⟨⟨rfl,ok⟩,r110⟩
 refine ⟨_,rfl,fun a E=>?_⟩
 refine aw E rfl fun a E=>sg<|mv E rfl fun a E=>lw E (qaW rfl rfl) fun a E=>wpList_nil ?_
 refine qaa<|cf E rfl hF (fun hc111 hF=>?_) fun hc111 hF=>?_
 ·refine sg<|mv E rfl fun a E=>mv E rfl fun a E=>?_
  obtain ⟨r112,e113,hF⟩:=bnd hF
  replace ok:Ok u m0 ([(pb0,oc 88 [vs o88.s,vi o88.at_,vi o88.relations,vi o88.e])] :: [(pb1,oc 3 [vi x1])] :: [(pb2,oc 3 [vi x2])] :: S) w:=(ok.pk 3 [2,0,1] rfl (by decide))
  refine qag E qcP rfl (qaw N r108 r110 o88 l100 r101 r102 r103 e113 hG ok) rfl rfl ?_
  rintro _ w ⟨⟨rfl,ok⟩,l114,r115,r116,r117⟩
  refine ⟨_,rfl,fun a E=>?_⟩
  refine wn<|sg<|aw E rfl fun a E=>wp_ret ?_
  refine qaf ?_
  exact fin hF ⟨ok,E.d,⟨rv_t E rfl,trivial⟩,(ir 0),l114,r115,r116,r117⟩
 refine wp_skip<|qaa<|sg<|mv E rfl fun a E=>lw E (qaq rfl) fun a E=>fv E qaZ rfl fun a E=>ld E ok qaC 2 rfl rfl rfl fun a E=>?_
 refine mv E rfl fun a E=>lw E (qaL Tryz.underlying9 rfl) fun a E=>lw E (qbc rfl rfl) fun a E=>lw E (qaq rfl) fun a E=>fv E qaZ rfl fun a E=>qae E ok 2 rfl rfl rfl qbO rfl rfl ⟨rfl,trivial⟩ rfl rfl fun w ok=>wn ?_
 refine sg<|mv E rfl fun a E=>aw E rfl fun a E=>wp_ret ?_
 exact fin hF ⟨(ok.pk 3 [2,0,1] rfl (by decide)),E.d,⟨rv_t E rfl,trivial⟩,r107,l100,(InR.wrap _ _),r102,r103⟩
def qjN (u:World) (m0:Mem) (S:Segs) (pb0:Nat) (pb1:Nat) (x0:Int) (x1:Span) (r:Int) (a:Act) (w:World):Prop :=
 Ok u m0 ([(pb0,oc 3 [vi x0])] :: [(pb1,oc 49 [vi x1.From,vi x1.To])] :: S) w ∧ a.defers = [] ∧ RVs Tryz.prog a w [.t 4 (.int .i64 r)] ∧ InR .i64 r
theorem qdv (N:Nat) (n_0:Int) (rn_0:InR .i64 n_0) {pb0:Nat} (x0:Int) (r1:InR .i64 x0) {pb1:Nat} (x1:Span) (r2:InR .i64 x1.From) (r3:InR .i64 x1.To) {r:Int} (hF:qcs N n_0 x0 x1 = some r) (hG:Glob u) (ok:Ok u m0 ([(pb0,oc 3 [vi x0])] :: [(pb1,oc 49 [vi x1.From,vi x1.To])] :: S) w) :
  Calls Tryz.prog 129 [vi n_0,vp pb0,vp pb1].toArray w fun e w'=>(e = .returned (.int .i64 r) ∧ Ok u m0 ([(pb0,oc 3 [vi x0])] :: [(pb1,oc 49 [vi x1.From,vi x1.To])] :: S) w') ∧ InR .i64 r:=by
 unfold qcs at hF
 refine en (qjN u m0 S pb0 pb1 x0 x1) r Tryz.func129 rfl rfl rfl (by rintro a w ⟨ok,hd,hrv,h0⟩; exact qat [.t 4 (.int .i64 r)] hd rfl hrv ⟨⟨rfl,ok⟩,h0⟩) fun fin a E=>sg<|aw E rfl fun a E=>wp_seq<|wp_seq ?_
 refine qab<|mv E rfl fun a E=>ld E ok qaC 0 rfl rfl rfl fun a E=>?_
 obtain ⟨r4,e5,hF⟩:=bnd hF
 refine qag E qp2 rfl (qdR N x0 r1 e5 hG ok) rfl rfl ?_
 rintro _ w ⟨⟨rfl,ok⟩,r6⟩
 refine ⟨_,rfl,fun a E=>?_⟩
 refine lw E (qa4 rfl rfl) fun a E=>mv E rfl fun a E=>qav (decide (n_0 > r4)) (fun hc7=>?_) (fun hc7=>?_)
 ·replace hF:=qas hc7 hF
  replace E:=E.upd 9 hc7 rfl
  refine ls E fun a E=>ls E fun a E=>ls E fun a E=>ls E fun a E=>pt E rfl rfl fun a E=>wn<|c_if E rfl (fun _=>?_) (fun h=>by cases h)
  refine sg<|aw E rfl fun a E=>wp_ret<|qaf ?_
  exact fin hF ⟨ok,E.d,⟨rv_t E rfl,trivial⟩,(ir 2)⟩
 replace hF:=qar hc7 hF
 replace E:=E.upd 9 hc7 rfl
 refine mv E rfl fun a E=>fv E qgr rfl fun a E=>ld E ok qaC 1 rfl rfl rfl fun a E=>lw E (qaF rfl rfl) fun a E=>pf E rfl rfl fun a E=>wn<|cf E rfl hF (fun hc8 hF=>?_) fun hc8 hF=>?_
 ·refine sg<|aw E rfl fun a E=>wp_ret<|qaf ?_
  exact fin hF ⟨ok,E.d,⟨rv_t E rfl,trivial⟩,(ir 2)⟩
 refine wp_skip<|qaa<|sg<|aw E rfl fun a E=>wp_ret ?_
 exact fin hF ⟨ok,E.d,⟨rv_t E rfl,trivial⟩,(ir 0)⟩
def qiL (u:World) (m0:Mem) (S:Segs) (pb0:Nat) (pb1:Nat) (pb2:Nat) (x0:Parser) (x1:Int) (x2:Span) (r:Int × Parser) (a:Act) (w:World):Prop :=
 Ok u m0 ([(pb0,oc 88 [vs r.2.s,vi r.2.at_,vi r.2.relations,vi r.2.e])] :: [(pb1,oc 3 [vi x1])] :: [(pb2,oc 49 [vi x2.From,vi x2.To])] :: S) w ∧ a.defers = [] ∧ RVs Tryz.prog a w [.t 4 (.int .i64 r.1)] ∧ InR .i64 r.1 ∧ r.2.s.length ≤ LIMS ∧ InR .i64 r.2.at_ ∧ InR .i64 r.2.relations ∧ InR .i64 r.2.e
theorem qiD (N:Nat) {pb0:Nat} (x0:Parser) (l1:x0.s.length ≤ LIMS) (r2:InR .i64 x0.at_) (r3:InR .i64 x0.relations) (r4:InR .i64 x0.e) {pb1:Nat} (x1:Int) (r5:InR .i64 x1) {pb2:Nat} (x2:Span) (r6:InR .i64 x2.From) (r7:InR .i64 x2.To) {r:Int × Parser} (hF:qe8 N x0 x1 x2 = some r) (hG:Glob u) (ok:Ok u m0 ([(pb0,oc 88 [vs x0.s,vi x0.at_,vi x0.relations,vi x0.e])] :: [(pb1,oc 3 [vi x1])] :: [(pb2,oc 49 [vi x2.From,vi x2.To])] :: S) w) :
  Calls Tryz.prog 97 [vp pb0,Value.func (.func 129) #[] #[.pointer (some ⟨pb1,0,none⟩),.pointer (some ⟨pb2,0,none⟩)]].toArray w fun e w'=>(e = .returned (.int .i64 r.1) ∧ Ok u m0 ([(pb0,oc 88 [vs r.2.s,vi r.2.at_,vi r.2.relations,vi r.2.e])] :: [(pb1,oc 3 [vi x1])] :: [(pb2,oc 49 [vi x2.From,vi x2.To])] :: S) w') ∧ InR .i64 r.1 ∧ r.2.s.length ≤ LIMS ∧ InR .i64 r.2.at_ ∧ InR .i64 r.2.relations ∧ InR .i64 r.2.e:=by
 unfold qe8 at hF
 refine en (qiL u m0 S pb0 pb1 pb2 x0 x1 x2) r Tryz.func97 rfl rfl rfl (by rintro a w ⟨ok,hd,hrv,h0,h1,h2,h3,h4⟩; exact qat [.t 4 (.int .i64 r.1)] hd rfl hrv ⟨⟨rfl,ok⟩,h0,h1,h2,h3,h4⟩) fun fin a E=>sg<|aw E rfl fun a E=>sg ?_
 refine mv E rfl fun a E=>?_
 obtain ⟨r12,e13,hF⟩:=bnd hF
 refine qag E qnj rfl (qdd N x0 l1 r2 r3 r4 e13 hG ok) rfl rfl ?_
 rintro _ w ⟨⟨rfl,ok⟩,l14,l15,r16,r17,r18⟩
 refine ⟨_,rfl,fun a E=>?_⟩
 refine aw E rfl fun a E=>wp_seq<|sg<|mv E rfl fun a E=>lw E (qet rfl rfl) fun a E=>?_
 refine mv E rfl fun a E=>qav (r12.1 == ([])) (fun hc19=>?_) (fun hc19=>?_)
 ·as_aux_lemma =>
   replace hF:=qas hc19 hF
   replace E:=E.upd 13 hc19 rfl
   refine ls E fun a E=>ls E fun a E=>ls E fun a E=>ls E fun a E=>pt E rfl rfl fun a E=>mv E rfl fun a E=>ls E fun a E=>ls E fun a E=>?_
   refine ls E fun a E=>pt E rfl rfl fun a E=>mv E rfl fun a E=>ls E fun a E=>ls E fun a E=>ls E fun a E=>ls E fun a E=>ls E fun a E=>?_
   refine ls E fun a E=>ls E fun a E=>ls E fun a E=>pt E rfl rfl fun a E=>wn<|c_if E rfl (fun _=>?_) (fun h=>by cases h)
   refine qab<|mv E rfl fun a E=>?_
   obtain ⟨r20,e21,hF⟩:=bnd hF
   refine qag E qcP rfl (qaw N 3 (ir 3) r12.2 l15 r16 r17 r18 e21 hG ok) rfl rfl ?_
   rintro _ w ⟨⟨rfl,ok⟩,l22,r23,r24,r25⟩
   refine ⟨_,rfl,fun a E=>?_⟩
   refine wn<|wp_seq<|sg<|mv E rfl fun a E=>lw E (qaq rfl) fun a E=>fv E qb8 rfl fun a E=>?_
   refine ld E ok qc4 0 rfl rfl rfl fun a E=>lw E (qaW rfl rfl) fun a E=>wn<|cf E rfl hF (fun hc26 hF=>?_) fun hc26 hF=>?_
   ·refine sg<|aw E rfl fun a E=>wp_ret<|qaf ?_
    exact fin hF ⟨ok,E.d,⟨rv_t E rfl,trivial⟩,(ir 0),l22,r23,r24,r25⟩
   refine wp_skip<|qaa<|sg<|mv E rfl fun a E=>?_
   obtain ⟨r27,e28,hF⟩:=bnd hF
   refine qag E qfK rfl (qbu N r12.1 l14 e28 hG ok) rfl rfl ?_
   rintro _ w ⟨⟨rfl,ok⟩,r29⟩
   refine ⟨_,rfl,fun a E=>?_⟩
   refine mv E rfl fun a E=>lw E (qam rfl rfl) fun a E=>lw E (qam rfl rfl) fun a E=>av E rfl fun a E=>aw E rfl fun a E=>wp_seq ?_
   refine sg<|mv E rfl fun a E=>mv E rfl fun a E=>?_
   obtain ⟨r30,e31,hF⟩:=bnd hF
   replace ok:Ok u m0 ([(pb1,oc 3 [vi x1])] :: [(pb2,oc 49 [vi x2.From,vi x2.To])] :: [(pb0,oc 88 [vs r20.s,vi r20.at_,vi r20.relations,vi r20.e])] :: S) w:=(ok.pk 3 [1,2,0] rfl (by decide))
   refine qcc E rfl qmG rfl (qdv N r27.1 r29 x1 r5 x2 r6 r7 e31 hG ok) rfl rfl ?_
   rintro _ w ⟨⟨rfl,ok⟩,r32⟩
   refine ⟨_,rfl,fun a E=>?_⟩
   refine aw E rfl fun a E=>sg<|mv E rfl fun a E=>lw E (qaW rfl rfl) fun a E=>wpList_nil ?_
   refine qaa<|cf E rfl hF (fun hc33 hF=>?_) fun hc33 hF=>?_
   ·refine sg<|mv E rfl fun a E=>mv E rfl fun a E=>?_
    obtain ⟨r34,e35,hF⟩:=bnd hF
    replace ok:Ok u m0 ([(pb0,oc 88 [vs r20.s,vi r20.at_,vi r20.relations,vi r20.e])] :: [(pb1,oc 3 [vi x1])] :: [(pb2,oc 49 [vi x2.From,vi x2.To])] :: S) w:=(ok.pk 3 [2,0,1] rfl (by decide))
    refine qag E qcP rfl (qaw N r30 r32 r20 l22 r23 r24 r25 e35 hG ok) rfl rfl ?_
    rintro _ w ⟨⟨rfl,ok⟩,l36,r37,r38,r39⟩
    refine ⟨_,rfl,fun a E=>?_⟩
    refine wn<|sg<|aw E rfl fun a E=>wp_ret ?_
    refine qaf ?_
    exact fin hF ⟨ok,E.d,⟨rv_t E rfl,trivial⟩,(ir 0),l36,r37,r38,r39⟩
   refine wp_skip<|qaa<|sg<|mv E rfl fun a E=>lw E (qaq rfl) fun a E=>fv E qaZ rfl fun a E=>ld E ok qaC 2 rfl rfl rfl fun a E=>?_
   refine mv E rfl fun a E=>lw E (qaL Tryz.underlying9 rfl) fun a E=>lw E (qbc rfl rfl) fun a E=>lw E (qaq rfl) fun a E=>fv E qaZ rfl fun a E=>qae E ok 2 rfl rfl rfl qbO rfl rfl ⟨rfl,trivial⟩ rfl rfl fun w ok=>wn ?_
   refine sg<|mv E rfl fun a E=>aw E rfl fun a E=>wp_ret ?_
   exact fin hF ⟨(ok.pk 3 [2,0,1] rfl (by decide)),E.d,⟨rv_t E rfl,trivial⟩,r29,l22,(InR.wrap _ _),r24,r25⟩
 replace hF:=qar hc19 hF
 replace E:=E.upd 13 hc19 rfl
 refine mv E rfl fun a E=>?_
 obtain ⟨c40,e41,hF⟩:=bnd hF
 refine lv E ok (qbB Tryz.underlying9 rfl rfl e41) fun a E=>?_
 obtain ⟨r42,e43,hF⟩:=bnd hF
 refine lc E qm4 rfl (qfG N (c40.toNat:Int) (InR.byte c40) e43 hG ok) fun w ok a E=>lw E (qaS rfl) fun a E=>pf E rfl rfl fun a E=>mv E rfl fun a E=>qav (!r42) (fun hc44=>?_) (fun hc44=>?_)
 ·as_aux_lemma =>
   replace hF:=qas hc44 hF
   replace E:=E.upd 19 hc44 rfl
   refine ls E fun a E=>ls E fun a E=>ls E fun a E=>pt E rfl rfl fun a E=>mv E rfl fun a E=>ls E fun a E=>ls E fun a E=>ls E fun a E=>?_
   refine ls E fun a E=>ls E fun a E=>ls E fun a E=>ls E fun a E=>ls E fun a E=>pt E rfl rfl fun a E=>wn ?_
   refine c_if E rfl (fun _=>?_) (fun h=>by cases h)
   refine qab<|mv E rfl fun a E=>?_
   obtain ⟨r45,e46,hF⟩:=bnd hF
   refine qag E qcP rfl (qaw N 3 (ir 3) r12.2 l15 r16 r17 r18 e46 hG ok) rfl rfl ?_
   rintro _ w ⟨⟨rfl,ok⟩,l47,r48,r49,r50⟩
   refine ⟨_,rfl,fun a E=>?_⟩
   refine wn<|wp_seq<|sg<|mv E rfl fun a E=>lw E (qaq rfl) fun a E=>fv E qb8 rfl fun a E=>?_
   refine ld E ok qc4 0 rfl rfl rfl fun a E=>lw E (qaW rfl rfl) fun a E=>wn<|cf E rfl hF (fun hc51 hF=>?_) fun hc51 hF=>?_
   ·refine sg<|aw E rfl fun a E=>wp_ret<|qaf ?_
    exact fin hF ⟨ok,E.d,⟨rv_t E rfl,trivial⟩,(ir 0),l47,r48,r49,r50⟩
   refine wp_skip<|qaa<|sg<|mv E rfl fun a E=>?_
   obtain ⟨r52,e53,hF⟩:=bnd hF
   refine qag E qfK rfl (qbu N r12.1 l14 e53 hG ok) rfl rfl ?_
   rintro _ w ⟨⟨rfl,ok⟩,r54⟩
   refine ⟨_,rfl,fun a E=>?_⟩
   refine mv E rfl fun a E=>lw E (qam rfl rfl) fun a E=>lw E (qam rfl rfl) fun a E=>av E rfl fun a E=>aw E rfl fun a E=>wp_seq ?_
   refine sg<|mv E rfl fun a E=>mv E rfl fun a E=>?_
   obtain ⟨r55,e56,hF⟩:=bnd hF
   replace ok:Ok u m0 ([(pb1,oc 3 [vi x1])] :: [(pb2,oc 49 [vi x2.From,vi x2.To])] :: [(pb0,oc 88 [vs r45.s,vi r45.at_,vi r45.relations,vi r45.e])] :: S) w:=(ok.pk 3 [1,2,0] rfl (by decide))
   refine qcc E rfl qmG rfl (qdv N r52.1 r54 x1 r5 x2 r6 r7 e56 hG ok) rfl rfl ?_
   rintro _ w ⟨⟨rfl,ok⟩,r57⟩
   refine ⟨_,rfl,fun a E=>?_⟩
   refine aw E rfl fun a E=>sg<|mv E rfl fun a E=>lw E (qaW rfl rfl) fun a E=>wpList_nil ?_
   refine qaa<|cf E rfl hF (fun hc58 hF=>?_) fun hc58 hF=>?_
   ·refine sg<|mv E rfl fun a E=>mv E rfl fun a E=>?_
    obtain ⟨r59,e60,hF⟩:=bnd hF
    replace ok:Ok u m0 ([(pb0,oc 88 [vs r45.s,vi r45.at_,vi r45.relations,vi r45.e])] :: [(pb1,oc 3 [vi x1])] :: [(pb2,oc 49 [vi x2.From,vi x2.To])] :: S) w:=(ok.pk 3 [2,0,1] rfl (by decide))
    refine qag E qcP rfl (qaw N r55 r57 r45 l47 r48 r49 r50 e60 hG ok) rfl rfl ?_
    rintro _ w ⟨⟨rfl,ok⟩,l61,r62,r63,r64⟩
    refine ⟨_,rfl,fun a E=>?_⟩
    refine wn<|sg<|aw E rfl fun a E=>wp_ret ?_
    refine qaf ?_
    exact fin hF ⟨ok,E.d,⟨rv_t E rfl,trivial⟩,(ir 0),l61,r62,r63,r64⟩
   refine wp_skip<|qaa<|sg<|mv E rfl fun a E=>lw E (qaq rfl) fun a E=>fv E qaZ rfl fun a E=>ld E ok qaC 2 rfl rfl rfl fun a E=>?_
   refine mv E rfl fun a E=>lw E (qaL Tryz.underlying9 rfl) fun a E=>lw E (qbc rfl rfl) fun a E=>lw E (qaq rfl) fun a E=>fv E qaZ rfl fun a E=>qae E ok 2 rfl rfl rfl qbO rfl rfl ⟨rfl,trivial⟩ rfl rfl fun w ok=>wn ?_
   refine sg<|mv E rfl fun a E=>aw E rfl fun a E=>wp_ret ?_
   exact fin hF ⟨(ok.pk 3 [2,0,1] rfl (by decide)),E.d,⟨rv_t E rfl,trivial⟩,r54,l47,(InR.wrap _ _),r49,r50⟩
 replace hF:=qar hc44 hF
 replace E:=E.upd 19 hc44 rfl
 refine mv E rfl fun a E=>lw E (qaL Tryz.underlying9 rfl) fun a E=>lw E (qa4 rfl rfl) fun a E=>pf E rfl rfl fun a E=>mv E rfl fun a E=>qav (decide ((r12.1.length:Int) > 3)) (fun hc65=>?_) (fun hc65=>?_)
 ·as_aux_lemma =>
   replace hF:=qas hc65 hF
   replace E:=E.upd 24 hc65 rfl
   refine ls E fun a E=>ls E fun a E=>ls E fun a E=>ls E fun a E=>ls E fun a E=>ls E fun a E=>ls E fun a E=>ls E fun a E=>?_
   refine pt E rfl rfl fun a E=>wn<|c_if E rfl (fun _=>?_) (fun h=>by cases h)
   refine qab<|mv E rfl fun a E=>?_
   obtain ⟨r66,e67,hF⟩:=bnd hF
   refine qag E qcP rfl (qaw N 3 (ir 3) r12.2 l15 r16 r17 r18 e67 hG ok) rfl rfl ?_
   rintro _ w ⟨⟨rfl,ok⟩,l68,r69,r70,r71⟩
   refine ⟨_,rfl,fun a E=>?_⟩
   refine wn<|wp_seq<|sg<|mv E rfl fun a E=>lw E (qaq rfl) fun a E=>fv E qb8 rfl fun a E=>?_
   refine ld E ok qc4 0 rfl rfl rfl fun a E=>lw E (qaW rfl rfl) fun a E=>wn<|cf E rfl hF (fun hc72 hF=>?_) fun hc72 hF=>?_
   ·refine sg<|aw E rfl fun a E=>wp_ret<|qaf ?_
    exact fin hF ⟨ok,E.d,⟨rv_t E rfl,trivial⟩,(ir 0),l68,r69,r70,r71⟩
   refine wp_skip<|qaa<|sg<|mv E rfl fun a E=>?_
   obtain ⟨r73,e74,hF⟩:=bnd hF
   refine qag E qfK rfl (qbu N r12.1 l14 e74 hG ok) rfl rfl ?_
   rintro _ w ⟨⟨rfl,ok⟩,r75⟩
   refine ⟨_,rfl,fun a E=>?_⟩
   refine mv E rfl fun a E=>lw E (qam rfl rfl) fun a E=>lw E (qam rfl rfl) fun a E=>av E rfl fun a E=>aw E rfl fun a E=>wp_seq ?_
   refine sg<|mv E rfl fun a E=>mv E rfl fun a E=>?_
   obtain ⟨r76,e77,hF⟩:=bnd hF
   replace ok:Ok u m0 ([(pb1,oc 3 [vi x1])] :: [(pb2,oc 49 [vi x2.From,vi x2.To])] :: [(pb0,oc 88 [vs r66.s,vi r66.at_,vi r66.relations,vi r66.e])] :: S) w:=(ok.pk 3 [1,2,0] rfl (by decide))
   refine qcc E rfl qmG rfl (qdv N r73.1 r75 x1 r5 x2 r6 r7 e77 hG ok) rfl rfl ?_
   rintro _ w ⟨⟨rfl,ok⟩,r78⟩
   refine ⟨_,rfl,fun a E=>?_⟩
   refine aw E rfl fun a E=>sg<|mv E rfl fun a E=>lw E (qaW rfl rfl) fun a E=>wpList_nil ?_
   refine qaa<|cf E rfl hF (fun hc79 hF=>?_) fun hc79 hF=>?_
   ·refine sg<|mv E rfl fun a E=>mv E rfl fun a E=>?_
    obtain ⟨r80,e81,hF⟩:=bnd hF
    replace ok:Ok u m0 ([(pb0,oc 88 [vs r66.s,vi r66.at_,vi r66.relations,vi r66.e])] :: [(pb1,oc 3 [vi x1])] :: [(pb2,oc 49 [vi x2.From,vi x2.To])] :: S) w:=(ok.pk 3 [2,0,1] rfl (by decide))
    refine qag E qcP rfl (qaw N r76 r78 r66 l68 r69 r70 r71 e81 hG ok) rfl rfl ?_
    rintro _ w ⟨⟨rfl,ok⟩,l82,r83,r84,r85⟩
    refine ⟨_,rfl,fun a E=>?_⟩
    refine wn<|sg<|aw E rfl fun a E=>wp_ret ?_
    refine qaf ?_
    exact fin hF ⟨ok,E.d,⟨rv_t E rfl,trivial⟩,(ir 0),l82,r83,r84,r85⟩
   refine wp_skip<|qaa<|sg<|mv E rfl fun a E=>lw E (qaq rfl) fun a E=>fv E qaZ rfl fun a E=>ld E ok qaC 2 rfl rfl rfl fun a E=>?_
   refine mv E rfl fun a E=>lw E (qaL Tryz.underlying9 rfl) fun a E=>lw E (qbc rfl rfl) fun a E=>lw E (qaq rfl) fun a E=>fv E qaZ rfl fun a E=>qae E ok 2 rfl rfl rfl qbO rfl rfl ⟨rfl,trivial⟩ rfl rfl fun w ok=>wn ?_
   refine sg<|mv E rfl fun a E=>aw E rfl fun a E=>wp_ret ?_
   exact fin hF ⟨(ok.pk 3 [2,0,1] rfl (by decide)),E.d,⟨rv_t E rfl,trivial⟩,r75,l68,(InR.wrap _ _),r70,r71⟩
 replace hF:=qar hc65 hF
 replace E:=E.upd 24 hc65 rfl
 refine mv E rfl fun a E=>lw E (qaL Tryz.underlying9 rfl) fun a E=>lw E (qa4 rfl rfl) fun a E=>mv E rfl fun a E=>qav (decide ((r12.1.length:Int) > 1)) (fun hc86=>?_) (fun hc86=>?_)
 rotate_left
 ·as_aux_lemma =>
   replace hF:=qar hc86 hF
   replace E:=E.upd 28 hc86 rfl
   refine ls E fun a E=>ls E fun a E=>ls E fun a E=>pf E rfl rfl fun a E=>pf E rfl rfl fun a E=>wn<|c_if E rfl (fun h=>by cases h) (fun _=>?_)
   refine wp_skip<|qaa<|wp_seq<|sg<|mv E rfl fun a E=>lw E (qaq rfl) fun a E=>fv E qb8 rfl fun a E=>?_
   refine ld E ok qc4 0 rfl rfl rfl fun a E=>lw E (qaW rfl rfl) fun a E=>wn<|cf E rfl hF (fun hc119 hF=>?_) fun hc119 hF=>?_
   ·refine sg<|aw E rfl fun a E=>wp_ret<|qaf ?_
    exact fin hF ⟨ok,E.d,⟨rv_t E rfl,trivial⟩,(ir 0),l15,r16,r17,r18⟩
   refine wp_skip<|qaa<|sg<|mv E rfl fun a E=>?_
   obtain ⟨r120,e121,hF⟩:=bnd hF
   refine qag E qfK rfl (qbu N r12.1 l14 e121 hG ok) rfl rfl ?_
   rintro _ w ⟨⟨rfl,ok⟩,r122⟩
   refine ⟨_,rfl,fun a E=>?_⟩
   refine mv E rfl fun a E=>lw E (qam rfl rfl) fun a E=>lw E (qam rfl rfl) fun a E=>av E rfl fun a E=>aw E rfl fun a E=>wp_seq ?_
   refine sg<|mv E rfl fun a E=>mv E rfl fun a E=>?_
   obtain ⟨r123,e124,hF⟩:=bnd hF
   replace ok:Ok u m0 ([(pb1,oc 3 [vi x1])] :: [(pb2,oc 49 [vi x2.From,vi x2.To])] :: [(pb0,oc 88 [vs r12.2.s,vi r12.2.at_,vi r12.2.relations,vi r12.2.e])] :: S) w:=(ok.pk 3 [1,2,0] rfl (by decide))
   refine qcc E rfl qmG rfl (qdv N r120.1 r122 x1 r5 x2 r6 r7 e124 hG ok) rfl rfl ?_
   rintro _ w ⟨⟨rfl,ok⟩,r125⟩
   refine ⟨_,rfl,fun a E=>?_⟩
   refine aw E rfl fun a E=>sg<|mv E rfl fun a E=>lw E (qaW rfl rfl) fun a E=>wpList_nil ?_
   refine qaa<|cf E rfl hF (fun hc126 hF=>?_) fun hc126 hF=>?_
   ·refine sg<|mv E rfl fun a E=>mv E rfl fun a E=>?_
    obtain ⟨r127,e128,hF⟩:=bnd hF
    replace ok:Ok u m0 ([(pb0,oc 88 [vs r12.2.s,vi r12.2.at_,vi r12.2.relations,vi r12.2.e])] :: [(pb1,oc 3 [vi x1])] :: [(pb2,oc 49 [vi x2.From,vi x2.To])] :: S) w:=(ok.pk 3 [2,0,1] rfl (by decide))
    refine qag E qcP rfl (qaw N r123 r125 r12.2 l15 r16 r17 r18 e128 hG ok) rfl rfl ?_
    rintro _ w ⟨⟨rfl,ok⟩,l129,r130,r131,r132⟩
    refine ⟨_,rfl,fun a E=>?_⟩
    refine wn<|sg<|aw E rfl fun a E=>wp_ret ?_
    refine qaf ?_
    exact fin hF ⟨ok,E.d,⟨rv_t E rfl,trivial⟩,(ir 0),l129,r130,r131,r132⟩
   refine wp_skip<|qaa<|sg<|mv E rfl fun a E=>lw E (qaq rfl) fun a E=>fv E qaZ rfl fun a E=>ld E ok qaC 2 rfl rfl rfl fun a E=>?_
   refine mv E rfl fun a E=>lw E (qaL Tryz.underlying9 rfl) fun a E=>lw E (qbc rfl rfl) fun a E=>lw E (qaq rfl) fun a E=>fv E qaZ rfl fun a E=>qae E ok 2 rfl rfl rfl qbO rfl rfl ⟨rfl,trivial⟩ rfl rfl fun w ok=>wn ?_
   refine sg<|mv E rfl fun a E=>aw E rfl fun a E=>wp_ret ?_
   exact fin hF ⟨(ok.pk 3 [2,0,1] rfl (by decide)),E.d,⟨rv_t E rfl,trivial⟩,r122,l15,(InR.wrap _ _),r17,r18⟩
 replace hF:=qas hc86 hF
 replace E:=E.upd 28 hc86 rfl
 refine mv E rfl fun a E=>?_
 obtain ⟨c87,e88,hF⟩:=bnd hF
 refine lv E ok (qbB Tryz.underlying9 rfl rfl e88) fun a E=>lw E (qaM rfl rfl) fun a E=>pt E rfl rfl fun a E=>pf E rfl rfl fun a E=>wn ?_
 obtain ⟨o89,hJ,hF⟩:=bnd hF
 refine qaV (Q':=fun e a w=>e = .normal ∧ Ok u m0 ([(pb0,oc 88 [vs o89.s,vi o89.at_,vi o89.relations,vi o89.e])] :: [(pb1,oc 3 [vi x1])] :: [(pb2,oc 49 [vi x2.From,vi x2.To])] :: S) w ∧ Env 64 a [(0,vp pb0),(1,(Value.func (.func 129) #[] #[.pointer (some ⟨pb1,0,none⟩),.pointer (some ⟨pb2,0,none⟩)])),(5,vs r12.1)] ∧ o89.s.length ≤ LIMS ∧ InR .i64 o89.at_ ∧ InR .i64 o89.relations ∧ InR .i64 o89.e) ?_ ?_
 ·replace hF:=hJ
  clear hJ
  refine cf E rfl hF (fun hc94 hF=>?_) fun hc94 hF=>?_
  rotate_left
  ·refine wp_skip ?_
   obtain rfl:=sj hF
   exact ⟨rfl,⟨ok,E.keep [0,1,5],l15,r16,r17,r18⟩⟩
  refine qab<|mv E rfl fun a E=>?_
  obtain ⟨r95,e96,hF⟩:=bnd hF
  refine qag E qcP rfl (qaw N 3 (ir 3) r12.2 l15 r16 r17 r18 e96 hG ok) rfl rfl ?_
  rintro _ w ⟨⟨rfl,ok⟩,l97,r98,r99,r100⟩
  refine ⟨_,rfl,fun a E=>?_⟩
  refine wpList_nil ?_
  obtain rfl:=sj hF
  exact ⟨rfl,⟨ok,E.keep [0,1,5],l97,r98,r99,r100⟩⟩
 clear hJ
 intro e a w hO
 obtain ⟨rfl,ok,E,l101,r102,r103,r104⟩:=hO
 refine qaa<|wp_seq<|sg<|mv E rfl fun a E=>lw E (qaq rfl) fun a E=>fv E qb8 rfl fun a E=>ld E ok qc4 0 rfl rfl rfl fun a E=>?_
 refine lw E (qaW rfl rfl) fun a E=>wn<|cf E rfl hF (fun hc105 hF=>?_) fun hc105 hF=>?_
 ·refine sg<|aw E rfl fun a E=>wp_ret<|qaf ?_
  exact fin hF ⟨ok,E.d,⟨rv_t E rfl,trivial⟩,(ir 0),l101,r102,r103,r104⟩
 refine wp_skip<|qaa<|sg<|mv E rfl fun a E=>?_
 obtain ⟨r106,e107,hF⟩:=bnd hF
 refine qag E qfK rfl (qbu N r12.1 l14 e107 hG ok) rfl rfl ?_
 rintro _ w ⟨⟨rfl,ok⟩,r108⟩
 refine ⟨_,rfl,fun a E=>?_⟩
 refine mv E rfl fun a E=>lw E (qam rfl rfl) fun a E=>lw E (qam rfl rfl) fun a E=>av E rfl fun a E=>aw E rfl fun a E=>wp_seq ?_
 refine sg<|mv E rfl fun a E=>mv E rfl fun a E=>?_
 obtain ⟨r109,e110,hF⟩:=bnd hF
 replace ok:Ok u m0 ([(pb1,oc 3 [vi x1])] :: [(pb2,oc 49 [vi x2.From,vi x2.To])] :: [(pb0,oc 88 [vs o89.s,vi o89.at_,vi o89.relations,vi o89.e])] :: S) w:=(ok.pk 3 [1,2,0] rfl (by decide))
 refine qcc E rfl qmG rfl (qdv N r106.1 r108 x1 r5 x2 r6 r7 e110 hG ok) rfl rfl ?_
 rintro _ w ⟨⟨rfl,ok⟩,r111⟩
 refine ⟨_,rfl,fun a E=>?_⟩
 refine aw E rfl fun a E=>sg<|mv E rfl fun a E=>lw E (qaW rfl rfl) fun a E=>wpList_nil ?_
 refine qaa<|cf E rfl hF (fun hc112 hF=>?_) fun hc112 hF=>?_
 ·refine sg<|mv E rfl fun a E=>mv E rfl fun a E=>?_
  obtain ⟨r113,e114,hF⟩:=bnd hF
  replace ok:Ok u m0 ([(pb0,oc 88 [vs o89.s,vi o89.at_,vi o89.relations,vi o89.e])] :: [(pb1,oc 3 [vi x1])] :: [(pb2,oc 49 [vi x2.From,vi x2.To])] :: S) w:=(ok.pk 3 [2,0,1] rfl (by decide))
  refine qag E qcP rfl (qaw N r109 r111 o89 l101 r102 r103 r104 e114 hG ok) rfl rfl ?_
  rintro _ w ⟨⟨rfl,ok⟩,l115,r116,r117,r118⟩
  refine ⟨_,rfl,fun a E=>?_⟩
  refine wn<|sg<|aw E rfl fun a E=>wp_ret ?_
  refine qaf ?_
  exact fin hF ⟨ok,E.d,⟨rv_t E rfl,trivial⟩,(ir 0),l115,r116,r117,r118⟩
 refine wp_skip<|qaa<|sg<|mv E rfl fun a E=>lw E (qaq rfl) fun a E=>fv E qaZ rfl fun a E=>ld E ok qaC 2 rfl rfl rfl fun a E=>?_
 refine mv E rfl fun a E=>lw E (qaL Tryz.underlying9 rfl) fun a E=>lw E (qbc rfl rfl) fun a E=>lw E (qaq rfl) fun a E=>fv E qaZ rfl fun a E=>qae E ok 2 rfl rfl rfl qbO rfl rfl ⟨rfl,trivial⟩ rfl rfl fun w ok=>wn ?_
 refine sg<|mv E rfl fun a E=>aw E rfl fun a E=>wp_ret ?_
 exact fin hF ⟨(ok.pk 3 [2,0,1] rfl (by decide)),E.d,⟨rv_t E rfl,trivial⟩,r108,l101,(InR.wrap _ _),r103,r104⟩
def qkn (u:World) (m0:Mem) (S:Segs) (pb0:Nat) (x0:Parser) (r:Span × Parser) (a:Act) (w:World):Prop :=
 ∃ m1 v0,m0.le m1 ∧ Ok u m1 ([(pb0,oc 88 [vs r.2.s,vi r.2.at_,vi r.2.relations,vi r.2.e])] :: S) w ∧ a.defers = [] ∧ RVs Tryz.prog a w [.c 6 49 (.agg v0.toArray)] ∧ qeB m1 v0 r.1 ∧ r.2.s.length ≤ LIMS ∧ InR .i64 r.2.at_ ∧ InR .i64 r.2.relations ∧ InR .i64 r.2.e
theorem qh4 (N:Nat) (operand_1:Int) (roperand_1:InR .i64 operand_1) (count_2:Int) (rcount_2:InR .i64 count_2) {pb0:Nat} (x0:Parser) (l1:x0.s.length ≤ LIMS) (r2:InR .i64 x0.at_) (r3:InR .i64 x0.relations) (r4:InR .i64 x0.e) {r:Span × Parser} (hF:qfs N operand_1 count_2 x0 = some r) (hG:Glob u) (ok:Ok u m0 ([(pb0,oc 88 [vs x0.s,vi x0.at_,vi x0.relations,vi x0.e])] :: S) w) :
  Calls Tryz.prog 99 [vp pb0,vi operand_1,vi count_2].toArray w fun e w'=>∃ m1 v0,e = .returned (.agg v0.toArray) ∧ m0.le m1 ∧ Ok u m1 ([(pb0,oc 88 [vs r.2.s,vi r.2.at_,vi r.2.relations,vi r.2.e])] :: S) w' ∧ qeB m1 v0 r.1 ∧ r.2.s.length ≤ LIMS ∧ InR .i64 r.2.at_ ∧ InR .i64 r.2.relations ∧ InR .i64 r.2.e:=by
 have le_m0:=Mem.le.refl m0
 unfold qfs at hF
 refine en (qkn u m0 S pb0 x0) r Tryz.func99 rfl rfl rfl (by rintro a w ⟨m1,v0,hle,ok,hd,hrv,h0,h1,h2,h3,h4⟩; exact qat [.c 6 49 (.agg v0.toArray)] hd rfl hrv ⟨m1,v0,rfl,hle,ok,h0,h1,h2,h3,h4⟩) fun fin a E=>sg<|qcH E ok rfl rfl rfl fun b9 a w E ok=>qcH E ok rfl rfl rfl fun b10 a w E ok=>qaR E ok qfb rfl rfl fun b11 a w E ok=>wn ?_
 refine sg<|lv E ok (qbI (caps:=[.tmp 4,.tmp 5]) rfl) fun a E=>aw E rfl fun a E=>sg ?_
 refine mv E rfl fun a E=>mv E rfl fun a E=>?_
 obtain ⟨r12,e13,hF⟩:=bnd hF
 replace ok:Ok u m0 ([(pb0,oc 88 [vs x0.s,vi x0.at_,vi x0.relations,vi x0.e])] :: [(b9,oc 3 [vi operand_1])] :: [(b10,oc 3 [vi count_2])] :: [(b11,oc 49 [vi 0,vi 0])] :: S) w:=(ok.pk 4 [3,2,1,0] rfl (by decide))
 refine qag E qpV rfl (qiP N x0 l1 r2 r3 r4 operand_1 roperand_1 count_2 rcount_2 e13 hG ok) rfl rfl ?_
 rintro _ w ⟨⟨rfl,ok⟩,r14,l15,r16,r17,r18⟩
 refine ⟨_,rfl,fun a E=>?_⟩
 refine lw E (qa0 (ps:=[(0,.tmp 12)]) (qs:=[(0,[vi r12.1])]) (cs:=[vi r12.1,vi 0]) qfb qpB rfl ⟨rfl,rfl,rfl,trivial⟩ rfl) fun a E=>qaR E ok qfb rfl rfl fun b19 a w E ok=>qae E ok 0 rfl rfl rfl qiF rfl rfl ⟨rfl,rfl,trivial⟩ rfl rfl fun w ok=>wn<|sg<|fv E qgr rfl fun a E=>?_
 refine ld E ok qaC 0 rfl rfl rfl fun a E=>fv E qf4 rfl fun a E=>qae E ok 0 rfl rfl rfl qbO rfl rfl ⟨rfl,trivial⟩ rfl rfl fun w ok=>wn<|wp_seq<|sg ?_
 refine mv E rfl fun a E=>?_
 obtain ⟨r20,e21,hF⟩:=bnd hF
 replace ok:Ok u m0 ([(pb0,oc 88 [vs r12.2.s,vi r12.2.at_,vi r12.2.relations,vi r12.2.e])] :: [(b19,oc 49 [vi r12.1,vi r12.1])] :: [(b9,oc 3 [vi operand_1])] :: [(b10,oc 3 [vi count_2])] :: [(b11,oc 49 [vi 0,vi 0])] :: S) w:=(ok.pk 5 [1,0,2,3,4] rfl (by decide))
 refine qag E qlW rfl (qcp N ([46,46]) (show ([46,46]:List UInt8).length ≤ LIMS by decide) r12.2 l15 r16 r17 r18 e21 hG ok) rfl rfl ?_
 rintro _ w ⟨⟨rfl,ok⟩,l22,r23,r24,r25⟩
 refine ⟨_,rfl,fun a E=>?_⟩
 refine wn<|cf E rfl hF (fun hc26 hF=>?_) fun hc26 hF=>?_
 rotate_left
 ·refine wp_skip<|qaa<|sg<|lv E ok (qao (cs:=[vi r12.1,vi r12.1]) qhI rfl rfl (qac.own 1 rfl rfl)) fun a E=>qae E ok 4 rfl rfl rfl qiF rfl rfl ⟨rfl,rfl,trivial⟩ rfl rfl fun w ok=>wn ?_
  refine wp_ret ?_
  exact fin hF ⟨m0,[vi r12.1,vi r12.1],le_m0,(ok.pk 5 [0] rfl (by decide)),E.d,⟨rv_c (cs:=[vi r12.1,vi r12.1]) E ok rfl qhI rfl (qac.own 4 rfl rfl),trivial⟩,⟨rfl,r14,r14⟩,l22,r23,r24,r25⟩
 refine qab<|mv E rfl fun a E=>lv E ok (qbI (caps:=[.tmp 4,.tmp 8]) rfl) fun a E=>?_
 obtain ⟨r27,e28,hF⟩:=bnd hF
 replace ok:Ok u m0 ([(pb0,oc 88 [vs r20.2.s,vi r20.2.at_,vi r20.2.relations,vi r20.2.e])] :: [(b9,oc 3 [vi operand_1])] :: [(b19,oc 49 [vi r12.1,vi r12.1])] :: [(b10,oc 3 [vi count_2])] :: [(b11,oc 49 [vi 0,vi 0])] :: S) w:=(ok.pk 5 [0,2,1,3,4] rfl (by decide))
 refine qag E qpV rfl (qiD N r20.2 l22 r23 r24 r25 operand_1 roperand_1 (Span.mk r12.1 r12.1) r14 r14 e28 hG ok) rfl rfl ?_
 rintro _ w ⟨⟨rfl,ok⟩,r29,l30,r31,r32,r33⟩
 refine ⟨_,rfl,fun a E=>?_⟩
 refine fv E qf4 rfl fun a E=>qae E ok 2 rfl rfl rfl qbO rfl rfl ⟨rfl,trivial⟩ rfl rfl fun w ok=>wn<|sg<|lv E ok (qao (cs:=[vi r12.1,vi r27.1]) qhI rfl rfl (qac.own 2 rfl rfl)) fun a E=>qae E ok 4 rfl rfl rfl qiF rfl rfl ⟨rfl,rfl,trivial⟩ rfl rfl fun w ok=>?_
 refine wn<|wp_ret ?_
 exact fin hF ⟨m0,[vi r12.1,vi r27.1],le_m0,(ok.pk 5 [0] rfl (by decide)),E.d,⟨rv_c (cs:=[vi r12.1,vi r27.1]) E ok rfl qhI rfl (qac.own 4 rfl rfl),trivial⟩,⟨rfl,r14,r29⟩,l30,r31,r32,r33⟩
end Go.Proofs.YtboacfcnmhnbdaaGreatDoor
