/- Texts of this proof, put together by pack.py: what its declarations name. -/
import Derived.Test.YtboacfcnmhnbdaaGreatDoorPkX1
import Derived.Test.YtboacfcnmhnbdaaGreatDoorCards
import Derived.Test.YtboacfcnmhnbdaaGreatDoorChecked
import Derived.Test.YtboacfcnmhnbdaaGreatDoorProg
import Derived.Test.YtboacfcnmhnbdaaGreatDoorRows
import Derived.Test.YtboacfcnmhnbdaaGreatDoorTie
set_option linter.unusedVariables false
namespace Go.Proofs.YtboacfcnmhnbdaaGreatDoor
open Go.X
variable {u:World} {m0:Mem} {S:Segs} {w:World}
set_option maxHeartbeats 4000000
set_option maxRecDepth 100000
def Glob (u:World):Prop:=∃ mx,u.cell? ⟨0,0,none⟩ = some (.int .i64 mx)
def Tab (u:World):Prop:=Lib.TabIs Tryz.prog u "internal/strconv.uint64pow10" .u64 Lib.pow10Tab
def qeA:Rp Span:=fun _ cs x=>cs = [.int .i64 x.From,.int .i64 x.To] ∧ InR .i64 x.From ∧ InR .i64 x.To
theorem qgv:Mono qeA:=⟨fun _ h=>by
 obtain ⟨e,h0,h1⟩:=h
 exact ⟨e,h0,h1⟩,fun h=>by
 obtain ⟨rfl,h0,h1⟩:=h
 exact ⟨rfl,rfl,trivial⟩⟩
def qag:Rp Relation:=fun m cs x=>∃ c3,cs = [.int .i64 x.Operand,.int .i64 x.Mod,.bool x.Not,c3] ∧ InR .i64 x.Operand ∧ InR .i64 x.Mod ∧ (pL 2 qeA) m [c3] x.Spans
theorem qad:Mono qag:=⟨fun hm h=>by
 obtain ⟨c3,e,h0,h1,h3⟩:=h
 exact ⟨c3,e,h0,h1,(mL qgv).up hm h3⟩,fun h=>by
 obtain ⟨c3,rfl,h0,h1,h3⟩:=h
 exact ⟨rfl,rfl,rfl,((mL qgv).one h3).1,trivial⟩⟩
def qfN:Rp Rule:=fun m cs x=>∃ c1,cs = [.string (bs x.Class),c1] ∧ x.Class.length ≤ LIMS ∧ (pL 1 (pL 4 qag)) m [c1] x.Cond
theorem qjf:Mono qfN:=⟨fun hm h=>by
 obtain ⟨c1,e,h0,h1⟩:=h
 exact ⟨c1,e,h0,(mL (mL qad)).up hm h1⟩,fun h=>by
 obtain ⟨c1,rfl,h0,h1⟩:=h
 exact ⟨rfl,((mL (mL qad)).one h1).1,trivial⟩⟩
def qjZ:Rp Arr6_List_UInt8:=fun _ cs x=>cs = [.string (bs x.e0),.string (bs x.e1),.string (bs x.e2),.string (bs x.e3),.string (bs x.e4),.string (bs x.e5)] ∧ x.e0.length ≤ LIMS ∧ x.e1.length ≤ LIMS ∧ x.e2.length ≤ LIMS ∧ x.e3.length ≤ LIMS ∧ x.e4.length ≤ LIMS ∧ x.e5.length ≤ LIMS
def qo4:Rp Number:=fun _ cs x=>cs = [.bool x.negative,.string (bs x.whole),.string (bs x.fraction)] ∧ x.whole.length ≤ LIMS ∧ x.fraction.length ≤ LIMS
def qcj:Rp Part:=fun _ cs x=>cs = [.int .u64 x.bits,.string (bs x.text)] ∧ InR .u64 x.bits ∧ x.text.length ≤ LIMS
theorem qcR:Mono qcj:=⟨fun _ h=>by
 obtain ⟨e,h0,h1⟩:=h
 exact ⟨e,h0,h1⟩,fun h=>by
 obtain ⟨rfl,h0,h1⟩:=h
 exact ⟨rfl,rfl,trivial⟩⟩
def qeC:Rp Classes:=fun m cs x=>∃ c0 c1 c2,cs = [c0,c1,c2] ∧ (pL 4 qag) m [c0] x.l ∧ (pL 2 qcj) m [c1] x.wholes ∧ (pL 2 qcj) m [c2] x.fraction
theorem qtv:Mono qeC:=⟨fun hm h=>by
 obtain ⟨c0,c1,c2,e,h0,h1,h2⟩:=h
 exact ⟨c0,c1,c2,e,(mL qad).up hm h0,(mL qcR).up hm h1,(mL qcR).up hm h2⟩,fun h=>by
 obtain ⟨c0,c1,c2,rfl,h0,h1,h2⟩:=h
 exact ⟨((mL qad).one h0).1,((mL qcR).one h1).1,((mL qcR).one h2).1,trivial⟩⟩
def qbz:Rp Tracker:=fun _ cs x=>cs = [.int .i64 x.a,.int .i64 x.b] ∧ InR .i64 x.a ∧ InR .i64 x.b
theorem qbd:Mono qbz:=⟨fun _ h=>by
 obtain ⟨e,h0,h1⟩:=h
 exact ⟨e,h0,h1⟩,fun h=>by
 obtain ⟨rfl,h0,h1⟩:=h
 exact ⟨rfl,rfl,trivial⟩⟩
def qij:Rp State:=fun m cs x=>∃ c1,cs = [.string (bs x.s),c1,.bool x.integer] ∧ x.s.length ≤ LIMS ∧ (pL 2 qbz) m [c1] x.trackers
theorem qeq:Mono qij:=⟨fun hm h=>by
 obtain ⟨c1,e,h0,h1⟩:=h
 exact ⟨c1,e,h0,(mL qbd).up hm h1⟩,fun h=>by
 obtain ⟨c1,rfl,h0,h1⟩:=h
 exact ⟨rfl,((mL qbd).one h1).1,rfl,trivial⟩⟩
theorem qbX:aggB Tryz.prog 157 2 = true:=by kernel_rfl
theorem qhq:aggB Tryz.prog 162 2 = true:=by kernel_rfl
theorem qrE:aggB Tryz.prog 172 3 = true:=by kernel_rfl
theorem qle:aggB Tryz.prog 44 2 = true:=by kernel_rfl
theorem qhL:aggB Tryz.prog 49 2 = true:=by kernel_rfl
theorem qcI:aggB Tryz.prog 52 4 = true:=by kernel_rfl
theorem qv3:aggB Tryz.prog 80 6 = true:=by kernel_rfl
theorem qa5:aggB Tryz.prog 92 3 = true:=by kernel_rfl
theorem qvA:ArT Tryz.prog 80 9 6 1:=ArT.of (by kernel_rfl)
theorem qjd:qa3 Tryz.prog 153 0 0 = true:=by kernel_rfl
theorem qka:qa3 Tryz.prog 153 1 1 = true:=by kernel_rfl
theorem qj0:qa3 Tryz.prog 153 2 2 = true:=by kernel_rfl
theorem qfu:qa3 Tryz.prog 157 0 0 = true:=by kernel_rfl
theorem qgb:qa3 Tryz.prog 157 1 1 = true:=by kernel_rfl
theorem qim:qa3 Tryz.prog 162 0 0 = true:=by kernel_rfl
theorem qgc:qa3 Tryz.prog 162 1 1 = true:=by kernel_rfl
theorem qnW:qa3 Tryz.prog 172 0 0 = true:=by kernel_rfl
theorem qj1:qa3 Tryz.prog 172 1 1 = true:=by kernel_rfl
theorem qlx:qa3 Tryz.prog 172 2 2 = true:=by kernel_rfl
theorem qgX:qa3 Tryz.prog 44 0 0 = true:=by kernel_rfl
theorem qht:qa3 Tryz.prog 44 1 1 = true:=by kernel_rfl
theorem qgr:qa3 Tryz.prog 49 0 0 = true:=by kernel_rfl
theorem qfW:qa3 Tryz.prog 49 1 1 = true:=by kernel_rfl
theorem qbl:qa3 Tryz.prog 52 0 0 = true:=by kernel_rfl
theorem qee:qa3 Tryz.prog 52 1 1 = true:=by kernel_rfl
theorem qgo:qa3 Tryz.prog 52 2 2 = true:=by kernel_rfl
theorem qcm:qa3 Tryz.prog 52 3 3 = true:=by kernel_rfl
theorem qo2:qa3 Tryz.prog 88 0 0 = true:=by kernel_rfl
theorem qaW:qa3 Tryz.prog 88 1 1 = true:=by kernel_rfl
theorem qjV:qa3 Tryz.prog 88 2 2 = true:=by kernel_rfl
theorem qcc:qa3 Tryz.prog 88 3 3 = true:=by kernel_rfl
theorem qpl:qa3 Tryz.prog 92 1 1 = true:=by kernel_rfl
theorem qng:qa3 Tryz.prog 92 2 2 = true:=by kernel_rfl
theorem qvx:goB Tryz.prog 100 = true:=by kernel_rfl
theorem qvo:goB Tryz.prog 101 = true:=by kernel_rfl
theorem qvj:goB Tryz.prog 102 = true:=by kernel_rfl
theorem qm7:goB Tryz.prog 103 = true:=by kernel_rfl
theorem qom:goB Tryz.prog 104 = true:=by kernel_rfl
theorem qvS:goB Tryz.prog 105 = true:=by kernel_rfl
theorem qoI:goB Tryz.prog 106 = true:=by kernel_rfl
theorem qvs:goB Tryz.prog 107 = true:=by kernel_rfl
theorem qv0:goB Tryz.prog 108 = true:=by kernel_rfl
theorem qot:goB Tryz.prog 11 = true:=by kernel_rfl
theorem qvp:goB Tryz.prog 111 = true:=by kernel_rfl
theorem qqq:goB Tryz.prog 112 = true:=by kernel_rfl
theorem qqK:goB Tryz.prog 113 = true:=by kernel_rfl
theorem qqL:goB Tryz.prog 114 = true:=by kernel_rfl
theorem qkM:goB Tryz.prog 115 = true:=by kernel_rfl
theorem qqo:goB Tryz.prog 116 = true:=by kernel_rfl
theorem qvN:goB Tryz.prog 117 = true:=by kernel_rfl
theorem qsF:goB Tryz.prog 122 = true:=by kernel_rfl
theorem qss:goB Tryz.prog 123 = true:=by kernel_rfl
theorem qmH:goB Tryz.prog 124 = true:=by kernel_rfl
theorem qvi:goB Tryz.prog 125 = true:=by kernel_rfl
theorem qfy:goB Tryz.prog 127 = true:=by kernel_rfl
theorem qmA:goB Tryz.prog 128 = true:=by kernel_rfl
theorem qmP:goB Tryz.prog 129 = true:=by kernel_rfl
theorem qus:goB Tryz.prog 13 = true:=by kernel_rfl
theorem qsX:goB Tryz.prog 133 = true:=by kernel_rfl
theorem qsR:goB Tryz.prog 134 = true:=by kernel_rfl
theorem qvG:goB Tryz.prog 139 = true:=by kernel_rfl
theorem qv6:goB Tryz.prog 140 = true:=by kernel_rfl
theorem qg7:goB Tryz.prog 141 = true:=by kernel_rfl
theorem qmD:goB Tryz.prog 142 = true:=by kernel_rfl
theorem qoH:goB Tryz.prog 143 = true:=by kernel_rfl
theorem qsT:goB Tryz.prog 144 = true:=by kernel_rfl
theorem qsC:goB Tryz.prog 145 = true:=by kernel_rfl
theorem qvY:goB Tryz.prog 146 = true:=by kernel_rfl
theorem qqi:goB Tryz.prog 147 = true:=by kernel_rfl
theorem qvP:goB Tryz.prog 148 = true:=by kernel_rfl
theorem qvT:goB Tryz.prog 149 = true:=by kernel_rfl
theorem qvl:goB Tryz.prog 165 = true:=by kernel_rfl
theorem qvO:goB Tryz.prog 166 = true:=by kernel_rfl
theorem qv9:goB Tryz.prog 167 = true:=by kernel_rfl
theorem qvH:goB Tryz.prog 168 = true:=by kernel_rfl
theorem qvZ:goB Tryz.prog 179 = true:=by kernel_rfl
theorem qt3:goB Tryz.prog 25 = true:=by kernel_rfl
theorem qw6:goB Tryz.prog 26 = true:=by kernel_rfl
theorem qt2:goB Tryz.prog 27 = true:=by kernel_rfl
theorem qud:goB Tryz.prog 29 = true:=by kernel_rfl
theorem qpY:goB Tryz.prog 30 = true:=by kernel_rfl
theorem qwi:goB Tryz.prog 31 = true:=by kernel_rfl
theorem qwv:goB Tryz.prog 32 = true:=by kernel_rfl
theorem qur:goB Tryz.prog 47 = true:=by kernel_rfl
theorem qwq:goB Tryz.prog 48 = true:=by kernel_rfl
theorem qw4:goB Tryz.prog 49 = true:=by kernel_rfl
theorem qw3:goB Tryz.prog 50 = true:=by kernel_rfl
theorem quf:goB Tryz.prog 51 = true:=by kernel_rfl
theorem qwF:goB Tryz.prog 52 = true:=by kernel_rfl
theorem qwy:goB Tryz.prog 53 = true:=by kernel_rfl
theorem qwV:goB Tryz.prog 55 = true:=by kernel_rfl
theorem que:goB Tryz.prog 56 = true:=by kernel_rfl
theorem qwz:goB Tryz.prog 57 = true:=by kernel_rfl
theorem qww:goB Tryz.prog 58 = true:=by kernel_rfl
theorem qwI:goB Tryz.prog 59 = true:=by kernel_rfl
theorem qw9:goB Tryz.prog 61 = true:=by kernel_rfl
theorem qwf:goB Tryz.prog 62 = true:=by kernel_rfl
theorem qwA:goB Tryz.prog 63 = true:=by kernel_rfl
theorem qlR:goB Tryz.prog 68 = true:=by kernel_rfl
theorem qwM:goB Tryz.prog 69 = true:=by kernel_rfl
theorem qt8:goB Tryz.prog 70 = true:=by kernel_rfl
theorem qcQ:goB Tryz.prog 71 = true:=by kernel_rfl
theorem qut:goB Tryz.prog 72 = true:=by kernel_rfl
theorem qwU:goB Tryz.prog 73 = true:=by kernel_rfl
theorem qt6:goB Tryz.prog 74 = true:=by kernel_rfl
theorem qwW:goB Tryz.prog 75 = true:=by kernel_rfl
theorem qwp:goB Tryz.prog 76 = true:=by kernel_rfl
theorem qxa:goB Tryz.prog 79 = true:=by kernel_rfl
theorem quk:goB Tryz.prog 80 = true:=by kernel_rfl
theorem qp3:goB Tryz.prog 81 = true:=by kernel_rfl
theorem qun:goB Tryz.prog 85 = true:=by kernel_rfl
theorem qso:goB Tryz.prog 86 = true:=by kernel_rfl
theorem qwZ:goB Tryz.prog 87 = true:=by kernel_rfl
theorem qw5:goB Tryz.prog 88 = true:=by kernel_rfl
theorem qwN:goB Tryz.prog 89 = true:=by kernel_rfl
theorem qnl:goB Tryz.prog 94 = true:=by kernel_rfl
theorem qwn:goB Tryz.prog 95 = true:=by kernel_rfl
theorem qp7:goB Tryz.prog 96 = true:=by kernel_rfl
theorem qp8:goB Tryz.prog 97 = true:=by kernel_rfl
theorem qoB:goB Tryz.prog 98 = true:=by kernel_rfl
theorem qt7:goB Tryz.prog 99 = true:=by kernel_rfl
theorem qo3:∃ i,Tryz.prog.info? 104 = some i ∧ i.size = 1:=⟨_,rfl,by kernel_rfl⟩
theorem qrw:∃ i,Tryz.prog.info? 151 = some i ∧ i.size = 1:=⟨_,rfl,by kernel_rfl⟩
theorem qfq:∃ i,Tryz.prog.info? 157 = some i ∧ i.size = 2:=⟨_,rfl,by kernel_rfl⟩
theorem qjc:∃ i,Tryz.prog.info? 162 = some i ∧ i.size = 2:=⟨_,rfl,by kernel_rfl⟩
theorem qfZ:∃ i,Tryz.prog.info? 172 = some i ∧ i.size = 3:=⟨_,rfl,by kernel_rfl⟩
theorem qvJ:∃ i,Tryz.prog.info? 25 = some i ∧ i.size = 1:=⟨_,rfl,by kernel_rfl⟩
theorem qbU:∃ i,Tryz.prog.info? 3 = some i ∧ i.size = 1:=⟨_,rfl,by kernel_rfl⟩
theorem qnd:∃ i,Tryz.prog.info? 4 = some i ∧ i.size = 1:=⟨_,rfl,by kernel_rfl⟩
theorem qmY:∃ i,Tryz.prog.info? 44 = some i ∧ i.size = 2:=⟨_,rfl,by kernel_rfl⟩
theorem qiB:∃ i,Tryz.prog.info? 49 = some i ∧ i.size = 2:=⟨_,rfl,by kernel_rfl⟩
theorem qta:∃ i,Tryz.prog.info? 50 = some i ∧ i.size = 1:=⟨_,rfl,by kernel_rfl⟩
theorem qjn:∃ i,Tryz.prog.info? 52 = some i ∧ i.size = 4:=⟨_,rfl,by kernel_rfl⟩
theorem qs0:∃ i,Tryz.prog.info? 80 = some i ∧ i.size = 6:=⟨_,rfl,by kernel_rfl⟩
theorem qlN:∃ i,Tryz.prog.info? 9 = some i ∧ i.size = 1:=⟨_,rfl,by kernel_rfl⟩
theorem qdj:∃ i,Tryz.prog.info? 92 = some i ∧ i.size = 3:=⟨_,rfl,by kernel_rfl⟩
theorem qni:oneB Tryz.prog 104 = true:=by kernel_rfl
theorem qoY:oneB Tryz.prog 108 = true:=by kernel_rfl
theorem qi5:oneB Tryz.prog 127 = true:=by kernel_rfl
theorem quK:oneB Tryz.prog 130 = true:=by kernel_rfl
theorem qip:oneB Tryz.prog 151 = true:=by kernel_rfl
theorem qk1:oneB Tryz.prog 154 = true:=by kernel_rfl
theorem qi7:oneB Tryz.prog 159 = true:=by kernel_rfl
theorem qc1:oneB Tryz.prog 25 = true:=by kernel_rfl
theorem qaB:oneB Tryz.prog 3 = true:=by kernel_rfl
theorem qeP:oneB Tryz.prog 4 = true:=by kernel_rfl
theorem qdu:oneB Tryz.prog 42 = true:=by kernel_rfl
theorem qdy:oneB Tryz.prog 50 = true:=by kernel_rfl
theorem qeS:oneB Tryz.prog 53 = true:=by kernel_rfl
theorem qho:oneB Tryz.prog 64 = true:=by kernel_rfl
theorem qaM:oneB Tryz.prog 9 = true:=by kernel_rfl
theorem qrX:qg6 Tryz.prog 153 = some [(0,1),(1,1),(2,1)]:=by kernel_rfl
theorem qoK:qg6 Tryz.prog 162 = some [(0,1),(1,1)]:=by kernel_rfl
theorem qdR:qg6 Tryz.prog 172 = some [(0,1),(1,1),(2,1)]:=by kernel_rfl
theorem qpG:qg6 Tryz.prog 44 = some [(0,1),(1,1)]:=by kernel_rfl
theorem qpp:qg6 Tryz.prog 49 = some [(0,1),(1,1)]:=by kernel_rfl
theorem qmK:qg6 Tryz.prog 52 = some [(0,1),(1,1),(2,1),(3,1)]:=by kernel_rfl
theorem qsL:qg6 Tryz.prog 88 = some [(0,1),(1,1),(2,1),(3,1)]:=by kernel_rfl
theorem qti:qg6 Tryz.prog 92 = some [(0,1),(1,1),(2,1)]:=by kernel_rfl
theorem qgz:SlT Tryz.prog 104 3 1:=SlT.of (by kernel_rfl)
theorem qhO:SlT Tryz.prog 107 4 1:=SlT.of (by kernel_rfl)
theorem qfB:SlT Tryz.prog 151 162 2:=SlT.of (by kernel_rfl)
theorem qeT:SlT Tryz.prog 154 157 2:=SlT.of (by kernel_rfl)
theorem qmW:SlT Tryz.prog 173 172 3:=SlT.of (by kernel_rfl)
theorem qcX:SlT Tryz.prog 22 44 2:=SlT.of (by kernel_rfl)
theorem qcd:SlT Tryz.prog 32 9 1:=SlT.of (by kernel_rfl)
theorem qd8:SlT Tryz.prog 42 53 1:=SlT.of (by kernel_rfl)
theorem qcv:SlT Tryz.prog 50 49 2:=SlT.of (by kernel_rfl)
theorem qbW:SlT Tryz.prog 53 52 4:=SlT.of (by kernel_rfl)
theorem qbq:SlT Tryz.prog 64 42 1:=SlT.of (by kernel_rfl)
theorem quC:qp9 Tryz.prog 4 = some (vb false):=by kernel_rfl
theorem qn6:qdC Tryz.prog 104 = some [(Value.slice none 0 0)]:=by kernel_rfl
theorem qtu:qdC Tryz.prog 153 = some [(Value.slice none 0 0),(Value.slice none 0 0),(Value.slice none 0 0)]:=by kernel_rfl
theorem qe0:qdC Tryz.prog 157 = some [vi 0,vi 0]:=by kernel_rfl
theorem qga:qdC Tryz.prog 162 = some [vu 0,(vs ([]))]:=by kernel_rfl
theorem qbI:qdC Tryz.prog 172 = some [(vs ([])),(Value.slice none 0 0),vb false]:=by kernel_rfl
theorem qig:qdC Tryz.prog 3 = some [vi 0]:=by kernel_rfl
theorem qqE:qdC Tryz.prog 4 = some [vb false]:=by kernel_rfl
theorem qfX:qdC Tryz.prog 42 = some [(Value.slice none 0 0)]:=by kernel_rfl
theorem qiu:qdC Tryz.prog 44 = some [(vs ([])),(Value.slice none 0 0)]:=by kernel_rfl
theorem qe7:qdC Tryz.prog 49 = some [vi 0,vi 0]:=by kernel_rfl
theorem qdN:qdC Tryz.prog 52 = some [vi 0,vi 0,vb false,(Value.slice none 0 0)]:=by kernel_rfl
theorem qoW:qdC Tryz.prog 53 = some [(Value.slice none 0 0)]:=by kernel_rfl
theorem qpe:qdC Tryz.prog 80 = some [(vs ([])),(vs ([])),(vs ([])),(vs ([])),(vs ([])),(vs ([]))]:=by kernel_rfl
theorem qu7:qdC Tryz.prog 88 = some [(vs ([])),vi 0,vi 0,vi 0]:=by kernel_rfl
theorem qew:qdC Tryz.prog 9 = some [(vs ([]))]:=by kernel_rfl
theorem qkJ:qdC Tryz.prog 92 = some [vb false,(vs ([])),(vs ([]))]:=by kernel_rfl
def qpd (u:World) (m0:Mem) (S:Segs) (r:Arr6_List_UInt8) (a:Act) (w:World):Prop :=
 ∃ m1 v0,m0.le m1 ∧ Ok u m1 S w ∧ a.defers = [] ∧ RVs Tryz.prog a w [.c 0 80 (.agg v0.toArray)] ∧ qjZ m1 v0 r
theorem qpk (N:Nat) {r:Arr6_List_UInt8} (hF:qkb N  = some r) (hG:Glob u) (ok:Ok u m0 S w) :
  Calls Tryz.prog 55 [].toArray w fun e w'=>∃ m1 v0,e = .returned (.agg v0.toArray) ∧ m0.le m1 ∧ Ok u m1 S w' ∧ qjZ m1 v0 r:=by
 have le_m0:=Mem.le.refl m0
 unfold qkb at hF
 refine en (qpd u m0 S) r Tryz.func55 rfl rfl rfl (by rintro a w ⟨m1,v0,hle,ok,hd,hrv,h0⟩; exact qav [.c 0 80 (.agg v0.toArray)] hd rfl hrv ⟨m1,v0,rfl,hle,ok,h0⟩) fun fin a E=>sg<|qaN E ok qpe rfl rfl fun b1 a w E ok=>wn<|sg ?_
 refine lv E ok (qtZ (ps:=[(0,.const (vs ([122,101,114,111]))),(1,.const (vs ([111,110,101]))),(2,.const (vs ([116,119,111]))),(3,.const (vs ([102,101,119]))),(4,.const (vs ([109,97,110,121]))),(5,.const (vs ([111,116,104,101,114])))]) (qs:=[(0,[(vs ([122,101,114,111]))]),(1,[(vs ([111,110,101]))]),(2,[(vs ([116,119,111]))]),(3,[(vs ([102,101,119]))]),(4,[(vs ([109,97,110,121]))]),(5,[(vs ([111,116,104,101,114]))])]) (cs:=[(vs ([122,101,114,111])),(vs ([111,110,101])),(vs ([116,119,111])),(vs ([102,101,119])),(vs ([109,97,110,121])),(vs ([111,116,104,101,114]))]) qpe qvA rfl ⟨rfl,rfl,rfl,⟨rfl,rfl,rfl,⟨rfl,rfl,rfl,⟨rfl,rfl,rfl,⟨rfl,rfl,rfl,⟨rfl,rfl,rfl,trivial⟩⟩⟩⟩⟩⟩ rfl) fun a E=>qae E ok 0 rfl rfl rfl qs0 rfl rfl ⟨rfl,rfl,rfl,rfl,rfl,rfl,trivial⟩ rfl rfl fun w ok=>wn<|wp_ret ?_
 exact fin hF ⟨m0,[(vs ([122,101,114,111])),(vs ([111,110,101])),(vs ([116,119,111])),(vs ([102,101,119])),(vs ([109,97,110,121])),(vs ([111,116,104,101,114]))],le_m0,ok.drop,E.d,⟨rv_c (cs:=[(vs ([122,101,114,111])),(vs ([111,110,101])),(vs ([116,119,111])),(vs ([102,101,119])),(vs ([109,97,110,121])),(vs ([111,116,104,101,114]))]) E ok rfl qv3 rfl (qac.own 0 rfl rfl),trivial⟩,⟨rfl,(show ([122,101,114,111]:List UInt8).length ≤ LIMS by decide),(show ([111,110,101]:List UInt8).length ≤ LIMS by decide),(show ([116,119,111]:List UInt8).length ≤ LIMS by decide),(show ([102,101,119]:List UInt8).length ≤ LIMS by decide),(show ([109,97,110,121]:List UInt8).length ≤ LIMS by decide),(show ([111,116,104,101,114]:List UInt8).length ≤ LIMS by decide)⟩⟩
def qg5 (u:World) (m0:Mem) (S:Segs) (r:Int) (a:Act) (w:World):Prop :=
 Ok u m0 S w ∧ a.defers = [] ∧ RVs Tryz.prog a w [.t 4 (.int .i64 r)] ∧ InR .i64 r
theorem qi8 (N:Nat) (vs_0:Value) (s_0:List (List UInt8)) (hs_0:(pL 1 pS) m0 [vs_0] s_0) (v_1:List UInt8) (lv_1:v_1.length ≤ LIMS) {r:Int} (hF:qek N s_0 v_1 = some r) (hG:Glob u) (ok:Ok u m0 S w) :
  Calls Tryz.prog 79 [vs_0,vs v_1].toArray w fun e w'=>(e = .returned (.int .i64 r) ∧ Ok u m0 S w') ∧ InR .i64 r:=by
 unfold qek at hF
 refine en (qg5 u m0 S) r Tryz.func79 rfl rfl rfl (by rintro a w ⟨ok,hd,hrv,h0⟩; exact qav [.t 4 (.int .i64 r)] hd rfl hrv ⟨⟨rfl,ok⟩,h0⟩) fun fin a E=>sg<|aw E rfl fun a E=>wp_seq<|wp_seq ?_
 refine qab<|mv E rfl fun a E=>lv E ok (qaH qcd hs_0 rfl) fun a E=>mv E rfl fun a E=>wn<|wp_block ?_
 obtain ⟨o2,hL,hF⟩:=bnd hF
 refine qaG _ (fun (s:Int) a w=>Ok u m0 (S) w ∧ Env 19 a [(0,vs_0),(1,vs v_1),(7,(vi (s_0.length:Int))),(8,vi s)] ∧ InR .i64 s) (fun (b:(Unit ⊕ Int)) e a w=>(Sum.elim (fun b18=>e = (.exit 0) ∧ Ok u m0 (S) w ∧ Env 19 a []) (fun b19=>e = .ret ∧ qg5 u m0 S b19 a w)) b) ?_ ?_ N _ a w hL ⟨ok,E.keep [0,1,7,8],(ir 0)⟩
 rotate_left
 ·intro e a w _ hO
  rcases o2 with o2 | o2
  rotate_left
  ·replace hF:=qa6 hF
   obtain ⟨rfl,hret⟩:=hO
   refine qaA<|qaf ?_
   exact fin hF hret
  replace hF:=qa9 hF
  obtain ⟨rfl,ok,E⟩:=hO
  refine qaJ<|qaa<|sg<|aw E rfl fun a E=>wp_ret ?_
  exact fin hF ⟨ok,E.d,⟨rv_t E rfl,trivial⟩,(ir (-1))⟩
 rintro x_4 a w r ⟨ok,E,r5⟩ hF
 replace hF:qcH N s_0 v_1 x_4 = some r:=hF
 unfold qcH at hF
 refine sg<|lw E (qaF rfl rfl) fun a E=>wn<|wp_seq<|cf E rfl hF (fun hc6 hF=>?_) fun hc6 hF=>?_
 rotate_left
 ·refine wp_exit<|qaC ?_
  obtain rfl:=sj hF
  exact so (sl ⟨rfl,⟨ok,E.keep []⟩⟩)
 refine wp_skip<|qaa<|wp_seq<|wp_block<|sg<|mv E rfl fun a E=>av E rfl fun a E=>?_
 refine wn<|sg<|mv E rfl fun a E=>mv E rfl fun a E=>mv E rfl fun a E=>?_
 obtain ⟨x7,e8,hF⟩:=bnd hF
 obtain ⟨b9,o10,es11,hl12,rr13,at14,yy15⟩:=qaP qcd hs_0 e8 (P:=Tryz.prog) (X:=.tmp 12) (I:=.tmp 13) (kd:=.i64) (qak E rfl) (qak E rfl)
 obtain ⟨rfl,l16⟩:=rr13
 refine lv E ok (yy15 _ _) fun a E=>lv E ok (qat qaM rfl (qac.ro at14)) fun a E=>lw E (qer rfl rfl) fun a E=>wn<|cf E rfl hF (fun hc17 hF=>?_) fun hc17 hF=>?_
 rotate_left
 ·refine wp_skip<|qal<|qaa<|qab<|lw E (qaD rfl rfl (InR.inc r5 (qai hs_0) hc6)) fun a E=>mv E rfl fun a E=>wpList_nil ?_
  obtain rfl:=sj hF
  exact qau ⟨ok,E.keep [0,1,7,8],(InR.inc r5 (qai hs_0) hc6)⟩
 refine sg<|mv E rfl fun a E=>aw E rfl fun a E=>wp_ret<|qaA ?_
 refine qaf ?_
 obtain rfl:=sj hF
 exact so (sr ⟨rfl,⟨ok,E.d,⟨rv_t E rfl,trivial⟩,r5⟩⟩)
def qiw (u:World) (m0:Mem) (S:Segs) (r:Bool) (a:Act) (w:World):Prop :=
 Ok u m0 S w ∧ a.defers = [] ∧ RVs Tryz.prog a w [.t 4 (.bool r)]
theorem qgn (N:Nat) (vs_0:Value) (s_0:List (List UInt8)) (hs_0:(pL 1 pS) m0 [vs_0] s_0) (v_1:List UInt8) (lv_1:v_1.length ≤ LIMS) {r:Bool} (hF:qby N s_0 v_1 = some r) (hG:Glob u) (ok:Ok u m0 S w) :
  Calls Tryz.prog 56 [vs_0,vs v_1].toArray w fun e w'=>(e = .returned (.bool r) ∧ Ok u m0 S w'):=by
 unfold qby at hF
 refine en (qiw u m0 S) r Tryz.func56 rfl rfl rfl (by rintro a w ⟨ok,hd,hrv⟩; exact qav [.t 4 (.bool r)] hd rfl hrv ⟨rfl,ok⟩) fun fin a E=>sg<|aw E rfl fun a E=>sg ?_
 refine mv E rfl fun a E=>mv E rfl fun a E=>?_
 obtain ⟨r1,e2,hF⟩:=bnd hF
 refine qah E qxa rfl (qi8 N _ s_0 hs_0 v_1 lv_1 e2 hG ok) rfl rfl ?_
 rintro _ w ⟨⟨rfl,ok⟩,r3⟩
 refine ⟨_,rfl,fun a E=>?_⟩
 refine lw E (qgg rfl rfl) fun a E=>aw E rfl fun a E=>wp_ret ?_
 exact fin hF ⟨ok,E.d,⟨rv_t E rfl,trivial⟩⟩
def qpn (u:World) (m0:Mem) (S:Segs) (r:Bool) (a:Act) (w:World):Prop :=
 Ok u m0 S w ∧ a.defers = [] ∧ RVs Tryz.prog a w [.t 2 (.bool r)]
theorem qlf (N:Nat) (class_0:List UInt8) (lclass_0:class_0.length ≤ LIMS) {r:Bool} (hF:qha N class_0 = some r) (hG:Glob u) (ok:Ok u m0 S w) :
  Calls Tryz.prog 29 [vs class_0].toArray w fun e w'=>(e = .returned (.bool r) ∧ Ok u m0 S w'):=by
 have hb0:=ok.base
 have le_m0:=Mem.le.refl m0
 unfold qha at hF
 refine en (qpn u m0 S) r Tryz.func29 rfl rfl rfl (by rintro a w ⟨ok,hd,hrv⟩; exact qav [.t 2 (.bool r)] hd rfl hrv ⟨rfl,ok⟩) fun fin a E=>sg<|aw E rfl fun a E=>sg ?_
 obtain ⟨r1,e2,hF⟩:=bnd hF
 refine qah E qwV rfl (qpk N  e2 hG ok) rfl rfl ?_
 rintro _ w ⟨m3,vs4,rfl,hle,ok,h5⟩
 have le_m0:=le_m0.trans hle
 obtain ⟨rfl,l6,l7,l8,l9,l10,l11⟩:=h5
 refine ⟨_,rfl,fun a E=>?_⟩
 refine qaN E ok qpe rfl rfl fun b12 a w E ok=>qae E ok 0 rfl rfl rfl qs0 rfl rfl ⟨rfl,rfl,rfl,rfl,rfl,rfl,trivial⟩ rfl rfl fun w ok=>wn<|sg<|lv E ok (qwE Tryz.underlying80 qlN rfl) fun a E=>?_
 have lits:=(show Lits 1 pS m3 [vs r1.e0,vs r1.e1,vs r1.e2,vs r1.e3,vs r1.e4,vs r1.e5] ([r1.e0,r1.e1,r1.e2,r1.e3,r1.e4,r1.e5]:List (List UInt8)) from ⟨⟨_,rfl,rfl,(qde l6)⟩,⟨_,rfl,rfl,(qde l7)⟩,⟨_,rfl,rfl,(qde l8)⟩,⟨_,rfl,rfl,(qde l9)⟩,⟨_,rfl,rfl,(qde l10)⟩,⟨_,rfl,rfl,(qde l11)⟩,trivial⟩)
 obtain ⟨m13,hle,ok,hfz⟩:=(ok.frs 0 rfl).freeze
 have h14:=qu9 (n:=6) mS lits rfl hle hfz rfl rfl
 clear lits
 have le_m0:=le_m0.trans hle
 refine mv E rfl fun a E=>?_
 obtain ⟨r15,e16,hF⟩:=bnd hF
 refine lc E que rfl (qgn N _ ([r1.e0,r1.e1,r1.e2,r1.e3,r1.e4,r1.e5]:List (List UInt8)) h14 class_0 lclass_0 e16 hG ok) fun w ok a E=>aw E rfl fun a E=>wp_ret ?_
 exact fin hF ⟨(ok).down hb0 le_m0,E.d,⟨rv_t E rfl,trivial⟩⟩
def qih (u:World) (m0:Mem) (S:Segs) (r:Int) (a:Act) (w:World):Prop :=
 Ok u m0 S w ∧ a.defers = [] ∧ RVs Tryz.prog a w [.t 4 (.int .i64 r)] ∧ InR .i64 r
theorem qkx (N:Nat) (vs_0:Value) (s_0:List (Int)) (hs_0:(pL 1 (pI .i64)) m0 [vs_0] s_0) (v_1:Int) (rv_1:InR .i64 v_1) {r:Int} (hF:qfS N s_0 v_1 = some r) (hG:Glob u) (ok:Ok u m0 S w) :
  Calls Tryz.prog 140 [vs_0,vi v_1].toArray w fun e w'=>(e = .returned (.int .i64 r) ∧ Ok u m0 S w') ∧ InR .i64 r:=by
 unfold qfS at hF
 refine en (qih u m0 S) r Tryz.func140 rfl rfl rfl (by rintro a w ⟨ok,hd,hrv,h0⟩; exact qav [.t 4 (.int .i64 r)] hd rfl hrv ⟨⟨rfl,ok⟩,h0⟩) fun fin a E=>sg<|aw E rfl fun a E=>wp_seq<|wp_seq ?_
 refine qab<|mv E rfl fun a E=>lv E ok (qaH qgz hs_0 rfl) fun a E=>mv E rfl fun a E=>wn<|wp_block ?_
 obtain ⟨o2,hL,hF⟩:=bnd hF
 refine qaG _ (fun (s:Int) a w=>Ok u m0 (S) w ∧ Env 19 a [(0,vs_0),(1,vi v_1),(7,(vi (s_0.length:Int))),(8,vi s)] ∧ InR .i64 s) (fun (b:(Unit ⊕ Int)) e a w=>(Sum.elim (fun b18=>e = (.exit 0) ∧ Ok u m0 (S) w ∧ Env 19 a []) (fun b19=>e = .ret ∧ qih u m0 S b19 a w)) b) ?_ ?_ N _ a w hL ⟨ok,E.keep [0,1,7,8],(ir 0)⟩
 rotate_left
 ·intro e a w _ hO
  rcases o2 with o2 | o2
  rotate_left
  ·replace hF:=qa6 hF
   obtain ⟨rfl,hret⟩:=hO
   refine qaA<|qaf ?_
   exact fin hF hret
  replace hF:=qa9 hF
  obtain ⟨rfl,ok,E⟩:=hO
  refine qaJ<|qaa<|sg<|aw E rfl fun a E=>wp_ret ?_
  exact fin hF ⟨ok,E.d,⟨rv_t E rfl,trivial⟩,(ir (-1))⟩
 rintro x_4 a w r ⟨ok,E,r5⟩ hF
 replace hF:qdW N s_0 v_1 x_4 = some r:=hF
 unfold qdW at hF
 refine sg<|lw E (qaF rfl rfl) fun a E=>wn<|wp_seq<|cf E rfl hF (fun hc6 hF=>?_) fun hc6 hF=>?_
 rotate_left
 ·refine wp_exit<|qaC ?_
  obtain rfl:=sj hF
  exact so (sl ⟨rfl,⟨ok,E.keep []⟩⟩)
 refine wp_skip<|qaa<|wp_seq<|wp_block<|sg<|mv E rfl fun a E=>av E rfl fun a E=>?_
 refine wn<|sg<|mv E rfl fun a E=>mv E rfl fun a E=>mv E rfl fun a E=>?_
 obtain ⟨x7,e8,hF⟩:=bnd hF
 obtain ⟨b9,o10,es11,hl12,rr13,at14,yy15⟩:=qaP qgz hs_0 e8 (P:=Tryz.prog) (X:=.tmp 12) (I:=.tmp 13) (kd:=.i64) (qak E rfl) (qak E rfl)
 obtain ⟨rfl,r16⟩:=rr13
 refine lv E ok (yy15 _ _) fun a E=>lv E ok (qat qaB rfl (qac.ro at14)) fun a E=>lw E (qaI rfl rfl) fun a E=>wn<|cf E rfl hF (fun hc17 hF=>?_) fun hc17 hF=>?_
 rotate_left
 ·refine wp_skip<|qal<|qaa<|qab<|lw E (qaD rfl rfl (InR.inc r5 (qai hs_0) hc6)) fun a E=>mv E rfl fun a E=>wpList_nil ?_
  obtain rfl:=sj hF
  exact qau ⟨ok,E.keep [0,1,7,8],(InR.inc r5 (qai hs_0) hc6)⟩
 refine sg<|mv E rfl fun a E=>aw E rfl fun a E=>wp_ret<|qaA ?_
 refine qaf ?_
 obtain rfl:=sj hF
 exact so (sr ⟨rfl,⟨ok,E.d,⟨rv_t E rfl,trivial⟩,r5⟩⟩)
def qjH (u:World) (m0:Mem) (S:Segs) (r:Bool) (a:Act) (w:World):Prop :=
 Ok u m0 S w ∧ a.defers = [] ∧ RVs Tryz.prog a w [.t 4 (.bool r)]
theorem qjK (N:Nat) (vs_0:Value) (s_0:List (Int)) (hs_0:(pL 1 (pI .i64)) m0 [vs_0] s_0) (v_1:Int) (rv_1:InR .i64 v_1) {r:Bool} (hF:qdX N s_0 v_1 = some r) (hG:Glob u) (ok:Ok u m0 S w) :
  Calls Tryz.prog 111 [vs_0,vi v_1].toArray w fun e w'=>(e = .returned (.bool r) ∧ Ok u m0 S w'):=by
 unfold qdX at hF
 refine en (qjH u m0 S) r Tryz.func111 rfl rfl rfl (by rintro a w ⟨ok,hd,hrv⟩; exact qav [.t 4 (.bool r)] hd rfl hrv ⟨rfl,ok⟩) fun fin a E=>sg<|aw E rfl fun a E=>sg ?_
 refine mv E rfl fun a E=>mv E rfl fun a E=>?_
 obtain ⟨r1,e2,hF⟩:=bnd hF
 refine qah E qv6 rfl (qkx N _ s_0 hs_0 v_1 rv_1 e2 hG ok) rfl rfl ?_
 rintro _ w ⟨⟨rfl,ok⟩,r3⟩
 refine ⟨_,rfl,fun a E=>?_⟩
 refine lw E (qgg rfl rfl) fun a E=>aw E rfl fun a E=>wp_ret ?_
 exact fin hF ⟨ok,E.d,⟨rv_t E rfl,trivial⟩⟩
def qla (u:World) (m0:Mem) (S:Segs) (r:Bool) (a:Act) (w:World):Prop :=
 Ok u m0 S w ∧ a.defers = [] ∧ RVs Tryz.prog a w [.t 4 (.bool r)]
theorem qis (N:Nat) (operand_0:Int) (roperand_0:InR .i64 operand_0) (mod_1:Int) (rmod_1:InR .i64 mod_1) {r:Bool} (hF:qef N operand_0 mod_1 = some r) (hG:Glob u) (ok:Ok u m0 S w) :
  Calls Tryz.prog 80 [vi operand_0,vi mod_1].toArray w fun e w'=>(e = .returned (.bool r) ∧ Ok u m0 S w'):=by
 unfold qef at hF
 refine en (qla u m0 S) r Tryz.func80 rfl rfl rfl (by rintro a w ⟨ok,hd,hrv⟩; exact qav [.t 4 (.bool r)] hd rfl hrv ⟨rfl,ok⟩) fun fin a E=>sg<|aw E rfl fun a E=>wp_seq<|wp_seq ?_
 refine qab<|mv E rfl fun a E=>wn<|wp_block<|wp_seq<|sg ?_
 refine lw E (qaI rfl rfl) fun a E=>aw E rfl fun a E=>?_
 obtain ⟨o1,hJ,hF⟩:=bnd hF
 refine qaT (Q':=fun e a w=>e = .normal ∧ Ok u m0 (S) w ∧ Env 21 a [(1,vi mod_1),(5,vi operand_0),(6,vb o1)]) ?_ ?_
 ·replace hF:=hJ
  clear hJ
  refine cf E rfl hF (fun hc2 hF=>?_) fun hc2 hF=>?_
  ·refine wp_skip ?_
   obtain rfl:=sj hF
   exact ⟨rfl,⟨ok,E.keep [1,5,6]⟩⟩
  refine qab<|lw E (qaI rfl rfl) fun a E=>av E rfl fun a E=>wpList_nil ?_
  obtain rfl:=sj hF
  exact ⟨rfl,⟨ok,E.keep [1,5,6]⟩⟩
 clear hJ
 intro e a w hO
 obtain ⟨rfl,ok,E⟩:=hO
 refine qaa<|cf E rfl hF (fun hc3 hF=>?_) fun hc3 hF=>?_
 ·refine sg<|qbD (R:=(pI .i64)) (xo:=[.const (vi 2),.const (vi 3),.const (vi 4),.const (vi 5),.const (vi 6),.const (vi 10),.const (vi 20),.const (vi 25),.const (vi 50),.const (vi 100)]) (xs:=([2,3,4,5,6,10,20,25,50,100]:List (Int))) E ok qgz qig rfl ⟨⟨_,rfl,rfl,(qdx (ir 2))⟩,⟨_,rfl,rfl,(qdx (ir 3))⟩,⟨_,rfl,rfl,(qdx (ir 4))⟩,⟨_,rfl,rfl,(qdx (ir 5))⟩,⟨_,rfl,rfl,(qdx (ir 6))⟩,⟨_,rfl,rfl,(qdx (ir 10))⟩,⟨_,rfl,rfl,(qdx (ir 20))⟩,⟨_,rfl,rfl,(qdx (ir 25))⟩,⟨_,rfl,rfl,(qdx (ir 50))⟩,⟨_,rfl,rfl,(qdx (ir 100))⟩,trivial⟩ rfl rfl rfl rfl fun c4 M5 a w E ok h6=>mv E rfl fun a E=>?_
  obtain ⟨r12,e13,hF⟩:=bnd hF
  obtain ⟨m7,hle9,ok8,hfz10⟩:=(ok.frs 0 rfl).freeze
  have h11:=ORow.froz (mI .i64) h6 hle9 hfz10 (by decide)
  refine qah E qvp rfl (qjK N _ ([2,3,4,5,6,10,20,25,50,100]:List (Int)) h11 mod_1 rmod_1 e13 hG ok8) rfl rfl ?_
  rintro _ w ⟨rfl,okz⟩
  replace ok:=(Ok.thawAt 0 rfl ok hle9 hfz10 okz)
  refine ⟨_,rfl,fun a E=>?_⟩
  refine aw E rfl fun a E=>wp_ret<|qaA<|qaf ?_
  exact fin hF ⟨ok.drop,E.d,⟨rv_t E rfl,trivial⟩⟩
 refine wp_seq<|sg<|lw E (qaI rfl rfl) fun a E=>aw E rfl fun a E=>?_
 obtain ⟨o14,hJ,hF⟩:=bnd hF
 refine qaT (Q':=fun e a w=>e = .normal ∧ Ok u m0 (S) w ∧ Env 21 a [(1,vi mod_1),(12,vb o14)]) ?_ ?_
 ·replace hF:=hJ
  clear hJ
  refine cf E rfl hF (fun hc15 hF=>?_) fun hc15 hF=>?_
  ·refine wp_skip ?_
   obtain rfl:=sj hF
   exact ⟨rfl,⟨ok,E.keep [1,12]⟩⟩
  refine qab<|lw E (qaI rfl rfl) fun a E=>av E rfl fun a E=>wpList_nil ?_
  obtain rfl:=sj hF
  exact ⟨rfl,⟨ok,E.keep [1,12]⟩⟩
 clear hJ
 intro e a w hO
 obtain ⟨rfl,ok,E⟩:=hO
 refine qaa<|cf E rfl hF (fun hc16 hF=>?_) fun hc16 hF=>?_
 rotate_left
 ·refine wp_skip<|qal<|qaa<|sg<|aw E rfl fun a E=>?_
  refine wp_ret ?_
  exact fin hF ⟨ok,E.d,⟨rv_t E rfl,trivial⟩⟩
 refine sg<|mv E rfl fun a E=>lw E (qaI rfl rfl) fun a E=>mv E rfl fun a E=>qas (mod_1 == 10) (fun hc17=>?_) (fun hc17=>?_)
 ·replace hF:=qaq hc17 hF
  replace E:=E.upd 17 hc17 rfl
  refine ls E fun a E=>ls E fun a E=>pt E rfl rfl fun a E=>aw E rfl fun a E=>wp_ret<|qaA ?_
  refine qaf ?_
  exact fin hF ⟨ok,E.d,⟨rv_t E rfl,trivial⟩⟩
 replace hF:=qar hc17 hF
 replace E:=E.upd 17 hc17 rfl
 refine mv E rfl fun a E=>lw E (qaI rfl rfl) fun a E=>pf E rfl rfl fun a E=>aw E rfl fun a E=>wp_ret<|qaA ?_
 refine qaf ?_
 exact fin hF ⟨ok,E.d,⟨rv_t E rfl,trivial⟩⟩
def qlv (u:World) (m0:Mem) (S:Segs) (r:Int) (a:Act) (w:World):Prop :=
 Ok u m0 S w ∧ a.defers = [] ∧ RVs Tryz.prog a w [.t 2 (.int .i64 r)] ∧ InR .i64 r
theorem qdQ (N:Nat) (operand_0:Int) (roperand_0:InR .i64 operand_0) {r:Int} (hF:qcY N operand_0 = some r) (hG:Glob u) (ok:Ok u m0 S w) :
  Calls Tryz.prog 81 [vi operand_0].toArray w fun e w'=>(e = .returned (.int .i64 r) ∧ Ok u m0 S w') ∧ InR .i64 r:=by
 unfold qcY at hF
 refine en (qlv u m0 S) r Tryz.func81 rfl rfl rfl (by rintro a w ⟨ok,hd,hrv,h0⟩; exact qav [.t 2 (.int .i64 r)] hd rfl hrv ⟨⟨rfl,ok⟩,h0⟩) fun fin a E=>sg<|aw E rfl fun a E=>wp_seq<|wp_seq ?_
 refine qab<|mv E rfl fun a E=>lw E (qaI rfl rfl) fun a E=>mv E rfl fun a E=>qas (operand_0 == 3) (fun hc1=>?_) (fun hc1=>?_)
 ·replace hF:=qaq hc1 hF
  replace E:=E.upd 5 hc1 rfl
  refine ls E fun a E=>ls E fun a E=>pt E rfl rfl fun a E=>wn<|c_if E rfl (fun _=>?_) (fun h=>by cases h)
  refine sg<|aw E rfl fun a E=>wp_ret<|qaf ?_
  exact fin hF ⟨ok,E.d,⟨rv_t E rfl,trivial⟩,(ir 6)⟩
 replace hF:=qar hc1 hF
 replace E:=E.upd 5 hc1 rfl
 refine mv E rfl fun a E=>lw E (qaI rfl rfl) fun a E=>pf E rfl rfl fun a E=>wn<|cf E rfl hF (fun hc2 hF=>?_) fun hc2 hF=>?_
 ·refine sg<|aw E rfl fun a E=>wp_ret<|qaf ?_
  exact fin hF ⟨ok,E.d,⟨rv_t E rfl,trivial⟩,(ir 6)⟩
 refine wp_skip<|qaa<|sg<|aw E rfl fun a E=>wp_ret ?_
 exact fin hF ⟨ok,E.d,⟨rv_t E rfl,trivial⟩,(ir 100)⟩
def qhK (u:World) (m0:Mem) (S:Segs) (r:Bool) (a:Act) (w:World):Prop :=
 Ok u m0 S w ∧ a.defers = [] ∧ RVs Tryz.prog a w [.t 2 (.bool r)]
theorem qmG (N:Nat) (vr_0:List Value) (r_0:Relation) (hr_0:qag m0 vr_0 r_0) {r:Bool} (hF:qf2 N r_0 = some r) (hG:Glob u) (ok:Ok u m0 S w) :
  Calls Tryz.prog 58 [.agg vr_0.toArray].toArray w fun e w'=>(e = .returned (.bool r) ∧ Ok u m0 S w'):=by
 obtain ⟨c3,rfl,r1,r2,h4⟩:=hr_0
 unfold qf2 at hF
 refine en (qhK u m0 S) r Tryz.func58 rfl rfl rfl (by rintro a w ⟨ok,hd,hrv⟩; exact qav [.t 2 (.bool r)] hd rfl hrv ⟨rfl,ok⟩) fun fin a E=>sg<|qcO E ok rfl rfl rfl fun b5 a w E ok=>aw E rfl fun a E=>wp_seq ?_
 refine sg<|fv E qbl rfl fun a E=>ld E ok qaB 0 rfl rfl rfl fun a E=>lw E (qaF rfl rfl) fun a E=>mv E rfl fun a E=>qas (decide (r_0.Operand < 1)) (fun hc6=>?_) (fun hc6=>?_)
 ·replace hF:=qaq hc6 hF
  replace E:=E.upd 8 hc6 rfl
  refine ls E fun a E=>ls E fun a E=>ls E fun a E=>pt E rfl rfl fun a E=>mv E rfl fun a E=>ls E fun a E=>ls E fun a E=>ls E fun a E=>?_
  refine ls E fun a E=>ls E fun a E=>ls E fun a E=>ls E fun a E=>ls E fun a E=>ls E fun a E=>ls E fun a E=>ls E fun a E=>?_
  refine pt E rfl rfl fun a E=>mv E rfl fun a E=>ls E fun a E=>ls E fun a E=>ls E fun a E=>ls E fun a E=>pt E rfl rfl fun a E=>mv E rfl fun a E=>?_
  refine ls E fun a E=>ls E fun a E=>ls E fun a E=>ls E fun a E=>pt E rfl rfl fun a E=>wn<|c_if E rfl (fun _=>?_) (fun h=>by cases h)
  refine sg<|aw E rfl fun a E=>wp_ret<|qaf ?_
  exact fin hF ⟨ok.drop,E.d,⟨rv_t E rfl,trivial⟩⟩
 replace hF:=qar hc6 hF
 replace E:=E.upd 8 hc6 rfl
 refine fv E qbl rfl fun a E=>ld E ok qaB 0 rfl rfl rfl fun a E=>lw E (qa2 rfl rfl) fun a E=>pf E rfl rfl fun a E=>mv E rfl fun a E=>qas (decide (r_0.Operand > 6)) (fun hc7=>?_) (fun hc7=>?_)
 ·replace hF:=qaq hc7 hF
  replace E:=E.upd 13 hc7 rfl
  refine ls E fun a E=>ls E fun a E=>ls E fun a E=>ls E fun a E=>ls E fun a E=>ls E fun a E=>ls E fun a E=>ls E fun a E=>?_
  refine ls E fun a E=>ls E fun a E=>ls E fun a E=>pt E rfl rfl fun a E=>mv E rfl fun a E=>ls E fun a E=>ls E fun a E=>ls E fun a E=>?_
  refine ls E fun a E=>pt E rfl rfl fun a E=>mv E rfl fun a E=>ls E fun a E=>ls E fun a E=>ls E fun a E=>ls E fun a E=>pt E rfl rfl fun a E=>?_
  refine wn<|c_if E rfl (fun _=>?_) (fun h=>by cases h)
  refine sg<|aw E rfl fun a E=>wp_ret<|qaf ?_
  exact fin hF ⟨ok.drop,E.d,⟨rv_t E rfl,trivial⟩⟩
 replace hF:=qar hc7 hF
 replace E:=E.upd 13 hc7 rfl
 refine fv E qee rfl fun a E=>ld E ok qaB 0 rfl rfl rfl fun a E=>lw E (qaU rfl rfl) fun a E=>mv E rfl fun a E=>qas (r_0.Mod != 0) (fun hc8=>?_) (fun hc8=>?_)
 rotate_left
 ·as_aux_lemma =>
   replace hF:=qar hc8 hF
   replace E:=E.upd 17 hc8 rfl
   refine ls E fun a E=>ls E fun a E=>ls E fun a E=>ls E fun a E=>ls E fun a E=>ls E fun a E=>pf E rfl rfl fun a E=>pf E rfl rfl fun a E=>?_
   refine mv E rfl fun a E=>fv E qcm rfl fun a E=>ld E ok qdy 0 rfl rfl rfl fun a E=>lv E ok (qaH qcv h4 rfl) fun a E=>lw E (qaF rfl rfl) fun a E=>pf E rfl rfl fun a E=>mv E rfl fun a E=>qas (decide ((r_0.Spans.length:Int) < 1)) (fun hc40=>?_) (fun hc40=>?_)
   ·replace hF:=qaq hc40 hF
    replace E:=E.upd 32 hc40 rfl
    refine ls E fun a E=>ls E fun a E=>ls E fun a E=>ls E fun a E=>pt E rfl rfl fun a E=>wn<|c_if E rfl (fun _=>?_) (fun h=>by cases h)
    refine sg<|aw E rfl fun a E=>wp_ret<|qaf ?_
    exact fin hF ⟨ok.drop,E.d,⟨rv_t E rfl,trivial⟩⟩
   replace hF:=qar hc40 hF
   replace E:=E.upd 32 hc40 rfl
   refine fv E qcm rfl fun a E=>ld E ok qdy 0 rfl rfl rfl fun a E=>lv E ok (qaH qcv h4 rfl) fun a E=>lw E (qa2 rfl rfl) fun a E=>pf E rfl rfl fun a E=>wn<|cf E rfl hF (fun hc41 hF=>?_) fun hc41 hF=>?_
   ·refine sg<|aw E rfl fun a E=>wp_ret<|qaf ?_
    exact fin hF ⟨ok.drop,E.d,⟨rv_t E rfl,trivial⟩⟩
   refine wp_skip<|qaa<|wp_seq<|sg<|fv E qcm rfl fun a E=>ld E ok qdy 0 rfl rfl rfl fun a E=>lv E ok (qaH qcv h4 rfl) fun a E=>?_
   refine mv E rfl fun a E=>wn<|wp_block ?_
   obtain ⟨o43,hL,hF⟩:=bnd hF
   refine qaG _ (fun (s:Int) a w=>Ok u m0 ([(b5,oc 52 [vi r_0.Operand,vi r_0.Mod,vb r_0.Not,c3])] :: S) w ∧ Env 64 a [(1,vp b5),(39,c3),(40,(vi (r_0.Spans.length:Int))),(41,vi s)] ∧ InR .i64 s) (fun (b:(Unit ⊕ Bool)) e a w=>(Sum.elim (fun b66=>e = (.exit 0) ∧ Ok u m0 ([(b5,oc 52 [vi r_0.Operand,vi r_0.Mod,vb r_0.Not,c3])] :: S) w ∧ Env 64 a []) (fun b67=>e = .ret ∧ qhK u m0 S b67 a w)) b) ?_ ?_ N _ a w hL ⟨ok,E.keep [1,39,40,41],(ir 0)⟩
   rotate_left
   ·intro e a w _ hO
    rcases o43 with o43 | o43
    rotate_left
    ·replace hF:=qa6 hF
     obtain ⟨rfl,hret⟩:=hO
     refine qaA<|qaf ?_
     exact fin hF hret
    replace hF:=qa9 hF
    obtain ⟨rfl,ok,E⟩:=hO
    refine qaJ<|qaa<|sg<|aw E rfl fun a E=>wp_ret ?_
    exact fin hF ⟨ok.drop,E.d,⟨rv_t E rfl,trivial⟩⟩
   rintro x_45 a w r ⟨ok,E,r46⟩ hF
   replace hF:qgj N r_0 x_45 = some r:=hF
   unfold qgj at hF
   refine sg<|lw E (qaF rfl rfl) fun a E=>wn<|wp_seq<|cf E rfl hF (fun hc47 hF=>?_) fun hc47 hF=>?_
   rotate_left
   ·refine wp_exit<|qaC ?_
    obtain rfl:=sj hF
    exact so (sl ⟨rfl,⟨ok,E.keep []⟩⟩)
   refine wp_skip<|qaa<|wp_seq<|wp_block<|sg ?_
   obtain ⟨x48,e49,hF⟩:=bnd hF
   obtain ⟨b50,o51,es52,hl53,rr54,at55,yy56⟩:=qaP qcv h4 e49 (P:=Tryz.prog) (X:=.tmp 39) (I:=.tmp 41) (kd:=.i64) (qak E rfl) (qak E rfl)
   obtain ⟨rfl,r57,r58⟩:=rr54
   refine lv E ok (yy56 _ _) fun a E=>lv E ok (qao (cs:=[vi x48.From,vi x48.To]) qhL rfl rfl (qac.ro at55)) fun a E=>qaN E ok qe7 rfl rfl fun b59 a w E ok=>qae E ok 0 rfl rfl rfl qiB rfl rfl ⟨rfl,rfl,trivial⟩ rfl rfl fun w ok=>wn<|wp_seq<|qf7 (by kernel_rfl) (by kernel_rfl) ok ?_
   refine qv E (qan qgr rfl) fun a E=>qv E (qat qaB rfl (qac.own 0 rfl rfl)) fun a E=>qv E (qaF rfl rfl) fun a E=>qv E (qam rfl) fun a E=>qas (decide (x48.From < 0)) (fun hc60=>?_) (fun hc60=>?_)
   ·replace hF:=qaq hc60 hF
    replace E:=E.upd 48 hc60 rfl
    refine qs E fun a E=>qs E fun a E=>qs E fun a E=>qs E fun a E=>qs E fun a E=>qv E (qa4 rfl rfl) fun a E=>qv E (qam rfl) fun a E=>qs E fun a E=>?_
    refine qs E fun a E=>qs E fun a E=>qs E fun a E=>qs E fun a E=>qs E fun a E=>qv E (qa4 rfl rfl) fun a E=>wpQuiet_nil ?_
    intro w ok
    refine qaa<|c_if E rfl (fun _=>?_) (fun h=>by cases h)
    refine sg<|aw E rfl fun a E=>wp_ret<|qaA<|qaf ?_
    obtain rfl:=sj hF
    exact so (sr ⟨rfl,⟨ok.drop.drop,E.d,⟨rv_t E rfl,trivial⟩⟩⟩)
   replace hF:=qar hc60 hF
   replace E:=E.upd 48 hc60 rfl
   refine qv E (qan qgr rfl) fun a E=>qv E (qat qaB rfl (qac.own 0 rfl rfl)) fun a E=>qv E (qan qfW rfl) fun a E=>qv E (qat qaB rfl (qac.own 0 rfl rfl)) fun a E=>qv E (qa2 rfl rfl) fun a E=>qv E (qaZ rfl rfl) fun a E=>qv E (qam rfl) fun a E=>qas (decide (x48.From > x48.To)) (fun hc61=>?_) (fun hc61=>?_)
   ·replace hF:=qaq hc61 hF
    replace E:=E.upd 55 hc61 rfl
    refine qs E fun a E=>qs E fun a E=>qs E fun a E=>qs E fun a E=>qs E fun a E=>qs E fun a E=>qv E (qa4 rfl rfl) fun a E=>wpQuiet_nil ?_
    intro w ok
    refine qaa<|c_if E rfl (fun _=>?_) (fun h=>by cases h)
    refine sg<|aw E rfl fun a E=>wp_ret<|qaA<|qaf ?_
    obtain rfl:=sj hF
    exact so (sr ⟨rfl,⟨ok.drop.drop,E.d,⟨rv_t E rfl,trivial⟩⟩⟩)
   replace hF:=qar hc61 hF
   replace E:=E.upd 55 hc61 rfl
   refine qv E (qan qfW rfl) fun a E=>qv E (qat qaB rfl (qac.own 0 rfl rfl)) fun a E=>qv E (qan qbl rfl) fun a E=>qv E (qat qaB rfl (qac.own 1 rfl rfl)) fun a E=>?_
   obtain ⟨r62,e63,hF⟩:=bnd hF
   obtain ⟨_,_,⟨_,_⟩,r64⟩:=Go.X.Calls.get (qdQ N r_0.Operand r1 e63 hG ok)
   refine qhp E qp3 rfl (fun w ok=>(qdQ N r_0.Operand r1 e63 hG ok).mono (fun _ _ h=>h.1)) rfl rfl fun a E=>qv E (qa2 rfl rfl) fun a E=>qv E (qaZ rfl rfl) fun a E=>wpQuiet_nil ?_
   intro w ok
   refine qaa<|cf E rfl hF (fun hc65 hF=>?_) fun hc65 hF=>?_
   rotate_left
   ·refine wp_skip<|qal<|qaa<|qab<|lw E (qaD rfl rfl (InR.inc r46 (qai h4) hc47)) fun a E=>mv E rfl fun a E=>wpList_nil ?_
    obtain rfl:=sj hF
    exact qau ⟨(ok.pk 2 [1] rfl (by decide)),E.keep [1,39,40,41],(InR.inc r46 (qai h4) hc47)⟩
   refine sg<|aw E rfl fun a E=>wp_ret<|qaA<|qaf ?_
   obtain rfl:=sj hF
   exact so (sr ⟨rfl,⟨ok.drop.drop,E.d,⟨rv_t E rfl,trivial⟩⟩⟩)
 replace hF:=qaq hc8 hF
 replace E:=E.upd 17 hc8 rfl
 refine fv E qbl rfl fun a E=>ld E ok qaB 0 rfl rfl rfl fun a E=>fv E qee rfl fun a E=>ld E ok qaB 0 rfl rfl rfl fun a E=>?_
 obtain ⟨r9,e10,hF⟩:=bnd hF
 refine lc E quk rfl (qis N r_0.Operand r1 r_0.Mod r2 e10 hG ok) fun w ok a E=>lw E (qaO rfl) fun a E=>pt E rfl rfl fun a E=>pf E rfl rfl fun a E=>mv E rfl fun a E=>qas (!r9) (fun hc11=>?_) (fun hc11=>?_)
 ·replace hF:=qaq hc11 hF
  replace E:=E.upd 26 hc11 rfl
  refine ls E fun a E=>ls E fun a E=>ls E fun a E=>ls E fun a E=>pt E rfl rfl fun a E=>mv E rfl fun a E=>ls E fun a E=>ls E fun a E=>?_
  refine ls E fun a E=>ls E fun a E=>pt E rfl rfl fun a E=>wn<|c_if E rfl (fun _=>?_) (fun h=>by cases h)
  refine sg<|aw E rfl fun a E=>wp_ret<|qaf ?_
  exact fin hF ⟨ok.drop,E.d,⟨rv_t E rfl,trivial⟩⟩
 replace hF:=qar hc11 hF
 replace E:=E.upd 26 hc11 rfl
 refine fv E qcm rfl fun a E=>ld E ok qdy 0 rfl rfl rfl fun a E=>lv E ok (qaH qcv h4 rfl) fun a E=>lw E (qaF rfl rfl) fun a E=>pf E rfl rfl fun a E=>mv E rfl fun a E=>qas (decide ((r_0.Spans.length:Int) < 1)) (fun hc12=>?_) (fun hc12=>?_)
 ·replace hF:=qaq hc12 hF
  replace E:=E.upd 32 hc12 rfl
  refine ls E fun a E=>ls E fun a E=>ls E fun a E=>ls E fun a E=>pt E rfl rfl fun a E=>wn<|c_if E rfl (fun _=>?_) (fun h=>by cases h)
  refine sg<|aw E rfl fun a E=>wp_ret<|qaf ?_
  exact fin hF ⟨ok.drop,E.d,⟨rv_t E rfl,trivial⟩⟩
 replace hF:=qar hc12 hF
 replace E:=E.upd 32 hc12 rfl
 refine fv E qcm rfl fun a E=>ld E ok qdy 0 rfl rfl rfl fun a E=>lv E ok (qaH qcv h4 rfl) fun a E=>lw E (qa2 rfl rfl) fun a E=>pf E rfl rfl fun a E=>wn<|cf E rfl hF (fun hc13 hF=>?_) fun hc13 hF=>?_
 ·refine sg<|aw E rfl fun a E=>wp_ret<|qaf ?_
  exact fin hF ⟨ok.drop,E.d,⟨rv_t E rfl,trivial⟩⟩
 refine wp_skip<|qaa<|wp_seq<|sg<|fv E qcm rfl fun a E=>ld E ok qdy 0 rfl rfl rfl fun a E=>lv E ok (qaH qcv h4 rfl) fun a E=>?_
 refine mv E rfl fun a E=>wn<|wp_block ?_
 obtain ⟨o15,hL,hF⟩:=bnd hF
 refine qaG _ (fun (s:Int) a w=>Ok u m0 ([(b5,oc 52 [vi r_0.Operand,vi r_0.Mod,vb r_0.Not,c3])] :: S) w ∧ Env 64 a [(1,vp b5),(39,c3),(40,(vi (r_0.Spans.length:Int))),(41,vi s)] ∧ InR .i64 s) (fun (b:(Unit ⊕ Bool)) e a w=>(Sum.elim (fun b38=>e = (.exit 0) ∧ Ok u m0 ([(b5,oc 52 [vi r_0.Operand,vi r_0.Mod,vb r_0.Not,c3])] :: S) w ∧ Env 64 a []) (fun b39=>e = .ret ∧ qhK u m0 S b39 a w)) b) ?_ ?_ N _ a w hL ⟨ok,E.keep [1,39,40,41],(ir 0)⟩
 rotate_left
 ·intro e a w _ hO
  rcases o15 with o15 | o15
  rotate_left
  ·replace hF:=qa6 hF
   obtain ⟨rfl,hret⟩:=hO
   refine qaA<|qaf ?_
   exact fin hF hret
  replace hF:=qa9 hF
  obtain ⟨rfl,ok,E⟩:=hO
  refine qaJ<|qaa<|sg<|aw E rfl fun a E=>wp_ret ?_
  exact fin hF ⟨ok.drop,E.d,⟨rv_t E rfl,trivial⟩⟩
 rintro x_17 a w r ⟨ok,E,r18⟩ hF
 replace hF:qec N r_0 x_17 = some r:=hF
 unfold qec at hF
 refine sg<|lw E (qaF rfl rfl) fun a E=>wn<|wp_seq<|cf E rfl hF (fun hc19 hF=>?_) fun hc19 hF=>?_
 rotate_left
 ·refine wp_exit<|qaC ?_
  obtain rfl:=sj hF
  exact so (sl ⟨rfl,⟨ok,E.keep []⟩⟩)
 refine wp_skip<|qaa<|wp_seq<|wp_block<|sg ?_
 obtain ⟨x20,e21,hF⟩:=bnd hF
 obtain ⟨b22,o23,es24,hl25,rr26,at27,yy28⟩:=qaP qcv h4 e21 (P:=Tryz.prog) (X:=.tmp 39) (I:=.tmp 41) (kd:=.i64) (qak E rfl) (qak E rfl)
 obtain ⟨rfl,r29,r30⟩:=rr26
 refine lv E ok (yy28 _ _) fun a E=>lv E ok (qao (cs:=[vi x20.From,vi x20.To]) qhL rfl rfl (qac.ro at27)) fun a E=>qaN E ok qe7 rfl rfl fun b31 a w E ok=>qae E ok 0 rfl rfl rfl qiB rfl rfl ⟨rfl,rfl,trivial⟩ rfl rfl fun w ok=>wn<|wp_seq<|qf7 (by kernel_rfl) (by kernel_rfl) ok ?_
 refine qv E (qan qgr rfl) fun a E=>qv E (qat qaB rfl (qac.own 0 rfl rfl)) fun a E=>qv E (qaF rfl rfl) fun a E=>qv E (qam rfl) fun a E=>qas (decide (x20.From < 0)) (fun hc32=>?_) (fun hc32=>?_)
 ·replace hF:=qaq hc32 hF
  replace E:=E.upd 48 hc32 rfl
  refine qs E fun a E=>qs E fun a E=>qs E fun a E=>qs E fun a E=>qs E fun a E=>qv E (qa4 rfl rfl) fun a E=>qv E (qam rfl) fun a E=>qs E fun a E=>?_
  refine qs E fun a E=>qs E fun a E=>qs E fun a E=>qs E fun a E=>qs E fun a E=>qv E (qa4 rfl rfl) fun a E=>wpQuiet_nil ?_
  intro w ok
  refine qaa<|c_if E rfl (fun _=>?_) (fun h=>by cases h)
  refine sg<|aw E rfl fun a E=>wp_ret<|qaA<|qaf ?_
  obtain rfl:=sj hF
  exact so (sr ⟨rfl,⟨ok.drop.drop,E.d,⟨rv_t E rfl,trivial⟩⟩⟩)
 replace hF:=qar hc32 hF
 replace E:=E.upd 48 hc32 rfl
 refine qv E (qan qgr rfl) fun a E=>qv E (qat qaB rfl (qac.own 0 rfl rfl)) fun a E=>qv E (qan qfW rfl) fun a E=>qv E (qat qaB rfl (qac.own 0 rfl rfl)) fun a E=>qv E (qa2 rfl rfl) fun a E=>qv E (qaZ rfl rfl) fun a E=>qv E (qam rfl) fun a E=>qas (decide (x20.From > x20.To)) (fun hc33=>?_) (fun hc33=>?_)
 ·replace hF:=qaq hc33 hF
  replace E:=E.upd 55 hc33 rfl
  refine qs E fun a E=>qs E fun a E=>qs E fun a E=>qs E fun a E=>qs E fun a E=>qs E fun a E=>qv E (qa4 rfl rfl) fun a E=>wpQuiet_nil ?_
  intro w ok
  refine qaa<|c_if E rfl (fun _=>?_) (fun h=>by cases h)
  refine sg<|aw E rfl fun a E=>wp_ret<|qaA<|qaf ?_
  obtain rfl:=sj hF
  exact so (sr ⟨rfl,⟨ok.drop.drop,E.d,⟨rv_t E rfl,trivial⟩⟩⟩)
 replace hF:=qar hc33 hF
 replace E:=E.upd 55 hc33 rfl
 refine qv E (qan qfW rfl) fun a E=>qv E (qat qaB rfl (qac.own 0 rfl rfl)) fun a E=>qv E (qan qbl rfl) fun a E=>qv E (qat qaB rfl (qac.own 1 rfl rfl)) fun a E=>?_
 obtain ⟨r34,e35,hF⟩:=bnd hF
 obtain ⟨_,_,⟨_,_⟩,r36⟩:=Go.X.Calls.get (qdQ N r_0.Operand r1 e35 hG ok)
 refine qhp E qp3 rfl (fun w ok=>(qdQ N r_0.Operand r1 e35 hG ok).mono (fun _ _ h=>h.1)) rfl rfl fun a E=>qv E (qa2 rfl rfl) fun a E=>qv E (qaZ rfl rfl) fun a E=>wpQuiet_nil ?_
 intro w ok
 refine qaa<|cf E rfl hF (fun hc37 hF=>?_) fun hc37 hF=>?_
 rotate_left
 ·refine wp_skip<|qal<|qaa<|qab<|lw E (qaD rfl rfl (InR.inc r18 (qai h4) hc19)) fun a E=>mv E rfl fun a E=>wpList_nil ?_
  obtain rfl:=sj hF
  exact qau ⟨(ok.pk 2 [1] rfl (by decide)),E.keep [1,39,40,41],(InR.inc r18 (qai h4) hc19)⟩
 refine sg<|aw E rfl fun a E=>wp_ret<|qaA<|qaf ?_
 obtain rfl:=sj hF
 exact so (sr ⟨rfl,⟨ok.drop.drop,E.d,⟨rv_t E rfl,trivial⟩⟩⟩)
def qmv (u:World) (m0:Mem) (S:Segs) (r:Bool) (a:Act) (w:World):Prop :=
 Ok u m0 S w ∧ a.defers = [] ∧ RVs Tryz.prog a w [.t 2 (.bool r)]
theorem qmb (N:Nat) (vr_0:List Value) (r_0:Relation) (hr_0:qag m0 vr_0 r_0) {r:Bool} (hF:qgT N r_0 = some r) (hG:Glob u) (ok:Ok u m0 S w) :
  Calls Tryz.prog 57 [.agg vr_0.toArray].toArray w fun e w'=>(e = .returned (.bool r) ∧ Ok u m0 S w'):=by
 obtain ⟨c3,rfl,r1,r2,h4⟩:=hr_0
 unfold qgT at hF
 refine en (qmv u m0 S) r Tryz.func57 rfl rfl rfl (by rintro a w ⟨ok,hd,hrv⟩; exact qav [.t 2 (.bool r)] hd rfl hrv ⟨rfl,ok⟩) fun fin a E=>sg<|qcO E ok rfl rfl rfl fun b5 a w E ok=>aw E rfl fun a E=>wp_seq ?_
 refine qab<|lv E ok (qao (cs:=[vi r_0.Operand,vi r_0.Mod,vb r_0.Not,c3]) qcI rfl rfl (qac.own 0 rfl rfl)) fun a E=>?_
 obtain ⟨r6,e7,hF⟩:=bnd hF
 refine lc E qww rfl (qmG N _ r_0 ⟨_,rfl,r1,r2,h4⟩ e7 hG ok) fun w ok a E=>lw E (qaO rfl) fun a E=>aw E rfl fun a E=>wp_ret ?_
 exact fin hF ⟨ok.drop,E.d,⟨rv_t E rfl,trivial⟩⟩
def qdD (u:World) (m0:Mem) (S:Segs) (r:Int) (a:Act) (w:World):Prop :=
 Ok u m0 S w ∧ a.defers = [] ∧ RVs Tryz.prog a w [.t 4 (.int .i64 r)] ∧ InR .i64 r
theorem qf6 (N:Nat) (vs_0:Value) (s_0:List (Relation)) (hs_0:(pL 4 qag) m0 [vs_0] s_0) {r:Int} (hF:qbB N s_0 = some r) (hG:Glob u) (ok:Ok u m0 S w) :
  Calls Tryz.prog 74 [vs_0,.func (.func 57) #[] #[]].toArray w fun e w'=>(e = .returned (.int .i64 r) ∧ Ok u m0 S w') ∧ InR .i64 r:=by
 unfold qbB at hF
 refine en (qdD u m0 S) r Tryz.func74 rfl rfl rfl (by rintro a w ⟨ok,hd,hrv,h0⟩; exact qav [.t 4 (.int .i64 r)] hd rfl hrv ⟨⟨rfl,ok⟩,h0⟩) fun fin a E=>sg<|aw E rfl fun a E=>wp_seq<|wp_seq ?_
 refine qab<|mv E rfl fun a E=>lv E ok (qaH qbW hs_0 rfl) fun a E=>mv E rfl fun a E=>wn<|wp_block ?_
 obtain ⟨o2,hL,hF⟩:=bnd hF
 refine qaG _ (fun (s:Int) a w=>Ok u m0 (S) w ∧ Env 19 a [(0,vs_0),(1,(Value.func (.func 57) #[] #[])),(7,(vi (s_0.length:Int))),(8,vi s)] ∧ InR .i64 s) (fun (b:(Unit ⊕ Int)) e a w=>(Sum.elim (fun b23=>e = (.exit 0) ∧ Ok u m0 (S) w ∧ Env 19 a []) (fun b24=>e = .ret ∧ qdD u m0 S b24 a w)) b) ?_ ?_ N _ a w hL ⟨ok,E.keep [0,1,7,8],(ir 0)⟩
 rotate_left
 ·intro e a w _ hO
  rcases o2 with o2 | o2
  rotate_left
  ·replace hF:=qa6 hF
   obtain ⟨rfl,hret⟩:=hO
   refine qaA<|qaf ?_
   exact fin hF hret
  replace hF:=qa9 hF
  obtain ⟨rfl,ok,E⟩:=hO
  refine qaJ<|qaa<|sg<|aw E rfl fun a E=>wp_ret ?_
  exact fin hF ⟨ok,E.d,⟨rv_t E rfl,trivial⟩,(ir (-1))⟩
 rintro x_4 a w r ⟨ok,E,r5⟩ hF
 replace hF:qaY N s_0 x_4 = some r:=hF
 unfold qaY at hF
 refine sg<|lw E (qaF rfl rfl) fun a E=>wn<|wp_seq<|cf E rfl hF (fun hc6 hF=>?_) fun hc6 hF=>?_
 rotate_left
 ·refine wp_exit<|qaC ?_
  obtain rfl:=sj hF
  exact so (sl ⟨rfl,⟨ok,E.keep []⟩⟩)
 refine wp_skip<|qaa<|wp_seq<|wp_block<|sg<|mv E rfl fun a E=>av E rfl fun a E=>?_
 refine wn<|sg<|mv E rfl fun a E=>mv E rfl fun a E=>mv E rfl fun a E=>?_
 obtain ⟨x7,e8,hF⟩:=bnd hF
 obtain ⟨b9,o10,es11,hl12,rr13,at14,yy15⟩:=qaP qbW hs_0 e8 (P:=Tryz.prog) (X:=.tmp 12) (I:=.tmp 13) (kd:=.i64) (qak E rfl) (qak E rfl)
 obtain ⟨c18,rfl,r16,r17,h19⟩:=rr13
 refine lv E ok (yy15 _ _) fun a E=>lv E ok (qao (cs:=[vi x7.Operand,vi x7.Mod,vb x7.Not,c18]) qcI rfl rfl (qac.ro at14)) fun a E=>?_
 obtain ⟨r20,e21,hF⟩:=bnd hF
 refine qjT E rfl qwz rfl (qmb N _ x7 ⟨_,rfl,r16,r17,h19⟩ e21 hG ok) rfl rfl ?_
 rintro _ w ⟨rfl,ok⟩
 refine ⟨_,rfl,fun a E=>?_⟩
 refine wn<|cf E rfl hF (fun hc22 hF=>?_) fun hc22 hF=>?_
 rotate_left
 ·refine wp_skip<|qal<|qaa<|qab<|lw E (qaD rfl rfl (InR.inc r5 (qai hs_0) hc6)) fun a E=>mv E rfl fun a E=>wpList_nil ?_
  obtain rfl:=sj hF
  exact qau ⟨ok,E.keep [0,1,7,8],(InR.inc r5 (qai hs_0) hc6)⟩
 refine sg<|mv E rfl fun a E=>aw E rfl fun a E=>wp_ret<|qaA ?_
 refine qaf ?_
 obtain rfl:=sj hF
 exact so (sr ⟨rfl,⟨ok,E.d,⟨rv_t E rfl,trivial⟩,r5⟩⟩)
def qfJ (u:World) (m0:Mem) (S:Segs) (r:Bool) (a:Act) (w:World):Prop :=
 Ok u m0 S w ∧ a.defers = [] ∧ RVs Tryz.prog a w [.t 4 (.bool r)]
theorem qfF (N:Nat) (vs_0:Value) (s_0:List (Relation)) (hs_0:(pL 4 qag) m0 [vs_0] s_0) {r:Bool} (hF:qa1 N s_0 = some r) (hG:Glob u) (ok:Ok u m0 S w) :
  Calls Tryz.prog 51 [vs_0,.func (.func 57) #[] #[]].toArray w fun e w'=>(e = .returned (.bool r) ∧ Ok u m0 S w'):=by
 unfold qa1 at hF
 refine en (qfJ u m0 S) r Tryz.func51 rfl rfl rfl (by rintro a w ⟨ok,hd,hrv⟩; exact qav [.t 4 (.bool r)] hd rfl hrv ⟨rfl,ok⟩) fun fin a E=>sg<|aw E rfl fun a E=>sg ?_
 refine mv E rfl fun a E=>mv E rfl fun a E=>?_
 obtain ⟨r1,e2,hF⟩:=bnd hF
 refine qah E qt6 rfl (qf6 N _ s_0 hs_0 e2 hG ok) rfl rfl ?_
 rintro _ w ⟨⟨rfl,ok⟩,r3⟩
 refine ⟨_,rfl,fun a E=>?_⟩
 refine lw E (qgg rfl rfl) fun a E=>aw E rfl fun a E=>wp_ret ?_
 exact fin hF ⟨ok,E.d,⟨rv_t E rfl,trivial⟩⟩
def qjy (u:World) (m0:Mem) (S:Segs) (r:Bool) (a:Act) (w:World):Prop :=
 Ok u m0 S w ∧ a.defers = [] ∧ RVs Tryz.prog a w [.t 2 (.bool r)]
theorem qgS (N:Nat) (vc_0:Value) (c_0:List (List (Relation))) (hc_0:(pL 1 (pL 4 qag)) m0 [vc_0] c_0) {r:Bool} (hF:qea N c_0 = some r) (hG:Glob u) (ok:Ok u m0 S w) :
  Calls Tryz.prog 30 [vc_0].toArray w fun e w'=>(e = .returned (.bool r) ∧ Ok u m0 S w'):=by
 unfold qea at hF
 refine en (qjy u m0 S) r Tryz.func30 rfl rfl rfl (by rintro a w ⟨ok,hd,hrv⟩; exact qav [.t 2 (.bool r)] hd rfl hrv ⟨rfl,ok⟩) fun fin a E=>sg<|aw E rfl fun a E=>sg ?_
 refine aw E rfl fun a E=>wp_seq<|sg<|mv E rfl fun a E=>lv E ok (qaH qd8 hc_0 rfl) fun a E=>?_
 refine mv E rfl fun a E=>wn<|wp_block ?_
 obtain ⟨o3,hL,hF⟩:=bnd hF
 refine qaG _ (fun (s:Int × Int) a w=>Ok u m0 (S) w ∧ Env 31 a [(0,vc_0),(3,vi s.1),(6,vc_0),(7,(vi (c_0.length:Int))),(8,vi s.2)] ∧ InR .i64 s.1 ∧ InR .i64 s.2) (fun (b:(Int ⊕ Bool)) e a w=>(Sum.elim (fun b28=>e = (.exit 0) ∧ Ok u m0 (S) w ∧ Env 31 a [(0,vc_0),(3,vi b28)] ∧ InR .i64 b28) (fun b30=>e = .ret ∧ qjy u m0 S b30 a w)) b) ?_ ?_ N _ a w hL ⟨ok,E.keep [0,3,6,7,8],(ir 0),(ir 0)⟩
 rotate_left
 ·intro e a w _ hO
  rcases o3 with o3 | o3
  rotate_left
  ·replace hF:=qa6 hF
   obtain ⟨rfl,hret⟩:=hO
   refine qaA<|qaf ?_
   exact fin hF hret
  replace hF:=qa9 hF
  obtain ⟨rfl,ok,E,r26⟩:=hO
  refine qaJ<|qaa<|sg<|mv E rfl fun a E=>lv E ok (qaH qd8 hc_0 rfl) fun a E=>lw E (qa2 rfl rfl) fun a E=>mv E rfl fun a E=>?_
  refine qas (decide ((c_0.length:Int) > 0)) (fun hc27=>?_) (fun hc27=>?_)
  ·replace hF:=qaq hc27 hF
   replace E:=E.upd 27 hc27 rfl
   refine mv E rfl fun a E=>lw E (qgV rfl rfl) fun a E=>pt E rfl rfl fun a E=>aw E rfl fun a E=>wp_ret ?_
   exact fin hF ⟨ok,E.d,⟨rv_t E rfl,trivial⟩⟩
  replace hF:=qar hc27 hF
  replace E:=E.upd 27 hc27 rfl
  refine ls E fun a E=>ls E fun a E=>pf E rfl rfl fun a E=>aw E rfl fun a E=>wp_ret ?_
  exact fin hF ⟨ok,E.d,⟨rv_t E rfl,trivial⟩⟩
 rintro ⟨n_6,x_7⟩ a w r ⟨ok,E,r8,r9⟩ hF
 replace hF:qc0 N c_0 n_6 x_7 = some r:=hF
 unfold qc0 at hF
 refine sg<|lw E (qaF rfl rfl) fun a E=>wn<|wp_seq<|cf E rfl hF (fun hc10 hF=>?_) fun hc10 hF=>?_
 rotate_left
 ·refine wp_exit<|qaC ?_
  obtain rfl:=sj hF
  exact so (sl ⟨rfl,⟨ok,E.keep [0,3],r8⟩⟩)
 refine wp_skip<|qaa<|wp_seq<|wp_block<|sg ?_
 obtain ⟨x11,e12,hF⟩:=bnd hF
 obtain ⟨b13,o14,es15,hl16,rr17,at18,yy19⟩:=qaP qd8 hc_0 e12 (P:=Tryz.prog) (X:=.tmp 6) (I:=.tmp 8) (kd:=.i64) (qak E rfl) (qak E rfl)
 obtain ⟨c20,rfl,h21⟩:=qcn rr17
 refine lv E ok (yy19 _ _) fun a E=>lv E ok (qat qeS rfl (qac.ro at18)) fun a E=>aw E rfl fun a E=>wp_seq<|sg ?_
 refine mv E rfl fun a E=>lv E ok (qaH qbW h21 rfl) fun a E=>lw E (qaI rfl rfl) fun a E=>mv E rfl fun a E=>qas ((x11.length:Int) == 0) (fun hc22=>?_) (fun hc22=>?_)
 ·replace hF:=qaq hc22 hF
  replace E:=E.upd 15 hc22 rfl
  refine ls E fun a E=>ls E fun a E=>pt E rfl rfl fun a E=>wn<|c_if E rfl (fun _=>?_) (fun h=>by cases h)
  refine sg<|aw E rfl fun a E=>wp_ret<|qaf<|qaA ?_
  refine qaf ?_
  obtain rfl:=sj hF
  exact so (sr ⟨rfl,⟨ok,E.d,⟨rv_t E rfl,trivial⟩⟩⟩)
 replace hF:=qar hc22 hF
 replace E:=E.upd 15 hc22 rfl
 refine mv E rfl fun a E=>?_
 obtain ⟨r23,e24,hF⟩:=bnd hF
 refine lc E quf rfl (qfF N _ x11 h21 e24 hG ok) fun w ok a E=>pf E rfl rfl fun a E=>wn<|cf E rfl hF (fun hc25 hF=>?_) fun hc25 hF=>?_
 ·refine sg<|aw E rfl fun a E=>wp_ret<|qaf<|qaA ?_
  refine qaf ?_
  obtain rfl:=sj hF
  exact so (sr ⟨rfl,⟨ok,E.d,⟨rv_t E rfl,trivial⟩⟩⟩)
 refine wp_skip<|qaa<|qab<|mv E rfl fun a E=>mv E rfl fun a E=>lv E ok (qaH qbW h21 rfl) fun a E=>lw E (qbi rfl rfl) fun a E=>av E rfl fun a E=>?_
 refine wpList_nil<|qal<|qaa<|qab<|lw E (qaD rfl rfl (InR.inc r9 (qai hc_0) hc10)) fun a E=>mv E rfl fun a E=>wpList_nil ?_
 obtain rfl:=sj hF
 exact qau ⟨ok,E.keep [0,3,6,7,8],(InR.wrap _ _),(InR.inc r9 (qai hc_0) hc10)⟩
def qnY (u:World) (m0:Mem) (S:Segs) (pb0:Nat) (x0:Rule) (c5:Value) (r:Bool) (a:Act) (w:World):Prop :=
 Ok u m0 ([(pb0,oc 44 [vs x0.Class,c5])] :: S) w ∧ a.defers = [] ∧ RVs Tryz.prog a w [.t 3 (.bool r)]
theorem qnZ (N:Nat) (vx_0:List Value) (x_0:Rule) (hx_0:qfN m0 vx_0 x_0) {pb0:Nat} {c5:Value} (x0:Rule) (l4:x0.Class.length ≤ LIMS) (h6:(pL 1 (pL 4 qag)) m0 [c5] x0.Cond) {r:Bool} (hF:qh3 N x_0 x0 = some r) (hG:Glob u) (ok:Ok u m0 ([(pb0,oc 44 [vs x0.Class,c5])] :: S) w) :
  Calls Tryz.prog 32 [.agg vx_0.toArray,vp pb0].toArray w fun e w'=>(e = .returned (.bool r) ∧ Ok u m0 ([(pb0,oc 44 [vs x0.Class,c5])] :: S) w'):=by
 obtain ⟨c2,rfl,l1,h3⟩:=hx_0
 unfold qh3 at hF
 refine en (qnY u m0 S pb0 x0 c5) r Tryz.func32 rfl rfl rfl (by rintro a w ⟨ok,hd,hrv⟩; exact qav [.t 3 (.bool r)] hd rfl hrv ⟨rfl,ok⟩) fun fin a E=>sg<|qcO E ok rfl rfl rfl fun b7 a w E ok=>aw E rfl fun a E=>wp_seq ?_
 refine qab<|fv E qgX rfl fun a E=>ld E ok qaM 0 rfl rfl rfl fun a E=>fv E qgX rfl fun a E=>ld E ok qaM 1 rfl rfl rfl fun a E=>lw E (qer rfl rfl) fun a E=>av E rfl fun a E=>wpList_nil ?_
 refine qaa<|wp_ret ?_
 exact fin hF ⟨ok.drop,E.d,⟨rv_t E rfl,trivial⟩⟩
def qeJ (u:World) (m0:Mem) (S:Segs) (pb0:Nat) (x0:Rule) (c2:Value) (r:Int) (a:Act) (w:World):Prop :=
 Ok u m0 ([(pb0,oc 44 [vs x0.Class,c2])] :: S) w ∧ a.defers = [] ∧ RVs Tryz.prog a w [.t 4 (.int .i64 r)] ∧ InR .i64 r
theorem qhm (N:Nat) (vs_0:Value) (s_0:List (Rule)) (hs_0:(pL 2 qfN) m0 [vs_0] s_0) {pb0:Nat} {c2:Value} (x0:Rule) (l1:x0.Class.length ≤ LIMS) (h3:(pL 1 (pL 4 qag)) m0 [c2] x0.Cond) {r:Int} (hF:qcl N s_0 x0 = some r) (hG:Glob u) (ok:Ok u m0 ([(pb0,oc 44 [vs x0.Class,c2])] :: S) w) :
  Calls Tryz.prog 59 [vs_0,Value.func (.func 32) #[] #[.pointer (some ⟨pb0,0,none⟩)]].toArray w fun e w'=>(e = .returned (.int .i64 r) ∧ Ok u m0 ([(pb0,oc 44 [vs x0.Class,c2])] :: S) w') ∧ InR .i64 r:=by
 unfold qcl at hF
 refine en (qeJ u m0 S pb0 x0 c2) r Tryz.func59 rfl rfl rfl (by rintro a w ⟨ok,hd,hrv,h0⟩; exact qav [.t 4 (.int .i64 r)] hd rfl hrv ⟨⟨rfl,ok⟩,h0⟩) fun fin a E=>sg<|aw E rfl fun a E=>wp_seq<|wp_seq ?_
 refine qab<|mv E rfl fun a E=>lv E ok (qaH qcX hs_0 rfl) fun a E=>mv E rfl fun a E=>wn<|wp_block ?_
 obtain ⟨o5,hL,hF⟩:=bnd hF
 refine qaG _ (fun (s:Int) a w=>Ok u m0 ([(pb0,oc 44 [vs x0.Class,c2])] :: S) w ∧ Env 19 a [(0,vs_0),(1,(Value.func (.func 32) #[] #[.pointer (some ⟨pb0,0,none⟩)])),(7,(vi (s_0.length:Int))),(8,vi s)] ∧ InR .i64 s) (fun (b:(Unit ⊕ Int)) e a w=>(Sum.elim (fun b25=>e = (.exit 0) ∧ Ok u m0 ([(pb0,oc 44 [vs x0.Class,c2])] :: S) w ∧ Env 19 a []) (fun b26=>e = .ret ∧ qeJ u m0 S pb0 x0 c2 b26 a w)) b) ?_ ?_ N _ a w hL ⟨ok,E.keep [0,1,7,8],(ir 0)⟩
 rotate_left
 ·intro e a w _ hO
  rcases o5 with o5 | o5
  rotate_left
  ·replace hF:=qa6 hF
   obtain ⟨rfl,hret⟩:=hO
   refine qaA<|qaf ?_
   exact fin hF hret
  replace hF:=qa9 hF
  obtain ⟨rfl,ok,E⟩:=hO
  refine qaJ<|qaa<|sg<|aw E rfl fun a E=>wp_ret ?_
  exact fin hF ⟨ok,E.d,⟨rv_t E rfl,trivial⟩,(ir (-1))⟩
 rintro x_7 a w r ⟨ok,E,r8⟩ hF
 replace hF:qbk N s_0 x0 x_7 = some r:=hF
 unfold qbk at hF
 refine sg<|lw E (qaF rfl rfl) fun a E=>wn<|wp_seq<|cf E rfl hF (fun hc9 hF=>?_) fun hc9 hF=>?_
 rotate_left
 ·refine wp_exit<|qaC ?_
  obtain rfl:=sj hF
  exact so (sl ⟨rfl,⟨ok,E.keep []⟩⟩)
 refine wp_skip<|qaa<|wp_seq<|wp_block<|sg<|mv E rfl fun a E=>av E rfl fun a E=>?_
 refine wn<|sg<|mv E rfl fun a E=>mv E rfl fun a E=>mv E rfl fun a E=>?_
 obtain ⟨x10,e11,hF⟩:=bnd hF
 obtain ⟨b12,o13,es14,hl15,rr16,at17,yy18⟩:=qaP qcX hs_0 e11 (P:=Tryz.prog) (X:=.tmp 12) (I:=.tmp 13) (kd:=.i64) (qak E rfl) (qak E rfl)
 obtain ⟨c20,rfl,l19,h21⟩:=rr16
 refine lv E ok (yy18 _ _) fun a E=>lv E ok (qao (cs:=[vs x10.Class,c20]) qle rfl rfl (qac.ro at17)) fun a E=>?_
 obtain ⟨r22,e23,hF⟩:=bnd hF
 refine qcb E rfl qwv rfl (qnZ N _ x10 ⟨_,rfl,l19,h21⟩ x0 l1 h3 e23 hG ok) rfl rfl ?_
 rintro _ w ⟨rfl,ok⟩
 refine ⟨_,rfl,fun a E=>?_⟩
 refine wn<|cf E rfl hF (fun hc24 hF=>?_) fun hc24 hF=>?_
 rotate_left
 ·refine wp_skip<|qal<|qaa<|qab<|lw E (qaD rfl rfl (InR.inc r8 (qai hs_0) hc9)) fun a E=>mv E rfl fun a E=>wpList_nil ?_
  obtain rfl:=sj hF
  exact qau ⟨ok,E.keep [0,1,7,8],(InR.inc r8 (qai hs_0) hc9)⟩
 refine sg<|mv E rfl fun a E=>aw E rfl fun a E=>wp_ret<|qaA ?_
 refine qaf ?_
 obtain rfl:=sj hF
 exact so (sr ⟨rfl,⟨ok,E.d,⟨rv_t E rfl,trivial⟩,r8⟩⟩)
def qgL (u:World) (m0:Mem) (S:Segs) (pb0:Nat) (x0:Rule) (c2:Value) (r:Bool) (a:Act) (w:World):Prop :=
 Ok u m0 ([(pb0,oc 44 [vs x0.Class,c2])] :: S) w ∧ a.defers = [] ∧ RVs Tryz.prog a w [.t 4 (.bool r)]
theorem qgM (N:Nat) (vs_0:Value) (s_0:List (Rule)) (hs_0:(pL 2 qfN) m0 [vs_0] s_0) {pb0:Nat} {c2:Value} (x0:Rule) (l1:x0.Class.length ≤ LIMS) (h3:(pL 1 (pL 4 qag)) m0 [c2] x0.Cond) {r:Bool} (hF:qbj N s_0 x0 = some r) (hG:Glob u) (ok:Ok u m0 ([(pb0,oc 44 [vs x0.Class,c2])] :: S) w) :
  Calls Tryz.prog 31 [vs_0,Value.func (.func 32) #[] #[.pointer (some ⟨pb0,0,none⟩)]].toArray w fun e w'=>(e = .returned (.bool r) ∧ Ok u m0 ([(pb0,oc 44 [vs x0.Class,c2])] :: S) w'):=by
 unfold qbj at hF
 refine en (qgL u m0 S pb0 x0 c2) r Tryz.func31 rfl rfl rfl (by rintro a w ⟨ok,hd,hrv⟩; exact qav [.t 4 (.bool r)] hd rfl hrv ⟨rfl,ok⟩) fun fin a E=>sg<|aw E rfl fun a E=>sg ?_
 refine mv E rfl fun a E=>mv E rfl fun a E=>?_
 obtain ⟨r4,e5,hF⟩:=bnd hF
 refine qah E qwI rfl (qhm N _ s_0 hs_0 x0 l1 h3 e5 hG ok) rfl rfl ?_
 rintro _ w ⟨⟨rfl,ok⟩,r6⟩
 refine ⟨_,rfl,fun a E=>?_⟩
 refine lw E (qgg rfl rfl) fun a E=>aw E rfl fun a E=>wp_ret ?_
 exact fin hF ⟨ok,E.d,⟨rv_t E rfl,trivial⟩⟩
def qk4 (u:World) (m0:Mem) (S:Segs) (r:Bool) (a:Act) (w:World):Prop :=
 Ok u m0 S w ∧ a.defers = [] ∧ RVs Tryz.prog a w [.t 2 (.bool r)]
theorem qkI (N:Nat) (vl_0:Value) (l_0:List (Rule)) (hl_0:(pL 2 qfN) m0 [vl_0] l_0) {r:Bool} (hF:qg4 N l_0 = some r) (hG:Glob u) (ok:Ok u m0 S w) :
  Calls Tryz.prog 13 [vl_0].toArray w fun e w'=>(e = .returned (.bool r) ∧ Ok u m0 S w'):=by
 unfold qg4 at hF
 refine en (qk4 u m0 S) r Tryz.func13 rfl rfl rfl (by rintro a w ⟨ok,hd,hrv⟩; exact qav [.t 2 (.bool r)] hd rfl hrv ⟨rfl,ok⟩) fun fin a E=>sg<|aw E rfl fun a E=>wp_seq<|wp_seq ?_
 refine qab<|mv E rfl fun a E=>lv E ok (qaH qcX hl_0 rfl) fun a E=>mv E rfl fun a E=>wn<|wp_block ?_
 obtain ⟨o2,hL,hF⟩:=bnd hF
 refine qaG _ (fun (s:Int) a w=>Ok u m0 (S) w ∧ Env 35 a [(0,vl_0),(5,vl_0),(6,(vi (l_0.length:Int))),(7,vi s)] ∧ InR .i64 s) (fun (b:(Unit ⊕ Bool)) e a w=>(Sum.elim (fun b35=>e = (.exit 0) ∧ Ok u m0 (S) w ∧ Env 35 a []) (fun b36=>e = .ret ∧ qk4 u m0 S b36 a w)) b) ?_ ?_ N _ a w hL ⟨ok,E.keep [0,5,6,7],(ir 0)⟩
 rotate_left
 ·intro e a w _ hO
  rcases o2 with o2 | o2
  rotate_left
  ·replace hF:=qa6 hF
   obtain ⟨rfl,hret⟩:=hO
   refine qaA<|qaf ?_
   exact fin hF hret
  replace hF:=qa9 hF
  obtain ⟨rfl,ok,E⟩:=hO
  refine qaJ<|qaa<|sg<|aw E rfl fun a E=>wp_ret ?_
  exact fin hF ⟨ok,E.d,⟨rv_t E rfl,trivial⟩⟩
 rintro x_4 a w r ⟨ok,E,r5⟩ hF
 replace hF:qeb N l_0 x_4 = some r:=hF
 unfold qeb at hF
 refine sg<|lw E (qaF rfl rfl) fun a E=>wn<|wp_seq<|cf E rfl hF (fun hc6 hF=>?_) fun hc6 hF=>?_
 rotate_left
 ·refine wp_exit<|qaC ?_
  obtain rfl:=sj hF
  exact so (sl ⟨rfl,⟨ok,E.keep []⟩⟩)
 refine wp_skip<|qaa<|wp_seq<|wp_block<|sg<|mv E rfl fun a E=>?_
 obtain ⟨x7,e8,hF⟩:=bnd hF
 obtain ⟨b9,o10,es11,hl12,rr13,at14,yy15⟩:=qaP qcX hl_0 e8 (P:=Tryz.prog) (X:=.tmp 5) (I:=.tmp 7) (kd:=.i64) (qak E rfl) (qak E rfl)
 obtain ⟨c17,rfl,l16,h18⟩:=rr13
 refine lv E ok (yy15 _ _) fun a E=>lv E ok (qao (cs:=[vs x7.Class,c17]) qle rfl rfl (qac.ro at14)) fun a E=>qaN E ok qiu rfl rfl fun b19 a w E ok=>av E rfl fun a E=>qae E ok 0 rfl rfl rfl qmY rfl rfl ⟨rfl,(qid h18),trivial⟩ rfl rfl fun w ok=>wn<|wp_seq ?_
 refine qab<|fv E qgX rfl fun a E=>ld E ok qaM 0 rfl rfl rfl fun a E=>?_
 obtain ⟨r20,e21,hF⟩:=bnd hF
 refine lc E qud rfl (qlf N x7.Class l16 e21 hG ok) fun w ok a E=>lw E (qaO rfl) fun a E=>mv E rfl fun a E=>qas (!r20) (fun hc22=>?_) (fun hc22=>?_)
 ·replace hF:=qaq hc22 hF
  replace E:=E.upd 16 hc22 rfl
  refine ls E fun a E=>ls E fun a E=>ls E fun a E=>pt E rfl rfl fun a E=>mv E rfl fun a E=>ls E fun a E=>ls E fun a E=>ls E fun a E=>?_
  refine ls E fun a E=>pt E rfl rfl fun a E=>mv E rfl fun a E=>ls E fun a E=>ls E fun a E=>ls E fun a E=>ls E fun a E=>ls E fun a E=>?_
  refine pt E rfl rfl fun a E=>wn<|c_if E rfl (fun _=>?_) (fun h=>by cases h)
  refine sg<|aw E rfl fun a E=>wp_ret<|qaA<|qaf ?_
  obtain rfl:=sj hF
  exact so (sr ⟨rfl,⟨ok.drop,E.d,⟨rv_t E rfl,trivial⟩⟩⟩)
 replace hF:=qar hc22 hF
 replace E:=E.upd 16 hc22 rfl
 refine fv E qgX rfl fun a E=>ld E ok qaM 0 rfl rfl rfl fun a E=>lw E (qer rfl rfl) fun a E=>pf E rfl rfl fun a E=>mv E rfl fun a E=>qas (x7.Class == ([111,116,104,101,114])) (fun hc23=>?_) (fun hc23=>?_)
 ·replace hF:=qaq hc23 hF
  replace E:=E.upd 21 hc23 rfl
  refine ls E fun a E=>ls E fun a E=>ls E fun a E=>ls E fun a E=>pt E rfl rfl fun a E=>mv E rfl fun a E=>ls E fun a E=>ls E fun a E=>?_
  refine ls E fun a E=>ls E fun a E=>ls E fun a E=>pt E rfl rfl fun a E=>wn<|c_if E rfl (fun _=>?_) (fun h=>by cases h)
  refine sg<|aw E rfl fun a E=>wp_ret<|qaA<|qaf ?_
  obtain rfl:=sj hF
  exact so (sr ⟨rfl,⟨ok.drop,E.d,⟨rv_t E rfl,trivial⟩⟩⟩)
 replace hF:=qar hc23 hF
 replace E:=E.upd 21 hc23 rfl
 refine fv E qht rfl fun a E=>ld E ok qdu 0 rfl rfl rfl fun a E=>?_
 obtain ⟨r24,e25,hF⟩:=bnd hF
 refine lc E qpY rfl (qgS N _ x7.Cond h18 e25 hG ok) fun w ok a E=>lw E (qaO rfl) fun a E=>pf E rfl rfl fun a E=>mv E rfl fun a E=>qas (!r24) (fun hc26=>?_) (fun hc26=>?_)
 ·replace hF:=qaq hc26 hF
  replace E:=E.upd 27 hc26 rfl
  refine ls E fun a E=>ls E fun a E=>ls E fun a E=>ls E fun a E=>ls E fun a E=>pt E rfl rfl fun a E=>wn ?_
  refine c_if E rfl (fun _=>?_) (fun h=>by cases h)
  refine sg<|aw E rfl fun a E=>wp_ret<|qaA<|qaf ?_
  obtain rfl:=sj hF
  exact so (sr ⟨rfl,⟨ok.drop,E.d,⟨rv_t E rfl,trivial⟩⟩⟩)
 replace hF:=qar hc26 hF
 replace E:=E.upd 27 hc26 rfl
 refine mv E rfl fun a E=>mv E rfl fun a E=>?_
 obtain ⟨l27,e28,hF⟩:=bnd hF
 obtain ⟨c29,h30,yy31⟩:=qtY qcX hl_0 e28 (P:=Tryz.prog) (X:=.tmp 28) (lov:=none) (hiv:=(some (.tmp 29))) (qak E rfl) (quq E rfl) (quq E ⟨_,rfl⟩)
 refine lv E ok (yy31 _ _) fun a E=>lv E ok (qbQ (caps:=[.tmp 4]) rfl) fun a E=>?_
 obtain ⟨r32,e33,hF⟩:=bnd hF
 refine lc E qwi rfl (qgM N _ l27 h30 x7 l16 h18 e33 hG ok) fun w ok a E=>pf E rfl rfl fun a E=>wn<|cf E rfl hF (fun hc34 hF=>?_) fun hc34 hF=>?_
 rotate_left
 ·refine wp_skip<|qal<|qaa<|qab<|lw E (qaD rfl rfl (InR.inc r5 (qai hl_0) hc6)) fun a E=>mv E rfl fun a E=>wpList_nil ?_
  obtain rfl:=sj hF
  exact qau ⟨(ok.pk 1 [] rfl (by decide)),E.keep [0,5,6,7],(InR.inc r5 (qai hl_0) hc6)⟩
 refine sg<|aw E rfl fun a E=>wp_ret<|qaA<|qaf ?_
 obtain rfl:=sj hF
 exact so (sr ⟨rfl,⟨ok.drop,E.d,⟨rv_t E rfl,trivial⟩⟩⟩)
theorem ql9 {u:World} {m0:Mem} {S:Segs} {w:World} (N:Nat) (p0_0:List UInt8) (lp0_0:p0_0.length ≤ LIMS) (p1_1:List UInt8) (lp1_1:p1_1.length ≤ LIMS) {r:(List UInt8) × Bool} (hF:strings_CutPrefix N p0_0 p1_1 = some r) (hG:Glob u) (ok:Ok u m0 S w) :
 Calls Tryz.prog 101 [vs p0_0,vs p1_1].toArray w fun e w'=>(e = .returned (.tuple [(.string (bs r.1)),(.bool r.2)].toArray) ∧ Ok u m0 S w') ∧ r.1.length ≤ LIMS:=qpS Tryz.lays103 p0_0 p1_1 hF lp0_0 ok
theorem qpX (N:Nat) (p0_0:List UInt8) (lp0_0:p0_0.length ≤ LIMS) (p1_1:List UInt8) (lp1_1:p1_1.length ≤ LIMS) {r:(List UInt8) × (List UInt8) × Bool} (hF:strings_Cut N p0_0 p1_1 = some r) (hG:Glob u) (ok:Ok u m0 S w) :
  Calls Tryz.prog 102 [vs p0_0,vs p1_1].toArray w fun e w'=>(e = .returned (.tuple [(.string (bs r.1)),(.string (bs r.2.1)),(.bool r.2.2)].toArray) ∧ Ok u m0 S w') ∧ r.1.length ≤ LIMS ∧ r.2.1.length ≤ LIMS:=by
 obtain ⟨mx,hmx⟩:=hG
 exact quE Tryz.lays145 hmx p0_0 p1_1 hF lp0_0 ok
theorem qkO {u:World} {m0:Mem} {S:Segs} {w:World} (N:Nat) (p0_0:List UInt8) (lp0_0:p0_0.length ≤ LIMS) (p1_1:List UInt8) (lp1_1:p1_1.length ≤ LIMS) {r:(List UInt8)} (hF:qf1 N p0_0 p1_1 = some r) (hG:Glob u) (ok:Ok u m0 S w) :
 Calls Tryz.prog 133 [vs p0_0,vs p1_1].toArray w fun e w'=>(e = .returned (.string (bs r)) ∧ Ok u m0 S w') ∧ r.length ≤ LIMS:=qtp Tryz.lays160 (by kernel_rfl) p0_0 p1_1 hF lp0_0 ok
def qnX (u:World) (m0:Mem) (S:Segs) (r:Bool) (a:Act) (w:World):Prop :=
 Ok u m0 S w ∧ a.defers = [] ∧ RVs Tryz.prog a w [.t 2 (.bool r)]
theorem qf3 (N:Nat) (s_0:List UInt8) (ls_0:s_0.length ≤ LIMS) {r:Bool} (hF:qdM N s_0 = some r) (hG:Glob u) (ok:Ok u m0 S w) :
  Calls Tryz.prog 103 [vs s_0].toArray w fun e w'=>(e = .returned (.bool r) ∧ Ok u m0 S w'):=by
 unfold qdM at hF
 refine en (qnX u m0 S) r Tryz.func103 rfl rfl rfl (by rintro a w ⟨ok,hd,hrv⟩; exact qav [.t 2 (.bool r)] hd rfl hrv ⟨rfl,ok⟩) fun fin a E=>sg<|aw E rfl fun a E=>sg ?_
 refine mv E rfl fun a E=>?_
 obtain ⟨r1,e2,hF⟩:=bnd hF
 refine qah E qsX rfl (qkO N s_0 ls_0 ([48,49,50,51,52,53,54,55,56,57]) (show ([48,49,50,51,52,53,54,55,56,57]:List UInt8).length ≤ LIMS by decide) e2 hG ok) rfl rfl ?_
 rintro _ w ⟨⟨rfl,ok⟩,l3⟩
 refine ⟨_,rfl,fun a E=>?_⟩
 refine lw E (qer rfl rfl) fun a E=>aw E rfl fun a E=>wp_ret ?_
 exact fin hF ⟨ok,E.d,⟨rv_t E rfl,trivial⟩⟩
def qpj (u:World) (m0:Mem) (S:Segs) (r:Bool) (a:Act) (w:World):Prop :=
 Ok u m0 S w ∧ a.defers = [] ∧ RVs Tryz.prog a w [.t 2 (.bool r)]
theorem qlb (N:Nat) (s_0:List UInt8) (ls_0:s_0.length ≤ LIMS) {r:Bool} (hF:qg2 N s_0 = some r) (hG:Glob u) (ok:Ok u m0 S w) :
  Calls Tryz.prog 134 [vs s_0].toArray w fun e w'=>(e = .returned (.bool r) ∧ Ok u m0 S w'):=by
 unfold qg2 at hF
 refine en (qpj u m0 S) r Tryz.func134 rfl rfl rfl (by rintro a w ⟨ok,hd,hrv⟩; exact qav [.t 2 (.bool r)] hd rfl hrv ⟨rfl,ok⟩) fun fin a E=>sg<|aw E rfl fun a E=>sg ?_
 refine mv E rfl fun a E=>?_
 obtain ⟨r1,e2,hF⟩:=bnd hF
 refine qah E qsX rfl (qkO N s_0 ls_0 ([48]) (show ([48]:List UInt8).length ≤ LIMS by decide) e2 hG ok) rfl rfl ?_
 rintro _ w ⟨⟨rfl,ok⟩,l3⟩
 refine ⟨_,rfl,fun a E=>?_⟩
 refine lw E (qer rfl rfl) fun a E=>aw E rfl fun a E=>wp_ret ?_
 exact fin hF ⟨ok,E.d,⟨rv_t E rfl,trivial⟩⟩
def qk8 (u:World) (m0:Mem) (S:Segs) (r:Bool) (a:Act) (w:World):Prop :=
 Ok u m0 S w ∧ a.defers = [] ∧ RVs Tryz.prog a w [.t 2 (.bool r)]
theorem qfs (N:Nat) (vx_0:List Value) (x_0:Number) (hx_0:qo4 m0 vx_0 x_0) {r:Bool} (hF:qds N x_0 = some r) (hG:Glob u) (ok:Ok u m0 S w) :
  Calls Tryz.prog 104 [.agg vx_0.toArray].toArray w fun e w'=>(e = .returned (.bool r) ∧ Ok u m0 S w'):=by
 obtain ⟨rfl,l1,l2⟩:=hx_0
 unfold qds at hF
 refine en (qk8 u m0 S) r Tryz.func104 rfl rfl rfl (by rintro a w ⟨ok,hd,hrv⟩; exact qav [.t 2 (.bool r)] hd rfl hrv ⟨rfl,ok⟩) fun fin a E=>sg<|qcO E ok rfl rfl rfl fun b3 a w E ok=>aw E rfl fun a E=>wp_seq ?_
 refine qab<|fv E qpl rfl fun a E=>ld E ok qaM 0 rfl rfl rfl fun a E=>?_
 obtain ⟨r4,e5,hF⟩:=bnd hF
 refine lc E qsR rfl (qlb N x_0.whole l1 e5 hG ok) fun w ok a E=>mv E rfl fun a E=>qas r4 (fun hc6=>?_) (fun hc6=>?_)
 rotate_left
 ·replace hF:=qar hc6 hF
  replace E:=E.upd 6 hc6 rfl
  refine ls E fun a E=>ls E fun a E=>ls E fun a E=>pf E rfl rfl fun a E=>aw E rfl fun a E=>wp_ret ?_
  exact fin hF ⟨ok.drop,E.d,⟨rv_t E rfl,trivial⟩⟩
 replace hF:=qaq hc6 hF
 replace E:=E.upd 6 hc6 rfl
 refine fv E qng rfl fun a E=>ld E ok qaM 0 rfl rfl rfl fun a E=>?_
 obtain ⟨r7,e8,hF⟩:=bnd hF
 refine lc E qsR rfl (qlb N x_0.fraction l2 e8 hG ok) fun w ok a E=>pt E rfl rfl fun a E=>aw E rfl fun a E=>wp_ret ?_
 exact fin hF ⟨ok.drop,E.d,⟨rv_t E rfl,trivial⟩⟩
def qn9 (u:World) (m0:Mem) (S:Segs) (r:Number × Bool) (a:Act) (w:World):Prop :=
 ∃ m1 v0,m0.le m1 ∧ Ok u m1 S w ∧ a.defers = [] ∧ RVs Tryz.prog a w [.c 2 92 (.agg v0.toArray),.t 3 (.bool r.2)] ∧ qo4 m1 v0 r.1
theorem qku (N:Nat) (s_0:List UInt8) (ls_0:s_0.length ≤ LIMS) {r:Number × Bool} (hF:qgs N s_0 = some r) (hG:Glob u) (ok:Ok u m0 S w) :
  Calls Tryz.prog 72 [vs s_0].toArray w fun e w'=>∃ m1 v0,e = .returned (.tuple [(.agg v0.toArray),(.bool r.2)].toArray) ∧ m0.le m1 ∧ Ok u m1 S w' ∧ qo4 m1 v0 r.1:=by
 have le_m0:=Mem.le.refl m0
 unfold qgs at hF
 refine en (qn9 u m0 S) r Tryz.func72 rfl rfl rfl (by rintro a w ⟨m1,v0,hle,ok,hd,hrv,h0⟩; exact qav [.c 2 92 (.agg v0.toArray),.t 3 (.bool r.2)] hd rfl hrv ⟨m1,v0,rfl,hle,ok,h0⟩) fun fin a E=>sg<|qaN E ok qkJ rfl rfl fun b1 a w E ok=>aw E rfl fun a E=>wp_seq ?_
 refine qab<|mv E rfl fun a E=>?_
 obtain ⟨r2,e3,hF⟩:=bnd hF
 refine qah E qvo rfl (ql9 N s_0 ls_0 ([45]) (show ([45]:List UInt8).length ≤ LIMS by decide) e3 hG ok) rfl rfl ?_
 rintro _ w ⟨⟨rfl,ok⟩,l4⟩
 refine ⟨_,rfl,fun a E=>?_⟩
 refine mv E rfl fun a E=>lw E (qaj rfl rfl) fun a E=>lw E (qaj rfl rfl) fun a E=>av E rfl fun a E=>aw E rfl fun a E=>wp_seq ?_
 refine qab<|mv E rfl fun a E=>?_
 obtain ⟨r5,e6,hF⟩:=bnd hF
 refine qah E qvj rfl (qpX N r2.1 l4 ([46]) (show ([46]:List UInt8).length ≤ LIMS by decide) e6 hG ok) rfl rfl ?_
 rintro _ w ⟨⟨rfl,ok⟩,l7,l8⟩
 refine ⟨_,rfl,fun a E=>?_⟩
 refine mv E rfl fun a E=>lw E (qaj rfl rfl) fun a E=>lw E (qaj rfl rfl) fun a E=>lw E (qaj rfl rfl) fun a E=>av E rfl fun a E=>av E rfl fun a E=>av E rfl fun a E=>wpList_nil ?_
 refine qaa<|sg<|mv E rfl fun a E=>mv E rfl fun a E=>mv E rfl fun a E=>lw E (qaX (ps:=[(0,.tmp 21),(1,.tmp 22),(2,.tmp 23)]) (qs:=[(0,[vb r2.2]),(1,[vs r5.1]),(2,[vs r5.2.1])]) (cs:=[vb r2.2,vs r5.1,vs r5.2.1]) qkJ qti rfl ⟨rfl,rfl,rfl,⟨rfl,rfl,rfl,⟨rfl,rfl,rfl,trivial⟩⟩⟩ rfl) fun a E=>qaN E ok qkJ rfl rfl fun b9 a w E ok=>?_
 refine qae E ok 0 rfl rfl rfl qdj rfl rfl ⟨rfl,rfl,rfl,trivial⟩ rfl rfl fun w ok=>wn<|wp_seq<|wp_block<|sg<|mv E rfl fun a E=>?_
 refine lw E (qaK Tryz.underlying9 rfl) fun a E=>lw E (qaF rfl rfl) fun a E=>mv E rfl fun a E=>qas (decide ((r5.1.length:Int) < 1)) (fun hc10=>?_) (fun hc10=>?_)
 ·replace hF:=qaq hc10 hF
  replace E:=E.upd 29 hc10 rfl
  refine ls E fun a E=>ls E fun a E=>ls E fun a E=>pt E rfl rfl fun a E=>mv E rfl fun a E=>ls E fun a E=>ls E fun a E=>ls E fun a E=>?_
  refine pt E rfl rfl fun a E=>mv E rfl fun a E=>ls E fun a E=>ls E fun a E=>ls E fun a E=>ls E fun a E=>ls E fun a E=>ls E fun a E=>?_
  refine ls E fun a E=>ls E fun a E=>pt E rfl rfl fun a E=>aw E rfl fun a E=>c_if E rfl (fun _=>?_) (fun h=>by cases h)
  refine sg<|lv E ok (qao (cs:=[vb r2.2,vs r5.1,vs r5.2.1]) qa5 rfl rfl (qac.own 0 rfl rfl)) fun a E=>qae E ok 1 rfl rfl rfl qdj rfl rfl ⟨rfl,rfl,rfl,trivial⟩ rfl rfl fun w ok=>aw E rfl fun a E=>wp_ret ?_
  refine qaA<|qaf ?_
  exact fin hF ⟨m0,[vb r2.2,vs r5.1,vs r5.2.1],le_m0,ok.drop.drop,E.d,⟨rv_c (cs:=[vb r2.2,vs r5.1,vs r5.2.1]) E ok rfl qa5 rfl (qac.own 1 rfl rfl),rv_t E rfl,trivial⟩,⟨rfl,l7,l8⟩⟩
 replace hF:=qar hc10 hF
 replace E:=E.upd 29 hc10 rfl
 refine mv E rfl fun a E=>lw E (qaK Tryz.underlying9 rfl) fun a E=>lw E (qa2 rfl rfl) fun a E=>pf E rfl rfl fun a E=>mv E rfl fun a E=>qas (decide ((r5.1.length:Int) > 15)) (fun hc11=>?_) (fun hc11=>?_)
 ·replace hF:=qaq hc11 hF
  replace E:=E.upd 34 hc11 rfl
  refine ls E fun a E=>ls E fun a E=>ls E fun a E=>pt E rfl rfl fun a E=>mv E rfl fun a E=>ls E fun a E=>ls E fun a E=>ls E fun a E=>?_
  refine ls E fun a E=>ls E fun a E=>ls E fun a E=>ls E fun a E=>ls E fun a E=>pt E rfl rfl fun a E=>av E rfl fun a E=>wpList_nil ?_
  refine qaa<|c_if E rfl (fun _=>?_) (fun h=>by cases h)
  refine sg<|lv E ok (qao (cs:=[vb r2.2,vs r5.1,vs r5.2.1]) qa5 rfl rfl (qac.own 0 rfl rfl)) fun a E=>qae E ok 1 rfl rfl rfl qdj rfl rfl ⟨rfl,rfl,rfl,trivial⟩ rfl rfl fun w ok=>aw E rfl fun a E=>wp_ret ?_
  refine qaA<|qaf ?_
  exact fin hF ⟨m0,[vb r2.2,vs r5.1,vs r5.2.1],le_m0,ok.drop.drop,E.d,⟨rv_c (cs:=[vb r2.2,vs r5.1,vs r5.2.1]) E ok rfl qa5 rfl (qac.own 1 rfl rfl),rv_t E rfl,trivial⟩,⟨rfl,l7,l8⟩⟩
 replace hF:=qar hc11 hF
 replace E:=E.upd 34 hc11 rfl
 refine mv E rfl fun a E=>?_
 obtain ⟨r12,e13,hF⟩:=bnd hF
 refine lc E qm7 rfl (qf3 N r5.1 l7 e13 hG ok) fun w ok a E=>lw E (qaO rfl) fun a E=>pf E rfl rfl fun a E=>mv E rfl fun a E=>qas (!r12) (fun hc14=>?_) (fun hc14=>?_)
 ·replace hF:=qaq hc14 hF
  replace E:=E.upd 39 hc14 rfl
  refine ls E fun a E=>ls E fun a E=>ls E fun a E=>ls E fun a E=>ls E fun a E=>ls E fun a E=>ls E fun a E=>ls E fun a E=>?_
  refine pt E rfl rfl fun a E=>aw E rfl fun a E=>c_if E rfl (fun _=>?_) (fun h=>by cases h)
  refine sg<|lv E ok (qao (cs:=[vb r2.2,vs r5.1,vs r5.2.1]) qa5 rfl rfl (qac.own 0 rfl rfl)) fun a E=>qae E ok 1 rfl rfl rfl qdj rfl rfl ⟨rfl,rfl,rfl,trivial⟩ rfl rfl fun w ok=>aw E rfl fun a E=>wp_ret ?_
  refine qaA<|qaf ?_
  exact fin hF ⟨m0,[vb r2.2,vs r5.1,vs r5.2.1],le_m0,ok.drop.drop,E.d,⟨rv_c (cs:=[vb r2.2,vs r5.1,vs r5.2.1]) E ok rfl qa5 rfl (qac.own 1 rfl rfl),rv_t E rfl,trivial⟩,⟨rfl,l7,l8⟩⟩
 replace hF:=qar hc14 hF
 replace E:=E.upd 39 hc14 rfl
 refine mv E rfl fun a E=>lw E (qaK Tryz.underlying9 rfl) fun a E=>lw E (qa2 rfl rfl) fun a E=>mv E rfl fun a E=>qas (decide ((r5.1.length:Int) > 1)) (fun hc15=>?_) (fun hc15=>?_)
 rotate_left
 ·as_aux_lemma =>
   replace hF:=qar hc15 hF
   replace E:=E.upd 43 hc15 rfl
   refine ls E fun a E=>ls E fun a E=>ls E fun a E=>pf E rfl rfl fun a E=>pf E rfl rfl fun a E=>aw E rfl fun a E=>?_
   refine c_if E rfl (fun h=>by cases h) (fun _=>?_)
   refine sg<|mv E rfl fun a E=>mv E rfl fun a E=>qas r5.2.2 (fun hc45=>?_) (fun hc45=>?_)
   rotate_left
   ·as_aux_lemma =>
     replace hF:=qar hc45 hF
     replace E:=E.upd 52 hc45 rfl
     refine ls E fun a E=>ls E fun a E=>ls E fun a E=>pf E rfl rfl fun a E=>mv E rfl fun a E=>mv E rfl fun a E=>lw E (qaK Tryz.underlying9 rfl) fun a E=>lw E (qa2 rfl rfl) fun a E=>?_
     refine pf E rfl rfl fun a E=>mv E rfl fun a E=>qas (decide ((r5.2.1.length:Int) > 6)) (fun hc59=>?_) (fun hc59=>?_)
     ·replace hF:=qaq hc59 hF
      replace E:=E.upd 62 hc59 rfl
      refine ls E fun a E=>ls E fun a E=>ls E fun a E=>pt E rfl rfl fun a E=>aw E rfl fun a E=>c_if E rfl (fun _=>?_) (fun h=>by cases h)
      refine sg<|lv E ok (qao (cs:=[vb r2.2,vs r5.1,vs r5.2.1]) qa5 rfl rfl (qac.own 0 rfl rfl)) fun a E=>qae E ok 1 rfl rfl rfl qdj rfl rfl ⟨rfl,rfl,rfl,trivial⟩ rfl rfl fun w ok=>aw E rfl fun a E=>wp_ret ?_
      refine qaA<|qaf ?_
      exact fin hF ⟨m0,[vb r2.2,vs r5.1,vs r5.2.1],le_m0,ok.drop.drop,E.d,⟨rv_c (cs:=[vb r2.2,vs r5.1,vs r5.2.1]) E ok rfl qa5 rfl (qac.own 1 rfl rfl),rv_t E rfl,trivial⟩,⟨rfl,l7,l8⟩⟩
     replace hF:=qar hc59 hF
     replace E:=E.upd 62 hc59 rfl
     refine mv E rfl fun a E=>?_
     obtain ⟨r60,e61,hF⟩:=bnd hF
     refine lc E qm7 rfl (qf3 N r5.2.1 l8 e61 hG ok) fun w ok a E=>lw E (qaO rfl) fun a E=>pf E rfl rfl fun a E=>aw E rfl fun a E=>cf E rfl hF (fun hc62 hF=>?_) fun hc62 hF=>?_
     ·refine sg<|lv E ok (qao (cs:=[vb r2.2,vs r5.1,vs r5.2.1]) qa5 rfl rfl (qac.own 0 rfl rfl)) fun a E=>qae E ok 1 rfl rfl rfl qdj rfl rfl ⟨rfl,rfl,rfl,trivial⟩ rfl rfl fun w ok=>aw E rfl fun a E=>wp_ret ?_
      refine qaA<|qaf ?_
      exact fin hF ⟨m0,[vb r2.2,vs r5.1,vs r5.2.1],le_m0,ok.drop.drop,E.d,⟨rv_c (cs:=[vb r2.2,vs r5.1,vs r5.2.1]) E ok rfl qa5 rfl (qac.own 1 rfl rfl),rv_t E rfl,trivial⟩,⟨rfl,l7,l8⟩⟩
     refine wp_skip<|qal<|qaa<|wp_seq ?_
     obtain ⟨o63,hJ,hF⟩:=bnd hF
     refine qaT (Q':=fun e a w=>e = .normal ∧ Ok u m0 ([(b9,oc 92 [vb r2.2,vs r5.1,vs r5.2.1])] :: [(b1,oc 92 [vb o63.2.negative,vs o63.2.whole,vs o63.2.fraction])] :: S) w ∧ Env 76 a [(2,vp b1),(3,vb o63.1)] ∧ o63.2.whole.length ≤ LIMS ∧ o63.2.fraction.length ≤ LIMS) ?_ ?_
     rotate_left
     ·clear hJ
      intro e a w hO
      obtain ⟨rfl,ok,E,l69,l70⟩:=hO
      refine qaa<|wp_ret ?_
      exact fin hF ⟨m0,[vb o63.2.negative,vs o63.2.whole,vs o63.2.fraction],le_m0,ok.drop.drop,E.d,⟨rv_c (cs:=[vb o63.2.negative,vs o63.2.whole,vs o63.2.fraction]) E ok rfl qa5 rfl (qac.own 1 rfl rfl),rv_t E rfl,trivial⟩,⟨rfl,l69,l70⟩⟩
     replace hF:=hJ
     clear hJ
     refine qas (!r2.2) (fun hc66=>?_) (fun hc66=>?_)
     ·replace hF:=qaq hc66 hF
      obtain rfl:=sj hF
      refine qbF [0] (Cls u m0 ([(b9,oc 92 [vb r2.2,vs r5.1,vs r5.2.1])] :: [(b1,oc 92 [vb false,(vs ([])),(vs ([]))])] :: [])) (Cls u m0 ([(b9,oc 92 [vb r2.2,vs r5.1,vs r5.2.1])] :: [])) (by kernel_rfl) ?_
      intro w hw
      replace ok:=qcg ok hw
      clear hw
      refine qaz (cl1 (cq le_m0 ok [0,1] rfl) (cq le_m0 ok [0] rfl)) fun hT=>qdl 0 E rfl (by kernel_rfl) nP hT (qao (cs:=[vb r2.2,vs r5.1,vs r5.2.1]) qa5 rfl rfl (qac.cown 0 rfl rfl)) rfl rfl fun a E=>kt 1 E rfl hT (qam rfl) fun a E=>kt 2 E rfl hT (qaO rfl) fun a E=>kt 3 E rfl hT (qam rfl) fun a E=>?_
      replace E:=E.upd 71 hc66 rfl
      refine qaE 4 false E rfl (by kernel_rfl) nP hT rfl rfl fun a E=>qaE 5 false E rfl (by kernel_rfl) nP hT rfl rfl fun a E=>qaE 6 false E rfl (by kernel_rfl) nP hT rfl rfl fun a E=>kt 7 E rfl hT (qa4 rfl rfl) fun a E=>qaL [8] (by kernel_rfl) rfl (qaR ?_)
      ·refine wo rfl<|qae E ok 1 rfl rfl rfl qdj rfl rfl ⟨rfl,rfl,rfl,trivial⟩ rfl rfl fun w ok=>wn<|qaz (cl2 (by kernel_rfl) (cq le_m0 ok [0] rfl)) fun hT=>kt 9 E rfl hT (qbG rfl) fun a E=>qbe (by kernel_rfl) ?_
       exact ⟨rfl,⟨ok,E.keep [2,3],l7,l8⟩⟩
     replace hF:=qar hc66 hF
     obtain ⟨r67,e68,hF⟩:=bnd hF
     obtain rfl:=sj hF
     refine qbF [0] (Cls u m0 ([(b9,oc 92 [vb r2.2,vs r5.1,vs r5.2.1])] :: [(b1,oc 92 [vb false,(vs ([])),(vs ([]))])] :: [])) (Cls u m0 ([(b9,oc 92 [vb r2.2,vs r5.1,vs r5.2.1])] :: [])) (by kernel_rfl) ?_
     intro w hw
     replace ok:=qcg ok hw
     clear hw
     refine qaz (cl1 (cq le_m0 ok [0,1] rfl) (cq le_m0 ok [0] rfl)) fun hT=>qdl 0 E rfl (by kernel_rfl) nP hT (qao (cs:=[vb r2.2,vs r5.1,vs r5.2.1]) qa5 rfl rfl (qac.cown 0 rfl rfl)) rfl rfl fun a E=>kt 1 E rfl hT (qam rfl) fun a E=>kt 2 E rfl hT (qaO rfl) fun a E=>kt 3 E rfl hT (qam rfl) fun a E=>?_
     replace E:=E.upd 71 hc66 rfl
     refine kt 4 E rfl hT (qao (cs:=[vb r2.2,vs r5.1,vs r5.2.1]) qa5 rfl rfl (qac.cown 0 rfl rfl)) fun a E=>qaL [5] (by kernel_rfl) rfl (qaR ?_)
     ·refine wo rfl<|lc E qom rfl (qfs N _ (Number.mk r2.2 r5.1 r5.2.1) ⟨rfl,l7,l8⟩ e68 hG ok) fun w ok a E=>wn<|qaz (cl1 (cq le_m0 ok [0,1] rfl) (cq le_m0 ok [0] rfl)) fun hT=>kt 6 E rfl hT (qaO rfl) fun a E=>kt 7 E rfl hT (qaZ rfl rfl) fun a E=>qaL [8] (by kernel_rfl) rfl (qaR ?_)
      ·refine wo rfl<|qae E ok 1 rfl rfl rfl qdj rfl rfl ⟨rfl,rfl,rfl,trivial⟩ rfl rfl fun w ok=>wn<|qaz (cl2 (by kernel_rfl) (cq le_m0 ok [0] rfl)) fun hT=>kt 9 E rfl hT (qbG rfl) fun a E=>qbe (by kernel_rfl) ?_
       exact ⟨rfl,⟨ok,E.keep [2,3],l7,l8⟩⟩
   replace hF:=qaq hc45 hF
   replace E:=E.upd 52 hc45 rfl
   refine mv E rfl fun a E=>lw E (qaK Tryz.underlying9 rfl) fun a E=>lw E (qaI rfl rfl) fun a E=>pt E rfl rfl fun a E=>mv E rfl fun a E=>qas ((r5.2.1.length:Int) == 0) (fun hc46=>?_) (fun hc46=>?_)
   ·replace hF:=qaq hc46 hF
    replace E:=E.upd 57 hc46 rfl
    refine ls E fun a E=>ls E fun a E=>ls E fun a E=>pt E rfl rfl fun a E=>mv E rfl fun a E=>ls E fun a E=>ls E fun a E=>ls E fun a E=>?_
    refine pt E rfl rfl fun a E=>aw E rfl fun a E=>c_if E rfl (fun _=>?_) (fun h=>by cases h)
    refine sg<|lv E ok (qao (cs:=[vb r2.2,vs r5.1,vs r5.2.1]) qa5 rfl rfl (qac.own 0 rfl rfl)) fun a E=>qae E ok 1 rfl rfl rfl qdj rfl rfl ⟨rfl,rfl,rfl,trivial⟩ rfl rfl fun w ok=>aw E rfl fun a E=>wp_ret ?_
    refine qaA<|qaf ?_
    exact fin hF ⟨m0,[vb r2.2,vs r5.1,vs r5.2.1],le_m0,ok.drop.drop,E.d,⟨rv_c (cs:=[vb r2.2,vs r5.1,vs r5.2.1]) E ok rfl qa5 rfl (qac.own 1 rfl rfl),rv_t E rfl,trivial⟩,⟨rfl,l7,l8⟩⟩
   replace hF:=qar hc46 hF
   replace E:=E.upd 57 hc46 rfl
   refine mv E rfl fun a E=>lw E (qaK Tryz.underlying9 rfl) fun a E=>lw E (qa2 rfl rfl) fun a E=>pf E rfl rfl fun a E=>mv E rfl fun a E=>qas (decide ((r5.2.1.length:Int) > 6)) (fun hc47=>?_) (fun hc47=>?_)
   ·replace hF:=qaq hc47 hF
    replace E:=E.upd 62 hc47 rfl
    refine ls E fun a E=>ls E fun a E=>ls E fun a E=>pt E rfl rfl fun a E=>aw E rfl fun a E=>c_if E rfl (fun _=>?_) (fun h=>by cases h)
    refine sg<|lv E ok (qao (cs:=[vb r2.2,vs r5.1,vs r5.2.1]) qa5 rfl rfl (qac.own 0 rfl rfl)) fun a E=>qae E ok 1 rfl rfl rfl qdj rfl rfl ⟨rfl,rfl,rfl,trivial⟩ rfl rfl fun w ok=>aw E rfl fun a E=>wp_ret ?_
    refine qaA<|qaf ?_
    exact fin hF ⟨m0,[vb r2.2,vs r5.1,vs r5.2.1],le_m0,ok.drop.drop,E.d,⟨rv_c (cs:=[vb r2.2,vs r5.1,vs r5.2.1]) E ok rfl qa5 rfl (qac.own 1 rfl rfl),rv_t E rfl,trivial⟩,⟨rfl,l7,l8⟩⟩
   replace hF:=qar hc47 hF
   replace E:=E.upd 62 hc47 rfl
   refine mv E rfl fun a E=>?_
   obtain ⟨r48,e49,hF⟩:=bnd hF
   refine lc E qm7 rfl (qf3 N r5.2.1 l8 e49 hG ok) fun w ok a E=>lw E (qaO rfl) fun a E=>pf E rfl rfl fun a E=>aw E rfl fun a E=>cf E rfl hF (fun hc50 hF=>?_) fun hc50 hF=>?_
   ·refine sg<|lv E ok (qao (cs:=[vb r2.2,vs r5.1,vs r5.2.1]) qa5 rfl rfl (qac.own 0 rfl rfl)) fun a E=>qae E ok 1 rfl rfl rfl qdj rfl rfl ⟨rfl,rfl,rfl,trivial⟩ rfl rfl fun w ok=>aw E rfl fun a E=>wp_ret ?_
    refine qaA<|qaf ?_
    exact fin hF ⟨m0,[vb r2.2,vs r5.1,vs r5.2.1],le_m0,ok.drop.drop,E.d,⟨rv_c (cs:=[vb r2.2,vs r5.1,vs r5.2.1]) E ok rfl qa5 rfl (qac.own 1 rfl rfl),rv_t E rfl,trivial⟩,⟨rfl,l7,l8⟩⟩
   refine wp_skip<|qal<|qaa<|wp_seq ?_
   obtain ⟨o51,hJ,hF⟩:=bnd hF
   refine qaT (Q':=fun e a w=>e = .normal ∧ Ok u m0 ([(b9,oc 92 [vb r2.2,vs r5.1,vs r5.2.1])] :: [(b1,oc 92 [vb o51.2.negative,vs o51.2.whole,vs o51.2.fraction])] :: S) w ∧ Env 76 a [(2,vp b1),(3,vb o51.1)] ∧ o51.2.whole.length ≤ LIMS ∧ o51.2.fraction.length ≤ LIMS) ?_ ?_
   rotate_left
   ·clear hJ
    intro e a w hO
    obtain ⟨rfl,ok,E,l57,l58⟩:=hO
    refine qaa<|wp_ret ?_
    exact fin hF ⟨m0,[vb o51.2.negative,vs o51.2.whole,vs o51.2.fraction],le_m0,ok.drop.drop,E.d,⟨rv_c (cs:=[vb o51.2.negative,vs o51.2.whole,vs o51.2.fraction]) E ok rfl qa5 rfl (qac.own 1 rfl rfl),rv_t E rfl,trivial⟩,⟨rfl,l57,l58⟩⟩
   replace hF:=hJ
   clear hJ
   refine qas (!r2.2) (fun hc54=>?_) (fun hc54=>?_)
   ·replace hF:=qaq hc54 hF
    obtain rfl:=sj hF
    refine qbF [0] (Cls u m0 ([(b9,oc 92 [vb r2.2,vs r5.1,vs r5.2.1])] :: [(b1,oc 92 [vb false,(vs ([])),(vs ([]))])] :: [])) (Cls u m0 ([(b9,oc 92 [vb r2.2,vs r5.1,vs r5.2.1])] :: [])) (by kernel_rfl) ?_
    intro w hw
    replace ok:=qcg ok hw
    clear hw
    refine qaz (cl1 (cq le_m0 ok [0,1] rfl) (cq le_m0 ok [0] rfl)) fun hT=>qdl 0 E rfl (by kernel_rfl) nP hT (qao (cs:=[vb r2.2,vs r5.1,vs r5.2.1]) qa5 rfl rfl (qac.cown 0 rfl rfl)) rfl rfl fun a E=>kt 1 E rfl hT (qam rfl) fun a E=>kt 2 E rfl hT (qaO rfl) fun a E=>kt 3 E rfl hT (qam rfl) fun a E=>?_
    replace E:=E.upd 71 hc54 rfl
    refine qaE 4 false E rfl (by kernel_rfl) nP hT rfl rfl fun a E=>qaE 5 false E rfl (by kernel_rfl) nP hT rfl rfl fun a E=>qaE 6 false E rfl (by kernel_rfl) nP hT rfl rfl fun a E=>kt 7 E rfl hT (qa4 rfl rfl) fun a E=>qaL [8] (by kernel_rfl) rfl (qaR ?_)
    ·refine wo rfl<|qae E ok 1 rfl rfl rfl qdj rfl rfl ⟨rfl,rfl,rfl,trivial⟩ rfl rfl fun w ok=>wn<|qaz (cl2 (by kernel_rfl) (cq le_m0 ok [0] rfl)) fun hT=>kt 9 E rfl hT (qbG rfl) fun a E=>qbe (by kernel_rfl) ?_
     exact ⟨rfl,⟨ok,E.keep [2,3],l7,l8⟩⟩
   replace hF:=qar hc54 hF
   obtain ⟨r55,e56,hF⟩:=bnd hF
   obtain rfl:=sj hF
   refine qbF [0] (Cls u m0 ([(b9,oc 92 [vb r2.2,vs r5.1,vs r5.2.1])] :: [(b1,oc 92 [vb false,(vs ([])),(vs ([]))])] :: [])) (Cls u m0 ([(b9,oc 92 [vb r2.2,vs r5.1,vs r5.2.1])] :: [])) (by kernel_rfl) ?_
   intro w hw
   replace ok:=qcg ok hw
   clear hw
   refine qaz (cl1 (cq le_m0 ok [0,1] rfl) (cq le_m0 ok [0] rfl)) fun hT=>qdl 0 E rfl (by kernel_rfl) nP hT (qao (cs:=[vb r2.2,vs r5.1,vs r5.2.1]) qa5 rfl rfl (qac.cown 0 rfl rfl)) rfl rfl fun a E=>kt 1 E rfl hT (qam rfl) fun a E=>kt 2 E rfl hT (qaO rfl) fun a E=>kt 3 E rfl hT (qam rfl) fun a E=>?_
   replace E:=E.upd 71 hc54 rfl
   refine kt 4 E rfl hT (qao (cs:=[vb r2.2,vs r5.1,vs r5.2.1]) qa5 rfl rfl (qac.cown 0 rfl rfl)) fun a E=>qaL [5] (by kernel_rfl) rfl (qaR ?_)
   ·refine wo rfl<|lc E qom rfl (qfs N _ (Number.mk r2.2 r5.1 r5.2.1) ⟨rfl,l7,l8⟩ e56 hG ok) fun w ok a E=>wn<|qaz (cl1 (cq le_m0 ok [0,1] rfl) (cq le_m0 ok [0] rfl)) fun hT=>kt 6 E rfl hT (qaO rfl) fun a E=>kt 7 E rfl hT (qaZ rfl rfl) fun a E=>qaL [8] (by kernel_rfl) rfl (qaR ?_)
    ·refine wo rfl<|qae E ok 1 rfl rfl rfl qdj rfl rfl ⟨rfl,rfl,rfl,trivial⟩ rfl rfl fun w ok=>wn<|qaz (cl2 (by kernel_rfl) (cq le_m0 ok [0] rfl)) fun hT=>kt 9 E rfl hT (qbG rfl) fun a E=>qbe (by kernel_rfl) ?_
     exact ⟨rfl,⟨ok,E.keep [2,3],l7,l8⟩⟩
 replace hF:=qaq hc15 hF
 replace E:=E.upd 43 hc15 rfl
 refine mv E rfl fun a E=>?_
 obtain ⟨c16,e17,hF⟩:=bnd hF
 refine lv E ok (qbt Tryz.underlying9 rfl rfl e17) fun a E=>lw E (qaI rfl rfl) fun a E=>pt E rfl rfl fun a E=>pf E rfl rfl fun a E=>aw E rfl fun a E=>cf E rfl hF (fun hc18 hF=>?_) fun hc18 hF=>?_
 ·refine sg<|lv E ok (qao (cs:=[vb r2.2,vs r5.1,vs r5.2.1]) qa5 rfl rfl (qac.own 0 rfl rfl)) fun a E=>qae E ok 1 rfl rfl rfl qdj rfl rfl ⟨rfl,rfl,rfl,trivial⟩ rfl rfl fun w ok=>aw E rfl fun a E=>wp_ret ?_
  refine qaA<|qaf ?_
  exact fin hF ⟨m0,[vb r2.2,vs r5.1,vs r5.2.1],le_m0,ok.drop.drop,E.d,⟨rv_c (cs:=[vb r2.2,vs r5.1,vs r5.2.1]) E ok rfl qa5 rfl (qac.own 1 rfl rfl),rv_t E rfl,trivial⟩,⟨rfl,l7,l8⟩⟩
 refine sg<|mv E rfl fun a E=>mv E rfl fun a E=>qas r5.2.2 (fun hc19=>?_) (fun hc19=>?_)
 rotate_left
 ·as_aux_lemma =>
   replace hF:=qar hc19 hF
   replace E:=E.upd 52 hc19 rfl
   refine ls E fun a E=>ls E fun a E=>ls E fun a E=>pf E rfl rfl fun a E=>mv E rfl fun a E=>mv E rfl fun a E=>lw E (qaK Tryz.underlying9 rfl) fun a E=>lw E (qa2 rfl rfl) fun a E=>?_
   refine pf E rfl rfl fun a E=>mv E rfl fun a E=>qas (decide ((r5.2.1.length:Int) > 6)) (fun hc33=>?_) (fun hc33=>?_)
   ·replace hF:=qaq hc33 hF
    replace E:=E.upd 62 hc33 rfl
    refine ls E fun a E=>ls E fun a E=>ls E fun a E=>pt E rfl rfl fun a E=>aw E rfl fun a E=>c_if E rfl (fun _=>?_) (fun h=>by cases h)
    refine sg<|lv E ok (qao (cs:=[vb r2.2,vs r5.1,vs r5.2.1]) qa5 rfl rfl (qac.own 0 rfl rfl)) fun a E=>qae E ok 1 rfl rfl rfl qdj rfl rfl ⟨rfl,rfl,rfl,trivial⟩ rfl rfl fun w ok=>aw E rfl fun a E=>wp_ret ?_
    refine qaA<|qaf ?_
    exact fin hF ⟨m0,[vb r2.2,vs r5.1,vs r5.2.1],le_m0,ok.drop.drop,E.d,⟨rv_c (cs:=[vb r2.2,vs r5.1,vs r5.2.1]) E ok rfl qa5 rfl (qac.own 1 rfl rfl),rv_t E rfl,trivial⟩,⟨rfl,l7,l8⟩⟩
   replace hF:=qar hc33 hF
   replace E:=E.upd 62 hc33 rfl
   refine mv E rfl fun a E=>?_
   obtain ⟨r34,e35,hF⟩:=bnd hF
   refine lc E qm7 rfl (qf3 N r5.2.1 l8 e35 hG ok) fun w ok a E=>lw E (qaO rfl) fun a E=>pf E rfl rfl fun a E=>aw E rfl fun a E=>cf E rfl hF (fun hc36 hF=>?_) fun hc36 hF=>?_
   ·refine sg<|lv E ok (qao (cs:=[vb r2.2,vs r5.1,vs r5.2.1]) qa5 rfl rfl (qac.own 0 rfl rfl)) fun a E=>qae E ok 1 rfl rfl rfl qdj rfl rfl ⟨rfl,rfl,rfl,trivial⟩ rfl rfl fun w ok=>aw E rfl fun a E=>wp_ret ?_
    refine qaA<|qaf ?_
    exact fin hF ⟨m0,[vb r2.2,vs r5.1,vs r5.2.1],le_m0,ok.drop.drop,E.d,⟨rv_c (cs:=[vb r2.2,vs r5.1,vs r5.2.1]) E ok rfl qa5 rfl (qac.own 1 rfl rfl),rv_t E rfl,trivial⟩,⟨rfl,l7,l8⟩⟩
   refine wp_skip<|qal<|qaa<|wp_seq ?_
   obtain ⟨o37,hJ,hF⟩:=bnd hF
   refine qaT (Q':=fun e a w=>e = .normal ∧ Ok u m0 ([(b9,oc 92 [vb r2.2,vs r5.1,vs r5.2.1])] :: [(b1,oc 92 [vb o37.2.negative,vs o37.2.whole,vs o37.2.fraction])] :: S) w ∧ Env 76 a [(2,vp b1),(3,vb o37.1)] ∧ o37.2.whole.length ≤ LIMS ∧ o37.2.fraction.length ≤ LIMS) ?_ ?_
   rotate_left
   ·clear hJ
    intro e a w hO
    obtain ⟨rfl,ok,E,l43,l44⟩:=hO
    refine qaa<|wp_ret ?_
    exact fin hF ⟨m0,[vb o37.2.negative,vs o37.2.whole,vs o37.2.fraction],le_m0,ok.drop.drop,E.d,⟨rv_c (cs:=[vb o37.2.negative,vs o37.2.whole,vs o37.2.fraction]) E ok rfl qa5 rfl (qac.own 1 rfl rfl),rv_t E rfl,trivial⟩,⟨rfl,l43,l44⟩⟩
   replace hF:=hJ
   clear hJ
   refine qas (!r2.2) (fun hc40=>?_) (fun hc40=>?_)
   ·replace hF:=qaq hc40 hF
    obtain rfl:=sj hF
    refine qbF [0] (Cls u m0 ([(b9,oc 92 [vb r2.2,vs r5.1,vs r5.2.1])] :: [(b1,oc 92 [vb false,(vs ([])),(vs ([]))])] :: [])) (Cls u m0 ([(b9,oc 92 [vb r2.2,vs r5.1,vs r5.2.1])] :: [])) (by kernel_rfl) ?_
    intro w hw
    replace ok:=qcg ok hw
    clear hw
    refine qaz (cl1 (cq le_m0 ok [0,1] rfl) (cq le_m0 ok [0] rfl)) fun hT=>qdl 0 E rfl (by kernel_rfl) nP hT (qao (cs:=[vb r2.2,vs r5.1,vs r5.2.1]) qa5 rfl rfl (qac.cown 0 rfl rfl)) rfl rfl fun a E=>kt 1 E rfl hT (qam rfl) fun a E=>kt 2 E rfl hT (qaO rfl) fun a E=>kt 3 E rfl hT (qam rfl) fun a E=>?_
    replace E:=E.upd 71 hc40 rfl
    refine qaE 4 false E rfl (by kernel_rfl) nP hT rfl rfl fun a E=>qaE 5 false E rfl (by kernel_rfl) nP hT rfl rfl fun a E=>qaE 6 false E rfl (by kernel_rfl) nP hT rfl rfl fun a E=>kt 7 E rfl hT (qa4 rfl rfl) fun a E=>qaL [8] (by kernel_rfl) rfl (qaR ?_)
    ·refine wo rfl<|qae E ok 1 rfl rfl rfl qdj rfl rfl ⟨rfl,rfl,rfl,trivial⟩ rfl rfl fun w ok=>wn<|qaz (cl2 (by kernel_rfl) (cq le_m0 ok [0] rfl)) fun hT=>kt 9 E rfl hT (qbG rfl) fun a E=>qbe (by kernel_rfl) ?_
     exact ⟨rfl,⟨ok,E.keep [2,3],l7,l8⟩⟩
   replace hF:=qar hc40 hF
   obtain ⟨r41,e42,hF⟩:=bnd hF
   obtain rfl:=sj hF
   refine qbF [0] (Cls u m0 ([(b9,oc 92 [vb r2.2,vs r5.1,vs r5.2.1])] :: [(b1,oc 92 [vb false,(vs ([])),(vs ([]))])] :: [])) (Cls u m0 ([(b9,oc 92 [vb r2.2,vs r5.1,vs r5.2.1])] :: [])) (by kernel_rfl) ?_
   intro w hw
   replace ok:=qcg ok hw
   clear hw
   refine qaz (cl1 (cq le_m0 ok [0,1] rfl) (cq le_m0 ok [0] rfl)) fun hT=>qdl 0 E rfl (by kernel_rfl) nP hT (qao (cs:=[vb r2.2,vs r5.1,vs r5.2.1]) qa5 rfl rfl (qac.cown 0 rfl rfl)) rfl rfl fun a E=>kt 1 E rfl hT (qam rfl) fun a E=>kt 2 E rfl hT (qaO rfl) fun a E=>kt 3 E rfl hT (qam rfl) fun a E=>?_
   replace E:=E.upd 71 hc40 rfl
   refine kt 4 E rfl hT (qao (cs:=[vb r2.2,vs r5.1,vs r5.2.1]) qa5 rfl rfl (qac.cown 0 rfl rfl)) fun a E=>qaL [5] (by kernel_rfl) rfl (qaR ?_)
   ·refine wo rfl<|lc E qom rfl (qfs N _ (Number.mk r2.2 r5.1 r5.2.1) ⟨rfl,l7,l8⟩ e42 hG ok) fun w ok a E=>wn<|qaz (cl1 (cq le_m0 ok [0,1] rfl) (cq le_m0 ok [0] rfl)) fun hT=>kt 6 E rfl hT (qaO rfl) fun a E=>kt 7 E rfl hT (qaZ rfl rfl) fun a E=>qaL [8] (by kernel_rfl) rfl (qaR ?_)
    ·refine wo rfl<|qae E ok 1 rfl rfl rfl qdj rfl rfl ⟨rfl,rfl,rfl,trivial⟩ rfl rfl fun w ok=>wn<|qaz (cl2 (by kernel_rfl) (cq le_m0 ok [0] rfl)) fun hT=>kt 9 E rfl hT (qbG rfl) fun a E=>qbe (by kernel_rfl) ?_
     exact ⟨rfl,⟨ok,E.keep [2,3],l7,l8⟩⟩
 replace hF:=qaq hc19 hF
 replace E:=E.upd 52 hc19 rfl
 refine mv E rfl fun a E=>lw E (qaK Tryz.underlying9 rfl) fun a E=>lw E (qaI rfl rfl) fun a E=>pt E rfl rfl fun a E=>mv E rfl fun a E=>qas ((r5.2.1.length:Int) == 0) (fun hc20=>?_) (fun hc20=>?_)
 ·replace hF:=qaq hc20 hF
  replace E:=E.upd 57 hc20 rfl
  refine ls E fun a E=>ls E fun a E=>ls E fun a E=>pt E rfl rfl fun a E=>mv E rfl fun a E=>ls E fun a E=>ls E fun a E=>ls E fun a E=>?_
  refine pt E rfl rfl fun a E=>aw E rfl fun a E=>c_if E rfl (fun _=>?_) (fun h=>by cases h)
  refine sg<|lv E ok (qao (cs:=[vb r2.2,vs r5.1,vs r5.2.1]) qa5 rfl rfl (qac.own 0 rfl rfl)) fun a E=>qae E ok 1 rfl rfl rfl qdj rfl rfl ⟨rfl,rfl,rfl,trivial⟩ rfl rfl fun w ok=>aw E rfl fun a E=>wp_ret ?_
  refine qaA<|qaf ?_
  exact fin hF ⟨m0,[vb r2.2,vs r5.1,vs r5.2.1],le_m0,ok.drop.drop,E.d,⟨rv_c (cs:=[vb r2.2,vs r5.1,vs r5.2.1]) E ok rfl qa5 rfl (qac.own 1 rfl rfl),rv_t E rfl,trivial⟩,⟨rfl,l7,l8⟩⟩
 replace hF:=qar hc20 hF
 replace E:=E.upd 57 hc20 rfl
 refine mv E rfl fun a E=>lw E (qaK Tryz.underlying9 rfl) fun a E=>lw E (qa2 rfl rfl) fun a E=>pf E rfl rfl fun a E=>mv E rfl fun a E=>qas (decide ((r5.2.1.length:Int) > 6)) (fun hc21=>?_) (fun hc21=>?_)
 ·replace hF:=qaq hc21 hF
  replace E:=E.upd 62 hc21 rfl
  refine ls E fun a E=>ls E fun a E=>ls E fun a E=>pt E rfl rfl fun a E=>aw E rfl fun a E=>c_if E rfl (fun _=>?_) (fun h=>by cases h)
  refine sg<|lv E ok (qao (cs:=[vb r2.2,vs r5.1,vs r5.2.1]) qa5 rfl rfl (qac.own 0 rfl rfl)) fun a E=>qae E ok 1 rfl rfl rfl qdj rfl rfl ⟨rfl,rfl,rfl,trivial⟩ rfl rfl fun w ok=>aw E rfl fun a E=>wp_ret ?_
  refine qaA<|qaf ?_
  exact fin hF ⟨m0,[vb r2.2,vs r5.1,vs r5.2.1],le_m0,ok.drop.drop,E.d,⟨rv_c (cs:=[vb r2.2,vs r5.1,vs r5.2.1]) E ok rfl qa5 rfl (qac.own 1 rfl rfl),rv_t E rfl,trivial⟩,⟨rfl,l7,l8⟩⟩
 replace hF:=qar hc21 hF
 replace E:=E.upd 62 hc21 rfl
 refine mv E rfl fun a E=>?_
 obtain ⟨r22,e23,hF⟩:=bnd hF
 refine lc E qm7 rfl (qf3 N r5.2.1 l8 e23 hG ok) fun w ok a E=>lw E (qaO rfl) fun a E=>pf E rfl rfl fun a E=>aw E rfl fun a E=>cf E rfl hF (fun hc24 hF=>?_) fun hc24 hF=>?_
 ·refine sg<|lv E ok (qao (cs:=[vb r2.2,vs r5.1,vs r5.2.1]) qa5 rfl rfl (qac.own 0 rfl rfl)) fun a E=>qae E ok 1 rfl rfl rfl qdj rfl rfl ⟨rfl,rfl,rfl,trivial⟩ rfl rfl fun w ok=>aw E rfl fun a E=>wp_ret ?_
  refine qaA<|qaf ?_
  exact fin hF ⟨m0,[vb r2.2,vs r5.1,vs r5.2.1],le_m0,ok.drop.drop,E.d,⟨rv_c (cs:=[vb r2.2,vs r5.1,vs r5.2.1]) E ok rfl qa5 rfl (qac.own 1 rfl rfl),rv_t E rfl,trivial⟩,⟨rfl,l7,l8⟩⟩
 refine wp_skip<|qal<|qaa<|wp_seq ?_
 obtain ⟨o25,hJ,hF⟩:=bnd hF
 refine qaT (Q':=fun e a w=>e = .normal ∧ Ok u m0 ([(b9,oc 92 [vb r2.2,vs r5.1,vs r5.2.1])] :: [(b1,oc 92 [vb o25.2.negative,vs o25.2.whole,vs o25.2.fraction])] :: S) w ∧ Env 76 a [(2,vp b1),(3,vb o25.1)] ∧ o25.2.whole.length ≤ LIMS ∧ o25.2.fraction.length ≤ LIMS) ?_ ?_
 rotate_left
 ·clear hJ
  intro e a w hO
  obtain ⟨rfl,ok,E,l31,l32⟩:=hO
  refine qaa<|wp_ret ?_
  exact fin hF ⟨m0,[vb o25.2.negative,vs o25.2.whole,vs o25.2.fraction],le_m0,ok.drop.drop,E.d,⟨rv_c (cs:=[vb o25.2.negative,vs o25.2.whole,vs o25.2.fraction]) E ok rfl qa5 rfl (qac.own 1 rfl rfl),rv_t E rfl,trivial⟩,⟨rfl,l31,l32⟩⟩
 replace hF:=hJ
 clear hJ
 refine qas (!r2.2) (fun hc28=>?_) (fun hc28=>?_)
 ·replace hF:=qaq hc28 hF
  obtain rfl:=sj hF
  refine qbF [0] (Cls u m0 ([(b9,oc 92 [vb r2.2,vs r5.1,vs r5.2.1])] :: [(b1,oc 92 [vb false,(vs ([])),(vs ([]))])] :: [])) (Cls u m0 ([(b9,oc 92 [vb r2.2,vs r5.1,vs r5.2.1])] :: [])) (by kernel_rfl) ?_
  intro w hw
  replace ok:=qcg ok hw
  clear hw
  refine qaz (cl1 (cq le_m0 ok [0,1] rfl) (cq le_m0 ok [0] rfl)) fun hT=>qdl 0 E rfl (by kernel_rfl) nP hT (qao (cs:=[vb r2.2,vs r5.1,vs r5.2.1]) qa5 rfl rfl (qac.cown 0 rfl rfl)) rfl rfl fun a E=>kt 1 E rfl hT (qam rfl) fun a E=>kt 2 E rfl hT (qaO rfl) fun a E=>kt 3 E rfl hT (qam rfl) fun a E=>?_
  replace E:=E.upd 71 hc28 rfl
  refine qaE 4 false E rfl (by kernel_rfl) nP hT rfl rfl fun a E=>qaE 5 false E rfl (by kernel_rfl) nP hT rfl rfl fun a E=>qaE 6 false E rfl (by kernel_rfl) nP hT rfl rfl fun a E=>kt 7 E rfl hT (qa4 rfl rfl) fun a E=>qaL [8] (by kernel_rfl) rfl (qaR ?_)
  ·refine wo rfl<|qae E ok 1 rfl rfl rfl qdj rfl rfl ⟨rfl,rfl,rfl,trivial⟩ rfl rfl fun w ok=>wn<|qaz (cl2 (by kernel_rfl) (cq le_m0 ok [0] rfl)) fun hT=>kt 9 E rfl hT (qbG rfl) fun a E=>qbe (by kernel_rfl) ?_
   exact ⟨rfl,⟨ok,E.keep [2,3],l7,l8⟩⟩
 replace hF:=qar hc28 hF
 obtain ⟨r29,e30,hF⟩:=bnd hF
 obtain rfl:=sj hF
 refine qbF [0] (Cls u m0 ([(b9,oc 92 [vb r2.2,vs r5.1,vs r5.2.1])] :: [(b1,oc 92 [vb false,(vs ([])),(vs ([]))])] :: [])) (Cls u m0 ([(b9,oc 92 [vb r2.2,vs r5.1,vs r5.2.1])] :: [])) (by kernel_rfl) ?_
 intro w hw
 replace ok:=qcg ok hw
 clear hw
 refine qaz (cl1 (cq le_m0 ok [0,1] rfl) (cq le_m0 ok [0] rfl)) fun hT=>qdl 0 E rfl (by kernel_rfl) nP hT (qao (cs:=[vb r2.2,vs r5.1,vs r5.2.1]) qa5 rfl rfl (qac.cown 0 rfl rfl)) rfl rfl fun a E=>kt 1 E rfl hT (qam rfl) fun a E=>kt 2 E rfl hT (qaO rfl) fun a E=>kt 3 E rfl hT (qam rfl) fun a E=>?_
 replace E:=E.upd 71 hc28 rfl
 refine kt 4 E rfl hT (qao (cs:=[vb r2.2,vs r5.1,vs r5.2.1]) qa5 rfl rfl (qac.cown 0 rfl rfl)) fun a E=>qaL [5] (by kernel_rfl) rfl (qaR ?_)
 ·refine wo rfl<|lc E qom rfl (qfs N _ (Number.mk r2.2 r5.1 r5.2.1) ⟨rfl,l7,l8⟩ e30 hG ok) fun w ok a E=>wn<|qaz (cl1 (cq le_m0 ok [0,1] rfl) (cq le_m0 ok [0] rfl)) fun hT=>kt 6 E rfl hT (qaO rfl) fun a E=>kt 7 E rfl hT (qaZ rfl rfl) fun a E=>qaL [8] (by kernel_rfl) rfl (qaR ?_)
  ·refine wo rfl<|qae E ok 1 rfl rfl rfl qdj rfl rfl ⟨rfl,rfl,rfl,trivial⟩ rfl rfl fun w ok=>wn<|qaz (cl2 (by kernel_rfl) (cq le_m0 ok [0] rfl)) fun hT=>kt 9 E rfl hT (qbG rfl) fun a E=>qbe (by kernel_rfl) ?_
   exact ⟨rfl,⟨ok,E.keep [2,3],l7,l8⟩⟩
def qoA (u:World) (m0:Mem) (S:Segs) (r:Bool) (a:Act) (w:World):Prop :=
 Ok u m0 S w ∧ a.defers = [] ∧ RVs Tryz.prog a w [.t 2 (.bool r)]
theorem qoO (N:Nat) (s_0:List UInt8) (ls_0:s_0.length ≤ LIMS) {r:Bool} (hF:qhn N s_0 = some r) (hG:Glob u) (ok:Ok u m0 S w) :
  Calls Tryz.prog 48 [vs s_0].toArray w fun e w'=>(e = .returned (.bool r) ∧ Ok u m0 S w'):=by
 have hb0:=ok.base
 have le_m0:=Mem.le.refl m0
 unfold qhn at hF
 refine en (qoA u m0 S) r Tryz.func48 rfl rfl rfl (by rintro a w ⟨ok,hd,hrv⟩; exact qav [.t 2 (.bool r)] hd rfl hrv ⟨rfl,ok⟩) fun fin a E=>sg<|aw E rfl fun a E=>sg ?_
 refine mv E rfl fun a E=>?_
 obtain ⟨r1,e2,hF⟩:=bnd hF
 refine qah E qut rfl (qku N s_0 ls_0 e2 hG ok) rfl rfl ?_
 rintro _ w ⟨m3,vs4,rfl,hle,ok,h5⟩
 have le_m0:=le_m0.trans hle
 obtain ⟨rfl,l6,l7⟩:=h5
 refine ⟨_,rfl,fun a E=>?_⟩
 refine mv E rfl fun a E=>lw E (qaj rfl rfl) fun a E=>lw E (qaj rfl rfl) fun a E=>qaN E ok qkJ rfl rfl fun b8 a w E ok=>qae E ok 0 rfl rfl rfl qdj rfl rfl ⟨rfl,rfl,rfl,trivial⟩ rfl rfl fun w ok=>aw E rfl fun a E=>?_
 refine sg<|mv E rfl fun a E=>aw E rfl fun a E=>wp_ret ?_
 exact fin hF ⟨(ok.drop).down hb0 le_m0,E.d,⟨rv_t E rfl,trivial⟩⟩
theorem qmg {u:World} {m0:Mem} {S:Segs} {w:World} (N:Nat) (p0_0:List UInt8) (lp0_0:p0_0.length ≤ LIMS) (p1_1:List UInt8) (lp1_1:p1_1.length ≤ LIMS) {r:(List UInt8)} (hF:qeK N p0_0 p1_1 = some r) (hG:Glob u) (ok:Ok u m0 S w) :
 Calls Tryz.prog 105 [vs p0_0,vs p1_1].toArray w fun e w'=>(e = .returned (.string (bs r)) ∧ Ok u m0 S w') ∧ r.length ≤ LIMS:=qpP Tryz.lays162 (by kernel_rfl) p0_0 p1_1 hF lp0_0 ok
theorem qbs {u:World} {m0:Mem} {S:Segs} {w:World} (N:Nat) (p0_0:List UInt8) (lp0_0:p0_0.length ≤ LIMS) {r:Int × Unit} (hF:strconv_Atoi N p0_0 = some r) (hG:Glob u) (ok:Ok u m0 S w) :
 Calls Tryz.prog 127 [vs p0_0].toArray w fun e w'=>(e = .returned (.tuple [(.int .i64 r.1),.nilIface].toArray) ∧ Ok u m0 (S) w') ∧ InR .i64 r.1:=qtD Tryz.lays172 p0_0 hF ok
def qok (u:World) (m0:Mem) (S:Segs) (r:Int) (a:Act) (w:World):Prop :=
 Ok u m0 S w ∧ a.defers = [] ∧ RVs Tryz.prog a w [.t 2 (.int .i64 r)] ∧ InR .i64 r
theorem qhH (N:Nat) (s_0:List UInt8) (ls_0:s_0.length ≤ LIMS) {r:Int} (hF:qeN N s_0 = some r) (hG:Glob u) (ok:Ok u m0 S w) :
  Calls Tryz.prog 106 [vs s_0].toArray w fun e w'=>(e = .returned (.int .i64 r) ∧ Ok u m0 S w') ∧ InR .i64 r:=by
 unfold qeN at hF
 refine en (qok u m0 S) r Tryz.func106 rfl rfl rfl (by rintro a w ⟨ok,hd,hrv,h0⟩; exact qav [.t 2 (.int .i64 r)] hd rfl hrv ⟨⟨rfl,ok⟩,h0⟩) fun fin a E=>sg<|aw E rfl fun a E=>sg ?_
 refine mv E rfl fun a E=>?_
 obtain ⟨s1,e2,hF⟩:=bnd hF
 refine lw E (qce rfl rfl e2) fun a E=>?_
 obtain ⟨r3,e4,hF⟩:=bnd hF
 refine qah E qfy rfl (qbs N s1 (qbu e2) e4 hG ok) rfl rfl ?_
 rintro _ w ⟨⟨rfl,ok⟩,r5⟩
 refine ⟨_,rfl,fun a E=>?_⟩
 refine mv E rfl fun a E=>lw E (qaj rfl rfl) fun a E=>lw E (qaj rfl rfl) fun a E=>av E rfl fun a E=>aw E rfl fun a E=>wp_seq ?_
 refine qab<|mv E rfl fun a E=>aw E rfl fun a E=>wp_ret ?_
 exact fin hF ⟨ok,E.d,⟨rv_t E rfl,trivial⟩,r5⟩
def qnA (u:World) (m0:Mem) (S:Segs) (r:Int × Int) (a:Act) (w:World):Prop :=
 Ok u m0 S w ∧ a.defers = [] ∧ RVs Tryz.prog a w [.t 4 (.int .i64 r.1),.t 5 (.int .i64 r.2)] ∧ InR .i64 r.1 ∧ InR .i64 r.2
theorem qnG (N:Nat) (s_0:List UInt8) (ls_0:s_0.length ≤ LIMS) (operand_1:Int) (roperand_1:InR .i64 operand_1) {r:Int × Int} (hF:qgB N s_0 operand_1 = some r) (hG:Glob u) (ok:Ok u m0 S w) :
  Calls Tryz.prog 75 [vs s_0,vi operand_1].toArray w fun e w'=>(e = .returned (.tuple [(.int .i64 r.1),(.int .i64 r.2)].toArray) ∧ Ok u m0 S w') ∧ InR .i64 r.1 ∧ InR .i64 r.2:=by
 have hb0:=ok.base
 have le_m0:=Mem.le.refl m0
 unfold qgB at hF
 refine en (qnA u m0 S) r Tryz.func75 rfl rfl rfl (by rintro a w ⟨ok,hd,hrv,h0,h1⟩; exact qav [.t 4 (.int .i64 r.1),.t 5 (.int .i64 r.2)] hd rfl hrv ⟨⟨rfl,ok⟩,h0,h1⟩) fun fin a E=>sg<|av E rfl fun a E=>aw E rfl fun a E=>wp_seq ?_
 refine qab<|mv E rfl fun a E=>?_
 obtain ⟨r1,e2,hF⟩:=bnd hF
 refine qah E qut rfl (qku N s_0 ls_0 e2 hG ok) rfl rfl ?_
 rintro _ w ⟨m3,vs4,rfl,hle,ok,h5⟩
 have le_m0:=le_m0.trans hle
 obtain ⟨rfl,l6,l7⟩:=h5
 refine ⟨_,rfl,fun a E=>?_⟩
 refine mv E rfl fun a E=>lw E (qaj rfl rfl) fun a E=>lw E (qaj rfl rfl) fun a E=>qaN E ok qkJ rfl rfl fun b8 a w E ok=>qae E ok 0 rfl rfl rfl qdj rfl rfl ⟨rfl,rfl,rfl,trivial⟩ rfl rfl fun w ok=>aw E rfl fun a E=>?_
 refine wp_seq<|sg<|mv E rfl fun a E=>lw E (qaO rfl) fun a E=>wn<|cf E rfl hF (fun hc9 hF=>?_) fun hc9 hF=>?_
 ·refine sg<|av E rfl fun a E=>aw E rfl fun a E=>wp_ret<|qaf ?_
  exact fin hF ⟨(ok.drop).down hb0 le_m0,E.d,⟨rv_t E rfl,rv_t E rfl,trivial⟩,(ir 0),(ir 1)⟩
 refine wp_skip<|qaa<|sg<|fv E qng rfl fun a E=>ld E ok qaM 0 rfl rfl rfl fun a E=>?_
 obtain ⟨r10,e11,hF⟩:=bnd hF
 refine qah E qvS rfl (qmg N r1.1.fraction l7 ([48]) (show ([48]:List UInt8).length ≤ LIMS by decide) e11 hG ok) rfl rfl ?_
 rintro _ w ⟨⟨rfl,ok⟩,l12⟩
 refine ⟨_,rfl,fun a E=>?_⟩
 refine aw E rfl fun a E=>wp_seq<|sg<|mv E rfl fun a E=>wpList_nil ?_
 refine qaa<|wp_block<|sg<|lw E (qaI rfl rfl) fun a E=>aw E rfl fun a E=>?_
 refine cf E rfl hF (fun hc13 hF=>?_) fun hc13 hF=>?_
 ·refine wp_seq<|sg<|mv E rfl fun a E=>lw E (qif rfl rfl) fun a E=>wn<|cf E rfl hF (fun hc14 hF=>?_) fun hc14 hF=>?_
  ·refine sg<|av E rfl fun a E=>aw E rfl fun a E=>wp_ret<|qaf ?_
   refine qaA<|qaf ?_
   exact fin hF ⟨(ok.drop).down hb0 le_m0,E.d,⟨rv_t E rfl,rv_t E rfl,trivial⟩,(ir 0),(ir 8)⟩
  refine wp_skip<|qaa<|sg<|fv E qpl rfl fun a E=>ld E ok qaM 0 rfl rfl rfl fun a E=>?_
  obtain ⟨r15,e16,hF⟩:=bnd hF
  refine qah E qoI rfl (qhH N r1.1.whole l6 e16 hG ok) rfl rfl ?_
  rintro _ w ⟨⟨rfl,ok⟩,r17⟩
  refine ⟨_,rfl,fun a E=>?_⟩
  refine av E rfl fun a E=>aw E rfl fun a E=>wp_ret<|qaA<|qaf ?_
  exact fin hF ⟨(ok.drop).down hb0 le_m0,E.d,⟨rv_t E rfl,rv_t E rfl,trivial⟩,r17,(ir 0)⟩
 refine sg<|lw E (qaI rfl rfl) fun a E=>aw E rfl fun a E=>cf E rfl hF (fun hc18 hF=>?_) fun hc18 hF=>?_
 ·refine sg<|fv E qpl rfl fun a E=>ld E ok qaM 0 rfl rfl rfl fun a E=>?_
  obtain ⟨r19,e20,hF⟩:=bnd hF
  refine qah E qoI rfl (qhH N r1.1.whole l6 e20 hG ok) rfl rfl ?_
  rintro _ w ⟨⟨rfl,ok⟩,r21⟩
  refine ⟨_,rfl,fun a E=>?_⟩
  refine av E rfl fun a E=>aw E rfl fun a E=>wp_ret<|qaA<|qaf ?_
  exact fin hF ⟨(ok.drop).down hb0 le_m0,E.d,⟨rv_t E rfl,rv_t E rfl,trivial⟩,r21,(ir 0)⟩
 refine sg<|lw E (qaI rfl rfl) fun a E=>aw E rfl fun a E=>cf E rfl hF (fun hc22 hF=>?_) fun hc22 hF=>?_
 ·refine sg<|fv E qng rfl fun a E=>ld E ok qaM 0 rfl rfl rfl fun a E=>lw E (qaK Tryz.underlying9 rfl) fun a E=>av E rfl fun a E=>av E rfl fun a E=>wpList_nil ?_
  refine qaa<|wp_ret<|qaA<|qaf ?_
  exact fin hF ⟨(ok.drop).down hb0 le_m0,E.d,⟨rv_t E rfl,rv_t E rfl,trivial⟩,(InR.len l7),(ir 0)⟩
 refine sg<|lw E (qaI rfl rfl) fun a E=>aw E rfl fun a E=>cf E rfl hF (fun hc23 hF=>?_) fun hc23 hF=>?_
 ·refine sg<|mv E rfl fun a E=>lw E (qaK Tryz.underlying9 rfl) fun a E=>av E rfl fun a E=>aw E rfl fun a E=>?_
  refine wp_ret<|qaA<|qaf ?_
  exact fin hF ⟨(ok.drop).down hb0 le_m0,E.d,⟨rv_t E rfl,rv_t E rfl,trivial⟩,(InR.len l12),(ir 0)⟩
 refine sg<|lw E (qaI rfl rfl) fun a E=>aw E rfl fun a E=>cf E rfl hF (fun hc24 hF=>?_) fun hc24 hF=>?_
 ·refine sg<|fv E qng rfl fun a E=>ld E ok qaM 0 rfl rfl rfl fun a E=>?_
  obtain ⟨r25,e26,hF⟩:=bnd hF
  refine qah E qoI rfl (qhH N r1.1.fraction l7 e26 hG ok) rfl rfl ?_
  rintro _ w ⟨⟨rfl,ok⟩,r27⟩
  refine ⟨_,rfl,fun a E=>?_⟩
  refine av E rfl fun a E=>aw E rfl fun a E=>wp_ret<|qaA<|qaf ?_
  exact fin hF ⟨(ok.drop).down hb0 le_m0,E.d,⟨rv_t E rfl,rv_t E rfl,trivial⟩,r27,(ir 0)⟩
 refine sg<|lw E (qaI rfl rfl) fun a E=>aw E rfl fun a E=>cf E rfl hF (fun hc28 hF=>?_) fun hc28 hF=>?_
 rotate_left
 ·refine wp_skip<|qal<|qaa<|sg<|av E rfl fun a E=>av E rfl fun a E=>wpList_nil ?_
  refine qaa<|wp_ret ?_
  exact fin hF ⟨(ok.drop).down hb0 le_m0,E.d,⟨rv_t E rfl,rv_t E rfl,trivial⟩,(ir 0),(ir 1)⟩
 refine sg<|mv E rfl fun a E=>?_
 obtain ⟨r29,e30,hF⟩:=bnd hF
 refine qah E qoI rfl (qhH N r10 l12 e30 hG ok) rfl rfl ?_
 rintro _ w ⟨⟨rfl,ok⟩,r31⟩
 refine ⟨_,rfl,fun a E=>?_⟩
 refine av E rfl fun a E=>aw E rfl fun a E=>wp_ret<|qaA<|qaf ?_
 exact fin hF ⟨(ok.drop).down hb0 le_m0,E.d,⟨rv_t E rfl,rv_t E rfl,trivial⟩,r31,(ir 0)⟩
def qn7 (u:World) (m0:Mem) (S:Segs) (pb0:Nat) (x0:Int) (r:Bool) (a:Act) (w:World):Prop :=
 Ok u m0 ([(pb0,oc 3 [vi x0])] :: S) w ∧ a.defers = [] ∧ RVs Tryz.prog a w [.t 3 (.bool r)]
theorem qnQ (N:Nat) (vs_0:List Value) (s_0:Span) (hs_0:qeA m0 vs_0 s_0) {pb0:Nat} (x0:Int) (r3:InR .i64 x0) {r:Bool} (hF:qh2 N s_0 x0 = some r) (hG:Glob u) (ok:Ok u m0 ([(pb0,oc 3 [vi x0])] :: S) w) :
  Calls Tryz.prog 108 [.agg vs_0.toArray,vp pb0].toArray w fun e w'=>(e = .returned (.bool r) ∧ Ok u m0 ([(pb0,oc 3 [vi x0])] :: S) w'):=by
 obtain ⟨rfl,r1,r2⟩:=hs_0
 unfold qh2 at hF
 refine en (qn7 u m0 S pb0 x0) r Tryz.func108 rfl rfl rfl (by rintro a w ⟨ok,hd,hrv⟩; exact qav [.t 3 (.bool r)] hd rfl hrv ⟨rfl,ok⟩) fun fin a E=>sg<|qcO E ok rfl rfl rfl fun b4 a w E ok=>aw E rfl fun a E=>wp_seq ?_
 refine qab<|ld E ok qaB 1 rfl rfl rfl fun a E=>fv E qgr rfl fun a E=>ld E ok qaB 0 rfl rfl rfl fun a E=>lw E (qgg rfl rfl) fun a E=>mv E rfl fun a E=>qas (decide (x0 ≥ s_0.From)) (fun hc5=>?_) (fun hc5=>?_)
 ·replace hF:=qaq hc5 hF
  replace E:=E.upd 8 hc5 rfl
  refine ld E ok qaB 1 rfl rfl rfl fun a E=>fv E qfW rfl fun a E=>ld E ok qaB 0 rfl rfl rfl fun a E=>lw E (qgV rfl rfl) fun a E=>pt E rfl rfl fun a E=>aw E rfl fun a E=>?_
  refine wp_ret ?_
  exact fin hF ⟨ok.drop,E.d,⟨rv_t E rfl,trivial⟩⟩
 replace hF:=qar hc5 hF
 replace E:=E.upd 8 hc5 rfl
 refine ls E fun a E=>ls E fun a E=>ls E fun a E=>ls E fun a E=>pf E rfl rfl fun a E=>aw E rfl fun a E=>?_
 refine wp_ret ?_
 exact fin hF ⟨ok.drop,E.d,⟨rv_t E rfl,trivial⟩⟩
def qeB (u:World) (m0:Mem) (S:Segs) (pb0:Nat) (x0:Int) (r:Int) (a:Act) (w:World):Prop :=
 Ok u m0 ([(pb0,oc 3 [vi x0])] :: S) w ∧ a.defers = [] ∧ RVs Tryz.prog a w [.t 4 (.int .i64 r)] ∧ InR .i64 r
theorem qhb (N:Nat) (vs_0:Value) (s_0:List (Span)) (hs_0:(pL 2 qeA) m0 [vs_0] s_0) {pb0:Nat} (x0:Int) (r1:InR .i64 x0) {r:Int} (hF:qcf N s_0 x0 = some r) (hG:Glob u) (ok:Ok u m0 ([(pb0,oc 3 [vi x0])] :: S) w) :
  Calls Tryz.prog 139 [vs_0,Value.func (.func 108) #[] #[.pointer (some ⟨pb0,0,none⟩)]].toArray w fun e w'=>(e = .returned (.int .i64 r) ∧ Ok u m0 ([(pb0,oc 3 [vi x0])] :: S) w') ∧ InR .i64 r:=by
 unfold qcf at hF
 refine en (qeB u m0 S pb0 x0) r Tryz.func139 rfl rfl rfl (by rintro a w ⟨ok,hd,hrv,h0⟩; exact qav [.t 4 (.int .i64 r)] hd rfl hrv ⟨⟨rfl,ok⟩,h0⟩) fun fin a E=>sg<|aw E rfl fun a E=>wp_seq<|wp_seq ?_
 refine qab<|mv E rfl fun a E=>lv E ok (qaH qcv hs_0 rfl) fun a E=>mv E rfl fun a E=>wn<|wp_block ?_
 obtain ⟨o3,hL,hF⟩:=bnd hF
 refine qaG _ (fun (s:Int) a w=>Ok u m0 ([(pb0,oc 3 [vi x0])] :: S) w ∧ Env 19 a [(0,vs_0),(1,(Value.func (.func 108) #[] #[.pointer (some ⟨pb0,0,none⟩)])),(7,(vi (s_0.length:Int))),(8,vi s)] ∧ InR .i64 s) (fun (b:(Unit ⊕ Int)) e a w=>(Sum.elim (fun b22=>e = (.exit 0) ∧ Ok u m0 ([(pb0,oc 3 [vi x0])] :: S) w ∧ Env 19 a []) (fun b23=>e = .ret ∧ qeB u m0 S pb0 x0 b23 a w)) b) ?_ ?_ N _ a w hL ⟨ok,E.keep [0,1,7,8],(ir 0)⟩
 rotate_left
 ·intro e a w _ hO
  rcases o3 with o3 | o3
  rotate_left
  ·replace hF:=qa6 hF
   obtain ⟨rfl,hret⟩:=hO
   refine qaA<|qaf ?_
   exact fin hF hret
  replace hF:=qa9 hF
  obtain ⟨rfl,ok,E⟩:=hO
  refine qaJ<|qaa<|sg<|aw E rfl fun a E=>wp_ret ?_
  exact fin hF ⟨ok,E.d,⟨rv_t E rfl,trivial⟩,(ir (-1))⟩
 rintro x_5 a w r ⟨ok,E,r6⟩ hF
 replace hF:qbf N s_0 x0 x_5 = some r:=hF
 unfold qbf at hF
 refine sg<|lw E (qaF rfl rfl) fun a E=>wn<|wp_seq<|cf E rfl hF (fun hc7 hF=>?_) fun hc7 hF=>?_
 rotate_left
 ·refine wp_exit<|qaC ?_
  obtain rfl:=sj hF
  exact so (sl ⟨rfl,⟨ok,E.keep []⟩⟩)
 refine wp_skip<|qaa<|wp_seq<|wp_block<|sg<|mv E rfl fun a E=>av E rfl fun a E=>?_
 refine wn<|sg<|mv E rfl fun a E=>mv E rfl fun a E=>mv E rfl fun a E=>?_
 obtain ⟨x8,e9,hF⟩:=bnd hF
 obtain ⟨b10,o11,es12,hl13,rr14,at15,yy16⟩:=qaP qcv hs_0 e9 (P:=Tryz.prog) (X:=.tmp 12) (I:=.tmp 13) (kd:=.i64) (qak E rfl) (qak E rfl)
 obtain ⟨rfl,r17,r18⟩:=rr14
 refine lv E ok (yy16 _ _) fun a E=>lv E ok (qao (cs:=[vi x8.From,vi x8.To]) qhL rfl rfl (qac.ro at15)) fun a E=>?_
 obtain ⟨r19,e20,hF⟩:=bnd hF
 refine qcb E rfl qv0 rfl (qnQ N _ x8 ⟨rfl,r17,r18⟩ x0 r1 e20 hG ok) rfl rfl ?_
 rintro _ w ⟨rfl,ok⟩
 refine ⟨_,rfl,fun a E=>?_⟩
 refine wn<|cf E rfl hF (fun hc21 hF=>?_) fun hc21 hF=>?_
 rotate_left
 ·refine wp_skip<|qal<|qaa<|qab<|lw E (qaD rfl rfl (InR.inc r6 (qai hs_0) hc7)) fun a E=>mv E rfl fun a E=>wpList_nil ?_
  obtain rfl:=sj hF
  exact qau ⟨ok,E.keep [0,1,7,8],(InR.inc r6 (qai hs_0) hc7)⟩
 refine sg<|mv E rfl fun a E=>aw E rfl fun a E=>wp_ret<|qaA ?_
 refine qaf ?_
 obtain rfl:=sj hF
 exact so (sr ⟨rfl,⟨ok,E.d,⟨rv_t E rfl,trivial⟩,r6⟩⟩)
def qgH (u:World) (m0:Mem) (S:Segs) (pb0:Nat) (x0:Int) (r:Bool) (a:Act) (w:World):Prop :=
 Ok u m0 ([(pb0,oc 3 [vi x0])] :: S) w ∧ a.defers = [] ∧ RVs Tryz.prog a w [.t 4 (.bool r)]
theorem qgC (N:Nat) (vs_0:Value) (s_0:List (Span)) (hs_0:(pL 2 qeA) m0 [vs_0] s_0) {pb0:Nat} (x0:Int) (r1:InR .i64 x0) {r:Bool} (hF:qbS N s_0 x0 = some r) (hG:Glob u) (ok:Ok u m0 ([(pb0,oc 3 [vi x0])] :: S) w) :
  Calls Tryz.prog 107 [vs_0,Value.func (.func 108) #[] #[.pointer (some ⟨pb0,0,none⟩)]].toArray w fun e w'=>(e = .returned (.bool r) ∧ Ok u m0 ([(pb0,oc 3 [vi x0])] :: S) w'):=by
 unfold qbS at hF
 refine en (qgH u m0 S pb0 x0) r Tryz.func107 rfl rfl rfl (by rintro a w ⟨ok,hd,hrv⟩; exact qav [.t 4 (.bool r)] hd rfl hrv ⟨rfl,ok⟩) fun fin a E=>sg<|aw E rfl fun a E=>sg ?_
 refine mv E rfl fun a E=>mv E rfl fun a E=>?_
 obtain ⟨r2,e3,hF⟩:=bnd hF
 refine qah E qvG rfl (qhb N _ s_0 hs_0 x0 r1 e3 hG ok) rfl rfl ?_
 rintro _ w ⟨⟨rfl,ok⟩,r4⟩
 refine ⟨_,rfl,fun a E=>?_⟩
 refine lw E (qgg rfl rfl) fun a E=>aw E rfl fun a E=>wp_ret ?_
 exact fin hF ⟨ok,E.d,⟨rv_t E rfl,trivial⟩⟩
def qo7 (u:World) (m0:Mem) (S:Segs) (r:Bool) (a:Act) (w:World):Prop :=
 Ok u m0 S w ∧ a.defers = [] ∧ RVs Tryz.prog a w [.t 4 (.bool r)]
theorem qpm (N:Nat) (vl_0:Value) (l_0:List (Span)) (hl_0:(pL 2 qeA) m0 [vl_0] l_0) (n_1:Int) (rn_1:InR .i64 n_1) {r:Bool} (hF:qhT N l_0 n_1 = some r) (hG:Glob u) (ok:Ok u m0 S w) :
  Calls Tryz.prog 76 [vl_0,vi n_1].toArray w fun e w'=>(e = .returned (.bool r) ∧ Ok u m0 S w'):=by
 unfold qhT at hF
 refine en (qo7 u m0 S) r Tryz.func76 rfl rfl rfl (by rintro a w ⟨ok,hd,hrv⟩; exact qav [.t 4 (.bool r)] hd rfl hrv ⟨rfl,ok⟩) fun fin a E=>sg<|qcO E ok rfl rfl rfl fun b1 a w E ok=>aw E rfl fun a E=>wp_seq ?_
 refine qab<|mv E rfl fun a E=>lv E ok (qbQ (caps:=[.tmp 3]) rfl) fun a E=>?_
 obtain ⟨r2,e3,hF⟩:=bnd hF
 refine lc E qvs rfl (qgC N _ l_0 hl_0 n_1 rn_1 e3 hG ok) fun w ok a E=>aw E rfl fun a E=>wp_ret ?_
 exact fin hF ⟨ok.drop,E.d,⟨rv_t E rfl,trivial⟩⟩
def qnz (u:World) (m0:Mem) (S:Segs) (r:Bool) (a:Act) (w:World):Prop :=
 Ok u m0 S w ∧ a.defers = [] ∧ RVs Tryz.prog a w [.t 4 (.bool r)]
theorem qnv (N:Nat) (vr_0:List Value) (r_0:Relation) (hr_0:qag m0 vr_0 r_0) (number_1:List UInt8) (lnumber_1:number_1.length ≤ LIMS) {r:Bool} (hF:qgw N r_0 number_1 = some r) (hG:Glob u) (ok:Ok u m0 S w) :
  Calls Tryz.prog 53 [.agg vr_0.toArray,vs number_1].toArray w fun e w'=>(e = .returned (.bool r) ∧ Ok u m0 S w'):=by
 obtain ⟨c3,rfl,r1,r2,h4⟩:=hr_0
 unfold qgw at hF
 refine en (qnz u m0 S) r Tryz.func53 rfl rfl rfl (by rintro a w ⟨ok,hd,hrv⟩; exact qav [.t 4 (.bool r)] hd rfl hrv ⟨rfl,ok⟩) fun fin a E=>sg<|qcO E ok rfl rfl rfl fun b5 a w E ok=>aw E rfl fun a E=>wp_seq ?_
 refine qab<|mv E rfl fun a E=>fv E qbl rfl fun a E=>ld E ok qaB 0 rfl rfl rfl fun a E=>?_
 obtain ⟨r6,e7,hF⟩:=bnd hF
 refine qah E qwW rfl (qnG N number_1 lnumber_1 r_0.Operand r1 e7 hG ok) rfl rfl ?_
 rintro _ w ⟨⟨rfl,ok⟩,r8,r9⟩
 refine ⟨_,rfl,fun a E=>?_⟩
 refine mv E rfl fun a E=>lw E (qaj rfl rfl) fun a E=>lw E (qaj rfl rfl) fun a E=>av E rfl fun a E=>aw E rfl fun a E=>wp_seq ?_
 refine sg<|mv E rfl fun a E=>lw E (qaU rfl rfl) fun a E=>wn<|cf E rfl hF (fun hc10 hF=>?_) fun hc10 hF=>?_
 ·refine sg<|fv E qgo rfl fun a E=>ld E ok qeP 0 rfl rfl rfl fun a E=>aw E rfl fun a E=>wp_ret ?_
  refine qaf ?_
  exact fin hF ⟨ok.drop,E.d,⟨rv_t E rfl,trivial⟩⟩
 refine wp_skip<|qaa<|wp_seq<|sg<|fv E qee rfl fun a E=>ld E ok qaB 0 rfl rfl rfl fun a E=>lw E (qaU rfl rfl) fun a E=>?_
 refine wn ?_
 obtain ⟨o11,hJ,hF⟩:=bnd hF
 refine qaT (Q':=fun e a w=>e = .normal ∧ Ok u m0 ([(b5,oc 52 [vi r_0.Operand,vi r_0.Mod,vb r_0.Not,c3])] :: S) w ∧ Env 32 a [(2,vp b5),(5,vi o11)] ∧ InR .i64 o11) ?_ ?_
 ·replace hF:=hJ
  clear hJ
  refine cf E rfl hF (fun hc13 hF=>?_) fun hc13 hF=>?_
  rotate_left
  ·refine wp_skip ?_
   obtain rfl:=sj hF
   exact ⟨rfl,⟨ok,E.keep [2,5],r8⟩⟩
  refine qab<|mv E rfl fun a E=>fv E qee rfl fun a E=>ld E ok qaB 0 rfl rfl rfl fun a E=>?_
  obtain ⟨q14,e15,hF⟩:=bnd hF
  refine lw E (y_rm rfl rfl e15) fun a E=>av E rfl fun a E=>wpList_nil ?_
  obtain rfl:=sj hF
  exact ⟨rfl,⟨ok,E.keep [2,5],(qoJ e15 r8)⟩⟩
 clear hJ
 intro e a w hO
 obtain ⟨rfl,ok,E,r16⟩:=hO
 refine qaa<|wp_seq<|qf7 (by kernel_rfl) (by kernel_rfl) ok<|qv E (qan qcm rfl) fun a E=>qv E (qat qdy rfl (qac.own 0 rfl rfl)) fun a E=>qv E (qam rfl) fun a E=>?_
 obtain ⟨r17,e18,hF⟩:=bnd hF
 refine qhp E qwp rfl (fun w ok=>(qpm N _ r_0.Spans h4 o11 r16 e18 hG ok).mono (fun _ _ h=>h)) rfl rfl fun a E=>qv E (qan qgo rfl) fun a E=>qv E (qat qeP rfl (qac.own 0 rfl rfl)) fun a E=>qv E (qmz Tryz.underlying4 rfl rfl) fun a E=>qv E (qbG rfl) fun a E=>wpQuiet_nil ?_
 intro w ok
 refine qaa<|wp_ret ?_
 exact fin hF ⟨ok.drop,E.d,⟨rv_t E rfl,trivial⟩⟩
def qkK (u:World) (m0:Mem) (S:Segs) (pb0:Nat) (x0:List UInt8) (r:Bool) (a:Act) (w:World):Prop :=
 Ok u m0 ([(pb0,oc 9 [vs x0])] :: S) w ∧ a.defers = [] ∧ RVs Tryz.prog a w [.t 3 (.bool r)]
theorem qkX (N:Nat) (vr_0:List Value) (r_0:Relation) (hr_0:qag m0 vr_0 r_0) {pb0:Nat} (x0:List UInt8) (l5:x0.length ≤ LIMS) {r:Bool} (hF:qgk N r_0 x0 = some r) (hG:Glob u) (ok:Ok u m0 ([(pb0,oc 9 [vs x0])] :: S) w) :
  Calls Tryz.prog 52 [.agg vr_0.toArray,vp pb0].toArray w fun e w'=>(e = .returned (.bool r) ∧ Ok u m0 ([(pb0,oc 9 [vs x0])] :: S) w'):=by
 obtain ⟨c3,rfl,r1,r2,h4⟩:=hr_0
 unfold qgk at hF
 refine en (qkK u m0 S pb0 x0) r Tryz.func52 rfl rfl rfl (by rintro a w ⟨ok,hd,hrv⟩; exact qav [.t 3 (.bool r)] hd rfl hrv ⟨rfl,ok⟩) fun fin a E=>sg<|qcO E ok rfl rfl rfl fun b6 a w E ok=>aw E rfl fun a E=>wp_seq ?_
 refine qab<|lv E ok (qao (cs:=[vi r_0.Operand,vi r_0.Mod,vb r_0.Not,c3]) qcI rfl rfl (qac.own 0 rfl rfl)) fun a E=>ld E ok qaM 1 rfl rfl rfl fun a E=>?_
 obtain ⟨r7,e8,hF⟩:=bnd hF
 refine lc E qwy rfl (qnv N _ r_0 ⟨_,rfl,r1,r2,h4⟩ x0 l5 e8 hG ok) fun w ok a E=>lw E (qaO rfl) fun a E=>aw E rfl fun a E=>wp_ret ?_
 exact fin hF ⟨ok.drop,E.d,⟨rv_t E rfl,trivial⟩⟩
def qdF (u:World) (m0:Mem) (S:Segs) (pb0:Nat) (x0:List UInt8) (r:Int) (a:Act) (w:World):Prop :=
 Ok u m0 ([(pb0,oc 9 [vs x0])] :: S) w ∧ a.defers = [] ∧ RVs Tryz.prog a w [.t 4 (.int .i64 r)] ∧ InR .i64 r
theorem qf5 (N:Nat) (vs_0:Value) (s_0:List (Relation)) (hs_0:(pL 4 qag) m0 [vs_0] s_0) {pb0:Nat} (x0:List UInt8) (l1:x0.length ≤ LIMS) {r:Int} (hF:qbA N s_0 x0 = some r) (hG:Glob u) (ok:Ok u m0 ([(pb0,oc 9 [vs x0])] :: S) w) :
  Calls Tryz.prog 74 [vs_0,Value.func (.func 52) #[] #[.pointer (some ⟨pb0,0,none⟩)]].toArray w fun e w'=>(e = .returned (.int .i64 r) ∧ Ok u m0 ([(pb0,oc 9 [vs x0])] :: S) w') ∧ InR .i64 r:=by
 unfold qbA at hF
 refine en (qdF u m0 S pb0 x0) r Tryz.func74 rfl rfl rfl (by rintro a w ⟨ok,hd,hrv,h0⟩; exact qav [.t 4 (.int .i64 r)] hd rfl hrv ⟨⟨rfl,ok⟩,h0⟩) fun fin a E=>sg<|aw E rfl fun a E=>wp_seq<|wp_seq ?_
 refine qab<|mv E rfl fun a E=>lv E ok (qaH qbW hs_0 rfl) fun a E=>mv E rfl fun a E=>wn<|wp_block ?_
 obtain ⟨o3,hL,hF⟩:=bnd hF
 refine qaG _ (fun (s:Int) a w=>Ok u m0 ([(pb0,oc 9 [vs x0])] :: S) w ∧ Env 19 a [(0,vs_0),(1,(Value.func (.func 52) #[] #[.pointer (some ⟨pb0,0,none⟩)])),(7,(vi (s_0.length:Int))),(8,vi s)] ∧ InR .i64 s) (fun (b:(Unit ⊕ Int)) e a w=>(Sum.elim (fun b24=>e = (.exit 0) ∧ Ok u m0 ([(pb0,oc 9 [vs x0])] :: S) w ∧ Env 19 a []) (fun b25=>e = .ret ∧ qdF u m0 S pb0 x0 b25 a w)) b) ?_ ?_ N _ a w hL ⟨ok,E.keep [0,1,7,8],(ir 0)⟩
 rotate_left
 ·intro e a w _ hO
  rcases o3 with o3 | o3
  rotate_left
  ·replace hF:=qa6 hF
   obtain ⟨rfl,hret⟩:=hO
   refine qaA<|qaf ?_
   exact fin hF hret
  replace hF:=qa9 hF
  obtain ⟨rfl,ok,E⟩:=hO
  refine qaJ<|qaa<|sg<|aw E rfl fun a E=>wp_ret ?_
  exact fin hF ⟨ok,E.d,⟨rv_t E rfl,trivial⟩,(ir (-1))⟩
 rintro x_5 a w r ⟨ok,E,r6⟩ hF
 replace hF:qa0 N s_0 x0 x_5 = some r:=hF
 unfold qa0 at hF
 refine sg<|lw E (qaF rfl rfl) fun a E=>wn<|wp_seq<|cf E rfl hF (fun hc7 hF=>?_) fun hc7 hF=>?_
 rotate_left
 ·refine wp_exit<|qaC ?_
  obtain rfl:=sj hF
  exact so (sl ⟨rfl,⟨ok,E.keep []⟩⟩)
 refine wp_skip<|qaa<|wp_seq<|wp_block<|sg<|mv E rfl fun a E=>av E rfl fun a E=>?_
 refine wn<|sg<|mv E rfl fun a E=>mv E rfl fun a E=>mv E rfl fun a E=>?_
 obtain ⟨x8,e9,hF⟩:=bnd hF
 obtain ⟨b10,o11,es12,hl13,rr14,at15,yy16⟩:=qaP qbW hs_0 e9 (P:=Tryz.prog) (X:=.tmp 12) (I:=.tmp 13) (kd:=.i64) (qak E rfl) (qak E rfl)
 obtain ⟨c19,rfl,r17,r18,h20⟩:=rr14
 refine lv E ok (yy16 _ _) fun a E=>lv E ok (qao (cs:=[vi x8.Operand,vi x8.Mod,vb x8.Not,c19]) qcI rfl rfl (qac.ro at15)) fun a E=>?_
 obtain ⟨r21,e22,hF⟩:=bnd hF
 refine qcb E rfl qwF rfl (qkX N _ x8 ⟨_,rfl,r17,r18,h20⟩ x0 l1 e22 hG ok) rfl rfl ?_
 rintro _ w ⟨rfl,ok⟩
 refine ⟨_,rfl,fun a E=>?_⟩
 refine wn<|cf E rfl hF (fun hc23 hF=>?_) fun hc23 hF=>?_
 rotate_left
 ·refine wp_skip<|qal<|qaa<|qab<|lw E (qaD rfl rfl (InR.inc r6 (qai hs_0) hc7)) fun a E=>mv E rfl fun a E=>wpList_nil ?_
  obtain rfl:=sj hF
  exact qau ⟨ok,E.keep [0,1,7,8],(InR.inc r6 (qai hs_0) hc7)⟩
 refine sg<|mv E rfl fun a E=>aw E rfl fun a E=>wp_ret<|qaA ?_
 refine qaf ?_
 obtain rfl:=sj hF
 exact so (sr ⟨rfl,⟨ok,E.d,⟨rv_t E rfl,trivial⟩,r6⟩⟩)
def qfI (u:World) (m0:Mem) (S:Segs) (pb0:Nat) (x0:List UInt8) (r:Bool) (a:Act) (w:World):Prop :=
 Ok u m0 ([(pb0,oc 9 [vs x0])] :: S) w ∧ a.defers = [] ∧ RVs Tryz.prog a w [.t 4 (.bool r)]
theorem qfA (N:Nat) (vs_0:Value) (s_0:List (Relation)) (hs_0:(pL 4 qag) m0 [vs_0] s_0) {pb0:Nat} (x0:List UInt8) (l1:x0.length ≤ LIMS) {r:Bool} (hF:qbm N s_0 x0 = some r) (hG:Glob u) (ok:Ok u m0 ([(pb0,oc 9 [vs x0])] :: S) w) :
  Calls Tryz.prog 51 [vs_0,Value.func (.func 52) #[] #[.pointer (some ⟨pb0,0,none⟩)]].toArray w fun e w'=>(e = .returned (.bool r) ∧ Ok u m0 ([(pb0,oc 9 [vs x0])] :: S) w'):=by
 unfold qbm at hF
 refine en (qfI u m0 S pb0 x0) r Tryz.func51 rfl rfl rfl (by rintro a w ⟨ok,hd,hrv⟩; exact qav [.t 4 (.bool r)] hd rfl hrv ⟨rfl,ok⟩) fun fin a E=>sg<|aw E rfl fun a E=>sg ?_
 refine mv E rfl fun a E=>mv E rfl fun a E=>?_
 obtain ⟨r2,e3,hF⟩:=bnd hF
 refine qah E qt6 rfl (qf5 N _ s_0 hs_0 x0 l1 e3 hG ok) rfl rfl ?_
 rintro _ w ⟨⟨rfl,ok⟩,r4⟩
 refine ⟨_,rfl,fun a E=>?_⟩
 refine lw E (qgg rfl rfl) fun a E=>aw E rfl fun a E=>wp_ret ?_
 exact fin hF ⟨ok,E.d,⟨rv_t E rfl,trivial⟩⟩
def qmd (u:World) (m0:Mem) (S:Segs) (pb0:Nat) (x0:List UInt8) (r:Bool) (a:Act) (w:World):Prop :=
 Ok u m0 ([(pb0,oc 9 [vs x0])] :: S) w ∧ a.defers = [] ∧ RVs Tryz.prog a w [.t 3 (.bool r)]
theorem qmu (N:Nat) (vlist_0:Value) (list_0:List (Relation)) (hlist_0:(pL 4 qag) m0 [vlist_0] list_0) {pb0:Nat} (x0:List UInt8) (l1:x0.length ≤ LIMS) {r:Bool} (hF:qgU N list_0 x0 = some r) (hG:Glob u) (ok:Ok u m0 ([(pb0,oc 9 [vs x0])] :: S) w) :
  Calls Tryz.prog 50 [vlist_0,vp pb0].toArray w fun e w'=>(e = .returned (.bool r) ∧ Ok u m0 ([(pb0,oc 9 [vs x0])] :: S) w'):=by
 unfold qgU at hF
 refine en (qmd u m0 S pb0 x0) r Tryz.func50 rfl rfl rfl (by rintro a w ⟨ok,hd,hrv⟩; exact qav [.t 3 (.bool r)] hd rfl hrv ⟨rfl,ok⟩) fun fin a E=>sg<|aw E rfl fun a E=>sg ?_
 refine mv E rfl fun a E=>lv E ok (qbQ (caps:=[.tmp 1]) rfl) fun a E=>?_
 obtain ⟨r2,e3,hF⟩:=bnd hF
 refine lc E quf rfl (qfA N _ list_0 hlist_0 x0 l1 e3 hG ok) fun w ok a E=>lw E (qaO rfl) fun a E=>aw E rfl fun a E=>wp_ret ?_
 exact fin hF ⟨ok,E.d,⟨rv_t E rfl,trivial⟩⟩
def qeh (u:World) (m0:Mem) (S:Segs) (pb0:Nat) (x0:List UInt8) (r:Int) (a:Act) (w:World):Prop :=
 Ok u m0 ([(pb0,oc 9 [vs x0])] :: S) w ∧ a.defers = [] ∧ RVs Tryz.prog a w [.t 4 (.int .i64 r)] ∧ InR .i64 r
theorem qgI (N:Nat) (vs_0:Value) (s_0:List (List (Relation))) (hs_0:(pL 1 (pL 4 qag)) m0 [vs_0] s_0) {pb0:Nat} (x0:List UInt8) (l1:x0.length ≤ LIMS) {r:Int} (hF:qbP N s_0 x0 = some r) (hG:Glob u) (ok:Ok u m0 ([(pb0,oc 9 [vs x0])] :: S) w) :
  Calls Tryz.prog 73 [vs_0,Value.func (.func 50) #[] #[.pointer (some ⟨pb0,0,none⟩)]].toArray w fun e w'=>(e = .returned (.int .i64 r) ∧ Ok u m0 ([(pb0,oc 9 [vs x0])] :: S) w') ∧ InR .i64 r:=by
 unfold qbP at hF
 refine en (qeh u m0 S pb0 x0) r Tryz.func73 rfl rfl rfl (by rintro a w ⟨ok,hd,hrv,h0⟩; exact qav [.t 4 (.int .i64 r)] hd rfl hrv ⟨⟨rfl,ok⟩,h0⟩) fun fin a E=>sg<|aw E rfl fun a E=>wp_seq<|wp_seq ?_
 refine qab<|mv E rfl fun a E=>lv E ok (qaH qd8 hs_0 rfl) fun a E=>mv E rfl fun a E=>wn<|wp_block ?_
 obtain ⟨o3,hL,hF⟩:=bnd hF
 refine qaG _ (fun (s:Int) a w=>Ok u m0 ([(pb0,oc 9 [vs x0])] :: S) w ∧ Env 19 a [(0,vs_0),(1,(Value.func (.func 50) #[] #[.pointer (some ⟨pb0,0,none⟩)])),(7,(vi (s_0.length:Int))),(8,vi s)] ∧ InR .i64 s) (fun (b:(Unit ⊕ Int)) e a w=>(Sum.elim (fun b22=>e = (.exit 0) ∧ Ok u m0 ([(pb0,oc 9 [vs x0])] :: S) w ∧ Env 19 a []) (fun b23=>e = .ret ∧ qeh u m0 S pb0 x0 b23 a w)) b) ?_ ?_ N _ a w hL ⟨ok,E.keep [0,1,7,8],(ir 0)⟩
 rotate_left
 ·intro e a w _ hO
  rcases o3 with o3 | o3
  rotate_left
  ·replace hF:=qa6 hF
   obtain ⟨rfl,hret⟩:=hO
   refine qaA<|qaf ?_
   exact fin hF hret
  replace hF:=qa9 hF
  obtain ⟨rfl,ok,E⟩:=hO
  refine qaJ<|qaa<|sg<|aw E rfl fun a E=>wp_ret ?_
  exact fin hF ⟨ok,E.d,⟨rv_t E rfl,trivial⟩,(ir (-1))⟩
 rintro x_5 a w r ⟨ok,E,r6⟩ hF
 replace hF:qbc N s_0 x0 x_5 = some r:=hF
 unfold qbc at hF
 refine sg<|lw E (qaF rfl rfl) fun a E=>wn<|wp_seq<|cf E rfl hF (fun hc7 hF=>?_) fun hc7 hF=>?_
 rotate_left
 ·refine wp_exit<|qaC ?_
  obtain rfl:=sj hF
  exact so (sl ⟨rfl,⟨ok,E.keep []⟩⟩)
 refine wp_skip<|qaa<|wp_seq<|wp_block<|sg<|mv E rfl fun a E=>av E rfl fun a E=>?_
 refine wn<|sg<|mv E rfl fun a E=>mv E rfl fun a E=>mv E rfl fun a E=>?_
 obtain ⟨x8,e9,hF⟩:=bnd hF
 obtain ⟨b10,o11,es12,hl13,rr14,at15,yy16⟩:=qaP qd8 hs_0 e9 (P:=Tryz.prog) (X:=.tmp 12) (I:=.tmp 13) (kd:=.i64) (qak E rfl) (qak E rfl)
 obtain ⟨c17,rfl,h18⟩:=qcn rr14
 refine lv E ok (yy16 _ _) fun a E=>lv E ok (qat qeS rfl (qac.ro at15)) fun a E=>?_
 obtain ⟨r19,e20,hF⟩:=bnd hF
 refine qcb E rfl qw3 rfl (qmu N _ x8 h18 x0 l1 e20 hG ok) rfl rfl ?_
 rintro _ w ⟨rfl,ok⟩
 refine ⟨_,rfl,fun a E=>?_⟩
 refine wn<|cf E rfl hF (fun hc21 hF=>?_) fun hc21 hF=>?_
 rotate_left
 ·refine wp_skip<|qal<|qaa<|qab<|lw E (qaD rfl rfl (InR.inc r6 (qai hs_0) hc7)) fun a E=>mv E rfl fun a E=>wpList_nil ?_
  obtain rfl:=sj hF
  exact qau ⟨ok,E.keep [0,1,7,8],(InR.inc r6 (qai hs_0) hc7)⟩
 refine sg<|mv E rfl fun a E=>aw E rfl fun a E=>wp_ret<|qaA ?_
 refine qaf ?_
 obtain rfl:=sj hF
 exact so (sr ⟨rfl,⟨ok,E.d,⟨rv_t E rfl,trivial⟩,r6⟩⟩)
def qgl (u:World) (m0:Mem) (S:Segs) (pb0:Nat) (x0:List UInt8) (r:Bool) (a:Act) (w:World):Prop :=
 Ok u m0 ([(pb0,oc 9 [vs x0])] :: S) w ∧ a.defers = [] ∧ RVs Tryz.prog a w [.t 4 (.bool r)]
theorem qgm (N:Nat) (vs_0:Value) (s_0:List (List (Relation))) (hs_0:(pL 1 (pL 4 qag)) m0 [vs_0] s_0) {pb0:Nat} (x0:List UInt8) (l1:x0.length ≤ LIMS) {r:Bool} (hF:qa7 N s_0 x0 = some r) (hG:Glob u) (ok:Ok u m0 ([(pb0,oc 9 [vs x0])] :: S) w) :
  Calls Tryz.prog 49 [vs_0,Value.func (.func 50) #[] #[.pointer (some ⟨pb0,0,none⟩)]].toArray w fun e w'=>(e = .returned (.bool r) ∧ Ok u m0 ([(pb0,oc 9 [vs x0])] :: S) w'):=by
 unfold qa7 at hF
 refine en (qgl u m0 S pb0 x0) r Tryz.func49 rfl rfl rfl (by rintro a w ⟨ok,hd,hrv⟩; exact qav [.t 4 (.bool r)] hd rfl hrv ⟨rfl,ok⟩) fun fin a E=>sg<|aw E rfl fun a E=>sg ?_
 refine mv E rfl fun a E=>mv E rfl fun a E=>?_
 obtain ⟨r2,e3,hF⟩:=bnd hF
 refine qah E qwU rfl (qgI N _ s_0 hs_0 x0 l1 e3 hG ok) rfl rfl ?_
 rintro _ w ⟨⟨rfl,ok⟩,r4⟩
 refine ⟨_,rfl,fun a E=>?_⟩
 refine lw E (qgg rfl rfl) fun a E=>aw E rfl fun a E=>wp_ret ?_
 exact fin hF ⟨ok,E.d,⟨rv_t E rfl,trivial⟩⟩
def qnF (u:World) (m0:Mem) (S:Segs) (r:Bool × Int) (a:Act) (w:World):Prop :=
 Ok u m0 S w ∧ a.defers = [] ∧ RVs Tryz.prog a w [.t 4 (.bool r.1),.t 5 (.int .i64 r.2)] ∧ InR .i64 r.2
theorem qjC (N:Nat) (vc_0:Value) (c_0:List (List (Relation))) (hc_0:(pL 1 (pL 4 qag)) m0 [vc_0] c_0) (number_1:List UInt8) (lnumber_1:number_1.length ≤ LIMS) {r:Bool × Int} (hF:qfo N c_0 number_1 = some r) (hG:Glob u) (ok:Ok u m0 S w) :
  Calls Tryz.prog 27 [vc_0,vs number_1].toArray w fun e w'=>(e = .returned (.tuple [(.bool r.1),(.int .i64 r.2)].toArray) ∧ Ok u m0 S w') ∧ InR .i64 r.2:=by
 unfold qfo at hF
 refine en (qnF u m0 S) r Tryz.func27 rfl rfl rfl (by rintro a w ⟨ok,hd,hrv,h0⟩; exact qav [.t 4 (.bool r.1),.t 5 (.int .i64 r.2)] hd rfl hrv ⟨⟨rfl,ok⟩,h0⟩) fun fin a E=>sg<|qcO E ok rfl rfl rfl fun b1 a w E ok=>av E rfl fun a E=>aw E rfl fun a E=>?_
 refine wp_seq<|sg<|mv E rfl fun a E=>?_
 obtain ⟨r2,e3,hF⟩:=bnd hF
 refine lc E qpY rfl (qgS N _ c_0 hc_0 e3 hG ok) fun w ok a E=>lw E (qaO rfl) fun a E=>mv E rfl fun a E=>qas (!r2) (fun hc4=>?_) (fun hc4=>?_)
 ·replace hF:=qaq hc4 hF
  replace E:=E.upd 9 hc4 rfl
  refine ls E fun a E=>ls E fun a E=>ls E fun a E=>pt E rfl rfl fun a E=>wn<|c_if E rfl (fun _=>?_) (fun h=>by cases h)
  refine sg<|av E rfl fun a E=>aw E rfl fun a E=>wp_ret<|qaf ?_
  exact fin hF ⟨ok.drop,E.d,⟨rv_t E rfl,rv_t E rfl,trivial⟩,(ir 1)⟩
 replace hF:=qar hc4 hF
 replace E:=E.upd 9 hc4 rfl
 refine ld E ok qaM 0 rfl rfl rfl fun a E=>?_
 obtain ⟨r5,e6,hF⟩:=bnd hF
 refine lc E qwq rfl (qoO N number_1 lnumber_1 e6 hG ok) fun w ok a E=>lw E (qaO rfl) fun a E=>pf E rfl rfl fun a E=>wn<|cf E rfl hF (fun hc7 hF=>?_) fun hc7 hF=>?_
 ·refine sg<|av E rfl fun a E=>aw E rfl fun a E=>wp_ret<|qaf ?_
  exact fin hF ⟨ok.drop,E.d,⟨rv_t E rfl,rv_t E rfl,trivial⟩,(ir 1)⟩
 refine wp_skip<|qaa<|sg<|mv E rfl fun a E=>lv E ok (qbQ (caps:=[.tmp 3]) rfl) fun a E=>?_
 obtain ⟨r8,e9,hF⟩:=bnd hF
 refine lc E qw4 rfl (qgm N _ c_0 hc_0 number_1 lnumber_1 e9 hG ok) fun w ok a E=>av E rfl fun a E=>aw E rfl fun a E=>wp_ret ?_
 exact fin hF ⟨ok.drop,E.d,⟨rv_t E rfl,rv_t E rfl,trivial⟩,(ir 0)⟩
end Go.Proofs.YtboacfcnmhnbdaaGreatDoor
namespace Go.Proofs.YtboacfcnmhnbdaaGreatDoor
open Go.X
def qfp (N:Nat) (l_0:List (Rule)) (number_1:List UInt8) (x_29:Int):Option (Int ⊕ ((Unit ⊕ ((List UInt8) × Int)))) :=
 bif (decide (x_29 < (l_0.length:Int))) then
  (idx l_0 x_29).bind fun x32 =>
  (qfo N x32.Cond number_1).bind fun r45 =>
  bif (r45.2 != 0) then
   some (.inr (.inr ([],r45.2)))
  else
   bif r45.1 then
    some (.inr (.inr (x32.Class,0)))
   else
    some (.inl (x_29 + 1))
 else
  some (.inr (.inl ()))
def qdH (N:Nat) (l_0:List (Rule)) (number_1:List UInt8):Option ((List UInt8) × Int) :=
 (qg4 N l_0).bind fun r1 =>
 bif (!r1) then
  some ([],1)
 else
  (qfo N ([([(Relation.mk 2 0 true ([(Span.mk 0 0)]:List (Span)))]:List (Relation))]:List (List (Relation))) number_1).bind fun r22 =>
  bif (r22.2 != 0) then
   some ([],1)
  else
   (iter (fun s=>qfp N l_0 number_1 s) N 0).bind fun o27 =>
   Sum.elim (fun _o27 =>
    some ([111,116,104,101,114],0))
   (fun o27 =>
    some o27) o27
def qge (N:Nat) (x_18:Parser):Option (Parser ⊕ Parser) :=
 bif (decide (x_18.at_ < (x_18.s.length:Int))) then
  (idx x_18.s x_18.at_).bind fun c24 =>
  (strings_IndexByte N ([32,9,10]) (c24.toNat:Int)).bind fun r26 =>
  bif (decide (r26 ≥ 0)) then
   some (.inl (Parser.mk x_18.s (x_18.at_ + 1) x_18.relations x_18.e))
  else
   some (.inr x_18)
 else
  some (.inr x_18)
def qfk (N:Nat) (x0:Parser):Option Parser :=
 (iter (fun s=>qge N s) N x0).bind fun o13 =>
 some o13
def qhf (_N:Nat) (c_0:Int):Option Bool :=
 bif (decide (c_0 ≥ 97)) then
  some (decide (c_0 ≤ 122))
 else
  some false
def qg8 (N:Nat) (s_0:List UInt8) (n_4:Int):Option (Int ⊕ Int) :=
 bif (decide (n_4 < (s_0.length:Int))) then
  (idx s_0 n_4).bind fun c7 =>
  (qhf N (c7.toNat:Int)).bind fun r9 =>
  bif r9 then
   some (.inl (n_4 + 1))
  else
   some (.inr n_4)
 else
  some (.inr n_4)
def qhS (N:Nat) (s_0:List UInt8):Option (List UInt8) :=
 (iter (fun s=>qg8 N s_0 s) N 0).bind fun o2 =>
 (slc s_0 0 o2).bind fun s13 =>
 some s13
def qeI (_N:Nat) (c_0:Int):Option Bool :=
 bif (decide (c_0 ≥ 48)) then
  some (decide (c_0 ≤ 57))
 else
  some false
def qgY (N:Nat) (s_0:List UInt8) (n_4:Int):Option (Int ⊕ Int) :=
 bif (decide (n_4 < (s_0.length:Int))) then
  (idx s_0 n_4).bind fun c7 =>
  (qeI N (c7.toNat:Int)).bind fun r9 =>
  bif r9 then
   some (.inl (n_4 + 1))
  else
   some (.inr n_4)
 else
  some (.inr n_4)
def qhY (N:Nat) (s_0:List UInt8):Option (List UInt8) :=
 (iter (fun s=>qgY N s_0 s) N 0).bind fun o2 =>
 (slc s_0 0 o2).bind fun s13 =>
 some s13
def qf9 (N:Nat) (r9:Parser) (s15:List UInt8) (x_40:Int):Option (Int ⊕ ((Unit ⊕ ((List UInt8) × Parser)))) :=
 bif (decide (x_40 < (([[46,46],[33,61],[37],[61],[44]]:List (List UInt8)).length:Int))) then
  (idx ([[46,46],[33,61],[37],[61],[44]]:List (List UInt8)) x_40).bind fun x43 =>
  (strings_HasPrefix N s15 x43).bind fun r54 =>
  bif r54 then
   some (.inr (.inr (x43,r9)))
  else
   some (.inl (x_40 + 1))
 else
  some (.inr (.inl ()))
def qco (N:Nat) (x0:Parser):Option ((List UInt8) × Parser) :=
 (qfk N x0).bind fun r9 =>
 (slc r9.s r9.at_ (r9.s.length:Int)).bind fun s15 =>
 bif (s15 == ([])) then
  some ([],r9)
 else
  (idx s15 0).bind fun c18 =>
  (qhf N (c18.toNat:Int)).bind fun r20 =>
  bif r20 then
   (qhS N s15).bind fun r23 =>
   some (r23,r9)
  else
   (idx s15 0).bind fun c26 =>
   (qeI N (c26.toNat:Int)).bind fun r28 =>
   bif r28 then
    (qhY N s15).bind fun r31 =>
    some (r31,r9)
   else
    (iter (fun s=>qf9 N r9 s15 s) N 0).bind fun o38 =>
    Sum.elim (fun _o38 =>
     some ([],r9))
    (fun o38 =>
     some o38) o38
def qbR (N:Nat) (t_1:List UInt8) (x0:Parser):Option (Bool × Parser) :=
 bif (x0.e != 0) then
  some (false,x0)
 else
  (qco N x0).bind fun r10 =>
  bif (r10.1 != t_1) then
   some (false,r10.2)
  else
   some (true,(Parser.mk r10.2.s (IntKind.wrap .i64 (r10.2.at_ + (t_1.length:Int))) r10.2.relations r10.2.e))
def qay (_N:Nat) (e_1:Int) (x0:Parser):Option Parser :=
 bif (x0.e == 0) then
  some (Parser.mk x0.s x0.at_ x0.relations e_1)
 else
  some x0
def qdA (N:Nat) (l_1:List (List UInt8)) (x0:Parser):Option ((List UInt8) × Parser) :=
 (qco N x0).bind fun r9 =>
 bif (r9.2.e == 0) then
  (qby N l_1 r9.1).bind fun r17 =>
  (show Option Parser from
   bif (!r17) then
    (qay N 3 r9.2).bind fun r25 =>
    some r25
   else
    some r9.2).bind fun o19 =>
  bif (o19.e != 0) then
   some ([],o19)
  else
   some (r9.1,(Parser.mk o19.s (IntKind.wrap .i64 (o19.at_ + (r9.1.length:Int))) o19.relations o19.e))
 else
  bif (r9.2.e != 0) then
   some ([],r9.2)
  else
   some (r9.1,(Parser.mk r9.2.s (IntKind.wrap .i64 (r9.2.at_ + (r9.1.length:Int))) r9.2.relations r9.2.e))
def qbL (N:Nat) (n_0:Int) (x0:Int):Option Int :=
 (qef N x0 n_0).bind fun r2 =>
 bif (!r2) then
  some 2
 else
  some 0
def qd6 (N:Nat) (x0:Parser) (x1:Int):Option (Int × Parser) :=
 (qco N x0).bind fun r10 =>
 bif (r10.1 == ([])) then
  (qay N 3 r10.2).bind fun r18 =>
  bif (r18.e != 0) then
   some (0,r18)
  else
   (strconv_Atoi N r10.1).bind fun r25 =>
   (qbL N r25.1 x1).bind fun r28 =>
   bif (r28 != 0) then
    (qay N r28 r18).bind fun r32 =>
    some (0,r32)
   else
    some (r25.1,(Parser.mk r18.s (IntKind.wrap .i64 (r18.at_ + (r10.1.length:Int))) r18.relations r18.e))
 else
  (idx r10.1 0).bind fun c38 =>
  (qeI N (c38.toNat:Int)).bind fun r40 =>
  bif (!r40) then
   (qay N 3 r10.2).bind fun r43 =>
   bif (r43.e != 0) then
    some (0,r43)
   else
    (strconv_Atoi N r10.1).bind fun r50 =>
    (qbL N r50.1 x1).bind fun r53 =>
    bif (r53 != 0) then
     (qay N r53 r43).bind fun r57 =>
     some (0,r57)
    else
     some (r50.1,(Parser.mk r43.s (IntKind.wrap .i64 (r43.at_ + (r10.1.length:Int))) r43.relations r43.e))
  else
   bif (decide ((r10.1.length:Int) > 3)) then
    (qay N 3 r10.2).bind fun r64 =>
    bif (r64.e != 0) then
     some (0,r64)
    else
     (strconv_Atoi N r10.1).bind fun r71 =>
     (qbL N r71.1 x1).bind fun r74 =>
     bif (r74 != 0) then
      (qay N r74 r64).bind fun r78 =>
      some (0,r78)
     else
      some (r71.1,(Parser.mk r64.s (IntKind.wrap .i64 (r64.at_ + (r10.1.length:Int))) r64.relations r64.e))
   else
    bif (decide ((r10.1.length:Int) > 1)) then
     (idx r10.1 0).bind fun c85 =>
     (show Option Parser from
      bif ((c85.toNat:Int) == 48) then
       (qay N 3 r10.2).bind fun r93 =>
       some r93
      else
       some r10.2).bind fun o87 =>
     bif (o87.e != 0) then
      some (0,o87)
     else
      (strconv_Atoi N r10.1).bind fun r104 =>
      (qbL N r104.1 x1).bind fun r107 =>
      bif (r107 != 0) then
       (qay N r107 o87).bind fun r111 =>
       some (0,r111)
      else
       some (r104.1,(Parser.mk o87.s (IntKind.wrap .i64 (o87.at_ + (r10.1.length:Int))) o87.relations o87.e))
    else
     bif (r10.2.e != 0) then
      some (0,r10.2)
     else
      (strconv_Atoi N r10.1).bind fun r118 =>
      (qbL N r118.1 x1).bind fun r121 =>
      bif (r121 != 0) then
       (qay N r121 r10.2).bind fun r125 =>
       some (0,r125)
      else
       some (r118.1,(Parser.mk r10.2.s (IntKind.wrap .i64 (r10.2.at_ + (r10.1.length:Int))) r10.2.relations r10.2.e))
def qcs (N:Nat) (n_0:Int) (x0:Int) (x1:Int):Option Int :=
 (qcY N x0).bind fun r3 =>
 bif (decide (n_0 > r3)) then
  some 2
 else
  bif (decide (x1 ≥ 4)) then
   some 6
  else
   some 0
def qe5 (N:Nat) (x0:Parser) (x1:Int) (x2:Int):Option (Int × Parser) :=
 (qco N x0).bind fun r11 =>
 bif (r11.1 == ([])) then
  (qay N 3 r11.2).bind fun r19 =>
  bif (r19.e != 0) then
   some (0,r19)
  else
   (strconv_Atoi N r11.1).bind fun r26 =>
   (qcs N r26.1 x1 x2).bind fun r29 =>
   bif (r29 != 0) then
    (qay N r29 r19).bind fun r33 =>
    some (0,r33)
   else
    some (r26.1,(Parser.mk r19.s (IntKind.wrap .i64 (r19.at_ + (r11.1.length:Int))) r19.relations r19.e))
 else
  (idx r11.1 0).bind fun c39 =>
  (qeI N (c39.toNat:Int)).bind fun r41 =>
  bif (!r41) then
   (qay N 3 r11.2).bind fun r44 =>
   bif (r44.e != 0) then
    some (0,r44)
   else
    (strconv_Atoi N r11.1).bind fun r51 =>
    (qcs N r51.1 x1 x2).bind fun r54 =>
    bif (r54 != 0) then
     (qay N r54 r44).bind fun r58 =>
     some (0,r58)
    else
     some (r51.1,(Parser.mk r44.s (IntKind.wrap .i64 (r44.at_ + (r11.1.length:Int))) r44.relations r44.e))
  else
   bif (decide ((r11.1.length:Int) > 3)) then
    (qay N 3 r11.2).bind fun r65 =>
    bif (r65.e != 0) then
     some (0,r65)
    else
     (strconv_Atoi N r11.1).bind fun r72 =>
     (qcs N r72.1 x1 x2).bind fun r75 =>
     bif (r75 != 0) then
      (qay N r75 r65).bind fun r79 =>
      some (0,r79)
     else
      some (r72.1,(Parser.mk r65.s (IntKind.wrap .i64 (r65.at_ + (r11.1.length:Int))) r65.relations r65.e))
   else
    bif (decide ((r11.1.length:Int) > 1)) then
     (idx r11.1 0).bind fun c86 =>
     (show Option Parser from
      bif ((c86.toNat:Int) == 48) then
       (qay N 3 r11.2).bind fun r94 =>
       some r94
      else
       some r11.2).bind fun o88 =>
     bif (o88.e != 0) then
      some (0,o88)
     else
      (strconv_Atoi N r11.1).bind fun r105 =>
      (qcs N r105.1 x1 x2).bind fun r108 =>
      bif (r108 != 0) then
       (qay N r108 o88).bind fun r112 =>
       some (0,r112)
      else
       some (r105.1,(Parser.mk o88.s (IntKind.wrap .i64 (o88.at_ + (r11.1.length:Int))) o88.relations o88.e))
    else
     bif (r11.2.e != 0) then
      some (0,r11.2)
     else
      (strconv_Atoi N r11.1).bind fun r119 =>
      (qcs N r119.1 x1 x2).bind fun r122 =>
      bif (r122 != 0) then
       (qay N r122 r11.2).bind fun r126 =>
       some (0,r126)
      else
       some (r119.1,(Parser.mk r11.2.s (IntKind.wrap .i64 (r11.2.at_ + (r11.1.length:Int))) r11.2.relations r11.2.e))
def qcq (N:Nat) (n_0:Int) (x0:Int) (x1:Span):Option Int :=
 (qcY N x0).bind fun r4 =>
 bif (decide (n_0 > r4)) then
  some 2
 else
  bif (decide (n_0 < x1.From)) then
   some 2
  else
   some 0
def qeZ (N:Nat) (x0:Parser) (x1:Int) (x2:Span):Option (Int × Parser) :=
 (qco N x0).bind fun r12 =>
 bif (r12.1 == ([])) then
  (qay N 3 r12.2).bind fun r20 =>
  bif (r20.e != 0) then
   some (0,r20)
  else
   (strconv_Atoi N r12.1).bind fun r27 =>
   (qcq N r27.1 x1 x2).bind fun r30 =>
   bif (r30 != 0) then
    (qay N r30 r20).bind fun r34 =>
    some (0,r34)
   else
    some (r27.1,(Parser.mk r20.s (IntKind.wrap .i64 (r20.at_ + (r12.1.length:Int))) r20.relations r20.e))
 else
  (idx r12.1 0).bind fun c40 =>
  (qeI N (c40.toNat:Int)).bind fun r42 =>
  bif (!r42) then
   (qay N 3 r12.2).bind fun r45 =>
   bif (r45.e != 0) then
    some (0,r45)
   else
    (strconv_Atoi N r12.1).bind fun r52 =>
    (qcq N r52.1 x1 x2).bind fun r55 =>
    bif (r55 != 0) then
     (qay N r55 r45).bind fun r59 =>
     some (0,r59)
    else
     some (r52.1,(Parser.mk r45.s (IntKind.wrap .i64 (r45.at_ + (r12.1.length:Int))) r45.relations r45.e))
  else
   bif (decide ((r12.1.length:Int) > 3)) then
    (qay N 3 r12.2).bind fun r66 =>
    bif (r66.e != 0) then
     some (0,r66)
    else
     (strconv_Atoi N r12.1).bind fun r73 =>
     (qcq N r73.1 x1 x2).bind fun r76 =>
     bif (r76 != 0) then
      (qay N r76 r66).bind fun r80 =>
      some (0,r80)
     else
      some (r73.1,(Parser.mk r66.s (IntKind.wrap .i64 (r66.at_ + (r12.1.length:Int))) r66.relations r66.e))
   else
    bif (decide ((r12.1.length:Int) > 1)) then
     (idx r12.1 0).bind fun c87 =>
     (show Option Parser from
      bif ((c87.toNat:Int) == 48) then
       (qay N 3 r12.2).bind fun r95 =>
       some r95
      else
       some r12.2).bind fun o89 =>
     bif (o89.e != 0) then
      some (0,o89)
     else
      (strconv_Atoi N r12.1).bind fun r106 =>
      (qcq N r106.1 x1 x2).bind fun r109 =>
      bif (r109 != 0) then
       (qay N r109 o89).bind fun r113 =>
       some (0,r113)
      else
       some (r106.1,(Parser.mk o89.s (IntKind.wrap .i64 (o89.at_ + (r12.1.length:Int))) o89.relations o89.e))
    else
     bif (r12.2.e != 0) then
      some (0,r12.2)
     else
      (strconv_Atoi N r12.1).bind fun r120 =>
      (qcq N r120.1 x1 x2).bind fun r123 =>
      bif (r123 != 0) then
       (qay N r123 r12.2).bind fun r127 =>
       some (0,r127)
      else
       some (r120.1,(Parser.mk r12.2.s (IntKind.wrap .i64 (r12.2.at_ + (r12.1.length:Int))) r12.2.relations r12.2.e))
def qft (N:Nat) (operand_1:Int) (count_2:Int) (x0:Parser):Option (Span × Parser) :=
 (qe5 N x0 operand_1 count_2).bind fun r12 =>
 (qbR N ([46,46]) r12.2).bind fun r20 =>
 bif r20.1 then
  (qeZ N r20.2 operand_1 (Span.mk r12.1 r12.1)).bind fun r27 =>
  some ((Span.mk r12.1 r27.1),r27.2)
 else
  some ((Span.mk r12.1 r12.1),r20.2)
end Go.Proofs.YtboacfcnmhnbdaaGreatDoor
namespace Go.Proofs.YtboacfcnmhnbdaaGreatDoor
open Go.X
variable {u:World} {m0:Mem} {S:Segs} {w:World}
set_option maxHeartbeats 4000000
set_option maxRecDepth 100000
def qk5 (u:World) (m0:Mem) (S:Segs) (r:(List UInt8) × Int) (a:Act) (w:World):Prop :=
 Ok u m0 S w ∧ a.defers = [] ∧ RVs Tryz.prog a w [.t 4 (.string (bs r.1)),.t 5 (.int .i64 r.2)] ∧ r.1.length ≤ LIMS ∧ InR .i64 r.2
theorem qg1 (N:Nat) (vl_0:Value) (l_0:List (Rule)) (hl_0:(pL 2 qfN) m0 [vl_0] l_0) (number_1:List UInt8) (lnumber_1:number_1.length ≤ LIMS) {r:(List UInt8) × Int} (hF:qdH N l_0 number_1 = some r) (hG:Glob u) (ok:Ok u m0 S w) :
  Calls Tryz.prog 11 [vl_0,vs number_1].toArray w fun e w'=>(e = .returned (.tuple [(.string (bs r.1)),(.int .i64 r.2)].toArray) ∧ Ok u m0 S w') ∧ r.1.length ≤ LIMS ∧ InR .i64 r.2:=by
 have hb0:=ok.base
 have le_m0:=Mem.le.refl m0
 unfold qdH at hF
 refine en (qk5 u m0 S) r Tryz.func11 rfl rfl rfl (by rintro a w ⟨ok,hd,hrv,h0,h1⟩; exact qav [.t 4 (.string (bs r.1)),.t 5 (.int .i64 r.2)] hd rfl hrv ⟨⟨rfl,ok⟩,h0,h1⟩) fun fin a E=>sg<|av E rfl fun a E=>aw E rfl fun a E=>wp_seq ?_
 refine sg<|mv E rfl fun a E=>?_
 obtain ⟨r1,e2,hF⟩:=bnd hF
 refine lc E qus rfl (qkI N _ l_0 hl_0 e2 hG ok) fun w ok a E=>lw E (qaO rfl) fun a E=>wn<|cf E rfl hF (fun hc3 hF=>?_) fun hc3 hF=>?_
 ·refine sg<|av E rfl fun a E=>aw E rfl fun a E=>wp_ret<|qaf ?_
  exact fin hF ⟨ok,E.d,⟨rv_t E rfl,rv_t E rfl,trivial⟩,(show ([]:List UInt8).length ≤ LIMS by decide),(ir 1)⟩
 refine wp_skip<|qaa<|sg<|lw E (qaX (ps:=[]) (qs:=[]) (cs:=[vi 0,vi 0]) qe7 qpp rfl trivial rfl) fun a E=>qbD (R:=qeA) (xo:=[.tmp 16]) (xs:=([(Span.mk 0 0)]:List (Span))) E ok qcv qe7 rfl ⟨⟨_,rfl,rfl,⟨rfl,(ir 0),(ir 0)⟩⟩,trivial⟩ rfl rfl rfl rfl fun c4 M5 a w E ok h6=>lw E (qaX (ps:=[(0,.const (vi 2)),(2,.const (vb true)),(3,.tmp 17)]) (qs:=[(0,[vi 2]),(2,[vb true]),(3,[c4])]) (cs:=[vi 2,vi 0,vb true,c4]) qdN qmK rfl ⟨rfl,rfl,rfl,⟨rfl,rfl,rfl,⟨rfl,(ORow.cells h6),rfl,trivial⟩⟩⟩ rfl) fun a E=>?_
 obtain ⟨m7,hle,ok,hfz⟩:=(ok.frs 0 rfl).freeze
 have h8:=ORow.froz qgv h6 hle hfz (by decide)
 have le_m0:=le_m0.trans hle
 have hl_0:=(mL qjf).up hle hl_0
 refine qbD (R:=qag) (xo:=[.tmp 18]) (xs:=([(Relation.mk 2 0 true ([(Span.mk 0 0)]:List (Span)))]:List (Relation))) E ok qbW qdN rfl ⟨⟨_,rfl,rfl,⟨_,rfl,(ir 2),(ir 0),h8⟩⟩,trivial⟩ rfl rfl rfl rfl fun c9 M10 a w E ok h11=>?_
 obtain ⟨m12,hle,ok,hfz⟩:=(ok.frs 0 rfl).freeze
 have h13:=ORow.froz qad h11 hle hfz (by decide)
 have le_m0:=le_m0.trans hle
 have hl_0:=(mL qjf).up hle hl_0
 have h8:=(mL qgv).up hle h8
 refine qbD (R:=(pL 4 qag)) (xo:=[.tmp 19]) (xs:=([([(Relation.mk 2 0 true ([(Span.mk 0 0)]:List (Span)))]:List (Relation))]:List (List (Relation)))) E ok qd8 qoW rfl ⟨⟨_,(qdh h13),rfl,h13⟩,trivial⟩ rfl rfl rfl rfl fun c14 M15 a w E ok h16=>aw E rfl fun a E=>wp_seq<|sg<|mv E rfl fun a E=>?_
 refine mv E rfl fun a E=>?_
 obtain ⟨r22,e23,hF⟩:=bnd hF
 obtain ⟨m17,hle19,ok18,hfz20⟩:=(ok.frs 0 rfl).freeze
 have h21:=ORow.froz (mL qad) h16 hle19 hfz20 (by decide)
 refine qah E qt2 rfl (qjC N _ ([([(Relation.mk 2 0 true ([(Span.mk 0 0)]:List (Span)))]:List (Relation))]:List (List (Relation))) h21 number_1 lnumber_1 e23 hG ok18) rfl rfl ?_
 rintro _ w ⟨⟨rfl,okz⟩,r24⟩
 replace ok:=(Ok.thawAt 0 rfl ok hle19 hfz20 okz)
 refine ⟨_,rfl,fun a E=>?_⟩
 refine mv E rfl fun a E=>lw E (qaj rfl rfl) fun a E=>lw E (qaj rfl rfl) fun a E=>av E rfl fun a E=>aw E rfl fun a E=>wp_seq ?_
 refine qab<|mv E rfl fun a E=>lw E (qaU rfl rfl) fun a E=>wn<|cf E rfl hF (fun hc25 hF=>?_) fun hc25 hF=>?_
 ·refine sg<|av E rfl fun a E=>aw E rfl fun a E=>wp_ret<|qaf ?_
  exact fin hF ⟨(ok.drop).down hb0 le_m0,E.d,⟨rv_t E rfl,rv_t E rfl,trivial⟩,(show ([]:List UInt8).length ≤ LIMS by decide),(ir 1)⟩
 refine wp_skip<|qaa<|wp_seq<|sg<|mv E rfl fun a E=>lv E ok (qaH qcX hl_0 rfl) fun a E=>mv E rfl fun a E=>?_
 refine wn<|wp_block ?_
 obtain ⟨o27,hL,hF⟩:=bnd hF
 refine qaG _ (fun (s:Int) a w=>Ok u m12 (M15 :: S) w ∧ Env 51 a [(1,vs number_1),(29,vl_0),(30,(vi (l_0.length:Int))),(31,vi s)] ∧ InR .i64 s) (fun (b:(Unit ⊕ ((List UInt8) × Int))) e a w=>(Sum.elim (fun b50=>e = (.exit 0) ∧ Ok u m12 (M15 :: S) w ∧ Env 51 a []) (fun b51=>e = .ret ∧ qk5 u m0 S b51 a w)) b) ?_ ?_ N _ a w hL ⟨ok,E.keep [1,29,30,31],(ir 0)⟩
 rotate_left
 ·intro e a w _ hO
  rcases o27 with o27 | o27
  rotate_left
  ·replace hF:=qa6 hF
   obtain ⟨rfl,hret⟩:=hO
   refine qaA<|qaf ?_
   exact fin hF hret
  replace hF:=qa9 hF
  obtain ⟨rfl,ok,E⟩:=hO
  refine qaJ<|qaa<|sg<|av E rfl fun a E=>aw E rfl fun a E=>?_
  refine wp_ret ?_
  exact fin hF ⟨(ok.drop).down hb0 le_m0,E.d,⟨rv_t E rfl,rv_t E rfl,trivial⟩,(show ([111,116,104,101,114]:List UInt8).length ≤ LIMS by decide),(ir 0)⟩
 rintro x_29 a w r ⟨ok,E,r30⟩ hF
 replace hF:qfp N l_0 number_1 x_29 = some r:=hF
 unfold qfp at hF
 refine sg<|lw E (qaF rfl rfl) fun a E=>wn<|wp_seq<|cf E rfl hF (fun hc31 hF=>?_) fun hc31 hF=>?_
 rotate_left
 ·refine wp_exit<|qaC ?_
  obtain rfl:=sj hF
  exact so (sl ⟨rfl,⟨ok,E.keep []⟩⟩)
 refine wp_skip<|qaa<|wp_seq<|wp_block<|sg ?_
 obtain ⟨x32,e33,hF⟩:=bnd hF
 obtain ⟨b34,o35,es36,hl37,rr38,at39,yy40⟩:=qaP qcX hl_0 e33 (P:=Tryz.prog) (X:=.tmp 29) (I:=.tmp 31) (kd:=.i64) (qak E rfl) (qak E rfl)
 obtain ⟨c42,rfl,l41,h43⟩:=rr38
 refine lv E ok (yy40 _ _) fun a E=>lv E ok (qao (cs:=[vs x32.Class,c42]) qle rfl rfl (qac.ro at39)) fun a E=>qaN E ok qiu rfl rfl fun b44 a w E ok=>qae E ok 0 rfl rfl rfl qmY rfl rfl ⟨rfl,(qid h43),trivial⟩ rfl rfl fun w ok=>wn<|sg ?_
 refine fv E qht rfl fun a E=>ld E ok qdu 0 rfl rfl rfl fun a E=>mv E rfl fun a E=>?_
 obtain ⟨r45,e46,hF⟩:=bnd hF
 refine qah E qt2 rfl (qjC N _ x32.Cond h43 number_1 lnumber_1 e46 hG ok) rfl rfl ?_
 rintro _ w ⟨⟨rfl,ok⟩,r47⟩
 refine ⟨_,rfl,fun a E=>?_⟩
 refine mv E rfl fun a E=>lw E (qaj rfl rfl) fun a E=>lw E (qaj rfl rfl) fun a E=>av E rfl fun a E=>aw E rfl fun a E=>wp_block ?_
 refine sg<|mv E rfl fun a E=>lw E (qaU rfl rfl) fun a E=>aw E rfl fun a E=>cf E rfl hF (fun hc48 hF=>?_) fun hc48 hF=>?_
 ·refine sg<|mv E rfl fun a E=>av E rfl fun a E=>aw E rfl fun a E=>wp_ret ?_
  refine qaA<|qaA<|qaf ?_
  obtain rfl:=sj hF
  exact so (sr ⟨rfl,⟨(ok.drop.drop).down hb0 le_m0,E.d,⟨rv_t E rfl,rv_t E rfl,trivial⟩,(show ([]:List UInt8).length ≤ LIMS by decide),r47⟩⟩)
 refine sg<|mv E rfl fun a E=>aw E rfl fun a E=>cf E rfl hF (fun hc49 hF=>?_) fun hc49 hF=>?_
 rotate_left
 ·refine wp_skip<|qal<|qal<|qaa<|qab<|lw E (qaD rfl rfl (InR.inc r30 (qai hl_0) hc31)) fun a E=>mv E rfl fun a E=>wpList_nil ?_
  obtain rfl:=sj hF
  exact qau ⟨(ok.pk 2 [1] rfl (by decide)),E.keep [1,29,30,31],(InR.inc r30 (qai hl_0) hc31)⟩
 refine sg<|fv E qgX rfl fun a E=>ld E ok qaM 0 rfl rfl rfl fun a E=>av E rfl fun a E=>aw E rfl fun a E=>?_
 refine wp_ret<|qaA<|qaA<|qaf ?_
 obtain rfl:=sj hF
 exact so (sr ⟨rfl,⟨(ok.drop.drop).down hb0 le_m0,E.d,⟨rv_t E rfl,rv_t E rfl,trivial⟩,l41,(ir 0)⟩⟩)
theorem qi2 {u:World} {m0:Mem} {S:Segs} {w:World} (N:Nat) (p0_0:List UInt8) (lp0_0:p0_0.length ≤ LIMS) (p1_1:Int) (rp1_1:InR .u8 p1_1) {r:Int} (hF:strings_IndexByte N p0_0 p1_1 = some r) (hG:Glob u) (ok:Ok u m0 S w) :
 Calls Tryz.prog 100 [vs p0_0,Value.int .u8 p1_1].toArray w fun e w'=>(e = .returned (.int .i64 r) ∧ Ok u m0 S w') ∧ InR .i64 r:=qpL Tryz.lays137 p0_0 p1_1 hF lp0_0 ok
def qki (u:World) (m0:Mem) (S:Segs) (pb0:Nat) (x0:Parser) (r:Parser) (a:Act) (w:World):Prop :=
 Ok u m0 ([(pb0,oc 88 [vs r.s,vi r.at_,vi r.relations,vi r.e])] :: S) w ∧ a.defers = [] ∧ RVs Tryz.prog a w [] ∧ r.s.length ≤ LIMS ∧ InR .i64 r.at_ ∧ InR .i64 r.relations ∧ InR .i64 r.e
theorem qh6 (N:Nat) {pb0:Nat} (x0:Parser) (l1:x0.s.length ≤ LIMS) (r2:InR .i64 x0.at_) (r3:InR .i64 x0.relations) (r4:InR .i64 x0.e) {r:Parser} (hF:qfk N x0 = some r) (hG:Glob u) (ok:Ok u m0 ([(pb0,oc 88 [vs x0.s,vi x0.at_,vi x0.relations,vi x0.e])] :: S) w) :
  Calls Tryz.prog 70 [vp pb0].toArray w fun e w'=>(e = .returned (.tuple [].toArray) ∧ Ok u m0 ([(pb0,oc 88 [vs r.s,vi r.at_,vi r.relations,vi r.e])] :: S) w') ∧ r.s.length ≤ LIMS ∧ InR .i64 r.at_ ∧ InR .i64 r.relations ∧ InR .i64 r.e:=by
 unfold qfk at hF
 refine en (qki u m0 S pb0 x0) r Tryz.func70 rfl rfl rfl (by rintro a w ⟨ok,hd,hrv,h0,h1,h2,h3⟩; exact qav [] hd rfl hrv ⟨⟨rfl,ok⟩,h0,h1,h2,h3⟩) fun fin a E=>wp_block ?_
 obtain ⟨o13,hL,hF⟩:=bnd hF
 refine qaG _ (fun (s:Parser) a w=>Ok u m0 ([(pb0,oc 88 [vs s.s,vi s.at_,vi s.relations,vi s.e])] :: S) w ∧ Env 32 a [(0,vp pb0)] ∧ s.s.length ≤ LIMS ∧ InR .i64 s.at_ ∧ InR .i64 s.relations ∧ InR .i64 s.e) (fun (b:Parser) e a w=>e = (.exit 0) ∧ Ok u m0 ([(pb0,oc 88 [vs b.s,vi b.at_,vi b.relations,vi b.e])] :: S) w ∧ Env 32 a [] ∧ b.s.length ≤ LIMS ∧ InR .i64 b.at_ ∧ InR .i64 b.relations ∧ InR .i64 b.e) ?_ ?_ N _ a w hL ⟨ok,E.keep [0],l1,r2,r3,r4⟩
 rotate_left
 ·intro e a w _ hO
  obtain ⟨rfl,ok,E,l30,r31,r32,r33⟩:=hO
  refine qaJ ?_
  exact fin hF ⟨ok,E.d,trivial,l30,r31,r32,r33⟩
 rintro x_18 a w r ⟨ok,E,l19,r20,r21,r22⟩ hF
 replace hF:qge N x_18 = some r:=hF
 unfold qge at hF
 refine wp_seq<|wp_seq<|qf7 (by kernel_rfl) (by kernel_rfl) ok<|qv E (qam rfl) fun a E=>qv E (qap rfl) fun a E=>qv E (qan qaW rfl) fun a E=>qv E (qat qaB rfl (qac.own 0 rfl rfl)) fun a E=>qv E (qam rfl) fun a E=>?_
 refine qv E (qap rfl) fun a E=>qv E (qan qo2 rfl) fun a E=>qv E (qat qaM rfl (qac.own 0 rfl rfl)) fun a E=>qv E (qaK Tryz.underlying9 rfl) fun a E=>qv E (qaF rfl rfl) fun a E=>qv E (qam rfl) fun a E=>qas (decide (x_18.at_ < (x_18.s.length:Int))) (fun hc23=>?_) (fun hc23=>?_)
 rotate_left
 ·replace hF:=qar hc23 hF
  replace E:=E.upd 12 hc23 rfl
  refine qs E fun a E=>qs E fun a E=>qs E fun a E=>qs E fun a E=>qs E fun a E=>qs E fun a E=>qs E fun a E=>qs E fun a E=>?_
  refine qs E fun a E=>qs E fun a E=>qs E fun a E=>qv E (qaZ rfl rfl) fun a E=>wpQuiet_nil ?_
  intro w ok
  refine qaa<|c_if E rfl (fun h=>by cases h) (fun _=>?_)
  refine wp_exit<|qaC ?_
  obtain rfl:=sj hF
  exact so (⟨rfl,⟨ok,E.keep [],l19,r20,r21,r22⟩⟩)
 replace hF:=qaq hc23 hF
 replace E:=E.upd 12 hc23 rfl
 refine qv E (qam rfl) fun a E=>qv E (qap rfl) fun a E=>qv E (qan qo2 rfl) fun a E=>qv E (qat qaM rfl (qac.own 0 rfl rfl)) fun a E=>qv E (qam rfl) fun a E=>qv E (qap rfl) fun a E=>qv E (qan qaW rfl) fun a E=>qv E (qat qaB rfl (qac.own 0 rfl rfl)) fun a E=>?_
 obtain ⟨c24,e25,hF⟩:=bnd hF
 refine qv E (qbt Tryz.underlying9 rfl rfl e25) fun a E=>?_
 obtain ⟨r26,e27,hF⟩:=bnd hF
 obtain ⟨_,_,⟨_,_⟩,r28⟩:=Go.X.Calls.get (qi2 N ([32,9,10]) (show ([32,9,10]:List UInt8).length ≤ LIMS by decide) (c24.toNat:Int) (InR.byte c24) e27 hG ok)
 refine qhp E qvx rfl (fun w ok=>(qi2 N ([32,9,10]) (show ([32,9,10]:List UInt8).length ≤ LIMS by decide) (c24.toNat:Int) (InR.byte c24) e27 hG ok).mono (fun _ _ h=>h.1)) rfl rfl fun a E=>qv E (qgg rfl rfl) fun a E=>qv E (qa4 rfl rfl) fun a E=>wpQuiet_nil ?_
 intro w ok
 refine qaa<|cf E rfl hF (fun hc29 hF=>?_) fun hc29 hF=>?_
 rotate_left
 ·refine wp_exit<|qaC ?_
  obtain rfl:=sj hF
  exact so (⟨rfl,⟨ok,E.keep [],l19,r20,r21,r22⟩⟩)
 refine wp_skip<|qaa<|wp_block<|qab<|mv E rfl fun a E=>lw E (qap rfl) fun a E=>fv E qaW rfl fun a E=>ld E ok qaB 0 rfl rfl rfl fun a E=>?_
 refine lw E (qaD rfl rfl (InR.inc r20 (InR.len l19) hc23)) fun a E=>lw E (qap rfl) fun a E=>fv E qaW rfl fun a E=>qae E ok 0 rfl rfl rfl qbU rfl rfl ⟨rfl,trivial⟩ rfl rfl fun w ok=>wpList_nil<|qal ?_
 obtain rfl:=sj hF
 exact qau ⟨ok,E.keep [0],l19,(InR.inc r20 (InR.len l19) hc23),r21,r22⟩
def qm6 (u:World) (m0:Mem) (S:Segs) (r:Bool) (a:Act) (w:World):Prop :=
 Ok u m0 S w ∧ a.defers = [] ∧ RVs Tryz.prog a w [.t 2 (.bool r)]
theorem qjj (N:Nat) (c_0:Int) (rc_0:InR .u8 c_0) {r:Bool} (hF:qhf N c_0 = some r) (hG:Glob u) (ok:Ok u m0 S w) :
  Calls Tryz.prog 122 [Value.int .u8 c_0].toArray w fun e w'=>(e = .returned (.bool r) ∧ Ok u m0 S w'):=by
 unfold qhf at hF
 refine en (qm6 u m0 S) r Tryz.func122 rfl rfl rfl (by rintro a w ⟨ok,hd,hrv⟩; exact qav [.t 2 (.bool r)] hd rfl hrv ⟨rfl,ok⟩) fun fin a E=>sg<|aw E rfl fun a E=>sg ?_
 refine mv E rfl fun a E=>lw E (qgg rfl rfl) fun a E=>mv E rfl fun a E=>qas (decide (c_0 ≥ 97)) (fun hc1=>?_) (fun hc1=>?_)
 ·replace hF:=qaq hc1 hF
  replace E:=E.upd 5 hc1 rfl
  refine mv E rfl fun a E=>lw E (qgV rfl rfl) fun a E=>pt E rfl rfl fun a E=>aw E rfl fun a E=>wp_ret ?_
  exact fin hF ⟨ok,E.d,⟨rv_t E rfl,trivial⟩⟩
 replace hF:=qar hc1 hF
 replace E:=E.upd 5 hc1 rfl
 refine ls E fun a E=>ls E fun a E=>pf E rfl rfl fun a E=>aw E rfl fun a E=>wp_ret ?_
 exact fin hF ⟨ok,E.d,⟨rv_t E rfl,trivial⟩⟩
def qlP (u:World) (m0:Mem) (S:Segs) (r:(List UInt8)) (a:Act) (w:World):Prop :=
 Ok u m0 S w ∧ a.defers = [] ∧ RVs Tryz.prog a w [.t 4 (.string (bs r))] ∧ r.length ≤ LIMS
theorem qlo (N:Nat) (s_0:List UInt8) (ls_0:s_0.length ≤ LIMS) {r:(List UInt8)} (hF:qhS N s_0 = some r) (hG:Glob u) (ok:Ok u m0 S w) :
  Calls Tryz.prog 123 [vs s_0,.func (.func 122) #[] #[]].toArray w fun e w'=>(e = .returned (.string (bs r)) ∧ Ok u m0 S w') ∧ r.length ≤ LIMS:=by
 unfold qhS at hF
 refine en (qlP u m0 S) r Tryz.func123 rfl rfl rfl (by rintro a w ⟨ok,hd,hrv,h0⟩; exact qav [.t 4 (.string (bs r))] hd rfl hrv ⟨⟨rfl,ok⟩,h0⟩) fun fin a E=>sg<|aw E rfl fun a E=>sg ?_
 refine aw E rfl fun a E=>wp_seq<|wp_block ?_
 obtain ⟨o2,hL,hF⟩:=bnd hF
 refine qaG _ (fun (s:Int) a w=>Ok u m0 (S) w ∧ Env 22 a [(0,vs s_0),(1,(Value.func (.func 122) #[] #[])),(5,vi s)] ∧ InR .i64 s) (fun (b:Int) e a w=>e = (.exit 0) ∧ Ok u m0 (S) w ∧ Env 22 a [(0,vs s_0),(5,vi b)] ∧ InR .i64 b) ?_ ?_ N _ a w hL ⟨ok,E.keep [0,1,5],(ir 0)⟩
 rotate_left
 ·intro e a w _ hO
  obtain ⟨rfl,ok,E,r12⟩:=hO
  refine qaJ<|qaa<|sg<|mv E rfl fun a E=>mv E rfl fun a E=>?_
  obtain ⟨s13,e14,hF⟩:=bnd hF
  refine lw E (qgd Tryz.underlying9 e14 rfl rfl ⟨_,rfl⟩) fun a E=>aw E rfl fun a E=>wp_ret ?_
  exact fin hF ⟨ok,E.d,⟨rv_t E rfl,trivial⟩,(Nat.le_trans (qeY e14) ls_0)⟩
 rintro n_4 a w r ⟨ok,E,r5⟩ hF
 replace hF:qg8 N s_0 n_4 = some r:=hF
 unfold qg8 at hF
 refine wp_seq<|sg<|mv E rfl fun a E=>mv E rfl fun a E=>lw E (qaK Tryz.underlying9 rfl) fun a E=>lw E (qaF rfl rfl) fun a E=>mv E rfl fun a E=>?_
 refine qas (decide (n_4 < (s_0.length:Int))) (fun hc6=>?_) (fun hc6=>?_)
 rotate_left
 ·replace hF:=qar hc6 hF
  replace E:=E.upd 10 hc6 rfl
  refine ls E fun a E=>ls E fun a E=>ls E fun a E=>ls E fun a E=>ls E fun a E=>pf E rfl rfl fun a E=>wn ?_
  refine c_if E rfl (fun h=>by cases h) (fun _=>?_)
  refine wp_exit<|qaC ?_
  obtain rfl:=sj hF
  exact so (⟨rfl,⟨ok,E.keep [0,5],r5⟩⟩)
 replace hF:=qaq hc6 hF
 replace E:=E.upd 10 hc6 rfl
 refine mv E rfl fun a E=>mv E rfl fun a E=>mv E rfl fun a E=>?_
 obtain ⟨c7,e8,hF⟩:=bnd hF
 refine lv E ok (qbt Tryz.underlying9 rfl rfl e8) fun a E=>?_
 obtain ⟨r9,e10,hF⟩:=bnd hF
 refine qjT E rfl qsF rfl (qjj N (c7.toNat:Int) (InR.byte c7) e10 hG ok) rfl rfl ?_
 rintro _ w ⟨rfl,ok⟩
 refine ⟨_,rfl,fun a E=>?_⟩
 refine pt E rfl rfl fun a E=>wn<|cf E rfl hF (fun hc11 hF=>?_) fun hc11 hF=>?_
 rotate_left
 ·refine wp_exit<|qaC ?_
  obtain rfl:=sj hF
  exact so (⟨rfl,⟨ok,E.keep [0,5],r5⟩⟩)
 refine wp_skip<|qaa<|wp_block<|qab<|mv E rfl fun a E=>lw E (qaD rfl rfl (InR.inc r5 (InR.len ls_0) hc6)) fun a E=>av E rfl fun a E=>wpList_nil ?_
 refine qal ?_
 obtain rfl:=sj hF
 exact qau ⟨ok,E.keep [0,1,5],(InR.inc r5 (InR.len ls_0) hc6)⟩
def qnD (u:World) (m0:Mem) (S:Segs) (r:Bool) (a:Act) (w:World):Prop :=
 Ok u m0 S w ∧ a.defers = [] ∧ RVs Tryz.prog a w [.t 2 (.bool r)]
theorem qfK (N:Nat) (c_0:Int) (rc_0:InR .u8 c_0) {r:Bool} (hF:qeI N c_0 = some r) (hG:Glob u) (ok:Ok u m0 S w) :
  Calls Tryz.prog 124 [Value.int .u8 c_0].toArray w fun e w'=>(e = .returned (.bool r) ∧ Ok u m0 S w'):=by
 unfold qeI at hF
 refine en (qnD u m0 S) r Tryz.func124 rfl rfl rfl (by rintro a w ⟨ok,hd,hrv⟩; exact qav [.t 2 (.bool r)] hd rfl hrv ⟨rfl,ok⟩) fun fin a E=>sg<|aw E rfl fun a E=>sg ?_
 refine mv E rfl fun a E=>lw E (qgg rfl rfl) fun a E=>mv E rfl fun a E=>qas (decide (c_0 ≥ 48)) (fun hc1=>?_) (fun hc1=>?_)
 ·replace hF:=qaq hc1 hF
  replace E:=E.upd 5 hc1 rfl
  refine mv E rfl fun a E=>lw E (qgV rfl rfl) fun a E=>pt E rfl rfl fun a E=>aw E rfl fun a E=>wp_ret ?_
  exact fin hF ⟨ok,E.d,⟨rv_t E rfl,trivial⟩⟩
 replace hF:=qar hc1 hF
 replace E:=E.upd 5 hc1 rfl
 refine ls E fun a E=>ls E fun a E=>pf E rfl rfl fun a E=>aw E rfl fun a E=>wp_ret ?_
 exact fin hF ⟨ok,E.d,⟨rv_t E rfl,trivial⟩⟩
def qlQ (u:World) (m0:Mem) (S:Segs) (r:(List UInt8)) (a:Act) (w:World):Prop :=
 Ok u m0 S w ∧ a.defers = [] ∧ RVs Tryz.prog a w [.t 4 (.string (bs r))] ∧ r.length ≤ LIMS
theorem qlF (N:Nat) (s_0:List UInt8) (ls_0:s_0.length ≤ LIMS) {r:(List UInt8)} (hF:qhY N s_0 = some r) (hG:Glob u) (ok:Ok u m0 S w) :
  Calls Tryz.prog 123 [vs s_0,.func (.func 124) #[] #[]].toArray w fun e w'=>(e = .returned (.string (bs r)) ∧ Ok u m0 S w') ∧ r.length ≤ LIMS:=by
 unfold qhY at hF
 refine en (qlQ u m0 S) r Tryz.func123 rfl rfl rfl (by rintro a w ⟨ok,hd,hrv,h0⟩; exact qav [.t 4 (.string (bs r))] hd rfl hrv ⟨⟨rfl,ok⟩,h0⟩) fun fin a E=>sg<|aw E rfl fun a E=>sg ?_
 refine aw E rfl fun a E=>wp_seq<|wp_block ?_
 obtain ⟨o2,hL,hF⟩:=bnd hF
 refine qaG _ (fun (s:Int) a w=>Ok u m0 (S) w ∧ Env 22 a [(0,vs s_0),(1,(Value.func (.func 124) #[] #[])),(5,vi s)] ∧ InR .i64 s) (fun (b:Int) e a w=>e = (.exit 0) ∧ Ok u m0 (S) w ∧ Env 22 a [(0,vs s_0),(5,vi b)] ∧ InR .i64 b) ?_ ?_ N _ a w hL ⟨ok,E.keep [0,1,5],(ir 0)⟩
 rotate_left
 ·intro e a w _ hO
  obtain ⟨rfl,ok,E,r12⟩:=hO
  refine qaJ<|qaa<|sg<|mv E rfl fun a E=>mv E rfl fun a E=>?_
  obtain ⟨s13,e14,hF⟩:=bnd hF
  refine lw E (qgd Tryz.underlying9 e14 rfl rfl ⟨_,rfl⟩) fun a E=>aw E rfl fun a E=>wp_ret ?_
  exact fin hF ⟨ok,E.d,⟨rv_t E rfl,trivial⟩,(Nat.le_trans (qeY e14) ls_0)⟩
 rintro n_4 a w r ⟨ok,E,r5⟩ hF
 replace hF:qgY N s_0 n_4 = some r:=hF
 unfold qgY at hF
 refine wp_seq<|sg<|mv E rfl fun a E=>mv E rfl fun a E=>lw E (qaK Tryz.underlying9 rfl) fun a E=>lw E (qaF rfl rfl) fun a E=>mv E rfl fun a E=>?_
 refine qas (decide (n_4 < (s_0.length:Int))) (fun hc6=>?_) (fun hc6=>?_)
 rotate_left
 ·replace hF:=qar hc6 hF
  replace E:=E.upd 10 hc6 rfl
  refine ls E fun a E=>ls E fun a E=>ls E fun a E=>ls E fun a E=>ls E fun a E=>pf E rfl rfl fun a E=>wn ?_
  refine c_if E rfl (fun h=>by cases h) (fun _=>?_)
  refine wp_exit<|qaC ?_
  obtain rfl:=sj hF
  exact so (⟨rfl,⟨ok,E.keep [0,5],r5⟩⟩)
 replace hF:=qaq hc6 hF
 replace E:=E.upd 10 hc6 rfl
 refine mv E rfl fun a E=>mv E rfl fun a E=>mv E rfl fun a E=>?_
 obtain ⟨c7,e8,hF⟩:=bnd hF
 refine lv E ok (qbt Tryz.underlying9 rfl rfl e8) fun a E=>?_
 obtain ⟨r9,e10,hF⟩:=bnd hF
 refine qjT E rfl qmH rfl (qfK N (c7.toNat:Int) (InR.byte c7) e10 hG ok) rfl rfl ?_
 rintro _ w ⟨rfl,ok⟩
 refine ⟨_,rfl,fun a E=>?_⟩
 refine pt E rfl rfl fun a E=>wn<|cf E rfl hF (fun hc11 hF=>?_) fun hc11 hF=>?_
 rotate_left
 ·refine wp_exit<|qaC ?_
  obtain rfl:=sj hF
  exact so (⟨rfl,⟨ok,E.keep [0,5],r5⟩⟩)
 refine wp_skip<|qaa<|wp_block<|qab<|mv E rfl fun a E=>lw E (qaD rfl rfl (InR.inc r5 (InR.len ls_0) hc6)) fun a E=>av E rfl fun a E=>wpList_nil ?_
 refine qal ?_
 obtain rfl:=sj hF
 exact qau ⟨ok,E.keep [0,1,5],(InR.inc r5 (InR.len ls_0) hc6)⟩
theorem ql6 {u:World} {m0:Mem} {S:Segs} {w:World} (N:Nat) (p0_0:List UInt8) (lp0_0:p0_0.length ≤ LIMS) (p1_1:List UInt8) (lp1_1:p1_1.length ≤ LIMS) {r:Bool} (hF:strings_HasPrefix N p0_0 p1_1 = some r) (hG:Glob u) (ok:Ok u m0 S w) :
 Calls Tryz.prog 125 [vs p0_0,vs p1_1].toArray w fun e w'=>(e = .returned (.bool r) ∧ Ok u m0 S w'):=qpV Tryz.lays99 p0_0 p1_1 hF ok
def qh5 (u:World) (m0:Mem) (S:Segs) (pb0:Nat) (x0:Parser) (r:(List UInt8) × Parser) (a:Act) (w:World):Prop :=
 Ok u m0 ([(pb0,oc 88 [vs r.2.s,vi r.2.at_,vi r.2.relations,vi r.2.e])] :: S) w ∧ a.defers = [] ∧ RVs Tryz.prog a w [.t 2 (.string (bs r.1))] ∧ r.1.length ≤ LIMS ∧ r.2.s.length ≤ LIMS ∧ InR .i64 r.2.at_ ∧ InR .i64 r.2.relations ∧ InR .i64 r.2.e
theorem qc3 (N:Nat) {pb0:Nat} (x0:Parser) (l1:x0.s.length ≤ LIMS) (r2:InR .i64 x0.at_) (r3:InR .i64 x0.relations) (r4:InR .i64 x0.e) {r:(List UInt8) × Parser} (hF:qco N x0 = some r) (hG:Glob u) (ok:Ok u m0 ([(pb0,oc 88 [vs x0.s,vi x0.at_,vi x0.relations,vi x0.e])] :: S) w) :
  Calls Tryz.prog 94 [vp pb0].toArray w fun e w'=>(e = .returned (.string (bs r.1)) ∧ Ok u m0 ([(pb0,oc 88 [vs r.2.s,vi r.2.at_,vi r.2.relations,vi r.2.e])] :: S) w') ∧ r.1.length ≤ LIMS ∧ r.2.s.length ≤ LIMS ∧ InR .i64 r.2.at_ ∧ InR .i64 r.2.relations ∧ InR .i64 r.2.e:=by
 unfold qco at hF
 refine en (qh5 u m0 S pb0 x0) r Tryz.func94 rfl rfl rfl (by rintro a w ⟨ok,hd,hrv,h0,h1,h2,h3,h4⟩; exact qav [.t 2 (.string (bs r.1))] hd rfl hrv ⟨⟨rfl,ok⟩,h0,h1,h2,h3,h4⟩) fun fin a E=>sg<|aw E rfl fun a E=>sg ?_
 refine mv E rfl fun a E=>?_
 obtain ⟨r9,e10,hF⟩:=bnd hF
 refine qah E qt8 rfl (qh6 N x0 l1 r2 r3 r4 e10 hG ok) rfl rfl ?_
 rintro _ w ⟨⟨rfl,ok⟩,l11,r12,r13,r14⟩
 refine ⟨_,rfl,fun a E=>?_⟩
 refine wn<|wp_seq<|qf7 (by kernel_rfl) (by kernel_rfl) ok<|qv E (qam rfl) fun a E=>qv E (qap rfl) fun a E=>qv E (qan qo2 rfl) fun a E=>qv E (qat qaM rfl (qac.own 0 rfl rfl)) fun a E=>?_
 refine qv E (qam rfl) fun a E=>qv E (qap rfl) fun a E=>qv E (qan qaW rfl) fun a E=>qv E (qat qaB rfl (qac.own 0 rfl rfl)) fun a E=>?_
 obtain ⟨s15,e16,hF⟩:=bnd hF
 refine qv E (qgd Tryz.underlying9 e16 rfl ⟨_,rfl⟩ rfl) fun a E=>qv E (qbG rfl) fun a E=>wpQuiet_nil ?_
 intro w ok
 refine qaa<|wp_seq<|wp_block<|sg<|mv E rfl fun a E=>lw E (qer rfl rfl) fun a E=>av E rfl fun a E=>?_
 refine wn<|cf E rfl hF (fun hc17 hF=>?_) fun hc17 hF=>?_
 ·refine sg<|aw E rfl fun a E=>wp_ret<|qaA<|qaf ?_
  exact fin hF ⟨ok,E.d,⟨rv_t E rfl,trivial⟩,(show ([]:List UInt8).length ≤ LIMS by decide),l11,r12,r13,r14⟩
 refine sg<|mv E rfl fun a E=>?_
 obtain ⟨c18,e19,hF⟩:=bnd hF
 refine lv E ok (qbt Tryz.underlying9 rfl rfl e19) fun a E=>?_
 obtain ⟨r20,e21,hF⟩:=bnd hF
 refine lc E qsF rfl (qjj N (c18.toNat:Int) (InR.byte c18) e21 hG ok) fun w ok a E=>aw E rfl fun a E=>cf E rfl hF (fun hc22 hF=>?_) fun hc22 hF=>?_
 ·refine sg<|mv E rfl fun a E=>?_
  obtain ⟨r23,e24,hF⟩:=bnd hF
  refine qah E qss rfl (qlo N s15 (Nat.le_trans (qeY e16) l11) e24 hG ok) rfl rfl ?_
  rintro _ w ⟨⟨rfl,ok⟩,l25⟩
  refine ⟨_,rfl,fun a E=>?_⟩
  refine aw E rfl fun a E=>wp_ret<|qaA<|qaf ?_
  exact fin hF ⟨ok,E.d,⟨rv_t E rfl,trivial⟩,l25,l11,r12,r13,r14⟩
 refine sg<|mv E rfl fun a E=>?_
 obtain ⟨c26,e27,hF⟩:=bnd hF
 refine lv E ok (qbt Tryz.underlying9 rfl rfl e27) fun a E=>?_
 obtain ⟨r28,e29,hF⟩:=bnd hF
 refine lc E qmH rfl (qfK N (c26.toNat:Int) (InR.byte c26) e29 hG ok) fun w ok a E=>aw E rfl fun a E=>cf E rfl hF (fun hc30 hF=>?_) fun hc30 hF=>?_
 ·refine sg<|mv E rfl fun a E=>?_
  obtain ⟨r31,e32,hF⟩:=bnd hF
  refine qah E qss rfl (qlF N s15 (Nat.le_trans (qeY e16) l11) e32 hG ok) rfl rfl ?_
  rintro _ w ⟨⟨rfl,ok⟩,l33⟩
  refine ⟨_,rfl,fun a E=>?_⟩
  refine aw E rfl fun a E=>wp_ret<|qaA<|qaf ?_
  exact fin hF ⟨ok,E.d,⟨rv_t E rfl,trivial⟩,l33,l11,r12,r13,r14⟩
 refine wp_skip<|qal<|qaa<|wp_seq<|sg<|qbD (R:=pS) (xo:=[.const (vs ([46,46])),.const (vs ([33,61])),.const (vs ([37])),.const (vs ([61])),.const (vs ([44]))]) (xs:=([[46,46],[33,61],[37],[61],[44]]:List (List UInt8))) E ok qcd qew rfl ⟨⟨_,rfl,rfl,(qde (show ([46,46]:List UInt8).length ≤ LIMS by decide))⟩,⟨_,rfl,rfl,(qde (show ([33,61]:List UInt8).length ≤ LIMS by decide))⟩,⟨_,rfl,rfl,(qde (show ([37]:List UInt8).length ≤ LIMS by decide))⟩,⟨_,rfl,rfl,(qde (show ([61]:List UInt8).length ≤ LIMS by decide))⟩,⟨_,rfl,rfl,(qde (show ([44]:List UInt8).length ≤ LIMS by decide))⟩,trivial⟩ rfl rfl rfl rfl fun c34 M35 a w E ok h36=>lv E ok (qhQ qcd h36 rfl) fun a E=>?_
 refine mv E rfl fun a E=>wn<|wp_block ?_
 obtain ⟨o38,hL,hF⟩:=bnd hF
 refine qaG _ (fun (s:Int) a w=>Ok u m0 (M35 :: [(pb0,oc 88 [vs r9.s,vi r9.at_,vi r9.relations,vi r9.e])] :: S) w ∧ Env 43 a [(3,vs s15),(32,c34),(33,(vi (([[46,46],[33,61],[37],[61],[44]]:List (List UInt8)).length:Int))),(34,vi s)] ∧ InR .i64 s) (fun (b:(Unit ⊕ ((List UInt8) × Parser))) e a w=>(Sum.elim (fun b57=>e = (.exit 1) ∧ Ok u m0 (M35 :: [(pb0,oc 88 [vs r9.s,vi r9.at_,vi r9.relations,vi r9.e])] :: S) w ∧ Env 43 a []) (fun b58=>e = .ret ∧ qh5 u m0 S pb0 x0 b58 a w)) b) ?_ ?_ N _ a w hL ⟨ok,E.keep [3,32,33,34],(ir 0)⟩
 rotate_left
 ·intro e a w _ hO
  rcases o38 with o38 | o38
  rotate_left
  ·replace hF:=qa6 hF
   obtain ⟨rfl,hret⟩:=hO
   refine qaA<|qaf ?_
   exact fin hF hret
  replace hF:=qa9 hF
  obtain ⟨rfl,ok,E⟩:=hO
  refine qaJ<|qaa<|sg<|aw E rfl fun a E=>wp_ret ?_
  exact fin hF ⟨ok.drop,E.d,⟨rv_t E rfl,trivial⟩,(show ([]:List UInt8).length ≤ LIMS by decide),l11,r12,r13,r14⟩
 rintro x_40 a w r ⟨ok,E,r41⟩ hF
 replace hF:qf9 N r9 s15 x_40 = some r:=hF
 unfold qf9 at hF
 refine sg<|lw E (qaF rfl rfl) fun a E=>wn<|wp_seq<|cf E rfl hF (fun hc42 hF=>?_) fun hc42 hF=>?_
 rotate_left
 ·refine wp_exit<|qaC ?_
  obtain rfl:=sj hF
  exact so (sl ⟨rfl,⟨ok,E.keep []⟩⟩)
 refine wp_skip<|qaa<|wp_seq<|wp_block<|sg ?_
 obtain ⟨x43,e44,hF⟩:=bnd hF
 obtain ⟨b45,o46,hp47,yy48⟩:=qdY qcd h36 e44 (P:=Tryz.prog) (X:=.tmp 32) (I:=.tmp 34) (kd:=.i64) (qak E rfl) (qak E rfl)
 refine lv E ok (yy48 _ _) fun a E=>?_
 obtain ⟨es49,hl50,rr51,hh52⟩:=qgp h36 e44 hp47 (by decide)
 obtain ⟨rfl,l53⟩:=rr51
 refine lv E ok (qat qaM rfl (hh52 _ _ _ 0 rfl)) fun a E=>aw E rfl fun a E=>sg<|mv E rfl fun a E=>mv E rfl fun a E=>?_
 obtain ⟨r54,e55,hF⟩:=bnd hF
 refine lc E qvi rfl (ql6 N s15 (Nat.le_trans (qeY e16) l11) x43 l53 e55 hG ok) fun w ok a E=>wn<|cf E rfl hF (fun hc56 hF=>?_) fun hc56 hF=>?_
 rotate_left
 ·refine wp_skip<|qal<|qaa<|qab<|lw E (qaD rfl rfl (InR.inc r41 (ORow.InR h36) hc42)) fun a E=>mv E rfl fun a E=>wpList_nil ?_
  obtain rfl:=sj hF
  exact qau ⟨ok,E.keep [3,32,33,34],(InR.inc r41 (ORow.InR h36) hc42)⟩
 refine sg<|mv E rfl fun a E=>aw E rfl fun a E=>wp_ret<|qaA ?_
 refine qaf ?_
 obtain rfl:=sj hF
 exact so (sr ⟨rfl,⟨ok.drop,E.d,⟨rv_t E rfl,trivial⟩,l53,l11,r12,r13,r14⟩⟩)
def qkj (u:World) (m0:Mem) (S:Segs) (pb0:Nat) (x0:Parser) (r:Bool × Parser) (a:Act) (w:World):Prop :=
 Ok u m0 ([(pb0,oc 88 [vs r.2.s,vi r.2.at_,vi r.2.relations,vi r.2.e])] :: S) w ∧ a.defers = [] ∧ RVs Tryz.prog a w [.t 4 (.bool r.1)] ∧ r.2.s.length ≤ LIMS ∧ InR .i64 r.2.at_ ∧ InR .i64 r.2.relations ∧ InR .i64 r.2.e
theorem qcr (N:Nat) (t_1:List UInt8) (lt_1:t_1.length ≤ LIMS) {pb0:Nat} (x0:Parser) (l1:x0.s.length ≤ LIMS) (r2:InR .i64 x0.at_) (r3:InR .i64 x0.relations) (r4:InR .i64 x0.e) {r:Bool × Parser} (hF:qbR N t_1 x0 = some r) (hG:Glob u) (ok:Ok u m0 ([(pb0,oc 88 [vs x0.s,vi x0.at_,vi x0.relations,vi x0.e])] :: S) w) :
  Calls Tryz.prog 68 [vp pb0,vs t_1].toArray w fun e w'=>(e = .returned (.bool r.1) ∧ Ok u m0 ([(pb0,oc 88 [vs r.2.s,vi r.2.at_,vi r.2.relations,vi r.2.e])] :: S) w') ∧ r.2.s.length ≤ LIMS ∧ InR .i64 r.2.at_ ∧ InR .i64 r.2.relations ∧ InR .i64 r.2.e:=by
 unfold qbR at hF
 refine en (qkj u m0 S pb0 x0) r Tryz.func68 rfl rfl rfl (by rintro a w ⟨ok,hd,hrv,h0,h1,h2,h3⟩; exact qav [.t 4 (.bool r.1)] hd rfl hrv ⟨⟨rfl,ok⟩,h0,h1,h2,h3⟩) fun fin a E=>sg<|aw E rfl fun a E=>wp_seq<|wp_seq ?_
 refine qab<|mv E rfl fun a E=>lw E (qap rfl) fun a E=>fv E qcc rfl fun a E=>ld E ok qc1 0 rfl rfl rfl fun a E=>lw E (qaU rfl rfl) fun a E=>mv E rfl fun a E=>qas (x0.e != 0) (fun hc9=>?_) (fun hc9=>?_)
 ·replace hF:=qaq hc9 hF
  replace E:=E.upd 10 hc9 rfl
  refine ls E fun a E=>ls E fun a E=>ls E fun a E=>ls E fun a E=>pt E rfl rfl fun a E=>wn<|c_if E rfl (fun _=>?_) (fun h=>by cases h)
  refine sg<|aw E rfl fun a E=>wp_ret<|qaf ?_
  exact fin hF ⟨ok,E.d,⟨rv_t E rfl,trivial⟩,l1,r2,r3,r4⟩
 replace hF:=qar hc9 hF
 replace E:=E.upd 10 hc9 rfl
 refine mv E rfl fun a E=>?_
 obtain ⟨r10,e11,hF⟩:=bnd hF
 refine qah E qnl rfl (qc3 N x0 l1 r2 r3 r4 e11 hG ok) rfl rfl ?_
 rintro _ w ⟨⟨rfl,ok⟩,l12,l13,r14,r15,r16⟩
 refine ⟨_,rfl,fun a E=>?_⟩
 refine mv E rfl fun a E=>lw E (qif rfl rfl) fun a E=>pf E rfl rfl fun a E=>wn<|cf E rfl hF (fun hc17 hF=>?_) fun hc17 hF=>?_
 ·refine sg<|aw E rfl fun a E=>wp_ret<|qaf ?_
  exact fin hF ⟨ok,E.d,⟨rv_t E rfl,trivial⟩,l13,r14,r15,r16⟩
 refine wp_skip<|qaa<|sg<|mv E rfl fun a E=>lw E (qap rfl) fun a E=>fv E qaW rfl fun a E=>ld E ok qaB 0 rfl rfl rfl fun a E=>?_
 refine mv E rfl fun a E=>lw E (qaK Tryz.underlying9 rfl) fun a E=>lw E (qbi rfl rfl) fun a E=>lw E (qap rfl) fun a E=>fv E qaW rfl fun a E=>qae E ok 0 rfl rfl rfl qbU rfl rfl ⟨rfl,trivial⟩ rfl rfl fun w ok=>wn ?_
 refine sg<|aw E rfl fun a E=>wp_ret ?_
 exact fin hF ⟨ok,E.d,⟨rv_t E rfl,trivial⟩,l13,(InR.wrap _ _),r15,r16⟩
def qkk (u:World) (m0:Mem) (S:Segs) (pb0:Nat) (x0:Parser) (r:Parser) (a:Act) (w:World):Prop :=
 Ok u m0 ([(pb0,oc 88 [vs r.s,vi r.at_,vi r.relations,vi r.e])] :: S) w ∧ a.defers = [] ∧ RVs Tryz.prog a w [] ∧ r.s.length ≤ LIMS ∧ InR .i64 r.at_ ∧ InR .i64 r.relations ∧ InR .i64 r.e
theorem qaw (N:Nat) (e_1:Int) (re_1:InR .i64 e_1) {pb0:Nat} (x0:Parser) (l1:x0.s.length ≤ LIMS) (r2:InR .i64 x0.at_) (r3:InR .i64 x0.relations) (r4:InR .i64 x0.e) {r:Parser} (hF:qay N e_1 x0 = some r) (hG:Glob u) (ok:Ok u m0 ([(pb0,oc 88 [vs x0.s,vi x0.at_,vi x0.relations,vi x0.e])] :: S) w) :
  Calls Tryz.prog 71 [vp pb0,vi e_1].toArray w fun e w'=>(e = .returned (.tuple [].toArray) ∧ Ok u m0 ([(pb0,oc 88 [vs r.s,vi r.at_,vi r.relations,vi r.e])] :: S) w') ∧ r.s.length ≤ LIMS ∧ InR .i64 r.at_ ∧ InR .i64 r.relations ∧ InR .i64 r.e:=by
 unfold qay at hF
 refine en (qkk u m0 S pb0 x0) r Tryz.func71 rfl rfl rfl (by rintro a w ⟨ok,hd,hrv,h0,h1,h2,h3⟩; exact qav [] hd rfl hrv ⟨⟨rfl,ok⟩,h0,h1,h2,h3⟩) fun fin a E=>sg<|mv E rfl fun a E=>lw E (qap rfl) fun a E=>fv E qcc rfl fun a E=>ld E ok qc1 0 rfl rfl rfl fun a E=>lw E (qaI rfl rfl) fun a E=>?_
 refine wn<|cf E rfl hF (fun hc9 hF=>?_) fun hc9 hF=>?_
 rotate_left
 ·refine wp_skip ?_
  exact fin hF ⟨ok,E.d,trivial,l1,r2,r3,r4⟩
 refine qab<|mv E rfl fun a E=>mv E rfl fun a E=>lw E (qap rfl) fun a E=>fv E qcc rfl fun a E=>qae E ok 0 rfl rfl rfl qvJ rfl rfl ⟨rfl,trivial⟩ rfl rfl fun w ok=>wpList_nil ?_
 exact fin hF ⟨ok,E.d,trivial,l1,r2,r3,re_1⟩
theorem qow (N:Nat) (p0_0:List UInt8) (lp0_0:p0_0.length ≤ LIMS) (p1_1:List UInt8) (lp1_1:p1_1.length ≤ LIMS) {r:Int} (hF:strings_Index N p0_0 p1_1 = some r) (hG:Glob u) (ok:Ok u m0 S w) :
  Calls Tryz.prog 95 [vs p0_0,vs p1_1].toArray w fun e w'=>(e = .returned (.int .i64 r) ∧ Ok u m0 S w') ∧ InR .i64 r:=by
 obtain ⟨mx,hmx⟩:=hG
 exact qte Tryz.lays143 hmx p0_0 p1_1 hF ok
def qkf (u:World) (m0:Mem) (S:Segs) (pb0:Nat) (x0:Parser) (r:(List UInt8) × Parser) (a:Act) (w:World):Prop :=
 Ok u m0 ([(pb0,oc 88 [vs r.2.s,vi r.2.at_,vi r.2.relations,vi r.2.e])] :: S) w ∧ a.defers = [] ∧ RVs Tryz.prog a w [.t 4 (.string (bs r.1))] ∧ r.1.length ≤ LIMS ∧ r.2.s.length ≤ LIMS ∧ InR .i64 r.2.at_ ∧ InR .i64 r.2.relations ∧ InR .i64 r.2.e
theorem qeO (N:Nat) (vl_1:Value) (l_1:List (List UInt8)) (hl_1:(pL 1 pS) m0 [vl_1] l_1) {pb0:Nat} (x0:Parser) (l1:x0.s.length ≤ LIMS) (r2:InR .i64 x0.at_) (r3:InR .i64 x0.relations) (r4:InR .i64 x0.e) {r:(List UInt8) × Parser} (hF:qdA N l_1 x0 = some r) (hG:Glob u) (ok:Ok u m0 ([(pb0,oc 88 [vs x0.s,vi x0.at_,vi x0.relations,vi x0.e])] :: S) w) :
  Calls Tryz.prog 96 [vp pb0,vl_1].toArray w fun e w'=>(e = .returned (.string (bs r.1)) ∧ Ok u m0 ([(pb0,oc 88 [vs r.2.s,vi r.2.at_,vi r.2.relations,vi r.2.e])] :: S) w') ∧ r.1.length ≤ LIMS ∧ r.2.s.length ≤ LIMS ∧ InR .i64 r.2.at_ ∧ InR .i64 r.2.relations ∧ InR .i64 r.2.e:=by
 unfold qdA at hF
 refine en (qkf u m0 S pb0 x0) r Tryz.func96 rfl rfl rfl (by rintro a w ⟨ok,hd,hrv,h0,h1,h2,h3,h4⟩; exact qav [.t 4 (.string (bs r.1))] hd rfl hrv ⟨⟨rfl,ok⟩,h0,h1,h2,h3,h4⟩) fun fin a E=>sg<|aw E rfl fun a E=>sg ?_
 refine mv E rfl fun a E=>?_
 obtain ⟨r9,e10,hF⟩:=bnd hF
 refine qah E qnl rfl (qc3 N x0 l1 r2 r3 r4 e10 hG ok) rfl rfl ?_
 rintro _ w ⟨⟨rfl,ok⟩,l11,l12,r13,r14,r15⟩
 refine ⟨_,rfl,fun a E=>?_⟩
 refine aw E rfl fun a E=>wp_seq<|sg<|mv E rfl fun a E=>lw E (qap rfl) fun a E=>?_
 refine fv E qcc rfl fun a E=>ld E ok qc1 0 rfl rfl rfl fun a E=>lw E (qaI rfl rfl) fun a E=>mv E rfl fun a E=>qas (r9.2.e == 0) (fun hc16=>?_) (fun hc16=>?_)
 rotate_left
 ·replace hF:=qar hc16 hF
  replace E:=E.upd 13 hc16 rfl
  refine ls E fun a E=>ls E fun a E=>ls E fun a E=>ls E fun a E=>pf E rfl rfl fun a E=>wn<|c_if E rfl (fun h=>by cases h) (fun _=>?_)
  refine wp_skip<|qaa<|wp_seq<|sg<|mv E rfl fun a E=>lw E (qap rfl) fun a E=>fv E qcc rfl fun a E=>?_
  refine ld E ok qc1 0 rfl rfl rfl fun a E=>lw E (qaU rfl rfl) fun a E=>wn<|cf E rfl hF (fun hc36 hF=>?_) fun hc36 hF=>?_
  ·refine sg<|aw E rfl fun a E=>wp_ret<|qaf ?_
   exact fin hF ⟨ok,E.d,⟨rv_t E rfl,trivial⟩,(show ([]:List UInt8).length ≤ LIMS by decide),l12,r13,r14,r15⟩
  refine wp_skip<|qaa<|sg<|mv E rfl fun a E=>lw E (qap rfl) fun a E=>fv E qaW rfl fun a E=>ld E ok qaB 0 rfl rfl rfl fun a E=>?_
  refine mv E rfl fun a E=>lw E (qaK Tryz.underlying9 rfl) fun a E=>lw E (qbi rfl rfl) fun a E=>lw E (qap rfl) fun a E=>fv E qaW rfl fun a E=>qae E ok 0 rfl rfl rfl qbU rfl rfl ⟨rfl,trivial⟩ rfl rfl fun w ok=>wn ?_
  refine sg<|mv E rfl fun a E=>aw E rfl fun a E=>wp_ret ?_
  exact fin hF ⟨ok,E.d,⟨rv_t E rfl,trivial⟩,l11,l12,(InR.wrap _ _),r14,r15⟩
 replace hF:=qaq hc16 hF
 replace E:=E.upd 13 hc16 rfl
 refine mv E rfl fun a E=>mv E rfl fun a E=>?_
 obtain ⟨r17,e18,hF⟩:=bnd hF
 refine lc E que rfl (qgn N _ l_1 hl_1 r9.1 l11 e18 hG ok) fun w ok a E=>lw E (qaO rfl) fun a E=>pt E rfl rfl fun a E=>wn ?_
 obtain ⟨o19,hJ,hF⟩:=bnd hF
 refine qaT (Q':=fun e a w=>e = .normal ∧ Ok u m0 ([(pb0,oc 88 [vs o19.s,vi o19.at_,vi o19.relations,vi o19.e])] :: S) w ∧ Env 36 a [(0,vp pb0),(5,vs r9.1)] ∧ o19.s.length ≤ LIMS ∧ InR .i64 o19.at_ ∧ InR .i64 o19.relations ∧ InR .i64 o19.e) ?_ ?_
 ·replace hF:=hJ
  clear hJ
  refine cf E rfl hF (fun hc24 hF=>?_) fun hc24 hF=>?_
  rotate_left
  ·refine wp_skip ?_
   obtain rfl:=sj hF
   exact ⟨rfl,⟨ok,E.keep [0,5],l12,r13,r14,r15⟩⟩
  refine qab<|mv E rfl fun a E=>?_
  obtain ⟨r25,e26,hF⟩:=bnd hF
  refine qah E qcQ rfl (qaw N 3 (ir 3) r9.2 l12 r13 r14 r15 e26 hG ok) rfl rfl ?_
  rintro _ w ⟨⟨rfl,ok⟩,l27,r28,r29,r30⟩
  refine ⟨_,rfl,fun a E=>?_⟩
  refine wpList_nil ?_
  obtain rfl:=sj hF
  exact ⟨rfl,⟨ok,E.keep [0,5],l27,r28,r29,r30⟩⟩
 clear hJ
 intro e a w hO
 obtain ⟨rfl,ok,E,l31,r32,r33,r34⟩:=hO
 refine qaa<|wp_seq<|sg<|mv E rfl fun a E=>lw E (qap rfl) fun a E=>fv E qcc rfl fun a E=>ld E ok qc1 0 rfl rfl rfl fun a E=>?_
 refine lw E (qaU rfl rfl) fun a E=>wn<|cf E rfl hF (fun hc35 hF=>?_) fun hc35 hF=>?_
 ·refine sg<|aw E rfl fun a E=>wp_ret<|qaf ?_
  exact fin hF ⟨ok,E.d,⟨rv_t E rfl,trivial⟩,(show ([]:List UInt8).length ≤ LIMS by decide),l31,r32,r33,r34⟩
 refine wp_skip<|qaa<|sg<|mv E rfl fun a E=>lw E (qap rfl) fun a E=>fv E qaW rfl fun a E=>ld E ok qaB 0 rfl rfl rfl fun a E=>?_
 refine mv E rfl fun a E=>lw E (qaK Tryz.underlying9 rfl) fun a E=>lw E (qbi rfl rfl) fun a E=>lw E (qap rfl) fun a E=>fv E qaW rfl fun a E=>qae E ok 0 rfl rfl rfl qbU rfl rfl ⟨rfl,trivial⟩ rfl rfl fun w ok=>wn ?_
 refine sg<|mv E rfl fun a E=>aw E rfl fun a E=>wp_ret ?_
 exact fin hF ⟨ok,E.d,⟨rv_t E rfl,trivial⟩,l11,l31,(InR.wrap _ _),r33,r34⟩
def qiX (u:World) (m0:Mem) (S:Segs) (pb0:Nat) (x0:Int) (r:Int) (a:Act) (w:World):Prop :=
 Ok u m0 ([(pb0,oc 3 [vi x0])] :: S) w ∧ a.defers = [] ∧ RVs Tryz.prog a w [.t 3 (.int .i64 r)] ∧ InR .i64 r
theorem qcJ (N:Nat) (n_0:Int) (rn_0:InR .i64 n_0) {pb0:Nat} (x0:Int) (r1:InR .i64 x0) {r:Int} (hF:qbL N n_0 x0 = some r) (hG:Glob u) (ok:Ok u m0 ([(pb0,oc 3 [vi x0])] :: S) w) :
  Calls Tryz.prog 98 [vi n_0,vp pb0].toArray w fun e w'=>(e = .returned (.int .i64 r) ∧ Ok u m0 ([(pb0,oc 3 [vi x0])] :: S) w') ∧ InR .i64 r:=by
 unfold qbL at hF
 refine en (qiX u m0 S pb0 x0) r Tryz.func98 rfl rfl rfl (by rintro a w ⟨ok,hd,hrv,h0⟩; exact qav [.t 3 (.int .i64 r)] hd rfl hrv ⟨⟨rfl,ok⟩,h0⟩) fun fin a E=>sg<|aw E rfl fun a E=>wp_seq<|wp_seq ?_
 refine qab<|ld E ok qaB 0 rfl rfl rfl fun a E=>mv E rfl fun a E=>?_
 obtain ⟨r2,e3,hF⟩:=bnd hF
 refine lc E quk rfl (qis N x0 r1 n_0 rn_0 e3 hG ok) fun w ok a E=>lw E (qaO rfl) fun a E=>wn<|cf E rfl hF (fun hc4 hF=>?_) fun hc4 hF=>?_
 ·refine sg<|aw E rfl fun a E=>wp_ret<|qaf ?_
  exact fin hF ⟨ok,E.d,⟨rv_t E rfl,trivial⟩,(ir 2)⟩
 refine wp_skip<|qaa<|sg<|aw E rfl fun a E=>wp_ret ?_
 exact fin hF ⟨ok,E.d,⟨rv_t E rfl,trivial⟩,(ir 0)⟩
def qiW (u:World) (m0:Mem) (S:Segs) (pb0:Nat) (pb1:Nat) (x0:Parser) (x1:Int) (r:Int × Parser) (a:Act) (w:World):Prop :=
 Ok u m0 ([(pb0,oc 88 [vs r.2.s,vi r.2.at_,vi r.2.relations,vi r.2.e])] :: [(pb1,oc 3 [vi x1])] :: S) w ∧ a.defers = [] ∧ RVs Tryz.prog a w [.t 4 (.int .i64 r.1)] ∧ InR .i64 r.1 ∧ r.2.s.length ≤ LIMS ∧ InR .i64 r.2.at_ ∧ InR .i64 r.2.relations ∧ InR .i64 r.2.e
theorem qgK (N:Nat) {pb0:Nat} (x0:Parser) (l1:x0.s.length ≤ LIMS) (r2:InR .i64 x0.at_) (r3:InR .i64 x0.relations) (r4:InR .i64 x0.e) {pb1:Nat} (x1:Int) (r5:InR .i64 x1) {r:Int × Parser} (hF:qd6 N x0 x1 = some r) (hG:Glob u) (ok:Ok u m0 ([(pb0,oc 88 [vs x0.s,vi x0.at_,vi x0.relations,vi x0.e])] :: [(pb1,oc 3 [vi x1])] :: S) w) :
  Calls Tryz.prog 97 [vp pb0,Value.func (.func 98) #[] #[.pointer (some ⟨pb1,0,none⟩)]].toArray w fun e w'=>(e = .returned (.int .i64 r.1) ∧ Ok u m0 ([(pb0,oc 88 [vs r.2.s,vi r.2.at_,vi r.2.relations,vi r.2.e])] :: [(pb1,oc 3 [vi x1])] :: S) w') ∧ InR .i64 r.1 ∧ r.2.s.length ≤ LIMS ∧ InR .i64 r.2.at_ ∧ InR .i64 r.2.relations ∧ InR .i64 r.2.e:=by
 unfold qd6 at hF
 refine en (qiW u m0 S pb0 pb1 x0 x1) r Tryz.func97 rfl rfl rfl (by rintro a w ⟨ok,hd,hrv,h0,h1,h2,h3,h4⟩; exact qav [.t 4 (.int .i64 r.1)] hd rfl hrv ⟨⟨rfl,ok⟩,h0,h1,h2,h3,h4⟩) fun fin a E=>sg<|aw E rfl fun a E=>sg ?_
 refine mv E rfl fun a E=>?_
 obtain ⟨r10,e11,hF⟩:=bnd hF
 refine qah E qnl rfl (qc3 N x0 l1 r2 r3 r4 e11 hG ok) rfl rfl ?_
 rintro _ w ⟨⟨rfl,ok⟩,l12,l13,r14,r15,r16⟩
 refine ⟨_,rfl,fun a E=>?_⟩
 refine aw E rfl fun a E=>wp_seq<|sg<|mv E rfl fun a E=>lw E (qer rfl rfl) fun a E=>?_
 refine mv E rfl fun a E=>qas (r10.1 == ([])) (fun hc17=>?_) (fun hc17=>?_)
 ·as_aux_lemma =>
   replace hF:=qaq hc17 hF
   replace E:=E.upd 13 hc17 rfl
   refine ls E fun a E=>ls E fun a E=>ls E fun a E=>ls E fun a E=>pt E rfl rfl fun a E=>mv E rfl fun a E=>ls E fun a E=>ls E fun a E=>?_
   refine ls E fun a E=>pt E rfl rfl fun a E=>mv E rfl fun a E=>ls E fun a E=>ls E fun a E=>ls E fun a E=>ls E fun a E=>ls E fun a E=>?_
   refine ls E fun a E=>ls E fun a E=>ls E fun a E=>pt E rfl rfl fun a E=>wn<|c_if E rfl (fun _=>?_) (fun h=>by cases h)
   refine qab<|mv E rfl fun a E=>?_
   obtain ⟨r18,e19,hF⟩:=bnd hF
   refine qah E qcQ rfl (qaw N 3 (ir 3) r10.2 l13 r14 r15 r16 e19 hG ok) rfl rfl ?_
   rintro _ w ⟨⟨rfl,ok⟩,l20,r21,r22,r23⟩
   refine ⟨_,rfl,fun a E=>?_⟩
   refine wn<|wp_seq<|sg<|mv E rfl fun a E=>lw E (qap rfl) fun a E=>fv E qcc rfl fun a E=>?_
   refine ld E ok qc1 0 rfl rfl rfl fun a E=>lw E (qaU rfl rfl) fun a E=>wn<|cf E rfl hF (fun hc24 hF=>?_) fun hc24 hF=>?_
   ·refine sg<|aw E rfl fun a E=>wp_ret<|qaf ?_
    exact fin hF ⟨ok,E.d,⟨rv_t E rfl,trivial⟩,(ir 0),l20,r21,r22,r23⟩
   refine wp_skip<|qaa<|sg<|mv E rfl fun a E=>?_
   obtain ⟨r25,e26,hF⟩:=bnd hF
   refine qah E qfy rfl (qbs N r10.1 l12 e26 hG ok) rfl rfl ?_
   rintro _ w ⟨⟨rfl,ok⟩,r27⟩
   refine ⟨_,rfl,fun a E=>?_⟩
   refine mv E rfl fun a E=>lw E (qaj rfl rfl) fun a E=>lw E (qaj rfl rfl) fun a E=>av E rfl fun a E=>aw E rfl fun a E=>wp_seq ?_
   refine sg<|mv E rfl fun a E=>mv E rfl fun a E=>?_
   obtain ⟨r28,e29,hF⟩:=bnd hF
   replace ok:Ok u m0 ([(pb1,oc 3 [vi x1])] :: [(pb0,oc 88 [vs r18.s,vi r18.at_,vi r18.relations,vi r18.e])] :: S) w:=(ok.pk 2 [1,0] rfl (by decide))
   refine qcb E rfl qoB rfl (qcJ N r25.1 r27 x1 r5 e29 hG ok) rfl rfl ?_
   rintro _ w ⟨⟨rfl,ok⟩,r30⟩
   refine ⟨_,rfl,fun a E=>?_⟩
   refine aw E rfl fun a E=>sg<|mv E rfl fun a E=>lw E (qaU rfl rfl) fun a E=>wpList_nil ?_
   refine qaa<|cf E rfl hF (fun hc31 hF=>?_) fun hc31 hF=>?_
   ·refine sg<|mv E rfl fun a E=>mv E rfl fun a E=>?_
    obtain ⟨r32,e33,hF⟩:=bnd hF
    replace ok:Ok u m0 ([(pb0,oc 88 [vs r18.s,vi r18.at_,vi r18.relations,vi r18.e])] :: [(pb1,oc 3 [vi x1])] :: S) w:=(ok.pk 2 [1,0] rfl (by decide))
    refine qah E qcQ rfl (qaw N r28 r30 r18 l20 r21 r22 r23 e33 hG ok) rfl rfl ?_
    rintro _ w ⟨⟨rfl,ok⟩,l34,r35,r36,r37⟩
    refine ⟨_,rfl,fun a E=>?_⟩
    refine wn<|sg<|aw E rfl fun a E=>wp_ret ?_
    refine qaf ?_
    exact fin hF ⟨ok,E.d,⟨rv_t E rfl,trivial⟩,(ir 0),l34,r35,r36,r37⟩
   refine wp_skip<|qaa<|sg<|mv E rfl fun a E=>lw E (qap rfl) fun a E=>fv E qaW rfl fun a E=>ld E ok qaB 1 rfl rfl rfl fun a E=>?_
   refine mv E rfl fun a E=>lw E (qaK Tryz.underlying9 rfl) fun a E=>lw E (qbi rfl rfl) fun a E=>lw E (qap rfl) fun a E=>fv E qaW rfl fun a E=>qae E ok 1 rfl rfl rfl qbU rfl rfl ⟨rfl,trivial⟩ rfl rfl fun w ok=>wn ?_
   refine sg<|mv E rfl fun a E=>aw E rfl fun a E=>wp_ret ?_
   exact fin hF ⟨(ok.pk 2 [1,0] rfl (by decide)),E.d,⟨rv_t E rfl,trivial⟩,r27,l20,(InR.wrap _ _),r22,r23⟩
 replace hF:=qar hc17 hF
 replace E:=E.upd 13 hc17 rfl
 refine mv E rfl fun a E=>?_
 obtain ⟨c38,e39,hF⟩:=bnd hF
 refine lv E ok (qbt Tryz.underlying9 rfl rfl e39) fun a E=>?_
 obtain ⟨r40,e41,hF⟩:=bnd hF
 refine lc E qmH rfl (qfK N (c38.toNat:Int) (InR.byte c38) e41 hG ok) fun w ok a E=>lw E (qaO rfl) fun a E=>pf E rfl rfl fun a E=>mv E rfl fun a E=>qas (!r40) (fun hc42=>?_) (fun hc42=>?_)
 ·as_aux_lemma =>
   replace hF:=qaq hc42 hF
   replace E:=E.upd 19 hc42 rfl
   refine ls E fun a E=>ls E fun a E=>ls E fun a E=>pt E rfl rfl fun a E=>mv E rfl fun a E=>ls E fun a E=>ls E fun a E=>ls E fun a E=>?_
   refine ls E fun a E=>ls E fun a E=>ls E fun a E=>ls E fun a E=>ls E fun a E=>pt E rfl rfl fun a E=>wn ?_
   refine c_if E rfl (fun _=>?_) (fun h=>by cases h)
   refine qab<|mv E rfl fun a E=>?_
   obtain ⟨r43,e44,hF⟩:=bnd hF
   refine qah E qcQ rfl (qaw N 3 (ir 3) r10.2 l13 r14 r15 r16 e44 hG ok) rfl rfl ?_
   rintro _ w ⟨⟨rfl,ok⟩,l45,r46,r47,r48⟩
   refine ⟨_,rfl,fun a E=>?_⟩
   refine wn<|wp_seq<|sg<|mv E rfl fun a E=>lw E (qap rfl) fun a E=>fv E qcc rfl fun a E=>?_
   refine ld E ok qc1 0 rfl rfl rfl fun a E=>lw E (qaU rfl rfl) fun a E=>wn<|cf E rfl hF (fun hc49 hF=>?_) fun hc49 hF=>?_
   ·refine sg<|aw E rfl fun a E=>wp_ret<|qaf ?_
    exact fin hF ⟨ok,E.d,⟨rv_t E rfl,trivial⟩,(ir 0),l45,r46,r47,r48⟩
   refine wp_skip<|qaa<|sg<|mv E rfl fun a E=>?_
   obtain ⟨r50,e51,hF⟩:=bnd hF
   refine qah E qfy rfl (qbs N r10.1 l12 e51 hG ok) rfl rfl ?_
   rintro _ w ⟨⟨rfl,ok⟩,r52⟩
   refine ⟨_,rfl,fun a E=>?_⟩
   refine mv E rfl fun a E=>lw E (qaj rfl rfl) fun a E=>lw E (qaj rfl rfl) fun a E=>av E rfl fun a E=>aw E rfl fun a E=>wp_seq ?_
   refine sg<|mv E rfl fun a E=>mv E rfl fun a E=>?_
   obtain ⟨r53,e54,hF⟩:=bnd hF
   replace ok:Ok u m0 ([(pb1,oc 3 [vi x1])] :: [(pb0,oc 88 [vs r43.s,vi r43.at_,vi r43.relations,vi r43.e])] :: S) w:=(ok.pk 2 [1,0] rfl (by decide))
   refine qcb E rfl qoB rfl (qcJ N r50.1 r52 x1 r5 e54 hG ok) rfl rfl ?_
   rintro _ w ⟨⟨rfl,ok⟩,r55⟩
   refine ⟨_,rfl,fun a E=>?_⟩
   refine aw E rfl fun a E=>sg<|mv E rfl fun a E=>lw E (qaU rfl rfl) fun a E=>wpList_nil ?_
   refine qaa<|cf E rfl hF (fun hc56 hF=>?_) fun hc56 hF=>?_
   ·refine sg<|mv E rfl fun a E=>mv E rfl fun a E=>?_
    obtain ⟨r57,e58,hF⟩:=bnd hF
    replace ok:Ok u m0 ([(pb0,oc 88 [vs r43.s,vi r43.at_,vi r43.relations,vi r43.e])] :: [(pb1,oc 3 [vi x1])] :: S) w:=(ok.pk 2 [1,0] rfl (by decide))
    refine qah E qcQ rfl (qaw N r53 r55 r43 l45 r46 r47 r48 e58 hG ok) rfl rfl ?_
    rintro _ w ⟨⟨rfl,ok⟩,l59,r60,r61,r62⟩
    refine ⟨_,rfl,fun a E=>?_⟩
    refine wn<|sg<|aw E rfl fun a E=>wp_ret ?_
    refine qaf ?_
    exact fin hF ⟨ok,E.d,⟨rv_t E rfl,trivial⟩,(ir 0),l59,r60,r61,r62⟩
   refine wp_skip<|qaa<|sg<|mv E rfl fun a E=>lw E (qap rfl) fun a E=>fv E qaW rfl fun a E=>ld E ok qaB 1 rfl rfl rfl fun a E=>?_
   refine mv E rfl fun a E=>lw E (qaK Tryz.underlying9 rfl) fun a E=>lw E (qbi rfl rfl) fun a E=>lw E (qap rfl) fun a E=>fv E qaW rfl fun a E=>qae E ok 1 rfl rfl rfl qbU rfl rfl ⟨rfl,trivial⟩ rfl rfl fun w ok=>wn ?_
   refine sg<|mv E rfl fun a E=>aw E rfl fun a E=>wp_ret ?_
   exact fin hF ⟨(ok.pk 2 [1,0] rfl (by decide)),E.d,⟨rv_t E rfl,trivial⟩,r52,l45,(InR.wrap _ _),r47,r48⟩
 replace hF:=qar hc42 hF
 replace E:=E.upd 19 hc42 rfl
 refine mv E rfl fun a E=>lw E (qaK Tryz.underlying9 rfl) fun a E=>lw E (qa2 rfl rfl) fun a E=>pf E rfl rfl fun a E=>mv E rfl fun a E=>qas (decide ((r10.1.length:Int) > 3)) (fun hc63=>?_) (fun hc63=>?_)
 ·as_aux_lemma =>
   replace hF:=qaq hc63 hF
   replace E:=E.upd 24 hc63 rfl
   refine ls E fun a E=>ls E fun a E=>ls E fun a E=>ls E fun a E=>ls E fun a E=>ls E fun a E=>ls E fun a E=>ls E fun a E=>?_
   refine pt E rfl rfl fun a E=>wn<|c_if E rfl (fun _=>?_) (fun h=>by cases h)
   refine qab<|mv E rfl fun a E=>?_
   obtain ⟨r64,e65,hF⟩:=bnd hF
   refine qah E qcQ rfl (qaw N 3 (ir 3) r10.2 l13 r14 r15 r16 e65 hG ok) rfl rfl ?_
   rintro _ w ⟨⟨rfl,ok⟩,l66,r67,r68,r69⟩
   refine ⟨_,rfl,fun a E=>?_⟩
   refine wn<|wp_seq<|sg<|mv E rfl fun a E=>lw E (qap rfl) fun a E=>fv E qcc rfl fun a E=>?_
   refine ld E ok qc1 0 rfl rfl rfl fun a E=>lw E (qaU rfl rfl) fun a E=>wn<|cf E rfl hF (fun hc70 hF=>?_) fun hc70 hF=>?_
   ·refine sg<|aw E rfl fun a E=>wp_ret<|qaf ?_
    exact fin hF ⟨ok,E.d,⟨rv_t E rfl,trivial⟩,(ir 0),l66,r67,r68,r69⟩
   refine wp_skip<|qaa<|sg<|mv E rfl fun a E=>?_
   obtain ⟨r71,e72,hF⟩:=bnd hF
   refine qah E qfy rfl (qbs N r10.1 l12 e72 hG ok) rfl rfl ?_
   rintro _ w ⟨⟨rfl,ok⟩,r73⟩
   refine ⟨_,rfl,fun a E=>?_⟩
   refine mv E rfl fun a E=>lw E (qaj rfl rfl) fun a E=>lw E (qaj rfl rfl) fun a E=>av E rfl fun a E=>aw E rfl fun a E=>wp_seq ?_
   refine sg<|mv E rfl fun a E=>mv E rfl fun a E=>?_
   obtain ⟨r74,e75,hF⟩:=bnd hF
   replace ok:Ok u m0 ([(pb1,oc 3 [vi x1])] :: [(pb0,oc 88 [vs r64.s,vi r64.at_,vi r64.relations,vi r64.e])] :: S) w:=(ok.pk 2 [1,0] rfl (by decide))
   refine qcb E rfl qoB rfl (qcJ N r71.1 r73 x1 r5 e75 hG ok) rfl rfl ?_
   rintro _ w ⟨⟨rfl,ok⟩,r76⟩
   refine ⟨_,rfl,fun a E=>?_⟩
   refine aw E rfl fun a E=>sg<|mv E rfl fun a E=>lw E (qaU rfl rfl) fun a E=>wpList_nil ?_
   refine qaa<|cf E rfl hF (fun hc77 hF=>?_) fun hc77 hF=>?_
   ·refine sg<|mv E rfl fun a E=>mv E rfl fun a E=>?_
    obtain ⟨r78,e79,hF⟩:=bnd hF
    replace ok:Ok u m0 ([(pb0,oc 88 [vs r64.s,vi r64.at_,vi r64.relations,vi r64.e])] :: [(pb1,oc 3 [vi x1])] :: S) w:=(ok.pk 2 [1,0] rfl (by decide))
    refine qah E qcQ rfl (qaw N r74 r76 r64 l66 r67 r68 r69 e79 hG ok) rfl rfl ?_
    rintro _ w ⟨⟨rfl,ok⟩,l80,r81,r82,r83⟩
    refine ⟨_,rfl,fun a E=>?_⟩
    refine wn<|sg<|aw E rfl fun a E=>wp_ret ?_
    refine qaf ?_
    exact fin hF ⟨ok,E.d,⟨rv_t E rfl,trivial⟩,(ir 0),l80,r81,r82,r83⟩
   refine wp_skip<|qaa<|sg<|mv E rfl fun a E=>lw E (qap rfl) fun a E=>fv E qaW rfl fun a E=>ld E ok qaB 1 rfl rfl rfl fun a E=>?_
   refine mv E rfl fun a E=>lw E (qaK Tryz.underlying9 rfl) fun a E=>lw E (qbi rfl rfl) fun a E=>lw E (qap rfl) fun a E=>fv E qaW rfl fun a E=>qae E ok 1 rfl rfl rfl qbU rfl rfl ⟨rfl,trivial⟩ rfl rfl fun w ok=>wn ?_
   refine sg<|mv E rfl fun a E=>aw E rfl fun a E=>wp_ret ?_
   exact fin hF ⟨(ok.pk 2 [1,0] rfl (by decide)),E.d,⟨rv_t E rfl,trivial⟩,r73,l66,(InR.wrap _ _),r68,r69⟩
 replace hF:=qar hc63 hF
 replace E:=E.upd 24 hc63 rfl
 refine mv E rfl fun a E=>lw E (qaK Tryz.underlying9 rfl) fun a E=>lw E (qa2 rfl rfl) fun a E=>mv E rfl fun a E=>qas (decide ((r10.1.length:Int) > 1)) (fun hc84=>?_) (fun hc84=>?_)
 rotate_left
 ·as_aux_lemma =>
   replace hF:=qar hc84 hF
   replace E:=E.upd 28 hc84 rfl
   refine ls E fun a E=>ls E fun a E=>ls E fun a E=>pf E rfl rfl fun a E=>pf E rfl rfl fun a E=>wn<|c_if E rfl (fun h=>by cases h) (fun _=>?_)
   refine wp_skip<|qaa<|wp_seq<|sg<|mv E rfl fun a E=>lw E (qap rfl) fun a E=>fv E qcc rfl fun a E=>?_
   refine ld E ok qc1 0 rfl rfl rfl fun a E=>lw E (qaU rfl rfl) fun a E=>wn<|cf E rfl hF (fun hc117 hF=>?_) fun hc117 hF=>?_
   ·refine sg<|aw E rfl fun a E=>wp_ret<|qaf ?_
    exact fin hF ⟨ok,E.d,⟨rv_t E rfl,trivial⟩,(ir 0),l13,r14,r15,r16⟩
   refine wp_skip<|qaa<|sg<|mv E rfl fun a E=>?_
   obtain ⟨r118,e119,hF⟩:=bnd hF
   refine qah E qfy rfl (qbs N r10.1 l12 e119 hG ok) rfl rfl ?_
   rintro _ w ⟨⟨rfl,ok⟩,r120⟩
   refine ⟨_,rfl,fun a E=>?_⟩
   refine mv E rfl fun a E=>lw E (qaj rfl rfl) fun a E=>lw E (qaj rfl rfl) fun a E=>av E rfl fun a E=>aw E rfl fun a E=>wp_seq ?_
   refine sg<|mv E rfl fun a E=>mv E rfl fun a E=>?_
   obtain ⟨r121,e122,hF⟩:=bnd hF
   replace ok:Ok u m0 ([(pb1,oc 3 [vi x1])] :: [(pb0,oc 88 [vs r10.2.s,vi r10.2.at_,vi r10.2.relations,vi r10.2.e])] :: S) w:=(ok.pk 2 [1,0] rfl (by decide))
   refine qcb E rfl qoB rfl (qcJ N r118.1 r120 x1 r5 e122 hG ok) rfl rfl ?_
   rintro _ w ⟨⟨rfl,ok⟩,r123⟩
   refine ⟨_,rfl,fun a E=>?_⟩
   refine aw E rfl fun a E=>sg<|mv E rfl fun a E=>lw E (qaU rfl rfl) fun a E=>wpList_nil ?_
   refine qaa<|cf E rfl hF (fun hc124 hF=>?_) fun hc124 hF=>?_
   ·refine sg<|mv E rfl fun a E=>mv E rfl fun a E=>?_
    obtain ⟨r125,e126,hF⟩:=bnd hF
    replace ok:Ok u m0 ([(pb0,oc 88 [vs r10.2.s,vi r10.2.at_,vi r10.2.relations,vi r10.2.e])] :: [(pb1,oc 3 [vi x1])] :: S) w:=(ok.pk 2 [1,0] rfl (by decide))
    refine qah E qcQ rfl (qaw N r121 r123 r10.2 l13 r14 r15 r16 e126 hG ok) rfl rfl ?_
    rintro _ w ⟨⟨rfl,ok⟩,l127,r128,r129,r130⟩
    refine ⟨_,rfl,fun a E=>?_⟩
    refine wn<|sg<|aw E rfl fun a E=>wp_ret ?_
    refine qaf ?_
    exact fin hF ⟨ok,E.d,⟨rv_t E rfl,trivial⟩,(ir 0),l127,r128,r129,r130⟩
   refine wp_skip<|qaa<|sg<|mv E rfl fun a E=>lw E (qap rfl) fun a E=>fv E qaW rfl fun a E=>ld E ok qaB 1 rfl rfl rfl fun a E=>?_
   refine mv E rfl fun a E=>lw E (qaK Tryz.underlying9 rfl) fun a E=>lw E (qbi rfl rfl) fun a E=>lw E (qap rfl) fun a E=>fv E qaW rfl fun a E=>qae E ok 1 rfl rfl rfl qbU rfl rfl ⟨rfl,trivial⟩ rfl rfl fun w ok=>wn ?_
   refine sg<|mv E rfl fun a E=>aw E rfl fun a E=>wp_ret ?_
   exact fin hF ⟨(ok.pk 2 [1,0] rfl (by decide)),E.d,⟨rv_t E rfl,trivial⟩,r120,l13,(InR.wrap _ _),r15,r16⟩
 replace hF:=qaq hc84 hF
 replace E:=E.upd 28 hc84 rfl
 refine mv E rfl fun a E=>?_
 obtain ⟨c85,e86,hF⟩:=bnd hF
 refine lv E ok (qbt Tryz.underlying9 rfl rfl e86) fun a E=>lw E (qaI rfl rfl) fun a E=>pt E rfl rfl fun a E=>pf E rfl rfl fun a E=>wn ?_
 obtain ⟨o87,hJ,hF⟩:=bnd hF
 refine qaT (Q':=fun e a w=>e = .normal ∧ Ok u m0 ([(pb0,oc 88 [vs o87.s,vi o87.at_,vi o87.relations,vi o87.e])] :: [(pb1,oc 3 [vi x1])] :: S) w ∧ Env 64 a [(0,vp pb0),(1,(Value.func (.func 98) #[] #[.pointer (some ⟨pb1,0,none⟩)])),(5,vs r10.1)] ∧ o87.s.length ≤ LIMS ∧ InR .i64 o87.at_ ∧ InR .i64 o87.relations ∧ InR .i64 o87.e) ?_ ?_
 ·replace hF:=hJ
  clear hJ
  refine cf E rfl hF (fun hc92 hF=>?_) fun hc92 hF=>?_
  rotate_left
  ·refine wp_skip ?_
   obtain rfl:=sj hF
   exact ⟨rfl,⟨ok,E.keep [0,1,5],l13,r14,r15,r16⟩⟩
  refine qab<|mv E rfl fun a E=>?_
  obtain ⟨r93,e94,hF⟩:=bnd hF
  refine qah E qcQ rfl (qaw N 3 (ir 3) r10.2 l13 r14 r15 r16 e94 hG ok) rfl rfl ?_
  rintro _ w ⟨⟨rfl,ok⟩,l95,r96,r97,r98⟩
  refine ⟨_,rfl,fun a E=>?_⟩
  refine wpList_nil ?_
  obtain rfl:=sj hF
  exact ⟨rfl,⟨ok,E.keep [0,1,5],l95,r96,r97,r98⟩⟩
 clear hJ
 intro e a w hO
 obtain ⟨rfl,ok,E,l99,r100,r101,r102⟩:=hO
 refine qaa<|wp_seq<|sg<|mv E rfl fun a E=>lw E (qap rfl) fun a E=>fv E qcc rfl fun a E=>ld E ok qc1 0 rfl rfl rfl fun a E=>?_
 refine lw E (qaU rfl rfl) fun a E=>wn<|cf E rfl hF (fun hc103 hF=>?_) fun hc103 hF=>?_
 ·refine sg<|aw E rfl fun a E=>wp_ret<|qaf ?_
  exact fin hF ⟨ok,E.d,⟨rv_t E rfl,trivial⟩,(ir 0),l99,r100,r101,r102⟩
 refine wp_skip<|qaa<|sg<|mv E rfl fun a E=>?_
 obtain ⟨r104,e105,hF⟩:=bnd hF
 refine qah E qfy rfl (qbs N r10.1 l12 e105 hG ok) rfl rfl ?_
 rintro _ w ⟨⟨rfl,ok⟩,r106⟩
 refine ⟨_,rfl,fun a E=>?_⟩
 refine mv E rfl fun a E=>lw E (qaj rfl rfl) fun a E=>lw E (qaj rfl rfl) fun a E=>av E rfl fun a E=>aw E rfl fun a E=>wp_seq ?_
 refine sg<|mv E rfl fun a E=>mv E rfl fun a E=>?_
 obtain ⟨r107,e108,hF⟩:=bnd hF
 replace ok:Ok u m0 ([(pb1,oc 3 [vi x1])] :: [(pb0,oc 88 [vs o87.s,vi o87.at_,vi o87.relations,vi o87.e])] :: S) w:=(ok.pk 2 [1,0] rfl (by decide))
 refine qcb E rfl qoB rfl (qcJ N r104.1 r106 x1 r5 e108 hG ok) rfl rfl ?_
 rintro _ w ⟨⟨rfl,ok⟩,r109⟩
 refine ⟨_,rfl,fun a E=>?_⟩
 refine aw E rfl fun a E=>sg<|mv E rfl fun a E=>lw E (qaU rfl rfl) fun a E=>wpList_nil ?_
 refine qaa<|cf E rfl hF (fun hc110 hF=>?_) fun hc110 hF=>?_
 ·refine sg<|mv E rfl fun a E=>mv E rfl fun a E=>?_
  obtain ⟨r111,e112,hF⟩:=bnd hF
  replace ok:Ok u m0 ([(pb0,oc 88 [vs o87.s,vi o87.at_,vi o87.relations,vi o87.e])] :: [(pb1,oc 3 [vi x1])] :: S) w:=(ok.pk 2 [1,0] rfl (by decide))
  refine qah E qcQ rfl (qaw N r107 r109 o87 l99 r100 r101 r102 e112 hG ok) rfl rfl ?_
  rintro _ w ⟨⟨rfl,ok⟩,l113,r114,r115,r116⟩
  refine ⟨_,rfl,fun a E=>?_⟩
  refine wn<|sg<|aw E rfl fun a E=>wp_ret ?_
  refine qaf ?_
  exact fin hF ⟨ok,E.d,⟨rv_t E rfl,trivial⟩,(ir 0),l113,r114,r115,r116⟩
 refine wp_skip<|qaa<|sg<|mv E rfl fun a E=>lw E (qap rfl) fun a E=>fv E qaW rfl fun a E=>ld E ok qaB 1 rfl rfl rfl fun a E=>?_
 refine mv E rfl fun a E=>lw E (qaK Tryz.underlying9 rfl) fun a E=>lw E (qbi rfl rfl) fun a E=>lw E (qap rfl) fun a E=>fv E qaW rfl fun a E=>qae E ok 1 rfl rfl rfl qbU rfl rfl ⟨rfl,trivial⟩ rfl rfl fun w ok=>wn ?_
 refine sg<|mv E rfl fun a E=>aw E rfl fun a E=>wp_ret ?_
 exact fin hF ⟨(ok.pk 2 [1,0] rfl (by decide)),E.d,⟨rv_t E rfl,trivial⟩,r106,l99,(InR.wrap _ _),r101,r102⟩
def qjF (u:World) (m0:Mem) (S:Segs) (pb0:Nat) (pb1:Nat) (x0:Int) (x1:Int) (r:Int) (a:Act) (w:World):Prop :=
 Ok u m0 ([(pb0,oc 3 [vi x0])] :: [(pb1,oc 3 [vi x1])] :: S) w ∧ a.defers = [] ∧ RVs Tryz.prog a w [.t 4 (.int .i64 r)] ∧ InR .i64 r
theorem qdw (N:Nat) (n_0:Int) (rn_0:InR .i64 n_0) {pb0:Nat} (x0:Int) (r1:InR .i64 x0) {pb1:Nat} (x1:Int) (r2:InR .i64 x1) {r:Int} (hF:qcs N n_0 x0 x1 = some r) (hG:Glob u) (ok:Ok u m0 ([(pb0,oc 3 [vi x0])] :: [(pb1,oc 3 [vi x1])] :: S) w) :
  Calls Tryz.prog 128 [vi n_0,vp pb0,vp pb1].toArray w fun e w'=>(e = .returned (.int .i64 r) ∧ Ok u m0 ([(pb0,oc 3 [vi x0])] :: [(pb1,oc 3 [vi x1])] :: S) w') ∧ InR .i64 r:=by
 unfold qcs at hF
 refine en (qjF u m0 S pb0 pb1 x0 x1) r Tryz.func128 rfl rfl rfl (by rintro a w ⟨ok,hd,hrv,h0⟩; exact qav [.t 4 (.int .i64 r)] hd rfl hrv ⟨⟨rfl,ok⟩,h0⟩) fun fin a E=>sg<|aw E rfl fun a E=>wp_seq<|wp_block ?_
 refine sg<|mv E rfl fun a E=>ld E ok qaB 0 rfl rfl rfl fun a E=>?_
 obtain ⟨r3,e4,hF⟩:=bnd hF
 refine qah E qp3 rfl (qdQ N x0 r1 e4 hG ok) rfl rfl ?_
 rintro _ w ⟨⟨rfl,ok⟩,r5⟩
 refine ⟨_,rfl,fun a E=>?_⟩
 refine lw E (qa2 rfl rfl) fun a E=>aw E rfl fun a E=>cf E rfl hF (fun hc6 hF=>?_) fun hc6 hF=>?_
 ·refine sg<|aw E rfl fun a E=>wp_ret<|qaA<|qaf ?_
  exact fin hF ⟨ok,E.d,⟨rv_t E rfl,trivial⟩,(ir 2)⟩
 refine sg<|ld E ok qaB 1 rfl rfl rfl fun a E=>lw E (qgg rfl rfl) fun a E=>aw E rfl fun a E=>cf E rfl hF (fun hc7 hF=>?_) fun hc7 hF=>?_
 ·refine sg<|aw E rfl fun a E=>wp_ret<|qaA<|qaf ?_
  exact fin hF ⟨ok,E.d,⟨rv_t E rfl,trivial⟩,(ir 6)⟩
 refine wp_skip<|qal<|qaa<|sg<|aw E rfl fun a E=>?_
 refine wp_ret ?_
 exact fin hF ⟨ok,E.d,⟨rv_t E rfl,trivial⟩,(ir 0)⟩
def qiF (u:World) (m0:Mem) (S:Segs) (pb0:Nat) (pb1:Nat) (pb2:Nat) (x0:Parser) (x1:Int) (x2:Int) (r:Int × Parser) (a:Act) (w:World):Prop :=
 Ok u m0 ([(pb0,oc 88 [vs r.2.s,vi r.2.at_,vi r.2.relations,vi r.2.e])] :: [(pb1,oc 3 [vi x1])] :: [(pb2,oc 3 [vi x2])] :: S) w ∧ a.defers = [] ∧ RVs Tryz.prog a w [.t 4 (.int .i64 r.1)] ∧ InR .i64 r.1 ∧ r.2.s.length ≤ LIMS ∧ InR .i64 r.2.at_ ∧ InR .i64 r.2.relations ∧ InR .i64 r.2.e
theorem qiN (N:Nat) {pb0:Nat} (x0:Parser) (l1:x0.s.length ≤ LIMS) (r2:InR .i64 x0.at_) (r3:InR .i64 x0.relations) (r4:InR .i64 x0.e) {pb1:Nat} (x1:Int) (r5:InR .i64 x1) {pb2:Nat} (x2:Int) (r6:InR .i64 x2) {r:Int × Parser} (hF:qe5 N x0 x1 x2 = some r) (hG:Glob u) (ok:Ok u m0 ([(pb0,oc 88 [vs x0.s,vi x0.at_,vi x0.relations,vi x0.e])] :: [(pb1,oc 3 [vi x1])] :: [(pb2,oc 3 [vi x2])] :: S) w) :
  Calls Tryz.prog 97 [vp pb0,Value.func (.func 128) #[] #[.pointer (some ⟨pb1,0,none⟩),.pointer (some ⟨pb2,0,none⟩)]].toArray w fun e w'=>(e = .returned (.int .i64 r.1) ∧ Ok u m0 ([(pb0,oc 88 [vs r.2.s,vi r.2.at_,vi r.2.relations,vi r.2.e])] :: [(pb1,oc 3 [vi x1])] :: [(pb2,oc 3 [vi x2])] :: S) w') ∧ InR .i64 r.1 ∧ r.2.s.length ≤ LIMS ∧ InR .i64 r.2.at_ ∧ InR .i64 r.2.relations ∧ InR .i64 r.2.e:=by
 unfold qe5 at hF
 refine en (qiF u m0 S pb0 pb1 pb2 x0 x1 x2) r Tryz.func97 rfl rfl rfl (by rintro a w ⟨ok,hd,hrv,h0,h1,h2,h3,h4⟩; exact qav [.t 4 (.int .i64 r.1)] hd rfl hrv ⟨⟨rfl,ok⟩,h0,h1,h2,h3,h4⟩) fun fin a E=>sg<|aw E rfl fun a E=>sg ?_
 refine mv E rfl fun a E=>?_
 obtain ⟨r11,e12,hF⟩:=bnd hF
 refine qah E qnl rfl (qc3 N x0 l1 r2 r3 r4 e12 hG ok) rfl rfl ?_
 rintro _ w ⟨⟨rfl,ok⟩,l13,l14,r15,r16,r17⟩
 refine ⟨_,rfl,fun a E=>?_⟩
 refine aw E rfl fun a E=>wp_seq<|sg<|mv E rfl fun a E=>lw E (qer rfl rfl) fun a E=>?_
 refine mv E rfl fun a E=>qas (r11.1 == ([])) (fun hc18=>?_) (fun hc18=>?_)
 ·as_aux_lemma =>
   replace hF:=qaq hc18 hF
   replace E:=E.upd 13 hc18 rfl
   refine ls E fun a E=>ls E fun a E=>ls E fun a E=>ls E fun a E=>pt E rfl rfl fun a E=>mv E rfl fun a E=>ls E fun a E=>ls E fun a E=>?_
   refine ls E fun a E=>pt E rfl rfl fun a E=>mv E rfl fun a E=>ls E fun a E=>ls E fun a E=>ls E fun a E=>ls E fun a E=>ls E fun a E=>?_
   refine ls E fun a E=>ls E fun a E=>ls E fun a E=>pt E rfl rfl fun a E=>wn<|c_if E rfl (fun _=>?_) (fun h=>by cases h)
   refine qab<|mv E rfl fun a E=>?_
   obtain ⟨r19,e20,hF⟩:=bnd hF
   refine qah E qcQ rfl (qaw N 3 (ir 3) r11.2 l14 r15 r16 r17 e20 hG ok) rfl rfl ?_
   rintro _ w ⟨⟨rfl,ok⟩,l21,r22,r23,r24⟩
   refine ⟨_,rfl,fun a E=>?_⟩
   refine wn<|wp_seq<|sg<|mv E rfl fun a E=>lw E (qap rfl) fun a E=>fv E qcc rfl fun a E=>?_
   refine ld E ok qc1 0 rfl rfl rfl fun a E=>lw E (qaU rfl rfl) fun a E=>wn<|cf E rfl hF (fun hc25 hF=>?_) fun hc25 hF=>?_
   ·refine sg<|aw E rfl fun a E=>wp_ret<|qaf ?_
    exact fin hF ⟨ok,E.d,⟨rv_t E rfl,trivial⟩,(ir 0),l21,r22,r23,r24⟩
   refine wp_skip<|qaa<|sg<|mv E rfl fun a E=>?_
   obtain ⟨r26,e27,hF⟩:=bnd hF
   refine qah E qfy rfl (qbs N r11.1 l13 e27 hG ok) rfl rfl ?_
   rintro _ w ⟨⟨rfl,ok⟩,r28⟩
   refine ⟨_,rfl,fun a E=>?_⟩
   refine mv E rfl fun a E=>lw E (qaj rfl rfl) fun a E=>lw E (qaj rfl rfl) fun a E=>av E rfl fun a E=>aw E rfl fun a E=>wp_seq ?_
   refine sg<|mv E rfl fun a E=>mv E rfl fun a E=>?_
   obtain ⟨r29,e30,hF⟩:=bnd hF
   replace ok:Ok u m0 ([(pb1,oc 3 [vi x1])] :: [(pb2,oc 3 [vi x2])] :: [(pb0,oc 88 [vs r19.s,vi r19.at_,vi r19.relations,vi r19.e])] :: S) w:=(ok.pk 3 [1,2,0] rfl (by decide))
   refine qcb E rfl qmA rfl (qdw N r26.1 r28 x1 r5 x2 r6 e30 hG ok) rfl rfl ?_
   rintro _ w ⟨⟨rfl,ok⟩,r31⟩
   refine ⟨_,rfl,fun a E=>?_⟩
   refine aw E rfl fun a E=>sg<|mv E rfl fun a E=>lw E (qaU rfl rfl) fun a E=>wpList_nil ?_
   refine qaa<|cf E rfl hF (fun hc32 hF=>?_) fun hc32 hF=>?_
   ·refine sg<|mv E rfl fun a E=>mv E rfl fun a E=>?_
    obtain ⟨r33,e34,hF⟩:=bnd hF
    replace ok:Ok u m0 ([(pb0,oc 88 [vs r19.s,vi r19.at_,vi r19.relations,vi r19.e])] :: [(pb1,oc 3 [vi x1])] :: [(pb2,oc 3 [vi x2])] :: S) w:=(ok.pk 3 [2,0,1] rfl (by decide))
    refine qah E qcQ rfl (qaw N r29 r31 r19 l21 r22 r23 r24 e34 hG ok) rfl rfl ?_
    rintro _ w ⟨⟨rfl,ok⟩,l35,r36,r37,r38⟩
    refine ⟨_,rfl,fun a E=>?_⟩
    refine wn<|sg<|aw E rfl fun a E=>wp_ret ?_
    refine qaf ?_
    exact fin hF ⟨ok,E.d,⟨rv_t E rfl,trivial⟩,(ir 0),l35,r36,r37,r38⟩
   refine wp_skip<|qaa<|sg<|mv E rfl fun a E=>lw E (qap rfl) fun a E=>fv E qaW rfl fun a E=>ld E ok qaB 2 rfl rfl rfl fun a E=>?_
   refine mv E rfl fun a E=>lw E (qaK Tryz.underlying9 rfl) fun a E=>lw E (qbi rfl rfl) fun a E=>lw E (qap rfl) fun a E=>fv E qaW rfl fun a E=>qae E ok 2 rfl rfl rfl qbU rfl rfl ⟨rfl,trivial⟩ rfl rfl fun w ok=>wn ?_
   refine sg<|mv E rfl fun a E=>aw E rfl fun a E=>wp_ret ?_
   exact fin hF ⟨(ok.pk 3 [2,0,1] rfl (by decide)),E.d,⟨rv_t E rfl,trivial⟩,r28,l21,(InR.wrap _ _),r23,r24⟩
 replace hF:=qar hc18 hF
 replace E:=E.upd 13 hc18 rfl
 refine mv E rfl fun a E=>?_
 obtain ⟨c39,e40,hF⟩:=bnd hF
 refine lv E ok (qbt Tryz.underlying9 rfl rfl e40) fun a E=>?_
 obtain ⟨r41,e42,hF⟩:=bnd hF
 refine lc E qmH rfl (qfK N (c39.toNat:Int) (InR.byte c39) e42 hG ok) fun w ok a E=>lw E (qaO rfl) fun a E=>pf E rfl rfl fun a E=>mv E rfl fun a E=>qas (!r41) (fun hc43=>?_) (fun hc43=>?_)
 ·as_aux_lemma =>
   replace hF:=qaq hc43 hF
   replace E:=E.upd 19 hc43 rfl
   refine ls E fun a E=>ls E fun a E=>ls E fun a E=>pt E rfl rfl fun a E=>mv E rfl fun a E=>ls E fun a E=>ls E fun a E=>ls E fun a E=>?_
   refine ls E fun a E=>ls E fun a E=>ls E fun a E=>ls E fun a E=>ls E fun a E=>pt E rfl rfl fun a E=>wn ?_
   refine c_if E rfl (fun _=>?_) (fun h=>by cases h)
   refine qab<|mv E rfl fun a E=>?_
   obtain ⟨r44,e45,hF⟩:=bnd hF
   refine qah E qcQ rfl (qaw N 3 (ir 3) r11.2 l14 r15 r16 r17 e45 hG ok) rfl rfl ?_
   rintro _ w ⟨⟨rfl,ok⟩,l46,r47,r48,r49⟩
   refine ⟨_,rfl,fun a E=>?_⟩
   refine wn<|wp_seq<|sg<|mv E rfl fun a E=>lw E (qap rfl) fun a E=>fv E qcc rfl fun a E=>?_
   refine ld E ok qc1 0 rfl rfl rfl fun a E=>lw E (qaU rfl rfl) fun a E=>wn<|cf E rfl hF (fun hc50 hF=>?_) fun hc50 hF=>?_
   ·refine sg<|aw E rfl fun a E=>wp_ret<|qaf ?_
    exact fin hF ⟨ok,E.d,⟨rv_t E rfl,trivial⟩,(ir 0),l46,r47,r48,r49⟩
   refine wp_skip<|qaa<|sg<|mv E rfl fun a E=>?_
   obtain ⟨r51,e52,hF⟩:=bnd hF
   refine qah E qfy rfl (qbs N r11.1 l13 e52 hG ok) rfl rfl ?_
   rintro _ w ⟨⟨rfl,ok⟩,r53⟩
   refine ⟨_,rfl,fun a E=>?_⟩
   refine mv E rfl fun a E=>lw E (qaj rfl rfl) fun a E=>lw E (qaj rfl rfl) fun a E=>av E rfl fun a E=>aw E rfl fun a E=>wp_seq ?_
   refine sg<|mv E rfl fun a E=>mv E rfl fun a E=>?_
   obtain ⟨r54,e55,hF⟩:=bnd hF
   replace ok:Ok u m0 ([(pb1,oc 3 [vi x1])] :: [(pb2,oc 3 [vi x2])] :: [(pb0,oc 88 [vs r44.s,vi r44.at_,vi r44.relations,vi r44.e])] :: S) w:=(ok.pk 3 [1,2,0] rfl (by decide))
   refine qcb E rfl qmA rfl (qdw N r51.1 r53 x1 r5 x2 r6 e55 hG ok) rfl rfl ?_
   rintro _ w ⟨⟨rfl,ok⟩,r56⟩
   refine ⟨_,rfl,fun a E=>?_⟩
   refine aw E rfl fun a E=>sg<|mv E rfl fun a E=>lw E (qaU rfl rfl) fun a E=>wpList_nil ?_
   refine qaa<|cf E rfl hF (fun hc57 hF=>?_) fun hc57 hF=>?_
   ·refine sg<|mv E rfl fun a E=>mv E rfl fun a E=>?_
    obtain ⟨r58,e59,hF⟩:=bnd hF
    replace ok:Ok u m0 ([(pb0,oc 88 [vs r44.s,vi r44.at_,vi r44.relations,vi r44.e])] :: [(pb1,oc 3 [vi x1])] :: [(pb2,oc 3 [vi x2])] :: S) w:=(ok.pk 3 [2,0,1] rfl (by decide))
    refine qah E qcQ rfl (qaw N r54 r56 r44 l46 r47 r48 r49 e59 hG ok) rfl rfl ?_
    rintro _ w ⟨⟨rfl,ok⟩,l60,r61,r62,r63⟩
    refine ⟨_,rfl,fun a E=>?_⟩
    refine wn<|sg<|aw E rfl fun a E=>wp_ret ?_
    refine qaf ?_
    exact fin hF ⟨ok,E.d,⟨rv_t E rfl,trivial⟩,(ir 0),l60,r61,r62,r63⟩
   refine wp_skip<|qaa<|sg<|mv E rfl fun a E=>lw E (qap rfl) fun a E=>fv E qaW rfl fun a E=>ld E ok qaB 2 rfl rfl rfl fun a E=>?_
   refine mv E rfl fun a E=>lw E (qaK Tryz.underlying9 rfl) fun a E=>lw E (qbi rfl rfl) fun a E=>lw E (qap rfl) fun a E=>fv E qaW rfl fun a E=>qae E ok 2 rfl rfl rfl qbU rfl rfl ⟨rfl,trivial⟩ rfl rfl fun w ok=>wn ?_
   refine sg<|mv E rfl fun a E=>aw E rfl fun a E=>wp_ret ?_
   exact fin hF ⟨(ok.pk 3 [2,0,1] rfl (by decide)),E.d,⟨rv_t E rfl,trivial⟩,r53,l46,(InR.wrap _ _),r48,r49⟩
 replace hF:=qar hc43 hF
 replace E:=E.upd 19 hc43 rfl
 refine mv E rfl fun a E=>lw E (qaK Tryz.underlying9 rfl) fun a E=>lw E (qa2 rfl rfl) fun a E=>pf E rfl rfl fun a E=>mv E rfl fun a E=>qas (decide ((r11.1.length:Int) > 3)) (fun hc64=>?_) (fun hc64=>?_)
 ·as_aux_lemma =>
   replace hF:=qaq hc64 hF
   replace E:=E.upd 24 hc64 rfl
   refine ls E fun a E=>ls E fun a E=>ls E fun a E=>ls E fun a E=>ls E fun a E=>ls E fun a E=>ls E fun a E=>ls E fun a E=>?_
   refine pt E rfl rfl fun a E=>wn<|c_if E rfl (fun _=>?_) (fun h=>by cases h)
   refine qab<|mv E rfl fun a E=>?_
   obtain ⟨r65,e66,hF⟩:=bnd hF
   refine qah E qcQ rfl (qaw N 3 (ir 3) r11.2 l14 r15 r16 r17 e66 hG ok) rfl rfl ?_
   rintro _ w ⟨⟨rfl,ok⟩,l67,r68,r69,r70⟩
   refine ⟨_,rfl,fun a E=>?_⟩
   refine wn<|wp_seq<|sg<|mv E rfl fun a E=>lw E (qap rfl) fun a E=>fv E qcc rfl fun a E=>?_
   refine ld E ok qc1 0 rfl rfl rfl fun a E=>lw E (qaU rfl rfl) fun a E=>wn<|cf E rfl hF (fun hc71 hF=>?_) fun hc71 hF=>?_
   ·refine sg<|aw E rfl fun a E=>wp_ret<|qaf ?_
    exact fin hF ⟨ok,E.d,⟨rv_t E rfl,trivial⟩,(ir 0),l67,r68,r69,r70⟩
   refine wp_skip<|qaa<|sg<|mv E rfl fun a E=>?_
   obtain ⟨r72,e73,hF⟩:=bnd hF
   refine qah E qfy rfl (qbs N r11.1 l13 e73 hG ok) rfl rfl ?_
   rintro _ w ⟨⟨rfl,ok⟩,r74⟩
   refine ⟨_,rfl,fun a E=>?_⟩
   refine mv E rfl fun a E=>lw E (qaj rfl rfl) fun a E=>lw E (qaj rfl rfl) fun a E=>av E rfl fun a E=>aw E rfl fun a E=>wp_seq ?_
   refine sg<|mv E rfl fun a E=>mv E rfl fun a E=>?_
   obtain ⟨r75,e76,hF⟩:=bnd hF
   replace ok:Ok u m0 ([(pb1,oc 3 [vi x1])] :: [(pb2,oc 3 [vi x2])] :: [(pb0,oc 88 [vs r65.s,vi r65.at_,vi r65.relations,vi r65.e])] :: S) w:=(ok.pk 3 [1,2,0] rfl (by decide))
   refine qcb E rfl qmA rfl (qdw N r72.1 r74 x1 r5 x2 r6 e76 hG ok) rfl rfl ?_
   rintro _ w ⟨⟨rfl,ok⟩,r77⟩
   refine ⟨_,rfl,fun a E=>?_⟩
   refine aw E rfl fun a E=>sg<|mv E rfl fun a E=>lw E (qaU rfl rfl) fun a E=>wpList_nil ?_
   refine qaa<|cf E rfl hF (fun hc78 hF=>?_) fun hc78 hF=>?_
   ·refine sg<|mv E rfl fun a E=>mv E rfl fun a E=>?_
    obtain ⟨r79,e80,hF⟩:=bnd hF
    replace ok:Ok u m0 ([(pb0,oc 88 [vs r65.s,vi r65.at_,vi r65.relations,vi r65.e])] :: [(pb1,oc 3 [vi x1])] :: [(pb2,oc 3 [vi x2])] :: S) w:=(ok.pk 3 [2,0,1] rfl (by decide))
    refine qah E qcQ rfl (qaw N r75 r77 r65 l67 r68 r69 r70 e80 hG ok) rfl rfl ?_
    rintro _ w ⟨⟨rfl,ok⟩,l81,r82,r83,r84⟩
    refine ⟨_,rfl,fun a E=>?_⟩
    refine wn<|sg<|aw E rfl fun a E=>wp_ret ?_
    refine qaf ?_
    exact fin hF ⟨ok,E.d,⟨rv_t E rfl,trivial⟩,(ir 0),l81,r82,r83,r84⟩
   refine wp_skip<|qaa<|sg<|mv E rfl fun a E=>lw E (qap rfl) fun a E=>fv E qaW rfl fun a E=>ld E ok qaB 2 rfl rfl rfl fun a E=>?_
   refine mv E rfl fun a E=>lw E (qaK Tryz.underlying9 rfl) fun a E=>lw E (qbi rfl rfl) fun a E=>lw E (qap rfl) fun a E=>fv E qaW rfl fun a E=>qae E ok 2 rfl rfl rfl qbU rfl rfl ⟨rfl,trivial⟩ rfl rfl fun w ok=>wn ?_
   refine sg<|mv E rfl fun a E=>aw E rfl fun a E=>wp_ret ?_
   exact fin hF ⟨(ok.pk 3 [2,0,1] rfl (by decide)),E.d,⟨rv_t E rfl,trivial⟩,r74,l67,(InR.wrap _ _),r69,r70⟩
 replace hF:=qar hc64 hF
 replace E:=E.upd 24 hc64 rfl
 refine mv E rfl fun a E=>lw E (qaK Tryz.underlying9 rfl) fun a E=>lw E (qa2 rfl rfl) fun a E=>mv E rfl fun a E=>qas (decide ((r11.1.length:Int) > 1)) (fun hc85=>?_) (fun hc85=>?_)
 rotate_left
 ·as_aux_lemma =>
   replace hF:=qar hc85 hF
   replace E:=E.upd 28 hc85 rfl
   refine ls E fun a E=>ls E fun a E=>ls E fun a E=>pf E rfl rfl fun a E=>pf E rfl rfl fun a E=>wn<|c_if E rfl (fun h=>by cases h) (fun _=>?_)
   refine wp_skip<|qaa<|wp_seq<|sg<|mv E rfl fun a E=>lw E (qap rfl) fun a E=>fv E qcc rfl fun a E=>?_
   refine ld E ok qc1 0 rfl rfl rfl fun a E=>lw E (qaU rfl rfl) fun a E=>wn<|cf E rfl hF (fun hc118 hF=>?_) fun hc118 hF=>?_
   ·refine sg<|aw E rfl fun a E=>wp_ret<|qaf ?_
    exact fin hF ⟨ok,E.d,⟨rv_t E rfl,trivial⟩,(ir 0),l14,r15,r16,r17⟩
   refine wp_skip<|qaa<|sg<|mv E rfl fun a E=>?_
   obtain ⟨r119,e120,hF⟩:=bnd hF
   refine qah E qfy rfl (qbs N r11.1 l13 e120 hG ok) rfl rfl ?_
   rintro _ w ⟨⟨rfl,ok⟩,r121⟩
   refine ⟨_,rfl,fun a E=>?_⟩
   refine mv E rfl fun a E=>lw E (qaj rfl rfl) fun a E=>lw E (qaj rfl rfl) fun a E=>av E rfl fun a E=>aw E rfl fun a E=>wp_seq ?_
   refine sg<|mv E rfl fun a E=>mv E rfl fun a E=>?_
   obtain ⟨r122,e123,hF⟩:=bnd hF
   replace ok:Ok u m0 ([(pb1,oc 3 [vi x1])] :: [(pb2,oc 3 [vi x2])] :: [(pb0,oc 88 [vs r11.2.s,vi r11.2.at_,vi r11.2.relations,vi r11.2.e])] :: S) w:=(ok.pk 3 [1,2,0] rfl (by decide))
   refine qcb E rfl qmA rfl (qdw N r119.1 r121 x1 r5 x2 r6 e123 hG ok) rfl rfl ?_
   rintro _ w ⟨⟨rfl,ok⟩,r124⟩
   refine ⟨_,rfl,fun a E=>?_⟩
   refine aw E rfl fun a E=>sg<|mv E rfl fun a E=>lw E (qaU rfl rfl) fun a E=>wpList_nil ?_
   refine qaa<|cf E rfl hF (fun hc125 hF=>?_) fun hc125 hF=>?_
   ·refine sg<|mv E rfl fun a E=>mv E rfl fun a E=>?_
    obtain ⟨r126,e127,hF⟩:=bnd hF
    replace ok:Ok u m0 ([(pb0,oc 88 [vs r11.2.s,vi r11.2.at_,vi r11.2.relations,vi r11.2.e])] :: [(pb1,oc 3 [vi x1])] :: [(pb2,oc 3 [vi x2])] :: S) w:=(ok.pk 3 [2,0,1] rfl (by decide))
    refine qah E qcQ rfl (qaw N r122 r124 r11.2 l14 r15 r16 r17 e127 hG ok) rfl rfl ?_
    rintro _ w ⟨⟨rfl,ok⟩,l128,r129,r130,r131⟩
    refine ⟨_,rfl,fun a E=>?_⟩
    refine wn<|sg<|aw E rfl fun a E=>wp_ret ?_
    refine qaf ?_
    exact fin hF ⟨ok,E.d,⟨rv_t E rfl,trivial⟩,(ir 0),l128,r129,r130,r131⟩
   refine wp_skip<|qaa<|sg<|mv E rfl fun a E=>lw E (qap rfl) fun a E=>fv E qaW rfl fun a E=>ld E ok qaB 2 rfl rfl rfl fun a E=>?_
   refine mv E rfl fun a E=>lw E (qaK Tryz.underlying9 rfl) fun a E=>lw E (qbi rfl rfl) fun a E=>lw E (qap rfl) fun a E=>fv E qaW rfl fun a E=>qae E ok 2 rfl rfl rfl qbU rfl rfl ⟨rfl,trivial⟩ rfl rfl fun w ok=>wn ?_
   refine sg<|mv E rfl fun a E=>aw E rfl fun a E=>wp_ret ?_
   exact fin hF ⟨(ok.pk 3 [2,0,1] rfl (by decide)),E.d,⟨rv_t E rfl,trivial⟩,r121,l14,(InR.wrap _ _),r16,r17⟩
 replace hF:=qaq hc85 hF
 replace E:=E.upd 28 hc85 rfl
 refine mv E rfl fun a E=>?_
 obtain ⟨c86,e87,hF⟩:=bnd hF
 refine lv E ok (qbt Tryz.underlying9 rfl rfl e87) fun a E=>lw E (qaI rfl rfl) fun a E=>pt E rfl rfl fun a E=>pf E rfl rfl fun a E=>wn ?_
 obtain ⟨o88,hJ,hF⟩:=bnd hF
 refine qaT (Q':=fun e a w=>e = .normal ∧ Ok u m0 ([(pb0,oc 88 [vs o88.s,vi o88.at_,vi o88.relations,vi o88.e])] :: [(pb1,oc 3 [vi x1])] :: [(pb2,oc 3 [vi x2])] :: S) w ∧ Env 64 a [(0,vp pb0),(1,(Value.func (.func 128) #[] #[.pointer (some ⟨pb1,0,none⟩),.pointer (some ⟨pb2,0,none⟩)])),(5,vs r11.1)] ∧ o88.s.length ≤ LIMS ∧ InR .i64 o88.at_ ∧ InR .i64 o88.relations ∧ InR .i64 o88.e) ?_ ?_
 ·replace hF:=hJ
  clear hJ
  refine cf E rfl hF (fun hc93 hF=>?_) fun hc93 hF=>?_
  rotate_left
  ·refine wp_skip ?_
   obtain rfl:=sj hF
   exact ⟨rfl,⟨ok,E.keep [0,1,5],l14,r15,r16,r17⟩⟩
  refine qab<|mv E rfl fun a E=>?_
  obtain ⟨r94,e95,hF⟩:=bnd hF
  refine qah E qcQ rfl (qaw N 3 (ir 3) r11.2 l14 r15 r16 r17 e95 hG ok) rfl rfl ?_
  rintro _ w ⟨⟨rfl,ok⟩,l96,r97,r98,r99⟩
  refine ⟨_,rfl,fun a E=>?_⟩
  refine wpList_nil ?_
  obtain rfl:=sj hF
  exact ⟨rfl,⟨ok,E.keep [0,1,5],l96,r97,r98,r99⟩⟩
 clear hJ
 intro e a w hO
 obtain ⟨rfl,ok,E,l100,r101,r102,r103⟩:=hO
 refine qaa<|wp_seq<|sg<|mv E rfl fun a E=>lw E (qap rfl) fun a E=>fv E qcc rfl fun a E=>ld E ok qc1 0 rfl rfl rfl fun a E=>?_
 refine lw E (qaU rfl rfl) fun a E=>wn<|cf E rfl hF (fun hc104 hF=>?_) fun hc104 hF=>?_
 ·refine sg<|aw E rfl fun a E=>wp_ret<|qaf ?_
  exact fin hF ⟨ok,E.d,⟨rv_t E rfl,trivial⟩,(ir 0),l100,r101,r102,r103⟩
 refine wp_skip<|qaa<|sg<|mv E rfl fun a E=>?_
 obtain ⟨r105,e106,hF⟩:=bnd hF
 refine qah E qfy rfl (qbs N r11.1 l13 e106 hG ok) rfl rfl ?_
 rintro _ w ⟨⟨rfl,ok⟩,r107⟩
 refine ⟨_,rfl,fun a E=>?_⟩
 refine mv E rfl fun a E=>lw E (qaj rfl rfl) fun a E=>lw E (qaj rfl rfl) fun a E=>av E rfl fun a E=>aw E rfl fun a E=>wp_seq ?_
 refine sg<|mv E rfl fun a E=>mv E rfl fun a E=>?_
 obtain ⟨r108,e109,hF⟩:=bnd hF
 replace ok:Ok u m0 ([(pb1,oc 3 [vi x1])] :: [(pb2,oc 3 [vi x2])] :: [(pb0,oc 88 [vs o88.s,vi o88.at_,vi o88.relations,vi o88.e])] :: S) w:=(ok.pk 3 [1,2,0] rfl (by decide))
 refine qcb E rfl qmA rfl (qdw N r105.1 r107 x1 r5 x2 r6 e109 hG ok) rfl rfl ?_
 rintro _ w ⟨⟨rfl,ok⟩,r110⟩
 refine ⟨_,rfl,fun a E=>?_⟩
 refine aw E rfl fun a E=>sg<|mv E rfl fun a E=>lw E (qaU rfl rfl) fun a E=>wpList_nil ?_
 refine qaa<|cf E rfl hF (fun hc111 hF=>?_) fun hc111 hF=>?_
 ·refine sg<|mv E rfl fun a E=>mv E rfl fun a E=>?_
  obtain ⟨r112,e113,hF⟩:=bnd hF
  replace ok:Ok u m0 ([(pb0,oc 88 [vs o88.s,vi o88.at_,vi o88.relations,vi o88.e])] :: [(pb1,oc 3 [vi x1])] :: [(pb2,oc 3 [vi x2])] :: S) w:=(ok.pk 3 [2,0,1] rfl (by decide))
  refine qah E qcQ rfl (qaw N r108 r110 o88 l100 r101 r102 r103 e113 hG ok) rfl rfl ?_
  rintro _ w ⟨⟨rfl,ok⟩,l114,r115,r116,r117⟩
  refine ⟨_,rfl,fun a E=>?_⟩
  refine wn<|sg<|aw E rfl fun a E=>wp_ret ?_
  refine qaf ?_
  exact fin hF ⟨ok,E.d,⟨rv_t E rfl,trivial⟩,(ir 0),l114,r115,r116,r117⟩
 refine wp_skip<|qaa<|sg<|mv E rfl fun a E=>lw E (qap rfl) fun a E=>fv E qaW rfl fun a E=>ld E ok qaB 2 rfl rfl rfl fun a E=>?_
 refine mv E rfl fun a E=>lw E (qaK Tryz.underlying9 rfl) fun a E=>lw E (qbi rfl rfl) fun a E=>lw E (qap rfl) fun a E=>fv E qaW rfl fun a E=>qae E ok 2 rfl rfl rfl qbU rfl rfl ⟨rfl,trivial⟩ rfl rfl fun w ok=>wn ?_
 refine sg<|mv E rfl fun a E=>aw E rfl fun a E=>wp_ret ?_
 exact fin hF ⟨(ok.pk 3 [2,0,1] rfl (by decide)),E.d,⟨rv_t E rfl,trivial⟩,r107,l100,(InR.wrap _ _),r102,r103⟩
def qjJ (u:World) (m0:Mem) (S:Segs) (pb0:Nat) (pb1:Nat) (x0:Int) (x1:Span) (r:Int) (a:Act) (w:World):Prop :=
 Ok u m0 ([(pb0,oc 3 [vi x0])] :: [(pb1,oc 49 [vi x1.From,vi x1.To])] :: S) w ∧ a.defers = [] ∧ RVs Tryz.prog a w [.t 4 (.int .i64 r)] ∧ InR .i64 r
theorem qdv (N:Nat) (n_0:Int) (rn_0:InR .i64 n_0) {pb0:Nat} (x0:Int) (r1:InR .i64 x0) {pb1:Nat} (x1:Span) (r2:InR .i64 x1.From) (r3:InR .i64 x1.To) {r:Int} (hF:qcq N n_0 x0 x1 = some r) (hG:Glob u) (ok:Ok u m0 ([(pb0,oc 3 [vi x0])] :: [(pb1,oc 49 [vi x1.From,vi x1.To])] :: S) w) :
  Calls Tryz.prog 129 [vi n_0,vp pb0,vp pb1].toArray w fun e w'=>(e = .returned (.int .i64 r) ∧ Ok u m0 ([(pb0,oc 3 [vi x0])] :: [(pb1,oc 49 [vi x1.From,vi x1.To])] :: S) w') ∧ InR .i64 r:=by
 unfold qcq at hF
 refine en (qjJ u m0 S pb0 pb1 x0 x1) r Tryz.func129 rfl rfl rfl (by rintro a w ⟨ok,hd,hrv,h0⟩; exact qav [.t 4 (.int .i64 r)] hd rfl hrv ⟨⟨rfl,ok⟩,h0⟩) fun fin a E=>sg<|aw E rfl fun a E=>wp_seq<|wp_seq ?_
 refine qab<|mv E rfl fun a E=>ld E ok qaB 0 rfl rfl rfl fun a E=>?_
 obtain ⟨r4,e5,hF⟩:=bnd hF
 refine qah E qp3 rfl (qdQ N x0 r1 e5 hG ok) rfl rfl ?_
 rintro _ w ⟨⟨rfl,ok⟩,r6⟩
 refine ⟨_,rfl,fun a E=>?_⟩
 refine lw E (qa2 rfl rfl) fun a E=>mv E rfl fun a E=>qas (decide (n_0 > r4)) (fun hc7=>?_) (fun hc7=>?_)
 ·replace hF:=qaq hc7 hF
  replace E:=E.upd 9 hc7 rfl
  refine ls E fun a E=>ls E fun a E=>ls E fun a E=>ls E fun a E=>pt E rfl rfl fun a E=>wn<|c_if E rfl (fun _=>?_) (fun h=>by cases h)
  refine sg<|aw E rfl fun a E=>wp_ret<|qaf ?_
  exact fin hF ⟨ok,E.d,⟨rv_t E rfl,trivial⟩,(ir 2)⟩
 replace hF:=qar hc7 hF
 replace E:=E.upd 9 hc7 rfl
 refine mv E rfl fun a E=>fv E qgr rfl fun a E=>ld E ok qaB 1 rfl rfl rfl fun a E=>lw E (qaF rfl rfl) fun a E=>pf E rfl rfl fun a E=>wn<|cf E rfl hF (fun hc8 hF=>?_) fun hc8 hF=>?_
 ·refine sg<|aw E rfl fun a E=>wp_ret<|qaf ?_
  exact fin hF ⟨ok,E.d,⟨rv_t E rfl,trivial⟩,(ir 2)⟩
 refine wp_skip<|qaa<|sg<|aw E rfl fun a E=>wp_ret ?_
 exact fin hF ⟨ok,E.d,⟨rv_t E rfl,trivial⟩,(ir 0)⟩
def qiQ (u:World) (m0:Mem) (S:Segs) (pb0:Nat) (pb1:Nat) (pb2:Nat) (x0:Parser) (x1:Int) (x2:Span) (r:Int × Parser) (a:Act) (w:World):Prop :=
 Ok u m0 ([(pb0,oc 88 [vs r.2.s,vi r.2.at_,vi r.2.relations,vi r.2.e])] :: [(pb1,oc 3 [vi x1])] :: [(pb2,oc 49 [vi x2.From,vi x2.To])] :: S) w ∧ a.defers = [] ∧ RVs Tryz.prog a w [.t 4 (.int .i64 r.1)] ∧ InR .i64 r.1 ∧ r.2.s.length ≤ LIMS ∧ InR .i64 r.2.at_ ∧ InR .i64 r.2.relations ∧ InR .i64 r.2.e
theorem qix (N:Nat) {pb0:Nat} (x0:Parser) (l1:x0.s.length ≤ LIMS) (r2:InR .i64 x0.at_) (r3:InR .i64 x0.relations) (r4:InR .i64 x0.e) {pb1:Nat} (x1:Int) (r5:InR .i64 x1) {pb2:Nat} (x2:Span) (r6:InR .i64 x2.From) (r7:InR .i64 x2.To) {r:Int × Parser} (hF:qeZ N x0 x1 x2 = some r) (hG:Glob u) (ok:Ok u m0 ([(pb0,oc 88 [vs x0.s,vi x0.at_,vi x0.relations,vi x0.e])] :: [(pb1,oc 3 [vi x1])] :: [(pb2,oc 49 [vi x2.From,vi x2.To])] :: S) w) :
  Calls Tryz.prog 97 [vp pb0,Value.func (.func 129) #[] #[.pointer (some ⟨pb1,0,none⟩),.pointer (some ⟨pb2,0,none⟩)]].toArray w fun e w'=>(e = .returned (.int .i64 r.1) ∧ Ok u m0 ([(pb0,oc 88 [vs r.2.s,vi r.2.at_,vi r.2.relations,vi r.2.e])] :: [(pb1,oc 3 [vi x1])] :: [(pb2,oc 49 [vi x2.From,vi x2.To])] :: S) w') ∧ InR .i64 r.1 ∧ r.2.s.length ≤ LIMS ∧ InR .i64 r.2.at_ ∧ InR .i64 r.2.relations ∧ InR .i64 r.2.e:=by
 unfold qeZ at hF
 refine en (qiQ u m0 S pb0 pb1 pb2 x0 x1 x2) r Tryz.func97 rfl rfl rfl (by rintro a w ⟨ok,hd,hrv,h0,h1,h2,h3,h4⟩; exact qav [.t 4 (.int .i64 r.1)] hd rfl hrv ⟨⟨rfl,ok⟩,h0,h1,h2,h3,h4⟩) fun fin a E=>sg<|aw E rfl fun a E=>sg ?_
 refine mv E rfl fun a E=>?_
 obtain ⟨r12,e13,hF⟩:=bnd hF
 refine qah E qnl rfl (qc3 N x0 l1 r2 r3 r4 e13 hG ok) rfl rfl ?_
 rintro _ w ⟨⟨rfl,ok⟩,l14,l15,r16,r17,r18⟩
 refine ⟨_,rfl,fun a E=>?_⟩
 refine aw E rfl fun a E=>wp_seq<|sg<|mv E rfl fun a E=>lw E (qer rfl rfl) fun a E=>?_
 refine mv E rfl fun a E=>qas (r12.1 == ([])) (fun hc19=>?_) (fun hc19=>?_)
 ·as_aux_lemma =>
   replace hF:=qaq hc19 hF
   replace E:=E.upd 13 hc19 rfl
   refine ls E fun a E=>ls E fun a E=>ls E fun a E=>ls E fun a E=>pt E rfl rfl fun a E=>mv E rfl fun a E=>ls E fun a E=>ls E fun a E=>?_
   refine ls E fun a E=>pt E rfl rfl fun a E=>mv E rfl fun a E=>ls E fun a E=>ls E fun a E=>ls E fun a E=>ls E fun a E=>ls E fun a E=>?_
   refine ls E fun a E=>ls E fun a E=>ls E fun a E=>pt E rfl rfl fun a E=>wn<|c_if E rfl (fun _=>?_) (fun h=>by cases h)
   refine qab<|mv E rfl fun a E=>?_
   obtain ⟨r20,e21,hF⟩:=bnd hF
   refine qah E qcQ rfl (qaw N 3 (ir 3) r12.2 l15 r16 r17 r18 e21 hG ok) rfl rfl ?_
   rintro _ w ⟨⟨rfl,ok⟩,l22,r23,r24,r25⟩
   refine ⟨_,rfl,fun a E=>?_⟩
   refine wn<|wp_seq<|sg<|mv E rfl fun a E=>lw E (qap rfl) fun a E=>fv E qcc rfl fun a E=>?_
   refine ld E ok qc1 0 rfl rfl rfl fun a E=>lw E (qaU rfl rfl) fun a E=>wn<|cf E rfl hF (fun hc26 hF=>?_) fun hc26 hF=>?_
   ·refine sg<|aw E rfl fun a E=>wp_ret<|qaf ?_
    exact fin hF ⟨ok,E.d,⟨rv_t E rfl,trivial⟩,(ir 0),l22,r23,r24,r25⟩
   refine wp_skip<|qaa<|sg<|mv E rfl fun a E=>?_
   obtain ⟨r27,e28,hF⟩:=bnd hF
   refine qah E qfy rfl (qbs N r12.1 l14 e28 hG ok) rfl rfl ?_
   rintro _ w ⟨⟨rfl,ok⟩,r29⟩
   refine ⟨_,rfl,fun a E=>?_⟩
   refine mv E rfl fun a E=>lw E (qaj rfl rfl) fun a E=>lw E (qaj rfl rfl) fun a E=>av E rfl fun a E=>aw E rfl fun a E=>wp_seq ?_
   refine sg<|mv E rfl fun a E=>mv E rfl fun a E=>?_
   obtain ⟨r30,e31,hF⟩:=bnd hF
   replace ok:Ok u m0 ([(pb1,oc 3 [vi x1])] :: [(pb2,oc 49 [vi x2.From,vi x2.To])] :: [(pb0,oc 88 [vs r20.s,vi r20.at_,vi r20.relations,vi r20.e])] :: S) w:=(ok.pk 3 [1,2,0] rfl (by decide))
   refine qcb E rfl qmP rfl (qdv N r27.1 r29 x1 r5 x2 r6 r7 e31 hG ok) rfl rfl ?_
   rintro _ w ⟨⟨rfl,ok⟩,r32⟩
   refine ⟨_,rfl,fun a E=>?_⟩
   refine aw E rfl fun a E=>sg<|mv E rfl fun a E=>lw E (qaU rfl rfl) fun a E=>wpList_nil ?_
   refine qaa<|cf E rfl hF (fun hc33 hF=>?_) fun hc33 hF=>?_
   ·refine sg<|mv E rfl fun a E=>mv E rfl fun a E=>?_
    obtain ⟨r34,e35,hF⟩:=bnd hF
    replace ok:Ok u m0 ([(pb0,oc 88 [vs r20.s,vi r20.at_,vi r20.relations,vi r20.e])] :: [(pb1,oc 3 [vi x1])] :: [(pb2,oc 49 [vi x2.From,vi x2.To])] :: S) w:=(ok.pk 3 [2,0,1] rfl (by decide))
    refine qah E qcQ rfl (qaw N r30 r32 r20 l22 r23 r24 r25 e35 hG ok) rfl rfl ?_
    rintro _ w ⟨⟨rfl,ok⟩,l36,r37,r38,r39⟩
    refine ⟨_,rfl,fun a E=>?_⟩
    refine wn<|sg<|aw E rfl fun a E=>wp_ret ?_
    refine qaf ?_
    exact fin hF ⟨ok,E.d,⟨rv_t E rfl,trivial⟩,(ir 0),l36,r37,r38,r39⟩
   refine wp_skip<|qaa<|sg<|mv E rfl fun a E=>lw E (qap rfl) fun a E=>fv E qaW rfl fun a E=>ld E ok qaB 2 rfl rfl rfl fun a E=>?_
   refine mv E rfl fun a E=>lw E (qaK Tryz.underlying9 rfl) fun a E=>lw E (qbi rfl rfl) fun a E=>lw E (qap rfl) fun a E=>fv E qaW rfl fun a E=>qae E ok 2 rfl rfl rfl qbU rfl rfl ⟨rfl,trivial⟩ rfl rfl fun w ok=>wn ?_
   refine sg<|mv E rfl fun a E=>aw E rfl fun a E=>wp_ret ?_
   exact fin hF ⟨(ok.pk 3 [2,0,1] rfl (by decide)),E.d,⟨rv_t E rfl,trivial⟩,r29,l22,(InR.wrap _ _),r24,r25⟩
 replace hF:=qar hc19 hF
 replace E:=E.upd 13 hc19 rfl
 refine mv E rfl fun a E=>?_
 obtain ⟨c40,e41,hF⟩:=bnd hF
 refine lv E ok (qbt Tryz.underlying9 rfl rfl e41) fun a E=>?_
 obtain ⟨r42,e43,hF⟩:=bnd hF
 refine lc E qmH rfl (qfK N (c40.toNat:Int) (InR.byte c40) e43 hG ok) fun w ok a E=>lw E (qaO rfl) fun a E=>pf E rfl rfl fun a E=>mv E rfl fun a E=>qas (!r42) (fun hc44=>?_) (fun hc44=>?_)
 ·as_aux_lemma =>
   replace hF:=qaq hc44 hF
   replace E:=E.upd 19 hc44 rfl
   refine ls E fun a E=>ls E fun a E=>ls E fun a E=>pt E rfl rfl fun a E=>mv E rfl fun a E=>ls E fun a E=>ls E fun a E=>ls E fun a E=>?_
   refine ls E fun a E=>ls E fun a E=>ls E fun a E=>ls E fun a E=>ls E fun a E=>pt E rfl rfl fun a E=>wn ?_
   refine c_if E rfl (fun _=>?_) (fun h=>by cases h)
   refine qab<|mv E rfl fun a E=>?_
   obtain ⟨r45,e46,hF⟩:=bnd hF
   refine qah E qcQ rfl (qaw N 3 (ir 3) r12.2 l15 r16 r17 r18 e46 hG ok) rfl rfl ?_
   rintro _ w ⟨⟨rfl,ok⟩,l47,r48,r49,r50⟩
   refine ⟨_,rfl,fun a E=>?_⟩
   refine wn<|wp_seq<|sg<|mv E rfl fun a E=>lw E (qap rfl) fun a E=>fv E qcc rfl fun a E=>?_
   refine ld E ok qc1 0 rfl rfl rfl fun a E=>lw E (qaU rfl rfl) fun a E=>wn<|cf E rfl hF (fun hc51 hF=>?_) fun hc51 hF=>?_
   ·refine sg<|aw E rfl fun a E=>wp_ret<|qaf ?_
    exact fin hF ⟨ok,E.d,⟨rv_t E rfl,trivial⟩,(ir 0),l47,r48,r49,r50⟩
   refine wp_skip<|qaa<|sg<|mv E rfl fun a E=>?_
   obtain ⟨r52,e53,hF⟩:=bnd hF
   refine qah E qfy rfl (qbs N r12.1 l14 e53 hG ok) rfl rfl ?_
   rintro _ w ⟨⟨rfl,ok⟩,r54⟩
   refine ⟨_,rfl,fun a E=>?_⟩
   refine mv E rfl fun a E=>lw E (qaj rfl rfl) fun a E=>lw E (qaj rfl rfl) fun a E=>av E rfl fun a E=>aw E rfl fun a E=>wp_seq ?_
   refine sg<|mv E rfl fun a E=>mv E rfl fun a E=>?_
   obtain ⟨r55,e56,hF⟩:=bnd hF
   replace ok:Ok u m0 ([(pb1,oc 3 [vi x1])] :: [(pb2,oc 49 [vi x2.From,vi x2.To])] :: [(pb0,oc 88 [vs r45.s,vi r45.at_,vi r45.relations,vi r45.e])] :: S) w:=(ok.pk 3 [1,2,0] rfl (by decide))
   refine qcb E rfl qmP rfl (qdv N r52.1 r54 x1 r5 x2 r6 r7 e56 hG ok) rfl rfl ?_
   rintro _ w ⟨⟨rfl,ok⟩,r57⟩
   refine ⟨_,rfl,fun a E=>?_⟩
   refine aw E rfl fun a E=>sg<|mv E rfl fun a E=>lw E (qaU rfl rfl) fun a E=>wpList_nil ?_
   refine qaa<|cf E rfl hF (fun hc58 hF=>?_) fun hc58 hF=>?_
   ·refine sg<|mv E rfl fun a E=>mv E rfl fun a E=>?_
    obtain ⟨r59,e60,hF⟩:=bnd hF
    replace ok:Ok u m0 ([(pb0,oc 88 [vs r45.s,vi r45.at_,vi r45.relations,vi r45.e])] :: [(pb1,oc 3 [vi x1])] :: [(pb2,oc 49 [vi x2.From,vi x2.To])] :: S) w:=(ok.pk 3 [2,0,1] rfl (by decide))
    refine qah E qcQ rfl (qaw N r55 r57 r45 l47 r48 r49 r50 e60 hG ok) rfl rfl ?_
    rintro _ w ⟨⟨rfl,ok⟩,l61,r62,r63,r64⟩
    refine ⟨_,rfl,fun a E=>?_⟩
    refine wn<|sg<|aw E rfl fun a E=>wp_ret ?_
    refine qaf ?_
    exact fin hF ⟨ok,E.d,⟨rv_t E rfl,trivial⟩,(ir 0),l61,r62,r63,r64⟩
   refine wp_skip<|qaa<|sg<|mv E rfl fun a E=>lw E (qap rfl) fun a E=>fv E qaW rfl fun a E=>ld E ok qaB 2 rfl rfl rfl fun a E=>?_
   refine mv E rfl fun a E=>lw E (qaK Tryz.underlying9 rfl) fun a E=>lw E (qbi rfl rfl) fun a E=>lw E (qap rfl) fun a E=>fv E qaW rfl fun a E=>qae E ok 2 rfl rfl rfl qbU rfl rfl ⟨rfl,trivial⟩ rfl rfl fun w ok=>wn ?_
   refine sg<|mv E rfl fun a E=>aw E rfl fun a E=>wp_ret ?_
   exact fin hF ⟨(ok.pk 3 [2,0,1] rfl (by decide)),E.d,⟨rv_t E rfl,trivial⟩,r54,l47,(InR.wrap _ _),r49,r50⟩
 replace hF:=qar hc44 hF
 replace E:=E.upd 19 hc44 rfl
 refine mv E rfl fun a E=>lw E (qaK Tryz.underlying9 rfl) fun a E=>lw E (qa2 rfl rfl) fun a E=>pf E rfl rfl fun a E=>mv E rfl fun a E=>qas (decide ((r12.1.length:Int) > 3)) (fun hc65=>?_) (fun hc65=>?_)
 ·as_aux_lemma =>
   replace hF:=qaq hc65 hF
   replace E:=E.upd 24 hc65 rfl
   refine ls E fun a E=>ls E fun a E=>ls E fun a E=>ls E fun a E=>ls E fun a E=>ls E fun a E=>ls E fun a E=>ls E fun a E=>?_
   refine pt E rfl rfl fun a E=>wn<|c_if E rfl (fun _=>?_) (fun h=>by cases h)
   refine qab<|mv E rfl fun a E=>?_
   obtain ⟨r66,e67,hF⟩:=bnd hF
   refine qah E qcQ rfl (qaw N 3 (ir 3) r12.2 l15 r16 r17 r18 e67 hG ok) rfl rfl ?_
   rintro _ w ⟨⟨rfl,ok⟩,l68,r69,r70,r71⟩
   refine ⟨_,rfl,fun a E=>?_⟩
   refine wn<|wp_seq<|sg<|mv E rfl fun a E=>lw E (qap rfl) fun a E=>fv E qcc rfl fun a E=>?_
   refine ld E ok qc1 0 rfl rfl rfl fun a E=>lw E (qaU rfl rfl) fun a E=>wn<|cf E rfl hF (fun hc72 hF=>?_) fun hc72 hF=>?_
   ·refine sg<|aw E rfl fun a E=>wp_ret<|qaf ?_
    exact fin hF ⟨ok,E.d,⟨rv_t E rfl,trivial⟩,(ir 0),l68,r69,r70,r71⟩
   refine wp_skip<|qaa<|sg<|mv E rfl fun a E=>?_
   obtain ⟨r73,e74,hF⟩:=bnd hF
   refine qah E qfy rfl (qbs N r12.1 l14 e74 hG ok) rfl rfl ?_
   rintro _ w ⟨⟨rfl,ok⟩,r75⟩
   refine ⟨_,rfl,fun a E=>?_⟩
   refine mv E rfl fun a E=>lw E (qaj rfl rfl) fun a E=>lw E (qaj rfl rfl) fun a E=>av E rfl fun a E=>aw E rfl fun a E=>wp_seq ?_
   refine sg<|mv E rfl fun a E=>mv E rfl fun a E=>?_
   obtain ⟨r76,e77,hF⟩:=bnd hF
   replace ok:Ok u m0 ([(pb1,oc 3 [vi x1])] :: [(pb2,oc 49 [vi x2.From,vi x2.To])] :: [(pb0,oc 88 [vs r66.s,vi r66.at_,vi r66.relations,vi r66.e])] :: S) w:=(ok.pk 3 [1,2,0] rfl (by decide))
   refine qcb E rfl qmP rfl (qdv N r73.1 r75 x1 r5 x2 r6 r7 e77 hG ok) rfl rfl ?_
   rintro _ w ⟨⟨rfl,ok⟩,r78⟩
   refine ⟨_,rfl,fun a E=>?_⟩
   refine aw E rfl fun a E=>sg<|mv E rfl fun a E=>lw E (qaU rfl rfl) fun a E=>wpList_nil ?_
   refine qaa<|cf E rfl hF (fun hc79 hF=>?_) fun hc79 hF=>?_
   ·refine sg<|mv E rfl fun a E=>mv E rfl fun a E=>?_
    obtain ⟨r80,e81,hF⟩:=bnd hF
    replace ok:Ok u m0 ([(pb0,oc 88 [vs r66.s,vi r66.at_,vi r66.relations,vi r66.e])] :: [(pb1,oc 3 [vi x1])] :: [(pb2,oc 49 [vi x2.From,vi x2.To])] :: S) w:=(ok.pk 3 [2,0,1] rfl (by decide))
    refine qah E qcQ rfl (qaw N r76 r78 r66 l68 r69 r70 r71 e81 hG ok) rfl rfl ?_
    rintro _ w ⟨⟨rfl,ok⟩,l82,r83,r84,r85⟩
    refine ⟨_,rfl,fun a E=>?_⟩
    refine wn<|sg<|aw E rfl fun a E=>wp_ret ?_
    refine qaf ?_
    exact fin hF ⟨ok,E.d,⟨rv_t E rfl,trivial⟩,(ir 0),l82,r83,r84,r85⟩
   refine wp_skip<|qaa<|sg<|mv E rfl fun a E=>lw E (qap rfl) fun a E=>fv E qaW rfl fun a E=>ld E ok qaB 2 rfl rfl rfl fun a E=>?_
   refine mv E rfl fun a E=>lw E (qaK Tryz.underlying9 rfl) fun a E=>lw E (qbi rfl rfl) fun a E=>lw E (qap rfl) fun a E=>fv E qaW rfl fun a E=>qae E ok 2 rfl rfl rfl qbU rfl rfl ⟨rfl,trivial⟩ rfl rfl fun w ok=>wn ?_
   refine sg<|mv E rfl fun a E=>aw E rfl fun a E=>wp_ret ?_
   exact fin hF ⟨(ok.pk 3 [2,0,1] rfl (by decide)),E.d,⟨rv_t E rfl,trivial⟩,r75,l68,(InR.wrap _ _),r70,r71⟩
 replace hF:=qar hc65 hF
 replace E:=E.upd 24 hc65 rfl
 refine mv E rfl fun a E=>lw E (qaK Tryz.underlying9 rfl) fun a E=>lw E (qa2 rfl rfl) fun a E=>mv E rfl fun a E=>qas (decide ((r12.1.length:Int) > 1)) (fun hc86=>?_) (fun hc86=>?_)
 rotate_left
 ·as_aux_lemma =>
   replace hF:=qar hc86 hF
   replace E:=E.upd 28 hc86 rfl
   refine ls E fun a E=>ls E fun a E=>ls E fun a E=>pf E rfl rfl fun a E=>pf E rfl rfl fun a E=>wn<|c_if E rfl (fun h=>by cases h) (fun _=>?_)
   refine wp_skip<|qaa<|wp_seq<|sg<|mv E rfl fun a E=>lw E (qap rfl) fun a E=>fv E qcc rfl fun a E=>?_
   refine ld E ok qc1 0 rfl rfl rfl fun a E=>lw E (qaU rfl rfl) fun a E=>wn<|cf E rfl hF (fun hc119 hF=>?_) fun hc119 hF=>?_
   ·refine sg<|aw E rfl fun a E=>wp_ret<|qaf ?_
    exact fin hF ⟨ok,E.d,⟨rv_t E rfl,trivial⟩,(ir 0),l15,r16,r17,r18⟩
   refine wp_skip<|qaa<|sg<|mv E rfl fun a E=>?_
   obtain ⟨r120,e121,hF⟩:=bnd hF
   refine qah E qfy rfl (qbs N r12.1 l14 e121 hG ok) rfl rfl ?_
   rintro _ w ⟨⟨rfl,ok⟩,r122⟩
   refine ⟨_,rfl,fun a E=>?_⟩
   refine mv E rfl fun a E=>lw E (qaj rfl rfl) fun a E=>lw E (qaj rfl rfl) fun a E=>av E rfl fun a E=>aw E rfl fun a E=>wp_seq ?_
   refine sg<|mv E rfl fun a E=>mv E rfl fun a E=>?_
   obtain ⟨r123,e124,hF⟩:=bnd hF
   replace ok:Ok u m0 ([(pb1,oc 3 [vi x1])] :: [(pb2,oc 49 [vi x2.From,vi x2.To])] :: [(pb0,oc 88 [vs r12.2.s,vi r12.2.at_,vi r12.2.relations,vi r12.2.e])] :: S) w:=(ok.pk 3 [1,2,0] rfl (by decide))
   refine qcb E rfl qmP rfl (qdv N r120.1 r122 x1 r5 x2 r6 r7 e124 hG ok) rfl rfl ?_
   rintro _ w ⟨⟨rfl,ok⟩,r125⟩
   refine ⟨_,rfl,fun a E=>?_⟩
   refine aw E rfl fun a E=>sg<|mv E rfl fun a E=>lw E (qaU rfl rfl) fun a E=>wpList_nil ?_
   refine qaa<|cf E rfl hF (fun hc126 hF=>?_) fun hc126 hF=>?_
   ·refine sg<|mv E rfl fun a E=>mv E rfl fun a E=>?_
    obtain ⟨r127,e128,hF⟩:=bnd hF
    replace ok:Ok u m0 ([(pb0,oc 88 [vs r12.2.s,vi r12.2.at_,vi r12.2.relations,vi r12.2.e])] :: [(pb1,oc 3 [vi x1])] :: [(pb2,oc 49 [vi x2.From,vi x2.To])] :: S) w:=(ok.pk 3 [2,0,1] rfl (by decide))
    refine qah E qcQ rfl (qaw N r123 r125 r12.2 l15 r16 r17 r18 e128 hG ok) rfl rfl ?_
    rintro _ w ⟨⟨rfl,ok⟩,l129,r130,r131,r132⟩
    refine ⟨_,rfl,fun a E=>?_⟩
    refine wn<|sg<|aw E rfl fun a E=>wp_ret ?_
    refine qaf ?_
    exact fin hF ⟨ok,E.d,⟨rv_t E rfl,trivial⟩,(ir 0),l129,r130,r131,r132⟩
   refine wp_skip<|qaa<|sg<|mv E rfl fun a E=>lw E (qap rfl) fun a E=>fv E qaW rfl fun a E=>ld E ok qaB 2 rfl rfl rfl fun a E=>?_
   refine mv E rfl fun a E=>lw E (qaK Tryz.underlying9 rfl) fun a E=>lw E (qbi rfl rfl) fun a E=>lw E (qap rfl) fun a E=>fv E qaW rfl fun a E=>qae E ok 2 rfl rfl rfl qbU rfl rfl ⟨rfl,trivial⟩ rfl rfl fun w ok=>wn ?_
   refine sg<|mv E rfl fun a E=>aw E rfl fun a E=>wp_ret ?_
   exact fin hF ⟨(ok.pk 3 [2,0,1] rfl (by decide)),E.d,⟨rv_t E rfl,trivial⟩,r122,l15,(InR.wrap _ _),r17,r18⟩
 replace hF:=qaq hc86 hF
 replace E:=E.upd 28 hc86 rfl
 refine mv E rfl fun a E=>?_
 obtain ⟨c87,e88,hF⟩:=bnd hF
 refine lv E ok (qbt Tryz.underlying9 rfl rfl e88) fun a E=>lw E (qaI rfl rfl) fun a E=>pt E rfl rfl fun a E=>pf E rfl rfl fun a E=>wn ?_
 obtain ⟨o89,hJ,hF⟩:=bnd hF
 refine qaT (Q':=fun e a w=>e = .normal ∧ Ok u m0 ([(pb0,oc 88 [vs o89.s,vi o89.at_,vi o89.relations,vi o89.e])] :: [(pb1,oc 3 [vi x1])] :: [(pb2,oc 49 [vi x2.From,vi x2.To])] :: S) w ∧ Env 64 a [(0,vp pb0),(1,(Value.func (.func 129) #[] #[.pointer (some ⟨pb1,0,none⟩),.pointer (some ⟨pb2,0,none⟩)])),(5,vs r12.1)] ∧ o89.s.length ≤ LIMS ∧ InR .i64 o89.at_ ∧ InR .i64 o89.relations ∧ InR .i64 o89.e) ?_ ?_
 ·replace hF:=hJ
  clear hJ
  refine cf E rfl hF (fun hc94 hF=>?_) fun hc94 hF=>?_
  rotate_left
  ·refine wp_skip ?_
   obtain rfl:=sj hF
   exact ⟨rfl,⟨ok,E.keep [0,1,5],l15,r16,r17,r18⟩⟩
  refine qab<|mv E rfl fun a E=>?_
  obtain ⟨r95,e96,hF⟩:=bnd hF
  refine qah E qcQ rfl (qaw N 3 (ir 3) r12.2 l15 r16 r17 r18 e96 hG ok) rfl rfl ?_
  rintro _ w ⟨⟨rfl,ok⟩,l97,r98,r99,r100⟩
  refine ⟨_,rfl,fun a E=>?_⟩
  refine wpList_nil ?_
  obtain rfl:=sj hF
  exact ⟨rfl,⟨ok,E.keep [0,1,5],l97,r98,r99,r100⟩⟩
 clear hJ
 intro e a w hO
 obtain ⟨rfl,ok,E,l101,r102,r103,r104⟩:=hO
 refine qaa<|wp_seq<|sg<|mv E rfl fun a E=>lw E (qap rfl) fun a E=>fv E qcc rfl fun a E=>ld E ok qc1 0 rfl rfl rfl fun a E=>?_
 refine lw E (qaU rfl rfl) fun a E=>wn<|cf E rfl hF (fun hc105 hF=>?_) fun hc105 hF=>?_
 ·refine sg<|aw E rfl fun a E=>wp_ret<|qaf ?_
  exact fin hF ⟨ok,E.d,⟨rv_t E rfl,trivial⟩,(ir 0),l101,r102,r103,r104⟩
 refine wp_skip<|qaa<|sg<|mv E rfl fun a E=>?_
 obtain ⟨r106,e107,hF⟩:=bnd hF
 refine qah E qfy rfl (qbs N r12.1 l14 e107 hG ok) rfl rfl ?_
 rintro _ w ⟨⟨rfl,ok⟩,r108⟩
 refine ⟨_,rfl,fun a E=>?_⟩
 refine mv E rfl fun a E=>lw E (qaj rfl rfl) fun a E=>lw E (qaj rfl rfl) fun a E=>av E rfl fun a E=>aw E rfl fun a E=>wp_seq ?_
 refine sg<|mv E rfl fun a E=>mv E rfl fun a E=>?_
 obtain ⟨r109,e110,hF⟩:=bnd hF
 replace ok:Ok u m0 ([(pb1,oc 3 [vi x1])] :: [(pb2,oc 49 [vi x2.From,vi x2.To])] :: [(pb0,oc 88 [vs o89.s,vi o89.at_,vi o89.relations,vi o89.e])] :: S) w:=(ok.pk 3 [1,2,0] rfl (by decide))
 refine qcb E rfl qmP rfl (qdv N r106.1 r108 x1 r5 x2 r6 r7 e110 hG ok) rfl rfl ?_
 rintro _ w ⟨⟨rfl,ok⟩,r111⟩
 refine ⟨_,rfl,fun a E=>?_⟩
 refine aw E rfl fun a E=>sg<|mv E rfl fun a E=>lw E (qaU rfl rfl) fun a E=>wpList_nil ?_
 refine qaa<|cf E rfl hF (fun hc112 hF=>?_) fun hc112 hF=>?_
 ·refine sg<|mv E rfl fun a E=>mv E rfl fun a E=>?_
  obtain ⟨r113,e114,hF⟩:=bnd hF
  replace ok:Ok u m0 ([(pb0,oc 88 [vs o89.s,vi o89.at_,vi o89.relations,vi o89.e])] :: [(pb1,oc 3 [vi x1])] :: [(pb2,oc 49 [vi x2.From,vi x2.To])] :: S) w:=(ok.pk 3 [2,0,1] rfl (by decide))
  refine qah E qcQ rfl (qaw N r109 r111 o89 l101 r102 r103 r104 e114 hG ok) rfl rfl ?_
  rintro _ w ⟨⟨rfl,ok⟩,l115,r116,r117,r118⟩
  refine ⟨_,rfl,fun a E=>?_⟩
  refine wn<|sg<|aw E rfl fun a E=>wp_ret ?_
  refine qaf ?_
  exact fin hF ⟨ok,E.d,⟨rv_t E rfl,trivial⟩,(ir 0),l115,r116,r117,r118⟩
 refine wp_skip<|qaa<|sg<|mv E rfl fun a E=>lw E (qap rfl) fun a E=>fv E qaW rfl fun a E=>ld E ok qaB 2 rfl rfl rfl fun a E=>?_
 refine mv E rfl fun a E=>lw E (qaK Tryz.underlying9 rfl) fun a E=>lw E (qbi rfl rfl) fun a E=>lw E (qap rfl) fun a E=>fv E qaW rfl fun a E=>qae E ok 2 rfl rfl rfl qbU rfl rfl ⟨rfl,trivial⟩ rfl rfl fun w ok=>wn ?_
 refine sg<|mv E rfl fun a E=>aw E rfl fun a E=>wp_ret ?_
 exact fin hF ⟨(ok.pk 3 [2,0,1] rfl (by decide)),E.d,⟨rv_t E rfl,trivial⟩,r108,l101,(InR.wrap _ _),r103,r104⟩
def qkh (u:World) (m0:Mem) (S:Segs) (pb0:Nat) (x0:Parser) (r:Span × Parser) (a:Act) (w:World):Prop :=
 ∃ m1 v0,m0.le m1 ∧ Ok u m1 ([(pb0,oc 88 [vs r.2.s,vi r.2.at_,vi r.2.relations,vi r.2.e])] :: S) w ∧ a.defers = [] ∧ RVs Tryz.prog a w [.c 6 49 (.agg v0.toArray)] ∧ qeA m1 v0 r.1 ∧ r.2.s.length ≤ LIMS ∧ InR .i64 r.2.at_ ∧ InR .i64 r.2.relations ∧ InR .i64 r.2.e
theorem qh7 (N:Nat) (operand_1:Int) (roperand_1:InR .i64 operand_1) (count_2:Int) (rcount_2:InR .i64 count_2) {pb0:Nat} (x0:Parser) (l1:x0.s.length ≤ LIMS) (r2:InR .i64 x0.at_) (r3:InR .i64 x0.relations) (r4:InR .i64 x0.e) {r:Span × Parser} (hF:qft N operand_1 count_2 x0 = some r) (hG:Glob u) (ok:Ok u m0 ([(pb0,oc 88 [vs x0.s,vi x0.at_,vi x0.relations,vi x0.e])] :: S) w) :
  Calls Tryz.prog 99 [vp pb0,vi operand_1,vi count_2].toArray w fun e w'=>∃ m1 v0,e = .returned (.agg v0.toArray) ∧ m0.le m1 ∧ Ok u m1 ([(pb0,oc 88 [vs r.2.s,vi r.2.at_,vi r.2.relations,vi r.2.e])] :: S) w' ∧ qeA m1 v0 r.1 ∧ r.2.s.length ≤ LIMS ∧ InR .i64 r.2.at_ ∧ InR .i64 r.2.relations ∧ InR .i64 r.2.e:=by
 have le_m0:=Mem.le.refl m0
 unfold qft at hF
 refine en (qkh u m0 S pb0 x0) r Tryz.func99 rfl rfl rfl (by rintro a w ⟨m1,v0,hle,ok,hd,hrv,h0,h1,h2,h3,h4⟩; exact qav [.c 6 49 (.agg v0.toArray)] hd rfl hrv ⟨m1,v0,rfl,hle,ok,h0,h1,h2,h3,h4⟩) fun fin a E=>sg<|qcO E ok rfl rfl rfl fun b9 a w E ok=>qcO E ok rfl rfl rfl fun b10 a w E ok=>qaN E ok qe7 rfl rfl fun b11 a w E ok=>wn ?_
 refine sg<|lv E ok (qbQ (caps:=[.tmp 4,.tmp 5]) rfl) fun a E=>aw E rfl fun a E=>sg ?_
 refine mv E rfl fun a E=>mv E rfl fun a E=>?_
 obtain ⟨r12,e13,hF⟩:=bnd hF
 replace ok:Ok u m0 ([(pb0,oc 88 [vs x0.s,vi x0.at_,vi x0.relations,vi x0.e])] :: [(b9,oc 3 [vi operand_1])] :: [(b10,oc 3 [vi count_2])] :: [(b11,oc 49 [vi 0,vi 0])] :: S) w:=(ok.pk 4 [3,2,1,0] rfl (by decide))
 refine qah E qp8 rfl (qiN N x0 l1 r2 r3 r4 operand_1 roperand_1 count_2 rcount_2 e13 hG ok) rfl rfl ?_
 rintro _ w ⟨⟨rfl,ok⟩,r14,l15,r16,r17,r18⟩
 refine ⟨_,rfl,fun a E=>?_⟩
 refine lw E (qaX (ps:=[(0,.tmp 12)]) (qs:=[(0,[vi r12.1])]) (cs:=[vi r12.1,vi 0]) qe7 qpp rfl ⟨rfl,rfl,rfl,trivial⟩ rfl) fun a E=>qaN E ok qe7 rfl rfl fun b19 a w E ok=>qae E ok 0 rfl rfl rfl qiB rfl rfl ⟨rfl,rfl,trivial⟩ rfl rfl fun w ok=>wn<|sg<|fv E qgr rfl fun a E=>?_
 refine ld E ok qaB 0 rfl rfl rfl fun a E=>fv E qfW rfl fun a E=>qae E ok 0 rfl rfl rfl qbU rfl rfl ⟨rfl,trivial⟩ rfl rfl fun w ok=>wn<|wp_seq<|sg ?_
 refine mv E rfl fun a E=>?_
 obtain ⟨r20,e21,hF⟩:=bnd hF
 replace ok:Ok u m0 ([(pb0,oc 88 [vs r12.2.s,vi r12.2.at_,vi r12.2.relations,vi r12.2.e])] :: [(b19,oc 49 [vi r12.1,vi r12.1])] :: [(b9,oc 3 [vi operand_1])] :: [(b10,oc 3 [vi count_2])] :: [(b11,oc 49 [vi 0,vi 0])] :: S) w:=(ok.pk 5 [1,0,2,3,4] rfl (by decide))
 refine qah E qlR rfl (qcr N ([46,46]) (show ([46,46]:List UInt8).length ≤ LIMS by decide) r12.2 l15 r16 r17 r18 e21 hG ok) rfl rfl ?_
 rintro _ w ⟨⟨rfl,ok⟩,l22,r23,r24,r25⟩
 refine ⟨_,rfl,fun a E=>?_⟩
 refine wn<|cf E rfl hF (fun hc26 hF=>?_) fun hc26 hF=>?_
 rotate_left
 ·refine wp_skip<|qaa<|sg<|lv E ok (qao (cs:=[vi r12.1,vi r12.1]) qhL rfl rfl (qac.own 1 rfl rfl)) fun a E=>qae E ok 4 rfl rfl rfl qiB rfl rfl ⟨rfl,rfl,trivial⟩ rfl rfl fun w ok=>wn ?_
  refine wp_ret ?_
  exact fin hF ⟨m0,[vi r12.1,vi r12.1],le_m0,(ok.pk 5 [0] rfl (by decide)),E.d,⟨rv_c (cs:=[vi r12.1,vi r12.1]) E ok rfl qhL rfl (qac.own 4 rfl rfl),trivial⟩,⟨rfl,r14,r14⟩,l22,r23,r24,r25⟩
 refine qab<|mv E rfl fun a E=>lv E ok (qbQ (caps:=[.tmp 4,.tmp 8]) rfl) fun a E=>?_
 obtain ⟨r27,e28,hF⟩:=bnd hF
 replace ok:Ok u m0 ([(pb0,oc 88 [vs r20.2.s,vi r20.2.at_,vi r20.2.relations,vi r20.2.e])] :: [(b9,oc 3 [vi operand_1])] :: [(b19,oc 49 [vi r12.1,vi r12.1])] :: [(b10,oc 3 [vi count_2])] :: [(b11,oc 49 [vi 0,vi 0])] :: S) w:=(ok.pk 5 [0,2,1,3,4] rfl (by decide))
 refine qah E qp8 rfl (qix N r20.2 l22 r23 r24 r25 operand_1 roperand_1 (Span.mk r12.1 r12.1) r14 r14 e28 hG ok) rfl rfl ?_
 rintro _ w ⟨⟨rfl,ok⟩,r29,l30,r31,r32,r33⟩
 refine ⟨_,rfl,fun a E=>?_⟩
 refine fv E qfW rfl fun a E=>qae E ok 2 rfl rfl rfl qbU rfl rfl ⟨rfl,trivial⟩ rfl rfl fun w ok=>wn<|sg<|lv E ok (qao (cs:=[vi r12.1,vi r27.1]) qhL rfl rfl (qac.own 2 rfl rfl)) fun a E=>qae E ok 4 rfl rfl rfl qiB rfl rfl ⟨rfl,rfl,trivial⟩ rfl rfl fun w ok=>?_
 refine wn<|wp_ret ?_
 exact fin hF ⟨m0,[vi r12.1,vi r27.1],le_m0,(ok.pk 5 [0] rfl (by decide)),E.d,⟨rv_c (cs:=[vi r12.1,vi r27.1]) E ok rfl qhL rfl (qac.own 4 rfl rfl),trivial⟩,⟨rfl,r14,r29⟩,l30,r31,r32,r33⟩
end Go.Proofs.YtboacfcnmhnbdaaGreatDoor
