/- Texts of this proof, put together by pack.py: what its declarations name. -/
import Derived.Test.YtidfofhmnlhfjaaDoorPkAc3
import Derived.Test.YtidfofhmnlhfjaaDoorCards
import Derived.Test.YtidfofhmnlhfjaaDoorChecked
import Derived.Test.YtidfofhmnlhfjaaDoorProg
import Derived.Test.YtidfofhmnlhfjaaDoorRows
import Derived.Test.YtidfofhmnlhfjaaDoorTie
set_option linter.unusedVariables false
set_option linter.unusedSimpArgs false
namespace Go.Proofs.YtidfofhmnlhfjaaDoor
open Go.X
variable {u:World} {m0:Mem} {S:Segs} {w:World}
set_option maxHeartbeats 4000000
set_option maxRecDepth 100000
def pDFA:Rp DFA:=fun m cs x=>∃ c1 c2,cs = [.int .i64 x.Start,c1,c2] ∧ InR .i64 x.Start ∧ (pL 1 (pL 1 (pI .i64))) m [c1] x.Next ∧ (pL 1 pB) m [c2] x.Accept
theorem Arr6_Tracker.set_list {a z:Arr6_Tracker} {i:Int} {x:Tracker} (h:Arr6_Tracker.set a i x = some z):setI a.list i x = some z.list:=by
 unfold Arr6_Tracker.set at h
 cases hs:setI a.list i x with
 | none=>rw [hs] at h; cases h
 | some l =>
  rw [hs] at h
  obtain ⟨_,_,hl⟩:=qge hs
  have hn:l.length = 6:=by rw [hl,List.length_set]; rfl
  clear hl hs
  match l,hn,h with
  | [x0,x1,x2,x3,x4,x5],_,h=>cases h; rfl
def qcw:Rp Reading:=fun _ cs x=>cs = [.int .i64 x.phase,.int .i64 x.trackers.e0.a,.int .i64 x.trackers.e0.b,.int .i64 x.trackers.e1.a,.int .i64 x.trackers.e1.b,.int .i64 x.trackers.e2.a,.int .i64 x.trackers.e2.b,.int .i64 x.trackers.e3.a,.int .i64 x.trackers.e3.b,.int .i64 x.trackers.e4.a,.int .i64 x.trackers.e4.b,.int .i64 x.trackers.e5.a,.int .i64 x.trackers.e5.b] ∧ InR .i64 x.phase ∧ InR .i64 x.trackers.e0.a ∧ InR .i64 x.trackers.e0.b ∧ InR .i64 x.trackers.e1.a ∧ InR .i64 x.trackers.e1.b ∧ InR .i64 x.trackers.e2.a ∧ InR .i64 x.trackers.e2.b ∧ InR .i64 x.trackers.e3.a ∧ InR .i64 x.trackers.e3.b ∧ InR .i64 x.trackers.e4.a ∧ InR .i64 x.trackers.e4.b ∧ InR .i64 x.trackers.e5.a ∧ InR .i64 x.trackers.e5.b
theorem qoJ:Mono qcw:=⟨fun _ h=>by
 obtain ⟨e,h0,h1,h2,h3,h4,h5,h6,h7,h8,h9,h10,h11,h12⟩:=h
 exact ⟨e,h0,h1,h2,h3,h4,h5,h6,h7,h8,h9,h10,h11,h12⟩,fun h=>by
 obtain ⟨rfl,h0,h1,h2,h3,h4,h5,h6,h7,h8,h9,h10,h11,h12⟩:=h
 exact ⟨rfl,rfl,rfl,rfl,rfl,rfl,rfl,rfl,rfl,rfl,rfl,rfl,rfl,trivial⟩⟩
def qbs:Rp Arr11_Int:=fun _ cs x=>cs = [.int .i64 x.e0,.int .i64 x.e1,.int .i64 x.e2,.int .i64 x.e3,.int .i64 x.e4,.int .i64 x.e5,.int .i64 x.e6,.int .i64 x.e7,.int .i64 x.e8,.int .i64 x.e9,.int .i64 x.e10] ∧ InR .i64 x.e0 ∧ InR .i64 x.e1 ∧ InR .i64 x.e2 ∧ InR .i64 x.e3 ∧ InR .i64 x.e4 ∧ InR .i64 x.e5 ∧ InR .i64 x.e6 ∧ InR .i64 x.e7 ∧ InR .i64 x.e8 ∧ InR .i64 x.e9 ∧ InR .i64 x.e10
theorem qba:Mono qbs:=⟨fun _ h=>by
 obtain ⟨e,h0,h1,h2,h3,h4,h5,h6,h7,h8,h9,h10⟩:=h
 exact ⟨e,h0,h1,h2,h3,h4,h5,h6,h7,h8,h9,h10⟩,fun h=>by
 obtain ⟨rfl,h0,h1,h2,h3,h4,h5,h6,h7,h8,h9,h10⟩:=h
 exact ⟨rfl,rfl,rfl,rfl,rfl,rfl,rfl,rfl,rfl,rfl,rfl,trivial⟩⟩
theorem Arr11_Int.set_list {a z:Arr11_Int} {i:Int} {x:Int} (h:Arr11_Int.set a i x = some z):setI a.list i x = some z.list:=by
 unfold Arr11_Int.set at h
 cases hs:setI a.list i x with
 | none=>rw [hs] at h; cases h
 | some l =>
  rw [hs] at h
  obtain ⟨_,_,hl⟩:=qge hs
  have hn:l.length = 11:=by rw [hl,List.length_set]; rfl
  clear hl hs
  match l,hn,h with
  | [x0,x1,x2,x3,x4,x5,x6,x7,x8,x9,x10],_,h=>cases h; rfl
def qg4:Rp Table:=fun m cs x=>∃ c0 c1,cs = [c0,c1] ∧ (pL 11 qbs) m [c0] x.next ∧ (pL 1 pB) m [c1] x.accept
def pKey:Rp Key:=fun _ cs x=>cs = [.int .i64 x.class_,.int .i64 x.next.e0,.int .i64 x.next.e1,.int .i64 x.next.e2,.int .i64 x.next.e3,.int .i64 x.next.e4,.int .i64 x.next.e5,.int .i64 x.next.e6,.int .i64 x.next.e7,.int .i64 x.next.e8,.int .i64 x.next.e9,.int .i64 x.next.e10] ∧ InR .i64 x.class_ ∧ InR .i64 x.next.e0 ∧ InR .i64 x.next.e1 ∧ InR .i64 x.next.e2 ∧ InR .i64 x.next.e3 ∧ InR .i64 x.next.e4 ∧ InR .i64 x.next.e5 ∧ InR .i64 x.next.e6 ∧ InR .i64 x.next.e7 ∧ InR .i64 x.next.e8 ∧ InR .i64 x.next.e9 ∧ InR .i64 x.next.e10
theorem mKey:Mono pKey:=⟨fun _ h=>by
 obtain ⟨e,h0,h1,h2,h3,h4,h5,h6,h7,h8,h9,h10,h11⟩:=h
 exact ⟨e,h0,h1,h2,h3,h4,h5,h6,h7,h8,h9,h10,h11⟩,fun h=>by
 obtain ⟨rfl,h0,h1,h2,h3,h4,h5,h6,h7,h8,h9,h10,h11⟩:=h
 exact ⟨rfl,rfl,rfl,rfl,rfl,rfl,rfl,rfl,rfl,rfl,rfl,rfl,trivial⟩⟩
def qb5:Rp DigitsRead:=fun _ cs x=>cs = [.int .i64 x.phase,.int .i64 x.count,.bool x.zero] ∧ InR .i64 x.phase ∧ InR .i64 x.count
theorem qlX:Mono qb5:=⟨fun _ h=>by
 obtain ⟨e,h0,h1⟩:=h
 exact ⟨e,h0,h1⟩,fun h=>by
 obtain ⟨rfl,h0,h1⟩:=h
 exact ⟨rfl,rfl,rfl,trivial⟩⟩
theorem qcr:aggB Tryd.prog 33 3 = true:=by kernel_rfl
theorem qh7:aggB Tryd.prog 58 2 = true:=by kernel_rfl
theorem qdb:aggB Tryd.prog 64 13 = true:=by kernel_rfl
theorem qbN:aggB Tryd.prog 76 3 = true:=by kernel_rfl
theorem qjZ:aggB Tryd.prog 90 11 = true:=by kernel_rfl
theorem qq3:aggB Tryd.prog 95 12 = true:=by kernel_rfl
theorem qhE:ArT Tryd.prog 62 61 6 2:=ArT.of (by kernel_rfl)
theorem qhx:ArT Tryd.prog 90 3 11 1:=ArT.of (by kernel_rfl)
theorem qdW:qaV Tryd.prog 33 1 1 = true:=by kernel_rfl
theorem qfU:qaV Tryd.prog 58 0 0 = true:=by kernel_rfl
theorem qgS:qaV Tryd.prog 58 1 1 = true:=by kernel_rfl
theorem qc8:qaV Tryd.prog 64 0 0 = true:=by kernel_rfl
theorem qgQ:qaV Tryd.prog 64 1 1 = true:=by kernel_rfl
theorem qdV:qaV Tryd.prog 76 0 0 = true:=by kernel_rfl
theorem qfD:qaV Tryd.prog 76 1 1 = true:=by kernel_rfl
theorem qpo:qaV Tryd.prog 76 2 2 = true:=by kernel_rfl
theorem qsG:qaV Tryd.prog 95 1 1 = true:=by kernel_rfl
theorem qua:goB Tryd.prog 16 = true:=by kernel_rfl
theorem quv:goB Tryd.prog 17 = true:=by kernel_rfl
theorem quR:goB Tryd.prog 18 = true:=by kernel_rfl
theorem quQ:goB Tryd.prog 20 = true:=by kernel_rfl
theorem qt4:goB Tryd.prog 21 = true:=by kernel_rfl
theorem quk:goB Tryd.prog 22 = true:=by kernel_rfl
theorem quN:goB Tryd.prog 23 = true:=by kernel_rfl
theorem quI:goB Tryd.prog 25 = true:=by kernel_rfl
theorem qsd:goB Tryd.prog 27 = true:=by kernel_rfl
theorem qsg:goB Tryd.prog 28 = true:=by kernel_rfl
theorem qt1:goB Tryd.prog 31 = true:=by kernel_rfl
theorem qur:goB Tryd.prog 32 = true:=by kernel_rfl
theorem qud:goB Tryd.prog 33 = true:=by kernel_rfl
theorem quA:goB Tryd.prog 43 = true:=by kernel_rfl
theorem qtV:goB Tryd.prog 44 = true:=by kernel_rfl
theorem qt6:goB Tryd.prog 45 = true:=by kernel_rfl
theorem qqt:∃ i,Tryd.prog.info? 30 = some i ∧ i.size = 1:=⟨_,rfl,by kernel_rfl⟩
theorem qmq:∃ i,Tryd.prog.info? 31 = some i ∧ i.size = 1:=⟨_,rfl,by kernel_rfl⟩
theorem qbI:∃ i,Tryd.prog.info? 33 = some i ∧ i.size = 3:=⟨_,rfl,by kernel_rfl⟩
theorem qoA:∃ i,Tryd.prog.info? 56 = some i ∧ i.size = 1:=⟨_,rfl,by kernel_rfl⟩
theorem qle:∃ i,Tryd.prog.info? 58 = some i ∧ i.size = 2:=⟨_,rfl,by kernel_rfl⟩
theorem qgC:∃ i,Tryd.prog.info? 64 = some i ∧ i.size = 13:=⟨_,rfl,by kernel_rfl⟩
theorem qcq:∃ i,Tryd.prog.info? 76 = some i ∧ i.size = 3:=⟨_,rfl,by kernel_rfl⟩
theorem qqN:∃ i,Tryd.prog.info? 90 = some i ∧ i.size = 11:=⟨_,rfl,by kernel_rfl⟩
theorem qtP:∃ i,Tryd.prog.info? 95 = some i ∧ i.size = 12:=⟨_,rfl,by kernel_rfl⟩
theorem qde:oneB Tryd.prog 30 = true:=by kernel_rfl
theorem qdK:oneB Tryd.prog 31 = true:=by kernel_rfl
theorem qh5:oneB Tryd.prog 56 = true:=by kernel_rfl
theorem qci:qeQ Tryd.prog 33 = some [(0,1),(1,1),(2,1)]:=by kernel_rfl
theorem qif:qeQ Tryd.prog 64 = some [(0,1),(1,12)]:=by kernel_rfl
theorem qbl:qeQ Tryd.prog 76 = some [(0,1),(1,1),(2,1)]:=by kernel_rfl
theorem qrc:qeQ Tryd.prog 95 = some [(0,1),(1,11)]:=by kernel_rfl
theorem qiU:SlT Tryd.prog 104 76 3:=SlT.of (by kernel_rfl)
theorem qcP:SlT Tryd.prog 30 83 1:=SlT.of (by kernel_rfl)
theorem qgN:SlT Tryd.prog 56 90 11:=SlT.of (by kernel_rfl)
theorem qku:SlT Tryd.prog 89 64 13:=SlT.of (by kernel_rfl)
theorem qiJ:qmJ Tryd.prog 3 = some (vi 0):=by kernel_rfl
theorem qa0:qco Tryd.prog 33 = some [vi 0,(Value.slice none 0 0),(Value.slice none 0 0)]:=by kernel_rfl
theorem qhv:qco Tryd.prog 58 = some [(Value.slice none 0 0),(Value.slice none 0 0)]:=by kernel_rfl
theorem qf2:qco Tryd.prog 64 = some [vi 0,vi 0,vi 0,vi 0,vi 0,vi 0,vi 0,vi 0,vi 0,vi 0,vi 0,vi 0,vi 0]:=by kernel_rfl
theorem qbw:qco Tryd.prog 76 = some [vi 0,vi 0,vb false]:=by kernel_rfl
theorem qfT:qco Tryd.prog 90 = some [vi 0,vi 0,vi 0,vi 0,vi 0,vi 0,vi 0,vi 0,vi 0,vi 0,vi 0]:=by kernel_rfl
theorem qpi:qco Tryd.prog 95 = some [vi 0,vi 0,vi 0,vi 0,vi 0,vi 0,vi 0,vi 0,vi 0,vi 0,vi 0,vi 0]:=by kernel_rfl
theorem qjJ:laidOutB Tryd.prog = true:=by kernel_rfl
theorem qm1:KeyR Tryd.prog 64 (aggK qcw):=qqX (n:=13) qjJ (of_decide_eq_true (by kernel_rfl)) (by kernel_rfl) (of_decide_eq_true (by kernel_rfl)) (of_decide_eq_true (by kernel_rfl)) (by kernel_rfl) (by kernel_rfl)
 (fun {m cs x} h=>by
  obtain ⟨rfl,h0,h1,h2,h3,h4,h5,h6,h7,h8,h9,h10,h11,h12⟩:=h
  rfl)
 (fun {m cs x} d h=>by
  obtain ⟨rfl,h0,h1,h2,h3,h4,h5,h6,h7,h8,h9,h10,h11,h12⟩:=h
  refine qid Tryd.underlying64 (by kernel_rfl) (by kernel_rfl) ?_
  intro f hf
  simp only [List.mem_cons,List.not_mem_nil,or_false] at hf
  rcases hf with rfl | rfl
  ·exact qg6 Tryd.underlying3 h0
  ·exact qsV (k:=2) (f:=(fun z:Tracker=>[.int .i64 z.a,.int .i64 z.b])) (xs:=Arr6_Tracker.list (x.trackers)) Tryd.underlying62 (by kernel_rfl) (by kernel_rfl) rfl rfl (fun _=>rfl) (fun y hy=>by have hq:=AllP.mem (q:=(fun z:Tracker=>InR .i64 z.a ∧ InR .i64 z.b)) (xs:=Arr6_Tracker.list (x.trackers)) ⟨⟨h1,h2⟩,⟨h3,h4⟩,⟨h5,h6⟩,⟨h7,h8⟩,⟨h9,h10⟩,⟨h11,h12⟩,trivial⟩ y hy; refine qid Tryd.underlying61 (by kernel_rfl) (by kernel_rfl) ?_; intro f hf; simp only [List.mem_cons,List.not_mem_nil,or_false] at hf; rcases hf with rfl | rfl <;> first | exact qg6 Tryd.underlying3 hq.1 | exact qg6 Tryd.underlying3 hq.2))
 (fun {m m' cs cs' x x'} h h'=>by
  obtain ⟨rfl,_,_,_,_,_,_,_,_,_,_,_,_,_⟩:=h
  obtain ⟨rfl,_,_,_,_,_,_,_,_,_,_,_,_,_⟩:=h'
  constructor
  ·intro e; simp at e; rcases x with ⟨y0,⟨⟨y1,y2⟩,⟨y3,y4⟩,⟨y5,y6⟩,⟨y7,y8⟩,⟨y9,y10⟩,⟨y11,y12⟩⟩⟩; rcases x' with ⟨y13,⟨⟨y14,y15⟩,⟨y16,y17⟩,⟨y18,y19⟩,⟨y20,y21⟩,⟨y22,y23⟩,⟨y24,y25⟩⟩⟩; simp_all
  ·intro e; rw [e])
theorem qne:KeyR Tryd.prog 76 (aggK qb5):=qj3 (n:=3) qjJ (of_decide_eq_true (by kernel_rfl)) (by kernel_rfl) (of_decide_eq_true (by kernel_rfl)) (of_decide_eq_true (by kernel_rfl)) (by kernel_rfl) (by kernel_rfl)
 (fun {m cs x} h=>by
  obtain ⟨rfl,h0,h1⟩:=h
  rfl)
 (fun {m cs x} d h=>by
  obtain ⟨rfl,h0,h1⟩:=h
  refine qid Tryd.underlying76 (by kernel_rfl) (by kernel_rfl) ?_
  intro f hf
  simp only [List.mem_cons,List.not_mem_nil,or_false] at hf
  rcases hf with rfl | rfl | rfl
  ·exact qg6 Tryd.underlying3 h0
  ·exact qg6 Tryd.underlying3 h1
  ·exact qsQ Tryd.underlying4 _)
 (fun {m m' cs cs' x x'} h h'=>by
  obtain ⟨rfl,_,_⟩:=h
  obtain ⟨rfl,_,_⟩:=h'
  constructor
  ·intro e; simp at e; rcases x with ⟨y0,y1,y2⟩; rcases x' with ⟨y3,y4,y5⟩; simp_all
  ·intro e; rw [e])
theorem qpQ:KeyR Tryd.prog 95 (aggK pKey):=qj3 (n:=12) qjJ (of_decide_eq_true (by kernel_rfl)) (by kernel_rfl) (of_decide_eq_true (by kernel_rfl)) (of_decide_eq_true (by kernel_rfl)) (by kernel_rfl) (by kernel_rfl)
 (fun {m cs x} h=>by
  obtain ⟨rfl,h0,h1,h2,h3,h4,h5,h6,h7,h8,h9,h10,h11⟩:=h
  rfl)
 (fun {m cs x} d h=>by
  obtain ⟨rfl,h0,h1,h2,h3,h4,h5,h6,h7,h8,h9,h10,h11⟩:=h
  refine qid Tryd.underlying95 (by kernel_rfl) (by kernel_rfl) ?_
  intro f hf
  simp only [List.mem_cons,List.not_mem_nil,or_false] at hf
  rcases hf with rfl | rfl
  ·exact qg6 Tryd.underlying3 h0
  ·exact qon (f:=(Value.int .i64)) (xs:=Arr11_Int.list (x.next)) Tryd.underlying90 (by kernel_rfl) (by kernel_rfl) rfl rfl (fun y hy=>by have hq:=AllP.mem (q:=(InR .i64)) (xs:=Arr11_Int.list (x.next)) ⟨h1,h2,h3,h4,h5,h6,h7,h8,h9,h10,h11,trivial⟩ y hy; exact qg6 Tryd.underlying3 hq))
 (fun {m m' cs cs' x x'} h h'=>by
  obtain ⟨rfl,_,_,_,_,_,_,_,_,_,_,_,_⟩:=h
  obtain ⟨rfl,_,_,_,_,_,_,_,_,_,_,_,_⟩:=h'
  constructor
  ·intro e; simp at e; rcases x with ⟨y0,⟨y1,y2,y3,y4,y5,y6,y7,y8,y9,y10,y11⟩⟩; rcases x' with ⟨y12,⟨y13,y14,y15,y16,y17,y18,y19,y20,y21,y22,y23⟩⟩; simp_all
  ·intro e; rw [e])
def qjY (u:World) (m0:Mem) (S:Segs) (r:Reading) (a:Act) (w:World):Prop :=
 ∃ m1 v0,m0.le m1 ∧ Ok u m1 S w ∧ a.defers = [] ∧ RVs Tryd.prog a w [.c 6 64 (.agg v0.toArray)] ∧ qcw m1 v0 r
theorem qjy (N:Nat) (vs_0:List Value) (s_0:Reading) (hs_0:qcw m0 vs_0 s_0) (vl_1:Value) (l_1:List (Relation)) (hl_1:(pL 4 qan) m0 [vl_1] l_1) (symbol_2:Int) (rsymbol_2:InR .i64 symbol_2) {r:Reading} (hF:qfv N s_0 l_1 symbol_2 = some r) (ok:Ok u m0 S w) :
  Calls Tryd.prog 22 [.agg vs_0.toArray,vl_1,vi symbol_2].toArray w fun e w'=>∃ m1 v0,e = .returned (.agg v0.toArray) ∧ m0.le m1 ∧ Ok u m1 S w' ∧ qcw m1 v0 r:=by
 obtain ⟨rfl,r1,r2,r3,r4,r5,r6,r7,r8,r9,r10,r11,r12,r13⟩:=hs_0
 have le_m0:=Mem.le.refl m0
 unfold qfv at hF
 refine en (qjY u m0 S) r Tryd.func22 rfl rfl rfl (by rintro a w ⟨m1,v0,hle,ok,hd,hrv,h0⟩; exact qbC [.c 6 64 (.agg v0.toArray)] hd rfl hrv ⟨m1,v0,rfl,hle,ok,h0⟩) fun fin a E=>sg<|qbQ E ok rfl rfl rfl fun b14 a w E ok=>qaw E ok qf2 rfl rfl fun b15 a w E ok=>wn<|wp_seq<|wp_block<|sg<|mv E rfl fun a E=>lw E (qax rfl rfl) fun a E=>mv E rfl fun a E=>bw E 12 hF (fun c16 hF E=>?_) fun c16 hF E=>?_
 ·as_aux_lemma =>
   refine lsq E fun a E=>ls E fun a E=>pf E rfl rfl fun a E=>aw E rfl fun a E=>c_if E rfl (fun h=>by cases h) (fun _=>?_)
   refine sg<|mv E rfl fun a E=>lw E (qax rfl rfl) fun a E=>mv E rfl fun a E=>bu E 22 hF (fun c333 hF E=>?_) fun c333 hF E=>?_
   ·refine lsq E fun a E=>ls E fun a E=>pt E rfl rfl fun a E=>aw E rfl fun a E=>c_if E rfl (fun _=>?_) (fun h=>by cases h)
    refine sg<|lw E (qaG (ps:=[(0,.const (vi 4))]) (qs:=[(0,[vi 4])]) (cs:=[vi 4,vi 0,vi 0,vi 0,vi 0,vi 0,vi 0,vi 0,vi 0,vi 0,vi 0,vi 0,vi 0]) qf2 qif rfl ⟨rfl,rfl,rfl,trivial⟩ rfl) fun a E=>qaf E ok 0 rfl rfl rfl qgC rfl rfl ⟨rfl,rfl,rfl,rfl,rfl,rfl,rfl,rfl,rfl,rfl,rfl,rfl,rfl,trivial⟩ rfl rfl fun w ok=>wn<|wp_ret<|qaI<|qav ?_
    exact fin hF ⟨m0,[vi 4,vi 0,vi 0,vi 0,vi 0,vi 0,vi 0,vi 0,vi 0,vi 0,vi 0,vi 0,vi 0],le_m0,ok.drop.drop,E.d,⟨rv_c (cs:=[vi 4,vi 0,vi 0,vi 0,vi 0,vi 0,vi 0,vi 0,vi 0,vi 0,vi 0,vi 0,vi 0]) E ok rfl qdb rfl (qab.own 0 rfl rfl),trivial⟩,⟨rfl,(ir 4),(ir 0),(ir 0),(ir 0),(ir 0),(ir 0),(ir 0),(ir 0),(ir 0),(ir 0),(ir 0),(ir 0),(ir 0)⟩⟩
   refine fk E ok qc8 qam rfl 1 rfl rfl fun a E=>lw E (qax rfl rfl) fun a E=>pf E rfl rfl fun a E=>aw E rfl fun a E=>cf E rfl hF (fun c334 hF=>?_) fun c334 hF=>?_
   ·refine sg<|lw E (qaG (ps:=[(0,.const (vi 4))]) (qs:=[(0,[vi 4])]) (cs:=[vi 4,vi 0,vi 0,vi 0,vi 0,vi 0,vi 0,vi 0,vi 0,vi 0,vi 0,vi 0,vi 0]) qf2 qif rfl ⟨rfl,rfl,rfl,trivial⟩ rfl) fun a E=>qaf E ok 0 rfl rfl rfl qgC rfl rfl ⟨rfl,rfl,rfl,rfl,rfl,rfl,rfl,rfl,rfl,rfl,rfl,rfl,rfl,trivial⟩ rfl rfl fun w ok=>wn<|wp_ret<|qaI<|qav ?_
    exact fin hF ⟨m0,[vi 4,vi 0,vi 0,vi 0,vi 0,vi 0,vi 0,vi 0,vi 0,vi 0,vi 0,vi 0,vi 0],le_m0,ok.drop.drop,E.d,⟨rv_c (cs:=[vi 4,vi 0,vi 0,vi 0,vi 0,vi 0,vi 0,vi 0,vi 0,vi 0,vi 0,vi 0,vi 0]) E ok rfl qdb rfl (qab.own 0 rfl rfl),trivial⟩,⟨rfl,(ir 4),(ir 0),(ir 0),(ir 0),(ir 0),(ir 0),(ir 0),(ir 0),(ir 0),(ir 0),(ir 0),(ir 0),(ir 0)⟩⟩
   refine wp_skip<|qap<|qaa<|wp_seq<|sg<|fk E ok qc8 qam rfl 1 rfl rfl fun a E=>lw E (qax rfl rfl) fun a E=>mv E rfl fun a E=>bu E 31 hF (fun c335 hF E=>?_) fun c335 hF E=>?_
   ·as_aux_lemma =>
     refine lsq E fun a E=>ls E fun a E=>pt E rfl rfl fun a E=>wn<|c_if E rfl (fun _=>?_) (fun h=>by cases h)
     refine qac<|fv E qc8 rfl fun a E=>qaf E ok 1 rfl rfl rfl qbp rfl rfl ⟨rfl,trivial⟩ rfl rfl fun w ok=>wn<|wp_seq<|sg<|mv E rfl fun a E=>lv E ok (qaz qbr hl_1 rfl) fun a E=>mv E rfl fun a E=>wn<|wp_block<|bd hF fun o351 hL hF=>qaH _ (fun (s:Int × Reading) a w=>∃ m352,m0.le m352 ∧ Ok u m352 ([(b15,oc 64 [vi 0,vi 0,vi 0,vi 0,vi 0,vi 0,vi 0,vi 0,vi 0,vi 0,vi 0,vi 0,vi 0])] :: [(b14,oc 64 [vi s.2.phase,vi s.2.trackers.e0.a,vi s.2.trackers.e0.b,vi s.2.trackers.e1.a,vi s.2.trackers.e1.b,vi s.2.trackers.e2.a,vi s.2.trackers.e2.b,vi s.2.trackers.e3.a,vi s.2.trackers.e3.b,vi s.2.trackers.e4.a,vi s.2.trackers.e4.b,vi s.2.trackers.e5.a,vi s.2.trackers.e5.b])] :: S) w ∧ Env 60 a [(2,vi symbol_2),(3,vp b14),(6,vp b15),(38,vl_1),(39,(vi (l_1.length:Int))),(40,vi s.1)] ∧ InR .i64 s.1 ∧ InR .i64 s.2.phase ∧ InR .i64 s.2.trackers.e0.a ∧ InR .i64 s.2.trackers.e0.b ∧ InR .i64 s.2.trackers.e1.a ∧ InR .i64 s.2.trackers.e1.b ∧ InR .i64 s.2.trackers.e2.a ∧ InR .i64 s.2.trackers.e2.b ∧ InR .i64 s.2.trackers.e3.a ∧ InR .i64 s.2.trackers.e3.b ∧ InR .i64 s.2.trackers.e4.a ∧ InR .i64 s.2.trackers.e4.b ∧ InR .i64 s.2.trackers.e5.a ∧ InR .i64 s.2.trackers.e5.b) (fun (b:Reading) e a w=>e = (.exit 1) ∧ ∃ m464,m0.le m464 ∧ Ok u m464 ([(b15,oc 64 [vi 0,vi 0,vi 0,vi 0,vi 0,vi 0,vi 0,vi 0,vi 0,vi 0,vi 0,vi 0,vi 0])] :: [(b14,oc 64 [vi b.phase,vi b.trackers.e0.a,vi b.trackers.e0.b,vi b.trackers.e1.a,vi b.trackers.e1.b,vi b.trackers.e2.a,vi b.trackers.e2.b,vi b.trackers.e3.a,vi b.trackers.e3.b,vi b.trackers.e4.a,vi b.trackers.e4.b,vi b.trackers.e5.a,vi b.trackers.e5.b])] :: S) w ∧ Env 60 a [(3,vp b14),(6,vp b15)] ∧ InR .i64 b.phase ∧ InR .i64 b.trackers.e0.a ∧ InR .i64 b.trackers.e0.b ∧ InR .i64 b.trackers.e1.a ∧ InR .i64 b.trackers.e1.b ∧ InR .i64 b.trackers.e2.a ∧ InR .i64 b.trackers.e2.b ∧ InR .i64 b.trackers.e3.a ∧ InR .i64 b.trackers.e3.b ∧ InR .i64 b.trackers.e4.a ∧ InR .i64 b.trackers.e4.b ∧ InR .i64 b.trackers.e5.a ∧ InR .i64 b.trackers.e5.b) ?_ ?_ N _ a w hL ⟨m0,Mem.le.refl _,ok,E.keep [2,3,6,38,39,40],(ir 0),(ir 1),r2,r3,r4,r5,r6,r7,r8,r9,r10,r11,r12,r13⟩
     rotate_left
     ·intro e a w _ hO
      obtain ⟨rfl,m450,hle,ok,E,r451,r452,r453,r454,r455,r456,r457,r458,r459,r460,r461,r462,r463⟩:=hO
      have le_m0:=le_m0.trans hle
      have hl_1:=(mL qad).up hle hl_1
      refine qaN<|qaa<|sg<|lv E ok (qaj (cs:=[vi o351.phase,vi o351.trackers.e0.a,vi o351.trackers.e0.b,vi o351.trackers.e1.a,vi o351.trackers.e1.b,vi o351.trackers.e2.a,vi o351.trackers.e2.b,vi o351.trackers.e3.a,vi o351.trackers.e3.b,vi o351.trackers.e4.a,vi o351.trackers.e4.b,vi o351.trackers.e5.a,vi o351.trackers.e5.b]) qdb rfl rfl (qab.own 1 rfl rfl)) fun a E=>qaf E ok 0 rfl rfl rfl qgC rfl rfl ⟨rfl,rfl,rfl,rfl,rfl,rfl,rfl,rfl,rfl,rfl,rfl,rfl,rfl,trivial⟩ rfl rfl fun w ok=>wn<|wp_ret ?_
      exact fin hF ⟨m450,[vi o351.phase,vi o351.trackers.e0.a,vi o351.trackers.e0.b,vi o351.trackers.e1.a,vi o351.trackers.e1.b,vi o351.trackers.e2.a,vi o351.trackers.e2.b,vi o351.trackers.e3.a,vi o351.trackers.e3.b,vi o351.trackers.e4.a,vi o351.trackers.e4.b,vi o351.trackers.e5.a,vi o351.trackers.e5.b],le_m0,ok.drop.drop,E.d,⟨rv_c (cs:=[vi o351.phase,vi o351.trackers.e0.a,vi o351.trackers.e0.b,vi o351.trackers.e1.a,vi o351.trackers.e1.b,vi o351.trackers.e2.a,vi o351.trackers.e2.b,vi o351.trackers.e3.a,vi o351.trackers.e3.b,vi o351.trackers.e4.a,vi o351.trackers.e4.b,vi o351.trackers.e5.a,vi o351.trackers.e5.b]) E ok rfl qdb rfl (qab.own 0 rfl rfl),trivial⟩,⟨rfl,r451,r452,r453,r454,r455,r456,r457,r458,r459,r460,r461,r462,r463⟩⟩
     rintro ⟨v367,v368⟩ a w r ⟨m369,hle,ok,E,r370,r371,r372,r373,r374,r375,r376,r377,r378,r379,r380,r381,r382,r383⟩ hF
     replace hF:qeD N l_1 symbol_2 v367 v368 = some r:=hF
     unfold qeD at hF
     have le_m0:=le_m0.trans hle
     have hl_1:=(mL qad).up hle hl_1
     refine sg<|lw E (qaC rfl rfl) fun a E=>wn<|wp_seq<|cg E rfl hF (fun c384 hF=>?_) fun c384 hF=>?_
     ·refine wp_exit<|qaE ?_
      cases hF
      exact so (⟨rfl,⟨m369,le_m0,ok,E.keep [3,6],r371,r372,r373,r374,r375,r376,r377,r378,r379,r380,r381,r382,r383⟩⟩)
     refine wp_skip<|qaa<|wp_seq<|wp_block<|sg<|mv E rfl fun a E=>?_
     obtain ⟨x385,e386,hF⟩:=bnd hF
     obtain ⟨b387,o388,es389,hl390,rr391,at392,yy393⟩:=ia E 38 40 qbr hl_1 e386
     obtain ⟨c396,rfl,r394,r395,h397⟩:=rr391
     refine lv E ok (yy393 _ _) fun a E=>lv E ok (qaj (cs:=[vi x385.Operand,vi x385.Mod,vb x385.Not,c396]) qbK rfl rfl (qab.ro at392)) fun a E=>qaw E ok qds rfl rfl fun b398 a w E ok=>av E rfl fun a E=>qaf E ok 0 rfl rfl rfl qgE rfl rfl ⟨rfl,rfl,rfl,(qa9 h397),trivial⟩ rfl rfl fun w ok=>wn<|bd hF fun o399 hJ hF=>qaO (Q':=fun e a w=>e = .normal ∧ ∃ m400,m369.le m400 ∧ Ok u m400 ([(b398,oc 54 [vi x385.Operand,vi x385.Mod,vb x385.Not,c396])] :: [(b15,oc 64 [vi 0,vi 0,vi 0,vi 0,vi 0,vi 0,vi 0,vi 0,vi 0,vi 0,vi 0,vi 0,vi 0])] :: [(b14,oc 64 [vi o399.phase,vi o399.trackers.e0.a,vi o399.trackers.e0.b,vi o399.trackers.e1.a,vi o399.trackers.e1.b,vi o399.trackers.e2.a,vi o399.trackers.e2.b,vi o399.trackers.e3.a,vi o399.trackers.e3.b,vi o399.trackers.e4.a,vi o399.trackers.e4.b,vi o399.trackers.e5.a,vi o399.trackers.e5.b])] :: S) w ∧ Env 60 a [(2,vi symbol_2),(3,vp b14),(6,vp b15),(38,vl_1),(39,(vi (l_1.length:Int))),(40,vi v367)] ∧ InR .i64 o399.phase ∧ InR .i64 o399.trackers.e0.a ∧ InR .i64 o399.trackers.e0.b ∧ InR .i64 o399.trackers.e1.a ∧ InR .i64 o399.trackers.e1.b ∧ InR .i64 o399.trackers.e2.a ∧ InR .i64 o399.trackers.e2.b ∧ InR .i64 o399.trackers.e3.a ∧ InR .i64 o399.trackers.e3.b ∧ InR .i64 o399.trackers.e4.a ∧ InR .i64 o399.trackers.e4.b ∧ InR .i64 o399.trackers.e5.a ∧ InR .i64 o399.trackers.e5.b) ?_ ?_
     rotate_left
     ·intro e a w hO
      obtain ⟨rfl,m436,hle,ok,E,r437,r438,r439,r440,r441,r442,r443,r444,r445,r446,r447,r448,r449⟩:=hO
      have le_m0:=le_m0.trans hle
      have hl_1:=(mL qad).up hle hl_1
      have h397:=(mL qdL).up hle h397
      have at392:=At.up hle at392
      refine qap<|qaa<|qac<|lw E (qaA rfl rfl (InR.inc r370 (qal hl_1) c384)) fun a E=>mv E rfl fun a E=>wpList_nil ?_
      cases hF
      exact qau ⟨m436,le_m0,(ok.pk 3 [1,2] rfl (by decide)),E.keep [2,3,6,38,39,40],(InR.inc r370 (qal hl_1) c384),r437,r438,r439,r440,r441,r442,r443,r444,r445,r446,r447,r448,r449⟩
     have hF:=hJ
     have le_m369:=Mem.le.refl m369
     obtain ⟨x414,e415,hF⟩:=bnd hF
     obtain ⟨r416,e417,hF⟩:=bnd hF
     obtain ⟨x423,e424,hF⟩:=bnd hF
     obtain ⟨z425,e426,hF⟩:=bnd hF
     obtain rfl:=sj hF
     refine qaX [4,5,7] (Cls u m369 ([(b398,oc 54 [vi x385.Operand,vi x385.Mod,vb x385.Not,c396])] :: [(b15,oc 64 [vi 0,vi 0,vi 0,vi 0,vi 0,vi 0,vi 0,vi 0,vi 0,vi 0,vi 0,vi 0,vi 0])] :: [(b14,oc 64 [vi v368.phase,vi v368.trackers.e0.a,vi v368.trackers.e0.b,vi v368.trackers.e1.a,vi v368.trackers.e1.b,vi v368.trackers.e2.a,vi v368.trackers.e2.b,vi v368.trackers.e3.a,vi v368.trackers.e3.b,vi v368.trackers.e4.a,vi v368.trackers.e4.b,vi v368.trackers.e5.a,vi v368.trackers.e5.b])] :: [])) (Cls u m369 ([(b398,oc 54 [vi x385.Operand,vi x385.Mod,vb x385.Not,c396])] :: [(b15,oc 64 [vi 0,vi 0,vi 0,vi 0,vi 0,vi 0,vi 0,vi 0,vi 0,vi 0,vi 0,vi 0,vi 0])] :: [])) (by kernel_rfl) ?_
     intro w hw
     replace ok:=qa3 ok hw
     clear hw
     have h397_o:=h397
     refine qag (cl1 (cq le_m369 ok [0,1,2] rfl) (cq le_m369 ok [0,1] rfl)) fun hT=>kt 0 E rfl hT (qah rfl) fun a E=>kt 1 E rfl hT (qah rfl) fun a E=>kt 2 E rfl hT (qae qgQ rfl) fun a E=>?_
     replace e415:idx (Arr6_Tracker.list v368.trackers) v367 = some x414:=e415
     refine kt 3 E rfl hT (qdZ qhE rfl rfl (qaL e415).1 (qaL e415).2) fun a E=>qaU 5 E rfl (by kernel_rfl) nP hT (qaj (cs:=[vi x385.Operand,vi x385.Mod,vb x385.Not,c396]) qbK rfl rfl (qab.cown 0 rfl rfl)) rfl rfl fun a E=>kt 6 E rfl hT (qae qc8 rfl) fun a E=>qaU 7 E rfl (by kernel_rfl) nP hT (qai qam rfl (qab.cown 2 rfl rfl)) rfl rfl fun a E=>kt 8 E rfl hT (qax rfl rfl) fun a E=>kt 9 E rfl hT (qah rfl) fun a E=>kt 11 E rfl hT (qae qgQ rfl) fun a E=>qar [4] (by kernel_rfl) rfl (qas ?_)
     ·refine wo rfl<|lv E ok (qaj (cs:=[vi x414.a,vi x414.b]) qbS rfl rfl (qab.idxK (k:=2) (xs:=Arr6_Tracker.list v368.trackers) (f:=(fun x:Tracker=>[vi x.a,vi x.b])) (fun _=>rfl) (qab.own 2 rfl rfl) e415)) fun a E=>wn<|qag (cl1 (cq le_m369 ok [0,1,2] rfl) (cq le_m369 ok [0,1] rfl)) fun hT=>qar [10] (by kernel_rfl) rfl (qas ?_)
      ·refine wo rfl<|qao E qms rfl (qdX N _ x414 ⟨rfl,(AllP.idx (q:=(fun z:Tracker=>InR .i64 z.a ∧ InR .i64 z.b)) (xs:=Arr6_Tracker.list v368.trackers) ⟨⟨r372,r373⟩,⟨r374,r375⟩,⟨r376,r377⟩,⟨r378,r379⟩,⟨r380,r381⟩,⟨r382,r383⟩,trivial⟩ e415).1,(AllP.idx (q:=(fun z:Tracker=>InR .i64 z.a ∧ InR .i64 z.b)) (xs:=Arr6_Tracker.list v368.trackers) ⟨⟨r372,r373⟩,⟨r374,r375⟩,⟨r376,r377⟩,⟨r378,r379⟩,⟨r380,r381⟩,⟨r382,r383⟩,trivial⟩ e415).2⟩ _ x385 ⟨_,rfl,r394,r395,h397⟩ (v368.phase == 3) symbol_2 rsymbol_2 e417 ok) rfl rfl ?_
       rintro _ w ⟨m429,vs430,rfl,hle,ok,h431⟩
       have le_m0:=le_m0.trans hle
       have le_m369:=le_m369.trans hle
       have hl_1:=(mL qad).up hle hl_1
       have h397:=(mL qdL).up hle h397
       have at392:=At.up hle at392
       obtain ⟨rfl,r432,r433⟩:=h431
       refine ⟨_,rfl,fun a E=>?_⟩
       refine wn<|qag (cl1 (cq le_m369 ok [0,1,2] rfl) (cq le_m369 ok [0,1] rfl)) fun hT=>?_
       replace e424:idx (Arr6_Tracker.list v368.trackers) v367 = some x423:=e424
       refine kt 12 E rfl hT (qdZ qhE rfl rfl (qaL e424).1 (qaL e424).2) fun a E=>qar [13] (by kernel_rfl) rfl (qas ?_)
       ·refine qbM (o:=_) rfl ?_
        have h434:=Arr6_Tracker.set_list e426
        have h435:=AllP.setI (q:=(fun z:Tracker=>InR .i64 z.a ∧ InR .i64 z.b)) (xs:=Arr6_Tracker.list v368.trackers) ⟨⟨r372,r373⟩,⟨r374,r375⟩,⟨r376,r377⟩,⟨r378,r379⟩,⟨r380,r381⟩,⟨r382,r383⟩,trivial⟩ ⟨r432,r433⟩ h434
        refine qem (c:=[vi v368.phase,vi v368.trackers.e0.a,vi v368.trackers.e0.b,vi v368.trackers.e1.a,vi v368.trackers.e1.b,vi v368.trackers.e2.a,vi v368.trackers.e2.b,vi v368.trackers.e3.a,vi v368.trackers.e3.b,vi v368.trackers.e4.a,vi v368.trackers.e4.b,vi v368.trackers.e5.a,vi v368.trackers.e5.b]) (c':=[vi v368.phase,vi z425.e0.a,vi z425.e0.b,vi z425.e1.a,vi z425.e1.b,vi z425.e2.a,vi z425.e2.b,vi z425.e3.a,vi z425.e3.b,vi z425.e4.a,vi z425.e4.b,vi z425.e5.a,vi z425.e5.b]) E ok 2 rfl rfl rfl qeq rfl rfl ⟨rfl,rfl,trivial⟩ (qlC (n:=6) (k:=2) (qaL e424).2 (Nat.le_of_ble_eq_true rfl)) (qmH (f:=(fun x:Tracker=>[vi x.a,vi x.b])) (fun _=>rfl) (pre:=[vi v368.phase]) (post:=[]) (xs:=Arr6_Tracker.list v368.trackers) (ys:=z425.list) rfl h434) rfl fun w ok=>wn<|qag (cl2 (by kernel_rfl) (cq le_m369 ok [0,1] rfl)) fun hT=>qaM (by kernel_rfl) ?_
        exact ⟨rfl,⟨m429,le_m369,ok,E.keep [2,3,6,38,39,40],r371,h435.1.1,h435.1.2,h435.2.1.1,h435.2.1.2,h435.2.2.1.1,h435.2.2.1.2,h435.2.2.2.1.1,h435.2.2.2.1.2,h435.2.2.2.2.1.1,h435.2.2.2.2.1.2,h435.2.2.2.2.2.1.1,h435.2.2.2.2.2.1.2⟩⟩
   refine fk E ok qc8 qam rfl 1 rfl rfl fun a E=>lw E (qax rfl rfl) fun a E=>pf E rfl rfl fun a E=>wn<|bd hF fun o478 hJ hF=>qaO (Q':=fun e a w=>e = .normal ∧ Ok u m0 ([(b15,oc 64 [vi 0,vi 0,vi 0,vi 0,vi 0,vi 0,vi 0,vi 0,vi 0,vi 0,vi 0,vi 0,vi 0])] :: [(b14,oc 64 [vi o478.phase,vi o478.trackers.e0.a,vi o478.trackers.e0.b,vi o478.trackers.e1.a,vi o478.trackers.e1.b,vi o478.trackers.e2.a,vi o478.trackers.e2.b,vi o478.trackers.e3.a,vi o478.trackers.e3.b,vi o478.trackers.e4.a,vi o478.trackers.e4.b,vi o478.trackers.e5.a,vi o478.trackers.e5.b])] :: S) w ∧ Env 60 a [(1,vl_1),(2,vi symbol_2),(3,vp b14),(6,vp b15)] ∧ InR .i64 o478.phase ∧ InR .i64 o478.trackers.e0.a ∧ InR .i64 o478.trackers.e0.b ∧ InR .i64 o478.trackers.e1.a ∧ InR .i64 o478.trackers.e1.b ∧ InR .i64 o478.trackers.e2.a ∧ InR .i64 o478.trackers.e2.b ∧ InR .i64 o478.trackers.e3.a ∧ InR .i64 o478.trackers.e3.b ∧ InR .i64 o478.trackers.e4.a ∧ InR .i64 o478.trackers.e4.b ∧ InR .i64 o478.trackers.e5.a ∧ InR .i64 o478.trackers.e5.b) ?_ ?_
   ·have hF:=hJ
    refine cf E rfl hF (fun c492 hF=>?_) fun c492 hF=>?_
    ·refine qac<|fv E qc8 rfl fun a E=>qaf E ok 1 rfl rfl rfl qbp rfl rfl ⟨rfl,trivial⟩ rfl rfl fun w ok=>wpList_nil ?_
     cases hF
     exact ⟨rfl,⟨ok,E.keep [1,2,3,6],(ir 1),r2,r3,r4,r5,r6,r7,r8,r9,r10,r11,r12,r13⟩⟩
    refine qac<|fv E qc8 rfl fun a E=>qaf E ok 1 rfl rfl rfl qbp rfl rfl ⟨rfl,trivial⟩ rfl rfl fun w ok=>wpList_nil ?_
    cases hF
    exact ⟨rfl,⟨ok,E.keep [1,2,3,6],(ir 3),r2,r3,r4,r5,r6,r7,r8,r9,r10,r11,r12,r13⟩⟩
   intro e a w hO
   obtain ⟨rfl,ok,E,r493,r494,r495,r496,r497,r498,r499,r500,r501,r502,r503,r504,r505⟩:=hO
   refine qaa<|wp_seq<|sg<|mv E rfl fun a E=>lv E ok (qaz qbr hl_1 rfl) fun a E=>mv E rfl fun a E=>wn<|wp_block<|bd hF fun o521 hL hF=>qaH _ (fun (s:Int × Reading) a w=>∃ m522,m0.le m522 ∧ Ok u m522 ([(b15,oc 64 [vi 0,vi 0,vi 0,vi 0,vi 0,vi 0,vi 0,vi 0,vi 0,vi 0,vi 0,vi 0,vi 0])] :: [(b14,oc 64 [vi s.2.phase,vi s.2.trackers.e0.a,vi s.2.trackers.e0.b,vi s.2.trackers.e1.a,vi s.2.trackers.e1.b,vi s.2.trackers.e2.a,vi s.2.trackers.e2.b,vi s.2.trackers.e3.a,vi s.2.trackers.e3.b,vi s.2.trackers.e4.a,vi s.2.trackers.e4.b,vi s.2.trackers.e5.a,vi s.2.trackers.e5.b])] :: S) w ∧ Env 60 a [(2,vi symbol_2),(3,vp b14),(6,vp b15),(38,vl_1),(39,(vi (l_1.length:Int))),(40,vi s.1)] ∧ InR .i64 s.1 ∧ InR .i64 s.2.phase ∧ InR .i64 s.2.trackers.e0.a ∧ InR .i64 s.2.trackers.e0.b ∧ InR .i64 s.2.trackers.e1.a ∧ InR .i64 s.2.trackers.e1.b ∧ InR .i64 s.2.trackers.e2.a ∧ InR .i64 s.2.trackers.e2.b ∧ InR .i64 s.2.trackers.e3.a ∧ InR .i64 s.2.trackers.e3.b ∧ InR .i64 s.2.trackers.e4.a ∧ InR .i64 s.2.trackers.e4.b ∧ InR .i64 s.2.trackers.e5.a ∧ InR .i64 s.2.trackers.e5.b) (fun (b:Reading) e a w=>e = (.exit 1) ∧ ∃ m634,m0.le m634 ∧ Ok u m634 ([(b15,oc 64 [vi 0,vi 0,vi 0,vi 0,vi 0,vi 0,vi 0,vi 0,vi 0,vi 0,vi 0,vi 0,vi 0])] :: [(b14,oc 64 [vi b.phase,vi b.trackers.e0.a,vi b.trackers.e0.b,vi b.trackers.e1.a,vi b.trackers.e1.b,vi b.trackers.e2.a,vi b.trackers.e2.b,vi b.trackers.e3.a,vi b.trackers.e3.b,vi b.trackers.e4.a,vi b.trackers.e4.b,vi b.trackers.e5.a,vi b.trackers.e5.b])] :: S) w ∧ Env 60 a [(3,vp b14),(6,vp b15)] ∧ InR .i64 b.phase ∧ InR .i64 b.trackers.e0.a ∧ InR .i64 b.trackers.e0.b ∧ InR .i64 b.trackers.e1.a ∧ InR .i64 b.trackers.e1.b ∧ InR .i64 b.trackers.e2.a ∧ InR .i64 b.trackers.e2.b ∧ InR .i64 b.trackers.e3.a ∧ InR .i64 b.trackers.e3.b ∧ InR .i64 b.trackers.e4.a ∧ InR .i64 b.trackers.e4.b ∧ InR .i64 b.trackers.e5.a ∧ InR .i64 b.trackers.e5.b) ?_ ?_ N _ a w hL ⟨m0,Mem.le.refl _,ok,E.keep [2,3,6,38,39,40],(ir 0),r493,r494,r495,r496,r497,r498,r499,r500,r501,r502,r503,r504,r505⟩
   rotate_left
   ·intro e a w _ hO
    obtain ⟨rfl,m620,hle,ok,E,r621,r622,r623,r624,r625,r626,r627,r628,r629,r630,r631,r632,r633⟩:=hO
    have le_m0:=le_m0.trans hle
    have hl_1:=(mL qad).up hle hl_1
    refine qaN<|qaa<|sg<|lv E ok (qaj (cs:=[vi o521.phase,vi o521.trackers.e0.a,vi o521.trackers.e0.b,vi o521.trackers.e1.a,vi o521.trackers.e1.b,vi o521.trackers.e2.a,vi o521.trackers.e2.b,vi o521.trackers.e3.a,vi o521.trackers.e3.b,vi o521.trackers.e4.a,vi o521.trackers.e4.b,vi o521.trackers.e5.a,vi o521.trackers.e5.b]) qdb rfl rfl (qab.own 1 rfl rfl)) fun a E=>qaf E ok 0 rfl rfl rfl qgC rfl rfl ⟨rfl,rfl,rfl,rfl,rfl,rfl,rfl,rfl,rfl,rfl,rfl,rfl,rfl,trivial⟩ rfl rfl fun w ok=>wn<|wp_ret ?_
    exact fin hF ⟨m620,[vi o521.phase,vi o521.trackers.e0.a,vi o521.trackers.e0.b,vi o521.trackers.e1.a,vi o521.trackers.e1.b,vi o521.trackers.e2.a,vi o521.trackers.e2.b,vi o521.trackers.e3.a,vi o521.trackers.e3.b,vi o521.trackers.e4.a,vi o521.trackers.e4.b,vi o521.trackers.e5.a,vi o521.trackers.e5.b],le_m0,ok.drop.drop,E.d,⟨rv_c (cs:=[vi o521.phase,vi o521.trackers.e0.a,vi o521.trackers.e0.b,vi o521.trackers.e1.a,vi o521.trackers.e1.b,vi o521.trackers.e2.a,vi o521.trackers.e2.b,vi o521.trackers.e3.a,vi o521.trackers.e3.b,vi o521.trackers.e4.a,vi o521.trackers.e4.b,vi o521.trackers.e5.a,vi o521.trackers.e5.b]) E ok rfl qdb rfl (qab.own 0 rfl rfl),trivial⟩,⟨rfl,r621,r622,r623,r624,r625,r626,r627,r628,r629,r630,r631,r632,r633⟩⟩
   rintro ⟨v537,v538⟩ a w r ⟨m539,hle,ok,E,r540,r541,r542,r543,r544,r545,r546,r547,r548,r549,r550,r551,r552,r553⟩ hF
   replace hF:qeC N l_1 symbol_2 v537 v538 = some r:=hF
   unfold qeC at hF
   have le_m0:=le_m0.trans hle
   have hl_1:=(mL qad).up hle hl_1
   refine sg<|lw E (qaC rfl rfl) fun a E=>wn<|wp_seq<|cg E rfl hF (fun c554 hF=>?_) fun c554 hF=>?_
   ·refine wp_exit<|qaE ?_
    cases hF
    exact so (⟨rfl,⟨m539,le_m0,ok,E.keep [3,6],r541,r542,r543,r544,r545,r546,r547,r548,r549,r550,r551,r552,r553⟩⟩)
   refine wp_skip<|qaa<|wp_seq<|wp_block<|sg<|mv E rfl fun a E=>?_
   obtain ⟨x555,e556,hF⟩:=bnd hF
   obtain ⟨b557,o558,es559,hl560,rr561,at562,yy563⟩:=ia E 38 40 qbr hl_1 e556
   obtain ⟨c566,rfl,r564,r565,h567⟩:=rr561
   refine lv E ok (yy563 _ _) fun a E=>lv E ok (qaj (cs:=[vi x555.Operand,vi x555.Mod,vb x555.Not,c566]) qbK rfl rfl (qab.ro at562)) fun a E=>qaw E ok qds rfl rfl fun b568 a w E ok=>av E rfl fun a E=>qaf E ok 0 rfl rfl rfl qgE rfl rfl ⟨rfl,rfl,rfl,(qa9 h567),trivial⟩ rfl rfl fun w ok=>wn<|bd hF fun o569 hJ hF=>qaO (Q':=fun e a w=>e = .normal ∧ ∃ m570,m539.le m570 ∧ Ok u m570 ([(b568,oc 54 [vi x555.Operand,vi x555.Mod,vb x555.Not,c566])] :: [(b15,oc 64 [vi 0,vi 0,vi 0,vi 0,vi 0,vi 0,vi 0,vi 0,vi 0,vi 0,vi 0,vi 0,vi 0])] :: [(b14,oc 64 [vi o569.phase,vi o569.trackers.e0.a,vi o569.trackers.e0.b,vi o569.trackers.e1.a,vi o569.trackers.e1.b,vi o569.trackers.e2.a,vi o569.trackers.e2.b,vi o569.trackers.e3.a,vi o569.trackers.e3.b,vi o569.trackers.e4.a,vi o569.trackers.e4.b,vi o569.trackers.e5.a,vi o569.trackers.e5.b])] :: S) w ∧ Env 60 a [(2,vi symbol_2),(3,vp b14),(6,vp b15),(38,vl_1),(39,(vi (l_1.length:Int))),(40,vi v537)] ∧ InR .i64 o569.phase ∧ InR .i64 o569.trackers.e0.a ∧ InR .i64 o569.trackers.e0.b ∧ InR .i64 o569.trackers.e1.a ∧ InR .i64 o569.trackers.e1.b ∧ InR .i64 o569.trackers.e2.a ∧ InR .i64 o569.trackers.e2.b ∧ InR .i64 o569.trackers.e3.a ∧ InR .i64 o569.trackers.e3.b ∧ InR .i64 o569.trackers.e4.a ∧ InR .i64 o569.trackers.e4.b ∧ InR .i64 o569.trackers.e5.a ∧ InR .i64 o569.trackers.e5.b) ?_ ?_
   rotate_left
   ·intro e a w hO
    obtain ⟨rfl,m606,hle,ok,E,r607,r608,r609,r610,r611,r612,r613,r614,r615,r616,r617,r618,r619⟩:=hO
    have le_m0:=le_m0.trans hle
    have hl_1:=(mL qad).up hle hl_1
    have h567:=(mL qdL).up hle h567
    have at562:=At.up hle at562
    refine qap<|qaa<|qac<|lw E (qaA rfl rfl (InR.inc r540 (qal hl_1) c554)) fun a E=>mv E rfl fun a E=>wpList_nil ?_
    cases hF
    exact qau ⟨m606,le_m0,(ok.pk 3 [1,2] rfl (by decide)),E.keep [2,3,6,38,39,40],(InR.inc r540 (qal hl_1) c554),r607,r608,r609,r610,r611,r612,r613,r614,r615,r616,r617,r618,r619⟩
   have hF:=hJ
   have le_m539:=Mem.le.refl m539
   obtain ⟨x584,e585,hF⟩:=bnd hF
   obtain ⟨r586,e587,hF⟩:=bnd hF
   obtain ⟨x593,e594,hF⟩:=bnd hF
   obtain ⟨z595,e596,hF⟩:=bnd hF
   obtain rfl:=sj hF
   refine qaX [4,5,7] (Cls u m539 ([(b568,oc 54 [vi x555.Operand,vi x555.Mod,vb x555.Not,c566])] :: [(b15,oc 64 [vi 0,vi 0,vi 0,vi 0,vi 0,vi 0,vi 0,vi 0,vi 0,vi 0,vi 0,vi 0,vi 0])] :: [(b14,oc 64 [vi v538.phase,vi v538.trackers.e0.a,vi v538.trackers.e0.b,vi v538.trackers.e1.a,vi v538.trackers.e1.b,vi v538.trackers.e2.a,vi v538.trackers.e2.b,vi v538.trackers.e3.a,vi v538.trackers.e3.b,vi v538.trackers.e4.a,vi v538.trackers.e4.b,vi v538.trackers.e5.a,vi v538.trackers.e5.b])] :: [])) (Cls u m539 ([(b568,oc 54 [vi x555.Operand,vi x555.Mod,vb x555.Not,c566])] :: [(b15,oc 64 [vi 0,vi 0,vi 0,vi 0,vi 0,vi 0,vi 0,vi 0,vi 0,vi 0,vi 0,vi 0,vi 0])] :: [])) (by kernel_rfl) ?_
   intro w hw
   replace ok:=qa3 ok hw
   clear hw
   have h567_o:=h567
   refine qag (cl1 (cq le_m539 ok [0,1,2] rfl) (cq le_m539 ok [0,1] rfl)) fun hT=>kt 0 E rfl hT (qah rfl) fun a E=>kt 1 E rfl hT (qah rfl) fun a E=>kt 2 E rfl hT (qae qgQ rfl) fun a E=>?_
   replace e585:idx (Arr6_Tracker.list v538.trackers) v537 = some x584:=e585
   refine kt 3 E rfl hT (qdZ qhE rfl rfl (qaL e585).1 (qaL e585).2) fun a E=>qaU 5 E rfl (by kernel_rfl) nP hT (qaj (cs:=[vi x555.Operand,vi x555.Mod,vb x555.Not,c566]) qbK rfl rfl (qab.cown 0 rfl rfl)) rfl rfl fun a E=>kt 6 E rfl hT (qae qc8 rfl) fun a E=>qaU 7 E rfl (by kernel_rfl) nP hT (qai qam rfl (qab.cown 2 rfl rfl)) rfl rfl fun a E=>kt 8 E rfl hT (qax rfl rfl) fun a E=>kt 9 E rfl hT (qah rfl) fun a E=>kt 11 E rfl hT (qae qgQ rfl) fun a E=>qar [4] (by kernel_rfl) rfl (qas ?_)
   ·refine wo rfl<|lv E ok (qaj (cs:=[vi x584.a,vi x584.b]) qbS rfl rfl (qab.idxK (k:=2) (xs:=Arr6_Tracker.list v538.trackers) (f:=(fun x:Tracker=>[vi x.a,vi x.b])) (fun _=>rfl) (qab.own 2 rfl rfl) e585)) fun a E=>wn<|qag (cl1 (cq le_m539 ok [0,1,2] rfl) (cq le_m539 ok [0,1] rfl)) fun hT=>qar [10] (by kernel_rfl) rfl (qas ?_)
    ·refine wo rfl<|qao E qms rfl (qdX N _ x584 ⟨rfl,(AllP.idx (q:=(fun z:Tracker=>InR .i64 z.a ∧ InR .i64 z.b)) (xs:=Arr6_Tracker.list v538.trackers) ⟨⟨r542,r543⟩,⟨r544,r545⟩,⟨r546,r547⟩,⟨r548,r549⟩,⟨r550,r551⟩,⟨r552,r553⟩,trivial⟩ e585).1,(AllP.idx (q:=(fun z:Tracker=>InR .i64 z.a ∧ InR .i64 z.b)) (xs:=Arr6_Tracker.list v538.trackers) ⟨⟨r542,r543⟩,⟨r544,r545⟩,⟨r546,r547⟩,⟨r548,r549⟩,⟨r550,r551⟩,⟨r552,r553⟩,trivial⟩ e585).2⟩ _ x555 ⟨_,rfl,r564,r565,h567⟩ (v538.phase == 3) symbol_2 rsymbol_2 e587 ok) rfl rfl ?_
     rintro _ w ⟨m599,vs600,rfl,hle,ok,h601⟩
     have le_m0:=le_m0.trans hle
     have le_m539:=le_m539.trans hle
     have hl_1:=(mL qad).up hle hl_1
     have h567:=(mL qdL).up hle h567
     have at562:=At.up hle at562
     obtain ⟨rfl,r602,r603⟩:=h601
     refine ⟨_,rfl,fun a E=>?_⟩
     refine wn<|qag (cl1 (cq le_m539 ok [0,1,2] rfl) (cq le_m539 ok [0,1] rfl)) fun hT=>?_
     replace e594:idx (Arr6_Tracker.list v538.trackers) v537 = some x593:=e594
     refine kt 12 E rfl hT (qdZ qhE rfl rfl (qaL e594).1 (qaL e594).2) fun a E=>qar [13] (by kernel_rfl) rfl (qas ?_)
     ·refine qbM (o:=_) rfl ?_
      have h604:=Arr6_Tracker.set_list e596
      have h605:=AllP.setI (q:=(fun z:Tracker=>InR .i64 z.a ∧ InR .i64 z.b)) (xs:=Arr6_Tracker.list v538.trackers) ⟨⟨r542,r543⟩,⟨r544,r545⟩,⟨r546,r547⟩,⟨r548,r549⟩,⟨r550,r551⟩,⟨r552,r553⟩,trivial⟩ ⟨r602,r603⟩ h604
      refine qem (c:=[vi v538.phase,vi v538.trackers.e0.a,vi v538.trackers.e0.b,vi v538.trackers.e1.a,vi v538.trackers.e1.b,vi v538.trackers.e2.a,vi v538.trackers.e2.b,vi v538.trackers.e3.a,vi v538.trackers.e3.b,vi v538.trackers.e4.a,vi v538.trackers.e4.b,vi v538.trackers.e5.a,vi v538.trackers.e5.b]) (c':=[vi v538.phase,vi z595.e0.a,vi z595.e0.b,vi z595.e1.a,vi z595.e1.b,vi z595.e2.a,vi z595.e2.b,vi z595.e3.a,vi z595.e3.b,vi z595.e4.a,vi z595.e4.b,vi z595.e5.a,vi z595.e5.b]) E ok 2 rfl rfl rfl qeq rfl rfl ⟨rfl,rfl,trivial⟩ (qlC (n:=6) (k:=2) (qaL e594).2 (Nat.le_of_ble_eq_true rfl)) (qmH (f:=(fun x:Tracker=>[vi x.a,vi x.b])) (fun _=>rfl) (pre:=[vi v538.phase]) (post:=[]) (xs:=Arr6_Tracker.list v538.trackers) (ys:=z595.list) rfl h604) rfl fun w ok=>wn<|qag (cl2 (by kernel_rfl) (cq le_m539 ok [0,1] rfl)) fun hT=>qaM (by kernel_rfl) ?_
      exact ⟨rfl,⟨m599,le_m539,ok,E.keep [2,3,6,38,39,40],r541,h605.1.1,h605.1.2,h605.2.1.1,h605.2.1.2,h605.2.2.1.1,h605.2.2.1.2,h605.2.2.2.1.1,h605.2.2.2.1.2,h605.2.2.2.2.1.1,h605.2.2.2.2.1.2,h605.2.2.2.2.2.1.1,h605.2.2.2.2.2.1.2⟩⟩
 refine fk E ok qc8 qam rfl 1 rfl rfl fun a E=>lw E (qax rfl rfl) fun a E=>pt E rfl rfl fun a E=>aw E rfl fun a E=>cf E rfl hF (fun c17 hF=>?_) fun c17 hF=>?_
 ·refine sg<|fv E qc8 rfl fun a E=>qaf E ok 1 rfl rfl rfl qbp rfl rfl ⟨rfl,trivial⟩ rfl rfl fun w ok=>wn<|sg<|lv E ok (qaj (cs:=[vi 2,vi s_0.trackers.e0.a,vi s_0.trackers.e0.b,vi s_0.trackers.e1.a,vi s_0.trackers.e1.b,vi s_0.trackers.e2.a,vi s_0.trackers.e2.b,vi s_0.trackers.e3.a,vi s_0.trackers.e3.b,vi s_0.trackers.e4.a,vi s_0.trackers.e4.b,vi s_0.trackers.e5.a,vi s_0.trackers.e5.b]) qdb rfl rfl (qab.own 1 rfl rfl)) fun a E=>qaf E ok 0 rfl rfl rfl qgC rfl rfl ⟨rfl,rfl,rfl,rfl,rfl,rfl,rfl,rfl,rfl,rfl,rfl,rfl,rfl,trivial⟩ rfl rfl fun w ok=>wn<|wp_ret<|qaI<|qav ?_
  exact fin hF ⟨m0,[vi 2,vi s_0.trackers.e0.a,vi s_0.trackers.e0.b,vi s_0.trackers.e1.a,vi s_0.trackers.e1.b,vi s_0.trackers.e2.a,vi s_0.trackers.e2.b,vi s_0.trackers.e3.a,vi s_0.trackers.e3.b,vi s_0.trackers.e4.a,vi s_0.trackers.e4.b,vi s_0.trackers.e5.a,vi s_0.trackers.e5.b],le_m0,ok.drop.drop,E.d,⟨rv_c (cs:=[vi 2,vi s_0.trackers.e0.a,vi s_0.trackers.e0.b,vi s_0.trackers.e1.a,vi s_0.trackers.e1.b,vi s_0.trackers.e2.a,vi s_0.trackers.e2.b,vi s_0.trackers.e3.a,vi s_0.trackers.e3.b,vi s_0.trackers.e4.a,vi s_0.trackers.e4.b,vi s_0.trackers.e5.a,vi s_0.trackers.e5.b]) E ok rfl qdb rfl (qab.own 0 rfl rfl),trivial⟩,⟨rfl,(ir 2),r2,r3,r4,r5,r6,r7,r8,r9,r10,r11,r12,r13⟩⟩
 refine sg<|mv E rfl fun a E=>lw E (qax rfl rfl) fun a E=>mv E rfl fun a E=>bu E 22 hF (fun c18 hF E=>?_) fun c18 hF E=>?_
 ·refine lsq E fun a E=>ls E fun a E=>pt E rfl rfl fun a E=>aw E rfl fun a E=>c_if E rfl (fun _=>?_) (fun h=>by cases h)
  refine sg<|lw E (qaG (ps:=[(0,.const (vi 4))]) (qs:=[(0,[vi 4])]) (cs:=[vi 4,vi 0,vi 0,vi 0,vi 0,vi 0,vi 0,vi 0,vi 0,vi 0,vi 0,vi 0,vi 0]) qf2 qif rfl ⟨rfl,rfl,rfl,trivial⟩ rfl) fun a E=>qaf E ok 0 rfl rfl rfl qgC rfl rfl ⟨rfl,rfl,rfl,rfl,rfl,rfl,rfl,rfl,rfl,rfl,rfl,rfl,rfl,trivial⟩ rfl rfl fun w ok=>wn<|wp_ret<|qaI<|qav ?_
  exact fin hF ⟨m0,[vi 4,vi 0,vi 0,vi 0,vi 0,vi 0,vi 0,vi 0,vi 0,vi 0,vi 0,vi 0,vi 0],le_m0,ok.drop.drop,E.d,⟨rv_c (cs:=[vi 4,vi 0,vi 0,vi 0,vi 0,vi 0,vi 0,vi 0,vi 0,vi 0,vi 0,vi 0,vi 0]) E ok rfl qdb rfl (qab.own 0 rfl rfl),trivial⟩,⟨rfl,(ir 4),(ir 0),(ir 0),(ir 0),(ir 0),(ir 0),(ir 0),(ir 0),(ir 0),(ir 0),(ir 0),(ir 0),(ir 0)⟩⟩
 refine fk E ok qc8 qam rfl 1 rfl rfl fun a E=>lw E (qax rfl rfl) fun a E=>pf E rfl rfl fun a E=>aw E rfl fun a E=>cf E rfl hF (fun c19 hF=>?_) fun c19 hF=>?_
 ·refine sg<|lw E (qaG (ps:=[(0,.const (vi 4))]) (qs:=[(0,[vi 4])]) (cs:=[vi 4,vi 0,vi 0,vi 0,vi 0,vi 0,vi 0,vi 0,vi 0,vi 0,vi 0,vi 0,vi 0]) qf2 qif rfl ⟨rfl,rfl,rfl,trivial⟩ rfl) fun a E=>qaf E ok 0 rfl rfl rfl qgC rfl rfl ⟨rfl,rfl,rfl,rfl,rfl,rfl,rfl,rfl,rfl,rfl,rfl,rfl,rfl,trivial⟩ rfl rfl fun w ok=>wn<|wp_ret<|qaI<|qav ?_
  exact fin hF ⟨m0,[vi 4,vi 0,vi 0,vi 0,vi 0,vi 0,vi 0,vi 0,vi 0,vi 0,vi 0,vi 0,vi 0],le_m0,ok.drop.drop,E.d,⟨rv_c (cs:=[vi 4,vi 0,vi 0,vi 0,vi 0,vi 0,vi 0,vi 0,vi 0,vi 0,vi 0,vi 0,vi 0]) E ok rfl qdb rfl (qab.own 0 rfl rfl),trivial⟩,⟨rfl,(ir 4),(ir 0),(ir 0),(ir 0),(ir 0),(ir 0),(ir 0),(ir 0),(ir 0),(ir 0),(ir 0),(ir 0),(ir 0)⟩⟩
 refine wp_skip<|qap<|qaa<|wp_seq<|sg<|fk E ok qc8 qam rfl 1 rfl rfl fun a E=>lw E (qax rfl rfl) fun a E=>mv E rfl fun a E=>bu E 31 hF (fun c20 hF E=>?_) fun c20 hF E=>?_
 ·as_aux_lemma =>
   refine lsq E fun a E=>ls E fun a E=>pt E rfl rfl fun a E=>wn<|c_if E rfl (fun _=>?_) (fun h=>by cases h)
   refine qac<|fv E qc8 rfl fun a E=>qaf E ok 1 rfl rfl rfl qbp rfl rfl ⟨rfl,trivial⟩ rfl rfl fun w ok=>wn<|wp_seq<|sg<|mv E rfl fun a E=>lv E ok (qaz qbr hl_1 rfl) fun a E=>mv E rfl fun a E=>wn<|wp_block<|bd hF fun o36 hL hF=>qaH _ (fun (s:Int × Reading) a w=>∃ m37,m0.le m37 ∧ Ok u m37 ([(b15,oc 64 [vi 0,vi 0,vi 0,vi 0,vi 0,vi 0,vi 0,vi 0,vi 0,vi 0,vi 0,vi 0,vi 0])] :: [(b14,oc 64 [vi s.2.phase,vi s.2.trackers.e0.a,vi s.2.trackers.e0.b,vi s.2.trackers.e1.a,vi s.2.trackers.e1.b,vi s.2.trackers.e2.a,vi s.2.trackers.e2.b,vi s.2.trackers.e3.a,vi s.2.trackers.e3.b,vi s.2.trackers.e4.a,vi s.2.trackers.e4.b,vi s.2.trackers.e5.a,vi s.2.trackers.e5.b])] :: S) w ∧ Env 60 a [(2,vi symbol_2),(3,vp b14),(6,vp b15),(38,vl_1),(39,(vi (l_1.length:Int))),(40,vi s.1)] ∧ InR .i64 s.1 ∧ InR .i64 s.2.phase ∧ InR .i64 s.2.trackers.e0.a ∧ InR .i64 s.2.trackers.e0.b ∧ InR .i64 s.2.trackers.e1.a ∧ InR .i64 s.2.trackers.e1.b ∧ InR .i64 s.2.trackers.e2.a ∧ InR .i64 s.2.trackers.e2.b ∧ InR .i64 s.2.trackers.e3.a ∧ InR .i64 s.2.trackers.e3.b ∧ InR .i64 s.2.trackers.e4.a ∧ InR .i64 s.2.trackers.e4.b ∧ InR .i64 s.2.trackers.e5.a ∧ InR .i64 s.2.trackers.e5.b) (fun (b:Reading) e a w=>e = (.exit 1) ∧ ∃ m149,m0.le m149 ∧ Ok u m149 ([(b15,oc 64 [vi 0,vi 0,vi 0,vi 0,vi 0,vi 0,vi 0,vi 0,vi 0,vi 0,vi 0,vi 0,vi 0])] :: [(b14,oc 64 [vi b.phase,vi b.trackers.e0.a,vi b.trackers.e0.b,vi b.trackers.e1.a,vi b.trackers.e1.b,vi b.trackers.e2.a,vi b.trackers.e2.b,vi b.trackers.e3.a,vi b.trackers.e3.b,vi b.trackers.e4.a,vi b.trackers.e4.b,vi b.trackers.e5.a,vi b.trackers.e5.b])] :: S) w ∧ Env 60 a [(3,vp b14),(6,vp b15)] ∧ InR .i64 b.phase ∧ InR .i64 b.trackers.e0.a ∧ InR .i64 b.trackers.e0.b ∧ InR .i64 b.trackers.e1.a ∧ InR .i64 b.trackers.e1.b ∧ InR .i64 b.trackers.e2.a ∧ InR .i64 b.trackers.e2.b ∧ InR .i64 b.trackers.e3.a ∧ InR .i64 b.trackers.e3.b ∧ InR .i64 b.trackers.e4.a ∧ InR .i64 b.trackers.e4.b ∧ InR .i64 b.trackers.e5.a ∧ InR .i64 b.trackers.e5.b) ?_ ?_ N _ a w hL ⟨m0,Mem.le.refl _,ok,E.keep [2,3,6,38,39,40],(ir 0),(ir 1),r2,r3,r4,r5,r6,r7,r8,r9,r10,r11,r12,r13⟩
   rotate_left
   ·intro e a w _ hO
    obtain ⟨rfl,m135,hle,ok,E,r136,r137,r138,r139,r140,r141,r142,r143,r144,r145,r146,r147,r148⟩:=hO
    have le_m0:=le_m0.trans hle
    have hl_1:=(mL qad).up hle hl_1
    refine qaN<|qaa<|sg<|lv E ok (qaj (cs:=[vi o36.phase,vi o36.trackers.e0.a,vi o36.trackers.e0.b,vi o36.trackers.e1.a,vi o36.trackers.e1.b,vi o36.trackers.e2.a,vi o36.trackers.e2.b,vi o36.trackers.e3.a,vi o36.trackers.e3.b,vi o36.trackers.e4.a,vi o36.trackers.e4.b,vi o36.trackers.e5.a,vi o36.trackers.e5.b]) qdb rfl rfl (qab.own 1 rfl rfl)) fun a E=>qaf E ok 0 rfl rfl rfl qgC rfl rfl ⟨rfl,rfl,rfl,rfl,rfl,rfl,rfl,rfl,rfl,rfl,rfl,rfl,rfl,trivial⟩ rfl rfl fun w ok=>wn<|wp_ret ?_
    exact fin hF ⟨m135,[vi o36.phase,vi o36.trackers.e0.a,vi o36.trackers.e0.b,vi o36.trackers.e1.a,vi o36.trackers.e1.b,vi o36.trackers.e2.a,vi o36.trackers.e2.b,vi o36.trackers.e3.a,vi o36.trackers.e3.b,vi o36.trackers.e4.a,vi o36.trackers.e4.b,vi o36.trackers.e5.a,vi o36.trackers.e5.b],le_m0,ok.drop.drop,E.d,⟨rv_c (cs:=[vi o36.phase,vi o36.trackers.e0.a,vi o36.trackers.e0.b,vi o36.trackers.e1.a,vi o36.trackers.e1.b,vi o36.trackers.e2.a,vi o36.trackers.e2.b,vi o36.trackers.e3.a,vi o36.trackers.e3.b,vi o36.trackers.e4.a,vi o36.trackers.e4.b,vi o36.trackers.e5.a,vi o36.trackers.e5.b]) E ok rfl qdb rfl (qab.own 0 rfl rfl),trivial⟩,⟨rfl,r136,r137,r138,r139,r140,r141,r142,r143,r144,r145,r146,r147,r148⟩⟩
   rintro ⟨v52,v53⟩ a w r ⟨m54,hle,ok,E,r55,r56,r57,r58,r59,r60,r61,r62,r63,r64,r65,r66,r67,r68⟩ hF
   replace hF:qbb N l_1 symbol_2 v52 v53 = some r:=hF
   unfold qbb at hF
   have le_m0:=le_m0.trans hle
   have hl_1:=(mL qad).up hle hl_1
   refine sg<|lw E (qaC rfl rfl) fun a E=>wn<|wp_seq<|cg E rfl hF (fun c69 hF=>?_) fun c69 hF=>?_
   ·refine wp_exit<|qaE ?_
    cases hF
    exact so (⟨rfl,⟨m54,le_m0,ok,E.keep [3,6],r56,r57,r58,r59,r60,r61,r62,r63,r64,r65,r66,r67,r68⟩⟩)
   refine wp_skip<|qaa<|wp_seq<|wp_block<|sg<|mv E rfl fun a E=>?_
   obtain ⟨x70,e71,hF⟩:=bnd hF
   obtain ⟨b72,o73,es74,hl75,rr76,at77,yy78⟩:=ia E 38 40 qbr hl_1 e71
   obtain ⟨c81,rfl,r79,r80,h82⟩:=rr76
   refine lv E ok (yy78 _ _) fun a E=>lv E ok (qaj (cs:=[vi x70.Operand,vi x70.Mod,vb x70.Not,c81]) qbK rfl rfl (qab.ro at77)) fun a E=>qaw E ok qds rfl rfl fun b83 a w E ok=>av E rfl fun a E=>qaf E ok 0 rfl rfl rfl qgE rfl rfl ⟨rfl,rfl,rfl,(qa9 h82),trivial⟩ rfl rfl fun w ok=>wn<|bd hF fun o84 hJ hF=>qaO (Q':=fun e a w=>e = .normal ∧ ∃ m85,m54.le m85 ∧ Ok u m85 ([(b83,oc 54 [vi x70.Operand,vi x70.Mod,vb x70.Not,c81])] :: [(b15,oc 64 [vi 0,vi 0,vi 0,vi 0,vi 0,vi 0,vi 0,vi 0,vi 0,vi 0,vi 0,vi 0,vi 0])] :: [(b14,oc 64 [vi o84.phase,vi o84.trackers.e0.a,vi o84.trackers.e0.b,vi o84.trackers.e1.a,vi o84.trackers.e1.b,vi o84.trackers.e2.a,vi o84.trackers.e2.b,vi o84.trackers.e3.a,vi o84.trackers.e3.b,vi o84.trackers.e4.a,vi o84.trackers.e4.b,vi o84.trackers.e5.a,vi o84.trackers.e5.b])] :: S) w ∧ Env 60 a [(2,vi symbol_2),(3,vp b14),(6,vp b15),(38,vl_1),(39,(vi (l_1.length:Int))),(40,vi v52)] ∧ InR .i64 o84.phase ∧ InR .i64 o84.trackers.e0.a ∧ InR .i64 o84.trackers.e0.b ∧ InR .i64 o84.trackers.e1.a ∧ InR .i64 o84.trackers.e1.b ∧ InR .i64 o84.trackers.e2.a ∧ InR .i64 o84.trackers.e2.b ∧ InR .i64 o84.trackers.e3.a ∧ InR .i64 o84.trackers.e3.b ∧ InR .i64 o84.trackers.e4.a ∧ InR .i64 o84.trackers.e4.b ∧ InR .i64 o84.trackers.e5.a ∧ InR .i64 o84.trackers.e5.b) ?_ ?_
   rotate_left
   ·intro e a w hO
    obtain ⟨rfl,m121,hle,ok,E,r122,r123,r124,r125,r126,r127,r128,r129,r130,r131,r132,r133,r134⟩:=hO
    have le_m0:=le_m0.trans hle
    have hl_1:=(mL qad).up hle hl_1
    have h82:=(mL qdL).up hle h82
    have at77:=At.up hle at77
    refine qap<|qaa<|qac<|lw E (qaA rfl rfl (InR.inc r55 (qal hl_1) c69)) fun a E=>mv E rfl fun a E=>wpList_nil ?_
    cases hF
    exact qau ⟨m121,le_m0,(ok.pk 3 [1,2] rfl (by decide)),E.keep [2,3,6,38,39,40],(InR.inc r55 (qal hl_1) c69),r122,r123,r124,r125,r126,r127,r128,r129,r130,r131,r132,r133,r134⟩
   have hF:=hJ
   have le_m54:=Mem.le.refl m54
   obtain ⟨x99,e100,hF⟩:=bnd hF
   obtain ⟨r101,e102,hF⟩:=bnd hF
   obtain ⟨x108,e109,hF⟩:=bnd hF
   obtain ⟨z110,e111,hF⟩:=bnd hF
   obtain rfl:=sj hF
   refine qaX [4,5,7] (Cls u m54 ([(b83,oc 54 [vi x70.Operand,vi x70.Mod,vb x70.Not,c81])] :: [(b15,oc 64 [vi 0,vi 0,vi 0,vi 0,vi 0,vi 0,vi 0,vi 0,vi 0,vi 0,vi 0,vi 0,vi 0])] :: [(b14,oc 64 [vi v53.phase,vi v53.trackers.e0.a,vi v53.trackers.e0.b,vi v53.trackers.e1.a,vi v53.trackers.e1.b,vi v53.trackers.e2.a,vi v53.trackers.e2.b,vi v53.trackers.e3.a,vi v53.trackers.e3.b,vi v53.trackers.e4.a,vi v53.trackers.e4.b,vi v53.trackers.e5.a,vi v53.trackers.e5.b])] :: [])) (Cls u m54 ([(b83,oc 54 [vi x70.Operand,vi x70.Mod,vb x70.Not,c81])] :: [(b15,oc 64 [vi 0,vi 0,vi 0,vi 0,vi 0,vi 0,vi 0,vi 0,vi 0,vi 0,vi 0,vi 0,vi 0])] :: [])) (by kernel_rfl) ?_
   intro w hw
   replace ok:=qa3 ok hw
   clear hw
   have h82_o:=h82
   refine qag (cl1 (cq le_m54 ok [0,1,2] rfl) (cq le_m54 ok [0,1] rfl)) fun hT=>kt 0 E rfl hT (qah rfl) fun a E=>kt 1 E rfl hT (qah rfl) fun a E=>kt 2 E rfl hT (qae qgQ rfl) fun a E=>?_
   replace e100:idx (Arr6_Tracker.list v53.trackers) v52 = some x99:=e100
   refine kt 3 E rfl hT (qdZ qhE rfl rfl (qaL e100).1 (qaL e100).2) fun a E=>qaU 5 E rfl (by kernel_rfl) nP hT (qaj (cs:=[vi x70.Operand,vi x70.Mod,vb x70.Not,c81]) qbK rfl rfl (qab.cown 0 rfl rfl)) rfl rfl fun a E=>kt 6 E rfl hT (qae qc8 rfl) fun a E=>qaU 7 E rfl (by kernel_rfl) nP hT (qai qam rfl (qab.cown 2 rfl rfl)) rfl rfl fun a E=>kt 8 E rfl hT (qax rfl rfl) fun a E=>kt 9 E rfl hT (qah rfl) fun a E=>kt 11 E rfl hT (qae qgQ rfl) fun a E=>qar [4] (by kernel_rfl) rfl (qas ?_)
   ·refine wo rfl<|lv E ok (qaj (cs:=[vi x99.a,vi x99.b]) qbS rfl rfl (qab.idxK (k:=2) (xs:=Arr6_Tracker.list v53.trackers) (f:=(fun x:Tracker=>[vi x.a,vi x.b])) (fun _=>rfl) (qab.own 2 rfl rfl) e100)) fun a E=>wn<|qag (cl1 (cq le_m54 ok [0,1,2] rfl) (cq le_m54 ok [0,1] rfl)) fun hT=>qar [10] (by kernel_rfl) rfl (qas ?_)
    ·refine wo rfl<|qao E qms rfl (qdX N _ x99 ⟨rfl,(AllP.idx (q:=(fun z:Tracker=>InR .i64 z.a ∧ InR .i64 z.b)) (xs:=Arr6_Tracker.list v53.trackers) ⟨⟨r57,r58⟩,⟨r59,r60⟩,⟨r61,r62⟩,⟨r63,r64⟩,⟨r65,r66⟩,⟨r67,r68⟩,trivial⟩ e100).1,(AllP.idx (q:=(fun z:Tracker=>InR .i64 z.a ∧ InR .i64 z.b)) (xs:=Arr6_Tracker.list v53.trackers) ⟨⟨r57,r58⟩,⟨r59,r60⟩,⟨r61,r62⟩,⟨r63,r64⟩,⟨r65,r66⟩,⟨r67,r68⟩,trivial⟩ e100).2⟩ _ x70 ⟨_,rfl,r79,r80,h82⟩ (v53.phase == 3) symbol_2 rsymbol_2 e102 ok) rfl rfl ?_
     rintro _ w ⟨m114,vs115,rfl,hle,ok,h116⟩
     have le_m0:=le_m0.trans hle
     have le_m54:=le_m54.trans hle
     have hl_1:=(mL qad).up hle hl_1
     have h82:=(mL qdL).up hle h82
     have at77:=At.up hle at77
     obtain ⟨rfl,r117,r118⟩:=h116
     refine ⟨_,rfl,fun a E=>?_⟩
     refine wn<|qag (cl1 (cq le_m54 ok [0,1,2] rfl) (cq le_m54 ok [0,1] rfl)) fun hT=>?_
     replace e109:idx (Arr6_Tracker.list v53.trackers) v52 = some x108:=e109
     refine kt 12 E rfl hT (qdZ qhE rfl rfl (qaL e109).1 (qaL e109).2) fun a E=>qar [13] (by kernel_rfl) rfl (qas ?_)
     ·refine qbM (o:=_) rfl ?_
      have h119:=Arr6_Tracker.set_list e111
      have h120:=AllP.setI (q:=(fun z:Tracker=>InR .i64 z.a ∧ InR .i64 z.b)) (xs:=Arr6_Tracker.list v53.trackers) ⟨⟨r57,r58⟩,⟨r59,r60⟩,⟨r61,r62⟩,⟨r63,r64⟩,⟨r65,r66⟩,⟨r67,r68⟩,trivial⟩ ⟨r117,r118⟩ h119
      refine qem (c:=[vi v53.phase,vi v53.trackers.e0.a,vi v53.trackers.e0.b,vi v53.trackers.e1.a,vi v53.trackers.e1.b,vi v53.trackers.e2.a,vi v53.trackers.e2.b,vi v53.trackers.e3.a,vi v53.trackers.e3.b,vi v53.trackers.e4.a,vi v53.trackers.e4.b,vi v53.trackers.e5.a,vi v53.trackers.e5.b]) (c':=[vi v53.phase,vi z110.e0.a,vi z110.e0.b,vi z110.e1.a,vi z110.e1.b,vi z110.e2.a,vi z110.e2.b,vi z110.e3.a,vi z110.e3.b,vi z110.e4.a,vi z110.e4.b,vi z110.e5.a,vi z110.e5.b]) E ok 2 rfl rfl rfl qeq rfl rfl ⟨rfl,rfl,trivial⟩ (qlC (n:=6) (k:=2) (qaL e109).2 (Nat.le_of_ble_eq_true rfl)) (qmH (f:=(fun x:Tracker=>[vi x.a,vi x.b])) (fun _=>rfl) (pre:=[vi v53.phase]) (post:=[]) (xs:=Arr6_Tracker.list v53.trackers) (ys:=z110.list) rfl h119) rfl fun w ok=>wn<|qag (cl2 (by kernel_rfl) (cq le_m54 ok [0,1] rfl)) fun hT=>qaM (by kernel_rfl) ?_
      exact ⟨rfl,⟨m114,le_m54,ok,E.keep [2,3,6,38,39,40],r56,h120.1.1,h120.1.2,h120.2.1.1,h120.2.1.2,h120.2.2.1.1,h120.2.2.1.2,h120.2.2.2.1.1,h120.2.2.2.1.2,h120.2.2.2.2.1.1,h120.2.2.2.2.1.2,h120.2.2.2.2.2.1.1,h120.2.2.2.2.2.1.2⟩⟩
 refine fk E ok qc8 qam rfl 1 rfl rfl fun a E=>lw E (qax rfl rfl) fun a E=>pf E rfl rfl fun a E=>wn<|bd hF fun o163 hJ hF=>qaO (Q':=fun e a w=>e = .normal ∧ Ok u m0 ([(b15,oc 64 [vi 0,vi 0,vi 0,vi 0,vi 0,vi 0,vi 0,vi 0,vi 0,vi 0,vi 0,vi 0,vi 0])] :: [(b14,oc 64 [vi o163.phase,vi o163.trackers.e0.a,vi o163.trackers.e0.b,vi o163.trackers.e1.a,vi o163.trackers.e1.b,vi o163.trackers.e2.a,vi o163.trackers.e2.b,vi o163.trackers.e3.a,vi o163.trackers.e3.b,vi o163.trackers.e4.a,vi o163.trackers.e4.b,vi o163.trackers.e5.a,vi o163.trackers.e5.b])] :: S) w ∧ Env 60 a [(1,vl_1),(2,vi symbol_2),(3,vp b14),(6,vp b15)] ∧ InR .i64 o163.phase ∧ InR .i64 o163.trackers.e0.a ∧ InR .i64 o163.trackers.e0.b ∧ InR .i64 o163.trackers.e1.a ∧ InR .i64 o163.trackers.e1.b ∧ InR .i64 o163.trackers.e2.a ∧ InR .i64 o163.trackers.e2.b ∧ InR .i64 o163.trackers.e3.a ∧ InR .i64 o163.trackers.e3.b ∧ InR .i64 o163.trackers.e4.a ∧ InR .i64 o163.trackers.e4.b ∧ InR .i64 o163.trackers.e5.a ∧ InR .i64 o163.trackers.e5.b) ?_ ?_
 ·have hF:=hJ
  refine cf E rfl hF (fun c177 hF=>?_) fun c177 hF=>?_
  ·refine qac<|fv E qc8 rfl fun a E=>qaf E ok 1 rfl rfl rfl qbp rfl rfl ⟨rfl,trivial⟩ rfl rfl fun w ok=>wpList_nil ?_
   cases hF
   exact ⟨rfl,⟨ok,E.keep [1,2,3,6],(ir 1),r2,r3,r4,r5,r6,r7,r8,r9,r10,r11,r12,r13⟩⟩
  refine qac<|fv E qc8 rfl fun a E=>qaf E ok 1 rfl rfl rfl qbp rfl rfl ⟨rfl,trivial⟩ rfl rfl fun w ok=>wpList_nil ?_
  cases hF
  exact ⟨rfl,⟨ok,E.keep [1,2,3,6],(ir 3),r2,r3,r4,r5,r6,r7,r8,r9,r10,r11,r12,r13⟩⟩
 intro e a w hO
 obtain ⟨rfl,ok,E,r178,r179,r180,r181,r182,r183,r184,r185,r186,r187,r188,r189,r190⟩:=hO
 refine qaa<|wp_seq<|sg<|mv E rfl fun a E=>lv E ok (qaz qbr hl_1 rfl) fun a E=>mv E rfl fun a E=>wn<|wp_block<|bd hF fun o206 hL hF=>qaH _ (fun (s:Int × Reading) a w=>∃ m207,m0.le m207 ∧ Ok u m207 ([(b15,oc 64 [vi 0,vi 0,vi 0,vi 0,vi 0,vi 0,vi 0,vi 0,vi 0,vi 0,vi 0,vi 0,vi 0])] :: [(b14,oc 64 [vi s.2.phase,vi s.2.trackers.e0.a,vi s.2.trackers.e0.b,vi s.2.trackers.e1.a,vi s.2.trackers.e1.b,vi s.2.trackers.e2.a,vi s.2.trackers.e2.b,vi s.2.trackers.e3.a,vi s.2.trackers.e3.b,vi s.2.trackers.e4.a,vi s.2.trackers.e4.b,vi s.2.trackers.e5.a,vi s.2.trackers.e5.b])] :: S) w ∧ Env 60 a [(2,vi symbol_2),(3,vp b14),(6,vp b15),(38,vl_1),(39,(vi (l_1.length:Int))),(40,vi s.1)] ∧ InR .i64 s.1 ∧ InR .i64 s.2.phase ∧ InR .i64 s.2.trackers.e0.a ∧ InR .i64 s.2.trackers.e0.b ∧ InR .i64 s.2.trackers.e1.a ∧ InR .i64 s.2.trackers.e1.b ∧ InR .i64 s.2.trackers.e2.a ∧ InR .i64 s.2.trackers.e2.b ∧ InR .i64 s.2.trackers.e3.a ∧ InR .i64 s.2.trackers.e3.b ∧ InR .i64 s.2.trackers.e4.a ∧ InR .i64 s.2.trackers.e4.b ∧ InR .i64 s.2.trackers.e5.a ∧ InR .i64 s.2.trackers.e5.b) (fun (b:Reading) e a w=>e = (.exit 1) ∧ ∃ m319,m0.le m319 ∧ Ok u m319 ([(b15,oc 64 [vi 0,vi 0,vi 0,vi 0,vi 0,vi 0,vi 0,vi 0,vi 0,vi 0,vi 0,vi 0,vi 0])] :: [(b14,oc 64 [vi b.phase,vi b.trackers.e0.a,vi b.trackers.e0.b,vi b.trackers.e1.a,vi b.trackers.e1.b,vi b.trackers.e2.a,vi b.trackers.e2.b,vi b.trackers.e3.a,vi b.trackers.e3.b,vi b.trackers.e4.a,vi b.trackers.e4.b,vi b.trackers.e5.a,vi b.trackers.e5.b])] :: S) w ∧ Env 60 a [(3,vp b14),(6,vp b15)] ∧ InR .i64 b.phase ∧ InR .i64 b.trackers.e0.a ∧ InR .i64 b.trackers.e0.b ∧ InR .i64 b.trackers.e1.a ∧ InR .i64 b.trackers.e1.b ∧ InR .i64 b.trackers.e2.a ∧ InR .i64 b.trackers.e2.b ∧ InR .i64 b.trackers.e3.a ∧ InR .i64 b.trackers.e3.b ∧ InR .i64 b.trackers.e4.a ∧ InR .i64 b.trackers.e4.b ∧ InR .i64 b.trackers.e5.a ∧ InR .i64 b.trackers.e5.b) ?_ ?_ N _ a w hL ⟨m0,Mem.le.refl _,ok,E.keep [2,3,6,38,39,40],(ir 0),r178,r179,r180,r181,r182,r183,r184,r185,r186,r187,r188,r189,r190⟩
 rotate_left
 ·intro e a w _ hO
  obtain ⟨rfl,m305,hle,ok,E,r306,r307,r308,r309,r310,r311,r312,r313,r314,r315,r316,r317,r318⟩:=hO
  have le_m0:=le_m0.trans hle
  have hl_1:=(mL qad).up hle hl_1
  refine qaN<|qaa<|sg<|lv E ok (qaj (cs:=[vi o206.phase,vi o206.trackers.e0.a,vi o206.trackers.e0.b,vi o206.trackers.e1.a,vi o206.trackers.e1.b,vi o206.trackers.e2.a,vi o206.trackers.e2.b,vi o206.trackers.e3.a,vi o206.trackers.e3.b,vi o206.trackers.e4.a,vi o206.trackers.e4.b,vi o206.trackers.e5.a,vi o206.trackers.e5.b]) qdb rfl rfl (qab.own 1 rfl rfl)) fun a E=>qaf E ok 0 rfl rfl rfl qgC rfl rfl ⟨rfl,rfl,rfl,rfl,rfl,rfl,rfl,rfl,rfl,rfl,rfl,rfl,rfl,trivial⟩ rfl rfl fun w ok=>wn<|wp_ret ?_
  exact fin hF ⟨m305,[vi o206.phase,vi o206.trackers.e0.a,vi o206.trackers.e0.b,vi o206.trackers.e1.a,vi o206.trackers.e1.b,vi o206.trackers.e2.a,vi o206.trackers.e2.b,vi o206.trackers.e3.a,vi o206.trackers.e3.b,vi o206.trackers.e4.a,vi o206.trackers.e4.b,vi o206.trackers.e5.a,vi o206.trackers.e5.b],le_m0,ok.drop.drop,E.d,⟨rv_c (cs:=[vi o206.phase,vi o206.trackers.e0.a,vi o206.trackers.e0.b,vi o206.trackers.e1.a,vi o206.trackers.e1.b,vi o206.trackers.e2.a,vi o206.trackers.e2.b,vi o206.trackers.e3.a,vi o206.trackers.e3.b,vi o206.trackers.e4.a,vi o206.trackers.e4.b,vi o206.trackers.e5.a,vi o206.trackers.e5.b]) E ok rfl qdb rfl (qab.own 0 rfl rfl),trivial⟩,⟨rfl,r306,r307,r308,r309,r310,r311,r312,r313,r314,r315,r316,r317,r318⟩⟩
 rintro ⟨v222,v223⟩ a w r ⟨m224,hle,ok,E,r225,r226,r227,r228,r229,r230,r231,r232,r233,r234,r235,r236,r237,r238⟩ hF
 replace hF:qeE N l_1 symbol_2 v222 v223 = some r:=hF
 unfold qeE at hF
 have le_m0:=le_m0.trans hle
 have hl_1:=(mL qad).up hle hl_1
 refine sg<|lw E (qaC rfl rfl) fun a E=>wn<|wp_seq<|cg E rfl hF (fun c239 hF=>?_) fun c239 hF=>?_
 ·refine wp_exit<|qaE ?_
  cases hF
  exact so (⟨rfl,⟨m224,le_m0,ok,E.keep [3,6],r226,r227,r228,r229,r230,r231,r232,r233,r234,r235,r236,r237,r238⟩⟩)
 refine wp_skip<|qaa<|wp_seq<|wp_block<|sg<|mv E rfl fun a E=>?_
 obtain ⟨x240,e241,hF⟩:=bnd hF
 obtain ⟨b242,o243,es244,hl245,rr246,at247,yy248⟩:=ia E 38 40 qbr hl_1 e241
 obtain ⟨c251,rfl,r249,r250,h252⟩:=rr246
 refine lv E ok (yy248 _ _) fun a E=>lv E ok (qaj (cs:=[vi x240.Operand,vi x240.Mod,vb x240.Not,c251]) qbK rfl rfl (qab.ro at247)) fun a E=>qaw E ok qds rfl rfl fun b253 a w E ok=>av E rfl fun a E=>qaf E ok 0 rfl rfl rfl qgE rfl rfl ⟨rfl,rfl,rfl,(qa9 h252),trivial⟩ rfl rfl fun w ok=>wn<|bd hF fun o254 hJ hF=>qaO (Q':=fun e a w=>e = .normal ∧ ∃ m255,m224.le m255 ∧ Ok u m255 ([(b253,oc 54 [vi x240.Operand,vi x240.Mod,vb x240.Not,c251])] :: [(b15,oc 64 [vi 0,vi 0,vi 0,vi 0,vi 0,vi 0,vi 0,vi 0,vi 0,vi 0,vi 0,vi 0,vi 0])] :: [(b14,oc 64 [vi o254.phase,vi o254.trackers.e0.a,vi o254.trackers.e0.b,vi o254.trackers.e1.a,vi o254.trackers.e1.b,vi o254.trackers.e2.a,vi o254.trackers.e2.b,vi o254.trackers.e3.a,vi o254.trackers.e3.b,vi o254.trackers.e4.a,vi o254.trackers.e4.b,vi o254.trackers.e5.a,vi o254.trackers.e5.b])] :: S) w ∧ Env 60 a [(2,vi symbol_2),(3,vp b14),(6,vp b15),(38,vl_1),(39,(vi (l_1.length:Int))),(40,vi v222)] ∧ InR .i64 o254.phase ∧ InR .i64 o254.trackers.e0.a ∧ InR .i64 o254.trackers.e0.b ∧ InR .i64 o254.trackers.e1.a ∧ InR .i64 o254.trackers.e1.b ∧ InR .i64 o254.trackers.e2.a ∧ InR .i64 o254.trackers.e2.b ∧ InR .i64 o254.trackers.e3.a ∧ InR .i64 o254.trackers.e3.b ∧ InR .i64 o254.trackers.e4.a ∧ InR .i64 o254.trackers.e4.b ∧ InR .i64 o254.trackers.e5.a ∧ InR .i64 o254.trackers.e5.b) ?_ ?_
 rotate_left
 ·intro e a w hO
  obtain ⟨rfl,m291,hle,ok,E,r292,r293,r294,r295,r296,r297,r298,r299,r300,r301,r302,r303,r304⟩:=hO
  have le_m0:=le_m0.trans hle
  have hl_1:=(mL qad).up hle hl_1
  have h252:=(mL qdL).up hle h252
  have at247:=At.up hle at247
  refine qap<|qaa<|qac<|lw E (qaA rfl rfl (InR.inc r225 (qal hl_1) c239)) fun a E=>mv E rfl fun a E=>wpList_nil ?_
  cases hF
  exact qau ⟨m291,le_m0,(ok.pk 3 [1,2] rfl (by decide)),E.keep [2,3,6,38,39,40],(InR.inc r225 (qal hl_1) c239),r292,r293,r294,r295,r296,r297,r298,r299,r300,r301,r302,r303,r304⟩
 have hF:=hJ
 have le_m224:=Mem.le.refl m224
 obtain ⟨x269,e270,hF⟩:=bnd hF
 obtain ⟨r271,e272,hF⟩:=bnd hF
 obtain ⟨x278,e279,hF⟩:=bnd hF
 obtain ⟨z280,e281,hF⟩:=bnd hF
 obtain rfl:=sj hF
 refine qaX [4,5,7] (Cls u m224 ([(b253,oc 54 [vi x240.Operand,vi x240.Mod,vb x240.Not,c251])] :: [(b15,oc 64 [vi 0,vi 0,vi 0,vi 0,vi 0,vi 0,vi 0,vi 0,vi 0,vi 0,vi 0,vi 0,vi 0])] :: [(b14,oc 64 [vi v223.phase,vi v223.trackers.e0.a,vi v223.trackers.e0.b,vi v223.trackers.e1.a,vi v223.trackers.e1.b,vi v223.trackers.e2.a,vi v223.trackers.e2.b,vi v223.trackers.e3.a,vi v223.trackers.e3.b,vi v223.trackers.e4.a,vi v223.trackers.e4.b,vi v223.trackers.e5.a,vi v223.trackers.e5.b])] :: [])) (Cls u m224 ([(b253,oc 54 [vi x240.Operand,vi x240.Mod,vb x240.Not,c251])] :: [(b15,oc 64 [vi 0,vi 0,vi 0,vi 0,vi 0,vi 0,vi 0,vi 0,vi 0,vi 0,vi 0,vi 0,vi 0])] :: [])) (by kernel_rfl) ?_
 intro w hw
 replace ok:=qa3 ok hw
 clear hw
 have h252_o:=h252
 refine qag (cl1 (cq le_m224 ok [0,1,2] rfl) (cq le_m224 ok [0,1] rfl)) fun hT=>kt 0 E rfl hT (qah rfl) fun a E=>kt 1 E rfl hT (qah rfl) fun a E=>kt 2 E rfl hT (qae qgQ rfl) fun a E=>?_
 replace e270:idx (Arr6_Tracker.list v223.trackers) v222 = some x269:=e270
 refine kt 3 E rfl hT (qdZ qhE rfl rfl (qaL e270).1 (qaL e270).2) fun a E=>qaU 5 E rfl (by kernel_rfl) nP hT (qaj (cs:=[vi x240.Operand,vi x240.Mod,vb x240.Not,c251]) qbK rfl rfl (qab.cown 0 rfl rfl)) rfl rfl fun a E=>kt 6 E rfl hT (qae qc8 rfl) fun a E=>qaU 7 E rfl (by kernel_rfl) nP hT (qai qam rfl (qab.cown 2 rfl rfl)) rfl rfl fun a E=>kt 8 E rfl hT (qax rfl rfl) fun a E=>kt 9 E rfl hT (qah rfl) fun a E=>kt 11 E rfl hT (qae qgQ rfl) fun a E=>qar [4] (by kernel_rfl) rfl (qas ?_)
 ·refine wo rfl<|lv E ok (qaj (cs:=[vi x269.a,vi x269.b]) qbS rfl rfl (qab.idxK (k:=2) (xs:=Arr6_Tracker.list v223.trackers) (f:=(fun x:Tracker=>[vi x.a,vi x.b])) (fun _=>rfl) (qab.own 2 rfl rfl) e270)) fun a E=>wn<|qag (cl1 (cq le_m224 ok [0,1,2] rfl) (cq le_m224 ok [0,1] rfl)) fun hT=>qar [10] (by kernel_rfl) rfl (qas ?_)
  ·refine wo rfl<|qao E qms rfl (qdX N _ x269 ⟨rfl,(AllP.idx (q:=(fun z:Tracker=>InR .i64 z.a ∧ InR .i64 z.b)) (xs:=Arr6_Tracker.list v223.trackers) ⟨⟨r227,r228⟩,⟨r229,r230⟩,⟨r231,r232⟩,⟨r233,r234⟩,⟨r235,r236⟩,⟨r237,r238⟩,trivial⟩ e270).1,(AllP.idx (q:=(fun z:Tracker=>InR .i64 z.a ∧ InR .i64 z.b)) (xs:=Arr6_Tracker.list v223.trackers) ⟨⟨r227,r228⟩,⟨r229,r230⟩,⟨r231,r232⟩,⟨r233,r234⟩,⟨r235,r236⟩,⟨r237,r238⟩,trivial⟩ e270).2⟩ _ x240 ⟨_,rfl,r249,r250,h252⟩ (v223.phase == 3) symbol_2 rsymbol_2 e272 ok) rfl rfl ?_
   rintro _ w ⟨m284,vs285,rfl,hle,ok,h286⟩
   have le_m0:=le_m0.trans hle
   have le_m224:=le_m224.trans hle
   have hl_1:=(mL qad).up hle hl_1
   have h252:=(mL qdL).up hle h252
   have at247:=At.up hle at247
   obtain ⟨rfl,r287,r288⟩:=h286
   refine ⟨_,rfl,fun a E=>?_⟩
   refine wn<|qag (cl1 (cq le_m224 ok [0,1,2] rfl) (cq le_m224 ok [0,1] rfl)) fun hT=>?_
   replace e279:idx (Arr6_Tracker.list v223.trackers) v222 = some x278:=e279
   refine kt 12 E rfl hT (qdZ qhE rfl rfl (qaL e279).1 (qaL e279).2) fun a E=>qar [13] (by kernel_rfl) rfl (qas ?_)
   ·refine qbM (o:=_) rfl ?_
    have h289:=Arr6_Tracker.set_list e281
    have h290:=AllP.setI (q:=(fun z:Tracker=>InR .i64 z.a ∧ InR .i64 z.b)) (xs:=Arr6_Tracker.list v223.trackers) ⟨⟨r227,r228⟩,⟨r229,r230⟩,⟨r231,r232⟩,⟨r233,r234⟩,⟨r235,r236⟩,⟨r237,r238⟩,trivial⟩ ⟨r287,r288⟩ h289
    refine qem (c:=[vi v223.phase,vi v223.trackers.e0.a,vi v223.trackers.e0.b,vi v223.trackers.e1.a,vi v223.trackers.e1.b,vi v223.trackers.e2.a,vi v223.trackers.e2.b,vi v223.trackers.e3.a,vi v223.trackers.e3.b,vi v223.trackers.e4.a,vi v223.trackers.e4.b,vi v223.trackers.e5.a,vi v223.trackers.e5.b]) (c':=[vi v223.phase,vi z280.e0.a,vi z280.e0.b,vi z280.e1.a,vi z280.e1.b,vi z280.e2.a,vi z280.e2.b,vi z280.e3.a,vi z280.e3.b,vi z280.e4.a,vi z280.e4.b,vi z280.e5.a,vi z280.e5.b]) E ok 2 rfl rfl rfl qeq rfl rfl ⟨rfl,rfl,trivial⟩ (qlC (n:=6) (k:=2) (qaL e279).2 (Nat.le_of_ble_eq_true rfl)) (qmH (f:=(fun x:Tracker=>[vi x.a,vi x.b])) (fun _=>rfl) (pre:=[vi v223.phase]) (post:=[]) (xs:=Arr6_Tracker.list v223.trackers) (ys:=z280.list) rfl h289) rfl fun w ok=>wn<|qag (cl2 (by kernel_rfl) (cq le_m224 ok [0,1] rfl)) fun hT=>qaM (by kernel_rfl) ?_
    exact ⟨rfl,⟨m284,le_m224,ok,E.keep [2,3,6,38,39,40],r226,h290.1.1,h290.1.2,h290.2.1.1,h290.2.1.2,h290.2.2.1.1,h290.2.2.1.2,h290.2.2.2.1.1,h290.2.2.2.1.2,h290.2.2.2.2.1.1,h290.2.2.2.2.1.2,h290.2.2.2.2.2.1.1,h290.2.2.2.2.2.1.2⟩⟩
def qj6 (u:World) (m0:Mem) (S:Segs) (pb0:Nat) (x0:List (Relation)) (c14:Value) (r:Reading) (a:Act) (w:World):Prop :=
 ∃ m1 v0,m0.le m1 ∧ Ok u m1 ([(pb0,oc 50 [c14])] :: S) w ∧ a.defers = [] ∧ RVs Tryd.prog a w [.c 5 64 (.agg v0.toArray)] ∧ qcw m1 v0 r
theorem qki (N:Nat) (vs_0:List Value) (s_0:Reading) (hs_0:qcw m0 vs_0 s_0) (symbol_1:Int) (rsymbol_1:InR .i64 symbol_1) {pb0:Nat} {c14:Value} (x0:List (Relation)) (h15:(pL 4 qan) m0 [c14] x0) {r:Reading} (hF:qce N s_0 symbol_1 x0 = some r) (ok:Ok u m0 ([(pb0,oc 50 [c14])] :: S) w) :
  Calls Tryd.prog 21 [.agg vs_0.toArray,vi symbol_1,vp pb0].toArray w fun e w'=>∃ m1 v0,e = .returned (.agg v0.toArray) ∧ m0.le m1 ∧ Ok u m1 ([(pb0,oc 50 [c14])] :: S) w' ∧ qcw m1 v0 r:=by
 obtain ⟨rfl,r1,r2,r3,r4,r5,r6,r7,r8,r9,r10,r11,r12,r13⟩:=hs_0
 have le_m0:=Mem.le.refl m0
 unfold qce at hF
 refine en (qj6 u m0 S pb0 x0 c14) r Tryd.func21 rfl rfl rfl (by rintro a w ⟨m1,v0,hle,ok,hd,hrv,h0⟩; exact qbC [.c 5 64 (.agg v0.toArray)] hd rfl hrv ⟨m1,v0,rfl,hle,ok,h0⟩) fun fin a E=>sg<|qbQ E ok rfl rfl rfl fun b16 a w E ok=>qaw E ok qf2 rfl rfl fun b17 a w E ok=>wn<|sg<|lv E ok (qaj (cs:=[vi s_0.phase,vi s_0.trackers.e0.a,vi s_0.trackers.e0.b,vi s_0.trackers.e1.a,vi s_0.trackers.e1.b,vi s_0.trackers.e2.a,vi s_0.trackers.e2.b,vi s_0.trackers.e3.a,vi s_0.trackers.e3.b,vi s_0.trackers.e4.a,vi s_0.trackers.e4.b,vi s_0.trackers.e5.a,vi s_0.trackers.e5.b]) qdb rfl rfl (qab.own 1 rfl rfl)) fun a E=>ld E ok qdJ 2 rfl rfl rfl fun a E=>mv E rfl fun a E=>bd hF fun r18 e19 hF=>qao E quk rfl (qjy N _ s_0 ⟨rfl,r1,r2,r3,r4,r5,r6,r7,r8,r9,r10,r11,r12,r13⟩ _ x0 h15 symbol_1 rsymbol_1 e19 ok) rfl rfl ?_
 rintro _ w ⟨m20,vs21,rfl,hle,ok,h22⟩
 have le_m0:=le_m0.trans hle
 have h15:=(mL qad).up hle h15
 obtain ⟨rfl,r23,r24,r25,r26,r27,r28,r29,r30,r31,r32,r33,r34,r35⟩:=h22
 refine ⟨_,rfl,fun a E=>?_⟩
 refine qaf E ok 0 rfl rfl rfl qgC rfl rfl ⟨rfl,rfl,rfl,rfl,rfl,rfl,rfl,rfl,rfl,rfl,rfl,rfl,rfl,trivial⟩ rfl rfl fun w ok=>wn<|wp_ret ?_
 exact fin hF ⟨m20,[vi r18.phase,vi r18.trackers.e0.a,vi r18.trackers.e0.b,vi r18.trackers.e1.a,vi r18.trackers.e1.b,vi r18.trackers.e2.a,vi r18.trackers.e2.b,vi r18.trackers.e3.a,vi r18.trackers.e3.b,vi r18.trackers.e4.a,vi r18.trackers.e4.b,vi r18.trackers.e5.a,vi r18.trackers.e5.b],le_m0,ok.drop.drop,E.d,⟨rv_c (cs:=[vi r18.phase,vi r18.trackers.e0.a,vi r18.trackers.e0.b,vi r18.trackers.e1.a,vi r18.trackers.e1.b,vi r18.trackers.e2.a,vi r18.trackers.e2.b,vi r18.trackers.e3.a,vi r18.trackers.e3.b,vi r18.trackers.e4.a,vi r18.trackers.e4.b,vi r18.trackers.e5.a,vi r18.trackers.e5.b]) E ok rfl qdb rfl (qab.own 0 rfl rfl),trivial⟩,⟨rfl,r23,r24,r25,r26,r27,r28,r29,r30,r31,r32,r33,r34,r35⟩⟩
def qjt (u:World) (m0:Mem) (S:Segs) (pb0:Nat) (pb1:Nat) (x0:Reading) (x1:List (Relation)) (c14:Value) (r:Bool) (a:Act) (w:World):Prop :=
 Ok u m0 ([(pb0,oc 64 [vi x0.phase,vi x0.trackers.e0.a,vi x0.trackers.e0.b,vi x0.trackers.e1.a,vi x0.trackers.e1.b,vi x0.trackers.e2.a,vi x0.trackers.e2.b,vi x0.trackers.e3.a,vi x0.trackers.e3.b,vi x0.trackers.e4.a,vi x0.trackers.e4.b,vi x0.trackers.e5.a,vi x0.trackers.e5.b])] :: [(pb1,oc 50 [c14])] :: S) w ∧ a.defers = [] ∧ RVs Tryd.prog a w [.t 4 (.bool r)]
theorem qjo (N:Nat) (i_0:Int) (ri_0:InR .i64 i_0) {pb0:Nat} (x0:Reading) (r1:InR .i64 x0.phase) (r2:InR .i64 x0.trackers.e0.a) (r3:InR .i64 x0.trackers.e0.b) (r4:InR .i64 x0.trackers.e1.a) (r5:InR .i64 x0.trackers.e1.b) (r6:InR .i64 x0.trackers.e2.a) (r7:InR .i64 x0.trackers.e2.b) (r8:InR .i64 x0.trackers.e3.a) (r9:InR .i64 x0.trackers.e3.b) (r10:InR .i64 x0.trackers.e4.a) (r11:InR .i64 x0.trackers.e4.b) (r12:InR .i64 x0.trackers.e5.a) (r13:InR .i64 x0.trackers.e5.b) {pb1:Nat} {c14:Value} (x1:List (Relation)) (h15:(pL 4 qan) m0 [c14] x1) {r:Bool} (hF:qei N i_0 x0 x1 = some r) (ok:Ok u m0 ([(pb0,oc 64 [vi x0.phase,vi x0.trackers.e0.a,vi x0.trackers.e0.b,vi x0.trackers.e1.a,vi x0.trackers.e1.b,vi x0.trackers.e2.a,vi x0.trackers.e2.b,vi x0.trackers.e3.a,vi x0.trackers.e3.b,vi x0.trackers.e4.a,vi x0.trackers.e4.b,vi x0.trackers.e5.a,vi x0.trackers.e5.b])] :: [(pb1,oc 50 [c14])] :: S) w) :
  Calls Tryd.prog 25 [vi i_0,vp pb0,vp pb1].toArray w fun e w'=>(e = .returned (.bool r) ∧ Ok u m0 ([(pb0,oc 64 [vi x0.phase,vi x0.trackers.e0.a,vi x0.trackers.e0.b,vi x0.trackers.e1.a,vi x0.trackers.e1.b,vi x0.trackers.e2.a,vi x0.trackers.e2.b,vi x0.trackers.e3.a,vi x0.trackers.e3.b,vi x0.trackers.e4.a,vi x0.trackers.e4.b,vi x0.trackers.e5.a,vi x0.trackers.e5.b])] :: [(pb1,oc 50 [c14])] :: S) w'):=by
 unfold qei at hF
 refine en (qjt u m0 S pb0 pb1 x0 x1 c14) r Tryd.func25 rfl rfl rfl (fun _ _ h=>ra h rfl) fun fin a E=>sg<|aw E rfl fun a E=>wp_seq<|qee (by kernel_rfl) (by kernel_rfl) ok<|qv E (qah rfl) fun a E=>qv E (qae qgQ rfl) fun a E=>?_
 obtain ⟨x16,e17,hF⟩:=bnd hF
 replace e17:idx (Arr6_Tracker.list x0.trackers) i_0 = some x16:=e17
 refine qv E (qdZ qhE rfl rfl (qaL e17).1 (qaL e17).2) fun a E=>qv E (qaj (cs:=[vi x16.a,vi x16.b]) qbS rfl rfl (qab.idxK (k:=2) (xs:=Arr6_Tracker.list x0.trackers) (f:=(fun x:Tracker=>[vi x.a,vi x.b])) (fun _=>rfl) (qab.own 0 rfl rfl) e17)) fun a E=>qv E (qai qdJ rfl (qab.own 1 rfl rfl)) fun a E=>qv E (qah rfl) fun a E=>?_
 obtain ⟨x18,e19,hF⟩:=bnd hF
 obtain ⟨b20,o21,es22,hl23,rr24,at25,yy26⟩:=ia E 9 10 qbr h15 e19
 obtain ⟨c29,rfl,r27,r28,h30⟩:=rr24
 refine qv E (yy26 _ _) fun a E=>qv E (qaj (cs:=[vi x18.Operand,vi x18.Mod,vb x18.Not,c29]) qbK rfl rfl (qab.ro at25)) fun a E=>bd hF fun r31 e32 hF=>qg0 E qso rfl (fun w ok=>(qg2 N _ x16 ⟨rfl,(AllP.idx (q:=(fun z:Tracker=>InR .i64 z.a ∧ InR .i64 z.b)) (xs:=Arr6_Tracker.list x0.trackers) ⟨⟨r2,r3⟩,⟨r4,r5⟩,⟨r6,r7⟩,⟨r8,r9⟩,⟨r10,r11⟩,⟨r12,r13⟩,trivial⟩ e17).1,(AllP.idx (q:=(fun z:Tracker=>InR .i64 z.a ∧ InR .i64 z.b)) (xs:=Arr6_Tracker.list x0.trackers) ⟨⟨r2,r3⟩,⟨r4,r5⟩,⟨r6,r7⟩,⟨r8,r9⟩,⟨r10,r11⟩,⟨r12,r13⟩,trivial⟩ e17).2⟩ _ x18 ⟨_,rfl,r27,r28,h30⟩ e32 ok).mono (fun _ _ h=>h)) rfl rfl fun a E=>qv E (qbY rfl) fun a E=>wpQuiet_nil ?_
 intro w ok
 refine qaa<|wp_ret ?_
 exact fin hF ⟨ok,E.d,rz E rfl⟩
def qk8 (u:World) (m0:Mem) (S:Segs) (pb0:Nat) (pb1:Nat) (x0:Reading) (x1:List (Relation)) (c14:Value) (r:Bool) (a:Act) (w:World):Prop :=
 Ok u m0 ([(pb0,oc 64 [vi x0.phase,vi x0.trackers.e0.a,vi x0.trackers.e0.b,vi x0.trackers.e1.a,vi x0.trackers.e1.b,vi x0.trackers.e2.a,vi x0.trackers.e2.b,vi x0.trackers.e3.a,vi x0.trackers.e3.b,vi x0.trackers.e4.a,vi x0.trackers.e4.b,vi x0.trackers.e5.a,vi x0.trackers.e5.b])] :: [(pb1,oc 50 [c14])] :: S) w ∧ a.defers = [] ∧ RVs Tryd.prog a w [.t 4 (.bool r)]
theorem qia (N:Nat) (vc_0:Value) (c_0:List (List (Relation))) (hc_0:(pL 1 (pL 4 qan)) m0 [vc_0] c_0) {pb0:Nat} (x0:Reading) (r1:InR .i64 x0.phase) (r2:InR .i64 x0.trackers.e0.a) (r3:InR .i64 x0.trackers.e0.b) (r4:InR .i64 x0.trackers.e1.a) (r5:InR .i64 x0.trackers.e1.b) (r6:InR .i64 x0.trackers.e2.a) (r7:InR .i64 x0.trackers.e2.b) (r8:InR .i64 x0.trackers.e3.a) (r9:InR .i64 x0.trackers.e3.b) (r10:InR .i64 x0.trackers.e4.a) (r11:InR .i64 x0.trackers.e4.b) (r12:InR .i64 x0.trackers.e5.a) (r13:InR .i64 x0.trackers.e5.b) {pb1:Nat} {c14:Value} (x1:List (Relation)) (h15:(pL 4 qan) m0 [c14] x1) {r:Bool} (hF:qey N c_0 x0 x1 = some r) (ok:Ok u m0 ([(pb0,oc 64 [vi x0.phase,vi x0.trackers.e0.a,vi x0.trackers.e0.b,vi x0.trackers.e1.a,vi x0.trackers.e1.b,vi x0.trackers.e2.a,vi x0.trackers.e2.b,vi x0.trackers.e3.a,vi x0.trackers.e3.b,vi x0.trackers.e4.a,vi x0.trackers.e4.b,vi x0.trackers.e5.a,vi x0.trackers.e5.b])] :: [(pb1,oc 50 [c14])] :: S) w) :
  Calls Tryd.prog 24 [vc_0,Value.func (.func 25) #[] #[.pointer (some ⟨pb0,0,none⟩),.pointer (some ⟨pb1,0,none⟩)]].toArray w fun e w'=>(e = .returned (.bool r) ∧ Ok u m0 ([(pb0,oc 64 [vi x0.phase,vi x0.trackers.e0.a,vi x0.trackers.e0.b,vi x0.trackers.e1.a,vi x0.trackers.e1.b,vi x0.trackers.e2.a,vi x0.trackers.e2.b,vi x0.trackers.e3.a,vi x0.trackers.e3.b,vi x0.trackers.e4.a,vi x0.trackers.e4.b,vi x0.trackers.e5.a,vi x0.trackers.e5.b])] :: [(pb1,oc 50 [c14])] :: S) w'):=by
 unfold qey at hF
 refine en (qk8 u m0 S pb0 pb1 x0 x1 c14) r Tryd.func24 rfl rfl rfl (fun _ _ h=>ra h rfl) fun fin a E=>sg<|aw E rfl fun a E=>sg<|aw E rfl fun a E=>sg<|aw E rfl fun a E=>wp_seq<|sg<|mv E rfl fun a E=>lv E ok (qaz qdq hc_0 rfl) fun a E=>mv E rfl fun a E=>wn<|wp_block<|bd hF fun o18 hL hF=>qaH _ (fun (s:Int × Bool × Int) a w=>Ok u m0 ([(pb0,oc 64 [vi x0.phase,vi x0.trackers.e0.a,vi x0.trackers.e0.b,vi x0.trackers.e1.a,vi x0.trackers.e1.b,vi x0.trackers.e2.a,vi x0.trackers.e2.b,vi x0.trackers.e3.a,vi x0.trackers.e3.b,vi x0.trackers.e4.a,vi x0.trackers.e4.b,vi x0.trackers.e5.a,vi x0.trackers.e5.b])] :: [(pb1,oc 50 [c14])] :: S) w ∧ Env 35 a [(1,(Value.func (.func 25) #[] #[.pointer (some ⟨pb0,0,none⟩),.pointer (some ⟨pb1,0,none⟩)])),(5,vi s.1),(6,vb s.2.1),(10,vc_0),(11,(vi (c_0.length:Int))),(12,vi s.2.2)] ∧ InR .i64 s.1 ∧ InR .i64 s.2.2) (fun (b:Bool) e a w=>e = (.exit 0) ∧ Ok u m0 ([(pb0,oc 64 [vi x0.phase,vi x0.trackers.e0.a,vi x0.trackers.e0.b,vi x0.trackers.e1.a,vi x0.trackers.e1.b,vi x0.trackers.e2.a,vi x0.trackers.e2.b,vi x0.trackers.e3.a,vi x0.trackers.e3.b,vi x0.trackers.e4.a,vi x0.trackers.e4.b,vi x0.trackers.e5.a,vi x0.trackers.e5.b])] :: [(pb1,oc 50 [c14])] :: S) w ∧ Env 35 a [(6,vb b)]) ?_ ?_ N _ a w hL ⟨ok,E.keep [1,5,6,10,11,12],(ir 0),(ir 0)⟩
 rotate_left
 ·intro e a w _ hO
  obtain ⟨rfl,ok,E⟩:=hO
  refine qaN<|qaa<|sg<|mv E rfl fun a E=>aw E rfl fun a E=>wp_ret ?_
  exact fin hF ⟨ok,E.d,rz E rfl⟩
 rintro ⟨v21,v22,v23⟩ a w r ⟨ok,E,r24,r25⟩ hF
 replace hF:qc2 N c_0 x0 x1 v21 v22 v23 = some r:=hF
 unfold qc2 at hF
 refine sg<|lw E (qaC rfl rfl) fun a E=>wn<|wp_seq<|cg E rfl hF (fun c26 hF=>?_) fun c26 hF=>?_
 ·refine wp_exit<|qaE ?_
  cases hF
  exact so (⟨rfl,⟨ok,E.keep [6]⟩⟩)
 refine wp_skip<|qaa<|wp_seq<|wp_block<|sg ?_
 obtain ⟨x27,e28,hF⟩:=bnd hF
 obtain ⟨b29,o30,es31,hl32,rr33,at34,yy35⟩:=ia E 10 12 qdq hc_0 e28
 obtain ⟨c36,rfl,h37⟩:=qbG rr33
 refine lv E ok (yy35 _ _) fun a E=>lv E ok (qai qdJ rfl (qab.ro at34)) fun a E=>aw E rfl fun a E=>sg<|av E rfl fun a E=>wn<|wp_seq<|sg<|mv E rfl fun a E=>lv E ok (qaz qbr h37 rfl) fun a E=>mv E rfl fun a E=>wn<|wp_block<|bd hF fun o40 hL hF=>qaH _ (fun (s:Int × Bool × Int) a w=>Ok u m0 ([(pb0,oc 64 [vi x0.phase,vi x0.trackers.e0.a,vi x0.trackers.e0.b,vi x0.trackers.e1.a,vi x0.trackers.e1.b,vi x0.trackers.e2.a,vi x0.trackers.e2.b,vi x0.trackers.e3.a,vi x0.trackers.e3.b,vi x0.trackers.e4.a,vi x0.trackers.e4.b,vi x0.trackers.e5.a,vi x0.trackers.e5.b])] :: [(pb1,oc 50 [c14])] :: S) w ∧ Env 35 a [(1,(Value.func (.func 25) #[] #[.pointer (some ⟨pb0,0,none⟩),.pointer (some ⟨pb1,0,none⟩)])),(5,vi s.1),(6,vb v22),(9,vb s.2.1),(10,vc_0),(11,(vi (c_0.length:Int))),(12,vi v23),(17,(vi (x27.length:Int))),(18,vi s.2.2)] ∧ InR .i64 s.1 ∧ InR .i64 s.2.2) (fun (b:(Int × Bool)) e a w=>e = (.exit 2) ∧ Ok u m0 ([(pb0,oc 64 [vi x0.phase,vi x0.trackers.e0.a,vi x0.trackers.e0.b,vi x0.trackers.e1.a,vi x0.trackers.e1.b,vi x0.trackers.e2.a,vi x0.trackers.e2.b,vi x0.trackers.e3.a,vi x0.trackers.e3.b,vi x0.trackers.e4.a,vi x0.trackers.e4.b,vi x0.trackers.e5.a,vi x0.trackers.e5.b])] :: [(pb1,oc 50 [c14])] :: S) w ∧ Env 35 a [(1,(Value.func (.func 25) #[] #[.pointer (some ⟨pb0,0,none⟩),.pointer (some ⟨pb1,0,none⟩)])),(5,vi b.1),(6,vb v22),(9,vb b.2),(10,vc_0),(11,(vi (c_0.length:Int))),(12,vi v23)] ∧ InR .i64 b.1) ?_ ?_ N _ a w hL ⟨ok,E.keep [1,5,6,9,10,11,12,17,18],r24,(ir 0)⟩
 rotate_left
 ·intro e a w _ hO
  obtain ⟨rfl,ok,E,r52⟩:=hO
  refine qaN<|qaa<|qac<|mz E rfl rfl fun a E=>qdv v22 (fun c53=>?_) (fun c53=>?_)
  ·have hF:=qdd c53 hF
   have E:=E.upd 30 c53 rfl
   refine ls E fun a E=>pt E rfl rfl fun a E=>av E rfl fun a E=>wpList_nil<|qap<|qaa<|qac<|lw E (qaA rfl rfl (InR.inc r25 (qal hc_0) c26)) fun a E=>mv E rfl fun a E=>wpList_nil ?_
   cases hF
   exact qau ⟨ok,E.keep [1,5,6,10,11,12],r52,(InR.inc r25 (qal hc_0) c26)⟩
  have hF:=qdc c53 hF
  have E:=E.upd 30 c53 rfl
  refine mv E rfl fun a E=>pf E rfl rfl fun a E=>av E rfl fun a E=>wpList_nil<|qap<|qaa<|qac<|lw E (qaA rfl rfl (InR.inc r25 (qal hc_0) c26)) fun a E=>mv E rfl fun a E=>wpList_nil ?_
  cases hF
  exact qau ⟨ok,E.keep [1,5,6,10,11,12],r52,(InR.inc r25 (qal hc_0) c26)⟩
 rintro ⟨v43,v44,v45⟩ a w r ⟨ok,E,r46,r47⟩ hF
 replace hF:qcZ N x0 x1 x27 v43 v44 v45 = some r:=hF
 unfold qcZ at hF
 refine sg<|lw E (qaC rfl rfl) fun a E=>wn<|wp_seq<|cg E rfl hF (fun c48 hF=>?_) fun c48 hF=>?_
 ·refine wp_exit<|qaE ?_
  cases hF
  exact so (⟨rfl,⟨ok,E.keep [1,5,6,9,10,11,12],r46⟩⟩)
 refine wp_skip<|qaa<|wp_seq<|wp_block<|sg<|mz E rfl rfl fun a E=>qdv v44 (fun c49=>?_) (fun c49=>?_)
 rotate_left
 ·have hF:=qdc c49 hF
  have E:=E.upd 21 c49 rfl
  refine lsq E fun a E=>ls E fun a E=>pf E rfl rfl fun a E=>aw E rfl fun a E=>qac<|mv E rfl fun a E=>lw E (qcg rfl rfl) fun a E=>av E rfl fun a E=>wpList_nil<|qap<|qaa<|qac<|lw E (qaA rfl rfl (InR.inc r47 (qal h37) c48)) fun a E=>mv E rfl fun a E=>wpList_nil ?_
  cases hF
  exact qau ⟨ok,E.keep [1,5,6,9,10,11,12,17,18],(InR.wrap _ _),(InR.inc r47 (qal h37) c48)⟩
 have hF:=qdd c49 hF
 have E:=E.upd 21 c49 rfl
 refine mz E rfl rfl fun a E=>bd hF fun r50 e51 hF=>qfY E rfl quI rfl (qjo N v43 r46 x0 r1 r2 r3 r4 r5 r6 r7 r8 r9 r10 r11 r12 r13 x1 h15 e51 ok) rfl rfl ?_
 rintro _ w ⟨rfl,ok⟩
 refine ⟨_,rfl,fun a E=>?_⟩
 refine pt E rfl rfl fun a E=>aw E rfl fun a E=>qac<|mv E rfl fun a E=>lw E (qcg rfl rfl) fun a E=>av E rfl fun a E=>wpList_nil<|qap<|qaa<|qac<|lw E (qaA rfl rfl (InR.inc r47 (qal h37) c48)) fun a E=>mv E rfl fun a E=>wpList_nil ?_
 cases hF
 exact qau ⟨ok,E.keep [1,5,6,9,10,11,12,17,18],(InR.wrap _ _),(InR.inc r47 (qal h37) c48)⟩
def qj4 (u:World) (m0:Mem) (S:Segs) (pb0:Nat) (pb1:Nat) (x0:List (List (Relation))) (c14:Value) (x1:List (Relation)) (c16:Value) (r:Bool) (a:Act) (w:World):Prop :=
 Ok u m0 ([(pb0,oc 23 [c14])] :: [(pb1,oc 50 [c16])] :: S) w ∧ a.defers = [] ∧ RVs Tryd.prog a w [.t 4 (.bool r)]
theorem qks (N:Nat) (vs_0:List Value) (s_0:Reading) (hs_0:qcw m0 vs_0 s_0) {pb0:Nat} {c14:Value} (x0:List (List (Relation))) (h15:(pL 1 (pL 4 qan)) m0 [c14] x0) {pb1:Nat} {c16:Value} (x1:List (Relation)) (h17:(pL 4 qan) m0 [c16] x1) {r:Bool} (hF:qcD N s_0 x0 x1 = some r) (ok:Ok u m0 ([(pb0,oc 23 [c14])] :: [(pb1,oc 50 [c16])] :: S) w) :
  Calls Tryd.prog 23 [.agg vs_0.toArray,vp pb0,vp pb1].toArray w fun e w'=>(e = .returned (.bool r) ∧ Ok u m0 ([(pb0,oc 23 [c14])] :: [(pb1,oc 50 [c16])] :: S) w'):=by
 obtain ⟨rfl,r1,r2,r3,r4,r5,r6,r7,r8,r9,r10,r11,r12,r13⟩:=hs_0
 unfold qcD at hF
 refine en (qj4 u m0 S pb0 pb1 x0 c14 x1 c16) r Tryd.func23 rfl rfl rfl (fun _ _ h=>ra h rfl) fun fin a E=>sg<|qbQ E ok rfl rfl rfl fun b18 a w E ok=>aw E rfl fun a E=>sg<|fk E ok qc8 qam rfl 0 rfl rfl fun a E=>lw E (qax rfl rfl) fun a E=>mv E rfl fun a E=>bu E 8 hF (fun c19 hF E=>?_) fun c19 hF E=>?_
 ·refine lsq E fun a E=>ls E fun a E=>pt E rfl rfl fun a E=>mv E rfl fun a E=>ld E ok qfV 1 rfl rfl rfl fun a E=>lv E ok (qc4 (caps:=[.tmp 3,.tmp 2]) rfl) fun a E=>?_
  obtain ⟨r20,e21,hF⟩:=bnd hF
  replace ok:Ok u m0 ([(b18,oc 64 [vi s_0.phase,vi s_0.trackers.e0.a,vi s_0.trackers.e0.b,vi s_0.trackers.e1.a,vi s_0.trackers.e1.b,vi s_0.trackers.e2.a,vi s_0.trackers.e2.b,vi s_0.trackers.e3.a,vi s_0.trackers.e3.b,vi s_0.trackers.e4.a,vi s_0.trackers.e4.b,vi s_0.trackers.e5.a,vi s_0.trackers.e5.b])] :: [(pb1,oc 50 [c16])] :: [(pb0,oc 23 [c14])] :: S) w:=(ok.pk 3 [0,2,1] rfl (by decide))
  refine lc E qnV rfl (qia N _ x0 h15 s_0 r1 r2 r3 r4 r5 r6 r7 r8 r9 r10 r11 r12 r13 x1 h17 e21 ok) fun w ok a E=>pt E rfl rfl fun a E=>aw E rfl fun a E=>wp_ret ?_
  exact fin hF ⟨(ok.pk 3 [2,1] rfl (by decide)),E.d,rz E rfl⟩
 refine fk E ok qc8 qam rfl 0 rfl rfl fun a E=>lw E (qax rfl rfl) fun a E=>pf E rfl rfl fun a E=>mv E rfl fun a E=>bw E 13 hF (fun c22 hF E=>?_) fun c22 hF E=>?_
 ·refine lsq E fun a E=>ls E fun a E=>pf E rfl rfl fun a E=>aw E rfl fun a E=>wp_ret ?_
  exact fin hF ⟨ok.drop,E.d,rz E rfl⟩
 refine ld E ok qfV 1 rfl rfl rfl fun a E=>lv E ok (qc4 (caps:=[.tmp 3,.tmp 2]) rfl) fun a E=>?_
 obtain ⟨r23,e24,hF⟩:=bnd hF
 replace ok:Ok u m0 ([(b18,oc 64 [vi s_0.phase,vi s_0.trackers.e0.a,vi s_0.trackers.e0.b,vi s_0.trackers.e1.a,vi s_0.trackers.e1.b,vi s_0.trackers.e2.a,vi s_0.trackers.e2.b,vi s_0.trackers.e3.a,vi s_0.trackers.e3.b,vi s_0.trackers.e4.a,vi s_0.trackers.e4.b,vi s_0.trackers.e5.a,vi s_0.trackers.e5.b])] :: [(pb1,oc 50 [c16])] :: [(pb0,oc 23 [c14])] :: S) w:=(ok.pk 3 [0,2,1] rfl (by decide))
 refine lc E qnV rfl (qia N _ x0 h15 s_0 r1 r2 r3 r4 r5 r6 r7 r8 r9 r10 r11 r12 r13 x1 h17 e24 ok) fun w ok a E=>pt E rfl rfl fun a E=>aw E rfl fun a E=>wp_ret ?_
 exact fin hF ⟨(ok.pk 3 [2,1] rfl (by decide)),E.d,rz E rfl⟩
end Go.Proofs.YtidfofhmnlhfjaaDoor
namespace Go.Proofs.YtidfofhmnlhfjaaDoor
open Go.X
variable {u:World} {m0:Mem} {S:Segs} {w:World}
set_option maxHeartbeats 4000000
set_option maxRecDepth 100000
def qgi (u:World) (m0:Mem) (S:Segs) (pb0:Nat) (pb1:Nat) (x0:List (Relation)) (c14:Value) (x1:List (List (Relation))) (c16:Value) (r:Table) (a:Act) (w:World):Prop :=
 ∃ m1 v0,m0.le m1 ∧ Ok u m1 ([(pb0,oc 50 [c14])] :: [(pb1,oc 23 [c16])] :: S) w ∧ a.defers = [] ∧ RVs Tryd.prog a w [.c 6 58 (.agg v0.toArray)] ∧ qg4 m1 v0 r
theorem qgj (N:Nat) (vstart_0:List Value) (start_0:Reading) (hstart_0:qcw m0 vstart_0 start_0) {pb0:Nat} {c14:Value} (x0:List (Relation)) (h15:(pL 4 qan) m0 [c14] x0) {pb1:Nat} {c16:Value} (x1:List (List (Relation))) (h17:(pL 1 (pL 4 qan)) m0 [c16] x1) {r:Table} (hF:qbJ N start_0 x0 x1 = some r) (ok:Ok u m0 ([(pb0,oc 50 [c14])] :: [(pb1,oc 23 [c16])] :: S) w) :
  Calls Tryd.prog 20 [.agg vstart_0.toArray,Value.func (.func 21) #[] #[.pointer (some ⟨pb0,0,none⟩)],Value.func (.func 23) #[] #[.pointer (some ⟨pb1,0,none⟩),.pointer (some ⟨pb0,0,none⟩)]].toArray w fun e w'=>∃ m1 v0,e = .returned (.agg v0.toArray) ∧ m0.le m1 ∧ Ok u m1 ([(pb0,oc 50 [c14])] :: [(pb1,oc 23 [c16])] :: S) w' ∧ qg4 m1 v0 r:=by
 obtain ⟨rfl,r1,r2,r3,r4,r5,r6,r7,r8,r9,r10,r11,r12,r13⟩:=hstart_0
 have le_m0:=Mem.le.refl m0
 unfold qbJ at hF
 refine en (qgi u m0 S pb0 pb1 x0 c14 x1 c16) r Tryd.func20 rfl rfl rfl (by rintro a w ⟨m1,v0,hle,ok,hd,hrv,h0⟩; exact qbC [.c 6 58 (.agg v0.toArray)] hd rfl hrv ⟨m1,v0,rfl,hle,ok,h0⟩) fun fin a E=>sg<|qbQ E ok rfl rfl rfl fun b18 a w E ok=>qaw E ok qhv rfl rfl fun b19 a w E ok=>wn<|sg<|qgF (aggK qcw) (oneV (pI .i64)) E ok rfl rfl fun c20 M21 a w E ok h22=>lv E ok (qaj (cs:=[vi start_0.phase,vi start_0.trackers.e0.a,vi start_0.trackers.e0.b,vi start_0.trackers.e1.a,vi start_0.trackers.e1.b,vi start_0.trackers.e2.a,vi start_0.trackers.e2.b,vi start_0.trackers.e3.a,vi start_0.trackers.e3.b,vi start_0.trackers.e4.a,vi start_0.trackers.e4.b,vi start_0.trackers.e5.a,vi start_0.trackers.e5.b]) qdb rfl rfl (qab.own 2 rfl rfl)) fun a E=>bd hF fun l23 e24 hF=>qgA (.inr rfl) E ok 0 qm1 Tryd.underlying88 h22 rfl rfl rfl rfl ⟨m0,_,rfl,⟨rfl,r1,r2,r3,r4,r5,r6,r7,r8,r9,r10,r11,r12,r13⟩⟩ (qaW (ir 0)) e24 rfl fun M25 w ok h26=>mv E rfl fun a E=>aw E rfl fun a E=>sg<|lv E ok (qaj (cs:=[vi start_0.phase,vi start_0.trackers.e0.a,vi start_0.trackers.e0.b,vi start_0.trackers.e1.a,vi start_0.trackers.e1.b,vi start_0.trackers.e2.a,vi start_0.trackers.e2.b,vi start_0.trackers.e3.a,vi start_0.trackers.e3.b,vi start_0.trackers.e4.a,vi start_0.trackers.e4.b,vi start_0.trackers.e5.a,vi start_0.trackers.e5.b]) qdb rfl rfl (qab.own 2 rfl rfl)) fun a E=>qbH (R:=qcw) (xo:=[.tmp 19]) (xs:=([start_0]:List (Reading))) E ok qku qf2 rfl ⟨⟨_,rfl,rfl,⟨rfl,r1,r2,r3,r4,r5,r6,r7,r8,r9,r10,r11,r12,r13⟩⟩,trivial⟩ rfl rfl rfl rfl fun c27 M28 a w E ok h29=>aw E rfl fun a E=>sg<|qaw E ok qhv rfl rfl fun b30 a w E ok=>wn<|wp_seq<|sg<|aw E rfl fun a E=>wp_block ?_
 obtain ⟨M48,ok,h49⟩:=qd1 (e:=90) (k:=11) (R:=qbs) ok
 obtain ⟨M50,ok,h51⟩:=qd1 (e:=4) (k:=1) (R:=pB) ok
 refine bd hF fun o52 hL hF=>qaH _ (fun (s:(List (Reading)) × Int × Table × (List (Reading × Int))) a w=>∃ m53 c54 M55 c58 M59 c61 M62 c64 M65,m0.le m53 ∧ Ok u m53 (M62 :: M59 :: [(b30,oc 58 [c58,c61])] :: M55 :: M65 :: [(b19,oc 58 [(Value.slice none 0 0),(Value.slice none 0 0)])] :: [(b18,oc 64 [vi start_0.phase,vi start_0.trackers.e0.a,vi start_0.trackers.e0.b,vi start_0.trackers.e1.a,vi start_0.trackers.e1.b,vi start_0.trackers.e2.a,vi start_0.trackers.e2.b,vi start_0.trackers.e3.a,vi start_0.trackers.e3.b,vi start_0.trackers.e4.a,vi start_0.trackers.e4.b,vi start_0.trackers.e5.a,vi start_0.trackers.e5.b])] :: [(pb0,oc 50 [c14])] :: [(pb1,oc 23 [c16])] :: S) w ∧ Env 76 a [(1,(Value.func (.func 21) #[] #[.pointer (some ⟨pb0,0,none⟩)])),(2,(Value.func (.func 23) #[] #[.pointer (some ⟨pb1,0,none⟩),.pointer (some ⟨pb0,0,none⟩)])),(6,vp b19),(7,c64),(8,c54),(9,vp b30),(10,vi s.2.1)] ∧ ORow 64 13 qcw m53 c54 s.1 M55 ∧ InR .i64 s.2.1 ∧ ORow 90 11 qbs m53 c58 s.2.2.1.next M59 ∧ ORow 4 1 pB m53 c61 s.2.2.1.accept M62 ∧ OMap (aggK qcw) (oneV (pI .i64)) m53 c64 s.2.2.2 M65) (fun (b:Table) e a w=>e = (.exit 0) ∧ ∃ m353 c354 M355 c357 M358,m0.le m353 ∧ Ok u m353 (M358 :: M355 :: [(b30,oc 58 [c354,c357])] :: [(b19,oc 58 [(Value.slice none 0 0),(Value.slice none 0 0)])] :: [(b18,oc 64 [vi start_0.phase,vi start_0.trackers.e0.a,vi start_0.trackers.e0.b,vi start_0.trackers.e1.a,vi start_0.trackers.e1.b,vi start_0.trackers.e2.a,vi start_0.trackers.e2.b,vi start_0.trackers.e3.a,vi start_0.trackers.e3.b,vi start_0.trackers.e4.a,vi start_0.trackers.e4.b,vi start_0.trackers.e5.a,vi start_0.trackers.e5.b])] :: [(pb0,oc 50 [c14])] :: [(pb1,oc 23 [c16])] :: S) w ∧ Env 76 a [(6,vp b19),(9,vp b30)] ∧ ORow 90 11 qbs m353 c354 b.next M355 ∧ ORow 4 1 pB m353 c357 b.accept M358) ?_ ?_ N _ a w hL ⟨m0,c27,M28,(Value.slice none 0 0),M48,(Value.slice none 0 0),M50,c20,M25,Mem.le.refl _,ok,E.keep [1,2,6,7,8,9,10],h29,(ir 0),h49,h51,h26⟩
 rotate_left
 ·intro e a w _ hO
  obtain ⟨rfl,m342,c343,M344,c346,M347,hle,ok,E,h345,h348⟩:=hO
  have le_m0:=le_m0.trans hle
  have h15:=(mL qad).up hle h15
  have h17:=(mL (mL qad)).up hle h17
  refine qaN<|qaa<|sg<|lv E ok (qaj (cs:=[c343,c346]) qh7 rfl rfl (qab.own 2 rfl rfl)) fun a E=>qaf E ok 3 rfl rfl rfl qle rfl rfl ⟨(ORow.one h345),(ORow.one h348),trivial⟩ rfl rfl fun w ok=>wn<|wp_ret ?_
  obtain ⟨m349,hle,ok,hfz⟩:=(ok.frs 1 rfl).freeze
  have h350:=ORow.froz qba h345 hle hfz (by decide)
  have le_m0:=le_m0.trans hle
  have h15:=(mL qad).up hle h15
  have h17:=(mL (mL qad)).up hle h17
  have h348:=ORow.up mB hle h348
  obtain ⟨m351,hle,ok,hfz⟩:=(ok.frs 0 rfl).freeze
  have h352:=ORow.froz mB h348 hle hfz (by decide)
  have le_m0:=le_m0.trans hle
  have h15:=(mL qad).up hle h15
  have h17:=(mL (mL qad)).up hle h17
  have h350:=(mL qba).up hle h350
  exact fin hF ⟨m351,[c343,c346],le_m0,ok.drop.drop.drop,E.d,⟨rv_c (cs:=[c343,c346]) E ok rfl qh7 rfl (qab.own 1 rfl rfl),trivial⟩,⟨_,_,rfl,h350,h352⟩⟩
 rintro ⟨v67,v68,v69,v70⟩ a w r ⟨m71,c72,M73,c76,M77,c79,M80,c82,M83,hle,ok,E,h74,r75,h78,h81,h84⟩ hF
 replace hF:qbd N x0 x1 v67 v68 v69 v70 = some r:=hF
 unfold qbd at hF
 have le_m0:=le_m0.trans hle
 have h15:=(mL qad).up hle h15
 have h17:=(mL (mL qad)).up hle h17
 refine wp_seq<|sg<|mz E rfl rfl fun a E=>lv E ok (qcz qku h74 rfl) fun a E=>lw E (qaC rfl rfl) fun a E=>wn<|cg E rfl hF (fun c85 hF=>?_) fun c85 hF=>?_
 ·refine wp_exit<|qaE ?_
  cases hF
  exact so (⟨rfl,⟨m71,c76,M77,c79,M80,le_m0,(ok.pk 9 [0,1,2,5,6,7,8] rfl (by decide)),E.keep [6,9],h78,h81⟩⟩)
 refine wp_skip<|qaa<|wp_seq<|wp_block<|sg<|qaw E ok qfT rfl rfl fun b86 a w E ok=>wn<|wp_seq<|sg<|mv E rfl fun a E=>wn<|wp_block<|bd hF fun o109 hL hF=>qaH _ (fun (s:(List (Reading)) × Int × Arr11_Int × (List (Reading × Int))) a w=>∃ m110 c111 M112 c126 M127,m71.le m110 ∧ Ok u m110 ([(b86,oc 90 [vi s.2.2.1.e0,vi s.2.2.1.e1,vi s.2.2.1.e2,vi s.2.2.1.e3,vi s.2.2.1.e4,vi s.2.2.1.e5,vi s.2.2.1.e6,vi s.2.2.1.e7,vi s.2.2.1.e8,vi s.2.2.1.e9,vi s.2.2.1.e10])] :: M80 :: M77 :: [(b30,oc 58 [c76,c79])] :: M112 :: M127 :: [(b19,oc 58 [(Value.slice none 0 0),(Value.slice none 0 0)])] :: [(b18,oc 64 [vi start_0.phase,vi start_0.trackers.e0.a,vi start_0.trackers.e0.b,vi start_0.trackers.e1.a,vi start_0.trackers.e1.b,vi start_0.trackers.e2.a,vi start_0.trackers.e2.b,vi start_0.trackers.e3.a,vi start_0.trackers.e3.b,vi start_0.trackers.e4.a,vi start_0.trackers.e4.b,vi start_0.trackers.e5.a,vi start_0.trackers.e5.b])] :: [(pb0,oc 50 [c14])] :: [(pb1,oc 23 [c16])] :: S) w ∧ Env 76 a [(1,(Value.func (.func 21) #[] #[.pointer (some ⟨pb0,0,none⟩)])),(2,(Value.func (.func 23) #[] #[.pointer (some ⟨pb1,0,none⟩),.pointer (some ⟨pb0,0,none⟩)])),(6,vp b19),(7,c126),(8,c111),(9,vp b30),(10,vi v68),(11,vp b86),(27,vi s.2.1)] ∧ ORow 64 13 qcw m110 c111 s.1 M112 ∧ InR .i64 s.2.1 ∧ InR .i64 s.2.2.1.e0 ∧ InR .i64 s.2.2.1.e1 ∧ InR .i64 s.2.2.1.e2 ∧ InR .i64 s.2.2.1.e3 ∧ InR .i64 s.2.2.1.e4 ∧ InR .i64 s.2.2.1.e5 ∧ InR .i64 s.2.2.1.e6 ∧ InR .i64 s.2.2.1.e7 ∧ InR .i64 s.2.2.1.e8 ∧ InR .i64 s.2.2.1.e9 ∧ InR .i64 s.2.2.1.e10 ∧ OMap (aggK qcw) (oneV (pI .i64)) m110 c126 s.2.2.2 M127) (fun (b:(Arr11_Int × (List (Reading × Int)) × (List (Reading)))) e a w=>e = (.exit 2) ∧ ∃ m324 c336 M337 c339 M340,m71.le m324 ∧ Ok u m324 ([(b86,oc 90 [vi b.1.e0,vi b.1.e1,vi b.1.e2,vi b.1.e3,vi b.1.e4,vi b.1.e5,vi b.1.e6,vi b.1.e7,vi b.1.e8,vi b.1.e9,vi b.1.e10])] :: M80 :: M77 :: [(b30,oc 58 [c76,c79])] :: M340 :: M337 :: [(b19,oc 58 [(Value.slice none 0 0),(Value.slice none 0 0)])] :: [(b18,oc 64 [vi start_0.phase,vi start_0.trackers.e0.a,vi start_0.trackers.e0.b,vi start_0.trackers.e1.a,vi start_0.trackers.e1.b,vi start_0.trackers.e2.a,vi start_0.trackers.e2.b,vi start_0.trackers.e3.a,vi start_0.trackers.e3.b,vi start_0.trackers.e4.a,vi start_0.trackers.e4.b,vi start_0.trackers.e5.a,vi start_0.trackers.e5.b])] :: [(pb0,oc 50 [c14])] :: [(pb1,oc 23 [c16])] :: S) w ∧ Env 76 a [(1,(Value.func (.func 21) #[] #[.pointer (some ⟨pb0,0,none⟩)])),(2,(Value.func (.func 23) #[] #[.pointer (some ⟨pb1,0,none⟩),.pointer (some ⟨pb0,0,none⟩)])),(6,vp b19),(7,c336),(8,c339),(9,vp b30),(10,vi v68),(11,vp b86)] ∧ InR .i64 b.1.e0 ∧ InR .i64 b.1.e1 ∧ InR .i64 b.1.e2 ∧ InR .i64 b.1.e3 ∧ InR .i64 b.1.e4 ∧ InR .i64 b.1.e5 ∧ InR .i64 b.1.e6 ∧ InR .i64 b.1.e7 ∧ InR .i64 b.1.e8 ∧ InR .i64 b.1.e9 ∧ InR .i64 b.1.e10 ∧ OMap (aggK qcw) (oneV (pI .i64)) m324 c336 b.2.1 M337 ∧ ORow 64 13 qcw m324 c339 b.2.2 M340) ?_ ?_ N _ a w hL ⟨m71,c72,M73,c82,M83,Mem.le.refl _,ok,E.keep [1,2,6,7,8,9,10,11,27],h74,(ir 0),(ir 0),(ir 0),(ir 0),(ir 0),(ir 0),(ir 0),(ir 0),(ir 0),(ir 0),(ir 0),(ir 0),h84⟩
 rotate_left
 ·as_aux_lemma =>
   intro e a w _ hO
   obtain ⟨rfl,m225,c237,M238,c240,M241,hle,ok,E,r226,r227,r228,r229,r230,r231,r232,r233,r234,r235,r236,h239,h242⟩:=hO
   have le_m0:=le_m0.trans hle
   have h15:=(mL qad).up hle h15
   have h17:=(mL (mL qad)).up hle h17
   have h78:=ORow.up qba hle h78
   have h81:=ORow.up mB hle h81
   refine qaN<|qaa<|sg<|fk E ok qfU qh5 rfl 3 rfl rfl fun a E=>lv E ok (qaj (cs:=[vi o109.1.e0,vi o109.1.e1,vi o109.1.e2,vi o109.1.e3,vi o109.1.e4,vi o109.1.e5,vi o109.1.e6,vi o109.1.e7,vi o109.1.e8,vi o109.1.e9,vi o109.1.e10]) qjZ rfl rfl (qab.own 0 rfl rfl)) fun a E=>qbH (R:=qbs) (xo:=[.tmp 60]) (xs:=([o109.1]:List (Arr11_Int))) E ok qgN qfT rfl ⟨⟨_,rfl,rfl,⟨rfl,r226,r227,r228,r229,r230,r231,r232,r233,r234,r235,r236⟩⟩,trivial⟩ rfl rfl rfl rfl fun c243 M244 a w E ok h245=>bd hF fun l246 e247 hF=>qdn (R:=qbs) E ok 3 qba qgN Tryd.underlying56 rfl h78 (qbP.ofRow h245 0 rfl ok) e247 ⟨_,qfT,rfl⟩ rfl rfl rfl rfl fun c248 M249 a w E ok h250=>fv E qfU rfl fun a E=>qaf E ok 4 rfl rfl rfl qoA (ORow.cells h250) rfl ⟨(ORow.one h250),trivial⟩ rfl rfl fun w ok=>wn<|bd hF fun o251 hJ hF=>qaO (Q':=fun e a w=>e = .normal ∧ ∃ c252 M253 c255 M256,Ok u m225 (M244 :: [(b86,oc 90 [vi o109.1.e0,vi o109.1.e1,vi o109.1.e2,vi o109.1.e3,vi o109.1.e4,vi o109.1.e5,vi o109.1.e6,vi o109.1.e7,vi o109.1.e8,vi o109.1.e9,vi o109.1.e10])] :: M256 :: M253 :: [(b30,oc 58 [c252,c255])] :: M241 :: M238 :: [(b19,oc 58 [(Value.slice none 0 0),(Value.slice none 0 0)])] :: [(b18,oc 64 [vi start_0.phase,vi start_0.trackers.e0.a,vi start_0.trackers.e0.b,vi start_0.trackers.e1.a,vi start_0.trackers.e1.b,vi start_0.trackers.e2.a,vi start_0.trackers.e2.b,vi start_0.trackers.e3.a,vi start_0.trackers.e3.b,vi start_0.trackers.e4.a,vi start_0.trackers.e4.b,vi start_0.trackers.e5.a,vi start_0.trackers.e5.b])] :: [(pb0,oc 50 [c14])] :: [(pb1,oc 23 [c16])] :: S) w ∧ Env 76 a [(1,(Value.func (.func 21) #[] #[.pointer (some ⟨pb0,0,none⟩)])),(2,(Value.func (.func 23) #[] #[.pointer (some ⟨pb1,0,none⟩),.pointer (some ⟨pb0,0,none⟩)])),(6,vp b19),(7,c237),(8,c240),(9,vp b30),(10,vi v68)] ∧ ORow 90 11 qbs m225 c252 o251.next M253 ∧ ORow 4 1 pB m225 c255 o251.accept M256) ?_ ?_
   rotate_left
   ·intro e a w hO
    obtain ⟨rfl,c318,M319,c321,M322,ok,E,h320,h323⟩:=hO
    refine qap<|qaa<|qac<|mv E rfl fun a E=>lw E (qaA rfl rfl (InR.inc r75 (ORow.InR h74) c85)) fun a E=>av E rfl fun a E=>wpList_nil ?_
    cases hF
    exact qau ⟨m225,c240,M241,c318,M319,c321,M322,c237,M238,le_m0,(ok.pk 11 [2,3,4,5,6,7,8,9,10] rfl (by decide)),E.keep [1,2,6,7,8,9,10],h242,(InR.inc r75 (ORow.InR h74) c85),h320,h323,h239⟩
   have hF:=hJ
   obtain ⟨x258,e259,hF⟩:=bnd hF
   obtain ⟨r281,e282,hF⟩:=bnd hF
   obtain ⟨l286,e287,hF⟩:=bnd hF
   obtain rfl:=sj hF
   refine qaX [1,6] (Cls u m225 (M244 :: [(b86,oc 90 [vi o109.1.e0,vi o109.1.e1,vi o109.1.e2,vi o109.1.e3,vi o109.1.e4,vi o109.1.e5,vi o109.1.e6,vi o109.1.e7,vi o109.1.e8,vi o109.1.e9,vi o109.1.e10])] :: M249 :: [(b30,oc 58 [c248,c79])] :: M241 :: M238 :: [(b19,oc 58 [(Value.slice none 0 0),(Value.slice none 0 0)])] :: [(b18,oc 64 [vi start_0.phase,vi start_0.trackers.e0.a,vi start_0.trackers.e0.b,vi start_0.trackers.e1.a,vi start_0.trackers.e1.b,vi start_0.trackers.e2.a,vi start_0.trackers.e2.b,vi start_0.trackers.e3.a,vi start_0.trackers.e3.b,vi start_0.trackers.e4.a,vi start_0.trackers.e4.b,vi start_0.trackers.e5.a,vi start_0.trackers.e5.b])] :: [(pb0,oc 50 [c14])] :: [(pb1,oc 23 [c16])] :: [])) (Cls u m225 (M244 :: [(b86,oc 90 [vi o109.1.e0,vi o109.1.e1,vi o109.1.e2,vi o109.1.e3,vi o109.1.e4,vi o109.1.e5,vi o109.1.e6,vi o109.1.e7,vi o109.1.e8,vi o109.1.e9,vi o109.1.e10])] :: M249 :: M241 :: M238 :: [(b19,oc 58 [(Value.slice none 0 0),(Value.slice none 0 0)])] :: [(b18,oc 64 [vi start_0.phase,vi start_0.trackers.e0.a,vi start_0.trackers.e0.b,vi start_0.trackers.e1.a,vi start_0.trackers.e1.b,vi start_0.trackers.e2.a,vi start_0.trackers.e2.b,vi start_0.trackers.e3.a,vi start_0.trackers.e3.b,vi start_0.trackers.e4.a,vi start_0.trackers.e4.b,vi start_0.trackers.e5.a,vi start_0.trackers.e5.b])] :: [(pb0,oc 50 [c14])] :: [(pb1,oc 23 [c16])] :: [])) (by kernel_rfl) ?_
   intro w hw
   replace ok:=qa3 ok hw
   clear hw
   have le_m225:=Mem.le.refl m225
   refine qag (cl1 (cq le_m225 ok [0,1,3,4,5,6,7,8,9,10] rfl) (cq le_m225 ok [0,1,3,5,6,7,8,9,10] rfl)) fun hT=>kt 0 E rfl hT (qae qgS rfl) fun a E=>qaU 1 E rfl (by kernel_rfl) nP hT (qai qdK rfl (qab.cown 3 rfl rfl)) rfl rfl fun a E=>kt 2 E rfl hT (qah rfl) fun a E=>kt 3 E rfl hT (qah rfl) fun a E=>kt 4 E rfl hT (qah rfl) fun a E=>?_
   obtain ⟨b291,o292,hp293,yy294⟩:=qbf qku h242 e259 (P:=Tryd.prog) (X:=.tmp 67) (I:=.tmp 68) (kd:=.i64) (qay E rfl) (qay E rfl)
   refine kt 5 E rfl hT (yy294 _ _) fun a E=>?_
   obtain ⟨es295,hl296,rr297,hh298⟩:=qbT h242 e259 hp293 (by decide)
   obtain ⟨rfl,r299,r300,r301,r302,r303,r304,r305,r306,r307,r308,r309,r310,r311⟩:=rr297
   refine qaU 6 E rfl (by kernel_rfl) nP hT (qaj (cs:=[vi x258.phase,vi x258.trackers.e0.a,vi x258.trackers.e0.b,vi x258.trackers.e1.a,vi x258.trackers.e1.b,vi x258.trackers.e2.a,vi x258.trackers.e2.b,vi x258.trackers.e3.a,vi x258.trackers.e3.b,vi x258.trackers.e4.a,vi x258.trackers.e4.b,vi x258.trackers.e5.a,vi x258.trackers.e5.b]) qdb rfl rfl (qab.crow hh298 4 rfl)) rfl rfl fun a E=>qar [7] (by kernel_rfl) rfl (qas ?_)
   ·refine qbM (o:=_) rfl ?_
    replace ok:Ok u m225 ([(pb1,oc 23 [c16])] :: [(pb0,oc 50 [c14])] :: M244 :: [(b86,oc 90 [vi o109.1.e0,vi o109.1.e1,vi o109.1.e2,vi o109.1.e3,vi o109.1.e4,vi o109.1.e5,vi o109.1.e6,vi o109.1.e7,vi o109.1.e8,vi o109.1.e9,vi o109.1.e10])] :: M80 :: M249 :: [(b30,oc 58 [c248,c79])] :: M241 :: M238 :: [(b19,oc 58 [(Value.slice none 0 0),(Value.slice none 0 0)])] :: [(b18,oc 64 [vi start_0.phase,vi start_0.trackers.e0.a,vi start_0.trackers.e0.b,vi start_0.trackers.e1.a,vi start_0.trackers.e1.b,vi start_0.trackers.e2.a,vi start_0.trackers.e2.b,vi start_0.trackers.e3.a,vi start_0.trackers.e3.b,vi start_0.trackers.e4.a,vi start_0.trackers.e4.b,vi start_0.trackers.e5.a,vi start_0.trackers.e5.b])] :: S) w:=(ok.pk 11 [10,9,0,1,2,3,4,5,6,7,8] rfl (by decide))
    refine qfY E rfl quN rfl (qks N _ x258 ⟨rfl,r299,r300,r301,r302,r303,r304,r305,r306,r307,r308,r309,r310,r311⟩ x1 h17 x0 h15 e282 ok) rfl rfl ?_
    rintro _ w ⟨rfl,ok⟩
    refine ⟨_,rfl,fun a E=>?_⟩
    refine wn<|qag (cl1 (cq le_m225 ok [2,3,5,6,7,8,9,10,1,0] rfl) (cq le_m225 ok [2,3,5,7,8,9,10,1,0] rfl)) fun hT=>qar [8] (by kernel_rfl) rfl (qas ?_)
    ·refine wo rfl<|qbH (R:=pB) (xo:=[.tmp 71]) (xs:=([r281]:List (Bool))) E ok qbD qd0 rfl ⟨⟨_,rfl,rfl,qeo⟩,trivial⟩ rfl rfl rfl rfl fun c312 M313 a w E ok h314=>wn<|qag (cl1 (cq le_m225 ok [3,4,6,7,8,9,10,11,2,1] rfl) (cq le_m225 ok [3,4,6,8,9,10,11,2,1] rfl)) fun hT=>qar [9] (by kernel_rfl) rfl (qas ?_)
     ·refine wo rfl<|qdn (R:=pB) E ok 5 mB qbD Tryd.underlying31 rfl h81 (qbP.ofRow h314 0 rfl ok) e287 ⟨_,qd0,rfl⟩ rfl rfl rfl rfl fun c315 M316 a w E ok h317=>wn<|qag (cl1 (cq le_m225 ok [3,4,6,7,8,9,10,11,2,1] rfl) (cq le_m225 ok [3,4,6,8,9,10,11,2,1] rfl)) fun hT=>kt 10 E rfl hT (qae qgS rfl) fun a E=>qar [11] (by kernel_rfl) rfl (qas ?_)
      ·refine wo rfl<|qaf E ok 7 rfl rfl rfl qmq (ORow.cells h317) rfl ⟨(ORow.one h317),trivial⟩ rfl rfl fun w ok=>wn<|qag (cl2 (by kernel_rfl) (cq le_m225 ok [3,4,6,8,9,10,11,2,1] rfl)) fun hT=>qaM (by kernel_rfl) ?_
       exact ⟨rfl,⟨c248,M249,c315,M316,(ok.pk 12 [3,4,5,6,7,8,9,10,11,2,1] rfl (by decide)),E.keep [1,2,6,7,8,9,10],h250,h317⟩⟩
 rintro ⟨v129,v130,v131,v132⟩ a w r ⟨m133,c134,M135,c149,M150,hle,ok,E,h136,r137,r138,r139,r140,r141,r142,r143,r144,r145,r146,r147,r148,h151⟩ hF
 replace hF:qa2 N x0 v68 v129 v130 v131 v132 = some r:=hF
 unfold qa2 at hF
 have le_m71:=Mem.le.refl m71
 have le_m0:=le_m0.trans hle
 have le_m71:=le_m71.trans hle
 have h15:=(mL qad).up hle h15
 have h17:=(mL (mL qad)).up hle h17
 have h78:=ORow.up qba hle h78
 have h81:=ORow.up mB hle h81
 refine sg<|lw E (qaC rfl rfl) fun a E=>wn<|wp_seq<|cg E rfl hF (fun c152 hF=>?_) fun c152 hF=>?_
 ·refine wp_exit<|qaE ?_
  cases hF
  exact so (⟨rfl,⟨m133,c149,M150,c134,M135,le_m71,ok,E.keep [1,2,6,7,8,9,10,11],r138,r139,r140,r141,r142,r143,r144,r145,r146,r147,r148,h151,h136⟩⟩)
 refine wp_skip<|qaa<|wp_seq<|wp_block<|sg<|mv E rfl fun a E=>av E rfl fun a E=>wn<|sg<|mz E rfl rfl fun a E=>mv E rfl fun a E=>?_
 obtain ⟨x153,e154,hF⟩:=bnd hF
 obtain ⟨b155,o156,hp157,yy158⟩:=qbf qku h136 e154 (P:=Tryd.prog) (X:=.tmp 31) (I:=.tmp 32) (kd:=.i64) (qay E rfl) (qay E rfl)
 refine lv E ok (yy158 _ _) fun a E=>?_
 obtain ⟨es159,hl160,rr161,hh162⟩:=qbT h136 e154 hp157 (by decide)
 obtain ⟨rfl,r163,r164,r165,r166,r167,r168,r169,r170,r171,r172,r173,r174,r175⟩:=rr161
 refine lv E ok (qaj (cs:=[vi x153.phase,vi x153.trackers.e0.a,vi x153.trackers.e0.b,vi x153.trackers.e1.a,vi x153.trackers.e1.b,vi x153.trackers.e2.a,vi x153.trackers.e2.b,vi x153.trackers.e3.a,vi x153.trackers.e3.b,vi x153.trackers.e4.a,vi x153.trackers.e4.b,vi x153.trackers.e5.a,vi x153.trackers.e5.b]) qdb rfl rfl (hh162 _ _ _ 4 rfl)) fun a E=>mv E rfl fun a E=>?_
 obtain ⟨r176,e177,hF⟩:=bnd hF
 replace ok:Ok u m133 ([(pb0,oc 50 [c14])] :: [(b86,oc 90 [vi v131.e0,vi v131.e1,vi v131.e2,vi v131.e3,vi v131.e4,vi v131.e5,vi v131.e6,vi v131.e7,vi v131.e8,vi v131.e9,vi v131.e10])] :: M80 :: M77 :: [(b30,oc 58 [c76,c79])] :: M135 :: M150 :: [(b19,oc 58 [(Value.slice none 0 0),(Value.slice none 0 0)])] :: [(b18,oc 64 [vi start_0.phase,vi start_0.trackers.e0.a,vi start_0.trackers.e0.b,vi start_0.trackers.e1.a,vi start_0.trackers.e1.b,vi start_0.trackers.e2.a,vi start_0.trackers.e2.b,vi start_0.trackers.e3.a,vi start_0.trackers.e3.b,vi start_0.trackers.e4.a,vi start_0.trackers.e4.b,vi start_0.trackers.e5.a,vi start_0.trackers.e5.b])] :: [(pb1,oc 23 [c16])] :: S) w:=(ok.pk 10 [8,0,1,2,3,4,5,6,7,9] rfl (by decide))
 refine qfY E rfl qt4 rfl (qki N _ x153 ⟨rfl,r163,r164,r165,r166,r167,r168,r169,r170,r171,r172,r173,r174,r175⟩ v130 r137 x0 h15 e177 ok) rfl rfl ?_
 rintro _ w ⟨m178,vs179,rfl,hle,ok,h180⟩
 have le_m0:=le_m0.trans hle
 have le_m71:=le_m71.trans hle
 have h15:=(mL qad).up hle h15
 have h17:=(mL (mL qad)).up hle h17
 have h78:=ORow.up qba hle h78
 have h81:=ORow.up mB hle h81
 have h136:=ORow.up qoJ hle h136
 have h151:=OMap.up (qfW (mI .i64)) hle h151
 obtain ⟨rfl,r181,r182,r183,r184,r185,r186,r187,r188,r189,r190,r191,r192,r193⟩:=h180
 refine ⟨_,rfl,fun a E=>?_⟩
 refine qaw E ok qf2 rfl rfl fun b194 a w E ok=>qaf E ok 0 rfl rfl rfl qgC rfl rfl ⟨rfl,rfl,rfl,rfl,rfl,rfl,rfl,rfl,rfl,rfl,rfl,rfl,rfl,trivial⟩ rfl rfl fun w ok=>wn<|sg<|mv E rfl fun a E=>lv E ok (qaj (cs:=[vi r176.phase,vi r176.trackers.e0.a,vi r176.trackers.e0.b,vi r176.trackers.e1.a,vi r176.trackers.e1.b,vi r176.trackers.e2.a,vi r176.trackers.e2.b,vi r176.trackers.e3.a,vi r176.trackers.e3.b,vi r176.trackers.e4.a,vi r176.trackers.e4.b,vi r176.trackers.e5.a,vi r176.trackers.e5.b]) qdb rfl rfl (qab.own 0 rfl rfl)) fun a E=>?_
 obtain ⟨xv195,h196,yy197,yy198⟩:=qkm (P:=Tryd.prog) (mo:=.tmp 38) (ko:=.tmp 39) (zx:=(0:Int)) ok 7 qm1 Tryd.underlying88 h151 rfl (qay E rfl) (qay E rfl) ⟨m0,_,rfl,⟨rfl,r181,r182,r183,r184,r185,r186,r187,r188,r189,r190,r191,r192,r193⟩⟩ qiJ (qaW (ir 0))
 obtain ⟨rfl,r199⟩:=qha h196
 refine lv E ok (yy198 _) fun a E=>mv E rfl fun a E=>lw E (qaF rfl rfl) fun a E=>lw E (qaF rfl rfl) fun a E=>av E rfl fun a E=>aw E rfl fun a E=>wp_seq<|sg<|mv E rfl fun a E=>lw E (qbW rfl) fun a E=>wn<|cg E rfl hF (fun c200 hF=>?_) fun c200 hF=>?_
 ·refine wp_skip<|qaa<|qac<|mz E rfl rfl fun a E=>?_
  obtain ⟨x219,e220,hF⟩:=bnd hF
  replace e220:idx (Arr11_Int.list v131) v130 = some x219:=e220
  refine lv E ok (qdZ qhx rfl rfl (qaL e220).1 (qaL e220).2) fun a E=>?_
  obtain ⟨z221,e222,hF⟩:=bnd hF
  have h223:=Arr11_Int.set_list e222
  have h224:=AllP.setI (q:=(InR .i64)) (xs:=Arr11_Int.list v131) ⟨r138,r139,r140,r141,r142,r143,r144,r145,r146,r147,r148,trivial⟩ r199 h223
  refine qem (c:=[vi v131.e0,vi v131.e1,vi v131.e2,vi v131.e3,vi v131.e4,vi v131.e5,vi v131.e6,vi v131.e7,vi v131.e8,vi v131.e9,vi v131.e10]) (c':=[vi z221.e0,vi z221.e1,vi z221.e2,vi z221.e3,vi z221.e4,vi z221.e5,vi z221.e6,vi z221.e7,vi z221.e8,vi z221.e9,vi z221.e10]) E ok 2 rfl rfl rfl qbp rfl rfl ⟨rfl,trivial⟩ (qh9 (n:=11) (qaL e220).2 (Nat.le_of_ble_eq_true rfl)) (qjl (f:=(Value.int .i64)) (pre:=[]) (post:=[]) (xs:=Arr11_Int.list v131) (ys:=z221.list) rfl h223) rfl fun w ok=>wpList_nil<|qap<|qaa<|qac<|lw E (qaA rfl rfl (InR.inc r137 (ir 11) c152)) fun a E=>mv E rfl fun a E=>wpList_nil ?_
  cases hF
  exact qau ⟨m178,c134,M135,c149,M150,le_m71,(ok.pk 11 [2,3,4,5,6,7,8,9,1,10] rfl (by decide)),E.keep [1,2,6,7,8,9,10,11,27],h136,(InR.inc r137 (ir 11) c152),h224.1,h224.2.1,h224.2.2.1,h224.2.2.2.1,h224.2.2.2.2.1,h224.2.2.2.2.2.1,h224.2.2.2.2.2.2.1,h224.2.2.2.2.2.2.2.1,h224.2.2.2.2.2.2.2.2.1,h224.2.2.2.2.2.2.2.2.2.1,h224.2.2.2.2.2.2.2.2.2.2.1,h151⟩
 refine sg<|mv E rfl fun a E=>lv E ok (qcz qku h136 rfl) fun a E=>aw E rfl fun a E=>sg<|mv E rfl fun a E=>lv E ok (qaj (cs:=[vi r176.phase,vi r176.trackers.e0.a,vi r176.trackers.e0.b,vi r176.trackers.e1.a,vi r176.trackers.e1.b,vi r176.trackers.e2.a,vi r176.trackers.e2.b,vi r176.trackers.e3.a,vi r176.trackers.e3.b,vi r176.trackers.e4.a,vi r176.trackers.e4.b,vi r176.trackers.e5.a,vi r176.trackers.e5.b]) qdb rfl rfl (qab.own 0 rfl rfl)) fun a E=>mv E rfl fun a E=>bd hF fun l201 e202 hF=>qgA (.inl rfl) E ok 7 qm1 Tryd.underlying88 h151 rfl rfl rfl rfl ⟨m0,_,rfl,⟨rfl,r181,r182,r183,r184,r185,r186,r187,r188,r189,r190,r191,r192,r193⟩⟩ (qaW (ORow.InR h136)) e202 rfl fun M203 w ok h204=>wn<|qac<|mv E rfl fun a E=>lv E ok (qaj (cs:=[vi r176.phase,vi r176.trackers.e0.a,vi r176.trackers.e0.b,vi r176.trackers.e1.a,vi r176.trackers.e1.b,vi r176.trackers.e2.a,vi r176.trackers.e2.b,vi r176.trackers.e3.a,vi r176.trackers.e3.b,vi r176.trackers.e4.a,vi r176.trackers.e4.b,vi r176.trackers.e5.a,vi r176.trackers.e5.b]) qdb rfl rfl (qab.own 0 rfl rfl)) fun a E=>qbH (R:=qcw) (xo:=[.tmp 51]) (xs:=([r176]:List (Reading))) E ok qku qf2 rfl ⟨⟨_,rfl,rfl,⟨rfl,r181,r182,r183,r184,r185,r186,r187,r188,r189,r190,r191,r192,r193⟩⟩,trivial⟩ rfl rfl rfl rfl fun c205 M206 a w E ok h207=>?_
 refine bd hF fun l208 e209 hF=>qdn (R:=qcw) E ok 7 qoJ qku Tryd.underlying89 rfl h136 (qbP.ofRow h207 0 rfl ok) e209 ⟨_,qf2,rfl⟩ rfl rfl rfl rfl fun c210 M211 a w E ok h212=>aw E rfl fun a E=>qac<|mz E rfl rfl fun a E=>?_
 obtain ⟨x213,e214,hF⟩:=bnd hF
 replace e214:idx (Arr11_Int.list v131) v130 = some x213:=e214
 refine lv E ok (qdZ qhx rfl rfl (qaL e214).1 (qaL e214).2) fun a E=>?_
 obtain ⟨z215,e216,hF⟩:=bnd hF
 have h217:=Arr11_Int.set_list e216
 have h218:=AllP.setI (q:=(InR .i64)) (xs:=Arr11_Int.list v131) ⟨r138,r139,r140,r141,r142,r143,r144,r145,r146,r147,r148,trivial⟩ (ORow.InR h136) h217
 refine qem (c:=[vi v131.e0,vi v131.e1,vi v131.e2,vi v131.e3,vi v131.e4,vi v131.e5,vi v131.e6,vi v131.e7,vi v131.e8,vi v131.e9,vi v131.e10]) (c':=[vi z215.e0,vi z215.e1,vi z215.e2,vi z215.e3,vi z215.e4,vi z215.e5,vi z215.e6,vi z215.e7,vi z215.e8,vi z215.e9,vi z215.e10]) E ok 3 rfl rfl rfl qbp rfl rfl ⟨rfl,trivial⟩ (qh9 (n:=11) (qaL e214).2 (Nat.le_of_ble_eq_true rfl)) (qjl (f:=(Value.int .i64)) (pre:=[]) (post:=[]) (xs:=Arr11_Int.list v131) (ys:=z215.list) rfl h217) rfl fun w ok=>wpList_nil<|qap<|qaa<|qac<|lw E (qaA rfl rfl (InR.inc r137 (ir 11) c152)) fun a E=>mv E rfl fun a E=>wpList_nil ?_
 cases hF
 exact qau ⟨m178,c210,M211,c149,M203,le_m71,(ok.pk 12 [3,4,5,6,7,8,9,10,2,11] rfl (by decide)),E.keep [1,2,6,7,8,9,10,11,27],h212,(InR.inc r137 (ir 11) c152),h218.1,h218.2.1,h218.2.2.1,h218.2.2.2.1,h218.2.2.2.2.1,h218.2.2.2.2.2.1,h218.2.2.2.2.2.2.1,h218.2.2.2.2.2.2.2.1,h218.2.2.2.2.2.2.2.2.1,h218.2.2.2.2.2.2.2.2.2.1,h218.2.2.2.2.2.2.2.2.2.2.1,h204⟩
def qi9 (u:World) (m0:Mem) (S:Segs) (pb0:Nat) (pb1:Nat) (pb2:Nat) (x0:List (Int)) (c1:Value) (M2:List (Nat × Obj)) (x1:Table) (c4:Value) (c6:Value) (x2:List (Int)) (c8:Value) (M9:List (Nat × Obj)) (r:Int) (a:Act) (w:World):Prop :=
 Ok u m0 ([(pb0,oc 83 [c1])] :: M2 :: [(pb1,oc 58 [c4,c6])] :: [(pb2,oc 83 [c8])] :: M9 :: S) w ∧ a.defers = [] ∧ RVs Tryd.prog a w [.t 7 (.int .i64 r)] ∧ InR .i64 r
theorem qja (N:Nat) (c_0:Int) (rc_0:InR .i64 c_0) (symbol_1:Int) (rsymbol_1:InR .i64 symbol_1) {pb0:Nat} {c1:Value} {M2:List (Nat × Obj)} (x0:List (Int)) (h3:ORow 3 1 (pI .i64) m0 c1 x0 M2) {pb1:Nat} {c4:Value} {c6:Value} (x1:Table) (h5:(pL 11 qbs) m0 [c4] x1.next) (h7:(pL 1 pB) m0 [c6] x1.accept) {pb2:Nat} {c8:Value} {M9:List (Nat × Obj)} (x2:List (Int)) (h10:ORow 3 1 (pI .i64) m0 c8 x2 M9) {r:Int} (hF:qc6 N c_0 symbol_1 x0 x1 x2 = some r) (ok:Ok u m0 ([(pb0,oc 83 [c1])] :: M2 :: [(pb1,oc 58 [c4,c6])] :: [(pb2,oc 83 [c8])] :: M9 :: S) w) :
  Calls Tryd.prog 44 [vi c_0,vi symbol_1,vp pb0,vp pb1,vp pb2].toArray w fun e w'=>(e = .returned (.int .i64 r) ∧ Ok u m0 ([(pb0,oc 83 [c1])] :: M2 :: [(pb1,oc 58 [c4,c6])] :: [(pb2,oc 83 [c8])] :: M9 :: S) w') ∧ InR .i64 r:=by
 unfold qc6 at hF
 refine en (qi9 u m0 S pb0 pb1 pb2 x0 c1 M2 x1 c4 c6 x2 c8 M9) r Tryd.func44 rfl rfl rfl (fun _ _ h=>rb h rfl) fun fin a E=>sg<|aw E rfl fun a E=>wp_seq<|qee (by kernel_rfl) (by kernel_rfl) ok<|qv E (qai qcs rfl (qab.own 0 rfl rfl)) fun a E=>qv E (qae qfU rfl) fun a E=>qv E (qai qh5 rfl (qab.own 2 rfl rfl)) fun a E=>qv E (qai qcs rfl (qab.own 3 rfl rfl)) fun a E=>qv E (qah rfl) fun a E=>?_
 obtain ⟨x11,e12,hF⟩:=bnd hF
 obtain ⟨b13,o14,hp15,yy16⟩:=qbf qaR h10 e12 (P:=Tryd.prog) (X:=.tmp 11) (I:=.tmp 12) (kd:=.i64) (qay E rfl) (qay E rfl)
 refine qv E (yy16 _ _) fun a E=>?_
 obtain ⟨es17,hl18,rr19,hh20⟩:=qbT h10 e12 hp15 (by decide)
 obtain ⟨rfl,r21⟩:=rr19
 refine qv E (qai qam rfl (hh20 _ _ _ 4 rfl)) fun a E=>qv E (qah rfl) fun a E=>?_
 obtain ⟨x22,e23,hF⟩:=bnd hF
 obtain ⟨b24,o25,es26,hl27,rr28,at29,yy30⟩:=ia E 10 14 qgN h5 e23
 obtain ⟨rfl,r31,r32,r33,r34,r35,r36,r37,r38,r39,r40,r41⟩:=rr28
 refine qv E (yy30 _ _) fun a E=>?_
 obtain ⟨x42,e43,hF⟩:=bnd hF
 replace e43:idx (Arr11_Int.list x22) symbol_1 = some x42:=e43
 refine qv E (qdZ qhx rfl rfl (qaL e43).1 (qaL e43).2) fun a E=>qv E (qai qam rfl (qab.idx (xs:=Arr11_Int.list x22) (f:=(Value.int .i64)) (qab.ro at29) e43)) fun a E=>?_
 obtain ⟨x44,e45,hF⟩:=bnd hF
 obtain ⟨b46,o47,hp48,yy49⟩:=qbf qaR h3 e45 (P:=Tryd.prog) (X:=.tmp 8) (I:=.tmp 18) (kd:=.i64) (qay E rfl) (qay E rfl)
 refine qv E (yy49 _ _) fun a E=>?_
 obtain ⟨es50,hl51,rr52,hh53⟩:=qbT h3 e45 hp48 (by decide)
 obtain ⟨rfl,r54⟩:=rr52
 refine qv E (qai qam rfl (hh53 _ _ _ 1 rfl)) fun a E=>qv E (qbY rfl) fun a E=>wpQuiet_nil ?_
 intro w ok
 refine qaa<|wp_ret ?_
 exact fin hF ⟨ok,E.d,rz E rfl,r54⟩
def qi6 (u:World) (m0:Mem) (S:Segs) (pb0:Nat) (pb1:Nat) (x0:Table) (c1:Value) (c3:Value) (x1:List (Int)) (c5:Value) (M6:List (Nat × Obj)) (r:Bool) (a:Act) (w:World):Prop :=
 Ok u m0 ([(pb0,oc 58 [c1,c3])] :: [(pb1,oc 83 [c5])] :: M6 :: S) w ∧ a.defers = [] ∧ RVs Tryd.prog a w [.t 4 (.bool r)]
theorem qi7 (N:Nat) (c_0:Int) (rc_0:InR .i64 c_0) {pb0:Nat} {c1:Value} {c3:Value} (x0:Table) (h2:(pL 11 qbs) m0 [c1] x0.next) (h4:(pL 1 pB) m0 [c3] x0.accept) {pb1:Nat} {c5:Value} {M6:List (Nat × Obj)} (x1:List (Int)) (h7:ORow 3 1 (pI .i64) m0 c5 x1 M6) {r:Bool} (hF:qd2 N c_0 x0 x1 = some r) (ok:Ok u m0 ([(pb0,oc 58 [c1,c3])] :: [(pb1,oc 83 [c5])] :: M6 :: S) w) :
  Calls Tryd.prog 45 [vi c_0,vp pb0,vp pb1].toArray w fun e w'=>(e = .returned (.bool r) ∧ Ok u m0 ([(pb0,oc 58 [c1,c3])] :: [(pb1,oc 83 [c5])] :: M6 :: S) w'):=by
 unfold qd2 at hF
 refine en (qi6 u m0 S pb0 pb1 x0 c1 c3 x1 c5 M6) r Tryd.func45 rfl rfl rfl (fun _ _ h=>ra h rfl) fun fin a E=>sg<|aw E rfl fun a E=>wp_seq<|qee (by kernel_rfl) (by kernel_rfl) ok<|qv E (qae qgS rfl) fun a E=>qv E (qai qdK rfl (qab.own 0 rfl rfl)) fun a E=>qv E (qai qcs rfl (qab.own 1 rfl rfl)) fun a E=>qv E (qah rfl) fun a E=>?_
 obtain ⟨x8,e9,hF⟩:=bnd hF
 obtain ⟨b10,o11,hp12,yy13⟩:=qbf qaR h7 e9 (P:=Tryd.prog) (X:=.tmp 7) (I:=.tmp 8) (kd:=.i64) (qay E rfl) (qay E rfl)
 refine qv E (yy13 _ _) fun a E=>?_
 obtain ⟨es14,hl15,rr16,hh17⟩:=qbT h7 e9 hp12 (by decide)
 obtain ⟨rfl,r18⟩:=rr16
 refine qv E (qai qam rfl (hh17 _ _ _ 2 rfl)) fun a E=>?_
 obtain ⟨x19,e20,hF⟩:=bnd hF
 obtain ⟨b21,o22,es23,hl24,rr25,at26,yy27⟩:=ia E 6 10 qbD h4 e20
 obtain rfl:=rr25
 refine qv E (yy27 _ _) fun a E=>qv E (qai qdk rfl (qab.ro at26)) fun a E=>qv E (qbY rfl) fun a E=>wpQuiet_nil ?_
 intro w ok
 refine qaa<|wp_ret ?_
 exact fin hF ⟨ok,E.d,rz E rfl⟩
def qhY (u:World) (m0:Mem) (S:Segs) (pb0:Nat) (pb1:Nat) (pb2:Nat) (x0:List (Int)) (c1:Value) (M2:List (Nat × Obj)) (x1:Table) (c4:Value) (c6:Value) (x2:List (Int)) (c8:Value) (M9:List (Nat × Obj)) (r:Table) (a:Act) (w:World):Prop :=
 ∃ m1 v0,m0.le m1 ∧ Ok u m1 ([(pb0,oc 83 [c1])] :: M2 :: [(pb1,oc 58 [c4,c6])] :: [(pb2,oc 83 [c8])] :: M9 :: S) w ∧ a.defers = [] ∧ RVs Tryd.prog a w [.c 6 58 (.agg v0.toArray)] ∧ qg4 m1 v0 r
theorem qh0 (N:Nat) (start_0:Int) (rstart_0:InR .i64 start_0) {pb0:Nat} {c1:Value} {M2:List (Nat × Obj)} (x0:List (Int)) (h3:ORow 3 1 (pI .i64) m0 c1 x0 M2) {pb1:Nat} {c4:Value} {c6:Value} (x1:Table) (h5:(pL 11 qbs) m0 [c4] x1.next) (h7:(pL 1 pB) m0 [c6] x1.accept) {pb2:Nat} {c8:Value} {M9:List (Nat × Obj)} (x2:List (Int)) (h10:ORow 3 1 (pI .i64) m0 c8 x2 M9) {r:Table} (hF:qcO N start_0 x0 x1 x2 = some r) (ok:Ok u m0 ([(pb0,oc 83 [c1])] :: M2 :: [(pb1,oc 58 [c4,c6])] :: [(pb2,oc 83 [c8])] :: M9 :: S) w) :
  Calls Tryd.prog 43 [vi start_0,Value.func (.func 44) #[] #[.pointer (some ⟨pb0,0,none⟩),.pointer (some ⟨pb1,0,none⟩),.pointer (some ⟨pb2,0,none⟩)],Value.func (.func 45) #[] #[.pointer (some ⟨pb1,0,none⟩),.pointer (some ⟨pb2,0,none⟩)]].toArray w fun e w'=>∃ m1 v0,e = .returned (.agg v0.toArray) ∧ m0.le m1 ∧ Ok u m1 ([(pb0,oc 83 [c1])] :: M2 :: [(pb1,oc 58 [c4,c6])] :: [(pb2,oc 83 [c8])] :: M9 :: S) w' ∧ qg4 m1 v0 r:=by
 have le_m0:=Mem.le.refl m0
 unfold qcO at hF
 refine en (qhY u m0 S pb0 pb1 pb2 x0 c1 M2 x1 c4 c6 x2 c8 M9) r Tryd.func43 rfl rfl rfl (by rintro a w ⟨m1,v0,hle,ok,hd,hrv,h0⟩; exact qbC [.c 6 58 (.agg v0.toArray)] hd rfl hrv ⟨m1,v0,rfl,hle,ok,h0⟩) fun fin a E=>sg<|qaw E ok qhv rfl rfl fun b11 a w E ok=>wn<|sg<|qgF (kI .i64) (oneV (pI .i64)) E ok rfl rfl fun c12 M13 a w E ok h14=>mv E rfl fun a E=>bd hF fun l15 e16 hF=>qgA (.inr rfl) E ok 0 (ql8 Tryd.underlying3) Tryd.underlying122 h14 rfl rfl rfl rfl ⟨rfl,rstart_0⟩ (qaW (ir 0)) e16 rfl fun M17 w ok h18=>mv E rfl fun a E=>aw E rfl fun a E=>sg<|mv E rfl fun a E=>qbH (R:=(pI .i64)) (xo:=[.tmp 19]) (xs:=([start_0]:List (Int))) E ok qaR qdI rfl ⟨⟨_,rfl,rfl,(qaW rstart_0)⟩,trivial⟩ rfl rfl rfl rfl fun c19 M20 a w E ok h21=>aw E rfl fun a E=>sg<|qaw E ok qhv rfl rfl fun b22 a w E ok=>wn<|wp_seq<|sg<|aw E rfl fun a E=>wp_block ?_
 obtain ⟨M40,ok,h41⟩:=qd1 (e:=90) (k:=11) (R:=qbs) ok
 obtain ⟨M42,ok,h43⟩:=qd1 (e:=4) (k:=1) (R:=pB) ok
 refine bd hF fun o44 hL hF=>qaH _ (fun (s:(List (Int)) × Int × Table × (List (Int × Int))) a w=>∃ c45 M46 c49 M50 c52 M53 c55 M56,Ok u m0 (M53 :: M50 :: [(b22,oc 58 [c49,c52])] :: M46 :: M56 :: [(b11,oc 58 [(Value.slice none 0 0),(Value.slice none 0 0)])] :: [(pb0,oc 83 [c1])] :: M2 :: [(pb1,oc 58 [c4,c6])] :: [(pb2,oc 83 [c8])] :: M9 :: S) w ∧ Env 76 a [(1,(Value.func (.func 44) #[] #[.pointer (some ⟨pb0,0,none⟩),.pointer (some ⟨pb1,0,none⟩),.pointer (some ⟨pb2,0,none⟩)])),(2,(Value.func (.func 45) #[] #[.pointer (some ⟨pb1,0,none⟩),.pointer (some ⟨pb2,0,none⟩)])),(6,vp b11),(7,c55),(8,c45),(9,vp b22),(10,vi s.2.1)] ∧ ORow 3 1 (pI .i64) m0 c45 s.1 M46 ∧ InR .i64 s.2.1 ∧ ORow 90 11 qbs m0 c49 s.2.2.1.next M50 ∧ ORow 4 1 pB m0 c52 s.2.2.1.accept M53 ∧ OMap (kI .i64) (oneV (pI .i64)) m0 c55 s.2.2.2 M56) (fun (b:Table) e a w=>e = (.exit 0) ∧ ∃ c286 M287 c289 M290,Ok u m0 (M290 :: M287 :: [(b22,oc 58 [c286,c289])] :: [(b11,oc 58 [(Value.slice none 0 0),(Value.slice none 0 0)])] :: [(pb0,oc 83 [c1])] :: M2 :: [(pb1,oc 58 [c4,c6])] :: [(pb2,oc 83 [c8])] :: M9 :: S) w ∧ Env 76 a [(6,vp b11),(9,vp b22)] ∧ ORow 90 11 qbs m0 c286 b.next M287 ∧ ORow 4 1 pB m0 c289 b.accept M290) ?_ ?_ N _ a w hL ⟨c19,M20,(Value.slice none 0 0),M40,(Value.slice none 0 0),M42,c12,M17,ok,E.keep [1,2,6,7,8,9,10],h21,(ir 0),h41,h43,h18⟩
 rotate_left
 ·intro e a w _ hO
  obtain ⟨rfl,c276,M277,c279,M280,ok,E,h278,h281⟩:=hO
  refine qaN<|qaa<|sg<|lv E ok (qaj (cs:=[c276,c279]) qh7 rfl rfl (qab.own 2 rfl rfl)) fun a E=>qaf E ok 3 rfl rfl rfl qle rfl rfl ⟨(ORow.one h278),(ORow.one h281),trivial⟩ rfl rfl fun w ok=>wn<|wp_ret ?_
  obtain ⟨m282,hle,ok,hfz⟩:=(ok.frs 1 rfl).freeze
  have h283:=ORow.froz qba h278 hle hfz (by decide)
  have le_m0:=le_m0.trans hle
  have h3:=ORow.up (mI .i64) hle h3
  have h5:=(mL qba).up hle h5
  have h7:=(mL mB).up hle h7
  have h10:=ORow.up (mI .i64) hle h10
  have h281:=ORow.up mB hle h281
  obtain ⟨m284,hle,ok,hfz⟩:=(ok.frs 0 rfl).freeze
  have h285:=ORow.froz mB h281 hle hfz (by decide)
  have le_m0:=le_m0.trans hle
  have h3:=ORow.up (mI .i64) hle h3
  have h5:=(mL qba).up hle h5
  have h7:=(mL mB).up hle h7
  have h10:=ORow.up (mI .i64) hle h10
  have h283:=(mL qba).up hle h283
  exact fin hF ⟨m284,[c276,c279],le_m0,ok.drop.drop,E.d,⟨rv_c (cs:=[c276,c279]) E ok rfl qh7 rfl (qab.own 1 rfl rfl),trivial⟩,⟨_,_,rfl,h283,h285⟩⟩
 rintro ⟨v58,v59,v60,v61⟩ a w r ⟨c62,M63,c66,M67,c69,M70,c72,M73,ok,E,h64,r65,h68,h71,h74⟩ hF
 replace hF:qbU N x0 x1 x2 v58 v59 v60 v61 = some r:=hF
 unfold qbU at hF
 refine wp_seq<|sg<|mz E rfl rfl fun a E=>lv E ok (qcz qaR h64 rfl) fun a E=>lw E (qaC rfl rfl) fun a E=>wn<|cg E rfl hF (fun c75 hF=>?_) fun c75 hF=>?_
 ·refine wp_exit<|qaE ?_
  cases hF
  exact so (⟨rfl,⟨c66,M67,c69,M70,(ok.pk 11 [0,1,2,5,6,7,8,9,10] rfl (by decide)),E.keep [6,9],h68,h71⟩⟩)
 refine wp_skip<|qaa<|wp_seq<|wp_block<|sg<|qaw E ok qfT rfl rfl fun b76 a w E ok=>wn<|wp_seq<|sg<|mv E rfl fun a E=>wn<|wp_block<|bd hF fun o99 hL hF=>qaH _ (fun (s:(List (Int)) × Int × Arr11_Int × (List (Int × Int))) a w=>∃ c100 M101 c115 M116,Ok u m0 ([(b76,oc 90 [vi s.2.2.1.e0,vi s.2.2.1.e1,vi s.2.2.1.e2,vi s.2.2.1.e3,vi s.2.2.1.e4,vi s.2.2.1.e5,vi s.2.2.1.e6,vi s.2.2.1.e7,vi s.2.2.1.e8,vi s.2.2.1.e9,vi s.2.2.1.e10])] :: M70 :: M67 :: [(b22,oc 58 [c66,c69])] :: M101 :: M116 :: [(b11,oc 58 [(Value.slice none 0 0),(Value.slice none 0 0)])] :: [(pb0,oc 83 [c1])] :: M2 :: [(pb1,oc 58 [c4,c6])] :: [(pb2,oc 83 [c8])] :: M9 :: S) w ∧ Env 76 a [(1,(Value.func (.func 44) #[] #[.pointer (some ⟨pb0,0,none⟩),.pointer (some ⟨pb1,0,none⟩),.pointer (some ⟨pb2,0,none⟩)])),(2,(Value.func (.func 45) #[] #[.pointer (some ⟨pb1,0,none⟩),.pointer (some ⟨pb2,0,none⟩)])),(6,vp b11),(7,c115),(8,c100),(9,vp b22),(10,vi v59),(11,vp b76),(27,vi s.2.1)] ∧ ORow 3 1 (pI .i64) m0 c100 s.1 M101 ∧ InR .i64 s.2.1 ∧ InR .i64 s.2.2.1.e0 ∧ InR .i64 s.2.2.1.e1 ∧ InR .i64 s.2.2.1.e2 ∧ InR .i64 s.2.2.1.e3 ∧ InR .i64 s.2.2.1.e4 ∧ InR .i64 s.2.2.1.e5 ∧ InR .i64 s.2.2.1.e6 ∧ InR .i64 s.2.2.1.e7 ∧ InR .i64 s.2.2.1.e8 ∧ InR .i64 s.2.2.1.e9 ∧ InR .i64 s.2.2.1.e10 ∧ OMap (kI .i64) (oneV (pI .i64)) m0 c115 s.2.2.2 M116) (fun (b:(Arr11_Int × (List (Int × Int)) × (List (Int)))) e a w=>e = (.exit 2) ∧ ∃ c270 M271 c273 M274,Ok u m0 ([(b76,oc 90 [vi b.1.e0,vi b.1.e1,vi b.1.e2,vi b.1.e3,vi b.1.e4,vi b.1.e5,vi b.1.e6,vi b.1.e7,vi b.1.e8,vi b.1.e9,vi b.1.e10])] :: M70 :: M67 :: [(b22,oc 58 [c66,c69])] :: M274 :: M271 :: [(b11,oc 58 [(Value.slice none 0 0),(Value.slice none 0 0)])] :: [(pb0,oc 83 [c1])] :: M2 :: [(pb1,oc 58 [c4,c6])] :: [(pb2,oc 83 [c8])] :: M9 :: S) w ∧ Env 76 a [(1,(Value.func (.func 44) #[] #[.pointer (some ⟨pb0,0,none⟩),.pointer (some ⟨pb1,0,none⟩),.pointer (some ⟨pb2,0,none⟩)])),(2,(Value.func (.func 45) #[] #[.pointer (some ⟨pb1,0,none⟩),.pointer (some ⟨pb2,0,none⟩)])),(6,vp b11),(7,c270),(8,c273),(9,vp b22),(10,vi v59),(11,vp b76)] ∧ InR .i64 b.1.e0 ∧ InR .i64 b.1.e1 ∧ InR .i64 b.1.e2 ∧ InR .i64 b.1.e3 ∧ InR .i64 b.1.e4 ∧ InR .i64 b.1.e5 ∧ InR .i64 b.1.e6 ∧ InR .i64 b.1.e7 ∧ InR .i64 b.1.e8 ∧ InR .i64 b.1.e9 ∧ InR .i64 b.1.e10 ∧ OMap (kI .i64) (oneV (pI .i64)) m0 c270 b.2.1 M271 ∧ ORow 3 1 (pI .i64) m0 c273 b.2.2 M274) ?_ ?_ N _ a w hL ⟨c62,M63,c72,M73,ok,E.keep [1,2,6,7,8,9,10,11,27],h64,(ir 0),(ir 0),(ir 0),(ir 0),(ir 0),(ir 0),(ir 0),(ir 0),(ir 0),(ir 0),(ir 0),(ir 0),h74⟩
 rotate_left
 ·as_aux_lemma =>
   intro e a w _ hO
   obtain ⟨rfl,c196,M197,c199,M200,ok,E,r185,r186,r187,r188,r189,r190,r191,r192,r193,r194,r195,h198,h201⟩:=hO
   refine qaN<|qaa<|sg<|fk E ok qfU qh5 rfl 3 rfl rfl fun a E=>lv E ok (qaj (cs:=[vi o99.1.e0,vi o99.1.e1,vi o99.1.e2,vi o99.1.e3,vi o99.1.e4,vi o99.1.e5,vi o99.1.e6,vi o99.1.e7,vi o99.1.e8,vi o99.1.e9,vi o99.1.e10]) qjZ rfl rfl (qab.own 0 rfl rfl)) fun a E=>qbH (R:=qbs) (xo:=[.tmp 60]) (xs:=([o99.1]:List (Arr11_Int))) E ok qgN qfT rfl ⟨⟨_,rfl,rfl,⟨rfl,r185,r186,r187,r188,r189,r190,r191,r192,r193,r194,r195⟩⟩,trivial⟩ rfl rfl rfl rfl fun c202 M203 a w E ok h204=>bd hF fun l205 e206 hF=>qdn (R:=qbs) E ok 3 qba qgN Tryd.underlying56 rfl h68 (qbP.ofRow h204 0 rfl ok) e206 ⟨_,qfT,rfl⟩ rfl rfl rfl rfl fun c207 M208 a w E ok h209=>fv E qfU rfl fun a E=>qaf E ok 4 rfl rfl rfl qoA (ORow.cells h209) rfl ⟨(ORow.one h209),trivial⟩ rfl rfl fun w ok=>wn<|bd hF fun o210 hJ hF=>qaO (Q':=fun e a w=>e = .normal ∧ ∃ c211 M212 c214 M215,Ok u m0 (M203 :: [(b76,oc 90 [vi o99.1.e0,vi o99.1.e1,vi o99.1.e2,vi o99.1.e3,vi o99.1.e4,vi o99.1.e5,vi o99.1.e6,vi o99.1.e7,vi o99.1.e8,vi o99.1.e9,vi o99.1.e10])] :: M215 :: M212 :: [(b22,oc 58 [c211,c214])] :: M200 :: M197 :: [(b11,oc 58 [(Value.slice none 0 0),(Value.slice none 0 0)])] :: [(pb0,oc 83 [c1])] :: M2 :: [(pb1,oc 58 [c4,c6])] :: [(pb2,oc 83 [c8])] :: M9 :: S) w ∧ Env 76 a [(1,(Value.func (.func 44) #[] #[.pointer (some ⟨pb0,0,none⟩),.pointer (some ⟨pb1,0,none⟩),.pointer (some ⟨pb2,0,none⟩)])),(2,(Value.func (.func 45) #[] #[.pointer (some ⟨pb1,0,none⟩),.pointer (some ⟨pb2,0,none⟩)])),(6,vp b11),(7,c196),(8,c199),(9,vp b22),(10,vi v59)] ∧ ORow 90 11 qbs m0 c211 o210.next M212 ∧ ORow 4 1 pB m0 c214 o210.accept M215) ?_ ?_
   rotate_left
   ·intro e a w hO
    obtain ⟨rfl,c253,M254,c256,M257,ok,E,h255,h258⟩:=hO
    refine qap<|qaa<|qac<|mv E rfl fun a E=>lw E (qaA rfl rfl (InR.inc r65 (ORow.InR h64) c75)) fun a E=>av E rfl fun a E=>wpList_nil ?_
    cases hF
    exact qau ⟨c199,M200,c253,M254,c256,M257,c196,M197,(ok.pk 13 [2,3,4,5,6,7,8,9,10,11,12] rfl (by decide)),E.keep [1,2,6,7,8,9,10],h201,(InR.inc r65 (ORow.InR h64) c75),h255,h258,h198⟩
   have hF:=hJ
   obtain ⟨x217,e218,hF⟩:=bnd hF
   obtain ⟨r228,e229,hF⟩:=bnd hF
   obtain ⟨l233,e234,hF⟩:=bnd hF
   obtain rfl:=sj hF
   refine qaX [1,6] (Cls u m0 (M203 :: [(b76,oc 90 [vi o99.1.e0,vi o99.1.e1,vi o99.1.e2,vi o99.1.e3,vi o99.1.e4,vi o99.1.e5,vi o99.1.e6,vi o99.1.e7,vi o99.1.e8,vi o99.1.e9,vi o99.1.e10])] :: M208 :: [(b22,oc 58 [c207,c69])] :: M200 :: M197 :: [(b11,oc 58 [(Value.slice none 0 0),(Value.slice none 0 0)])] :: [(pb0,oc 83 [c1])] :: M2 :: [(pb1,oc 58 [c4,c6])] :: [(pb2,oc 83 [c8])] :: M9 :: [])) (Cls u m0 (M203 :: [(b76,oc 90 [vi o99.1.e0,vi o99.1.e1,vi o99.1.e2,vi o99.1.e3,vi o99.1.e4,vi o99.1.e5,vi o99.1.e6,vi o99.1.e7,vi o99.1.e8,vi o99.1.e9,vi o99.1.e10])] :: M208 :: M200 :: M197 :: [(b11,oc 58 [(Value.slice none 0 0),(Value.slice none 0 0)])] :: [(pb0,oc 83 [c1])] :: M2 :: [(pb1,oc 58 [c4,c6])] :: [(pb2,oc 83 [c8])] :: M9 :: [])) (by kernel_rfl) ?_
   intro w hw
   replace ok:=qa3 ok hw
   clear hw
   refine qag (cl1 (cq le_m0 ok [0,1,3,4,5,6,7,8,9,10,11,12] rfl) (cq le_m0 ok [0,1,3,5,6,7,8,9,10,11,12] rfl)) fun hT=>kt 0 E rfl hT (qae qgS rfl) fun a E=>qaU 1 E rfl (by kernel_rfl) nP hT (qai qdK rfl (qab.cown 3 rfl rfl)) rfl rfl fun a E=>kt 2 E rfl hT (qah rfl) fun a E=>kt 3 E rfl hT (qah rfl) fun a E=>kt 4 E rfl hT (qah rfl) fun a E=>?_
   obtain ⟨b238,o239,hp240,yy241⟩:=qbf qaR h201 e218 (P:=Tryd.prog) (X:=.tmp 67) (I:=.tmp 68) (kd:=.i64) (qay E rfl) (qay E rfl)
   refine kt 5 E rfl hT (yy241 _ _) fun a E=>?_
   obtain ⟨es242,hl243,rr244,hh245⟩:=qbT h201 e218 hp240 (by decide)
   obtain ⟨rfl,r246⟩:=rr244
   refine qaU 6 E rfl (by kernel_rfl) nP hT (qai qam rfl (qab.crow hh245 4 rfl)) rfl rfl fun a E=>qar [7] (by kernel_rfl) rfl (qas ?_)
   ·refine qbM (o:=_) rfl ?_
    replace ok:Ok u m0 ([(pb1,oc 58 [c4,c6])] :: [(pb2,oc 83 [c8])] :: M9 :: M203 :: [(b76,oc 90 [vi o99.1.e0,vi o99.1.e1,vi o99.1.e2,vi o99.1.e3,vi o99.1.e4,vi o99.1.e5,vi o99.1.e6,vi o99.1.e7,vi o99.1.e8,vi o99.1.e9,vi o99.1.e10])] :: M70 :: M208 :: [(b22,oc 58 [c207,c69])] :: M200 :: M197 :: [(b11,oc 58 [(Value.slice none 0 0),(Value.slice none 0 0)])] :: [(pb0,oc 83 [c1])] :: M2 :: S) w:=(ok.pk 13 [10,11,12,0,1,2,3,4,5,6,7,8,9] rfl (by decide))
    refine qfY E rfl qt6 rfl (qi7 N x217 r246 x1 h5 h7 x2 h10 e229 ok) rfl rfl ?_
    rintro _ w ⟨rfl,ok⟩
    refine ⟨_,rfl,fun a E=>?_⟩
    refine wn<|qag (cl1 (cq le_m0 ok [3,4,6,7,8,9,10,11,12,0,1,2] rfl) (cq le_m0 ok [3,4,6,8,9,10,11,12,0,1,2] rfl)) fun hT=>qar [8] (by kernel_rfl) rfl (qas ?_)
    ·refine wo rfl<|qbH (R:=pB) (xo:=[.tmp 71]) (xs:=([r228]:List (Bool))) E ok qbD qd0 rfl ⟨⟨_,rfl,rfl,qeo⟩,trivial⟩ rfl rfl rfl rfl fun c247 M248 a w E ok h249=>wn<|qag (cl1 (cq le_m0 ok [4,5,7,8,9,10,11,12,13,1,2,3] rfl) (cq le_m0 ok [4,5,7,9,10,11,12,13,1,2,3] rfl)) fun hT=>qar [9] (by kernel_rfl) rfl (qas ?_)
     ·refine wo rfl<|qdn (R:=pB) E ok 6 mB qbD Tryd.underlying31 rfl h71 (qbP.ofRow h249 0 rfl ok) e234 ⟨_,qd0,rfl⟩ rfl rfl rfl rfl fun c250 M251 a w E ok h252=>wn<|qag (cl1 (cq le_m0 ok [4,5,7,8,9,10,11,12,13,1,2,3] rfl) (cq le_m0 ok [4,5,7,9,10,11,12,13,1,2,3] rfl)) fun hT=>kt 10 E rfl hT (qae qgS rfl) fun a E=>qar [11] (by kernel_rfl) rfl (qas ?_)
      ·refine wo rfl<|qaf E ok 8 rfl rfl rfl qmq (ORow.cells h252) rfl ⟨(ORow.one h252),trivial⟩ rfl rfl fun w ok=>wn<|qag (cl2 (by kernel_rfl) (cq le_m0 ok [4,5,7,9,10,11,12,13,1,2,3] rfl)) fun hT=>qaM (by kernel_rfl) ?_
       exact ⟨rfl,⟨c207,M208,c250,M251,(ok.pk 14 [4,5,6,7,8,9,10,11,12,13,1,2,3] rfl (by decide)),E.keep [1,2,6,7,8,9,10],h209,h252⟩⟩
 rintro ⟨v118,v119,v120,v121⟩ a w r ⟨c122,M123,c137,M138,ok,E,h124,r125,r126,r127,r128,r129,r130,r131,r132,r133,r134,r135,r136,h139⟩ hF
 replace hF:qby N x0 x1 x2 v59 v118 v119 v120 v121 = some r:=hF
 unfold qby at hF
 refine sg<|lw E (qaC rfl rfl) fun a E=>wn<|wp_seq<|cg E rfl hF (fun c140 hF=>?_) fun c140 hF=>?_
 ·refine wp_exit<|qaE ?_
  cases hF
  exact so (⟨rfl,⟨c137,M138,c122,M123,ok,E.keep [1,2,6,7,8,9,10,11],r126,r127,r128,r129,r130,r131,r132,r133,r134,r135,r136,h139,h124⟩⟩)
 refine wp_skip<|qaa<|wp_seq<|wp_block<|sg<|mv E rfl fun a E=>av E rfl fun a E=>wn<|sg<|mz E rfl rfl fun a E=>mv E rfl fun a E=>?_
 obtain ⟨x141,e142,hF⟩:=bnd hF
 obtain ⟨b143,o144,hp145,yy146⟩:=qbf qaR h124 e142 (P:=Tryd.prog) (X:=.tmp 31) (I:=.tmp 32) (kd:=.i64) (qay E rfl) (qay E rfl)
 refine lv E ok (yy146 _ _) fun a E=>?_
 obtain ⟨es147,hl148,rr149,hh150⟩:=qbT h124 e142 hp145 (by decide)
 obtain ⟨rfl,r151⟩:=rr149
 refine lv E ok (qai qam rfl (hh150 _ _ _ 4 rfl)) fun a E=>mv E rfl fun a E=>?_
 obtain ⟨r152,e153,hF⟩:=bnd hF
 replace ok:Ok u m0 ([(pb0,oc 83 [c1])] :: M2 :: [(pb1,oc 58 [c4,c6])] :: [(pb2,oc 83 [c8])] :: M9 :: [(b76,oc 90 [vi v120.e0,vi v120.e1,vi v120.e2,vi v120.e3,vi v120.e4,vi v120.e5,vi v120.e6,vi v120.e7,vi v120.e8,vi v120.e9,vi v120.e10])] :: M70 :: M67 :: [(b22,oc 58 [c66,c69])] :: M123 :: M138 :: [(b11,oc 58 [(Value.slice none 0 0),(Value.slice none 0 0)])] :: S) w:=(ok.pk 12 [7,8,9,10,11,0,1,2,3,4,5,6] rfl (by decide))
 refine qfY E rfl qtV rfl (qja N x141 r151 v119 r125 x0 h3 x1 h5 h7 x2 h10 e153 ok) rfl rfl ?_
 rintro _ w ⟨⟨rfl,ok⟩,r154⟩
 refine ⟨_,rfl,fun a E=>?_⟩
 refine aw E rfl fun a E=>sg<|mz E rfl rfl fun a E=>?_
 obtain ⟨xv155,h156,yy157,yy158⟩:=qkm (P:=Tryd.prog) (mo:=.tmp 38) (ko:=.tmp 39) (zx:=(0:Int)) ok 10 (ql8 Tryd.underlying3) Tryd.underlying122 h139 rfl (qay E rfl) (qay E rfl) ⟨rfl,r154⟩ qiJ (qaW (ir 0))
 obtain ⟨rfl,r159⟩:=qha h156
 refine lv E ok (yy158 _) fun a E=>mv E rfl fun a E=>lw E (qaF rfl rfl) fun a E=>lw E (qaF rfl rfl) fun a E=>av E rfl fun a E=>aw E rfl fun a E=>wp_seq<|sg<|mv E rfl fun a E=>lw E (qbW rfl) fun a E=>wn<|cg E rfl hF (fun c160 hF=>?_) fun c160 hF=>?_
 ·refine wp_skip<|qaa<|qac<|mz E rfl rfl fun a E=>?_
  obtain ⟨x179,e180,hF⟩:=bnd hF
  replace e180:idx (Arr11_Int.list v120) v119 = some x179:=e180
  refine lv E ok (qdZ qhx rfl rfl (qaL e180).1 (qaL e180).2) fun a E=>?_
  obtain ⟨z181,e182,hF⟩:=bnd hF
  have h183:=Arr11_Int.set_list e182
  have h184:=AllP.setI (q:=(InR .i64)) (xs:=Arr11_Int.list v120) ⟨r126,r127,r128,r129,r130,r131,r132,r133,r134,r135,r136,trivial⟩ r159 h183
  refine qem (c:=[vi v120.e0,vi v120.e1,vi v120.e2,vi v120.e3,vi v120.e4,vi v120.e5,vi v120.e6,vi v120.e7,vi v120.e8,vi v120.e9,vi v120.e10]) (c':=[vi z181.e0,vi z181.e1,vi z181.e2,vi z181.e3,vi z181.e4,vi z181.e5,vi z181.e6,vi z181.e7,vi z181.e8,vi z181.e9,vi z181.e10]) E ok 5 rfl rfl rfl qbp rfl rfl ⟨rfl,trivial⟩ (qh9 (n:=11) (qaL e180).2 (Nat.le_of_ble_eq_true rfl)) (qjl (f:=(Value.int .i64)) (pre:=[]) (post:=[]) (xs:=Arr11_Int.list v120) (ys:=z181.list) rfl h183) rfl fun w ok=>wpList_nil<|qap<|qaa<|qac<|lw E (qaA rfl rfl (InR.inc r125 (ir 11) c140)) fun a E=>mv E rfl fun a E=>wpList_nil ?_
  cases hF
  exact qau ⟨c122,M123,c137,M138,(ok.pk 12 [5,6,7,8,9,10,11,0,1,2,3,4] rfl (by decide)),E.keep [1,2,6,7,8,9,10,11,27],h124,(InR.inc r125 (ir 11) c140),h184.1,h184.2.1,h184.2.2.1,h184.2.2.2.1,h184.2.2.2.2.1,h184.2.2.2.2.2.1,h184.2.2.2.2.2.2.1,h184.2.2.2.2.2.2.2.1,h184.2.2.2.2.2.2.2.2.1,h184.2.2.2.2.2.2.2.2.2.1,h184.2.2.2.2.2.2.2.2.2.2.1,h139⟩
 refine sg<|mv E rfl fun a E=>lv E ok (qcz qaR h124 rfl) fun a E=>aw E rfl fun a E=>sg<|mz E rfl rfl fun a E=>mv E rfl fun a E=>bd hF fun l161 e162 hF=>qgA (.inl rfl) E ok 10 (ql8 Tryd.underlying3) Tryd.underlying122 h139 rfl rfl rfl rfl ⟨rfl,r154⟩ (qaW (ORow.InR h124)) e162 rfl fun M163 w ok h164=>wn<|qac<|mz E rfl rfl fun a E=>qbH (R:=(pI .i64)) (xo:=[.tmp 51]) (xs:=([r152]:List (Int))) E ok qaR qdI rfl ⟨⟨_,rfl,rfl,(qaW r154)⟩,trivial⟩ rfl rfl rfl rfl fun c165 M166 a w E ok h167=>bd hF fun l168 e169 hF=>qdn (R:=(pI .i64)) E ok 10 (mI .i64) qaR Tryd.underlying83 rfl h124 (qbP.ofRow h167 0 rfl ok) e169 ⟨_,qdI,rfl⟩ rfl rfl rfl rfl fun c170 M171 a w E ok h172=>aw E rfl fun a E=>qac<|mz E rfl rfl fun a E=>?_
 obtain ⟨x173,e174,hF⟩:=bnd hF
 replace e174:idx (Arr11_Int.list v120) v119 = some x173:=e174
 refine lv E ok (qdZ qhx rfl rfl (qaL e174).1 (qaL e174).2) fun a E=>?_
 obtain ⟨z175,e176,hF⟩:=bnd hF
 have h177:=Arr11_Int.set_list e176
 have h178:=AllP.setI (q:=(InR .i64)) (xs:=Arr11_Int.list v120) ⟨r126,r127,r128,r129,r130,r131,r132,r133,r134,r135,r136,trivial⟩ (ORow.InR h124) h177
 refine qem (c:=[vi v120.e0,vi v120.e1,vi v120.e2,vi v120.e3,vi v120.e4,vi v120.e5,vi v120.e6,vi v120.e7,vi v120.e8,vi v120.e9,vi v120.e10]) (c':=[vi z175.e0,vi z175.e1,vi z175.e2,vi z175.e3,vi z175.e4,vi z175.e5,vi z175.e6,vi z175.e7,vi z175.e8,vi z175.e9,vi z175.e10]) E ok 6 rfl rfl rfl qbp rfl rfl ⟨rfl,trivial⟩ (qh9 (n:=11) (qaL e174).2 (Nat.le_of_ble_eq_true rfl)) (qjl (f:=(Value.int .i64)) (pre:=[]) (post:=[]) (xs:=Arr11_Int.list v120) (ys:=z175.list) rfl h177) rfl fun w ok=>wpList_nil<|qap<|qaa<|qac<|lw E (qaA rfl rfl (InR.inc r125 (ir 11) c140)) fun a E=>mv E rfl fun a E=>wpList_nil ?_
 cases hF
 exact qau ⟨c170,M171,c137,M163,(ok.pk 13 [6,7,8,9,10,11,12,1,2,3,4,5] rfl (by decide)),E.keep [1,2,6,7,8,9,10,11,27],h172,(InR.inc r125 (ir 11) c140),h178.1,h178.2.1,h178.2.2.1,h178.2.2.2.1,h178.2.2.2.2.1,h178.2.2.2.2.2.1,h178.2.2.2.2.2.2.1,h178.2.2.2.2.2.2.2.1,h178.2.2.2.2.2.2.2.2.1,h178.2.2.2.2.2.2.2.2.2.1,h178.2.2.2.2.2.2.2.2.2.2.1,h164⟩
def qjT (u:World) (m0:Mem) (S:Segs) (r:Table) (a:Act) (w:World):Prop :=
 ∃ m1 v0,m0.le m1 ∧ Ok u m1 S w ∧ a.defers = [] ∧ RVs Tryd.prog a w [.c 2 58 (.agg v0.toArray)] ∧ qg4 m1 v0 r
theorem qhq (N:Nat) (vt_0:List Value) (t_0:Table) (ht_0:qg4 m0 vt_0 t_0) {r:Table} (hF:qdG N t_0 = some r) (ok:Ok u m0 S w) :
  Calls Tryd.prog 27 [.agg vt_0.toArray].toArray w fun e w'=>∃ m1 v0,e = .returned (.agg v0.toArray) ∧ m0.le m1 ∧ Ok u m1 S w' ∧ qg4 m1 v0 r:=by
 obtain ⟨c1,c3,rfl,h2,h4⟩:=ht_0
 have le_m0:=Mem.le.refl m0
 unfold qdG at hF
 refine en (qjT u m0 S) r Tryd.func27 rfl rfl rfl (by rintro a w ⟨m1,v0,hle,ok,hd,hrv,h0⟩; exact qbC [.c 2 58 (.agg v0.toArray)] hd rfl hrv ⟨m1,v0,rfl,hle,ok,h0⟩) fun fin a E=>sg<|qbQ E ok rfl rfl rfl fun b5 a w E ok=>qaw E ok qhv rfl rfl fun b6 a w E ok=>wn<|sg<|fk E ok qfU qh5 rfl 1 rfl rfl fun a E=>lv E ok (qaz qgN h2 rfl) fun a E=>bd hF fun l7 e8 hF=>qbR (R:=(pI .i64)) E ok qaR qdI rfl (qaW (ir 0)) rfl e8 rfl rfl fun c9 M10 a w E ok h11=>qaw E ok qgO rfl rfl fun b12 a w E ok=>qaf E ok 0 rfl rfl rfl qj1 (ORow.cells h11) rfl ⟨(ORow.one h11),trivial⟩ rfl rfl fun w ok=>wn<|wp_seq<|sg<|fk E ok qgS qdK rfl 3 rfl rfl fun a E=>lv E ok (qaz qbD h4 rfl) fun a E=>mv E rfl fun a E=>wn<|wp_block<|bd hF fun o18 hL hF=>qaH _ (fun (s:Int × (List (Int))) a w=>∃ c20 M21,Ok u m0 ([(b12,oc 83 [c20])] :: M21 :: [(b6,oc 58 [(Value.slice none 0 0),(Value.slice none 0 0)])] :: [(b5,oc 58 [c1,c3])] :: S) w ∧ Env 112 a [(1,vp b5),(2,vp b6),(3,vp b12),(23,c3),(24,(vi (t_0.accept.length:Int))),(25,vi s.1)] ∧ InR .i64 s.1 ∧ ORow 3 1 (pI .i64) m0 c20 s.2 M21) (fun (b:((List (Int)))) e a w=>e = (.exit 0) ∧ ∃ c366 M367,Ok u m0 ([(b12,oc 83 [c366])] :: M367 :: [(b6,oc 58 [(Value.slice none 0 0),(Value.slice none 0 0)])] :: [(b5,oc 58 [c1,c3])] :: S) w ∧ Env 112 a [(1,vp b5),(2,vp b6),(3,vp b12)] ∧ ORow 3 1 (pI .i64) m0 c366 b M367) ?_ ?_ N _ a w hL ⟨c9,M10,ok,E.keep [1,2,3,23,24,25],(ir 0),h11⟩
 ·rintro ⟨v23,v24⟩ a w r ⟨c26,M27,ok,E,r25,h28⟩ hF
  replace hF:qck N t_0 v23 v24 = some r:=hF
  unfold qck at hF
  refine sg<|lw E (qaC rfl rfl) fun a E=>wn<|wp_seq<|cg E rfl hF (fun c29 hF=>?_) fun c29 hF=>?_
  ·refine wp_exit<|qaE ?_
   cases hF
   exact so (⟨rfl,⟨c26,M27,ok,E.keep [1,2,3],h28⟩⟩)
  refine wp_skip<|qaa<|wp_seq<|wp_block<|sg<|mv E rfl fun a E=>?_
  obtain ⟨x30,e31,hF⟩:=bnd hF
  obtain ⟨b32,o33,es34,hl35,rr36,at37,yy38⟩:=ia E 23 25 qbD h4 e31
  obtain rfl:=rr36
  refine lv E ok (yy38 _ _) fun a E=>lv E ok (qai qdk rfl (qab.ro at37)) fun a E=>av E rfl fun a E=>aw E rfl fun a E=>sg<|mv E rfl fun a E=>wn<|cg E rfl hF (fun c39 hF=>?_) fun c39 hF=>?_
  ·refine wp_skip<|qap<|qaa<|qac<|lw E (qaA rfl rfl (InR.inc r25 (qal h4) c29)) fun a E=>mv E rfl fun a E=>wpList_nil ?_
   cases hF
   exact qau ⟨c26,M27,ok,E.keep [1,2,3,23,24,25],(InR.inc r25 (qal h4) c29),h28⟩
  refine qac<|ld E ok qcs 0 rfl rfl rfl fun a E=>mv E rfl fun a E=>?_
  obtain ⟨x40,e41,hF⟩:=bnd hF
  obtain ⟨b42,o43,hp44,yy45⟩:=qbf qaR h28 e41 (P:=Tryd.prog) (X:=.tmp 31) (I:=.tmp 32) (kd:=.i64) (qay E rfl) (qay E rfl)
  refine lv E ok (yy45 _ _) fun a E=>bd hF fun l46 e47 hF=>qcv (R:=(pI .i64)) E ok 1 rfl h28 e41 hp44 rfl rfl qbp rfl rfl rfl ⟨rfl,trivial⟩ (qaW (ir 1)) e47 rfl fun M48 w ok h49=>wpList_nil<|qap<|qaa<|qac<|lw E (qaA rfl rfl (InR.inc r25 (qal h4) c29)) fun a E=>mv E rfl fun a E=>wpList_nil ?_
  cases hF
  exact qau ⟨c26,M48,ok,E.keep [1,2,3,23,24,25],(InR.inc r25 (qal h4) c29),h49⟩
 intro e a w _ hO
 obtain ⟨rfl,c50,M51,ok,E,h52⟩:=hO
 refine qaN<|qaa<|sg<|aw E rfl fun a E=>wp_seq<|wp_block<|bd hF fun o58 hL hF=>qaH _ (fun (s:Int × (List (Int))) a w=>∃ c60 M61,Ok u m0 ([(b12,oc 83 [c60])] :: M61 :: [(b6,oc 58 [(Value.slice none 0 0),(Value.slice none 0 0)])] :: [(b5,oc 58 [c1,c3])] :: S) w ∧ Env 112 a [(1,vp b5),(2,vp b6),(3,vp b12),(6,vi s.1)] ∧ InR .i64 s.1 ∧ ORow 3 1 (pI .i64) m0 c60 s.2 M61) (fun (b:((List (Int)) × Int)) e a w=>e = (.exit 2) ∧ ∃ c362 M363,Ok u m0 ([(b12,oc 83 [c362])] :: M363 :: [(b6,oc 58 [(Value.slice none 0 0),(Value.slice none 0 0)])] :: [(b5,oc 58 [c1,c3])] :: S) w ∧ Env 112 a [(1,vp b5),(2,vp b6),(3,vp b12),(6,vi b.2)] ∧ ORow 3 1 (pI .i64) m0 c362 b.1 M363 ∧ InR .i64 b.2) ?_ ?_ N _ a w hL ⟨c50,M51,ok,E.keep [1,2,3,6],(ir 0),h52⟩
 rotate_left
 ·as_aux_lemma =>
   intro e a w _ hO
   obtain ⟨rfl,c266,M267,ok,E,h268,r269⟩:=hO
   refine qaN<|qaa<|sg<|mv E rfl fun a E=>bd hF fun l270 e271 hF=>qbR (R:=(pI .i64)) E ok qaR qdI rfl (qaW (ir 0)) rfl e271 rfl rfl fun c272 M273 a w E ok h274=>qaw E ok qgO rfl rfl fun b275 a w E ok=>qaf E ok 0 rfl rfl rfl qj1 (ORow.cells h274) rfl ⟨(ORow.one h274),trivial⟩ rfl rfl fun w ok=>wn<|wp_seq<|sg<|ld E ok qcs 2 rfl rfl rfl fun a E=>lv E ok (qcz qaR h268 rfl) fun a E=>lw E (qiT rfl rfl) fun a E=>aw E rfl fun a E=>wp_block<|bd hF fun o281 hL hF=>qaH _ (fun (s:Int × (List (Int))) a w=>∃ c283 M284,Ok u m0 ([(b275,oc 83 [c283])] :: M284 :: [(b12,oc 83 [c266])] :: M267 :: [(b6,oc 58 [(Value.slice none 0 0),(Value.slice none 0 0)])] :: [(b5,oc 58 [c1,c3])] :: S) w ∧ Env 112 a [(1,vp b5),(2,vp b6),(3,vp b12),(16,vp b275),(17,vi s.1)] ∧ InR .i64 s.1 ∧ ORow 3 1 (pI .i64) m0 c283 s.2 M284) (fun (b:((List (Int)))) e a w=>e = (.exit 8) ∧ ∃ c359 M360,Ok u m0 ([(b275,oc 83 [c359])] :: M360 :: [(b12,oc 83 [c266])] :: M267 :: [(b6,oc 58 [(Value.slice none 0 0),(Value.slice none 0 0)])] :: [(b5,oc 58 [c1,c3])] :: S) w ∧ Env 112 a [(1,vp b5),(2,vp b6),(3,vp b12),(16,vp b275)] ∧ ORow 3 1 (pI .i64) m0 c359 b M360) ?_ ?_ N _ a w hL ⟨c272,M273,ok,E.keep [1,2,3,16,17],(InR.wrap _ _),h274⟩
   rotate_left
   ·intro e a w _ hO
    obtain ⟨rfl,c336,M337,ok,E,h338⟩:=hO
    refine qaN<|qaa<|sg<|ld E ok qcs 2 rfl rfl rfl fun a E=>?_
    obtain ⟨x339,e340,hF⟩:=bnd hF
    obtain ⟨b341,o342,hp343,yy344⟩:=qbf qaR h268 e340 (P:=Tryd.prog) (X:=.tmp 106) (I:=.const (vi 0)) (kd:=.i64) (qay E rfl) (qay E rfl)
    refine lv E ok (yy344 _ _) fun a E=>?_
    obtain ⟨es345,hl346,rr347,hh348⟩:=qbT h268 e340 hp343 (by decide)
    obtain ⟨rfl,r349⟩:=rr347
    refine lv E ok (qai qam rfl (hh348 _ _ _ 3 rfl)) fun a E=>lv E ok (qc4 (caps:=[.tmp 3,.tmp 1,.tmp 16]) rfl) fun a E=>lv E ok (qc4 (caps:=[.tmp 1,.tmp 16]) rfl) fun a E=>?_
    obtain ⟨r350,e351,hF⟩:=bnd hF
    replace ok:Ok u m0 ([(b12,oc 83 [c266])] :: M267 :: [(b5,oc 58 [c1,c3])] :: [(b275,oc 83 [c336])] :: M337 :: [(b6,oc 58 [(Value.slice none 0 0),(Value.slice none 0 0)])] :: S) w:=(ok.pk 6 [2,3,5,0,1,4] rfl (by decide))
    refine qao E quA rfl (qh0 N x339 r349 o58.1 h268 t_0 h2 h4 o281 h338 e351 ok) rfl rfl ?_
    rintro _ w ⟨m352,vs353,rfl,hle,ok,h354⟩
    have le_m0:=le_m0.trans hle
    have h2:=(mL qba).up hle h2
    have h4:=(mL mB).up hle h4
    have h268:=ORow.up (mI .i64) hle h268
    have h338:=ORow.up (mI .i64) hle h338
    obtain ⟨c355,c357,rfl,h356,h358⟩:=h354
    refine ⟨_,rfl,fun a E=>?_⟩
    refine qaf E ok 5 rfl rfl rfl qle rfl rfl ⟨(qa9 h356),(qa9 h358),trivial⟩ rfl rfl fun w ok=>wn<|wp_ret ?_
    exact fin hF ⟨m352,[c355,c357],le_m0,ok.drop.drop.drop.drop.drop.drop,E.d,⟨rv_c (cs:=[c355,c357]) E ok rfl qh7 rfl (qab.own 5 rfl rfl),trivial⟩,⟨_,_,rfl,h356,h358⟩⟩
   rintro ⟨v286,v287⟩ a w r ⟨c289,M290,ok,E,r288,h291⟩ hF
   replace hF:qcl N o58 v286 v287 = some r:=hF
   unfold qcl at hF
   refine wp_seq<|sg<|mv E rfl fun a E=>lw E (qjh rfl rfl) fun a E=>wn<|cg E rfl hF (fun c292 hF=>?_) fun c292 hF=>?_
   ·refine wp_exit<|qaE ?_
    cases hF
    exact so (⟨rfl,⟨c289,M290,ok,E.keep [1,2,3,16],h291⟩⟩)
   refine wp_skip<|qaa<|wp_seq<|wp_block<|bd hF fun o293 hJ hF=>qaO (Q':=fun e a w=>e = .normal ∧ ∃ c294 M295,Ok u m0 ([(b275,oc 83 [c294])] :: M295 :: [(b12,oc 83 [c266])] :: M267 :: [(b6,oc 58 [(Value.slice none 0 0),(Value.slice none 0 0)])] :: [(b5,oc 58 [c1,c3])] :: S) w ∧ Env 112 a [(1,vp b5),(2,vp b6),(3,vp b12),(16,vp b275),(17,vi v286)] ∧ ORow 3 1 (pI .i64) m0 c294 o293 M295) ?_ ?_
   rotate_left
   ·intro e a w hO
    obtain ⟨rfl,c333,M334,ok,E,h335⟩:=hO
    refine qap<|qaa<|qac<|mv E rfl fun a E=>lw E (qiT rfl rfl) fun a E=>av E rfl fun a E=>wpList_nil ?_
    cases hF
    exact qau ⟨c333,M334,ok,E.keep [1,2,3,16,17],(InR.wrap _ _),h335⟩
   have hF:=hJ
   obtain ⟨x297,e298,hF⟩:=bnd hF
   obtain ⟨x308,e309,hF⟩:=bnd hF
   obtain ⟨l314,e315,hF⟩:=bnd hF
   obtain rfl:=sj hF
   refine qaX [0,1,4] (Cls u m0 ([(b275,oc 83 [c289])] :: [(b12,oc 83 [c266])] :: M267 :: [(b6,oc 58 [(Value.slice none 0 0),(Value.slice none 0 0)])] :: [(b5,oc 58 [c1,c3])] :: [])) (Cls u m0 ([(b12,oc 83 [c266])] :: M267 :: [(b6,oc 58 [(Value.slice none 0 0),(Value.slice none 0 0)])] :: [(b5,oc 58 [c1,c3])] :: [])) (by kernel_rfl) ?_
   intro w hw
   replace ok:=qa3 ok hw
   clear hw
   refine qag (cl1 (cq le_m0 ok [0,2,3,4,5] rfl) (cq le_m0 ok [2,3,4,5] rfl)) fun hT=>qaU 0 E rfl (by kernel_rfl) nP hT (qai qcs rfl (qab.cown 0 rfl rfl)) rfl rfl fun a E=>qaU 1 E rfl (by kernel_rfl) nP hT (qai qcs rfl (qab.cown 1 rfl rfl)) rfl rfl fun a E=>kt 2 E rfl hT (qah rfl) fun a E=>?_
   obtain ⟨b318,o319,hp320,yy321⟩:=qbf qaR h268 e298 (P:=Tryd.prog) (X:=.tmp 100) (I:=.tmp 101) (kd:=.i64) (qay E rfl) (qay E rfl)
   refine kt 3 E rfl hT (yy321 _ _) fun a E=>?_
   obtain ⟨es322,hl323,rr324,hh325⟩:=qbT h268 e298 hp320 (by decide)
   obtain ⟨rfl,r326⟩:=rr324
   refine qaU 4 E rfl (by kernel_rfl) nP hT (qai qam rfl (qab.crow hh325 2 rfl)) rfl rfl fun a E=>kt 5 E rfl hT (qah rfl) fun a E=>?_
   obtain ⟨b327,o328,hp329,yy330⟩:=qbf qaR h291 e309 (P:=Tryd.prog) (X:=.tmp 99) (I:=.tmp 103) (kd:=.i64) (qay E rfl) (qay E rfl)
   refine kt 6 E rfl hT (yy330 _ _) fun a E=>qar [7] (by kernel_rfl) rfl (qas ?_)
   ·refine wo rfl<|qcv (R:=(pI .i64)) E ok 1 rfl h291 e309 hp329 rfl rfl qbp rfl rfl rfl ⟨rfl,trivial⟩ (qaW r288) e315 rfl fun M331 w ok h332=>wn<|qag (cl2 (by kernel_rfl) (cq le_m0 ok [2,3,4,5] rfl)) fun hT=>qaM (by kernel_rfl) ?_
    exact ⟨rfl,⟨c289,M331,ok,E.keep [1,2,3,16,17],h332⟩⟩
 rintro ⟨v63,v64⟩ a w r ⟨c66,M67,ok,E,r65,h68⟩ hF
 replace hF:qb3 N t_0 v63 v64 = some r:=hF
 unfold qb3 at hF
 refine wp_block<|sg<|qgF (aggK pKey) (oneV (pI .i64)) E ok rfl rfl fun c69 M70 a w E ok h71=>aw E rfl fun a E=>sg<|ld E ok qcs 1 rfl rfl rfl fun a E=>lv E ok (qcz qaR h68 rfl) fun a E=>bd hF fun l72 e73 hF=>qbR (R:=(pI .i64)) E ok qaR qdI rfl (qaW (ir 0)) rfl e73 rfl rfl fun c74 M75 a w E ok h76=>aw E rfl fun a E=>wp_seq<|sg<|fv E qfU rfl fun a E=>ld E ok qh5 5 rfl rfl rfl fun a E=>lv E ok (qaz qgN h2 rfl) fun a E=>mv E rfl fun a E=>wn<|wp_block ?_
 refine bd hF fun o85 hL hF=>qaH _ (fun (s:Int × (List (Key × Int)) × (List (Int))) a w=>∃ c87 M88 c90 M91,Ok u m0 (M91 :: M88 :: [(b12,oc 83 [c66])] :: M67 :: [(b6,oc 58 [(Value.slice none 0 0),(Value.slice none 0 0)])] :: [(b5,oc 58 [c1,c3])] :: S) w ∧ Env 112 a [(1,vp b5),(2,vp b6),(3,vp b12),(6,vi v63),(7,c87),(8,c90),(40,c1),(41,(vi (t_0.next.length:Int))),(42,vi s.1)] ∧ InR .i64 s.1 ∧ OMap (aggK pKey) (oneV (pI .i64)) m0 c87 s.2.1 M88 ∧ ORow 3 1 (pI .i64) m0 c90 s.2.2 M91) (fun (b:((List (Key × Int)) × (List (Int)))) e a w=>e = (.exit 4) ∧ ∃ c260 M261 c263 M264,Ok u m0 (M264 :: M261 :: [(b12,oc 83 [c66])] :: M67 :: [(b6,oc 58 [(Value.slice none 0 0),(Value.slice none 0 0)])] :: [(b5,oc 58 [c1,c3])] :: S) w ∧ Env 112 a [(1,vp b5),(2,vp b6),(3,vp b12),(6,vi v63),(7,c260),(8,c263)] ∧ OMap (aggK pKey) (oneV (pI .i64)) m0 c260 b.1 M261 ∧ ORow 3 1 (pI .i64) m0 c263 b.2 M264) ?_ ?_ N _ a w hL ⟨c69,M70,c74,M75,ok,E.keep [1,2,3,6,7,8,40,41,42],(ir 0),h71,h76⟩
 rotate_left
 ·intro e a w _ hO
  obtain ⟨rfl,c253,M254,c256,M257,ok,E,h255,h258⟩:=hO
  refine qaN<|qaa<|sg<|mv E rfl fun a E=>qaf E ok 2 rfl rfl rfl qj1 (ORow.cells h258) rfl ⟨(ORow.one h258),trivial⟩ rfl rfl fun w ok=>wn<|wp_seq<|sg<|mv E rfl fun a E=>lv E ok (qhZ 1 rfl Tryd.underlying93 h255 rfl) fun a E=>mv E rfl fun a E=>lw E (qax rfl rfl) fun a E=>wn<|cf E rfl hF (fun c259 hF=>?_) fun c259 hF=>?_
  ·refine wp_exit<|qaE<|qqI rfl ?_
   cases hF
   exact so (⟨rfl,⟨c256,M257,(ok.pk 6 [2,0,4,5] rfl (by decide)),E.keep [1,2,3,6],h258,r65⟩⟩)
  refine wp_skip<|qaa<|qac<|mv E rfl fun a E=>lv E ok (qhZ 1 rfl Tryd.underlying93 h255 rfl) fun a E=>av E rfl fun a E=>wpList_nil<|qap ?_
  cases hF
  exact qau ⟨c256,M257,(ok.pk 6 [2,0,4,5] rfl (by decide)),E.keep [1,2,3,6],(OMap.InR h255),h258⟩
 rintro ⟨v93,v94,v95⟩ a w r ⟨c97,M98,c100,M101,ok,E,r96,h99,h102⟩ hF
 replace hF:qcW N t_0 v64 v93 v94 v95 = some r:=hF
 unfold qcW at hF
 refine sg<|lw E (qaC rfl rfl) fun a E=>wn<|wp_seq<|cg E rfl hF (fun c103 hF=>?_) fun c103 hF=>?_
 ·refine wp_exit<|qaE ?_
  cases hF
  exact so (⟨rfl,⟨c97,M98,c100,M101,ok,E.keep [1,2,3,6,7,8],h99,h102⟩⟩)
 refine wp_skip<|qaa<|wp_seq<|wp_block<|sg<|mv E rfl fun a E=>?_
 obtain ⟨x104,e105,hF⟩:=bnd hF
 obtain ⟨b106,o107,es108,hl109,rr110,at111,yy112⟩:=ia E 40 42 qgN h2 e105
 obtain ⟨rfl,r113,r114,r115,r116,r117,r118,r119,r120,r121,r122,r123⟩:=rr110
 refine lv E ok (yy112 _ _) fun a E=>lv E ok (qaj (cs:=[vi x104.e0,vi x104.e1,vi x104.e2,vi x104.e3,vi x104.e4,vi x104.e5,vi x104.e6,vi x104.e7,vi x104.e8,vi x104.e9,vi x104.e10]) qjZ rfl rfl (qab.ro at111)) fun a E=>qaw E ok qfT rfl rfl fun b124 a w E ok=>av E rfl fun a E=>qaf E ok 0 rfl rfl rfl qqN rfl rfl ⟨rfl,rfl,rfl,rfl,rfl,rfl,rfl,rfl,rfl,rfl,rfl,trivial⟩ rfl rfl fun w ok=>wn<|sg<|ld E ok qcs 3 rfl rfl rfl fun a E=>mv E rfl fun a E=>?_
 obtain ⟨x125,e126,hF⟩:=bnd hF
 obtain ⟨b127,o128,hp129,yy130⟩:=qbf qaR h68 e126 (P:=Tryd.prog) (X:=.tmp 47) (I:=.tmp 48) (kd:=.i64) (qay E rfl) (qay E rfl)
 refine lv E ok (yy130 _ _) fun a E=>?_
 obtain ⟨es131,hl132,rr133,hh134⟩:=qbT h68 e126 hp129 (by decide)
 obtain ⟨rfl,r135⟩:=rr133
 refine lv E ok (qai qam rfl (hh134 _ _ _ 4 rfl)) fun a E=>lw E (qaG (ps:=[(0,.tmp 50)]) (qs:=[(0,[vi x125])]) (cs:=[vi x125,vi 0,vi 0,vi 0,vi 0,vi 0,vi 0,vi 0,vi 0,vi 0,vi 0,vi 0]) qpi qrc rfl ⟨rfl,rfl,rfl,trivial⟩ rfl) fun a E=>qaw E ok qpi rfl rfl fun b136 a w E ok=>qaf E ok 0 rfl rfl rfl qtP rfl rfl ⟨rfl,rfl,rfl,rfl,rfl,rfl,rfl,rfl,rfl,rfl,rfl,rfl,trivial⟩ rfl rfl fun w ok=>wn<|wp_seq<|sg<|lv E ok (qaj (cs:=[vi x104.e0,vi x104.e1,vi x104.e2,vi x104.e3,vi x104.e4,vi x104.e5,vi x104.e6,vi x104.e7,vi x104.e8,vi x104.e9,vi x104.e10]) qjZ rfl rfl (qab.own 1 rfl rfl)) fun a E=>mv E rfl fun a E=>wn<|wp_block<|bd hF fun o151 hL hF=>qaH _ (fun (s:Int × Key) a w=>Ok u m0 ([(b136,oc 95 [vi s.2.class_,vi s.2.next.e0,vi s.2.next.e1,vi s.2.next.e2,vi s.2.next.e3,vi s.2.next.e4,vi s.2.next.e5,vi s.2.next.e6,vi s.2.next.e7,vi s.2.next.e8,vi s.2.next.e9,vi s.2.next.e10])] :: [(b124,oc 90 [vi x104.e0,vi x104.e1,vi x104.e2,vi x104.e3,vi x104.e4,vi x104.e5,vi x104.e6,vi x104.e7,vi x104.e8,vi x104.e9,vi x104.e10])] :: M101 :: M98 :: [(b12,oc 83 [c66])] :: M67 :: [(b6,oc 58 [(Value.slice none 0 0),(Value.slice none 0 0)])] :: [(b5,oc 58 [c1,c3])] :: S) w ∧ Env 112 a [(1,vp b5),(2,vp b6),(3,vp b12),(6,vi v63),(7,c97),(8,c100),(9,vi v93),(11,vp b136),(40,c1),(41,(vi (t_0.next.length:Int))),(42,vi v93),(52,(Value.agg [vi x104.e0,vi x104.e1,vi x104.e2,vi x104.e3,vi x104.e4,vi x104.e5,vi x104.e6,vi x104.e7,vi x104.e8,vi x104.e9,vi x104.e10].toArray)),(53,vi s.1)] ∧ InR .i64 s.1 ∧ InR .i64 s.2.class_ ∧ InR .i64 s.2.next.e0 ∧ InR .i64 s.2.next.e1 ∧ InR .i64 s.2.next.e2 ∧ InR .i64 s.2.next.e3 ∧ InR .i64 s.2.next.e4 ∧ InR .i64 s.2.next.e5 ∧ InR .i64 s.2.next.e6 ∧ InR .i64 s.2.next.e7 ∧ InR .i64 s.2.next.e8 ∧ InR .i64 s.2.next.e9 ∧ InR .i64 s.2.next.e10) (fun (b:Key) e a w=>e = (.exit 6) ∧ Ok u m0 ([(b136,oc 95 [vi b.class_,vi b.next.e0,vi b.next.e1,vi b.next.e2,vi b.next.e3,vi b.next.e4,vi b.next.e5,vi b.next.e6,vi b.next.e7,vi b.next.e8,vi b.next.e9,vi b.next.e10])] :: [(b124,oc 90 [vi x104.e0,vi x104.e1,vi x104.e2,vi x104.e3,vi x104.e4,vi x104.e5,vi x104.e6,vi x104.e7,vi x104.e8,vi x104.e9,vi x104.e10])] :: M101 :: M98 :: [(b12,oc 83 [c66])] :: M67 :: [(b6,oc 58 [(Value.slice none 0 0),(Value.slice none 0 0)])] :: [(b5,oc 58 [c1,c3])] :: S) w ∧ Env 112 a [(1,vp b5),(2,vp b6),(3,vp b12),(6,vi v63),(7,c97),(8,c100),(9,vi v93),(11,vp b136),(40,c1),(41,(vi (t_0.next.length:Int))),(42,vi v93)] ∧ InR .i64 b.class_ ∧ InR .i64 b.next.e0 ∧ InR .i64 b.next.e1 ∧ InR .i64 b.next.e2 ∧ InR .i64 b.next.e3 ∧ InR .i64 b.next.e4 ∧ InR .i64 b.next.e5 ∧ InR .i64 b.next.e6 ∧ InR .i64 b.next.e7 ∧ InR .i64 b.next.e8 ∧ InR .i64 b.next.e9 ∧ InR .i64 b.next.e10) ?_ ?_ N _ a w hL ⟨ok,E.keep [1,2,3,6,7,8,9,11,40,41,42,52,53],(ir 0),r135,(ir 0),(ir 0),(ir 0),(ir 0),(ir 0),(ir 0),(ir 0),(ir 0),(ir 0),(ir 0),(ir 0)⟩
 ·rintro ⟨v165,v166⟩ a w r ⟨ok,E,r167,r168,r169,r170,r171,r172,r173,r174,r175,r176,r177,r178,r179⟩ hF
  replace hF:qb4 N v64 x104 v165 v166 = some r:=hF
  unfold qb4 at hF
  refine sg<|lw E (qaC rfl rfl) fun a E=>wn<|wp_seq<|cg E rfl hF (fun c180 hF=>?_) fun c180 hF=>?_
  ·refine wp_exit<|qaE ?_
   cases hF
   exact so (⟨rfl,⟨ok,E.keep [1,2,3,6,7,8,9,11,40,41,42],r168,r169,r170,r171,r172,r173,r174,r175,r176,r177,r178,r179⟩⟩)
  refine wp_skip<|qaa<|wp_seq<|wp_block<|sg<|mv E rfl fun a E=>bd hF fun z181 e182 hF=>lv E ok (qtu (f:=Value.int .i64) (xs:=[(x104.e0:Int),(x104.e1:Int),(x104.e2:Int),(x104.e3:Int),(x104.e4:Int),(x104.e5:Int),(x104.e6:Int),(x104.e7:Int),(x104.e8:Int),(x104.e9:Int),(x104.e10:Int)]) Tryd.underlying90 qbp qam rfl rfl rfl rfl e182) fun a E=>av E rfl fun a E=>aw E rfl fun a E=>qac<|mv E rfl fun a E=>ld E ok qcs 4 rfl rfl rfl fun a E=>mv E rfl fun a E=>?_
  obtain ⟨x183,e184,hF⟩:=bnd hF
  obtain ⟨b185,o186,hp187,yy188⟩:=qbf qaR h68 e184 (P:=Tryd.prog) (X:=.tmp 58) (I:=.tmp 59) (kd:=.i64) (qay E rfl) (qay E rfl)
  refine lv E ok (yy188 _ _) fun a E=>?_
  obtain ⟨es189,hl190,rr191,hh192⟩:=qbT h68 e184 hp187 (by decide)
  obtain ⟨rfl,r193⟩:=rr191
  refine lv E ok (qai qam rfl (hh192 _ _ _ 5 rfl)) fun a E=>fv E qsG rfl fun a E=>?_
  obtain ⟨x194,e195,hF⟩:=bnd hF
  replace e195:idx (Arr11_Int.list v166.next) v165 = some x194:=e195
  refine lv E ok (qdZ qhx rfl rfl (qaL e195).1 (qaL e195).2) fun a E=>?_
  obtain ⟨z196,e197,hF⟩:=bnd hF
  have h198:=Arr11_Int.set_list e197
  have h199:=AllP.setI (q:=(InR .i64)) (xs:=Arr11_Int.list v166.next) ⟨r169,r170,r171,r172,r173,r174,r175,r176,r177,r178,r179,trivial⟩ r193 h198
  refine qem (c:=[vi v166.class_,vi v166.next.e0,vi v166.next.e1,vi v166.next.e2,vi v166.next.e3,vi v166.next.e4,vi v166.next.e5,vi v166.next.e6,vi v166.next.e7,vi v166.next.e8,vi v166.next.e9,vi v166.next.e10]) (c':=[vi v166.class_,vi z196.e0,vi z196.e1,vi z196.e2,vi z196.e3,vi z196.e4,vi z196.e5,vi z196.e6,vi z196.e7,vi z196.e8,vi z196.e9,vi z196.e10]) E ok 0 rfl rfl rfl qbp rfl rfl ⟨rfl,trivial⟩ (qh9 (n:=11) (qaL e195).2 (Nat.le_of_ble_eq_true rfl)) (qjl (f:=(Value.int .i64)) (pre:=[vi v166.class_]) (post:=[]) (xs:=Arr11_Int.list v166.next) (ys:=z196.list) rfl h198) rfl fun w ok=>wpList_nil<|qap<|qaa<|qac<|lw E (qaA rfl rfl (InR.inc r167 (ir 11) c180)) fun a E=>mv E rfl fun a E=>wpList_nil ?_
  cases hF
  exact qau ⟨ok,E.keep [1,2,3,6,7,8,9,11,40,41,42,52,53],(InR.inc r167 (ir 11) c180),r168,h199.1,h199.2.1,h199.2.2.1,h199.2.2.2.1,h199.2.2.2.2.1,h199.2.2.2.2.2.1,h199.2.2.2.2.2.2.1,h199.2.2.2.2.2.2.2.1,h199.2.2.2.2.2.2.2.2.1,h199.2.2.2.2.2.2.2.2.2.1,h199.2.2.2.2.2.2.2.2.2.2.1⟩
 intro e a w _ hO
 obtain ⟨rfl,ok,E,r200,r201,r202,r203,r204,r205,r206,r207,r208,r209,r210,r211⟩:=hO
 refine qaN<|qaa<|sg<|mv E rfl fun a E=>lv E ok (qaj (cs:=[vi o151.class_,vi o151.next.e0,vi o151.next.e1,vi o151.next.e2,vi o151.next.e3,vi o151.next.e4,vi o151.next.e5,vi o151.next.e6,vi o151.next.e7,vi o151.next.e8,vi o151.next.e9,vi o151.next.e10]) qq3 rfl rfl (qab.own 0 rfl rfl)) fun a E=>?_
 obtain ⟨xv212,h213,yy214,yy215⟩:=qkm (P:=Tryd.prog) (mo:=.tmp 66) (ko:=.tmp 67) (zx:=(0:Int)) ok 3 qpQ Tryd.underlying93 h99 rfl (qay E rfl) (qay E rfl) ⟨m0,_,rfl,⟨rfl,r200,r201,r202,r203,r204,r205,r206,r207,r208,r209,r210,r211⟩⟩ qiJ (qaW (ir 0))
 obtain ⟨rfl,r216⟩:=qha h213
 refine lv E ok (yy215 _) fun a E=>mv E rfl fun a E=>lw E (qaF rfl rfl) fun a E=>lw E (qaF rfl rfl) fun a E=>av E rfl fun a E=>aw E rfl fun a E=>wp_seq<|sg<|mv E rfl fun a E=>lw E (qbW rfl) fun a E=>wn<|bd hF fun o217 hJ hF=>qaO (Q':=fun e a w=>e = .normal ∧ ∃ c218 M219,Ok u m0 ([(b136,oc 95 [vi o151.class_,vi o151.next.e0,vi o151.next.e1,vi o151.next.e2,vi o151.next.e3,vi o151.next.e4,vi o151.next.e5,vi o151.next.e6,vi o151.next.e7,vi o151.next.e8,vi o151.next.e9,vi o151.next.e10])] :: [(b124,oc 90 [vi x104.e0,vi x104.e1,vi x104.e2,vi x104.e3,vi x104.e4,vi x104.e5,vi x104.e6,vi x104.e7,vi x104.e8,vi x104.e9,vi x104.e10])] :: M101 :: M219 :: [(b12,oc 83 [c66])] :: M67 :: [(b6,oc 58 [(Value.slice none 0 0),(Value.slice none 0 0)])] :: [(b5,oc 58 [c1,c3])] :: S) w ∧ Env 112 a [(1,vp b5),(2,vp b6),(3,vp b12),(6,vi v63),(7,c218),(8,c100),(9,vi v93),(14,vi o217.2),(40,c1),(41,(vi (t_0.next.length:Int))),(42,vi v93)] ∧ OMap (aggK pKey) (oneV (pI .i64)) m0 c218 o217.1 M219 ∧ InR .i64 o217.2) ?_ ?_
 rotate_left
 ·intro e a w hO
  obtain ⟨rfl,c227,M228,ok,E,h229,r230⟩:=hO
  refine qaa<|qac<|mz E rfl rfl fun a E=>mv E rfl fun a E=>?_
  obtain ⟨x231,e232,hF⟩:=bnd hF
  obtain ⟨b233,o234,hp235,yy236⟩:=qbf qaR h102 e232 (P:=Tryd.prog) (X:=.tmp 78) (I:=.tmp 79) (kd:=.i64) (qay E rfl) (qay E rfl)
  refine lv E ok (yy236 _ _) fun a E=>bd hF fun l237 e238 hF=>qcv (R:=(pI .i64)) E ok 2 rfl h102 e232 hp235 rfl rfl qbp rfl rfl rfl ⟨rfl,trivial⟩ (qaW r230) e238 rfl fun M239 w ok h240=>wpList_nil<|qap<|qaa<|qac<|lw E (qaA rfl rfl (InR.inc r96 (qal h2) c103)) fun a E=>mv E rfl fun a E=>wpList_nil ?_
  cases hF
  exact qau ⟨c227,M228,c100,M239,(ok.pk 8 [2,3,4,5,6,7] rfl (by decide)),E.keep [1,2,3,6,7,8,40,41,42],(InR.inc r96 (qal h2) c103),h229,h240⟩
 have hF:=hJ
 refine cg E rfl hF (fun c222 hF=>?_) fun c222 hF=>?_
 ·refine wp_skip ?_
  cases hF
  exact ⟨rfl,⟨c97,M98,ok,E.keep [1,2,3,6,7,8,9,14,40,41,42],h99,r216⟩⟩
 refine sg<|mv E rfl fun a E=>lv E ok (qhZ 3 rfl Tryd.underlying93 h99 rfl) fun a E=>aw E rfl fun a E=>qac<|mv E rfl fun a E=>lv E ok (qaj (cs:=[vi o151.class_,vi o151.next.e0,vi o151.next.e1,vi o151.next.e2,vi o151.next.e3,vi o151.next.e4,vi o151.next.e5,vi o151.next.e6,vi o151.next.e7,vi o151.next.e8,vi o151.next.e9,vi o151.next.e10]) qq3 rfl rfl (qab.own 0 rfl rfl)) fun a E=>mv E rfl fun a E=>bd hF fun l223 e224 hF=>qgA (.inl rfl) E ok 3 qpQ Tryd.underlying93 h99 rfl rfl rfl rfl ⟨m0,_,rfl,⟨rfl,r200,r201,r202,r203,r204,r205,r206,r207,r208,r209,r210,r211⟩⟩ (qaW (OMap.InR h99)) e224 rfl fun M225 w ok h226=>wpList_nil ?_
 cases hF
 exact ⟨rfl,⟨c97,M225,ok,E.keep [1,2,3,6,7,8,9,14,40,41,42],h226,(OMap.InR h99)⟩⟩
def qlg (u:World) (m0:Mem) (S:Segs) (r:DFA) (a:Act) (w:World):Prop :=
 ∃ m1 v0,m0.le m1 ∧ Ok u m1 S w ∧ a.defers = [] ∧ RVs Tryd.prog a w [.c 2 33 (.agg v0.toArray)] ∧ pDFA m1 v0 r
theorem qie (N:Nat) (vt_0:List Value) (t_0:Table) (ht_0:qg4 m0 vt_0 t_0) {r:DFA} (hF:qeu N t_0 = some r) (ok:Ok u m0 S w) :
  Calls Tryd.prog 28 [.agg vt_0.toArray].toArray w fun e w'=>∃ m1 v0,e = .returned (.agg v0.toArray) ∧ m0.le m1 ∧ Ok u m1 S w' ∧ pDFA m1 v0 r:=by
 obtain ⟨c1,c3,rfl,h2,h4⟩:=ht_0
 have le_m0:=Mem.le.refl m0
 unfold qeu at hF
 refine en (qlg u m0 S) r Tryd.func28 rfl rfl rfl (by rintro a w ⟨m1,v0,hle,ok,hd,hrv,h0⟩; exact qbC [.c 2 33 (.agg v0.toArray)] hd rfl hrv ⟨m1,v0,rfl,hle,ok,h0⟩) fun fin a E=>sg<|qbQ E ok rfl rfl rfl fun b5 a w E ok=>qaw E ok qa0 rfl rfl fun b6 a w E ok=>wn<|sg<|fk E ok qgS qdK rfl 1 rfl rfl fun a E=>lw E (qaG (ps:=[(2,.tmp 7)]) (qs:=[(2,[c3])]) (cs:=[vi 0,(Value.slice none 0 0),c3]) qa0 qci rfl ⟨rfl,(qcj h4),rfl,trivial⟩ rfl) fun a E=>qaw E ok qa0 rfl rfl fun b7 a w E ok=>qaf E ok 0 rfl rfl rfl qbI rfl rfl ⟨rfl,rfl,(qa9 h4),trivial⟩ rfl rfl fun w ok=>wn<|wp_seq<|sg<|fk E ok qfU qh5 rfl 2 rfl rfl fun a E=>lv E ok (qaz qgN h2 rfl) fun a E=>mv E rfl fun a E=>wn<|wp_block ?_
 obtain ⟨M16,ok,h17⟩:=qd1 (e:=83) (k:=1) (R:=(pL 1 (pI .i64))) ok
 refine bd hF fun o18 hL hF=>qaH _ (fun (s:Int × DFA) a w=>∃ m19 c22 M23 c25,m0.le m19 ∧ Ok u m19 (M23 :: [(b7,oc 33 [vi s.2.Start,c22,c25])] :: [(b6,oc 33 [vi 0,(Value.slice none 0 0),(Value.slice none 0 0)])] :: [(b5,oc 58 [c1,c3])] :: S) w ∧ Env 24 a [(2,vp b6),(3,vp b7),(10,c1),(11,(vi (t_0.next.length:Int))),(12,vi s.1)] ∧ InR .i64 s.1 ∧ InR .i64 s.2.Start ∧ ORow 83 1 (pL 1 (pI .i64)) m19 c22 s.2.Next M23 ∧ (pL 1 pB) m19 [c25] s.2.Accept) (fun (b:DFA) e a w=>e = (.exit 0) ∧ ∃ m97 c99 M100 c102,m0.le m97 ∧ Ok u m97 (M100 :: [(b7,oc 33 [vi b.Start,c99,c102])] :: [(b6,oc 33 [vi 0,(Value.slice none 0 0),(Value.slice none 0 0)])] :: [(b5,oc 58 [c1,c3])] :: S) w ∧ Env 24 a [(2,vp b6),(3,vp b7)] ∧ InR .i64 b.Start ∧ ORow 83 1 (pL 1 (pI .i64)) m97 c99 b.Next M100 ∧ (pL 1 pB) m97 [c102] b.Accept) ?_ ?_ N _ a w hL ⟨m0,(Value.slice none 0 0),M16,c3,Mem.le.refl _,ok,E.keep [2,3,10,11,12],(ir 0),(ir 0),h17,h4⟩
 rotate_left
 ·intro e a w _ hO
  obtain ⟨rfl,m88,c90,M91,c93,hle,ok,E,r89,h92,h94⟩:=hO
  have le_m0:=le_m0.trans hle
  have h2:=(mL qba).up hle h2
  have h4:=(mL mB).up hle h4
  refine qaN<|qaa<|sg<|lv E ok (qaj (cs:=[vi o18.Start,c90,c93]) qcr rfl rfl (qab.own 1 rfl rfl)) fun a E=>qaf E ok 2 rfl rfl rfl qbI rfl rfl ⟨rfl,(ORow.one h92),(qa9 h94),trivial⟩ rfl rfl fun w ok=>wn<|wp_ret ?_
  obtain ⟨m95,hle,ok,hfz⟩:=(ok.frs 0 rfl).freeze
  have h96:=ORow.froz (mL (mI .i64)) h92 hle hfz (by decide)
  have le_m0:=le_m0.trans hle
  have h2:=(mL qba).up hle h2
  have h4:=(mL mB).up hle h4
  have h94:=(mL mB).up hle h94
  exact fin hF ⟨m95,[vi o18.Start,c90,c93],le_m0,ok.drop.drop.drop,E.d,⟨rv_c (cs:=[vi o18.Start,c90,c93]) E ok rfl qcr rfl (qab.own 1 rfl rfl),trivial⟩,⟨_,_,rfl,r89,h96,h94⟩⟩
 rintro ⟨v27,v28⟩ a w r ⟨m29,c32,M33,c35,hle,ok,E,r30,r31,h34,h36⟩ hF
 replace hF:qc1 N t_0 v27 v28 = some r:=hF
 unfold qc1 at hF
 have le_m0:=le_m0.trans hle
 have h2:=(mL qba).up hle h2
 have h4:=(mL mB).up hle h4
 refine sg<|lw E (qaC rfl rfl) fun a E=>wn<|wp_seq<|cg E rfl hF (fun c37 hF=>?_) fun c37 hF=>?_
 ·refine wp_exit<|qaE ?_
  cases hF
  exact so (⟨rfl,⟨m29,c32,M33,c35,le_m0,ok,E.keep [2,3],r31,h34,h36⟩⟩)
 refine wp_skip<|qaa<|wp_seq<|wp_block<|sg ?_
 obtain ⟨x38,e39,hF⟩:=bnd hF
 obtain ⟨b40,o41,es42,hl43,rr44,at45,yy46⟩:=ia E 10 12 qgN h2 e39
 obtain ⟨rfl,r47,r48,r49,r50,r51,r52,r53,r54,r55,r56,r57⟩:=rr44
 refine lv E ok (yy46 _ _) fun a E=>lv E ok (qaj (cs:=[vi x38.e0,vi x38.e1,vi x38.e2,vi x38.e3,vi x38.e4,vi x38.e5,vi x38.e6,vi x38.e7,vi x38.e8,vi x38.e9,vi x38.e10]) qjZ rfl rfl (qab.ro at45)) fun a E=>qaw E ok qfT rfl rfl fun b58 a w E ok=>qaf E ok 0 rfl rfl rfl qqN rfl rfl ⟨rfl,rfl,rfl,rfl,rfl,rfl,rfl,rfl,rfl,rfl,rfl,trivial⟩ rfl rfl fun w ok=>wn ?_
 have lits:=(show Lits 1 (pI .i64) m29 [vi x38.e0,vi x38.e1,vi x38.e2,vi x38.e3,vi x38.e4,vi x38.e5,vi x38.e6,vi x38.e7,vi x38.e8,vi x38.e9,vi x38.e10] ([x38.e0,x38.e1,x38.e2,x38.e3,x38.e4,x38.e5,x38.e6,x38.e7,x38.e8,x38.e9,x38.e10]:List (Int)) from ⟨⟨_,rfl,rfl,(qaW r47)⟩,⟨_,rfl,rfl,(qaW r48)⟩,⟨_,rfl,rfl,(qaW r49)⟩,⟨_,rfl,rfl,(qaW r50)⟩,⟨_,rfl,rfl,(qaW r51)⟩,⟨_,rfl,rfl,(qaW r52)⟩,⟨_,rfl,rfl,(qaW r53)⟩,⟨_,rfl,rfl,(qaW r54)⟩,⟨_,rfl,rfl,(qaW r55)⟩,⟨_,rfl,rfl,(qaW r56)⟩,⟨_,rfl,rfl,(qaW r57)⟩,trivial⟩)
 obtain ⟨m59,hle,ok,hfz⟩:=(ok.frs 0 rfl).freeze
 have h60:=qm4 (n:=11) (mI .i64) lits rfl hle hfz rfl rfl
 clear lits
 have le_m0:=le_m0.trans hle
 have h2:=(mL qba).up hle h2
 have h4:=(mL mB).up hle h4
 have h34:=ORow.up (mL (mI .i64)) hle h34
 have h36:=(mL mB).up hle h36
 have at45:=At.up hle at45
 refine bd hF fun o61 hJ hF=>qaO (Q':=fun e a w=>e = .normal ∧ ∃ c63 M64 c66,Ok u m59 (M64 :: [(b7,oc 33 [vi o61.Start,c63,c66])] :: [(b6,oc 33 [vi 0,(Value.slice none 0 0),(Value.slice none 0 0)])] :: [(b5,oc 58 [c1,c3])] :: S) w ∧ Env 24 a [(2,vp b6),(3,vp b7),(10,c1),(11,(vi (t_0.next.length:Int))),(12,vi v27)] ∧ InR .i64 o61.Start ∧ ORow 83 1 (pL 1 (pI .i64)) m59 c63 o61.Next M64 ∧ (pL 1 pB) m59 [c66] o61.Accept) ?_ ?_
 rotate_left
 ·intro e a w hO
  obtain ⟨rfl,c83,M84,c86,ok,E,r82,h85,h87⟩:=hO
  refine qap<|qaa<|qac<|lw E (qaA rfl rfl (InR.inc r30 (qal h2) c37)) fun a E=>mv E rfl fun a E=>wpList_nil ?_
  cases hF
  exact qau ⟨m59,c83,M84,c86,le_m0,ok,E.keep [2,3,10,11,12],(InR.inc r30 (qal h2) c37),r82,h85,h87⟩
 have hF:=hJ
 obtain ⟨l71,e72,hF⟩:=bnd hF
 obtain rfl:=sj hF
 refine qaX [1] (Cls u m59 ([(b7,oc 33 [vi v28.Start,c32,c35])] :: [(b6,oc 33 [vi 0,(Value.slice none 0 0),(Value.slice none 0 0)])] :: [(b5,oc 58 [c1,c3])] :: [])) (Cls u m59 ([(b6,oc 33 [vi 0,(Value.slice none 0 0),(Value.slice none 0 0)])] :: [(b5,oc 58 [c1,c3])] :: [])) (by kernel_rfl) ?_
 intro w hw
 replace ok:=qa3 ok hw
 clear hw
 have le_m59:=Mem.le.refl m59
 refine qag (cl1 (cq le_m59 ok [1,2,3] rfl) (cq le_m59 ok [2,3] rfl)) fun hT=>kt 0 E rfl hT (qae qdW rfl) fun a E=>qaU 1 E rfl (by kernel_rfl) nP hT (qai qde rfl (qab.cown 0 rfl rfl)) rfl rfl fun a E=>kt 2 E rfl hT (qt9 Tryd.underlying90 qbp rfl) fun a E=>qar [3] (by kernel_rfl) rfl (qas ?_)
 ·refine wo rfl<|qbH (R:=(pL 1 (pI .i64))) (xo:=[.tmp 18]) (xs:=([([x38.e0,x38.e1,x38.e2,x38.e3,x38.e4,x38.e5,x38.e6,x38.e7,x38.e8,x38.e9,x38.e10]:List (Int))]:List (List (Int)))) E ok qcP qgO rfl ⟨⟨_,(qcj h60),rfl,h60⟩,trivial⟩ rfl rfl rfl rfl fun c76 M77 a w E ok h78=>wn<|qag (cl1 (cq le_m59 ok [2,3,4] rfl) (cq le_m59 ok [3,4] rfl)) fun hT=>qar [4] (by kernel_rfl) rfl (qas ?_)
  ·refine wo rfl<|qdn (R:=(pL 1 (pI .i64))) E ok 1 (mL (mI .i64)) qcP Tryd.underlying30 rfl h34 (qbP.ofRow h78 0 rfl ok) e72 ⟨_,qgO,rfl⟩ rfl rfl rfl rfl fun c79 M80 a w E ok h81=>wn<|qag (cl1 (cq le_m59 ok [2,3,4] rfl) (cq le_m59 ok [3,4] rfl)) fun hT=>kt 5 E rfl hT (qae qdW rfl) fun a E=>qar [6] (by kernel_rfl) rfl (qas ?_)
   ·refine wo rfl<|qaf E ok 2 rfl rfl rfl qqt (ORow.cells h81) rfl ⟨(ORow.one h81),trivial⟩ rfl rfl fun w ok=>wn<|qag (cl2 (by kernel_rfl) (cq le_m59 ok [3,4] rfl)) fun hT=>qaM (by kernel_rfl) ?_
    exact ⟨rfl,⟨c79,M80,c35,(ok.pk 5 [1,2,3,4] rfl (by decide)),E.keep [2,3,10,11,12],r31,h81,h36⟩⟩
def qk7 (u:World) (m0:Mem) (S:Segs) (r:DFA × Int) (a:Act) (w:World):Prop :=
 ∃ m1 v0,m0.le m1 ∧ Ok u m1 S w ∧ a.defers = [] ∧ RVs Tryd.prog a w [.c 2 33 (.agg v0.toArray),.t 3 (.int .i64 r.2)] ∧ pDFA m1 v0 r.1 ∧ InR .i64 r.2
theorem qh6 (N:Nat) (vc_0:Value) (c_0:List (List (Relation))) (hc_0:(pL 1 (pL 4 qan)) m0 [vc_0] c_0) {r:DFA × Int} (hF:qev N c_0 = some r) (ok:Ok u m0 S w) :
  Calls Tryd.prog 7 [vc_0].toArray w fun e w'=>∃ m1 v0,e = .returned (.tuple [(.agg v0.toArray),(.int .i64 r.2)].toArray) ∧ m0.le m1 ∧ Ok u m1 S w' ∧ pDFA m1 v0 r.1 ∧ InR .i64 r.2:=by
 have le_m0:=Mem.le.refl m0
 unfold qev at hF
 refine en (qk7 u m0 S) r Tryd.func7 rfl rfl rfl (by rintro a w ⟨m1,v0,hle,ok,hd,hrv,h0,h1⟩; exact qbC [.c 2 33 (.agg v0.toArray),.t 3 (.int .i64 r.2)] hd rfl hrv ⟨m1,v0,rfl,hle,ok,h0,h1⟩) fun fin a E=>sg<|qk0 (cs:=[vc_0]) E ok rfl (qcj hc_0) rfl rfl fun b1 a w E ok=>qaw E ok qa0 rfl rfl fun b2 a w E ok=>aw E rfl fun a E=>sg<|ld E ok qfV 1 rfl rfl rfl fun a E=>bd hF fun r3 e4 hF=>qao E qss rfl (qjd N _ c_0 hc_0 e4 ok) rfl rfl ?_
 rintro _ w ⟨⟨rfl,ok⟩,r5,r6⟩
 refine ⟨_,rfl,fun a E=>?_⟩
 refine mv E rfl fun a E=>lw E (qaF rfl rfl) fun a E=>lw E (qaF rfl rfl) fun a E=>av E rfl fun a E=>aw E rfl fun a E=>wp_seq<|wp_block<|sg<|mv E rfl fun a E=>lw E (qd5 rfl rfl) fun a E=>aw E rfl fun a E=>cf E rfl hF (fun c7 hF=>?_) fun c7 hF=>?_
 ·refine sg<|lw E (qaG (ps:=[]) (qs:=[]) (cs:=[vi 0,(Value.slice none 0 0),(Value.slice none 0 0)]) qa0 qci rfl trivial rfl) fun a E=>mv E rfl fun a E=>qaf E ok 0 rfl rfl rfl qbI rfl rfl ⟨rfl,rfl,rfl,trivial⟩ rfl rfl fun w ok=>aw E rfl fun a E=>wp_ret<|qaI<|qav ?_
  exact fin hF ⟨m0,[vi 0,(Value.slice none 0 0),(Value.slice none 0 0)],le_m0,ok.drop.drop,E.d,⟨rv_c (cs:=[vi 0,(Value.slice none 0 0),(Value.slice none 0 0)]) E ok rfl qcr rfl (qab.own 0 rfl rfl),rv_t E rfl,trivial⟩,⟨_,_,rfl,(ir 0),qff,qff⟩,r6⟩
 refine sg<|mv E rfl fun a E=>lw E (qcK rfl rfl) fun a E=>aw E rfl fun a E=>cf E rfl hF (fun c8 hF=>?_) fun c8 hF=>?_
 ·refine sg<|lw E (qaG (ps:=[]) (qs:=[]) (cs:=[vi 0,(Value.slice none 0 0),(Value.slice none 0 0)]) qa0 qci rfl trivial rfl) fun a E=>qaf E ok 0 rfl rfl rfl qbI rfl rfl ⟨rfl,rfl,rfl,trivial⟩ rfl rfl fun w ok=>aw E rfl fun a E=>wp_ret<|qaI<|qav ?_
  exact fin hF ⟨m0,[vi 0,(Value.slice none 0 0),(Value.slice none 0 0)],le_m0,ok.drop.drop,E.d,⟨rv_c (cs:=[vi 0,(Value.slice none 0 0),(Value.slice none 0 0)]) E ok rfl qcr rfl (qab.own 0 rfl rfl),rv_t E rfl,trivial⟩,⟨_,_,rfl,(ir 0),qff,qff⟩,(ir 6)⟩
 refine wp_skip<|qap<|qaa<|sg<|ld E ok qfV 1 rfl rfl rfl fun a E=>bd hF fun r9 e10 hF=>qao E qp3 rfl (qgH N _ c_0 hc_0 e10 ok) rfl rfl ?_
 rintro _ w ⟨m11,c12,rfl,hle,ok,h13⟩
 have le_m0:=le_m0.trans hle
 have hc_0:=(mL (mL qad)).up hle hc_0
 refine ⟨_,rfl,fun a E=>?_⟩
 refine qaw E ok qpB rfl rfl fun b14 a w E ok=>qaf E ok 0 rfl rfl rfl qom (qcj h13) rfl ⟨(qa9 h13),trivial⟩ rfl rfl fun w ok=>wn<|sg<|lw E (qaG (ps:=[]) (qs:=[]) (cs:=[vi 0,vi 0,vi 0,vi 0,vi 0,vi 0,vi 0,vi 0,vi 0,vi 0,vi 0,vi 0,vi 0]) qf2 qif rfl trivial rfl) fun a E=>lv E ok (qc4 (caps:=[.tmp 6]) rfl) fun a E=>lv E ok (qc4 (caps:=[.tmp 1,.tmp 6]) rfl) fun a E=>?_
 obtain ⟨r15,e16,hF⟩:=bnd hF
 replace ok:Ok u m11 ([(b14,oc 50 [c12])] :: [(b1,oc 23 [vc_0])] :: [(b2,oc 33 [vi 0,(Value.slice none 0 0),(Value.slice none 0 0)])] :: S) w:=(ok.pk 3 [0,2,1] rfl (by decide))
 refine qao E quQ rfl (qgj N _ (Reading.mk 0 (Arr6_Tracker.mk (Tracker.mk 0 0) (Tracker.mk 0 0) (Tracker.mk 0 0) (Tracker.mk 0 0) (Tracker.mk 0 0) (Tracker.mk 0 0))) ⟨rfl,(ir 0),(ir 0),(ir 0),(ir 0),(ir 0),(ir 0),(ir 0),(ir 0),(ir 0),(ir 0),(ir 0),(ir 0),(ir 0)⟩ r9 h13 c_0 hc_0 e16 ok) rfl rfl ?_
 rintro _ w ⟨m17,vs18,rfl,hle,ok,h19⟩
 have le_m0:=le_m0.trans hle
 have hc_0:=(mL (mL qad)).up hle hc_0
 have h13:=(mL qad).up hle h13
 obtain ⟨c20,c22,rfl,h21,h23⟩:=h19
 refine ⟨_,rfl,fun a E=>?_⟩
 refine bd hF fun r24 e25 hF=>qao E qsd rfl (qhq N _ r15 ⟨_,_,rfl,h21,h23⟩ e25 ok) rfl rfl ?_
 rintro _ w ⟨m26,vs27,rfl,hle,ok,h28⟩
 have le_m0:=le_m0.trans hle
 have hc_0:=(mL (mL qad)).up hle hc_0
 have h13:=(mL qad).up hle h13
 have h21:=(mL qba).up hle h21
 have h23:=(mL mB).up hle h23
 obtain ⟨c29,c31,rfl,h30,h32⟩:=h28
 refine ⟨_,rfl,fun a E=>?_⟩
 refine qaw E ok qhv rfl rfl fun b33 a w E ok=>qaf E ok 0 rfl rfl rfl qle rfl rfl ⟨(qa9 h30),(qa9 h32),trivial⟩ rfl rfl fun w ok=>wn<|wp_seq<|sg<|fv E qfU rfl fun a E=>ld E ok qh5 0 rfl rfl rfl fun a E=>lv E ok (qaz qgN h30 rfl) fun a E=>lw E (qcK rfl rfl) fun a E=>wn<|cf E rfl hF (fun c34 hF=>?_) fun c34 hF=>?_
 ·refine sg<|lw E (qaG (ps:=[]) (qs:=[]) (cs:=[vi 0,(Value.slice none 0 0),(Value.slice none 0 0)]) qa0 qci rfl trivial rfl) fun a E=>qaf E ok 3 rfl rfl rfl qbI rfl rfl ⟨rfl,rfl,rfl,trivial⟩ rfl rfl fun w ok=>aw E rfl fun a E=>wp_ret<|qav ?_
  exact fin hF ⟨m26,[vi 0,(Value.slice none 0 0),(Value.slice none 0 0)],le_m0,ok.drop.drop.drop.drop,E.d,⟨rv_c (cs:=[vi 0,(Value.slice none 0 0),(Value.slice none 0 0)]) E ok rfl qcr rfl (qab.own 3 rfl rfl),rv_t E rfl,trivial⟩,⟨_,_,rfl,(ir 0),qff,qff⟩,(ir 6)⟩
 refine wp_skip<|qaa<|sg<|lv E ok (qaj (cs:=[c29,c31]) qh7 rfl rfl (qab.own 0 rfl rfl)) fun a E=>bd hF fun r35 e36 hF=>qao E qsg rfl (qie N _ r24 ⟨_,_,rfl,h30,h32⟩ e36 ok) rfl rfl ?_
 rintro _ w ⟨m37,vs38,rfl,hle,ok,h39⟩
 have le_m0:=le_m0.trans hle
 have hc_0:=(mL (mL qad)).up hle hc_0
 have h13:=(mL qad).up hle h13
 have h21:=(mL qba).up hle h21
 have h23:=(mL mB).up hle h23
 have h30:=(mL qba).up hle h30
 have h32:=(mL mB).up hle h32
 obtain ⟨c41,c43,rfl,r40,h42,h44⟩:=h39
 refine ⟨_,rfl,fun a E=>?_⟩
 refine qaf E ok 3 rfl rfl rfl qbI rfl rfl ⟨rfl,(qa9 h42),(qa9 h44),trivial⟩ rfl rfl fun w ok=>aw E rfl fun a E=>wp_ret ?_
 exact fin hF ⟨m37,[vi r35.Start,c41,c43],le_m0,ok.drop.drop.drop.drop,E.d,⟨rv_c (cs:=[vi r35.Start,c41,c43]) E ok rfl qcr rfl (qab.own 3 rfl rfl),rv_t E rfl,trivial⟩,⟨_,_,rfl,r40,h42,h44⟩,(ir 0)⟩
end Go.Proofs.YtidfofhmnlhfjaaDoor
namespace Go.Proofs.YtidfofhmnlhfjaaDoor
open Go.X
variable {u:World} {m0:Mem} {S:Segs} {w:World}
set_option maxHeartbeats 4000000
set_option maxRecDepth 100000
def qiP (u:World) (m0:Mem) (S:Segs) (r:DigitsRead) (a:Act) (w:World):Prop :=
 ∃ m1 v0,m0.le m1 ∧ Ok u m1 S w ∧ a.defers = [] ∧ RVs Tryd.prog a w [.c 4 76 (.agg v0.toArray)] ∧ qb5 m1 v0 r
theorem qiV (N:Nat) (vs_0:List Value) (s_0:DigitsRead) (hs_0:qb5 m0 vs_0 s_0) (symbol_1:Int) (rsymbol_1:InR .i64 symbol_1) {r:DigitsRead} (hF:qaT N s_0 symbol_1 = some r) (ok:Ok u m0 S w) :
  Calls Tryd.prog 32 [.agg vs_0.toArray,vi symbol_1].toArray w fun e w'=>∃ m1 v0,e = .returned (.agg v0.toArray) ∧ m0.le m1 ∧ Ok u m1 S w' ∧ qb5 m1 v0 r:=by
 obtain ⟨rfl,r1,r2⟩:=hs_0
 have le_m0:=Mem.le.refl m0
 unfold qaT at hF
 refine en (qiP u m0 S) r Tryd.func32 rfl rfl rfl (by rintro a w ⟨m1,v0,hle,ok,hd,hrv,h0⟩; exact qbC [.c 4 76 (.agg v0.toArray)] hd rfl hrv ⟨m1,v0,rfl,hle,ok,h0⟩) fun fin a E=>sg<|qbQ E ok rfl rfl rfl fun b3 a w E ok=>qaw E ok qbw rfl rfl fun b4 a w E ok=>wn<|wp_seq<|wp_block<|sg<|mv E rfl fun a E=>lw E (qax rfl rfl) fun a E=>mv E rfl fun a E=>bw E 8 hF (fun c5 hF E=>?_) fun c5 hF E=>?_
 ·as_aux_lemma =>
   refine lsq E fun a E=>ls E fun a E=>pf E rfl rfl fun a E=>aw E rfl fun a E=>c_if E rfl (fun h=>by cases h) (fun _=>?_)
   refine sg<|mv E rfl fun a E=>lw E (qax rfl rfl) fun a E=>mv E rfl fun a E=>bu E 17 hF (fun c19 hF E=>?_) fun c19 hF E=>?_
   ·refine lsq E fun a E=>ls E fun a E=>pt E rfl rfl fun a E=>mv E rfl fun a E=>lsq E fun a E=>pt E rfl rfl fun a E=>aw E rfl fun a E=>c_if E rfl (fun _=>?_) (fun h=>by cases h)
    refine sg<|lw E (qaG (ps:=[(0,.const (vi 4))]) (qs:=[(0,[vi 4])]) (cs:=[vi 4,vi 0,vb false]) qbw qbl rfl ⟨rfl,rfl,rfl,trivial⟩ rfl) fun a E=>qaf E ok 0 rfl rfl rfl qcq rfl rfl ⟨rfl,rfl,rfl,trivial⟩ rfl rfl fun w ok=>wn<|wp_ret<|qaI<|qav ?_
    exact fin hF ⟨m0,[vi 4,vi 0,vb false],le_m0,ok.drop.drop,E.d,⟨rv_c (cs:=[vi 4,vi 0,vb false]) E ok rfl qbN rfl (qab.own 0 rfl rfl),trivial⟩,⟨rfl,(ir 4),(ir 0)⟩⟩
   refine fk E ok qdV qam rfl 1 rfl rfl fun a E=>lw E (qax rfl rfl) fun a E=>pf E rfl rfl fun a E=>mv E rfl fun a E=>bu E 22 hF (fun c20 hF E=>?_) fun c20 hF E=>?_
   ·refine lsq E fun a E=>pt E rfl rfl fun a E=>aw E rfl fun a E=>c_if E rfl (fun _=>?_) (fun h=>by cases h)
    refine sg<|lw E (qaG (ps:=[(0,.const (vi 4))]) (qs:=[(0,[vi 4])]) (cs:=[vi 4,vi 0,vb false]) qbw qbl rfl ⟨rfl,rfl,rfl,trivial⟩ rfl) fun a E=>qaf E ok 0 rfl rfl rfl qcq rfl rfl ⟨rfl,rfl,rfl,trivial⟩ rfl rfl fun w ok=>wn<|wp_ret<|qaI<|qav ?_
    exact fin hF ⟨m0,[vi 4,vi 0,vb false],le_m0,ok.drop.drop,E.d,⟨rv_c (cs:=[vi 4,vi 0,vb false]) E ok rfl qbN rfl (qab.own 0 rfl rfl),trivial⟩,⟨rfl,(ir 4),(ir 0)⟩⟩
   refine fk E ok qpo qdk rfl 1 rfl rfl fun a E=>pf E rfl rfl fun a E=>aw E rfl fun a E=>cf E rfl hF (fun c21 hF=>?_) fun c21 hF=>?_
   ·refine sg<|lw E (qaG (ps:=[(0,.const (vi 4))]) (qs:=[(0,[vi 4])]) (cs:=[vi 4,vi 0,vb false]) qbw qbl rfl ⟨rfl,rfl,rfl,trivial⟩ rfl) fun a E=>qaf E ok 0 rfl rfl rfl qcq rfl rfl ⟨rfl,rfl,rfl,trivial⟩ rfl rfl fun w ok=>wn<|wp_ret<|qaI<|qav ?_
    exact fin hF ⟨m0,[vi 4,vi 0,vb false],le_m0,ok.drop.drop,E.d,⟨rv_c (cs:=[vi 4,vi 0,vb false]) E ok rfl qbN rfl (qab.own 0 rfl rfl),trivial⟩,⟨rfl,(ir 4),(ir 0)⟩⟩
   refine sg<|fk E ok qdV qam rfl 1 rfl rfl fun a E=>lw E (qax rfl rfl) fun a E=>aw E rfl fun a E=>cf E rfl hF (fun c22 hF=>?_) fun c22 hF=>?_
   ·refine sg<|mv E rfl fun a E=>lw E (qax rfl rfl) fun a E=>lw E (qaG (ps:=[(0,.const (vi 1)),(1,.const (vi 1)),(2,.tmp 32)]) (qs:=[(0,[vi 1]),(1,[vi 1]),(2,[(vb (symbol_1 == 0))])]) (cs:=[vi 1,vi 1,(vb (symbol_1 == 0))]) qbw qbl rfl ⟨rfl,rfl,rfl,⟨rfl,rfl,rfl,⟨rfl,rfl,rfl,trivial⟩⟩⟩ rfl) fun a E=>qaf E ok 0 rfl rfl rfl qcq rfl rfl ⟨rfl,rfl,rfl,trivial⟩ rfl rfl fun w ok=>wn<|wp_ret<|qaI<|qav ?_
    exact fin hF ⟨m0,[vi 1,vi 1,(vb (symbol_1 == 0))],le_m0,ok.drop.drop,E.d,⟨rv_c (cs:=[vi 1,vi 1,(vb (symbol_1 == 0))]) E ok rfl qbN rfl (qab.own 0 rfl rfl),trivial⟩,⟨rfl,(ir 1),(ir 1)⟩⟩
   refine sg<|fk E ok qdV qam rfl 1 rfl rfl fun a E=>lw E (qax rfl rfl) fun a E=>mv E rfl fun a E=>bw E 38 hF (fun c23 hF E=>?_) fun c23 hF E=>?_
   ·as_aux_lemma =>
     refine lsq E fun a E=>ls E fun a E=>pf E rfl rfl fun a E=>aw E rfl fun a E=>c_if E rfl (fun h=>by cases h) (fun _=>?_)
     refine sg<|fk E ok qdV qam rfl 1 rfl rfl fun a E=>lw E (qax rfl rfl) fun a E=>aw E rfl fun a E=>cf E rfl hF (fun c28 hF=>?_) fun c28 hF=>?_
     ·refine sg<|lw E (qaG (ps:=[(0,.const (vi 3)),(1,.const (vi 1))]) (qs:=[(0,[vi 3]),(1,[vi 1])]) (cs:=[vi 3,vi 1,vb false]) qbw qbl rfl ⟨rfl,rfl,rfl,⟨rfl,rfl,rfl,trivial⟩⟩ rfl) fun a E=>qaf E ok 0 rfl rfl rfl qcq rfl rfl ⟨rfl,rfl,rfl,trivial⟩ rfl rfl fun w ok=>wn<|wp_ret<|qaI<|qav ?_
      exact fin hF ⟨m0,[vi 3,vi 1,vb false],le_m0,ok.drop.drop,E.d,⟨rv_c (cs:=[vi 3,vi 1,vb false]) E ok rfl qbN rfl (qab.own 0 rfl rfl),trivial⟩,⟨rfl,(ir 3),(ir 1)⟩⟩
     refine sg<|fk E ok qdV qam rfl 1 rfl rfl fun a E=>lw E (qax rfl rfl) fun a E=>mv E rfl fun a E=>bw E 56 hF (fun c29 hF E=>?_) fun c29 hF E=>?_
     ·refine lsq E fun a E=>ls E fun a E=>pf E rfl rfl fun a E=>aw E rfl fun a E=>c_if E rfl (fun h=>by cases h) (fun _=>?_)
      refine wp_skip<|qap<|qaa<|sg<|lw E (qaG (ps:=[(0,.const (vi 4))]) (qs:=[(0,[vi 4])]) (cs:=[vi 4,vi 0,vb false]) qbw qbl rfl ⟨rfl,rfl,rfl,trivial⟩ rfl) fun a E=>qaf E ok 0 rfl rfl rfl qcq rfl rfl ⟨rfl,rfl,rfl,trivial⟩ rfl rfl fun w ok=>wn<|wp_ret ?_
      exact fin hF ⟨m0,[vi 4,vi 0,vb false],le_m0,ok.drop.drop,E.d,⟨rv_c (cs:=[vi 4,vi 0,vb false]) E ok rfl qbN rfl (qab.own 0 rfl rfl),trivial⟩,⟨rfl,(ir 4),(ir 0)⟩⟩
     refine fk E ok qfD qam rfl 1 rfl rfl fun a E=>lw E (qaC rfl rfl) fun a E=>pt E rfl rfl fun a E=>aw E rfl fun a E=>cg E rfl hF (fun c30 hF=>?_) fun c30 hF=>?_
     ·refine wp_skip<|qap<|qaa<|sg<|lw E (qaG (ps:=[(0,.const (vi 4))]) (qs:=[(0,[vi 4])]) (cs:=[vi 4,vi 0,vb false]) qbw qbl rfl ⟨rfl,rfl,rfl,trivial⟩ rfl) fun a E=>qaf E ok 0 rfl rfl rfl qcq rfl rfl ⟨rfl,rfl,rfl,trivial⟩ rfl rfl fun w ok=>wn<|wp_ret ?_
      exact fin hF ⟨m0,[vi 4,vi 0,vb false],le_m0,ok.drop.drop,E.d,⟨rv_c (cs:=[vi 4,vi 0,vb false]) E ok rfl qbN rfl (qab.own 0 rfl rfl),trivial⟩,⟨rfl,(ir 4),(ir 0)⟩⟩
     refine sg<|fk E ok qfD qam rfl 1 rfl rfl fun a E=>lw E (qaA rfl rfl (InR.inc r2 (ir 6) c30)) fun a E=>lw E (qaG (ps:=[(0,.const (vi 3)),(1,.tmp 63)]) (qs:=[(0,[vi 3]),(1,[(vi (s_0.count + 1))])]) (cs:=[vi 3,(vi (s_0.count + 1)),vb false]) qbw qbl rfl ⟨rfl,rfl,rfl,⟨rfl,rfl,rfl,trivial⟩⟩ rfl) fun a E=>qaf E ok 0 rfl rfl rfl qcq rfl rfl ⟨rfl,rfl,rfl,trivial⟩ rfl rfl fun w ok=>wn<|wp_ret<|qaI<|qav ?_
     exact fin hF ⟨m0,[vi 3,(vi (s_0.count + 1)),vb false],le_m0,ok.drop.drop,E.d,⟨rv_c (cs:=[vi 3,(vi (s_0.count + 1)),vb false]) E ok rfl qbN rfl (qab.own 0 rfl rfl),trivial⟩,⟨rfl,(ir 3),(InR.inc r2 (ir 6) c30)⟩⟩
   refine fk E ok qfD qam rfl 1 rfl rfl fun a E=>lw E (qaC rfl rfl) fun a E=>pt E rfl rfl fun a E=>aw E rfl fun a E=>cf E rfl hF (fun c24 hF=>?_) fun c24 hF=>?_
   ·refine sg<|fk E ok qfD qam rfl 1 rfl rfl fun a E=>lw E (qaA rfl rfl (InR.inc r2 (ir 15) c24)) fun a E=>lw E (qaG (ps:=[(0,.const (vi 1)),(1,.tmp 45)]) (qs:=[(0,[vi 1]),(1,[(vi (s_0.count + 1))])]) (cs:=[vi 1,(vi (s_0.count + 1)),vb false]) qbw qbl rfl ⟨rfl,rfl,rfl,⟨rfl,rfl,rfl,trivial⟩⟩ rfl) fun a E=>qaf E ok 0 rfl rfl rfl qcq rfl rfl ⟨rfl,rfl,rfl,trivial⟩ rfl rfl fun w ok=>wn<|wp_ret<|qaI<|qav ?_
    exact fin hF ⟨m0,[vi 1,(vi (s_0.count + 1)),vb false],le_m0,ok.drop.drop,E.d,⟨rv_c (cs:=[vi 1,(vi (s_0.count + 1)),vb false]) E ok rfl qbN rfl (qab.own 0 rfl rfl),trivial⟩,⟨rfl,(ir 1),(InR.inc r2 (ir 15) c24)⟩⟩
   refine sg<|fk E ok qdV qam rfl 1 rfl rfl fun a E=>lw E (qax rfl rfl) fun a E=>aw E rfl fun a E=>cf E rfl hF (fun c25 hF=>?_) fun c25 hF=>?_
   ·refine sg<|lw E (qaG (ps:=[(0,.const (vi 3)),(1,.const (vi 1))]) (qs:=[(0,[vi 3]),(1,[vi 1])]) (cs:=[vi 3,vi 1,vb false]) qbw qbl rfl ⟨rfl,rfl,rfl,⟨rfl,rfl,rfl,trivial⟩⟩ rfl) fun a E=>qaf E ok 0 rfl rfl rfl qcq rfl rfl ⟨rfl,rfl,rfl,trivial⟩ rfl rfl fun w ok=>wn<|wp_ret<|qaI<|qav ?_
    exact fin hF ⟨m0,[vi 3,vi 1,vb false],le_m0,ok.drop.drop,E.d,⟨rv_c (cs:=[vi 3,vi 1,vb false]) E ok rfl qbN rfl (qab.own 0 rfl rfl),trivial⟩,⟨rfl,(ir 3),(ir 1)⟩⟩
   refine sg<|fk E ok qdV qam rfl 1 rfl rfl fun a E=>lw E (qax rfl rfl) fun a E=>mv E rfl fun a E=>bw E 56 hF (fun c26 hF E=>?_) fun c26 hF E=>?_
   ·refine lsq E fun a E=>ls E fun a E=>pf E rfl rfl fun a E=>aw E rfl fun a E=>c_if E rfl (fun h=>by cases h) (fun _=>?_)
    refine wp_skip<|qap<|qaa<|sg<|lw E (qaG (ps:=[(0,.const (vi 4))]) (qs:=[(0,[vi 4])]) (cs:=[vi 4,vi 0,vb false]) qbw qbl rfl ⟨rfl,rfl,rfl,trivial⟩ rfl) fun a E=>qaf E ok 0 rfl rfl rfl qcq rfl rfl ⟨rfl,rfl,rfl,trivial⟩ rfl rfl fun w ok=>wn<|wp_ret ?_
    exact fin hF ⟨m0,[vi 4,vi 0,vb false],le_m0,ok.drop.drop,E.d,⟨rv_c (cs:=[vi 4,vi 0,vb false]) E ok rfl qbN rfl (qab.own 0 rfl rfl),trivial⟩,⟨rfl,(ir 4),(ir 0)⟩⟩
   refine fk E ok qfD qam rfl 1 rfl rfl fun a E=>lw E (qaC rfl rfl) fun a E=>pt E rfl rfl fun a E=>aw E rfl fun a E=>cg E rfl hF (fun c27 hF=>?_) fun c27 hF=>?_
   ·refine wp_skip<|qap<|qaa<|sg<|lw E (qaG (ps:=[(0,.const (vi 4))]) (qs:=[(0,[vi 4])]) (cs:=[vi 4,vi 0,vb false]) qbw qbl rfl ⟨rfl,rfl,rfl,trivial⟩ rfl) fun a E=>qaf E ok 0 rfl rfl rfl qcq rfl rfl ⟨rfl,rfl,rfl,trivial⟩ rfl rfl fun w ok=>wn<|wp_ret ?_
    exact fin hF ⟨m0,[vi 4,vi 0,vb false],le_m0,ok.drop.drop,E.d,⟨rv_c (cs:=[vi 4,vi 0,vb false]) E ok rfl qbN rfl (qab.own 0 rfl rfl),trivial⟩,⟨rfl,(ir 4),(ir 0)⟩⟩
   refine sg<|fk E ok qfD qam rfl 1 rfl rfl fun a E=>lw E (qaA rfl rfl (InR.inc r2 (ir 6) c27)) fun a E=>lw E (qaG (ps:=[(0,.const (vi 3)),(1,.tmp 63)]) (qs:=[(0,[vi 3]),(1,[(vi (s_0.count + 1))])]) (cs:=[vi 3,(vi (s_0.count + 1)),vb false]) qbw qbl rfl ⟨rfl,rfl,rfl,⟨rfl,rfl,rfl,trivial⟩⟩ rfl) fun a E=>qaf E ok 0 rfl rfl rfl qcq rfl rfl ⟨rfl,rfl,rfl,trivial⟩ rfl rfl fun w ok=>wn<|wp_ret<|qaI<|qav ?_
   exact fin hF ⟨m0,[vi 3,(vi (s_0.count + 1)),vb false],le_m0,ok.drop.drop,E.d,⟨rv_c (cs:=[vi 3,(vi (s_0.count + 1)),vb false]) E ok rfl qbN rfl (qab.own 0 rfl rfl),trivial⟩,⟨rfl,(ir 3),(InR.inc r2 (ir 6) c27)⟩⟩
 refine fk E ok qdV qam rfl 1 rfl rfl fun a E=>lw E (qax rfl rfl) fun a E=>pt E rfl rfl fun a E=>aw E rfl fun a E=>cf E rfl hF (fun c6 hF=>?_) fun c6 hF=>?_
 ·refine sg<|lw E (qaG (ps:=[(0,.const (vi 2))]) (qs:=[(0,[vi 2])]) (cs:=[vi 2,vi 0,vb false]) qbw qbl rfl ⟨rfl,rfl,rfl,trivial⟩ rfl) fun a E=>qaf E ok 0 rfl rfl rfl qcq rfl rfl ⟨rfl,rfl,rfl,trivial⟩ rfl rfl fun w ok=>wn<|wp_ret<|qaI<|qav ?_
  exact fin hF ⟨m0,[vi 2,vi 0,vb false],le_m0,ok.drop.drop,E.d,⟨rv_c (cs:=[vi 2,vi 0,vb false]) E ok rfl qbN rfl (qab.own 0 rfl rfl),trivial⟩,⟨rfl,(ir 2),(ir 0)⟩⟩
 refine sg<|mv E rfl fun a E=>lw E (qax rfl rfl) fun a E=>mv E rfl fun a E=>bu E 17 hF (fun c7 hF E=>?_) fun c7 hF E=>?_
 ·refine lsq E fun a E=>ls E fun a E=>pt E rfl rfl fun a E=>mv E rfl fun a E=>lsq E fun a E=>pt E rfl rfl fun a E=>aw E rfl fun a E=>c_if E rfl (fun _=>?_) (fun h=>by cases h)
  refine sg<|lw E (qaG (ps:=[(0,.const (vi 4))]) (qs:=[(0,[vi 4])]) (cs:=[vi 4,vi 0,vb false]) qbw qbl rfl ⟨rfl,rfl,rfl,trivial⟩ rfl) fun a E=>qaf E ok 0 rfl rfl rfl qcq rfl rfl ⟨rfl,rfl,rfl,trivial⟩ rfl rfl fun w ok=>wn<|wp_ret<|qaI<|qav ?_
  exact fin hF ⟨m0,[vi 4,vi 0,vb false],le_m0,ok.drop.drop,E.d,⟨rv_c (cs:=[vi 4,vi 0,vb false]) E ok rfl qbN rfl (qab.own 0 rfl rfl),trivial⟩,⟨rfl,(ir 4),(ir 0)⟩⟩
 refine fk E ok qdV qam rfl 1 rfl rfl fun a E=>lw E (qax rfl rfl) fun a E=>pf E rfl rfl fun a E=>mv E rfl fun a E=>bu E 22 hF (fun c8 hF E=>?_) fun c8 hF E=>?_
 ·refine lsq E fun a E=>pt E rfl rfl fun a E=>aw E rfl fun a E=>c_if E rfl (fun _=>?_) (fun h=>by cases h)
  refine sg<|lw E (qaG (ps:=[(0,.const (vi 4))]) (qs:=[(0,[vi 4])]) (cs:=[vi 4,vi 0,vb false]) qbw qbl rfl ⟨rfl,rfl,rfl,trivial⟩ rfl) fun a E=>qaf E ok 0 rfl rfl rfl qcq rfl rfl ⟨rfl,rfl,rfl,trivial⟩ rfl rfl fun w ok=>wn<|wp_ret<|qaI<|qav ?_
  exact fin hF ⟨m0,[vi 4,vi 0,vb false],le_m0,ok.drop.drop,E.d,⟨rv_c (cs:=[vi 4,vi 0,vb false]) E ok rfl qbN rfl (qab.own 0 rfl rfl),trivial⟩,⟨rfl,(ir 4),(ir 0)⟩⟩
 refine fk E ok qpo qdk rfl 1 rfl rfl fun a E=>pf E rfl rfl fun a E=>aw E rfl fun a E=>cf E rfl hF (fun c9 hF=>?_) fun c9 hF=>?_
 ·refine sg<|lw E (qaG (ps:=[(0,.const (vi 4))]) (qs:=[(0,[vi 4])]) (cs:=[vi 4,vi 0,vb false]) qbw qbl rfl ⟨rfl,rfl,rfl,trivial⟩ rfl) fun a E=>qaf E ok 0 rfl rfl rfl qcq rfl rfl ⟨rfl,rfl,rfl,trivial⟩ rfl rfl fun w ok=>wn<|wp_ret<|qaI<|qav ?_
  exact fin hF ⟨m0,[vi 4,vi 0,vb false],le_m0,ok.drop.drop,E.d,⟨rv_c (cs:=[vi 4,vi 0,vb false]) E ok rfl qbN rfl (qab.own 0 rfl rfl),trivial⟩,⟨rfl,(ir 4),(ir 0)⟩⟩
 refine sg<|fk E ok qdV qam rfl 1 rfl rfl fun a E=>lw E (qax rfl rfl) fun a E=>aw E rfl fun a E=>cf E rfl hF (fun c10 hF=>?_) fun c10 hF=>?_
 ·refine sg<|mv E rfl fun a E=>lw E (qax rfl rfl) fun a E=>lw E (qaG (ps:=[(0,.const (vi 1)),(1,.const (vi 1)),(2,.tmp 32)]) (qs:=[(0,[vi 1]),(1,[vi 1]),(2,[(vb (symbol_1 == 0))])]) (cs:=[vi 1,vi 1,(vb (symbol_1 == 0))]) qbw qbl rfl ⟨rfl,rfl,rfl,⟨rfl,rfl,rfl,⟨rfl,rfl,rfl,trivial⟩⟩⟩ rfl) fun a E=>qaf E ok 0 rfl rfl rfl qcq rfl rfl ⟨rfl,rfl,rfl,trivial⟩ rfl rfl fun w ok=>wn<|wp_ret<|qaI<|qav ?_
  exact fin hF ⟨m0,[vi 1,vi 1,(vb (symbol_1 == 0))],le_m0,ok.drop.drop,E.d,⟨rv_c (cs:=[vi 1,vi 1,(vb (symbol_1 == 0))]) E ok rfl qbN rfl (qab.own 0 rfl rfl),trivial⟩,⟨rfl,(ir 1),(ir 1)⟩⟩
 refine sg<|fk E ok qdV qam rfl 1 rfl rfl fun a E=>lw E (qax rfl rfl) fun a E=>mv E rfl fun a E=>bw E 38 hF (fun c11 hF E=>?_) fun c11 hF E=>?_
 ·as_aux_lemma =>
   refine lsq E fun a E=>ls E fun a E=>pf E rfl rfl fun a E=>aw E rfl fun a E=>c_if E rfl (fun h=>by cases h) (fun _=>?_)
   refine sg<|fk E ok qdV qam rfl 1 rfl rfl fun a E=>lw E (qax rfl rfl) fun a E=>aw E rfl fun a E=>cf E rfl hF (fun c16 hF=>?_) fun c16 hF=>?_
   ·refine sg<|lw E (qaG (ps:=[(0,.const (vi 3)),(1,.const (vi 1))]) (qs:=[(0,[vi 3]),(1,[vi 1])]) (cs:=[vi 3,vi 1,vb false]) qbw qbl rfl ⟨rfl,rfl,rfl,⟨rfl,rfl,rfl,trivial⟩⟩ rfl) fun a E=>qaf E ok 0 rfl rfl rfl qcq rfl rfl ⟨rfl,rfl,rfl,trivial⟩ rfl rfl fun w ok=>wn<|wp_ret<|qaI<|qav ?_
    exact fin hF ⟨m0,[vi 3,vi 1,vb false],le_m0,ok.drop.drop,E.d,⟨rv_c (cs:=[vi 3,vi 1,vb false]) E ok rfl qbN rfl (qab.own 0 rfl rfl),trivial⟩,⟨rfl,(ir 3),(ir 1)⟩⟩
   refine sg<|fk E ok qdV qam rfl 1 rfl rfl fun a E=>lw E (qax rfl rfl) fun a E=>mv E rfl fun a E=>bw E 56 hF (fun c17 hF E=>?_) fun c17 hF E=>?_
   ·refine lsq E fun a E=>ls E fun a E=>pf E rfl rfl fun a E=>aw E rfl fun a E=>c_if E rfl (fun h=>by cases h) (fun _=>?_)
    refine wp_skip<|qap<|qaa<|sg<|lw E (qaG (ps:=[(0,.const (vi 4))]) (qs:=[(0,[vi 4])]) (cs:=[vi 4,vi 0,vb false]) qbw qbl rfl ⟨rfl,rfl,rfl,trivial⟩ rfl) fun a E=>qaf E ok 0 rfl rfl rfl qcq rfl rfl ⟨rfl,rfl,rfl,trivial⟩ rfl rfl fun w ok=>wn<|wp_ret ?_
    exact fin hF ⟨m0,[vi 4,vi 0,vb false],le_m0,ok.drop.drop,E.d,⟨rv_c (cs:=[vi 4,vi 0,vb false]) E ok rfl qbN rfl (qab.own 0 rfl rfl),trivial⟩,⟨rfl,(ir 4),(ir 0)⟩⟩
   refine fk E ok qfD qam rfl 1 rfl rfl fun a E=>lw E (qaC rfl rfl) fun a E=>pt E rfl rfl fun a E=>aw E rfl fun a E=>cg E rfl hF (fun c18 hF=>?_) fun c18 hF=>?_
   ·refine wp_skip<|qap<|qaa<|sg<|lw E (qaG (ps:=[(0,.const (vi 4))]) (qs:=[(0,[vi 4])]) (cs:=[vi 4,vi 0,vb false]) qbw qbl rfl ⟨rfl,rfl,rfl,trivial⟩ rfl) fun a E=>qaf E ok 0 rfl rfl rfl qcq rfl rfl ⟨rfl,rfl,rfl,trivial⟩ rfl rfl fun w ok=>wn<|wp_ret ?_
    exact fin hF ⟨m0,[vi 4,vi 0,vb false],le_m0,ok.drop.drop,E.d,⟨rv_c (cs:=[vi 4,vi 0,vb false]) E ok rfl qbN rfl (qab.own 0 rfl rfl),trivial⟩,⟨rfl,(ir 4),(ir 0)⟩⟩
   refine sg<|fk E ok qfD qam rfl 1 rfl rfl fun a E=>lw E (qaA rfl rfl (InR.inc r2 (ir 6) c18)) fun a E=>lw E (qaG (ps:=[(0,.const (vi 3)),(1,.tmp 63)]) (qs:=[(0,[vi 3]),(1,[(vi (s_0.count + 1))])]) (cs:=[vi 3,(vi (s_0.count + 1)),vb false]) qbw qbl rfl ⟨rfl,rfl,rfl,⟨rfl,rfl,rfl,trivial⟩⟩ rfl) fun a E=>qaf E ok 0 rfl rfl rfl qcq rfl rfl ⟨rfl,rfl,rfl,trivial⟩ rfl rfl fun w ok=>wn<|wp_ret<|qaI<|qav ?_
   exact fin hF ⟨m0,[vi 3,(vi (s_0.count + 1)),vb false],le_m0,ok.drop.drop,E.d,⟨rv_c (cs:=[vi 3,(vi (s_0.count + 1)),vb false]) E ok rfl qbN rfl (qab.own 0 rfl rfl),trivial⟩,⟨rfl,(ir 3),(InR.inc r2 (ir 6) c18)⟩⟩
 refine fk E ok qfD qam rfl 1 rfl rfl fun a E=>lw E (qaC rfl rfl) fun a E=>pt E rfl rfl fun a E=>aw E rfl fun a E=>cf E rfl hF (fun c12 hF=>?_) fun c12 hF=>?_
 ·refine sg<|fk E ok qfD qam rfl 1 rfl rfl fun a E=>lw E (qaA rfl rfl (InR.inc r2 (ir 15) c12)) fun a E=>lw E (qaG (ps:=[(0,.const (vi 1)),(1,.tmp 45)]) (qs:=[(0,[vi 1]),(1,[(vi (s_0.count + 1))])]) (cs:=[vi 1,(vi (s_0.count + 1)),vb false]) qbw qbl rfl ⟨rfl,rfl,rfl,⟨rfl,rfl,rfl,trivial⟩⟩ rfl) fun a E=>qaf E ok 0 rfl rfl rfl qcq rfl rfl ⟨rfl,rfl,rfl,trivial⟩ rfl rfl fun w ok=>wn<|wp_ret<|qaI<|qav ?_
  exact fin hF ⟨m0,[vi 1,(vi (s_0.count + 1)),vb false],le_m0,ok.drop.drop,E.d,⟨rv_c (cs:=[vi 1,(vi (s_0.count + 1)),vb false]) E ok rfl qbN rfl (qab.own 0 rfl rfl),trivial⟩,⟨rfl,(ir 1),(InR.inc r2 (ir 15) c12)⟩⟩
 refine sg<|fk E ok qdV qam rfl 1 rfl rfl fun a E=>lw E (qax rfl rfl) fun a E=>aw E rfl fun a E=>cf E rfl hF (fun c13 hF=>?_) fun c13 hF=>?_
 ·refine sg<|lw E (qaG (ps:=[(0,.const (vi 3)),(1,.const (vi 1))]) (qs:=[(0,[vi 3]),(1,[vi 1])]) (cs:=[vi 3,vi 1,vb false]) qbw qbl rfl ⟨rfl,rfl,rfl,⟨rfl,rfl,rfl,trivial⟩⟩ rfl) fun a E=>qaf E ok 0 rfl rfl rfl qcq rfl rfl ⟨rfl,rfl,rfl,trivial⟩ rfl rfl fun w ok=>wn<|wp_ret<|qaI<|qav ?_
  exact fin hF ⟨m0,[vi 3,vi 1,vb false],le_m0,ok.drop.drop,E.d,⟨rv_c (cs:=[vi 3,vi 1,vb false]) E ok rfl qbN rfl (qab.own 0 rfl rfl),trivial⟩,⟨rfl,(ir 3),(ir 1)⟩⟩
 refine sg<|fk E ok qdV qam rfl 1 rfl rfl fun a E=>lw E (qax rfl rfl) fun a E=>mv E rfl fun a E=>bw E 56 hF (fun c14 hF E=>?_) fun c14 hF E=>?_
 ·refine lsq E fun a E=>ls E fun a E=>pf E rfl rfl fun a E=>aw E rfl fun a E=>c_if E rfl (fun h=>by cases h) (fun _=>?_)
  refine wp_skip<|qap<|qaa<|sg<|lw E (qaG (ps:=[(0,.const (vi 4))]) (qs:=[(0,[vi 4])]) (cs:=[vi 4,vi 0,vb false]) qbw qbl rfl ⟨rfl,rfl,rfl,trivial⟩ rfl) fun a E=>qaf E ok 0 rfl rfl rfl qcq rfl rfl ⟨rfl,rfl,rfl,trivial⟩ rfl rfl fun w ok=>wn<|wp_ret ?_
  exact fin hF ⟨m0,[vi 4,vi 0,vb false],le_m0,ok.drop.drop,E.d,⟨rv_c (cs:=[vi 4,vi 0,vb false]) E ok rfl qbN rfl (qab.own 0 rfl rfl),trivial⟩,⟨rfl,(ir 4),(ir 0)⟩⟩
 refine fk E ok qfD qam rfl 1 rfl rfl fun a E=>lw E (qaC rfl rfl) fun a E=>pt E rfl rfl fun a E=>aw E rfl fun a E=>cg E rfl hF (fun c15 hF=>?_) fun c15 hF=>?_
 ·refine wp_skip<|qap<|qaa<|sg<|lw E (qaG (ps:=[(0,.const (vi 4))]) (qs:=[(0,[vi 4])]) (cs:=[vi 4,vi 0,vb false]) qbw qbl rfl ⟨rfl,rfl,rfl,trivial⟩ rfl) fun a E=>qaf E ok 0 rfl rfl rfl qcq rfl rfl ⟨rfl,rfl,rfl,trivial⟩ rfl rfl fun w ok=>wn<|wp_ret ?_
  exact fin hF ⟨m0,[vi 4,vi 0,vb false],le_m0,ok.drop.drop,E.d,⟨rv_c (cs:=[vi 4,vi 0,vb false]) E ok rfl qbN rfl (qab.own 0 rfl rfl),trivial⟩,⟨rfl,(ir 4),(ir 0)⟩⟩
 refine sg<|fk E ok qfD qam rfl 1 rfl rfl fun a E=>lw E (qaA rfl rfl (InR.inc r2 (ir 6) c15)) fun a E=>lw E (qaG (ps:=[(0,.const (vi 3)),(1,.tmp 63)]) (qs:=[(0,[vi 3]),(1,[(vi (s_0.count + 1))])]) (cs:=[vi 3,(vi (s_0.count + 1)),vb false]) qbw qbl rfl ⟨rfl,rfl,rfl,⟨rfl,rfl,rfl,trivial⟩⟩ rfl) fun a E=>qaf E ok 0 rfl rfl rfl qcq rfl rfl ⟨rfl,rfl,rfl,trivial⟩ rfl rfl fun w ok=>wn<|wp_ret<|qaI<|qav ?_
 exact fin hF ⟨m0,[vi 3,(vi (s_0.count + 1)),vb false],le_m0,ok.drop.drop,E.d,⟨rv_c (cs:=[vi 3,(vi (s_0.count + 1)),vb false]) E ok rfl qbN rfl (qab.own 0 rfl rfl),trivial⟩,⟨rfl,(ir 3),(InR.inc r2 (ir 6) c15)⟩⟩
def qkV (u:World) (m0:Mem) (S:Segs) (r:Bool) (a:Act) (w:World):Prop :=
 Ok u m0 S w ∧ a.defers = [] ∧ RVs Tryd.prog a w [.t 2 (.bool r)]
theorem qk3 (N:Nat) (vs_0:List Value) (s_0:DigitsRead) (hs_0:qb5 m0 vs_0 s_0) {r:Bool} (hF:qdS N s_0 = some r) (ok:Ok u m0 S w) :
  Calls Tryd.prog 33 [.agg vs_0.toArray].toArray w fun e w'=>(e = .returned (.bool r) ∧ Ok u m0 S w'):=by
 obtain ⟨rfl,r1,r2⟩:=hs_0
 unfold qdS at hF
 refine en (qkV u m0 S) r Tryd.func33 rfl rfl rfl (fun _ _ h=>ra h rfl) fun fin a E=>sg<|qbQ E ok rfl rfl rfl fun b3 a w E ok=>aw E rfl fun a E=>sg<|fk E ok qdV qam rfl 0 rfl rfl fun a E=>lw E (qax rfl rfl) fun a E=>mv E rfl fun a E=>bu E 6 hF (fun c4 hF E=>?_) fun c4 hF E=>?_
 ·refine lsq E fun a E=>ls E fun a E=>pt E rfl rfl fun a E=>aw E rfl fun a E=>wp_ret ?_
  exact fin hF ⟨ok.drop,E.d,rz E rfl⟩
 refine fk E ok qdV qam rfl 0 rfl rfl fun a E=>lw E (qax rfl rfl) fun a E=>pf E rfl rfl fun a E=>aw E rfl fun a E=>wp_ret ?_
 exact fin hF ⟨ok.drop,E.d,rz E rfl⟩
def qf1 (u:World) (m0:Mem) (S:Segs) (r:Table) (a:Act) (w:World):Prop :=
 ∃ m1 v0,m0.le m1 ∧ Ok u m1 S w ∧ a.defers = [] ∧ RVs Tryd.prog a w [.c 6 58 (.agg v0.toArray)] ∧ qg4 m1 v0 r
theorem qf5 (N:Nat) (vstart_0:List Value) (start_0:DigitsRead) (hstart_0:qb5 m0 vstart_0 start_0) {r:Table} (hF:qbq N start_0 = some r) (ok:Ok u m0 S w) :
  Calls Tryd.prog 31 [.agg vstart_0.toArray,.func (.func 32) #[] #[],.func (.func 33) #[] #[]].toArray w fun e w'=>∃ m1 v0,e = .returned (.agg v0.toArray) ∧ m0.le m1 ∧ Ok u m1 S w' ∧ qg4 m1 v0 r:=by
 obtain ⟨rfl,r1,r2⟩:=hstart_0
 have le_m0:=Mem.le.refl m0
 unfold qbq at hF
 refine en (qf1 u m0 S) r Tryd.func31 rfl rfl rfl (by rintro a w ⟨m1,v0,hle,ok,hd,hrv,h0⟩; exact qbC [.c 6 58 (.agg v0.toArray)] hd rfl hrv ⟨m1,v0,rfl,hle,ok,h0⟩) fun fin a E=>sg<|qbQ E ok rfl rfl rfl fun b3 a w E ok=>qaw E ok qhv rfl rfl fun b4 a w E ok=>wn<|sg<|qgF (aggK qb5) (oneV (pI .i64)) E ok rfl rfl fun c5 M6 a w E ok h7=>lv E ok (qaj (cs:=[vi start_0.phase,vi start_0.count,vb start_0.zero]) qbN rfl rfl (qab.own 2 rfl rfl)) fun a E=>bd hF fun l8 e9 hF=>qgA (.inr rfl) E ok 0 qne Tryd.underlying103 h7 rfl rfl rfl rfl ⟨m0,_,rfl,⟨rfl,r1,r2⟩⟩ (qaW (ir 0)) e9 rfl fun M10 w ok h11=>mv E rfl fun a E=>aw E rfl fun a E=>sg<|lv E ok (qaj (cs:=[vi start_0.phase,vi start_0.count,vb start_0.zero]) qbN rfl rfl (qab.own 2 rfl rfl)) fun a E=>qbH (R:=qb5) (xo:=[.tmp 19]) (xs:=([start_0]:List (DigitsRead))) E ok qiU qbw rfl ⟨⟨_,rfl,rfl,⟨rfl,r1,r2⟩⟩,trivial⟩ rfl rfl rfl rfl fun c12 M13 a w E ok h14=>aw E rfl fun a E=>sg<|qaw E ok qhv rfl rfl fun b15 a w E ok=>wn<|wp_seq<|sg<|aw E rfl fun a E=>wp_block ?_
 obtain ⟨M33,ok,h34⟩:=qd1 (e:=90) (k:=11) (R:=qbs) ok
 obtain ⟨M35,ok,h36⟩:=qd1 (e:=4) (k:=1) (R:=pB) ok
 refine bd hF fun o37 hL hF=>qaH _ (fun (s:(List (DigitsRead)) × Int × Table × (List (DigitsRead × Int))) a w=>∃ m38 c39 M40 c43 M44 c46 M47 c49 M50,m0.le m38 ∧ Ok u m38 (M47 :: M44 :: [(b15,oc 58 [c43,c46])] :: M40 :: M50 :: [(b4,oc 58 [(Value.slice none 0 0),(Value.slice none 0 0)])] :: [(b3,oc 76 [vi start_0.phase,vi start_0.count,vb start_0.zero])] :: S) w ∧ Env 76 a [(1,(Value.func (.func 32) #[] #[])),(2,(Value.func (.func 33) #[] #[])),(6,vp b4),(7,c49),(8,c39),(9,vp b15),(10,vi s.2.1)] ∧ ORow 76 3 qb5 m38 c39 s.1 M40 ∧ InR .i64 s.2.1 ∧ ORow 90 11 qbs m38 c43 s.2.2.1.next M44 ∧ ORow 4 1 pB m38 c46 s.2.2.1.accept M47 ∧ OMap (aggK qb5) (oneV (pI .i64)) m38 c49 s.2.2.2 M50) (fun (b:Table) e a w=>e = (.exit 0) ∧ ∃ m294 c295 M296 c298 M299,m0.le m294 ∧ Ok u m294 (M299 :: M296 :: [(b15,oc 58 [c295,c298])] :: [(b4,oc 58 [(Value.slice none 0 0),(Value.slice none 0 0)])] :: [(b3,oc 76 [vi start_0.phase,vi start_0.count,vb start_0.zero])] :: S) w ∧ Env 76 a [(6,vp b4),(9,vp b15)] ∧ ORow 90 11 qbs m294 c295 b.next M296 ∧ ORow 4 1 pB m294 c298 b.accept M299) ?_ ?_ N _ a w hL ⟨m0,c12,M13,(Value.slice none 0 0),M33,(Value.slice none 0 0),M35,c5,M10,Mem.le.refl _,ok,E.keep [1,2,6,7,8,9,10],h14,(ir 0),h34,h36,h11⟩
 rotate_left
 ·intro e a w _ hO
  obtain ⟨rfl,m283,c284,M285,c287,M288,hle,ok,E,h286,h289⟩:=hO
  have le_m0:=le_m0.trans hle
  refine qaN<|qaa<|sg<|lv E ok (qaj (cs:=[c284,c287]) qh7 rfl rfl (qab.own 2 rfl rfl)) fun a E=>qaf E ok 3 rfl rfl rfl qle rfl rfl ⟨(ORow.one h286),(ORow.one h289),trivial⟩ rfl rfl fun w ok=>wn<|wp_ret ?_
  obtain ⟨m290,hle,ok,hfz⟩:=(ok.frs 1 rfl).freeze
  have h291:=ORow.froz qba h286 hle hfz (by decide)
  have le_m0:=le_m0.trans hle
  have h289:=ORow.up mB hle h289
  obtain ⟨m292,hle,ok,hfz⟩:=(ok.frs 0 rfl).freeze
  have h293:=ORow.froz mB h289 hle hfz (by decide)
  have le_m0:=le_m0.trans hle
  have h291:=(mL qba).up hle h291
  exact fin hF ⟨m292,[c284,c287],le_m0,ok.drop.drop.drop,E.d,⟨rv_c (cs:=[c284,c287]) E ok rfl qh7 rfl (qab.own 1 rfl rfl),trivial⟩,⟨_,_,rfl,h291,h293⟩⟩
 rintro ⟨v52,v53,v54,v55⟩ a w r ⟨m56,c57,M58,c61,M62,c64,M65,c67,M68,hle,ok,E,h59,r60,h63,h66,h69⟩ hF
 replace hF:qa4 N v52 v53 v54 v55 = some r:=hF
 unfold qa4 at hF
 have le_m0:=le_m0.trans hle
 refine wp_seq<|sg<|mz E rfl rfl fun a E=>lv E ok (qcz qiU h59 rfl) fun a E=>lw E (qaC rfl rfl) fun a E=>wn<|cg E rfl hF (fun c70 hF=>?_) fun c70 hF=>?_
 ·refine wp_exit<|qaE ?_
  cases hF
  exact so (⟨rfl,⟨m56,c61,M62,c64,M65,le_m0,(ok.pk 7 [0,1,2,5,6] rfl (by decide)),E.keep [6,9],h63,h66⟩⟩)
 refine wp_skip<|qaa<|wp_seq<|wp_block<|sg<|qaw E ok qfT rfl rfl fun b71 a w E ok=>wn<|wp_seq<|sg<|mv E rfl fun a E=>wn<|wp_block<|bd hF fun o94 hL hF=>qaH _ (fun (s:(List (DigitsRead)) × Int × Arr11_Int × (List (DigitsRead × Int))) a w=>∃ m95 c96 M97 c111 M112,m56.le m95 ∧ Ok u m95 ([(b71,oc 90 [vi s.2.2.1.e0,vi s.2.2.1.e1,vi s.2.2.1.e2,vi s.2.2.1.e3,vi s.2.2.1.e4,vi s.2.2.1.e5,vi s.2.2.1.e6,vi s.2.2.1.e7,vi s.2.2.1.e8,vi s.2.2.1.e9,vi s.2.2.1.e10])] :: M65 :: M62 :: [(b15,oc 58 [c61,c64])] :: M97 :: M112 :: [(b4,oc 58 [(Value.slice none 0 0),(Value.slice none 0 0)])] :: [(b3,oc 76 [vi start_0.phase,vi start_0.count,vb start_0.zero])] :: S) w ∧ Env 76 a [(1,(Value.func (.func 32) #[] #[])),(2,(Value.func (.func 33) #[] #[])),(6,vp b4),(7,c111),(8,c96),(9,vp b15),(10,vi v53),(11,vp b71),(27,vi s.2.1)] ∧ ORow 76 3 qb5 m95 c96 s.1 M97 ∧ InR .i64 s.2.1 ∧ InR .i64 s.2.2.1.e0 ∧ InR .i64 s.2.2.1.e1 ∧ InR .i64 s.2.2.1.e2 ∧ InR .i64 s.2.2.1.e3 ∧ InR .i64 s.2.2.1.e4 ∧ InR .i64 s.2.2.1.e5 ∧ InR .i64 s.2.2.1.e6 ∧ InR .i64 s.2.2.1.e7 ∧ InR .i64 s.2.2.1.e8 ∧ InR .i64 s.2.2.1.e9 ∧ InR .i64 s.2.2.1.e10 ∧ OMap (aggK qb5) (oneV (pI .i64)) m95 c111 s.2.2.2 M112) (fun (b:(Arr11_Int × (List (DigitsRead × Int)) × (List (DigitsRead)))) e a w=>e = (.exit 2) ∧ ∃ m265 c277 M278 c280 M281,m56.le m265 ∧ Ok u m265 ([(b71,oc 90 [vi b.1.e0,vi b.1.e1,vi b.1.e2,vi b.1.e3,vi b.1.e4,vi b.1.e5,vi b.1.e6,vi b.1.e7,vi b.1.e8,vi b.1.e9,vi b.1.e10])] :: M65 :: M62 :: [(b15,oc 58 [c61,c64])] :: M281 :: M278 :: [(b4,oc 58 [(Value.slice none 0 0),(Value.slice none 0 0)])] :: [(b3,oc 76 [vi start_0.phase,vi start_0.count,vb start_0.zero])] :: S) w ∧ Env 76 a [(1,(Value.func (.func 32) #[] #[])),(2,(Value.func (.func 33) #[] #[])),(6,vp b4),(7,c277),(8,c280),(9,vp b15),(10,vi v53),(11,vp b71)] ∧ InR .i64 b.1.e0 ∧ InR .i64 b.1.e1 ∧ InR .i64 b.1.e2 ∧ InR .i64 b.1.e3 ∧ InR .i64 b.1.e4 ∧ InR .i64 b.1.e5 ∧ InR .i64 b.1.e6 ∧ InR .i64 b.1.e7 ∧ InR .i64 b.1.e8 ∧ InR .i64 b.1.e9 ∧ InR .i64 b.1.e10 ∧ OMap (aggK qb5) (oneV (pI .i64)) m265 c277 b.2.1 M278 ∧ ORow 76 3 qb5 m265 c280 b.2.2 M281) ?_ ?_ N _ a w hL ⟨m56,c57,M58,c67,M68,Mem.le.refl _,ok,E.keep [1,2,6,7,8,9,10,11,27],h59,(ir 0),(ir 0),(ir 0),(ir 0),(ir 0),(ir 0),(ir 0),(ir 0),(ir 0),(ir 0),(ir 0),(ir 0),h69⟩
 rotate_left
 ·as_aux_lemma =>
   intro e a w _ hO
   obtain ⟨rfl,m188,c200,M201,c203,M204,hle,ok,E,r189,r190,r191,r192,r193,r194,r195,r196,r197,r198,r199,h202,h205⟩:=hO
   have le_m0:=le_m0.trans hle
   have h63:=ORow.up qba hle h63
   have h66:=ORow.up mB hle h66
   refine qaN<|qaa<|sg<|fk E ok qfU qh5 rfl 3 rfl rfl fun a E=>lv E ok (qaj (cs:=[vi o94.1.e0,vi o94.1.e1,vi o94.1.e2,vi o94.1.e3,vi o94.1.e4,vi o94.1.e5,vi o94.1.e6,vi o94.1.e7,vi o94.1.e8,vi o94.1.e9,vi o94.1.e10]) qjZ rfl rfl (qab.own 0 rfl rfl)) fun a E=>qbH (R:=qbs) (xo:=[.tmp 60]) (xs:=([o94.1]:List (Arr11_Int))) E ok qgN qfT rfl ⟨⟨_,rfl,rfl,⟨rfl,r189,r190,r191,r192,r193,r194,r195,r196,r197,r198,r199⟩⟩,trivial⟩ rfl rfl rfl rfl fun c206 M207 a w E ok h208=>bd hF fun l209 e210 hF=>qdn (R:=qbs) E ok 3 qba qgN Tryd.underlying56 rfl h63 (qbP.ofRow h208 0 rfl ok) e210 ⟨_,qfT,rfl⟩ rfl rfl rfl rfl fun c211 M212 a w E ok h213=>fv E qfU rfl fun a E=>qaf E ok 4 rfl rfl rfl qoA (ORow.cells h213) rfl ⟨(ORow.one h213),trivial⟩ rfl rfl fun w ok=>wn<|bd hF fun o214 hJ hF=>qaO (Q':=fun e a w=>e = .normal ∧ ∃ c215 M216 c218 M219,Ok u m188 (M207 :: [(b71,oc 90 [vi o94.1.e0,vi o94.1.e1,vi o94.1.e2,vi o94.1.e3,vi o94.1.e4,vi o94.1.e5,vi o94.1.e6,vi o94.1.e7,vi o94.1.e8,vi o94.1.e9,vi o94.1.e10])] :: M219 :: M216 :: [(b15,oc 58 [c215,c218])] :: M204 :: M201 :: [(b4,oc 58 [(Value.slice none 0 0),(Value.slice none 0 0)])] :: [(b3,oc 76 [vi start_0.phase,vi start_0.count,vb start_0.zero])] :: S) w ∧ Env 76 a [(1,(Value.func (.func 32) #[] #[])),(2,(Value.func (.func 33) #[] #[])),(6,vp b4),(7,c200),(8,c203),(9,vp b15),(10,vi v53)] ∧ ORow 90 11 qbs m188 c215 o214.next M216 ∧ ORow 4 1 pB m188 c218 o214.accept M219) ?_ ?_
   rotate_left
   ·intro e a w hO
    obtain ⟨rfl,c259,M260,c262,M263,ok,E,h261,h264⟩:=hO
    refine qap<|qaa<|qac<|mv E rfl fun a E=>lw E (qaA rfl rfl (InR.inc r60 (ORow.InR h59) c70)) fun a E=>av E rfl fun a E=>wpList_nil ?_
    cases hF
    exact qau ⟨m188,c203,M204,c259,M260,c262,M263,c200,M201,le_m0,(ok.pk 9 [2,3,4,5,6,7,8] rfl (by decide)),E.keep [1,2,6,7,8,9,10],h205,(InR.inc r60 (ORow.InR h59) c70),h261,h264,h202⟩
   have hF:=hJ
   obtain ⟨x221,e222,hF⟩:=bnd hF
   obtain ⟨r233,e234,hF⟩:=bnd hF
   obtain ⟨l238,e239,hF⟩:=bnd hF
   obtain rfl:=sj hF
   refine qaX [1,6] (Cls u m188 (M207 :: [(b71,oc 90 [vi o94.1.e0,vi o94.1.e1,vi o94.1.e2,vi o94.1.e3,vi o94.1.e4,vi o94.1.e5,vi o94.1.e6,vi o94.1.e7,vi o94.1.e8,vi o94.1.e9,vi o94.1.e10])] :: M212 :: [(b15,oc 58 [c211,c64])] :: M204 :: M201 :: [(b4,oc 58 [(Value.slice none 0 0),(Value.slice none 0 0)])] :: [(b3,oc 76 [vi start_0.phase,vi start_0.count,vb start_0.zero])] :: [])) (Cls u m188 (M207 :: [(b71,oc 90 [vi o94.1.e0,vi o94.1.e1,vi o94.1.e2,vi o94.1.e3,vi o94.1.e4,vi o94.1.e5,vi o94.1.e6,vi o94.1.e7,vi o94.1.e8,vi o94.1.e9,vi o94.1.e10])] :: M212 :: M204 :: M201 :: [(b4,oc 58 [(Value.slice none 0 0),(Value.slice none 0 0)])] :: [(b3,oc 76 [vi start_0.phase,vi start_0.count,vb start_0.zero])] :: [])) (by kernel_rfl) ?_
   intro w hw
   replace ok:=qa3 ok hw
   clear hw
   have le_m188:=Mem.le.refl m188
   refine qag (cl1 (cq le_m188 ok [0,1,3,4,5,6,7,8] rfl) (cq le_m188 ok [0,1,3,5,6,7,8] rfl)) fun hT=>kt 0 E rfl hT (qae qgS rfl) fun a E=>qaU 1 E rfl (by kernel_rfl) nP hT (qai qdK rfl (qab.cown 3 rfl rfl)) rfl rfl fun a E=>kt 2 E rfl hT (qah rfl) fun a E=>kt 3 E rfl hT (qah rfl) fun a E=>kt 4 E rfl hT (qah rfl) fun a E=>?_
   obtain ⟨b243,o244,hp245,yy246⟩:=qbf qiU h205 e222 (P:=Tryd.prog) (X:=.tmp 67) (I:=.tmp 68) (kd:=.i64) (qay E rfl) (qay E rfl)
   refine kt 5 E rfl hT (yy246 _ _) fun a E=>?_
   obtain ⟨es247,hl248,rr249,hh250⟩:=qbT h205 e222 hp245 (by decide)
   obtain ⟨rfl,r251,r252⟩:=rr249
   refine qaU 6 E rfl (by kernel_rfl) nP hT (qaj (cs:=[vi x221.phase,vi x221.count,vb x221.zero]) qbN rfl rfl (qab.crow hh250 4 rfl)) rfl rfl fun a E=>qar [7] (by kernel_rfl) rfl (qas ?_)
   ·refine wo rfl<|qiE E rfl qud rfl (qk3 N _ x221 ⟨rfl,r251,r252⟩ e234 ok) rfl rfl ?_
    rintro _ w ⟨rfl,ok⟩
    refine ⟨_,rfl,fun a E=>?_⟩
    refine wn<|qag (cl1 (cq le_m188 ok [0,1,3,4,5,6,7,8] rfl) (cq le_m188 ok [0,1,3,5,6,7,8] rfl)) fun hT=>qar [8] (by kernel_rfl) rfl (qas ?_)
    ·refine wo rfl<|qbH (R:=pB) (xo:=[.tmp 71]) (xs:=([r233]:List (Bool))) E ok qbD qd0 rfl ⟨⟨_,rfl,rfl,qeo⟩,trivial⟩ rfl rfl rfl rfl fun c253 M254 a w E ok h255=>wn<|qag (cl1 (cq le_m188 ok [1,2,4,5,6,7,8,9] rfl) (cq le_m188 ok [1,2,4,6,7,8,9] rfl)) fun hT=>qar [9] (by kernel_rfl) rfl (qas ?_)
     ·refine wo rfl<|qdn (R:=pB) E ok 3 mB qbD Tryd.underlying31 rfl h66 (qbP.ofRow h255 0 rfl ok) e239 ⟨_,qd0,rfl⟩ rfl rfl rfl rfl fun c256 M257 a w E ok h258=>wn<|qag (cl1 (cq le_m188 ok [1,2,4,5,6,7,8,9] rfl) (cq le_m188 ok [1,2,4,6,7,8,9] rfl)) fun hT=>kt 10 E rfl hT (qae qgS rfl) fun a E=>qar [11] (by kernel_rfl) rfl (qas ?_)
      ·refine wo rfl<|qaf E ok 5 rfl rfl rfl qmq (ORow.cells h258) rfl ⟨(ORow.one h258),trivial⟩ rfl rfl fun w ok=>wn<|qag (cl2 (by kernel_rfl) (cq le_m188 ok [1,2,4,6,7,8,9] rfl)) fun hT=>qaM (by kernel_rfl) ?_
       exact ⟨rfl,⟨c211,M212,c256,M257,(ok.pk 10 [1,2,3,4,5,6,7,8,9] rfl (by decide)),E.keep [1,2,6,7,8,9,10],h213,h258⟩⟩
 rintro ⟨v114,v115,v116,v117⟩ a w r ⟨m118,c119,M120,c134,M135,hle,ok,E,h121,r122,r123,r124,r125,r126,r127,r128,r129,r130,r131,r132,r133,h136⟩ hF
 replace hF:qaY N v53 v114 v115 v116 v117 = some r:=hF
 unfold qaY at hF
 have le_m56:=Mem.le.refl m56
 have le_m0:=le_m0.trans hle
 have le_m56:=le_m56.trans hle
 have h63:=ORow.up qba hle h63
 have h66:=ORow.up mB hle h66
 refine sg<|lw E (qaC rfl rfl) fun a E=>wn<|wp_seq<|cg E rfl hF (fun c137 hF=>?_) fun c137 hF=>?_
 ·refine wp_exit<|qaE ?_
  cases hF
  exact so (⟨rfl,⟨m118,c134,M135,c119,M120,le_m56,ok,E.keep [1,2,6,7,8,9,10,11],r123,r124,r125,r126,r127,r128,r129,r130,r131,r132,r133,h136,h121⟩⟩)
 refine wp_skip<|qaa<|wp_seq<|wp_block<|sg<|mv E rfl fun a E=>av E rfl fun a E=>wn<|sg<|mz E rfl rfl fun a E=>mv E rfl fun a E=>?_
 obtain ⟨x138,e139,hF⟩:=bnd hF
 obtain ⟨b140,o141,hp142,yy143⟩:=qbf qiU h121 e139 (P:=Tryd.prog) (X:=.tmp 31) (I:=.tmp 32) (kd:=.i64) (qay E rfl) (qay E rfl)
 refine lv E ok (yy143 _ _) fun a E=>?_
 obtain ⟨es144,hl145,rr146,hh147⟩:=qbT h121 e139 hp142 (by decide)
 obtain ⟨rfl,r148,r149⟩:=rr146
 refine lv E ok (qaj (cs:=[vi x138.phase,vi x138.count,vb x138.zero]) qbN rfl rfl (hh147 _ _ _ 4 rfl)) fun a E=>mv E rfl fun a E=>bd hF fun r150 e151 hF=>qiE E rfl qur rfl (qiV N _ x138 ⟨rfl,r148,r149⟩ v115 r122 e151 ok) rfl rfl ?_
 rintro _ w ⟨m152,vs153,rfl,hle,ok,h154⟩
 have le_m0:=le_m0.trans hle
 have le_m56:=le_m56.trans hle
 have h63:=ORow.up qba hle h63
 have h66:=ORow.up mB hle h66
 have h121:=ORow.up qlX hle h121
 have h136:=OMap.up (qfW (mI .i64)) hle h136
 obtain ⟨rfl,r155,r156⟩:=h154
 refine ⟨_,rfl,fun a E=>?_⟩
 refine qaw E ok qbw rfl rfl fun b157 a w E ok=>qaf E ok 0 rfl rfl rfl qcq rfl rfl ⟨rfl,rfl,rfl,trivial⟩ rfl rfl fun w ok=>wn<|sg<|mv E rfl fun a E=>lv E ok (qaj (cs:=[vi r150.phase,vi r150.count,vb r150.zero]) qbN rfl rfl (qab.own 0 rfl rfl)) fun a E=>?_
 obtain ⟨xv158,h159,yy160,yy161⟩:=qkm (P:=Tryd.prog) (mo:=.tmp 38) (ko:=.tmp 39) (zx:=(0:Int)) ok 6 qne Tryd.underlying103 h136 rfl (qay E rfl) (qay E rfl) ⟨m0,_,rfl,⟨rfl,r155,r156⟩⟩ qiJ (qaW (ir 0))
 obtain ⟨rfl,r162⟩:=qha h159
 refine lv E ok (yy161 _) fun a E=>mv E rfl fun a E=>lw E (qaF rfl rfl) fun a E=>lw E (qaF rfl rfl) fun a E=>av E rfl fun a E=>aw E rfl fun a E=>wp_seq<|sg<|mv E rfl fun a E=>lw E (qbW rfl) fun a E=>wn<|cg E rfl hF (fun c163 hF=>?_) fun c163 hF=>?_
 ·refine wp_skip<|qaa<|qac<|mz E rfl rfl fun a E=>?_
  obtain ⟨x182,e183,hF⟩:=bnd hF
  replace e183:idx (Arr11_Int.list v116) v115 = some x182:=e183
  refine lv E ok (qdZ qhx rfl rfl (qaL e183).1 (qaL e183).2) fun a E=>?_
  obtain ⟨z184,e185,hF⟩:=bnd hF
  have h186:=Arr11_Int.set_list e185
  have h187:=AllP.setI (q:=(InR .i64)) (xs:=Arr11_Int.list v116) ⟨r123,r124,r125,r126,r127,r128,r129,r130,r131,r132,r133,trivial⟩ r162 h186
  refine qem (c:=[vi v116.e0,vi v116.e1,vi v116.e2,vi v116.e3,vi v116.e4,vi v116.e5,vi v116.e6,vi v116.e7,vi v116.e8,vi v116.e9,vi v116.e10]) (c':=[vi z184.e0,vi z184.e1,vi z184.e2,vi z184.e3,vi z184.e4,vi z184.e5,vi z184.e6,vi z184.e7,vi z184.e8,vi z184.e9,vi z184.e10]) E ok 1 rfl rfl rfl qbp rfl rfl ⟨rfl,trivial⟩ (qh9 (n:=11) (qaL e183).2 (Nat.le_of_ble_eq_true rfl)) (qjl (f:=(Value.int .i64)) (pre:=[]) (post:=[]) (xs:=Arr11_Int.list v116) (ys:=z184.list) rfl h186) rfl fun w ok=>wpList_nil<|qap<|qaa<|qac<|lw E (qaA rfl rfl (InR.inc r122 (ir 11) c137)) fun a E=>mv E rfl fun a E=>wpList_nil ?_
  cases hF
  exact qau ⟨m152,c119,M120,c134,M135,le_m56,(ok.pk 9 [1,2,3,4,5,6,7,8] rfl (by decide)),E.keep [1,2,6,7,8,9,10,11,27],h121,(InR.inc r122 (ir 11) c137),h187.1,h187.2.1,h187.2.2.1,h187.2.2.2.1,h187.2.2.2.2.1,h187.2.2.2.2.2.1,h187.2.2.2.2.2.2.1,h187.2.2.2.2.2.2.2.1,h187.2.2.2.2.2.2.2.2.1,h187.2.2.2.2.2.2.2.2.2.1,h187.2.2.2.2.2.2.2.2.2.2.1,h136⟩
 refine sg<|mv E rfl fun a E=>lv E ok (qcz qiU h121 rfl) fun a E=>aw E rfl fun a E=>sg<|mv E rfl fun a E=>lv E ok (qaj (cs:=[vi r150.phase,vi r150.count,vb r150.zero]) qbN rfl rfl (qab.own 0 rfl rfl)) fun a E=>mv E rfl fun a E=>bd hF fun l164 e165 hF=>qgA (.inl rfl) E ok 6 qne Tryd.underlying103 h136 rfl rfl rfl rfl ⟨m0,_,rfl,⟨rfl,r155,r156⟩⟩ (qaW (ORow.InR h121)) e165 rfl fun M166 w ok h167=>wn<|qac<|mv E rfl fun a E=>lv E ok (qaj (cs:=[vi r150.phase,vi r150.count,vb r150.zero]) qbN rfl rfl (qab.own 0 rfl rfl)) fun a E=>qbH (R:=qb5) (xo:=[.tmp 51]) (xs:=([r150]:List (DigitsRead))) E ok qiU qbw rfl ⟨⟨_,rfl,rfl,⟨rfl,r155,r156⟩⟩,trivial⟩ rfl rfl rfl rfl fun c168 M169 a w E ok h170=>?_
 refine bd hF fun l171 e172 hF=>qdn (R:=qb5) E ok 6 qlX qiU Tryd.underlying104 rfl h121 (qbP.ofRow h170 0 rfl ok) e172 ⟨_,qbw,rfl⟩ rfl rfl rfl rfl fun c173 M174 a w E ok h175=>aw E rfl fun a E=>qac<|mz E rfl rfl fun a E=>?_
 obtain ⟨x176,e177,hF⟩:=bnd hF
 replace e177:idx (Arr11_Int.list v116) v115 = some x176:=e177
 refine lv E ok (qdZ qhx rfl rfl (qaL e177).1 (qaL e177).2) fun a E=>?_
 obtain ⟨z178,e179,hF⟩:=bnd hF
 have h180:=Arr11_Int.set_list e179
 have h181:=AllP.setI (q:=(InR .i64)) (xs:=Arr11_Int.list v116) ⟨r123,r124,r125,r126,r127,r128,r129,r130,r131,r132,r133,trivial⟩ (ORow.InR h121) h180
 refine qem (c:=[vi v116.e0,vi v116.e1,vi v116.e2,vi v116.e3,vi v116.e4,vi v116.e5,vi v116.e6,vi v116.e7,vi v116.e8,vi v116.e9,vi v116.e10]) (c':=[vi z178.e0,vi z178.e1,vi z178.e2,vi z178.e3,vi z178.e4,vi z178.e5,vi z178.e6,vi z178.e7,vi z178.e8,vi z178.e9,vi z178.e10]) E ok 2 rfl rfl rfl qbp rfl rfl ⟨rfl,trivial⟩ (qh9 (n:=11) (qaL e177).2 (Nat.le_of_ble_eq_true rfl)) (qjl (f:=(Value.int .i64)) (pre:=[]) (post:=[]) (xs:=Arr11_Int.list v116) (ys:=z178.list) rfl h180) rfl fun w ok=>wpList_nil<|qap<|qaa<|qac<|lw E (qaA rfl rfl (InR.inc r122 (ir 11) c137)) fun a E=>mv E rfl fun a E=>wpList_nil ?_
 cases hF
 exact qau ⟨m152,c173,M174,c134,M166,le_m56,(ok.pk 10 [2,3,4,5,6,7,8,9] rfl (by decide)),E.keep [1,2,6,7,8,9,10,11,27],h175,(InR.inc r122 (ir 11) c137),h181.1,h181.2.1,h181.2.2.1,h181.2.2.2.1,h181.2.2.2.2.1,h181.2.2.2.2.2.1,h181.2.2.2.2.2.2.1,h181.2.2.2.2.2.2.2.1,h181.2.2.2.2.2.2.2.2.1,h181.2.2.2.2.2.2.2.2.2.1,h181.2.2.2.2.2.2.2.2.2.2.1,h167⟩
def qmk (u:World) (m0:Mem) (S:Segs) (r:DFA) (a:Act) (w:World):Prop :=
 ∃ m1 v0,m0.le m1 ∧ Ok u m1 S w ∧ a.defers = [] ∧ RVs Tryd.prog a w [.c 0 33 (.agg v0.toArray)] ∧ pDFA m1 v0 r
theorem qga (N:Nat) {r:DFA} (hF:qe9 N  = some r) (ok:Ok u m0 S w) :
  Calls Tryd.prog 9 [].toArray w fun e w'=>∃ m1 v0,e = .returned (.agg v0.toArray) ∧ m0.le m1 ∧ Ok u m1 S w' ∧ pDFA m1 v0 r:=by
 have le_m0:=Mem.le.refl m0
 unfold qe9 at hF
 refine en (qmk u m0 S) r Tryd.func9 rfl rfl rfl (by rintro a w ⟨m1,v0,hle,ok,hd,hrv,h0⟩; exact qbC [.c 0 33 (.agg v0.toArray)] hd rfl hrv ⟨m1,v0,rfl,hle,ok,h0⟩) fun fin a E=>sg<|qaw E ok qa0 rfl rfl fun b1 a w E ok=>wn<|sg<|lw E (qaG (ps:=[]) (qs:=[]) (cs:=[vi 0,vi 0,vb false]) qbw qbl rfl trivial rfl) fun a E=>bd hF fun r2 e3 hF=>qao E qt1 rfl (qf5 N _ (DigitsRead.mk 0 0 false) ⟨rfl,(ir 0),(ir 0)⟩ e3 ok) rfl rfl ?_
 rintro _ w ⟨m4,vs5,rfl,hle,ok,h6⟩
 have le_m0:=le_m0.trans hle
 obtain ⟨c7,c9,rfl,h8,h10⟩:=h6
 refine ⟨_,rfl,fun a E=>?_⟩
 refine bd hF fun r11 e12 hF=>qao E qsd rfl (qhq N _ r2 ⟨_,_,rfl,h8,h10⟩ e12 ok) rfl rfl ?_
 rintro _ w ⟨m13,vs14,rfl,hle,ok,h15⟩
 have le_m0:=le_m0.trans hle
 have h8:=(mL qba).up hle h8
 have h10:=(mL mB).up hle h10
 obtain ⟨c16,c18,rfl,h17,h19⟩:=h15
 refine ⟨_,rfl,fun a E=>?_⟩
 refine bd hF fun r20 e21 hF=>qao E qsg rfl (qie N _ r11 ⟨_,_,rfl,h17,h19⟩ e21 ok) rfl rfl ?_
 rintro _ w ⟨m22,vs23,rfl,hle,ok,h24⟩
 have le_m0:=le_m0.trans hle
 have h8:=(mL qba).up hle h8
 have h10:=(mL mB).up hle h10
 have h17:=(mL qba).up hle h17
 have h19:=(mL mB).up hle h19
 obtain ⟨c26,c28,rfl,r25,h27,h29⟩:=h24
 refine ⟨_,rfl,fun a E=>?_⟩
 refine qaf E ok 0 rfl rfl rfl qbI rfl rfl ⟨rfl,(qa9 h27),(qa9 h29),trivial⟩ rfl rfl fun w ok=>wn<|wp_ret ?_
 exact fin hF ⟨m22,[vi r20.Start,c26,c28],le_m0,ok.drop,E.d,⟨rv_c (cs:=[vi r20.Start,c26,c28]) E ok rfl qcr rfl (qab.own 0 rfl rfl),trivial⟩,⟨_,_,rfl,r25,h27,h29⟩⟩
def qlU (u:World) (m0:Mem) (S:Segs) (r:(List (Relation))) (a:Act) (w:World):Prop :=
 ∃ m1 v0,m0.le m1 ∧ Ok u m1 S w ∧ a.defers = [] ∧ RVs Tryd.prog a w [.t 2 v0] ∧ (pL 4 qan) m1 [v0] r
theorem qlV (N:Nat) (vc_0:Value) (c_0:List (List (Relation))) (hc_0:(pL 1 (pL 4 qan)) m0 [vc_0] c_0) {r:(List (Relation))} (hF:qgr N c_0 = some r) (ok:Ok u m0 S w) :
  Calls Tryd.prog 17 [vc_0].toArray w fun e w'=>∃ m1 v0,e = .returned v0 ∧ m0.le m1 ∧ Ok u m1 S w' ∧ (pL 4 qan) m1 [v0] r:=by
 have le_m0:=Mem.le.refl m0
 unfold qgr at hF
 refine en (qlU u m0 S) r Tryd.func17 rfl rfl rfl (fun _ _ h=>rc h fun _=>rfl) fun fin a E=>sg<|aw E rfl fun a E=>sg<|aw E rfl fun a E=>wp_seq<|sg<|av E rfl fun a E=>wn<|wp_block ?_
 obtain ⟨M6,ok,h7⟩:=qd1 (e:=54) (k:=4) (R:=qan) ok
 refine bd hF fun o8 hL hF=>qaH _ (fun (s:(List (Relation)) × Int) a w=>∃ c9 M10,Ok u m0 (M10 :: S) w ∧ Env 18 a [(0,vc_0),(3,c9),(4,vi s.2)] ∧ ORow 54 4 qan m0 c9 s.1 M10 ∧ InR .i64 s.2) (fun (b:((List (Relation)))) e a w=>e = (.exit 0) ∧ ∃ c41 M42,Ok u m0 (M42 :: S) w ∧ Env 18 a [(3,c41)] ∧ ORow 54 4 qan m0 c41 b M42) ?_ ?_ N _ a w hL ⟨(Value.slice none 0 0),M6,ok,E.keep [0,3,4],h7,(ir 0)⟩
 rotate_left
 ·intro e a w _ hO
  obtain ⟨rfl,c36,M37,ok,E,h38⟩:=hO
  refine qaN<|qaa<|sg<|mv E rfl fun a E=>aw E rfl fun a E=>wp_ret ?_
  obtain ⟨m39,hle,ok,hfz⟩:=(ok.frs 0 rfl).freeze
  have h40:=ORow.froz qad h38 hle hfz (by decide)
  have le_m0:=le_m0.trans hle
  have hc_0:=(mL (mL qad)).up hle hc_0
  exact fin hF ⟨m39,c36,le_m0,ok,E.d,rz E rfl,h40⟩
 rintro ⟨v13,v14⟩ a w r ⟨c15,M16,ok,E,h17,r18⟩ hF
 replace hF:qgB N c_0 v13 v14 = some r:=hF
 unfold qgB at hF
 refine wp_seq<|sg<|mz E rfl rfl fun a E=>lv E ok (qaz qdq hc_0 rfl) fun a E=>lw E (qaC rfl rfl) fun a E=>wn<|cg E rfl hF (fun c19 hF=>?_) fun c19 hF=>?_
 ·refine wp_exit<|qaE ?_
  cases hF
  exact so (⟨rfl,⟨c15,M16,ok,E.keep [3],h17⟩⟩)
 refine wp_skip<|qaa<|wp_seq<|wp_block<|qac<|mz E rfl rfl fun a E=>mv E rfl fun a E=>?_
 obtain ⟨x20,e21,hF⟩:=bnd hF
 obtain ⟨b22,o23,es24,hl25,rr26,at27,yy28⟩:=ia E 12 13 qdq hc_0 e21
 obtain ⟨c29,rfl,h30⟩:=qbG rr26
 refine lv E ok (yy28 _ _) fun a E=>lv E ok (qai qdJ rfl (qab.ro at27)) fun a E=>bd hF fun l31 e32 hF=>qdn (R:=qan) E ok 0 qad qbr Tryd.underlying50 rfl h17 (qbP.ofL h30 ok) e32 ⟨_,qds,rfl⟩ rfl rfl rfl rfl fun c33 M34 a w E ok h35=>av E rfl fun a E=>wpList_nil<|qap<|qaa<|qac<|mv E rfl fun a E=>lw E (qaA rfl rfl (InR.inc r18 (qal hc_0) c19)) fun a E=>av E rfl fun a E=>wpList_nil ?_
 cases hF
 exact qau ⟨c33,M34,ok,E.keep [0,3,4],h35,(InR.inc r18 (qal hc_0) c19)⟩
def qkU (u:World) (m0:Mem) (S:Segs) (r:Int) (a:Act) (w:World):Prop :=
 Ok u m0 S w ∧ a.defers = [] ∧ RVs Tryd.prog a w [.t 2 (.int .i64 r)] ∧ InR .i64 r
theorem qkY (N:Nat) (vr_0:List Value) (r_0:Relation) (hr_0:qan m0 vr_0 r_0) {r:Int} (hF:qfh N r_0 = some r) (ok:Ok u m0 S w) :
  Calls Tryd.prog 18 [.agg vr_0.toArray].toArray w fun e w'=>(e = .returned (.int .i64 r) ∧ Ok u m0 S w') ∧ InR .i64 r:=by
 obtain ⟨c3,rfl,r1,r2,h4⟩:=hr_0
 unfold qfh at hF
 refine en (qkU u m0 S) r Tryd.func18 rfl rfl rfl (fun _ _ h=>rb h rfl) fun fin a E=>sg<|qbQ E ok rfl rfl rfl fun b5 a w E ok=>aw E rfl fun a E=>sg<|aw E rfl fun a E=>wp_seq<|sg<|av E rfl fun a E=>wn<|wp_block<|bd hF fun o8 hL hF=>qaH _ (fun (s:Int × Int) a w=>Ok u m0 ([(b5,oc 54 [vi r_0.Operand,vi r_0.Mod,vb r_0.Not,c3])] :: S) w ∧ Env 21 a [(1,vp b5),(3,vi s.1),(4,vi s.2)] ∧ InR .i64 s.1 ∧ InR .i64 s.2) (fun (b:Int) e a w=>e = (.exit 0) ∧ Ok u m0 ([(b5,oc 54 [vi r_0.Operand,vi r_0.Mod,vb r_0.Not,c3])] :: S) w ∧ Env 21 a [(3,vi b)] ∧ InR .i64 b) ?_ ?_ N _ a w hL ⟨ok,E.keep [1,3,4],(ir 0),(ir 0)⟩
 rotate_left
 ·intro e a w _ hO
  obtain ⟨rfl,ok,E,r27⟩:=hO
  refine qaN<|qaa<|sg<|mv E rfl fun a E=>aw E rfl fun a E=>wp_ret ?_
  exact fin hF ⟨ok.drop,E.d,rz E rfl,r27⟩
 rintro ⟨v11,v12⟩ a w r ⟨ok,E,r13,r14⟩ hF
 replace hF:qgl N r_0 v11 v12 = some r:=hF
 unfold qgl at hF
 refine wp_seq<|sg<|mv E rfl fun a E=>fk E ok qbn qca rfl 0 rfl rfl fun a E=>lv E ok (qaz qbX h4 rfl) fun a E=>lw E (qaC rfl rfl) fun a E=>wn<|cg E rfl hF (fun c15 hF=>?_) fun c15 hF=>?_
 ·refine wp_exit<|qaE ?_
  cases hF
  exact so (⟨rfl,⟨ok,E.keep [3],r13⟩⟩)
 refine wp_skip<|qaa<|wp_seq<|wp_block<|qac<|mv E rfl fun a E=>fk E ok qbn qca rfl 0 rfl rfl fun a E=>mv E rfl fun a E=>?_
 obtain ⟨x16,e17,hF⟩:=bnd hF
 obtain ⟨b18,o19,es20,hl21,rr22,at23,yy24⟩:=ia E 14 15 qbX h4 e17
 obtain ⟨rfl,r25,r26⟩:=rr22
 refine lv E ok (yy24 _ _) fun a E=>fv E qeL rfl fun a E=>lv E ok (qai qam rfl (qab.ro (At.sub 1 1 at23))) fun a E=>lw E (qsm rfl rfl) fun a E=>av E rfl fun a E=>wpList_nil<|qap<|qaa<|qac<|mv E rfl fun a E=>lw E (qaA rfl rfl (InR.inc r14 (qal h4) c15)) fun a E=>av E rfl fun a E=>wpList_nil ?_
 cases hF
 exact qau ⟨ok,E.keep [1,3,4],(InR.max r13 r26),(InR.inc r14 (qal h4) c15)⟩
def qkj (u:World) (m0:Mem) (S:Segs) (r:Int × Int) (a:Act) (w:World):Prop :=
 Ok u m0 S w ∧ a.defers = [] ∧ RVs Tryd.prog a w [.t 2 (.int .i64 r.1),.t 3 (.int .i64 r.2)] ∧ InR .i64 r.1 ∧ InR .i64 r.2
theorem qhD (N:Nat) (vc_0:Value) (c_0:List (List (Relation))) (hc_0:(pL 1 (pL 4 qan)) m0 [vc_0] c_0) {r:Int × Int} (hF:qcA N c_0 = some r) (ok:Ok u m0 S w) :
  Calls Tryd.prog 6 [vc_0].toArray w fun e w'=>(e = .returned (.tuple [(.int .i64 r.1),(.int .i64 r.2)].toArray) ∧ Ok u m0 S w') ∧ InR .i64 r.1 ∧ InR .i64 r.2:=by
 have hb0:=ok.base
 have le_m0:=Mem.le.refl m0
 unfold qcA at hF
 refine en (qkj u m0 S) r Tryd.func6 rfl rfl rfl (by rintro a w ⟨ok,hd,hrv,h0,h1⟩; exact qbC [.t 2 (.int .i64 r.1),.t 3 (.int .i64 r.2)] hd rfl hrv ⟨⟨rfl,ok⟩,h0,h1⟩) fun fin a E=>sg<|av E rfl fun a E=>aw E rfl fun a E=>wp_seq<|sg<|mv E rfl fun a E=>bd hF fun r1 e2 hF=>lc E qua rfl (qkG N _ c_0 hc_0 e2 ok) fun w ok a E=>lw E (qbW rfl) fun a E=>wn<|cf E rfl hF (fun c3 hF=>?_) fun c3 hF=>?_
 ·refine sg<|av E rfl fun a E=>aw E rfl fun a E=>wp_ret<|qav ?_
  exact fin hF ⟨ok,E.d,⟨rv_t E rfl,rv_t E rfl,trivial⟩,(ir 0),(ir 1)⟩
 refine wp_skip<|qaa<|sg<|aw E rfl fun a E=>sg<|mv E rfl fun a E=>bd hF fun r4 e5 hF=>qao E quv rfl (qlV N _ c_0 hc_0 e5 ok) rfl rfl ?_
 rintro _ w ⟨m6,c7,rfl,hle,ok,h8⟩
 have le_m0:=le_m0.trans hle
 have hc_0:=(mL (mL qad)).up hle hc_0
 refine ⟨_,rfl,fun a E=>?_⟩
 refine aw E rfl fun a E=>wp_seq<|sg<|av E rfl fun a E=>wn<|wp_block<|bd hF fun o11 hL hF=>qaH _ (fun (s:Int × Int) a w=>Ok u m6 (S) w ∧ Env 46 a [(4,vi s.1),(5,c7),(6,vi s.2)] ∧ InR .i64 s.1 ∧ InR .i64 s.2) (fun (b:Int) e a w=>e = (.exit 0) ∧ Ok u m6 (S) w ∧ Env 46 a [(4,vi b)] ∧ InR .i64 b) ?_ ?_ N _ a w hL ⟨ok,E.keep [4,5,6],(ir 1),(ir 0)⟩
 rotate_left
 ·intro e a w _ hO
  obtain ⟨rfl,ok,E,r69⟩:=hO
  refine qaN<|qaa<|sg<|mv E rfl fun a E=>av E rfl fun a E=>av E rfl fun a E=>wn<|wp_ret ?_
  exact fin hF ⟨(ok).down hb0 le_m0,E.d,⟨rv_t E rfl,rv_t E rfl,trivial⟩,r69,(ir 0)⟩
 rintro ⟨v14,v15⟩ a w r ⟨ok,E,r16,r17⟩ hF
 replace hF:qcy N r4 v14 v15 = some r:=hF
 unfold qcy at hF
 refine wp_seq<|sg<|mz E rfl rfl fun a E=>lv E ok (qaz qbr h8 rfl) fun a E=>lw E (qaC rfl rfl) fun a E=>wn<|cg E rfl hF (fun c18 hF=>?_) fun c18 hF=>?_
 ·refine wp_exit<|qaE ?_
  cases hF
  exact so (⟨rfl,⟨ok,E.keep [4],r16⟩⟩)
 refine wp_skip<|qaa<|wp_seq<|wp_block<|sg<|mz E rfl rfl fun a E=>?_
 obtain ⟨x19,e20,hF⟩:=bnd hF
 obtain ⟨b21,o22,es23,hl24,rr25,at26,yy27⟩:=ia E 19 20 qbr h8 e20
 obtain ⟨c30,rfl,r28,r29,h31⟩:=rr25
 refine lv E ok (yy27 _ _) fun a E=>fv E qej rfl fun a E=>lv E ok (qai qam rfl (qab.ro (At.sub 1 1 at26))) fun a E=>aw E rfl fun a E=>wp_seq<|sg<|mv E rfl fun a E=>lw E (qax rfl rfl) fun a E=>wn<|bd hF fun o32 hJ hF=>qaO (Q':=fun e a w=>e = .normal ∧ Ok u m6 (S) w ∧ Env 46 a [(4,vi v14),(5,c7),(6,vi v15),(7,vi o32)] ∧ InR .i64 o32) ?_ ?_
 ·have hF:=hJ
  refine cg E rfl hF (fun c34 hF=>?_) fun c34 hF=>?_
  ·refine wp_skip ?_
   cases hF
   exact ⟨rfl,⟨ok,E.keep [4,5,6,7],r29⟩⟩
  refine qac<|mz E rfl rfl fun a E=>?_
  obtain ⟨x35,e36,hF⟩:=bnd hF
  obtain ⟨b37,o38,es39,hl40,rr41,at42,yy43⟩:=ia E 26 27 qbr h8 e36
  obtain ⟨c46,rfl,r44,r45,h47⟩:=rr41
  refine lv E ok (yy43 _ _) fun a E=>lv E ok (qaj (cs:=[vi x35.Operand,vi x35.Mod,vb x35.Not,c46]) qbK rfl rfl (qab.ro at42)) fun a E=>bd hF fun r48 e49 hF=>qao E quR rfl (qkY N _ x35 ⟨_,rfl,r44,r45,h47⟩ e49 ok) rfl rfl ?_
  rintro _ w ⟨⟨rfl,ok⟩,r50⟩
  refine ⟨_,rfl,fun a E=>?_⟩
  refine lw E (qcg rfl rfl) fun a E=>av E rfl fun a E=>wpList_nil ?_
  cases hF
  exact ⟨rfl,⟨ok,E.keep [4,5,6,7],(InR.wrap _ _)⟩⟩
 intro e a w hO
 obtain ⟨rfl,ok,E,r51⟩:=hO
 refine qaa<|wp_seq<|sg<|mz E rfl rfl fun a E=>?_
 obtain ⟨x52,e53,hF⟩:=bnd hF
 obtain ⟨b54,o55,es56,hl57,rr58,at59,yy60⟩:=ia E 32 33 qbr h8 e53
 obtain ⟨c63,rfl,r61,r62,h64⟩:=rr58
 refine lv E ok (yy60 _ _) fun a E=>fv E qa6 rfl fun a E=>lv E ok (qai qam rfl (qab.ro (At.sub 0 1 at59))) fun a E=>lw E (qax rfl rfl) fun a E=>wn<|bd hF fun o65 hJ hF=>qaO (Q':=fun e a w=>e = .normal ∧ Ok u m6 (S) w ∧ Env 46 a [(4,vi v14),(5,c7),(6,vi v15),(7,vi o65)] ∧ InR .i64 o65) ?_ ?_
 ·have hF:=hJ
  refine cg E rfl hF (fun c67 hF=>?_) fun c67 hF=>?_
  ·refine wp_skip ?_
   cases hF
   exact ⟨rfl,⟨ok,E.keep [4,5,6,7],r51⟩⟩
  refine qac<|mz E rfl rfl fun a E=>lw E (qgw rfl rfl) fun a E=>av E rfl fun a E=>wpList_nil ?_
  cases hF
  exact ⟨rfl,⟨ok,E.keep [4,5,6,7],(InR.wrap _ _)⟩⟩
 intro e a w hO
 obtain ⟨rfl,ok,E,r68⟩:=hO
 refine qaa<|qac<|mz E rfl rfl fun a E=>lw E (qgw rfl rfl) fun a E=>lw E (qp5 rfl rfl) fun a E=>av E rfl fun a E=>wpList_nil<|qap<|qaa<|qac<|mv E rfl fun a E=>lw E (qaA rfl rfl (InR.inc r17 (qal h8) c18)) fun a E=>av E rfl fun a E=>wpList_nil ?_
 cases hF
 exact qau ⟨ok,E.keep [4,5,6],(InR.min (ir 1000000) (InR.wrap _ _)),(InR.inc r17 (qal h8) c18)⟩
end Go.Proofs.YtidfofhmnlhfjaaDoor
namespace Go.Proofs.YtidfofhmnlhfjaaDoor
open Go.X
variable {u:World} {m0:Mem} {S:Segs} {w:World}
set_option maxHeartbeats 4000000
set_option maxRecDepth 100000
theorem quT:goB Tryd.prog 36 = true:=by kernel_rfl
def qjO (u:World) (m0:Mem) (S:Segs) (r:Bool) (a:Act) (w:World):Prop :=
 Ok u m0 S w ∧ a.defers = [] ∧ RVs Tryd.prog a w [.t 2 (.bool r)]
theorem qjP (N:Nat) (vl_0:Value) (l_0:List (Bool)) (hl_0:(pL 1 pB) m0 [vl_0] l_0) {r:Bool} (hF:qcY N l_0 = some r) (ok:Ok u m0 S w) :
  Calls Tryd.prog 36 [vl_0].toArray w fun e w'=>(e = .returned (.bool r) ∧ Ok u m0 S w'):=by
 unfold qcY at hF
 refine en (qjO u m0 S) r Tryd.func36 rfl rfl rfl (fun _ _ h=>ra h rfl) fun fin a E=>sg<|aw E rfl fun a E=>wp_seq<|qee (by kernel_rfl) (by kernel_rfl) ok<|qv E (qah rfl) fun a E=>?_
 obtain ⟨x1,e2,hF⟩:=bnd hF
 obtain ⟨b3,o4,es5,hl6,rr7,at8,yy9⟩:=qlD qbD hl_0 e2 (P:=Tryd.prog) (X:=.tmp 3) (I:=.const (vi 0)) (kd:=.i64) (qay E rfl) (qay E rfl)
 obtain rfl:=rr7
 refine qv E (yy9 _ _) fun a E=>qv E (qai qdk rfl (qab.ro at8)) fun a E=>qv E (qah rfl) fun a E=>?_
 obtain ⟨x10,e11,hF⟩:=bnd hF
 obtain ⟨b12,o13,es14,hl15,rr16,at17,yy18⟩:=qlD qbD hl_0 e11 (P:=Tryd.prog) (X:=.tmp 6) (I:=.const (vi 1)) (kd:=.i64) (qay E rfl) (qay E rfl)
 obtain rfl:=rr16
 refine qv E (yy18 _ _) fun a E=>qv E (qai qdk rfl (qab.ro at17)) fun a E=>qv E (qmn Tryd.underlying4 rfl rfl) fun a E=>qv E (qbY rfl) fun a E=>wpQuiet_nil ?_
 intro w ok
 refine qaa<|wp_ret ?_
 exact fin hF ⟨ok,E.d,rz E rfl⟩
def qiQ (u:World) (m0:Mem) (S:Segs) (pb0:Nat) (pb1:Nat) (pb2:Nat) (pb3:Nat) (pb4:Nat) (pb5:Nat) (x0:Option (qak)) (c1:Value) (x1:Part) (x2:Part) (x3:List (List (List (Relation)))) (c7:Value) (x4:List (Int)) (c9:Value) (M10:List (Nat × Obj)) (r:Bool) (a:Act) (w:World):Prop :=
 Ok u m0 ([(pb0,oc 106 [c1])] :: [(pb1,oc 137 [vu x1.bits,vs x1.text])] :: [(pb2,oc 137 [vu x2.bits,vs x2.text])] :: [(pb3,oc 26 [c7])] :: [(pb4,oc 83 [c9])] :: M10 :: [(pb5,oc 82 [(Value.func (.func 36) #[] #[])])] :: S) w ∧ a.defers = [] ∧ RVs Tryd.prog a w [.t 5 (.bool r)]
theorem qgt (N:Nat) {pb0:Nat} {c1:Value} (x0:Option (qak)) (h2:(pP 3 qeR) m0 [c1] x0) {pb1:Nat} (x1:Part) (r3:InR .u64 x1.bits) (l4:x1.text.length ≤ LIMS) {pb2:Nat} (x2:Part) (r5:InR .u64 x2.bits) (l6:x2.text.length ≤ LIMS) {pb3:Nat} {c7:Value} (x3:List (List (List (Relation)))) (h8:(pL 1 (pL 1 (pL 4 qan))) m0 [c7] x3) {pb4:Nat} {c9:Value} {M10:List (Nat × Obj)} (x4:List (Int)) (h11:ORow 3 1 (pI .i64) m0 c9 x4 M10) {pb5:Nat} {r:Bool} (hF:qcQ N x0 x1 x2 x3 x4 = some r) (ok:Ok u m0 ([(pb0,oc 106 [c1])] :: [(pb1,oc 137 [vu x1.bits,vs x1.text])] :: [(pb2,oc 137 [vu x2.bits,vs x2.text])] :: [(pb3,oc 26 [c7])] :: [(pb4,oc 83 [c9])] :: M10 :: [(pb5,oc 82 [(Value.func (.func 36) #[] #[])])] :: S) w) :
  Calls Tryd.prog 53 [Value.func (.func 76) #[] #[.pointer (some ⟨pb0,0,none⟩),.pointer (some ⟨pb1,0,none⟩),.pointer (some ⟨pb2,0,none⟩)],vp pb3,vp pb4,vp pb5].toArray w fun e w'=>(e = .returned (.bool r) ∧ Ok u m0 ([(pb0,oc 106 [c1])] :: [(pb1,oc 137 [vu x1.bits,vs x1.text])] :: [(pb2,oc 137 [vu x2.bits,vs x2.text])] :: [(pb3,oc 26 [c7])] :: [(pb4,oc 83 [c9])] :: M10 :: [(pb5,oc 82 [(Value.func (.func 36) #[] #[])])] :: S) w'):=by
 have le_m0:=Mem.le.refl m0
 unfold qcQ at hF
 refine en (qiQ u m0 S pb0 pb1 pb2 pb3 pb4 pb5 x0 c1 x1 x2 x3 c7 x4 c9 M10) r Tryd.func53 rfl rfl rfl (fun _ _ h=>ra h rfl) fun fin a E=>sg<|qbQ E ok rfl rfl rfl fun b12 a w E ok=>aw E rfl fun a E=>sg<|ld E ok qib 4 rfl rfl rfl fun a E=>lv E ok (qaz qdM h8 rfl) fun a E=>bd hF fun l13 e14 hF=>qbR (R:=pB) E ok qbD qd0 rfl qeo rfl e14 rfl rfl fun c15 M16 a w E ok h17=>aw E rfl fun a E=>wp_seq<|sg<|ld E ok qib 5 rfl rfl rfl fun a E=>lv E ok (qaz qdM h8 rfl) fun a E=>mv E rfl fun a E=>wn<|wp_block<|bd hF fun o23 hL hF=>qaH _ (fun (s:Int × (List (Bool))) a w=>∃ c25 M26,Ok u m0 (M26 :: [(b12,oc 69 [(Value.func (.func 76) #[] #[.pointer (some ⟨pb0,0,none⟩),.pointer (some ⟨pb1,0,none⟩),.pointer (some ⟨pb2,0,none⟩)])])] :: [(pb0,oc 106 [c1])] :: [(pb1,oc 137 [vu x1.bits,vs x1.text])] :: [(pb2,oc 137 [vu x2.bits,vs x2.text])] :: [(pb3,oc 26 [c7])] :: [(pb4,oc 83 [c9])] :: M10 :: [(pb5,oc 82 [(Value.func (.func 36) #[] #[])])] :: S) w ∧ Env 29 a [(2,vp pb4),(3,vp pb5),(4,vp b12),(6,c25),(12,c7),(13,(vi (x3.length:Int))),(14,vi s.1)] ∧ InR .i64 s.1 ∧ ORow 4 1 pB m0 c25 s.2 M26) (fun (b:((List (Bool)))) e a w=>e = (.exit 0) ∧ ∃ c82 M83,Ok u m0 (M83 :: [(b12,oc 69 [(Value.func (.func 76) #[] #[.pointer (some ⟨pb0,0,none⟩),.pointer (some ⟨pb1,0,none⟩),.pointer (some ⟨pb2,0,none⟩)])])] :: [(pb0,oc 106 [c1])] :: [(pb1,oc 137 [vu x1.bits,vs x1.text])] :: [(pb2,oc 137 [vu x2.bits,vs x2.text])] :: [(pb3,oc 26 [c7])] :: [(pb4,oc 83 [c9])] :: M10 :: [(pb5,oc 82 [(Value.func (.func 36) #[] #[])])] :: S) w ∧ Env 29 a [(3,vp pb5),(6,c82)] ∧ ORow 4 1 pB m0 c82 b M83) ?_ ?_ N _ a w hL ⟨c15,M16,ok,E.keep [2,3,4,6,12,13,14],(ir 0),h17⟩
 rotate_left
 ·intro e a w _ hO
  obtain ⟨rfl,c72,M73,ok,E,h74⟩:=hO
  refine qaN<|qaa<|sg<|ld E ok qqC 8 rfl rfl rfl fun a E=>mv E rfl fun a E=>?_
  obtain ⟨r80,e81,hF⟩:=bnd hF
  obtain ⟨m75,hle77,ok76,hfz78⟩:=(ok.frs 0 rfl).freeze
  have h79:=ORow.froz mB h74 hle77 hfz78 (by decide)
  refine qiE E rfl quT rfl (qjP N _ o23 h79 e81 ok76) rfl rfl ?_
  rintro _ w ⟨rfl,okz⟩
  replace ok:=(Ok.thawAt 0 rfl ok hle77 hfz78 okz)
  refine ⟨_,rfl,fun a E=>?_⟩
  refine aw E rfl fun a E=>wp_ret ?_
  exact fin hF ⟨ok.drop.drop,E.d,rz E rfl⟩
 rintro ⟨v28,v29⟩ a w r ⟨c31,M32,ok,E,r30,h33⟩ hF
 replace hF:qbE N x0 x1 x2 x3 x4 v28 v29 = some r:=hF
 unfold qbE at hF
 refine sg<|lw E (qaC rfl rfl) fun a E=>wn<|wp_seq<|cg E rfl hF (fun c34 hF=>?_) fun c34 hF=>?_
 ·refine wp_exit<|qaE ?_
  cases hF
  exact so (⟨rfl,⟨c31,M32,ok,E.keep [3,6],h33⟩⟩)
 refine wp_skip<|qaa<|wp_seq<|wp_block<|sg<|mv E rfl fun a E=>?_
 obtain ⟨x35,e36,hF⟩:=bnd hF
 obtain ⟨b37,o38,es39,hl40,rr41,at42,yy43⟩:=ia E 12 14 qdM h8 e36
 obtain ⟨c44,rfl,h45⟩:=qbG rr41
 refine lv E ok (yy43 _ _) fun a E=>lv E ok (qai qfV rfl (qab.ro at42)) fun a E=>qaw E ok qdI rfl rfl fun b46 a w E ok=>qaf E ok 0 rfl rfl rfl qbp rfl rfl ⟨rfl,trivial⟩ rfl rfl fun w ok=>aw E rfl fun a E=>bd hF fun o47 hJ hF=>qaO (Q':=fun e a w=>e = .normal ∧ ∃ c48 M49,Ok u m0 ([(b46,oc 3 [vi v28])] :: M49 :: [(b12,oc 69 [(Value.func (.func 76) #[] #[.pointer (some ⟨pb0,0,none⟩),.pointer (some ⟨pb1,0,none⟩),.pointer (some ⟨pb2,0,none⟩)])])] :: [(pb0,oc 106 [c1])] :: [(pb1,oc 137 [vu x1.bits,vs x1.text])] :: [(pb2,oc 137 [vu x2.bits,vs x2.text])] :: [(pb3,oc 26 [c7])] :: [(pb4,oc 83 [c9])] :: M10 :: [(pb5,oc 82 [(Value.func (.func 36) #[] #[])])] :: S) w ∧ Env 29 a [(2,vp pb4),(3,vp pb5),(4,vp b12),(6,c48),(12,c7),(13,(vi (x3.length:Int))),(14,vi v28)] ∧ ORow 4 1 pB m0 c48 o47 M49) ?_ ?_
 rotate_left
 ·intro e a w hO
  obtain ⟨rfl,c69,M70,ok,E,h71⟩:=hO
  refine qap<|qaa<|qac<|lw E (qaA rfl rfl (InR.inc r30 (qal h8) c34)) fun a E=>mv E rfl fun a E=>wpList_nil ?_
  cases hF
  exact qau ⟨c69,M70,(ok.pk 10 [1,2,3,4,5,6,7,8,9] rfl (by decide)),E.keep [2,3,4,6,12,13,14],(InR.inc r30 (qal h8) c34),h71⟩
 have hF:=hJ
 obtain ⟨r51,e52,hF⟩:=bnd hF
 obtain ⟨x53,e54,hF⟩:=bnd hF
 obtain ⟨l59,e60,hF⟩:=bnd hF
 obtain rfl:=sj hF
 refine qaX [] (Cls u m0 ([(b46,oc 3 [vi v28])] :: [(b12,oc 69 [(Value.func (.func 76) #[] #[.pointer (some ⟨pb0,0,none⟩),.pointer (some ⟨pb1,0,none⟩),.pointer (some ⟨pb2,0,none⟩)])])] :: [(pb0,oc 106 [c1])] :: [(pb1,oc 137 [vu x1.bits,vs x1.text])] :: [(pb2,oc 137 [vu x2.bits,vs x2.text])] :: [(pb3,oc 26 [c7])] :: [(pb4,oc 83 [c9])] :: M10 :: [(pb5,oc 82 [(Value.func (.func 36) #[] #[])])] :: [])) (Cls u m0 ([(b46,oc 3 [vi v28])] :: [(b12,oc 69 [(Value.func (.func 76) #[] #[.pointer (some ⟨pb0,0,none⟩),.pointer (some ⟨pb1,0,none⟩),.pointer (some ⟨pb2,0,none⟩)])])] :: [(pb0,oc 106 [c1])] :: [(pb1,oc 137 [vu x1.bits,vs x1.text])] :: [(pb2,oc 137 [vu x2.bits,vs x2.text])] :: [(pb3,oc 26 [c7])] :: [(pb4,oc 83 [c9])] :: M10 :: [(pb5,oc 82 [(Value.func (.func 36) #[] #[])])] :: [])) (by kernel_rfl) ?_
 intro w hw
 replace ok:=qa3 ok hw
 clear hw
 refine qag (cl1 (cq le_m0 ok [0,2,3,4,5,6,7,8,9] rfl) (cq le_m0 ok [0,2,3,4,5,6,7,8,9] rfl)) fun hT=>kt 0 E rfl hT (qah rfl) fun a E=>kt 1 E rfl hT (qai qam rfl (qab.cown 0 rfl rfl)) fun a E=>kt 2 E rfl hT (qah rfl) fun a E=>kt 3 E rfl hT (qc4 (caps:=[.tmp 4,.tmp 2,.tmp 7]) rfl) fun a E=>qar [4] (by kernel_rfl) rfl (qas ?_)
 ·refine qbM (o:=_) rfl ?_
  replace ok:Ok u m0 ([(b12,oc 69 [(Value.func (.func 76) #[] #[.pointer (some ⟨pb0,0,none⟩),.pointer (some ⟨pb1,0,none⟩),.pointer (some ⟨pb2,0,none⟩)])])] :: [(pb4,oc 83 [c9])] :: M10 :: [(b46,oc 3 [vi v28])] :: [(pb0,oc 106 [c1])] :: [(pb1,oc 137 [vu x1.bits,vs x1.text])] :: [(pb2,oc 137 [vu x2.bits,vs x2.text])] :: M32 :: [(pb3,oc 26 [c7])] :: [(pb5,oc 82 [(Value.func (.func 36) #[] #[])])] :: S) w:=(ok.pk 10 [2,7,8,0,3,4,5,1,6,9] rfl (by decide))
  refine lc E qnV rfl (qh8 N _ x35 h45 x4 h11 v28 r30 x0 h2 x1 r3 l4 x2 r5 l6 e52 ok) fun w ok a E=>wn<|qag (cl1 (cq le_m0 ok [3,0,4,5,6,8,1,2,9] rfl) (cq le_m0 ok [3,0,4,5,6,8,1,2,9] rfl)) fun hT=>?_
  obtain ⟨b63,o64,hp65,yy66⟩:=qbf qbD h33 e54 (P:=Tryd.prog) (X:=.tmp 19) (I:=.tmp 20) (kd:=.i64) (qay E rfl) (qay E rfl)
  refine kt 5 E rfl hT (yy66 _ _) fun a E=>qar [6] (by kernel_rfl) rfl (qas ?_)
  ·refine wo rfl<|qcv (R:=pB) E ok 7 rfl h33 e54 hp65 rfl rfl qmV rfl rfl rfl ⟨rfl,trivial⟩ qeo e60 rfl fun M67 w ok h68=>wn<|qag (cl1 (cq le_m0 ok [3,0,4,5,6,8,1,2,9] rfl) (cq le_m0 ok [3,0,4,5,6,8,1,2,9] rfl)) fun hT=>qaM (by kernel_rfl) ?_
   exact ⟨rfl,⟨c31,M67,(ok.pk 10 [3,7,0,4,5,6,8,1,2,9] rfl (by decide)),E.keep [2,3,4,6,12,13,14],h68⟩⟩
def qhJ (u:World) (m0:Mem) (S:Segs) (pb0:Nat) (pb1:Nat) (pb2:Nat) (x0:List (List (List (Relation)))) (c1:Value) (x1:List (Int)) (c3:Value) (M4:List (Nat × Obj)) (r:(List UInt8) × Bool) (a:Act) (w:World):Prop :=
 Ok u m0 ([(pb0,oc 26 [c1])] :: [(pb1,oc 83 [c3])] :: M4 :: [(pb2,oc 82 [(Value.func (.func 36) #[] #[])])] :: S) w ∧ a.defers = [] ∧ RVs Tryd.prog a w [.t 4 (.string (bs r.1)),.t 5 (.bool r.2)] ∧ r.1.length ≤ LIMS
theorem qhK (N:Nat) (vx_0:Value) (x_0:Option (qak)) (hx_0:(pP 3 qeR) m0 [vx_0] x_0) {pb0:Nat} {c1:Value} (x0:List (List (List (Relation)))) (h2:(pL 1 (pL 1 (pL 4 qan))) m0 [c1] x0) {pb1:Nat} {c3:Value} {M4:List (Nat × Obj)} (x1:List (Int)) (h5:ORow 3 1 (pI .i64) m0 c3 x1 M4) {pb2:Nat} {r:(List UInt8) × Bool} (hF:qcF N x_0 x0 x1 = some r) (ok:Ok u m0 ([(pb0,oc 26 [c1])] :: [(pb1,oc 83 [c3])] :: M4 :: [(pb2,oc 82 [(Value.func (.func 36) #[] #[])])] :: S) w) :
  Calls Tryd.prog 52 [vx_0,Value.func (.func 53) #[] #[.pointer (some ⟨pb0,0,none⟩),.pointer (some ⟨pb1,0,none⟩),.pointer (some ⟨pb2,0,none⟩)]].toArray w fun e w'=>(e = .returned (.tuple [(.string (bs r.1)),(.bool r.2)].toArray) ∧ Ok u m0 ([(pb0,oc 26 [c1])] :: [(pb1,oc 83 [c3])] :: M4 :: [(pb2,oc 82 [(Value.func (.func 36) #[] #[])])] :: S) w') ∧ r.1.length ≤ LIMS:=by
 unfold qcF at hF
 refine en (qhJ u m0 S pb0 pb1 pb2 x0 c1 x1 c3 M4) r Tryd.func52 rfl rfl rfl (by rintro a w ⟨ok,hd,hrv,h0⟩; exact qbC [.t 4 (.string (bs r.1)),.t 5 (.bool r.2)] hd rfl hrv ⟨⟨rfl,ok⟩,h0⟩) fun fin a E=>sg<|qk0 (cs:=[vx_0]) E ok rfl (qoe hx_0) rfl rfl fun b6 a w E ok=>av E rfl fun a E=>aw E rfl fun a E=>sg<|av E rfl fun a E=>aw E rfl fun a E=>wp_seq<|sg<|ld E ok qjv 0 rfl rfl rfl fun a E=>?_
 obtain ⟨y7,e8,hF⟩:=bnd hF
 obtain ⟨b9,o10,es11,hv12,hl13,hR14,at15⟩:=qjz hx_0 e8
 obtain ⟨c16,c18,c20,rfl,h17,h19,h21⟩:=hR14
 refine lv E ok (qg9 hv12 rfl) fun a E=>fv E qkf rfl fun a E=>lv E ok (qai qiK rfl (qab.ro (At.sub 1 1 at15))) fun a E=>lv E ok (qaz qgg h19 rfl) fun a E=>mv E rfl fun a E=>wn<|wp_block<|bd hF fun o24 hL hF=>qaH _ (fun (s:(List UInt8) × Bool × Int) a w=>Ok u m0 ([(b6,oc 106 [vx_0])] :: [(pb0,oc 26 [c1])] :: [(pb1,oc 83 [c3])] :: M4 :: [(pb2,oc 82 [(Value.func (.func 36) #[] #[])])] :: S) w ∧ Env 58 a [(1,(Value.func (.func 53) #[] #[.pointer (some ⟨pb0,0,none⟩),.pointer (some ⟨pb1,0,none⟩),.pointer (some ⟨pb2,0,none⟩)])),(2,vp b6),(6,vs s.1),(7,vb s.2.1),(16,c18),(17,(vi (y7.wholes.length:Int))),(18,vi s.2.2)] ∧ s.1.length ≤ LIMS ∧ InR .i64 s.2.2) (fun (b:((List UInt8) × Bool)) e a w=>e = (.exit 0) ∧ Ok u m0 ([(b6,oc 106 [vx_0])] :: [(pb0,oc 26 [c1])] :: [(pb1,oc 83 [c3])] :: M4 :: [(pb2,oc 82 [(Value.func (.func 36) #[] #[])])] :: S) w ∧ Env 58 a [(6,vs b.1),(7,vb b.2)] ∧ b.1.length ≤ LIMS) ?_ ?_ N _ a w hL ⟨ok,E.keep [1,2,6,7,16,17,18],(show ([]:List UInt8).length ≤ LIMS by decide),(ir 0)⟩
 rotate_left
 ·intro e a w _ hO
  obtain ⟨rfl,ok,E,l103⟩:=hO
  refine qaN<|qaa<|sg<|mz E rfl rfl fun a E=>av E rfl fun a E=>av E rfl fun a E=>wn<|wp_ret ?_
  exact fin hF ⟨ok.drop,E.d,⟨rv_t E rfl,rv_t E rfl,trivial⟩,l103⟩
 rintro ⟨v27,v28,v29⟩ a w r ⟨ok,E,l30,r31⟩ hF
 replace hF:qbO N x_0 x0 x1 y7 v27 v28 v29 = some r:=hF
 unfold qbO at hF
 refine sg<|lw E (qaC rfl rfl) fun a E=>wn<|wp_seq<|cg E rfl hF (fun c32 hF=>?_) fun c32 hF=>?_
 ·refine wp_exit<|qaE ?_
  cases hF
  exact so (⟨rfl,⟨ok,E.keep [6,7],l30⟩⟩)
 refine wp_skip<|qaa<|wp_seq<|wp_block<|sg ?_
 obtain ⟨x33,e34,hF⟩:=bnd hF
 obtain ⟨b35,o36,es37,hl38,rr39,at40,yy41⟩:=ia E 16 18 qgg h19 e34
 obtain ⟨rfl,r42,l43⟩:=rr39
 refine lv E ok (yy41 _ _) fun a E=>lv E ok (qaj (cs:=[vu x33.bits,vs x33.text]) qhu rfl rfl (qab.ro at40)) fun a E=>qaw E ok qf9 rfl rfl fun b44 a w E ok=>qaf E ok 0 rfl rfl rfl qjV rfl rfl ⟨rfl,rfl,trivial⟩ rfl rfl fun w ok=>wn<|sg<|ld E ok qjv 1 rfl rfl rfl fun a E=>?_
 obtain ⟨y45,e46,hF⟩:=bnd hF
 obtain ⟨b47,o48,es49,hv50,hl51,hR52,at53⟩:=qjz hx_0 e46
 obtain ⟨c54,c56,c58,rfl,h55,h57,h59⟩:=hR52
 refine lv E ok (qg9 hv50 rfl) fun a E=>fv E qkt rfl fun a E=>lv E ok (qai qiK rfl (qab.ro (At.sub 2 1 at53))) fun a E=>lv E ok (qaz qgg h59 rfl) fun a E=>mv E rfl fun a E=>wn<|wp_block<|bd hF fun o62 hL hF=>qaH _ (fun (s:(List UInt8) × Bool × Int) a w=>Ok u m0 ([(b44,oc 137 [vu x33.bits,vs x33.text])] :: [(b6,oc 106 [vx_0])] :: [(pb0,oc 26 [c1])] :: [(pb1,oc 83 [c3])] :: M4 :: [(pb2,oc 82 [(Value.func (.func 36) #[] #[])])] :: S) w ∧ Env 58 a [(1,(Value.func (.func 53) #[] #[.pointer (some ⟨pb0,0,none⟩),.pointer (some ⟨pb1,0,none⟩),.pointer (some ⟨pb2,0,none⟩)])),(2,vp b6),(6,vs s.1),(7,vb s.2.1),(9,vp b44),(16,c18),(17,(vi (y7.wholes.length:Int))),(18,vi v29),(25,c58),(26,(vi (y45.fraction.length:Int))),(27,vi s.2.2)] ∧ s.1.length ≤ LIMS ∧ InR .i64 s.2.2) (fun (b:((List UInt8) × Bool)) e a w=>e = (.exit 2) ∧ Ok u m0 ([(b44,oc 137 [vu x33.bits,vs x33.text])] :: [(b6,oc 106 [vx_0])] :: [(pb0,oc 26 [c1])] :: [(pb1,oc 83 [c3])] :: M4 :: [(pb2,oc 82 [(Value.func (.func 36) #[] #[])])] :: S) w ∧ Env 58 a [(1,(Value.func (.func 53) #[] #[.pointer (some ⟨pb0,0,none⟩),.pointer (some ⟨pb1,0,none⟩),.pointer (some ⟨pb2,0,none⟩)])),(2,vp b6),(6,vs b.1),(7,vb b.2),(16,c18),(17,(vi (y7.wholes.length:Int))),(18,vi v29)] ∧ b.1.length ≤ LIMS) ?_ ?_ N _ a w hL ⟨ok,E.keep [1,2,6,7,9,16,17,18,25,26,27],l30,(ir 0)⟩
 rotate_left
 ·intro e a w _ hO
  obtain ⟨rfl,ok,E,l101⟩:=hO
  refine qaN<|qap<|qaa<|qac<|lw E (qaA rfl rfl (InR.inc r31 (qal h19) c32)) fun a E=>mv E rfl fun a E=>wpList_nil ?_
  cases hF
  exact qau ⟨(ok.pk 6 [1,2,3,4,5] rfl (by decide)),E.keep [1,2,6,7,16,17,18],l101,(InR.inc r31 (qal h19) c32)⟩
 rintro ⟨v65,v66,v67⟩ a w r ⟨ok,E,l68,r69⟩ hF
 replace hF:qbv N x_0 x0 x1 x33 y45 v65 v66 v67 = some r:=hF
 unfold qbv at hF
 refine sg<|lw E (qaC rfl rfl) fun a E=>wn<|wp_seq<|cg E rfl hF (fun c70 hF=>?_) fun c70 hF=>?_
 ·refine wp_exit<|qaE ?_
  cases hF
  exact so (⟨rfl,⟨ok,E.keep [1,2,6,7,16,17,18],l68⟩⟩)
 refine wp_skip<|qaa<|wp_seq<|wp_block<|sg ?_
 obtain ⟨x71,e72,hF⟩:=bnd hF
 obtain ⟨b73,o74,es75,hl76,rr77,at78,yy79⟩:=ia E 25 27 qgg h59 e72
 obtain ⟨rfl,r80,l81⟩:=rr77
 refine lv E ok (yy79 _ _) fun a E=>lv E ok (qaj (cs:=[vu x71.bits,vs x71.text]) qhu rfl rfl (qab.ro at78)) fun a E=>qaw E ok qf9 rfl rfl fun b82 a w E ok=>qaf E ok 0 rfl rfl rfl qjV rfl rfl ⟨rfl,rfl,trivial⟩ rfl rfl fun w ok=>wn<|sg<|fk E ok qgD qfH rfl 1 rfl rfl fun a E=>aw E rfl fun a E=>wp_seq<|sg<|fk E ok qgD qfH rfl 0 rfl rfl fun a E=>lw E (qq8 rfl rfl) fun a E=>wn<|bd hF fun o83 hJ hF=>qaO (Q':=fun e a w=>e = .normal ∧ Ok u m0 ([(b82,oc 137 [vu x71.bits,vs x71.text])] :: [(b44,oc 137 [vu x33.bits,vs x33.text])] :: [(b6,oc 106 [vx_0])] :: [(pb0,oc 26 [c1])] :: [(pb1,oc 83 [c3])] :: M4 :: [(pb2,oc 82 [(Value.func (.func 36) #[] #[])])] :: S) w ∧ Env 58 a [(1,(Value.func (.func 53) #[] #[.pointer (some ⟨pb0,0,none⟩),.pointer (some ⟨pb1,0,none⟩),.pointer (some ⟨pb2,0,none⟩)])),(2,vp b6),(6,vs v65),(7,vb v66),(9,vp b44),(11,vp b82),(12,vs o83),(16,c18),(17,(vi (y7.wholes.length:Int))),(18,vi v29),(25,c58),(26,(vi (y45.fraction.length:Int))),(27,vi v67)] ∧ o83.length ≤ LIMS) ?_ ?_
 ·have hF:=hJ
  refine cg E rfl hF (fun c85 hF=>?_) fun c85 hF=>?_
  ·refine wp_skip ?_
   cases hF
   exact ⟨rfl,⟨ok,E.keep [1,2,6,7,9,11,12,16,17,18,25,26,27],l43⟩⟩
  refine qac<|mv E rfl fun a E=>fk E ok qgD qfH rfl 0 rfl rfl fun a E=>bd hF fun s86 e87 hF=>lw E (qfr rfl rfl e87) fun a E=>bd hF fun s88 e89 hF=>lw E (qfr rfl rfl e89) fun a E=>av E rfl fun a E=>wpList_nil ?_
  cases hF
  exact ⟨rfl,⟨ok,E.keep [1,2,6,7,9,11,12,16,17,18,25,26,27],(qew e89)⟩⟩
 intro e a w hO
 obtain ⟨rfl,ok,E,l90⟩:=hO
 refine qaa<|sg<|mv E rfl fun a E=>lw E (qbW rfl) fun a E=>mv E rfl fun a E=>bu E 43 hF (fun c91 hF E=>?_) fun c91 hF E=>?_
 ·refine lsq E fun a E=>ls E fun a E=>pt E rfl rfl fun a E=>mz E rfl rfl fun a E=>lv E ok (qc4 (caps:=[.tmp 2,.tmp 9,.tmp 11]) rfl) fun a E=>?_
  obtain ⟨r92,e93,hF⟩:=bnd hF
  replace ok:Ok u m0 ([(b6,oc 106 [vx_0])] :: [(b44,oc 137 [vu x33.bits,vs x33.text])] :: [(b82,oc 137 [vu x71.bits,vs x71.text])] :: [(pb0,oc 26 [c1])] :: [(pb1,oc 83 [c3])] :: M4 :: [(pb2,oc 82 [(Value.func (.func 36) #[] #[])])] :: S) w:=(ok.pk 7 [2,1,0,3,4,5,6] rfl (by decide))
  refine qfY E rfl qnR rfl (qgt N x_0 hx_0 x33 r42 l43 x71 r80 l81 x0 h2 x1 h5 e93 ok) rfl rfl ?_
  rintro _ w ⟨rfl,ok⟩
  refine ⟨_,rfl,fun a E=>?_⟩
  refine pt E rfl rfl fun a E=>wn<|cg E rfl hF (fun c94 hF=>?_) fun c94 hF=>?_
  ·refine wp_skip<|qap<|qaa<|qac<|lw E (qaA rfl rfl (InR.inc r69 (qal h59) c70)) fun a E=>mv E rfl fun a E=>wpList_nil ?_
   cases hF
   exact qau ⟨(ok.pk 7 [1,0,3,4,5,6] rfl (by decide)),E.keep [1,2,6,7,9,16,17,18,25,26,27],l68,(InR.inc r69 (qal h59) c70)⟩
  refine qac<|mv E rfl fun a E=>av E rfl fun a E=>av E rfl fun a E=>wpList_nil<|qap<|qaa<|qac<|lw E (qaA rfl rfl (InR.inc r69 (qal h59) c70)) fun a E=>mv E rfl fun a E=>wpList_nil ?_
  cases hF
  exact qau ⟨(ok.pk 7 [1,0,3,4,5,6] rfl (by decide)),E.keep [1,2,6,7,9,16,17,18,25,26,27],l90,(InR.inc r69 (qal h59) c70)⟩
 refine mz E rfl rfl fun a E=>bd hF fun r95 e96 hF=>lc E qr9 rfl (qjn N o83 l90 v65 l68 e96 ok) fun w ok a E=>pf E rfl rfl fun a E=>mv E rfl fun a E=>qdv r95 (fun c97=>?_) (fun c97=>?_)
 rotate_left
 ·have hF:=qdc c97 hF
  have E:=E.upd 48 c97 rfl
  refine lsq E fun a E=>ls E fun a E=>pf E rfl rfl fun a E=>wn<|c_if E rfl (fun h=>by cases h) (fun _=>?_)
  refine wp_skip<|qap<|qaa<|qac<|lw E (qaA rfl rfl (InR.inc r69 (qal h59) c70)) fun a E=>mv E rfl fun a E=>wpList_nil ?_
  cases hF
  exact qau ⟨(ok.pk 7 [1,2,3,4,5,6] rfl (by decide)),E.keep [1,2,6,7,9,16,17,18,25,26,27],l68,(InR.inc r69 (qal h59) c70)⟩
 have hF:=qdd c97 hF
 have E:=E.upd 48 c97 rfl
 refine mv E rfl fun a E=>lv E ok (qc4 (caps:=[.tmp 2,.tmp 9,.tmp 11]) rfl) fun a E=>?_
 obtain ⟨r98,e99,hF⟩:=bnd hF
 replace ok:Ok u m0 ([(b6,oc 106 [vx_0])] :: [(b44,oc 137 [vu x33.bits,vs x33.text])] :: [(b82,oc 137 [vu x71.bits,vs x71.text])] :: [(pb0,oc 26 [c1])] :: [(pb1,oc 83 [c3])] :: M4 :: [(pb2,oc 82 [(Value.func (.func 36) #[] #[])])] :: S) w:=(ok.pk 7 [2,1,0,3,4,5,6] rfl (by decide))
 refine qfY E rfl qnR rfl (qgt N x_0 hx_0 x33 r42 l43 x71 r80 l81 x0 h2 x1 h5 e99 ok) rfl rfl ?_
 rintro _ w ⟨rfl,ok⟩
 refine ⟨_,rfl,fun a E=>?_⟩
 refine pt E rfl rfl fun a E=>wn<|cg E rfl hF (fun c100 hF=>?_) fun c100 hF=>?_
 ·refine wp_skip<|qap<|qaa<|qac<|lw E (qaA rfl rfl (InR.inc r69 (qal h59) c70)) fun a E=>mv E rfl fun a E=>wpList_nil ?_
  cases hF
  exact qau ⟨(ok.pk 7 [1,0,3,4,5,6] rfl (by decide)),E.keep [1,2,6,7,9,16,17,18,25,26,27],l68,(InR.inc r69 (qal h59) c70)⟩
 refine qac<|mv E rfl fun a E=>av E rfl fun a E=>av E rfl fun a E=>wpList_nil<|qap<|qaa<|qac<|lw E (qaA rfl rfl (InR.inc r69 (qal h59) c70)) fun a E=>mv E rfl fun a E=>wpList_nil ?_
 cases hF
 exact qau ⟨(ok.pk 7 [1,0,3,4,5,6] rfl (by decide)),E.keep [1,2,6,7,9,16,17,18,25,26,27],l90,(InR.inc r69 (qal h59) c70)⟩
def qkH (u:World) (m0:Mem) (S:Segs) (r:(List UInt8) × Bool) (a:Act) (w:World):Prop :=
 Ok u m0 S w ∧ a.defers = [] ∧ RVs Tryd.prog a w [.t 4 (.string (bs r.1)),.t 5 (.bool r.2)] ∧ r.1.length ≤ LIMS
theorem qkN (N:Nat) (vl_0:Value) (l_0:List (List (List (Relation)))) (hl_0:(pL 1 (pL 1 (pL 4 qan))) m0 [vl_0] l_0) {r:(List UInt8) × Bool} (hF:qe3 N l_0 = some r) (hTb:Tab u) (ok:Ok u m0 S w) :
  Calls Tryd.prog 35 [vl_0,.func (.func 36) #[] #[]].toArray w fun e w'=>(e = .returned (.tuple [(.string (bs r.1)),(.bool r.2)].toArray) ∧ Ok u m0 S w') ∧ r.1.length ≤ LIMS:=by
 have hb0:=ok.base
 have le_m0:=Mem.le.refl m0
 unfold qe3 at hF
 refine en (qkH u m0 S) r Tryd.func35 rfl rfl rfl (by rintro a w ⟨ok,hd,hrv,h0⟩; exact qbC [.t 4 (.string (bs r.1)),.t 5 (.bool r.2)] hd rfl hrv ⟨⟨rfl,ok⟩,h0⟩) fun fin a E=>sg<|qk0 (cs:=[vl_0]) E ok rfl (qcj hl_0) rfl rfl fun b1 a w E ok=>qbQ E ok rfl rfl rfl fun b2 a w E ok=>av E rfl fun a E=>av E rfl fun a E=>wn<|sg<|aw E rfl fun a E=>sg<|ld E ok qib 1 rfl rfl rfl fun a E=>lv E ok (qaz qdM hl_0 rfl) fun a E=>bd hF fun l3 e4 hF=>qbR (R:=(pI .i64)) E ok qaR qdI rfl (qaW (ir 0)) rfl e4 rfl rfl fun c5 M6 a w E ok h7=>qaw E ok qgO rfl rfl fun b8 a w E ok=>qaf E ok 0 rfl rfl rfl qj1 (ORow.cells h7) rfl ⟨(ORow.one h7),trivial⟩ rfl rfl fun w ok=>wn<|wp_seq<|sg ?_
 refine ld E ok qib 3 rfl rfl rfl fun a E=>lv E ok (qaz qdM hl_0 rfl) fun a E=>mv E rfl fun a E=>wn<|wp_block ?_
 obtain ⟨M17,ok,h18⟩:=qd1 (e:=54) (k:=4) (R:=qan) ok
 refine bd hF fun o19 hL hF=>qaH _ (fun (s:(List (Relation)) × Int × (List (Int))) a w=>∃ m20 c21 M22 c25 M26,m0.le m20 ∧ Ok u m20 (M22 :: [(b8,oc 83 [c25])] :: M26 :: [(b2,oc 82 [(Value.func (.func 36) #[] #[])])] :: [(b1,oc 26 [vl_0])] :: S) w ∧ Env 36 a [(2,vp b1),(3,vp b2),(6,c21),(7,vp b8),(13,vl_0),(14,(vi (l_0.length:Int))),(15,vi s.2.1)] ∧ ORow 54 4 qan m20 c21 s.1 M22 ∧ InR .i64 s.2.1 ∧ ORow 3 1 (pI .i64) m20 c25 s.2.2 M26) (fun (b:((List (Int)) × (List (Relation)))) e a w=>e = (.exit 0) ∧ ∃ m88 c89 M90 c92 M93,m0.le m88 ∧ Ok u m88 (M93 :: [(b8,oc 83 [c89])] :: M90 :: [(b2,oc 82 [(Value.func (.func 36) #[] #[])])] :: [(b1,oc 26 [vl_0])] :: S) w ∧ Env 36 a [(2,vp b1),(3,vp b2),(6,c92),(7,vp b8)] ∧ ORow 3 1 (pI .i64) m88 c89 b.1 M90 ∧ ORow 54 4 qan m88 c92 b.2 M93) ?_ ?_ N _ a w hL ⟨m0,(Value.slice none 0 0),M17,c5,M6,Mem.le.refl _,ok,E.keep [2,3,6,7,13,14,15],h18,(ir 0),h7⟩
 rotate_left
 ·intro e a w _ hO
  obtain ⟨rfl,m71,c72,M73,c75,M76,hle,ok,E,h74,h77⟩:=hO
  have le_m0:=le_m0.trans hle
  have hl_0:=(mL (mL (mL qad))).up hle hl_0
  refine qaN<|qaa<|sg<|mv E rfl fun a E=>?_
  obtain ⟨m78,hle,ok,hfz⟩:=(ok.frs 0 rfl).freeze
  have h79:=ORow.froz qad h77 hle hfz (by decide)
  have le_m0:=le_m0.trans hle
  have hl_0:=(mL (mL (mL qad))).up hle hl_0
  have h74:=ORow.up (mI .i64) hle h74
  refine bd hF fun r80 e81 hF=>qao E qsi rfl (qhM N _ o19.2 h79 e81 hTb ok) rfl rfl ?_
  rintro _ w ⟨m82,c83,rfl,hle,ok,h84⟩
  have le_m0:=le_m0.trans hle
  have hl_0:=(mL (mL (mL qad))).up hle hl_0
  have h74:=ORow.up (mI .i64) hle h74
  have h79:=(mL qad).up hle h79
  refine ⟨_,rfl,fun a E=>?_⟩
  refine lv E ok (qc4 (caps:=[.tmp 2,.tmp 7,.tmp 3]) rfl) fun a E=>?_
  obtain ⟨r85,e86,hF⟩:=bnd hF
  replace ok:Ok u m82 ([(b1,oc 26 [vl_0])] :: [(b8,oc 83 [c72])] :: M73 :: [(b2,oc 82 [(Value.func (.func 36) #[] #[])])] :: S) w:=(ok.pk 4 [3,0,1,2] rfl (by decide))
  refine qao E qr5 rfl (qhK N _ r80 h84 l_0 hl_0 o19.1 h74 e86 ok) rfl rfl ?_
  rintro _ w ⟨⟨rfl,ok⟩,l87⟩
  refine ⟨_,rfl,fun a E=>?_⟩
  refine lw E (qaF rfl rfl) fun a E=>lw E (qaF rfl rfl) fun a E=>av E rfl fun a E=>aw E rfl fun a E=>wp_ret ?_
  exact fin hF ⟨(ok.drop.drop.drop.drop).down hb0 le_m0,E.d,⟨rv_t E rfl,rv_t E rfl,trivial⟩,l87⟩
 rintro ⟨v28,v29,v30⟩ a w r ⟨m31,c32,M33,c36,M37,hle,ok,E,h34,r35,h38⟩ hF
 replace hF:qbV N l_0 v28 v29 v30 = some r:=hF
 unfold qbV at hF
 have le_m0:=le_m0.trans hle
 have hl_0:=(mL (mL (mL qad))).up hle hl_0
 refine sg<|lw E (qaC rfl rfl) fun a E=>wn<|wp_seq<|cg E rfl hF (fun c39 hF=>?_) fun c39 hF=>?_
 ·refine wp_exit<|qaE ?_
  cases hF
  exact so (⟨rfl,⟨m31,c36,M37,c32,M33,le_m0,ok,E.keep [2,3,6,7],h38,h34⟩⟩)
 refine wp_skip<|qaa<|wp_seq<|wp_block<|sg<|mv E rfl fun a E=>?_
 obtain ⟨x40,e41,hF⟩:=bnd hF
 obtain ⟨b42,o43,es44,hl45,rr46,at47,yy48⟩:=ia E 13 15 qdM hl_0 e41
 obtain ⟨c49,rfl,h50⟩:=qbG rr46
 refine lv E ok (yy48 _ _) fun a E=>lv E ok (qai qfV rfl (qab.ro at47)) fun a E=>av E rfl fun a E=>aw E rfl fun a E=>sg<|ld E ok qcs 1 rfl rfl rfl fun a E=>mz E rfl rfl fun a E=>lv E ok (qcz qbr h34 rfl) fun a E=>?_
 obtain ⟨x51,e52,hF⟩:=bnd hF
 obtain ⟨b53,o54,hp55,yy56⟩:=qbf qaR h38 e52 (P:=Tryd.prog) (X:=.tmp 20) (I:=.tmp 21) (kd:=.i64) (qay E rfl) (qay E rfl)
 refine lv E ok (yy56 _ _) fun a E=>bd hF fun l57 e58 hF=>qcv (R:=(pI .i64)) E ok 2 rfl h38 e52 hp55 rfl rfl qbp rfl rfl rfl ⟨rfl,trivial⟩ (qaW (ORow.InR h34)) e58 rfl fun M59 w ok h60=>wn<|qac<|mz E rfl rfl fun a E=>bd hF fun r61 e62 hF=>qao E qp3 rfl (qgH N _ x40 h50 e62 ok) rfl rfl ?_
 rintro _ w ⟨m63,c64,rfl,hle,ok,h65⟩
 have le_m0:=le_m0.trans hle
 have hl_0:=(mL (mL (mL qad))).up hle hl_0
 have h34:=ORow.up qad hle h34
 have h50:=(mL (mL qad)).up hle h50
 have at47:=At.up hle at47
 have h60:=ORow.up (mI .i64) hle h60
 refine ⟨_,rfl,fun a E=>?_⟩
 refine bd hF fun l66 e67 hF=>qdn (R:=qan) E ok 0 qad qbr Tryd.underlying50 rfl h34 (qbP.ofL h65 ok) e67 ⟨_,qds,rfl⟩ rfl rfl rfl rfl fun c68 M69 a w E ok h70=>av E rfl fun a E=>wpList_nil<|qap<|qaa<|qac<|lw E (qaA rfl rfl (InR.inc r35 (qal hl_0) c39)) fun a E=>mv E rfl fun a E=>wpList_nil ?_
 cases hF
 exact qau ⟨m63,c68,M69,c36,M59,le_m0,ok,E.keep [2,3,6,7,13,14,15],h70,(InR.inc r35 (qal hl_0) c39),h60⟩
def qkE (u:World) (m0:Mem) (S:Segs) (r:(List UInt8) × Bool × Int) (a:Act) (w:World):Prop :=
 Ok u m0 S w ∧ a.defers = [] ∧ RVs Tryd.prog a w [.t 4 (.string (bs r.1)),.t 5 (.bool r.2.1),.t 6 (.int .i64 r.2.2)] ∧ r.1.length ≤ LIMS ∧ InR .i64 r.2.2
theorem qkR (N:Nat) (va_0:Value) (a_0:List (List (Relation))) (ha_0:(pL 1 (pL 4 qan)) m0 [va_0] a_0) (vb_1:Value) (b_1:List (List (Relation))) (hb_1:(pL 1 (pL 4 qan)) m0 [vb_1] b_1) {r:(List UInt8) × Bool × Int} (hF:qeT N a_0 b_1 = some r) (hTb:Tab u) (ok:Ok u m0 S w) :
  Calls Tryd.prog 10 [va_0,vb_1].toArray w fun e w'=>(e = .returned (.tuple [(.string (bs r.1)),(.bool r.2.1),(.int .i64 r.2.2)].toArray) ∧ Ok u m0 S w') ∧ r.1.length ≤ LIMS ∧ InR .i64 r.2.2:=by
 unfold qeT at hF
 refine en (qkE u m0 S) r Tryd.func10 rfl rfl rfl (by rintro a w ⟨ok,hd,hrv,h0,h1⟩; exact qbC [.t 4 (.string (bs r.1)),.t 5 (.bool r.2.1),.t 6 (.int .i64 r.2.2)] hd rfl hrv ⟨⟨rfl,ok⟩,h0,h1⟩) fun fin a E=>sg<|av E rfl fun a E=>av E rfl fun a E=>aw E rfl fun a E=>wp_seq<|sg<|mv E rfl fun a E=>bd hF fun r1 e2 hF=>lc E qnX rfl (qfQ N _ a_0 ha_0 e2 ok) fun w ok a E=>lw E (qbW rfl) fun a E=>mv E rfl fun a E=>bu E 12 hF (fun c3 hF E=>?_) fun c3 hF E=>?_
 ·refine lsq E fun a E=>ls E fun a E=>pt E rfl rfl fun a E=>wn<|c_if E rfl (fun _=>?_) (fun h=>by cases h)
  refine sg<|av E rfl fun a E=>av E rfl fun a E=>aw E rfl fun a E=>wp_ret<|qav ?_
  exact fin hF ⟨ok,E.d,⟨rv_t E rfl,rv_t E rfl,rv_t E rfl,trivial⟩,(show ([]:List UInt8).length ≤ LIMS by decide),(ir 1)⟩
 refine mv E rfl fun a E=>bd hF fun r4 e5 hF=>lc E qnX rfl (qfQ N _ b_1 hb_1 e5 ok) fun w ok a E=>lw E (qbW rfl) fun a E=>pf E rfl rfl fun a E=>wn<|cf E rfl hF (fun c6 hF=>?_) fun c6 hF=>?_
 ·refine sg<|av E rfl fun a E=>av E rfl fun a E=>aw E rfl fun a E=>wp_ret<|qav ?_
  exact fin hF ⟨ok,E.d,⟨rv_t E rfl,rv_t E rfl,rv_t E rfl,trivial⟩,(show ([]:List UInt8).length ≤ LIMS by decide),(ir 1)⟩
 refine wp_skip<|qaa<|sg<|mz E rfl rfl fun a E=>qbH (R:=(pL 1 (pL 4 qan))) (xo:=[.tmp 18,.tmp 19]) (xs:=([a_0,b_1]:List (List (List (Relation))))) E ok qdM qjF rfl ⟨⟨_,(qcj ha_0),rfl,ha_0⟩,⟨_,(qcj hb_1),rfl,hb_1⟩,trivial⟩ rfl rfl rfl rfl fun c7 M8 a w E ok h9=>?_
 obtain ⟨r15,e16,hF⟩:=bnd hF
 obtain ⟨m10,hle12,ok11,hfz13⟩:=(ok.frs 0 rfl).freeze
 have h14:=ORow.froz (mL (mL qad)) h9 hle12 hfz13 (by decide)
 refine qao E qsb rfl (qkN N _ ([a_0,b_1]:List (List (List (Relation)))) h14 e16 hTb ok11) rfl rfl ?_
 rintro _ w ⟨⟨rfl,okz⟩,l17⟩
 replace ok:=(Ok.thawAt 0 rfl ok hle12 hfz13 okz)
 refine ⟨_,rfl,fun a E=>?_⟩
 refine mv E rfl fun a E=>lw E (qaF rfl rfl) fun a E=>lw E (qaF rfl rfl) fun a E=>av E rfl fun a E=>aw E rfl fun a E=>sg<|mz E rfl rfl fun a E=>lw E (qbW rfl) fun a E=>av E rfl fun a E=>av E rfl fun a E=>av E rfl fun a E=>wn<|wp_ret ?_
 exact fin hF ⟨ok.drop,E.d,⟨rv_t E rfl,rv_t E rfl,rv_t E rfl,trivial⟩,l17,(ir 0)⟩
end Go.Proofs.YtidfofhmnlhfjaaDoor
