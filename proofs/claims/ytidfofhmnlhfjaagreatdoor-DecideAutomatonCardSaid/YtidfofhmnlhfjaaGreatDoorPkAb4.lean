/- Texts of this proof, put together by pack.py: what its declarations name. -/
import Derived.Test.YtidfofhmnlhfjaaGreatDoorPkAb3
import Derived.Test.YtidfofhmnlhfjaaGreatDoorCards
import Derived.Test.YtidfofhmnlhfjaaGreatDoorChecked
import Derived.Test.YtidfofhmnlhfjaaGreatDoorProg
import Derived.Test.YtidfofhmnlhfjaaGreatDoorRows
import Derived.Test.YtidfofhmnlhfjaaGreatDoorTie
set_option linter.unusedVariables false
set_option linter.unusedSimpArgs false
namespace Go.Proofs.YtidfofhmnlhfjaaGreatDoor
open Go.X
variable {u:World} {m0:Mem} {S:Segs} {w:World}
set_option maxHeartbeats 4000000
set_option maxRecDepth 100000
def pDFA:Rp DFA:=fun m cs x=>∃ c1 c2,cs = [.int .i64 x.Start,c1,c2] ∧ InR .i64 x.Start ∧ (pL 1 (pL 1 (pI .i64))) m [c1] x.Next ∧ (pL 1 pB) m [c2] x.Accept
theorem Arr6_Tracker.set_list {a z:Arr6_Tracker} {i:Int} {x:Tracker} (h:Arr6_Tracker.set a i x = some z):setI a.list i x = some z.list:=by
 unfold Arr6_Tracker.set at h
 cases hs:setI a.list i x with
 | none=>rw [hs] at h; cases h
 | some l =>
  rw [hs] at h
  obtain ⟨_,_,hl⟩:=qhB hs
  have hn:l.length = 6:=by rw [hl,List.length_set]; rfl
  clear hl hs
  match l,hn,h with
  | [x0,x1,x2,x3,x4,x5],_,h=>cases h; rfl
def qcv:Rp Reading:=fun _ cs x=>cs = [.int .i64 x.phase,.int .i64 x.trackers.e0.a,.int .i64 x.trackers.e0.b,.int .i64 x.trackers.e1.a,.int .i64 x.trackers.e1.b,.int .i64 x.trackers.e2.a,.int .i64 x.trackers.e2.b,.int .i64 x.trackers.e3.a,.int .i64 x.trackers.e3.b,.int .i64 x.trackers.e4.a,.int .i64 x.trackers.e4.b,.int .i64 x.trackers.e5.a,.int .i64 x.trackers.e5.b] ∧ InR .i64 x.phase ∧ InR .i64 x.trackers.e0.a ∧ InR .i64 x.trackers.e0.b ∧ InR .i64 x.trackers.e1.a ∧ InR .i64 x.trackers.e1.b ∧ InR .i64 x.trackers.e2.a ∧ InR .i64 x.trackers.e2.b ∧ InR .i64 x.trackers.e3.a ∧ InR .i64 x.trackers.e3.b ∧ InR .i64 x.trackers.e4.a ∧ InR .i64 x.trackers.e4.b ∧ InR .i64 x.trackers.e5.a ∧ InR .i64 x.trackers.e5.b
theorem qnT:Mono qcv:=⟨fun _ h=>by
 obtain ⟨e,h0,h1,h2,h3,h4,h5,h6,h7,h8,h9,h10,h11,h12⟩:=h
 exact ⟨e,h0,h1,h2,h3,h4,h5,h6,h7,h8,h9,h10,h11,h12⟩,fun h=>by
 obtain ⟨rfl,h0,h1,h2,h3,h4,h5,h6,h7,h8,h9,h10,h11,h12⟩:=h
 exact ⟨rfl,rfl,rfl,rfl,rfl,rfl,rfl,rfl,rfl,rfl,rfl,rfl,rfl,trivial⟩⟩
def qbw:Rp Arr11_Int:=fun _ cs x=>cs = [.int .i64 x.e0,.int .i64 x.e1,.int .i64 x.e2,.int .i64 x.e3,.int .i64 x.e4,.int .i64 x.e5,.int .i64 x.e6,.int .i64 x.e7,.int .i64 x.e8,.int .i64 x.e9,.int .i64 x.e10] ∧ InR .i64 x.e0 ∧ InR .i64 x.e1 ∧ InR .i64 x.e2 ∧ InR .i64 x.e3 ∧ InR .i64 x.e4 ∧ InR .i64 x.e5 ∧ InR .i64 x.e6 ∧ InR .i64 x.e7 ∧ InR .i64 x.e8 ∧ InR .i64 x.e9 ∧ InR .i64 x.e10
theorem qbh:Mono qbw:=⟨fun _ h=>by
 obtain ⟨e,h0,h1,h2,h3,h4,h5,h6,h7,h8,h9,h10⟩:=h
 exact ⟨e,h0,h1,h2,h3,h4,h5,h6,h7,h8,h9,h10⟩,fun h=>by
 obtain ⟨rfl,h0,h1,h2,h3,h4,h5,h6,h7,h8,h9,h10⟩:=h
 exact ⟨rfl,rfl,rfl,rfl,rfl,rfl,rfl,rfl,rfl,rfl,rfl,trivial⟩⟩
theorem Arr11_Int.set_list {a z:Arr11_Int} {i:Int} {x:Int} (h:Arr11_Int.set a i x = some z):setI a.list i x = some z.list:=by
 unfold Arr11_Int.set at h
 cases hs:setI a.list i x with
 | none=>rw [hs] at h; cases h
 | some l =>
  rw [hs] at h
  obtain ⟨_,_,hl⟩:=qhB hs
  have hn:l.length = 11:=by rw [hl,List.length_set]; rfl
  clear hl hs
  match l,hn,h with
  | [x0,x1,x2,x3,x4,x5,x6,x7,x8,x9,x10],_,h=>cases h; rfl
def qhb:Rp Table:=fun m cs x=>∃ c0 c1,cs = [c0,c1] ∧ (pL 11 qbw) m [c0] x.next ∧ (pL 1 pB) m [c1] x.accept
def pKey:Rp Key:=fun _ cs x=>cs = [.int .i64 x.class_,.int .i64 x.next.e0,.int .i64 x.next.e1,.int .i64 x.next.e2,.int .i64 x.next.e3,.int .i64 x.next.e4,.int .i64 x.next.e5,.int .i64 x.next.e6,.int .i64 x.next.e7,.int .i64 x.next.e8,.int .i64 x.next.e9,.int .i64 x.next.e10] ∧ InR .i64 x.class_ ∧ InR .i64 x.next.e0 ∧ InR .i64 x.next.e1 ∧ InR .i64 x.next.e2 ∧ InR .i64 x.next.e3 ∧ InR .i64 x.next.e4 ∧ InR .i64 x.next.e5 ∧ InR .i64 x.next.e6 ∧ InR .i64 x.next.e7 ∧ InR .i64 x.next.e8 ∧ InR .i64 x.next.e9 ∧ InR .i64 x.next.e10
theorem mKey:Mono pKey:=⟨fun _ h=>by
 obtain ⟨e,h0,h1,h2,h3,h4,h5,h6,h7,h8,h9,h10,h11⟩:=h
 exact ⟨e,h0,h1,h2,h3,h4,h5,h6,h7,h8,h9,h10,h11⟩,fun h=>by
 obtain ⟨rfl,h0,h1,h2,h3,h4,h5,h6,h7,h8,h9,h10,h11⟩:=h
 exact ⟨rfl,rfl,rfl,rfl,rfl,rfl,rfl,rfl,rfl,rfl,rfl,rfl,trivial⟩⟩
def qbZ:Rp DigitsRead:=fun _ cs x=>cs = [.int .i64 x.phase,.int .i64 x.count,.bool x.zero] ∧ InR .i64 x.phase ∧ InR .i64 x.count
theorem qlT:Mono qbZ:=⟨fun _ h=>by
 obtain ⟨e,h0,h1⟩:=h
 exact ⟨e,h0,h1⟩,fun h=>by
 obtain ⟨rfl,h0,h1⟩:=h
 exact ⟨rfl,rfl,rfl,trivial⟩⟩
theorem qiR:aggB Tryz.prog 129 11 = true:=by kernel_rfl
theorem qot:aggB Tryz.prog 132 12 = true:=by kernel_rfl
theorem qha:aggB Tryz.prog 35 3 = true:=by kernel_rfl
theorem qid:aggB Tryz.prog 75 2 = true:=by kernel_rfl
theorem qbQ:aggB Tryz.prog 78 3 = true:=by kernel_rfl
theorem qdh:aggB Tryz.prog 89 13 = true:=by kernel_rfl
theorem qhs:ArT Tryz.prog 129 3 11 1:=ArT.of (by kernel_rfl)
theorem qhz:ArT Tryz.prog 87 86 6 2:=ArT.of (by kernel_rfl)
theorem qpW:qaH Tryz.prog 132 1 1 = true:=by kernel_rfl
theorem qoy:qaH Tryz.prog 35 1 1 = true:=by kernel_rfl
theorem qf0:qaH Tryz.prog 75 0 0 = true:=by kernel_rfl
theorem qgS:qaH Tryz.prog 75 1 1 = true:=by kernel_rfl
theorem qdR:qaH Tryz.prog 78 0 0 = true:=by kernel_rfl
theorem qfx:qaH Tryz.prog 78 1 1 = true:=by kernel_rfl
theorem qoz:qaH Tryz.prog 78 2 2 = true:=by kernel_rfl
theorem qc5:qaH Tryz.prog 89 0 0 = true:=by kernel_rfl
theorem qgP:qaH Tryz.prog 89 1 1 = true:=by kernel_rfl
theorem qsM:goB Tryz.prog 41 = true:=by kernel_rfl
theorem qs3:goB Tryz.prog 42 = true:=by kernel_rfl
theorem qsU:goB Tryz.prog 43 = true:=by kernel_rfl
theorem qqs:goB Tryz.prog 44 = true:=by kernel_rfl
theorem qqv:goB Tryz.prog 45 = true:=by kernel_rfl
theorem qsy:goB Tryz.prog 48 = true:=by kernel_rfl
theorem qsE:goB Tryz.prog 49 = true:=by kernel_rfl
theorem qs9:goB Tryz.prog 50 = true:=by kernel_rfl
theorem qsz:goB Tryz.prog 51 = true:=by kernel_rfl
theorem qsB:goB Tryz.prog 53 = true:=by kernel_rfl
theorem qsZ:goB Tryz.prog 83 = true:=by kernel_rfl
theorem qs5:goB Tryz.prog 84 = true:=by kernel_rfl
theorem qsD:goB Tryz.prog 85 = true:=by kernel_rfl
theorem qoJ:∃ i,Tryz.prog.info? 129 = some i ∧ i.size = 11:=⟨_,rfl,by kernel_rfl⟩
theorem qrp:∃ i,Tryz.prog.info? 132 = some i ∧ i.size = 12:=⟨_,rfl,by kernel_rfl⟩
theorem qh9:∃ i,Tryz.prog.info? 31 = some i ∧ i.size = 1:=⟨_,rfl,by kernel_rfl⟩
theorem qhd:∃ i,Tryz.prog.info? 32 = some i ∧ i.size = 1:=⟨_,rfl,by kernel_rfl⟩
theorem qg6:∃ i,Tryz.prog.info? 35 = some i ∧ i.size = 3:=⟨_,rfl,by kernel_rfl⟩
theorem qn4:∃ i,Tryz.prog.info? 73 = some i ∧ i.size = 1:=⟨_,rfl,by kernel_rfl⟩
theorem qlh:∃ i,Tryz.prog.info? 75 = some i ∧ i.size = 2:=⟨_,rfl,by kernel_rfl⟩
theorem qcq:∃ i,Tryz.prog.info? 78 = some i ∧ i.size = 3:=⟨_,rfl,by kernel_rfl⟩
theorem qgM:∃ i,Tryz.prog.info? 89 = some i ∧ i.size = 13:=⟨_,rfl,by kernel_rfl⟩
theorem qdf:oneB Tryz.prog 31 = true:=by kernel_rfl
theorem qd3:oneB Tryz.prog 32 = true:=by kernel_rfl
theorem qih:oneB Tryz.prog 73 = true:=by kernel_rfl
theorem qoS:qdP Tryz.prog 132 = some [(0,1),(1,11)]:=by kernel_rfl
theorem qjo:qdP Tryz.prog 35 = some [(0,1),(1,1),(2,1)]:=by kernel_rfl
theorem qbp:qdP Tryz.prog 78 = some [(0,1),(1,1),(2,1)]:=by kernel_rfl
theorem qii:qdP Tryz.prog 89 = some [(0,1),(1,12)]:=by kernel_rfl
theorem qi4:SlT Tryz.prog 128 78 3:=SlT.of (by kernel_rfl)
theorem qi5:SlT Tryz.prog 138 89 13:=SlT.of (by kernel_rfl)
theorem qcA:SlT Tryz.prog 31 72 1:=SlT.of (by kernel_rfl)
theorem qgU:SlT Tryz.prog 73 129 11:=SlT.of (by kernel_rfl)
theorem qlD:qmJ Tryz.prog 3 = some (vi 0):=by kernel_rfl
theorem qfj:qcb Tryz.prog 129 = some [vi 0,vi 0,vi 0,vi 0,vi 0,vi 0,vi 0,vi 0,vi 0,vi 0,vi 0]:=by kernel_rfl
theorem qnB:qcb Tryz.prog 132 = some [vi 0,vi 0,vi 0,vi 0,vi 0,vi 0,vi 0,vi 0,vi 0,vi 0,vi 0,vi 0]:=by kernel_rfl
theorem qfV:qcb Tryz.prog 35 = some [vi 0,(Value.slice none 0 0),(Value.slice none 0 0)]:=by kernel_rfl
theorem qhn:qcb Tryz.prog 75 = some [(Value.slice none 0 0),(Value.slice none 0 0)]:=by kernel_rfl
theorem qby:qcb Tryz.prog 78 = some [vi 0,vi 0,vb false]:=by kernel_rfl
theorem qfU:qcb Tryz.prog 89 = some [vi 0,vi 0,vi 0,vi 0,vi 0,vi 0,vi 0,vi 0,vi 0,vi 0,vi 0,vi 0,vi 0]:=by kernel_rfl
theorem qm6:laidOutB Tryz.prog = true:=by kernel_rfl
theorem qm1:KeyR Tryz.prog 78 (aggK qbZ):=qof (n:=3) qm6 (of_decide_eq_true (by kernel_rfl)) (by kernel_rfl) (of_decide_eq_true (by kernel_rfl)) (of_decide_eq_true (by kernel_rfl)) (by kernel_rfl) (by kernel_rfl)
 (fun {m cs x} h=>by
  obtain ⟨rfl,h0,h1⟩:=h
  rfl)
 (fun {m cs x} d h=>by
  obtain ⟨rfl,h0,h1⟩:=h
  refine qjn Tryz.underlying78 (by kernel_rfl) (by kernel_rfl) ?_
  intro f hf
  simp only [List.mem_cons,List.not_mem_nil,or_false] at hf
  rcases hf with rfl | rfl | rfl
  ·exact qi3 Tryz.underlying3 h0
  ·exact qi3 Tryz.underlying3 h1
  ·exact qqR Tryz.underlying4 _)
 (fun {m m' cs cs' x x'} h h'=>by
  obtain ⟨rfl,_,_⟩:=h
  obtain ⟨rfl,_,_⟩:=h'
  constructor
  ·intro e; simp at e; rcases x with ⟨y0,y1,y2⟩; rcases x' with ⟨y3,y4,y5⟩; simp_all
  ·intro e; rw [e])
theorem qmL:KeyR Tryz.prog 89 (aggK qcv):=qpp (n:=13) qm6 (of_decide_eq_true (by kernel_rfl)) (by kernel_rfl) (of_decide_eq_true (by kernel_rfl)) (of_decide_eq_true (by kernel_rfl)) (by kernel_rfl) (by kernel_rfl)
 (fun {m cs x} h=>by
  obtain ⟨rfl,h0,h1,h2,h3,h4,h5,h6,h7,h8,h9,h10,h11,h12⟩:=h
  rfl)
 (fun {m cs x} d h=>by
  obtain ⟨rfl,h0,h1,h2,h3,h4,h5,h6,h7,h8,h9,h10,h11,h12⟩:=h
  refine qjn Tryz.underlying89 (by kernel_rfl) (by kernel_rfl) ?_
  intro f hf
  simp only [List.mem_cons,List.not_mem_nil,or_false] at hf
  rcases hf with rfl | rfl
  ·exact qi3 Tryz.underlying3 h0
  ·exact qqZ (k:=2) (f:=(fun z:Tracker=>[.int .i64 z.a,.int .i64 z.b])) (xs:=Arr6_Tracker.list (x.trackers)) Tryz.underlying87 (by kernel_rfl) (by kernel_rfl) rfl rfl (fun _=>rfl) (fun y hy=>by have hq:=AllP.mem (q:=(fun z:Tracker=>InR .i64 z.a ∧ InR .i64 z.b)) (xs:=Arr6_Tracker.list (x.trackers)) ⟨⟨h1,h2⟩,⟨h3,h4⟩,⟨h5,h6⟩,⟨h7,h8⟩,⟨h9,h10⟩,⟨h11,h12⟩,trivial⟩ y hy; refine qjn Tryz.underlying86 (by kernel_rfl) (by kernel_rfl) ?_; intro f hf; simp only [List.mem_cons,List.not_mem_nil,or_false] at hf; rcases hf with rfl | rfl <;> first | exact qi3 Tryz.underlying3 hq.1 | exact qi3 Tryz.underlying3 hq.2))
 (fun {m m' cs cs' x x'} h h'=>by
  obtain ⟨rfl,_,_,_,_,_,_,_,_,_,_,_,_,_⟩:=h
  obtain ⟨rfl,_,_,_,_,_,_,_,_,_,_,_,_,_⟩:=h'
  constructor
  ·intro e; simp at e; rcases x with ⟨y0,⟨⟨y1,y2⟩,⟨y3,y4⟩,⟨y5,y6⟩,⟨y7,y8⟩,⟨y9,y10⟩,⟨y11,y12⟩⟩⟩; rcases x' with ⟨y13,⟨⟨y14,y15⟩,⟨y16,y17⟩,⟨y18,y19⟩,⟨y20,y21⟩,⟨y22,y23⟩,⟨y24,y25⟩⟩⟩; simp_all
  ·intro e; rw [e])
theorem qnW:KeyR Tryz.prog 132 (aggK pKey):=qof (n:=12) qm6 (of_decide_eq_true (by kernel_rfl)) (by kernel_rfl) (of_decide_eq_true (by kernel_rfl)) (of_decide_eq_true (by kernel_rfl)) (by kernel_rfl) (by kernel_rfl)
 (fun {m cs x} h=>by
  obtain ⟨rfl,h0,h1,h2,h3,h4,h5,h6,h7,h8,h9,h10,h11⟩:=h
  rfl)
 (fun {m cs x} d h=>by
  obtain ⟨rfl,h0,h1,h2,h3,h4,h5,h6,h7,h8,h9,h10,h11⟩:=h
  refine qjn Tryz.underlying132 (by kernel_rfl) (by kernel_rfl) ?_
  intro f hf
  simp only [List.mem_cons,List.not_mem_nil,or_false] at hf
  rcases hf with rfl | rfl
  ·exact qi3 Tryz.underlying3 h0
  ·exact qsk (f:=(Value.int .i64)) (xs:=Arr11_Int.list (x.next)) Tryz.underlying129 (by kernel_rfl) (by kernel_rfl) rfl rfl (fun y hy=>by have hq:=AllP.mem (q:=(InR .i64)) (xs:=Arr11_Int.list (x.next)) ⟨h1,h2,h3,h4,h5,h6,h7,h8,h9,h10,h11,trivial⟩ y hy; exact qi3 Tryz.underlying3 hq))
 (fun {m m' cs cs' x x'} h h'=>by
  obtain ⟨rfl,_,_,_,_,_,_,_,_,_,_,_,_⟩:=h
  obtain ⟨rfl,_,_,_,_,_,_,_,_,_,_,_,_⟩:=h'
  constructor
  ·intro e; simp at e; rcases x with ⟨y0,⟨y1,y2,y3,y4,y5,y6,y7,y8,y9,y10,y11⟩⟩; rcases x' with ⟨y12,⟨y13,y14,y15,y16,y17,y18,y19,y20,y21,y22,y23⟩⟩; simp_all
  ·intro e; rw [e])
def qjj (u:World) (m0:Mem) (S:Segs) (pb0:Nat) (pb1:Nat) (pb2:Nat) (x0:List (Int)) (c1:Value) (M2:List (Nat × Obj)) (x1:Table) (c4:Value) (c6:Value) (x2:List (Int)) (c8:Value) (M9:List (Nat × Obj)) (r:Int) (a:Act) (w:World):Prop :=
 Ok u m0 ([(pb0,oc 72 [c1])] :: M2 :: [(pb1,oc 75 [c4,c6])] :: [(pb2,oc 72 [c8])] :: M9 :: S) w ∧ a.defers = [] ∧ RVs Tryz.prog a w [.t 7 (.int .i64 r)] ∧ InR .i64 r
theorem qje (N:Nat) (c_0:Int) (rc_0:InR .i64 c_0) (symbol_1:Int) (rsymbol_1:InR .i64 symbol_1) {pb0:Nat} {c1:Value} {M2:List (Nat × Obj)} (x0:List (Int)) (h3:ORow 3 1 (pI .i64) m0 c1 x0 M2) {pb1:Nat} {c4:Value} {c6:Value} (x1:Table) (h5:(pL 11 qbw) m0 [c4] x1.next) (h7:(pL 1 pB) m0 [c6] x1.accept) {pb2:Nat} {c8:Value} {M9:List (Nat × Obj)} (x2:List (Int)) (h10:ORow 3 1 (pI .i64) m0 c8 x2 M9) {r:Int} (hF:qc6 N c_0 symbol_1 x0 x1 x2 = some r) (hG:Glob u) (ok:Ok u m0 ([(pb0,oc 72 [c1])] :: M2 :: [(pb1,oc 75 [c4,c6])] :: [(pb2,oc 72 [c8])] :: M9 :: S) w) :
  Calls Tryz.prog 84 [vi c_0,vi symbol_1,vp pb0,vp pb1,vp pb2].toArray w fun e w'=>(e = .returned (.int .i64 r) ∧ Ok u m0 ([(pb0,oc 72 [c1])] :: M2 :: [(pb1,oc 75 [c4,c6])] :: [(pb2,oc 72 [c8])] :: M9 :: S) w') ∧ InR .i64 r:=by
 unfold qc6 at hF
 refine en (qjj u m0 S pb0 pb1 pb2 x0 c1 M2 x1 c4 c6 x2 c8 M9) r Tryz.func84 rfl rfl rfl (fun _ _ h=>rb h rfl) fun fin a E=>sg<|aw E rfl fun a E=>wp_seq<|qdc (by kernel_rfl) (by kernel_rfl) ok<|qv E (qaj qc3 rfl (qab.own 0 rfl rfl)) fun a E=>qv E (qae qf0 rfl) fun a E=>qv E (qaj qih rfl (qab.own 2 rfl rfl)) fun a E=>qv E (qaj qc3 rfl (qab.own 3 rfl rfl)) fun a E=>qv E (qah rfl) fun a E=>?_
 obtain ⟨x11,e12,hF⟩:=bnd hF
 obtain ⟨b13,o14,hp15,yy16⟩:=qbR qaJ h10 e12 (P:=Tryz.prog) (X:=.tmp 11) (I:=.tmp 12) (kd:=.i64) (qaT E rfl) (qaT E rfl)
 refine qv E (yy16 _ _) fun a E=>?_
 obtain ⟨es17,hl18,rr19,hh20⟩:=qb9 h10 e12 hp15 (by decide)
 obtain ⟨rfl,r21⟩:=rr19
 refine qv E (qaj qak rfl (hh20 _ _ _ 4 rfl)) fun a E=>qv E (qah rfl) fun a E=>?_
 obtain ⟨x22,e23,hF⟩:=bnd hF
 obtain ⟨b24,o25,es26,hl27,rr28,at29,yy30⟩:=ia E 10 14 qgU h5 e23
 obtain ⟨rfl,r31,r32,r33,r34,r35,r36,r37,r38,r39,r40,r41⟩:=rr28
 refine qv E (yy30 _ _) fun a E=>?_
 obtain ⟨x42,e43,hF⟩:=bnd hF
 replace e43:idx (Arr11_Int.list x22) symbol_1 = some x42:=e43
 refine qv E (qb4 qhs rfl rfl (qaN e43).1 (qaN e43).2) fun a E=>qv E (qaj qak rfl (qab.idx (xs:=Arr11_Int.list x22) (f:=(Value.int .i64)) (qab.ro at29) e43)) fun a E=>?_
 obtain ⟨x44,e45,hF⟩:=bnd hF
 obtain ⟨b46,o47,hp48,yy49⟩:=qbR qaJ h3 e45 (P:=Tryz.prog) (X:=.tmp 8) (I:=.tmp 18) (kd:=.i64) (qaT E rfl) (qaT E rfl)
 refine qv E (yy49 _ _) fun a E=>?_
 obtain ⟨es50,hl51,rr52,hh53⟩:=qb9 h3 e45 hp48 (by decide)
 obtain ⟨rfl,r54⟩:=rr52
 refine qv E (qaj qak rfl (hh53 _ _ _ 1 rfl)) fun a E=>qv E (qcZ rfl) fun a E=>wpQuiet_nil ?_
 intro w ok
 refine qaa<|wp_ret ?_
 exact fin hF ⟨ok,E.d,rz E rfl,r54⟩
def qjk (u:World) (m0:Mem) (S:Segs) (pb0:Nat) (pb1:Nat) (x0:Table) (c1:Value) (c3:Value) (x1:List (Int)) (c5:Value) (M6:List (Nat × Obj)) (r:Bool) (a:Act) (w:World):Prop :=
 Ok u m0 ([(pb0,oc 75 [c1,c3])] :: [(pb1,oc 72 [c5])] :: M6 :: S) w ∧ a.defers = [] ∧ RVs Tryz.prog a w [.t 4 (.bool r)]
theorem qjg (N:Nat) (c_0:Int) (rc_0:InR .i64 c_0) {pb0:Nat} {c1:Value} {c3:Value} (x0:Table) (h2:(pL 11 qbw) m0 [c1] x0.next) (h4:(pL 1 pB) m0 [c3] x0.accept) {pb1:Nat} {c5:Value} {M6:List (Nat × Obj)} (x1:List (Int)) (h7:ORow 3 1 (pI .i64) m0 c5 x1 M6) {r:Bool} (hF:qdQ N c_0 x0 x1 = some r) (hG:Glob u) (ok:Ok u m0 ([(pb0,oc 75 [c1,c3])] :: [(pb1,oc 72 [c5])] :: M6 :: S) w) :
  Calls Tryz.prog 85 [vi c_0,vp pb0,vp pb1].toArray w fun e w'=>(e = .returned (.bool r) ∧ Ok u m0 ([(pb0,oc 75 [c1,c3])] :: [(pb1,oc 72 [c5])] :: M6 :: S) w'):=by
 unfold qdQ at hF
 refine en (qjk u m0 S pb0 pb1 x0 c1 c3 x1 c5 M6) r Tryz.func85 rfl rfl rfl (fun _ _ h=>ra h rfl) fun fin a E=>sg<|aw E rfl fun a E=>wp_seq<|qdc (by kernel_rfl) (by kernel_rfl) ok<|qv E (qae qgS rfl) fun a E=>qv E (qaj qd3 rfl (qab.own 0 rfl rfl)) fun a E=>qv E (qaj qc3 rfl (qab.own 1 rfl rfl)) fun a E=>qv E (qah rfl) fun a E=>?_
 obtain ⟨x8,e9,hF⟩:=bnd hF
 obtain ⟨b10,o11,hp12,yy13⟩:=qbR qaJ h7 e9 (P:=Tryz.prog) (X:=.tmp 7) (I:=.tmp 8) (kd:=.i64) (qaT E rfl) (qaT E rfl)
 refine qv E (yy13 _ _) fun a E=>?_
 obtain ⟨es14,hl15,rr16,hh17⟩:=qb9 h7 e9 hp12 (by decide)
 obtain ⟨rfl,r18⟩:=rr16
 refine qv E (qaj qak rfl (hh17 _ _ _ 2 rfl)) fun a E=>?_
 obtain ⟨x19,e20,hF⟩:=bnd hF
 obtain ⟨b21,o22,es23,hl24,rr25,at26,yy27⟩:=ia E 6 10 qce h4 e20
 obtain rfl:=rr25
 refine qv E (yy27 _ _) fun a E=>qv E (qaj qbx rfl (qab.ro at26)) fun a E=>qv E (qcZ rfl) fun a E=>wpQuiet_nil ?_
 intro w ok
 refine qaa<|wp_ret ?_
 exact fin hF ⟨ok,E.d,rz E rfl⟩
def qh0 (u:World) (m0:Mem) (S:Segs) (pb0:Nat) (pb1:Nat) (pb2:Nat) (x0:List (Int)) (c1:Value) (M2:List (Nat × Obj)) (x1:Table) (c4:Value) (c6:Value) (x2:List (Int)) (c8:Value) (M9:List (Nat × Obj)) (r:Table) (a:Act) (w:World):Prop :=
 ∃ m1 v0,m0.le m1 ∧ Ok u m1 ([(pb0,oc 72 [c1])] :: M2 :: [(pb1,oc 75 [c4,c6])] :: [(pb2,oc 72 [c8])] :: M9 :: S) w ∧ a.defers = [] ∧ RVs Tryz.prog a w [.c 6 75 (.agg v0.toArray)] ∧ qhb m1 v0 r
theorem qh3 (N:Nat) (start_0:Int) (rstart_0:InR .i64 start_0) {pb0:Nat} {c1:Value} {M2:List (Nat × Obj)} (x0:List (Int)) (h3:ORow 3 1 (pI .i64) m0 c1 x0 M2) {pb1:Nat} {c4:Value} {c6:Value} (x1:Table) (h5:(pL 11 qbw) m0 [c4] x1.next) (h7:(pL 1 pB) m0 [c6] x1.accept) {pb2:Nat} {c8:Value} {M9:List (Nat × Obj)} (x2:List (Int)) (h10:ORow 3 1 (pI .i64) m0 c8 x2 M9) {r:Table} (hF:qcP N start_0 x0 x1 x2 = some r) (hG:Glob u) (ok:Ok u m0 ([(pb0,oc 72 [c1])] :: M2 :: [(pb1,oc 75 [c4,c6])] :: [(pb2,oc 72 [c8])] :: M9 :: S) w) :
  Calls Tryz.prog 83 [vi start_0,Value.func (.func 84) #[] #[.pointer (some ⟨pb0,0,none⟩),.pointer (some ⟨pb1,0,none⟩),.pointer (some ⟨pb2,0,none⟩)],Value.func (.func 85) #[] #[.pointer (some ⟨pb1,0,none⟩),.pointer (some ⟨pb2,0,none⟩)]].toArray w fun e w'=>∃ m1 v0,e = .returned (.agg v0.toArray) ∧ m0.le m1 ∧ Ok u m1 ([(pb0,oc 72 [c1])] :: M2 :: [(pb1,oc 75 [c4,c6])] :: [(pb2,oc 72 [c8])] :: M9 :: S) w' ∧ qhb m1 v0 r:=by
 have le_m0:=Mem.le.refl m0
 unfold qcP at hF
 refine en (qh0 u m0 S pb0 pb1 pb2 x0 c1 M2 x1 c4 c6 x2 c8 M9) r Tryz.func83 rfl rfl rfl (by rintro a w ⟨m1,v0,hle,ok,hd,hrv,h0⟩; exact qbG [.c 6 75 (.agg v0.toArray)] hd rfl hrv ⟨m1,v0,rfl,hle,ok,h0⟩) fun fin a E=>sg<|qax E ok qhn rfl rfl fun b11 a w E ok=>wn<|sg<|qie (kI .i64) (oneV (pI .i64)) E ok rfl rfl fun c12 M13 a w E ok h14=>mv E rfl fun a E=>bd hF fun l15 e16 hF=>qim (.inr rfl) E ok 0 (ql0 Tryz.underlying3) Tryz.underlying169 h14 rfl rfl rfl rfl ⟨rfl,rstart_0⟩ (qaX (ir 0)) e16 rfl fun M17 w ok h18=>mv E rfl fun a E=>aw E rfl fun a E=>sg<|mv E rfl fun a E=>qaW (R:=(pI .i64)) (xo:=[.tmp 19]) (xs:=([start_0]:List (Int))) E ok qaJ qbl rfl ⟨⟨_,rfl,rfl,(qaX rstart_0)⟩,trivial⟩ rfl rfl rfl rfl fun c19 M20 a w E ok h21=>aw E rfl fun a E=>sg<|qax E ok qhn rfl rfl fun b22 a w E ok=>wn<|wp_seq<|sg<|aw E rfl fun a E=>wp_block ?_
 obtain ⟨M40,ok,h41⟩:=qcf (e:=129) (k:=11) (R:=qbw) ok
 obtain ⟨M42,ok,h43⟩:=qcf (e:=4) (k:=1) (R:=pB) ok
 refine bd hF fun o44 hL hF=>qaE _ (fun (s:(List (Int)) × Int × Table × (List (Int × Int))) a w=>∃ c45 M46 c49 M50 c52 M53 c55 M56,Ok u m0 (M53 :: M50 :: [(b22,oc 75 [c49,c52])] :: M46 :: M56 :: [(b11,oc 75 [(Value.slice none 0 0),(Value.slice none 0 0)])] :: [(pb0,oc 72 [c1])] :: M2 :: [(pb1,oc 75 [c4,c6])] :: [(pb2,oc 72 [c8])] :: M9 :: S) w ∧ Env 76 a [(1,(Value.func (.func 84) #[] #[.pointer (some ⟨pb0,0,none⟩),.pointer (some ⟨pb1,0,none⟩),.pointer (some ⟨pb2,0,none⟩)])),(2,(Value.func (.func 85) #[] #[.pointer (some ⟨pb1,0,none⟩),.pointer (some ⟨pb2,0,none⟩)])),(6,vp b11),(7,c55),(8,c45),(9,vp b22),(10,vi s.2.1)] ∧ ORow 3 1 (pI .i64) m0 c45 s.1 M46 ∧ InR .i64 s.2.1 ∧ ORow 129 11 qbw m0 c49 s.2.2.1.next M50 ∧ ORow 4 1 pB m0 c52 s.2.2.1.accept M53 ∧ OMap (kI .i64) (oneV (pI .i64)) m0 c55 s.2.2.2 M56) (fun (b:Table) e a w=>e = (.exit 0) ∧ ∃ c286 M287 c289 M290,Ok u m0 (M290 :: M287 :: [(b22,oc 75 [c286,c289])] :: [(b11,oc 75 [(Value.slice none 0 0),(Value.slice none 0 0)])] :: [(pb0,oc 72 [c1])] :: M2 :: [(pb1,oc 75 [c4,c6])] :: [(pb2,oc 72 [c8])] :: M9 :: S) w ∧ Env 76 a [(6,vp b11),(9,vp b22)] ∧ ORow 129 11 qbw m0 c286 b.next M287 ∧ ORow 4 1 pB m0 c289 b.accept M290) ?_ ?_ N _ a w hL ⟨c19,M20,(Value.slice none 0 0),M40,(Value.slice none 0 0),M42,c12,M17,ok,E.keep [1,2,6,7,8,9,10],h21,(ir 0),h41,h43,h18⟩
 rotate_left
 ·intro e a w _ hO
  obtain ⟨rfl,c276,M277,c279,M280,ok,E,h278,h281⟩:=hO
  refine qaM<|qaa<|sg<|lv E ok (qag (cs:=[c276,c279]) qid rfl rfl (qab.own 2 rfl rfl)) fun a E=>qad E ok 3 rfl rfl rfl qlh rfl rfl ⟨(ORow.one h278),(ORow.one h281),trivial⟩ rfl rfl fun w ok=>wn<|wp_ret ?_
  obtain ⟨m282,hle,ok,hfz⟩:=(ok.frs 1 rfl).freeze
  have h283:=ORow.froz qbh h278 hle hfz (by decide)
  have le_m0:=le_m0.trans hle
  have h3:=ORow.up (mI .i64) hle h3
  have h5:=(mL qbh).up hle h5
  have h7:=(mL mB).up hle h7
  have h10:=ORow.up (mI .i64) hle h10
  have h281:=ORow.up mB hle h281
  obtain ⟨m284,hle,ok,hfz⟩:=(ok.frs 0 rfl).freeze
  have h285:=ORow.froz mB h281 hle hfz (by decide)
  have le_m0:=le_m0.trans hle
  have h3:=ORow.up (mI .i64) hle h3
  have h5:=(mL qbh).up hle h5
  have h7:=(mL mB).up hle h7
  have h10:=ORow.up (mI .i64) hle h10
  have h283:=(mL qbh).up hle h283
  exact fin hF ⟨m284,[c276,c279],le_m0,ok.drop.drop,E.d,⟨rv_c (cs:=[c276,c279]) E ok rfl qid rfl (qab.own 1 rfl rfl),trivial⟩,⟨_,_,rfl,h283,h285⟩⟩
 rintro ⟨v58,v59,v60,v61⟩ a w r ⟨c62,M63,c66,M67,c69,M70,c72,M73,ok,E,h64,r65,h68,h71,h74⟩ hF
 replace hF:qbV N x0 x1 x2 v58 v59 v60 v61 = some r:=hF
 unfold qbV at hF
 refine wp_seq<|sg<|mz E rfl rfl fun a E=>lv E ok (qcF qaJ h64 rfl) fun a E=>lw E (qav rfl rfl) fun a E=>wn<|cg E rfl hF (fun c75 hF=>?_) fun c75 hF=>?_
 ·refine wp_exit<|qaA ?_
  cases hF
  exact so (⟨rfl,⟨c66,M67,c69,M70,(ok.pk 11 [0,1,2,5,6,7,8,9,10] rfl (by decide)),E.keep [6,9],h68,h71⟩⟩)
 refine wp_skip<|qaa<|wp_seq<|wp_block<|sg<|qax E ok qfj rfl rfl fun b76 a w E ok=>wn<|wp_seq<|sg<|mv E rfl fun a E=>wn<|wp_block<|bd hF fun o99 hL hF=>qaE _ (fun (s:(List (Int)) × Int × Arr11_Int × (List (Int × Int))) a w=>∃ c100 M101 c115 M116,Ok u m0 ([(b76,oc 129 [vi s.2.2.1.e0,vi s.2.2.1.e1,vi s.2.2.1.e2,vi s.2.2.1.e3,vi s.2.2.1.e4,vi s.2.2.1.e5,vi s.2.2.1.e6,vi s.2.2.1.e7,vi s.2.2.1.e8,vi s.2.2.1.e9,vi s.2.2.1.e10])] :: M70 :: M67 :: [(b22,oc 75 [c66,c69])] :: M101 :: M116 :: [(b11,oc 75 [(Value.slice none 0 0),(Value.slice none 0 0)])] :: [(pb0,oc 72 [c1])] :: M2 :: [(pb1,oc 75 [c4,c6])] :: [(pb2,oc 72 [c8])] :: M9 :: S) w ∧ Env 76 a [(1,(Value.func (.func 84) #[] #[.pointer (some ⟨pb0,0,none⟩),.pointer (some ⟨pb1,0,none⟩),.pointer (some ⟨pb2,0,none⟩)])),(2,(Value.func (.func 85) #[] #[.pointer (some ⟨pb1,0,none⟩),.pointer (some ⟨pb2,0,none⟩)])),(6,vp b11),(7,c115),(8,c100),(9,vp b22),(10,vi v59),(11,vp b76),(27,vi s.2.1)] ∧ ORow 3 1 (pI .i64) m0 c100 s.1 M101 ∧ InR .i64 s.2.1 ∧ InR .i64 s.2.2.1.e0 ∧ InR .i64 s.2.2.1.e1 ∧ InR .i64 s.2.2.1.e2 ∧ InR .i64 s.2.2.1.e3 ∧ InR .i64 s.2.2.1.e4 ∧ InR .i64 s.2.2.1.e5 ∧ InR .i64 s.2.2.1.e6 ∧ InR .i64 s.2.2.1.e7 ∧ InR .i64 s.2.2.1.e8 ∧ InR .i64 s.2.2.1.e9 ∧ InR .i64 s.2.2.1.e10 ∧ OMap (kI .i64) (oneV (pI .i64)) m0 c115 s.2.2.2 M116) (fun (b:(Arr11_Int × (List (Int × Int)) × (List (Int)))) e a w=>e = (.exit 2) ∧ ∃ c270 M271 c273 M274,Ok u m0 ([(b76,oc 129 [vi b.1.e0,vi b.1.e1,vi b.1.e2,vi b.1.e3,vi b.1.e4,vi b.1.e5,vi b.1.e6,vi b.1.e7,vi b.1.e8,vi b.1.e9,vi b.1.e10])] :: M70 :: M67 :: [(b22,oc 75 [c66,c69])] :: M274 :: M271 :: [(b11,oc 75 [(Value.slice none 0 0),(Value.slice none 0 0)])] :: [(pb0,oc 72 [c1])] :: M2 :: [(pb1,oc 75 [c4,c6])] :: [(pb2,oc 72 [c8])] :: M9 :: S) w ∧ Env 76 a [(1,(Value.func (.func 84) #[] #[.pointer (some ⟨pb0,0,none⟩),.pointer (some ⟨pb1,0,none⟩),.pointer (some ⟨pb2,0,none⟩)])),(2,(Value.func (.func 85) #[] #[.pointer (some ⟨pb1,0,none⟩),.pointer (some ⟨pb2,0,none⟩)])),(6,vp b11),(7,c270),(8,c273),(9,vp b22),(10,vi v59),(11,vp b76)] ∧ InR .i64 b.1.e0 ∧ InR .i64 b.1.e1 ∧ InR .i64 b.1.e2 ∧ InR .i64 b.1.e3 ∧ InR .i64 b.1.e4 ∧ InR .i64 b.1.e5 ∧ InR .i64 b.1.e6 ∧ InR .i64 b.1.e7 ∧ InR .i64 b.1.e8 ∧ InR .i64 b.1.e9 ∧ InR .i64 b.1.e10 ∧ OMap (kI .i64) (oneV (pI .i64)) m0 c270 b.2.1 M271 ∧ ORow 3 1 (pI .i64) m0 c273 b.2.2 M274) ?_ ?_ N _ a w hL ⟨c62,M63,c72,M73,ok,E.keep [1,2,6,7,8,9,10,11,27],h64,(ir 0),(ir 0),(ir 0),(ir 0),(ir 0),(ir 0),(ir 0),(ir 0),(ir 0),(ir 0),(ir 0),(ir 0),h74⟩
 rotate_left
 ·as_aux_lemma =>
   intro e a w _ hO
   obtain ⟨rfl,c196,M197,c199,M200,ok,E,r185,r186,r187,r188,r189,r190,r191,r192,r193,r194,r195,h198,h201⟩:=hO
   refine qaM<|qaa<|sg<|fk E ok qf0 qih rfl 3 rfl rfl fun a E=>lv E ok (qag (cs:=[vi o99.1.e0,vi o99.1.e1,vi o99.1.e2,vi o99.1.e3,vi o99.1.e4,vi o99.1.e5,vi o99.1.e6,vi o99.1.e7,vi o99.1.e8,vi o99.1.e9,vi o99.1.e10]) qiR rfl rfl (qab.own 0 rfl rfl)) fun a E=>qaW (R:=qbw) (xo:=[.tmp 60]) (xs:=([o99.1]:List (Arr11_Int))) E ok qgU qfj rfl ⟨⟨_,rfl,rfl,⟨rfl,r185,r186,r187,r188,r189,r190,r191,r192,r193,r194,r195⟩⟩,trivial⟩ rfl rfl rfl rfl fun c202 M203 a w E ok h204=>bd hF fun l205 e206 hF=>qbo (R:=qbw) E ok 3 qbh qgU Tryz.underlying73 rfl h68 (qa0.ofRow h204 0 rfl ok) e206 ⟨_,qfj,rfl⟩ rfl rfl rfl rfl fun c207 M208 a w E ok h209=>fv E qf0 rfl fun a E=>qad E ok 4 rfl rfl rfl qn4 (ORow.cells h209) rfl ⟨(ORow.one h209),trivial⟩ rfl rfl fun w ok=>wn<|bd hF fun o210 hJ hF=>qaG (Q':=fun e a w=>e = .normal ∧ ∃ c211 M212 c214 M215,Ok u m0 (M203 :: [(b76,oc 129 [vi o99.1.e0,vi o99.1.e1,vi o99.1.e2,vi o99.1.e3,vi o99.1.e4,vi o99.1.e5,vi o99.1.e6,vi o99.1.e7,vi o99.1.e8,vi o99.1.e9,vi o99.1.e10])] :: M215 :: M212 :: [(b22,oc 75 [c211,c214])] :: M200 :: M197 :: [(b11,oc 75 [(Value.slice none 0 0),(Value.slice none 0 0)])] :: [(pb0,oc 72 [c1])] :: M2 :: [(pb1,oc 75 [c4,c6])] :: [(pb2,oc 72 [c8])] :: M9 :: S) w ∧ Env 76 a [(1,(Value.func (.func 84) #[] #[.pointer (some ⟨pb0,0,none⟩),.pointer (some ⟨pb1,0,none⟩),.pointer (some ⟨pb2,0,none⟩)])),(2,(Value.func (.func 85) #[] #[.pointer (some ⟨pb1,0,none⟩),.pointer (some ⟨pb2,0,none⟩)])),(6,vp b11),(7,c196),(8,c199),(9,vp b22),(10,vi v59)] ∧ ORow 129 11 qbw m0 c211 o210.next M212 ∧ ORow 4 1 pB m0 c214 o210.accept M215) ?_ ?_
   rotate_left
   ·intro e a w hO
    obtain ⟨rfl,c253,M254,c256,M257,ok,E,h255,h258⟩:=hO
    refine qal<|qaa<|qac<|mv E rfl fun a E=>lw E (qaw rfl rfl (InR.inc r65 (ORow.InR h64) c75)) fun a E=>av E rfl fun a E=>wpList_nil ?_
    cases hF
    exact qas ⟨c199,M200,c253,M254,c256,M257,c196,M197,(ok.pk 13 [2,3,4,5,6,7,8,9,10,11,12] rfl (by decide)),E.keep [1,2,6,7,8,9,10],h201,(InR.inc r65 (ORow.InR h64) c75),h255,h258,h198⟩
   have hF:=hJ
   obtain ⟨x217,e218,hF⟩:=bnd hF
   obtain ⟨r228,e229,hF⟩:=bnd hF
   obtain ⟨l233,e234,hF⟩:=bnd hF
   obtain rfl:=sj hF
   refine qaY [1,6] (Cls u m0 (M203 :: [(b76,oc 129 [vi o99.1.e0,vi o99.1.e1,vi o99.1.e2,vi o99.1.e3,vi o99.1.e4,vi o99.1.e5,vi o99.1.e6,vi o99.1.e7,vi o99.1.e8,vi o99.1.e9,vi o99.1.e10])] :: M208 :: [(b22,oc 75 [c207,c69])] :: M200 :: M197 :: [(b11,oc 75 [(Value.slice none 0 0),(Value.slice none 0 0)])] :: [(pb0,oc 72 [c1])] :: M2 :: [(pb1,oc 75 [c4,c6])] :: [(pb2,oc 72 [c8])] :: M9 :: [])) (Cls u m0 (M203 :: [(b76,oc 129 [vi o99.1.e0,vi o99.1.e1,vi o99.1.e2,vi o99.1.e3,vi o99.1.e4,vi o99.1.e5,vi o99.1.e6,vi o99.1.e7,vi o99.1.e8,vi o99.1.e9,vi o99.1.e10])] :: M208 :: M200 :: M197 :: [(b11,oc 75 [(Value.slice none 0 0),(Value.slice none 0 0)])] :: [(pb0,oc 72 [c1])] :: M2 :: [(pb1,oc 75 [c4,c6])] :: [(pb2,oc 72 [c8])] :: M9 :: [])) (by kernel_rfl) ?_
   intro w hw
   replace ok:=qbd ok hw
   clear hw
   refine qai (cl1 (cq le_m0 ok [0,1,3,4,5,6,7,8,9,10,11,12] rfl) (cq le_m0 ok [0,1,3,5,6,7,8,9,10,11,12] rfl)) fun hT=>kt 0 E rfl hT (qae qgS rfl) fun a E=>qaS 1 E rfl (by kernel_rfl) nP hT (qaj qd3 rfl (qab.cown 3 rfl rfl)) rfl rfl fun a E=>kt 2 E rfl hT (qah rfl) fun a E=>kt 3 E rfl hT (qah rfl) fun a E=>kt 4 E rfl hT (qah rfl) fun a E=>?_
   obtain ⟨b238,o239,hp240,yy241⟩:=qbR qaJ h201 e218 (P:=Tryz.prog) (X:=.tmp 67) (I:=.tmp 68) (kd:=.i64) (qaT E rfl) (qaT E rfl)
   refine kt 5 E rfl hT (yy241 _ _) fun a E=>?_
   obtain ⟨es242,hl243,rr244,hh245⟩:=qb9 h201 e218 hp240 (by decide)
   obtain ⟨rfl,r246⟩:=rr244
   refine qaS 6 E rfl (by kernel_rfl) nP hT (qaj qak rfl (qab.crow hh245 4 rfl)) rfl rfl fun a E=>qao [7] (by kernel_rfl) rfl (qar ?_)
   ·refine qbm (o:=_) rfl ?_
    replace ok:Ok u m0 ([(pb1,oc 75 [c4,c6])] :: [(pb2,oc 72 [c8])] :: M9 :: M203 :: [(b76,oc 129 [vi o99.1.e0,vi o99.1.e1,vi o99.1.e2,vi o99.1.e3,vi o99.1.e4,vi o99.1.e5,vi o99.1.e6,vi o99.1.e7,vi o99.1.e8,vi o99.1.e9,vi o99.1.e10])] :: M70 :: M208 :: [(b22,oc 75 [c207,c69])] :: M200 :: M197 :: [(b11,oc 75 [(Value.slice none 0 0),(Value.slice none 0 0)])] :: [(pb0,oc 72 [c1])] :: M2 :: S) w:=(ok.pk 13 [10,11,12,0,1,2,3,4,5,6,7,8,9] rfl (by decide))
    refine qgW E rfl qsD rfl (qjg N x217 r246 x1 h5 h7 x2 h10 e229 hG ok) rfl rfl ?_
    rintro _ w ⟨rfl,ok⟩
    refine ⟨_,rfl,fun a E=>?_⟩
    refine wn<|qai (cl1 (cq le_m0 ok [3,4,6,7,8,9,10,11,12,0,1,2] rfl) (cq le_m0 ok [3,4,6,8,9,10,11,12,0,1,2] rfl)) fun hT=>qao [8] (by kernel_rfl) rfl (qar ?_)
    ·refine wo rfl<|qaW (R:=pB) (xo:=[.tmp 71]) (xs:=([r228]:List (Bool))) E ok qce qdD rfl ⟨⟨_,rfl,rfl,qgB⟩,trivial⟩ rfl rfl rfl rfl fun c247 M248 a w E ok h249=>wn<|qai (cl1 (cq le_m0 ok [4,5,7,8,9,10,11,12,13,1,2,3] rfl) (cq le_m0 ok [4,5,7,9,10,11,12,13,1,2,3] rfl)) fun hT=>qao [9] (by kernel_rfl) rfl (qar ?_)
     ·refine wo rfl<|qbo (R:=pB) E ok 6 mB qce Tryz.underlying32 rfl h71 (qa0.ofRow h249 0 rfl ok) e234 ⟨_,qdD,rfl⟩ rfl rfl rfl rfl fun c250 M251 a w E ok h252=>wn<|qai (cl1 (cq le_m0 ok [4,5,7,8,9,10,11,12,13,1,2,3] rfl) (cq le_m0 ok [4,5,7,9,10,11,12,13,1,2,3] rfl)) fun hT=>kt 10 E rfl hT (qae qgS rfl) fun a E=>qao [11] (by kernel_rfl) rfl (qar ?_)
      ·refine wo rfl<|qad E ok 8 rfl rfl rfl qhd (ORow.cells h252) rfl ⟨(ORow.one h252),trivial⟩ rfl rfl fun w ok=>wn<|qai (cl2 (by kernel_rfl) (cq le_m0 ok [4,5,7,9,10,11,12,13,1,2,3] rfl)) fun hT=>qaV (by kernel_rfl) ?_
       exact ⟨rfl,⟨c207,M208,c250,M251,(ok.pk 14 [4,5,6,7,8,9,10,11,12,13,1,2,3] rfl (by decide)),E.keep [1,2,6,7,8,9,10],h209,h252⟩⟩
 rintro ⟨v118,v119,v120,v121⟩ a w r ⟨c122,M123,c137,M138,ok,E,h124,r125,r126,r127,r128,r129,r130,r131,r132,r133,r134,r135,r136,h139⟩ hF
 replace hF:qbE N x0 x1 x2 v59 v118 v119 v120 v121 = some r:=hF
 unfold qbE at hF
 refine sg<|lw E (qav rfl rfl) fun a E=>wn<|wp_seq<|cg E rfl hF (fun c140 hF=>?_) fun c140 hF=>?_
 ·refine wp_exit<|qaA ?_
  cases hF
  exact so (⟨rfl,⟨c137,M138,c122,M123,ok,E.keep [1,2,6,7,8,9,10,11],r126,r127,r128,r129,r130,r131,r132,r133,r134,r135,r136,h139,h124⟩⟩)
 refine wp_skip<|qaa<|wp_seq<|wp_block<|sg<|mv E rfl fun a E=>av E rfl fun a E=>wn<|sg<|mz E rfl rfl fun a E=>mv E rfl fun a E=>?_
 obtain ⟨x141,e142,hF⟩:=bnd hF
 obtain ⟨b143,o144,hp145,yy146⟩:=qbR qaJ h124 e142 (P:=Tryz.prog) (X:=.tmp 31) (I:=.tmp 32) (kd:=.i64) (qaT E rfl) (qaT E rfl)
 refine lv E ok (yy146 _ _) fun a E=>?_
 obtain ⟨es147,hl148,rr149,hh150⟩:=qb9 h124 e142 hp145 (by decide)
 obtain ⟨rfl,r151⟩:=rr149
 refine lv E ok (qaj qak rfl (hh150 _ _ _ 4 rfl)) fun a E=>mv E rfl fun a E=>?_
 obtain ⟨r152,e153,hF⟩:=bnd hF
 replace ok:Ok u m0 ([(pb0,oc 72 [c1])] :: M2 :: [(pb1,oc 75 [c4,c6])] :: [(pb2,oc 72 [c8])] :: M9 :: [(b76,oc 129 [vi v120.e0,vi v120.e1,vi v120.e2,vi v120.e3,vi v120.e4,vi v120.e5,vi v120.e6,vi v120.e7,vi v120.e8,vi v120.e9,vi v120.e10])] :: M70 :: M67 :: [(b22,oc 75 [c66,c69])] :: M123 :: M138 :: [(b11,oc 75 [(Value.slice none 0 0),(Value.slice none 0 0)])] :: S) w:=(ok.pk 12 [7,8,9,10,11,0,1,2,3,4,5,6] rfl (by decide))
 refine qgW E rfl qs5 rfl (qje N x141 r151 v119 r125 x0 h3 x1 h5 h7 x2 h10 e153 hG ok) rfl rfl ?_
 rintro _ w ⟨⟨rfl,ok⟩,r154⟩
 refine ⟨_,rfl,fun a E=>?_⟩
 refine aw E rfl fun a E=>sg<|mz E rfl rfl fun a E=>?_
 obtain ⟨xv155,h156,yy157,yy158⟩:=qmI (P:=Tryz.prog) (mo:=.tmp 38) (ko:=.tmp 39) (zx:=(0:Int)) ok 10 (ql0 Tryz.underlying3) Tryz.underlying169 h139 rfl (qaT E rfl) (qaT E rfl) ⟨rfl,r154⟩ qlD (qaX (ir 0))
 obtain ⟨rfl,r159⟩:=qin h156
 refine lv E ok (yy158 _) fun a E=>mv E rfl fun a E=>lw E (qaR rfl rfl) fun a E=>lw E (qaR rfl rfl) fun a E=>av E rfl fun a E=>aw E rfl fun a E=>wp_seq<|sg<|mv E rfl fun a E=>lw E (qbu rfl) fun a E=>wn<|cg E rfl hF (fun c160 hF=>?_) fun c160 hF=>?_
 ·refine wp_skip<|qaa<|qac<|mz E rfl rfl fun a E=>?_
  obtain ⟨x179,e180,hF⟩:=bnd hF
  replace e180:idx (Arr11_Int.list v120) v119 = some x179:=e180
  refine lv E ok (qb4 qhs rfl rfl (qaN e180).1 (qaN e180).2) fun a E=>?_
  obtain ⟨z181,e182,hF⟩:=bnd hF
  have h183:=Arr11_Int.set_list e182
  have h184:=AllP.setI (q:=(InR .i64)) (xs:=Arr11_Int.list v120) ⟨r126,r127,r128,r129,r130,r131,r132,r133,r134,r135,r136,trivial⟩ r159 h183
  refine qed (c:=[vi v120.e0,vi v120.e1,vi v120.e2,vi v120.e3,vi v120.e4,vi v120.e5,vi v120.e6,vi v120.e7,vi v120.e8,vi v120.e9,vi v120.e10]) (c':=[vi z181.e0,vi z181.e1,vi z181.e2,vi z181.e3,vi z181.e4,vi z181.e5,vi z181.e6,vi z181.e7,vi z181.e8,vi z181.e9,vi z181.e10]) E ok 5 rfl rfl rfl qaZ rfl rfl ⟨rfl,trivial⟩ (qh7 (n:=11) (qaN e180).2 (Nat.le_of_ble_eq_true rfl)) (qju (f:=(Value.int .i64)) (pre:=[]) (post:=[]) (xs:=Arr11_Int.list v120) (ys:=z181.list) rfl h183) rfl fun w ok=>wpList_nil<|qal<|qaa<|qac<|lw E (qaw rfl rfl (InR.inc r125 (ir 11) c140)) fun a E=>mv E rfl fun a E=>wpList_nil ?_
  cases hF
  exact qas ⟨c122,M123,c137,M138,(ok.pk 12 [5,6,7,8,9,10,11,0,1,2,3,4] rfl (by decide)),E.keep [1,2,6,7,8,9,10,11,27],h124,(InR.inc r125 (ir 11) c140),h184.1,h184.2.1,h184.2.2.1,h184.2.2.2.1,h184.2.2.2.2.1,h184.2.2.2.2.2.1,h184.2.2.2.2.2.2.1,h184.2.2.2.2.2.2.2.1,h184.2.2.2.2.2.2.2.2.1,h184.2.2.2.2.2.2.2.2.2.1,h184.2.2.2.2.2.2.2.2.2.2.1,h139⟩
 refine sg<|mv E rfl fun a E=>lv E ok (qcF qaJ h124 rfl) fun a E=>aw E rfl fun a E=>sg<|mz E rfl rfl fun a E=>mv E rfl fun a E=>bd hF fun l161 e162 hF=>qim (.inl rfl) E ok 10 (ql0 Tryz.underlying3) Tryz.underlying169 h139 rfl rfl rfl rfl ⟨rfl,r154⟩ (qaX (ORow.InR h124)) e162 rfl fun M163 w ok h164=>wn<|qac<|mz E rfl rfl fun a E=>qaW (R:=(pI .i64)) (xo:=[.tmp 51]) (xs:=([r152]:List (Int))) E ok qaJ qbl rfl ⟨⟨_,rfl,rfl,(qaX r154)⟩,trivial⟩ rfl rfl rfl rfl fun c165 M166 a w E ok h167=>bd hF fun l168 e169 hF=>qbo (R:=(pI .i64)) E ok 10 (mI .i64) qaJ Tryz.underlying72 rfl h124 (qa0.ofRow h167 0 rfl ok) e169 ⟨_,qbl,rfl⟩ rfl rfl rfl rfl fun c170 M171 a w E ok h172=>aw E rfl fun a E=>qac<|mz E rfl rfl fun a E=>?_
 obtain ⟨x173,e174,hF⟩:=bnd hF
 replace e174:idx (Arr11_Int.list v120) v119 = some x173:=e174
 refine lv E ok (qb4 qhs rfl rfl (qaN e174).1 (qaN e174).2) fun a E=>?_
 obtain ⟨z175,e176,hF⟩:=bnd hF
 have h177:=Arr11_Int.set_list e176
 have h178:=AllP.setI (q:=(InR .i64)) (xs:=Arr11_Int.list v120) ⟨r126,r127,r128,r129,r130,r131,r132,r133,r134,r135,r136,trivial⟩ (ORow.InR h124) h177
 refine qed (c:=[vi v120.e0,vi v120.e1,vi v120.e2,vi v120.e3,vi v120.e4,vi v120.e5,vi v120.e6,vi v120.e7,vi v120.e8,vi v120.e9,vi v120.e10]) (c':=[vi z175.e0,vi z175.e1,vi z175.e2,vi z175.e3,vi z175.e4,vi z175.e5,vi z175.e6,vi z175.e7,vi z175.e8,vi z175.e9,vi z175.e10]) E ok 6 rfl rfl rfl qaZ rfl rfl ⟨rfl,trivial⟩ (qh7 (n:=11) (qaN e174).2 (Nat.le_of_ble_eq_true rfl)) (qju (f:=(Value.int .i64)) (pre:=[]) (post:=[]) (xs:=Arr11_Int.list v120) (ys:=z175.list) rfl h177) rfl fun w ok=>wpList_nil<|qal<|qaa<|qac<|lw E (qaw rfl rfl (InR.inc r125 (ir 11) c140)) fun a E=>mv E rfl fun a E=>wpList_nil ?_
 cases hF
 exact qas ⟨c170,M171,c137,M163,(ok.pk 13 [6,7,8,9,10,11,12,1,2,3,4,5] rfl (by decide)),E.keep [1,2,6,7,8,9,10,11,27],h172,(InR.inc r125 (ir 11) c140),h178.1,h178.2.1,h178.2.2.1,h178.2.2.2.1,h178.2.2.2.2.1,h178.2.2.2.2.2.1,h178.2.2.2.2.2.2.1,h178.2.2.2.2.2.2.2.1,h178.2.2.2.2.2.2.2.2.1,h178.2.2.2.2.2.2.2.2.2.1,h178.2.2.2.2.2.2.2.2.2.2.1,h164⟩
def qjL (u:World) (m0:Mem) (S:Segs) (r:Table) (a:Act) (w:World):Prop :=
 ∃ m1 v0,m0.le m1 ∧ Ok u m1 S w ∧ a.defers = [] ∧ RVs Tryz.prog a w [.c 2 75 (.agg v0.toArray)] ∧ qhb m1 v0 r
theorem qhp (N:Nat) (vt_0:List Value) (t_0:Table) (ht_0:qhb m0 vt_0 t_0) {r:Table} (hF:qdA N t_0 = some r) (hG:Glob u) (ok:Ok u m0 S w) :
  Calls Tryz.prog 44 [.agg vt_0.toArray].toArray w fun e w'=>∃ m1 v0,e = .returned (.agg v0.toArray) ∧ m0.le m1 ∧ Ok u m1 S w' ∧ qhb m1 v0 r:=by
 obtain ⟨c1,c3,rfl,h2,h4⟩:=ht_0
 have le_m0:=Mem.le.refl m0
 unfold qdA at hF
 refine en (qjL u m0 S) r Tryz.func44 rfl rfl rfl (by rintro a w ⟨m1,v0,hle,ok,hd,hrv,h0⟩; exact qbG [.c 2 75 (.agg v0.toArray)] hd rfl hrv ⟨m1,v0,rfl,hle,ok,h0⟩) fun fin a E=>sg<|qbz E ok rfl rfl rfl fun b5 a w E ok=>qax E ok qhn rfl rfl fun b6 a w E ok=>wn<|sg<|fk E ok qf0 qih rfl 1 rfl rfl fun a E=>lv E ok (qaD qgU h2 rfl) fun a E=>bd hF fun l7 e8 hF=>qeJ (R:=(pI .i64)) E ok qaJ qbl rfl (qaX (ir 0)) rfl e8 rfl rfl fun c9 M10 a w E ok h11=>qax E ok qdC rfl rfl fun b12 a w E ok=>qad E ok 0 rfl rfl rfl qmB (ORow.cells h11) rfl ⟨(ORow.one h11),trivial⟩ rfl rfl fun w ok=>wn<|wp_seq<|sg<|fk E ok qgS qd3 rfl 3 rfl rfl fun a E=>lv E ok (qaD qce h4 rfl) fun a E=>mv E rfl fun a E=>wn<|wp_block<|bd hF fun o18 hL hF=>qaE _ (fun (s:Int × (List (Int))) a w=>∃ c20 M21,Ok u m0 ([(b12,oc 72 [c20])] :: M21 :: [(b6,oc 75 [(Value.slice none 0 0),(Value.slice none 0 0)])] :: [(b5,oc 75 [c1,c3])] :: S) w ∧ Env 112 a [(1,vp b5),(2,vp b6),(3,vp b12),(23,c3),(24,(vi (t_0.accept.length:Int))),(25,vi s.1)] ∧ InR .i64 s.1 ∧ ORow 3 1 (pI .i64) m0 c20 s.2 M21) (fun (b:((List (Int)))) e a w=>e = (.exit 0) ∧ ∃ c366 M367,Ok u m0 ([(b12,oc 72 [c366])] :: M367 :: [(b6,oc 75 [(Value.slice none 0 0),(Value.slice none 0 0)])] :: [(b5,oc 75 [c1,c3])] :: S) w ∧ Env 112 a [(1,vp b5),(2,vp b6),(3,vp b12)] ∧ ORow 3 1 (pI .i64) m0 c366 b M367) ?_ ?_ N _ a w hL ⟨c9,M10,ok,E.keep [1,2,3,23,24,25],(ir 0),h11⟩
 ·rintro ⟨v23,v24⟩ a w r ⟨c26,M27,ok,E,r25,h28⟩ hF
  replace hF:qcm N t_0 v23 v24 = some r:=hF
  unfold qcm at hF
  refine sg<|lw E (qav rfl rfl) fun a E=>wn<|wp_seq<|cg E rfl hF (fun c29 hF=>?_) fun c29 hF=>?_
  ·refine wp_exit<|qaA ?_
   cases hF
   exact so (⟨rfl,⟨c26,M27,ok,E.keep [1,2,3],h28⟩⟩)
  refine wp_skip<|qaa<|wp_seq<|wp_block<|sg<|mv E rfl fun a E=>?_
  obtain ⟨x30,e31,hF⟩:=bnd hF
  obtain ⟨b32,o33,es34,hl35,rr36,at37,yy38⟩:=ia E 23 25 qce h4 e31
  obtain rfl:=rr36
  refine lv E ok (yy38 _ _) fun a E=>lv E ok (qaj qbx rfl (qab.ro at37)) fun a E=>av E rfl fun a E=>aw E rfl fun a E=>sg<|mv E rfl fun a E=>wn<|cg E rfl hF (fun c39 hF=>?_) fun c39 hF=>?_
  ·refine wp_skip<|qal<|qaa<|qac<|lw E (qaw rfl rfl (InR.inc r25 (qam h4) c29)) fun a E=>mv E rfl fun a E=>wpList_nil ?_
   cases hF
   exact qas ⟨c26,M27,ok,E.keep [1,2,3,23,24,25],(InR.inc r25 (qam h4) c29),h28⟩
  refine qac<|ld E ok qc3 0 rfl rfl rfl fun a E=>mv E rfl fun a E=>?_
  obtain ⟨x40,e41,hF⟩:=bnd hF
  obtain ⟨b42,o43,hp44,yy45⟩:=qbR qaJ h28 e41 (P:=Tryz.prog) (X:=.tmp 31) (I:=.tmp 32) (kd:=.i64) (qaT E rfl) (qaT E rfl)
  refine lv E ok (yy45 _ _) fun a E=>bd hF fun l46 e47 hF=>qgV (R:=(pI .i64)) E ok 1 rfl h28 e41 hp44 rfl rfl qaZ rfl rfl rfl ⟨rfl,trivial⟩ (qaX (ir 1)) e47 rfl fun M48 w ok h49=>wpList_nil<|qal<|qaa<|qac<|lw E (qaw rfl rfl (InR.inc r25 (qam h4) c29)) fun a E=>mv E rfl fun a E=>wpList_nil ?_
  cases hF
  exact qas ⟨c26,M48,ok,E.keep [1,2,3,23,24,25],(InR.inc r25 (qam h4) c29),h49⟩
 intro e a w _ hO
 obtain ⟨rfl,c50,M51,ok,E,h52⟩:=hO
 refine qaM<|qaa<|sg<|aw E rfl fun a E=>wp_seq<|wp_block<|bd hF fun o58 hL hF=>qaE _ (fun (s:Int × (List (Int))) a w=>∃ c60 M61,Ok u m0 ([(b12,oc 72 [c60])] :: M61 :: [(b6,oc 75 [(Value.slice none 0 0),(Value.slice none 0 0)])] :: [(b5,oc 75 [c1,c3])] :: S) w ∧ Env 112 a [(1,vp b5),(2,vp b6),(3,vp b12),(6,vi s.1)] ∧ InR .i64 s.1 ∧ ORow 3 1 (pI .i64) m0 c60 s.2 M61) (fun (b:((List (Int)) × Int)) e a w=>e = (.exit 2) ∧ ∃ c362 M363,Ok u m0 ([(b12,oc 72 [c362])] :: M363 :: [(b6,oc 75 [(Value.slice none 0 0),(Value.slice none 0 0)])] :: [(b5,oc 75 [c1,c3])] :: S) w ∧ Env 112 a [(1,vp b5),(2,vp b6),(3,vp b12),(6,vi b.2)] ∧ ORow 3 1 (pI .i64) m0 c362 b.1 M363 ∧ InR .i64 b.2) ?_ ?_ N _ a w hL ⟨c50,M51,ok,E.keep [1,2,3,6],(ir 0),h52⟩
 rotate_left
 ·as_aux_lemma =>
   intro e a w _ hO
   obtain ⟨rfl,c266,M267,ok,E,h268,r269⟩:=hO
   refine qaM<|qaa<|sg<|mv E rfl fun a E=>bd hF fun l270 e271 hF=>qeJ (R:=(pI .i64)) E ok qaJ qbl rfl (qaX (ir 0)) rfl e271 rfl rfl fun c272 M273 a w E ok h274=>qax E ok qdC rfl rfl fun b275 a w E ok=>qad E ok 0 rfl rfl rfl qmB (ORow.cells h274) rfl ⟨(ORow.one h274),trivial⟩ rfl rfl fun w ok=>wn<|wp_seq<|sg<|ld E ok qc3 2 rfl rfl rfl fun a E=>lv E ok (qcF qaJ h268 rfl) fun a E=>lw E (qhI rfl rfl) fun a E=>aw E rfl fun a E=>wp_block<|bd hF fun o281 hL hF=>qaE _ (fun (s:Int × (List (Int))) a w=>∃ c283 M284,Ok u m0 ([(b275,oc 72 [c283])] :: M284 :: [(b12,oc 72 [c266])] :: M267 :: [(b6,oc 75 [(Value.slice none 0 0),(Value.slice none 0 0)])] :: [(b5,oc 75 [c1,c3])] :: S) w ∧ Env 112 a [(1,vp b5),(2,vp b6),(3,vp b12),(16,vp b275),(17,vi s.1)] ∧ InR .i64 s.1 ∧ ORow 3 1 (pI .i64) m0 c283 s.2 M284) (fun (b:((List (Int)))) e a w=>e = (.exit 8) ∧ ∃ c359 M360,Ok u m0 ([(b275,oc 72 [c359])] :: M360 :: [(b12,oc 72 [c266])] :: M267 :: [(b6,oc 75 [(Value.slice none 0 0),(Value.slice none 0 0)])] :: [(b5,oc 75 [c1,c3])] :: S) w ∧ Env 112 a [(1,vp b5),(2,vp b6),(3,vp b12),(16,vp b275)] ∧ ORow 3 1 (pI .i64) m0 c359 b M360) ?_ ?_ N _ a w hL ⟨c272,M273,ok,E.keep [1,2,3,16,17],(InR.wrap _ _),h274⟩
   rotate_left
   ·intro e a w _ hO
    obtain ⟨rfl,c336,M337,ok,E,h338⟩:=hO
    refine qaM<|qaa<|sg<|ld E ok qc3 2 rfl rfl rfl fun a E=>?_
    obtain ⟨x339,e340,hF⟩:=bnd hF
    obtain ⟨b341,o342,hp343,yy344⟩:=qbR qaJ h268 e340 (P:=Tryz.prog) (X:=.tmp 106) (I:=.const (vi 0)) (kd:=.i64) (qaT E rfl) (qaT E rfl)
    refine lv E ok (yy344 _ _) fun a E=>?_
    obtain ⟨es345,hl346,rr347,hh348⟩:=qb9 h268 e340 hp343 (by decide)
    obtain ⟨rfl,r349⟩:=rr347
    refine lv E ok (qaj qak rfl (hh348 _ _ _ 3 rfl)) fun a E=>lv E ok (qez (caps:=[.tmp 3,.tmp 1,.tmp 16]) rfl) fun a E=>lv E ok (qez (caps:=[.tmp 1,.tmp 16]) rfl) fun a E=>?_
    obtain ⟨r350,e351,hF⟩:=bnd hF
    replace ok:Ok u m0 ([(b12,oc 72 [c266])] :: M267 :: [(b5,oc 75 [c1,c3])] :: [(b275,oc 72 [c336])] :: M337 :: [(b6,oc 75 [(Value.slice none 0 0),(Value.slice none 0 0)])] :: S) w:=(ok.pk 6 [2,3,5,0,1,4] rfl (by decide))
    refine qan E qsZ rfl (qh3 N x339 r349 o58.1 h268 t_0 h2 h4 o281 h338 e351 hG ok) rfl rfl ?_
    rintro _ w ⟨m352,vs353,rfl,hle,ok,h354⟩
    have le_m0:=le_m0.trans hle
    have h2:=(mL qbh).up hle h2
    have h4:=(mL mB).up hle h4
    have h268:=ORow.up (mI .i64) hle h268
    have h338:=ORow.up (mI .i64) hle h338
    obtain ⟨c355,c357,rfl,h356,h358⟩:=h354
    refine ⟨_,rfl,fun a E=>?_⟩
    refine qad E ok 5 rfl rfl rfl qlh rfl rfl ⟨(qa5 h356),(qa5 h358),trivial⟩ rfl rfl fun w ok=>wn<|wp_ret ?_
    exact fin hF ⟨m352,[c355,c357],le_m0,ok.drop.drop.drop.drop.drop.drop,E.d,⟨rv_c (cs:=[c355,c357]) E ok rfl qid rfl (qab.own 5 rfl rfl),trivial⟩,⟨_,_,rfl,h356,h358⟩⟩
   rintro ⟨v286,v287⟩ a w r ⟨c289,M290,ok,E,r288,h291⟩ hF
   replace hF:qcl N o58 v286 v287 = some r:=hF
   unfold qcl at hF
   refine wp_seq<|sg<|mv E rfl fun a E=>lw E (qev rfl rfl) fun a E=>wn<|cg E rfl hF (fun c292 hF=>?_) fun c292 hF=>?_
   ·refine wp_exit<|qaA ?_
    cases hF
    exact so (⟨rfl,⟨c289,M290,ok,E.keep [1,2,3,16],h291⟩⟩)
   refine wp_skip<|qaa<|wp_seq<|wp_block<|bd hF fun o293 hJ hF=>qaG (Q':=fun e a w=>e = .normal ∧ ∃ c294 M295,Ok u m0 ([(b275,oc 72 [c294])] :: M295 :: [(b12,oc 72 [c266])] :: M267 :: [(b6,oc 75 [(Value.slice none 0 0),(Value.slice none 0 0)])] :: [(b5,oc 75 [c1,c3])] :: S) w ∧ Env 112 a [(1,vp b5),(2,vp b6),(3,vp b12),(16,vp b275),(17,vi v286)] ∧ ORow 3 1 (pI .i64) m0 c294 o293 M295) ?_ ?_
   rotate_left
   ·intro e a w hO
    obtain ⟨rfl,c333,M334,ok,E,h335⟩:=hO
    refine qal<|qaa<|qac<|mv E rfl fun a E=>lw E (qhI rfl rfl) fun a E=>av E rfl fun a E=>wpList_nil ?_
    cases hF
    exact qas ⟨c333,M334,ok,E.keep [1,2,3,16,17],(InR.wrap _ _),h335⟩
   have hF:=hJ
   obtain ⟨x297,e298,hF⟩:=bnd hF
   obtain ⟨x308,e309,hF⟩:=bnd hF
   obtain ⟨l314,e315,hF⟩:=bnd hF
   obtain rfl:=sj hF
   refine qaY [0,1,4] (Cls u m0 ([(b275,oc 72 [c289])] :: [(b12,oc 72 [c266])] :: M267 :: [(b6,oc 75 [(Value.slice none 0 0),(Value.slice none 0 0)])] :: [(b5,oc 75 [c1,c3])] :: [])) (Cls u m0 ([(b12,oc 72 [c266])] :: M267 :: [(b6,oc 75 [(Value.slice none 0 0),(Value.slice none 0 0)])] :: [(b5,oc 75 [c1,c3])] :: [])) (by kernel_rfl) ?_
   intro w hw
   replace ok:=qbd ok hw
   clear hw
   refine qai (cl1 (cq le_m0 ok [0,2,3,4,5] rfl) (cq le_m0 ok [2,3,4,5] rfl)) fun hT=>qaS 0 E rfl (by kernel_rfl) nP hT (qaj qc3 rfl (qab.cown 0 rfl rfl)) rfl rfl fun a E=>qaS 1 E rfl (by kernel_rfl) nP hT (qaj qc3 rfl (qab.cown 1 rfl rfl)) rfl rfl fun a E=>kt 2 E rfl hT (qah rfl) fun a E=>?_
   obtain ⟨b318,o319,hp320,yy321⟩:=qbR qaJ h268 e298 (P:=Tryz.prog) (X:=.tmp 100) (I:=.tmp 101) (kd:=.i64) (qaT E rfl) (qaT E rfl)
   refine kt 3 E rfl hT (yy321 _ _) fun a E=>?_
   obtain ⟨es322,hl323,rr324,hh325⟩:=qb9 h268 e298 hp320 (by decide)
   obtain ⟨rfl,r326⟩:=rr324
   refine qaS 4 E rfl (by kernel_rfl) nP hT (qaj qak rfl (qab.crow hh325 2 rfl)) rfl rfl fun a E=>kt 5 E rfl hT (qah rfl) fun a E=>?_
   obtain ⟨b327,o328,hp329,yy330⟩:=qbR qaJ h291 e309 (P:=Tryz.prog) (X:=.tmp 99) (I:=.tmp 103) (kd:=.i64) (qaT E rfl) (qaT E rfl)
   refine kt 6 E rfl hT (yy330 _ _) fun a E=>qao [7] (by kernel_rfl) rfl (qar ?_)
   ·refine wo rfl<|qgV (R:=(pI .i64)) E ok 1 rfl h291 e309 hp329 rfl rfl qaZ rfl rfl rfl ⟨rfl,trivial⟩ (qaX r288) e315 rfl fun M331 w ok h332=>wn<|qai (cl2 (by kernel_rfl) (cq le_m0 ok [2,3,4,5] rfl)) fun hT=>qaV (by kernel_rfl) ?_
    exact ⟨rfl,⟨c289,M331,ok,E.keep [1,2,3,16,17],h332⟩⟩
 rintro ⟨v63,v64⟩ a w r ⟨c66,M67,ok,E,r65,h68⟩ hF
 replace hF:qbY N t_0 v63 v64 = some r:=hF
 unfold qbY at hF
 refine wp_block<|sg<|qie (aggK pKey) (oneV (pI .i64)) E ok rfl rfl fun c69 M70 a w E ok h71=>aw E rfl fun a E=>sg<|ld E ok qc3 1 rfl rfl rfl fun a E=>lv E ok (qcF qaJ h68 rfl) fun a E=>bd hF fun l72 e73 hF=>qeJ (R:=(pI .i64)) E ok qaJ qbl rfl (qaX (ir 0)) rfl e73 rfl rfl fun c74 M75 a w E ok h76=>aw E rfl fun a E=>wp_seq<|sg<|fv E qf0 rfl fun a E=>ld E ok qih 5 rfl rfl rfl fun a E=>lv E ok (qaD qgU h2 rfl) fun a E=>mv E rfl fun a E=>wn<|wp_block ?_
 refine bd hF fun o85 hL hF=>qaE _ (fun (s:Int × (List (Key × Int)) × (List (Int))) a w=>∃ c87 M88 c90 M91,Ok u m0 (M91 :: M88 :: [(b12,oc 72 [c66])] :: M67 :: [(b6,oc 75 [(Value.slice none 0 0),(Value.slice none 0 0)])] :: [(b5,oc 75 [c1,c3])] :: S) w ∧ Env 112 a [(1,vp b5),(2,vp b6),(3,vp b12),(6,vi v63),(7,c87),(8,c90),(40,c1),(41,(vi (t_0.next.length:Int))),(42,vi s.1)] ∧ InR .i64 s.1 ∧ OMap (aggK pKey) (oneV (pI .i64)) m0 c87 s.2.1 M88 ∧ ORow 3 1 (pI .i64) m0 c90 s.2.2 M91) (fun (b:((List (Key × Int)) × (List (Int)))) e a w=>e = (.exit 4) ∧ ∃ c260 M261 c263 M264,Ok u m0 (M264 :: M261 :: [(b12,oc 72 [c66])] :: M67 :: [(b6,oc 75 [(Value.slice none 0 0),(Value.slice none 0 0)])] :: [(b5,oc 75 [c1,c3])] :: S) w ∧ Env 112 a [(1,vp b5),(2,vp b6),(3,vp b12),(6,vi v63),(7,c260),(8,c263)] ∧ OMap (aggK pKey) (oneV (pI .i64)) m0 c260 b.1 M261 ∧ ORow 3 1 (pI .i64) m0 c263 b.2 M264) ?_ ?_ N _ a w hL ⟨c69,M70,c74,M75,ok,E.keep [1,2,3,6,7,8,40,41,42],(ir 0),h71,h76⟩
 rotate_left
 ·intro e a w _ hO
  obtain ⟨rfl,c253,M254,c256,M257,ok,E,h255,h258⟩:=hO
  refine qaM<|qaa<|sg<|mv E rfl fun a E=>qad E ok 2 rfl rfl rfl qmB (ORow.cells h258) rfl ⟨(ORow.one h258),trivial⟩ rfl rfl fun w ok=>wn<|wp_seq<|sg<|mv E rfl fun a E=>lv E ok (qlW 1 rfl Tryz.underlying130 h255 rfl) fun a E=>mv E rfl fun a E=>lw E (qau rfl rfl) fun a E=>wn<|cf E rfl hF (fun c259 hF=>?_) fun c259 hF=>?_
  ·refine wp_exit<|qaA<|qrT rfl ?_
   cases hF
   exact so (⟨rfl,⟨c256,M257,(ok.pk 6 [2,0,4,5] rfl (by decide)),E.keep [1,2,3,6],h258,r65⟩⟩)
  refine wp_skip<|qaa<|qac<|mv E rfl fun a E=>lv E ok (qlW 1 rfl Tryz.underlying130 h255 rfl) fun a E=>av E rfl fun a E=>wpList_nil<|qal ?_
  cases hF
  exact qas ⟨c256,M257,(ok.pk 6 [2,0,4,5] rfl (by decide)),E.keep [1,2,3,6],(OMap.InR h255),h258⟩
 rintro ⟨v93,v94,v95⟩ a w r ⟨c97,M98,c100,M101,ok,E,r96,h99,h102⟩ hF
 replace hF:qcV N t_0 v64 v93 v94 v95 = some r:=hF
 unfold qcV at hF
 refine sg<|lw E (qav rfl rfl) fun a E=>wn<|wp_seq<|cg E rfl hF (fun c103 hF=>?_) fun c103 hF=>?_
 ·refine wp_exit<|qaA ?_
  cases hF
  exact so (⟨rfl,⟨c97,M98,c100,M101,ok,E.keep [1,2,3,6,7,8],h99,h102⟩⟩)
 refine wp_skip<|qaa<|wp_seq<|wp_block<|sg<|mv E rfl fun a E=>?_
 obtain ⟨x104,e105,hF⟩:=bnd hF
 obtain ⟨b106,o107,es108,hl109,rr110,at111,yy112⟩:=ia E 40 42 qgU h2 e105
 obtain ⟨rfl,r113,r114,r115,r116,r117,r118,r119,r120,r121,r122,r123⟩:=rr110
 refine lv E ok (yy112 _ _) fun a E=>lv E ok (qag (cs:=[vi x104.e0,vi x104.e1,vi x104.e2,vi x104.e3,vi x104.e4,vi x104.e5,vi x104.e6,vi x104.e7,vi x104.e8,vi x104.e9,vi x104.e10]) qiR rfl rfl (qab.ro at111)) fun a E=>qax E ok qfj rfl rfl fun b124 a w E ok=>av E rfl fun a E=>qad E ok 0 rfl rfl rfl qoJ rfl rfl ⟨rfl,rfl,rfl,rfl,rfl,rfl,rfl,rfl,rfl,rfl,rfl,trivial⟩ rfl rfl fun w ok=>wn<|sg<|ld E ok qc3 3 rfl rfl rfl fun a E=>mv E rfl fun a E=>?_
 obtain ⟨x125,e126,hF⟩:=bnd hF
 obtain ⟨b127,o128,hp129,yy130⟩:=qbR qaJ h68 e126 (P:=Tryz.prog) (X:=.tmp 47) (I:=.tmp 48) (kd:=.i64) (qaT E rfl) (qaT E rfl)
 refine lv E ok (yy130 _ _) fun a E=>?_
 obtain ⟨es131,hl132,rr133,hh134⟩:=qb9 h68 e126 hp129 (by decide)
 obtain ⟨rfl,r135⟩:=rr133
 refine lv E ok (qaj qak rfl (hh134 _ _ _ 4 rfl)) fun a E=>lw E (qaF (ps:=[(0,.tmp 50)]) (qs:=[(0,[vi x125])]) (cs:=[vi x125,vi 0,vi 0,vi 0,vi 0,vi 0,vi 0,vi 0,vi 0,vi 0,vi 0,vi 0]) qnB qoS rfl ⟨rfl,rfl,rfl,trivial⟩ rfl) fun a E=>qax E ok qnB rfl rfl fun b136 a w E ok=>qad E ok 0 rfl rfl rfl qrp rfl rfl ⟨rfl,rfl,rfl,rfl,rfl,rfl,rfl,rfl,rfl,rfl,rfl,rfl,trivial⟩ rfl rfl fun w ok=>wn<|wp_seq<|sg<|lv E ok (qag (cs:=[vi x104.e0,vi x104.e1,vi x104.e2,vi x104.e3,vi x104.e4,vi x104.e5,vi x104.e6,vi x104.e7,vi x104.e8,vi x104.e9,vi x104.e10]) qiR rfl rfl (qab.own 1 rfl rfl)) fun a E=>mv E rfl fun a E=>wn<|wp_block<|bd hF fun o151 hL hF=>qaE _ (fun (s:Int × Key) a w=>Ok u m0 ([(b136,oc 132 [vi s.2.class_,vi s.2.next.e0,vi s.2.next.e1,vi s.2.next.e2,vi s.2.next.e3,vi s.2.next.e4,vi s.2.next.e5,vi s.2.next.e6,vi s.2.next.e7,vi s.2.next.e8,vi s.2.next.e9,vi s.2.next.e10])] :: [(b124,oc 129 [vi x104.e0,vi x104.e1,vi x104.e2,vi x104.e3,vi x104.e4,vi x104.e5,vi x104.e6,vi x104.e7,vi x104.e8,vi x104.e9,vi x104.e10])] :: M101 :: M98 :: [(b12,oc 72 [c66])] :: M67 :: [(b6,oc 75 [(Value.slice none 0 0),(Value.slice none 0 0)])] :: [(b5,oc 75 [c1,c3])] :: S) w ∧ Env 112 a [(1,vp b5),(2,vp b6),(3,vp b12),(6,vi v63),(7,c97),(8,c100),(9,vi v93),(11,vp b136),(40,c1),(41,(vi (t_0.next.length:Int))),(42,vi v93),(52,(Value.agg [vi x104.e0,vi x104.e1,vi x104.e2,vi x104.e3,vi x104.e4,vi x104.e5,vi x104.e6,vi x104.e7,vi x104.e8,vi x104.e9,vi x104.e10].toArray)),(53,vi s.1)] ∧ InR .i64 s.1 ∧ InR .i64 s.2.class_ ∧ InR .i64 s.2.next.e0 ∧ InR .i64 s.2.next.e1 ∧ InR .i64 s.2.next.e2 ∧ InR .i64 s.2.next.e3 ∧ InR .i64 s.2.next.e4 ∧ InR .i64 s.2.next.e5 ∧ InR .i64 s.2.next.e6 ∧ InR .i64 s.2.next.e7 ∧ InR .i64 s.2.next.e8 ∧ InR .i64 s.2.next.e9 ∧ InR .i64 s.2.next.e10) (fun (b:Key) e a w=>e = (.exit 6) ∧ Ok u m0 ([(b136,oc 132 [vi b.class_,vi b.next.e0,vi b.next.e1,vi b.next.e2,vi b.next.e3,vi b.next.e4,vi b.next.e5,vi b.next.e6,vi b.next.e7,vi b.next.e8,vi b.next.e9,vi b.next.e10])] :: [(b124,oc 129 [vi x104.e0,vi x104.e1,vi x104.e2,vi x104.e3,vi x104.e4,vi x104.e5,vi x104.e6,vi x104.e7,vi x104.e8,vi x104.e9,vi x104.e10])] :: M101 :: M98 :: [(b12,oc 72 [c66])] :: M67 :: [(b6,oc 75 [(Value.slice none 0 0),(Value.slice none 0 0)])] :: [(b5,oc 75 [c1,c3])] :: S) w ∧ Env 112 a [(1,vp b5),(2,vp b6),(3,vp b12),(6,vi v63),(7,c97),(8,c100),(9,vi v93),(11,vp b136),(40,c1),(41,(vi (t_0.next.length:Int))),(42,vi v93)] ∧ InR .i64 b.class_ ∧ InR .i64 b.next.e0 ∧ InR .i64 b.next.e1 ∧ InR .i64 b.next.e2 ∧ InR .i64 b.next.e3 ∧ InR .i64 b.next.e4 ∧ InR .i64 b.next.e5 ∧ InR .i64 b.next.e6 ∧ InR .i64 b.next.e7 ∧ InR .i64 b.next.e8 ∧ InR .i64 b.next.e9 ∧ InR .i64 b.next.e10) ?_ ?_ N _ a w hL ⟨ok,E.keep [1,2,3,6,7,8,9,11,40,41,42,52,53],(ir 0),r135,(ir 0),(ir 0),(ir 0),(ir 0),(ir 0),(ir 0),(ir 0),(ir 0),(ir 0),(ir 0),(ir 0)⟩
 ·rintro ⟨v165,v166⟩ a w r ⟨ok,E,r167,r168,r169,r170,r171,r172,r173,r174,r175,r176,r177,r178,r179⟩ hF
  replace hF:qb0 N v64 x104 v165 v166 = some r:=hF
  unfold qb0 at hF
  refine sg<|lw E (qav rfl rfl) fun a E=>wn<|wp_seq<|cg E rfl hF (fun c180 hF=>?_) fun c180 hF=>?_
  ·refine wp_exit<|qaA ?_
   cases hF
   exact so (⟨rfl,⟨ok,E.keep [1,2,3,6,7,8,9,11,40,41,42],r168,r169,r170,r171,r172,r173,r174,r175,r176,r177,r178,r179⟩⟩)
  refine wp_skip<|qaa<|wp_seq<|wp_block<|sg<|mv E rfl fun a E=>bd hF fun z181 e182 hF=>lv E ok (qsp (f:=Value.int .i64) (xs:=[(x104.e0:Int),(x104.e1:Int),(x104.e2:Int),(x104.e3:Int),(x104.e4:Int),(x104.e5:Int),(x104.e6:Int),(x104.e7:Int),(x104.e8:Int),(x104.e9:Int),(x104.e10:Int)]) Tryz.underlying129 qaZ qak rfl rfl rfl rfl e182) fun a E=>av E rfl fun a E=>aw E rfl fun a E=>qac<|mv E rfl fun a E=>ld E ok qc3 4 rfl rfl rfl fun a E=>mv E rfl fun a E=>?_
  obtain ⟨x183,e184,hF⟩:=bnd hF
  obtain ⟨b185,o186,hp187,yy188⟩:=qbR qaJ h68 e184 (P:=Tryz.prog) (X:=.tmp 58) (I:=.tmp 59) (kd:=.i64) (qaT E rfl) (qaT E rfl)
  refine lv E ok (yy188 _ _) fun a E=>?_
  obtain ⟨es189,hl190,rr191,hh192⟩:=qb9 h68 e184 hp187 (by decide)
  obtain ⟨rfl,r193⟩:=rr191
  refine lv E ok (qaj qak rfl (hh192 _ _ _ 5 rfl)) fun a E=>fv E qpW rfl fun a E=>?_
  obtain ⟨x194,e195,hF⟩:=bnd hF
  replace e195:idx (Arr11_Int.list v166.next) v165 = some x194:=e195
  refine lv E ok (qb4 qhs rfl rfl (qaN e195).1 (qaN e195).2) fun a E=>?_
  obtain ⟨z196,e197,hF⟩:=bnd hF
  have h198:=Arr11_Int.set_list e197
  have h199:=AllP.setI (q:=(InR .i64)) (xs:=Arr11_Int.list v166.next) ⟨r169,r170,r171,r172,r173,r174,r175,r176,r177,r178,r179,trivial⟩ r193 h198
  refine qed (c:=[vi v166.class_,vi v166.next.e0,vi v166.next.e1,vi v166.next.e2,vi v166.next.e3,vi v166.next.e4,vi v166.next.e5,vi v166.next.e6,vi v166.next.e7,vi v166.next.e8,vi v166.next.e9,vi v166.next.e10]) (c':=[vi v166.class_,vi z196.e0,vi z196.e1,vi z196.e2,vi z196.e3,vi z196.e4,vi z196.e5,vi z196.e6,vi z196.e7,vi z196.e8,vi z196.e9,vi z196.e10]) E ok 0 rfl rfl rfl qaZ rfl rfl ⟨rfl,trivial⟩ (qh7 (n:=11) (qaN e195).2 (Nat.le_of_ble_eq_true rfl)) (qju (f:=(Value.int .i64)) (pre:=[vi v166.class_]) (post:=[]) (xs:=Arr11_Int.list v166.next) (ys:=z196.list) rfl h198) rfl fun w ok=>wpList_nil<|qal<|qaa<|qac<|lw E (qaw rfl rfl (InR.inc r167 (ir 11) c180)) fun a E=>mv E rfl fun a E=>wpList_nil ?_
  cases hF
  exact qas ⟨ok,E.keep [1,2,3,6,7,8,9,11,40,41,42,52,53],(InR.inc r167 (ir 11) c180),r168,h199.1,h199.2.1,h199.2.2.1,h199.2.2.2.1,h199.2.2.2.2.1,h199.2.2.2.2.2.1,h199.2.2.2.2.2.2.1,h199.2.2.2.2.2.2.2.1,h199.2.2.2.2.2.2.2.2.1,h199.2.2.2.2.2.2.2.2.2.1,h199.2.2.2.2.2.2.2.2.2.2.1⟩
 intro e a w _ hO
 obtain ⟨rfl,ok,E,r200,r201,r202,r203,r204,r205,r206,r207,r208,r209,r210,r211⟩:=hO
 refine qaM<|qaa<|sg<|mv E rfl fun a E=>lv E ok (qag (cs:=[vi o151.class_,vi o151.next.e0,vi o151.next.e1,vi o151.next.e2,vi o151.next.e3,vi o151.next.e4,vi o151.next.e5,vi o151.next.e6,vi o151.next.e7,vi o151.next.e8,vi o151.next.e9,vi o151.next.e10]) qot rfl rfl (qab.own 0 rfl rfl)) fun a E=>?_
 obtain ⟨xv212,h213,yy214,yy215⟩:=qmI (P:=Tryz.prog) (mo:=.tmp 66) (ko:=.tmp 67) (zx:=(0:Int)) ok 3 qnW Tryz.underlying130 h99 rfl (qaT E rfl) (qaT E rfl) ⟨m0,_,rfl,⟨rfl,r200,r201,r202,r203,r204,r205,r206,r207,r208,r209,r210,r211⟩⟩ qlD (qaX (ir 0))
 obtain ⟨rfl,r216⟩:=qin h213
 refine lv E ok (yy215 _) fun a E=>mv E rfl fun a E=>lw E (qaR rfl rfl) fun a E=>lw E (qaR rfl rfl) fun a E=>av E rfl fun a E=>aw E rfl fun a E=>wp_seq<|sg<|mv E rfl fun a E=>lw E (qbu rfl) fun a E=>wn<|bd hF fun o217 hJ hF=>qaG (Q':=fun e a w=>e = .normal ∧ ∃ c218 M219,Ok u m0 ([(b136,oc 132 [vi o151.class_,vi o151.next.e0,vi o151.next.e1,vi o151.next.e2,vi o151.next.e3,vi o151.next.e4,vi o151.next.e5,vi o151.next.e6,vi o151.next.e7,vi o151.next.e8,vi o151.next.e9,vi o151.next.e10])] :: [(b124,oc 129 [vi x104.e0,vi x104.e1,vi x104.e2,vi x104.e3,vi x104.e4,vi x104.e5,vi x104.e6,vi x104.e7,vi x104.e8,vi x104.e9,vi x104.e10])] :: M101 :: M219 :: [(b12,oc 72 [c66])] :: M67 :: [(b6,oc 75 [(Value.slice none 0 0),(Value.slice none 0 0)])] :: [(b5,oc 75 [c1,c3])] :: S) w ∧ Env 112 a [(1,vp b5),(2,vp b6),(3,vp b12),(6,vi v63),(7,c218),(8,c100),(9,vi v93),(14,vi o217.2),(40,c1),(41,(vi (t_0.next.length:Int))),(42,vi v93)] ∧ OMap (aggK pKey) (oneV (pI .i64)) m0 c218 o217.1 M219 ∧ InR .i64 o217.2) ?_ ?_
 rotate_left
 ·intro e a w hO
  obtain ⟨rfl,c227,M228,ok,E,h229,r230⟩:=hO
  refine qaa<|qac<|mz E rfl rfl fun a E=>mv E rfl fun a E=>?_
  obtain ⟨x231,e232,hF⟩:=bnd hF
  obtain ⟨b233,o234,hp235,yy236⟩:=qbR qaJ h102 e232 (P:=Tryz.prog) (X:=.tmp 78) (I:=.tmp 79) (kd:=.i64) (qaT E rfl) (qaT E rfl)
  refine lv E ok (yy236 _ _) fun a E=>bd hF fun l237 e238 hF=>qgV (R:=(pI .i64)) E ok 2 rfl h102 e232 hp235 rfl rfl qaZ rfl rfl rfl ⟨rfl,trivial⟩ (qaX r230) e238 rfl fun M239 w ok h240=>wpList_nil<|qal<|qaa<|qac<|lw E (qaw rfl rfl (InR.inc r96 (qam h2) c103)) fun a E=>mv E rfl fun a E=>wpList_nil ?_
  cases hF
  exact qas ⟨c227,M228,c100,M239,(ok.pk 8 [2,3,4,5,6,7] rfl (by decide)),E.keep [1,2,3,6,7,8,40,41,42],(InR.inc r96 (qam h2) c103),h229,h240⟩
 have hF:=hJ
 refine cg E rfl hF (fun c222 hF=>?_) fun c222 hF=>?_
 ·refine wp_skip ?_
  cases hF
  exact ⟨rfl,⟨c97,M98,ok,E.keep [1,2,3,6,7,8,9,14,40,41,42],h99,r216⟩⟩
 refine sg<|mv E rfl fun a E=>lv E ok (qlW 3 rfl Tryz.underlying130 h99 rfl) fun a E=>aw E rfl fun a E=>qac<|mv E rfl fun a E=>lv E ok (qag (cs:=[vi o151.class_,vi o151.next.e0,vi o151.next.e1,vi o151.next.e2,vi o151.next.e3,vi o151.next.e4,vi o151.next.e5,vi o151.next.e6,vi o151.next.e7,vi o151.next.e8,vi o151.next.e9,vi o151.next.e10]) qot rfl rfl (qab.own 0 rfl rfl)) fun a E=>mv E rfl fun a E=>bd hF fun l223 e224 hF=>qim (.inl rfl) E ok 3 qnW Tryz.underlying130 h99 rfl rfl rfl rfl ⟨m0,_,rfl,⟨rfl,r200,r201,r202,r203,r204,r205,r206,r207,r208,r209,r210,r211⟩⟩ (qaX (OMap.InR h99)) e224 rfl fun M225 w ok h226=>wpList_nil ?_
 cases hF
 exact ⟨rfl,⟨c97,M225,ok,E.keep [1,2,3,6,7,8,9,14,40,41,42],h226,(OMap.InR h99)⟩⟩
def qlp (u:World) (m0:Mem) (S:Segs) (r:DFA) (a:Act) (w:World):Prop :=
 ∃ m1 v0,m0.le m1 ∧ Ok u m1 S w ∧ a.defers = [] ∧ RVs Tryz.prog a w [.c 2 35 (.agg v0.toArray)] ∧ pDFA m1 v0 r
theorem qig (N:Nat) (vt_0:List Value) (t_0:Table) (ht_0:qhb m0 vt_0 t_0) {r:DFA} (hF:qep N t_0 = some r) (hG:Glob u) (ok:Ok u m0 S w) :
  Calls Tryz.prog 45 [.agg vt_0.toArray].toArray w fun e w'=>∃ m1 v0,e = .returned (.agg v0.toArray) ∧ m0.le m1 ∧ Ok u m1 S w' ∧ pDFA m1 v0 r:=by
 obtain ⟨c1,c3,rfl,h2,h4⟩:=ht_0
 have le_m0:=Mem.le.refl m0
 unfold qep at hF
 refine en (qlp u m0 S) r Tryz.func45 rfl rfl rfl (by rintro a w ⟨m1,v0,hle,ok,hd,hrv,h0⟩; exact qbG [.c 2 35 (.agg v0.toArray)] hd rfl hrv ⟨m1,v0,rfl,hle,ok,h0⟩) fun fin a E=>sg<|qbz E ok rfl rfl rfl fun b5 a w E ok=>qax E ok qfV rfl rfl fun b6 a w E ok=>wn<|sg<|fk E ok qgS qd3 rfl 1 rfl rfl fun a E=>lw E (qaF (ps:=[(2,.tmp 7)]) (qs:=[(2,[c3])]) (cs:=[vi 0,(Value.slice none 0 0),c3]) qfV qjo rfl ⟨rfl,(qbW h4),rfl,trivial⟩ rfl) fun a E=>qax E ok qfV rfl rfl fun b7 a w E ok=>qad E ok 0 rfl rfl rfl qg6 rfl rfl ⟨rfl,rfl,(qa5 h4),trivial⟩ rfl rfl fun w ok=>wn<|wp_seq<|sg<|fk E ok qf0 qih rfl 2 rfl rfl fun a E=>lv E ok (qaD qgU h2 rfl) fun a E=>mv E rfl fun a E=>wn<|wp_block ?_
 obtain ⟨M16,ok,h17⟩:=qcf (e:=72) (k:=1) (R:=(pL 1 (pI .i64))) ok
 refine bd hF fun o18 hL hF=>qaE _ (fun (s:Int × DFA) a w=>∃ m19 c22 M23 c25,m0.le m19 ∧ Ok u m19 (M23 :: [(b7,oc 35 [vi s.2.Start,c22,c25])] :: [(b6,oc 35 [vi 0,(Value.slice none 0 0),(Value.slice none 0 0)])] :: [(b5,oc 75 [c1,c3])] :: S) w ∧ Env 24 a [(2,vp b6),(3,vp b7),(10,c1),(11,(vi (t_0.next.length:Int))),(12,vi s.1)] ∧ InR .i64 s.1 ∧ InR .i64 s.2.Start ∧ ORow 72 1 (pL 1 (pI .i64)) m19 c22 s.2.Next M23 ∧ (pL 1 pB) m19 [c25] s.2.Accept) (fun (b:DFA) e a w=>e = (.exit 0) ∧ ∃ m97 c99 M100 c102,m0.le m97 ∧ Ok u m97 (M100 :: [(b7,oc 35 [vi b.Start,c99,c102])] :: [(b6,oc 35 [vi 0,(Value.slice none 0 0),(Value.slice none 0 0)])] :: [(b5,oc 75 [c1,c3])] :: S) w ∧ Env 24 a [(2,vp b6),(3,vp b7)] ∧ InR .i64 b.Start ∧ ORow 72 1 (pL 1 (pI .i64)) m97 c99 b.Next M100 ∧ (pL 1 pB) m97 [c102] b.Accept) ?_ ?_ N _ a w hL ⟨m0,(Value.slice none 0 0),M16,c3,Mem.le.refl _,ok,E.keep [2,3,10,11,12],(ir 0),(ir 0),h17,h4⟩
 rotate_left
 ·intro e a w _ hO
  obtain ⟨rfl,m88,c90,M91,c93,hle,ok,E,r89,h92,h94⟩:=hO
  have le_m0:=le_m0.trans hle
  have h2:=(mL qbh).up hle h2
  have h4:=(mL mB).up hle h4
  refine qaM<|qaa<|sg<|lv E ok (qag (cs:=[vi o18.Start,c90,c93]) qha rfl rfl (qab.own 1 rfl rfl)) fun a E=>qad E ok 2 rfl rfl rfl qg6 rfl rfl ⟨rfl,(ORow.one h92),(qa5 h94),trivial⟩ rfl rfl fun w ok=>wn<|wp_ret ?_
  obtain ⟨m95,hle,ok,hfz⟩:=(ok.frs 0 rfl).freeze
  have h96:=ORow.froz (mL (mI .i64)) h92 hle hfz (by decide)
  have le_m0:=le_m0.trans hle
  have h2:=(mL qbh).up hle h2
  have h4:=(mL mB).up hle h4
  have h94:=(mL mB).up hle h94
  exact fin hF ⟨m95,[vi o18.Start,c90,c93],le_m0,ok.drop.drop.drop,E.d,⟨rv_c (cs:=[vi o18.Start,c90,c93]) E ok rfl qha rfl (qab.own 1 rfl rfl),trivial⟩,⟨_,_,rfl,r89,h96,h94⟩⟩
 rintro ⟨v27,v28⟩ a w r ⟨m29,c32,M33,c35,hle,ok,E,r30,r31,h34,h36⟩ hF
 replace hF:qc1 N t_0 v27 v28 = some r:=hF
 unfold qc1 at hF
 have le_m0:=le_m0.trans hle
 have h2:=(mL qbh).up hle h2
 have h4:=(mL mB).up hle h4
 refine sg<|lw E (qav rfl rfl) fun a E=>wn<|wp_seq<|cg E rfl hF (fun c37 hF=>?_) fun c37 hF=>?_
 ·refine wp_exit<|qaA ?_
  cases hF
  exact so (⟨rfl,⟨m29,c32,M33,c35,le_m0,ok,E.keep [2,3],r31,h34,h36⟩⟩)
 refine wp_skip<|qaa<|wp_seq<|wp_block<|sg ?_
 obtain ⟨x38,e39,hF⟩:=bnd hF
 obtain ⟨b40,o41,es42,hl43,rr44,at45,yy46⟩:=ia E 10 12 qgU h2 e39
 obtain ⟨rfl,r47,r48,r49,r50,r51,r52,r53,r54,r55,r56,r57⟩:=rr44
 refine lv E ok (yy46 _ _) fun a E=>lv E ok (qag (cs:=[vi x38.e0,vi x38.e1,vi x38.e2,vi x38.e3,vi x38.e4,vi x38.e5,vi x38.e6,vi x38.e7,vi x38.e8,vi x38.e9,vi x38.e10]) qiR rfl rfl (qab.ro at45)) fun a E=>qax E ok qfj rfl rfl fun b58 a w E ok=>qad E ok 0 rfl rfl rfl qoJ rfl rfl ⟨rfl,rfl,rfl,rfl,rfl,rfl,rfl,rfl,rfl,rfl,rfl,trivial⟩ rfl rfl fun w ok=>wn ?_
 have lits:=(show Lits 1 (pI .i64) m29 [vi x38.e0,vi x38.e1,vi x38.e2,vi x38.e3,vi x38.e4,vi x38.e5,vi x38.e6,vi x38.e7,vi x38.e8,vi x38.e9,vi x38.e10] ([x38.e0,x38.e1,x38.e2,x38.e3,x38.e4,x38.e5,x38.e6,x38.e7,x38.e8,x38.e9,x38.e10]:List (Int)) from ⟨⟨_,rfl,rfl,(qaX r47)⟩,⟨_,rfl,rfl,(qaX r48)⟩,⟨_,rfl,rfl,(qaX r49)⟩,⟨_,rfl,rfl,(qaX r50)⟩,⟨_,rfl,rfl,(qaX r51)⟩,⟨_,rfl,rfl,(qaX r52)⟩,⟨_,rfl,rfl,(qaX r53)⟩,⟨_,rfl,rfl,(qaX r54)⟩,⟨_,rfl,rfl,(qaX r55)⟩,⟨_,rfl,rfl,(qaX r56)⟩,⟨_,rfl,rfl,(qaX r57)⟩,trivial⟩)
 obtain ⟨m59,hle,ok,hfz⟩:=(ok.frs 0 rfl).freeze
 have h60:=qmM (n:=11) (mI .i64) lits rfl hle hfz rfl rfl
 clear lits
 have le_m0:=le_m0.trans hle
 have h2:=(mL qbh).up hle h2
 have h4:=(mL mB).up hle h4
 have h34:=ORow.up (mL (mI .i64)) hle h34
 have h36:=(mL mB).up hle h36
 have at45:=At.up hle at45
 refine bd hF fun o61 hJ hF=>qaG (Q':=fun e a w=>e = .normal ∧ ∃ c63 M64 c66,Ok u m59 (M64 :: [(b7,oc 35 [vi o61.Start,c63,c66])] :: [(b6,oc 35 [vi 0,(Value.slice none 0 0),(Value.slice none 0 0)])] :: [(b5,oc 75 [c1,c3])] :: S) w ∧ Env 24 a [(2,vp b6),(3,vp b7),(10,c1),(11,(vi (t_0.next.length:Int))),(12,vi v27)] ∧ InR .i64 o61.Start ∧ ORow 72 1 (pL 1 (pI .i64)) m59 c63 o61.Next M64 ∧ (pL 1 pB) m59 [c66] o61.Accept) ?_ ?_
 rotate_left
 ·intro e a w hO
  obtain ⟨rfl,c83,M84,c86,ok,E,r82,h85,h87⟩:=hO
  refine qal<|qaa<|qac<|lw E (qaw rfl rfl (InR.inc r30 (qam h2) c37)) fun a E=>mv E rfl fun a E=>wpList_nil ?_
  cases hF
  exact qas ⟨m59,c83,M84,c86,le_m0,ok,E.keep [2,3,10,11,12],(InR.inc r30 (qam h2) c37),r82,h85,h87⟩
 have hF:=hJ
 obtain ⟨l71,e72,hF⟩:=bnd hF
 obtain rfl:=sj hF
 refine qaY [1] (Cls u m59 ([(b7,oc 35 [vi v28.Start,c32,c35])] :: [(b6,oc 35 [vi 0,(Value.slice none 0 0),(Value.slice none 0 0)])] :: [(b5,oc 75 [c1,c3])] :: [])) (Cls u m59 ([(b6,oc 35 [vi 0,(Value.slice none 0 0),(Value.slice none 0 0)])] :: [(b5,oc 75 [c1,c3])] :: [])) (by kernel_rfl) ?_
 intro w hw
 replace ok:=qbd ok hw
 clear hw
 have le_m59:=Mem.le.refl m59
 refine qai (cl1 (cq le_m59 ok [1,2,3] rfl) (cq le_m59 ok [2,3] rfl)) fun hT=>kt 0 E rfl hT (qae qoy rfl) fun a E=>qaS 1 E rfl (by kernel_rfl) nP hT (qaj qdf rfl (qab.cown 0 rfl rfl)) rfl rfl fun a E=>kt 2 E rfl hT (qsF Tryz.underlying129 qaZ rfl) fun a E=>qao [3] (by kernel_rfl) rfl (qar ?_)
 ·refine wo rfl<|qaW (R:=(pL 1 (pI .i64))) (xo:=[.tmp 18]) (xs:=([([x38.e0,x38.e1,x38.e2,x38.e3,x38.e4,x38.e5,x38.e6,x38.e7,x38.e8,x38.e9,x38.e10]:List (Int))]:List (List (Int)))) E ok qcA qdC rfl ⟨⟨_,(qbW h60),rfl,h60⟩,trivial⟩ rfl rfl rfl rfl fun c76 M77 a w E ok h78=>wn<|qai (cl1 (cq le_m59 ok [2,3,4] rfl) (cq le_m59 ok [3,4] rfl)) fun hT=>qao [4] (by kernel_rfl) rfl (qar ?_)
  ·refine wo rfl<|qbo (R:=(pL 1 (pI .i64))) E ok 1 (mL (mI .i64)) qcA Tryz.underlying31 rfl h34 (qa0.ofRow h78 0 rfl ok) e72 ⟨_,qdC,rfl⟩ rfl rfl rfl rfl fun c79 M80 a w E ok h81=>wn<|qai (cl1 (cq le_m59 ok [2,3,4] rfl) (cq le_m59 ok [3,4] rfl)) fun hT=>kt 5 E rfl hT (qae qoy rfl) fun a E=>qao [6] (by kernel_rfl) rfl (qar ?_)
   ·refine wo rfl<|qad E ok 2 rfl rfl rfl qh9 (ORow.cells h81) rfl ⟨(ORow.one h81),trivial⟩ rfl rfl fun w ok=>wn<|qai (cl2 (by kernel_rfl) (cq le_m59 ok [3,4] rfl)) fun hT=>qaV (by kernel_rfl) ?_
    exact ⟨rfl,⟨c79,M80,c35,(ok.pk 5 [1,2,3,4] rfl (by decide)),E.keep [2,3,10,11,12],r31,h81,h36⟩⟩
end Go.Proofs.YtidfofhmnlhfjaaGreatDoor
namespace Go.Proofs.YtidfofhmnlhfjaaGreatDoor
open Go.X
variable {u:World} {m0:Mem} {S:Segs} {w:World}
set_option maxHeartbeats 4000000
set_option maxRecDepth 100000
def qjX (u:World) (m0:Mem) (S:Segs) (r:Reading) (a:Act) (w:World):Prop :=
 ∃ m1 v0,m0.le m1 ∧ Ok u m1 S w ∧ a.defers = [] ∧ RVs Tryz.prog a w [.c 6 89 (.agg v0.toArray)] ∧ qcv m1 v0 r
theorem qjG (N:Nat) (vs_0:List Value) (s_0:Reading) (hs_0:qcv m0 vs_0 s_0) (vl_1:Value) (l_1:List (Relation)) (hl_1:(pL 4 qap) m0 [vl_1] l_1) (symbol_2:Int) (rsymbol_2:InR .i64 symbol_2) {r:Reading} (hF:qfn N s_0 l_1 symbol_2 = some r) (hG:Glob u) (ok:Ok u m0 S w) :
  Calls Tryz.prog 50 [.agg vs_0.toArray,vl_1,vi symbol_2].toArray w fun e w'=>∃ m1 v0,e = .returned (.agg v0.toArray) ∧ m0.le m1 ∧ Ok u m1 S w' ∧ qcv m1 v0 r:=by
 obtain ⟨rfl,r1,r2,r3,r4,r5,r6,r7,r8,r9,r10,r11,r12,r13⟩:=hs_0
 have le_m0:=Mem.le.refl m0
 unfold qfn at hF
 refine en (qjX u m0 S) r Tryz.func50 rfl rfl rfl (by rintro a w ⟨m1,v0,hle,ok,hd,hrv,h0⟩; exact qbG [.c 6 89 (.agg v0.toArray)] hd rfl hrv ⟨m1,v0,rfl,hle,ok,h0⟩) fun fin a E=>sg<|qbz E ok rfl rfl rfl fun b14 a w E ok=>qax E ok qfU rfl rfl fun b15 a w E ok=>wn<|wp_seq<|wp_block<|sg<|mv E rfl fun a E=>lw E (qau rfl rfl) fun a E=>mv E rfl fun a E=>bw E 12 hF (fun c16 hF E=>?_) fun c16 hF E=>?_
 ·as_aux_lemma =>
   refine lsq E fun a E=>ls E fun a E=>pf E rfl rfl fun a E=>aw E rfl fun a E=>c_if E rfl (fun h=>by cases h) (fun _=>?_)
   refine sg<|mv E rfl fun a E=>lw E (qau rfl rfl) fun a E=>mv E rfl fun a E=>bu E 22 hF (fun c333 hF E=>?_) fun c333 hF E=>?_
   ·refine lsq E fun a E=>ls E fun a E=>pt E rfl rfl fun a E=>aw E rfl fun a E=>c_if E rfl (fun _=>?_) (fun h=>by cases h)
    refine sg<|lw E (qaF (ps:=[(0,.const (vi 4))]) (qs:=[(0,[vi 4])]) (cs:=[vi 4,vi 0,vi 0,vi 0,vi 0,vi 0,vi 0,vi 0,vi 0,vi 0,vi 0,vi 0,vi 0]) qfU qii rfl ⟨rfl,rfl,rfl,trivial⟩ rfl) fun a E=>qad E ok 0 rfl rfl rfl qgM rfl rfl ⟨rfl,rfl,rfl,rfl,rfl,rfl,rfl,rfl,rfl,rfl,rfl,rfl,rfl,trivial⟩ rfl rfl fun w ok=>wn<|wp_ret<|qaz<|qaq ?_
    exact fin hF ⟨m0,[vi 4,vi 0,vi 0,vi 0,vi 0,vi 0,vi 0,vi 0,vi 0,vi 0,vi 0,vi 0,vi 0],le_m0,ok.drop.drop,E.d,⟨rv_c (cs:=[vi 4,vi 0,vi 0,vi 0,vi 0,vi 0,vi 0,vi 0,vi 0,vi 0,vi 0,vi 0,vi 0]) E ok rfl qdh rfl (qab.own 0 rfl rfl),trivial⟩,⟨rfl,(ir 4),(ir 0),(ir 0),(ir 0),(ir 0),(ir 0),(ir 0),(ir 0),(ir 0),(ir 0),(ir 0),(ir 0),(ir 0)⟩⟩
   refine fk E ok qc5 qak rfl 1 rfl rfl fun a E=>lw E (qau rfl rfl) fun a E=>pf E rfl rfl fun a E=>aw E rfl fun a E=>cf E rfl hF (fun c334 hF=>?_) fun c334 hF=>?_
   ·refine sg<|lw E (qaF (ps:=[(0,.const (vi 4))]) (qs:=[(0,[vi 4])]) (cs:=[vi 4,vi 0,vi 0,vi 0,vi 0,vi 0,vi 0,vi 0,vi 0,vi 0,vi 0,vi 0,vi 0]) qfU qii rfl ⟨rfl,rfl,rfl,trivial⟩ rfl) fun a E=>qad E ok 0 rfl rfl rfl qgM rfl rfl ⟨rfl,rfl,rfl,rfl,rfl,rfl,rfl,rfl,rfl,rfl,rfl,rfl,rfl,trivial⟩ rfl rfl fun w ok=>wn<|wp_ret<|qaz<|qaq ?_
    exact fin hF ⟨m0,[vi 4,vi 0,vi 0,vi 0,vi 0,vi 0,vi 0,vi 0,vi 0,vi 0,vi 0,vi 0,vi 0],le_m0,ok.drop.drop,E.d,⟨rv_c (cs:=[vi 4,vi 0,vi 0,vi 0,vi 0,vi 0,vi 0,vi 0,vi 0,vi 0,vi 0,vi 0,vi 0]) E ok rfl qdh rfl (qab.own 0 rfl rfl),trivial⟩,⟨rfl,(ir 4),(ir 0),(ir 0),(ir 0),(ir 0),(ir 0),(ir 0),(ir 0),(ir 0),(ir 0),(ir 0),(ir 0),(ir 0)⟩⟩
   refine wp_skip<|qal<|qaa<|wp_seq<|sg<|fk E ok qc5 qak rfl 1 rfl rfl fun a E=>lw E (qau rfl rfl) fun a E=>mv E rfl fun a E=>bu E 31 hF (fun c335 hF E=>?_) fun c335 hF E=>?_
   ·as_aux_lemma =>
     refine lsq E fun a E=>ls E fun a E=>pt E rfl rfl fun a E=>wn<|c_if E rfl (fun _=>?_) (fun h=>by cases h)
     refine qac<|fv E qc5 rfl fun a E=>qad E ok 1 rfl rfl rfl qaZ rfl rfl ⟨rfl,trivial⟩ rfl rfl fun w ok=>wn<|wp_seq<|sg<|mv E rfl fun a E=>lv E ok (qaD qa4 hl_1 rfl) fun a E=>mv E rfl fun a E=>wn<|wp_block<|bd hF fun o351 hL hF=>qaE _ (fun (s:Int × Reading) a w=>∃ m352,m0.le m352 ∧ Ok u m352 ([(b15,oc 89 [vi 0,vi 0,vi 0,vi 0,vi 0,vi 0,vi 0,vi 0,vi 0,vi 0,vi 0,vi 0,vi 0])] :: [(b14,oc 89 [vi s.2.phase,vi s.2.trackers.e0.a,vi s.2.trackers.e0.b,vi s.2.trackers.e1.a,vi s.2.trackers.e1.b,vi s.2.trackers.e2.a,vi s.2.trackers.e2.b,vi s.2.trackers.e3.a,vi s.2.trackers.e3.b,vi s.2.trackers.e4.a,vi s.2.trackers.e4.b,vi s.2.trackers.e5.a,vi s.2.trackers.e5.b])] :: S) w ∧ Env 60 a [(2,vi symbol_2),(3,vp b14),(6,vp b15),(38,vl_1),(39,(vi (l_1.length:Int))),(40,vi s.1)] ∧ InR .i64 s.1 ∧ InR .i64 s.2.phase ∧ InR .i64 s.2.trackers.e0.a ∧ InR .i64 s.2.trackers.e0.b ∧ InR .i64 s.2.trackers.e1.a ∧ InR .i64 s.2.trackers.e1.b ∧ InR .i64 s.2.trackers.e2.a ∧ InR .i64 s.2.trackers.e2.b ∧ InR .i64 s.2.trackers.e3.a ∧ InR .i64 s.2.trackers.e3.b ∧ InR .i64 s.2.trackers.e4.a ∧ InR .i64 s.2.trackers.e4.b ∧ InR .i64 s.2.trackers.e5.a ∧ InR .i64 s.2.trackers.e5.b) (fun (b:Reading) e a w=>e = (.exit 1) ∧ ∃ m464,m0.le m464 ∧ Ok u m464 ([(b15,oc 89 [vi 0,vi 0,vi 0,vi 0,vi 0,vi 0,vi 0,vi 0,vi 0,vi 0,vi 0,vi 0,vi 0])] :: [(b14,oc 89 [vi b.phase,vi b.trackers.e0.a,vi b.trackers.e0.b,vi b.trackers.e1.a,vi b.trackers.e1.b,vi b.trackers.e2.a,vi b.trackers.e2.b,vi b.trackers.e3.a,vi b.trackers.e3.b,vi b.trackers.e4.a,vi b.trackers.e4.b,vi b.trackers.e5.a,vi b.trackers.e5.b])] :: S) w ∧ Env 60 a [(3,vp b14),(6,vp b15)] ∧ InR .i64 b.phase ∧ InR .i64 b.trackers.e0.a ∧ InR .i64 b.trackers.e0.b ∧ InR .i64 b.trackers.e1.a ∧ InR .i64 b.trackers.e1.b ∧ InR .i64 b.trackers.e2.a ∧ InR .i64 b.trackers.e2.b ∧ InR .i64 b.trackers.e3.a ∧ InR .i64 b.trackers.e3.b ∧ InR .i64 b.trackers.e4.a ∧ InR .i64 b.trackers.e4.b ∧ InR .i64 b.trackers.e5.a ∧ InR .i64 b.trackers.e5.b) ?_ ?_ N _ a w hL ⟨m0,Mem.le.refl _,ok,E.keep [2,3,6,38,39,40],(ir 0),(ir 1),r2,r3,r4,r5,r6,r7,r8,r9,r10,r11,r12,r13⟩
     rotate_left
     ·intro e a w _ hO
      obtain ⟨rfl,m450,hle,ok,E,r451,r452,r453,r454,r455,r456,r457,r458,r459,r460,r461,r462,r463⟩:=hO
      have le_m0:=le_m0.trans hle
      have hl_1:=(mL qaf).up hle hl_1
      refine qaM<|qaa<|sg<|lv E ok (qag (cs:=[vi o351.phase,vi o351.trackers.e0.a,vi o351.trackers.e0.b,vi o351.trackers.e1.a,vi o351.trackers.e1.b,vi o351.trackers.e2.a,vi o351.trackers.e2.b,vi o351.trackers.e3.a,vi o351.trackers.e3.b,vi o351.trackers.e4.a,vi o351.trackers.e4.b,vi o351.trackers.e5.a,vi o351.trackers.e5.b]) qdh rfl rfl (qab.own 1 rfl rfl)) fun a E=>qad E ok 0 rfl rfl rfl qgM rfl rfl ⟨rfl,rfl,rfl,rfl,rfl,rfl,rfl,rfl,rfl,rfl,rfl,rfl,rfl,trivial⟩ rfl rfl fun w ok=>wn<|wp_ret ?_
      exact fin hF ⟨m450,[vi o351.phase,vi o351.trackers.e0.a,vi o351.trackers.e0.b,vi o351.trackers.e1.a,vi o351.trackers.e1.b,vi o351.trackers.e2.a,vi o351.trackers.e2.b,vi o351.trackers.e3.a,vi o351.trackers.e3.b,vi o351.trackers.e4.a,vi o351.trackers.e4.b,vi o351.trackers.e5.a,vi o351.trackers.e5.b],le_m0,ok.drop.drop,E.d,⟨rv_c (cs:=[vi o351.phase,vi o351.trackers.e0.a,vi o351.trackers.e0.b,vi o351.trackers.e1.a,vi o351.trackers.e1.b,vi o351.trackers.e2.a,vi o351.trackers.e2.b,vi o351.trackers.e3.a,vi o351.trackers.e3.b,vi o351.trackers.e4.a,vi o351.trackers.e4.b,vi o351.trackers.e5.a,vi o351.trackers.e5.b]) E ok rfl qdh rfl (qab.own 0 rfl rfl),trivial⟩,⟨rfl,r451,r452,r453,r454,r455,r456,r457,r458,r459,r460,r461,r462,r463⟩⟩
     rintro ⟨v367,v368⟩ a w r ⟨m369,hle,ok,E,r370,r371,r372,r373,r374,r375,r376,r377,r378,r379,r380,r381,r382,r383⟩ hF
     replace hF:qey N l_1 symbol_2 v367 v368 = some r:=hF
     unfold qey at hF
     have le_m0:=le_m0.trans hle
     have hl_1:=(mL qaf).up hle hl_1
     refine sg<|lw E (qav rfl rfl) fun a E=>wn<|wp_seq<|cg E rfl hF (fun c384 hF=>?_) fun c384 hF=>?_
     ·refine wp_exit<|qaA ?_
      cases hF
      exact so (⟨rfl,⟨m369,le_m0,ok,E.keep [3,6],r371,r372,r373,r374,r375,r376,r377,r378,r379,r380,r381,r382,r383⟩⟩)
     refine wp_skip<|qaa<|wp_seq<|wp_block<|sg<|mv E rfl fun a E=>?_
     obtain ⟨x385,e386,hF⟩:=bnd hF
     obtain ⟨b387,o388,es389,hl390,rr391,at392,yy393⟩:=ia E 38 40 qa4 hl_1 e386
     obtain ⟨c396,rfl,r394,r395,h397⟩:=rr391
     refine lv E ok (yy393 _ _) fun a E=>lv E ok (qag (cs:=[vi x385.Operand,vi x385.Mod,vb x385.Not,c396]) qbc rfl rfl (qab.ro at392)) fun a E=>qax E ok qcU rfl rfl fun b398 a w E ok=>av E rfl fun a E=>qad E ok 0 rfl rfl rfl qfF rfl rfl ⟨rfl,rfl,rfl,(qa5 h397),trivial⟩ rfl rfl fun w ok=>wn<|bd hF fun o399 hJ hF=>qaG (Q':=fun e a w=>e = .normal ∧ ∃ m400,m369.le m400 ∧ Ok u m400 ([(b398,oc 69 [vi x385.Operand,vi x385.Mod,vb x385.Not,c396])] :: [(b15,oc 89 [vi 0,vi 0,vi 0,vi 0,vi 0,vi 0,vi 0,vi 0,vi 0,vi 0,vi 0,vi 0,vi 0])] :: [(b14,oc 89 [vi o399.phase,vi o399.trackers.e0.a,vi o399.trackers.e0.b,vi o399.trackers.e1.a,vi o399.trackers.e1.b,vi o399.trackers.e2.a,vi o399.trackers.e2.b,vi o399.trackers.e3.a,vi o399.trackers.e3.b,vi o399.trackers.e4.a,vi o399.trackers.e4.b,vi o399.trackers.e5.a,vi o399.trackers.e5.b])] :: S) w ∧ Env 60 a [(2,vi symbol_2),(3,vp b14),(6,vp b15),(38,vl_1),(39,(vi (l_1.length:Int))),(40,vi v367)] ∧ InR .i64 o399.phase ∧ InR .i64 o399.trackers.e0.a ∧ InR .i64 o399.trackers.e0.b ∧ InR .i64 o399.trackers.e1.a ∧ InR .i64 o399.trackers.e1.b ∧ InR .i64 o399.trackers.e2.a ∧ InR .i64 o399.trackers.e2.b ∧ InR .i64 o399.trackers.e3.a ∧ InR .i64 o399.trackers.e3.b ∧ InR .i64 o399.trackers.e4.a ∧ InR .i64 o399.trackers.e4.b ∧ InR .i64 o399.trackers.e5.a ∧ InR .i64 o399.trackers.e5.b) ?_ ?_
     rotate_left
     ·intro e a w hO
      obtain ⟨rfl,m436,hle,ok,E,r437,r438,r439,r440,r441,r442,r443,r444,r445,r446,r447,r448,r449⟩:=hO
      have le_m0:=le_m0.trans hle
      have hl_1:=(mL qaf).up hle hl_1
      have h397:=(mL qdF).up hle h397
      have at392:=At.up hle at392
      refine qal<|qaa<|qac<|lw E (qaw rfl rfl (InR.inc r370 (qam hl_1) c384)) fun a E=>mv E rfl fun a E=>wpList_nil ?_
      cases hF
      exact qas ⟨m436,le_m0,(ok.pk 3 [1,2] rfl (by decide)),E.keep [2,3,6,38,39,40],(InR.inc r370 (qam hl_1) c384),r437,r438,r439,r440,r441,r442,r443,r444,r445,r446,r447,r448,r449⟩
     have hF:=hJ
     have le_m369:=Mem.le.refl m369
     obtain ⟨x414,e415,hF⟩:=bnd hF
     obtain ⟨r416,e417,hF⟩:=bnd hF
     obtain ⟨x423,e424,hF⟩:=bnd hF
     obtain ⟨z425,e426,hF⟩:=bnd hF
     obtain rfl:=sj hF
     refine qaY [4,5,7] (Cls u m369 ([(b398,oc 69 [vi x385.Operand,vi x385.Mod,vb x385.Not,c396])] :: [(b15,oc 89 [vi 0,vi 0,vi 0,vi 0,vi 0,vi 0,vi 0,vi 0,vi 0,vi 0,vi 0,vi 0,vi 0])] :: [(b14,oc 89 [vi v368.phase,vi v368.trackers.e0.a,vi v368.trackers.e0.b,vi v368.trackers.e1.a,vi v368.trackers.e1.b,vi v368.trackers.e2.a,vi v368.trackers.e2.b,vi v368.trackers.e3.a,vi v368.trackers.e3.b,vi v368.trackers.e4.a,vi v368.trackers.e4.b,vi v368.trackers.e5.a,vi v368.trackers.e5.b])] :: [])) (Cls u m369 ([(b398,oc 69 [vi x385.Operand,vi x385.Mod,vb x385.Not,c396])] :: [(b15,oc 89 [vi 0,vi 0,vi 0,vi 0,vi 0,vi 0,vi 0,vi 0,vi 0,vi 0,vi 0,vi 0,vi 0])] :: [])) (by kernel_rfl) ?_
     intro w hw
     replace ok:=qbd ok hw
     clear hw
     have h397_o:=h397
     refine qai (cl1 (cq le_m369 ok [0,1,2] rfl) (cq le_m369 ok [0,1] rfl)) fun hT=>kt 0 E rfl hT (qah rfl) fun a E=>kt 1 E rfl hT (qah rfl) fun a E=>kt 2 E rfl hT (qae qgP rfl) fun a E=>?_
     replace e415:idx (Arr6_Tracker.list v368.trackers) v367 = some x414:=e415
     refine kt 3 E rfl hT (qb4 qhz rfl rfl (qaN e415).1 (qaN e415).2) fun a E=>qaS 5 E rfl (by kernel_rfl) nP hT (qag (cs:=[vi x385.Operand,vi x385.Mod,vb x385.Not,c396]) qbc rfl rfl (qab.cown 0 rfl rfl)) rfl rfl fun a E=>kt 6 E rfl hT (qae qc5 rfl) fun a E=>qaS 7 E rfl (by kernel_rfl) nP hT (qaj qak rfl (qab.cown 2 rfl rfl)) rfl rfl fun a E=>kt 8 E rfl hT (qau rfl rfl) fun a E=>kt 9 E rfl hT (qah rfl) fun a E=>kt 11 E rfl hT (qae qgP rfl) fun a E=>qao [4] (by kernel_rfl) rfl (qar ?_)
     ·refine wo rfl<|lv E ok (qag (cs:=[vi x414.a,vi x414.b]) qbT rfl rfl (qab.idxK (k:=2) (xs:=Arr6_Tracker.list v368.trackers) (f:=(fun x:Tracker=>[vi x.a,vi x.b])) (fun _=>rfl) (qab.own 2 rfl rfl) e415)) fun a E=>wn<|qai (cl1 (cq le_m369 ok [0,1,2] rfl) (cq le_m369 ok [0,1] rfl)) fun hT=>qao [10] (by kernel_rfl) rfl (qar ?_)
      ·refine wo rfl<|qan E qml rfl (qdV N _ x414 ⟨rfl,(AllP.idx (q:=(fun z:Tracker=>InR .i64 z.a ∧ InR .i64 z.b)) (xs:=Arr6_Tracker.list v368.trackers) ⟨⟨r372,r373⟩,⟨r374,r375⟩,⟨r376,r377⟩,⟨r378,r379⟩,⟨r380,r381⟩,⟨r382,r383⟩,trivial⟩ e415).1,(AllP.idx (q:=(fun z:Tracker=>InR .i64 z.a ∧ InR .i64 z.b)) (xs:=Arr6_Tracker.list v368.trackers) ⟨⟨r372,r373⟩,⟨r374,r375⟩,⟨r376,r377⟩,⟨r378,r379⟩,⟨r380,r381⟩,⟨r382,r383⟩,trivial⟩ e415).2⟩ _ x385 ⟨_,rfl,r394,r395,h397⟩ (v368.phase == 3) symbol_2 rsymbol_2 e417 hG ok) rfl rfl ?_
       rintro _ w ⟨m429,vs430,rfl,hle,ok,h431⟩
       have le_m0:=le_m0.trans hle
       have le_m369:=le_m369.trans hle
       have hl_1:=(mL qaf).up hle hl_1
       have h397:=(mL qdF).up hle h397
       have at392:=At.up hle at392
       obtain ⟨rfl,r432,r433⟩:=h431
       refine ⟨_,rfl,fun a E=>?_⟩
       refine wn<|qai (cl1 (cq le_m369 ok [0,1,2] rfl) (cq le_m369 ok [0,1] rfl)) fun hT=>?_
       replace e424:idx (Arr6_Tracker.list v368.trackers) v367 = some x423:=e424
       refine kt 12 E rfl hT (qb4 qhz rfl rfl (qaN e424).1 (qaN e424).2) fun a E=>qao [13] (by kernel_rfl) rfl (qar ?_)
       ·refine qbm (o:=_) rfl ?_
        have h434:=Arr6_Tracker.set_list e426
        have h435:=AllP.setI (q:=(fun z:Tracker=>InR .i64 z.a ∧ InR .i64 z.b)) (xs:=Arr6_Tracker.list v368.trackers) ⟨⟨r372,r373⟩,⟨r374,r375⟩,⟨r376,r377⟩,⟨r378,r379⟩,⟨r380,r381⟩,⟨r382,r383⟩,trivial⟩ ⟨r432,r433⟩ h434
        refine qed (c:=[vi v368.phase,vi v368.trackers.e0.a,vi v368.trackers.e0.b,vi v368.trackers.e1.a,vi v368.trackers.e1.b,vi v368.trackers.e2.a,vi v368.trackers.e2.b,vi v368.trackers.e3.a,vi v368.trackers.e3.b,vi v368.trackers.e4.a,vi v368.trackers.e4.b,vi v368.trackers.e5.a,vi v368.trackers.e5.b]) (c':=[vi v368.phase,vi z425.e0.a,vi z425.e0.b,vi z425.e1.a,vi z425.e1.b,vi z425.e2.a,vi z425.e2.b,vi z425.e3.a,vi z425.e3.b,vi z425.e4.a,vi z425.e4.b,vi z425.e5.a,vi z425.e5.b]) E ok 2 rfl rfl rfl qef rfl rfl ⟨rfl,rfl,trivial⟩ (qlx (n:=6) (k:=2) (qaN e424).2 (Nat.le_of_ble_eq_true rfl)) (qmr (f:=(fun x:Tracker=>[vi x.a,vi x.b])) (fun _=>rfl) (pre:=[vi v368.phase]) (post:=[]) (xs:=Arr6_Tracker.list v368.trackers) (ys:=z425.list) rfl h434) rfl fun w ok=>wn<|qai (cl2 (by kernel_rfl) (cq le_m369 ok [0,1] rfl)) fun hT=>qaV (by kernel_rfl) ?_
        exact ⟨rfl,⟨m429,le_m369,ok,E.keep [2,3,6,38,39,40],r371,h435.1.1,h435.1.2,h435.2.1.1,h435.2.1.2,h435.2.2.1.1,h435.2.2.1.2,h435.2.2.2.1.1,h435.2.2.2.1.2,h435.2.2.2.2.1.1,h435.2.2.2.2.1.2,h435.2.2.2.2.2.1.1,h435.2.2.2.2.2.1.2⟩⟩
   refine fk E ok qc5 qak rfl 1 rfl rfl fun a E=>lw E (qau rfl rfl) fun a E=>pf E rfl rfl fun a E=>wn<|bd hF fun o478 hJ hF=>qaG (Q':=fun e a w=>e = .normal ∧ Ok u m0 ([(b15,oc 89 [vi 0,vi 0,vi 0,vi 0,vi 0,vi 0,vi 0,vi 0,vi 0,vi 0,vi 0,vi 0,vi 0])] :: [(b14,oc 89 [vi o478.phase,vi o478.trackers.e0.a,vi o478.trackers.e0.b,vi o478.trackers.e1.a,vi o478.trackers.e1.b,vi o478.trackers.e2.a,vi o478.trackers.e2.b,vi o478.trackers.e3.a,vi o478.trackers.e3.b,vi o478.trackers.e4.a,vi o478.trackers.e4.b,vi o478.trackers.e5.a,vi o478.trackers.e5.b])] :: S) w ∧ Env 60 a [(1,vl_1),(2,vi symbol_2),(3,vp b14),(6,vp b15)] ∧ InR .i64 o478.phase ∧ InR .i64 o478.trackers.e0.a ∧ InR .i64 o478.trackers.e0.b ∧ InR .i64 o478.trackers.e1.a ∧ InR .i64 o478.trackers.e1.b ∧ InR .i64 o478.trackers.e2.a ∧ InR .i64 o478.trackers.e2.b ∧ InR .i64 o478.trackers.e3.a ∧ InR .i64 o478.trackers.e3.b ∧ InR .i64 o478.trackers.e4.a ∧ InR .i64 o478.trackers.e4.b ∧ InR .i64 o478.trackers.e5.a ∧ InR .i64 o478.trackers.e5.b) ?_ ?_
   ·have hF:=hJ
    refine cf E rfl hF (fun c492 hF=>?_) fun c492 hF=>?_
    ·refine qac<|fv E qc5 rfl fun a E=>qad E ok 1 rfl rfl rfl qaZ rfl rfl ⟨rfl,trivial⟩ rfl rfl fun w ok=>wpList_nil ?_
     cases hF
     exact ⟨rfl,⟨ok,E.keep [1,2,3,6],(ir 1),r2,r3,r4,r5,r6,r7,r8,r9,r10,r11,r12,r13⟩⟩
    refine qac<|fv E qc5 rfl fun a E=>qad E ok 1 rfl rfl rfl qaZ rfl rfl ⟨rfl,trivial⟩ rfl rfl fun w ok=>wpList_nil ?_
    cases hF
    exact ⟨rfl,⟨ok,E.keep [1,2,3,6],(ir 3),r2,r3,r4,r5,r6,r7,r8,r9,r10,r11,r12,r13⟩⟩
   intro e a w hO
   obtain ⟨rfl,ok,E,r493,r494,r495,r496,r497,r498,r499,r500,r501,r502,r503,r504,r505⟩:=hO
   refine qaa<|wp_seq<|sg<|mv E rfl fun a E=>lv E ok (qaD qa4 hl_1 rfl) fun a E=>mv E rfl fun a E=>wn<|wp_block<|bd hF fun o521 hL hF=>qaE _ (fun (s:Int × Reading) a w=>∃ m522,m0.le m522 ∧ Ok u m522 ([(b15,oc 89 [vi 0,vi 0,vi 0,vi 0,vi 0,vi 0,vi 0,vi 0,vi 0,vi 0,vi 0,vi 0,vi 0])] :: [(b14,oc 89 [vi s.2.phase,vi s.2.trackers.e0.a,vi s.2.trackers.e0.b,vi s.2.trackers.e1.a,vi s.2.trackers.e1.b,vi s.2.trackers.e2.a,vi s.2.trackers.e2.b,vi s.2.trackers.e3.a,vi s.2.trackers.e3.b,vi s.2.trackers.e4.a,vi s.2.trackers.e4.b,vi s.2.trackers.e5.a,vi s.2.trackers.e5.b])] :: S) w ∧ Env 60 a [(2,vi symbol_2),(3,vp b14),(6,vp b15),(38,vl_1),(39,(vi (l_1.length:Int))),(40,vi s.1)] ∧ InR .i64 s.1 ∧ InR .i64 s.2.phase ∧ InR .i64 s.2.trackers.e0.a ∧ InR .i64 s.2.trackers.e0.b ∧ InR .i64 s.2.trackers.e1.a ∧ InR .i64 s.2.trackers.e1.b ∧ InR .i64 s.2.trackers.e2.a ∧ InR .i64 s.2.trackers.e2.b ∧ InR .i64 s.2.trackers.e3.a ∧ InR .i64 s.2.trackers.e3.b ∧ InR .i64 s.2.trackers.e4.a ∧ InR .i64 s.2.trackers.e4.b ∧ InR .i64 s.2.trackers.e5.a ∧ InR .i64 s.2.trackers.e5.b) (fun (b:Reading) e a w=>e = (.exit 1) ∧ ∃ m634,m0.le m634 ∧ Ok u m634 ([(b15,oc 89 [vi 0,vi 0,vi 0,vi 0,vi 0,vi 0,vi 0,vi 0,vi 0,vi 0,vi 0,vi 0,vi 0])] :: [(b14,oc 89 [vi b.phase,vi b.trackers.e0.a,vi b.trackers.e0.b,vi b.trackers.e1.a,vi b.trackers.e1.b,vi b.trackers.e2.a,vi b.trackers.e2.b,vi b.trackers.e3.a,vi b.trackers.e3.b,vi b.trackers.e4.a,vi b.trackers.e4.b,vi b.trackers.e5.a,vi b.trackers.e5.b])] :: S) w ∧ Env 60 a [(3,vp b14),(6,vp b15)] ∧ InR .i64 b.phase ∧ InR .i64 b.trackers.e0.a ∧ InR .i64 b.trackers.e0.b ∧ InR .i64 b.trackers.e1.a ∧ InR .i64 b.trackers.e1.b ∧ InR .i64 b.trackers.e2.a ∧ InR .i64 b.trackers.e2.b ∧ InR .i64 b.trackers.e3.a ∧ InR .i64 b.trackers.e3.b ∧ InR .i64 b.trackers.e4.a ∧ InR .i64 b.trackers.e4.b ∧ InR .i64 b.trackers.e5.a ∧ InR .i64 b.trackers.e5.b) ?_ ?_ N _ a w hL ⟨m0,Mem.le.refl _,ok,E.keep [2,3,6,38,39,40],(ir 0),r493,r494,r495,r496,r497,r498,r499,r500,r501,r502,r503,r504,r505⟩
   rotate_left
   ·intro e a w _ hO
    obtain ⟨rfl,m620,hle,ok,E,r621,r622,r623,r624,r625,r626,r627,r628,r629,r630,r631,r632,r633⟩:=hO
    have le_m0:=le_m0.trans hle
    have hl_1:=(mL qaf).up hle hl_1
    refine qaM<|qaa<|sg<|lv E ok (qag (cs:=[vi o521.phase,vi o521.trackers.e0.a,vi o521.trackers.e0.b,vi o521.trackers.e1.a,vi o521.trackers.e1.b,vi o521.trackers.e2.a,vi o521.trackers.e2.b,vi o521.trackers.e3.a,vi o521.trackers.e3.b,vi o521.trackers.e4.a,vi o521.trackers.e4.b,vi o521.trackers.e5.a,vi o521.trackers.e5.b]) qdh rfl rfl (qab.own 1 rfl rfl)) fun a E=>qad E ok 0 rfl rfl rfl qgM rfl rfl ⟨rfl,rfl,rfl,rfl,rfl,rfl,rfl,rfl,rfl,rfl,rfl,rfl,rfl,trivial⟩ rfl rfl fun w ok=>wn<|wp_ret ?_
    exact fin hF ⟨m620,[vi o521.phase,vi o521.trackers.e0.a,vi o521.trackers.e0.b,vi o521.trackers.e1.a,vi o521.trackers.e1.b,vi o521.trackers.e2.a,vi o521.trackers.e2.b,vi o521.trackers.e3.a,vi o521.trackers.e3.b,vi o521.trackers.e4.a,vi o521.trackers.e4.b,vi o521.trackers.e5.a,vi o521.trackers.e5.b],le_m0,ok.drop.drop,E.d,⟨rv_c (cs:=[vi o521.phase,vi o521.trackers.e0.a,vi o521.trackers.e0.b,vi o521.trackers.e1.a,vi o521.trackers.e1.b,vi o521.trackers.e2.a,vi o521.trackers.e2.b,vi o521.trackers.e3.a,vi o521.trackers.e3.b,vi o521.trackers.e4.a,vi o521.trackers.e4.b,vi o521.trackers.e5.a,vi o521.trackers.e5.b]) E ok rfl qdh rfl (qab.own 0 rfl rfl),trivial⟩,⟨rfl,r621,r622,r623,r624,r625,r626,r627,r628,r629,r630,r631,r632,r633⟩⟩
   rintro ⟨v537,v538⟩ a w r ⟨m539,hle,ok,E,r540,r541,r542,r543,r544,r545,r546,r547,r548,r549,r550,r551,r552,r553⟩ hF
   replace hF:qeB N l_1 symbol_2 v537 v538 = some r:=hF
   unfold qeB at hF
   have le_m0:=le_m0.trans hle
   have hl_1:=(mL qaf).up hle hl_1
   refine sg<|lw E (qav rfl rfl) fun a E=>wn<|wp_seq<|cg E rfl hF (fun c554 hF=>?_) fun c554 hF=>?_
   ·refine wp_exit<|qaA ?_
    cases hF
    exact so (⟨rfl,⟨m539,le_m0,ok,E.keep [3,6],r541,r542,r543,r544,r545,r546,r547,r548,r549,r550,r551,r552,r553⟩⟩)
   refine wp_skip<|qaa<|wp_seq<|wp_block<|sg<|mv E rfl fun a E=>?_
   obtain ⟨x555,e556,hF⟩:=bnd hF
   obtain ⟨b557,o558,es559,hl560,rr561,at562,yy563⟩:=ia E 38 40 qa4 hl_1 e556
   obtain ⟨c566,rfl,r564,r565,h567⟩:=rr561
   refine lv E ok (yy563 _ _) fun a E=>lv E ok (qag (cs:=[vi x555.Operand,vi x555.Mod,vb x555.Not,c566]) qbc rfl rfl (qab.ro at562)) fun a E=>qax E ok qcU rfl rfl fun b568 a w E ok=>av E rfl fun a E=>qad E ok 0 rfl rfl rfl qfF rfl rfl ⟨rfl,rfl,rfl,(qa5 h567),trivial⟩ rfl rfl fun w ok=>wn<|bd hF fun o569 hJ hF=>qaG (Q':=fun e a w=>e = .normal ∧ ∃ m570,m539.le m570 ∧ Ok u m570 ([(b568,oc 69 [vi x555.Operand,vi x555.Mod,vb x555.Not,c566])] :: [(b15,oc 89 [vi 0,vi 0,vi 0,vi 0,vi 0,vi 0,vi 0,vi 0,vi 0,vi 0,vi 0,vi 0,vi 0])] :: [(b14,oc 89 [vi o569.phase,vi o569.trackers.e0.a,vi o569.trackers.e0.b,vi o569.trackers.e1.a,vi o569.trackers.e1.b,vi o569.trackers.e2.a,vi o569.trackers.e2.b,vi o569.trackers.e3.a,vi o569.trackers.e3.b,vi o569.trackers.e4.a,vi o569.trackers.e4.b,vi o569.trackers.e5.a,vi o569.trackers.e5.b])] :: S) w ∧ Env 60 a [(2,vi symbol_2),(3,vp b14),(6,vp b15),(38,vl_1),(39,(vi (l_1.length:Int))),(40,vi v537)] ∧ InR .i64 o569.phase ∧ InR .i64 o569.trackers.e0.a ∧ InR .i64 o569.trackers.e0.b ∧ InR .i64 o569.trackers.e1.a ∧ InR .i64 o569.trackers.e1.b ∧ InR .i64 o569.trackers.e2.a ∧ InR .i64 o569.trackers.e2.b ∧ InR .i64 o569.trackers.e3.a ∧ InR .i64 o569.trackers.e3.b ∧ InR .i64 o569.trackers.e4.a ∧ InR .i64 o569.trackers.e4.b ∧ InR .i64 o569.trackers.e5.a ∧ InR .i64 o569.trackers.e5.b) ?_ ?_
   rotate_left
   ·intro e a w hO
    obtain ⟨rfl,m606,hle,ok,E,r607,r608,r609,r610,r611,r612,r613,r614,r615,r616,r617,r618,r619⟩:=hO
    have le_m0:=le_m0.trans hle
    have hl_1:=(mL qaf).up hle hl_1
    have h567:=(mL qdF).up hle h567
    have at562:=At.up hle at562
    refine qal<|qaa<|qac<|lw E (qaw rfl rfl (InR.inc r540 (qam hl_1) c554)) fun a E=>mv E rfl fun a E=>wpList_nil ?_
    cases hF
    exact qas ⟨m606,le_m0,(ok.pk 3 [1,2] rfl (by decide)),E.keep [2,3,6,38,39,40],(InR.inc r540 (qam hl_1) c554),r607,r608,r609,r610,r611,r612,r613,r614,r615,r616,r617,r618,r619⟩
   have hF:=hJ
   have le_m539:=Mem.le.refl m539
   obtain ⟨x584,e585,hF⟩:=bnd hF
   obtain ⟨r586,e587,hF⟩:=bnd hF
   obtain ⟨x593,e594,hF⟩:=bnd hF
   obtain ⟨z595,e596,hF⟩:=bnd hF
   obtain rfl:=sj hF
   refine qaY [4,5,7] (Cls u m539 ([(b568,oc 69 [vi x555.Operand,vi x555.Mod,vb x555.Not,c566])] :: [(b15,oc 89 [vi 0,vi 0,vi 0,vi 0,vi 0,vi 0,vi 0,vi 0,vi 0,vi 0,vi 0,vi 0,vi 0])] :: [(b14,oc 89 [vi v538.phase,vi v538.trackers.e0.a,vi v538.trackers.e0.b,vi v538.trackers.e1.a,vi v538.trackers.e1.b,vi v538.trackers.e2.a,vi v538.trackers.e2.b,vi v538.trackers.e3.a,vi v538.trackers.e3.b,vi v538.trackers.e4.a,vi v538.trackers.e4.b,vi v538.trackers.e5.a,vi v538.trackers.e5.b])] :: [])) (Cls u m539 ([(b568,oc 69 [vi x555.Operand,vi x555.Mod,vb x555.Not,c566])] :: [(b15,oc 89 [vi 0,vi 0,vi 0,vi 0,vi 0,vi 0,vi 0,vi 0,vi 0,vi 0,vi 0,vi 0,vi 0])] :: [])) (by kernel_rfl) ?_
   intro w hw
   replace ok:=qbd ok hw
   clear hw
   have h567_o:=h567
   refine qai (cl1 (cq le_m539 ok [0,1,2] rfl) (cq le_m539 ok [0,1] rfl)) fun hT=>kt 0 E rfl hT (qah rfl) fun a E=>kt 1 E rfl hT (qah rfl) fun a E=>kt 2 E rfl hT (qae qgP rfl) fun a E=>?_
   replace e585:idx (Arr6_Tracker.list v538.trackers) v537 = some x584:=e585
   refine kt 3 E rfl hT (qb4 qhz rfl rfl (qaN e585).1 (qaN e585).2) fun a E=>qaS 5 E rfl (by kernel_rfl) nP hT (qag (cs:=[vi x555.Operand,vi x555.Mod,vb x555.Not,c566]) qbc rfl rfl (qab.cown 0 rfl rfl)) rfl rfl fun a E=>kt 6 E rfl hT (qae qc5 rfl) fun a E=>qaS 7 E rfl (by kernel_rfl) nP hT (qaj qak rfl (qab.cown 2 rfl rfl)) rfl rfl fun a E=>kt 8 E rfl hT (qau rfl rfl) fun a E=>kt 9 E rfl hT (qah rfl) fun a E=>kt 11 E rfl hT (qae qgP rfl) fun a E=>qao [4] (by kernel_rfl) rfl (qar ?_)
   ·refine wo rfl<|lv E ok (qag (cs:=[vi x584.a,vi x584.b]) qbT rfl rfl (qab.idxK (k:=2) (xs:=Arr6_Tracker.list v538.trackers) (f:=(fun x:Tracker=>[vi x.a,vi x.b])) (fun _=>rfl) (qab.own 2 rfl rfl) e585)) fun a E=>wn<|qai (cl1 (cq le_m539 ok [0,1,2] rfl) (cq le_m539 ok [0,1] rfl)) fun hT=>qao [10] (by kernel_rfl) rfl (qar ?_)
    ·refine wo rfl<|qan E qml rfl (qdV N _ x584 ⟨rfl,(AllP.idx (q:=(fun z:Tracker=>InR .i64 z.a ∧ InR .i64 z.b)) (xs:=Arr6_Tracker.list v538.trackers) ⟨⟨r542,r543⟩,⟨r544,r545⟩,⟨r546,r547⟩,⟨r548,r549⟩,⟨r550,r551⟩,⟨r552,r553⟩,trivial⟩ e585).1,(AllP.idx (q:=(fun z:Tracker=>InR .i64 z.a ∧ InR .i64 z.b)) (xs:=Arr6_Tracker.list v538.trackers) ⟨⟨r542,r543⟩,⟨r544,r545⟩,⟨r546,r547⟩,⟨r548,r549⟩,⟨r550,r551⟩,⟨r552,r553⟩,trivial⟩ e585).2⟩ _ x555 ⟨_,rfl,r564,r565,h567⟩ (v538.phase == 3) symbol_2 rsymbol_2 e587 hG ok) rfl rfl ?_
     rintro _ w ⟨m599,vs600,rfl,hle,ok,h601⟩
     have le_m0:=le_m0.trans hle
     have le_m539:=le_m539.trans hle
     have hl_1:=(mL qaf).up hle hl_1
     have h567:=(mL qdF).up hle h567
     have at562:=At.up hle at562
     obtain ⟨rfl,r602,r603⟩:=h601
     refine ⟨_,rfl,fun a E=>?_⟩
     refine wn<|qai (cl1 (cq le_m539 ok [0,1,2] rfl) (cq le_m539 ok [0,1] rfl)) fun hT=>?_
     replace e594:idx (Arr6_Tracker.list v538.trackers) v537 = some x593:=e594
     refine kt 12 E rfl hT (qb4 qhz rfl rfl (qaN e594).1 (qaN e594).2) fun a E=>qao [13] (by kernel_rfl) rfl (qar ?_)
     ·refine qbm (o:=_) rfl ?_
      have h604:=Arr6_Tracker.set_list e596
      have h605:=AllP.setI (q:=(fun z:Tracker=>InR .i64 z.a ∧ InR .i64 z.b)) (xs:=Arr6_Tracker.list v538.trackers) ⟨⟨r542,r543⟩,⟨r544,r545⟩,⟨r546,r547⟩,⟨r548,r549⟩,⟨r550,r551⟩,⟨r552,r553⟩,trivial⟩ ⟨r602,r603⟩ h604
      refine qed (c:=[vi v538.phase,vi v538.trackers.e0.a,vi v538.trackers.e0.b,vi v538.trackers.e1.a,vi v538.trackers.e1.b,vi v538.trackers.e2.a,vi v538.trackers.e2.b,vi v538.trackers.e3.a,vi v538.trackers.e3.b,vi v538.trackers.e4.a,vi v538.trackers.e4.b,vi v538.trackers.e5.a,vi v538.trackers.e5.b]) (c':=[vi v538.phase,vi z595.e0.a,vi z595.e0.b,vi z595.e1.a,vi z595.e1.b,vi z595.e2.a,vi z595.e2.b,vi z595.e3.a,vi z595.e3.b,vi z595.e4.a,vi z595.e4.b,vi z595.e5.a,vi z595.e5.b]) E ok 2 rfl rfl rfl qef rfl rfl ⟨rfl,rfl,trivial⟩ (qlx (n:=6) (k:=2) (qaN e594).2 (Nat.le_of_ble_eq_true rfl)) (qmr (f:=(fun x:Tracker=>[vi x.a,vi x.b])) (fun _=>rfl) (pre:=[vi v538.phase]) (post:=[]) (xs:=Arr6_Tracker.list v538.trackers) (ys:=z595.list) rfl h604) rfl fun w ok=>wn<|qai (cl2 (by kernel_rfl) (cq le_m539 ok [0,1] rfl)) fun hT=>qaV (by kernel_rfl) ?_
      exact ⟨rfl,⟨m599,le_m539,ok,E.keep [2,3,6,38,39,40],r541,h605.1.1,h605.1.2,h605.2.1.1,h605.2.1.2,h605.2.2.1.1,h605.2.2.1.2,h605.2.2.2.1.1,h605.2.2.2.1.2,h605.2.2.2.2.1.1,h605.2.2.2.2.1.2,h605.2.2.2.2.2.1.1,h605.2.2.2.2.2.1.2⟩⟩
 refine fk E ok qc5 qak rfl 1 rfl rfl fun a E=>lw E (qau rfl rfl) fun a E=>pt E rfl rfl fun a E=>aw E rfl fun a E=>cf E rfl hF (fun c17 hF=>?_) fun c17 hF=>?_
 ·refine sg<|fv E qc5 rfl fun a E=>qad E ok 1 rfl rfl rfl qaZ rfl rfl ⟨rfl,trivial⟩ rfl rfl fun w ok=>wn<|sg<|lv E ok (qag (cs:=[vi 2,vi s_0.trackers.e0.a,vi s_0.trackers.e0.b,vi s_0.trackers.e1.a,vi s_0.trackers.e1.b,vi s_0.trackers.e2.a,vi s_0.trackers.e2.b,vi s_0.trackers.e3.a,vi s_0.trackers.e3.b,vi s_0.trackers.e4.a,vi s_0.trackers.e4.b,vi s_0.trackers.e5.a,vi s_0.trackers.e5.b]) qdh rfl rfl (qab.own 1 rfl rfl)) fun a E=>qad E ok 0 rfl rfl rfl qgM rfl rfl ⟨rfl,rfl,rfl,rfl,rfl,rfl,rfl,rfl,rfl,rfl,rfl,rfl,rfl,trivial⟩ rfl rfl fun w ok=>wn<|wp_ret<|qaz<|qaq ?_
  exact fin hF ⟨m0,[vi 2,vi s_0.trackers.e0.a,vi s_0.trackers.e0.b,vi s_0.trackers.e1.a,vi s_0.trackers.e1.b,vi s_0.trackers.e2.a,vi s_0.trackers.e2.b,vi s_0.trackers.e3.a,vi s_0.trackers.e3.b,vi s_0.trackers.e4.a,vi s_0.trackers.e4.b,vi s_0.trackers.e5.a,vi s_0.trackers.e5.b],le_m0,ok.drop.drop,E.d,⟨rv_c (cs:=[vi 2,vi s_0.trackers.e0.a,vi s_0.trackers.e0.b,vi s_0.trackers.e1.a,vi s_0.trackers.e1.b,vi s_0.trackers.e2.a,vi s_0.trackers.e2.b,vi s_0.trackers.e3.a,vi s_0.trackers.e3.b,vi s_0.trackers.e4.a,vi s_0.trackers.e4.b,vi s_0.trackers.e5.a,vi s_0.trackers.e5.b]) E ok rfl qdh rfl (qab.own 0 rfl rfl),trivial⟩,⟨rfl,(ir 2),r2,r3,r4,r5,r6,r7,r8,r9,r10,r11,r12,r13⟩⟩
 refine sg<|mv E rfl fun a E=>lw E (qau rfl rfl) fun a E=>mv E rfl fun a E=>bu E 22 hF (fun c18 hF E=>?_) fun c18 hF E=>?_
 ·refine lsq E fun a E=>ls E fun a E=>pt E rfl rfl fun a E=>aw E rfl fun a E=>c_if E rfl (fun _=>?_) (fun h=>by cases h)
  refine sg<|lw E (qaF (ps:=[(0,.const (vi 4))]) (qs:=[(0,[vi 4])]) (cs:=[vi 4,vi 0,vi 0,vi 0,vi 0,vi 0,vi 0,vi 0,vi 0,vi 0,vi 0,vi 0,vi 0]) qfU qii rfl ⟨rfl,rfl,rfl,trivial⟩ rfl) fun a E=>qad E ok 0 rfl rfl rfl qgM rfl rfl ⟨rfl,rfl,rfl,rfl,rfl,rfl,rfl,rfl,rfl,rfl,rfl,rfl,rfl,trivial⟩ rfl rfl fun w ok=>wn<|wp_ret<|qaz<|qaq ?_
  exact fin hF ⟨m0,[vi 4,vi 0,vi 0,vi 0,vi 0,vi 0,vi 0,vi 0,vi 0,vi 0,vi 0,vi 0,vi 0],le_m0,ok.drop.drop,E.d,⟨rv_c (cs:=[vi 4,vi 0,vi 0,vi 0,vi 0,vi 0,vi 0,vi 0,vi 0,vi 0,vi 0,vi 0,vi 0]) E ok rfl qdh rfl (qab.own 0 rfl rfl),trivial⟩,⟨rfl,(ir 4),(ir 0),(ir 0),(ir 0),(ir 0),(ir 0),(ir 0),(ir 0),(ir 0),(ir 0),(ir 0),(ir 0),(ir 0)⟩⟩
 refine fk E ok qc5 qak rfl 1 rfl rfl fun a E=>lw E (qau rfl rfl) fun a E=>pf E rfl rfl fun a E=>aw E rfl fun a E=>cf E rfl hF (fun c19 hF=>?_) fun c19 hF=>?_
 ·refine sg<|lw E (qaF (ps:=[(0,.const (vi 4))]) (qs:=[(0,[vi 4])]) (cs:=[vi 4,vi 0,vi 0,vi 0,vi 0,vi 0,vi 0,vi 0,vi 0,vi 0,vi 0,vi 0,vi 0]) qfU qii rfl ⟨rfl,rfl,rfl,trivial⟩ rfl) fun a E=>qad E ok 0 rfl rfl rfl qgM rfl rfl ⟨rfl,rfl,rfl,rfl,rfl,rfl,rfl,rfl,rfl,rfl,rfl,rfl,rfl,trivial⟩ rfl rfl fun w ok=>wn<|wp_ret<|qaz<|qaq ?_
  exact fin hF ⟨m0,[vi 4,vi 0,vi 0,vi 0,vi 0,vi 0,vi 0,vi 0,vi 0,vi 0,vi 0,vi 0,vi 0],le_m0,ok.drop.drop,E.d,⟨rv_c (cs:=[vi 4,vi 0,vi 0,vi 0,vi 0,vi 0,vi 0,vi 0,vi 0,vi 0,vi 0,vi 0,vi 0]) E ok rfl qdh rfl (qab.own 0 rfl rfl),trivial⟩,⟨rfl,(ir 4),(ir 0),(ir 0),(ir 0),(ir 0),(ir 0),(ir 0),(ir 0),(ir 0),(ir 0),(ir 0),(ir 0),(ir 0)⟩⟩
 refine wp_skip<|qal<|qaa<|wp_seq<|sg<|fk E ok qc5 qak rfl 1 rfl rfl fun a E=>lw E (qau rfl rfl) fun a E=>mv E rfl fun a E=>bu E 31 hF (fun c20 hF E=>?_) fun c20 hF E=>?_
 ·as_aux_lemma =>
   refine lsq E fun a E=>ls E fun a E=>pt E rfl rfl fun a E=>wn<|c_if E rfl (fun _=>?_) (fun h=>by cases h)
   refine qac<|fv E qc5 rfl fun a E=>qad E ok 1 rfl rfl rfl qaZ rfl rfl ⟨rfl,trivial⟩ rfl rfl fun w ok=>wn<|wp_seq<|sg<|mv E rfl fun a E=>lv E ok (qaD qa4 hl_1 rfl) fun a E=>mv E rfl fun a E=>wn<|wp_block<|bd hF fun o36 hL hF=>qaE _ (fun (s:Int × Reading) a w=>∃ m37,m0.le m37 ∧ Ok u m37 ([(b15,oc 89 [vi 0,vi 0,vi 0,vi 0,vi 0,vi 0,vi 0,vi 0,vi 0,vi 0,vi 0,vi 0,vi 0])] :: [(b14,oc 89 [vi s.2.phase,vi s.2.trackers.e0.a,vi s.2.trackers.e0.b,vi s.2.trackers.e1.a,vi s.2.trackers.e1.b,vi s.2.trackers.e2.a,vi s.2.trackers.e2.b,vi s.2.trackers.e3.a,vi s.2.trackers.e3.b,vi s.2.trackers.e4.a,vi s.2.trackers.e4.b,vi s.2.trackers.e5.a,vi s.2.trackers.e5.b])] :: S) w ∧ Env 60 a [(2,vi symbol_2),(3,vp b14),(6,vp b15),(38,vl_1),(39,(vi (l_1.length:Int))),(40,vi s.1)] ∧ InR .i64 s.1 ∧ InR .i64 s.2.phase ∧ InR .i64 s.2.trackers.e0.a ∧ InR .i64 s.2.trackers.e0.b ∧ InR .i64 s.2.trackers.e1.a ∧ InR .i64 s.2.trackers.e1.b ∧ InR .i64 s.2.trackers.e2.a ∧ InR .i64 s.2.trackers.e2.b ∧ InR .i64 s.2.trackers.e3.a ∧ InR .i64 s.2.trackers.e3.b ∧ InR .i64 s.2.trackers.e4.a ∧ InR .i64 s.2.trackers.e4.b ∧ InR .i64 s.2.trackers.e5.a ∧ InR .i64 s.2.trackers.e5.b) (fun (b:Reading) e a w=>e = (.exit 1) ∧ ∃ m149,m0.le m149 ∧ Ok u m149 ([(b15,oc 89 [vi 0,vi 0,vi 0,vi 0,vi 0,vi 0,vi 0,vi 0,vi 0,vi 0,vi 0,vi 0,vi 0])] :: [(b14,oc 89 [vi b.phase,vi b.trackers.e0.a,vi b.trackers.e0.b,vi b.trackers.e1.a,vi b.trackers.e1.b,vi b.trackers.e2.a,vi b.trackers.e2.b,vi b.trackers.e3.a,vi b.trackers.e3.b,vi b.trackers.e4.a,vi b.trackers.e4.b,vi b.trackers.e5.a,vi b.trackers.e5.b])] :: S) w ∧ Env 60 a [(3,vp b14),(6,vp b15)] ∧ InR .i64 b.phase ∧ InR .i64 b.trackers.e0.a ∧ InR .i64 b.trackers.e0.b ∧ InR .i64 b.trackers.e1.a ∧ InR .i64 b.trackers.e1.b ∧ InR .i64 b.trackers.e2.a ∧ InR .i64 b.trackers.e2.b ∧ InR .i64 b.trackers.e3.a ∧ InR .i64 b.trackers.e3.b ∧ InR .i64 b.trackers.e4.a ∧ InR .i64 b.trackers.e4.b ∧ InR .i64 b.trackers.e5.a ∧ InR .i64 b.trackers.e5.b) ?_ ?_ N _ a w hL ⟨m0,Mem.le.refl _,ok,E.keep [2,3,6,38,39,40],(ir 0),(ir 1),r2,r3,r4,r5,r6,r7,r8,r9,r10,r11,r12,r13⟩
   rotate_left
   ·intro e a w _ hO
    obtain ⟨rfl,m135,hle,ok,E,r136,r137,r138,r139,r140,r141,r142,r143,r144,r145,r146,r147,r148⟩:=hO
    have le_m0:=le_m0.trans hle
    have hl_1:=(mL qaf).up hle hl_1
    refine qaM<|qaa<|sg<|lv E ok (qag (cs:=[vi o36.phase,vi o36.trackers.e0.a,vi o36.trackers.e0.b,vi o36.trackers.e1.a,vi o36.trackers.e1.b,vi o36.trackers.e2.a,vi o36.trackers.e2.b,vi o36.trackers.e3.a,vi o36.trackers.e3.b,vi o36.trackers.e4.a,vi o36.trackers.e4.b,vi o36.trackers.e5.a,vi o36.trackers.e5.b]) qdh rfl rfl (qab.own 1 rfl rfl)) fun a E=>qad E ok 0 rfl rfl rfl qgM rfl rfl ⟨rfl,rfl,rfl,rfl,rfl,rfl,rfl,rfl,rfl,rfl,rfl,rfl,rfl,trivial⟩ rfl rfl fun w ok=>wn<|wp_ret ?_
    exact fin hF ⟨m135,[vi o36.phase,vi o36.trackers.e0.a,vi o36.trackers.e0.b,vi o36.trackers.e1.a,vi o36.trackers.e1.b,vi o36.trackers.e2.a,vi o36.trackers.e2.b,vi o36.trackers.e3.a,vi o36.trackers.e3.b,vi o36.trackers.e4.a,vi o36.trackers.e4.b,vi o36.trackers.e5.a,vi o36.trackers.e5.b],le_m0,ok.drop.drop,E.d,⟨rv_c (cs:=[vi o36.phase,vi o36.trackers.e0.a,vi o36.trackers.e0.b,vi o36.trackers.e1.a,vi o36.trackers.e1.b,vi o36.trackers.e2.a,vi o36.trackers.e2.b,vi o36.trackers.e3.a,vi o36.trackers.e3.b,vi o36.trackers.e4.a,vi o36.trackers.e4.b,vi o36.trackers.e5.a,vi o36.trackers.e5.b]) E ok rfl qdh rfl (qab.own 0 rfl rfl),trivial⟩,⟨rfl,r136,r137,r138,r139,r140,r141,r142,r143,r144,r145,r146,r147,r148⟩⟩
   rintro ⟨v52,v53⟩ a w r ⟨m54,hle,ok,E,r55,r56,r57,r58,r59,r60,r61,r62,r63,r64,r65,r66,r67,r68⟩ hF
   replace hF:qbj N l_1 symbol_2 v52 v53 = some r:=hF
   unfold qbj at hF
   have le_m0:=le_m0.trans hle
   have hl_1:=(mL qaf).up hle hl_1
   refine sg<|lw E (qav rfl rfl) fun a E=>wn<|wp_seq<|cg E rfl hF (fun c69 hF=>?_) fun c69 hF=>?_
   ·refine wp_exit<|qaA ?_
    cases hF
    exact so (⟨rfl,⟨m54,le_m0,ok,E.keep [3,6],r56,r57,r58,r59,r60,r61,r62,r63,r64,r65,r66,r67,r68⟩⟩)
   refine wp_skip<|qaa<|wp_seq<|wp_block<|sg<|mv E rfl fun a E=>?_
   obtain ⟨x70,e71,hF⟩:=bnd hF
   obtain ⟨b72,o73,es74,hl75,rr76,at77,yy78⟩:=ia E 38 40 qa4 hl_1 e71
   obtain ⟨c81,rfl,r79,r80,h82⟩:=rr76
   refine lv E ok (yy78 _ _) fun a E=>lv E ok (qag (cs:=[vi x70.Operand,vi x70.Mod,vb x70.Not,c81]) qbc rfl rfl (qab.ro at77)) fun a E=>qax E ok qcU rfl rfl fun b83 a w E ok=>av E rfl fun a E=>qad E ok 0 rfl rfl rfl qfF rfl rfl ⟨rfl,rfl,rfl,(qa5 h82),trivial⟩ rfl rfl fun w ok=>wn<|bd hF fun o84 hJ hF=>qaG (Q':=fun e a w=>e = .normal ∧ ∃ m85,m54.le m85 ∧ Ok u m85 ([(b83,oc 69 [vi x70.Operand,vi x70.Mod,vb x70.Not,c81])] :: [(b15,oc 89 [vi 0,vi 0,vi 0,vi 0,vi 0,vi 0,vi 0,vi 0,vi 0,vi 0,vi 0,vi 0,vi 0])] :: [(b14,oc 89 [vi o84.phase,vi o84.trackers.e0.a,vi o84.trackers.e0.b,vi o84.trackers.e1.a,vi o84.trackers.e1.b,vi o84.trackers.e2.a,vi o84.trackers.e2.b,vi o84.trackers.e3.a,vi o84.trackers.e3.b,vi o84.trackers.e4.a,vi o84.trackers.e4.b,vi o84.trackers.e5.a,vi o84.trackers.e5.b])] :: S) w ∧ Env 60 a [(2,vi symbol_2),(3,vp b14),(6,vp b15),(38,vl_1),(39,(vi (l_1.length:Int))),(40,vi v52)] ∧ InR .i64 o84.phase ∧ InR .i64 o84.trackers.e0.a ∧ InR .i64 o84.trackers.e0.b ∧ InR .i64 o84.trackers.e1.a ∧ InR .i64 o84.trackers.e1.b ∧ InR .i64 o84.trackers.e2.a ∧ InR .i64 o84.trackers.e2.b ∧ InR .i64 o84.trackers.e3.a ∧ InR .i64 o84.trackers.e3.b ∧ InR .i64 o84.trackers.e4.a ∧ InR .i64 o84.trackers.e4.b ∧ InR .i64 o84.trackers.e5.a ∧ InR .i64 o84.trackers.e5.b) ?_ ?_
   rotate_left
   ·intro e a w hO
    obtain ⟨rfl,m121,hle,ok,E,r122,r123,r124,r125,r126,r127,r128,r129,r130,r131,r132,r133,r134⟩:=hO
    have le_m0:=le_m0.trans hle
    have hl_1:=(mL qaf).up hle hl_1
    have h82:=(mL qdF).up hle h82
    have at77:=At.up hle at77
    refine qal<|qaa<|qac<|lw E (qaw rfl rfl (InR.inc r55 (qam hl_1) c69)) fun a E=>mv E rfl fun a E=>wpList_nil ?_
    cases hF
    exact qas ⟨m121,le_m0,(ok.pk 3 [1,2] rfl (by decide)),E.keep [2,3,6,38,39,40],(InR.inc r55 (qam hl_1) c69),r122,r123,r124,r125,r126,r127,r128,r129,r130,r131,r132,r133,r134⟩
   have hF:=hJ
   have le_m54:=Mem.le.refl m54
   obtain ⟨x99,e100,hF⟩:=bnd hF
   obtain ⟨r101,e102,hF⟩:=bnd hF
   obtain ⟨x108,e109,hF⟩:=bnd hF
   obtain ⟨z110,e111,hF⟩:=bnd hF
   obtain rfl:=sj hF
   refine qaY [4,5,7] (Cls u m54 ([(b83,oc 69 [vi x70.Operand,vi x70.Mod,vb x70.Not,c81])] :: [(b15,oc 89 [vi 0,vi 0,vi 0,vi 0,vi 0,vi 0,vi 0,vi 0,vi 0,vi 0,vi 0,vi 0,vi 0])] :: [(b14,oc 89 [vi v53.phase,vi v53.trackers.e0.a,vi v53.trackers.e0.b,vi v53.trackers.e1.a,vi v53.trackers.e1.b,vi v53.trackers.e2.a,vi v53.trackers.e2.b,vi v53.trackers.e3.a,vi v53.trackers.e3.b,vi v53.trackers.e4.a,vi v53.trackers.e4.b,vi v53.trackers.e5.a,vi v53.trackers.e5.b])] :: [])) (Cls u m54 ([(b83,oc 69 [vi x70.Operand,vi x70.Mod,vb x70.Not,c81])] :: [(b15,oc 89 [vi 0,vi 0,vi 0,vi 0,vi 0,vi 0,vi 0,vi 0,vi 0,vi 0,vi 0,vi 0,vi 0])] :: [])) (by kernel_rfl) ?_
   intro w hw
   replace ok:=qbd ok hw
   clear hw
   have h82_o:=h82
   refine qai (cl1 (cq le_m54 ok [0,1,2] rfl) (cq le_m54 ok [0,1] rfl)) fun hT=>kt 0 E rfl hT (qah rfl) fun a E=>kt 1 E rfl hT (qah rfl) fun a E=>kt 2 E rfl hT (qae qgP rfl) fun a E=>?_
   replace e100:idx (Arr6_Tracker.list v53.trackers) v52 = some x99:=e100
   refine kt 3 E rfl hT (qb4 qhz rfl rfl (qaN e100).1 (qaN e100).2) fun a E=>qaS 5 E rfl (by kernel_rfl) nP hT (qag (cs:=[vi x70.Operand,vi x70.Mod,vb x70.Not,c81]) qbc rfl rfl (qab.cown 0 rfl rfl)) rfl rfl fun a E=>kt 6 E rfl hT (qae qc5 rfl) fun a E=>qaS 7 E rfl (by kernel_rfl) nP hT (qaj qak rfl (qab.cown 2 rfl rfl)) rfl rfl fun a E=>kt 8 E rfl hT (qau rfl rfl) fun a E=>kt 9 E rfl hT (qah rfl) fun a E=>kt 11 E rfl hT (qae qgP rfl) fun a E=>qao [4] (by kernel_rfl) rfl (qar ?_)
   ·refine wo rfl<|lv E ok (qag (cs:=[vi x99.a,vi x99.b]) qbT rfl rfl (qab.idxK (k:=2) (xs:=Arr6_Tracker.list v53.trackers) (f:=(fun x:Tracker=>[vi x.a,vi x.b])) (fun _=>rfl) (qab.own 2 rfl rfl) e100)) fun a E=>wn<|qai (cl1 (cq le_m54 ok [0,1,2] rfl) (cq le_m54 ok [0,1] rfl)) fun hT=>qao [10] (by kernel_rfl) rfl (qar ?_)
    ·refine wo rfl<|qan E qml rfl (qdV N _ x99 ⟨rfl,(AllP.idx (q:=(fun z:Tracker=>InR .i64 z.a ∧ InR .i64 z.b)) (xs:=Arr6_Tracker.list v53.trackers) ⟨⟨r57,r58⟩,⟨r59,r60⟩,⟨r61,r62⟩,⟨r63,r64⟩,⟨r65,r66⟩,⟨r67,r68⟩,trivial⟩ e100).1,(AllP.idx (q:=(fun z:Tracker=>InR .i64 z.a ∧ InR .i64 z.b)) (xs:=Arr6_Tracker.list v53.trackers) ⟨⟨r57,r58⟩,⟨r59,r60⟩,⟨r61,r62⟩,⟨r63,r64⟩,⟨r65,r66⟩,⟨r67,r68⟩,trivial⟩ e100).2⟩ _ x70 ⟨_,rfl,r79,r80,h82⟩ (v53.phase == 3) symbol_2 rsymbol_2 e102 hG ok) rfl rfl ?_
     rintro _ w ⟨m114,vs115,rfl,hle,ok,h116⟩
     have le_m0:=le_m0.trans hle
     have le_m54:=le_m54.trans hle
     have hl_1:=(mL qaf).up hle hl_1
     have h82:=(mL qdF).up hle h82
     have at77:=At.up hle at77
     obtain ⟨rfl,r117,r118⟩:=h116
     refine ⟨_,rfl,fun a E=>?_⟩
     refine wn<|qai (cl1 (cq le_m54 ok [0,1,2] rfl) (cq le_m54 ok [0,1] rfl)) fun hT=>?_
     replace e109:idx (Arr6_Tracker.list v53.trackers) v52 = some x108:=e109
     refine kt 12 E rfl hT (qb4 qhz rfl rfl (qaN e109).1 (qaN e109).2) fun a E=>qao [13] (by kernel_rfl) rfl (qar ?_)
     ·refine qbm (o:=_) rfl ?_
      have h119:=Arr6_Tracker.set_list e111
      have h120:=AllP.setI (q:=(fun z:Tracker=>InR .i64 z.a ∧ InR .i64 z.b)) (xs:=Arr6_Tracker.list v53.trackers) ⟨⟨r57,r58⟩,⟨r59,r60⟩,⟨r61,r62⟩,⟨r63,r64⟩,⟨r65,r66⟩,⟨r67,r68⟩,trivial⟩ ⟨r117,r118⟩ h119
      refine qed (c:=[vi v53.phase,vi v53.trackers.e0.a,vi v53.trackers.e0.b,vi v53.trackers.e1.a,vi v53.trackers.e1.b,vi v53.trackers.e2.a,vi v53.trackers.e2.b,vi v53.trackers.e3.a,vi v53.trackers.e3.b,vi v53.trackers.e4.a,vi v53.trackers.e4.b,vi v53.trackers.e5.a,vi v53.trackers.e5.b]) (c':=[vi v53.phase,vi z110.e0.a,vi z110.e0.b,vi z110.e1.a,vi z110.e1.b,vi z110.e2.a,vi z110.e2.b,vi z110.e3.a,vi z110.e3.b,vi z110.e4.a,vi z110.e4.b,vi z110.e5.a,vi z110.e5.b]) E ok 2 rfl rfl rfl qef rfl rfl ⟨rfl,rfl,trivial⟩ (qlx (n:=6) (k:=2) (qaN e109).2 (Nat.le_of_ble_eq_true rfl)) (qmr (f:=(fun x:Tracker=>[vi x.a,vi x.b])) (fun _=>rfl) (pre:=[vi v53.phase]) (post:=[]) (xs:=Arr6_Tracker.list v53.trackers) (ys:=z110.list) rfl h119) rfl fun w ok=>wn<|qai (cl2 (by kernel_rfl) (cq le_m54 ok [0,1] rfl)) fun hT=>qaV (by kernel_rfl) ?_
      exact ⟨rfl,⟨m114,le_m54,ok,E.keep [2,3,6,38,39,40],r56,h120.1.1,h120.1.2,h120.2.1.1,h120.2.1.2,h120.2.2.1.1,h120.2.2.1.2,h120.2.2.2.1.1,h120.2.2.2.1.2,h120.2.2.2.2.1.1,h120.2.2.2.2.1.2,h120.2.2.2.2.2.1.1,h120.2.2.2.2.2.1.2⟩⟩
 refine fk E ok qc5 qak rfl 1 rfl rfl fun a E=>lw E (qau rfl rfl) fun a E=>pf E rfl rfl fun a E=>wn<|bd hF fun o163 hJ hF=>qaG (Q':=fun e a w=>e = .normal ∧ Ok u m0 ([(b15,oc 89 [vi 0,vi 0,vi 0,vi 0,vi 0,vi 0,vi 0,vi 0,vi 0,vi 0,vi 0,vi 0,vi 0])] :: [(b14,oc 89 [vi o163.phase,vi o163.trackers.e0.a,vi o163.trackers.e0.b,vi o163.trackers.e1.a,vi o163.trackers.e1.b,vi o163.trackers.e2.a,vi o163.trackers.e2.b,vi o163.trackers.e3.a,vi o163.trackers.e3.b,vi o163.trackers.e4.a,vi o163.trackers.e4.b,vi o163.trackers.e5.a,vi o163.trackers.e5.b])] :: S) w ∧ Env 60 a [(1,vl_1),(2,vi symbol_2),(3,vp b14),(6,vp b15)] ∧ InR .i64 o163.phase ∧ InR .i64 o163.trackers.e0.a ∧ InR .i64 o163.trackers.e0.b ∧ InR .i64 o163.trackers.e1.a ∧ InR .i64 o163.trackers.e1.b ∧ InR .i64 o163.trackers.e2.a ∧ InR .i64 o163.trackers.e2.b ∧ InR .i64 o163.trackers.e3.a ∧ InR .i64 o163.trackers.e3.b ∧ InR .i64 o163.trackers.e4.a ∧ InR .i64 o163.trackers.e4.b ∧ InR .i64 o163.trackers.e5.a ∧ InR .i64 o163.trackers.e5.b) ?_ ?_
 ·have hF:=hJ
  refine cf E rfl hF (fun c177 hF=>?_) fun c177 hF=>?_
  ·refine qac<|fv E qc5 rfl fun a E=>qad E ok 1 rfl rfl rfl qaZ rfl rfl ⟨rfl,trivial⟩ rfl rfl fun w ok=>wpList_nil ?_
   cases hF
   exact ⟨rfl,⟨ok,E.keep [1,2,3,6],(ir 1),r2,r3,r4,r5,r6,r7,r8,r9,r10,r11,r12,r13⟩⟩
  refine qac<|fv E qc5 rfl fun a E=>qad E ok 1 rfl rfl rfl qaZ rfl rfl ⟨rfl,trivial⟩ rfl rfl fun w ok=>wpList_nil ?_
  cases hF
  exact ⟨rfl,⟨ok,E.keep [1,2,3,6],(ir 3),r2,r3,r4,r5,r6,r7,r8,r9,r10,r11,r12,r13⟩⟩
 intro e a w hO
 obtain ⟨rfl,ok,E,r178,r179,r180,r181,r182,r183,r184,r185,r186,r187,r188,r189,r190⟩:=hO
 refine qaa<|wp_seq<|sg<|mv E rfl fun a E=>lv E ok (qaD qa4 hl_1 rfl) fun a E=>mv E rfl fun a E=>wn<|wp_block<|bd hF fun o206 hL hF=>qaE _ (fun (s:Int × Reading) a w=>∃ m207,m0.le m207 ∧ Ok u m207 ([(b15,oc 89 [vi 0,vi 0,vi 0,vi 0,vi 0,vi 0,vi 0,vi 0,vi 0,vi 0,vi 0,vi 0,vi 0])] :: [(b14,oc 89 [vi s.2.phase,vi s.2.trackers.e0.a,vi s.2.trackers.e0.b,vi s.2.trackers.e1.a,vi s.2.trackers.e1.b,vi s.2.trackers.e2.a,vi s.2.trackers.e2.b,vi s.2.trackers.e3.a,vi s.2.trackers.e3.b,vi s.2.trackers.e4.a,vi s.2.trackers.e4.b,vi s.2.trackers.e5.a,vi s.2.trackers.e5.b])] :: S) w ∧ Env 60 a [(2,vi symbol_2),(3,vp b14),(6,vp b15),(38,vl_1),(39,(vi (l_1.length:Int))),(40,vi s.1)] ∧ InR .i64 s.1 ∧ InR .i64 s.2.phase ∧ InR .i64 s.2.trackers.e0.a ∧ InR .i64 s.2.trackers.e0.b ∧ InR .i64 s.2.trackers.e1.a ∧ InR .i64 s.2.trackers.e1.b ∧ InR .i64 s.2.trackers.e2.a ∧ InR .i64 s.2.trackers.e2.b ∧ InR .i64 s.2.trackers.e3.a ∧ InR .i64 s.2.trackers.e3.b ∧ InR .i64 s.2.trackers.e4.a ∧ InR .i64 s.2.trackers.e4.b ∧ InR .i64 s.2.trackers.e5.a ∧ InR .i64 s.2.trackers.e5.b) (fun (b:Reading) e a w=>e = (.exit 1) ∧ ∃ m319,m0.le m319 ∧ Ok u m319 ([(b15,oc 89 [vi 0,vi 0,vi 0,vi 0,vi 0,vi 0,vi 0,vi 0,vi 0,vi 0,vi 0,vi 0,vi 0])] :: [(b14,oc 89 [vi b.phase,vi b.trackers.e0.a,vi b.trackers.e0.b,vi b.trackers.e1.a,vi b.trackers.e1.b,vi b.trackers.e2.a,vi b.trackers.e2.b,vi b.trackers.e3.a,vi b.trackers.e3.b,vi b.trackers.e4.a,vi b.trackers.e4.b,vi b.trackers.e5.a,vi b.trackers.e5.b])] :: S) w ∧ Env 60 a [(3,vp b14),(6,vp b15)] ∧ InR .i64 b.phase ∧ InR .i64 b.trackers.e0.a ∧ InR .i64 b.trackers.e0.b ∧ InR .i64 b.trackers.e1.a ∧ InR .i64 b.trackers.e1.b ∧ InR .i64 b.trackers.e2.a ∧ InR .i64 b.trackers.e2.b ∧ InR .i64 b.trackers.e3.a ∧ InR .i64 b.trackers.e3.b ∧ InR .i64 b.trackers.e4.a ∧ InR .i64 b.trackers.e4.b ∧ InR .i64 b.trackers.e5.a ∧ InR .i64 b.trackers.e5.b) ?_ ?_ N _ a w hL ⟨m0,Mem.le.refl _,ok,E.keep [2,3,6,38,39,40],(ir 0),r178,r179,r180,r181,r182,r183,r184,r185,r186,r187,r188,r189,r190⟩
 rotate_left
 ·intro e a w _ hO
  obtain ⟨rfl,m305,hle,ok,E,r306,r307,r308,r309,r310,r311,r312,r313,r314,r315,r316,r317,r318⟩:=hO
  have le_m0:=le_m0.trans hle
  have hl_1:=(mL qaf).up hle hl_1
  refine qaM<|qaa<|sg<|lv E ok (qag (cs:=[vi o206.phase,vi o206.trackers.e0.a,vi o206.trackers.e0.b,vi o206.trackers.e1.a,vi o206.trackers.e1.b,vi o206.trackers.e2.a,vi o206.trackers.e2.b,vi o206.trackers.e3.a,vi o206.trackers.e3.b,vi o206.trackers.e4.a,vi o206.trackers.e4.b,vi o206.trackers.e5.a,vi o206.trackers.e5.b]) qdh rfl rfl (qab.own 1 rfl rfl)) fun a E=>qad E ok 0 rfl rfl rfl qgM rfl rfl ⟨rfl,rfl,rfl,rfl,rfl,rfl,rfl,rfl,rfl,rfl,rfl,rfl,rfl,trivial⟩ rfl rfl fun w ok=>wn<|wp_ret ?_
  exact fin hF ⟨m305,[vi o206.phase,vi o206.trackers.e0.a,vi o206.trackers.e0.b,vi o206.trackers.e1.a,vi o206.trackers.e1.b,vi o206.trackers.e2.a,vi o206.trackers.e2.b,vi o206.trackers.e3.a,vi o206.trackers.e3.b,vi o206.trackers.e4.a,vi o206.trackers.e4.b,vi o206.trackers.e5.a,vi o206.trackers.e5.b],le_m0,ok.drop.drop,E.d,⟨rv_c (cs:=[vi o206.phase,vi o206.trackers.e0.a,vi o206.trackers.e0.b,vi o206.trackers.e1.a,vi o206.trackers.e1.b,vi o206.trackers.e2.a,vi o206.trackers.e2.b,vi o206.trackers.e3.a,vi o206.trackers.e3.b,vi o206.trackers.e4.a,vi o206.trackers.e4.b,vi o206.trackers.e5.a,vi o206.trackers.e5.b]) E ok rfl qdh rfl (qab.own 0 rfl rfl),trivial⟩,⟨rfl,r306,r307,r308,r309,r310,r311,r312,r313,r314,r315,r316,r317,r318⟩⟩
 rintro ⟨v222,v223⟩ a w r ⟨m224,hle,ok,E,r225,r226,r227,r228,r229,r230,r231,r232,r233,r234,r235,r236,r237,r238⟩ hF
 replace hF:qeA N l_1 symbol_2 v222 v223 = some r:=hF
 unfold qeA at hF
 have le_m0:=le_m0.trans hle
 have hl_1:=(mL qaf).up hle hl_1
 refine sg<|lw E (qav rfl rfl) fun a E=>wn<|wp_seq<|cg E rfl hF (fun c239 hF=>?_) fun c239 hF=>?_
 ·refine wp_exit<|qaA ?_
  cases hF
  exact so (⟨rfl,⟨m224,le_m0,ok,E.keep [3,6],r226,r227,r228,r229,r230,r231,r232,r233,r234,r235,r236,r237,r238⟩⟩)
 refine wp_skip<|qaa<|wp_seq<|wp_block<|sg<|mv E rfl fun a E=>?_
 obtain ⟨x240,e241,hF⟩:=bnd hF
 obtain ⟨b242,o243,es244,hl245,rr246,at247,yy248⟩:=ia E 38 40 qa4 hl_1 e241
 obtain ⟨c251,rfl,r249,r250,h252⟩:=rr246
 refine lv E ok (yy248 _ _) fun a E=>lv E ok (qag (cs:=[vi x240.Operand,vi x240.Mod,vb x240.Not,c251]) qbc rfl rfl (qab.ro at247)) fun a E=>qax E ok qcU rfl rfl fun b253 a w E ok=>av E rfl fun a E=>qad E ok 0 rfl rfl rfl qfF rfl rfl ⟨rfl,rfl,rfl,(qa5 h252),trivial⟩ rfl rfl fun w ok=>wn<|bd hF fun o254 hJ hF=>qaG (Q':=fun e a w=>e = .normal ∧ ∃ m255,m224.le m255 ∧ Ok u m255 ([(b253,oc 69 [vi x240.Operand,vi x240.Mod,vb x240.Not,c251])] :: [(b15,oc 89 [vi 0,vi 0,vi 0,vi 0,vi 0,vi 0,vi 0,vi 0,vi 0,vi 0,vi 0,vi 0,vi 0])] :: [(b14,oc 89 [vi o254.phase,vi o254.trackers.e0.a,vi o254.trackers.e0.b,vi o254.trackers.e1.a,vi o254.trackers.e1.b,vi o254.trackers.e2.a,vi o254.trackers.e2.b,vi o254.trackers.e3.a,vi o254.trackers.e3.b,vi o254.trackers.e4.a,vi o254.trackers.e4.b,vi o254.trackers.e5.a,vi o254.trackers.e5.b])] :: S) w ∧ Env 60 a [(2,vi symbol_2),(3,vp b14),(6,vp b15),(38,vl_1),(39,(vi (l_1.length:Int))),(40,vi v222)] ∧ InR .i64 o254.phase ∧ InR .i64 o254.trackers.e0.a ∧ InR .i64 o254.trackers.e0.b ∧ InR .i64 o254.trackers.e1.a ∧ InR .i64 o254.trackers.e1.b ∧ InR .i64 o254.trackers.e2.a ∧ InR .i64 o254.trackers.e2.b ∧ InR .i64 o254.trackers.e3.a ∧ InR .i64 o254.trackers.e3.b ∧ InR .i64 o254.trackers.e4.a ∧ InR .i64 o254.trackers.e4.b ∧ InR .i64 o254.trackers.e5.a ∧ InR .i64 o254.trackers.e5.b) ?_ ?_
 rotate_left
 ·intro e a w hO
  obtain ⟨rfl,m291,hle,ok,E,r292,r293,r294,r295,r296,r297,r298,r299,r300,r301,r302,r303,r304⟩:=hO
  have le_m0:=le_m0.trans hle
  have hl_1:=(mL qaf).up hle hl_1
  have h252:=(mL qdF).up hle h252
  have at247:=At.up hle at247
  refine qal<|qaa<|qac<|lw E (qaw rfl rfl (InR.inc r225 (qam hl_1) c239)) fun a E=>mv E rfl fun a E=>wpList_nil ?_
  cases hF
  exact qas ⟨m291,le_m0,(ok.pk 3 [1,2] rfl (by decide)),E.keep [2,3,6,38,39,40],(InR.inc r225 (qam hl_1) c239),r292,r293,r294,r295,r296,r297,r298,r299,r300,r301,r302,r303,r304⟩
 have hF:=hJ
 have le_m224:=Mem.le.refl m224
 obtain ⟨x269,e270,hF⟩:=bnd hF
 obtain ⟨r271,e272,hF⟩:=bnd hF
 obtain ⟨x278,e279,hF⟩:=bnd hF
 obtain ⟨z280,e281,hF⟩:=bnd hF
 obtain rfl:=sj hF
 refine qaY [4,5,7] (Cls u m224 ([(b253,oc 69 [vi x240.Operand,vi x240.Mod,vb x240.Not,c251])] :: [(b15,oc 89 [vi 0,vi 0,vi 0,vi 0,vi 0,vi 0,vi 0,vi 0,vi 0,vi 0,vi 0,vi 0,vi 0])] :: [(b14,oc 89 [vi v223.phase,vi v223.trackers.e0.a,vi v223.trackers.e0.b,vi v223.trackers.e1.a,vi v223.trackers.e1.b,vi v223.trackers.e2.a,vi v223.trackers.e2.b,vi v223.trackers.e3.a,vi v223.trackers.e3.b,vi v223.trackers.e4.a,vi v223.trackers.e4.b,vi v223.trackers.e5.a,vi v223.trackers.e5.b])] :: [])) (Cls u m224 ([(b253,oc 69 [vi x240.Operand,vi x240.Mod,vb x240.Not,c251])] :: [(b15,oc 89 [vi 0,vi 0,vi 0,vi 0,vi 0,vi 0,vi 0,vi 0,vi 0,vi 0,vi 0,vi 0,vi 0])] :: [])) (by kernel_rfl) ?_
 intro w hw
 replace ok:=qbd ok hw
 clear hw
 have h252_o:=h252
 refine qai (cl1 (cq le_m224 ok [0,1,2] rfl) (cq le_m224 ok [0,1] rfl)) fun hT=>kt 0 E rfl hT (qah rfl) fun a E=>kt 1 E rfl hT (qah rfl) fun a E=>kt 2 E rfl hT (qae qgP rfl) fun a E=>?_
 replace e270:idx (Arr6_Tracker.list v223.trackers) v222 = some x269:=e270
 refine kt 3 E rfl hT (qb4 qhz rfl rfl (qaN e270).1 (qaN e270).2) fun a E=>qaS 5 E rfl (by kernel_rfl) nP hT (qag (cs:=[vi x240.Operand,vi x240.Mod,vb x240.Not,c251]) qbc rfl rfl (qab.cown 0 rfl rfl)) rfl rfl fun a E=>kt 6 E rfl hT (qae qc5 rfl) fun a E=>qaS 7 E rfl (by kernel_rfl) nP hT (qaj qak rfl (qab.cown 2 rfl rfl)) rfl rfl fun a E=>kt 8 E rfl hT (qau rfl rfl) fun a E=>kt 9 E rfl hT (qah rfl) fun a E=>kt 11 E rfl hT (qae qgP rfl) fun a E=>qao [4] (by kernel_rfl) rfl (qar ?_)
 ·refine wo rfl<|lv E ok (qag (cs:=[vi x269.a,vi x269.b]) qbT rfl rfl (qab.idxK (k:=2) (xs:=Arr6_Tracker.list v223.trackers) (f:=(fun x:Tracker=>[vi x.a,vi x.b])) (fun _=>rfl) (qab.own 2 rfl rfl) e270)) fun a E=>wn<|qai (cl1 (cq le_m224 ok [0,1,2] rfl) (cq le_m224 ok [0,1] rfl)) fun hT=>qao [10] (by kernel_rfl) rfl (qar ?_)
  ·refine wo rfl<|qan E qml rfl (qdV N _ x269 ⟨rfl,(AllP.idx (q:=(fun z:Tracker=>InR .i64 z.a ∧ InR .i64 z.b)) (xs:=Arr6_Tracker.list v223.trackers) ⟨⟨r227,r228⟩,⟨r229,r230⟩,⟨r231,r232⟩,⟨r233,r234⟩,⟨r235,r236⟩,⟨r237,r238⟩,trivial⟩ e270).1,(AllP.idx (q:=(fun z:Tracker=>InR .i64 z.a ∧ InR .i64 z.b)) (xs:=Arr6_Tracker.list v223.trackers) ⟨⟨r227,r228⟩,⟨r229,r230⟩,⟨r231,r232⟩,⟨r233,r234⟩,⟨r235,r236⟩,⟨r237,r238⟩,trivial⟩ e270).2⟩ _ x240 ⟨_,rfl,r249,r250,h252⟩ (v223.phase == 3) symbol_2 rsymbol_2 e272 hG ok) rfl rfl ?_
   rintro _ w ⟨m284,vs285,rfl,hle,ok,h286⟩
   have le_m0:=le_m0.trans hle
   have le_m224:=le_m224.trans hle
   have hl_1:=(mL qaf).up hle hl_1
   have h252:=(mL qdF).up hle h252
   have at247:=At.up hle at247
   obtain ⟨rfl,r287,r288⟩:=h286
   refine ⟨_,rfl,fun a E=>?_⟩
   refine wn<|qai (cl1 (cq le_m224 ok [0,1,2] rfl) (cq le_m224 ok [0,1] rfl)) fun hT=>?_
   replace e279:idx (Arr6_Tracker.list v223.trackers) v222 = some x278:=e279
   refine kt 12 E rfl hT (qb4 qhz rfl rfl (qaN e279).1 (qaN e279).2) fun a E=>qao [13] (by kernel_rfl) rfl (qar ?_)
   ·refine qbm (o:=_) rfl ?_
    have h289:=Arr6_Tracker.set_list e281
    have h290:=AllP.setI (q:=(fun z:Tracker=>InR .i64 z.a ∧ InR .i64 z.b)) (xs:=Arr6_Tracker.list v223.trackers) ⟨⟨r227,r228⟩,⟨r229,r230⟩,⟨r231,r232⟩,⟨r233,r234⟩,⟨r235,r236⟩,⟨r237,r238⟩,trivial⟩ ⟨r287,r288⟩ h289
    refine qed (c:=[vi v223.phase,vi v223.trackers.e0.a,vi v223.trackers.e0.b,vi v223.trackers.e1.a,vi v223.trackers.e1.b,vi v223.trackers.e2.a,vi v223.trackers.e2.b,vi v223.trackers.e3.a,vi v223.trackers.e3.b,vi v223.trackers.e4.a,vi v223.trackers.e4.b,vi v223.trackers.e5.a,vi v223.trackers.e5.b]) (c':=[vi v223.phase,vi z280.e0.a,vi z280.e0.b,vi z280.e1.a,vi z280.e1.b,vi z280.e2.a,vi z280.e2.b,vi z280.e3.a,vi z280.e3.b,vi z280.e4.a,vi z280.e4.b,vi z280.e5.a,vi z280.e5.b]) E ok 2 rfl rfl rfl qef rfl rfl ⟨rfl,rfl,trivial⟩ (qlx (n:=6) (k:=2) (qaN e279).2 (Nat.le_of_ble_eq_true rfl)) (qmr (f:=(fun x:Tracker=>[vi x.a,vi x.b])) (fun _=>rfl) (pre:=[vi v223.phase]) (post:=[]) (xs:=Arr6_Tracker.list v223.trackers) (ys:=z280.list) rfl h289) rfl fun w ok=>wn<|qai (cl2 (by kernel_rfl) (cq le_m224 ok [0,1] rfl)) fun hT=>qaV (by kernel_rfl) ?_
    exact ⟨rfl,⟨m284,le_m224,ok,E.keep [2,3,6,38,39,40],r226,h290.1.1,h290.1.2,h290.2.1.1,h290.2.1.2,h290.2.2.1.1,h290.2.2.1.2,h290.2.2.2.1.1,h290.2.2.2.1.2,h290.2.2.2.2.1.1,h290.2.2.2.2.1.2,h290.2.2.2.2.2.1.1,h290.2.2.2.2.2.1.2⟩⟩
def qkz (u:World) (m0:Mem) (S:Segs) (pb0:Nat) (x0:List (Relation)) (c14:Value) (r:Reading) (a:Act) (w:World):Prop :=
 ∃ m1 v0,m0.le m1 ∧ Ok u m1 ([(pb0,oc 66 [c14])] :: S) w ∧ a.defers = [] ∧ RVs Tryz.prog a w [.c 5 89 (.agg v0.toArray)] ∧ qcv m1 v0 r
theorem qkt (N:Nat) (vs_0:List Value) (s_0:Reading) (hs_0:qcv m0 vs_0 s_0) (symbol_1:Int) (rsymbol_1:InR .i64 symbol_1) {pb0:Nat} {c14:Value} (x0:List (Relation)) (h15:(pL 4 qap) m0 [c14] x0) {r:Reading} (hF:qcj N s_0 symbol_1 x0 = some r) (hG:Glob u) (ok:Ok u m0 ([(pb0,oc 66 [c14])] :: S) w) :
  Calls Tryz.prog 49 [.agg vs_0.toArray,vi symbol_1,vp pb0].toArray w fun e w'=>∃ m1 v0,e = .returned (.agg v0.toArray) ∧ m0.le m1 ∧ Ok u m1 ([(pb0,oc 66 [c14])] :: S) w' ∧ qcv m1 v0 r:=by
 obtain ⟨rfl,r1,r2,r3,r4,r5,r6,r7,r8,r9,r10,r11,r12,r13⟩:=hs_0
 have le_m0:=Mem.le.refl m0
 unfold qcj at hF
 refine en (qkz u m0 S pb0 x0 c14) r Tryz.func49 rfl rfl rfl (by rintro a w ⟨m1,v0,hle,ok,hd,hrv,h0⟩; exact qbG [.c 5 89 (.agg v0.toArray)] hd rfl hrv ⟨m1,v0,rfl,hle,ok,h0⟩) fun fin a E=>sg<|qbz E ok rfl rfl rfl fun b16 a w E ok=>qax E ok qfU rfl rfl fun b17 a w E ok=>wn<|sg<|lv E ok (qag (cs:=[vi s_0.phase,vi s_0.trackers.e0.a,vi s_0.trackers.e0.b,vi s_0.trackers.e1.a,vi s_0.trackers.e1.b,vi s_0.trackers.e2.a,vi s_0.trackers.e2.b,vi s_0.trackers.e3.a,vi s_0.trackers.e3.b,vi s_0.trackers.e4.a,vi s_0.trackers.e4.b,vi s_0.trackers.e5.a,vi s_0.trackers.e5.b]) qdh rfl rfl (qab.own 1 rfl rfl)) fun a E=>ld E ok qci 2 rfl rfl rfl fun a E=>mv E rfl fun a E=>bd hF fun r18 e19 hF=>qan E qs9 rfl (qjG N _ s_0 ⟨rfl,r1,r2,r3,r4,r5,r6,r7,r8,r9,r10,r11,r12,r13⟩ _ x0 h15 symbol_1 rsymbol_1 e19 hG ok) rfl rfl ?_
 rintro _ w ⟨m20,vs21,rfl,hle,ok,h22⟩
 have le_m0:=le_m0.trans hle
 have h15:=(mL qaf).up hle h15
 obtain ⟨rfl,r23,r24,r25,r26,r27,r28,r29,r30,r31,r32,r33,r34,r35⟩:=h22
 refine ⟨_,rfl,fun a E=>?_⟩
 refine qad E ok 0 rfl rfl rfl qgM rfl rfl ⟨rfl,rfl,rfl,rfl,rfl,rfl,rfl,rfl,rfl,rfl,rfl,rfl,rfl,trivial⟩ rfl rfl fun w ok=>wn<|wp_ret ?_
 exact fin hF ⟨m20,[vi r18.phase,vi r18.trackers.e0.a,vi r18.trackers.e0.b,vi r18.trackers.e1.a,vi r18.trackers.e1.b,vi r18.trackers.e2.a,vi r18.trackers.e2.b,vi r18.trackers.e3.a,vi r18.trackers.e3.b,vi r18.trackers.e4.a,vi r18.trackers.e4.b,vi r18.trackers.e5.a,vi r18.trackers.e5.b],le_m0,ok.drop.drop,E.d,⟨rv_c (cs:=[vi r18.phase,vi r18.trackers.e0.a,vi r18.trackers.e0.b,vi r18.trackers.e1.a,vi r18.trackers.e1.b,vi r18.trackers.e2.a,vi r18.trackers.e2.b,vi r18.trackers.e3.a,vi r18.trackers.e3.b,vi r18.trackers.e4.a,vi r18.trackers.e4.b,vi r18.trackers.e5.a,vi r18.trackers.e5.b]) E ok rfl qdh rfl (qab.own 0 rfl rfl),trivial⟩,⟨rfl,r23,r24,r25,r26,r27,r28,r29,r30,r31,r32,r33,r34,r35⟩⟩
def qjC (u:World) (m0:Mem) (S:Segs) (pb0:Nat) (pb1:Nat) (x0:Reading) (x1:List (Relation)) (c14:Value) (r:Bool) (a:Act) (w:World):Prop :=
 Ok u m0 ([(pb0,oc 89 [vi x0.phase,vi x0.trackers.e0.a,vi x0.trackers.e0.b,vi x0.trackers.e1.a,vi x0.trackers.e1.b,vi x0.trackers.e2.a,vi x0.trackers.e2.b,vi x0.trackers.e3.a,vi x0.trackers.e3.b,vi x0.trackers.e4.a,vi x0.trackers.e4.b,vi x0.trackers.e5.a,vi x0.trackers.e5.b])] :: [(pb1,oc 66 [c14])] :: S) w ∧ a.defers = [] ∧ RVs Tryz.prog a w [.t 4 (.bool r)]
theorem qjx (N:Nat) (i_0:Int) (ri_0:InR .i64 i_0) {pb0:Nat} (x0:Reading) (r1:InR .i64 x0.phase) (r2:InR .i64 x0.trackers.e0.a) (r3:InR .i64 x0.trackers.e0.b) (r4:InR .i64 x0.trackers.e1.a) (r5:InR .i64 x0.trackers.e1.b) (r6:InR .i64 x0.trackers.e2.a) (r7:InR .i64 x0.trackers.e2.b) (r8:InR .i64 x0.trackers.e3.a) (r9:InR .i64 x0.trackers.e3.b) (r10:InR .i64 x0.trackers.e4.a) (r11:InR .i64 x0.trackers.e4.b) (r12:InR .i64 x0.trackers.e5.a) (r13:InR .i64 x0.trackers.e5.b) {pb1:Nat} {c14:Value} (x1:List (Relation)) (h15:(pL 4 qap) m0 [c14] x1) {r:Bool} (hF:qd2 N i_0 x0 x1 = some r) (hG:Glob u) (ok:Ok u m0 ([(pb0,oc 89 [vi x0.phase,vi x0.trackers.e0.a,vi x0.trackers.e0.b,vi x0.trackers.e1.a,vi x0.trackers.e1.b,vi x0.trackers.e2.a,vi x0.trackers.e2.b,vi x0.trackers.e3.a,vi x0.trackers.e3.b,vi x0.trackers.e4.a,vi x0.trackers.e4.b,vi x0.trackers.e5.a,vi x0.trackers.e5.b])] :: [(pb1,oc 66 [c14])] :: S) w) :
  Calls Tryz.prog 53 [vi i_0,vp pb0,vp pb1].toArray w fun e w'=>(e = .returned (.bool r) ∧ Ok u m0 ([(pb0,oc 89 [vi x0.phase,vi x0.trackers.e0.a,vi x0.trackers.e0.b,vi x0.trackers.e1.a,vi x0.trackers.e1.b,vi x0.trackers.e2.a,vi x0.trackers.e2.b,vi x0.trackers.e3.a,vi x0.trackers.e3.b,vi x0.trackers.e4.a,vi x0.trackers.e4.b,vi x0.trackers.e5.a,vi x0.trackers.e5.b])] :: [(pb1,oc 66 [c14])] :: S) w'):=by
 unfold qd2 at hF
 refine en (qjC u m0 S pb0 pb1 x0 x1 c14) r Tryz.func53 rfl rfl rfl (fun _ _ h=>ra h rfl) fun fin a E=>sg<|aw E rfl fun a E=>wp_seq<|qdc (by kernel_rfl) (by kernel_rfl) ok<|qv E (qah rfl) fun a E=>qv E (qae qgP rfl) fun a E=>?_
 obtain ⟨x16,e17,hF⟩:=bnd hF
 replace e17:idx (Arr6_Tracker.list x0.trackers) i_0 = some x16:=e17
 refine qv E (qb4 qhz rfl rfl (qaN e17).1 (qaN e17).2) fun a E=>qv E (qag (cs:=[vi x16.a,vi x16.b]) qbT rfl rfl (qab.idxK (k:=2) (xs:=Arr6_Tracker.list x0.trackers) (f:=(fun x:Tracker=>[vi x.a,vi x.b])) (fun _=>rfl) (qab.own 0 rfl rfl) e17)) fun a E=>qv E (qaj qci rfl (qab.own 1 rfl rfl)) fun a E=>qv E (qah rfl) fun a E=>?_
 obtain ⟨x18,e19,hF⟩:=bnd hF
 obtain ⟨b20,o21,es22,hl23,rr24,at25,yy26⟩:=ia E 9 10 qa4 h15 e19
 obtain ⟨c29,rfl,r27,r28,h30⟩:=rr24
 refine qv E (yy26 _ _) fun a E=>qv E (qag (cs:=[vi x18.Operand,vi x18.Mod,vb x18.Not,c29]) qbc rfl rfl (qab.ro at25)) fun a E=>bd hF fun r31 e32 hF=>qgn E qqq rfl (fun w ok=>(qg7 N _ x16 ⟨rfl,(AllP.idx (q:=(fun z:Tracker=>InR .i64 z.a ∧ InR .i64 z.b)) (xs:=Arr6_Tracker.list x0.trackers) ⟨⟨r2,r3⟩,⟨r4,r5⟩,⟨r6,r7⟩,⟨r8,r9⟩,⟨r10,r11⟩,⟨r12,r13⟩,trivial⟩ e17).1,(AllP.idx (q:=(fun z:Tracker=>InR .i64 z.a ∧ InR .i64 z.b)) (xs:=Arr6_Tracker.list x0.trackers) ⟨⟨r2,r3⟩,⟨r4,r5⟩,⟨r6,r7⟩,⟨r8,r9⟩,⟨r10,r11⟩,⟨r12,r13⟩,trivial⟩ e17).2⟩ _ x18 ⟨_,rfl,r27,r28,h30⟩ e32 hG ok).mono (fun _ _ h=>h)) rfl rfl fun a E=>qv E (qcZ rfl) fun a E=>wpQuiet_nil ?_
 intro w ok
 refine qaa<|wp_ret ?_
 exact fin hF ⟨ok,E.d,rz E rfl⟩
def qlc (u:World) (m0:Mem) (S:Segs) (pb0:Nat) (pb1:Nat) (x0:Reading) (x1:List (Relation)) (c14:Value) (r:Bool) (a:Act) (w:World):Prop :=
 Ok u m0 ([(pb0,oc 89 [vi x0.phase,vi x0.trackers.e0.a,vi x0.trackers.e0.b,vi x0.trackers.e1.a,vi x0.trackers.e1.b,vi x0.trackers.e2.a,vi x0.trackers.e2.b,vi x0.trackers.e3.a,vi x0.trackers.e3.b,vi x0.trackers.e4.a,vi x0.trackers.e4.b,vi x0.trackers.e5.a,vi x0.trackers.e5.b])] :: [(pb1,oc 66 [c14])] :: S) w ∧ a.defers = [] ∧ RVs Tryz.prog a w [.t 4 (.bool r)]
theorem qic (N:Nat) (vc_0:Value) (c_0:List (List (Relation))) (hc_0:(pL 1 (pL 4 qap)) m0 [vc_0] c_0) {pb0:Nat} (x0:Reading) (r1:InR .i64 x0.phase) (r2:InR .i64 x0.trackers.e0.a) (r3:InR .i64 x0.trackers.e0.b) (r4:InR .i64 x0.trackers.e1.a) (r5:InR .i64 x0.trackers.e1.b) (r6:InR .i64 x0.trackers.e2.a) (r7:InR .i64 x0.trackers.e2.b) (r8:InR .i64 x0.trackers.e3.a) (r9:InR .i64 x0.trackers.e3.b) (r10:InR .i64 x0.trackers.e4.a) (r11:InR .i64 x0.trackers.e4.b) (r12:InR .i64 x0.trackers.e5.a) (r13:InR .i64 x0.trackers.e5.b) {pb1:Nat} {c14:Value} (x1:List (Relation)) (h15:(pL 4 qap) m0 [c14] x1) {r:Bool} (hF:qer N c_0 x0 x1 = some r) (hG:Glob u) (ok:Ok u m0 ([(pb0,oc 89 [vi x0.phase,vi x0.trackers.e0.a,vi x0.trackers.e0.b,vi x0.trackers.e1.a,vi x0.trackers.e1.b,vi x0.trackers.e2.a,vi x0.trackers.e2.b,vi x0.trackers.e3.a,vi x0.trackers.e3.b,vi x0.trackers.e4.a,vi x0.trackers.e4.b,vi x0.trackers.e5.a,vi x0.trackers.e5.b])] :: [(pb1,oc 66 [c14])] :: S) w) :
  Calls Tryz.prog 52 [vc_0,Value.func (.func 53) #[] #[.pointer (some ⟨pb0,0,none⟩),.pointer (some ⟨pb1,0,none⟩)]].toArray w fun e w'=>(e = .returned (.bool r) ∧ Ok u m0 ([(pb0,oc 89 [vi x0.phase,vi x0.trackers.e0.a,vi x0.trackers.e0.b,vi x0.trackers.e1.a,vi x0.trackers.e1.b,vi x0.trackers.e2.a,vi x0.trackers.e2.b,vi x0.trackers.e3.a,vi x0.trackers.e3.b,vi x0.trackers.e4.a,vi x0.trackers.e4.b,vi x0.trackers.e5.a,vi x0.trackers.e5.b])] :: [(pb1,oc 66 [c14])] :: S) w'):=by
 unfold qer at hF
 refine en (qlc u m0 S pb0 pb1 x0 x1 c14) r Tryz.func52 rfl rfl rfl (fun _ _ h=>ra h rfl) fun fin a E=>sg<|aw E rfl fun a E=>sg<|aw E rfl fun a E=>sg<|aw E rfl fun a E=>wp_seq<|sg<|mv E rfl fun a E=>lv E ok (qaD qcM hc_0 rfl) fun a E=>mv E rfl fun a E=>wn<|wp_block<|bd hF fun o18 hL hF=>qaE _ (fun (s:Int × Bool × Int) a w=>Ok u m0 ([(pb0,oc 89 [vi x0.phase,vi x0.trackers.e0.a,vi x0.trackers.e0.b,vi x0.trackers.e1.a,vi x0.trackers.e1.b,vi x0.trackers.e2.a,vi x0.trackers.e2.b,vi x0.trackers.e3.a,vi x0.trackers.e3.b,vi x0.trackers.e4.a,vi x0.trackers.e4.b,vi x0.trackers.e5.a,vi x0.trackers.e5.b])] :: [(pb1,oc 66 [c14])] :: S) w ∧ Env 35 a [(1,(Value.func (.func 53) #[] #[.pointer (some ⟨pb0,0,none⟩),.pointer (some ⟨pb1,0,none⟩)])),(5,vi s.1),(6,vb s.2.1),(10,vc_0),(11,(vi (c_0.length:Int))),(12,vi s.2.2)] ∧ InR .i64 s.1 ∧ InR .i64 s.2.2) (fun (b:Bool) e a w=>e = (.exit 0) ∧ Ok u m0 ([(pb0,oc 89 [vi x0.phase,vi x0.trackers.e0.a,vi x0.trackers.e0.b,vi x0.trackers.e1.a,vi x0.trackers.e1.b,vi x0.trackers.e2.a,vi x0.trackers.e2.b,vi x0.trackers.e3.a,vi x0.trackers.e3.b,vi x0.trackers.e4.a,vi x0.trackers.e4.b,vi x0.trackers.e5.a,vi x0.trackers.e5.b])] :: [(pb1,oc 66 [c14])] :: S) w ∧ Env 35 a [(6,vb b)]) ?_ ?_ N _ a w hL ⟨ok,E.keep [1,5,6,10,11,12],(ir 0),(ir 0)⟩
 rotate_left
 ·intro e a w _ hO
  obtain ⟨rfl,ok,E⟩:=hO
  refine qaM<|qaa<|sg<|mv E rfl fun a E=>aw E rfl fun a E=>wp_ret ?_
  exact fin hF ⟨ok,E.d,rz E rfl⟩
 rintro ⟨v21,v22,v23⟩ a w r ⟨ok,E,r24,r25⟩ hF
 replace hF:qcX N c_0 x0 x1 v21 v22 v23 = some r:=hF
 unfold qcX at hF
 refine sg<|lw E (qav rfl rfl) fun a E=>wn<|wp_seq<|cg E rfl hF (fun c26 hF=>?_) fun c26 hF=>?_
 ·refine wp_exit<|qaA ?_
  cases hF
  exact so (⟨rfl,⟨ok,E.keep [6]⟩⟩)
 refine wp_skip<|qaa<|wp_seq<|wp_block<|sg ?_
 obtain ⟨x27,e28,hF⟩:=bnd hF
 obtain ⟨b29,o30,es31,hl32,rr33,at34,yy35⟩:=ia E 10 12 qcM hc_0 e28
 obtain ⟨c36,rfl,h37⟩:=qbK rr33
 refine lv E ok (yy35 _ _) fun a E=>lv E ok (qaj qci rfl (qab.ro at34)) fun a E=>aw E rfl fun a E=>sg<|av E rfl fun a E=>wn<|wp_seq<|sg<|mv E rfl fun a E=>lv E ok (qaD qa4 h37 rfl) fun a E=>mv E rfl fun a E=>wn<|wp_block<|bd hF fun o40 hL hF=>qaE _ (fun (s:Int × Bool × Int) a w=>Ok u m0 ([(pb0,oc 89 [vi x0.phase,vi x0.trackers.e0.a,vi x0.trackers.e0.b,vi x0.trackers.e1.a,vi x0.trackers.e1.b,vi x0.trackers.e2.a,vi x0.trackers.e2.b,vi x0.trackers.e3.a,vi x0.trackers.e3.b,vi x0.trackers.e4.a,vi x0.trackers.e4.b,vi x0.trackers.e5.a,vi x0.trackers.e5.b])] :: [(pb1,oc 66 [c14])] :: S) w ∧ Env 35 a [(1,(Value.func (.func 53) #[] #[.pointer (some ⟨pb0,0,none⟩),.pointer (some ⟨pb1,0,none⟩)])),(5,vi s.1),(6,vb v22),(9,vb s.2.1),(10,vc_0),(11,(vi (c_0.length:Int))),(12,vi v23),(17,(vi (x27.length:Int))),(18,vi s.2.2)] ∧ InR .i64 s.1 ∧ InR .i64 s.2.2) (fun (b:(Int × Bool)) e a w=>e = (.exit 2) ∧ Ok u m0 ([(pb0,oc 89 [vi x0.phase,vi x0.trackers.e0.a,vi x0.trackers.e0.b,vi x0.trackers.e1.a,vi x0.trackers.e1.b,vi x0.trackers.e2.a,vi x0.trackers.e2.b,vi x0.trackers.e3.a,vi x0.trackers.e3.b,vi x0.trackers.e4.a,vi x0.trackers.e4.b,vi x0.trackers.e5.a,vi x0.trackers.e5.b])] :: [(pb1,oc 66 [c14])] :: S) w ∧ Env 35 a [(1,(Value.func (.func 53) #[] #[.pointer (some ⟨pb0,0,none⟩),.pointer (some ⟨pb1,0,none⟩)])),(5,vi b.1),(6,vb v22),(9,vb b.2),(10,vc_0),(11,(vi (c_0.length:Int))),(12,vi v23)] ∧ InR .i64 b.1) ?_ ?_ N _ a w hL ⟨ok,E.keep [1,5,6,9,10,11,12,17,18],r24,(ir 0)⟩
 rotate_left
 ·intro e a w _ hO
  obtain ⟨rfl,ok,E,r52⟩:=hO
  refine qaM<|qaa<|qac<|mz E rfl rfl fun a E=>qcp v22 (fun c53=>?_) (fun c53=>?_)
  ·have hF:=qcg c53 hF
   have E:=E.upd 30 c53 rfl
   refine ls E fun a E=>pt E rfl rfl fun a E=>av E rfl fun a E=>wpList_nil<|qal<|qaa<|qac<|lw E (qaw rfl rfl (InR.inc r25 (qam hc_0) c26)) fun a E=>mv E rfl fun a E=>wpList_nil ?_
   cases hF
   exact qas ⟨ok,E.keep [1,5,6,10,11,12],r52,(InR.inc r25 (qam hc_0) c26)⟩
  have hF:=qcc c53 hF
  have E:=E.upd 30 c53 rfl
  refine mv E rfl fun a E=>pf E rfl rfl fun a E=>av E rfl fun a E=>wpList_nil<|qal<|qaa<|qac<|lw E (qaw rfl rfl (InR.inc r25 (qam hc_0) c26)) fun a E=>mv E rfl fun a E=>wpList_nil ?_
  cases hF
  exact qas ⟨ok,E.keep [1,5,6,10,11,12],r52,(InR.inc r25 (qam hc_0) c26)⟩
 rintro ⟨v43,v44,v45⟩ a w r ⟨ok,E,r46,r47⟩ hF
 replace hF:qcY N x0 x1 x27 v43 v44 v45 = some r:=hF
 unfold qcY at hF
 refine sg<|lw E (qav rfl rfl) fun a E=>wn<|wp_seq<|cg E rfl hF (fun c48 hF=>?_) fun c48 hF=>?_
 ·refine wp_exit<|qaA ?_
  cases hF
  exact so (⟨rfl,⟨ok,E.keep [1,5,6,9,10,11,12],r46⟩⟩)
 refine wp_skip<|qaa<|wp_seq<|wp_block<|sg<|mz E rfl rfl fun a E=>qcp v44 (fun c49=>?_) (fun c49=>?_)
 rotate_left
 ·have hF:=qcc c49 hF
  have E:=E.upd 21 c49 rfl
  refine lsq E fun a E=>ls E fun a E=>pf E rfl rfl fun a E=>aw E rfl fun a E=>qac<|mv E rfl fun a E=>lw E (qbq rfl rfl) fun a E=>av E rfl fun a E=>wpList_nil<|qal<|qaa<|qac<|lw E (qaw rfl rfl (InR.inc r47 (qam h37) c48)) fun a E=>mv E rfl fun a E=>wpList_nil ?_
  cases hF
  exact qas ⟨ok,E.keep [1,5,6,9,10,11,12,17,18],(InR.wrap _ _),(InR.inc r47 (qam h37) c48)⟩
 have hF:=qcg c49 hF
 have E:=E.upd 21 c49 rfl
 refine mz E rfl rfl fun a E=>bd hF fun r50 e51 hF=>qgW E rfl qsB rfl (qjx N v43 r46 x0 r1 r2 r3 r4 r5 r6 r7 r8 r9 r10 r11 r12 r13 x1 h15 e51 hG ok) rfl rfl ?_
 rintro _ w ⟨rfl,ok⟩
 refine ⟨_,rfl,fun a E=>?_⟩
 refine pt E rfl rfl fun a E=>aw E rfl fun a E=>qac<|mv E rfl fun a E=>lw E (qbq rfl rfl) fun a E=>av E rfl fun a E=>wpList_nil<|qal<|qaa<|qac<|lw E (qaw rfl rfl (InR.inc r47 (qam h37) c48)) fun a E=>mv E rfl fun a E=>wpList_nil ?_
 cases hF
 exact qas ⟨ok,E.keep [1,5,6,9,10,11,12,17,18],(InR.wrap _ _),(InR.inc r47 (qam h37) c48)⟩
def qky (u:World) (m0:Mem) (S:Segs) (pb0:Nat) (pb1:Nat) (x0:List (List (Relation))) (c14:Value) (x1:List (Relation)) (c16:Value) (r:Bool) (a:Act) (w:World):Prop :=
 Ok u m0 ([(pb0,oc 23 [c14])] :: [(pb1,oc 66 [c16])] :: S) w ∧ a.defers = [] ∧ RVs Tryz.prog a w [.t 4 (.bool r)]
theorem qkw (N:Nat) (vs_0:List Value) (s_0:Reading) (hs_0:qcv m0 vs_0 s_0) {pb0:Nat} {c14:Value} (x0:List (List (Relation))) (h15:(pL 1 (pL 4 qap)) m0 [c14] x0) {pb1:Nat} {c16:Value} (x1:List (Relation)) (h17:(pL 4 qap) m0 [c16] x1) {r:Bool} (hF:qcG N s_0 x0 x1 = some r) (hG:Glob u) (ok:Ok u m0 ([(pb0,oc 23 [c14])] :: [(pb1,oc 66 [c16])] :: S) w) :
  Calls Tryz.prog 51 [.agg vs_0.toArray,vp pb0,vp pb1].toArray w fun e w'=>(e = .returned (.bool r) ∧ Ok u m0 ([(pb0,oc 23 [c14])] :: [(pb1,oc 66 [c16])] :: S) w'):=by
 obtain ⟨rfl,r1,r2,r3,r4,r5,r6,r7,r8,r9,r10,r11,r12,r13⟩:=hs_0
 unfold qcG at hF
 refine en (qky u m0 S pb0 pb1 x0 c14 x1 c16) r Tryz.func51 rfl rfl rfl (fun _ _ h=>ra h rfl) fun fin a E=>sg<|qbz E ok rfl rfl rfl fun b18 a w E ok=>aw E rfl fun a E=>sg<|fk E ok qc5 qak rfl 0 rfl rfl fun a E=>lw E (qau rfl rfl) fun a E=>mv E rfl fun a E=>bu E 8 hF (fun c19 hF E=>?_) fun c19 hF E=>?_
 ·refine lsq E fun a E=>ls E fun a E=>pt E rfl rfl fun a E=>mv E rfl fun a E=>ld E ok qfh 1 rfl rfl rfl fun a E=>lv E ok (qez (caps:=[.tmp 3,.tmp 2]) rfl) fun a E=>?_
  obtain ⟨r20,e21,hF⟩:=bnd hF
  replace ok:Ok u m0 ([(b18,oc 89 [vi s_0.phase,vi s_0.trackers.e0.a,vi s_0.trackers.e0.b,vi s_0.trackers.e1.a,vi s_0.trackers.e1.b,vi s_0.trackers.e2.a,vi s_0.trackers.e2.b,vi s_0.trackers.e3.a,vi s_0.trackers.e3.b,vi s_0.trackers.e4.a,vi s_0.trackers.e4.b,vi s_0.trackers.e5.a,vi s_0.trackers.e5.b])] :: [(pb1,oc 66 [c16])] :: [(pb0,oc 23 [c14])] :: S) w:=(ok.pk 3 [0,2,1] rfl (by decide))
  refine lc E qoR rfl (qic N _ x0 h15 s_0 r1 r2 r3 r4 r5 r6 r7 r8 r9 r10 r11 r12 r13 x1 h17 e21 hG ok) fun w ok a E=>pt E rfl rfl fun a E=>aw E rfl fun a E=>wp_ret ?_
  exact fin hF ⟨(ok.pk 3 [2,1] rfl (by decide)),E.d,rz E rfl⟩
 refine fk E ok qc5 qak rfl 0 rfl rfl fun a E=>lw E (qau rfl rfl) fun a E=>pf E rfl rfl fun a E=>mv E rfl fun a E=>bw E 13 hF (fun c22 hF E=>?_) fun c22 hF E=>?_
 ·refine lsq E fun a E=>ls E fun a E=>pf E rfl rfl fun a E=>aw E rfl fun a E=>wp_ret ?_
  exact fin hF ⟨ok.drop,E.d,rz E rfl⟩
 refine ld E ok qfh 1 rfl rfl rfl fun a E=>lv E ok (qez (caps:=[.tmp 3,.tmp 2]) rfl) fun a E=>?_
 obtain ⟨r23,e24,hF⟩:=bnd hF
 replace ok:Ok u m0 ([(b18,oc 89 [vi s_0.phase,vi s_0.trackers.e0.a,vi s_0.trackers.e0.b,vi s_0.trackers.e1.a,vi s_0.trackers.e1.b,vi s_0.trackers.e2.a,vi s_0.trackers.e2.b,vi s_0.trackers.e3.a,vi s_0.trackers.e3.b,vi s_0.trackers.e4.a,vi s_0.trackers.e4.b,vi s_0.trackers.e5.a,vi s_0.trackers.e5.b])] :: [(pb1,oc 66 [c16])] :: [(pb0,oc 23 [c14])] :: S) w:=(ok.pk 3 [0,2,1] rfl (by decide))
 refine lc E qoR rfl (qic N _ x0 h15 s_0 r1 r2 r3 r4 r5 r6 r7 r8 r9 r10 r11 r12 r13 x1 h17 e24 hG ok) fun w ok a E=>pt E rfl rfl fun a E=>aw E rfl fun a E=>wp_ret ?_
 exact fin hF ⟨(ok.pk 3 [2,1] rfl (by decide)),E.d,rz E rfl⟩
end Go.Proofs.YtidfofhmnlhfjaaGreatDoor
namespace Go.Proofs.YtidfofhmnlhfjaaGreatDoor
open Go.X
variable {u:World} {m0:Mem} {S:Segs} {w:World}
set_option maxHeartbeats 4000000
set_option maxRecDepth 100000
def qgp (u:World) (m0:Mem) (S:Segs) (pb0:Nat) (pb1:Nat) (x0:List (Relation)) (c14:Value) (x1:List (List (Relation))) (c16:Value) (r:Table) (a:Act) (w:World):Prop :=
 ∃ m1 v0,m0.le m1 ∧ Ok u m1 ([(pb0,oc 66 [c14])] :: [(pb1,oc 23 [c16])] :: S) w ∧ a.defers = [] ∧ RVs Tryz.prog a w [.c 6 75 (.agg v0.toArray)] ∧ qhb m1 v0 r
theorem qgo (N:Nat) (vstart_0:List Value) (start_0:Reading) (hstart_0:qcv m0 vstart_0 start_0) {pb0:Nat} {c14:Value} (x0:List (Relation)) (h15:(pL 4 qap) m0 [c14] x0) {pb1:Nat} {c16:Value} (x1:List (List (Relation))) (h17:(pL 1 (pL 4 qap)) m0 [c16] x1) {r:Table} (hF:qbJ N start_0 x0 x1 = some r) (hG:Glob u) (ok:Ok u m0 ([(pb0,oc 66 [c14])] :: [(pb1,oc 23 [c16])] :: S) w) :
  Calls Tryz.prog 48 [.agg vstart_0.toArray,Value.func (.func 49) #[] #[.pointer (some ⟨pb0,0,none⟩)],Value.func (.func 51) #[] #[.pointer (some ⟨pb1,0,none⟩),.pointer (some ⟨pb0,0,none⟩)]].toArray w fun e w'=>∃ m1 v0,e = .returned (.agg v0.toArray) ∧ m0.le m1 ∧ Ok u m1 ([(pb0,oc 66 [c14])] :: [(pb1,oc 23 [c16])] :: S) w' ∧ qhb m1 v0 r:=by
 obtain ⟨rfl,r1,r2,r3,r4,r5,r6,r7,r8,r9,r10,r11,r12,r13⟩:=hstart_0
 have le_m0:=Mem.le.refl m0
 unfold qbJ at hF
 refine en (qgp u m0 S pb0 pb1 x0 c14 x1 c16) r Tryz.func48 rfl rfl rfl (by rintro a w ⟨m1,v0,hle,ok,hd,hrv,h0⟩; exact qbG [.c 6 75 (.agg v0.toArray)] hd rfl hrv ⟨m1,v0,rfl,hle,ok,h0⟩) fun fin a E=>sg<|qbz E ok rfl rfl rfl fun b18 a w E ok=>qax E ok qhn rfl rfl fun b19 a w E ok=>wn<|sg<|qie (aggK qcv) (oneV (pI .i64)) E ok rfl rfl fun c20 M21 a w E ok h22=>lv E ok (qag (cs:=[vi start_0.phase,vi start_0.trackers.e0.a,vi start_0.trackers.e0.b,vi start_0.trackers.e1.a,vi start_0.trackers.e1.b,vi start_0.trackers.e2.a,vi start_0.trackers.e2.b,vi start_0.trackers.e3.a,vi start_0.trackers.e3.b,vi start_0.trackers.e4.a,vi start_0.trackers.e4.b,vi start_0.trackers.e5.a,vi start_0.trackers.e5.b]) qdh rfl rfl (qab.own 2 rfl rfl)) fun a E=>bd hF fun l23 e24 hF=>qim (.inr rfl) E ok 0 qmL Tryz.underlying137 h22 rfl rfl rfl rfl ⟨m0,_,rfl,⟨rfl,r1,r2,r3,r4,r5,r6,r7,r8,r9,r10,r11,r12,r13⟩⟩ (qaX (ir 0)) e24 rfl fun M25 w ok h26=>mv E rfl fun a E=>aw E rfl fun a E=>sg<|lv E ok (qag (cs:=[vi start_0.phase,vi start_0.trackers.e0.a,vi start_0.trackers.e0.b,vi start_0.trackers.e1.a,vi start_0.trackers.e1.b,vi start_0.trackers.e2.a,vi start_0.trackers.e2.b,vi start_0.trackers.e3.a,vi start_0.trackers.e3.b,vi start_0.trackers.e4.a,vi start_0.trackers.e4.b,vi start_0.trackers.e5.a,vi start_0.trackers.e5.b]) qdh rfl rfl (qab.own 2 rfl rfl)) fun a E=>qaW (R:=qcv) (xo:=[.tmp 19]) (xs:=([start_0]:List (Reading))) E ok qi5 qfU rfl ⟨⟨_,rfl,rfl,⟨rfl,r1,r2,r3,r4,r5,r6,r7,r8,r9,r10,r11,r12,r13⟩⟩,trivial⟩ rfl rfl rfl rfl fun c27 M28 a w E ok h29=>aw E rfl fun a E=>sg<|qax E ok qhn rfl rfl fun b30 a w E ok=>wn<|wp_seq<|sg<|aw E rfl fun a E=>wp_block ?_
 obtain ⟨M48,ok,h49⟩:=qcf (e:=129) (k:=11) (R:=qbw) ok
 obtain ⟨M50,ok,h51⟩:=qcf (e:=4) (k:=1) (R:=pB) ok
 refine bd hF fun o52 hL hF=>qaE _ (fun (s:(List (Reading)) × Int × Table × (List (Reading × Int))) a w=>∃ m53 c54 M55 c58 M59 c61 M62 c64 M65,m0.le m53 ∧ Ok u m53 (M62 :: M59 :: [(b30,oc 75 [c58,c61])] :: M55 :: M65 :: [(b19,oc 75 [(Value.slice none 0 0),(Value.slice none 0 0)])] :: [(b18,oc 89 [vi start_0.phase,vi start_0.trackers.e0.a,vi start_0.trackers.e0.b,vi start_0.trackers.e1.a,vi start_0.trackers.e1.b,vi start_0.trackers.e2.a,vi start_0.trackers.e2.b,vi start_0.trackers.e3.a,vi start_0.trackers.e3.b,vi start_0.trackers.e4.a,vi start_0.trackers.e4.b,vi start_0.trackers.e5.a,vi start_0.trackers.e5.b])] :: [(pb0,oc 66 [c14])] :: [(pb1,oc 23 [c16])] :: S) w ∧ Env 76 a [(1,(Value.func (.func 49) #[] #[.pointer (some ⟨pb0,0,none⟩)])),(2,(Value.func (.func 51) #[] #[.pointer (some ⟨pb1,0,none⟩),.pointer (some ⟨pb0,0,none⟩)])),(6,vp b19),(7,c64),(8,c54),(9,vp b30),(10,vi s.2.1)] ∧ ORow 89 13 qcv m53 c54 s.1 M55 ∧ InR .i64 s.2.1 ∧ ORow 129 11 qbw m53 c58 s.2.2.1.next M59 ∧ ORow 4 1 pB m53 c61 s.2.2.1.accept M62 ∧ OMap (aggK qcv) (oneV (pI .i64)) m53 c64 s.2.2.2 M65) (fun (b:Table) e a w=>e = (.exit 0) ∧ ∃ m353 c354 M355 c357 M358,m0.le m353 ∧ Ok u m353 (M358 :: M355 :: [(b30,oc 75 [c354,c357])] :: [(b19,oc 75 [(Value.slice none 0 0),(Value.slice none 0 0)])] :: [(b18,oc 89 [vi start_0.phase,vi start_0.trackers.e0.a,vi start_0.trackers.e0.b,vi start_0.trackers.e1.a,vi start_0.trackers.e1.b,vi start_0.trackers.e2.a,vi start_0.trackers.e2.b,vi start_0.trackers.e3.a,vi start_0.trackers.e3.b,vi start_0.trackers.e4.a,vi start_0.trackers.e4.b,vi start_0.trackers.e5.a,vi start_0.trackers.e5.b])] :: [(pb0,oc 66 [c14])] :: [(pb1,oc 23 [c16])] :: S) w ∧ Env 76 a [(6,vp b19),(9,vp b30)] ∧ ORow 129 11 qbw m353 c354 b.next M355 ∧ ORow 4 1 pB m353 c357 b.accept M358) ?_ ?_ N _ a w hL ⟨m0,c27,M28,(Value.slice none 0 0),M48,(Value.slice none 0 0),M50,c20,M25,Mem.le.refl _,ok,E.keep [1,2,6,7,8,9,10],h29,(ir 0),h49,h51,h26⟩
 rotate_left
 ·intro e a w _ hO
  obtain ⟨rfl,m342,c343,M344,c346,M347,hle,ok,E,h345,h348⟩:=hO
  have le_m0:=le_m0.trans hle
  have h15:=(mL qaf).up hle h15
  have h17:=(mL (mL qaf)).up hle h17
  refine qaM<|qaa<|sg<|lv E ok (qag (cs:=[c343,c346]) qid rfl rfl (qab.own 2 rfl rfl)) fun a E=>qad E ok 3 rfl rfl rfl qlh rfl rfl ⟨(ORow.one h345),(ORow.one h348),trivial⟩ rfl rfl fun w ok=>wn<|wp_ret ?_
  obtain ⟨m349,hle,ok,hfz⟩:=(ok.frs 1 rfl).freeze
  have h350:=ORow.froz qbh h345 hle hfz (by decide)
  have le_m0:=le_m0.trans hle
  have h15:=(mL qaf).up hle h15
  have h17:=(mL (mL qaf)).up hle h17
  have h348:=ORow.up mB hle h348
  obtain ⟨m351,hle,ok,hfz⟩:=(ok.frs 0 rfl).freeze
  have h352:=ORow.froz mB h348 hle hfz (by decide)
  have le_m0:=le_m0.trans hle
  have h15:=(mL qaf).up hle h15
  have h17:=(mL (mL qaf)).up hle h17
  have h350:=(mL qbh).up hle h350
  exact fin hF ⟨m351,[c343,c346],le_m0,ok.drop.drop.drop,E.d,⟨rv_c (cs:=[c343,c346]) E ok rfl qid rfl (qab.own 1 rfl rfl),trivial⟩,⟨_,_,rfl,h350,h352⟩⟩
 rintro ⟨v67,v68,v69,v70⟩ a w r ⟨m71,c72,M73,c76,M77,c79,M80,c82,M83,hle,ok,E,h74,r75,h78,h81,h84⟩ hF
 replace hF:qbk N x0 x1 v67 v68 v69 v70 = some r:=hF
 unfold qbk at hF
 have le_m0:=le_m0.trans hle
 have h15:=(mL qaf).up hle h15
 have h17:=(mL (mL qaf)).up hle h17
 refine wp_seq<|sg<|mz E rfl rfl fun a E=>lv E ok (qcF qi5 h74 rfl) fun a E=>lw E (qav rfl rfl) fun a E=>wn<|cg E rfl hF (fun c85 hF=>?_) fun c85 hF=>?_
 ·refine wp_exit<|qaA ?_
  cases hF
  exact so (⟨rfl,⟨m71,c76,M77,c79,M80,le_m0,(ok.pk 9 [0,1,2,5,6,7,8] rfl (by decide)),E.keep [6,9],h78,h81⟩⟩)
 refine wp_skip<|qaa<|wp_seq<|wp_block<|sg<|qax E ok qfj rfl rfl fun b86 a w E ok=>wn<|wp_seq<|sg<|mv E rfl fun a E=>wn<|wp_block<|bd hF fun o109 hL hF=>qaE _ (fun (s:(List (Reading)) × Int × Arr11_Int × (List (Reading × Int))) a w=>∃ m110 c111 M112 c126 M127,m71.le m110 ∧ Ok u m110 ([(b86,oc 129 [vi s.2.2.1.e0,vi s.2.2.1.e1,vi s.2.2.1.e2,vi s.2.2.1.e3,vi s.2.2.1.e4,vi s.2.2.1.e5,vi s.2.2.1.e6,vi s.2.2.1.e7,vi s.2.2.1.e8,vi s.2.2.1.e9,vi s.2.2.1.e10])] :: M80 :: M77 :: [(b30,oc 75 [c76,c79])] :: M112 :: M127 :: [(b19,oc 75 [(Value.slice none 0 0),(Value.slice none 0 0)])] :: [(b18,oc 89 [vi start_0.phase,vi start_0.trackers.e0.a,vi start_0.trackers.e0.b,vi start_0.trackers.e1.a,vi start_0.trackers.e1.b,vi start_0.trackers.e2.a,vi start_0.trackers.e2.b,vi start_0.trackers.e3.a,vi start_0.trackers.e3.b,vi start_0.trackers.e4.a,vi start_0.trackers.e4.b,vi start_0.trackers.e5.a,vi start_0.trackers.e5.b])] :: [(pb0,oc 66 [c14])] :: [(pb1,oc 23 [c16])] :: S) w ∧ Env 76 a [(1,(Value.func (.func 49) #[] #[.pointer (some ⟨pb0,0,none⟩)])),(2,(Value.func (.func 51) #[] #[.pointer (some ⟨pb1,0,none⟩),.pointer (some ⟨pb0,0,none⟩)])),(6,vp b19),(7,c126),(8,c111),(9,vp b30),(10,vi v68),(11,vp b86),(27,vi s.2.1)] ∧ ORow 89 13 qcv m110 c111 s.1 M112 ∧ InR .i64 s.2.1 ∧ InR .i64 s.2.2.1.e0 ∧ InR .i64 s.2.2.1.e1 ∧ InR .i64 s.2.2.1.e2 ∧ InR .i64 s.2.2.1.e3 ∧ InR .i64 s.2.2.1.e4 ∧ InR .i64 s.2.2.1.e5 ∧ InR .i64 s.2.2.1.e6 ∧ InR .i64 s.2.2.1.e7 ∧ InR .i64 s.2.2.1.e8 ∧ InR .i64 s.2.2.1.e9 ∧ InR .i64 s.2.2.1.e10 ∧ OMap (aggK qcv) (oneV (pI .i64)) m110 c126 s.2.2.2 M127) (fun (b:(Arr11_Int × (List (Reading × Int)) × (List (Reading)))) e a w=>e = (.exit 2) ∧ ∃ m324 c336 M337 c339 M340,m71.le m324 ∧ Ok u m324 ([(b86,oc 129 [vi b.1.e0,vi b.1.e1,vi b.1.e2,vi b.1.e3,vi b.1.e4,vi b.1.e5,vi b.1.e6,vi b.1.e7,vi b.1.e8,vi b.1.e9,vi b.1.e10])] :: M80 :: M77 :: [(b30,oc 75 [c76,c79])] :: M340 :: M337 :: [(b19,oc 75 [(Value.slice none 0 0),(Value.slice none 0 0)])] :: [(b18,oc 89 [vi start_0.phase,vi start_0.trackers.e0.a,vi start_0.trackers.e0.b,vi start_0.trackers.e1.a,vi start_0.trackers.e1.b,vi start_0.trackers.e2.a,vi start_0.trackers.e2.b,vi start_0.trackers.e3.a,vi start_0.trackers.e3.b,vi start_0.trackers.e4.a,vi start_0.trackers.e4.b,vi start_0.trackers.e5.a,vi start_0.trackers.e5.b])] :: [(pb0,oc 66 [c14])] :: [(pb1,oc 23 [c16])] :: S) w ∧ Env 76 a [(1,(Value.func (.func 49) #[] #[.pointer (some ⟨pb0,0,none⟩)])),(2,(Value.func (.func 51) #[] #[.pointer (some ⟨pb1,0,none⟩),.pointer (some ⟨pb0,0,none⟩)])),(6,vp b19),(7,c336),(8,c339),(9,vp b30),(10,vi v68),(11,vp b86)] ∧ InR .i64 b.1.e0 ∧ InR .i64 b.1.e1 ∧ InR .i64 b.1.e2 ∧ InR .i64 b.1.e3 ∧ InR .i64 b.1.e4 ∧ InR .i64 b.1.e5 ∧ InR .i64 b.1.e6 ∧ InR .i64 b.1.e7 ∧ InR .i64 b.1.e8 ∧ InR .i64 b.1.e9 ∧ InR .i64 b.1.e10 ∧ OMap (aggK qcv) (oneV (pI .i64)) m324 c336 b.2.1 M337 ∧ ORow 89 13 qcv m324 c339 b.2.2 M340) ?_ ?_ N _ a w hL ⟨m71,c72,M73,c82,M83,Mem.le.refl _,ok,E.keep [1,2,6,7,8,9,10,11,27],h74,(ir 0),(ir 0),(ir 0),(ir 0),(ir 0),(ir 0),(ir 0),(ir 0),(ir 0),(ir 0),(ir 0),(ir 0),h84⟩
 rotate_left
 ·as_aux_lemma =>
   intro e a w _ hO
   obtain ⟨rfl,m225,c237,M238,c240,M241,hle,ok,E,r226,r227,r228,r229,r230,r231,r232,r233,r234,r235,r236,h239,h242⟩:=hO
   have le_m0:=le_m0.trans hle
   have h15:=(mL qaf).up hle h15
   have h17:=(mL (mL qaf)).up hle h17
   have h78:=ORow.up qbh hle h78
   have h81:=ORow.up mB hle h81
   refine qaM<|qaa<|sg<|fk E ok qf0 qih rfl 3 rfl rfl fun a E=>lv E ok (qag (cs:=[vi o109.1.e0,vi o109.1.e1,vi o109.1.e2,vi o109.1.e3,vi o109.1.e4,vi o109.1.e5,vi o109.1.e6,vi o109.1.e7,vi o109.1.e8,vi o109.1.e9,vi o109.1.e10]) qiR rfl rfl (qab.own 0 rfl rfl)) fun a E=>qaW (R:=qbw) (xo:=[.tmp 60]) (xs:=([o109.1]:List (Arr11_Int))) E ok qgU qfj rfl ⟨⟨_,rfl,rfl,⟨rfl,r226,r227,r228,r229,r230,r231,r232,r233,r234,r235,r236⟩⟩,trivial⟩ rfl rfl rfl rfl fun c243 M244 a w E ok h245=>bd hF fun l246 e247 hF=>qbo (R:=qbw) E ok 3 qbh qgU Tryz.underlying73 rfl h78 (qa0.ofRow h245 0 rfl ok) e247 ⟨_,qfj,rfl⟩ rfl rfl rfl rfl fun c248 M249 a w E ok h250=>fv E qf0 rfl fun a E=>qad E ok 4 rfl rfl rfl qn4 (ORow.cells h250) rfl ⟨(ORow.one h250),trivial⟩ rfl rfl fun w ok=>wn<|bd hF fun o251 hJ hF=>qaG (Q':=fun e a w=>e = .normal ∧ ∃ c252 M253 c255 M256,Ok u m225 (M244 :: [(b86,oc 129 [vi o109.1.e0,vi o109.1.e1,vi o109.1.e2,vi o109.1.e3,vi o109.1.e4,vi o109.1.e5,vi o109.1.e6,vi o109.1.e7,vi o109.1.e8,vi o109.1.e9,vi o109.1.e10])] :: M256 :: M253 :: [(b30,oc 75 [c252,c255])] :: M241 :: M238 :: [(b19,oc 75 [(Value.slice none 0 0),(Value.slice none 0 0)])] :: [(b18,oc 89 [vi start_0.phase,vi start_0.trackers.e0.a,vi start_0.trackers.e0.b,vi start_0.trackers.e1.a,vi start_0.trackers.e1.b,vi start_0.trackers.e2.a,vi start_0.trackers.e2.b,vi start_0.trackers.e3.a,vi start_0.trackers.e3.b,vi start_0.trackers.e4.a,vi start_0.trackers.e4.b,vi start_0.trackers.e5.a,vi start_0.trackers.e5.b])] :: [(pb0,oc 66 [c14])] :: [(pb1,oc 23 [c16])] :: S) w ∧ Env 76 a [(1,(Value.func (.func 49) #[] #[.pointer (some ⟨pb0,0,none⟩)])),(2,(Value.func (.func 51) #[] #[.pointer (some ⟨pb1,0,none⟩),.pointer (some ⟨pb0,0,none⟩)])),(6,vp b19),(7,c237),(8,c240),(9,vp b30),(10,vi v68)] ∧ ORow 129 11 qbw m225 c252 o251.next M253 ∧ ORow 4 1 pB m225 c255 o251.accept M256) ?_ ?_
   rotate_left
   ·intro e a w hO
    obtain ⟨rfl,c318,M319,c321,M322,ok,E,h320,h323⟩:=hO
    refine qal<|qaa<|qac<|mv E rfl fun a E=>lw E (qaw rfl rfl (InR.inc r75 (ORow.InR h74) c85)) fun a E=>av E rfl fun a E=>wpList_nil ?_
    cases hF
    exact qas ⟨m225,c240,M241,c318,M319,c321,M322,c237,M238,le_m0,(ok.pk 11 [2,3,4,5,6,7,8,9,10] rfl (by decide)),E.keep [1,2,6,7,8,9,10],h242,(InR.inc r75 (ORow.InR h74) c85),h320,h323,h239⟩
   have hF:=hJ
   obtain ⟨x258,e259,hF⟩:=bnd hF
   obtain ⟨r281,e282,hF⟩:=bnd hF
   obtain ⟨l286,e287,hF⟩:=bnd hF
   obtain rfl:=sj hF
   refine qaY [1,6] (Cls u m225 (M244 :: [(b86,oc 129 [vi o109.1.e0,vi o109.1.e1,vi o109.1.e2,vi o109.1.e3,vi o109.1.e4,vi o109.1.e5,vi o109.1.e6,vi o109.1.e7,vi o109.1.e8,vi o109.1.e9,vi o109.1.e10])] :: M249 :: [(b30,oc 75 [c248,c79])] :: M241 :: M238 :: [(b19,oc 75 [(Value.slice none 0 0),(Value.slice none 0 0)])] :: [(b18,oc 89 [vi start_0.phase,vi start_0.trackers.e0.a,vi start_0.trackers.e0.b,vi start_0.trackers.e1.a,vi start_0.trackers.e1.b,vi start_0.trackers.e2.a,vi start_0.trackers.e2.b,vi start_0.trackers.e3.a,vi start_0.trackers.e3.b,vi start_0.trackers.e4.a,vi start_0.trackers.e4.b,vi start_0.trackers.e5.a,vi start_0.trackers.e5.b])] :: [(pb0,oc 66 [c14])] :: [(pb1,oc 23 [c16])] :: [])) (Cls u m225 (M244 :: [(b86,oc 129 [vi o109.1.e0,vi o109.1.e1,vi o109.1.e2,vi o109.1.e3,vi o109.1.e4,vi o109.1.e5,vi o109.1.e6,vi o109.1.e7,vi o109.1.e8,vi o109.1.e9,vi o109.1.e10])] :: M249 :: M241 :: M238 :: [(b19,oc 75 [(Value.slice none 0 0),(Value.slice none 0 0)])] :: [(b18,oc 89 [vi start_0.phase,vi start_0.trackers.e0.a,vi start_0.trackers.e0.b,vi start_0.trackers.e1.a,vi start_0.trackers.e1.b,vi start_0.trackers.e2.a,vi start_0.trackers.e2.b,vi start_0.trackers.e3.a,vi start_0.trackers.e3.b,vi start_0.trackers.e4.a,vi start_0.trackers.e4.b,vi start_0.trackers.e5.a,vi start_0.trackers.e5.b])] :: [(pb0,oc 66 [c14])] :: [(pb1,oc 23 [c16])] :: [])) (by kernel_rfl) ?_
   intro w hw
   replace ok:=qbd ok hw
   clear hw
   have le_m225:=Mem.le.refl m225
   refine qai (cl1 (cq le_m225 ok [0,1,3,4,5,6,7,8,9,10] rfl) (cq le_m225 ok [0,1,3,5,6,7,8,9,10] rfl)) fun hT=>kt 0 E rfl hT (qae qgS rfl) fun a E=>qaS 1 E rfl (by kernel_rfl) nP hT (qaj qd3 rfl (qab.cown 3 rfl rfl)) rfl rfl fun a E=>kt 2 E rfl hT (qah rfl) fun a E=>kt 3 E rfl hT (qah rfl) fun a E=>kt 4 E rfl hT (qah rfl) fun a E=>?_
   obtain ⟨b291,o292,hp293,yy294⟩:=qbR qi5 h242 e259 (P:=Tryz.prog) (X:=.tmp 67) (I:=.tmp 68) (kd:=.i64) (qaT E rfl) (qaT E rfl)
   refine kt 5 E rfl hT (yy294 _ _) fun a E=>?_
   obtain ⟨es295,hl296,rr297,hh298⟩:=qb9 h242 e259 hp293 (by decide)
   obtain ⟨rfl,r299,r300,r301,r302,r303,r304,r305,r306,r307,r308,r309,r310,r311⟩:=rr297
   refine qaS 6 E rfl (by kernel_rfl) nP hT (qag (cs:=[vi x258.phase,vi x258.trackers.e0.a,vi x258.trackers.e0.b,vi x258.trackers.e1.a,vi x258.trackers.e1.b,vi x258.trackers.e2.a,vi x258.trackers.e2.b,vi x258.trackers.e3.a,vi x258.trackers.e3.b,vi x258.trackers.e4.a,vi x258.trackers.e4.b,vi x258.trackers.e5.a,vi x258.trackers.e5.b]) qdh rfl rfl (qab.crow hh298 4 rfl)) rfl rfl fun a E=>qao [7] (by kernel_rfl) rfl (qar ?_)
   ·refine qbm (o:=_) rfl ?_
    replace ok:Ok u m225 ([(pb1,oc 23 [c16])] :: [(pb0,oc 66 [c14])] :: M244 :: [(b86,oc 129 [vi o109.1.e0,vi o109.1.e1,vi o109.1.e2,vi o109.1.e3,vi o109.1.e4,vi o109.1.e5,vi o109.1.e6,vi o109.1.e7,vi o109.1.e8,vi o109.1.e9,vi o109.1.e10])] :: M80 :: M249 :: [(b30,oc 75 [c248,c79])] :: M241 :: M238 :: [(b19,oc 75 [(Value.slice none 0 0),(Value.slice none 0 0)])] :: [(b18,oc 89 [vi start_0.phase,vi start_0.trackers.e0.a,vi start_0.trackers.e0.b,vi start_0.trackers.e1.a,vi start_0.trackers.e1.b,vi start_0.trackers.e2.a,vi start_0.trackers.e2.b,vi start_0.trackers.e3.a,vi start_0.trackers.e3.b,vi start_0.trackers.e4.a,vi start_0.trackers.e4.b,vi start_0.trackers.e5.a,vi start_0.trackers.e5.b])] :: S) w:=(ok.pk 11 [10,9,0,1,2,3,4,5,6,7,8] rfl (by decide))
    refine qgW E rfl qsz rfl (qkw N _ x258 ⟨rfl,r299,r300,r301,r302,r303,r304,r305,r306,r307,r308,r309,r310,r311⟩ x1 h17 x0 h15 e282 hG ok) rfl rfl ?_
    rintro _ w ⟨rfl,ok⟩
    refine ⟨_,rfl,fun a E=>?_⟩
    refine wn<|qai (cl1 (cq le_m225 ok [2,3,5,6,7,8,9,10,1,0] rfl) (cq le_m225 ok [2,3,5,7,8,9,10,1,0] rfl)) fun hT=>qao [8] (by kernel_rfl) rfl (qar ?_)
    ·refine wo rfl<|qaW (R:=pB) (xo:=[.tmp 71]) (xs:=([r281]:List (Bool))) E ok qce qdD rfl ⟨⟨_,rfl,rfl,qgB⟩,trivial⟩ rfl rfl rfl rfl fun c312 M313 a w E ok h314=>wn<|qai (cl1 (cq le_m225 ok [3,4,6,7,8,9,10,11,2,1] rfl) (cq le_m225 ok [3,4,6,8,9,10,11,2,1] rfl)) fun hT=>qao [9] (by kernel_rfl) rfl (qar ?_)
     ·refine wo rfl<|qbo (R:=pB) E ok 5 mB qce Tryz.underlying32 rfl h81 (qa0.ofRow h314 0 rfl ok) e287 ⟨_,qdD,rfl⟩ rfl rfl rfl rfl fun c315 M316 a w E ok h317=>wn<|qai (cl1 (cq le_m225 ok [3,4,6,7,8,9,10,11,2,1] rfl) (cq le_m225 ok [3,4,6,8,9,10,11,2,1] rfl)) fun hT=>kt 10 E rfl hT (qae qgS rfl) fun a E=>qao [11] (by kernel_rfl) rfl (qar ?_)
      ·refine wo rfl<|qad E ok 7 rfl rfl rfl qhd (ORow.cells h317) rfl ⟨(ORow.one h317),trivial⟩ rfl rfl fun w ok=>wn<|qai (cl2 (by kernel_rfl) (cq le_m225 ok [3,4,6,8,9,10,11,2,1] rfl)) fun hT=>qaV (by kernel_rfl) ?_
       exact ⟨rfl,⟨c248,M249,c315,M316,(ok.pk 12 [3,4,5,6,7,8,9,10,11,2,1] rfl (by decide)),E.keep [1,2,6,7,8,9,10],h250,h317⟩⟩
 rintro ⟨v129,v130,v131,v132⟩ a w r ⟨m133,c134,M135,c149,M150,hle,ok,E,h136,r137,r138,r139,r140,r141,r142,r143,r144,r145,r146,r147,r148,h151⟩ hF
 replace hF:qa7 N x0 v68 v129 v130 v131 v132 = some r:=hF
 unfold qa7 at hF
 have le_m71:=Mem.le.refl m71
 have le_m0:=le_m0.trans hle
 have le_m71:=le_m71.trans hle
 have h15:=(mL qaf).up hle h15
 have h17:=(mL (mL qaf)).up hle h17
 have h78:=ORow.up qbh hle h78
 have h81:=ORow.up mB hle h81
 refine sg<|lw E (qav rfl rfl) fun a E=>wn<|wp_seq<|cg E rfl hF (fun c152 hF=>?_) fun c152 hF=>?_
 ·refine wp_exit<|qaA ?_
  cases hF
  exact so (⟨rfl,⟨m133,c149,M150,c134,M135,le_m71,ok,E.keep [1,2,6,7,8,9,10,11],r138,r139,r140,r141,r142,r143,r144,r145,r146,r147,r148,h151,h136⟩⟩)
 refine wp_skip<|qaa<|wp_seq<|wp_block<|sg<|mv E rfl fun a E=>av E rfl fun a E=>wn<|sg<|mz E rfl rfl fun a E=>mv E rfl fun a E=>?_
 obtain ⟨x153,e154,hF⟩:=bnd hF
 obtain ⟨b155,o156,hp157,yy158⟩:=qbR qi5 h136 e154 (P:=Tryz.prog) (X:=.tmp 31) (I:=.tmp 32) (kd:=.i64) (qaT E rfl) (qaT E rfl)
 refine lv E ok (yy158 _ _) fun a E=>?_
 obtain ⟨es159,hl160,rr161,hh162⟩:=qb9 h136 e154 hp157 (by decide)
 obtain ⟨rfl,r163,r164,r165,r166,r167,r168,r169,r170,r171,r172,r173,r174,r175⟩:=rr161
 refine lv E ok (qag (cs:=[vi x153.phase,vi x153.trackers.e0.a,vi x153.trackers.e0.b,vi x153.trackers.e1.a,vi x153.trackers.e1.b,vi x153.trackers.e2.a,vi x153.trackers.e2.b,vi x153.trackers.e3.a,vi x153.trackers.e3.b,vi x153.trackers.e4.a,vi x153.trackers.e4.b,vi x153.trackers.e5.a,vi x153.trackers.e5.b]) qdh rfl rfl (hh162 _ _ _ 4 rfl)) fun a E=>mv E rfl fun a E=>?_
 obtain ⟨r176,e177,hF⟩:=bnd hF
 replace ok:Ok u m133 ([(pb0,oc 66 [c14])] :: [(b86,oc 129 [vi v131.e0,vi v131.e1,vi v131.e2,vi v131.e3,vi v131.e4,vi v131.e5,vi v131.e6,vi v131.e7,vi v131.e8,vi v131.e9,vi v131.e10])] :: M80 :: M77 :: [(b30,oc 75 [c76,c79])] :: M135 :: M150 :: [(b19,oc 75 [(Value.slice none 0 0),(Value.slice none 0 0)])] :: [(b18,oc 89 [vi start_0.phase,vi start_0.trackers.e0.a,vi start_0.trackers.e0.b,vi start_0.trackers.e1.a,vi start_0.trackers.e1.b,vi start_0.trackers.e2.a,vi start_0.trackers.e2.b,vi start_0.trackers.e3.a,vi start_0.trackers.e3.b,vi start_0.trackers.e4.a,vi start_0.trackers.e4.b,vi start_0.trackers.e5.a,vi start_0.trackers.e5.b])] :: [(pb1,oc 23 [c16])] :: S) w:=(ok.pk 10 [8,0,1,2,3,4,5,6,7,9] rfl (by decide))
 refine qgW E rfl qsE rfl (qkt N _ x153 ⟨rfl,r163,r164,r165,r166,r167,r168,r169,r170,r171,r172,r173,r174,r175⟩ v130 r137 x0 h15 e177 hG ok) rfl rfl ?_
 rintro _ w ⟨m178,vs179,rfl,hle,ok,h180⟩
 have le_m0:=le_m0.trans hle
 have le_m71:=le_m71.trans hle
 have h15:=(mL qaf).up hle h15
 have h17:=(mL (mL qaf)).up hle h17
 have h78:=ORow.up qbh hle h78
 have h81:=ORow.up mB hle h81
 have h136:=ORow.up qnT hle h136
 have h151:=OMap.up (qgr (mI .i64)) hle h151
 obtain ⟨rfl,r181,r182,r183,r184,r185,r186,r187,r188,r189,r190,r191,r192,r193⟩:=h180
 refine ⟨_,rfl,fun a E=>?_⟩
 refine qax E ok qfU rfl rfl fun b194 a w E ok=>qad E ok 0 rfl rfl rfl qgM rfl rfl ⟨rfl,rfl,rfl,rfl,rfl,rfl,rfl,rfl,rfl,rfl,rfl,rfl,rfl,trivial⟩ rfl rfl fun w ok=>wn<|sg<|mv E rfl fun a E=>lv E ok (qag (cs:=[vi r176.phase,vi r176.trackers.e0.a,vi r176.trackers.e0.b,vi r176.trackers.e1.a,vi r176.trackers.e1.b,vi r176.trackers.e2.a,vi r176.trackers.e2.b,vi r176.trackers.e3.a,vi r176.trackers.e3.b,vi r176.trackers.e4.a,vi r176.trackers.e4.b,vi r176.trackers.e5.a,vi r176.trackers.e5.b]) qdh rfl rfl (qab.own 0 rfl rfl)) fun a E=>?_
 obtain ⟨xv195,h196,yy197,yy198⟩:=qmI (P:=Tryz.prog) (mo:=.tmp 38) (ko:=.tmp 39) (zx:=(0:Int)) ok 7 qmL Tryz.underlying137 h151 rfl (qaT E rfl) (qaT E rfl) ⟨m0,_,rfl,⟨rfl,r181,r182,r183,r184,r185,r186,r187,r188,r189,r190,r191,r192,r193⟩⟩ qlD (qaX (ir 0))
 obtain ⟨rfl,r199⟩:=qin h196
 refine lv E ok (yy198 _) fun a E=>mv E rfl fun a E=>lw E (qaR rfl rfl) fun a E=>lw E (qaR rfl rfl) fun a E=>av E rfl fun a E=>aw E rfl fun a E=>wp_seq<|sg<|mv E rfl fun a E=>lw E (qbu rfl) fun a E=>wn<|cg E rfl hF (fun c200 hF=>?_) fun c200 hF=>?_
 ·refine wp_skip<|qaa<|qac<|mz E rfl rfl fun a E=>?_
  obtain ⟨x219,e220,hF⟩:=bnd hF
  replace e220:idx (Arr11_Int.list v131) v130 = some x219:=e220
  refine lv E ok (qb4 qhs rfl rfl (qaN e220).1 (qaN e220).2) fun a E=>?_
  obtain ⟨z221,e222,hF⟩:=bnd hF
  have h223:=Arr11_Int.set_list e222
  have h224:=AllP.setI (q:=(InR .i64)) (xs:=Arr11_Int.list v131) ⟨r138,r139,r140,r141,r142,r143,r144,r145,r146,r147,r148,trivial⟩ r199 h223
  refine qed (c:=[vi v131.e0,vi v131.e1,vi v131.e2,vi v131.e3,vi v131.e4,vi v131.e5,vi v131.e6,vi v131.e7,vi v131.e8,vi v131.e9,vi v131.e10]) (c':=[vi z221.e0,vi z221.e1,vi z221.e2,vi z221.e3,vi z221.e4,vi z221.e5,vi z221.e6,vi z221.e7,vi z221.e8,vi z221.e9,vi z221.e10]) E ok 2 rfl rfl rfl qaZ rfl rfl ⟨rfl,trivial⟩ (qh7 (n:=11) (qaN e220).2 (Nat.le_of_ble_eq_true rfl)) (qju (f:=(Value.int .i64)) (pre:=[]) (post:=[]) (xs:=Arr11_Int.list v131) (ys:=z221.list) rfl h223) rfl fun w ok=>wpList_nil<|qal<|qaa<|qac<|lw E (qaw rfl rfl (InR.inc r137 (ir 11) c152)) fun a E=>mv E rfl fun a E=>wpList_nil ?_
  cases hF
  exact qas ⟨m178,c134,M135,c149,M150,le_m71,(ok.pk 11 [2,3,4,5,6,7,8,9,1,10] rfl (by decide)),E.keep [1,2,6,7,8,9,10,11,27],h136,(InR.inc r137 (ir 11) c152),h224.1,h224.2.1,h224.2.2.1,h224.2.2.2.1,h224.2.2.2.2.1,h224.2.2.2.2.2.1,h224.2.2.2.2.2.2.1,h224.2.2.2.2.2.2.2.1,h224.2.2.2.2.2.2.2.2.1,h224.2.2.2.2.2.2.2.2.2.1,h224.2.2.2.2.2.2.2.2.2.2.1,h151⟩
 refine sg<|mv E rfl fun a E=>lv E ok (qcF qi5 h136 rfl) fun a E=>aw E rfl fun a E=>sg<|mv E rfl fun a E=>lv E ok (qag (cs:=[vi r176.phase,vi r176.trackers.e0.a,vi r176.trackers.e0.b,vi r176.trackers.e1.a,vi r176.trackers.e1.b,vi r176.trackers.e2.a,vi r176.trackers.e2.b,vi r176.trackers.e3.a,vi r176.trackers.e3.b,vi r176.trackers.e4.a,vi r176.trackers.e4.b,vi r176.trackers.e5.a,vi r176.trackers.e5.b]) qdh rfl rfl (qab.own 0 rfl rfl)) fun a E=>mv E rfl fun a E=>bd hF fun l201 e202 hF=>qim (.inl rfl) E ok 7 qmL Tryz.underlying137 h151 rfl rfl rfl rfl ⟨m0,_,rfl,⟨rfl,r181,r182,r183,r184,r185,r186,r187,r188,r189,r190,r191,r192,r193⟩⟩ (qaX (ORow.InR h136)) e202 rfl fun M203 w ok h204=>wn<|qac<|mv E rfl fun a E=>lv E ok (qag (cs:=[vi r176.phase,vi r176.trackers.e0.a,vi r176.trackers.e0.b,vi r176.trackers.e1.a,vi r176.trackers.e1.b,vi r176.trackers.e2.a,vi r176.trackers.e2.b,vi r176.trackers.e3.a,vi r176.trackers.e3.b,vi r176.trackers.e4.a,vi r176.trackers.e4.b,vi r176.trackers.e5.a,vi r176.trackers.e5.b]) qdh rfl rfl (qab.own 0 rfl rfl)) fun a E=>qaW (R:=qcv) (xo:=[.tmp 51]) (xs:=([r176]:List (Reading))) E ok qi5 qfU rfl ⟨⟨_,rfl,rfl,⟨rfl,r181,r182,r183,r184,r185,r186,r187,r188,r189,r190,r191,r192,r193⟩⟩,trivial⟩ rfl rfl rfl rfl fun c205 M206 a w E ok h207=>?_
 refine bd hF fun l208 e209 hF=>qbo (R:=qcv) E ok 7 qnT qi5 Tryz.underlying138 rfl h136 (qa0.ofRow h207 0 rfl ok) e209 ⟨_,qfU,rfl⟩ rfl rfl rfl rfl fun c210 M211 a w E ok h212=>aw E rfl fun a E=>qac<|mz E rfl rfl fun a E=>?_
 obtain ⟨x213,e214,hF⟩:=bnd hF
 replace e214:idx (Arr11_Int.list v131) v130 = some x213:=e214
 refine lv E ok (qb4 qhs rfl rfl (qaN e214).1 (qaN e214).2) fun a E=>?_
 obtain ⟨z215,e216,hF⟩:=bnd hF
 have h217:=Arr11_Int.set_list e216
 have h218:=AllP.setI (q:=(InR .i64)) (xs:=Arr11_Int.list v131) ⟨r138,r139,r140,r141,r142,r143,r144,r145,r146,r147,r148,trivial⟩ (ORow.InR h136) h217
 refine qed (c:=[vi v131.e0,vi v131.e1,vi v131.e2,vi v131.e3,vi v131.e4,vi v131.e5,vi v131.e6,vi v131.e7,vi v131.e8,vi v131.e9,vi v131.e10]) (c':=[vi z215.e0,vi z215.e1,vi z215.e2,vi z215.e3,vi z215.e4,vi z215.e5,vi z215.e6,vi z215.e7,vi z215.e8,vi z215.e9,vi z215.e10]) E ok 3 rfl rfl rfl qaZ rfl rfl ⟨rfl,trivial⟩ (qh7 (n:=11) (qaN e214).2 (Nat.le_of_ble_eq_true rfl)) (qju (f:=(Value.int .i64)) (pre:=[]) (post:=[]) (xs:=Arr11_Int.list v131) (ys:=z215.list) rfl h217) rfl fun w ok=>wpList_nil<|qal<|qaa<|qac<|lw E (qaw rfl rfl (InR.inc r137 (ir 11) c152)) fun a E=>mv E rfl fun a E=>wpList_nil ?_
 cases hF
 exact qas ⟨m178,c210,M211,c149,M203,le_m71,(ok.pk 12 [3,4,5,6,7,8,9,10,2,11] rfl (by decide)),E.keep [1,2,6,7,8,9,10,11,27],h212,(InR.inc r137 (ir 11) c152),h218.1,h218.2.1,h218.2.2.1,h218.2.2.2.1,h218.2.2.2.2.1,h218.2.2.2.2.2.1,h218.2.2.2.2.2.2.1,h218.2.2.2.2.2.2.2.1,h218.2.2.2.2.2.2.2.2.1,h218.2.2.2.2.2.2.2.2.2.1,h218.2.2.2.2.2.2.2.2.2.2.1,h204⟩
def qld (u:World) (m0:Mem) (S:Segs) (r:DFA × Int) (a:Act) (w:World):Prop :=
 ∃ m1 v0,m0.le m1 ∧ Ok u m1 S w ∧ a.defers = [] ∧ RVs Tryz.prog a w [.c 2 35 (.agg v0.toArray),.t 3 (.int .i64 r.2)] ∧ pDFA m1 v0 r.1 ∧ InR .i64 r.2
theorem qgL (N:Nat) (vc_0:Value) (c_0:List (List (Relation))) (hc_0:(pL 1 (pL 4 qap)) m0 [vc_0] c_0) {r:DFA × Int} (hF:qb5 N c_0 = some r) (hG:Glob u) (ok:Ok u m0 S w) :
  Calls Tryz.prog 17 [vc_0].toArray w fun e w'=>∃ m1 v0,e = .returned (.tuple [(.agg v0.toArray),(.int .i64 r.2)].toArray) ∧ m0.le m1 ∧ Ok u m1 S w' ∧ pDFA m1 v0 r.1 ∧ InR .i64 r.2:=by
 have le_m0:=Mem.le.refl m0
 unfold qb5 at hF
 refine en (qld u m0 S) r Tryz.func17 rfl rfl rfl (by rintro a w ⟨m1,v0,hle,ok,hd,hrv,h0,h1⟩; exact qbG [.c 2 35 (.agg v0.toArray),.t 3 (.int .i64 r.2)] hd rfl hrv ⟨m1,v0,rfl,hle,ok,h0,h1⟩) fun fin a E=>sg<|qn5 (cs:=[vc_0]) E ok rfl (qbW hc_0) rfl rfl fun b1 a w E ok=>qax E ok qfV rfl rfl fun b2 a w E ok=>aw E rfl fun a E=>sg<|ld E ok qfh 1 rfl rfl rfl fun a E=>bd hF fun r3 e4 hF=>qan E qoO rfl (qhx N _ c_0 hc_0 e4 hG ok) rfl rfl ?_
 rintro _ w ⟨⟨rfl,ok⟩,r5,r6⟩
 refine ⟨_,rfl,fun a E=>?_⟩
 refine mv E rfl fun a E=>lw E (qaR rfl rfl) fun a E=>lw E (qaR rfl rfl) fun a E=>av E rfl fun a E=>aw E rfl fun a E=>wp_seq<|wp_block<|sg<|mv E rfl fun a E=>lw E (qb7 rfl rfl) fun a E=>aw E rfl fun a E=>cf E rfl hF (fun c7 hF=>?_) fun c7 hF=>?_
 ·refine sg<|lw E (qaF (ps:=[]) (qs:=[]) (cs:=[vi 0,(Value.slice none 0 0),(Value.slice none 0 0)]) qfV qjo rfl trivial rfl) fun a E=>mv E rfl fun a E=>qad E ok 0 rfl rfl rfl qg6 rfl rfl ⟨rfl,rfl,rfl,trivial⟩ rfl rfl fun w ok=>aw E rfl fun a E=>wp_ret<|qaz<|qaq ?_
  exact fin hF ⟨m0,[vi 0,(Value.slice none 0 0),(Value.slice none 0 0)],le_m0,ok.drop.drop,E.d,⟨rv_c (cs:=[vi 0,(Value.slice none 0 0),(Value.slice none 0 0)]) E ok rfl qha rfl (qab.own 0 rfl rfl),rv_t E rfl,trivial⟩,⟨_,_,rfl,(ir 0),qeO,qeO⟩,r6⟩
 refine sg<|mv E rfl fun a E=>lw E (qb1 rfl rfl) fun a E=>aw E rfl fun a E=>cf E rfl hF (fun c8 hF=>?_) fun c8 hF=>?_
 ·refine sg<|lw E (qaF (ps:=[]) (qs:=[]) (cs:=[vi 0,(Value.slice none 0 0),(Value.slice none 0 0)]) qfV qjo rfl trivial rfl) fun a E=>qad E ok 0 rfl rfl rfl qg6 rfl rfl ⟨rfl,rfl,rfl,trivial⟩ rfl rfl fun w ok=>aw E rfl fun a E=>wp_ret<|qaz<|qaq ?_
  exact fin hF ⟨m0,[vi 0,(Value.slice none 0 0),(Value.slice none 0 0)],le_m0,ok.drop.drop,E.d,⟨rv_c (cs:=[vi 0,(Value.slice none 0 0),(Value.slice none 0 0)]) E ok rfl qha rfl (qab.own 0 rfl rfl),rv_t E rfl,trivial⟩,⟨_,_,rfl,(ir 0),qeO,qeO⟩,(ir 6)⟩
 refine wp_skip<|qal<|qaa<|sg<|ld E ok qfh 1 rfl rfl rfl fun a E=>bd hF fun r9 e10 hF=>qan E qqp rfl (qif N _ c_0 hc_0 e10 hG ok) rfl rfl ?_
 rintro _ w ⟨m11,c12,rfl,hle,ok,h13⟩
 have le_m0:=le_m0.trans hle
 have hc_0:=(mL (mL qaf)).up hle hc_0
 refine ⟨_,rfl,fun a E=>?_⟩
 refine qax E ok qop rfl rfl fun b14 a w E ok=>qad E ok 0 rfl rfl rfl qnE (qbW h13) rfl ⟨(qa5 h13),trivial⟩ rfl rfl fun w ok=>wn<|sg<|lw E (qaF (ps:=[]) (qs:=[]) (cs:=[vi 0,vi 0,vi 0,vi 0,vi 0,vi 0,vi 0,vi 0,vi 0,vi 0,vi 0,vi 0,vi 0]) qfU qii rfl trivial rfl) fun a E=>lv E ok (qez (caps:=[.tmp 6]) rfl) fun a E=>lv E ok (qez (caps:=[.tmp 1,.tmp 6]) rfl) fun a E=>?_
 obtain ⟨r15,e16,hF⟩:=bnd hF
 replace ok:Ok u m11 ([(b14,oc 66 [c12])] :: [(b1,oc 23 [vc_0])] :: [(b2,oc 35 [vi 0,(Value.slice none 0 0),(Value.slice none 0 0)])] :: S) w:=(ok.pk 3 [0,2,1] rfl (by decide))
 refine qan E qsy rfl (qgo N _ (Reading.mk 0 (Arr6_Tracker.mk (Tracker.mk 0 0) (Tracker.mk 0 0) (Tracker.mk 0 0) (Tracker.mk 0 0) (Tracker.mk 0 0) (Tracker.mk 0 0))) ⟨rfl,(ir 0),(ir 0),(ir 0),(ir 0),(ir 0),(ir 0),(ir 0),(ir 0),(ir 0),(ir 0),(ir 0),(ir 0),(ir 0)⟩ r9 h13 c_0 hc_0 e16 hG ok) rfl rfl ?_
 rintro _ w ⟨m17,vs18,rfl,hle,ok,h19⟩
 have le_m0:=le_m0.trans hle
 have hc_0:=(mL (mL qaf)).up hle hc_0
 have h13:=(mL qaf).up hle h13
 obtain ⟨c20,c22,rfl,h21,h23⟩:=h19
 refine ⟨_,rfl,fun a E=>?_⟩
 refine bd hF fun r24 e25 hF=>qan E qqs rfl (qhp N _ r15 ⟨_,_,rfl,h21,h23⟩ e25 hG ok) rfl rfl ?_
 rintro _ w ⟨m26,vs27,rfl,hle,ok,h28⟩
 have le_m0:=le_m0.trans hle
 have hc_0:=(mL (mL qaf)).up hle hc_0
 have h13:=(mL qaf).up hle h13
 have h21:=(mL qbh).up hle h21
 have h23:=(mL mB).up hle h23
 obtain ⟨c29,c31,rfl,h30,h32⟩:=h28
 refine ⟨_,rfl,fun a E=>?_⟩
 refine qax E ok qhn rfl rfl fun b33 a w E ok=>qad E ok 0 rfl rfl rfl qlh rfl rfl ⟨(qa5 h30),(qa5 h32),trivial⟩ rfl rfl fun w ok=>wn<|wp_seq<|sg<|fv E qf0 rfl fun a E=>ld E ok qih 0 rfl rfl rfl fun a E=>lv E ok (qaD qgU h30 rfl) fun a E=>lw E (qb1 rfl rfl) fun a E=>wn<|cf E rfl hF (fun c34 hF=>?_) fun c34 hF=>?_
 ·refine sg<|lw E (qaF (ps:=[]) (qs:=[]) (cs:=[vi 0,(Value.slice none 0 0),(Value.slice none 0 0)]) qfV qjo rfl trivial rfl) fun a E=>qad E ok 3 rfl rfl rfl qg6 rfl rfl ⟨rfl,rfl,rfl,trivial⟩ rfl rfl fun w ok=>aw E rfl fun a E=>wp_ret<|qaq ?_
  exact fin hF ⟨m26,[vi 0,(Value.slice none 0 0),(Value.slice none 0 0)],le_m0,ok.drop.drop.drop.drop,E.d,⟨rv_c (cs:=[vi 0,(Value.slice none 0 0),(Value.slice none 0 0)]) E ok rfl qha rfl (qab.own 3 rfl rfl),rv_t E rfl,trivial⟩,⟨_,_,rfl,(ir 0),qeO,qeO⟩,(ir 6)⟩
 refine wp_skip<|qaa<|sg<|lv E ok (qag (cs:=[c29,c31]) qid rfl rfl (qab.own 0 rfl rfl)) fun a E=>bd hF fun r35 e36 hF=>qan E qqv rfl (qig N _ r24 ⟨_,_,rfl,h30,h32⟩ e36 hG ok) rfl rfl ?_
 rintro _ w ⟨m37,vs38,rfl,hle,ok,h39⟩
 have le_m0:=le_m0.trans hle
 have hc_0:=(mL (mL qaf)).up hle hc_0
 have h13:=(mL qaf).up hle h13
 have h21:=(mL qbh).up hle h21
 have h23:=(mL mB).up hle h23
 have h30:=(mL qbh).up hle h30
 have h32:=(mL mB).up hle h32
 obtain ⟨c41,c43,rfl,r40,h42,h44⟩:=h39
 refine ⟨_,rfl,fun a E=>?_⟩
 refine qad E ok 3 rfl rfl rfl qg6 rfl rfl ⟨rfl,(qa5 h42),(qa5 h44),trivial⟩ rfl rfl fun w ok=>aw E rfl fun a E=>wp_ret ?_
 exact fin hF ⟨m37,[vi r35.Start,c41,c43],le_m0,ok.drop.drop.drop.drop,E.d,⟨rv_c (cs:=[vi r35.Start,c41,c43]) E ok rfl qha rfl (qab.own 3 rfl rfl),rv_t E rfl,trivial⟩,⟨_,_,rfl,r40,h42,h44⟩,(ir 0)⟩
def qi0 (u:World) (m0:Mem) (S:Segs) (r:DigitsRead) (a:Act) (w:World):Prop :=
 ∃ m1 v0,m0.le m1 ∧ Ok u m1 S w ∧ a.defers = [] ∧ RVs Tryz.prog a w [.c 4 78 (.agg v0.toArray)] ∧ qbZ m1 v0 r
theorem qi2 (N:Nat) (vs_0:List Value) (s_0:DigitsRead) (hs_0:qbZ m0 vs_0 s_0) (symbol_1:Int) (rsymbol_1:InR .i64 symbol_1) {r:DigitsRead} (hF:qfM N s_0 symbol_1 = some r) (hG:Glob u) (ok:Ok u m0 S w) :
  Calls Tryz.prog 42 [.agg vs_0.toArray,vi symbol_1].toArray w fun e w'=>∃ m1 v0,e = .returned (.agg v0.toArray) ∧ m0.le m1 ∧ Ok u m1 S w' ∧ qbZ m1 v0 r:=by
 obtain ⟨rfl,r1,r2⟩:=hs_0
 have le_m0:=Mem.le.refl m0
 unfold qfM at hF
 refine en (qi0 u m0 S) r Tryz.func42 rfl rfl rfl (by rintro a w ⟨m1,v0,hle,ok,hd,hrv,h0⟩; exact qbG [.c 4 78 (.agg v0.toArray)] hd rfl hrv ⟨m1,v0,rfl,hle,ok,h0⟩) fun fin a E=>sg<|qbz E ok rfl rfl rfl fun b3 a w E ok=>qax E ok qby rfl rfl fun b4 a w E ok=>wn<|wp_seq<|wp_block<|sg<|mv E rfl fun a E=>lw E (qau rfl rfl) fun a E=>mv E rfl fun a E=>bw E 8 hF (fun c5 hF E=>?_) fun c5 hF E=>?_
 ·as_aux_lemma =>
   refine lsq E fun a E=>ls E fun a E=>pf E rfl rfl fun a E=>aw E rfl fun a E=>c_if E rfl (fun h=>by cases h) (fun _=>?_)
   refine sg<|mv E rfl fun a E=>lw E (qau rfl rfl) fun a E=>mv E rfl fun a E=>bu E 17 hF (fun c19 hF E=>?_) fun c19 hF E=>?_
   ·refine lsq E fun a E=>ls E fun a E=>pt E rfl rfl fun a E=>mv E rfl fun a E=>lsq E fun a E=>pt E rfl rfl fun a E=>aw E rfl fun a E=>c_if E rfl (fun _=>?_) (fun h=>by cases h)
    refine sg<|lw E (qaF (ps:=[(0,.const (vi 4))]) (qs:=[(0,[vi 4])]) (cs:=[vi 4,vi 0,vb false]) qby qbp rfl ⟨rfl,rfl,rfl,trivial⟩ rfl) fun a E=>qad E ok 0 rfl rfl rfl qcq rfl rfl ⟨rfl,rfl,rfl,trivial⟩ rfl rfl fun w ok=>wn<|wp_ret<|qaz<|qaq ?_
    exact fin hF ⟨m0,[vi 4,vi 0,vb false],le_m0,ok.drop.drop,E.d,⟨rv_c (cs:=[vi 4,vi 0,vb false]) E ok rfl qbQ rfl (qab.own 0 rfl rfl),trivial⟩,⟨rfl,(ir 4),(ir 0)⟩⟩
   refine fk E ok qdR qak rfl 1 rfl rfl fun a E=>lw E (qau rfl rfl) fun a E=>pf E rfl rfl fun a E=>mv E rfl fun a E=>bu E 22 hF (fun c20 hF E=>?_) fun c20 hF E=>?_
   ·refine lsq E fun a E=>pt E rfl rfl fun a E=>aw E rfl fun a E=>c_if E rfl (fun _=>?_) (fun h=>by cases h)
    refine sg<|lw E (qaF (ps:=[(0,.const (vi 4))]) (qs:=[(0,[vi 4])]) (cs:=[vi 4,vi 0,vb false]) qby qbp rfl ⟨rfl,rfl,rfl,trivial⟩ rfl) fun a E=>qad E ok 0 rfl rfl rfl qcq rfl rfl ⟨rfl,rfl,rfl,trivial⟩ rfl rfl fun w ok=>wn<|wp_ret<|qaz<|qaq ?_
    exact fin hF ⟨m0,[vi 4,vi 0,vb false],le_m0,ok.drop.drop,E.d,⟨rv_c (cs:=[vi 4,vi 0,vb false]) E ok rfl qbQ rfl (qab.own 0 rfl rfl),trivial⟩,⟨rfl,(ir 4),(ir 0)⟩⟩
   refine fk E ok qoz qbx rfl 1 rfl rfl fun a E=>pf E rfl rfl fun a E=>aw E rfl fun a E=>cf E rfl hF (fun c21 hF=>?_) fun c21 hF=>?_
   ·refine sg<|lw E (qaF (ps:=[(0,.const (vi 4))]) (qs:=[(0,[vi 4])]) (cs:=[vi 4,vi 0,vb false]) qby qbp rfl ⟨rfl,rfl,rfl,trivial⟩ rfl) fun a E=>qad E ok 0 rfl rfl rfl qcq rfl rfl ⟨rfl,rfl,rfl,trivial⟩ rfl rfl fun w ok=>wn<|wp_ret<|qaz<|qaq ?_
    exact fin hF ⟨m0,[vi 4,vi 0,vb false],le_m0,ok.drop.drop,E.d,⟨rv_c (cs:=[vi 4,vi 0,vb false]) E ok rfl qbQ rfl (qab.own 0 rfl rfl),trivial⟩,⟨rfl,(ir 4),(ir 0)⟩⟩
   refine sg<|fk E ok qdR qak rfl 1 rfl rfl fun a E=>lw E (qau rfl rfl) fun a E=>aw E rfl fun a E=>cf E rfl hF (fun c22 hF=>?_) fun c22 hF=>?_
   ·refine sg<|mv E rfl fun a E=>lw E (qau rfl rfl) fun a E=>lw E (qaF (ps:=[(0,.const (vi 1)),(1,.const (vi 1)),(2,.tmp 32)]) (qs:=[(0,[vi 1]),(1,[vi 1]),(2,[(vb (symbol_1 == 0))])]) (cs:=[vi 1,vi 1,(vb (symbol_1 == 0))]) qby qbp rfl ⟨rfl,rfl,rfl,⟨rfl,rfl,rfl,⟨rfl,rfl,rfl,trivial⟩⟩⟩ rfl) fun a E=>qad E ok 0 rfl rfl rfl qcq rfl rfl ⟨rfl,rfl,rfl,trivial⟩ rfl rfl fun w ok=>wn<|wp_ret<|qaz<|qaq ?_
    exact fin hF ⟨m0,[vi 1,vi 1,(vb (symbol_1 == 0))],le_m0,ok.drop.drop,E.d,⟨rv_c (cs:=[vi 1,vi 1,(vb (symbol_1 == 0))]) E ok rfl qbQ rfl (qab.own 0 rfl rfl),trivial⟩,⟨rfl,(ir 1),(ir 1)⟩⟩
   refine sg<|fk E ok qdR qak rfl 1 rfl rfl fun a E=>lw E (qau rfl rfl) fun a E=>mv E rfl fun a E=>bw E 38 hF (fun c23 hF E=>?_) fun c23 hF E=>?_
   ·as_aux_lemma =>
     refine lsq E fun a E=>ls E fun a E=>pf E rfl rfl fun a E=>aw E rfl fun a E=>c_if E rfl (fun h=>by cases h) (fun _=>?_)
     refine sg<|fk E ok qdR qak rfl 1 rfl rfl fun a E=>lw E (qau rfl rfl) fun a E=>aw E rfl fun a E=>cf E rfl hF (fun c28 hF=>?_) fun c28 hF=>?_
     ·refine sg<|lw E (qaF (ps:=[(0,.const (vi 3)),(1,.const (vi 1))]) (qs:=[(0,[vi 3]),(1,[vi 1])]) (cs:=[vi 3,vi 1,vb false]) qby qbp rfl ⟨rfl,rfl,rfl,⟨rfl,rfl,rfl,trivial⟩⟩ rfl) fun a E=>qad E ok 0 rfl rfl rfl qcq rfl rfl ⟨rfl,rfl,rfl,trivial⟩ rfl rfl fun w ok=>wn<|wp_ret<|qaz<|qaq ?_
      exact fin hF ⟨m0,[vi 3,vi 1,vb false],le_m0,ok.drop.drop,E.d,⟨rv_c (cs:=[vi 3,vi 1,vb false]) E ok rfl qbQ rfl (qab.own 0 rfl rfl),trivial⟩,⟨rfl,(ir 3),(ir 1)⟩⟩
     refine sg<|fk E ok qdR qak rfl 1 rfl rfl fun a E=>lw E (qau rfl rfl) fun a E=>mv E rfl fun a E=>bw E 56 hF (fun c29 hF E=>?_) fun c29 hF E=>?_
     ·refine lsq E fun a E=>ls E fun a E=>pf E rfl rfl fun a E=>aw E rfl fun a E=>c_if E rfl (fun h=>by cases h) (fun _=>?_)
      refine wp_skip<|qal<|qaa<|sg<|lw E (qaF (ps:=[(0,.const (vi 4))]) (qs:=[(0,[vi 4])]) (cs:=[vi 4,vi 0,vb false]) qby qbp rfl ⟨rfl,rfl,rfl,trivial⟩ rfl) fun a E=>qad E ok 0 rfl rfl rfl qcq rfl rfl ⟨rfl,rfl,rfl,trivial⟩ rfl rfl fun w ok=>wn<|wp_ret ?_
      exact fin hF ⟨m0,[vi 4,vi 0,vb false],le_m0,ok.drop.drop,E.d,⟨rv_c (cs:=[vi 4,vi 0,vb false]) E ok rfl qbQ rfl (qab.own 0 rfl rfl),trivial⟩,⟨rfl,(ir 4),(ir 0)⟩⟩
     refine fk E ok qfx qak rfl 1 rfl rfl fun a E=>lw E (qav rfl rfl) fun a E=>pt E rfl rfl fun a E=>aw E rfl fun a E=>cg E rfl hF (fun c30 hF=>?_) fun c30 hF=>?_
     ·refine wp_skip<|qal<|qaa<|sg<|lw E (qaF (ps:=[(0,.const (vi 4))]) (qs:=[(0,[vi 4])]) (cs:=[vi 4,vi 0,vb false]) qby qbp rfl ⟨rfl,rfl,rfl,trivial⟩ rfl) fun a E=>qad E ok 0 rfl rfl rfl qcq rfl rfl ⟨rfl,rfl,rfl,trivial⟩ rfl rfl fun w ok=>wn<|wp_ret ?_
      exact fin hF ⟨m0,[vi 4,vi 0,vb false],le_m0,ok.drop.drop,E.d,⟨rv_c (cs:=[vi 4,vi 0,vb false]) E ok rfl qbQ rfl (qab.own 0 rfl rfl),trivial⟩,⟨rfl,(ir 4),(ir 0)⟩⟩
     refine sg<|fk E ok qfx qak rfl 1 rfl rfl fun a E=>lw E (qaw rfl rfl (InR.inc r2 (ir 6) c30)) fun a E=>lw E (qaF (ps:=[(0,.const (vi 3)),(1,.tmp 63)]) (qs:=[(0,[vi 3]),(1,[(vi (s_0.count + 1))])]) (cs:=[vi 3,(vi (s_0.count + 1)),vb false]) qby qbp rfl ⟨rfl,rfl,rfl,⟨rfl,rfl,rfl,trivial⟩⟩ rfl) fun a E=>qad E ok 0 rfl rfl rfl qcq rfl rfl ⟨rfl,rfl,rfl,trivial⟩ rfl rfl fun w ok=>wn<|wp_ret<|qaz<|qaq ?_
     exact fin hF ⟨m0,[vi 3,(vi (s_0.count + 1)),vb false],le_m0,ok.drop.drop,E.d,⟨rv_c (cs:=[vi 3,(vi (s_0.count + 1)),vb false]) E ok rfl qbQ rfl (qab.own 0 rfl rfl),trivial⟩,⟨rfl,(ir 3),(InR.inc r2 (ir 6) c30)⟩⟩
   refine fk E ok qfx qak rfl 1 rfl rfl fun a E=>lw E (qav rfl rfl) fun a E=>pt E rfl rfl fun a E=>aw E rfl fun a E=>cf E rfl hF (fun c24 hF=>?_) fun c24 hF=>?_
   ·refine sg<|fk E ok qfx qak rfl 1 rfl rfl fun a E=>lw E (qaw rfl rfl (InR.inc r2 (ir 15) c24)) fun a E=>lw E (qaF (ps:=[(0,.const (vi 1)),(1,.tmp 45)]) (qs:=[(0,[vi 1]),(1,[(vi (s_0.count + 1))])]) (cs:=[vi 1,(vi (s_0.count + 1)),vb false]) qby qbp rfl ⟨rfl,rfl,rfl,⟨rfl,rfl,rfl,trivial⟩⟩ rfl) fun a E=>qad E ok 0 rfl rfl rfl qcq rfl rfl ⟨rfl,rfl,rfl,trivial⟩ rfl rfl fun w ok=>wn<|wp_ret<|qaz<|qaq ?_
    exact fin hF ⟨m0,[vi 1,(vi (s_0.count + 1)),vb false],le_m0,ok.drop.drop,E.d,⟨rv_c (cs:=[vi 1,(vi (s_0.count + 1)),vb false]) E ok rfl qbQ rfl (qab.own 0 rfl rfl),trivial⟩,⟨rfl,(ir 1),(InR.inc r2 (ir 15) c24)⟩⟩
   refine sg<|fk E ok qdR qak rfl 1 rfl rfl fun a E=>lw E (qau rfl rfl) fun a E=>aw E rfl fun a E=>cf E rfl hF (fun c25 hF=>?_) fun c25 hF=>?_
   ·refine sg<|lw E (qaF (ps:=[(0,.const (vi 3)),(1,.const (vi 1))]) (qs:=[(0,[vi 3]),(1,[vi 1])]) (cs:=[vi 3,vi 1,vb false]) qby qbp rfl ⟨rfl,rfl,rfl,⟨rfl,rfl,rfl,trivial⟩⟩ rfl) fun a E=>qad E ok 0 rfl rfl rfl qcq rfl rfl ⟨rfl,rfl,rfl,trivial⟩ rfl rfl fun w ok=>wn<|wp_ret<|qaz<|qaq ?_
    exact fin hF ⟨m0,[vi 3,vi 1,vb false],le_m0,ok.drop.drop,E.d,⟨rv_c (cs:=[vi 3,vi 1,vb false]) E ok rfl qbQ rfl (qab.own 0 rfl rfl),trivial⟩,⟨rfl,(ir 3),(ir 1)⟩⟩
   refine sg<|fk E ok qdR qak rfl 1 rfl rfl fun a E=>lw E (qau rfl rfl) fun a E=>mv E rfl fun a E=>bw E 56 hF (fun c26 hF E=>?_) fun c26 hF E=>?_
   ·refine lsq E fun a E=>ls E fun a E=>pf E rfl rfl fun a E=>aw E rfl fun a E=>c_if E rfl (fun h=>by cases h) (fun _=>?_)
    refine wp_skip<|qal<|qaa<|sg<|lw E (qaF (ps:=[(0,.const (vi 4))]) (qs:=[(0,[vi 4])]) (cs:=[vi 4,vi 0,vb false]) qby qbp rfl ⟨rfl,rfl,rfl,trivial⟩ rfl) fun a E=>qad E ok 0 rfl rfl rfl qcq rfl rfl ⟨rfl,rfl,rfl,trivial⟩ rfl rfl fun w ok=>wn<|wp_ret ?_
    exact fin hF ⟨m0,[vi 4,vi 0,vb false],le_m0,ok.drop.drop,E.d,⟨rv_c (cs:=[vi 4,vi 0,vb false]) E ok rfl qbQ rfl (qab.own 0 rfl rfl),trivial⟩,⟨rfl,(ir 4),(ir 0)⟩⟩
   refine fk E ok qfx qak rfl 1 rfl rfl fun a E=>lw E (qav rfl rfl) fun a E=>pt E rfl rfl fun a E=>aw E rfl fun a E=>cg E rfl hF (fun c27 hF=>?_) fun c27 hF=>?_
   ·refine wp_skip<|qal<|qaa<|sg<|lw E (qaF (ps:=[(0,.const (vi 4))]) (qs:=[(0,[vi 4])]) (cs:=[vi 4,vi 0,vb false]) qby qbp rfl ⟨rfl,rfl,rfl,trivial⟩ rfl) fun a E=>qad E ok 0 rfl rfl rfl qcq rfl rfl ⟨rfl,rfl,rfl,trivial⟩ rfl rfl fun w ok=>wn<|wp_ret ?_
    exact fin hF ⟨m0,[vi 4,vi 0,vb false],le_m0,ok.drop.drop,E.d,⟨rv_c (cs:=[vi 4,vi 0,vb false]) E ok rfl qbQ rfl (qab.own 0 rfl rfl),trivial⟩,⟨rfl,(ir 4),(ir 0)⟩⟩
   refine sg<|fk E ok qfx qak rfl 1 rfl rfl fun a E=>lw E (qaw rfl rfl (InR.inc r2 (ir 6) c27)) fun a E=>lw E (qaF (ps:=[(0,.const (vi 3)),(1,.tmp 63)]) (qs:=[(0,[vi 3]),(1,[(vi (s_0.count + 1))])]) (cs:=[vi 3,(vi (s_0.count + 1)),vb false]) qby qbp rfl ⟨rfl,rfl,rfl,⟨rfl,rfl,rfl,trivial⟩⟩ rfl) fun a E=>qad E ok 0 rfl rfl rfl qcq rfl rfl ⟨rfl,rfl,rfl,trivial⟩ rfl rfl fun w ok=>wn<|wp_ret<|qaz<|qaq ?_
   exact fin hF ⟨m0,[vi 3,(vi (s_0.count + 1)),vb false],le_m0,ok.drop.drop,E.d,⟨rv_c (cs:=[vi 3,(vi (s_0.count + 1)),vb false]) E ok rfl qbQ rfl (qab.own 0 rfl rfl),trivial⟩,⟨rfl,(ir 3),(InR.inc r2 (ir 6) c27)⟩⟩
 refine fk E ok qdR qak rfl 1 rfl rfl fun a E=>lw E (qau rfl rfl) fun a E=>pt E rfl rfl fun a E=>aw E rfl fun a E=>cf E rfl hF (fun c6 hF=>?_) fun c6 hF=>?_
 ·refine sg<|lw E (qaF (ps:=[(0,.const (vi 2))]) (qs:=[(0,[vi 2])]) (cs:=[vi 2,vi 0,vb false]) qby qbp rfl ⟨rfl,rfl,rfl,trivial⟩ rfl) fun a E=>qad E ok 0 rfl rfl rfl qcq rfl rfl ⟨rfl,rfl,rfl,trivial⟩ rfl rfl fun w ok=>wn<|wp_ret<|qaz<|qaq ?_
  exact fin hF ⟨m0,[vi 2,vi 0,vb false],le_m0,ok.drop.drop,E.d,⟨rv_c (cs:=[vi 2,vi 0,vb false]) E ok rfl qbQ rfl (qab.own 0 rfl rfl),trivial⟩,⟨rfl,(ir 2),(ir 0)⟩⟩
 refine sg<|mv E rfl fun a E=>lw E (qau rfl rfl) fun a E=>mv E rfl fun a E=>bu E 17 hF (fun c7 hF E=>?_) fun c7 hF E=>?_
 ·refine lsq E fun a E=>ls E fun a E=>pt E rfl rfl fun a E=>mv E rfl fun a E=>lsq E fun a E=>pt E rfl rfl fun a E=>aw E rfl fun a E=>c_if E rfl (fun _=>?_) (fun h=>by cases h)
  refine sg<|lw E (qaF (ps:=[(0,.const (vi 4))]) (qs:=[(0,[vi 4])]) (cs:=[vi 4,vi 0,vb false]) qby qbp rfl ⟨rfl,rfl,rfl,trivial⟩ rfl) fun a E=>qad E ok 0 rfl rfl rfl qcq rfl rfl ⟨rfl,rfl,rfl,trivial⟩ rfl rfl fun w ok=>wn<|wp_ret<|qaz<|qaq ?_
  exact fin hF ⟨m0,[vi 4,vi 0,vb false],le_m0,ok.drop.drop,E.d,⟨rv_c (cs:=[vi 4,vi 0,vb false]) E ok rfl qbQ rfl (qab.own 0 rfl rfl),trivial⟩,⟨rfl,(ir 4),(ir 0)⟩⟩
 refine fk E ok qdR qak rfl 1 rfl rfl fun a E=>lw E (qau rfl rfl) fun a E=>pf E rfl rfl fun a E=>mv E rfl fun a E=>bu E 22 hF (fun c8 hF E=>?_) fun c8 hF E=>?_
 ·refine lsq E fun a E=>pt E rfl rfl fun a E=>aw E rfl fun a E=>c_if E rfl (fun _=>?_) (fun h=>by cases h)
  refine sg<|lw E (qaF (ps:=[(0,.const (vi 4))]) (qs:=[(0,[vi 4])]) (cs:=[vi 4,vi 0,vb false]) qby qbp rfl ⟨rfl,rfl,rfl,trivial⟩ rfl) fun a E=>qad E ok 0 rfl rfl rfl qcq rfl rfl ⟨rfl,rfl,rfl,trivial⟩ rfl rfl fun w ok=>wn<|wp_ret<|qaz<|qaq ?_
  exact fin hF ⟨m0,[vi 4,vi 0,vb false],le_m0,ok.drop.drop,E.d,⟨rv_c (cs:=[vi 4,vi 0,vb false]) E ok rfl qbQ rfl (qab.own 0 rfl rfl),trivial⟩,⟨rfl,(ir 4),(ir 0)⟩⟩
 refine fk E ok qoz qbx rfl 1 rfl rfl fun a E=>pf E rfl rfl fun a E=>aw E rfl fun a E=>cf E rfl hF (fun c9 hF=>?_) fun c9 hF=>?_
 ·refine sg<|lw E (qaF (ps:=[(0,.const (vi 4))]) (qs:=[(0,[vi 4])]) (cs:=[vi 4,vi 0,vb false]) qby qbp rfl ⟨rfl,rfl,rfl,trivial⟩ rfl) fun a E=>qad E ok 0 rfl rfl rfl qcq rfl rfl ⟨rfl,rfl,rfl,trivial⟩ rfl rfl fun w ok=>wn<|wp_ret<|qaz<|qaq ?_
  exact fin hF ⟨m0,[vi 4,vi 0,vb false],le_m0,ok.drop.drop,E.d,⟨rv_c (cs:=[vi 4,vi 0,vb false]) E ok rfl qbQ rfl (qab.own 0 rfl rfl),trivial⟩,⟨rfl,(ir 4),(ir 0)⟩⟩
 refine sg<|fk E ok qdR qak rfl 1 rfl rfl fun a E=>lw E (qau rfl rfl) fun a E=>aw E rfl fun a E=>cf E rfl hF (fun c10 hF=>?_) fun c10 hF=>?_
 ·refine sg<|mv E rfl fun a E=>lw E (qau rfl rfl) fun a E=>lw E (qaF (ps:=[(0,.const (vi 1)),(1,.const (vi 1)),(2,.tmp 32)]) (qs:=[(0,[vi 1]),(1,[vi 1]),(2,[(vb (symbol_1 == 0))])]) (cs:=[vi 1,vi 1,(vb (symbol_1 == 0))]) qby qbp rfl ⟨rfl,rfl,rfl,⟨rfl,rfl,rfl,⟨rfl,rfl,rfl,trivial⟩⟩⟩ rfl) fun a E=>qad E ok 0 rfl rfl rfl qcq rfl rfl ⟨rfl,rfl,rfl,trivial⟩ rfl rfl fun w ok=>wn<|wp_ret<|qaz<|qaq ?_
  exact fin hF ⟨m0,[vi 1,vi 1,(vb (symbol_1 == 0))],le_m0,ok.drop.drop,E.d,⟨rv_c (cs:=[vi 1,vi 1,(vb (symbol_1 == 0))]) E ok rfl qbQ rfl (qab.own 0 rfl rfl),trivial⟩,⟨rfl,(ir 1),(ir 1)⟩⟩
 refine sg<|fk E ok qdR qak rfl 1 rfl rfl fun a E=>lw E (qau rfl rfl) fun a E=>mv E rfl fun a E=>bw E 38 hF (fun c11 hF E=>?_) fun c11 hF E=>?_
 ·as_aux_lemma =>
   refine lsq E fun a E=>ls E fun a E=>pf E rfl rfl fun a E=>aw E rfl fun a E=>c_if E rfl (fun h=>by cases h) (fun _=>?_)
   refine sg<|fk E ok qdR qak rfl 1 rfl rfl fun a E=>lw E (qau rfl rfl) fun a E=>aw E rfl fun a E=>cf E rfl hF (fun c16 hF=>?_) fun c16 hF=>?_
   ·refine sg<|lw E (qaF (ps:=[(0,.const (vi 3)),(1,.const (vi 1))]) (qs:=[(0,[vi 3]),(1,[vi 1])]) (cs:=[vi 3,vi 1,vb false]) qby qbp rfl ⟨rfl,rfl,rfl,⟨rfl,rfl,rfl,trivial⟩⟩ rfl) fun a E=>qad E ok 0 rfl rfl rfl qcq rfl rfl ⟨rfl,rfl,rfl,trivial⟩ rfl rfl fun w ok=>wn<|wp_ret<|qaz<|qaq ?_
    exact fin hF ⟨m0,[vi 3,vi 1,vb false],le_m0,ok.drop.drop,E.d,⟨rv_c (cs:=[vi 3,vi 1,vb false]) E ok rfl qbQ rfl (qab.own 0 rfl rfl),trivial⟩,⟨rfl,(ir 3),(ir 1)⟩⟩
   refine sg<|fk E ok qdR qak rfl 1 rfl rfl fun a E=>lw E (qau rfl rfl) fun a E=>mv E rfl fun a E=>bw E 56 hF (fun c17 hF E=>?_) fun c17 hF E=>?_
   ·refine lsq E fun a E=>ls E fun a E=>pf E rfl rfl fun a E=>aw E rfl fun a E=>c_if E rfl (fun h=>by cases h) (fun _=>?_)
    refine wp_skip<|qal<|qaa<|sg<|lw E (qaF (ps:=[(0,.const (vi 4))]) (qs:=[(0,[vi 4])]) (cs:=[vi 4,vi 0,vb false]) qby qbp rfl ⟨rfl,rfl,rfl,trivial⟩ rfl) fun a E=>qad E ok 0 rfl rfl rfl qcq rfl rfl ⟨rfl,rfl,rfl,trivial⟩ rfl rfl fun w ok=>wn<|wp_ret ?_
    exact fin hF ⟨m0,[vi 4,vi 0,vb false],le_m0,ok.drop.drop,E.d,⟨rv_c (cs:=[vi 4,vi 0,vb false]) E ok rfl qbQ rfl (qab.own 0 rfl rfl),trivial⟩,⟨rfl,(ir 4),(ir 0)⟩⟩
   refine fk E ok qfx qak rfl 1 rfl rfl fun a E=>lw E (qav rfl rfl) fun a E=>pt E rfl rfl fun a E=>aw E rfl fun a E=>cg E rfl hF (fun c18 hF=>?_) fun c18 hF=>?_
   ·refine wp_skip<|qal<|qaa<|sg<|lw E (qaF (ps:=[(0,.const (vi 4))]) (qs:=[(0,[vi 4])]) (cs:=[vi 4,vi 0,vb false]) qby qbp rfl ⟨rfl,rfl,rfl,trivial⟩ rfl) fun a E=>qad E ok 0 rfl rfl rfl qcq rfl rfl ⟨rfl,rfl,rfl,trivial⟩ rfl rfl fun w ok=>wn<|wp_ret ?_
    exact fin hF ⟨m0,[vi 4,vi 0,vb false],le_m0,ok.drop.drop,E.d,⟨rv_c (cs:=[vi 4,vi 0,vb false]) E ok rfl qbQ rfl (qab.own 0 rfl rfl),trivial⟩,⟨rfl,(ir 4),(ir 0)⟩⟩
   refine sg<|fk E ok qfx qak rfl 1 rfl rfl fun a E=>lw E (qaw rfl rfl (InR.inc r2 (ir 6) c18)) fun a E=>lw E (qaF (ps:=[(0,.const (vi 3)),(1,.tmp 63)]) (qs:=[(0,[vi 3]),(1,[(vi (s_0.count + 1))])]) (cs:=[vi 3,(vi (s_0.count + 1)),vb false]) qby qbp rfl ⟨rfl,rfl,rfl,⟨rfl,rfl,rfl,trivial⟩⟩ rfl) fun a E=>qad E ok 0 rfl rfl rfl qcq rfl rfl ⟨rfl,rfl,rfl,trivial⟩ rfl rfl fun w ok=>wn<|wp_ret<|qaz<|qaq ?_
   exact fin hF ⟨m0,[vi 3,(vi (s_0.count + 1)),vb false],le_m0,ok.drop.drop,E.d,⟨rv_c (cs:=[vi 3,(vi (s_0.count + 1)),vb false]) E ok rfl qbQ rfl (qab.own 0 rfl rfl),trivial⟩,⟨rfl,(ir 3),(InR.inc r2 (ir 6) c18)⟩⟩
 refine fk E ok qfx qak rfl 1 rfl rfl fun a E=>lw E (qav rfl rfl) fun a E=>pt E rfl rfl fun a E=>aw E rfl fun a E=>cf E rfl hF (fun c12 hF=>?_) fun c12 hF=>?_
 ·refine sg<|fk E ok qfx qak rfl 1 rfl rfl fun a E=>lw E (qaw rfl rfl (InR.inc r2 (ir 15) c12)) fun a E=>lw E (qaF (ps:=[(0,.const (vi 1)),(1,.tmp 45)]) (qs:=[(0,[vi 1]),(1,[(vi (s_0.count + 1))])]) (cs:=[vi 1,(vi (s_0.count + 1)),vb false]) qby qbp rfl ⟨rfl,rfl,rfl,⟨rfl,rfl,rfl,trivial⟩⟩ rfl) fun a E=>qad E ok 0 rfl rfl rfl qcq rfl rfl ⟨rfl,rfl,rfl,trivial⟩ rfl rfl fun w ok=>wn<|wp_ret<|qaz<|qaq ?_
  exact fin hF ⟨m0,[vi 1,(vi (s_0.count + 1)),vb false],le_m0,ok.drop.drop,E.d,⟨rv_c (cs:=[vi 1,(vi (s_0.count + 1)),vb false]) E ok rfl qbQ rfl (qab.own 0 rfl rfl),trivial⟩,⟨rfl,(ir 1),(InR.inc r2 (ir 15) c12)⟩⟩
 refine sg<|fk E ok qdR qak rfl 1 rfl rfl fun a E=>lw E (qau rfl rfl) fun a E=>aw E rfl fun a E=>cf E rfl hF (fun c13 hF=>?_) fun c13 hF=>?_
 ·refine sg<|lw E (qaF (ps:=[(0,.const (vi 3)),(1,.const (vi 1))]) (qs:=[(0,[vi 3]),(1,[vi 1])]) (cs:=[vi 3,vi 1,vb false]) qby qbp rfl ⟨rfl,rfl,rfl,⟨rfl,rfl,rfl,trivial⟩⟩ rfl) fun a E=>qad E ok 0 rfl rfl rfl qcq rfl rfl ⟨rfl,rfl,rfl,trivial⟩ rfl rfl fun w ok=>wn<|wp_ret<|qaz<|qaq ?_
  exact fin hF ⟨m0,[vi 3,vi 1,vb false],le_m0,ok.drop.drop,E.d,⟨rv_c (cs:=[vi 3,vi 1,vb false]) E ok rfl qbQ rfl (qab.own 0 rfl rfl),trivial⟩,⟨rfl,(ir 3),(ir 1)⟩⟩
 refine sg<|fk E ok qdR qak rfl 1 rfl rfl fun a E=>lw E (qau rfl rfl) fun a E=>mv E rfl fun a E=>bw E 56 hF (fun c14 hF E=>?_) fun c14 hF E=>?_
 ·refine lsq E fun a E=>ls E fun a E=>pf E rfl rfl fun a E=>aw E rfl fun a E=>c_if E rfl (fun h=>by cases h) (fun _=>?_)
  refine wp_skip<|qal<|qaa<|sg<|lw E (qaF (ps:=[(0,.const (vi 4))]) (qs:=[(0,[vi 4])]) (cs:=[vi 4,vi 0,vb false]) qby qbp rfl ⟨rfl,rfl,rfl,trivial⟩ rfl) fun a E=>qad E ok 0 rfl rfl rfl qcq rfl rfl ⟨rfl,rfl,rfl,trivial⟩ rfl rfl fun w ok=>wn<|wp_ret ?_
  exact fin hF ⟨m0,[vi 4,vi 0,vb false],le_m0,ok.drop.drop,E.d,⟨rv_c (cs:=[vi 4,vi 0,vb false]) E ok rfl qbQ rfl (qab.own 0 rfl rfl),trivial⟩,⟨rfl,(ir 4),(ir 0)⟩⟩
 refine fk E ok qfx qak rfl 1 rfl rfl fun a E=>lw E (qav rfl rfl) fun a E=>pt E rfl rfl fun a E=>aw E rfl fun a E=>cg E rfl hF (fun c15 hF=>?_) fun c15 hF=>?_
 ·refine wp_skip<|qal<|qaa<|sg<|lw E (qaF (ps:=[(0,.const (vi 4))]) (qs:=[(0,[vi 4])]) (cs:=[vi 4,vi 0,vb false]) qby qbp rfl ⟨rfl,rfl,rfl,trivial⟩ rfl) fun a E=>qad E ok 0 rfl rfl rfl qcq rfl rfl ⟨rfl,rfl,rfl,trivial⟩ rfl rfl fun w ok=>wn<|wp_ret ?_
  exact fin hF ⟨m0,[vi 4,vi 0,vb false],le_m0,ok.drop.drop,E.d,⟨rv_c (cs:=[vi 4,vi 0,vb false]) E ok rfl qbQ rfl (qab.own 0 rfl rfl),trivial⟩,⟨rfl,(ir 4),(ir 0)⟩⟩
 refine sg<|fk E ok qfx qak rfl 1 rfl rfl fun a E=>lw E (qaw rfl rfl (InR.inc r2 (ir 6) c15)) fun a E=>lw E (qaF (ps:=[(0,.const (vi 3)),(1,.tmp 63)]) (qs:=[(0,[vi 3]),(1,[(vi (s_0.count + 1))])]) (cs:=[vi 3,(vi (s_0.count + 1)),vb false]) qby qbp rfl ⟨rfl,rfl,rfl,⟨rfl,rfl,rfl,trivial⟩⟩ rfl) fun a E=>qad E ok 0 rfl rfl rfl qcq rfl rfl ⟨rfl,rfl,rfl,trivial⟩ rfl rfl fun w ok=>wn<|wp_ret<|qaz<|qaq ?_
 exact fin hF ⟨m0,[vi 3,(vi (s_0.count + 1)),vb false],le_m0,ok.drop.drop,E.d,⟨rv_c (cs:=[vi 3,(vi (s_0.count + 1)),vb false]) E ok rfl qbQ rfl (qab.own 0 rfl rfl),trivial⟩,⟨rfl,(ir 3),(InR.inc r2 (ir 6) c15)⟩⟩
def qlf (u:World) (m0:Mem) (S:Segs) (r:Bool) (a:Act) (w:World):Prop :=
 Ok u m0 S w ∧ a.defers = [] ∧ RVs Tryz.prog a w [.t 2 (.bool r)]
theorem qln (N:Nat) (vs_0:List Value) (s_0:DigitsRead) (hs_0:qbZ m0 vs_0 s_0) {r:Bool} (hF:qhk N s_0 = some r) (hG:Glob u) (ok:Ok u m0 S w) :
  Calls Tryz.prog 43 [.agg vs_0.toArray].toArray w fun e w'=>(e = .returned (.bool r) ∧ Ok u m0 S w'):=by
 obtain ⟨rfl,r1,r2⟩:=hs_0
 unfold qhk at hF
 refine en (qlf u m0 S) r Tryz.func43 rfl rfl rfl (fun _ _ h=>ra h rfl) fun fin a E=>sg<|qbz E ok rfl rfl rfl fun b3 a w E ok=>aw E rfl fun a E=>sg<|fk E ok qdR qak rfl 0 rfl rfl fun a E=>lw E (qau rfl rfl) fun a E=>mv E rfl fun a E=>bu E 6 hF (fun c4 hF E=>?_) fun c4 hF E=>?_
 ·refine lsq E fun a E=>ls E fun a E=>pt E rfl rfl fun a E=>aw E rfl fun a E=>wp_ret ?_
  exact fin hF ⟨ok.drop,E.d,rz E rfl⟩
 refine fk E ok qdR qak rfl 0 rfl rfl fun a E=>lw E (qau rfl rfl) fun a E=>pf E rfl rfl fun a E=>aw E rfl fun a E=>wp_ret ?_
 exact fin hF ⟨ok.drop,E.d,rz E rfl⟩
def qf4 (u:World) (m0:Mem) (S:Segs) (r:Table) (a:Act) (w:World):Prop :=
 ∃ m1 v0,m0.le m1 ∧ Ok u m1 S w ∧ a.defers = [] ∧ RVs Tryz.prog a w [.c 6 75 (.agg v0.toArray)] ∧ qhb m1 v0 r
theorem qf2 (N:Nat) (vstart_0:List Value) (start_0:DigitsRead) (hstart_0:qbZ m0 vstart_0 start_0) {r:Table} (hF:qcN N start_0 = some r) (hG:Glob u) (ok:Ok u m0 S w) :
  Calls Tryz.prog 41 [.agg vstart_0.toArray,.func (.func 42) #[] #[],.func (.func 43) #[] #[]].toArray w fun e w'=>∃ m1 v0,e = .returned (.agg v0.toArray) ∧ m0.le m1 ∧ Ok u m1 S w' ∧ qhb m1 v0 r:=by
 obtain ⟨rfl,r1,r2⟩:=hstart_0
 have le_m0:=Mem.le.refl m0
 unfold qcN at hF
 refine en (qf4 u m0 S) r Tryz.func41 rfl rfl rfl (by rintro a w ⟨m1,v0,hle,ok,hd,hrv,h0⟩; exact qbG [.c 6 75 (.agg v0.toArray)] hd rfl hrv ⟨m1,v0,rfl,hle,ok,h0⟩) fun fin a E=>sg<|qbz E ok rfl rfl rfl fun b3 a w E ok=>qax E ok qhn rfl rfl fun b4 a w E ok=>wn<|sg<|qie (aggK qbZ) (oneV (pI .i64)) E ok rfl rfl fun c5 M6 a w E ok h7=>lv E ok (qag (cs:=[vi start_0.phase,vi start_0.count,vb start_0.zero]) qbQ rfl rfl (qab.own 2 rfl rfl)) fun a E=>bd hF fun l8 e9 hF=>qim (.inr rfl) E ok 0 qm1 Tryz.underlying127 h7 rfl rfl rfl rfl ⟨m0,_,rfl,⟨rfl,r1,r2⟩⟩ (qaX (ir 0)) e9 rfl fun M10 w ok h11=>mv E rfl fun a E=>aw E rfl fun a E=>sg<|lv E ok (qag (cs:=[vi start_0.phase,vi start_0.count,vb start_0.zero]) qbQ rfl rfl (qab.own 2 rfl rfl)) fun a E=>qaW (R:=qbZ) (xo:=[.tmp 19]) (xs:=([start_0]:List (DigitsRead))) E ok qi4 qby rfl ⟨⟨_,rfl,rfl,⟨rfl,r1,r2⟩⟩,trivial⟩ rfl rfl rfl rfl fun c12 M13 a w E ok h14=>aw E rfl fun a E=>sg<|qax E ok qhn rfl rfl fun b15 a w E ok=>wn<|wp_seq<|sg<|aw E rfl fun a E=>wp_block ?_
 obtain ⟨M33,ok,h34⟩:=qcf (e:=129) (k:=11) (R:=qbw) ok
 obtain ⟨M35,ok,h36⟩:=qcf (e:=4) (k:=1) (R:=pB) ok
 refine bd hF fun o37 hL hF=>qaE _ (fun (s:(List (DigitsRead)) × Int × Table × (List (DigitsRead × Int))) a w=>∃ m38 c39 M40 c43 M44 c46 M47 c49 M50,m0.le m38 ∧ Ok u m38 (M47 :: M44 :: [(b15,oc 75 [c43,c46])] :: M40 :: M50 :: [(b4,oc 75 [(Value.slice none 0 0),(Value.slice none 0 0)])] :: [(b3,oc 78 [vi start_0.phase,vi start_0.count,vb start_0.zero])] :: S) w ∧ Env 76 a [(1,(Value.func (.func 42) #[] #[])),(2,(Value.func (.func 43) #[] #[])),(6,vp b4),(7,c49),(8,c39),(9,vp b15),(10,vi s.2.1)] ∧ ORow 78 3 qbZ m38 c39 s.1 M40 ∧ InR .i64 s.2.1 ∧ ORow 129 11 qbw m38 c43 s.2.2.1.next M44 ∧ ORow 4 1 pB m38 c46 s.2.2.1.accept M47 ∧ OMap (aggK qbZ) (oneV (pI .i64)) m38 c49 s.2.2.2 M50) (fun (b:Table) e a w=>e = (.exit 0) ∧ ∃ m294 c295 M296 c298 M299,m0.le m294 ∧ Ok u m294 (M299 :: M296 :: [(b15,oc 75 [c295,c298])] :: [(b4,oc 75 [(Value.slice none 0 0),(Value.slice none 0 0)])] :: [(b3,oc 78 [vi start_0.phase,vi start_0.count,vb start_0.zero])] :: S) w ∧ Env 76 a [(6,vp b4),(9,vp b15)] ∧ ORow 129 11 qbw m294 c295 b.next M296 ∧ ORow 4 1 pB m294 c298 b.accept M299) ?_ ?_ N _ a w hL ⟨m0,c12,M13,(Value.slice none 0 0),M33,(Value.slice none 0 0),M35,c5,M10,Mem.le.refl _,ok,E.keep [1,2,6,7,8,9,10],h14,(ir 0),h34,h36,h11⟩
 rotate_left
 ·intro e a w _ hO
  obtain ⟨rfl,m283,c284,M285,c287,M288,hle,ok,E,h286,h289⟩:=hO
  have le_m0:=le_m0.trans hle
  refine qaM<|qaa<|sg<|lv E ok (qag (cs:=[c284,c287]) qid rfl rfl (qab.own 2 rfl rfl)) fun a E=>qad E ok 3 rfl rfl rfl qlh rfl rfl ⟨(ORow.one h286),(ORow.one h289),trivial⟩ rfl rfl fun w ok=>wn<|wp_ret ?_
  obtain ⟨m290,hle,ok,hfz⟩:=(ok.frs 1 rfl).freeze
  have h291:=ORow.froz qbh h286 hle hfz (by decide)
  have le_m0:=le_m0.trans hle
  have h289:=ORow.up mB hle h289
  obtain ⟨m292,hle,ok,hfz⟩:=(ok.frs 0 rfl).freeze
  have h293:=ORow.froz mB h289 hle hfz (by decide)
  have le_m0:=le_m0.trans hle
  have h291:=(mL qbh).up hle h291
  exact fin hF ⟨m292,[c284,c287],le_m0,ok.drop.drop.drop,E.d,⟨rv_c (cs:=[c284,c287]) E ok rfl qid rfl (qab.own 1 rfl rfl),trivial⟩,⟨_,_,rfl,h291,h293⟩⟩
 rintro ⟨v52,v53,v54,v55⟩ a w r ⟨m56,c57,M58,c61,M62,c64,M65,c67,M68,hle,ok,E,h59,r60,h63,h66,h69⟩ hF
 replace hF:qcr N v52 v53 v54 v55 = some r:=hF
 unfold qcr at hF
 have le_m0:=le_m0.trans hle
 refine wp_seq<|sg<|mz E rfl rfl fun a E=>lv E ok (qcF qi4 h59 rfl) fun a E=>lw E (qav rfl rfl) fun a E=>wn<|cg E rfl hF (fun c70 hF=>?_) fun c70 hF=>?_
 ·refine wp_exit<|qaA ?_
  cases hF
  exact so (⟨rfl,⟨m56,c61,M62,c64,M65,le_m0,(ok.pk 7 [0,1,2,5,6] rfl (by decide)),E.keep [6,9],h63,h66⟩⟩)
 refine wp_skip<|qaa<|wp_seq<|wp_block<|sg<|qax E ok qfj rfl rfl fun b71 a w E ok=>wn<|wp_seq<|sg<|mv E rfl fun a E=>wn<|wp_block<|bd hF fun o94 hL hF=>qaE _ (fun (s:(List (DigitsRead)) × Int × Arr11_Int × (List (DigitsRead × Int))) a w=>∃ m95 c96 M97 c111 M112,m56.le m95 ∧ Ok u m95 ([(b71,oc 129 [vi s.2.2.1.e0,vi s.2.2.1.e1,vi s.2.2.1.e2,vi s.2.2.1.e3,vi s.2.2.1.e4,vi s.2.2.1.e5,vi s.2.2.1.e6,vi s.2.2.1.e7,vi s.2.2.1.e8,vi s.2.2.1.e9,vi s.2.2.1.e10])] :: M65 :: M62 :: [(b15,oc 75 [c61,c64])] :: M97 :: M112 :: [(b4,oc 75 [(Value.slice none 0 0),(Value.slice none 0 0)])] :: [(b3,oc 78 [vi start_0.phase,vi start_0.count,vb start_0.zero])] :: S) w ∧ Env 76 a [(1,(Value.func (.func 42) #[] #[])),(2,(Value.func (.func 43) #[] #[])),(6,vp b4),(7,c111),(8,c96),(9,vp b15),(10,vi v53),(11,vp b71),(27,vi s.2.1)] ∧ ORow 78 3 qbZ m95 c96 s.1 M97 ∧ InR .i64 s.2.1 ∧ InR .i64 s.2.2.1.e0 ∧ InR .i64 s.2.2.1.e1 ∧ InR .i64 s.2.2.1.e2 ∧ InR .i64 s.2.2.1.e3 ∧ InR .i64 s.2.2.1.e4 ∧ InR .i64 s.2.2.1.e5 ∧ InR .i64 s.2.2.1.e6 ∧ InR .i64 s.2.2.1.e7 ∧ InR .i64 s.2.2.1.e8 ∧ InR .i64 s.2.2.1.e9 ∧ InR .i64 s.2.2.1.e10 ∧ OMap (aggK qbZ) (oneV (pI .i64)) m95 c111 s.2.2.2 M112) (fun (b:(Arr11_Int × (List (DigitsRead × Int)) × (List (DigitsRead)))) e a w=>e = (.exit 2) ∧ ∃ m265 c277 M278 c280 M281,m56.le m265 ∧ Ok u m265 ([(b71,oc 129 [vi b.1.e0,vi b.1.e1,vi b.1.e2,vi b.1.e3,vi b.1.e4,vi b.1.e5,vi b.1.e6,vi b.1.e7,vi b.1.e8,vi b.1.e9,vi b.1.e10])] :: M65 :: M62 :: [(b15,oc 75 [c61,c64])] :: M281 :: M278 :: [(b4,oc 75 [(Value.slice none 0 0),(Value.slice none 0 0)])] :: [(b3,oc 78 [vi start_0.phase,vi start_0.count,vb start_0.zero])] :: S) w ∧ Env 76 a [(1,(Value.func (.func 42) #[] #[])),(2,(Value.func (.func 43) #[] #[])),(6,vp b4),(7,c277),(8,c280),(9,vp b15),(10,vi v53),(11,vp b71)] ∧ InR .i64 b.1.e0 ∧ InR .i64 b.1.e1 ∧ InR .i64 b.1.e2 ∧ InR .i64 b.1.e3 ∧ InR .i64 b.1.e4 ∧ InR .i64 b.1.e5 ∧ InR .i64 b.1.e6 ∧ InR .i64 b.1.e7 ∧ InR .i64 b.1.e8 ∧ InR .i64 b.1.e9 ∧ InR .i64 b.1.e10 ∧ OMap (aggK qbZ) (oneV (pI .i64)) m265 c277 b.2.1 M278 ∧ ORow 78 3 qbZ m265 c280 b.2.2 M281) ?_ ?_ N _ a w hL ⟨m56,c57,M58,c67,M68,Mem.le.refl _,ok,E.keep [1,2,6,7,8,9,10,11,27],h59,(ir 0),(ir 0),(ir 0),(ir 0),(ir 0),(ir 0),(ir 0),(ir 0),(ir 0),(ir 0),(ir 0),(ir 0),h69⟩
 rotate_left
 ·as_aux_lemma =>
   intro e a w _ hO
   obtain ⟨rfl,m188,c200,M201,c203,M204,hle,ok,E,r189,r190,r191,r192,r193,r194,r195,r196,r197,r198,r199,h202,h205⟩:=hO
   have le_m0:=le_m0.trans hle
   have h63:=ORow.up qbh hle h63
   have h66:=ORow.up mB hle h66
   refine qaM<|qaa<|sg<|fk E ok qf0 qih rfl 3 rfl rfl fun a E=>lv E ok (qag (cs:=[vi o94.1.e0,vi o94.1.e1,vi o94.1.e2,vi o94.1.e3,vi o94.1.e4,vi o94.1.e5,vi o94.1.e6,vi o94.1.e7,vi o94.1.e8,vi o94.1.e9,vi o94.1.e10]) qiR rfl rfl (qab.own 0 rfl rfl)) fun a E=>qaW (R:=qbw) (xo:=[.tmp 60]) (xs:=([o94.1]:List (Arr11_Int))) E ok qgU qfj rfl ⟨⟨_,rfl,rfl,⟨rfl,r189,r190,r191,r192,r193,r194,r195,r196,r197,r198,r199⟩⟩,trivial⟩ rfl rfl rfl rfl fun c206 M207 a w E ok h208=>bd hF fun l209 e210 hF=>qbo (R:=qbw) E ok 3 qbh qgU Tryz.underlying73 rfl h63 (qa0.ofRow h208 0 rfl ok) e210 ⟨_,qfj,rfl⟩ rfl rfl rfl rfl fun c211 M212 a w E ok h213=>fv E qf0 rfl fun a E=>qad E ok 4 rfl rfl rfl qn4 (ORow.cells h213) rfl ⟨(ORow.one h213),trivial⟩ rfl rfl fun w ok=>wn<|bd hF fun o214 hJ hF=>qaG (Q':=fun e a w=>e = .normal ∧ ∃ c215 M216 c218 M219,Ok u m188 (M207 :: [(b71,oc 129 [vi o94.1.e0,vi o94.1.e1,vi o94.1.e2,vi o94.1.e3,vi o94.1.e4,vi o94.1.e5,vi o94.1.e6,vi o94.1.e7,vi o94.1.e8,vi o94.1.e9,vi o94.1.e10])] :: M219 :: M216 :: [(b15,oc 75 [c215,c218])] :: M204 :: M201 :: [(b4,oc 75 [(Value.slice none 0 0),(Value.slice none 0 0)])] :: [(b3,oc 78 [vi start_0.phase,vi start_0.count,vb start_0.zero])] :: S) w ∧ Env 76 a [(1,(Value.func (.func 42) #[] #[])),(2,(Value.func (.func 43) #[] #[])),(6,vp b4),(7,c200),(8,c203),(9,vp b15),(10,vi v53)] ∧ ORow 129 11 qbw m188 c215 o214.next M216 ∧ ORow 4 1 pB m188 c218 o214.accept M219) ?_ ?_
   rotate_left
   ·intro e a w hO
    obtain ⟨rfl,c259,M260,c262,M263,ok,E,h261,h264⟩:=hO
    refine qal<|qaa<|qac<|mv E rfl fun a E=>lw E (qaw rfl rfl (InR.inc r60 (ORow.InR h59) c70)) fun a E=>av E rfl fun a E=>wpList_nil ?_
    cases hF
    exact qas ⟨m188,c203,M204,c259,M260,c262,M263,c200,M201,le_m0,(ok.pk 9 [2,3,4,5,6,7,8] rfl (by decide)),E.keep [1,2,6,7,8,9,10],h205,(InR.inc r60 (ORow.InR h59) c70),h261,h264,h202⟩
   have hF:=hJ
   obtain ⟨x221,e222,hF⟩:=bnd hF
   obtain ⟨r233,e234,hF⟩:=bnd hF
   obtain ⟨l238,e239,hF⟩:=bnd hF
   obtain rfl:=sj hF
   refine qaY [1,6] (Cls u m188 (M207 :: [(b71,oc 129 [vi o94.1.e0,vi o94.1.e1,vi o94.1.e2,vi o94.1.e3,vi o94.1.e4,vi o94.1.e5,vi o94.1.e6,vi o94.1.e7,vi o94.1.e8,vi o94.1.e9,vi o94.1.e10])] :: M212 :: [(b15,oc 75 [c211,c64])] :: M204 :: M201 :: [(b4,oc 75 [(Value.slice none 0 0),(Value.slice none 0 0)])] :: [(b3,oc 78 [vi start_0.phase,vi start_0.count,vb start_0.zero])] :: [])) (Cls u m188 (M207 :: [(b71,oc 129 [vi o94.1.e0,vi o94.1.e1,vi o94.1.e2,vi o94.1.e3,vi o94.1.e4,vi o94.1.e5,vi o94.1.e6,vi o94.1.e7,vi o94.1.e8,vi o94.1.e9,vi o94.1.e10])] :: M212 :: M204 :: M201 :: [(b4,oc 75 [(Value.slice none 0 0),(Value.slice none 0 0)])] :: [(b3,oc 78 [vi start_0.phase,vi start_0.count,vb start_0.zero])] :: [])) (by kernel_rfl) ?_
   intro w hw
   replace ok:=qbd ok hw
   clear hw
   have le_m188:=Mem.le.refl m188
   refine qai (cl1 (cq le_m188 ok [0,1,3,4,5,6,7,8] rfl) (cq le_m188 ok [0,1,3,5,6,7,8] rfl)) fun hT=>kt 0 E rfl hT (qae qgS rfl) fun a E=>qaS 1 E rfl (by kernel_rfl) nP hT (qaj qd3 rfl (qab.cown 3 rfl rfl)) rfl rfl fun a E=>kt 2 E rfl hT (qah rfl) fun a E=>kt 3 E rfl hT (qah rfl) fun a E=>kt 4 E rfl hT (qah rfl) fun a E=>?_
   obtain ⟨b243,o244,hp245,yy246⟩:=qbR qi4 h205 e222 (P:=Tryz.prog) (X:=.tmp 67) (I:=.tmp 68) (kd:=.i64) (qaT E rfl) (qaT E rfl)
   refine kt 5 E rfl hT (yy246 _ _) fun a E=>?_
   obtain ⟨es247,hl248,rr249,hh250⟩:=qb9 h205 e222 hp245 (by decide)
   obtain ⟨rfl,r251,r252⟩:=rr249
   refine qaS 6 E rfl (by kernel_rfl) nP hT (qag (cs:=[vi x221.phase,vi x221.count,vb x221.zero]) qbQ rfl rfl (qab.crow hh250 4 rfl)) rfl rfl fun a E=>qao [7] (by kernel_rfl) rfl (qar ?_)
   ·refine wo rfl<|qlw E rfl qsU rfl (qln N _ x221 ⟨rfl,r251,r252⟩ e234 hG ok) rfl rfl ?_
    rintro _ w ⟨rfl,ok⟩
    refine ⟨_,rfl,fun a E=>?_⟩
    refine wn<|qai (cl1 (cq le_m188 ok [0,1,3,4,5,6,7,8] rfl) (cq le_m188 ok [0,1,3,5,6,7,8] rfl)) fun hT=>qao [8] (by kernel_rfl) rfl (qar ?_)
    ·refine wo rfl<|qaW (R:=pB) (xo:=[.tmp 71]) (xs:=([r233]:List (Bool))) E ok qce qdD rfl ⟨⟨_,rfl,rfl,qgB⟩,trivial⟩ rfl rfl rfl rfl fun c253 M254 a w E ok h255=>wn<|qai (cl1 (cq le_m188 ok [1,2,4,5,6,7,8,9] rfl) (cq le_m188 ok [1,2,4,6,7,8,9] rfl)) fun hT=>qao [9] (by kernel_rfl) rfl (qar ?_)
     ·refine wo rfl<|qbo (R:=pB) E ok 3 mB qce Tryz.underlying32 rfl h66 (qa0.ofRow h255 0 rfl ok) e239 ⟨_,qdD,rfl⟩ rfl rfl rfl rfl fun c256 M257 a w E ok h258=>wn<|qai (cl1 (cq le_m188 ok [1,2,4,5,6,7,8,9] rfl) (cq le_m188 ok [1,2,4,6,7,8,9] rfl)) fun hT=>kt 10 E rfl hT (qae qgS rfl) fun a E=>qao [11] (by kernel_rfl) rfl (qar ?_)
      ·refine wo rfl<|qad E ok 5 rfl rfl rfl qhd (ORow.cells h258) rfl ⟨(ORow.one h258),trivial⟩ rfl rfl fun w ok=>wn<|qai (cl2 (by kernel_rfl) (cq le_m188 ok [1,2,4,6,7,8,9] rfl)) fun hT=>qaV (by kernel_rfl) ?_
       exact ⟨rfl,⟨c211,M212,c256,M257,(ok.pk 10 [1,2,3,4,5,6,7,8,9] rfl (by decide)),E.keep [1,2,6,7,8,9,10],h213,h258⟩⟩
 rintro ⟨v114,v115,v116,v117⟩ a w r ⟨m118,c119,M120,c134,M135,hle,ok,E,h121,r122,r123,r124,r125,r126,r127,r128,r129,r130,r131,r132,r133,h136⟩ hF
 replace hF:qcs N v53 v114 v115 v116 v117 = some r:=hF
 unfold qcs at hF
 have le_m56:=Mem.le.refl m56
 have le_m0:=le_m0.trans hle
 have le_m56:=le_m56.trans hle
 have h63:=ORow.up qbh hle h63
 have h66:=ORow.up mB hle h66
 refine sg<|lw E (qav rfl rfl) fun a E=>wn<|wp_seq<|cg E rfl hF (fun c137 hF=>?_) fun c137 hF=>?_
 ·refine wp_exit<|qaA ?_
  cases hF
  exact so (⟨rfl,⟨m118,c134,M135,c119,M120,le_m56,ok,E.keep [1,2,6,7,8,9,10,11],r123,r124,r125,r126,r127,r128,r129,r130,r131,r132,r133,h136,h121⟩⟩)
 refine wp_skip<|qaa<|wp_seq<|wp_block<|sg<|mv E rfl fun a E=>av E rfl fun a E=>wn<|sg<|mz E rfl rfl fun a E=>mv E rfl fun a E=>?_
 obtain ⟨x138,e139,hF⟩:=bnd hF
 obtain ⟨b140,o141,hp142,yy143⟩:=qbR qi4 h121 e139 (P:=Tryz.prog) (X:=.tmp 31) (I:=.tmp 32) (kd:=.i64) (qaT E rfl) (qaT E rfl)
 refine lv E ok (yy143 _ _) fun a E=>?_
 obtain ⟨es144,hl145,rr146,hh147⟩:=qb9 h121 e139 hp142 (by decide)
 obtain ⟨rfl,r148,r149⟩:=rr146
 refine lv E ok (qag (cs:=[vi x138.phase,vi x138.count,vb x138.zero]) qbQ rfl rfl (hh147 _ _ _ 4 rfl)) fun a E=>mv E rfl fun a E=>bd hF fun r150 e151 hF=>qlw E rfl qs3 rfl (qi2 N _ x138 ⟨rfl,r148,r149⟩ v115 r122 e151 hG ok) rfl rfl ?_
 rintro _ w ⟨m152,vs153,rfl,hle,ok,h154⟩
 have le_m0:=le_m0.trans hle
 have le_m56:=le_m56.trans hle
 have h63:=ORow.up qbh hle h63
 have h66:=ORow.up mB hle h66
 have h121:=ORow.up qlT hle h121
 have h136:=OMap.up (qgr (mI .i64)) hle h136
 obtain ⟨rfl,r155,r156⟩:=h154
 refine ⟨_,rfl,fun a E=>?_⟩
 refine qax E ok qby rfl rfl fun b157 a w E ok=>qad E ok 0 rfl rfl rfl qcq rfl rfl ⟨rfl,rfl,rfl,trivial⟩ rfl rfl fun w ok=>wn<|sg<|mv E rfl fun a E=>lv E ok (qag (cs:=[vi r150.phase,vi r150.count,vb r150.zero]) qbQ rfl rfl (qab.own 0 rfl rfl)) fun a E=>?_
 obtain ⟨xv158,h159,yy160,yy161⟩:=qmI (P:=Tryz.prog) (mo:=.tmp 38) (ko:=.tmp 39) (zx:=(0:Int)) ok 6 qm1 Tryz.underlying127 h136 rfl (qaT E rfl) (qaT E rfl) ⟨m0,_,rfl,⟨rfl,r155,r156⟩⟩ qlD (qaX (ir 0))
 obtain ⟨rfl,r162⟩:=qin h159
 refine lv E ok (yy161 _) fun a E=>mv E rfl fun a E=>lw E (qaR rfl rfl) fun a E=>lw E (qaR rfl rfl) fun a E=>av E rfl fun a E=>aw E rfl fun a E=>wp_seq<|sg<|mv E rfl fun a E=>lw E (qbu rfl) fun a E=>wn<|cg E rfl hF (fun c163 hF=>?_) fun c163 hF=>?_
 ·refine wp_skip<|qaa<|qac<|mz E rfl rfl fun a E=>?_
  obtain ⟨x182,e183,hF⟩:=bnd hF
  replace e183:idx (Arr11_Int.list v116) v115 = some x182:=e183
  refine lv E ok (qb4 qhs rfl rfl (qaN e183).1 (qaN e183).2) fun a E=>?_
  obtain ⟨z184,e185,hF⟩:=bnd hF
  have h186:=Arr11_Int.set_list e185
  have h187:=AllP.setI (q:=(InR .i64)) (xs:=Arr11_Int.list v116) ⟨r123,r124,r125,r126,r127,r128,r129,r130,r131,r132,r133,trivial⟩ r162 h186
  refine qed (c:=[vi v116.e0,vi v116.e1,vi v116.e2,vi v116.e3,vi v116.e4,vi v116.e5,vi v116.e6,vi v116.e7,vi v116.e8,vi v116.e9,vi v116.e10]) (c':=[vi z184.e0,vi z184.e1,vi z184.e2,vi z184.e3,vi z184.e4,vi z184.e5,vi z184.e6,vi z184.e7,vi z184.e8,vi z184.e9,vi z184.e10]) E ok 1 rfl rfl rfl qaZ rfl rfl ⟨rfl,trivial⟩ (qh7 (n:=11) (qaN e183).2 (Nat.le_of_ble_eq_true rfl)) (qju (f:=(Value.int .i64)) (pre:=[]) (post:=[]) (xs:=Arr11_Int.list v116) (ys:=z184.list) rfl h186) rfl fun w ok=>wpList_nil<|qal<|qaa<|qac<|lw E (qaw rfl rfl (InR.inc r122 (ir 11) c137)) fun a E=>mv E rfl fun a E=>wpList_nil ?_
  cases hF
  exact qas ⟨m152,c119,M120,c134,M135,le_m56,(ok.pk 9 [1,2,3,4,5,6,7,8] rfl (by decide)),E.keep [1,2,6,7,8,9,10,11,27],h121,(InR.inc r122 (ir 11) c137),h187.1,h187.2.1,h187.2.2.1,h187.2.2.2.1,h187.2.2.2.2.1,h187.2.2.2.2.2.1,h187.2.2.2.2.2.2.1,h187.2.2.2.2.2.2.2.1,h187.2.2.2.2.2.2.2.2.1,h187.2.2.2.2.2.2.2.2.2.1,h187.2.2.2.2.2.2.2.2.2.2.1,h136⟩
 refine sg<|mv E rfl fun a E=>lv E ok (qcF qi4 h121 rfl) fun a E=>aw E rfl fun a E=>sg<|mv E rfl fun a E=>lv E ok (qag (cs:=[vi r150.phase,vi r150.count,vb r150.zero]) qbQ rfl rfl (qab.own 0 rfl rfl)) fun a E=>mv E rfl fun a E=>bd hF fun l164 e165 hF=>qim (.inl rfl) E ok 6 qm1 Tryz.underlying127 h136 rfl rfl rfl rfl ⟨m0,_,rfl,⟨rfl,r155,r156⟩⟩ (qaX (ORow.InR h121)) e165 rfl fun M166 w ok h167=>wn<|qac<|mv E rfl fun a E=>lv E ok (qag (cs:=[vi r150.phase,vi r150.count,vb r150.zero]) qbQ rfl rfl (qab.own 0 rfl rfl)) fun a E=>qaW (R:=qbZ) (xo:=[.tmp 51]) (xs:=([r150]:List (DigitsRead))) E ok qi4 qby rfl ⟨⟨_,rfl,rfl,⟨rfl,r155,r156⟩⟩,trivial⟩ rfl rfl rfl rfl fun c168 M169 a w E ok h170=>?_
 refine bd hF fun l171 e172 hF=>qbo (R:=qbZ) E ok 6 qlT qi4 Tryz.underlying128 rfl h121 (qa0.ofRow h170 0 rfl ok) e172 ⟨_,qby,rfl⟩ rfl rfl rfl rfl fun c173 M174 a w E ok h175=>aw E rfl fun a E=>qac<|mz E rfl rfl fun a E=>?_
 obtain ⟨x176,e177,hF⟩:=bnd hF
 replace e177:idx (Arr11_Int.list v116) v115 = some x176:=e177
 refine lv E ok (qb4 qhs rfl rfl (qaN e177).1 (qaN e177).2) fun a E=>?_
 obtain ⟨z178,e179,hF⟩:=bnd hF
 have h180:=Arr11_Int.set_list e179
 have h181:=AllP.setI (q:=(InR .i64)) (xs:=Arr11_Int.list v116) ⟨r123,r124,r125,r126,r127,r128,r129,r130,r131,r132,r133,trivial⟩ (ORow.InR h121) h180
 refine qed (c:=[vi v116.e0,vi v116.e1,vi v116.e2,vi v116.e3,vi v116.e4,vi v116.e5,vi v116.e6,vi v116.e7,vi v116.e8,vi v116.e9,vi v116.e10]) (c':=[vi z178.e0,vi z178.e1,vi z178.e2,vi z178.e3,vi z178.e4,vi z178.e5,vi z178.e6,vi z178.e7,vi z178.e8,vi z178.e9,vi z178.e10]) E ok 2 rfl rfl rfl qaZ rfl rfl ⟨rfl,trivial⟩ (qh7 (n:=11) (qaN e177).2 (Nat.le_of_ble_eq_true rfl)) (qju (f:=(Value.int .i64)) (pre:=[]) (post:=[]) (xs:=Arr11_Int.list v116) (ys:=z178.list) rfl h180) rfl fun w ok=>wpList_nil<|qal<|qaa<|qac<|lw E (qaw rfl rfl (InR.inc r122 (ir 11) c137)) fun a E=>mv E rfl fun a E=>wpList_nil ?_
 cases hF
 exact qas ⟨m152,c173,M174,c134,M166,le_m56,(ok.pk 10 [2,3,4,5,6,7,8,9] rfl (by decide)),E.keep [1,2,6,7,8,9,10,11,27],h175,(InR.inc r122 (ir 11) c137),h181.1,h181.2.1,h181.2.2.1,h181.2.2.2.1,h181.2.2.2.2.1,h181.2.2.2.2.2.1,h181.2.2.2.2.2.2.1,h181.2.2.2.2.2.2.2.1,h181.2.2.2.2.2.2.2.2.1,h181.2.2.2.2.2.2.2.2.2.1,h181.2.2.2.2.2.2.2.2.2.2.1,h167⟩
def ql4 (u:World) (m0:Mem) (S:Segs) (r:DFA) (a:Act) (w:World):Prop :=
 ∃ m1 v0,m0.le m1 ∧ Ok u m1 S w ∧ a.defers = [] ∧ RVs Tryz.prog a w [.c 0 35 (.agg v0.toArray)] ∧ pDFA m1 v0 r
theorem ql9 (N:Nat) {r:DFA} (hF:qgQ N  = some r) (hG:Glob u) (ok:Ok u m0 S w) :
  Calls Tryz.prog 15 [].toArray w fun e w'=>∃ m1 v0,e = .returned (.agg v0.toArray) ∧ m0.le m1 ∧ Ok u m1 S w' ∧ pDFA m1 v0 r:=by
 have le_m0:=Mem.le.refl m0
 unfold qgQ at hF
 refine en (ql4 u m0 S) r Tryz.func15 rfl rfl rfl (by rintro a w ⟨m1,v0,hle,ok,hd,hrv,h0⟩; exact qbG [.c 0 35 (.agg v0.toArray)] hd rfl hrv ⟨m1,v0,rfl,hle,ok,h0⟩) fun fin a E=>sg<|qax E ok qfV rfl rfl fun b1 a w E ok=>wn<|sg<|lw E (qaF (ps:=[]) (qs:=[]) (cs:=[vi 0,vi 0,vb false]) qby qbp rfl trivial rfl) fun a E=>bd hF fun r2 e3 hF=>qan E qsM rfl (qf2 N _ (DigitsRead.mk 0 0 false) ⟨rfl,(ir 0),(ir 0)⟩ e3 hG ok) rfl rfl ?_
 rintro _ w ⟨m4,vs5,rfl,hle,ok,h6⟩
 have le_m0:=le_m0.trans hle
 obtain ⟨c7,c9,rfl,h8,h10⟩:=h6
 refine ⟨_,rfl,fun a E=>?_⟩
 refine bd hF fun r11 e12 hF=>qan E qqs rfl (qhp N _ r2 ⟨_,_,rfl,h8,h10⟩ e12 hG ok) rfl rfl ?_
 rintro _ w ⟨m13,vs14,rfl,hle,ok,h15⟩
 have le_m0:=le_m0.trans hle
 have h8:=(mL qbh).up hle h8
 have h10:=(mL mB).up hle h10
 obtain ⟨c16,c18,rfl,h17,h19⟩:=h15
 refine ⟨_,rfl,fun a E=>?_⟩
 refine bd hF fun r20 e21 hF=>qan E qqv rfl (qig N _ r11 ⟨_,_,rfl,h17,h19⟩ e21 hG ok) rfl rfl ?_
 rintro _ w ⟨m22,vs23,rfl,hle,ok,h24⟩
 have le_m0:=le_m0.trans hle
 have h8:=(mL qbh).up hle h8
 have h10:=(mL mB).up hle h10
 have h17:=(mL qbh).up hle h17
 have h19:=(mL mB).up hle h19
 obtain ⟨c26,c28,rfl,r25,h27,h29⟩:=h24
 refine ⟨_,rfl,fun a E=>?_⟩
 refine qad E ok 0 rfl rfl rfl qg6 rfl rfl ⟨rfl,(qa5 h27),(qa5 h29),trivial⟩ rfl rfl fun w ok=>wn<|wp_ret ?_
 exact fin hF ⟨m22,[vi r20.Start,c26,c28],le_m0,ok.drop,E.d,⟨rv_c (cs:=[vi r20.Start,c26,c28]) E ok rfl qha rfl (qab.own 0 rfl rfl),trivial⟩,⟨_,_,rfl,r25,h27,h29⟩⟩
end Go.Proofs.YtidfofhmnlhfjaaGreatDoor
