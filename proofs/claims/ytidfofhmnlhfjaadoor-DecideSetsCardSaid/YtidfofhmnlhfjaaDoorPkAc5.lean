/- Texts of this proof, put together by pack.py: what its declarations name. -/
import Derived.Test.YtidfofhmnlhfjaaDoorPkAc4
import Derived.Test.YtidfofhmnlhfjaaDoorCards
import Derived.Test.YtidfofhmnlhfjaaDoorChecked
import Derived.Test.YtidfofhmnlhfjaaDoorProg
import Derived.Test.YtidfofhmnlhfjaaDoorRows
import Derived.Test.YtidfofhmnlhfjaaDoorTie
set_option linter.unusedVariables false
set_option linter.unusedSimpArgs false
namespace Go.Proofs.YtidfofhmnlhfjaaDoor
open Go.X
variable {u:World} {m0:Mem} {S:Segs} {w:World}
set_option maxHeartbeats 4000000
set_option maxRecDepth 100000
def qdB:Rp Arr2_Int:=fun _ cs x=>cs = [.int .i64 x.e0,.int .i64 x.e1] ∧ InR .i64 x.e0 ∧ InR .i64 x.e1
theorem qnC:Mono qdB:=⟨fun _ h=>by
 obtain ⟨e,h0,h1⟩:=h
 exact ⟨e,h0,h1⟩,fun h=>by
 obtain ⟨rfl,h0,h1⟩:=h
 exact ⟨rfl,rfl,trivial⟩⟩
theorem Arr2_Int.set_list {a z:Arr2_Int} {i:Int} {x:Int} (h:Arr2_Int.set a i x = some z):setI a.list i x = some z.list:=by
 unfold Arr2_Int.set at h
 cases hs:setI a.list i x with
 | none=>rw [hs] at h; cases h
 | some l =>
  rw [hs] at h
  obtain ⟨_,_,hl⟩:=qge hs
  have hn:l.length = 2:=by rw [hl,List.length_set]; rfl
  clear hl hs
  match l,hn,h with
  | [x0,x1],_,h=>cases h; rfl
theorem qpC:aggB Tryd.prog 147 12 = true:=by kernel_rfl
theorem qo1:aggB Tryd.prog 99 2 = true:=by kernel_rfl
theorem qk5:ArT Tryd.prog 99 3 2 1:=ArT.of (by kernel_rfl)
theorem qrQ:qaV Tryd.prog 147 1 1 = true:=by kernel_rfl
theorem qgP:qaV Tryd.prog 33 0 0 = true:=by kernel_rfl
theorem qfS:qaV Tryd.prog 33 2 2 = true:=by kernel_rfl
theorem qpK:qaV Tryd.prog 41 0 0 = true:=by kernel_rfl
theorem qht:qaV Tryd.prog 41 1 1 = true:=by kernel_rfl
theorem qjG:qaV Tryd.prog 41 2 2 = true:=by kernel_rfl
theorem qt7:goB Tryd.prog 29 = true:=by kernel_rfl
theorem qtZ:goB Tryd.prog 30 = true:=by kernel_rfl
theorem qsr:goB Tryd.prog 46 = true:=by kernel_rfl
theorem qt3:goB Tryd.prog 47 = true:=by kernel_rfl
theorem qsj:goB Tryd.prog 64 = true:=by kernel_rfl
theorem quB:goB Tryd.prog 65 = true:=by kernel_rfl
theorem qh2:goB Tryd.prog 66 = true:=by kernel_rfl
theorem qs1:∃ i,Tryd.prog.info? 147 = some i ∧ i.size = 12:=⟨_,rfl,by kernel_rfl⟩
theorem qtG:∃ i,Tryd.prog.info? 99 = some i ∧ i.size = 2:=⟨_,rfl,by kernel_rfl⟩
theorem qp7:qeQ Tryd.prog 147 = some [(0,1),(1,11)]:=by kernel_rfl
theorem qi2:SlT Tryd.prog 101 99 2:=SlT.of (by kernel_rfl)
theorem qoo:qco Tryd.prog 147 = some [vi 0,vi 0,vi 0,vi 0,vi 0,vi 0,vi 0,vi 0,vi 0,vi 0,vi 0,vi 0]:=by kernel_rfl
theorem qhS:qco Tryd.prog 99 = some [vi 0,vi 0]:=by kernel_rfl
theorem qm5:KeyR Tryd.prog 99 (aggK qdB):=qj3 (n:=2) qjJ (of_decide_eq_true (by kernel_rfl)) (by kernel_rfl) (of_decide_eq_true (by kernel_rfl)) (of_decide_eq_true (by kernel_rfl)) (by kernel_rfl) (by kernel_rfl)
 (fun {m cs x} h=>by
  obtain ⟨rfl,h0,h1⟩:=h
  rfl)
 (fun {m cs x} d h=>by
  obtain ⟨rfl,h0,h1⟩:=h
  exact qon (f:=(Value.int .i64)) (xs:=Arr2_Int.list x) Tryd.underlying99 (by kernel_rfl) (by kernel_rfl) rfl rfl (fun y hy=>by have hq:=AllP.mem (q:=(InR .i64)) (xs:=Arr2_Int.list x) ⟨h0,h1,trivial⟩ y hy; exact qg6 Tryd.underlying3 hq))
 (fun {m m' cs cs' x x'} h h'=>by
  obtain ⟨rfl,_,_⟩:=h
  obtain ⟨rfl,_,_⟩:=h'
  constructor
  ·intro e; simp at e; rcases x with ⟨y0,y1⟩; rcases x' with ⟨y2,y3⟩; simp_all
  ·intro e; rw [e])
theorem qoj:KeyR Tryd.prog 147 (aggK pKey):=qj3 (n:=12) qjJ (of_decide_eq_true (by kernel_rfl)) (by kernel_rfl) (of_decide_eq_true (by kernel_rfl)) (of_decide_eq_true (by kernel_rfl)) (by kernel_rfl) (by kernel_rfl)
 (fun {m cs x} h=>by
  obtain ⟨rfl,h0,h1,h2,h3,h4,h5,h6,h7,h8,h9,h10,h11⟩:=h
  rfl)
 (fun {m cs x} d h=>by
  obtain ⟨rfl,h0,h1,h2,h3,h4,h5,h6,h7,h8,h9,h10,h11⟩:=h
  refine qid Tryd.underlying147 (by kernel_rfl) (by kernel_rfl) ?_
  intro f hf
  simp only [List.mem_cons,List.not_mem_nil,or_false] at hf
  rcases hf with rfl | rfl
  ·exact qg6 Tryd.underlying3 h0
  ·exact qon (f:=(Value.int .i64)) (xs:=Arr11_Int.list (x.next)) Tryd.underlying90 (by kernel_rfl) (by kernel_rfl) rfl rfl (fun y hy=>by have hq:=AllP.mem (q:=(InR .i64)) (xs:=Arr11_Int.list (x.next)) ⟨h1,h2,h3,h4,h5,h6,h7,h8,h9,h10,h11,trivial⟩ y hy; exact qg6 Tryd.underlying3 hq))
 (fun {m m' cs cs' x x'} h h'=>by
  obtain ⟨rfl,_,_,_,_,_,_,_,_,_,_,_,_⟩:=h
  obtain ⟨rfl,_,_,_,_,_,_,_,_,_,_,_,_⟩:=h'
  constructor
  ·intro e; simp at e; rcases x with ⟨y0,⟨y1,y2,y3,y4,y5,y6,y7,y8,y9,y10,y11⟩⟩; rcases x' with ⟨y12,⟨y13,y14,y15,y16,y17,y18,y19,y20,y21,y22,y23⟩⟩; simp_all
  ·intro e; rw [e])
def qlR (u:World) (m0:Mem) (S:Segs) (r:Bool) (a:Act) (w:World):Prop :=
 Ok u m0 S w ∧ a.defers = [] ∧ RVs Tryd.prog a w [.t 4 (.bool r)]
theorem qlS (N:Nat) (x_0:Bool) (y_1:Bool) {r:Bool} (hF:qgq N x_0 y_1 = some r) (ok:Ok u m0 S w) :
  Calls Tryd.prog 30 [vb x_0,vb y_1].toArray w fun e w'=>(e = .returned (.bool r) ∧ Ok u m0 S w'):=by
 unfold qgq at hF
 refine en (qlR u m0 S) r Tryd.func30 rfl rfl rfl (fun _ _ h=>ra h rfl) fun fin a E=>sg<|aw E rfl fun a E=>sg<|mz E rfl rfl fun a E=>qdv x_0 (fun c1=>?_) (fun c1=>?_)
 ·have hF:=qdd c1 hF
  have E:=E.upd 6 c1 rfl
  refine mv E rfl fun a E=>pt E rfl rfl fun a E=>aw E rfl fun a E=>wp_ret ?_
  exact fin hF ⟨ok,E.d,rz E rfl⟩
 have hF:=qdc c1 hF
 have E:=E.upd 6 c1 rfl
 refine ls E fun a E=>pf E rfl rfl fun a E=>aw E rfl fun a E=>wp_ret ?_
 exact fin hF ⟨ok,E.d,rz E rfl⟩
def qgV (u:World) (m0:Mem) (S:Segs) (r:Bool) (a:Act) (w:World):Prop :=
 Ok u m0 S w ∧ a.defers = [] ∧ RVs Tryd.prog a w [.t 2 (.bool r)]
theorem qiv (N:Nat) (vd_0:List Value) (d_0:DFA) (hd_0:pDFA m0 vd_0 d_0) {r:Bool} (hF:qeN N d_0 = some r) (ok:Ok u m0 S w) :
  Calls Tryd.prog 46 [.agg vd_0.toArray].toArray w fun e w'=>(e = .returned (.bool r) ∧ Ok u m0 S w'):=by
 obtain ⟨c2,c4,rfl,r1,h3,h5⟩:=hd_0
 unfold qeN at hF
 refine en (qgV u m0 S) r Tryd.func46 rfl rfl rfl (fun _ _ h=>ra h rfl) fun fin a E=>sg<|qbQ E ok rfl rfl rfl fun b6 a w E ok=>aw E rfl fun a E=>sg<|fk E ok qdW qde rfl 0 rfl rfl fun a E=>lv E ok (qaz qcP h3 rfl) fun a E=>aw E rfl fun a E=>wp_seq<|sg<|mv E rfl fun a E=>lw E (qaC rfl rfl) fun a E=>mv E rfl fun a E=>bu E 13 hF (fun c7 hF E=>?_) fun c7 hF E=>?_
 ·refine lsq E fun a E=>pt E rfl rfl fun a E=>mv E rfl fun a E=>lsz E fun a E=>ls E fun a E=>pt E rfl rfl fun a E=>mv E rfl fun a E=>lsq E fun a E=>ls E fun a E=>pt E rfl rfl fun a E=>mv E rfl fun a E=>?_
  refine lsz E fun a E=>pt E rfl rfl fun a E=>wn<|c_if E rfl (fun _=>?_) (fun h=>by cases h)
  refine sg<|aw E rfl fun a E=>wp_ret<|qav ?_
  exact fin hF ⟨ok.drop,E.d,rz E rfl⟩
 refine mv E rfl fun a E=>lw E (qcK rfl rfl) fun a E=>pf E rfl rfl fun a E=>mv E rfl fun a E=>bu E 17 hF (fun c8 hF E=>?_) fun c8 hF E=>?_
 ·refine lsz E fun a E=>ls E fun a E=>pt E rfl rfl fun a E=>mv E rfl fun a E=>lsq E fun a E=>ls E fun a E=>pt E rfl rfl fun a E=>mv E rfl fun a E=>lsz E fun a E=>?_
  refine pt E rfl rfl fun a E=>wn<|c_if E rfl (fun _=>?_) (fun h=>by cases h)
  refine sg<|aw E rfl fun a E=>wp_ret<|qav ?_
  exact fin hF ⟨ok.drop,E.d,rz E rfl⟩
 refine fk E ok qfS qdK rfl 0 rfl rfl fun a E=>lv E ok (qaz qbD h5 rfl) fun a E=>mv E rfl fun a E=>lw E (qd5 rfl rfl) fun a E=>pf E rfl rfl fun a E=>mv E rfl fun a E=>bu E 24 hF (fun c9 hF E=>?_) fun c9 hF E=>?_
 ·refine lsq E fun a E=>ls E fun a E=>pt E rfl rfl fun a E=>mv E rfl fun a E=>lsz E fun a E=>pt E rfl rfl fun a E=>wn<|c_if E rfl (fun _=>?_) (fun h=>by cases h)
  refine sg<|aw E rfl fun a E=>wp_ret<|qav ?_
  exact fin hF ⟨ok.drop,E.d,rz E rfl⟩
 refine fk E ok qgP qam rfl 0 rfl rfl fun a E=>lw E (qaC rfl rfl) fun a E=>pf E rfl rfl fun a E=>mv E rfl fun a E=>bu E 29 hF (fun c10 hF E=>?_) fun c10 hF E=>?_
 ·refine lsz E fun a E=>pt E rfl rfl fun a E=>wn<|c_if E rfl (fun _=>?_) (fun h=>by cases h)
  refine sg<|aw E rfl fun a E=>wp_ret<|qav ?_
  exact fin hF ⟨ok.drop,E.d,rz E rfl⟩
 refine fk E ok qgP qam rfl 0 rfl rfl fun a E=>mv E rfl fun a E=>lw E (qjh rfl rfl) fun a E=>pf E rfl rfl fun a E=>wn<|cf E rfl hF (fun c11 hF=>?_) fun c11 hF=>?_
 ·refine sg<|aw E rfl fun a E=>wp_ret<|qav ?_
  exact fin hF ⟨ok.drop,E.d,rz E rfl⟩
 refine wp_skip<|qaa<|wp_seq<|sg<|fk E ok qdW qde rfl 0 rfl rfl fun a E=>lv E ok (qaz qcP h3 rfl) fun a E=>mv E rfl fun a E=>wn<|wp_block<|bd hF fun o13 hL hF=>qaH _ (fun (s:Int) a w=>Ok u m0 ([(b6,oc 33 [vi d_0.Start,c2,c4])] :: S) w ∧ Env 60 a [(3,(vi (d_0.Next.length:Int))),(36,c2),(37,(vi (d_0.Next.length:Int))),(38,vi s)] ∧ InR .i64 s) (fun (b:(Unit ⊕ Bool)) e a w=>(Sum.elim (fun b50=>e = (.exit 0) ∧ Ok u m0 ([(b6,oc 33 [vi d_0.Start,c2,c4])] :: S) w ∧ Env 60 a []) (fun b51=>e = .ret ∧ qgV u m0 S b51 a w)) b) ?_ ?_ N _ a w hL ⟨ok,E.keep [3,36,37,38],(ir 0)⟩
 rotate_left
 ·intro e a w _ hO
  rcases o13 with o13 | o13
  rotate_left
  ·obtain ⟨rfl,hret⟩:=hO
   refine qaI<|qav ?_
   exact fin hF hret
  have hF:=qcN hF
  obtain ⟨rfl,ok,E⟩:=hO
  refine qaN<|qaa<|sg<|aw E rfl fun a E=>wp_ret ?_
  exact fin hF ⟨ok.drop,E.d,rz E rfl⟩
 rintro v15 a w r ⟨ok,E,r16⟩ hF
 replace hF:qdg N d_0 v15 = some r:=hF
 unfold qdg at hF
 refine sg<|lw E (qaC rfl rfl) fun a E=>wn<|wp_seq<|cg E rfl hF (fun c17 hF=>?_) fun c17 hF=>?_
 ·refine wp_exit<|qaE ?_
  cases hF
  exact so (sl ⟨rfl,⟨ok,E.keep []⟩⟩)
 refine wp_skip<|qaa<|wp_seq<|wp_block<|sg ?_
 obtain ⟨x18,e19,hF⟩:=bnd hF
 obtain ⟨b20,o21,es22,hl23,rr24,at25,yy26⟩:=ia E 36 38 qcP h3 e19
 obtain ⟨c27,rfl,h28⟩:=qbG rr24
 refine lv E ok (yy26 _ _) fun a E=>lv E ok (qai qcs rfl (qab.ro at25)) fun a E=>aw E rfl fun a E=>wp_seq<|sg<|mv E rfl fun a E=>lv E ok (qaz qaR h28 rfl) fun a E=>lw E (qd5 rfl rfl) fun a E=>wn<|cf E rfl hF (fun c29 hF=>?_) fun c29 hF=>?_
 ·refine sg<|aw E rfl fun a E=>wp_ret<|qav<|qaI<|qav ?_
  cases hF
  exact so (sr ⟨rfl,⟨ok.drop,E.d,rz E rfl⟩⟩)
 refine wp_skip<|qaa<|sg<|mv E rfl fun a E=>lv E ok (qaz qaR h28 rfl) fun a E=>mv E rfl fun a E=>wn<|wp_block<|bd hF fun o31 hL hF=>qaH _ (fun (s:Int) a w=>Ok u m0 ([(b6,oc 33 [vi d_0.Start,c2,c4])] :: S) w ∧ Env 60 a [(3,(vi (d_0.Next.length:Int))),(36,c2),(37,(vi (d_0.Next.length:Int))),(38,vi v15),(45,c27),(46,(vi (x18.length:Int))),(47,vi s)] ∧ InR .i64 s) (fun (b:(Unit ⊕ Bool)) e a w=>(Sum.elim (fun b48=>e = (.exit 2) ∧ Ok u m0 ([(b6,oc 33 [vi d_0.Start,c2,c4])] :: S) w ∧ Env 60 a [(3,(vi (d_0.Next.length:Int))),(36,c2),(37,(vi (d_0.Next.length:Int))),(38,vi v15)]) (fun b49=>e = .ret ∧ qgV u m0 S b49 a w)) b) ?_ ?_ N _ a w hL ⟨ok,E.keep [3,36,37,38,45,46,47],(ir 0)⟩
 rotate_left
 ·intro e a w _ hO
  rcases o31 with o31 | o31
  rotate_left
  ·have hF:=qmB hF
   obtain ⟨rfl,hret⟩:=hO
   refine qaI<|qaI<|qav ?_
   cases hF
   exact so (sr ⟨rfl,hret⟩)
  have hF:=qcN hF
  obtain ⟨rfl,ok,E⟩:=hO
  refine qaN<|qap<|qaa<|qac<|lw E (qaA rfl rfl (InR.inc r16 (qal h3) c17)) fun a E=>mv E rfl fun a E=>wpList_nil ?_
  cases hF
  exact qau ⟨ok,E.keep [3,36,37,38],(InR.inc r16 (qal h3) c17)⟩
 rintro v33 a w r ⟨ok,E,r34⟩ hF
 replace hF:qc9 N d_0 x18 v33 = some r:=hF
 unfold qc9 at hF
 refine sg<|lw E (qaC rfl rfl) fun a E=>wn<|wp_seq<|cg E rfl hF (fun c35 hF=>?_) fun c35 hF=>?_
 ·refine wp_exit<|qaE ?_
  cases hF
  exact so (sl ⟨rfl,⟨ok,E.keep [3,36,37,38]⟩⟩)
 refine wp_skip<|qaa<|wp_seq<|wp_block<|sg ?_
 obtain ⟨x36,e37,hF⟩:=bnd hF
 obtain ⟨b38,o39,es40,hl41,rr42,at43,yy44⟩:=ia E 45 47 qaR h28 e37
 obtain ⟨rfl,r45⟩:=rr42
 refine lv E ok (yy44 _ _) fun a E=>lv E ok (qai qam rfl (qab.ro at43)) fun a E=>aw E rfl fun a E=>sg<|mv E rfl fun a E=>lw E (qaC rfl rfl) fun a E=>mv E rfl fun a E=>bu E 53 hF (fun c46 hF E=>?_) fun c46 hF E=>?_
 ·refine lsq E fun a E=>ls E fun a E=>pt E rfl rfl fun a E=>wn<|c_if E rfl (fun _=>?_) (fun h=>by cases h)
  refine sg<|aw E rfl fun a E=>wp_ret<|qaI<|qav ?_
  cases hF
  exact so (sr ⟨rfl,⟨ok.drop,E.d,rz E rfl⟩⟩)
 refine mz E rfl rfl fun a E=>lw E (qjh rfl rfl) fun a E=>pf E rfl rfl fun a E=>wn<|cg E rfl hF (fun c47 hF=>?_) fun c47 hF=>?_
 ·refine wp_skip<|qap<|qaa<|qac<|lw E (qaA rfl rfl (InR.inc r34 (qal h28) c35)) fun a E=>mv E rfl fun a E=>wpList_nil ?_
  cases hF
  exact qau ⟨ok,E.keep [3,36,37,38,45,46,47],(InR.inc r34 (qal h28) c35)⟩
 refine sg<|aw E rfl fun a E=>wp_ret<|qaI<|qav ?_
 cases hF
 exact so (sr ⟨rfl,⟨ok.drop,E.d,rz E rfl⟩⟩)
theorem qcn {u:World} {m0:Mem} {S:Segs} {w:World} (N:Nat) (n:Int) (rn:InR .i64 n) {r:List (List Int)} (hF:qe8 N n = some r) (ok:Ok u m0 S w) :
  Calls Tryd.prog 66 [.int .i64 n].toArray w fun e w'=>∃ m1 v M,e = .returned v ∧ m0.le m1 ∧ Ok u m1 (M :: S) w' ∧ qbg m1 v r M:=by
 unfold qe8 Go.X.grid at hF
 split at hF
 case isFalse=>cases hF
 rename_i hb
 cases hF
 obtain ⟨k,rfl⟩:=Int.eq_ofNat_of_zero_le hb.1
 have hk:k * 11 ≤ LIM:=by omega
 simp only [Int.toNat_natCast]
 have wk:∀ z:Int,0 ≤ z → z ≤ LIM → IntKind.wrap .i64 z = z:=fun z h1 h2=>qfd (qfz.2 ⟨by omega,by unfold LIM at h2; omega⟩)
 refine enter Tryd.func66 rfl rfl rfl fun a E=>sg<|aw E rfl fun a E=>sg<|mv E rfl fun a E=>lw E (qgw rfl rfl) fun a E=>?_
 rw [show IntKind.wrap .i64 ((k:Int) * 11) = ((k * 11:Nat):Int) from by rw [wk _ (by omega) (by omega)]; omega] at E
 refine qpm (z:=[.int .i64 0]) E ok qaR qdI rfl rfl hk rfl rfl fun b1 a w E ok=>aw E rfl fun a E=>sg<|mv E rfl fun a E=>qpm (z:=[.slice none 0 0]) (j:=k) E ok qcP qgO rfl rfl (by omega) rfl rfl fun b2 a w E ok=>aw E rfl fun a E=>wp_seq<|sg<|mv E rfl fun a E=>lv E ok (qkc Tryd.underlying30 rfl) fun a E=>mv E rfl fun a E=>wn<|wp_block ?_
 -- the loop: the first rows stand
 have hl1:(reps [vi 0] (k * 11)).length = k * 11:=by rw [qh3]; simp
 have hl2:(reps [Value.slice none 0 0] k).length = k:=by rw [qh3]; simp
 refine qaH (fun i:Nat=>if i < k then some (Sum.inl (i + 1)) else some (Sum.inr ()))
  (fun i a w=>i ≤ k ∧ ∃ c2:List Value,c2.length = k ∧ (∀ j,j < i → c2[j]? = some (.slice (some ⟨b1,j * 11,none⟩) 11 11)) ∧ Ok u m0 ([(b2,Obj.cells c2.toArray 83 (0,0))] :: [(b1,Obj.cells (reps [.int .i64 0] (k * 11)).toArray 3 (0,0))] :: S) w ∧
   Env 31 a [(3,.slice (some ⟨b1,0,none⟩) (k * 11) (k * 11)),(4,.slice (some ⟨b2,0,none⟩) k k),(12,.int .i64 (k:Int)),(13,.int .i64 (i:Int))])
  (fun _ e a w=>e = .exit 0 ∧ ∃ c2:List Value,c2.length = k ∧ (∀ j,j < k → c2[j]? = some (.slice (some ⟨b1,j * 11,none⟩) 11 11)) ∧ Ok u m0 ([(b2,Obj.cells c2.toArray 83 (0,0))] :: [(b1,Obj.cells (reps [.int .i64 0] (k * 11)).toArray 3 (0,0))] :: S) w ∧
   Env 31 a [(4,.slice (some ⟨b2,0,none⟩) k k)]) ?_ ?_ (k + 1) 0 a w (b:=()) ?_ ?_
 ·intro i a w r hI hB
  obtain ⟨hik,c2,h1,h2,ok,E⟩:=hI
  refine sg<|lw E (qaC rfl rfl) fun a E=>wn<|wp_seq<|c_if E rfl (fun hc=>?_) (fun hc=>?_)
  ·have hlt:i < k:=by have:=of_decide_eq_true hc; omega
   rw [if_pos hlt] at hB
   obtain rfl:=Option.some.inj hB
   refine wp_skip<|qaa<|wp_seq<|wp_block<|sg<|mv E rfl fun a E=>av E rfl fun a E=>wn<|qac<|mz E rfl rfl fun a E=>mz E rfl rfl fun a E=>lw E (qgw rfl rfl) fun a E=>?_
   rw [show IntKind.wrap .i64 ((i:Int) * 11) = ((i * 11:Nat):Int) from by rw [wk _ (by omega) (by omega)]; omega] at E
   refine mv E rfl fun a E=>lw E (qcg rfl rfl) fun a E=>?_
   rw [show IntKind.wrap .i64 ((i:Int) + 1) = ((i + 1:Nat):Int) from by rw [wk _ (by omega) (by omega)]; omega] at E
   refine lw E (qgw rfl rfl) fun a E=>?_
   rw [show IntKind.wrap .i64 (((i + 1:Nat):Int) * 11) = (((i + 1) * 11:Nat):Int) from by rw [wk _ (by omega) (by omega)]; omega] at E
   refine mv E rfl fun a E=>lw E (qcg rfl rfl) fun a E=>?_
   rw [show IntKind.wrap .i64 ((i:Int) + 1) = ((i + 1:Nat):Int) from by rw [wk _ (by omega) (by omega)]; omega] at E
   refine lw E (qgw rfl rfl) fun a E=>?_
   rw [show IntKind.wrap .i64 (((i + 1:Nat):Int) * 11) = (((i + 1) * 11:Nat):Int) from by rw [wk _ (by omega) (by omega)]; omega] at E
   refine lv E ok (qrY (k:=1) qaR rfl rfl rfl rfl (by omega) (by omega) (by omega) (by omega)) fun a E=>?_
   rw [show (i + 1) * 11 - i * 11 = 11 from by omega,show 0 + i * 11 * 1 = i * 11 from by omega] at E
   refine lv E ok (qr3 (k:=1) qcP rfl rfl hlt) fun a E=>qaf (c:=c2) (T:=83) (vs:=[.slice (some ⟨b1,i * 11,none⟩) 11 11]) E ok 0 rfl rfl rfl qj1 rfl rfl ⟨rfl,trivial⟩ (Nat.ble_eq_true_of_le (by simp only [List.length_cons,List.length_nil]; omega)) rfl fun w ok=>wpList_nil<|qap<|qaa<|qac<|lw E (qcg rfl rfl) fun a E=>?_
   rw [show IntKind.wrap .i64 ((i:Int) + 1) = ((i + 1:Nat):Int) from by rw [wk _ (by omega) (by omega)]; omega] at E
   refine mv E rfl fun a E=>wpList_nil<|qau ⟨by omega,_,?_,?_,ok,E.keep [3,4,12,13]⟩
   ·rw [qe7]; exact h1
   ·intro j hj
    have hw:=qg8 [.slice (some ⟨b1,i * 11,none⟩) 11 11] c2 (0 + i * 1) j (by simp only [List.length_cons,List.length_nil]; omega)
    rw [hw]
    by_cases hji:j = i
    ·subst hji
     rw [if_pos (by simp only [List.length_cons,List.length_nil]; omega)]
     simp
    ·rw [if_neg (by simp only [List.length_cons,List.length_nil]; omega)]
     exact h2 j (by omega)
  ·have hge:¬ i < k:=by have:=of_decide_eq_false hc; omega
   rw [if_neg hge] at hB
   obtain rfl:=Option.some.inj hB
   refine wp_exit<|qaE<|qtm (by nofun) ⟨rfl,c2,h1,fun j hj=>h2 j (by omega),ok,E.keep [4]⟩
 ·intro e a w _ hO
  obtain ⟨rfl,c2,h1,h2,ok,E⟩:=hO
  refine qaN<|qaa<|sg<|mv E rfl fun a E=>aw E rfl fun a E=>wp_ret ?_
  obtain ⟨m1,hle,ok,hfz⟩:=ok.freeze
  refine qbC [.t 2 (.slice (some ⟨b2,0,none⟩) k k)] E.d rfl (rz E rfl) ⟨m1,_,_,rfl,hle,ok,b2,b1,_,_,?_,rfl,?_,?_,?_⟩
  ·simp [List.length_replicate,retV,RV.val]
  ·rw [List.length_replicate]; omega
  ·rw [List.length_replicate,hl1]
  ·intro i row hi
   rw [List.getElem?_replicate] at hi
   split at hi
   case isFalse=>cases hi
   rename_i hik
   obtain rfl:=Option.some.inj hi
   refine ⟨List.length_replicate,?_,fun j x hj=>?_⟩
   ·have:=hfz (b2,Obj.cells c2.toArray 83 (0,0)) (by simp)
    simp only at this
    simp [Mem.cell,this,h2 i hik]
   ·rw [List.getElem?_replicate] at hj
    split at hj
    case isFalse=>cases hj
    rename_i hj11
    obtain rfl:=Option.some.inj hj
    refine ⟨?_,by decide⟩
    have:=qmi [vi 0] (k * 11) (i * 11 + j) (by have:=Nat.mul_le_mul_right 11 (show i + 1 ≤ k by omega); omega)
    have:=congrArg (fun l=>l[0]?) this
    simpa [List.getElem?_take,List.getElem?_drop] using this
 ·have:∀ j i,i + j = k → iter (fun i:Nat=>if i < k then some (Sum.inl (i + 1)) else some (Sum.inr ())) (j + 1) i = some ():=by
   intro j
   induction j with
   | zero=>intro i hi; simp only [iter]; rw [if_neg (by omega)]
   | succ j ih=>intro i hi; rw [iter]; rw [if_pos (by omega)]; exact ih (i + 1) (by omega)
  exact this k 0 (by omega)
 ·exact ⟨Nat.zero_le _,_,hl2,fun j hj=>absurd hj (Nat.not_lt_zero j),ok,E.keep [3,4,12,13]⟩
def qj0 (u:World) (m0:Mem) (S:Segs) (r:DFA) (a:Act) (w:World):Prop :=
 ∃ m1 v0,m0.le m1 ∧ Ok u m1 S w ∧ a.defers = [] ∧ RVs Tryd.prog a w [.c 2 33 (.agg v0.toArray)] ∧ pDFA m1 v0 r
theorem qhp (N:Nat) (vd_0:List Value) (d_0:DFA) (hd_0:pDFA m0 vd_0 d_0) {r:DFA} (hF:qdF N d_0 = some r) (ok:Ok u m0 S w) :
  Calls Tryd.prog 64 [.agg vd_0.toArray].toArray w fun e w'=>∃ m1 v0,e = .returned (.agg v0.toArray) ∧ m0.le m1 ∧ Ok u m1 S w' ∧ pDFA m1 v0 r:=by
 obtain ⟨c2,c4,rfl,r1,h3,h5⟩:=hd_0
 have le_m0:=Mem.le.refl m0
 unfold qdF at hF
 refine en (qj0 u m0 S) r Tryd.func64 rfl rfl rfl (by rintro a w ⟨m1,v0,hle,ok,hd,hrv,h0⟩; exact qbC [.c 2 33 (.agg v0.toArray)] hd rfl hrv ⟨m1,v0,rfl,hle,ok,h0⟩) fun fin a E=>sg<|qbQ E ok rfl rfl rfl fun b6 a w E ok=>qaw E ok qa0 rfl rfl fun b7 a w E ok=>wn<|sg<|fk E ok qdW qde rfl 1 rfl rfl fun a E=>lv E ok (qaz qcP h3 rfl) fun a E=>bd hF fun l8 e9 hF=>qbR (R:=(pI .i64)) E ok qaR qdI rfl (qaW (ir 0)) rfl e9 rfl rfl fun c10 M11 a w E ok h12=>aw E rfl fun a E=>wp_seq<|sg<|mv E rfl fun a E=>lv E ok (qcz qaR h12 rfl) fun a E=>mv E rfl fun a E=>wn<|wp_block<|bd hF fun o18 hL hF=>qaH _ (fun (s:Int × (List (Int))) a w=>∃ c20 M21,Ok u m0 (M21 :: [(b7,oc 33 [vi 0,(Value.slice none 0 0),(Value.slice none 0 0)])] :: [(b6,oc 33 [vi d_0.Start,c2,c4])] :: S) w ∧ Env 116 a [(1,vp b6),(2,vp b7),(3,c20),(19,(vi (l8.length:Int))),(20,vi s.1)] ∧ InR .i64 s.1 ∧ ORow 3 1 (pI .i64) m0 c20 s.2 M21) (fun (b:((List (Int)))) e a w=>e = (.exit 0) ∧ ∃ c511 M512,Ok u m0 (M512 :: [(b7,oc 33 [vi 0,(Value.slice none 0 0),(Value.slice none 0 0)])] :: [(b6,oc 33 [vi d_0.Start,c2,c4])] :: S) w ∧ Env 116 a [(1,vp b6),(2,vp b7),(3,c511)] ∧ ORow 3 1 (pI .i64) m0 c511 b M512) ?_ ?_ N _ a w hL ⟨c10,M11,ok,E.keep [1,2,3,19,20],(ir 0),h12⟩
 ·rintro ⟨v23,v24⟩ a w r ⟨c26,M27,ok,E,r25,h28⟩ hF
  replace hF:qcS N l8 v23 v24 = some r:=hF
  unfold qcS at hF
  refine sg<|lw E (qaC rfl rfl) fun a E=>wn<|wp_seq<|cg E rfl hF (fun c29 hF=>?_) fun c29 hF=>?_
  ·refine wp_exit<|qaE ?_
   cases hF
   exact so (⟨rfl,⟨c26,M27,ok,E.keep [1,2,3],h28⟩⟩)
  refine wp_skip<|qaa<|wp_seq<|wp_block<|sg<|mv E rfl fun a E=>av E rfl fun a E=>wn<|qac<|mz E rfl rfl fun a E=>?_
  obtain ⟨x30,e31,hF⟩:=bnd hF
  obtain ⟨b32,o33,hp34,yy35⟩:=qbf qaR h28 e31 (P:=Tryd.prog) (X:=.tmp 23) (I:=.tmp 24) (kd:=.i64) (qay E rfl) (qay E rfl)
  refine lv E ok (yy35 _ _) fun a E=>bd hF fun l36 e37 hF=>qcv (R:=(pI .i64)) E ok 0 rfl h28 e31 hp34 rfl rfl qbp rfl rfl rfl ⟨rfl,trivial⟩ (qaW (ir (-1))) e37 rfl fun M38 w ok h39=>wpList_nil<|qap<|qaa<|qac<|lw E (qaA rfl rfl (InR.inc r25 (ORow.InR h12) c29)) fun a E=>mv E rfl fun a E=>wpList_nil ?_
  cases hF
  exact qau ⟨c26,M38,ok,E.keep [1,2,3,19,20],(InR.inc r25 (ORow.InR h12) c29),h39⟩
 intro e a w _ hO
 obtain ⟨rfl,c40,M41,ok,E,h42⟩:=hO
 refine qaN<|qaa<|sg<|fk E ok qgP qam rfl 2 rfl rfl fun a E=>qbH (R:=(pI .i64)) (xo:=[.tmp 28]) (xs:=([d_0.Start]:List (Int))) E ok qaR qdI rfl ⟨⟨_,rfl,rfl,(qaW r1)⟩,trivial⟩ rfl rfl rfl rfl fun c43 M44 a w E ok h45=>av E rfl fun a E=>wn<|sg<|mv E rfl fun a E=>fk E ok qgP qam rfl 3 rfl rfl fun a E=>?_
 obtain ⟨x46,e47,hF⟩:=bnd hF
 obtain ⟨b48,o49,hp50,yy51⟩:=qbf qaR h42 e47 (P:=Tryd.prog) (X:=.tmp 30) (I:=.tmp 32) (kd:=.i64) (qay E rfl) (qay E rfl)
 refine lv E ok (yy51 _ _) fun a E=>bd hF fun l52 e53 hF=>qcv (R:=(pI .i64)) E ok 1 rfl h42 e47 hp50 rfl rfl qbp rfl rfl rfl ⟨rfl,trivial⟩ (qaW (ir 0)) e53 rfl fun M54 w ok h55=>wn<|wp_seq<|sg<|av E rfl fun a E=>wn<|wp_block<|bd hF fun o67 hL hF=>qaH _ (fun (s:(List (Int)) × Int × (List (Int))) a w=>∃ c68 M69 c72 M73,Ok u m0 (M69 :: M73 :: [(b7,oc 33 [vi 0,(Value.slice none 0 0),(Value.slice none 0 0)])] :: [(b6,oc 33 [vi d_0.Start,c2,c4])] :: S) w ∧ Env 116 a [(1,vp b6),(2,vp b7),(3,c72),(5,c68),(6,vi s.2.1)] ∧ ORow 3 1 (pI .i64) m0 c68 s.1 M69 ∧ InR .i64 s.2.1 ∧ ORow 3 1 (pI .i64) m0 c72 s.2.2 M73) (fun (b:((List (Int)) × (List (Int)))) e a w=>e = (.exit 2) ∧ ∃ c505 M506 c508 M509,Ok u m0 (M509 :: M506 :: [(b7,oc 33 [vi 0,(Value.slice none 0 0),(Value.slice none 0 0)])] :: [(b6,oc 33 [vi d_0.Start,c2,c4])] :: S) w ∧ Env 116 a [(1,vp b6),(2,vp b7),(3,c505),(5,c508)] ∧ ORow 3 1 (pI .i64) m0 c505 b.1 M506 ∧ ORow 3 1 (pI .i64) m0 c508 b.2 M509) ?_ ?_ N _ a w hL ⟨c43,M44,c40,M54,ok,E.keep [1,2,3,5,6],h45,(ir 0),h55⟩
 ·as_aux_lemma =>
   rintro ⟨v75,v76,v77⟩ a w r ⟨c78,M79,c82,M83,ok,E,h80,r81,h84⟩ hF
   replace hF:qcR N d_0 v75 v76 v77 = some r:=hF
   unfold qcR at hF
   refine wp_seq<|sg<|mz E rfl rfl fun a E=>lv E ok (qcz qaR h80 rfl) fun a E=>lw E (qaC rfl rfl) fun a E=>wn<|cg E rfl hF (fun c85 hF=>?_) fun c85 hF=>?_
   ·refine wp_exit<|qaE ?_
    cases hF
    exact so (⟨rfl,⟨c82,M83,c78,M79,ok,E.keep [1,2,3,5],h84,h80⟩⟩)
   refine wp_skip<|qaa<|wp_seq<|wp_block<|wp_seq<|qee (by kernel_rfl) (by kernel_rfl) ok<|qv E (qae qdW rfl) fun a E=>qv E (qai qde rfl (qab.own 3 rfl rfl)) fun a E=>qv E (qah rfl) fun a E=>qv E (qah rfl) fun a E=>?_
   obtain ⟨x86,e87,hF⟩:=bnd hF
   obtain ⟨b88,o89,hp90,yy91⟩:=qbf qaR h80 e87 (P:=Tryd.prog) (X:=.tmp 42) (I:=.tmp 43) (kd:=.i64) (qay E rfl) (qay E rfl)
   refine qv E (yy91 _ _) fun a E=>?_
   obtain ⟨es92,hl93,rr94,hh95⟩:=qbT h80 e87 hp90 (by decide)
   obtain ⟨rfl,r96⟩:=rr94
   refine qv E (qai qam rfl (hh95 _ _ _ 0 rfl)) fun a E=>?_
   obtain ⟨x97,e98,hF⟩:=bnd hF
   obtain ⟨b99,o100,es101,hl102,rr103,at104,yy105⟩:=ia E 41 45 qcP h3 e98
   obtain ⟨c106,rfl,h107⟩:=qbG rr103
   refine qv E (yy105 _ _) fun a E=>qv E (qai qcs rfl (qab.ro at104)) fun a E=>qv E (qaz qaR h107 rfl) fun a E=>qv E (qah rfl) fun a E=>wpQuiet_nil ?_
   intro w ok
   refine qaa<|wp_block<|bd hF fun o119 hL hF=>qaH _ (fun (s:(List (Int)) × Int × (List (Int))) a w=>∃ c120 M121 c124 M125,Ok u m0 (M121 :: M125 :: [(b7,oc 33 [vi 0,(Value.slice none 0 0),(Value.slice none 0 0)])] :: [(b6,oc 33 [vi d_0.Start,c2,c4])] :: S) w ∧ Env 116 a [(1,vp b6),(2,vp b7),(3,c124),(5,c120),(6,vi v76),(47,c106),(48,(vi (x97.length:Int))),(49,vi s.2.1)] ∧ ORow 3 1 (pI .i64) m0 c120 s.1 M121 ∧ InR .i64 s.2.1 ∧ ORow 3 1 (pI .i64) m0 c124 s.2.2 M125) (fun (b:((List (Int)) × (List (Int)))) e a w=>e = (.exit 4) ∧ ∃ c184 M185 c187 M188,Ok u m0 (M188 :: M185 :: [(b7,oc 33 [vi 0,(Value.slice none 0 0),(Value.slice none 0 0)])] :: [(b6,oc 33 [vi d_0.Start,c2,c4])] :: S) w ∧ Env 116 a [(1,vp b6),(2,vp b7),(3,c184),(5,c187),(6,vi v76)] ∧ ORow 3 1 (pI .i64) m0 c184 b.1 M185 ∧ ORow 3 1 (pI .i64) m0 c187 b.2 M188) ?_ ?_ N _ a w hL ⟨c78,M79,c82,M83,ok,E.keep [1,2,3,5,6,47,48,49],h80,(ir 0),h84⟩
   rotate_left
   ·intro e a w _ hO
    obtain ⟨rfl,c178,M179,c181,M182,ok,E,h180,h183⟩:=hO
    refine qaN<|qap<|qaa<|qac<|mv E rfl fun a E=>lw E (qaA rfl rfl (InR.inc r81 (ORow.InR h80) c85)) fun a E=>av E rfl fun a E=>wpList_nil ?_
    cases hF
    exact qau ⟨c181,M182,c178,M179,ok,E.keep [1,2,3,5,6],h183,(InR.inc r81 (ORow.InR h80) c85),h180⟩
   rintro ⟨v127,v128,v129⟩ a w r ⟨c130,M131,c134,M135,ok,E,h132,r133,h136⟩ hF
   replace hF:qcU N x97 v127 v128 v129 = some r:=hF
   unfold qcU at hF
   refine sg<|lw E (qaC rfl rfl) fun a E=>wn<|wp_seq<|cg E rfl hF (fun c137 hF=>?_) fun c137 hF=>?_
   ·refine wp_exit<|qaE ?_
    cases hF
    exact so (⟨rfl,⟨c134,M135,c130,M131,ok,E.keep [1,2,3,5,6],h136,h132⟩⟩)
   refine wp_skip<|qaa<|wp_seq<|wp_block<|sg ?_
   obtain ⟨x138,e139,hF⟩:=bnd hF
   obtain ⟨b140,o141,es142,hl143,rr144,at145,yy146⟩:=ia E 47 49 qaR h107 e139
   obtain ⟨rfl,r147⟩:=rr144
   refine lv E ok (yy146 _ _) fun a E=>lv E ok (qai qam rfl (qab.ro at145)) fun a E=>aw E rfl fun a E=>sg<|mv E rfl fun a E=>mv E rfl fun a E=>?_
   obtain ⟨x148,e149,hF⟩:=bnd hF
   obtain ⟨b150,o151,hp152,yy153⟩:=qbf qaR h136 e149 (P:=Tryd.prog) (X:=.tmp 53) (I:=.tmp 54) (kd:=.i64) (qay E rfl) (qay E rfl)
   refine lv E ok (yy153 _ _) fun a E=>?_
   obtain ⟨es154,hl155,rr156,hh157⟩:=qbT h136 e149 hp152 (by decide)
   obtain ⟨rfl,r158⟩:=rr156
   refine lv E ok (qai qam rfl (hh157 _ _ _ 1 rfl)) fun a E=>lw E (qaC rfl rfl) fun a E=>wn<|cg E rfl hF (fun c159 hF=>?_) fun c159 hF=>?_
   ·refine wp_skip<|qap<|qaa<|qac<|lw E (qaA rfl rfl (InR.inc r133 (qal h107) c137)) fun a E=>mv E rfl fun a E=>wpList_nil ?_
    cases hF
    exact qau ⟨c130,M131,c134,M135,ok,E.keep [1,2,3,5,6,47,48,49],h132,(InR.inc r133 (qal h107) c137),h136⟩
   refine sg<|mz E rfl rfl fun a E=>mv E rfl fun a E=>lv E ok (qcz qaR h132 rfl) fun a E=>?_
   obtain ⟨x160,e161,hF⟩:=bnd hF
   obtain ⟨b162,o163,hp164,yy165⟩:=qbf qaR h136 e161 (P:=Tryd.prog) (X:=.tmp 58) (I:=.tmp 59) (kd:=.i64) (qay E rfl) (qay E rfl)
   refine lv E ok (yy165 _ _) fun a E=>bd hF fun l166 e167 hF=>qcv (R:=(pI .i64)) E ok 1 rfl h136 e161 hp164 rfl rfl qbp rfl rfl rfl ⟨rfl,trivial⟩ (qaW (ORow.InR h132)) e167 rfl fun M168 w ok h169=>wn<|qac<|mz E rfl rfl fun a E=>qbH (R:=(pI .i64)) (xo:=[.tmp 64]) (xs:=([x138]:List (Int))) E ok qaR qdI rfl ⟨⟨_,rfl,rfl,(qaW r147)⟩,trivial⟩ rfl rfl rfl rfl fun c170 M171 a w E ok h172=>bd hF fun l173 e174 hF=>qdn (R:=(pI .i64)) E ok 1 (mI .i64) qaR Tryd.underlying83 rfl h132 (qbP.ofRow h172 0 rfl ok) e174 ⟨_,qdI,rfl⟩ rfl rfl rfl rfl fun c175 M176 a w E ok h177=>av E rfl fun a E=>wpList_nil<|qap<|qaa<|qac<|lw E (qaA rfl rfl (InR.inc r133 (qal h107) c137)) fun a E=>mv E rfl fun a E=>wpList_nil ?_
   cases hF
   exact qau ⟨c175,M176,c134,M168,(ok.pk 5 [1,2,3,4] rfl (by decide)),E.keep [1,2,3,5,6,47,48,49],h177,(InR.inc r133 (qal h107) c137),h169⟩
 intro e a w _ hO
 obtain ⟨rfl,c190,M191,c193,M194,ok,E,h192,h195⟩:=hO
 refine qaN<|qaa<|wp_seq<|bd hF fun o196 hJ hF=>qaO (Q':=fun e a w=>e = .normal ∧ ∃ m197 b205 c199 M200 c202 M203,m0.le m197 ∧ Ok u m197 ([(b205,oc 33 [vi o196.Start,c199,c202])] :: M203 :: M200 :: M194 :: M191 :: [(b7,oc 33 [vi 0,(Value.slice none 0 0),(Value.slice none 0 0)])] :: [(b6,oc 33 [vi d_0.Start,c2,c4])] :: S) w ∧ Env 116 a [(1,vp b6),(2,vp b7),(3,c190),(5,c193),(9,vp b205)] ∧ InR .i64 o196.Start ∧ qbg m197 c199 o196.Next M200 ∧ ORow 4 1 pB m197 c202 o196.Accept M203) ?_ ?_
 ·as_aux_lemma =>
   have hF:=hJ
   obtain ⟨g206,e207,hF⟩:=bnd hF
   obtain ⟨l212,e213,hF⟩:=bnd hF
   obtain rfl:=sj hF
   refine qaX [] (Cls u m0 (M194 :: M191 :: [(b7,oc 33 [vi 0,(Value.slice none 0 0),(Value.slice none 0 0)])] :: [(b6,oc 33 [vi d_0.Start,c2,c4])] :: [])) (Cls u m0 (M194 :: M191 :: [(b7,oc 33 [vi 0,(Value.slice none 0 0),(Value.slice none 0 0)])] :: [(b6,oc 33 [vi d_0.Start,c2,c4])] :: [])) (by kernel_rfl) ?_
   intro w hw
   replace ok:=qa3 ok hw
   clear hw
   refine qag (cl1 (cq le_m0 ok [0,1,2,3] rfl) (cq le_m0 ok [0,1,2,3] rfl)) fun hT=>kt 0 E rfl hT (qah rfl) fun a E=>kt 1 E rfl hT (qcz qaR h195 rfl) fun a E=>kt 3 E rfl hT (qah rfl) fun a E=>kt 4 E rfl hT (qcz qaR h195 rfl) fun a E=>qar [2,5,7] (by kernel_rfl) rfl (qbA ?_ (qbA ?_ (qbA ?_ (qeA))))
   ·refine wo rfl<|qao E qh2 rfl (qcn N (o67.2.length:Int) (ORow.InR h195) e207 ok) rfl rfl ?_
    rintro _ w ⟨m218,c219,M220,rfl,hle,ok,h221⟩
    have le_m0:=le_m0.trans hle
    have h3:=(mL (mL (mI .i64))).up hle h3
    have h5:=(mL mB).up hle h5
    have h192:=ORow.up (mI .i64) hle h192
    have h195:=ORow.up (mI .i64) hle h195
    refine ⟨_,rfl,fun a E=>?_⟩
    refine wn<|qag (cl1 (cq le_m0 ok [1,2,3,4] rfl) (cq le_m0 ok [1,2,3,4] rfl)) fun hT=>qar [5,7] (by kernel_rfl) rfl (qbA ?_ (qbA ?_ (qeA)))
    ·refine wo rfl<|qbR (R:=pB) E ok qbD qd0 rfl qeo rfl e213 rfl rfl fun c222 M223 a w E ok h224=>wn<|qag (cl1 (cq le_m0 ok [2,3,4,5] rfl) (cq le_m0 ok [2,3,4,5] rfl)) fun hT=>kt 6 E rfl hT (qaG (ps:=[(1,.tmp 70),(2,.tmp 73)]) (qs:=[(1,[c219]),(2,[c222])]) (cs:=[vi 0,c219,c222]) qa0 qci rfl ⟨rfl,(qbg.cells h221),rfl,⟨rfl,(ORow.cells h224),rfl,trivial⟩⟩ rfl) fun a E=>qar [7] (by kernel_rfl) rfl (qas ?_)
     ·refine wo rfl<|qaw E ok qa0 rfl rfl fun b225 a w E ok=>wn<|qag (cl1 (cq le_m0 ok [3,4,5,6] rfl) (cq le_m0 ok [3,4,5,6] rfl)) fun hT=>qar [8] (by kernel_rfl) rfl (qas ?_)
      ·refine wo rfl<|qaf E ok 0 rfl rfl rfl qbI rfl rfl ⟨rfl,(qbg.one h221),(ORow.one h224),trivial⟩ rfl rfl fun w ok=>wn<|qag (cl1 (cq le_m0 ok [3,4,5,6] rfl) (cq le_m0 ok [3,4,5,6] rfl)) fun hT=>qaM (by kernel_rfl) ?_
       exact ⟨rfl,⟨m218,b225,c219,M220,c222,M223,le_m0,ok,E.keep [1,2,3,5,9],(ir 0),h221,h224⟩⟩
    refine wo rfl<|qaw E ok qa0 rfl rfl fun b226 a w E ok=>wn<|qag (cl1 (cq le_m0 ok [2,3,4,5] rfl) (cq le_m0 ok [2,3,4,5] rfl)) fun hT=>qar [5] (by kernel_rfl) rfl (qas ?_)
    ·refine wo rfl<|qbR (R:=pB) E ok qbD qd0 rfl qeo rfl e213 rfl rfl fun c227 M228 a w E ok h229=>wn<|qag (cl1 (cq le_m0 ok [3,4,5,6] rfl) (cq le_m0 ok [3,4,5,6] rfl)) fun hT=>kt 6 E rfl hT (qaG (ps:=[(1,.tmp 70),(2,.tmp 73)]) (qs:=[(1,[c219]),(2,[c227])]) (cs:=[vi 0,c219,c227]) qa0 qci rfl ⟨rfl,(qbg.cells h221),rfl,⟨rfl,(ORow.cells h229),rfl,trivial⟩⟩ rfl) fun a E=>qar [8] (by kernel_rfl) rfl (qas ?_)
     ·refine wo rfl<|qaf E ok 1 rfl rfl rfl qbI rfl rfl ⟨rfl,(qbg.one h221),(ORow.one h229),trivial⟩ rfl rfl fun w ok=>wn<|qag (cl1 (cq le_m0 ok [3,4,5,6] rfl) (cq le_m0 ok [3,4,5,6] rfl)) fun hT=>qaM (by kernel_rfl) ?_
      exact ⟨rfl,⟨m218,b226,c219,M220,c227,M228,le_m0,(ok.pk 7 [1,0,2,3,4,5,6] rfl (by decide)),E.keep [1,2,3,5,9],(ir 0),h221,h229⟩⟩
   ·refine wo rfl<|qbR (R:=pB) E ok qbD qd0 rfl qeo rfl e213 rfl rfl fun c230 M231 a w E ok h232=>wn<|qag (cl1 (cq le_m0 ok [1,2,3,4] rfl) (cq le_m0 ok [1,2,3,4] rfl)) fun hT=>qar [2,7] (by kernel_rfl) rfl (qbA ?_ (qbA ?_ (qeA)))
    ·refine wo rfl<|qao E qh2 rfl (qcn N (o67.2.length:Int) (ORow.InR h195) e207 ok) rfl rfl ?_
     rintro _ w ⟨m233,c234,M235,rfl,hle,ok,h236⟩
     have le_m0:=le_m0.trans hle
     have h3:=(mL (mL (mI .i64))).up hle h3
     have h5:=(mL mB).up hle h5
     have h192:=ORow.up (mI .i64) hle h192
     have h195:=ORow.up (mI .i64) hle h195
     have h232:=ORow.up mB hle h232
     refine ⟨_,rfl,fun a E=>?_⟩
     refine wn<|qag (cl1 (cq le_m0 ok [2,3,4,5] rfl) (cq le_m0 ok [2,3,4,5] rfl)) fun hT=>kt 6 E rfl hT (qaG (ps:=[(1,.tmp 70),(2,.tmp 73)]) (qs:=[(1,[c234]),(2,[c230])]) (cs:=[vi 0,c234,c230]) qa0 qci rfl ⟨rfl,(qbg.cells h236),rfl,⟨rfl,(ORow.cells h232),rfl,trivial⟩⟩ rfl) fun a E=>qar [7] (by kernel_rfl) rfl (qas ?_)
     ·refine wo rfl<|qaw E ok qa0 rfl rfl fun b237 a w E ok=>wn<|qag (cl1 (cq le_m0 ok [3,4,5,6] rfl) (cq le_m0 ok [3,4,5,6] rfl)) fun hT=>qar [8] (by kernel_rfl) rfl (qas ?_)
      ·refine wo rfl<|qaf E ok 0 rfl rfl rfl qbI rfl rfl ⟨rfl,(qbg.one h236),(ORow.one h232),trivial⟩ rfl rfl fun w ok=>wn<|qag (cl1 (cq le_m0 ok [3,4,5,6] rfl) (cq le_m0 ok [3,4,5,6] rfl)) fun hT=>qaM (by kernel_rfl) ?_
       exact ⟨rfl,⟨m233,b237,c234,M235,c230,M231,le_m0,(ok.pk 7 [0,2,1,3,4,5,6] rfl (by decide)),E.keep [1,2,3,5,9],(ir 0),h236,h232⟩⟩
    refine wo rfl<|qaw E ok qa0 rfl rfl fun b238 a w E ok=>wn<|qag (cl1 (cq le_m0 ok [2,3,4,5] rfl) (cq le_m0 ok [2,3,4,5] rfl)) fun hT=>qar [2] (by kernel_rfl) rfl (qas ?_)
    ·refine wo rfl<|qao E qh2 rfl (qcn N (o67.2.length:Int) (ORow.InR h195) e207 ok) rfl rfl ?_
     rintro _ w ⟨m239,c240,M241,rfl,hle,ok,h242⟩
     have le_m0:=le_m0.trans hle
     have h3:=(mL (mL (mI .i64))).up hle h3
     have h5:=(mL mB).up hle h5
     have h192:=ORow.up (mI .i64) hle h192
     have h195:=ORow.up (mI .i64) hle h195
     have h232:=ORow.up mB hle h232
     refine ⟨_,rfl,fun a E=>?_⟩
     refine wn<|qag (cl1 (cq le_m0 ok [3,4,5,6] rfl) (cq le_m0 ok [3,4,5,6] rfl)) fun hT=>kt 6 E rfl hT (qaG (ps:=[(1,.tmp 70),(2,.tmp 73)]) (qs:=[(1,[c240]),(2,[c230])]) (cs:=[vi 0,c240,c230]) qa0 qci rfl ⟨rfl,(qbg.cells h242),rfl,⟨rfl,(ORow.cells h232),rfl,trivial⟩⟩ rfl) fun a E=>qar [8] (by kernel_rfl) rfl (qas ?_)
     ·refine wo rfl<|qaf E ok 1 rfl rfl rfl qbI rfl rfl ⟨rfl,(qbg.one h242),(ORow.one h232),trivial⟩ rfl rfl fun w ok=>wn<|qag (cl1 (cq le_m0 ok [3,4,5,6] rfl) (cq le_m0 ok [3,4,5,6] rfl)) fun hT=>qaM (by kernel_rfl) ?_
      exact ⟨rfl,⟨m239,b238,c240,M241,c230,M231,le_m0,(ok.pk 7 [1,2,0,3,4,5,6] rfl (by decide)),E.keep [1,2,3,5,9],(ir 0),h242,h232⟩⟩
   refine wo rfl<|qaw E ok qa0 rfl rfl fun b243 a w E ok=>wn<|qag (cl1 (cq le_m0 ok [1,2,3,4] rfl) (cq le_m0 ok [1,2,3,4] rfl)) fun hT=>qar [2,5] (by kernel_rfl) rfl (qbA ?_ (qbA ?_ (qeA)))
   ·refine wo rfl<|qao E qh2 rfl (qcn N (o67.2.length:Int) (ORow.InR h195) e207 ok) rfl rfl ?_
    rintro _ w ⟨m244,c245,M246,rfl,hle,ok,h247⟩
    have le_m0:=le_m0.trans hle
    have h3:=(mL (mL (mI .i64))).up hle h3
    have h5:=(mL mB).up hle h5
    have h192:=ORow.up (mI .i64) hle h192
    have h195:=ORow.up (mI .i64) hle h195
    refine ⟨_,rfl,fun a E=>?_⟩
    refine wn<|qag (cl1 (cq le_m0 ok [2,3,4,5] rfl) (cq le_m0 ok [2,3,4,5] rfl)) fun hT=>qar [5] (by kernel_rfl) rfl (qas ?_)
    ·refine wo rfl<|qbR (R:=pB) E ok qbD qd0 rfl qeo rfl e213 rfl rfl fun c248 M249 a w E ok h250=>wn<|qag (cl1 (cq le_m0 ok [3,4,5,6] rfl) (cq le_m0 ok [3,4,5,6] rfl)) fun hT=>kt 6 E rfl hT (qaG (ps:=[(1,.tmp 70),(2,.tmp 73)]) (qs:=[(1,[c245]),(2,[c248])]) (cs:=[vi 0,c245,c248]) qa0 qci rfl ⟨rfl,(qbg.cells h247),rfl,⟨rfl,(ORow.cells h250),rfl,trivial⟩⟩ rfl) fun a E=>qar [8] (by kernel_rfl) rfl (qas ?_)
     ·refine wo rfl<|qaf E ok 2 rfl rfl rfl qbI rfl rfl ⟨rfl,(qbg.one h247),(ORow.one h250),trivial⟩ rfl rfl fun w ok=>wn<|qag (cl1 (cq le_m0 ok [3,4,5,6] rfl) (cq le_m0 ok [3,4,5,6] rfl)) fun hT=>qaM (by kernel_rfl) ?_
      exact ⟨rfl,⟨m244,b243,c245,M246,c248,M249,le_m0,(ok.pk 7 [2,0,1,3,4,5,6] rfl (by decide)),E.keep [1,2,3,5,9],(ir 0),h247,h250⟩⟩
   refine wo rfl<|qbR (R:=pB) E ok qbD qd0 rfl qeo rfl e213 rfl rfl fun c251 M252 a w E ok h253=>wn<|qag (cl1 (cq le_m0 ok [2,3,4,5] rfl) (cq le_m0 ok [2,3,4,5] rfl)) fun hT=>qar [2] (by kernel_rfl) rfl (qas ?_)
   ·refine wo rfl<|qao E qh2 rfl (qcn N (o67.2.length:Int) (ORow.InR h195) e207 ok) rfl rfl ?_
    rintro _ w ⟨m254,c255,M256,rfl,hle,ok,h257⟩
    have le_m0:=le_m0.trans hle
    have h3:=(mL (mL (mI .i64))).up hle h3
    have h5:=(mL mB).up hle h5
    have h192:=ORow.up (mI .i64) hle h192
    have h195:=ORow.up (mI .i64) hle h195
    have h253:=ORow.up mB hle h253
    refine ⟨_,rfl,fun a E=>?_⟩
    refine wn<|qag (cl1 (cq le_m0 ok [3,4,5,6] rfl) (cq le_m0 ok [3,4,5,6] rfl)) fun hT=>kt 6 E rfl hT (qaG (ps:=[(1,.tmp 70),(2,.tmp 73)]) (qs:=[(1,[c255]),(2,[c251])]) (cs:=[vi 0,c255,c251]) qa0 qci rfl ⟨rfl,(qbg.cells h257),rfl,⟨rfl,(ORow.cells h253),rfl,trivial⟩⟩ rfl) fun a E=>qar [8] (by kernel_rfl) rfl (qas ?_)
    ·refine wo rfl<|qaf E ok 2 rfl rfl rfl qbI rfl rfl ⟨rfl,(qbg.one h257),(ORow.one h253),trivial⟩ rfl rfl fun w ok=>wn<|qag (cl1 (cq le_m0 ok [3,4,5,6] rfl) (cq le_m0 ok [3,4,5,6] rfl)) fun hT=>qaM (by kernel_rfl) ?_
     exact ⟨rfl,⟨m254,b243,c255,M256,c251,M252,le_m0,(ok.pk 7 [2,1,0,3,4,5,6] rfl (by decide)),E.keep [1,2,3,5,9],(ir 0),h257,h253⟩⟩
 intro e a w hO
 obtain ⟨rfl,m258,b266,c260,M261,c263,M264,hle,ok,E,r259,h262,h265⟩:=hO
 have le_m0:=le_m0.trans hle
 have h3:=(mL (mL (mI .i64))).up hle h3
 have h5:=(mL mB).up hle h5
 have h192:=ORow.up (mI .i64) hle h192
 have h195:=ORow.up (mI .i64) hle h195
 refine qaa<|wp_seq<|sg<|mv E rfl fun a E=>lv E ok (qcz qaR h195 rfl) fun a E=>mv E rfl fun a E=>wn<|wp_block<|bd hF fun o276 hL hF=>qaH _ (fun (s:Int × DFA) a w=>∃ c279 M280 c282 M283,Ok u m258 ([(b266,oc 33 [vi s.2.Start,c279,c282])] :: M283 :: M280 :: M194 :: M191 :: [(b7,oc 33 [vi 0,(Value.slice none 0 0),(Value.slice none 0 0)])] :: [(b6,oc 33 [vi d_0.Start,c2,c4])] :: S) w ∧ Env 116 a [(1,vp b6),(2,vp b7),(3,c190),(9,vp b266),(75,c193),(76,(vi (o67.2.length:Int))),(77,vi s.1)] ∧ InR .i64 s.1 ∧ InR .i64 s.2.Start ∧ qbg m258 c279 s.2.Next M280 ∧ ORow 4 1 pB m258 c282 s.2.Accept M283) (fun (b:DFA) e a w=>e = (.exit 6) ∧ ∃ c499 M500 c502 M503,Ok u m258 ([(b266,oc 33 [vi b.Start,c499,c502])] :: M503 :: M500 :: M194 :: M191 :: [(b7,oc 33 [vi 0,(Value.slice none 0 0),(Value.slice none 0 0)])] :: [(b6,oc 33 [vi d_0.Start,c2,c4])] :: S) w ∧ Env 116 a [(2,vp b7),(9,vp b266)] ∧ InR .i64 b.Start ∧ qbg m258 c499 b.Next M500 ∧ ORow 4 1 pB m258 c502 b.Accept M503) ?_ ?_ N _ a w hL ⟨c260,M261,c263,M264,ok,E.keep [1,2,3,9,75,76,77],(ir 0),r259,h262,h265⟩
 rotate_left
 ·intro e a w _ hO
  obtain ⟨rfl,c488,M489,c491,M492,ok,E,r487,h490,h493⟩:=hO
  refine qaN<|qaa<|sg<|lv E ok (qaj (cs:=[vi o276.Start,c488,c491]) qcr rfl rfl (qab.own 0 rfl rfl)) fun a E=>qaf E ok 5 rfl rfl rfl qbI rfl rfl ⟨rfl,(qbg.one h490),(ORow.one h493),trivial⟩ rfl rfl fun w ok=>wn<|wp_ret ?_
  obtain ⟨m494,hle,ok,hfz⟩:=(ok.frs 2 rfl).freeze
  have h495:=qbg.froz h490 hle hfz
  have le_m0:=le_m0.trans hle
  have h3:=(mL (mL (mI .i64))).up hle h3
  have h5:=(mL mB).up hle h5
  have h493:=ORow.up mB hle h493
  obtain ⟨m496,hle,ok,hfz⟩:=(ok.frs 1 rfl).freeze
  have h497:=ORow.froz mB h493 hle hfz (by decide)
  have le_m0:=le_m0.trans hle
  have h3:=(mL (mL (mI .i64))).up hle h3
  have h5:=(mL mB).up hle h5
  have h495:=(mL (mL (mI .i64))).up hle h495
  exact fin hF ⟨m496,[vi o276.Start,c488,c491],le_m0,ok.drop.drop.drop.drop.drop,E.d,⟨rv_c (cs:=[vi o276.Start,c488,c491]) E ok rfl qcr rfl (qab.own 3 rfl rfl),trivial⟩,⟨_,_,rfl,r487,h495,h497⟩⟩
 rintro ⟨v285,v286⟩ a w r ⟨c289,M290,c292,M293,ok,E,r287,r288,h291,h294⟩ hF
 replace hF:qcT N d_0 o67 v285 v286 = some r:=hF
 unfold qcT at hF
 refine sg<|lw E (qaC rfl rfl) fun a E=>wn<|wp_seq<|cg E rfl hF (fun c295 hF=>?_) fun c295 hF=>?_
 ·refine wp_exit<|qaE ?_
  cases hF
  exact so (⟨rfl,⟨c289,M290,c292,M293,ok,E.keep [2,9],r288,h291,h294⟩⟩)
 refine wp_skip<|qaa<|wp_seq<|wp_block<|sg<|mv E rfl fun a E=>?_
 obtain ⟨x296,e297,hF⟩:=bnd hF
 obtain ⟨b298,o299,hp300,yy301⟩:=qbf qaR h195 e297 (P:=Tryd.prog) (X:=.tmp 75) (I:=.tmp 77) (kd:=.i64) (qay E rfl) (qay E rfl)
 refine lv E ok (yy301 _ _) fun a E=>?_
 obtain ⟨es302,hl303,rr304,hh305⟩:=qbT h195 e297 hp300 (by decide)
 obtain ⟨rfl,r306⟩:=rr304
 refine lv E ok (qai qam rfl (hh305 _ _ _ 3 rfl)) fun a E=>av E rfl fun a E=>aw E rfl fun a E=>wp_seq<|bd hF fun o307 hJ hF=>qaO (Q':=fun e a w=>e = .normal ∧ ∃ c309 M310 c312 M313,Ok u m258 ([(b266,oc 33 [vi o307.Start,c309,c312])] :: M313 :: M310 :: M194 :: M191 :: [(b7,oc 33 [vi 0,(Value.slice none 0 0),(Value.slice none 0 0)])] :: [(b6,oc 33 [vi d_0.Start,c2,c4])] :: S) w ∧ Env 116 a [(1,vp b6),(2,vp b7),(3,c190),(9,vp b266),(10,vi v285),(11,vi x296),(75,c193),(76,(vi (o67.2.length:Int))),(77,vi v285)] ∧ InR .i64 o307.Start ∧ qbg m258 c309 o307.Next M310 ∧ ORow 4 1 pB m258 c312 o307.Accept M313) ?_ ?_
 ·have hF:=hJ
  obtain ⟨x315,e316,hF⟩:=bnd hF
  obtain ⟨x324,e325,hF⟩:=bnd hF
  obtain ⟨l330,e331,hF⟩:=bnd hF
  obtain rfl:=sj hF
  refine qaX [1,4,7] (Cls u m258 ([(b266,oc 33 [vi v286.Start,c289,c292])] :: M290 :: M194 :: M191 :: [(b7,oc 33 [vi 0,(Value.slice none 0 0),(Value.slice none 0 0)])] :: [(b6,oc 33 [vi d_0.Start,c2,c4])] :: [])) (Cls u m258 (M290 :: M194 :: M191 :: [(b7,oc 33 [vi 0,(Value.slice none 0 0),(Value.slice none 0 0)])] :: [(b6,oc 33 [vi d_0.Start,c2,c4])] :: [])) (by kernel_rfl) ?_
  intro w hw
  replace ok:=qa3 ok hw
  clear hw
  have le_m258:=Mem.le.refl m258
  refine qag (cl1 (cq le_m258 ok [0,2,3,4,5,6] rfl) (cq le_m258 ok [2,3,4,5,6] rfl)) fun hT=>kt 0 E rfl hT (qae qfS rfl) fun a E=>qaU 1 E rfl (by kernel_rfl) nP hT (qai qdK rfl (qab.cown 0 rfl rfl)) rfl rfl fun a E=>kt 2 E rfl hT (qah rfl) fun a E=>kt 3 E rfl hT (qae qfS rfl) fun a E=>qaU 4 E rfl (by kernel_rfl) nP hT (qai qdK rfl (qab.cown 5 rfl rfl)) rfl rfl fun a E=>kt 5 E rfl hT (qah rfl) fun a E=>?_
  obtain ⟨b334,o335,es336,hl337,rr338,at339,yy340⟩:=ia E 86 87 qbD h5 e316
  obtain rfl:=rr338
  refine kt 6 E rfl hT (yy340 _ _) fun a E=>qaU 7 E rfl (by kernel_rfl) nP hT (qai qdk rfl (qab.cro at339)) rfl rfl fun a E=>?_
  obtain ⟨b341,o342,hp343,yy344⟩:=qbf qbD h294 e325 (P:=Tryd.prog) (X:=.tmp 83) (I:=.tmp 84) (kd:=.i64) (qay E rfl) (qay E rfl)
  refine kt 8 E rfl hT (yy344 _ _) fun a E=>qar [9] (by kernel_rfl) rfl (qas ?_)
  ·refine wo rfl<|qcv (R:=pB) E ok 1 rfl h294 e325 hp343 rfl rfl qmV rfl rfl rfl ⟨rfl,trivial⟩ qeo e331 rfl fun M345 w ok h346=>wn<|qag (cl2 (by kernel_rfl) (cq le_m258 ok [2,3,4,5,6] rfl)) fun hT=>qaM (by kernel_rfl) ?_
   exact ⟨rfl,⟨c289,M290,c292,M345,ok,E.keep [1,2,3,9,10,11,75,76,77],r288,h291,h346⟩⟩
 intro e a w hO
 obtain ⟨rfl,c348,M349,c351,M352,ok,E,r347,h350,h353⟩:=hO
 refine qaa<|sg<|fk E ok qdW qde rfl 6 rfl rfl fun a E=>mv E rfl fun a E=>?_
 obtain ⟨x354,e355,hF⟩:=bnd hF
 obtain ⟨b356,o357,es358,hl359,rr360,at361,yy362⟩:=ia E 92 93 qcP h3 e355
 obtain ⟨c363,rfl,h364⟩:=qbG rr360
 refine lv E ok (yy362 _ _) fun a E=>lv E ok (qai qcs rfl (qab.ro at361)) fun a E=>lv E ok (qaz qaR h364 rfl) fun a E=>mv E rfl fun a E=>wn<|wp_block<|bd hF fun o374 hL hF=>qaH _ (fun (s:Int × DFA) a w=>∃ c377 M378 c380 M381,Ok u m258 ([(b266,oc 33 [vi s.2.Start,c377,c380])] :: M381 :: M378 :: M194 :: M191 :: [(b7,oc 33 [vi 0,(Value.slice none 0 0),(Value.slice none 0 0)])] :: [(b6,oc 33 [vi d_0.Start,c2,c4])] :: S) w ∧ Env 116 a [(1,vp b6),(2,vp b7),(3,c190),(9,vp b266),(10,vi v285),(75,c193),(76,(vi (o67.2.length:Int))),(77,vi v285),(95,c363),(96,(vi (x354.length:Int))),(97,vi s.1)] ∧ InR .i64 s.1 ∧ InR .i64 s.2.Start ∧ qbg m258 c377 s.2.Next M378 ∧ ORow 4 1 pB m258 c380 s.2.Accept M381) (fun (b:DFA) e a w=>e = (.exit 8) ∧ ∃ c481 M482 c484 M485,Ok u m258 ([(b266,oc 33 [vi b.Start,c481,c484])] :: M485 :: M482 :: M194 :: M191 :: [(b7,oc 33 [vi 0,(Value.slice none 0 0),(Value.slice none 0 0)])] :: [(b6,oc 33 [vi d_0.Start,c2,c4])] :: S) w ∧ Env 116 a [(1,vp b6),(2,vp b7),(3,c190),(9,vp b266),(75,c193),(76,(vi (o67.2.length:Int))),(77,vi v285)] ∧ InR .i64 b.Start ∧ qbg m258 c481 b.Next M482 ∧ ORow 4 1 pB m258 c484 b.Accept M485) ?_ ?_ N _ a w hL ⟨c348,M349,c351,M352,ok,E.keep [1,2,3,9,10,75,76,77,95,96,97],(ir 0),r347,h350,h353⟩
 rotate_left
 ·intro e a w _ hO
  obtain ⟨rfl,c474,M475,c477,M478,ok,E,r473,h476,h479⟩:=hO
  refine qaN<|qap<|qaa<|qac<|lw E (qaA rfl rfl (InR.inc r287 (ORow.InR h195) c295)) fun a E=>mv E rfl fun a E=>wpList_nil ?_
  cases hF
  exact qau ⟨c474,M475,c477,M478,ok,E.keep [1,2,3,9,75,76,77],(InR.inc r287 (ORow.InR h195) c295),r473,h476,h479⟩
 rintro ⟨v383,v384⟩ a w r ⟨c387,M388,c390,M391,ok,E,r385,r386,h389,h392⟩ hF
 replace hF:qcV N o67 v285 x354 v383 v384 = some r:=hF
 unfold qcV at hF
 refine sg<|lw E (qaC rfl rfl) fun a E=>wn<|wp_seq<|cg E rfl hF (fun c393 hF=>?_) fun c393 hF=>?_
 ·refine wp_exit<|qaE ?_
  cases hF
  exact so (⟨rfl,⟨c387,M388,c390,M391,ok,E.keep [1,2,3,9,75,76,77],r386,h389,h392⟩⟩)
 refine wp_skip<|qaa<|wp_seq<|wp_block<|sg<|mv E rfl fun a E=>?_
 obtain ⟨x394,e395,hF⟩:=bnd hF
 obtain ⟨b396,o397,es398,hl399,rr400,at401,yy402⟩:=ia E 95 97 qaR h364 e395
 obtain ⟨rfl,r403⟩:=rr400
 refine lv E ok (yy402 _ _) fun a E=>lv E ok (qai qam rfl (qab.ro at401)) fun a E=>av E rfl fun a E=>aw E rfl fun a E=>bd hF fun o404 hJ hF=>qaO (Q':=fun e a w=>e = .normal ∧ ∃ c406 M407 c409 M410,Ok u m258 ([(b266,oc 33 [vi o404.Start,c406,c409])] :: M410 :: M407 :: M194 :: M191 :: [(b7,oc 33 [vi 0,(Value.slice none 0 0),(Value.slice none 0 0)])] :: [(b6,oc 33 [vi d_0.Start,c2,c4])] :: S) w ∧ Env 116 a [(1,vp b6),(2,vp b7),(3,c190),(9,vp b266),(10,vi v285),(75,c193),(76,(vi (o67.2.length:Int))),(77,vi v285),(95,c363),(96,(vi (x354.length:Int))),(97,vi v383)] ∧ InR .i64 o404.Start ∧ qbg m258 c406 o404.Next M407 ∧ ORow 4 1 pB m258 c409 o404.Accept M410) ?_ ?_
 rotate_left
 ·intro e a w hO
  obtain ⟨rfl,c467,M468,c470,M471,ok,E,r466,h469,h472⟩:=hO
  refine qap<|qaa<|qac<|lw E (qaA rfl rfl (InR.inc r385 (qal h364) c393)) fun a E=>mv E rfl fun a E=>wpList_nil ?_
  cases hF
  exact qau ⟨c467,M468,c470,M471,ok,E.keep [1,2,3,9,10,75,76,77,95,96,97],(InR.inc r385 (qal h364) c393),r466,h469,h472⟩
 have hF:=hJ
 obtain ⟨x412,e413,hF⟩:=bnd hF
 obtain ⟨x421,e422,hF⟩:=bnd hF
 obtain ⟨x432,e433,hF⟩:=bnd hF
 obtain ⟨l438,e439,hF⟩:=bnd hF
 obtain ⟨g440,e441,hF⟩:=bnd hF
 obtain rfl:=sj hF
 refine qaX [1,4,9] (Cls u m258 ([(b266,oc 33 [vi v384.Start,c387,c390])] :: M391 :: M194 :: M191 :: [(b7,oc 33 [vi 0,(Value.slice none 0 0),(Value.slice none 0 0)])] :: [(b6,oc 33 [vi d_0.Start,c2,c4])] :: [])) (Cls u m258 (M391 :: M194 :: M191 :: [(b7,oc 33 [vi 0,(Value.slice none 0 0),(Value.slice none 0 0)])] :: [(b6,oc 33 [vi d_0.Start,c2,c4])] :: [])) (by kernel_rfl) ?_
 intro w hw
 replace ok:=qa3 ok hw
 clear hw
 have le_m258:=Mem.le.refl m258
 refine qag (cl1 (cq le_m258 ok [0,1,3,4,5,6] rfl) (cq le_m258 ok [1,3,4,5,6] rfl)) fun hT=>kt 0 E rfl hT (qae qdW rfl) fun a E=>qaU 1 E rfl (by kernel_rfl) nP hT (qai qde rfl (qab.cown 0 rfl rfl)) rfl rfl fun a E=>kt 2 E rfl hT (qah rfl) fun a E=>?_
 obtain ⟨b444,o445,rv446,hr447,hl448,at449,yy450⟩:=qq6 qcP h389 e413 (P:=Tryd.prog) (X:=.tmp 103) (I:=.tmp 104) (kd:=.i64) (qay E rfl) (qay E rfl)
 refine kt 3 E rfl hT (yy450 _ _) fun a E=>qaU 4 E rfl (by kernel_rfl) nP hT (qai qcs rfl (qab.cro at449)) rfl rfl fun a E=>kt 5 E rfl hT (qah rfl) fun a E=>kt 6 E rfl hT (qah rfl) fun a E=>kt 7 E rfl hT (qah rfl) fun a E=>?_
 obtain ⟨b451,o452,hp453,yy454⟩:=qbf qaR h192 e422 (P:=Tryd.prog) (X:=.tmp 108) (I:=.tmp 109) (kd:=.i64) (qay E rfl) (qay E rfl)
 refine kt 8 E rfl hT (yy454 _ _) fun a E=>?_
 obtain ⟨es455,hl456,rr457,hh458⟩:=qbT h192 e422 hp453 (by decide)
 obtain ⟨rfl,r459⟩:=rr457
 refine qaU 9 E rfl (by kernel_rfl) nP hT (qai qam rfl (qab.crow hh458 3 rfl)) rfl rfl fun a E=>?_
 obtain ⟨b460,o461,hp462,yy463⟩:=qqp qaR hr447 hl448 e433 (P:=Tryd.prog) (X:=.tmp 106) (I:=.tmp 107) (kd:=.i64) (qay E rfl) (qay E rfl)
 refine kt 10 E rfl hT (yy463 _ _) fun a E=>qar [11] (by kernel_rfl) rfl (qas ?_)
 ·refine wo rfl<|qou E ok 2 rfl h389 e413 e433 hp462 rfl rfl r459 qbp e439 e441 rfl fun M464 w ok h465=>wn<|qag (cl2 (by kernel_rfl) (cq le_m258 ok [1,3,4,5,6] rfl)) fun hT=>qaM (by kernel_rfl) ?_
  exact ⟨rfl,⟨c387,M464,c390,M391,ok,E.keep [1,2,3,9,10,75,76,77,95,96,97],r386,h465,h392⟩⟩
def qkF (u:World) (m0:Mem) (S:Segs) (r:(List (Int)) × Int) (a:Act) (w:World):Prop :=
 ∃ m1 v0,m0.le m1 ∧ Ok u m1 S w ∧ a.defers = [] ∧ RVs Tryd.prog a w [.t 2 v0,.t 3 (.int .i64 r.2)] ∧ (pL 1 (pI .i64)) m1 [v0] r.1 ∧ InR .i64 r.2
theorem qkB (N:Nat) (vd_0:List Value) (d_0:DFA) (hd_0:pDFA m0 vd_0 d_0) {r:(List (Int)) × Int} (hF:qe0 N d_0 = some r) (ok:Ok u m0 S w) :
  Calls Tryd.prog 65 [.agg vd_0.toArray].toArray w fun e w'=>∃ m1 v0,e = .returned (.tuple [v0,(.int .i64 r.2)].toArray) ∧ m0.le m1 ∧ Ok u m1 S w' ∧ (pL 1 (pI .i64)) m1 [v0] r.1 ∧ InR .i64 r.2:=by
 obtain ⟨c2,c4,rfl,r1,h3,h5⟩:=hd_0
 have le_m0:=Mem.le.refl m0
 unfold qe0 at hF
 refine en (qkF u m0 S) r Tryd.func65 rfl rfl rfl (by rintro a w ⟨m1,v0,hle,ok,hd,hrv,h0,h1⟩; exact qbC [.t 2 v0,.t 3 (.int .i64 r.2)] hd rfl hrv ⟨m1,v0,rfl,hle,ok,h0,h1⟩) fun fin a E=>sg<|qbQ E ok rfl rfl rfl fun b6 a w E ok=>av E rfl fun a E=>aw E rfl fun a E=>wp_scope_straight<|sg<|fk E ok qdW qde rfl 0 rfl rfl fun a E=>lv E ok (qaz qcP h3 rfl) fun a E=>bd hF fun l7 e8 hF=>qbR (R:=(pI .i64)) E ok qaR qdI rfl (qaW (ir 0)) rfl e8 rfl rfl fun c9 M10 a w E ok h11=>aw E rfl fun a E=>sg<|av E rfl fun a E=>wpList_nil ?_
 refine qaa<|wp_seq<|sg<|fk E ok qfS qdK rfl 1 rfl rfl fun a E=>lv E ok (qaz qbD h5 rfl) fun a E=>mv E rfl fun a E=>wn<|wp_block<|bd hF fun o19 hL hF=>qaH _ (fun (s:Int × Int × (List (Int))) a w=>∃ c22 M23,Ok u m0 (M23 :: [(b6,oc 33 [vi d_0.Start,c2,c4])] :: S) w ∧ Env 99 a [(1,vp b6),(4,c22),(5,vi s.1),(22,c4),(23,(vi (d_0.Accept.length:Int))),(24,vi s.2.1)] ∧ InR .i64 s.1 ∧ InR .i64 s.2.1 ∧ ORow 3 1 (pI .i64) m0 c22 s.2.2 M23) (fun (b:((List (Int)) × Int)) e a w=>e = (.exit 0) ∧ ∃ c295 M296,Ok u m0 (M296 :: [(b6,oc 33 [vi d_0.Start,c2,c4])] :: S) w ∧ Env 99 a [(1,vp b6),(4,c295),(5,vi b.2)] ∧ ORow 3 1 (pI .i64) m0 c295 b.1 M296 ∧ InR .i64 b.2) ?_ ?_ N _ a w hL ⟨c9,M10,ok,E.keep [1,4,5,22,23,24],(ir 1),(ir 0),h11⟩
 ·as_aux_lemma =>
   rintro ⟨v25,v26,v27⟩ a w r ⟨c30,M31,ok,E,r28,r29,h32⟩ hF
   replace hF:qdr N d_0 v25 v26 v27 = some r:=hF
   unfold qdr at hF
   refine sg<|lw E (qaC rfl rfl) fun a E=>wn<|wp_seq<|cg E rfl hF (fun c33 hF=>?_) fun c33 hF=>?_
   ·refine wp_exit<|qaE ?_
    cases hF
    exact so (⟨rfl,⟨c30,M31,ok,E.keep [1,4,5],h32,r28⟩⟩)
   refine wp_skip<|qaa<|wp_seq<|wp_block<|sg<|mv E rfl fun a E=>?_
   obtain ⟨x34,e35,hF⟩:=bnd hF
   obtain ⟨b36,o37,es38,hl39,rr40,at41,yy42⟩:=ia E 22 24 qbD h5 e35
   obtain rfl:=rr40
   refine lv E ok (yy42 _ _) fun a E=>lv E ok (qai qdk rfl (qab.ro at41)) fun a E=>av E rfl fun a E=>aw E rfl fun a E=>wp_seq<|sg<|mv E rfl fun a E=>wn<|bd hF fun o43 hJ hF=>qaO (Q':=fun e a w=>e = .normal ∧ ∃ c44 M45,Ok u m0 (M45 :: [(b6,oc 33 [vi d_0.Start,c2,c4])] :: S) w ∧ Env 99 a [(1,vp b6),(4,c44),(5,vi v25),(7,vb x34),(22,c4),(23,(vi (d_0.Accept.length:Int))),(24,vi v26)] ∧ ORow 3 1 (pI .i64) m0 c44 o43 M45) ?_ ?_
   ·have hF:=hJ
    refine cg E rfl hF (fun c47 hF=>?_) fun c47 hF=>?_
    ·refine wp_skip ?_
     cases hF
     exact ⟨rfl,⟨c30,M31,ok,E.keep [1,4,5,7,22,23,24],h32⟩⟩
    refine qac<|mz E rfl rfl fun a E=>?_
    obtain ⟨x48,e49,hF⟩:=bnd hF
    obtain ⟨b50,o51,hp52,yy53⟩:=qbf qaR h32 e49 (P:=Tryd.prog) (X:=.tmp 30) (I:=.tmp 31) (kd:=.i64) (qay E rfl) (qay E rfl)
    refine lv E ok (yy53 _ _) fun a E=>bd hF fun l54 e55 hF=>qcv (R:=(pI .i64)) E ok 0 rfl h32 e49 hp52 rfl rfl qbp rfl rfl rfl ⟨rfl,trivial⟩ (qaW (ir 1)) e55 rfl fun M56 w ok h57=>wpList_nil ?_
    cases hF
    exact ⟨rfl,⟨c30,M56,ok,E.keep [1,4,5,7,22,23,24],h57⟩⟩
   intro e a w hO
   obtain ⟨rfl,c58,M59,ok,E,h60⟩:=hO
   refine qaa<|sg<|mv E rfl fun a E=>fk E ok qfS qdK rfl 1 rfl rfl fun a E=>?_
   obtain ⟨x61,e62,hF⟩:=bnd hF
   obtain ⟨b63,o64,es65,hl66,rr67,at68,yy69⟩:=qlD qbD h5 e62 (P:=Tryd.prog) (X:=.tmp 35) (I:=.const (vi 0)) (kd:=.i64) (qay E rfl) (qay E rfl)
   obtain rfl:=rr67
   refine lv E ok (yy69 _ _) fun a E=>lv E ok (qai qdk rfl (qab.ro at68)) fun a E=>lw E (qmn Tryd.underlying4 rfl rfl) fun a E=>wn<|cg E rfl hF (fun c70 hF=>?_) fun c70 hF=>?_
   ·refine wp_skip<|qap<|qaa<|qac<|lw E (qaA rfl rfl (InR.inc r29 (qal h5) c33)) fun a E=>mv E rfl fun a E=>wpList_nil ?_
    cases hF
    exact qau ⟨c58,M59,ok,E.keep [1,4,5,22,23,24],r28,(InR.inc r29 (qal h5) c33),h60⟩
   refine qac<|av E rfl fun a E=>wpList_nil<|qap<|qaa<|qac<|lw E (qaA rfl rfl (InR.inc r29 (qal h5) c33)) fun a E=>mv E rfl fun a E=>wpList_nil ?_
   cases hF
   exact qau ⟨c58,M59,ok,E.keep [1,4,5,22,23,24],(ir 2),(InR.inc r29 (qal h5) c33),h60⟩
 intro e a w _ hO
 obtain ⟨rfl,c71,M72,ok,E,h73,r74⟩:=hO
 refine qaN<|qaa<|wp_seq<|wp_label<|qaa<|wp_seq<|wp_block<|bd hF fun o79 hL hF=>qaH _ (fun (s:(List (Int)) × Int) a w=>∃ c80 M81,Ok u m0 (M81 :: [(b6,oc 33 [vi d_0.Start,c2,c4])] :: S) w ∧ Env 99 a [(1,vp b6),(4,c80),(5,vi s.2)] ∧ ORow 3 1 (pI .i64) m0 c80 s.1 M81 ∧ InR .i64 s.2) (fun (b:((List (Int)) × Int)) e a w=>e = (.exit 2) ∧ ∃ c291 M292,Ok u m0 (M292 :: [(b6,oc 33 [vi d_0.Start,c2,c4])] :: S) w ∧ Env 99 a [(4,c291),(5,vi b.2)] ∧ ORow 3 1 (pI .i64) m0 c291 b.1 M292 ∧ InR .i64 b.2) ?_ ?_ N _ a w hL ⟨c71,M72,ok,E.keep [1,4,5],h73,r74⟩
 rotate_left
 ·intro e a w _ hO
  obtain ⟨rfl,c285,M286,ok,E,h287,r288⟩:=hO
  refine qaN<|qaa<|sg<|mz E rfl rfl fun a E=>av E rfl fun a E=>av E rfl fun a E=>wn<|wp_ret<|quM ?_
  obtain ⟨m289,hle,ok,hfz⟩:=(ok.frs 0 rfl).freeze
  have h290:=ORow.froz (mI .i64) h287 hle hfz (by decide)
  have le_m0:=le_m0.trans hle
  have h3:=(mL (mL (mI .i64))).up hle h3
  have h5:=(mL mB).up hle h5
  exact fin hF ⟨m289,c285,le_m0,ok.drop,E.d,⟨rv_t E rfl,rv_t E rfl,trivial⟩,h290,r288⟩
 rintro ⟨v84,v85⟩ a w r ⟨c86,M87,ok,E,h88,r89⟩ hF
 replace hF:qdj N d_0 v84 v85 = some r:=hF
 unfold qdj at hF
 refine wp_block<|sg<|qgF (aggK pKey) (oneV (pI .i64)) E ok rfl rfl fun c90 M91 a w E ok h92=>aw E rfl fun a E=>sg<|mv E rfl fun a E=>lv E ok (qcz qaR h88 rfl) fun a E=>bd hF fun l93 e94 hF=>qbR (R:=(pI .i64)) E ok qaR qdI rfl (qaW (ir 0)) rfl e94 rfl rfl fun c95 M96 a w E ok h97=>aw E rfl fun a E=>wp_seq<|sg<|fv E qdW rfl fun a E=>ld E ok qde 3 rfl rfl rfl fun a E=>lv E ok (qaz qcP h3 rfl) fun a E=>mv E rfl fun a E=>wn<|wp_block ?_
 refine bd hF fun o106 hL hF=>qaH _ (fun (s:Int × (List (Key × Int)) × (List (Int))) a w=>∃ c108 M109 c111 M112,Ok u m0 (M112 :: M109 :: M87 :: [(b6,oc 33 [vi d_0.Start,c2,c4])] :: S) w ∧ Env 99 a [(1,vp b6),(4,c86),(5,vi v85),(8,c108),(9,c111),(45,c2),(46,(vi (d_0.Next.length:Int))),(47,vi s.1)] ∧ InR .i64 s.1 ∧ OMap (aggK pKey) (oneV (pI .i64)) m0 c108 s.2.1 M109 ∧ ORow 3 1 (pI .i64) m0 c111 s.2.2 M112) (fun (b:((List (Key × Int)) × (List (Int)))) e a w=>e = (.exit 4) ∧ ∃ c279 M280 c282 M283,Ok u m0 (M283 :: M280 :: M87 :: [(b6,oc 33 [vi d_0.Start,c2,c4])] :: S) w ∧ Env 99 a [(1,vp b6),(5,vi v85),(8,c279),(9,c282)] ∧ OMap (aggK pKey) (oneV (pI .i64)) m0 c279 b.1 M280 ∧ ORow 3 1 (pI .i64) m0 c282 b.2 M283) ?_ ?_ N _ a w hL ⟨c90,M91,c95,M96,ok,E.keep [1,4,5,8,9,45,46,47],(ir 0),h92,h97⟩
 rotate_left
 ·intro e a w _ hO
  obtain ⟨rfl,c272,M273,c275,M276,ok,E,h274,h277⟩:=hO
  refine qaN<|qaa<|sg<|mv E rfl fun a E=>aw E rfl fun a E=>wp_seq<|sg<|mv E rfl fun a E=>lv E ok (qhZ 1 rfl Tryd.underlying145 h274 rfl) fun a E=>mv E rfl fun a E=>lw E (qax rfl rfl) fun a E=>wn<|cf E rfl hF (fun c278 hF=>?_) fun c278 hF=>?_
  ·refine wp_exit<|qaE<|qqI rfl ?_
   cases hF
   exact so (⟨rfl,⟨c275,M276,(ok.pk 4 [0,3] rfl (by decide)),E.keep [4,5],h277,r89⟩⟩)
  refine wp_skip<|qaa<|qac<|mv E rfl fun a E=>lv E ok (qhZ 1 rfl Tryd.underlying145 h274 rfl) fun a E=>av E rfl fun a E=>wpList_nil<|qap ?_
  cases hF
  exact qau ⟨c275,M276,(ok.pk 4 [0,3] rfl (by decide)),E.keep [1,4,5],h277,(OMap.InR h274)⟩
 rintro ⟨v114,v115,v116⟩ a w r ⟨c118,M119,c121,M122,ok,E,r117,h120,h123⟩ hF
 replace hF:qdm N d_0 v84 v114 v115 v116 = some r:=hF
 unfold qdm at hF
 refine sg<|lw E (qaC rfl rfl) fun a E=>wn<|wp_seq<|cg E rfl hF (fun c124 hF=>?_) fun c124 hF=>?_
 ·refine wp_exit<|qaE ?_
  cases hF
  exact so (⟨rfl,⟨c118,M119,c121,M122,ok,E.keep [1,5,8,9],h120,h123⟩⟩)
 refine wp_skip<|qaa<|wp_seq<|wp_block<|sg<|mv E rfl fun a E=>?_
 obtain ⟨x125,e126,hF⟩:=bnd hF
 obtain ⟨b127,o128,es129,hl130,rr131,at132,yy133⟩:=ia E 45 47 qcP h3 e126
 obtain ⟨c134,rfl,h135⟩:=qbG rr131
 refine lv E ok (yy133 _ _) fun a E=>lv E ok (qai qcs rfl (qab.ro at132)) fun a E=>av E rfl fun a E=>aw E rfl fun a E=>sg<|mz E rfl rfl fun a E=>?_
 obtain ⟨x136,e137,hF⟩:=bnd hF
 obtain ⟨b138,o139,hp140,yy141⟩:=qbf qaR h88 e137 (P:=Tryd.prog) (X:=.tmp 52) (I:=.tmp 53) (kd:=.i64) (qay E rfl) (qay E rfl)
 refine lv E ok (yy141 _ _) fun a E=>?_
 obtain ⟨es142,hl143,rr144,hh145⟩:=qbT h88 e137 hp140 (by decide)
 obtain ⟨rfl,r146⟩:=rr144
 refine lv E ok (qai qam rfl (hh145 _ _ _ 2 rfl)) fun a E=>lw E (qaG (ps:=[(0,.tmp 55)]) (qs:=[(0,[vi x136])]) (cs:=[vi x136,vi 0,vi 0,vi 0,vi 0,vi 0,vi 0,vi 0,vi 0,vi 0,vi 0,vi 0]) qoo qp7 rfl ⟨rfl,rfl,rfl,trivial⟩ rfl) fun a E=>qaw E ok qoo rfl rfl fun b147 a w E ok=>qaf E ok 0 rfl rfl rfl qs1 rfl rfl ⟨rfl,rfl,rfl,rfl,rfl,rfl,rfl,rfl,rfl,rfl,rfl,rfl,trivial⟩ rfl rfl fun w ok=>wn<|wp_seq<|sg<|mv E rfl fun a E=>lv E ok (qaz qaR h135 rfl) fun a E=>mv E rfl fun a E=>wn<|wp_block<|bd hF fun o162 hL hF=>qaH _ (fun (s:Int × Key) a w=>Ok u m0 ([(b147,oc 147 [vi s.2.class_,vi s.2.next.e0,vi s.2.next.e1,vi s.2.next.e2,vi s.2.next.e3,vi s.2.next.e4,vi s.2.next.e5,vi s.2.next.e6,vi s.2.next.e7,vi s.2.next.e8,vi s.2.next.e9,vi s.2.next.e10])] :: M122 :: M119 :: M87 :: [(b6,oc 33 [vi d_0.Start,c2,c4])] :: S) w ∧ Env 99 a [(1,vp b6),(4,c86),(5,vi v85),(8,c118),(9,c121),(10,vi v114),(12,vp b147),(45,c2),(46,(vi (d_0.Next.length:Int))),(47,vi v114),(57,c134),(58,(vi (x125.length:Int))),(59,vi s.1)] ∧ InR .i64 s.1 ∧ InR .i64 s.2.class_ ∧ InR .i64 s.2.next.e0 ∧ InR .i64 s.2.next.e1 ∧ InR .i64 s.2.next.e2 ∧ InR .i64 s.2.next.e3 ∧ InR .i64 s.2.next.e4 ∧ InR .i64 s.2.next.e5 ∧ InR .i64 s.2.next.e6 ∧ InR .i64 s.2.next.e7 ∧ InR .i64 s.2.next.e8 ∧ InR .i64 s.2.next.e9 ∧ InR .i64 s.2.next.e10) (fun (b:Key) e a w=>e = (.exit 6) ∧ Ok u m0 ([(b147,oc 147 [vi b.class_,vi b.next.e0,vi b.next.e1,vi b.next.e2,vi b.next.e3,vi b.next.e4,vi b.next.e5,vi b.next.e6,vi b.next.e7,vi b.next.e8,vi b.next.e9,vi b.next.e10])] :: M122 :: M119 :: M87 :: [(b6,oc 33 [vi d_0.Start,c2,c4])] :: S) w ∧ Env 99 a [(1,vp b6),(4,c86),(5,vi v85),(8,c118),(9,c121),(10,vi v114),(12,vp b147),(45,c2),(46,(vi (d_0.Next.length:Int))),(47,vi v114)] ∧ InR .i64 b.class_ ∧ InR .i64 b.next.e0 ∧ InR .i64 b.next.e1 ∧ InR .i64 b.next.e2 ∧ InR .i64 b.next.e3 ∧ InR .i64 b.next.e4 ∧ InR .i64 b.next.e5 ∧ InR .i64 b.next.e6 ∧ InR .i64 b.next.e7 ∧ InR .i64 b.next.e8 ∧ InR .i64 b.next.e9 ∧ InR .i64 b.next.e10) ?_ ?_ N _ a w hL ⟨ok,E.keep [1,4,5,8,9,10,12,45,46,47,57,58,59],(ir 0),r146,(ir 0),(ir 0),(ir 0),(ir 0),(ir 0),(ir 0),(ir 0),(ir 0),(ir 0),(ir 0),(ir 0)⟩
 ·rintro ⟨v176,v177⟩ a w r ⟨ok,E,r178,r179,r180,r181,r182,r183,r184,r185,r186,r187,r188,r189,r190⟩ hF
  replace hF:qcb N v84 x125 v176 v177 = some r:=hF
  unfold qcb at hF
  refine sg<|lw E (qaC rfl rfl) fun a E=>wn<|wp_seq<|cg E rfl hF (fun c191 hF=>?_) fun c191 hF=>?_
  ·refine wp_exit<|qaE ?_
   cases hF
   exact so (⟨rfl,⟨ok,E.keep [1,4,5,8,9,10,12,45,46,47],r179,r180,r181,r182,r183,r184,r185,r186,r187,r188,r189,r190⟩⟩)
  refine wp_skip<|qaa<|wp_seq<|wp_block<|sg<|mv E rfl fun a E=>?_
  obtain ⟨x192,e193,hF⟩:=bnd hF
  obtain ⟨b194,o195,es196,hl197,rr198,at199,yy200⟩:=ia E 57 59 qaR h135 e193
  obtain ⟨rfl,r201⟩:=rr198
  refine lv E ok (yy200 _ _) fun a E=>lv E ok (qai qam rfl (qab.ro at199)) fun a E=>av E rfl fun a E=>aw E rfl fun a E=>qac<|mv E rfl fun a E=>mz E rfl rfl fun a E=>?_
  obtain ⟨x202,e203,hF⟩:=bnd hF
  obtain ⟨b204,o205,hp206,yy207⟩:=qbf qaR h88 e203 (P:=Tryd.prog) (X:=.tmp 65) (I:=.tmp 66) (kd:=.i64) (qay E rfl) (qay E rfl)
  refine lv E ok (yy207 _ _) fun a E=>?_
  obtain ⟨es208,hl209,rr210,hh211⟩:=qbT h88 e203 hp206 (by decide)
  obtain ⟨rfl,r212⟩:=rr210
  refine lv E ok (qai qam rfl (hh211 _ _ _ 3 rfl)) fun a E=>fv E qrQ rfl fun a E=>?_
  obtain ⟨x213,e214,hF⟩:=bnd hF
  replace e214:idx (Arr11_Int.list v177.next) v176 = some x213:=e214
  refine lv E ok (qdZ qhx rfl rfl (qaL e214).1 (qaL e214).2) fun a E=>?_
  obtain ⟨z215,e216,hF⟩:=bnd hF
  have h217:=Arr11_Int.set_list e216
  have h218:=AllP.setI (q:=(InR .i64)) (xs:=Arr11_Int.list v177.next) ⟨r180,r181,r182,r183,r184,r185,r186,r187,r188,r189,r190,trivial⟩ r212 h217
  refine qem (c:=[vi v177.class_,vi v177.next.e0,vi v177.next.e1,vi v177.next.e2,vi v177.next.e3,vi v177.next.e4,vi v177.next.e5,vi v177.next.e6,vi v177.next.e7,vi v177.next.e8,vi v177.next.e9,vi v177.next.e10]) (c':=[vi v177.class_,vi z215.e0,vi z215.e1,vi z215.e2,vi z215.e3,vi z215.e4,vi z215.e5,vi z215.e6,vi z215.e7,vi z215.e8,vi z215.e9,vi z215.e10]) E ok 0 rfl rfl rfl qbp rfl rfl ⟨rfl,trivial⟩ (qh9 (n:=11) (qaL e214).2 (Nat.le_of_ble_eq_true rfl)) (qjl (f:=(Value.int .i64)) (pre:=[vi v177.class_]) (post:=[]) (xs:=Arr11_Int.list v177.next) (ys:=z215.list) rfl h217) rfl fun w ok=>wpList_nil<|qap<|qaa<|qac<|lw E (qaA rfl rfl (InR.inc r178 (qal h135) c191)) fun a E=>mv E rfl fun a E=>wpList_nil ?_
  cases hF
  exact qau ⟨ok,E.keep [1,4,5,8,9,10,12,45,46,47,57,58,59],(InR.inc r178 (qal h135) c191),r179,h218.1,h218.2.1,h218.2.2.1,h218.2.2.2.1,h218.2.2.2.2.1,h218.2.2.2.2.2.1,h218.2.2.2.2.2.2.1,h218.2.2.2.2.2.2.2.1,h218.2.2.2.2.2.2.2.2.1,h218.2.2.2.2.2.2.2.2.2.1,h218.2.2.2.2.2.2.2.2.2.2.1⟩
 intro e a w _ hO
 obtain ⟨rfl,ok,E,r219,r220,r221,r222,r223,r224,r225,r226,r227,r228,r229,r230⟩:=hO
 refine qaN<|qaa<|sg<|mv E rfl fun a E=>lv E ok (qaj (cs:=[vi o162.class_,vi o162.next.e0,vi o162.next.e1,vi o162.next.e2,vi o162.next.e3,vi o162.next.e4,vi o162.next.e5,vi o162.next.e6,vi o162.next.e7,vi o162.next.e8,vi o162.next.e9,vi o162.next.e10]) qpC rfl rfl (qab.own 0 rfl rfl)) fun a E=>?_
 obtain ⟨xv231,h232,yy233,yy234⟩:=qkm (P:=Tryd.prog) (mo:=.tmp 73) (ko:=.tmp 74) (zx:=(0:Int)) ok 2 qoj Tryd.underlying145 h120 rfl (qay E rfl) (qay E rfl) ⟨m0,_,rfl,⟨rfl,r219,r220,r221,r222,r223,r224,r225,r226,r227,r228,r229,r230⟩⟩ qiJ (qaW (ir 0))
 obtain ⟨rfl,r235⟩:=qha h232
 refine lv E ok (yy234 _) fun a E=>mv E rfl fun a E=>lw E (qaF rfl rfl) fun a E=>lw E (qaF rfl rfl) fun a E=>av E rfl fun a E=>aw E rfl fun a E=>wp_seq<|sg<|mv E rfl fun a E=>lw E (qbW rfl) fun a E=>wn<|bd hF fun o236 hJ hF=>qaO (Q':=fun e a w=>e = .normal ∧ ∃ c237 M238,Ok u m0 ([(b147,oc 147 [vi o162.class_,vi o162.next.e0,vi o162.next.e1,vi o162.next.e2,vi o162.next.e3,vi o162.next.e4,vi o162.next.e5,vi o162.next.e6,vi o162.next.e7,vi o162.next.e8,vi o162.next.e9,vi o162.next.e10])] :: M122 :: M238 :: M87 :: [(b6,oc 33 [vi d_0.Start,c2,c4])] :: S) w ∧ Env 99 a [(1,vp b6),(4,c86),(5,vi v85),(8,c237),(9,c121),(10,vi v114),(15,vi o236.2),(45,c2),(46,(vi (d_0.Next.length:Int))),(47,vi v114)] ∧ OMap (aggK pKey) (oneV (pI .i64)) m0 c237 o236.1 M238 ∧ InR .i64 o236.2) ?_ ?_
 rotate_left
 ·intro e a w hO
  obtain ⟨rfl,c246,M247,ok,E,h248,r249⟩:=hO
  refine qaa<|qac<|mz E rfl rfl fun a E=>mv E rfl fun a E=>?_
  obtain ⟨x250,e251,hF⟩:=bnd hF
  obtain ⟨b252,o253,hp254,yy255⟩:=qbf qaR h123 e251 (P:=Tryd.prog) (X:=.tmp 85) (I:=.tmp 86) (kd:=.i64) (qay E rfl) (qay E rfl)
  refine lv E ok (yy255 _ _) fun a E=>bd hF fun l256 e257 hF=>qcv (R:=(pI .i64)) E ok 1 rfl h123 e251 hp254 rfl rfl qbp rfl rfl rfl ⟨rfl,trivial⟩ (qaW r249) e257 rfl fun M258 w ok h259=>wpList_nil<|qap<|qaa<|qac<|lw E (qaA rfl rfl (InR.inc r117 (qal h3) c124)) fun a E=>mv E rfl fun a E=>wpList_nil ?_
  cases hF
  exact qau ⟨c246,M247,c121,M258,(ok.pk 5 [1,2,3,4] rfl (by decide)),E.keep [1,4,5,8,9,45,46,47],(InR.inc r117 (qal h3) c124),h248,h259⟩
 have hF:=hJ
 refine cg E rfl hF (fun c241 hF=>?_) fun c241 hF=>?_
 ·refine wp_skip ?_
  cases hF
  exact ⟨rfl,⟨c118,M119,ok,E.keep [1,4,5,8,9,10,15,45,46,47],h120,r235⟩⟩
 refine sg<|mv E rfl fun a E=>lv E ok (qhZ 2 rfl Tryd.underlying145 h120 rfl) fun a E=>aw E rfl fun a E=>qac<|mv E rfl fun a E=>lv E ok (qaj (cs:=[vi o162.class_,vi o162.next.e0,vi o162.next.e1,vi o162.next.e2,vi o162.next.e3,vi o162.next.e4,vi o162.next.e5,vi o162.next.e6,vi o162.next.e7,vi o162.next.e8,vi o162.next.e9,vi o162.next.e10]) qpC rfl rfl (qab.own 0 rfl rfl)) fun a E=>mv E rfl fun a E=>bd hF fun l242 e243 hF=>qgA (.inl rfl) E ok 2 qoj Tryd.underlying145 h120 rfl rfl rfl rfl ⟨m0,_,rfl,⟨rfl,r219,r220,r221,r222,r223,r224,r225,r226,r227,r228,r229,r230⟩⟩ (qaW (OMap.InR h120)) e243 rfl fun M244 w ok h245=>wpList_nil ?_
 cases hF
 exact ⟨rfl,⟨c118,M244,ok,E.keep [1,4,5,8,9,10,15,45,46,47],h245,(OMap.InR h120)⟩⟩
def qky (u:World) (m0:Mem) (S:Segs) (r:DFA) (a:Act) (w:World):Prop :=
 ∃ m1 v0,m0.le m1 ∧ Ok u m1 S w ∧ a.defers = [] ∧ RVs Tryd.prog a w [.c 2 33 (.agg v0.toArray)] ∧ pDFA m1 v0 r
theorem qkS (N:Nat) (vd_0:List Value) (d_0:DFA) (hd_0:pDFA m0 vd_0 d_0) {r:DFA} (hF:qeV N d_0 = some r) (ok:Ok u m0 S w) :
  Calls Tryd.prog 47 [.agg vd_0.toArray].toArray w fun e w'=>∃ m1 v0,e = .returned (.agg v0.toArray) ∧ m0.le m1 ∧ Ok u m1 S w' ∧ pDFA m1 v0 r:=by
 obtain ⟨c2,c4,rfl,r1,h3,h5⟩:=hd_0
 have le_m0:=Mem.le.refl m0
 unfold qeV at hF
 refine en (qky u m0 S) r Tryd.func47 rfl rfl rfl (by rintro a w ⟨m1,v0,hle,ok,hd,hrv,h0⟩; exact qbC [.c 2 33 (.agg v0.toArray)] hd rfl hrv ⟨m1,v0,rfl,hle,ok,h0⟩) fun fin a E=>sg<|qbQ E ok rfl rfl rfl fun b6 a w E ok=>qaw E ok qa0 rfl rfl fun b7 a w E ok=>wn<|sg<|lv E ok (qaj (cs:=[vi d_0.Start,c2,c4]) qcr rfl rfl (qab.own 1 rfl rfl)) fun a E=>bd hF fun r8 e9 hF=>qao E qsj rfl (qhp N _ d_0 ⟨_,_,rfl,r1,h3,h5⟩ e9 ok) rfl rfl ?_
 rintro _ w ⟨m10,vs11,rfl,hle,ok,h12⟩
 have le_m0:=le_m0.trans hle
 have h3:=(mL (mL (mI .i64))).up hle h3
 have h5:=(mL mB).up hle h5
 obtain ⟨c14,c16,rfl,r13,h15,h17⟩:=h12
 refine ⟨_,rfl,fun a E=>?_⟩
 refine qaf E ok 1 rfl rfl rfl qbI rfl rfl ⟨rfl,(qa9 h15),(qa9 h17),trivial⟩ rfl rfl fun w ok=>wn<|sg<|lv E ok (qaj (cs:=[vi r8.Start,c14,c16]) qcr rfl rfl (qab.own 1 rfl rfl)) fun a E=>bd hF fun r18 e19 hF=>qao E quB rfl (qkB N _ r8 ⟨_,_,rfl,r13,h15,h17⟩ e19 ok) rfl rfl ?_
 rintro _ w ⟨m20,c21,rfl,hle,ok,h22,r23⟩
 have le_m0:=le_m0.trans hle
 have h3:=(mL (mL (mI .i64))).up hle h3
 have h5:=(mL mB).up hle h5
 have h15:=(mL (mL (mI .i64))).up hle h15
 have h17:=(mL mB).up hle h17
 refine ⟨_,rfl,fun a E=>?_⟩
 refine mv E rfl fun a E=>lw E (qaF rfl rfl) fun a E=>lw E (qaF rfl rfl) fun a E=>av E rfl fun a E=>aw E rfl fun a E=>wp_seq<|bd hF fun o24 hJ hF=>qaO (Q':=fun e a w=>e = .normal ∧ ∃ m25 b33 c27 M28 c30 M31,m20.le m25 ∧ Ok u m25 ([(b33,oc 33 [vi o24.Start,c27,c30])] :: M31 :: M28 :: [(b7,oc 33 [vi 0,(Value.slice none 0 0),(Value.slice none 0 0)])] :: [(b6,oc 33 [vi r8.Start,c14,c16])] :: S) w ∧ Env 72 a [(1,vp b6),(2,vp b7),(3,c21),(5,vp b33)] ∧ InR .i64 o24.Start ∧ qbg m25 c27 o24.Next M28 ∧ ORow 4 1 pB m25 c30 o24.Accept M31) ?_ ?_
 ·as_aux_lemma =>
   have hF:=hJ
   have le_m20:=Mem.le.refl m20
   obtain ⟨x34,e35,hF⟩:=bnd hF
   obtain ⟨g44,e45,hF⟩:=bnd hF
   obtain ⟨l50,e51,hF⟩:=bnd hF
   obtain rfl:=sj hF
   refine qaX [] (Cls u m20 ([(b7,oc 33 [vi 0,(Value.slice none 0 0),(Value.slice none 0 0)])] :: [(b6,oc 33 [vi r8.Start,c14,c16])] :: [])) (Cls u m20 ([(b7,oc 33 [vi 0,(Value.slice none 0 0),(Value.slice none 0 0)])] :: [(b6,oc 33 [vi r8.Start,c14,c16])] :: [])) (by kernel_rfl) ?_
   intro w hw
   replace ok:=qa3 ok hw
   clear hw
   have h15_o:=h15
   have h17_o:=h17
   have h22_o:=h22
   refine qag (cl1 (cq le_m20 ok [0,1] rfl) (cq le_m20 ok [0,1] rfl)) fun hT=>kt 0 E rfl hT (qah rfl) fun a E=>kt 1 E rfl hT (qae qgP rfl) fun a E=>kt 2 E rfl hT (qai qam rfl (qab.cown 1 rfl rfl)) fun a E=>?_
   obtain ⟨b56,o57,es58,hl59,rr60,at61,yy62⟩:=ia E 17 19 qaR h22 e35
   obtain ⟨rfl,r63⟩:=rr60
   refine kt 3 E rfl hT (yy62 _ _) fun a E=>kt 4 E rfl hT (qai qam rfl (qab.cro at61)) fun a E=>kt 5 E rfl hT (qah rfl) fun a E=>kt 7 E rfl hT (qah rfl) fun a E=>qar [6,8,10] (by kernel_rfl) rfl (qbA ?_ (qbA ?_ (qbA ?_ (qeA))))
   ·refine wo rfl<|qao E qh2 rfl (qcn N r18.2 r23 e45 ok) rfl rfl ?_
    rintro _ w ⟨m64,c65,M66,rfl,hle,ok,h67⟩
    have le_m0:=le_m0.trans hle
    have le_m20:=le_m20.trans hle
    have h3:=(mL (mL (mI .i64))).up hle h3
    have h5:=(mL mB).up hle h5
    have h15:=(mL (mL (mI .i64))).up hle h15
    have h17:=(mL mB).up hle h17
    have h22:=(mL (mI .i64)).up hle h22
    have at61:=At.up hle at61
    refine ⟨_,rfl,fun a E=>?_⟩
    refine wn<|qag (cl1 (cq le_m20 ok [1,2] rfl) (cq le_m20 ok [1,2] rfl)) fun hT=>qar [8,10] (by kernel_rfl) rfl (qbA ?_ (qbA ?_ (qeA)))
    ·refine wo rfl<|qbR (R:=pB) E ok qbD qd0 rfl qeo rfl e51 rfl rfl fun c68 M69 a w E ok h70=>wn<|qag (cl1 (cq le_m20 ok [2,3] rfl) (cq le_m20 ok [2,3] rfl)) fun hT=>kt 9 E rfl hT (qaG (ps:=[(0,.tmp 21),(1,.tmp 23),(2,.tmp 25)]) (qs:=[(0,[vi x34]),(1,[c65]),(2,[c68])]) (cs:=[vi x34,c65,c68]) qa0 qci rfl ⟨rfl,rfl,rfl,⟨rfl,(qbg.cells h67),rfl,⟨rfl,(ORow.cells h70),rfl,trivial⟩⟩⟩ rfl) fun a E=>qar [10] (by kernel_rfl) rfl (qas ?_)
     ·refine wo rfl<|qaw E ok qa0 rfl rfl fun b71 a w E ok=>wn<|qag (cl1 (cq le_m20 ok [3,4] rfl) (cq le_m20 ok [3,4] rfl)) fun hT=>qar [11] (by kernel_rfl) rfl (qas ?_)
      ·refine wo rfl<|qaf E ok 0 rfl rfl rfl qbI rfl rfl ⟨rfl,(qbg.one h67),(ORow.one h70),trivial⟩ rfl rfl fun w ok=>wn<|qag (cl1 (cq le_m20 ok [3,4] rfl) (cq le_m20 ok [3,4] rfl)) fun hT=>qaM (by kernel_rfl) ?_
       exact ⟨rfl,⟨m64,b71,c65,M66,c68,M69,le_m20,ok,E.keep [1,2,3,5],r63,h67,h70⟩⟩
    refine wo rfl<|qaw E ok qa0 rfl rfl fun b72 a w E ok=>wn<|qag (cl1 (cq le_m20 ok [2,3] rfl) (cq le_m20 ok [2,3] rfl)) fun hT=>qar [8] (by kernel_rfl) rfl (qas ?_)
    ·refine wo rfl<|qbR (R:=pB) E ok qbD qd0 rfl qeo rfl e51 rfl rfl fun c73 M74 a w E ok h75=>wn<|qag (cl1 (cq le_m20 ok [3,4] rfl) (cq le_m20 ok [3,4] rfl)) fun hT=>kt 9 E rfl hT (qaG (ps:=[(0,.tmp 21),(1,.tmp 23),(2,.tmp 25)]) (qs:=[(0,[vi x34]),(1,[c65]),(2,[c73])]) (cs:=[vi x34,c65,c73]) qa0 qci rfl ⟨rfl,rfl,rfl,⟨rfl,(qbg.cells h67),rfl,⟨rfl,(ORow.cells h75),rfl,trivial⟩⟩⟩ rfl) fun a E=>qar [11] (by kernel_rfl) rfl (qas ?_)
     ·refine wo rfl<|qaf E ok 1 rfl rfl rfl qbI rfl rfl ⟨rfl,(qbg.one h67),(ORow.one h75),trivial⟩ rfl rfl fun w ok=>wn<|qag (cl1 (cq le_m20 ok [3,4] rfl) (cq le_m20 ok [3,4] rfl)) fun hT=>qaM (by kernel_rfl) ?_
      exact ⟨rfl,⟨m64,b72,c65,M66,c73,M74,le_m20,(ok.pk 5 [1,0,2,3,4] rfl (by decide)),E.keep [1,2,3,5],r63,h67,h75⟩⟩
   ·refine wo rfl<|qbR (R:=pB) E ok qbD qd0 rfl qeo rfl e51 rfl rfl fun c76 M77 a w E ok h78=>wn<|qag (cl1 (cq le_m20 ok [1,2] rfl) (cq le_m20 ok [1,2] rfl)) fun hT=>qar [6,10] (by kernel_rfl) rfl (qbA ?_ (qbA ?_ (qeA)))
    ·refine wo rfl<|qao E qh2 rfl (qcn N r18.2 r23 e45 ok) rfl rfl ?_
     rintro _ w ⟨m79,c80,M81,rfl,hle,ok,h82⟩
     have le_m0:=le_m0.trans hle
     have le_m20:=le_m20.trans hle
     have h3:=(mL (mL (mI .i64))).up hle h3
     have h5:=(mL mB).up hle h5
     have h15:=(mL (mL (mI .i64))).up hle h15
     have h17:=(mL mB).up hle h17
     have h22:=(mL (mI .i64)).up hle h22
     have at61:=At.up hle at61
     have h78:=ORow.up mB hle h78
     refine ⟨_,rfl,fun a E=>?_⟩
     refine wn<|qag (cl1 (cq le_m20 ok [2,3] rfl) (cq le_m20 ok [2,3] rfl)) fun hT=>kt 9 E rfl hT (qaG (ps:=[(0,.tmp 21),(1,.tmp 23),(2,.tmp 25)]) (qs:=[(0,[vi x34]),(1,[c80]),(2,[c76])]) (cs:=[vi x34,c80,c76]) qa0 qci rfl ⟨rfl,rfl,rfl,⟨rfl,(qbg.cells h82),rfl,⟨rfl,(ORow.cells h78),rfl,trivial⟩⟩⟩ rfl) fun a E=>qar [10] (by kernel_rfl) rfl (qas ?_)
     ·refine wo rfl<|qaw E ok qa0 rfl rfl fun b83 a w E ok=>wn<|qag (cl1 (cq le_m20 ok [3,4] rfl) (cq le_m20 ok [3,4] rfl)) fun hT=>qar [11] (by kernel_rfl) rfl (qas ?_)
      ·refine wo rfl<|qaf E ok 0 rfl rfl rfl qbI rfl rfl ⟨rfl,(qbg.one h82),(ORow.one h78),trivial⟩ rfl rfl fun w ok=>wn<|qag (cl1 (cq le_m20 ok [3,4] rfl) (cq le_m20 ok [3,4] rfl)) fun hT=>qaM (by kernel_rfl) ?_
       exact ⟨rfl,⟨m79,b83,c80,M81,c76,M77,le_m20,(ok.pk 5 [0,2,1,3,4] rfl (by decide)),E.keep [1,2,3,5],r63,h82,h78⟩⟩
    refine wo rfl<|qaw E ok qa0 rfl rfl fun b84 a w E ok=>wn<|qag (cl1 (cq le_m20 ok [2,3] rfl) (cq le_m20 ok [2,3] rfl)) fun hT=>qar [6] (by kernel_rfl) rfl (qas ?_)
    ·refine wo rfl<|qao E qh2 rfl (qcn N r18.2 r23 e45 ok) rfl rfl ?_
     rintro _ w ⟨m85,c86,M87,rfl,hle,ok,h88⟩
     have le_m0:=le_m0.trans hle
     have le_m20:=le_m20.trans hle
     have h3:=(mL (mL (mI .i64))).up hle h3
     have h5:=(mL mB).up hle h5
     have h15:=(mL (mL (mI .i64))).up hle h15
     have h17:=(mL mB).up hle h17
     have h22:=(mL (mI .i64)).up hle h22
     have at61:=At.up hle at61
     have h78:=ORow.up mB hle h78
     refine ⟨_,rfl,fun a E=>?_⟩
     refine wn<|qag (cl1 (cq le_m20 ok [3,4] rfl) (cq le_m20 ok [3,4] rfl)) fun hT=>kt 9 E rfl hT (qaG (ps:=[(0,.tmp 21),(1,.tmp 23),(2,.tmp 25)]) (qs:=[(0,[vi x34]),(1,[c86]),(2,[c76])]) (cs:=[vi x34,c86,c76]) qa0 qci rfl ⟨rfl,rfl,rfl,⟨rfl,(qbg.cells h88),rfl,⟨rfl,(ORow.cells h78),rfl,trivial⟩⟩⟩ rfl) fun a E=>qar [11] (by kernel_rfl) rfl (qas ?_)
     ·refine wo rfl<|qaf E ok 1 rfl rfl rfl qbI rfl rfl ⟨rfl,(qbg.one h88),(ORow.one h78),trivial⟩ rfl rfl fun w ok=>wn<|qag (cl1 (cq le_m20 ok [3,4] rfl) (cq le_m20 ok [3,4] rfl)) fun hT=>qaM (by kernel_rfl) ?_
      exact ⟨rfl,⟨m85,b84,c86,M87,c76,M77,le_m20,(ok.pk 5 [1,2,0,3,4] rfl (by decide)),E.keep [1,2,3,5],r63,h88,h78⟩⟩
   refine wo rfl<|qaw E ok qa0 rfl rfl fun b89 a w E ok=>wn<|qag (cl1 (cq le_m20 ok [1,2] rfl) (cq le_m20 ok [1,2] rfl)) fun hT=>qar [6,8] (by kernel_rfl) rfl (qbA ?_ (qbA ?_ (qeA)))
   ·refine wo rfl<|qao E qh2 rfl (qcn N r18.2 r23 e45 ok) rfl rfl ?_
    rintro _ w ⟨m90,c91,M92,rfl,hle,ok,h93⟩
    have le_m0:=le_m0.trans hle
    have le_m20:=le_m20.trans hle
    have h3:=(mL (mL (mI .i64))).up hle h3
    have h5:=(mL mB).up hle h5
    have h15:=(mL (mL (mI .i64))).up hle h15
    have h17:=(mL mB).up hle h17
    have h22:=(mL (mI .i64)).up hle h22
    have at61:=At.up hle at61
    refine ⟨_,rfl,fun a E=>?_⟩
    refine wn<|qag (cl1 (cq le_m20 ok [2,3] rfl) (cq le_m20 ok [2,3] rfl)) fun hT=>qar [8] (by kernel_rfl) rfl (qas ?_)
    ·refine wo rfl<|qbR (R:=pB) E ok qbD qd0 rfl qeo rfl e51 rfl rfl fun c94 M95 a w E ok h96=>wn<|qag (cl1 (cq le_m20 ok [3,4] rfl) (cq le_m20 ok [3,4] rfl)) fun hT=>kt 9 E rfl hT (qaG (ps:=[(0,.tmp 21),(1,.tmp 23),(2,.tmp 25)]) (qs:=[(0,[vi x34]),(1,[c91]),(2,[c94])]) (cs:=[vi x34,c91,c94]) qa0 qci rfl ⟨rfl,rfl,rfl,⟨rfl,(qbg.cells h93),rfl,⟨rfl,(ORow.cells h96),rfl,trivial⟩⟩⟩ rfl) fun a E=>qar [11] (by kernel_rfl) rfl (qas ?_)
     ·refine wo rfl<|qaf E ok 2 rfl rfl rfl qbI rfl rfl ⟨rfl,(qbg.one h93),(ORow.one h96),trivial⟩ rfl rfl fun w ok=>wn<|qag (cl1 (cq le_m20 ok [3,4] rfl) (cq le_m20 ok [3,4] rfl)) fun hT=>qaM (by kernel_rfl) ?_
      exact ⟨rfl,⟨m90,b89,c91,M92,c94,M95,le_m20,(ok.pk 5 [2,0,1,3,4] rfl (by decide)),E.keep [1,2,3,5],r63,h93,h96⟩⟩
   refine wo rfl<|qbR (R:=pB) E ok qbD qd0 rfl qeo rfl e51 rfl rfl fun c97 M98 a w E ok h99=>wn<|qag (cl1 (cq le_m20 ok [2,3] rfl) (cq le_m20 ok [2,3] rfl)) fun hT=>qar [6] (by kernel_rfl) rfl (qas ?_)
   ·refine wo rfl<|qao E qh2 rfl (qcn N r18.2 r23 e45 ok) rfl rfl ?_
    rintro _ w ⟨m100,c101,M102,rfl,hle,ok,h103⟩
    have le_m0:=le_m0.trans hle
    have le_m20:=le_m20.trans hle
    have h3:=(mL (mL (mI .i64))).up hle h3
    have h5:=(mL mB).up hle h5
    have h15:=(mL (mL (mI .i64))).up hle h15
    have h17:=(mL mB).up hle h17
    have h22:=(mL (mI .i64)).up hle h22
    have at61:=At.up hle at61
    have h99:=ORow.up mB hle h99
    refine ⟨_,rfl,fun a E=>?_⟩
    refine wn<|qag (cl1 (cq le_m20 ok [3,4] rfl) (cq le_m20 ok [3,4] rfl)) fun hT=>kt 9 E rfl hT (qaG (ps:=[(0,.tmp 21),(1,.tmp 23),(2,.tmp 25)]) (qs:=[(0,[vi x34]),(1,[c101]),(2,[c97])]) (cs:=[vi x34,c101,c97]) qa0 qci rfl ⟨rfl,rfl,rfl,⟨rfl,(qbg.cells h103),rfl,⟨rfl,(ORow.cells h99),rfl,trivial⟩⟩⟩ rfl) fun a E=>qar [11] (by kernel_rfl) rfl (qas ?_)
    ·refine wo rfl<|qaf E ok 2 rfl rfl rfl qbI rfl rfl ⟨rfl,(qbg.one h103),(ORow.one h99),trivial⟩ rfl rfl fun w ok=>wn<|qag (cl1 (cq le_m20 ok [3,4] rfl) (cq le_m20 ok [3,4] rfl)) fun hT=>qaM (by kernel_rfl) ?_
     exact ⟨rfl,⟨m100,b89,c101,M102,c97,M98,le_m20,(ok.pk 5 [2,1,0,3,4] rfl (by decide)),E.keep [1,2,3,5],r63,h103,h99⟩⟩
 intro e a w hO
 obtain ⟨rfl,m104,b112,c106,M107,c109,M110,hle,ok,E,r105,h108,h111⟩:=hO
 have le_m0:=le_m0.trans hle
 have h3:=(mL (mL (mI .i64))).up hle h3
 have h5:=(mL mB).up hle h5
 have h15:=(mL (mL (mI .i64))).up hle h15
 have h17:=(mL mB).up hle h17
 have h22:=(mL (mI .i64)).up hle h22
 refine qaa<|wp_seq<|sg<|fk E ok qdW qde rfl 4 rfl rfl fun a E=>lv E ok (qaz qcP h15 rfl) fun a E=>mv E rfl fun a E=>wn<|wp_block<|bd hF fun o122 hL hF=>qaH _ (fun (s:Int × DFA) a w=>∃ c125 M126 c128 M129,Ok u m104 ([(b112,oc 33 [vi s.2.Start,c125,c128])] :: M129 :: M126 :: [(b7,oc 33 [vi 0,(Value.slice none 0 0),(Value.slice none 0 0)])] :: [(b6,oc 33 [vi r8.Start,c14,c16])] :: S) w ∧ Env 72 a [(1,vp b6),(2,vp b7),(3,c21),(5,vp b112),(28,c14),(29,(vi (r8.Next.length:Int))),(30,vi s.1)] ∧ InR .i64 s.1 ∧ InR .i64 s.2.Start ∧ qbg m104 c125 s.2.Next M126 ∧ ORow 4 1 pB m104 c128 s.2.Accept M129) (fun (b:DFA) e a w=>e = (.exit 0) ∧ ∃ c378 M379 c381 M382,Ok u m104 ([(b112,oc 33 [vi b.Start,c378,c381])] :: M382 :: M379 :: [(b7,oc 33 [vi 0,(Value.slice none 0 0),(Value.slice none 0 0)])] :: [(b6,oc 33 [vi r8.Start,c14,c16])] :: S) w ∧ Env 72 a [(2,vp b7),(5,vp b112)] ∧ InR .i64 b.Start ∧ qbg m104 c378 b.Next M379 ∧ ORow 4 1 pB m104 c381 b.Accept M382) ?_ ?_ N _ a w hL ⟨c106,M107,c109,M110,ok,E.keep [1,2,3,5,28,29,30],(ir 0),r105,h108,h111⟩
 rotate_left
 ·intro e a w _ hO
  obtain ⟨rfl,c357,M358,c360,M361,ok,E,r356,h359,h362⟩:=hO
  refine qaN<|qaa<|sg<|lv E ok (qaj (cs:=[vi o122.Start,c357,c360]) qcr rfl rfl (qab.own 0 rfl rfl)) fun a E=>?_
  obtain ⟨m363,hle,ok,hfz⟩:=(ok.frs 2 rfl).freeze
  have h364:=qbg.froz h359 hle hfz
  have le_m0:=le_m0.trans hle
  have h3:=(mL (mL (mI .i64))).up hle h3
  have h5:=(mL mB).up hle h5
  have h15:=(mL (mL (mI .i64))).up hle h15
  have h17:=(mL mB).up hle h17
  have h22:=(mL (mI .i64)).up hle h22
  have h362:=ORow.up mB hle h362
  obtain ⟨m365,hle,ok,hfz⟩:=(ok.frs 1 rfl).freeze
  have h366:=ORow.froz mB h362 hle hfz (by decide)
  have le_m0:=le_m0.trans hle
  have h3:=(mL (mL (mI .i64))).up hle h3
  have h5:=(mL mB).up hle h5
  have h15:=(mL (mL (mI .i64))).up hle h15
  have h17:=(mL mB).up hle h17
  have h22:=(mL (mI .i64)).up hle h22
  have h364:=(mL (mL (mI .i64))).up hle h364
  refine bd hF fun r367 e368 hF=>qao E qsj rfl (qhp N _ o122 ⟨_,_,rfl,r356,h364,h366⟩ e368 ok) rfl rfl ?_
  rintro _ w ⟨m369,vs370,rfl,hle,ok,h371⟩
  have le_m0:=le_m0.trans hle
  have h3:=(mL (mL (mI .i64))).up hle h3
  have h5:=(mL mB).up hle h5
  have h15:=(mL (mL (mI .i64))).up hle h15
  have h17:=(mL mB).up hle h17
  have h22:=(mL (mI .i64)).up hle h22
  have h364:=(mL (mL (mI .i64))).up hle h364
  have h366:=(mL mB).up hle h366
  obtain ⟨c373,c375,rfl,r372,h374,h376⟩:=h371
  refine ⟨_,rfl,fun a E=>?_⟩
  refine qaf E ok 1 rfl rfl rfl qbI rfl rfl ⟨rfl,(qa9 h374),(qa9 h376),trivial⟩ rfl rfl fun w ok=>wn<|wp_ret ?_
  exact fin hF ⟨m369,[vi r367.Start,c373,c375],le_m0,ok.drop.drop.drop,E.d,⟨rv_c (cs:=[vi r367.Start,c373,c375]) E ok rfl qcr rfl (qab.own 1 rfl rfl),trivial⟩,⟨_,_,rfl,r372,h374,h376⟩⟩
 rintro ⟨v131,v132⟩ a w r ⟨c135,M136,c138,M139,ok,E,r133,r134,h137,h140⟩ hF
 replace hF:qdt N r8 r18 v131 v132 = some r:=hF
 unfold qdt at hF
 refine sg<|lw E (qaC rfl rfl) fun a E=>wn<|wp_seq<|cg E rfl hF (fun c141 hF=>?_) fun c141 hF=>?_
 ·refine wp_exit<|qaE ?_
  cases hF
  exact so (⟨rfl,⟨c135,M136,c138,M139,ok,E.keep [2,5],r134,h137,h140⟩⟩)
 refine wp_skip<|qaa<|wp_seq<|wp_block<|sg<|mv E rfl fun a E=>?_
 obtain ⟨x142,e143,hF⟩:=bnd hF
 obtain ⟨b144,o145,es146,hl147,rr148,at149,yy150⟩:=ia E 28 30 qcP h15 e143
 obtain ⟨c151,rfl,h152⟩:=qbG rr148
 refine lv E ok (yy150 _ _) fun a E=>lv E ok (qai qcs rfl (qab.ro at149)) fun a E=>av E rfl fun a E=>aw E rfl fun a E=>wp_seq<|bd hF fun o153 hJ hF=>qaO (Q':=fun e a w=>e = .normal ∧ ∃ c155 M156 c158 M159,Ok u m104 ([(b112,oc 33 [vi o153.Start,c155,c158])] :: M159 :: M156 :: [(b7,oc 33 [vi 0,(Value.slice none 0 0),(Value.slice none 0 0)])] :: [(b6,oc 33 [vi r8.Start,c14,c16])] :: S) w ∧ Env 72 a [(1,vp b6),(2,vp b7),(3,c21),(5,vp b112),(6,vi v131),(7,c151),(28,c14),(29,(vi (r8.Next.length:Int))),(30,vi v131)] ∧ InR .i64 o153.Start ∧ qbg m104 c155 o153.Next M156 ∧ ORow 4 1 pB m104 c158 o153.Accept M159) ?_ ?_
 ·have hF:=hJ
  obtain ⟨x161,e162,hF⟩:=bnd hF
  obtain ⟨x171,e172,hF⟩:=bnd hF
  obtain ⟨x180,e181,hF⟩:=bnd hF
  obtain ⟨l186,e187,hF⟩:=bnd hF
  obtain rfl:=sj hF
  refine qaX [1,5,7,10] (Cls u m104 ([(b112,oc 33 [vi v132.Start,c135,c138])] :: M136 :: [(b7,oc 33 [vi 0,(Value.slice none 0 0),(Value.slice none 0 0)])] :: [(b6,oc 33 [vi r8.Start,c14,c16])] :: [])) (Cls u m104 (M136 :: [(b7,oc 33 [vi 0,(Value.slice none 0 0),(Value.slice none 0 0)])] :: [(b6,oc 33 [vi r8.Start,c14,c16])] :: [])) (by kernel_rfl) ?_
  intro w hw
  replace ok:=qa3 ok hw
  clear hw
  have le_m104:=Mem.le.refl m104
  refine qag (cl1 (cq le_m104 ok [0,2,3,4] rfl) (cq le_m104 ok [2,3,4] rfl)) fun hT=>kt 0 E rfl hT (qae qfS rfl) fun a E=>qaU 1 E rfl (by kernel_rfl) nP hT (qai qdK rfl (qab.cown 0 rfl rfl)) rfl rfl fun a E=>kt 2 E rfl hT (qah rfl) fun a E=>kt 3 E rfl hT (qah rfl) fun a E=>?_
  obtain ⟨b190,o191,es192,hl193,rr194,at195,yy196⟩:=ia E 37 38 qaR h22 e162
  obtain ⟨rfl,r197⟩:=rr194
  refine kt 4 E rfl hT (yy196 _ _) fun a E=>qaU 5 E rfl (by kernel_rfl) nP hT (qai qam rfl (qab.cro at195)) rfl rfl fun a E=>kt 6 E rfl hT (qae qfS rfl) fun a E=>qaU 7 E rfl (by kernel_rfl) nP hT (qai qdK rfl (qab.cown 3 rfl rfl)) rfl rfl fun a E=>kt 8 E rfl hT (qah rfl) fun a E=>?_
  obtain ⟨b198,o199,es200,hl201,rr202,at203,yy204⟩:=ia E 42 43 qbD h17 e172
  obtain rfl:=rr202
  refine kt 9 E rfl hT (yy204 _ _) fun a E=>qaU 10 E rfl (by kernel_rfl) nP hT (qai qdk rfl (qab.cro at203)) rfl rfl fun a E=>?_
  obtain ⟨b205,o206,hp207,yy208⟩:=qbf qbD h140 e181 (P:=Tryd.prog) (X:=.tmp 36) (I:=.tmp 40) (kd:=.i64) (qay E rfl) (qay E rfl)
  refine kt 11 E rfl hT (yy208 _ _) fun a E=>qar [12] (by kernel_rfl) rfl (qas ?_)
  ·refine wo rfl<|qcv (R:=pB) E ok 1 rfl h140 e181 hp207 rfl rfl qmV rfl rfl rfl ⟨rfl,trivial⟩ qeo e187 rfl fun M209 w ok h210=>wn<|qag (cl2 (by kernel_rfl) (cq le_m104 ok [2,3,4] rfl)) fun hT=>qaM (by kernel_rfl) ?_
   exact ⟨rfl,⟨c135,M136,c138,M209,ok,E.keep [1,2,3,5,6,7,28,29,30],r134,h137,h210⟩⟩
 intro e a w hO
 obtain ⟨rfl,c212,M213,c215,M216,ok,E,r211,h214,h217⟩:=hO
 refine qaa<|sg<|mv E rfl fun a E=>lv E ok (qaz qaR h152 rfl) fun a E=>mv E rfl fun a E=>wn<|wp_block<|bd hF fun o227 hL hF=>qaH _ (fun (s:Int × DFA) a w=>∃ c230 M231 c233 M234,Ok u m104 ([(b112,oc 33 [vi s.2.Start,c230,c233])] :: M234 :: M231 :: [(b7,oc 33 [vi 0,(Value.slice none 0 0),(Value.slice none 0 0)])] :: [(b6,oc 33 [vi r8.Start,c14,c16])] :: S) w ∧ Env 72 a [(1,vp b6),(2,vp b7),(3,c21),(5,vp b112),(6,vi v131),(28,c14),(29,(vi (r8.Next.length:Int))),(30,vi v131),(47,c151),(48,(vi (x142.length:Int))),(49,vi s.1)] ∧ InR .i64 s.1 ∧ InR .i64 s.2.Start ∧ qbg m104 c230 s.2.Next M231 ∧ ORow 4 1 pB m104 c233 s.2.Accept M234) (fun (b:DFA) e a w=>e = (.exit 2) ∧ ∃ c350 M351 c353 M354,Ok u m104 ([(b112,oc 33 [vi b.Start,c350,c353])] :: M354 :: M351 :: [(b7,oc 33 [vi 0,(Value.slice none 0 0),(Value.slice none 0 0)])] :: [(b6,oc 33 [vi r8.Start,c14,c16])] :: S) w ∧ Env 72 a [(1,vp b6),(2,vp b7),(3,c21),(5,vp b112),(28,c14),(29,(vi (r8.Next.length:Int))),(30,vi v131)] ∧ InR .i64 b.Start ∧ qbg m104 c350 b.Next M351 ∧ ORow 4 1 pB m104 c353 b.Accept M354) ?_ ?_ N _ a w hL ⟨c212,M213,c215,M216,ok,E.keep [1,2,3,5,6,28,29,30,47,48,49],(ir 0),r211,h214,h217⟩
 rotate_left
 ·intro e a w _ hO
  obtain ⟨rfl,c343,M344,c346,M347,ok,E,r342,h345,h348⟩:=hO
  refine qaN<|qap<|qaa<|qac<|lw E (qaA rfl rfl (InR.inc r133 (qal h15) c141)) fun a E=>mv E rfl fun a E=>wpList_nil ?_
  cases hF
  exact qau ⟨c343,M344,c346,M347,ok,E.keep [1,2,3,5,28,29,30],(InR.inc r133 (qal h15) c141),r342,h345,h348⟩
 rintro ⟨v236,v237⟩ a w r ⟨c240,M241,c243,M244,ok,E,r238,r239,h242,h245⟩ hF
 replace hF:qdu N r18 v131 x142 v236 v237 = some r:=hF
 unfold qdu at hF
 refine sg<|lw E (qaC rfl rfl) fun a E=>wn<|wp_seq<|cg E rfl hF (fun c246 hF=>?_) fun c246 hF=>?_
 ·refine wp_exit<|qaE ?_
  cases hF
  exact so (⟨rfl,⟨c240,M241,c243,M244,ok,E.keep [1,2,3,5,28,29,30],r239,h242,h245⟩⟩)
 refine wp_skip<|qaa<|wp_seq<|wp_block<|sg<|mv E rfl fun a E=>?_
 obtain ⟨x247,e248,hF⟩:=bnd hF
 obtain ⟨b249,o250,es251,hl252,rr253,at254,yy255⟩:=ia E 47 49 qaR h152 e248
 obtain ⟨rfl,r256⟩:=rr253
 refine lv E ok (yy255 _ _) fun a E=>lv E ok (qai qam rfl (qab.ro at254)) fun a E=>av E rfl fun a E=>aw E rfl fun a E=>bd hF fun o257 hJ hF=>qaO (Q':=fun e a w=>e = .normal ∧ ∃ c259 M260 c262 M263,Ok u m104 ([(b112,oc 33 [vi o257.Start,c259,c262])] :: M263 :: M260 :: [(b7,oc 33 [vi 0,(Value.slice none 0 0),(Value.slice none 0 0)])] :: [(b6,oc 33 [vi r8.Start,c14,c16])] :: S) w ∧ Env 72 a [(1,vp b6),(2,vp b7),(3,c21),(5,vp b112),(6,vi v131),(28,c14),(29,(vi (r8.Next.length:Int))),(30,vi v131),(47,c151),(48,(vi (x142.length:Int))),(49,vi v236)] ∧ InR .i64 o257.Start ∧ qbg m104 c259 o257.Next M260 ∧ ORow 4 1 pB m104 c262 o257.Accept M263) ?_ ?_
 rotate_left
 ·intro e a w hO
  obtain ⟨rfl,c336,M337,c339,M340,ok,E,r335,h338,h341⟩:=hO
  refine qap<|qaa<|qac<|lw E (qaA rfl rfl (InR.inc r238 (qal h152) c246)) fun a E=>mv E rfl fun a E=>wpList_nil ?_
  cases hF
  exact qau ⟨c336,M337,c339,M340,ok,E.keep [1,2,3,5,6,28,29,30,47,48,49],(InR.inc r238 (qal h152) c246),r335,h338,h341⟩
 have hF:=hJ
 obtain ⟨x265,e266,hF⟩:=bnd hF
 obtain ⟨x275,e276,hF⟩:=bnd hF
 obtain ⟨x284,e285,hF⟩:=bnd hF
 obtain ⟨x294,e295,hF⟩:=bnd hF
 obtain ⟨l300,e301,hF⟩:=bnd hF
 obtain ⟨g302,e303,hF⟩:=bnd hF
 obtain rfl:=sj hF
 refine qaX [1,5,7,12] (Cls u m104 ([(b112,oc 33 [vi v237.Start,c240,c243])] :: M244 :: [(b7,oc 33 [vi 0,(Value.slice none 0 0),(Value.slice none 0 0)])] :: [(b6,oc 33 [vi r8.Start,c14,c16])] :: [])) (Cls u m104 (M244 :: [(b7,oc 33 [vi 0,(Value.slice none 0 0),(Value.slice none 0 0)])] :: [(b6,oc 33 [vi r8.Start,c14,c16])] :: [])) (by kernel_rfl) ?_
 intro w hw
 replace ok:=qa3 ok hw
 clear hw
 have le_m104:=Mem.le.refl m104
 refine qag (cl1 (cq le_m104 ok [0,1,3,4] rfl) (cq le_m104 ok [1,3,4] rfl)) fun hT=>kt 0 E rfl hT (qae qdW rfl) fun a E=>qaU 1 E rfl (by kernel_rfl) nP hT (qai qde rfl (qab.cown 0 rfl rfl)) rfl rfl fun a E=>kt 2 E rfl hT (qah rfl) fun a E=>kt 3 E rfl hT (qah rfl) fun a E=>?_
 obtain ⟨b306,o307,es308,hl309,rr310,at311,yy312⟩:=ia E 56 57 qaR h22 e266
 obtain ⟨rfl,r313⟩:=rr310
 refine kt 4 E rfl hT (yy312 _ _) fun a E=>qaU 5 E rfl (by kernel_rfl) nP hT (qai qam rfl (qab.cro at311)) rfl rfl fun a E=>?_
 obtain ⟨b314,o315,rv316,hr317,hl318,at319,yy320⟩:=qq6 qcP h242 e276 (P:=Tryd.prog) (X:=.tmp 55) (I:=.tmp 59) (kd:=.i64) (qay E rfl) (qay E rfl)
 refine kt 6 E rfl hT (yy320 _ _) fun a E=>qaU 7 E rfl (by kernel_rfl) nP hT (qai qcs rfl (qab.cro at319)) rfl rfl fun a E=>kt 8 E rfl hT (qah rfl) fun a E=>kt 9 E rfl hT (qah rfl) fun a E=>kt 10 E rfl hT (qah rfl) fun a E=>?_
 obtain ⟨b321,o322,es323,hl324,rr325,at326,yy327⟩:=ia E 63 64 qaR h22 e285
 obtain ⟨rfl,r328⟩:=rr325
 refine kt 11 E rfl hT (yy327 _ _) fun a E=>qaU 12 E rfl (by kernel_rfl) nP hT (qai qam rfl (qab.cro at326)) rfl rfl fun a E=>?_
 obtain ⟨b329,o330,hp331,yy332⟩:=qqp qaR hr317 hl318 e295 (P:=Tryd.prog) (X:=.tmp 61) (I:=.tmp 62) (kd:=.i64) (qay E rfl) (qay E rfl)
 refine kt 13 E rfl hT (yy332 _ _) fun a E=>qar [14] (by kernel_rfl) rfl (qas ?_)
 ·refine wo rfl<|qou E ok 2 rfl h242 e276 e295 hp331 rfl rfl r328 qbp e301 e303 rfl fun M333 w ok h334=>wn<|qag (cl2 (by kernel_rfl) (cq le_m104 ok [1,3,4] rfl)) fun hT=>qaM (by kernel_rfl) ?_
  exact ⟨rfl,⟨c240,M333,c243,M244,ok,E.keep [1,2,3,5,6,28,29,30,47,48,49],r239,h334,h245⟩⟩
end Go.Proofs.YtidfofhmnlhfjaaDoor
namespace Go.Proofs.YtidfofhmnlhfjaaDoor
open Go.X
variable {u:World} {m0:Mem} {S:Segs} {w:World}
set_option maxHeartbeats 4000000
set_option maxRecDepth 100000
def qi8 (u:World) (m0:Mem) (S:Segs) (r:DFA × Int) (a:Act) (w:World):Prop :=
 ∃ m1 v0,m0.le m1 ∧ Ok u m1 S w ∧ a.defers = [] ∧ RVs Tryd.prog a w [.c 6 33 (.agg v0.toArray),.t 7 (.int .i64 r.2)] ∧ pDFA m1 v0 r.1 ∧ InR .i64 r.2
theorem qjb (N:Nat) (va_0:List Value) (a_0:DFA) (ha_0:pDFA m0 va_0 a_0) (vb_1:List Value) (b_1:DFA) (hb_1:pDFA m0 vb_1 b_1) {r:DFA × Int} (hF:qeP N a_0 b_1 = some r) (ok:Ok u m0 S w) :
  Calls Tryd.prog 29 [.agg va_0.toArray,.agg vb_1.toArray,.func (.func 30) #[] #[]].toArray w fun e w'=>∃ m1 v0,e = .returned (.tuple [(.agg v0.toArray),(.int .i64 r.2)].toArray) ∧ m0.le m1 ∧ Ok u m1 S w' ∧ pDFA m1 v0 r.1 ∧ InR .i64 r.2:=by
 obtain ⟨c2,c4,rfl,r1,h3,h5⟩:=ha_0
 obtain ⟨c7,c9,rfl,r6,h8,h10⟩:=hb_1
 have le_m0:=Mem.le.refl m0
 unfold qeP at hF
 refine en (qi8 u m0 S) r Tryd.func29 rfl rfl rfl (by rintro a w ⟨m1,v0,hle,ok,hd,hrv,h0,h1⟩; exact qbC [.c 6 33 (.agg v0.toArray),.t 7 (.int .i64 r.2)] hd rfl hrv ⟨m1,v0,rfl,hle,ok,h0,h1⟩) fun fin a E=>sg<|qbQ E ok rfl rfl rfl fun b11 a w E ok=>qbQ E ok rfl rfl rfl fun b12 a w E ok=>qaw E ok qa0 rfl rfl fun b13 a w E ok=>av E rfl fun a E=>wn<|wp_seq<|sg<|lv E ok (qaj (cs:=[vi a_0.Start,c2,c4]) qcr rfl rfl (qab.own 2 rfl rfl)) fun a E=>bd hF fun r14 e15 hF=>lc E qsr rfl (qiv N _ a_0 ⟨_,_,rfl,r1,h3,h5⟩ e15 ok) fun w ok a E=>lw E (qbW rfl) fun a E=>mv E rfl fun a E=>bu E 22 hF (fun c16 hF E=>?_) fun c16 hF E=>?_
 ·refine lsq E fun a E=>ls E fun a E=>pt E rfl rfl fun a E=>wn<|c_if E rfl (fun _=>?_) (fun h=>by cases h)
  refine sg<|lw E (qaG (ps:=[]) (qs:=[]) (cs:=[vi 0,(Value.slice none 0 0),(Value.slice none 0 0)]) qa0 qci rfl trivial rfl) fun a E=>qaf E ok 0 rfl rfl rfl qbI rfl rfl ⟨rfl,rfl,rfl,trivial⟩ rfl rfl fun w ok=>aw E rfl fun a E=>wp_ret<|qav ?_
  exact fin hF ⟨m0,[vi 0,(Value.slice none 0 0),(Value.slice none 0 0)],le_m0,ok.drop.drop.drop,E.d,⟨rv_c (cs:=[vi 0,(Value.slice none 0 0),(Value.slice none 0 0)]) E ok rfl qcr rfl (qab.own 0 rfl rfl),rv_t E rfl,trivial⟩,⟨_,_,rfl,(ir 0),qff,qff⟩,(ir 1)⟩
 refine lv E ok (qaj (cs:=[vi b_1.Start,c7,c9]) qcr rfl rfl (qab.own 1 rfl rfl)) fun a E=>bd hF fun r17 e18 hF=>lc E qsr rfl (qiv N _ b_1 ⟨_,_,rfl,r6,h8,h10⟩ e18 ok) fun w ok a E=>lw E (qbW rfl) fun a E=>pf E rfl rfl fun a E=>wn<|cf E rfl hF (fun c19 hF=>?_) fun c19 hF=>?_
 ·refine sg<|lw E (qaG (ps:=[]) (qs:=[]) (cs:=[vi 0,(Value.slice none 0 0),(Value.slice none 0 0)]) qa0 qci rfl trivial rfl) fun a E=>qaf E ok 0 rfl rfl rfl qbI rfl rfl ⟨rfl,rfl,rfl,trivial⟩ rfl rfl fun w ok=>aw E rfl fun a E=>wp_ret<|qav ?_
  exact fin hF ⟨m0,[vi 0,(Value.slice none 0 0),(Value.slice none 0 0)],le_m0,ok.drop.drop.drop,E.d,⟨rv_c (cs:=[vi 0,(Value.slice none 0 0),(Value.slice none 0 0)]) E ok rfl qcr rfl (qab.own 0 rfl rfl),rv_t E rfl,trivial⟩,⟨_,_,rfl,(ir 0),qff,qff⟩,(ir 1)⟩
 refine wp_skip<|qaa<|sg<|qgF (aggK qdB) (oneV (pI .i64)) E ok rfl rfl fun c20 M21 a w E ok h22=>fk E ok qgP qam rfl 3 rfl rfl fun a E=>fv E qgP rfl fun a E=>ld E ok qam 2 rfl rfl rfl fun a E=>lv E ok (ql7 (ps:=[(0,.tmp 30),(1,.tmp 32)]) (qs:=[(0,[vi a_0.Start]),(1,[vi b_1.Start])]) (cs:=[vi a_0.Start,vi b_1.Start]) qhS qk5 rfl ⟨rfl,rfl,rfl,⟨rfl,rfl,rfl,trivial⟩⟩ rfl) fun a E=>bd hF fun l23 e24 hF=>qgA (.inr rfl) E ok 0 qm5 Tryd.underlying100 h22 rfl rfl rfl rfl ⟨m0,_,rfl,⟨rfl,r1,r6⟩⟩ (qaW (ir 0)) e24 rfl fun M25 w ok h26=>mv E rfl fun a E=>aw E rfl fun a E=>sg<|fv E qgP rfl fun a E=>ld E ok qam 3 rfl rfl rfl fun a E=>fk E ok qgP qam rfl 2 rfl rfl fun a E=>lv E ok (ql7 (ps:=[(0,.tmp 36),(1,.tmp 38)]) (qs:=[(0,[vi a_0.Start]),(1,[vi b_1.Start])]) (cs:=[vi a_0.Start,vi b_1.Start]) qhS qk5 rfl ⟨rfl,rfl,rfl,⟨rfl,rfl,rfl,trivial⟩⟩ rfl) fun a E=>qbH (R:=qdB) (xo:=[.tmp 39]) (xs:=([(Arr2_Int.mk a_0.Start b_1.Start)]:List (Arr2_Int))) E ok qi2 qhS rfl ⟨⟨_,rfl,rfl,⟨rfl,r1,r6⟩⟩,trivial⟩ rfl rfl rfl rfl fun c27 M28 a w E ok h29=>aw E rfl fun a E=>?_
 refine sg<|qaw E ok qa0 rfl rfl fun b30 a w E ok=>wn<|wp_seq<|sg<|aw E rfl fun a E=>wp_block ?_
 obtain ⟨M49,ok,h50⟩:=qd1 (e:=83) (k:=1) (R:=(pL 1 (pI .i64))) ok
 obtain ⟨M51,ok,h52⟩:=qd1 (e:=4) (k:=1) (R:=pB) ok
 refine bd hF fun o53 hL hF=>qaH _ (fun (s:(List (Arr2_Int)) × Int × DFA × (List (Arr2_Int × Int))) a w=>∃ m54 c55 M56 c60 M61 c63 M64 c66 M67,m0.le m54 ∧ Ok u m54 (M64 :: M61 :: [(b30,oc 33 [vi s.2.2.1.Start,c60,c63])] :: M56 :: M67 :: [(b13,oc 33 [vi 0,(Value.slice none 0 0),(Value.slice none 0 0)])] :: [(b12,oc 33 [vi b_1.Start,c7,c9])] :: [(b11,oc 33 [vi a_0.Start,c2,c4])] :: S) w ∧ Env 131 a [(2,(Value.func (.func 30) #[] #[])),(3,vp b11),(4,vp b12),(6,vp b13),(8,c66),(9,c55),(10,vp b30),(11,vi s.2.1)] ∧ ORow 99 2 qdB m54 c55 s.1 M56 ∧ InR .i64 s.2.1 ∧ InR .i64 s.2.2.1.Start ∧ ORow 83 1 (pL 1 (pI .i64)) m54 c60 s.2.2.1.Next M61 ∧ ORow 4 1 pB m54 c63 s.2.2.1.Accept M64 ∧ OMap (aggK qdB) (oneV (pI .i64)) m54 c66 s.2.2.2 M67) (fun (b:DFA) e a w=>e = (.exit 0) ∧ ∃ m400 c402 M403 c405 M406,m0.le m400 ∧ Ok u m400 (M406 :: M403 :: [(b30,oc 33 [vi b.Start,c402,c405])] :: [(b13,oc 33 [vi 0,(Value.slice none 0 0),(Value.slice none 0 0)])] :: [(b12,oc 33 [vi b_1.Start,c7,c9])] :: [(b11,oc 33 [vi a_0.Start,c2,c4])] :: S) w ∧ Env 131 a [(6,vp b13),(10,vp b30)] ∧ InR .i64 b.Start ∧ ORow 83 1 (pL 1 (pI .i64)) m400 c402 b.Next M403 ∧ ORow 4 1 pB m400 c405 b.Accept M406) ?_ ?_ N _ a w hL ⟨m0,c27,M28,(Value.slice none 0 0),M49,(Value.slice none 0 0),M51,c20,M25,Mem.le.refl _,ok,E.keep [2,3,4,6,8,9,10,11],h29,(ir 0),(ir 0),h50,h52,h26⟩
 rotate_left
 ·intro e a w _ hO
  obtain ⟨rfl,m377,c379,M380,c382,M383,hle,ok,E,r378,h381,h384⟩:=hO
  have le_m0:=le_m0.trans hle
  have h3:=(mL (mL (mI .i64))).up hle h3
  have h5:=(mL mB).up hle h5
  have h8:=(mL (mL (mI .i64))).up hle h8
  have h10:=(mL mB).up hle h10
  refine qaN<|qaa<|sg<|lv E ok (qaj (cs:=[vi o53.Start,c379,c382]) qcr rfl rfl (qab.own 2 rfl rfl)) fun a E=>?_
  obtain ⟨m385,hle,ok,hfz⟩:=(ok.frs 1 rfl).freeze
  have h386:=ORow.froz (mL (mI .i64)) h381 hle hfz (by decide)
  have le_m0:=le_m0.trans hle
  have h3:=(mL (mL (mI .i64))).up hle h3
  have h5:=(mL mB).up hle h5
  have h8:=(mL (mL (mI .i64))).up hle h8
  have h10:=(mL mB).up hle h10
  have h384:=ORow.up mB hle h384
  obtain ⟨m387,hle,ok,hfz⟩:=(ok.frs 0 rfl).freeze
  have h388:=ORow.froz mB h384 hle hfz (by decide)
  have le_m0:=le_m0.trans hle
  have h3:=(mL (mL (mI .i64))).up hle h3
  have h5:=(mL mB).up hle h5
  have h8:=(mL (mL (mI .i64))).up hle h8
  have h10:=(mL mB).up hle h10
  have h386:=(mL (mL (mI .i64))).up hle h386
  refine bd hF fun r389 e390 hF=>qao E qt3 rfl (qkS N _ o53 ⟨_,_,rfl,r378,h386,h388⟩ e390 ok) rfl rfl ?_
  rintro _ w ⟨m391,vs392,rfl,hle,ok,h393⟩
  have le_m0:=le_m0.trans hle
  have h3:=(mL (mL (mI .i64))).up hle h3
  have h5:=(mL mB).up hle h5
  have h8:=(mL (mL (mI .i64))).up hle h8
  have h10:=(mL mB).up hle h10
  have h386:=(mL (mL (mI .i64))).up hle h386
  have h388:=(mL mB).up hle h388
  obtain ⟨c395,c397,rfl,r394,h396,h398⟩:=h393
  refine ⟨_,rfl,fun a E=>?_⟩
  refine qaf E ok 0 rfl rfl rfl qbI rfl rfl ⟨rfl,(qa9 h396),(qa9 h398),trivial⟩ rfl rfl fun w ok=>wn<|wp_seq<|sg<|fk E ok qdW qde rfl 0 rfl rfl fun a E=>lv E ok (qaz qcP h396 rfl) fun a E=>lw E (qcK rfl rfl) fun a E=>wn<|cf E rfl hF (fun c399 hF=>?_) fun c399 hF=>?_
  ·refine sg<|lw E (qaG (ps:=[]) (qs:=[]) (cs:=[vi 0,(Value.slice none 0 0),(Value.slice none 0 0)]) qa0 qci rfl trivial rfl) fun a E=>qaf E ok 1 rfl rfl rfl qbI rfl rfl ⟨rfl,rfl,rfl,trivial⟩ rfl rfl fun w ok=>aw E rfl fun a E=>wp_ret<|qav ?_
   exact fin hF ⟨m391,[vi 0,(Value.slice none 0 0),(Value.slice none 0 0)],le_m0,ok.drop.drop.drop.drop,E.d,⟨rv_c (cs:=[vi 0,(Value.slice none 0 0),(Value.slice none 0 0)]) E ok rfl qcr rfl (qab.own 1 rfl rfl),rv_t E rfl,trivial⟩,⟨_,_,rfl,(ir 0),qff,qff⟩,(ir 6)⟩
  refine wp_skip<|qaa<|sg<|lv E ok (qaj (cs:=[vi r389.Start,c395,c397]) qcr rfl rfl (qab.own 0 rfl rfl)) fun a E=>qaf E ok 1 rfl rfl rfl qbI rfl rfl ⟨rfl,(qa9 h396),(qa9 h398),trivial⟩ rfl rfl fun w ok=>av E rfl fun a E=>wn<|wp_ret ?_
  exact fin hF ⟨m391,[vi r389.Start,c395,c397],le_m0,ok.drop.drop.drop.drop,E.d,⟨rv_c (cs:=[vi r389.Start,c395,c397]) E ok rfl qcr rfl (qab.own 1 rfl rfl),rv_t E rfl,trivial⟩,⟨_,_,rfl,r394,h396,h398⟩,(ir 0)⟩
 rintro ⟨v69,v70,v71,v72⟩ a w r ⟨m73,c74,M75,c79,M80,c82,M83,c85,M86,hle,ok,E,h76,r77,r78,h81,h84,h87⟩ hF
 replace hF:qda N a_0 b_1 v69 v70 v71 v72 = some r:=hF
 unfold qda at hF
 have le_m0:=le_m0.trans hle
 have h3:=(mL (mL (mI .i64))).up hle h3
 have h5:=(mL mB).up hle h5
 have h8:=(mL (mL (mI .i64))).up hle h8
 have h10:=(mL mB).up hle h10
 refine wp_seq<|sg<|mz E rfl rfl fun a E=>lv E ok (qcz qi2 h76 rfl) fun a E=>lw E (qaC rfl rfl) fun a E=>wn<|cg E rfl hF (fun c88 hF=>?_) fun c88 hF=>?_
 ·refine wp_exit<|qaE ?_
  cases hF
  exact so (⟨rfl,⟨m73,c79,M80,c82,M83,le_m0,(ok.pk 8 [0,1,2,5,6,7] rfl (by decide)),E.keep [6,10],r78,h81,h84⟩⟩)
 refine wp_skip<|qaa<|wp_seq<|wp_block<|wp_seq<|qee (by kernel_rfl) (by kernel_rfl) ok<|qv E (qah rfl) fun a E=>qv E (qah rfl) fun a E=>?_
 obtain ⟨x89,e90,hF⟩:=bnd hF
 obtain ⟨b91,o92,hp93,yy94⟩:=qbf qi2 h76 e90 (P:=Tryd.prog) (X:=.tmp 47) (I:=.tmp 48) (kd:=.i64) (qay E rfl) (qay E rfl)
 refine qv E (yy94 _ _) fun a E=>qv E (qdZ qk5 rfl rfl (by decide) (by decide)) fun a E=>?_
 obtain ⟨es95,hl96,rr97,hh98⟩:=qbT h76 e90 hp93 (by decide)
 obtain ⟨rfl,r99,r100⟩:=rr97
 refine qv E (qai qam rfl (qab.sub 0 1 (hh98 _ _ _ 3 rfl))) fun a E=>qv E (qah rfl) fun a E=>qv E (qah rfl) fun a E=>?_
 obtain ⟨x101,e102,hF⟩:=bnd hF
 obtain ⟨b103,o104,hp105,yy106⟩:=qbf qi2 h76 e102 (P:=Tryd.prog) (X:=.tmp 52) (I:=.tmp 53) (kd:=.i64) (qay E rfl) (qay E rfl)
 refine qv E (yy106 _ _) fun a E=>qv E (qdZ qk5 rfl rfl (by decide) (by decide)) fun a E=>?_
 obtain ⟨es107,hl108,rr109,hh110⟩:=qbT h76 e102 hp105 (by decide)
 obtain ⟨rfl,r111,r112⟩:=rr109
 refine qv E (qai qam rfl (qab.sub 1 1 (hh110 _ _ _ 3 rfl))) fun a E=>qv E (qbY rfl) fun a E=>qv E (qbY rfl) fun a E=>wpQuiet_nil ?_
 intro w ok
 refine qaa<|sg<|bd hF fun l113 e114 hF=>qbR (R:=(pI .i64)) E ok qaR qdI rfl (qaW (ir 0)) rfl e114 rfl rfl fun c115 M116 a w E ok h117=>aw E rfl fun a E=>wp_seq<|sg<|mv E rfl fun a E=>wn<|wp_block<|bd hF fun o132 hL hF=>qaH _ (fun (s:(List (Arr2_Int)) × Int × (List (Arr2_Int × Int)) × (List (Int))) a w=>∃ c133 M134 c137 M138 c140 M141,Ok u m73 (M141 :: M83 :: M80 :: [(b30,oc 33 [vi v71.Start,c79,c82])] :: M134 :: M138 :: [(b13,oc 33 [vi 0,(Value.slice none 0 0),(Value.slice none 0 0)])] :: [(b12,oc 33 [vi b_1.Start,c7,c9])] :: [(b11,oc 33 [vi a_0.Start,c2,c4])] :: S) w ∧ Env 131 a [(2,(Value.func (.func 30) #[] #[])),(3,vp b11),(4,vp b12),(6,vp b13),(8,c137),(9,c133),(10,vp b30),(11,vi v70),(12,vi x89.e0),(13,vi x101.e1),(14,c140),(58,vi s.2.1)] ∧ ORow 99 2 qdB m73 c133 s.1 M134 ∧ InR .i64 s.2.1 ∧ OMap (aggK qdB) (oneV (pI .i64)) m73 c137 s.2.2.1 M138 ∧ ORow 3 1 (pI .i64) m73 c140 s.2.2.2 M141) (fun (b:((List (Arr2_Int × Int)) × (List (Arr2_Int)) × (List (Int)))) e a w=>e = (.exit 2) ∧ ∃ c368 M369 c371 M372 c374 M375,Ok u m73 (M375 :: M83 :: M80 :: [(b30,oc 33 [vi v71.Start,c79,c82])] :: M372 :: M369 :: [(b13,oc 33 [vi 0,(Value.slice none 0 0),(Value.slice none 0 0)])] :: [(b12,oc 33 [vi b_1.Start,c7,c9])] :: [(b11,oc 33 [vi a_0.Start,c2,c4])] :: S) w ∧ Env 131 a [(2,(Value.func (.func 30) #[] #[])),(3,vp b11),(4,vp b12),(6,vp b13),(8,c368),(9,c371),(10,vp b30),(11,vi v70),(12,vi x89.e0),(13,vi x101.e1),(14,c374)] ∧ OMap (aggK qdB) (oneV (pI .i64)) m73 c368 b.1 M369 ∧ ORow 99 2 qdB m73 c371 b.2.1 M372 ∧ ORow 3 1 (pI .i64) m73 c374 b.2.2 M375) ?_ ?_ N _ a w hL ⟨c74,M75,c85,M86,c115,M116,ok,E.keep [2,3,4,6,8,9,10,11,12,13,14,58],h76,(ir 0),h87,h117⟩
 rotate_left
 ·as_aux_lemma =>
   intro e a w _ hO
   obtain ⟨rfl,c286,M287,c289,M290,c292,M293,ok,E,h288,h291,h294⟩:=hO
   refine qaN<|qaa<|sg<|fk E ok qdW qde rfl 3 rfl rfl fun a E=>mv E rfl fun a E=>?_
   obtain ⟨m295,hle,ok,hfz⟩:=(ok.frs 0 rfl).freeze
   have h296:=ORow.froz (mI .i64) h294 hle hfz (by decide)
   have le_m0:=le_m0.trans hle
   have h3:=(mL (mL (mI .i64))).up hle h3
   have h5:=(mL mB).up hle h5
   have h8:=(mL (mL (mI .i64))).up hle h8
   have h10:=(mL mB).up hle h10
   have h81:=ORow.up (mL (mI .i64)) hle h81
   have h84:=ORow.up mB hle h84
   have h288:=OMap.up (qfW (mI .i64)) hle h288
   have h291:=ORow.up qnC hle h291
   refine qbH (R:=(pL 1 (pI .i64))) (xo:=[.tmp 102]) (xs:=([o132.2.2]:List (List (Int)))) E ok qcP qgO rfl ⟨⟨_,(qcj h296),rfl,h296⟩,trivial⟩ rfl rfl rfl rfl fun c297 M298 a w E ok h299=>bd hF fun l300 e301 hF=>qdn (R:=(pL 1 (pI .i64))) E ok 2 (mL (mI .i64)) qcP Tryd.underlying30 rfl h81 (qbP.ofRow h299 0 rfl ok) e301 ⟨_,qgO,rfl⟩ rfl rfl rfl rfl fun c302 M303 a w E ok h304=>fv E qdW rfl fun a E=>qaf E ok 3 rfl rfl rfl qqt (ORow.cells h304) rfl ⟨(ORow.one h304),trivial⟩ rfl rfl fun w ok=>wn<|bd hF fun o305 hJ hF=>qaO (Q':=fun e a w=>e = .normal ∧ ∃ c307 M308 c310 M311,Ok u m295 (M298 :: M311 :: M308 :: [(b30,oc 33 [vi o305.Start,c307,c310])] :: M290 :: M287 :: [(b13,oc 33 [vi 0,(Value.slice none 0 0),(Value.slice none 0 0)])] :: [(b12,oc 33 [vi b_1.Start,c7,c9])] :: [(b11,oc 33 [vi a_0.Start,c2,c4])] :: S) w ∧ Env 131 a [(2,(Value.func (.func 30) #[] #[])),(3,vp b11),(4,vp b12),(6,vp b13),(8,c286),(9,c289),(10,vp b30),(11,vi v70)] ∧ InR .i64 o305.Start ∧ ORow 83 1 (pL 1 (pI .i64)) m295 c307 o305.Next M308 ∧ ORow 4 1 pB m295 c310 o305.Accept M311) ?_ ?_
   rotate_left
   ·intro e a w hO
    obtain ⟨rfl,c362,M363,c365,M366,ok,E,r361,h364,h367⟩:=hO
    refine qap<|qaa<|qac<|mv E rfl fun a E=>lw E (qaA rfl rfl (InR.inc r77 (ORow.InR h76) c88)) fun a E=>av E rfl fun a E=>wpList_nil ?_
    cases hF
    exact qau ⟨m295,c289,M290,c362,M363,c365,M366,c286,M287,le_m0,(ok.pk 9 [1,2,3,4,5,6,7,8] rfl (by decide)),E.keep [2,3,4,6,8,9,10,11],h291,(InR.inc r77 (ORow.InR h76) c88),r361,h364,h367,h288⟩
   have hF:=hJ
   obtain ⟨x313,e314,hF⟩:=bnd hF
   obtain ⟨x322,e323,hF⟩:=bnd hF
   obtain ⟨r331,e332,hF⟩:=bnd hF
   obtain ⟨l336,e337,hF⟩:=bnd hF
   obtain rfl:=sj hF
   refine qaX [1,4,7,9,12] (Cls u m295 (M298 :: M303 :: [(b30,oc 33 [vi v71.Start,c302,c82])] :: M290 :: M287 :: [(b13,oc 33 [vi 0,(Value.slice none 0 0),(Value.slice none 0 0)])] :: [(b12,oc 33 [vi b_1.Start,c7,c9])] :: [(b11,oc 33 [vi a_0.Start,c2,c4])] :: [])) (Cls u m295 (M298 :: M303 :: M290 :: M287 :: [(b13,oc 33 [vi 0,(Value.slice none 0 0),(Value.slice none 0 0)])] :: [(b12,oc 33 [vi b_1.Start,c7,c9])] :: [(b11,oc 33 [vi a_0.Start,c2,c4])] :: [])) (by kernel_rfl) ?_
   intro w hw
   replace ok:=qa3 ok hw
   clear hw
   have le_m295:=Mem.le.refl m295
   refine qag (cl1 (cq le_m295 ok [0,2,3,4,5,6,7,8] rfl) (cq le_m295 ok [0,2,4,5,6,7,8] rfl)) fun hT=>kt 0 E rfl hT (qae qfS rfl) fun a E=>qaU 1 E rfl (by kernel_rfl) nP hT (qai qdK rfl (qab.cown 2 rfl rfl)) rfl rfl fun a E=>kt 2 E rfl hT (qah rfl) fun a E=>kt 3 E rfl hT (qae qfS rfl) fun a E=>qaU 4 E rfl (by kernel_rfl) nP hT (qai qdK rfl (qab.cown 7 rfl rfl)) rfl rfl fun a E=>kt 5 E rfl hT (qah rfl) fun a E=>?_
   obtain ⟨b341,o342,es343,hl344,rr345,at346,yy347⟩:=ia E 110 111 qbD h5 e314
   obtain rfl:=rr345
   refine kt 6 E rfl hT (yy347 _ _) fun a E=>qaU 7 E rfl (by kernel_rfl) nP hT (qai qdk rfl (qab.cro at346)) rfl rfl fun a E=>kt 8 E rfl hT (qae qfS rfl) fun a E=>qaU 9 E rfl (by kernel_rfl) nP hT (qai qdK rfl (qab.cown 6 rfl rfl)) rfl rfl fun a E=>kt 10 E rfl hT (qah rfl) fun a E=>?_
   obtain ⟨b348,o349,es350,hl351,rr352,at353,yy354⟩:=ia E 115 116 qbD h10 e323
   obtain rfl:=rr352
   refine kt 11 E rfl hT (yy354 _ _) fun a E=>qaU 12 E rfl (by kernel_rfl) nP hT (qai qdk rfl (qab.cro at353)) rfl rfl fun a E=>qar [13] (by kernel_rfl) rfl (qas ?_)
   ·refine wo rfl<|qiE E rfl qtZ rfl (qlS N x313 x322 e332 ok) rfl rfl ?_
    rintro _ w ⟨rfl,ok⟩
    refine ⟨_,rfl,fun a E=>?_⟩
    refine wn<|qag (cl1 (cq le_m295 ok [0,2,3,4,5,6,7,8] rfl) (cq le_m295 ok [0,2,4,5,6,7,8] rfl)) fun hT=>qar [14] (by kernel_rfl) rfl (qas ?_)
    ·refine wo rfl<|qbH (R:=pB) (xo:=[.tmp 119]) (xs:=([r331]:List (Bool))) E ok qbD qd0 rfl ⟨⟨_,rfl,rfl,qeo⟩,trivial⟩ rfl rfl rfl rfl fun c355 M356 a w E ok h357=>wn<|qag (cl1 (cq le_m295 ok [1,3,4,5,6,7,8,9] rfl) (cq le_m295 ok [1,3,5,6,7,8,9] rfl)) fun hT=>qar [15] (by kernel_rfl) rfl (qas ?_)
     ·refine wo rfl<|qdn (R:=pB) E ok 2 mB qbD Tryd.underlying31 rfl h84 (qbP.ofRow h357 0 rfl ok) e337 ⟨_,qd0,rfl⟩ rfl rfl rfl rfl fun c358 M359 a w E ok h360=>wn<|qag (cl1 (cq le_m295 ok [1,3,4,5,6,7,8,9] rfl) (cq le_m295 ok [1,3,5,6,7,8,9] rfl)) fun hT=>kt 16 E rfl hT (qae qfS rfl) fun a E=>qar [17] (by kernel_rfl) rfl (qas ?_)
      ·refine wo rfl<|qaf E ok 4 rfl rfl rfl qmq (ORow.cells h360) rfl ⟨(ORow.one h360),trivial⟩ rfl rfl fun w ok=>wn<|qag (cl2 (by kernel_rfl) (cq le_m295 ok [1,3,5,6,7,8,9] rfl)) fun hT=>qaM (by kernel_rfl) ?_
       exact ⟨rfl,⟨c302,M303,c358,M359,(ok.pk 10 [1,2,3,4,5,6,7,8,9] rfl (by decide)),E.keep [2,3,4,6,8,9,10,11],r78,h304,h360⟩⟩
 rintro ⟨v143,v144,v145,v146⟩ a w r ⟨c147,M148,c151,M152,c154,M155,ok,E,h149,r150,h153,h156⟩ hF
 replace hF:qbu N a_0 b_1 x89 x101 v143 v144 v145 v146 = some r:=hF
 unfold qbu at hF
 refine sg<|lw E (qaC rfl rfl) fun a E=>wn<|wp_seq<|cg E rfl hF (fun c157 hF=>?_) fun c157 hF=>?_
 ·refine wp_exit<|qaE ?_
  cases hF
  exact so (⟨rfl,⟨c151,M152,c147,M148,c154,M155,ok,E.keep [2,3,4,6,8,9,10,11,12,13,14],h153,h149,h156⟩⟩)
 refine wp_skip<|qaa<|wp_seq<|wp_block<|sg<|mv E rfl fun a E=>av E rfl fun a E=>wn<|wp_seq<|bd hF fun o158 hJ hF=>qaO (Q':=fun e a w=>e = .normal ∧ ∃ b161,Ok u m73 ([(b161,oc 99 [vi o158.e0,vi o158.e1])] :: M155 :: M83 :: M80 :: [(b30,oc 33 [vi v71.Start,c79,c82])] :: M148 :: M152 :: [(b13,oc 33 [vi 0,(Value.slice none 0 0),(Value.slice none 0 0)])] :: [(b12,oc 33 [vi b_1.Start,c7,c9])] :: [(b11,oc 33 [vi a_0.Start,c2,c4])] :: S) w ∧ Env 131 a [(2,(Value.func (.func 30) #[] #[])),(3,vp b11),(4,vp b12),(6,vp b13),(8,c151),(9,c147),(10,vp b30),(11,vi v70),(12,vi x89.e0),(13,vi x101.e1),(14,c154),(15,vi v144),(16,vp b161),(58,vi v144)] ∧ InR .i64 o158.e0 ∧ InR .i64 o158.e1) ?_ ?_
 ·have hF:=hJ
  obtain ⟨x162,e163,hF⟩:=bnd hF
  obtain ⟨x173,e174,hF⟩:=bnd hF
  obtain ⟨x183,e184,hF⟩:=bnd hF
  obtain ⟨x194,e195,hF⟩:=bnd hF
  obtain rfl:=sj hF
  refine qaX [] (Cls u m73 (M155 :: M83 :: M80 :: [(b30,oc 33 [vi v71.Start,c79,c82])] :: M148 :: M152 :: [(b13,oc 33 [vi 0,(Value.slice none 0 0),(Value.slice none 0 0)])] :: [(b12,oc 33 [vi b_1.Start,c7,c9])] :: [(b11,oc 33 [vi a_0.Start,c2,c4])] :: [])) (Cls u m73 (M155 :: M83 :: M80 :: [(b30,oc 33 [vi v71.Start,c79,c82])] :: M148 :: M152 :: [(b13,oc 33 [vi 0,(Value.slice none 0 0),(Value.slice none 0 0)])] :: [(b12,oc 33 [vi b_1.Start,c7,c9])] :: [(b11,oc 33 [vi a_0.Start,c2,c4])] :: [])) (by kernel_rfl) ?_
  intro w hw
  replace ok:=qa3 ok hw
  clear hw
  have le_m73:=Mem.le.refl m73
  refine qag (cl1 (cq le_m73 ok [0,1,2,3,4,5,6,7,8] rfl) (cq le_m73 ok [0,1,2,3,4,5,6,7,8] rfl)) fun hT=>kt 0 E rfl hT (qae qdW rfl) fun a E=>kt 1 E rfl hT (qai qde rfl (qab.cown 8 rfl rfl)) fun a E=>kt 2 E rfl hT (qah rfl) fun a E=>?_
  obtain ⟨b205,o206,es207,hl208,rr209,at210,yy211⟩:=ia E 62 63 qcP h3 e163
  obtain ⟨c212,rfl,h213⟩:=qbG rr209
  refine kt 3 E rfl hT (yy211 _ _) fun a E=>kt 4 E rfl hT (qai qcs rfl (qab.cro at210)) fun a E=>kt 5 E rfl hT (qah rfl) fun a E=>?_
  obtain ⟨b214,o215,es216,hl217,rr218,at219,yy220⟩:=ia E 65 66 qaR h213 e174
  obtain ⟨rfl,r221⟩:=rr218
  refine kt 6 E rfl hT (yy220 _ _) fun a E=>kt 7 E rfl hT (qai qam rfl (qab.cro at219)) fun a E=>kt 8 E rfl hT (qae qdW rfl) fun a E=>kt 9 E rfl hT (qai qde rfl (qab.cown 7 rfl rfl)) fun a E=>kt 10 E rfl hT (qah rfl) fun a E=>?_
  obtain ⟨b222,o223,es224,hl225,rr226,at227,yy228⟩:=ia E 70 71 qcP h8 e184
  obtain ⟨c229,rfl,h230⟩:=qbG rr226
  refine kt 11 E rfl hT (yy228 _ _) fun a E=>kt 12 E rfl hT (qai qcs rfl (qab.cro at227)) fun a E=>kt 13 E rfl hT (qah rfl) fun a E=>?_
  obtain ⟨b231,o232,es233,hl234,rr235,at236,yy237⟩:=ia E 73 74 qaR h230 e195
  obtain ⟨rfl,r238⟩:=rr235
  refine kt 14 E rfl hT (yy237 _ _) fun a E=>kt 15 E rfl hT (qai qam rfl (qab.cro at236)) fun a E=>kt 16 E rfl hT (ql7 (ps:=[(0,.tmp 68),(1,.tmp 76)]) (qs:=[(0,[vi x173]),(1,[vi x194])]) (cs:=[vi x173,vi x194]) qhS qk5 rfl ⟨rfl,rfl,rfl,⟨rfl,rfl,rfl,trivial⟩⟩ rfl) fun a E=>qar [17] (by kernel_rfl) rfl (qas ?_)
  ·refine wo rfl<|qaw E ok qhS rfl rfl fun b239 a w E ok=>wn<|qag (cl1 (cq le_m73 ok [1,2,3,4,5,6,7,8,9] rfl) (cq le_m73 ok [1,2,3,4,5,6,7,8,9] rfl)) fun hT=>qar [18] (by kernel_rfl) rfl (qas ?_)
   ·refine wo rfl<|qaf E ok 0 rfl rfl rfl qtG rfl rfl ⟨rfl,rfl,trivial⟩ rfl rfl fun w ok=>wn<|qag (cl1 (cq le_m73 ok [1,2,3,4,5,6,7,8,9] rfl) (cq le_m73 ok [1,2,3,4,5,6,7,8,9] rfl)) fun hT=>qaM (by kernel_rfl) ?_
    exact ⟨rfl,⟨b239,ok,E.keep [2,3,4,6,8,9,10,11,12,13,14,15,16,58],r221,r238⟩⟩
 intro e a w hO
 obtain ⟨rfl,b242,ok,E,r240,r241⟩:=hO
 refine qaa<|sg<|mv E rfl fun a E=>lv E ok (qaj (cs:=[vi o158.e0,vi o158.e1]) qo1 rfl rfl (qab.own 0 rfl rfl)) fun a E=>?_
 obtain ⟨xv243,h244,yy245,yy246⟩:=qkm (P:=Tryd.prog) (mo:=.tmp 79) (ko:=.tmp 80) (zx:=(0:Int)) ok 6 qm5 Tryd.underlying100 h153 rfl (qay E rfl) (qay E rfl) ⟨m0,_,rfl,⟨rfl,r240,r241⟩⟩ qiJ (qaW (ir 0))
 obtain ⟨rfl,r247⟩:=qha h244
 refine lv E ok (yy246 _) fun a E=>mv E rfl fun a E=>lw E (qaF rfl rfl) fun a E=>lw E (qaF rfl rfl) fun a E=>av E rfl fun a E=>aw E rfl fun a E=>wp_seq<|sg<|mv E rfl fun a E=>lw E (qbW rfl) fun a E=>wn<|bd hF fun o248 hJ hF=>qaO (Q':=fun e a w=>e = .normal ∧ ∃ c249 M250 c252 M253,Ok u m73 ([(b242,oc 99 [vi o158.e0,vi o158.e1])] :: M155 :: M83 :: M80 :: [(b30,oc 33 [vi v71.Start,c79,c82])] :: M253 :: M250 :: [(b13,oc 33 [vi 0,(Value.slice none 0 0),(Value.slice none 0 0)])] :: [(b12,oc 33 [vi b_1.Start,c7,c9])] :: [(b11,oc 33 [vi a_0.Start,c2,c4])] :: S) w ∧ Env 131 a [(2,(Value.func (.func 30) #[] #[])),(3,vp b11),(4,vp b12),(6,vp b13),(8,c249),(9,c252),(10,vp b30),(11,vi v70),(12,vi x89.e0),(13,vi x101.e1),(14,c154),(15,vi v144),(17,vi o248.2.2),(58,vi v144)] ∧ OMap (aggK qdB) (oneV (pI .i64)) m73 c249 o248.1 M250 ∧ ORow 99 2 qdB m73 c252 o248.2.1 M253 ∧ InR .i64 o248.2.2) ?_ ?_
 rotate_left
 ·intro e a w hO
  obtain ⟨rfl,c269,M270,c272,M273,ok,E,h271,h274,r275⟩:=hO
  refine qaa<|qac<|mz E rfl rfl fun a E=>mv E rfl fun a E=>?_
  obtain ⟨x276,e277,hF⟩:=bnd hF
  obtain ⟨b278,o279,hp280,yy281⟩:=qbf qaR h156 e277 (P:=Tryd.prog) (X:=.tmp 95) (I:=.tmp 96) (kd:=.i64) (qay E rfl) (qay E rfl)
  refine lv E ok (yy281 _ _) fun a E=>bd hF fun l282 e283 hF=>qcv (R:=(pI .i64)) E ok 1 rfl h156 e277 hp280 rfl rfl qbp rfl rfl rfl ⟨rfl,trivial⟩ (qaW r275) e283 rfl fun M284 w ok h285=>wpList_nil<|qap<|qaa<|qac<|lw E (qaA rfl rfl (InR.inc r150 (ir 11) c157)) fun a E=>mv E rfl fun a E=>wpList_nil ?_
  cases hF
  exact qau ⟨c272,M273,c269,M270,c154,M284,(ok.pk 10 [1,2,3,4,5,6,7,8,9] rfl (by decide)),E.keep [2,3,4,6,8,9,10,11,12,13,14,58],h274,(InR.inc r150 (ir 11) c157),h271,h285⟩
 have hF:=hJ
 refine cg E rfl hF (fun c256 hF=>?_) fun c256 hF=>?_
 ·refine wp_skip ?_
  cases hF
  exact ⟨rfl,⟨c151,M152,c147,M148,ok,E.keep [2,3,4,6,8,9,10,11,12,13,14,15,17,58],h153,h149,r247⟩⟩
 refine sg<|mv E rfl fun a E=>lv E ok (qcz qi2 h149 rfl) fun a E=>aw E rfl fun a E=>sg<|mv E rfl fun a E=>lv E ok (qaj (cs:=[vi o158.e0,vi o158.e1]) qo1 rfl rfl (qab.own 0 rfl rfl)) fun a E=>mv E rfl fun a E=>bd hF fun l257 e258 hF=>qgA (.inl rfl) E ok 6 qm5 Tryd.underlying100 h153 rfl rfl rfl rfl ⟨m0,_,rfl,⟨rfl,r240,r241⟩⟩ (qaW (ORow.InR h149)) e258 rfl fun M259 w ok h260=>wn<|qac<|mv E rfl fun a E=>lv E ok (qaj (cs:=[vi o158.e0,vi o158.e1]) qo1 rfl rfl (qab.own 0 rfl rfl)) fun a E=>qbH (R:=qdB) (xo:=[.tmp 92]) (xs:=([o158]:List (Arr2_Int))) E ok qi2 qhS rfl ⟨⟨_,rfl,rfl,⟨rfl,r240,r241⟩⟩,trivial⟩ rfl rfl rfl rfl fun c261 M262 a w E ok h263=>bd hF fun l264 e265 hF=>qdn (R:=qdB) E ok 6 qnC qi2 Tryd.underlying101 rfl h149 (qbP.ofRow h263 0 rfl ok) e265 ⟨_,qhS,rfl⟩ rfl rfl rfl rfl fun c266 M267 a w E ok h268=>av E rfl fun a E=>wpList_nil ?_
 cases hF
 exact ⟨rfl,⟨c151,M259,c266,M267,(ok.pk 11 [1,2,3,4,5,6,7,8,9,10] rfl (by decide)),E.keep [2,3,4,6,8,9,10,11,12,13,14,15,17,58],h260,h268,(ORow.InR h149)⟩⟩
def qmp (u:World) (m0:Mem) (S:Segs) (r:DFA × Int) (a:Act) (w:World):Prop :=
 ∃ m1 v0,m0.le m1 ∧ Ok u m1 S w ∧ a.defers = [] ∧ RVs Tryd.prog a w [.c 4 33 (.agg v0.toArray),.t 5 (.int .i64 r.2)] ∧ pDFA m1 v0 r.1 ∧ InR .i64 r.2
theorem qeM (N:Nat) (va_0:List Value) (a_0:DFA) (ha_0:pDFA m0 va_0 a_0) (vb_1:List Value) (b_1:DFA) (hb_1:pDFA m0 vb_1 b_1) {r:DFA × Int} (hF:qfE N a_0 b_1 = some r) (ok:Ok u m0 S w) :
  Calls Tryd.prog 8 [.agg va_0.toArray,.agg vb_1.toArray].toArray w fun e w'=>∃ m1 v0,e = .returned (.tuple [(.agg v0.toArray),(.int .i64 r.2)].toArray) ∧ m0.le m1 ∧ Ok u m1 S w' ∧ pDFA m1 v0 r.1 ∧ InR .i64 r.2:=by
 obtain ⟨c2,c4,rfl,r1,h3,h5⟩:=ha_0
 obtain ⟨c7,c9,rfl,r6,h8,h10⟩:=hb_1
 have le_m0:=Mem.le.refl m0
 unfold qfE at hF
 refine en (qmp u m0 S) r Tryd.func8 rfl rfl rfl (by rintro a w ⟨m1,v0,hle,ok,hd,hrv,h0,h1⟩; exact qbC [.c 4 33 (.agg v0.toArray),.t 5 (.int .i64 r.2)] hd rfl hrv ⟨m1,v0,rfl,hle,ok,h0,h1⟩) fun fin a E=>sg<|qbQ E ok rfl rfl rfl fun b11 a w E ok=>qbQ E ok rfl rfl rfl fun b12 a w E ok=>qaw E ok qa0 rfl rfl fun b13 a w E ok=>av E rfl fun a E=>wn<|sg<|lv E ok (qaj (cs:=[vi a_0.Start,c2,c4]) qcr rfl rfl (qab.own 2 rfl rfl)) fun a E=>lv E ok (qaj (cs:=[vi b_1.Start,c7,c9]) qcr rfl rfl (qab.own 1 rfl rfl)) fun a E=>bd hF fun r14 e15 hF=>qao E qt7 rfl (qjb N _ a_0 ⟨_,_,rfl,r1,h3,h5⟩ _ b_1 ⟨_,_,rfl,r6,h8,h10⟩ e15 ok) rfl rfl ?_
 rintro _ w ⟨m16,vs17,rfl,hle,ok,h18,r19⟩
 have le_m0:=le_m0.trans hle
 have h3:=(mL (mL (mI .i64))).up hle h3
 have h5:=(mL mB).up hle h5
 have h8:=(mL (mL (mI .i64))).up hle h8
 have h10:=(mL mB).up hle h10
 obtain ⟨c21,c23,rfl,r20,h22,h24⟩:=h18
 refine ⟨_,rfl,fun a E=>?_⟩
 refine lw E (qaF rfl rfl) fun a E=>lw E (qaF rfl rfl) fun a E=>qaf E ok 0 rfl rfl rfl qbI rfl rfl ⟨rfl,(qa9 h22),(qa9 h24),trivial⟩ rfl rfl fun w ok=>aw E rfl fun a E=>wp_ret ?_
 exact fin hF ⟨m16,[vi r14.1.Start,c21,c23],le_m0,ok.drop.drop.drop,E.d,⟨rv_c (cs:=[vi r14.1.Start,c21,c23]) E ok rfl qcr rfl (qab.own 0 rfl rfl),rv_t E rfl,trivial⟩,⟨_,_,rfl,r20,h22,h24⟩,r19⟩
def qfo (u:World) (m0:Mem) (S:Segs) (r:Bool) (a:Act) (w:World):Prop :=
 Ok u m0 S w ∧ a.defers = [] ∧ RVs Tryd.prog a w [.t 4 (.bool r)]
theorem qkK (N:Nat) (va_0:List Value) (a_0:DFA) (ha_0:pDFA m0 va_0 a_0) (vb_1:List Value) (b_1:DFA) (hb_1:pDFA m0 vb_1 b_1) {r:Bool} (hF:qeX N a_0 b_1 = some r) (ok:Ok u m0 S w) :
  Calls Tryd.prog 11 [.agg va_0.toArray,.agg vb_1.toArray].toArray w fun e w'=>(e = .returned (.bool r) ∧ Ok u m0 S w'):=by
 obtain ⟨c2,c4,rfl,r1,h3,h5⟩:=ha_0
 obtain ⟨c7,c9,rfl,r6,h8,h10⟩:=hb_1
 unfold qeX at hF
 refine en (qfo u m0 S) r Tryd.func11 rfl rfl rfl (fun _ _ h=>ra h rfl) fun fin a E=>sg<|qbQ E ok rfl rfl rfl fun b11 a w E ok=>qbQ E ok rfl rfl rfl fun b12 a w E ok=>aw E rfl fun a E=>wp_seq<|sg<|fk E ok qpK qam rfl 1 rfl rfl fun a E=>fk E ok qpK qam rfl 0 rfl rfl fun a E=>lw E (qd5 rfl rfl) fun a E=>mv E rfl fun a E=>bu E 13 hF (fun c13 hF E=>?_) fun c13 hF E=>?_
 ·refine lsz E fun a E=>lsq E fun a E=>ls E fun a E=>pt E rfl rfl fun a E=>mv E rfl fun a E=>lsz E fun a E=>lsq E fun a E=>ls E fun a E=>?_
  refine pt E rfl rfl fun a E=>wn<|c_if E rfl (fun _=>?_) (fun h=>by cases h)
  refine sg<|aw E rfl fun a E=>wp_ret<|qav ?_
  exact fin hF ⟨ok.drop.drop,E.d,rz E rfl⟩
 refine fk E ok qht qde rfl 1 rfl rfl fun a E=>lv E ok (qaz qcP h3 rfl) fun a E=>fk E ok qht qde rfl 0 rfl rfl fun a E=>lv E ok (qaz qcP h8 rfl) fun a E=>lw E (qd5 rfl rfl) fun a E=>pf E rfl rfl fun a E=>mv E rfl fun a E=>bu E 22 hF (fun c14 hF E=>?_) fun c14 hF E=>?_
 ·refine lsz E fun a E=>lsq E fun a E=>ls E fun a E=>pt E rfl rfl fun a E=>wn<|c_if E rfl (fun _=>?_) (fun h=>by cases h)
  refine sg<|aw E rfl fun a E=>wp_ret<|qav ?_
  exact fin hF ⟨ok.drop.drop,E.d,rz E rfl⟩
 refine fk E ok qjG qdK rfl 1 rfl rfl fun a E=>lv E ok (qaz qbD h5 rfl) fun a E=>fk E ok qjG qdK rfl 0 rfl rfl fun a E=>lv E ok (qaz qbD h10 rfl) fun a E=>lw E (qd5 rfl rfl) fun a E=>pf E rfl rfl fun a E=>wn<|cf E rfl hF (fun c15 hF=>?_) fun c15 hF=>?_
 ·refine sg<|aw E rfl fun a E=>wp_ret<|qav ?_
  exact fin hF ⟨ok.drop.drop,E.d,rz E rfl⟩
 refine wp_skip<|qaa<|wp_seq<|sg<|aw E rfl fun a E=>wp_block<|bd hF fun o17 hL hF=>qaH _ (fun (s:Int) a w=>Ok u m0 ([(b12,oc 41 [vi b_1.Start,c7,c9])] :: [(b11,oc 41 [vi a_0.Start,c2,c4])] :: S) w ∧ Env 96 a [(2,vp b11),(3,vp b12),(5,vi s)] ∧ InR .i64 s) (fun (b:(Unit ⊕ Bool)) e a w=>(Sum.elim (fun b134=>e = (.exit 0) ∧ Ok u m0 ([(b12,oc 41 [vi b_1.Start,c7,c9])] :: [(b11,oc 41 [vi a_0.Start,c2,c4])] :: S) w ∧ Env 96 a [(2,vp b11),(3,vp b12)]) (fun b135=>e = .ret ∧ qfo u m0 S b135 a w)) b) ?_ ?_ N _ a w hL ⟨ok,E.keep [2,3,5],(ir 0)⟩
 rotate_left
 ·as_aux_lemma =>
   intro e a w _ hO
   rcases o17 with o17 | o17
   rotate_left
   ·obtain ⟨rfl,hret⟩:=hO
    refine qaI<|qav ?_
    exact fin hF hret
   have hF:=qcN hF
   obtain ⟨rfl,ok,E⟩:=hO
   refine qaN<|qaa<|wp_seq<|sg<|aw E rfl fun a E=>wp_block<|bd hF fun o108 hL hF=>qaH _ (fun (s:Int) a w=>Ok u m0 ([(b12,oc 41 [vi b_1.Start,c7,c9])] :: [(b11,oc 41 [vi a_0.Start,c2,c4])] :: S) w ∧ Env 96 a [(2,vp b11),(3,vp b12),(7,vi s)] ∧ InR .i64 s) (fun (b:(Unit ⊕ Bool)) e a w=>(Sum.elim (fun b132=>e = (.exit 4) ∧ Ok u m0 ([(b12,oc 41 [vi b_1.Start,c7,c9])] :: [(b11,oc 41 [vi a_0.Start,c2,c4])] :: S) w ∧ Env 96 a []) (fun b133=>e = .ret ∧ qfo u m0 S b133 a w)) b) ?_ ?_ N _ a w hL ⟨ok,E.keep [2,3,7],(ir 0)⟩
   rotate_left
   ·intro e a w _ hO
    rcases o108 with o108 | o108
    rotate_left
    ·obtain ⟨rfl,hret⟩:=hO
     refine qaI<|qav ?_
     exact fin hF hret
    have hF:=qcN hF
    obtain ⟨rfl,ok,E⟩:=hO
    refine qaN<|qaa<|sg<|aw E rfl fun a E=>wp_ret ?_
    exact fin hF ⟨ok.drop.drop,E.d,rz E rfl⟩
   rintro v110 a w r ⟨ok,E,r111⟩ hF
   replace hF:qcJ N a_0 b_1 v110 = some r:=hF
   unfold qcJ at hF
   refine wp_seq<|sg<|mv E rfl fun a E=>fk E ok qjG qdK rfl 1 rfl rfl fun a E=>lv E ok (qaz qbD h5 rfl) fun a E=>lw E (qaC rfl rfl) fun a E=>wn<|cg E rfl hF (fun c112 hF=>?_) fun c112 hF=>?_
   ·refine wp_exit<|qaE ?_
    cases hF
    exact so (sl ⟨rfl,⟨ok,E.keep []⟩⟩)
   refine wp_skip<|qaa<|wp_seq<|wp_block<|wp_seq<|qee (by kernel_rfl) (by kernel_rfl) ok<|qv E (qae qjG rfl) fun a E=>qv E (qai qdK rfl (qab.own 1 rfl rfl)) fun a E=>qv E (qah rfl) fun a E=>?_
   obtain ⟨x113,e114,hF⟩:=bnd hF
   obtain ⟨b115,o116,es117,hl118,rr119,at120,yy121⟩:=ia E 86 87 qbD h5 e114
   obtain rfl:=rr119
   refine qv E (yy121 _ _) fun a E=>qv E (qai qdk rfl (qab.ro at120)) fun a E=>qv E (qae qjG rfl) fun a E=>qv E (qai qdK rfl (qab.own 0 rfl rfl)) fun a E=>qv E (qah rfl) fun a E=>?_
   obtain ⟨x122,e123,hF⟩:=bnd hF
   obtain ⟨b124,o125,es126,hl127,rr128,at129,yy130⟩:=ia E 91 92 qbD h10 e123
   obtain rfl:=rr128
   refine qv E (yy130 _ _) fun a E=>qv E (qai qdk rfl (qab.ro at129)) fun a E=>qv E (qmn Tryd.underlying4 rfl rfl) fun a E=>wpQuiet_nil ?_
   intro w ok
   refine qaa<|cg E rfl hF (fun c131 hF=>?_) fun c131 hF=>?_
   ·refine wp_skip<|qap<|qaa<|qac<|mv E rfl fun a E=>lw E (qaA rfl rfl (InR.inc r111 (qal h5) c112)) fun a E=>av E rfl fun a E=>wpList_nil ?_
    cases hF
    exact qau ⟨ok,E.keep [2,3,7],(InR.inc r111 (qal h5) c112)⟩
   refine sg<|aw E rfl fun a E=>wp_ret<|qaI<|qav ?_
   cases hF
   exact so (sr ⟨rfl,⟨ok.drop.drop,E.d,rz E rfl⟩⟩)
 rintro v19 a w r ⟨ok,E,r20⟩ hF
 replace hF:qcL N a_0 b_1 v19 = some r:=hF
 unfold qcL at hF
 refine wp_seq<|sg<|mv E rfl fun a E=>fk E ok qht qde rfl 1 rfl rfl fun a E=>lv E ok (qaz qcP h3 rfl) fun a E=>lw E (qaC rfl rfl) fun a E=>wn<|cg E rfl hF (fun c21 hF=>?_) fun c21 hF=>?_
 ·refine wp_exit<|qaE ?_
  cases hF
  exact so (sl ⟨rfl,⟨ok,E.keep [2,3]⟩⟩)
 refine wp_skip<|qaa<|wp_seq<|wp_block<|wp_seq<|wp_seq<|qee (by kernel_rfl) (by kernel_rfl) ok<|qv E (qae qht rfl) fun a E=>qv E (qai qde rfl (qab.own 1 rfl rfl)) fun a E=>qv E (qah rfl) fun a E=>?_
 obtain ⟨x22,e23,hF⟩:=bnd hF
 obtain ⟨b24,o25,es26,hl27,rr28,at29,yy30⟩:=ia E 39 40 qcP h3 e23
 obtain ⟨c31,rfl,h32⟩:=qbG rr28
 refine qv E (yy30 _ _) fun a E=>qv E (qai qcs rfl (qab.ro at29)) fun a E=>qv E (qaz qaR h32 rfl) fun a E=>qv E (qae qht rfl) fun a E=>qv E (qai qde rfl (qab.own 0 rfl rfl)) fun a E=>qv E (qah rfl) fun a E=>?_
 obtain ⟨x33,e34,hF⟩:=bnd hF
 obtain ⟨b35,o36,es37,hl38,rr39,at40,yy41⟩:=ia E 45 46 qcP h8 e34
 obtain ⟨c42,rfl,h43⟩:=qbG rr39
 refine qv E (yy41 _ _) fun a E=>qv E (qai qcs rfl (qab.ro at40)) fun a E=>qv E (qaz qaR h43 rfl) fun a E=>qv E (qd5 rfl rfl) fun a E=>wpQuiet_nil ?_
 intro w ok
 refine qaa<|cf E rfl hF (fun c44 hF=>?_) fun c44 hF=>?_
 ·refine sg<|aw E rfl fun a E=>wp_ret<|qav<|qaI<|qav ?_
  cases hF
  exact so (sr ⟨rfl,⟨ok.drop.drop,E.d,rz E rfl⟩⟩)
 refine wp_skip<|qaa<|sg<|aw E rfl fun a E=>wp_block<|bd hF fun o46 hL hF=>qaH _ (fun (s:Int) a w=>Ok u m0 ([(b12,oc 41 [vi b_1.Start,c7,c9])] :: [(b11,oc 41 [vi a_0.Start,c2,c4])] :: S) w ∧ Env 96 a [(2,vp b11),(3,vp b12),(5,vi v19),(6,vi s)] ∧ InR .i64 s) (fun (b:(Unit ⊕ Bool)) e a w=>(Sum.elim (fun b105=>e = (.exit 2) ∧ Ok u m0 ([(b12,oc 41 [vi b_1.Start,c7,c9])] :: [(b11,oc 41 [vi a_0.Start,c2,c4])] :: S) w ∧ Env 96 a [(2,vp b11),(3,vp b12),(5,vi v19)]) (fun b106=>e = .ret ∧ qfo u m0 S b106 a w)) b) ?_ ?_ N _ a w hL ⟨ok,E.keep [2,3,5,6],(ir 0)⟩
 rotate_left
 ·intro e a w _ hO
  rcases o46 with o46 | o46
  rotate_left
  ·have hF:=qmB hF
   obtain ⟨rfl,hret⟩:=hO
   refine qaI<|qaI<|qav ?_
   cases hF
   exact so (sr ⟨rfl,hret⟩)
  have hF:=qcN hF
  obtain ⟨rfl,ok,E⟩:=hO
  refine qaN<|qap<|qaa<|qac<|mv E rfl fun a E=>lw E (qaA rfl rfl (InR.inc r20 (qal h3) c21)) fun a E=>av E rfl fun a E=>wpList_nil ?_
  cases hF
  exact qau ⟨ok,E.keep [2,3,5],(InR.inc r20 (qal h3) c21)⟩
 rintro v48 a w r ⟨ok,E,r49⟩ hF
 replace hF:qb0 N a_0 b_1 v19 v48 = some r:=hF
 unfold qb0 at hF
 refine wp_seq<|sg<|mv E rfl fun a E=>fk E ok qht qde rfl 1 rfl rfl fun a E=>mv E rfl fun a E=>?_
 obtain ⟨x50,e51,hF⟩:=bnd hF
 obtain ⟨b52,o53,es54,hl55,rr56,at57,yy58⟩:=ia E 53 54 qcP h3 e51
 obtain ⟨c59,rfl,h60⟩:=qbG rr56
 refine lv E ok (yy58 _ _) fun a E=>lv E ok (qai qcs rfl (qab.ro at57)) fun a E=>lv E ok (qaz qaR h60 rfl) fun a E=>lw E (qaC rfl rfl) fun a E=>wn<|cg E rfl hF (fun c61 hF=>?_) fun c61 hF=>?_
 ·refine wp_exit<|qaE ?_
  cases hF
  exact so (sl ⟨rfl,⟨ok,E.keep [2,3,5]⟩⟩)
 refine wp_skip<|qaa<|wp_seq<|wp_block<|wp_seq<|qee (by kernel_rfl) (by kernel_rfl) ok<|qv E (qae qht rfl) fun a E=>qv E (qai qde rfl (qab.own 1 rfl rfl)) fun a E=>qv E (qah rfl) fun a E=>?_
 obtain ⟨x62,e63,hF⟩:=bnd hF
 obtain ⟨b64,o65,es66,hl67,rr68,at69,yy70⟩:=ia E 62 63 qcP h3 e63
 obtain ⟨c71,rfl,h72⟩:=qbG rr68
 refine qv E (yy70 _ _) fun a E=>qv E (qai qcs rfl (qab.ro at69)) fun a E=>qv E (qah rfl) fun a E=>?_
 obtain ⟨x73,e74,hF⟩:=bnd hF
 obtain ⟨b75,o76,es77,hl78,rr79,at80,yy81⟩:=ia E 65 66 qaR h72 e74
 obtain ⟨rfl,r82⟩:=rr79
 refine qv E (yy81 _ _) fun a E=>qv E (qai qam rfl (qab.ro at80)) fun a E=>qv E (qae qht rfl) fun a E=>qv E (qai qde rfl (qab.own 0 rfl rfl)) fun a E=>qv E (qah rfl) fun a E=>?_
 obtain ⟨x83,e84,hF⟩:=bnd hF
 obtain ⟨b85,o86,es87,hl88,rr89,at90,yy91⟩:=ia E 70 71 qcP h8 e84
 obtain ⟨c92,rfl,h93⟩:=qbG rr89
 refine qv E (yy91 _ _) fun a E=>qv E (qai qcs rfl (qab.ro at90)) fun a E=>qv E (qah rfl) fun a E=>?_
 obtain ⟨x94,e95,hF⟩:=bnd hF
 obtain ⟨b96,o97,es98,hl99,rr100,at101,yy102⟩:=ia E 73 74 qaR h93 e95
 obtain ⟨rfl,r103⟩:=rr100
 refine qv E (yy102 _ _) fun a E=>qv E (qai qam rfl (qab.ro at101)) fun a E=>qv E (qd5 rfl rfl) fun a E=>wpQuiet_nil ?_
 intro w ok
 refine qaa<|cg E rfl hF (fun c104 hF=>?_) fun c104 hF=>?_
 ·refine wp_skip<|qap<|qaa<|qac<|mv E rfl fun a E=>lw E (qaA rfl rfl (InR.inc r49 (qal h60) c61)) fun a E=>av E rfl fun a E=>wpList_nil ?_
  cases hF
  exact qau ⟨ok,E.keep [2,3,5,6],(InR.inc r49 (qal h60) c61)⟩
 refine sg<|aw E rfl fun a E=>wp_ret<|qaI<|qav ?_
 cases hF
 exact so (sr ⟨rfl,⟨ok.drop.drop,E.d,rz E rfl⟩⟩)
end Go.Proofs.YtidfofhmnlhfjaaDoor
namespace Go.Proofs.YtidfofhmnlhfjaaDoor
open Go.X
variable {u:World} {m0:Mem} {S:Segs} {w:World}
set_option maxHeartbeats 4000000
set_option maxRecDepth 100000
theorem qub:goB Tryd.prog 10 = true:=by kernel_rfl
theorem quU:goB Tryd.prog 11 = true:=by kernel_rfl
theorem go_4:goB Tryd.prog 4 = true:=by kernel_rfl
theorem go_5:goB Tryd.prog 5 = true:=by kernel_rfl
theorem go_6:goB Tryd.prog 6 = true:=by kernel_rfl
theorem go_7:goB Tryd.prog 7 = true:=by kernel_rfl
theorem go_8:goB Tryd.prog 8 = true:=by kernel_rfl
theorem go_9:goB Tryd.prog 9 = true:=by kernel_rfl
def qiX (u:World) (m0:Mem) (S:Segs) (r:Bool) (a:Act) (w:World):Prop :=
 Ok u m0 S w ∧ a.defers = [] ∧ RVs Tryd.prog a w [.t 4 (.bool r)]
theorem qi1 (N:Nat) (va_0:Value) (a_0:List (List (Relation))) (ha_0:(pL 1 (pL 4 qan)) m0 [va_0] a_0) (vb_1:Value) (b_1:List (List (Relation))) (hb_1:(pL 1 (pL 4 qan)) m0 [vb_1] b_1) {r:Bool} (hF:qcm N a_0 b_1 = some r) (hTb:Tab u) (ok:Ok u m0 S w) :
  Calls Tryd.prog 3 [va_0,vb_1].toArray w fun e w'=>(e = .returned (.bool r) ∧ Ok u m0 S w'):=by
 have hb0:=ok.base
 have le_m0:=Mem.le.refl m0
 unfold qcm at hF
 refine en (qiX u m0 S) r Tryd.func3 rfl rfl rfl (fun _ _ h=>ra h rfl) fun fin a E=>sg<|aw E rfl fun a E=>wp_seq<|sg<|bd hF fun r1 e2 hF=>lc E go_4 rfl (qgm N  e2 hTb ok) fun w ok a E=>lw E (qbW rfl) fun a E=>mv E rfl fun a E=>bu E 20 hF (fun c3 hF E=>?_) fun c3 hF E=>?_
 ·refine lsz E fun a E=>ls E fun a E=>pt E rfl rfl fun a E=>wn<|c_if E rfl (fun _=>?_) (fun h=>by cases h)
  refine sg<|bd hF fun r4 e5 hF=>lc E go_4 rfl (qgm N  e5 hTb ok) fun w ok a E=>aw E rfl fun a E=>wp_ret<|qav ?_
  exact fin hF ⟨ok,E.d,rz E rfl⟩
 refine mz E rfl rfl fun a E=>qbH (R:=(pL 1 (pL 4 qan))) (xo:=[.tmp 21,.tmp 22]) (xs:=([a_0,b_1]:List (List (List (Relation))))) E ok qdM qjF rfl ⟨⟨_,(qcj ha_0),rfl,ha_0⟩,⟨_,(qcj hb_1),rfl,hb_1⟩,trivial⟩ rfl rfl rfl rfl fun c6 M7 a w E ok h8=>?_
 obtain ⟨r14,e15,hF⟩:=bnd hF
 obtain ⟨m9,hle11,ok10,hfz12⟩:=(ok.frs 0 rfl).freeze
 have h13:=ORow.froz (mL (mL qad)) h8 hle11 hfz12 (by decide)
 refine qao E go_5 rfl (qlQ N _ ([a_0,b_1]:List (List (List (Relation)))) h13 e15 ok10) rfl rfl ?_
 rintro _ w ⟨rfl,okz⟩
 replace ok:=(Ok.thawAt 0 rfl ok hle11 hfz12 okz)
 refine ⟨_,rfl,fun a E=>?_⟩
 refine lw E (qbW rfl) fun a E=>pf E rfl rfl fun a E=>wn<|cf E rfl hF (fun c16 hF=>?_) fun c16 hF=>?_
 ·refine sg<|bd hF fun r17 e18 hF=>lc E go_4 rfl (qgm N  e18 hTb ok) fun w ok a E=>aw E rfl fun a E=>wp_ret<|qav ?_
  exact fin hF ⟨ok.drop,E.d,rz E rfl⟩
 refine wp_skip<|qaa<|sg<|mv E rfl fun a E=>bd hF fun r19 e20 hF=>qao E go_6 rfl (qhD N _ a_0 ha_0 e20 ok) rfl rfl ?_
 rintro _ w ⟨⟨rfl,ok⟩,r21,r22⟩
 refine ⟨_,rfl,fun a E=>?_⟩
 refine mv E rfl fun a E=>lw E (qaF rfl rfl) fun a E=>lw E (qaF rfl rfl) fun a E=>av E rfl fun a E=>aw E rfl fun a E=>sg<|mv E rfl fun a E=>bd hF fun r23 e24 hF=>qao E go_6 rfl (qhD N _ b_1 hb_1 e24 ok) rfl rfl ?_
 rintro _ w ⟨⟨rfl,ok⟩,r25,r26⟩
 refine ⟨_,rfl,fun a E=>?_⟩
 refine mv E rfl fun a E=>lw E (qaF rfl rfl) fun a E=>lw E (qaF rfl rfl) fun a E=>av E rfl fun a E=>aw E rfl fun a E=>wp_seq<|sg<|mv E rfl fun a E=>lw E (qd5 rfl rfl) fun a E=>mv E rfl fun a E=>bu E 40 hF (fun c27 hF E=>?_) fun c27 hF E=>?_
 ·refine lsq E fun a E=>pt E rfl rfl fun a E=>mv E rfl fun a E=>lsq E fun a E=>pt E rfl rfl fun a E=>mv E rfl fun a E=>lsq E fun a E=>pt E rfl rfl fun a E=>wn<|c_if E rfl (fun _=>?_) (fun h=>by cases h)
  refine sg<|aw E rfl fun a E=>wp_ret<|qav ?_
  exact fin hF ⟨ok.drop,E.d,rz E rfl⟩
 refine mv E rfl fun a E=>lw E (qd5 rfl rfl) fun a E=>pf E rfl rfl fun a E=>mv E rfl fun a E=>bu E 44 hF (fun c28 hF E=>?_) fun c28 hF E=>?_
 ·refine lsq E fun a E=>pt E rfl rfl fun a E=>mv E rfl fun a E=>lsq E fun a E=>pt E rfl rfl fun a E=>wn<|c_if E rfl (fun _=>?_) (fun h=>by cases h)
  refine sg<|aw E rfl fun a E=>wp_ret<|qav ?_
  exact fin hF ⟨ok.drop,E.d,rz E rfl⟩
 refine mv E rfl fun a E=>lw E (qcK rfl rfl) fun a E=>pf E rfl rfl fun a E=>mv E rfl fun a E=>bu E 48 hF (fun c29 hF E=>?_) fun c29 hF E=>?_
 ·refine lsq E fun a E=>pt E rfl rfl fun a E=>wn<|c_if E rfl (fun _=>?_) (fun h=>by cases h)
  refine sg<|aw E rfl fun a E=>wp_ret<|qav ?_
  exact fin hF ⟨ok.drop,E.d,rz E rfl⟩
 refine mv E rfl fun a E=>lw E (qcK rfl rfl) fun a E=>pf E rfl rfl fun a E=>wn<|cf E rfl hF (fun c30 hF=>?_) fun c30 hF=>?_
 ·refine sg<|aw E rfl fun a E=>wp_ret<|qav ?_
  exact fin hF ⟨ok.drop,E.d,rz E rfl⟩
 refine wp_skip<|qaa<|sg<|mv E rfl fun a E=>bd hF fun r31 e32 hF=>qao E go_7 rfl (qh6 N _ a_0 ha_0 e32 ok) rfl rfl ?_
 rintro _ w ⟨m33,vs34,rfl,hle,ok,h35,r36⟩
 have le_m0:=le_m0.trans hle
 have ha_0:=(mL (mL qad)).up hle ha_0
 have hb_1:=(mL (mL qad)).up hle hb_1
 have h8:=ORow.up (mL (mL qad)) hle h8
 obtain ⟨c38,c40,rfl,r37,h39,h41⟩:=h35
 refine ⟨_,rfl,fun a E=>?_⟩
 refine mv E rfl fun a E=>lw E (qaF rfl rfl) fun a E=>lw E (qaF rfl rfl) fun a E=>qaw E ok qa0 rfl rfl fun b42 a w E ok=>qaf E ok 0 rfl rfl rfl qbI rfl rfl ⟨rfl,(qa9 h39),(qa9 h41),trivial⟩ rfl rfl fun w ok=>aw E rfl fun a E=>sg<|mv E rfl fun a E=>bd hF fun r43 e44 hF=>qao E go_7 rfl (qh6 N _ b_1 hb_1 e44 ok) rfl rfl ?_
 rintro _ w ⟨m45,vs46,rfl,hle,ok,h47,r48⟩
 have le_m0:=le_m0.trans hle
 have ha_0:=(mL (mL qad)).up hle ha_0
 have hb_1:=(mL (mL qad)).up hle hb_1
 have h8:=ORow.up (mL (mL qad)) hle h8
 have h39:=(mL (mL (mI .i64))).up hle h39
 have h41:=(mL mB).up hle h41
 obtain ⟨c50,c52,rfl,r49,h51,h53⟩:=h47
 refine ⟨_,rfl,fun a E=>?_⟩
 refine mv E rfl fun a E=>lw E (qaF rfl rfl) fun a E=>lw E (qaF rfl rfl) fun a E=>qaw E ok qa0 rfl rfl fun b54 a w E ok=>qaf E ok 0 rfl rfl rfl qbI rfl rfl ⟨rfl,(qa9 h51),(qa9 h53),trivial⟩ rfl rfl fun w ok=>aw E rfl fun a E=>wp_seq<|bd hF fun o55 hJ hF=>qaO (Q':=fun e a w=>e = .normal ∧ ∃ m56 b62 c58 c60,m45.le m56 ∧ Ok u m56 ([(b62,oc 33 [vi o55.1.Start,c58,c60])] :: [(b54,oc 33 [vi r43.1.Start,c50,c52])] :: [(b42,oc 33 [vi r31.1.Start,c38,c40])] :: M7 :: S) w ∧ Env 112 a [(0,va_0),(1,vb_1),(6,vi r31.2),(8,vi r43.2),(10,vp b54),(11,vp b62),(12,vi o55.2)] ∧ InR .i64 o55.1.Start ∧ (pL 1 (pL 1 (pI .i64))) m56 [c58] o55.1.Next ∧ (pL 1 pB) m56 [c60] o55.1.Accept ∧ InR .i64 o55.2) ?_ ?_
 ·as_aux_lemma =>
   have hF:=hJ
   have le_m45:=Mem.le.refl m45
   obtain ⟨r64,e65,hF⟩:=bnd hF
   obtain ⟨r74,e75,hF⟩:=bnd hF
   obtain rfl:=sj hF
   refine qaX [] (Cls u m45 ([(b54,oc 33 [vi r43.1.Start,c50,c52])] :: [(b42,oc 33 [vi r31.1.Start,c38,c40])] :: M7 :: [])) (Cls u m45 ([(b54,oc 33 [vi r43.1.Start,c50,c52])] :: [(b42,oc 33 [vi r31.1.Start,c38,c40])] :: M7 :: [])) (by kernel_rfl) ?_
   intro w hw
   replace ok:=qa3 ok hw
   clear hw
   have h39_o:=h39
   have h41_o:=h41
   refine qag (cl1 (cq le_m45 ok [0,1,2] rfl) (cq le_m45 ok [0,1,2] rfl)) fun hT=>kt 0 E rfl hT (qaj (cs:=[vi r31.1.Start,c38,c40]) qcr rfl rfl (qab.cown 1 rfl rfl)) fun a E=>qar [1,6] (by kernel_rfl) rfl (qbA ?_ (qbA ?_ (qeA)))
   rotate_left
   ·refine wo rfl<|qaw E ok qa0 rfl rfl fun b114 a w E ok=>wn<|qag (cl1 (cq le_m45 ok [1,2,3] rfl) (cq le_m45 ok [1,2,3] rfl)) fun hT=>qar [1] (by kernel_rfl) rfl (qas ?_)
    ·refine wo rfl<|qao E go_9 rfl (qga N  e65 ok) rfl rfl ?_
     rintro _ w ⟨m115,vs116,rfl,hle,ok,h117⟩
     have le_m0:=le_m0.trans hle
     have le_m45:=le_m45.trans hle
     have ha_0:=(mL (mL qad)).up hle ha_0
     have hb_1:=(mL (mL qad)).up hle hb_1
     have h8:=ORow.up (mL (mL qad)) hle h8
     have h39:=(mL (mL (mI .i64))).up hle h39
     have h41:=(mL mB).up hle h41
     have h51:=(mL (mL (mI .i64))).up hle h51
     have h53:=(mL mB).up hle h53
     obtain ⟨c119,c121,rfl,r118,h120,h122⟩:=h117
     refine ⟨_,rfl,fun a E=>?_⟩
     refine wn<|qag (cl1 (cq le_m45 ok [1,2,3] rfl) (cq le_m45 ok [1,2,3] rfl)) fun hT=>qar [2] (by kernel_rfl) rfl (qas ?_)
     ·refine wo rfl<|qao E go_8 rfl (qeM N _ r31.1 ⟨_,_,rfl,r37,h39,h41⟩ _ r64 ⟨_,_,rfl,r118,h120,h122⟩ e75 ok) rfl rfl ?_
      rintro _ w ⟨m123,vs124,rfl,hle,ok,h125,r126⟩
      have le_m0:=le_m0.trans hle
      have le_m45:=le_m45.trans hle
      have ha_0:=(mL (mL qad)).up hle ha_0
      have hb_1:=(mL (mL qad)).up hle hb_1
      have h8:=ORow.up (mL (mL qad)) hle h8
      have h39:=(mL (mL (mI .i64))).up hle h39
      have h41:=(mL mB).up hle h41
      have h51:=(mL (mL (mI .i64))).up hle h51
      have h53:=(mL mB).up hle h53
      have h120:=(mL (mL (mI .i64))).up hle h120
      have h122:=(mL mB).up hle h122
      obtain ⟨c128,c130,rfl,r127,h129,h131⟩:=h125
      refine ⟨_,rfl,fun a E=>?_⟩
      refine wn<|qag (cl1 (cq le_m45 ok [1,2,3] rfl) (cq le_m45 ok [1,2,3] rfl)) fun hT=>kt 3 E rfl hT (qah rfl) fun a E=>kt 4 E rfl hT (qaF rfl rfl) fun a E=>kt 5 E rfl hT (qaF rfl rfl) fun a E=>qar [7] (by kernel_rfl) rfl (qas ?_)
      ·refine wo rfl<|qaf E ok 0 rfl rfl rfl qbI rfl rfl ⟨rfl,(qa9 h129),(qa9 h131),trivial⟩ rfl rfl fun w ok=>wn<|qag (cl1 (cq le_m45 ok [1,2,3] rfl) (cq le_m45 ok [1,2,3] rfl)) fun hT=>kt 8 E rfl hT (qbY rfl) fun a E=>qaM (by kernel_rfl) ?_
       exact ⟨rfl,⟨m123,b114,c128,c130,le_m45,ok,E.keep [0,1,6,8,10,11,12],r127,h129,h131,r126⟩⟩
   refine wo rfl<|qao E go_9 rfl (qga N  e65 ok) rfl rfl ?_
   rintro _ w ⟨m86,vs87,rfl,hle,ok,h88⟩
   have le_m0:=le_m0.trans hle
   have le_m45:=le_m45.trans hle
   have ha_0:=(mL (mL qad)).up hle ha_0
   have hb_1:=(mL (mL qad)).up hle hb_1
   have h8:=ORow.up (mL (mL qad)) hle h8
   have h39:=(mL (mL (mI .i64))).up hle h39
   have h41:=(mL mB).up hle h41
   have h51:=(mL (mL (mI .i64))).up hle h51
   have h53:=(mL mB).up hle h53
   obtain ⟨c90,c92,rfl,r89,h91,h93⟩:=h88
   refine ⟨_,rfl,fun a E=>?_⟩
   refine wn<|qag (cl1 (cq le_m45 ok [0,1,2] rfl) (cq le_m45 ok [0,1,2] rfl)) fun hT=>qar [2,6] (by kernel_rfl) rfl (qbA ?_ (qbA ?_ (qeA)))
   ·refine wo rfl<|qao E go_8 rfl (qeM N _ r31.1 ⟨_,_,rfl,r37,h39,h41⟩ _ r64 ⟨_,_,rfl,r89,h91,h93⟩ e75 ok) rfl rfl ?_
    rintro _ w ⟨m94,vs95,rfl,hle,ok,h96,r97⟩
    have le_m0:=le_m0.trans hle
    have le_m45:=le_m45.trans hle
    have ha_0:=(mL (mL qad)).up hle ha_0
    have hb_1:=(mL (mL qad)).up hle hb_1
    have h8:=ORow.up (mL (mL qad)) hle h8
    have h39:=(mL (mL (mI .i64))).up hle h39
    have h41:=(mL mB).up hle h41
    have h51:=(mL (mL (mI .i64))).up hle h51
    have h53:=(mL mB).up hle h53
    have h91:=(mL (mL (mI .i64))).up hle h91
    have h93:=(mL mB).up hle h93
    obtain ⟨c99,c101,rfl,r98,h100,h102⟩:=h96
    refine ⟨_,rfl,fun a E=>?_⟩
    refine wn<|qag (cl1 (cq le_m45 ok [0,1,2] rfl) (cq le_m45 ok [0,1,2] rfl)) fun hT=>kt 3 E rfl hT (qah rfl) fun a E=>kt 4 E rfl hT (qaF rfl rfl) fun a E=>kt 5 E rfl hT (qaF rfl rfl) fun a E=>qar [6] (by kernel_rfl) rfl (qas ?_)
    ·refine wo rfl<|qaw E ok qa0 rfl rfl fun b103 a w E ok=>wn<|qag (cl1 (cq le_m45 ok [1,2,3] rfl) (cq le_m45 ok [1,2,3] rfl)) fun hT=>qar [7] (by kernel_rfl) rfl (qas ?_)
     ·refine wo rfl<|qaf E ok 0 rfl rfl rfl qbI rfl rfl ⟨rfl,(qa9 h100),(qa9 h102),trivial⟩ rfl rfl fun w ok=>wn<|qag (cl1 (cq le_m45 ok [1,2,3] rfl) (cq le_m45 ok [1,2,3] rfl)) fun hT=>kt 8 E rfl hT (qbY rfl) fun a E=>qaM (by kernel_rfl) ?_
      exact ⟨rfl,⟨m94,b103,c99,c101,le_m45,ok,E.keep [0,1,6,8,10,11,12],r98,h100,h102,r97⟩⟩
   refine wo rfl<|qaw E ok qa0 rfl rfl fun b104 a w E ok=>wn<|qag (cl1 (cq le_m45 ok [1,2,3] rfl) (cq le_m45 ok [1,2,3] rfl)) fun hT=>qar [2] (by kernel_rfl) rfl (qas ?_)
   ·refine wo rfl<|qao E go_8 rfl (qeM N _ r31.1 ⟨_,_,rfl,r37,h39,h41⟩ _ r64 ⟨_,_,rfl,r89,h91,h93⟩ e75 ok) rfl rfl ?_
    rintro _ w ⟨m105,vs106,rfl,hle,ok,h107,r108⟩
    have le_m0:=le_m0.trans hle
    have le_m45:=le_m45.trans hle
    have ha_0:=(mL (mL qad)).up hle ha_0
    have hb_1:=(mL (mL qad)).up hle hb_1
    have h8:=ORow.up (mL (mL qad)) hle h8
    have h39:=(mL (mL (mI .i64))).up hle h39
    have h41:=(mL mB).up hle h41
    have h51:=(mL (mL (mI .i64))).up hle h51
    have h53:=(mL mB).up hle h53
    have h91:=(mL (mL (mI .i64))).up hle h91
    have h93:=(mL mB).up hle h93
    obtain ⟨c110,c112,rfl,r109,h111,h113⟩:=h107
    refine ⟨_,rfl,fun a E=>?_⟩
    refine wn<|qag (cl1 (cq le_m45 ok [1,2,3] rfl) (cq le_m45 ok [1,2,3] rfl)) fun hT=>kt 3 E rfl hT (qah rfl) fun a E=>kt 4 E rfl hT (qaF rfl rfl) fun a E=>kt 5 E rfl hT (qaF rfl rfl) fun a E=>qar [7] (by kernel_rfl) rfl (qas ?_)
    ·refine wo rfl<|qaf E ok 0 rfl rfl rfl qbI rfl rfl ⟨rfl,(qa9 h111),(qa9 h113),trivial⟩ rfl rfl fun w ok=>wn<|qag (cl1 (cq le_m45 ok [1,2,3] rfl) (cq le_m45 ok [1,2,3] rfl)) fun hT=>kt 8 E rfl hT (qbY rfl) fun a E=>qaM (by kernel_rfl) ?_
     exact ⟨rfl,⟨m105,b104,c110,c112,le_m45,ok,E.keep [0,1,6,8,10,11,12],r109,h111,h113,r108⟩⟩
 intro e a w hO
 obtain ⟨rfl,m132,b138,c134,c136,hle,ok,E,r133,h135,h137,r139⟩:=hO
 have le_m0:=le_m0.trans hle
 have ha_0:=(mL (mL qad)).up hle ha_0
 have hb_1:=(mL (mL qad)).up hle hb_1
 have h39:=(mL (mL (mI .i64))).up hle h39
 have h41:=(mL mB).up hle h41
 have h51:=(mL (mL (mI .i64))).up hle h51
 have h53:=(mL mB).up hle h53
 refine qaa<|wp_seq<|bd hF fun o140 hJ hF=>qaO (Q':=fun e a w=>e = .normal ∧ ∃ m141 b147 c143 c145,m132.le m141 ∧ Ok u m141 ([(b147,oc 33 [vi o140.1.Start,c143,c145])] :: [(b138,oc 33 [vi o55.1.Start,c134,c136])] :: [(b54,oc 33 [vi r43.1.Start,c50,c52])] :: [(b42,oc 33 [vi r31.1.Start,c38,c40])] :: M7 :: S) w ∧ Env 112 a [(0,va_0),(1,vb_1),(6,vi r31.2),(8,vi r43.2),(11,vp b138),(12,vi o55.2),(13,vp b147),(14,vi o140.2)] ∧ InR .i64 o140.1.Start ∧ (pL 1 (pL 1 (pI .i64))) m141 [c143] o140.1.Next ∧ (pL 1 pB) m141 [c145] o140.1.Accept ∧ InR .i64 o140.2) ?_ ?_
 ·as_aux_lemma =>
   have hF:=hJ
   have le_m132:=Mem.le.refl m132
   obtain ⟨r149,e150,hF⟩:=bnd hF
   obtain ⟨r159,e160,hF⟩:=bnd hF
   obtain rfl:=sj hF
   refine qaX [] (Cls u m132 ([(b138,oc 33 [vi o55.1.Start,c134,c136])] :: [(b54,oc 33 [vi r43.1.Start,c50,c52])] :: [(b42,oc 33 [vi r31.1.Start,c38,c40])] :: M7 :: [])) (Cls u m132 ([(b138,oc 33 [vi o55.1.Start,c134,c136])] :: [(b54,oc 33 [vi r43.1.Start,c50,c52])] :: [(b42,oc 33 [vi r31.1.Start,c38,c40])] :: M7 :: [])) (by kernel_rfl) ?_
   intro w hw
   replace ok:=qa3 ok hw
   clear hw
   have h51_o:=h51
   have h53_o:=h53
   refine qag (cl1 (cq le_m132 ok [0,1,2,3] rfl) (cq le_m132 ok [0,1,2,3] rfl)) fun hT=>kt 0 E rfl hT (qaj (cs:=[vi r43.1.Start,c50,c52]) qcr rfl rfl (qab.cown 1 rfl rfl)) fun a E=>qar [1,6] (by kernel_rfl) rfl (qbA ?_ (qbA ?_ (qeA)))
   rotate_left
   ·refine wo rfl<|qaw E ok qa0 rfl rfl fun b199 a w E ok=>wn<|qag (cl1 (cq le_m132 ok [1,2,3,4] rfl) (cq le_m132 ok [1,2,3,4] rfl)) fun hT=>qar [1] (by kernel_rfl) rfl (qas ?_)
    ·refine wo rfl<|qao E go_9 rfl (qga N  e150 ok) rfl rfl ?_
     rintro _ w ⟨m200,vs201,rfl,hle,ok,h202⟩
     have le_m0:=le_m0.trans hle
     have le_m132:=le_m132.trans hle
     have ha_0:=(mL (mL qad)).up hle ha_0
     have hb_1:=(mL (mL qad)).up hle hb_1
     have h39:=(mL (mL (mI .i64))).up hle h39
     have h41:=(mL mB).up hle h41
     have h51:=(mL (mL (mI .i64))).up hle h51
     have h53:=(mL mB).up hle h53
     have h135:=(mL (mL (mI .i64))).up hle h135
     have h137:=(mL mB).up hle h137
     obtain ⟨c204,c206,rfl,r203,h205,h207⟩:=h202
     refine ⟨_,rfl,fun a E=>?_⟩
     refine wn<|qag (cl1 (cq le_m132 ok [1,2,3,4] rfl) (cq le_m132 ok [1,2,3,4] rfl)) fun hT=>qar [2] (by kernel_rfl) rfl (qas ?_)
     ·refine wo rfl<|qao E go_8 rfl (qeM N _ r43.1 ⟨_,_,rfl,r49,h51,h53⟩ _ r149 ⟨_,_,rfl,r203,h205,h207⟩ e160 ok) rfl rfl ?_
      rintro _ w ⟨m208,vs209,rfl,hle,ok,h210,r211⟩
      have le_m0:=le_m0.trans hle
      have le_m132:=le_m132.trans hle
      have ha_0:=(mL (mL qad)).up hle ha_0
      have hb_1:=(mL (mL qad)).up hle hb_1
      have h39:=(mL (mL (mI .i64))).up hle h39
      have h41:=(mL mB).up hle h41
      have h51:=(mL (mL (mI .i64))).up hle h51
      have h53:=(mL mB).up hle h53
      have h135:=(mL (mL (mI .i64))).up hle h135
      have h137:=(mL mB).up hle h137
      have h205:=(mL (mL (mI .i64))).up hle h205
      have h207:=(mL mB).up hle h207
      obtain ⟨c213,c215,rfl,r212,h214,h216⟩:=h210
      refine ⟨_,rfl,fun a E=>?_⟩
      refine wn<|qag (cl1 (cq le_m132 ok [1,2,3,4] rfl) (cq le_m132 ok [1,2,3,4] rfl)) fun hT=>kt 3 E rfl hT (qah rfl) fun a E=>kt 4 E rfl hT (qaF rfl rfl) fun a E=>kt 5 E rfl hT (qaF rfl rfl) fun a E=>qar [7] (by kernel_rfl) rfl (qas ?_)
      ·refine wo rfl<|qaf E ok 0 rfl rfl rfl qbI rfl rfl ⟨rfl,(qa9 h214),(qa9 h216),trivial⟩ rfl rfl fun w ok=>wn<|qag (cl1 (cq le_m132 ok [1,2,3,4] rfl) (cq le_m132 ok [1,2,3,4] rfl)) fun hT=>kt 8 E rfl hT (qbY rfl) fun a E=>qaM (by kernel_rfl) ?_
       exact ⟨rfl,⟨m208,b199,c213,c215,le_m132,ok,E.keep [0,1,6,8,11,12,13,14],r212,h214,h216,r211⟩⟩
   refine wo rfl<|qao E go_9 rfl (qga N  e150 ok) rfl rfl ?_
   rintro _ w ⟨m171,vs172,rfl,hle,ok,h173⟩
   have le_m0:=le_m0.trans hle
   have le_m132:=le_m132.trans hle
   have ha_0:=(mL (mL qad)).up hle ha_0
   have hb_1:=(mL (mL qad)).up hle hb_1
   have h39:=(mL (mL (mI .i64))).up hle h39
   have h41:=(mL mB).up hle h41
   have h51:=(mL (mL (mI .i64))).up hle h51
   have h53:=(mL mB).up hle h53
   have h135:=(mL (mL (mI .i64))).up hle h135
   have h137:=(mL mB).up hle h137
   obtain ⟨c175,c177,rfl,r174,h176,h178⟩:=h173
   refine ⟨_,rfl,fun a E=>?_⟩
   refine wn<|qag (cl1 (cq le_m132 ok [0,1,2,3] rfl) (cq le_m132 ok [0,1,2,3] rfl)) fun hT=>qar [2,6] (by kernel_rfl) rfl (qbA ?_ (qbA ?_ (qeA)))
   ·refine wo rfl<|qao E go_8 rfl (qeM N _ r43.1 ⟨_,_,rfl,r49,h51,h53⟩ _ r149 ⟨_,_,rfl,r174,h176,h178⟩ e160 ok) rfl rfl ?_
    rintro _ w ⟨m179,vs180,rfl,hle,ok,h181,r182⟩
    have le_m0:=le_m0.trans hle
    have le_m132:=le_m132.trans hle
    have ha_0:=(mL (mL qad)).up hle ha_0
    have hb_1:=(mL (mL qad)).up hle hb_1
    have h39:=(mL (mL (mI .i64))).up hle h39
    have h41:=(mL mB).up hle h41
    have h51:=(mL (mL (mI .i64))).up hle h51
    have h53:=(mL mB).up hle h53
    have h135:=(mL (mL (mI .i64))).up hle h135
    have h137:=(mL mB).up hle h137
    have h176:=(mL (mL (mI .i64))).up hle h176
    have h178:=(mL mB).up hle h178
    obtain ⟨c184,c186,rfl,r183,h185,h187⟩:=h181
    refine ⟨_,rfl,fun a E=>?_⟩
    refine wn<|qag (cl1 (cq le_m132 ok [0,1,2,3] rfl) (cq le_m132 ok [0,1,2,3] rfl)) fun hT=>kt 3 E rfl hT (qah rfl) fun a E=>kt 4 E rfl hT (qaF rfl rfl) fun a E=>kt 5 E rfl hT (qaF rfl rfl) fun a E=>qar [6] (by kernel_rfl) rfl (qas ?_)
    ·refine wo rfl<|qaw E ok qa0 rfl rfl fun b188 a w E ok=>wn<|qag (cl1 (cq le_m132 ok [1,2,3,4] rfl) (cq le_m132 ok [1,2,3,4] rfl)) fun hT=>qar [7] (by kernel_rfl) rfl (qas ?_)
     ·refine wo rfl<|qaf E ok 0 rfl rfl rfl qbI rfl rfl ⟨rfl,(qa9 h185),(qa9 h187),trivial⟩ rfl rfl fun w ok=>wn<|qag (cl1 (cq le_m132 ok [1,2,3,4] rfl) (cq le_m132 ok [1,2,3,4] rfl)) fun hT=>kt 8 E rfl hT (qbY rfl) fun a E=>qaM (by kernel_rfl) ?_
      exact ⟨rfl,⟨m179,b188,c184,c186,le_m132,ok,E.keep [0,1,6,8,11,12,13,14],r183,h185,h187,r182⟩⟩
   refine wo rfl<|qaw E ok qa0 rfl rfl fun b189 a w E ok=>wn<|qag (cl1 (cq le_m132 ok [1,2,3,4] rfl) (cq le_m132 ok [1,2,3,4] rfl)) fun hT=>qar [2] (by kernel_rfl) rfl (qas ?_)
   ·refine wo rfl<|qao E go_8 rfl (qeM N _ r43.1 ⟨_,_,rfl,r49,h51,h53⟩ _ r149 ⟨_,_,rfl,r174,h176,h178⟩ e160 ok) rfl rfl ?_
    rintro _ w ⟨m190,vs191,rfl,hle,ok,h192,r193⟩
    have le_m0:=le_m0.trans hle
    have le_m132:=le_m132.trans hle
    have ha_0:=(mL (mL qad)).up hle ha_0
    have hb_1:=(mL (mL qad)).up hle hb_1
    have h39:=(mL (mL (mI .i64))).up hle h39
    have h41:=(mL mB).up hle h41
    have h51:=(mL (mL (mI .i64))).up hle h51
    have h53:=(mL mB).up hle h53
    have h135:=(mL (mL (mI .i64))).up hle h135
    have h137:=(mL mB).up hle h137
    have h176:=(mL (mL (mI .i64))).up hle h176
    have h178:=(mL mB).up hle h178
    obtain ⟨c195,c197,rfl,r194,h196,h198⟩:=h192
    refine ⟨_,rfl,fun a E=>?_⟩
    refine wn<|qag (cl1 (cq le_m132 ok [1,2,3,4] rfl) (cq le_m132 ok [1,2,3,4] rfl)) fun hT=>kt 3 E rfl hT (qah rfl) fun a E=>kt 4 E rfl hT (qaF rfl rfl) fun a E=>kt 5 E rfl hT (qaF rfl rfl) fun a E=>qar [7] (by kernel_rfl) rfl (qas ?_)
    ·refine wo rfl<|qaf E ok 0 rfl rfl rfl qbI rfl rfl ⟨rfl,(qa9 h196),(qa9 h198),trivial⟩ rfl rfl fun w ok=>wn<|qag (cl1 (cq le_m132 ok [1,2,3,4] rfl) (cq le_m132 ok [1,2,3,4] rfl)) fun hT=>kt 8 E rfl hT (qbY rfl) fun a E=>qaM (by kernel_rfl) ?_
     exact ⟨rfl,⟨m190,b189,c195,c197,le_m132,ok,E.keep [0,1,6,8,11,12,13,14],r194,h196,h198,r193⟩⟩
 intro e a w hO
 obtain ⟨rfl,m217,b223,c219,c221,hle,ok,E,r218,h220,h222,r224⟩:=hO
 have le_m0:=le_m0.trans hle
 have ha_0:=(mL (mL qad)).up hle ha_0
 have hb_1:=(mL (mL qad)).up hle hb_1
 have h39:=(mL (mL (mI .i64))).up hle h39
 have h41:=(mL mB).up hle h41
 have h51:=(mL (mL (mI .i64))).up hle h51
 have h53:=(mL mB).up hle h53
 have h135:=(mL (mL (mI .i64))).up hle h135
 have h137:=(mL mB).up hle h137
 refine qaa<|sg<|mz E rfl rfl fun a E=>bd hF fun r225 e226 hF=>qao E qub rfl (qkR N _ a_0 ha_0 _ b_1 hb_1 e226 hTb ok) rfl rfl ?_
 rintro _ w ⟨⟨rfl,ok⟩,l227,r228⟩
 refine ⟨_,rfl,fun a E=>?_⟩
 refine mv E rfl fun a E=>lw E (qaF rfl rfl) fun a E=>lw E (qaF rfl rfl) fun a E=>lw E (qaF rfl rfl) fun a E=>av E rfl fun a E=>av E rfl fun a E=>av E rfl fun a E=>wn<|wp_seq<|sg<|mv E rfl fun a E=>lw E (qax rfl rfl) fun a E=>mv E rfl fun a E=>bu E 83 hF (fun c229 hF E=>?_) fun c229 hF E=>?_
 ·refine lsq E fun a E=>pt E rfl rfl fun a E=>wn<|c_if E rfl (fun _=>?_) (fun h=>by cases h)
  refine sg<|aw E rfl fun a E=>wp_ret<|qav ?_
  exact fin hF ⟨(ok.drop.drop.drop.drop.drop).down hb0 le_m0,E.d,rz E rfl⟩
 refine mv E rfl fun a E=>lw E (qax rfl rfl) fun a E=>pf E rfl rfl fun a E=>wn<|cf E rfl hF (fun c230 hF=>?_) fun c230 hF=>?_
 ·refine sg<|aw E rfl fun a E=>wp_ret<|qav ?_
  exact fin hF ⟨(ok.drop.drop.drop.drop.drop).down hb0 le_m0,E.d,rz E rfl⟩
 refine wp_skip<|qaa<|sg<|mv E rfl fun a E=>lw E (qax rfl rfl) fun a E=>mv E rfl fun a E=>bw E 89 hF (fun c231 hF E=>?_) fun c231 hF E=>?_
 ·refine lsq E fun a E=>pf E rfl rfl fun a E=>mv E rfl fun a E=>lsq E fun a E=>pf E rfl rfl fun a E=>mv E rfl fun a E=>lsq E fun a E=>pf E rfl rfl fun a E=>mv E rfl fun a E=>lsq E fun a E=>pf E rfl rfl fun a E=>mv E rfl fun a E=>?_
  refine lsz E fun a E=>ls E fun a E=>pf E rfl rfl fun a E=>av E rfl fun a E=>wn<|wp_ret ?_
  exact fin hF ⟨(ok.drop.drop.drop.drop.drop).down hb0 le_m0,E.d,rz E rfl⟩
 refine mv E rfl fun a E=>lw E (qax rfl rfl) fun a E=>pt E rfl rfl fun a E=>mv E rfl fun a E=>bw E 93 hF (fun c232 hF E=>?_) fun c232 hF E=>?_
 ·refine lsq E fun a E=>pf E rfl rfl fun a E=>mv E rfl fun a E=>lsq E fun a E=>pf E rfl rfl fun a E=>mv E rfl fun a E=>lsq E fun a E=>pf E rfl rfl fun a E=>mv E rfl fun a E=>lsz E fun a E=>?_
  refine ls E fun a E=>pf E rfl rfl fun a E=>aw E rfl fun a E=>wp_ret ?_
  exact fin hF ⟨(ok.drop.drop.drop.drop.drop).down hb0 le_m0,E.d,rz E rfl⟩
 refine mv E rfl fun a E=>lw E (qax rfl rfl) fun a E=>pt E rfl rfl fun a E=>mv E rfl fun a E=>bw E 97 hF (fun c233 hF E=>?_) fun c233 hF E=>?_
 ·refine lsq E fun a E=>pf E rfl rfl fun a E=>mv E rfl fun a E=>lsq E fun a E=>pf E rfl rfl fun a E=>mv E rfl fun a E=>lsz E fun a E=>ls E fun a E=>pf E rfl rfl fun a E=>av E rfl fun a E=>wn<|wp_ret ?_
  exact fin hF ⟨(ok.drop.drop.drop.drop.drop).down hb0 le_m0,E.d,rz E rfl⟩
 refine mv E rfl fun a E=>lw E (qax rfl rfl) fun a E=>pt E rfl rfl fun a E=>mv E rfl fun a E=>bw E 101 hF (fun c234 hF E=>?_) fun c234 hF E=>?_
 ·refine lsq E fun a E=>pf E rfl rfl fun a E=>mv E rfl fun a E=>lsz E fun a E=>ls E fun a E=>pf E rfl rfl fun a E=>aw E rfl fun a E=>wp_ret ?_
  exact fin hF ⟨(ok.drop.drop.drop.drop.drop).down hb0 le_m0,E.d,rz E rfl⟩
 refine mv E rfl fun a E=>lw E (qax rfl rfl) fun a E=>pt E rfl rfl fun a E=>mv E rfl fun a E=>bw E 105 hF (fun c235 hF E=>?_) fun c235 hF E=>?_
 ·refine lsz E fun a E=>ls E fun a E=>pf E rfl rfl fun a E=>av E rfl fun a E=>wn<|wp_ret ?_
  exact fin hF ⟨(ok.drop.drop.drop.drop.drop).down hb0 le_m0,E.d,rz E rfl⟩
 refine mv E rfl fun a E=>lv E ok (qaj (cs:=[vi o55.1.Start,c134,c136]) qcr rfl rfl (qab.own 1 rfl rfl)) fun a E=>lv E ok (qaj (cs:=[vi o140.1.Start,c219,c221]) qcr rfl rfl (qab.own 0 rfl rfl)) fun a E=>bd hF fun r236 e237 hF=>lc E quU rfl (qkK N _ o55.1 ⟨_,_,rfl,r133,h135,h137⟩ _ o140.1 ⟨_,_,rfl,r218,h220,h222⟩ e237 ok) fun w ok a E=>lv E ok (qtp Tryd.underlying4 rfl rfl) fun a E=>pt E rfl rfl fun a E=>aw E rfl fun a E=>wp_ret ?_
 exact fin hF ⟨(ok.drop.drop.drop.drop.drop).down hb0 le_m0,E.d,rz E rfl⟩
end Go.Proofs.YtidfofhmnlhfjaaDoor
namespace Go.X
variable {H:Type} {enc:TypeId × Value → H}
end Go.X
namespace Go.X
open Go.ChangeShapes Go.RowKit
def OpnS {α:Type} (P:Program) (t:TypeId) (R:Rp α) (Q:α → Prop):Prop :=
 ∀ {H:Type} {enc:TypeId × Value → H} {W:World} {base:Nat} {spare:Nat → Bool} {held:Bool} {fuel:Nat} {cs:List Value} {x:DataW H × List MemPlace},
  DataW.trod enc P W base spare held fuel t cs = some x → (∀ n ∈ x.1.weights P t,n ≤ reachBytes) → ∃ a:α,R (hm W) cs a ∧ Q a
section
variable {P:Program} {t:TypeId}
theorem qn2 {k:IntKind} (ht:P.underlying t = some (.int k)):OpnS P t (pI k) (InR k):=fun h _=>by
 obtain ⟨a,ha⟩:=quz ht h
 exact ⟨a,ha,ha.2⟩
theorem qtE (ht:P.underlying t = some .bool):OpnS P t pB (fun _=>True):=fun h _=>by
 obtain ⟨a,ha⟩:=qtT ht h
 exact ⟨a,ha,trivial⟩
theorem qjB {H:Type} {e:TypeId}:∀ {l:List (DataW H)} {d:DataW H},d ∈ l → ∀ n ∈ d.weights P e,n ∈ DataW.weightsAll P e l
 | d0 :: l,d,h,n,hn=>by
  simp only [DataW.weightsAll,List.mem_append]
  rcases List.mem_cons.1 h with rfl | h
  ·exact .inl hn
  ·exact .inr (qjB h n hn)
 | [],_,h,_,_=>by cases h
theorem qjW {α:Type} {e:TypeId} {n:Nat} {R:Rp α} {Q:α → Prop} (ht:P.underlying t = some (.slice e)) (hc:P.cellsOf e = n) (hn:0 < n) (hb:0 < P.bytesOf e) (he:OpnS P e R Q):OpnS P t (pL n R) (fun xs=>xs.length ≤ reachBytes ∧ ∀ y ∈ xs,Q y):=fun {H enc W base spare held fuel cs x} h hz=>by
 rcases Go.Deep.open_slice ht h with ⟨rfl,_⟩ | ⟨a,len,cap,m,fu,D,Pl,rfl,_,hl,hm',hm2,rfl,hel⟩
 ·exact ⟨[],⟨none,0,rfl,Nat.le_refl _,Nat.zero_le _,Nat.zero_le _,fun h=>absurd rfl h⟩,Nat.zero_le _,fun _ h=>by cases h⟩
 ·rw [hc] at hel
  have hlm:len ≤ m:=by rw [hm2]; split <;> omega
  have hlen:len ≤ reachBytes:=by
   have h1:=hz (((List.range len).map D).length + ((List.range (m - len)).map fun j=>D (len + j)).length |> (· * P.bytesOf e)) (by simp [DataW.weights,ht])
   simp only [List.length_map,List.length_range] at h1
   have h2:len * 1 ≤ (len + (m - len)) * P.bytesOf e:=Nat.mul_le_mul (by omega) hb
   omega
  have key:∀ i,i < len → ∃ y:α,(∃ es:List Value,es.length = n ∧ (∀ j v,es[j]? = some v → W.cell? (a.add (i * n + j)) = some v) ∧ R (hm W) es y) ∧ Q y:=by
   intro i hi
   obtain ⟨cs',h1,h2⟩:=hel i (by omega)
   obtain ⟨y,hy,hq⟩:=he h2 (fun k hk=>hz k (by
    simp only [DataW.weights,ht,List.mem_cons,List.mem_append]
    exact .inr (.inl (qjB (List.mem_map.2 ⟨i,List.mem_range.2 hi,rfl⟩) k hk))))
   obtain ⟨_,hlen,hcell⟩:=World.cells?_some h1
   refine ⟨y,⟨cs',hlen,fun j v hj=>?_,hy⟩,hq⟩
   have hjn:j < n:=by rw [← hlen]; exact (List.getElem?_eq_some_iff.1 hj).1
   have:=hcell j hjn
   rw [hj] at this
   rw [qsY]
   exact this
  have pick:∃ f:Fin len → α,∀ i:Fin len,(∃ es:List Value,es.length = n ∧ (∀ j v,es[j]? = some v → W.cell? (a.add (i.1 * n + j)) = some v) ∧ R (hm W) es (f i)) ∧ Q (f i) :=
   ⟨fun i=>(key i.1 i.2).choose,fun i=>(key i.1 i.2).choose_spec⟩
  obtain ⟨f,hf⟩:=pick
  refine ⟨List.ofFn f,⟨some a,cap,by rw [List.length_ofFn],by rw [List.length_ofFn]; exact hl,hm',?_,fun h0=>?_⟩,by rw [List.length_ofFn]; exact hlen,fun y hy=>?_⟩
  ·rw [List.length_ofFn]; unfold maxLen at hm'; unfold LIMS; omega
  ·rw [List.length_ofFn] at h0
   obtain ⟨b,off,spot⟩:=a
   have hs:spot = none:=by
    obtain ⟨⟨es,e1,e2,_⟩,_⟩:=hf ⟨0,by omega⟩
    have hv:es[0]? = some (es[0]'(by omega)):=by simp
    have:=e2 0 _ hv
    simpa [Addr.add] using World.cell?_spot this
   subst hs
   refine ⟨b,off,rfl,fun i y hy=>?_⟩
   obtain ⟨hi,rfl⟩:=List.getElem?_eq_some_iff.1 hy
   have hi':i < len:=by simpa using hi
   obtain ⟨⟨es,e1,e2,e3⟩,_⟩:=hf ⟨i,hi'⟩
   refine ⟨es,e1,fun j v hj=>?_,by simpa using e3⟩
   have:=e2 j v hj
   refine qtd ?_
   rw [qr1] at this
   rw [Nat.add_assoc]
   exact this
  ·obtain ⟨i,rfl⟩:=List.mem_ofFn.1 hy
   exact (hf i).2
theorem qn9 {fs:Array Field} (ht:P.underlying t = some (.struct fs)) {H:Type} {enc:TypeId × Value → H} {W:World} {base:Nat} {spare:Nat → Bool} {held:Bool} {fuel:Nat} {cs:List Value} {x:DataW H × List MemPlace}
  (h:DataW.trod enc P W base spare held fuel t cs = some x) (hz:∀ n ∈ x.1.weights P t,n ≤ reachBytes) :
  cs.length = P.cellsOf t ∧ ∀ {α:Type} {R:Rp α} {Q:α → Prop} (i:Nat) (f:Field) (n:Nat),fs[i]? = some f → P.cellsOf f.type = n → OpnS P f.type R Q → ∃ a,R (hm W) ((cs.drop f.offset).take n) a ∧ Q a:=by
 obtain ⟨xs,n,_,hx,hl,hlen,hf⟩:=DataW.trod_struct ht h
 refine ⟨hl,fun {α R Q} i f n hi hn ho=>?_⟩
 have hi':i < xs.length:=by rw [hlen]; exact (Array.getElem?_eq_some_iff.1 hi).1
 have:=hf i f hi
 rw [List.getElem?_eq_getElem hi',hn] at this
 refine ho this fun k hk=>hz k ?_
 subst hx
 simp only [DataW.weights,ht]
 refine DataW.weights_mem_each (j:=i) (t:=f.type) (d:=xs[i].1) ?_ ?_ k hk
 ·simp [hi]
 ·simp [hi']
end
end Go.X
namespace Go.X
open Go.ChangeShapes Go.RowKit
section
variable {H:Type} {enc:TypeId × Value → H}
theorem qln {a:Assume} {C:Checked} {os:Os} {f:FuncId} {fn:Func} {s:ChangeSpec} {conds:List PathCond} {apart fresh handsOn again:Bool} {X:World → Array Value → Prop}
  (hX:∀ (w w':World) (args:Array Value),w.heap = w'.heap → X w args → X w' args)
  (own:ownKnob C.prog.godebug = none) (started:os.Started) (noInit:C.prog.inits.idxOf? f = none) (hfn:C.prog.funcs[f]? = some fn)
  (witness:∃ (w:World) (tape:Tape) (i:Input),w.os = os ∧ (w.forCall tape i).Shaped C.prog ∧ i.vars = [] ∧ Input.okWide C.prog (w.forCall tape i) .any w.heap.size f i ∧
   ((s.pre enc C.prog fn conds apart (w.forCall tape i).memory i.args ∧ X (w.forCall tape i).memory i.args) ∧ sizedMet enc C.prog fn (OpenSpec.ofChange s) apart (w.forCall tape i).memory i.args) ∧ a.holds C.prog (lone (Frame.enter C.prog f i.args .normal) [] (w.forCall tape i)))
  (contract:∀ (W:World) (base:Nat) (args:Array Value) (ds gs:List (DataW H)) (before:List MemPlace),
   (∀ (j:Nat) t v,fn.params[j]? = some t → args[j]? = some v → Value.okWide C.prog W .any base t v) →
   DataW.Whole enc C.prog fn.params.toList s.vars apart W args.toList ds gs before → W.ShapedOpen C.prog →
   X W args → (DataW.weightsEach C.prog (fn.params.toList ++ s.plain.varTypes C.prog) (ds ++ gs)).all (· ≤ reachBytes) = true →
   Calls C.prog f args W fun e W'=>∃ v,e = .returned v ∧ s.post enc C.prog fn apart fresh handsOn again W args v W') :
  ReturnsInHanded a C os f .any (fun w args=>(s.pre enc C.prog fn conds apart w args ∧ X w args) ∧ sizedMet enc C.prog fn (OpenSpec.ofChange s) apart w args) (s.post enc C.prog fn apart fresh handsOn again):=by
 refine returnsInHanded_of_calls own started noInit witness ?_
 intro w tape i _ hsh _ hok hpre _
 obtain ⟨_,_,_,fn',hfn',_,_,_,_,hval⟩:=hok
 have e:fn' = fn:=Option.some.inj (hfn'.symm.trans hfn)
 subst e
 obtain ⟨⟨⟨ds,gs,before,hw,_⟩,hx⟩,hz⟩:=hpre
 have hw':=DataW.Whole.of_heap (w':=w.forCall tape i) (by rfl) hw
 refine (contract (w.forCall tape i) w.heap.size i.args ds gs before hval hw' hsh (hX _ _ _ (by rfl) hx) (hz.weights hw)).mono fun e W' ⟨v,he,hp⟩=>?_
 subst he
 exact ChangeSpec.post_blind hp
end
end Go.X
namespace Go.X
open Go.ChangeShapes Go.RowKit
end Go.X
namespace Go.Proofs.YtidfofhmnlhfjaaDoor
open Go.ChangeShapes Go.WideShapes Go.ChangeAt Go.RowKit Go.X
theorem own:ownKnob Tryd.prog.godebug = none:=by kernel_rfl
theorem qpI:laidOutB Tryd.prog = true:=by kernel_rfl
theorem qqT {H:Type} {enc:TypeId × Value → H} {W:World} {base:Nat} {sp:Nat → Bool} {held:Bool} (b:Bool):DataW.Trod enc Tryd.prog W base sp held 4 (.bool b) (.lit (.bool b)) [] :=
 ⟨1,by simp [DataW.trod,Value.cells,Tryd.underlying4]⟩
theorem ce3:Tryd.prog.cellsOf 3 = 1:=by kernel_rfl
theorem ce4:Tryd.prog.cellsOf 4 = 1:=by kernel_rfl
theorem ce50:Tryd.prog.cellsOf 50 = 1:=by kernel_rfl
theorem ce52:Tryd.prog.cellsOf 52 = 1:=by kernel_rfl
theorem ce54:Tryd.prog.cellsOf 54 = 4:=by kernel_rfl
theorem ce87:Tryd.prog.cellsOf 87 = 2:=by kernel_rfl
theorem o_87:OpnS Tryd.prog 87 qd7 (fun x=>(InR .i64 x.From ∧ InR .i64 x.To)):=fun h hz=>by
 obtain ⟨hl,hf⟩:=qn9 Tryd.underlying87 h hz
 obtain ⟨c0,c1,rfl⟩:=len2 (hl.trans ce87)
 obtain ⟨a0,h0,q0⟩:=hf 0 _ 1 rfl ce3 (qn2 Tryd.underlying3)
 obtain ⟨a1,h1,q1⟩:=hf 1 _ 1 rfl ce3 (qn2 Tryd.underlying3)
 have h0:(pI .i64) _ [c0] a0:=h0
 obtain ⟨rfl,g0⟩:=qha h0
 have h1:(pI .i64) _ [c1] a1:=h1
 obtain ⟨rfl,g1⟩:=qha h1
 exact ⟨⟨a0,a1⟩,⟨rfl,g0,g1⟩,⟨q0,q1⟩⟩
theorem o_54:OpnS Tryd.prog 54 qan (fun x=>(InR .i64 x.Operand ∧ InR .i64 x.Mod ∧ (x.Spans.length ≤ reachBytes ∧ ∀ y13 ∈ x.Spans,(InR .i64 y13.From ∧ InR .i64 y13.To)))):=fun h hz=>by
 obtain ⟨hl,hf⟩:=qn9 Tryd.underlying54 h hz
 obtain ⟨c0,c1,c2,c3,rfl⟩:=len4 (hl.trans ce54)
 obtain ⟨a0,h0,q0⟩:=hf 0 _ 1 rfl ce3 (qn2 Tryd.underlying3)
 obtain ⟨a1,h1,q1⟩:=hf 1 _ 1 rfl ce3 (qn2 Tryd.underlying3)
 obtain ⟨a2,h2,q2⟩:=hf 2 _ 1 rfl ce4 (qtE Tryd.underlying4)
 obtain ⟨a3,h3,q3⟩:=hf 3 _ 1 rfl ce52 (qjW Tryd.underlying52 ce87 (Nat.succ_pos _) (of_decide_eq_true (by kernel_rfl)) o_87)
 have h0:(pI .i64) _ [c0] a0:=h0
 obtain ⟨rfl,g0⟩:=qha h0
 have h1:(pI .i64) _ [c1] a1:=h1
 obtain ⟨rfl,g1⟩:=qha h1
 have h2:pB _ [c2] a2:=h2
 obtain rfl:=qqu h2
 have h3:(pL 2 qd7) _ [c3] a3:=h3
 exact ⟨⟨a0,a1,a2,a3⟩,⟨c3,rfl,g0,g1,h3⟩,⟨q0,q1,q3⟩⟩
theorem qm9 {W:World} (h:laidMetH Tryd.prog Rows.decideSetsRow.laid W):Tab W:=by
 rw [MakeChecks.laidMetH_plain _ _ _ (by kernel_rfl)] at h
 exact Lib.tabIs_of_head (g:=0) (t:=163) (e:=134) (by kernel_rfl) (by kernel_rfl) Tryd.underlying163 (by kernel_rfl) (by kernel_rfl) (by kernel_rfl) (show laidMet Tryd.prog (("internal/strconv.uint64pow10",Lib.tabData .u64 Lib.pow10Tab) :: _) W from laidMet.tail (x:=_) (laidMet.tail (x:=_) h))
set_option maxRecDepth 100000 in
theorem qlN (hp:∀ x0 x1,(x0.length ≤ reachBytes ∧ ∀ y4 ∈ x0,(y4.length ≤ reachBytes ∧ ∀ y5 ∈ y4,(InR .i64 y5.Operand ∧ InR .i64 y5.Mod ∧ (y5.Spans.length ≤ reachBytes ∧ ∀ y6 ∈ y5.Spans,(InR .i64 y6.From ∧ InR .i64 y6.To))))) → (x1.length ≤ reachBytes ∧ ∀ y10 ∈ x1,(y10.length ≤ reachBytes ∧ ∀ y11 ∈ y10,(InR .i64 y11.Operand ∧ InR .i64 y11.Mod ∧ (y11.Spans.length ≤ reachBytes ∧ ∀ y12 ∈ y11.Spans,(InR .i64 y12.From ∧ InR .i64 y12.To))))) → ∃ N,qcm N x0 x1 = some true) (os:Os) (started:os.Started) (H:Type) (enc:TypeId × Value → H) :
  ReturnsInHanded {} Tryd.checked os 3 .any (fun w args=>(Rows.decideSetsSpec.pre enc Tryd.prog Tryd.f3 [] false w args ∧ laidMetH Tryd.prog Rows.decideSetsRow.laid w) ∧ sizedMet enc Tryd.prog Tryd.f3 (OpenSpec.ofChange Rows.decideSetsSpec) false w args)
   (Rows.decideSetsSpec.post enc Tryd.prog Tryd.f3 false true false false):=by
 refine qln (C:=Tryd.checked) (X:=fun w _=>laidMetH Tryd.prog Rows.decideSetsRow.laid w) (fun _ _ _ hh h=>laidMetH.of_heap hh h) own started (by kernel_rfl) Tryd.func3
  (ChangeSpec.witness_shaped (enc:=enc) (C:=Tryd.checked) (os:=os) (X:=fun w _=>laidMetH Tryd.prog Rows.decideSetsRow.laid w) false (World.laidAll Tryd.prog os Rows.decideSetsRow.laid) #[.slice none 0 0,.slice none 0 0] 8 (World.laidAll_os _ _ _)
   (World.shaped_of_ZipB (by kernel_rfl) (by kernel_rfl)) (by kernel_rfl) (by kernel_rfl) (by kernel_rfl)
   (by rw [MakeChecks.laidMetH_plain _ _ _ (by kernel_rfl)]; exact laidMet_laidAll _ (by kernel_rfl) (by kernel_rfl))) ?_
 intro W base args ds gs before hval0 hW hsh hX hz
 have hval:∀ (j:Nat) t v,Tryd.f3.params[j]? = some t → args[j]? = some v → Value.okWide Tryd.prog W .any base t v:=hval0
 have hW':=hW
 obtain ⟨p,q,hA0,hV,rfl,_,_⟩:=hW
 have hA:DataW.TrodAll enc Tryd.prog W 0 (fun _=>true) true Tryd.f3.params.toList args.toList ds p:=hA0
 rw [Tryd.params3] at hA hval
 obtain ⟨v0,v1,d0,d1,p0,p1,rfl,rfl,rfl,k0,k1⟩:=trodAll_two hA
 obtain ⟨rfl,rfl⟩:=trodVars_none hV
 obtain ⟨fu0,hf0⟩:=id k0
 have hz0:∀ n ∈ d0.weights Tryd.prog 23,n ≤ reachBytes:=fun n hn=>by
  have:=List.all_eq_true.1 hz n (DataW.weights_mem_each (j:=0) (t:=23) (d:=d0) (by rw [Tryd.params3]; rfl) rfl n hn)
  simpa using this
 obtain ⟨s0,u0,w0,rfl⟩:=okWide_slice Tryd.underlying23 (hval 0 23 v0 rfl rfl)
 obtain ⟨a0,r0,q0⟩:=(qjW Tryd.underlying23 ce50 (Nat.succ_pos _) (of_decide_eq_true (by kernel_rfl)) (qjW Tryd.underlying50 ce54 (Nat.succ_pos _) (of_decide_eq_true (by kernel_rfl)) o_54)) hf0 hz0
 obtain ⟨fu1,hf1⟩:=id k1
 have hz1:∀ n ∈ d1.weights Tryd.prog 23,n ≤ reachBytes:=fun n hn=>by
  have:=List.all_eq_true.1 hz n (DataW.weights_mem_each (j:=1) (t:=23) (d:=d1) (by rw [Tryd.params3]; rfl) rfl n hn)
  simpa using this
 obtain ⟨s1,u1,w1,rfl⟩:=okWide_slice Tryd.underlying23 (hval 1 23 v1 rfl rfl)
 obtain ⟨a1,r1,q1⟩:=(qjW Tryd.underlying23 ce50 (Nat.succ_pos _) (of_decide_eq_true (by kernel_rfl)) (qjW Tryd.underlying50 ce54 (Nat.succ_pos _) (of_decide_eq_true (by kernel_rfl)) o_54)) hf1 hz1
 clear hA0 hval0
 have hlt:∀ x ∈ p0 ++ p1,x.block < W.heap.size:=fun x hx=>by
  refine hW'.lt x ?_
  simpa using hx
 have hlt0:∀ x ∈ p0,x.block < W.heap.size:=fun x hx=>hlt x (by simp [hx])
 have hlt1:∀ x ∈ p1,x.block < W.heap.size:=fun x hx=>hlt x (by simp [hx])
 obtain ⟨N,hN⟩:=hp a0 a1 q0 q1
 have hw:=qi1 N _ a0 r0 _ a1 r1 hN (qm9 hX) (Ok.start W)
 refine hw.mono fun e W' ⟨he,ok⟩=>?_
 subst he
 have hn:=ok.below
 have t0:=Below.trod qpI (by kernel_rfl) (of_decide_eq_true (by kernel_rfl)) k0 hn hlt0
 have t1:=Below.trod qpI (by kernel_rfl) (of_decide_eq_true (by kernel_rfl)) k1 hn hlt1
 refine ⟨_,rfl,_,_,_,[],p0 ++ p1,[],hW',?_,?_,rfl,hn.frame _,fun h=>by cases h⟩
 ·exact trodAll_mk1 (qqT true)
 ·exact trodAll_mk2 t0 t1
theorem ql6 (hp:∀ x0 x1,(x0.length ≤ reachBytes ∧ ∀ y4 ∈ x0,(y4.length ≤ reachBytes ∧ ∀ y5 ∈ y4,(InR .i64 y5.Operand ∧ InR .i64 y5.Mod ∧ (y5.Spans.length ≤ reachBytes ∧ ∀ y6 ∈ y5.Spans,(InR .i64 y6.From ∧ InR .i64 y6.To))))) → (x1.length ≤ reachBytes ∧ ∀ y10 ∈ x1,(y10.length ≤ reachBytes ∧ ∀ y11 ∈ y10,(InR .i64 y11.Operand ∧ InR .i64 y11.Mod ∧ (y11.Spans.length ≤ reachBytes ∧ ∀ y12 ∈ y11.Spans,(InR .i64 y12.From ∧ InR .i64 y12.To))))) → ∃ N,qcm N x0 x1 = some true):Rows.DecideSetsSaid :=
 OpenClaim.holds_of_wide 3 Tryd.f3 rfl rfl rfl rfl rfl rfl rfl ⟨rfl,rfl,rfl,rfl,rfl⟩ rfl rfl rfl rfl rfl (by kernel_rfl) Tryd.func3 (by kernel_rfl)
  (of_decide_eq_true (by kernel_rfl)) (by unfold Func.isWrapper; rw [if_neg (of_decide_eq_false (by kernel_rfl))]; exact ⟨rfl,rfl⟩)
  (fun os started H enc _=>qlN hp os started H enc)
set_option maxRecDepth 100000 in
theorem qmv (hp:∀ x0 x1,(x0.length ≤ reachBytes ∧ ∀ y4 ∈ x0,(y4.length ≤ reachBytes ∧ ∀ y5 ∈ y4,(InR .i64 y5.Operand ∧ InR .i64 y5.Mod ∧ (y5.Spans.length ≤ reachBytes ∧ ∀ y6 ∈ y5.Spans,(InR .i64 y6.From ∧ InR .i64 y6.To))))) → (x1.length ≤ reachBytes ∧ ∀ y10 ∈ x1,(y10.length ≤ reachBytes ∧ ∀ y11 ∈ y10,(InR .i64 y11.Operand ∧ InR .i64 y11.Mod ∧ (y11.Spans.length ≤ reachBytes ∧ ∀ y12 ∈ y11.Spans,(InR .i64 y12.From ∧ InR .i64 y12.To))))) → ∃ N,qcm N x0 x1 = some true):Rows.DecideSetsCardSaid :=
 Claim7.holds_tied_plain_at .later [] [.data,.data,.data] true (true, "326c36170de4c7b79dd0bb2b1904df6e6f636eb6f1341b75d44a9577a5e92af7") false (ql6 hp) (fun _ h=>by cases h) (by kernel_rfl) (fun _ h=>by cases h) decideSets_row_tie rfl ⟨rfl,rfl⟩ (by kernel_rfl) rfl
  (fun f fn hf hfn=>by
   obtain rfl:f = 3:=Option.some.inj ((show Tryd.prog.funcNamed "calque/calquelaw10.DecideSets" = some 3 by kernel_rfl).symm.trans hf) |>.symm
   obtain rfl:fn = Tryd.f3:=(Option.some.inj (Tryd.func3.symm.trans hfn)).symm
   exact ⟨by kernel_rfl,fun j t ht=>by
    rw [Tryd.params3] at ht
    have hm:t ∈ [23,23]:=by simpa using Array.mem_of_getElem? ht
    have hall:([23,23].all fun u=>!Tryd.prog.wantsStandIn u) = true:=by kernel_rfl
    exact (show Tryd.prog.wantsStandIn t = false by simpa using List.all_eq_true.1 hall t hm)⟩)
  (by kernel_rfl)
end Go.Proofs.YtidfofhmnlhfjaaDoor
namespace Go.Proofs.YtidfofhmnlhfjaaDoor
namespace A
open Go.X
theorem qmw {σ β:Type} {body:σ → Option (σ ⊕ β)} (f:Nat → σ) (n:Nat) {b:β} (hs:∀ i,i < n → body (f i) = some (.inl (f (i + 1)))) (hd:body (f n) = some (.inr b)) :
  ∀ N,n < N → iter body N (f 0) = some b:=by
 have key:∀ j k N,k + j = n → j < N → iter body N (f k) = some b:=by
  intro j
  induction j with
  | zero =>
   intro k N hk hN
   obtain ⟨N,rfl⟩:∃ M,N = M + 1:=⟨N - 1,by omega⟩
   have:k = n:=by omega
   subst this
   simp only [iter,hd]
  | succ j ih =>
   intro k N hk hN
   obtain ⟨N,rfl⟩:∃ M,N = M + 1:=⟨N - 1,by omega⟩
   simp only [iter,hs k (by omega)]
   exact ih (k + 1) N (by omega) (by omega)
 exact fun N hN=>key n 0 N (by omega) hN
theorem qk2 {p:Nat → Prop} {n:Nat} (h:¬ ∀ i,i < n → p i):∃ k,k < n ∧ ¬ p k ∧ ∀ i,i < k → p i:=by
 induction n with
 | zero=>exact absurd (fun i hi=>absurd hi (Nat.not_lt_zero i)) h
 | succ n ih =>
  by_cases h':∀ i,i < n → p i
  ·refine ⟨n,Nat.lt_succ_self n,fun hp=>h fun i hi=>?_,h'⟩
   rcases Nat.lt_succ_iff_lt_or_eq.1 hi with h1 | rfl
   ·exact h' i h1
   ·exact hp
  ·obtain ⟨k,h1,h2,h3⟩:=ih h'
   exact ⟨k,by omega,h2,h3⟩
theorem qka {β:Type} (n:Nat) (p:Nat → Prop) [Decidable (∀ i,i < n → p i)] (body:Int → Option (Int ⊕ (Unit ⊕ β))) (b:β)
  (hs:∀ i,i < n → p i → body (i:Int) = some (.inl ((i:Int) + 1)))
  (hf:∀ i,i < n → ¬ p i → body (i:Int) = some (.inr (.inr b)))
  (hd:body (n:Int) = some (.inr (.inl ()))) (N:Nat) (hN:n < N):iter body N 0 = some (if ∀ i,i < n → p i then .inl () else .inr b):=by
 by_cases h:∀ i,i < n → p i
 ·rw [if_pos h]
  exact qmw (fun i=>(i:Int)) n (fun i hi=>by rw [hs i hi (h i hi)]; rfl) hd N hN
 ·rw [if_neg h]
  obtain ⟨k,h1,h2,h3⟩:=qk2 h
  exact qmw (fun i=>(i:Int)) k (fun i hi=>by rw [hs i (by omega) (h3 i hi)]; rfl) (hf k h1 h2) N (by omega)
theorem qiI {α:Type} (xs:List α) (i:Nat):idx xs (i:Int) = xs[i]?:=by
 unfold idx; rw [if_pos (by omega)]; simp
theorem qeW {α:Type} (xs:List α) {i:Nat} (h:i < xs.length):idx xs (i:Int) = some xs[i]:=by
 rw [qiI,List.getElem?_eq_getElem h]
theorem cond_pos {α:Type} {p:Prop} [Decidable p] (h:p) (a b:α):(bif decide p then a else b) = a:=by rw [decide_eq_true h]; rfl
theorem cond_neg {α:Type} {p:Prop} [Decidable p] (h:¬ p) (a b:α):(bif decide p then a else b) = b:=by rw [decide_eq_false h]; rfl
theorem qgz {α β:Type} [BEq β] [LawfulBEq β] [DecidableEq β] (x y:β) (a b:α):(bif (x != y) then a else b) = if x = y then b else a:=by
 by_cases h:x = y
 ·subst h; simp
 ·rw [if_neg h,show (x != y) = true by simp [h]]; rfl
theorem qok {α β:Type} [BEq β] [LawfulBEq β] [DecidableEq β] (x y:β) (a b:α):(bif (x == y) then a else b) = if x = y then a else b:=by
 by_cases h:x = y
 ·subst h; simp
 ·rw [if_neg h,show (x == y) = false by simp [h]]; rfl
def qtX (n:Nat) (row:List Int):Prop:=row.length = 11 ∧ ∀ c:Nat,c < 11 → ∃ x:Int,row[c]? = some x ∧ 0 ≤ x ∧ x < (n:Int)
def stp (d:DFA) (s c:Nat):Nat:=((d.Next[s]?.getD [])[c]?.getD 0).toNat
theorem qiS:∀ (n:Nat) (l:List Nat),l.Nodup → (∀ x ∈ l,x < n) → l.length ≤ n
 | 0,l,_,h=>by
  cases l with
  | nil=>exact Nat.le_refl _
  | cons a r=>exact absurd (h a (List.mem_cons_self ..)) (Nat.not_lt_zero a)
 | n + 1,l,hn,h=>by
  by_cases hm:n ∈ l
  ·have h1:=qiS n (l.erase n) (hn.erase n) fun x hx=>by
    have:=(hn.mem_erase_iff).1 hx
    have:=h x this.2
    omega
   rw [List.length_erase_of_mem hm] at h1
   omega
  ·have h1:=qiS n l hn fun x hx=>by
    have:=h x hx
    have:x ≠ n:=fun e=>hm (e ▸ hx)
    omega
   omega
structure WF (d:DFA):Prop where
 one:1 ≤ d.Next.length
 most:d.Next.length ≤ 4000000000
 acc:d.Accept.length = d.Next.length
 lo:0 ≤ d.Start
 hi:d.Start < d.Next.length
 rows:∀ i,i < d.Next.length → ∃ row,d.Next[i]? = some row ∧ qtX d.Next.length row
abbrev sz (d:DFA):Nat:=d.Next.length
abbrev st0 (d:DFA):Nat:=d.Start.toNat
def Acc (d:DFA) (s:Nat):Bool:=d.Accept[s]?.getD false
def runs (d:DFA):Nat → List Nat → Nat
 | s,[]=>s
 | s,c :: w=>runs d (stp d s c) w
def lang (d:DFA) (s:Nat) (w:List Nat):Bool:=Acc d (runs d s w)
def Word (w:List Nat):Prop:=∀ c ∈ w,c < 11
def Sim (a:DFA) (s:Nat) (b:DFA) (t:Nat):Prop:=∀ w,Word w → lang a s w = lang b t w
theorem Word.cons {c:Nat} {w:List Nat} (hc:c < 11) (h:Word w):Word (c :: w):=fun x hx=>by
 rcases List.mem_cons.1 hx with rfl | hx
 ·exact hc
 ·exact h x hx
theorem Word.tail {c:Nat} {w:List Nat} (h:Word (c :: w)):c < 11 ∧ Word w:=⟨h c (List.mem_cons_self ..),fun x hx=>h x (List.mem_cons_of_mem _ hx)⟩
theorem Word.nil:Word []:=fun _ h=>by cases h
theorem Sim.refl (a:DFA) (s:Nat):Sim a s a s:=fun _ _=>rfl
theorem Sim.symm {a b:DFA} {s t:Nat} (h:Sim a s b t):Sim b t a s:=fun w hw=>(h w hw).symm
theorem Sim.trans {a b c:DFA} {s t u:Nat} (h:Sim a s b t) (k:Sim b t c u):Sim a s c u:=fun w hw=>(h w hw).trans (k w hw)
theorem Sim.step {a b:DFA} {s t:Nat} (h:Sim a s b t) {c:Nat} (hc:c < 11):Sim a (stp a s c) b (stp b t c):=fun w hw=>h (c :: w) (hw.cons hc)
theorem Sim.acc {a b:DFA} {s t:Nat} (h:Sim a s b t):Acc a s = Acc b t:=h [] Word.nil
theorem WF.step {d:DFA} (v:WF d) {s c:Nat} (hs:s < sz d) (hc:c < 11) :
  ∃ row,d.Next[s]? = some row ∧ row[c]? = some (stp d s c:Int) ∧ stp d s c < sz d:=by
 obtain ⟨row,h1,h2,h3⟩:=v.rows s hs
 obtain ⟨x,h4,h5,h6⟩:=h3 c hc
 refine ⟨row,h1,?_,?_⟩ <;> simp only [stp,h1,h4,Option.getD_some]
 ·rw [Int.toNat_of_nonneg h5]
 ·unfold sz; omega
theorem WF.stp_lt {d:DFA} (v:WF d) {s c:Nat} (hs:s < sz d) (hc:c < 11):stp d s c < sz d:=by
 obtain ⟨_,_,_,h⟩:=v.step hs hc; exact h
theorem WF.st0_lt {d:DFA} (v:WF d):st0 d < sz d:=by have:=v.hi; have:=v.lo; unfold st0 sz; omega
theorem WF.st0_eq {d:DFA} (v:WF d):d.Start = (st0 d:Int):=(Int.toNat_of_nonneg v.lo).symm
theorem WF.Acc_some {d:DFA} (v:WF d) {s:Nat} (hs:s < sz d):d.Accept[s]? = some (Acc d s):=by
 unfold Acc
 rw [List.getElem?_eq_getElem (by rw [v.acc]; exact hs)]; rfl
theorem qmt {a b:DFA} (R:Nat → Nat → Prop) (ha:∀ s t,R s t → Acc a s = Acc b t) (hs:∀ s t,R s t → ∀ c,c < 11 → R (stp a s c) (stp b t c)) {s t:Nat} (h:R s t):Sim a s b t:=by
 intro w
 induction w generalizing s t with
 | nil=>intro _; exact ha s t h
 | cons c w ih =>
  intro hw
  obtain ⟨hc,hw⟩:=hw.tail
  exact ih (hs s t h c hc) hw
def pos (d:DFA) (p:Nat):Nat:=stp d (p / 11) (p % 11)
structure Numbered (d:DFA):Prop where
 st:st0 d = 0
 fst:∀ j,0 < j → j < sz d → ∃ p,p < 11 * j ∧ pos d p = j ∧ ∀ q,q < p → pos d q < j
def qs7 (d:DFA):Prop:=∀ s t,s < sz d → t < sz d → Sim d s d t → s = t
structure Canon (d:DFA):Prop where
 wf:WF d
 num:Numbered d
 red:qs7 d
theorem qqU (d:DFA) (i c:Nat) (hc:c < 11):pos d (11 * i + c) = stp d i c:=by
 unfold pos
 rw [show (11 * i + c) / 11 = i by omega,show (11 * i + c) % 11 = c by omega]
section
variable {A B:DFA}
theorem qnh (ca:Canon A) (h0:Sim A 0 B 0):∀ i,i < sz A → (∀ q,q < 11 * i → pos A q = pos B q) → Sim A i B i:=by
 intro i
 induction i using Nat.strongRecOn with
 | ind i ih =>
  intro hi hq
  by_cases hz:i = 0
  ·subst hz; exact h0
  ·obtain ⟨p,hp,he,_⟩:=ca.num.fst i (by omega) hi
   have hs:=ih (p / 11) (by omega) (by omega) (fun q hq'=>hq q (by omega))
   have:=hs.step (c:=p % 11) (by omega)
   have e2:=hq p hp
   rw [he] at e2
   unfold pos at he e2
   rw [he,← e2] at this
   exact this
theorem qrb {A B:DFA} (ca:Canon A) (cb:Canon B) (h0:Sim A 0 B 0) (p:Nat) (hpA:p < 11 * sz A) (hpB:p < 11 * sz B) (hag:∀ q,q < p → pos A q = pos B q):¬ pos A p < pos B p:=by
 intro hlt
 have hA:p / 11 < sz A:=by omega
 have hB:p / 11 < sz B:=by omega
 have hs:Sim A (pos A p) B (pos B p):=(qnh ca h0 (p / 11) hA (fun q hq=>hag q (by omega))).step (by omega)
 have xA:pos A p < sz A:=ca.wf.stp_lt hA (by omega)
 have yB:pos B p < sz B:=cb.wf.stp_lt hB (by omega)
 obtain ⟨g,hg1,hg2,hg3⟩:=cb.num.fst (pos B p) (by omega) yB
 have hgp:g ≤ p:=by
  rcases Nat.lt_or_ge p g with h | h
  ·have:=hg3 p h; omega
  ·exact h
 -- a state that both find at a place in front of p
 have known:∀ q,q < p → Sim A (pos A q) B (pos B q):=fun q hq=>(qnh ca h0 (q / 11) (by omega) (fun r hr=>hag r (by omega))).step (by omega)
 rcases Nat.lt_or_eq_of_le hgp with hgp | hgp
 ·have k1:=known g hgp
  have k2:=hag g hgp
  rw [hg2] at k1 k2
  have hA':pos A g < sz A:=ca.wf.stp_lt (by omega) (by omega)
  have:=ca.red (pos A p) (pos A g) xA hA' (hs.trans k1.symm)
  omega
 ·subst hgp
  have hxB:Sim A (pos A g) B (pos A g) → False:=fun h=>by
   have:=cb.red (pos A g) (pos B g) (by omega) yB (h.symm.trans hs)
   omega
  by_cases hx0:pos A g = 0
  ·rw [hx0] at hxB; exact hxB h0
  obtain ⟨f,hf1,hf2,hf3⟩:=ca.num.fst (pos A g) (by omega) xA
  have hfp:f ≤ g:=by
   rcases Nat.lt_or_ge g f with h | h
   ·have:=hf3 g h; omega
   ·exact h
  rcases Nat.lt_or_eq_of_le hfp with hfp | hfp
  ·have k1:=known f hfp
   have k2:=hag f hfp
   rw [← k2,hf2] at k1
   exact hxB k1
  ·obtain ⟨e,he1,he2,he3⟩:=cb.num.fst (pos A g) (by omega) (by omega)
   rcases Nat.lt_trichotomy e g with h | h | h
   ·have:=hag e h
    rw [he2] at this
    have:=hf3 e (by omega)
    omega
   ·subst h; omega
   ·have:=he3 g h; omega
theorem qqk (ca:Canon A) (cb:Canon B) (h0:Sim A 0 B 0):∀ p,p < 11 * sz A → p < 11 * sz B → pos A p = pos B p:=by
 intro p
 induction p using Nat.strongRecOn with
 | ind p ih =>
  intro hA hB
  have hag:∀ q,q < p → pos A q = pos B q:=fun q hq=>ih q hq (by omega) (by omega)
  have h1:=qrb ca cb h0 p hA hB hag
  have h2:=qrb cb ca h0.symm p hB hA (fun q hq=>(hag q hq).symm)
  omega
theorem qpP (ca:Canon A) (cb:Canon B) (h0:Sim A 0 B 0):sz B ≤ sz A:=by
 rcases Nat.lt_or_ge (sz A) (sz B) with h | h
 ·have h1:=ca.wf.one
  have h1:1 ≤ sz A:=h1
  obtain ⟨f,hf1,hf2,_⟩:=cb.num.fst (sz A) (by omega) h
  have:=qqk ca cb h0 f hf1 (by omega)
  have hl:pos A f < sz A:=ca.wf.stp_lt (by omega) (by omega)
  omega
 ·exact h
theorem WF.ext (va:WF A) (vb:WF B) (hs:st0 A = st0 B) (hk:sz A = sz B) (hn:∀ i c,i < sz A → c < 11 → stp A i c = stp B i c) (hc:∀ i,i < sz A → Acc A i = Acc B i):A = B:=by
 have e1:A.Start = B.Start:=by rw [va.st0_eq,vb.st0_eq,hs]
 have e2:A.Next = B.Next:=by
  apply List.ext_getElem? 
  intro i
  by_cases hi:i < sz A
  ·obtain ⟨r,h1,h2,_⟩:=va.rows i hi
   obtain ⟨r',h1',h2',_⟩:=vb.rows i (by unfold sz at *; omega)
   rw [h1,h1']
   congr 1
   apply List.ext_getElem?
   intro c
   by_cases hcc:c < 11
   ·obtain ⟨s,g1,g2,_⟩:=va.step hi hcc
    obtain ⟨s',g1',g2',_⟩:=vb.step (show i < sz B by omega) hcc
    rw [h1] at g1; cases g1
    rw [h1'] at g1'; cases g1'
    rw [g2,g2',hn i c hi hcc]
   ·rw [List.getElem?_eq_none (by omega),List.getElem?_eq_none (by omega)]
  ·rw [List.getElem?_eq_none (by simpa using hi),List.getElem?_eq_none (by unfold sz at *; omega)]
 have e3:A.Accept = B.Accept:=by
  apply List.ext_getElem? 
  intro i
  by_cases hi:i < sz A
  ·rw [va.Acc_some hi,vb.Acc_some (by omega),hc i hi]
  ·rw [List.getElem?_eq_none (by rw [va.acc]; simpa using hi),List.getElem?_eq_none (by rw [vb.acc]; unfold sz at *; omega)]
 cases A; cases B
 simp only at e1 e2 e3
 rw [e1,e2,e3]
theorem Canon.unique (ca:Canon A) (cb:Canon B) (h:Sim A (st0 A) B (st0 B)):A = B:=by
 have h0:Sim A 0 B 0:=by rw [ca.num.st,cb.num.st] at h; exact h
 have hk:sz A = sz B:=Nat.le_antisymm (qpP cb ca h0.symm) (qpP ca cb h0)
 have hp:=qqk ca cb h0
 refine ca.wf.ext cb.wf (by rw [ca.num.st,cb.num.st]) hk (fun i c hi hc=>?_) (fun i hi=>?_)
 ·have:=hp (11 * i + c) (by omega) (by omega)
  rwa [qqU A i c hc,qqU B i c hc] at this
 ·exact (qnh ca h0 i hi (fun q hq=>hp q (by omega) (by omega))).acc
end
def qgM (f:Nat → Nat) (i:Nat):Bool:=(List.range i).all fun j=>f j != f i
theorem qgK {f:Nat → Nat} {i:Nat}:qgM f i = true ↔ ∀ j,j < i → f j ≠ f i:=by
 unfold qgM; simp
def fsts (f:Nat → Nat) (k:Nat):List Nat:=(List.range k).filter (qgM f)
theorem qqP (f:Nat → Nat) (k:Nat):fsts f (k + 1) = fsts f k ++ (if qgM f k then [k] else []):=by
 unfold fsts
 rw [List.range_succ,List.filter_append]
 congr 1
 by_cases h:qgM f k = true
 ·simp [h]
 ·simp [h]
theorem qhT (f:Nat → Nat) (k:Nat):(fsts f k).length ≤ k:=by
 have:=List.length_filter_le (qgM f) (List.range k)
 simpa [fsts] using this
theorem qhO {f:Nat → Nat} {k i:Nat}:i ∈ fsts f k ↔ i < k ∧ ∀ j,j < i → f j ≠ f i:=by
 unfold fsts; rw [List.mem_filter,List.mem_range,qgK]
theorem qoK (f:Nat → Nat) (i:Nat):∃ j,j ≤ i ∧ f j = f i ∧ ∀ l,l < j → f l ≠ f j:=by
 induction i using Nat.strongRecOn with
 | ind i ih =>
  by_cases h:∀ l,l < i → f l ≠ f i
  ·exact ⟨i,Nat.le_refl _,rfl,h⟩
  ·obtain ⟨l,h1,h2,_⟩:=qk2 h
   have h2:f l = f i:=by simpa using h2
   obtain ⟨j,h3,h4,h5⟩:=ih l h1
   exact ⟨j,by omega,h4.trans h2,h5⟩
def qjm (k:Nat) (g f:Nat → Nat):Prop:=∀ i j,i < k → j < k → g i = g j → f i = f j
theorem qjm.sub {k:Nat} {g f:Nat → Nat} (h:qjm k g f):fsts f k = (fsts g k).filter (qgM f):=by
 unfold fsts
 rw [List.filter_filter]
 apply List.filter_congr
 intro i hi
 have hi:=List.mem_range.1 hi
 by_cases hf:qgM f i = true
 ·have:qgM g i = true:=qgK.2 fun j hj e=>qgK.1 hf j hj (h j i (by omega) hi e)
  rw [hf,this]; rfl
 ·simp at hf; simp [hf]
theorem qjm.len {k:Nat} {g f:Nat → Nat} (h:qjm k g f):(fsts f k).length ≤ (fsts g k).length:=by
 rw [h.sub]; exact List.length_filter_le _ _
theorem qjm.same {k:Nat} {g f:Nat → Nat} (h:qjm k g f) (he:(fsts g k).length ≤ (fsts f k).length):qjm k f g:=by
 have hs:List.Sublist (fsts f k) (fsts g k):=by rw [h.sub]; exact List.filter_sublist
 have e:=hs.eq_of_length_le he
 have first:∀ i,i < k → ∀ a,a ≤ i → f a = f i → (∀ l,l < a → f l ≠ f a) → g i = g a:=by
  intro i hi a ha hfa hla
  obtain ⟨b,hb1,hb2,hb3⟩:=qoK g i
  have hm:b ∈ fsts f k:=by rw [e]; exact qhO.2 ⟨by omega,hb3⟩
  obtain ⟨_,hb4⟩:=qhO.1 hm
  have hfb:f b = f i:=h b i (by omega) hi hb2
  have:a = b:=by
   rcases Nat.lt_trichotomy a b with hlt | he | hlt
   ·exact absurd (hfa.trans hfb.symm) (hb4 a hlt)
   ·exact he
   ·exact absurd (hfb.trans hfa.symm) (hla b hlt)
  rw [this,hb2]
 intro i j hi hj hij
 obtain ⟨a,ha1,ha2,ha3⟩:=qoK f i
 have h1:=first i hi a ha1 ha2 ha3
 rcases Nat.le_total a j with haj | haj
 ·have h2:=first j hj a haj (ha2.trans hij) ha3
  rw [h1,h2]
 ·by_cases haj':a = j
  ·subst haj'; exact h1
  ·exact absurd (hij.symm.trans ha2.symm) (ha3 j (by omega))
def qjX (d:DFA) (g f:Nat → Nat):Prop:=∀ i j,i < sz d → j < sz d → (g i = g j ↔ f i = f j ∧ ∀ c,c < 11 → f (stp d i c) = f (stp d j c))
theorem qjX.finer {d:DFA} {g f:Nat → Nat} (h:qjX d g f):qjm (sz d) g f:=fun i j hi hj e=>((h i j hi hj).1 e).1
structure Good (d:DFA) (f:Nat → Nat):Prop where
 acc:∀ i j,i < sz d → j < sz d → f i = f j → Acc d i = Acc d j
 eqv:∀ i j,i < sz d → j < sz d → Sim d i d j → f i = f j
theorem Good.step {d:DFA} (v:WF d) {g f:Nat → Nat} (h:Good d f) (r:qjX d g f):Good d g :=
 ⟨fun i j hi hj e=>h.acc i j hi hj (r.finer i j hi hj e),fun i j hi hj s=>(r i j hi hj).2 ⟨h.eqv i j hi hj s,fun _ hc=>h.eqv _ _ (v.stp_lt hi hc) (v.stp_lt hj hc) (s.step hc)⟩⟩
def qak (d:DFA) (f:Nat → Nat):Prop:=∀ i j,i < sz d → j < sz d → (f i = f j ↔ Sim d i d j)
theorem Good.done {d:DFA} (v:WF d) {g f:Nat → Nat} (h:Good d f) (r:qjX d g f) (he:(fsts g (sz d)).length ≤ (fsts f (sz d)).length):qak d g:=by
 have hs:=r.finer.same he
 have hg:=h.step v r
 intro i j hi hj
 refine ⟨fun e=>?_,hg.eqv i j hi hj⟩
 refine qmt (fun s t=>s < sz d ∧ t < sz d ∧ g s = g t) (fun s t h=>hg.acc s t h.1 h.2.1 h.2.2) (fun s t h c hc=>?_) ⟨hi,hj,e⟩
 exact ⟨v.stp_lt h.1 hc,v.stp_lt h.2.1 hc,hs _ _ (v.stp_lt h.1 hc) (v.stp_lt h.2.1 hc) (((r s t h.1 h.2.1).1 h.2.2).2 c hc)⟩
theorem Good.of_acc (d:DFA) {f:Nat → Nat} (hf:∀ i j,i < sz d → j < sz d → (f i = f j ↔ Acc d i = Acc d j)):Good d f :=
 ⟨fun i j hi hj e=>(hf i j hi hj).1 e,fun i j hi hj s=>(hf i j hi hj).2 s.acc⟩
theorem iter_ind {σ β:Type} {body:σ → Option (σ ⊕ β)} (I:Nat → σ → Prop) (n:Nat) (Q:β → Prop) (hs:∀ i s,i < n → I i s → ∃ s',body s = some (.inl s') ∧ I (i + 1) s') (hd:∀ s,I n s → ∃ b,body s = some (.inr b) ∧ Q b) :
  ∀ N s,n < N → I 0 s → ∃ b,iter body N s = some b ∧ Q b:=by
 have key:∀ j k N s,k + j = n → j < N → I k s → ∃ b,iter body N s = some b ∧ Q b:=by
  intro j
  induction j with
  | zero =>
   intro k N s hk hN hI
   obtain ⟨N,rfl⟩:∃ M,N = M + 1:=⟨N - 1,by omega⟩
   have:k = n:=by omega
   subst this
   obtain ⟨b,h1,h2⟩:=hd s hI
   exact ⟨b,by simp only [iter,h1],h2⟩
  | succ j ih =>
   intro k N s hk hN hI
   obtain ⟨N,rfl⟩:∃ M,N = M + 1:=⟨N - 1,by omega⟩
   obtain ⟨s',h1,h2⟩:=hs k s (by omega) hI
   simp only [iter,h1]
   exact ih (k + 1) N s' (by omega) (by omega) h2
 exact fun N s hN hI=>key n 0 N s (by omega) hN hI
theorem qgv {σ β:Type} {body:σ → Option (σ ⊕ β)} (I:σ → Prop) (μ:σ → Nat) (Q:β → Prop) (h:∀ s,I s → (∃ s',body s = some (.inl s') ∧ I s' ∧ μ s' < μ s) ∨ ∃ b,body s = some (.inr b) ∧ Q b) :
  ∀ N s,μ s < N → I s → ∃ b,iter body N s = some b ∧ Q b:=by
 intro N
 induction N with
 | zero=>intro s hs; exact absurd hs (Nat.not_lt_zero _)
 | succ N ih =>
  intro s hs hI
  rcases h s hI with ⟨s',h1,h2,h3⟩ | ⟨b,h1,h2⟩
  ·simp only [iter,h1]
   exact ih s' (by omega) h2
  ·exact ⟨b,by simp only [iter,h1],h2⟩
def ints (F:List Nat):List Int:=F.map fun x:Nat=>(x:Int)
theorem qhf (F:List Nat):(ints F).length = F.length:=by simp [ints]
theorem qoB {F:List Nat} {i y:Nat} (h:F[i]? = some y):idx (ints F) (i:Int) = some (y:Int):=by
 rw [qiI]; simp [ints,h]
theorem qr2 {F:List Nat} {y:Nat} (h:F.length < 4294967296):app (ints F) [(y:Int)] = some (ints (F ++ [y])):=by
 unfold app
 rw [if_pos (by rw [qhf]; unfold LIM; simp; omega)]
 simp [ints]
theorem app_some {α:Type} {xs ys:List α} (h:xs.length + ys.length ≤ 4294967296):app xs ys = some (xs ++ ys):=by
 unfold app; rw [if_pos (by unfold LIM; exact h)]
theorem qgR {α:Type} {n:Nat} {z:α} (h:n ≤ 4294967296):mk (n:Int) z = some (List.replicate n z):=by
 unfold mk; rw [if_pos (by unfold LIM; omega)]; simp
theorem qnp {n:Nat} (h:n * 11 ≤ 4294967296):Go.X.grid (n:Int) = some (List.replicate n (List.replicate 11 0)):=by
 unfold Go.X.grid; rw [if_pos (by unfold LIM; omega)]; simp
theorem qcx {α:Type} {xs:List α} {i:Nat} {x:α} (h:i < xs.length):setI xs (i:Int) x = some (xs.set i x):=by
 unfold setI; rw [if_pos ⟨by omega,by simpa using h⟩]; simp
theorem qb9 {α:Type} {xs:List α} {i j:Nat} {x:α} (h:i < xs.length):(xs.set i x)[j]? = if j = i then some x else xs[j]?:=by
 by_cases e:j = i
 ·subst e; rw [if_pos rfl,List.getElem?_set_self h]
 ·rw [if_neg e,List.getElem?_set_ne (fun e'=>e e'.symm)]
theorem qaq {α:Type} {xs:List α} {i:Nat} {x:α} (h:xs[i]? = some x):idx xs (i:Int) = some x:=by rw [qiI,h]
theorem qc5 {α:Type} {xs:List α} {i:Nat} {x:α} (h:xs[i]? = some x):i < xs.length:=(List.getElem?_eq_some_iff.1 h).1
section
variable {α κ:Type} [DecidableEq κ] (succ:α → Nat → α) (key:α → κ) (s0:α) (okS:α → Prop)
def fnd (F:List α) (y:α) (c:Nat):List α:=if key (succ y c) ∈ F.map key then F else F ++ [succ y c]
structure Sea (F:List α) (P:Nat):Prop where
 nod:(F.map key).Nodup
 hd:F[0]? = some s0
 ok:∀ a ∈ F,okS a
 cl:∀ q,q < P → ∃ y,F[q / 11]? = some y ∧ key (succ y (q % 11)) ∈ F.map key
 nb:∀ j z,0 < j → F[j]? = some z → ∃ p y,p < P ∧ p < 11 * j ∧ F[p / 11]? = some y ∧ key (succ y (p % 11)) = key z ∧ ∀ q,q < p → ∃ y,F[q / 11]? = some y ∧ key (succ y (q % 11)) ∈ (F.take j).map key
def num (F:List α) (a:α):Nat:=(F.map key).idxOf (key a)
variable {succ key s0 okS}
theorem qfy {F:List α} {y:α} {c i:Nat} {x:α} (h:F[i]? = some x):(fnd succ key F y c)[i]? = some x:=by
 unfold fnd; split
 ·exact h
 ·rw [List.getElem?_append_left (qc5 h)]; exact h
theorem qlw {F:List α} {y:α} {c:Nat} {k:κ} (h:k ∈ F.map key):k ∈ (fnd succ key F y c).map key:=by
 unfold fnd; split
 ·exact h
 ·rw [List.map_append]; exact List.mem_append_left _ h
theorem qm2 (F:List α) (y:α) (c:Nat):key (succ y c) ∈ (fnd succ key F y c).map key:=by
 unfold fnd; split
 ·next h=>exact h
 ·rw [List.map_append]; exact List.mem_append_right _ (by simp)
end
theorem Sea.start {α κ:Type} {succ:α → Nat → α} {key:α → κ} {s0:α} {okS:α → Prop} (h:okS s0):Sea succ key s0 okS [s0] 0 :=
 ⟨by simp,rfl,fun a ha=>by simp only [List.mem_singleton] at ha; subst ha; exact h,fun q hq=>absurd hq (Nat.not_lt_zero q),fun j z hj hz=>by
  have:=qc5 hz
  simp at this; omega⟩
section
variable {α κ:Type} [DecidableEq κ] {succ:α → Nat → α} {key:α → κ} {s0:α} {okS:α → Prop}
theorem Sea.next {F:List α} {P:Nat} {y:α} (h:Sea succ key s0 okS F P) (hs:∀ a c,okS a → c < 11 → okS (succ a c)) (hy:F[P / 11]? = some y):Sea succ key s0 okS (fnd succ key F y (P % 11)) (P + 1):=by
 have hlt:=qc5 hy
 have hym:y ∈ F:=List.mem_of_getElem? hy
 refine ⟨?_,qfy h.hd,?_,?_,?_⟩
 ·unfold fnd; split
  ·exact h.nod
  ·next hn =>
   rw [List.map_append,List.nodup_append]
   refine ⟨h.nod,by simp,fun a ha b hb=>?_⟩
   simp only [List.map_cons,List.map_nil,List.mem_singleton] at hb
   subst hb
   intro e; subst e; exact hn ha
 ·intro a ha
  unfold fnd at ha
  split at ha
  ·exact h.ok a ha
  ·rcases List.mem_append.1 ha with ha | ha
   ·exact h.ok a ha
   ·simp only [List.mem_singleton] at ha; subst ha
    exact hs y _ (h.ok y hym) (Nat.mod_lt _ (by omega))
 ·intro q hq
  by_cases hqP:q = P
  ·subst hqP
   exact ⟨y,qfy hy,qm2 F y _⟩
  ·obtain ⟨z,h1,h2⟩:=h.cl q (by omega)
   exact ⟨z,qfy h1,qlw h2⟩
 ·intro j z hj hz
  by_cases hjl:j < F.length
  ·have hz':F[j]? = some z:=by
    have e:F[j]? = some F[j]:=List.getElem?_eq_getElem hjl
    have:=qfy (succ:=succ) (key:=key) (y:=y) (c:=P % 11) e
    rw [hz] at this
    rw [e,← this]
   obtain ⟨p,y',h1,h2,h3,h4,h5⟩:=h.nb j z hj hz'
   refine ⟨p,y',by omega,h2,qfy h3,h4,fun q hq=>?_⟩
   obtain ⟨y'',h6,h7⟩:=h5 q hq
   refine ⟨y'',qfy h6,?_⟩
   have:(fnd succ key F y (P % 11)).take j = F.take j:=by
    unfold fnd; split
    ·rfl
    ·rw [List.take_append_of_le_length (by omega)]
   rw [this]; exact h7
  ·unfold fnd at hz
   split at hz
   ·have:=qc5 hz; omega
   ·next hn =>
    have hjl':j = F.length:=by have:=qc5 hz; simp at this; omega
    subst hjl'
    rw [List.getElem?_append_right (Nat.le_refl _)] at hz
    simp at hz
    subst hz
    refine ⟨P,y,by omega,by omega,qfy hy,rfl,fun q hq=>?_⟩
    obtain ⟨z,h1,h2⟩:=h.cl q hq
    refine ⟨z,qfy h1,?_⟩
    have:(fnd succ key F y (P % 11)).take F.length = F:=by
     unfold fnd; rw [if_neg hn]; simp
    rw [this]; exact h2
theorem qmT {F:List α} {a:α} (h:key a ∈ F.map key):num key F a < F.length:=by
 have:=List.idxOf_lt_length_of_mem h
 simpa [num] using this
theorem qpn {F:List α} {a:α} (h:key a ∈ F.map key):∃ z,F[num key F a]? = some z ∧ key z = key a:=by
 have hl:=qmT h
 refine ⟨F[num key F a],List.getElem?_eq_getElem hl,?_⟩
 have:=List.getElem_idxOf (xs:=F.map key) (x:=key a) (by simpa [num] using hl)
 rw [List.getElem_map] at this
 exact this
theorem qtv {F:List α} (hn:(F.map key).Nodup) {a:α} {j:Nat} {z:α} (hz:F[j]? = some z) (he:key z = key a):num key F a = j:=by
 have hj:=qc5 hz
 have h1:key a ∈ F.map key:=List.mem_map.2 ⟨z,List.mem_of_getElem? hz,he⟩
 obtain ⟨z',h2,h3⟩:=qpn h1
 have h4:=qmT h1
 have e1:(F.map key)[num key F a]? = some (key a):=by rw [List.getElem?_map,h2]; simp [h3]
 have e2:(F.map key)[j]? = some (key a):=by rw [List.getElem?_map,hz]; simp [he]
 exact (List.getElem?_inj (by simpa using h4) hn).1 (e1.trans e2.symm)
theorem qlB {F:List α} {y:α} {c:Nat} {a:α} (h:key a ∈ F.map key):num key (fnd succ key F y c) a = num key F a:=by
 unfold fnd; split
 ·rfl
 ·unfold num
  rw [List.map_append,List.idxOf_append,if_pos h]
theorem qrI {F:List α} {a:α} {j:Nat} (h:key a ∈ (F.take j).map key):num key F a < j:=by
 have e:F = F.take j ++ F.drop j:=(List.take_append_drop j F).symm
 have h1:num key F a = num key (F.take j) a:=by
  unfold num
  conv=>lhs; rw [e,List.map_append]
  rw [List.idxOf_append,if_pos h]
 rw [h1]
 have:=qmT h
 have h2:(F.take j).length ≤ j:=List.length_take_le j F
 omega
theorem qg7 {F:List α} {y:α} {c:Nat} (h:key (succ y c) ∉ F.map key):num key (fnd succ key F y c) (succ y c) = F.length:=by
 unfold fnd num
 rw [if_neg h,List.map_append,List.idxOf_append]
 rw [if_neg h]
 simp
structure Found (F:List α) (R:DFA):Prop where
 len:R.Next.length = F.length
 acc:R.Accept.length = F.length
 st:R.Start = 0
 rows:∀ (i:Nat) (y:α),F[i]? = some y → ∃ row:List Int,R.Next[i]? = some row ∧ row.length = 11 ∧ ∀ c,c < 11 → row[c]? = some (num key F (succ y c):Int)
theorem Found.wf {F:List α} {R:DFA} (f:Found (succ:=succ) (key:=key) F R) (h:Sea succ key s0 okS F (11 * F.length)) (hl:F.length ≤ 4000000000):WF R:=by
 have h0:=qc5 h.hd
 refine ⟨by rw [f.len]; omega,by rw [f.len]; exact hl,by rw [f.acc,f.len],by rw [f.st]; omega,by rw [f.st,f.len]; omega,fun i hi=>?_⟩
 rw [f.len] at hi
 have e:F[i]? = some F[i]:=List.getElem?_eq_getElem hi
 obtain ⟨row,h1,h2,h3⟩:=f.rows i _ e
 refine ⟨row,h1,h2,fun c hc=>⟨_,h3 c hc,by omega,?_⟩⟩
 obtain ⟨y,g1,g2⟩:=h.cl (11 * i + c) (by omega)
 rw [show (11 * i + c) / 11 = i by omega,e] at g1
 cases g1
 rw [show (11 * i + c) % 11 = c by omega] at g2
 have:=qmT g2
 rw [f.len]; omega
theorem Found.stp {F:List α} {R:DFA} (f:Found (succ:=succ) (key:=key) F R) {i:Nat} {y:α} {c:Nat} (hy:F[i]? = some y) (hc:c < 11):Go.Proofs.YtidfofhmnlhfjaaDoor.A.stp R i c = num key F (succ y c):=by
 obtain ⟨row,h1,h2,h3⟩:=f.rows i y hy
 simp [Go.Proofs.YtidfofhmnlhfjaaDoor.A.stp,h1,h3 c hc]
theorem Found.to {F:List α} {R:DFA} (f:Found (succ:=succ) (key:=key) F R) (h:Sea succ key s0 okS F (11 * F.length)) {i:Nat} {y:α} {c:Nat} (hy:F[i]? = some y) (hc:c < 11):∃ z,F[Go.Proofs.YtidfofhmnlhfjaaDoor.A.stp R i c]? = some z ∧ key z = key (succ y c):=by
 rw [f.stp hy hc]
 have hi:=qc5 hy
 obtain ⟨y',g1,g2⟩:=h.cl (11 * i + c) (by omega)
 rw [show (11 * i + c) / 11 = i by omega,hy] at g1
 cases g1
 rw [show (11 * i + c) % 11 = c by omega] at g2
 exact qpn g2
theorem Found.numbered {F:List α} {R:DFA} (f:Found (succ:=succ) (key:=key) F R) (h:Sea succ key s0 okS F (11 * F.length)):Numbered R:=by
 refine ⟨by show R.Start.toNat = 0; rw [f.st]; rfl,fun j hj hl=>?_⟩
 have hl:j < F.length:=by rw [← f.len]; exact hl
 obtain ⟨p,y,h1,h2,h3,h4,h5⟩:=h.nb j F[j] hj (List.getElem?_eq_getElem hl)
 refine ⟨p,h2,?_,fun q hq=>?_⟩
 ·unfold pos
  rw [f.stp h3 (by omega)]
  exact qtv h.nod (List.getElem?_eq_getElem hl) h4.symm
 ·obtain ⟨y',h6,h7⟩:=h5 q hq
  unfold pos
  rw [f.stp h6 (by omega)]
  exact qrI h7
theorem Found.sim {F:List α} {R:DFA} (f:Found (succ:=succ) (key:=key) F R) (h:Sea succ key s0 okS F (11 * F.length)) {d:DFA} {g:α → Nat} (ha:∀ i y,F[i]? = some y → Acc R i = Acc d (g y))
  (hk:∀ a b,okS a → okS b → key a = key b → Sim d (g a) d (g b)) (hs:∀ a c,okS a → c < 11 → okS (succ a c)) (hg:∀ a c,okS a → c < 11 → g (succ a c) = Go.Proofs.YtidfofhmnlhfjaaDoor.A.stp d (g a) c)
  {i:Nat} {y:α} (hy:F[i]? = some y):Sim R i d (g y):=by
 refine qmt (fun s t=>∃ y,F[s]? = some y ∧ Sim d (g y) d t) (fun s t ⟨y,h1,h2⟩=>?_) (fun s t ⟨y,h1,h2⟩ c hc=>?_) ⟨y,hy,Sim.refl _ _⟩
 ·rw [ha s y h1]; exact h2.acc
 ·obtain ⟨z,h3,h4⟩:=f.to h h1 hc
  have hy:=h.ok y (List.mem_of_getElem? h1)
  refine ⟨z,h3,(hk z _ (h.ok z (List.mem_of_getElem? h3)) (hs y c hy hc) h4).trans ?_⟩
  rw [hg y c hy hc]
  exact h2.step hc
end
def tabN {κ:Type}:Nat → List κ → List (κ × Int)
 | _,[]=>[]
 | n,k :: ks=>(k,(n:Int)) :: tabN (n + 1) ks
theorem qfk {κ:Type}:∀ (ks:List κ) (n:Nat),(tabN n ks).length = ks.length
 | [],_=>rfl
 | k :: ks,n=>by simp [tabN,qfk ks]
theorem qhi {κ:Type} [DecidableEq κ]:∀ (ks:List κ) (n:Nat) (k:κ),mget (tabN n ks) k = if k ∈ ks then some ((n + ks.idxOf k:Nat):Int) else none
 | [],n,k=>by simp [tabN,mget]
 | x :: ks,n,k=>by
  have ih:=qhi ks (n + 1) k
  unfold mget at ih ⊢
  by_cases e:k = x
  ·subst e; simp [tabN]
  ·rw [tabN,List.find?_cons_of_neg (by simpa using e),ih]
   have e':¬ x = k:=fun h=>e h.symm
   by_cases h:k ∈ ks
   ·rw [if_pos h,if_pos (List.mem_cons_of_mem _ h),List.idxOf_cons]
    have:(x == k) = false:=by simpa using e'
    rw [this]
    simp only [cond_false]
    congr 1; omega
   ·rw [if_neg h,if_neg (by simp [e,h])]
theorem qhk {κ:Type} [DecidableEq κ]:∀ (ks:List κ) (n:Nat) (k:κ),k ∉ ks → mput (tabN n ks) k ((n + ks.length:Nat):Int) = tabN n (ks ++ [k])
 | [],n,k,_=>by simp [tabN,mput]
 | x :: ks,n,k,h=>by
  simp only [List.mem_cons,not_or] at h
  have ih:=qhk ks (n + 1) k h.2
  simp only [tabN,mput,List.cons_append]
  rw [if_neg (by simpa using h.1)]
  rw [← ih]
  simp only [List.length_cons]
  rw [show n + (ks.length + 1) = n + 1 + ks.length by omega]
theorem qnq:∀ (n:Nat) (l:List Nat),(∀ m,m < n → m ∈ l) → n ≤ l.length
 | 0,_,_=>Nat.zero_le _
 | n + 1,l,h=>by
  have h1:=qnq n (l.erase n) fun m hm=>(List.mem_erase_of_ne (by omega)).2 (h m (by omega))
  have hm:=h n (Nat.lt_succ_self n)
  rw [List.length_erase_of_mem hm] at h1
  have:=List.length_pos_of_mem hm
  omega
structure Labels {κ:Type} [DecidableEq κ] (kind:Nat → κ) (k:Nat) (ks:List κ):Prop where
 nod:ks.Nodup
 from_:∀ x ∈ ks,∃ j,j < k ∧ kind j = x
 all:∀ j,j < k → kind j ∈ ks
section
variable {κ:Type} [DecidableEq κ] {kind:Nat → κ} {k:Nat} {ks:List κ}
theorem Labels.lt (h:Labels kind k ks) {j:Nat} (hj:j < k):ks.idxOf (kind j) < ks.length:=List.idxOf_lt_length_of_mem (h.all j hj)
theorem Labels.eq_iff (h:Labels kind k ks) {i j:Nat} (hi:i < k) (hj:j < k):ks.idxOf (kind i) = ks.idxOf (kind j) ↔ kind i = kind j:=by
 refine ⟨fun e=>?_,fun e=>by rw [e]⟩
 have h1:=List.getElem_idxOf (h.lt hi)
 have h2:=List.getElem_idxOf (h.lt hj)
 rw [← h1,← h2]
 congr 1
theorem Labels.onto (h:Labels kind k ks) {m:Nat} (hm:m < ks.length):∃ j,j < k ∧ ks.idxOf (kind j) = m:=by
 obtain ⟨j,h1,h2⟩:=h.from_ ks[m] (List.getElem_mem hm)
 refine ⟨j,h1,?_⟩
 rw [h2]
 exact h.nod.idxOf_getElem m hm
theorem Labels.fsts (h:Labels kind k ks) {g:Nat → Nat} (hg:∀ j,j < k → g j = ks.idxOf (kind j)):(fsts g k).length = ks.length:=by
 have hinj:∀ a ∈ Go.Proofs.YtidfofhmnlhfjaaDoor.A.fsts g k,∀ b ∈ Go.Proofs.YtidfofhmnlhfjaaDoor.A.fsts g k,g a = g b → a = b:=by
  intro a ha b hb e
  obtain ⟨h1,h2⟩:=qhO.1 ha
  obtain ⟨h3,h4⟩:=qhO.1 hb
  rcases Nat.lt_trichotomy a b with h5 | h5 | h5
  ·exact absurd e (h4 a h5)
  ·exact h5
  ·exact absurd e.symm (h2 b h5)
 have hnod:(Go.Proofs.YtidfofhmnlhfjaaDoor.A.fsts g k).Nodup:=List.nodup_range.filter _
 have hnod':((Go.Proofs.YtidfofhmnlhfjaaDoor.A.fsts g k).map g).Nodup:=by
  unfold List.Nodup at hnod ⊢
  rw [List.pairwise_map]
  exact hnod.imp_of_mem fun {a b} ha hb hab e=>hab (hinj a ha b hb e)
 have h1:=qiS ks.length _ hnod' fun x hx=>by
  obtain ⟨a,ha,rfl⟩:=List.mem_map.1 hx
  obtain ⟨h1,_⟩:=qhO.1 ha
  rw [hg a h1]; exact h.lt h1
 have h2:=qnq ks.length ((Go.Proofs.YtidfofhmnlhfjaaDoor.A.fsts g k).map g) fun m hm=>by
  obtain ⟨j,h1,h2⟩:=h.onto hm
  obtain ⟨a,h3,h4,h5⟩:=qoK g j
  refine List.mem_map.2 ⟨a,qhO.2 ⟨by omega,h5⟩,?_⟩
  rw [h4,hg j h1,h2]
 rw [List.length_map] at h1 h2
 omega
end
structure Round (d:DFA) (f g:Nat → Nat) (n:Nat):Prop where
 ref:qjX d g f
 cnt:(fsts g (sz d)).length = n
 lt:∀ j,j < sz d → g j < n
 onto:∀ m,m < n → ∃ j,j < sz d ∧ g j = m
theorem Labels.round {κ:Type} [DecidableEq κ] {kind:Nat → κ} {d:DFA} {ks:List κ} (h:Labels kind (sz d) ks) {f:Nat → Nat}
  (hk:∀ i j,i < sz d → j < sz d → (kind i = kind j ↔ f i = f j ∧ ∀ c,c < 11 → f (stp d i c) = f (stp d j c))):Round d f (fun j=>ks.idxOf (kind j)) ks.length :=
 ⟨fun i j hi hj=>(h.eq_iff hi hj).trans (hk i j hi hj),h.fsts fun _ _=>rfl,fun j hj=>h.lt hj,fun m hm=>h.onto hm⟩
def Lab (k:Nat) (l:List Int) (f:Nat → Nat):Prop:=l.length = k ∧ ∀ s,s < k → l[s]? = some (f s:Int)
def qnS (f:Nat → Nat):Arr11_Int:=⟨f 0,f 1,f 2,f 3,f 4,f 5,f 6,f 7,f 8,f 9,f 10⟩
def qdp (d:DFA) (f:Nat → Nat) (i:Nat):Key:=⟨f i,qnS fun c=>f (stp d i c)⟩
theorem qsh {p:Nat → Prop}:(∀ c,c < 11 → p c) ↔ p 0 ∧ p 1 ∧ p 2 ∧ p 3 ∧ p 4 ∧ p 5 ∧ p 6 ∧ p 7 ∧ p 8 ∧ p 9 ∧ p 10:=by
 constructor
 ·intro h
  exact ⟨h 0 (by omega),h 1 (by omega),h 2 (by omega),h 3 (by omega),h 4 (by omega),h 5 (by omega),h 6 (by omega),h 7 (by omega),h 8 (by omega),h 9 (by omega),h 10 (by omega)⟩
 ·rintro ⟨h0,h1,h2,h3,h4,h5,h6,h7,h8,h9,h10⟩ c hc
  match c,hc with
  | 0,_=>exact h0
  | 1,_=>exact h1
  | 2,_=>exact h2
  | 3,_=>exact h3
  | 4,_=>exact h4
  | 5,_=>exact h5
  | 6,_=>exact h6
  | 7,_=>exact h7
  | 8,_=>exact h8
  | 9,_=>exact h9
  | 10,_=>exact h10
  | n + 11,h=>omega
theorem qnE (d:DFA) (f:Nat → Nat) (i j:Nat):qdp d f i = qdp d f j ↔ f i = f j ∧ ∀ c,c < 11 → f (stp d i c) = f (stp d j c):=by
 rw [qsh]
 simp [qdp,qnS,Int.ofNat_inj]
theorem qra:∀ (l:List Int),l.length = 11 → ∃ z,Arr11_Int.of l = some z ∧ z.list = l
 | [_,_,_,_,_,_,_,_,_,_,_],_=>⟨_,rfl,rfl⟩
theorem qkX {a b:Arr11_Int} (h:a.list = b.list):a = b:=by
 cases a; cases b
 simp [Arr11_Int.list] at h
 simp [h]
theorem qnt (f:Nat → Nat) (c:Nat) (hc:c < 11):(qnS f).list[c]? = some (f c:Int):=by
 have:=(qsh (p:=fun c=>(qnS f).list[c]? = some (f c:Int))).2 ⟨rfl,rfl,rfl,rfl,rfl,rfl,rfl,rfl,rfl,rfl,rfl⟩
 exact this c hc
structure MinOk (d R:DFA):Prop where
 can:Canon R
 sim:Sim R (st0 R) d (st0 d)
 le:sz R ≤ sz d
theorem MinOk.unique {d e A B:DFA} (a:MinOk d A) (b:MinOk e B) (h:Sim d (st0 d) e (st0 e)):A = B:=a.can.unique b.can ((a.sim.trans h).trans b.sim.symm)
end A
end Go.Proofs.YtidfofhmnlhfjaaDoor
namespace Go.Proofs.YtidfofhmnlhfjaaDoor
namespace A
open Go.X
theorem qhn {α:Type} {F F':List α} {i:Nat} {y:α} (h:F <+: F') (hy:F[i]? = some y):F'[i]? = some y:=by
 obtain ⟨G,rfl⟩:=h
 rw [List.getElem?_append_left (qc5 hy)]
 exact hy
theorem qlL {α:Type} [DecidableEq α] {F F':List α} {a:α} (h:F <+: F') (ha:a ∈ F):num (fun a=>a) F' a = num (fun a=>a) F a:=by
 obtain ⟨G,rfl⟩:=h
 unfold num
 rw [List.map_id'' (fun _=>rfl),List.map_id'' (fun _=>rfl),List.idxOf_append,if_pos ha]
theorem qlH (a:Arr11_Int) {c:Nat} (hc:c < 11):∃ x,Arr11_Int.get a (c:Int) = some x:=by
 unfold Arr11_Int.get
 exact ⟨_,qeW a.list (by show c < 11; exact hc)⟩
theorem qhP (a:Arr11_Int) {c:Nat} (hc:c < 11) (v:Int):∃ z,Arr11_Int.set a (c:Int) v = some z ∧ z.list = a.list.set c v:=by
 unfold Arr11_Int.set
 rw [qcx (by show c < 11; exact hc),Option.bind_some]
 exact qra _ (by rw [List.length_set]; rfl)
def toD (t:Table):DFA:=⟨0,t.next.map Arr11_Int.list,t.accept⟩
theorem toD_len (t:Table):(toD t).Next.length = t.next.length:=by unfold toD; simp
theorem dfa_eq {N:Nat} {t:Table} (hl:t.next.length ≤ 4000000000) (hN:t.next.length < N):qeu N t = some (toD t):=by
 unfold qeu
 obtain ⟨b,h1,h2⟩:=iter_ind (body:=fun s=>qc1 N t s.1 s.2) (fun i s=>s = ((i:Int),DFA.mk 0 ((t.next.take i).map Arr11_Int.list) t.accept)) t.next.length (fun o=>o = toD t) (by
   rintro i s hi rfl
   have hg:=List.getElem?_eq_getElem hi
   simp only [qc1]
   rw [cond_pos (by omega),qaq hg,Option.bind_some,app_some (by rw [List.length_map,List.length_take]; simp; omega)]
   refine ⟨_,rfl,?_⟩
   rw [List.take_succ_eq_append_getElem hi,List.map_append]
   simp [Arr11_Int.list])
  (by
   rintro s rfl
   simp only [qc1]
   rw [cond_neg (by omega)]
   refine ⟨_,rfl,?_⟩
   unfold toD
   rw [List.take_length]) N (0,DFA.mk 0 [] t.accept) hN rfl
 have h1':iter (fun s=>qc1 N t s.1 s.2) N (0,(DFA.mk 0 ([]) t.accept)) = some b:=h1
 rw [h1',h2]
 rfl
def qfs {α:Type} [DecidableEq α] (succ:α → Nat → α) (accf:α → Bool) (F:List α) (i:Nat) (t:Table):Prop :=
 t.next.length = i ∧ t.accept.length = i ∧ ∀ j y,j < i → F[j]? = some y → t.accept[j]? = some (accf y) ∧ ∃ a,t.next[j]? = some a ∧ ∀ c,c < 11 → a.list[c]? = some (num (fun a=>a) F (succ y c):Int) ∧ succ y c ∈ F
section
variable {α:Type} [DecidableEq α] {succ:α → Nat → α} {accf:α → Bool} {F F':List α} {i:Nat} {t:Table}
theorem qfs.nil:qfs succ accf F 0 (Table.mk [] []):=⟨rfl,rfl,fun j y hj=>absurd hj (Nat.not_lt_zero j)⟩
theorem qfs.add (h:qfs succ accf F i t) (hp:F <+: F') {y:α} (hy:F[i]? = some y) {a:Arr11_Int} (ha:∀ e,e < 11 → a.list[e]? = some (num (fun a=>a) F' (succ y e):Int) ∧ succ y e ∈ F'):qfs succ accf F' (i + 1) (Table.mk (t.next ++ [a]) (t.accept ++ [accf y])):=by
 obtain ⟨h1,h2,h3⟩:=h
 refine ⟨by simp [h1],by simp [h2],fun j z hj hz=>?_⟩
 by_cases e:j = i
 ·subst e
  rw [qhn hp hy] at hz
  cases hz
  refine ⟨by simp only []; rw [List.getElem?_append_right (by omega),h2]; simp,a,by simp only []; rw [List.getElem?_append_right (by omega),h1]; simp,ha⟩
 ·have hjl:j < F.length:=by have:=qc5 hy; omega
  have hz0:F[j]? = some F[j]:=List.getElem?_eq_getElem hjl
  rw [qhn hp hz0] at hz
  cases hz
  obtain ⟨g1,b,g2,g3⟩:=h3 j _ (by omega) hz0
  refine ⟨by simp only []; rw [List.getElem?_append_left (by omega)]; exact g1,b,by simp only []; rw [List.getElem?_append_left (by omega)]; exact g2,fun c hc=>?_⟩
  obtain ⟨g4,g5⟩:=g3 c hc
  exact ⟨by rw [g4,qlL hp g5],hp.subset g5⟩
theorem qfs.found (h:qfs succ accf F F.length t):Found (succ:=succ) (key:=fun a=>a) F (toD t):=by
 obtain ⟨h1,h2,h3⟩:=h
 refine ⟨by rw [toD_len,h1],h2,rfl,fun j y hy=>?_⟩
 obtain ⟨_,a,g1,g2⟩:=h3 j y (qc5 hy) hy
 exact ⟨a.list,by unfold toD; simp [g1],rfl,fun c hc=>(g2 c hc).1⟩
theorem qfs.accOf (h:qfs succ accf F F.length t):∀ j y,F[j]? = some y → Acc (toD t) j = accf y:=by
 intro j y hy
 obtain ⟨g1,_⟩:=h.2.2 j y (qc5 hy) hy
 unfold Acc toD
 rw [g1]
 rfl
def mlang {α:Type} (succ:α → Nat → α) (accf:α → Bool):α → List Nat → Bool
 | s,[]=>accf s
 | s,c :: w=>mlang succ accf (succ s c) w
theorem Found.mach {s0:α} {okS:α → Prop} {R:DFA} (f:Found (succ:=succ) (key:=fun a=>a) F R) (h:Sea succ (fun a=>a) s0 okS F (11 * F.length)) (ha:∀ j y,F[j]? = some y → Acc R j = accf y) :
  ∀ (w:List Nat) (j:Nat) (y:α),Word w → F[j]? = some y → lang R j w = mlang succ accf y w
 | [],j,y,_,hy=>ha j y hy
 | c :: w,j,y,hw,hy=>by
  obtain ⟨hc,hw'⟩:=hw.tail
  obtain ⟨z,h1,h2⟩:=f.to h hy hc
  have h2:z = succ y c:=h2
  show lang R (Go.Proofs.YtidfofhmnlhfjaaDoor.A.stp R j c) w = mlang succ accf (succ y c) w
  rw [← h2]
  exact Found.mach f h ha w _ z hw' h1
end
theorem Sea.le {α:Type} {succ:α → Nat → α} {F:List α} {s0:α} {okS:α → Prop} {P B:Nat} (h:Sea succ (fun a=>a) s0 okS F P) (enc:α → Nat) (hB:∀ a,okS a → enc a < B) (hi:∀ a b,okS a → okS b → enc a = enc b → a = b):F.length ≤ B:=by
 have hn:=h.nod
 rw [List.map_id'' (fun _=>rfl)] at hn
 have hn':(F.map enc).Nodup:=by
  unfold List.Nodup at hn ⊢
  rw [List.pairwise_map]
  exact hn.imp_of_mem fun {a b} ha hb hab e=>hab (hi a b (h.ok a ha) (h.ok b hb) e)
 have:=qiS B _ hn' fun x hx=>by
  obtain ⟨a,ha,rfl⟩:=List.mem_map.1 hx
  exact hB a (h.ok a ha)
 simpa using this
theorem qsS {x0:List Relation} {succ:Reading → Nat → Reading} {okS:Reading → Prop} {s0:Reading} {N B:Nat} (hstep:∀ (a:Reading) (c:Nat),okS a → c < 11 → qce N a c x0 = some (succ a c)) (hcl:∀ a c,okS a → c < 11 → okS (succ a c)) (hB:∀ F P,Sea succ (fun a=>a) s0 okS F P → F.length ≤ B) (hBL:B ≤ 4000000000) (hN:12 ≤ N)
  {F:List Reading} {i:Nat} {y:Reading} (hS:Sea succ (fun a=>a) s0 okS F (11 * i)) (hy:F[i]? = some y) :
  ∃ a F',iter (fun s=>qa2 N x0 (i:Int) s.1 s.2.1 s.2.2.1 s.2.2.2) N (F,0,(Arr11_Int.mk 0 0 0 0 0 0 0 0 0 0 0),tabN 0 F) = some (a,tabN 0 F',F') ∧ F <+: F' ∧ Sea succ (fun a=>a) s0 okS F' (11 * (i + 1)) ∧ ∀ e,e < 11 → a.list[e]? = some (num (fun a=>a) F' (succ y e):Int) ∧ succ y e ∈ F':=by
 have hoy:okS y:=hS.ok y (List.mem_of_getElem? hy)
 obtain ⟨o,h1,a,F',rfl,h2,h3,h4⟩:=iter_ind (body:=fun s=>qa2 N x0 (i:Int) s.1 s.2.1 s.2.2.1 s.2.2.2) (fun c s=>∃ F' a,s = (F',(c:Int),a,tabN 0 F') ∧ F <+: F' ∧ Sea succ (fun a=>a) s0 okS F' (11 * i + c) ∧ ∀ e,e < c → a.list[e]? = some (num (fun a=>a) F' (succ y e):Int) ∧ succ y e ∈ F') 11
  (fun o=>∃ a F',o = (a,tabN 0 F',F') ∧ F <+: F' ∧ Sea succ (fun a=>a) s0 okS F' (11 * (i + 1)) ∧ ∀ e,e < 11 → a.list[e]? = some (num (fun a=>a) F' (succ y e):Int) ∧ succ y e ∈ F') (by
   rintro c s hc ⟨F',a,rfl,hp,hS',hr⟩
   have hy':F'[i]? = some y:=qhn hp hy
   have hnx:=hS'.next hcl (by rw [show (11 * i + c) / 11 = i by omega]; exact hy')
   rw [show (11 * i + c) % 11 = c by omega] at hnx
   have hlen:=hB _ _ hnx
   obtain ⟨x0',hx0⟩:=qlH a hc
   simp only [qa2]
   rw [cond_pos (by omega),qaq hy',Option.bind_some,hstep y c hoy hc,Option.bind_some,qhi]
   by_cases hm:succ y c ∈ F'
   ·rw [if_pos hm]
    obtain ⟨z,hz,hzl⟩:=qhP a hc (num (fun a=>a) F' (succ y c):Int)
    have hnum:((0 + F'.idxOf (succ y c):Nat):Int) = (num (fun a=>a) F' (succ y c):Int):=by unfold num; rw [List.map_id'',Nat.zero_add]; intro _; rfl
    simp only [Option.isSome_some,Bool.not_true,cond_false,Option.getD_some,hx0,Option.bind_some]
    rw [hnum,hz,Option.bind_some]
    have hf:fnd succ (fun a=>a) F' y c = F':=by unfold fnd; rw [if_pos (by rw [List.map_id'' (fun _=>rfl)]; exact hm)]
    rw [hf] at hnx
    refine ⟨_,rfl,F',z,by simp,hp,hnx,fun e he=>?_⟩
    rw [hzl,qb9 (by show c < 11; exact hc)]
    by_cases e':e = c
    ·subst e'; rw [if_pos rfl]; exact ⟨rfl,hm⟩
    ·rw [if_neg e']; exact hr e (by omega)
   ·rw [if_neg hm]
    have hf:fnd succ (fun a=>a) F' y c = F' ++ [succ y c]:=by unfold fnd; rw [if_neg (by rw [List.map_id'' (fun _=>rfl)]; exact hm)]
    rw [hf] at hnx hlen
    rw [List.length_append,List.length_singleton] at hlen
    have hms:mset (tabN 0 F') (succ y c) (F'.length:Int) = some (tabN 0 (F' ++ [succ y c])):=by
     unfold mset
     rw [if_pos (by rw [qfk]; unfold LIM; omega)]
     have:=qhk F' 0 _ hm
     rw [Nat.zero_add] at this
     rw [this]
    obtain ⟨z,hz,hzl⟩:=qhP a hc (F'.length:Int)
    simp only [Option.isSome_none,Bool.not_false,cond_true]
    rw [hms,Option.bind_some,app_some (by simp; omega),Option.bind_some,hx0,Option.bind_some,hz,Option.bind_some]
    refine ⟨_,rfl,F' ++ [succ y c],z,by simp,hp.trans (List.prefix_append _ _),hnx,fun e he=>?_⟩
    rw [hzl,qb9 (by show c < 11; exact hc)]
    by_cases e':e = c
    ·subst e'
     rw [if_pos rfl]
     refine ⟨?_,by simp⟩
     have:=qg7 (succ:=succ) (key:=fun a=>a) (F:=F') (y:=y) (c:=e) (by rw [List.map_id'' (fun _=>rfl)]; exact hm)
     rw [hf] at this
     rw [this]
    ·rw [if_neg e']
     obtain ⟨g1,g2⟩:=hr e (by omega)
     exact ⟨by rw [g1,qlL (List.prefix_append _ _) g2],List.mem_append_left _ g2⟩)
  (by
   rintro s ⟨F',a,rfl,hp,hS',hr⟩
   simp only [qa2]
   rw [cond_neg (by omega)]
   exact ⟨_,rfl,a,F',rfl,hp,hS',hr⟩) N (F,0,(Arr11_Int.mk 0 0 0 0 0 0 0 0 0 0 0),tabN 0 F) (by omega) ⟨F,_,rfl,List.prefix_rfl,hS,fun e he=>absurd he (Nat.not_lt_zero e)⟩
 exact ⟨a,F',h1,h2,h3,h4⟩
theorem seaR_eq {x0:List Relation} {x1:List (List Relation)} {succ:Reading → Nat → Reading} {accf:Reading → Bool} {okS:Reading → Prop} {s0:Reading} {N B:Nat} (hstep:∀ (a:Reading) (c:Nat),okS a → c < 11 → qce N a c x0 = some (succ a c)) (hacc:∀ a,okS a → qcD N a x1 x0 = some (accf a)) (h0:okS s0) (hcl:∀ a c,okS a → c < 11 → okS (succ a c)) (hB:∀ F P,Sea succ (fun a=>a) s0 okS F P → F.length ≤ B) (hBL:B ≤ 4000000000) (hN:B + 12 ≤ N) :
  ∃ t F,qbJ N s0 x0 x1 = some t ∧ Sea succ (fun a=>a) s0 okS F (11 * F.length) ∧ Found (succ:=succ) (key:=fun a=>a) F (toD t) ∧ (∀ i y,F[i]? = some y → Acc (toD t) i = accf y) ∧ F.length ≤ B:=by
 unfold qbJ
 have hm0:mset ([]:List (Reading × Int)) s0 0 = some (tabN 0 [s0]):=by unfold mset; rw [if_pos (by unfold LIM; simp)]; rfl
 rw [hm0,Option.bind_some]
 obtain ⟨b,h1,F,hS,hq⟩:=qgv (body:=fun s=>qbd N x0 x1 s.1 s.2.1 s.2.2.1 s.2.2.2) (fun s=>∃ F i t,s = (F,((i:Nat):Int),t,tabN 0 F) ∧ i ≤ F.length ∧ Sea succ (fun a=>a) s0 okS F (11 * i) ∧ qfs succ accf F i t) (fun s=>B + 1 - s.2.1.toNat)
  (fun t=>∃ F,Sea succ (fun a=>a) s0 okS F (11 * F.length) ∧ qfs succ accf F F.length t) (by
   rintro s ⟨F,i,t,rfl,hi,hS,hT⟩
   have hFB:=hB _ _ hS
   simp only [qbd]
   by_cases hlt:i < F.length
   ·left
    obtain ⟨y,hy⟩:∃ y,F[i]? = some y:=⟨_,List.getElem?_eq_getElem hlt⟩
    obtain ⟨a,F',g1,g2,g3,g4⟩:=qsS hstep hcl hB hBL (by omega:12 ≤ N) hS hy
    rw [cond_pos (by omega),g1,Option.bind_some]
    have hF'B:=hB _ _ g3
    have hpl:=g2.length_le
    rw [app_some (by rw [hT.1]; simp; omega),Option.bind_some]
    simp only []
    rw [qaq (qhn g2 hy),Option.bind_some,hacc y (hS.ok y (List.mem_of_getElem? hy)),Option.bind_some,app_some (by rw [hT.2.1]; simp; omega)]
    refine ⟨_,rfl,⟨F',i + 1,_,by simp,by omega,g3,hT.add g2 hy g4⟩,?_⟩
    simp only [Int.toNat_natCast]
    omega
   ·right
    rw [cond_neg (by omega)]
    obtain rfl:i = F.length:=by omega
    exact ⟨_,rfl,F,hS,hT⟩) N (([s0]:List Reading),0,Table.mk [] [],tabN 0 [s0]) (by simp only []; omega) ⟨[s0],0,_,rfl,by simp,Sea.start h0,qfs.nil⟩
 have h1':iter (fun s=>qbd N x0 x1 s.1 s.2.1 s.2.2.1 s.2.2.2) N (([s0]:List Reading),0,(Table.mk ([]) ([])),tabN 0 [s0]) = some b:=h1
 rw [h1']
 exact ⟨b,F,rfl,hS,hq.found,hq.accOf,hB _ _ hS⟩
theorem qsJ {x0:List Int} {x1:Table} {x2:List Int} {succ:Int → Nat → Int} {okS:Int → Prop} {s0:Int} {N B:Nat} (hstep:∀ (a:Int) (c:Nat),okS a → c < 11 → qc6 N a c x0 x1 x2 = some (succ a c)) (hcl:∀ a c,okS a → c < 11 → okS (succ a c)) (hB:∀ F P,Sea succ (fun a=>a) s0 okS F P → F.length ≤ B) (hBL:B ≤ 4000000000) (hN:12 ≤ N)
  {F:List Int} {i:Nat} {y:Int} (hS:Sea succ (fun a=>a) s0 okS F (11 * i)) (hy:F[i]? = some y) :
  ∃ a F',iter (fun s=>qby N x0 x1 x2 (i:Int) s.1 s.2.1 s.2.2.1 s.2.2.2) N (F,0,(Arr11_Int.mk 0 0 0 0 0 0 0 0 0 0 0),tabN 0 F) = some (a,tabN 0 F',F') ∧ F <+: F' ∧ Sea succ (fun a=>a) s0 okS F' (11 * (i + 1)) ∧ ∀ e,e < 11 → a.list[e]? = some (num (fun a=>a) F' (succ y e):Int) ∧ succ y e ∈ F':=by
 have hoy:okS y:=hS.ok y (List.mem_of_getElem? hy)
 obtain ⟨o,h1,a,F',rfl,h2,h3,h4⟩:=iter_ind (body:=fun s=>qby N x0 x1 x2 (i:Int) s.1 s.2.1 s.2.2.1 s.2.2.2) (fun c s=>∃ F' a,s = (F',(c:Int),a,tabN 0 F') ∧ F <+: F' ∧ Sea succ (fun a=>a) s0 okS F' (11 * i + c) ∧ ∀ e,e < c → a.list[e]? = some (num (fun a=>a) F' (succ y e):Int) ∧ succ y e ∈ F') 11
  (fun o=>∃ a F',o = (a,tabN 0 F',F') ∧ F <+: F' ∧ Sea succ (fun a=>a) s0 okS F' (11 * (i + 1)) ∧ ∀ e,e < 11 → a.list[e]? = some (num (fun a=>a) F' (succ y e):Int) ∧ succ y e ∈ F') (by
   rintro c s hc ⟨F',a,rfl,hp,hS',hr⟩
   have hy':F'[i]? = some y:=qhn hp hy
   have hnx:=hS'.next hcl (by rw [show (11 * i + c) / 11 = i by omega]; exact hy')
   rw [show (11 * i + c) % 11 = c by omega] at hnx
   have hlen:=hB _ _ hnx
   obtain ⟨x0',hx0⟩:=qlH a hc
   simp only [qby]
   rw [cond_pos (by omega),qaq hy',Option.bind_some,hstep y c hoy hc,Option.bind_some,qhi]
   by_cases hm:succ y c ∈ F'
   ·rw [if_pos hm]
    obtain ⟨z,hz,hzl⟩:=qhP a hc (num (fun a=>a) F' (succ y c):Int)
    have hnum:((0 + F'.idxOf (succ y c):Nat):Int) = (num (fun a=>a) F' (succ y c):Int):=by unfold num; rw [List.map_id'',Nat.zero_add]; intro _; rfl
    simp only [Option.isSome_some,Bool.not_true,cond_false,Option.getD_some,hx0,Option.bind_some]
    rw [hnum,hz,Option.bind_some]
    have hf:fnd succ (fun a=>a) F' y c = F':=by unfold fnd; rw [if_pos (by rw [List.map_id'' (fun _=>rfl)]; exact hm)]
    rw [hf] at hnx
    refine ⟨_,rfl,F',z,by simp,hp,hnx,fun e he=>?_⟩
    rw [hzl,qb9 (by show c < 11; exact hc)]
    by_cases e':e = c
    ·subst e'; rw [if_pos rfl]; exact ⟨rfl,hm⟩
    ·rw [if_neg e']; exact hr e (by omega)
   ·rw [if_neg hm]
    have hf:fnd succ (fun a=>a) F' y c = F' ++ [succ y c]:=by unfold fnd; rw [if_neg (by rw [List.map_id'' (fun _=>rfl)]; exact hm)]
    rw [hf] at hnx hlen
    rw [List.length_append,List.length_singleton] at hlen
    have hms:mset (tabN 0 F') (succ y c) (F'.length:Int) = some (tabN 0 (F' ++ [succ y c])):=by
     unfold mset
     rw [if_pos (by rw [qfk]; unfold LIM; omega)]
     have:=qhk F' 0 _ hm
     rw [Nat.zero_add] at this
     rw [this]
    obtain ⟨z,hz,hzl⟩:=qhP a hc (F'.length:Int)
    simp only [Option.isSome_none,Bool.not_false,cond_true]
    rw [hms,Option.bind_some,app_some (by simp; omega),Option.bind_some,hx0,Option.bind_some,hz,Option.bind_some]
    refine ⟨_,rfl,F' ++ [succ y c],z,by simp,hp.trans (List.prefix_append _ _),hnx,fun e he=>?_⟩
    rw [hzl,qb9 (by show c < 11; exact hc)]
    by_cases e':e = c
    ·subst e'
     rw [if_pos rfl]
     refine ⟨?_,by simp⟩
     have:=qg7 (succ:=succ) (key:=fun a=>a) (F:=F') (y:=y) (c:=e) (by rw [List.map_id'' (fun _=>rfl)]; exact hm)
     rw [hf] at this
     rw [this]
    ·rw [if_neg e']
     obtain ⟨g1,g2⟩:=hr e (by omega)
     exact ⟨by rw [g1,qlL (List.prefix_append _ _) g2],List.mem_append_left _ g2⟩)
  (by
   rintro s ⟨F',a,rfl,hp,hS',hr⟩
   simp only [qby]
   rw [cond_neg (by omega)]
   exact ⟨_,rfl,a,F',rfl,hp,hS',hr⟩) N (F,0,(Arr11_Int.mk 0 0 0 0 0 0 0 0 0 0 0),tabN 0 F) (by omega) ⟨F,_,rfl,List.prefix_rfl,hS,fun e he=>absurd he (Nat.not_lt_zero e)⟩
 exact ⟨a,F',h1,h2,h3,h4⟩
theorem qsz {x0:List Int} {x1:Table} {x2:List Int} {succ:Int → Nat → Int} {accf:Int → Bool} {okS:Int → Prop} {s0:Int} {N B:Nat} (hstep:∀ (a:Int) (c:Nat),okS a → c < 11 → qc6 N a c x0 x1 x2 = some (succ a c)) (hacc:∀ a,okS a → qd2 N a x1 x2 = some (accf a)) (h0:okS s0) (hcl:∀ a c,okS a → c < 11 → okS (succ a c)) (hB:∀ F P,Sea succ (fun a=>a) s0 okS F P → F.length ≤ B) (hBL:B ≤ 4000000000) (hN:B + 12 ≤ N) :
  ∃ t F,qcO N s0 x0 x1 x2 = some t ∧ Sea succ (fun a=>a) s0 okS F (11 * F.length) ∧ Found (succ:=succ) (key:=fun a=>a) F (toD t) ∧ (∀ i y,F[i]? = some y → Acc (toD t) i = accf y) ∧ F.length ≤ B:=by
 unfold qcO
 have hm0:mset ([]:List (Int × Int)) s0 0 = some (tabN 0 [s0]):=by unfold mset; rw [if_pos (by unfold LIM; simp)]; rfl
 rw [hm0,Option.bind_some]
 obtain ⟨b,h1,F,hS,hq⟩:=qgv (body:=fun s=>qbU N x0 x1 x2 s.1 s.2.1 s.2.2.1 s.2.2.2) (fun s=>∃ F i t,s = (F,((i:Nat):Int),t,tabN 0 F) ∧ i ≤ F.length ∧ Sea succ (fun a=>a) s0 okS F (11 * i) ∧ qfs succ accf F i t) (fun s=>B + 1 - s.2.1.toNat)
  (fun t=>∃ F,Sea succ (fun a=>a) s0 okS F (11 * F.length) ∧ qfs succ accf F F.length t) (by
   rintro s ⟨F,i,t,rfl,hi,hS,hT⟩
   have hFB:=hB _ _ hS
   simp only [qbU]
   by_cases hlt:i < F.length
   ·left
    obtain ⟨y,hy⟩:∃ y,F[i]? = some y:=⟨_,List.getElem?_eq_getElem hlt⟩
    obtain ⟨a,F',g1,g2,g3,g4⟩:=qsJ hstep hcl hB hBL (by omega:12 ≤ N) hS hy
    rw [cond_pos (by omega),g1,Option.bind_some]
    have hF'B:=hB _ _ g3
    have hpl:=g2.length_le
    rw [app_some (by rw [hT.1]; simp; omega),Option.bind_some]
    simp only []
    rw [qaq (qhn g2 hy),Option.bind_some,hacc y (hS.ok y (List.mem_of_getElem? hy)),Option.bind_some,app_some (by rw [hT.2.1]; simp; omega)]
    refine ⟨_,rfl,⟨F',i + 1,_,by simp,by omega,g3,hT.add g2 hy g4⟩,?_⟩
    simp only [Int.toNat_natCast]
    omega
   ·right
    rw [cond_neg (by omega)]
    obtain rfl:i = F.length:=by omega
    exact ⟨_,rfl,F,hS,hT⟩) N (([s0]:List Int),0,Table.mk [] [],tabN 0 [s0]) (by simp only []; omega) ⟨[s0],0,_,rfl,by simp,Sea.start h0,qfs.nil⟩
 have h1':iter (fun s=>qbU N x0 x1 x2 s.1 s.2.1 s.2.2.1 s.2.2.2) N (([s0]:List Int),0,(Table.mk ([]) ([])),tabN 0 [s0]) = some b:=h1
 rw [h1']
 exact ⟨b,F,rfl,hS,hq.found,hq.accOf,hB _ _ hS⟩
theorem qta {succ:DigitsRead → Nat → DigitsRead} {okS:DigitsRead → Prop} {s0:DigitsRead} {N B:Nat} (hstep:∀ (a:DigitsRead) (c:Nat),okS a → c < 11 → qaT N a c = some (succ a c)) (hcl:∀ a c,okS a → c < 11 → okS (succ a c)) (hB:∀ F P,Sea succ (fun a=>a) s0 okS F P → F.length ≤ B) (hBL:B ≤ 4000000000) (hN:12 ≤ N)
  {F:List DigitsRead} {i:Nat} {y:DigitsRead} (hS:Sea succ (fun a=>a) s0 okS F (11 * i)) (hy:F[i]? = some y) :
  ∃ a F',iter (fun s=>qaY N  (i:Int) s.1 s.2.1 s.2.2.1 s.2.2.2) N (F,0,(Arr11_Int.mk 0 0 0 0 0 0 0 0 0 0 0),tabN 0 F) = some (a,tabN 0 F',F') ∧ F <+: F' ∧ Sea succ (fun a=>a) s0 okS F' (11 * (i + 1)) ∧ ∀ e,e < 11 → a.list[e]? = some (num (fun a=>a) F' (succ y e):Int) ∧ succ y e ∈ F':=by
 have hoy:okS y:=hS.ok y (List.mem_of_getElem? hy)
 obtain ⟨o,h1,a,F',rfl,h2,h3,h4⟩:=iter_ind (body:=fun s=>qaY N  (i:Int) s.1 s.2.1 s.2.2.1 s.2.2.2) (fun c s=>∃ F' a,s = (F',(c:Int),a,tabN 0 F') ∧ F <+: F' ∧ Sea succ (fun a=>a) s0 okS F' (11 * i + c) ∧ ∀ e,e < c → a.list[e]? = some (num (fun a=>a) F' (succ y e):Int) ∧ succ y e ∈ F') 11
  (fun o=>∃ a F',o = (a,tabN 0 F',F') ∧ F <+: F' ∧ Sea succ (fun a=>a) s0 okS F' (11 * (i + 1)) ∧ ∀ e,e < 11 → a.list[e]? = some (num (fun a=>a) F' (succ y e):Int) ∧ succ y e ∈ F') (by
   rintro c s hc ⟨F',a,rfl,hp,hS',hr⟩
   have hy':F'[i]? = some y:=qhn hp hy
   have hnx:=hS'.next hcl (by rw [show (11 * i + c) / 11 = i by omega]; exact hy')
   rw [show (11 * i + c) % 11 = c by omega] at hnx
   have hlen:=hB _ _ hnx
   obtain ⟨x0',hx0⟩:=qlH a hc
   simp only [qaY]
   rw [cond_pos (by omega),qaq hy',Option.bind_some,hstep y c hoy hc,Option.bind_some,qhi]
   by_cases hm:succ y c ∈ F'
   ·rw [if_pos hm]
    obtain ⟨z,hz,hzl⟩:=qhP a hc (num (fun a=>a) F' (succ y c):Int)
    have hnum:((0 + F'.idxOf (succ y c):Nat):Int) = (num (fun a=>a) F' (succ y c):Int):=by unfold num; rw [List.map_id'',Nat.zero_add]; intro _; rfl
    simp only [Option.isSome_some,Bool.not_true,cond_false,Option.getD_some,hx0,Option.bind_some]
    rw [hnum,hz,Option.bind_some]
    have hf:fnd succ (fun a=>a) F' y c = F':=by unfold fnd; rw [if_pos (by rw [List.map_id'' (fun _=>rfl)]; exact hm)]
    rw [hf] at hnx
    refine ⟨_,rfl,F',z,by simp,hp,hnx,fun e he=>?_⟩
    rw [hzl,qb9 (by show c < 11; exact hc)]
    by_cases e':e = c
    ·subst e'; rw [if_pos rfl]; exact ⟨rfl,hm⟩
    ·rw [if_neg e']; exact hr e (by omega)
   ·rw [if_neg hm]
    have hf:fnd succ (fun a=>a) F' y c = F' ++ [succ y c]:=by unfold fnd; rw [if_neg (by rw [List.map_id'' (fun _=>rfl)]; exact hm)]
    rw [hf] at hnx hlen
    rw [List.length_append,List.length_singleton] at hlen
    have hms:mset (tabN 0 F') (succ y c) (F'.length:Int) = some (tabN 0 (F' ++ [succ y c])):=by
     unfold mset
     rw [if_pos (by rw [qfk]; unfold LIM; omega)]
     have:=qhk F' 0 _ hm
     rw [Nat.zero_add] at this
     rw [this]
    obtain ⟨z,hz,hzl⟩:=qhP a hc (F'.length:Int)
    simp only [Option.isSome_none,Bool.not_false,cond_true]
    rw [hms,Option.bind_some,app_some (by simp; omega),Option.bind_some,hx0,Option.bind_some,hz,Option.bind_some]
    refine ⟨_,rfl,F' ++ [succ y c],z,by simp,hp.trans (List.prefix_append _ _),hnx,fun e he=>?_⟩
    rw [hzl,qb9 (by show c < 11; exact hc)]
    by_cases e':e = c
    ·subst e'
     rw [if_pos rfl]
     refine ⟨?_,by simp⟩
     have:=qg7 (succ:=succ) (key:=fun a=>a) (F:=F') (y:=y) (c:=e) (by rw [List.map_id'' (fun _=>rfl)]; exact hm)
     rw [hf] at this
     rw [this]
    ·rw [if_neg e']
     obtain ⟨g1,g2⟩:=hr e (by omega)
     exact ⟨by rw [g1,qlL (List.prefix_append _ _) g2],List.mem_append_left _ g2⟩)
  (by
   rintro s ⟨F',a,rfl,hp,hS',hr⟩
   simp only [qaY]
   rw [cond_neg (by omega)]
   exact ⟨_,rfl,a,F',rfl,hp,hS',hr⟩) N (F,0,(Arr11_Int.mk 0 0 0 0 0 0 0 0 0 0 0),tabN 0 F) (by omega) ⟨F,_,rfl,List.prefix_rfl,hS,fun e he=>absurd he (Nat.not_lt_zero e)⟩
 exact ⟨a,F',h1,h2,h3,h4⟩
theorem seaD_eq {succ:DigitsRead → Nat → DigitsRead} {accf:DigitsRead → Bool} {okS:DigitsRead → Prop} {s0:DigitsRead} {N B:Nat} (hstep:∀ (a:DigitsRead) (c:Nat),okS a → c < 11 → qaT N a c = some (succ a c)) (hacc:∀ a,okS a → qdS N a = some (accf a)) (h0:okS s0) (hcl:∀ a c,okS a → c < 11 → okS (succ a c)) (hB:∀ F P,Sea succ (fun a=>a) s0 okS F P → F.length ≤ B) (hBL:B ≤ 4000000000) (hN:B + 12 ≤ N) :
  ∃ t F,qbq N s0  = some t ∧ Sea succ (fun a=>a) s0 okS F (11 * F.length) ∧ Found (succ:=succ) (key:=fun a=>a) F (toD t) ∧ (∀ i y,F[i]? = some y → Acc (toD t) i = accf y) ∧ F.length ≤ B:=by
 unfold qbq
 have hm0:mset ([]:List (DigitsRead × Int)) s0 0 = some (tabN 0 [s0]):=by unfold mset; rw [if_pos (by unfold LIM; simp)]; rfl
 rw [hm0,Option.bind_some]
 obtain ⟨b,h1,F,hS,hq⟩:=qgv (body:=fun s=>qa4 N  s.1 s.2.1 s.2.2.1 s.2.2.2) (fun s=>∃ F i t,s = (F,((i:Nat):Int),t,tabN 0 F) ∧ i ≤ F.length ∧ Sea succ (fun a=>a) s0 okS F (11 * i) ∧ qfs succ accf F i t) (fun s=>B + 1 - s.2.1.toNat)
  (fun t=>∃ F,Sea succ (fun a=>a) s0 okS F (11 * F.length) ∧ qfs succ accf F F.length t) (by
   rintro s ⟨F,i,t,rfl,hi,hS,hT⟩
   have hFB:=hB _ _ hS
   simp only [qa4]
   by_cases hlt:i < F.length
   ·left
    obtain ⟨y,hy⟩:∃ y,F[i]? = some y:=⟨_,List.getElem?_eq_getElem hlt⟩
    obtain ⟨a,F',g1,g2,g3,g4⟩:=qta hstep hcl hB hBL (by omega:12 ≤ N) hS hy
    rw [cond_pos (by omega),g1,Option.bind_some]
    have hF'B:=hB _ _ g3
    have hpl:=g2.length_le
    rw [app_some (by rw [hT.1]; simp; omega),Option.bind_some]
    simp only []
    rw [qaq (qhn g2 hy),Option.bind_some,hacc y (hS.ok y (List.mem_of_getElem? hy)),Option.bind_some,app_some (by rw [hT.2.1]; simp; omega)]
    refine ⟨_,rfl,⟨F',i + 1,_,by simp,by omega,g3,hT.add g2 hy g4⟩,?_⟩
    simp only [Int.toNat_natCast]
    omega
   ·right
    rw [cond_neg (by omega)]
    obtain rfl:i = F.length:=by omega
    exact ⟨_,rfl,F,hS,hT⟩) N (([s0]:List DigitsRead),0,Table.mk [] [],tabN 0 [s0]) (by simp only []; omega) ⟨[s0],0,_,rfl,by simp,Sea.start h0,qfs.nil⟩
 have h1':iter (fun s=>qa4 N  s.1 s.2.1 s.2.2.1 s.2.2.2) N (([s0]:List DigitsRead),0,(Table.mk ([]) ([])),tabN 0 [s0]) = some b:=h1
 rw [h1']
 exact ⟨b,F,rfl,hS,hq.found,hq.accOf,hB _ _ hS⟩
end A
end Go.Proofs.YtidfofhmnlhfjaaDoor
namespace Go.Proofs.YtidfofhmnlhfjaaDoor
namespace A
open Go.X
section
variable {t:Table}
theorem qpG {i:Nat} {row:List Int} (h:(toD t).Next[i]? = some row):∃ a,t.next[i]? = some a ∧ a.list = row:=by
 unfold toD at h
 simp only [List.getElem?_map,Option.map_eq_some_iff] at h
 exact h
theorem mKey (v:WF (toD t)) (M:Nat) {f:Nat → Nat} {l:List Int} (hl:Lab (sz (toD t)) l f) {i:Nat} (hi:i < sz (toD t)) {a:Arr11_Int} (ha:t.next[i]? = some a) (N:Nat) (hN:12 ≤ N) :
  iter (fun s=>qb4 M l a s.1 s.2) N (0,Key.mk (f i) (Arr11_Int.mk 0 0 0 0 0 0 0 0 0 0 0)) = some (qdp (toD t) f i):=by
 have hrow:(toD t).Next[i]? = some a.list:=by unfold toD; simp [ha]
 suffices h:∃ o,iter (fun s=>qb4 M l a s.1 s.2) N (0,Key.mk (f i) (Arr11_Int.mk 0 0 0 0 0 0 0 0 0 0 0)) = some o ∧ o = qdp (toD t) f i by
  obtain ⟨o,h1,h2⟩:=h
  rw [h1,h2]
 refine iter_ind (body:=fun s=>qb4 M l a s.1 s.2) (fun c s=>∃ b:Arr11_Int,s = ((c:Int),Key.mk (f i) b) ∧ ∀ e,e < c → b.list[e]? = some (f (stp (toD t) i e):Int)) 11 (fun o=>o = qdp (toD t) f i) ?_ ?_ N (0,Key.mk (f i) (Arr11_Int.mk 0 0 0 0 0 0 0 0 0 0 0)) (by omega) ⟨_,rfl,fun e he=>absurd he (Nat.not_lt_zero e)⟩
 ·rintro c s hc ⟨b,rfl,h⟩
  obtain ⟨row',h1,h2,h3⟩:=v.step hi hc
  rw [hrow] at h1; cases h1
  simp only [qb4]
  rw [cond_pos (by omega),show ([(a.e0:Int),(a.e1:Int),(a.e2:Int),(a.e3:Int),(a.e4:Int),(a.e5:Int),(a.e6:Int),(a.e7:Int),(a.e8:Int),(a.e9:Int),(a.e10:Int)]:List Int) = a.list from rfl,qaq h2]
  simp only [Option.bind_some]
  rw [qaq (hl.2 _ h3)]
  obtain ⟨x,hx⟩:=qlH b hc
  obtain ⟨z,h4,h5⟩:=qhP b hc (f (stp (toD t) i c):Int)
  simp only [Option.bind_some]
  rw [hx,Option.bind_some,h4,Option.bind_some]
  refine ⟨_,rfl,z,by simp,fun e he=>?_⟩
  rw [h5,qb9 (by show c < 11; exact hc)]
  by_cases e':e = c
  ·subst e'; rw [if_pos rfl]
  ·rw [if_neg e']; exact h e (by omega)
 ·rintro s ⟨b,rfl,h⟩
  simp only [qb4]
  rw [cond_neg (by omega)]
  refine ⟨_,rfl,?_⟩
  simp only [qdp]
  congr 1
  apply qkX
  apply List.ext_getElem?
  intro e
  by_cases he:e < 11
  ·rw [h e he,qnt _ e he]
  ·rw [List.getElem?_eq_none (by show 11 ≤ e; omega),List.getElem?_eq_none (by show 11 ≤ e; omega)]
theorem qtL (v:WF (toD t)) (M:Nat) (hM:12 ≤ M) {f:Nat → Nat} {l:List Int} (hl:Lab (sz (toD t)) l f) (fi:List Int) (hfi:fi.length = sz (toD t)) (N:Nat) (hN:sz (toD t) < N) :
  ∃ o,iter (fun s=>qcW M t l s.1 s.2.1 s.2.2) N (0,([]:List (Key × Int)),fi) = some o ∧ ∃ g,Lab (sz (toD t)) o.2 g ∧ Round (toD t) f g o.1.length:=by
 have hszt:sz (toD t) = t.next.length:=toD_len t
 refine iter_ind (fun i s=>∃ ks l',s = ((i:Int),tabN 0 ks,l') ∧ Labels (qdp (toD t) f) i ks ∧ l'.length = sz (toD t) ∧ ∀ j,j < i → l'[j]? = some ((ks.idxOf (qdp (toD t) f j):Nat):Int)) (sz (toD t)) _ ?_ ?_ N _ hN
  ⟨[],fi,rfl,⟨List.nodup_nil,(fun x hx=>by cases hx),fun j hj=>absurd hj (Nat.not_lt_zero j)⟩,hfi,fun j hj=>absurd hj (Nat.not_lt_zero j)⟩
 ·rintro i s hi ⟨ks,l',rfl,h1,h2,h3⟩
  obtain ⟨row,g1,g2⟩:=v.rows i hi
  obtain ⟨a,ga,_⟩:=qpG g1
  have hmost:=v.most
  have hkl:ks.length ≤ i:=by
   have:=h1.fsts (g:=fun j=>ks.idxOf (qdp (toD t) f j)) (fun _ _=>rfl)
   rw [← this]; exact qhT _ _
  simp only [qcW]
  rw [cond_pos (by omega),qaq ga]
  simp only [Option.bind_some]
  rw [qaq (hl.2 i hi)]
  simp only [Option.bind_some]
  rw [mKey v M hl hi ga M hM]
  simp only [Option.bind_some,qfk,qhi]
  by_cases hm:qdp (toD t) f i ∈ ks
  ·rw [if_pos hm]
   simp only [Option.isSome_some,Bool.not_true,cond_false,Option.bind_some,Option.getD_some,Nat.zero_add]
   rw [qeW l' (by omega)]
   simp only [Option.bind_some]
   rw [qcx (by omega)]
   simp only [Option.bind_some]
   refine ⟨_,rfl,ks,_,by simp; rfl,⟨h1.nod,fun x hx=>?_,fun j hj=>?_⟩,by simpa using h2,fun j hj=>?_⟩
   ·obtain ⟨j,e1,e2⟩:=h1.from_ x hx
    exact ⟨j,by omega,e2⟩
   ·by_cases e:j = i
    ·subst e; exact hm
    ·exact h1.all j (by omega)
   ·rw [qb9 (by omega)]
    by_cases e:j = i
    ·subst e; rw [if_pos rfl]
    ·rw [if_neg e]; exact h3 j (by omega)
  ·rw [if_neg hm]
   simp only [Option.isSome_none,Bool.not_false,cond_true]
   have hms:mset (tabN 0 ks) (qdp (toD t) f i) ((ks.length:Nat):Int) = some (tabN 0 (ks ++ [qdp (toD t) f i])):=by
    unfold mset
    rw [if_pos (by rw [qfk]; unfold LIM; unfold sz at hi; omega)]
    have:=qhk ks 0 _ hm
    rw [Nat.zero_add] at this
    rw [this]
   rw [hms]
   simp only [Option.bind_some]
   rw [qeW l' (by omega)]
   simp only [Option.bind_some]
   rw [qcx (by omega)]
   simp only [Option.bind_some]
   refine ⟨_,rfl,ks ++ [qdp (toD t) f i],_,by simp; rfl,⟨?_,fun x hx=>?_,fun j hj=>?_⟩,by simpa using h2,fun j hj=>?_⟩
   ·rw [List.nodup_append]
    refine ⟨h1.nod,by simp,fun a ha b hb=>?_⟩
    simp only [List.mem_singleton] at hb
    subst hb
    intro e; subst e; exact hm ha
   ·rcases List.mem_append.1 hx with hx | hx
    ·obtain ⟨j,e1,e2⟩:=h1.from_ x hx
     exact ⟨j,by omega,e2⟩
    ·simp only [List.mem_singleton] at hx
     exact ⟨i,by omega,hx.symm⟩
   ·by_cases e:j = i
    ·subst e; simp
    ·exact List.mem_append_left _ (h1.all j (by omega))
   ·rw [qb9 (by omega)]
    by_cases e:j = i
    ·subst e; rw [if_pos rfl,List.idxOf_append,if_neg hm]; simp
    ·rw [if_neg e,h3 j (by omega),List.idxOf_append,if_pos (h1.all j (by omega))]
 ·rintro s ⟨ks,l',rfl,h1,h2,h3⟩
  simp only [qcW]
  rw [cond_neg (by omega)]
  refine ⟨_,rfl,fun j=>ks.idxOf (qdp (toD t) f j),⟨h2,h3⟩,?_⟩
  simp only [qfk]
  exact h1.round fun i j _ _=>qnE (toD t) f i j
theorem qtM (v:WF (toD t)) (N:Nat) (hN:sz (toD t) < N):∃ l,iter (fun s=>qck N t s.1 s.2) N (0,List.replicate (sz (toD t)) 0) = some l ∧ Lab (sz (toD t)) l (fun i=>if Acc (toD t) i then 1 else 0):=by
 have hacc:t.accept.length = sz (toD t):=v.acc
 refine iter_ind (fun i s=>∃ l:List Int,s = ((i:Int),l) ∧ l.length = sz (toD t) ∧ ∀ j,j < sz (toD t) → l[j]? = some (if j < i ∧ Acc (toD t) j then 1 else 0)) (sz (toD t)) _ ?_ ?_ N _ hN ⟨_,rfl,by simp,fun j hj=>by simp [hj]⟩
 ·rintro i s hi ⟨l,rfl,h1,h2⟩
  have ha:t.accept[i]? = some (Acc (toD t) i):=v.Acc_some hi
  simp only [qck]
  rw [cond_pos (by omega),qaq ha]
  simp only [Option.bind_some]
  cases hA:Acc (toD t) i with
  | false =>
   refine ⟨_,rfl,l,by simp,h1,fun j hj=>?_⟩
   rw [h2 j hj]
   by_cases e:j = i
   ·subst e; simp [hA]
   ·have:(j < i ∧ Acc (toD t) j = true) ↔ (j < i + 1 ∧ Acc (toD t) j = true):=by constructor <;> rintro ⟨a,b⟩ <;> exact ⟨by omega,b⟩
    simp only [this]
  | true =>
   simp only [cond_true]
   rw [qeW l (by omega)]
   simp only [Option.bind_some]
   rw [qcx (by omega)]
   refine ⟨_,rfl,_,by simp; rfl,by simpa using h1,fun j hj=>?_⟩
   rw [qb9 (by omega)]
   by_cases e:j = i
   ·subst e; simp [hA]
   ·rw [if_neg e,h2 j hj]
    have:(j < i ∧ Acc (toD t) j = true) ↔ (j < i + 1 ∧ Acc (toD t) j = true):=by constructor <;> rintro ⟨a,b⟩ <;> exact ⟨by omega,b⟩
    simp only [this]
 ·rintro s ⟨l,rfl,h1,h2⟩
  simp only [qck]
  rw [cond_neg (by omega)]
  refine ⟨_,rfl,h1,fun j hj=>?_⟩
  rw [h2 j hj]
  congr 1
  cases hA:Acc (toD t) j <;> simp [hj,hA]
theorem ql9 (v:WF (toD t)) (N:Nat) (hN:sz (toD t) + 12 < N) {l0:List Int} (h0:Lab (sz (toD t)) l0 (fun i=>if Acc (toD t) i then 1 else 0)) :
  ∃ (l:List Int) (n:Nat) (g:Nat → Nat),iter (fun s=>qb3 N t s.1 s.2) N (0,l0) = some (l,(n:Int)) ∧ Lab (sz (toD t)) l g ∧ qak (toD t) g ∧ (∀ j,j < sz (toD t) → g j < n) ∧ (∀ m,m < n → ∃ j,j < sz (toD t) ∧ g j = m) ∧ n ≤ sz (toD t):=by
 have hmost:=v.most
 have hone:=v.one
 suffices h:∃ o',iter (fun s=>qb3 N t s.1 s.2) N (0,l0) = some o' ∧ ∃ (l:List Int) (n:Nat) (g:Nat → Nat),o' = (l,(n:Int)) ∧ Lab (sz (toD t)) l g ∧ qak (toD t) g ∧ ∃ f,Round (toD t) f g n by
  obtain ⟨o',g1,l,n,g,rfl,g2,g3,g4⟩:=h
  obtain ⟨f,hr⟩:=g4
  refine ⟨l,n,g,g1,g2,g3,hr.lt,hr.onto,?_⟩
  rw [← hr.cnt]; exact qhT _ _
 refine qgv (body:=fun s=>qb3 N t s.1 s.2) (fun s=>∃ f,Lab (sz (toD t)) s.2 f ∧ (s.1 = 0 ∨ s.1 = ((fsts f (sz (toD t))).length:Int)) ∧ Good (toD t) f) (fun s=>sz (toD t) + 1 - s.1.toNat)
  (fun o=>∃ (l:List Int) (n:Nat) (g:Nat → Nat),o = (l,(n:Int)) ∧ Lab (sz (toD t)) l g ∧ qak (toD t) g ∧ ∃ f,Round (toD t) f g n) ?_ N (0,l0) (by simp only []; omega) ⟨_,h0,.inl rfl,Good.of_acc (toD t) fun i j _ _=>by
   cases Acc (toD t) i <;> cases Acc (toD t) j <;> simp⟩
 ·rintro ⟨c,l⟩ ⟨f,h4,hc,h6⟩
  simp only [qb3]
  have hll:=h4.1
  simp only [] at hll hc
  rw [hll,qgR (by unfold sz; omega)]
  simp only [Option.bind_some]
  obtain ⟨o2,e1,g,e2,e3⟩:=qtL v N (by omega) h4 (List.replicate (sz (toD t)) 0) (by simp) N (by omega)
  simp only [] at e1
  rw [e1]
  simp only [Option.bind_some]
  rw [qok]
  have hpos:0 < o2.1.length:=by
   have:=e3.lt 0 hone
   omega
  have h8:=qhT g (sz (toD t))
  rw [e3.cnt] at h8
  by_cases he:(o2.1.length:Int) = c
  ·right
   rw [if_pos he]
   have hcf:c = ((fsts f (sz (toD t))).length:Int):=by
    rcases hc with rfl | hc
    ·omega
    ·exact hc
   refine ⟨_,rfl,o2.2,o2.1.length,g,by rw [he],e2,h6.done v e3.ref (by rw [e3.cnt]; omega),f,e3⟩
  ·left
   rw [if_neg he]
   refine ⟨_,rfl,⟨g,e2,.inr (by rw [e3.cnt]),h6.step v e3.ref⟩,?_⟩
   have h7:=e3.ref.finer.len
   rw [e3.cnt] at h7
   simp only [Int.toNat_natCast]
   rcases hc with rfl | hc
   ·simp only [Int.toNat_zero]; omega
   ·subst hc
    simp only [Int.toNat_natCast]
    omega
theorem qtg {g:Nat → Nat} {l:List Int} {n k:Nat} (hl:Lab k l g) (hlt:∀ j,j < k → g j < n) (hk:k ≤ 4000000000) (z:Int) (N:Nat) (hN:k < N) :
  ∃ x,iter (fun s=>qcl N (l,z) s.1 s.2) N ((k:Int) - 1,List.replicate n 0) = some x ∧ x.length = n ∧ ∀ j,j < k → ∃ r,r < k ∧ g r = g j ∧ x[g j]? = some (r:Int):=by
 refine iter_ind (fun i s=>∃ x:List Int,s = ((k:Int) - i - 1,x) ∧ x.length = n ∧ ∀ j,k - i ≤ j → j < k → ∃ r,r < k ∧ g r = g j ∧ x[g j]? = some (r:Int)) k _ ?_ ?_ N _ hN ⟨List.replicate n 0,by simp,by simp,fun j h1 h2=>by omega⟩
 ·rintro i s hi ⟨x,rfl,h1,h2⟩
  simp only [qcl]
  obtain ⟨p,hp⟩:∃ p,p = k - i - 1:=⟨_,rfl⟩
  have hpe:(k:Int) - i - 1 = (p:Int):=by omega
  have hpk:p < k:=by omega
  have hgp:=hlt p hpk
  rw [hpe,cond_pos (by omega),qaq (hl.2 p hpk)]
  simp only [Option.bind_some]
  rw [qeW x (by omega)]
  simp only [Option.bind_some]
  rw [qcx (by omega)]
  simp only [Option.bind_some]
  have hw:IntKind.wrap .i64 ((p:Int) - 1) = (p:Int) - 1:=qfd (qfz.2 ⟨by omega,by omega⟩)
  refine ⟨_,rfl,x.set (g p) (p:Int),by rw [hw]; simp; omega,by simpa using h1,fun j h3 h4=>?_⟩
  by_cases e:g j = g p
  ·exact ⟨p,hpk,e.symm,by rw [e,qb9 (by omega),if_pos rfl]⟩
  ·have hne:j ≠ p:=fun h=>e (by rw [h])
   obtain ⟨r,g1,g2,g3⟩:=h2 j (by omega) h4
   exact ⟨r,g1,g2,by rw [qb9 (by omega),if_neg e]; exact g3⟩
 ·rintro s ⟨x,rfl,h1,h2⟩
  simp only [qcl]
  rw [cond_neg (by omega)]
  exact ⟨_,rfl,h1,fun j hj=>h2 j (by omega) hj⟩
theorem merged_eq (v:WF (toD t)) (N:Nat) (hN:sz (toD t) + 24 < N):∃ R,qdG N t = some R ∧ MinOk (toD t) (toD R) ∧ R.next.length = R.accept.length:=by
 have hmost:=v.most
 have hone:=v.one
 have hszt:sz (toD t) = t.next.length:=toD_len t
 unfold qdG
 obtain ⟨l0,a1,a2⟩:=qtM v N (by omega)
 rw [← hszt,qgR (by unfold sz; omega),Option.bind_some]
 have a1':iter (fun s=>qck N t s.1 s.2) N (0,List.replicate (sz (toD t)) (0:Int)) = some l0:=a1
 rw [a1',Option.bind_some]
 obtain ⟨l,n,g,b1,b2,b3,b4,b5,b6⟩:=ql9 v N (by omega) a2
 have b1':iter (fun s=>qb3 N t s.1 s.2) N (0,l0) = some (l,(n:Int)):=b1
 rw [b1',Option.bind_some]
 have hll:l.length = sz (toD t):=b2.1
 obtain ⟨x,c1,c2,c3⟩:=qtg b2 b4 (by unfold sz at *; omega) (n:Int) N (by omega)
 simp only []
 rw [qgR (by unfold sz at *; omega),Option.bind_some]
 have hw:IntKind.wrap .i64 ((l.length:Int) - 1) = (sz (toD t):Int) - 1:=by rw [hll]; exact qfd (qfz.2 ⟨by omega,by unfold sz at *; omega⟩)
 rw [hw]
 have c1':iter (fun s=>qcl N (l,(n:Int)) s.1 s.2) N ((sz (toD t):Int) - 1,List.replicate n (0:Int)) = some x:=c1
 rw [c1',Option.bind_some,show (0:Int) = ((0:Nat):Int) from rfl,qaq (b2.2 0 hone),Option.bind_some]
 -- a state of each class
 have hr:∀ m,∃ r,m < n → r < sz (toD t) ∧ g r = m ∧ x[m]? = some (r:Int):=fun m=>by
  by_cases h:m < n
  ·obtain ⟨j,h1,h2⟩:=b5 m h
   obtain ⟨r,h3,h4,h5⟩:=c3 j h1
   exact ⟨r,fun _=>⟨h3,by rw [h4,h2],by rw [← h2]; exact h5⟩⟩
  ·exact ⟨0,fun h'=>absurd h' h⟩
 obtain ⟨r,hr⟩:∃ r:Nat → Nat,∀ m,m < n → r m < sz (toD t) ∧ g (r m) = m ∧ x[m]? = some (r m:Int):=⟨fun m=>Classical.choose (hr m),fun m=>Classical.choose_spec (hr m)⟩
 have hstp:∀ m c,m < n → c < 11 → stp (toD t) (r m) c < sz (toD t):=fun m c hm hc=>v.stp_lt (hr m hm).1 hc
 obtain ⟨R,F,d1,d2,d3,d4,d5⟩:=qsz (succ:=fun (a:Int) (c:Nat)=>((g (stp (toD t) (r a.toNat) c):Nat):Int)) (accf:=fun a=>Acc (toD t) (r a.toNat)) (okS:=fun a=>∃ m:Nat,m < n ∧ a = (m:Int)) (s0:=((g 0:Nat):Int)) (N:=N) (B:=n) (x0:=l) (x1:=t) (x2:=x)
  (by
   rintro a c ⟨m,hm,rfl⟩ hc
   obtain ⟨r1,r2,r3⟩:=hr m hm
   obtain ⟨row,s1,s2,s3⟩:=v.step r1 hc
   obtain ⟨ar,s4,s5⟩:=qpG s1
   unfold qc6 Arr11_Int.get
   rw [qaq r3,Option.bind_some,qaq s4,Option.bind_some,s5,qaq s2,Option.bind_some,qaq (b2.2 _ s3),Int.toNat_natCast]
   rfl)
  (by
   rintro a ⟨m,hm,rfl⟩
   obtain ⟨r1,r2,r3⟩:=hr m hm
   have ha:t.accept[r m]? = some (Acc (toD t) (r m)):=v.Acc_some r1
   unfold qd2
   rw [qaq r3,Option.bind_some,qaq ha,Int.toNat_natCast]
   rfl)
  ⟨g 0,b4 0 hone,rfl⟩
  (by
   rintro a c ⟨m,hm,rfl⟩ hc
   simp only [Int.toNat_natCast]
   exact ⟨_,b4 _ (hstp m c hm hc),rfl⟩)
  (fun F P h=>Sea.le h Int.toNat (by rintro a ⟨m,hm,rfl⟩; simpa using hm) (by rintro a b ⟨m,hm,rfl⟩ ⟨m',hm',rfl⟩ e; exact congrArg _ (show m = m' by simpa using e)))
  (by unfold sz at *; omega) (by omega)
 rw [d1]
 refine ⟨R,rfl,?_,?_⟩
 ·have hF:∀ j y,F[j]? = some y → ∃ m:Nat,m < n ∧ y = (m:Int):=fun j y hy=>d2.ok y (List.mem_of_getElem? hy)
  have hcls:∀ j,j < sz (toD t) → Sim (toD t) (r (g j)) (toD t) j:=fun j hj=>by
   obtain ⟨r1,r2,_⟩:=hr (g j) (b4 j hj)
   exact (b3 _ j r1 hj).1 r2
  have hsim:∀ j y,F[j]? = some y → Sim (toD R) j (toD t) (r y.toNat):=by
   intro j y hy
   refine qmt (fun s u=>∃ y,F[s]? = some y ∧ Sim (toD t) (r y.toNat) (toD t) u) (fun s u ⟨y,h1,h2⟩=>?_) (fun s u ⟨y,h1,h2⟩ c hc=>?_) ⟨y,hy,Sim.refl _ _⟩
   ·rw [d4 s y h1]; exact h2.acc
   ·obtain ⟨z,h3,h4⟩:=d3.to d2 h1 hc
    obtain ⟨m,hm,rfl⟩:=hF s y h1
    have h4:z = ((g (stp (toD t) (r m) c):Nat):Int):=by simpa using h4
    subst h4
    refine ⟨_,h3,?_⟩
    rw [Int.toNat_natCast]
    rw [Int.toNat_natCast] at h2
    exact (hcls _ (hstp m c hm hc)).trans (h2.step hc)
  have hd0:F[0]? = some ((g 0:Nat):Int):=d2.hd
  refine ⟨⟨d3.wf d2 (by unfold sz at *; omega),d3.numbered d2,fun s u hs hu h=>?_⟩,?_,?_⟩
  ·have hlen:sz (toD R) = F.length:=d3.len
   have e1:F[s]? = some F[s]:=List.getElem?_eq_getElem (by omega)
   have e2:F[u]? = some F[u]:=List.getElem?_eq_getElem (by omega)
   obtain ⟨m,hm,f1⟩:=hF s _ e1
   obtain ⟨m',hm',f2⟩:=hF u _ e2
   have k1:=hsim s _ e1
   have k2:=hsim u _ e2
   rw [f1,Int.toNat_natCast] at k1
   rw [f2,Int.toNat_natCast] at k2
   have k3:=(b3 _ _ (hr m hm).1 (hr m' hm').1).2 ((k1.symm.trans h).trans k2)
   rw [(hr m hm).2.1,(hr m' hm').2.1] at k3
   have hn:=d2.nod
   rw [List.map_id'' (fun _=>rfl)] at hn
   refine (List.getElem?_inj (by omega) hn).1 ?_
   rw [e1,e2,f1,f2,k3]
  ·have k:=hsim 0 _ hd0
   rw [Int.toNat_natCast] at k
   exact k.trans (hcls 0 hone)
  ·show (toD R).Next.length ≤ _
   rw [d3.len]; unfold sz at *; omega
 ·have h1:=d3.len
  have h2:=d3.acc
  rw [toD_len] at h1
  have h2:R.accept.length = F.length:=h2
  omega
end
end A
end Go.Proofs.YtidfofhmnlhfjaaDoor
namespace Go.X
def scan (p:List UInt8 → Bool):List UInt8 → Nat
 | []=>0
 | b :: l=>if p (b :: l) then 0 else scan p l + 1
theorem qka {body:Int → Option (Int ⊕ (Unit ⊕ Bool))} (p:UInt8 → Bool) (v:Bool) (s:List UInt8) (h1:∀ (k:Nat) c,s[k]? = some c → body k = if p c then some (.inl ((k:Int) + 1)) else some (.inr (.inr v))) (h2:body s.length = some (.inr (.inl ()))) :
  ∀ N,s.length < N → iter body N 0 = some (if s.all p then .inl () else .inr v):=by
 have key:∀ j k N,k + j = s.length → j < N → iter body N (k:Int) = some (if (s.drop k).all p then .inl () else .inr v):=by
  intro j
  induction j with
  | zero =>
   intro k N hk hN
   obtain ⟨N,rfl⟩:∃ M,N = M + 1:=⟨N - 1,by omega⟩
   have e:s.drop k = []:=List.drop_eq_nil_of_le (by omega)
   obtain rfl:k = s.length:=by omega
   simp only [iter,h2,e]
   rfl
  | succ j ih =>
   intro k N hk hN
   obtain ⟨N,rfl⟩:∃ M,N = M + 1:=⟨N - 1,by omega⟩
   have hlt:k < s.length:=by omega
   have e:s.drop k = s[k] :: s.drop (k + 1):=List.drop_eq_getElem_cons hlt
   rw [iter,h1 k _ (List.getElem?_eq_getElem hlt),e,List.all_cons]
   cases hp:p s[k] with
   | false=>simp
   | true =>
    simp only [if_true,Bool.true_and]
    rw [show ((k:Int) + 1) = ((k + 1:Nat):Int) by omega]
    exact ih (k + 1) N (by omega) (by omega)
 intro N hN
 have:=key s.length 0 N (by omega) hN
 simpa using this
theorem qaq {α:Type} {xs:List α} {k:Nat} {c:α} (h:xs[k]? = some c):idx xs (k:Int) = some c:=by
 unfold idx; rw [if_pos (by omega)]; simpa using h
theorem qhg {a b:List UInt8} (h:a.length + b.length ≤ 1000000):cat a b = some (a ++ b):=by
 unfold cat; rw [if_pos (by unfold LIMS; omega)]
theorem qeO {z:Int} (h1:-1000000 ≤ z) (h2:z ≤ 1000000):IntKind.wrap .i64 z = z:=qfd (qfz.2 ⟨by omega,by omega⟩)
def fnd (sub:List UInt8) (s:List UInt8):Nat:=scan (fun l=>sub.isPrefixOf l) s
theorem qrK (sub:List UInt8) (b:UInt8) (l:List UInt8):fnd sub (b :: l) = if sub.isPrefixOf (b :: l) then 0 else fnd sub l + 1:=rfl
end Go.X
namespace Go.X
def run {σ α β:Type} (f:σ → α → σ ⊕ β) (fin:σ → β):σ → List α → β
 | s,[]=>fin s
 | s,x :: xs=>match f s x with
  | .inl s'=>run f fin s' xs
  | .inr b=>b
theorem qcB {σ τ α β:Type} {body:τ → Option (τ ⊕ β)} (mkS:σ → Int → τ) (xs:List α) (f:σ → α → σ ⊕ β) (fin:σ → β) (I:Nat → σ → Prop)
  (h1:∀ s (k:Nat) x,xs[k]? = some x → I k s → body (mkS s k) = some (match f s x with | .inl s'=>.inl (mkS s' ((k:Int) + 1)) | .inr b=>.inr b) ∧ ∀ s',f s x = .inl s' → I (k + 1) s')
  (h2:∀ s,I xs.length s → body (mkS s xs.length) = some (.inr (fin s))) :
  ∀ N s,xs.length < N → I 0 s → iter body N (mkS s 0) = some (run f fin s xs):=by
 have key:∀ j k N s,k + j = xs.length → j < N → I k s → iter body N (mkS s (k:Int)) = some (run f fin s (xs.drop k)):=by
  intro j
  induction j with
  | zero =>
   intro k N s hk hN hI
   obtain ⟨N,rfl⟩:∃ M,N = M + 1:=⟨N - 1,by omega⟩
   have e:xs.drop k = []:=List.drop_eq_nil_of_le (by omega)
   obtain rfl:k = xs.length:=by omega
   rw [iter,h2 s hI,e]; rfl
  | succ j ih =>
   intro k N s hk hN hI
   obtain ⟨N,rfl⟩:∃ M,N = M + 1:=⟨N - 1,by omega⟩
   have hlt:k < xs.length:=by omega
   have e:xs.drop k = xs[k] :: xs.drop (k + 1):=List.drop_eq_getElem_cons hlt
   obtain ⟨h3,h4⟩:=h1 s k _ (List.getElem?_eq_getElem hlt) hI
   rw [iter,h3,e]
   simp only [run]
   cases hf:f s xs[k] with
   | inl s' =>
    simp only
    rw [show ((k:Int) + 1) = ((k + 1:Nat):Int) by omega]
    exact ih (k + 1) N s' (by omega) (by omega) (h4 s' hf)
   | inr b=>rfl
 intro N s hN hI
 have:=key xs.length 0 N s (by omega) hN hI
 simpa using this
theorem qef {σ τ α β:Type} {body:τ → Option (τ ⊕ β)} (mkS:σ → Int → τ) (xs:List α) (f:σ → α → σ ⊕ β) (fin:σ → β)
  (h1:∀ s (k:Nat) x,xs[k]? = some x → body (mkS s k) = some (match f s x with | .inl s'=>.inl (mkS s' ((k:Int) + 1)) | .inr b=>.inr b))
  (h2:∀ s,body (mkS s xs.length) = some (.inr (fin s))) (N:Nat) (s:σ) (hN:xs.length < N):iter body N (mkS s 0) = some (run f fin s xs) :=
 qcB mkS xs f fin (fun _ _=>True) (fun s k x hx _=>⟨h1 s k x hx,fun _ _=>trivial⟩) (fun s _=>h2 s) N s hN trivial
theorem qns {α:Type} {body:Int → Option (Int ⊕ (Unit ⊕ Int))} (xs:List α) (p:α → Bool)
  (h1:∀ (k:Nat) x,xs[k]? = some x → body k = some (if p x then .inr (.inr k) else .inl ((k:Int) + 1))) (h2:body xs.length = some (.inr (.inl ()))) (N:Nat) (hN:xs.length < N) :
  iter body N 0 = some (match xs.findIdx? p with | some k=>.inr (k:Int) | none=>.inl ()):=by
 have key:∀ j k N,k + j = xs.length → j < N → iter body N (k:Int) = some (match (xs.drop k).findIdx? p with | some i=>.inr ((k + i:Nat):Int) | none=>.inl ()):=by
  intro j
  induction j with
  | zero =>
   intro k N hk hN
   obtain ⟨N,rfl⟩:∃ M,N = M + 1:=⟨N - 1,by omega⟩
   have e:xs.drop k = []:=List.drop_eq_nil_of_le (by omega)
   obtain rfl:k = xs.length:=by omega
   rw [iter,h2,e]; rfl
  | succ j ih =>
   intro k N hk hN
   obtain ⟨N,rfl⟩:∃ M,N = M + 1:=⟨N - 1,by omega⟩
   have hlt:k < xs.length:=by omega
   have e:xs.drop k = xs[k] :: xs.drop (k + 1):=List.drop_eq_getElem_cons hlt
   rw [iter,h1 k _ (List.getElem?_eq_getElem hlt),e,List.findIdx?_cons]
   cases hp:p xs[k] with
   | true=>simp
   | false =>
    simp only [Bool.false_eq_true,if_false]
    rw [show ((k:Int) + 1) = ((k + 1:Nat):Int) by omega,ih (k + 1) N (by omega) (by omega)]
    cases (xs.drop (k + 1)).findIdx? p with
    | none=>rfl
    | some i=>simp only [Option.map_some]; congr 3; omega
 have:=key xs.length 0 N (by omega) hN
 simpa using this
theorem qoy {α:Type} (xs:List α) (p:α → Bool):((some (match xs.findIdx? p with | some k=>Sum.inr (k:Int) | none=>Sum.inl ()):Option (Unit ⊕ Int)).bind fun o=>Sum.elim (fun _=>some (-1)) (fun o=>some o) o) = some (match xs.findIdx? p with | some k=>(k:Int) | none=>-1):=by
 cases xs.findIdx? p <;> rfl
theorem qpg {α:Type} (xs:List α) (p:α → Bool):decide ((match xs.findIdx? p with | some k=>(k:Int) | none=>-1) ≥ 0) = xs.any p:=by
 cases h:xs.findIdx? p with
 | none =>
  have:xs.any p = false:=by
   rw [List.any_eq_false]; intro x hx
   have:=List.findIdx?_eq_none_iff.1 h x hx
   simp [this]
  rw [this]; rfl
 | some k =>
  have:xs.any p = true:=by
   obtain ⟨x,hx,hp⟩:=List.findIdx?_eq_some_iff_getElem.1 h
   exact List.any_eq_true.2 ⟨_,List.getElem_mem x,by first | exact hx | exact hp.1 | exact hp⟩
  rw [this]
  simp
theorem qpA {α:Type} (p:α → Bool):∀ xs:List α,run (σ:=Unit) (β:=Unit ⊕ Bool) (fun _ x=>if p x then .inl () else .inr (.inr false)) (fun _=>.inl ()) () xs = if xs.all p then .inl () else .inr false
 | []=>rfl
 | x :: xs=>by
  unfold run
  cases h:p x with
  | true=>simp only [if_true,qpA p xs,List.all_cons,h,Bool.true_and]
  | false=>simp [h]
theorem qqV {α:Type} {body:Int → Option (Int ⊕ (Unit ⊕ Bool))} (p:α → Bool) (xs:List α) (h1:∀ (k:Nat) x,xs[k]? = some x → body k = some (if p x then .inl ((k:Int) + 1) else .inr (.inr false))) (h2:body xs.length = some (.inr (.inl ()))) (N:Nat) (hN:xs.length < N) :
  iter body N 0 = some (if xs.all p then .inl () else .inr false):=by
 rw [← qpA p xs]
 refine qef (σ:=Unit) (fun _ k=>k) xs _ _ (fun _ k x hx=>?_) (fun _=>h2) N () hN
 rw [h1 k x hx]
 cases p x <;> rfl
theorem qqi {α:Type} {body:Int → Option (Int ⊕ (Unit ⊕ Bool))} (p:α → Bool) (xs:List α) (h1:∀ (k:Nat) x,xs[k]? = some x → body k = some (if p x then .inr (.inr true) else .inl ((k:Int) + 1))) (h2:body xs.length = some (.inr (.inl ()))) (N:Nat) (hN:xs.length < N) :
  iter body N 0 = some (if xs.any p then .inr true else .inl ()):=by
 have e:∀ xs:List α,run (σ:=Unit) (β:=Unit ⊕ Bool) (fun _ x=>if p x then .inr (.inr true) else .inl ()) (fun _=>.inl ()) () xs = if xs.any p then .inr true else .inl ():=by
  intro xs
  induction xs with
  | nil=>rfl
  | cons x xs ih =>
   unfold run
   cases h:p x with
   | true=>simp [h]
   | false=>simp only [Bool.false_eq_true,if_false,ih,List.any_cons,h,Bool.false_or]
 rw [← e xs]
 refine qef (σ:=Unit) (fun _ k=>k) xs _ _ (fun _ k x hx=>?_) (fun _=>h2) N () hN
 rw [h1 k x hx]
 cases p x <;> rfl
theorem dlt {k n:Nat} (h:k < n):decide ((k:Int) < (n:Int)) = true:=decide_eq_true (by omega)
theorem dnlt {n:Nat}:decide ((n:Int) < (n:Int)) = false:=decide_eq_false (by omega)
theorem qeb {α:Type} {xs:List α} {k:Nat} {x:α} (h:xs[k]? = some x):k < xs.length:=(List.getElem?_eq_some_iff.1 h).1
theorem dltx {α:Type} {xs:List α} {k:Nat} {x:α} (h:xs[k]? = some x):decide ((k:Int) < (xs.length:Int)) = true:=dlt (qeb h)
end Go.X
