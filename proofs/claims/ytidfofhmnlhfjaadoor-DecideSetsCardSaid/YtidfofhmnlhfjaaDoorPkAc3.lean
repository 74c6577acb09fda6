/- Texts of this proof, put together by pack.py: what its declarations name. -/
import Derived.Test.YtidfofhmnlhfjaaDoorPkAc2
import Derived.Test.YtidfofhmnlhfjaaDoorCards
import Derived.Test.YtidfofhmnlhfjaaDoorChecked
import Derived.Test.YtidfofhmnlhfjaaDoorProg
import Derived.Test.YtidfofhmnlhfjaaDoorRows
import Derived.Test.YtidfofhmnlhfjaaDoorTie
set_option linter.unusedVariables false
set_option linter.unusedSimpArgs false
namespace Go.Proofs.YtidfofhmnlhfjaaDoor
open Go.X
variable {u:World} {m0:Mem} {S:Segs} {w:World}
set_option maxHeartbeats 4000000
set_option maxRecDepth 100000
def qjH (u:World) (m0:Mem) (S:Segs) (pb0:Nat) (pb1:Nat) (pb2:Nat) (pb3:Nat) (pb4:Nat) (pb5:Nat) (x0:Option (qak)) (c1:Value) (x1:Part) (x2:Part) (x3:List (List (List (Relation)))) (c7:Value) (x4:List (Int)) (c9:Value) (M10:List (Nat × Obj)) (r:Bool) (a:Act) (w:World):Prop :=
 Ok u m0 ([(pb0,oc 106 [c1])] :: [(pb1,oc 137 [vu x1.bits,vs x1.text])] :: [(pb2,oc 137 [vu x2.bits,vs x2.text])] :: [(pb3,oc 26 [c7])] :: [(pb4,oc 83 [c9])] :: M10 :: [(pb5,oc 82 [(Value.func (.func 38) #[] #[])])] :: S) w ∧ a.defers = [] ∧ RVs Tryd.prog a w [.t 5 (.bool r)]
theorem qhs (N:Nat) {pb0:Nat} {c1:Value} (x0:Option (qak)) (h2:(pP 3 qeR) m0 [c1] x0) {pb1:Nat} (x1:Part) (r3:InR .u64 x1.bits) (l4:x1.text.length ≤ LIMS) {pb2:Nat} (x2:Part) (r5:InR .u64 x2.bits) (l6:x2.text.length ≤ LIMS) {pb3:Nat} {c7:Value} (x3:List (List (List (Relation)))) (h8:(pL 1 (pL 1 (pL 4 qan))) m0 [c7] x3) {pb4:Nat} {c9:Value} {M10:List (Nat × Obj)} (x4:List (Int)) (h11:ORow 3 1 (pI .i64) m0 c9 x4 M10) {pb5:Nat} {r:Bool} (hF:qfx N x0 x1 x2 x3 x4 = some r) (ok:Ok u m0 ([(pb0,oc 106 [c1])] :: [(pb1,oc 137 [vu x1.bits,vs x1.text])] :: [(pb2,oc 137 [vu x2.bits,vs x2.text])] :: [(pb3,oc 26 [c7])] :: [(pb4,oc 83 [c9])] :: M10 :: [(pb5,oc 82 [(Value.func (.func 38) #[] #[])])] :: S) w) :
  Calls Tryd.prog 53 [Value.func (.func 76) #[] #[.pointer (some ⟨pb0,0,none⟩),.pointer (some ⟨pb1,0,none⟩),.pointer (some ⟨pb2,0,none⟩)],vp pb3,vp pb4,vp pb5].toArray w fun e w'=>(e = .returned (.bool r) ∧ Ok u m0 ([(pb0,oc 106 [c1])] :: [(pb1,oc 137 [vu x1.bits,vs x1.text])] :: [(pb2,oc 137 [vu x2.bits,vs x2.text])] :: [(pb3,oc 26 [c7])] :: [(pb4,oc 83 [c9])] :: M10 :: [(pb5,oc 82 [(Value.func (.func 38) #[] #[])])] :: S) w'):=by
 have le_m0:=Mem.le.refl m0
 unfold qfx at hF
 refine en (qjH u m0 S pb0 pb1 pb2 pb3 pb4 pb5 x0 c1 x1 x2 x3 c7 x4 c9 M10) r Tryd.func53 rfl rfl rfl (fun _ _ h=>ra h rfl) fun fin a E=>sg<|qbQ E ok rfl rfl rfl fun b12 a w E ok=>aw E rfl fun a E=>sg<|ld E ok qib 4 rfl rfl rfl fun a E=>lv E ok (qaz qdM h8 rfl) fun a E=>bd hF fun l13 e14 hF=>qbR (R:=pB) E ok qbD qd0 rfl qeo rfl e14 rfl rfl fun c15 M16 a w E ok h17=>aw E rfl fun a E=>wp_seq<|sg<|ld E ok qib 5 rfl rfl rfl fun a E=>lv E ok (qaz qdM h8 rfl) fun a E=>mv E rfl fun a E=>wn<|wp_block<|bd hF fun o23 hL hF=>qaH _ (fun (s:Int × (List (Bool))) a w=>∃ c25 M26,Ok u m0 (M26 :: [(b12,oc 69 [(Value.func (.func 76) #[] #[.pointer (some ⟨pb0,0,none⟩),.pointer (some ⟨pb1,0,none⟩),.pointer (some ⟨pb2,0,none⟩)])])] :: [(pb0,oc 106 [c1])] :: [(pb1,oc 137 [vu x1.bits,vs x1.text])] :: [(pb2,oc 137 [vu x2.bits,vs x2.text])] :: [(pb3,oc 26 [c7])] :: [(pb4,oc 83 [c9])] :: M10 :: [(pb5,oc 82 [(Value.func (.func 38) #[] #[])])] :: S) w ∧ Env 29 a [(2,vp pb4),(3,vp pb5),(4,vp b12),(6,c25),(12,c7),(13,(vi (x3.length:Int))),(14,vi s.1)] ∧ InR .i64 s.1 ∧ ORow 4 1 pB m0 c25 s.2 M26) (fun (b:((List (Bool)))) e a w=>e = (.exit 0) ∧ ∃ c82 M83,Ok u m0 (M83 :: [(b12,oc 69 [(Value.func (.func 76) #[] #[.pointer (some ⟨pb0,0,none⟩),.pointer (some ⟨pb1,0,none⟩),.pointer (some ⟨pb2,0,none⟩)])])] :: [(pb0,oc 106 [c1])] :: [(pb1,oc 137 [vu x1.bits,vs x1.text])] :: [(pb2,oc 137 [vu x2.bits,vs x2.text])] :: [(pb3,oc 26 [c7])] :: [(pb4,oc 83 [c9])] :: M10 :: [(pb5,oc 82 [(Value.func (.func 38) #[] #[])])] :: S) w ∧ Env 29 a [(3,vp pb5),(6,c82)] ∧ ORow 4 1 pB m0 c82 b M83) ?_ ?_ N _ a w hL ⟨c15,M16,ok,E.keep [2,3,4,6,12,13,14],(ir 0),h17⟩
 rotate_left
 ·intro e a w _ hO
  obtain ⟨rfl,c72,M73,ok,E,h74⟩:=hO
  refine qaN<|qaa<|sg<|ld E ok qqC 8 rfl rfl rfl fun a E=>mv E rfl fun a E=>?_
  obtain ⟨r80,e81,hF⟩:=bnd hF
  obtain ⟨m75,hle77,ok76,hfz78⟩:=(ok.frs 0 rfl).freeze
  have h79:=ORow.froz mB h74 hle77 hfz78 (by decide)
  refine qiE E rfl qt8 rfl (qkJ N _ o23 h79 e81 ok76) rfl rfl ?_
  rintro _ w ⟨rfl,okz⟩
  replace ok:=(Ok.thawAt 0 rfl ok hle77 hfz78 okz)
  refine ⟨_,rfl,fun a E=>?_⟩
  refine aw E rfl fun a E=>wp_ret ?_
  exact fin hF ⟨ok.drop.drop,E.d,rz E rfl⟩
 rintro ⟨v28,v29⟩ a w r ⟨c31,M32,ok,E,r30,h33⟩ hF
 replace hF:qfL N x0 x1 x2 x3 x4 v28 v29 = some r:=hF
 unfold qfL at hF
 refine sg<|lw E (qaC rfl rfl) fun a E=>wn<|wp_seq<|cg E rfl hF (fun c34 hF=>?_) fun c34 hF=>?_
 ·refine wp_exit<|qaE ?_
  cases hF
  exact so (⟨rfl,⟨c31,M32,ok,E.keep [3,6],h33⟩⟩)
 refine wp_skip<|qaa<|wp_seq<|wp_block<|sg<|mv E rfl fun a E=>?_
 obtain ⟨x35,e36,hF⟩:=bnd hF
 obtain ⟨b37,o38,es39,hl40,rr41,at42,yy43⟩:=ia E 12 14 qdM h8 e36
 obtain ⟨c44,rfl,h45⟩:=qbG rr41
 refine lv E ok (yy43 _ _) fun a E=>lv E ok (qai qfV rfl (qab.ro at42)) fun a E=>qaw E ok qdI rfl rfl fun b46 a w E ok=>qaf E ok 0 rfl rfl rfl qbp rfl rfl ⟨rfl,trivial⟩ rfl rfl fun w ok=>aw E rfl fun a E=>bd hF fun o47 hJ hF=>qaO (Q':=fun e a w=>e = .normal ∧ ∃ c48 M49,Ok u m0 ([(b46,oc 3 [vi v28])] :: M49 :: [(b12,oc 69 [(Value.func (.func 76) #[] #[.pointer (some ⟨pb0,0,none⟩),.pointer (some ⟨pb1,0,none⟩),.pointer (some ⟨pb2,0,none⟩)])])] :: [(pb0,oc 106 [c1])] :: [(pb1,oc 137 [vu x1.bits,vs x1.text])] :: [(pb2,oc 137 [vu x2.bits,vs x2.text])] :: [(pb3,oc 26 [c7])] :: [(pb4,oc 83 [c9])] :: M10 :: [(pb5,oc 82 [(Value.func (.func 38) #[] #[])])] :: S) w ∧ Env 29 a [(2,vp pb4),(3,vp pb5),(4,vp b12),(6,c48),(12,c7),(13,(vi (x3.length:Int))),(14,vi v28)] ∧ ORow 4 1 pB m0 c48 o47 M49) ?_ ?_
 rotate_left
 ·intro e a w hO
  obtain ⟨rfl,c69,M70,ok,E,h71⟩:=hO
  refine qap<|qaa<|qac<|lw E (qaA rfl rfl (InR.inc r30 (qal h8) c34)) fun a E=>mv E rfl fun a E=>wpList_nil ?_
  cases hF
  exact qau ⟨c69,M70,(ok.pk 10 [1,2,3,4,5,6,7,8,9] rfl (by decide)),E.keep [2,3,4,6,12,13,14],(InR.inc r30 (qal h8) c34),h71⟩
 have hF:=hJ
 obtain ⟨r51,e52,hF⟩:=bnd hF
 obtain ⟨x53,e54,hF⟩:=bnd hF
 obtain ⟨l59,e60,hF⟩:=bnd hF
 obtain rfl:=sj hF
 refine qaX [] (Cls u m0 ([(b46,oc 3 [vi v28])] :: [(b12,oc 69 [(Value.func (.func 76) #[] #[.pointer (some ⟨pb0,0,none⟩),.pointer (some ⟨pb1,0,none⟩),.pointer (some ⟨pb2,0,none⟩)])])] :: [(pb0,oc 106 [c1])] :: [(pb1,oc 137 [vu x1.bits,vs x1.text])] :: [(pb2,oc 137 [vu x2.bits,vs x2.text])] :: [(pb3,oc 26 [c7])] :: [(pb4,oc 83 [c9])] :: M10 :: [(pb5,oc 82 [(Value.func (.func 38) #[] #[])])] :: [])) (Cls u m0 ([(b46,oc 3 [vi v28])] :: [(b12,oc 69 [(Value.func (.func 76) #[] #[.pointer (some ⟨pb0,0,none⟩),.pointer (some ⟨pb1,0,none⟩),.pointer (some ⟨pb2,0,none⟩)])])] :: [(pb0,oc 106 [c1])] :: [(pb1,oc 137 [vu x1.bits,vs x1.text])] :: [(pb2,oc 137 [vu x2.bits,vs x2.text])] :: [(pb3,oc 26 [c7])] :: [(pb4,oc 83 [c9])] :: M10 :: [(pb5,oc 82 [(Value.func (.func 38) #[] #[])])] :: [])) (by kernel_rfl) ?_
 intro w hw
 replace ok:=qa3 ok hw
 clear hw
 refine qag (cl1 (cq le_m0 ok [0,2,3,4,5,6,7,8,9] rfl) (cq le_m0 ok [0,2,3,4,5,6,7,8,9] rfl)) fun hT=>kt 0 E rfl hT (qah rfl) fun a E=>kt 1 E rfl hT (qai qam rfl (qab.cown 0 rfl rfl)) fun a E=>kt 2 E rfl hT (qah rfl) fun a E=>kt 3 E rfl hT (qc4 (caps:=[.tmp 4,.tmp 2,.tmp 7]) rfl) fun a E=>qar [4] (by kernel_rfl) rfl (qas ?_)
 ·refine qbM (o:=_) rfl ?_
  replace ok:Ok u m0 ([(b12,oc 69 [(Value.func (.func 76) #[] #[.pointer (some ⟨pb0,0,none⟩),.pointer (some ⟨pb1,0,none⟩),.pointer (some ⟨pb2,0,none⟩)])])] :: [(pb4,oc 83 [c9])] :: M10 :: [(b46,oc 3 [vi v28])] :: [(pb0,oc 106 [c1])] :: [(pb1,oc 137 [vu x1.bits,vs x1.text])] :: [(pb2,oc 137 [vu x2.bits,vs x2.text])] :: M32 :: [(pb3,oc 26 [c7])] :: [(pb5,oc 82 [(Value.func (.func 38) #[] #[])])] :: S) w:=(ok.pk 10 [2,7,8,0,3,4,5,1,6,9] rfl (by decide))
  refine lc E qnV rfl (qh8 N _ x35 h45 x4 h11 v28 r30 x0 h2 x1 r3 l4 x2 r5 l6 e52 ok) fun w ok a E=>wn<|qag (cl1 (cq le_m0 ok [3,0,4,5,6,8,1,2,9] rfl) (cq le_m0 ok [3,0,4,5,6,8,1,2,9] rfl)) fun hT=>?_
  obtain ⟨b63,o64,hp65,yy66⟩:=qbf qbD h33 e54 (P:=Tryd.prog) (X:=.tmp 19) (I:=.tmp 20) (kd:=.i64) (qay E rfl) (qay E rfl)
  refine kt 5 E rfl hT (yy66 _ _) fun a E=>qar [6] (by kernel_rfl) rfl (qas ?_)
  ·refine wo rfl<|qcv (R:=pB) E ok 7 rfl h33 e54 hp65 rfl rfl qmV rfl rfl rfl ⟨rfl,trivial⟩ qeo e60 rfl fun M67 w ok h68=>wn<|qag (cl1 (cq le_m0 ok [3,0,4,5,6,8,1,2,9] rfl) (cq le_m0 ok [3,0,4,5,6,8,1,2,9] rfl)) fun hT=>qaM (by kernel_rfl) ?_
   exact ⟨rfl,⟨c31,M67,(ok.pk 10 [3,7,0,4,5,6,8,1,2,9] rfl (by decide)),E.keep [2,3,4,6,12,13,14],h68⟩⟩
def qji (u:World) (m0:Mem) (S:Segs) (r:Bool) (a:Act) (w:World):Prop :=
 Ok u m0 S w ∧ a.defers = [] ∧ RVs Tryd.prog a w [.t 4 (.bool r)]
theorem qjn (N:Nat) (a_0:List UInt8) (la_0:a_0.length ≤ LIMS) (b_1:List UInt8) (lb_1:b_1.length ≤ LIMS) {r:Bool} (hF:qfA N a_0 b_1 = some r) (ok:Ok u m0 S w) :
  Calls Tryd.prog 75 [vs a_0,vs b_1].toArray w fun e w'=>(e = .returned (.bool r) ∧ Ok u m0 S w'):=by
 unfold qfA at hF
 refine en (qji u m0 S) r Tryd.func75 rfl rfl rfl (fun _ _ h=>ra h rfl) fun fin a E=>sg<|aw E rfl fun a E=>wp_seq<|sg<|mv E rfl fun a E=>lw E (qeZ Tryd.underlying9 rfl) fun a E=>mv E rfl fun a E=>lw E (qeZ Tryd.underlying9 rfl) fun a E=>lw E (qd5 rfl rfl) fun a E=>wn<|cf E rfl hF (fun c1 hF=>?_) fun c1 hF=>?_
 ·refine sg<|mv E rfl fun a E=>lw E (qeZ Tryd.underlying9 rfl) fun a E=>mv E rfl fun a E=>lw E (qeZ Tryd.underlying9 rfl) fun a E=>lw E (qaC rfl rfl) fun a E=>av E rfl fun a E=>wn<|wp_ret<|qav ?_
  exact fin hF ⟨ok,E.d,rz E rfl⟩
 refine wp_skip<|qaa<|wp_seq<|sg<|mv E rfl fun a E=>lw E (qeZ Tryd.underlying9 rfl) fun a E=>mv E rfl fun a E=>wn<|wp_block<|bd hF fun o3 hL hF=>qaH _ (fun (s:Int) a w=>Ok u m0 (S) w ∧ Env 48 a [(0,vs a_0),(1,vs b_1),(17,(vi (a_0.length:Int))),(18,vi s)] ∧ InR .i64 s) (fun (b:(Unit ⊕ Bool)) e a w=>(Sum.elim (fun b23=>e = (.exit 0) ∧ Ok u m0 (S) w ∧ Env 48 a []) (fun b24=>e = .ret ∧ qji u m0 S b24 a w)) b) ?_ ?_ N _ a w hL ⟨ok,E.keep [0,1,17,18],(ir 0)⟩
 rotate_left
 ·intro e a w _ hO
  rcases o3 with o3 | o3
  rotate_left
  ·obtain ⟨rfl,hret⟩:=hO
   refine qaI<|qav ?_
   exact fin hF hret
  have hF:=qcN hF
  obtain ⟨rfl,ok,E⟩:=hO
  refine qaN<|qaa<|sg<|aw E rfl fun a E=>wp_ret ?_
  exact fin hF ⟨ok,E.d,rz E rfl⟩
 rintro v5 a w r ⟨ok,E,r6⟩ hF
 replace hF:qdQ N a_0 b_1 v5 = some r:=hF
 unfold qdQ at hF
 refine sg<|lw E (qaC rfl rfl) fun a E=>wn<|wp_seq<|cg E rfl hF (fun c7 hF=>?_) fun c7 hF=>?_
 ·refine wp_exit<|qaE ?_
  cases hF
  exact so (sl ⟨rfl,⟨ok,E.keep []⟩⟩)
 refine wp_skip<|qaa<|wp_seq<|wp_block<|sg<|mv E rfl fun a E=>av E rfl fun a E=>wn<|wp_seq<|qee (by kernel_rfl) (by kernel_rfl) ok<|qv E (qah rfl) fun a E=>qv E (qah rfl) fun a E=>bd hF fun c8 e9 hF=>qv E (qdE Tryd.underlying9 rfl rfl e9) fun a E=>qv E (qah rfl) fun a E=>qv E (qah rfl) fun a E=>?_
 refine bd hF fun c10 e11 hF=>qv E (qdE Tryd.underlying9 rfl rfl e11) fun a E=>qv E (qd5 rfl rfl) fun a E=>wpQuiet_nil ?_
 intro w ok
 refine qaa<|cg E rfl hF (fun c12 hF=>?_) fun c12 hF=>?_
 ·refine wp_skip<|qap<|qaa<|qac<|lw E (qaA rfl rfl (InR.inc r6 (InR.len la_0) c7)) fun a E=>mv E rfl fun a E=>wpList_nil ?_
  cases hF
  exact qau ⟨ok,E.keep [0,1,17,18],(InR.inc r6 (InR.len la_0) c7)⟩
 refine wp_seq<|qee (by kernel_rfl) (by kernel_rfl) ok<|qv E (qah rfl) fun a E=>qv E (qah rfl) fun a E=>bd hF fun c13 e14 hF=>qv E (qdE Tryd.underlying9 rfl rfl e14) fun a E=>qv E (qax rfl rfl) fun a E=>qv E (qah rfl) fun a E=>bu E 32 hF (fun c15 hF E=>?_) fun c15 hF E=>?_
 ·refine qs E fun a E=>qs E fun a E=>qs E fun a E=>qs E fun a E=>qs E fun a E=>qs E fun a E=>qs E fun a E=>qs E fun a E=>qs E fun a E=>qs E fun a E=>qs E fun a E=>qs E fun a E=>qs E fun a E=>qv E (qbe rfl rfl) fun a E=>qv E (qbY rfl) fun a E=>wpQuiet_nil ?_
  intro w ok
  refine qaa<|wp_ret<|qaI<|qav ?_
  cases hF
  exact so (sr ⟨rfl,⟨ok,E.d,rz E rfl⟩⟩)
 refine qv E (qah rfl) fun a E=>qv E (qah rfl) fun a E=>bd hF fun c16 e17 hF=>qv E (qdE Tryd.underlying9 rfl rfl e17) fun a E=>qv E (qd5 rfl rfl) fun a E=>qv E (qah rfl) fun a E=>bw E 37 hF (fun c18 hF E=>?_) fun c18 hF E=>?_
 ·refine qs E fun a E=>qs E fun a E=>qs E fun a E=>qs E fun a E=>qs E fun a E=>qs E fun a E=>qs E fun a E=>qv E (qa5 rfl rfl) fun a E=>qv E (qa5 rfl rfl) fun a E=>qv E (qbY rfl) fun a E=>wpQuiet_nil ?_
  intro w ok
  refine qaa<|wp_ret<|qaI<|qav ?_
  cases hF
  exact so (sr ⟨rfl,⟨ok,E.d,rz E rfl⟩⟩)
 refine qv E (qah rfl) fun a E=>qv E (qah rfl) fun a E=>bd hF fun c19 e20 hF=>qv E (qdE Tryd.underlying9 rfl rfl e20) fun a E=>qv E (qah rfl) fun a E=>qv E (qah rfl) fun a E=>bd hF fun c21 e22 hF=>qv E (qdE Tryd.underlying9 rfl rfl e22) fun a E=>qv E (qaC rfl rfl) fun a E=>qv E (qbe rfl rfl) fun a E=>qv E (qa5 rfl rfl) fun a E=>qv E (qbY rfl) fun a E=>wpQuiet_nil ?_
 intro w ok
 refine qaa<|wp_ret<|qaI<|qav ?_
 cases hF
 exact so (sr ⟨rfl,⟨ok,E.d,rz E rfl⟩⟩)
def qin (u:World) (m0:Mem) (S:Segs) (pb0:Nat) (pb1:Nat) (pb2:Nat) (x0:List (List (List (Relation)))) (c1:Value) (x1:List (Int)) (c3:Value) (M4:List (Nat × Obj)) (r:(List UInt8) × Bool) (a:Act) (w:World):Prop :=
 Ok u m0 ([(pb0,oc 26 [c1])] :: [(pb1,oc 83 [c3])] :: M4 :: [(pb2,oc 82 [(Value.func (.func 38) #[] #[])])] :: S) w ∧ a.defers = [] ∧ RVs Tryd.prog a w [.t 4 (.string (bs r.1)),.t 5 (.bool r.2)] ∧ r.1.length ≤ LIMS
theorem qil (N:Nat) (vx_0:Value) (x_0:Option (qak)) (hx_0:(pP 3 qeR) m0 [vx_0] x_0) {pb0:Nat} {c1:Value} (x0:List (List (List (Relation)))) (h2:(pL 1 (pL 1 (pL 4 qan))) m0 [c1] x0) {pb1:Nat} {c3:Value} {M4:List (Nat × Obj)} (x1:List (Int)) (h5:ORow 3 1 (pI .i64) m0 c3 x1 M4) {pb2:Nat} {r:(List UInt8) × Bool} (hF:qfl N x_0 x0 x1 = some r) (ok:Ok u m0 ([(pb0,oc 26 [c1])] :: [(pb1,oc 83 [c3])] :: M4 :: [(pb2,oc 82 [(Value.func (.func 38) #[] #[])])] :: S) w) :
  Calls Tryd.prog 52 [vx_0,Value.func (.func 53) #[] #[.pointer (some ⟨pb0,0,none⟩),.pointer (some ⟨pb1,0,none⟩),.pointer (some ⟨pb2,0,none⟩)]].toArray w fun e w'=>(e = .returned (.tuple [(.string (bs r.1)),(.bool r.2)].toArray) ∧ Ok u m0 ([(pb0,oc 26 [c1])] :: [(pb1,oc 83 [c3])] :: M4 :: [(pb2,oc 82 [(Value.func (.func 38) #[] #[])])] :: S) w') ∧ r.1.length ≤ LIMS:=by
 unfold qfl at hF
 refine en (qin u m0 S pb0 pb1 pb2 x0 c1 x1 c3 M4) r Tryd.func52 rfl rfl rfl (by rintro a w ⟨ok,hd,hrv,h0⟩; exact qbC [.t 4 (.string (bs r.1)),.t 5 (.bool r.2)] hd rfl hrv ⟨⟨rfl,ok⟩,h0⟩) fun fin a E=>sg<|qk0 (cs:=[vx_0]) E ok rfl (qoe hx_0) rfl rfl fun b6 a w E ok=>av E rfl fun a E=>aw E rfl fun a E=>sg<|av E rfl fun a E=>aw E rfl fun a E=>wp_seq<|sg<|ld E ok qjv 0 rfl rfl rfl fun a E=>?_
 obtain ⟨y7,e8,hF⟩:=bnd hF
 obtain ⟨b9,o10,es11,hv12,hl13,hR14,at15⟩:=qjz hx_0 e8
 obtain ⟨c16,c18,c20,rfl,h17,h19,h21⟩:=hR14
 refine lv E ok (qg9 hv12 rfl) fun a E=>fv E qkf rfl fun a E=>lv E ok (qai qiK rfl (qab.ro (At.sub 1 1 at15))) fun a E=>lv E ok (qaz qgg h19 rfl) fun a E=>mv E rfl fun a E=>wn<|wp_block<|bd hF fun o24 hL hF=>qaH _ (fun (s:(List UInt8) × Bool × Int) a w=>Ok u m0 ([(b6,oc 106 [vx_0])] :: [(pb0,oc 26 [c1])] :: [(pb1,oc 83 [c3])] :: M4 :: [(pb2,oc 82 [(Value.func (.func 38) #[] #[])])] :: S) w ∧ Env 58 a [(1,(Value.func (.func 53) #[] #[.pointer (some ⟨pb0,0,none⟩),.pointer (some ⟨pb1,0,none⟩),.pointer (some ⟨pb2,0,none⟩)])),(2,vp b6),(6,vs s.1),(7,vb s.2.1),(16,c18),(17,(vi (y7.wholes.length:Int))),(18,vi s.2.2)] ∧ s.1.length ≤ LIMS ∧ InR .i64 s.2.2) (fun (b:((List UInt8) × Bool)) e a w=>e = (.exit 0) ∧ Ok u m0 ([(b6,oc 106 [vx_0])] :: [(pb0,oc 26 [c1])] :: [(pb1,oc 83 [c3])] :: M4 :: [(pb2,oc 82 [(Value.func (.func 38) #[] #[])])] :: S) w ∧ Env 58 a [(6,vs b.1),(7,vb b.2)] ∧ b.1.length ≤ LIMS) ?_ ?_ N _ a w hL ⟨ok,E.keep [1,2,6,7,16,17,18],(show ([]:List UInt8).length ≤ LIMS by decide),(ir 0)⟩
 rotate_left
 ·intro e a w _ hO
  obtain ⟨rfl,ok,E,l103⟩:=hO
  refine qaN<|qaa<|sg<|mz E rfl rfl fun a E=>av E rfl fun a E=>av E rfl fun a E=>wn<|wp_ret ?_
  exact fin hF ⟨ok.drop,E.d,⟨rv_t E rfl,rv_t E rfl,trivial⟩,l103⟩
 rintro ⟨v27,v28,v29⟩ a w r ⟨ok,E,l30,r31⟩ hF
 replace hF:qeH N x_0 x0 x1 y7 v27 v28 v29 = some r:=hF
 unfold qeH at hF
 refine sg<|lw E (qaC rfl rfl) fun a E=>wn<|wp_seq<|cg E rfl hF (fun c32 hF=>?_) fun c32 hF=>?_
 ·refine wp_exit<|qaE ?_
  cases hF
  exact so (⟨rfl,⟨ok,E.keep [6,7],l30⟩⟩)
 refine wp_skip<|qaa<|wp_seq<|wp_block<|sg ?_
 obtain ⟨x33,e34,hF⟩:=bnd hF
 obtain ⟨b35,o36,es37,hl38,rr39,at40,yy41⟩:=ia E 16 18 qgg h19 e34
 obtain ⟨rfl,r42,l43⟩:=rr39
 refine lv E ok (yy41 _ _) fun a E=>lv E ok (qaj (cs:=[vu x33.bits,vs x33.text]) qhu rfl rfl (qab.ro at40)) fun a E=>qaw E ok qf9 rfl rfl fun b44 a w E ok=>qaf E ok 0 rfl rfl rfl qjV rfl rfl ⟨rfl,rfl,trivial⟩ rfl rfl fun w ok=>wn<|sg<|ld E ok qjv 1 rfl rfl rfl fun a E=>?_
 obtain ⟨y45,e46,hF⟩:=bnd hF
 obtain ⟨b47,o48,es49,hv50,hl51,hR52,at53⟩:=qjz hx_0 e46
 obtain ⟨c54,c56,c58,rfl,h55,h57,h59⟩:=hR52
 refine lv E ok (qg9 hv50 rfl) fun a E=>fv E qkt rfl fun a E=>lv E ok (qai qiK rfl (qab.ro (At.sub 2 1 at53))) fun a E=>lv E ok (qaz qgg h59 rfl) fun a E=>mv E rfl fun a E=>wn<|wp_block<|bd hF fun o62 hL hF=>qaH _ (fun (s:(List UInt8) × Bool × Int) a w=>Ok u m0 ([(b44,oc 137 [vu x33.bits,vs x33.text])] :: [(b6,oc 106 [vx_0])] :: [(pb0,oc 26 [c1])] :: [(pb1,oc 83 [c3])] :: M4 :: [(pb2,oc 82 [(Value.func (.func 38) #[] #[])])] :: S) w ∧ Env 58 a [(1,(Value.func (.func 53) #[] #[.pointer (some ⟨pb0,0,none⟩),.pointer (some ⟨pb1,0,none⟩),.pointer (some ⟨pb2,0,none⟩)])),(2,vp b6),(6,vs s.1),(7,vb s.2.1),(9,vp b44),(16,c18),(17,(vi (y7.wholes.length:Int))),(18,vi v29),(25,c58),(26,(vi (y45.fraction.length:Int))),(27,vi s.2.2)] ∧ s.1.length ≤ LIMS ∧ InR .i64 s.2.2) (fun (b:((List UInt8) × Bool)) e a w=>e = (.exit 2) ∧ Ok u m0 ([(b44,oc 137 [vu x33.bits,vs x33.text])] :: [(b6,oc 106 [vx_0])] :: [(pb0,oc 26 [c1])] :: [(pb1,oc 83 [c3])] :: M4 :: [(pb2,oc 82 [(Value.func (.func 38) #[] #[])])] :: S) w ∧ Env 58 a [(1,(Value.func (.func 53) #[] #[.pointer (some ⟨pb0,0,none⟩),.pointer (some ⟨pb1,0,none⟩),.pointer (some ⟨pb2,0,none⟩)])),(2,vp b6),(6,vs b.1),(7,vb b.2),(16,c18),(17,(vi (y7.wholes.length:Int))),(18,vi v29)] ∧ b.1.length ≤ LIMS) ?_ ?_ N _ a w hL ⟨ok,E.keep [1,2,6,7,9,16,17,18,25,26,27],l30,(ir 0)⟩
 rotate_left
 ·intro e a w _ hO
  obtain ⟨rfl,ok,E,l101⟩:=hO
  refine qaN<|qap<|qaa<|qac<|lw E (qaA rfl rfl (InR.inc r31 (qal h19) c32)) fun a E=>mv E rfl fun a E=>wpList_nil ?_
  cases hF
  exact qau ⟨(ok.pk 6 [1,2,3,4,5] rfl (by decide)),E.keep [1,2,6,7,16,17,18],l101,(InR.inc r31 (qal h19) c32)⟩
 rintro ⟨v65,v66,v67⟩ a w r ⟨ok,E,l68,r69⟩ hF
 replace hF:qeK N x_0 x0 x1 x33 y45 v65 v66 v67 = some r:=hF
 unfold qeK at hF
 refine sg<|lw E (qaC rfl rfl) fun a E=>wn<|wp_seq<|cg E rfl hF (fun c70 hF=>?_) fun c70 hF=>?_
 ·refine wp_exit<|qaE ?_
  cases hF
  exact so (⟨rfl,⟨ok,E.keep [1,2,6,7,16,17,18],l68⟩⟩)
 refine wp_skip<|qaa<|wp_seq<|wp_block<|sg ?_
 obtain ⟨x71,e72,hF⟩:=bnd hF
 obtain ⟨b73,o74,es75,hl76,rr77,at78,yy79⟩:=ia E 25 27 qgg h59 e72
 obtain ⟨rfl,r80,l81⟩:=rr77
 refine lv E ok (yy79 _ _) fun a E=>lv E ok (qaj (cs:=[vu x71.bits,vs x71.text]) qhu rfl rfl (qab.ro at78)) fun a E=>qaw E ok qf9 rfl rfl fun b82 a w E ok=>qaf E ok 0 rfl rfl rfl qjV rfl rfl ⟨rfl,rfl,trivial⟩ rfl rfl fun w ok=>wn<|sg<|fk E ok qgD qfH rfl 1 rfl rfl fun a E=>aw E rfl fun a E=>wp_seq<|sg<|fk E ok qgD qfH rfl 0 rfl rfl fun a E=>lw E (qq8 rfl rfl) fun a E=>wn<|bd hF fun o83 hJ hF=>qaO (Q':=fun e a w=>e = .normal ∧ Ok u m0 ([(b82,oc 137 [vu x71.bits,vs x71.text])] :: [(b44,oc 137 [vu x33.bits,vs x33.text])] :: [(b6,oc 106 [vx_0])] :: [(pb0,oc 26 [c1])] :: [(pb1,oc 83 [c3])] :: M4 :: [(pb2,oc 82 [(Value.func (.func 38) #[] #[])])] :: S) w ∧ Env 58 a [(1,(Value.func (.func 53) #[] #[.pointer (some ⟨pb0,0,none⟩),.pointer (some ⟨pb1,0,none⟩),.pointer (some ⟨pb2,0,none⟩)])),(2,vp b6),(6,vs v65),(7,vb v66),(9,vp b44),(11,vp b82),(12,vs o83),(16,c18),(17,(vi (y7.wholes.length:Int))),(18,vi v29),(25,c58),(26,(vi (y45.fraction.length:Int))),(27,vi v67)] ∧ o83.length ≤ LIMS) ?_ ?_
 ·have hF:=hJ
  refine cg E rfl hF (fun c85 hF=>?_) fun c85 hF=>?_
  ·refine wp_skip ?_
   cases hF
   exact ⟨rfl,⟨ok,E.keep [1,2,6,7,9,11,12,16,17,18,25,26,27],l43⟩⟩
  refine qac<|mv E rfl fun a E=>fk E ok qgD qfH rfl 0 rfl rfl fun a E=>bd hF fun s86 e87 hF=>lw E (qfr rfl rfl e87) fun a E=>bd hF fun s88 e89 hF=>lw E (qfr rfl rfl e89) fun a E=>av E rfl fun a E=>wpList_nil ?_
  cases hF
  exact ⟨rfl,⟨ok,E.keep [1,2,6,7,9,11,12,16,17,18,25,26,27],(qew e89)⟩⟩
 intro e a w hO
 obtain ⟨rfl,ok,E,l90⟩:=hO
 refine qaa<|sg<|mv E rfl fun a E=>lw E (qbW rfl) fun a E=>mv E rfl fun a E=>bu E 43 hF (fun c91 hF E=>?_) fun c91 hF E=>?_
 ·refine lsq E fun a E=>ls E fun a E=>pt E rfl rfl fun a E=>mz E rfl rfl fun a E=>lv E ok (qc4 (caps:=[.tmp 2,.tmp 9,.tmp 11]) rfl) fun a E=>?_
  obtain ⟨r92,e93,hF⟩:=bnd hF
  replace ok:Ok u m0 ([(b6,oc 106 [vx_0])] :: [(b44,oc 137 [vu x33.bits,vs x33.text])] :: [(b82,oc 137 [vu x71.bits,vs x71.text])] :: [(pb0,oc 26 [c1])] :: [(pb1,oc 83 [c3])] :: M4 :: [(pb2,oc 82 [(Value.func (.func 38) #[] #[])])] :: S) w:=(ok.pk 7 [2,1,0,3,4,5,6] rfl (by decide))
  refine qfY E rfl qnR rfl (qhs N x_0 hx_0 x33 r42 l43 x71 r80 l81 x0 h2 x1 h5 e93 ok) rfl rfl ?_
  rintro _ w ⟨rfl,ok⟩
  refine ⟨_,rfl,fun a E=>?_⟩
  refine pt E rfl rfl fun a E=>wn<|cg E rfl hF (fun c94 hF=>?_) fun c94 hF=>?_
  ·refine wp_skip<|qap<|qaa<|qac<|lw E (qaA rfl rfl (InR.inc r69 (qal h59) c70)) fun a E=>mv E rfl fun a E=>wpList_nil ?_
   cases hF
   exact qau ⟨(ok.pk 7 [1,0,3,4,5,6] rfl (by decide)),E.keep [1,2,6,7,9,16,17,18,25,26,27],l68,(InR.inc r69 (qal h59) c70)⟩
  refine qac<|mv E rfl fun a E=>av E rfl fun a E=>av E rfl fun a E=>wpList_nil<|qap<|qaa<|qac<|lw E (qaA rfl rfl (InR.inc r69 (qal h59) c70)) fun a E=>mv E rfl fun a E=>wpList_nil ?_
  cases hF
  exact qau ⟨(ok.pk 7 [1,0,3,4,5,6] rfl (by decide)),E.keep [1,2,6,7,9,16,17,18,25,26,27],l90,(InR.inc r69 (qal h59) c70)⟩
 refine mz E rfl rfl fun a E=>bd hF fun r95 e96 hF=>lc E qr9 rfl (qjn N o83 l90 v65 l68 e96 ok) fun w ok a E=>pf E rfl rfl fun a E=>mv E rfl fun a E=>qdv r95 (fun c97=>?_) (fun c97=>?_)
 rotate_left
 ·have hF:=qdc c97 hF
  have E:=E.upd 48 c97 rfl
  refine lsq E fun a E=>ls E fun a E=>pf E rfl rfl fun a E=>wn<|c_if E rfl (fun h=>by cases h) (fun _=>?_)
  refine wp_skip<|qap<|qaa<|qac<|lw E (qaA rfl rfl (InR.inc r69 (qal h59) c70)) fun a E=>mv E rfl fun a E=>wpList_nil ?_
  cases hF
  exact qau ⟨(ok.pk 7 [1,2,3,4,5,6] rfl (by decide)),E.keep [1,2,6,7,9,16,17,18,25,26,27],l68,(InR.inc r69 (qal h59) c70)⟩
 have hF:=qdd c97 hF
 have E:=E.upd 48 c97 rfl
 refine mv E rfl fun a E=>lv E ok (qc4 (caps:=[.tmp 2,.tmp 9,.tmp 11]) rfl) fun a E=>?_
 obtain ⟨r98,e99,hF⟩:=bnd hF
 replace ok:Ok u m0 ([(b6,oc 106 [vx_0])] :: [(b44,oc 137 [vu x33.bits,vs x33.text])] :: [(b82,oc 137 [vu x71.bits,vs x71.text])] :: [(pb0,oc 26 [c1])] :: [(pb1,oc 83 [c3])] :: M4 :: [(pb2,oc 82 [(Value.func (.func 38) #[] #[])])] :: S) w:=(ok.pk 7 [2,1,0,3,4,5,6] rfl (by decide))
 refine qfY E rfl qnR rfl (qhs N x_0 hx_0 x33 r42 l43 x71 r80 l81 x0 h2 x1 h5 e99 ok) rfl rfl ?_
 rintro _ w ⟨rfl,ok⟩
 refine ⟨_,rfl,fun a E=>?_⟩
 refine pt E rfl rfl fun a E=>wn<|cg E rfl hF (fun c100 hF=>?_) fun c100 hF=>?_
 ·refine wp_skip<|qap<|qaa<|qac<|lw E (qaA rfl rfl (InR.inc r69 (qal h59) c70)) fun a E=>mv E rfl fun a E=>wpList_nil ?_
  cases hF
  exact qau ⟨(ok.pk 7 [1,0,3,4,5,6] rfl (by decide)),E.keep [1,2,6,7,9,16,17,18,25,26,27],l68,(InR.inc r69 (qal h59) c70)⟩
 refine qac<|mv E rfl fun a E=>av E rfl fun a E=>av E rfl fun a E=>wpList_nil<|qap<|qaa<|qac<|lw E (qaA rfl rfl (InR.inc r69 (qal h59) c70)) fun a E=>mv E rfl fun a E=>wpList_nil ?_
 cases hF
 exact qau ⟨(ok.pk 7 [1,0,3,4,5,6] rfl (by decide)),E.keep [1,2,6,7,9,16,17,18,25,26,27],l90,(InR.inc r69 (qal h59) c70)⟩
def qkz (u:World) (m0:Mem) (S:Segs) (r:(List UInt8) × Bool) (a:Act) (w:World):Prop :=
 Ok u m0 S w ∧ a.defers = [] ∧ RVs Tryd.prog a w [.t 4 (.string (bs r.1)),.t 5 (.bool r.2)] ∧ r.1.length ≤ LIMS
theorem qkT (N:Nat) (vl_0:Value) (l_0:List (List (List (Relation)))) (hl_0:(pL 1 (pL 1 (pL 4 qan))) m0 [vl_0] l_0) {r:(List UInt8) × Bool} (hF:qgW N l_0 = some r) (hTb:Tab u) (ok:Ok u m0 S w) :
  Calls Tryd.prog 35 [vl_0,.func (.func 38) #[] #[]].toArray w fun e w'=>(e = .returned (.tuple [(.string (bs r.1)),(.bool r.2)].toArray) ∧ Ok u m0 S w') ∧ r.1.length ≤ LIMS:=by
 have hb0:=ok.base
 have le_m0:=Mem.le.refl m0
 unfold qgW at hF
 refine en (qkz u m0 S) r Tryd.func35 rfl rfl rfl (by rintro a w ⟨ok,hd,hrv,h0⟩; exact qbC [.t 4 (.string (bs r.1)),.t 5 (.bool r.2)] hd rfl hrv ⟨⟨rfl,ok⟩,h0⟩) fun fin a E=>sg<|qk0 (cs:=[vl_0]) E ok rfl (qcj hl_0) rfl rfl fun b1 a w E ok=>qbQ E ok rfl rfl rfl fun b2 a w E ok=>av E rfl fun a E=>av E rfl fun a E=>wn<|sg<|aw E rfl fun a E=>sg<|ld E ok qib 1 rfl rfl rfl fun a E=>lv E ok (qaz qdM hl_0 rfl) fun a E=>bd hF fun l3 e4 hF=>qbR (R:=(pI .i64)) E ok qaR qdI rfl (qaW (ir 0)) rfl e4 rfl rfl fun c5 M6 a w E ok h7=>qaw E ok qgO rfl rfl fun b8 a w E ok=>qaf E ok 0 rfl rfl rfl qj1 (ORow.cells h7) rfl ⟨(ORow.one h7),trivial⟩ rfl rfl fun w ok=>wn<|wp_seq<|sg ?_
 refine ld E ok qib 3 rfl rfl rfl fun a E=>lv E ok (qaz qdM hl_0 rfl) fun a E=>mv E rfl fun a E=>wn<|wp_block ?_
 obtain ⟨M17,ok,h18⟩:=qd1 (e:=54) (k:=4) (R:=qan) ok
 refine bd hF fun o19 hL hF=>qaH _ (fun (s:(List (Relation)) × Int × (List (Int))) a w=>∃ m20 c21 M22 c25 M26,m0.le m20 ∧ Ok u m20 (M22 :: [(b8,oc 83 [c25])] :: M26 :: [(b2,oc 82 [(Value.func (.func 38) #[] #[])])] :: [(b1,oc 26 [vl_0])] :: S) w ∧ Env 36 a [(2,vp b1),(3,vp b2),(6,c21),(7,vp b8),(13,vl_0),(14,(vi (l_0.length:Int))),(15,vi s.2.1)] ∧ ORow 54 4 qan m20 c21 s.1 M22 ∧ InR .i64 s.2.1 ∧ ORow 3 1 (pI .i64) m20 c25 s.2.2 M26) (fun (b:((List (Int)) × (List (Relation)))) e a w=>e = (.exit 0) ∧ ∃ m88 c89 M90 c92 M93,m0.le m88 ∧ Ok u m88 (M93 :: [(b8,oc 83 [c89])] :: M90 :: [(b2,oc 82 [(Value.func (.func 38) #[] #[])])] :: [(b1,oc 26 [vl_0])] :: S) w ∧ Env 36 a [(2,vp b1),(3,vp b2),(6,c92),(7,vp b8)] ∧ ORow 3 1 (pI .i64) m88 c89 b.1 M90 ∧ ORow 54 4 qan m88 c92 b.2 M93) ?_ ?_ N _ a w hL ⟨m0,(Value.slice none 0 0),M17,c5,M6,Mem.le.refl _,ok,E.keep [2,3,6,7,13,14,15],h18,(ir 0),h7⟩
 rotate_left
 ·intro e a w _ hO
  obtain ⟨rfl,m71,c72,M73,c75,M76,hle,ok,E,h74,h77⟩:=hO
  have le_m0:=le_m0.trans hle
  have hl_0:=(mL (mL (mL qad))).up hle hl_0
  refine qaN<|qaa<|sg<|mv E rfl fun a E=>?_
  obtain ⟨m78,hle,ok,hfz⟩:=(ok.frs 0 rfl).freeze
  have h79:=ORow.froz qad h77 hle hfz (by decide)
  have le_m0:=le_m0.trans hle
  have hl_0:=(mL (mL (mL qad))).up hle hl_0
  have h74:=ORow.up (mI .i64) hle h74
  refine bd hF fun r80 e81 hF=>qao E qsi rfl (qhM N _ o19.2 h79 e81 hTb ok) rfl rfl ?_
  rintro _ w ⟨m82,c83,rfl,hle,ok,h84⟩
  have le_m0:=le_m0.trans hle
  have hl_0:=(mL (mL (mL qad))).up hle hl_0
  have h74:=ORow.up (mI .i64) hle h74
  have h79:=(mL qad).up hle h79
  refine ⟨_,rfl,fun a E=>?_⟩
  refine lv E ok (qc4 (caps:=[.tmp 2,.tmp 7,.tmp 3]) rfl) fun a E=>?_
  obtain ⟨r85,e86,hF⟩:=bnd hF
  replace ok:Ok u m82 ([(b1,oc 26 [vl_0])] :: [(b8,oc 83 [c72])] :: M73 :: [(b2,oc 82 [(Value.func (.func 38) #[] #[])])] :: S) w:=(ok.pk 4 [3,0,1,2] rfl (by decide))
  refine qao E qr5 rfl (qil N _ r80 h84 l_0 hl_0 o19.1 h74 e86 ok) rfl rfl ?_
  rintro _ w ⟨⟨rfl,ok⟩,l87⟩
  refine ⟨_,rfl,fun a E=>?_⟩
  refine lw E (qaF rfl rfl) fun a E=>lw E (qaF rfl rfl) fun a E=>av E rfl fun a E=>aw E rfl fun a E=>wp_ret ?_
  exact fin hF ⟨(ok.drop.drop.drop.drop).down hb0 le_m0,E.d,⟨rv_t E rfl,rv_t E rfl,trivial⟩,l87⟩
 rintro ⟨v28,v29,v30⟩ a w r ⟨m31,c32,M33,c36,M37,hle,ok,E,h34,r35,h38⟩ hF
 replace hF:qgd N l_0 v28 v29 v30 = some r:=hF
 unfold qgd at hF
 have le_m0:=le_m0.trans hle
 have hl_0:=(mL (mL (mL qad))).up hle hl_0
 refine sg<|lw E (qaC rfl rfl) fun a E=>wn<|wp_seq<|cg E rfl hF (fun c39 hF=>?_) fun c39 hF=>?_
 ·refine wp_exit<|qaE ?_
  cases hF
  exact so (⟨rfl,⟨m31,c36,M37,c32,M33,le_m0,ok,E.keep [2,3,6,7],h38,h34⟩⟩)
 refine wp_skip<|qaa<|wp_seq<|wp_block<|sg<|mv E rfl fun a E=>?_
 obtain ⟨x40,e41,hF⟩:=bnd hF
 obtain ⟨b42,o43,es44,hl45,rr46,at47,yy48⟩:=ia E 13 15 qdM hl_0 e41
 obtain ⟨c49,rfl,h50⟩:=qbG rr46
 refine lv E ok (yy48 _ _) fun a E=>lv E ok (qai qfV rfl (qab.ro at47)) fun a E=>av E rfl fun a E=>aw E rfl fun a E=>sg<|ld E ok qcs 1 rfl rfl rfl fun a E=>mz E rfl rfl fun a E=>lv E ok (qcz qbr h34 rfl) fun a E=>?_
 obtain ⟨x51,e52,hF⟩:=bnd hF
 obtain ⟨b53,o54,hp55,yy56⟩:=qbf qaR h38 e52 (P:=Tryd.prog) (X:=.tmp 20) (I:=.tmp 21) (kd:=.i64) (qay E rfl) (qay E rfl)
 refine lv E ok (yy56 _ _) fun a E=>bd hF fun l57 e58 hF=>qcv (R:=(pI .i64)) E ok 2 rfl h38 e52 hp55 rfl rfl qbp rfl rfl rfl ⟨rfl,trivial⟩ (qaW (ORow.InR h34)) e58 rfl fun M59 w ok h60=>wn<|qac<|mz E rfl rfl fun a E=>bd hF fun r61 e62 hF=>qao E qp3 rfl (qgH N _ x40 h50 e62 ok) rfl rfl ?_
 rintro _ w ⟨m63,c64,rfl,hle,ok,h65⟩
 have le_m0:=le_m0.trans hle
 have hl_0:=(mL (mL (mL qad))).up hle hl_0
 have h34:=ORow.up qad hle h34
 have h50:=(mL (mL qad)).up hle h50
 have at47:=At.up hle at47
 have h60:=ORow.up (mI .i64) hle h60
 refine ⟨_,rfl,fun a E=>?_⟩
 refine bd hF fun l66 e67 hF=>qdn (R:=qan) E ok 0 qad qbr Tryd.underlying50 rfl h34 (qbP.ofL h65 ok) e67 ⟨_,qds,rfl⟩ rfl rfl rfl rfl fun c68 M69 a w E ok h70=>av E rfl fun a E=>wpList_nil<|qap<|qaa<|qac<|lw E (qaA rfl rfl (InR.inc r35 (qal hl_0) c39)) fun a E=>mv E rfl fun a E=>wpList_nil ?_
 cases hF
 exact qau ⟨m63,c68,M69,c36,M59,le_m0,ok,E.keep [2,3,6,7,13,14,15],h70,(InR.inc r35 (qal hl_0) c39),h60⟩
def qg5 (u:World) (m0:Mem) (S:Segs) (r:Int) (a:Act) (w:World):Prop :=
 Ok u m0 S w ∧ a.defers = [] ∧ RVs Tryd.prog a w [.t 4 (.int .i64 r)] ∧ InR .i64 r
theorem qjr (N:Nat) (vs_0:Value) (s_0:List (Int)) (hs_0:(pL 1 (pI .i64)) m0 [vs_0] s_0) (v_1:Int) (rv_1:InR .i64 v_1) {r:Int} (hF:qe4 N s_0 v_1 = some r) (ok:Ok u m0 S w) :
  Calls Tryd.prog 87 [vs_0,vi v_1].toArray w fun e w'=>(e = .returned (.int .i64 r) ∧ Ok u m0 S w') ∧ InR .i64 r:=by
 unfold qe4 at hF
 refine en (qg5 u m0 S) r Tryd.func87 rfl rfl rfl (fun _ _ h=>rb h rfl) fun fin a E=>sg<|aw E rfl fun a E=>wp_seq<|sg<|mv E rfl fun a E=>lv E ok (qaz qaR hs_0 rfl) fun a E=>mv E rfl fun a E=>wn<|wp_block<|bd hF fun o2 hL hF=>qaH _ (fun (s:Int) a w=>Ok u m0 (S) w ∧ Env 19 a [(0,vs_0),(1,vi v_1),(7,(vi (s_0.length:Int))),(8,vi s)] ∧ InR .i64 s) (fun (b:(Unit ⊕ Int)) e a w=>(Sum.elim (fun b18=>e = (.exit 0) ∧ Ok u m0 (S) w ∧ Env 19 a []) (fun b19=>e = .ret ∧ qg5 u m0 S b19 a w)) b) ?_ ?_ N _ a w hL ⟨ok,E.keep [0,1,7,8],(ir 0)⟩
 rotate_left
 ·intro e a w _ hO
  rcases o2 with o2 | o2
  rotate_left
  ·obtain ⟨rfl,hret⟩:=hO
   refine qaI<|qav ?_
   exact fin hF hret
  have hF:=qcN hF
  obtain ⟨rfl,ok,E⟩:=hO
  refine qaN<|qaa<|sg<|aw E rfl fun a E=>wp_ret ?_
  exact fin hF ⟨ok,E.d,rz E rfl,(ir (-1))⟩
 rintro v4 a w r ⟨ok,E,r5⟩ hF
 replace hF:qdx N s_0 v_1 v4 = some r:=hF
 unfold qdx at hF
 refine sg<|lw E (qaC rfl rfl) fun a E=>wn<|wp_seq<|cg E rfl hF (fun c6 hF=>?_) fun c6 hF=>?_
 ·refine wp_exit<|qaE ?_
  cases hF
  exact so (sl ⟨rfl,⟨ok,E.keep []⟩⟩)
 refine wp_skip<|qaa<|wp_seq<|wp_block<|sg<|mv E rfl fun a E=>av E rfl fun a E=>wn<|sg<|mz E rfl rfl fun a E=>mv E rfl fun a E=>?_
 obtain ⟨x7,e8,hF⟩:=bnd hF
 obtain ⟨b9,o10,es11,hl12,rr13,at14,yy15⟩:=ia E 12 13 qaR hs_0 e8
 obtain ⟨rfl,r16⟩:=rr13
 refine lv E ok (yy15 _ _) fun a E=>lv E ok (qai qam rfl (qab.ro at14)) fun a E=>lw E (qax rfl rfl) fun a E=>wn<|cg E rfl hF (fun c17 hF=>?_) fun c17 hF=>?_
 ·refine wp_skip<|qap<|qaa<|qac<|lw E (qaA rfl rfl (InR.inc r5 (qal hs_0) c6)) fun a E=>mv E rfl fun a E=>wpList_nil ?_
  cases hF
  exact qau ⟨ok,E.keep [0,1,7,8],(InR.inc r5 (qal hs_0) c6)⟩
 refine sg<|mv E rfl fun a E=>aw E rfl fun a E=>wp_ret<|qaI<|qav ?_
 cases hF
 exact so (sr ⟨rfl,⟨ok,E.d,rz E rfl,r5⟩⟩)
def qiy (u:World) (m0:Mem) (S:Segs) (r:Bool) (a:Act) (w:World):Prop :=
 Ok u m0 S w ∧ a.defers = [] ∧ RVs Tryd.prog a w [.t 4 (.bool r)]
theorem qiw (N:Nat) (vs_0:Value) (s_0:List (Int)) (hs_0:(pL 1 (pI .i64)) m0 [vs_0] s_0) (v_1:Int) (rv_1:InR .i64 v_1) {r:Bool} (hF:qdw N s_0 v_1 = some r) (ok:Ok u m0 S w) :
  Calls Tryd.prog 83 [vs_0,vi v_1].toArray w fun e w'=>(e = .returned (.bool r) ∧ Ok u m0 S w'):=by
 unfold qdw at hF
 refine en (qiy u m0 S) r Tryd.func83 rfl rfl rfl (fun _ _ h=>ra h rfl) fun fin a E=>sg<|aw E rfl fun a E=>sg<|mz E rfl rfl fun a E=>bd hF fun r1 e2 hF=>qao E quu rfl (qjr N _ s_0 hs_0 v_1 rv_1 e2 ok) rfl rfl ?_
 rintro _ w ⟨⟨rfl,ok⟩,r3⟩
 refine ⟨_,rfl,fun a E=>?_⟩
 refine lw E (qjh rfl rfl) fun a E=>aw E rfl fun a E=>wp_ret ?_
 exact fin hF ⟨ok,E.d,rz E rfl⟩
def qjS (u:World) (m0:Mem) (S:Segs) (r:Bool) (a:Act) (w:World):Prop :=
 Ok u m0 S w ∧ a.defers = [] ∧ RVs Tryd.prog a w [.t 4 (.bool r)]
theorem qjK (N:Nat) (operand_0:Int) (roperand_0:InR .i64 operand_0) (mod_1:Int) (rmod_1:InR .i64 mod_1) {r:Bool} (hF:qes N operand_0 mod_1 = some r) (ok:Ok u m0 S w) :
  Calls Tryd.prog 68 [vi operand_0,vi mod_1].toArray w fun e w'=>(e = .returned (.bool r) ∧ Ok u m0 S w'):=by
 unfold qes at hF
 refine en (qjS u m0 S) r Tryd.func68 rfl rfl rfl (fun _ _ h=>ra h rfl) fun fin a E=>sg<|aw E rfl fun a E=>wp_seq<|sg<|mv E rfl fun a E=>wn<|wp_block<|wp_seq<|sg<|lw E (qax rfl rfl) fun a E=>aw E rfl fun a E=>bd hF fun o1 hJ hF=>qaO (Q':=fun e a w=>e = .normal ∧ Ok u m0 (S) w ∧ Env 21 a [(1,vi mod_1),(5,vi operand_0),(6,vb o1)]) ?_ ?_
 ·have hF:=hJ
  refine cf E rfl hF (fun c2 hF=>?_) fun c2 hF=>?_
  ·refine wp_skip ?_
   cases hF
   exact ⟨rfl,⟨ok,E.keep [1,5,6]⟩⟩
  refine qac<|lw E (qax rfl rfl) fun a E=>av E rfl fun a E=>wpList_nil ?_
  cases hF
  exact ⟨rfl,⟨ok,E.keep [1,5,6]⟩⟩
 intro e a w hO
 obtain ⟨rfl,ok,E⟩:=hO
 refine qaa<|cf E rfl hF (fun c3 hF=>?_) fun c3 hF=>?_
 ·refine sg<|qbH (R:=(pI .i64)) (xo:=[.const (vi 2),.const (vi 3),.const (vi 4),.const (vi 5),.const (vi 6),.const (vi 10),.const (vi 20),.const (vi 25),.const (vi 50),.const (vi 100)]) (xs:=([2,3,4,5,6,10,20,25,50,100]:List (Int))) E ok qaR qdI rfl ⟨⟨_,rfl,rfl,(qaW (ir 2))⟩,⟨_,rfl,rfl,(qaW (ir 3))⟩,⟨_,rfl,rfl,(qaW (ir 4))⟩,⟨_,rfl,rfl,(qaW (ir 5))⟩,⟨_,rfl,rfl,(qaW (ir 6))⟩,⟨_,rfl,rfl,(qaW (ir 10))⟩,⟨_,rfl,rfl,(qaW (ir 20))⟩,⟨_,rfl,rfl,(qaW (ir 25))⟩,⟨_,rfl,rfl,(qaW (ir 50))⟩,⟨_,rfl,rfl,(qaW (ir 100))⟩,trivial⟩ rfl rfl rfl rfl fun c4 M5 a w E ok h6=>mv E rfl fun a E=>?_
  obtain ⟨r12,e13,hF⟩:=bnd hF
  obtain ⟨m7,hle9,ok8,hfz10⟩:=(ok.frs 0 rfl).freeze
  have h11:=ORow.froz (mI .i64) h6 hle9 hfz10 (by decide)
  refine qao E qul rfl (qiw N _ ([2,3,4,5,6,10,20,25,50,100]:List (Int)) h11 mod_1 rmod_1 e13 ok8) rfl rfl ?_
  rintro _ w ⟨rfl,okz⟩
  replace ok:=(Ok.thawAt 0 rfl ok hle9 hfz10 okz)
  refine ⟨_,rfl,fun a E=>?_⟩
  refine aw E rfl fun a E=>wp_ret<|qaI<|qav ?_
  exact fin hF ⟨ok.drop,E.d,rz E rfl⟩
 refine wp_seq<|sg<|lw E (qax rfl rfl) fun a E=>aw E rfl fun a E=>bd hF fun o14 hJ hF=>qaO (Q':=fun e a w=>e = .normal ∧ Ok u m0 (S) w ∧ Env 21 a [(1,vi mod_1),(12,vb o14)]) ?_ ?_
 ·have hF:=hJ
  refine cf E rfl hF (fun c15 hF=>?_) fun c15 hF=>?_
  ·refine wp_skip ?_
   cases hF
   exact ⟨rfl,⟨ok,E.keep [1,12]⟩⟩
  refine qac<|lw E (qax rfl rfl) fun a E=>av E rfl fun a E=>wpList_nil ?_
  cases hF
  exact ⟨rfl,⟨ok,E.keep [1,12]⟩⟩
 intro e a w hO
 obtain ⟨rfl,ok,E⟩:=hO
 refine qaa<|cg E rfl hF (fun c16 hF=>?_) fun c16 hF=>?_
 ·refine wp_skip<|qap<|qaa<|sg<|aw E rfl fun a E=>wp_ret ?_
  exact fin hF ⟨ok,E.d,rz E rfl⟩
 refine sg<|mv E rfl fun a E=>lw E (qax rfl rfl) fun a E=>mv E rfl fun a E=>bu E 17 hF (fun c17 hF E=>?_) fun c17 hF E=>?_
 ·refine lsq E fun a E=>pt E rfl rfl fun a E=>aw E rfl fun a E=>wp_ret<|qaI<|qav ?_
  exact fin hF ⟨ok,E.d,rz E rfl⟩
 refine mv E rfl fun a E=>lw E (qax rfl rfl) fun a E=>pf E rfl rfl fun a E=>aw E rfl fun a E=>wp_ret<|qaI<|qav ?_
 exact fin hF ⟨ok,E.d,rz E rfl⟩
def qko (u:World) (m0:Mem) (S:Segs) (r:Int) (a:Act) (w:World):Prop :=
 Ok u m0 S w ∧ a.defers = [] ∧ RVs Tryd.prog a w [.t 2 (.int .i64 r)] ∧ InR .i64 r
theorem qe6 (N:Nat) (operand_0:Int) (roperand_0:InR .i64 operand_0) {r:Int} (hF:qdU N operand_0 = some r) (ok:Ok u m0 S w) :
  Calls Tryd.prog 69 [vi operand_0].toArray w fun e w'=>(e = .returned (.int .i64 r) ∧ Ok u m0 S w') ∧ InR .i64 r:=by
 unfold qdU at hF
 refine en (qko u m0 S) r Tryd.func69 rfl rfl rfl (fun _ _ h=>rb h rfl) fun fin a E=>sg<|aw E rfl fun a E=>wp_seq<|sg<|mv E rfl fun a E=>lw E (qax rfl rfl) fun a E=>mv E rfl fun a E=>bu E 5 hF (fun c1 hF E=>?_) fun c1 hF E=>?_
 ·refine lsq E fun a E=>pt E rfl rfl fun a E=>wn<|c_if E rfl (fun _=>?_) (fun h=>by cases h)
  refine sg<|aw E rfl fun a E=>wp_ret<|qav ?_
  exact fin hF ⟨ok,E.d,rz E rfl,(ir 6)⟩
 refine mv E rfl fun a E=>lw E (qax rfl rfl) fun a E=>pf E rfl rfl fun a E=>wn<|cf E rfl hF (fun c2 hF=>?_) fun c2 hF=>?_
 ·refine sg<|aw E rfl fun a E=>wp_ret<|qav ?_
  exact fin hF ⟨ok,E.d,rz E rfl,(ir 6)⟩
 refine wp_skip<|qaa<|sg<|aw E rfl fun a E=>wp_ret ?_
 exact fin hF ⟨ok,E.d,rz E rfl,(ir 100)⟩
def qgu (u:World) (m0:Mem) (S:Segs) (r:Bool) (a:Act) (w:World):Prop :=
 Ok u m0 S w ∧ a.defers = [] ∧ RVs Tryd.prog a w [.t 2 (.bool r)]
theorem qk1 (N:Nat) (vr_0:List Value) (r_0:Relation) (hr_0:qan m0 vr_0 r_0) {r:Bool} (hF:qfj N r_0 = some r) (ok:Ok u m0 S w) :
  Calls Tryd.prog 50 [.agg vr_0.toArray].toArray w fun e w'=>(e = .returned (.bool r) ∧ Ok u m0 S w'):=by
 obtain ⟨c3,rfl,r1,r2,h4⟩:=hr_0
 unfold qfj at hF
 refine en (qgu u m0 S) r Tryd.func50 rfl rfl rfl (fun _ _ h=>ra h rfl) fun fin a E=>sg<|qbQ E ok rfl rfl rfl fun b5 a w E ok=>aw E rfl fun a E=>wp_seq<|sg<|fk E ok qa6 qam rfl 0 rfl rfl fun a E=>lw E (qaC rfl rfl) fun a E=>mv E rfl fun a E=>bu E 8 hF (fun c6 hF E=>?_) fun c6 hF E=>?_
 ·refine lsq E fun a E=>ls E fun a E=>pt E rfl rfl fun a E=>mv E rfl fun a E=>lsz E fun a E=>lsz E fun a E=>lsq E fun a E=>ls E fun a E=>?_
  refine pt E rfl rfl fun a E=>mv E rfl fun a E=>lsz E fun a E=>pt E rfl rfl fun a E=>mv E rfl fun a E=>lsz E fun a E=>pt E rfl rfl fun a E=>wn<|c_if E rfl (fun _=>?_) (fun h=>by cases h)
  refine sg<|aw E rfl fun a E=>wp_ret<|qav ?_
  exact fin hF ⟨ok.drop,E.d,rz E rfl⟩
 refine fk E ok qa6 qam rfl 0 rfl rfl fun a E=>lw E (qcK rfl rfl) fun a E=>pf E rfl rfl fun a E=>mv E rfl fun a E=>bu E 13 hF (fun c7 hF E=>?_) fun c7 hF E=>?_
 ·refine lsz E fun a E=>lsz E fun a E=>lsq E fun a E=>ls E fun a E=>pt E rfl rfl fun a E=>mv E rfl fun a E=>lsq E fun a E=>ls E fun a E=>?_
  refine ls E fun a E=>pt E rfl rfl fun a E=>mv E rfl fun a E=>lsz E fun a E=>pt E rfl rfl fun a E=>wn<|c_if E rfl (fun _=>?_) (fun h=>by cases h)
  refine sg<|aw E rfl fun a E=>wp_ret<|qav ?_
  exact fin hF ⟨ok.drop,E.d,rz E rfl⟩
 refine fk E ok qej qam rfl 0 rfl rfl fun a E=>lw E (qd5 rfl rfl) fun a E=>mv E rfl fun a E=>bw E 17 hF (fun c8 hF E=>?_) fun c8 hF E=>?_
 ·as_aux_lemma =>
   refine lsz E fun a E=>lsq E fun a E=>pf E rfl rfl fun a E=>pf E rfl rfl fun a E=>mv E rfl fun a E=>fk E ok qbn qca rfl 0 rfl rfl fun a E=>lv E ok (qaz qbX h4 rfl) fun a E=>lw E (qaC rfl rfl) fun a E=>pf E rfl rfl fun a E=>mv E rfl fun a E=>bu E 32 hF (fun c40 hF E=>?_) fun c40 hF E=>?_
   ·refine lsz E fun a E=>pt E rfl rfl fun a E=>wn<|c_if E rfl (fun _=>?_) (fun h=>by cases h)
    refine sg<|aw E rfl fun a E=>wp_ret<|qav ?_
    exact fin hF ⟨ok.drop,E.d,rz E rfl⟩
   refine fk E ok qbn qca rfl 0 rfl rfl fun a E=>lv E ok (qaz qbX h4 rfl) fun a E=>lw E (qcK rfl rfl) fun a E=>pf E rfl rfl fun a E=>wn<|cf E rfl hF (fun c41 hF=>?_) fun c41 hF=>?_
   ·refine sg<|aw E rfl fun a E=>wp_ret<|qav ?_
    exact fin hF ⟨ok.drop,E.d,rz E rfl⟩
   refine wp_skip<|qaa<|wp_seq<|sg<|fk E ok qbn qca rfl 0 rfl rfl fun a E=>lv E ok (qaz qbX h4 rfl) fun a E=>mv E rfl fun a E=>wn<|wp_block<|bd hF fun o43 hL hF=>qaH _ (fun (s:Int) a w=>Ok u m0 ([(b5,oc 54 [vi r_0.Operand,vi r_0.Mod,vb r_0.Not,c3])] :: S) w ∧ Env 64 a [(1,vp b5),(39,c3),(40,(vi (r_0.Spans.length:Int))),(41,vi s)] ∧ InR .i64 s) (fun (b:(Unit ⊕ Bool)) e a w=>(Sum.elim (fun b66=>e = (.exit 0) ∧ Ok u m0 ([(b5,oc 54 [vi r_0.Operand,vi r_0.Mod,vb r_0.Not,c3])] :: S) w ∧ Env 64 a []) (fun b67=>e = .ret ∧ qgu u m0 S b67 a w)) b) ?_ ?_ N _ a w hL ⟨ok,E.keep [1,39,40,41],(ir 0)⟩
   rotate_left
   ·intro e a w _ hO
    rcases o43 with o43 | o43
    rotate_left
    ·obtain ⟨rfl,hret⟩:=hO
     refine qaI<|qav ?_
     exact fin hF hret
    have hF:=qcN hF
    obtain ⟨rfl,ok,E⟩:=hO
    refine qaN<|qaa<|sg<|aw E rfl fun a E=>wp_ret ?_
    exact fin hF ⟨ok.drop,E.d,rz E rfl⟩
   rintro v45 a w r ⟨ok,E,r46⟩ hF
   replace hF:qfw N r_0 v45 = some r:=hF
   unfold qfw at hF
   refine sg<|lw E (qaC rfl rfl) fun a E=>wn<|wp_seq<|cg E rfl hF (fun c47 hF=>?_) fun c47 hF=>?_
   ·refine wp_exit<|qaE ?_
    cases hF
    exact so (sl ⟨rfl,⟨ok,E.keep []⟩⟩)
   refine wp_skip<|qaa<|wp_seq<|wp_block<|sg ?_
   obtain ⟨x48,e49,hF⟩:=bnd hF
   obtain ⟨b50,o51,es52,hl53,rr54,at55,yy56⟩:=ia E 39 41 qbX h4 e49
   obtain ⟨rfl,r57,r58⟩:=rr54
   refine lv E ok (yy56 _ _) fun a E=>lv E ok (qaj (cs:=[vi x48.From,vi x48.To]) qfF rfl rfl (qab.ro at55)) fun a E=>qaw E ok qd3 rfl rfl fun b59 a w E ok=>qaf E ok 0 rfl rfl rfl qgs rfl rfl ⟨rfl,rfl,trivial⟩ rfl rfl fun w ok=>wn<|wp_seq<|qee (by kernel_rfl) (by kernel_rfl) ok<|qv E (qae qfZ rfl) fun a E=>qv E (qai qam rfl (qab.own 0 rfl rfl)) fun a E=>qv E (qaC rfl rfl) fun a E=>qv E (qah rfl) fun a E=>bu E 48 hF (fun c60 hF E=>?_) fun c60 hF E=>?_
   ·refine qs E fun a E=>qs E fun a E=>qs E fun a E=>qs E fun a E=>qs E fun a E=>qv E (qbe rfl rfl) fun a E=>qv E (qah rfl) fun a E=>qs E fun a E=>qs E fun a E=>qs E fun a E=>qs E fun a E=>qs E fun a E=>qs E fun a E=>qv E (qbe rfl rfl) fun a E=>wpQuiet_nil ?_
    intro w ok
    refine qaa<|c_if E rfl (fun _=>?_) (fun h=>by cases h)
    refine sg<|aw E rfl fun a E=>wp_ret<|qaI<|qav ?_
    cases hF
    exact so (sr ⟨rfl,⟨ok.drop.drop,E.d,rz E rfl⟩⟩)
   refine qv E (qae qfZ rfl) fun a E=>qv E (qai qam rfl (qab.own 0 rfl rfl)) fun a E=>qv E (qae qeL rfl) fun a E=>qv E (qai qam rfl (qab.own 0 rfl rfl)) fun a E=>qv E (qcK rfl rfl) fun a E=>qv E (qa5 rfl rfl) fun a E=>qv E (qah rfl) fun a E=>bu E 55 hF (fun c61 hF E=>?_) fun c61 hF E=>?_
   ·refine qs E fun a E=>qs E fun a E=>qs E fun a E=>qs E fun a E=>qs E fun a E=>qs E fun a E=>qv E (qbe rfl rfl) fun a E=>wpQuiet_nil ?_
    intro w ok
    refine qaa<|c_if E rfl (fun _=>?_) (fun h=>by cases h)
    refine sg<|aw E rfl fun a E=>wp_ret<|qaI<|qav ?_
    cases hF
    exact so (sr ⟨rfl,⟨ok.drop.drop,E.d,rz E rfl⟩⟩)
   refine qv E (qae qeL rfl) fun a E=>qv E (qai qam rfl (qab.own 0 rfl rfl)) fun a E=>qv E (qae qa6 rfl) fun a E=>qv E (qai qam rfl (qab.own 1 rfl rfl)) fun a E=>?_
   obtain ⟨r62,e63,hF⟩:=bnd hF
   obtain ⟨_,_,⟨_,_⟩,r64⟩:=Go.X.Calls.get (qe6 N r_0.Operand r1 e63 ok)
   refine qg0 E qr6 rfl (fun w ok=>(qe6 N r_0.Operand r1 e63 ok).mono (fun _ _ h=>h.1)) rfl rfl fun a E=>qv E (qcK rfl rfl) fun a E=>qv E (qa5 rfl rfl) fun a E=>wpQuiet_nil ?_
   intro w ok
   refine qaa<|cg E rfl hF (fun c65 hF=>?_) fun c65 hF=>?_
   ·refine wp_skip<|qap<|qaa<|qac<|lw E (qaA rfl rfl (InR.inc r46 (qal h4) c47)) fun a E=>mv E rfl fun a E=>wpList_nil ?_
    cases hF
    exact qau ⟨(ok.pk 2 [1] rfl (by decide)),E.keep [1,39,40,41],(InR.inc r46 (qal h4) c47)⟩
   refine sg<|aw E rfl fun a E=>wp_ret<|qaI<|qav ?_
   cases hF
   exact so (sr ⟨rfl,⟨ok.drop.drop,E.d,rz E rfl⟩⟩)
 refine fk E ok qa6 qam rfl 0 rfl rfl fun a E=>fk E ok qej qam rfl 0 rfl rfl fun a E=>bd hF fun r9 e10 hF=>lc E quS rfl (qjK N r_0.Operand r1 r_0.Mod r2 e10 ok) fun w ok a E=>lw E (qbW rfl) fun a E=>pt E rfl rfl fun a E=>pf E rfl rfl fun a E=>mv E rfl fun a E=>bu E 26 hF (fun c11 hF E=>?_) fun c11 hF E=>?_
 ·refine lsz E fun a E=>pt E rfl rfl fun a E=>mv E rfl fun a E=>lsz E fun a E=>pt E rfl rfl fun a E=>wn<|c_if E rfl (fun _=>?_) (fun h=>by cases h)
  refine sg<|aw E rfl fun a E=>wp_ret<|qav ?_
  exact fin hF ⟨ok.drop,E.d,rz E rfl⟩
 refine fk E ok qbn qca rfl 0 rfl rfl fun a E=>lv E ok (qaz qbX h4 rfl) fun a E=>lw E (qaC rfl rfl) fun a E=>pf E rfl rfl fun a E=>mv E rfl fun a E=>bu E 32 hF (fun c12 hF E=>?_) fun c12 hF E=>?_
 ·refine lsz E fun a E=>pt E rfl rfl fun a E=>wn<|c_if E rfl (fun _=>?_) (fun h=>by cases h)
  refine sg<|aw E rfl fun a E=>wp_ret<|qav ?_
  exact fin hF ⟨ok.drop,E.d,rz E rfl⟩
 refine fk E ok qbn qca rfl 0 rfl rfl fun a E=>lv E ok (qaz qbX h4 rfl) fun a E=>lw E (qcK rfl rfl) fun a E=>pf E rfl rfl fun a E=>wn<|cf E rfl hF (fun c13 hF=>?_) fun c13 hF=>?_
 ·refine sg<|aw E rfl fun a E=>wp_ret<|qav ?_
  exact fin hF ⟨ok.drop,E.d,rz E rfl⟩
 refine wp_skip<|qaa<|wp_seq<|sg<|fk E ok qbn qca rfl 0 rfl rfl fun a E=>lv E ok (qaz qbX h4 rfl) fun a E=>mv E rfl fun a E=>wn<|wp_block<|bd hF fun o15 hL hF=>qaH _ (fun (s:Int) a w=>Ok u m0 ([(b5,oc 54 [vi r_0.Operand,vi r_0.Mod,vb r_0.Not,c3])] :: S) w ∧ Env 64 a [(1,vp b5),(39,c3),(40,(vi (r_0.Spans.length:Int))),(41,vi s)] ∧ InR .i64 s) (fun (b:(Unit ⊕ Bool)) e a w=>(Sum.elim (fun b38=>e = (.exit 0) ∧ Ok u m0 ([(b5,oc 54 [vi r_0.Operand,vi r_0.Mod,vb r_0.Not,c3])] :: S) w ∧ Env 64 a []) (fun b39=>e = .ret ∧ qgu u m0 S b39 a w)) b) ?_ ?_ N _ a w hL ⟨ok,E.keep [1,39,40,41],(ir 0)⟩
 rotate_left
 ·intro e a w _ hO
  rcases o15 with o15 | o15
  rotate_left
  ·obtain ⟨rfl,hret⟩:=hO
   refine qaI<|qav ?_
   exact fin hF hret
  have hF:=qcN hF
  obtain ⟨rfl,ok,E⟩:=hO
  refine qaN<|qaa<|sg<|aw E rfl fun a E=>wp_ret ?_
  exact fin hF ⟨ok.drop,E.d,rz E rfl⟩
 rintro v17 a w r ⟨ok,E,r18⟩ hF
 replace hF:qdH N r_0 v17 = some r:=hF
 unfold qdH at hF
 refine sg<|lw E (qaC rfl rfl) fun a E=>wn<|wp_seq<|cg E rfl hF (fun c19 hF=>?_) fun c19 hF=>?_
 ·refine wp_exit<|qaE ?_
  cases hF
  exact so (sl ⟨rfl,⟨ok,E.keep []⟩⟩)
 refine wp_skip<|qaa<|wp_seq<|wp_block<|sg ?_
 obtain ⟨x20,e21,hF⟩:=bnd hF
 obtain ⟨b22,o23,es24,hl25,rr26,at27,yy28⟩:=ia E 39 41 qbX h4 e21
 obtain ⟨rfl,r29,r30⟩:=rr26
 refine lv E ok (yy28 _ _) fun a E=>lv E ok (qaj (cs:=[vi x20.From,vi x20.To]) qfF rfl rfl (qab.ro at27)) fun a E=>qaw E ok qd3 rfl rfl fun b31 a w E ok=>qaf E ok 0 rfl rfl rfl qgs rfl rfl ⟨rfl,rfl,trivial⟩ rfl rfl fun w ok=>wn<|wp_seq<|qee (by kernel_rfl) (by kernel_rfl) ok<|qv E (qae qfZ rfl) fun a E=>qv E (qai qam rfl (qab.own 0 rfl rfl)) fun a E=>qv E (qaC rfl rfl) fun a E=>qv E (qah rfl) fun a E=>bu E 48 hF (fun c32 hF E=>?_) fun c32 hF E=>?_
 ·refine qs E fun a E=>qs E fun a E=>qs E fun a E=>qs E fun a E=>qs E fun a E=>qv E (qbe rfl rfl) fun a E=>qv E (qah rfl) fun a E=>qs E fun a E=>qs E fun a E=>qs E fun a E=>qs E fun a E=>qs E fun a E=>qs E fun a E=>qv E (qbe rfl rfl) fun a E=>wpQuiet_nil ?_
  intro w ok
  refine qaa<|c_if E rfl (fun _=>?_) (fun h=>by cases h)
  refine sg<|aw E rfl fun a E=>wp_ret<|qaI<|qav ?_
  cases hF
  exact so (sr ⟨rfl,⟨ok.drop.drop,E.d,rz E rfl⟩⟩)
 refine qv E (qae qfZ rfl) fun a E=>qv E (qai qam rfl (qab.own 0 rfl rfl)) fun a E=>qv E (qae qeL rfl) fun a E=>qv E (qai qam rfl (qab.own 0 rfl rfl)) fun a E=>qv E (qcK rfl rfl) fun a E=>qv E (qa5 rfl rfl) fun a E=>qv E (qah rfl) fun a E=>bu E 55 hF (fun c33 hF E=>?_) fun c33 hF E=>?_
 ·refine qs E fun a E=>qs E fun a E=>qs E fun a E=>qs E fun a E=>qs E fun a E=>qs E fun a E=>qv E (qbe rfl rfl) fun a E=>wpQuiet_nil ?_
  intro w ok
  refine qaa<|c_if E rfl (fun _=>?_) (fun h=>by cases h)
  refine sg<|aw E rfl fun a E=>wp_ret<|qaI<|qav ?_
  cases hF
  exact so (sr ⟨rfl,⟨ok.drop.drop,E.d,rz E rfl⟩⟩)
 refine qv E (qae qeL rfl) fun a E=>qv E (qai qam rfl (qab.own 0 rfl rfl)) fun a E=>qv E (qae qa6 rfl) fun a E=>qv E (qai qam rfl (qab.own 1 rfl rfl)) fun a E=>?_
 obtain ⟨r34,e35,hF⟩:=bnd hF
 obtain ⟨_,_,⟨_,_⟩,r36⟩:=Go.X.Calls.get (qe6 N r_0.Operand r1 e35 ok)
 refine qg0 E qr6 rfl (fun w ok=>(qe6 N r_0.Operand r1 e35 ok).mono (fun _ _ h=>h.1)) rfl rfl fun a E=>qv E (qcK rfl rfl) fun a E=>qv E (qa5 rfl rfl) fun a E=>wpQuiet_nil ?_
 intro w ok
 refine qaa<|cg E rfl hF (fun c37 hF=>?_) fun c37 hF=>?_
 ·refine wp_skip<|qap<|qaa<|qac<|lw E (qaA rfl rfl (InR.inc r18 (qal h4) c19)) fun a E=>mv E rfl fun a E=>wpList_nil ?_
  cases hF
  exact qau ⟨(ok.pk 2 [1] rfl (by decide)),E.keep [1,39,40,41],(InR.inc r18 (qal h4) c19)⟩
 refine sg<|aw E rfl fun a E=>wp_ret<|qaI<|qav ?_
 cases hF
 exact so (sr ⟨rfl,⟨ok.drop.drop,E.d,rz E rfl⟩⟩)
def qkx (u:World) (m0:Mem) (S:Segs) (r:Bool) (a:Act) (w:World):Prop :=
 Ok u m0 S w ∧ a.defers = [] ∧ RVs Tryd.prog a w [.t 2 (.bool r)]
theorem qkQ (N:Nat) (vr_0:List Value) (r_0:Relation) (hr_0:qan m0 vr_0 r_0) {r:Bool} (hF:qfP N r_0 = some r) (ok:Ok u m0 S w) :
  Calls Tryd.prog 49 [.agg vr_0.toArray].toArray w fun e w'=>(e = .returned (.bool r) ∧ Ok u m0 S w'):=by
 obtain ⟨c3,rfl,r1,r2,h4⟩:=hr_0
 unfold qfP at hF
 refine en (qkx u m0 S) r Tryd.func49 rfl rfl rfl (fun _ _ h=>ra h rfl) fun fin a E=>sg<|qbQ E ok rfl rfl rfl fun b5 a w E ok=>aw E rfl fun a E=>sg<|lv E ok (qaj (cs:=[vi r_0.Operand,vi r_0.Mod,vb r_0.Not,c3]) qbK rfl rfl (qab.own 0 rfl rfl)) fun a E=>bd hF fun r6 e7 hF=>lc E quo rfl (qk1 N _ r_0 ⟨_,rfl,r1,r2,h4⟩ e7 ok) fun w ok a E=>lw E (qbW rfl) fun a E=>aw E rfl fun a E=>wp_ret ?_
 exact fin hF ⟨ok.drop,E.d,rz E rfl⟩
def qdh (u:World) (m0:Mem) (S:Segs) (r:Int) (a:Act) (w:World):Prop :=
 Ok u m0 S w ∧ a.defers = [] ∧ RVs Tryd.prog a w [.t 4 (.int .i64 r)] ∧ InR .i64 r
theorem qfg (N:Nat) (vs_0:Value) (s_0:List (Relation)) (hs_0:(pL 4 qan) m0 [vs_0] s_0) {r:Int} (hF:qbB N s_0 = some r) (ok:Ok u m0 S w) :
  Calls Tryd.prog 67 [vs_0,.func (.func 49) #[] #[]].toArray w fun e w'=>(e = .returned (.int .i64 r) ∧ Ok u m0 S w') ∧ InR .i64 r:=by
 unfold qbB at hF
 refine en (qdh u m0 S) r Tryd.func67 rfl rfl rfl (fun _ _ h=>rb h rfl) fun fin a E=>sg<|aw E rfl fun a E=>wp_seq<|sg<|mv E rfl fun a E=>lv E ok (qaz qbr hs_0 rfl) fun a E=>mv E rfl fun a E=>wn<|wp_block<|bd hF fun o2 hL hF=>qaH _ (fun (s:Int) a w=>Ok u m0 (S) w ∧ Env 19 a [(0,vs_0),(1,(Value.func (.func 49) #[] #[])),(7,(vi (s_0.length:Int))),(8,vi s)] ∧ InR .i64 s) (fun (b:(Unit ⊕ Int)) e a w=>(Sum.elim (fun b23=>e = (.exit 0) ∧ Ok u m0 (S) w ∧ Env 19 a []) (fun b24=>e = .ret ∧ qdh u m0 S b24 a w)) b) ?_ ?_ N _ a w hL ⟨ok,E.keep [0,1,7,8],(ir 0)⟩
 rotate_left
 ·intro e a w _ hO
  rcases o2 with o2 | o2
  rotate_left
  ·obtain ⟨rfl,hret⟩:=hO
   refine qaI<|qav ?_
   exact fin hF hret
  have hF:=qcN hF
  obtain ⟨rfl,ok,E⟩:=hO
  refine qaN<|qaa<|sg<|aw E rfl fun a E=>wp_ret ?_
  exact fin hF ⟨ok,E.d,rz E rfl,(ir (-1))⟩
 rintro v4 a w r ⟨ok,E,r5⟩ hF
 replace hF:qa8 N s_0 v4 = some r:=hF
 unfold qa8 at hF
 refine sg<|lw E (qaC rfl rfl) fun a E=>wn<|wp_seq<|cg E rfl hF (fun c6 hF=>?_) fun c6 hF=>?_
 ·refine wp_exit<|qaE ?_
  cases hF
  exact so (sl ⟨rfl,⟨ok,E.keep []⟩⟩)
 refine wp_skip<|qaa<|wp_seq<|wp_block<|sg<|mv E rfl fun a E=>av E rfl fun a E=>wn<|sg<|mz E rfl rfl fun a E=>mv E rfl fun a E=>?_
 obtain ⟨x7,e8,hF⟩:=bnd hF
 obtain ⟨b9,o10,es11,hl12,rr13,at14,yy15⟩:=ia E 12 13 qbr hs_0 e8
 obtain ⟨c18,rfl,r16,r17,h19⟩:=rr13
 refine lv E ok (yy15 _ _) fun a E=>lv E ok (qaj (cs:=[vi x7.Operand,vi x7.Mod,vb x7.Not,c18]) qbK rfl rfl (qab.ro at14)) fun a E=>bd hF fun r20 e21 hF=>qiE E rfl quO rfl (qkQ N _ x7 ⟨_,rfl,r16,r17,h19⟩ e21 ok) rfl rfl ?_
 rintro _ w ⟨rfl,ok⟩
 refine ⟨_,rfl,fun a E=>?_⟩
 refine wn<|cg E rfl hF (fun c22 hF=>?_) fun c22 hF=>?_
 ·refine wp_skip<|qap<|qaa<|qac<|lw E (qaA rfl rfl (InR.inc r5 (qal hs_0) c6)) fun a E=>mv E rfl fun a E=>wpList_nil ?_
  cases hF
  exact qau ⟨ok,E.keep [0,1,7,8],(InR.inc r5 (qal hs_0) c6)⟩
 refine sg<|mv E rfl fun a E=>aw E rfl fun a E=>wp_ret<|qaI<|qav ?_
 cases hF
 exact so (sr ⟨rfl,⟨ok,E.d,rz E rfl,r5⟩⟩)
def qe2 (u:World) (m0:Mem) (S:Segs) (r:Bool) (a:Act) (w:World):Prop :=
 Ok u m0 S w ∧ a.defers = [] ∧ RVs Tryd.prog a w [.t 4 (.bool r)]
theorem qeY (N:Nat) (vs_0:Value) (s_0:List (Relation)) (hs_0:(pL 4 qan) m0 [vs_0] s_0) {r:Bool} (hF:qa7 N s_0 = some r) (ok:Ok u m0 S w) :
  Calls Tryd.prog 48 [vs_0,.func (.func 49) #[] #[]].toArray w fun e w'=>(e = .returned (.bool r) ∧ Ok u m0 S w'):=by
 unfold qa7 at hF
 refine en (qe2 u m0 S) r Tryd.func48 rfl rfl rfl (fun _ _ h=>ra h rfl) fun fin a E=>sg<|aw E rfl fun a E=>sg<|mz E rfl rfl fun a E=>bd hF fun r1 e2 hF=>qao E quj rfl (qfg N _ s_0 hs_0 e2 ok) rfl rfl ?_
 rintro _ w ⟨⟨rfl,ok⟩,r3⟩
 refine ⟨_,rfl,fun a E=>?_⟩
 refine lw E (qjh rfl rfl) fun a E=>aw E rfl fun a E=>wp_ret ?_
 exact fin hF ⟨ok,E.d,rz E rfl⟩
def qis (u:World) (m0:Mem) (S:Segs) (r:Bool) (a:Act) (w:World):Prop :=
 Ok u m0 S w ∧ a.defers = [] ∧ RVs Tryd.prog a w [.t 2 (.bool r)]
theorem qfQ (N:Nat) (vc_0:Value) (c_0:List (List (Relation))) (hc_0:(pL 1 (pL 4 qan)) m0 [vc_0] c_0) {r:Bool} (hF:qdD N c_0 = some r) (ok:Ok u m0 S w) :
  Calls Tryd.prog 34 [vc_0].toArray w fun e w'=>(e = .returned (.bool r) ∧ Ok u m0 S w'):=by
 unfold qdD at hF
 refine en (qis u m0 S) r Tryd.func34 rfl rfl rfl (fun _ _ h=>ra h rfl) fun fin a E=>sg<|aw E rfl fun a E=>sg<|aw E rfl fun a E=>wp_seq<|sg<|mv E rfl fun a E=>lv E ok (qaz qdq hc_0 rfl) fun a E=>mv E rfl fun a E=>wn<|wp_block<|bd hF fun o3 hL hF=>qaH _ (fun (s:Int × Int) a w=>Ok u m0 (S) w ∧ Env 31 a [(0,vc_0),(3,vi s.1),(6,vc_0),(7,(vi (c_0.length:Int))),(8,vi s.2)] ∧ InR .i64 s.1 ∧ InR .i64 s.2) (fun (b:(Int ⊕ Bool)) e a w=>(Sum.elim (fun b28=>e = (.exit 0) ∧ Ok u m0 (S) w ∧ Env 31 a [(0,vc_0),(3,vi b28)] ∧ InR .i64 b28) (fun b30=>e = .ret ∧ qis u m0 S b30 a w)) b) ?_ ?_ N _ a w hL ⟨ok,E.keep [0,3,6,7,8],(ir 0),(ir 0)⟩
 rotate_left
 ·intro e a w _ hO
  rcases o3 with o3 | o3
  rotate_left
  ·obtain ⟨rfl,hret⟩:=hO
   refine qaI<|qav ?_
   exact fin hF hret
  have hF:=qcN hF
  obtain ⟨rfl,ok,E,r26⟩:=hO
  refine qaN<|qaa<|sg<|mv E rfl fun a E=>lv E ok (qaz qdq hc_0 rfl) fun a E=>lw E (qcK rfl rfl) fun a E=>mv E rfl fun a E=>bu E 27 hF (fun c27 hF E=>?_) fun c27 hF E=>?_
  ·refine mv E rfl fun a E=>lw E (qhF rfl rfl) fun a E=>pt E rfl rfl fun a E=>aw E rfl fun a E=>wp_ret ?_
   exact fin hF ⟨ok,E.d,rz E rfl⟩
  refine lsq E fun a E=>pf E rfl rfl fun a E=>aw E rfl fun a E=>wp_ret ?_
  exact fin hF ⟨ok,E.d,rz E rfl⟩
 rintro ⟨v6,v7⟩ a w r ⟨ok,E,r8,r9⟩ hF
 replace hF:qcC N c_0 v6 v7 = some r:=hF
 unfold qcC at hF
 refine sg<|lw E (qaC rfl rfl) fun a E=>wn<|wp_seq<|cg E rfl hF (fun c10 hF=>?_) fun c10 hF=>?_
 ·refine wp_exit<|qaE ?_
  cases hF
  exact so (sl ⟨rfl,⟨ok,E.keep [0,3],r8⟩⟩)
 refine wp_skip<|qaa<|wp_seq<|wp_block<|sg ?_
 obtain ⟨x11,e12,hF⟩:=bnd hF
 obtain ⟨b13,o14,es15,hl16,rr17,at18,yy19⟩:=ia E 6 8 qdq hc_0 e12
 obtain ⟨c20,rfl,h21⟩:=qbG rr17
 refine lv E ok (yy19 _ _) fun a E=>lv E ok (qai qdJ rfl (qab.ro at18)) fun a E=>aw E rfl fun a E=>wp_seq<|sg<|mv E rfl fun a E=>lv E ok (qaz qbr h21 rfl) fun a E=>lw E (qax rfl rfl) fun a E=>mv E rfl fun a E=>bu E 15 hF (fun c22 hF E=>?_) fun c22 hF E=>?_
 ·refine lsq E fun a E=>pt E rfl rfl fun a E=>wn<|c_if E rfl (fun _=>?_) (fun h=>by cases h)
  refine sg<|aw E rfl fun a E=>wp_ret<|qav<|qaI<|qav ?_
  cases hF
  exact so (sr ⟨rfl,⟨ok,E.d,rz E rfl⟩⟩)
 refine mv E rfl fun a E=>bd hF fun r23 e24 hF=>lc E quD rfl (qeY N _ x11 h21 e24 ok) fun w ok a E=>pf E rfl rfl fun a E=>wn<|cf E rfl hF (fun c25 hF=>?_) fun c25 hF=>?_
 ·refine sg<|aw E rfl fun a E=>wp_ret<|qav<|qaI<|qav ?_
  cases hF
  exact so (sr ⟨rfl,⟨ok,E.d,rz E rfl⟩⟩)
 refine wp_skip<|qaa<|qac<|mz E rfl rfl fun a E=>lv E ok (qaz qbr h21 rfl) fun a E=>lw E (qcg rfl rfl) fun a E=>av E rfl fun a E=>wpList_nil<|qap<|qaa<|qac<|lw E (qaA rfl rfl (InR.inc r9 (qal hc_0) c10)) fun a E=>mv E rfl fun a E=>wpList_nil ?_
 cases hF
 exact qau ⟨ok,E.keep [0,3,6,7,8],(InR.wrap _ _),(InR.inc r9 (qal hc_0) c10)⟩
def qjL (u:World) (m0:Mem) (S:Segs) (r:Bool) (a:Act) (w:World):Prop :=
 Ok u m0 S w ∧ a.defers = [] ∧ RVs Tryd.prog a w [.t 2 (.bool r)]
theorem qnd (N:Nat) (vl_0:Value) (l_0:List (List (List (Relation)))) (hl_0:(pL 1 (pL 1 (pL 4 qan))) m0 [vl_0] l_0) {r:Bool} (hF:qiO N l_0 = some r) (ok:Ok u m0 S w) :
  Calls Tryd.prog 37 [vl_0].toArray w fun e w'=>(e = .returned (.bool r) ∧ Ok u m0 S w'):=by
 unfold qiO at hF
 refine en (qjL u m0 S) r Tryd.func37 rfl rfl rfl (fun _ _ h=>ra h rfl) fun fin a E=>sg<|aw E rfl fun a E=>wp_seq<|sg<|mv E rfl fun a E=>lv E ok (qaz qdM hl_0 rfl) fun a E=>mv E rfl fun a E=>wn<|wp_block<|bd hF fun o2 hL hF=>qaH _ (fun (s:Int) a w=>Ok u m0 (S) w ∧ Env 18 a [(0,vl_0),(5,vl_0),(6,(vi (l_0.length:Int))),(7,vi s)] ∧ InR .i64 s) (fun (b:(Unit ⊕ Bool)) e a w=>(Sum.elim (fun b21=>e = (.exit 0) ∧ Ok u m0 (S) w ∧ Env 18 a [(0,vl_0)]) (fun b22=>e = .ret ∧ qjL u m0 S b22 a w)) b) ?_ ?_ N _ a w hL ⟨ok,E.keep [0,5,6,7],(ir 0)⟩
 rotate_left
 ·intro e a w _ hO
  rcases o2 with o2 | o2
  rotate_left
  ·obtain ⟨rfl,hret⟩:=hO
   refine qaI<|qav ?_
   exact fin hF hret
  have hF:=qcN hF
  obtain ⟨rfl,ok,E⟩:=hO
  refine qaN<|qaa<|sg<|mv E rfl fun a E=>lv E ok (qaz qdM hl_0 rfl) fun a E=>lw E (qhF rfl rfl) fun a E=>av E rfl fun a E=>wn<|wp_ret ?_
  exact fin hF ⟨ok,E.d,rz E rfl⟩
 rintro v4 a w r ⟨ok,E,r5⟩ hF
 replace hF:qhA N l_0 v4 = some r:=hF
 unfold qhA at hF
 refine sg<|lw E (qaC rfl rfl) fun a E=>wn<|wp_seq<|cg E rfl hF (fun c6 hF=>?_) fun c6 hF=>?_
 ·refine wp_exit<|qaE ?_
  cases hF
  exact so (sl ⟨rfl,⟨ok,E.keep [0]⟩⟩)
 refine wp_skip<|qaa<|wp_seq<|wp_block<|sg ?_
 obtain ⟨x7,e8,hF⟩:=bnd hF
 obtain ⟨b9,o10,es11,hl12,rr13,at14,yy15⟩:=ia E 5 7 qdM hl_0 e8
 obtain ⟨c16,rfl,h17⟩:=qbG rr13
 refine lv E ok (yy15 _ _) fun a E=>lv E ok (qai qfV rfl (qab.ro at14)) fun a E=>aw E rfl fun a E=>sg<|mv E rfl fun a E=>bd hF fun r18 e19 hF=>lc E qnX rfl (qfQ N _ x7 h17 e19 ok) fun w ok a E=>lw E (qbW rfl) fun a E=>wn<|cg E rfl hF (fun c20 hF=>?_) fun c20 hF=>?_
 ·refine wp_skip<|qap<|qaa<|qac<|lw E (qaA rfl rfl (InR.inc r5 (qal hl_0) c6)) fun a E=>mv E rfl fun a E=>wpList_nil ?_
  cases hF
  exact qau ⟨ok,E.keep [0,5,6,7],(InR.inc r5 (qal hl_0) c6)⟩
 refine sg<|aw E rfl fun a E=>wp_ret<|qaI<|qav ?_
 cases hF
 exact so (sr ⟨rfl,⟨ok,E.d,rz E rfl⟩⟩)
def qgZ (u:World) (m0:Mem) (S:Segs) (r:Int × Int × (List UInt8) × Int) (a:Act) (w:World):Prop :=
 Ok u m0 S w ∧ a.defers = [] ∧ RVs Tryd.prog a w [.t 2 (.int .i64 r.1),.t 3 (.int .i64 r.2.1),.t 4 (.string (bs r.2.2.1)),.t 5 (.int .i64 r.2.2.2)] ∧ InR .i64 r.1 ∧ InR .i64 r.2.1 ∧ r.2.2.1.length ≤ LIMS ∧ InR .i64 r.2.2.2
theorem qlP (N:Nat) (vl_0:Value) (l_0:List (Rule)) (hl_0:(pL 2 qpZ) m0 [vl_0] l_0) {r:Int × Int × (List UInt8) × Int} (hF:qhG N l_0 = some r) (hTb:Tab u) (ok:Ok u m0 S w) :
  Calls Tryd.prog 12 [vl_0].toArray w fun e w'=>(e = .returned (.tuple [(.int .i64 r.1),(.int .i64 r.2.1),(.string (bs r.2.2.1)),(.int .i64 r.2.2.2)].toArray) ∧ Ok u m0 S w') ∧ InR .i64 r.1 ∧ InR .i64 r.2.1 ∧ r.2.2.1.length ≤ LIMS ∧ InR .i64 r.2.2.2:=by
 have le_m0:=Mem.le.refl m0
 unfold qhG at hF
 refine en (qgZ u m0 S) r Tryd.func12 rfl rfl rfl (by rintro a w ⟨ok,hd,hrv,h0,h1,h2,h3⟩; exact qbC [.t 2 (.int .i64 r.1),.t 3 (.int .i64 r.2.1),.t 4 (.string (bs r.2.2.1)),.t 5 (.int .i64 r.2.2.2)] hd rfl hrv ⟨⟨rfl,ok⟩,h0,h1,h2,h3⟩) fun fin a E=>sg<|av E rfl fun a E=>av E rfl fun a E=>av E rfl fun a E=>av E rfl fun a E=>wn<|sg<|aw E rfl fun a E=>wp_seq<|sg<|mv E rfl fun a E=>lv E ok (qaz qmF hl_0 rfl) fun a E=>mv E rfl fun a E=>wn<|wp_block ?_
 obtain ⟨M6,ok,h7⟩:=qd1 (e:=23) (k:=1) (R:=(pL 1 (pL 4 qan))) ok
 refine bd hF fun o8 hL hF=>qaH _ (fun (s:(List (List (List (Relation)))) × Int) a w=>∃ c9 M10,Ok u m0 (M10 :: S) w ∧ Env 59 a [(0,vl_0),(6,c9),(13,vl_0),(14,(vi (l_0.length:Int))),(15,vi s.2)] ∧ ORow 23 1 (pL 1 (pL 4 qan)) m0 c9 s.1 M10 ∧ InR .i64 s.2) (fun (b:((List (List (List (Relation)))))) e a w=>e = (.exit 0) ∧ ∃ c136 M137,Ok u m0 (M137 :: S) w ∧ Env 59 a [(0,vl_0),(6,c136)] ∧ ORow 23 1 (pL 1 (pL 4 qan)) m0 c136 b M137) ?_ ?_ N _ a w hL ⟨(Value.slice none 0 0),M6,ok,E.keep [0,6,13,14,15],h7,(ir 0)⟩
 ·rintro ⟨v13,v14⟩ a w r ⟨c15,M16,ok,E,h17,r18⟩ hF
  replace hF:qgx N l_0 v13 v14 = some r:=hF
  unfold qgx at hF
  refine sg<|lw E (qaC rfl rfl) fun a E=>wn<|wp_seq<|cg E rfl hF (fun c19 hF=>?_) fun c19 hF=>?_
  ·refine wp_exit<|qaE ?_
   cases hF
   exact so (⟨rfl,⟨c15,M16,ok,E.keep [0,6],h17⟩⟩)
  refine wp_skip<|qaa<|wp_seq<|wp_block<|sg ?_
  obtain ⟨x20,e21,hF⟩:=bnd hF
  obtain ⟨b22,o23,es24,hl25,rr26,at27,yy28⟩:=ia E 13 15 qmF hl_0 e21
  obtain ⟨c30,rfl,l29,h31⟩:=rr26
  refine lv E ok (yy28 _ _) fun a E=>lv E ok (qaj (cs:=[vs x20.Class,c30]) qtD rfl rfl (qab.ro at27)) fun a E=>qaw E ok qlt rfl rfl fun b32 a w E ok=>qaf E ok 0 rfl rfl rfl qtI rfl rfl ⟨rfl,(qa9 h31),trivial⟩ rfl rfl fun w ok=>wn<|qac<|mv E rfl fun a E=>fk E ok qsM qfV rfl 0 rfl rfl fun a E=>qbH (R:=(pL 1 (pL 4 qan))) (xo:=[.tmp 21]) (xs:=([x20.Cond]:List (List (List (Relation))))) E ok qdM qjF rfl ⟨⟨_,(qcj h31),rfl,h31⟩,trivial⟩ rfl rfl rfl rfl fun c33 M34 a w E ok h35=>bd hF fun l36 e37 hF=>qdn (R:=(pL 1 (pL 4 qan))) E ok 2 (mL (mL qad)) qdM Tryd.underlying26 rfl h17 (qbP.ofRow h35 0 rfl ok) e37 ⟨_,qjF,rfl⟩ rfl rfl rfl rfl fun c38 M39 a w E ok h40=>av E rfl fun a E=>wpList_nil<|qap<|qaa<|qac<|lw E (qaA rfl rfl (InR.inc r18 (qal hl_0) c19)) fun a E=>mv E rfl fun a E=>wpList_nil ?_
  cases hF
  exact qau ⟨c38,M39,(ok.pk 3 [2] rfl (by decide)),E.keep [0,6,13,14,15],h40,(InR.inc r18 (qal hl_0) c19)⟩
 intro e a w _ hO
 obtain ⟨rfl,c41,M42,ok,E,h43⟩:=hO
 refine qaN<|qaa<|wp_seq<|sg<|mv E rfl fun a E=>?_
 obtain ⟨r49,e50,hF⟩:=bnd hF
 obtain ⟨m44,hle46,ok45,hfz47⟩:=(ok.frs 0 rfl).freeze
 have h48:=ORow.froz (mL (mL qad)) h43 hle46 hfz47 (by decide)
 refine qao E qux rfl (qnd N _ o8 h48 e50 ok45) rfl rfl ?_
 rintro _ w ⟨rfl,okz⟩
 replace ok:=(Ok.thawAt 0 rfl ok hle46 hfz47 okz)
 refine ⟨_,rfl,fun a E=>?_⟩
 refine lw E (qbW rfl) fun a E=>wn<|cf E rfl hF (fun c51 hF=>?_) fun c51 hF=>?_
 ·refine sg<|av E rfl fun a E=>av E rfl fun a E=>av E rfl fun a E=>aw E rfl fun a E=>wp_ret<|qav ?_
  exact fin hF ⟨ok.drop,E.d,⟨rv_t E rfl,rv_t E rfl,rv_t E rfl,rv_t E rfl,trivial⟩,(ir 0),(ir 0),(show ([]:List UInt8).length ≤ LIMS by decide),(ir 1)⟩
 refine wp_skip<|qaa<|wp_seq<|sg<|mv E rfl fun a E=>lv E ok (qaz qmF hl_0 rfl) fun a E=>mv E rfl fun a E=>wn<|wp_block<|bd hF fun o53 hL hF=>qaH _ (fun (s:Int) a w=>Ok u m0 (M42 :: S) w ∧ Env 59 a [(0,vl_0),(6,c41),(29,(vi (l_0.length:Int))),(30,vi s)] ∧ InR .i64 s) (fun (b:(Unit ⊕ (Int × Int × (List UInt8) × Int))) e a w=>(Sum.elim (fun b134=>e = (.exit 2) ∧ Ok u m0 (M42 :: S) w ∧ Env 59 a []) (fun b135=>e = .ret ∧ qgZ u m0 S b135 a w)) b) ?_ ?_ N _ a w hL ⟨ok,E.keep [0,6,29,30],(ir 0)⟩
 rotate_left
 ·intro e a w _ hO
  rcases o53 with o53 | o53
  rotate_left
  ·obtain ⟨rfl,hret⟩:=hO
   refine qaI<|qav ?_
   exact fin hF hret
  have hF:=qcN hF
  obtain ⟨rfl,ok,E⟩:=hO
  refine qaN<|qaa<|sg<|av E rfl fun a E=>av E rfl fun a E=>av E rfl fun a E=>av E rfl fun a E=>wn<|wp_ret ?_
  exact fin hF ⟨ok.drop,E.d,⟨rv_t E rfl,rv_t E rfl,rv_t E rfl,rv_t E rfl,trivial⟩,(ir 0),(ir 0),(show ([]:List UInt8).length ≤ LIMS by decide),(ir 0)⟩
 rintro v55 a w r ⟨ok,E,r56⟩ hF
 replace hF:qgy N l_0 o8 v55 = some r:=hF
 unfold qgy at hF
 refine sg<|lw E (qaC rfl rfl) fun a E=>wn<|wp_seq<|cg E rfl hF (fun c57 hF=>?_) fun c57 hF=>?_
 ·refine wp_exit<|qaE ?_
  cases hF
  exact so (sl ⟨rfl,⟨ok,E.keep []⟩⟩)
 refine wp_skip<|qaa<|wp_seq<|wp_block<|sg<|mv E rfl fun a E=>av E rfl fun a E=>wn<|sg<|mv E rfl fun a E=>lw E (qaA rfl rfl (InR.inc r56 (qal hl_0) c57)) fun a E=>av E rfl fun a E=>wn<|wp_block<|bd hF fun o59 hL hF=>qaH _ (fun (s:Int) a w=>Ok u m0 (M42 :: S) w ∧ Env 59 a [(0,vl_0),(6,c41),(9,vi v55),(10,vi s),(29,(vi (l_0.length:Int))),(30,vi v55)] ∧ InR .i64 s) (fun (b:(Unit ⊕ (Int × Int × (List UInt8) × Int))) e a w=>(Sum.elim (fun b132=>e = (.exit 4) ∧ Ok u m0 (M42 :: S) w ∧ Env 59 a [(0,vl_0),(6,c41),(29,(vi (l_0.length:Int))),(30,vi v55)]) (fun b133=>e = .ret ∧ qgZ u m0 S b133 a w)) b) ?_ ?_ N _ a w hL ⟨ok,E.keep [0,6,9,10,29,30],(InR.inc r56 (qal hl_0) c57)⟩
 rotate_left
 ·intro e a w _ hO
  rcases o59 with o59 | o59
  rotate_left
  ·have hF:=qmB hF
   obtain ⟨rfl,hret⟩:=hO
   refine qaI<|qaI<|qav ?_
   cases hF
   exact so (sr ⟨rfl,hret⟩)
  have hF:=qcN hF
  obtain ⟨rfl,ok,E⟩:=hO
  refine qaN<|qap<|qaa<|qac<|lw E (qaA rfl rfl (InR.inc r56 (qal hl_0) c57)) fun a E=>mv E rfl fun a E=>wpList_nil ?_
  cases hF
  exact qau ⟨ok,E.keep [0,6,29,30],(InR.inc r56 (qal hl_0) c57)⟩
 rintro v61 a w r ⟨ok,E,r62⟩ hF
 replace hF:qgJ N l_0 o8 v55 v61 = some r:=hF
 unfold qgJ at hF
 refine wp_seq<|sg<|mz E rfl rfl fun a E=>lv E ok (qaz qmF hl_0 rfl) fun a E=>lw E (qaC rfl rfl) fun a E=>wn<|cg E rfl hF (fun c63 hF=>?_) fun c63 hF=>?_
 ·refine wp_exit<|qaE ?_
  cases hF
  exact so (sl ⟨rfl,⟨ok,E.keep [0,6,29,30]⟩⟩)
 refine wp_skip<|qaa<|wp_seq<|wp_block<|wp_seq<|bd hF fun o64 hJ hF=>qaO (Q':=fun e a w=>e = .normal ∧ Ok u m0 (M42 :: S) w ∧ Env 59 a [(0,vl_0),(6,c41),(9,vi v55),(10,vi v61),(11,vs o64.1),(12,vb o64.2),(29,(vi (l_0.length:Int))),(30,vi v55)] ∧ o64.1.length ≤ LIMS) ?_ ?_
 rotate_left
 ·intro e a w hO
  obtain ⟨rfl,ok,E,l130⟩:=hO
  refine qaa<|sg<|mv E rfl fun a E=>wn<|cg E rfl hF (fun c131 hF=>?_) fun c131 hF=>?_
  ·refine wp_skip<|qap<|qaa<|qac<|mv E rfl fun a E=>lw E (qaA rfl rfl (InR.inc r62 (qal hl_0) c63)) fun a E=>av E rfl fun a E=>wpList_nil ?_
   cases hF
   exact qau ⟨ok,E.keep [0,6,9,10,29,30],(InR.inc r62 (qal hl_0) c63)⟩
  refine sg<|mz E rfl rfl fun a E=>mv E rfl fun a E=>av E rfl fun a E=>av E rfl fun a E=>av E rfl fun a E=>aw E rfl fun a E=>wp_ret<|qaI<|qav ?_
  cases hF
  exact so (sr ⟨rfl,⟨ok.drop,E.d,⟨rv_t E rfl,rv_t E rfl,rv_t E rfl,rv_t E rfl,trivial⟩,r56,r62,l130,(ir 19)⟩⟩)
 have hF:=hJ
 obtain ⟨x66,e67,hF⟩:=bnd hF
 obtain ⟨x78,e79,hF⟩:=bnd hF
 obtain ⟨r98,e99,hF⟩:=bnd hF
 obtain rfl:=sj hF
 refine qaX [] (Cls u m0 (M42 :: [])) (Cls u m0 (M42 :: [])) (by kernel_rfl) ?_
 intro w hw
 replace ok:=qa3 ok hw
 clear hw
 refine qag (cl1 (cq le_m0 ok [0] rfl) (cq le_m0 ok [0] rfl)) fun hT=>kt 0 E rfl hT (qah rfl) fun a E=>kt 1 E rfl hT (qah rfl) fun a E=>?_
 obtain ⟨b101,o102,hp103,yy104⟩:=qbf qdM h43 e67 (P:=Tryd.prog) (X:=.tmp 42) (I:=.tmp 43) (kd:=.i64) (qay E rfl) (qay E rfl)
 refine kt 2 E rfl hT (yy104 _ _) fun a E=>?_
 obtain ⟨es105,hl106,rr107,hh108⟩:=qbT h43 e67 hp103 (by decide)
 obtain ⟨c109,rfl,h110⟩:=qbG rr107
 refine kt 3 E rfl hT (qai qfV rfl (qab.crow hh108 0 rfl)) fun a E=>kt 4 E rfl hT (qah rfl) fun a E=>kt 5 E rfl hT (qah rfl) fun a E=>?_
 obtain ⟨b111,o112,hp113,yy114⟩:=qbf qdM h43 e79 (P:=Tryd.prog) (X:=.tmp 46) (I:=.tmp 47) (kd:=.i64) (qay E rfl) (qay E rfl)
 refine kt 6 E rfl hT (yy114 _ _) fun a E=>?_
 obtain ⟨es115,hl116,rr117,hh118⟩:=qbT h43 e79 hp113 (by decide)
 obtain ⟨c119,rfl,h120⟩:=qbG rr117
 refine kt 7 E rfl hT (qai qfV rfl (qab.crow hh118 0 rfl)) fun a E=>qar [8] (by kernel_rfl) rfl (qas ?_)
 ·refine wo rfl<|qbH (R:=(pL 1 (pL 4 qan))) (xo:=[.tmp 45,.tmp 49]) (xs:=([x66,x78]:List (List (List (Relation))))) E ok qdM qjF rfl ⟨⟨_,(qcj h110),rfl,h110⟩,⟨_,(qcj h120),rfl,h120⟩,trivial⟩ rfl rfl rfl rfl fun c121 M122 a w E ok h123=>wn<|qag (cl1 (cq le_m0 ok [1] rfl) (cq le_m0 ok [1] rfl)) fun hT=>qar [9] (by kernel_rfl) rfl (qas ?_)
  ·refine qbM (o:=_) rfl ?_
   obtain ⟨m124,hle126,ok125,hfz127⟩:=(ok.frs 0 rfl).freeze
   have h128:=ORow.froz (mL (mL qad)) h123 hle126 hfz127 (by decide)
   refine qao E qsb rfl (qkT N _ ([x66,x78]:List (List (List (Relation)))) h128 e99 hTb ok125) rfl rfl ?_
   rintro _ w ⟨⟨rfl,okz⟩,l129⟩
   replace ok:=(Ok.thawAt 0 rfl ok hle126 hfz127 okz)
   refine ⟨_,rfl,fun a E=>?_⟩
   refine wn<|qag (cl1 (cq le_m0 ok [1] rfl) (cq le_m0 ok [1] rfl)) fun hT=>kt 10 E rfl hT (qah rfl) fun a E=>kt 11 E rfl hT (qaF rfl rfl) fun a E=>kt 12 E rfl hT (qaF rfl rfl) fun a E=>kt 13 E rfl hT (qbY rfl) fun a E=>kt 14 E rfl hT (qbY rfl) fun a E=>qaM (by kernel_rfl) ?_
   exact ⟨rfl,⟨(ok.pk 2 [1] rfl (by decide)),E.keep [0,6,9,10,11,12,29,30],l129⟩⟩
def qjx (u:World) (m0:Mem) (S:Segs) (r:Int) (a:Act) (w:World):Prop :=
 Ok u m0 S w ∧ a.defers = [] ∧ RVs Tryd.prog a w [.t 6 (.int .i64 r)] ∧ InR .i64 r
theorem qhw (N:Nat) (s_0:List UInt8) (ls_0:s_0.length ≤ LIMS) (from_1:Int) (rfrom_1:InR .u8 from_1) (to_2:Int) (rto_2:InR .u8 to_2) {r:Int} (hF:qfq N s_0 from_1 to_2 = some r) (ok:Ok u m0 S w) :
  Calls Tryd.prog 86 [vs s_0,Value.int .u8 from_1,Value.int .u8 to_2].toArray w fun e w'=>(e = .returned (.int .i64 r) ∧ Ok u m0 S w') ∧ InR .i64 r:=by
 unfold qfq at hF
 refine en (qjx u m0 S) r Tryd.func86 rfl rfl rfl (fun _ _ h=>rb h rfl) fun fin a E=>sg<|aw E rfl fun a E=>sg<|aw E rfl fun a E=>wp_seq<|wp_block<|bd hF fun o2 hL hF=>qaH _ (fun (s:Int) a w=>Ok u m0 (S) w ∧ Env 29 a [(0,vs s_0),(1,(Value.int .u8 from_1)),(2,(Value.int .u8 to_2)),(7,vi s)] ∧ InR .i64 s) (fun (b:Int) e a w=>e = (.exit 0) ∧ Ok u m0 (S) w ∧ Env 29 a [(7,vi b)] ∧ InR .i64 b) ?_ ?_ N _ a w hL ⟨ok,E.keep [0,1,2,7],(ir 0)⟩
 rotate_left
 ·intro e a w _ hO
  obtain ⟨rfl,ok,E,r13⟩:=hO
  refine qaN<|qaa<|sg<|mv E rfl fun a E=>aw E rfl fun a E=>wp_ret ?_
  exact fin hF ⟨ok,E.d,rz E rfl,r13⟩
 rintro v4 a w r ⟨ok,E,r5⟩ hF
 replace hF:qfK N s_0 from_1 to_2 v4 = some r:=hF
 unfold qfK at hF
 refine wp_seq<|sg<|mz E rfl rfl fun a E=>lw E (qeZ Tryd.underlying9 rfl) fun a E=>lw E (qaC rfl rfl) fun a E=>mv E rfl fun a E=>bw E 12 hF (fun c6 hF E=>?_) fun c6 hF E=>?_
 ·refine lsz E fun a E=>ls E fun a E=>pf E rfl rfl fun a E=>mv E rfl fun a E=>lsz E fun a E=>ls E fun a E=>pf E rfl rfl fun a E=>wn<|c_if E rfl (fun h=>by cases h) (fun _=>?_)
  refine wp_exit<|qaE ?_
  cases hF
  exact so (⟨rfl,⟨ok,E.keep [7],r5⟩⟩)
 refine mz E rfl rfl fun a E=>bd hF fun c7 e8 hF=>lv E ok (qdE Tryd.underlying9 rfl rfl e8) fun a E=>mv E rfl fun a E=>lw E (qjh rfl rfl) fun a E=>pt E rfl rfl fun a E=>mv E rfl fun a E=>bw E 19 hF (fun c9 hF E=>?_) fun c9 hF E=>?_
 ·refine lsz E fun a E=>ls E fun a E=>pf E rfl rfl fun a E=>wn<|c_if E rfl (fun h=>by cases h) (fun _=>?_)
  refine wp_exit<|qaE ?_
  cases hF
  exact so (⟨rfl,⟨ok,E.keep [7],r5⟩⟩)
 refine mz E rfl rfl fun a E=>bd hF fun c10 e11 hF=>lv E ok (qdE Tryd.underlying9 rfl rfl e11) fun a E=>mv E rfl fun a E=>lw E (qhF rfl rfl) fun a E=>pt E rfl rfl fun a E=>wn<|cg E rfl hF (fun c12 hF=>?_) fun c12 hF=>?_
 ·refine wp_exit<|qaE ?_
  cases hF
  exact so (⟨rfl,⟨ok,E.keep [7],r5⟩⟩)
 refine wp_skip<|qaa<|wp_block<|qac<|mv E rfl fun a E=>lw E (qaA rfl rfl (InR.inc r5 (InR.len ls_0) c6)) fun a E=>av E rfl fun a E=>wpList_nil<|qap ?_
 cases hF
 exact qau ⟨ok,E.keep [0,1,2,7],(InR.inc r5 (InR.len ls_0) c6)⟩
end Go.Proofs.YtidfofhmnlhfjaaDoor
namespace Go.Proofs.YtidfofhmnlhfjaaDoor
open Go.X
variable {u:World} {m0:Mem} {S:Segs} {w:World}
set_option maxHeartbeats 4000000
set_option maxRecDepth 100000
def qlp (u:World) (m0:Mem) (S:Segs) (r:Word × Int) (a:Act) (w:World):Prop :=
 ∃ m1 v0,m0.le m1 ∧ Ok u m1 S w ∧ a.defers = [] ∧ RVs Tryd.prog a w [.c 4 112 (.agg v0.toArray),.t 5 (.int .i64 r.2)] ∧ qr7 m1 v0 r.1 ∧ InR .i64 r.2
theorem qld (N:Nat) (s_0:List UInt8) (ls_0:s_0.length ≤ LIMS) (at_1:Int) (rat_1:InR .i64 at_1) {r:Word × Int} (hF:qhm N s_0 at_1 = some r) (ok:Ok u m0 S w) :
  Calls Tryd.prog 78 [vs s_0,vi at_1].toArray w fun e w'=>∃ m1 v0,e = .returned (.tuple [(.agg v0.toArray),(.int .i64 r.2)].toArray) ∧ m0.le m1 ∧ Ok u m1 S w' ∧ qr7 m1 v0 r.1 ∧ InR .i64 r.2:=by
 have le_m0:=Mem.le.refl m0
 unfold qhm at hF
 refine en (qlp u m0 S) r Tryd.func78 rfl rfl rfl (by rintro a w ⟨m1,v0,hle,ok,hd,hrv,h0,h1⟩; exact qbC [.c 4 112 (.agg v0.toArray),.t 5 (.int .i64 r.2)] hd rfl hrv ⟨m1,v0,rfl,hle,ok,h0,h1⟩) fun fin a E=>sg<|qaw E ok qmb rfl rfl fun b1 a w E ok=>aw E rfl fun a E=>wp_seq<|wp_block<|bd hF fun o3 hL hF=>qaH _ (fun (s:Int) a w=>Ok u m0 ([(b1,oc 112 [(vs ([])),vi 0])] :: S) w ∧ Env 104 a [(0,vs s_0),(1,vi s),(4,vp b1)] ∧ InR .i64 s) (fun (b:Int) e a w=>e = (.exit 0) ∧ Ok u m0 ([(b1,oc 112 [(vs ([])),vi 0])] :: S) w ∧ Env 104 a [(0,vs s_0),(1,vi b),(4,vp b1)] ∧ InR .i64 b) ?_ ?_ N _ a w hL ⟨ok,E.keep [0,1,4],rat_1⟩
 ·as_aux_lemma =>
   rintro v5 a w r ⟨ok,E,r6⟩ hF
   replace hF:qgo N s_0 v5 = some r:=hF
   unfold qgo at hF
   refine wp_seq<|wp_seq<|bd hF fun o7 hJ hF=>qaO (Q':=fun e a w=>e = .normal ∧ Ok u m0 ([(b1,oc 112 [(vs ([])),vi 0])] :: S) w ∧ Env 104 a [(0,vs s_0),(1,vi v5),(4,vp b1),(28,vb o7)]) ?_ ?_
   rotate_left
   ·intro e a w hO
    obtain ⟨rfl,ok,E⟩:=hO
    refine qaa<|cg E rfl hF (fun c17 hF=>?_) fun c17 hF=>?_
    ·refine wp_exit<|qaE ?_
     cases hF
     exact so (⟨rfl,⟨ok,E.keep [0,1,4],r6⟩⟩)
    refine wp_skip<|qaa<|wp_block<|qac<|mv E rfl fun a E=>lw E (qcg rfl rfl) fun a E=>av E rfl fun a E=>wpList_nil<|qap ?_
    cases hF
    exact qau ⟨ok,E.keep [0,1,4],(InR.wrap _ _)⟩
   have hF:=hJ
   refine qac<|mz E rfl rfl fun a E=>lw E (qeZ Tryd.underlying9 rfl) fun a E=>lw E (qaC rfl rfl) fun a E=>mv E rfl fun a E=>bw E 11 hF (fun c8 hF E=>?_) fun c8 hF E=>?_
   ·refine lsz E fun a E=>lsz E fun a E=>lsz E fun a E=>lsz E fun a E=>?_
    refine pf E rfl rfl fun a E=>wpList_nil ?_
    cases hF
    exact ⟨rfl,⟨ok,E.keep [0,1,4,28]⟩⟩
   refine mz E rfl rfl fun a E=>bd hF fun c9 e10 hF=>lv E ok (qdE Tryd.underlying9 rfl rfl e10) fun a E=>lw E (qax rfl rfl) fun a E=>mv E rfl fun a E=>bu E 16 hF (fun c11 hF E=>?_) fun c11 hF E=>?_
   ·refine lsz E fun a E=>pt E rfl rfl fun a E=>mv E rfl fun a E=>lsz E fun a E=>pt E rfl rfl fun a E=>pt E rfl rfl fun a E=>wpList_nil ?_
    cases hF
    exact ⟨rfl,⟨ok,E.keep [0,1,4,28]⟩⟩
   refine mz E rfl rfl fun a E=>bd hF fun c12 e13 hF=>lv E ok (qdE Tryd.underlying9 rfl rfl e13) fun a E=>lw E (qax rfl rfl) fun a E=>pf E rfl rfl fun a E=>mv E rfl fun a E=>bu E 22 hF (fun c14 hF E=>?_) fun c14 hF E=>?_
   ·refine lsz E fun a E=>pt E rfl rfl fun a E=>pt E rfl rfl fun a E=>wpList_nil ?_
    cases hF
    exact ⟨rfl,⟨ok,E.keep [0,1,4,28]⟩⟩
   refine mz E rfl rfl fun a E=>bd hF fun c15 e16 hF=>lv E ok (qdE Tryd.underlying9 rfl rfl e16) fun a E=>lw E (qax rfl rfl) fun a E=>pf E rfl rfl fun a E=>pt E rfl rfl fun a E=>wpList_nil ?_
   cases hF
   exact ⟨rfl,⟨ok,E.keep [0,1,4,28]⟩⟩
 intro e a w _ hO
 obtain ⟨rfl,ok,E,r18⟩:=hO
 refine qaN<|qaa<|wp_seq<|sg<|mz E rfl rfl fun a E=>lw E (qeZ Tryd.underlying9 rfl) fun a E=>lw E (qax rfl rfl) fun a E=>wn<|cf E rfl hF (fun c19 hF=>?_) fun c19 hF=>?_
 ·refine sg<|mv E rfl fun a E=>lw E (qaG (ps:=[(0,.const (vs ([]))),(1,.tmp 35)]) (qs:=[(0,[(vs ([]))]),(1,[vi o3])]) (cs:=[(vs ([])),vi o3]) qmb qmP rfl ⟨rfl,rfl,rfl,⟨rfl,rfl,rfl,trivial⟩⟩ rfl) fun a E=>mv E rfl fun a E=>qaf E ok 0 rfl rfl rfl qnl rfl rfl ⟨rfl,rfl,trivial⟩ rfl rfl fun w ok=>av E rfl fun a E=>wn<|wp_ret<|qav ?_
  exact fin hF ⟨m0,[(vs ([])),vi o3],le_m0,ok.drop,E.d,⟨rv_c (cs:=[(vs ([])),vi o3]) E ok rfl qnj rfl (qab.own 0 rfl rfl),rv_t E rfl,trivial⟩,⟨rfl,(show ([]:List UInt8).length ≤ LIMS by decide),r18⟩,r18⟩
 refine wp_skip<|qaa<|sg<|mz E rfl rfl fun a E=>bd hF fun s20 e21 hF=>lw E (qhe Tryd.underlying9 e21 rfl ⟨_,rfl⟩ rfl) fun a E=>bd hF fun r22 e23 hF=>qao E qsp rfl (qhw N s20 (Nat.le_trans (qjA e21) ls_0) 97 (show InR .u8 (97) by decide) 122 (show InR .u8 (122) by decide) e23 ok) rfl rfl ?_
 rintro _ w ⟨⟨rfl,ok⟩,r24⟩
 refine ⟨_,rfl,fun a E=>?_⟩
 refine aw E rfl fun a E=>wp_seq<|sg<|mv E rfl fun a E=>lw E (qax rfl rfl) fun a E=>wn<|bd hF fun o25 hJ hF=>qaO (Q':=fun e a w=>e = .normal ∧ Ok u m0 ([(b1,oc 112 [(vs ([])),vi 0])] :: S) w ∧ Env 104 a [(0,vs s_0),(1,vi o3),(4,vp b1),(6,vi o25)] ∧ InR .i64 o25) ?_ ?_
 ·have hF:=hJ
  refine cg E rfl hF (fun c27 hF=>?_) fun c27 hF=>?_
  ·refine wp_skip ?_
   cases hF
   exact ⟨rfl,⟨ok,E.keep [0,1,4,6],r24⟩⟩
  refine qac<|mz E rfl rfl fun a E=>bd hF fun s28 e29 hF=>lw E (qhe Tryd.underlying9 e29 rfl ⟨_,rfl⟩ rfl) fun a E=>bd hF fun r30 e31 hF=>qao E qsp rfl (qhw N s28 (Nat.le_trans (qjA e29) ls_0) 48 (show InR .u8 (48) by decide) 57 (show InR .u8 (57) by decide) e31 ok) rfl rfl ?_
  rintro _ w ⟨⟨rfl,ok⟩,r32⟩
  refine ⟨_,rfl,fun a E=>?_⟩
  refine av E rfl fun a E=>wpList_nil ?_
  cases hF
  exact ⟨rfl,⟨ok,E.keep [0,1,4,6],r32⟩⟩
 intro e a w hO
 obtain ⟨rfl,ok,E,r33⟩:=hO
 refine qaa<|wp_seq<|wp_seq<|bd hF fun o34 hJ hF=>qaO (Q':=fun e a w=>e = .normal ∧ Ok u m0 ([(b1,oc 112 [(vs ([])),vi 0])] :: S) w ∧ Env 104 a [(0,vs s_0),(1,vi o3),(4,vp b1),(6,vi o25),(72,vb o34)]) ?_ ?_
 ·as_aux_lemma =>
   have hF:=hJ
   refine qac<|mv E rfl fun a E=>lw E (qax rfl rfl) fun a E=>mv E rfl fun a E=>bw E 50 hF (fun c35 hF E=>?_) fun c35 hF E=>?_
   ·refine lsz E fun a E=>ls E fun a E=>pf E rfl rfl fun a E=>mv E rfl fun a E=>lsz E fun a E=>lsz E fun a E=>ls E fun a E=>?_
    refine lsz E fun a E=>ls E fun a E=>pf E rfl rfl fun a E=>wpList_nil ?_
    cases hF
    exact ⟨rfl,⟨ok,E.keep [0,1,4,6,72]⟩⟩
   refine mv E rfl fun a E=>lw E (qcg rfl rfl) fun a E=>mv E rfl fun a E=>lw E (qeZ Tryd.underlying9 rfl) fun a E=>lw E (qaC rfl rfl) fun a E=>pt E rfl rfl fun a E=>mv E rfl fun a E=>bw E 57 hF (fun c36 hF E=>?_) fun c36 hF E=>?_
   ·refine lsz E fun a E=>lsz E fun a E=>lsz E fun a E=>lsq E fun a E=>pf E rfl rfl fun a E=>wpList_nil ?_
    cases hF
    exact ⟨rfl,⟨ok,E.keep [0,1,4,6,72]⟩⟩
   refine mz E rfl rfl fun a E=>mv E rfl fun a E=>lw E (qcg rfl rfl) fun a E=>bd hF fun s37 e38 hF=>lw E (qhe Tryd.underlying9 e38 rfl ⟨_,rfl⟩ ⟨_,rfl⟩) fun a E=>lw E (qlq rfl rfl) fun a E=>mv E rfl fun a E=>bu E 64 hF (fun c39 hF E=>?_) fun c39 hF E=>?_
   ·refine lsz E fun a E=>lsq E fun a E=>pt E rfl rfl fun a E=>pt E rfl rfl fun a E=>wpList_nil ?_
    cases hF
    exact ⟨rfl,⟨ok,E.keep [0,1,4,6,72]⟩⟩
   refine mz E rfl rfl fun a E=>mv E rfl fun a E=>lw E (qcg rfl rfl) fun a E=>bd hF fun s40 e41 hF=>lw E (qhe Tryd.underlying9 e41 rfl ⟨_,rfl⟩ ⟨_,rfl⟩) fun a E=>lw E (qlq rfl rfl) fun a E=>pf E rfl rfl fun a E=>pt E rfl rfl fun a E=>wpList_nil ?_
   cases hF
   exact ⟨rfl,⟨ok,E.keep [0,1,4,6,72]⟩⟩
 intro e a w hO
 obtain ⟨rfl,ok,E⟩:=hO
 refine qaa<|bd hF fun o42 hJ hF=>qaO (Q':=fun e a w=>e = .normal ∧ Ok u m0 ([(b1,oc 112 [(vs ([])),vi 0])] :: S) w ∧ Env 104 a [(0,vs s_0),(1,vi o3),(4,vp b1),(6,vi o42)] ∧ InR .i64 o42) ?_ ?_
 ·have hF:=hJ
  refine cg E rfl hF (fun c44 hF=>?_) fun c44 hF=>?_
  ·refine wp_skip ?_
   cases hF
   exact ⟨rfl,⟨ok,E.keep [0,1,4,6],r33⟩⟩
  refine qac<|av E rfl fun a E=>wpList_nil ?_
  cases hF
  exact ⟨rfl,⟨ok,E.keep [0,1,4,6],(ir 2)⟩⟩
 intro e a w hO
 obtain ⟨rfl,ok,E,r45⟩:=hO
 refine qaa<|wp_seq<|wp_seq<|bd hF fun o46 hJ hF=>qaO (Q':=fun e a w=>e = .normal ∧ Ok u m0 ([(b1,oc 112 [(vs ([])),vi 0])] :: S) w ∧ Env 104 a [(0,vs s_0),(1,vi o3),(4,vp b1),(6,vi o42),(92,vb o46)]) ?_ ?_
 rotate_left
 ·intro e a w hO
  obtain ⟨rfl,ok,E⟩:=hO
  refine qaa<|bd hF fun o56 hJ hF=>qaO (Q':=fun e a w=>e = .normal ∧ Ok u m0 ([(b1,oc 112 [(vs ([])),vi 0])] :: S) w ∧ Env 104 a [(0,vs s_0),(1,vi o3),(4,vp b1),(6,vi o56)] ∧ InR .i64 o56) ?_ ?_
  ·have hF:=hJ
   refine cg E rfl hF (fun c58 hF=>?_) fun c58 hF=>?_
   ·refine wp_skip ?_
    cases hF
    exact ⟨rfl,⟨ok,E.keep [0,1,4,6],r45⟩⟩
   refine qac<|av E rfl fun a E=>wpList_nil ?_
   cases hF
   exact ⟨rfl,⟨ok,E.keep [0,1,4,6],(ir 1)⟩⟩
  intro e a w hO
  obtain ⟨rfl,ok,E,r59⟩:=hO
  refine qaa<|sg<|mz E rfl rfl fun a E=>mz E rfl rfl fun a E=>lw E (qcg rfl rfl) fun a E=>bd hF fun s60 e61 hF=>lw E (qhe Tryd.underlying9 e61 rfl ⟨_,rfl⟩ ⟨_,rfl⟩) fun a E=>mv E rfl fun a E=>lw E (qaG (ps:=[(0,.tmp 98),(1,.tmp 99)]) (qs:=[(0,[vs s60]),(1,[vi o3])]) (cs:=[vs s60,vi o3]) qmb qmP rfl ⟨rfl,rfl,rfl,⟨rfl,rfl,rfl,trivial⟩⟩ rfl) fun a E=>mz E rfl rfl fun a E=>lw E (qcg rfl rfl) fun a E=>qaf E ok 0 rfl rfl rfl qnl rfl rfl ⟨rfl,rfl,trivial⟩ rfl rfl fun w ok=>av E rfl fun a E=>wn<|wp_ret ?_
  exact fin hF ⟨m0,[vs s60,vi o3],le_m0,ok.drop,E.d,⟨rv_c (cs:=[vs s60,vi o3]) E ok rfl qnj rfl (qab.own 0 rfl rfl),rv_t E rfl,trivial⟩,⟨rfl,(Nat.le_trans (qjA e61) ls_0),r18⟩,(InR.wrap _ _)⟩
 have hF:=hJ
 refine qac<|mv E rfl fun a E=>lw E (qax rfl rfl) fun a E=>mv E rfl fun a E=>bw E 75 hF (fun c47 hF E=>?_) fun c47 hF E=>?_
 ·refine lsz E fun a E=>lsz E fun a E=>lsz E fun a E=>lsz E fun a E=>?_
  refine pf E rfl rfl fun a E=>wpList_nil ?_
  cases hF
  exact ⟨rfl,⟨ok,E.keep [0,1,4,6,92]⟩⟩
 refine mz E rfl rfl fun a E=>bd hF fun c48 e49 hF=>lv E ok (qdE Tryd.underlying9 rfl rfl e49) fun a E=>lw E (qax rfl rfl) fun a E=>mv E rfl fun a E=>bu E 80 hF (fun c50 hF E=>?_) fun c50 hF E=>?_
 ·refine lsz E fun a E=>pt E rfl rfl fun a E=>mv E rfl fun a E=>lsz E fun a E=>pt E rfl rfl fun a E=>pt E rfl rfl fun a E=>wpList_nil ?_
  cases hF
  exact ⟨rfl,⟨ok,E.keep [0,1,4,6,92]⟩⟩
 refine mz E rfl rfl fun a E=>bd hF fun c51 e52 hF=>lv E ok (qdE Tryd.underlying9 rfl rfl e52) fun a E=>lw E (qax rfl rfl) fun a E=>pf E rfl rfl fun a E=>mv E rfl fun a E=>bu E 86 hF (fun c53 hF E=>?_) fun c53 hF E=>?_
 ·refine lsz E fun a E=>pt E rfl rfl fun a E=>pt E rfl rfl fun a E=>wpList_nil ?_
  cases hF
  exact ⟨rfl,⟨ok,E.keep [0,1,4,6,92]⟩⟩
 refine mz E rfl rfl fun a E=>bd hF fun c54 e55 hF=>lv E ok (qdE Tryd.underlying9 rfl rfl e55) fun a E=>lw E (qax rfl rfl) fun a E=>pf E rfl rfl fun a E=>pt E rfl rfl fun a E=>wpList_nil ?_
 cases hF
 exact ⟨rfl,⟨ok,E.keep [0,1,4,6,92]⟩⟩
def qix (u:World) (m0:Mem) (S:Segs) (pb0:Nat) (x0:Parser) (r:Parser) (a:Act) (w:World):Prop :=
 Ok u m0 ([(pb0,oc 114 [vs r.s,vi r.to_,vs r.w.text,vi r.w.at_,vi r.at_,vi r.e])] :: S) w ∧ a.defers = [] ∧ RVs Tryd.prog a w [] ∧ r.s.length ≤ LIMS ∧ InR .i64 r.to_ ∧ r.w.text.length ≤ LIMS ∧ InR .i64 r.w.at_ ∧ InR .i64 r.at_ ∧ InR .i64 r.e
theorem qaD (N:Nat) {pb0:Nat} (x0:Parser) (l1:x0.s.length ≤ LIMS) (r2:InR .i64 x0.to_) (l3:x0.w.text.length ≤ LIMS) (r4:InR .i64 x0.w.at_) (r5:InR .i64 x0.at_) (r6:InR .i64 x0.e) {r:Parser} (hF:qaB N x0 = some r) (ok:Ok u m0 ([(pb0,oc 114 [vs x0.s,vi x0.to_,vs x0.w.text,vi x0.w.at_,vi x0.at_,vi x0.e])] :: S) w) :
  Calls Tryd.prog 55 [vp pb0].toArray w fun e w'=>(e = .returned (.tuple [].toArray) ∧ Ok u m0 ([(pb0,oc 114 [vs r.s,vi r.to_,vs r.w.text,vi r.w.at_,vi r.at_,vi r.e])] :: S) w') ∧ r.s.length ≤ LIMS ∧ InR .i64 r.to_ ∧ r.w.text.length ≤ LIMS ∧ InR .i64 r.w.at_ ∧ InR .i64 r.at_ ∧ InR .i64 r.e:=by
 have hb0:=ok.base
 have le_m0:=Mem.le.refl m0
 unfold qaB at hF
 refine en (qix u m0 S pb0 x0) r Tryd.func55 rfl rfl rfl (by rintro a w ⟨ok,hd,hrv,h0,h1,h2,h3,h4,h5⟩; exact qbC [] hd rfl hrv ⟨⟨rfl,ok⟩,h0,h1,h2,h3,h4,h5⟩) fun fin a E=>sg<|mv E rfl fun a E=>lw E (qa1 rfl) fun a E=>fk E ok qhl qjD rfl 0 rfl rfl fun a E=>lw E (qax rfl rfl) fun a E=>wn<|cg E rfl hF (fun c13 hF=>?_) fun c13 hF=>?_
 ·refine wp_skip ?_
  exact fin hF ⟨ok,E.d,trivial,l1,r2,l3,r4,r5,r6⟩
 refine bd hF fun o14 hJ hF=>qaO (Q':=fun e a w=>e = .normal ∧ ∃ m15,m0.le m15 ∧ Ok u m15 ([(pb0,oc 114 [vs o14.s,vi o14.to_,vs o14.w.text,vi o14.w.at_,vi o14.at_,vi o14.e])] :: S) w ∧ Env 25 a [] ∧ o14.s.length ≤ LIMS ∧ InR .i64 o14.to_ ∧ o14.w.text.length ≤ LIMS ∧ InR .i64 o14.w.at_ ∧ InR .i64 o14.at_ ∧ InR .i64 o14.e) ?_ ?_
 rotate_left
 ·intro e a w hO
  obtain ⟨rfl,m36,hle,ok,E,l37,r38,l39,r40,r41,r42⟩:=hO
  have le_m0:=le_m0.trans hle
  exact fin hF ⟨((ok).down hb0 le_m0),E.d,trivial,l37,r38,l39,r40,r41,r42⟩
 have hF:=hJ
 obtain ⟨r22,e23,hF⟩:=bnd hF
 obtain rfl:=sj hF
 refine qaX [5,9] (Cls u m0 ([(pb0,oc 114 [vs x0.s,vi x0.to_,vs x0.w.text,vi x0.w.at_,vi x0.at_,vi x0.e])] :: [])) (Cls u m0 ([])) (by kernel_rfl) ?_
 intro w hw
 replace ok:=qa3 ok hw
 clear hw
 refine qag (cl1 (cq le_m0 ok [0] rfl) (cq le_m0 ok [] rfl)) fun hT=>kt 0 E rfl hT (qah rfl) fun a E=>kt 1 E rfl hT (qah rfl) fun a E=>kt 2 E rfl hT (qah rfl) fun a E=>kt 3 E rfl hT (qa1 rfl) fun a E=>kt 4 E rfl hT (qae qoG rfl) fun a E=>qaU 5 E rfl (by kernel_rfl) nP hT (qai qfH rfl (qab.cown 0 rfl rfl)) rfl rfl fun a E=>kt 6 E rfl hT (qah rfl) fun a E=>kt 7 E rfl hT (qa1 rfl) fun a E=>kt 8 E rfl hT (qae qov rfl) fun a E=>qaU 9 E rfl (by kernel_rfl) nP hT (qai qam rfl (qab.cown 0 rfl rfl)) rfl rfl fun a E=>qar [10] (by kernel_rfl) rfl (qas ?_)
 ·refine wo rfl<|qao E quK rfl (qld N x0.s l1 x0.to_ r2 e23 ok) rfl rfl ?_
  rintro _ w ⟨m30,vs31,rfl,hle,ok,h32,r33⟩
  have le_m0:=le_m0.trans hle
  obtain ⟨rfl,l34,r35⟩:=h32
  refine ⟨_,rfl,fun a E=>?_⟩
  refine wn<|qag (cl1 (cq le_m0 ok [0] rfl) (cq le_m0 ok [] rfl)) fun hT=>kt 11 E rfl hT (qah rfl) fun a E=>kt 12 E rfl hT (qaF rfl rfl) fun a E=>kt 13 E rfl hT (qaF rfl rfl) fun a E=>kt 14 E rfl hT (qa1 rfl) fun a E=>kt 15 E rfl hT (qae qf8 rfl) fun a E=>qar [16] (by kernel_rfl) rfl (qas ?_)
  ·refine wo rfl<|qaf E ok 0 rfl rfl rfl qnl rfl rfl ⟨rfl,rfl,trivial⟩ rfl rfl fun w ok=>wn<|qag (cl2 (by kernel_rfl) (cq le_m0 ok [] rfl)) fun hT=>kt 17 E rfl hT (qa1 rfl) fun a E=>kt 18 E rfl hT (qae qov rfl) fun a E=>qar [19] (by kernel_rfl) rfl (qas ?_)
   ·refine wo rfl<|qaf E ok 0 rfl rfl rfl qbp rfl rfl ⟨rfl,trivial⟩ rfl rfl fun w ok=>wn<|qag (cl2 (by kernel_rfl) (cq le_m0 ok [] rfl)) fun hT=>qaM (by kernel_rfl) ?_
    exact ⟨rfl,⟨m30,le_m0,ok,E.keep [],l1,r33,l34,r35,r5,r6⟩⟩
def qi5 (u:World) (m0:Mem) (S:Segs) (pb0:Nat) (x0:Parser) (r:Bool) (a:Act) (w:World):Prop :=
 Ok u m0 ([(pb0,oc 114 [vs x0.s,vi x0.to_,vs x0.w.text,vi x0.w.at_,vi x0.at_,vi x0.e])] :: S) w ∧ a.defers = [] ∧ RVs Tryd.prog a w [.t 4 (.bool r)]
theorem qaQ (N:Nat) (s_1:List UInt8) (ls_1:s_1.length ≤ LIMS) {pb0:Nat} (x0:Parser) (l1:x0.s.length ≤ LIMS) (r2:InR .i64 x0.to_) (l3:x0.w.text.length ≤ LIMS) (r4:InR .i64 x0.w.at_) (r5:InR .i64 x0.at_) (r6:InR .i64 x0.e) {r:Bool} (hF:qaP N s_1 x0 = some r) (ok:Ok u m0 ([(pb0,oc 114 [vs x0.s,vi x0.to_,vs x0.w.text,vi x0.w.at_,vi x0.at_,vi x0.e])] :: S) w) :
  Calls Tryd.prog 59 [vp pb0,vs s_1].toArray w fun e w'=>(e = .returned (.bool r) ∧ Ok u m0 ([(pb0,oc 114 [vs x0.s,vi x0.to_,vs x0.w.text,vi x0.w.at_,vi x0.at_,vi x0.e])] :: S) w'):=by
 unfold qaP at hF
 refine en (qi5 u m0 S pb0 x0) r Tryd.func59 rfl rfl rfl (fun _ _ h=>ra h rfl) fun fin a E=>sg<|aw E rfl fun a E=>sg<|mv E rfl fun a E=>lw E (qa1 rfl) fun a E=>fk E ok qhl qjD rfl 0 rfl rfl fun a E=>lw E (qax rfl rfl) fun a E=>mv E rfl fun a E=>bu E 10 hF (fun c7 hF E=>?_) fun c7 hF E=>?_
 ·refine mv E rfl fun a E=>lw E (qa1 rfl) fun a E=>fv E qf8 rfl fun a E=>fk E ok qkr qfH rfl 0 rfl rfl fun a E=>mv E rfl fun a E=>lw E (qlq rfl rfl) fun a E=>pt E rfl rfl fun a E=>aw E rfl fun a E=>wp_ret ?_
  exact fin hF ⟨ok,E.d,rz E rfl⟩
 refine lsz E fun a E=>lsq E fun a E=>ls E fun a E=>pf E rfl rfl fun a E=>aw E rfl fun a E=>wp_ret ?_
 exact fin hF ⟨ok,E.d,rz E rfl⟩
def qf6 (u:World) (m0:Mem) (S:Segs) (pb0:Nat) (x0:Parser) (r:Bool) (a:Act) (w:World):Prop :=
 Ok u m0 ([(pb0,oc 114 [vs x0.s,vi x0.to_,vs x0.w.text,vi x0.w.at_,vi x0.at_,vi x0.e])] :: S) w ∧ a.defers = [] ∧ RVs Tryd.prog a w [.t 2 (.bool r)]
theorem qh4 (N:Nat) {pb0:Nat} (x0:Parser) (l1:x0.s.length ≤ LIMS) (r2:InR .i64 x0.to_) (l3:x0.w.text.length ≤ LIMS) (r4:InR .i64 x0.w.at_) (r5:InR .i64 x0.at_) (r6:InR .i64 x0.e) {r:Bool} (hF:qe5 N x0 = some r) (ok:Ok u m0 ([(pb0,oc 114 [vs x0.s,vi x0.to_,vs x0.w.text,vi x0.w.at_,vi x0.at_,vi x0.e])] :: S) w) :
  Calls Tryd.prog 56 [vp pb0].toArray w fun e w'=>(e = .returned (.bool r) ∧ Ok u m0 ([(pb0,oc 114 [vs x0.s,vi x0.to_,vs x0.w.text,vi x0.w.at_,vi x0.at_,vi x0.e])] :: S) w'):=by
 unfold qe5 at hF
 refine en (qf6 u m0 S pb0 x0) r Tryd.func56 rfl rfl rfl (fun _ _ h=>ra h rfl) fun fin a E=>sg<|aw E rfl fun a E=>wp_seq<|sg<|aw E rfl fun a E=>wp_block<|bd hF fun o8 hL hF=>qaH _ (fun (s:Int) a w=>Ok u m0 ([(pb0,oc 114 [vs x0.s,vi x0.to_,vs x0.w.text,vi x0.w.at_,vi x0.at_,vi x0.e])] :: S) w ∧ Env 14 a [(0,vp pb0),(3,vi s)] ∧ InR .i64 s) (fun (b:(Unit ⊕ Bool)) e a w=>(Sum.elim (fun b18=>e = (.exit 0) ∧ Ok u m0 ([(pb0,oc 114 [vs x0.s,vi x0.to_,vs x0.w.text,vi x0.w.at_,vi x0.at_,vi x0.e])] :: S) w ∧ Env 14 a []) (fun b19=>e = .ret ∧ qf6 u m0 S pb0 x0 b19 a w)) b) ?_ ?_ N _ a w hL ⟨ok,E.keep [0,3],(ir 0)⟩
 rotate_left
 ·intro e a w _ hO
  rcases o8 with o8 | o8
  rotate_left
  ·obtain ⟨rfl,hret⟩:=hO
   refine qaI<|qav ?_
   exact fin hF hret
  have hF:=qcN hF
  obtain ⟨rfl,ok,E⟩:=hO
  refine qaN<|qaa<|sg<|aw E rfl fun a E=>wp_ret ?_
  exact fin hF ⟨ok,E.d,rz E rfl⟩
 rintro v10 a w r ⟨ok,E,r11⟩ hF
 replace hF:qet N x0 v10 = some r:=hF
 unfold qet at hF
 refine wp_seq<|sg<|mv E rfl fun a E=>lw E (qaC rfl rfl) fun a E=>wn<|cg E rfl hF (fun c12 hF=>?_) fun c12 hF=>?_
 ·refine wp_exit<|qaE ?_
  cases hF
  exact so (sl ⟨rfl,⟨ok,E.keep []⟩⟩)
 refine wp_skip<|qaa<|wp_seq<|wp_block<|sg<|mz E rfl rfl fun a E=>mv E rfl fun a E=>lw E (qaA rfl rfl (InR.inc r11 (ir 6) c12)) fun a E=>bd hF fun s13 e14 hF=>lw E (qhe Tryd.underlying9 e14 rfl ⟨_,rfl⟩ ⟨_,rfl⟩) fun a E=>bd hF fun r15 e16 hF=>lc E qfp rfl (qaQ N s13 (Nat.le_trans (qjA e14) (show ([110,105,118,119,102,116]:List UInt8).length ≤ LIMS by decide)) x0 l1 r2 l3 r4 r5 r6 e16 ok) fun w ok a E=>wn<|cg E rfl hF (fun c17 hF=>?_) fun c17 hF=>?_
 ·refine wp_skip<|qap<|qaa<|qac<|mv E rfl fun a E=>lw E (qaA rfl rfl (InR.inc r11 (ir 6) c12)) fun a E=>av E rfl fun a E=>wpList_nil ?_
  cases hF
  exact qau ⟨ok,E.keep [0,3],(InR.inc r11 (ir 6) c12)⟩
 refine sg<|aw E rfl fun a E=>wp_ret<|qaI<|qav ?_
 cases hF
 exact so (sr ⟨rfl,⟨ok,E.d,rz E rfl⟩⟩)
def qiD (u:World) (m0:Mem) (S:Segs) (pb0:Nat) (x0:Parser) (r:Parser) (a:Act) (w:World):Prop :=
 Ok u m0 ([(pb0,oc 114 [vs r.s,vi r.to_,vs r.w.text,vi r.w.at_,vi r.at_,vi r.e])] :: S) w ∧ a.defers = [] ∧ RVs Tryd.prog a w [] ∧ r.s.length ≤ LIMS ∧ InR .i64 r.to_ ∧ r.w.text.length ≤ LIMS ∧ InR .i64 r.w.at_ ∧ InR .i64 r.at_ ∧ InR .i64 r.e
theorem qaK (N:Nat) (e_1:Int) (re_1:InR .i64 e_1) {pb0:Nat} (x0:Parser) (l1:x0.s.length ≤ LIMS) (r2:InR .i64 x0.to_) (l3:x0.w.text.length ≤ LIMS) (r4:InR .i64 x0.w.at_) (r5:InR .i64 x0.at_) (r6:InR .i64 x0.e) {r:Parser} (hF:qaJ N e_1 x0 = some r) (ok:Ok u m0 ([(pb0,oc 114 [vs x0.s,vi x0.to_,vs x0.w.text,vi x0.w.at_,vi x0.at_,vi x0.e])] :: S) w) :
  Calls Tryd.prog 57 [vp pb0,vi e_1].toArray w fun e w'=>(e = .returned (.tuple [].toArray) ∧ Ok u m0 ([(pb0,oc 114 [vs r.s,vi r.to_,vs r.w.text,vi r.w.at_,vi r.at_,vi r.e])] :: S) w') ∧ r.s.length ≤ LIMS ∧ InR .i64 r.to_ ∧ r.w.text.length ≤ LIMS ∧ InR .i64 r.w.at_ ∧ InR .i64 r.at_ ∧ InR .i64 r.e:=by
 unfold qaJ at hF
 refine en (qiD u m0 S pb0 x0) r Tryd.func57 rfl rfl rfl (by rintro a w ⟨ok,hd,hrv,h0,h1,h2,h3,h4,h5⟩; exact qbC [] hd rfl hrv ⟨⟨rfl,ok⟩,h0,h1,h2,h3,h4,h5⟩) fun fin a E=>sg<|mv E rfl fun a E=>lw E (qa1 rfl) fun a E=>fk E ok qhl qjD rfl 0 rfl rfl fun a E=>lw E (qax rfl rfl) fun a E=>wn<|cg E rfl hF (fun c13 hF=>?_) fun c13 hF=>?_
 ·refine wp_skip ?_
  exact fin hF ⟨ok,E.d,trivial,l1,r2,l3,r4,r5,r6⟩
 refine qac<|mz E rfl rfl fun a E=>mv E rfl fun a E=>lw E (qa1 rfl) fun a E=>fv E qf8 rfl fun a E=>fk E ok qmc qam rfl 0 rfl rfl fun a E=>mv E rfl fun a E=>lw E (qa1 rfl) fun a E=>fv E qoT rfl fun a E=>qaf E ok 0 rfl rfl rfl qbp rfl rfl ⟨rfl,trivial⟩ rfl rfl fun w ok=>lw E (qa1 rfl) fun a E=>fv E qhl rfl fun a E=>qaf E ok 0 rfl rfl rfl qto rfl rfl ⟨rfl,trivial⟩ rfl rfl fun w ok=>wpList_nil ?_
 exact fin hF ⟨ok,E.d,trivial,l1,r2,l3,r4,r4,re_1⟩
def qit (u:World) (m0:Mem) (S:Segs) (r:Bool) (a:Act) (w:World):Prop :=
 Ok u m0 S w ∧ a.defers = [] ∧ RVs Tryd.prog a w [.t 4 (.bool r)]
theorem qfO (N:Nat) (vl_0:Value) (l_0:List (Int)) (hl_0:(pL 1 (pI .i64)) m0 [vl_0] l_0) (n_1:Int) (rn_1:InR .i64 n_1) {r:Bool} (hF:qdC N l_0 n_1 = some r) (ok:Ok u m0 S w) :
  Calls Tryd.prog 60 [vl_0,vi n_1].toArray w fun e w'=>(e = .returned (.bool r) ∧ Ok u m0 S w'):=by
 unfold qdC at hF
 refine en (qit u m0 S) r Tryd.func60 rfl rfl rfl (fun _ _ h=>ra h rfl) fun fin a E=>sg<|aw E rfl fun a E=>wp_seq<|sg<|aw E rfl fun a E=>wp_block<|bd hF fun o2 hL hF=>qaH _ (fun (s:Int) a w=>Ok u m0 (S) w ∧ Env 18 a [(0,vl_0),(1,vi n_1),(5,vi s)] ∧ InR .i64 s) (fun (b:(Unit ⊕ Bool)) e a w=>(Sum.elim (fun b18=>e = (.exit 0) ∧ Ok u m0 (S) w ∧ Env 18 a []) (fun b19=>e = .ret ∧ qit u m0 S b19 a w)) b) ?_ ?_ N _ a w hL ⟨ok,E.keep [0,1,5],(ir 0)⟩
 rotate_left
 ·intro e a w _ hO
  rcases o2 with o2 | o2
  rotate_left
  ·obtain ⟨rfl,hret⟩:=hO
   refine qaI<|qav ?_
   exact fin hF hret
  have hF:=qcN hF
  obtain ⟨rfl,ok,E⟩:=hO
  refine qaN<|qaa<|sg<|aw E rfl fun a E=>wp_ret ?_
  exact fin hF ⟨ok,E.d,rz E rfl⟩
 rintro v4 a w r ⟨ok,E,r5⟩ hF
 replace hF:qeG N l_0 n_1 v4 = some r:=hF
 unfold qeG at hF
 refine wp_seq<|sg<|mz E rfl rfl fun a E=>lv E ok (qaz qaR hl_0 rfl) fun a E=>lw E (qaC rfl rfl) fun a E=>wn<|cg E rfl hF (fun c6 hF=>?_) fun c6 hF=>?_
 ·refine wp_exit<|qaE ?_
  cases hF
  exact so (sl ⟨rfl,⟨ok,E.keep []⟩⟩)
 refine wp_skip<|qaa<|wp_seq<|wp_block<|sg<|mz E rfl rfl fun a E=>?_
 obtain ⟨x7,e8,hF⟩:=bnd hF
 obtain ⟨b9,o10,es11,hl12,rr13,at14,yy15⟩:=ia E 12 13 qaR hl_0 e8
 obtain ⟨rfl,r16⟩:=rr13
 refine lv E ok (yy15 _ _) fun a E=>lv E ok (qai qam rfl (qab.ro at14)) fun a E=>mv E rfl fun a E=>lw E (qax rfl rfl) fun a E=>wn<|cg E rfl hF (fun c17 hF=>?_) fun c17 hF=>?_
 ·refine wp_skip<|qap<|qaa<|qac<|mv E rfl fun a E=>lw E (qaA rfl rfl (InR.inc r5 (qal hl_0) c6)) fun a E=>av E rfl fun a E=>wpList_nil ?_
  cases hF
  exact qau ⟨ok,E.keep [0,1,5],(InR.inc r5 (qal hl_0) c6)⟩
 refine sg<|aw E rfl fun a E=>wp_ret<|qaI<|qav ?_
 cases hF
 exact so (sr ⟨rfl,⟨ok,E.d,rz E rfl⟩⟩)
def qlk (u:World) (m0:Mem) (S:Segs) (r:(List (Int))) (a:Act) (w:World):Prop :=
 ∃ m1 v0,m0.le m1 ∧ Ok u m1 S w ∧ a.defers = [] ∧ RVs Tryd.prog a w [.t 2 v0] ∧ (pL 1 (pI .i64)) m1 [v0] r
theorem qfI (N:Nat) (operand_0:Int) (roperand_0:InR .i64 operand_0) {r:(List (Int))} (hF:qdP N operand_0 = some r) (ok:Ok u m0 S w) :
  Calls Tryd.prog 61 [vi operand_0].toArray w fun e w'=>∃ m1 v0,e = .returned v0 ∧ m0.le m1 ∧ Ok u m1 S w' ∧ (pL 1 (pI .i64)) m1 [v0] r:=by
 have le_m0:=Mem.le.refl m0
 unfold qdP at hF
 refine en (qlk u m0 S) r Tryd.func61 rfl rfl rfl (fun _ _ h=>rc h fun _=>rfl) fun fin a E=>sg<|aw E rfl fun a E=>wp_seq<|sg<|mv E rfl fun a E=>wn<|wp_block<|wp_seq<|sg<|lw E (qax rfl rfl) fun a E=>aw E rfl fun a E=>bd hF fun o1 hJ hF=>qaO (Q':=fun e a w=>e = .normal ∧ Ok u m0 (S) w ∧ Env 12 a [(3,vi operand_0),(4,vb o1)]) ?_ ?_
 ·have hF:=hJ
  refine cf E rfl hF (fun c2 hF=>?_) fun c2 hF=>?_
  ·refine wp_skip ?_
   cases hF
   exact ⟨rfl,⟨ok,E.keep [3,4]⟩⟩
  refine qac<|lw E (qax rfl rfl) fun a E=>av E rfl fun a E=>wpList_nil ?_
  cases hF
  exact ⟨rfl,⟨ok,E.keep [3,4]⟩⟩
 intro e a w hO
 obtain ⟨rfl,ok,E⟩:=hO
 refine qaa<|cf E rfl hF (fun c3 hF=>?_) fun c3 hF=>?_
 ·refine sg<|qbH (R:=(pI .i64)) (xo:=[.const (vi 2),.const (vi 3),.const (vi 4),.const (vi 5),.const (vi 6),.const (vi 10),.const (vi 20),.const (vi 25),.const (vi 50),.const (vi 100)]) (xs:=([2,3,4,5,6,10,20,25,50,100]:List (Int))) E ok qaR qdI rfl ⟨⟨_,rfl,rfl,(qaW (ir 2))⟩,⟨_,rfl,rfl,(qaW (ir 3))⟩,⟨_,rfl,rfl,(qaW (ir 4))⟩,⟨_,rfl,rfl,(qaW (ir 5))⟩,⟨_,rfl,rfl,(qaW (ir 6))⟩,⟨_,rfl,rfl,(qaW (ir 10))⟩,⟨_,rfl,rfl,(qaW (ir 20))⟩,⟨_,rfl,rfl,(qaW (ir 25))⟩,⟨_,rfl,rfl,(qaW (ir 50))⟩,⟨_,rfl,rfl,(qaW (ir 100))⟩,trivial⟩ rfl rfl rfl rfl fun c4 M5 a w E ok h6=>aw E rfl fun a E=>wp_ret<|qaI<|qav ?_
  obtain ⟨m7,hle,ok,hfz⟩:=(ok.frs 0 rfl).freeze
  have h8:=ORow.froz (mI .i64) h6 hle hfz (by decide)
  have le_m0:=le_m0.trans hle
  exact fin hF ⟨m7,c4,le_m0,ok,E.d,rz E rfl,h8⟩
 refine wp_seq<|sg<|lw E (qax rfl rfl) fun a E=>aw E rfl fun a E=>bd hF fun o9 hJ hF=>qaO (Q':=fun e a w=>e = .normal ∧ Ok u m0 (S) w ∧ Env 12 a [(8,vb o9)]) ?_ ?_
 ·have hF:=hJ
  refine cf E rfl hF (fun c10 hF=>?_) fun c10 hF=>?_
  ·refine wp_skip ?_
   cases hF
   exact ⟨rfl,⟨ok,E.keep [8]⟩⟩
  refine qac<|lw E (qax rfl rfl) fun a E=>av E rfl fun a E=>wpList_nil ?_
  cases hF
  exact ⟨rfl,⟨ok,E.keep [8]⟩⟩
 intro e a w hO
 obtain ⟨rfl,ok,E⟩:=hO
 refine qaa<|cg E rfl hF (fun c11 hF=>?_) fun c11 hF=>?_
 ·refine wp_skip<|qap<|qaa<|sg<|aw E rfl fun a E=>wp_ret ?_
  exact fin hF ⟨m0,(.slice none 0 0),le_m0,ok,E.d,rz E rfl,qff⟩
 refine sg<|qbH (R:=(pI .i64)) (xo:=[.const (vi 10),.const (vi 100)]) (xs:=([10,100]:List (Int))) E ok qaR qdI rfl ⟨⟨_,rfl,rfl,(qaW (ir 10))⟩,⟨_,rfl,rfl,(qaW (ir 100))⟩,trivial⟩ rfl rfl rfl rfl fun c12 M13 a w E ok h14=>aw E rfl fun a E=>wp_ret<|qaI<|qav ?_
 obtain ⟨m15,hle,ok,hfz⟩:=(ok.frs 0 rfl).freeze
 have h16:=ORow.froz (mI .i64) h14 hle hfz (by decide)
 have le_m0:=le_m0.trans hle
 exact fin hF ⟨m15,c12,le_m0,ok,E.d,rz E rfl,h16⟩
def qkD (u:World) (m0:Mem) (S:Segs) (r:Int) (a:Act) (w:World):Prop :=
 Ok u m0 S w ∧ a.defers = [] ∧ RVs Tryd.prog a w [.t 2 (.int .i64 r)] ∧ InR .i64 r
theorem qct (N:Nat) (operand_0:Int) (roperand_0:InR .i64 operand_0) {r:Int} (hF:qcX N operand_0 = some r) (ok:Ok u m0 S w) :
  Calls Tryd.prog 62 [vi operand_0].toArray w fun e w'=>(e = .returned (.int .i64 r) ∧ Ok u m0 S w') ∧ InR .i64 r:=by
 unfold qcX at hF
 refine en (qkD u m0 S) r Tryd.func62 rfl rfl rfl (fun _ _ h=>rb h rfl) fun fin a E=>sg<|aw E rfl fun a E=>wp_seq<|sg<|mv E rfl fun a E=>lw E (qax rfl rfl) fun a E=>mv E rfl fun a E=>bu E 5 hF (fun c1 hF E=>?_) fun c1 hF E=>?_
 ·refine lsq E fun a E=>pt E rfl rfl fun a E=>wn<|c_if E rfl (fun _=>?_) (fun h=>by cases h)
  refine sg<|aw E rfl fun a E=>wp_ret<|qav ?_
  exact fin hF ⟨ok,E.d,rz E rfl,(ir 6)⟩
 refine mv E rfl fun a E=>lw E (qax rfl rfl) fun a E=>pf E rfl rfl fun a E=>wn<|cf E rfl hF (fun c2 hF=>?_) fun c2 hF=>?_
 ·refine sg<|aw E rfl fun a E=>wp_ret<|qav ?_
  exact fin hF ⟨ok,E.d,rz E rfl,(ir 6)⟩
 refine wp_skip<|qaa<|sg<|aw E rfl fun a E=>wp_ret ?_
 exact fin hF ⟨ok,E.d,rz E rfl,(ir 100)⟩
def qkI (u:World) (m0:Mem) (S:Segs) (r:Int) (a:Act) (w:World):Prop :=
 Ok u m0 S w ∧ a.defers = [] ∧ RVs Tryd.prog a w [.t 2 (.int .i64 r)] ∧ InR .i64 r
theorem qfn (N:Nat) (s_0:List UInt8) (ls_0:s_0.length ≤ LIMS) {r:Int} (hF:qek N s_0 = some r) (ok:Ok u m0 S w) :
  Calls Tryd.prog 82 [vs s_0].toArray w fun e w'=>(e = .returned (.int .i64 r) ∧ Ok u m0 S w') ∧ InR .i64 r:=by
 unfold qek at hF
 refine en (qkI u m0 S) r Tryd.func82 rfl rfl rfl (fun _ _ h=>rb h rfl) fun fin a E=>sg<|aw E rfl fun a E=>sg<|aw E rfl fun a E=>wp_seq<|sg<|av E rfl fun a E=>wn<|wp_block<|bd hF fun o3 hL hF=>qaH _ (fun (s:Int × Int) a w=>Ok u m0 (S) w ∧ Env 20 a [(0,vs s_0),(3,vi s.1),(4,vi s.2)] ∧ InR .i64 s.1 ∧ InR .i64 s.2) (fun (b:Int) e a w=>e = (.exit 0) ∧ Ok u m0 (S) w ∧ Env 20 a [(3,vi b)] ∧ InR .i64 b) ?_ ?_ N _ a w hL ⟨ok,E.keep [0,3,4],(ir 0),(ir 0)⟩
 rotate_left
 ·intro e a w _ hO
  obtain ⟨rfl,ok,E,r13⟩:=hO
  refine qaN<|qaa<|sg<|mv E rfl fun a E=>aw E rfl fun a E=>wp_ret ?_
  exact fin hF ⟨ok,E.d,rz E rfl,r13⟩
 rintro ⟨v6,v7⟩ a w r ⟨ok,E,r8,r9⟩ hF
 replace hF:qgb N s_0 v6 v7 = some r:=hF
 unfold qgb at hF
 refine wp_seq<|sg<|mz E rfl rfl fun a E=>lw E (qeZ Tryd.underlying9 rfl) fun a E=>lw E (qaC rfl rfl) fun a E=>wn<|cg E rfl hF (fun c10 hF=>?_) fun c10 hF=>?_
 ·refine wp_exit<|qaE ?_
  cases hF
  exact so (⟨rfl,⟨ok,E.keep [3],r8⟩⟩)
 refine wp_skip<|qaa<|wp_seq<|wp_block<|qac<|mv E rfl fun a E=>lw E (qgw rfl rfl) fun a E=>mv E rfl fun a E=>mv E rfl fun a E=>?_
 refine bd hF fun c11 e12 hF=>lv E ok (qdE Tryd.underlying9 rfl rfl e12) fun a E=>lw E (qiT rfl rfl) fun a E=>lw E (qs4 Tryd.underlying5 Tryd.underlying3 rfl (InR.wrap _ _) (by decide)) fun a E=>lw E (qcg rfl rfl) fun a E=>av E rfl fun a E=>wpList_nil<|qap<|qaa<|qac<|mv E rfl fun a E=>lw E (qaA rfl rfl (InR.inc r9 (InR.len ls_0) c10)) fun a E=>av E rfl fun a E=>wpList_nil ?_
 cases hF
 exact qau ⟨ok,E.keep [0,3,4],(InR.wrap _ _),(InR.inc r9 (InR.len ls_0) c10)⟩
def qic (u:World) (m0:Mem) (S:Segs) (pb0:Nat) (x0:Parser) (r:Int × Parser) (a:Act) (w:World):Prop :=
 Ok u m0 ([(pb0,oc 114 [vs r.2.s,vi r.2.to_,vs r.2.w.text,vi r.2.w.at_,vi r.2.at_,vi r.2.e])] :: S) w ∧ a.defers = [] ∧ RVs Tryd.prog a w [.t 2 (.int .i64 r.1)] ∧ InR .i64 r.1 ∧ r.2.s.length ≤ LIMS ∧ InR .i64 r.2.to_ ∧ r.2.w.text.length ≤ LIMS ∧ InR .i64 r.2.w.at_ ∧ InR .i64 r.2.at_ ∧ InR .i64 r.2.e
theorem qdA (N:Nat) {pb0:Nat} (x0:Parser) (l1:x0.s.length ≤ LIMS) (r2:InR .i64 x0.to_) (l3:x0.w.text.length ≤ LIMS) (r4:InR .i64 x0.w.at_) (r5:InR .i64 x0.at_) (r6:InR .i64 x0.e) {r:Int × Parser} (hF:qcp N x0 = some r) (ok:Ok u m0 ([(pb0,oc 114 [vs x0.s,vi x0.to_,vs x0.w.text,vi x0.w.at_,vi x0.at_,vi x0.e])] :: S) w) :
  Calls Tryd.prog 79 [vp pb0].toArray w fun e w'=>(e = .returned (.int .i64 r.1) ∧ Ok u m0 ([(pb0,oc 114 [vs r.2.s,vi r.2.to_,vs r.2.w.text,vi r.2.w.at_,vi r.2.at_,vi r.2.e])] :: S) w') ∧ InR .i64 r.1 ∧ r.2.s.length ≤ LIMS ∧ InR .i64 r.2.to_ ∧ r.2.w.text.length ≤ LIMS ∧ InR .i64 r.2.w.at_ ∧ InR .i64 r.2.at_ ∧ InR .i64 r.2.e:=by
 unfold qcp at hF
 refine en (qic u m0 S pb0 x0) r Tryd.func79 rfl rfl rfl (by rintro a w ⟨ok,hd,hrv,h0,h1,h2,h3,h4,h5,h6⟩; exact qbC [.t 2 (.int .i64 r.1)] hd rfl hrv ⟨⟨rfl,ok⟩,h0,h1,h2,h3,h4,h5,h6⟩) fun fin a E=>sg<|aw E rfl fun a E=>sg<|mv E rfl fun a E=>lw E (qa1 rfl) fun a E=>fv E qf8 rfl fun a E=>fk E ok qkr qfH rfl 0 rfl rfl fun a E=>aw E rfl fun a E=>wp_seq<|sg<|mv E rfl fun a E=>lw E (qlq rfl rfl) fun a E=>mv E rfl fun a E=>bu E 11 hF (fun c13 hF E=>?_) fun c13 hF E=>?_
 ·refine lsq E fun a E=>ls E fun a E=>pt E rfl rfl fun a E=>mv E rfl fun a E=>lsq E fun a E=>ls E fun a E=>pt E rfl rfl fun a E=>mv E rfl fun a E=>lsq E fun a E=>ls E fun a E=>pt E rfl rfl fun a E=>mv E rfl fun a E=>ls E fun a E=>?_
  refine lsz E fun a E=>lsq E fun a E=>ls E fun a E=>pt E rfl rfl fun a E=>wn<|c_if E rfl (fun _=>?_) (fun h=>by cases h)
  refine sg<|mv E rfl fun a E=>bd hF fun r14 e15 hF=>qao E qft rfl (qaK N 3 (ir 3) x0 l1 r2 l3 r4 r5 r6 e15 ok) rfl rfl ?_
  rintro _ w ⟨⟨rfl,ok⟩,l16,r17,l18,r19,r20,r21⟩
  refine ⟨_,rfl,fun a E=>?_⟩
  refine wn<|sg<|aw E rfl fun a E=>wp_ret<|qav ?_
  exact fin hF ⟨ok,E.d,rz E rfl,(ir 0),l16,r17,l18,r19,r20,r21⟩
 refine mv E rfl fun a E=>bd hF fun c22 e23 hF=>lv E ok (qdE Tryd.underlying9 rfl rfl e23) fun a E=>lw E (qaC rfl rfl) fun a E=>pf E rfl rfl fun a E=>mv E rfl fun a E=>bu E 16 hF (fun c24 hF E=>?_) fun c24 hF E=>?_
 ·refine lsq E fun a E=>ls E fun a E=>pt E rfl rfl fun a E=>mv E rfl fun a E=>lsq E fun a E=>ls E fun a E=>pt E rfl rfl fun a E=>mv E rfl fun a E=>lsz E fun a E=>lsq E fun a E=>?_
  refine lsq E fun a E=>pt E rfl rfl fun a E=>wn<|c_if E rfl (fun _=>?_) (fun h=>by cases h)
  refine sg<|mv E rfl fun a E=>bd hF fun r25 e26 hF=>qao E qft rfl (qaK N 3 (ir 3) x0 l1 r2 l3 r4 r5 r6 e26 ok) rfl rfl ?_
  rintro _ w ⟨⟨rfl,ok⟩,l27,r28,l29,r30,r31,r32⟩
  refine ⟨_,rfl,fun a E=>?_⟩
  refine wn<|sg<|aw E rfl fun a E=>wp_ret<|qav ?_
  exact fin hF ⟨ok,E.d,rz E rfl,(ir 0),l27,r28,l29,r30,r31,r32⟩
 refine mv E rfl fun a E=>bd hF fun c33 e34 hF=>lv E ok (qdE Tryd.underlying9 rfl rfl e34) fun a E=>lw E (qcK rfl rfl) fun a E=>pf E rfl rfl fun a E=>mv E rfl fun a E=>bu E 21 hF (fun c35 hF E=>?_) fun c35 hF E=>?_
 ·refine lsq E fun a E=>ls E fun a E=>pt E rfl rfl fun a E=>mv E rfl fun a E=>lsz E fun a E=>lsz E fun a E=>pt E rfl rfl fun a E=>wn<|c_if E rfl (fun _=>?_) (fun h=>by cases h)
  refine sg<|mv E rfl fun a E=>bd hF fun r36 e37 hF=>qao E qft rfl (qaK N 3 (ir 3) x0 l1 r2 l3 r4 r5 r6 e37 ok) rfl rfl ?_
  rintro _ w ⟨⟨rfl,ok⟩,l38,r39,l40,r41,r42,r43⟩
  refine ⟨_,rfl,fun a E=>?_⟩
  refine wn<|sg<|aw E rfl fun a E=>wp_ret<|qav ?_
  exact fin hF ⟨ok,E.d,rz E rfl,(ir 0),l38,r39,l40,r41,r42,r43⟩
 refine mv E rfl fun a E=>lw E (qeZ Tryd.underlying9 rfl) fun a E=>lw E (qcK rfl rfl) fun a E=>pf E rfl rfl fun a E=>mv E rfl fun a E=>bu E 26 hF (fun c44 hF E=>?_) fun c44 hF E=>?_
 ·refine lsz E fun a E=>lsz E fun a E=>pt E rfl rfl fun a E=>wn<|c_if E rfl (fun _=>?_) (fun h=>by cases h)
  refine sg<|mv E rfl fun a E=>bd hF fun r45 e46 hF=>qao E qft rfl (qaK N 3 (ir 3) x0 l1 r2 l3 r4 r5 r6 e46 ok) rfl rfl ?_
  rintro _ w ⟨⟨rfl,ok⟩,l47,r48,l49,r50,r51,r52⟩
  refine ⟨_,rfl,fun a E=>?_⟩
  refine wn<|sg<|aw E rfl fun a E=>wp_ret<|qav ?_
  exact fin hF ⟨ok,E.d,rz E rfl,(ir 0),l47,r48,l49,r50,r51,r52⟩
 refine mv E rfl fun a E=>lw E (qeZ Tryd.underlying9 rfl) fun a E=>lw E (qcK rfl rfl) fun a E=>mv E rfl fun a E=>bw E 30 hF (fun c53 hF E=>?_) fun c53 hF E=>?_
 ·refine lsq E fun a E=>ls E fun a E=>pf E rfl rfl fun a E=>pf E rfl rfl fun a E=>wn<|c_if E rfl (fun h=>by cases h) (fun _=>?_)
  refine wp_skip<|qaa<|sg<|mv E rfl fun a E=>bd hF fun r68 e69 hF=>qao E qnU rfl (qfn N x0.w.text l3 e69 ok) rfl rfl ?_
  rintro _ w ⟨⟨rfl,ok⟩,r70⟩
  refine ⟨_,rfl,fun a E=>?_⟩
  refine aw E rfl fun a E=>wp_ret ?_
  exact fin hF ⟨ok,E.d,rz E rfl,r70,l1,r2,l3,r4,r5,r6⟩
 refine mv E rfl fun a E=>bd hF fun c54 e55 hF=>lv E ok (qdE Tryd.underlying9 rfl rfl e55) fun a E=>lw E (qax rfl rfl) fun a E=>pt E rfl rfl fun a E=>pf E rfl rfl fun a E=>wn<|cg E rfl hF (fun c56 hF=>?_) fun c56 hF=>?_
 ·refine wp_skip<|qaa<|sg<|mv E rfl fun a E=>bd hF fun r65 e66 hF=>qao E qnU rfl (qfn N x0.w.text l3 e66 ok) rfl rfl ?_
  rintro _ w ⟨⟨rfl,ok⟩,r67⟩
  refine ⟨_,rfl,fun a E=>?_⟩
  refine aw E rfl fun a E=>wp_ret ?_
  exact fin hF ⟨ok,E.d,rz E rfl,r67,l1,r2,l3,r4,r5,r6⟩
 refine sg<|mv E rfl fun a E=>bd hF fun r57 e58 hF=>qao E qft rfl (qaK N 3 (ir 3) x0 l1 r2 l3 r4 r5 r6 e58 ok) rfl rfl ?_
 rintro _ w ⟨⟨rfl,ok⟩,l59,r60,l61,r62,r63,r64⟩
 refine ⟨_,rfl,fun a E=>?_⟩
 refine wn<|sg<|aw E rfl fun a E=>wp_ret<|qav ?_
 exact fin hF ⟨ok,E.d,rz E rfl,(ir 0),l59,r60,l61,r62,r63,r64⟩
def qiA (u:World) (m0:Mem) (S:Segs) (pb0:Nat) (x0:Parser) (r:Span × Parser) (a:Act) (w:World):Prop :=
 ∃ m1 v0,m0.le m1 ∧ Ok u m1 ([(pb0,oc 114 [vs r.2.s,vi r.2.to_,vs r.2.w.text,vi r.2.w.at_,vi r.2.at_,vi r.2.e])] :: S) w ∧ a.defers = [] ∧ RVs Tryd.prog a w [.c 4 87 (.agg v0.toArray)] ∧ qd7 m1 v0 r.1 ∧ r.2.s.length ≤ LIMS ∧ InR .i64 r.2.to_ ∧ r.2.w.text.length ≤ LIMS ∧ InR .i64 r.2.w.at_ ∧ InR .i64 r.2.at_ ∧ InR .i64 r.2.e
theorem qd6 (N:Nat) (operand_1:Int) (roperand_1:InR .i64 operand_1) {pb0:Nat} (x0:Parser) (l1:x0.s.length ≤ LIMS) (r2:InR .i64 x0.to_) (l3:x0.w.text.length ≤ LIMS) (r4:InR .i64 x0.w.at_) (r5:InR .i64 x0.at_) (r6:InR .i64 x0.e) {r:Span × Parser} (hF:qcI N operand_1 x0 = some r) (ok:Ok u m0 ([(pb0,oc 114 [vs x0.s,vi x0.to_,vs x0.w.text,vi x0.w.at_,vi x0.at_,vi x0.e])] :: S) w) :
  Calls Tryd.prog 80 [vp pb0,vi operand_1].toArray w fun e w'=>∃ m1 v0,e = .returned (.agg v0.toArray) ∧ m0.le m1 ∧ Ok u m1 ([(pb0,oc 114 [vs r.2.s,vi r.2.to_,vs r.2.w.text,vi r.2.w.at_,vi r.2.at_,vi r.2.e])] :: S) w' ∧ qd7 m1 v0 r.1 ∧ r.2.s.length ≤ LIMS ∧ InR .i64 r.2.to_ ∧ r.2.w.text.length ≤ LIMS ∧ InR .i64 r.2.w.at_ ∧ InR .i64 r.2.at_ ∧ InR .i64 r.2.e:=by
 have le_m0:=Mem.le.refl m0
 unfold qcI at hF
 refine en (qiA u m0 S pb0 x0) r Tryd.func80 rfl rfl rfl (by rintro a w ⟨m1,v0,hle,ok,hd,hrv,h0,h1,h2,h3,h4,h5,h6⟩; exact qbC [.c 4 87 (.agg v0.toArray)] hd rfl hrv ⟨m1,v0,rfl,hle,ok,h0,h1,h2,h3,h4,h5,h6⟩) fun fin a E=>sg<|qaw E ok qd3 rfl rfl fun b13 a w E ok=>wn<|sg<|mv E rfl fun a E=>?_
 obtain ⟨r14,e15,hF⟩:=bnd hF
 replace ok:Ok u m0 ([(pb0,oc 114 [vs x0.s,vi x0.to_,vs x0.w.text,vi x0.w.at_,vi x0.at_,vi x0.e])] :: [(b13,oc 87 [vi 0,vi 0])] :: S) w:=(ok.pk 2 [1,0] rfl (by decide))
 refine qao E qn6 rfl (qdA N x0 l1 r2 l3 r4 r5 r6 e15 ok) rfl rfl ?_
 rintro _ w ⟨⟨rfl,ok⟩,r16,l17,r18,l19,r20,r21,r22⟩
 refine ⟨_,rfl,fun a E=>?_⟩
 refine lw E (qaG (ps:=[(0,.tmp 7)]) (qs:=[(0,[vi r14.1])]) (cs:=[vi r14.1,vi 0]) qd3 qqO rfl ⟨rfl,rfl,rfl,trivial⟩ rfl) fun a E=>qaw E ok qd3 rfl rfl fun b23 a w E ok=>qaf E ok 0 rfl rfl rfl qgs rfl rfl ⟨rfl,rfl,trivial⟩ rfl rfl fun w ok=>wn<|wp_seq<|wp_seq<|qee (by kernel_rfl) (by kernel_rfl) ok<|qv E (qae qfZ rfl) fun a E=>qv E (qai qam rfl (qab.own 0 rfl rfl)) fun a E=>qv E (qah rfl) fun a E=>?_
 obtain ⟨r24,e25,hF⟩:=bnd hF
 obtain ⟨_,_,⟨_,_⟩,r26⟩:=Go.X.Calls.get (qct N operand_1 roperand_1 e25 ok)
 refine qg0 E qmL rfl (fun w ok=>(qct N operand_1 roperand_1 e25 ok).mono (fun _ _ h=>h.1)) rfl rfl fun a E=>qv E (qcK rfl rfl) fun a E=>wpQuiet_nil ?_
 intro w ok
 refine qaa<|bd hF fun o27 hJ hF=>qaO (Q':=fun e a w=>e = .normal ∧ Ok u m0 ([(b23,oc 87 [vi r14.1,vi 0])] :: [(pb0,oc 114 [vs o27.s,vi o27.to_,vs o27.w.text,vi o27.w.at_,vi o27.at_,vi o27.e])] :: [(b13,oc 87 [vi 0,vi 0])] :: S) w ∧ Env 45 a [(0,vp pb0),(1,vi operand_1),(4,vp b13),(5,vp b23)] ∧ o27.s.length ≤ LIMS ∧ InR .i64 o27.to_ ∧ o27.w.text.length ≤ LIMS ∧ InR .i64 o27.w.at_ ∧ InR .i64 o27.at_ ∧ InR .i64 o27.e) ?_ ?_
 ·have hF:=hJ
  refine cg E rfl hF (fun c34 hF=>?_) fun c34 hF=>?_
  ·refine wp_skip ?_
   cases hF
   exact ⟨rfl,⟨ok,E.keep [0,1,4,5],l17,r18,l19,r20,r21,r22⟩⟩
  refine qac<|mv E rfl fun a E=>?_
  obtain ⟨r35,e36,hF⟩:=bnd hF
  replace ok:Ok u m0 ([(pb0,oc 114 [vs r14.2.s,vi r14.2.to_,vs r14.2.w.text,vi r14.2.w.at_,vi r14.2.at_,vi r14.2.e])] :: [(b23,oc 87 [vi r14.1,vi 0])] :: [(b13,oc 87 [vi 0,vi 0])] :: S) w:=(ok.pk 3 [1,0,2] rfl (by decide))
  refine qao E qft rfl (qaK N 2 (ir 2) r14.2 l17 r18 l19 r20 r21 r22 e36 ok) rfl rfl ?_
  rintro _ w ⟨⟨rfl,ok⟩,l37,r38,l39,r40,r41,r42⟩
  refine ⟨_,rfl,fun a E=>?_⟩
  refine wpList_nil ?_
  cases hF
  exact ⟨rfl,⟨(ok.pk 3 [1,0,2] rfl (by decide)),E.keep [0,1,4,5],l37,r38,l39,r40,r41,r42⟩⟩
 intro e a w hO
 obtain ⟨rfl,ok,E,l43,r44,l45,r46,r47,r48⟩:=hO
 refine qaa<|sg<|mv E rfl fun a E=>?_
 obtain ⟨r49,e50,hF⟩:=bnd hF
 replace ok:Ok u m0 ([(pb0,oc 114 [vs o27.s,vi o27.to_,vs o27.w.text,vi o27.w.at_,vi o27.at_,vi o27.e])] :: [(b23,oc 87 [vi r14.1,vi 0])] :: [(b13,oc 87 [vi 0,vi 0])] :: S) w:=(ok.pk 3 [1,0,2] rfl (by decide))
 refine qao E qen rfl (qaD N o27 l43 r44 l45 r46 r47 r48 e50 ok) rfl rfl ?_
 rintro _ w ⟨⟨rfl,ok⟩,l51,r52,l53,r54,r55,r56⟩
 refine ⟨_,rfl,fun a E=>?_⟩
 refine wn<|sg<|fk E ok qfZ qam rfl 1 rfl rfl fun a E=>fv E qeL rfl fun a E=>qaf E ok 1 rfl rfl rfl qbp rfl rfl ⟨rfl,trivial⟩ rfl rfl fun w ok=>wn<|wp_seq<|sg<|mv E rfl fun a E=>bd hF fun r57 e58 hF=>lc E qfp rfl (qaQ N ([46,46]) (show ([46,46]:List UInt8).length ≤ LIMS by decide) r49 l51 r52 l53 r54 r55 r56 e58 ok) fun w ok a E=>wn<|cg E rfl hF (fun c59 hF=>?_) fun c59 hF=>?_
 ·refine wp_skip<|qaa<|sg<|lv E ok (qaj (cs:=[vi r14.1,vi r14.1]) qfF rfl rfl (qab.own 1 rfl rfl)) fun a E=>qaf E ok 2 rfl rfl rfl qgs rfl rfl ⟨rfl,rfl,trivial⟩ rfl rfl fun w ok=>wn<|wp_ret ?_
  exact fin hF ⟨m0,[vi r14.1,vi r14.1],le_m0,(ok.pk 3 [0] rfl (by decide)),E.d,⟨rv_c (cs:=[vi r14.1,vi r14.1]) E ok rfl qfF rfl (qab.own 2 rfl rfl),trivial⟩,⟨rfl,r16,r16⟩,l51,r52,l53,r54,r55,r56⟩
 refine sg<|mv E rfl fun a E=>bd hF fun r60 e61 hF=>qao E qen rfl (qaD N r49 l51 r52 l53 r54 r55 r56 e61 ok) rfl rfl ?_
 rintro _ w ⟨⟨rfl,ok⟩,l62,r63,l64,r65,r66,r67⟩
 refine ⟨_,rfl,fun a E=>?_⟩
 refine wn<|sg<|mv E rfl fun a E=>bd hF fun r68 e69 hF=>qao E qn6 rfl (qdA N r60 l62 r63 l64 r65 r66 r67 e69 ok) rfl rfl ?_
 rintro _ w ⟨⟨rfl,ok⟩,r70,l71,r72,l73,r74,r75,r76⟩
 refine ⟨_,rfl,fun a E=>?_⟩
 refine fv E qeL rfl fun a E=>qaf E ok 1 rfl rfl rfl qbp rfl rfl ⟨rfl,trivial⟩ rfl rfl fun w ok=>wn<|wp_seq<|wp_seq<|qee (by kernel_rfl) (by kernel_rfl) ok<|qv E (qae qeL rfl) fun a E=>qv E (qai qam rfl (qab.own 1 rfl rfl)) fun a E=>qv E (qah rfl) fun a E=>?_
 obtain ⟨r77,e78,hF⟩:=bnd hF
 obtain ⟨_,_,⟨_,_⟩,r79⟩:=Go.X.Calls.get (qct N operand_1 roperand_1 e78 ok)
 refine qg0 E qmL rfl (fun w ok=>(qct N operand_1 roperand_1 e78 ok).mono (fun _ _ h=>h.1)) rfl rfl fun a E=>qv E (qcK rfl rfl) fun a E=>qv E (qah rfl) fun a E=>bu E 33 hF (fun c80 hF E=>?_) fun c80 hF E=>?_
 ·refine qs E fun a E=>qs E fun a E=>qs E fun a E=>qs E fun a E=>qs E fun a E=>qv E (qbe rfl rfl) fun a E=>wpQuiet_nil ?_
  intro w ok
  refine qaa<|c_if E rfl (fun _=>?_) (fun h=>by cases h)
  refine qac<|mv E rfl fun a E=>bd hF fun r81 e82 hF=>qao E qft rfl (qaK N 2 (ir 2) r68.2 l71 r72 l73 r74 r75 r76 e82 ok) rfl rfl ?_
  rintro _ w ⟨⟨rfl,ok⟩,l83,r84,l85,r86,r87,r88⟩
  refine ⟨_,rfl,fun a E=>?_⟩
  refine wn<|qac<|mv E rfl fun a E=>bd hF fun r89 e90 hF=>qao E qen rfl (qaD N r81 l83 r84 l85 r86 r87 r88 e90 ok) rfl rfl ?_
  rintro _ w ⟨⟨rfl,ok⟩,l91,r92,l93,r94,r95,r96⟩
  refine ⟨_,rfl,fun a E=>?_⟩
  refine wn<|sg<|lv E ok (qaj (cs:=[vi r14.1,vi r68.1]) qfF rfl rfl (qab.own 1 rfl rfl)) fun a E=>qaf E ok 2 rfl rfl rfl qgs rfl rfl ⟨rfl,rfl,trivial⟩ rfl rfl fun w ok=>wn<|wp_ret ?_
  exact fin hF ⟨m0,[vi r14.1,vi r68.1],le_m0,(ok.pk 3 [0] rfl (by decide)),E.d,⟨rv_c (cs:=[vi r14.1,vi r68.1]) E ok rfl qfF rfl (qab.own 2 rfl rfl),trivial⟩,⟨rfl,r16,r70⟩,l91,r92,l93,r94,r95,r96⟩
 refine qv E (qae qeL rfl) fun a E=>qv E (qai qam rfl (qab.own 1 rfl rfl)) fun a E=>qv E (qae qfZ rfl) fun a E=>qv E (qai qam rfl (qab.own 1 rfl rfl)) fun a E=>qv E (qaC rfl rfl) fun a E=>qv E (qa5 rfl rfl) fun a E=>wpQuiet_nil ?_
 intro w ok
 refine qaa<|cg E rfl hF (fun c97 hF=>?_) fun c97 hF=>?_
 ·refine wp_skip<|qaa<|qac<|mv E rfl fun a E=>bd hF fun r114 e115 hF=>qao E qen rfl (qaD N r68.2 l71 r72 l73 r74 r75 r76 e115 ok) rfl rfl ?_
  rintro _ w ⟨⟨rfl,ok⟩,l116,r117,l118,r119,r120,r121⟩
  refine ⟨_,rfl,fun a E=>?_⟩
  refine wn<|sg<|lv E ok (qaj (cs:=[vi r14.1,vi r68.1]) qfF rfl rfl (qab.own 1 rfl rfl)) fun a E=>qaf E ok 2 rfl rfl rfl qgs rfl rfl ⟨rfl,rfl,trivial⟩ rfl rfl fun w ok=>wn<|wp_ret ?_
  exact fin hF ⟨m0,[vi r14.1,vi r68.1],le_m0,(ok.pk 3 [0] rfl (by decide)),E.d,⟨rv_c (cs:=[vi r14.1,vi r68.1]) E ok rfl qfF rfl (qab.own 2 rfl rfl),trivial⟩,⟨rfl,r16,r70⟩,l116,r117,l118,r119,r120,r121⟩
 refine qac<|mv E rfl fun a E=>bd hF fun r98 e99 hF=>qao E qft rfl (qaK N 2 (ir 2) r68.2 l71 r72 l73 r74 r75 r76 e99 ok) rfl rfl ?_
 rintro _ w ⟨⟨rfl,ok⟩,l100,r101,l102,r103,r104,r105⟩
 refine ⟨_,rfl,fun a E=>?_⟩
 refine wn<|qac<|mv E rfl fun a E=>bd hF fun r106 e107 hF=>qao E qen rfl (qaD N r98 l100 r101 l102 r103 r104 r105 e107 ok) rfl rfl ?_
 rintro _ w ⟨⟨rfl,ok⟩,l108,r109,l110,r111,r112,r113⟩
 refine ⟨_,rfl,fun a E=>?_⟩
 refine wn<|sg<|lv E ok (qaj (cs:=[vi r14.1,vi r68.1]) qfF rfl rfl (qab.own 1 rfl rfl)) fun a E=>qaf E ok 2 rfl rfl rfl qgs rfl rfl ⟨rfl,rfl,trivial⟩ rfl rfl fun w ok=>wn<|wp_ret ?_
 exact fin hF ⟨m0,[vi r14.1,vi r68.1],le_m0,(ok.pk 3 [0] rfl (by decide)),E.d,⟨rv_c (cs:=[vi r14.1,vi r68.1]) E ok rfl qfF rfl (qab.own 2 rfl rfl),trivial⟩,⟨rfl,r16,r70⟩,l108,r109,l110,r111,r112,r113⟩
def qij (u:World) (m0:Mem) (S:Segs) (pb0:Nat) (x0:Parser) (r:Bool) (a:Act) (w:World):Prop :=
 Ok u m0 ([(pb0,oc 114 [vs x0.s,vi x0.to_,vs x0.w.text,vi x0.w.at_,vi x0.at_,vi x0.e])] :: S) w ∧ a.defers = [] ∧ RVs Tryd.prog a w [.t 2 (.bool r)]
theorem qdN (N:Nat) {pb0:Nat} (x0:Parser) (l1:x0.s.length ≤ LIMS) (r2:InR .i64 x0.to_) (l3:x0.w.text.length ≤ LIMS) (r4:InR .i64 x0.w.at_) (r5:InR .i64 x0.at_) (r6:InR .i64 x0.e) {r:Bool} (hF:qed N x0 = some r) (ok:Ok u m0 ([(pb0,oc 114 [vs x0.s,vi x0.to_,vs x0.w.text,vi x0.w.at_,vi x0.at_,vi x0.e])] :: S) w) :
  Calls Tryd.prog 81 [vp pb0].toArray w fun e w'=>(e = .returned (.bool r) ∧ Ok u m0 ([(pb0,oc 114 [vs x0.s,vi x0.to_,vs x0.w.text,vi x0.w.at_,vi x0.at_,vi x0.e])] :: S) w'):=by
 have le_m0:=Mem.le.refl m0
 unfold qed at hF
 refine en (qij u m0 S pb0 x0) r Tryd.func81 rfl rfl rfl (fun _ _ h=>ra h rfl) fun fin a E=>sg<|aw E rfl fun a E=>wp_seq<|bd hF fun o7 hJ hF=>qaO (Q':=fun e a w=>e = .normal ∧ ∃ b14,Ok u m0 ([(b14,oc 114 [vs o7.s,vi o7.to_,vs o7.w.text,vi o7.w.at_,vi o7.at_,vi o7.e])] :: [(pb0,oc 114 [vs x0.s,vi x0.to_,vs x0.w.text,vi x0.w.at_,vi x0.at_,vi x0.e])] :: S) w ∧ Env 17 a [(3,vp b14)] ∧ o7.s.length ≤ LIMS ∧ InR .i64 o7.to_ ∧ o7.w.text.length ≤ LIMS ∧ InR .i64 o7.w.at_ ∧ InR .i64 o7.at_ ∧ InR .i64 o7.e) ?_ ?_
 rotate_left
 ·intro e a w hO
  obtain ⟨rfl,b23,ok,E,l17,r18,l19,r20,r21,r22⟩:=hO
  refine qaa<|sg<|bd hF fun r24 e25 hF=>qao E qn6 rfl (qdA N o7 l17 r18 l19 r20 r21 r22 e25 ok) rfl rfl ?_
  rintro _ w ⟨⟨rfl,ok⟩,r26,l27,r28,l29,r30,r31,r32⟩
  refine ⟨_,rfl,fun a E=>?_⟩
  refine wn<|sg<|fk E ok qhl qjD rfl 0 rfl rfl fun a E=>lw E (qax rfl rfl) fun a E=>av E rfl fun a E=>wn<|wp_ret ?_
  exact fin hF ⟨ok.drop,E.d,rz E rfl⟩
 have hF:=hJ
 cases hF
 refine qaX [] (Cls u m0 ([(pb0,oc 114 [vs x0.s,vi x0.to_,vs x0.w.text,vi x0.w.at_,vi x0.at_,vi x0.e])] :: [])) (Cls u m0 ([(pb0,oc 114 [vs x0.s,vi x0.to_,vs x0.w.text,vi x0.w.at_,vi x0.at_,vi x0.e])] :: [])) (by kernel_rfl) ?_
 intro w hw
 replace ok:=qa3 ok hw
 clear hw
 refine qag (cl1 (cq le_m0 ok [0] rfl) (cq le_m0 ok [0] rfl)) fun hT=>kt 0 E rfl hT (qah rfl) fun a E=>kt 1 E rfl hT (qa1 rfl) fun a E=>kt 2 E rfl hT (qae qoG rfl) fun a E=>kt 3 E rfl hT (qai qfH rfl (qab.cown 0 rfl rfl)) fun a E=>kt 4 E rfl hT (qah rfl) fun a E=>kt 5 E rfl hT (qa1 rfl) fun a E=>kt 6 E rfl hT (qae qf8 rfl) fun a E=>kt 7 E rfl hT (qaj (cs:=[vs x0.w.text,vi x0.w.at_]) qnj rfl rfl (qab.cown 0 rfl rfl)) fun a E=>kt 8 E rfl hT (qaG (ps:=[(0,.tmp 7),(2,.tmp 11)]) (qs:=[(0,[vs x0.s]),(2,[vs x0.w.text,vi x0.w.at_])]) (cs:=[vs x0.s,vi 0,vs x0.w.text,vi x0.w.at_,vi 0,vi 0]) ql1 qmx rfl ⟨rfl,rfl,rfl,⟨rfl,rfl,rfl,trivial⟩⟩ rfl) fun a E=>qar [9] (by kernel_rfl) rfl (qas ?_)
 ·refine wo rfl<|qaw E ok ql1 rfl rfl fun b16 a w E ok=>wn<|qag (cl1 (cq le_m0 ok [1] rfl) (cq le_m0 ok [1] rfl)) fun hT=>qar [10] (by kernel_rfl) rfl (qas ?_)
  ·refine wo rfl<|qaf E ok 0 rfl rfl rfl qsN rfl rfl ⟨rfl,rfl,rfl,rfl,rfl,rfl,trivial⟩ rfl rfl fun w ok=>wn<|qag (cl1 (cq le_m0 ok [1] rfl) (cq le_m0 ok [1] rfl)) fun hT=>qaM (by kernel_rfl) ?_
   exact ⟨rfl,⟨b16,ok,E.keep [3],l1,(ir 0),l3,r4,(ir 0),(ir 0)⟩⟩
end Go.Proofs.YtidfofhmnlhfjaaDoor
namespace Go.Proofs.YtidfofhmnlhfjaaDoor
open Go.X
variable {u:World} {m0:Mem} {S:Segs} {w:World}
set_option maxHeartbeats 4000000
set_option maxRecDepth 100000
def qhL (u:World) (m0:Mem) (S:Segs) (pb0:Nat) (x0:Parser) (r:Relation × Parser) (a:Act) (w:World):Prop :=
 ∃ m1 v0,m0.le m1 ∧ Ok u m1 ([(pb0,oc 114 [vs r.2.s,vi r.2.to_,vs r.2.w.text,vi r.2.w.at_,vi r.2.at_,vi r.2.e])] :: S) w ∧ a.defers = [] ∧ RVs Tryd.prog a w [.c 2 54 (.agg v0.toArray)] ∧ qan m1 v0 r.1 ∧ r.2.s.length ≤ LIMS ∧ InR .i64 r.2.to_ ∧ r.2.w.text.length ≤ LIMS ∧ InR .i64 r.2.w.at_ ∧ InR .i64 r.2.at_ ∧ InR .i64 r.2.e
theorem qfN (N:Nat) {pb0:Nat} (x0:Parser) (l1:x0.s.length ≤ LIMS) (r2:InR .i64 x0.to_) (l3:x0.w.text.length ≤ LIMS) (r4:InR .i64 x0.w.at_) (r5:InR .i64 x0.at_) (r6:InR .i64 x0.e) {r:Relation × Parser} (hF:qdz N x0 = some r) (ok:Ok u m0 ([(pb0,oc 114 [vs x0.s,vi x0.to_,vs x0.w.text,vi x0.w.at_,vi x0.at_,vi x0.e])] :: S) w) :
  Calls Tryd.prog 58 [vp pb0].toArray w fun e w'=>∃ m1 v0,e = .returned (.agg v0.toArray) ∧ m0.le m1 ∧ Ok u m1 ([(pb0,oc 114 [vs r.2.s,vi r.2.to_,vs r.2.w.text,vi r.2.w.at_,vi r.2.at_,vi r.2.e])] :: S) w' ∧ qan m1 v0 r.1 ∧ r.2.s.length ≤ LIMS ∧ InR .i64 r.2.to_ ∧ r.2.w.text.length ≤ LIMS ∧ InR .i64 r.2.w.at_ ∧ InR .i64 r.2.at_ ∧ InR .i64 r.2.e:=by
 have le_m0:=Mem.le.refl m0
 unfold qdz at hF
 refine en (qhL u m0 S pb0 x0) r Tryd.func58 rfl rfl rfl (by rintro a w ⟨m1,v0,hle,ok,hd,hrv,h0,h1,h2,h3,h4,h5,h6⟩; exact qbC [.c 2 54 (.agg v0.toArray)] hd rfl hrv ⟨m1,v0,rfl,hle,ok,h0,h1,h2,h3,h4,h5,h6⟩) fun fin a E=>sg<|qaw E ok qds rfl rfl fun b13 a w E ok=>wn<|sg<|qaw E ok qds rfl rfl fun b14 a w E ok=>wn<|wp_seq<|sg<|av E rfl fun a E=>wn<|wp_block<|bd hF fun o19 hL hF=>qaH _ (fun (s:Int × Relation) a w=>Ok u m0 ([(b14,oc 54 [vi s.2.Operand,vi s.2.Mod,vb s.2.Not,(Value.slice none 0 0)])] :: [(b13,oc 54 [vi 0,vi 0,vb false,(Value.slice none 0 0)])] :: [(pb0,oc 114 [vs x0.s,vi x0.to_,vs x0.w.text,vi x0.w.at_,vi x0.at_,vi x0.e])] :: S) w ∧ Env 103 a [(0,vp pb0),(2,vp b13),(3,vp b14),(4,vi s.1)] ∧ InR .i64 s.1 ∧ InR .i64 s.2.Operand ∧ InR .i64 s.2.Mod) (fun (b:Relation) e a w=>e = (.exit 0) ∧ Ok u m0 ([(b14,oc 54 [vi b.Operand,vi b.Mod,vb b.Not,(Value.slice none 0 0)])] :: [(b13,oc 54 [vi 0,vi 0,vb false,(Value.slice none 0 0)])] :: [(pb0,oc 114 [vs x0.s,vi x0.to_,vs x0.w.text,vi x0.w.at_,vi x0.at_,vi x0.e])] :: S) w ∧ Env 103 a [(0,vp pb0),(2,vp b13),(3,vp b14)] ∧ InR .i64 b.Operand ∧ InR .i64 b.Mod) ?_ ?_ N _ a w hL ⟨ok,E.keep [0,2,3,4],(ir 0),(ir 0),(ir 0)⟩
 ·rintro ⟨v23,v24⟩ a w r ⟨ok,E,r25,r26,r27⟩ hF
  replace hF:qd9 N x0 v23 v24 = some r:=hF
  unfold qd9 at hF
  refine wp_seq<|sg<|mv E rfl fun a E=>lw E (qaC rfl rfl) fun a E=>wn<|cg E rfl hF (fun c28 hF=>?_) fun c28 hF=>?_
  ·refine wp_exit<|qaE ?_
   cases hF
   exact so (⟨rfl,⟨ok,E.keep [0,2,3],r26,r27⟩⟩)
  refine wp_skip<|qaa<|wp_seq<|wp_block<|sg<|mz E rfl rfl fun a E=>mv E rfl fun a E=>lw E (qaA rfl rfl (InR.inc r25 (ir 6) c28)) fun a E=>bd hF fun s29 e30 hF=>lw E (qhe Tryd.underlying9 e30 rfl ⟨_,rfl⟩ ⟨_,rfl⟩) fun a E=>?_
  obtain ⟨r31,e32,hF⟩:=bnd hF
  replace ok:Ok u m0 ([(pb0,oc 114 [vs x0.s,vi x0.to_,vs x0.w.text,vi x0.w.at_,vi x0.at_,vi x0.e])] :: [(b14,oc 54 [vi v24.Operand,vi v24.Mod,vb v24.Not,(Value.slice none 0 0)])] :: [(b13,oc 54 [vi 0,vi 0,vb false,(Value.slice none 0 0)])] :: S) w:=(ok.pk 3 [2,0,1] rfl (by decide))
  refine lc E qfp rfl (qaQ N s29 (Nat.le_trans (qjA e30) (show ([110,105,118,119,102,116]:List UInt8).length ≤ LIMS by decide)) x0 l1 r2 l3 r4 r5 r6 e32 ok) fun w ok a E=>wn<|cg E rfl hF (fun c33 hF=>?_) fun c33 hF=>?_
  ·refine wp_skip<|qap<|qaa<|qac<|mv E rfl fun a E=>lw E (qaA rfl rfl (InR.inc r25 (ir 6) c28)) fun a E=>av E rfl fun a E=>wpList_nil ?_
   cases hF
   exact qau ⟨(ok.pk 3 [1,2,0] rfl (by decide)),E.keep [0,2,3,4],(InR.inc r25 (ir 6) c28),r26,r27⟩
  refine qac<|mv E rfl fun a E=>lw E (qaA rfl rfl (InR.inc r25 (ir 6) c28)) fun a E=>fv E qa6 rfl fun a E=>qaf E ok 1 rfl rfl rfl qbp rfl rfl ⟨rfl,trivial⟩ rfl rfl fun w ok=>wpList_nil<|qap<|qaa<|qac<|mv E rfl fun a E=>lw E (qaA rfl rfl (InR.inc r25 (ir 6) c28)) fun a E=>av E rfl fun a E=>wpList_nil ?_
  cases hF
  exact qau ⟨(ok.pk 3 [1,2,0] rfl (by decide)),E.keep [0,2,3,4],(InR.inc r25 (ir 6) c28),(InR.inc r25 (ir 6) c28),r27⟩
 intro e a w _ hO
 obtain ⟨rfl,ok,E,r34,r35⟩:=hO
 refine qaN<|qaa<|wp_seq<|sg<|fk E ok qa6 qam rfl 0 rfl rfl fun a E=>lw E (qax rfl rfl) fun a E=>wn<|bd hF fun o36 hJ hF=>qaO (Q':=fun e a w=>e = .normal ∧ Ok u m0 ([(b14,oc 54 [vi o19.Operand,vi o19.Mod,vb o19.Not,(Value.slice none 0 0)])] :: [(b13,oc 54 [vi 0,vi 0,vb false,(Value.slice none 0 0)])] :: [(pb0,oc 114 [vs o36.s,vi o36.to_,vs o36.w.text,vi o36.w.at_,vi o36.at_,vi o36.e])] :: S) w ∧ Env 103 a [(0,vp pb0),(2,vp b13),(3,vp b14)] ∧ o36.s.length ≤ LIMS ∧ InR .i64 o36.to_ ∧ o36.w.text.length ≤ LIMS ∧ InR .i64 o36.w.at_ ∧ InR .i64 o36.at_ ∧ InR .i64 o36.e) ?_ ?_
 ·have hF:=hJ
  refine cg E rfl hF (fun c43 hF=>?_) fun c43 hF=>?_
  ·refine wp_skip ?_
   cases hF
   exact ⟨rfl,⟨ok,E.keep [0,2,3],l1,r2,l3,r4,r5,r6⟩⟩
  refine qac<|mv E rfl fun a E=>?_
  obtain ⟨r44,e45,hF⟩:=bnd hF
  replace ok:Ok u m0 ([(pb0,oc 114 [vs x0.s,vi x0.to_,vs x0.w.text,vi x0.w.at_,vi x0.at_,vi x0.e])] :: [(b14,oc 54 [vi o19.Operand,vi o19.Mod,vb o19.Not,(Value.slice none 0 0)])] :: [(b13,oc 54 [vi 0,vi 0,vb false,(Value.slice none 0 0)])] :: S) w:=(ok.pk 3 [2,0,1] rfl (by decide))
  refine qao E qft rfl (qaK N 3 (ir 3) x0 l1 r2 l3 r4 r5 r6 e45 ok) rfl rfl ?_
  rintro _ w ⟨⟨rfl,ok⟩,l46,r47,l48,r49,r50,r51⟩
  refine ⟨_,rfl,fun a E=>?_⟩
  refine wpList_nil ?_
  cases hF
  exact ⟨rfl,⟨(ok.pk 3 [1,2,0] rfl (by decide)),E.keep [0,2,3],l46,r47,l48,r49,r50,r51⟩⟩
 intro e a w hO
 obtain ⟨rfl,ok,E,l52,r53,l54,r55,r56,r57⟩:=hO
 refine qaa<|sg<|mv E rfl fun a E=>?_
 obtain ⟨r58,e59,hF⟩:=bnd hF
 replace ok:Ok u m0 ([(pb0,oc 114 [vs o36.s,vi o36.to_,vs o36.w.text,vi o36.w.at_,vi o36.at_,vi o36.e])] :: [(b14,oc 54 [vi o19.Operand,vi o19.Mod,vb o19.Not,(Value.slice none 0 0)])] :: [(b13,oc 54 [vi 0,vi 0,vb false,(Value.slice none 0 0)])] :: S) w:=(ok.pk 3 [2,0,1] rfl (by decide))
 refine qao E qen rfl (qaD N o36 l52 r53 l54 r55 r56 r57 e59 ok) rfl rfl ?_
 rintro _ w ⟨⟨rfl,ok⟩,l60,r61,l62,r63,r64,r65⟩
 refine ⟨_,rfl,fun a E=>?_⟩
 refine wn<|wp_seq<|sg<|mv E rfl fun a E=>bd hF fun r66 e67 hF=>lc E qfp rfl (qaQ N ([37]) (show ([37]:List UInt8).length ≤ LIMS by decide) r58 l60 r61 l62 r63 r64 r65 e67 ok) fun w ok a E=>wn<|bd hF fun o68 hJ hF=>qaO (Q':=fun e a w=>e = .normal ∧ ∃ m69,m0.le m69 ∧ Ok u m69 ([(pb0,oc 114 [vs o68.1.s,vi o68.1.to_,vs o68.1.w.text,vi o68.1.w.at_,vi o68.1.at_,vi o68.1.e])] :: [(b14,oc 54 [vi o68.2.Operand,vi o68.2.Mod,vb o68.2.Not,(Value.slice none 0 0)])] :: [(b13,oc 54 [vi 0,vi 0,vb false,(Value.slice none 0 0)])] :: S) w ∧ Env 103 a [(0,vp pb0),(2,vp b13),(3,vp b14)] ∧ o68.1.s.length ≤ LIMS ∧ InR .i64 o68.1.to_ ∧ o68.1.w.text.length ≤ LIMS ∧ InR .i64 o68.1.w.at_ ∧ InR .i64 o68.1.at_ ∧ InR .i64 o68.1.e ∧ InR .i64 o68.2.Operand ∧ InR .i64 o68.2.Mod) ?_ ?_
 ·as_aux_lemma =>
   have hF:=hJ
   refine cg E rfl hF (fun c78 hF=>?_) fun c78 hF=>?_
   ·refine wp_skip ?_
    cases hF
    exact ⟨rfl,⟨m0,le_m0,ok,E.keep [0,2,3],l60,r61,l62,r63,r64,r65,r34,r35⟩⟩
   refine sg<|mv E rfl fun a E=>bd hF fun r79 e80 hF=>qao E qen rfl (qaD N r58 l60 r61 l62 r63 r64 r65 e80 ok) rfl rfl ?_
   rintro _ w ⟨⟨rfl,ok⟩,l81,r82,l83,r84,r85,r86⟩
   refine ⟨_,rfl,fun a E=>?_⟩
   refine wn<|sg<|mv E rfl fun a E=>bd hF fun r87 e88 hF=>qao E qn6 rfl (qdA N r79 l81 r82 l83 r84 r85 r86 e88 ok) rfl rfl ?_
   rintro _ w ⟨⟨rfl,ok⟩,r89,l90,r91,l92,r93,r94,r95⟩
   refine ⟨_,rfl,fun a E=>?_⟩
   refine fv E qej rfl fun a E=>qaf E ok 1 rfl rfl rfl qbp rfl rfl ⟨rfl,trivial⟩ rfl rfl fun w ok=>wn<|wp_seq<|wp_seq<|bd hF fun o96 hJ hF=>qaO (Q':=fun e a w=>e = .normal ∧ ∃ m97,m0.le m97 ∧ Ok u m97 ([(pb0,oc 114 [vs r87.2.s,vi r87.2.to_,vs r87.2.w.text,vi r87.2.w.at_,vi r87.2.at_,vi r87.2.e])] :: [(b14,oc 54 [vi o19.Operand,vi r87.1,vb o19.Not,(Value.slice none 0 0)])] :: [(b13,oc 54 [vi 0,vi 0,vb false,(Value.slice none 0 0)])] :: S) w ∧ Env 103 a [(0,vp pb0),(2,vp b13),(3,vp b14),(38,vb o96)]) ?_ ?_
   ·have hF:=hJ
    obtain ⟨r98,e99,hF⟩:=bnd hF
    obtain ⟨r103,e104,hF⟩:=bnd hF
    obtain rfl:=sj hF
    refine qaX [] (Cls u m0 ([(pb0,oc 114 [vs r87.2.s,vi r87.2.to_,vs r87.2.w.text,vi r87.2.w.at_,vi r87.2.at_,vi r87.2.e])] :: [(b14,oc 54 [vi o19.Operand,vi r87.1,vb o19.Not,(Value.slice none 0 0)])] :: [(b13,oc 54 [vi 0,vi 0,vb false,(Value.slice none 0 0)])] :: [])) (Cls u m0 ([(pb0,oc 114 [vs r87.2.s,vi r87.2.to_,vs r87.2.w.text,vi r87.2.w.at_,vi r87.2.at_,vi r87.2.e])] :: [(b14,oc 54 [vi o19.Operand,vi r87.1,vb o19.Not,(Value.slice none 0 0)])] :: [(b13,oc 54 [vi 0,vi 0,vb false,(Value.slice none 0 0)])] :: [])) (by kernel_rfl) ?_
    intro w hw
    replace ok:=qa3 ok hw
    clear hw
    refine qag (cl1 (cq le_m0 ok [0,1,2] rfl) (cq le_m0 ok [0,1,2] rfl)) fun hT=>kt 0 E rfl hT (qae qa6 rfl) fun a E=>kt 1 E rfl hT (qai qam rfl (qab.cown 1 rfl rfl)) fun a E=>kt 3 E rfl hT (qae qej rfl) fun a E=>kt 4 E rfl hT (qai qam rfl (qab.cown 1 rfl rfl)) fun a E=>qar [2] (by kernel_rfl) rfl (qas ?_)
    ·refine wo rfl<|qao E qn5 rfl (qfI N o19.Operand r34 e99 ok) rfl rfl ?_
     rintro _ w ⟨m105,c106,rfl,hle,ok,h107⟩
     have le_m0:=le_m0.trans hle
     refine ⟨_,rfl,fun a E=>?_⟩
     refine wn<|qag (cl1 (cq le_m0 ok [0,1,2] rfl) (cq le_m0 ok [0,1,2] rfl)) fun hT=>qar [5] (by kernel_rfl) rfl (qas ?_)
     ·refine wo rfl<|lc E qn7 rfl (qfO N _ r98 h107 r87.1 r89 e104 ok) fun w ok a E=>wn<|qag (cl1 (cq le_m0 ok [0,1,2] rfl) (cq le_m0 ok [0,1,2] rfl)) fun hT=>kt 6 E rfl hT (qbW rfl) fun a E=>qaM (by kernel_rfl) ?_
      exact ⟨rfl,⟨m105,le_m0,ok,E.keep [0,2,3,38]⟩⟩
   intro e a w hO
   obtain ⟨rfl,m108,hle,ok,E⟩:=hO
   have le_m0:=le_m0.trans hle
   refine qaa<|cg E rfl hF (fun c109 hF=>?_) fun c109 hF=>?_
   ·refine wp_skip<|qaa<|qac<|mv E rfl fun a E=>bd hF fun r126 e127 hF=>qao E qen rfl (qaD N r87.2 l90 r91 l92 r93 r94 r95 e127 ok) rfl rfl ?_
    rintro _ w ⟨⟨rfl,ok⟩,l128,r129,l130,r131,r132,r133⟩
    refine ⟨_,rfl,fun a E=>?_⟩
    refine wpList_nil ?_
    cases hF
    exact ⟨rfl,⟨m108,le_m0,ok,E.keep [0,2,3],l128,r129,l130,r131,r132,r133,r34,r89⟩⟩
   refine qac<|mv E rfl fun a E=>bd hF fun r110 e111 hF=>qao E qft rfl (qaK N 2 (ir 2) r87.2 l90 r91 l92 r93 r94 r95 e111 ok) rfl rfl ?_
   rintro _ w ⟨⟨rfl,ok⟩,l112,r113,l114,r115,r116,r117⟩
   refine ⟨_,rfl,fun a E=>?_⟩
   refine wn<|qac<|mv E rfl fun a E=>bd hF fun r118 e119 hF=>qao E qen rfl (qaD N r110 l112 r113 l114 r115 r116 r117 e119 ok) rfl rfl ?_
   rintro _ w ⟨⟨rfl,ok⟩,l120,r121,l122,r123,r124,r125⟩
   refine ⟨_,rfl,fun a E=>?_⟩
   refine wpList_nil ?_
   cases hF
   exact ⟨rfl,⟨m108,le_m0,ok,E.keep [0,2,3],l120,r121,l122,r123,r124,r125,r34,r89⟩⟩
 intro e a w hO
 obtain ⟨rfl,m134,hle,ok,E,l135,r136,l137,r138,r139,r140,r141,r142⟩:=hO
 have le_m0:=le_m0.trans hle
 refine qaa<|sg<|mv E rfl fun a E=>bd hF fun r143 e144 hF=>lc E qfp rfl (qaQ N ([33,61]) (show ([33,61]:List UInt8).length ≤ LIMS by decide) o68.1 l135 r136 l137 r138 r139 r140 e144 ok) fun w ok a E=>fv E qho rfl fun a E=>qaf E ok 1 rfl rfl rfl qmV rfl rfl ⟨rfl,trivial⟩ rfl rfl fun w ok=>wn<|wp_seq<|sg<|mv E rfl fun a E=>bd hF fun r145 e146 hF=>lc E qfp rfl (qaQ N ([61]) (show ([61]:List UInt8).length ≤ LIMS by decide) o68.1 l135 r136 l137 r138 r139 r140 e146 ok) fun w ok a E=>lw E (qbW rfl) fun a E=>mv E rfl fun a E=>bw E 49 hF (fun c147 hF E=>?_) fun c147 hF E=>?_
 ·as_aux_lemma =>
   refine lsq E fun a E=>ls E fun a E=>pf E rfl rfl fun a E=>wn<|c_if E rfl (fun h=>by cases h) (fun _=>?_)
   refine wp_skip<|qaa<|sg<|mv E rfl fun a E=>bd hF fun r418 e419 hF=>qao E qen rfl (qaD N o68.1 l135 r136 l137 r138 r139 r140 e419 ok) rfl rfl ?_
   rintro _ w ⟨⟨rfl,ok⟩,l420,r421,l422,r423,r424,r425⟩
   refine ⟨_,rfl,fun a E=>?_⟩
   refine wn<|wp_seq<|bd hF fun o426 hJ hF=>qaO (Q':=fun e a w=>e = .normal ∧ ∃ m427 c436 M437,m134.le m427 ∧ Ok u m427 (M437 :: [(pb0,oc 114 [vs o426.1.s,vi o426.1.to_,vs o426.1.w.text,vi o426.1.w.at_,vi o426.1.at_,vi o426.1.e])] :: [(b14,oc 54 [vi o426.2.Operand,vi o426.2.Mod,vb o426.2.Not,c436])] :: [(b13,oc 54 [vi 0,vi 0,vb false,(Value.slice none 0 0)])] :: S) w ∧ Env 103 a [(0,vp pb0),(2,vp b13),(3,vp b14)] ∧ o426.1.s.length ≤ LIMS ∧ InR .i64 o426.1.to_ ∧ o426.1.w.text.length ≤ LIMS ∧ InR .i64 o426.1.w.at_ ∧ InR .i64 o426.1.at_ ∧ InR .i64 o426.1.e ∧ InR .i64 o426.2.Operand ∧ InR .i64 o426.2.Mod ∧ ORow 87 2 qd7 m427 c436 o426.2.Spans M437) ?_ ?_
   ·have hF:=hJ
    have le_m134:=Mem.le.refl m134
    obtain ⟨r439,e440,hF⟩:=bnd hF
    obtain ⟨l457,e458,hF⟩:=bnd hF
    obtain rfl:=sj hF
    refine qaX [1,4] (Cls u m134 ([(b14,oc 54 [vi o68.2.Operand,vi o68.2.Mod,vb r143,(Value.slice none 0 0)])] :: [(b13,oc 54 [vi 0,vi 0,vb false,(Value.slice none 0 0)])] :: [])) (Cls u m134 ([(b13,oc 54 [vi 0,vi 0,vb false,(Value.slice none 0 0)])] :: [])) (by kernel_rfl) ?_
    intro w hw
    replace ok:=qa3 ok hw
    clear hw
    refine qag (cl1 (cq le_m134 ok [1,2] rfl) (cq le_m134 ok [2] rfl)) fun hT=>kt 0 E rfl hT (qae qbn rfl) fun a E=>qaU 1 E rfl (by kernel_rfl) nP hT (qai qca rfl (qab.cown 0 rfl rfl)) rfl rfl fun a E=>kt 2 E rfl hT (qah rfl) fun a E=>kt 3 E rfl hT (qae qa6 rfl) fun a E=>qaU 4 E rfl (by kernel_rfl) nP hT (qai qam rfl (qab.cown 0 rfl rfl)) rfl rfl fun a E=>qar [5] (by kernel_rfl) rfl (qas ?_)
    ·refine wo rfl<|qao E qn0 rfl (qd6 N o68.2.Operand r141 r418 l420 r421 l422 r423 r424 r425 e440 ok) rfl rfl ?_
     rintro _ w ⟨m462,vs463,rfl,hle,ok,h464,l465,r466,l467,r468,r469,r470⟩
     have le_m0:=le_m0.trans hle
     have le_m134:=le_m134.trans hle
     obtain ⟨rfl,r471,r472⟩:=h464
     refine ⟨_,rfl,fun a E=>?_⟩
     refine wn<|qag (cl1 (cq le_m134 ok [1,2] rfl) (cq le_m134 ok [2] rfl)) fun hT=>qar [6] (by kernel_rfl) rfl (qas ?_)
     ·refine wo rfl<|qbH (R:=qd7) (xo:=[.tmp 63]) (xs:=([r439.1]:List (Span))) E ok qbX qd3 rfl ⟨⟨_,rfl,rfl,⟨rfl,r471,r472⟩⟩,trivial⟩ rfl rfl rfl rfl fun c473 M474 a w E ok h475=>wn<|qag (cl1 (cq le_m134 ok [2,3] rfl) (cq le_m134 ok [3] rfl)) fun hT=>qar [7] (by kernel_rfl) rfl (qas ?_)
      ·refine qbM (o:=_) rfl ?_
       obtain ⟨M476,ok,h477⟩:=qd1 (e:=87) (k:=2) (R:=qd7) ok
       refine qdn (R:=qd7) E ok 0 qdL qbX Tryd.underlying52 rfl h477 (qbP.ofRow h475 1 rfl ok) e458 ⟨_,qd3,rfl⟩ rfl rfl rfl rfl fun c478 M479 a w E ok h480=>wn<|qag (cl1 (cq le_m134 ok [3,4] rfl) (cq le_m134 ok [4] rfl)) fun hT=>kt 8 E rfl hT (qae qbn rfl) fun a E=>qar [9] (by kernel_rfl) rfl (qas ?_)
       ·refine wo rfl<|qaf E ok 3 rfl rfl rfl qmI (ORow.cells h480) rfl ⟨(ORow.one h480),trivial⟩ rfl rfl fun w ok=>wn<|qag (cl2 (by kernel_rfl) (cq le_m134 ok [4] rfl)) fun hT=>qaM (by kernel_rfl) ?_
        exact ⟨rfl,⟨m462,c478,M479,le_m134,(ok.pk 5 [0,2,3,4] rfl (by decide)),E.keep [0,2,3],l465,r466,l467,r468,r469,r470,r141,r142,h480⟩⟩
   intro e a w hO
   obtain ⟨rfl,m481,c490,M491,hle,ok,E,l482,r483,l484,r485,r486,r487,r488,r489,h492⟩:=hO
   have le_m0:=le_m0.trans hle
   refine qaa<|wp_seq<|wp_block<|bd hF fun o504 hL hF=>qaH _ (fun (s:Parser × Relation) a w=>∃ m505 c514 M515,m481.le m505 ∧ Ok u m505 (M515 :: [(pb0,oc 114 [vs s.1.s,vi s.1.to_,vs s.1.w.text,vi s.1.w.at_,vi s.1.at_,vi s.1.e])] :: [(b14,oc 54 [vi s.2.Operand,vi s.2.Mod,vb s.2.Not,c514])] :: [(b13,oc 54 [vi 0,vi 0,vb false,(Value.slice none 0 0)])] :: S) w ∧ Env 103 a [(0,vp pb0),(2,vp b13),(3,vp b14)] ∧ s.1.s.length ≤ LIMS ∧ InR .i64 s.1.to_ ∧ s.1.w.text.length ≤ LIMS ∧ InR .i64 s.1.w.at_ ∧ InR .i64 s.1.at_ ∧ InR .i64 s.1.e ∧ InR .i64 s.2.Operand ∧ InR .i64 s.2.Mod ∧ ORow 87 2 qd7 m505 c514 s.2.Spans M515) (fun (b:(Relation × Parser)) e a w=>e = (.exit 2) ∧ ∃ m654 c657 M658,m481.le m654 ∧ Ok u m654 (M658 :: [(pb0,oc 114 [vs b.2.s,vi b.2.to_,vs b.2.w.text,vi b.2.w.at_,vi b.2.at_,vi b.2.e])] :: [(b14,oc 54 [vi b.1.Operand,vi b.1.Mod,vb b.1.Not,c657])] :: [(b13,oc 54 [vi 0,vi 0,vb false,(Value.slice none 0 0)])] :: S) w ∧ Env 103 a [(2,vp b13),(3,vp b14)] ∧ InR .i64 b.1.Operand ∧ InR .i64 b.1.Mod ∧ ORow 87 2 qd7 m654 c657 b.1.Spans M658 ∧ b.2.s.length ≤ LIMS ∧ InR .i64 b.2.to_ ∧ b.2.w.text.length ≤ LIMS ∧ InR .i64 b.2.w.at_ ∧ InR .i64 b.2.at_ ∧ InR .i64 b.2.e) ?_ ?_ N _ a w hL ⟨m481,c490,M491,Mem.le.refl _,ok,E.keep [0,2,3],l482,r483,l484,r485,r486,r487,r488,r489,h492⟩
   rotate_left
   ·intro e a w _ hO
    obtain ⟨rfl,m640,c643,M644,hle,ok,E,r641,r642,h645,l646,r647,l648,r649,r650,r651⟩:=hO
    have le_m0:=le_m0.trans hle
    refine qaN<|qaa<|sg<|lv E ok (qaj (cs:=[vi o504.1.Operand,vi o504.1.Mod,vb o504.1.Not,c643]) qbK rfl rfl (qab.own 2 rfl rfl)) fun a E=>qaf E ok 3 rfl rfl rfl qgE rfl rfl ⟨rfl,rfl,rfl,(ORow.one h645),trivial⟩ rfl rfl fun w ok=>wn<|wp_ret ?_
    obtain ⟨m652,hle,ok,hfz⟩:=(ok.frs 0 rfl).freeze
    have h653:=ORow.froz qdL h645 hle hfz (by decide)
    have le_m0:=le_m0.trans hle
    exact fin hF ⟨m652,[vi o504.1.Operand,vi o504.1.Mod,vb o504.1.Not,c643],le_m0,(ok.pk 3 [0] rfl (by decide)),E.d,⟨rv_c (cs:=[vi o504.1.Operand,vi o504.1.Mod,vb o504.1.Not,c643]) E ok rfl qbK rfl (qab.own 2 rfl rfl),trivial⟩,⟨_,rfl,r641,r642,h653⟩,l646,r647,l648,r649,r650,r651⟩
   rintro ⟨v517,v518⟩ a w r ⟨m519,c528,M529,hle,ok,E,l520,r521,l522,r523,r524,r525,r526,r527,h530⟩ hF
   replace hF:qeh N v517 v518 = some r:=hF
   unfold qeh at hF
   have le_m481:=Mem.le.refl m481
   have le_m0:=le_m0.trans hle
   have le_m481:=le_m481.trans hle
   refine wp_seq<|sg<|mv E rfl fun a E=>?_
   obtain ⟨r531,e532,hF⟩:=bnd hF
   replace ok:Ok u m519 ([(pb0,oc 114 [vs v517.s,vi v517.to_,vs v517.w.text,vi v517.w.at_,vi v517.at_,vi v517.e])] :: M529 :: [(b14,oc 54 [vi v518.Operand,vi v518.Mod,vb v518.Not,c528])] :: [(b13,oc 54 [vi 0,vi 0,vb false,(Value.slice none 0 0)])] :: S) w:=(ok.pk 4 [1,0,2,3] rfl (by decide))
   refine lc E qfp rfl (qaQ N ([44]) (show ([44]:List UInt8).length ≤ LIMS by decide) v517 l520 r521 l522 r523 r524 r525 e532 ok) fun w ok a E=>wn<|cg E rfl hF (fun c533 hF=>?_) fun c533 hF=>?_
   ·refine wp_exit<|qaE ?_
    cases hF
    exact so (⟨rfl,⟨m519,c528,M529,le_m481,(ok.pk 4 [1,0,2,3] rfl (by decide)),E.keep [2,3],r526,r527,h530,l520,r521,l522,r523,r524,r525⟩⟩)
   refine wp_skip<|qaa<|wp_block<|sg<|mv E rfl fun a E=>bd hF fun r534 e535 hF=>qao E qen rfl (qaD N v517 l520 r521 l522 r523 r524 r525 e535 ok) rfl rfl ?_
   rintro _ w ⟨⟨rfl,ok⟩,l536,r537,l538,r539,r540,r541⟩
   refine ⟨_,rfl,fun a E=>?_⟩
   refine wn<|wp_seq<|wp_seq<|bd hF fun o542 hJ hF=>qaO (Q':=fun e a w=>e = .normal ∧ Ok u m519 ([(pb0,oc 114 [vs r534.s,vi r534.to_,vs r534.w.text,vi r534.w.at_,vi r534.at_,vi r534.e])] :: M529 :: [(b14,oc 54 [vi v518.Operand,vi v518.Mod,vb v518.Not,c528])] :: [(b13,oc 54 [vi 0,vi 0,vb false,(Value.slice none 0 0)])] :: S) w ∧ Env 103 a [(0,vp pb0),(2,vp b13),(3,vp b14),(90,vb o542)]) ?_ ?_
   rotate_left
   ·as_aux_lemma =>
     intro e a w hO
     obtain ⟨rfl,ok,E⟩:=hO
     refine qaa<|bd hF fun o555 hJ hF=>qaO (Q':=fun e a w=>e = .normal ∧ Ok u m519 ([(pb0,oc 114 [vs o555.s,vi o555.to_,vs o555.w.text,vi o555.w.at_,vi o555.at_,vi o555.e])] :: M529 :: [(b14,oc 54 [vi v518.Operand,vi v518.Mod,vb v518.Not,c528])] :: [(b13,oc 54 [vi 0,vi 0,vb false,(Value.slice none 0 0)])] :: S) w ∧ Env 103 a [(0,vp pb0),(2,vp b13),(3,vp b14)] ∧ o555.s.length ≤ LIMS ∧ InR .i64 o555.to_ ∧ o555.w.text.length ≤ LIMS ∧ InR .i64 o555.w.at_ ∧ InR .i64 o555.at_ ∧ InR .i64 o555.e) ?_ ?_
     ·have hF:=hJ
      refine cg E rfl hF (fun c562 hF=>?_) fun c562 hF=>?_
      ·refine wp_skip ?_
       cases hF
       exact ⟨rfl,⟨ok,E.keep [0,2,3],l536,r537,l538,r539,r540,r541⟩⟩
      refine qac<|mv E rfl fun a E=>bd hF fun r563 e564 hF=>qao E qft rfl (qaK N 6 (ir 6) r534 l536 r537 l538 r539 r540 r541 e564 ok) rfl rfl ?_
      rintro _ w ⟨⟨rfl,ok⟩,l565,r566,l567,r568,r569,r570⟩
      refine ⟨_,rfl,fun a E=>?_⟩
      refine wpList_nil ?_
      cases hF
      exact ⟨rfl,⟨ok,E.keep [0,2,3],l565,r566,l567,r568,r569,r570⟩⟩
     intro e a w hO
     obtain ⟨rfl,ok,E,l571,r572,l573,r574,r575,r576⟩:=hO
     refine qaa<|bd hF fun o577 hJ hF=>qaO (Q':=fun e a w=>e = .normal ∧ ∃ m578 c587 M588,m519.le m578 ∧ Ok u m578 ([(pb0,oc 114 [vs o577.1.s,vi o577.1.to_,vs o577.1.w.text,vi o577.1.w.at_,vi o577.1.at_,vi o577.1.e])] :: M588 :: [(b14,oc 54 [vi o577.2.Operand,vi o577.2.Mod,vb o577.2.Not,c587])] :: [(b13,oc 54 [vi 0,vi 0,vb false,(Value.slice none 0 0)])] :: S) w ∧ Env 103 a [(0,vp pb0),(2,vp b13),(3,vp b14)] ∧ o577.1.s.length ≤ LIMS ∧ InR .i64 o577.1.to_ ∧ o577.1.w.text.length ≤ LIMS ∧ InR .i64 o577.1.w.at_ ∧ InR .i64 o577.1.at_ ∧ InR .i64 o577.1.e ∧ InR .i64 o577.2.Operand ∧ InR .i64 o577.2.Mod ∧ ORow 87 2 qd7 m578 c587 o577.2.Spans M588) ?_ ?_
     rotate_left
     ·intro e a w hO
      obtain ⟨rfl,m628,c637,M638,hle,ok,E,l629,r630,l631,r632,r633,r634,r635,r636,h639⟩:=hO
      have le_m0:=le_m0.trans hle
      have le_m481:=le_m481.trans hle
      refine qap ?_
      cases hF
      exact qau ⟨m628,c637,M638,le_m481,(ok.pk 4 [1,0,2,3] rfl (by decide)),E.keep [0,2,3],l629,r630,l631,r632,r633,r634,r635,r636,h639⟩
     have hF:=hJ
     have le_m519:=Mem.le.refl m519
     obtain ⟨r590,e591,hF⟩:=bnd hF
     obtain ⟨l606,e607,hF⟩:=bnd hF
     obtain rfl:=sj hF
     refine qaX [1,4] (Cls u m519 ([(b14,oc 54 [vi v518.Operand,vi v518.Mod,vb v518.Not,c528])] :: [(b13,oc 54 [vi 0,vi 0,vb false,(Value.slice none 0 0)])] :: [])) (Cls u m519 ([(b13,oc 54 [vi 0,vi 0,vb false,(Value.slice none 0 0)])] :: [])) (by kernel_rfl) ?_
     intro w hw
     replace ok:=qa3 ok hw
     clear hw
     refine qag (cl1 (cq le_m519 ok [2,3] rfl) (cq le_m519 ok [3] rfl)) fun hT=>kt 0 E rfl hT (qae qbn rfl) fun a E=>qaU 1 E rfl (by kernel_rfl) nP hT (qai qca rfl (qab.cown 0 rfl rfl)) rfl rfl fun a E=>kt 2 E rfl hT (qah rfl) fun a E=>kt 3 E rfl hT (qae qa6 rfl) fun a E=>qaU 4 E rfl (by kernel_rfl) nP hT (qai qam rfl (qab.cown 0 rfl rfl)) rfl rfl fun a E=>qar [5] (by kernel_rfl) rfl (qas ?_)
     ·refine wo rfl<|qao E qn0 rfl (qd6 N v518.Operand r526 o555 l571 r572 l573 r574 r575 r576 e591 ok) rfl rfl ?_
      rintro _ w ⟨m611,vs612,rfl,hle,ok,h613,l614,r615,l616,r617,r618,r619⟩
      have le_m0:=le_m0.trans hle
      have le_m481:=le_m481.trans hle
      have le_m519:=le_m519.trans hle
      have h530:=ORow.up qdL hle h530
      obtain ⟨rfl,r620,r621⟩:=h613
      refine ⟨_,rfl,fun a E=>?_⟩
      refine wn<|qag (cl1 (cq le_m519 ok [2,3] rfl) (cq le_m519 ok [3] rfl)) fun hT=>qar [6] (by kernel_rfl) rfl (qas ?_)
      ·refine wo rfl<|qbH (R:=qd7) (xo:=[.tmp 98]) (xs:=([r590.1]:List (Span))) E ok qbX qd3 rfl ⟨⟨_,rfl,rfl,⟨rfl,r620,r621⟩⟩,trivial⟩ rfl rfl rfl rfl fun c622 M623 a w E ok h624=>wn<|qag (cl1 (cq le_m519 ok [3,4] rfl) (cq le_m519 ok [4] rfl)) fun hT=>qar [7] (by kernel_rfl) rfl (qas ?_)
       ·refine wo rfl<|qdn (R:=qd7) E ok 2 qdL qbX Tryd.underlying52 rfl h530 (qbP.ofRow h624 0 rfl ok) e607 ⟨_,qd3,rfl⟩ rfl rfl rfl rfl fun c625 M626 a w E ok h627=>wn<|qag (cl1 (cq le_m519 ok [3,4] rfl) (cq le_m519 ok [4] rfl)) fun hT=>kt 8 E rfl hT (qae qbn rfl) fun a E=>qar [9] (by kernel_rfl) rfl (qas ?_)
        ·refine wo rfl<|qaf E ok 3 rfl rfl rfl qmI (ORow.cells h627) rfl ⟨(ORow.one h627),trivial⟩ rfl rfl fun w ok=>wn<|qag (cl2 (by kernel_rfl) (cq le_m519 ok [4] rfl)) fun hT=>qaM (by kernel_rfl) ?_
         exact ⟨rfl,⟨m611,c625,M626,le_m519,(ok.pk 5 [1,2,3,4] rfl (by decide)),E.keep [0,2,3],l614,r615,l616,r617,r618,r619,r526,r527,h627⟩⟩
   have hF:=hJ
   refine qdv ((v518.Spans.length:Int) == 4) (fun c543=>?_) (fun c543=>?_)
   rotate_left
   ·have hF:=qdc c543 hF
    cases hF
    refine qaX [] (Cls u m519 ([(pb0,oc 114 [vs r534.s,vi r534.to_,vs r534.w.text,vi r534.w.at_,vi r534.at_,vi r534.e])] :: M529 :: [(b14,oc 54 [vi v518.Operand,vi v518.Mod,vb v518.Not,c528])] :: [(b13,oc 54 [vi 0,vi 0,vb false,(Value.slice none 0 0)])] :: [])) (Cls u m519 ([(pb0,oc 114 [vs r534.s,vi r534.to_,vs r534.w.text,vi r534.w.at_,vi r534.at_,vi r534.e])] :: M529 :: [(b14,oc 54 [vi v518.Operand,vi v518.Mod,vb v518.Not,c528])] :: [(b13,oc 54 [vi 0,vi 0,vb false,(Value.slice none 0 0)])] :: [])) (by kernel_rfl) ?_
    intro w hw
    replace ok:=qa3 ok hw
    clear hw
    have le_m519:=Mem.le.refl m519
    refine qag (cl1 (cq le_m519 ok [0,1,2,3] rfl) (cq le_m519 ok [0,1,2,3] rfl)) fun hT=>kt 0 E rfl hT (qae qbn rfl) fun a E=>kt 1 E rfl hT (qai qca rfl (qab.cown 2 rfl rfl)) fun a E=>kt 2 E rfl hT (qcz qbX h530 rfl) fun a E=>kt 3 E rfl hT (qax rfl rfl) fun a E=>kt 4 E rfl hT (qah rfl) fun a E=>?_
    have E:=E.upd 75 c543 rfl
    refine qat 5 false E rfl (by kernel_rfl) nP hT rfl rfl fun a E=>qat 6 false E rfl (by kernel_rfl) nP hT rfl rfl fun a E=>kt 7 E rfl hT (qa5 rfl rfl) fun a E=>kt 8 E rfl hT (qah rfl) fun a E=>qat 9 false E rfl (by kernel_rfl) nP hT rfl rfl fun a E=>qat 10 false E rfl (by kernel_rfl) nP hT rfl rfl fun a E=>qat 11 false E rfl (by kernel_rfl) nP hT rfl rfl fun a E=>qat 12 false E rfl (by kernel_rfl) nP hT rfl rfl fun a E=>qat 13 false E rfl (by kernel_rfl) nP hT rfl rfl fun a E=>qat 14 false E rfl (by kernel_rfl) nP hT rfl rfl fun a E=>qat 15 false E rfl (by kernel_rfl) nP hT rfl rfl fun a E=>qat 16 false E rfl (by kernel_rfl) nP hT rfl rfl fun a E=>qat 17 false E rfl (by kernel_rfl) nP hT rfl rfl fun a E=>qat 18 false E rfl (by kernel_rfl) nP hT rfl rfl fun a E=>kt 19 E rfl hT (qa5 rfl rfl) fun a E=>qaM (by kernel_rfl) ?_
    exact ⟨rfl,⟨ok,E.keep [0,2,3,90]⟩⟩
   have hF:=qdd c543 hF
   refine bd hF fun r544 e545 hF=>qdv r544 (fun c546=>?_) (fun c546=>?_)
   rotate_left
   ·have hF:=qdc c546 hF
    cases hF
    refine qaX [] (Cls u m519 ([(pb0,oc 114 [vs r534.s,vi r534.to_,vs r534.w.text,vi r534.w.at_,vi r534.at_,vi r534.e])] :: M529 :: [(b14,oc 54 [vi v518.Operand,vi v518.Mod,vb v518.Not,c528])] :: [(b13,oc 54 [vi 0,vi 0,vb false,(Value.slice none 0 0)])] :: [])) (Cls u m519 ([(pb0,oc 114 [vs r534.s,vi r534.to_,vs r534.w.text,vi r534.w.at_,vi r534.at_,vi r534.e])] :: M529 :: [(b14,oc 54 [vi v518.Operand,vi v518.Mod,vb v518.Not,c528])] :: [(b13,oc 54 [vi 0,vi 0,vb false,(Value.slice none 0 0)])] :: [])) (by kernel_rfl) ?_
    intro w hw
    replace ok:=qa3 ok hw
    clear hw
    have le_m519:=Mem.le.refl m519
    refine qag (cl1 (cq le_m519 ok [0,1,2,3] rfl) (cq le_m519 ok [0,1,2,3] rfl)) fun hT=>kt 0 E rfl hT (qae qbn rfl) fun a E=>kt 1 E rfl hT (qai qca rfl (qab.cown 2 rfl rfl)) fun a E=>kt 2 E rfl hT (qcz qbX h530 rfl) fun a E=>kt 3 E rfl hT (qax rfl rfl) fun a E=>kt 4 E rfl hT (qah rfl) fun a E=>?_
    have E:=E.upd 75 c543 rfl
    refine kt 5 E rfl hT (qah rfl) fun a E=>qar [6] (by kernel_rfl) rfl (qas ?_)
    ·refine wo rfl<|lc E qnZ rfl (qdN N r534 l536 r537 l538 r539 r540 r541 e545 ok) fun w ok a E=>wn<|qag (cl1 (cq le_m519 ok [0,1,2,3] rfl) (cq le_m519 ok [0,1,2,3] rfl)) fun hT=>kt 7 E rfl hT (qbe rfl rfl) fun a E=>kt 8 E rfl hT (qah rfl) fun a E=>?_
     have E:=E.upd 79 c546 rfl
     refine qat 9 false E rfl (by kernel_rfl) nP hT rfl rfl fun a E=>qat 10 false E rfl (by kernel_rfl) nP hT rfl rfl fun a E=>qat 11 false E rfl (by kernel_rfl) nP hT rfl rfl fun a E=>qat 12 false E rfl (by kernel_rfl) nP hT rfl rfl fun a E=>qat 13 false E rfl (by kernel_rfl) nP hT rfl rfl fun a E=>qat 14 false E rfl (by kernel_rfl) nP hT rfl rfl fun a E=>qat 15 false E rfl (by kernel_rfl) nP hT rfl rfl fun a E=>qat 16 false E rfl (by kernel_rfl) nP hT rfl rfl fun a E=>qat 17 false E rfl (by kernel_rfl) nP hT rfl rfl fun a E=>qat 18 false E rfl (by kernel_rfl) nP hT rfl rfl fun a E=>kt 19 E rfl hT (qa5 rfl rfl) fun a E=>qaM (by kernel_rfl) ?_
     exact ⟨rfl,⟨ok,E.keep [0,2,3,90]⟩⟩
   have hF:=qdd c546 hF
   obtain ⟨r547,e548,hF⟩:=bnd hF
   obtain ⟨r550,e551,hF⟩:=bnd hF
   obtain rfl:=sj hF
   refine qaX [] (Cls u m519 ([(pb0,oc 114 [vs r534.s,vi r534.to_,vs r534.w.text,vi r534.w.at_,vi r534.at_,vi r534.e])] :: M529 :: [(b14,oc 54 [vi v518.Operand,vi v518.Mod,vb v518.Not,c528])] :: [(b13,oc 54 [vi 0,vi 0,vb false,(Value.slice none 0 0)])] :: [])) (Cls u m519 ([(pb0,oc 114 [vs r534.s,vi r534.to_,vs r534.w.text,vi r534.w.at_,vi r534.at_,vi r534.e])] :: M529 :: [(b14,oc 54 [vi v518.Operand,vi v518.Mod,vb v518.Not,c528])] :: [(b13,oc 54 [vi 0,vi 0,vb false,(Value.slice none 0 0)])] :: [])) (by kernel_rfl) ?_
   intro w hw
   replace ok:=qa3 ok hw
   clear hw
   have le_m519:=Mem.le.refl m519
   refine qag (cl1 (cq le_m519 ok [0,1,2,3] rfl) (cq le_m519 ok [0,1,2,3] rfl)) fun hT=>kt 0 E rfl hT (qae qbn rfl) fun a E=>kt 1 E rfl hT (qai qca rfl (qab.cown 2 rfl rfl)) fun a E=>kt 2 E rfl hT (qcz qbX h530 rfl) fun a E=>kt 3 E rfl hT (qax rfl rfl) fun a E=>kt 4 E rfl hT (qah rfl) fun a E=>?_
   have E:=E.upd 75 c543 rfl
   refine kt 5 E rfl hT (qah rfl) fun a E=>qar [6] (by kernel_rfl) rfl (qas ?_)
   ·refine wo rfl<|lc E qnZ rfl (qdN N r534 l536 r537 l538 r539 r540 r541 e545 ok) fun w ok a E=>wn<|qag (cl1 (cq le_m519 ok [0,1,2,3] rfl) (cq le_m519 ok [0,1,2,3] rfl)) fun hT=>kt 7 E rfl hT (qbe rfl rfl) fun a E=>kt 8 E rfl hT (qah rfl) fun a E=>?_
    have E:=E.upd 79 c546 rfl
    refine kt 9 E rfl hT (qah rfl) fun a E=>kt 10 E rfl hT (qa1 rfl) fun a E=>kt 11 E rfl hT (qae qf8 rfl) fun a E=>kt 12 E rfl hT (qae qkr rfl) fun a E=>kt 13 E rfl hT (qai qfH rfl (qab.cown 0 rfl rfl)) fun a E=>kt 15 E rfl hT (qae qa6 rfl) fun a E=>kt 16 E rfl hT (qai qam rfl (qab.cown 2 rfl rfl)) fun a E=>qar [14] (by kernel_rfl) rfl (qas ?_)
    ·refine wo rfl<|qao E qnU rfl (qfn N r534.w.text l538 e548 ok) rfl rfl ?_
     rintro _ w ⟨⟨rfl,ok⟩,r553⟩
     refine ⟨_,rfl,fun a E=>?_⟩
     refine wn<|qag (cl1 (cq le_m519 ok [0,1,2,3] rfl) (cq le_m519 ok [0,1,2,3] rfl)) fun hT=>qar [17] (by kernel_rfl) rfl (qas ?_)
     ·refine wo rfl<|qao E qmL rfl (qct N v518.Operand r526 e551 ok) rfl rfl ?_
      rintro _ w ⟨⟨rfl,ok⟩,r554⟩
      refine ⟨_,rfl,fun a E=>?_⟩
      refine wn<|qag (cl1 (cq le_m519 ok [0,1,2,3] rfl) (cq le_m519 ok [0,1,2,3] rfl)) fun hT=>kt 18 E rfl hT (qhF rfl rfl) fun a E=>kt 19 E rfl hT (qbe rfl rfl) fun a E=>qaM (by kernel_rfl) ?_
      exact ⟨rfl,⟨ok,E.keep [0,2,3,90]⟩⟩
 refine fk E ok qho qdk rfl 1 rfl rfl fun a E=>lw E (qbW rfl) fun a E=>pt E rfl rfl fun a E=>wn<|bd hF fun o148 hJ hF=>qaO (Q':=fun e a w=>e = .normal ∧ Ok u m134 ([(pb0,oc 114 [vs o148.s,vi o148.to_,vs o148.w.text,vi o148.w.at_,vi o148.at_,vi o148.e])] :: [(b14,oc 54 [vi o68.2.Operand,vi o68.2.Mod,vb r143,(Value.slice none 0 0)])] :: [(b13,oc 54 [vi 0,vi 0,vb false,(Value.slice none 0 0)])] :: S) w ∧ Env 103 a [(0,vp pb0),(2,vp b13),(3,vp b14)] ∧ o148.s.length ≤ LIMS ∧ InR .i64 o148.to_ ∧ o148.w.text.length ≤ LIMS ∧ InR .i64 o148.w.at_ ∧ InR .i64 o148.at_ ∧ InR .i64 o148.e) ?_ ?_
 ·have hF:=hJ
  refine cg E rfl hF (fun c155 hF=>?_) fun c155 hF=>?_
  ·refine wp_skip ?_
   cases hF
   exact ⟨rfl,⟨ok,E.keep [0,2,3],l135,r136,l137,r138,r139,r140⟩⟩
  refine qac<|mv E rfl fun a E=>bd hF fun r156 e157 hF=>qao E qft rfl (qaK N 3 (ir 3) o68.1 l135 r136 l137 r138 r139 r140 e157 ok) rfl rfl ?_
  rintro _ w ⟨⟨rfl,ok⟩,l158,r159,l160,r161,r162,r163⟩
  refine ⟨_,rfl,fun a E=>?_⟩
  refine wpList_nil ?_
  cases hF
  exact ⟨rfl,⟨ok,E.keep [0,2,3],l158,r159,l160,r161,r162,r163⟩⟩
 intro e a w hO
 obtain ⟨rfl,ok,E,l164,r165,l166,r167,r168,r169⟩:=hO
 refine qaa<|sg<|mv E rfl fun a E=>bd hF fun r170 e171 hF=>qao E qen rfl (qaD N o148 l164 r165 l166 r167 r168 r169 e171 ok) rfl rfl ?_
 rintro _ w ⟨⟨rfl,ok⟩,l172,r173,l174,r175,r176,r177⟩
 refine ⟨_,rfl,fun a E=>?_⟩
 refine wn<|wp_seq<|bd hF fun o178 hJ hF=>qaO (Q':=fun e a w=>e = .normal ∧ ∃ m179 c188 M189,m134.le m179 ∧ Ok u m179 (M189 :: [(pb0,oc 114 [vs o178.1.s,vi o178.1.to_,vs o178.1.w.text,vi o178.1.w.at_,vi o178.1.at_,vi o178.1.e])] :: [(b14,oc 54 [vi o178.2.Operand,vi o178.2.Mod,vb o178.2.Not,c188])] :: [(b13,oc 54 [vi 0,vi 0,vb false,(Value.slice none 0 0)])] :: S) w ∧ Env 103 a [(0,vp pb0),(2,vp b13),(3,vp b14)] ∧ o178.1.s.length ≤ LIMS ∧ InR .i64 o178.1.to_ ∧ o178.1.w.text.length ≤ LIMS ∧ InR .i64 o178.1.w.at_ ∧ InR .i64 o178.1.at_ ∧ InR .i64 o178.1.e ∧ InR .i64 o178.2.Operand ∧ InR .i64 o178.2.Mod ∧ ORow 87 2 qd7 m179 c188 o178.2.Spans M189) ?_ ?_
 ·have hF:=hJ
  have le_m134:=Mem.le.refl m134
  obtain ⟨r191,e192,hF⟩:=bnd hF
  obtain ⟨l209,e210,hF⟩:=bnd hF
  obtain rfl:=sj hF
  refine qaX [1,4] (Cls u m134 ([(b14,oc 54 [vi o68.2.Operand,vi o68.2.Mod,vb r143,(Value.slice none 0 0)])] :: [(b13,oc 54 [vi 0,vi 0,vb false,(Value.slice none 0 0)])] :: [])) (Cls u m134 ([(b13,oc 54 [vi 0,vi 0,vb false,(Value.slice none 0 0)])] :: [])) (by kernel_rfl) ?_
  intro w hw
  replace ok:=qa3 ok hw
  clear hw
  refine qag (cl1 (cq le_m134 ok [1,2] rfl) (cq le_m134 ok [2] rfl)) fun hT=>kt 0 E rfl hT (qae qbn rfl) fun a E=>qaU 1 E rfl (by kernel_rfl) nP hT (qai qca rfl (qab.cown 0 rfl rfl)) rfl rfl fun a E=>kt 2 E rfl hT (qah rfl) fun a E=>kt 3 E rfl hT (qae qa6 rfl) fun a E=>qaU 4 E rfl (by kernel_rfl) nP hT (qai qam rfl (qab.cown 0 rfl rfl)) rfl rfl fun a E=>qar [5] (by kernel_rfl) rfl (qas ?_)
  ·refine wo rfl<|qao E qn0 rfl (qd6 N o68.2.Operand r141 r170 l172 r173 l174 r175 r176 r177 e192 ok) rfl rfl ?_
   rintro _ w ⟨m214,vs215,rfl,hle,ok,h216,l217,r218,l219,r220,r221,r222⟩
   have le_m0:=le_m0.trans hle
   have le_m134:=le_m134.trans hle
   obtain ⟨rfl,r223,r224⟩:=h216
   refine ⟨_,rfl,fun a E=>?_⟩
   refine wn<|qag (cl1 (cq le_m134 ok [1,2] rfl) (cq le_m134 ok [2] rfl)) fun hT=>qar [6] (by kernel_rfl) rfl (qas ?_)
   ·refine wo rfl<|qbH (R:=qd7) (xo:=[.tmp 63]) (xs:=([r191.1]:List (Span))) E ok qbX qd3 rfl ⟨⟨_,rfl,rfl,⟨rfl,r223,r224⟩⟩,trivial⟩ rfl rfl rfl rfl fun c225 M226 a w E ok h227=>wn<|qag (cl1 (cq le_m134 ok [2,3] rfl) (cq le_m134 ok [3] rfl)) fun hT=>qar [7] (by kernel_rfl) rfl (qas ?_)
    ·refine qbM (o:=_) rfl ?_
     obtain ⟨M228,ok,h229⟩:=qd1 (e:=87) (k:=2) (R:=qd7) ok
     refine qdn (R:=qd7) E ok 0 qdL qbX Tryd.underlying52 rfl h229 (qbP.ofRow h227 1 rfl ok) e210 ⟨_,qd3,rfl⟩ rfl rfl rfl rfl fun c230 M231 a w E ok h232=>wn<|qag (cl1 (cq le_m134 ok [3,4] rfl) (cq le_m134 ok [4] rfl)) fun hT=>kt 8 E rfl hT (qae qbn rfl) fun a E=>qar [9] (by kernel_rfl) rfl (qas ?_)
     ·refine wo rfl<|qaf E ok 3 rfl rfl rfl qmI (ORow.cells h232) rfl ⟨(ORow.one h232),trivial⟩ rfl rfl fun w ok=>wn<|qag (cl2 (by kernel_rfl) (cq le_m134 ok [4] rfl)) fun hT=>qaM (by kernel_rfl) ?_
      exact ⟨rfl,⟨m214,c230,M231,le_m134,(ok.pk 5 [0,2,3,4] rfl (by decide)),E.keep [0,2,3],l217,r218,l219,r220,r221,r222,r141,r142,h232⟩⟩
 intro e a w hO
 obtain ⟨rfl,m233,c242,M243,hle,ok,E,l234,r235,l236,r237,r238,r239,r240,r241,h244⟩:=hO
 have le_m0:=le_m0.trans hle
 refine qaa<|wp_seq<|wp_block<|bd hF fun o256 hL hF=>qaH _ (fun (s:Parser × Relation) a w=>∃ m257 c266 M267,m233.le m257 ∧ Ok u m257 (M267 :: [(pb0,oc 114 [vs s.1.s,vi s.1.to_,vs s.1.w.text,vi s.1.w.at_,vi s.1.at_,vi s.1.e])] :: [(b14,oc 54 [vi s.2.Operand,vi s.2.Mod,vb s.2.Not,c266])] :: [(b13,oc 54 [vi 0,vi 0,vb false,(Value.slice none 0 0)])] :: S) w ∧ Env 103 a [(0,vp pb0),(2,vp b13),(3,vp b14)] ∧ s.1.s.length ≤ LIMS ∧ InR .i64 s.1.to_ ∧ s.1.w.text.length ≤ LIMS ∧ InR .i64 s.1.w.at_ ∧ InR .i64 s.1.at_ ∧ InR .i64 s.1.e ∧ InR .i64 s.2.Operand ∧ InR .i64 s.2.Mod ∧ ORow 87 2 qd7 m257 c266 s.2.Spans M267) (fun (b:(Relation × Parser)) e a w=>e = (.exit 2) ∧ ∃ m406 c409 M410,m233.le m406 ∧ Ok u m406 (M410 :: [(pb0,oc 114 [vs b.2.s,vi b.2.to_,vs b.2.w.text,vi b.2.w.at_,vi b.2.at_,vi b.2.e])] :: [(b14,oc 54 [vi b.1.Operand,vi b.1.Mod,vb b.1.Not,c409])] :: [(b13,oc 54 [vi 0,vi 0,vb false,(Value.slice none 0 0)])] :: S) w ∧ Env 103 a [(2,vp b13),(3,vp b14)] ∧ InR .i64 b.1.Operand ∧ InR .i64 b.1.Mod ∧ ORow 87 2 qd7 m406 c409 b.1.Spans M410 ∧ b.2.s.length ≤ LIMS ∧ InR .i64 b.2.to_ ∧ b.2.w.text.length ≤ LIMS ∧ InR .i64 b.2.w.at_ ∧ InR .i64 b.2.at_ ∧ InR .i64 b.2.e) ?_ ?_ N _ a w hL ⟨m233,c242,M243,Mem.le.refl _,ok,E.keep [0,2,3],l234,r235,l236,r237,r238,r239,r240,r241,h244⟩
 rotate_left
 ·intro e a w _ hO
  obtain ⟨rfl,m392,c395,M396,hle,ok,E,r393,r394,h397,l398,r399,l400,r401,r402,r403⟩:=hO
  have le_m0:=le_m0.trans hle
  refine qaN<|qaa<|sg<|lv E ok (qaj (cs:=[vi o256.1.Operand,vi o256.1.Mod,vb o256.1.Not,c395]) qbK rfl rfl (qab.own 2 rfl rfl)) fun a E=>qaf E ok 3 rfl rfl rfl qgE rfl rfl ⟨rfl,rfl,rfl,(ORow.one h397),trivial⟩ rfl rfl fun w ok=>wn<|wp_ret ?_
  obtain ⟨m404,hle,ok,hfz⟩:=(ok.frs 0 rfl).freeze
  have h405:=ORow.froz qdL h397 hle hfz (by decide)
  have le_m0:=le_m0.trans hle
  exact fin hF ⟨m404,[vi o256.1.Operand,vi o256.1.Mod,vb o256.1.Not,c395],le_m0,(ok.pk 3 [0] rfl (by decide)),E.d,⟨rv_c (cs:=[vi o256.1.Operand,vi o256.1.Mod,vb o256.1.Not,c395]) E ok rfl qbK rfl (qab.own 2 rfl rfl),trivial⟩,⟨_,rfl,r393,r394,h405⟩,l398,r399,l400,r401,r402,r403⟩
 rintro ⟨v269,v270⟩ a w r ⟨m271,c280,M281,hle,ok,E,l272,r273,l274,r275,r276,r277,r278,r279,h282⟩ hF
 replace hF:qeg N v269 v270 = some r:=hF
 unfold qeg at hF
 have le_m233:=Mem.le.refl m233
 have le_m0:=le_m0.trans hle
 have le_m233:=le_m233.trans hle
 refine wp_seq<|sg<|mv E rfl fun a E=>?_
 obtain ⟨r283,e284,hF⟩:=bnd hF
 replace ok:Ok u m271 ([(pb0,oc 114 [vs v269.s,vi v269.to_,vs v269.w.text,vi v269.w.at_,vi v269.at_,vi v269.e])] :: M281 :: [(b14,oc 54 [vi v270.Operand,vi v270.Mod,vb v270.Not,c280])] :: [(b13,oc 54 [vi 0,vi 0,vb false,(Value.slice none 0 0)])] :: S) w:=(ok.pk 4 [1,0,2,3] rfl (by decide))
 refine lc E qfp rfl (qaQ N ([44]) (show ([44]:List UInt8).length ≤ LIMS by decide) v269 l272 r273 l274 r275 r276 r277 e284 ok) fun w ok a E=>wn<|cg E rfl hF (fun c285 hF=>?_) fun c285 hF=>?_
 ·refine wp_exit<|qaE ?_
  cases hF
  exact so (⟨rfl,⟨m271,c280,M281,le_m233,(ok.pk 4 [1,0,2,3] rfl (by decide)),E.keep [2,3],r278,r279,h282,l272,r273,l274,r275,r276,r277⟩⟩)
 refine wp_skip<|qaa<|wp_block<|sg<|mv E rfl fun a E=>bd hF fun r286 e287 hF=>qao E qen rfl (qaD N v269 l272 r273 l274 r275 r276 r277 e287 ok) rfl rfl ?_
 rintro _ w ⟨⟨rfl,ok⟩,l288,r289,l290,r291,r292,r293⟩
 refine ⟨_,rfl,fun a E=>?_⟩
 refine wn<|wp_seq<|wp_seq<|bd hF fun o294 hJ hF=>qaO (Q':=fun e a w=>e = .normal ∧ Ok u m271 ([(pb0,oc 114 [vs r286.s,vi r286.to_,vs r286.w.text,vi r286.w.at_,vi r286.at_,vi r286.e])] :: M281 :: [(b14,oc 54 [vi v270.Operand,vi v270.Mod,vb v270.Not,c280])] :: [(b13,oc 54 [vi 0,vi 0,vb false,(Value.slice none 0 0)])] :: S) w ∧ Env 103 a [(0,vp pb0),(2,vp b13),(3,vp b14),(90,vb o294)]) ?_ ?_
 rotate_left
 ·as_aux_lemma =>
   intro e a w hO
   obtain ⟨rfl,ok,E⟩:=hO
   refine qaa<|bd hF fun o307 hJ hF=>qaO (Q':=fun e a w=>e = .normal ∧ Ok u m271 ([(pb0,oc 114 [vs o307.s,vi o307.to_,vs o307.w.text,vi o307.w.at_,vi o307.at_,vi o307.e])] :: M281 :: [(b14,oc 54 [vi v270.Operand,vi v270.Mod,vb v270.Not,c280])] :: [(b13,oc 54 [vi 0,vi 0,vb false,(Value.slice none 0 0)])] :: S) w ∧ Env 103 a [(0,vp pb0),(2,vp b13),(3,vp b14)] ∧ o307.s.length ≤ LIMS ∧ InR .i64 o307.to_ ∧ o307.w.text.length ≤ LIMS ∧ InR .i64 o307.w.at_ ∧ InR .i64 o307.at_ ∧ InR .i64 o307.e) ?_ ?_
   ·have hF:=hJ
    refine cg E rfl hF (fun c314 hF=>?_) fun c314 hF=>?_
    ·refine wp_skip ?_
     cases hF
     exact ⟨rfl,⟨ok,E.keep [0,2,3],l288,r289,l290,r291,r292,r293⟩⟩
    refine qac<|mv E rfl fun a E=>bd hF fun r315 e316 hF=>qao E qft rfl (qaK N 6 (ir 6) r286 l288 r289 l290 r291 r292 r293 e316 ok) rfl rfl ?_
    rintro _ w ⟨⟨rfl,ok⟩,l317,r318,l319,r320,r321,r322⟩
    refine ⟨_,rfl,fun a E=>?_⟩
    refine wpList_nil ?_
    cases hF
    exact ⟨rfl,⟨ok,E.keep [0,2,3],l317,r318,l319,r320,r321,r322⟩⟩
   intro e a w hO
   obtain ⟨rfl,ok,E,l323,r324,l325,r326,r327,r328⟩:=hO
   refine qaa<|bd hF fun o329 hJ hF=>qaO (Q':=fun e a w=>e = .normal ∧ ∃ m330 c339 M340,m271.le m330 ∧ Ok u m330 ([(pb0,oc 114 [vs o329.1.s,vi o329.1.to_,vs o329.1.w.text,vi o329.1.w.at_,vi o329.1.at_,vi o329.1.e])] :: M340 :: [(b14,oc 54 [vi o329.2.Operand,vi o329.2.Mod,vb o329.2.Not,c339])] :: [(b13,oc 54 [vi 0,vi 0,vb false,(Value.slice none 0 0)])] :: S) w ∧ Env 103 a [(0,vp pb0),(2,vp b13),(3,vp b14)] ∧ o329.1.s.length ≤ LIMS ∧ InR .i64 o329.1.to_ ∧ o329.1.w.text.length ≤ LIMS ∧ InR .i64 o329.1.w.at_ ∧ InR .i64 o329.1.at_ ∧ InR .i64 o329.1.e ∧ InR .i64 o329.2.Operand ∧ InR .i64 o329.2.Mod ∧ ORow 87 2 qd7 m330 c339 o329.2.Spans M340) ?_ ?_
   rotate_left
   ·intro e a w hO
    obtain ⟨rfl,m380,c389,M390,hle,ok,E,l381,r382,l383,r384,r385,r386,r387,r388,h391⟩:=hO
    have le_m0:=le_m0.trans hle
    have le_m233:=le_m233.trans hle
    refine qap ?_
    cases hF
    exact qau ⟨m380,c389,M390,le_m233,(ok.pk 4 [1,0,2,3] rfl (by decide)),E.keep [0,2,3],l381,r382,l383,r384,r385,r386,r387,r388,h391⟩
   have hF:=hJ
   have le_m271:=Mem.le.refl m271
   obtain ⟨r342,e343,hF⟩:=bnd hF
   obtain ⟨l358,e359,hF⟩:=bnd hF
   obtain rfl:=sj hF
   refine qaX [1,4] (Cls u m271 ([(b14,oc 54 [vi v270.Operand,vi v270.Mod,vb v270.Not,c280])] :: [(b13,oc 54 [vi 0,vi 0,vb false,(Value.slice none 0 0)])] :: [])) (Cls u m271 ([(b13,oc 54 [vi 0,vi 0,vb false,(Value.slice none 0 0)])] :: [])) (by kernel_rfl) ?_
   intro w hw
   replace ok:=qa3 ok hw
   clear hw
   refine qag (cl1 (cq le_m271 ok [2,3] rfl) (cq le_m271 ok [3] rfl)) fun hT=>kt 0 E rfl hT (qae qbn rfl) fun a E=>qaU 1 E rfl (by kernel_rfl) nP hT (qai qca rfl (qab.cown 0 rfl rfl)) rfl rfl fun a E=>kt 2 E rfl hT (qah rfl) fun a E=>kt 3 E rfl hT (qae qa6 rfl) fun a E=>qaU 4 E rfl (by kernel_rfl) nP hT (qai qam rfl (qab.cown 0 rfl rfl)) rfl rfl fun a E=>qar [5] (by kernel_rfl) rfl (qas ?_)
   ·refine wo rfl<|qao E qn0 rfl (qd6 N v270.Operand r278 o307 l323 r324 l325 r326 r327 r328 e343 ok) rfl rfl ?_
    rintro _ w ⟨m363,vs364,rfl,hle,ok,h365,l366,r367,l368,r369,r370,r371⟩
    have le_m0:=le_m0.trans hle
    have le_m233:=le_m233.trans hle
    have le_m271:=le_m271.trans hle
    have h282:=ORow.up qdL hle h282
    obtain ⟨rfl,r372,r373⟩:=h365
    refine ⟨_,rfl,fun a E=>?_⟩
    refine wn<|qag (cl1 (cq le_m271 ok [2,3] rfl) (cq le_m271 ok [3] rfl)) fun hT=>qar [6] (by kernel_rfl) rfl (qas ?_)
    ·refine wo rfl<|qbH (R:=qd7) (xo:=[.tmp 98]) (xs:=([r342.1]:List (Span))) E ok qbX qd3 rfl ⟨⟨_,rfl,rfl,⟨rfl,r372,r373⟩⟩,trivial⟩ rfl rfl rfl rfl fun c374 M375 a w E ok h376=>wn<|qag (cl1 (cq le_m271 ok [3,4] rfl) (cq le_m271 ok [4] rfl)) fun hT=>qar [7] (by kernel_rfl) rfl (qas ?_)
     ·refine wo rfl<|qdn (R:=qd7) E ok 2 qdL qbX Tryd.underlying52 rfl h282 (qbP.ofRow h376 0 rfl ok) e359 ⟨_,qd3,rfl⟩ rfl rfl rfl rfl fun c377 M378 a w E ok h379=>wn<|qag (cl1 (cq le_m271 ok [3,4] rfl) (cq le_m271 ok [4] rfl)) fun hT=>kt 8 E rfl hT (qae qbn rfl) fun a E=>qar [9] (by kernel_rfl) rfl (qas ?_)
      ·refine wo rfl<|qaf E ok 3 rfl rfl rfl qmI (ORow.cells h379) rfl ⟨(ORow.one h379),trivial⟩ rfl rfl fun w ok=>wn<|qag (cl2 (by kernel_rfl) (cq le_m271 ok [4] rfl)) fun hT=>qaM (by kernel_rfl) ?_
       exact ⟨rfl,⟨m363,c377,M378,le_m271,(ok.pk 5 [1,2,3,4] rfl (by decide)),E.keep [0,2,3],l366,r367,l368,r369,r370,r371,r278,r279,h379⟩⟩
 have hF:=hJ
 refine qdv ((v270.Spans.length:Int) == 4) (fun c295=>?_) (fun c295=>?_)
 rotate_left
 ·have hF:=qdc c295 hF
  cases hF
  refine qaX [] (Cls u m271 ([(pb0,oc 114 [vs r286.s,vi r286.to_,vs r286.w.text,vi r286.w.at_,vi r286.at_,vi r286.e])] :: M281 :: [(b14,oc 54 [vi v270.Operand,vi v270.Mod,vb v270.Not,c280])] :: [(b13,oc 54 [vi 0,vi 0,vb false,(Value.slice none 0 0)])] :: [])) (Cls u m271 ([(pb0,oc 114 [vs r286.s,vi r286.to_,vs r286.w.text,vi r286.w.at_,vi r286.at_,vi r286.e])] :: M281 :: [(b14,oc 54 [vi v270.Operand,vi v270.Mod,vb v270.Not,c280])] :: [(b13,oc 54 [vi 0,vi 0,vb false,(Value.slice none 0 0)])] :: [])) (by kernel_rfl) ?_
  intro w hw
  replace ok:=qa3 ok hw
  clear hw
  have le_m271:=Mem.le.refl m271
  refine qag (cl1 (cq le_m271 ok [0,1,2,3] rfl) (cq le_m271 ok [0,1,2,3] rfl)) fun hT=>kt 0 E rfl hT (qae qbn rfl) fun a E=>kt 1 E rfl hT (qai qca rfl (qab.cown 2 rfl rfl)) fun a E=>kt 2 E rfl hT (qcz qbX h282 rfl) fun a E=>kt 3 E rfl hT (qax rfl rfl) fun a E=>kt 4 E rfl hT (qah rfl) fun a E=>?_
  have E:=E.upd 75 c295 rfl
  refine qat 5 false E rfl (by kernel_rfl) nP hT rfl rfl fun a E=>qat 6 false E rfl (by kernel_rfl) nP hT rfl rfl fun a E=>kt 7 E rfl hT (qa5 rfl rfl) fun a E=>kt 8 E rfl hT (qah rfl) fun a E=>qat 9 false E rfl (by kernel_rfl) nP hT rfl rfl fun a E=>qat 10 false E rfl (by kernel_rfl) nP hT rfl rfl fun a E=>qat 11 false E rfl (by kernel_rfl) nP hT rfl rfl fun a E=>qat 12 false E rfl (by kernel_rfl) nP hT rfl rfl fun a E=>qat 13 false E rfl (by kernel_rfl) nP hT rfl rfl fun a E=>qat 14 false E rfl (by kernel_rfl) nP hT rfl rfl fun a E=>qat 15 false E rfl (by kernel_rfl) nP hT rfl rfl fun a E=>qat 16 false E rfl (by kernel_rfl) nP hT rfl rfl fun a E=>qat 17 false E rfl (by kernel_rfl) nP hT rfl rfl fun a E=>qat 18 false E rfl (by kernel_rfl) nP hT rfl rfl fun a E=>kt 19 E rfl hT (qa5 rfl rfl) fun a E=>qaM (by kernel_rfl) ?_
  exact ⟨rfl,⟨ok,E.keep [0,2,3,90]⟩⟩
 have hF:=qdd c295 hF
 refine bd hF fun r296 e297 hF=>qdv r296 (fun c298=>?_) (fun c298=>?_)
 rotate_left
 ·have hF:=qdc c298 hF
  cases hF
  refine qaX [] (Cls u m271 ([(pb0,oc 114 [vs r286.s,vi r286.to_,vs r286.w.text,vi r286.w.at_,vi r286.at_,vi r286.e])] :: M281 :: [(b14,oc 54 [vi v270.Operand,vi v270.Mod,vb v270.Not,c280])] :: [(b13,oc 54 [vi 0,vi 0,vb false,(Value.slice none 0 0)])] :: [])) (Cls u m271 ([(pb0,oc 114 [vs r286.s,vi r286.to_,vs r286.w.text,vi r286.w.at_,vi r286.at_,vi r286.e])] :: M281 :: [(b14,oc 54 [vi v270.Operand,vi v270.Mod,vb v270.Not,c280])] :: [(b13,oc 54 [vi 0,vi 0,vb false,(Value.slice none 0 0)])] :: [])) (by kernel_rfl) ?_
  intro w hw
  replace ok:=qa3 ok hw
  clear hw
  have le_m271:=Mem.le.refl m271
  refine qag (cl1 (cq le_m271 ok [0,1,2,3] rfl) (cq le_m271 ok [0,1,2,3] rfl)) fun hT=>kt 0 E rfl hT (qae qbn rfl) fun a E=>kt 1 E rfl hT (qai qca rfl (qab.cown 2 rfl rfl)) fun a E=>kt 2 E rfl hT (qcz qbX h282 rfl) fun a E=>kt 3 E rfl hT (qax rfl rfl) fun a E=>kt 4 E rfl hT (qah rfl) fun a E=>?_
  have E:=E.upd 75 c295 rfl
  refine kt 5 E rfl hT (qah rfl) fun a E=>qar [6] (by kernel_rfl) rfl (qas ?_)
  ·refine wo rfl<|lc E qnZ rfl (qdN N r286 l288 r289 l290 r291 r292 r293 e297 ok) fun w ok a E=>wn<|qag (cl1 (cq le_m271 ok [0,1,2,3] rfl) (cq le_m271 ok [0,1,2,3] rfl)) fun hT=>kt 7 E rfl hT (qbe rfl rfl) fun a E=>kt 8 E rfl hT (qah rfl) fun a E=>?_
   have E:=E.upd 79 c298 rfl
   refine qat 9 false E rfl (by kernel_rfl) nP hT rfl rfl fun a E=>qat 10 false E rfl (by kernel_rfl) nP hT rfl rfl fun a E=>qat 11 false E rfl (by kernel_rfl) nP hT rfl rfl fun a E=>qat 12 false E rfl (by kernel_rfl) nP hT rfl rfl fun a E=>qat 13 false E rfl (by kernel_rfl) nP hT rfl rfl fun a E=>qat 14 false E rfl (by kernel_rfl) nP hT rfl rfl fun a E=>qat 15 false E rfl (by kernel_rfl) nP hT rfl rfl fun a E=>qat 16 false E rfl (by kernel_rfl) nP hT rfl rfl fun a E=>qat 17 false E rfl (by kernel_rfl) nP hT rfl rfl fun a E=>qat 18 false E rfl (by kernel_rfl) nP hT rfl rfl fun a E=>kt 19 E rfl hT (qa5 rfl rfl) fun a E=>qaM (by kernel_rfl) ?_
   exact ⟨rfl,⟨ok,E.keep [0,2,3,90]⟩⟩
 have hF:=qdd c298 hF
 obtain ⟨r299,e300,hF⟩:=bnd hF
 obtain ⟨r302,e303,hF⟩:=bnd hF
 obtain rfl:=sj hF
 refine qaX [] (Cls u m271 ([(pb0,oc 114 [vs r286.s,vi r286.to_,vs r286.w.text,vi r286.w.at_,vi r286.at_,vi r286.e])] :: M281 :: [(b14,oc 54 [vi v270.Operand,vi v270.Mod,vb v270.Not,c280])] :: [(b13,oc 54 [vi 0,vi 0,vb false,(Value.slice none 0 0)])] :: [])) (Cls u m271 ([(pb0,oc 114 [vs r286.s,vi r286.to_,vs r286.w.text,vi r286.w.at_,vi r286.at_,vi r286.e])] :: M281 :: [(b14,oc 54 [vi v270.Operand,vi v270.Mod,vb v270.Not,c280])] :: [(b13,oc 54 [vi 0,vi 0,vb false,(Value.slice none 0 0)])] :: [])) (by kernel_rfl) ?_
 intro w hw
 replace ok:=qa3 ok hw
 clear hw
 have le_m271:=Mem.le.refl m271
 refine qag (cl1 (cq le_m271 ok [0,1,2,3] rfl) (cq le_m271 ok [0,1,2,3] rfl)) fun hT=>kt 0 E rfl hT (qae qbn rfl) fun a E=>kt 1 E rfl hT (qai qca rfl (qab.cown 2 rfl rfl)) fun a E=>kt 2 E rfl hT (qcz qbX h282 rfl) fun a E=>kt 3 E rfl hT (qax rfl rfl) fun a E=>kt 4 E rfl hT (qah rfl) fun a E=>?_
 have E:=E.upd 75 c295 rfl
 refine kt 5 E rfl hT (qah rfl) fun a E=>qar [6] (by kernel_rfl) rfl (qas ?_)
 ·refine wo rfl<|lc E qnZ rfl (qdN N r286 l288 r289 l290 r291 r292 r293 e297 ok) fun w ok a E=>wn<|qag (cl1 (cq le_m271 ok [0,1,2,3] rfl) (cq le_m271 ok [0,1,2,3] rfl)) fun hT=>kt 7 E rfl hT (qbe rfl rfl) fun a E=>kt 8 E rfl hT (qah rfl) fun a E=>?_
  have E:=E.upd 79 c298 rfl
  refine kt 9 E rfl hT (qah rfl) fun a E=>kt 10 E rfl hT (qa1 rfl) fun a E=>kt 11 E rfl hT (qae qf8 rfl) fun a E=>kt 12 E rfl hT (qae qkr rfl) fun a E=>kt 13 E rfl hT (qai qfH rfl (qab.cown 0 rfl rfl)) fun a E=>kt 15 E rfl hT (qae qa6 rfl) fun a E=>kt 16 E rfl hT (qai qam rfl (qab.cown 2 rfl rfl)) fun a E=>qar [14] (by kernel_rfl) rfl (qas ?_)
  ·refine wo rfl<|qao E qnU rfl (qfn N r286.w.text l290 e300 ok) rfl rfl ?_
   rintro _ w ⟨⟨rfl,ok⟩,r305⟩
   refine ⟨_,rfl,fun a E=>?_⟩
   refine wn<|qag (cl1 (cq le_m271 ok [0,1,2,3] rfl) (cq le_m271 ok [0,1,2,3] rfl)) fun hT=>qar [17] (by kernel_rfl) rfl (qas ?_)
   ·refine wo rfl<|qao E qmL rfl (qct N v270.Operand r278 e303 ok) rfl rfl ?_
    rintro _ w ⟨⟨rfl,ok⟩,r306⟩
    refine ⟨_,rfl,fun a E=>?_⟩
    refine wn<|qag (cl1 (cq le_m271 ok [0,1,2,3] rfl) (cq le_m271 ok [0,1,2,3] rfl)) fun hT=>kt 18 E rfl hT (qhF rfl rfl) fun a E=>kt 19 E rfl hT (qbe rfl rfl) fun a E=>qaM (by kernel_rfl) ?_
    exact ⟨rfl,⟨ok,E.keep [0,2,3,90]⟩⟩
def qhN (u:World) (m0:Mem) (S:Segs) (r:(List (List (Relation))) × Int × Int) (a:Act) (w:World):Prop :=
 ∃ m1 v0,m0.le m1 ∧ Ok u m1 S w ∧ a.defers = [] ∧ RVs Tryd.prog a w [.t 2 v0,.t 3 (.int .i64 r.2.1),.t 4 (.int .i64 r.2.2)] ∧ (pL 1 (pL 4 qan)) m1 [v0] r.1 ∧ InR .i64 r.2.1 ∧ InR .i64 r.2.2
theorem qkO (N:Nat) (s_0:List UInt8) (ls_0:s_0.length ≤ LIMS) {r:(List (List (Relation))) × Int × Int} (hF:qgX N s_0 = some r) (ok:Ok u m0 S w) :
  Calls Tryd.prog 39 [vs s_0].toArray w fun e w'=>∃ m1 v0,e = .returned (.tuple [v0,(.int .i64 r.2.1),(.int .i64 r.2.2)].toArray) ∧ m0.le m1 ∧ Ok u m1 S w' ∧ (pL 1 (pL 4 qan)) m1 [v0] r.1 ∧ InR .i64 r.2.1 ∧ InR .i64 r.2.2:=by
 have le_m0:=Mem.le.refl m0
 unfold qgX at hF
 refine en (qhN u m0 S) r Tryd.func39 rfl rfl rfl (by rintro a w ⟨m1,v0,hle,ok,hd,hrv,h0,h1,h2⟩; exact qbC [.t 2 v0,.t 3 (.int .i64 r.2.1),.t 4 (.int .i64 r.2.2)] hd rfl hrv ⟨m1,v0,rfl,hle,ok,h0,h1,h2⟩) fun fin a E=>sg<|av E rfl fun a E=>av E rfl fun a E=>aw E rfl fun a E=>sg<|mv E rfl fun a E=>lw E (qaG (ps:=[(0,.tmp 8)]) (qs:=[(0,[vs s_0])]) (cs:=[vs s_0,vi 0,(vs ([])),vi 0,vi 0,vi 0]) ql1 qmx rfl ⟨rfl,rfl,rfl,trivial⟩ rfl) fun a E=>qbQ E ok rfl rfl rfl fun b1 a w E ok=>aw E rfl fun a E=>sg<|mv E rfl fun a E=>bd hF fun r2 e3 hF=>qao E qen rfl (qaD N (Parser.mk s_0 0 (Word.mk ([]) 0) 0 0) ls_0 (ir 0) (Nat.zero_le _) (ir 0) (ir 0) (ir 0) e3 ok) rfl rfl ?_
 rintro _ w ⟨⟨rfl,ok⟩,l4,r5,l6,r7,r8,r9⟩
 refine ⟨_,rfl,fun a E=>?_⟩
 refine wn<|sg<|qsW (xo:=[.const (Value.slice none 0 0)]) (vs:=[(Value.slice none 0 0)]) (cs:=[(Value.slice none 0 0)]) E ok qdq qpB rfl (fun v hv=>by rw [List.mem_singleton.1 hv]; rfl) rfl rfl rfl rfl rfl fun b10 a w E ok=>aw E rfl fun a E=>sg<|aw E rfl fun a E=>wp_seq<|wp_block ?_
 obtain ⟨M22,ok,h23⟩:=qd1 (e:=54) (k:=4) (R:=qan) ok
 refine bd hF fun o24 hL hF=>qaH _ (fun (s:Int × (List (Relation)) × Parser) a w=>∃ m25 c27 M28,m0.le m25 ∧ Ok u m25 (M28 :: [(b10,oc 50 [c27])] :: [(b1,oc 114 [vs s.2.2.s,vi s.2.2.to_,vs s.2.2.w.text,vi s.2.2.w.at_,vi s.2.2.at_,vi s.2.2.e])] :: S) w ∧ Env 77 a [(0,vs s_0),(5,vp b1),(6,(.slice (some ⟨b10,0,none⟩) 1 1)),(7,vi s.1)] ∧ InR .i64 s.1 ∧ ORow 54 4 qan m25 c27 s.2.1 M28 ∧ s.2.2.s.length ≤ LIMS ∧ InR .i64 s.2.2.to_ ∧ s.2.2.w.text.length ≤ LIMS ∧ InR .i64 s.2.2.w.at_ ∧ InR .i64 s.2.2.at_ ∧ InR .i64 s.2.2.e) (fun (b:((Parser × (List (Relation))) ⊕ ((List (List (Relation))) × Int × Int))) e a w=>(Sum.elim (fun b352=>e = (.exit 0) ∧ ∃ m353 c360 M361,m0.le m353 ∧ Ok u m353 (M361 :: [(b10,oc 50 [c360])] :: [(b1,oc 114 [vs b352.1.s,vi b352.1.to_,vs b352.1.w.text,vi b352.1.w.at_,vi b352.1.at_,vi b352.1.e])] :: S) w ∧ Env 77 a [(5,vp b1)] ∧ b352.1.s.length ≤ LIMS ∧ InR .i64 b352.1.to_ ∧ b352.1.w.text.length ≤ LIMS ∧ InR .i64 b352.1.w.at_ ∧ InR .i64 b352.1.at_ ∧ InR .i64 b352.1.e ∧ ORow 54 4 qan m353 c360 b352.2 M361) (fun b363=>e = .ret ∧ qhN u m0 S b363 a w)) b) ?_ ?_ N _ a w hL ⟨m0,(Value.slice none 0 0),M22,Mem.le.refl _,ok,E.keep [0,5,6,7],(ir 0),h23,l4,r5,l6,r7,r8,r9⟩
 rotate_left
 ·intro e a w _ hO
  rcases o24 with o24 | o24
  rotate_left
  ·obtain ⟨rfl,hret⟩:=hO
   refine qaI<|qav ?_
   exact fin hF hret
  have hF:=qcN hF
  obtain ⟨rfl,m342,c349,M350,hle,ok,E,l343,r344,l345,r346,r347,r348,h351⟩:=hO
  have le_m0:=le_m0.trans hle
  refine qaN<|qaa<|wp_seq<|qee (by kernel_rfl) (by kernel_rfl) ok<|qv E (qah rfl) fun a E=>qv E (qa1 rfl) fun a E=>qv E (qae qoT rfl) fun a E=>qv E (qai qam rfl (qab.own 2 rfl rfl)) fun a E=>qv E (qah rfl) fun a E=>qv E (qa1 rfl) fun a E=>qv E (qae qhl rfl) fun a E=>qv E (qai qjD rfl (qab.own 2 rfl rfl)) fun a E=>qv E (qbY rfl) fun a E=>qv E (qbY rfl) fun a E=>qv E (qbY rfl) fun a E=>wpQuiet_nil ?_
  intro w ok
  refine qaa<|wp_ret ?_
  exact fin hF ⟨m342,(.slice none 0 0),le_m0,ok.drop.drop.drop,E.d,⟨rv_t E rfl,rv_t E rfl,rv_t E rfl,trivial⟩,qff,r347,r348⟩
 rintro ⟨v36,v37,v38⟩ a w r ⟨m39,c41,M42,hle,ok,E,r40,h43,l44,r45,l46,r47,r48,r49⟩ hF
 replace hF:qgf N s_0 v36 v37 v38 = some r:=hF
 unfold qgf at hF
 have le_m0:=le_m0.trans hle
 refine wp_seq<|sg<|mv E rfl fun a E=>lw E (qa1 rfl) fun a E=>fk E ok qhl qjD rfl 2 rfl rfl fun a E=>lw E (qax rfl rfl) fun a E=>wn<|cg E rfl hF (fun c50 hF=>?_) fun c50 hF=>?_
 ·refine wp_exit<|qaE ?_
  cases hF
  exact so (sl ⟨rfl,⟨m39,c41,M42,le_m0,ok,E.keep [5],l44,r45,l46,r47,r48,r49,h43⟩⟩)
 refine wp_skip<|qaa<|wp_block<|wp_seq<|sg<|mv E rfl fun a E=>lw E (qax rfl rfl) fun a E=>mv E rfl fun a E=>bw E 21 hF (fun c51 hF E=>?_) fun c51 hF E=>?_
 ·as_aux_lemma =>
   refine lsq E fun a E=>pf E rfl rfl fun a E=>wn<|c_if E rfl (fun h=>by cases h) (fun _=>?_)
   refine wp_skip<|qaa<|sg<|mv E rfl fun a E=>lw E (qcg rfl rfl) fun a E=>av E rfl fun a E=>wn<|wp_seq<|bd hF fun o209 hJ hF=>qaO (Q':=fun e a w=>e = .normal ∧ ∃ m210 c211 M212,m39.le m210 ∧ Ok u m210 (M212 :: [(b10,oc 50 [c211])] :: [(b1,oc 114 [vs o209.2.s,vi o209.2.to_,vs o209.2.w.text,vi o209.2.w.at_,vi o209.2.at_,vi o209.2.e])] :: S) w ∧ Env 77 a [(0,vs s_0),(5,vp b1),(6,(.slice (some ⟨b10,0,none⟩) 1 1)),(7,(vi (IntKind.wrap .i64 (v36 + 1))))] ∧ ORow 54 4 qan m210 c211 o209.1 M212 ∧ o209.2.s.length ≤ LIMS ∧ InR .i64 o209.2.to_ ∧ o209.2.w.text.length ≤ LIMS ∧ InR .i64 o209.2.w.at_ ∧ InR .i64 o209.2.at_ ∧ InR .i64 o209.2.e) ?_ ?_
   ·have hF:=hJ
    have le_m39:=Mem.le.refl m39
    obtain ⟨r220,e221,hF⟩:=bnd hF
    obtain ⟨l238,e239,hF⟩:=bnd hF
    obtain rfl:=sj hF
    refine qaX [9] (Cls u m39 ([(b10,oc 50 [c41])] :: [])) (Cls u m39 ([])) (by kernel_rfl) ?_
    intro w hw
    replace ok:=qa3 ok hw
    clear hw
    refine qag (cl1 (cq le_m39 ok [1] rfl) (cq le_m39 ok [] rfl)) fun hT=>kt 0 E rfl hT (qah rfl) fun a E=>kt 1 E rfl hT (qah rfl) fun a E=>kt 2 E rfl hT (qkc Tryd.underlying23 rfl) fun a E=>kt 3 E rfl hT (qiT rfl rfl) fun a E=>kt 4 E rfl hT (qah rfl) fun a E=>kt 5 E rfl hT (qah rfl) fun a E=>kt 6 E rfl hT (qkc Tryd.underlying23 rfl) fun a E=>kt 7 E rfl hT (qiT rfl rfl) fun a E=>kt 8 E rfl hT (qmU qdq rfl rfl rfl) fun a E=>qaU 9 E rfl (by kernel_rfl) nP hT (qai qdJ rfl (qab.cown 0 rfl rfl)) rfl rfl fun a E=>kt 10 E rfl hT (qah rfl) fun a E=>qar [11] (by kernel_rfl) rfl (qas ?_)
    ·refine qbM (o:=_) rfl ?_
     replace ok:Ok u m39 ([(b1,oc 114 [vs v38.s,vi v38.to_,vs v38.w.text,vi v38.w.at_,vi v38.at_,vi v38.e])] :: M42 :: [(b10,oc 50 [c41])] :: S) w:=(ok.pk 3 [2,0,1] rfl (by decide))
     refine qao E qsk rfl (qfN N v38 l44 r45 l46 r47 r48 r49 e221 ok) rfl rfl ?_
     rintro _ w ⟨m243,vs244,rfl,hle,ok,h245,l246,r247,l248,r249,r250,r251⟩
     have le_m0:=le_m0.trans hle
     have le_m39:=le_m39.trans hle
     have h43:=ORow.up qad hle h43
     obtain ⟨c254,rfl,r252,r253,h255⟩:=h245
     refine ⟨_,rfl,fun a E=>?_⟩
     refine wn<|qag (cl1 (cq le_m39 ok [2] rfl) (cq le_m39 ok [] rfl)) fun hT=>qar [12] (by kernel_rfl) rfl (qas ?_)
     ·refine wo rfl<|qbH (R:=qan) (xo:=[.tmp 40]) (xs:=([r220.1]:List (Relation))) E ok qbr qds rfl ⟨⟨_,rfl,rfl,⟨_,rfl,r252,r253,h255⟩⟩,trivial⟩ rfl rfl rfl rfl fun c256 M257 a w E ok h258=>wn<|qag (cl1 (cq le_m39 ok [3] rfl) (cq le_m39 ok [] rfl)) fun hT=>qar [13] (by kernel_rfl) rfl (qas ?_)
      ·refine wo rfl<|qdn (R:=qan) E ok 2 qad qbr Tryd.underlying50 rfl h43 (qbP.ofRow h258 0 rfl ok) e239 ⟨_,qds,rfl⟩ rfl rfl rfl rfl fun c259 M260 a w E ok h261=>wn<|qag (cl1 (cq le_m39 ok [3] rfl) (cq le_m39 ok [] rfl)) fun hT=>kt 14 E rfl hT (qmU qdq rfl rfl rfl) fun a E=>qar [15] (by kernel_rfl) rfl (qas ?_)
       ·refine wo rfl<|qaf E ok 3 rfl rfl rfl qom (ORow.cells h261) rfl ⟨(ORow.one h261),trivial⟩ rfl rfl fun w ok=>wn<|qag (cl2 (by kernel_rfl) (cq le_m39 ok [] rfl)) fun hT=>qaM (by kernel_rfl) ?_
        exact ⟨rfl,⟨m243,c259,M260,le_m39,(ok.pk 4 [2,3,1] rfl (by decide)),E.keep [0,5,6,7],h261,l246,r247,l248,r249,r250,r251⟩⟩
   intro e a w hO
   obtain ⟨rfl,m262,c263,M264,hle,ok,E,h265,l266,r267,l268,r269,r270,r271⟩:=hO
   have le_m0:=le_m0.trans hle
   refine qaa<|wp_seq<|sg<|mv E rfl fun a E=>?_
   obtain ⟨r272,e273,hF⟩:=bnd hF
   replace ok:Ok u m262 ([(b1,oc 114 [vs o209.2.s,vi o209.2.to_,vs o209.2.w.text,vi o209.2.w.at_,vi o209.2.at_,vi o209.2.e])] :: M264 :: [(b10,oc 50 [c263])] :: S) w:=(ok.pk 3 [2,0,1] rfl (by decide))
   refine lc E qfp rfl (qaQ N ([]) (show ([]:List UInt8).length ≤ LIMS by decide) o209.2 l266 r267 l268 r269 r270 r271 e273 ok) fun w ok a E=>mv E rfl fun a E=>qdv r272 (fun c274=>?_) (fun c274=>?_)
   rotate_left
   ·have hF:=qdc c274 hF
    have E:=E.upd 46 c274 rfl
    refine lsz E fun a E=>lsz E fun a E=>pf E rfl rfl fun a E=>wn<|c_if E rfl (fun h=>by cases h) (fun _=>?_)
    refine wp_skip<|qaa<|wp_seq<|sg<|mv E rfl fun a E=>bd hF fun r311 e312 hF=>lc E qfp rfl (qaQ N ([111,114]) (show ([111,114]:List UInt8).length ≤ LIMS by decide) o209.2 l266 r267 l268 r269 r270 r271 e312 ok) fun w ok a E=>wn<|cf E rfl hF (fun c313 hF=>?_) fun c313 hF=>?_
    ·cases hF
    refine sg<|mv E rfl fun a E=>bd hF fun r315 e316 hF=>lc E qfp rfl (qaQ N ([97,110,100]) (show ([97,110,100]:List UInt8).length ≤ LIMS by decide) o209.2 l266 r267 l268 r269 r270 r271 e316 ok) fun w ok a E=>lw E (qbW rfl) fun a E=>wn<|cg E rfl hF (fun c317 hF=>?_) fun c317 hF=>?_
    ·refine wp_skip<|qaa<|qac<|mv E rfl fun a E=>bd hF fun r334 e335 hF=>qao E qen rfl (qaD N o209.2 l266 r267 l268 r269 r270 r271 e335 ok) rfl rfl ?_
     rintro _ w ⟨⟨rfl,ok⟩,l336,r337,l338,r339,r340,r341⟩
     refine ⟨_,rfl,fun a E=>?_⟩
     refine wpList_nil<|qap ?_
     cases hF
     exact qau ⟨m262,c263,M264,le_m0,(ok.pk 3 [1,2,0] rfl (by decide)),E.keep [0,5,6,7],(InR.wrap _ _),h265,l336,r337,l338,r339,r340,r341⟩
    refine qac<|mv E rfl fun a E=>bd hF fun r318 e319 hF=>qao E qft rfl (qaK N 3 (ir 3) o209.2 l266 r267 l268 r269 r270 r271 e319 ok) rfl rfl ?_
    rintro _ w ⟨⟨rfl,ok⟩,l320,r321,l322,r323,r324,r325⟩
    refine ⟨_,rfl,fun a E=>?_⟩
    refine wn<|qac<|mv E rfl fun a E=>bd hF fun r326 e327 hF=>qao E qen rfl (qaD N r318 l320 r321 l322 r323 r324 r325 e327 ok) rfl rfl ?_
    rintro _ w ⟨⟨rfl,ok⟩,l328,r329,l330,r331,r332,r333⟩
    refine ⟨_,rfl,fun a E=>?_⟩
    refine wpList_nil<|qap ?_
    cases hF
    exact qau ⟨m262,c263,M264,le_m0,(ok.pk 3 [1,2,0] rfl (by decide)),E.keep [0,5,6,7],(InR.wrap _ _),h265,l328,r329,l330,r331,r332,r333⟩
   have hF:=qdd c274 hF
   have E:=E.upd 46 c274 rfl
   refine mv E rfl fun a E=>lw E (qa1 rfl) fun a E=>fv E qf8 rfl fun a E=>fk E ok qmc qam rfl 0 rfl rfl fun a E=>mv E rfl fun a E=>lw E (qeZ Tryd.underlying9 rfl) fun a E=>lw E (qax rfl rfl) fun a E=>pt E rfl rfl fun a E=>wn<|cf E rfl hF (fun c275 hF=>?_) fun c275 hF=>?_
   ·refine sg<|mv E rfl fun a E=>av E rfl fun a E=>av E rfl fun a E=>aw E rfl fun a E=>wp_ret<|qav<|qaI ?_
    obtain ⟨m276,hle,ok,hfz⟩:=(ok.frs 1 rfl).freeze
    have h277:=ORow.froz qad h265 hle hfz (by decide)
    have le_m0:=le_m0.trans hle
    have lits:=(show Lits 1 (pL 4 qan) m276 [c263] ([o209.1]:List (List (Relation))) from ⟨⟨_,(qcj h277),rfl,h277⟩,trivial⟩)
    obtain ⟨m278,hle,ok,hfz⟩:=(ok.frs 1 rfl).freeze
    have h279:=qm4 (n:=1) (mL qad) lits (qoc (qcj h277)) hle hfz rfl rfl
    clear lits
    have le_m0:=le_m0.trans hle
    have h277:=(mL qad).up hle h277
    cases hF
    exact so (sr ⟨rfl,⟨m278,(.slice (some ⟨b10,0,none⟩) 1 1),le_m0,ok.drop,E.d,⟨rv_t E rfl,rv_t E rfl,rv_t E rfl,trivial⟩,h279,(ir 0),(ir 0)⟩⟩)
   refine wp_skip<|qaa<|wp_seq<|sg<|mv E rfl fun a E=>bd hF fun r280 e281 hF=>lc E qfp rfl (qaQ N ([111,114]) (show ([111,114]:List UInt8).length ≤ LIMS by decide) o209.2 l266 r267 l268 r269 r270 r271 e281 ok) fun w ok a E=>wn<|cf E rfl hF (fun c282 hF=>?_) fun c282 hF=>?_
   ·cases hF
   refine sg<|mv E rfl fun a E=>bd hF fun r284 e285 hF=>lc E qfp rfl (qaQ N ([97,110,100]) (show ([97,110,100]:List UInt8).length ≤ LIMS by decide) o209.2 l266 r267 l268 r269 r270 r271 e285 ok) fun w ok a E=>lw E (qbW rfl) fun a E=>wn<|cg E rfl hF (fun c286 hF=>?_) fun c286 hF=>?_
   ·refine wp_skip<|qaa<|qac<|mv E rfl fun a E=>bd hF fun r303 e304 hF=>qao E qen rfl (qaD N o209.2 l266 r267 l268 r269 r270 r271 e304 ok) rfl rfl ?_
    rintro _ w ⟨⟨rfl,ok⟩,l305,r306,l307,r308,r309,r310⟩
    refine ⟨_,rfl,fun a E=>?_⟩
    refine wpList_nil<|qap ?_
    cases hF
    exact qau ⟨m262,c263,M264,le_m0,(ok.pk 3 [1,2,0] rfl (by decide)),E.keep [0,5,6,7],(InR.wrap _ _),h265,l305,r306,l307,r308,r309,r310⟩
   refine qac<|mv E rfl fun a E=>bd hF fun r287 e288 hF=>qao E qft rfl (qaK N 3 (ir 3) o209.2 l266 r267 l268 r269 r270 r271 e288 ok) rfl rfl ?_
   rintro _ w ⟨⟨rfl,ok⟩,l289,r290,l291,r292,r293,r294⟩
   refine ⟨_,rfl,fun a E=>?_⟩
   refine wn<|qac<|mv E rfl fun a E=>bd hF fun r295 e296 hF=>qao E qen rfl (qaD N r287 l289 r290 l291 r292 r293 r294 e296 ok) rfl rfl ?_
   rintro _ w ⟨⟨rfl,ok⟩,l297,r298,l299,r300,r301,r302⟩
   refine ⟨_,rfl,fun a E=>?_⟩
   refine wpList_nil<|qap ?_
   cases hF
   exact qau ⟨m262,c263,M264,le_m0,(ok.pk 3 [1,2,0] rfl (by decide)),E.keep [0,5,6,7],(InR.wrap _ _),h265,l297,r298,l299,r300,r301,r302⟩
 refine mv E rfl fun a E=>?_
 obtain ⟨r52,e53,hF⟩:=bnd hF
 replace ok:Ok u m39 ([(b1,oc 114 [vs v38.s,vi v38.to_,vs v38.w.text,vi v38.w.at_,vi v38.at_,vi v38.e])] :: M42 :: [(b10,oc 50 [c41])] :: S) w:=(ok.pk 3 [2,0,1] rfl (by decide))
 refine lc E quy rfl (qh4 N v38 l44 r45 l46 r47 r48 r49 e53 ok) fun w ok a E=>pt E rfl rfl fun a E=>wn<|bd hF fun o54 hJ hF=>qaO (Q':=fun e a w=>e = .normal ∧ Ok u m39 ([(b1,oc 114 [vs o54.s,vi o54.to_,vs o54.w.text,vi o54.w.at_,vi o54.at_,vi o54.e])] :: M42 :: [(b10,oc 50 [c41])] :: S) w ∧ Env 77 a [(0,vs s_0),(5,vp b1),(6,(.slice (some ⟨b10,0,none⟩) 1 1)),(7,vi v36)] ∧ o54.s.length ≤ LIMS ∧ InR .i64 o54.to_ ∧ o54.w.text.length ≤ LIMS ∧ InR .i64 o54.w.at_ ∧ InR .i64 o54.at_ ∧ InR .i64 o54.e) ?_ ?_
 ·have hF:=hJ
  refine cg E rfl hF (fun c61 hF=>?_) fun c61 hF=>?_
  ·refine wp_skip ?_
   cases hF
   exact ⟨rfl,⟨ok,E.keep [0,5,6,7],l44,r45,l46,r47,r48,r49⟩⟩
  refine qac<|mv E rfl fun a E=>bd hF fun r62 e63 hF=>qao E qft rfl (qaK N 6 (ir 6) v38 l44 r45 l46 r47 r48 r49 e63 ok) rfl rfl ?_
  rintro _ w ⟨⟨rfl,ok⟩,l64,r65,l66,r67,r68,r69⟩
  refine ⟨_,rfl,fun a E=>?_⟩
  refine wpList_nil ?_
  cases hF
  exact ⟨rfl,⟨ok,E.keep [0,5,6,7],l64,r65,l66,r67,r68,r69⟩⟩
 intro e a w hO
 obtain ⟨rfl,ok,E,l70,r71,l72,r73,r74,r75⟩:=hO
 refine qaa<|sg<|mv E rfl fun a E=>lw E (qcg rfl rfl) fun a E=>aw E rfl fun a E=>wp_seq<|bd hF fun o76 hJ hF=>qaO (Q':=fun e a w=>e = .normal ∧ ∃ m77 c84 M85,m39.le m77 ∧ Ok u m77 ([(b1,oc 114 [vs o76.1.s,vi o76.1.to_,vs o76.1.w.text,vi o76.1.w.at_,vi o76.1.at_,vi o76.1.e])] :: M85 :: [(b10,oc 50 [c84])] :: S) w ∧ Env 77 a [(0,vs s_0),(5,vp b1),(6,(.slice (some ⟨b10,0,none⟩) 1 1)),(7,(vi (IntKind.wrap .i64 (v36 + 1))))] ∧ o76.1.s.length ≤ LIMS ∧ InR .i64 o76.1.to_ ∧ o76.1.w.text.length ≤ LIMS ∧ InR .i64 o76.1.w.at_ ∧ InR .i64 o76.1.at_ ∧ InR .i64 o76.1.e ∧ ORow 54 4 qan m77 c84 o76.2 M85) ?_ ?_
 ·have hF:=hJ
  have le_m39:=Mem.le.refl m39
  obtain ⟨r87,e88,hF⟩:=bnd hF
  obtain ⟨l105,e106,hF⟩:=bnd hF
  obtain rfl:=sj hF
  refine qaX [9] (Cls u m39 ([(b10,oc 50 [c41])] :: [])) (Cls u m39 ([])) (by kernel_rfl) ?_
  intro w hw
  replace ok:=qa3 ok hw
  clear hw
  refine qag (cl1 (cq le_m39 ok [2] rfl) (cq le_m39 ok [] rfl)) fun hT=>kt 0 E rfl hT (qah rfl) fun a E=>kt 1 E rfl hT (qah rfl) fun a E=>kt 2 E rfl hT (qkc Tryd.underlying23 rfl) fun a E=>kt 3 E rfl hT (qiT rfl rfl) fun a E=>kt 4 E rfl hT (qah rfl) fun a E=>kt 5 E rfl hT (qah rfl) fun a E=>kt 6 E rfl hT (qkc Tryd.underlying23 rfl) fun a E=>kt 7 E rfl hT (qiT rfl rfl) fun a E=>kt 8 E rfl hT (qmU qdq rfl rfl rfl) fun a E=>qaU 9 E rfl (by kernel_rfl) nP hT (qai qdJ rfl (qab.cown 0 rfl rfl)) rfl rfl fun a E=>kt 10 E rfl hT (qah rfl) fun a E=>qar [11] (by kernel_rfl) rfl (qas ?_)
  ·refine wo rfl<|qao E qsk rfl (qfN N o54 l70 r71 l72 r73 r74 r75 e88 ok) rfl rfl ?_
   rintro _ w ⟨m110,vs111,rfl,hle,ok,h112,l113,r114,l115,r116,r117,r118⟩
   have le_m0:=le_m0.trans hle
   have le_m39:=le_m39.trans hle
   have h43:=ORow.up qad hle h43
   obtain ⟨c121,rfl,r119,r120,h122⟩:=h112
   refine ⟨_,rfl,fun a E=>?_⟩
   refine wn<|qag (cl1 (cq le_m39 ok [2] rfl) (cq le_m39 ok [] rfl)) fun hT=>qar [12] (by kernel_rfl) rfl (qas ?_)
   ·refine wo rfl<|qbH (R:=qan) (xo:=[.tmp 40]) (xs:=([r87.1]:List (Relation))) E ok qbr qds rfl ⟨⟨_,rfl,rfl,⟨_,rfl,r119,r120,h122⟩⟩,trivial⟩ rfl rfl rfl rfl fun c123 M124 a w E ok h125=>wn<|qag (cl1 (cq le_m39 ok [3] rfl) (cq le_m39 ok [] rfl)) fun hT=>qar [13] (by kernel_rfl) rfl (qas ?_)
    ·refine wo rfl<|qdn (R:=qan) E ok 2 qad qbr Tryd.underlying50 rfl h43 (qbP.ofRow h125 0 rfl ok) e106 ⟨_,qds,rfl⟩ rfl rfl rfl rfl fun c126 M127 a w E ok h128=>wn<|qag (cl1 (cq le_m39 ok [3] rfl) (cq le_m39 ok [] rfl)) fun hT=>kt 14 E rfl hT (qmU qdq rfl rfl rfl) fun a E=>qar [15] (by kernel_rfl) rfl (qas ?_)
     ·refine wo rfl<|qaf E ok 3 rfl rfl rfl qom (ORow.cells h128) rfl ⟨(ORow.one h128),trivial⟩ rfl rfl fun w ok=>wn<|qag (cl2 (by kernel_rfl) (cq le_m39 ok [] rfl)) fun hT=>qaM (by kernel_rfl) ?_
      exact ⟨rfl,⟨m110,c126,M127,le_m39,(ok.pk 4 [1,2,3] rfl (by decide)),E.keep [0,5,6,7],l113,r114,l115,r116,r117,r118,h128⟩⟩
 intro e a w hO
 obtain ⟨rfl,m129,c136,M137,hle,ok,E,l130,r131,l132,r133,r134,r135,h138⟩:=hO
 have le_m0:=le_m0.trans hle
 refine qaa<|wp_seq<|sg<|mv E rfl fun a E=>bd hF fun r139 e140 hF=>lc E qfp rfl (qaQ N ([]) (show ([]:List UInt8).length ≤ LIMS by decide) o76.1 l130 r131 l132 r133 r134 r135 e140 ok) fun w ok a E=>mv E rfl fun a E=>qdv r139 (fun c141=>?_) (fun c141=>?_)
 rotate_left
 ·have hF:=qdc c141 hF
  have E:=E.upd 46 c141 rfl
  refine lsz E fun a E=>lsz E fun a E=>pf E rfl rfl fun a E=>wn<|c_if E rfl (fun h=>by cases h) (fun _=>?_)
  refine wp_skip<|qaa<|wp_seq<|sg<|mv E rfl fun a E=>bd hF fun r178 e179 hF=>lc E qfp rfl (qaQ N ([111,114]) (show ([111,114]:List UInt8).length ≤ LIMS by decide) o76.1 l130 r131 l132 r133 r134 r135 e179 ok) fun w ok a E=>wn<|cf E rfl hF (fun c180 hF=>?_) fun c180 hF=>?_
  ·cases hF
  refine sg<|mv E rfl fun a E=>bd hF fun r182 e183 hF=>lc E qfp rfl (qaQ N ([97,110,100]) (show ([97,110,100]:List UInt8).length ≤ LIMS by decide) o76.1 l130 r131 l132 r133 r134 r135 e183 ok) fun w ok a E=>lw E (qbW rfl) fun a E=>wn<|cg E rfl hF (fun c184 hF=>?_) fun c184 hF=>?_
  ·refine wp_skip<|qaa<|qac<|mv E rfl fun a E=>bd hF fun r201 e202 hF=>qao E qen rfl (qaD N o76.1 l130 r131 l132 r133 r134 r135 e202 ok) rfl rfl ?_
   rintro _ w ⟨⟨rfl,ok⟩,l203,r204,l205,r206,r207,r208⟩
   refine ⟨_,rfl,fun a E=>?_⟩
   refine wpList_nil<|qap ?_
   cases hF
   exact qau ⟨m129,c136,M137,le_m0,(ok.pk 3 [1,2,0] rfl (by decide)),E.keep [0,5,6,7],(InR.wrap _ _),h138,l203,r204,l205,r206,r207,r208⟩
  refine qac<|mv E rfl fun a E=>bd hF fun r185 e186 hF=>qao E qft rfl (qaK N 3 (ir 3) o76.1 l130 r131 l132 r133 r134 r135 e186 ok) rfl rfl ?_
  rintro _ w ⟨⟨rfl,ok⟩,l187,r188,l189,r190,r191,r192⟩
  refine ⟨_,rfl,fun a E=>?_⟩
  refine wn<|qac<|mv E rfl fun a E=>bd hF fun r193 e194 hF=>qao E qen rfl (qaD N r185 l187 r188 l189 r190 r191 r192 e194 ok) rfl rfl ?_
  rintro _ w ⟨⟨rfl,ok⟩,l195,r196,l197,r198,r199,r200⟩
  refine ⟨_,rfl,fun a E=>?_⟩
  refine wpList_nil<|qap ?_
  cases hF
  exact qau ⟨m129,c136,M137,le_m0,(ok.pk 3 [1,2,0] rfl (by decide)),E.keep [0,5,6,7],(InR.wrap _ _),h138,l195,r196,l197,r198,r199,r200⟩
 have hF:=qdd c141 hF
 have E:=E.upd 46 c141 rfl
 refine mv E rfl fun a E=>lw E (qa1 rfl) fun a E=>fv E qf8 rfl fun a E=>fk E ok qmc qam rfl 0 rfl rfl fun a E=>mv E rfl fun a E=>lw E (qeZ Tryd.underlying9 rfl) fun a E=>lw E (qax rfl rfl) fun a E=>pt E rfl rfl fun a E=>wn<|cf E rfl hF (fun c142 hF=>?_) fun c142 hF=>?_
 ·refine sg<|mv E rfl fun a E=>av E rfl fun a E=>av E rfl fun a E=>aw E rfl fun a E=>wp_ret<|qav<|qaI ?_
  obtain ⟨m143,hle,ok,hfz⟩:=(ok.frs 1 rfl).freeze
  have h144:=ORow.froz qad h138 hle hfz (by decide)
  have le_m0:=le_m0.trans hle
  have lits:=(show Lits 1 (pL 4 qan) m143 [c136] ([o76.2]:List (List (Relation))) from ⟨⟨_,(qcj h144),rfl,h144⟩,trivial⟩)
  obtain ⟨m145,hle,ok,hfz⟩:=(ok.frs 1 rfl).freeze
  have h146:=qm4 (n:=1) (mL qad) lits (qoc (qcj h144)) hle hfz rfl rfl
  clear lits
  have le_m0:=le_m0.trans hle
  have h144:=(mL qad).up hle h144
  cases hF
  exact so (sr ⟨rfl,⟨m145,(.slice (some ⟨b10,0,none⟩) 1 1),le_m0,ok.drop,E.d,⟨rv_t E rfl,rv_t E rfl,rv_t E rfl,trivial⟩,h146,(ir 0),(ir 0)⟩⟩)
 refine wp_skip<|qaa<|wp_seq<|sg<|mv E rfl fun a E=>bd hF fun r147 e148 hF=>lc E qfp rfl (qaQ N ([111,114]) (show ([111,114]:List UInt8).length ≤ LIMS by decide) o76.1 l130 r131 l132 r133 r134 r135 e148 ok) fun w ok a E=>wn<|cf E rfl hF (fun c149 hF=>?_) fun c149 hF=>?_
 ·cases hF
 refine sg<|mv E rfl fun a E=>bd hF fun r151 e152 hF=>lc E qfp rfl (qaQ N ([97,110,100]) (show ([97,110,100]:List UInt8).length ≤ LIMS by decide) o76.1 l130 r131 l132 r133 r134 r135 e152 ok) fun w ok a E=>lw E (qbW rfl) fun a E=>wn<|cg E rfl hF (fun c153 hF=>?_) fun c153 hF=>?_
 ·refine wp_skip<|qaa<|qac<|mv E rfl fun a E=>bd hF fun r170 e171 hF=>qao E qen rfl (qaD N o76.1 l130 r131 l132 r133 r134 r135 e171 ok) rfl rfl ?_
  rintro _ w ⟨⟨rfl,ok⟩,l172,r173,l174,r175,r176,r177⟩
  refine ⟨_,rfl,fun a E=>?_⟩
  refine wpList_nil<|qap ?_
  cases hF
  exact qau ⟨m129,c136,M137,le_m0,(ok.pk 3 [1,2,0] rfl (by decide)),E.keep [0,5,6,7],(InR.wrap _ _),h138,l172,r173,l174,r175,r176,r177⟩
 refine qac<|mv E rfl fun a E=>bd hF fun r154 e155 hF=>qao E qft rfl (qaK N 3 (ir 3) o76.1 l130 r131 l132 r133 r134 r135 e155 ok) rfl rfl ?_
 rintro _ w ⟨⟨rfl,ok⟩,l156,r157,l158,r159,r160,r161⟩
 refine ⟨_,rfl,fun a E=>?_⟩
 refine wn<|qac<|mv E rfl fun a E=>bd hF fun r162 e163 hF=>qao E qen rfl (qaD N r154 l156 r157 l158 r159 r160 r161 e163 ok) rfl rfl ?_
 rintro _ w ⟨⟨rfl,ok⟩,l164,r165,l166,r167,r168,r169⟩
 refine ⟨_,rfl,fun a E=>?_⟩
 refine wpList_nil<|qap ?_
 cases hF
 exact qau ⟨m129,c136,M137,le_m0,(ok.pk 3 [1,2,0] rfl (by decide)),E.keep [0,5,6,7],(InR.wrap _ _),h138,l164,r165,l166,r167,r168,r169⟩
def qlh (u:World) (m0:Mem) (S:Segs) (r:(List (List (Relation)))) (a:Act) (w:World):Prop :=
 ∃ m1 v0,m0.le m1 ∧ Ok u m1 S w ∧ a.defers = [] ∧ RVs Tryd.prog a w [.t 2 v0] ∧ (pL 1 (pL 4 qan)) m1 [v0] r
theorem qgI (N:Nat) (s_0:List UInt8) (ls_0:s_0.length ≤ LIMS) {r:(List (List (Relation)))} (hF:qfe N s_0 = some r) (ok:Ok u m0 S w) :
  Calls Tryd.prog 13 [Value.string (bs s_0)].toArray w fun e w'=>∃ m1 v0,e = .returned v0 ∧ m0.le m1 ∧ Ok u m1 S w' ∧ (pL 1 (pL 4 qan)) m1 [v0] r:=by
 have le_m0:=Mem.le.refl m0
 unfold qfe at hF
 refine en (qlh u m0 S) r Tryd.func13 rfl rfl rfl (fun _ _ h=>rc h fun _=>rfl) fun fin a E=>sg<|aw E rfl fun a E=>sg<|mv E rfl fun a E=>bd hF fun r1 e2 hF=>qao E quq rfl (qkO N s_0 ls_0 e2 ok) rfl rfl ?_
 rintro _ w ⟨m3,c4,rfl,hle,ok,h5,r6,r7⟩
 have le_m0:=le_m0.trans hle
 refine ⟨_,rfl,fun a E=>?_⟩
 refine mv E rfl fun a E=>lw E (qaF rfl rfl) fun a E=>lw E (qaF rfl rfl) fun a E=>lw E (qaF rfl rfl) fun a E=>av E rfl fun a E=>av E rfl fun a E=>av E rfl fun a E=>wn<|sg<|mv E rfl fun a E=>aw E rfl fun a E=>wp_ret ?_
 exact fin hF ⟨m3,c4,le_m0,ok,E.d,rz E rfl,h5⟩
def qmE (u:World) (m0:Mem) (S:Segs) (r:Int × Int) (a:Act) (w:World):Prop :=
 Ok u m0 S w ∧ a.defers = [] ∧ RVs Tryd.prog a w [.t 2 (.int .i64 r.1),.t 3 (.int .i64 r.2)] ∧ InR .i64 r.1 ∧ InR .i64 r.2
theorem qjd (N:Nat) (vc_0:Value) (c_0:List (List (Relation))) (hc_0:(pL 1 (pL 4 qan)) m0 [vc_0] c_0) {r:Int × Int} (hF:qfC N c_0 = some r) (ok:Ok u m0 S w) :
  Calls Tryd.prog 14 [vc_0].toArray w fun e w'=>(e = .returned (.tuple [(.int .i64 r.1),(.int .i64 r.2)].toArray) ∧ Ok u m0 S w') ∧ InR .i64 r.1 ∧ InR .i64 r.2:=by
 unfold qfC at hF
 refine en (qmE u m0 S) r Tryd.func14 rfl rfl rfl (by rintro a w ⟨ok,hd,hrv,h0,h1⟩; exact qbC [.t 2 (.int .i64 r.1),.t 3 (.int .i64 r.2)] hd rfl hrv ⟨⟨rfl,ok⟩,h0,h1⟩) fun fin a E=>sg<|av E rfl fun a E=>aw E rfl fun a E=>wp_seq<|sg<|mv E rfl fun a E=>bd hF fun r1 e2 hF=>lc E qnX rfl (qfQ N _ c_0 hc_0 e2 ok) fun w ok a E=>lw E (qbW rfl) fun a E=>wn<|cf E rfl hF (fun c3 hF=>?_) fun c3 hF=>?_
 ·refine sg<|av E rfl fun a E=>aw E rfl fun a E=>wp_ret<|qav ?_
  exact fin hF ⟨ok,E.d,⟨rv_t E rfl,rv_t E rfl,trivial⟩,(ir 0),(ir 1)⟩
 refine wp_skip<|qaa<|sg<|aw E rfl fun a E=>wp_seq<|sg<|mv E rfl fun a E=>lv E ok (qaz qdq hc_0 rfl) fun a E=>mv E rfl fun a E=>wn<|wp_block<|bd hF fun o6 hL hF=>qaH _ (fun (s:Int × Int) a w=>Ok u m0 (S) w ∧ Env 45 a [(4,vi s.1),(13,vc_0),(14,(vi (c_0.length:Int))),(15,vi s.2)] ∧ InR .i64 s.1 ∧ InR .i64 s.2) (fun (b:Int) e a w=>e = (.exit 0) ∧ Ok u m0 (S) w ∧ Env 45 a [(4,vi b)] ∧ InR .i64 b) ?_ ?_ N _ a w hL ⟨ok,E.keep [4,13,14,15],(ir 1),(ir 0)⟩
 rotate_left
 ·intro e a w _ hO
  obtain ⟨rfl,ok,E,r62⟩:=hO
  refine qaN<|qaa<|sg<|mv E rfl fun a E=>av E rfl fun a E=>av E rfl fun a E=>wn<|wp_ret ?_
  exact fin hF ⟨ok,E.d,⟨rv_t E rfl,rv_t E rfl,trivial⟩,r62,(ir 0)⟩
 rintro ⟨v9,v10⟩ a w r ⟨ok,E,r11,r12⟩ hF
 replace hF:qdR N c_0 v9 v10 = some r:=hF
 unfold qdR at hF
 refine sg<|lw E (qaC rfl rfl) fun a E=>wn<|wp_seq<|cg E rfl hF (fun c13 hF=>?_) fun c13 hF=>?_
 ·refine wp_exit<|qaE ?_
  cases hF
  exact so (⟨rfl,⟨ok,E.keep [4],r11⟩⟩)
 refine wp_skip<|qaa<|wp_seq<|wp_block<|sg ?_
 obtain ⟨x14,e15,hF⟩:=bnd hF
 obtain ⟨b16,o17,es18,hl19,rr20,at21,yy22⟩:=ia E 13 15 qdq hc_0 e15
 obtain ⟨c23,rfl,h24⟩:=qbG rr20
 refine lv E ok (yy22 _ _) fun a E=>lv E ok (qai qdJ rfl (qab.ro at21)) fun a E=>aw E rfl fun a E=>sg<|mv E rfl fun a E=>lv E ok (qaz qbr h24 rfl) fun a E=>mv E rfl fun a E=>wn<|wp_block<|bd hF fun o27 hL hF=>qaH _ (fun (s:Int × Int) a w=>Ok u m0 (S) w ∧ Env 45 a [(4,vi s.1),(13,vc_0),(14,(vi (c_0.length:Int))),(15,vi v10),(19,c23),(20,(vi (x14.length:Int))),(21,vi s.2)] ∧ InR .i64 s.1 ∧ InR .i64 s.2) (fun (b:Int) e a w=>e = (.exit 2) ∧ Ok u m0 (S) w ∧ Env 45 a [(4,vi b),(13,vc_0),(14,(vi (c_0.length:Int))),(15,vi v10)] ∧ InR .i64 b) ?_ ?_ N _ a w hL ⟨ok,E.keep [4,13,14,15,19,20,21],r11,(ir 0)⟩
 rotate_left
 ·intro e a w _ hO
  obtain ⟨rfl,ok,E,r60⟩:=hO
  refine qaN<|qap<|qaa<|qac<|lw E (qaA rfl rfl (InR.inc r12 (qal hc_0) c13)) fun a E=>mv E rfl fun a E=>wpList_nil ?_
  cases hF
  exact qau ⟨ok,E.keep [4,13,14,15],r60,(InR.inc r12 (qal hc_0) c13)⟩
 rintro ⟨v30,v31⟩ a w r ⟨ok,E,r32,r33⟩ hF
 replace hF:qdO N x14 v30 v31 = some r:=hF
 unfold qdO at hF
 refine sg<|lw E (qaC rfl rfl) fun a E=>wn<|wp_seq<|cg E rfl hF (fun c34 hF=>?_) fun c34 hF=>?_
 ·refine wp_exit<|qaE ?_
  cases hF
  exact so (⟨rfl,⟨ok,E.keep [4,13,14,15],r32⟩⟩)
 refine wp_skip<|qaa<|wp_seq<|wp_block<|sg ?_
 obtain ⟨x35,e36,hF⟩:=bnd hF
 obtain ⟨b37,o38,es39,hl40,rr41,at42,yy43⟩:=ia E 19 21 qbr h24 e36
 obtain ⟨c46,rfl,r44,r45,h47⟩:=rr41
 refine lv E ok (yy43 _ _) fun a E=>lv E ok (qaj (cs:=[vi x35.Operand,vi x35.Mod,vb x35.Not,c46]) qbK rfl rfl (qab.ro at42)) fun a E=>qaw E ok qds rfl rfl fun b48 a w E ok=>qaf E ok 0 rfl rfl rfl qgE rfl rfl ⟨rfl,rfl,rfl,(qa9 h47),trivial⟩ rfl rfl fun w ok=>wn<|sg<|fk E ok qej qam rfl 0 rfl rfl fun a E=>aw E rfl fun a E=>wp_seq<|sg<|mv E rfl fun a E=>lw E (qax rfl rfl) fun a E=>wn<|bd hF fun o49 hJ hF=>qaO (Q':=fun e a w=>e = .normal ∧ Ok u m0 ([(b48,oc 54 [vi x35.Operand,vi x35.Mod,vb x35.Not,c46])] :: S) w ∧ Env 45 a [(4,vi v30),(8,vp b48),(9,vi o49),(13,vc_0),(14,(vi (c_0.length:Int))),(15,vi v10),(19,c23),(20,(vi (x14.length:Int))),(21,vi v31)] ∧ InR .i64 o49) ?_ ?_
 ·have hF:=hJ
  refine cg E rfl hF (fun c51 hF=>?_) fun c51 hF=>?_
  ·refine wp_skip ?_
   cases hF
   exact ⟨rfl,⟨ok,E.keep [4,8,9,13,14,15,19,20,21],r45⟩⟩
  refine qac<|lv E ok (qaj (cs:=[vi x35.Operand,vi x35.Mod,vb x35.Not,c46]) qbK rfl rfl (qab.own 0 rfl rfl)) fun a E=>bd hF fun r52 e53 hF=>qao E qr8 rfl (qir N _ x35 ⟨_,rfl,r44,r45,h47⟩ e53 ok) rfl rfl ?_
  rintro _ w ⟨⟨rfl,ok⟩,r54⟩
  refine ⟨_,rfl,fun a E=>?_⟩
  refine lw E (qcg rfl rfl) fun a E=>av E rfl fun a E=>wpList_nil ?_
  cases hF
  exact ⟨rfl,⟨ok,E.keep [4,8,9,13,14,15,19,20,21],(InR.wrap _ _)⟩⟩
 intro e a w hO
 obtain ⟨rfl,ok,E,r55⟩:=hO
 refine qaa<|wp_seq<|sg<|fk E ok qa6 qam rfl 0 rfl rfl fun a E=>lw E (qax rfl rfl) fun a E=>wn<|bd hF fun o56 hJ hF=>qaO (Q':=fun e a w=>e = .normal ∧ Ok u m0 ([(b48,oc 54 [vi x35.Operand,vi x35.Mod,vb x35.Not,c46])] :: S) w ∧ Env 45 a [(4,vi v30),(9,vi o56),(13,vc_0),(14,(vi (c_0.length:Int))),(15,vi v10),(19,c23),(20,(vi (x14.length:Int))),(21,vi v31)] ∧ InR .i64 o56) ?_ ?_
 ·have hF:=hJ
  refine cg E rfl hF (fun c58 hF=>?_) fun c58 hF=>?_
  ·refine wp_skip ?_
   cases hF
   exact ⟨rfl,⟨ok,E.keep [4,9,13,14,15,19,20,21],r55⟩⟩
  refine qac<|mz E rfl rfl fun a E=>lw E (qgw rfl rfl) fun a E=>av E rfl fun a E=>wpList_nil ?_
  cases hF
  exact ⟨rfl,⟨ok,E.keep [4,9,13,14,15,19,20,21],(InR.wrap _ _)⟩⟩
 intro e a w hO
 obtain ⟨rfl,ok,E,r59⟩:=hO
 refine qaa<|qac<|mz E rfl rfl fun a E=>lw E (qgw rfl rfl) fun a E=>lw E (qp5 rfl rfl) fun a E=>av E rfl fun a E=>wpList_nil<|qap<|qaa<|qac<|lw E (qaA rfl rfl (InR.inc r33 (qal h24) c34)) fun a E=>mv E rfl fun a E=>wpList_nil ?_
 cases hF
 exact qau ⟨(ok.pk 1 [] rfl (by decide)),E.keep [4,13,14,15,19,20,21],(InR.min (InR.wrap _ _) (ir 1000000)),(InR.inc r33 (qal h24) c34)⟩
def qkP (u:World) (m0:Mem) (S:Segs) (r:Bool) (a:Act) (w:World):Prop :=
 Ok u m0 S w ∧ a.defers = [] ∧ RVs Tryd.prog a w [.t 0 (.bool r)]
theorem qgm (N:Nat) {r:Bool} (hF:qdy N  = some r) (hTb:Tab u) (ok:Ok u m0 S w) :
  Calls Tryd.prog 4 [].toArray w fun e w'=>(e = .returned (.bool r) ∧ Ok u m0 S w'):=by
 have hb0:=ok.base
 have le_m0:=Mem.le.refl m0
 unfold qdy at hF
 refine en (qkP u m0 S) r Tryd.func4 rfl rfl rfl (fun _ _ h=>ra h rfl) fun fin a E=>sg<|aw E rfl fun a E=>sg<|bd hF fun r1 e2 hF=>qao E qqa rfl (qgI N ([110,32,37,32,49,48,32,61,32,49]) (show ([110,32,37,32,49,48,32,61,32,49]:List UInt8).length ≤ LIMS by decide) e2 ok) rfl rfl ?_
 rintro _ w ⟨m3,c4,rfl,hle,ok,h5⟩
 have le_m0:=le_m0.trans hle
 refine ⟨_,rfl,fun a E=>?_⟩
 refine lw E (qaG (ps:=[(0,.const (vs ([111,110,101]))),(1,.tmp 8)]) (qs:=[(0,[(vs ([111,110,101]))]),(1,[c4])]) (cs:=[(vs ([111,110,101])),c4]) qlt qnG rfl ⟨rfl,rfl,rfl,⟨rfl,(qcj h5),rfl,trivial⟩⟩ rfl) fun a E=>bd hF fun r6 e7 hF=>qao E qqa rfl (qgI N ([110,32,37,32,49,48,48,32,61,32,49,49]) (show ([110,32,37,32,49,48,48,32,61,32,49,49]:List UInt8).length ≤ LIMS by decide) e7 ok) rfl rfl ?_
 rintro _ w ⟨m8,c9,rfl,hle,ok,h10⟩
 have le_m0:=le_m0.trans hle
 have h5:=(mL (mL qad)).up hle h5
 refine ⟨_,rfl,fun a E=>?_⟩
 refine lw E (qaG (ps:=[(0,.const (vs ([116,119,111]))),(1,.tmp 10)]) (qs:=[(0,[(vs ([116,119,111]))]),(1,[c9])]) (cs:=[(vs ([116,119,111])),c9]) qlt qnG rfl ⟨rfl,rfl,rfl,⟨rfl,(qcj h10),rfl,trivial⟩⟩ rfl) fun a E=>qbH (R:=qpZ) (xo:=[.tmp 9,.tmp 11]) (xs:=([(Rule.mk ([111,110,101]) r1),(Rule.mk ([116,119,111]) r6)]:List (Rule))) E ok qmF qlt rfl ⟨⟨_,rfl,rfl,⟨_,rfl,(show ([111,110,101]:List UInt8).length ≤ LIMS by decide),h5⟩⟩,⟨_,rfl,rfl,⟨_,rfl,(show ([116,119,111]:List UInt8).length ≤ LIMS by decide),h10⟩⟩,trivial⟩ rfl rfl rfl rfl fun c11 M12 a w E ok h13=>?_
 obtain ⟨r19,e20,hF⟩:=bnd hF
 obtain ⟨m14,hle16,ok15,hfz17⟩:=(ok.frs 0 rfl).freeze
 have h18:=ORow.froz qse h13 hle16 hfz17 (by decide)
 refine qao E que rfl (qlP N _ ([(Rule.mk ([111,110,101]) r1),(Rule.mk ([116,119,111]) r6)]:List (Rule)) h18 e20 hTb ok15) rfl rfl ?_
 rintro _ w ⟨⟨rfl,okz⟩,r21,r22,l23,r24⟩
 replace ok:=(Ok.thawAt 0 rfl ok hle16 hfz17 okz)
 refine ⟨_,rfl,fun a E=>?_⟩
 refine mv E rfl fun a E=>lw E (qaF rfl rfl) fun a E=>lw E (qaF rfl rfl) fun a E=>lw E (qaF rfl rfl) fun a E=>lw E (qaF rfl rfl) fun a E=>av E rfl fun a E=>av E rfl fun a E=>av E rfl fun a E=>aw E rfl fun a E=>sg<|bd hF fun r25 e26 hF=>qao E qqa rfl (qgI N ([105,32,61,32,49,32,97,110,100,32,118,32,61,32,48]) (show ([105,32,61,32,49,32,97,110,100,32,118,32,61,32,48]:List UInt8).length ≤ LIMS by decide) e26 ok) rfl rfl ?_
 rintro _ w ⟨m27,c28,rfl,hle,ok,h29⟩
 have le_m0:=le_m0.trans hle
 have h5:=(mL (mL qad)).up hle h5
 have h10:=(mL (mL qad)).up hle h10
 have h13:=ORow.up qse hle h13
 refine ⟨_,rfl,fun a E=>?_⟩
 refine bd hF fun r30 e31 hF=>qao E qss rfl (qjd N _ r25 h29 e31 ok) rfl rfl ?_
 rintro _ w ⟨⟨rfl,ok⟩,r32,r33⟩
 refine ⟨_,rfl,fun a E=>?_⟩
 refine mv E rfl fun a E=>lw E (qaF rfl rfl) fun a E=>lw E (qaF rfl rfl) fun a E=>av E rfl fun a E=>aw E rfl fun a E=>sg<|mv E rfl fun a E=>lw E (qax rfl rfl) fun a E=>mv E rfl fun a E=>bw E 25 hF (fun c34 hF E=>?_) fun c34 hF E=>?_
 ·refine lsq E fun a E=>pf E rfl rfl fun a E=>mv E rfl fun a E=>lsq E fun a E=>pf E rfl rfl fun a E=>mv E rfl fun a E=>lsq E fun a E=>pf E rfl rfl fun a E=>mv E rfl fun a E=>lsq E fun a E=>pf E rfl rfl fun a E=>mv E rfl fun a E=>?_
  refine lsq E fun a E=>pf E rfl rfl fun a E=>aw E rfl fun a E=>wp_ret ?_
  exact fin hF ⟨(ok.drop).down hb0 le_m0,E.d,rz E rfl⟩
 refine mv E rfl fun a E=>lw E (qax rfl rfl) fun a E=>pt E rfl rfl fun a E=>mv E rfl fun a E=>bw E 29 hF (fun c35 hF E=>?_) fun c35 hF E=>?_
 ·refine lsq E fun a E=>pf E rfl rfl fun a E=>mv E rfl fun a E=>lsq E fun a E=>pf E rfl rfl fun a E=>mv E rfl fun a E=>lsq E fun a E=>pf E rfl rfl fun a E=>mv E rfl fun a E=>lsq E fun a E=>pf E rfl rfl fun a E=>av E rfl fun a E=>?_
  refine wn<|wp_ret ?_
  exact fin hF ⟨(ok.drop).down hb0 le_m0,E.d,rz E rfl⟩
 refine mv E rfl fun a E=>lw E (qax rfl rfl) fun a E=>pt E rfl rfl fun a E=>mv E rfl fun a E=>bw E 33 hF (fun c36 hF E=>?_) fun c36 hF E=>?_
 ·refine lsq E fun a E=>pf E rfl rfl fun a E=>mv E rfl fun a E=>lsq E fun a E=>pf E rfl rfl fun a E=>mv E rfl fun a E=>lsq E fun a E=>pf E rfl rfl fun a E=>aw E rfl fun a E=>wp_ret ?_
  exact fin hF ⟨(ok.drop).down hb0 le_m0,E.d,rz E rfl⟩
 refine mv E rfl fun a E=>lw E (qax rfl rfl) fun a E=>pt E rfl rfl fun a E=>mv E rfl fun a E=>bw E 37 hF (fun c37 hF E=>?_) fun c37 hF E=>?_
 ·refine lsq E fun a E=>pf E rfl rfl fun a E=>mv E rfl fun a E=>lsq E fun a E=>pf E rfl rfl fun a E=>av E rfl fun a E=>wn<|wp_ret ?_
  exact fin hF ⟨(ok.drop).down hb0 le_m0,E.d,rz E rfl⟩
 refine mv E rfl fun a E=>lw E (qlq rfl rfl) fun a E=>pt E rfl rfl fun a E=>mv E rfl fun a E=>bu E 41 hF (fun c38 hF E=>?_) fun c38 hF E=>?_
 ·refine mv E rfl fun a E=>lw E (qax rfl rfl) fun a E=>pt E rfl rfl fun a E=>aw E rfl fun a E=>wp_ret ?_
  exact fin hF ⟨(ok.drop).down hb0 le_m0,E.d,rz E rfl⟩
 refine lsq E fun a E=>pf E rfl rfl fun a E=>aw E rfl fun a E=>wp_ret ?_
 exact fin hF ⟨(ok.drop).down hb0 le_m0,E.d,rz E rfl⟩
end Go.Proofs.YtidfofhmnlhfjaaDoor
namespace Go.Proofs.YtidfofhmnlhfjaaDoor
open Go.X
variable {u:World} {m0:Mem} {S:Segs} {w:World}
set_option maxHeartbeats 4000000
set_option maxRecDepth 100000
def qiu (u:World) (m0:Mem) (S:Segs) (r:Bool) (a:Act) (w:World):Prop :=
 Ok u m0 S w ∧ a.defers = [] ∧ RVs Tryd.prog a w [.t 2 (.bool r)]
theorem qlO (N:Nat) (vc_0:Value) (c_0:List (List (Relation))) (hc_0:(pL 1 (pL 4 qan)) m0 [vc_0] c_0) {r:Bool} (hF:qbc N c_0 = some r) (ok:Ok u m0 S w) :
  Calls Tryd.prog 15 [vc_0].toArray w fun e w'=>(e = .returned (.bool r) ∧ Ok u m0 S w'):=by
 unfold qbc at hF
 refine en (qiu u m0 S) r Tryd.func15 rfl rfl rfl (fun _ _ h=>ra h rfl) fun fin a E=>sg<|aw E rfl fun a E=>sg<|aw E rfl fun a E=>wp_seq<|sg<|av E rfl fun a E=>wn<|wp_block<|bd hF fun o3 hL hF=>qaH _ (fun (s:Int × Int) a w=>Ok u m0 (S) w ∧ Env 38 a [(0,vc_0),(3,vi s.1),(4,vi s.2)] ∧ InR .i64 s.1 ∧ InR .i64 s.2) (fun (b:(Unit ⊕ Bool)) e a w=>(Sum.elim (fun b59=>e = (.exit 0) ∧ Ok u m0 (S) w ∧ Env 38 a [(0,vc_0)]) (fun b60=>e = .ret ∧ qiu u m0 S b60 a w)) b) ?_ ?_ N _ a w hL ⟨ok,E.keep [0,3,4],(ir 0),(ir 0)⟩
 rotate_left
 ·intro e a w _ hO
  rcases o3 with o3 | o3
  rotate_left
  ·obtain ⟨rfl,hret⟩:=hO
   refine qaI<|qav ?_
   exact fin hF hret
  have hF:=qcN hF
  obtain ⟨rfl,ok,E⟩:=hO
  refine qaN<|qaa<|sg<|mv E rfl fun a E=>lv E ok (qaz qdq hc_0 rfl) fun a E=>lw E (qhF rfl rfl) fun a E=>av E rfl fun a E=>wn<|wp_ret ?_
  exact fin hF ⟨ok,E.d,rz E rfl⟩
 rintro ⟨v6,v7⟩ a w r ⟨ok,E,r8,r9⟩ hF
 replace hF:qbx N c_0 v6 v7 = some r:=hF
 unfold qbx at hF
 refine wp_seq<|sg<|mz E rfl rfl fun a E=>lv E ok (qaz qdq hc_0 rfl) fun a E=>lw E (qaC rfl rfl) fun a E=>wn<|cg E rfl hF (fun c10 hF=>?_) fun c10 hF=>?_
 ·refine wp_exit<|qaE ?_
  cases hF
  exact so (sl ⟨rfl,⟨ok,E.keep [0]⟩⟩)
 refine wp_skip<|qaa<|wp_seq<|wp_block<|wp_seq<|sg<|av E rfl fun a E=>wn<|wp_block<|bd hF fun o13 hL hF=>qaH _ (fun (s:Int × Int) a w=>Ok u m0 (S) w ∧ Env 38 a [(0,vc_0),(3,vi s.1),(4,vi v7),(5,vi s.2)] ∧ InR .i64 s.1 ∧ InR .i64 s.2) (fun (b:Int) e a w=>e = (.exit 2) ∧ Ok u m0 (S) w ∧ Env 38 a [(0,vc_0),(3,vi b),(4,vi v7)] ∧ InR .i64 b) ?_ ?_ N _ a w hL ⟨ok,E.keep [0,3,4,5],r8,(ir 0)⟩
 rotate_left
 ·intro e a w _ hO
  obtain ⟨rfl,ok,E,r56⟩:=hO
  refine qaN<|qaa<|sg<|mv E rfl fun a E=>lw E (qcK rfl rfl) fun a E=>wn<|cg E rfl hF (fun c57 hF=>?_) fun c57 hF=>?_
  ·refine wp_skip<|qap<|qaa<|qac<|mv E rfl fun a E=>lw E (qaA rfl rfl (InR.inc r9 (qal hc_0) c10)) fun a E=>av E rfl fun a E=>wpList_nil ?_
   cases hF
   exact qau ⟨ok,E.keep [0,3,4],r56,(InR.inc r9 (qal hc_0) c10)⟩
  refine sg<|aw E rfl fun a E=>wp_ret<|qaI<|qav ?_
  cases hF
  exact so (sr ⟨rfl,⟨ok,E.d,rz E rfl⟩⟩)
 rintro ⟨v16,v17⟩ a w r ⟨ok,E,r18,r19⟩ hF
 replace hF:qbL N c_0 v7 v16 v17 = some r:=hF
 unfold qbL at hF
 refine wp_seq<|sg<|mz E rfl rfl fun a E=>mv E rfl fun a E=>?_
 obtain ⟨x20,e21,hF⟩:=bnd hF
 obtain ⟨b22,o23,es24,hl25,rr26,at27,yy28⟩:=ia E 13 14 qdq hc_0 e21
 obtain ⟨c29,rfl,h30⟩:=qbG rr26
 refine lv E ok (yy28 _ _) fun a E=>lv E ok (qai qdJ rfl (qab.ro at27)) fun a E=>lv E ok (qaz qbr h30 rfl) fun a E=>lw E (qaC rfl rfl) fun a E=>wn<|cg E rfl hF (fun c31 hF=>?_) fun c31 hF=>?_
 ·refine wp_exit<|qaE ?_
  cases hF
  exact so (⟨rfl,⟨ok,E.keep [0,3,4],r18⟩⟩)
 refine wp_skip<|qaa<|wp_seq<|wp_block<|qac<|mz E rfl rfl fun a E=>mv E rfl fun a E=>?_
 obtain ⟨x32,e33,hF⟩:=bnd hF
 obtain ⟨b34,o35,es36,hl37,rr38,at39,yy40⟩:=ia E 22 23 qdq hc_0 e33
 obtain ⟨c41,rfl,h42⟩:=qbG rr38
 refine lv E ok (yy40 _ _) fun a E=>lv E ok (qai qdJ rfl (qab.ro at39)) fun a E=>mv E rfl fun a E=>?_
 obtain ⟨x43,e44,hF⟩:=bnd hF
 obtain ⟨b45,o46,es47,hl48,rr49,at50,yy51⟩:=ia E 25 26 qbr h42 e44
 obtain ⟨c54,rfl,r52,r53,h55⟩:=rr49
 refine lv E ok (yy51 _ _) fun a E=>fv E qbn rfl fun a E=>lv E ok (qai qca rfl (qab.ro (At.sub 3 1 at50))) fun a E=>lv E ok (qaz qbX h55 rfl) fun a E=>lw E (qcg rfl rfl) fun a E=>lw E (qcg rfl rfl) fun a E=>av E rfl fun a E=>wpList_nil<|qap<|qaa<|qac<|mv E rfl fun a E=>lw E (qaA rfl rfl (InR.inc r19 (qal h30) c31)) fun a E=>av E rfl fun a E=>wpList_nil ?_
 cases hF
 exact qau ⟨ok,E.keep [0,3,4,5],(InR.wrap _ _),(InR.inc r19 (qal h30) c31)⟩
def qiq (u:World) (m0:Mem) (S:Segs) (r:Bool) (a:Act) (w:World):Prop :=
 Ok u m0 S w ∧ a.defers = [] ∧ RVs Tryd.prog a w [.t 2 (.bool r)]
theorem qlQ (N:Nat) (vl_0:Value) (l_0:List (List (List (Relation)))) (hl_0:(pL 1 (pL 1 (pL 4 qan))) m0 [vl_0] l_0) {r:Bool} (hF:qc3 N l_0 = some r) (ok:Ok u m0 S w) :
  Calls Tryd.prog 5 [vl_0].toArray w fun e w'=>(e = .returned (.bool r) ∧ Ok u m0 S w'):=by
 unfold qc3 at hF
 refine en (qiq u m0 S) r Tryd.func5 rfl rfl rfl (fun _ _ h=>ra h rfl) fun fin a E=>sg<|aw E rfl fun a E=>wp_seq<|sg<|mv E rfl fun a E=>lv E ok (qaz qdM hl_0 rfl) fun a E=>mv E rfl fun a E=>wn<|wp_block<|bd hF fun o2 hL hF=>qaH _ (fun (s:Int) a w=>Ok u m0 (S) w ∧ Env 19 a [(0,vl_0),(5,(vi (l_0.length:Int))),(6,vi s)] ∧ InR .i64 s) (fun (b:(Unit ⊕ Bool)) e a w=>(Sum.elim (fun b21=>e = (.exit 0) ∧ Ok u m0 (S) w ∧ Env 19 a [(0,vl_0)]) (fun b22=>e = .ret ∧ qiq u m0 S b22 a w)) b) ?_ ?_ N _ a w hL ⟨ok,E.keep [0,5,6],(ir 0)⟩
 rotate_left
 ·intro e a w _ hO
  rcases o2 with o2 | o2
  rotate_left
  ·obtain ⟨rfl,hret⟩:=hO
   refine qaI<|qav ?_
   exact fin hF hret
  have hF:=qcN hF
  obtain ⟨rfl,ok,E⟩:=hO
  refine qaN<|qaa<|sg<|mv E rfl fun a E=>lv E ok (qaz qdM hl_0 rfl) fun a E=>lw E (qhF rfl rfl) fun a E=>av E rfl fun a E=>wn<|wp_ret ?_
  exact fin hF ⟨ok,E.d,rz E rfl⟩
 rintro v4 a w r ⟨ok,E,r5⟩ hF
 replace hF:qch N l_0 v4 = some r:=hF
 unfold qch at hF
 refine sg<|lw E (qaC rfl rfl) fun a E=>wn<|wp_seq<|cg E rfl hF (fun c6 hF=>?_) fun c6 hF=>?_
 ·refine wp_exit<|qaE ?_
  cases hF
  exact so (sl ⟨rfl,⟨ok,E.keep [0]⟩⟩)
 refine wp_skip<|qaa<|wp_seq<|wp_block<|sg<|mv E rfl fun a E=>av E rfl fun a E=>wn<|sg<|mz E rfl rfl fun a E=>?_
 obtain ⟨x7,e8,hF⟩:=bnd hF
 obtain ⟨b9,o10,es11,hl12,rr13,at14,yy15⟩:=ia E 9 10 qdM hl_0 e8
 obtain ⟨c16,rfl,h17⟩:=qbG rr13
 refine lv E ok (yy15 _ _) fun a E=>lv E ok (qai qfV rfl (qab.ro at14)) fun a E=>bd hF fun r18 e19 hF=>lc E qun rfl (qlO N _ x7 h17 e19 ok) fun w ok a E=>lw E (qbW rfl) fun a E=>wn<|cg E rfl hF (fun c20 hF=>?_) fun c20 hF=>?_
 ·refine wp_skip<|qap<|qaa<|qac<|lw E (qaA rfl rfl (InR.inc r5 (qal hl_0) c6)) fun a E=>mv E rfl fun a E=>wpList_nil ?_
  cases hF
  exact qau ⟨ok,E.keep [0,5,6],(InR.inc r5 (qal hl_0) c6)⟩
 refine sg<|aw E rfl fun a E=>wp_ret<|qaI<|qav ?_
 cases hF
 exact so (sr ⟨rfl,⟨ok,E.d,rz E rfl⟩⟩)
end Go.Proofs.YtidfofhmnlhfjaaDoor
namespace Go.Proofs.YtidfofhmnlhfjaaDoor
open Go.X
variable {u:World} {m0:Mem} {S:Segs} {w:World}
set_option maxHeartbeats 4000000
set_option maxRecDepth 100000
theorem quh:goB Tryd.prog 41 = true:=by kernel_rfl
def qhC (u:World) (m0:Mem) (S:Segs) (r:Bool) (a:Act) (w:World):Prop :=
 Ok u m0 S w ∧ a.defers = [] ∧ RVs Tryd.prog a w [.t 2 (.bool r)]
theorem qj2 (N:Nat) (vr_0:List Value) (r_0:Relation) (hr_0:qan m0 vr_0 r_0) {r:Bool} (hF:qeF N r_0 = some r) (ok:Ok u m0 S w) :
  Calls Tryd.prog 41 [.agg vr_0.toArray].toArray w fun e w'=>(e = .returned (.bool r) ∧ Ok u m0 S w'):=by
 obtain ⟨c3,rfl,r1,r2,h4⟩:=hr_0
 have hb0:=ok.base
 have le_m0:=Mem.le.refl m0
 unfold qeF at hF
 refine en (qhC u m0 S) r Tryd.func41 rfl rfl rfl (fun _ _ h=>ra h rfl) fun fin a E=>sg<|qbQ E ok rfl rfl rfl fun b5 a w E ok=>aw E rfl fun a E=>wp_seq<|wp_seq<|bd hF fun o6 hJ hF=>qaO (Q':=fun e a w=>e = .normal ∧ ∃ m7,m0.le m7 ∧ Ok u m7 ([(b5,oc 54 [vi r_0.Operand,vi r_0.Mod,vb r_0.Not,c3])] :: S) w ∧ Env 69 a [(1,vp b5),(38,vb o6)]) ?_ ?_
 rotate_left
 ·as_aux_lemma =>
   intro e a w hO
   obtain ⟨rfl,m30,hle,ok,E⟩:=hO
   have le_m0:=le_m0.trans hle
   have h4:=(mL qdL).up hle h4
   refine qaa<|cf E rfl hF (fun c31 hF=>?_) fun c31 hF=>?_
   ·refine sg<|aw E rfl fun a E=>wp_ret<|qav ?_
    exact fin hF ⟨(ok.drop).down hb0 le_m0,E.d,rz E rfl⟩
   refine wp_skip<|qaa<|wp_seq<|sg<|aw E rfl fun a E=>wp_block<|bd hF fun o33 hL hF=>qaH _ (fun (s:Int) a w=>Ok u m30 ([(b5,oc 54 [vi r_0.Operand,vi r_0.Mod,vb r_0.Not,c3])] :: S) w ∧ Env 69 a [(1,vp b5),(3,vi s)] ∧ InR .i64 s) (fun (b:(Unit ⊕ Bool)) e a w=>(Sum.elim (fun b56=>e = (.exit 0) ∧ Ok u m30 ([(b5,oc 54 [vi r_0.Operand,vi r_0.Mod,vb r_0.Not,c3])] :: S) w ∧ Env 69 a []) (fun b57=>e = .ret ∧ qhC u m0 S b57 a w)) b) ?_ ?_ N _ a w hL ⟨ok,E.keep [1,3],(ir 0)⟩
   rotate_left
   ·intro e a w _ hO
    rcases o33 with o33 | o33
    rotate_left
    ·obtain ⟨rfl,hret⟩:=hO
     refine qaI<|qav ?_
     exact fin hF hret
    have hF:=qcN hF
    obtain ⟨rfl,ok,E⟩:=hO
    refine qaN<|qaa<|sg<|aw E rfl fun a E=>wp_ret ?_
    exact fin hF ⟨(ok.drop).down hb0 le_m0,E.d,rz E rfl⟩
   rintro v35 a w r ⟨ok,E,r36⟩ hF
   replace hF:qc7 N r_0 v35 = some r:=hF
   unfold qc7 at hF
   refine wp_seq<|sg<|mv E rfl fun a E=>fk E ok qbn qca rfl 0 rfl rfl fun a E=>lv E ok (qaz qbX h4 rfl) fun a E=>lw E (qaC rfl rfl) fun a E=>wn<|cg E rfl hF (fun c37 hF=>?_) fun c37 hF=>?_
   ·refine wp_exit<|qaE ?_
    cases hF
    exact so (sl ⟨rfl,⟨ok,E.keep []⟩⟩)
   refine wp_skip<|qaa<|wp_seq<|wp_block<|sg<|fk E ok qbn qca rfl 0 rfl rfl fun a E=>mv E rfl fun a E=>?_
   obtain ⟨x38,e39,hF⟩:=bnd hF
   obtain ⟨b40,o41,es42,hl43,rr44,at45,yy46⟩:=ia E 47 48 qbX h4 e39
   obtain ⟨rfl,r47,r48⟩:=rr44
   refine lv E ok (yy46 _ _) fun a E=>lv E ok (qaj (cs:=[vi x38.From,vi x38.To]) qfF rfl rfl (qab.ro at45)) fun a E=>qaw E ok qd3 rfl rfl fun b49 a w E ok=>qaf E ok 0 rfl rfl rfl qgs rfl rfl ⟨rfl,rfl,trivial⟩ rfl rfl fun w ok=>wn<|wp_seq<|qee (by kernel_rfl) (by kernel_rfl) ok<|qv E (qae qfZ rfl) fun a E=>qv E (qai qam rfl (qab.own 0 rfl rfl)) fun a E=>qv E (qaC rfl rfl) fun a E=>qv E (qah rfl) fun a E=>bu E 54 hF (fun c50 hF E=>?_) fun c50 hF E=>?_
   ·refine qs E fun a E=>qs E fun a E=>qs E fun a E=>qs E fun a E=>qs E fun a E=>qv E (qbe rfl rfl) fun a E=>qv E (qah rfl) fun a E=>qs E fun a E=>qs E fun a E=>qs E fun a E=>qs E fun a E=>qs E fun a E=>qs E fun a E=>qv E (qbe rfl rfl) fun a E=>wpQuiet_nil ?_
    intro w ok
    refine qaa<|c_if E rfl (fun _=>?_) (fun h=>by cases h)
    refine sg<|aw E rfl fun a E=>wp_ret<|qaI<|qav ?_
    cases hF
    exact so (sr ⟨rfl,⟨(ok.drop.drop).down hb0 le_m0,E.d,rz E rfl⟩⟩)
   refine qv E (qae qfZ rfl) fun a E=>qv E (qai qam rfl (qab.own 0 rfl rfl)) fun a E=>qv E (qae qeL rfl) fun a E=>qv E (qai qam rfl (qab.own 0 rfl rfl)) fun a E=>qv E (qcK rfl rfl) fun a E=>qv E (qa5 rfl rfl) fun a E=>qv E (qah rfl) fun a E=>bu E 61 hF (fun c51 hF E=>?_) fun c51 hF E=>?_
   ·refine qs E fun a E=>qs E fun a E=>qs E fun a E=>qs E fun a E=>qs E fun a E=>qs E fun a E=>qv E (qbe rfl rfl) fun a E=>wpQuiet_nil ?_
    intro w ok
    refine qaa<|c_if E rfl (fun _=>?_) (fun h=>by cases h)
    refine sg<|aw E rfl fun a E=>wp_ret<|qaI<|qav ?_
    cases hF
    exact so (sr ⟨rfl,⟨(ok.drop.drop).down hb0 le_m0,E.d,rz E rfl⟩⟩)
   refine qv E (qae qeL rfl) fun a E=>qv E (qai qam rfl (qab.own 0 rfl rfl)) fun a E=>qv E (qae qa6 rfl) fun a E=>qv E (qai qam rfl (qab.own 1 rfl rfl)) fun a E=>?_
   obtain ⟨r52,e53,hF⟩:=bnd hF
   obtain ⟨_,_,⟨_,_⟩,r54⟩:=Go.X.Calls.get (qct N r_0.Operand r1 e53 ok)
   refine qg0 E qmL rfl (fun w ok=>(qct N r_0.Operand r1 e53 ok).mono (fun _ _ h=>h.1)) rfl rfl fun a E=>qv E (qcK rfl rfl) fun a E=>qv E (qa5 rfl rfl) fun a E=>wpQuiet_nil ?_
   intro w ok
   refine qaa<|cg E rfl hF (fun c55 hF=>?_) fun c55 hF=>?_
   ·refine wp_skip<|qap<|qaa<|qac<|mv E rfl fun a E=>lw E (qaA rfl rfl (InR.inc r36 (qal h4) c37)) fun a E=>av E rfl fun a E=>wpList_nil ?_
    cases hF
    exact qau ⟨(ok.pk 2 [1] rfl (by decide)),E.keep [1,3],(InR.inc r36 (qal h4) c37)⟩
   refine sg<|aw E rfl fun a E=>wp_ret<|qaI<|qav ?_
   cases hF
   exact so (sr ⟨rfl,⟨(ok.drop.drop).down hb0 le_m0,E.d,rz E rfl⟩⟩)
 have hF:=hJ
 refine qdv (decide (r_0.Operand < 1)) (fun c8=>?_) (fun c8=>?_)
 ·have hF:=qdd c8 hF
  cases hF
  refine qaX [] (Cls u m0 ([(b5,oc 54 [vi r_0.Operand,vi r_0.Mod,vb r_0.Not,c3])] :: [])) (Cls u m0 ([(b5,oc 54 [vi r_0.Operand,vi r_0.Mod,vb r_0.Not,c3])] :: [])) (by kernel_rfl) ?_
  intro w hw
  replace ok:=qa3 ok hw
  clear hw
  have h4_o:=h4
  refine qag (cl1 (cq le_m0 ok [0] rfl) (cq le_m0 ok [0] rfl)) fun hT=>kt 0 E rfl hT (qae qa6 rfl) fun a E=>kt 1 E rfl hT (qai qam rfl (qab.cown 0 rfl rfl)) fun a E=>kt 2 E rfl hT (qaC rfl rfl) fun a E=>kt 3 E rfl hT (qah rfl) fun a E=>?_
  have E:=E.upd 8 c8 rfl
  refine qat 4 false E rfl (by kernel_rfl) nP hT rfl rfl fun a E=>qat 5 false E rfl (by kernel_rfl) nP hT rfl rfl fun a E=>qat 6 false E rfl (by kernel_rfl) nP hT rfl rfl fun a E=>kt 7 E rfl hT (qbe rfl rfl) fun a E=>kt 8 E rfl hT (qah rfl) fun a E=>qat 9 false E rfl (by kernel_rfl) nP hT rfl rfl fun a E=>qat 10 false E rfl (by kernel_rfl) nP hT rfl rfl fun a E=>qat 11 false E rfl (by kernel_rfl) nP hT rfl rfl fun a E=>qat 12 false E rfl (by kernel_rfl) nP hT rfl rfl fun a E=>qat 13 false E rfl (by kernel_rfl) nP hT rfl rfl fun a E=>qat 14 false E rfl (by kernel_rfl) nP hT rfl rfl fun a E=>qat 15 false E rfl (by kernel_rfl) nP hT rfl rfl fun a E=>qat 16 false E rfl (by kernel_rfl) nP hT rfl rfl fun a E=>qat 17 false E rfl (by kernel_rfl) nP hT rfl rfl fun a E=>qat 18 false E rfl (by kernel_rfl) nP hT rfl rfl fun a E=>qat 19 false E rfl (by kernel_rfl) nP hT rfl rfl fun a E=>?_
  refine qat 20 false E rfl (by kernel_rfl) nP hT rfl rfl fun a E=>kt 21 E rfl hT (qbe rfl rfl) fun a E=>kt 22 E rfl hT (qah rfl) fun a E=>qat 23 false E rfl (by kernel_rfl) nP hT rfl rfl fun a E=>qat 24 false E rfl (by kernel_rfl) nP hT rfl rfl fun a E=>qat 25 false E rfl (by kernel_rfl) nP hT rfl rfl fun a E=>qat 26 false E rfl (by kernel_rfl) nP hT rfl rfl fun a E=>kt 27 E rfl hT (qbe rfl rfl) fun a E=>kt 28 E rfl hT (qah rfl) fun a E=>qat 29 false E rfl (by kernel_rfl) nP hT rfl rfl fun a E=>qat 30 false E rfl (by kernel_rfl) nP hT rfl rfl fun a E=>qat 31 false E rfl (by kernel_rfl) nP hT rfl rfl fun a E=>qat 32 false E rfl (by kernel_rfl) nP hT rfl rfl fun a E=>kt 33 E rfl hT (qbe rfl rfl) fun a E=>qaM (by kernel_rfl) ?_
  exact ⟨rfl,⟨m0,le_m0,ok,E.keep [1,38]⟩⟩
 have hF:=qdc c8 hF
 refine qdv (decide (r_0.Operand > 6)) (fun c9=>?_) (fun c9=>?_)
 ·have hF:=qdd c9 hF
  cases hF
  refine qaX [] (Cls u m0 ([(b5,oc 54 [vi r_0.Operand,vi r_0.Mod,vb r_0.Not,c3])] :: [])) (Cls u m0 ([(b5,oc 54 [vi r_0.Operand,vi r_0.Mod,vb r_0.Not,c3])] :: [])) (by kernel_rfl) ?_
  intro w hw
  replace ok:=qa3 ok hw
  clear hw
  have h4_o:=h4
  refine qag (cl1 (cq le_m0 ok [0] rfl) (cq le_m0 ok [0] rfl)) fun hT=>kt 0 E rfl hT (qae qa6 rfl) fun a E=>kt 1 E rfl hT (qai qam rfl (qab.cown 0 rfl rfl)) fun a E=>kt 2 E rfl hT (qaC rfl rfl) fun a E=>kt 3 E rfl hT (qah rfl) fun a E=>?_
  have E:=E.upd 8 c8 rfl
  refine kt 4 E rfl hT (qae qa6 rfl) fun a E=>kt 5 E rfl hT (qai qam rfl (qab.cown 0 rfl rfl)) fun a E=>kt 6 E rfl hT (qcK rfl rfl) fun a E=>kt 7 E rfl hT (qa5 rfl rfl) fun a E=>kt 8 E rfl hT (qah rfl) fun a E=>?_
  have E:=E.upd 13 c9 rfl
  refine qat 9 false E rfl (by kernel_rfl) nP hT rfl rfl fun a E=>qat 10 false E rfl (by kernel_rfl) nP hT rfl rfl fun a E=>qat 11 false E rfl (by kernel_rfl) nP hT rfl rfl fun a E=>qat 12 false E rfl (by kernel_rfl) nP hT rfl rfl fun a E=>qat 13 false E rfl (by kernel_rfl) nP hT rfl rfl fun a E=>qat 14 false E rfl (by kernel_rfl) nP hT rfl rfl fun a E=>qat 15 false E rfl (by kernel_rfl) nP hT rfl rfl fun a E=>qat 16 false E rfl (by kernel_rfl) nP hT rfl rfl fun a E=>qat 17 false E rfl (by kernel_rfl) nP hT rfl rfl fun a E=>qat 18 false E rfl (by kernel_rfl) nP hT rfl rfl fun a E=>qat 19 false E rfl (by kernel_rfl) nP hT rfl rfl fun a E=>qat 20 false E rfl (by kernel_rfl) nP hT rfl rfl fun a E=>kt 21 E rfl hT (qbe rfl rfl) fun a E=>kt 22 E rfl hT (qah rfl) fun a E=>qat 23 false E rfl (by kernel_rfl) nP hT rfl rfl fun a E=>qat 24 false E rfl (by kernel_rfl) nP hT rfl rfl fun a E=>?_
  refine qat 25 false E rfl (by kernel_rfl) nP hT rfl rfl fun a E=>qat 26 false E rfl (by kernel_rfl) nP hT rfl rfl fun a E=>kt 27 E rfl hT (qbe rfl rfl) fun a E=>kt 28 E rfl hT (qah rfl) fun a E=>qat 29 false E rfl (by kernel_rfl) nP hT rfl rfl fun a E=>qat 30 false E rfl (by kernel_rfl) nP hT rfl rfl fun a E=>qat 31 false E rfl (by kernel_rfl) nP hT rfl rfl fun a E=>qat 32 false E rfl (by kernel_rfl) nP hT rfl rfl fun a E=>kt 33 E rfl hT (qbe rfl rfl) fun a E=>qaM (by kernel_rfl) ?_
  exact ⟨rfl,⟨m0,le_m0,ok,E.keep [1,38]⟩⟩
 have hF:=qdc c9 hF
 refine qdv (r_0.Mod != 0) (fun c10=>?_) (fun c10=>?_)
 rotate_left
 ·as_aux_lemma =>
   have hF:=qdc c10 hF
   refine qdv (decide ((r_0.Spans.length:Int) < 1)) (fun c29=>?_) (fun c29=>?_)
   ·have hF:=qdd c29 hF
    cases hF
    refine qaX [] (Cls u m0 ([(b5,oc 54 [vi r_0.Operand,vi r_0.Mod,vb r_0.Not,c3])] :: [])) (Cls u m0 ([(b5,oc 54 [vi r_0.Operand,vi r_0.Mod,vb r_0.Not,c3])] :: [])) (by kernel_rfl) ?_
    intro w hw
    replace ok:=qa3 ok hw
    clear hw
    have h4_o:=h4
    refine qag (cl1 (cq le_m0 ok [0] rfl) (cq le_m0 ok [0] rfl)) fun hT=>kt 0 E rfl hT (qae qa6 rfl) fun a E=>kt 1 E rfl hT (qai qam rfl (qab.cown 0 rfl rfl)) fun a E=>kt 2 E rfl hT (qaC rfl rfl) fun a E=>kt 3 E rfl hT (qah rfl) fun a E=>?_
    have E:=E.upd 8 c8 rfl
    refine kt 4 E rfl hT (qae qa6 rfl) fun a E=>kt 5 E rfl hT (qai qam rfl (qab.cown 0 rfl rfl)) fun a E=>kt 6 E rfl hT (qcK rfl rfl) fun a E=>kt 7 E rfl hT (qa5 rfl rfl) fun a E=>kt 8 E rfl hT (qah rfl) fun a E=>?_
    have E:=E.upd 13 c9 rfl
    refine kt 9 E rfl hT (qae qej rfl) fun a E=>kt 10 E rfl hT (qai qam rfl (qab.cown 0 rfl rfl)) fun a E=>kt 11 E rfl hT (qd5 rfl rfl) fun a E=>kt 12 E rfl hT (qah rfl) fun a E=>?_
    have E:=E.upd 17 c10 rfl
    refine qat 13 false E rfl (by kernel_rfl) nP hT rfl rfl fun a E=>qat 14 false E rfl (by kernel_rfl) nP hT rfl rfl fun a E=>qat 15 false E rfl (by kernel_rfl) nP hT rfl rfl fun a E=>qat 16 false E rfl (by kernel_rfl) nP hT rfl rfl fun a E=>qat 17 false E rfl (by kernel_rfl) nP hT rfl rfl fun a E=>qat 18 false E rfl (by kernel_rfl) nP hT rfl rfl fun a E=>qat 19 false E rfl (by kernel_rfl) nP hT rfl rfl fun a E=>kt 20 E rfl hT (qa5 rfl rfl) fun a E=>kt 21 E rfl hT (qa5 rfl rfl) fun a E=>kt 22 E rfl hT (qah rfl) fun a E=>kt 23 E rfl hT (qae qbn rfl) fun a E=>kt 24 E rfl hT (qai qca rfl (qab.cown 0 rfl rfl)) fun a E=>kt 25 E rfl hT (qaz qbX h4 rfl) fun a E=>kt 26 E rfl hT (qaC rfl rfl) fun a E=>kt 27 E rfl hT (qa5 rfl rfl) fun a E=>kt 28 E rfl hT (qah rfl) fun a E=>?_
    have E:=E.upd 33 c29 rfl
    refine qat 29 false E rfl (by kernel_rfl) nP hT rfl rfl fun a E=>qat 30 false E rfl (by kernel_rfl) nP hT rfl rfl fun a E=>qat 31 false E rfl (by kernel_rfl) nP hT rfl rfl fun a E=>qat 32 false E rfl (by kernel_rfl) nP hT rfl rfl fun a E=>kt 33 E rfl hT (qbe rfl rfl) fun a E=>qaM (by kernel_rfl) ?_
    exact ⟨rfl,⟨m0,le_m0,ok,E.keep [1,38]⟩⟩
   have hF:=qdc c29 hF
   cases hF
   refine qaX [] (Cls u m0 ([(b5,oc 54 [vi r_0.Operand,vi r_0.Mod,vb r_0.Not,c3])] :: [])) (Cls u m0 ([(b5,oc 54 [vi r_0.Operand,vi r_0.Mod,vb r_0.Not,c3])] :: [])) (by kernel_rfl) ?_
   intro w hw
   replace ok:=qa3 ok hw
   clear hw
   have h4_o:=h4
   refine qag (cl1 (cq le_m0 ok [0] rfl) (cq le_m0 ok [0] rfl)) fun hT=>kt 0 E rfl hT (qae qa6 rfl) fun a E=>kt 1 E rfl hT (qai qam rfl (qab.cown 0 rfl rfl)) fun a E=>kt 2 E rfl hT (qaC rfl rfl) fun a E=>kt 3 E rfl hT (qah rfl) fun a E=>?_
   have E:=E.upd 8 c8 rfl
   refine kt 4 E rfl hT (qae qa6 rfl) fun a E=>kt 5 E rfl hT (qai qam rfl (qab.cown 0 rfl rfl)) fun a E=>kt 6 E rfl hT (qcK rfl rfl) fun a E=>kt 7 E rfl hT (qa5 rfl rfl) fun a E=>kt 8 E rfl hT (qah rfl) fun a E=>?_
   have E:=E.upd 13 c9 rfl
   refine kt 9 E rfl hT (qae qej rfl) fun a E=>kt 10 E rfl hT (qai qam rfl (qab.cown 0 rfl rfl)) fun a E=>kt 11 E rfl hT (qd5 rfl rfl) fun a E=>kt 12 E rfl hT (qah rfl) fun a E=>?_
   have E:=E.upd 17 c10 rfl
   refine qat 13 false E rfl (by kernel_rfl) nP hT rfl rfl fun a E=>qat 14 false E rfl (by kernel_rfl) nP hT rfl rfl fun a E=>qat 15 false E rfl (by kernel_rfl) nP hT rfl rfl fun a E=>qat 16 false E rfl (by kernel_rfl) nP hT rfl rfl fun a E=>qat 17 false E rfl (by kernel_rfl) nP hT rfl rfl fun a E=>qat 18 false E rfl (by kernel_rfl) nP hT rfl rfl fun a E=>qat 19 false E rfl (by kernel_rfl) nP hT rfl rfl fun a E=>kt 20 E rfl hT (qa5 rfl rfl) fun a E=>kt 21 E rfl hT (qa5 rfl rfl) fun a E=>kt 22 E rfl hT (qah rfl) fun a E=>kt 23 E rfl hT (qae qbn rfl) fun a E=>kt 24 E rfl hT (qai qca rfl (qab.cown 0 rfl rfl)) fun a E=>kt 25 E rfl hT (qaz qbX h4 rfl) fun a E=>kt 26 E rfl hT (qaC rfl rfl) fun a E=>kt 27 E rfl hT (qa5 rfl rfl) fun a E=>kt 28 E rfl hT (qah rfl) fun a E=>?_
   have E:=E.upd 33 c29 rfl
   refine kt 29 E rfl hT (qae qbn rfl) fun a E=>kt 30 E rfl hT (qai qca rfl (qab.cown 0 rfl rfl)) fun a E=>kt 31 E rfl hT (qaz qbX h4 rfl) fun a E=>kt 32 E rfl hT (qcK rfl rfl) fun a E=>kt 33 E rfl hT (qa5 rfl rfl) fun a E=>qaM (by kernel_rfl) ?_
   exact ⟨rfl,⟨m0,le_m0,ok,E.keep [1,38]⟩⟩
 have hF:=qdd c10 hF
 obtain ⟨r11,e12,hF⟩:=bnd hF
 refine bd hF fun r16 e17 hF=>qdv (!r16) (fun c18=>?_) (fun c18=>?_)
 ·have hF:=qdd c18 hF
  cases hF
  refine qaX [] (Cls u m0 ([(b5,oc 54 [vi r_0.Operand,vi r_0.Mod,vb r_0.Not,c3])] :: [])) (Cls u m0 ([(b5,oc 54 [vi r_0.Operand,vi r_0.Mod,vb r_0.Not,c3])] :: [])) (by kernel_rfl) ?_
  intro w hw
  replace ok:=qa3 ok hw
  clear hw
  have h4_o:=h4
  refine qag (cl1 (cq le_m0 ok [0] rfl) (cq le_m0 ok [0] rfl)) fun hT=>kt 0 E rfl hT (qae qa6 rfl) fun a E=>kt 1 E rfl hT (qai qam rfl (qab.cown 0 rfl rfl)) fun a E=>kt 2 E rfl hT (qaC rfl rfl) fun a E=>kt 3 E rfl hT (qah rfl) fun a E=>?_
  have E:=E.upd 8 c8 rfl
  refine kt 4 E rfl hT (qae qa6 rfl) fun a E=>kt 5 E rfl hT (qai qam rfl (qab.cown 0 rfl rfl)) fun a E=>kt 6 E rfl hT (qcK rfl rfl) fun a E=>kt 7 E rfl hT (qa5 rfl rfl) fun a E=>kt 8 E rfl hT (qah rfl) fun a E=>?_
  have E:=E.upd 13 c9 rfl
  refine kt 9 E rfl hT (qae qej rfl) fun a E=>kt 10 E rfl hT (qai qam rfl (qab.cown 0 rfl rfl)) fun a E=>kt 11 E rfl hT (qd5 rfl rfl) fun a E=>kt 12 E rfl hT (qah rfl) fun a E=>?_
  have E:=E.upd 17 c10 rfl
  refine kt 13 E rfl hT (qae qa6 rfl) fun a E=>kt 14 E rfl hT (qai qam rfl (qab.cown 0 rfl rfl)) fun a E=>kt 16 E rfl hT (qae qej rfl) fun a E=>kt 17 E rfl hT (qai qam rfl (qab.cown 0 rfl rfl)) fun a E=>qar [15] (by kernel_rfl) rfl (qas ?_)
  ·refine wo rfl<|qao E qn5 rfl (qfI N r_0.Operand r1 e12 ok) rfl rfl ?_
   rintro _ w ⟨m19,c20,rfl,hle,ok,h21⟩
   have le_m0:=le_m0.trans hle
   have h4:=(mL qdL).up hle h4
   refine ⟨_,rfl,fun a E=>?_⟩
   refine wn<|qag (cl1 (cq le_m0 ok [0] rfl) (cq le_m0 ok [0] rfl)) fun hT=>qar [18] (by kernel_rfl) rfl (qas ?_)
   ·refine wo rfl<|lc E qn7 rfl (qfO N _ r11 h21 r_0.Mod r2 e17 ok) fun w ok a E=>wn<|qag (cl1 (cq le_m0 ok [0] rfl) (cq le_m0 ok [0] rfl)) fun hT=>kt 19 E rfl hT (qbW rfl) fun a E=>kt 20 E rfl hT (qbe rfl rfl) fun a E=>kt 21 E rfl hT (qa5 rfl rfl) fun a E=>kt 22 E rfl hT (qah rfl) fun a E=>?_
    have E:=E.upd 27 c18 rfl
    refine qat 23 false E rfl (by kernel_rfl) nP hT rfl rfl fun a E=>qat 24 false E rfl (by kernel_rfl) nP hT rfl rfl fun a E=>qat 25 false E rfl (by kernel_rfl) nP hT rfl rfl fun a E=>qat 26 false E rfl (by kernel_rfl) nP hT rfl rfl fun a E=>kt 27 E rfl hT (qbe rfl rfl) fun a E=>kt 28 E rfl hT (qah rfl) fun a E=>qat 29 false E rfl (by kernel_rfl) nP hT rfl rfl fun a E=>qat 30 false E rfl (by kernel_rfl) nP hT rfl rfl fun a E=>qat 31 false E rfl (by kernel_rfl) nP hT rfl rfl fun a E=>qat 32 false E rfl (by kernel_rfl) nP hT rfl rfl fun a E=>kt 33 E rfl hT (qbe rfl rfl) fun a E=>qaM (by kernel_rfl) ?_
    exact ⟨rfl,⟨m19,le_m0,ok,E.keep [1,38]⟩⟩
 have hF:=qdc c18 hF
 refine qdv (decide ((r_0.Spans.length:Int) < 1)) (fun c22=>?_) (fun c22=>?_)
 ·have hF:=qdd c22 hF
  cases hF
  refine qaX [] (Cls u m0 ([(b5,oc 54 [vi r_0.Operand,vi r_0.Mod,vb r_0.Not,c3])] :: [])) (Cls u m0 ([(b5,oc 54 [vi r_0.Operand,vi r_0.Mod,vb r_0.Not,c3])] :: [])) (by kernel_rfl) ?_
  intro w hw
  replace ok:=qa3 ok hw
  clear hw
  have h4_o:=h4
  refine qag (cl1 (cq le_m0 ok [0] rfl) (cq le_m0 ok [0] rfl)) fun hT=>kt 0 E rfl hT (qae qa6 rfl) fun a E=>kt 1 E rfl hT (qai qam rfl (qab.cown 0 rfl rfl)) fun a E=>kt 2 E rfl hT (qaC rfl rfl) fun a E=>kt 3 E rfl hT (qah rfl) fun a E=>?_
  have E:=E.upd 8 c8 rfl
  refine kt 4 E rfl hT (qae qa6 rfl) fun a E=>kt 5 E rfl hT (qai qam rfl (qab.cown 0 rfl rfl)) fun a E=>kt 6 E rfl hT (qcK rfl rfl) fun a E=>kt 7 E rfl hT (qa5 rfl rfl) fun a E=>kt 8 E rfl hT (qah rfl) fun a E=>?_
  have E:=E.upd 13 c9 rfl
  refine kt 9 E rfl hT (qae qej rfl) fun a E=>kt 10 E rfl hT (qai qam rfl (qab.cown 0 rfl rfl)) fun a E=>kt 11 E rfl hT (qd5 rfl rfl) fun a E=>kt 12 E rfl hT (qah rfl) fun a E=>?_
  have E:=E.upd 17 c10 rfl
  refine kt 13 E rfl hT (qae qa6 rfl) fun a E=>kt 14 E rfl hT (qai qam rfl (qab.cown 0 rfl rfl)) fun a E=>kt 16 E rfl hT (qae qej rfl) fun a E=>kt 17 E rfl hT (qai qam rfl (qab.cown 0 rfl rfl)) fun a E=>qar [15] (by kernel_rfl) rfl (qas ?_)
  ·refine wo rfl<|qao E qn5 rfl (qfI N r_0.Operand r1 e12 ok) rfl rfl ?_
   rintro _ w ⟨m23,c24,rfl,hle,ok,h25⟩
   have le_m0:=le_m0.trans hle
   have h4:=(mL qdL).up hle h4
   refine ⟨_,rfl,fun a E=>?_⟩
   refine wn<|qag (cl1 (cq le_m0 ok [0] rfl) (cq le_m0 ok [0] rfl)) fun hT=>qar [18] (by kernel_rfl) rfl (qas ?_)
   ·refine wo rfl<|lc E qn7 rfl (qfO N _ r11 h25 r_0.Mod r2 e17 ok) fun w ok a E=>wn<|qag (cl1 (cq le_m0 ok [0] rfl) (cq le_m0 ok [0] rfl)) fun hT=>kt 19 E rfl hT (qbW rfl) fun a E=>kt 20 E rfl hT (qbe rfl rfl) fun a E=>kt 21 E rfl hT (qa5 rfl rfl) fun a E=>kt 22 E rfl hT (qah rfl) fun a E=>?_
    have E:=E.upd 27 c18 rfl
    refine kt 23 E rfl hT (qae qbn rfl) fun a E=>kt 24 E rfl hT (qai qca rfl (qab.cown 0 rfl rfl)) fun a E=>kt 25 E rfl hT (qaz qbX h4 rfl) fun a E=>kt 26 E rfl hT (qaC rfl rfl) fun a E=>kt 27 E rfl hT (qa5 rfl rfl) fun a E=>kt 28 E rfl hT (qah rfl) fun a E=>?_
    have E:=E.upd 33 c22 rfl
    refine qat 29 false E rfl (by kernel_rfl) nP hT rfl rfl fun a E=>qat 30 false E rfl (by kernel_rfl) nP hT rfl rfl fun a E=>qat 31 false E rfl (by kernel_rfl) nP hT rfl rfl fun a E=>qat 32 false E rfl (by kernel_rfl) nP hT rfl rfl fun a E=>kt 33 E rfl hT (qbe rfl rfl) fun a E=>qaM (by kernel_rfl) ?_
    exact ⟨rfl,⟨m23,le_m0,ok,E.keep [1,38]⟩⟩
 have hF:=qdc c22 hF
 cases hF
 refine qaX [] (Cls u m0 ([(b5,oc 54 [vi r_0.Operand,vi r_0.Mod,vb r_0.Not,c3])] :: [])) (Cls u m0 ([(b5,oc 54 [vi r_0.Operand,vi r_0.Mod,vb r_0.Not,c3])] :: [])) (by kernel_rfl) ?_
 intro w hw
 replace ok:=qa3 ok hw
 clear hw
 have h4_o:=h4
 refine qag (cl1 (cq le_m0 ok [0] rfl) (cq le_m0 ok [0] rfl)) fun hT=>kt 0 E rfl hT (qae qa6 rfl) fun a E=>kt 1 E rfl hT (qai qam rfl (qab.cown 0 rfl rfl)) fun a E=>kt 2 E rfl hT (qaC rfl rfl) fun a E=>kt 3 E rfl hT (qah rfl) fun a E=>?_
 have E:=E.upd 8 c8 rfl
 refine kt 4 E rfl hT (qae qa6 rfl) fun a E=>kt 5 E rfl hT (qai qam rfl (qab.cown 0 rfl rfl)) fun a E=>kt 6 E rfl hT (qcK rfl rfl) fun a E=>kt 7 E rfl hT (qa5 rfl rfl) fun a E=>kt 8 E rfl hT (qah rfl) fun a E=>?_
 have E:=E.upd 13 c9 rfl
 refine kt 9 E rfl hT (qae qej rfl) fun a E=>kt 10 E rfl hT (qai qam rfl (qab.cown 0 rfl rfl)) fun a E=>kt 11 E rfl hT (qd5 rfl rfl) fun a E=>kt 12 E rfl hT (qah rfl) fun a E=>?_
 have E:=E.upd 17 c10 rfl
 refine kt 13 E rfl hT (qae qa6 rfl) fun a E=>kt 14 E rfl hT (qai qam rfl (qab.cown 0 rfl rfl)) fun a E=>kt 16 E rfl hT (qae qej rfl) fun a E=>kt 17 E rfl hT (qai qam rfl (qab.cown 0 rfl rfl)) fun a E=>qar [15] (by kernel_rfl) rfl (qas ?_)
 ·refine wo rfl<|qao E qn5 rfl (qfI N r_0.Operand r1 e12 ok) rfl rfl ?_
  rintro _ w ⟨m26,c27,rfl,hle,ok,h28⟩
  have le_m0:=le_m0.trans hle
  have h4:=(mL qdL).up hle h4
  refine ⟨_,rfl,fun a E=>?_⟩
  refine wn<|qag (cl1 (cq le_m0 ok [0] rfl) (cq le_m0 ok [0] rfl)) fun hT=>qar [18] (by kernel_rfl) rfl (qas ?_)
  ·refine wo rfl<|lc E qn7 rfl (qfO N _ r11 h28 r_0.Mod r2 e17 ok) fun w ok a E=>wn<|qag (cl1 (cq le_m0 ok [0] rfl) (cq le_m0 ok [0] rfl)) fun hT=>kt 19 E rfl hT (qbW rfl) fun a E=>kt 20 E rfl hT (qbe rfl rfl) fun a E=>kt 21 E rfl hT (qa5 rfl rfl) fun a E=>kt 22 E rfl hT (qah rfl) fun a E=>?_
   have E:=E.upd 27 c18 rfl
   refine kt 23 E rfl hT (qae qbn rfl) fun a E=>kt 24 E rfl hT (qai qca rfl (qab.cown 0 rfl rfl)) fun a E=>kt 25 E rfl hT (qaz qbX h4 rfl) fun a E=>kt 26 E rfl hT (qaC rfl rfl) fun a E=>kt 27 E rfl hT (qa5 rfl rfl) fun a E=>kt 28 E rfl hT (qah rfl) fun a E=>?_
   have E:=E.upd 33 c22 rfl
   refine kt 29 E rfl hT (qae qbn rfl) fun a E=>kt 30 E rfl hT (qai qca rfl (qab.cown 0 rfl rfl)) fun a E=>kt 31 E rfl hT (qaz qbX h4 rfl) fun a E=>kt 32 E rfl hT (qcK rfl rfl) fun a E=>kt 33 E rfl hT (qa5 rfl rfl) fun a E=>qaM (by kernel_rfl) ?_
   exact ⟨rfl,⟨m26,le_m0,ok,E.keep [1,38]⟩⟩
def qgn (u:World) (m0:Mem) (S:Segs) (r:Bool) (a:Act) (w:World):Prop :=
 Ok u m0 S w ∧ a.defers = [] ∧ RVs Tryd.prog a w [.t 2 (.bool r)]
theorem qkG (N:Nat) (vc_0:Value) (c_0:List (List (Relation))) (hc_0:(pL 1 (pL 4 qan)) m0 [vc_0] c_0) {r:Bool} (hF:qeU N c_0 = some r) (ok:Ok u m0 S w) :
  Calls Tryd.prog 16 [vc_0].toArray w fun e w'=>(e = .returned (.bool r) ∧ Ok u m0 S w'):=by
 unfold qeU at hF
 refine en (qgn u m0 S) r Tryd.func16 rfl rfl rfl (fun _ _ h=>ra h rfl) fun fin a E=>sg<|aw E rfl fun a E=>sg<|aw E rfl fun a E=>wp_seq<|sg<|av E rfl fun a E=>wn<|wp_block<|bd hF fun o3 hL hF=>qaH _ (fun (s:Int × Int) a w=>Ok u m0 (S) w ∧ Env 45 a [(0,vc_0),(3,vi s.1),(4,vi s.2)] ∧ InR .i64 s.1 ∧ InR .i64 s.2) (fun (b:(Int ⊕ Bool)) e a w=>(Sum.elim (fun b77=>e = (.exit 0) ∧ Ok u m0 (S) w ∧ Env 45 a [(0,vc_0),(3,vi b77)] ∧ InR .i64 b77) (fun b79=>e = .ret ∧ qgn u m0 S b79 a w)) b) ?_ ?_ N _ a w hL ⟨ok,E.keep [0,3,4],(ir 0),(ir 0)⟩
 rotate_left
 ·intro e a w _ hO
  rcases o3 with o3 | o3
  rotate_left
  ·obtain ⟨rfl,hret⟩:=hO
   refine qaI<|qav ?_
   exact fin hF hret
  have hF:=qcN hF
  obtain ⟨rfl,ok,E,r75⟩:=hO
  refine qaN<|qaa<|sg<|mv E rfl fun a E=>lv E ok (qaz qdq hc_0 rfl) fun a E=>lw E (qcK rfl rfl) fun a E=>mv E rfl fun a E=>bu E 41 hF (fun c76 hF E=>?_) fun c76 hF E=>?_
  ·refine mv E rfl fun a E=>lw E (qhF rfl rfl) fun a E=>pt E rfl rfl fun a E=>aw E rfl fun a E=>wp_ret ?_
   exact fin hF ⟨ok,E.d,rz E rfl⟩
  refine lsq E fun a E=>pf E rfl rfl fun a E=>aw E rfl fun a E=>wp_ret ?_
  exact fin hF ⟨ok,E.d,rz E rfl⟩
 rintro ⟨v6,v7⟩ a w r ⟨ok,E,r8,r9⟩ hF
 replace hF:qcf N c_0 v6 v7 = some r:=hF
 unfold qcf at hF
 refine wp_seq<|sg<|mz E rfl rfl fun a E=>lv E ok (qaz qdq hc_0 rfl) fun a E=>lw E (qaC rfl rfl) fun a E=>wn<|cg E rfl hF (fun c10 hF=>?_) fun c10 hF=>?_
 ·refine wp_exit<|qaE ?_
  cases hF
  exact so (sl ⟨rfl,⟨ok,E.keep [0,3],r8⟩⟩)
 refine wp_skip<|qaa<|wp_seq<|wp_block<|wp_seq<|sg<|mv E rfl fun a E=>mv E rfl fun a E=>?_
 obtain ⟨x11,e12,hF⟩:=bnd hF
 obtain ⟨b13,o14,es15,hl16,rr17,at18,yy19⟩:=ia E 12 13 qdq hc_0 e12
 obtain ⟨c20,rfl,h21⟩:=qbG rr17
 refine lv E ok (yy19 _ _) fun a E=>lv E ok (qai qdJ rfl (qab.ro at18)) fun a E=>lv E ok (qaz qbr h21 rfl) fun a E=>lw E (qax rfl rfl) fun a E=>wn<|cf E rfl hF (fun c22 hF=>?_) fun c22 hF=>?_
 ·refine sg<|aw E rfl fun a E=>wp_ret<|qav<|qaI<|qav ?_
  cases hF
  exact so (sr ⟨rfl,⟨ok,E.d,rz E rfl⟩⟩)
 refine wp_skip<|qaa<|sg<|aw E rfl fun a E=>wp_block<|bd hF fun o25 hL hF=>qaH _ (fun (s:Int × Int) a w=>Ok u m0 (S) w ∧ Env 45 a [(0,vc_0),(3,vi s.1),(4,vi v7),(5,vi s.2)] ∧ InR .i64 s.1 ∧ InR .i64 s.2) (fun (b:(Int ⊕ Bool)) e a w=>(Sum.elim (fun b72=>e = (.exit 2) ∧ Ok u m0 (S) w ∧ Env 45 a [(0,vc_0),(3,vi b72),(4,vi v7)] ∧ InR .i64 b72) (fun b74=>e = .ret ∧ qgn u m0 S b74 a w)) b) ?_ ?_ N _ a w hL ⟨ok,E.keep [0,3,4,5],r8,(ir 0)⟩
 rotate_left
 ·intro e a w _ hO
  rcases o25 with o25 | o25
  rotate_left
  ·have hF:=qmB hF
   obtain ⟨rfl,hret⟩:=hO
   refine qaI<|qaI<|qav ?_
   cases hF
   exact so (sr ⟨rfl,hret⟩)
  have hF:=qcN hF
  obtain ⟨rfl,ok,E,r71⟩:=hO
  refine qaN<|qap<|qaa<|qac<|mv E rfl fun a E=>lw E (qaA rfl rfl (InR.inc r9 (qal hc_0) c10)) fun a E=>av E rfl fun a E=>wpList_nil ?_
  cases hF
  exact qau ⟨ok,E.keep [0,3,4],r71,(InR.inc r9 (qal hc_0) c10)⟩
 rintro ⟨v28,v29⟩ a w r ⟨ok,E,r30,r31⟩ hF
 replace hF:qb1 N c_0 v7 v28 v29 = some r:=hF
 unfold qb1 at hF
 refine wp_seq<|sg<|mz E rfl rfl fun a E=>mv E rfl fun a E=>?_
 obtain ⟨x32,e33,hF⟩:=bnd hF
 obtain ⟨b34,o35,es36,hl37,rr38,at39,yy40⟩:=ia E 19 20 qdq hc_0 e33
 obtain ⟨c41,rfl,h42⟩:=qbG rr38
 refine lv E ok (yy40 _ _) fun a E=>lv E ok (qai qdJ rfl (qab.ro at39)) fun a E=>lv E ok (qaz qbr h42 rfl) fun a E=>lw E (qaC rfl rfl) fun a E=>wn<|cg E rfl hF (fun c43 hF=>?_) fun c43 hF=>?_
 ·refine wp_exit<|qaE ?_
  cases hF
  exact so (sl ⟨rfl,⟨ok,E.keep [0,3,4],r30⟩⟩)
 refine wp_skip<|qaa<|wp_seq<|wp_block<|sg<|mv E rfl fun a E=>lw E (qcg rfl rfl) fun a E=>aw E rfl fun a E=>sg<|mz E rfl rfl fun a E=>?_
 obtain ⟨x44,e45,hF⟩:=bnd hF
 obtain ⟨b46,o47,es48,hl49,rr50,at51,yy52⟩:=ia E 29 30 qdq hc_0 e45
 obtain ⟨c53,rfl,h54⟩:=qbG rr50
 refine lv E ok (yy52 _ _) fun a E=>lv E ok (qai qdJ rfl (qab.ro at51)) fun a E=>mv E rfl fun a E=>?_
 obtain ⟨x55,e56,hF⟩:=bnd hF
 obtain ⟨b57,o58,es59,hl60,rr61,at62,yy63⟩:=ia E 32 33 qbr h54 e56
 obtain ⟨c66,rfl,r64,r65,h67⟩:=rr61
 refine lv E ok (yy63 _ _) fun a E=>lv E ok (qaj (cs:=[vi x55.Operand,vi x55.Mod,vb x55.Not,c66]) qbK rfl rfl (qab.ro at62)) fun a E=>bd hF fun r68 e69 hF=>lc E quh rfl (qj2 N _ x55 ⟨_,rfl,r64,r65,h67⟩ e69 ok) fun w ok a E=>lw E (qbW rfl) fun a E=>wn<|cg E rfl hF (fun c70 hF=>?_) fun c70 hF=>?_
 ·refine wp_skip<|qap<|qaa<|qac<|mv E rfl fun a E=>lw E (qaA rfl rfl (InR.inc r31 (qal h42) c43)) fun a E=>av E rfl fun a E=>wpList_nil ?_
  cases hF
  exact qau ⟨ok,E.keep [0,3,4,5],(InR.wrap _ _),(InR.inc r31 (qal h42) c43)⟩
 refine sg<|aw E rfl fun a E=>wp_ret<|qaI<|qav ?_
 cases hF
 exact so (sr ⟨rfl,⟨ok,E.d,rz E rfl⟩⟩)
end Go.Proofs.YtidfofhmnlhfjaaDoor
