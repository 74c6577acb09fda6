/- Texts of this proof, put together by pack.py: what its declarations name. -/
import Derived.Test.YtmghnmfefpeelaaGreatDoorPkVc2
import Derived.Test.YtmghnmfefpeelaaGreatDoorCards
import Derived.Test.YtmghnmfefpeelaaGreatDoorChecked
import Derived.Test.YtmghnmfefpeelaaGreatDoorProg
import Derived.Test.YtmghnmfefpeelaaGreatDoorRows
import Derived.Test.YtmghnmfefpeelaaGreatDoorTie
set_option linter.unusedVariables false
set_option linter.unusedSimpArgs false
namespace Go.Proofs.YtmghnmfefpeelaaGreatDoor
open Go.X
variable {u:World} {m0:Mem} {S:Segs} {w:World}
set_option maxHeartbeats 4000000
set_option maxRecDepth 100000
def pIns:Rp Ins:=fun _ cs x=>cs = [.int .i64 x.Op,.int .i64 x.A,.int .i64 x.B,.string (bs x.S)] ∧ InR .i64 x.Op ∧ InR .i64 x.A ∧ InR .i64 x.B ∧ x.S.length ≤ LIMS
theorem mIns:Mono pIns:=⟨fun _ h=>by
 obtain ⟨e,h0,h1,h2,h3⟩:=h
 exact ⟨e,h0,h1,h2,h3⟩,fun h=>by
 obtain ⟨rfl,h0,h1,h2,h3⟩:=h
 exact ⟨rfl,rfl,rfl,rfl,trivial⟩⟩
def qgF:Rp Code:=fun m cs x=>∃ c0 c1,cs = [c0,c1] ∧ (pL 1 pS) m [c0] x.Names ∧ (pL 4 pIns) m [c1] x.Ins
theorem qd5:aggB Tryz.prog 28 2 = true:=by kernel_rfl
theorem qiW:aggB Tryz.prog 38 4 = true:=by kernel_rfl
theorem qqz:ArT Tryz.prog 84 3 7 1:=ArT.of (by kernel_rfl)
theorem qgQ:qaI Tryz.prog 28 0 0 = true:=by kernel_rfl
theorem qbF:qaI Tryz.prog 28 1 1 = true:=by kernel_rfl
theorem qef:qaI Tryz.prog 38 1 1 = true:=by kernel_rfl
theorem qd0:qaI Tryz.prog 43 0 0 = true:=by kernel_rfl
theorem qrf:goB Tryz.prog 14 = true:=by kernel_rfl
theorem qlx:goB Tryz.prog 15 = true:=by kernel_rfl
theorem qfb:goB Tryz.prog 16 = true:=by kernel_rfl
theorem qlE:goB Tryz.prog 27 = true:=by kernel_rfl
theorem qpt:goB Tryz.prog 29 = true:=by kernel_rfl
theorem qpr:goB Tryz.prog 30 = true:=by kernel_rfl
theorem qpo:goB Tryz.prog 45 = true:=by kernel_rfl
theorem qqJ:∃ i,Tryz.prog.info? 25 = some i ∧ i.size = 1:=⟨_,rfl,by kernel_rfl⟩
theorem qqT:∃ i,Tryz.prog.info? 26 = some i ∧ i.size = 1:=⟨_,rfl,by kernel_rfl⟩
theorem qlM:∃ i,Tryz.prog.info? 28 = some i ∧ i.size = 2:=⟨_,rfl,by kernel_rfl⟩
theorem qj9:∃ i,Tryz.prog.info? 3 = some i ∧ i.size = 1:=⟨_,rfl,by kernel_rfl⟩
theorem qi0:oneB Tryz.prog 25 = true:=by kernel_rfl
theorem qbO:oneB Tryz.prog 26 = true:=by kernel_rfl
theorem qgq:qeh Tryz.prog 28 = some [(0,1),(1,1)]:=by kernel_rfl
theorem qbG:qeh Tryz.prog 38 = some [(0,1),(1,1),(2,1),(3,1)]:=by kernel_rfl
theorem qn7:qeh Tryz.prog 43 = some [(0,2)]:=by kernel_rfl
theorem qbx:SlT Tryz.prog 25 9 1:=SlT.of (by kernel_rfl)
theorem qbp:SlT Tryz.prog 26 38 4:=SlT.of (by kernel_rfl)
theorem qlH:SlT Tryz.prog 83 3 1:=SlT.of (by kernel_rfl)
theorem qf3:qcn Tryz.prog 28 = some [(Value.slice none 0 0),(Value.slice none 0 0)]:=by kernel_rfl
theorem qnN:qcn Tryz.prog 3 = some [vi 0]:=by kernel_rfl
theorem qbl:qcn Tryz.prog 38 = some [vi 0,vi 0,vi 0,(vs ([]))]:=by kernel_rfl
theorem qpF:qcn Tryz.prog 43 = some [(Value.slice none 0 0),(Value.slice none 0 0)]:=by kernel_rfl
theorem qpV:qcn Tryz.prog 84 = some [vi 0,vi 0,vi 0,vi 0,vi 0,vi 0,vi 0]:=by kernel_rfl
theorem qb0:qcn Tryz.prog 9 = some [(vs ([]))]:=by kernel_rfl
def qhE (u:World) (m0:Mem) (S:Segs) (pb0:Nat) (x0:Compiler) (c5:Value) (M6:List (Nat × Obj)) (c8:Value) (M9:List (Nat × Obj)) (r:Int × Compiler) (a:Act) (w:World):Prop :=
 ∃ m1 c11 M12 c14 M15,m0.le m1 ∧ Ok u m1 ([(pb0,oc 43 [c11,c14])] :: M12 :: M15 :: S) w ∧ a.defers = [] ∧ RVs Tryz.prog a w [.t 4 (.int .i64 r.1)] ∧ InR .i64 r.1 ∧ ORow 9 1 pS m1 c11 r.2.Code.Names M12 ∧ ORow 38 4 pIns m1 c14 r.2.Code.Ins M15
theorem qaQ (N:Nat) (vx_1:List Value) (x_1:Ins) (hx_1:pIns m0 vx_1 x_1) {pb0:Nat} {c5:Value} {M6:List (Nat × Obj)} {c8:Value} {M9:List (Nat × Obj)} (x0:Compiler) (h7:ORow 9 1 pS m0 c5 x0.Code.Names M6) (h10:ORow 38 4 pIns m0 c8 x0.Code.Ins M9) {r:Int × Compiler} (hF:qaD N x_1 x0 = some r) (hG:Glob u) (ok:Ok u m0 ([(pb0,oc 43 [c5,c8])] :: M6 :: M9 :: S) w) :
  Calls Tryz.prog 16 [vp pb0,.agg vx_1.toArray].toArray w fun e w'=>∃ m1 c11 M12 c14 M15,e = .returned (.int .i64 r.1) ∧ m0.le m1 ∧ Ok u m1 ([(pb0,oc 43 [c11,c14])] :: M12 :: M15 :: S) w' ∧ InR .i64 r.1 ∧ ORow 9 1 pS m1 c11 r.2.Code.Names M12 ∧ ORow 38 4 pIns m1 c14 r.2.Code.Ins M15:=by
 obtain ⟨rfl,r1,r2,r3,l4⟩:=hx_1
 have le_m0:=Mem.le.refl m0
 unfold qaD at hF
 refine en (qhE u m0 S pb0 x0 c5 M6 c8 M9) r Tryz.func16 rfl rfl rfl (by rintro a w ⟨m1,c11,M12,c14,M15,hle,ok,hd,hrv,h0,h1,h2⟩; exact qcw [.t 4 (.int .i64 r.1)] hd rfl hrv ⟨m1,c11,M12,c14,M15,rfl,hle,ok,h0,h1,h2⟩) fun fin a E=>sg<|qdf E ok rfl rfl rfl fun b17 a w E ok=>aw E rfl fun a E=>wp_seq<|bd hF fun o18 hJ hF=>qaK (Q':=fun e a w=>e = .normal ∧ ∃ c19 M20 c22 M23,Ok u m0 ([(b17,oc 38 [vi x_1.Op,vi x_1.A,vi x_1.B,vs x_1.S])] :: [(pb0,oc 43 [c19,c22])] :: M20 :: M23 :: S) w ∧ Env 24 a [(0,vp pb0)] ∧ ORow 9 1 pS m0 c19 o18.Code.Names M20 ∧ ORow 38 4 pIns m0 c22 o18.Code.Ins M23) ?_ ?_
 rotate_left
 ·intro e a w hO
  obtain ⟨rfl,c39,M40,c42,M43,ok,E,h41,h44⟩:=hO
  refine qaa<|sg<|mv E rfl fun a E=>lw E (qaE rfl) fun a E=>fv E qd0 rfl fun a E=>fk E ok qbF qbO rfl 1 rfl rfl fun a E=>lv E ok (qgh qbp h44 rfl) fun a E=>lw E (qh0 rfl rfl) fun a E=>aw E rfl fun a E=>wp_ret ?_
  exact fin hF ⟨m0,c39,M40,c42,M43,le_m0,ok.drop,E.d,rz E rfl,(InR.wrap _ _),h41,h44⟩
 have hF:=hJ
 obtain ⟨l28,e29,hF⟩:=bnd hF
 obtain rfl:=sj hF
 refine qbT [5,6] (Cls u m0 ([(b17,oc 38 [vi x_1.Op,vi x_1.A,vi x_1.B,vs x_1.S])] :: [(pb0,oc 43 [c5,c8])] :: M6 :: [])) (Cls u m0 ([(b17,oc 38 [vi x_1.Op,vi x_1.A,vi x_1.B,vs x_1.S])] :: M6 :: [])) (by kernel_rfl) ?_
 intro w hw
 replace ok:=qck ok hw
 clear hw
 refine qan (cl1 (cq le_m0 ok [0,1,2] rfl) (cq le_m0 ok [0,2] rfl)) fun hT=>kt 0 E rfl hT (qal rfl) fun a E=>kt 1 E rfl hT (qal rfl) fun a E=>kt 2 E rfl hT (qaE rfl) fun a E=>kt 3 E rfl hT (qad qd0 rfl) fun a E=>kt 4 E rfl hT (qad qbF rfl) fun a E=>qca 5 E rfl (by kernel_rfl) nP hT (qak qbO rfl (qac.cown 1 rfl rfl)) rfl rfl fun a E=>qca 6 E rfl (by kernel_rfl) nP hT (qaj (cs:=[vi x_1.Op,vi x_1.A,vi x_1.B,vs x_1.S]) qiW rfl rfl (qac.cown 0 rfl rfl)) rfl rfl fun a E=>qaC [7] (by kernel_rfl) rfl (qaH ?_)
 ·refine wo rfl<|qcy (R:=pIns) (xo:=[.tmp 11]) (xs:=([x_1]:List (Ins))) E ok qbp qbl rfl ⟨⟨_,rfl,rfl,⟨rfl,r1,r2,r3,l4⟩⟩,trivial⟩ rfl rfl rfl rfl fun c33 M34 a w E ok h35=>wn<|qan (cl1 (cq le_m0 ok [1,2,3] rfl) (cq le_m0 ok [1,3] rfl)) fun hT=>qaC [8] (by kernel_rfl) rfl (qaH ?_)
  ·refine wo rfl<|qec (R:=pIns) E ok 4 mIns qbp Tryz.underlying26 rfl h10 (qb5.ofRow h35 0 rfl ok) e29 ⟨_,qbl,rfl⟩ rfl rfl rfl rfl fun c36 M37 a w E ok h38=>wn<|qan (cl1 (cq le_m0 ok [1,2,3] rfl) (cq le_m0 ok [1,3] rfl)) fun hT=>kt 9 E rfl hT (qaE rfl) fun a E=>kt 10 E rfl hT (qad qd0 rfl) fun a E=>kt 11 E rfl hT (qad qbF rfl) fun a E=>qaC [12] (by kernel_rfl) rfl (qaH ?_)
   ·refine wo rfl<|qai E ok 2 rfl rfl rfl qqT (ORow.cells h38) rfl ⟨(ORow.one h38),trivial⟩ rfl rfl fun w ok=>wn<|qan (cl2 (by kernel_rfl) (cq le_m0 ok [1,3] rfl)) fun hT=>qbq (by kernel_rfl) ?_
    exact ⟨rfl,⟨c5,M6,c36,M37,(ok.pk 5 [1,2,3,4] rfl (by decide)),E.keep [0],h7,h38⟩⟩
def qeJ (u:World) (m0:Mem) (S:Segs) (r:Int) (a:Act) (w:World):Prop :=
 Ok u m0 S w ∧ a.defers = [] ∧ RVs Tryz.prog a w [.t 4 (.int .i64 r)] ∧ InR .i64 r
theorem qeA (N:Nat) (vs_0:Value) (s_0:List (List UInt8)) (hs_0:(pL 1 pS) m0 [vs_0] s_0) (v_1:List UInt8) (lv_1:v_1.length ≤ LIMS) {r:Int} (hF:qbo N s_0 v_1 = some r) (hG:Glob u) (ok:Ok u m0 S w) :
  Calls Tryz.prog 45 [vs_0,vs v_1].toArray w fun e w'=>(e = .returned (.int .i64 r) ∧ Ok u m0 S w') ∧ InR .i64 r:=by
 unfold qbo at hF
 refine en (qeJ u m0 S) r Tryz.func45 rfl rfl rfl (fun _ _ h=>rb h rfl) fun fin a E=>sg<|aw E rfl fun a E=>wp_seq<|sg<|mv E rfl fun a E=>lv E ok (qax qbx hs_0 rfl) fun a E=>mv E rfl fun a E=>wn<|wp_block<|bd hF fun o2 hL hF=>qaX _ (fun (s:Int) a w=>Ok u m0 (S) w ∧ Env 19 a [(0,vs_0),(1,vs v_1),(7,(vi (s_0.length:Int))),(8,vi s)] ∧ InR .i64 s) (fun (b:(Unit ⊕ Int)) e a w=>(Sum.elim (fun b18=>e = (.exit 0) ∧ Ok u m0 (S) w ∧ Env 19 a []) (fun b19=>e = .ret ∧ qeJ u m0 S b19 a w)) b) ?_ ?_ N _ a w hL ⟨ok,E.keep [0,1,7,8],(ir 0)⟩
 rotate_left
 ·intro e a w _ hO
  rcases o2 with o2 | o2
  rotate_left
  ·obtain ⟨rfl,hret⟩:=hO
   refine qam<|qaf ?_
   exact fin hF hret
  have hF:=qcl hF
  obtain ⟨rfl,ok,E⟩:=hO
  refine qba<|qaa<|sg<|aw E rfl fun a E=>wp_ret ?_
  exact fin hF ⟨ok,E.d,rz E rfl,(ir (-1))⟩
 rintro v4 a w r ⟨ok,E,r5⟩ hF
 replace hF:qa1 N s_0 v_1 v4 = some r:=hF
 unfold qa1 at hF
 refine sg<|lw E (qaJ rfl rfl) fun a E=>wn<|wp_seq<|cg E rfl hF (fun c6 hF=>?_) fun c6 hF=>?_
 ·refine wp_exit<|qaO ?_
  cases hF
  exact so (sl ⟨rfl,⟨ok,E.keep []⟩⟩)
 refine wp_skip<|qaa<|wp_seq<|wp_block<|sg<|mv E rfl fun a E=>av E rfl fun a E=>wn<|sg<|mz E rfl rfl fun a E=>mv E rfl fun a E=>?_
 obtain ⟨x7,e8,hF⟩:=bnd hF
 obtain ⟨b9,o10,es11,hl12,rr13,at14,yy15⟩:=ia E 12 13 qbx hs_0 e8
 obtain ⟨rfl,l16⟩:=rr13
 refine lv E ok (yy15 _ _) fun a E=>lv E ok (qak qah rfl (qac.ro at14)) fun a E=>lw E (qbf rfl rfl) fun a E=>wn<|cg E rfl hF (fun c17 hF=>?_) fun c17 hF=>?_
 ·refine wp_skip<|qag<|qaa<|qab<|lw E (qau rfl rfl (InR.inc r5 (qae hs_0) c6)) fun a E=>mv E rfl fun a E=>wpList_nil ?_
  cases hF
  exact qap ⟨ok,E.keep [0,1,7,8],(InR.inc r5 (qae hs_0) c6)⟩
 refine sg<|mv E rfl fun a E=>aw E rfl fun a E=>wp_ret<|qam<|qaf ?_
 cases hF
 exact so (sr ⟨rfl,⟨ok,E.d,rz E rfl,r5⟩⟩)
def qhe (u:World) (m0:Mem) (S:Segs) (pb0:Nat) (x0:Compiler) (c1:Value) (M2:List (Nat × Obj)) (c4:Value) (M5:List (Nat × Obj)) (r:Int × Compiler) (a:Act) (w:World):Prop :=
 ∃ m1 c7 M8 c10 M11,m0.le m1 ∧ Ok u m1 ([(pb0,oc 43 [c7,c10])] :: M8 :: M11 :: S) w ∧ a.defers = [] ∧ RVs Tryz.prog a w [.t 4 (.int .i64 r.1)] ∧ InR .i64 r.1 ∧ ORow 9 1 pS m1 c7 r.2.Code.Names M8 ∧ ORow 38 4 pIns m1 c10 r.2.Code.Ins M11
theorem qdn (N:Nat) (s_1:List UInt8) (ls_1:s_1.length ≤ LIMS) {pb0:Nat} {c1:Value} {M2:List (Nat × Obj)} {c4:Value} {M5:List (Nat × Obj)} (x0:Compiler) (h3:ORow 9 1 pS m0 c1 x0.Code.Names M2) (h6:ORow 38 4 pIns m0 c4 x0.Code.Ins M5) {r:Int × Compiler} (hF:qbE N s_1 x0 = some r) (hG:Glob u) (ok:Ok u m0 ([(pb0,oc 43 [c1,c4])] :: M2 :: M5 :: S) w) :
  Calls Tryz.prog 27 [vp pb0,vs s_1].toArray w fun e w'=>∃ m1 c7 M8 c10 M11,e = .returned (.int .i64 r.1) ∧ m0.le m1 ∧ Ok u m1 ([(pb0,oc 43 [c7,c10])] :: M8 :: M11 :: S) w' ∧ InR .i64 r.1 ∧ ORow 9 1 pS m1 c7 r.2.Code.Names M8 ∧ ORow 38 4 pIns m1 c10 r.2.Code.Ins M11:=by
 have le_m0:=Mem.le.refl m0
 unfold qbE at hF
 refine en (qhe u m0 S pb0 x0 c1 M2 c4 M5) r Tryz.func27 rfl rfl rfl (by rintro a w ⟨m1,c7,M8,c10,M11,hle,ok,hd,hrv,h0,h1,h2⟩; exact qcw [.t 4 (.int .i64 r.1)] hd rfl hrv ⟨m1,c7,M8,c10,M11,rfl,hle,ok,h0,h1,h2⟩) fun fin a E=>sg<|aw E rfl fun a E=>sg<|mv E rfl fun a E=>lw E (qaE rfl) fun a E=>fv E qd0 rfl fun a E=>fk E ok qgQ qi0 rfl 0 rfl rfl fun a E=>mv E rfl fun a E=>?_
 obtain ⟨r18,e19,hF⟩:=bnd hF
 obtain ⟨m13,hle15,ok14,hfz16⟩:=(ok.frs 1 rfl).freeze
 have h17:=ORow.froz mS h3 hle15 hfz16 (by decide)
 refine qas E qpo rfl (qeA N _ x0.Code.Names h17 s_1 ls_1 e19 hG ok14) rfl rfl ?_
 rintro _ w ⟨⟨rfl,okz⟩,r20⟩
 replace ok:=(Ok.thawAt 1 rfl ok hle15 hfz16 okz)
 refine ⟨_,rfl,fun a E=>?_⟩
 refine aw E rfl fun a E=>wp_seq<|sg<|mv E rfl fun a E=>lw E (qaJ rfl rfl) fun a E=>wn<|cg E rfl hF (fun c21 hF=>?_) fun c21 hF=>?_
 ·refine wp_skip<|qaa<|sg<|mv E rfl fun a E=>aw E rfl fun a E=>wp_ret ?_
  exact fin hF ⟨m0,c1,M2,c4,M5,le_m0,ok,E.d,rz E rfl,r20,h3,h6⟩
 refine sg<|mv E rfl fun a E=>lw E (qaE rfl) fun a E=>fv E qd0 rfl fun a E=>fk E ok qgQ qi0 rfl 0 rfl rfl fun a E=>lv E ok (qgh qbx h3 rfl) fun a E=>aw E rfl fun a E=>qab<|mz E rfl rfl fun a E=>lw E (qaE rfl) fun a E=>fv E qd0 rfl fun a E=>fk E ok qgQ qi0 rfl 0 rfl rfl fun a E=>mv E rfl fun a E=>qcy (R:=pS) (xo:=[.tmp 27]) (xs:=([s_1]:List (List UInt8))) E ok qbx qb0 rfl ⟨⟨_,rfl,rfl,(qc9 ls_1)⟩,trivial⟩ rfl rfl rfl rfl fun c22 M23 a w E ok h24=>?_
 refine bd hF fun l25 e26 hF=>qec (R:=pS) E ok 2 mS qbx Tryz.underlying25 rfl h3 (qb5.ofRow h24 0 rfl ok) e26 ⟨_,qb0,rfl⟩ rfl rfl rfl rfl fun c27 M28 a w E ok h29=>lw E (qaE rfl) fun a E=>fv E qd0 rfl fun a E=>fv E qgQ rfl fun a E=>qai E ok 1 rfl rfl rfl qqJ (ORow.cells h29) rfl ⟨(ORow.one h29),trivial⟩ rfl rfl fun w ok=>wn<|sg<|mv E rfl fun a E=>aw E rfl fun a E=>wp_ret ?_
 exact fin hF ⟨m0,c27,M28,c4,M5,le_m0,ok.drop,E.d,rz E rfl,(ORow.InR h3),h29,h6⟩
def qiM (u:World) (m0:Mem) (S:Segs) (r:Int) (a:Act) (w:World):Prop :=
 Ok u m0 S w ∧ a.defers = [] ∧ RVs Tryz.prog a w [.t 2 (.int .i64 r)] ∧ InR .i64 r
theorem qfX (N:Nat) (kind_0:Int) (rkind_0:InR .i64 kind_0) {r:Int} (hF:qdh N kind_0 = some r) (hG:Glob u) (ok:Ok u m0 S w) :
  Calls Tryz.prog 30 [vi kind_0].toArray w fun e w'=>(e = .returned (.int .i64 r) ∧ Ok u m0 S w') ∧ InR .i64 r:=by
 unfold qdh at hF
 refine en (qiM u m0 S) r Tryz.func30 rfl rfl rfl (fun _ _ h=>rb h rfl) fun fin a E=>sg<|aw E rfl fun a E=>sg<|lv E ok (qlK (ps:=[(2,.const (vi 5)),(3,.const (vi 6)),(4,.const (vi 7)),(5,.const (vi 8)),(6,.const (vi 9))]) (qs:=[(2,[vi 5]),(3,[vi 6]),(4,[vi 7]),(5,[vi 8]),(6,[vi 9])]) (cs:=[vi 0,vi 0,vi 5,vi 6,vi 7,vi 8,vi 9]) qpV qqz rfl ⟨rfl,rfl,rfl,⟨rfl,rfl,rfl,⟨rfl,rfl,rfl,⟨rfl,rfl,rfl,⟨rfl,rfl,rfl,trivial⟩⟩⟩⟩⟩ rfl) fun a E=>mv E rfl fun a E=>bd hF fun z1 e2 hF=>lv E ok (qqm (f:=Value.int .i64) (xs:=[(0:Int),(0:Int),(5:Int),(6:Int),(7:Int),(8:Int),(9:Int)]) Tryz.underlying84 qj9 qat rfl rfl rfl rfl e2) fun a E=>aw E rfl fun a E=>wp_ret ?_
 exact fin hF ⟨ok,E.d,rz E rfl,(qny (q:=InR .i64) (xs:=[(0:Int),(0:Int),(5:Int),(6:Int),(7:Int),(8:Int),(9:Int)]) (by decide) e2)⟩
def qgV (u:World) (m0:Mem) (S:Segs) (pb0:Nat) (x0:Compiler) (c1:Value) (M2:List (Nat × Obj)) (c4:Value) (M5:List (Nat × Obj)) (r:Compiler) (a:Act) (w:World):Prop :=
 ∃ m1 c7 M8 c10 M11,m0.le m1 ∧ Ok u m1 ([(pb0,oc 43 [c7,c10])] :: M8 :: M11 :: S) w ∧ a.defers = [] ∧ RVs Tryz.prog a w [] ∧ ORow 9 1 pS m1 c7 r.Code.Names M8 ∧ ORow 38 4 pIns m1 c10 r.Code.Ins M11
def qf5 (u:World) (m0:Mem) (S:Segs) (pb0:Nat) (x0:Compiler) (c9:Value) (M10:List (Nat × Obj)) (c12:Value) (M13:List (Nat × Obj)) (r:Compiler) (a:Act) (w:World):Prop :=
 ∃ m1 c15 M16 c18 M19,m0.le m1 ∧ Ok u m1 ([(pb0,oc 43 [c15,c18])] :: M16 :: M19 :: S) w ∧ a.defers = [] ∧ RVs Tryz.prog a w [] ∧ ORow 9 1 pS m1 c15 r.Code.Names M16 ∧ ORow 38 4 pIns m1 c18 r.Code.Ins M19
def qct (N:Nat):Prop:=∀ {u:World} {m0:Mem} {S:Segs} {w:World} (vl_1:Value) (l_1:List (Part)) (hl_1:(pL 6 qbD) m0 [vl_1] l_1) (count_2:List UInt8) (lcount_2:count_2.length ≤ LIMS) {pb0:Nat} {c1:Value} {M2:List (Nat × Obj)} {c4:Value} {M5:List (Nat × Obj)} (x0:Compiler) (h3:ORow 9 1 pS m0 c1 x0.Code.Names M2) (h6:ORow 38 4 pIns m0 c4 x0.Code.Ins M5) {r:Compiler} (hF:qaA N l_1 count_2 x0 = some r) (hG:Glob u) (ok:Ok u m0 ([(pb0,oc 43 [c1,c4])] :: M2 :: M5 :: S) w),Calls Tryz.prog 15 [vp pb0,vl_1,vs count_2].toArray w fun e w'=>∃ m1 c7 M8 c10 M11,e = .returned (.tuple [].toArray) ∧ m0.le m1 ∧ Ok u m1 ([(pb0,oc 43 [c7,c10])] :: M8 :: M11 :: S) w' ∧ ORow 9 1 pS m1 c7 r.Code.Names M8 ∧ ORow 38 4 pIns m1 c10 r.Code.Ins M11
def qb2 (N:Nat):Prop:=∀ {u:World} {m0:Mem} {S:Segs} {w:World} (vx_1:List Value) (x_1:Part) (hx_1:qbD m0 vx_1 x_1) (count_2:List UInt8) (lcount_2:count_2.length ≤ LIMS) {pb0:Nat} {c9:Value} {M10:List (Nat × Obj)} {c12:Value} {M13:List (Nat × Obj)} (x0:Compiler) (h11:ORow 9 1 pS m0 c9 x0.Code.Names M10) (h14:ORow 38 4 pIns m0 c12 x0.Code.Ins M13) {r:Compiler} (hF:qaB N x_1 count_2 x0 = some r) (hG:Glob u) (ok:Ok u m0 ([(pb0,oc 43 [c9,c12])] :: M10 :: M13 :: S) w),Calls Tryz.prog 29 [vp pb0,.agg vx_1.toArray,vs count_2].toArray w fun e w'=>∃ m1 c15 M16 c18 M19,e = .returned (.tuple [].toArray) ∧ m0.le m1 ∧ Ok u m1 ([(pb0,oc 43 [c15,c18])] :: M16 :: M19 :: S) w' ∧ ORow 9 1 pS m1 c15 r.Code.Names M16 ∧ ORow 38 4 pIns m1 c18 r.Code.Ins M19
theorem qgd (N:Nat) (ih_compile_compiler_parts:qct N) (ih_compile_compiler_selection:qb2 N):qct (N + 1):=by
 intro u m0 S w vl_1 l_1 hl_1 count_2 lcount_2 pb0 c1 M2 c4 M5 x0 h3 h6 r hF hG ok
 have le_m0:=Mem.le.refl m0
 have hF0:qb8 (qaA N) (qaB N) N l_1 count_2 x0 = some r:=hF
 have hF:=hF0
 clear hF0
 unfold qb8 at hF
 refine en (qgV u m0 S pb0 x0 c1 M2 c4 M5) r Tryz.func15 rfl rfl rfl (by rintro a w ⟨m1,c7,M8,c10,M11,hle,ok,hd,hrv,h0,h1⟩; exact qcw [] hd rfl hrv ⟨m1,c7,M8,c10,M11,rfl,hle,ok,h0,h1⟩) fun fin a E=>sg<|mv E rfl fun a E=>lv E ok (qax qbj hl_1 rfl) fun a E=>mv E rfl fun a E=>wn<|wp_block<|bd hF fun o21 hL hF=>qaX _ (fun (s:Int × Compiler) a w=>∃ m22 c24 M25 c27 M28,m0.le m22 ∧ Ok u m22 ([(pb0,oc 43 [c24,c27])] :: M25 :: M28 :: S) w ∧ Env 88 a [(0,vp pb0),(2,vs count_2),(8,vl_1),(9,(vi (l_1.length:Int))),(10,vi s.1)] ∧ InR .i64 s.1 ∧ ORow 9 1 pS m22 c24 s.2.Code.Names M25 ∧ ORow 38 4 pIns m22 c27 s.2.Code.Ins M28) (fun (b:Compiler) e a w=>e = (.exit 0) ∧ ∃ m304 c305 M306 c308 M309,m0.le m304 ∧ Ok u m304 ([(pb0,oc 43 [c305,c308])] :: M306 :: M309 :: S) w ∧ Env 88 a [] ∧ ORow 9 1 pS m304 c305 b.Code.Names M306 ∧ ORow 38 4 pIns m304 c308 b.Code.Ins M309) ?_ ?_ N _ a w hL ⟨m0,c1,M2,c4,M5,Mem.le.refl _,ok,E.keep [0,2,8,9,10],(ir 0),h3,h6⟩
 rotate_left
 ·intro e a w _ hO
  obtain ⟨rfl,m297,c298,M299,c301,M302,hle,ok,E,h300,h303⟩:=hO
  have le_m0:=le_m0.trans hle
  have hl_1:=(mL qaq).up hle hl_1
  refine qba ?_
  exact fin hF ⟨m297,c298,M299,c301,M302,le_m0,ok,E.d,trivial,h300,h303⟩
 rintro ⟨v30,v31⟩ a w r ⟨m32,c34,M35,c37,M38,hle,ok,E,r33,h36,h39⟩ hF
 replace hF:qbQ (qaA N) (qaB N) N l_1 count_2 v30 v31 = some r:=hF
 unfold qbQ at hF
 have le_m0:=le_m0.trans hle
 have hl_1:=(mL qaq).up hle hl_1
 refine sg<|lw E (qaJ rfl rfl) fun a E=>wn<|wp_seq<|cg E rfl hF (fun c40 hF=>?_) fun c40 hF=>?_
 ·refine wp_exit<|qaO ?_
  cases hF
  exact so (⟨rfl,⟨m32,c34,M35,c37,M38,le_m0,ok,E.keep [],h36,h39⟩⟩)
 refine wp_skip<|qaa<|wp_seq<|wp_block<|sg ?_
 obtain ⟨x41,e42,hF⟩:=bnd hF
 obtain ⟨b43,o44,es45,hl46,rr47,at48,yy49⟩:=ia E 8 10 qbj hl_1 e42
 obtain ⟨c54,c56,rfl,r50,l51,l52,l53,h55,h57⟩:=(qaL.1 rr47)
 refine lv E ok (yy49 _ _) fun a E=>lv E ok (qaj (cs:=[vi x41.Kind,vs x41.Text,vs x41.Name,vs x41.Style,c54,c56]) qep rfl rfl (qac.ro at48)) fun a E=>qbh E ok qeV rfl rfl fun b58 a w E ok=>qai E ok 0 rfl rfl rfl qgg rfl rfl ⟨rfl,rfl,rfl,rfl,(qcW h55),(qcW h57),trivial⟩ rfl rfl fun w ok=>wn<|wp_block<|sg<|fk E ok qar qat rfl 0 rfl rfl fun a E=>lw E (qao rfl rfl) fun a E=>aw E rfl fun a E=>cf E rfl hF (fun c59 hF=>?_) fun c59 hF=>?_
 ·refine qab<|mv E rfl fun a E=>fk E ok qbR qah rfl 0 rfl rfl fun a E=>lw E (qav (ps:=[(0,.const (vi 1)),(3,.tmp 32)]) (qs:=[(0,[vi 1]),(3,[vs x41.Text])]) (cs:=[vi 1,vi 0,vi 0,vs x41.Text]) qbl qbG rfl ⟨rfl,rfl,rfl,⟨rfl,rfl,rfl,trivial⟩⟩ rfl) fun a E=>?_
  obtain ⟨r60,e61,hF⟩:=bnd hF
  replace ok:Ok u m32 ([(pb0,oc 43 [c34,c37])] :: M35 :: M38 :: [(b58,oc 63 [vi x41.Kind,vs x41.Text,vs x41.Name,vs x41.Style,c54,c56])] :: S) w:=(ok.pk 4 [1,2,3,0] rfl (by decide))
  refine qas E qfb rfl (qaQ N _ (Ins.mk 1 0 0 x41.Text) ⟨rfl,(ir 1),(ir 0),(ir 0),l51⟩ v31 h36 h39 e61 hG ok) rfl rfl ?_
  rintro _ w ⟨m62,c64,M65,c67,M68,rfl,hle,ok,r63,h66,h69⟩
  have le_m0:=le_m0.trans hle
  have hl_1:=(mL qaq).up hle hl_1
  have h55:=(mL qa6).up hle h55
  have h57:=(mL qaq).up hle h57
  have at48:=At.up hle at48
  refine ⟨_,rfl,fun a E=>?_⟩
  refine wpList_nil<|qag<|qag<|qaa<|qab<|lw E (qau rfl rfl (InR.inc r33 (qae hl_1) c40)) fun a E=>mv E rfl fun a E=>wpList_nil ?_
  cases hF
  exact qap ⟨m62,c64,M65,c67,M68,le_m0,(ok.pk 4 [0,1,2] rfl (by decide)),E.keep [0,2,8,9,10],(InR.inc r33 (qae hl_1) c40),h66,h69⟩
 refine sg<|fk E ok qar qat rfl 0 rfl rfl fun a E=>lw E (qao rfl rfl) fun a E=>aw E rfl fun a E=>cf E rfl hF (fun c70 hF=>?_) fun c70 hF=>?_
 ·refine qab<|mz E rfl rfl fun a E=>mv E rfl fun a E=>?_
  obtain ⟨r71,e72,hF⟩:=bnd hF
  replace ok:Ok u m32 ([(pb0,oc 43 [c34,c37])] :: M35 :: M38 :: [(b58,oc 63 [vi x41.Kind,vs x41.Text,vs x41.Name,vs x41.Style,c54,c56])] :: S) w:=(ok.pk 4 [1,2,3,0] rfl (by decide))
  refine qas E qlE rfl (qdn N count_2 lcount_2 v31 h36 h39 e72 hG ok) rfl rfl ?_
  rintro _ w ⟨m73,c75,M76,c78,M79,rfl,hle,ok,r74,h77,h80⟩
  have le_m0:=le_m0.trans hle
  have hl_1:=(mL qaq).up hle hl_1
  have h55:=(mL qa6).up hle h55
  have h57:=(mL qaq).up hle h57
  have at48:=At.up hle at48
  refine ⟨_,rfl,fun a E=>?_⟩
  refine lw E (qav (ps:=[(0,.const (vi 6)),(1,.tmp 42)]) (qs:=[(0,[vi 6]),(1,[vi r71.1])]) (cs:=[vi 6,vi r71.1,vi 0,(vs ([]))]) qbl qbG rfl ⟨rfl,rfl,rfl,⟨rfl,rfl,rfl,trivial⟩⟩ rfl) fun a E=>bd hF fun r81 e82 hF=>qas E qfb rfl (qaQ N _ (Ins.mk 6 r71.1 0 ([])) ⟨rfl,(ir 6),r74,(ir 0),(Nat.zero_le _)⟩ r71.2 h77 h80 e82 hG ok) rfl rfl ?_
  rintro _ w ⟨m83,c85,M86,c88,M89,rfl,hle,ok,r84,h87,h90⟩
  have le_m0:=le_m0.trans hle
  have hl_1:=(mL qaq).up hle hl_1
  have h55:=(mL qa6).up hle h55
  have h57:=(mL qaq).up hle h57
  have at48:=At.up hle at48
  refine ⟨_,rfl,fun a E=>?_⟩
  refine wpList_nil<|qag<|qag<|qaa<|qab<|lw E (qau rfl rfl (InR.inc r33 (qae hl_1) c40)) fun a E=>mv E rfl fun a E=>wpList_nil ?_
  cases hF
  exact qap ⟨m83,c85,M86,c88,M89,le_m0,(ok.pk 4 [0,1,2] rfl (by decide)),E.keep [0,2,8,9,10],(InR.inc r33 (qae hl_1) c40),h87,h90⟩
 refine sg<|fk E ok qar qat rfl 0 rfl rfl fun a E=>lw E (qao rfl rfl) fun a E=>mv E rfl fun a E=>bw E 49 hF (fun c91 hF E=>?_) fun c91 hF E=>?_
 ·as_aux_lemma =>
   refine lsz E fun a E=>pf E rfl rfl fun a E=>aw E rfl fun a E=>c_if E rfl (fun h=>by cases h) (fun _=>?_)
   refine sg<|fk E ok qar qat rfl 0 rfl rfl fun a E=>lw E (qao rfl rfl) fun a E=>aw E rfl fun a E=>cf E rfl hF (fun c200 hF=>?_) fun c200 hF=>?_
   ·refine sg<|mv E rfl fun a E=>fk E ok qaw qah rfl 0 rfl rfl fun a E=>lw E (qav (ps:=[(0,.const (vi 2)),(3,.tmp 66)]) (qs:=[(0,[vi 2]),(3,[vs x41.Name])]) (cs:=[vi 2,vi 0,vi 0,vs x41.Name]) qbl qbG rfl ⟨rfl,rfl,rfl,⟨rfl,rfl,rfl,trivial⟩⟩ rfl) fun a E=>?_
    obtain ⟨r201,e202,hF⟩:=bnd hF
    replace ok:Ok u m32 ([(pb0,oc 43 [c34,c37])] :: M35 :: M38 :: [(b58,oc 63 [vi x41.Kind,vs x41.Text,vs x41.Name,vs x41.Style,c54,c56])] :: S) w:=(ok.pk 4 [1,2,3,0] rfl (by decide))
    refine qas E qfb rfl (qaQ N _ (Ins.mk 2 0 0 x41.Name) ⟨rfl,(ir 2),(ir 0),(ir 0),l52⟩ v31 h36 h39 e202 hG ok) rfl rfl ?_
    rintro _ w ⟨m203,c205,M206,c208,M209,rfl,hle,ok,r204,h207,h210⟩
    have le_m0:=le_m0.trans hle
    have hl_1:=(mL qaq).up hle hl_1
    have h55:=(mL qa6).up hle h55
    have h57:=(mL qaq).up hle h57
    have at48:=At.up hle at48
    refine ⟨_,rfl,fun a E=>?_⟩
    refine wn<|sg<|mv E rfl fun a E=>fk E ok qbs qa2 rfl 3 rfl rfl fun a E=>mv E rfl fun a E=>bd hF fun r211 e212 hF=>qas E qlx rfl (ih_compile_compiler_parts _ x41.Parts h57 count_2 lcount_2 r201.2 h207 h210 e212 hG ok) rfl rfl ?_
    rintro _ w ⟨m213,c214,M215,c217,M218,rfl,hle,ok,h216,h219⟩
    have le_m0:=le_m0.trans hle
    have hl_1:=(mL qaq).up hle hl_1
    have h55:=(mL qa6).up hle h55
    have h57:=(mL qaq).up hle h57
    have at48:=At.up hle at48
    refine ⟨_,rfl,fun a E=>?_⟩
    refine wn<|qab<|mv E rfl fun a E=>fk E ok qaw qah rfl 3 rfl rfl fun a E=>lw E (qav (ps:=[(0,.const (vi 3)),(3,.tmp 76)]) (qs:=[(0,[vi 3]),(3,[vs x41.Name])]) (cs:=[vi 3,vi 0,vi 0,vs x41.Name]) qbl qbG rfl ⟨rfl,rfl,rfl,⟨rfl,rfl,rfl,trivial⟩⟩ rfl) fun a E=>bd hF fun r220 e221 hF=>qas E qfb rfl (qaQ N _ (Ins.mk 3 0 0 x41.Name) ⟨rfl,(ir 3),(ir 0),(ir 0),l52⟩ r211 h216 h219 e221 hG ok) rfl rfl ?_
    rintro _ w ⟨m222,c224,M225,c227,M228,rfl,hle,ok,r223,h226,h229⟩
    have le_m0:=le_m0.trans hle
    have hl_1:=(mL qaq).up hle hl_1
    have h55:=(mL qa6).up hle h55
    have h57:=(mL qaq).up hle h57
    have at48:=At.up hle at48
    refine ⟨_,rfl,fun a E=>?_⟩
    refine wpList_nil<|qag<|qag<|qaa<|qab<|lw E (qau rfl rfl (InR.inc r33 (qae hl_1) c40)) fun a E=>mv E rfl fun a E=>wpList_nil ?_
    cases hF
    exact qap ⟨m222,c224,M225,c227,M228,le_m0,(ok.pk 4 [0,1,2] rfl (by decide)),E.keep [0,2,8,9,10],(InR.inc r33 (qae hl_1) c40),h226,h229⟩
   refine sg<|fk E ok qar qat rfl 0 rfl rfl fun a E=>bd hF fun r230 e231 hF=>lc E qgM rfl (qbN N x41.Kind r50 e231 hG ok) fun w ok a E=>aw E rfl fun a E=>cf E rfl hF (fun c232 hF=>?_) fun c232 hF=>?_
   ·refine qab<|mv E rfl fun a E=>lv E ok (qaj (cs:=[vi x41.Kind,vs x41.Text,vs x41.Name,vs x41.Style,c54,c56]) qep rfl rfl (qac.own 0 rfl rfl)) fun a E=>mv E rfl fun a E=>?_
    obtain ⟨r233,e234,hF⟩:=bnd hF
    replace ok:Ok u m32 ([(pb0,oc 43 [c34,c37])] :: M35 :: M38 :: [(b58,oc 63 [vi x41.Kind,vs x41.Text,vs x41.Name,vs x41.Style,c54,c56])] :: S) w:=(ok.pk 4 [1,2,3,0] rfl (by decide))
    refine qas E qpt rfl (ih_compile_compiler_selection _ x41 (qaL.2 ⟨_,_,rfl,r50,l51,l52,l53,h55,h57⟩) count_2 lcount_2 v31 h36 h39 e234 hG ok) rfl rfl ?_
    rintro _ w ⟨m235,c236,M237,c239,M240,rfl,hle,ok,h238,h241⟩
    have le_m0:=le_m0.trans hle
    have hl_1:=(mL qaq).up hle hl_1
    have h55:=(mL qa6).up hle h55
    have h57:=(mL qaq).up hle h57
    have at48:=At.up hle at48
    refine ⟨_,rfl,fun a E=>?_⟩
    refine wpList_nil<|qag<|qag<|qaa<|qab<|lw E (qau rfl rfl (InR.inc r33 (qae hl_1) c40)) fun a E=>mv E rfl fun a E=>wpList_nil ?_
    cases hF
    exact qap ⟨m235,c236,M237,c239,M240,le_m0,(ok.pk 4 [0,1,2] rfl (by decide)),E.keep [0,2,8,9,10],(InR.inc r33 (qae hl_1) c40),h238,h241⟩
   refine bd hF fun o242 hJ hF=>qaK (Q':=fun e a w=>e = .normal ∧ ∃ m243 c244 M245 c247 M248,m32.le m243 ∧ Ok u m243 ([(b58,oc 63 [vi x41.Kind,vs x41.Text,vs x41.Name,vs x41.Style,c54,c56])] :: [(pb0,oc 43 [c244,c247])] :: M245 :: M248 :: S) w ∧ Env 88 a [(0,vp pb0),(2,vs count_2),(8,vl_1),(9,(vi (l_1.length:Int))),(10,vi v30)] ∧ ORow 9 1 pS m243 c244 o242.Code.Names M245 ∧ ORow 38 4 pIns m243 c247 o242.Code.Ins M248) ?_ ?_
   rotate_left
   ·intro e a w hO
    obtain ⟨rfl,m290,c291,M292,c294,M295,hle,ok,E,h293,h296⟩:=hO
    have le_m0:=le_m0.trans hle
    have hl_1:=(mL qaq).up hle hl_1
    have h55:=(mL qa6).up hle h55
    have h57:=(mL qaq).up hle h57
    have at48:=At.up hle at48
    refine qag<|qag<|qaa<|qab<|lw E (qau rfl rfl (InR.inc r33 (qae hl_1) c40)) fun a E=>mv E rfl fun a E=>wpList_nil ?_
    cases hF
    exact qap ⟨m290,c291,M292,c294,M295,le_m0,(ok.pk 4 [1,2,3] rfl (by decide)),E.keep [0,2,8,9,10],(InR.inc r33 (qae hl_1) c40),h293,h296⟩
   have hF:=hJ
   have le_m32:=Mem.le.refl m32
   obtain ⟨r250,e251,hF⟩:=bnd hF
   obtain ⟨r253,e254,hF⟩:=bnd hF
   obtain ⟨r263,e264,hF⟩:=bnd hF
   obtain rfl:=sj hF
   refine qbT [] (Cls u m32 ([(b58,oc 63 [vi x41.Kind,vs x41.Text,vs x41.Name,vs x41.Style,c54,c56])] :: [])) (Cls u m32 ([(b58,oc 63 [vi x41.Kind,vs x41.Text,vs x41.Name,vs x41.Style,c54,c56])] :: [])) (by kernel_rfl) ?_
   intro w hw
   replace ok:=qck ok hw
   clear hw
   have h55_o:=h55
   have h57_o:=h57
   refine qan (cl1 (cq le_m32 ok [0] rfl) (cq le_m32 ok [0] rfl)) fun hT=>kt 0 E rfl hT (qal rfl) fun a E=>kt 1 E rfl hT (qad qar rfl) fun a E=>kt 2 E rfl hT (qak qat rfl (qac.cown 0 rfl rfl)) fun a E=>kt 4 E rfl hT (qal rfl) fun a E=>kt 5 E rfl hT (qad qaw rfl) fun a E=>kt 6 E rfl hT (qak qah rfl (qac.cown 0 rfl rfl)) fun a E=>kt 8 E rfl hT (qad qaT rfl) fun a E=>kt 9 E rfl hT (qak qah rfl (qac.cown 0 rfl rfl)) fun a E=>qaC [3] (by kernel_rfl) rfl (qaH ?_)
   ·refine wo rfl<|qas E qpr rfl (qfX N x41.Kind r50 e251 hG ok) rfl rfl ?_
    rintro _ w ⟨⟨rfl,ok⟩,r273⟩
    refine ⟨_,rfl,fun a E=>?_⟩
    refine wn<|qan (cl1 (cq le_m32 ok [0] rfl) (cq le_m32 ok [0] rfl)) fun hT=>qaC [7] (by kernel_rfl) rfl (qaH ?_)
    ·refine qeG (o:=_) rfl ?_
     replace ok:Ok u m32 ([(pb0,oc 43 [c34,c37])] :: M35 :: M38 :: [(b58,oc 63 [vi x41.Kind,vs x41.Text,vs x41.Name,vs x41.Style,c54,c56])] :: S) w:=(ok.pk 4 [1,2,3,0] rfl (by decide))
     refine qas E qlE rfl (qdn N x41.Name l52 v31 h36 h39 e254 hG ok) rfl rfl ?_
     rintro _ w ⟨m274,c276,M277,c279,M280,rfl,hle,ok,r275,h278,h281⟩
     have le_m0:=le_m0.trans hle
     have le_m32:=le_m32.trans hle
     have hl_1:=(mL qaq).up hle hl_1
     have h55:=(mL qa6).up hle h55
     have h57:=(mL qaq).up hle h57
     have at48:=At.up hle at48
     refine ⟨_,rfl,fun a E=>?_⟩
     refine wn<|qan (cl1 (cq le_m32 ok [3] rfl) (cq le_m32 ok [3] rfl)) fun hT=>kt 10 E rfl hT (qav (ps:=[(0,.tmp 17),(1,.tmp 21),(3,.tmp 23)]) (qs:=[(0,[vi r250]),(1,[vi r253.1]),(3,[vs x41.Style])]) (cs:=[vi r250,vi r253.1,vi 0,vs x41.Style]) qbl qbG rfl ⟨rfl,rfl,rfl,⟨rfl,rfl,rfl,⟨rfl,rfl,rfl,trivial⟩⟩⟩ rfl) fun a E=>qaC [11] (by kernel_rfl) rfl (qaH ?_)
     ·refine wo rfl<|qas E qfb rfl (qaQ N _ (Ins.mk r250 r253.1 0 x41.Style) ⟨rfl,r273,r275,(ir 0),l53⟩ r253.2 h278 h281 e264 hG ok) rfl rfl ?_
      rintro _ w ⟨m282,c284,M285,c287,M288,rfl,hle,ok,r283,h286,h289⟩
      have le_m0:=le_m0.trans hle
      have le_m32:=le_m32.trans hle
      have hl_1:=(mL qaq).up hle hl_1
      have h55:=(mL qa6).up hle h55
      have h57:=(mL qaq).up hle h57
      have at48:=At.up hle at48
      refine ⟨_,rfl,fun a E=>?_⟩
      refine wn<|qan (cl1 (cq le_m32 ok [3] rfl) (cq le_m32 ok [3] rfl)) fun hT=>qbq (by kernel_rfl) ?_
      exact ⟨rfl,⟨m282,c284,M285,c287,M288,le_m32,(ok.pk 4 [3,0,1,2] rfl (by decide)),E.keep [0,2,8,9,10],h286,h289⟩⟩
 refine fk E ok qbs qa2 rfl 0 rfl rfl fun a E=>lv E ok (qax qbj h57 rfl) fun a E=>lw E (qao rfl rfl) fun a E=>pt E rfl rfl fun a E=>aw E rfl fun a E=>cf E rfl hF (fun c92 hF=>?_) fun c92 hF=>?_
 ·refine qab<|mv E rfl fun a E=>fk E ok qaw qah rfl 0 rfl rfl fun a E=>lw E (qav (ps:=[(0,.const (vi 4)),(3,.tmp 57)]) (qs:=[(0,[vi 4]),(3,[vs x41.Name])]) (cs:=[vi 4,vi 0,vi 0,vs x41.Name]) qbl qbG rfl ⟨rfl,rfl,rfl,⟨rfl,rfl,rfl,trivial⟩⟩ rfl) fun a E=>?_
  obtain ⟨r93,e94,hF⟩:=bnd hF
  replace ok:Ok u m32 ([(pb0,oc 43 [c34,c37])] :: M35 :: M38 :: [(b58,oc 63 [vi x41.Kind,vs x41.Text,vs x41.Name,vs x41.Style,c54,c56])] :: S) w:=(ok.pk 4 [1,2,3,0] rfl (by decide))
  refine qas E qfb rfl (qaQ N _ (Ins.mk 4 0 0 x41.Name) ⟨rfl,(ir 4),(ir 0),(ir 0),l52⟩ v31 h36 h39 e94 hG ok) rfl rfl ?_
  rintro _ w ⟨m95,c97,M98,c100,M101,rfl,hle,ok,r96,h99,h102⟩
  have le_m0:=le_m0.trans hle
  have hl_1:=(mL qaq).up hle hl_1
  have h55:=(mL qa6).up hle h55
  have h57:=(mL qaq).up hle h57
  have at48:=At.up hle at48
  refine ⟨_,rfl,fun a E=>?_⟩
  refine wpList_nil<|qag<|qag<|qaa<|qab<|lw E (qau rfl rfl (InR.inc r33 (qae hl_1) c40)) fun a E=>mv E rfl fun a E=>wpList_nil ?_
  cases hF
  exact qap ⟨m95,c97,M98,c100,M101,le_m0,(ok.pk 4 [0,1,2] rfl (by decide)),E.keep [0,2,8,9,10],(InR.inc r33 (qae hl_1) c40),h99,h102⟩
 refine sg<|fk E ok qar qat rfl 0 rfl rfl fun a E=>lw E (qao rfl rfl) fun a E=>aw E rfl fun a E=>cf E rfl hF (fun c103 hF=>?_) fun c103 hF=>?_
 ·refine sg<|mv E rfl fun a E=>fk E ok qaw qah rfl 0 rfl rfl fun a E=>lw E (qav (ps:=[(0,.const (vi 2)),(3,.tmp 66)]) (qs:=[(0,[vi 2]),(3,[vs x41.Name])]) (cs:=[vi 2,vi 0,vi 0,vs x41.Name]) qbl qbG rfl ⟨rfl,rfl,rfl,⟨rfl,rfl,rfl,trivial⟩⟩ rfl) fun a E=>?_
  obtain ⟨r104,e105,hF⟩:=bnd hF
  replace ok:Ok u m32 ([(pb0,oc 43 [c34,c37])] :: M35 :: M38 :: [(b58,oc 63 [vi x41.Kind,vs x41.Text,vs x41.Name,vs x41.Style,c54,c56])] :: S) w:=(ok.pk 4 [1,2,3,0] rfl (by decide))
  refine qas E qfb rfl (qaQ N _ (Ins.mk 2 0 0 x41.Name) ⟨rfl,(ir 2),(ir 0),(ir 0),l52⟩ v31 h36 h39 e105 hG ok) rfl rfl ?_
  rintro _ w ⟨m106,c108,M109,c111,M112,rfl,hle,ok,r107,h110,h113⟩
  have le_m0:=le_m0.trans hle
  have hl_1:=(mL qaq).up hle hl_1
  have h55:=(mL qa6).up hle h55
  have h57:=(mL qaq).up hle h57
  have at48:=At.up hle at48
  refine ⟨_,rfl,fun a E=>?_⟩
  refine wn<|sg<|mv E rfl fun a E=>fk E ok qbs qa2 rfl 3 rfl rfl fun a E=>mv E rfl fun a E=>bd hF fun r114 e115 hF=>qas E qlx rfl (ih_compile_compiler_parts _ x41.Parts h57 count_2 lcount_2 r104.2 h110 h113 e115 hG ok) rfl rfl ?_
  rintro _ w ⟨m116,c117,M118,c120,M121,rfl,hle,ok,h119,h122⟩
  have le_m0:=le_m0.trans hle
  have hl_1:=(mL qaq).up hle hl_1
  have h55:=(mL qa6).up hle h55
  have h57:=(mL qaq).up hle h57
  have at48:=At.up hle at48
  refine ⟨_,rfl,fun a E=>?_⟩
  refine wn<|qab<|mv E rfl fun a E=>fk E ok qaw qah rfl 3 rfl rfl fun a E=>lw E (qav (ps:=[(0,.const (vi 3)),(3,.tmp 76)]) (qs:=[(0,[vi 3]),(3,[vs x41.Name])]) (cs:=[vi 3,vi 0,vi 0,vs x41.Name]) qbl qbG rfl ⟨rfl,rfl,rfl,⟨rfl,rfl,rfl,trivial⟩⟩ rfl) fun a E=>bd hF fun r123 e124 hF=>qas E qfb rfl (qaQ N _ (Ins.mk 3 0 0 x41.Name) ⟨rfl,(ir 3),(ir 0),(ir 0),l52⟩ r114 h119 h122 e124 hG ok) rfl rfl ?_
  rintro _ w ⟨m125,c127,M128,c130,M131,rfl,hle,ok,r126,h129,h132⟩
  have le_m0:=le_m0.trans hle
  have hl_1:=(mL qaq).up hle hl_1
  have h55:=(mL qa6).up hle h55
  have h57:=(mL qaq).up hle h57
  have at48:=At.up hle at48
  refine ⟨_,rfl,fun a E=>?_⟩
  refine wpList_nil<|qag<|qag<|qaa<|qab<|lw E (qau rfl rfl (InR.inc r33 (qae hl_1) c40)) fun a E=>mv E rfl fun a E=>wpList_nil ?_
  cases hF
  exact qap ⟨m125,c127,M128,c130,M131,le_m0,(ok.pk 4 [0,1,2] rfl (by decide)),E.keep [0,2,8,9,10],(InR.inc r33 (qae hl_1) c40),h129,h132⟩
 refine sg<|fk E ok qar qat rfl 0 rfl rfl fun a E=>bd hF fun r133 e134 hF=>lc E qgM rfl (qbN N x41.Kind r50 e134 hG ok) fun w ok a E=>aw E rfl fun a E=>cf E rfl hF (fun c135 hF=>?_) fun c135 hF=>?_
 ·refine qab<|mv E rfl fun a E=>lv E ok (qaj (cs:=[vi x41.Kind,vs x41.Text,vs x41.Name,vs x41.Style,c54,c56]) qep rfl rfl (qac.own 0 rfl rfl)) fun a E=>mv E rfl fun a E=>?_
  obtain ⟨r136,e137,hF⟩:=bnd hF
  replace ok:Ok u m32 ([(pb0,oc 43 [c34,c37])] :: M35 :: M38 :: [(b58,oc 63 [vi x41.Kind,vs x41.Text,vs x41.Name,vs x41.Style,c54,c56])] :: S) w:=(ok.pk 4 [1,2,3,0] rfl (by decide))
  refine qas E qpt rfl (ih_compile_compiler_selection _ x41 (qaL.2 ⟨_,_,rfl,r50,l51,l52,l53,h55,h57⟩) count_2 lcount_2 v31 h36 h39 e137 hG ok) rfl rfl ?_
  rintro _ w ⟨m138,c139,M140,c142,M143,rfl,hle,ok,h141,h144⟩
  have le_m0:=le_m0.trans hle
  have hl_1:=(mL qaq).up hle hl_1
  have h55:=(mL qa6).up hle h55
  have h57:=(mL qaq).up hle h57
  have at48:=At.up hle at48
  refine ⟨_,rfl,fun a E=>?_⟩
  refine wpList_nil<|qag<|qag<|qaa<|qab<|lw E (qau rfl rfl (InR.inc r33 (qae hl_1) c40)) fun a E=>mv E rfl fun a E=>wpList_nil ?_
  cases hF
  exact qap ⟨m138,c139,M140,c142,M143,le_m0,(ok.pk 4 [0,1,2] rfl (by decide)),E.keep [0,2,8,9,10],(InR.inc r33 (qae hl_1) c40),h141,h144⟩
 refine bd hF fun o145 hJ hF=>qaK (Q':=fun e a w=>e = .normal ∧ ∃ m146 c147 M148 c150 M151,m32.le m146 ∧ Ok u m146 ([(b58,oc 63 [vi x41.Kind,vs x41.Text,vs x41.Name,vs x41.Style,c54,c56])] :: [(pb0,oc 43 [c147,c150])] :: M148 :: M151 :: S) w ∧ Env 88 a [(0,vp pb0),(2,vs count_2),(8,vl_1),(9,(vi (l_1.length:Int))),(10,vi v30)] ∧ ORow 9 1 pS m146 c147 o145.Code.Names M148 ∧ ORow 38 4 pIns m146 c150 o145.Code.Ins M151) ?_ ?_
 rotate_left
 ·intro e a w hO
  obtain ⟨rfl,m193,c194,M195,c197,M198,hle,ok,E,h196,h199⟩:=hO
  have le_m0:=le_m0.trans hle
  have hl_1:=(mL qaq).up hle hl_1
  have h55:=(mL qa6).up hle h55
  have h57:=(mL qaq).up hle h57
  have at48:=At.up hle at48
  refine qag<|qag<|qaa<|qab<|lw E (qau rfl rfl (InR.inc r33 (qae hl_1) c40)) fun a E=>mv E rfl fun a E=>wpList_nil ?_
  cases hF
  exact qap ⟨m193,c194,M195,c197,M198,le_m0,(ok.pk 4 [1,2,3] rfl (by decide)),E.keep [0,2,8,9,10],(InR.inc r33 (qae hl_1) c40),h196,h199⟩
 have hF:=hJ
 have le_m32:=Mem.le.refl m32
 obtain ⟨r153,e154,hF⟩:=bnd hF
 obtain ⟨r156,e157,hF⟩:=bnd hF
 obtain ⟨r166,e167,hF⟩:=bnd hF
 obtain rfl:=sj hF
 refine qbT [] (Cls u m32 ([(b58,oc 63 [vi x41.Kind,vs x41.Text,vs x41.Name,vs x41.Style,c54,c56])] :: [])) (Cls u m32 ([(b58,oc 63 [vi x41.Kind,vs x41.Text,vs x41.Name,vs x41.Style,c54,c56])] :: [])) (by kernel_rfl) ?_
 intro w hw
 replace ok:=qck ok hw
 clear hw
 have h55_o:=h55
 have h57_o:=h57
 refine qan (cl1 (cq le_m32 ok [0] rfl) (cq le_m32 ok [0] rfl)) fun hT=>kt 0 E rfl hT (qal rfl) fun a E=>kt 1 E rfl hT (qad qar rfl) fun a E=>kt 2 E rfl hT (qak qat rfl (qac.cown 0 rfl rfl)) fun a E=>kt 4 E rfl hT (qal rfl) fun a E=>kt 5 E rfl hT (qad qaw rfl) fun a E=>kt 6 E rfl hT (qak qah rfl (qac.cown 0 rfl rfl)) fun a E=>kt 8 E rfl hT (qad qaT rfl) fun a E=>kt 9 E rfl hT (qak qah rfl (qac.cown 0 rfl rfl)) fun a E=>qaC [3] (by kernel_rfl) rfl (qaH ?_)
 ·refine wo rfl<|qas E qpr rfl (qfX N x41.Kind r50 e154 hG ok) rfl rfl ?_
  rintro _ w ⟨⟨rfl,ok⟩,r176⟩
  refine ⟨_,rfl,fun a E=>?_⟩
  refine wn<|qan (cl1 (cq le_m32 ok [0] rfl) (cq le_m32 ok [0] rfl)) fun hT=>qaC [7] (by kernel_rfl) rfl (qaH ?_)
  ·refine qeG (o:=_) rfl ?_
   replace ok:Ok u m32 ([(pb0,oc 43 [c34,c37])] :: M35 :: M38 :: [(b58,oc 63 [vi x41.Kind,vs x41.Text,vs x41.Name,vs x41.Style,c54,c56])] :: S) w:=(ok.pk 4 [1,2,3,0] rfl (by decide))
   refine qas E qlE rfl (qdn N x41.Name l52 v31 h36 h39 e157 hG ok) rfl rfl ?_
   rintro _ w ⟨m177,c179,M180,c182,M183,rfl,hle,ok,r178,h181,h184⟩
   have le_m0:=le_m0.trans hle
   have le_m32:=le_m32.trans hle
   have hl_1:=(mL qaq).up hle hl_1
   have h55:=(mL qa6).up hle h55
   have h57:=(mL qaq).up hle h57
   have at48:=At.up hle at48
   refine ⟨_,rfl,fun a E=>?_⟩
   refine wn<|qan (cl1 (cq le_m32 ok [3] rfl) (cq le_m32 ok [3] rfl)) fun hT=>kt 10 E rfl hT (qav (ps:=[(0,.tmp 17),(1,.tmp 21),(3,.tmp 23)]) (qs:=[(0,[vi r153]),(1,[vi r156.1]),(3,[vs x41.Style])]) (cs:=[vi r153,vi r156.1,vi 0,vs x41.Style]) qbl qbG rfl ⟨rfl,rfl,rfl,⟨rfl,rfl,rfl,⟨rfl,rfl,rfl,trivial⟩⟩⟩ rfl) fun a E=>qaC [11] (by kernel_rfl) rfl (qaH ?_)
   ·refine wo rfl<|qas E qfb rfl (qaQ N _ (Ins.mk r153 r156.1 0 x41.Style) ⟨rfl,r176,r178,(ir 0),l53⟩ r156.2 h181 h184 e167 hG ok) rfl rfl ?_
    rintro _ w ⟨m185,c187,M188,c190,M191,rfl,hle,ok,r186,h189,h192⟩
    have le_m0:=le_m0.trans hle
    have le_m32:=le_m32.trans hle
    have hl_1:=(mL qaq).up hle hl_1
    have h55:=(mL qa6).up hle h55
    have h57:=(mL qaq).up hle h57
    have at48:=At.up hle at48
    refine ⟨_,rfl,fun a E=>?_⟩
    refine wn<|qan (cl1 (cq le_m32 ok [3] rfl) (cq le_m32 ok [3] rfl)) fun hT=>qbq (by kernel_rfl) ?_
    exact ⟨rfl,⟨m185,c187,M188,c190,M191,le_m32,(ok.pk 4 [3,0,1,2] rfl (by decide)),E.keep [0,2,8,9,10],h189,h192⟩⟩
theorem qfE (N:Nat) (ih_compile_compiler_parts:qct N) (ih_compile_compiler_selection:qb2 N):qb2 (N + 1):=by
 intro u m0 S w vx_1 x_1 hx_1 count_2 lcount_2 pb0 c9 M10 c12 M13 x0 h11 h14 r hF hG ok
 obtain ⟨c5,c7,rfl,r1,l2,l3,l4,h6,h8⟩:=(qaL.1 hx_1)
 have le_m0:=Mem.le.refl m0
 have hF0:qbJ (qaA N) (qaB N) N x_1 count_2 x0 = some r:=hF
 have hF:=hF0
 clear hF0
 unfold qbJ at hF
 refine en (qf5 u m0 S pb0 x0 c9 M10 c12 M13) r Tryz.func29 rfl rfl rfl (by rintro a w ⟨m1,c15,M16,c18,M19,hle,ok,hd,hrv,h0,h1⟩; exact qcw [] hd rfl hrv ⟨m1,c15,M16,c18,M19,rfl,hle,ok,h0,h1⟩) fun fin a E=>sg<|qdf E ok rfl rfl rfl fun b21 a w E ok=>wn<|wp_seq<|sg<|fk E ok qar qat rfl 0 rfl rfl fun a E=>lw E (qda rfl rfl) fun a E=>wn<|bd hF fun o22 hJ hF=>qaK (Q':=fun e a w=>e = .normal ∧ Ok u m0 ([(b21,oc 63 [vi x_1.Kind,vs x_1.Text,vs x_1.Name,vs x_1.Style,c5,c7])] :: [(pb0,oc 43 [c9,c12])] :: M10 :: M13 :: S) w ∧ Env 104 a [(0,vp pb0),(2,vs o22),(4,vp b21)] ∧ o22.length ≤ LIMS) ?_ ?_
 ·have hF:=hJ
  refine cg E rfl hF (fun c24 hF=>?_) fun c24 hF=>?_
  ·refine wp_skip ?_
   cases hF
   exact ⟨rfl,⟨ok,E.keep [0,2,4],lcount_2⟩⟩
  refine qab<|fk E ok qaw qah rfl 0 rfl rfl fun a E=>av E rfl fun a E=>wpList_nil ?_
  cases hF
  exact ⟨rfl,⟨ok,E.keep [0,2,4],l3⟩⟩
 intro e a w hO
 obtain ⟨rfl,ok,E,l25⟩:=hO
 refine qaa<|wp_seq<|bd hF fun o26 hJ hF=>qaK (Q':=fun e a w=>e = .normal ∧ ∃ m27 c28 M29 c31 M32,m0.le m27 ∧ Ok u m27 ([(b21,oc 63 [vi x_1.Kind,vs x_1.Text,vs x_1.Name,vs x_1.Style,c5,c7])] :: [(pb0,oc 43 [c28,c31])] :: M29 :: M32 :: S) w ∧ Env 104 a [(0,vp pb0),(2,vs o22),(4,vp b21)] ∧ ORow 9 1 pS m27 c28 o26.Code.Names M29 ∧ ORow 38 4 pIns m27 c31 o26.Code.Ins M32) ?_ ?_
 ·have hF:=hJ
  obtain ⟨r34,e35,hF⟩:=bnd hF
  obtain ⟨r44,e45,hF⟩:=bnd hF
  obtain rfl:=sj hF
  refine qbT [] (Cls u m0 ([(b21,oc 63 [vi x_1.Kind,vs x_1.Text,vs x_1.Name,vs x_1.Style,c5,c7])] :: [])) (Cls u m0 ([(b21,oc 63 [vi x_1.Kind,vs x_1.Text,vs x_1.Name,vs x_1.Style,c5,c7])] :: [])) (by kernel_rfl) ?_
  intro w hw
  replace ok:=qck ok hw
  clear hw
  have h6_o:=h6
  have h8_o:=h8
  refine qan (cl1 (cq le_m0 ok [0] rfl) (cq le_m0 ok [0] rfl)) fun hT=>kt 0 E rfl hT (qal rfl) fun a E=>kt 1 E rfl hT (qal rfl) fun a E=>kt 2 E rfl hT (qad qaw rfl) fun a E=>kt 3 E rfl hT (qak qah rfl (qac.cown 0 rfl rfl)) fun a E=>kt 5 E rfl hT (qad qar rfl) fun a E=>kt 6 E rfl hT (qak qat rfl (qac.cown 0 rfl rfl)) fun a E=>qaC [4] (by kernel_rfl) rfl (qaH ?_)
  ·refine qeG (o:=_) rfl ?_
   replace ok:Ok u m0 ([(pb0,oc 43 [c9,c12])] :: M10 :: M13 :: [(b21,oc 63 [vi x_1.Kind,vs x_1.Text,vs x_1.Name,vs x_1.Style,c5,c7])] :: S) w:=(ok.pk 4 [1,2,3,0] rfl (by decide))
   refine qas E qlE rfl (qdn N x_1.Name l3 x0 h11 h14 e35 hG ok) rfl rfl ?_
   rintro _ w ⟨m54,c56,M57,c59,M60,rfl,hle,ok,r55,h58,h61⟩
   have le_m0:=le_m0.trans hle
   have h6:=(mL qa6).up hle h6
   have h8:=(mL qaq).up hle h8
   refine ⟨_,rfl,fun a E=>?_⟩
   refine wn<|qan (cl1 (cq le_m0 ok [3] rfl) (cq le_m0 ok [3] rfl)) fun hT=>kt 7 E rfl hT (qav (ps:=[(0,.const (vi 10)),(1,.tmp 23),(2,.tmp 25)]) (qs:=[(0,[vi 10]),(1,[vi r34.1]),(2,[vi x_1.Kind])]) (cs:=[vi 10,vi r34.1,vi x_1.Kind,(vs ([]))]) qbl qbG rfl ⟨rfl,rfl,rfl,⟨rfl,rfl,rfl,⟨rfl,rfl,rfl,trivial⟩⟩⟩ rfl) fun a E=>qaC [8] (by kernel_rfl) rfl (qaH ?_)
   ·refine wo rfl<|qas E qfb rfl (qaQ N _ (Ins.mk 10 r34.1 x_1.Kind ([])) ⟨rfl,(ir 10),r55,r1,(Nat.zero_le _)⟩ r34.2 h58 h61 e45 hG ok) rfl rfl ?_
    rintro _ w ⟨m62,c64,M65,c67,M68,rfl,hle,ok,r63,h66,h69⟩
    have le_m0:=le_m0.trans hle
    have h6:=(mL qa6).up hle h6
    have h8:=(mL qaq).up hle h8
    refine ⟨_,rfl,fun a E=>?_⟩
    refine wn<|qan (cl1 (cq le_m0 ok [3] rfl) (cq le_m0 ok [3] rfl)) fun hT=>qbq (by kernel_rfl) ?_
    exact ⟨rfl,⟨m62,c64,M65,c67,M68,le_m0,(ok.pk 4 [3,0,1,2] rfl (by decide)),E.keep [0,2,4],h66,h69⟩⟩
 intro e a w hO
 obtain ⟨rfl,m70,c71,M72,c74,M75,hle,ok,E,h73,h76⟩:=hO
 have le_m0:=le_m0.trans hle
 have h6:=(mL qa6).up hle h6
 have h8:=(mL qaq).up hle h8
 refine qaa<|sg<|mv E rfl fun a E=>lw E (qaE rfl) fun a E=>fv E qd0 rfl fun a E=>fk E ok qbF qbO rfl 1 rfl rfl fun a E=>lv E ok (qgh qbp h76 rfl) fun a E=>aw E rfl fun a E=>wp_seq<|sg<|fv E qaR rfl fun a E=>ld E ok qaZ 0 rfl rfl rfl fun a E=>lv E ok (qax qbe h6 rfl) fun a E=>mv E rfl fun a E=>wn<|wp_block<|bd hF fun o85 hL hF=>qaX _ (fun (s:Int × Compiler) a w=>∃ m86 c88 M89 c91 M92,m70.le m86 ∧ Ok u m86 ([(b21,oc 63 [vi x_1.Kind,vs x_1.Text,vs x_1.Name,vs x_1.Style,c5,c7])] :: [(pb0,oc 43 [c88,c91])] :: M89 :: M92 :: S) w ∧ Env 104 a [(0,vp pb0),(2,vs o22),(4,vp b21),(6,(vi (o26.Code.Ins.length:Int))),(35,c5),(36,(vi (x_1.Cases.length:Int))),(37,vi s.1)] ∧ InR .i64 s.1 ∧ ORow 9 1 pS m86 c88 s.2.Code.Names M89 ∧ ORow 38 4 pIns m86 c91 s.2.Code.Ins M92) (fun (b:Compiler) e a w=>e = (.exit 0) ∧ ∃ m378 c379 M380 c382 M383,m70.le m378 ∧ Ok u m378 ([(b21,oc 63 [vi x_1.Kind,vs x_1.Text,vs x_1.Name,vs x_1.Style,c5,c7])] :: [(pb0,oc 43 [c379,c382])] :: M380 :: M383 :: S) w ∧ Env 104 a [(0,vp pb0),(2,vs o22),(4,vp b21),(6,(vi (o26.Code.Ins.length:Int)))] ∧ ORow 9 1 pS m378 c379 b.Code.Names M380 ∧ ORow 38 4 pIns m378 c382 b.Code.Ins M383) ?_ ?_ N _ a w hL ⟨m70,c71,M72,c74,M75,Mem.le.refl _,ok,E.keep [0,2,4,6,35,36,37],(ir 0),h73,h76⟩
 ·rintro ⟨v94,v95⟩ a w r ⟨m96,c98,M99,c101,M102,hle,ok,E,r97,h100,h103⟩ hF
  replace hF:qbt (qaA N) (qaB N) N x_1 v94 v95 = some r:=hF
  unfold qbt at hF
  have le_m70:=Mem.le.refl m70
  have le_m0:=le_m0.trans hle
  have le_m70:=le_m70.trans hle
  have h6:=(mL qa6).up hle h6
  have h8:=(mL qaq).up hle h8
  refine sg<|lw E (qaJ rfl rfl) fun a E=>wn<|wp_seq<|cg E rfl hF (fun c104 hF=>?_) fun c104 hF=>?_
  ·refine wp_exit<|qaO ?_
   cases hF
   exact so (⟨rfl,⟨m96,c98,M99,c101,M102,le_m70,ok,E.keep [0,2,4,6],h100,h103⟩⟩)
  refine wp_skip<|qaa<|wp_seq<|wp_block<|sg ?_
  obtain ⟨x105,e106,hF⟩:=bnd hF
  obtain ⟨b107,o108,es109,hl110,rr111,at112,yy113⟩:=ia E 35 37 qbe h6 e106
  obtain ⟨c115,rfl,l114,h116⟩:=rr111
  refine lv E ok (yy113 _ _) fun a E=>lv E ok (qaj (cs:=[vs x105.Key,c115]) qg1 rfl rfl (qac.ro at112)) fun a E=>qbh E ok qf1 rfl rfl fun b117 a w E ok=>qai E ok 0 rfl rfl rfl qg3 rfl rfl ⟨rfl,(qcW h116),trivial⟩ rfl rfl fun w ok=>wn<|qab<|mv E rfl fun a E=>fk E ok qcr qah rfl 0 rfl rfl fun a E=>lw E (qav (ps:=[(0,.const (vi 11)),(3,.tmp 43)]) (qs:=[(0,[vi 11]),(3,[vs x105.Key])]) (cs:=[vi 11,vi 0,vi 0,vs x105.Key]) qbl qbG rfl ⟨rfl,rfl,rfl,⟨rfl,rfl,rfl,trivial⟩⟩ rfl) fun a E=>?_
  obtain ⟨r118,e119,hF⟩:=bnd hF
  replace ok:Ok u m96 ([(pb0,oc 43 [c98,c101])] :: M99 :: M102 :: [(b117,oc 65 [vs x105.Key,c115])] :: [(b21,oc 63 [vi x_1.Kind,vs x_1.Text,vs x_1.Name,vs x_1.Style,c5,c7])] :: S) w:=(ok.pk 5 [2,3,4,0,1] rfl (by decide))
  refine qas E qfb rfl (qaQ N _ (Ins.mk 11 0 0 x105.Key) ⟨rfl,(ir 11),(ir 0),(ir 0),l114⟩ v95 h100 h103 e119 hG ok) rfl rfl ?_
  rintro _ w ⟨m120,c122,M123,c125,M126,rfl,hle,ok,r121,h124,h127⟩
  have le_m0:=le_m0.trans hle
  have le_m70:=le_m70.trans hle
  have h6:=(mL qa6).up hle h6
  have h8:=(mL qaq).up hle h8
  have h116:=(mL qaq).up hle h116
  have at112:=At.up hle at112
  refine ⟨_,rfl,fun a E=>?_⟩
  refine wpList_nil<|qag<|qaa<|qab<|lw E (qau rfl rfl (InR.inc r97 (qae h6) c104)) fun a E=>mv E rfl fun a E=>wpList_nil ?_
  cases hF
  exact qap ⟨m120,c122,M123,c125,M126,le_m70,(ok.pk 5 [4,0,1,2] rfl (by decide)),E.keep [0,2,4,6,35,36,37],(InR.inc r97 (qae h6) c104),h124,h127⟩
 intro e a w _ hO
 obtain ⟨rfl,m128,c129,M130,c132,M133,hle,ok,E,h131,h134⟩:=hO
 have le_m0:=le_m0.trans hle
 have h6:=(mL qa6).up hle h6
 have h8:=(mL qaq).up hle h8
 refine qba<|qaa<|sg<|aw E rfl fun a E=>wp_seq<|sg<|fk E ok qaR qaZ rfl 0 rfl rfl fun a E=>lv E ok (qax qbe h6 rfl) fun a E=>mv E rfl fun a E=>wn<|wp_block ?_
 obtain ⟨M146,ok,h147⟩:=qgr (e:=3) (k:=1) (R:=(pI .i64)) ok
 refine bd hF fun o148 hL hF=>qaX _ (fun (s:(List (Int)) × Int × Compiler) a w=>∃ m149 c150 M151 c154 M155 c157 M158,m128.le m149 ∧ Ok u m149 (M151 :: [(b21,oc 63 [vi x_1.Kind,vs x_1.Text,vs x_1.Name,vs x_1.Style,c5,c7])] :: [(pb0,oc 43 [c154,c157])] :: M155 :: M158 :: S) w ∧ Env 104 a [(0,vp pb0),(2,vs o22),(6,(vi (o26.Code.Ins.length:Int))),(9,c150),(48,c5),(49,(vi (x_1.Cases.length:Int))),(50,vi s.2.1)] ∧ ORow 3 1 (pI .i64) m149 c150 s.1 M151 ∧ InR .i64 s.2.1 ∧ ORow 9 1 pS m149 c154 s.2.2.Code.Names M155 ∧ ORow 38 4 pIns m149 c157 s.2.2.Code.Ins M158) (fun (b:(Compiler × (List (Int)))) e a w=>e = (.exit 2) ∧ ∃ m368 c369 M370 c372 M373 c375 M376,m128.le m368 ∧ Ok u m368 (M376 :: [(b21,oc 63 [vi x_1.Kind,vs x_1.Text,vs x_1.Name,vs x_1.Style,c5,c7])] :: [(pb0,oc 43 [c369,c372])] :: M370 :: M373 :: S) w ∧ Env 104 a [(0,vp pb0),(9,c375)] ∧ ORow 9 1 pS m368 c369 b.1.Code.Names M370 ∧ ORow 38 4 pIns m368 c372 b.1.Code.Ins M373 ∧ ORow 3 1 (pI .i64) m368 c375 b.2 M376) ?_ ?_ N _ a w hL ⟨m128,(Value.slice none 0 0),M146,c129,M130,c132,M133,Mem.le.refl _,ok,E.keep [0,2,6,9,48,49,50],h147,(ir 0),h131,h134⟩
 rotate_left
 ·as_aux_lemma =>
   intro e a w _ hO
   obtain ⟨rfl,m262,c263,M264,c266,M267,c269,M270,hle,ok,E,h265,h268,h271⟩:=hO
   have le_m0:=le_m0.trans hle
   have h6:=(mL qa6).up hle h6
   have h8:=(mL qaq).up hle h8
   refine qba<|qaa<|sg<|mv E rfl fun a E=>lv E ok (qgh qlH h271 rfl) fun a E=>mv E rfl fun a E=>wn<|wp_block<|bd hF fun o280 hL hF=>qaX _ (fun (s:Int × Compiler) a w=>∃ c282 M283 c285 M286,Ok u m262 (M270 :: [(b21,oc 63 [vi x_1.Kind,vs x_1.Text,vs x_1.Name,vs x_1.Style,c5,c7])] :: [(pb0,oc 43 [c282,c285])] :: M283 :: M286 :: S) w ∧ Env 104 a [(0,vp pb0),(83,c269),(84,(vi (o148.2.length:Int))),(85,vi s.1)] ∧ InR .i64 s.1 ∧ ORow 9 1 pS m262 c282 s.2.Code.Names M283 ∧ ORow 38 4 pIns m262 c285 s.2.Code.Ins M286) (fun (b:Compiler) e a w=>e = (.exit 4) ∧ ∃ c362 M363 c365 M366,Ok u m262 (M270 :: [(b21,oc 63 [vi x_1.Kind,vs x_1.Text,vs x_1.Name,vs x_1.Style,c5,c7])] :: [(pb0,oc 43 [c362,c365])] :: M363 :: M366 :: S) w ∧ Env 104 a [] ∧ ORow 9 1 pS m262 c362 b.Code.Names M363 ∧ ORow 38 4 pIns m262 c365 b.Code.Ins M366) ?_ ?_ N _ a w hL ⟨c263,M264,c266,M267,ok,E.keep [0,83,84,85],(ir 0),h265,h268⟩
   rotate_left
   ·intro e a w _ hO
    obtain ⟨rfl,c356,M357,c359,M360,ok,E,h358,h361⟩:=hO
    refine qba ?_
    exact fin hF ⟨m262,c356,M357,c359,M360,le_m0,ok.drop.drop,E.d,trivial,h358,h361⟩
   rintro ⟨v288,v289⟩ a w r ⟨c291,M292,c294,M295,ok,E,r290,h293,h296⟩ hF
   replace hF:qbv (qaA N) (qaB N) N o148 v288 v289 = some r:=hF
   unfold qbv at hF
   refine sg<|lw E (qaJ rfl rfl) fun a E=>wn<|wp_seq<|cg E rfl hF (fun c297 hF=>?_) fun c297 hF=>?_
   ·refine wp_exit<|qaO ?_
    cases hF
    exact so (⟨rfl,⟨c291,M292,c294,M295,ok,E.keep [],h293,h296⟩⟩)
   refine wp_skip<|qaa<|wp_seq<|wp_block<|sg ?_
   obtain ⟨x298,e299,hF⟩:=bnd hF
   obtain ⟨b300,o301,hp302,yy303⟩:=qdd qlH h271 e299 (P:=Tryz.prog) (X:=.tmp 83) (I:=.tmp 85) (kd:=.i64) (qaS E rfl) (qaS E rfl)
   refine lv E ok (yy303 _ _) fun a E=>?_
   obtain ⟨es304,hl305,rr306,hh307⟩:=qeT h271 e299 hp302 (by decide)
   obtain ⟨rfl,r308⟩:=rr306
   refine lv E ok (qak qat rfl (hh307 _ _ _ 0 rfl)) fun a E=>aw E rfl fun a E=>bd hF fun o309 hJ hF=>qaK (Q':=fun e a w=>e = .normal ∧ ∃ c310 M311 c313 M314,Ok u m262 (M270 :: [(b21,oc 63 [vi x_1.Kind,vs x_1.Text,vs x_1.Name,vs x_1.Style,c5,c7])] :: [(pb0,oc 43 [c310,c313])] :: M311 :: M314 :: S) w ∧ Env 104 a [(0,vp pb0),(83,c269),(84,(vi (o148.2.length:Int))),(85,vi v288)] ∧ ORow 9 1 pS m262 c310 o309.Code.Names M311 ∧ ORow 38 4 pIns m262 c313 o309.Code.Ins M314) ?_ ?_
   rotate_left
   ·intro e a w hO
    obtain ⟨rfl,c350,M351,c353,M354,ok,E,h352,h355⟩:=hO
    refine qag<|qaa<|qab<|lw E (qau rfl rfl (InR.inc r290 (ORow.InR h271) c297)) fun a E=>mv E rfl fun a E=>wpList_nil ?_
    cases hF
    exact qap ⟨c350,M351,c353,M354,ok,E.keep [0,83,84,85],(InR.inc r290 (ORow.InR h271) c297),h352,h355⟩
   have hF:=hJ
   obtain ⟨x316,e317,hF⟩:=bnd hF
   obtain ⟨l326,e327,hF⟩:=bnd hF
   obtain rfl:=sj hF
   refine qbT [] (Cls u m262 (M270 :: [(b21,oc 63 [vi x_1.Kind,vs x_1.Text,vs x_1.Name,vs x_1.Style,c5,c7])] :: M292 :: [])) (Cls u m262 (M270 :: [(b21,oc 63 [vi x_1.Kind,vs x_1.Text,vs x_1.Name,vs x_1.Style,c5,c7])] :: M292 :: [])) (by kernel_rfl) ?_
   intro w hw
   replace ok:=qck ok hw
   clear hw
   have le_m262:=Mem.le.refl m262
   refine qan (cl1 (cq le_m262 ok [0,1,3] rfl) (cq le_m262 ok [0,1,3] rfl)) fun hT=>kt 0 E rfl hT (qal rfl) fun a E=>kt 1 E rfl hT (qaE rfl) fun a E=>kt 2 E rfl hT (qad qd0 rfl) fun a E=>kt 3 E rfl hT (qad qbF rfl) fun a E=>kt 5 E rfl hT (qal rfl) fun a E=>kt 6 E rfl hT (qal rfl) fun a E=>kt 7 E rfl hT (qaE rfl) fun a E=>kt 8 E rfl hT (qad qd0 rfl) fun a E=>kt 9 E rfl hT (qad qbF rfl) fun a E=>qaC [4,10] (by kernel_rfl) rfl (qd9 ?_ (qd9 ?_ (qgC)))
   ·refine wo rfl<|ld E ok qbO 2 rfl rfl rfl fun a E=>wn<|qan (cl1 (cq le_m262 ok [0,1,3] rfl) (cq le_m262 ok [0,1,3] rfl)) fun hT=>qaC [10] (by kernel_rfl) rfl (qaH ?_)
    ·refine wo rfl<|ld E ok qbO 2 rfl rfl rfl fun a E=>wn<|qan (cl1 (cq le_m262 ok [0,1,3] rfl) (cq le_m262 ok [0,1,3] rfl)) fun hT=>kt 11 E rfl hT (qgh qbp h296 rfl) fun a E=>?_
     obtain ⟨b330,o331,hp332,yy333⟩:=qdd qbp h296 e317 (P:=Tryz.prog) (X:=.tmp 93) (I:=.tmp 94) (kd:=.i64) (qaS E rfl) (qaS E rfl)
     refine kt 12 E rfl hT (yy333 _ _) fun a E=>kt 13 E rfl hT (qad qef rfl) fun a E=>qaC [14] (by kernel_rfl) rfl (qaH ?_)
     ·refine wo rfl<|qf8 (R:=pIns) (f:=1) E ok 4 rfl h296 e317 hp332 rfl rfl rfl qj9 rfl rfl rfl ⟨rfl,trivial⟩ (fun es _ h=>by obtain ⟨rfl,r334,r335,r336,l337⟩:=h; exact ⟨rfl,r334,(ORow.InR h296),r336,l337⟩) e327 rfl fun M338 w ok h339=>wn<|qan (cl1 (cq le_m262 ok [0,1,3] rfl) (cq le_m262 ok [0,1,3] rfl)) fun hT=>qbq (by kernel_rfl) ?_
      exact ⟨rfl,⟨c291,M292,c294,M338,ok,E.keep [0,83,84,85],h293,h339⟩⟩
   refine wo rfl<|ld E ok qbO 2 rfl rfl rfl fun a E=>wn<|qan (cl1 (cq le_m262 ok [0,1,3] rfl) (cq le_m262 ok [0,1,3] rfl)) fun hT=>kt 11 E rfl hT (qgh qbp h296 rfl) fun a E=>qaC [4] (by kernel_rfl) rfl (qaH ?_)
   ·refine wo rfl<|ld E ok qbO 2 rfl rfl rfl fun a E=>wn<|qan (cl1 (cq le_m262 ok [0,1,3] rfl) (cq le_m262 ok [0,1,3] rfl)) fun hT=>?_
    obtain ⟨b340,o341,hp342,yy343⟩:=qdd qbp h296 e317 (P:=Tryz.prog) (X:=.tmp 93) (I:=.tmp 94) (kd:=.i64) (qaS E rfl) (qaS E rfl)
    refine kt 12 E rfl hT (yy343 _ _) fun a E=>kt 13 E rfl hT (qad qef rfl) fun a E=>qaC [14] (by kernel_rfl) rfl (qaH ?_)
    ·refine wo rfl<|qf8 (R:=pIns) (f:=1) E ok 4 rfl h296 e317 hp342 rfl rfl rfl qj9 rfl rfl rfl ⟨rfl,trivial⟩ (fun es _ h=>by obtain ⟨rfl,r344,r345,r346,l347⟩:=h; exact ⟨rfl,r344,(ORow.InR h296),r346,l347⟩) e327 rfl fun M348 w ok h349=>wn<|qan (cl1 (cq le_m262 ok [0,1,3] rfl) (cq le_m262 ok [0,1,3] rfl)) fun hT=>qbq (by kernel_rfl) ?_
     exact ⟨rfl,⟨c291,M292,c294,M348,ok,E.keep [0,83,84,85],h293,h349⟩⟩
 rintro ⟨v160,v161,v162⟩ a w r ⟨m163,c164,M165,c168,M169,c171,M172,hle,ok,E,h166,r167,h170,h173⟩ hF
 replace hF:qbu (qaA N) (qaB N) N x_1 o22 o26 v160 v161 v162 = some r:=hF
 unfold qbu at hF
 have le_m128:=Mem.le.refl m128
 have le_m0:=le_m0.trans hle
 have le_m128:=le_m128.trans hle
 have h6:=(mL qa6).up hle h6
 have h8:=(mL qaq).up hle h8
 refine sg<|lw E (qaJ rfl rfl) fun a E=>wn<|wp_seq<|cg E rfl hF (fun c174 hF=>?_) fun c174 hF=>?_
 ·refine wp_exit<|qaO ?_
  cases hF
  exact so (⟨rfl,⟨m163,c168,M169,c171,M172,c164,M165,le_m128,ok,E.keep [0,9],h170,h173,h166⟩⟩)
 refine wp_skip<|qaa<|wp_seq<|wp_block<|sg<|mv E rfl fun a E=>?_
 obtain ⟨x175,e176,hF⟩:=bnd hF
 obtain ⟨b177,o178,es179,hl180,rr181,at182,yy183⟩:=ia E 48 50 qbe h6 e176
 obtain ⟨c185,rfl,l184,h186⟩:=rr181
 refine lv E ok (yy183 _ _) fun a E=>lv E ok (qaj (cs:=[vs x175.Key,c185]) qg1 rfl rfl (qac.ro at182)) fun a E=>qbh E ok qf1 rfl rfl fun b187 a w E ok=>av E rfl fun a E=>qai E ok 0 rfl rfl rfl qg3 rfl rfl ⟨rfl,(qcW h186),trivial⟩ rfl rfl fun w ok=>wn<|wp_seq<|bd hF fun o188 hJ hF=>qaK (Q':=fun e a w=>e = .normal ∧ ∃ c189 M190 c192 M193,Ok u m163 ([(b187,oc 65 [vs x175.Key,c185])] :: M165 :: [(b21,oc 63 [vi x_1.Kind,vs x_1.Text,vs x_1.Name,vs x_1.Style,c5,c7])] :: [(pb0,oc 43 [c189,c192])] :: M190 :: M193 :: S) w ∧ Env 104 a [(0,vp pb0),(2,vs o22),(6,(vi (o26.Code.Ins.length:Int))),(9,c164),(11,vp b187),(48,c5),(49,(vi (x_1.Cases.length:Int))),(50,vi v161)] ∧ ORow 9 1 pS m163 c189 o188.Code.Names M190 ∧ ORow 38 4 pIns m163 c192 o188.Code.Ins M193) ?_ ?_
 rotate_left
 ·intro e a w hO
  obtain ⟨rfl,c229,M230,c232,M233,ok,E,h231,h234⟩:=hO
  refine qaa<|sg<|mv E rfl fun a E=>fk E ok qdP qa2 rfl 0 rfl rfl fun a E=>mv E rfl fun a E=>?_
  obtain ⟨r235,e236,hF⟩:=bnd hF
  replace ok:Ok u m163 ([(pb0,oc 43 [c229,c232])] :: M230 :: M233 :: [(b187,oc 65 [vs x175.Key,c185])] :: M165 :: [(b21,oc 63 [vi x_1.Kind,vs x_1.Text,vs x_1.Name,vs x_1.Style,c5,c7])] :: S) w:=(ok.pk 6 [3,4,5,0,1,2] rfl (by decide))
  refine qas E qlx rfl (ih_compile_compiler_parts _ x175.Parts h186 o22 l25 o188 h231 h234 e236 hG ok) rfl rfl ?_
  rintro _ w ⟨m237,c238,M239,c241,M242,rfl,hle,ok,h240,h243⟩
  have le_m0:=le_m0.trans hle
  have le_m128:=le_m128.trans hle
  have h6:=(mL qa6).up hle h6
  have h8:=(mL qaq).up hle h8
  have h166:=ORow.up (mI .i64) hle h166
  have h186:=(mL qaq).up hle h186
  have at182:=At.up hle at182
  refine ⟨_,rfl,fun a E=>?_⟩
  refine wn<|qab<|mz E rfl rfl fun a E=>lw E (qav (ps:=[(0,.const (vi 12))]) (qs:=[(0,[vi 12])]) (cs:=[vi 12,vi 0,vi 0,(vs ([]))]) qbl qbG rfl ⟨rfl,rfl,rfl,trivial⟩ rfl) fun a E=>bd hF fun r244 e245 hF=>qas E qfb rfl (qaQ N _ (Ins.mk 12 0 0 ([])) ⟨rfl,(ir 12),(ir 0),(ir 0),(Nat.zero_le _)⟩ r235 h240 h243 e245 hG ok) rfl rfl ?_
  rintro _ w ⟨m246,c248,M249,c251,M252,rfl,hle,ok,r247,h250,h253⟩
  have le_m0:=le_m0.trans hle
  have le_m128:=le_m128.trans hle
  have h6:=(mL qa6).up hle h6
  have h8:=(mL qaq).up hle h8
  have h166:=ORow.up (mI .i64) hle h166
  have h186:=(mL qaq).up hle h186
  have at182:=At.up hle at182
  refine ⟨_,rfl,fun a E=>?_⟩
  refine qcy (R:=(pI .i64)) (xo:=[.tmp 79]) (xs:=([r244.1]:List (Int))) E ok qlH qnN rfl ⟨⟨_,rfl,rfl,(qlC r247)⟩,trivial⟩ rfl rfl rfl rfl fun c254 M255 a w E ok h256=>bd hF fun l257 e258 hF=>qec (R:=(pI .i64)) E ok 5 (mI .i64) qlH Tryz.underlying83 rfl h166 (qb5.ofRow h256 0 rfl ok) e258 ⟨_,qnN,rfl⟩ rfl rfl rfl rfl fun c259 M260 a w E ok h261=>av E rfl fun a E=>wpList_nil<|qag<|qaa<|qab<|lw E (qau rfl rfl (InR.inc r167 (qae h6) c174)) fun a E=>mv E rfl fun a E=>wpList_nil ?_
  cases hF
  exact qap ⟨m246,c259,M260,c248,M249,c251,M252,le_m128,(ok.pk 7 [5,6,1,2,3] rfl (by decide)),E.keep [0,2,6,9,48,49,50],h261,(InR.inc r167 (qae h6) c174),h250,h253⟩
 have hF:=hJ
 obtain ⟨x195,e196,hF⟩:=bnd hF
 obtain ⟨l205,e206,hF⟩:=bnd hF
 obtain rfl:=sj hF
 refine qbT [] (Cls u m163 ([(b187,oc 65 [vs x175.Key,c185])] :: M165 :: [(b21,oc 63 [vi x_1.Kind,vs x_1.Text,vs x_1.Name,vs x_1.Style,c5,c7])] :: M169 :: [])) (Cls u m163 ([(b187,oc 65 [vs x175.Key,c185])] :: M165 :: [(b21,oc 63 [vi x_1.Kind,vs x_1.Text,vs x_1.Name,vs x_1.Style,c5,c7])] :: M169 :: [])) (by kernel_rfl) ?_
 intro w hw
 replace ok:=qck ok hw
 clear hw
 have le_m163:=Mem.le.refl m163
 refine qan (cl1 (cq le_m163 ok [0,1,2,4] rfl) (cq le_m163 ok [0,1,2,4] rfl)) fun hT=>kt 0 E rfl hT (qal rfl) fun a E=>kt 1 E rfl hT (qaE rfl) fun a E=>kt 2 E rfl hT (qad qd0 rfl) fun a E=>kt 3 E rfl hT (qad qbF rfl) fun a E=>kt 5 E rfl hT (qal rfl) fun a E=>kt 6 E rfl hT (qal rfl) fun a E=>kt 7 E rfl hT (qbb rfl rfl) fun a E=>kt 8 E rfl hT (qal rfl) fun a E=>kt 9 E rfl hT (qaE rfl) fun a E=>kt 10 E rfl hT (qad qd0 rfl) fun a E=>kt 11 E rfl hT (qad qbF rfl) fun a E=>qaC [4,12] (by kernel_rfl) rfl (qd9 ?_ (qd9 ?_ (qgC)))
 ·refine wo rfl<|ld E ok qbO 3 rfl rfl rfl fun a E=>wn<|qan (cl1 (cq le_m163 ok [0,1,2,4] rfl) (cq le_m163 ok [0,1,2,4] rfl)) fun hT=>qaC [12] (by kernel_rfl) rfl (qaH ?_)
  ·refine wo rfl<|ld E ok qbO 3 rfl rfl rfl fun a E=>wn<|qan (cl1 (cq le_m163 ok [0,1,2,4] rfl) (cq le_m163 ok [0,1,2,4] rfl)) fun hT=>kt 13 E rfl hT (qgh qbp h173 rfl) fun a E=>?_
   obtain ⟨b209,o210,hp211,yy212⟩:=qdd qbp h173 e196 (P:=Tryz.prog) (X:=.tmp 59) (I:=.tmp 62) (kd:=.i64) (qaS E rfl) (qaS E rfl)
   refine kt 14 E rfl hT (yy212 _ _) fun a E=>kt 15 E rfl hT (qad qef rfl) fun a E=>qaC [16] (by kernel_rfl) rfl (qaH ?_)
   ·refine wo rfl<|qf8 (R:=pIns) (f:=1) E ok 5 rfl h173 e196 hp211 rfl rfl rfl qj9 rfl rfl rfl ⟨rfl,trivial⟩ (fun es _ h=>by obtain ⟨rfl,r213,r214,r215,l216⟩:=h; exact ⟨rfl,r213,(ORow.InR h173),r215,l216⟩) e206 rfl fun M217 w ok h218=>wn<|qan (cl1 (cq le_m163 ok [0,1,2,4] rfl) (cq le_m163 ok [0,1,2,4] rfl)) fun hT=>qbq (by kernel_rfl) ?_
    exact ⟨rfl,⟨c168,M169,c171,M217,ok,E.keep [0,2,6,9,11,48,49,50],h170,h218⟩⟩
 refine wo rfl<|ld E ok qbO 3 rfl rfl rfl fun a E=>wn<|qan (cl1 (cq le_m163 ok [0,1,2,4] rfl) (cq le_m163 ok [0,1,2,4] rfl)) fun hT=>kt 13 E rfl hT (qgh qbp h173 rfl) fun a E=>qaC [4] (by kernel_rfl) rfl (qaH ?_)
 ·refine wo rfl<|ld E ok qbO 3 rfl rfl rfl fun a E=>wn<|qan (cl1 (cq le_m163 ok [0,1,2,4] rfl) (cq le_m163 ok [0,1,2,4] rfl)) fun hT=>?_
  obtain ⟨b219,o220,hp221,yy222⟩:=qdd qbp h173 e196 (P:=Tryz.prog) (X:=.tmp 59) (I:=.tmp 62) (kd:=.i64) (qaS E rfl) (qaS E rfl)
  refine kt 14 E rfl hT (yy222 _ _) fun a E=>kt 15 E rfl hT (qad qef rfl) fun a E=>qaC [16] (by kernel_rfl) rfl (qaH ?_)
  ·refine wo rfl<|qf8 (R:=pIns) (f:=1) E ok 5 rfl h173 e196 hp221 rfl rfl rfl qj9 rfl rfl rfl ⟨rfl,trivial⟩ (fun es _ h=>by obtain ⟨rfl,r223,r224,r225,l226⟩:=h; exact ⟨rfl,r223,(ORow.InR h173),r225,l226⟩) e206 rfl fun M227 w ok h228=>wn<|qan (cl1 (cq le_m163 ok [0,1,2,4] rfl) (cq le_m163 ok [0,1,2,4] rfl)) fun hT=>qbq (by kernel_rfl) ?_
   exact ⟨rfl,⟨c168,M169,c171,M227,ok,E.keep [0,2,6,9,11,48,49,50],h170,h228⟩⟩
theorem qgk:qct 0:=by
 intro u m0 S w vl_1 l_1 hl_1 count_2 lcount_2 pb0 c1 M2 c4 M5 x0 h3 h6 r hF hG ok
 replace hF:none = some r:=hF
 cases hF
theorem qfG:qb2 0:=by
 intro u m0 S w vx_1 x_1 hx_1 count_2 lcount_2 pb0 c9 M10 c12 M13 x0 h11 h14 r hF hG ok
 replace hF:none = some r:=hF
 cases hF
theorem qfT (N:Nat):qct N ∧ qb2 N:=by
 induction N with
 | zero=>exact ⟨qgk,qfG⟩
 | succ N h=>exact ⟨qgd N h.1 h.2,qfE N h.1 h.2⟩
theorem qgZ {u:World} {m0:Mem} {S:Segs} {w:World} (N:Nat) (vl_1:Value) (l_1:List (Part)) (hl_1:(pL 6 qbD) m0 [vl_1] l_1) (count_2:List UInt8) (lcount_2:count_2.length ≤ LIMS) {pb0:Nat} {c1:Value} {M2:List (Nat × Obj)} {c4:Value} {M5:List (Nat × Obj)} (x0:Compiler) (h3:ORow 9 1 pS m0 c1 x0.Code.Names M2) (h6:ORow 38 4 pIns m0 c4 x0.Code.Ins M5) {r:Compiler} (hF:qaA N l_1 count_2 x0 = some r) (hG:Glob u) (ok:Ok u m0 ([(pb0,oc 43 [c1,c4])] :: M2 :: M5 :: S) w) :
 Calls Tryz.prog 15 [vp pb0,vl_1,vs count_2].toArray w fun e w'=>∃ m1 c7 M8 c10 M11,e = .returned (.tuple [].toArray) ∧ m0.le m1 ∧ Ok u m1 ([(pb0,oc 43 [c7,c10])] :: M8 :: M11 :: S) w' ∧ ORow 9 1 pS m1 c7 r.Code.Names M8 ∧ ORow 38 4 pIns m1 c10 r.Code.Ins M11:=(qfT N).1 vl_1 l_1 hl_1 count_2 lcount_2 x0 h3 h6 hF hG ok
def qjz (u:World) (m0:Mem) (S:Segs) (r:Code × Int) (a:Act) (w:World):Prop :=
 ∃ m1 v0,m0.le m1 ∧ Ok u m1 S w ∧ a.defers = [] ∧ RVs Tryz.prog a w [.c 2 28 (.agg v0.toArray),.t 3 (.int .i64 r.2)] ∧ qgF m1 v0 r.1 ∧ InR .i64 r.2
theorem qjE (N:Nat) (vparts_0:Value) (parts_0:List (Part)) (hparts_0:(pL 6 qbD) m0 [vparts_0] parts_0) {r:Code × Int} (hF:qes N parts_0 = some r) (hG:Glob u) (ok:Ok u m0 S w) :
  Calls Tryz.prog 6 [vparts_0].toArray w fun e w'=>∃ m1 v0,e = .returned (.tuple [(.agg v0.toArray),(.int .i64 r.2)].toArray) ∧ m0.le m1 ∧ Ok u m1 S w' ∧ qgF m1 v0 r.1 ∧ InR .i64 r.2:=by
 have le_m0:=Mem.le.refl m0
 unfold qes at hF
 refine en (qjz u m0 S) r Tryz.func6 rfl rfl rfl (by rintro a w ⟨m1,v0,hle,ok,hd,hrv,h0,h1⟩; exact qcw [.c 2 28 (.agg v0.toArray),.t 3 (.int .i64 r.2)] hd rfl hrv ⟨m1,v0,rfl,hle,ok,h0,h1⟩) fun fin a E=>sg<|qbh E ok qf3 rfl rfl fun b1 a w E ok=>aw E rfl fun a E=>wp_seq<|sg<|mv E rfl fun a E=>bd hF fun r2 e3 hF=>lc E qrf rfl (qkH N _ parts_0 hparts_0 e3 hG ok) fun w ok a E=>lw E (qaz rfl) fun a E=>wn<|cf E rfl hF (fun c4 hF=>?_) fun c4 hF=>?_
 ·refine sg<|lw E (qav (ps:=[]) (qs:=[]) (cs:=[(Value.slice none 0 0),(Value.slice none 0 0)]) qf3 qgq rfl trivial rfl) fun a E=>qai E ok 0 rfl rfl rfl qlM rfl rfl ⟨rfl,rfl,trivial⟩ rfl rfl fun w ok=>aw E rfl fun a E=>wp_ret<|qaf ?_
  exact fin hF ⟨m0,[(Value.slice none 0 0),(Value.slice none 0 0)],le_m0,ok.drop,E.d,⟨rv_c (cs:=[(Value.slice none 0 0),(Value.slice none 0 0)]) E ok rfl qd5 rfl (qac.own 0 rfl rfl),rv_t E rfl,trivial⟩,⟨_,_,rfl,qfQ,qfQ⟩,(ir 1)⟩
 refine wp_skip<|qaa<|sg<|lw E (qav (ps:=[]) (qs:=[]) (cs:=[(Value.slice none 0 0),(Value.slice none 0 0)]) qpF qn7 rfl trivial rfl) fun a E=>qdf E ok rfl rfl rfl fun b5 a w E ok=>av E rfl fun a E=>wn<|sg<|mz E rfl rfl fun a E=>?_
 obtain ⟨M6,ok,h7⟩:=qgr (e:=9) (k:=1) (R:=pS) ok
 obtain ⟨M8,ok,h9⟩:=qgr (e:=38) (k:=4) (R:=pIns) ok
 obtain ⟨r10,e11,hF⟩:=bnd hF
 replace ok:Ok u m0 ([(b5,oc 43 [(Value.slice none 0 0),(Value.slice none 0 0)])] :: M6 :: M8 :: [(b1,oc 28 [(Value.slice none 0 0),(Value.slice none 0 0)])] :: S) w:=(ok.pk 4 [2,1,0,3] rfl (by decide))
 refine qas E qlx rfl (qgZ N _ parts_0 hparts_0 ([]) (show ([]:List UInt8).length ≤ LIMS by decide) (Compiler.mk (Code.mk ([]) ([]))) h7 h9 e11 hG ok) rfl rfl ?_
 rintro _ w ⟨m12,c13,M14,c16,M17,rfl,hle,ok,h15,h18⟩
 have le_m0:=le_m0.trans hle
 have hparts_0:=(mL qaq).up hle hparts_0
 refine ⟨_,rfl,fun a E=>?_⟩
 refine wn<|sg<|mv E rfl fun a E=>lw E (qav (ps:=[(0,.const (vi 13))]) (qs:=[(0,[vi 13])]) (cs:=[vi 13,vi 0,vi 0,(vs ([]))]) qbl qbG rfl ⟨rfl,rfl,rfl,trivial⟩ rfl) fun a E=>bd hF fun r19 e20 hF=>qas E qfb rfl (qaQ N _ (Ins.mk 13 0 0 ([])) ⟨rfl,(ir 13),(ir 0),(ir 0),(Nat.zero_le _)⟩ r10 h15 h18 e20 hG ok) rfl rfl ?_
 rintro _ w ⟨m21,c23,M24,c26,M27,rfl,hle,ok,r22,h25,h28⟩
 have le_m0:=le_m0.trans hle
 have hparts_0:=(mL qaq).up hle hparts_0
 refine ⟨_,rfl,fun a E=>?_⟩
 refine wn<|sg<|mv E rfl fun a E=>lw E (qaE rfl) fun a E=>fv E qd0 rfl fun a E=>lv E ok (qaj (cs:=[c23,c26]) qd5 rfl rfl (qac.own 0 rfl rfl)) fun a E=>qai E ok 3 rfl rfl rfl qlM rfl rfl ⟨(ORow.one h25),(ORow.one h28),trivial⟩ rfl rfl fun w ok=>aw E rfl fun a E=>wp_ret ?_
 obtain ⟨m29,hle,ok,hfz⟩:=(ok.frs 1 rfl).freeze
 have h30:=ORow.froz mS h25 hle hfz (by decide)
 have le_m0:=le_m0.trans hle
 have hparts_0:=(mL qaq).up hle hparts_0
 have h28:=ORow.up mIns hle h28
 obtain ⟨m31,hle,ok,hfz⟩:=(ok.frs 1 rfl).freeze
 have h32:=ORow.froz mIns h28 hle hfz (by decide)
 have le_m0:=le_m0.trans hle
 have hparts_0:=(mL qaq).up hle hparts_0
 have h30:=(mL mS).up hle h30
 exact fin hF ⟨m31,[c23,c26],le_m0,ok.drop.drop,E.d,⟨rv_c (cs:=[c23,c26]) E ok rfl qd5 rfl (qac.own 1 rfl rfl),rv_t E rfl,trivial⟩,⟨_,_,rfl,h30,h32⟩,(ir 0)⟩
end Go.Proofs.YtmghnmfefpeelaaGreatDoor
namespace Go.Proofs.YtmghnmfefpeelaaGreatDoor
open Go.X
variable {u:World} {m0:Mem} {S:Segs} {w:World}
set_option maxHeartbeats 4000000
set_option maxRecDepth 100000
def qlN:Rp Number2:=fun _ cs x=>cs = [.bool x.Neg,.string (bs x.Whole),.string (bs x.Frac)] ∧ x.Whole.length ≤ LIMS ∧ x.Frac.length ≤ LIMS
theorem qbm:aggB Tryz.prog 97 3 = true:=by kernel_rfl
theorem qhT:qaI Tryz.prog 97 0 0 = true:=by kernel_rfl
theorem qdj:qaI Tryz.prog 97 1 1 = true:=by kernel_rfl
theorem qdO:qaI Tryz.prog 97 2 2 = true:=by kernel_rfl
theorem qnj:goB Tryz.prog 11 = true:=by kernel_rfl
theorem qm8:goB Tryz.prog 12 = true:=by kernel_rfl
theorem qns:goB Tryz.prog 13 = true:=by kernel_rfl
theorem qf7:goB Tryz.prog 17 = true:=by kernel_rfl
theorem qik:goB Tryz.prog 18 = true:=by kernel_rfl
theorem qke:goB Tryz.prog 19 = true:=by kernel_rfl
theorem qf9:goB Tryz.prog 31 = true:=by kernel_rfl
theorem qjZ:goB Tryz.prog 32 = true:=by kernel_rfl
theorem qno:goB Tryz.prog 33 = true:=by kernel_rfl
theorem qiq:goB Tryz.prog 34 = true:=by kernel_rfl
theorem qm6:goB Tryz.prog 35 = true:=by kernel_rfl
theorem qm9:goB Tryz.prog 36 = true:=by kernel_rfl
theorem qrF:goB Tryz.prog 37 = true:=by kernel_rfl
theorem qq4:goB Tryz.prog 46 = true:=by kernel_rfl
theorem qph:goB Tryz.prog 47 = true:=by kernel_rfl
theorem qru:goB Tryz.prog 48 = true:=by kernel_rfl
theorem qrj:goB Tryz.prog 49 = true:=by kernel_rfl
theorem qrp:goB Tryz.prog 50 = true:=by kernel_rfl
theorem qrB:goB Tryz.prog 51 = true:=by kernel_rfl
theorem qrE:goB Tryz.prog 60 = true:=by kernel_rfl
theorem qrx:goB Tryz.prog 61 = true:=by kernel_rfl
theorem qpd:goB Tryz.prog 71 = true:=by kernel_rfl
theorem qlF:goB Tryz.prog 72 = true:=by kernel_rfl
theorem qkw:∃ i,Tryz.prog.info? 4 = some i ∧ i.size = 1:=⟨_,rfl,by kernel_rfl⟩
theorem qb1:∃ i,Tryz.prog.info? 97 = some i ∧ i.size = 3:=⟨_,rfl,by kernel_rfl⟩
theorem qen:oneB Tryz.prog 4 = true:=by kernel_rfl
theorem qbX:qeh Tryz.prog 97 = some [(0,1),(1,1),(2,1)]:=by kernel_rfl
theorem qcf:qcn Tryz.prog 97 = some [vb false,(vs ([])),(vs ([]))]:=by kernel_rfl
def qiN (u:World) (m0:Mem) (S:Segs) (r:Int) (a:Act) (w:World):Prop :=
 Ok u m0 S w ∧ a.defers = [] ∧ RVs Tryz.prog a w [.t 2 (.int .i64 r)] ∧ InR .i64 r
def qd8 (N:Nat):Prop:=∀ {u:World} {m0:Mem} {S:Segs} {w:World} (vparts_0:Value) (parts_0:List (Part)) (hparts_0:(pL 6 qbD) m0 [vparts_0] parts_0) {r:Int} (hF:qbH N parts_0 = some r) (hG:Glob u) (ok:Ok u m0 S w),Calls Tryz.prog 11 [vparts_0].toArray w fun e w'=>(e = .returned (.int .i64 r) ∧ Ok u m0 S w') ∧ InR .i64 r
theorem qhw (N:Nat) (ih_calqueref26_Depth:qd8 N):qd8 (N + 1):=by
 intro u m0 S w vparts_0 parts_0 hparts_0 r hF hG ok
 have hF0:qcY (qbH N) N parts_0 = some r:=hF
 have hF:=hF0
 clear hF0
 unfold qcY at hF
 refine en (qiN u m0 S) r Tryz.func11 rfl rfl rfl (fun _ _ h=>rb h rfl) fun fin a E=>sg<|aw E rfl fun a E=>sg<|aw E rfl fun a E=>wp_seq<|sg<|av E rfl fun a E=>wn<|wp_block<|bd hF fun o3 hL hF=>qaX _ (fun (s:Int × Int) a w=>Ok u m0 (S) w ∧ Env 45 a [(0,vparts_0),(3,vi s.1),(4,vi s.2)] ∧ InR .i64 s.1 ∧ InR .i64 s.2) (fun (b:Int) e a w=>e = (.exit 0) ∧ Ok u m0 (S) w ∧ Env 45 a [(3,vi b)] ∧ InR .i64 b) ?_ ?_ N _ a w hL ⟨ok,E.keep [0,3,4],(ir 0),(ir 0)⟩
 rotate_left
 ·intro e a w _ hO
  obtain ⟨rfl,ok,E,r92⟩:=hO
  refine qba<|qaa<|sg<|mv E rfl fun a E=>aw E rfl fun a E=>wp_ret ?_
  exact fin hF ⟨ok,E.d,rz E rfl,r92⟩
 rintro ⟨v6,v7⟩ a w r ⟨ok,E,r8,r9⟩ hF
 replace hF:qcI (qbH N) N parts_0 v6 v7 = some r:=hF
 unfold qcI at hF
 refine wp_seq<|sg<|mz E rfl rfl fun a E=>lv E ok (qax qbj hparts_0 rfl) fun a E=>lw E (qaJ rfl rfl) fun a E=>wn<|cg E rfl hF (fun c10 hF=>?_) fun c10 hF=>?_
 ·refine wp_exit<|qaO ?_
  cases hF
  exact so (⟨rfl,⟨ok,E.keep [3],r8⟩⟩)
 refine wp_skip<|qaa<|wp_seq<|wp_block<|sg<|mz E rfl rfl fun a E=>mv E rfl fun a E=>?_
 obtain ⟨x11,e12,hF⟩:=bnd hF
 obtain ⟨b13,o14,es15,hl16,rr17,at18,yy19⟩:=ia E 13 14 qbj hparts_0 e12
 obtain ⟨c24,c26,rfl,r20,l21,l22,l23,h25,h27⟩:=(qaL.1 rr17)
 refine lv E ok (yy19 _ _) fun a E=>fv E qbs rfl fun a E=>lv E ok (qak qa2 rfl (qac.ro (At.sub 5 1 at18))) fun a E=>bd hF fun r28 e29 hF=>qas E qnj rfl (ih_calqueref26_Depth _ x11.Parts h27 e29 hG ok) rfl rfl ?_
 rintro _ w ⟨⟨rfl,ok⟩,r30⟩
 refine ⟨_,rfl,fun a E=>?_⟩
 refine lw E (qbb rfl rfl) fun a E=>lv E ok (qqp rfl rfl rfl) fun a E=>aw E rfl fun a E=>sg<|av E rfl fun a E=>wn<|wp_block<|bd hF fun o33 hL hF=>qaX _ (fun (s:Int × Int) a w=>Ok u m0 (S) w ∧ Env 45 a [(0,vparts_0),(3,vi s.1),(4,vi v7),(5,vi s.2)] ∧ InR .i64 s.1 ∧ InR .i64 s.2) (fun (b:Int) e a w=>e = (.exit 2) ∧ Ok u m0 (S) w ∧ Env 45 a [(0,vparts_0),(3,vi b),(4,vi v7)] ∧ InR .i64 b) ?_ ?_ N _ a w hL ⟨ok,E.keep [0,3,4,5],(InR.max (InR.max r8 (ir 1)) (InR.wrap _ _)),(ir 0)⟩
 rotate_left
 ·intro e a w _ hO
  obtain ⟨rfl,ok,E,r90⟩:=hO
  refine qba<|qag<|qaa<|qab<|mv E rfl fun a E=>lw E (qau rfl rfl (InR.inc r9 (qae hparts_0) c10)) fun a E=>av E rfl fun a E=>wpList_nil ?_
  cases hF
  exact qap ⟨ok,E.keep [0,3,4],r90,(InR.inc r9 (qae hparts_0) c10)⟩
 rintro ⟨v36,v37⟩ a w r ⟨ok,E,r38,r39⟩ hF
 replace hF:qcH (qbH N) N parts_0 v7 v36 v37 = some r:=hF
 unfold qcH at hF
 refine wp_seq<|sg<|mz E rfl rfl fun a E=>mv E rfl fun a E=>?_
 obtain ⟨x40,e41,hF⟩:=bnd hF
 obtain ⟨b42,o43,es44,hl45,rr46,at47,yy48⟩:=ia E 22 23 qbj hparts_0 e41
 obtain ⟨c53,c55,rfl,r49,l50,l51,l52,h54,h56⟩:=(qaL.1 rr46)
 refine lv E ok (yy48 _ _) fun a E=>fv E qaR rfl fun a E=>lv E ok (qak qaZ rfl (qac.ro (At.sub 4 1 at47))) fun a E=>lv E ok (qax qbe h54 rfl) fun a E=>lw E (qaJ rfl rfl) fun a E=>wn<|cg E rfl hF (fun c57 hF=>?_) fun c57 hF=>?_
 ·refine wp_exit<|qaO ?_
  cases hF
  exact so (⟨rfl,⟨ok,E.keep [0,3,4],r38⟩⟩)
 refine wp_skip<|qaa<|wp_seq<|wp_block<|qab<|mz E rfl rfl fun a E=>mv E rfl fun a E=>?_
 obtain ⟨x58,e59,hF⟩:=bnd hF
 obtain ⟨b60,o61,es62,hl63,rr64,at65,yy66⟩:=ia E 32 33 qbj hparts_0 e59
 obtain ⟨c71,c73,rfl,r67,l68,l69,l70,h72,h74⟩:=(qaL.1 rr64)
 refine lv E ok (yy66 _ _) fun a E=>fv E qaR rfl fun a E=>lv E ok (qak qaZ rfl (qac.ro (At.sub 4 1 at65))) fun a E=>mv E rfl fun a E=>?_
 obtain ⟨x75,e76,hF⟩:=bnd hF
 obtain ⟨b77,o78,es79,hl80,rr81,at82,yy83⟩:=ia E 36 37 qbe h72 e76
 obtain ⟨c85,rfl,l84,h86⟩:=rr81
 refine lv E ok (yy83 _ _) fun a E=>fv E qdP rfl fun a E=>lv E ok (qak qa2 rfl (qac.ro (At.sub 1 1 at82))) fun a E=>bd hF fun r87 e88 hF=>qas E qnj rfl (ih_calqueref26_Depth _ x75.Parts h86 e88 hG ok) rfl rfl ?_
 rintro _ w ⟨⟨rfl,ok⟩,r89⟩
 refine ⟨_,rfl,fun a E=>?_⟩
 refine lw E (qbb rfl rfl) fun a E=>lw E (qri rfl rfl) fun a E=>av E rfl fun a E=>wpList_nil<|qag<|qaa<|qab<|mv E rfl fun a E=>lw E (qau rfl rfl (InR.inc r39 (qae h54) c57)) fun a E=>av E rfl fun a E=>wpList_nil ?_
 cases hF
 exact qap ⟨ok,E.keep [0,3,4,5],(InR.max r38 (InR.wrap _ _)),(InR.inc r39 (qae h54) c57)⟩
theorem qht:qd8 0:=by
 intro u m0 S w vparts_0 parts_0 hparts_0 r hF hG ok
 replace hF:none = some r:=hF
 cases hF
theorem qgE (N:Nat):qd8 N:=by
 induction N with
 | zero=>exact qht
 | succ N h=>exact qhw N h
theorem qiD {u:World} {m0:Mem} {S:Segs} {w:World} (N:Nat) (vparts_0:Value) (parts_0:List (Part)) (hparts_0:(pL 6 qbD) m0 [vparts_0] parts_0) {r:Int} (hF:qbH N parts_0 = some r) (hG:Glob u) (ok:Ok u m0 S w) :
 Calls Tryz.prog 11 [vparts_0].toArray w fun e w'=>(e = .returned (.int .i64 r) ∧ Ok u m0 S w') ∧ InR .i64 r:=(qgE N) vparts_0 parts_0 hparts_0 hF hG ok
def qjg (u:World) (m0:Mem) (S:Segs) (r:Int) (a:Act) (w:World):Prop :=
 Ok u m0 S w ∧ a.defers = [] ∧ RVs Tryz.prog a w [.t 2 (.int .i64 r)] ∧ InR .i64 r
def qeq (N:Nat):Prop:=∀ {u:World} {m0:Mem} {S:Segs} {w:World} (vparts_0:Value) (parts_0:List (Part)) (hparts_0:(pL 6 qbD) m0 [vparts_0] parts_0) {r:Int} (hF:qbP N parts_0 = some r) (hG:Glob u) (ok:Ok u m0 S w),Calls Tryz.prog 12 [vparts_0].toArray w fun e w'=>(e = .returned (.int .i64 r) ∧ Ok u m0 S w') ∧ InR .i64 r
theorem qh6 (N:Nat) (ih_calqueref26_Size:qeq N):qeq (N + 1):=by
 intro u m0 S w vparts_0 parts_0 hparts_0 r hF hG ok
 have hF0:qc5 (qbP N) N parts_0 = some r:=hF
 have hF:=hF0
 clear hF0
 unfold qc5 at hF
 refine en (qjg u m0 S) r Tryz.func12 rfl rfl rfl (fun _ _ h=>rb h rfl) fun fin a E=>sg<|aw E rfl fun a E=>sg<|aw E rfl fun a E=>wp_seq<|sg<|av E rfl fun a E=>wn<|wp_block<|bd hF fun o3 hL hF=>qaX _ (fun (s:Int × Int) a w=>Ok u m0 (S) w ∧ Env 53 a [(0,vparts_0),(3,vi s.1),(4,vi s.2)] ∧ InR .i64 s.1 ∧ InR .i64 s.2) (fun (b:Int) e a w=>e = (.exit 0) ∧ Ok u m0 (S) w ∧ Env 53 a [(3,vi b)] ∧ InR .i64 b) ?_ ?_ N _ a w hL ⟨ok,E.keep [0,3,4],(ir 0),(ir 0)⟩
 rotate_left
 ·intro e a w _ hO
  obtain ⟨rfl,ok,E,r109⟩:=hO
  refine qba<|qaa<|sg<|mv E rfl fun a E=>aw E rfl fun a E=>wp_ret ?_
  exact fin hF ⟨ok,E.d,rz E rfl,r109⟩
 rintro ⟨v6,v7⟩ a w r ⟨ok,E,r8,r9⟩ hF
 replace hF:qcR (qbP N) N parts_0 v6 v7 = some r:=hF
 unfold qcR at hF
 refine wp_seq<|sg<|mz E rfl rfl fun a E=>lv E ok (qax qbj hparts_0 rfl) fun a E=>lw E (qaJ rfl rfl) fun a E=>wn<|cg E rfl hF (fun c10 hF=>?_) fun c10 hF=>?_
 ·refine wp_exit<|qaO ?_
  cases hF
  exact so (⟨rfl,⟨ok,E.keep [3],r8⟩⟩)
 refine wp_skip<|qaa<|wp_seq<|wp_block<|wp_seq<|qdB (by kernel_rfl) (by kernel_rfl) ok<|qv E (qal rfl) fun a E=>qv E (qal rfl) fun a E=>qv E (qal rfl) fun a E=>?_
 obtain ⟨x11,e12,hF⟩:=bnd hF
 obtain ⟨b13,o14,es15,hl16,rr17,at18,yy19⟩:=ia E 13 14 qbj hparts_0 e12
 obtain ⟨c24,c26,rfl,r20,l21,l22,l23,h25,h27⟩:=(qaL.1 rr17)
 refine qv E (yy19 _ _) fun a E=>qv E (qad qbs rfl) fun a E=>qv E (qak qa2 rfl (qac.ro (At.sub 5 1 at18))) fun a E=>?_
 obtain ⟨r28,e29,hF⟩:=bnd hF
 obtain ⟨_,_,⟨_,_⟩,r30⟩:=Go.X.Calls.get (ih_calqueref26_Size _ x11.Parts h27 e29 hG ok)
 refine qcv E qm8 rfl (fun w ok=>(ih_calqueref26_Size _ x11.Parts h27 e29 hG ok).mono (fun _ _ h=>h.1)) rfl rfl fun a E=>qv E (qbb rfl rfl) fun a E=>qv E (qal rfl) fun a E=>qv E (qal rfl) fun a E=>?_
 obtain ⟨x31,e32,hF⟩:=bnd hF
 obtain ⟨b33,o34,es35,hl36,rr37,at38,yy39⟩:=ia E 20 21 qbj hparts_0 e32
 obtain ⟨c44,c46,rfl,r40,l41,l42,l43,h45,h47⟩:=(qaL.1 rr37)
 refine qv E (yy39 _ _) fun a E=>qv E (qad qbR rfl) fun a E=>qv E (qak qah rfl (qac.ro (At.sub 1 1 at38))) fun a E=>qv E (qaG Tryz.underlying9 rfl) fun a E=>qv E (qro rfl rfl (by decide)) fun a E=>qv E (qbb rfl rfl) fun a E=>qv E (qbb rfl rfl) fun a E=>qv E (qa4 rfl) fun a E=>wpQuiet_nil ?_
 intro w ok
 refine qaa<|sg<|aw E rfl fun a E=>wp_block<|bd hF fun o50 hL hF=>qaX _ (fun (s:Int × Int) a w=>Ok u m0 (S) w ∧ Env 53 a [(0,vparts_0),(3,vi s.1),(4,vi v7),(5,vi s.2)] ∧ InR .i64 s.1 ∧ InR .i64 s.2) (fun (b:Int) e a w=>e = (.exit 2) ∧ Ok u m0 (S) w ∧ Env 53 a [(0,vparts_0),(3,vi b),(4,vi v7)] ∧ InR .i64 b) ?_ ?_ N _ a w hL ⟨ok,E.keep [0,3,4,5],(InR.wrap _ _),(ir 0)⟩
 rotate_left
 ·intro e a w _ hO
  obtain ⟨rfl,ok,E,r107⟩:=hO
  refine qba<|qag<|qaa<|qab<|mv E rfl fun a E=>lw E (qau rfl rfl (InR.inc r9 (qae hparts_0) c10)) fun a E=>av E rfl fun a E=>wpList_nil ?_
  cases hF
  exact qap ⟨ok,E.keep [0,3,4],r107,(InR.inc r9 (qae hparts_0) c10)⟩
 rintro ⟨v53,v54⟩ a w r ⟨ok,E,r55,r56⟩ hF
 replace hF:qcT (qbP N) N parts_0 v7 v53 v54 = some r:=hF
 unfold qcT at hF
 refine wp_seq<|sg<|mz E rfl rfl fun a E=>mv E rfl fun a E=>?_
 obtain ⟨x57,e58,hF⟩:=bnd hF
 obtain ⟨b59,o60,es61,hl62,rr63,at64,yy65⟩:=ia E 30 31 qbj hparts_0 e58
 obtain ⟨c70,c72,rfl,r66,l67,l68,l69,h71,h73⟩:=(qaL.1 rr63)
 refine lv E ok (yy65 _ _) fun a E=>fv E qaR rfl fun a E=>lv E ok (qak qaZ rfl (qac.ro (At.sub 4 1 at64))) fun a E=>lv E ok (qax qbe h71 rfl) fun a E=>lw E (qaJ rfl rfl) fun a E=>wn<|cg E rfl hF (fun c74 hF=>?_) fun c74 hF=>?_
 ·refine wp_exit<|qaO ?_
  cases hF
  exact so (⟨rfl,⟨ok,E.keep [0,3,4],r55⟩⟩)
 refine wp_skip<|qaa<|wp_seq<|wp_block<|qab<|mz E rfl rfl fun a E=>mv E rfl fun a E=>?_
 obtain ⟨x75,e76,hF⟩:=bnd hF
 obtain ⟨b77,o78,es79,hl80,rr81,at82,yy83⟩:=ia E 40 41 qbj hparts_0 e76
 obtain ⟨c88,c90,rfl,r84,l85,l86,l87,h89,h91⟩:=(qaL.1 rr81)
 refine lv E ok (yy83 _ _) fun a E=>fv E qaR rfl fun a E=>lv E ok (qak qaZ rfl (qac.ro (At.sub 4 1 at82))) fun a E=>mv E rfl fun a E=>?_
 obtain ⟨x92,e93,hF⟩:=bnd hF
 obtain ⟨b94,o95,es96,hl97,rr98,at99,yy100⟩:=ia E 44 45 qbe h89 e93
 obtain ⟨c102,rfl,l101,h103⟩:=rr98
 refine lv E ok (yy100 _ _) fun a E=>fv E qdP rfl fun a E=>lv E ok (qak qa2 rfl (qac.ro (At.sub 1 1 at99))) fun a E=>bd hF fun r104 e105 hF=>qas E qm8 rfl (ih_calqueref26_Size _ x92.Parts h103 e105 hG ok) rfl rfl ?_
 rintro _ w ⟨⟨rfl,ok⟩,r106⟩
 refine ⟨_,rfl,fun a E=>?_⟩
 refine lw E (qbb rfl rfl) fun a E=>lw E (qbb rfl rfl) fun a E=>av E rfl fun a E=>wpList_nil<|qag<|qaa<|qab<|mv E rfl fun a E=>lw E (qau rfl rfl (InR.inc r56 (qae h71) c74)) fun a E=>av E rfl fun a E=>wpList_nil ?_
 cases hF
 exact qap ⟨ok,E.keep [0,3,4,5],(InR.wrap _ _),(InR.inc r56 (qae h71) c74)⟩
theorem qhN:qeq 0:=by
 intro u m0 S w vparts_0 parts_0 hparts_0 r hF hG ok
 replace hF:none = some r:=hF
 cases hF
theorem qgW (N:Nat):qeq N:=by
 induction N with
 | zero=>exact qhN
 | succ N h=>exact qh6 N h
theorem qjk {u:World} {m0:Mem} {S:Segs} {w:World} (N:Nat) (vparts_0:Value) (parts_0:List (Part)) (hparts_0:(pL 6 qbD) m0 [vparts_0] parts_0) {r:Int} (hF:qbP N parts_0 = some r) (hG:Glob u) (ok:Ok u m0 S w) :
 Calls Tryz.prog 12 [vparts_0].toArray w fun e w'=>(e = .returned (.int .i64 r) ∧ Ok u m0 S w') ∧ InR .i64 r:=(qgW N) vparts_0 parts_0 hparts_0 hF hG ok
def qeY (u:World) (m0:Mem) (S:Segs) (r:Bool) (a:Act) (w:World):Prop :=
 Ok u m0 S w ∧ a.defers = [] ∧ RVs Tryz.prog a w [.t 2 (.bool r)]
def qea (N:Nat):Prop:=∀ {u:World} {m0:Mem} {S:Segs} {w:World} (vparts_0:Value) (parts_0:List (Part)) (hparts_0:(pL 6 qbD) m0 [vparts_0] parts_0) {r:Bool} (hF:qbI N parts_0 = some r) (hG:Glob u) (ok:Ok u m0 S w),Calls Tryz.prog 13 [vparts_0].toArray w fun e w'=>(e = .returned (.bool r) ∧ Ok u m0 S w')
theorem qhx (N:Nat) (ih_calqueref26_short:qea N):qea (N + 1):=by
 intro u m0 S w vparts_0 parts_0 hparts_0 r hF hG ok
 have hF0:qcV (qbI N) N parts_0 = some r:=hF
 have hF:=hF0
 clear hF0
 unfold qcV at hF
 refine en (qeY u m0 S) r Tryz.func13 rfl rfl rfl (fun _ _ h=>ra h rfl) fun fin a E=>sg<|aw E rfl fun a E=>wp_seq<|sg<|aw E rfl fun a E=>wp_block<|bd hF fun o2 hL hF=>qaX _ (fun (s:Int) a w=>Ok u m0 (S) w ∧ Env 70 a [(0,vparts_0),(3,vi s)] ∧ InR .i64 s) (fun (b:(Unit ⊕ Bool)) e a w=>(Sum.elim (fun b150=>e = (.exit 0) ∧ Ok u m0 (S) w ∧ Env 70 a []) (fun b151=>e = .ret ∧ qeY u m0 S b151 a w)) b) ?_ ?_ N _ a w hL ⟨ok,E.keep [0,3],(ir 0)⟩
 rotate_left
 ·intro e a w _ hO
  rcases o2 with o2 | o2
  rotate_left
  ·obtain ⟨rfl,hret⟩:=hO
   refine qam<|qaf ?_
   exact fin hF hret
  have hF:=qcl hF
  obtain ⟨rfl,ok,E⟩:=hO
  refine qba<|qaa<|sg<|aw E rfl fun a E=>wp_ret ?_
  exact fin hF ⟨ok,E.d,rz E rfl⟩
 rintro v4 a w r ⟨ok,E,r5⟩ hF
 replace hF:qcC (qbI N) N parts_0 v4 = some r:=hF
 unfold qcC at hF
 refine wp_seq<|sg<|mz E rfl rfl fun a E=>lv E ok (qax qbj hparts_0 rfl) fun a E=>lw E (qaJ rfl rfl) fun a E=>wn<|cg E rfl hF (fun c6 hF=>?_) fun c6 hF=>?_
 ·refine wp_exit<|qaO ?_
  cases hF
  exact so (sl ⟨rfl,⟨ok,E.keep []⟩⟩)
 refine wp_skip<|qaa<|wp_seq<|wp_block<|wp_seq<|sg<|mv E rfl fun a E=>mv E rfl fun a E=>?_
 obtain ⟨x7,e8,hF⟩:=bnd hF
 obtain ⟨b9,o10,es11,hl12,rr13,at14,yy15⟩:=ia E 11 12 qbj hparts_0 e8
 obtain ⟨c20,c22,rfl,r16,l17,l18,l19,h21,h23⟩:=(qaL.1 rr13)
 refine lv E ok (yy15 _ _) fun a E=>fv E qaw rfl fun a E=>lv E ok (qak qah rfl (qac.ro (At.sub 2 1 at14))) fun a E=>lw E (qaG Tryz.underlying9 rfl) fun a E=>lw E (qa9 rfl rfl) fun a E=>mv E rfl fun a E=>bu E 18 hF (fun c24 hF E=>?_) fun c24 hF E=>?_
 ·refine lsz E fun a E=>lsq E fun a E=>ls E fun a E=>pt E rfl rfl fun a E=>mv E rfl fun a E=>lsz E fun a E=>lsq E fun a E=>ls E fun a E=>?_
  refine pt E rfl rfl fun a E=>wn<|c_if E rfl (fun _=>?_) (fun h=>by cases h)
  refine sg<|aw E rfl fun a E=>wp_ret<|qaf<|qam<|qaf ?_
  cases hF
  exact so (sr ⟨rfl,⟨ok,E.d,rz E rfl⟩⟩)
 refine mz E rfl rfl fun a E=>?_
 obtain ⟨x25,e26,hF⟩:=bnd hF
 obtain ⟨b27,o28,es29,hl30,rr31,at32,yy33⟩:=ia E 19 20 qbj hparts_0 e26
 obtain ⟨c38,c40,rfl,r34,l35,l36,l37,h39,h41⟩:=(qaL.1 rr31)
 refine lv E ok (yy33 _ _) fun a E=>fv E qaT rfl fun a E=>lv E ok (qak qah rfl (qac.ro (At.sub 3 1 at32))) fun a E=>lw E (qaG Tryz.underlying9 rfl) fun a E=>lw E (qa9 rfl rfl) fun a E=>pf E rfl rfl fun a E=>mv E rfl fun a E=>bu E 27 hF (fun c42 hF E=>?_) fun c42 hF E=>?_
 ·refine lsz E fun a E=>lsq E fun a E=>ls E fun a E=>pt E rfl rfl fun a E=>wn<|c_if E rfl (fun _=>?_) (fun h=>by cases h)
  refine sg<|aw E rfl fun a E=>wp_ret<|qaf<|qam<|qaf ?_
  cases hF
  exact so (sr ⟨rfl,⟨ok,E.d,rz E rfl⟩⟩)
 refine mz E rfl rfl fun a E=>?_
 obtain ⟨x43,e44,hF⟩:=bnd hF
 obtain ⟨b45,o46,es47,hl48,rr49,at50,yy51⟩:=ia E 28 29 qbj hparts_0 e44
 obtain ⟨c56,c58,rfl,r52,l53,l54,l55,h57,h59⟩:=(qaL.1 rr49)
 refine lv E ok (yy51 _ _) fun a E=>fv E qbs rfl fun a E=>lv E ok (qak qa2 rfl (qac.ro (At.sub 5 1 at50))) fun a E=>bd hF fun r60 e61 hF=>lc E qns rfl (ih_calqueref26_short _ x43.Parts h59 e61 hG ok) fun w ok a E=>lw E (qaz rfl) fun a E=>pf E rfl rfl fun a E=>wn<|cf E rfl hF (fun c62 hF=>?_) fun c62 hF=>?_
 ·refine sg<|aw E rfl fun a E=>wp_ret<|qaf<|qam<|qaf ?_
  cases hF
  exact so (sr ⟨rfl,⟨ok,E.d,rz E rfl⟩⟩)
 refine wp_skip<|qaa<|sg<|aw E rfl fun a E=>wp_block<|bd hF fun o64 hL hF=>qaX _ (fun (s:Int) a w=>Ok u m0 (S) w ∧ Env 70 a [(0,vparts_0),(3,vi v4),(4,vi s)] ∧ InR .i64 s) (fun (b:(Unit ⊕ Bool)) e a w=>(Sum.elim (fun b148=>e = (.exit 2) ∧ Ok u m0 (S) w ∧ Env 70 a [(0,vparts_0),(3,vi v4)]) (fun b149=>e = .ret ∧ qeY u m0 S b149 a w)) b) ?_ ?_ N _ a w hL ⟨ok,E.keep [0,3,4],(ir 0)⟩
 rotate_left
 ·intro e a w _ hO
  rcases o64 with o64 | o64
  rotate_left
  ·have hF:=qj2 hF
   obtain ⟨rfl,hret⟩:=hO
   refine qam<|qam<|qaf ?_
   cases hF
   exact so (sr ⟨rfl,hret⟩)
  have hF:=qcl hF
  obtain ⟨rfl,ok,E⟩:=hO
  refine qba<|qag<|qaa<|qab<|mv E rfl fun a E=>lw E (qau rfl rfl (InR.inc r5 (qae hparts_0) c6)) fun a E=>av E rfl fun a E=>wpList_nil ?_
  cases hF
  exact qap ⟨ok,E.keep [0,3],(InR.inc r5 (qae hparts_0) c6)⟩
 rintro v66 a w r ⟨ok,E,r67⟩ hF
 replace hF:qcG (qbI N) N parts_0 v4 v66 = some r:=hF
 unfold qcG at hF
 refine wp_seq<|sg<|mz E rfl rfl fun a E=>mv E rfl fun a E=>?_
 obtain ⟨x68,e69,hF⟩:=bnd hF
 obtain ⟨b70,o71,es72,hl73,rr74,at75,yy76⟩:=ia E 37 38 qbj hparts_0 e69
 obtain ⟨c81,c83,rfl,r77,l78,l79,l80,h82,h84⟩:=(qaL.1 rr74)
 refine lv E ok (yy76 _ _) fun a E=>fv E qaR rfl fun a E=>lv E ok (qak qaZ rfl (qac.ro (At.sub 4 1 at75))) fun a E=>lv E ok (qax qbe h82 rfl) fun a E=>lw E (qaJ rfl rfl) fun a E=>wn<|cg E rfl hF (fun c85 hF=>?_) fun c85 hF=>?_
 ·refine wp_exit<|qaO ?_
  cases hF
  exact so (sl ⟨rfl,⟨ok,E.keep [0,3]⟩⟩)
 refine wp_skip<|qaa<|wp_seq<|wp_block<|sg<|mz E rfl rfl fun a E=>?_
 obtain ⟨x86,e87,hF⟩:=bnd hF
 obtain ⟨b88,o89,es90,hl91,rr92,at93,yy94⟩:=ia E 46 47 qbj hparts_0 e87
 obtain ⟨c99,c101,rfl,r95,l96,l97,l98,h100,h102⟩:=(qaL.1 rr92)
 refine lv E ok (yy94 _ _) fun a E=>fv E qaR rfl fun a E=>lv E ok (qak qaZ rfl (qac.ro (At.sub 4 1 at93))) fun a E=>mv E rfl fun a E=>?_
 obtain ⟨x103,e104,hF⟩:=bnd hF
 obtain ⟨b105,o106,es107,hl108,rr109,at110,yy111⟩:=ia E 50 51 qbe h100 e104
 obtain ⟨c113,rfl,l112,h114⟩:=rr109
 refine lv E ok (yy111 _ _) fun a E=>fv E qcr rfl fun a E=>lv E ok (qak qah rfl (qac.ro (At.sub 0 1 at110))) fun a E=>lw E (qaG Tryz.underlying9 rfl) fun a E=>lw E (qa9 rfl rfl) fun a E=>mv E rfl fun a E=>bu E 57 hF (fun c115 hF E=>?_) fun c115 hF E=>?_
 ·refine lsz E fun a E=>lsz E fun a E=>lsq E fun a E=>ls E fun a E=>pt E rfl rfl fun a E=>wn<|c_if E rfl (fun _=>?_) (fun h=>by cases h)
  refine sg<|aw E rfl fun a E=>wp_ret<|qam<|qaf ?_
  cases hF
  exact so (sr ⟨rfl,⟨ok,E.d,rz E rfl⟩⟩)
 refine mz E rfl rfl fun a E=>?_
 obtain ⟨x116,e117,hF⟩:=bnd hF
 obtain ⟨b118,o119,es120,hl121,rr122,at123,yy124⟩:=ia E 58 59 qbj hparts_0 e117
 obtain ⟨c129,c131,rfl,r125,l126,l127,l128,h130,h132⟩:=(qaL.1 rr122)
 refine lv E ok (yy124 _ _) fun a E=>fv E qaR rfl fun a E=>lv E ok (qak qaZ rfl (qac.ro (At.sub 4 1 at123))) fun a E=>mv E rfl fun a E=>?_
 obtain ⟨x133,e134,hF⟩:=bnd hF
 obtain ⟨b135,o136,es137,hl138,rr139,at140,yy141⟩:=ia E 62 63 qbe h130 e134
 obtain ⟨c143,rfl,l142,h144⟩:=rr139
 refine lv E ok (yy141 _ _) fun a E=>fv E qdP rfl fun a E=>lv E ok (qak qa2 rfl (qac.ro (At.sub 1 1 at140))) fun a E=>bd hF fun r145 e146 hF=>lc E qns rfl (ih_calqueref26_short _ x133.Parts h144 e146 hG ok) fun w ok a E=>lw E (qaz rfl) fun a E=>pf E rfl rfl fun a E=>wn<|cg E rfl hF (fun c147 hF=>?_) fun c147 hF=>?_
 ·refine wp_skip<|qag<|qaa<|qab<|mv E rfl fun a E=>lw E (qau rfl rfl (InR.inc r67 (qae h82) c85)) fun a E=>av E rfl fun a E=>wpList_nil ?_
  cases hF
  exact qap ⟨ok,E.keep [0,3,4],(InR.inc r67 (qae h82) c85)⟩
 refine sg<|aw E rfl fun a E=>wp_ret<|qam<|qaf ?_
 cases hF
 exact so (sr ⟨rfl,⟨ok,E.d,rz E rfl⟩⟩)
theorem qhr:qea 0:=by
 intro u m0 S w vparts_0 parts_0 hparts_0 r hF hG ok
 replace hF:none = some r:=hF
 cases hF
theorem qgK (N:Nat):qea N:=by
 induction N with
 | zero=>exact qhr
 | succ N h=>exact qhx N h
theorem qiR {u:World} {m0:Mem} {S:Segs} {w:World} (N:Nat) (vparts_0:Value) (parts_0:List (Part)) (hparts_0:(pL 6 qbD) m0 [vparts_0] parts_0) {r:Bool} (hF:qbI N parts_0 = some r) (hG:Glob u) (ok:Ok u m0 S w) :
 Calls Tryz.prog 13 [vparts_0].toArray w fun e w'=>(e = .returned (.bool r) ∧ Ok u m0 S w'):=(qgK N) vparts_0 parts_0 hparts_0 hF hG ok
def qjA (u:World) (m0:Mem) (S:Segs) (r:Bool) (a:Act) (w:World):Prop :=
 Ok u m0 S w ∧ a.defers = [] ∧ RVs Tryz.prog a w [.t 2 (.bool r)]
theorem qjF (N:Nat) (vparts_0:Value) (parts_0:List (Part)) (hparts_0:(pL 6 qbD) m0 [vparts_0] parts_0) {r:Bool} (hF:qer N parts_0 = some r) (hG:Glob u) (ok:Ok u m0 S w) :
  Calls Tryz.prog 5 [vparts_0].toArray w fun e w'=>(e = .returned (.bool r) ∧ Ok u m0 S w'):=by
 unfold qer at hF
 refine en (qjA u m0 S) r Tryz.func5 rfl rfl rfl (fun _ _ h=>ra h rfl) fun fin a E=>sg<|aw E rfl fun a E=>sg<|mv E rfl fun a E=>bd hF fun r1 e2 hF=>qas E qnj rfl (qiD N _ parts_0 hparts_0 e2 hG ok) rfl rfl ?_
 rintro _ w ⟨⟨rfl,ok⟩,r3⟩
 refine ⟨_,rfl,fun a E=>?_⟩
 refine lw E (qcd rfl rfl) fun a E=>mv E rfl fun a E=>bw E 6 hF (fun c4 hF E=>?_) fun c4 hF E=>?_
 ·refine lsq E fun a E=>ls E fun a E=>pf E rfl rfl fun a E=>mv E rfl fun a E=>lsq E fun a E=>pf E rfl rfl fun a E=>aw E rfl fun a E=>wp_ret ?_
  exact fin hF ⟨ok,E.d,rz E rfl⟩
 refine mv E rfl fun a E=>bd hF fun r5 e6 hF=>qas E qm8 rfl (qjk N _ parts_0 hparts_0 e6 hG ok) rfl rfl ?_
 rintro _ w ⟨⟨rfl,ok⟩,r7⟩
 refine ⟨_,rfl,fun a E=>?_⟩
 refine lw E (qcd rfl rfl) fun a E=>pt E rfl rfl fun a E=>mv E rfl fun a E=>bw E 11 hF (fun c8 hF E=>?_) fun c8 hF E=>?_
 ·refine lsq E fun a E=>pf E rfl rfl fun a E=>aw E rfl fun a E=>wp_ret ?_
  exact fin hF ⟨ok,E.d,rz E rfl⟩
 refine mv E rfl fun a E=>bd hF fun r9 e10 hF=>lc E qns rfl (qiR N _ parts_0 hparts_0 e10 hG ok) fun w ok a E=>pt E rfl rfl fun a E=>aw E rfl fun a E=>wp_ret ?_
 exact fin hF ⟨ok,E.d,rz E rfl⟩
def qiA (u:World) (m0:Mem) (S:Segs) (r:Bool) (a:Act) (w:World):Prop :=
 Ok u m0 S w ∧ a.defers = [] ∧ RVs Tryz.prog a w [.t 2 (.bool r)]
theorem qfY (N:Nat) (c_0:Int) (rc_0:InR .u8 c_0) {r:Bool} (hF:qdg N c_0 = some r) (hG:Glob u) (ok:Ok u m0 S w) :
  Calls Tryz.prog 47 [Value.int .u8 c_0].toArray w fun e w'=>(e = .returned (.bool r) ∧ Ok u m0 S w'):=by
 unfold qdg at hF
 refine en (qiA u m0 S) r Tryz.func47 rfl rfl rfl (fun _ _ h=>ra h rfl) fun fin a E=>sg<|aw E rfl fun a E=>sg<|mv E rfl fun a E=>lw E (qcB rfl rfl) fun a E=>mv E rfl fun a E=>bu E 5 hF (fun c1 hF E=>?_) fun c1 hF E=>?_
 ·refine mv E rfl fun a E=>lw E (qcd rfl rfl) fun a E=>pt E rfl rfl fun a E=>aw E rfl fun a E=>wp_ret ?_
  exact fin hF ⟨ok,E.d,rz E rfl⟩
 refine lsq E fun a E=>pf E rfl rfl fun a E=>aw E rfl fun a E=>wp_ret ?_
 exact fin hF ⟨ok,E.d,rz E rfl⟩
def qim (u:World) (m0:Mem) (S:Segs) (r:Bool) (a:Act) (w:World):Prop :=
 Ok u m0 S w ∧ a.defers = [] ∧ RVs Tryz.prog a w [.t 2 (.bool r)]
theorem qid (N:Nat) (c_0:Int) (rc_0:InR .u8 c_0) {r:Bool} (hF:qe2 N c_0 = some r) (hG:Glob u) (ok:Ok u m0 S w) :
  Calls Tryz.prog 60 [Value.int .u8 c_0].toArray w fun e w'=>(e = .returned (.bool r) ∧ Ok u m0 S w'):=by
 unfold qe2 at hF
 refine en (qim u m0 S) r Tryz.func60 rfl rfl rfl (fun _ _ h=>ra h rfl) fun fin a E=>sg<|aw E rfl fun a E=>sg<|mv E rfl fun a E=>bd hF fun r1 e2 hF=>lc E qph rfl (qfY N c_0 rc_0 e2 hG ok) fun w ok a E=>mv E rfl fun a E=>qaW r1 (fun c3=>?_) (fun c3=>?_)
 ·have hF:=qaU c3 hF
  have E:=E.upd 5 c3 rfl
  refine lsz E fun a E=>lsq E fun a E=>pt E rfl rfl fun a E=>av E rfl fun a E=>wn<|wp_ret ?_
  exact fin hF ⟨ok,E.d,rz E rfl⟩
 have hF:=qaV c3 hF
 have E:=E.upd 5 c3 rfl
 refine mv E rfl fun a E=>lw E (qcB rfl rfl) fun a E=>mv E rfl fun a E=>bu E 8 hF (fun c4 hF E=>?_) fun c4 hF E=>?_
 ·refine mv E rfl fun a E=>lw E (qcd rfl rfl) fun a E=>pt E rfl rfl fun a E=>pf E rfl rfl fun a E=>aw E rfl fun a E=>wp_ret ?_
  exact fin hF ⟨ok,E.d,rz E rfl⟩
 refine lsq E fun a E=>pf E rfl rfl fun a E=>pf E rfl rfl fun a E=>aw E rfl fun a E=>wp_ret ?_
 exact fin hF ⟨ok,E.d,rz E rfl⟩
def qiV (u:World) (m0:Mem) (S:Segs) (r:Bool) (a:Act) (w:World):Prop :=
 Ok u m0 S w ∧ a.defers = [] ∧ RVs Tryz.prog a w [.t 2 (.bool r)]
theorem qiT (N:Nat) (c_0:Int) (rc_0:InR .u8 c_0) {r:Bool} (hF:qdR N c_0 = some r) (hG:Glob u) (ok:Ok u m0 S w) :
  Calls Tryz.prog 46 [Value.int .u8 c_0].toArray w fun e w'=>(e = .returned (.bool r) ∧ Ok u m0 S w'):=by
 unfold qdR at hF
 refine en (qiV u m0 S) r Tryz.func46 rfl rfl rfl (fun _ _ h=>ra h rfl) fun fin a E=>sg<|aw E rfl fun a E=>sg<|mv E rfl fun a E=>bd hF fun r1 e2 hF=>lc E qrE rfl (qid N c_0 rc_0 e2 hG ok) fun w ok a E=>mv E rfl fun a E=>qaW r1 (fun c3=>?_) (fun c3=>?_)
 ·have hF:=qaU c3 hF
  have E:=E.upd 5 c3 rfl
  refine lsz E fun a E=>lsq E fun a E=>pt E rfl rfl fun a E=>mv E rfl fun a E=>lsq E fun a E=>pt E rfl rfl fun a E=>mv E rfl fun a E=>lsq E fun a E=>pt E rfl rfl fun a E=>av E rfl fun a E=>?_
  refine wn<|wp_ret ?_
  exact fin hF ⟨ok,E.d,rz E rfl⟩
 have hF:=qaV c3 hF
 have E:=E.upd 5 c3 rfl
 refine mv E rfl fun a E=>lw E (qcB rfl rfl) fun a E=>mv E rfl fun a E=>bw E 8 hF (fun c4 hF E=>?_) fun c4 hF E=>?_
 ·refine lsq E fun a E=>pf E rfl rfl fun a E=>pf E rfl rfl fun a E=>mz E rfl rfl fun a E=>lw E (qao rfl rfl) fun a E=>pf E rfl rfl fun a E=>mv E rfl fun a E=>bu E 17 hF (fun c7 hF E=>?_) fun c7 hF E=>?_
  ·refine lsq E fun a E=>pt E rfl rfl fun a E=>aw E rfl fun a E=>wp_ret ?_
   exact fin hF ⟨ok,E.d,rz E rfl⟩
  refine mv E rfl fun a E=>lw E (qao rfl rfl) fun a E=>pf E rfl rfl fun a E=>aw E rfl fun a E=>wp_ret ?_
  exact fin hF ⟨ok,E.d,rz E rfl⟩
 refine mv E rfl fun a E=>lw E (qcd rfl rfl) fun a E=>pt E rfl rfl fun a E=>pf E rfl rfl fun a E=>mv E rfl fun a E=>bu E 13 hF (fun c5 hF E=>?_) fun c5 hF E=>?_
 ·refine lsq E fun a E=>pt E rfl rfl fun a E=>mv E rfl fun a E=>lsq E fun a E=>pt E rfl rfl fun a E=>av E rfl fun a E=>wn<|wp_ret ?_
  exact fin hF ⟨ok,E.d,rz E rfl⟩
 refine mv E rfl fun a E=>lw E (qao rfl rfl) fun a E=>pf E rfl rfl fun a E=>mv E rfl fun a E=>bu E 17 hF (fun c6 hF E=>?_) fun c6 hF E=>?_
 ·refine lsq E fun a E=>pt E rfl rfl fun a E=>aw E rfl fun a E=>wp_ret ?_
  exact fin hF ⟨ok,E.d,rz E rfl⟩
 refine mv E rfl fun a E=>lw E (qao rfl rfl) fun a E=>pf E rfl rfl fun a E=>aw E rfl fun a E=>wp_ret ?_
 exact fin hF ⟨ok,E.d,rz E rfl⟩
def qgl (u:World) (m0:Mem) (S:Segs) (r:Bool) (a:Act) (w:World):Prop :=
 Ok u m0 S w ∧ a.defers = [] ∧ RVs Tryz.prog a w [.t 2 (.bool r)]
theorem qbA (N:Nat) (s_0:List UInt8) (ls_0:s_0.length ≤ LIMS) {r:Bool} (hF:qaY N s_0 = some r) (hG:Glob u) (ok:Ok u m0 S w) :
  Calls Tryz.prog 31 [vs s_0].toArray w fun e w'=>(e = .returned (.bool r) ∧ Ok u m0 S w'):=by
 unfold qaY at hF
 refine en (qgl u m0 S) r Tryz.func31 rfl rfl rfl (fun _ _ h=>ra h rfl) fun fin a E=>sg<|aw E rfl fun a E=>wp_seq<|sg<|aw E rfl fun a E=>wp_block<|bd hF fun o2 hL hF=>qaX _ (fun (s:Int) a w=>Ok u m0 (S) w ∧ Env 28 a [(0,vs s_0),(3,vi s)] ∧ InR .i64 s) (fun (b:(Unit ⊕ Bool)) e a w=>(Sum.elim (fun b18=>e = (.exit 0) ∧ Ok u m0 (S) w ∧ Env 28 a [(0,vs s_0)]) (fun b19=>e = .ret ∧ qgl u m0 S b19 a w)) b) ?_ ?_ N _ a w hL ⟨ok,E.keep [0,3],(ir 0)⟩
 ·rintro v4 a w r ⟨ok,E,r5⟩ hF
  replace hF:qdp N s_0 v4 = some r:=hF
  unfold qdp at hF
  refine wp_seq<|sg<|mz E rfl rfl fun a E=>lw E (qaG Tryz.underlying9 rfl) fun a E=>lw E (qaJ rfl rfl) fun a E=>wn<|cg E rfl hF (fun c6 hF=>?_) fun c6 hF=>?_
  ·refine wp_exit<|qaO ?_
   cases hF
   exact so (sl ⟨rfl,⟨ok,E.keep [0]⟩⟩)
  refine wp_skip<|qaa<|wp_seq<|wp_block<|sg<|mz E rfl rfl fun a E=>bd hF fun c7 e8 hF=>lv E ok (qbM Tryz.underlying9 rfl rfl e8) fun a E=>bd hF fun r9 e10 hF=>lc E qq4 rfl (qiT N (c7.toNat:Int) (InR.byte c7) e10 hG ok) fun w ok a E=>lw E (qaz rfl) fun a E=>wn<|cg E rfl hF (fun c11 hF=>?_) fun c11 hF=>?_
  ·refine wp_skip<|qag<|qaa<|qab<|mv E rfl fun a E=>lw E (qau rfl rfl (InR.inc r5 (InR.len ls_0) c6)) fun a E=>av E rfl fun a E=>wpList_nil ?_
   cases hF
   exact qap ⟨ok,E.keep [0,3],(InR.inc r5 (InR.len ls_0) c6)⟩
  refine sg<|aw E rfl fun a E=>wp_ret<|qam<|qaf ?_
  cases hF
  exact so (sr ⟨rfl,⟨ok,E.d,rz E rfl⟩⟩)
 intro e a w _ hO
 rcases o2 with o2 | o2
 rotate_left
 ·obtain ⟨rfl,hret⟩:=hO
  refine qam<|qaf ?_
  exact fin hF hret
 have hF:=qcl hF
 obtain ⟨rfl,ok,E⟩:=hO
 refine qba<|qaa<|sg<|mv E rfl fun a E=>lw E (qaG Tryz.underlying9 rfl) fun a E=>lw E (qcB rfl rfl) fun a E=>mv E rfl fun a E=>bw E 18 hF (fun c12 hF E=>?_) fun c12 hF E=>?_
 ·refine lsq E fun a E=>ls E fun a E=>pf E rfl rfl fun a E=>mv E rfl fun a E=>lsq E fun a E=>ls E fun a E=>pf E rfl rfl fun a E=>aw E rfl fun a E=>wp_ret ?_
  exact fin hF ⟨ok,E.d,rz E rfl⟩
 refine mv E rfl fun a E=>lw E (qaG Tryz.underlying9 rfl) fun a E=>lw E (qcd rfl rfl) fun a E=>pt E rfl rfl fun a E=>mv E rfl fun a E=>bw E 23 hF (fun c13 hF E=>?_) fun c13 hF E=>?_
 ·refine lsq E fun a E=>ls E fun a E=>pf E rfl rfl fun a E=>aw E rfl fun a E=>wp_ret ?_
  exact fin hF ⟨ok,E.d,rz E rfl⟩
 refine mv E rfl fun a E=>bd hF fun c14 e15 hF=>lv E ok (qbM Tryz.underlying9 rfl rfl e15) fun a E=>bd hF fun r16 e17 hF=>lc E qph rfl (qfY N (c14.toNat:Int) (InR.byte c14) e17 hG ok) fun w ok a E=>pt E rfl rfl fun a E=>aw E rfl fun a E=>wp_ret ?_
 exact fin hF ⟨ok,E.d,rz E rfl⟩
def qhb (u:World) (m0:Mem) (S:Segs) (r:Bool) (a:Act) (w:World):Prop :=
 Ok u m0 S w ∧ a.defers = [] ∧ RVs Tryz.prog a w [.t 2 (.bool r)]
theorem qcJ (N:Nat) (kind_0:Int) (rkind_0:InR .i64 kind_0) {r:Bool} (hF:qa8 N kind_0 = some r) (hG:Glob u) (ok:Ok u m0 S w) :
  Calls Tryz.prog 32 [vi kind_0].toArray w fun e w'=>(e = .returned (.bool r) ∧ Ok u m0 S w'):=by
 unfold qa8 at hF
 refine en (qhb u m0 S) r Tryz.func32 rfl rfl rfl (fun _ _ h=>ra h rfl) fun fin a E=>sg<|aw E rfl fun a E=>sg<|mv E rfl fun a E=>lw E (qao rfl rfl) fun a E=>mv E rfl fun a E=>bu E 5 hF (fun c1 hF E=>?_) fun c1 hF E=>?_
 ·refine lsq E fun a E=>pt E rfl rfl fun a E=>mv E rfl fun a E=>lsq E fun a E=>pt E rfl rfl fun a E=>av E rfl fun a E=>wn<|wp_ret ?_
  exact fin hF ⟨ok,E.d,rz E rfl⟩
 refine mv E rfl fun a E=>lw E (qao rfl rfl) fun a E=>pf E rfl rfl fun a E=>mv E rfl fun a E=>bu E 9 hF (fun c2 hF E=>?_) fun c2 hF E=>?_
 ·refine lsq E fun a E=>pt E rfl rfl fun a E=>aw E rfl fun a E=>wp_ret ?_
  exact fin hF ⟨ok,E.d,rz E rfl⟩
 refine mv E rfl fun a E=>lw E (qao rfl rfl) fun a E=>pf E rfl rfl fun a E=>aw E rfl fun a E=>wp_ret ?_
 exact fin hF ⟨ok,E.d,rz E rfl⟩
def qiJ (u:World) (m0:Mem) (S:Segs) (r:Bool) (a:Act) (w:World):Prop :=
 Ok u m0 S w ∧ a.defers = [] ∧ RVs Tryz.prog a w [.t 2 (.bool r)]
theorem qiQ (N:Nat) (s_0:List UInt8) (ls_0:s_0.length ≤ LIMS) {r:Bool} (hF:qdU N s_0 = some r) (hG:Glob u) (ok:Ok u m0 S w) :
  Calls Tryz.prog 48 [vs s_0].toArray w fun e w'=>(e = .returned (.bool r) ∧ Ok u m0 S w'):=by
 unfold qdU at hF
 refine en (qiJ u m0 S) r Tryz.func48 rfl rfl rfl (fun _ _ h=>ra h rfl) fun fin a E=>sg<|aw E rfl fun a E=>sg<|mv E rfl fun a E=>lw E (qbf rfl rfl) fun a E=>mv E rfl fun a E=>bu E 5 hF (fun c1 hF E=>?_) fun c1 hF E=>?_
 ·refine lsq E fun a E=>pt E rfl rfl fun a E=>mv E rfl fun a E=>lsq E fun a E=>pt E rfl rfl fun a E=>mv E rfl fun a E=>lsq E fun a E=>pt E rfl rfl fun a E=>mv E rfl fun a E=>lsq E fun a E=>pt E rfl rfl fun a E=>mv E rfl fun a E=>?_
  refine lsq E fun a E=>pt E rfl rfl fun a E=>aw E rfl fun a E=>wp_ret ?_
  exact fin hF ⟨ok,E.d,rz E rfl⟩
 refine mv E rfl fun a E=>lw E (qbf rfl rfl) fun a E=>pf E rfl rfl fun a E=>mv E rfl fun a E=>bu E 9 hF (fun c2 hF E=>?_) fun c2 hF E=>?_
 ·refine lsq E fun a E=>pt E rfl rfl fun a E=>mv E rfl fun a E=>lsq E fun a E=>pt E rfl rfl fun a E=>mv E rfl fun a E=>lsq E fun a E=>pt E rfl rfl fun a E=>mv E rfl fun a E=>lsq E fun a E=>pt E rfl rfl fun a E=>av E rfl fun a E=>?_
  refine wn<|wp_ret ?_
  exact fin hF ⟨ok,E.d,rz E rfl⟩
 refine mv E rfl fun a E=>lw E (qbf rfl rfl) fun a E=>pf E rfl rfl fun a E=>mv E rfl fun a E=>bu E 13 hF (fun c3 hF E=>?_) fun c3 hF E=>?_
 ·refine lsq E fun a E=>pt E rfl rfl fun a E=>mv E rfl fun a E=>lsq E fun a E=>pt E rfl rfl fun a E=>mv E rfl fun a E=>lsq E fun a E=>pt E rfl rfl fun a E=>aw E rfl fun a E=>wp_ret ?_
  exact fin hF ⟨ok,E.d,rz E rfl⟩
 refine mv E rfl fun a E=>lw E (qbf rfl rfl) fun a E=>pf E rfl rfl fun a E=>mv E rfl fun a E=>bu E 17 hF (fun c4 hF E=>?_) fun c4 hF E=>?_
 ·refine lsq E fun a E=>pt E rfl rfl fun a E=>mv E rfl fun a E=>lsq E fun a E=>pt E rfl rfl fun a E=>av E rfl fun a E=>wn<|wp_ret ?_
  exact fin hF ⟨ok,E.d,rz E rfl⟩
 refine mv E rfl fun a E=>lw E (qbf rfl rfl) fun a E=>pf E rfl rfl fun a E=>mv E rfl fun a E=>bu E 21 hF (fun c5 hF E=>?_) fun c5 hF E=>?_
 ·refine lsq E fun a E=>pt E rfl rfl fun a E=>aw E rfl fun a E=>wp_ret ?_
  exact fin hF ⟨ok,E.d,rz E rfl⟩
 refine mv E rfl fun a E=>lw E (qbf rfl rfl) fun a E=>pf E rfl rfl fun a E=>aw E rfl fun a E=>wp_ret ?_
 exact fin hF ⟨ok,E.d,rz E rfl⟩
def qfK (u:World) (m0:Mem) (S:Segs) (r:Bool) (a:Act) (w:World):Prop :=
 Ok u m0 S w ∧ a.defers = [] ∧ RVs Tryz.prog a w [.t 2 (.bool r)]
theorem qfM (N:Nat) (s_0:List UInt8) (ls_0:s_0.length ≤ LIMS) {r:Bool} (hF:qc2 N s_0 = some r) (hG:Glob u) (ok:Ok u m0 S w) :
  Calls Tryz.prog 71 [vs s_0].toArray w fun e w'=>(e = .returned (.bool r) ∧ Ok u m0 S w'):=by
 unfold qc2 at hF
 refine en (qfK u m0 S) r Tryz.func71 rfl rfl rfl (fun _ _ h=>ra h rfl) fun fin a E=>sg<|aw E rfl fun a E=>wp_seq<|sg<|aw E rfl fun a E=>wp_block<|bd hF fun o2 hL hF=>qaX _ (fun (s:Int) a w=>Ok u m0 (S) w ∧ Env 20 a [(0,vs s_0),(3,vi s)] ∧ InR .i64 s) (fun (b:(Unit ⊕ Bool)) e a w=>(Sum.elim (fun b13=>e = (.exit 0) ∧ Ok u m0 (S) w ∧ Env 20 a []) (fun b14=>e = .ret ∧ qfK u m0 S b14 a w)) b) ?_ ?_ N _ a w hL ⟨ok,E.keep [0,3],(ir 0)⟩
 rotate_left
 ·intro e a w _ hO
  rcases o2 with o2 | o2
  rotate_left
  ·obtain ⟨rfl,hret⟩:=hO
   refine qam<|qaf ?_
   exact fin hF hret
  have hF:=qcl hF
  obtain ⟨rfl,ok,E⟩:=hO
  refine qba<|qaa<|sg<|aw E rfl fun a E=>wp_ret ?_
  exact fin hF ⟨ok,E.d,rz E rfl⟩
 rintro v4 a w r ⟨ok,E,r5⟩ hF
 replace hF:qc4 N s_0 v4 = some r:=hF
 unfold qc4 at hF
 refine wp_seq<|sg<|mz E rfl rfl fun a E=>lw E (qaG Tryz.underlying9 rfl) fun a E=>lw E (qaJ rfl rfl) fun a E=>wn<|cg E rfl hF (fun c6 hF=>?_) fun c6 hF=>?_
 ·refine wp_exit<|qaO ?_
  cases hF
  exact so (sl ⟨rfl,⟨ok,E.keep []⟩⟩)
 refine wp_skip<|qaa<|wp_seq<|wp_block<|sg<|mz E rfl rfl fun a E=>bd hF fun c7 e8 hF=>lv E ok (qbM Tryz.underlying9 rfl rfl e8) fun a E=>lw E (qaJ rfl rfl) fun a E=>mv E rfl fun a E=>bu E 14 hF (fun c9 hF E=>?_) fun c9 hF E=>?_
 ·refine lsz E fun a E=>pt E rfl rfl fun a E=>wn<|c_if E rfl (fun _=>?_) (fun h=>by cases h)
  refine sg<|aw E rfl fun a E=>wp_ret<|qam<|qaf ?_
  cases hF
  exact so (sr ⟨rfl,⟨ok,E.d,rz E rfl⟩⟩)
 refine mz E rfl rfl fun a E=>bd hF fun c10 e11 hF=>lv E ok (qbM Tryz.underlying9 rfl rfl e11) fun a E=>lw E (qa9 rfl rfl) fun a E=>pf E rfl rfl fun a E=>wn<|cg E rfl hF (fun c12 hF=>?_) fun c12 hF=>?_
 ·refine wp_skip<|qag<|qaa<|qab<|mv E rfl fun a E=>lw E (qau rfl rfl (InR.inc r5 (InR.len ls_0) c6)) fun a E=>av E rfl fun a E=>wpList_nil ?_
  cases hF
  exact qap ⟨ok,E.keep [0,3],(InR.inc r5 (InR.len ls_0) c6)⟩
 refine sg<|aw E rfl fun a E=>wp_ret<|qam<|qaf ?_
 cases hF
 exact so (sr ⟨rfl,⟨ok,E.d,rz E rfl⟩⟩)
def qgi (u:World) (m0:Mem) (S:Segs) (r:Bool) (a:Act) (w:World):Prop :=
 Ok u m0 S w ∧ a.defers = [] ∧ RVs Tryz.prog a w [.t 2 (.bool r)]
theorem qem (N:Nat) (s_0:List UInt8) (ls_0:s_0.length ≤ LIMS) {r:Bool} (hF:qcx N s_0 = some r) (hG:Glob u) (ok:Ok u m0 S w) :
  Calls Tryz.prog 72 [vs s_0].toArray w fun e w'=>(e = .returned (.bool r) ∧ Ok u m0 S w'):=by
 unfold qcx at hF
 refine en (qgi u m0 S) r Tryz.func72 rfl rfl rfl (fun _ _ h=>ra h rfl) fun fin a E=>sg<|aw E rfl fun a E=>wp_seq<|sg<|aw E rfl fun a E=>wp_block<|bd hF fun o2 hL hF=>qaX _ (fun (s:Int) a w=>Ok u m0 (S) w ∧ Env 14 a [(0,vs s_0),(3,vi s)] ∧ InR .i64 s) (fun (b:(Unit ⊕ Bool)) e a w=>(Sum.elim (fun b10=>e = (.exit 0) ∧ Ok u m0 (S) w ∧ Env 14 a []) (fun b11=>e = .ret ∧ qgi u m0 S b11 a w)) b) ?_ ?_ N _ a w hL ⟨ok,E.keep [0,3],(ir 0)⟩
 rotate_left
 ·intro e a w _ hO
  rcases o2 with o2 | o2
  rotate_left
  ·obtain ⟨rfl,hret⟩:=hO
   refine qam<|qaf ?_
   exact fin hF hret
  have hF:=qcl hF
  obtain ⟨rfl,ok,E⟩:=hO
  refine qba<|qaa<|sg<|aw E rfl fun a E=>wp_ret ?_
  exact fin hF ⟨ok,E.d,rz E rfl⟩
 rintro v4 a w r ⟨ok,E,r5⟩ hF
 replace hF:qds N s_0 v4 = some r:=hF
 unfold qds at hF
 refine wp_seq<|sg<|mz E rfl rfl fun a E=>lw E (qaG Tryz.underlying9 rfl) fun a E=>lw E (qaJ rfl rfl) fun a E=>wn<|cg E rfl hF (fun c6 hF=>?_) fun c6 hF=>?_
 ·refine wp_exit<|qaO ?_
  cases hF
  exact so (sl ⟨rfl,⟨ok,E.keep []⟩⟩)
 refine wp_skip<|qaa<|wp_seq<|wp_block<|sg<|mz E rfl rfl fun a E=>bd hF fun c7 e8 hF=>lv E ok (qbM Tryz.underlying9 rfl rfl e8) fun a E=>lw E (qda rfl rfl) fun a E=>wn<|cg E rfl hF (fun c9 hF=>?_) fun c9 hF=>?_
 ·refine wp_skip<|qag<|qaa<|qab<|mv E rfl fun a E=>lw E (qau rfl rfl (InR.inc r5 (InR.len ls_0) c6)) fun a E=>av E rfl fun a E=>wpList_nil ?_
  cases hF
  exact qap ⟨ok,E.keep [0,3],(InR.inc r5 (InR.len ls_0) c6)⟩
 refine sg<|aw E rfl fun a E=>wp_ret<|qam<|qaf ?_
 cases hF
 exact so (sr ⟨rfl,⟨ok,E.d,rz E rfl⟩⟩)
end Go.Proofs.YtmghnmfefpeelaaGreatDoor
namespace Go.Proofs.YtmghnmfefpeelaaGreatDoor
open Go.X
variable {u:World} {m0:Mem} {S:Segs} {w:World}
set_option maxHeartbeats 4000000
set_option maxRecDepth 100000
def qdq (u:World) (m0:Mem) (S:Segs) (r:Number2 × Bool) (a:Act) (w:World):Prop :=
 ∃ m1 v0,m0.le m1 ∧ Ok u m1 S w ∧ a.defers = [] ∧ RVs Tryz.prog a w [.c 2 97 (.agg v0.toArray),.t 3 (.bool r.2)] ∧ qlN m1 v0 r.1
theorem qiH (N:Nat) (s_0:List UInt8) (ls_0:s_0.length ≤ LIMS) {r:Number2 × Bool} (hF:qdi N s_0 = some r) (hG:Glob u) (ok:Ok u m0 S w) :
  Calls Tryz.prog 61 [vs s_0].toArray w fun e w'=>∃ m1 v0,e = .returned (.tuple [(.agg v0.toArray),(.bool r.2)].toArray) ∧ m0.le m1 ∧ Ok u m1 S w' ∧ qlN m1 v0 r.1:=by
 have le_m0:=Mem.le.refl m0
 unfold qdi at hF
 refine en (qdq u m0 S) r Tryz.func61 rfl rfl rfl (by rintro a w ⟨m1,v0,hle,ok,hd,hrv,h0⟩; exact qcw [.c 2 97 (.agg v0.toArray),.t 3 (.bool r.2)] hd rfl hrv ⟨m1,v0,rfl,hle,ok,h0⟩) fun fin a E=>sg<|qbh E ok qcf rfl rfl fun b1 a w E ok=>aw E rfl fun a E=>sg<|qbh E ok qcf rfl rfl fun b2 a w E ok=>wn<|wp_seq<|sg<|mv E rfl fun a E=>lw E (qaG Tryz.underlying9 rfl) fun a E=>lw E (qa9 rfl rfl) fun a E=>mv E rfl fun a E=>bw E 9 hF (fun c3 hF E=>?_) fun c3 hF E=>?_
 ·as_aux_lemma =>
   refine lsq E fun a E=>ls E fun a E=>pf E rfl rfl fun a E=>wn<|c_if E rfl (fun h=>by cases h) (fun _=>?_)
   refine wp_skip<|qaa<|sg<|aw E rfl fun a E=>wp_seq<|wp_block<|bd hF fun o73 hL hF=>qaX _ (fun (s:Int) a w=>Ok u m0 ([(b2,oc 97 [vb false,(vs ([])),(vs ([]))])] :: [(b1,oc 97 [vb false,(vs ([])),(vs ([]))])] :: S) w ∧ Env 98 a [(0,vs s_0),(2,vp b1),(4,vp b2),(5,vi s)] ∧ InR .i64 s) (fun (b:Int) e a w=>e = (.exit 0) ∧ Ok u m0 ([(b2,oc 97 [vb false,(vs ([])),(vs ([]))])] :: [(b1,oc 97 [vb false,(vs ([])),(vs ([]))])] :: S) w ∧ Env 98 a [(0,vs s_0),(2,vp b1),(4,vp b2),(5,vi b)] ∧ InR .i64 b) ?_ ?_ N _ a w hL ⟨ok,E.keep [0,2,4,5],(ir 0)⟩
   ·rintro v75 a w r ⟨ok,E,r76⟩ hF
    replace hF:qeN N s_0 v75 = some r:=hF
    unfold qeN at hF
    refine wp_seq<|sg<|mz E rfl rfl fun a E=>lw E (qaG Tryz.underlying9 rfl) fun a E=>lw E (qaJ rfl rfl) fun a E=>mv E rfl fun a E=>bw E 21 hF (fun c77 hF E=>?_) fun c77 hF E=>?_
    ·refine lsz E fun a E=>pf E rfl rfl fun a E=>wn<|c_if E rfl (fun h=>by cases h) (fun _=>?_)
     refine wp_exit<|qaO ?_
     cases hF
     exact so (⟨rfl,⟨ok,E.keep [0,2,4,5],r76⟩⟩)
    refine mz E rfl rfl fun a E=>bd hF fun c78 e79 hF=>lv E ok (qbM Tryz.underlying9 rfl rfl e79) fun a E=>lw E (qda rfl rfl) fun a E=>pt E rfl rfl fun a E=>wn<|cg E rfl hF (fun c80 hF=>?_) fun c80 hF=>?_
    ·refine wp_exit<|qaO ?_
     cases hF
     exact so (⟨rfl,⟨ok,E.keep [0,2,4,5],r76⟩⟩)
    refine wp_skip<|qaa<|wp_block<|qab<|mv E rfl fun a E=>lw E (qau rfl rfl (InR.inc r76 (InR.len ls_0) c77)) fun a E=>av E rfl fun a E=>wpList_nil<|qag ?_
    cases hF
    exact qap ⟨ok,E.keep [0,2,4,5],(InR.inc r76 (InR.len ls_0) c77)⟩
   intro e a w _ hO
   obtain ⟨rfl,ok,E,r81⟩:=hO
   refine qba<|qaa<|sg<|mz E rfl rfl fun a E=>bd hF fun s82 e83 hF=>lw E (qf4 Tryz.underlying9 e83 rfl rfl ⟨_,rfl⟩) fun a E=>fv E qdj rfl fun a E=>qai E ok 0 rfl rfl rfl qex rfl rfl ⟨rfl,trivial⟩ rfl rfl fun w ok=>wn<|wp_seq<|sg<|mz E rfl rfl fun a E=>lw E (qaG Tryz.underlying9 rfl) fun a E=>lw E (qaJ rfl rfl) fun a E=>wn<|bd hF fun o84 hJ hF=>qaK (Q':=fun e a w=>(Sum.elim (fun b85=>e = .normal ∧ Ok u m0 ([(b2,oc 97 [vb b85.Neg,vs b85.Whole,vs b85.Frac])] :: [(b1,oc 97 [vb false,(vs ([])),(vs ([]))])] :: S) w ∧ Env 98 a [(2,vp b1),(4,vp b2)] ∧ b85.Whole.length ≤ LIMS ∧ b85.Frac.length ≤ LIMS) (fun b88=>e = .ret ∧ qdq u m0 S b88 a w)) o84) ?_ ?_
   ·have hF:=hJ
    refine cg E rfl hF (fun c89 hF=>?_) fun c89 hF=>?_
    ·refine wp_skip ?_
     cases hF
     exact (sl ⟨rfl,⟨ok,E.keep [2,4],(Nat.le_trans (qfA e83) ls_0),(Nat.zero_le _)⟩⟩)
    refine sg<|mz E rfl rfl fun a E=>lw E (qau rfl rfl (InR.inc r81 (InR.len ls_0) c89)) fun a E=>bd hF fun s90 e91 hF=>lw E (qf4 Tryz.underlying9 e91 rfl ⟨_,rfl⟩ rfl) fun a E=>fv E qdO rfl fun a E=>qai E ok 0 rfl rfl rfl qex rfl rfl ⟨rfl,trivial⟩ rfl rfl fun w ok=>wn<|sg<|fv E qdO rfl fun a E=>ld E ok qah 0 rfl rfl rfl fun a E=>lw E (qaG Tryz.underlying9 rfl) fun a E=>lw E (qao rfl rfl) fun a E=>wn<|cg E rfl hF (fun c92 hF=>?_) fun c92 hF=>?_
    ·refine wp_skip ?_
     cases hF
     exact (sl ⟨rfl,⟨ok,E.keep [2,4],(Nat.le_trans (qfA e83) ls_0),(Nat.le_trans (qfA e91) ls_0)⟩⟩)
    refine sg<|lw E (qav (ps:=[]) (qs:=[]) (cs:=[vb false,(vs ([])),(vs ([]))]) qcf qbX rfl trivial rfl) fun a E=>qai E ok 1 rfl rfl rfl qb1 rfl rfl ⟨rfl,rfl,rfl,trivial⟩ rfl rfl fun w ok=>aw E rfl fun a E=>wp_ret ?_
    have hret:qdq u m0 S ((Number2.mk false ([]) ([])),false) a w:=⟨m0,[vb false,(vs ([])),(vs ([]))],le_m0,ok.drop.drop,E.d,⟨rv_c (cs:=[vb false,(vs ([])),(vs ([]))]) E ok rfl qbm rfl (qac.own 1 rfl rfl),rv_t E rfl,trivial⟩,⟨rfl,(Nat.zero_le _),(Nat.zero_le _)⟩⟩
    cases hF
    exact (sr ⟨rfl,hret⟩)
   intro e a w hO
   rcases o84 with o84 | o84
   rotate_left
   ·obtain ⟨rfl,hret⟩:=hO
    refine qaf ?_
    exact fin hF hret
   have hF:=qcl hF
   obtain ⟨rfl,ok,E,l93,l94⟩:=hO
   refine qaa<|wp_seq<|sg<|fk E ok qdj qah rfl 0 rfl rfl fun a E=>fk E ok qdO qah rfl 0 rfl rfl fun a E=>bd hF fun s95 e96 hF=>lw E (qaN rfl rfl e96) fun a E=>bd hF fun r97 e98 hF=>lc E qpd rfl (qfM N s95 (qbZ e96) e98 hG ok) fun w ok a E=>lw E (qaz rfl) fun a E=>mv E rfl fun a E=>bu E 54 hF (fun c99 hF E=>?_) fun c99 hF E=>?_
   ·refine lsz E fun a E=>pt E rfl rfl fun a E=>mv E rfl fun a E=>lsz E fun a E=>pt E rfl rfl fun a E=>mv E rfl fun a E=>lsz E fun a E=>?_
    refine lsz E fun a E=>lsq E fun a E=>pt E rfl rfl fun a E=>mv E rfl fun a E=>lsz E fun a E=>pt E rfl rfl fun a E=>mv E rfl fun a E=>lsq E fun a E=>?_
    refine lsz E fun a E=>lsz E fun a E=>pt E rfl rfl fun a E=>wn<|c_if E rfl (fun _=>?_) (fun h=>by cases h)
    refine sg<|lw E (qav (ps:=[]) (qs:=[]) (cs:=[vb false,(vs ([])),(vs ([]))]) qcf qbX rfl trivial rfl) fun a E=>qai E ok 1 rfl rfl rfl qb1 rfl rfl ⟨rfl,rfl,rfl,trivial⟩ rfl rfl fun w ok=>aw E rfl fun a E=>wp_ret<|qaf ?_
    exact fin hF ⟨m0,[vb false,(vs ([])),(vs ([]))],le_m0,ok.drop.drop,E.d,⟨rv_c (cs:=[vb false,(vs ([])),(vs ([]))]) E ok rfl qbm rfl (qac.own 1 rfl rfl),rv_t E rfl,trivial⟩,⟨rfl,(Nat.zero_le _),(Nat.zero_le _)⟩⟩
   refine fk E ok qdj qah rfl 0 rfl rfl fun a E=>lw E (qaG Tryz.underlying9 rfl) fun a E=>lw E (qaJ rfl rfl) fun a E=>pf E rfl rfl fun a E=>mv E rfl fun a E=>bu E 60 hF (fun c100 hF E=>?_) fun c100 hF E=>?_
   ·refine lsz E fun a E=>pt E rfl rfl fun a E=>mv E rfl fun a E=>lsz E fun a E=>lsz E fun a E=>lsq E fun a E=>?_
    refine pt E rfl rfl fun a E=>mv E rfl fun a E=>lsz E fun a E=>pt E rfl rfl fun a E=>mv E rfl fun a E=>lsz E fun a E=>lsz E fun a E=>?_
    refine lsq E fun a E=>pt E rfl rfl fun a E=>wn<|c_if E rfl (fun _=>?_) (fun h=>by cases h)
    refine sg<|lw E (qav (ps:=[]) (qs:=[]) (cs:=[vb false,(vs ([])),(vs ([]))]) qcf qbX rfl trivial rfl) fun a E=>qai E ok 1 rfl rfl rfl qb1 rfl rfl ⟨rfl,rfl,rfl,trivial⟩ rfl rfl fun w ok=>aw E rfl fun a E=>wp_ret<|qaf ?_
    exact fin hF ⟨m0,[vb false,(vs ([])),(vs ([]))],le_m0,ok.drop.drop,E.d,⟨rv_c (cs:=[vb false,(vs ([])),(vs ([]))]) E ok rfl qbm rfl (qac.own 1 rfl rfl),rv_t E rfl,trivial⟩,⟨rfl,(Nat.zero_le _),(Nat.zero_le _)⟩⟩
   refine fk E ok qdj qah rfl 0 rfl rfl fun a E=>lw E (qaG Tryz.underlying9 rfl) fun a E=>lw E (qa9 rfl rfl) fun a E=>pf E rfl rfl fun a E=>mv E rfl fun a E=>bu E 66 hF (fun c101 hF E=>?_) fun c101 hF E=>?_
   ·refine lsz E fun a E=>lsz E fun a E=>lsq E fun a E=>pt E rfl rfl fun a E=>mv E rfl fun a E=>lsz E fun a E=>?_
    refine pt E rfl rfl fun a E=>mv E rfl fun a E=>lsz E fun a E=>lsz E fun a E=>lsq E fun a E=>pt E rfl rfl fun a E=>wn<|c_if E rfl (fun _=>?_) (fun h=>by cases h)
    refine sg<|lw E (qav (ps:=[]) (qs:=[]) (cs:=[vb false,(vs ([])),(vs ([]))]) qcf qbX rfl trivial rfl) fun a E=>qai E ok 1 rfl rfl rfl qb1 rfl rfl ⟨rfl,rfl,rfl,trivial⟩ rfl rfl fun w ok=>aw E rfl fun a E=>wp_ret<|qaf ?_
    exact fin hF ⟨m0,[vb false,(vs ([])),(vs ([]))],le_m0,ok.drop.drop,E.d,⟨rv_c (cs:=[vb false,(vs ([])),(vs ([]))]) E ok rfl qbm rfl (qac.own 1 rfl rfl),rv_t E rfl,trivial⟩,⟨rfl,(Nat.zero_le _),(Nat.zero_le _)⟩⟩
   refine fk E ok qdj qah rfl 0 rfl rfl fun a E=>lw E (qaG Tryz.underlying9 rfl) fun a E=>lw E (qa9 rfl rfl) fun a E=>mv E rfl fun a E=>bw E 71 hF (fun c102 hF E=>?_) fun c102 hF E=>?_
   ·as_aux_lemma =>
     refine lsz E fun a E=>pf E rfl rfl fun a E=>pf E rfl rfl fun a E=>mv E rfl fun a E=>fv E qdO rfl fun a E=>ld E ok qah 0 rfl rfl rfl fun a E=>lw E (qaG Tryz.underlying9 rfl) fun a E=>lw E (qa9 rfl rfl) fun a E=>pf E rfl rfl fun a E=>mv E rfl fun a E=>bu E 84 hF (fun c113 hF E=>?_) fun c113 hF E=>?_
     ·refine lsz E fun a E=>lsz E fun a E=>lsq E fun a E=>pt E rfl rfl fun a E=>wn<|c_if E rfl (fun _=>?_) (fun h=>by cases h)
      refine sg<|lw E (qav (ps:=[]) (qs:=[]) (cs:=[vb false,(vs ([])),(vs ([]))]) qcf qbX rfl trivial rfl) fun a E=>qai E ok 1 rfl rfl rfl qb1 rfl rfl ⟨rfl,rfl,rfl,trivial⟩ rfl rfl fun w ok=>aw E rfl fun a E=>wp_ret<|qaf ?_
      exact fin hF ⟨m0,[vb false,(vs ([])),(vs ([]))],le_m0,ok.drop.drop,E.d,⟨rv_c (cs:=[vb false,(vs ([])),(vs ([]))]) E ok rfl qbm rfl (qac.own 1 rfl rfl),rv_t E rfl,trivial⟩,⟨rfl,(Nat.zero_le _),(Nat.zero_le _)⟩⟩
     refine fk E ok qhT qen rfl 0 rfl rfl fun a E=>mv E rfl fun a E=>qaW o84.Neg (fun c114=>?_) (fun c114=>?_)
     rotate_left
     ·have hF:=qaV c114 hF
      have E:=E.upd 87 c114 rfl
      refine lsz E fun a E=>lsq E fun a E=>pf E rfl rfl fun a E=>pf E rfl rfl fun a E=>wn<|c_if E rfl (fun h=>by cases h) (fun _=>?_)
      refine wp_skip<|qaa<|sg<|lv E ok (qaj (cs:=[vb o84.Neg,vs o84.Whole,vs o84.Frac]) qbm rfl rfl (qac.own 0 rfl rfl)) fun a E=>qai E ok 1 rfl rfl rfl qb1 rfl rfl ⟨rfl,rfl,rfl,trivial⟩ rfl rfl fun w ok=>av E rfl fun a E=>wn<|wp_ret ?_
      exact fin hF ⟨m0,[vb o84.Neg,vs o84.Whole,vs o84.Frac],le_m0,ok.drop.drop,E.d,⟨rv_c (cs:=[vb o84.Neg,vs o84.Whole,vs o84.Frac]) E ok rfl qbm rfl (qac.own 1 rfl rfl),rv_t E rfl,trivial⟩,⟨rfl,l93,l94⟩⟩
     have hF:=qaU c114 hF
     have E:=E.upd 87 c114 rfl
     refine fk E ok qdj qah rfl 0 rfl rfl fun a E=>fk E ok qdO qah rfl 0 rfl rfl fun a E=>bd hF fun s115 e116 hF=>lw E (qaN rfl rfl e116) fun a E=>bd hF fun r117 e118 hF=>lc E qlF rfl (qem N s115 (qbZ e116) e118 hG ok) fun w ok a E=>pt E rfl rfl fun a E=>pf E rfl rfl fun a E=>wn<|cf E rfl hF (fun c119 hF=>?_) fun c119 hF=>?_
     ·refine sg<|lw E (qav (ps:=[]) (qs:=[]) (cs:=[vb false,(vs ([])),(vs ([]))]) qcf qbX rfl trivial rfl) fun a E=>qai E ok 1 rfl rfl rfl qb1 rfl rfl ⟨rfl,rfl,rfl,trivial⟩ rfl rfl fun w ok=>aw E rfl fun a E=>wp_ret<|qaf ?_
      exact fin hF ⟨m0,[vb false,(vs ([])),(vs ([]))],le_m0,ok.drop.drop,E.d,⟨rv_c (cs:=[vb false,(vs ([])),(vs ([]))]) E ok rfl qbm rfl (qac.own 1 rfl rfl),rv_t E rfl,trivial⟩,⟨rfl,(Nat.zero_le _),(Nat.zero_le _)⟩⟩
     refine wp_skip<|qaa<|sg<|lv E ok (qaj (cs:=[vb o84.Neg,vs o84.Whole,vs o84.Frac]) qbm rfl rfl (qac.own 0 rfl rfl)) fun a E=>qai E ok 1 rfl rfl rfl qb1 rfl rfl ⟨rfl,rfl,rfl,trivial⟩ rfl rfl fun w ok=>av E rfl fun a E=>wn<|wp_ret ?_
     exact fin hF ⟨m0,[vb o84.Neg,vs o84.Whole,vs o84.Frac],le_m0,ok.drop.drop,E.d,⟨rv_c (cs:=[vb o84.Neg,vs o84.Whole,vs o84.Frac]) E ok rfl qbm rfl (qac.own 1 rfl rfl),rv_t E rfl,trivial⟩,⟨rfl,l93,l94⟩⟩
   refine fk E ok qdj qah rfl 0 rfl rfl fun a E=>bd hF fun c103 e104 hF=>lv E ok (qbM Tryz.underlying9 rfl rfl e104) fun a E=>lw E (qao rfl rfl) fun a E=>pt E rfl rfl fun a E=>pf E rfl rfl fun a E=>mv E rfl fun a E=>bu E 78 hF (fun c105 hF E=>?_) fun c105 hF E=>?_
   ·refine lsz E fun a E=>pt E rfl rfl fun a E=>mv E rfl fun a E=>lsz E fun a E=>lsz E fun a E=>lsq E fun a E=>?_
    refine pt E rfl rfl fun a E=>wn<|c_if E rfl (fun _=>?_) (fun h=>by cases h)
    refine sg<|lw E (qav (ps:=[]) (qs:=[]) (cs:=[vb false,(vs ([])),(vs ([]))]) qcf qbX rfl trivial rfl) fun a E=>qai E ok 1 rfl rfl rfl qb1 rfl rfl ⟨rfl,rfl,rfl,trivial⟩ rfl rfl fun w ok=>aw E rfl fun a E=>wp_ret<|qaf ?_
    exact fin hF ⟨m0,[vb false,(vs ([])),(vs ([]))],le_m0,ok.drop.drop,E.d,⟨rv_c (cs:=[vb false,(vs ([])),(vs ([]))]) E ok rfl qbm rfl (qac.own 1 rfl rfl),rv_t E rfl,trivial⟩,⟨rfl,(Nat.zero_le _),(Nat.zero_le _)⟩⟩
   refine fk E ok qdO qah rfl 0 rfl rfl fun a E=>lw E (qaG Tryz.underlying9 rfl) fun a E=>lw E (qa9 rfl rfl) fun a E=>pf E rfl rfl fun a E=>mv E rfl fun a E=>bu E 84 hF (fun c106 hF E=>?_) fun c106 hF E=>?_
   ·refine lsz E fun a E=>lsz E fun a E=>lsq E fun a E=>pt E rfl rfl fun a E=>wn<|c_if E rfl (fun _=>?_) (fun h=>by cases h)
    refine sg<|lw E (qav (ps:=[]) (qs:=[]) (cs:=[vb false,(vs ([])),(vs ([]))]) qcf qbX rfl trivial rfl) fun a E=>qai E ok 1 rfl rfl rfl qb1 rfl rfl ⟨rfl,rfl,rfl,trivial⟩ rfl rfl fun w ok=>aw E rfl fun a E=>wp_ret<|qaf ?_
    exact fin hF ⟨m0,[vb false,(vs ([])),(vs ([]))],le_m0,ok.drop.drop,E.d,⟨rv_c (cs:=[vb false,(vs ([])),(vs ([]))]) E ok rfl qbm rfl (qac.own 1 rfl rfl),rv_t E rfl,trivial⟩,⟨rfl,(Nat.zero_le _),(Nat.zero_le _)⟩⟩
   refine fk E ok qhT qen rfl 0 rfl rfl fun a E=>mv E rfl fun a E=>qaW o84.Neg (fun c107=>?_) (fun c107=>?_)
   rotate_left
   ·have hF:=qaV c107 hF
    have E:=E.upd 87 c107 rfl
    refine lsz E fun a E=>lsq E fun a E=>pf E rfl rfl fun a E=>pf E rfl rfl fun a E=>wn<|c_if E rfl (fun h=>by cases h) (fun _=>?_)
    refine wp_skip<|qaa<|sg<|lv E ok (qaj (cs:=[vb o84.Neg,vs o84.Whole,vs o84.Frac]) qbm rfl rfl (qac.own 0 rfl rfl)) fun a E=>qai E ok 1 rfl rfl rfl qb1 rfl rfl ⟨rfl,rfl,rfl,trivial⟩ rfl rfl fun w ok=>av E rfl fun a E=>wn<|wp_ret ?_
    exact fin hF ⟨m0,[vb o84.Neg,vs o84.Whole,vs o84.Frac],le_m0,ok.drop.drop,E.d,⟨rv_c (cs:=[vb o84.Neg,vs o84.Whole,vs o84.Frac]) E ok rfl qbm rfl (qac.own 1 rfl rfl),rv_t E rfl,trivial⟩,⟨rfl,l93,l94⟩⟩
   have hF:=qaU c107 hF
   have E:=E.upd 87 c107 rfl
   refine fk E ok qdj qah rfl 0 rfl rfl fun a E=>fk E ok qdO qah rfl 0 rfl rfl fun a E=>bd hF fun s108 e109 hF=>lw E (qaN rfl rfl e109) fun a E=>bd hF fun r110 e111 hF=>lc E qlF rfl (qem N s108 (qbZ e109) e111 hG ok) fun w ok a E=>pt E rfl rfl fun a E=>pf E rfl rfl fun a E=>wn<|cf E rfl hF (fun c112 hF=>?_) fun c112 hF=>?_
   ·refine sg<|lw E (qav (ps:=[]) (qs:=[]) (cs:=[vb false,(vs ([])),(vs ([]))]) qcf qbX rfl trivial rfl) fun a E=>qai E ok 1 rfl rfl rfl qb1 rfl rfl ⟨rfl,rfl,rfl,trivial⟩ rfl rfl fun w ok=>aw E rfl fun a E=>wp_ret<|qaf ?_
    exact fin hF ⟨m0,[vb false,(vs ([])),(vs ([]))],le_m0,ok.drop.drop,E.d,⟨rv_c (cs:=[vb false,(vs ([])),(vs ([]))]) E ok rfl qbm rfl (qac.own 1 rfl rfl),rv_t E rfl,trivial⟩,⟨rfl,(Nat.zero_le _),(Nat.zero_le _)⟩⟩
   refine wp_skip<|qaa<|sg<|lv E ok (qaj (cs:=[vb o84.Neg,vs o84.Whole,vs o84.Frac]) qbm rfl rfl (qac.own 0 rfl rfl)) fun a E=>qai E ok 1 rfl rfl rfl qb1 rfl rfl ⟨rfl,rfl,rfl,trivial⟩ rfl rfl fun w ok=>av E rfl fun a E=>wn<|wp_ret ?_
   exact fin hF ⟨m0,[vb o84.Neg,vs o84.Whole,vs o84.Frac],le_m0,ok.drop.drop,E.d,⟨rv_c (cs:=[vb o84.Neg,vs o84.Whole,vs o84.Frac]) E ok rfl qbm rfl (qac.own 1 rfl rfl),rv_t E rfl,trivial⟩,⟨rfl,l93,l94⟩⟩
 refine mv E rfl fun a E=>bd hF fun c4 e5 hF=>lv E ok (qbM Tryz.underlying9 rfl rfl e5) fun a E=>lw E (qao rfl rfl) fun a E=>pt E rfl rfl fun a E=>wn<|bd hF fun o6 hJ hF=>qaK (Q':=fun e a w=>e = .normal ∧ Ok u m0 ([(b2,oc 97 [vb o6.2.Neg,vs o6.2.Whole,vs o6.2.Frac])] :: [(b1,oc 97 [vb false,(vs ([])),(vs ([]))])] :: S) w ∧ Env 98 a [(0,vs o6.1),(2,vp b1),(4,vp b2)] ∧ o6.1.length ≤ LIMS ∧ o6.2.Whole.length ≤ LIMS ∧ o6.2.Frac.length ≤ LIMS) ?_ ?_
 ·have hF:=hJ
  refine cg E rfl hF (fun c10 hF=>?_) fun c10 hF=>?_
  ·refine wp_skip ?_
   cases hF
   exact ⟨rfl,⟨ok,E.keep [0,2,4],ls_0,(Nat.zero_le _),(Nat.zero_le _)⟩⟩
  refine bd hF fun o11 hJ hF=>qaK (Q':=fun e a w=>e = .normal ∧ Ok u m0 ([(b2,oc 97 [vb o11.2.Neg,vs o11.2.Whole,vs o11.2.Frac])] :: [(b1,oc 97 [vb false,(vs ([])),(vs ([]))])] :: S) w ∧ Env 98 a [(0,vs o11.1),(2,vp b1),(4,vp b2)] ∧ o11.1.length ≤ LIMS ∧ o11.2.Whole.length ≤ LIMS ∧ o11.2.Frac.length ≤ LIMS) ?_ ?_
  rotate_left
  ·intro e a w hO
   obtain ⟨rfl,ok,E,l17,l18,l19⟩:=hO
   cases hF
   exact ⟨rfl,⟨ok,E.keep [0,2,4],l17,l18,l19⟩⟩
  have hF:=hJ
  obtain ⟨s15,e16,hF⟩:=bnd hF
  obtain rfl:=sj hF
  refine qbT [] (Cls u m0 ([(b1,oc 97 [vb false,(vs ([])),(vs ([]))])] :: [])) (Cls u m0 ([(b1,oc 97 [vb false,(vs ([])),(vs ([]))])] :: [])) (by kernel_rfl) ?_
  intro w hw
  replace ok:=qck ok hw
  clear hw
  refine qan (cl1 (cq le_m0 ok [1] rfl) (cq le_m0 ok [1] rfl)) fun hT=>kt 0 E rfl hT (qal rfl) fun a E=>kt 1 E rfl hT (qf4 Tryz.underlying9 e16 rfl ⟨_,rfl⟩ rfl) fun a E=>kt 2 E rfl hT (qad qhT rfl) fun a E=>qaC [3] (by kernel_rfl) rfl (qaH ?_)
  ·refine wo rfl<|qai E ok 0 rfl rfl rfl qkw rfl rfl ⟨rfl,trivial⟩ rfl rfl fun w ok=>wn<|qan (cl1 (cq le_m0 ok [1] rfl) (cq le_m0 ok [1] rfl)) fun hT=>kt 4 E rfl hT (qa4 rfl) fun a E=>qbq (by kernel_rfl) ?_
   exact ⟨rfl,⟨ok,E.keep [0,2,4],(Nat.le_trans (qfA e16) ls_0),(Nat.zero_le _),(Nat.zero_le _)⟩⟩
 intro e a w hO
 obtain ⟨rfl,ok,E,l20,l21,l22⟩:=hO
 refine qaa<|sg<|aw E rfl fun a E=>wp_seq<|wp_block<|bd hF fun o24 hL hF=>qaX _ (fun (s:Int) a w=>Ok u m0 ([(b2,oc 97 [vb o6.2.Neg,vs o6.2.Whole,vs o6.2.Frac])] :: [(b1,oc 97 [vb false,(vs ([])),(vs ([]))])] :: S) w ∧ Env 98 a [(0,vs o6.1),(2,vp b1),(4,vp b2),(5,vi s)] ∧ InR .i64 s) (fun (b:Int) e a w=>e = (.exit 0) ∧ Ok u m0 ([(b2,oc 97 [vb o6.2.Neg,vs o6.2.Whole,vs o6.2.Frac])] :: [(b1,oc 97 [vb false,(vs ([])),(vs ([]))])] :: S) w ∧ Env 98 a [(0,vs o6.1),(2,vp b1),(4,vp b2),(5,vi b)] ∧ InR .i64 b) ?_ ?_ N _ a w hL ⟨ok,E.keep [0,2,4,5],(ir 0)⟩
 ·rintro v26 a w r ⟨ok,E,r27⟩ hF
  replace hF:qdY N o6 v26 = some r:=hF
  unfold qdY at hF
  refine wp_seq<|sg<|mz E rfl rfl fun a E=>lw E (qaG Tryz.underlying9 rfl) fun a E=>lw E (qaJ rfl rfl) fun a E=>mv E rfl fun a E=>bw E 21 hF (fun c28 hF E=>?_) fun c28 hF E=>?_
  ·refine lsz E fun a E=>pf E rfl rfl fun a E=>wn<|c_if E rfl (fun h=>by cases h) (fun _=>?_)
   refine wp_exit<|qaO ?_
   cases hF
   exact so (⟨rfl,⟨ok,E.keep [0,2,4,5],r27⟩⟩)
  refine mz E rfl rfl fun a E=>bd hF fun c29 e30 hF=>lv E ok (qbM Tryz.underlying9 rfl rfl e30) fun a E=>lw E (qda rfl rfl) fun a E=>pt E rfl rfl fun a E=>wn<|cg E rfl hF (fun c31 hF=>?_) fun c31 hF=>?_
  ·refine wp_exit<|qaO ?_
   cases hF
   exact so (⟨rfl,⟨ok,E.keep [0,2,4,5],r27⟩⟩)
  refine wp_skip<|qaa<|wp_block<|qab<|mv E rfl fun a E=>lw E (qau rfl rfl (InR.inc r27 (InR.len l20) c28)) fun a E=>av E rfl fun a E=>wpList_nil<|qag ?_
  cases hF
  exact qap ⟨ok,E.keep [0,2,4,5],(InR.inc r27 (InR.len l20) c28)⟩
 intro e a w _ hO
 obtain ⟨rfl,ok,E,r32⟩:=hO
 refine qba<|qaa<|sg<|mz E rfl rfl fun a E=>bd hF fun s33 e34 hF=>lw E (qf4 Tryz.underlying9 e34 rfl rfl ⟨_,rfl⟩) fun a E=>fv E qdj rfl fun a E=>qai E ok 0 rfl rfl rfl qex rfl rfl ⟨rfl,trivial⟩ rfl rfl fun w ok=>wn<|wp_seq<|sg<|mz E rfl rfl fun a E=>lw E (qaG Tryz.underlying9 rfl) fun a E=>lw E (qaJ rfl rfl) fun a E=>wn<|bd hF fun o35 hJ hF=>qaK (Q':=fun e a w=>(Sum.elim (fun b36=>e = .normal ∧ Ok u m0 ([(b2,oc 97 [vb b36.Neg,vs b36.Whole,vs b36.Frac])] :: [(b1,oc 97 [vb false,(vs ([])),(vs ([]))])] :: S) w ∧ Env 98 a [(2,vp b1),(4,vp b2)] ∧ b36.Whole.length ≤ LIMS ∧ b36.Frac.length ≤ LIMS) (fun b39=>e = .ret ∧ qdq u m0 S b39 a w)) o35) ?_ ?_
 ·have hF:=hJ
  refine cg E rfl hF (fun c40 hF=>?_) fun c40 hF=>?_
  ·refine wp_skip ?_
   cases hF
   exact (sl ⟨rfl,⟨ok,E.keep [2,4],(Nat.le_trans (qfA e34) l20),l22⟩⟩)
  refine sg<|mz E rfl rfl fun a E=>lw E (qau rfl rfl (InR.inc r32 (InR.len l20) c40)) fun a E=>bd hF fun s41 e42 hF=>lw E (qf4 Tryz.underlying9 e42 rfl ⟨_,rfl⟩ rfl) fun a E=>fv E qdO rfl fun a E=>qai E ok 0 rfl rfl rfl qex rfl rfl ⟨rfl,trivial⟩ rfl rfl fun w ok=>wn<|sg<|fv E qdO rfl fun a E=>ld E ok qah 0 rfl rfl rfl fun a E=>lw E (qaG Tryz.underlying9 rfl) fun a E=>lw E (qao rfl rfl) fun a E=>wn<|cg E rfl hF (fun c43 hF=>?_) fun c43 hF=>?_
  ·refine wp_skip ?_
   cases hF
   exact (sl ⟨rfl,⟨ok,E.keep [2,4],(Nat.le_trans (qfA e34) l20),(Nat.le_trans (qfA e42) l20)⟩⟩)
  refine sg<|lw E (qav (ps:=[]) (qs:=[]) (cs:=[vb false,(vs ([])),(vs ([]))]) qcf qbX rfl trivial rfl) fun a E=>qai E ok 1 rfl rfl rfl qb1 rfl rfl ⟨rfl,rfl,rfl,trivial⟩ rfl rfl fun w ok=>aw E rfl fun a E=>wp_ret ?_
  have hret:qdq u m0 S ((Number2.mk false ([]) ([])),false) a w:=⟨m0,[vb false,(vs ([])),(vs ([]))],le_m0,ok.drop.drop,E.d,⟨rv_c (cs:=[vb false,(vs ([])),(vs ([]))]) E ok rfl qbm rfl (qac.own 1 rfl rfl),rv_t E rfl,trivial⟩,⟨rfl,(Nat.zero_le _),(Nat.zero_le _)⟩⟩
  cases hF
  exact (sr ⟨rfl,hret⟩)
 intro e a w hO
 rcases o35 with o35 | o35
 rotate_left
 ·obtain ⟨rfl,hret⟩:=hO
  refine qaf ?_
  exact fin hF hret
 have hF:=qcl hF
 obtain ⟨rfl,ok,E,l44,l45⟩:=hO
 refine qaa<|wp_seq<|sg<|fk E ok qdj qah rfl 0 rfl rfl fun a E=>fk E ok qdO qah rfl 0 rfl rfl fun a E=>bd hF fun s46 e47 hF=>lw E (qaN rfl rfl e47) fun a E=>bd hF fun r48 e49 hF=>lc E qpd rfl (qfM N s46 (qbZ e47) e49 hG ok) fun w ok a E=>lw E (qaz rfl) fun a E=>mv E rfl fun a E=>bu E 54 hF (fun c50 hF E=>?_) fun c50 hF E=>?_
 ·refine lsz E fun a E=>pt E rfl rfl fun a E=>mv E rfl fun a E=>lsz E fun a E=>pt E rfl rfl fun a E=>mv E rfl fun a E=>lsz E fun a E=>?_
  refine lsz E fun a E=>lsq E fun a E=>pt E rfl rfl fun a E=>mv E rfl fun a E=>lsz E fun a E=>pt E rfl rfl fun a E=>mv E rfl fun a E=>lsq E fun a E=>?_
  refine lsz E fun a E=>lsz E fun a E=>pt E rfl rfl fun a E=>wn<|c_if E rfl (fun _=>?_) (fun h=>by cases h)
  refine sg<|lw E (qav (ps:=[]) (qs:=[]) (cs:=[vb false,(vs ([])),(vs ([]))]) qcf qbX rfl trivial rfl) fun a E=>qai E ok 1 rfl rfl rfl qb1 rfl rfl ⟨rfl,rfl,rfl,trivial⟩ rfl rfl fun w ok=>aw E rfl fun a E=>wp_ret<|qaf ?_
  exact fin hF ⟨m0,[vb false,(vs ([])),(vs ([]))],le_m0,ok.drop.drop,E.d,⟨rv_c (cs:=[vb false,(vs ([])),(vs ([]))]) E ok rfl qbm rfl (qac.own 1 rfl rfl),rv_t E rfl,trivial⟩,⟨rfl,(Nat.zero_le _),(Nat.zero_le _)⟩⟩
 refine fk E ok qdj qah rfl 0 rfl rfl fun a E=>lw E (qaG Tryz.underlying9 rfl) fun a E=>lw E (qaJ rfl rfl) fun a E=>pf E rfl rfl fun a E=>mv E rfl fun a E=>bu E 60 hF (fun c51 hF E=>?_) fun c51 hF E=>?_
 ·refine lsz E fun a E=>pt E rfl rfl fun a E=>mv E rfl fun a E=>lsz E fun a E=>lsz E fun a E=>lsq E fun a E=>?_
  refine pt E rfl rfl fun a E=>mv E rfl fun a E=>lsz E fun a E=>pt E rfl rfl fun a E=>mv E rfl fun a E=>lsz E fun a E=>lsz E fun a E=>?_
  refine lsq E fun a E=>pt E rfl rfl fun a E=>wn<|c_if E rfl (fun _=>?_) (fun h=>by cases h)
  refine sg<|lw E (qav (ps:=[]) (qs:=[]) (cs:=[vb false,(vs ([])),(vs ([]))]) qcf qbX rfl trivial rfl) fun a E=>qai E ok 1 rfl rfl rfl qb1 rfl rfl ⟨rfl,rfl,rfl,trivial⟩ rfl rfl fun w ok=>aw E rfl fun a E=>wp_ret<|qaf ?_
  exact fin hF ⟨m0,[vb false,(vs ([])),(vs ([]))],le_m0,ok.drop.drop,E.d,⟨rv_c (cs:=[vb false,(vs ([])),(vs ([]))]) E ok rfl qbm rfl (qac.own 1 rfl rfl),rv_t E rfl,trivial⟩,⟨rfl,(Nat.zero_le _),(Nat.zero_le _)⟩⟩
 refine fk E ok qdj qah rfl 0 rfl rfl fun a E=>lw E (qaG Tryz.underlying9 rfl) fun a E=>lw E (qa9 rfl rfl) fun a E=>pf E rfl rfl fun a E=>mv E rfl fun a E=>bu E 66 hF (fun c52 hF E=>?_) fun c52 hF E=>?_
 ·refine lsz E fun a E=>lsz E fun a E=>lsq E fun a E=>pt E rfl rfl fun a E=>mv E rfl fun a E=>lsz E fun a E=>?_
  refine pt E rfl rfl fun a E=>mv E rfl fun a E=>lsz E fun a E=>lsz E fun a E=>lsq E fun a E=>pt E rfl rfl fun a E=>wn<|c_if E rfl (fun _=>?_) (fun h=>by cases h)
  refine sg<|lw E (qav (ps:=[]) (qs:=[]) (cs:=[vb false,(vs ([])),(vs ([]))]) qcf qbX rfl trivial rfl) fun a E=>qai E ok 1 rfl rfl rfl qb1 rfl rfl ⟨rfl,rfl,rfl,trivial⟩ rfl rfl fun w ok=>aw E rfl fun a E=>wp_ret<|qaf ?_
  exact fin hF ⟨m0,[vb false,(vs ([])),(vs ([]))],le_m0,ok.drop.drop,E.d,⟨rv_c (cs:=[vb false,(vs ([])),(vs ([]))]) E ok rfl qbm rfl (qac.own 1 rfl rfl),rv_t E rfl,trivial⟩,⟨rfl,(Nat.zero_le _),(Nat.zero_le _)⟩⟩
 refine fk E ok qdj qah rfl 0 rfl rfl fun a E=>lw E (qaG Tryz.underlying9 rfl) fun a E=>lw E (qa9 rfl rfl) fun a E=>mv E rfl fun a E=>bw E 71 hF (fun c53 hF E=>?_) fun c53 hF E=>?_
 ·as_aux_lemma =>
   refine lsz E fun a E=>pf E rfl rfl fun a E=>pf E rfl rfl fun a E=>mv E rfl fun a E=>fv E qdO rfl fun a E=>ld E ok qah 0 rfl rfl rfl fun a E=>lw E (qaG Tryz.underlying9 rfl) fun a E=>lw E (qa9 rfl rfl) fun a E=>pf E rfl rfl fun a E=>mv E rfl fun a E=>bu E 84 hF (fun c64 hF E=>?_) fun c64 hF E=>?_
   ·refine lsz E fun a E=>lsz E fun a E=>lsq E fun a E=>pt E rfl rfl fun a E=>wn<|c_if E rfl (fun _=>?_) (fun h=>by cases h)
    refine sg<|lw E (qav (ps:=[]) (qs:=[]) (cs:=[vb false,(vs ([])),(vs ([]))]) qcf qbX rfl trivial rfl) fun a E=>qai E ok 1 rfl rfl rfl qb1 rfl rfl ⟨rfl,rfl,rfl,trivial⟩ rfl rfl fun w ok=>aw E rfl fun a E=>wp_ret<|qaf ?_
    exact fin hF ⟨m0,[vb false,(vs ([])),(vs ([]))],le_m0,ok.drop.drop,E.d,⟨rv_c (cs:=[vb false,(vs ([])),(vs ([]))]) E ok rfl qbm rfl (qac.own 1 rfl rfl),rv_t E rfl,trivial⟩,⟨rfl,(Nat.zero_le _),(Nat.zero_le _)⟩⟩
   refine fk E ok qhT qen rfl 0 rfl rfl fun a E=>mv E rfl fun a E=>qaW o35.Neg (fun c65=>?_) (fun c65=>?_)
   rotate_left
   ·have hF:=qaV c65 hF
    have E:=E.upd 87 c65 rfl
    refine lsz E fun a E=>lsq E fun a E=>pf E rfl rfl fun a E=>pf E rfl rfl fun a E=>wn<|c_if E rfl (fun h=>by cases h) (fun _=>?_)
    refine wp_skip<|qaa<|sg<|lv E ok (qaj (cs:=[vb o35.Neg,vs o35.Whole,vs o35.Frac]) qbm rfl rfl (qac.own 0 rfl rfl)) fun a E=>qai E ok 1 rfl rfl rfl qb1 rfl rfl ⟨rfl,rfl,rfl,trivial⟩ rfl rfl fun w ok=>av E rfl fun a E=>wn<|wp_ret ?_
    exact fin hF ⟨m0,[vb o35.Neg,vs o35.Whole,vs o35.Frac],le_m0,ok.drop.drop,E.d,⟨rv_c (cs:=[vb o35.Neg,vs o35.Whole,vs o35.Frac]) E ok rfl qbm rfl (qac.own 1 rfl rfl),rv_t E rfl,trivial⟩,⟨rfl,l44,l45⟩⟩
   have hF:=qaU c65 hF
   have E:=E.upd 87 c65 rfl
   refine fk E ok qdj qah rfl 0 rfl rfl fun a E=>fk E ok qdO qah rfl 0 rfl rfl fun a E=>bd hF fun s66 e67 hF=>lw E (qaN rfl rfl e67) fun a E=>bd hF fun r68 e69 hF=>lc E qlF rfl (qem N s66 (qbZ e67) e69 hG ok) fun w ok a E=>pt E rfl rfl fun a E=>pf E rfl rfl fun a E=>wn<|cf E rfl hF (fun c70 hF=>?_) fun c70 hF=>?_
   ·refine sg<|lw E (qav (ps:=[]) (qs:=[]) (cs:=[vb false,(vs ([])),(vs ([]))]) qcf qbX rfl trivial rfl) fun a E=>qai E ok 1 rfl rfl rfl qb1 rfl rfl ⟨rfl,rfl,rfl,trivial⟩ rfl rfl fun w ok=>aw E rfl fun a E=>wp_ret<|qaf ?_
    exact fin hF ⟨m0,[vb false,(vs ([])),(vs ([]))],le_m0,ok.drop.drop,E.d,⟨rv_c (cs:=[vb false,(vs ([])),(vs ([]))]) E ok rfl qbm rfl (qac.own 1 rfl rfl),rv_t E rfl,trivial⟩,⟨rfl,(Nat.zero_le _),(Nat.zero_le _)⟩⟩
   refine wp_skip<|qaa<|sg<|lv E ok (qaj (cs:=[vb o35.Neg,vs o35.Whole,vs o35.Frac]) qbm rfl rfl (qac.own 0 rfl rfl)) fun a E=>qai E ok 1 rfl rfl rfl qb1 rfl rfl ⟨rfl,rfl,rfl,trivial⟩ rfl rfl fun w ok=>av E rfl fun a E=>wn<|wp_ret ?_
   exact fin hF ⟨m0,[vb o35.Neg,vs o35.Whole,vs o35.Frac],le_m0,ok.drop.drop,E.d,⟨rv_c (cs:=[vb o35.Neg,vs o35.Whole,vs o35.Frac]) E ok rfl qbm rfl (qac.own 1 rfl rfl),rv_t E rfl,trivial⟩,⟨rfl,l44,l45⟩⟩
 refine fk E ok qdj qah rfl 0 rfl rfl fun a E=>bd hF fun c54 e55 hF=>lv E ok (qbM Tryz.underlying9 rfl rfl e55) fun a E=>lw E (qao rfl rfl) fun a E=>pt E rfl rfl fun a E=>pf E rfl rfl fun a E=>mv E rfl fun a E=>bu E 78 hF (fun c56 hF E=>?_) fun c56 hF E=>?_
 ·refine lsz E fun a E=>pt E rfl rfl fun a E=>mv E rfl fun a E=>lsz E fun a E=>lsz E fun a E=>lsq E fun a E=>?_
  refine pt E rfl rfl fun a E=>wn<|c_if E rfl (fun _=>?_) (fun h=>by cases h)
  refine sg<|lw E (qav (ps:=[]) (qs:=[]) (cs:=[vb false,(vs ([])),(vs ([]))]) qcf qbX rfl trivial rfl) fun a E=>qai E ok 1 rfl rfl rfl qb1 rfl rfl ⟨rfl,rfl,rfl,trivial⟩ rfl rfl fun w ok=>aw E rfl fun a E=>wp_ret<|qaf ?_
  exact fin hF ⟨m0,[vb false,(vs ([])),(vs ([]))],le_m0,ok.drop.drop,E.d,⟨rv_c (cs:=[vb false,(vs ([])),(vs ([]))]) E ok rfl qbm rfl (qac.own 1 rfl rfl),rv_t E rfl,trivial⟩,⟨rfl,(Nat.zero_le _),(Nat.zero_le _)⟩⟩
 refine fk E ok qdO qah rfl 0 rfl rfl fun a E=>lw E (qaG Tryz.underlying9 rfl) fun a E=>lw E (qa9 rfl rfl) fun a E=>pf E rfl rfl fun a E=>mv E rfl fun a E=>bu E 84 hF (fun c57 hF E=>?_) fun c57 hF E=>?_
 ·refine lsz E fun a E=>lsz E fun a E=>lsq E fun a E=>pt E rfl rfl fun a E=>wn<|c_if E rfl (fun _=>?_) (fun h=>by cases h)
  refine sg<|lw E (qav (ps:=[]) (qs:=[]) (cs:=[vb false,(vs ([])),(vs ([]))]) qcf qbX rfl trivial rfl) fun a E=>qai E ok 1 rfl rfl rfl qb1 rfl rfl ⟨rfl,rfl,rfl,trivial⟩ rfl rfl fun w ok=>aw E rfl fun a E=>wp_ret<|qaf ?_
  exact fin hF ⟨m0,[vb false,(vs ([])),(vs ([]))],le_m0,ok.drop.drop,E.d,⟨rv_c (cs:=[vb false,(vs ([])),(vs ([]))]) E ok rfl qbm rfl (qac.own 1 rfl rfl),rv_t E rfl,trivial⟩,⟨rfl,(Nat.zero_le _),(Nat.zero_le _)⟩⟩
 refine fk E ok qhT qen rfl 0 rfl rfl fun a E=>mv E rfl fun a E=>qaW o35.Neg (fun c58=>?_) (fun c58=>?_)
 rotate_left
 ·have hF:=qaV c58 hF
  have E:=E.upd 87 c58 rfl
  refine lsz E fun a E=>lsq E fun a E=>pf E rfl rfl fun a E=>pf E rfl rfl fun a E=>wn<|c_if E rfl (fun h=>by cases h) (fun _=>?_)
  refine wp_skip<|qaa<|sg<|lv E ok (qaj (cs:=[vb o35.Neg,vs o35.Whole,vs o35.Frac]) qbm rfl rfl (qac.own 0 rfl rfl)) fun a E=>qai E ok 1 rfl rfl rfl qb1 rfl rfl ⟨rfl,rfl,rfl,trivial⟩ rfl rfl fun w ok=>av E rfl fun a E=>wn<|wp_ret ?_
  exact fin hF ⟨m0,[vb o35.Neg,vs o35.Whole,vs o35.Frac],le_m0,ok.drop.drop,E.d,⟨rv_c (cs:=[vb o35.Neg,vs o35.Whole,vs o35.Frac]) E ok rfl qbm rfl (qac.own 1 rfl rfl),rv_t E rfl,trivial⟩,⟨rfl,l44,l45⟩⟩
 have hF:=qaU c58 hF
 have E:=E.upd 87 c58 rfl
 refine fk E ok qdj qah rfl 0 rfl rfl fun a E=>fk E ok qdO qah rfl 0 rfl rfl fun a E=>bd hF fun s59 e60 hF=>lw E (qaN rfl rfl e60) fun a E=>bd hF fun r61 e62 hF=>lc E qlF rfl (qem N s59 (qbZ e60) e62 hG ok) fun w ok a E=>pt E rfl rfl fun a E=>pf E rfl rfl fun a E=>wn<|cf E rfl hF (fun c63 hF=>?_) fun c63 hF=>?_
 ·refine sg<|lw E (qav (ps:=[]) (qs:=[]) (cs:=[vb false,(vs ([])),(vs ([]))]) qcf qbX rfl trivial rfl) fun a E=>qai E ok 1 rfl rfl rfl qb1 rfl rfl ⟨rfl,rfl,rfl,trivial⟩ rfl rfl fun w ok=>aw E rfl fun a E=>wp_ret<|qaf ?_
  exact fin hF ⟨m0,[vb false,(vs ([])),(vs ([]))],le_m0,ok.drop.drop,E.d,⟨rv_c (cs:=[vb false,(vs ([])),(vs ([]))]) E ok rfl qbm rfl (qac.own 1 rfl rfl),rv_t E rfl,trivial⟩,⟨rfl,(Nat.zero_le _),(Nat.zero_le _)⟩⟩
 refine wp_skip<|qaa<|sg<|lv E ok (qaj (cs:=[vb o35.Neg,vs o35.Whole,vs o35.Frac]) qbm rfl rfl (qac.own 0 rfl rfl)) fun a E=>qai E ok 1 rfl rfl rfl qb1 rfl rfl ⟨rfl,rfl,rfl,trivial⟩ rfl rfl fun w ok=>av E rfl fun a E=>wn<|wp_ret ?_
 exact fin hF ⟨m0,[vb o35.Neg,vs o35.Whole,vs o35.Frac],le_m0,ok.drop.drop,E.d,⟨rv_c (cs:=[vb o35.Neg,vs o35.Whole,vs o35.Frac]) E ok rfl qbm rfl (qac.own 1 rfl rfl),rv_t E rfl,trivial⟩,⟨rfl,l44,l45⟩⟩
def qiG (u:World) (m0:Mem) (S:Segs) (r:Bool) (a:Act) (w:World):Prop :=
 Ok u m0 S w ∧ a.defers = [] ∧ RVs Tryz.prog a w [.t 2 (.bool r)]
theorem qiI (N:Nat) (s_0:List UInt8) (ls_0:s_0.length ≤ LIMS) {r:Bool} (hF:qdQ N s_0 = some r) (hG:Glob u) (ok:Ok u m0 S w) :
  Calls Tryz.prog 49 [vs s_0].toArray w fun e w'=>(e = .returned (.bool r) ∧ Ok u m0 S w'):=by
 have hb0:=ok.base
 have le_m0:=Mem.le.refl m0
 unfold qdQ at hF
 refine en (qiG u m0 S) r Tryz.func49 rfl rfl rfl (fun _ _ h=>ra h rfl) fun fin a E=>sg<|aw E rfl fun a E=>sg<|mv E rfl fun a E=>bd hF fun r1 e2 hF=>qas E qrx rfl (qiH N s_0 ls_0 e2 hG ok) rfl rfl ?_
 rintro _ w ⟨m3,vs4,rfl,hle,ok,h5⟩
 have le_m0:=le_m0.trans hle
 obtain ⟨rfl,l6,l7⟩:=h5
 refine ⟨_,rfl,fun a E=>?_⟩
 refine mv E rfl fun a E=>lw E (qaF rfl rfl) fun a E=>lw E (qaF rfl rfl) fun a E=>qbh E ok qcf rfl rfl fun b8 a w E ok=>qai E ok 0 rfl rfl rfl qb1 rfl rfl ⟨rfl,rfl,rfl,trivial⟩ rfl rfl fun w ok=>aw E rfl fun a E=>sg<|mv E rfl fun a E=>aw E rfl fun a E=>wp_ret ?_
 exact fin hF ⟨(ok.drop).down hb0 le_m0,E.d,rz E rfl⟩
def qjB (u:World) (m0:Mem) (S:Segs) (r:Bool) (a:Act) (w:World):Prop :=
 Ok u m0 S w ∧ a.defers = [] ∧ RVs Tryz.prog a w [.t 4 (.bool r)]
theorem qfh (N:Nat) (kind_0:Int) (rkind_0:InR .i64 kind_0) (s_1:List UInt8) (ls_1:s_1.length ≤ LIMS) {r:Bool} (hF:qdb N kind_0 s_1 = some r) (hG:Glob u) (ok:Ok u m0 S w) :
  Calls Tryz.prog 33 [vi kind_0,vs s_1].toArray w fun e w'=>(e = .returned (.bool r) ∧ Ok u m0 S w'):=by
 unfold qdb at hF
 refine en (qjB u m0 S) r Tryz.func33 rfl rfl rfl (fun _ _ h=>ra h rfl) fun fin a E=>sg<|aw E rfl fun a E=>wp_seq<|sg<|mv E rfl fun a E=>lw E (qao rfl rfl) fun a E=>wn<|cf E rfl hF (fun c1 hF=>?_) fun c1 hF=>?_
 ·refine sg<|mv E rfl fun a E=>bd hF fun r2 e3 hF=>lc E qf9 rfl (qbA N s_1 ls_1 e3 hG ok) fun w ok a E=>aw E rfl fun a E=>wp_ret<|qaf ?_
  exact fin hF ⟨ok,E.d,rz E rfl⟩
 refine wp_skip<|qaa<|sg<|mv E rfl fun a E=>bd hF fun r4 e5 hF=>lc E qru rfl (qiQ N s_1 ls_1 e5 hG ok) fun w ok a E=>mv E rfl fun a E=>qaW r4 (fun c6=>?_) (fun c6=>?_)
 ·have hF:=qaU c6 hF
  have E:=E.upd 11 c6 rfl
  refine lsz E fun a E=>lsz E fun a E=>lsz E fun a E=>ls E fun a E=>pt E rfl rfl fun a E=>av E rfl fun a E=>wn<|wp_ret ?_
  exact fin hF ⟨ok,E.d,rz E rfl⟩
 have hF:=qaV c6 hF
 have E:=E.upd 11 c6 rfl
 refine mv E rfl fun a E=>lw E (qaG Tryz.underlying9 rfl) fun a E=>lw E (qa9 rfl rfl) fun a E=>mv E rfl fun a E=>bw E 15 hF (fun c7 hF E=>?_) fun c7 hF E=>?_
 ·refine lsq E fun a E=>ls E fun a E=>pf E rfl rfl fun a E=>mv E rfl fun a E=>lsq E fun a E=>ls E fun a E=>pf E rfl rfl fun a E=>pf E rfl rfl fun a E=>aw E rfl fun a E=>wp_ret ?_
  exact fin hF ⟨ok,E.d,rz E rfl⟩
 refine mv E rfl fun a E=>bd hF fun c8 e9 hF=>lv E ok (qbM Tryz.underlying9 rfl rfl e9) fun a E=>lw E (qao rfl rfl) fun a E=>pt E rfl rfl fun a E=>mv E rfl fun a E=>bw E 20 hF (fun c10 hF E=>?_) fun c10 hF E=>?_
 ·refine lsq E fun a E=>ls E fun a E=>pf E rfl rfl fun a E=>pf E rfl rfl fun a E=>aw E rfl fun a E=>wp_ret ?_
  exact fin hF ⟨ok,E.d,rz E rfl⟩
 refine mv E rfl fun a E=>bd hF fun s11 e12 hF=>lw E (qf4 Tryz.underlying9 e12 rfl ⟨_,rfl⟩ rfl) fun a E=>bd hF fun r13 e14 hF=>lc E qrj rfl (qiI N s11 (Nat.le_trans (qfA e12) ls_1) e14 hG ok) fun w ok a E=>pt E rfl rfl fun a E=>pf E rfl rfl fun a E=>aw E rfl fun a E=>wp_ret ?_
 exact fin hF ⟨ok,E.d,rz E rfl⟩
def qg6 (u:World) (m0:Mem) (S:Segs) (r:Bool) (a:Act) (w:World):Prop :=
 Ok u m0 S w ∧ a.defers = [] ∧ RVs Tryz.prog a w [.t 4 (.bool r)]
theorem qc0 (N:Nat) (vl_0:Value) (l_0:List (List UInt8)) (hl_0:(pL 1 pS) m0 [vl_0] l_0) (s_1:List UInt8) (ls_1:s_1.length ≤ LIMS) {r:Bool} (hF:qbK N l_0 s_1 = some r) (hG:Glob u) (ok:Ok u m0 S w) :
  Calls Tryz.prog 34 [vl_0,vs s_1].toArray w fun e w'=>(e = .returned (.bool r) ∧ Ok u m0 S w'):=by
 unfold qbK at hF
 refine en (qg6 u m0 S) r Tryz.func34 rfl rfl rfl (fun _ _ h=>ra h rfl) fun fin a E=>sg<|aw E rfl fun a E=>wp_seq<|sg<|aw E rfl fun a E=>wp_block<|bd hF fun o2 hL hF=>qaX _ (fun (s:Int) a w=>Ok u m0 (S) w ∧ Env 18 a [(0,vl_0),(1,vs s_1),(5,vi s)] ∧ InR .i64 s) (fun (b:(Unit ⊕ Bool)) e a w=>(Sum.elim (fun b18=>e = (.exit 0) ∧ Ok u m0 (S) w ∧ Env 18 a []) (fun b19=>e = .ret ∧ qg6 u m0 S b19 a w)) b) ?_ ?_ N _ a w hL ⟨ok,E.keep [0,1,5],(ir 0)⟩
 rotate_left
 ·intro e a w _ hO
  rcases o2 with o2 | o2
  rotate_left
  ·obtain ⟨rfl,hret⟩:=hO
   refine qam<|qaf ?_
   exact fin hF hret
  have hF:=qcl hF
  obtain ⟨rfl,ok,E⟩:=hO
  refine qba<|qaa<|sg<|aw E rfl fun a E=>wp_ret ?_
  exact fin hF ⟨ok,E.d,rz E rfl⟩
 rintro v4 a w r ⟨ok,E,r5⟩ hF
 replace hF:qdS N l_0 s_1 v4 = some r:=hF
 unfold qdS at hF
 refine wp_seq<|sg<|mz E rfl rfl fun a E=>lv E ok (qax qbx hl_0 rfl) fun a E=>lw E (qaJ rfl rfl) fun a E=>wn<|cg E rfl hF (fun c6 hF=>?_) fun c6 hF=>?_
 ·refine wp_exit<|qaO ?_
  cases hF
  exact so (sl ⟨rfl,⟨ok,E.keep []⟩⟩)
 refine wp_skip<|qaa<|wp_seq<|wp_block<|sg<|mz E rfl rfl fun a E=>?_
 obtain ⟨x7,e8,hF⟩:=bnd hF
 obtain ⟨b9,o10,es11,hl12,rr13,at14,yy15⟩:=ia E 12 13 qbx hl_0 e8
 obtain ⟨rfl,l16⟩:=rr13
 refine lv E ok (yy15 _ _) fun a E=>lv E ok (qak qah rfl (qac.ro at14)) fun a E=>mv E rfl fun a E=>lw E (qbf rfl rfl) fun a E=>wn<|cg E rfl hF (fun c17 hF=>?_) fun c17 hF=>?_
 ·refine wp_skip<|qag<|qaa<|qab<|mv E rfl fun a E=>lw E (qau rfl rfl (InR.inc r5 (qae hl_0) c6)) fun a E=>av E rfl fun a E=>wpList_nil ?_
  cases hF
  exact qap ⟨ok,E.keep [0,1,5],(InR.inc r5 (qae hl_0) c6)⟩
 refine sg<|aw E rfl fun a E=>wp_ret<|qam<|qaf ?_
 cases hF
 exact so (sr ⟨rfl,⟨ok,E.d,rz E rfl⟩⟩)
def qhV (u:World) (m0:Mem) (S:Segs) (r:Bool) (a:Act) (w:World):Prop :=
 Ok u m0 S w ∧ a.defers = [] ∧ RVs Tryz.prog a w [.t 2 (.bool r)]
theorem qeE (N:Nat) (kind_0:Int) (rkind_0:InR .i64 kind_0) {r:Bool} (hF:qbU N kind_0 = some r) (hG:Glob u) (ok:Ok u m0 S w) :
  Calls Tryz.prog 35 [vi kind_0].toArray w fun e w'=>(e = .returned (.bool r) ∧ Ok u m0 S w'):=by
 unfold qbU at hF
 refine en (qhV u m0 S) r Tryz.func35 rfl rfl rfl (fun _ _ h=>ra h rfl) fun fin a E=>sg<|aw E rfl fun a E=>sg<|mv E rfl fun a E=>lw E (qao rfl rfl) fun a E=>mv E rfl fun a E=>bu E 5 hF (fun c1 hF E=>?_) fun c1 hF E=>?_
 ·refine lsq E fun a E=>pt E rfl rfl fun a E=>aw E rfl fun a E=>wp_ret ?_
  exact fin hF ⟨ok,E.d,rz E rfl⟩
 refine mv E rfl fun a E=>lw E (qao rfl rfl) fun a E=>pf E rfl rfl fun a E=>aw E rfl fun a E=>wp_ret ?_
 exact fin hF ⟨ok,E.d,rz E rfl⟩
def qfn (u:World) (m0:Mem) (S:Segs) (r:Bool) (a:Act) (w:World):Prop :=
 Ok u m0 S w ∧ a.defers = [] ∧ RVs Tryz.prog a w [.t 2 (.bool r)]
theorem qhz (N:Nat) (s_0:List UInt8) (ls_0:s_0.length ≤ LIMS) {r:Bool} (hF:qdc N s_0 = some r) (hG:Glob u) (ok:Ok u m0 S w) :
  Calls Tryz.prog 50 [vs s_0].toArray w fun e w'=>(e = .returned (.bool r) ∧ Ok u m0 S w'):=by
 unfold qdc at hF
 refine en (qfn u m0 S) r Tryz.func50 rfl rfl rfl (fun _ _ h=>ra h rfl) fun fin a E=>sg<|aw E rfl fun a E=>wp_seq<|sg<|aw E rfl fun a E=>wp_block<|bd hF fun o2 hL hF=>qaX _ (fun (s:Int) a w=>Ok u m0 (S) w ∧ Env 37 a [(0,vs s_0),(3,vi s)] ∧ InR .i64 s) (fun (b:(Unit ⊕ Bool)) e a w=>(Sum.elim (fun b16=>e = (.exit 0) ∧ Ok u m0 (S) w ∧ Env 37 a [(0,vs s_0)]) (fun b17=>e = .ret ∧ qfn u m0 S b17 a w)) b) ?_ ?_ N _ a w hL ⟨ok,E.keep [0,3],(ir 0)⟩
 rotate_left
 ·intro e a w _ hO
  rcases o2 with o2 | o2
  rotate_left
  ·obtain ⟨rfl,hret⟩:=hO
   refine qam<|qaf ?_
   exact fin hF hret
  have hF:=qcl hF
  obtain ⟨rfl,ok,E⟩:=hO
  refine qba<|qaa<|sg<|mv E rfl fun a E=>lw E (qaG Tryz.underlying9 rfl) fun a E=>lw E (qcB rfl rfl) fun a E=>mv E rfl fun a E=>bu E 32 hF (fun c15 hF E=>?_) fun c15 hF E=>?_
  ·refine mv E rfl fun a E=>lw E (qaG Tryz.underlying9 rfl) fun a E=>lw E (qcd rfl rfl) fun a E=>pt E rfl rfl fun a E=>aw E rfl fun a E=>wp_ret ?_
   exact fin hF ⟨ok,E.d,rz E rfl⟩
  refine lsq E fun a E=>ls E fun a E=>pf E rfl rfl fun a E=>aw E rfl fun a E=>wp_ret ?_
  exact fin hF ⟨ok,E.d,rz E rfl⟩
 rintro v4 a w r ⟨ok,E,r5⟩ hF
 replace hF:qcL N s_0 v4 = some r:=hF
 unfold qcL at hF
 refine wp_seq<|sg<|mz E rfl rfl fun a E=>lw E (qaG Tryz.underlying9 rfl) fun a E=>lw E (qaJ rfl rfl) fun a E=>wn<|cg E rfl hF (fun c6 hF=>?_) fun c6 hF=>?_
 ·refine wp_exit<|qaO ?_
  cases hF
  exact so (sl ⟨rfl,⟨ok,E.keep [0]⟩⟩)
 refine wp_skip<|qaa<|wp_seq<|wp_block<|sg<|mz E rfl rfl fun a E=>bd hF fun c7 e8 hF=>lv E ok (qbM Tryz.underlying9 rfl rfl e8) fun a E=>aw E rfl fun a E=>wp_seq<|bd hF fun o9 hJ hF=>qaK (Q':=fun e a w=>e = .normal ∧ Ok u m0 (S) w ∧ Env 37 a [(0,vs s_0),(3,vi v4),(28,vb o9)]) ?_ ?_
 rotate_left
 ·intro e a w hO
  obtain ⟨rfl,ok,E⟩:=hO
  refine qaa<|cg E rfl hF (fun c14 hF=>?_) fun c14 hF=>?_
  ·refine wp_skip<|qag<|qaa<|qab<|mv E rfl fun a E=>lw E (qau rfl rfl (InR.inc r5 (InR.len ls_0) c6)) fun a E=>av E rfl fun a E=>wpList_nil ?_
   cases hF
   exact qap ⟨ok,E.keep [0,3],(InR.inc r5 (InR.len ls_0) c6)⟩
  refine sg<|aw E rfl fun a E=>wp_ret<|qam<|qaf ?_
  cases hF
  exact so (sr ⟨rfl,⟨ok,E.d,rz E rfl⟩⟩)
 have hF:=hJ
 refine qab<|mv E rfl fun a E=>lw E (qcB rfl rfl) fun a E=>mv E rfl fun a E=>bw E 16 hF (fun c10 hF E=>?_) fun c10 hF E=>?_
 ·refine lsq E fun a E=>pf E rfl rfl fun a E=>mz E rfl rfl fun a E=>lw E (qcB rfl rfl) fun a E=>mv E rfl fun a E=>bu E 23 hF (fun c13 hF E=>?_) fun c13 hF E=>?_
  ·refine mv E rfl fun a E=>lw E (qcd rfl rfl) fun a E=>pt E rfl rfl fun a E=>pf E rfl rfl fun a E=>lw E (qaz rfl) fun a E=>wpList_nil ?_
   cases hF
   exact ⟨rfl,⟨ok,E.keep [0,3,28]⟩⟩
  refine lsq E fun a E=>pf E rfl rfl fun a E=>pf E rfl rfl fun a E=>lw E (qaz rfl) fun a E=>wpList_nil ?_
  cases hF
  exact ⟨rfl,⟨ok,E.keep [0,3,28]⟩⟩
 refine mv E rfl fun a E=>lw E (qcd rfl rfl) fun a E=>pt E rfl rfl fun a E=>mv E rfl fun a E=>bu E 20 hF (fun c11 hF E=>?_) fun c11 hF E=>?_
 ·refine lsz E fun a E=>lsq E fun a E=>pt E rfl rfl fun a E=>lw E (qaz rfl) fun a E=>wpList_nil ?_
  cases hF
  exact ⟨rfl,⟨ok,E.keep [0,3,28]⟩⟩
 refine mv E rfl fun a E=>lw E (qcB rfl rfl) fun a E=>mv E rfl fun a E=>bu E 23 hF (fun c12 hF E=>?_) fun c12 hF E=>?_
 ·refine mv E rfl fun a E=>lw E (qcd rfl rfl) fun a E=>pt E rfl rfl fun a E=>pf E rfl rfl fun a E=>lw E (qaz rfl) fun a E=>wpList_nil ?_
  cases hF
  exact ⟨rfl,⟨ok,E.keep [0,3,28]⟩⟩
 refine lsq E fun a E=>pf E rfl rfl fun a E=>pf E rfl rfl fun a E=>lw E (qaz rfl) fun a E=>wpList_nil ?_
 cases hF
 exact ⟨rfl,⟨ok,E.keep [0,3,28]⟩⟩
def qiB (u:World) (m0:Mem) (S:Segs) (r:Bool) (a:Act) (w:World):Prop :=
 Ok u m0 S w ∧ a.defers = [] ∧ RVs Tryz.prog a w [.t 4 (.bool r)]
theorem qeX (N:Nat) (vx_0:List Value) (x_0:Part) (hx_0:qbD m0 vx_0 x_0) (counted_1:Bool) {r:Bool} (hF:qcg N x_0 counted_1 = some r) (hG:Glob u) (ok:Ok u m0 S w) :
  Calls Tryz.prog 36 [.agg vx_0.toArray,vb counted_1].toArray w fun e w'=>(e = .returned (.bool r) ∧ Ok u m0 S w'):=by
 obtain ⟨c5,c7,rfl,r1,l2,l3,l4,h6,h8⟩:=(qaL.1 hx_0)
 have le_m0:=Mem.le.refl m0
 unfold qcg at hF
 refine en (qiB u m0 S) r Tryz.func36 rfl rfl rfl (fun _ _ h=>ra h rfl) fun fin a E=>sg<|qdf E ok rfl rfl rfl fun b9 a w E ok=>aw E rfl fun a E=>sg<|fk E ok qar qat rfl 0 rfl rfl fun a E=>lw E (qav (ps:=[(0,.tmp 8)]) (qs:=[(0,[vi x_0.Kind])]) (cs:=[vi x_0.Kind,(vs ([])),(vs ([])),(vs ([])),(Value.slice none 0 0),(Value.slice none 0 0)]) qeV qln rfl ⟨rfl,rfl,rfl,trivial⟩ rfl) fun a E=>qbh E ok qeV rfl rfl fun b10 a w E ok=>qai E ok 0 rfl rfl rfl qgg rfl rfl ⟨rfl,rfl,rfl,rfl,rfl,rfl,trivial⟩ rfl rfl fun w ok=>wn<|sg<|aw E rfl fun a E=>wp_seq<|sg<|fk E ok qar qat rfl 1 rfl rfl fun a E=>wn<|wp_block<|sg<|lw E (qao rfl rfl) fun a E=>?_
 refine aw E rfl fun a E=>bd hF fun o11 hJ hF=>qaK (Q':=fun e a w=>e = .normal ∧ Ok u m0 ([(b10,oc 63 [vi o11.2.Kind,vs o11.2.Text,vs o11.2.Name,vs o11.2.Style,(Value.slice none 0 0),(Value.slice none 0 0)])] :: [(b9,oc 63 [vi x_0.Kind,vs x_0.Text,vs x_0.Name,vs x_0.Style,c5,c7])] :: S) w ∧ Env 113 a [(2,vp b9),(5,vp b10),(6,vb o11.1)] ∧ InR .i64 o11.2.Kind ∧ o11.2.Text.length ≤ LIMS ∧ o11.2.Name.length ≤ LIMS ∧ o11.2.Style.length ≤ LIMS) ?_ ?_
 rotate_left
 ·as_aux_lemma =>
   intro e a w hO
   obtain ⟨rfl,ok,E,r48,l49,l50,l51⟩:=hO
   refine qag<|qaa<|sg<|mz E rfl rfl fun a E=>qaW o11.1 (fun c52=>?_) (fun c52=>?_)
   rotate_left
   ·have hF:=qaV c52 hF
    have E:=E.upd 80 c52 rfl
    refine lsz E fun a E=>pf E rfl rfl fun a E=>mv E rfl fun a E=>lsz E fun a E=>pf E rfl rfl fun a E=>mv E rfl fun a E=>lsz E fun a E=>?_
    refine ls E fun a E=>pf E rfl rfl fun a E=>mv E rfl fun a E=>lsz E fun a E=>ls E fun a E=>pf E rfl rfl fun a E=>mv E rfl fun a E=>lsz E fun a E=>ls E fun a E=>pf E rfl rfl fun a E=>?_
    refine aw E rfl fun a E=>wp_ret ?_
    exact fin hF ⟨ok.drop.drop,E.d,rz E rfl⟩
   have hF:=qaU c52 hF
   have E:=E.upd 80 c52 rfl
   refine fk E ok qaR qaZ rfl 1 rfl rfl fun a E=>lv E ok (qax qbe h6 rfl) fun a E=>lw E (qao rfl rfl) fun a E=>pt E rfl rfl fun a E=>mv E rfl fun a E=>bw E 86 hF (fun c53 hF E=>?_) fun c53 hF E=>?_
   ·refine lsz E fun a E=>pf E rfl rfl fun a E=>mv E rfl fun a E=>lsz E fun a E=>ls E fun a E=>pf E rfl rfl fun a E=>mv E rfl fun a E=>lsq E fun a E=>ls E fun a E=>?_
    refine lsq E fun a E=>pf E rfl rfl fun a E=>mv E rfl fun a E=>lsz E fun a E=>ls E fun a E=>pf E rfl rfl fun a E=>aw E rfl fun a E=>wp_ret ?_
    exact fin hF ⟨ok.drop.drop,E.d,rz E rfl⟩
   refine fk E ok qbs qa2 rfl 1 rfl rfl fun a E=>lv E ok (qax qbj h8 rfl) fun a E=>lw E (qao rfl rfl) fun a E=>pt E rfl rfl fun a E=>mv E rfl fun a E=>bw E 92 hF (fun c54 hF E=>?_) fun c54 hF E=>?_
   ·refine lsz E fun a E=>ls E fun a E=>pf E rfl rfl fun a E=>mv E rfl fun a E=>lsz E fun a E=>ls E fun a E=>pf E rfl rfl fun a E=>mv E rfl fun a E=>lsq E fun a E=>?_
    refine lsq E fun a E=>ls E fun a E=>pf E rfl rfl fun a E=>aw E rfl fun a E=>wp_ret ?_
    exact fin hF ⟨ok.drop.drop,E.d,rz E rfl⟩
   refine fk E ok qbR qah rfl 1 rfl rfl fun a E=>fk E ok qbR qah rfl 0 rfl rfl fun a E=>lw E (qbf rfl rfl) fun a E=>pt E rfl rfl fun a E=>mv E rfl fun a E=>bw E 99 hF (fun c55 hF E=>?_) fun c55 hF E=>?_
   ·refine lsz E fun a E=>ls E fun a E=>pf E rfl rfl fun a E=>mv E rfl fun a E=>lsz E fun a E=>ls E fun a E=>pf E rfl rfl fun a E=>aw E rfl fun a E=>wp_ret ?_
    exact fin hF ⟨ok.drop.drop,E.d,rz E rfl⟩
   refine fk E ok qaw qah rfl 1 rfl rfl fun a E=>fk E ok qaw qah rfl 0 rfl rfl fun a E=>lw E (qbf rfl rfl) fun a E=>pt E rfl rfl fun a E=>mv E rfl fun a E=>bu E 106 hF (fun c56 hF E=>?_) fun c56 hF E=>?_
   ·refine fk E ok qaT qah rfl 1 rfl rfl fun a E=>fk E ok qaT qah rfl 0 rfl rfl fun a E=>lw E (qbf rfl rfl) fun a E=>pt E rfl rfl fun a E=>av E rfl fun a E=>wn<|wp_ret ?_
    exact fin hF ⟨ok.drop.drop,E.d,rz E rfl⟩
   refine lsz E fun a E=>ls E fun a E=>pf E rfl rfl fun a E=>av E rfl fun a E=>wn<|wp_ret ?_
   exact fin hF ⟨ok.drop.drop,E.d,rz E rfl⟩
 have hF:=hJ
 refine cf E rfl hF (fun c16 hF=>?_) fun c16 hF=>?_
 ·refine sg<|fk E ok qbR qah rfl 1 rfl rfl fun a E=>fv E qbR rfl fun a E=>qai E ok 0 rfl rfl rfl qex rfl rfl ⟨rfl,trivial⟩ rfl rfl fun w ok=>wn<|qab<|fk E ok qbR qah rfl 1 rfl rfl fun a E=>lw E (qbB rfl rfl) fun a E=>av E rfl fun a E=>wpList_nil ?_
  cases hF
  exact ⟨rfl,⟨ok,E.keep [2,5,6],r1,l2,(Nat.zero_le _),(Nat.zero_le _)⟩⟩
 refine sg<|lw E (qao rfl rfl) fun a E=>aw E rfl fun a E=>cf E rfl hF (fun c17 hF=>?_) fun c17 hF=>?_
 ·refine qab<|mv E rfl fun a E=>av E rfl fun a E=>wpList_nil ?_
  cases hF
  exact ⟨rfl,⟨ok,E.keep [2,5,6],r1,(Nat.zero_le _),(Nat.zero_le _),(Nat.zero_le _)⟩⟩
 refine sg<|lw E (qao rfl rfl) fun a E=>aw E rfl fun a E=>cf E rfl hF (fun c18 hF=>?_) fun c18 hF=>?_
 ·refine sg<|fk E ok qaw qah rfl 1 rfl rfl fun a E=>fv E qaw rfl fun a E=>qai E ok 0 rfl rfl rfl qex rfl rfl ⟨rfl,trivial⟩ rfl rfl fun w ok=>wn<|qab<|fk E ok qaw qah rfl 1 rfl rfl fun a E=>bd hF fun r19 e20 hF=>lc E qf9 rfl (qbA N x_0.Name l3 e20 hG ok) fun w ok a E=>av E rfl fun a E=>wpList_nil ?_
  cases hF
  exact ⟨rfl,⟨ok,E.keep [2,5,6],r1,(Nat.zero_le _),l3,(Nat.zero_le _)⟩⟩
 refine wp_seq<|sg<|lw E (qao rfl rfl) fun a E=>aw E rfl fun a E=>bd hF fun o21 hJ hF=>qaK (Q':=fun e a w=>e = .normal ∧ Ok u m0 ([(b10,oc 63 [vi x_0.Kind,(vs ([])),(vs ([])),(vs ([])),(Value.slice none 0 0),(Value.slice none 0 0)])] :: [(b9,oc 63 [vi x_0.Kind,vs x_0.Text,vs x_0.Name,vs x_0.Style,c5,c7])] :: S) w ∧ Env 113 a [(2,vp b9),(5,vp b10),(6,vb false),(31,vb o21)]) ?_ ?_
 ·have hF:=hJ
  refine cf E rfl hF (fun c22 hF=>?_) fun c22 hF=>?_
  ·refine wp_skip ?_
   cases hF
   exact ⟨rfl,⟨ok,E.keep [2,5,6,31]⟩⟩
  refine sg<|lw E (qao rfl rfl) fun a E=>aw E rfl fun a E=>cf E rfl hF (fun c23 hF=>?_) fun c23 hF=>?_
  ·refine wp_skip ?_
   cases hF
   exact ⟨rfl,⟨ok,E.keep [2,5,6,31]⟩⟩
  refine sg<|lw E (qao rfl rfl) fun a E=>aw E rfl fun a E=>cf E rfl hF (fun c24 hF=>?_) fun c24 hF=>?_
  ·refine wp_skip ?_
   cases hF
   exact ⟨rfl,⟨ok,E.keep [2,5,6,31]⟩⟩
  refine qab<|lw E (qao rfl rfl) fun a E=>av E rfl fun a E=>wpList_nil ?_
  cases hF
  exact ⟨rfl,⟨ok,E.keep [2,5,6,31]⟩⟩
 intro e a w hO
 obtain ⟨rfl,ok,E⟩:=hO
 refine qaa<|cg E rfl hF (fun c25 hF=>?_) fun c25 hF=>?_
 ·refine wp_skip ?_
  cases hF
  exact ⟨rfl,⟨ok,E.keep [2,5,6],r1,(Nat.zero_le _),(Nat.zero_le _),(Nat.zero_le _)⟩⟩
 refine wp_seq<|bd hF fun o26 hJ hF=>qaK (Q':=fun e a w=>e = .normal ∧ Ok u m0 ([(b10,oc 63 [vi o26.Kind,vs o26.Text,vs o26.Name,vs o26.Style,(Value.slice none 0 0),(Value.slice none 0 0)])] :: [(b9,oc 63 [vi x_0.Kind,vs x_0.Text,vs x_0.Name,vs x_0.Style,c5,c7])] :: S) w ∧ Env 113 a [(2,vp b9),(5,vp b10)] ∧ InR .i64 o26.Kind ∧ o26.Text.length ≤ LIMS ∧ o26.Name.length ≤ LIMS ∧ o26.Style.length ≤ LIMS) ?_ ?_
 ·have hF:=hJ
  cases hF
  refine qbT [1] (Cls u m0 ([(b10,oc 63 [vi x_0.Kind,(vs ([])),(vs ([])),(vs ([])),(Value.slice none 0 0),(Value.slice none 0 0)])] :: [(b9,oc 63 [vi x_0.Kind,vs x_0.Text,vs x_0.Name,vs x_0.Style,c5,c7])] :: [])) (Cls u m0 ([(b9,oc 63 [vi x_0.Kind,vs x_0.Text,vs x_0.Name,vs x_0.Style,c5,c7])] :: [])) (by kernel_rfl) ?_
  intro w hw
  replace ok:=qck ok hw
  clear hw
  refine qan (cl1 (cq le_m0 ok [0,1] rfl) (cq le_m0 ok [1] rfl)) fun hT=>kt 0 E rfl hT (qad qaw rfl) fun a E=>qca 1 E rfl (by kernel_rfl) nP hT (qak qah rfl (qac.cown 1 rfl rfl)) rfl rfl fun a E=>kt 2 E rfl hT (qad qaT rfl) fun a E=>kt 3 E rfl hT (qak qah rfl (qac.cown 0 rfl rfl)) fun a E=>kt 4 E rfl hT (qad qaw rfl) fun a E=>qaC [5] (by kernel_rfl) rfl (qaH ?_)
  ·refine wo rfl<|qai E ok 0 rfl rfl rfl qex rfl rfl ⟨rfl,trivial⟩ rfl rfl fun w ok=>wn<|qan (cl2 (by kernel_rfl) (cq le_m0 ok [1] rfl)) fun hT=>kt 6 E rfl hT (qad qaT rfl) fun a E=>qaC [7] (by kernel_rfl) rfl (qaH ?_)
   ·refine wo rfl<|qai E ok 0 rfl rfl rfl qex rfl rfl ⟨rfl,trivial⟩ rfl rfl fun w ok=>wn<|qan (cl2 (by kernel_rfl) (cq le_m0 ok [1] rfl)) fun hT=>qbq (by kernel_rfl) ?_
    exact ⟨rfl,⟨ok,E.keep [2,5],r1,(Nat.zero_le _),l3,l4⟩⟩
 intro e a w hO
 obtain ⟨rfl,ok,E,r31,l32,l33,l34⟩:=hO
 refine qaa<|sg<|fk E ok qaw qah rfl 1 rfl rfl fun a E=>bd hF fun r35 e36 hF=>lc E qf9 rfl (qbA N x_0.Name l3 e36 hG ok) fun w ok a E=>aw E rfl fun a E=>sg<|fk E ok qar qat rfl 1 rfl rfl fun a E=>wn<|wp_block<|sg<|lw E (qao rfl rfl) fun a E=>aw E rfl fun a E=>cg E rfl hF (fun c37 hF=>?_) fun c37 hF=>?_
 ·refine sg<|lw E (qao rfl rfl) fun a E=>aw E rfl fun a E=>cf E rfl hF (fun c41 hF=>?_) fun c41 hF=>?_
  ·refine qab<|mz E rfl rfl fun a E=>qaW r35 (fun c42=>?_) (fun c42=>?_)
   rotate_left
   ·have hF:=qaV c42 hF
    have E:=E.upd 74 c42 rfl
    refine lsq E fun a E=>ls E fun a E=>pf E rfl rfl fun a E=>av E rfl fun a E=>wpList_nil<|qag ?_
    cases hF
    exact ⟨rfl,⟨ok,E.keep [2,5,6],r31,l32,l33,l34⟩⟩
   have hF:=qaU c42 hF
   have E:=E.upd 74 c42 rfl
   refine fk E ok qaT qah rfl 1 rfl rfl fun a E=>bd hF fun r43 e44 hF=>lc E qrp rfl (qhz N x_0.Style l4 e44 hG ok) fun w ok a E=>pt E rfl rfl fun a E=>av E rfl fun a E=>wpList_nil<|qag ?_
   cases hF
   exact ⟨rfl,⟨ok,E.keep [2,5,6],r31,l32,l33,l34⟩⟩
  refine qab<|mz E rfl rfl fun a E=>qaW r35 (fun c45=>?_) (fun c45=>?_)
  rotate_left
  ·have hF:=qaV c45 hF
   have E:=E.upd 48 c45 rfl
   refine lsq E fun a E=>ls E fun a E=>pf E rfl rfl fun a E=>av E rfl fun a E=>wpList_nil<|qag ?_
   cases hF
   exact ⟨rfl,⟨ok,E.keep [2,5,6],r31,l32,l33,l34⟩⟩
  have hF:=qaU c45 hF
  have E:=E.upd 48 c45 rfl
  refine fk E ok qaT qah rfl 1 rfl rfl fun a E=>bd hF fun r46 e47 hF=>lc E qf9 rfl (qbA N x_0.Style l4 e47 hG ok) fun w ok a E=>pt E rfl rfl fun a E=>av E rfl fun a E=>wpList_nil<|qag ?_
  cases hF
  exact ⟨rfl,⟨ok,E.keep [2,5,6],r31,l32,l33,l34⟩⟩
 refine qab<|mz E rfl rfl fun a E=>qaW r35 (fun c38=>?_) (fun c38=>?_)
 rotate_left
 ·have hF:=qaV c38 hF
  have E:=E.upd 56 c38 rfl
  refine lsz E fun a E=>lsz E fun a E=>lsz E fun a E=>ls E fun a E=>pf E rfl rfl fun a E=>av E rfl fun a E=>wpList_nil<|qag ?_
  cases hF
  exact ⟨rfl,⟨ok,E.keep [2,5,6],r31,l32,l33,l34⟩⟩
 have hF:=qaU c38 hF
 have E:=E.upd 56 c38 rfl
 refine fk E ok qaT qah rfl 1 rfl rfl fun a E=>lw E (qbf rfl rfl) fun a E=>mv E rfl fun a E=>bu E 60 hF (fun c39 hF E=>?_) fun c39 hF E=>?_
 ·refine lsq E fun a E=>ls E fun a E=>pt E rfl rfl fun a E=>mv E rfl fun a E=>lsq E fun a E=>ls E fun a E=>pt E rfl rfl fun a E=>pt E rfl rfl fun a E=>av E rfl fun a E=>wpList_nil<|qag ?_
  cases hF
  exact ⟨rfl,⟨ok,E.keep [2,5,6],r31,l32,l33,l34⟩⟩
 refine fk E ok qaT qah rfl 1 rfl rfl fun a E=>lw E (qbf rfl rfl) fun a E=>pf E rfl rfl fun a E=>mv E rfl fun a E=>bu E 65 hF (fun c40 hF E=>?_) fun c40 hF E=>?_
 ·refine lsq E fun a E=>ls E fun a E=>pt E rfl rfl fun a E=>pt E rfl rfl fun a E=>av E rfl fun a E=>wpList_nil<|qag ?_
  cases hF
  exact ⟨rfl,⟨ok,E.keep [2,5,6],r31,l32,l33,l34⟩⟩
 refine fk E ok qaT qah rfl 1 rfl rfl fun a E=>lw E (qbf rfl rfl) fun a E=>pf E rfl rfl fun a E=>pt E rfl rfl fun a E=>av E rfl fun a E=>wpList_nil<|qag ?_
 cases hF
 exact ⟨rfl,⟨ok,E.keep [2,5,6],r31,l32,l33,l34⟩⟩
end Go.Proofs.YtmghnmfefpeelaaGreatDoor
namespace Go.Proofs.YtmghnmfefpeelaaGreatDoor
open Go.X
variable {u:World} {m0:Mem} {S:Segs} {w:World}
set_option maxHeartbeats 4000000
set_option maxRecDepth 100000
def qde (u:World) (m0:Mem) (S:Segs) (r:Bool) (a:Act) (w:World):Prop :=
 Ok u m0 S w ∧ a.defers = [] ∧ RVs Tryz.prog a w [.t 6 (.bool r)]
def qdZ (N:Nat):Prop:=∀ {u:World} {m0:Mem} {S:Segs} {w:World} (vparts_0:Value) (parts_0:List (Part)) (hparts_0:(pL 6 qbD) m0 [vparts_0] parts_0) (depth_1:Int) (rdepth_1:InR .i64 depth_1) (counted_2:Bool) {r:Bool} (hF:qa7 N parts_0 depth_1 counted_2 = some r) (hG:Glob u) (ok:Ok u m0 S w),Calls Tryz.prog 17 [vparts_0,vi depth_1,vb counted_2].toArray w fun e w'=>(e = .returned (.bool r) ∧ Ok u m0 S w')
theorem qhf (N:Nat) (ih_calqueref26_formed:qdZ N):qdZ (N + 1):=by
 intro u m0 S w vparts_0 parts_0 hparts_0 depth_1 rdepth_1 counted_2 r hF hG ok
 have hF0:qcK (qa7 N) N parts_0 depth_1 counted_2 = some r:=hF
 have hF:=hF0
 clear hF0
 unfold qcK at hF
 refine en (qde u m0 S) r Tryz.func17 rfl rfl rfl (fun _ _ h=>ra h rfl) fun fin a E=>sg<|aw E rfl fun a E=>wp_seq<|sg<|aw E rfl fun a E=>wp_block<|bd hF fun o2 hL hF=>qaX _ (fun (s:Int) a w=>Ok u m0 (S) w ∧ Env 166 a [(0,vparts_0),(1,vi depth_1),(2,vb counted_2),(7,vi s)] ∧ InR .i64 s) (fun (b:(Unit ⊕ Bool)) e a w=>(Sum.elim (fun b381=>e = (.exit 0) ∧ Ok u m0 (S) w ∧ Env 166 a []) (fun b382=>e = .ret ∧ qde u m0 S b382 a w)) b) ?_ ?_ N _ a w hL ⟨ok,E.keep [0,1,2,7],(ir 0)⟩
 rotate_left
 ·intro e a w _ hO
  rcases o2 with o2 | o2
  rotate_left
  ·obtain ⟨rfl,hret⟩:=hO
   refine qam<|qaf ?_
   exact fin hF hret
  have hF:=qcl hF
  obtain ⟨rfl,ok,E⟩:=hO
  refine qba<|qaa<|sg<|aw E rfl fun a E=>wp_ret ?_
  exact fin hF ⟨ok,E.d,rz E rfl⟩
 rintro v4 a w r ⟨ok,E,r5⟩ hF
 replace hF:qb4 (qa7 N) N parts_0 depth_1 counted_2 v4 = some r:=hF
 unfold qb4 at hF
 refine wp_seq<|sg<|mz E rfl rfl fun a E=>lv E ok (qax qbj hparts_0 rfl) fun a E=>lw E (qaJ rfl rfl) fun a E=>wn<|cg E rfl hF (fun c6 hF=>?_) fun c6 hF=>?_
 ·refine wp_exit<|qaO ?_
  cases hF
  exact so (sl ⟨rfl,⟨ok,E.keep []⟩⟩)
 refine wp_skip<|qaa<|wp_seq<|wp_block<|sg<|mz E rfl rfl fun a E=>?_
 obtain ⟨x7,e8,hF⟩:=bnd hF
 obtain ⟨b9,o10,es11,hl12,rr13,at14,yy15⟩:=ia E 18 19 qbj hparts_0 e8
 obtain ⟨c20,c22,rfl,r16,l17,l18,l19,h21,h23⟩:=(qaL.1 rr13)
 refine lv E ok (yy15 _ _) fun a E=>lv E ok (qaj (cs:=[vi x7.Kind,vs x7.Text,vs x7.Name,vs x7.Style,c20,c22]) qep rfl rfl (qac.ro at14)) fun a E=>qbh E ok qeV rfl rfl fun b24 a w E ok=>qai E ok 0 rfl rfl rfl qgg rfl rfl ⟨rfl,rfl,rfl,rfl,(qcW h21),(qcW h23),trivial⟩ rfl rfl fun w ok=>wn<|wp_seq<|sg<|mv E rfl fun a E=>lw E (qa9 rfl rfl) fun a E=>mv E rfl fun a E=>bw E 24 hF (fun c25 hF E=>?_) fun c25 hF E=>?_
 ·as_aux_lemma =>
   refine lsq E fun a E=>ls E fun a E=>pf E rfl rfl fun a E=>mv E rfl fun a E=>lsz E fun a E=>lsq E fun a E=>ls E fun a E=>pf E rfl rfl fun a E=>wn<|c_if E rfl (fun h=>by cases h) (fun _=>?_)
   refine wp_skip<|qaa<|wp_block<|sg<|fk E ok qar qat rfl 0 rfl rfl fun a E=>lw E (qao rfl rfl) fun a E=>aw E rfl fun a E=>cf E rfl hF (fun c269 hF=>?_) fun c269 hF=>?_
   ·as_aux_lemma =>
     refine wp_seq<|bd hF fun o270 hJ hF=>qaK (Q':=fun e a w=>e = .normal ∧ Ok u m0 ([(b24,oc 63 [vi x7.Kind,vs x7.Text,vs x7.Name,vs x7.Style,c20,c22])] :: S) w ∧ Env 166 a [(0,vparts_0),(1,vi depth_1),(2,vb counted_2),(7,vi v4),(74,vb o270)]) ?_ ?_
     rotate_left
     ·intro e a w hO
      obtain ⟨rfl,ok,E⟩:=hO
      refine qaa<|cg E rfl hF (fun c280 hF=>?_) fun c280 hF=>?_
      ·refine wp_skip<|qag<|qag<|qaa<|qab<|mv E rfl fun a E=>lw E (qau rfl rfl (InR.inc r5 (qae hparts_0) c6)) fun a E=>av E rfl fun a E=>wpList_nil ?_
       cases hF
       exact qap ⟨(ok.pk 1 [] rfl (by decide)),E.keep [0,1,2,7],(InR.inc r5 (qae hparts_0) c6)⟩
      refine sg<|aw E rfl fun a E=>wp_ret<|qam<|qam<|qaf ?_
      cases hF
      exact so (sr ⟨rfl,⟨ok.drop,E.d,rz E rfl⟩⟩)
     have hF:=hJ
     refine qab<|mv E rfl fun a E=>lw E (qa9 rfl rfl) fun a E=>mv E rfl fun a E=>bu E 44 hF (fun c271 hF E=>?_) fun c271 hF E=>?_
     ·refine lsz E fun a E=>pt E rfl rfl fun a E=>mv E rfl fun a E=>lsq E fun a E=>ls E fun a E=>pt E rfl rfl fun a E=>mv E rfl fun a E=>lsq E fun a E=>ls E fun a E=>pt E rfl rfl fun a E=>mv E rfl fun a E=>?_
      refine lsz E fun a E=>pt E rfl rfl fun a E=>mv E rfl fun a E=>lsz E fun a E=>lsq E fun a E=>ls E fun a E=>pt E rfl rfl fun a E=>wpList_nil ?_
      cases hF
      exact ⟨rfl,⟨ok,E.keep [0,1,2,7,74]⟩⟩
     refine fk E ok qaw qah rfl 0 rfl rfl fun a E=>bd hF fun r272 e273 hF=>lc E qf9 rfl (qbA N x7.Name l18 e273 hG ok) fun w ok a E=>lw E (qaz rfl) fun a E=>pf E rfl rfl fun a E=>mv E rfl fun a E=>bu E 50 hF (fun c274 hF E=>?_) fun c274 hF E=>?_
     ·refine lsq E fun a E=>ls E fun a E=>pt E rfl rfl fun a E=>mv E rfl fun a E=>lsq E fun a E=>ls E fun a E=>pt E rfl rfl fun a E=>mv E rfl fun a E=>lsz E fun a E=>pt E rfl rfl fun a E=>mv E rfl fun a E=>?_
      refine lsz E fun a E=>lsq E fun a E=>ls E fun a E=>pt E rfl rfl fun a E=>wpList_nil ?_
      cases hF
      exact ⟨rfl,⟨ok,E.keep [0,1,2,7,74]⟩⟩
     refine fk E ok qbR qah rfl 0 rfl rfl fun a E=>lw E (qbB rfl rfl) fun a E=>pf E rfl rfl fun a E=>mv E rfl fun a E=>bu E 55 hF (fun c275 hF E=>?_) fun c275 hF E=>?_
     ·refine lsq E fun a E=>ls E fun a E=>pt E rfl rfl fun a E=>mv E rfl fun a E=>lsz E fun a E=>pt E rfl rfl fun a E=>mv E rfl fun a E=>lsz E fun a E=>ls E fun a E=>?_
      refine lsq E fun a E=>pt E rfl rfl fun a E=>wpList_nil ?_
      cases hF
      exact ⟨rfl,⟨ok,E.keep [0,1,2,7,74]⟩⟩
     refine fk E ok qaT qah rfl 0 rfl rfl fun a E=>lw E (qbB rfl rfl) fun a E=>pf E rfl rfl fun a E=>mv E rfl fun a E=>bu E 60 hF (fun c276 hF E=>?_) fun c276 hF E=>?_
     ·refine lsz E fun a E=>pt E rfl rfl fun a E=>mv E rfl fun a E=>lsz E fun a E=>lsq E fun a E=>ls E fun a E=>pt E rfl rfl fun a E=>wpList_nil ?_
      cases hF
      exact ⟨rfl,⟨ok,E.keep [0,1,2,7,74]⟩⟩
     refine fk E ok qaR qaZ rfl 0 rfl rfl fun a E=>lv E ok (qax qbe h21 rfl) fun a E=>lw E (qa9 rfl rfl) fun a E=>pf E rfl rfl fun a E=>mv E rfl fun a E=>bu E 66 hF (fun c277 hF E=>?_) fun c277 hF E=>?_
     ·refine lsz E fun a E=>lsq E fun a E=>ls E fun a E=>pt E rfl rfl fun a E=>wpList_nil ?_
      cases hF
      exact ⟨rfl,⟨ok,E.keep [0,1,2,7,74]⟩⟩
     refine fk E ok qbs qa2 rfl 0 rfl rfl fun a E=>mv E rfl fun a E=>lw E (qbb rfl rfl) fun a E=>mv E rfl fun a E=>bd hF fun r278 e279 hF=>lc E qf7 rfl (ih_calqueref26_formed _ x7.Parts h23 (IntKind.wrap .i64 (depth_1 + 1)) (InR.wrap _ _) counted_2 e279 hG ok) fun w ok a E=>lw E (qaz rfl) fun a E=>pf E rfl rfl fun a E=>wpList_nil ?_
     cases hF
     exact ⟨rfl,⟨ok,E.keep [0,1,2,7,74]⟩⟩
   refine sg<|fk E ok qar qat rfl 0 rfl rfl fun a E=>bd hF fun r281 e282 hF=>lc E qjZ rfl (qcJ N x7.Kind r16 e282 hG ok) fun w ok a E=>aw E rfl fun a E=>cg E rfl hF (fun c283 hF=>?_) fun c283 hF=>?_
   ·refine sg<|lv E ok (qaj (cs:=[vi x7.Kind,vs x7.Text,vs x7.Name,vs x7.Style,c20,c22]) qep rfl rfl (qac.own 0 rfl rfl)) fun a E=>mv E rfl fun a E=>bd hF fun r378 e379 hF=>lc E qm9 rfl (qeX N _ x7 (qaL.2 ⟨_,_,rfl,r16,l17,l18,l19,h21,h23⟩) counted_2 e379 hG ok) fun w ok a E=>lw E (qaz rfl) fun a E=>aw E rfl fun a E=>cg E rfl hF (fun c380 hF=>?_) fun c380 hF=>?_
    ·refine wp_skip<|qag<|qag<|qaa<|qab<|mv E rfl fun a E=>lw E (qau rfl rfl (InR.inc r5 (qae hparts_0) c6)) fun a E=>av E rfl fun a E=>wpList_nil ?_
     cases hF
     exact qap ⟨(ok.pk 1 [] rfl (by decide)),E.keep [0,1,2,7],(InR.inc r5 (qae hparts_0) c6)⟩
    refine sg<|aw E rfl fun a E=>wp_ret<|qam<|qam<|qaf ?_
    cases hF
    exact so (sr ⟨rfl,⟨ok.drop,E.d,rz E rfl⟩⟩)
   refine wp_seq<|wp_seq<|bd hF fun o284 hJ hF=>qaK (Q':=fun e a w=>e = .normal ∧ Ok u m0 ([(b24,oc 63 [vi x7.Kind,vs x7.Text,vs x7.Name,vs x7.Style,c20,c22])] :: S) w ∧ Env 166 a [(0,vparts_0),(1,vi depth_1),(2,vb counted_2),(7,vi v4),(8,vp b24),(114,vb o284)]) ?_ ?_
   ·as_aux_lemma =>
     have hF:=hJ
     refine qab<|mv E rfl fun a E=>lw E (qa9 rfl rfl) fun a E=>mv E rfl fun a E=>bu E 81 hF (fun c285 hF E=>?_) fun c285 hF E=>?_
     ·refine lsz E fun a E=>pt E rfl rfl fun a E=>mv E rfl fun a E=>lsq E fun a E=>ls E fun a E=>pt E rfl rfl fun a E=>mv E rfl fun a E=>lsq E fun a E=>ls E fun a E=>pt E rfl rfl fun a E=>mv E rfl fun a E=>?_
      refine lsz E fun a E=>pt E rfl rfl fun a E=>mv E rfl fun a E=>lsz E fun a E=>pt E rfl rfl fun a E=>mv E rfl fun a E=>lsz E fun a E=>?_
      refine pt E rfl rfl fun a E=>wpList_nil ?_
      cases hF
      exact ⟨rfl,⟨ok,E.keep [0,1,2,7,8,114]⟩⟩
     refine fk E ok qaw qah rfl 0 rfl rfl fun a E=>bd hF fun r286 e287 hF=>lc E qf9 rfl (qbA N x7.Name l18 e287 hG ok) fun w ok a E=>lw E (qaz rfl) fun a E=>pf E rfl rfl fun a E=>mv E rfl fun a E=>bu E 87 hF (fun c288 hF E=>?_) fun c288 hF E=>?_
     ·refine lsq E fun a E=>ls E fun a E=>pt E rfl rfl fun a E=>mv E rfl fun a E=>lsq E fun a E=>ls E fun a E=>pt E rfl rfl fun a E=>mv E rfl fun a E=>lsz E fun a E=>pt E rfl rfl fun a E=>mv E rfl fun a E=>?_
      refine lsz E fun a E=>pt E rfl rfl fun a E=>mv E rfl fun a E=>lsz E fun a E=>pt E rfl rfl fun a E=>wpList_nil ?_
      cases hF
      exact ⟨rfl,⟨ok,E.keep [0,1,2,7,8,114]⟩⟩
     refine fk E ok qbR qah rfl 0 rfl rfl fun a E=>lw E (qbB rfl rfl) fun a E=>pf E rfl rfl fun a E=>mv E rfl fun a E=>bu E 92 hF (fun c289 hF E=>?_) fun c289 hF E=>?_
     ·refine lsq E fun a E=>ls E fun a E=>pt E rfl rfl fun a E=>mv E rfl fun a E=>lsz E fun a E=>pt E rfl rfl fun a E=>mv E rfl fun a E=>lsz E fun a E=>pt E rfl rfl fun a E=>?_
      refine mv E rfl fun a E=>lsz E fun a E=>pt E rfl rfl fun a E=>wpList_nil ?_
      cases hF
      exact ⟨rfl,⟨ok,E.keep [0,1,2,7,8,114]⟩⟩
     refine fk E ok qaT qah rfl 0 rfl rfl fun a E=>lw E (qbB rfl rfl) fun a E=>pf E rfl rfl fun a E=>mv E rfl fun a E=>bu E 97 hF (fun c290 hF E=>?_) fun c290 hF E=>?_
     ·refine lsz E fun a E=>pt E rfl rfl fun a E=>mv E rfl fun a E=>lsz E fun a E=>pt E rfl rfl fun a E=>mv E rfl fun a E=>lsz E fun a E=>?_
      refine pt E rfl rfl fun a E=>wpList_nil ?_
      cases hF
      exact ⟨rfl,⟨ok,E.keep [0,1,2,7,8,114]⟩⟩
     refine fk E ok qbs qa2 rfl 0 rfl rfl fun a E=>lv E ok (qax qbj h23 rfl) fun a E=>lw E (qa9 rfl rfl) fun a E=>pf E rfl rfl fun a E=>mv E rfl fun a E=>bu E 103 hF (fun c291 hF E=>?_) fun c291 hF E=>?_
     ·refine lsz E fun a E=>pt E rfl rfl fun a E=>mv E rfl fun a E=>lsz E fun a E=>pt E rfl rfl fun a E=>wpList_nil ?_
      cases hF
      exact ⟨rfl,⟨ok,E.keep [0,1,2,7,8,114]⟩⟩
     refine fk E ok qaR qaZ rfl 0 rfl rfl fun a E=>lv E ok (qax qbe h21 rfl) fun a E=>lw E (qaJ rfl rfl) fun a E=>pf E rfl rfl fun a E=>mv E rfl fun a E=>bu E 109 hF (fun c292 hF E=>?_) fun c292 hF E=>?_
     ·refine lsz E fun a E=>pt E rfl rfl fun a E=>wpList_nil ?_
      cases hF
      exact ⟨rfl,⟨ok,E.keep [0,1,2,7,8,114]⟩⟩
     refine fk E ok qaR qaZ rfl 0 rfl rfl fun a E=>lv E ok (qax qbe h21 rfl) fun a E=>lw E (qa9 rfl rfl) fun a E=>pf E rfl rfl fun a E=>wpList_nil ?_
     cases hF
     exact ⟨rfl,⟨ok,E.keep [0,1,2,7,8,114]⟩⟩
   intro e a w hO
   obtain ⟨rfl,ok,E⟩:=hO
   refine qaa<|cf E rfl hF (fun c293 hF=>?_) fun c293 hF=>?_
   ·refine sg<|aw E rfl fun a E=>wp_ret<|qaf<|qam<|qam<|qaf ?_
    cases hF
    exact so (sr ⟨rfl,⟨ok.drop,E.d,rz E rfl⟩⟩)
   refine wp_skip<|qaa<|sg<|aw E rfl fun a E=>wp_seq<|sg<|aw E rfl fun a E=>wp_block ?_
   obtain ⟨M299,ok,h300⟩:=qgr (e:=9) (k:=1) (R:=pS) ok
   refine bd hF fun o301 hL hF=>qaX _ (fun (s:(List (List UInt8)) × Int) a w=>∃ c302 M303,Ok u m0 (M303 :: [(b24,oc 63 [vi x7.Kind,vs x7.Text,vs x7.Name,vs x7.Style,c20,c22])] :: S) w ∧ Env 166 a [(0,vparts_0),(1,vi depth_1),(2,vb counted_2),(7,vi v4),(8,vp b24),(9,c302),(10,vi s.2)] ∧ ORow 9 1 pS m0 c302 s.1 M303 ∧ InR .i64 s.2) (fun (b:(((List (List UInt8))) ⊕ Bool)) e a w=>(Sum.elim (fun b373=>e = (.exit 3) ∧ ∃ c374 M375,Ok u m0 (M375 :: [(b24,oc 63 [vi x7.Kind,vs x7.Text,vs x7.Name,vs x7.Style,c20,c22])] :: S) w ∧ Env 166 a [(0,vparts_0),(1,vi depth_1),(2,vb counted_2),(7,vi v4),(9,c374)] ∧ ORow 9 1 pS m0 c374 b373 M375) (fun b377=>e = .ret ∧ qde u m0 S b377 a w)) b) ?_ ?_ N _ a w hL ⟨(Value.slice none 0 0),M299,ok,E.keep [0,1,2,7,8,9,10],h300,(ir 0)⟩
   rotate_left
   ·intro e a w _ hO
    rcases o301 with o301 | o301
    rotate_left
    ·have hF:=qj2 hF
     obtain ⟨rfl,hret⟩:=hO
     refine qam<|qaf<|qam<|qam<|qaf ?_
     cases hF
     exact so (sr ⟨rfl,hret⟩)
    have hF:=qcl hF
    obtain ⟨rfl,c362,M363,ok,E,h364⟩:=hO
    refine qba<|qaa<|sg<|mv E rfl fun a E=>?_
    obtain ⟨r370,e371,hF⟩:=bnd hF
    obtain ⟨m365,hle367,ok366,hfz368⟩:=(ok.frs 0 rfl).freeze
    have h369:=ORow.froz mS h364 hle367 hfz368 (by decide)
    refine qas E qiq rfl (qc0 N _ o301 h369 ([111,116,104,101,114]) (show ([111,116,104,101,114]:List UInt8).length ≤ LIMS by decide) e371 hG ok366) rfl rfl ?_
    rintro _ w ⟨rfl,okz⟩
    replace ok:=(Ok.thawAt 0 rfl ok hle367 hfz368 okz)
    refine ⟨_,rfl,fun a E=>?_⟩
    refine lw E (qaz rfl) fun a E=>wn<|cg E rfl hF (fun c372 hF=>?_) fun c372 hF=>?_
    ·refine wp_skip<|qag<|qag<|qaa<|qab<|mv E rfl fun a E=>lw E (qau rfl rfl (InR.inc r5 (qae hparts_0) c6)) fun a E=>av E rfl fun a E=>wpList_nil ?_
     cases hF
     exact qap ⟨(ok.pk 2 [] rfl (by decide)),E.keep [0,1,2,7],(InR.inc r5 (qae hparts_0) c6)⟩
    refine sg<|aw E rfl fun a E=>wp_ret<|qam<|qam<|qaf ?_
    cases hF
    exact so (sr ⟨rfl,⟨ok.drop.drop,E.d,rz E rfl⟩⟩)
   rintro ⟨v306,v307⟩ a w r ⟨c308,M309,ok,E,h310,r311⟩ hF
   replace hF:qdM (qa7 N) N depth_1 counted_2 x7 v306 v307 = some r:=hF
   unfold qdM at hF
   refine wp_seq<|sg<|mv E rfl fun a E=>fk E ok qaR qaZ rfl 1 rfl rfl fun a E=>lv E ok (qax qbe h21 rfl) fun a E=>lw E (qaJ rfl rfl) fun a E=>wn<|cg E rfl hF (fun c312 hF=>?_) fun c312 hF=>?_
   ·refine wp_exit<|qaO ?_
    cases hF
    exact so (sl ⟨rfl,⟨c308,M309,ok,E.keep [0,1,2,7,9],h310⟩⟩)
   refine wp_skip<|qaa<|wp_seq<|wp_block<|sg<|fk E ok qaR qaZ rfl 1 rfl rfl fun a E=>mv E rfl fun a E=>?_
   obtain ⟨x313,e314,hF⟩:=bnd hF
   obtain ⟨b315,o316,es317,hl318,rr319,at320,yy321⟩:=ia E 123 124 qbe h21 e314
   obtain ⟨c323,rfl,l322,h324⟩:=rr319
   refine lv E ok (yy321 _ _) fun a E=>lv E ok (qaj (cs:=[vs x313.Key,c323]) qg1 rfl rfl (qac.ro at320)) fun a E=>qbh E ok qf1 rfl rfl fun b325 a w E ok=>qai E ok 0 rfl rfl rfl qg3 rfl rfl ⟨rfl,(qcW h324),trivial⟩ rfl rfl fun w ok=>wn<|wp_seq<|wp_seq<|qdB (by kernel_rfl) (by kernel_rfl) ok<|qv E (qad qar rfl) fun a E=>qv E (qak qat rfl (qac.own 2 rfl rfl)) fun a E=>qv E (qad qcr rfl) fun a E=>qv E (qak qah rfl (qac.own 0 rfl rfl)) fun a E=>bd hF fun r326 e327 hF=>qcv E qno rfl (fun w ok=>(qfh N x7.Kind r16 x313.Key l322 e327 hG ok).mono (fun _ _ h=>h)) rfl rfl fun a E=>qv E (qaz rfl) fun a E=>qv E (qal rfl) fun a E=>bu E 133 hF (fun c328 hF E=>?_) fun c328 hF E=>?_
   ·refine qs E fun a E=>qs E fun a E=>qs E fun a E=>qs E fun a E=>qv E (qco rfl rfl) fun a E=>qv E (qal rfl) fun a E=>qs E fun a E=>qs E fun a E=>qs E fun a E=>qs E fun a E=>qs E fun a E=>qs E fun a E=>qs E fun a E=>qs E fun a E=>qs E fun a E=>qs E fun a E=>?_
    refine qs E fun a E=>qs E fun a E=>qv E (qco rfl rfl) fun a E=>wpQuiet_nil ?_
    intro w ok
    refine qaa<|c_if E rfl (fun _=>?_) (fun h=>by cases h)
    refine sg<|aw E rfl fun a E=>wp_ret<|qaf<|qam<|qaf ?_
    cases hF
    exact so (sr ⟨rfl,⟨ok.drop.drop.drop,E.d,rz E rfl⟩⟩)
   refine qv E (qal rfl) fun a E=>qv E (qad qcr rfl) fun a E=>qv E (qak qah rfl (qac.own 0 rfl rfl)) fun a E=>bd hF fun r334 e335 hF=>qcv E (v:=(vb r334)) qiq rfl (fun w ok=>?_) rfl rfl fun a E=>?_
   ·obtain ⟨m329,hle331,ok330,hfz332⟩:=(ok.frs 1 rfl).freeze
    have h333:=ORow.froz mS h310 hle331 hfz332 (by decide)
    refine Calls.mono (qc0 N _ v306 h333 x313.Key l322 e335 hG ok330) fun _ _ hz=>?_
    obtain ⟨hz1,okz⟩:=hz
    exact ⟨hz1,(Ok.thawAt 1 rfl ok hle331 hfz332 okz)⟩
   refine qv E (qcq rfl rfl) fun a E=>qv E (qal rfl) fun a E=>qaW r334 (fun c336=>?_) (fun c336=>?_)
   ·have hF:=qaU c336 hF
    have E:=E.upd 139 c336 rfl
    refine qs E fun a E=>qs E fun a E=>qs E fun a E=>qs E fun a E=>qs E fun a E=>qs E fun a E=>qs E fun a E=>qs E fun a E=>qs E fun a E=>qs E fun a E=>qs E fun a E=>qs E fun a E=>qv E (qco rfl rfl) fun a E=>wpQuiet_nil ?_
    intro w ok
    refine qaa<|c_if E rfl (fun _=>?_) (fun h=>by cases h)
    refine sg<|aw E rfl fun a E=>wp_ret<|qaf<|qam<|qaf ?_
    cases hF
    exact so (sr ⟨rfl,⟨ok.drop.drop.drop,E.d,rz E rfl⟩⟩)
   have hF:=qaV c336 hF
   have E:=E.upd 139 c336 rfl
   refine qv E (qad qdP rfl) fun a E=>qv E (qak qa2 rfl (qac.own 0 rfl rfl)) fun a E=>qv E (qal rfl) fun a E=>qv E (qbb rfl rfl) fun a E=>qv E (qal rfl) fun a E=>qv E (qal rfl) fun a E=>qaW counted_2 (fun c337=>?_) (fun c337=>?_)
   ·have hF:=qaU c337 hF
    have E:=E.upd 145 c337 rfl
    refine qs E fun a E=>qs E fun a E=>qs E fun a E=>qv E (qco rfl rfl) fun a E=>bd hF fun r338 e339 hF=>qcv E qf7 rfl (fun w ok=>(ih_calqueref26_formed _ x313.Parts h324 (IntKind.wrap .i64 (depth_1 + 1)) (InR.wrap _ _) true e339 hG ok).mono (fun _ _ h=>h)) rfl rfl fun a E=>qv E (qaz rfl) fun a E=>qv E (qcq rfl rfl) fun a E=>wpQuiet_nil ?_
    intro w ok
    refine qaa<|cf E rfl hF (fun c340 hF=>?_) fun c340 hF=>?_
    ·refine sg<|aw E rfl fun a E=>wp_ret<|qaf<|qam<|qaf ?_
     cases hF
     exact so (sr ⟨rfl,⟨ok.drop.drop.drop,E.d,rz E rfl⟩⟩)
    refine wp_skip<|qaa<|qab<|mv E rfl fun a E=>fk E ok qcr qah rfl 0 rfl rfl fun a E=>qcy (R:=pS) (xo:=[.tmp 155]) (xs:=([x313.Key]:List (List UInt8))) E ok qbx qb0 rfl ⟨⟨_,rfl,rfl,(qc9 l322)⟩,trivial⟩ rfl rfl rfl rfl fun c341 M342 a w E ok h343=>bd hF fun l344 e345 hF=>qec (R:=pS) E ok 2 mS qbx Tryz.underlying25 rfl h310 (qb5.ofRow h343 0 rfl ok) e345 ⟨_,qb0,rfl⟩ rfl rfl rfl rfl fun c346 M347 a w E ok h348=>av E rfl fun a E=>wpList_nil<|qag<|qaa<|qab<|mv E rfl fun a E=>lw E (qau rfl rfl (InR.inc r311 (qae h21) c312)) fun a E=>av E rfl fun a E=>wpList_nil ?_
    cases hF
    exact qap ⟨c346,M347,(ok.pk 4 [2,3] rfl (by decide)),E.keep [0,1,2,7,8,9,10],h348,(InR.inc r311 (qae h21) c312)⟩
   have hF:=qaV c337 hF
   have E:=E.upd 145 c337 rfl
   refine qv E (qad qar rfl) fun a E=>qv E (qak qat rfl (qac.own 2 rfl rfl)) fun a E=>bd hF fun r349 e350 hF=>qcv E qm6 rfl (fun w ok=>(qeE N x7.Kind r16 e350 hG ok).mono (fun _ _ h=>h)) rfl rfl fun a E=>qv E (qcq rfl rfl) fun a E=>bd hF fun r351 e352 hF=>qcv E qf7 rfl (fun w ok=>(ih_calqueref26_formed _ x313.Parts h324 (IntKind.wrap .i64 (depth_1 + 1)) (InR.wrap _ _) r349 e352 hG ok).mono (fun _ _ h=>h)) rfl rfl fun a E=>qv E (qaz rfl) fun a E=>qv E (qcq rfl rfl) fun a E=>wpQuiet_nil ?_
   intro w ok
   refine qaa<|cf E rfl hF (fun c353 hF=>?_) fun c353 hF=>?_
   ·refine sg<|aw E rfl fun a E=>wp_ret<|qaf<|qam<|qaf ?_
    cases hF
    exact so (sr ⟨rfl,⟨ok.drop.drop.drop,E.d,rz E rfl⟩⟩)
   refine wp_skip<|qaa<|qab<|mv E rfl fun a E=>fk E ok qcr qah rfl 0 rfl rfl fun a E=>qcy (R:=pS) (xo:=[.tmp 155]) (xs:=([x313.Key]:List (List UInt8))) E ok qbx qb0 rfl ⟨⟨_,rfl,rfl,(qc9 l322)⟩,trivial⟩ rfl rfl rfl rfl fun c354 M355 a w E ok h356=>bd hF fun l357 e358 hF=>qec (R:=pS) E ok 2 mS qbx Tryz.underlying25 rfl h310 (qb5.ofRow h356 0 rfl ok) e358 ⟨_,qb0,rfl⟩ rfl rfl rfl rfl fun c359 M360 a w E ok h361=>av E rfl fun a E=>wpList_nil<|qag<|qaa<|qab<|mv E rfl fun a E=>lw E (qau rfl rfl (InR.inc r311 (qae h21) c312)) fun a E=>av E rfl fun a E=>wpList_nil ?_
   cases hF
   exact qap ⟨c359,M360,(ok.pk 4 [2,3] rfl (by decide)),E.keep [0,1,2,7,8,9,10],h361,(InR.inc r311 (qae h21) c312)⟩
 refine fk E ok qar qat rfl 0 rfl rfl fun a E=>lw E (qao rfl rfl) fun a E=>pt E rfl rfl fun a E=>mv E rfl fun a E=>bw E 29 hF (fun c26 hF E=>?_) fun c26 hF E=>?_
 ·as_aux_lemma =>
   refine lsz E fun a E=>lsq E fun a E=>ls E fun a E=>pf E rfl rfl fun a E=>wn<|c_if E rfl (fun h=>by cases h) (fun _=>?_)
   refine wp_skip<|qaa<|wp_block<|sg<|fk E ok qar qat rfl 0 rfl rfl fun a E=>lw E (qao rfl rfl) fun a E=>aw E rfl fun a E=>cf E rfl hF (fun c157 hF=>?_) fun c157 hF=>?_
   ·as_aux_lemma =>
     refine wp_seq<|bd hF fun o158 hJ hF=>qaK (Q':=fun e a w=>e = .normal ∧ Ok u m0 ([(b24,oc 63 [vi x7.Kind,vs x7.Text,vs x7.Name,vs x7.Style,c20,c22])] :: S) w ∧ Env 166 a [(0,vparts_0),(1,vi depth_1),(2,vb counted_2),(7,vi v4),(74,vb o158)]) ?_ ?_
     rotate_left
     ·intro e a w hO
      obtain ⟨rfl,ok,E⟩:=hO
      refine qaa<|cg E rfl hF (fun c168 hF=>?_) fun c168 hF=>?_
      ·refine wp_skip<|qag<|qag<|qaa<|qab<|mv E rfl fun a E=>lw E (qau rfl rfl (InR.inc r5 (qae hparts_0) c6)) fun a E=>av E rfl fun a E=>wpList_nil ?_
       cases hF
       exact qap ⟨(ok.pk 1 [] rfl (by decide)),E.keep [0,1,2,7],(InR.inc r5 (qae hparts_0) c6)⟩
      refine sg<|aw E rfl fun a E=>wp_ret<|qam<|qam<|qaf ?_
      cases hF
      exact so (sr ⟨rfl,⟨ok.drop,E.d,rz E rfl⟩⟩)
     have hF:=hJ
     refine qab<|mv E rfl fun a E=>lw E (qa9 rfl rfl) fun a E=>mv E rfl fun a E=>bu E 44 hF (fun c159 hF E=>?_) fun c159 hF E=>?_
     ·refine lsz E fun a E=>pt E rfl rfl fun a E=>mv E rfl fun a E=>lsq E fun a E=>ls E fun a E=>pt E rfl rfl fun a E=>mv E rfl fun a E=>lsq E fun a E=>ls E fun a E=>pt E rfl rfl fun a E=>mv E rfl fun a E=>?_
      refine lsz E fun a E=>pt E rfl rfl fun a E=>mv E rfl fun a E=>lsz E fun a E=>lsq E fun a E=>ls E fun a E=>pt E rfl rfl fun a E=>wpList_nil ?_
      cases hF
      exact ⟨rfl,⟨ok,E.keep [0,1,2,7,74]⟩⟩
     refine fk E ok qaw qah rfl 0 rfl rfl fun a E=>bd hF fun r160 e161 hF=>lc E qf9 rfl (qbA N x7.Name l18 e161 hG ok) fun w ok a E=>lw E (qaz rfl) fun a E=>pf E rfl rfl fun a E=>mv E rfl fun a E=>bu E 50 hF (fun c162 hF E=>?_) fun c162 hF E=>?_
     ·refine lsq E fun a E=>ls E fun a E=>pt E rfl rfl fun a E=>mv E rfl fun a E=>lsq E fun a E=>ls E fun a E=>pt E rfl rfl fun a E=>mv E rfl fun a E=>lsz E fun a E=>pt E rfl rfl fun a E=>mv E rfl fun a E=>?_
      refine lsz E fun a E=>lsq E fun a E=>ls E fun a E=>pt E rfl rfl fun a E=>wpList_nil ?_
      cases hF
      exact ⟨rfl,⟨ok,E.keep [0,1,2,7,74]⟩⟩
     refine fk E ok qbR qah rfl 0 rfl rfl fun a E=>lw E (qbB rfl rfl) fun a E=>pf E rfl rfl fun a E=>mv E rfl fun a E=>bu E 55 hF (fun c163 hF E=>?_) fun c163 hF E=>?_
     ·refine lsq E fun a E=>ls E fun a E=>pt E rfl rfl fun a E=>mv E rfl fun a E=>lsz E fun a E=>pt E rfl rfl fun a E=>mv E rfl fun a E=>lsz E fun a E=>ls E fun a E=>?_
      refine lsq E fun a E=>pt E rfl rfl fun a E=>wpList_nil ?_
      cases hF
      exact ⟨rfl,⟨ok,E.keep [0,1,2,7,74]⟩⟩
     refine fk E ok qaT qah rfl 0 rfl rfl fun a E=>lw E (qbB rfl rfl) fun a E=>pf E rfl rfl fun a E=>mv E rfl fun a E=>bu E 60 hF (fun c164 hF E=>?_) fun c164 hF E=>?_
     ·refine lsz E fun a E=>pt E rfl rfl fun a E=>mv E rfl fun a E=>lsz E fun a E=>lsq E fun a E=>ls E fun a E=>pt E rfl rfl fun a E=>wpList_nil ?_
      cases hF
      exact ⟨rfl,⟨ok,E.keep [0,1,2,7,74]⟩⟩
     refine fk E ok qaR qaZ rfl 0 rfl rfl fun a E=>lv E ok (qax qbe h21 rfl) fun a E=>lw E (qa9 rfl rfl) fun a E=>pf E rfl rfl fun a E=>mv E rfl fun a E=>bu E 66 hF (fun c165 hF E=>?_) fun c165 hF E=>?_
     ·refine lsz E fun a E=>lsq E fun a E=>ls E fun a E=>pt E rfl rfl fun a E=>wpList_nil ?_
      cases hF
      exact ⟨rfl,⟨ok,E.keep [0,1,2,7,74]⟩⟩
     refine fk E ok qbs qa2 rfl 0 rfl rfl fun a E=>mv E rfl fun a E=>lw E (qbb rfl rfl) fun a E=>mv E rfl fun a E=>bd hF fun r166 e167 hF=>lc E qf7 rfl (ih_calqueref26_formed _ x7.Parts h23 (IntKind.wrap .i64 (depth_1 + 1)) (InR.wrap _ _) counted_2 e167 hG ok) fun w ok a E=>lw E (qaz rfl) fun a E=>pf E rfl rfl fun a E=>wpList_nil ?_
     cases hF
     exact ⟨rfl,⟨ok,E.keep [0,1,2,7,74]⟩⟩
   refine sg<|fk E ok qar qat rfl 0 rfl rfl fun a E=>bd hF fun r169 e170 hF=>lc E qjZ rfl (qcJ N x7.Kind r16 e170 hG ok) fun w ok a E=>aw E rfl fun a E=>cg E rfl hF (fun c171 hF=>?_) fun c171 hF=>?_
   ·refine sg<|lv E ok (qaj (cs:=[vi x7.Kind,vs x7.Text,vs x7.Name,vs x7.Style,c20,c22]) qep rfl rfl (qac.own 0 rfl rfl)) fun a E=>mv E rfl fun a E=>bd hF fun r266 e267 hF=>lc E qm9 rfl (qeX N _ x7 (qaL.2 ⟨_,_,rfl,r16,l17,l18,l19,h21,h23⟩) counted_2 e267 hG ok) fun w ok a E=>lw E (qaz rfl) fun a E=>aw E rfl fun a E=>cg E rfl hF (fun c268 hF=>?_) fun c268 hF=>?_
    ·refine wp_skip<|qag<|qag<|qaa<|qab<|mv E rfl fun a E=>lw E (qau rfl rfl (InR.inc r5 (qae hparts_0) c6)) fun a E=>av E rfl fun a E=>wpList_nil ?_
     cases hF
     exact qap ⟨(ok.pk 1 [] rfl (by decide)),E.keep [0,1,2,7],(InR.inc r5 (qae hparts_0) c6)⟩
    refine sg<|aw E rfl fun a E=>wp_ret<|qam<|qam<|qaf ?_
    cases hF
    exact so (sr ⟨rfl,⟨ok.drop,E.d,rz E rfl⟩⟩)
   refine wp_seq<|wp_seq<|bd hF fun o172 hJ hF=>qaK (Q':=fun e a w=>e = .normal ∧ Ok u m0 ([(b24,oc 63 [vi x7.Kind,vs x7.Text,vs x7.Name,vs x7.Style,c20,c22])] :: S) w ∧ Env 166 a [(0,vparts_0),(1,vi depth_1),(2,vb counted_2),(7,vi v4),(8,vp b24),(114,vb o172)]) ?_ ?_
   ·as_aux_lemma =>
     have hF:=hJ
     refine qab<|mv E rfl fun a E=>lw E (qa9 rfl rfl) fun a E=>mv E rfl fun a E=>bu E 81 hF (fun c173 hF E=>?_) fun c173 hF E=>?_
     ·refine lsz E fun a E=>pt E rfl rfl fun a E=>mv E rfl fun a E=>lsq E fun a E=>ls E fun a E=>pt E rfl rfl fun a E=>mv E rfl fun a E=>lsq E fun a E=>ls E fun a E=>pt E rfl rfl fun a E=>mv E rfl fun a E=>?_
      refine lsz E fun a E=>pt E rfl rfl fun a E=>mv E rfl fun a E=>lsz E fun a E=>pt E rfl rfl fun a E=>mv E rfl fun a E=>lsz E fun a E=>?_
      refine pt E rfl rfl fun a E=>wpList_nil ?_
      cases hF
      exact ⟨rfl,⟨ok,E.keep [0,1,2,7,8,114]⟩⟩
     refine fk E ok qaw qah rfl 0 rfl rfl fun a E=>bd hF fun r174 e175 hF=>lc E qf9 rfl (qbA N x7.Name l18 e175 hG ok) fun w ok a E=>lw E (qaz rfl) fun a E=>pf E rfl rfl fun a E=>mv E rfl fun a E=>bu E 87 hF (fun c176 hF E=>?_) fun c176 hF E=>?_
     ·refine lsq E fun a E=>ls E fun a E=>pt E rfl rfl fun a E=>mv E rfl fun a E=>lsq E fun a E=>ls E fun a E=>pt E rfl rfl fun a E=>mv E rfl fun a E=>lsz E fun a E=>pt E rfl rfl fun a E=>mv E rfl fun a E=>?_
      refine lsz E fun a E=>pt E rfl rfl fun a E=>mv E rfl fun a E=>lsz E fun a E=>pt E rfl rfl fun a E=>wpList_nil ?_
      cases hF
      exact ⟨rfl,⟨ok,E.keep [0,1,2,7,8,114]⟩⟩
     refine fk E ok qbR qah rfl 0 rfl rfl fun a E=>lw E (qbB rfl rfl) fun a E=>pf E rfl rfl fun a E=>mv E rfl fun a E=>bu E 92 hF (fun c177 hF E=>?_) fun c177 hF E=>?_
     ·refine lsq E fun a E=>ls E fun a E=>pt E rfl rfl fun a E=>mv E rfl fun a E=>lsz E fun a E=>pt E rfl rfl fun a E=>mv E rfl fun a E=>lsz E fun a E=>pt E rfl rfl fun a E=>?_
      refine mv E rfl fun a E=>lsz E fun a E=>pt E rfl rfl fun a E=>wpList_nil ?_
      cases hF
      exact ⟨rfl,⟨ok,E.keep [0,1,2,7,8,114]⟩⟩
     refine fk E ok qaT qah rfl 0 rfl rfl fun a E=>lw E (qbB rfl rfl) fun a E=>pf E rfl rfl fun a E=>mv E rfl fun a E=>bu E 97 hF (fun c178 hF E=>?_) fun c178 hF E=>?_
     ·refine lsz E fun a E=>pt E rfl rfl fun a E=>mv E rfl fun a E=>lsz E fun a E=>pt E rfl rfl fun a E=>mv E rfl fun a E=>lsz E fun a E=>?_
      refine pt E rfl rfl fun a E=>wpList_nil ?_
      cases hF
      exact ⟨rfl,⟨ok,E.keep [0,1,2,7,8,114]⟩⟩
     refine fk E ok qbs qa2 rfl 0 rfl rfl fun a E=>lv E ok (qax qbj h23 rfl) fun a E=>lw E (qa9 rfl rfl) fun a E=>pf E rfl rfl fun a E=>mv E rfl fun a E=>bu E 103 hF (fun c179 hF E=>?_) fun c179 hF E=>?_
     ·refine lsz E fun a E=>pt E rfl rfl fun a E=>mv E rfl fun a E=>lsz E fun a E=>pt E rfl rfl fun a E=>wpList_nil ?_
      cases hF
      exact ⟨rfl,⟨ok,E.keep [0,1,2,7,8,114]⟩⟩
     refine fk E ok qaR qaZ rfl 0 rfl rfl fun a E=>lv E ok (qax qbe h21 rfl) fun a E=>lw E (qaJ rfl rfl) fun a E=>pf E rfl rfl fun a E=>mv E rfl fun a E=>bu E 109 hF (fun c180 hF E=>?_) fun c180 hF E=>?_
     ·refine lsz E fun a E=>pt E rfl rfl fun a E=>wpList_nil ?_
      cases hF
      exact ⟨rfl,⟨ok,E.keep [0,1,2,7,8,114]⟩⟩
     refine fk E ok qaR qaZ rfl 0 rfl rfl fun a E=>lv E ok (qax qbe h21 rfl) fun a E=>lw E (qa9 rfl rfl) fun a E=>pf E rfl rfl fun a E=>wpList_nil ?_
     cases hF
     exact ⟨rfl,⟨ok,E.keep [0,1,2,7,8,114]⟩⟩
   intro e a w hO
   obtain ⟨rfl,ok,E⟩:=hO
   refine qaa<|cf E rfl hF (fun c181 hF=>?_) fun c181 hF=>?_
   ·refine sg<|aw E rfl fun a E=>wp_ret<|qaf<|qam<|qam<|qaf ?_
    cases hF
    exact so (sr ⟨rfl,⟨ok.drop,E.d,rz E rfl⟩⟩)
   refine wp_skip<|qaa<|sg<|aw E rfl fun a E=>wp_seq<|sg<|aw E rfl fun a E=>wp_block ?_
   obtain ⟨M187,ok,h188⟩:=qgr (e:=9) (k:=1) (R:=pS) ok
   refine bd hF fun o189 hL hF=>qaX _ (fun (s:(List (List UInt8)) × Int) a w=>∃ c190 M191,Ok u m0 (M191 :: [(b24,oc 63 [vi x7.Kind,vs x7.Text,vs x7.Name,vs x7.Style,c20,c22])] :: S) w ∧ Env 166 a [(0,vparts_0),(1,vi depth_1),(2,vb counted_2),(7,vi v4),(8,vp b24),(9,c190),(10,vi s.2)] ∧ ORow 9 1 pS m0 c190 s.1 M191 ∧ InR .i64 s.2) (fun (b:(((List (List UInt8))) ⊕ Bool)) e a w=>(Sum.elim (fun b261=>e = (.exit 3) ∧ ∃ c262 M263,Ok u m0 (M263 :: [(b24,oc 63 [vi x7.Kind,vs x7.Text,vs x7.Name,vs x7.Style,c20,c22])] :: S) w ∧ Env 166 a [(0,vparts_0),(1,vi depth_1),(2,vb counted_2),(7,vi v4),(9,c262)] ∧ ORow 9 1 pS m0 c262 b261 M263) (fun b265=>e = .ret ∧ qde u m0 S b265 a w)) b) ?_ ?_ N _ a w hL ⟨(Value.slice none 0 0),M187,ok,E.keep [0,1,2,7,8,9,10],h188,(ir 0)⟩
   rotate_left
   ·intro e a w _ hO
    rcases o189 with o189 | o189
    rotate_left
    ·have hF:=qj2 hF
     obtain ⟨rfl,hret⟩:=hO
     refine qam<|qaf<|qam<|qam<|qaf ?_
     cases hF
     exact so (sr ⟨rfl,hret⟩)
    have hF:=qcl hF
    obtain ⟨rfl,c250,M251,ok,E,h252⟩:=hO
    refine qba<|qaa<|sg<|mv E rfl fun a E=>?_
    obtain ⟨r258,e259,hF⟩:=bnd hF
    obtain ⟨m253,hle255,ok254,hfz256⟩:=(ok.frs 0 rfl).freeze
    have h257:=ORow.froz mS h252 hle255 hfz256 (by decide)
    refine qas E qiq rfl (qc0 N _ o189 h257 ([111,116,104,101,114]) (show ([111,116,104,101,114]:List UInt8).length ≤ LIMS by decide) e259 hG ok254) rfl rfl ?_
    rintro _ w ⟨rfl,okz⟩
    replace ok:=(Ok.thawAt 0 rfl ok hle255 hfz256 okz)
    refine ⟨_,rfl,fun a E=>?_⟩
    refine lw E (qaz rfl) fun a E=>wn<|cg E rfl hF (fun c260 hF=>?_) fun c260 hF=>?_
    ·refine wp_skip<|qag<|qag<|qaa<|qab<|mv E rfl fun a E=>lw E (qau rfl rfl (InR.inc r5 (qae hparts_0) c6)) fun a E=>av E rfl fun a E=>wpList_nil ?_
     cases hF
     exact qap ⟨(ok.pk 2 [] rfl (by decide)),E.keep [0,1,2,7],(InR.inc r5 (qae hparts_0) c6)⟩
    refine sg<|aw E rfl fun a E=>wp_ret<|qam<|qam<|qaf ?_
    cases hF
    exact so (sr ⟨rfl,⟨ok.drop.drop,E.d,rz E rfl⟩⟩)
   rintro ⟨v194,v195⟩ a w r ⟨c196,M197,ok,E,h198,r199⟩ hF
   replace hF:qdJ (qa7 N) N depth_1 counted_2 x7 v194 v195 = some r:=hF
   unfold qdJ at hF
   refine wp_seq<|sg<|mv E rfl fun a E=>fk E ok qaR qaZ rfl 1 rfl rfl fun a E=>lv E ok (qax qbe h21 rfl) fun a E=>lw E (qaJ rfl rfl) fun a E=>wn<|cg E rfl hF (fun c200 hF=>?_) fun c200 hF=>?_
   ·refine wp_exit<|qaO ?_
    cases hF
    exact so (sl ⟨rfl,⟨c196,M197,ok,E.keep [0,1,2,7,9],h198⟩⟩)
   refine wp_skip<|qaa<|wp_seq<|wp_block<|sg<|fk E ok qaR qaZ rfl 1 rfl rfl fun a E=>mv E rfl fun a E=>?_
   obtain ⟨x201,e202,hF⟩:=bnd hF
   obtain ⟨b203,o204,es205,hl206,rr207,at208,yy209⟩:=ia E 123 124 qbe h21 e202
   obtain ⟨c211,rfl,l210,h212⟩:=rr207
   refine lv E ok (yy209 _ _) fun a E=>lv E ok (qaj (cs:=[vs x201.Key,c211]) qg1 rfl rfl (qac.ro at208)) fun a E=>qbh E ok qf1 rfl rfl fun b213 a w E ok=>qai E ok 0 rfl rfl rfl qg3 rfl rfl ⟨rfl,(qcW h212),trivial⟩ rfl rfl fun w ok=>wn<|wp_seq<|wp_seq<|qdB (by kernel_rfl) (by kernel_rfl) ok<|qv E (qad qar rfl) fun a E=>qv E (qak qat rfl (qac.own 2 rfl rfl)) fun a E=>qv E (qad qcr rfl) fun a E=>qv E (qak qah rfl (qac.own 0 rfl rfl)) fun a E=>bd hF fun r214 e215 hF=>qcv E qno rfl (fun w ok=>(qfh N x7.Kind r16 x201.Key l210 e215 hG ok).mono (fun _ _ h=>h)) rfl rfl fun a E=>qv E (qaz rfl) fun a E=>qv E (qal rfl) fun a E=>bu E 133 hF (fun c216 hF E=>?_) fun c216 hF E=>?_
   ·refine qs E fun a E=>qs E fun a E=>qs E fun a E=>qs E fun a E=>qv E (qco rfl rfl) fun a E=>qv E (qal rfl) fun a E=>qs E fun a E=>qs E fun a E=>qs E fun a E=>qs E fun a E=>qs E fun a E=>qs E fun a E=>qs E fun a E=>qs E fun a E=>qs E fun a E=>qs E fun a E=>?_
    refine qs E fun a E=>qs E fun a E=>qv E (qco rfl rfl) fun a E=>wpQuiet_nil ?_
    intro w ok
    refine qaa<|c_if E rfl (fun _=>?_) (fun h=>by cases h)
    refine sg<|aw E rfl fun a E=>wp_ret<|qaf<|qam<|qaf ?_
    cases hF
    exact so (sr ⟨rfl,⟨ok.drop.drop.drop,E.d,rz E rfl⟩⟩)
   refine qv E (qal rfl) fun a E=>qv E (qad qcr rfl) fun a E=>qv E (qak qah rfl (qac.own 0 rfl rfl)) fun a E=>bd hF fun r222 e223 hF=>qcv E (v:=(vb r222)) qiq rfl (fun w ok=>?_) rfl rfl fun a E=>?_
   ·obtain ⟨m217,hle219,ok218,hfz220⟩:=(ok.frs 1 rfl).freeze
    have h221:=ORow.froz mS h198 hle219 hfz220 (by decide)
    refine Calls.mono (qc0 N _ v194 h221 x201.Key l210 e223 hG ok218) fun _ _ hz=>?_
    obtain ⟨hz1,okz⟩:=hz
    exact ⟨hz1,(Ok.thawAt 1 rfl ok hle219 hfz220 okz)⟩
   refine qv E (qcq rfl rfl) fun a E=>qv E (qal rfl) fun a E=>qaW r222 (fun c224=>?_) (fun c224=>?_)
   ·have hF:=qaU c224 hF
    have E:=E.upd 139 c224 rfl
    refine qs E fun a E=>qs E fun a E=>qs E fun a E=>qs E fun a E=>qs E fun a E=>qs E fun a E=>qs E fun a E=>qs E fun a E=>qs E fun a E=>qs E fun a E=>qs E fun a E=>qs E fun a E=>qv E (qco rfl rfl) fun a E=>wpQuiet_nil ?_
    intro w ok
    refine qaa<|c_if E rfl (fun _=>?_) (fun h=>by cases h)
    refine sg<|aw E rfl fun a E=>wp_ret<|qaf<|qam<|qaf ?_
    cases hF
    exact so (sr ⟨rfl,⟨ok.drop.drop.drop,E.d,rz E rfl⟩⟩)
   have hF:=qaV c224 hF
   have E:=E.upd 139 c224 rfl
   refine qv E (qad qdP rfl) fun a E=>qv E (qak qa2 rfl (qac.own 0 rfl rfl)) fun a E=>qv E (qal rfl) fun a E=>qv E (qbb rfl rfl) fun a E=>qv E (qal rfl) fun a E=>qv E (qal rfl) fun a E=>qaW counted_2 (fun c225=>?_) (fun c225=>?_)
   ·have hF:=qaU c225 hF
    have E:=E.upd 145 c225 rfl
    refine qs E fun a E=>qs E fun a E=>qs E fun a E=>qv E (qco rfl rfl) fun a E=>bd hF fun r226 e227 hF=>qcv E qf7 rfl (fun w ok=>(ih_calqueref26_formed _ x201.Parts h212 (IntKind.wrap .i64 (depth_1 + 1)) (InR.wrap _ _) true e227 hG ok).mono (fun _ _ h=>h)) rfl rfl fun a E=>qv E (qaz rfl) fun a E=>qv E (qcq rfl rfl) fun a E=>wpQuiet_nil ?_
    intro w ok
    refine qaa<|cf E rfl hF (fun c228 hF=>?_) fun c228 hF=>?_
    ·refine sg<|aw E rfl fun a E=>wp_ret<|qaf<|qam<|qaf ?_
     cases hF
     exact so (sr ⟨rfl,⟨ok.drop.drop.drop,E.d,rz E rfl⟩⟩)
    refine wp_skip<|qaa<|qab<|mv E rfl fun a E=>fk E ok qcr qah rfl 0 rfl rfl fun a E=>qcy (R:=pS) (xo:=[.tmp 155]) (xs:=([x201.Key]:List (List UInt8))) E ok qbx qb0 rfl ⟨⟨_,rfl,rfl,(qc9 l210)⟩,trivial⟩ rfl rfl rfl rfl fun c229 M230 a w E ok h231=>bd hF fun l232 e233 hF=>qec (R:=pS) E ok 2 mS qbx Tryz.underlying25 rfl h198 (qb5.ofRow h231 0 rfl ok) e233 ⟨_,qb0,rfl⟩ rfl rfl rfl rfl fun c234 M235 a w E ok h236=>av E rfl fun a E=>wpList_nil<|qag<|qaa<|qab<|mv E rfl fun a E=>lw E (qau rfl rfl (InR.inc r199 (qae h21) c200)) fun a E=>av E rfl fun a E=>wpList_nil ?_
    cases hF
    exact qap ⟨c234,M235,(ok.pk 4 [2,3] rfl (by decide)),E.keep [0,1,2,7,8,9,10],h236,(InR.inc r199 (qae h21) c200)⟩
   have hF:=qaV c225 hF
   have E:=E.upd 145 c225 rfl
   refine qv E (qad qar rfl) fun a E=>qv E (qak qat rfl (qac.own 2 rfl rfl)) fun a E=>bd hF fun r237 e238 hF=>qcv E qm6 rfl (fun w ok=>(qeE N x7.Kind r16 e238 hG ok).mono (fun _ _ h=>h)) rfl rfl fun a E=>qv E (qcq rfl rfl) fun a E=>bd hF fun r239 e240 hF=>qcv E qf7 rfl (fun w ok=>(ih_calqueref26_formed _ x201.Parts h212 (IntKind.wrap .i64 (depth_1 + 1)) (InR.wrap _ _) r237 e240 hG ok).mono (fun _ _ h=>h)) rfl rfl fun a E=>qv E (qaz rfl) fun a E=>qv E (qcq rfl rfl) fun a E=>wpQuiet_nil ?_
   intro w ok
   refine qaa<|cf E rfl hF (fun c241 hF=>?_) fun c241 hF=>?_
   ·refine sg<|aw E rfl fun a E=>wp_ret<|qaf<|qam<|qaf ?_
    cases hF
    exact so (sr ⟨rfl,⟨ok.drop.drop.drop,E.d,rz E rfl⟩⟩)
   refine wp_skip<|qaa<|qab<|mv E rfl fun a E=>fk E ok qcr qah rfl 0 rfl rfl fun a E=>qcy (R:=pS) (xo:=[.tmp 155]) (xs:=([x201.Key]:List (List UInt8))) E ok qbx qb0 rfl ⟨⟨_,rfl,rfl,(qc9 l210)⟩,trivial⟩ rfl rfl rfl rfl fun c242 M243 a w E ok h244=>bd hF fun l245 e246 hF=>qec (R:=pS) E ok 2 mS qbx Tryz.underlying25 rfl h198 (qb5.ofRow h244 0 rfl ok) e246 ⟨_,qb0,rfl⟩ rfl rfl rfl rfl fun c247 M248 a w E ok h249=>av E rfl fun a E=>wpList_nil<|qag<|qaa<|qab<|mv E rfl fun a E=>lw E (qau rfl rfl (InR.inc r199 (qae h21) c200)) fun a E=>av E rfl fun a E=>wpList_nil ?_
   cases hF
   exact qap ⟨c247,M248,(ok.pk 4 [2,3] rfl (by decide)),E.keep [0,1,2,7,8,9,10],h249,(InR.inc r199 (qae h21) c200)⟩
 refine mz E rfl rfl fun a E=>lw E (qkA rfl rfl (InR.dec r5 (ir 0) c25)) fun a E=>?_
 obtain ⟨x27,e28,hF⟩:=bnd hF
 obtain ⟨b29,o30,es31,hl32,rr33,at34,yy35⟩:=ia E 30 32 qbj hparts_0 e28
 obtain ⟨c40,c42,rfl,r36,l37,l38,l39,h41,h43⟩:=(qaL.1 rr33)
 refine lv E ok (yy35 _ _) fun a E=>fv E qar rfl fun a E=>lv E ok (qak qat rfl (qac.ro (At.sub 0 1 at34))) fun a E=>lw E (qao rfl rfl) fun a E=>pt E rfl rfl fun a E=>wn<|cf E rfl hF (fun c44 hF=>?_) fun c44 hF=>?_
 ·refine sg<|aw E rfl fun a E=>wp_ret<|qaf<|qam<|qaf ?_
  cases hF
  exact so (sr ⟨rfl,⟨ok.drop,E.d,rz E rfl⟩⟩)
 refine wp_skip<|qaa<|wp_block<|sg<|fk E ok qar qat rfl 0 rfl rfl fun a E=>lw E (qao rfl rfl) fun a E=>aw E rfl fun a E=>cf E rfl hF (fun c45 hF=>?_) fun c45 hF=>?_
 ·as_aux_lemma =>
   refine wp_seq<|bd hF fun o46 hJ hF=>qaK (Q':=fun e a w=>e = .normal ∧ Ok u m0 ([(b24,oc 63 [vi x7.Kind,vs x7.Text,vs x7.Name,vs x7.Style,c20,c22])] :: S) w ∧ Env 166 a [(0,vparts_0),(1,vi depth_1),(2,vb counted_2),(7,vi v4),(74,vb o46)]) ?_ ?_
   rotate_left
   ·intro e a w hO
    obtain ⟨rfl,ok,E⟩:=hO
    refine qaa<|cg E rfl hF (fun c56 hF=>?_) fun c56 hF=>?_
    ·refine wp_skip<|qag<|qag<|qaa<|qab<|mv E rfl fun a E=>lw E (qau rfl rfl (InR.inc r5 (qae hparts_0) c6)) fun a E=>av E rfl fun a E=>wpList_nil ?_
     cases hF
     exact qap ⟨(ok.pk 1 [] rfl (by decide)),E.keep [0,1,2,7],(InR.inc r5 (qae hparts_0) c6)⟩
    refine sg<|aw E rfl fun a E=>wp_ret<|qam<|qam<|qaf ?_
    cases hF
    exact so (sr ⟨rfl,⟨ok.drop,E.d,rz E rfl⟩⟩)
   have hF:=hJ
   refine qab<|mv E rfl fun a E=>lw E (qa9 rfl rfl) fun a E=>mv E rfl fun a E=>bu E 44 hF (fun c47 hF E=>?_) fun c47 hF E=>?_
   ·refine lsz E fun a E=>pt E rfl rfl fun a E=>mv E rfl fun a E=>lsq E fun a E=>ls E fun a E=>pt E rfl rfl fun a E=>mv E rfl fun a E=>lsq E fun a E=>ls E fun a E=>pt E rfl rfl fun a E=>mv E rfl fun a E=>?_
    refine lsz E fun a E=>pt E rfl rfl fun a E=>mv E rfl fun a E=>lsz E fun a E=>lsq E fun a E=>ls E fun a E=>pt E rfl rfl fun a E=>wpList_nil ?_
    cases hF
    exact ⟨rfl,⟨ok,E.keep [0,1,2,7,74]⟩⟩
   refine fk E ok qaw qah rfl 0 rfl rfl fun a E=>bd hF fun r48 e49 hF=>lc E qf9 rfl (qbA N x7.Name l18 e49 hG ok) fun w ok a E=>lw E (qaz rfl) fun a E=>pf E rfl rfl fun a E=>mv E rfl fun a E=>bu E 50 hF (fun c50 hF E=>?_) fun c50 hF E=>?_
   ·refine lsq E fun a E=>ls E fun a E=>pt E rfl rfl fun a E=>mv E rfl fun a E=>lsq E fun a E=>ls E fun a E=>pt E rfl rfl fun a E=>mv E rfl fun a E=>lsz E fun a E=>pt E rfl rfl fun a E=>mv E rfl fun a E=>?_
    refine lsz E fun a E=>lsq E fun a E=>ls E fun a E=>pt E rfl rfl fun a E=>wpList_nil ?_
    cases hF
    exact ⟨rfl,⟨ok,E.keep [0,1,2,7,74]⟩⟩
   refine fk E ok qbR qah rfl 0 rfl rfl fun a E=>lw E (qbB rfl rfl) fun a E=>pf E rfl rfl fun a E=>mv E rfl fun a E=>bu E 55 hF (fun c51 hF E=>?_) fun c51 hF E=>?_
   ·refine lsq E fun a E=>ls E fun a E=>pt E rfl rfl fun a E=>mv E rfl fun a E=>lsz E fun a E=>pt E rfl rfl fun a E=>mv E rfl fun a E=>lsz E fun a E=>ls E fun a E=>?_
    refine lsq E fun a E=>pt E rfl rfl fun a E=>wpList_nil ?_
    cases hF
    exact ⟨rfl,⟨ok,E.keep [0,1,2,7,74]⟩⟩
   refine fk E ok qaT qah rfl 0 rfl rfl fun a E=>lw E (qbB rfl rfl) fun a E=>pf E rfl rfl fun a E=>mv E rfl fun a E=>bu E 60 hF (fun c52 hF E=>?_) fun c52 hF E=>?_
   ·refine lsz E fun a E=>pt E rfl rfl fun a E=>mv E rfl fun a E=>lsz E fun a E=>lsq E fun a E=>ls E fun a E=>pt E rfl rfl fun a E=>wpList_nil ?_
    cases hF
    exact ⟨rfl,⟨ok,E.keep [0,1,2,7,74]⟩⟩
   refine fk E ok qaR qaZ rfl 0 rfl rfl fun a E=>lv E ok (qax qbe h21 rfl) fun a E=>lw E (qa9 rfl rfl) fun a E=>pf E rfl rfl fun a E=>mv E rfl fun a E=>bu E 66 hF (fun c53 hF E=>?_) fun c53 hF E=>?_
   ·refine lsz E fun a E=>lsq E fun a E=>ls E fun a E=>pt E rfl rfl fun a E=>wpList_nil ?_
    cases hF
    exact ⟨rfl,⟨ok,E.keep [0,1,2,7,74]⟩⟩
   refine fk E ok qbs qa2 rfl 0 rfl rfl fun a E=>mv E rfl fun a E=>lw E (qbb rfl rfl) fun a E=>mv E rfl fun a E=>bd hF fun r54 e55 hF=>lc E qf7 rfl (ih_calqueref26_formed _ x7.Parts h23 (IntKind.wrap .i64 (depth_1 + 1)) (InR.wrap _ _) counted_2 e55 hG ok) fun w ok a E=>lw E (qaz rfl) fun a E=>pf E rfl rfl fun a E=>wpList_nil ?_
   cases hF
   exact ⟨rfl,⟨ok,E.keep [0,1,2,7,74]⟩⟩
 refine sg<|fk E ok qar qat rfl 0 rfl rfl fun a E=>bd hF fun r57 e58 hF=>lc E qjZ rfl (qcJ N x7.Kind r16 e58 hG ok) fun w ok a E=>aw E rfl fun a E=>cg E rfl hF (fun c59 hF=>?_) fun c59 hF=>?_
 ·refine sg<|lv E ok (qaj (cs:=[vi x7.Kind,vs x7.Text,vs x7.Name,vs x7.Style,c20,c22]) qep rfl rfl (qac.own 0 rfl rfl)) fun a E=>mv E rfl fun a E=>bd hF fun r154 e155 hF=>lc E qm9 rfl (qeX N _ x7 (qaL.2 ⟨_,_,rfl,r16,l17,l18,l19,h21,h23⟩) counted_2 e155 hG ok) fun w ok a E=>lw E (qaz rfl) fun a E=>aw E rfl fun a E=>cg E rfl hF (fun c156 hF=>?_) fun c156 hF=>?_
  ·refine wp_skip<|qag<|qag<|qaa<|qab<|mv E rfl fun a E=>lw E (qau rfl rfl (InR.inc r5 (qae hparts_0) c6)) fun a E=>av E rfl fun a E=>wpList_nil ?_
   cases hF
   exact qap ⟨(ok.pk 1 [] rfl (by decide)),E.keep [0,1,2,7],(InR.inc r5 (qae hparts_0) c6)⟩
  refine sg<|aw E rfl fun a E=>wp_ret<|qam<|qam<|qaf ?_
  cases hF
  exact so (sr ⟨rfl,⟨ok.drop,E.d,rz E rfl⟩⟩)
 refine wp_seq<|wp_seq<|bd hF fun o60 hJ hF=>qaK (Q':=fun e a w=>e = .normal ∧ Ok u m0 ([(b24,oc 63 [vi x7.Kind,vs x7.Text,vs x7.Name,vs x7.Style,c20,c22])] :: S) w ∧ Env 166 a [(0,vparts_0),(1,vi depth_1),(2,vb counted_2),(7,vi v4),(8,vp b24),(114,vb o60)]) ?_ ?_
 ·as_aux_lemma =>
   have hF:=hJ
   refine qab<|mv E rfl fun a E=>lw E (qa9 rfl rfl) fun a E=>mv E rfl fun a E=>bu E 81 hF (fun c61 hF E=>?_) fun c61 hF E=>?_
   ·refine lsz E fun a E=>pt E rfl rfl fun a E=>mv E rfl fun a E=>lsq E fun a E=>ls E fun a E=>pt E rfl rfl fun a E=>mv E rfl fun a E=>lsq E fun a E=>ls E fun a E=>pt E rfl rfl fun a E=>mv E rfl fun a E=>?_
    refine lsz E fun a E=>pt E rfl rfl fun a E=>mv E rfl fun a E=>lsz E fun a E=>pt E rfl rfl fun a E=>mv E rfl fun a E=>lsz E fun a E=>?_
    refine pt E rfl rfl fun a E=>wpList_nil ?_
    cases hF
    exact ⟨rfl,⟨ok,E.keep [0,1,2,7,8,114]⟩⟩
   refine fk E ok qaw qah rfl 0 rfl rfl fun a E=>bd hF fun r62 e63 hF=>lc E qf9 rfl (qbA N x7.Name l18 e63 hG ok) fun w ok a E=>lw E (qaz rfl) fun a E=>pf E rfl rfl fun a E=>mv E rfl fun a E=>bu E 87 hF (fun c64 hF E=>?_) fun c64 hF E=>?_
   ·refine lsq E fun a E=>ls E fun a E=>pt E rfl rfl fun a E=>mv E rfl fun a E=>lsq E fun a E=>ls E fun a E=>pt E rfl rfl fun a E=>mv E rfl fun a E=>lsz E fun a E=>pt E rfl rfl fun a E=>mv E rfl fun a E=>?_
    refine lsz E fun a E=>pt E rfl rfl fun a E=>mv E rfl fun a E=>lsz E fun a E=>pt E rfl rfl fun a E=>wpList_nil ?_
    cases hF
    exact ⟨rfl,⟨ok,E.keep [0,1,2,7,8,114]⟩⟩
   refine fk E ok qbR qah rfl 0 rfl rfl fun a E=>lw E (qbB rfl rfl) fun a E=>pf E rfl rfl fun a E=>mv E rfl fun a E=>bu E 92 hF (fun c65 hF E=>?_) fun c65 hF E=>?_
   ·refine lsq E fun a E=>ls E fun a E=>pt E rfl rfl fun a E=>mv E rfl fun a E=>lsz E fun a E=>pt E rfl rfl fun a E=>mv E rfl fun a E=>lsz E fun a E=>pt E rfl rfl fun a E=>?_
    refine mv E rfl fun a E=>lsz E fun a E=>pt E rfl rfl fun a E=>wpList_nil ?_
    cases hF
    exact ⟨rfl,⟨ok,E.keep [0,1,2,7,8,114]⟩⟩
   refine fk E ok qaT qah rfl 0 rfl rfl fun a E=>lw E (qbB rfl rfl) fun a E=>pf E rfl rfl fun a E=>mv E rfl fun a E=>bu E 97 hF (fun c66 hF E=>?_) fun c66 hF E=>?_
   ·refine lsz E fun a E=>pt E rfl rfl fun a E=>mv E rfl fun a E=>lsz E fun a E=>pt E rfl rfl fun a E=>mv E rfl fun a E=>lsz E fun a E=>?_
    refine pt E rfl rfl fun a E=>wpList_nil ?_
    cases hF
    exact ⟨rfl,⟨ok,E.keep [0,1,2,7,8,114]⟩⟩
   refine fk E ok qbs qa2 rfl 0 rfl rfl fun a E=>lv E ok (qax qbj h23 rfl) fun a E=>lw E (qa9 rfl rfl) fun a E=>pf E rfl rfl fun a E=>mv E rfl fun a E=>bu E 103 hF (fun c67 hF E=>?_) fun c67 hF E=>?_
   ·refine lsz E fun a E=>pt E rfl rfl fun a E=>mv E rfl fun a E=>lsz E fun a E=>pt E rfl rfl fun a E=>wpList_nil ?_
    cases hF
    exact ⟨rfl,⟨ok,E.keep [0,1,2,7,8,114]⟩⟩
   refine fk E ok qaR qaZ rfl 0 rfl rfl fun a E=>lv E ok (qax qbe h21 rfl) fun a E=>lw E (qaJ rfl rfl) fun a E=>pf E rfl rfl fun a E=>mv E rfl fun a E=>bu E 109 hF (fun c68 hF E=>?_) fun c68 hF E=>?_
   ·refine lsz E fun a E=>pt E rfl rfl fun a E=>wpList_nil ?_
    cases hF
    exact ⟨rfl,⟨ok,E.keep [0,1,2,7,8,114]⟩⟩
   refine fk E ok qaR qaZ rfl 0 rfl rfl fun a E=>lv E ok (qax qbe h21 rfl) fun a E=>lw E (qa9 rfl rfl) fun a E=>pf E rfl rfl fun a E=>wpList_nil ?_
   cases hF
   exact ⟨rfl,⟨ok,E.keep [0,1,2,7,8,114]⟩⟩
 intro e a w hO
 obtain ⟨rfl,ok,E⟩:=hO
 refine qaa<|cf E rfl hF (fun c69 hF=>?_) fun c69 hF=>?_
 ·refine sg<|aw E rfl fun a E=>wp_ret<|qaf<|qam<|qam<|qaf ?_
  cases hF
  exact so (sr ⟨rfl,⟨ok.drop,E.d,rz E rfl⟩⟩)
 refine wp_skip<|qaa<|sg<|aw E rfl fun a E=>wp_seq<|sg<|aw E rfl fun a E=>wp_block ?_
 obtain ⟨M75,ok,h76⟩:=qgr (e:=9) (k:=1) (R:=pS) ok
 refine bd hF fun o77 hL hF=>qaX _ (fun (s:(List (List UInt8)) × Int) a w=>∃ c78 M79,Ok u m0 (M79 :: [(b24,oc 63 [vi x7.Kind,vs x7.Text,vs x7.Name,vs x7.Style,c20,c22])] :: S) w ∧ Env 166 a [(0,vparts_0),(1,vi depth_1),(2,vb counted_2),(7,vi v4),(8,vp b24),(9,c78),(10,vi s.2)] ∧ ORow 9 1 pS m0 c78 s.1 M79 ∧ InR .i64 s.2) (fun (b:(((List (List UInt8))) ⊕ Bool)) e a w=>(Sum.elim (fun b149=>e = (.exit 3) ∧ ∃ c150 M151,Ok u m0 (M151 :: [(b24,oc 63 [vi x7.Kind,vs x7.Text,vs x7.Name,vs x7.Style,c20,c22])] :: S) w ∧ Env 166 a [(0,vparts_0),(1,vi depth_1),(2,vb counted_2),(7,vi v4),(9,c150)] ∧ ORow 9 1 pS m0 c150 b149 M151) (fun b153=>e = .ret ∧ qde u m0 S b153 a w)) b) ?_ ?_ N _ a w hL ⟨(Value.slice none 0 0),M75,ok,E.keep [0,1,2,7,8,9,10],h76,(ir 0)⟩
 rotate_left
 ·intro e a w _ hO
  rcases o77 with o77 | o77
  rotate_left
  ·have hF:=qj2 hF
   obtain ⟨rfl,hret⟩:=hO
   refine qam<|qaf<|qam<|qam<|qaf ?_
   cases hF
   exact so (sr ⟨rfl,hret⟩)
  have hF:=qcl hF
  obtain ⟨rfl,c138,M139,ok,E,h140⟩:=hO
  refine qba<|qaa<|sg<|mv E rfl fun a E=>?_
  obtain ⟨r146,e147,hF⟩:=bnd hF
  obtain ⟨m141,hle143,ok142,hfz144⟩:=(ok.frs 0 rfl).freeze
  have h145:=ORow.froz mS h140 hle143 hfz144 (by decide)
  refine qas E qiq rfl (qc0 N _ o77 h145 ([111,116,104,101,114]) (show ([111,116,104,101,114]:List UInt8).length ≤ LIMS by decide) e147 hG ok142) rfl rfl ?_
  rintro _ w ⟨rfl,okz⟩
  replace ok:=(Ok.thawAt 0 rfl ok hle143 hfz144 okz)
  refine ⟨_,rfl,fun a E=>?_⟩
  refine lw E (qaz rfl) fun a E=>wn<|cg E rfl hF (fun c148 hF=>?_) fun c148 hF=>?_
  ·refine wp_skip<|qag<|qag<|qaa<|qab<|mv E rfl fun a E=>lw E (qau rfl rfl (InR.inc r5 (qae hparts_0) c6)) fun a E=>av E rfl fun a E=>wpList_nil ?_
   cases hF
   exact qap ⟨(ok.pk 2 [] rfl (by decide)),E.keep [0,1,2,7],(InR.inc r5 (qae hparts_0) c6)⟩
  refine sg<|aw E rfl fun a E=>wp_ret<|qam<|qam<|qaf ?_
  cases hF
  exact so (sr ⟨rfl,⟨ok.drop.drop,E.d,rz E rfl⟩⟩)
 rintro ⟨v82,v83⟩ a w r ⟨c84,M85,ok,E,h86,r87⟩ hF
 replace hF:qbi (qa7 N) N depth_1 counted_2 x7 v82 v83 = some r:=hF
 unfold qbi at hF
 refine wp_seq<|sg<|mv E rfl fun a E=>fk E ok qaR qaZ rfl 1 rfl rfl fun a E=>lv E ok (qax qbe h21 rfl) fun a E=>lw E (qaJ rfl rfl) fun a E=>wn<|cg E rfl hF (fun c88 hF=>?_) fun c88 hF=>?_
 ·refine wp_exit<|qaO ?_
  cases hF
  exact so (sl ⟨rfl,⟨c84,M85,ok,E.keep [0,1,2,7,9],h86⟩⟩)
 refine wp_skip<|qaa<|wp_seq<|wp_block<|sg<|fk E ok qaR qaZ rfl 1 rfl rfl fun a E=>mv E rfl fun a E=>?_
 obtain ⟨x89,e90,hF⟩:=bnd hF
 obtain ⟨b91,o92,es93,hl94,rr95,at96,yy97⟩:=ia E 123 124 qbe h21 e90
 obtain ⟨c99,rfl,l98,h100⟩:=rr95
 refine lv E ok (yy97 _ _) fun a E=>lv E ok (qaj (cs:=[vs x89.Key,c99]) qg1 rfl rfl (qac.ro at96)) fun a E=>qbh E ok qf1 rfl rfl fun b101 a w E ok=>qai E ok 0 rfl rfl rfl qg3 rfl rfl ⟨rfl,(qcW h100),trivial⟩ rfl rfl fun w ok=>wn<|wp_seq<|wp_seq<|qdB (by kernel_rfl) (by kernel_rfl) ok<|qv E (qad qar rfl) fun a E=>qv E (qak qat rfl (qac.own 2 rfl rfl)) fun a E=>qv E (qad qcr rfl) fun a E=>qv E (qak qah rfl (qac.own 0 rfl rfl)) fun a E=>bd hF fun r102 e103 hF=>qcv E qno rfl (fun w ok=>(qfh N x7.Kind r16 x89.Key l98 e103 hG ok).mono (fun _ _ h=>h)) rfl rfl fun a E=>qv E (qaz rfl) fun a E=>qv E (qal rfl) fun a E=>bu E 133 hF (fun c104 hF E=>?_) fun c104 hF E=>?_
 ·refine qs E fun a E=>qs E fun a E=>qs E fun a E=>qs E fun a E=>qv E (qco rfl rfl) fun a E=>qv E (qal rfl) fun a E=>qs E fun a E=>qs E fun a E=>qs E fun a E=>qs E fun a E=>qs E fun a E=>qs E fun a E=>qs E fun a E=>qs E fun a E=>qs E fun a E=>qs E fun a E=>?_
  refine qs E fun a E=>qs E fun a E=>qv E (qco rfl rfl) fun a E=>wpQuiet_nil ?_
  intro w ok
  refine qaa<|c_if E rfl (fun _=>?_) (fun h=>by cases h)
  refine sg<|aw E rfl fun a E=>wp_ret<|qaf<|qam<|qaf ?_
  cases hF
  exact so (sr ⟨rfl,⟨ok.drop.drop.drop,E.d,rz E rfl⟩⟩)
 refine qv E (qal rfl) fun a E=>qv E (qad qcr rfl) fun a E=>qv E (qak qah rfl (qac.own 0 rfl rfl)) fun a E=>bd hF fun r110 e111 hF=>qcv E (v:=(vb r110)) qiq rfl (fun w ok=>?_) rfl rfl fun a E=>?_
 ·obtain ⟨m105,hle107,ok106,hfz108⟩:=(ok.frs 1 rfl).freeze
  have h109:=ORow.froz mS h86 hle107 hfz108 (by decide)
  refine Calls.mono (qc0 N _ v82 h109 x89.Key l98 e111 hG ok106) fun _ _ hz=>?_
  obtain ⟨hz1,okz⟩:=hz
  exact ⟨hz1,(Ok.thawAt 1 rfl ok hle107 hfz108 okz)⟩
 refine qv E (qcq rfl rfl) fun a E=>qv E (qal rfl) fun a E=>qaW r110 (fun c112=>?_) (fun c112=>?_)
 ·have hF:=qaU c112 hF
  have E:=E.upd 139 c112 rfl
  refine qs E fun a E=>qs E fun a E=>qs E fun a E=>qs E fun a E=>qs E fun a E=>qs E fun a E=>qs E fun a E=>qs E fun a E=>qs E fun a E=>qs E fun a E=>qs E fun a E=>qs E fun a E=>qv E (qco rfl rfl) fun a E=>wpQuiet_nil ?_
  intro w ok
  refine qaa<|c_if E rfl (fun _=>?_) (fun h=>by cases h)
  refine sg<|aw E rfl fun a E=>wp_ret<|qaf<|qam<|qaf ?_
  cases hF
  exact so (sr ⟨rfl,⟨ok.drop.drop.drop,E.d,rz E rfl⟩⟩)
 have hF:=qaV c112 hF
 have E:=E.upd 139 c112 rfl
 refine qv E (qad qdP rfl) fun a E=>qv E (qak qa2 rfl (qac.own 0 rfl rfl)) fun a E=>qv E (qal rfl) fun a E=>qv E (qbb rfl rfl) fun a E=>qv E (qal rfl) fun a E=>qv E (qal rfl) fun a E=>qaW counted_2 (fun c113=>?_) (fun c113=>?_)
 ·have hF:=qaU c113 hF
  have E:=E.upd 145 c113 rfl
  refine qs E fun a E=>qs E fun a E=>qs E fun a E=>qv E (qco rfl rfl) fun a E=>bd hF fun r114 e115 hF=>qcv E qf7 rfl (fun w ok=>(ih_calqueref26_formed _ x89.Parts h100 (IntKind.wrap .i64 (depth_1 + 1)) (InR.wrap _ _) true e115 hG ok).mono (fun _ _ h=>h)) rfl rfl fun a E=>qv E (qaz rfl) fun a E=>qv E (qcq rfl rfl) fun a E=>wpQuiet_nil ?_
  intro w ok
  refine qaa<|cf E rfl hF (fun c116 hF=>?_) fun c116 hF=>?_
  ·refine sg<|aw E rfl fun a E=>wp_ret<|qaf<|qam<|qaf ?_
   cases hF
   exact so (sr ⟨rfl,⟨ok.drop.drop.drop,E.d,rz E rfl⟩⟩)
  refine wp_skip<|qaa<|qab<|mv E rfl fun a E=>fk E ok qcr qah rfl 0 rfl rfl fun a E=>qcy (R:=pS) (xo:=[.tmp 155]) (xs:=([x89.Key]:List (List UInt8))) E ok qbx qb0 rfl ⟨⟨_,rfl,rfl,(qc9 l98)⟩,trivial⟩ rfl rfl rfl rfl fun c117 M118 a w E ok h119=>bd hF fun l120 e121 hF=>qec (R:=pS) E ok 2 mS qbx Tryz.underlying25 rfl h86 (qb5.ofRow h119 0 rfl ok) e121 ⟨_,qb0,rfl⟩ rfl rfl rfl rfl fun c122 M123 a w E ok h124=>av E rfl fun a E=>wpList_nil<|qag<|qaa<|qab<|mv E rfl fun a E=>lw E (qau rfl rfl (InR.inc r87 (qae h21) c88)) fun a E=>av E rfl fun a E=>wpList_nil ?_
  cases hF
  exact qap ⟨c122,M123,(ok.pk 4 [2,3] rfl (by decide)),E.keep [0,1,2,7,8,9,10],h124,(InR.inc r87 (qae h21) c88)⟩
 have hF:=qaV c113 hF
 have E:=E.upd 145 c113 rfl
 refine qv E (qad qar rfl) fun a E=>qv E (qak qat rfl (qac.own 2 rfl rfl)) fun a E=>bd hF fun r125 e126 hF=>qcv E qm6 rfl (fun w ok=>(qeE N x7.Kind r16 e126 hG ok).mono (fun _ _ h=>h)) rfl rfl fun a E=>qv E (qcq rfl rfl) fun a E=>bd hF fun r127 e128 hF=>qcv E qf7 rfl (fun w ok=>(ih_calqueref26_formed _ x89.Parts h100 (IntKind.wrap .i64 (depth_1 + 1)) (InR.wrap _ _) r125 e128 hG ok).mono (fun _ _ h=>h)) rfl rfl fun a E=>qv E (qaz rfl) fun a E=>qv E (qcq rfl rfl) fun a E=>wpQuiet_nil ?_
 intro w ok
 refine qaa<|cf E rfl hF (fun c129 hF=>?_) fun c129 hF=>?_
 ·refine sg<|aw E rfl fun a E=>wp_ret<|qaf<|qam<|qaf ?_
  cases hF
  exact so (sr ⟨rfl,⟨ok.drop.drop.drop,E.d,rz E rfl⟩⟩)
 refine wp_skip<|qaa<|qab<|mv E rfl fun a E=>fk E ok qcr qah rfl 0 rfl rfl fun a E=>qcy (R:=pS) (xo:=[.tmp 155]) (xs:=([x89.Key]:List (List UInt8))) E ok qbx qb0 rfl ⟨⟨_,rfl,rfl,(qc9 l98)⟩,trivial⟩ rfl rfl rfl rfl fun c130 M131 a w E ok h132=>bd hF fun l133 e134 hF=>qec (R:=pS) E ok 2 mS qbx Tryz.underlying25 rfl h86 (qb5.ofRow h132 0 rfl ok) e134 ⟨_,qb0,rfl⟩ rfl rfl rfl rfl fun c135 M136 a w E ok h137=>av E rfl fun a E=>wpList_nil<|qag<|qaa<|qab<|mv E rfl fun a E=>lw E (qau rfl rfl (InR.inc r87 (qae h21) c88)) fun a E=>av E rfl fun a E=>wpList_nil ?_
 cases hF
 exact qap ⟨c135,M136,(ok.pk 4 [2,3] rfl (by decide)),E.keep [0,1,2,7,8,9,10],h137,(InR.inc r87 (qae h21) c88)⟩
theorem qhd:qdZ 0:=by
 intro u m0 S w vparts_0 parts_0 hparts_0 depth_1 rdepth_1 counted_2 r hF hG ok
 replace hF:none = some r:=hF
 cases hF
theorem qgx (N:Nat):qdZ N:=by
 induction N with
 | zero=>exact qhd
 | succ N h=>exact qhf N h
theorem qiw {u:World} {m0:Mem} {S:Segs} {w:World} (N:Nat) (vparts_0:Value) (parts_0:List (Part)) (hparts_0:(pL 6 qbD) m0 [vparts_0] parts_0) (depth_1:Int) (rdepth_1:InR .i64 depth_1) (counted_2:Bool) {r:Bool} (hF:qa7 N parts_0 depth_1 counted_2 = some r) (hG:Glob u) (ok:Ok u m0 S w) :
 Calls Tryz.prog 17 [vparts_0,vi depth_1,vb counted_2].toArray w fun e w'=>(e = .returned (.bool r) ∧ Ok u m0 S w'):=(qgx N) vparts_0 parts_0 hparts_0 depth_1 rdepth_1 counted_2 hF hG ok
end Go.Proofs.YtmghnmfefpeelaaGreatDoor
