/- Texts of this proof, put together by pack.py: what its declarations name. -/
import Derived.Test.YtllnjbnknjpbjaaGreatDoorPkKo2
import Derived.Test.YtllnjbnknjpbjaaGreatDoorCards
import Derived.Test.YtllnjbnknjpbjaaGreatDoorChecked
import Derived.Test.YtllnjbnknjpbjaaGreatDoorProg
import Derived.Test.YtllnjbnknjpbjaaGreatDoorRows
import Derived.Test.YtllnjbnknjpbjaaGreatDoorTie
set_option linter.unusedVariables false
set_option linter.unusedSimpArgs false
namespace Go.Proofs.YtllnjbnknjpbjaaGreatDoor
open Go.X
variable {u:World} {m0:Mem} {S:Segs} {w:World}
set_option maxHeartbeats 4000000
set_option maxRecDepth 100000
def Tab (u:World):Prop:=Lib.TabIs Tryz.prog u "internal/strconv.uint64pow10" .u64 Lib.pow10Tab
def pIns:Rp Ins:=fun _ cs x=>cs = [.int .i64 x.Op,.int .i64 x.A,.int .i64 x.B,.string (bs x.S)] ∧ InR .i64 x.Op ∧ InR .i64 x.A ∧ InR .i64 x.B ∧ x.S.length ≤ LIMS
theorem mIns:Mono pIns:=⟨fun _ h=>by
 obtain ⟨e,h0,h1,h2,h3⟩:=h
 exact ⟨e,h0,h1,h2,h3⟩,fun h=>by
 obtain ⟨rfl,h0,h1,h2,h3⟩:=h
 exact ⟨rfl,rfl,rfl,rfl,trivial⟩⟩
def qlb:Rp Code:=fun m cs x=>∃ c0 c1,cs = [c0,c1] ∧ (pL 1 pS) m [c0] x.Names ∧ (pL 4 pIns) m [c1] x.Ins
theorem qh5:aggB Tryz.prog 28 2 = true:=by kernel_rfl
theorem qj5:aggB Tryz.prog 47 4 = true:=by kernel_rfl
theorem qqq:ArT Tryz.prog 129 3 7 1:=ArT.of (by kernel_rfl)
theorem qmw:ArT Tryz.prog 62 9 14 1:=ArT.of (by kernel_rfl)
theorem qoq:Tryz.prog.eqGuardType Tryz.prog.depth 47 = false:=by kernel_rfl
theorem qhM:qa4 Tryz.prog 28 0 0 = true:=by kernel_rfl
theorem qdZ:qa4 Tryz.prog 28 1 1 = true:=by kernel_rfl
theorem qlB:qa4 Tryz.prog 47 0 0 = true:=by kernel_rfl
theorem qhL:qa4 Tryz.prog 47 1 1 = true:=by kernel_rfl
theorem qnB:qa4 Tryz.prog 47 2 2 = true:=by kernel_rfl
theorem qnJ:qa4 Tryz.prog 47 3 3 = true:=by kernel_rfl
theorem qei:qa4 Tryz.prog 57 0 0 = true:=by kernel_rfl
theorem qrm:goB Tryz.prog 30 = true:=by kernel_rfl
theorem qmd:goB Tryz.prog 31 = true:=by kernel_rfl
theorem qfS:goB Tryz.prog 32 = true:=by kernel_rfl
theorem qrz:goB Tryz.prog 34 = true:=by kernel_rfl
theorem qlh:goB Tryz.prog 35 = true:=by kernel_rfl
theorem qk2:goB Tryz.prog 36 = true:=by kernel_rfl
theorem qrx:goB Tryz.prog 41 = true:=by kernel_rfl
theorem qrL:goB Tryz.prog 42 = true:=by kernel_rfl
theorem qml:goB Tryz.prog 50 = true:=by kernel_rfl
theorem qpM:goB Tryz.prog 52 = true:=by kernel_rfl
theorem qpI:goB Tryz.prog 53 = true:=by kernel_rfl
theorem qrj:goB Tryz.prog 69 = true:=by kernel_rfl
theorem qoP:∃ i,Tryz.prog.info? 25 = some i ∧ i.size = 1:=⟨_,rfl,by kernel_rfl⟩
theorem qqU:∃ i,Tryz.prog.info? 26 = some i ∧ i.size = 1:=⟨_,rfl,by kernel_rfl⟩
theorem qj1:∃ i,Tryz.prog.info? 28 = some i ∧ i.size = 2:=⟨_,rfl,by kernel_rfl⟩
theorem qgA:∃ i,Tryz.prog.info? 3 = some i ∧ i.size = 1:=⟨_,rfl,by kernel_rfl⟩
theorem qqP:∃ i,Tryz.prog.info? 47 = some i ∧ i.size = 4:=⟨_,rfl,by kernel_rfl⟩
theorem qqR:∃ i,Tryz.prog.info? 62 = some i ∧ i.size = 14:=⟨_,rfl,by kernel_rfl⟩
theorem qhg:oneB Tryz.prog 25 = true:=by kernel_rfl
theorem qdU:oneB Tryz.prog 26 = true:=by kernel_rfl
theorem qnV:qd2 Tryz.prog 110 = some [(0,3),(3,1),(4,1)]:=by kernel_rfl
theorem qlX:qd2 Tryz.prog 28 = some [(0,1),(1,1)]:=by kernel_rfl
theorem qc3:qd2 Tryz.prog 47 = some [(0,1),(1,1),(2,1),(3,1)]:=by kernel_rfl
theorem qok:qd2 Tryz.prog 57 = some [(0,2)]:=by kernel_rfl
theorem qcg:SlT Tryz.prog 25 9 1:=SlT.of (by kernel_rfl)
theorem qdz:SlT Tryz.prog 26 47 4:=SlT.of (by kernel_rfl)
theorem qg3:SlT Tryz.prog 74 3 1:=SlT.of (by kernel_rfl)
theorem qmX:Tryz.prog.stoodInHeld 47 = false:=by kernel_rfl
theorem qpf:qcE Tryz.prog 110 = some [(Value.int .u32 0),(Value.int .i32 0),(Value.int .u32 0),Value.nilIface,(Value.slice none 0 0)]:=by kernel_rfl
theorem qo1:qcE Tryz.prog 129 = some [vi 0,vi 0,vi 0,vi 0,vi 0,vi 0,vi 0]:=by kernel_rfl
theorem qhJ:qcE Tryz.prog 28 = some [(Value.slice none 0 0),(Value.slice none 0 0)]:=by kernel_rfl
theorem qlq:qcE Tryz.prog 3 = some [vi 0]:=by kernel_rfl
theorem qdj:qcE Tryz.prog 47 = some [vi 0,vi 0,vi 0,(vs ([]))]:=by kernel_rfl
theorem qqr:qcE Tryz.prog 57 = some [(Value.slice none 0 0),(Value.slice none 0 0)]:=by kernel_rfl
theorem qnp:qcE Tryz.prog 62 = some [(vs ([])),(vs ([])),(vs ([])),(vs ([])),(vs ([])),(vs ([])),(vs ([])),(vs ([])),(vs ([])),(vs ([])),(vs ([])),(vs ([])),(vs ([])),(vs ([]))]:=by kernel_rfl
theorem qec:qcE Tryz.prog 9 = some [(vs ([]))]:=by kernel_rfl
def qis (u:World) (m0:Mem) (S:Segs) (pb0:Nat) (x0:Compiler) (c5:Value) (M6:List (Nat × Obj)) (c8:Value) (M9:List (Nat × Obj)) (r:Int × Compiler) (a:Act) (w:World):Prop :=
 ∃ m1 c11 M12 c14 M15,m0.le m1 ∧ Ok u m1 ([(pb0,oc 57 [c11,c14])] :: M12 :: M15 :: S) w ∧ a.defers = [] ∧ RVs Tryz.prog a w [.t 4 (.int .i64 r.1)] ∧ InR .i64 r.1 ∧ ORow 9 1 pS m1 c11 r.2.Code.Names M12 ∧ ORow 47 4 pIns m1 c14 r.2.Code.Ins M15
theorem qbb (N:Nat) (vx_1:List Value) (x_1:Ins) (hx_1:pIns m0 vx_1 x_1) {pb0:Nat} {c5:Value} {M6:List (Nat × Obj)} {c8:Value} {M9:List (Nat × Obj)} (x0:Compiler) (h7:ORow 9 1 pS m0 c5 x0.Code.Names M6) (h10:ORow 47 4 pIns m0 c8 x0.Code.Ins M9) {r:Int × Compiler} (hF:qaZ N x_1 x0 = some r) (hG:Glob u) (ok:Ok u m0 ([(pb0,oc 57 [c5,c8])] :: M6 :: M9 :: S) w) :
  Calls Tryz.prog 32 [vp pb0,.agg vx_1.toArray].toArray w fun e w'=>∃ m1 c11 M12 c14 M15,e = .returned (.int .i64 r.1) ∧ m0.le m1 ∧ Ok u m1 ([(pb0,oc 57 [c11,c14])] :: M12 :: M15 :: S) w' ∧ InR .i64 r.1 ∧ ORow 9 1 pS m1 c11 r.2.Code.Names M12 ∧ ORow 47 4 pIns m1 c14 r.2.Code.Ins M15:=by
 obtain ⟨rfl,r1,r2,r3,l4⟩:=hx_1
 have le_m0:=Mem.le.refl m0
 unfold qaZ at hF
 refine en (qis u m0 S pb0 x0 c5 M6 c8 M9) r Tryz.func32 rfl rfl rfl (by rintro a w ⟨m1,c11,M12,c14,M15,hle,ok,hd,hrv,h0,h1,h2⟩; exact qbD [.t 4 (.int .i64 r.1)] hd rfl hrv ⟨m1,c11,M12,c14,M15,rfl,hle,ok,h0,h1,h2⟩) fun fin a E=>sg<|qfR E ok rfl rfl rfl fun b17 a w E ok=>aw E rfl fun a E=>wp_seq<|bd hF fun o18 hJ hF=>qaI (Q':=fun e a w=>e = .normal ∧ ∃ c19 M20 c22 M23,Ok u m0 ([(b17,oc 47 [vi x_1.Op,vi x_1.A,vi x_1.B,vs x_1.S])] :: [(pb0,oc 57 [c19,c22])] :: M20 :: M23 :: S) w ∧ Env 24 a [(0,vp pb0)] ∧ ORow 9 1 pS m0 c19 o18.Code.Names M20 ∧ ORow 47 4 pIns m0 c22 o18.Code.Ins M23) ?_ ?_
 rotate_left
 ·intro e a w hO
  obtain ⟨rfl,c39,M40,c42,M43,ok,E,h41,h44⟩:=hO
  refine qab<|sg<|mv E rfl fun a E=>lw E (qak rfl) fun a E=>fv E qei rfl fun a E=>fk E ok qdZ qdU rfl 1 rfl rfl fun a E=>lv E ok (qeq qdz h44 rfl) fun a E=>lw E (qef rfl rfl) fun a E=>aw E rfl fun a E=>wp_ret ?_
  exact fin hF ⟨m0,c39,M40,c42,M43,le_m0,ok.drop,E.d,rz E rfl,(InR.wrap _ _),h41,h44⟩
 have hF:=hJ
 obtain ⟨l28,e29,hF⟩:=bnd hF
 obtain rfl:=sj hF
 refine qbx [5,6] (Cls u m0 ([(b17,oc 47 [vi x_1.Op,vi x_1.A,vi x_1.B,vs x_1.S])] :: [(pb0,oc 57 [c5,c8])] :: M6 :: [])) (Cls u m0 ([(b17,oc 47 [vi x_1.Op,vi x_1.A,vi x_1.B,vs x_1.S])] :: M6 :: [])) (by kernel_rfl) ?_
 intro w hw
 replace ok:=qbP ok hw
 clear hw
 refine qau (cl1 (cq le_m0 ok [0,1,2] rfl) (cq le_m0 ok [0,2] rfl)) fun hT=>kt 0 E rfl hT (qan rfl) fun a E=>kt 1 E rfl hT (qan rfl) fun a E=>kt 2 E rfl hT (qak rfl) fun a E=>kt 3 E rfl hT (qai qei rfl) fun a E=>kt 4 E rfl hT (qai qdZ rfl) fun a E=>qdi 5 E rfl (by kernel_rfl) nP hT (qax qdU rfl (qae.cown 1 rfl rfl)) rfl rfl fun a E=>qdi 6 E rfl (by kernel_rfl) nP hT (qar (cs:=[vi x_1.Op,vi x_1.A,vi x_1.B,vs x_1.S]) qj5 rfl rfl (qae.cown 0 rfl rfl)) rfl rfl fun a E=>qaU [7] (by kernel_rfl) rfl (qa2 ?_)
 ·refine wo rfl<|qbu (R:=pIns) (xo:=[.tmp 11]) (xs:=([x_1]:List (Ins))) E ok qdz qdj rfl ⟨⟨_,rfl,rfl,⟨rfl,r1,r2,r3,l4⟩⟩,trivial⟩ rfl rfl rfl rfl fun c33 M34 a w E ok h35=>wn<|qau (cl1 (cq le_m0 ok [1,2,3] rfl) (cq le_m0 ok [1,3] rfl)) fun hT=>qaU [8] (by kernel_rfl) rfl (qa2 ?_)
  ·refine wo rfl<|qcz (R:=pIns) E ok 4 mIns qdz Tryz.underlying26 rfl h10 (qby.ofRow h35 0 rfl ok) e29 ⟨_,qdj,rfl⟩ rfl rfl rfl rfl fun c36 M37 a w E ok h38=>wn<|qau (cl1 (cq le_m0 ok [1,2,3] rfl) (cq le_m0 ok [1,3] rfl)) fun hT=>kt 9 E rfl hT (qak rfl) fun a E=>kt 10 E rfl hT (qai qei rfl) fun a E=>kt 11 E rfl hT (qai qdZ rfl) fun a E=>qaU [12] (by kernel_rfl) rfl (qa2 ?_)
   ·refine wo rfl<|qad E ok 2 rfl rfl rfl qqU (ORow.cells h38) rfl ⟨(ORow.one h38),trivial⟩ rfl rfl fun w ok=>wn<|qau (cl2 (by kernel_rfl) (cq le_m0 ok [1,3] rfl)) fun hT=>qbE (by kernel_rfl) ?_
    exact ⟨rfl,⟨c5,M6,c36,M37,(ok.pk 5 [1,2,3,4] rfl (by decide)),E.keep [0],h7,h38⟩⟩
def qe5 (u:World) (m0:Mem) (S:Segs) (r:Int) (a:Act) (w:World):Prop :=
 Ok u m0 S w ∧ a.defers = [] ∧ RVs Tryz.prog a w [.t 4 (.int .i64 r)] ∧ InR .i64 r
theorem qgV (N:Nat) (vs_0:Value) (s_0:List (List UInt8)) (hs_0:(pL 1 pS) m0 [vs_0] s_0) (v_1:List UInt8) (lv_1:v_1.length ≤ LIMS) {r:Int} (hF:qcC N s_0 v_1 = some r) (hG:Glob u) (ok:Ok u m0 S w) :
  Calls Tryz.prog 69 [vs_0,vs v_1].toArray w fun e w'=>(e = .returned (.int .i64 r) ∧ Ok u m0 S w') ∧ InR .i64 r:=by
 unfold qcC at hF
 refine en (qe5 u m0 S) r Tryz.func69 rfl rfl rfl (fun _ _ h=>rb h rfl) fun fin a E=>sg<|aw E rfl fun a E=>wp_seq<|sg<|mv E rfl fun a E=>lv E ok (qbc qcg hs_0 rfl) fun a E=>mv E rfl fun a E=>wn<|wp_block<|bd hF fun o2 hL hF=>qba _ (fun (s:Int) a w=>Ok u m0 (S) w ∧ Env 19 a [(0,vs_0),(1,vs v_1),(7,(vi (s_0.length:Int))),(8,vi s)] ∧ InR .i64 s) (fun (b:(Unit ⊕ Int)) e a w=>(Sum.elim (fun b18=>e = (.exit 0) ∧ Ok u m0 (S) w ∧ Env 19 a []) (fun b19=>e = .ret ∧ qe5 u m0 S b19 a w)) b) ?_ ?_ N _ a w hL ⟨ok,E.keep [0,1,7,8],(ir 0)⟩
 rotate_left
 ·intro e a w _ hO
  rcases o2 with o2 | o2
  rotate_left
  ·obtain ⟨rfl,hret⟩:=hO
   refine qaE<|qaj ?_
   exact fin hF hret
  have hF:=qce hF
  obtain ⟨rfl,ok,E⟩:=hO
  refine qbm<|qab<|sg<|aw E rfl fun a E=>wp_ret ?_
  exact fin hF ⟨ok,E.d,rz E rfl,(ir (-1))⟩
 rintro v4 a w r ⟨ok,E,r5⟩ hF
 replace hF:qbQ N s_0 v_1 v4 = some r:=hF
 unfold qbQ at hF
 refine sg<|lw E (qaQ rfl rfl) fun a E=>wn<|wp_seq<|cg E rfl hF (fun c6 hF=>?_) fun c6 hF=>?_
 ·refine wp_exit<|qaW ?_
  cases hF
  exact so (sl ⟨rfl,⟨ok,E.keep []⟩⟩)
 refine wp_skip<|qab<|wp_seq<|wp_block<|sg<|mv E rfl fun a E=>av E rfl fun a E=>wn<|sg<|mz E rfl rfl fun a E=>mv E rfl fun a E=>?_
 obtain ⟨x7,e8,hF⟩:=bnd hF
 obtain ⟨b9,o10,es11,hl12,rr13,at14,yy15⟩:=ia E 12 13 qcg hs_0 e8
 obtain ⟨rfl,l16⟩:=rr13
 refine lv E ok (yy15 _ _) fun a E=>lv E ok (qax qal rfl (qae.ro at14)) fun a E=>lw E (qbt rfl rfl) fun a E=>wn<|cg E rfl hF (fun c17 hF=>?_) fun c17 hF=>?_
 ·refine wp_skip<|qah<|qab<|qac<|lw E (qaG rfl rfl (InR.inc r5 (qao hs_0) c6)) fun a E=>mv E rfl fun a E=>wpList_nil ?_
  cases hF
  exact qav ⟨ok,E.keep [0,1,7,8],(InR.inc r5 (qao hs_0) c6)⟩
 refine sg<|mv E rfl fun a E=>aw E rfl fun a E=>wp_ret<|qaE<|qaj ?_
 cases hF
 exact so (sr ⟨rfl,⟨ok,E.d,rz E rfl,r5⟩⟩)
def qij (u:World) (m0:Mem) (S:Segs) (pb0:Nat) (x0:Compiler) (c1:Value) (M2:List (Nat × Obj)) (c4:Value) (M5:List (Nat × Obj)) (r:Int × Compiler) (a:Act) (w:World):Prop :=
 ∃ m1 c7 M8 c10 M11,m0.le m1 ∧ Ok u m1 ([(pb0,oc 57 [c7,c10])] :: M8 :: M11 :: S) w ∧ a.defers = [] ∧ RVs Tryz.prog a w [.t 4 (.int .i64 r.1)] ∧ InR .i64 r.1 ∧ ORow 9 1 pS m1 c7 r.2.Code.Names M8 ∧ ORow 47 4 pIns m1 c10 r.2.Code.Ins M11
theorem qdA (N:Nat) (s_1:List UInt8) (ls_1:s_1.length ≤ LIMS) {pb0:Nat} {c1:Value} {M2:List (Nat × Obj)} {c4:Value} {M5:List (Nat × Obj)} (x0:Compiler) (h3:ORow 9 1 pS m0 c1 x0.Code.Names M2) (h6:ORow 47 4 pIns m0 c4 x0.Code.Ins M5) {r:Int × Compiler} (hF:qb5 N s_1 x0 = some r) (hG:Glob u) (ok:Ok u m0 ([(pb0,oc 57 [c1,c4])] :: M2 :: M5 :: S) w) :
  Calls Tryz.prog 50 [vp pb0,vs s_1].toArray w fun e w'=>∃ m1 c7 M8 c10 M11,e = .returned (.int .i64 r.1) ∧ m0.le m1 ∧ Ok u m1 ([(pb0,oc 57 [c7,c10])] :: M8 :: M11 :: S) w' ∧ InR .i64 r.1 ∧ ORow 9 1 pS m1 c7 r.2.Code.Names M8 ∧ ORow 47 4 pIns m1 c10 r.2.Code.Ins M11:=by
 have le_m0:=Mem.le.refl m0
 unfold qb5 at hF
 refine en (qij u m0 S pb0 x0 c1 M2 c4 M5) r Tryz.func50 rfl rfl rfl (by rintro a w ⟨m1,c7,M8,c10,M11,hle,ok,hd,hrv,h0,h1,h2⟩; exact qbD [.t 4 (.int .i64 r.1)] hd rfl hrv ⟨m1,c7,M8,c10,M11,rfl,hle,ok,h0,h1,h2⟩) fun fin a E=>sg<|aw E rfl fun a E=>sg<|mv E rfl fun a E=>lw E (qak rfl) fun a E=>fv E qei rfl fun a E=>fk E ok qhM qhg rfl 0 rfl rfl fun a E=>mv E rfl fun a E=>?_
 obtain ⟨r18,e19,hF⟩:=bnd hF
 obtain ⟨m13,hle15,ok14,hfz16⟩:=(ok.frs 1 rfl).freeze
 have h17:=ORow.froz mS h3 hle15 hfz16 (by decide)
 refine qaf E qrj rfl (qgV N _ x0.Code.Names h17 s_1 ls_1 e19 hG ok14) rfl rfl ?_
 rintro _ w ⟨⟨rfl,okz⟩,r20⟩
 replace ok:=(Ok.thawAt 1 rfl ok hle15 hfz16 okz)
 refine ⟨_,rfl,fun a E=>?_⟩
 refine aw E rfl fun a E=>wp_seq<|sg<|mv E rfl fun a E=>lw E (qaQ rfl rfl) fun a E=>wn<|cg E rfl hF (fun c21 hF=>?_) fun c21 hF=>?_
 ·refine wp_skip<|qab<|sg<|mv E rfl fun a E=>aw E rfl fun a E=>wp_ret ?_
  exact fin hF ⟨m0,c1,M2,c4,M5,le_m0,ok,E.d,rz E rfl,r20,h3,h6⟩
 refine sg<|mv E rfl fun a E=>lw E (qak rfl) fun a E=>fv E qei rfl fun a E=>fk E ok qhM qhg rfl 0 rfl rfl fun a E=>lv E ok (qeq qcg h3 rfl) fun a E=>aw E rfl fun a E=>qac<|mz E rfl rfl fun a E=>lw E (qak rfl) fun a E=>fv E qei rfl fun a E=>fk E ok qhM qhg rfl 0 rfl rfl fun a E=>mv E rfl fun a E=>qbu (R:=pS) (xo:=[.tmp 27]) (xs:=([s_1]:List (List UInt8))) E ok qcg qec rfl ⟨⟨_,rfl,rfl,(qc7 ls_1)⟩,trivial⟩ rfl rfl rfl rfl fun c22 M23 a w E ok h24=>?_
 refine bd hF fun l25 e26 hF=>qcz (R:=pS) E ok 2 mS qcg Tryz.underlying25 rfl h3 (qby.ofRow h24 0 rfl ok) e26 ⟨_,qec,rfl⟩ rfl rfl rfl rfl fun c27 M28 a w E ok h29=>lw E (qak rfl) fun a E=>fv E qei rfl fun a E=>fv E qhM rfl fun a E=>qad E ok 1 rfl rfl rfl qoP (ORow.cells h29) rfl ⟨(ORow.one h29),trivial⟩ rfl rfl fun w ok=>wn<|sg<|mv E rfl fun a E=>aw E rfl fun a E=>wp_ret ?_
 exact fin hF ⟨m0,c27,M28,c4,M5,le_m0,ok.drop,E.d,rz E rfl,(ORow.InR h3),h29,h6⟩
def qjC (u:World) (m0:Mem) (S:Segs) (r:Int) (a:Act) (w:World):Prop :=
 Ok u m0 S w ∧ a.defers = [] ∧ RVs Tryz.prog a w [.t 2 (.int .i64 r)] ∧ InR .i64 r
theorem qgM (N:Nat) (kind_0:Int) (rkind_0:InR .i64 kind_0) {r:Int} (hF:qdv N kind_0 = some r) (hG:Glob u) (ok:Ok u m0 S w) :
  Calls Tryz.prog 53 [vi kind_0].toArray w fun e w'=>(e = .returned (.int .i64 r) ∧ Ok u m0 S w') ∧ InR .i64 r:=by
 unfold qdv at hF
 refine en (qjC u m0 S) r Tryz.func53 rfl rfl rfl (fun _ _ h=>rb h rfl) fun fin a E=>sg<|aw E rfl fun a E=>sg<|lv E ok (qmS (ps:=[(2,.const (vi 5)),(3,.const (vi 6)),(4,.const (vi 7)),(5,.const (vi 8)),(6,.const (vi 9))]) (qs:=[(2,[vi 5]),(3,[vi 6]),(4,[vi 7]),(5,[vi 8]),(6,[vi 9])]) (cs:=[vi 0,vi 0,vi 5,vi 6,vi 7,vi 8,vi 9]) qo1 qqq rfl ⟨rfl,rfl,rfl,⟨rfl,rfl,rfl,⟨rfl,rfl,rfl,⟨rfl,rfl,rfl,⟨rfl,rfl,rfl,trivial⟩⟩⟩⟩⟩ rfl) fun a E=>mv E rfl fun a E=>bd hF fun z1 e2 hF=>lv E ok (qqV (f:=Value.int .i64) (xs:=[(0:Int),(0:Int),(5:Int),(6:Int),(7:Int),(8:Int),(9:Int)]) Tryz.underlying129 qgA qap rfl rfl rfl rfl e2) fun a E=>aw E rfl fun a E=>wp_ret ?_
 exact fin hF ⟨ok,E.d,rz E rfl,(qoh (q:=InR .i64) (xs:=[(0:Int),(0:Int),(5:Int),(6:Int),(7:Int),(8:Int),(9:Int)]) (by decide) e2)⟩
def qh4 (u:World) (m0:Mem) (S:Segs) (pb0:Nat) (x0:Compiler) (c1:Value) (M2:List (Nat × Obj)) (c4:Value) (M5:List (Nat × Obj)) (r:Compiler) (a:Act) (w:World):Prop :=
 ∃ m1 c7 M8 c10 M11,m0.le m1 ∧ Ok u m1 ([(pb0,oc 57 [c7,c10])] :: M8 :: M11 :: S) w ∧ a.defers = [] ∧ RVs Tryz.prog a w [] ∧ ORow 9 1 pS m1 c7 r.Code.Names M8 ∧ ORow 47 4 pIns m1 c10 r.Code.Ins M11
def qgQ (u:World) (m0:Mem) (S:Segs) (pb0:Nat) (x0:Compiler) (c9:Value) (M10:List (Nat × Obj)) (c12:Value) (M13:List (Nat × Obj)) (r:Compiler) (a:Act) (w:World):Prop :=
 ∃ m1 c15 M16 c18 M19,m0.le m1 ∧ Ok u m1 ([(pb0,oc 57 [c15,c18])] :: M16 :: M19 :: S) w ∧ a.defers = [] ∧ RVs Tryz.prog a w [] ∧ ORow 9 1 pS m1 c15 r.Code.Names M16 ∧ ORow 47 4 pIns m1 c18 r.Code.Ins M19
def qcO (N:Nat):Prop:=∀ {u:World} {m0:Mem} {S:Segs} {w:World} (vl_1:Value) (l_1:List (Part)) (hl_1:(pL 6 qaM) m0 [vl_1] l_1) (count_2:List UInt8) (lcount_2:count_2.length ≤ LIMS) {pb0:Nat} {c1:Value} {M2:List (Nat × Obj)} {c4:Value} {M5:List (Nat × Obj)} (x0:Compiler) (h3:ORow 9 1 pS m0 c1 x0.Code.Names M2) (h6:ORow 47 4 pIns m0 c4 x0.Code.Ins M5) {r:Compiler} (hF:qaR N l_1 count_2 x0 = some r) (hG:Glob u) (ok:Ok u m0 ([(pb0,oc 57 [c1,c4])] :: M2 :: M5 :: S) w),Calls Tryz.prog 31 [vp pb0,vl_1,vs count_2].toArray w fun e w'=>∃ m1 c7 M8 c10 M11,e = .returned (.tuple [].toArray) ∧ m0.le m1 ∧ Ok u m1 ([(pb0,oc 57 [c7,c10])] :: M8 :: M11 :: S) w' ∧ ORow 9 1 pS m1 c7 r.Code.Names M8 ∧ ORow 47 4 pIns m1 c10 r.Code.Ins M11
def qcr (N:Nat):Prop:=∀ {u:World} {m0:Mem} {S:Segs} {w:World} (vx_1:List Value) (x_1:Part) (hx_1:qaM m0 vx_1 x_1) (count_2:List UInt8) (lcount_2:count_2.length ≤ LIMS) {pb0:Nat} {c9:Value} {M10:List (Nat × Obj)} {c12:Value} {M13:List (Nat × Obj)} (x0:Compiler) (h11:ORow 9 1 pS m0 c9 x0.Code.Names M10) (h14:ORow 47 4 pIns m0 c12 x0.Code.Ins M13) {r:Compiler} (hF:qaS N x_1 count_2 x0 = some r) (hG:Glob u) (ok:Ok u m0 ([(pb0,oc 57 [c9,c12])] :: M10 :: M13 :: S) w),Calls Tryz.prog 52 [vp pb0,.agg vx_1.toArray,vs count_2].toArray w fun e w'=>∃ m1 c15 M16 c18 M19,e = .returned (.tuple [].toArray) ∧ m0.le m1 ∧ Ok u m1 ([(pb0,oc 57 [c15,c18])] :: M16 :: M19 :: S) w' ∧ ORow 9 1 pS m1 c15 r.Code.Names M16 ∧ ORow 47 4 pIns m1 c18 r.Code.Ins M19
theorem qg8 (N:Nat) (ih_compile_compiler_parts:qcO N) (ih_compile_compiler_selection:qcr N):qcO (N + 1):=by
 intro u m0 S w vl_1 l_1 hl_1 count_2 lcount_2 pb0 c1 M2 c4 M5 x0 h3 h6 r hF hG ok
 have le_m0:=Mem.le.refl m0
 have hF0:qcv (qaR N) (qaS N) N l_1 count_2 x0 = some r:=hF
 have hF:=hF0
 clear hF0
 unfold qcv at hF
 refine en (qh4 u m0 S pb0 x0 c1 M2 c4 M5) r Tryz.func31 rfl rfl rfl (by rintro a w ⟨m1,c7,M8,c10,M11,hle,ok,hd,hrv,h0,h1⟩; exact qbD [] hd rfl hrv ⟨m1,c7,M8,c10,M11,rfl,hle,ok,h0,h1⟩) fun fin a E=>sg<|mv E rfl fun a E=>lv E ok (qbc qbd hl_1 rfl) fun a E=>mv E rfl fun a E=>wn<|wp_block<|bd hF fun o21 hL hF=>qba _ (fun (s:Int × Compiler) a w=>∃ m22 c24 M25 c27 M28,m0.le m22 ∧ Ok u m22 ([(pb0,oc 57 [c24,c27])] :: M25 :: M28 :: S) w ∧ Env 88 a [(0,vp pb0),(2,vs count_2),(8,vl_1),(9,(vi (l_1.length:Int))),(10,vi s.1)] ∧ InR .i64 s.1 ∧ ORow 9 1 pS m22 c24 s.2.Code.Names M25 ∧ ORow 47 4 pIns m22 c27 s.2.Code.Ins M28) (fun (b:Compiler) e a w=>e = (.exit 0) ∧ ∃ m304 c305 M306 c308 M309,m0.le m304 ∧ Ok u m304 ([(pb0,oc 57 [c305,c308])] :: M306 :: M309 :: S) w ∧ Env 88 a [] ∧ ORow 9 1 pS m304 c305 b.Code.Names M306 ∧ ORow 47 4 pIns m304 c308 b.Code.Ins M309) ?_ ?_ N _ a w hL ⟨m0,c1,M2,c4,M5,Mem.le.refl _,ok,E.keep [0,2,8,9,10],(ir 0),h3,h6⟩
 rotate_left
 ·intro e a w _ hO
  obtain ⟨rfl,m297,c298,M299,c301,M302,hle,ok,E,h300,h303⟩:=hO
  have le_m0:=le_m0.trans hle
  have hl_1:=(mL qag).up hle hl_1
  refine qbm ?_
  exact fin hF ⟨m297,c298,M299,c301,M302,le_m0,ok,E.d,trivial,h300,h303⟩
 rintro ⟨v30,v31⟩ a w r ⟨m32,c34,M35,c37,M38,hle,ok,E,r33,h36,h39⟩ hF
 replace hF:qck (qaR N) (qaS N) N l_1 count_2 v30 v31 = some r:=hF
 unfold qck at hF
 have le_m0:=le_m0.trans hle
 have hl_1:=(mL qag).up hle hl_1
 refine sg<|lw E (qaQ rfl rfl) fun a E=>wn<|wp_seq<|cg E rfl hF (fun c40 hF=>?_) fun c40 hF=>?_
 ·refine wp_exit<|qaW ?_
  cases hF
  exact so (⟨rfl,⟨m32,c34,M35,c37,M38,le_m0,ok,E.keep [],h36,h39⟩⟩)
 refine wp_skip<|qab<|wp_seq<|wp_block<|sg ?_
 obtain ⟨x41,e42,hF⟩:=bnd hF
 obtain ⟨b43,o44,es45,hl46,rr47,at48,yy49⟩:=ia E 8 10 qbd hl_1 e42
 obtain ⟨c54,c56,rfl,r50,l51,l52,l53,h55,h57⟩:=(qaO.1 rr47)
 refine lv E ok (yy49 _ _) fun a E=>lv E ok (qar (cs:=[vi x41.Kind,vs x41.Text,vs x41.Name,vs x41.Style,c54,c56]) qdf rfl rfl (qae.ro at48)) fun a E=>qa1 E ok qbf rfl rfl fun b58 a w E ok=>qad E ok 0 rfl rfl rfl qdY rfl rfl ⟨rfl,rfl,rfl,rfl,(qbY h55),(qbY h57),trivial⟩ rfl rfl fun w ok=>wn<|wp_block<|sg<|fk E ok qaC qap rfl 0 rfl rfl fun a E=>lw E (qam rfl rfl) fun a E=>aw E rfl fun a E=>cf E rfl hF (fun c59 hF=>?_) fun c59 hF=>?_
 ·refine qac<|mv E rfl fun a E=>fk E ok qdH qal rfl 0 rfl rfl fun a E=>lw E (qaq (ps:=[(0,.const (vi 1)),(3,.tmp 32)]) (qs:=[(0,[vi 1]),(3,[vs x41.Text])]) (cs:=[vi 1,vi 0,vi 0,vs x41.Text]) qdj qc3 rfl ⟨rfl,rfl,rfl,⟨rfl,rfl,rfl,trivial⟩⟩ rfl) fun a E=>?_
  obtain ⟨r60,e61,hF⟩:=bnd hF
  replace ok:Ok u m32 ([(pb0,oc 57 [c34,c37])] :: M35 :: M38 :: [(b58,oc 82 [vi x41.Kind,vs x41.Text,vs x41.Name,vs x41.Style,c54,c56])] :: S) w:=(ok.pk 4 [1,2,3,0] rfl (by decide))
  refine qaf E qfS rfl (qbb N _ (Ins.mk 1 0 0 x41.Text) ⟨rfl,(ir 1),(ir 0),(ir 0),l51⟩ v31 h36 h39 e61 hG ok) rfl rfl ?_
  rintro _ w ⟨m62,c64,M65,c67,M68,rfl,hle,ok,r63,h66,h69⟩
  have le_m0:=le_m0.trans hle
  have hl_1:=(mL qag).up hle hl_1
  have h55:=(mL qaz).up hle h55
  have h57:=(mL qag).up hle h57
  have at48:=At.up hle at48
  refine ⟨_,rfl,fun a E=>?_⟩
  refine wpList_nil<|qah<|qah<|qab<|qac<|lw E (qaG rfl rfl (InR.inc r33 (qao hl_1) c40)) fun a E=>mv E rfl fun a E=>wpList_nil ?_
  cases hF
  exact qav ⟨m62,c64,M65,c67,M68,le_m0,(ok.pk 4 [0,1,2] rfl (by decide)),E.keep [0,2,8,9,10],(InR.inc r33 (qao hl_1) c40),h66,h69⟩
 refine sg<|fk E ok qaC qap rfl 0 rfl rfl fun a E=>lw E (qam rfl rfl) fun a E=>aw E rfl fun a E=>cf E rfl hF (fun c70 hF=>?_) fun c70 hF=>?_
 ·refine qac<|mz E rfl rfl fun a E=>mv E rfl fun a E=>?_
  obtain ⟨r71,e72,hF⟩:=bnd hF
  replace ok:Ok u m32 ([(pb0,oc 57 [c34,c37])] :: M35 :: M38 :: [(b58,oc 82 [vi x41.Kind,vs x41.Text,vs x41.Name,vs x41.Style,c54,c56])] :: S) w:=(ok.pk 4 [1,2,3,0] rfl (by decide))
  refine qaf E qml rfl (qdA N count_2 lcount_2 v31 h36 h39 e72 hG ok) rfl rfl ?_
  rintro _ w ⟨m73,c75,M76,c78,M79,rfl,hle,ok,r74,h77,h80⟩
  have le_m0:=le_m0.trans hle
  have hl_1:=(mL qag).up hle hl_1
  have h55:=(mL qaz).up hle h55
  have h57:=(mL qag).up hle h57
  have at48:=At.up hle at48
  refine ⟨_,rfl,fun a E=>?_⟩
  refine lw E (qaq (ps:=[(0,.const (vi 6)),(1,.tmp 42)]) (qs:=[(0,[vi 6]),(1,[vi r71.1])]) (cs:=[vi 6,vi r71.1,vi 0,(vs ([]))]) qdj qc3 rfl ⟨rfl,rfl,rfl,⟨rfl,rfl,rfl,trivial⟩⟩ rfl) fun a E=>bd hF fun r81 e82 hF=>qaf E qfS rfl (qbb N _ (Ins.mk 6 r71.1 0 ([])) ⟨rfl,(ir 6),r74,(ir 0),(Nat.zero_le _)⟩ r71.2 h77 h80 e82 hG ok) rfl rfl ?_
  rintro _ w ⟨m83,c85,M86,c88,M89,rfl,hle,ok,r84,h87,h90⟩
  have le_m0:=le_m0.trans hle
  have hl_1:=(mL qag).up hle hl_1
  have h55:=(mL qaz).up hle h55
  have h57:=(mL qag).up hle h57
  have at48:=At.up hle at48
  refine ⟨_,rfl,fun a E=>?_⟩
  refine wpList_nil<|qah<|qah<|qab<|qac<|lw E (qaG rfl rfl (InR.inc r33 (qao hl_1) c40)) fun a E=>mv E rfl fun a E=>wpList_nil ?_
  cases hF
  exact qav ⟨m83,c85,M86,c88,M89,le_m0,(ok.pk 4 [0,1,2] rfl (by decide)),E.keep [0,2,8,9,10],(InR.inc r33 (qao hl_1) c40),h87,h90⟩
 refine sg<|fk E ok qaC qap rfl 0 rfl rfl fun a E=>lw E (qam rfl rfl) fun a E=>mv E rfl fun a E=>bw E 49 hF (fun c91 hF E=>?_) fun c91 hF E=>?_
 ·as_aux_lemma =>
   refine lsz E fun a E=>pf E rfl rfl fun a E=>aw E rfl fun a E=>c_if E rfl (fun h=>by cases h) (fun _=>?_)
   refine sg<|fk E ok qaC qap rfl 0 rfl rfl fun a E=>lw E (qam rfl rfl) fun a E=>aw E rfl fun a E=>cf E rfl hF (fun c200 hF=>?_) fun c200 hF=>?_
   ·refine sg<|mv E rfl fun a E=>fk E ok qaV qal rfl 0 rfl rfl fun a E=>lw E (qaq (ps:=[(0,.const (vi 2)),(3,.tmp 66)]) (qs:=[(0,[vi 2]),(3,[vs x41.Name])]) (cs:=[vi 2,vi 0,vi 0,vs x41.Name]) qdj qc3 rfl ⟨rfl,rfl,rfl,⟨rfl,rfl,rfl,trivial⟩⟩ rfl) fun a E=>?_
    obtain ⟨r201,e202,hF⟩:=bnd hF
    replace ok:Ok u m32 ([(pb0,oc 57 [c34,c37])] :: M35 :: M38 :: [(b58,oc 82 [vi x41.Kind,vs x41.Text,vs x41.Name,vs x41.Style,c54,c56])] :: S) w:=(ok.pk 4 [1,2,3,0] rfl (by decide))
    refine qaf E qfS rfl (qbb N _ (Ins.mk 2 0 0 x41.Name) ⟨rfl,(ir 2),(ir 0),(ir 0),l52⟩ v31 h36 h39 e202 hG ok) rfl rfl ?_
    rintro _ w ⟨m203,c205,M206,c208,M209,rfl,hle,ok,r204,h207,h210⟩
    have le_m0:=le_m0.trans hle
    have hl_1:=(mL qag).up hle hl_1
    have h55:=(mL qaz).up hle h55
    have h57:=(mL qag).up hle h57
    have at48:=At.up hle at48
    refine ⟨_,rfl,fun a E=>?_⟩
    refine wn<|sg<|mv E rfl fun a E=>fk E ok qcm qb0 rfl 3 rfl rfl fun a E=>mv E rfl fun a E=>bd hF fun r211 e212 hF=>qaf E qmd rfl (ih_compile_compiler_parts _ x41.Parts h57 count_2 lcount_2 r201.2 h207 h210 e212 hG ok) rfl rfl ?_
    rintro _ w ⟨m213,c214,M215,c217,M218,rfl,hle,ok,h216,h219⟩
    have le_m0:=le_m0.trans hle
    have hl_1:=(mL qag).up hle hl_1
    have h55:=(mL qaz).up hle h55
    have h57:=(mL qag).up hle h57
    have at48:=At.up hle at48
    refine ⟨_,rfl,fun a E=>?_⟩
    refine wn<|qac<|mv E rfl fun a E=>fk E ok qaV qal rfl 3 rfl rfl fun a E=>lw E (qaq (ps:=[(0,.const (vi 3)),(3,.tmp 76)]) (qs:=[(0,[vi 3]),(3,[vs x41.Name])]) (cs:=[vi 3,vi 0,vi 0,vs x41.Name]) qdj qc3 rfl ⟨rfl,rfl,rfl,⟨rfl,rfl,rfl,trivial⟩⟩ rfl) fun a E=>bd hF fun r220 e221 hF=>qaf E qfS rfl (qbb N _ (Ins.mk 3 0 0 x41.Name) ⟨rfl,(ir 3),(ir 0),(ir 0),l52⟩ r211 h216 h219 e221 hG ok) rfl rfl ?_
    rintro _ w ⟨m222,c224,M225,c227,M228,rfl,hle,ok,r223,h226,h229⟩
    have le_m0:=le_m0.trans hle
    have hl_1:=(mL qag).up hle hl_1
    have h55:=(mL qaz).up hle h55
    have h57:=(mL qag).up hle h57
    have at48:=At.up hle at48
    refine ⟨_,rfl,fun a E=>?_⟩
    refine wpList_nil<|qah<|qah<|qab<|qac<|lw E (qaG rfl rfl (InR.inc r33 (qao hl_1) c40)) fun a E=>mv E rfl fun a E=>wpList_nil ?_
    cases hF
    exact qav ⟨m222,c224,M225,c227,M228,le_m0,(ok.pk 4 [0,1,2] rfl (by decide)),E.keep [0,2,8,9,10],(InR.inc r33 (qao hl_1) c40),h226,h229⟩
   refine sg<|fk E ok qaC qap rfl 0 rfl rfl fun a E=>bd hF fun r230 e231 hF=>lc E qiq rfl (qct N x41.Kind r50 e231 hG ok) fun w ok a E=>aw E rfl fun a E=>cf E rfl hF (fun c232 hF=>?_) fun c232 hF=>?_
   ·refine qac<|mv E rfl fun a E=>lv E ok (qar (cs:=[vi x41.Kind,vs x41.Text,vs x41.Name,vs x41.Style,c54,c56]) qdf rfl rfl (qae.own 0 rfl rfl)) fun a E=>mv E rfl fun a E=>?_
    obtain ⟨r233,e234,hF⟩:=bnd hF
    replace ok:Ok u m32 ([(pb0,oc 57 [c34,c37])] :: M35 :: M38 :: [(b58,oc 82 [vi x41.Kind,vs x41.Text,vs x41.Name,vs x41.Style,c54,c56])] :: S) w:=(ok.pk 4 [1,2,3,0] rfl (by decide))
    refine qaf E qpM rfl (ih_compile_compiler_selection _ x41 (qaO.2 ⟨_,_,rfl,r50,l51,l52,l53,h55,h57⟩) count_2 lcount_2 v31 h36 h39 e234 hG ok) rfl rfl ?_
    rintro _ w ⟨m235,c236,M237,c239,M240,rfl,hle,ok,h238,h241⟩
    have le_m0:=le_m0.trans hle
    have hl_1:=(mL qag).up hle hl_1
    have h55:=(mL qaz).up hle h55
    have h57:=(mL qag).up hle h57
    have at48:=At.up hle at48
    refine ⟨_,rfl,fun a E=>?_⟩
    refine wpList_nil<|qah<|qah<|qab<|qac<|lw E (qaG rfl rfl (InR.inc r33 (qao hl_1) c40)) fun a E=>mv E rfl fun a E=>wpList_nil ?_
    cases hF
    exact qav ⟨m235,c236,M237,c239,M240,le_m0,(ok.pk 4 [0,1,2] rfl (by decide)),E.keep [0,2,8,9,10],(InR.inc r33 (qao hl_1) c40),h238,h241⟩
   refine bd hF fun o242 hJ hF=>qaI (Q':=fun e a w=>e = .normal ∧ ∃ m243 c244 M245 c247 M248,m32.le m243 ∧ Ok u m243 ([(b58,oc 82 [vi x41.Kind,vs x41.Text,vs x41.Name,vs x41.Style,c54,c56])] :: [(pb0,oc 57 [c244,c247])] :: M245 :: M248 :: S) w ∧ Env 88 a [(0,vp pb0),(2,vs count_2),(8,vl_1),(9,(vi (l_1.length:Int))),(10,vi v30)] ∧ ORow 9 1 pS m243 c244 o242.Code.Names M245 ∧ ORow 47 4 pIns m243 c247 o242.Code.Ins M248) ?_ ?_
   rotate_left
   ·intro e a w hO
    obtain ⟨rfl,m290,c291,M292,c294,M295,hle,ok,E,h293,h296⟩:=hO
    have le_m0:=le_m0.trans hle
    have hl_1:=(mL qag).up hle hl_1
    have h55:=(mL qaz).up hle h55
    have h57:=(mL qag).up hle h57
    have at48:=At.up hle at48
    refine qah<|qah<|qab<|qac<|lw E (qaG rfl rfl (InR.inc r33 (qao hl_1) c40)) fun a E=>mv E rfl fun a E=>wpList_nil ?_
    cases hF
    exact qav ⟨m290,c291,M292,c294,M295,le_m0,(ok.pk 4 [1,2,3] rfl (by decide)),E.keep [0,2,8,9,10],(InR.inc r33 (qao hl_1) c40),h293,h296⟩
   have hF:=hJ
   have le_m32:=Mem.le.refl m32
   obtain ⟨r250,e251,hF⟩:=bnd hF
   obtain ⟨r253,e254,hF⟩:=bnd hF
   obtain ⟨r263,e264,hF⟩:=bnd hF
   obtain rfl:=sj hF
   refine qbx [] (Cls u m32 ([(b58,oc 82 [vi x41.Kind,vs x41.Text,vs x41.Name,vs x41.Style,c54,c56])] :: [])) (Cls u m32 ([(b58,oc 82 [vi x41.Kind,vs x41.Text,vs x41.Name,vs x41.Style,c54,c56])] :: [])) (by kernel_rfl) ?_
   intro w hw
   replace ok:=qbP ok hw
   clear hw
   have h55_o:=h55
   have h57_o:=h57
   refine qau (cl1 (cq le_m32 ok [0] rfl) (cq le_m32 ok [0] rfl)) fun hT=>kt 0 E rfl hT (qan rfl) fun a E=>kt 1 E rfl hT (qai qaC rfl) fun a E=>kt 2 E rfl hT (qax qap rfl (qae.cown 0 rfl rfl)) fun a E=>kt 4 E rfl hT (qan rfl) fun a E=>kt 5 E rfl hT (qai qaV rfl) fun a E=>kt 6 E rfl hT (qax qal rfl (qae.cown 0 rfl rfl)) fun a E=>kt 8 E rfl hT (qai qa8 rfl) fun a E=>kt 9 E rfl hT (qax qal rfl (qae.cown 0 rfl rfl)) fun a E=>qaU [3] (by kernel_rfl) rfl (qa2 ?_)
   ·refine wo rfl<|qaf E qpI rfl (qgM N x41.Kind r50 e251 hG ok) rfl rfl ?_
    rintro _ w ⟨⟨rfl,ok⟩,r273⟩
    refine ⟨_,rfl,fun a E=>?_⟩
    refine wn<|qau (cl1 (cq le_m32 ok [0] rfl) (cq le_m32 ok [0] rfl)) fun hT=>qaU [7] (by kernel_rfl) rfl (qa2 ?_)
    ·refine qcQ (o:=_) rfl ?_
     replace ok:Ok u m32 ([(pb0,oc 57 [c34,c37])] :: M35 :: M38 :: [(b58,oc 82 [vi x41.Kind,vs x41.Text,vs x41.Name,vs x41.Style,c54,c56])] :: S) w:=(ok.pk 4 [1,2,3,0] rfl (by decide))
     refine qaf E qml rfl (qdA N x41.Name l52 v31 h36 h39 e254 hG ok) rfl rfl ?_
     rintro _ w ⟨m274,c276,M277,c279,M280,rfl,hle,ok,r275,h278,h281⟩
     have le_m0:=le_m0.trans hle
     have le_m32:=le_m32.trans hle
     have hl_1:=(mL qag).up hle hl_1
     have h55:=(mL qaz).up hle h55
     have h57:=(mL qag).up hle h57
     have at48:=At.up hle at48
     refine ⟨_,rfl,fun a E=>?_⟩
     refine wn<|qau (cl1 (cq le_m32 ok [3] rfl) (cq le_m32 ok [3] rfl)) fun hT=>kt 10 E rfl hT (qaq (ps:=[(0,.tmp 17),(1,.tmp 21),(3,.tmp 23)]) (qs:=[(0,[vi r250]),(1,[vi r253.1]),(3,[vs x41.Style])]) (cs:=[vi r250,vi r253.1,vi 0,vs x41.Style]) qdj qc3 rfl ⟨rfl,rfl,rfl,⟨rfl,rfl,rfl,⟨rfl,rfl,rfl,trivial⟩⟩⟩ rfl) fun a E=>qaU [11] (by kernel_rfl) rfl (qa2 ?_)
     ·refine wo rfl<|qaf E qfS rfl (qbb N _ (Ins.mk r250 r253.1 0 x41.Style) ⟨rfl,r273,r275,(ir 0),l53⟩ r253.2 h278 h281 e264 hG ok) rfl rfl ?_
      rintro _ w ⟨m282,c284,M285,c287,M288,rfl,hle,ok,r283,h286,h289⟩
      have le_m0:=le_m0.trans hle
      have le_m32:=le_m32.trans hle
      have hl_1:=(mL qag).up hle hl_1
      have h55:=(mL qaz).up hle h55
      have h57:=(mL qag).up hle h57
      have at48:=At.up hle at48
      refine ⟨_,rfl,fun a E=>?_⟩
      refine wn<|qau (cl1 (cq le_m32 ok [3] rfl) (cq le_m32 ok [3] rfl)) fun hT=>qbE (by kernel_rfl) ?_
      exact ⟨rfl,⟨m282,c284,M285,c287,M288,le_m32,(ok.pk 4 [3,0,1,2] rfl (by decide)),E.keep [0,2,8,9,10],h286,h289⟩⟩
 refine fk E ok qcm qb0 rfl 0 rfl rfl fun a E=>lv E ok (qbc qbd h57 rfl) fun a E=>lw E (qam rfl rfl) fun a E=>pt E rfl rfl fun a E=>aw E rfl fun a E=>cf E rfl hF (fun c92 hF=>?_) fun c92 hF=>?_
 ·refine qac<|mv E rfl fun a E=>fk E ok qaV qal rfl 0 rfl rfl fun a E=>lw E (qaq (ps:=[(0,.const (vi 4)),(3,.tmp 57)]) (qs:=[(0,[vi 4]),(3,[vs x41.Name])]) (cs:=[vi 4,vi 0,vi 0,vs x41.Name]) qdj qc3 rfl ⟨rfl,rfl,rfl,⟨rfl,rfl,rfl,trivial⟩⟩ rfl) fun a E=>?_
  obtain ⟨r93,e94,hF⟩:=bnd hF
  replace ok:Ok u m32 ([(pb0,oc 57 [c34,c37])] :: M35 :: M38 :: [(b58,oc 82 [vi x41.Kind,vs x41.Text,vs x41.Name,vs x41.Style,c54,c56])] :: S) w:=(ok.pk 4 [1,2,3,0] rfl (by decide))
  refine qaf E qfS rfl (qbb N _ (Ins.mk 4 0 0 x41.Name) ⟨rfl,(ir 4),(ir 0),(ir 0),l52⟩ v31 h36 h39 e94 hG ok) rfl rfl ?_
  rintro _ w ⟨m95,c97,M98,c100,M101,rfl,hle,ok,r96,h99,h102⟩
  have le_m0:=le_m0.trans hle
  have hl_1:=(mL qag).up hle hl_1
  have h55:=(mL qaz).up hle h55
  have h57:=(mL qag).up hle h57
  have at48:=At.up hle at48
  refine ⟨_,rfl,fun a E=>?_⟩
  refine wpList_nil<|qah<|qah<|qab<|qac<|lw E (qaG rfl rfl (InR.inc r33 (qao hl_1) c40)) fun a E=>mv E rfl fun a E=>wpList_nil ?_
  cases hF
  exact qav ⟨m95,c97,M98,c100,M101,le_m0,(ok.pk 4 [0,1,2] rfl (by decide)),E.keep [0,2,8,9,10],(InR.inc r33 (qao hl_1) c40),h99,h102⟩
 refine sg<|fk E ok qaC qap rfl 0 rfl rfl fun a E=>lw E (qam rfl rfl) fun a E=>aw E rfl fun a E=>cf E rfl hF (fun c103 hF=>?_) fun c103 hF=>?_
 ·refine sg<|mv E rfl fun a E=>fk E ok qaV qal rfl 0 rfl rfl fun a E=>lw E (qaq (ps:=[(0,.const (vi 2)),(3,.tmp 66)]) (qs:=[(0,[vi 2]),(3,[vs x41.Name])]) (cs:=[vi 2,vi 0,vi 0,vs x41.Name]) qdj qc3 rfl ⟨rfl,rfl,rfl,⟨rfl,rfl,rfl,trivial⟩⟩ rfl) fun a E=>?_
  obtain ⟨r104,e105,hF⟩:=bnd hF
  replace ok:Ok u m32 ([(pb0,oc 57 [c34,c37])] :: M35 :: M38 :: [(b58,oc 82 [vi x41.Kind,vs x41.Text,vs x41.Name,vs x41.Style,c54,c56])] :: S) w:=(ok.pk 4 [1,2,3,0] rfl (by decide))
  refine qaf E qfS rfl (qbb N _ (Ins.mk 2 0 0 x41.Name) ⟨rfl,(ir 2),(ir 0),(ir 0),l52⟩ v31 h36 h39 e105 hG ok) rfl rfl ?_
  rintro _ w ⟨m106,c108,M109,c111,M112,rfl,hle,ok,r107,h110,h113⟩
  have le_m0:=le_m0.trans hle
  have hl_1:=(mL qag).up hle hl_1
  have h55:=(mL qaz).up hle h55
  have h57:=(mL qag).up hle h57
  have at48:=At.up hle at48
  refine ⟨_,rfl,fun a E=>?_⟩
  refine wn<|sg<|mv E rfl fun a E=>fk E ok qcm qb0 rfl 3 rfl rfl fun a E=>mv E rfl fun a E=>bd hF fun r114 e115 hF=>qaf E qmd rfl (ih_compile_compiler_parts _ x41.Parts h57 count_2 lcount_2 r104.2 h110 h113 e115 hG ok) rfl rfl ?_
  rintro _ w ⟨m116,c117,M118,c120,M121,rfl,hle,ok,h119,h122⟩
  have le_m0:=le_m0.trans hle
  have hl_1:=(mL qag).up hle hl_1
  have h55:=(mL qaz).up hle h55
  have h57:=(mL qag).up hle h57
  have at48:=At.up hle at48
  refine ⟨_,rfl,fun a E=>?_⟩
  refine wn<|qac<|mv E rfl fun a E=>fk E ok qaV qal rfl 3 rfl rfl fun a E=>lw E (qaq (ps:=[(0,.const (vi 3)),(3,.tmp 76)]) (qs:=[(0,[vi 3]),(3,[vs x41.Name])]) (cs:=[vi 3,vi 0,vi 0,vs x41.Name]) qdj qc3 rfl ⟨rfl,rfl,rfl,⟨rfl,rfl,rfl,trivial⟩⟩ rfl) fun a E=>bd hF fun r123 e124 hF=>qaf E qfS rfl (qbb N _ (Ins.mk 3 0 0 x41.Name) ⟨rfl,(ir 3),(ir 0),(ir 0),l52⟩ r114 h119 h122 e124 hG ok) rfl rfl ?_
  rintro _ w ⟨m125,c127,M128,c130,M131,rfl,hle,ok,r126,h129,h132⟩
  have le_m0:=le_m0.trans hle
  have hl_1:=(mL qag).up hle hl_1
  have h55:=(mL qaz).up hle h55
  have h57:=(mL qag).up hle h57
  have at48:=At.up hle at48
  refine ⟨_,rfl,fun a E=>?_⟩
  refine wpList_nil<|qah<|qah<|qab<|qac<|lw E (qaG rfl rfl (InR.inc r33 (qao hl_1) c40)) fun a E=>mv E rfl fun a E=>wpList_nil ?_
  cases hF
  exact qav ⟨m125,c127,M128,c130,M131,le_m0,(ok.pk 4 [0,1,2] rfl (by decide)),E.keep [0,2,8,9,10],(InR.inc r33 (qao hl_1) c40),h129,h132⟩
 refine sg<|fk E ok qaC qap rfl 0 rfl rfl fun a E=>bd hF fun r133 e134 hF=>lc E qiq rfl (qct N x41.Kind r50 e134 hG ok) fun w ok a E=>aw E rfl fun a E=>cf E rfl hF (fun c135 hF=>?_) fun c135 hF=>?_
 ·refine qac<|mv E rfl fun a E=>lv E ok (qar (cs:=[vi x41.Kind,vs x41.Text,vs x41.Name,vs x41.Style,c54,c56]) qdf rfl rfl (qae.own 0 rfl rfl)) fun a E=>mv E rfl fun a E=>?_
  obtain ⟨r136,e137,hF⟩:=bnd hF
  replace ok:Ok u m32 ([(pb0,oc 57 [c34,c37])] :: M35 :: M38 :: [(b58,oc 82 [vi x41.Kind,vs x41.Text,vs x41.Name,vs x41.Style,c54,c56])] :: S) w:=(ok.pk 4 [1,2,3,0] rfl (by decide))
  refine qaf E qpM rfl (ih_compile_compiler_selection _ x41 (qaO.2 ⟨_,_,rfl,r50,l51,l52,l53,h55,h57⟩) count_2 lcount_2 v31 h36 h39 e137 hG ok) rfl rfl ?_
  rintro _ w ⟨m138,c139,M140,c142,M143,rfl,hle,ok,h141,h144⟩
  have le_m0:=le_m0.trans hle
  have hl_1:=(mL qag).up hle hl_1
  have h55:=(mL qaz).up hle h55
  have h57:=(mL qag).up hle h57
  have at48:=At.up hle at48
  refine ⟨_,rfl,fun a E=>?_⟩
  refine wpList_nil<|qah<|qah<|qab<|qac<|lw E (qaG rfl rfl (InR.inc r33 (qao hl_1) c40)) fun a E=>mv E rfl fun a E=>wpList_nil ?_
  cases hF
  exact qav ⟨m138,c139,M140,c142,M143,le_m0,(ok.pk 4 [0,1,2] rfl (by decide)),E.keep [0,2,8,9,10],(InR.inc r33 (qao hl_1) c40),h141,h144⟩
 refine bd hF fun o145 hJ hF=>qaI (Q':=fun e a w=>e = .normal ∧ ∃ m146 c147 M148 c150 M151,m32.le m146 ∧ Ok u m146 ([(b58,oc 82 [vi x41.Kind,vs x41.Text,vs x41.Name,vs x41.Style,c54,c56])] :: [(pb0,oc 57 [c147,c150])] :: M148 :: M151 :: S) w ∧ Env 88 a [(0,vp pb0),(2,vs count_2),(8,vl_1),(9,(vi (l_1.length:Int))),(10,vi v30)] ∧ ORow 9 1 pS m146 c147 o145.Code.Names M148 ∧ ORow 47 4 pIns m146 c150 o145.Code.Ins M151) ?_ ?_
 rotate_left
 ·intro e a w hO
  obtain ⟨rfl,m193,c194,M195,c197,M198,hle,ok,E,h196,h199⟩:=hO
  have le_m0:=le_m0.trans hle
  have hl_1:=(mL qag).up hle hl_1
  have h55:=(mL qaz).up hle h55
  have h57:=(mL qag).up hle h57
  have at48:=At.up hle at48
  refine qah<|qah<|qab<|qac<|lw E (qaG rfl rfl (InR.inc r33 (qao hl_1) c40)) fun a E=>mv E rfl fun a E=>wpList_nil ?_
  cases hF
  exact qav ⟨m193,c194,M195,c197,M198,le_m0,(ok.pk 4 [1,2,3] rfl (by decide)),E.keep [0,2,8,9,10],(InR.inc r33 (qao hl_1) c40),h196,h199⟩
 have hF:=hJ
 have le_m32:=Mem.le.refl m32
 obtain ⟨r153,e154,hF⟩:=bnd hF
 obtain ⟨r156,e157,hF⟩:=bnd hF
 obtain ⟨r166,e167,hF⟩:=bnd hF
 obtain rfl:=sj hF
 refine qbx [] (Cls u m32 ([(b58,oc 82 [vi x41.Kind,vs x41.Text,vs x41.Name,vs x41.Style,c54,c56])] :: [])) (Cls u m32 ([(b58,oc 82 [vi x41.Kind,vs x41.Text,vs x41.Name,vs x41.Style,c54,c56])] :: [])) (by kernel_rfl) ?_
 intro w hw
 replace ok:=qbP ok hw
 clear hw
 have h55_o:=h55
 have h57_o:=h57
 refine qau (cl1 (cq le_m32 ok [0] rfl) (cq le_m32 ok [0] rfl)) fun hT=>kt 0 E rfl hT (qan rfl) fun a E=>kt 1 E rfl hT (qai qaC rfl) fun a E=>kt 2 E rfl hT (qax qap rfl (qae.cown 0 rfl rfl)) fun a E=>kt 4 E rfl hT (qan rfl) fun a E=>kt 5 E rfl hT (qai qaV rfl) fun a E=>kt 6 E rfl hT (qax qal rfl (qae.cown 0 rfl rfl)) fun a E=>kt 8 E rfl hT (qai qa8 rfl) fun a E=>kt 9 E rfl hT (qax qal rfl (qae.cown 0 rfl rfl)) fun a E=>qaU [3] (by kernel_rfl) rfl (qa2 ?_)
 ·refine wo rfl<|qaf E qpI rfl (qgM N x41.Kind r50 e154 hG ok) rfl rfl ?_
  rintro _ w ⟨⟨rfl,ok⟩,r176⟩
  refine ⟨_,rfl,fun a E=>?_⟩
  refine wn<|qau (cl1 (cq le_m32 ok [0] rfl) (cq le_m32 ok [0] rfl)) fun hT=>qaU [7] (by kernel_rfl) rfl (qa2 ?_)
  ·refine qcQ (o:=_) rfl ?_
   replace ok:Ok u m32 ([(pb0,oc 57 [c34,c37])] :: M35 :: M38 :: [(b58,oc 82 [vi x41.Kind,vs x41.Text,vs x41.Name,vs x41.Style,c54,c56])] :: S) w:=(ok.pk 4 [1,2,3,0] rfl (by decide))
   refine qaf E qml rfl (qdA N x41.Name l52 v31 h36 h39 e157 hG ok) rfl rfl ?_
   rintro _ w ⟨m177,c179,M180,c182,M183,rfl,hle,ok,r178,h181,h184⟩
   have le_m0:=le_m0.trans hle
   have le_m32:=le_m32.trans hle
   have hl_1:=(mL qag).up hle hl_1
   have h55:=(mL qaz).up hle h55
   have h57:=(mL qag).up hle h57
   have at48:=At.up hle at48
   refine ⟨_,rfl,fun a E=>?_⟩
   refine wn<|qau (cl1 (cq le_m32 ok [3] rfl) (cq le_m32 ok [3] rfl)) fun hT=>kt 10 E rfl hT (qaq (ps:=[(0,.tmp 17),(1,.tmp 21),(3,.tmp 23)]) (qs:=[(0,[vi r153]),(1,[vi r156.1]),(3,[vs x41.Style])]) (cs:=[vi r153,vi r156.1,vi 0,vs x41.Style]) qdj qc3 rfl ⟨rfl,rfl,rfl,⟨rfl,rfl,rfl,⟨rfl,rfl,rfl,trivial⟩⟩⟩ rfl) fun a E=>qaU [11] (by kernel_rfl) rfl (qa2 ?_)
   ·refine wo rfl<|qaf E qfS rfl (qbb N _ (Ins.mk r153 r156.1 0 x41.Style) ⟨rfl,r176,r178,(ir 0),l53⟩ r156.2 h181 h184 e167 hG ok) rfl rfl ?_
    rintro _ w ⟨m185,c187,M188,c190,M191,rfl,hle,ok,r186,h189,h192⟩
    have le_m0:=le_m0.trans hle
    have le_m32:=le_m32.trans hle
    have hl_1:=(mL qag).up hle hl_1
    have h55:=(mL qaz).up hle h55
    have h57:=(mL qag).up hle h57
    have at48:=At.up hle at48
    refine ⟨_,rfl,fun a E=>?_⟩
    refine wn<|qau (cl1 (cq le_m32 ok [3] rfl) (cq le_m32 ok [3] rfl)) fun hT=>qbE (by kernel_rfl) ?_
    exact ⟨rfl,⟨m185,c187,M188,c190,M191,le_m32,(ok.pk 4 [3,0,1,2] rfl (by decide)),E.keep [0,2,8,9,10],h189,h192⟩⟩
theorem qgo (N:Nat) (ih_compile_compiler_parts:qcO N) (ih_compile_compiler_selection:qcr N):qcr (N + 1):=by
 intro u m0 S w vx_1 x_1 hx_1 count_2 lcount_2 pb0 c9 M10 c12 M13 x0 h11 h14 r hF hG ok
 obtain ⟨c5,c7,rfl,r1,l2,l3,l4,h6,h8⟩:=(qaO.1 hx_1)
 have le_m0:=Mem.le.refl m0
 have hF0:qb9 (qaR N) (qaS N) N x_1 count_2 x0 = some r:=hF
 have hF:=hF0
 clear hF0
 unfold qb9 at hF
 refine en (qgQ u m0 S pb0 x0 c9 M10 c12 M13) r Tryz.func52 rfl rfl rfl (by rintro a w ⟨m1,c15,M16,c18,M19,hle,ok,hd,hrv,h0,h1⟩; exact qbD [] hd rfl hrv ⟨m1,c15,M16,c18,M19,rfl,hle,ok,h0,h1⟩) fun fin a E=>sg<|qfR E ok rfl rfl rfl fun b21 a w E ok=>wn<|wp_seq<|sg<|fk E ok qaC qap rfl 0 rfl rfl fun a E=>lw E (qbr rfl rfl) fun a E=>wn<|bd hF fun o22 hJ hF=>qaI (Q':=fun e a w=>e = .normal ∧ Ok u m0 ([(b21,oc 82 [vi x_1.Kind,vs x_1.Text,vs x_1.Name,vs x_1.Style,c5,c7])] :: [(pb0,oc 57 [c9,c12])] :: M10 :: M13 :: S) w ∧ Env 104 a [(0,vp pb0),(2,vs o22),(4,vp b21)] ∧ o22.length ≤ LIMS) ?_ ?_
 ·have hF:=hJ
  refine cg E rfl hF (fun c24 hF=>?_) fun c24 hF=>?_
  ·refine wp_skip ?_
   cases hF
   exact ⟨rfl,⟨ok,E.keep [0,2,4],lcount_2⟩⟩
  refine qac<|fk E ok qaV qal rfl 0 rfl rfl fun a E=>av E rfl fun a E=>wpList_nil ?_
  cases hF
  exact ⟨rfl,⟨ok,E.keep [0,2,4],l3⟩⟩
 intro e a w hO
 obtain ⟨rfl,ok,E,l25⟩:=hO
 refine qab<|wp_seq<|bd hF fun o26 hJ hF=>qaI (Q':=fun e a w=>e = .normal ∧ ∃ m27 c28 M29 c31 M32,m0.le m27 ∧ Ok u m27 ([(b21,oc 82 [vi x_1.Kind,vs x_1.Text,vs x_1.Name,vs x_1.Style,c5,c7])] :: [(pb0,oc 57 [c28,c31])] :: M29 :: M32 :: S) w ∧ Env 104 a [(0,vp pb0),(2,vs o22),(4,vp b21)] ∧ ORow 9 1 pS m27 c28 o26.Code.Names M29 ∧ ORow 47 4 pIns m27 c31 o26.Code.Ins M32) ?_ ?_
 ·have hF:=hJ
  obtain ⟨r34,e35,hF⟩:=bnd hF
  obtain ⟨r44,e45,hF⟩:=bnd hF
  obtain rfl:=sj hF
  refine qbx [] (Cls u m0 ([(b21,oc 82 [vi x_1.Kind,vs x_1.Text,vs x_1.Name,vs x_1.Style,c5,c7])] :: [])) (Cls u m0 ([(b21,oc 82 [vi x_1.Kind,vs x_1.Text,vs x_1.Name,vs x_1.Style,c5,c7])] :: [])) (by kernel_rfl) ?_
  intro w hw
  replace ok:=qbP ok hw
  clear hw
  have h6_o:=h6
  have h8_o:=h8
  refine qau (cl1 (cq le_m0 ok [0] rfl) (cq le_m0 ok [0] rfl)) fun hT=>kt 0 E rfl hT (qan rfl) fun a E=>kt 1 E rfl hT (qan rfl) fun a E=>kt 2 E rfl hT (qai qaV rfl) fun a E=>kt 3 E rfl hT (qax qal rfl (qae.cown 0 rfl rfl)) fun a E=>kt 5 E rfl hT (qai qaC rfl) fun a E=>kt 6 E rfl hT (qax qap rfl (qae.cown 0 rfl rfl)) fun a E=>qaU [4] (by kernel_rfl) rfl (qa2 ?_)
  ·refine qcQ (o:=_) rfl ?_
   replace ok:Ok u m0 ([(pb0,oc 57 [c9,c12])] :: M10 :: M13 :: [(b21,oc 82 [vi x_1.Kind,vs x_1.Text,vs x_1.Name,vs x_1.Style,c5,c7])] :: S) w:=(ok.pk 4 [1,2,3,0] rfl (by decide))
   refine qaf E qml rfl (qdA N x_1.Name l3 x0 h11 h14 e35 hG ok) rfl rfl ?_
   rintro _ w ⟨m54,c56,M57,c59,M60,rfl,hle,ok,r55,h58,h61⟩
   have le_m0:=le_m0.trans hle
   have h6:=(mL qaz).up hle h6
   have h8:=(mL qag).up hle h8
   refine ⟨_,rfl,fun a E=>?_⟩
   refine wn<|qau (cl1 (cq le_m0 ok [3] rfl) (cq le_m0 ok [3] rfl)) fun hT=>kt 7 E rfl hT (qaq (ps:=[(0,.const (vi 10)),(1,.tmp 23),(2,.tmp 25)]) (qs:=[(0,[vi 10]),(1,[vi r34.1]),(2,[vi x_1.Kind])]) (cs:=[vi 10,vi r34.1,vi x_1.Kind,(vs ([]))]) qdj qc3 rfl ⟨rfl,rfl,rfl,⟨rfl,rfl,rfl,⟨rfl,rfl,rfl,trivial⟩⟩⟩ rfl) fun a E=>qaU [8] (by kernel_rfl) rfl (qa2 ?_)
   ·refine wo rfl<|qaf E qfS rfl (qbb N _ (Ins.mk 10 r34.1 x_1.Kind ([])) ⟨rfl,(ir 10),r55,r1,(Nat.zero_le _)⟩ r34.2 h58 h61 e45 hG ok) rfl rfl ?_
    rintro _ w ⟨m62,c64,M65,c67,M68,rfl,hle,ok,r63,h66,h69⟩
    have le_m0:=le_m0.trans hle
    have h6:=(mL qaz).up hle h6
    have h8:=(mL qag).up hle h8
    refine ⟨_,rfl,fun a E=>?_⟩
    refine wn<|qau (cl1 (cq le_m0 ok [3] rfl) (cq le_m0 ok [3] rfl)) fun hT=>qbE (by kernel_rfl) ?_
    exact ⟨rfl,⟨m62,c64,M65,c67,M68,le_m0,(ok.pk 4 [3,0,1,2] rfl (by decide)),E.keep [0,2,4],h66,h69⟩⟩
 intro e a w hO
 obtain ⟨rfl,m70,c71,M72,c74,M75,hle,ok,E,h73,h76⟩:=hO
 have le_m0:=le_m0.trans hle
 have h6:=(mL qaz).up hle h6
 have h8:=(mL qag).up hle h8
 refine qab<|sg<|mv E rfl fun a E=>lw E (qak rfl) fun a E=>fv E qei rfl fun a E=>fk E ok qdZ qdU rfl 1 rfl rfl fun a E=>lv E ok (qeq qdz h76 rfl) fun a E=>aw E rfl fun a E=>wp_seq<|sg<|fv E qbj rfl fun a E=>ld E ok qbK 0 rfl rfl rfl fun a E=>lv E ok (qbc qbB h6 rfl) fun a E=>mv E rfl fun a E=>wn<|wp_block<|bd hF fun o85 hL hF=>qba _ (fun (s:Int × Compiler) a w=>∃ m86 c88 M89 c91 M92,m70.le m86 ∧ Ok u m86 ([(b21,oc 82 [vi x_1.Kind,vs x_1.Text,vs x_1.Name,vs x_1.Style,c5,c7])] :: [(pb0,oc 57 [c88,c91])] :: M89 :: M92 :: S) w ∧ Env 104 a [(0,vp pb0),(2,vs o22),(4,vp b21),(6,(vi (o26.Code.Ins.length:Int))),(35,c5),(36,(vi (x_1.Cases.length:Int))),(37,vi s.1)] ∧ InR .i64 s.1 ∧ ORow 9 1 pS m86 c88 s.2.Code.Names M89 ∧ ORow 47 4 pIns m86 c91 s.2.Code.Ins M92) (fun (b:Compiler) e a w=>e = (.exit 0) ∧ ∃ m378 c379 M380 c382 M383,m70.le m378 ∧ Ok u m378 ([(b21,oc 82 [vi x_1.Kind,vs x_1.Text,vs x_1.Name,vs x_1.Style,c5,c7])] :: [(pb0,oc 57 [c379,c382])] :: M380 :: M383 :: S) w ∧ Env 104 a [(0,vp pb0),(2,vs o22),(4,vp b21),(6,(vi (o26.Code.Ins.length:Int)))] ∧ ORow 9 1 pS m378 c379 b.Code.Names M380 ∧ ORow 47 4 pIns m378 c382 b.Code.Ins M383) ?_ ?_ N _ a w hL ⟨m70,c71,M72,c74,M75,Mem.le.refl _,ok,E.keep [0,2,4,6,35,36,37],(ir 0),h73,h76⟩
 ·rintro ⟨v94,v95⟩ a w r ⟨m96,c98,M99,c101,M102,hle,ok,E,r97,h100,h103⟩ hF
  replace hF:qbV (qaR N) (qaS N) N x_1 v94 v95 = some r:=hF
  unfold qbV at hF
  have le_m70:=Mem.le.refl m70
  have le_m0:=le_m0.trans hle
  have le_m70:=le_m70.trans hle
  have h6:=(mL qaz).up hle h6
  have h8:=(mL qag).up hle h8
  refine sg<|lw E (qaQ rfl rfl) fun a E=>wn<|wp_seq<|cg E rfl hF (fun c104 hF=>?_) fun c104 hF=>?_
  ·refine wp_exit<|qaW ?_
   cases hF
   exact so (⟨rfl,⟨m96,c98,M99,c101,M102,le_m70,ok,E.keep [0,2,4,6],h100,h103⟩⟩)
  refine wp_skip<|qab<|wp_seq<|wp_block<|sg ?_
  obtain ⟨x105,e106,hF⟩:=bnd hF
  obtain ⟨b107,o108,es109,hl110,rr111,at112,yy113⟩:=ia E 35 37 qbB h6 e106
  obtain ⟨c115,rfl,l114,h116⟩:=rr111
  refine lv E ok (yy113 _ _) fun a E=>lv E ok (qar (cs:=[vs x105.Key,c115]) qkU rfl rfl (qae.ro at112)) fun a E=>qa1 E ok qcZ rfl rfl fun b117 a w E ok=>qad E ok 0 rfl rfl rfl qlj rfl rfl ⟨rfl,(qbY h116),trivial⟩ rfl rfl fun w ok=>wn<|qac<|mv E rfl fun a E=>fk E ok qeX qal rfl 0 rfl rfl fun a E=>lw E (qaq (ps:=[(0,.const (vi 11)),(3,.tmp 43)]) (qs:=[(0,[vi 11]),(3,[vs x105.Key])]) (cs:=[vi 11,vi 0,vi 0,vs x105.Key]) qdj qc3 rfl ⟨rfl,rfl,rfl,⟨rfl,rfl,rfl,trivial⟩⟩ rfl) fun a E=>?_
  obtain ⟨r118,e119,hF⟩:=bnd hF
  replace ok:Ok u m96 ([(pb0,oc 57 [c98,c101])] :: M99 :: M102 :: [(b117,oc 85 [vs x105.Key,c115])] :: [(b21,oc 82 [vi x_1.Kind,vs x_1.Text,vs x_1.Name,vs x_1.Style,c5,c7])] :: S) w:=(ok.pk 5 [2,3,4,0,1] rfl (by decide))
  refine qaf E qfS rfl (qbb N _ (Ins.mk 11 0 0 x105.Key) ⟨rfl,(ir 11),(ir 0),(ir 0),l114⟩ v95 h100 h103 e119 hG ok) rfl rfl ?_
  rintro _ w ⟨m120,c122,M123,c125,M126,rfl,hle,ok,r121,h124,h127⟩
  have le_m0:=le_m0.trans hle
  have le_m70:=le_m70.trans hle
  have h6:=(mL qaz).up hle h6
  have h8:=(mL qag).up hle h8
  have h116:=(mL qag).up hle h116
  have at112:=At.up hle at112
  refine ⟨_,rfl,fun a E=>?_⟩
  refine wpList_nil<|qah<|qab<|qac<|lw E (qaG rfl rfl (InR.inc r97 (qao h6) c104)) fun a E=>mv E rfl fun a E=>wpList_nil ?_
  cases hF
  exact qav ⟨m120,c122,M123,c125,M126,le_m70,(ok.pk 5 [4,0,1,2] rfl (by decide)),E.keep [0,2,4,6,35,36,37],(InR.inc r97 (qao h6) c104),h124,h127⟩
 intro e a w _ hO
 obtain ⟨rfl,m128,c129,M130,c132,M133,hle,ok,E,h131,h134⟩:=hO
 have le_m0:=le_m0.trans hle
 have h6:=(mL qaz).up hle h6
 have h8:=(mL qag).up hle h8
 refine qbm<|qab<|sg<|aw E rfl fun a E=>wp_seq<|sg<|fk E ok qbj qbK rfl 0 rfl rfl fun a E=>lv E ok (qbc qbB h6 rfl) fun a E=>mv E rfl fun a E=>wn<|wp_block ?_
 obtain ⟨M146,ok,h147⟩:=qeg (e:=3) (k:=1) (R:=(pI .i64)) ok
 refine bd hF fun o148 hL hF=>qba _ (fun (s:(List (Int)) × Int × Compiler) a w=>∃ m149 c150 M151 c154 M155 c157 M158,m128.le m149 ∧ Ok u m149 (M151 :: [(b21,oc 82 [vi x_1.Kind,vs x_1.Text,vs x_1.Name,vs x_1.Style,c5,c7])] :: [(pb0,oc 57 [c154,c157])] :: M155 :: M158 :: S) w ∧ Env 104 a [(0,vp pb0),(2,vs o22),(6,(vi (o26.Code.Ins.length:Int))),(9,c150),(48,c5),(49,(vi (x_1.Cases.length:Int))),(50,vi s.2.1)] ∧ ORow 3 1 (pI .i64) m149 c150 s.1 M151 ∧ InR .i64 s.2.1 ∧ ORow 9 1 pS m149 c154 s.2.2.Code.Names M155 ∧ ORow 47 4 pIns m149 c157 s.2.2.Code.Ins M158) (fun (b:(Compiler × (List (Int)))) e a w=>e = (.exit 2) ∧ ∃ m368 c369 M370 c372 M373 c375 M376,m128.le m368 ∧ Ok u m368 (M376 :: [(b21,oc 82 [vi x_1.Kind,vs x_1.Text,vs x_1.Name,vs x_1.Style,c5,c7])] :: [(pb0,oc 57 [c369,c372])] :: M370 :: M373 :: S) w ∧ Env 104 a [(0,vp pb0),(9,c375)] ∧ ORow 9 1 pS m368 c369 b.1.Code.Names M370 ∧ ORow 47 4 pIns m368 c372 b.1.Code.Ins M373 ∧ ORow 3 1 (pI .i64) m368 c375 b.2 M376) ?_ ?_ N _ a w hL ⟨m128,(Value.slice none 0 0),M146,c129,M130,c132,M133,Mem.le.refl _,ok,E.keep [0,2,6,9,48,49,50],h147,(ir 0),h131,h134⟩
 rotate_left
 ·as_aux_lemma =>
   intro e a w _ hO
   obtain ⟨rfl,m262,c263,M264,c266,M267,c269,M270,hle,ok,E,h265,h268,h271⟩:=hO
   have le_m0:=le_m0.trans hle
   have h6:=(mL qaz).up hle h6
   have h8:=(mL qag).up hle h8
   refine qbm<|qab<|sg<|mv E rfl fun a E=>lv E ok (qeq qg3 h271 rfl) fun a E=>mv E rfl fun a E=>wn<|wp_block<|bd hF fun o280 hL hF=>qba _ (fun (s:Int × Compiler) a w=>∃ c282 M283 c285 M286,Ok u m262 (M270 :: [(b21,oc 82 [vi x_1.Kind,vs x_1.Text,vs x_1.Name,vs x_1.Style,c5,c7])] :: [(pb0,oc 57 [c282,c285])] :: M283 :: M286 :: S) w ∧ Env 104 a [(0,vp pb0),(83,c269),(84,(vi (o148.2.length:Int))),(85,vi s.1)] ∧ InR .i64 s.1 ∧ ORow 9 1 pS m262 c282 s.2.Code.Names M283 ∧ ORow 47 4 pIns m262 c285 s.2.Code.Ins M286) (fun (b:Compiler) e a w=>e = (.exit 4) ∧ ∃ c362 M363 c365 M366,Ok u m262 (M270 :: [(b21,oc 82 [vi x_1.Kind,vs x_1.Text,vs x_1.Name,vs x_1.Style,c5,c7])] :: [(pb0,oc 57 [c362,c365])] :: M363 :: M366 :: S) w ∧ Env 104 a [] ∧ ORow 9 1 pS m262 c362 b.Code.Names M363 ∧ ORow 47 4 pIns m262 c365 b.Code.Ins M366) ?_ ?_ N _ a w hL ⟨c263,M264,c266,M267,ok,E.keep [0,83,84,85],(ir 0),h265,h268⟩
   rotate_left
   ·intro e a w _ hO
    obtain ⟨rfl,c356,M357,c359,M360,ok,E,h358,h361⟩:=hO
    refine qbm ?_
    exact fin hF ⟨m262,c356,M357,c359,M360,le_m0,ok.drop.drop,E.d,trivial,h358,h361⟩
   rintro ⟨v288,v289⟩ a w r ⟨c291,M292,c294,M295,ok,E,r290,h293,h296⟩ hF
   replace hF:qbT (qaR N) (qaS N) N o148 v288 v289 = some r:=hF
   unfold qbT at hF
   refine sg<|lw E (qaQ rfl rfl) fun a E=>wn<|wp_seq<|cg E rfl hF (fun c297 hF=>?_) fun c297 hF=>?_
   ·refine wp_exit<|qaW ?_
    cases hF
    exact so (⟨rfl,⟨c291,M292,c294,M295,ok,E.keep [],h293,h296⟩⟩)
   refine wp_skip<|qab<|wp_seq<|wp_block<|sg ?_
   obtain ⟨x298,e299,hF⟩:=bnd hF
   obtain ⟨b300,o301,hp302,yy303⟩:=qgc qg3 h271 e299 (P:=Tryz.prog) (X:=.tmp 83) (I:=.tmp 85) (kd:=.i64) (qco E rfl) (qco E rfl)
   refine lv E ok (yy303 _ _) fun a E=>?_
   obtain ⟨es304,hl305,rr306,hh307⟩:=qhN h271 e299 hp302 (by decide)
   obtain ⟨rfl,r308⟩:=rr306
   refine lv E ok (qax qap rfl (hh307 _ _ _ 0 rfl)) fun a E=>aw E rfl fun a E=>bd hF fun o309 hJ hF=>qaI (Q':=fun e a w=>e = .normal ∧ ∃ c310 M311 c313 M314,Ok u m262 (M270 :: [(b21,oc 82 [vi x_1.Kind,vs x_1.Text,vs x_1.Name,vs x_1.Style,c5,c7])] :: [(pb0,oc 57 [c310,c313])] :: M311 :: M314 :: S) w ∧ Env 104 a [(0,vp pb0),(83,c269),(84,(vi (o148.2.length:Int))),(85,vi v288)] ∧ ORow 9 1 pS m262 c310 o309.Code.Names M311 ∧ ORow 47 4 pIns m262 c313 o309.Code.Ins M314) ?_ ?_
   rotate_left
   ·intro e a w hO
    obtain ⟨rfl,c350,M351,c353,M354,ok,E,h352,h355⟩:=hO
    refine qah<|qab<|qac<|lw E (qaG rfl rfl (InR.inc r290 (ORow.InR h271) c297)) fun a E=>mv E rfl fun a E=>wpList_nil ?_
    cases hF
    exact qav ⟨c350,M351,c353,M354,ok,E.keep [0,83,84,85],(InR.inc r290 (ORow.InR h271) c297),h352,h355⟩
   have hF:=hJ
   obtain ⟨x316,e317,hF⟩:=bnd hF
   obtain ⟨l326,e327,hF⟩:=bnd hF
   obtain rfl:=sj hF
   refine qbx [] (Cls u m262 (M270 :: [(b21,oc 82 [vi x_1.Kind,vs x_1.Text,vs x_1.Name,vs x_1.Style,c5,c7])] :: M292 :: [])) (Cls u m262 (M270 :: [(b21,oc 82 [vi x_1.Kind,vs x_1.Text,vs x_1.Name,vs x_1.Style,c5,c7])] :: M292 :: [])) (by kernel_rfl) ?_
   intro w hw
   replace ok:=qbP ok hw
   clear hw
   have le_m262:=Mem.le.refl m262
   refine qau (cl1 (cq le_m262 ok [0,1,3] rfl) (cq le_m262 ok [0,1,3] rfl)) fun hT=>kt 0 E rfl hT (qan rfl) fun a E=>kt 1 E rfl hT (qak rfl) fun a E=>kt 2 E rfl hT (qai qei rfl) fun a E=>kt 3 E rfl hT (qai qdZ rfl) fun a E=>kt 5 E rfl hT (qan rfl) fun a E=>kt 6 E rfl hT (qan rfl) fun a E=>kt 7 E rfl hT (qak rfl) fun a E=>kt 8 E rfl hT (qai qei rfl) fun a E=>kt 9 E rfl hT (qai qdZ rfl) fun a E=>qaU [4,10] (by kernel_rfl) rfl (qhH ?_ (qhH ?_ (qkZ)))
   ·refine wo rfl<|ld E ok qdU 2 rfl rfl rfl fun a E=>wn<|qau (cl1 (cq le_m262 ok [0,1,3] rfl) (cq le_m262 ok [0,1,3] rfl)) fun hT=>qaU [10] (by kernel_rfl) rfl (qa2 ?_)
    ·refine wo rfl<|ld E ok qdU 2 rfl rfl rfl fun a E=>wn<|qau (cl1 (cq le_m262 ok [0,1,3] rfl) (cq le_m262 ok [0,1,3] rfl)) fun hT=>kt 11 E rfl hT (qeq qdz h296 rfl) fun a E=>?_
     obtain ⟨b330,o331,hp332,yy333⟩:=qgc qdz h296 e317 (P:=Tryz.prog) (X:=.tmp 93) (I:=.tmp 94) (kd:=.i64) (qco E rfl) (qco E rfl)
     refine kt 12 E rfl hT (yy333 _ _) fun a E=>kt 13 E rfl hT (qai qhL rfl) fun a E=>qaU [14] (by kernel_rfl) rfl (qa2 ?_)
     ·refine wo rfl<|qg0 (R:=pIns) (f:=1) E ok 4 rfl h296 e317 hp332 rfl rfl rfl qgA rfl rfl rfl ⟨rfl,trivial⟩ (fun es _ h=>by obtain ⟨rfl,r334,r335,r336,l337⟩:=h; exact ⟨rfl,r334,(ORow.InR h296),r336,l337⟩) e327 rfl fun M338 w ok h339=>wn<|qau (cl1 (cq le_m262 ok [0,1,3] rfl) (cq le_m262 ok [0,1,3] rfl)) fun hT=>qbE (by kernel_rfl) ?_
      exact ⟨rfl,⟨c291,M292,c294,M338,ok,E.keep [0,83,84,85],h293,h339⟩⟩
   refine wo rfl<|ld E ok qdU 2 rfl rfl rfl fun a E=>wn<|qau (cl1 (cq le_m262 ok [0,1,3] rfl) (cq le_m262 ok [0,1,3] rfl)) fun hT=>kt 11 E rfl hT (qeq qdz h296 rfl) fun a E=>qaU [4] (by kernel_rfl) rfl (qa2 ?_)
   ·refine wo rfl<|ld E ok qdU 2 rfl rfl rfl fun a E=>wn<|qau (cl1 (cq le_m262 ok [0,1,3] rfl) (cq le_m262 ok [0,1,3] rfl)) fun hT=>?_
    obtain ⟨b340,o341,hp342,yy343⟩:=qgc qdz h296 e317 (P:=Tryz.prog) (X:=.tmp 93) (I:=.tmp 94) (kd:=.i64) (qco E rfl) (qco E rfl)
    refine kt 12 E rfl hT (yy343 _ _) fun a E=>kt 13 E rfl hT (qai qhL rfl) fun a E=>qaU [14] (by kernel_rfl) rfl (qa2 ?_)
    ·refine wo rfl<|qg0 (R:=pIns) (f:=1) E ok 4 rfl h296 e317 hp342 rfl rfl rfl qgA rfl rfl rfl ⟨rfl,trivial⟩ (fun es _ h=>by obtain ⟨rfl,r344,r345,r346,l347⟩:=h; exact ⟨rfl,r344,(ORow.InR h296),r346,l347⟩) e327 rfl fun M348 w ok h349=>wn<|qau (cl1 (cq le_m262 ok [0,1,3] rfl) (cq le_m262 ok [0,1,3] rfl)) fun hT=>qbE (by kernel_rfl) ?_
     exact ⟨rfl,⟨c291,M292,c294,M348,ok,E.keep [0,83,84,85],h293,h349⟩⟩
 rintro ⟨v160,v161,v162⟩ a w r ⟨m163,c164,M165,c168,M169,c171,M172,hle,ok,E,h166,r167,h170,h173⟩ hF
 replace hF:qbU (qaR N) (qaS N) N x_1 o22 o26 v160 v161 v162 = some r:=hF
 unfold qbU at hF
 have le_m128:=Mem.le.refl m128
 have le_m0:=le_m0.trans hle
 have le_m128:=le_m128.trans hle
 have h6:=(mL qaz).up hle h6
 have h8:=(mL qag).up hle h8
 refine sg<|lw E (qaQ rfl rfl) fun a E=>wn<|wp_seq<|cg E rfl hF (fun c174 hF=>?_) fun c174 hF=>?_
 ·refine wp_exit<|qaW ?_
  cases hF
  exact so (⟨rfl,⟨m163,c168,M169,c171,M172,c164,M165,le_m128,ok,E.keep [0,9],h170,h173,h166⟩⟩)
 refine wp_skip<|qab<|wp_seq<|wp_block<|sg<|mv E rfl fun a E=>?_
 obtain ⟨x175,e176,hF⟩:=bnd hF
 obtain ⟨b177,o178,es179,hl180,rr181,at182,yy183⟩:=ia E 48 50 qbB h6 e176
 obtain ⟨c185,rfl,l184,h186⟩:=rr181
 refine lv E ok (yy183 _ _) fun a E=>lv E ok (qar (cs:=[vs x175.Key,c185]) qkU rfl rfl (qae.ro at182)) fun a E=>qa1 E ok qcZ rfl rfl fun b187 a w E ok=>av E rfl fun a E=>qad E ok 0 rfl rfl rfl qlj rfl rfl ⟨rfl,(qbY h186),trivial⟩ rfl rfl fun w ok=>wn<|wp_seq<|bd hF fun o188 hJ hF=>qaI (Q':=fun e a w=>e = .normal ∧ ∃ c189 M190 c192 M193,Ok u m163 ([(b187,oc 85 [vs x175.Key,c185])] :: M165 :: [(b21,oc 82 [vi x_1.Kind,vs x_1.Text,vs x_1.Name,vs x_1.Style,c5,c7])] :: [(pb0,oc 57 [c189,c192])] :: M190 :: M193 :: S) w ∧ Env 104 a [(0,vp pb0),(2,vs o22),(6,(vi (o26.Code.Ins.length:Int))),(9,c164),(11,vp b187),(48,c5),(49,(vi (x_1.Cases.length:Int))),(50,vi v161)] ∧ ORow 9 1 pS m163 c189 o188.Code.Names M190 ∧ ORow 47 4 pIns m163 c192 o188.Code.Ins M193) ?_ ?_
 rotate_left
 ·intro e a w hO
  obtain ⟨rfl,c229,M230,c232,M233,ok,E,h231,h234⟩:=hO
  refine qab<|sg<|mv E rfl fun a E=>fk E ok qeW qb0 rfl 0 rfl rfl fun a E=>mv E rfl fun a E=>?_
  obtain ⟨r235,e236,hF⟩:=bnd hF
  replace ok:Ok u m163 ([(pb0,oc 57 [c229,c232])] :: M230 :: M233 :: [(b187,oc 85 [vs x175.Key,c185])] :: M165 :: [(b21,oc 82 [vi x_1.Kind,vs x_1.Text,vs x_1.Name,vs x_1.Style,c5,c7])] :: S) w:=(ok.pk 6 [3,4,5,0,1,2] rfl (by decide))
  refine qaf E qmd rfl (ih_compile_compiler_parts _ x175.Parts h186 o22 l25 o188 h231 h234 e236 hG ok) rfl rfl ?_
  rintro _ w ⟨m237,c238,M239,c241,M242,rfl,hle,ok,h240,h243⟩
  have le_m0:=le_m0.trans hle
  have le_m128:=le_m128.trans hle
  have h6:=(mL qaz).up hle h6
  have h8:=(mL qag).up hle h8
  have h166:=ORow.up (mI .i64) hle h166
  have h186:=(mL qag).up hle h186
  have at182:=At.up hle at182
  refine ⟨_,rfl,fun a E=>?_⟩
  refine wn<|qac<|mz E rfl rfl fun a E=>lw E (qaq (ps:=[(0,.const (vi 12))]) (qs:=[(0,[vi 12])]) (cs:=[vi 12,vi 0,vi 0,(vs ([]))]) qdj qc3 rfl ⟨rfl,rfl,rfl,trivial⟩ rfl) fun a E=>bd hF fun r244 e245 hF=>qaf E qfS rfl (qbb N _ (Ins.mk 12 0 0 ([])) ⟨rfl,(ir 12),(ir 0),(ir 0),(Nat.zero_le _)⟩ r235 h240 h243 e245 hG ok) rfl rfl ?_
  rintro _ w ⟨m246,c248,M249,c251,M252,rfl,hle,ok,r247,h250,h253⟩
  have le_m0:=le_m0.trans hle
  have le_m128:=le_m128.trans hle
  have h6:=(mL qaz).up hle h6
  have h8:=(mL qag).up hle h8
  have h166:=ORow.up (mI .i64) hle h166
  have h186:=(mL qag).up hle h186
  have at182:=At.up hle at182
  refine ⟨_,rfl,fun a E=>?_⟩
  refine qbu (R:=(pI .i64)) (xo:=[.tmp 79]) (xs:=([r244.1]:List (Int))) E ok qg3 qlq rfl ⟨⟨_,rfl,rfl,(qdL r247)⟩,trivial⟩ rfl rfl rfl rfl fun c254 M255 a w E ok h256=>bd hF fun l257 e258 hF=>qcz (R:=(pI .i64)) E ok 5 (mI .i64) qg3 Tryz.underlying74 rfl h166 (qby.ofRow h256 0 rfl ok) e258 ⟨_,qlq,rfl⟩ rfl rfl rfl rfl fun c259 M260 a w E ok h261=>av E rfl fun a E=>wpList_nil<|qah<|qab<|qac<|lw E (qaG rfl rfl (InR.inc r167 (qao h6) c174)) fun a E=>mv E rfl fun a E=>wpList_nil ?_
  cases hF
  exact qav ⟨m246,c259,M260,c248,M249,c251,M252,le_m128,(ok.pk 7 [5,6,1,2,3] rfl (by decide)),E.keep [0,2,6,9,48,49,50],h261,(InR.inc r167 (qao h6) c174),h250,h253⟩
 have hF:=hJ
 obtain ⟨x195,e196,hF⟩:=bnd hF
 obtain ⟨l205,e206,hF⟩:=bnd hF
 obtain rfl:=sj hF
 refine qbx [] (Cls u m163 ([(b187,oc 85 [vs x175.Key,c185])] :: M165 :: [(b21,oc 82 [vi x_1.Kind,vs x_1.Text,vs x_1.Name,vs x_1.Style,c5,c7])] :: M169 :: [])) (Cls u m163 ([(b187,oc 85 [vs x175.Key,c185])] :: M165 :: [(b21,oc 82 [vi x_1.Kind,vs x_1.Text,vs x_1.Name,vs x_1.Style,c5,c7])] :: M169 :: [])) (by kernel_rfl) ?_
 intro w hw
 replace ok:=qbP ok hw
 clear hw
 have le_m163:=Mem.le.refl m163
 refine qau (cl1 (cq le_m163 ok [0,1,2,4] rfl) (cq le_m163 ok [0,1,2,4] rfl)) fun hT=>kt 0 E rfl hT (qan rfl) fun a E=>kt 1 E rfl hT (qak rfl) fun a E=>kt 2 E rfl hT (qai qei rfl) fun a E=>kt 3 E rfl hT (qai qdZ rfl) fun a E=>kt 5 E rfl hT (qan rfl) fun a E=>kt 6 E rfl hT (qan rfl) fun a E=>kt 7 E rfl hT (qaN rfl rfl) fun a E=>kt 8 E rfl hT (qan rfl) fun a E=>kt 9 E rfl hT (qak rfl) fun a E=>kt 10 E rfl hT (qai qei rfl) fun a E=>kt 11 E rfl hT (qai qdZ rfl) fun a E=>qaU [4,12] (by kernel_rfl) rfl (qhH ?_ (qhH ?_ (qkZ)))
 ·refine wo rfl<|ld E ok qdU 3 rfl rfl rfl fun a E=>wn<|qau (cl1 (cq le_m163 ok [0,1,2,4] rfl) (cq le_m163 ok [0,1,2,4] rfl)) fun hT=>qaU [12] (by kernel_rfl) rfl (qa2 ?_)
  ·refine wo rfl<|ld E ok qdU 3 rfl rfl rfl fun a E=>wn<|qau (cl1 (cq le_m163 ok [0,1,2,4] rfl) (cq le_m163 ok [0,1,2,4] rfl)) fun hT=>kt 13 E rfl hT (qeq qdz h173 rfl) fun a E=>?_
   obtain ⟨b209,o210,hp211,yy212⟩:=qgc qdz h173 e196 (P:=Tryz.prog) (X:=.tmp 59) (I:=.tmp 62) (kd:=.i64) (qco E rfl) (qco E rfl)
   refine kt 14 E rfl hT (yy212 _ _) fun a E=>kt 15 E rfl hT (qai qhL rfl) fun a E=>qaU [16] (by kernel_rfl) rfl (qa2 ?_)
   ·refine wo rfl<|qg0 (R:=pIns) (f:=1) E ok 5 rfl h173 e196 hp211 rfl rfl rfl qgA rfl rfl rfl ⟨rfl,trivial⟩ (fun es _ h=>by obtain ⟨rfl,r213,r214,r215,l216⟩:=h; exact ⟨rfl,r213,(ORow.InR h173),r215,l216⟩) e206 rfl fun M217 w ok h218=>wn<|qau (cl1 (cq le_m163 ok [0,1,2,4] rfl) (cq le_m163 ok [0,1,2,4] rfl)) fun hT=>qbE (by kernel_rfl) ?_
    exact ⟨rfl,⟨c168,M169,c171,M217,ok,E.keep [0,2,6,9,11,48,49,50],h170,h218⟩⟩
 refine wo rfl<|ld E ok qdU 3 rfl rfl rfl fun a E=>wn<|qau (cl1 (cq le_m163 ok [0,1,2,4] rfl) (cq le_m163 ok [0,1,2,4] rfl)) fun hT=>kt 13 E rfl hT (qeq qdz h173 rfl) fun a E=>qaU [4] (by kernel_rfl) rfl (qa2 ?_)
 ·refine wo rfl<|ld E ok qdU 3 rfl rfl rfl fun a E=>wn<|qau (cl1 (cq le_m163 ok [0,1,2,4] rfl) (cq le_m163 ok [0,1,2,4] rfl)) fun hT=>?_
  obtain ⟨b219,o220,hp221,yy222⟩:=qgc qdz h173 e196 (P:=Tryz.prog) (X:=.tmp 59) (I:=.tmp 62) (kd:=.i64) (qco E rfl) (qco E rfl)
  refine kt 14 E rfl hT (yy222 _ _) fun a E=>kt 15 E rfl hT (qai qhL rfl) fun a E=>qaU [16] (by kernel_rfl) rfl (qa2 ?_)
  ·refine wo rfl<|qg0 (R:=pIns) (f:=1) E ok 5 rfl h173 e196 hp221 rfl rfl rfl qgA rfl rfl rfl ⟨rfl,trivial⟩ (fun es _ h=>by obtain ⟨rfl,r223,r224,r225,l226⟩:=h; exact ⟨rfl,r223,(ORow.InR h173),r225,l226⟩) e206 rfl fun M227 w ok h228=>wn<|qau (cl1 (cq le_m163 ok [0,1,2,4] rfl) (cq le_m163 ok [0,1,2,4] rfl)) fun hT=>qbE (by kernel_rfl) ?_
   exact ⟨rfl,⟨c168,M169,c171,M227,ok,E.keep [0,2,6,9,11,48,49,50],h170,h228⟩⟩
theorem qhi:qcO 0:=by
 intro u m0 S w vl_1 l_1 hl_1 count_2 lcount_2 pb0 c1 M2 c4 M5 x0 h3 h6 r hF hG ok
 replace hF:none = some r:=hF
 cases hF
theorem qgp:qcr 0:=by
 intro u m0 S w vx_1 x_1 hx_1 count_2 lcount_2 pb0 c9 M10 c12 M13 x0 h11 h14 r hF hG ok
 replace hF:none = some r:=hF
 cases hF
theorem qgs (N:Nat):qcO N ∧ qcr N:=by
 induction N with
 | zero=>exact ⟨qhi,qgp⟩
 | succ N h=>exact ⟨qg8 N h.1 h.2,qgo N h.1 h.2⟩
theorem qhX {u:World} {m0:Mem} {S:Segs} {w:World} (N:Nat) (vl_1:Value) (l_1:List (Part)) (hl_1:(pL 6 qaM) m0 [vl_1] l_1) (count_2:List UInt8) (lcount_2:count_2.length ≤ LIMS) {pb0:Nat} {c1:Value} {M2:List (Nat × Obj)} {c4:Value} {M5:List (Nat × Obj)} (x0:Compiler) (h3:ORow 9 1 pS m0 c1 x0.Code.Names M2) (h6:ORow 47 4 pIns m0 c4 x0.Code.Ins M5) {r:Compiler} (hF:qaR N l_1 count_2 x0 = some r) (hG:Glob u) (ok:Ok u m0 ([(pb0,oc 57 [c1,c4])] :: M2 :: M5 :: S) w) :
 Calls Tryz.prog 31 [vp pb0,vl_1,vs count_2].toArray w fun e w'=>∃ m1 c7 M8 c10 M11,e = .returned (.tuple [].toArray) ∧ m0.le m1 ∧ Ok u m1 ([(pb0,oc 57 [c7,c10])] :: M8 :: M11 :: S) w' ∧ ORow 9 1 pS m1 c7 r.Code.Names M8 ∧ ORow 47 4 pIns m1 c10 r.Code.Ins M11:=(qgs N).1 vl_1 l_1 hl_1 count_2 lcount_2 x0 h3 h6 hF hG ok
def qku (u:World) (m0:Mem) (S:Segs) (r:Code × Int) (a:Act) (w:World):Prop :=
 ∃ m1 v0,m0.le m1 ∧ Ok u m1 S w ∧ a.defers = [] ∧ RVs Tryz.prog a w [.c 2 28 (.agg v0.toArray),.t 3 (.int .i64 r.2)] ∧ qlb m1 v0 r.1 ∧ InR .i64 r.2
theorem qf7 (N:Nat) (vparts_0:Value) (parts_0:List (Part)) (hparts_0:(pL 6 qaM) m0 [vparts_0] parts_0) {r:Code × Int} (hF:qdp N parts_0 = some r) (hG:Glob u) (ok:Ok u m0 S w) :
  Calls Tryz.prog 11 [vparts_0].toArray w fun e w'=>∃ m1 v0,e = .returned (.tuple [(.agg v0.toArray),(.int .i64 r.2)].toArray) ∧ m0.le m1 ∧ Ok u m1 S w' ∧ qlb m1 v0 r.1 ∧ InR .i64 r.2:=by
 have le_m0:=Mem.le.refl m0
 unfold qdp at hF
 refine en (qku u m0 S) r Tryz.func11 rfl rfl rfl (by rintro a w ⟨m1,v0,hle,ok,hd,hrv,h0,h1⟩; exact qbD [.c 2 28 (.agg v0.toArray),.t 3 (.int .i64 r.2)] hd rfl hrv ⟨m1,v0,rfl,hle,ok,h0,h1⟩) fun fin a E=>sg<|qa1 E ok qhJ rfl rfl fun b1 a w E ok=>aw E rfl fun a E=>wp_seq<|sg<|mv E rfl fun a E=>bd hF fun r2 e3 hF=>lc E qrm rfl (qlI N _ parts_0 hparts_0 e3 hG ok) fun w ok a E=>lw E (qbg rfl) fun a E=>wn<|cf E rfl hF (fun c4 hF=>?_) fun c4 hF=>?_
 ·refine sg<|lw E (qaq (ps:=[]) (qs:=[]) (cs:=[(Value.slice none 0 0),(Value.slice none 0 0)]) qhJ qlX rfl trivial rfl) fun a E=>qad E ok 0 rfl rfl rfl qj1 rfl rfl ⟨rfl,rfl,trivial⟩ rfl rfl fun w ok=>aw E rfl fun a E=>wp_ret<|qaj ?_
  exact fin hF ⟨m0,[(Value.slice none 0 0),(Value.slice none 0 0)],le_m0,ok.drop,E.d,⟨rv_c (cs:=[(Value.slice none 0 0),(Value.slice none 0 0)]) E ok rfl qh5 rfl (qae.own 0 rfl rfl),rv_t E rfl,trivial⟩,⟨_,_,rfl,qb8,qb8⟩,(ir 1)⟩
 refine wp_skip<|qab<|sg<|lw E (qaq (ps:=[]) (qs:=[]) (cs:=[(Value.slice none 0 0),(Value.slice none 0 0)]) qqr qok rfl trivial rfl) fun a E=>qfR E ok rfl rfl rfl fun b5 a w E ok=>av E rfl fun a E=>wn<|sg<|mz E rfl rfl fun a E=>?_
 obtain ⟨M6,ok,h7⟩:=qeg (e:=9) (k:=1) (R:=pS) ok
 obtain ⟨M8,ok,h9⟩:=qeg (e:=47) (k:=4) (R:=pIns) ok
 obtain ⟨r10,e11,hF⟩:=bnd hF
 replace ok:Ok u m0 ([(b5,oc 57 [(Value.slice none 0 0),(Value.slice none 0 0)])] :: M6 :: M8 :: [(b1,oc 28 [(Value.slice none 0 0),(Value.slice none 0 0)])] :: S) w:=(ok.pk 4 [2,1,0,3] rfl (by decide))
 refine qaf E qmd rfl (qhX N _ parts_0 hparts_0 ([]) (show ([]:List UInt8).length ≤ LIMS by decide) (Compiler.mk (Code.mk ([]) ([]))) h7 h9 e11 hG ok) rfl rfl ?_
 rintro _ w ⟨m12,c13,M14,c16,M17,rfl,hle,ok,h15,h18⟩
 have le_m0:=le_m0.trans hle
 have hparts_0:=(mL qag).up hle hparts_0
 refine ⟨_,rfl,fun a E=>?_⟩
 refine wn<|sg<|mv E rfl fun a E=>lw E (qaq (ps:=[(0,.const (vi 13))]) (qs:=[(0,[vi 13])]) (cs:=[vi 13,vi 0,vi 0,(vs ([]))]) qdj qc3 rfl ⟨rfl,rfl,rfl,trivial⟩ rfl) fun a E=>bd hF fun r19 e20 hF=>qaf E qfS rfl (qbb N _ (Ins.mk 13 0 0 ([])) ⟨rfl,(ir 13),(ir 0),(ir 0),(Nat.zero_le _)⟩ r10 h15 h18 e20 hG ok) rfl rfl ?_
 rintro _ w ⟨m21,c23,M24,c26,M27,rfl,hle,ok,r22,h25,h28⟩
 have le_m0:=le_m0.trans hle
 have hparts_0:=(mL qag).up hle hparts_0
 refine ⟨_,rfl,fun a E=>?_⟩
 refine wn<|sg<|mv E rfl fun a E=>lw E (qak rfl) fun a E=>fv E qei rfl fun a E=>lv E ok (qar (cs:=[c23,c26]) qh5 rfl rfl (qae.own 0 rfl rfl)) fun a E=>qad E ok 3 rfl rfl rfl qj1 rfl rfl ⟨(ORow.one h25),(ORow.one h28),trivial⟩ rfl rfl fun w ok=>aw E rfl fun a E=>wp_ret ?_
 obtain ⟨m29,hle,ok,hfz⟩:=(ok.frs 1 rfl).freeze
 have h30:=ORow.froz mS h25 hle hfz (by decide)
 have le_m0:=le_m0.trans hle
 have hparts_0:=(mL qag).up hle hparts_0
 have h28:=ORow.up mIns hle h28
 obtain ⟨m31,hle,ok,hfz⟩:=(ok.frs 1 rfl).freeze
 have h32:=ORow.froz mIns h28 hle hfz (by decide)
 have le_m0:=le_m0.trans hle
 have hparts_0:=(mL qag).up hle hparts_0
 have h30:=(mL mS).up hle h30
 exact fin hF ⟨m31,[c23,c26],le_m0,ok.drop.drop,E.d,⟨rv_c (cs:=[c23,c26]) E ok rfl qh5 rfl (qae.own 1 rfl rfl),rv_t E rfl,trivial⟩,⟨_,_,rfl,h30,h32⟩,(ir 0)⟩
def qeS (u:World) (m0:Mem) (S:Segs) (r:Bool) (a:Act) (w:World):Prop :=
 Ok u m0 S w ∧ a.defers = [] ∧ RVs Tryz.prog a w [.t 4 (.bool r)]
theorem qgZ (N:Nat) (vs1_0:Value) (s1_0:List (List UInt8)) (hs1_0:(pL 1 pS) m0 [vs1_0] s1_0) (vs2_1:Value) (s2_1:List (List UInt8)) (hs2_1:(pL 1 pS) m0 [vs2_1] s2_1) {r:Bool} (hF:qdh N s1_0 s2_1 = some r) (hG:Glob u) (ok:Ok u m0 S w) :
  Calls Tryz.prog 41 [vs1_0,vs2_1].toArray w fun e w'=>(e = .returned (.bool r) ∧ Ok u m0 S w'):=by
 unfold qdh at hF
 refine en (qeS u m0 S) r Tryz.func41 rfl rfl rfl (fun _ _ h=>ra h rfl) fun fin a E=>sg<|aw E rfl fun a E=>wp_seq<|sg<|mv E rfl fun a E=>lv E ok (qbc qcg hs1_0 rfl) fun a E=>mv E rfl fun a E=>lv E ok (qbc qcg hs2_1 rfl) fun a E=>lw E (qbr rfl rfl) fun a E=>wn<|cf E rfl hF (fun c1 hF=>?_) fun c1 hF=>?_
 ·refine sg<|aw E rfl fun a E=>wp_ret<|qaj ?_
  exact fin hF ⟨ok,E.d,rz E rfl⟩
 refine wp_skip<|qab<|wp_seq<|sg<|mv E rfl fun a E=>lv E ok (qbc qcg hs1_0 rfl) fun a E=>mv E rfl fun a E=>wn<|wp_block<|bd hF fun o3 hL hF=>qba _ (fun (s:Int) a w=>Ok u m0 (S) w ∧ Env 26 a [(0,vs1_0),(1,vs2_1),(12,(vi (s1_0.length:Int))),(13,vi s)] ∧ InR .i64 s) (fun (b:(Unit ⊕ Bool)) e a w=>(Sum.elim (fun b29=>e = (.exit 0) ∧ Ok u m0 (S) w ∧ Env 26 a []) (fun b30=>e = .ret ∧ qeS u m0 S b30 a w)) b) ?_ ?_ N _ a w hL ⟨ok,E.keep [0,1,12,13],(ir 0)⟩
 rotate_left
 ·intro e a w _ hO
  rcases o3 with o3 | o3
  rotate_left
  ·obtain ⟨rfl,hret⟩:=hO
   refine qaE<|qaj ?_
   exact fin hF hret
  have hF:=qce hF
  obtain ⟨rfl,ok,E⟩:=hO
  refine qbm<|qab<|sg<|aw E rfl fun a E=>wp_ret ?_
  exact fin hF ⟨ok,E.d,rz E rfl⟩
 rintro v5 a w r ⟨ok,E,r6⟩ hF
 replace hF:qbS N s1_0 s2_1 v5 = some r:=hF
 unfold qbS at hF
 refine sg<|lw E (qaQ rfl rfl) fun a E=>wn<|wp_seq<|cg E rfl hF (fun c7 hF=>?_) fun c7 hF=>?_
 ·refine wp_exit<|qaW ?_
  cases hF
  exact so (sl ⟨rfl,⟨ok,E.keep []⟩⟩)
 refine wp_skip<|qab<|wp_seq<|wp_block<|sg<|mv E rfl fun a E=>av E rfl fun a E=>wn<|wp_seq<|qdS (by kernel_rfl) (by kernel_rfl) ok<|qv E (qan rfl) fun a E=>qv E (qan rfl) fun a E=>?_
 obtain ⟨x8,e9,hF⟩:=bnd hF
 obtain ⟨b10,o11,es12,hl13,rr14,at15,yy16⟩:=ia E 16 17 qcg hs1_0 e9
 obtain ⟨rfl,l17⟩:=rr14
 refine qv E (yy16 _ _) fun a E=>qv E (qax qal rfl (qae.ro at15)) fun a E=>qv E (qan rfl) fun a E=>qv E (qan rfl) fun a E=>?_
 obtain ⟨x18,e19,hF⟩:=bnd hF
 obtain ⟨b20,o21,es22,hl23,rr24,at25,yy26⟩:=ia E 20 21 qcg hs2_1 e19
 obtain ⟨rfl,l27⟩:=rr24
 refine qv E (yy26 _ _) fun a E=>qv E (qax qal rfl (qae.ro at25)) fun a E=>qv E (qc1 rfl rfl) fun a E=>wpQuiet_nil ?_
 intro w ok
 refine qab<|cg E rfl hF (fun c28 hF=>?_) fun c28 hF=>?_
 ·refine wp_skip<|qah<|qab<|qac<|lw E (qaG rfl rfl (InR.inc r6 (qao hs1_0) c7)) fun a E=>mv E rfl fun a E=>wpList_nil ?_
  cases hF
  exact qav ⟨ok,E.keep [0,1,12,13],(InR.inc r6 (qao hs1_0) c7)⟩
 refine sg<|aw E rfl fun a E=>wp_ret<|qaE<|qaj ?_
 cases hF
 exact so (sr ⟨rfl,⟨ok,E.d,rz E rfl⟩⟩)
def qdD (u:World) (m0:Mem) (S:Segs) (r:Bool) (a:Act) (w:World):Prop :=
 Ok u m0 S w ∧ a.defers = [] ∧ RVs Tryz.prog a w [.t 4 (.bool r)]
theorem qfx (N:Nat) (vs1_0:Value) (s1_0:List (Ins)) (hs1_0:(pL 4 pIns) m0 [vs1_0] s1_0) (vs2_1:Value) (s2_1:List (Ins)) (hs2_1:(pL 4 pIns) m0 [vs2_1] s2_1) {r:Bool} (hF:qcf N s1_0 s2_1 = some r) (hG:Glob u) (ok:Ok u m0 S w) :
  Calls Tryz.prog 42 [vs1_0,vs2_1].toArray w fun e w'=>(e = .returned (.bool r) ∧ Ok u m0 S w'):=by
 unfold qcf at hF
 refine en (qdD u m0 S) r Tryz.func42 rfl rfl rfl (fun _ _ h=>ra h rfl) fun fin a E=>sg<|aw E rfl fun a E=>wp_seq<|sg<|mv E rfl fun a E=>lv E ok (qbc qdz hs1_0 rfl) fun a E=>mv E rfl fun a E=>lv E ok (qbc qdz hs2_1 rfl) fun a E=>lw E (qbr rfl rfl) fun a E=>wn<|cf E rfl hF (fun c1 hF=>?_) fun c1 hF=>?_
 ·refine sg<|aw E rfl fun a E=>wp_ret<|qaj ?_
  exact fin hF ⟨ok,E.d,rz E rfl⟩
 refine wp_skip<|qab<|wp_seq<|sg<|mv E rfl fun a E=>lv E ok (qbc qdz hs1_0 rfl) fun a E=>mv E rfl fun a E=>wn<|wp_block<|bd hF fun o3 hL hF=>qba _ (fun (s:Int) a w=>Ok u m0 (S) w ∧ Env 26 a [(0,vs1_0),(1,vs2_1),(12,(vi (s1_0.length:Int))),(13,vi s)] ∧ InR .i64 s) (fun (b:(Unit ⊕ Bool)) e a w=>(Sum.elim (fun b35=>e = (.exit 0) ∧ Ok u m0 (S) w ∧ Env 26 a []) (fun b36=>e = .ret ∧ qdD u m0 S b36 a w)) b) ?_ ?_ N _ a w hL ⟨ok,E.keep [0,1,12,13],(ir 0)⟩
 rotate_left
 ·intro e a w _ hO
  rcases o3 with o3 | o3
  rotate_left
  ·obtain ⟨rfl,hret⟩:=hO
   refine qaE<|qaj ?_
   exact fin hF hret
  have hF:=qce hF
  obtain ⟨rfl,ok,E⟩:=hO
  refine qbm<|qab<|sg<|aw E rfl fun a E=>wp_ret ?_
  exact fin hF ⟨ok,E.d,rz E rfl⟩
 rintro v5 a w r ⟨ok,E,r6⟩ hF
 replace hF:qbl N s1_0 s2_1 v5 = some r:=hF
 unfold qbl at hF
 refine sg<|lw E (qaQ rfl rfl) fun a E=>wn<|wp_seq<|cg E rfl hF (fun c7 hF=>?_) fun c7 hF=>?_
 ·refine wp_exit<|qaW ?_
  cases hF
  exact so (sl ⟨rfl,⟨ok,E.keep []⟩⟩)
 refine wp_skip<|qab<|wp_seq<|wp_block<|sg<|mv E rfl fun a E=>av E rfl fun a E=>wn<|wp_seq<|qdS (by kernel_rfl) (by kernel_rfl) ok<|qv E (qan rfl) fun a E=>qv E (qan rfl) fun a E=>?_
 obtain ⟨x8,e9,hF⟩:=bnd hF
 obtain ⟨b10,o11,es12,hl13,rr14,at15,yy16⟩:=ia E 16 17 qdz hs1_0 e9
 obtain ⟨rfl,r17,r18,r19,l20⟩:=rr14
 refine qv E (yy16 _ _) fun a E=>qv E (qar (cs:=[vi x8.Op,vi x8.A,vi x8.B,vs x8.S]) qj5 rfl rfl (qae.ro at15)) fun a E=>qv E (qan rfl) fun a E=>qv E (qan rfl) fun a E=>?_
 obtain ⟨x21,e22,hF⟩:=bnd hF
 obtain ⟨b23,o24,es25,hl26,rr27,at28,yy29⟩:=ia E 20 21 qdz hs2_1 e22
 obtain ⟨rfl,r30,r31,r32,l33⟩:=rr27
 refine qv E (yy29 _ _) fun a E=>qv E (qar (cs:=[vi x21.Op,vi x21.A,vi x21.B,vs x21.S]) qj5 rfl rfl (qae.ro at28)) fun a E=>qv E (qq3 qoq (qlm Tryz.underlying47 qmX (qfK (by decide) (qbe qap rfl) (qbe qap rfl) (qhK Tryz.underlying3) (qfK (by decide) (qbe qap rfl) (qbe qap rfl) (qhK Tryz.underlying3) (qfK (by decide) (qbe qap rfl) (qbe qap rfl) (qhK Tryz.underlying3) (qlV (by decide) (qbe qal rfl) (qbe qal rfl) (qnm Tryz.underlying9)))))) rfl rfl) fun a E=>wpQuiet_nil ?_
 intro w ok
 refine qab<|cg E rfl hF (fun c34 hF=>?_) fun c34 hF=>?_
 ·refine wp_skip<|qah<|qab<|qac<|lw E (qaG rfl rfl (InR.inc r6 (qao hs1_0) c7)) fun a E=>mv E rfl fun a E=>wpList_nil ?_
  cases hF
  exact qav ⟨ok,E.keep [0,1,12,13],(InR.inc r6 (qao hs1_0) c7)⟩
 refine sg<|aw E rfl fun a E=>wp_ret<|qaE<|qaj ?_
 cases hF
 exact so (sr ⟨rfl,⟨ok,E.d,rz E rfl⟩⟩)
def qk6 (u:World) (m0:Mem) (S:Segs) (r:Bool) (a:Act) (w:World):Prop :=
 Ok u m0 S w ∧ a.defers = [] ∧ RVs Tryz.prog a w [.t 4 (.bool r)]
theorem qio (N:Nat) (va_0:List Value) (a_0:Code) (ha_0:qlb m0 va_0 a_0) (vb_1:List Value) (b_1:Code) (hb_1:qlb m0 vb_1 b_1) {r:Bool} (hF:qez N a_0 b_1 = some r) (hG:Glob u) (ok:Ok u m0 S w) :
  Calls Tryz.prog 19 [.agg va_0.toArray,.agg vb_1.toArray].toArray w fun e w'=>(e = .returned (.bool r) ∧ Ok u m0 S w'):=by
 obtain ⟨c1,c3,rfl,h2,h4⟩:=ha_0
 obtain ⟨c5,c7,rfl,h6,h8⟩:=hb_1
 unfold qez at hF
 refine en (qk6 u m0 S) r Tryz.func19 rfl rfl rfl (fun _ _ h=>ra h rfl) fun fin a E=>sg<|qfR E ok rfl rfl rfl fun b9 a w E ok=>qfR E ok rfl rfl rfl fun b10 a w E ok=>aw E rfl fun a E=>sg<|fk E ok qhM qhg rfl 1 rfl rfl fun a E=>fk E ok qhM qhg rfl 0 rfl rfl fun a E=>bd hF fun r11 e12 hF=>lc E qrx rfl (qgZ N _ a_0.Names h2 _ b_1.Names h6 e12 hG ok) fun w ok a E=>mv E rfl fun a E=>qbw r11 (fun c13=>?_) (fun c13=>?_)
 rotate_left
 ·have hF:=qbq c13 hF
  have E:=E.upd 10 c13 rfl
  refine lsz E fun a E=>ls E fun a E=>pf E rfl rfl fun a E=>av E rfl fun a E=>wn<|wp_ret ?_
  exact fin hF ⟨ok.drop.drop,E.d,rz E rfl⟩
 have hF:=qbp c13 hF
 have E:=E.upd 10 c13 rfl
 refine fk E ok qdZ qdU rfl 1 rfl rfl fun a E=>fk E ok qdZ qdU rfl 0 rfl rfl fun a E=>bd hF fun r14 e15 hF=>lc E qrL rfl (qfx N _ a_0.Ins h4 _ b_1.Ins h8 e15 hG ok) fun w ok a E=>pt E rfl rfl fun a E=>aw E rfl fun a E=>wp_ret ?_
 exact fin hF ⟨ok.drop.drop,E.d,rz E rfl⟩
def qiU (u:World) (m0:Mem) (S:Segs) (r:Replacer) (a:Act) (w:World):Prop :=
 ∃ m1 b0 c4 M5,m0.le m1 ∧ Ok u m1 ([(b0,oc 110 [(Value.int .u32 r.once.done.v),(Value.int .i32 r.once.m.mu.state),(Value.int .u32 r.once.m.mu.sema),Value.nilIface,c4])] :: M5 :: S) w ∧ a.defers = [] ∧ RVs Tryz.prog a w [.t 2 (.pointer (some ⟨b0,0,none⟩))] ∧ InR .u32 r.once.done.v ∧ InR .i32 r.once.m.mu.state ∧ InR .u32 r.once.m.mu.sema ∧ ORow 9 1 pS m1 c4 r.oldnew M5
theorem qiW (N:Nat) (voldnew_0:Value) (oldnew_0:List (List UInt8)) (holdnew_0:(pL 1 pS) m0 [voldnew_0] oldnew_0) {r:Replacer} (hF:qfn N oldnew_0 = some r) (hG:Glob u) (ok:Ok u m0 (S) w) :
  Calls Tryz.prog 34 [voldnew_0].toArray w fun e w'=>∃ m1 b0 c4 M5,e = .returned (.pointer (some ⟨b0,0,none⟩)) ∧ m0.le m1 ∧ Ok u m1 ([(b0,oc 110 [(Value.int .u32 r.once.done.v),(Value.int .i32 r.once.m.mu.state),(Value.int .u32 r.once.m.mu.sema),Value.nilIface,c4])] :: M5 :: S) w' ∧ InR .u32 r.once.done.v ∧ InR .i32 r.once.m.mu.state ∧ InR .u32 r.once.m.mu.sema ∧ ORow 9 1 pS m1 c4 r.oldnew M5:=by
 have le_m0:=Mem.le.refl m0
 unfold qfn at hF
 refine en (qiU u m0 S) r Tryz.func34 rfl rfl rfl (by rintro a w ⟨m1,b0,c4,M5,hle,ok,hd,hrv,h0,h1,h2,h3⟩; exact qbD [.t 2 (.pointer (some ⟨b0,0,none⟩))] hd rfl hrv ⟨m1,b0,c4,M5,rfl,hle,ok,h0,h1,h2,h3⟩) fun fin a E=>sg<|aw E rfl fun a E=>wp_seq<|sg<|mv E rfl fun a E=>lv E ok (qbc qcg holdnew_0 rfl) fun a E=>bd hF fun q7 e8 hF=>lw E (y_rm rfl rfl e8) fun a E=>lw E (qam rfl rfl) fun a E=>wn<|bd hF fun o9 hJ hF=>qaI (Q':=fun e a w=>e = .normal ∧ Ok u m0 (S) w ∧ Env 12 a [(0,voldnew_0)]) ?_ ?_
 ·have hF:=hJ
  refine cf E rfl hF (fun c10 hF=>?_) fun c10 hF=>?_
  ·cases hF
  refine wp_skip ?_
  cases hF
  exact ⟨rfl,⟨ok,E.keep [0]⟩⟩
 intro e a w hO
 obtain ⟨rfl,ok,E⟩:=hO
 refine qab<|sg<|mv E rfl fun a E=>?_
 obtain ⟨M11,ok,h12⟩:=qeg (e:=9) (k:=1) (R:=pS) ok
 refine bd hF fun l13 e14 hF=>qcz (R:=pS) E ok 0 mS qcg Tryz.underlying25 rfl h12 (qby.ofL holdnew_0 ok) e14 ⟨_,qec,rfl⟩ rfl rfl rfl rfl fun c15 M16 a w E ok h17=>lw E (qaq (ps:=[(2,.tmp 9)]) (qs:=[(4,[c15])]) (cs:=[(Value.int .u32 0),(Value.int .i32 0),(Value.int .u32 0),Value.nilIface,c15]) qpf qnV rfl ⟨rfl,(ORow.cells h17),rfl,trivial⟩ rfl) fun a E=>qfR E ok rfl rfl rfl fun b18 a w E ok=>aw E rfl fun a E=>wp_ret ?_
 exact fin hF ⟨m0,b18,c15,M16,le_m0,ok,E.d,rz E rfl,(show InR .u32 0 by decide),(show InR .i32 0 by decide),(show InR .u32 0 by decide),h17⟩
def qgL (u:World) (m0:Mem) (S:Segs) (pb0:Nat) (x0:Builder) (c1:Value) (c3:Value) (M4:List (Nat × Obj)) (r:Int × Unit × Builder) (a:Act) (w:World):Prop :=
 ∃ c6 c8 M9,Ok u m0 ([(pb0,oc 68 [c6,c8])] :: M9 :: S) w ∧ a.defers = [] ∧ RVs Tryz.prog a w [.t 4 (.int .i64 r.1),.t 5 .nilIface] ∧ InR .i64 r.1 ∧ BAd pb0 c6 ∧ ORow 5 1 (pI .u8) m0 c8 r.2.2.buf M9
theorem qcn (N:Nat) (s_1:List UInt8) (ls_1:s_1.length ≤ LIMS) {pb0:Nat} {c1:Value} {c3:Value} {M4:List (Nat × Obj)} (x0:Builder) (h2:BAd pb0 c1) (h5:ORow 5 1 (pI .u8) m0 c3 x0.buf M4) {r:Int × Unit × Builder} (hF:qb4 N s_1 x0 = some r) (hG:Glob u) (ok:Ok u m0 ([(pb0,oc 68 [c1,c3])] :: M4 :: S) w) :
  Calls Tryz.prog 35 [vp pb0,vs s_1].toArray w fun e w'=>∃ c6 c8 M9,(e = .returned (.tuple [(.int .i64 r.1),.nilIface].toArray) ∧ Ok u m0 ([(pb0,oc 68 [c6,c8])] :: M9 :: S) w') ∧ InR .i64 r.1 ∧ BAd pb0 c6 ∧ ORow 5 1 (pI .u8) m0 c8 r.2.2.buf M9:=by
 unfold qb4 at hF
 refine en (qgL u m0 S pb0 x0 c1 c3 M4) r Tryz.func35 rfl rfl rfl (by rintro a w ⟨c6,c8,M9,ok,hd,hrv,h0,h1,h2⟩; exact qbD [.t 4 (.int .i64 r.1),.t 5 .nilIface] hd rfl hrv ⟨c6,c8,M9,⟨rfl,ok⟩,h0,h1,h2⟩) fun fin a E=>sg<|av E rfl fun a E=>aw E rfl fun a E=>sg<|mv E rfl fun a E=>lc E qpL rfl (qgN h2 ok) fun w ok a E=>wn<|sg<|mz E rfl rfl fun a E=>lw E (qak rfl) fun a E=>fv E qkk rfl fun a E=>ld E ok qoB 0 rfl rfl rfl fun a E=>mv E rfl fun a E=>?_
 refine bd hF fun l11 e12 hF=>qq5 E ok 1 qeG Tryz.underlying9 rfl h5 e12 ⟨_,qdW,rfl⟩ rfl rfl rfl rfl fun c13 M14 a w E ok h15=>lw E (qak rfl) fun a E=>fv E qkk rfl fun a E=>qad E ok 0 rfl rfl rfl qoT (ORow.cells h15) rfl ⟨(ORow.one h15),trivial⟩ rfl rfl fun w ok=>wn<|sg<|mv E rfl fun a E=>lw E (qaH Tryz.underlying9 rfl) fun a E=>av E rfl fun a E=>aw E rfl fun a E=>wp_ret ?_
 exact fin hF ⟨(vp pb0),c13,M14,ok,E.d,⟨rv_t E rfl,rv_t E rfl,trivial⟩,(InR.len ls_1),(.inr rfl),h15⟩
theorem qeP {u:World} {m0:Mem} {S:Segs} {w:World} (N:Nat) (p0_0:Int) (rp0_0:InR .i64 p0_0) {r:(List UInt8)} (hF:qd9 N p0_0 = some r) (hG:Glob u) (hTb:Tab u) (ok:Ok u m0 S w) :
 Calls Tryz.prog 36 [vi p0_0].toArray w fun e w'=>(e = .returned (.string (bs r)) ∧ Ok u m0 S w') ∧ r.length ≤ LIMS:=qop Tryz.laysM171 hTb p0_0 rp0_0 hF ok
end Go.Proofs.YtllnjbnknjpbjaaGreatDoor
namespace Go.Proofs.YtllnjbnknjpbjaaGreatDoor
open Go.X
variable {u:World} {m0:Mem} {S:Segs} {w:World}
set_option maxHeartbeats 4000000
set_option maxRecDepth 100000
def qlN (u:World) (m0:Mem) (S:Segs) (r:(List UInt8)) (a:Act) (w:World):Prop :=
 Ok u m0 S w ∧ a.defers = [] ∧ RVs Tryz.prog a w [.t 2 (.string (bs r))] ∧ r.length ≤ LIMS
theorem qlv (N:Nat) (vc_0:List Value) (c_0:Code) (hc_0:qlb m0 vc_0 c_0) {r:(List UInt8)} (hF:qh6 N c_0 = some r) (hG:Glob u) (hTb:Tab u) (ok:Ok u m0 S w) :
  Calls Tryz.prog 16 [.agg vc_0.toArray].toArray w fun e w'=>(e = .returned (.string (bs r)) ∧ Ok u m0 S w') ∧ r.length ≤ LIMS:=by
 obtain ⟨c1,c3,rfl,h2,h4⟩:=hc_0
 have hb0:=ok.base
 have le_m0:=Mem.le.refl m0
 unfold qh6 at hF
 refine en (qlN u m0 S) r Tryz.func16 rfl rfl rfl (fun _ _ h=>rb h rfl) fun fin a E=>sg<|qfR E ok rfl rfl rfl fun b5 a w E ok=>aw E rfl fun a E=>sg<|lv E ok (qmS (ps:=[(0,.const (vs ([63]))),(1,.const (vs ([101,109,105,116]))),(2,.const (vs ([111,112,101,110]))),(3,.const (vs ([99,108,111,115,101]))),(4,.const (vs ([118,111,105,100]))),(5,.const (vs ([97,114,103]))),(6,.const (vs ([110,117,109,98,101,114]))),(7,.const (vs ([117,110,105,116]))),(8,.const (vs ([100,97,116,101]))),(9,.const (vs ([108,105,115,116]))),(10,.const (vs ([115,119,105,116,99,104]))),(11,.const (vs ([99,97,115,101]))),(12,.const (vs ([106,117,109,112]))),(13,.const (vs ([115,116,111,112])))]) (qs:=[(0,[(vs ([63]))]),(1,[(vs ([101,109,105,116]))]),(2,[(vs ([111,112,101,110]))]),(3,[(vs ([99,108,111,115,101]))]),(4,[(vs ([118,111,105,100]))]),(5,[(vs ([97,114,103]))]),(6,[(vs ([110,117,109,98,101,114]))]),(7,[(vs ([117,110,105,116]))]),(8,[(vs ([100,97,116,101]))]),(9,[(vs ([108,105,115,116]))]),(10,[(vs ([115,119,105,116,99,104]))]),(11,[(vs ([99,97,115,101]))]),(12,[(vs ([106,117,109,112]))]),(13,[(vs ([115,116,111,112]))])]) (cs:=[(vs ([63])),(vs ([101,109,105,116])),(vs ([111,112,101,110])),(vs ([99,108,111,115,101])),(vs ([118,111,105,100])),(vs ([97,114,103])),(vs ([110,117,109,98,101,114])),(vs ([117,110,105,116])),(vs ([100,97,116,101])),(vs ([108,105,115,116])),(vs ([115,119,105,116,99,104])),(vs ([99,97,115,101])),(vs ([106,117,109,112])),(vs ([115,116,111,112]))]) qnp qmw rfl ⟨rfl,rfl,rfl,⟨rfl,rfl,rfl,⟨rfl,rfl,rfl,⟨rfl,rfl,rfl,⟨rfl,rfl,rfl,⟨rfl,rfl,rfl,⟨rfl,rfl,rfl,⟨rfl,rfl,rfl,⟨rfl,rfl,rfl,⟨rfl,rfl,rfl,⟨rfl,rfl,rfl,⟨rfl,rfl,rfl,⟨rfl,rfl,rfl,⟨rfl,rfl,rfl,trivial⟩⟩⟩⟩⟩⟩⟩⟩⟩⟩⟩⟩⟩⟩ rfl) fun a E=>qa1 E ok qnp rfl rfl fun b6 a w E ok=>qad E ok 0 rfl rfl rfl qqR rfl rfl ⟨rfl,rfl,rfl,rfl,rfl,rfl,rfl,rfl,rfl,rfl,rfl,rfl,rfl,rfl,trivial⟩ rfl rfl fun w ok=>wn<|sg<|qbu (R:=pS) (xo:=[.const (vs ([34])),.const (vs ([92,34])),.const (vs ([92])),.const (vs ([92,92])),.const (vs ([10])),.const (vs ([92,110]))]) (xs:=([[34],[92,34],[92],[92,92],[10],[92,110]]:List (List UInt8))) E ok qcg qec rfl ⟨⟨_,rfl,rfl,(qc7 (show ([34]:List UInt8).length ≤ LIMS by decide))⟩,⟨_,rfl,rfl,(qc7 (show ([92,34]:List UInt8).length ≤ LIMS by decide))⟩,⟨_,rfl,rfl,(qc7 (show ([92]:List UInt8).length ≤ LIMS by decide))⟩,⟨_,rfl,rfl,(qc7 (show ([92,92]:List UInt8).length ≤ LIMS by decide))⟩,⟨_,rfl,rfl,(qc7 (show ([10]:List UInt8).length ≤ LIMS by decide))⟩,⟨_,rfl,rfl,(qc7 (show ([92,110]:List UInt8).length ≤ LIMS by decide))⟩,trivial⟩ rfl rfl rfl rfl fun c7 M8 a w E ok h9=>?_
 obtain ⟨m10,hle,ok,hfz⟩:=(ok.frs 0 rfl).freeze
 have h11:=ORow.froz mS h9 hle hfz (by decide)
 have le_m0:=le_m0.trans hle
 have h2:=(mL mS).up hle h2
 have h4:=(mL mIns).up hle h4
 refine bd hF fun r12 e13 hF=>qaf E qrz rfl (qiW N _ ([[34],[92,34],[92],[92,92],[10],[92,110]]:List (List UInt8)) h11 e13 hG ok) rfl rfl ?_
 rintro _ w ⟨m14,b15,c19,M20,rfl,hle,ok,r16,r17,r18,h21⟩
 have le_m0:=le_m0.trans hle
 have h2:=(mL mS).up hle h2
 have h4:=(mL mIns).up hle h4
 have h11:=(mL mS).up hle h11
 refine ⟨_,rfl,fun a E=>?_⟩
 refine aw E rfl fun a E=>sg<|qa1 E ok qnz rfl rfl fun b22 a w E ok=>wn<|wp_seq<|sg<|fk E ok qdZ qdU rfl 4 rfl rfl fun a E=>lv E ok (qbc qdz h4 rfl) fun a E=>mv E rfl fun a E=>wn<|wp_block ?_
 obtain ⟨M30,ok,h31⟩:=qeg (e:=5) (k:=1) (R:=(pI .u8)) ok
 refine bd hF fun o32 hL hF=>qba _ (fun (s:Int × Builder) a w=>∃ c34 c36 M37,Ok u m14 (M37 :: [(b22,oc 68 [c34,c36])] :: [(b15,oc 110 [(Value.int .u32 r12.once.done.v),(Value.int .i32 r12.once.m.mu.state),(Value.int .u32 r12.once.m.mu.sema),Value.nilIface,c19])] :: M20 :: [(b6,oc 62 [(vs ([63])),(vs ([101,109,105,116])),(vs ([111,112,101,110])),(vs ([99,108,111,115,101])),(vs ([118,111,105,100])),(vs ([97,114,103])),(vs ([110,117,109,98,101,114])),(vs ([117,110,105,116])),(vs ([100,97,116,101])),(vs ([108,105,115,116])),(vs ([115,119,105,116,99,104])),(vs ([99,97,115,101])),(vs ([106,117,109,112])),(vs ([115,116,111,112]))])] :: [(b5,oc 28 [c1,c3])] :: S) w ∧ Env 70 a [(3,vp b6),(4,vp b15),(5,vp b22),(15,c3),(16,(vi (c_0.Ins.length:Int))),(17,vi s.1)] ∧ InR .i64 s.1 ∧ BAd b22 c34 ∧ ORow 5 1 (pI .u8) m14 c36 s.2.buf M37) (fun (b:Builder) e a w=>e = (.exit 0) ∧ ∃ c286 c288 M289,Ok u m14 (M289 :: [(b22,oc 68 [c286,c288])] :: [(b15,oc 110 [(Value.int .u32 r12.once.done.v),(Value.int .i32 r12.once.m.mu.state),(Value.int .u32 r12.once.m.mu.sema),Value.nilIface,c19])] :: M20 :: [(b6,oc 62 [(vs ([63])),(vs ([101,109,105,116])),(vs ([111,112,101,110])),(vs ([99,108,111,115,101])),(vs ([118,111,105,100])),(vs ([97,114,103])),(vs ([110,117,109,98,101,114])),(vs ([117,110,105,116])),(vs ([100,97,116,101])),(vs ([108,105,115,116])),(vs ([115,119,105,116,99,104])),(vs ([99,97,115,101])),(vs ([106,117,109,112])),(vs ([115,116,111,112]))])] :: [(b5,oc 28 [c1,c3])] :: S) w ∧ Env 70 a [(5,vp b22)] ∧ BAd b22 c286 ∧ ORow 5 1 (pI .u8) m14 c288 b.buf M289) ?_ ?_ N _ a w hL ⟨(Value.pointer none),(Value.slice none 0 0),M30,ok,E.keep [3,4,5,15,16,17],(ir 0),(.inl rfl),h31⟩
 rotate_left
 ·intro e a w _ hO
  obtain ⟨rfl,c280,c282,M283,ok,E,h281,h284⟩:=hO
  refine qbm<|qab<|sg ?_
  replace ok:Ok u m14 ([(b22,oc 68 [c280,c282])] :: M283 :: [(b15,oc 110 [(Value.int .u32 r12.once.done.v),(Value.int .i32 r12.once.m.mu.state),(Value.int .u32 r12.once.m.mu.sema),Value.nilIface,c19])] :: M20 :: [(b6,oc 62 [(vs ([63])),(vs ([101,109,105,116])),(vs ([111,112,101,110])),(vs ([99,108,111,115,101])),(vs ([118,111,105,100])),(vs ([97,114,103])),(vs ([110,117,109,98,101,114])),(vs ([117,110,105,116])),(vs ([100,97,116,101])),(vs ([108,105,115,116])),(vs ([115,119,105,116,99,104])),(vs ([99,97,115,101])),(vs ([106,117,109,112])),(vs ([115,116,111,112]))])] :: [(b5,oc 28 [c1,c3])] :: S) w:=(ok.pk 6 [1,0,2,3,4,5] rfl (by decide))
  refine qaf E qpG rfl (qk8 Tryz.lays169 Tryz.Builder_Extra_169 h284 ok) rfl rfl ?_
  rintro _ w ⟨⟨rfl,ok⟩,l285⟩
  refine ⟨_,rfl,fun a E=>?_⟩
  refine aw E rfl fun a E=>wp_ret ?_
  exact fin hF ⟨(ok.drop.drop.drop.drop).down hb0 le_m0,E.d,rz E rfl,l285⟩
 rintro ⟨v39,v40⟩ a w r ⟨c42,c44,M45,ok,E,r41,h43,h46⟩ hF
 replace hF:qgv N c_0 v39 v40 = some r:=hF
 unfold qgv at hF
 refine sg<|lw E (qaQ rfl rfl) fun a E=>wn<|wp_seq<|cg E rfl hF (fun c47 hF=>?_) fun c47 hF=>?_
 ·refine wp_exit<|qaW ?_
  cases hF
  exact so (⟨rfl,⟨c42,c44,M45,ok,E.keep [5],h43,h46⟩⟩)
 refine wp_skip<|qab<|wp_seq<|wp_block<|sg<|mv E rfl fun a E=>?_
 obtain ⟨x48,e49,hF⟩:=bnd hF
 obtain ⟨b50,o51,es52,hl53,rr54,at55,yy56⟩:=ia E 15 17 qdz h4 e49
 obtain ⟨rfl,r57,r58,r59,l60⟩:=rr54
 refine lv E ok (yy56 _ _) fun a E=>lv E ok (qar (cs:=[vi x48.Op,vi x48.A,vi x48.B,vs x48.S]) qj5 rfl rfl (qae.ro at55)) fun a E=>qa1 E ok qdj rfl rfl fun b61 a w E ok=>av E rfl fun a E=>qad E ok 0 rfl rfl rfl qqP rfl rfl ⟨rfl,rfl,rfl,rfl,trivial⟩ rfl rfl fun w ok=>wn<|sg<|aw E rfl fun a E=>wp_seq<|sg<|fv E qlB rfl fun a E=>ld E ok qap 0 rfl rfl rfl fun a E=>lw E (qbW rfl rfl) fun a E=>mv E rfl fun a E=>bw E 25 hF (fun c62 hF E=>?_) fun c62 hF E=>?_
 ·as_aux_lemma =>
   refine lsq E fun a E=>ls E fun a E=>pf E rfl rfl fun a E=>wn<|c_if E rfl (fun h=>by cases h) (fun _=>?_)
   refine wp_skip<|qab<|wp_seq<|bd hF fun o178 hJ hF=>qaI (Q':=fun e a w=>e = .normal ∧ ∃ c179 c181 M182,Ok u m14 ([(b61,oc 47 [vi x48.Op,vi x48.A,vi x48.B,vs x48.S])] :: M182 :: [(b22,oc 68 [c179,c181])] :: [(b15,oc 110 [(Value.int .u32 r12.once.done.v),(Value.int .i32 r12.once.m.mu.state),(Value.int .u32 r12.once.m.mu.sema),Value.nilIface,c19])] :: M20 :: [(b6,oc 62 [(vs ([63])),(vs ([101,109,105,116])),(vs ([111,112,101,110])),(vs ([99,108,111,115,101])),(vs ([118,111,105,100])),(vs ([97,114,103])),(vs ([110,117,109,98,101,114])),(vs ([117,110,105,116])),(vs ([100,97,116,101])),(vs ([108,105,115,116])),(vs ([115,119,105,116,99,104])),(vs ([99,97,115,101])),(vs ([106,117,109,112])),(vs ([115,116,111,112]))])] :: [(b5,oc 28 [c1,c3])] :: S) w ∧ Env 70 a [(3,vp b6),(4,vp b15),(5,vp b22),(7,vp b61),(15,c3),(16,(vi (c_0.Ins.length:Int))),(17,vi v39)] ∧ BAd b22 c179 ∧ ORow 5 1 (pI .u8) m14 c181 o178.buf M182) ?_ ?_
   ·have hF:=hJ
    obtain ⟨r184,e185,hF⟩:=bnd hF
    obtain ⟨s187,e188,hF⟩:=bnd hF
    obtain ⟨s189,e190,hF⟩:=bnd hF
    obtain ⟨r191,e192,hF⟩:=bnd hF
    obtain rfl:=sj hF
    refine qbx [] (Cls u m14 ([(b61,oc 47 [vi x48.Op,vi x48.A,vi x48.B,vs x48.S])] :: [(b15,oc 110 [(Value.int .u32 r12.once.done.v),(Value.int .i32 r12.once.m.mu.state),(Value.int .u32 r12.once.m.mu.sema),Value.nilIface,c19])] :: M20 :: [(b6,oc 62 [(vs ([63])),(vs ([101,109,105,116])),(vs ([111,112,101,110])),(vs ([99,108,111,115,101])),(vs ([118,111,105,100])),(vs ([97,114,103])),(vs ([110,117,109,98,101,114])),(vs ([117,110,105,116])),(vs ([100,97,116,101])),(vs ([108,105,115,116])),(vs ([115,119,105,116,99,104])),(vs ([99,97,115,101])),(vs ([106,117,109,112])),(vs ([115,116,111,112]))])] :: [(b5,oc 28 [c1,c3])] :: [])) (Cls u m14 ([(b61,oc 47 [vi x48.Op,vi x48.A,vi x48.B,vs x48.S])] :: [(b15,oc 110 [(Value.int .u32 r12.once.done.v),(Value.int .i32 r12.once.m.mu.state),(Value.int .u32 r12.once.m.mu.sema),Value.nilIface,c19])] :: M20 :: [(b6,oc 62 [(vs ([63])),(vs ([101,109,105,116])),(vs ([111,112,101,110])),(vs ([99,108,111,115,101])),(vs ([118,111,105,100])),(vs ([97,114,103])),(vs ([110,117,109,98,101,114])),(vs ([117,110,105,116])),(vs ([100,97,116,101])),(vs ([108,105,115,116])),(vs ([115,119,105,116,99,104])),(vs ([99,97,115,101])),(vs ([106,117,109,112])),(vs ([115,116,111,112]))])] :: [(b5,oc 28 [c1,c3])] :: [])) (by kernel_rfl) ?_
    intro w hw
    replace ok:=qbP ok hw
    clear hw
    have le_m14:=Mem.le.refl m14
    refine qau (cl1 (cq le_m14 ok [0,3,4,5,6] rfl) (cq le_m14 ok [0,3,4,5,6] rfl)) fun hT=>kt 0 E rfl hT (qan rfl) fun a E=>kt 3 E rfl hT (qan rfl) fun a E=>kt 4 E rfl hT (qoK qmw rfl rfl (by decide) (by decide)) fun a E=>kt 5 E rfl hT (qax qal rfl (qae.cown 3 rfl rfl)) fun a E=>qaU [1] (by kernel_rfl) rfl (qa2 ?_)
    ·refine wo rfl<|qaf E qk2 rfl (qeP N v39 r41 e185 hG hTb ok) rfl rfl ?_
     rintro _ w ⟨⟨rfl,ok⟩,l199⟩
     refine ⟨_,rfl,fun a E=>?_⟩
     refine wn<|qau (cl1 (cq le_m14 ok [0,3,4,5,6] rfl) (cq le_m14 ok [0,3,4,5,6] rfl)) fun hT=>kt 2 E rfl hT (qaY rfl rfl e188) fun a E=>kt 6 E rfl hT (qaY rfl rfl e190) fun a E=>qaU [7] (by kernel_rfl) rfl (qa2 ?_)
     ·refine qcQ (o:=_) rfl ?_
      replace ok:Ok u m14 ([(b22,oc 68 [c42,c44])] :: M45 :: [(b61,oc 47 [vi x48.Op,vi x48.A,vi x48.B,vs x48.S])] :: [(b15,oc 110 [(Value.int .u32 r12.once.done.v),(Value.int .i32 r12.once.m.mu.state),(Value.int .u32 r12.once.m.mu.sema),Value.nilIface,c19])] :: M20 :: [(b6,oc 62 [(vs ([63])),(vs ([101,109,105,116])),(vs ([111,112,101,110])),(vs ([99,108,111,115,101])),(vs ([118,111,105,100])),(vs ([97,114,103])),(vs ([110,117,109,98,101,114])),(vs ([117,110,105,116])),(vs ([100,97,116,101])),(vs ([108,105,115,116])),(vs ([115,119,105,116,99,104])),(vs ([99,97,115,101])),(vs ([106,117,109,112])),(vs ([115,116,111,112]))])] :: [(b5,oc 28 [c1,c3])] :: S) w:=(ok.pk 7 [2,1,0,3,4,5,6] rfl (by decide))
      refine qaf E qlh rfl (qcn N s189 (qbR e190) (Builder.mk () v40.buf) h43 h46 e192 hG ok) rfl rfl ?_
      rintro _ w ⟨c201,c203,M204,⟨rfl,ok⟩,r200,h202,h205⟩
      refine ⟨_,rfl,fun a E=>?_⟩
      refine wn<|qau (cl1 (cq le_m14 ok [2,3,4,5,6] rfl) (cq le_m14 ok [2,3,4,5,6] rfl)) fun hT=>qbE (by kernel_rfl) ?_
      exact ⟨rfl,⟨c201,c203,M204,(ok.pk 7 [2,1,0,3,4,5,6] rfl (by decide)),E.keep [3,4,5,7,15,16,17],h202,h205⟩⟩
   intro e a w hO
   obtain ⟨rfl,c206,c208,M209,ok,E,h207,h210⟩:=hO
   refine qab<|wp_seq<|sg<|fk E ok qhL qap rfl 0 rfl rfl fun a E=>fk E ok qnB qap rfl 0 rfl rfl fun a E=>qbu (R:=(pI .i64)) (xo:=[.tmp 41,.tmp 43]) (xs:=([x48.A,x48.B]:List (Int))) E ok qg3 qlq rfl ⟨⟨_,rfl,rfl,(qdL r58)⟩,⟨_,rfl,rfl,(qdL r59)⟩,trivial⟩ rfl rfl rfl rfl fun c211 M212 a w E ok h213=>lv E ok (qeq qg3 h213 rfl) fun a E=>mv E rfl fun a E=>wn<|wp_block<|bd hF fun o221 hL hF=>qba _ (fun (s:Int × Builder) a w=>∃ c223 c225 M226,Ok u m14 (M212 :: [(b61,oc 47 [vi x48.Op,vi x48.A,vi x48.B,vs x48.S])] :: M226 :: [(b22,oc 68 [c223,c225])] :: [(b15,oc 110 [(Value.int .u32 r12.once.done.v),(Value.int .i32 r12.once.m.mu.state),(Value.int .u32 r12.once.m.mu.sema),Value.nilIface,c19])] :: M20 :: [(b6,oc 62 [(vs ([63])),(vs ([101,109,105,116])),(vs ([111,112,101,110])),(vs ([99,108,111,115,101])),(vs ([118,111,105,100])),(vs ([97,114,103])),(vs ([110,117,109,98,101,114])),(vs ([117,110,105,116])),(vs ([100,97,116,101])),(vs ([108,105,115,116])),(vs ([115,119,105,116,99,104])),(vs ([99,97,115,101])),(vs ([106,117,109,112])),(vs ([115,116,111,112]))])] :: [(b5,oc 28 [c1,c3])] :: S) w ∧ Env 70 a [(3,vp b6),(4,vp b15),(5,vp b22),(7,vp b61),(15,c3),(16,(vi (c_0.Ins.length:Int))),(17,vi v39),(44,c211),(45,(vi (([x48.A,x48.B]:List (Int)).length:Int))),(46,vi s.1)] ∧ InR .i64 s.1 ∧ BAd b22 c223 ∧ ORow 5 1 (pI .u8) m14 c225 s.2.buf M226) (fun (b:Builder) e a w=>e = (.exit 2) ∧ ∃ c275 c277 M278,Ok u m14 (M212 :: [(b61,oc 47 [vi x48.Op,vi x48.A,vi x48.B,vs x48.S])] :: M278 :: [(b22,oc 68 [c275,c277])] :: [(b15,oc 110 [(Value.int .u32 r12.once.done.v),(Value.int .i32 r12.once.m.mu.state),(Value.int .u32 r12.once.m.mu.sema),Value.nilIface,c19])] :: M20 :: [(b6,oc 62 [(vs ([63])),(vs ([101,109,105,116])),(vs ([111,112,101,110])),(vs ([99,108,111,115,101])),(vs ([118,111,105,100])),(vs ([97,114,103])),(vs ([110,117,109,98,101,114])),(vs ([117,110,105,116])),(vs ([100,97,116,101])),(vs ([108,105,115,116])),(vs ([115,119,105,116,99,104])),(vs ([99,97,115,101])),(vs ([106,117,109,112])),(vs ([115,116,111,112]))])] :: [(b5,oc 28 [c1,c3])] :: S) w ∧ Env 70 a [(3,vp b6),(4,vp b15),(5,vp b22),(7,vp b61),(15,c3),(16,(vi (c_0.Ins.length:Int))),(17,vi v39)] ∧ BAd b22 c275 ∧ ORow 5 1 (pI .u8) m14 c277 b.buf M278) ?_ ?_ N _ a w hL ⟨c206,c208,M209,ok,E.keep [3,4,5,7,15,16,17,44,45,46],(ir 0),h207,h210⟩
   rotate_left
   ·intro e a w _ hO
    obtain ⟨rfl,c262,c264,M265,ok,E,h263,h266⟩:=hO
    refine qbm<|qab<|wp_seq<|sg<|fk E ok qnJ qal rfl 1 rfl rfl fun a E=>lw E (qc1 rfl rfl) fun a E=>wn<|cf E rfl hF (fun c267 hF=>?_) fun c267 hF=>?_
    ·cases hF
    refine wp_skip<|qab<|qac ?_
    obtain ⟨r268,e269,hF⟩:=bnd hF
    replace ok:Ok u m14 ([(b22,oc 68 [c262,c264])] :: M265 :: M212 :: [(b61,oc 47 [vi x48.Op,vi x48.A,vi x48.B,vs x48.S])] :: [(b15,oc 110 [(Value.int .u32 r12.once.done.v),(Value.int .i32 r12.once.m.mu.state),(Value.int .u32 r12.once.m.mu.sema),Value.nilIface,c19])] :: M20 :: [(b6,oc 62 [(vs ([63])),(vs ([101,109,105,116])),(vs ([111,112,101,110])),(vs ([99,108,111,115,101])),(vs ([118,111,105,100])),(vs ([97,114,103])),(vs ([110,117,109,98,101,114])),(vs ([117,110,105,116])),(vs ([100,97,116,101])),(vs ([108,105,115,116])),(vs ([115,119,105,116,99,104])),(vs ([99,97,115,101])),(vs ([106,117,109,112])),(vs ([115,116,111,112]))])] :: [(b5,oc 28 [c1,c3])] :: S) w:=(ok.pk 8 [3,2,0,1,4,5,6,7] rfl (by decide))
    refine qaf E qk4 rfl (qcu N 10 (show InR .u8 (10) by decide) (Builder.mk () o221.buf) h263 h266 e269 hG ok) rfl rfl ?_
    rintro _ w ⟨c270,c272,M273,⟨rfl,ok⟩,h271,h274⟩
    refine ⟨_,rfl,fun a E=>?_⟩
    refine wpList_nil<|qah<|qab<|qac<|lw E (qaG rfl rfl (InR.inc r41 (qao h4) c47)) fun a E=>mv E rfl fun a E=>wpList_nil ?_
    cases hF
    exact qav ⟨c270,c272,M273,(ok.pk 8 [1,0,4,5,6,7] rfl (by decide)),E.keep [3,4,5,15,16,17],(InR.inc r41 (qao h4) c47),h271,h274⟩
   rintro ⟨v228,v229⟩ a w r ⟨c231,c233,M234,ok,E,r230,h232,h235⟩ hF
   replace hF:qgD N x48 v228 v229 = some r:=hF
   unfold qgD at hF
   refine sg<|lw E (qaQ rfl rfl) fun a E=>wn<|wp_seq<|cg E rfl hF (fun c236 hF=>?_) fun c236 hF=>?_
   ·refine wp_exit<|qaW ?_
    cases hF
    exact so (⟨rfl,⟨c231,c233,M234,ok,E.keep [3,4,5,7,15,16,17],h232,h235⟩⟩)
   refine wp_skip<|qab<|wp_seq<|wp_block<|sg ?_
   obtain ⟨x237,e238,hF⟩:=bnd hF
   obtain ⟨b239,o240,hp241,yy242⟩:=qgc qg3 h213 e238 (P:=Tryz.prog) (X:=.tmp 44) (I:=.tmp 46) (kd:=.i64) (qco E rfl) (qco E rfl)
   refine lv E ok (yy242 _ _) fun a E=>?_
   obtain ⟨es243,hl244,rr245,hh246⟩:=qhN h213 e238 hp241 (by decide)
   obtain ⟨rfl,r247⟩:=rr245
   refine lv E ok (qax qap rfl (hh246 _ _ _ 0 rfl)) fun a E=>aw E rfl fun a E=>sg<|mv E rfl fun a E=>lw E (qbr rfl rfl) fun a E=>wn<|cg E rfl hF (fun c248 hF=>?_) fun c248 hF=>?_
   ·refine wp_skip<|qah<|qab<|qac<|lw E (qaG rfl rfl (InR.inc r230 (ORow.InR h213) c236)) fun a E=>mv E rfl fun a E=>wpList_nil ?_
    cases hF
    exact qav ⟨c231,c233,M234,ok,E.keep [3,4,5,7,15,16,17,44,45,46],(InR.inc r230 (ORow.InR h213) c236),h232,h235⟩
   refine qac<|mv E rfl fun a E=>bd hF fun r249 e250 hF=>qaf E qk2 rfl (qeP N x237 r247 e250 hG hTb ok) rfl rfl ?_
   rintro _ w ⟨⟨rfl,ok⟩,l251⟩
   refine ⟨_,rfl,fun a E=>?_⟩
   refine bd hF fun s252 e253 hF=>lw E (qaY rfl rfl e253) fun a E=>?_
   obtain ⟨r254,e255,hF⟩:=bnd hF
   replace ok:Ok u m14 ([(b22,oc 68 [c231,c233])] :: M234 :: M212 :: [(b61,oc 47 [vi x48.Op,vi x48.A,vi x48.B,vs x48.S])] :: [(b15,oc 110 [(Value.int .u32 r12.once.done.v),(Value.int .i32 r12.once.m.mu.state),(Value.int .u32 r12.once.m.mu.sema),Value.nilIface,c19])] :: M20 :: [(b6,oc 62 [(vs ([63])),(vs ([101,109,105,116])),(vs ([111,112,101,110])),(vs ([99,108,111,115,101])),(vs ([118,111,105,100])),(vs ([97,114,103])),(vs ([110,117,109,98,101,114])),(vs ([117,110,105,116])),(vs ([100,97,116,101])),(vs ([108,105,115,116])),(vs ([115,119,105,116,99,104])),(vs ([99,97,115,101])),(vs ([106,117,109,112])),(vs ([115,116,111,112]))])] :: [(b5,oc 28 [c1,c3])] :: S) w:=(ok.pk 8 [3,2,0,1,4,5,6,7] rfl (by decide))
   refine qaf E qlh rfl (qcn N s252 (qbR e253) (Builder.mk () v229.buf) h232 h235 e255 hG ok) rfl rfl ?_
   rintro _ w ⟨c257,c259,M260,⟨rfl,ok⟩,r256,h258,h261⟩
   refine ⟨_,rfl,fun a E=>?_⟩
   refine wpList_nil<|qah<|qab<|qac<|lw E (qaG rfl rfl (InR.inc r230 (ORow.InR h213) c236)) fun a E=>mv E rfl fun a E=>wpList_nil ?_
   cases hF
   exact qav ⟨c257,c259,M260,(ok.pk 8 [2,3,1,0,4,5,6,7] rfl (by decide)),E.keep [3,4,5,7,15,16,17,44,45,46],(InR.inc r230 (ORow.InR h213) c236),h258,h261⟩
 refine fk E ok qlB qap rfl 0 rfl rfl fun a E=>lw E (qc6 rfl rfl) fun a E=>pt E rfl rfl fun a E=>wn<|bd hF fun o63 hJ hF=>qaI (Q':=fun e a w=>e = .normal ∧ Ok u m14 ([(b61,oc 47 [vi x48.Op,vi x48.A,vi x48.B,vs x48.S])] :: M45 :: [(b22,oc 68 [c42,c44])] :: [(b15,oc 110 [(Value.int .u32 r12.once.done.v),(Value.int .i32 r12.once.m.mu.state),(Value.int .u32 r12.once.m.mu.sema),Value.nilIface,c19])] :: M20 :: [(b6,oc 62 [(vs ([63])),(vs ([101,109,105,116])),(vs ([111,112,101,110])),(vs ([99,108,111,115,101])),(vs ([118,111,105,100])),(vs ([97,114,103])),(vs ([110,117,109,98,101,114])),(vs ([117,110,105,116])),(vs ([100,97,116,101])),(vs ([108,105,115,116])),(vs ([115,119,105,116,99,104])),(vs ([99,97,115,101])),(vs ([106,117,109,112])),(vs ([115,116,111,112]))])] :: [(b5,oc 28 [c1,c3])] :: S) w ∧ Env 70 a [(3,vp b6),(4,vp b15),(5,vp b22),(6,vi v39),(7,vp b61),(8,vi o63),(15,c3),(16,(vi (c_0.Ins.length:Int))),(17,vi v39)] ∧ InR .i64 o63) ?_ ?_
 ·have hF:=hJ
  refine cg E rfl hF (fun c65 hF=>?_) fun c65 hF=>?_
  ·refine wp_skip ?_
   cases hF
   exact ⟨rfl,⟨ok,E.keep [3,4,5,6,7,8,15,16,17],(ir 0)⟩⟩
  refine qac<|fk E ok qlB qap rfl 0 rfl rfl fun a E=>av E rfl fun a E=>wpList_nil ?_
  cases hF
  exact ⟨rfl,⟨ok,E.keep [3,4,5,6,7,8,15,16,17],r57⟩⟩
 intro e a w hO
 obtain ⟨rfl,ok,E,r66⟩:=hO
 refine qab<|wp_seq<|bd hF fun o67 hJ hF=>qaI (Q':=fun e a w=>e = .normal ∧ ∃ c68 c70 M71,Ok u m14 ([(b61,oc 47 [vi x48.Op,vi x48.A,vi x48.B,vs x48.S])] :: M71 :: [(b22,oc 68 [c68,c70])] :: [(b15,oc 110 [(Value.int .u32 r12.once.done.v),(Value.int .i32 r12.once.m.mu.state),(Value.int .u32 r12.once.m.mu.sema),Value.nilIface,c19])] :: M20 :: [(b6,oc 62 [(vs ([63])),(vs ([101,109,105,116])),(vs ([111,112,101,110])),(vs ([99,108,111,115,101])),(vs ([118,111,105,100])),(vs ([97,114,103])),(vs ([110,117,109,98,101,114])),(vs ([117,110,105,116])),(vs ([100,97,116,101])),(vs ([108,105,115,116])),(vs ([115,119,105,116,99,104])),(vs ([99,97,115,101])),(vs ([106,117,109,112])),(vs ([115,116,111,112]))])] :: [(b5,oc 28 [c1,c3])] :: S) w ∧ Env 70 a [(3,vp b6),(4,vp b15),(5,vp b22),(7,vp b61),(15,c3),(16,(vi (c_0.Ins.length:Int))),(17,vi v39)] ∧ BAd b22 c68 ∧ ORow 5 1 (pI .u8) m14 c70 o67.buf M71) ?_ ?_
 ·have hF:=hJ
  obtain ⟨r73,e74,hF⟩:=bnd hF
  obtain ⟨s76,e77,hF⟩:=bnd hF
  obtain ⟨x78,e79,hF⟩:=bnd hF
  obtain ⟨s80,e81,hF⟩:=bnd hF
  obtain ⟨r82,e83,hF⟩:=bnd hF
  obtain rfl:=sj hF
  refine qbx [] (Cls u m14 ([(b61,oc 47 [vi x48.Op,vi x48.A,vi x48.B,vs x48.S])] :: [(b15,oc 110 [(Value.int .u32 r12.once.done.v),(Value.int .i32 r12.once.m.mu.state),(Value.int .u32 r12.once.m.mu.sema),Value.nilIface,c19])] :: M20 :: [(b6,oc 62 [(vs ([63])),(vs ([101,109,105,116])),(vs ([111,112,101,110])),(vs ([99,108,111,115,101])),(vs ([118,111,105,100])),(vs ([97,114,103])),(vs ([110,117,109,98,101,114])),(vs ([117,110,105,116])),(vs ([100,97,116,101])),(vs ([108,105,115,116])),(vs ([115,119,105,116,99,104])),(vs ([99,97,115,101])),(vs ([106,117,109,112])),(vs ([115,116,111,112]))])] :: [(b5,oc 28 [c1,c3])] :: [])) (Cls u m14 ([(b61,oc 47 [vi x48.Op,vi x48.A,vi x48.B,vs x48.S])] :: [(b15,oc 110 [(Value.int .u32 r12.once.done.v),(Value.int .i32 r12.once.m.mu.state),(Value.int .u32 r12.once.m.mu.sema),Value.nilIface,c19])] :: M20 :: [(b6,oc 62 [(vs ([63])),(vs ([101,109,105,116])),(vs ([111,112,101,110])),(vs ([99,108,111,115,101])),(vs ([118,111,105,100])),(vs ([97,114,103])),(vs ([110,117,109,98,101,114])),(vs ([117,110,105,116])),(vs ([100,97,116,101])),(vs ([108,105,115,116])),(vs ([115,119,105,116,99,104])),(vs ([99,97,115,101])),(vs ([106,117,109,112])),(vs ([115,116,111,112]))])] :: [(b5,oc 28 [c1,c3])] :: [])) (by kernel_rfl) ?_
  intro w hw
  replace ok:=qbP ok hw
  clear hw
  have le_m14:=Mem.le.refl m14
  refine qau (cl1 (cq le_m14 ok [0,3,4,5,6] rfl) (cq le_m14 ok [0,3,4,5,6] rfl)) fun hT=>kt 0 E rfl hT (qan rfl) fun a E=>kt 3 E rfl hT (qan rfl) fun a E=>?_
  replace e79:idx (Arr14_List_UInt8.list (Arr14_List_UInt8.mk ([63]) ([101,109,105,116]) ([111,112,101,110]) ([99,108,111,115,101]) ([118,111,105,100]) ([97,114,103]) ([110,117,109,98,101,114]) ([117,110,105,116]) ([100,97,116,101]) ([108,105,115,116]) ([115,119,105,116,99,104]) ([99,97,115,101]) ([106,117,109,112]) ([115,116,111,112]))) o63 = some x78:=e79
  refine kt 4 E rfl hT (qoK qmw rfl rfl (ql6 e79).1 (ql6 e79).2) fun a E=>qaU [1,5] (by kernel_rfl) rfl (qhH ?_ (qhH ?_ (qkZ)))
  ·refine wo rfl<|qaf E qk2 rfl (qeP N v39 r41 e74 hG hTb ok) rfl rfl ?_
   rintro _ w ⟨⟨rfl,ok⟩,l90⟩
   refine ⟨_,rfl,fun a E=>?_⟩
   refine wn<|qau (cl1 (cq le_m14 ok [0,3,4,5,6] rfl) (cq le_m14 ok [0,3,4,5,6] rfl)) fun hT=>kt 2 E rfl hT (qaY rfl rfl e77) fun a E=>qaU [5] (by kernel_rfl) rfl (qa2 ?_)
   ·refine wo rfl<|lv E ok (qax qal rfl (qae.idx (xs:=Arr14_List_UInt8.list (Arr14_List_UInt8.mk ([63]) ([101,109,105,116]) ([111,112,101,110]) ([99,108,111,115,101]) ([118,111,105,100]) ([97,114,103]) ([110,117,109,98,101,114]) ([117,110,105,116]) ([100,97,116,101]) ([108,105,115,116]) ([115,119,105,116,99,104]) ([99,97,115,101]) ([106,117,109,112]) ([115,116,111,112]))) (f:=(fun x=>vs x)) (qae.own 5 rfl rfl) e79)) fun a E=>wn<|qau (cl1 (cq le_m14 ok [0,3,4,5,6] rfl) (cq le_m14 ok [0,3,4,5,6] rfl)) fun hT=>kt 6 E rfl hT (qaY rfl rfl e81) fun a E=>qaU [7] (by kernel_rfl) rfl (qa2 ?_)
    ·refine qcQ (o:=_) rfl ?_
     replace ok:Ok u m14 ([(b22,oc 68 [c42,c44])] :: M45 :: [(b61,oc 47 [vi x48.Op,vi x48.A,vi x48.B,vs x48.S])] :: [(b15,oc 110 [(Value.int .u32 r12.once.done.v),(Value.int .i32 r12.once.m.mu.state),(Value.int .u32 r12.once.m.mu.sema),Value.nilIface,c19])] :: M20 :: [(b6,oc 62 [(vs ([63])),(vs ([101,109,105,116])),(vs ([111,112,101,110])),(vs ([99,108,111,115,101])),(vs ([118,111,105,100])),(vs ([97,114,103])),(vs ([110,117,109,98,101,114])),(vs ([117,110,105,116])),(vs ([100,97,116,101])),(vs ([108,105,115,116])),(vs ([115,119,105,116,99,104])),(vs ([99,97,115,101])),(vs ([106,117,109,112])),(vs ([115,116,111,112]))])] :: [(b5,oc 28 [c1,c3])] :: S) w:=(ok.pk 7 [2,1,0,3,4,5,6] rfl (by decide))
     refine qaf E qlh rfl (qcn N s80 (qbR e81) (Builder.mk () v40.buf) h43 h46 e83 hG ok) rfl rfl ?_
     rintro _ w ⟨c92,c94,M95,⟨rfl,ok⟩,r91,h93,h96⟩
     refine ⟨_,rfl,fun a E=>?_⟩
     refine wn<|qau (cl1 (cq le_m14 ok [2,3,4,5,6] rfl) (cq le_m14 ok [2,3,4,5,6] rfl)) fun hT=>qbE (by kernel_rfl) ?_
     exact ⟨rfl,⟨c92,c94,M95,(ok.pk 7 [2,1,0,3,4,5,6] rfl (by decide)),E.keep [3,4,5,7,15,16,17],h93,h96⟩⟩
  refine wo rfl<|lv E ok (qax qal rfl (qae.idx (xs:=Arr14_List_UInt8.list (Arr14_List_UInt8.mk ([63]) ([101,109,105,116]) ([111,112,101,110]) ([99,108,111,115,101]) ([118,111,105,100]) ([97,114,103]) ([110,117,109,98,101,114]) ([117,110,105,116]) ([100,97,116,101]) ([108,105,115,116]) ([115,119,105,116,99,104]) ([99,97,115,101]) ([106,117,109,112]) ([115,116,111,112]))) (f:=(fun x=>vs x)) (qae.own 5 rfl rfl) e79)) fun a E=>wn<|qau (cl1 (cq le_m14 ok [0,3,4,5,6] rfl) (cq le_m14 ok [0,3,4,5,6] rfl)) fun hT=>qaU [1] (by kernel_rfl) rfl (qa2 ?_)
  ·refine wo rfl<|qaf E qk2 rfl (qeP N v39 r41 e74 hG hTb ok) rfl rfl ?_
   rintro _ w ⟨⟨rfl,ok⟩,l97⟩
   refine ⟨_,rfl,fun a E=>?_⟩
   refine wn<|qau (cl1 (cq le_m14 ok [0,3,4,5,6] rfl) (cq le_m14 ok [0,3,4,5,6] rfl)) fun hT=>kt 2 E rfl hT (qaY rfl rfl e77) fun a E=>kt 6 E rfl hT (qaY rfl rfl e81) fun a E=>qaU [7] (by kernel_rfl) rfl (qa2 ?_)
   ·refine qcQ (o:=_) rfl ?_
    replace ok:Ok u m14 ([(b22,oc 68 [c42,c44])] :: M45 :: [(b61,oc 47 [vi x48.Op,vi x48.A,vi x48.B,vs x48.S])] :: [(b15,oc 110 [(Value.int .u32 r12.once.done.v),(Value.int .i32 r12.once.m.mu.state),(Value.int .u32 r12.once.m.mu.sema),Value.nilIface,c19])] :: M20 :: [(b6,oc 62 [(vs ([63])),(vs ([101,109,105,116])),(vs ([111,112,101,110])),(vs ([99,108,111,115,101])),(vs ([118,111,105,100])),(vs ([97,114,103])),(vs ([110,117,109,98,101,114])),(vs ([117,110,105,116])),(vs ([100,97,116,101])),(vs ([108,105,115,116])),(vs ([115,119,105,116,99,104])),(vs ([99,97,115,101])),(vs ([106,117,109,112])),(vs ([115,116,111,112]))])] :: [(b5,oc 28 [c1,c3])] :: S) w:=(ok.pk 7 [2,1,0,3,4,5,6] rfl (by decide))
    refine qaf E qlh rfl (qcn N s80 (qbR e81) (Builder.mk () v40.buf) h43 h46 e83 hG ok) rfl rfl ?_
    rintro _ w ⟨c99,c101,M102,⟨rfl,ok⟩,r98,h100,h103⟩
    refine ⟨_,rfl,fun a E=>?_⟩
    refine wn<|qau (cl1 (cq le_m14 ok [2,3,4,5,6] rfl) (cq le_m14 ok [2,3,4,5,6] rfl)) fun hT=>qbE (by kernel_rfl) ?_
    exact ⟨rfl,⟨c99,c101,M102,(ok.pk 7 [2,1,0,3,4,5,6] rfl (by decide)),E.keep [3,4,5,7,15,16,17],h100,h103⟩⟩
 intro e a w hO
 obtain ⟨rfl,c104,c106,M107,ok,E,h105,h108⟩:=hO
 refine qab<|wp_seq<|sg<|fk E ok qhL qap rfl 0 rfl rfl fun a E=>fk E ok qnB qap rfl 0 rfl rfl fun a E=>qbu (R:=(pI .i64)) (xo:=[.tmp 41,.tmp 43]) (xs:=([x48.A,x48.B]:List (Int))) E ok qg3 qlq rfl ⟨⟨_,rfl,rfl,(qdL r58)⟩,⟨_,rfl,rfl,(qdL r59)⟩,trivial⟩ rfl rfl rfl rfl fun c109 M110 a w E ok h111=>lv E ok (qeq qg3 h111 rfl) fun a E=>mv E rfl fun a E=>wn<|wp_block<|bd hF fun o119 hL hF=>qba _ (fun (s:Int × Builder) a w=>∃ c121 c123 M124,Ok u m14 (M110 :: [(b61,oc 47 [vi x48.Op,vi x48.A,vi x48.B,vs x48.S])] :: M124 :: [(b22,oc 68 [c121,c123])] :: [(b15,oc 110 [(Value.int .u32 r12.once.done.v),(Value.int .i32 r12.once.m.mu.state),(Value.int .u32 r12.once.m.mu.sema),Value.nilIface,c19])] :: M20 :: [(b6,oc 62 [(vs ([63])),(vs ([101,109,105,116])),(vs ([111,112,101,110])),(vs ([99,108,111,115,101])),(vs ([118,111,105,100])),(vs ([97,114,103])),(vs ([110,117,109,98,101,114])),(vs ([117,110,105,116])),(vs ([100,97,116,101])),(vs ([108,105,115,116])),(vs ([115,119,105,116,99,104])),(vs ([99,97,115,101])),(vs ([106,117,109,112])),(vs ([115,116,111,112]))])] :: [(b5,oc 28 [c1,c3])] :: S) w ∧ Env 70 a [(3,vp b6),(4,vp b15),(5,vp b22),(7,vp b61),(15,c3),(16,(vi (c_0.Ins.length:Int))),(17,vi v39),(44,c109),(45,(vi (([x48.A,x48.B]:List (Int)).length:Int))),(46,vi s.1)] ∧ InR .i64 s.1 ∧ BAd b22 c121 ∧ ORow 5 1 (pI .u8) m14 c123 s.2.buf M124) (fun (b:Builder) e a w=>e = (.exit 2) ∧ ∃ c173 c175 M176,Ok u m14 (M110 :: [(b61,oc 47 [vi x48.Op,vi x48.A,vi x48.B,vs x48.S])] :: M176 :: [(b22,oc 68 [c173,c175])] :: [(b15,oc 110 [(Value.int .u32 r12.once.done.v),(Value.int .i32 r12.once.m.mu.state),(Value.int .u32 r12.once.m.mu.sema),Value.nilIface,c19])] :: M20 :: [(b6,oc 62 [(vs ([63])),(vs ([101,109,105,116])),(vs ([111,112,101,110])),(vs ([99,108,111,115,101])),(vs ([118,111,105,100])),(vs ([97,114,103])),(vs ([110,117,109,98,101,114])),(vs ([117,110,105,116])),(vs ([100,97,116,101])),(vs ([108,105,115,116])),(vs ([115,119,105,116,99,104])),(vs ([99,97,115,101])),(vs ([106,117,109,112])),(vs ([115,116,111,112]))])] :: [(b5,oc 28 [c1,c3])] :: S) w ∧ Env 70 a [(3,vp b6),(4,vp b15),(5,vp b22),(7,vp b61),(15,c3),(16,(vi (c_0.Ins.length:Int))),(17,vi v39)] ∧ BAd b22 c173 ∧ ORow 5 1 (pI .u8) m14 c175 b.buf M176) ?_ ?_ N _ a w hL ⟨c104,c106,M107,ok,E.keep [3,4,5,7,15,16,17,44,45,46],(ir 0),h105,h108⟩
 rotate_left
 ·intro e a w _ hO
  obtain ⟨rfl,c160,c162,M163,ok,E,h161,h164⟩:=hO
  refine qbm<|qab<|wp_seq<|sg<|fk E ok qnJ qal rfl 1 rfl rfl fun a E=>lw E (qc1 rfl rfl) fun a E=>wn<|cf E rfl hF (fun c165 hF=>?_) fun c165 hF=>?_
  ·cases hF
  refine wp_skip<|qab<|qac ?_
  obtain ⟨r166,e167,hF⟩:=bnd hF
  replace ok:Ok u m14 ([(b22,oc 68 [c160,c162])] :: M163 :: M110 :: [(b61,oc 47 [vi x48.Op,vi x48.A,vi x48.B,vs x48.S])] :: [(b15,oc 110 [(Value.int .u32 r12.once.done.v),(Value.int .i32 r12.once.m.mu.state),(Value.int .u32 r12.once.m.mu.sema),Value.nilIface,c19])] :: M20 :: [(b6,oc 62 [(vs ([63])),(vs ([101,109,105,116])),(vs ([111,112,101,110])),(vs ([99,108,111,115,101])),(vs ([118,111,105,100])),(vs ([97,114,103])),(vs ([110,117,109,98,101,114])),(vs ([117,110,105,116])),(vs ([100,97,116,101])),(vs ([108,105,115,116])),(vs ([115,119,105,116,99,104])),(vs ([99,97,115,101])),(vs ([106,117,109,112])),(vs ([115,116,111,112]))])] :: [(b5,oc 28 [c1,c3])] :: S) w:=(ok.pk 8 [3,2,0,1,4,5,6,7] rfl (by decide))
  refine qaf E qk4 rfl (qcu N 10 (show InR .u8 (10) by decide) (Builder.mk () o119.buf) h161 h164 e167 hG ok) rfl rfl ?_
  rintro _ w ⟨c168,c170,M171,⟨rfl,ok⟩,h169,h172⟩
  refine ⟨_,rfl,fun a E=>?_⟩
  refine wpList_nil<|qah<|qab<|qac<|lw E (qaG rfl rfl (InR.inc r41 (qao h4) c47)) fun a E=>mv E rfl fun a E=>wpList_nil ?_
  cases hF
  exact qav ⟨c168,c170,M171,(ok.pk 8 [1,0,4,5,6,7] rfl (by decide)),E.keep [3,4,5,15,16,17],(InR.inc r41 (qao h4) c47),h169,h172⟩
 rintro ⟨v126,v127⟩ a w r ⟨c129,c131,M132,ok,E,r128,h130,h133⟩ hF
 replace hF:qgJ N x48 v126 v127 = some r:=hF
 unfold qgJ at hF
 refine sg<|lw E (qaQ rfl rfl) fun a E=>wn<|wp_seq<|cg E rfl hF (fun c134 hF=>?_) fun c134 hF=>?_
 ·refine wp_exit<|qaW ?_
  cases hF
  exact so (⟨rfl,⟨c129,c131,M132,ok,E.keep [3,4,5,7,15,16,17],h130,h133⟩⟩)
 refine wp_skip<|qab<|wp_seq<|wp_block<|sg ?_
 obtain ⟨x135,e136,hF⟩:=bnd hF
 obtain ⟨b137,o138,hp139,yy140⟩:=qgc qg3 h111 e136 (P:=Tryz.prog) (X:=.tmp 44) (I:=.tmp 46) (kd:=.i64) (qco E rfl) (qco E rfl)
 refine lv E ok (yy140 _ _) fun a E=>?_
 obtain ⟨es141,hl142,rr143,hh144⟩:=qhN h111 e136 hp139 (by decide)
 obtain ⟨rfl,r145⟩:=rr143
 refine lv E ok (qax qap rfl (hh144 _ _ _ 0 rfl)) fun a E=>aw E rfl fun a E=>sg<|mv E rfl fun a E=>lw E (qbr rfl rfl) fun a E=>wn<|cg E rfl hF (fun c146 hF=>?_) fun c146 hF=>?_
 ·refine wp_skip<|qah<|qab<|qac<|lw E (qaG rfl rfl (InR.inc r128 (ORow.InR h111) c134)) fun a E=>mv E rfl fun a E=>wpList_nil ?_
  cases hF
  exact qav ⟨c129,c131,M132,ok,E.keep [3,4,5,7,15,16,17,44,45,46],(InR.inc r128 (ORow.InR h111) c134),h130,h133⟩
 refine qac<|mv E rfl fun a E=>bd hF fun r147 e148 hF=>qaf E qk2 rfl (qeP N x135 r145 e148 hG hTb ok) rfl rfl ?_
 rintro _ w ⟨⟨rfl,ok⟩,l149⟩
 refine ⟨_,rfl,fun a E=>?_⟩
 refine bd hF fun s150 e151 hF=>lw E (qaY rfl rfl e151) fun a E=>?_
 obtain ⟨r152,e153,hF⟩:=bnd hF
 replace ok:Ok u m14 ([(b22,oc 68 [c129,c131])] :: M132 :: M110 :: [(b61,oc 47 [vi x48.Op,vi x48.A,vi x48.B,vs x48.S])] :: [(b15,oc 110 [(Value.int .u32 r12.once.done.v),(Value.int .i32 r12.once.m.mu.state),(Value.int .u32 r12.once.m.mu.sema),Value.nilIface,c19])] :: M20 :: [(b6,oc 62 [(vs ([63])),(vs ([101,109,105,116])),(vs ([111,112,101,110])),(vs ([99,108,111,115,101])),(vs ([118,111,105,100])),(vs ([97,114,103])),(vs ([110,117,109,98,101,114])),(vs ([117,110,105,116])),(vs ([100,97,116,101])),(vs ([108,105,115,116])),(vs ([115,119,105,116,99,104])),(vs ([99,97,115,101])),(vs ([106,117,109,112])),(vs ([115,116,111,112]))])] :: [(b5,oc 28 [c1,c3])] :: S) w:=(ok.pk 8 [3,2,0,1,4,5,6,7] rfl (by decide))
 refine qaf E qlh rfl (qcn N s150 (qbR e151) (Builder.mk () v127.buf) h130 h133 e153 hG ok) rfl rfl ?_
 rintro _ w ⟨c155,c157,M158,⟨rfl,ok⟩,r154,h156,h159⟩
 refine ⟨_,rfl,fun a E=>?_⟩
 refine wpList_nil<|qah<|qab<|qac<|lw E (qaG rfl rfl (InR.inc r128 (ORow.InR h111) c134)) fun a E=>mv E rfl fun a E=>wpList_nil ?_
 cases hF
 exact qav ⟨c155,c157,M158,(ok.pk 8 [2,3,1,0,4,5,6,7] rfl (by decide)),E.keep [3,4,5,7,15,16,17,44,45,46],(InR.inc r128 (ORow.InR h111) c134),h156,h159⟩
end Go.Proofs.YtllnjbnknjpbjaaGreatDoor
namespace Go.Proofs.YtllnjbnknjpbjaaGreatDoor
open Go.X
variable {u:World} {m0:Mem} {S:Segs} {w:World}
set_option maxHeartbeats 4000000
set_option maxRecDepth 100000
def qm4:Rp Number2:=fun _ cs x=>cs = [.bool x.Neg,.string (bs x.Whole),.string (bs x.Frac)] ∧ x.Whole.length ≤ LIMS ∧ x.Frac.length ≤ LIMS
theorem qbs:aggB Tryz.prog 173 3 = true:=by kernel_rfl
theorem qie:qa4 Tryz.prog 173 0 0 = true:=by kernel_rfl
theorem qc2:qa4 Tryz.prog 173 1 1 = true:=by kernel_rfl
theorem qdr:qa4 Tryz.prog 173 2 2 = true:=by kernel_rfl
theorem qqM:goB Tryz.prog 104 = true:=by kernel_rfl
theorem qq4:goB Tryz.prog 105 = true:=by kernel_rfl
theorem qoW:goB Tryz.prog 128 = true:=by kernel_rfl
theorem qkO:goB Tryz.prog 129 = true:=by kernel_rfl
theorem qn6:goB Tryz.prog 22 = true:=by kernel_rfl
theorem qoe:goB Tryz.prog 27 = true:=by kernel_rfl
theorem qnR:goB Tryz.prog 28 = true:=by kernel_rfl
theorem qnU:goB Tryz.prog 29 = true:=by kernel_rfl
theorem qn9:goB Tryz.prog 43 = true:=by kernel_rfl
theorem qmi:goB Tryz.prog 44 = true:=by kernel_rfl
theorem qkW:goB Tryz.prog 45 = true:=by kernel_rfl
theorem qkf:goB Tryz.prog 47 = true:=by kernel_rfl
theorem qe9:goB Tryz.prog 59 = true:=by kernel_rfl
theorem qki:goB Tryz.prog 60 = true:=by kernel_rfl
theorem qrK:goB Tryz.prog 62 = true:=by kernel_rfl
theorem qmp:goB Tryz.prog 75 = true:=by kernel_rfl
theorem qpJ:goB Tryz.prog 76 = true:=by kernel_rfl
theorem qrv:goB Tryz.prog 77 = true:=by kernel_rfl
theorem qrB:goB Tryz.prog 78 = true:=by kernel_rfl
theorem qmf:goB Tryz.prog 79 = true:=by kernel_rfl
theorem qhF:goB Tryz.prog 80 = true:=by kernel_rfl
theorem qb1:∃ i,Tryz.prog.info? 173 = some i ∧ i.size = 3:=⟨_,rfl,by kernel_rfl⟩
theorem qrg:∃ i,Tryz.prog.info? 4 = some i ∧ i.size = 1:=⟨_,rfl,by kernel_rfl⟩
theorem qmj:oneB Tryz.prog 4 = true:=by kernel_rfl
theorem qb2:qd2 Tryz.prog 173 = some [(0,1),(1,1),(2,1)]:=by kernel_rfl
theorem qch:qcE Tryz.prog 173 = some [vb false,(vs ([])),(vs ([]))]:=by kernel_rfl
def qjs (u:World) (m0:Mem) (S:Segs) (r:Int) (a:Act) (w:World):Prop :=
 Ok u m0 S w ∧ a.defers = [] ∧ RVs Tryz.prog a w [.t 2 (.int .i64 r)] ∧ InR .i64 r
def qes (N:Nat):Prop:=∀ {u:World} {m0:Mem} {S:Segs} {w:World} (vparts_0:Value) (parts_0:List (Part)) (hparts_0:(pL 6 qaM) m0 [vparts_0] parts_0) {r:Int} (hF:qb7 N parts_0 = some r) (hG:Glob u) (ok:Ok u m0 S w),Calls Tryz.prog 27 [vparts_0].toArray w fun e w'=>(e = .returned (.int .i64 r) ∧ Ok u m0 S w') ∧ InR .i64 r
theorem qiu (N:Nat) (ih_calqueref26_Depth:qes N):qes (N + 1):=by
 intro u m0 S w vparts_0 parts_0 hparts_0 r hF hG ok
 have hF0:qdd (qb7 N) N parts_0 = some r:=hF
 have hF:=hF0
 clear hF0
 unfold qdd at hF
 refine en (qjs u m0 S) r Tryz.func27 rfl rfl rfl (fun _ _ h=>rb h rfl) fun fin a E=>sg<|aw E rfl fun a E=>sg<|aw E rfl fun a E=>wp_seq<|sg<|av E rfl fun a E=>wn<|wp_block<|bd hF fun o3 hL hF=>qba _ (fun (s:Int × Int) a w=>Ok u m0 (S) w ∧ Env 45 a [(0,vparts_0),(3,vi s.1),(4,vi s.2)] ∧ InR .i64 s.1 ∧ InR .i64 s.2) (fun (b:Int) e a w=>e = (.exit 0) ∧ Ok u m0 (S) w ∧ Env 45 a [(3,vi b)] ∧ InR .i64 b) ?_ ?_ N _ a w hL ⟨ok,E.keep [0,3,4],(ir 0),(ir 0)⟩
 rotate_left
 ·intro e a w _ hO
  obtain ⟨rfl,ok,E,r92⟩:=hO
  refine qbm<|qab<|sg<|mv E rfl fun a E=>aw E rfl fun a E=>wp_ret ?_
  exact fin hF ⟨ok,E.d,rz E rfl,r92⟩
 rintro ⟨v6,v7⟩ a w r ⟨ok,E,r8,r9⟩ hF
 replace hF:qcU (qb7 N) N parts_0 v6 v7 = some r:=hF
 unfold qcU at hF
 refine wp_seq<|sg<|mz E rfl rfl fun a E=>lv E ok (qbc qbd hparts_0 rfl) fun a E=>lw E (qaQ rfl rfl) fun a E=>wn<|cg E rfl hF (fun c10 hF=>?_) fun c10 hF=>?_
 ·refine wp_exit<|qaW ?_
  cases hF
  exact so (⟨rfl,⟨ok,E.keep [3],r8⟩⟩)
 refine wp_skip<|qab<|wp_seq<|wp_block<|sg<|mz E rfl rfl fun a E=>mv E rfl fun a E=>?_
 obtain ⟨x11,e12,hF⟩:=bnd hF
 obtain ⟨b13,o14,es15,hl16,rr17,at18,yy19⟩:=ia E 13 14 qbd hparts_0 e12
 obtain ⟨c24,c26,rfl,r20,l21,l22,l23,h25,h27⟩:=(qaO.1 rr17)
 refine lv E ok (yy19 _ _) fun a E=>fv E qcm rfl fun a E=>lv E ok (qax qb0 rfl (qae.ro (At.sub 5 1 at18))) fun a E=>bd hF fun r28 e29 hF=>qaf E qoe rfl (ih_calqueref26_Depth _ x11.Parts h27 e29 hG ok) rfl rfl ?_
 rintro _ w ⟨⟨rfl,ok⟩,r30⟩
 refine ⟨_,rfl,fun a E=>?_⟩
 refine lw E (qaN rfl rfl) fun a E=>lv E ok (qqS rfl rfl rfl) fun a E=>aw E rfl fun a E=>sg<|av E rfl fun a E=>wn<|wp_block<|bd hF fun o33 hL hF=>qba _ (fun (s:Int × Int) a w=>Ok u m0 (S) w ∧ Env 45 a [(0,vparts_0),(3,vi s.1),(4,vi v7),(5,vi s.2)] ∧ InR .i64 s.1 ∧ InR .i64 s.2) (fun (b:Int) e a w=>e = (.exit 2) ∧ Ok u m0 (S) w ∧ Env 45 a [(0,vparts_0),(3,vi b),(4,vi v7)] ∧ InR .i64 b) ?_ ?_ N _ a w hL ⟨ok,E.keep [0,3,4,5],(InR.max (InR.max r8 (ir 1)) (InR.wrap _ _)),(ir 0)⟩
 rotate_left
 ·intro e a w _ hO
  obtain ⟨rfl,ok,E,r90⟩:=hO
  refine qbm<|qah<|qab<|qac<|mv E rfl fun a E=>lw E (qaG rfl rfl (InR.inc r9 (qao hparts_0) c10)) fun a E=>av E rfl fun a E=>wpList_nil ?_
  cases hF
  exact qav ⟨ok,E.keep [0,3,4],r90,(InR.inc r9 (qao hparts_0) c10)⟩
 rintro ⟨v36,v37⟩ a w r ⟨ok,E,r38,r39⟩ hF
 replace hF:qcW (qb7 N) N parts_0 v7 v36 v37 = some r:=hF
 unfold qcW at hF
 refine wp_seq<|sg<|mz E rfl rfl fun a E=>mv E rfl fun a E=>?_
 obtain ⟨x40,e41,hF⟩:=bnd hF
 obtain ⟨b42,o43,es44,hl45,rr46,at47,yy48⟩:=ia E 22 23 qbd hparts_0 e41
 obtain ⟨c53,c55,rfl,r49,l50,l51,l52,h54,h56⟩:=(qaO.1 rr46)
 refine lv E ok (yy48 _ _) fun a E=>fv E qbj rfl fun a E=>lv E ok (qax qbK rfl (qae.ro (At.sub 4 1 at47))) fun a E=>lv E ok (qbc qbB h54 rfl) fun a E=>lw E (qaQ rfl rfl) fun a E=>wn<|cg E rfl hF (fun c57 hF=>?_) fun c57 hF=>?_
 ·refine wp_exit<|qaW ?_
  cases hF
  exact so (⟨rfl,⟨ok,E.keep [0,3,4],r38⟩⟩)
 refine wp_skip<|qab<|wp_seq<|wp_block<|qac<|mz E rfl rfl fun a E=>mv E rfl fun a E=>?_
 obtain ⟨x58,e59,hF⟩:=bnd hF
 obtain ⟨b60,o61,es62,hl63,rr64,at65,yy66⟩:=ia E 32 33 qbd hparts_0 e59
 obtain ⟨c71,c73,rfl,r67,l68,l69,l70,h72,h74⟩:=(qaO.1 rr64)
 refine lv E ok (yy66 _ _) fun a E=>fv E qbj rfl fun a E=>lv E ok (qax qbK rfl (qae.ro (At.sub 4 1 at65))) fun a E=>mv E rfl fun a E=>?_
 obtain ⟨x75,e76,hF⟩:=bnd hF
 obtain ⟨b77,o78,es79,hl80,rr81,at82,yy83⟩:=ia E 36 37 qbB h72 e76
 obtain ⟨c85,rfl,l84,h86⟩:=rr81
 refine lv E ok (yy83 _ _) fun a E=>fv E qeW rfl fun a E=>lv E ok (qax qb0 rfl (qae.ro (At.sub 1 1 at82))) fun a E=>bd hF fun r87 e88 hF=>qaf E qoe rfl (ih_calqueref26_Depth _ x75.Parts h86 e88 hG ok) rfl rfl ?_
 rintro _ w ⟨⟨rfl,ok⟩,r89⟩
 refine ⟨_,rfl,fun a E=>?_⟩
 refine lw E (qaN rfl rfl) fun a E=>lw E (qrk rfl rfl) fun a E=>av E rfl fun a E=>wpList_nil<|qah<|qab<|qac<|mv E rfl fun a E=>lw E (qaG rfl rfl (InR.inc r39 (qao h54) c57)) fun a E=>av E rfl fun a E=>wpList_nil ?_
 cases hF
 exact qav ⟨ok,E.keep [0,3,4,5],(InR.max r38 (InR.wrap _ _)),(InR.inc r39 (qao h54) c57)⟩
theorem qiC:qes 0:=by
 intro u m0 S w vparts_0 parts_0 hparts_0 r hF hG ok
 replace hF:none = some r:=hF
 cases hF
theorem qhv (N:Nat):qes N:=by
 induction N with
 | zero=>exact qiC
 | succ N h=>exact qiu N h
theorem qjx {u:World} {m0:Mem} {S:Segs} {w:World} (N:Nat) (vparts_0:Value) (parts_0:List (Part)) (hparts_0:(pL 6 qaM) m0 [vparts_0] parts_0) {r:Int} (hF:qb7 N parts_0 = some r) (hG:Glob u) (ok:Ok u m0 S w) :
 Calls Tryz.prog 27 [vparts_0].toArray w fun e w'=>(e = .returned (.int .i64 r) ∧ Ok u m0 S w') ∧ InR .i64 r:=(qhv N) vparts_0 parts_0 hparts_0 hF hG ok
def qj4 (u:World) (m0:Mem) (S:Segs) (r:Int) (a:Act) (w:World):Prop :=
 Ok u m0 S w ∧ a.defers = [] ∧ RVs Tryz.prog a w [.t 2 (.int .i64 r)] ∧ InR .i64 r
def qeI (N:Nat):Prop:=∀ {u:World} {m0:Mem} {S:Segs} {w:World} (vparts_0:Value) (parts_0:List (Part)) (hparts_0:(pL 6 qaM) m0 [vparts_0] parts_0) {r:Int} (hF:qcj N parts_0 = some r) (hG:Glob u) (ok:Ok u m0 S w),Calls Tryz.prog 28 [vparts_0].toArray w fun e w'=>(e = .returned (.int .i64 r) ∧ Ok u m0 S w') ∧ InR .i64 r
theorem qiM (N:Nat) (ih_calqueref26_Size:qeI N):qeI (N + 1):=by
 intro u m0 S w vparts_0 parts_0 hparts_0 r hF hG ok
 have hF0:qdl (qcj N) N parts_0 = some r:=hF
 have hF:=hF0
 clear hF0
 unfold qdl at hF
 refine en (qj4 u m0 S) r Tryz.func28 rfl rfl rfl (fun _ _ h=>rb h rfl) fun fin a E=>sg<|aw E rfl fun a E=>sg<|aw E rfl fun a E=>wp_seq<|sg<|av E rfl fun a E=>wn<|wp_block<|bd hF fun o3 hL hF=>qba _ (fun (s:Int × Int) a w=>Ok u m0 (S) w ∧ Env 53 a [(0,vparts_0),(3,vi s.1),(4,vi s.2)] ∧ InR .i64 s.1 ∧ InR .i64 s.2) (fun (b:Int) e a w=>e = (.exit 0) ∧ Ok u m0 (S) w ∧ Env 53 a [(3,vi b)] ∧ InR .i64 b) ?_ ?_ N _ a w hL ⟨ok,E.keep [0,3,4],(ir 0),(ir 0)⟩
 rotate_left
 ·intro e a w _ hO
  obtain ⟨rfl,ok,E,r109⟩:=hO
  refine qbm<|qab<|sg<|mv E rfl fun a E=>aw E rfl fun a E=>wp_ret ?_
  exact fin hF ⟨ok,E.d,rz E rfl,r109⟩
 rintro ⟨v6,v7⟩ a w r ⟨ok,E,r8,r9⟩ hF
 replace hF:qc9 (qcj N) N parts_0 v6 v7 = some r:=hF
 unfold qc9 at hF
 refine wp_seq<|sg<|mz E rfl rfl fun a E=>lv E ok (qbc qbd hparts_0 rfl) fun a E=>lw E (qaQ rfl rfl) fun a E=>wn<|cg E rfl hF (fun c10 hF=>?_) fun c10 hF=>?_
 ·refine wp_exit<|qaW ?_
  cases hF
  exact so (⟨rfl,⟨ok,E.keep [3],r8⟩⟩)
 refine wp_skip<|qab<|wp_seq<|wp_block<|wp_seq<|qdS (by kernel_rfl) (by kernel_rfl) ok<|qv E (qan rfl) fun a E=>qv E (qan rfl) fun a E=>qv E (qan rfl) fun a E=>?_
 obtain ⟨x11,e12,hF⟩:=bnd hF
 obtain ⟨b13,o14,es15,hl16,rr17,at18,yy19⟩:=ia E 13 14 qbd hparts_0 e12
 obtain ⟨c24,c26,rfl,r20,l21,l22,l23,h25,h27⟩:=(qaO.1 rr17)
 refine qv E (yy19 _ _) fun a E=>qv E (qai qcm rfl) fun a E=>qv E (qax qb0 rfl (qae.ro (At.sub 5 1 at18))) fun a E=>?_
 obtain ⟨r28,e29,hF⟩:=bnd hF
 obtain ⟨_,_,⟨_,_⟩,r30⟩:=Go.X.Calls.get (ih_calqueref26_Size _ x11.Parts h27 e29 hG ok)
 refine qee E qnR rfl (fun w ok=>(ih_calqueref26_Size _ x11.Parts h27 e29 hG ok).mono (fun _ _ h=>h.1)) rfl rfl fun a E=>qv E (qaN rfl rfl) fun a E=>qv E (qan rfl) fun a E=>qv E (qan rfl) fun a E=>?_
 obtain ⟨x31,e32,hF⟩:=bnd hF
 obtain ⟨b33,o34,es35,hl36,rr37,at38,yy39⟩:=ia E 20 21 qbd hparts_0 e32
 obtain ⟨c44,c46,rfl,r40,l41,l42,l43,h45,h47⟩:=(qaO.1 rr37)
 refine qv E (yy39 _ _) fun a E=>qv E (qai qdH rfl) fun a E=>qv E (qax qal rfl (qae.ro (At.sub 1 1 at38))) fun a E=>qv E (qaH Tryz.underlying9 rfl) fun a E=>qv E (qjf rfl rfl (by decide)) fun a E=>qv E (qaN rfl rfl) fun a E=>qv E (qaN rfl rfl) fun a E=>qv E (qbv rfl) fun a E=>wpQuiet_nil ?_
 intro w ok
 refine qab<|sg<|aw E rfl fun a E=>wp_block<|bd hF fun o50 hL hF=>qba _ (fun (s:Int × Int) a w=>Ok u m0 (S) w ∧ Env 53 a [(0,vparts_0),(3,vi s.1),(4,vi v7),(5,vi s.2)] ∧ InR .i64 s.1 ∧ InR .i64 s.2) (fun (b:Int) e a w=>e = (.exit 2) ∧ Ok u m0 (S) w ∧ Env 53 a [(0,vparts_0),(3,vi b),(4,vi v7)] ∧ InR .i64 b) ?_ ?_ N _ a w hL ⟨ok,E.keep [0,3,4,5],(InR.wrap _ _),(ir 0)⟩
 rotate_left
 ·intro e a w _ hO
  obtain ⟨rfl,ok,E,r107⟩:=hO
  refine qbm<|qah<|qab<|qac<|mv E rfl fun a E=>lw E (qaG rfl rfl (InR.inc r9 (qao hparts_0) c10)) fun a E=>av E rfl fun a E=>wpList_nil ?_
  cases hF
  exact qav ⟨ok,E.keep [0,3,4],r107,(InR.inc r9 (qao hparts_0) c10)⟩
 rintro ⟨v53,v54⟩ a w r ⟨ok,E,r55,r56⟩ hF
 replace hF:qc8 (qcj N) N parts_0 v7 v53 v54 = some r:=hF
 unfold qc8 at hF
 refine wp_seq<|sg<|mz E rfl rfl fun a E=>mv E rfl fun a E=>?_
 obtain ⟨x57,e58,hF⟩:=bnd hF
 obtain ⟨b59,o60,es61,hl62,rr63,at64,yy65⟩:=ia E 30 31 qbd hparts_0 e58
 obtain ⟨c70,c72,rfl,r66,l67,l68,l69,h71,h73⟩:=(qaO.1 rr63)
 refine lv E ok (yy65 _ _) fun a E=>fv E qbj rfl fun a E=>lv E ok (qax qbK rfl (qae.ro (At.sub 4 1 at64))) fun a E=>lv E ok (qbc qbB h71 rfl) fun a E=>lw E (qaQ rfl rfl) fun a E=>wn<|cg E rfl hF (fun c74 hF=>?_) fun c74 hF=>?_
 ·refine wp_exit<|qaW ?_
  cases hF
  exact so (⟨rfl,⟨ok,E.keep [0,3,4],r55⟩⟩)
 refine wp_skip<|qab<|wp_seq<|wp_block<|qac<|mz E rfl rfl fun a E=>mv E rfl fun a E=>?_
 obtain ⟨x75,e76,hF⟩:=bnd hF
 obtain ⟨b77,o78,es79,hl80,rr81,at82,yy83⟩:=ia E 40 41 qbd hparts_0 e76
 obtain ⟨c88,c90,rfl,r84,l85,l86,l87,h89,h91⟩:=(qaO.1 rr81)
 refine lv E ok (yy83 _ _) fun a E=>fv E qbj rfl fun a E=>lv E ok (qax qbK rfl (qae.ro (At.sub 4 1 at82))) fun a E=>mv E rfl fun a E=>?_
 obtain ⟨x92,e93,hF⟩:=bnd hF
 obtain ⟨b94,o95,es96,hl97,rr98,at99,yy100⟩:=ia E 44 45 qbB h89 e93
 obtain ⟨c102,rfl,l101,h103⟩:=rr98
 refine lv E ok (yy100 _ _) fun a E=>fv E qeW rfl fun a E=>lv E ok (qax qb0 rfl (qae.ro (At.sub 1 1 at99))) fun a E=>bd hF fun r104 e105 hF=>qaf E qnR rfl (ih_calqueref26_Size _ x92.Parts h103 e105 hG ok) rfl rfl ?_
 rintro _ w ⟨⟨rfl,ok⟩,r106⟩
 refine ⟨_,rfl,fun a E=>?_⟩
 refine lw E (qaN rfl rfl) fun a E=>lw E (qaN rfl rfl) fun a E=>av E rfl fun a E=>wpList_nil<|qah<|qab<|qac<|mv E rfl fun a E=>lw E (qaG rfl rfl (InR.inc r56 (qao h71) c74)) fun a E=>av E rfl fun a E=>wpList_nil ?_
 cases hF
 exact qav ⟨ok,E.keep [0,3,4,5],(InR.wrap _ _),(InR.inc r56 (qao h71) c74)⟩
theorem qiF:qeI 0:=by
 intro u m0 S w vparts_0 parts_0 hparts_0 r hF hG ok
 replace hF:none = some r:=hF
 cases hF
theorem qh1 (N:Nat):qeI N:=by
 induction N with
 | zero=>exact qiF
 | succ N h=>exact qiM N h
theorem qj3 {u:World} {m0:Mem} {S:Segs} {w:World} (N:Nat) (vparts_0:Value) (parts_0:List (Part)) (hparts_0:(pL 6 qaM) m0 [vparts_0] parts_0) {r:Int} (hF:qcj N parts_0 = some r) (hG:Glob u) (ok:Ok u m0 S w) :
 Calls Tryz.prog 28 [vparts_0].toArray w fun e w'=>(e = .returned (.int .i64 r) ∧ Ok u m0 S w') ∧ InR .i64 r:=(qh1 N) vparts_0 parts_0 hparts_0 hF hG ok
def qfs (u:World) (m0:Mem) (S:Segs) (r:Bool) (a:Act) (w:World):Prop :=
 Ok u m0 S w ∧ a.defers = [] ∧ RVs Tryz.prog a w [.t 2 (.bool r)]
def qev (N:Nat):Prop:=∀ {u:World} {m0:Mem} {S:Segs} {w:World} (vparts_0:Value) (parts_0:List (Part)) (hparts_0:(pL 6 qaM) m0 [vparts_0] parts_0) {r:Bool} (hF:qb6 N parts_0 = some r) (hG:Glob u) (ok:Ok u m0 S w),Calls Tryz.prog 29 [vparts_0].toArray w fun e w'=>(e = .returned (.bool r) ∧ Ok u m0 S w')
theorem qiD (N:Nat) (ih_calqueref26_short:qev N):qev (N + 1):=by
 intro u m0 S w vparts_0 parts_0 hparts_0 r hF hG ok
 have hF0:qdc (qb6 N) N parts_0 = some r:=hF
 have hF:=hF0
 clear hF0
 unfold qdc at hF
 refine en (qfs u m0 S) r Tryz.func29 rfl rfl rfl (fun _ _ h=>ra h rfl) fun fin a E=>sg<|aw E rfl fun a E=>wp_seq<|sg<|aw E rfl fun a E=>wp_block<|bd hF fun o2 hL hF=>qba _ (fun (s:Int) a w=>Ok u m0 (S) w ∧ Env 70 a [(0,vparts_0),(3,vi s)] ∧ InR .i64 s) (fun (b:(Unit ⊕ Bool)) e a w=>(Sum.elim (fun b150=>e = (.exit 0) ∧ Ok u m0 (S) w ∧ Env 70 a []) (fun b151=>e = .ret ∧ qfs u m0 S b151 a w)) b) ?_ ?_ N _ a w hL ⟨ok,E.keep [0,3],(ir 0)⟩
 rotate_left
 ·intro e a w _ hO
  rcases o2 with o2 | o2
  rotate_left
  ·obtain ⟨rfl,hret⟩:=hO
   refine qaE<|qaj ?_
   exact fin hF hret
  have hF:=qce hF
  obtain ⟨rfl,ok,E⟩:=hO
  refine qbm<|qab<|sg<|aw E rfl fun a E=>wp_ret ?_
  exact fin hF ⟨ok,E.d,rz E rfl⟩
 rintro v4 a w r ⟨ok,E,r5⟩ hF
 replace hF:qcX (qb6 N) N parts_0 v4 = some r:=hF
 unfold qcX at hF
 refine wp_seq<|sg<|mz E rfl rfl fun a E=>lv E ok (qbc qbd hparts_0 rfl) fun a E=>lw E (qaQ rfl rfl) fun a E=>wn<|cg E rfl hF (fun c6 hF=>?_) fun c6 hF=>?_
 ·refine wp_exit<|qaW ?_
  cases hF
  exact so (sl ⟨rfl,⟨ok,E.keep []⟩⟩)
 refine wp_skip<|qab<|wp_seq<|wp_block<|wp_seq<|sg<|mv E rfl fun a E=>mv E rfl fun a E=>?_
 obtain ⟨x7,e8,hF⟩:=bnd hF
 obtain ⟨b9,o10,es11,hl12,rr13,at14,yy15⟩:=ia E 11 12 qbd hparts_0 e8
 obtain ⟨c20,c22,rfl,r16,l17,l18,l19,h21,h23⟩:=(qaO.1 rr13)
 refine lv E ok (yy15 _ _) fun a E=>fv E qaV rfl fun a E=>lv E ok (qax qal rfl (qae.ro (At.sub 2 1 at14))) fun a E=>lw E (qaH Tryz.underlying9 rfl) fun a E=>lw E (qbF rfl rfl) fun a E=>mv E rfl fun a E=>bu E 18 hF (fun c24 hF E=>?_) fun c24 hF E=>?_
 ·refine lsz E fun a E=>lsq E fun a E=>ls E fun a E=>pt E rfl rfl fun a E=>mv E rfl fun a E=>lsz E fun a E=>lsq E fun a E=>ls E fun a E=>?_
  refine pt E rfl rfl fun a E=>wn<|c_if E rfl (fun _=>?_) (fun h=>by cases h)
  refine sg<|aw E rfl fun a E=>wp_ret<|qaj<|qaE<|qaj ?_
  cases hF
  exact so (sr ⟨rfl,⟨ok,E.d,rz E rfl⟩⟩)
 refine mz E rfl rfl fun a E=>?_
 obtain ⟨x25,e26,hF⟩:=bnd hF
 obtain ⟨b27,o28,es29,hl30,rr31,at32,yy33⟩:=ia E 19 20 qbd hparts_0 e26
 obtain ⟨c38,c40,rfl,r34,l35,l36,l37,h39,h41⟩:=(qaO.1 rr31)
 refine lv E ok (yy33 _ _) fun a E=>fv E qa8 rfl fun a E=>lv E ok (qax qal rfl (qae.ro (At.sub 3 1 at32))) fun a E=>lw E (qaH Tryz.underlying9 rfl) fun a E=>lw E (qbF rfl rfl) fun a E=>pf E rfl rfl fun a E=>mv E rfl fun a E=>bu E 27 hF (fun c42 hF E=>?_) fun c42 hF E=>?_
 ·refine lsz E fun a E=>lsq E fun a E=>ls E fun a E=>pt E rfl rfl fun a E=>wn<|c_if E rfl (fun _=>?_) (fun h=>by cases h)
  refine sg<|aw E rfl fun a E=>wp_ret<|qaj<|qaE<|qaj ?_
  cases hF
  exact so (sr ⟨rfl,⟨ok,E.d,rz E rfl⟩⟩)
 refine mz E rfl rfl fun a E=>?_
 obtain ⟨x43,e44,hF⟩:=bnd hF
 obtain ⟨b45,o46,es47,hl48,rr49,at50,yy51⟩:=ia E 28 29 qbd hparts_0 e44
 obtain ⟨c56,c58,rfl,r52,l53,l54,l55,h57,h59⟩:=(qaO.1 rr49)
 refine lv E ok (yy51 _ _) fun a E=>fv E qcm rfl fun a E=>lv E ok (qax qb0 rfl (qae.ro (At.sub 5 1 at50))) fun a E=>bd hF fun r60 e61 hF=>lc E qnU rfl (ih_calqueref26_short _ x43.Parts h59 e61 hG ok) fun w ok a E=>lw E (qbg rfl) fun a E=>pf E rfl rfl fun a E=>wn<|cf E rfl hF (fun c62 hF=>?_) fun c62 hF=>?_
 ·refine sg<|aw E rfl fun a E=>wp_ret<|qaj<|qaE<|qaj ?_
  cases hF
  exact so (sr ⟨rfl,⟨ok,E.d,rz E rfl⟩⟩)
 refine wp_skip<|qab<|sg<|aw E rfl fun a E=>wp_block<|bd hF fun o64 hL hF=>qba _ (fun (s:Int) a w=>Ok u m0 (S) w ∧ Env 70 a [(0,vparts_0),(3,vi v4),(4,vi s)] ∧ InR .i64 s) (fun (b:(Unit ⊕ Bool)) e a w=>(Sum.elim (fun b148=>e = (.exit 2) ∧ Ok u m0 (S) w ∧ Env 70 a [(0,vparts_0),(3,vi v4)]) (fun b149=>e = .ret ∧ qfs u m0 S b149 a w)) b) ?_ ?_ N _ a w hL ⟨ok,E.keep [0,3,4],(ir 0)⟩
 rotate_left
 ·intro e a w _ hO
  rcases o64 with o64 | o64
  rotate_left
  ·have hF:=qmr hF
   obtain ⟨rfl,hret⟩:=hO
   refine qaE<|qaE<|qaj ?_
   cases hF
   exact so (sr ⟨rfl,hret⟩)
  have hF:=qce hF
  obtain ⟨rfl,ok,E⟩:=hO
  refine qbm<|qah<|qab<|qac<|mv E rfl fun a E=>lw E (qaG rfl rfl (InR.inc r5 (qao hparts_0) c6)) fun a E=>av E rfl fun a E=>wpList_nil ?_
  cases hF
  exact qav ⟨ok,E.keep [0,3],(InR.inc r5 (qao hparts_0) c6)⟩
 rintro v66 a w r ⟨ok,E,r67⟩ hF
 replace hF:qc0 (qb6 N) N parts_0 v4 v66 = some r:=hF
 unfold qc0 at hF
 refine wp_seq<|sg<|mz E rfl rfl fun a E=>mv E rfl fun a E=>?_
 obtain ⟨x68,e69,hF⟩:=bnd hF
 obtain ⟨b70,o71,es72,hl73,rr74,at75,yy76⟩:=ia E 37 38 qbd hparts_0 e69
 obtain ⟨c81,c83,rfl,r77,l78,l79,l80,h82,h84⟩:=(qaO.1 rr74)
 refine lv E ok (yy76 _ _) fun a E=>fv E qbj rfl fun a E=>lv E ok (qax qbK rfl (qae.ro (At.sub 4 1 at75))) fun a E=>lv E ok (qbc qbB h82 rfl) fun a E=>lw E (qaQ rfl rfl) fun a E=>wn<|cg E rfl hF (fun c85 hF=>?_) fun c85 hF=>?_
 ·refine wp_exit<|qaW ?_
  cases hF
  exact so (sl ⟨rfl,⟨ok,E.keep [0,3]⟩⟩)
 refine wp_skip<|qab<|wp_seq<|wp_block<|sg<|mz E rfl rfl fun a E=>?_
 obtain ⟨x86,e87,hF⟩:=bnd hF
 obtain ⟨b88,o89,es90,hl91,rr92,at93,yy94⟩:=ia E 46 47 qbd hparts_0 e87
 obtain ⟨c99,c101,rfl,r95,l96,l97,l98,h100,h102⟩:=(qaO.1 rr92)
 refine lv E ok (yy94 _ _) fun a E=>fv E qbj rfl fun a E=>lv E ok (qax qbK rfl (qae.ro (At.sub 4 1 at93))) fun a E=>mv E rfl fun a E=>?_
 obtain ⟨x103,e104,hF⟩:=bnd hF
 obtain ⟨b105,o106,es107,hl108,rr109,at110,yy111⟩:=ia E 50 51 qbB h100 e104
 obtain ⟨c113,rfl,l112,h114⟩:=rr109
 refine lv E ok (yy111 _ _) fun a E=>fv E qeX rfl fun a E=>lv E ok (qax qal rfl (qae.ro (At.sub 0 1 at110))) fun a E=>lw E (qaH Tryz.underlying9 rfl) fun a E=>lw E (qbF rfl rfl) fun a E=>mv E rfl fun a E=>bu E 57 hF (fun c115 hF E=>?_) fun c115 hF E=>?_
 ·refine lsz E fun a E=>lsz E fun a E=>lsq E fun a E=>ls E fun a E=>pt E rfl rfl fun a E=>wn<|c_if E rfl (fun _=>?_) (fun h=>by cases h)
  refine sg<|aw E rfl fun a E=>wp_ret<|qaE<|qaj ?_
  cases hF
  exact so (sr ⟨rfl,⟨ok,E.d,rz E rfl⟩⟩)
 refine mz E rfl rfl fun a E=>?_
 obtain ⟨x116,e117,hF⟩:=bnd hF
 obtain ⟨b118,o119,es120,hl121,rr122,at123,yy124⟩:=ia E 58 59 qbd hparts_0 e117
 obtain ⟨c129,c131,rfl,r125,l126,l127,l128,h130,h132⟩:=(qaO.1 rr122)
 refine lv E ok (yy124 _ _) fun a E=>fv E qbj rfl fun a E=>lv E ok (qax qbK rfl (qae.ro (At.sub 4 1 at123))) fun a E=>mv E rfl fun a E=>?_
 obtain ⟨x133,e134,hF⟩:=bnd hF
 obtain ⟨b135,o136,es137,hl138,rr139,at140,yy141⟩:=ia E 62 63 qbB h130 e134
 obtain ⟨c143,rfl,l142,h144⟩:=rr139
 refine lv E ok (yy141 _ _) fun a E=>fv E qeW rfl fun a E=>lv E ok (qax qb0 rfl (qae.ro (At.sub 1 1 at140))) fun a E=>bd hF fun r145 e146 hF=>lc E qnU rfl (ih_calqueref26_short _ x133.Parts h144 e146 hG ok) fun w ok a E=>lw E (qbg rfl) fun a E=>pf E rfl rfl fun a E=>wn<|cg E rfl hF (fun c147 hF=>?_) fun c147 hF=>?_
 ·refine wp_skip<|qah<|qab<|qac<|mv E rfl fun a E=>lw E (qaG rfl rfl (InR.inc r67 (qao h82) c85)) fun a E=>av E rfl fun a E=>wpList_nil ?_
  cases hF
  exact qav ⟨ok,E.keep [0,3,4],(InR.inc r67 (qao h82) c85)⟩
 refine sg<|aw E rfl fun a E=>wp_ret<|qaE<|qaj ?_
 cases hF
 exact so (sr ⟨rfl,⟨ok,E.d,rz E rfl⟩⟩)
theorem qiw:qev 0:=by
 intro u m0 S w vparts_0 parts_0 hparts_0 r hF hG ok
 replace hF:none = some r:=hF
 cases hF
theorem qhI (N:Nat):qev N:=by
 induction N with
 | zero=>exact qiw
 | succ N h=>exact qiD N h
theorem qjr {u:World} {m0:Mem} {S:Segs} {w:World} (N:Nat) (vparts_0:Value) (parts_0:List (Part)) (hparts_0:(pL 6 qaM) m0 [vparts_0] parts_0) {r:Bool} (hF:qb6 N parts_0 = some r) (hG:Glob u) (ok:Ok u m0 S w) :
 Calls Tryz.prog 29 [vparts_0].toArray w fun e w'=>(e = .returned (.bool r) ∧ Ok u m0 S w'):=(qhI N) vparts_0 parts_0 hparts_0 hF hG ok
def qkw (u:World) (m0:Mem) (S:Segs) (r:Bool) (a:Act) (w:World):Prop :=
 Ok u m0 S w ∧ a.defers = [] ∧ RVs Tryz.prog a w [.t 2 (.bool r)]
theorem qhs (N:Nat) (vparts_0:Value) (parts_0:List (Part)) (hparts_0:(pL 6 qaM) m0 [vparts_0] parts_0) {r:Bool} (hF:qd0 N parts_0 = some r) (hG:Glob u) (ok:Ok u m0 S w) :
  Calls Tryz.prog 10 [vparts_0].toArray w fun e w'=>(e = .returned (.bool r) ∧ Ok u m0 S w'):=by
 unfold qd0 at hF
 refine en (qkw u m0 S) r Tryz.func10 rfl rfl rfl (fun _ _ h=>ra h rfl) fun fin a E=>sg<|aw E rfl fun a E=>sg<|mv E rfl fun a E=>bd hF fun r1 e2 hF=>qaf E qoe rfl (qjx N _ parts_0 hparts_0 e2 hG ok) rfl rfl ?_
 rintro _ w ⟨⟨rfl,ok⟩,r3⟩
 refine ⟨_,rfl,fun a E=>?_⟩
 refine lw E (qc6 rfl rfl) fun a E=>mv E rfl fun a E=>bw E 6 hF (fun c4 hF E=>?_) fun c4 hF E=>?_
 ·refine lsq E fun a E=>ls E fun a E=>pf E rfl rfl fun a E=>mv E rfl fun a E=>lsq E fun a E=>pf E rfl rfl fun a E=>aw E rfl fun a E=>wp_ret ?_
  exact fin hF ⟨ok,E.d,rz E rfl⟩
 refine mv E rfl fun a E=>bd hF fun r5 e6 hF=>qaf E qnR rfl (qj3 N _ parts_0 hparts_0 e6 hG ok) rfl rfl ?_
 rintro _ w ⟨⟨rfl,ok⟩,r7⟩
 refine ⟨_,rfl,fun a E=>?_⟩
 refine lw E (qc6 rfl rfl) fun a E=>pt E rfl rfl fun a E=>mv E rfl fun a E=>bw E 11 hF (fun c8 hF E=>?_) fun c8 hF E=>?_
 ·refine lsq E fun a E=>pf E rfl rfl fun a E=>aw E rfl fun a E=>wp_ret ?_
  exact fin hF ⟨ok,E.d,rz E rfl⟩
 refine mv E rfl fun a E=>bd hF fun r9 e10 hF=>lc E qnU rfl (qjr N _ parts_0 hparts_0 e10 hG ok) fun w ok a E=>pt E rfl rfl fun a E=>aw E rfl fun a E=>wp_ret ?_
 exact fin hF ⟨ok,E.d,rz E rfl⟩
def qh3 (u:World) (m0:Mem) (S:Segs) (r:Bool) (a:Act) (w:World):Prop :=
 Ok u m0 S w ∧ a.defers = [] ∧ RVs Tryz.prog a w [.t 4 (.bool r)]
theorem qfd (N:Nat) (vl_0:Value) (l_0:List (List UInt8)) (hl_0:(pL 1 pS) m0 [vl_0] l_0) (s_1:List UInt8) (ls_1:s_1.length ≤ LIMS) {r:Bool} (hF:qek N l_0 s_1 = some r) (hG:Glob u) (ok:Ok u m0 S w) :
  Calls Tryz.prog 44 [vl_0,vs s_1].toArray w fun e w'=>(e = .returned (.bool r) ∧ Ok u m0 S w'):=by
 unfold qek at hF
 refine en (qh3 u m0 S) r Tryz.func44 rfl rfl rfl (fun _ _ h=>ra h rfl) fun fin a E=>sg<|aw E rfl fun a E=>wp_seq<|sg<|aw E rfl fun a E=>wp_block<|bd hF fun o2 hL hF=>qba _ (fun (s:Int) a w=>Ok u m0 (S) w ∧ Env 18 a [(0,vl_0),(1,vs s_1),(5,vi s)] ∧ InR .i64 s) (fun (b:(Unit ⊕ Bool)) e a w=>(Sum.elim (fun b18=>e = (.exit 0) ∧ Ok u m0 (S) w ∧ Env 18 a []) (fun b19=>e = .ret ∧ qh3 u m0 S b19 a w)) b) ?_ ?_ N _ a w hL ⟨ok,E.keep [0,1,5],(ir 0)⟩
 rotate_left
 ·intro e a w _ hO
  rcases o2 with o2 | o2
  rotate_left
  ·obtain ⟨rfl,hret⟩:=hO
   refine qaE<|qaj ?_
   exact fin hF hret
  have hF:=qce hF
  obtain ⟨rfl,ok,E⟩:=hO
  refine qbm<|qab<|sg<|aw E rfl fun a E=>wp_ret ?_
  exact fin hF ⟨ok,E.d,rz E rfl⟩
 rintro v4 a w r ⟨ok,E,r5⟩ hF
 replace hF:qfZ N l_0 s_1 v4 = some r:=hF
 unfold qfZ at hF
 refine wp_seq<|sg<|mz E rfl rfl fun a E=>lv E ok (qbc qcg hl_0 rfl) fun a E=>lw E (qaQ rfl rfl) fun a E=>wn<|cg E rfl hF (fun c6 hF=>?_) fun c6 hF=>?_
 ·refine wp_exit<|qaW ?_
  cases hF
  exact so (sl ⟨rfl,⟨ok,E.keep []⟩⟩)
 refine wp_skip<|qab<|wp_seq<|wp_block<|sg<|mz E rfl rfl fun a E=>?_
 obtain ⟨x7,e8,hF⟩:=bnd hF
 obtain ⟨b9,o10,es11,hl12,rr13,at14,yy15⟩:=ia E 12 13 qcg hl_0 e8
 obtain ⟨rfl,l16⟩:=rr13
 refine lv E ok (yy15 _ _) fun a E=>lv E ok (qax qal rfl (qae.ro at14)) fun a E=>mv E rfl fun a E=>lw E (qbt rfl rfl) fun a E=>wn<|cg E rfl hF (fun c17 hF=>?_) fun c17 hF=>?_
 ·refine wp_skip<|qah<|qab<|qac<|mv E rfl fun a E=>lw E (qaG rfl rfl (InR.inc r5 (qao hl_0) c6)) fun a E=>av E rfl fun a E=>wpList_nil ?_
  cases hF
  exact qav ⟨ok,E.keep [0,1,5],(InR.inc r5 (qao hl_0) c6)⟩
 refine sg<|aw E rfl fun a E=>wp_ret<|qaE<|qaj ?_
 cases hF
 exact so (sr ⟨rfl,⟨ok,E.d,rz E rfl⟩⟩)
def qii (u:World) (m0:Mem) (S:Segs) (r:Bool) (a:Act) (w:World):Prop :=
 Ok u m0 S w ∧ a.defers = [] ∧ RVs Tryz.prog a w [.t 2 (.bool r)]
theorem qex (N:Nat) (kind_0:Int) (rkind_0:InR .i64 kind_0) {r:Bool} (hF:qcL N kind_0 = some r) (hG:Glob u) (ok:Ok u m0 S w) :
  Calls Tryz.prog 43 [vi kind_0].toArray w fun e w'=>(e = .returned (.bool r) ∧ Ok u m0 S w'):=by
 unfold qcL at hF
 refine en (qii u m0 S) r Tryz.func43 rfl rfl rfl (fun _ _ h=>ra h rfl) fun fin a E=>sg<|aw E rfl fun a E=>sg<|mv E rfl fun a E=>lw E (qam rfl rfl) fun a E=>mv E rfl fun a E=>bu E 5 hF (fun c1 hF E=>?_) fun c1 hF E=>?_
 ·refine lsq E fun a E=>pt E rfl rfl fun a E=>mv E rfl fun a E=>lsq E fun a E=>pt E rfl rfl fun a E=>av E rfl fun a E=>wn<|wp_ret ?_
  exact fin hF ⟨ok,E.d,rz E rfl⟩
 refine mv E rfl fun a E=>lw E (qam rfl rfl) fun a E=>pf E rfl rfl fun a E=>mv E rfl fun a E=>bu E 9 hF (fun c2 hF E=>?_) fun c2 hF E=>?_
 ·refine lsq E fun a E=>pt E rfl rfl fun a E=>aw E rfl fun a E=>wp_ret ?_
  exact fin hF ⟨ok,E.d,rz E rfl⟩
 refine mv E rfl fun a E=>lw E (qam rfl rfl) fun a E=>pf E rfl rfl fun a E=>aw E rfl fun a E=>wp_ret ?_
 exact fin hF ⟨ok,E.d,rz E rfl⟩
def qi1 (u:World) (m0:Mem) (S:Segs) (r:Bool) (a:Act) (w:World):Prop :=
 Ok u m0 S w ∧ a.defers = [] ∧ RVs Tryz.prog a w [.t 2 (.bool r)]
theorem qdk (N:Nat) (kind_0:Int) (rkind_0:InR .i64 kind_0) {r:Bool} (hF:qbM N kind_0 = some r) (hG:Glob u) (ok:Ok u m0 S w) :
  Calls Tryz.prog 45 [vi kind_0].toArray w fun e w'=>(e = .returned (.bool r) ∧ Ok u m0 S w'):=by
 unfold qbM at hF
 refine en (qi1 u m0 S) r Tryz.func45 rfl rfl rfl (fun _ _ h=>ra h rfl) fun fin a E=>sg<|aw E rfl fun a E=>sg<|mv E rfl fun a E=>lw E (qam rfl rfl) fun a E=>mv E rfl fun a E=>bu E 5 hF (fun c1 hF E=>?_) fun c1 hF E=>?_
 ·refine lsq E fun a E=>pt E rfl rfl fun a E=>aw E rfl fun a E=>wp_ret ?_
  exact fin hF ⟨ok,E.d,rz E rfl⟩
 refine mv E rfl fun a E=>lw E (qam rfl rfl) fun a E=>pf E rfl rfl fun a E=>aw E rfl fun a E=>wp_ret ?_
 exact fin hF ⟨ok,E.d,rz E rfl⟩
def qjy (u:World) (m0:Mem) (S:Segs) (r:Bool) (a:Act) (w:World):Prop :=
 Ok u m0 S w ∧ a.defers = [] ∧ RVs Tryz.prog a w [.t 2 (.bool r)]
theorem qgO (N:Nat) (c_0:Int) (rc_0:InR .u8 c_0) {r:Bool} (hF:qeR N c_0 = some r) (hG:Glob u) (ok:Ok u m0 S w) :
  Calls Tryz.prog 76 [Value.int .u8 c_0].toArray w fun e w'=>(e = .returned (.bool r) ∧ Ok u m0 S w'):=by
 unfold qeR at hF
 refine en (qjy u m0 S) r Tryz.func76 rfl rfl rfl (fun _ _ h=>ra h rfl) fun fin a E=>sg<|aw E rfl fun a E=>sg<|mv E rfl fun a E=>lw E (qbW rfl rfl) fun a E=>mv E rfl fun a E=>bu E 5 hF (fun c1 hF E=>?_) fun c1 hF E=>?_
 ·refine mv E rfl fun a E=>lw E (qc6 rfl rfl) fun a E=>pt E rfl rfl fun a E=>aw E rfl fun a E=>wp_ret ?_
  exact fin hF ⟨ok,E.d,rz E rfl⟩
 refine lsq E fun a E=>pf E rfl rfl fun a E=>aw E rfl fun a E=>wp_ret ?_
 exact fin hF ⟨ok,E.d,rz E rfl⟩
def qi2 (u:World) (m0:Mem) (S:Segs) (r:Bool) (a:Act) (w:World):Prop :=
 Ok u m0 S w ∧ a.defers = [] ∧ RVs Tryz.prog a w [.t 2 (.bool r)]
theorem qi3 (N:Nat) (c_0:Int) (rc_0:InR .u8 c_0) {r:Bool} (hF:qfG N c_0 = some r) (hG:Glob u) (ok:Ok u m0 S w) :
  Calls Tryz.prog 104 [Value.int .u8 c_0].toArray w fun e w'=>(e = .returned (.bool r) ∧ Ok u m0 S w'):=by
 unfold qfG at hF
 refine en (qi2 u m0 S) r Tryz.func104 rfl rfl rfl (fun _ _ h=>ra h rfl) fun fin a E=>sg<|aw E rfl fun a E=>sg<|mv E rfl fun a E=>bd hF fun r1 e2 hF=>lc E qpJ rfl (qgO N c_0 rc_0 e2 hG ok) fun w ok a E=>mv E rfl fun a E=>qbw r1 (fun c3=>?_) (fun c3=>?_)
 ·have hF:=qbp c3 hF
  have E:=E.upd 5 c3 rfl
  refine lsz E fun a E=>lsq E fun a E=>pt E rfl rfl fun a E=>av E rfl fun a E=>wn<|wp_ret ?_
  exact fin hF ⟨ok,E.d,rz E rfl⟩
 have hF:=qbq c3 hF
 have E:=E.upd 5 c3 rfl
 refine mv E rfl fun a E=>lw E (qbW rfl rfl) fun a E=>mv E rfl fun a E=>bu E 8 hF (fun c4 hF E=>?_) fun c4 hF E=>?_
 ·refine mv E rfl fun a E=>lw E (qc6 rfl rfl) fun a E=>pt E rfl rfl fun a E=>pf E rfl rfl fun a E=>aw E rfl fun a E=>wp_ret ?_
  exact fin hF ⟨ok,E.d,rz E rfl⟩
 refine lsq E fun a E=>pf E rfl rfl fun a E=>pf E rfl rfl fun a E=>aw E rfl fun a E=>wp_ret ?_
 exact fin hF ⟨ok,E.d,rz E rfl⟩
def qjB (u:World) (m0:Mem) (S:Segs) (r:Bool) (a:Act) (w:World):Prop :=
 Ok u m0 S w ∧ a.defers = [] ∧ RVs Tryz.prog a w [.t 2 (.bool r)]
theorem qeu (N:Nat) (c_0:Int) (rc_0:InR .u8 c_0) {r:Bool} (hF:qdw N c_0 = some r) (hG:Glob u) (ok:Ok u m0 S w) :
  Calls Tryz.prog 75 [Value.int .u8 c_0].toArray w fun e w'=>(e = .returned (.bool r) ∧ Ok u m0 S w'):=by
 unfold qdw at hF
 refine en (qjB u m0 S) r Tryz.func75 rfl rfl rfl (fun _ _ h=>ra h rfl) fun fin a E=>sg<|aw E rfl fun a E=>sg<|mv E rfl fun a E=>bd hF fun r1 e2 hF=>lc E qqM rfl (qi3 N c_0 rc_0 e2 hG ok) fun w ok a E=>mv E rfl fun a E=>qbw r1 (fun c3=>?_) (fun c3=>?_)
 ·have hF:=qbp c3 hF
  have E:=E.upd 5 c3 rfl
  refine lsz E fun a E=>lsq E fun a E=>pt E rfl rfl fun a E=>mv E rfl fun a E=>lsq E fun a E=>pt E rfl rfl fun a E=>mv E rfl fun a E=>lsq E fun a E=>pt E rfl rfl fun a E=>av E rfl fun a E=>?_
  refine wn<|wp_ret ?_
  exact fin hF ⟨ok,E.d,rz E rfl⟩
 have hF:=qbq c3 hF
 have E:=E.upd 5 c3 rfl
 refine mv E rfl fun a E=>lw E (qbW rfl rfl) fun a E=>mv E rfl fun a E=>bw E 8 hF (fun c4 hF E=>?_) fun c4 hF E=>?_
 ·refine lsq E fun a E=>pf E rfl rfl fun a E=>pf E rfl rfl fun a E=>mz E rfl rfl fun a E=>lw E (qam rfl rfl) fun a E=>pf E rfl rfl fun a E=>mv E rfl fun a E=>bu E 17 hF (fun c7 hF E=>?_) fun c7 hF E=>?_
  ·refine lsq E fun a E=>pt E rfl rfl fun a E=>aw E rfl fun a E=>wp_ret ?_
   exact fin hF ⟨ok,E.d,rz E rfl⟩
  refine mv E rfl fun a E=>lw E (qam rfl rfl) fun a E=>pf E rfl rfl fun a E=>aw E rfl fun a E=>wp_ret ?_
  exact fin hF ⟨ok,E.d,rz E rfl⟩
 refine mv E rfl fun a E=>lw E (qc6 rfl rfl) fun a E=>pt E rfl rfl fun a E=>pf E rfl rfl fun a E=>mv E rfl fun a E=>bu E 13 hF (fun c5 hF E=>?_) fun c5 hF E=>?_
 ·refine lsq E fun a E=>pt E rfl rfl fun a E=>mv E rfl fun a E=>lsq E fun a E=>pt E rfl rfl fun a E=>av E rfl fun a E=>wn<|wp_ret ?_
  exact fin hF ⟨ok,E.d,rz E rfl⟩
 refine mv E rfl fun a E=>lw E (qam rfl rfl) fun a E=>pf E rfl rfl fun a E=>mv E rfl fun a E=>bu E 17 hF (fun c6 hF E=>?_) fun c6 hF E=>?_
 ·refine lsq E fun a E=>pt E rfl rfl fun a E=>aw E rfl fun a E=>wp_ret ?_
  exact fin hF ⟨ok,E.d,rz E rfl⟩
 refine mv E rfl fun a E=>lw E (qam rfl rfl) fun a E=>pf E rfl rfl fun a E=>aw E rfl fun a E=>wp_ret ?_
 exact fin hF ⟨ok,E.d,rz E rfl⟩
def qg7 (u:World) (m0:Mem) (S:Segs) (r:Bool) (a:Act) (w:World):Prop :=
 Ok u m0 S w ∧ a.defers = [] ∧ RVs Tryz.prog a w [.t 2 (.bool r)]
theorem qbh (N:Nat) (s_0:List UInt8) (ls_0:s_0.length ≤ LIMS) {r:Bool} (hF:qbi N s_0 = some r) (hG:Glob u) (ok:Ok u m0 S w) :
  Calls Tryz.prog 59 [vs s_0].toArray w fun e w'=>(e = .returned (.bool r) ∧ Ok u m0 S w'):=by
 unfold qbi at hF
 refine en (qg7 u m0 S) r Tryz.func59 rfl rfl rfl (fun _ _ h=>ra h rfl) fun fin a E=>sg<|aw E rfl fun a E=>wp_seq<|sg<|aw E rfl fun a E=>wp_block<|bd hF fun o2 hL hF=>qba _ (fun (s:Int) a w=>Ok u m0 (S) w ∧ Env 28 a [(0,vs s_0),(3,vi s)] ∧ InR .i64 s) (fun (b:(Unit ⊕ Bool)) e a w=>(Sum.elim (fun b18=>e = (.exit 0) ∧ Ok u m0 (S) w ∧ Env 28 a [(0,vs s_0)]) (fun b19=>e = .ret ∧ qg7 u m0 S b19 a w)) b) ?_ ?_ N _ a w hL ⟨ok,E.keep [0,3],(ir 0)⟩
 ·rintro v4 a w r ⟨ok,E,r5⟩ hF
  replace hF:qfo N s_0 v4 = some r:=hF
  unfold qfo at hF
  refine wp_seq<|sg<|mz E rfl rfl fun a E=>lw E (qaH Tryz.underlying9 rfl) fun a E=>lw E (qaQ rfl rfl) fun a E=>wn<|cg E rfl hF (fun c6 hF=>?_) fun c6 hF=>?_
  ·refine wp_exit<|qaW ?_
   cases hF
   exact so (sl ⟨rfl,⟨ok,E.keep [0]⟩⟩)
  refine wp_skip<|qab<|wp_seq<|wp_block<|sg<|mz E rfl rfl fun a E=>bd hF fun c7 e8 hF=>lv E ok (qaF Tryz.underlying9 rfl rfl e8) fun a E=>bd hF fun r9 e10 hF=>lc E qmp rfl (qeu N (c7.toNat:Int) (InR.byte c7) e10 hG ok) fun w ok a E=>lw E (qbg rfl) fun a E=>wn<|cg E rfl hF (fun c11 hF=>?_) fun c11 hF=>?_
  ·refine wp_skip<|qah<|qab<|qac<|mv E rfl fun a E=>lw E (qaG rfl rfl (InR.inc r5 (InR.len ls_0) c6)) fun a E=>av E rfl fun a E=>wpList_nil ?_
   cases hF
   exact qav ⟨ok,E.keep [0,3],(InR.inc r5 (InR.len ls_0) c6)⟩
  refine sg<|aw E rfl fun a E=>wp_ret<|qaE<|qaj ?_
  cases hF
  exact so (sr ⟨rfl,⟨ok,E.d,rz E rfl⟩⟩)
 intro e a w _ hO
 rcases o2 with o2 | o2
 rotate_left
 ·obtain ⟨rfl,hret⟩:=hO
  refine qaE<|qaj ?_
  exact fin hF hret
 have hF:=qce hF
 obtain ⟨rfl,ok,E⟩:=hO
 refine qbm<|qab<|sg<|mv E rfl fun a E=>lw E (qaH Tryz.underlying9 rfl) fun a E=>lw E (qbW rfl rfl) fun a E=>mv E rfl fun a E=>bw E 18 hF (fun c12 hF E=>?_) fun c12 hF E=>?_
 ·refine lsq E fun a E=>ls E fun a E=>pf E rfl rfl fun a E=>mv E rfl fun a E=>lsq E fun a E=>ls E fun a E=>pf E rfl rfl fun a E=>aw E rfl fun a E=>wp_ret ?_
  exact fin hF ⟨ok,E.d,rz E rfl⟩
 refine mv E rfl fun a E=>lw E (qaH Tryz.underlying9 rfl) fun a E=>lw E (qc6 rfl rfl) fun a E=>pt E rfl rfl fun a E=>mv E rfl fun a E=>bw E 23 hF (fun c13 hF E=>?_) fun c13 hF E=>?_
 ·refine lsq E fun a E=>ls E fun a E=>pf E rfl rfl fun a E=>aw E rfl fun a E=>wp_ret ?_
  exact fin hF ⟨ok,E.d,rz E rfl⟩
 refine mv E rfl fun a E=>bd hF fun c14 e15 hF=>lv E ok (qaF Tryz.underlying9 rfl rfl e15) fun a E=>bd hF fun r16 e17 hF=>lc E qpJ rfl (qgO N (c14.toNat:Int) (InR.byte c14) e17 hG ok) fun w ok a E=>pt E rfl rfl fun a E=>aw E rfl fun a E=>wp_ret ?_
 exact fin hF ⟨ok,E.d,rz E rfl⟩
def qjp (u:World) (m0:Mem) (S:Segs) (r:Bool) (a:Act) (w:World):Prop :=
 Ok u m0 S w ∧ a.defers = [] ∧ RVs Tryz.prog a w [.t 2 (.bool r)]
theorem qjJ (N:Nat) (s_0:List UInt8) (ls_0:s_0.length ≤ LIMS) {r:Bool} (hF:qfY N s_0 = some r) (hG:Glob u) (ok:Ok u m0 S w) :
  Calls Tryz.prog 77 [vs s_0].toArray w fun e w'=>(e = .returned (.bool r) ∧ Ok u m0 S w'):=by
 unfold qfY at hF
 refine en (qjp u m0 S) r Tryz.func77 rfl rfl rfl (fun _ _ h=>ra h rfl) fun fin a E=>sg<|aw E rfl fun a E=>sg<|mv E rfl fun a E=>lw E (qbt rfl rfl) fun a E=>mv E rfl fun a E=>bu E 5 hF (fun c1 hF E=>?_) fun c1 hF E=>?_
 ·refine lsq E fun a E=>pt E rfl rfl fun a E=>mv E rfl fun a E=>lsq E fun a E=>pt E rfl rfl fun a E=>mv E rfl fun a E=>lsq E fun a E=>pt E rfl rfl fun a E=>mv E rfl fun a E=>lsq E fun a E=>pt E rfl rfl fun a E=>mv E rfl fun a E=>?_
  refine lsq E fun a E=>pt E rfl rfl fun a E=>aw E rfl fun a E=>wp_ret ?_
  exact fin hF ⟨ok,E.d,rz E rfl⟩
 refine mv E rfl fun a E=>lw E (qbt rfl rfl) fun a E=>pf E rfl rfl fun a E=>mv E rfl fun a E=>bu E 9 hF (fun c2 hF E=>?_) fun c2 hF E=>?_
 ·refine lsq E fun a E=>pt E rfl rfl fun a E=>mv E rfl fun a E=>lsq E fun a E=>pt E rfl rfl fun a E=>mv E rfl fun a E=>lsq E fun a E=>pt E rfl rfl fun a E=>mv E rfl fun a E=>lsq E fun a E=>pt E rfl rfl fun a E=>av E rfl fun a E=>?_
  refine wn<|wp_ret ?_
  exact fin hF ⟨ok,E.d,rz E rfl⟩
 refine mv E rfl fun a E=>lw E (qbt rfl rfl) fun a E=>pf E rfl rfl fun a E=>mv E rfl fun a E=>bu E 13 hF (fun c3 hF E=>?_) fun c3 hF E=>?_
 ·refine lsq E fun a E=>pt E rfl rfl fun a E=>mv E rfl fun a E=>lsq E fun a E=>pt E rfl rfl fun a E=>mv E rfl fun a E=>lsq E fun a E=>pt E rfl rfl fun a E=>aw E rfl fun a E=>wp_ret ?_
  exact fin hF ⟨ok,E.d,rz E rfl⟩
 refine mv E rfl fun a E=>lw E (qbt rfl rfl) fun a E=>pf E rfl rfl fun a E=>mv E rfl fun a E=>bu E 17 hF (fun c4 hF E=>?_) fun c4 hF E=>?_
 ·refine lsq E fun a E=>pt E rfl rfl fun a E=>mv E rfl fun a E=>lsq E fun a E=>pt E rfl rfl fun a E=>av E rfl fun a E=>wn<|wp_ret ?_
  exact fin hF ⟨ok,E.d,rz E rfl⟩
 refine mv E rfl fun a E=>lw E (qbt rfl rfl) fun a E=>pf E rfl rfl fun a E=>mv E rfl fun a E=>bu E 21 hF (fun c5 hF E=>?_) fun c5 hF E=>?_
 ·refine lsq E fun a E=>pt E rfl rfl fun a E=>aw E rfl fun a E=>wp_ret ?_
  exact fin hF ⟨ok,E.d,rz E rfl⟩
 refine mv E rfl fun a E=>lw E (qbt rfl rfl) fun a E=>pf E rfl rfl fun a E=>aw E rfl fun a E=>wp_ret ?_
 exact fin hF ⟨ok,E.d,rz E rfl⟩
def qgu (u:World) (m0:Mem) (S:Segs) (r:Bool) (a:Act) (w:World):Prop :=
 Ok u m0 S w ∧ a.defers = [] ∧ RVs Tryz.prog a w [.t 2 (.bool r)]
theorem qgF (N:Nat) (s_0:List UInt8) (ls_0:s_0.length ≤ LIMS) {r:Bool} (hF:qeL N s_0 = some r) (hG:Glob u) (ok:Ok u m0 S w) :
  Calls Tryz.prog 128 [vs s_0].toArray w fun e w'=>(e = .returned (.bool r) ∧ Ok u m0 S w'):=by
 unfold qeL at hF
 refine en (qgu u m0 S) r Tryz.func128 rfl rfl rfl (fun _ _ h=>ra h rfl) fun fin a E=>sg<|aw E rfl fun a E=>wp_seq<|sg<|aw E rfl fun a E=>wp_block<|bd hF fun o2 hL hF=>qba _ (fun (s:Int) a w=>Ok u m0 (S) w ∧ Env 20 a [(0,vs s_0),(3,vi s)] ∧ InR .i64 s) (fun (b:(Unit ⊕ Bool)) e a w=>(Sum.elim (fun b13=>e = (.exit 0) ∧ Ok u m0 (S) w ∧ Env 20 a []) (fun b14=>e = .ret ∧ qgu u m0 S b14 a w)) b) ?_ ?_ N _ a w hL ⟨ok,E.keep [0,3],(ir 0)⟩
 rotate_left
 ·intro e a w _ hO
  rcases o2 with o2 | o2
  rotate_left
  ·obtain ⟨rfl,hret⟩:=hO
   refine qaE<|qaj ?_
   exact fin hF hret
  have hF:=qce hF
  obtain ⟨rfl,ok,E⟩:=hO
  refine qbm<|qab<|sg<|aw E rfl fun a E=>wp_ret ?_
  exact fin hF ⟨ok,E.d,rz E rfl⟩
 rintro v4 a w r ⟨ok,E,r5⟩ hF
 replace hF:qe3 N s_0 v4 = some r:=hF
 unfold qe3 at hF
 refine wp_seq<|sg<|mz E rfl rfl fun a E=>lw E (qaH Tryz.underlying9 rfl) fun a E=>lw E (qaQ rfl rfl) fun a E=>wn<|cg E rfl hF (fun c6 hF=>?_) fun c6 hF=>?_
 ·refine wp_exit<|qaW ?_
  cases hF
  exact so (sl ⟨rfl,⟨ok,E.keep []⟩⟩)
 refine wp_skip<|qab<|wp_seq<|wp_block<|sg<|mz E rfl rfl fun a E=>bd hF fun c7 e8 hF=>lv E ok (qaF Tryz.underlying9 rfl rfl e8) fun a E=>lw E (qaQ rfl rfl) fun a E=>mv E rfl fun a E=>bu E 14 hF (fun c9 hF E=>?_) fun c9 hF E=>?_
 ·refine lsz E fun a E=>pt E rfl rfl fun a E=>wn<|c_if E rfl (fun _=>?_) (fun h=>by cases h)
  refine sg<|aw E rfl fun a E=>wp_ret<|qaE<|qaj ?_
  cases hF
  exact so (sr ⟨rfl,⟨ok,E.d,rz E rfl⟩⟩)
 refine mz E rfl rfl fun a E=>bd hF fun c10 e11 hF=>lv E ok (qaF Tryz.underlying9 rfl rfl e11) fun a E=>lw E (qbF rfl rfl) fun a E=>pf E rfl rfl fun a E=>wn<|cg E rfl hF (fun c12 hF=>?_) fun c12 hF=>?_
 ·refine wp_skip<|qah<|qab<|qac<|mv E rfl fun a E=>lw E (qaG rfl rfl (InR.inc r5 (InR.len ls_0) c6)) fun a E=>av E rfl fun a E=>wpList_nil ?_
  cases hF
  exact qav ⟨ok,E.keep [0,3],(InR.inc r5 (InR.len ls_0) c6)⟩
 refine sg<|aw E rfl fun a E=>wp_ret<|qaE<|qaj ?_
 cases hF
 exact so (sr ⟨rfl,⟨ok,E.d,rz E rfl⟩⟩)
def qhm (u:World) (m0:Mem) (S:Segs) (r:Bool) (a:Act) (w:World):Prop :=
 Ok u m0 S w ∧ a.defers = [] ∧ RVs Tryz.prog a w [.t 2 (.bool r)]
theorem qeM (N:Nat) (s_0:List UInt8) (ls_0:s_0.length ≤ LIMS) {r:Bool} (hF:qdG N s_0 = some r) (hG:Glob u) (ok:Ok u m0 S w) :
  Calls Tryz.prog 129 [vs s_0].toArray w fun e w'=>(e = .returned (.bool r) ∧ Ok u m0 S w'):=by
 unfold qdG at hF
 refine en (qhm u m0 S) r Tryz.func129 rfl rfl rfl (fun _ _ h=>ra h rfl) fun fin a E=>sg<|aw E rfl fun a E=>wp_seq<|sg<|aw E rfl fun a E=>wp_block<|bd hF fun o2 hL hF=>qba _ (fun (s:Int) a w=>Ok u m0 (S) w ∧ Env 14 a [(0,vs s_0),(3,vi s)] ∧ InR .i64 s) (fun (b:(Unit ⊕ Bool)) e a w=>(Sum.elim (fun b10=>e = (.exit 0) ∧ Ok u m0 (S) w ∧ Env 14 a []) (fun b11=>e = .ret ∧ qhm u m0 S b11 a w)) b) ?_ ?_ N _ a w hL ⟨ok,E.keep [0,3],(ir 0)⟩
 rotate_left
 ·intro e a w _ hO
  rcases o2 with o2 | o2
  rotate_left
  ·obtain ⟨rfl,hret⟩:=hO
   refine qaE<|qaj ?_
   exact fin hF hret
  have hF:=qce hF
  obtain ⟨rfl,ok,E⟩:=hO
  refine qbm<|qab<|sg<|aw E rfl fun a E=>wp_ret ?_
  exact fin hF ⟨ok,E.d,rz E rfl⟩
 rintro v4 a w r ⟨ok,E,r5⟩ hF
 replace hF:qfp N s_0 v4 = some r:=hF
 unfold qfp at hF
 refine wp_seq<|sg<|mz E rfl rfl fun a E=>lw E (qaH Tryz.underlying9 rfl) fun a E=>lw E (qaQ rfl rfl) fun a E=>wn<|cg E rfl hF (fun c6 hF=>?_) fun c6 hF=>?_
 ·refine wp_exit<|qaW ?_
  cases hF
  exact so (sl ⟨rfl,⟨ok,E.keep []⟩⟩)
 refine wp_skip<|qab<|wp_seq<|wp_block<|sg<|mz E rfl rfl fun a E=>bd hF fun c7 e8 hF=>lv E ok (qaF Tryz.underlying9 rfl rfl e8) fun a E=>lw E (qbr rfl rfl) fun a E=>wn<|cg E rfl hF (fun c9 hF=>?_) fun c9 hF=>?_
 ·refine wp_skip<|qah<|qab<|qac<|mv E rfl fun a E=>lw E (qaG rfl rfl (InR.inc r5 (InR.len ls_0) c6)) fun a E=>av E rfl fun a E=>wpList_nil ?_
  cases hF
  exact qav ⟨ok,E.keep [0,3],(InR.inc r5 (InR.len ls_0) c6)⟩
 refine sg<|aw E rfl fun a E=>wp_ret<|qaE<|qaj ?_
 cases hF
 exact so (sr ⟨rfl,⟨ok,E.d,rz E rfl⟩⟩)
end Go.Proofs.YtllnjbnknjpbjaaGreatDoor
namespace Go.Proofs.YtllnjbnknjpbjaaGreatDoor
open Go.X
variable {u:World} {m0:Mem} {S:Segs} {w:World}
set_option maxHeartbeats 4000000
set_option maxRecDepth 100000
def qdC (u:World) (m0:Mem) (S:Segs) (r:Number2 × Bool) (a:Act) (w:World):Prop :=
 ∃ m1 v0,m0.le m1 ∧ Ok u m1 S w ∧ a.defers = [] ∧ RVs Tryz.prog a w [.c 2 173 (.agg v0.toArray),.t 3 (.bool r.2)] ∧ qm4 m1 v0 r.1
theorem qjH (N:Nat) (s_0:List UInt8) (ls_0:s_0.length ≤ LIMS) {r:Number2 × Bool} (hF:qf3 N s_0 = some r) (hG:Glob u) (ok:Ok u m0 S w) :
  Calls Tryz.prog 105 [vs s_0].toArray w fun e w'=>∃ m1 v0,e = .returned (.tuple [(.agg v0.toArray),(.bool r.2)].toArray) ∧ m0.le m1 ∧ Ok u m1 S w' ∧ qm4 m1 v0 r.1:=by
 have le_m0:=Mem.le.refl m0
 unfold qf3 at hF
 refine en (qdC u m0 S) r Tryz.func105 rfl rfl rfl (by rintro a w ⟨m1,v0,hle,ok,hd,hrv,h0⟩; exact qbD [.c 2 173 (.agg v0.toArray),.t 3 (.bool r.2)] hd rfl hrv ⟨m1,v0,rfl,hle,ok,h0⟩) fun fin a E=>sg<|qa1 E ok qch rfl rfl fun b1 a w E ok=>aw E rfl fun a E=>sg<|qa1 E ok qch rfl rfl fun b2 a w E ok=>wn<|wp_seq<|sg<|mv E rfl fun a E=>lw E (qaH Tryz.underlying9 rfl) fun a E=>lw E (qbF rfl rfl) fun a E=>mv E rfl fun a E=>bw E 9 hF (fun c3 hF E=>?_) fun c3 hF E=>?_
 ·as_aux_lemma =>
   refine lsq E fun a E=>ls E fun a E=>pf E rfl rfl fun a E=>wn<|c_if E rfl (fun h=>by cases h) (fun _=>?_)
   refine wp_skip<|qab<|sg<|aw E rfl fun a E=>wp_seq<|wp_block<|bd hF fun o73 hL hF=>qba _ (fun (s:Int) a w=>Ok u m0 ([(b2,oc 173 [vb false,(vs ([])),(vs ([]))])] :: [(b1,oc 173 [vb false,(vs ([])),(vs ([]))])] :: S) w ∧ Env 98 a [(0,vs s_0),(2,vp b1),(4,vp b2),(5,vi s)] ∧ InR .i64 s) (fun (b:Int) e a w=>e = (.exit 0) ∧ Ok u m0 ([(b2,oc 173 [vb false,(vs ([])),(vs ([]))])] :: [(b1,oc 173 [vb false,(vs ([])),(vs ([]))])] :: S) w ∧ Env 98 a [(0,vs s_0),(2,vp b1),(4,vp b2),(5,vi b)] ∧ InR .i64 b) ?_ ?_ N _ a w hL ⟨ok,E.keep [0,2,4,5],(ir 0)⟩
   ·rintro v75 a w r ⟨ok,E,r76⟩ hF
    replace hF:qfc N s_0 v75 = some r:=hF
    unfold qfc at hF
    refine wp_seq<|sg<|mz E rfl rfl fun a E=>lw E (qaH Tryz.underlying9 rfl) fun a E=>lw E (qaQ rfl rfl) fun a E=>mv E rfl fun a E=>bw E 21 hF (fun c77 hF E=>?_) fun c77 hF E=>?_
    ·refine lsz E fun a E=>pf E rfl rfl fun a E=>wn<|c_if E rfl (fun h=>by cases h) (fun _=>?_)
     refine wp_exit<|qaW ?_
     cases hF
     exact so (⟨rfl,⟨ok,E.keep [0,2,4,5],r76⟩⟩)
    refine mz E rfl rfl fun a E=>bd hF fun c78 e79 hF=>lv E ok (qaF Tryz.underlying9 rfl rfl e79) fun a E=>lw E (qbr rfl rfl) fun a E=>pt E rfl rfl fun a E=>wn<|cg E rfl hF (fun c80 hF=>?_) fun c80 hF=>?_
    ·refine wp_exit<|qaW ?_
     cases hF
     exact so (⟨rfl,⟨ok,E.keep [0,2,4,5],r76⟩⟩)
    refine wp_skip<|qab<|wp_block<|qac<|mv E rfl fun a E=>lw E (qaG rfl rfl (InR.inc r76 (InR.len ls_0) c77)) fun a E=>av E rfl fun a E=>wpList_nil<|qah ?_
    cases hF
    exact qav ⟨ok,E.keep [0,2,4,5],(InR.inc r76 (InR.len ls_0) c77)⟩
   intro e a w _ hO
   obtain ⟨rfl,ok,E,r81⟩:=hO
   refine qbm<|qab<|sg<|mz E rfl rfl fun a E=>bd hF fun s82 e83 hF=>lw E (qds Tryz.underlying9 e83 rfl rfl ⟨_,rfl⟩) fun a E=>fv E qc2 rfl fun a E=>qad E ok 0 rfl rfl rfl qcN rfl rfl ⟨rfl,trivial⟩ rfl rfl fun w ok=>wn<|wp_seq<|sg<|mz E rfl rfl fun a E=>lw E (qaH Tryz.underlying9 rfl) fun a E=>lw E (qaQ rfl rfl) fun a E=>wn<|bd hF fun o84 hJ hF=>qaI (Q':=fun e a w=>(Sum.elim (fun b85=>e = .normal ∧ Ok u m0 ([(b2,oc 173 [vb b85.Neg,vs b85.Whole,vs b85.Frac])] :: [(b1,oc 173 [vb false,(vs ([])),(vs ([]))])] :: S) w ∧ Env 98 a [(2,vp b1),(4,vp b2)] ∧ b85.Whole.length ≤ LIMS ∧ b85.Frac.length ≤ LIMS) (fun b88=>e = .ret ∧ qdC u m0 S b88 a w)) o84) ?_ ?_
   ·have hF:=hJ
    refine cg E rfl hF (fun c89 hF=>?_) fun c89 hF=>?_
    ·refine wp_skip ?_
     cases hF
     exact (sl ⟨rfl,⟨ok,E.keep [2,4],(Nat.le_trans (qcs e83) ls_0),(Nat.zero_le _)⟩⟩)
    refine sg<|mz E rfl rfl fun a E=>lw E (qaG rfl rfl (InR.inc r81 (InR.len ls_0) c89)) fun a E=>bd hF fun s90 e91 hF=>lw E (qds Tryz.underlying9 e91 rfl ⟨_,rfl⟩ rfl) fun a E=>fv E qdr rfl fun a E=>qad E ok 0 rfl rfl rfl qcN rfl rfl ⟨rfl,trivial⟩ rfl rfl fun w ok=>wn<|sg<|fv E qdr rfl fun a E=>ld E ok qal 0 rfl rfl rfl fun a E=>lw E (qaH Tryz.underlying9 rfl) fun a E=>lw E (qam rfl rfl) fun a E=>wn<|cg E rfl hF (fun c92 hF=>?_) fun c92 hF=>?_
    ·refine wp_skip ?_
     cases hF
     exact (sl ⟨rfl,⟨ok,E.keep [2,4],(Nat.le_trans (qcs e83) ls_0),(Nat.le_trans (qcs e91) ls_0)⟩⟩)
    refine sg<|lw E (qaq (ps:=[]) (qs:=[]) (cs:=[vb false,(vs ([])),(vs ([]))]) qch qb2 rfl trivial rfl) fun a E=>qad E ok 1 rfl rfl rfl qb1 rfl rfl ⟨rfl,rfl,rfl,trivial⟩ rfl rfl fun w ok=>aw E rfl fun a E=>wp_ret ?_
    have hret:qdC u m0 S ((Number2.mk false ([]) ([])),false) a w:=⟨m0,[vb false,(vs ([])),(vs ([]))],le_m0,ok.drop.drop,E.d,⟨rv_c (cs:=[vb false,(vs ([])),(vs ([]))]) E ok rfl qbs rfl (qae.own 1 rfl rfl),rv_t E rfl,trivial⟩,⟨rfl,(Nat.zero_le _),(Nat.zero_le _)⟩⟩
    cases hF
    exact (sr ⟨rfl,hret⟩)
   intro e a w hO
   rcases o84 with o84 | o84
   rotate_left
   ·obtain ⟨rfl,hret⟩:=hO
    refine qaj ?_
    exact fin hF hret
   have hF:=qce hF
   obtain ⟨rfl,ok,E,l93,l94⟩:=hO
   refine qab<|wp_seq<|sg<|fk E ok qc2 qal rfl 0 rfl rfl fun a E=>fk E ok qdr qal rfl 0 rfl rfl fun a E=>bd hF fun s95 e96 hF=>lw E (qaY rfl rfl e96) fun a E=>bd hF fun r97 e98 hF=>lc E qoW rfl (qgF N s95 (qbR e96) e98 hG ok) fun w ok a E=>lw E (qbg rfl) fun a E=>mv E rfl fun a E=>bu E 54 hF (fun c99 hF E=>?_) fun c99 hF E=>?_
   ·refine lsz E fun a E=>pt E rfl rfl fun a E=>mv E rfl fun a E=>lsz E fun a E=>pt E rfl rfl fun a E=>mv E rfl fun a E=>lsz E fun a E=>?_
    refine lsz E fun a E=>lsq E fun a E=>pt E rfl rfl fun a E=>mv E rfl fun a E=>lsz E fun a E=>pt E rfl rfl fun a E=>mv E rfl fun a E=>lsq E fun a E=>?_
    refine lsz E fun a E=>lsz E fun a E=>pt E rfl rfl fun a E=>wn<|c_if E rfl (fun _=>?_) (fun h=>by cases h)
    refine sg<|lw E (qaq (ps:=[]) (qs:=[]) (cs:=[vb false,(vs ([])),(vs ([]))]) qch qb2 rfl trivial rfl) fun a E=>qad E ok 1 rfl rfl rfl qb1 rfl rfl ⟨rfl,rfl,rfl,trivial⟩ rfl rfl fun w ok=>aw E rfl fun a E=>wp_ret<|qaj ?_
    exact fin hF ⟨m0,[vb false,(vs ([])),(vs ([]))],le_m0,ok.drop.drop,E.d,⟨rv_c (cs:=[vb false,(vs ([])),(vs ([]))]) E ok rfl qbs rfl (qae.own 1 rfl rfl),rv_t E rfl,trivial⟩,⟨rfl,(Nat.zero_le _),(Nat.zero_le _)⟩⟩
   refine fk E ok qc2 qal rfl 0 rfl rfl fun a E=>lw E (qaH Tryz.underlying9 rfl) fun a E=>lw E (qaQ rfl rfl) fun a E=>pf E rfl rfl fun a E=>mv E rfl fun a E=>bu E 60 hF (fun c100 hF E=>?_) fun c100 hF E=>?_
   ·refine lsz E fun a E=>pt E rfl rfl fun a E=>mv E rfl fun a E=>lsz E fun a E=>lsz E fun a E=>lsq E fun a E=>?_
    refine pt E rfl rfl fun a E=>mv E rfl fun a E=>lsz E fun a E=>pt E rfl rfl fun a E=>mv E rfl fun a E=>lsz E fun a E=>lsz E fun a E=>?_
    refine lsq E fun a E=>pt E rfl rfl fun a E=>wn<|c_if E rfl (fun _=>?_) (fun h=>by cases h)
    refine sg<|lw E (qaq (ps:=[]) (qs:=[]) (cs:=[vb false,(vs ([])),(vs ([]))]) qch qb2 rfl trivial rfl) fun a E=>qad E ok 1 rfl rfl rfl qb1 rfl rfl ⟨rfl,rfl,rfl,trivial⟩ rfl rfl fun w ok=>aw E rfl fun a E=>wp_ret<|qaj ?_
    exact fin hF ⟨m0,[vb false,(vs ([])),(vs ([]))],le_m0,ok.drop.drop,E.d,⟨rv_c (cs:=[vb false,(vs ([])),(vs ([]))]) E ok rfl qbs rfl (qae.own 1 rfl rfl),rv_t E rfl,trivial⟩,⟨rfl,(Nat.zero_le _),(Nat.zero_le _)⟩⟩
   refine fk E ok qc2 qal rfl 0 rfl rfl fun a E=>lw E (qaH Tryz.underlying9 rfl) fun a E=>lw E (qbF rfl rfl) fun a E=>pf E rfl rfl fun a E=>mv E rfl fun a E=>bu E 66 hF (fun c101 hF E=>?_) fun c101 hF E=>?_
   ·refine lsz E fun a E=>lsz E fun a E=>lsq E fun a E=>pt E rfl rfl fun a E=>mv E rfl fun a E=>lsz E fun a E=>?_
    refine pt E rfl rfl fun a E=>mv E rfl fun a E=>lsz E fun a E=>lsz E fun a E=>lsq E fun a E=>pt E rfl rfl fun a E=>wn<|c_if E rfl (fun _=>?_) (fun h=>by cases h)
    refine sg<|lw E (qaq (ps:=[]) (qs:=[]) (cs:=[vb false,(vs ([])),(vs ([]))]) qch qb2 rfl trivial rfl) fun a E=>qad E ok 1 rfl rfl rfl qb1 rfl rfl ⟨rfl,rfl,rfl,trivial⟩ rfl rfl fun w ok=>aw E rfl fun a E=>wp_ret<|qaj ?_
    exact fin hF ⟨m0,[vb false,(vs ([])),(vs ([]))],le_m0,ok.drop.drop,E.d,⟨rv_c (cs:=[vb false,(vs ([])),(vs ([]))]) E ok rfl qbs rfl (qae.own 1 rfl rfl),rv_t E rfl,trivial⟩,⟨rfl,(Nat.zero_le _),(Nat.zero_le _)⟩⟩
   refine fk E ok qc2 qal rfl 0 rfl rfl fun a E=>lw E (qaH Tryz.underlying9 rfl) fun a E=>lw E (qbF rfl rfl) fun a E=>mv E rfl fun a E=>bw E 71 hF (fun c102 hF E=>?_) fun c102 hF E=>?_
   ·as_aux_lemma =>
     refine lsz E fun a E=>pf E rfl rfl fun a E=>pf E rfl rfl fun a E=>mv E rfl fun a E=>fv E qdr rfl fun a E=>ld E ok qal 0 rfl rfl rfl fun a E=>lw E (qaH Tryz.underlying9 rfl) fun a E=>lw E (qbF rfl rfl) fun a E=>pf E rfl rfl fun a E=>mv E rfl fun a E=>bu E 84 hF (fun c113 hF E=>?_) fun c113 hF E=>?_
     ·refine lsz E fun a E=>lsz E fun a E=>lsq E fun a E=>pt E rfl rfl fun a E=>wn<|c_if E rfl (fun _=>?_) (fun h=>by cases h)
      refine sg<|lw E (qaq (ps:=[]) (qs:=[]) (cs:=[vb false,(vs ([])),(vs ([]))]) qch qb2 rfl trivial rfl) fun a E=>qad E ok 1 rfl rfl rfl qb1 rfl rfl ⟨rfl,rfl,rfl,trivial⟩ rfl rfl fun w ok=>aw E rfl fun a E=>wp_ret<|qaj ?_
      exact fin hF ⟨m0,[vb false,(vs ([])),(vs ([]))],le_m0,ok.drop.drop,E.d,⟨rv_c (cs:=[vb false,(vs ([])),(vs ([]))]) E ok rfl qbs rfl (qae.own 1 rfl rfl),rv_t E rfl,trivial⟩,⟨rfl,(Nat.zero_le _),(Nat.zero_le _)⟩⟩
     refine fk E ok qie qmj rfl 0 rfl rfl fun a E=>mv E rfl fun a E=>qbw o84.Neg (fun c114=>?_) (fun c114=>?_)
     rotate_left
     ·have hF:=qbq c114 hF
      have E:=E.upd 87 c114 rfl
      refine lsz E fun a E=>lsq E fun a E=>pf E rfl rfl fun a E=>pf E rfl rfl fun a E=>wn<|c_if E rfl (fun h=>by cases h) (fun _=>?_)
      refine wp_skip<|qab<|sg<|lv E ok (qar (cs:=[vb o84.Neg,vs o84.Whole,vs o84.Frac]) qbs rfl rfl (qae.own 0 rfl rfl)) fun a E=>qad E ok 1 rfl rfl rfl qb1 rfl rfl ⟨rfl,rfl,rfl,trivial⟩ rfl rfl fun w ok=>av E rfl fun a E=>wn<|wp_ret ?_
      exact fin hF ⟨m0,[vb o84.Neg,vs o84.Whole,vs o84.Frac],le_m0,ok.drop.drop,E.d,⟨rv_c (cs:=[vb o84.Neg,vs o84.Whole,vs o84.Frac]) E ok rfl qbs rfl (qae.own 1 rfl rfl),rv_t E rfl,trivial⟩,⟨rfl,l93,l94⟩⟩
     have hF:=qbp c114 hF
     have E:=E.upd 87 c114 rfl
     refine fk E ok qc2 qal rfl 0 rfl rfl fun a E=>fk E ok qdr qal rfl 0 rfl rfl fun a E=>bd hF fun s115 e116 hF=>lw E (qaY rfl rfl e116) fun a E=>bd hF fun r117 e118 hF=>lc E qkO rfl (qeM N s115 (qbR e116) e118 hG ok) fun w ok a E=>pt E rfl rfl fun a E=>pf E rfl rfl fun a E=>wn<|cf E rfl hF (fun c119 hF=>?_) fun c119 hF=>?_
     ·refine sg<|lw E (qaq (ps:=[]) (qs:=[]) (cs:=[vb false,(vs ([])),(vs ([]))]) qch qb2 rfl trivial rfl) fun a E=>qad E ok 1 rfl rfl rfl qb1 rfl rfl ⟨rfl,rfl,rfl,trivial⟩ rfl rfl fun w ok=>aw E rfl fun a E=>wp_ret<|qaj ?_
      exact fin hF ⟨m0,[vb false,(vs ([])),(vs ([]))],le_m0,ok.drop.drop,E.d,⟨rv_c (cs:=[vb false,(vs ([])),(vs ([]))]) E ok rfl qbs rfl (qae.own 1 rfl rfl),rv_t E rfl,trivial⟩,⟨rfl,(Nat.zero_le _),(Nat.zero_le _)⟩⟩
     refine wp_skip<|qab<|sg<|lv E ok (qar (cs:=[vb o84.Neg,vs o84.Whole,vs o84.Frac]) qbs rfl rfl (qae.own 0 rfl rfl)) fun a E=>qad E ok 1 rfl rfl rfl qb1 rfl rfl ⟨rfl,rfl,rfl,trivial⟩ rfl rfl fun w ok=>av E rfl fun a E=>wn<|wp_ret ?_
     exact fin hF ⟨m0,[vb o84.Neg,vs o84.Whole,vs o84.Frac],le_m0,ok.drop.drop,E.d,⟨rv_c (cs:=[vb o84.Neg,vs o84.Whole,vs o84.Frac]) E ok rfl qbs rfl (qae.own 1 rfl rfl),rv_t E rfl,trivial⟩,⟨rfl,l93,l94⟩⟩
   refine fk E ok qc2 qal rfl 0 rfl rfl fun a E=>bd hF fun c103 e104 hF=>lv E ok (qaF Tryz.underlying9 rfl rfl e104) fun a E=>lw E (qam rfl rfl) fun a E=>pt E rfl rfl fun a E=>pf E rfl rfl fun a E=>mv E rfl fun a E=>bu E 78 hF (fun c105 hF E=>?_) fun c105 hF E=>?_
   ·refine lsz E fun a E=>pt E rfl rfl fun a E=>mv E rfl fun a E=>lsz E fun a E=>lsz E fun a E=>lsq E fun a E=>?_
    refine pt E rfl rfl fun a E=>wn<|c_if E rfl (fun _=>?_) (fun h=>by cases h)
    refine sg<|lw E (qaq (ps:=[]) (qs:=[]) (cs:=[vb false,(vs ([])),(vs ([]))]) qch qb2 rfl trivial rfl) fun a E=>qad E ok 1 rfl rfl rfl qb1 rfl rfl ⟨rfl,rfl,rfl,trivial⟩ rfl rfl fun w ok=>aw E rfl fun a E=>wp_ret<|qaj ?_
    exact fin hF ⟨m0,[vb false,(vs ([])),(vs ([]))],le_m0,ok.drop.drop,E.d,⟨rv_c (cs:=[vb false,(vs ([])),(vs ([]))]) E ok rfl qbs rfl (qae.own 1 rfl rfl),rv_t E rfl,trivial⟩,⟨rfl,(Nat.zero_le _),(Nat.zero_le _)⟩⟩
   refine fk E ok qdr qal rfl 0 rfl rfl fun a E=>lw E (qaH Tryz.underlying9 rfl) fun a E=>lw E (qbF rfl rfl) fun a E=>pf E rfl rfl fun a E=>mv E rfl fun a E=>bu E 84 hF (fun c106 hF E=>?_) fun c106 hF E=>?_
   ·refine lsz E fun a E=>lsz E fun a E=>lsq E fun a E=>pt E rfl rfl fun a E=>wn<|c_if E rfl (fun _=>?_) (fun h=>by cases h)
    refine sg<|lw E (qaq (ps:=[]) (qs:=[]) (cs:=[vb false,(vs ([])),(vs ([]))]) qch qb2 rfl trivial rfl) fun a E=>qad E ok 1 rfl rfl rfl qb1 rfl rfl ⟨rfl,rfl,rfl,trivial⟩ rfl rfl fun w ok=>aw E rfl fun a E=>wp_ret<|qaj ?_
    exact fin hF ⟨m0,[vb false,(vs ([])),(vs ([]))],le_m0,ok.drop.drop,E.d,⟨rv_c (cs:=[vb false,(vs ([])),(vs ([]))]) E ok rfl qbs rfl (qae.own 1 rfl rfl),rv_t E rfl,trivial⟩,⟨rfl,(Nat.zero_le _),(Nat.zero_le _)⟩⟩
   refine fk E ok qie qmj rfl 0 rfl rfl fun a E=>mv E rfl fun a E=>qbw o84.Neg (fun c107=>?_) (fun c107=>?_)
   rotate_left
   ·have hF:=qbq c107 hF
    have E:=E.upd 87 c107 rfl
    refine lsz E fun a E=>lsq E fun a E=>pf E rfl rfl fun a E=>pf E rfl rfl fun a E=>wn<|c_if E rfl (fun h=>by cases h) (fun _=>?_)
    refine wp_skip<|qab<|sg<|lv E ok (qar (cs:=[vb o84.Neg,vs o84.Whole,vs o84.Frac]) qbs rfl rfl (qae.own 0 rfl rfl)) fun a E=>qad E ok 1 rfl rfl rfl qb1 rfl rfl ⟨rfl,rfl,rfl,trivial⟩ rfl rfl fun w ok=>av E rfl fun a E=>wn<|wp_ret ?_
    exact fin hF ⟨m0,[vb o84.Neg,vs o84.Whole,vs o84.Frac],le_m0,ok.drop.drop,E.d,⟨rv_c (cs:=[vb o84.Neg,vs o84.Whole,vs o84.Frac]) E ok rfl qbs rfl (qae.own 1 rfl rfl),rv_t E rfl,trivial⟩,⟨rfl,l93,l94⟩⟩
   have hF:=qbp c107 hF
   have E:=E.upd 87 c107 rfl
   refine fk E ok qc2 qal rfl 0 rfl rfl fun a E=>fk E ok qdr qal rfl 0 rfl rfl fun a E=>bd hF fun s108 e109 hF=>lw E (qaY rfl rfl e109) fun a E=>bd hF fun r110 e111 hF=>lc E qkO rfl (qeM N s108 (qbR e109) e111 hG ok) fun w ok a E=>pt E rfl rfl fun a E=>pf E rfl rfl fun a E=>wn<|cf E rfl hF (fun c112 hF=>?_) fun c112 hF=>?_
   ·refine sg<|lw E (qaq (ps:=[]) (qs:=[]) (cs:=[vb false,(vs ([])),(vs ([]))]) qch qb2 rfl trivial rfl) fun a E=>qad E ok 1 rfl rfl rfl qb1 rfl rfl ⟨rfl,rfl,rfl,trivial⟩ rfl rfl fun w ok=>aw E rfl fun a E=>wp_ret<|qaj ?_
    exact fin hF ⟨m0,[vb false,(vs ([])),(vs ([]))],le_m0,ok.drop.drop,E.d,⟨rv_c (cs:=[vb false,(vs ([])),(vs ([]))]) E ok rfl qbs rfl (qae.own 1 rfl rfl),rv_t E rfl,trivial⟩,⟨rfl,(Nat.zero_le _),(Nat.zero_le _)⟩⟩
   refine wp_skip<|qab<|sg<|lv E ok (qar (cs:=[vb o84.Neg,vs o84.Whole,vs o84.Frac]) qbs rfl rfl (qae.own 0 rfl rfl)) fun a E=>qad E ok 1 rfl rfl rfl qb1 rfl rfl ⟨rfl,rfl,rfl,trivial⟩ rfl rfl fun w ok=>av E rfl fun a E=>wn<|wp_ret ?_
   exact fin hF ⟨m0,[vb o84.Neg,vs o84.Whole,vs o84.Frac],le_m0,ok.drop.drop,E.d,⟨rv_c (cs:=[vb o84.Neg,vs o84.Whole,vs o84.Frac]) E ok rfl qbs rfl (qae.own 1 rfl rfl),rv_t E rfl,trivial⟩,⟨rfl,l93,l94⟩⟩
 refine mv E rfl fun a E=>bd hF fun c4 e5 hF=>lv E ok (qaF Tryz.underlying9 rfl rfl e5) fun a E=>lw E (qam rfl rfl) fun a E=>pt E rfl rfl fun a E=>wn<|bd hF fun o6 hJ hF=>qaI (Q':=fun e a w=>e = .normal ∧ Ok u m0 ([(b2,oc 173 [vb o6.2.Neg,vs o6.2.Whole,vs o6.2.Frac])] :: [(b1,oc 173 [vb false,(vs ([])),(vs ([]))])] :: S) w ∧ Env 98 a [(0,vs o6.1),(2,vp b1),(4,vp b2)] ∧ o6.1.length ≤ LIMS ∧ o6.2.Whole.length ≤ LIMS ∧ o6.2.Frac.length ≤ LIMS) ?_ ?_
 ·have hF:=hJ
  refine cg E rfl hF (fun c10 hF=>?_) fun c10 hF=>?_
  ·refine wp_skip ?_
   cases hF
   exact ⟨rfl,⟨ok,E.keep [0,2,4],ls_0,(Nat.zero_le _),(Nat.zero_le _)⟩⟩
  refine bd hF fun o11 hJ hF=>qaI (Q':=fun e a w=>e = .normal ∧ Ok u m0 ([(b2,oc 173 [vb o11.2.Neg,vs o11.2.Whole,vs o11.2.Frac])] :: [(b1,oc 173 [vb false,(vs ([])),(vs ([]))])] :: S) w ∧ Env 98 a [(0,vs o11.1),(2,vp b1),(4,vp b2)] ∧ o11.1.length ≤ LIMS ∧ o11.2.Whole.length ≤ LIMS ∧ o11.2.Frac.length ≤ LIMS) ?_ ?_
  rotate_left
  ·intro e a w hO
   obtain ⟨rfl,ok,E,l17,l18,l19⟩:=hO
   cases hF
   exact ⟨rfl,⟨ok,E.keep [0,2,4],l17,l18,l19⟩⟩
  have hF:=hJ
  obtain ⟨s15,e16,hF⟩:=bnd hF
  obtain rfl:=sj hF
  refine qbx [] (Cls u m0 ([(b1,oc 173 [vb false,(vs ([])),(vs ([]))])] :: [])) (Cls u m0 ([(b1,oc 173 [vb false,(vs ([])),(vs ([]))])] :: [])) (by kernel_rfl) ?_
  intro w hw
  replace ok:=qbP ok hw
  clear hw
  refine qau (cl1 (cq le_m0 ok [1] rfl) (cq le_m0 ok [1] rfl)) fun hT=>kt 0 E rfl hT (qan rfl) fun a E=>kt 1 E rfl hT (qds Tryz.underlying9 e16 rfl ⟨_,rfl⟩ rfl) fun a E=>kt 2 E rfl hT (qai qie rfl) fun a E=>qaU [3] (by kernel_rfl) rfl (qa2 ?_)
  ·refine wo rfl<|qad E ok 0 rfl rfl rfl qrg rfl rfl ⟨rfl,trivial⟩ rfl rfl fun w ok=>wn<|qau (cl1 (cq le_m0 ok [1] rfl) (cq le_m0 ok [1] rfl)) fun hT=>kt 4 E rfl hT (qbv rfl) fun a E=>qbE (by kernel_rfl) ?_
   exact ⟨rfl,⟨ok,E.keep [0,2,4],(Nat.le_trans (qcs e16) ls_0),(Nat.zero_le _),(Nat.zero_le _)⟩⟩
 intro e a w hO
 obtain ⟨rfl,ok,E,l20,l21,l22⟩:=hO
 refine qab<|sg<|aw E rfl fun a E=>wp_seq<|wp_block<|bd hF fun o24 hL hF=>qba _ (fun (s:Int) a w=>Ok u m0 ([(b2,oc 173 [vb o6.2.Neg,vs o6.2.Whole,vs o6.2.Frac])] :: [(b1,oc 173 [vb false,(vs ([])),(vs ([]))])] :: S) w ∧ Env 98 a [(0,vs o6.1),(2,vp b1),(4,vp b2),(5,vi s)] ∧ InR .i64 s) (fun (b:Int) e a w=>e = (.exit 0) ∧ Ok u m0 ([(b2,oc 173 [vb o6.2.Neg,vs o6.2.Whole,vs o6.2.Frac])] :: [(b1,oc 173 [vb false,(vs ([])),(vs ([]))])] :: S) w ∧ Env 98 a [(0,vs o6.1),(2,vp b1),(4,vp b2),(5,vi b)] ∧ InR .i64 b) ?_ ?_ N _ a w hL ⟨ok,E.keep [0,2,4,5],(ir 0)⟩
 ·rintro v26 a w r ⟨ok,E,r27⟩ hF
  replace hF:qfa N o6 v26 = some r:=hF
  unfold qfa at hF
  refine wp_seq<|sg<|mz E rfl rfl fun a E=>lw E (qaH Tryz.underlying9 rfl) fun a E=>lw E (qaQ rfl rfl) fun a E=>mv E rfl fun a E=>bw E 21 hF (fun c28 hF E=>?_) fun c28 hF E=>?_
  ·refine lsz E fun a E=>pf E rfl rfl fun a E=>wn<|c_if E rfl (fun h=>by cases h) (fun _=>?_)
   refine wp_exit<|qaW ?_
   cases hF
   exact so (⟨rfl,⟨ok,E.keep [0,2,4,5],r27⟩⟩)
  refine mz E rfl rfl fun a E=>bd hF fun c29 e30 hF=>lv E ok (qaF Tryz.underlying9 rfl rfl e30) fun a E=>lw E (qbr rfl rfl) fun a E=>pt E rfl rfl fun a E=>wn<|cg E rfl hF (fun c31 hF=>?_) fun c31 hF=>?_
  ·refine wp_exit<|qaW ?_
   cases hF
   exact so (⟨rfl,⟨ok,E.keep [0,2,4,5],r27⟩⟩)
  refine wp_skip<|qab<|wp_block<|qac<|mv E rfl fun a E=>lw E (qaG rfl rfl (InR.inc r27 (InR.len l20) c28)) fun a E=>av E rfl fun a E=>wpList_nil<|qah ?_
  cases hF
  exact qav ⟨ok,E.keep [0,2,4,5],(InR.inc r27 (InR.len l20) c28)⟩
 intro e a w _ hO
 obtain ⟨rfl,ok,E,r32⟩:=hO
 refine qbm<|qab<|sg<|mz E rfl rfl fun a E=>bd hF fun s33 e34 hF=>lw E (qds Tryz.underlying9 e34 rfl rfl ⟨_,rfl⟩) fun a E=>fv E qc2 rfl fun a E=>qad E ok 0 rfl rfl rfl qcN rfl rfl ⟨rfl,trivial⟩ rfl rfl fun w ok=>wn<|wp_seq<|sg<|mz E rfl rfl fun a E=>lw E (qaH Tryz.underlying9 rfl) fun a E=>lw E (qaQ rfl rfl) fun a E=>wn<|bd hF fun o35 hJ hF=>qaI (Q':=fun e a w=>(Sum.elim (fun b36=>e = .normal ∧ Ok u m0 ([(b2,oc 173 [vb b36.Neg,vs b36.Whole,vs b36.Frac])] :: [(b1,oc 173 [vb false,(vs ([])),(vs ([]))])] :: S) w ∧ Env 98 a [(2,vp b1),(4,vp b2)] ∧ b36.Whole.length ≤ LIMS ∧ b36.Frac.length ≤ LIMS) (fun b39=>e = .ret ∧ qdC u m0 S b39 a w)) o35) ?_ ?_
 ·have hF:=hJ
  refine cg E rfl hF (fun c40 hF=>?_) fun c40 hF=>?_
  ·refine wp_skip ?_
   cases hF
   exact (sl ⟨rfl,⟨ok,E.keep [2,4],(Nat.le_trans (qcs e34) l20),l22⟩⟩)
  refine sg<|mz E rfl rfl fun a E=>lw E (qaG rfl rfl (InR.inc r32 (InR.len l20) c40)) fun a E=>bd hF fun s41 e42 hF=>lw E (qds Tryz.underlying9 e42 rfl ⟨_,rfl⟩ rfl) fun a E=>fv E qdr rfl fun a E=>qad E ok 0 rfl rfl rfl qcN rfl rfl ⟨rfl,trivial⟩ rfl rfl fun w ok=>wn<|sg<|fv E qdr rfl fun a E=>ld E ok qal 0 rfl rfl rfl fun a E=>lw E (qaH Tryz.underlying9 rfl) fun a E=>lw E (qam rfl rfl) fun a E=>wn<|cg E rfl hF (fun c43 hF=>?_) fun c43 hF=>?_
  ·refine wp_skip ?_
   cases hF
   exact (sl ⟨rfl,⟨ok,E.keep [2,4],(Nat.le_trans (qcs e34) l20),(Nat.le_trans (qcs e42) l20)⟩⟩)
  refine sg<|lw E (qaq (ps:=[]) (qs:=[]) (cs:=[vb false,(vs ([])),(vs ([]))]) qch qb2 rfl trivial rfl) fun a E=>qad E ok 1 rfl rfl rfl qb1 rfl rfl ⟨rfl,rfl,rfl,trivial⟩ rfl rfl fun w ok=>aw E rfl fun a E=>wp_ret ?_
  have hret:qdC u m0 S ((Number2.mk false ([]) ([])),false) a w:=⟨m0,[vb false,(vs ([])),(vs ([]))],le_m0,ok.drop.drop,E.d,⟨rv_c (cs:=[vb false,(vs ([])),(vs ([]))]) E ok rfl qbs rfl (qae.own 1 rfl rfl),rv_t E rfl,trivial⟩,⟨rfl,(Nat.zero_le _),(Nat.zero_le _)⟩⟩
  cases hF
  exact (sr ⟨rfl,hret⟩)
 intro e a w hO
 rcases o35 with o35 | o35
 rotate_left
 ·obtain ⟨rfl,hret⟩:=hO
  refine qaj ?_
  exact fin hF hret
 have hF:=qce hF
 obtain ⟨rfl,ok,E,l44,l45⟩:=hO
 refine qab<|wp_seq<|sg<|fk E ok qc2 qal rfl 0 rfl rfl fun a E=>fk E ok qdr qal rfl 0 rfl rfl fun a E=>bd hF fun s46 e47 hF=>lw E (qaY rfl rfl e47) fun a E=>bd hF fun r48 e49 hF=>lc E qoW rfl (qgF N s46 (qbR e47) e49 hG ok) fun w ok a E=>lw E (qbg rfl) fun a E=>mv E rfl fun a E=>bu E 54 hF (fun c50 hF E=>?_) fun c50 hF E=>?_
 ·refine lsz E fun a E=>pt E rfl rfl fun a E=>mv E rfl fun a E=>lsz E fun a E=>pt E rfl rfl fun a E=>mv E rfl fun a E=>lsz E fun a E=>?_
  refine lsz E fun a E=>lsq E fun a E=>pt E rfl rfl fun a E=>mv E rfl fun a E=>lsz E fun a E=>pt E rfl rfl fun a E=>mv E rfl fun a E=>lsq E fun a E=>?_
  refine lsz E fun a E=>lsz E fun a E=>pt E rfl rfl fun a E=>wn<|c_if E rfl (fun _=>?_) (fun h=>by cases h)
  refine sg<|lw E (qaq (ps:=[]) (qs:=[]) (cs:=[vb false,(vs ([])),(vs ([]))]) qch qb2 rfl trivial rfl) fun a E=>qad E ok 1 rfl rfl rfl qb1 rfl rfl ⟨rfl,rfl,rfl,trivial⟩ rfl rfl fun w ok=>aw E rfl fun a E=>wp_ret<|qaj ?_
  exact fin hF ⟨m0,[vb false,(vs ([])),(vs ([]))],le_m0,ok.drop.drop,E.d,⟨rv_c (cs:=[vb false,(vs ([])),(vs ([]))]) E ok rfl qbs rfl (qae.own 1 rfl rfl),rv_t E rfl,trivial⟩,⟨rfl,(Nat.zero_le _),(Nat.zero_le _)⟩⟩
 refine fk E ok qc2 qal rfl 0 rfl rfl fun a E=>lw E (qaH Tryz.underlying9 rfl) fun a E=>lw E (qaQ rfl rfl) fun a E=>pf E rfl rfl fun a E=>mv E rfl fun a E=>bu E 60 hF (fun c51 hF E=>?_) fun c51 hF E=>?_
 ·refine lsz E fun a E=>pt E rfl rfl fun a E=>mv E rfl fun a E=>lsz E fun a E=>lsz E fun a E=>lsq E fun a E=>?_
  refine pt E rfl rfl fun a E=>mv E rfl fun a E=>lsz E fun a E=>pt E rfl rfl fun a E=>mv E rfl fun a E=>lsz E fun a E=>lsz E fun a E=>?_
  refine lsq E fun a E=>pt E rfl rfl fun a E=>wn<|c_if E rfl (fun _=>?_) (fun h=>by cases h)
  refine sg<|lw E (qaq (ps:=[]) (qs:=[]) (cs:=[vb false,(vs ([])),(vs ([]))]) qch qb2 rfl trivial rfl) fun a E=>qad E ok 1 rfl rfl rfl qb1 rfl rfl ⟨rfl,rfl,rfl,trivial⟩ rfl rfl fun w ok=>aw E rfl fun a E=>wp_ret<|qaj ?_
  exact fin hF ⟨m0,[vb false,(vs ([])),(vs ([]))],le_m0,ok.drop.drop,E.d,⟨rv_c (cs:=[vb false,(vs ([])),(vs ([]))]) E ok rfl qbs rfl (qae.own 1 rfl rfl),rv_t E rfl,trivial⟩,⟨rfl,(Nat.zero_le _),(Nat.zero_le _)⟩⟩
 refine fk E ok qc2 qal rfl 0 rfl rfl fun a E=>lw E (qaH Tryz.underlying9 rfl) fun a E=>lw E (qbF rfl rfl) fun a E=>pf E rfl rfl fun a E=>mv E rfl fun a E=>bu E 66 hF (fun c52 hF E=>?_) fun c52 hF E=>?_
 ·refine lsz E fun a E=>lsz E fun a E=>lsq E fun a E=>pt E rfl rfl fun a E=>mv E rfl fun a E=>lsz E fun a E=>?_
  refine pt E rfl rfl fun a E=>mv E rfl fun a E=>lsz E fun a E=>lsz E fun a E=>lsq E fun a E=>pt E rfl rfl fun a E=>wn<|c_if E rfl (fun _=>?_) (fun h=>by cases h)
  refine sg<|lw E (qaq (ps:=[]) (qs:=[]) (cs:=[vb false,(vs ([])),(vs ([]))]) qch qb2 rfl trivial rfl) fun a E=>qad E ok 1 rfl rfl rfl qb1 rfl rfl ⟨rfl,rfl,rfl,trivial⟩ rfl rfl fun w ok=>aw E rfl fun a E=>wp_ret<|qaj ?_
  exact fin hF ⟨m0,[vb false,(vs ([])),(vs ([]))],le_m0,ok.drop.drop,E.d,⟨rv_c (cs:=[vb false,(vs ([])),(vs ([]))]) E ok rfl qbs rfl (qae.own 1 rfl rfl),rv_t E rfl,trivial⟩,⟨rfl,(Nat.zero_le _),(Nat.zero_le _)⟩⟩
 refine fk E ok qc2 qal rfl 0 rfl rfl fun a E=>lw E (qaH Tryz.underlying9 rfl) fun a E=>lw E (qbF rfl rfl) fun a E=>mv E rfl fun a E=>bw E 71 hF (fun c53 hF E=>?_) fun c53 hF E=>?_
 ·as_aux_lemma =>
   refine lsz E fun a E=>pf E rfl rfl fun a E=>pf E rfl rfl fun a E=>mv E rfl fun a E=>fv E qdr rfl fun a E=>ld E ok qal 0 rfl rfl rfl fun a E=>lw E (qaH Tryz.underlying9 rfl) fun a E=>lw E (qbF rfl rfl) fun a E=>pf E rfl rfl fun a E=>mv E rfl fun a E=>bu E 84 hF (fun c64 hF E=>?_) fun c64 hF E=>?_
   ·refine lsz E fun a E=>lsz E fun a E=>lsq E fun a E=>pt E rfl rfl fun a E=>wn<|c_if E rfl (fun _=>?_) (fun h=>by cases h)
    refine sg<|lw E (qaq (ps:=[]) (qs:=[]) (cs:=[vb false,(vs ([])),(vs ([]))]) qch qb2 rfl trivial rfl) fun a E=>qad E ok 1 rfl rfl rfl qb1 rfl rfl ⟨rfl,rfl,rfl,trivial⟩ rfl rfl fun w ok=>aw E rfl fun a E=>wp_ret<|qaj ?_
    exact fin hF ⟨m0,[vb false,(vs ([])),(vs ([]))],le_m0,ok.drop.drop,E.d,⟨rv_c (cs:=[vb false,(vs ([])),(vs ([]))]) E ok rfl qbs rfl (qae.own 1 rfl rfl),rv_t E rfl,trivial⟩,⟨rfl,(Nat.zero_le _),(Nat.zero_le _)⟩⟩
   refine fk E ok qie qmj rfl 0 rfl rfl fun a E=>mv E rfl fun a E=>qbw o35.Neg (fun c65=>?_) (fun c65=>?_)
   rotate_left
   ·have hF:=qbq c65 hF
    have E:=E.upd 87 c65 rfl
    refine lsz E fun a E=>lsq E fun a E=>pf E rfl rfl fun a E=>pf E rfl rfl fun a E=>wn<|c_if E rfl (fun h=>by cases h) (fun _=>?_)
    refine wp_skip<|qab<|sg<|lv E ok (qar (cs:=[vb o35.Neg,vs o35.Whole,vs o35.Frac]) qbs rfl rfl (qae.own 0 rfl rfl)) fun a E=>qad E ok 1 rfl rfl rfl qb1 rfl rfl ⟨rfl,rfl,rfl,trivial⟩ rfl rfl fun w ok=>av E rfl fun a E=>wn<|wp_ret ?_
    exact fin hF ⟨m0,[vb o35.Neg,vs o35.Whole,vs o35.Frac],le_m0,ok.drop.drop,E.d,⟨rv_c (cs:=[vb o35.Neg,vs o35.Whole,vs o35.Frac]) E ok rfl qbs rfl (qae.own 1 rfl rfl),rv_t E rfl,trivial⟩,⟨rfl,l44,l45⟩⟩
   have hF:=qbp c65 hF
   have E:=E.upd 87 c65 rfl
   refine fk E ok qc2 qal rfl 0 rfl rfl fun a E=>fk E ok qdr qal rfl 0 rfl rfl fun a E=>bd hF fun s66 e67 hF=>lw E (qaY rfl rfl e67) fun a E=>bd hF fun r68 e69 hF=>lc E qkO rfl (qeM N s66 (qbR e67) e69 hG ok) fun w ok a E=>pt E rfl rfl fun a E=>pf E rfl rfl fun a E=>wn<|cf E rfl hF (fun c70 hF=>?_) fun c70 hF=>?_
   ·refine sg<|lw E (qaq (ps:=[]) (qs:=[]) (cs:=[vb false,(vs ([])),(vs ([]))]) qch qb2 rfl trivial rfl) fun a E=>qad E ok 1 rfl rfl rfl qb1 rfl rfl ⟨rfl,rfl,rfl,trivial⟩ rfl rfl fun w ok=>aw E rfl fun a E=>wp_ret<|qaj ?_
    exact fin hF ⟨m0,[vb false,(vs ([])),(vs ([]))],le_m0,ok.drop.drop,E.d,⟨rv_c (cs:=[vb false,(vs ([])),(vs ([]))]) E ok rfl qbs rfl (qae.own 1 rfl rfl),rv_t E rfl,trivial⟩,⟨rfl,(Nat.zero_le _),(Nat.zero_le _)⟩⟩
   refine wp_skip<|qab<|sg<|lv E ok (qar (cs:=[vb o35.Neg,vs o35.Whole,vs o35.Frac]) qbs rfl rfl (qae.own 0 rfl rfl)) fun a E=>qad E ok 1 rfl rfl rfl qb1 rfl rfl ⟨rfl,rfl,rfl,trivial⟩ rfl rfl fun w ok=>av E rfl fun a E=>wn<|wp_ret ?_
   exact fin hF ⟨m0,[vb o35.Neg,vs o35.Whole,vs o35.Frac],le_m0,ok.drop.drop,E.d,⟨rv_c (cs:=[vb o35.Neg,vs o35.Whole,vs o35.Frac]) E ok rfl qbs rfl (qae.own 1 rfl rfl),rv_t E rfl,trivial⟩,⟨rfl,l44,l45⟩⟩
 refine fk E ok qc2 qal rfl 0 rfl rfl fun a E=>bd hF fun c54 e55 hF=>lv E ok (qaF Tryz.underlying9 rfl rfl e55) fun a E=>lw E (qam rfl rfl) fun a E=>pt E rfl rfl fun a E=>pf E rfl rfl fun a E=>mv E rfl fun a E=>bu E 78 hF (fun c56 hF E=>?_) fun c56 hF E=>?_
 ·refine lsz E fun a E=>pt E rfl rfl fun a E=>mv E rfl fun a E=>lsz E fun a E=>lsz E fun a E=>lsq E fun a E=>?_
  refine pt E rfl rfl fun a E=>wn<|c_if E rfl (fun _=>?_) (fun h=>by cases h)
  refine sg<|lw E (qaq (ps:=[]) (qs:=[]) (cs:=[vb false,(vs ([])),(vs ([]))]) qch qb2 rfl trivial rfl) fun a E=>qad E ok 1 rfl rfl rfl qb1 rfl rfl ⟨rfl,rfl,rfl,trivial⟩ rfl rfl fun w ok=>aw E rfl fun a E=>wp_ret<|qaj ?_
  exact fin hF ⟨m0,[vb false,(vs ([])),(vs ([]))],le_m0,ok.drop.drop,E.d,⟨rv_c (cs:=[vb false,(vs ([])),(vs ([]))]) E ok rfl qbs rfl (qae.own 1 rfl rfl),rv_t E rfl,trivial⟩,⟨rfl,(Nat.zero_le _),(Nat.zero_le _)⟩⟩
 refine fk E ok qdr qal rfl 0 rfl rfl fun a E=>lw E (qaH Tryz.underlying9 rfl) fun a E=>lw E (qbF rfl rfl) fun a E=>pf E rfl rfl fun a E=>mv E rfl fun a E=>bu E 84 hF (fun c57 hF E=>?_) fun c57 hF E=>?_
 ·refine lsz E fun a E=>lsz E fun a E=>lsq E fun a E=>pt E rfl rfl fun a E=>wn<|c_if E rfl (fun _=>?_) (fun h=>by cases h)
  refine sg<|lw E (qaq (ps:=[]) (qs:=[]) (cs:=[vb false,(vs ([])),(vs ([]))]) qch qb2 rfl trivial rfl) fun a E=>qad E ok 1 rfl rfl rfl qb1 rfl rfl ⟨rfl,rfl,rfl,trivial⟩ rfl rfl fun w ok=>aw E rfl fun a E=>wp_ret<|qaj ?_
  exact fin hF ⟨m0,[vb false,(vs ([])),(vs ([]))],le_m0,ok.drop.drop,E.d,⟨rv_c (cs:=[vb false,(vs ([])),(vs ([]))]) E ok rfl qbs rfl (qae.own 1 rfl rfl),rv_t E rfl,trivial⟩,⟨rfl,(Nat.zero_le _),(Nat.zero_le _)⟩⟩
 refine fk E ok qie qmj rfl 0 rfl rfl fun a E=>mv E rfl fun a E=>qbw o35.Neg (fun c58=>?_) (fun c58=>?_)
 rotate_left
 ·have hF:=qbq c58 hF
  have E:=E.upd 87 c58 rfl
  refine lsz E fun a E=>lsq E fun a E=>pf E rfl rfl fun a E=>pf E rfl rfl fun a E=>wn<|c_if E rfl (fun h=>by cases h) (fun _=>?_)
  refine wp_skip<|qab<|sg<|lv E ok (qar (cs:=[vb o35.Neg,vs o35.Whole,vs o35.Frac]) qbs rfl rfl (qae.own 0 rfl rfl)) fun a E=>qad E ok 1 rfl rfl rfl qb1 rfl rfl ⟨rfl,rfl,rfl,trivial⟩ rfl rfl fun w ok=>av E rfl fun a E=>wn<|wp_ret ?_
  exact fin hF ⟨m0,[vb o35.Neg,vs o35.Whole,vs o35.Frac],le_m0,ok.drop.drop,E.d,⟨rv_c (cs:=[vb o35.Neg,vs o35.Whole,vs o35.Frac]) E ok rfl qbs rfl (qae.own 1 rfl rfl),rv_t E rfl,trivial⟩,⟨rfl,l44,l45⟩⟩
 have hF:=qbp c58 hF
 have E:=E.upd 87 c58 rfl
 refine fk E ok qc2 qal rfl 0 rfl rfl fun a E=>fk E ok qdr qal rfl 0 rfl rfl fun a E=>bd hF fun s59 e60 hF=>lw E (qaY rfl rfl e60) fun a E=>bd hF fun r61 e62 hF=>lc E qkO rfl (qeM N s59 (qbR e60) e62 hG ok) fun w ok a E=>pt E rfl rfl fun a E=>pf E rfl rfl fun a E=>wn<|cf E rfl hF (fun c63 hF=>?_) fun c63 hF=>?_
 ·refine sg<|lw E (qaq (ps:=[]) (qs:=[]) (cs:=[vb false,(vs ([])),(vs ([]))]) qch qb2 rfl trivial rfl) fun a E=>qad E ok 1 rfl rfl rfl qb1 rfl rfl ⟨rfl,rfl,rfl,trivial⟩ rfl rfl fun w ok=>aw E rfl fun a E=>wp_ret<|qaj ?_
  exact fin hF ⟨m0,[vb false,(vs ([])),(vs ([]))],le_m0,ok.drop.drop,E.d,⟨rv_c (cs:=[vb false,(vs ([])),(vs ([]))]) E ok rfl qbs rfl (qae.own 1 rfl rfl),rv_t E rfl,trivial⟩,⟨rfl,(Nat.zero_le _),(Nat.zero_le _)⟩⟩
 refine wp_skip<|qab<|sg<|lv E ok (qar (cs:=[vb o35.Neg,vs o35.Whole,vs o35.Frac]) qbs rfl rfl (qae.own 0 rfl rfl)) fun a E=>qad E ok 1 rfl rfl rfl qb1 rfl rfl ⟨rfl,rfl,rfl,trivial⟩ rfl rfl fun w ok=>av E rfl fun a E=>wn<|wp_ret ?_
 exact fin hF ⟨m0,[vb o35.Neg,vs o35.Whole,vs o35.Frac],le_m0,ok.drop.drop,E.d,⟨rv_c (cs:=[vb o35.Neg,vs o35.Whole,vs o35.Frac]) E ok rfl qbs rfl (qae.own 1 rfl rfl),rv_t E rfl,trivial⟩,⟨rfl,l44,l45⟩⟩
def qjF (u:World) (m0:Mem) (S:Segs) (r:Bool) (a:Act) (w:World):Prop :=
 Ok u m0 S w ∧ a.defers = [] ∧ RVs Tryz.prog a w [.t 2 (.bool r)]
theorem qjL (N:Nat) (s_0:List UInt8) (ls_0:s_0.length ≤ LIMS) {r:Bool} (hF:qf0 N s_0 = some r) (hG:Glob u) (ok:Ok u m0 S w) :
  Calls Tryz.prog 78 [vs s_0].toArray w fun e w'=>(e = .returned (.bool r) ∧ Ok u m0 S w'):=by
 have hb0:=ok.base
 have le_m0:=Mem.le.refl m0
 unfold qf0 at hF
 refine en (qjF u m0 S) r Tryz.func78 rfl rfl rfl (fun _ _ h=>ra h rfl) fun fin a E=>sg<|aw E rfl fun a E=>sg<|mv E rfl fun a E=>bd hF fun r1 e2 hF=>qaf E qq4 rfl (qjH N s_0 ls_0 e2 hG ok) rfl rfl ?_
 rintro _ w ⟨m3,vs4,rfl,hle,ok,h5⟩
 have le_m0:=le_m0.trans hle
 obtain ⟨rfl,l6,l7⟩:=h5
 refine ⟨_,rfl,fun a E=>?_⟩
 refine mv E rfl fun a E=>lw E (qa0 rfl rfl) fun a E=>lw E (qa0 rfl rfl) fun a E=>qa1 E ok qch rfl rfl fun b8 a w E ok=>qad E ok 0 rfl rfl rfl qb1 rfl rfl ⟨rfl,rfl,rfl,trivial⟩ rfl rfl fun w ok=>aw E rfl fun a E=>sg<|mv E rfl fun a E=>aw E rfl fun a E=>wp_ret ?_
 exact fin hF ⟨(ok.drop).down hb0 le_m0,E.d,rz E rfl⟩
def qkr (u:World) (m0:Mem) (S:Segs) (r:Bool) (a:Act) (w:World):Prop :=
 Ok u m0 S w ∧ a.defers = [] ∧ RVs Tryz.prog a w [.t 4 (.bool r)]
theorem qdx (N:Nat) (kind_0:Int) (rkind_0:InR .i64 kind_0) (s_1:List UInt8) (ls_1:s_1.length ≤ LIMS) {r:Bool} (hF:qc5 N kind_0 s_1 = some r) (hG:Glob u) (ok:Ok u m0 S w) :
  Calls Tryz.prog 60 [vi kind_0,vs s_1].toArray w fun e w'=>(e = .returned (.bool r) ∧ Ok u m0 S w'):=by
 unfold qc5 at hF
 refine en (qkr u m0 S) r Tryz.func60 rfl rfl rfl (fun _ _ h=>ra h rfl) fun fin a E=>sg<|aw E rfl fun a E=>wp_seq<|sg<|mv E rfl fun a E=>lw E (qam rfl rfl) fun a E=>wn<|cf E rfl hF (fun c1 hF=>?_) fun c1 hF=>?_
 ·refine sg<|mv E rfl fun a E=>bd hF fun r2 e3 hF=>lc E qe9 rfl (qbh N s_1 ls_1 e3 hG ok) fun w ok a E=>aw E rfl fun a E=>wp_ret<|qaj ?_
  exact fin hF ⟨ok,E.d,rz E rfl⟩
 refine wp_skip<|qab<|sg<|mv E rfl fun a E=>bd hF fun r4 e5 hF=>lc E qrv rfl (qjJ N s_1 ls_1 e5 hG ok) fun w ok a E=>mv E rfl fun a E=>qbw r4 (fun c6=>?_) (fun c6=>?_)
 ·have hF:=qbp c6 hF
  have E:=E.upd 11 c6 rfl
  refine lsz E fun a E=>lsz E fun a E=>lsz E fun a E=>ls E fun a E=>pt E rfl rfl fun a E=>av E rfl fun a E=>wn<|wp_ret ?_
  exact fin hF ⟨ok,E.d,rz E rfl⟩
 have hF:=qbq c6 hF
 have E:=E.upd 11 c6 rfl
 refine mv E rfl fun a E=>lw E (qaH Tryz.underlying9 rfl) fun a E=>lw E (qbF rfl rfl) fun a E=>mv E rfl fun a E=>bw E 15 hF (fun c7 hF E=>?_) fun c7 hF E=>?_
 ·refine lsq E fun a E=>ls E fun a E=>pf E rfl rfl fun a E=>mv E rfl fun a E=>lsq E fun a E=>ls E fun a E=>pf E rfl rfl fun a E=>pf E rfl rfl fun a E=>aw E rfl fun a E=>wp_ret ?_
  exact fin hF ⟨ok,E.d,rz E rfl⟩
 refine mv E rfl fun a E=>bd hF fun c8 e9 hF=>lv E ok (qaF Tryz.underlying9 rfl rfl e9) fun a E=>lw E (qam rfl rfl) fun a E=>pt E rfl rfl fun a E=>mv E rfl fun a E=>bw E 20 hF (fun c10 hF E=>?_) fun c10 hF E=>?_
 ·refine lsq E fun a E=>ls E fun a E=>pf E rfl rfl fun a E=>pf E rfl rfl fun a E=>aw E rfl fun a E=>wp_ret ?_
  exact fin hF ⟨ok,E.d,rz E rfl⟩
 refine mv E rfl fun a E=>bd hF fun s11 e12 hF=>lw E (qds Tryz.underlying9 e12 rfl ⟨_,rfl⟩ rfl) fun a E=>bd hF fun r13 e14 hF=>lc E qrB rfl (qjL N s11 (Nat.le_trans (qcs e12) ls_1) e14 hG ok) fun w ok a E=>pt E rfl rfl fun a E=>pf E rfl rfl fun a E=>aw E rfl fun a E=>wp_ret ?_
 exact fin hF ⟨ok,E.d,rz E rfl⟩
def qga (u:World) (m0:Mem) (S:Segs) (r:Bool) (a:Act) (w:World):Prop :=
 Ok u m0 S w ∧ a.defers = [] ∧ RVs Tryz.prog a w [.t 2 (.bool r)]
theorem qdQ (N:Nat) (s_0:List UInt8) (ls_0:s_0.length ≤ LIMS) {r:Bool} (hF:qcV N s_0 = some r) (hG:Glob u) (ok:Ok u m0 S w) :
  Calls Tryz.prog 79 [vs s_0].toArray w fun e w'=>(e = .returned (.bool r) ∧ Ok u m0 S w'):=by
 unfold qcV at hF
 refine en (qga u m0 S) r Tryz.func79 rfl rfl rfl (fun _ _ h=>ra h rfl) fun fin a E=>sg<|aw E rfl fun a E=>wp_seq<|sg<|aw E rfl fun a E=>wp_block<|bd hF fun o2 hL hF=>qba _ (fun (s:Int) a w=>Ok u m0 (S) w ∧ Env 37 a [(0,vs s_0),(3,vi s)] ∧ InR .i64 s) (fun (b:(Unit ⊕ Bool)) e a w=>(Sum.elim (fun b16=>e = (.exit 0) ∧ Ok u m0 (S) w ∧ Env 37 a [(0,vs s_0)]) (fun b17=>e = .ret ∧ qga u m0 S b17 a w)) b) ?_ ?_ N _ a w hL ⟨ok,E.keep [0,3],(ir 0)⟩
 rotate_left
 ·intro e a w _ hO
  rcases o2 with o2 | o2
  rotate_left
  ·obtain ⟨rfl,hret⟩:=hO
   refine qaE<|qaj ?_
   exact fin hF hret
  have hF:=qce hF
  obtain ⟨rfl,ok,E⟩:=hO
  refine qbm<|qab<|sg<|mv E rfl fun a E=>lw E (qaH Tryz.underlying9 rfl) fun a E=>lw E (qbW rfl rfl) fun a E=>mv E rfl fun a E=>bu E 32 hF (fun c15 hF E=>?_) fun c15 hF E=>?_
  ·refine mv E rfl fun a E=>lw E (qaH Tryz.underlying9 rfl) fun a E=>lw E (qc6 rfl rfl) fun a E=>pt E rfl rfl fun a E=>aw E rfl fun a E=>wp_ret ?_
   exact fin hF ⟨ok,E.d,rz E rfl⟩
  refine lsq E fun a E=>ls E fun a E=>pf E rfl rfl fun a E=>aw E rfl fun a E=>wp_ret ?_
  exact fin hF ⟨ok,E.d,rz E rfl⟩
 rintro v4 a w r ⟨ok,E,r5⟩ hF
 replace hF:qew N s_0 v4 = some r:=hF
 unfold qew at hF
 refine wp_seq<|sg<|mz E rfl rfl fun a E=>lw E (qaH Tryz.underlying9 rfl) fun a E=>lw E (qaQ rfl rfl) fun a E=>wn<|cg E rfl hF (fun c6 hF=>?_) fun c6 hF=>?_
 ·refine wp_exit<|qaW ?_
  cases hF
  exact so (sl ⟨rfl,⟨ok,E.keep [0]⟩⟩)
 refine wp_skip<|qab<|wp_seq<|wp_block<|sg<|mz E rfl rfl fun a E=>bd hF fun c7 e8 hF=>lv E ok (qaF Tryz.underlying9 rfl rfl e8) fun a E=>aw E rfl fun a E=>wp_seq<|bd hF fun o9 hJ hF=>qaI (Q':=fun e a w=>e = .normal ∧ Ok u m0 (S) w ∧ Env 37 a [(0,vs s_0),(3,vi v4),(28,vb o9)]) ?_ ?_
 rotate_left
 ·intro e a w hO
  obtain ⟨rfl,ok,E⟩:=hO
  refine qab<|cg E rfl hF (fun c14 hF=>?_) fun c14 hF=>?_
  ·refine wp_skip<|qah<|qab<|qac<|mv E rfl fun a E=>lw E (qaG rfl rfl (InR.inc r5 (InR.len ls_0) c6)) fun a E=>av E rfl fun a E=>wpList_nil ?_
   cases hF
   exact qav ⟨ok,E.keep [0,3],(InR.inc r5 (InR.len ls_0) c6)⟩
  refine sg<|aw E rfl fun a E=>wp_ret<|qaE<|qaj ?_
  cases hF
  exact so (sr ⟨rfl,⟨ok,E.d,rz E rfl⟩⟩)
 have hF:=hJ
 refine qac<|mv E rfl fun a E=>lw E (qbW rfl rfl) fun a E=>mv E rfl fun a E=>bw E 16 hF (fun c10 hF E=>?_) fun c10 hF E=>?_
 ·refine lsq E fun a E=>pf E rfl rfl fun a E=>mz E rfl rfl fun a E=>lw E (qbW rfl rfl) fun a E=>mv E rfl fun a E=>bu E 23 hF (fun c13 hF E=>?_) fun c13 hF E=>?_
  ·refine mv E rfl fun a E=>lw E (qc6 rfl rfl) fun a E=>pt E rfl rfl fun a E=>pf E rfl rfl fun a E=>lw E (qbg rfl) fun a E=>wpList_nil ?_
   cases hF
   exact ⟨rfl,⟨ok,E.keep [0,3,28]⟩⟩
  refine lsq E fun a E=>pf E rfl rfl fun a E=>pf E rfl rfl fun a E=>lw E (qbg rfl) fun a E=>wpList_nil ?_
  cases hF
  exact ⟨rfl,⟨ok,E.keep [0,3,28]⟩⟩
 refine mv E rfl fun a E=>lw E (qc6 rfl rfl) fun a E=>pt E rfl rfl fun a E=>mv E rfl fun a E=>bu E 20 hF (fun c11 hF E=>?_) fun c11 hF E=>?_
 ·refine lsz E fun a E=>lsq E fun a E=>pt E rfl rfl fun a E=>lw E (qbg rfl) fun a E=>wpList_nil ?_
  cases hF
  exact ⟨rfl,⟨ok,E.keep [0,3,28]⟩⟩
 refine mv E rfl fun a E=>lw E (qbW rfl rfl) fun a E=>mv E rfl fun a E=>bu E 23 hF (fun c12 hF E=>?_) fun c12 hF E=>?_
 ·refine mv E rfl fun a E=>lw E (qc6 rfl rfl) fun a E=>pt E rfl rfl fun a E=>pf E rfl rfl fun a E=>lw E (qbg rfl) fun a E=>wpList_nil ?_
  cases hF
  exact ⟨rfl,⟨ok,E.keep [0,3,28]⟩⟩
 refine lsq E fun a E=>pf E rfl rfl fun a E=>pf E rfl rfl fun a E=>lw E (qbg rfl) fun a E=>wpList_nil ?_
 cases hF
 exact ⟨rfl,⟨ok,E.keep [0,3,28]⟩⟩
end Go.Proofs.YtllnjbnknjpbjaaGreatDoor
namespace Go.Proofs.YtllnjbnknjpbjaaGreatDoor
open Go.X
variable {u:World} {m0:Mem} {S:Segs} {w:World}
set_option maxHeartbeats 4000000
set_option maxRecDepth 100000
def qiR (u:World) (m0:Mem) (S:Segs) (r:Bool) (a:Act) (w:World):Prop :=
 Ok u m0 S w ∧ a.defers = [] ∧ RVs Tryz.prog a w [.t 2 (.bool r)]
theorem qbL (N:Nat) (c_0:Int) (rc_0:InR .u8 c_0) {r:Bool} (hF:qbC N c_0 = some r) (hG:Glob u) (ok:Ok u m0 S w) :
  Calls Tryz.prog 80 [Value.int .u8 c_0].toArray w fun e w'=>(e = .returned (.bool r) ∧ Ok u m0 S w'):=by
 unfold qbC at hF
 refine en (qiR u m0 S) r Tryz.func80 rfl rfl rfl (fun _ _ h=>ra h rfl) fun fin a E=>sg<|aw E rfl fun a E=>sg<|mv E rfl fun a E=>lw E (qam rfl rfl) fun a E=>mv E rfl fun a E=>bu E 5 hF (fun c1 hF E=>?_) fun c1 hF E=>?_
 ·refine lsq E fun a E=>pt E rfl rfl fun a E=>mv E rfl fun a E=>lsq E fun a E=>pt E rfl rfl fun a E=>mv E rfl fun a E=>lsq E fun a E=>pt E rfl rfl fun a E=>mv E rfl fun a E=>lsq E fun a E=>pt E rfl rfl fun a E=>mv E rfl fun a E=>?_
  refine lsq E fun a E=>pt E rfl rfl fun a E=>aw E rfl fun a E=>wp_ret ?_
  exact fin hF ⟨ok,E.d,rz E rfl⟩
 refine mv E rfl fun a E=>lw E (qam rfl rfl) fun a E=>pf E rfl rfl fun a E=>mv E rfl fun a E=>bu E 9 hF (fun c2 hF E=>?_) fun c2 hF E=>?_
 ·refine lsq E fun a E=>pt E rfl rfl fun a E=>mv E rfl fun a E=>lsq E fun a E=>pt E rfl rfl fun a E=>mv E rfl fun a E=>lsq E fun a E=>pt E rfl rfl fun a E=>mv E rfl fun a E=>lsq E fun a E=>pt E rfl rfl fun a E=>av E rfl fun a E=>?_
  refine wn<|wp_ret ?_
  exact fin hF ⟨ok,E.d,rz E rfl⟩
 refine mv E rfl fun a E=>lw E (qam rfl rfl) fun a E=>pf E rfl rfl fun a E=>mv E rfl fun a E=>bu E 13 hF (fun c3 hF E=>?_) fun c3 hF E=>?_
 ·refine lsq E fun a E=>pt E rfl rfl fun a E=>mv E rfl fun a E=>lsq E fun a E=>pt E rfl rfl fun a E=>mv E rfl fun a E=>lsq E fun a E=>pt E rfl rfl fun a E=>aw E rfl fun a E=>wp_ret ?_
  exact fin hF ⟨ok,E.d,rz E rfl⟩
 refine mv E rfl fun a E=>lw E (qam rfl rfl) fun a E=>pf E rfl rfl fun a E=>mv E rfl fun a E=>bu E 17 hF (fun c4 hF E=>?_) fun c4 hF E=>?_
 ·refine lsq E fun a E=>pt E rfl rfl fun a E=>mv E rfl fun a E=>lsq E fun a E=>pt E rfl rfl fun a E=>av E rfl fun a E=>wn<|wp_ret ?_
  exact fin hF ⟨ok,E.d,rz E rfl⟩
 refine mv E rfl fun a E=>lw E (qam rfl rfl) fun a E=>pf E rfl rfl fun a E=>mv E rfl fun a E=>bu E 21 hF (fun c5 hF E=>?_) fun c5 hF E=>?_
 ·refine lsq E fun a E=>pt E rfl rfl fun a E=>aw E rfl fun a E=>wp_ret ?_
  exact fin hF ⟨ok,E.d,rz E rfl⟩
 refine mv E rfl fun a E=>lw E (qam rfl rfl) fun a E=>pf E rfl rfl fun a E=>aw E rfl fun a E=>wp_ret ?_
 exact fin hF ⟨ok,E.d,rz E rfl⟩
def qi5 (u:World) (m0:Mem) (S:Segs) (r:(List UInt8)) (a:Act) (w:World):Prop :=
 Ok u m0 S w ∧ a.defers = [] ∧ RVs Tryz.prog a w [.t 2 (.string (bs r))] ∧ r.length ≤ LIMS
theorem qje (N:Nat) (s_0:List UInt8) (ls_0:s_0.length ≤ LIMS) {r:(List UInt8)} (hF:qfI N s_0 = some r) (hG:Glob u) (ok:Ok u m0 S w) :
  Calls Tryz.prog 62 [vs s_0].toArray w fun e w'=>(e = .returned (.string (bs r)) ∧ Ok u m0 S w') ∧ r.length ≤ LIMS:=by
 unfold qfI at hF
 refine en (qi5 u m0 S) r Tryz.func62 rfl rfl rfl (fun _ _ h=>rb h rfl) fun fin a E=>sg<|aw E rfl fun a E=>sg<|aw E rfl fun a E=>wp_seq<|sg<|av E rfl fun a E=>wn<|wp_block ?_
 obtain ⟨M6,ok,h7⟩:=qeg (e:=5) (k:=1) (R:=(pI .u8)) ok
 refine bd hF fun o8 hL hF=>qba _ (fun (s:(List (Int)) × Int) a w=>∃ c9 M10,Ok u m0 (M10 :: S) w ∧ Env 26 a [(0,vs s_0),(3,c9),(4,vi s.2)] ∧ ORow 5 1 (pI .u8) m0 c9 s.1 M10 ∧ InR .i64 s.2) (fun (b:((List (Int)))) e a w=>e = (.exit 0) ∧ ∃ c53 M54,Ok u m0 (M54 :: S) w ∧ Env 26 a [(3,c53)] ∧ ORow 5 1 (pI .u8) m0 c53 b M54) ?_ ?_ N _ a w hL ⟨(Value.slice none 0 0),M6,ok,E.keep [0,3,4],h7,(ir 0)⟩
 rotate_left
 ·intro e a w _ hO
  obtain ⟨rfl,c50,M51,ok,E,h52⟩:=hO
  refine qbm<|qab<|sg<|mv E rfl fun a E=>lv E ok (qiZ Tryz.underlying66 Tryz.underlying5 Tryz.underlying9 rfl (BR.ofRow h52 0 rfl)) fun a E=>av E rfl fun a E=>wn<|wp_ret ?_
  exact fin hF ⟨ok.drop,E.d,rz E rfl,(Nat.le_trans (Nat.le_of_eq qdO) h52.form.2)⟩
 rintro ⟨v13,v14⟩ a w r ⟨c15,M16,ok,E,h17,r18⟩ hF
 replace hF:qeY N s_0 v13 v14 = some r:=hF
 unfold qeY at hF
 refine wp_seq<|sg<|mz E rfl rfl fun a E=>lw E (qaH Tryz.underlying9 rfl) fun a E=>lw E (qaQ rfl rfl) fun a E=>wn<|cg E rfl hF (fun c19 hF=>?_) fun c19 hF=>?_
 ·refine wp_exit<|qaW ?_
  cases hF
  exact so (⟨rfl,⟨c15,M16,ok,E.keep [3],h17⟩⟩)
 refine wp_skip<|qab<|wp_seq<|wp_block<|wp_seq<|sg<|mv E rfl fun a E=>mv E rfl fun a E=>bd hF fun c20 e21 hF=>lv E ok (qaF Tryz.underlying9 rfl rfl e21) fun a E=>bd hF fun r22 e23 hF=>lc E qhF rfl (qbL N (c20.toNat:Int) (InR.byte c20) e23 hG ok) fun w ok a E=>wn<|bd hF fun o24 hJ hF=>qaI (Q':=fun e a w=>e = .normal ∧ ∃ c25 M26,Ok u m0 (M26 :: S) w ∧ Env 26 a [(0,vs s_0),(3,c25),(4,vi v14)] ∧ ORow 5 1 (pI .u8) m0 c25 o24 M26) ?_ ?_
 ·have hF:=hJ
  refine cg E rfl hF (fun c28 hF=>?_) fun c28 hF=>?_
  ·refine wp_skip ?_
   cases hF
   exact ⟨rfl,⟨c15,M16,ok,E.keep [0,3,4],h17⟩⟩
  refine qac<|mv E rfl fun a E=>qbu (R:=(pI .u8)) (xo:=[.const (Value.int .u8 92)]) (xs:=([92]:List (Int))) E ok qeG qdW rfl ⟨⟨_,rfl,rfl,(qdL (show InR .u8 (92) by decide))⟩,trivial⟩ rfl rfl rfl rfl fun c29 M30 a w E ok h31=>bd hF fun l32 e33 hF=>qcz (R:=(pI .u8)) E ok 1 (mI .u8) qeG Tryz.underlying66 rfl h17 (qby.ofRow h31 0 rfl ok) e33 ⟨_,qdW,rfl⟩ rfl rfl rfl rfl fun c34 M35 a w E ok h36=>av E rfl fun a E=>wpList_nil ?_
  cases hF
  exact ⟨rfl,⟨c34,M35,(ok.pk 2 [1] rfl (by decide)),E.keep [0,3,4],h36⟩⟩
 intro e a w hO
 obtain ⟨rfl,c37,M38,ok,E,h39⟩:=hO
 refine qab<|qac<|mz E rfl rfl fun a E=>mv E rfl fun a E=>bd hF fun c40 e41 hF=>lv E ok (qaF Tryz.underlying9 rfl rfl e41) fun a E=>qbu (R:=(pI .u8)) (xo:=[.tmp 21]) (xs:=([(c40.toNat:Int)]:List (Int))) E ok qeG qdW rfl ⟨⟨_,rfl,rfl,(qdL (InR.byte c40))⟩,trivial⟩ rfl rfl rfl rfl fun c42 M43 a w E ok h44=>bd hF fun l45 e46 hF=>qcz (R:=(pI .u8)) E ok 1 (mI .u8) qeG Tryz.underlying66 rfl h39 (qby.ofRow h44 0 rfl ok) e46 ⟨_,qdW,rfl⟩ rfl rfl rfl rfl fun c47 M48 a w E ok h49=>av E rfl fun a E=>wpList_nil<|qah<|qab<|qac<|mv E rfl fun a E=>lw E (qaG rfl rfl (InR.inc r18 (InR.len ls_0) c19)) fun a E=>av E rfl fun a E=>wpList_nil ?_
 cases hF
 exact qav ⟨c47,M48,(ok.pk 2 [1] rfl (by decide)),E.keep [0,3,4],h49,(InR.inc r18 (InR.len ls_0) c19)⟩
end Go.Proofs.YtllnjbnknjpbjaaGreatDoor
namespace Go.Proofs.YtllnjbnknjpbjaaGreatDoor
open Go.X
variable {u:World} {m0:Mem} {S:Segs} {w:World}
set_option maxHeartbeats 4000000
set_option maxRecDepth 100000
def qjN (u:World) (m0:Mem) (S:Segs) (r:(List UInt8)) (a:Act) (w:World):Prop :=
 Ok u m0 S w ∧ a.defers = [] ∧ RVs Tryz.prog a w [.t 4 (.string (bs r))] ∧ r.length ≤ LIMS
def qeC (N:Nat):Prop:=∀ {u:World} {m0:Mem} {S:Segs} {w:World} (vparts_0:Value) (parts_0:List (Part)) (hparts_0:(pL 6 qaM) m0 [vparts_0] parts_0) (gap_1:List UInt8) (lgap_1:gap_1.length ≤ LIMS) {r:(List UInt8)} (hF:qcR N parts_0 gap_1 = some r) (hG:Glob u) (ok:Ok u m0 S w),Calls Tryz.prog 47 [vparts_0,vs gap_1].toArray w fun e w'=>(e = .returned (.string (bs r)) ∧ Ok u m0 S w') ∧ r.length ≤ LIMS
theorem qiG (N:Nat) (ih_calqueref26_Text:qeC N):qeC (N + 1):=by
 intro u m0 S w vparts_0 parts_0 hparts_0 gap_1 lgap_1 r hF hG ok
 have hF0:qeT (qcR N) N parts_0 gap_1 = some r:=hF
 have hF:=hF0
 clear hF0
 unfold qeT at hF
 refine en (qjN u m0 S) r Tryz.func47 rfl rfl rfl (fun _ _ h=>rb h rfl) fun fin a E=>sg<|aw E rfl fun a E=>sg<|aw E rfl fun a E=>sg<|qbu (R:=pS) (xo:=[.const (vs ([110,117,109,98,101,114])),.const (vs ([117,110,105,116])),.const (vs ([100,97,116,101])),.const (vs ([108,105,115,116])),.const (vs ([112,108,117,114,97,108])),.const (vs ([111,114,100,105,110,97,108])),.const (vs ([115,101,108,101,99,116]))]) (xs:=([[110,117,109,98,101,114],[117,110,105,116],[100,97,116,101],[108,105,115,116],[112,108,117,114,97,108],[111,114,100,105,110,97,108],[115,101,108,101,99,116]]:List (List UInt8))) E ok qcg qec rfl ⟨⟨_,rfl,rfl,(qc7 (show ([110,117,109,98,101,114]:List UInt8).length ≤ LIMS by decide))⟩,⟨_,rfl,rfl,(qc7 (show ([117,110,105,116]:List UInt8).length ≤ LIMS by decide))⟩,⟨_,rfl,rfl,(qc7 (show ([100,97,116,101]:List UInt8).length ≤ LIMS by decide))⟩,⟨_,rfl,rfl,(qc7 (show ([108,105,115,116]:List UInt8).length ≤ LIMS by decide))⟩,⟨_,rfl,rfl,(qc7 (show ([112,108,117,114,97,108]:List UInt8).length ≤ LIMS by decide))⟩,⟨_,rfl,rfl,(qc7 (show ([111,114,100,105,110,97,108]:List UInt8).length ≤ LIMS by decide))⟩,⟨_,rfl,rfl,(qc7 (show ([115,101,108,101,99,116]:List UInt8).length ≤ LIMS by decide))⟩,trivial⟩ rfl rfl rfl rfl fun c1 M2 a w E ok h3=>av E rfl fun a E=>wn<|wp_seq<|sg<|aw E rfl fun a E=>wp_block<|bd hF fun o6 hL hF=>qba _ (fun (s:(List UInt8) × Int) a w=>Ok u m0 (M2 :: S) w ∧ Env 154 a [(0,vparts_0),(1,vs gap_1),(5,vs s.1),(6,c1),(7,vi s.2)] ∧ s.1.length ≤ LIMS ∧ InR .i64 s.2) (fun (b:((List UInt8))) e a w=>e = (.exit 0) ∧ Ok u m0 (M2 :: S) w ∧ Env 154 a [(5,vs b)] ∧ b.length ≤ LIMS) ?_ ?_ N _ a w hL ⟨ok,E.keep [0,1,5,6,7],(show ([]:List UInt8).length ≤ LIMS by decide),(ir 0)⟩
 rotate_left
 ·intro e a w _ hO
  obtain ⟨rfl,ok,E,l287⟩:=hO
  refine qbm<|qab<|sg<|mv E rfl fun a E=>aw E rfl fun a E=>wp_ret ?_
  exact fin hF ⟨ok.drop,E.d,rz E rfl,l287⟩
 rintro ⟨v9,v10⟩ a w r ⟨ok,E,l11,r12⟩ hF
 replace hF:qfq (qcR N) N parts_0 gap_1 v9 v10 = some r:=hF
 unfold qfq at hF
 refine wp_seq<|sg<|mz E rfl rfl fun a E=>lv E ok (qbc qbd hparts_0 rfl) fun a E=>lw E (qaQ rfl rfl) fun a E=>wn<|cg E rfl hF (fun c13 hF=>?_) fun c13 hF=>?_
 ·refine wp_exit<|qaW ?_
  cases hF
  exact so (⟨rfl,⟨ok,E.keep [5],l11⟩⟩)
 refine wp_skip<|qab<|wp_seq<|wp_block<|sg<|mz E rfl rfl fun a E=>?_
 obtain ⟨x14,e15,hF⟩:=bnd hF
 obtain ⟨b16,o17,es18,hl19,rr20,at21,yy22⟩:=ia E 17 18 qbd hparts_0 e15
 obtain ⟨c27,c29,rfl,r23,l24,l25,l26,h28,h30⟩:=(qaO.1 rr20)
 refine lv E ok (yy22 _ _) fun a E=>lv E ok (qar (cs:=[vi x14.Kind,vs x14.Text,vs x14.Name,vs x14.Style,c27,c29]) qdf rfl rfl (qae.ro at21)) fun a E=>qa1 E ok qbf rfl rfl fun b31 a w E ok=>qad E ok 0 rfl rfl rfl qdY rfl rfl ⟨rfl,rfl,rfl,rfl,(qbY h28),(qbY h30),trivial⟩ rfl rfl fun w ok=>wn<|wp_block<|sg<|fk E ok qaC qap rfl 0 rfl rfl fun a E=>lw E (qam rfl rfl) fun a E=>aw E rfl fun a E=>cf E rfl hF (fun c32 hF=>?_) fun c32 hF=>?_
 ·refine qac<|mv E rfl fun a E=>fk E ok qdH qal rfl 0 rfl rfl fun a E=>bd hF fun r33 e34 hF=>qaf E qrK rfl (qje N x14.Text l24 e34 hG ok) rfl rfl ?_
  rintro _ w ⟨⟨rfl,ok⟩,l35⟩
  refine ⟨_,rfl,fun a E=>?_⟩
  refine bd hF fun s36 e37 hF=>lw E (qaY rfl rfl e37) fun a E=>av E rfl fun a E=>wpList_nil<|qah<|qah<|qab<|qac<|mv E rfl fun a E=>lw E (qaG rfl rfl (InR.inc r12 (qao hparts_0) c13)) fun a E=>av E rfl fun a E=>wpList_nil ?_
  cases hF
  exact qav ⟨(ok.pk 2 [1] rfl (by decide)),E.keep [0,1,5,6,7],(qbR e37),(InR.inc r12 (qao hparts_0) c13)⟩
 refine sg<|fk E ok qaC qap rfl 0 rfl rfl fun a E=>lw E (qam rfl rfl) fun a E=>aw E rfl fun a E=>cf E rfl hF (fun c38 hF=>?_) fun c38 hF=>?_
 ·refine qac<|mv E rfl fun a E=>bd hF fun s39 e40 hF=>lw E (qaY rfl rfl e40) fun a E=>av E rfl fun a E=>wpList_nil<|qah<|qah<|qab<|qac<|mv E rfl fun a E=>lw E (qaG rfl rfl (InR.inc r12 (qao hparts_0) c13)) fun a E=>av E rfl fun a E=>wpList_nil ?_
  cases hF
  exact qav ⟨(ok.pk 2 [1] rfl (by decide)),E.keep [0,1,5,6,7],(qbR e40),(InR.inc r12 (qao hparts_0) c13)⟩
 refine sg<|fk E ok qaC qap rfl 0 rfl rfl fun a E=>lw E (qam rfl rfl) fun a E=>mv E rfl fun a E=>bw E 40 hF (fun c41 hF E=>?_) fun c41 hF E=>?_
 ·as_aux_lemma =>
   refine lsz E fun a E=>pf E rfl rfl fun a E=>aw E rfl fun a E=>c_if E rfl (fun h=>by cases h) (fun _=>?_)
   refine sg<|fk E ok qaC qap rfl 0 rfl rfl fun a E=>lw E (qam rfl rfl) fun a E=>aw E rfl fun a E=>cf E rfl hF (fun c168 hF=>?_) fun c168 hF=>?_
   ·refine qdS (by kernel_rfl) (by kernel_rfl) ok<|qv E (qan rfl) fun a E=>qv E (qai qaV rfl) fun a E=>qv E (qax qal rfl (qae.own 0 rfl rfl)) fun a E=>bd hF fun s169 e170 hF=>qv E (qaY rfl rfl e170) fun a E=>bd hF fun s171 e172 hF=>qv E (qaY rfl rfl e172) fun a E=>qv E (qai qcm rfl) fun a E=>qv E (qax qb0 rfl (qae.own 0 rfl rfl)) fun a E=>qv E (qan rfl) fun a E=>?_
    obtain ⟨r173,e174,hF⟩:=bnd hF
    obtain ⟨_,_,⟨_,_⟩,l175⟩:=Go.X.Calls.get (ih_calqueref26_Text _ x14.Parts h30 gap_1 lgap_1 e174 hG ok)
    refine qee E qkf rfl (fun w ok=>(ih_calqueref26_Text _ x14.Parts h30 gap_1 lgap_1 e174 hG ok).mono (fun _ _ h=>h.1)) rfl rfl fun a E=>bd hF fun s176 e177 hF=>qv E (qaY rfl rfl e177) fun a E=>bd hF fun s178 e179 hF=>qv E (qaY rfl rfl e179) fun a E=>qv E (qai qaV rfl) fun a E=>qv E (qax qal rfl (qae.own 0 rfl rfl)) fun a E=>bd hF fun s180 e181 hF=>qv E (qaY rfl rfl e181) fun a E=>bd hF fun s182 e183 hF=>qv E (qaY rfl rfl e183) fun a E=>bd hF fun s184 e185 hF=>qv E (qaY rfl rfl e185) fun a E=>qv E (qbv rfl) fun a E=>wpQuiet_nil ?_
    intro w ok
    refine qah<|qah<|qab<|qac<|mv E rfl fun a E=>lw E (qaG rfl rfl (InR.inc r12 (qao hparts_0) c13)) fun a E=>av E rfl fun a E=>wpList_nil ?_
    cases hF
    exact qav ⟨(ok.pk 2 [1] rfl (by decide)),E.keep [0,1,5,6,7],(qbR e185),(InR.inc r12 (qao hparts_0) c13)⟩
   refine sg<|fk E ok qaC qap rfl 0 rfl rfl fun a E=>lw E (qam rfl rfl) fun a E=>aw E rfl fun a E=>cf E rfl hF (fun c186 hF=>?_) fun c186 hF=>?_
   ·refine qac<|mv E rfl fun a E=>fk E ok qaV qal rfl 0 rfl rfl fun a E=>bd hF fun s187 e188 hF=>lw E (qaY rfl rfl e188) fun a E=>bd hF fun s189 e190 hF=>lw E (qaY rfl rfl e190) fun a E=>bd hF fun s191 e192 hF=>lw E (qaY rfl rfl e192) fun a E=>av E rfl fun a E=>wpList_nil<|qah<|qah<|qab<|qac<|mv E rfl fun a E=>?_
    refine lw E (qaG rfl rfl (InR.inc r12 (qao hparts_0) c13)) fun a E=>av E rfl fun a E=>wpList_nil ?_
    cases hF
    exact qav ⟨(ok.pk 2 [1] rfl (by decide)),E.keep [0,1,5,6,7],(qbR e192),(InR.inc r12 (qao hparts_0) c13)⟩
   refine sg<|fk E ok qaC qap rfl 0 rfl rfl fun a E=>lw E (qbW rfl rfl) fun a E=>mv E rfl fun a E=>bw E 86 hF (fun c193 hF E=>?_) fun c193 hF E=>?_
   ·refine lsq E fun a E=>ls E fun a E=>pf E rfl rfl fun a E=>aw E rfl fun a E=>c_if E rfl (fun h=>by cases h) (fun _=>?_)
    refine wp_skip<|qah<|qah<|qab<|qac<|mv E rfl fun a E=>lw E (qaG rfl rfl (InR.inc r12 (qao hparts_0) c13)) fun a E=>av E rfl fun a E=>wpList_nil ?_
    cases hF
    exact qav ⟨(ok.pk 2 [1] rfl (by decide)),E.keep [0,1,5,6,7],l11,(InR.inc r12 (qao hparts_0) c13)⟩
   refine fk E ok qaC qap rfl 0 rfl rfl fun a E=>lw E (qc6 rfl rfl) fun a E=>pt E rfl rfl fun a E=>aw E rfl fun a E=>cg E rfl hF (fun c194 hF=>?_) fun c194 hF=>?_
   ·refine wp_skip<|qah<|qah<|qab<|qac<|mv E rfl fun a E=>lw E (qaG rfl rfl (InR.inc r12 (qao hparts_0) c13)) fun a E=>av E rfl fun a E=>wpList_nil ?_
    cases hF
    exact qav ⟨(ok.pk 2 [1] rfl (by decide)),E.keep [0,1,5,6,7],l11,(InR.inc r12 (qao hparts_0) c13)⟩
   refine wp_seq<|qdS (by kernel_rfl) (by kernel_rfl) ok<|qv E (qan rfl) fun a E=>qv E (qai qaV rfl) fun a E=>qv E (qax qal rfl (qae.own 0 rfl rfl)) fun a E=>bd hF fun s195 e196 hF=>qv E (qaY rfl rfl e196) fun a E=>bd hF fun s197 e198 hF=>qv E (qaY rfl rfl e198) fun a E=>qv E (qan rfl) fun a E=>bd hF fun s199 e200 hF=>qv E (qaY rfl rfl e200) fun a E=>qv E (qan rfl) fun a E=>qv E (qai qaC rfl) fun a E=>qv E (qax qap rfl (qae.own 0 rfl rfl)) fun a E=>qv E (qef rfl rfl) fun a E=>?_
   obtain ⟨x201,e202,hF⟩:=bnd hF
   obtain ⟨b203,o204,hp205,yy206⟩:=qgc qcg h3 e202 (P:=Tryz.prog) (X:=.tmp 98) (I:=.tmp 101) (kd:=.i64) (qco E rfl) (qco E rfl)
   refine qv E (yy206 _ _) fun a E=>?_
   obtain ⟨es207,hl208,rr209,hh210⟩:=qhN h3 e202 hp205 (by decide)
   obtain ⟨rfl,l211⟩:=rr209
   refine qv E (qax qal rfl (hh210 _ _ _ 1 rfl)) fun a E=>bd hF fun s212 e213 hF=>qv E (qaY rfl rfl e213) fun a E=>bd hF fun s214 e215 hF=>qv E (qaY rfl rfl e215) fun a E=>qv E (qbv rfl) fun a E=>wpQuiet_nil ?_
   intro w ok
   refine qab<|wp_seq<|sg<|fk E ok qa8 qal rfl 0 rfl rfl fun a E=>lw E (qc1 rfl rfl) fun a E=>wn<|bd hF fun o216 hJ hF=>qaI (Q':=fun e a w=>e = .normal ∧ Ok u m0 ([(b31,oc 82 [vi x14.Kind,vs x14.Text,vs x14.Name,vs x14.Style,c27,c29])] :: M2 :: S) w ∧ Env 154 a [(0,vparts_0),(1,vs gap_1),(5,vs o216),(6,c1),(7,vi v10),(8,vp b31)] ∧ o216.length ≤ LIMS) ?_ ?_
   ·have hF:=hJ
    refine cg E rfl hF (fun c218 hF=>?_) fun c218 hF=>?_
    ·refine wp_skip ?_
     cases hF
     exact ⟨rfl,⟨ok,E.keep [0,1,5,6,7,8],(qbR e215)⟩⟩
    refine qac<|mz E rfl rfl fun a E=>bd hF fun s219 e220 hF=>lw E (qaY rfl rfl e220) fun a E=>fk E ok qa8 qal rfl 0 rfl rfl fun a E=>bd hF fun s221 e222 hF=>lw E (qaY rfl rfl e222) fun a E=>bd hF fun s223 e224 hF=>lw E (qaY rfl rfl e224) fun a E=>av E rfl fun a E=>wpList_nil ?_
    cases hF
    exact ⟨rfl,⟨ok,E.keep [0,1,5,6,7,8],(qbR e224)⟩⟩
   intro e a w hO
   obtain ⟨rfl,ok,E,l225⟩:=hO
   refine qab<|wp_seq<|sg<|fk E ok qaC qap rfl 0 rfl rfl fun a E=>bd hF fun r226 e227 hF=>lc E qn9 rfl (qex N x14.Kind r23 e227 hG ok) fun w ok a E=>wn<|bd hF fun o228 hJ hF=>qaI (Q':=fun e a w=>e = .normal ∧ Ok u m0 ([(b31,oc 82 [vi x14.Kind,vs x14.Text,vs x14.Name,vs x14.Style,c27,c29])] :: M2 :: S) w ∧ Env 154 a [(0,vparts_0),(1,vs gap_1),(5,vs o228),(6,c1),(7,vi v10),(8,vp b31)] ∧ o228.length ≤ LIMS) ?_ ?_
   ·have hF:=hJ
    refine cg E rfl hF (fun c230 hF=>?_) fun c230 hF=>?_
    ·refine wp_skip ?_
     cases hF
     exact ⟨rfl,⟨ok,E.keep [0,1,5,6,7,8],l225⟩⟩
    refine qac<|mv E rfl fun a E=>bd hF fun s231 e232 hF=>lw E (qaY rfl rfl e232) fun a E=>av E rfl fun a E=>wpList_nil ?_
    cases hF
    exact ⟨rfl,⟨ok,E.keep [0,1,5,6,7,8],(qbR e232)⟩⟩
   intro e a w hO
   obtain ⟨rfl,ok,E,l233⟩:=hO
   refine qab<|wp_seq<|sg<|aw E rfl fun a E=>wp_block<|bd hF fun o236 hL hF=>qba _ (fun (s:(List UInt8) × Int) a w=>Ok u m0 ([(b31,oc 82 [vi x14.Kind,vs x14.Text,vs x14.Name,vs x14.Style,c27,c29])] :: M2 :: S) w ∧ Env 154 a [(0,vparts_0),(1,vs gap_1),(5,vs s.1),(6,c1),(7,vi v10),(8,vp b31),(9,vi s.2)] ∧ s.1.length ≤ LIMS ∧ InR .i64 s.2) (fun (b:((List UInt8))) e a w=>e = (.exit 3) ∧ Ok u m0 ([(b31,oc 82 [vi x14.Kind,vs x14.Text,vs x14.Name,vs x14.Style,c27,c29])] :: M2 :: S) w ∧ Env 154 a [(0,vparts_0),(1,vs gap_1),(5,vs b),(6,c1),(7,vi v10)] ∧ b.length ≤ LIMS) ?_ ?_ N _ a w hL ⟨ok,E.keep [0,1,5,6,7,8,9],l233,(ir 0)⟩
   rotate_left
   ·intro e a w _ hO
    obtain ⟨rfl,ok,E,l283⟩:=hO
    refine qbm<|qab<|qac<|mv E rfl fun a E=>bd hF fun s284 e285 hF=>lw E (qaY rfl rfl e285) fun a E=>av E rfl fun a E=>wpList_nil<|qah<|qah<|qab<|qac<|mv E rfl fun a E=>lw E (qaG rfl rfl (InR.inc r12 (qao hparts_0) c13)) fun a E=>av E rfl fun a E=>wpList_nil ?_
    cases hF
    exact qav ⟨(ok.pk 2 [1] rfl (by decide)),E.keep [0,1,5,6,7],(qbR e285),(InR.inc r12 (qao hparts_0) c13)⟩
   rintro ⟨v239,v240⟩ a w r ⟨ok,E,l241,r242⟩ hF
   replace hF:qfm (qcR N) N gap_1 x14 v239 v240 = some r:=hF
   unfold qfm at hF
   refine wp_seq<|sg<|mv E rfl fun a E=>fk E ok qbj qbK rfl 0 rfl rfl fun a E=>lv E ok (qbc qbB h28 rfl) fun a E=>lw E (qaQ rfl rfl) fun a E=>wn<|cg E rfl hF (fun c243 hF=>?_) fun c243 hF=>?_
   ·refine wp_exit<|qaW ?_
    cases hF
    exact so (⟨rfl,⟨ok,E.keep [0,1,5,6,7],l241⟩⟩)
   refine wp_skip<|qab<|wp_seq<|wp_block<|qdS (by kernel_rfl) (by kernel_rfl) ok<|qv E (qan rfl) fun a E=>qv E (qan rfl) fun a E=>qv E (qai qbj rfl) fun a E=>qv E (qax qbK rfl (qae.own 0 rfl rfl)) fun a E=>qv E (qan rfl) fun a E=>?_
   obtain ⟨x244,e245,hF⟩:=bnd hF
   obtain ⟨b246,o247,es248,hl249,rr250,at251,yy252⟩:=ia E 131 132 qbB h28 e245
   obtain ⟨c254,rfl,l253,h255⟩:=rr250
   refine qv E (yy252 _ _) fun a E=>qv E (qai qeX rfl) fun a E=>qv E (qax qal rfl (qae.ro (At.sub 0 1 at251))) fun a E=>bd hF fun s256 e257 hF=>qv E (qaY rfl rfl e257) fun a E=>qv E (qan rfl) fun a E=>bd hF fun s258 e259 hF=>qv E (qaY rfl rfl e259) fun a E=>bd hF fun s260 e261 hF=>qv E (qaY rfl rfl e261) fun a E=>qv E (qai qbj rfl) fun a E=>qv E (qax qbK rfl (qae.own 0 rfl rfl)) fun a E=>qv E (qan rfl) fun a E=>?_
   obtain ⟨x262,e263,hF⟩:=bnd hF
   obtain ⟨b264,o265,es266,hl267,rr268,at269,yy270⟩:=ia E 141 142 qbB h28 e263
   obtain ⟨c272,rfl,l271,h273⟩:=rr268
   refine qv E (yy270 _ _) fun a E=>qv E (qai qeW rfl) fun a E=>qv E (qax qb0 rfl (qae.ro (At.sub 1 1 at269))) fun a E=>qv E (qan rfl) fun a E=>?_
   obtain ⟨r274,e275,hF⟩:=bnd hF
   obtain ⟨_,_,⟨_,_⟩,l276⟩:=Go.X.Calls.get (ih_calqueref26_Text _ x262.Parts h273 gap_1 lgap_1 e275 hG ok)
   refine qee E qkf rfl (fun w ok=>(ih_calqueref26_Text _ x262.Parts h273 gap_1 lgap_1 e275 hG ok).mono (fun _ _ h=>h.1)) rfl rfl fun a E=>bd hF fun s277 e278 hF=>qv E (qaY rfl rfl e278) fun a E=>bd hF fun s279 e280 hF=>qv E (qaY rfl rfl e280) fun a E=>bd hF fun s281 e282 hF=>qv E (qaY rfl rfl e282) fun a E=>qv E (qbv rfl) fun a E=>wpQuiet_nil ?_
   intro w ok
   refine qah<|qab<|qac<|mv E rfl fun a E=>lw E (qaG rfl rfl (InR.inc r242 (qao h28) c243)) fun a E=>av E rfl fun a E=>wpList_nil ?_
   cases hF
   exact qav ⟨ok,E.keep [0,1,5,6,7,8,9],(qbR e282),(InR.inc r242 (qao h28) c243)⟩
 refine fk E ok qcm qb0 rfl 0 rfl rfl fun a E=>lv E ok (qbc qbd h30 rfl) fun a E=>lw E (qam rfl rfl) fun a E=>pt E rfl rfl fun a E=>aw E rfl fun a E=>cf E rfl hF (fun c42 hF=>?_) fun c42 hF=>?_
 ·refine qac<|mv E rfl fun a E=>fk E ok qaV qal rfl 0 rfl rfl fun a E=>bd hF fun s43 e44 hF=>lw E (qaY rfl rfl e44) fun a E=>bd hF fun s45 e46 hF=>lw E (qaY rfl rfl e46) fun a E=>bd hF fun s47 e48 hF=>lw E (qaY rfl rfl e48) fun a E=>av E rfl fun a E=>wpList_nil<|qah<|qah<|qab<|qac<|mv E rfl fun a E=>?_
  refine lw E (qaG rfl rfl (InR.inc r12 (qao hparts_0) c13)) fun a E=>av E rfl fun a E=>wpList_nil ?_
  cases hF
  exact qav ⟨(ok.pk 2 [1] rfl (by decide)),E.keep [0,1,5,6,7],(qbR e48),(InR.inc r12 (qao hparts_0) c13)⟩
 refine sg<|fk E ok qaC qap rfl 0 rfl rfl fun a E=>lw E (qam rfl rfl) fun a E=>aw E rfl fun a E=>cf E rfl hF (fun c49 hF=>?_) fun c49 hF=>?_
 ·refine qdS (by kernel_rfl) (by kernel_rfl) ok<|qv E (qan rfl) fun a E=>qv E (qai qaV rfl) fun a E=>qv E (qax qal rfl (qae.own 0 rfl rfl)) fun a E=>bd hF fun s50 e51 hF=>qv E (qaY rfl rfl e51) fun a E=>bd hF fun s52 e53 hF=>qv E (qaY rfl rfl e53) fun a E=>qv E (qai qcm rfl) fun a E=>qv E (qax qb0 rfl (qae.own 0 rfl rfl)) fun a E=>qv E (qan rfl) fun a E=>?_
  obtain ⟨r54,e55,hF⟩:=bnd hF
  obtain ⟨_,_,⟨_,_⟩,l56⟩:=Go.X.Calls.get (ih_calqueref26_Text _ x14.Parts h30 gap_1 lgap_1 e55 hG ok)
  refine qee E qkf rfl (fun w ok=>(ih_calqueref26_Text _ x14.Parts h30 gap_1 lgap_1 e55 hG ok).mono (fun _ _ h=>h.1)) rfl rfl fun a E=>bd hF fun s57 e58 hF=>qv E (qaY rfl rfl e58) fun a E=>bd hF fun s59 e60 hF=>qv E (qaY rfl rfl e60) fun a E=>qv E (qai qaV rfl) fun a E=>qv E (qax qal rfl (qae.own 0 rfl rfl)) fun a E=>bd hF fun s61 e62 hF=>qv E (qaY rfl rfl e62) fun a E=>bd hF fun s63 e64 hF=>qv E (qaY rfl rfl e64) fun a E=>bd hF fun s65 e66 hF=>qv E (qaY rfl rfl e66) fun a E=>qv E (qbv rfl) fun a E=>wpQuiet_nil ?_
  intro w ok
  refine qah<|qah<|qab<|qac<|mv E rfl fun a E=>lw E (qaG rfl rfl (InR.inc r12 (qao hparts_0) c13)) fun a E=>av E rfl fun a E=>wpList_nil ?_
  cases hF
  exact qav ⟨(ok.pk 2 [1] rfl (by decide)),E.keep [0,1,5,6,7],(qbR e66),(InR.inc r12 (qao hparts_0) c13)⟩
 refine sg<|fk E ok qaC qap rfl 0 rfl rfl fun a E=>lw E (qam rfl rfl) fun a E=>aw E rfl fun a E=>cf E rfl hF (fun c67 hF=>?_) fun c67 hF=>?_
 ·refine qac<|mv E rfl fun a E=>fk E ok qaV qal rfl 0 rfl rfl fun a E=>bd hF fun s68 e69 hF=>lw E (qaY rfl rfl e69) fun a E=>bd hF fun s70 e71 hF=>lw E (qaY rfl rfl e71) fun a E=>bd hF fun s72 e73 hF=>lw E (qaY rfl rfl e73) fun a E=>av E rfl fun a E=>wpList_nil<|qah<|qah<|qab<|qac<|mv E rfl fun a E=>?_
  refine lw E (qaG rfl rfl (InR.inc r12 (qao hparts_0) c13)) fun a E=>av E rfl fun a E=>wpList_nil ?_
  cases hF
  exact qav ⟨(ok.pk 2 [1] rfl (by decide)),E.keep [0,1,5,6,7],(qbR e73),(InR.inc r12 (qao hparts_0) c13)⟩
 refine sg<|fk E ok qaC qap rfl 0 rfl rfl fun a E=>lw E (qbW rfl rfl) fun a E=>mv E rfl fun a E=>bw E 86 hF (fun c74 hF E=>?_) fun c74 hF E=>?_
 ·refine lsq E fun a E=>ls E fun a E=>pf E rfl rfl fun a E=>aw E rfl fun a E=>c_if E rfl (fun h=>by cases h) (fun _=>?_)
  refine wp_skip<|qah<|qah<|qab<|qac<|mv E rfl fun a E=>lw E (qaG rfl rfl (InR.inc r12 (qao hparts_0) c13)) fun a E=>av E rfl fun a E=>wpList_nil ?_
  cases hF
  exact qav ⟨(ok.pk 2 [1] rfl (by decide)),E.keep [0,1,5,6,7],l11,(InR.inc r12 (qao hparts_0) c13)⟩
 refine fk E ok qaC qap rfl 0 rfl rfl fun a E=>lw E (qc6 rfl rfl) fun a E=>pt E rfl rfl fun a E=>aw E rfl fun a E=>cg E rfl hF (fun c75 hF=>?_) fun c75 hF=>?_
 ·refine wp_skip<|qah<|qah<|qab<|qac<|mv E rfl fun a E=>lw E (qaG rfl rfl (InR.inc r12 (qao hparts_0) c13)) fun a E=>av E rfl fun a E=>wpList_nil ?_
  cases hF
  exact qav ⟨(ok.pk 2 [1] rfl (by decide)),E.keep [0,1,5,6,7],l11,(InR.inc r12 (qao hparts_0) c13)⟩
 refine wp_seq<|qdS (by kernel_rfl) (by kernel_rfl) ok<|qv E (qan rfl) fun a E=>qv E (qai qaV rfl) fun a E=>qv E (qax qal rfl (qae.own 0 rfl rfl)) fun a E=>bd hF fun s76 e77 hF=>qv E (qaY rfl rfl e77) fun a E=>bd hF fun s78 e79 hF=>qv E (qaY rfl rfl e79) fun a E=>qv E (qan rfl) fun a E=>bd hF fun s80 e81 hF=>qv E (qaY rfl rfl e81) fun a E=>qv E (qan rfl) fun a E=>qv E (qai qaC rfl) fun a E=>qv E (qax qap rfl (qae.own 0 rfl rfl)) fun a E=>qv E (qef rfl rfl) fun a E=>?_
 obtain ⟨x82,e83,hF⟩:=bnd hF
 obtain ⟨b84,o85,hp86,yy87⟩:=qgc qcg h3 e83 (P:=Tryz.prog) (X:=.tmp 98) (I:=.tmp 101) (kd:=.i64) (qco E rfl) (qco E rfl)
 refine qv E (yy87 _ _) fun a E=>?_
 obtain ⟨es88,hl89,rr90,hh91⟩:=qhN h3 e83 hp86 (by decide)
 obtain ⟨rfl,l92⟩:=rr90
 refine qv E (qax qal rfl (hh91 _ _ _ 1 rfl)) fun a E=>bd hF fun s93 e94 hF=>qv E (qaY rfl rfl e94) fun a E=>bd hF fun s95 e96 hF=>qv E (qaY rfl rfl e96) fun a E=>qv E (qbv rfl) fun a E=>wpQuiet_nil ?_
 intro w ok
 refine qab<|wp_seq<|sg<|fk E ok qa8 qal rfl 0 rfl rfl fun a E=>lw E (qc1 rfl rfl) fun a E=>wn<|bd hF fun o97 hJ hF=>qaI (Q':=fun e a w=>e = .normal ∧ Ok u m0 ([(b31,oc 82 [vi x14.Kind,vs x14.Text,vs x14.Name,vs x14.Style,c27,c29])] :: M2 :: S) w ∧ Env 154 a [(0,vparts_0),(1,vs gap_1),(5,vs o97),(6,c1),(7,vi v10),(8,vp b31)] ∧ o97.length ≤ LIMS) ?_ ?_
 ·have hF:=hJ
  refine cg E rfl hF (fun c99 hF=>?_) fun c99 hF=>?_
  ·refine wp_skip ?_
   cases hF
   exact ⟨rfl,⟨ok,E.keep [0,1,5,6,7,8],(qbR e96)⟩⟩
  refine qac<|mz E rfl rfl fun a E=>bd hF fun s100 e101 hF=>lw E (qaY rfl rfl e101) fun a E=>fk E ok qa8 qal rfl 0 rfl rfl fun a E=>bd hF fun s102 e103 hF=>lw E (qaY rfl rfl e103) fun a E=>bd hF fun s104 e105 hF=>lw E (qaY rfl rfl e105) fun a E=>av E rfl fun a E=>wpList_nil ?_
  cases hF
  exact ⟨rfl,⟨ok,E.keep [0,1,5,6,7,8],(qbR e105)⟩⟩
 intro e a w hO
 obtain ⟨rfl,ok,E,l106⟩:=hO
 refine qab<|wp_seq<|sg<|fk E ok qaC qap rfl 0 rfl rfl fun a E=>bd hF fun r107 e108 hF=>lc E qn9 rfl (qex N x14.Kind r23 e108 hG ok) fun w ok a E=>wn<|bd hF fun o109 hJ hF=>qaI (Q':=fun e a w=>e = .normal ∧ Ok u m0 ([(b31,oc 82 [vi x14.Kind,vs x14.Text,vs x14.Name,vs x14.Style,c27,c29])] :: M2 :: S) w ∧ Env 154 a [(0,vparts_0),(1,vs gap_1),(5,vs o109),(6,c1),(7,vi v10),(8,vp b31)] ∧ o109.length ≤ LIMS) ?_ ?_
 ·have hF:=hJ
  refine cg E rfl hF (fun c111 hF=>?_) fun c111 hF=>?_
  ·refine wp_skip ?_
   cases hF
   exact ⟨rfl,⟨ok,E.keep [0,1,5,6,7,8],l106⟩⟩
  refine qac<|mv E rfl fun a E=>bd hF fun s112 e113 hF=>lw E (qaY rfl rfl e113) fun a E=>av E rfl fun a E=>wpList_nil ?_
  cases hF
  exact ⟨rfl,⟨ok,E.keep [0,1,5,6,7,8],(qbR e113)⟩⟩
 intro e a w hO
 obtain ⟨rfl,ok,E,l114⟩:=hO
 refine qab<|wp_seq<|sg<|aw E rfl fun a E=>wp_block<|bd hF fun o117 hL hF=>qba _ (fun (s:(List UInt8) × Int) a w=>Ok u m0 ([(b31,oc 82 [vi x14.Kind,vs x14.Text,vs x14.Name,vs x14.Style,c27,c29])] :: M2 :: S) w ∧ Env 154 a [(0,vparts_0),(1,vs gap_1),(5,vs s.1),(6,c1),(7,vi v10),(8,vp b31),(9,vi s.2)] ∧ s.1.length ≤ LIMS ∧ InR .i64 s.2) (fun (b:((List UInt8))) e a w=>e = (.exit 3) ∧ Ok u m0 ([(b31,oc 82 [vi x14.Kind,vs x14.Text,vs x14.Name,vs x14.Style,c27,c29])] :: M2 :: S) w ∧ Env 154 a [(0,vparts_0),(1,vs gap_1),(5,vs b),(6,c1),(7,vi v10)] ∧ b.length ≤ LIMS) ?_ ?_ N _ a w hL ⟨ok,E.keep [0,1,5,6,7,8,9],l114,(ir 0)⟩
 rotate_left
 ·intro e a w _ hO
  obtain ⟨rfl,ok,E,l164⟩:=hO
  refine qbm<|qab<|qac<|mv E rfl fun a E=>bd hF fun s165 e166 hF=>lw E (qaY rfl rfl e166) fun a E=>av E rfl fun a E=>wpList_nil<|qah<|qah<|qab<|qac<|mv E rfl fun a E=>lw E (qaG rfl rfl (InR.inc r12 (qao hparts_0) c13)) fun a E=>av E rfl fun a E=>wpList_nil ?_
  cases hF
  exact qav ⟨(ok.pk 2 [1] rfl (by decide)),E.keep [0,1,5,6,7],(qbR e166),(InR.inc r12 (qao hparts_0) c13)⟩
 rintro ⟨v120,v121⟩ a w r ⟨ok,E,l122,r123⟩ hF
 replace hF:qfk (qcR N) N gap_1 x14 v120 v121 = some r:=hF
 unfold qfk at hF
 refine wp_seq<|sg<|mv E rfl fun a E=>fk E ok qbj qbK rfl 0 rfl rfl fun a E=>lv E ok (qbc qbB h28 rfl) fun a E=>lw E (qaQ rfl rfl) fun a E=>wn<|cg E rfl hF (fun c124 hF=>?_) fun c124 hF=>?_
 ·refine wp_exit<|qaW ?_
  cases hF
  exact so (⟨rfl,⟨ok,E.keep [0,1,5,6,7],l122⟩⟩)
 refine wp_skip<|qab<|wp_seq<|wp_block<|qdS (by kernel_rfl) (by kernel_rfl) ok<|qv E (qan rfl) fun a E=>qv E (qan rfl) fun a E=>qv E (qai qbj rfl) fun a E=>qv E (qax qbK rfl (qae.own 0 rfl rfl)) fun a E=>qv E (qan rfl) fun a E=>?_
 obtain ⟨x125,e126,hF⟩:=bnd hF
 obtain ⟨b127,o128,es129,hl130,rr131,at132,yy133⟩:=ia E 131 132 qbB h28 e126
 obtain ⟨c135,rfl,l134,h136⟩:=rr131
 refine qv E (yy133 _ _) fun a E=>qv E (qai qeX rfl) fun a E=>qv E (qax qal rfl (qae.ro (At.sub 0 1 at132))) fun a E=>bd hF fun s137 e138 hF=>qv E (qaY rfl rfl e138) fun a E=>qv E (qan rfl) fun a E=>bd hF fun s139 e140 hF=>qv E (qaY rfl rfl e140) fun a E=>bd hF fun s141 e142 hF=>qv E (qaY rfl rfl e142) fun a E=>qv E (qai qbj rfl) fun a E=>qv E (qax qbK rfl (qae.own 0 rfl rfl)) fun a E=>qv E (qan rfl) fun a E=>?_
 obtain ⟨x143,e144,hF⟩:=bnd hF
 obtain ⟨b145,o146,es147,hl148,rr149,at150,yy151⟩:=ia E 141 142 qbB h28 e144
 obtain ⟨c153,rfl,l152,h154⟩:=rr149
 refine qv E (yy151 _ _) fun a E=>qv E (qai qeW rfl) fun a E=>qv E (qax qb0 rfl (qae.ro (At.sub 1 1 at150))) fun a E=>qv E (qan rfl) fun a E=>?_
 obtain ⟨r155,e156,hF⟩:=bnd hF
 obtain ⟨_,_,⟨_,_⟩,l157⟩:=Go.X.Calls.get (ih_calqueref26_Text _ x143.Parts h154 gap_1 lgap_1 e156 hG ok)
 refine qee E qkf rfl (fun w ok=>(ih_calqueref26_Text _ x143.Parts h154 gap_1 lgap_1 e156 hG ok).mono (fun _ _ h=>h.1)) rfl rfl fun a E=>bd hF fun s158 e159 hF=>qv E (qaY rfl rfl e159) fun a E=>bd hF fun s160 e161 hF=>qv E (qaY rfl rfl e161) fun a E=>bd hF fun s162 e163 hF=>qv E (qaY rfl rfl e163) fun a E=>qv E (qbv rfl) fun a E=>wpQuiet_nil ?_
 intro w ok
 refine qah<|qab<|qac<|mv E rfl fun a E=>lw E (qaG rfl rfl (InR.inc r123 (qao h28) c124)) fun a E=>av E rfl fun a E=>wpList_nil ?_
 cases hF
 exact qav ⟨ok,E.keep [0,1,5,6,7,8,9],(qbR e163),(InR.inc r123 (qao h28) c124)⟩
theorem qiV:qeC 0:=by
 intro u m0 S w vparts_0 parts_0 hparts_0 gap_1 lgap_1 r hF hG ok
 replace hF:none = some r:=hF
 cases hF
theorem qhV (N:Nat):qeC N:=by
 induction N with
 | zero=>exact qiV
 | succ N h=>exact qiG N h
theorem qhk {u:World} {m0:Mem} {S:Segs} {w:World} (N:Nat) (vparts_0:Value) (parts_0:List (Part)) (hparts_0:(pL 6 qaM) m0 [vparts_0] parts_0) (gap_1:List UInt8) (lgap_1:gap_1.length ≤ LIMS) {r:(List UInt8)} (hF:qcR N parts_0 gap_1 = some r) (hG:Glob u) (ok:Ok u m0 S w) :
 Calls Tryz.prog 47 [vparts_0,vs gap_1].toArray w fun e w'=>(e = .returned (.string (bs r)) ∧ Ok u m0 S w') ∧ r.length ≤ LIMS:=(qhV N) vparts_0 parts_0 hparts_0 gap_1 lgap_1 hF hG ok
def qfA (u:World) (m0:Mem) (S:Segs) (r:Bool) (a:Act) (w:World):Prop :=
 Ok u m0 S w ∧ a.defers = [] ∧ RVs Tryz.prog a w [.t 4 (.bool r)]
def qet (N:Nat):Prop:=∀ {u:World} {m0:Mem} {S:Segs} {w:World} (va_0:Value) (a_0:List (Part)) (ha_0:(pL 6 qaM) m0 [va_0] a_0) (vb_1:Value) (b_1:List (Part)) (hb_1:(pL 6 qaM) m0 [vb_1] b_1) {r:Bool} (hF:qbH N a_0 b_1 = some r) (hG:Glob u) (ok:Ok u m0 S w),Calls Tryz.prog 22 [va_0,vb_1].toArray w fun e w'=>(e = .returned (.bool r) ∧ Ok u m0 S w')
theorem qiE (N:Nat) (ih_calqueref26_Equal:qet N):qet (N + 1):=by
 intro u m0 S w va_0 a_0 ha_0 vb_1 b_1 hb_1 r hF hG ok
 have le_m0:=Mem.le.refl m0
 have hF0:qde (qbH N) N a_0 b_1 = some r:=hF
 have hF:=hF0
 clear hF0
 unfold qde at hF
 refine en (qfA u m0 S) r Tryz.func22 rfl rfl rfl (fun _ _ h=>ra h rfl) fun fin a E=>sg<|aw E rfl fun a E=>wp_seq<|sg<|mv E rfl fun a E=>lv E ok (qbc qbd ha_0 rfl) fun a E=>mv E rfl fun a E=>lv E ok (qbc qbd hb_1 rfl) fun a E=>lw E (qbr rfl rfl) fun a E=>wn<|cf E rfl hF (fun c1 hF=>?_) fun c1 hF=>?_
 ·refine sg<|aw E rfl fun a E=>wp_ret<|qaj ?_
  exact fin hF ⟨ok,E.d,rz E rfl⟩
 refine wp_skip<|qab<|wp_seq<|sg<|aw E rfl fun a E=>wp_block<|bd hF fun o3 hL hF=>qba _ (fun (s:Int) a w=>Ok u m0 (S) w ∧ Env 107 a [(0,va_0),(1,vb_1),(5,vi s)] ∧ InR .i64 s) (fun (b:(Unit ⊕ Bool)) e a w=>(Sum.elim (fun b184=>e = (.exit 0) ∧ Ok u m0 (S) w ∧ Env 107 a []) (fun b185=>e = .ret ∧ qfA u m0 S b185 a w)) b) ?_ ?_ N _ a w hL ⟨ok,E.keep [0,1,5],(ir 0)⟩
 rotate_left
 ·intro e a w _ hO
  rcases o3 with o3 | o3
  rotate_left
  ·obtain ⟨rfl,hret⟩:=hO
   refine qaE<|qaj ?_
   exact fin hF hret
  have hF:=qce hF
  obtain ⟨rfl,ok,E⟩:=hO
  refine qbm<|qab<|sg<|aw E rfl fun a E=>wp_ret ?_
  exact fin hF ⟨ok,E.d,rz E rfl⟩
 rintro v5 a w r ⟨ok,E,r6⟩ hF
 replace hF:qcT (qbH N) N a_0 b_1 v5 = some r:=hF
 unfold qcT at hF
 refine wp_seq<|sg<|mz E rfl rfl fun a E=>lv E ok (qbc qbd ha_0 rfl) fun a E=>lw E (qaQ rfl rfl) fun a E=>wn<|cg E rfl hF (fun c7 hF=>?_) fun c7 hF=>?_
 ·refine wp_exit<|qaW ?_
  cases hF
  exact so (sl ⟨rfl,⟨ok,E.keep []⟩⟩)
 refine wp_skip<|qab<|wp_seq<|wp_block<|wp_seq<|bd hF fun o8 hJ hF=>qaI (Q':=fun e a w=>e = .normal ∧ ∃ b17 c13 c15 b26 c22 c24,Ok u m0 ([(b26,oc 82 [vi o8.2.Kind,vs o8.2.Text,vs o8.2.Name,vs o8.2.Style,c22,c24])] :: [(b17,oc 82 [vi o8.1.Kind,vs o8.1.Text,vs o8.1.Name,vs o8.1.Style,c13,c15])] :: S) w ∧ Env 107 a [(0,va_0),(1,vb_1),(5,vi v5),(6,vp b17),(7,vp b26)] ∧ InR .i64 o8.1.Kind ∧ o8.1.Text.length ≤ LIMS ∧ o8.1.Name.length ≤ LIMS ∧ o8.1.Style.length ≤ LIMS ∧ (pL 2 qcB) m0 [c13] o8.1.Cases ∧ (pL 6 qaM) m0 [c15] o8.1.Parts ∧ InR .i64 o8.2.Kind ∧ o8.2.Text.length ≤ LIMS ∧ o8.2.Name.length ≤ LIMS ∧ o8.2.Style.length ≤ LIMS ∧ (pL 2 qcB) m0 [c22] o8.2.Cases ∧ (pL 6 qaM) m0 [c24] o8.2.Parts) ?_ ?_
 ·have hF:=hJ
  obtain ⟨x27,e28,hF⟩:=bnd hF
  obtain ⟨x44,e45,hF⟩:=bnd hF
  obtain rfl:=sj hF
  refine qbx [] (Cls u m0 ([])) (Cls u m0 ([])) (by kernel_rfl) ?_
  intro w hw
  replace ok:=qbP ok hw
  clear hw
  refine qau (cl1 (cq le_m0 ok [] rfl) (cq le_m0 ok [] rfl)) fun hT=>kt 0 E rfl hT (qan rfl) fun a E=>kt 1 E rfl hT (qan rfl) fun a E=>?_
  obtain ⟨b63,o64,es65,hl66,rr67,at68,yy69⟩:=ia E 20 21 qbd ha_0 e28
  obtain ⟨c74,c76,rfl,r70,l71,l72,l73,h75,h77⟩:=(qaO.1 rr67)
  refine kt 2 E rfl hT (yy69 _ _) fun a E=>kt 3 E rfl hT (qar (cs:=[vi x27.Kind,vs x27.Text,vs x27.Name,vs x27.Style,c74,c76]) qdf rfl rfl (qae.cro at68)) fun a E=>kt 4 E rfl hT (qan rfl) fun a E=>kt 5 E rfl hT (qan rfl) fun a E=>?_
  obtain ⟨b78,o79,es80,hl81,rr82,at83,yy84⟩:=ia E 24 25 qbd hb_1 e45
  obtain ⟨c89,c91,rfl,r85,l86,l87,l88,h90,h92⟩:=(qaO.1 rr82)
  refine kt 6 E rfl hT (yy84 _ _) fun a E=>kt 7 E rfl hT (qar (cs:=[vi x44.Kind,vs x44.Text,vs x44.Name,vs x44.Style,c89,c91]) qdf rfl rfl (qae.cro at83)) fun a E=>qaU [8,9] (by kernel_rfl) rfl (qhH ?_ (qhH ?_ (qkZ)))
  ·refine wo rfl<|qa1 E ok qbf rfl rfl fun b93 a w E ok=>wn<|qau (cl1 (cq le_m0 ok [] rfl) (cq le_m0 ok [] rfl)) fun hT=>qaU [9] (by kernel_rfl) rfl (qa2 ?_)
   ·refine wo rfl<|qa1 E ok qbf rfl rfl fun b94 a w E ok=>wn<|qau (cl1 (cq le_m0 ok [] rfl) (cq le_m0 ok [] rfl)) fun hT=>qaU [10] (by kernel_rfl) rfl (qa2 ?_)
    ·refine wo rfl<|qad E ok 1 rfl rfl rfl qdY rfl rfl ⟨rfl,rfl,rfl,rfl,(qbY h75),(qbY h77),trivial⟩ rfl rfl fun w ok=>wn<|qau (cl1 (cq le_m0 ok [] rfl) (cq le_m0 ok [] rfl)) fun hT=>qaU [11] (by kernel_rfl) rfl (qa2 ?_)
     ·refine wo rfl<|qad E ok 0 rfl rfl rfl qdY rfl rfl ⟨rfl,rfl,rfl,rfl,(qbY h90),(qbY h92),trivial⟩ rfl rfl fun w ok=>wn<|qau (cl1 (cq le_m0 ok [] rfl) (cq le_m0 ok [] rfl)) fun hT=>qbE (by kernel_rfl) ?_
      exact ⟨rfl,⟨b93,c74,c76,b94,c89,c91,ok,E.keep [0,1,5,6,7],r70,l71,l72,l73,h75,h77,r85,l86,l87,l88,h90,h92⟩⟩
  refine wo rfl<|qa1 E ok qbf rfl rfl fun b95 a w E ok=>wn<|qau (cl1 (cq le_m0 ok [] rfl) (cq le_m0 ok [] rfl)) fun hT=>qaU [8] (by kernel_rfl) rfl (qa2 ?_)
  ·refine wo rfl<|qa1 E ok qbf rfl rfl fun b96 a w E ok=>wn<|qau (cl1 (cq le_m0 ok [] rfl) (cq le_m0 ok [] rfl)) fun hT=>qaU [10] (by kernel_rfl) rfl (qa2 ?_)
   ·refine wo rfl<|qad E ok 0 rfl rfl rfl qdY rfl rfl ⟨rfl,rfl,rfl,rfl,(qbY h75),(qbY h77),trivial⟩ rfl rfl fun w ok=>wn<|qau (cl1 (cq le_m0 ok [] rfl) (cq le_m0 ok [] rfl)) fun hT=>qaU [11] (by kernel_rfl) rfl (qa2 ?_)
    ·refine wo rfl<|qad E ok 1 rfl rfl rfl qdY rfl rfl ⟨rfl,rfl,rfl,rfl,(qbY h90),(qbY h92),trivial⟩ rfl rfl fun w ok=>wn<|qau (cl1 (cq le_m0 ok [] rfl) (cq le_m0 ok [] rfl)) fun hT=>qbE (by kernel_rfl) ?_
     exact ⟨rfl,⟨b96,c74,c76,b95,c89,c91,(ok.pk 2 [1,0] rfl (by decide)),E.keep [0,1,5,6,7],r70,l71,l72,l73,h75,h77,r85,l86,l87,l88,h90,h92⟩⟩
 intro e a w hO
 obtain ⟨rfl,b105,c101,c103,b114,c110,c112,ok,E,r97,l98,l99,l100,h102,h104,r106,l107,l108,l109,h111,h113⟩:=hO
 refine qab<|wp_seq<|wp_seq<|bd hF fun o115 hJ hF=>qaI (Q':=fun e a w=>e = .normal ∧ Ok u m0 ([(b114,oc 82 [vi o8.2.Kind,vs o8.2.Text,vs o8.2.Name,vs o8.2.Style,c110,c112])] :: [(b105,oc 82 [vi o8.1.Kind,vs o8.1.Text,vs o8.1.Name,vs o8.1.Style,c101,c103])] :: S) w ∧ Env 107 a [(0,va_0),(1,vb_1),(5,vi v5),(6,vp b105),(7,vp b114),(70,vb o115)]) ?_ ?_
 rotate_left
 ·as_aux_lemma =>
   intro e a w hO
   obtain ⟨rfl,ok,E⟩:=hO
   refine qab<|cf E rfl hF (fun c123 hF=>?_) fun c123 hF=>?_
   ·refine sg<|aw E rfl fun a E=>wp_ret<|qaj<|qaE<|qaj ?_
    cases hF
    exact so (sr ⟨rfl,⟨ok.drop.drop,E.d,rz E rfl⟩⟩)
   refine wp_skip<|qab<|sg<|aw E rfl fun a E=>wp_block<|bd hF fun o125 hL hF=>qba _ (fun (s:Int) a w=>Ok u m0 ([(b114,oc 82 [vi o8.2.Kind,vs o8.2.Text,vs o8.2.Name,vs o8.2.Style,c110,c112])] :: [(b105,oc 82 [vi o8.1.Kind,vs o8.1.Text,vs o8.1.Name,vs o8.1.Style,c101,c103])] :: S) w ∧ Env 107 a [(0,va_0),(1,vb_1),(5,vi v5),(6,vp b105),(7,vp b114),(8,vi s)] ∧ InR .i64 s) (fun (b:(Unit ⊕ Bool)) e a w=>(Sum.elim (fun b182=>e = (.exit 2) ∧ Ok u m0 ([(b114,oc 82 [vi o8.2.Kind,vs o8.2.Text,vs o8.2.Name,vs o8.2.Style,c110,c112])] :: [(b105,oc 82 [vi o8.1.Kind,vs o8.1.Text,vs o8.1.Name,vs o8.1.Style,c101,c103])] :: S) w ∧ Env 107 a [(0,va_0),(1,vb_1),(5,vi v5)]) (fun b183=>e = .ret ∧ qfA u m0 S b183 a w)) b) ?_ ?_ N _ a w hL ⟨ok,E.keep [0,1,5,6,7,8],(ir 0)⟩
   rotate_left
   ·intro e a w _ hO
    rcases o125 with o125 | o125
    rotate_left
    ·have hF:=qmr hF
     obtain ⟨rfl,hret⟩:=hO
     refine qaE<|qaE<|qaj ?_
     cases hF
     exact so (sr ⟨rfl,hret⟩)
    have hF:=qce hF
    obtain ⟨rfl,ok,E⟩:=hO
    refine qbm<|qah<|qab<|qac<|mv E rfl fun a E=>lw E (qaG rfl rfl (InR.inc r6 (qao ha_0) c7)) fun a E=>av E rfl fun a E=>wpList_nil ?_
    cases hF
    exact qav ⟨(ok.pk 2 [] rfl (by decide)),E.keep [0,1,5],(InR.inc r6 (qao ha_0) c7)⟩
   rintro v127 a w r ⟨ok,E,r128⟩ hF
   replace hF:qcA (qbH N) N o8 v127 = some r:=hF
   unfold qcA at hF
   refine wp_seq<|sg<|mv E rfl fun a E=>fk E ok qbj qbK rfl 1 rfl rfl fun a E=>lv E ok (qbc qbB h102 rfl) fun a E=>lw E (qaQ rfl rfl) fun a E=>wn<|cg E rfl hF (fun c129 hF=>?_) fun c129 hF=>?_
   ·refine wp_exit<|qaW ?_
    cases hF
    exact so (sl ⟨rfl,⟨ok,E.keep [0,1,5]⟩⟩)
   refine wp_skip<|qab<|wp_seq<|wp_block<|wp_seq<|qdS (by kernel_rfl) (by kernel_rfl) ok<|qv E (qai qbj rfl) fun a E=>qv E (qax qbK rfl (qae.own 1 rfl rfl)) fun a E=>qv E (qan rfl) fun a E=>?_
   obtain ⟨x130,e131,hF⟩:=bnd hF
   obtain ⟨b132,o133,es134,hl135,rr136,at137,yy138⟩:=ia E 79 80 qbB h102 e131
   obtain ⟨c140,rfl,l139,h141⟩:=rr136
   refine qv E (yy138 _ _) fun a E=>qv E (qai qeX rfl) fun a E=>qv E (qax qal rfl (qae.ro (At.sub 0 1 at137))) fun a E=>qv E (qai qbj rfl) fun a E=>qv E (qax qbK rfl (qae.own 0 rfl rfl)) fun a E=>qv E (qan rfl) fun a E=>?_
   obtain ⟨x142,e143,hF⟩:=bnd hF
   obtain ⟨b144,o145,es146,hl147,rr148,at149,yy150⟩:=ia E 85 86 qbB h111 e143
   obtain ⟨c152,rfl,l151,h153⟩:=rr148
   refine qv E (yy150 _ _) fun a E=>qv E (qai qeX rfl) fun a E=>qv E (qax qal rfl (qae.ro (At.sub 0 1 at149))) fun a E=>qv E (qc1 rfl rfl) fun a E=>qv E (qan rfl) fun a E=>bu E 91 hF (fun c154 hF E=>?_) fun c154 hF E=>?_
   ·refine qs E fun a E=>qs E fun a E=>qs E fun a E=>qs E fun a E=>qs E fun a E=>qs E fun a E=>qs E fun a E=>qs E fun a E=>qs E fun a E=>qs E fun a E=>qs E fun a E=>qs E fun a E=>qs E fun a E=>qs E fun a E=>qv E (qej rfl rfl) fun a E=>wpQuiet_nil ?_
    intro w ok
    refine qab<|c_if E rfl (fun _=>?_) (fun h=>by cases h)
    refine sg<|aw E rfl fun a E=>wp_ret<|qaE<|qaj ?_
    cases hF
    exact so (sr ⟨rfl,⟨ok.drop.drop,E.d,rz E rfl⟩⟩)
   refine qv E (qai qbj rfl) fun a E=>qv E (qax qbK rfl (qae.own 1 rfl rfl)) fun a E=>qv E (qan rfl) fun a E=>?_
   obtain ⟨x155,e156,hF⟩:=bnd hF
   obtain ⟨b157,o158,es159,hl160,rr161,at162,yy163⟩:=ia E 93 94 qbB h102 e156
   obtain ⟨c165,rfl,l164,h166⟩:=rr161
   refine qv E (yy163 _ _) fun a E=>qv E (qai qeW rfl) fun a E=>qv E (qax qb0 rfl (qae.ro (At.sub 1 1 at162))) fun a E=>qv E (qai qbj rfl) fun a E=>qv E (qax qbK rfl (qae.own 0 rfl rfl)) fun a E=>qv E (qan rfl) fun a E=>?_
   obtain ⟨x167,e168,hF⟩:=bnd hF
   obtain ⟨b169,o170,es171,hl172,rr173,at174,yy175⟩:=ia E 99 100 qbB h111 e168
   obtain ⟨c177,rfl,l176,h178⟩:=rr173
   refine qv E (yy175 _ _) fun a E=>qv E (qai qeW rfl) fun a E=>qv E (qax qb0 rfl (qae.ro (At.sub 1 1 at174))) fun a E=>bd hF fun r179 e180 hF=>qee E qn6 rfl (fun w ok=>(ih_calqueref26_Equal _ x155.Parts h166 _ x167.Parts h178 e180 hG ok).mono (fun _ _ h=>h)) rfl rfl fun a E=>qv E (qbg rfl) fun a E=>qv E (qel rfl rfl) fun a E=>wpQuiet_nil ?_
   intro w ok
   refine qab<|cg E rfl hF (fun c181 hF=>?_) fun c181 hF=>?_
   ·refine wp_skip<|qah<|qab<|qac<|mv E rfl fun a E=>lw E (qaG rfl rfl (InR.inc r128 (qao h102) c129)) fun a E=>av E rfl fun a E=>wpList_nil ?_
    cases hF
    exact qav ⟨ok,E.keep [0,1,5,6,7,8],(InR.inc r128 (qao h102) c129)⟩
   refine sg<|aw E rfl fun a E=>wp_ret<|qaE<|qaj ?_
   cases hF
   exact so (sr ⟨rfl,⟨ok.drop.drop,E.d,rz E rfl⟩⟩)
 have hF:=hJ
 refine qac<|fk E ok qaC qap rfl 1 rfl rfl fun a E=>fk E ok qaC qap rfl 0 rfl rfl fun a E=>lw E (qbr rfl rfl) fun a E=>mv E rfl fun a E=>bu E 33 hF (fun c116 hF E=>?_) fun c116 hF E=>?_
 ·refine lsz E fun a E=>ls E fun a E=>pt E rfl rfl fun a E=>mv E rfl fun a E=>lsz E fun a E=>ls E fun a E=>pt E rfl rfl fun a E=>mv E rfl fun a E=>lsq E fun a E=>?_
  refine lsq E fun a E=>ls E fun a E=>pt E rfl rfl fun a E=>mv E rfl fun a E=>lsz E fun a E=>lsq E fun a E=>ls E fun a E=>pt E rfl rfl fun a E=>mv E rfl fun a E=>lsq E fun a E=>?_
  refine lsz E fun a E=>pt E rfl rfl fun a E=>wpList_nil ?_
  cases hF
  exact ⟨rfl,⟨ok,E.keep [0,1,5,6,7,70]⟩⟩
 refine fk E ok qdH qal rfl 1 rfl rfl fun a E=>fk E ok qdH qal rfl 0 rfl rfl fun a E=>lw E (qc1 rfl rfl) fun a E=>pf E rfl rfl fun a E=>mv E rfl fun a E=>bu E 40 hF (fun c117 hF E=>?_) fun c117 hF E=>?_
 ·refine lsz E fun a E=>ls E fun a E=>pt E rfl rfl fun a E=>mv E rfl fun a E=>lsz E fun a E=>ls E fun a E=>pt E rfl rfl fun a E=>mv E rfl fun a E=>lsq E fun a E=>?_
  refine lsz E fun a E=>ls E fun a E=>pt E rfl rfl fun a E=>mv E rfl fun a E=>lsz E fun a E=>lsq E fun a E=>pt E rfl rfl fun a E=>wpList_nil ?_
  cases hF
  exact ⟨rfl,⟨ok,E.keep [0,1,5,6,7,70]⟩⟩
 refine fk E ok qaV qal rfl 1 rfl rfl fun a E=>fk E ok qaV qal rfl 0 rfl rfl fun a E=>lw E (qc1 rfl rfl) fun a E=>pf E rfl rfl fun a E=>mv E rfl fun a E=>bu E 47 hF (fun c118 hF E=>?_) fun c118 hF E=>?_
 ·refine lsz E fun a E=>ls E fun a E=>pt E rfl rfl fun a E=>mv E rfl fun a E=>lsz E fun a E=>lsq E fun a E=>ls E fun a E=>pt E rfl rfl fun a E=>mv E rfl fun a E=>?_
  refine lsz E fun a E=>lsq E fun a E=>pt E rfl rfl fun a E=>wpList_nil ?_
  cases hF
  exact ⟨rfl,⟨ok,E.keep [0,1,5,6,7,70]⟩⟩
 refine fk E ok qa8 qal rfl 1 rfl rfl fun a E=>fk E ok qa8 qal rfl 0 rfl rfl fun a E=>lw E (qc1 rfl rfl) fun a E=>pf E rfl rfl fun a E=>mv E rfl fun a E=>bu E 54 hF (fun c119 hF E=>?_) fun c119 hF E=>?_
 ·refine lsz E fun a E=>lsq E fun a E=>ls E fun a E=>pt E rfl rfl fun a E=>mv E rfl fun a E=>lsz E fun a E=>lsq E fun a E=>pt E rfl rfl fun a E=>wpList_nil ?_
  cases hF
  exact ⟨rfl,⟨ok,E.keep [0,1,5,6,7,70]⟩⟩
 refine fk E ok qbj qbK rfl 1 rfl rfl fun a E=>lv E ok (qbc qbB h102 rfl) fun a E=>fk E ok qbj qbK rfl 0 rfl rfl fun a E=>lv E ok (qbc qbB h111 rfl) fun a E=>lw E (qbr rfl rfl) fun a E=>pf E rfl rfl fun a E=>mv E rfl fun a E=>bu E 63 hF (fun c120 hF E=>?_) fun c120 hF E=>?_
 ·refine lsz E fun a E=>lsq E fun a E=>pt E rfl rfl fun a E=>wpList_nil ?_
  cases hF
  exact ⟨rfl,⟨ok,E.keep [0,1,5,6,7,70]⟩⟩
 refine fk E ok qcm qb0 rfl 1 rfl rfl fun a E=>fk E ok qcm qb0 rfl 0 rfl rfl fun a E=>bd hF fun r121 e122 hF=>lc E qn6 rfl (ih_calqueref26_Equal _ o8.1.Parts h104 _ o8.2.Parts h113 e122 hG ok) fun w ok a E=>lw E (qbg rfl) fun a E=>pf E rfl rfl fun a E=>wpList_nil ?_
 cases hF
 exact ⟨rfl,⟨ok,E.keep [0,1,5,6,7,70]⟩⟩
theorem qix:qet 0:=by
 intro u m0 S w va_0 a_0 ha_0 vb_1 b_1 hb_1 r hF hG ok
 replace hF:none = some r:=hF
 cases hF
theorem qhu (N:Nat):qet N:=by
 induction N with
 | zero=>exact qix
 | succ N h=>exact qiE N h
theorem qjE {u:World} {m0:Mem} {S:Segs} {w:World} (N:Nat) (va_0:Value) (a_0:List (Part)) (ha_0:(pL 6 qaM) m0 [va_0] a_0) (vb_1:Value) (b_1:List (Part)) (hb_1:(pL 6 qaM) m0 [vb_1] b_1) {r:Bool} (hF:qbH N a_0 b_1 = some r) (hG:Glob u) (ok:Ok u m0 S w) :
 Calls Tryz.prog 22 [va_0,vb_1].toArray w fun e w'=>(e = .returned (.bool r) ∧ Ok u m0 S w'):=(qhu N) va_0 a_0 ha_0 vb_1 b_1 hb_1 hF hG ok
end Go.Proofs.YtllnjbnknjpbjaaGreatDoor
