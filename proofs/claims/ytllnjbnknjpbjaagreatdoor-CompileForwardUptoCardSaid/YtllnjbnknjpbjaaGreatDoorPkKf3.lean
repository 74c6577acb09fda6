/- Texts of this proof, put together by pack.py: what its declarations name. -/
import Derived.Test.YtllnjbnknjpbjaaGreatDoorPkKf2
import Derived.Test.YtllnjbnknjpbjaaGreatDoorCards
import Derived.Test.YtllnjbnknjpbjaaGreatDoorChecked
import Derived.Test.YtllnjbnknjpbjaaGreatDoorProg
import Derived.Test.YtllnjbnknjpbjaaGreatDoorRows
import Derived.Test.YtllnjbnknjpbjaaGreatDoorTie
set_option linter.unusedVariables false
set_option linter.unusedSimpArgs false
namespace Go.Proofs.YtllnjbnknjpbjaaGreatDoor
open Go.X
variable {u:World} {m0:Mem} {S:Segs} {w:World}
set_option maxHeartbeats 4000000
set_option maxRecDepth 100000
def Tab (u:World):Prop:=Lib.TabIs Tryz.prog u "internal/strconv.uint64pow10" .u64 Lib.pow10Tab
def pIns:Rp Ins:=fun _ cs x=>cs = [.int .i64 x.Op,.int .i64 x.A,.int .i64 x.B,.string (bs x.S)] ∧ InR .i64 x.Op ∧ InR .i64 x.A ∧ InR .i64 x.B ∧ x.S.length ≤ LIMS
theorem mIns:Mono pIns:=⟨fun _ h=>by
 obtain ⟨e,h0,h1,h2,h3⟩:=h
 exact ⟨e,h0,h1,h2,h3⟩,fun h=>by
 obtain ⟨rfl,h0,h1,h2,h3⟩:=h
 exact ⟨rfl,rfl,rfl,rfl,trivial⟩⟩
def qkv:Rp Code:=fun m cs x=>∃ c0 c1,cs = [c0,c1] ∧ (pL 1 pS) m [c0] x.Names ∧ (pL 4 pIns) m [c1] x.Ins
theorem qjr:aggB Tryz.prog 28 2 = true:=by kernel_rfl
theorem qiy:aggB Tryz.prog 47 4 = true:=by kernel_rfl
theorem qpk:ArT Tryz.prog 129 3 7 1:=ArT.of (by kernel_rfl)
theorem qmr:ArT Tryz.prog 62 9 14 1:=ArT.of (by kernel_rfl)
theorem qnU:Tryz.prog.eqGuardType Tryz.prog.depth 47 = false:=by kernel_rfl
theorem qhq:qaX Tryz.prog 28 0 0 = true:=by kernel_rfl
theorem qcB:qaX Tryz.prog 28 1 1 = true:=by kernel_rfl
theorem qgD:qaX Tryz.prog 47 0 0 = true:=by kernel_rfl
theorem qej:qaX Tryz.prog 47 1 1 = true:=by kernel_rfl
theorem qmS:qaX Tryz.prog 47 2 2 = true:=by kernel_rfl
theorem qmG:qaX Tryz.prog 47 3 3 = true:=by kernel_rfl
theorem qd4:qaX Tryz.prog 57 0 0 = true:=by kernel_rfl
theorem qqg:goB Tryz.prog 30 = true:=by kernel_rfl
theorem qlB:goB Tryz.prog 31 = true:=by kernel_rfl
theorem qfH:goB Tryz.prog 32 = true:=by kernel_rfl
theorem qqj:goB Tryz.prog 34 = true:=by kernel_rfl
theorem qkw:goB Tryz.prog 35 = true:=by kernel_rfl
theorem qkO:goB Tryz.prog 36 = true:=by kernel_rfl
theorem qqE:goB Tryz.prog 41 = true:=by kernel_rfl
theorem qqn:goB Tryz.prog 42 = true:=by kernel_rfl
theorem qlA:goB Tryz.prog 50 = true:=by kernel_rfl
theorem qoO:goB Tryz.prog 52 = true:=by kernel_rfl
theorem qoX:goB Tryz.prog 53 = true:=by kernel_rfl
theorem qqi:goB Tryz.prog 69 = true:=by kernel_rfl
theorem qnz:∃ i,Tryz.prog.info? 25 = some i ∧ i.size = 1:=⟨_,rfl,by kernel_rfl⟩
theorem qpy:∃ i,Tryz.prog.info? 26 = some i ∧ i.size = 1:=⟨_,rfl,by kernel_rfl⟩
theorem qkr:∃ i,Tryz.prog.info? 28 = some i ∧ i.size = 2:=⟨_,rfl,by kernel_rfl⟩
theorem qgc:∃ i,Tryz.prog.info? 3 = some i ∧ i.size = 1:=⟨_,rfl,by kernel_rfl⟩
theorem qn0:∃ i,Tryz.prog.info? 47 = some i ∧ i.size = 4:=⟨_,rfl,by kernel_rfl⟩
theorem qpN:∃ i,Tryz.prog.info? 62 = some i ∧ i.size = 14:=⟨_,rfl,by kernel_rfl⟩
theorem qg1:oneB Tryz.prog 25 = true:=by kernel_rfl
theorem qcH:oneB Tryz.prog 26 = true:=by kernel_rfl
theorem qnd:qdL Tryz.prog 110 = some [(0,3),(3,1),(4,1)]:=by kernel_rfl
theorem qlm:qdL Tryz.prog 28 = some [(0,1),(1,1)]:=by kernel_rfl
theorem qcW:qdL Tryz.prog 47 = some [(0,1),(1,1),(2,1),(3,1)]:=by kernel_rfl
theorem qnV:qdL Tryz.prog 57 = some [(0,2)]:=by kernel_rfl
theorem qb3:SlT Tryz.prog 25 9 1:=SlT.of (by kernel_rfl)
theorem qcD:SlT Tryz.prog 26 47 4:=SlT.of (by kernel_rfl)
theorem qgM:SlT Tryz.prog 74 3 1:=SlT.of (by kernel_rfl)
theorem qmq:Tryz.prog.stoodInHeld 47 = false:=by kernel_rfl
theorem qod:qct Tryz.prog 110 = some [(Value.int .u32 0),(Value.int .i32 0),(Value.int .u32 0),Value.nilIface,(Value.slice none 0 0)]:=by kernel_rfl
theorem qob:qct Tryz.prog 129 = some [vi 0,vi 0,vi 0,vi 0,vi 0,vi 0,vi 0]:=by kernel_rfl
theorem qiB:qct Tryz.prog 28 = some [(Value.slice none 0 0),(Value.slice none 0 0)]:=by kernel_rfl
theorem qkG:qct Tryz.prog 3 = some [vi 0]:=by kernel_rfl
theorem qcY:qct Tryz.prog 47 = some [vi 0,vi 0,vi 0,(vs ([]))]:=by kernel_rfl
theorem qpm:qct Tryz.prog 57 = some [(Value.slice none 0 0),(Value.slice none 0 0)]:=by kernel_rfl
theorem qmJ:qct Tryz.prog 62 = some [(vs ([])),(vs ([])),(vs ([])),(vs ([])),(vs ([])),(vs ([])),(vs ([])),(vs ([])),(vs ([])),(vs ([])),(vs ([])),(vs ([])),(vs ([])),(vs ([]))]:=by kernel_rfl
theorem qdW:qct Tryz.prog 9 = some [(vs ([]))]:=by kernel_rfl
def qib (u:World) (m0:Mem) (S:Segs) (pb0:Nat) (x0:Compiler) (c5:Value) (M6:List (Nat × Obj)) (c8:Value) (M9:List (Nat × Obj)) (r:Int × Compiler) (a:Act) (w:World):Prop :=
 ∃ m1 c11 M12 c14 M15,m0.le m1 ∧ Ok u m1 ([(pb0,oc 57 [c11,c14])] :: M12 :: M15 :: S) w ∧ a.defers = [] ∧ RVs Tryz.prog a w [.t 4 (.int .i64 r.1)] ∧ InR .i64 r.1 ∧ ORow 9 1 pS m1 c11 r.2.Code.Names M12 ∧ ORow 47 4 pIns m1 c14 r.2.Code.Ins M15
theorem qa8 (N:Nat) (vx_1:List Value) (x_1:Ins) (hx_1:pIns m0 vx_1 x_1) {pb0:Nat} {c5:Value} {M6:List (Nat × Obj)} {c8:Value} {M9:List (Nat × Obj)} (x0:Compiler) (h7:ORow 9 1 pS m0 c5 x0.Code.Names M6) (h10:ORow 47 4 pIns m0 c8 x0.Code.Ins M9) {r:Int × Compiler} (hF:qaU N x_1 x0 = some r) (hG:Glob u) (ok:Ok u m0 ([(pb0,oc 57 [c5,c8])] :: M6 :: M9 :: S) w) :
  Calls Tryz.prog 32 [vp pb0,.agg vx_1.toArray].toArray w fun e w'=>∃ m1 c11 M12 c14 M15,e = .returned (.int .i64 r.1) ∧ m0.le m1 ∧ Ok u m1 ([(pb0,oc 57 [c11,c14])] :: M12 :: M15 :: S) w' ∧ InR .i64 r.1 ∧ ORow 9 1 pS m1 c11 r.2.Code.Names M12 ∧ ORow 47 4 pIns m1 c14 r.2.Code.Ins M15:=by
 obtain ⟨rfl,r1,r2,r3,l4⟩:=hx_1
 have le_m0:=Mem.le.refl m0
 unfold qaU at hF
 refine en (qib u m0 S pb0 x0 c5 M6 c8 M9) r Tryz.func32 rfl rfl rfl (by rintro a w ⟨m1,c11,M12,c14,M15,hle,ok,hd,hrv,h0,h1,h2⟩; exact qbC [.t 4 (.int .i64 r.1)] hd rfl hrv ⟨m1,c11,M12,c14,M15,rfl,hle,ok,h0,h1,h2⟩) fun fin a E=>sg<|qfy E ok rfl rfl rfl fun b17 a w E ok=>aw E rfl fun a E=>wp_seq<|bd hF fun o18 hJ hF=>qaJ (Q':=fun e a w=>e = .normal ∧ ∃ c19 M20 c22 M23,Ok u m0 ([(b17,oc 47 [vi x_1.Op,vi x_1.A,vi x_1.B,vs x_1.S])] :: [(pb0,oc 57 [c19,c22])] :: M20 :: M23 :: S) w ∧ Env 24 a [(0,vp pb0)] ∧ ORow 9 1 pS m0 c19 o18.Code.Names M20 ∧ ORow 47 4 pIns m0 c22 o18.Code.Ins M23) ?_ ?_
 rotate_left
 ·intro e a w hO
  obtain ⟨rfl,c39,M40,c42,M43,ok,E,h41,h44⟩:=hO
  refine qab<|sg<|mv E rfl fun a E=>lw E (qaj rfl) fun a E=>fv E qd4 rfl fun a E=>fk E ok qcB qcH rfl 1 rfl rfl fun a E=>lv E ok (qd8 qcD h44 rfl) fun a E=>lw E (qdX rfl rfl) fun a E=>aw E rfl fun a E=>wp_ret ?_
  exact fin hF ⟨m0,c39,M40,c42,M43,le_m0,ok.drop,E.d,rz E rfl,(InR.wrap _ _),h41,h44⟩
 have hF:=hJ
 obtain ⟨l28,e29,hF⟩:=bnd hF
 obtain rfl:=sj hF
 refine qbB [5,6] (Cls u m0 ([(b17,oc 47 [vi x_1.Op,vi x_1.A,vi x_1.B,vs x_1.S])] :: [(pb0,oc 57 [c5,c8])] :: M6 :: [])) (Cls u m0 ([(b17,oc 47 [vi x_1.Op,vi x_1.A,vi x_1.B,vs x_1.S])] :: M6 :: [])) (by kernel_rfl) ?_
 intro w hw
 replace ok:=qbS ok hw
 clear hw
 refine qaz (cl1 (cq le_m0 ok [0,1,2] rfl) (cq le_m0 ok [0,2] rfl)) fun hT=>kt 0 E rfl hT (qaq rfl) fun a E=>kt 1 E rfl hT (qaq rfl) fun a E=>kt 2 E rfl hT (qaj rfl) fun a E=>kt 3 E rfl hT (qak qd4 rfl) fun a E=>kt 4 E rfl hT (qak qcB rfl) fun a E=>qc7 5 E rfl (by kernel_rfl) nP hT (qaA qcH rfl (qae.cown 1 rfl rfl)) rfl rfl fun a E=>qc7 6 E rfl (by kernel_rfl) nP hT (qat (cs:=[vi x_1.Op,vi x_1.A,vi x_1.B,vs x_1.S]) qiy rfl rfl (qae.cown 0 rfl rfl)) rfl rfl fun a E=>qa3 [7] (by kernel_rfl) rfl (qa7 ?_)
 ·refine wo rfl<|qbx (R:=pIns) (xo:=[.tmp 11]) (xs:=([x_1]:List (Ins))) E ok qcD qcY rfl ⟨⟨_,rfl,rfl,⟨rfl,r1,r2,r3,l4⟩⟩,trivial⟩ rfl rfl rfl rfl fun c33 M34 a w E ok h35=>wn<|qaz (cl1 (cq le_m0 ok [1,2,3] rfl) (cq le_m0 ok [1,3] rfl)) fun hT=>qa3 [8] (by kernel_rfl) rfl (qa7 ?_)
  ·refine wo rfl<|qcv (R:=pIns) E ok 4 mIns qcD Tryz.underlying26 rfl h10 (qbz.ofRow h35 0 rfl ok) e29 ⟨_,qcY,rfl⟩ rfl rfl rfl rfl fun c36 M37 a w E ok h38=>wn<|qaz (cl1 (cq le_m0 ok [1,2,3] rfl) (cq le_m0 ok [1,3] rfl)) fun hT=>kt 9 E rfl hT (qaj rfl) fun a E=>kt 10 E rfl hT (qak qd4 rfl) fun a E=>kt 11 E rfl hT (qak qcB rfl) fun a E=>qa3 [12] (by kernel_rfl) rfl (qa7 ?_)
   ·refine wo rfl<|qad E ok 2 rfl rfl rfl qpy (ORow.cells h38) rfl ⟨(ORow.one h38),trivial⟩ rfl rfl fun w ok=>wn<|qaz (cl2 (by kernel_rfl) (cq le_m0 ok [1,3] rfl)) fun hT=>qbI (by kernel_rfl) ?_
    exact ⟨rfl,⟨c5,M6,c36,M37,(ok.pk 5 [1,2,3,4] rfl (by decide)),E.keep [0],h7,h38⟩⟩
def qeN (u:World) (m0:Mem) (S:Segs) (r:Int) (a:Act) (w:World):Prop :=
 Ok u m0 S w ∧ a.defers = [] ∧ RVs Tryz.prog a w [.t 4 (.int .i64 r)] ∧ InR .i64 r
theorem qgF (N:Nat) (vs_0:Value) (s_0:List (List UInt8)) (hs_0:(pL 1 pS) m0 [vs_0] s_0) (v_1:List UInt8) (lv_1:v_1.length ≤ LIMS) {r:Int} (hF:qcs N s_0 v_1 = some r) (hG:Glob u) (ok:Ok u m0 S w) :
  Calls Tryz.prog 69 [vs_0,vs v_1].toArray w fun e w'=>(e = .returned (.int .i64 r) ∧ Ok u m0 S w') ∧ InR .i64 r:=by
 unfold qcs at hF
 refine en (qeN u m0 S) r Tryz.func69 rfl rfl rfl (fun _ _ h=>rb h rfl) fun fin a E=>sg<|aw E rfl fun a E=>wp_seq<|sg<|mv E rfl fun a E=>lv E ok (qbe qb3 hs_0 rfl) fun a E=>mv E rfl fun a E=>wn<|wp_block<|bd hF fun o2 hL hF=>qbb _ (fun (s:Int) a w=>Ok u m0 (S) w ∧ Env 19 a [(0,vs_0),(1,vs v_1),(7,(vi (s_0.length:Int))),(8,vi s)] ∧ InR .i64 s) (fun (b:(Unit ⊕ Int)) e a w=>(Sum.elim (fun b18=>e = (.exit 0) ∧ Ok u m0 (S) w ∧ Env 19 a []) (fun b19=>e = .ret ∧ qeN u m0 S b19 a w)) b) ?_ ?_ N _ a w hL ⟨ok,E.keep [0,1,7,8],(ir 0)⟩
 rotate_left
 ·intro e a w _ hO
  rcases o2 with o2 | o2
  rotate_left
  ·obtain ⟨rfl,hret⟩:=hO
   refine qaB<|qai ?_
   exact fin hF hret
  have hF:=qcb hF
  obtain ⟨rfl,ok,E⟩:=hO
  refine qbh<|qab<|sg<|aw E rfl fun a E=>wp_ret ?_
  exact fin hF ⟨ok,E.d,rz E rfl,(ir (-1))⟩
 rintro v4 a w r ⟨ok,E,r5⟩ hF
 replace hF:qbM N s_0 v_1 v4 = some r:=hF
 unfold qbM at hF
 refine sg<|lw E (qaQ rfl rfl) fun a E=>wn<|wp_seq<|cg E rfl hF (fun c6 hF=>?_) fun c6 hF=>?_
 ·refine wp_exit<|qaV ?_
  cases hF
  exact so (sl ⟨rfl,⟨ok,E.keep []⟩⟩)
 refine wp_skip<|qab<|wp_seq<|wp_block<|sg<|mv E rfl fun a E=>av E rfl fun a E=>wn<|sg<|mz E rfl rfl fun a E=>mv E rfl fun a E=>?_
 obtain ⟨x7,e8,hF⟩:=bnd hF
 obtain ⟨b9,o10,es11,hl12,rr13,at14,yy15⟩:=ia E 12 13 qb3 hs_0 e8
 obtain ⟨rfl,l16⟩:=rr13
 refine lv E ok (yy15 _ _) fun a E=>lv E ok (qaA qan rfl (qae.ro at14)) fun a E=>lw E (qbp rfl rfl) fun a E=>wn<|cg E rfl hF (fun c17 hF=>?_) fun c17 hF=>?_
 ·refine wp_skip<|qag<|qab<|qac<|lw E (qaG rfl rfl (InR.inc r5 (qao hs_0) c6)) fun a E=>mv E rfl fun a E=>wpList_nil ?_
  cases hF
  exact qau ⟨ok,E.keep [0,1,7,8],(InR.inc r5 (qao hs_0) c6)⟩
 refine sg<|mv E rfl fun a E=>aw E rfl fun a E=>wp_ret<|qaB<|qai ?_
 cases hF
 exact so (sr ⟨rfl,⟨ok,E.d,rz E rfl,r5⟩⟩)
def qhU (u:World) (m0:Mem) (S:Segs) (pb0:Nat) (x0:Compiler) (c1:Value) (M2:List (Nat × Obj)) (c4:Value) (M5:List (Nat × Obj)) (r:Int × Compiler) (a:Act) (w:World):Prop :=
 ∃ m1 c7 M8 c10 M11,m0.le m1 ∧ Ok u m1 ([(pb0,oc 57 [c7,c10])] :: M8 :: M11 :: S) w ∧ a.defers = [] ∧ RVs Tryz.prog a w [.t 4 (.int .i64 r.1)] ∧ InR .i64 r.1 ∧ ORow 9 1 pS m1 c7 r.2.Code.Names M8 ∧ ORow 47 4 pIns m1 c10 r.2.Code.Ins M11
theorem qdn (N:Nat) (s_1:List UInt8) (ls_1:s_1.length ≤ LIMS) {pb0:Nat} {c1:Value} {M2:List (Nat × Obj)} {c4:Value} {M5:List (Nat × Obj)} (x0:Compiler) (h3:ORow 9 1 pS m0 c1 x0.Code.Names M2) (h6:ORow 47 4 pIns m0 c4 x0.Code.Ins M5) {r:Int × Compiler} (hF:qbW N s_1 x0 = some r) (hG:Glob u) (ok:Ok u m0 ([(pb0,oc 57 [c1,c4])] :: M2 :: M5 :: S) w) :
  Calls Tryz.prog 50 [vp pb0,vs s_1].toArray w fun e w'=>∃ m1 c7 M8 c10 M11,e = .returned (.int .i64 r.1) ∧ m0.le m1 ∧ Ok u m1 ([(pb0,oc 57 [c7,c10])] :: M8 :: M11 :: S) w' ∧ InR .i64 r.1 ∧ ORow 9 1 pS m1 c7 r.2.Code.Names M8 ∧ ORow 47 4 pIns m1 c10 r.2.Code.Ins M11:=by
 have le_m0:=Mem.le.refl m0
 unfold qbW at hF
 refine en (qhU u m0 S pb0 x0 c1 M2 c4 M5) r Tryz.func50 rfl rfl rfl (by rintro a w ⟨m1,c7,M8,c10,M11,hle,ok,hd,hrv,h0,h1,h2⟩; exact qbC [.t 4 (.int .i64 r.1)] hd rfl hrv ⟨m1,c7,M8,c10,M11,rfl,hle,ok,h0,h1,h2⟩) fun fin a E=>sg<|aw E rfl fun a E=>sg<|mv E rfl fun a E=>lw E (qaj rfl) fun a E=>fv E qd4 rfl fun a E=>fk E ok qhq qg1 rfl 0 rfl rfl fun a E=>mv E rfl fun a E=>?_
 obtain ⟨r18,e19,hF⟩:=bnd hF
 obtain ⟨m13,hle15,ok14,hfz16⟩:=(ok.frs 1 rfl).freeze
 have h17:=ORow.froz mS h3 hle15 hfz16 (by decide)
 refine qaf E qqi rfl (qgF N _ x0.Code.Names h17 s_1 ls_1 e19 hG ok14) rfl rfl ?_
 rintro _ w ⟨⟨rfl,okz⟩,r20⟩
 replace ok:=(Ok.thawAt 1 rfl ok hle15 hfz16 okz)
 refine ⟨_,rfl,fun a E=>?_⟩
 refine aw E rfl fun a E=>wp_seq<|sg<|mv E rfl fun a E=>lw E (qaQ rfl rfl) fun a E=>wn<|cg E rfl hF (fun c21 hF=>?_) fun c21 hF=>?_
 ·refine wp_skip<|qab<|sg<|mv E rfl fun a E=>aw E rfl fun a E=>wp_ret ?_
  exact fin hF ⟨m0,c1,M2,c4,M5,le_m0,ok,E.d,rz E rfl,r20,h3,h6⟩
 refine sg<|mv E rfl fun a E=>lw E (qaj rfl) fun a E=>fv E qd4 rfl fun a E=>fk E ok qhq qg1 rfl 0 rfl rfl fun a E=>lv E ok (qd8 qb3 h3 rfl) fun a E=>aw E rfl fun a E=>qac<|mz E rfl rfl fun a E=>lw E (qaj rfl) fun a E=>fv E qd4 rfl fun a E=>fk E ok qhq qg1 rfl 0 rfl rfl fun a E=>mv E rfl fun a E=>qbx (R:=pS) (xo:=[.tmp 27]) (xs:=([s_1]:List (List UInt8))) E ok qb3 qdW rfl ⟨⟨_,rfl,rfl,(qcV ls_1)⟩,trivial⟩ rfl rfl rfl rfl fun c22 M23 a w E ok h24=>?_
 refine bd hF fun l25 e26 hF=>qcv (R:=pS) E ok 2 mS qb3 Tryz.underlying25 rfl h3 (qbz.ofRow h24 0 rfl ok) e26 ⟨_,qdW,rfl⟩ rfl rfl rfl rfl fun c27 M28 a w E ok h29=>lw E (qaj rfl) fun a E=>fv E qd4 rfl fun a E=>fv E qhq rfl fun a E=>qad E ok 1 rfl rfl rfl qnz (ORow.cells h29) rfl ⟨(ORow.one h29),trivial⟩ rfl rfl fun w ok=>wn<|sg<|mv E rfl fun a E=>aw E rfl fun a E=>wp_ret ?_
 exact fin hF ⟨m0,c27,M28,c4,M5,le_m0,ok.drop,E.d,rz E rfl,(ORow.InR h3),h29,h6⟩
def qjb (u:World) (m0:Mem) (S:Segs) (r:Int) (a:Act) (w:World):Prop :=
 Ok u m0 S w ∧ a.defers = [] ∧ RVs Tryz.prog a w [.t 2 (.int .i64 r)] ∧ InR .i64 r
theorem qgy (N:Nat) (kind_0:Int) (rkind_0:InR .i64 kind_0) {r:Int} (hF:qdi N kind_0 = some r) (hG:Glob u) (ok:Ok u m0 S w) :
  Calls Tryz.prog 53 [vi kind_0].toArray w fun e w'=>(e = .returned (.int .i64 r) ∧ Ok u m0 S w') ∧ InR .i64 r:=by
 unfold qdi at hF
 refine en (qjb u m0 S) r Tryz.func53 rfl rfl rfl (fun _ _ h=>rb h rfl) fun fin a E=>sg<|aw E rfl fun a E=>sg<|lv E ok (ql7 (ps:=[(2,.const (vi 5)),(3,.const (vi 6)),(4,.const (vi 7)),(5,.const (vi 8)),(6,.const (vi 9))]) (qs:=[(2,[vi 5]),(3,[vi 6]),(4,[vi 7]),(5,[vi 8]),(6,[vi 9])]) (cs:=[vi 0,vi 0,vi 5,vi 6,vi 7,vi 8,vi 9]) qob qpk rfl ⟨rfl,rfl,rfl,⟨rfl,rfl,rfl,⟨rfl,rfl,rfl,⟨rfl,rfl,rfl,⟨rfl,rfl,rfl,trivial⟩⟩⟩⟩⟩ rfl) fun a E=>mv E rfl fun a E=>bd hF fun z1 e2 hF=>lv E ok (qp2 (f:=Value.int .i64) (xs:=[(0:Int),(0:Int),(5:Int),(6:Int),(7:Int),(8:Int),(9:Int)]) Tryz.underlying129 qgc qam rfl rfl rfl rfl e2) fun a E=>aw E rfl fun a E=>wp_ret ?_
 exact fin hF ⟨ok,E.d,rz E rfl,(qmY (q:=InR .i64) (xs:=[(0:Int),(0:Int),(5:Int),(6:Int),(7:Int),(8:Int),(9:Int)]) (by decide) e2)⟩
def qhK (u:World) (m0:Mem) (S:Segs) (pb0:Nat) (x0:Compiler) (c1:Value) (M2:List (Nat × Obj)) (c4:Value) (M5:List (Nat × Obj)) (r:Compiler) (a:Act) (w:World):Prop :=
 ∃ m1 c7 M8 c10 M11,m0.le m1 ∧ Ok u m1 ([(pb0,oc 57 [c7,c10])] :: M8 :: M11 :: S) w ∧ a.defers = [] ∧ RVs Tryz.prog a w [] ∧ ORow 9 1 pS m1 c7 r.Code.Names M8 ∧ ORow 47 4 pIns m1 c10 r.Code.Ins M11
def qgJ (u:World) (m0:Mem) (S:Segs) (pb0:Nat) (x0:Compiler) (c9:Value) (M10:List (Nat × Obj)) (c12:Value) (M13:List (Nat × Obj)) (r:Compiler) (a:Act) (w:World):Prop :=
 ∃ m1 c15 M16 c18 M19,m0.le m1 ∧ Ok u m1 ([(pb0,oc 57 [c15,c18])] :: M16 :: M19 :: S) w ∧ a.defers = [] ∧ RVs Tryz.prog a w [] ∧ ORow 9 1 pS m1 c15 r.Code.Names M16 ∧ ORow 47 4 pIns m1 c18 r.Code.Ins M19
def qcG (N:Nat):Prop:=∀ {u:World} {m0:Mem} {S:Segs} {w:World} (vl_1:Value) (l_1:List (Part)) (hl_1:(pL 6 qa0) m0 [vl_1] l_1) (count_2:List UInt8) (lcount_2:count_2.length ≤ LIMS) {pb0:Nat} {c1:Value} {M2:List (Nat × Obj)} {c4:Value} {M5:List (Nat × Obj)} (x0:Compiler) (h3:ORow 9 1 pS m0 c1 x0.Code.Names M2) (h6:ORow 47 4 pIns m0 c4 x0.Code.Ins M5) {r:Compiler} (hF:qaO N l_1 count_2 x0 = some r) (hG:Glob u) (ok:Ok u m0 ([(pb0,oc 57 [c1,c4])] :: M2 :: M5 :: S) w),Calls Tryz.prog 31 [vp pb0,vl_1,vs count_2].toArray w fun e w'=>∃ m1 c7 M8 c10 M11,e = .returned (.tuple [].toArray) ∧ m0.le m1 ∧ Ok u m1 ([(pb0,oc 57 [c7,c10])] :: M8 :: M11 :: S) w' ∧ ORow 9 1 pS m1 c7 r.Code.Names M8 ∧ ORow 47 4 pIns m1 c10 r.Code.Ins M11
def qch (N:Nat):Prop:=∀ {u:World} {m0:Mem} {S:Segs} {w:World} (vx_1:List Value) (x_1:Part) (hx_1:qa0 m0 vx_1 x_1) (count_2:List UInt8) (lcount_2:count_2.length ≤ LIMS) {pb0:Nat} {c9:Value} {M10:List (Nat × Obj)} {c12:Value} {M13:List (Nat × Obj)} (x0:Compiler) (h11:ORow 9 1 pS m0 c9 x0.Code.Names M10) (h14:ORow 47 4 pIns m0 c12 x0.Code.Ins M13) {r:Compiler} (hF:qaP N x_1 count_2 x0 = some r) (hG:Glob u) (ok:Ok u m0 ([(pb0,oc 57 [c9,c12])] :: M10 :: M13 :: S) w),Calls Tryz.prog 52 [vp pb0,.agg vx_1.toArray,vs count_2].toArray w fun e w'=>∃ m1 c15 M16 c18 M19,e = .returned (.tuple [].toArray) ∧ m0.le m1 ∧ Ok u m1 ([(pb0,oc 57 [c15,c18])] :: M16 :: M19 :: S) w' ∧ ORow 9 1 pS m1 c15 r.Code.Names M16 ∧ ORow 47 4 pIns m1 c18 r.Code.Ins M19
theorem qgY (N:Nat) (ih_compile_compiler_parts:qcG N) (ih_compile_compiler_selection:qch N):qcG (N + 1):=by
 intro u m0 S w vl_1 l_1 hl_1 count_2 lcount_2 pb0 c1 M2 c4 M5 x0 h3 h6 r hF hG ok
 have le_m0:=Mem.le.refl m0
 have hF0:qci (qaO N) (qaP N) N l_1 count_2 x0 = some r:=hF
 have hF:=hF0
 clear hF0
 unfold qci at hF
 refine en (qhK u m0 S pb0 x0 c1 M2 c4 M5) r Tryz.func31 rfl rfl rfl (by rintro a w ⟨m1,c7,M8,c10,M11,hle,ok,hd,hrv,h0,h1⟩; exact qbC [] hd rfl hrv ⟨m1,c7,M8,c10,M11,rfl,hle,ok,h0,h1⟩) fun fin a E=>sg<|mv E rfl fun a E=>lv E ok (qbe qbi hl_1 rfl) fun a E=>mv E rfl fun a E=>wn<|wp_block<|bd hF fun o21 hL hF=>qbb _ (fun (s:Int × Compiler) a w=>∃ m22 c24 M25 c27 M28,m0.le m22 ∧ Ok u m22 ([(pb0,oc 57 [c24,c27])] :: M25 :: M28 :: S) w ∧ Env 88 a [(0,vp pb0),(2,vs count_2),(8,vl_1),(9,(vi (l_1.length:Int))),(10,vi s.1)] ∧ InR .i64 s.1 ∧ ORow 9 1 pS m22 c24 s.2.Code.Names M25 ∧ ORow 47 4 pIns m22 c27 s.2.Code.Ins M28) (fun (b:Compiler) e a w=>e = (.exit 0) ∧ ∃ m304 c305 M306 c308 M309,m0.le m304 ∧ Ok u m304 ([(pb0,oc 57 [c305,c308])] :: M306 :: M309 :: S) w ∧ Env 88 a [] ∧ ORow 9 1 pS m304 c305 b.Code.Names M306 ∧ ORow 47 4 pIns m304 c308 b.Code.Ins M309) ?_ ?_ N _ a w hL ⟨m0,c1,M2,c4,M5,Mem.le.refl _,ok,E.keep [0,2,8,9,10],(ir 0),h3,h6⟩
 rotate_left
 ·intro e a w _ hO
  obtain ⟨rfl,m297,c298,M299,c301,M302,hle,ok,E,h300,h303⟩:=hO
  have le_m0:=le_m0.trans hle
  have hl_1:=(mL qah).up hle hl_1
  refine qbh ?_
  exact fin hF ⟨m297,c298,M299,c301,M302,le_m0,ok,E.d,trivial,h300,h303⟩
 rintro ⟨v30,v31⟩ a w r ⟨m32,c34,M35,c37,M38,hle,ok,E,r33,h36,h39⟩ hF
 replace hF:qb7 (qaO N) (qaP N) N l_1 count_2 v30 v31 = some r:=hF
 unfold qb7 at hF
 have le_m0:=le_m0.trans hle
 have hl_1:=(mL qah).up hle hl_1
 refine sg<|lw E (qaQ rfl rfl) fun a E=>wn<|wp_seq<|cg E rfl hF (fun c40 hF=>?_) fun c40 hF=>?_
 ·refine wp_exit<|qaV ?_
  cases hF
  exact so (⟨rfl,⟨m32,c34,M35,c37,M38,le_m0,ok,E.keep [],h36,h39⟩⟩)
 refine wp_skip<|qab<|wp_seq<|wp_block<|sg ?_
 obtain ⟨x41,e42,hF⟩:=bnd hF
 obtain ⟨b43,o44,es45,hl46,rr47,at48,yy49⟩:=ia E 8 10 qbi hl_1 e42
 obtain ⟨c54,c56,rfl,r50,l51,l52,l53,h55,h57⟩:=(qaS.1 rr47)
 refine lv E ok (yy49 _ _) fun a E=>lv E ok (qat (cs:=[vi x41.Kind,vs x41.Text,vs x41.Name,vs x41.Style,c54,c56]) qdJ rfl rfl (qae.ro at48)) fun a E=>qa4 E ok qbq rfl rfl fun b58 a w E ok=>qad E ok 0 rfl rfl rfl qfp rfl rfl ⟨rfl,rfl,rfl,rfl,(qdb h55),(qdb h57),trivial⟩ rfl rfl fun w ok=>wn<|wp_block<|sg<|fk E ok qaE qam rfl 0 rfl rfl fun a E=>lw E (qal rfl rfl) fun a E=>aw E rfl fun a E=>cf E rfl hF (fun c59 hF=>?_) fun c59 hF=>?_
 ·refine qac<|mv E rfl fun a E=>fk E ok qd3 qan rfl 0 rfl rfl fun a E=>lw E (qap (ps:=[(0,.const (vi 1)),(3,.tmp 32)]) (qs:=[(0,[vi 1]),(3,[vs x41.Text])]) (cs:=[vi 1,vi 0,vi 0,vs x41.Text]) qcY qcW rfl ⟨rfl,rfl,rfl,⟨rfl,rfl,rfl,trivial⟩⟩ rfl) fun a E=>?_
  obtain ⟨r60,e61,hF⟩:=bnd hF
  replace ok:Ok u m32 ([(pb0,oc 57 [c34,c37])] :: M35 :: M38 :: [(b58,oc 82 [vi x41.Kind,vs x41.Text,vs x41.Name,vs x41.Style,c54,c56])] :: S) w:=(ok.pk 4 [1,2,3,0] rfl (by decide))
  refine qaf E qfH rfl (qa8 N _ (Ins.mk 1 0 0 x41.Text) ⟨rfl,(ir 1),(ir 0),(ir 0),l51⟩ v31 h36 h39 e61 hG ok) rfl rfl ?_
  rintro _ w ⟨m62,c64,M65,c67,M68,rfl,hle,ok,r63,h66,h69⟩
  have le_m0:=le_m0.trans hle
  have hl_1:=(mL qah).up hle hl_1
  have h55:=(mL qaD).up hle h55
  have h57:=(mL qah).up hle h57
  have at48:=At.up hle at48
  refine ⟨_,rfl,fun a E=>?_⟩
  refine wpList_nil<|qag<|qag<|qab<|qac<|lw E (qaG rfl rfl (InR.inc r33 (qao hl_1) c40)) fun a E=>mv E rfl fun a E=>wpList_nil ?_
  cases hF
  exact qau ⟨m62,c64,M65,c67,M68,le_m0,(ok.pk 4 [0,1,2] rfl (by decide)),E.keep [0,2,8,9,10],(InR.inc r33 (qao hl_1) c40),h66,h69⟩
 refine sg<|fk E ok qaE qam rfl 0 rfl rfl fun a E=>lw E (qal rfl rfl) fun a E=>aw E rfl fun a E=>cf E rfl hF (fun c70 hF=>?_) fun c70 hF=>?_
 ·refine qac<|mz E rfl rfl fun a E=>mv E rfl fun a E=>?_
  obtain ⟨r71,e72,hF⟩:=bnd hF
  replace ok:Ok u m32 ([(pb0,oc 57 [c34,c37])] :: M35 :: M38 :: [(b58,oc 82 [vi x41.Kind,vs x41.Text,vs x41.Name,vs x41.Style,c54,c56])] :: S) w:=(ok.pk 4 [1,2,3,0] rfl (by decide))
  refine qaf E qlA rfl (qdn N count_2 lcount_2 v31 h36 h39 e72 hG ok) rfl rfl ?_
  rintro _ w ⟨m73,c75,M76,c78,M79,rfl,hle,ok,r74,h77,h80⟩
  have le_m0:=le_m0.trans hle
  have hl_1:=(mL qah).up hle hl_1
  have h55:=(mL qaD).up hle h55
  have h57:=(mL qah).up hle h57
  have at48:=At.up hle at48
  refine ⟨_,rfl,fun a E=>?_⟩
  refine lw E (qap (ps:=[(0,.const (vi 6)),(1,.tmp 42)]) (qs:=[(0,[vi 6]),(1,[vi r71.1])]) (cs:=[vi 6,vi r71.1,vi 0,(vs ([]))]) qcY qcW rfl ⟨rfl,rfl,rfl,⟨rfl,rfl,rfl,trivial⟩⟩ rfl) fun a E=>bd hF fun r81 e82 hF=>qaf E qfH rfl (qa8 N _ (Ins.mk 6 r71.1 0 ([])) ⟨rfl,(ir 6),r74,(ir 0),(Nat.zero_le _)⟩ r71.2 h77 h80 e82 hG ok) rfl rfl ?_
  rintro _ w ⟨m83,c85,M86,c88,M89,rfl,hle,ok,r84,h87,h90⟩
  have le_m0:=le_m0.trans hle
  have hl_1:=(mL qah).up hle hl_1
  have h55:=(mL qaD).up hle h55
  have h57:=(mL qah).up hle h57
  have at48:=At.up hle at48
  refine ⟨_,rfl,fun a E=>?_⟩
  refine wpList_nil<|qag<|qag<|qab<|qac<|lw E (qaG rfl rfl (InR.inc r33 (qao hl_1) c40)) fun a E=>mv E rfl fun a E=>wpList_nil ?_
  cases hF
  exact qau ⟨m83,c85,M86,c88,M89,le_m0,(ok.pk 4 [0,1,2] rfl (by decide)),E.keep [0,2,8,9,10],(InR.inc r33 (qao hl_1) c40),h87,h90⟩
 refine sg<|fk E ok qaE qam rfl 0 rfl rfl fun a E=>lw E (qal rfl rfl) fun a E=>mv E rfl fun a E=>bw E 49 hF (fun c91 hF E=>?_) fun c91 hF E=>?_
 ·as_aux_lemma =>
   refine lsz E fun a E=>pf E rfl rfl fun a E=>aw E rfl fun a E=>c_if E rfl (fun h=>by cases h) (fun _=>?_)
   refine sg<|fk E ok qaE qam rfl 0 rfl rfl fun a E=>lw E (qal rfl rfl) fun a E=>aw E rfl fun a E=>cf E rfl hF (fun c200 hF=>?_) fun c200 hF=>?_
   ·refine sg<|mv E rfl fun a E=>fk E ok qaY qan rfl 0 rfl rfl fun a E=>lw E (qap (ps:=[(0,.const (vi 2)),(3,.tmp 66)]) (qs:=[(0,[vi 2]),(3,[vs x41.Name])]) (cs:=[vi 2,vi 0,vi 0,vs x41.Name]) qcY qcW rfl ⟨rfl,rfl,rfl,⟨rfl,rfl,rfl,trivial⟩⟩ rfl) fun a E=>?_
    obtain ⟨r201,e202,hF⟩:=bnd hF
    replace ok:Ok u m32 ([(pb0,oc 57 [c34,c37])] :: M35 :: M38 :: [(b58,oc 82 [vi x41.Kind,vs x41.Text,vs x41.Name,vs x41.Style,c54,c56])] :: S) w:=(ok.pk 4 [1,2,3,0] rfl (by decide))
    refine qaf E qfH rfl (qa8 N _ (Ins.mk 2 0 0 x41.Name) ⟨rfl,(ir 2),(ir 0),(ir 0),l52⟩ v31 h36 h39 e202 hG ok) rfl rfl ?_
    rintro _ w ⟨m203,c205,M206,c208,M209,rfl,hle,ok,r204,h207,h210⟩
    have le_m0:=le_m0.trans hle
    have hl_1:=(mL qah).up hle hl_1
    have h55:=(mL qaD).up hle h55
    have h57:=(mL qah).up hle h57
    have at48:=At.up hle at48
    refine ⟨_,rfl,fun a E=>?_⟩
    refine wn<|sg<|mv E rfl fun a E=>fk E ok qcA qck rfl 3 rfl rfl fun a E=>mv E rfl fun a E=>bd hF fun r211 e212 hF=>qaf E qlB rfl (ih_compile_compiler_parts _ x41.Parts h57 count_2 lcount_2 r201.2 h207 h210 e212 hG ok) rfl rfl ?_
    rintro _ w ⟨m213,c214,M215,c217,M218,rfl,hle,ok,h216,h219⟩
    have le_m0:=le_m0.trans hle
    have hl_1:=(mL qah).up hle hl_1
    have h55:=(mL qaD).up hle h55
    have h57:=(mL qah).up hle h57
    have at48:=At.up hle at48
    refine ⟨_,rfl,fun a E=>?_⟩
    refine wn<|qac<|mv E rfl fun a E=>fk E ok qaY qan rfl 3 rfl rfl fun a E=>lw E (qap (ps:=[(0,.const (vi 3)),(3,.tmp 76)]) (qs:=[(0,[vi 3]),(3,[vs x41.Name])]) (cs:=[vi 3,vi 0,vi 0,vs x41.Name]) qcY qcW rfl ⟨rfl,rfl,rfl,⟨rfl,rfl,rfl,trivial⟩⟩ rfl) fun a E=>bd hF fun r220 e221 hF=>qaf E qfH rfl (qa8 N _ (Ins.mk 3 0 0 x41.Name) ⟨rfl,(ir 3),(ir 0),(ir 0),l52⟩ r211 h216 h219 e221 hG ok) rfl rfl ?_
    rintro _ w ⟨m222,c224,M225,c227,M228,rfl,hle,ok,r223,h226,h229⟩
    have le_m0:=le_m0.trans hle
    have hl_1:=(mL qah).up hle hl_1
    have h55:=(mL qaD).up hle h55
    have h57:=(mL qah).up hle h57
    have at48:=At.up hle at48
    refine ⟨_,rfl,fun a E=>?_⟩
    refine wpList_nil<|qag<|qag<|qab<|qac<|lw E (qaG rfl rfl (InR.inc r33 (qao hl_1) c40)) fun a E=>mv E rfl fun a E=>wpList_nil ?_
    cases hF
    exact qau ⟨m222,c224,M225,c227,M228,le_m0,(ok.pk 4 [0,1,2] rfl (by decide)),E.keep [0,2,8,9,10],(InR.inc r33 (qao hl_1) c40),h226,h229⟩
   refine sg<|fk E ok qaE qam rfl 0 rfl rfl fun a E=>bd hF fun r230 e231 hF=>lc E qhZ rfl (qcl N x41.Kind r50 e231 hG ok) fun w ok a E=>aw E rfl fun a E=>cf E rfl hF (fun c232 hF=>?_) fun c232 hF=>?_
   ·refine qac<|mv E rfl fun a E=>lv E ok (qat (cs:=[vi x41.Kind,vs x41.Text,vs x41.Name,vs x41.Style,c54,c56]) qdJ rfl rfl (qae.own 0 rfl rfl)) fun a E=>mv E rfl fun a E=>?_
    obtain ⟨r233,e234,hF⟩:=bnd hF
    replace ok:Ok u m32 ([(pb0,oc 57 [c34,c37])] :: M35 :: M38 :: [(b58,oc 82 [vi x41.Kind,vs x41.Text,vs x41.Name,vs x41.Style,c54,c56])] :: S) w:=(ok.pk 4 [1,2,3,0] rfl (by decide))
    refine qaf E qoO rfl (ih_compile_compiler_selection _ x41 (qaS.2 ⟨_,_,rfl,r50,l51,l52,l53,h55,h57⟩) count_2 lcount_2 v31 h36 h39 e234 hG ok) rfl rfl ?_
    rintro _ w ⟨m235,c236,M237,c239,M240,rfl,hle,ok,h238,h241⟩
    have le_m0:=le_m0.trans hle
    have hl_1:=(mL qah).up hle hl_1
    have h55:=(mL qaD).up hle h55
    have h57:=(mL qah).up hle h57
    have at48:=At.up hle at48
    refine ⟨_,rfl,fun a E=>?_⟩
    refine wpList_nil<|qag<|qag<|qab<|qac<|lw E (qaG rfl rfl (InR.inc r33 (qao hl_1) c40)) fun a E=>mv E rfl fun a E=>wpList_nil ?_
    cases hF
    exact qau ⟨m235,c236,M237,c239,M240,le_m0,(ok.pk 4 [0,1,2] rfl (by decide)),E.keep [0,2,8,9,10],(InR.inc r33 (qao hl_1) c40),h238,h241⟩
   refine bd hF fun o242 hJ hF=>qaJ (Q':=fun e a w=>e = .normal ∧ ∃ m243 c244 M245 c247 M248,m32.le m243 ∧ Ok u m243 ([(b58,oc 82 [vi x41.Kind,vs x41.Text,vs x41.Name,vs x41.Style,c54,c56])] :: [(pb0,oc 57 [c244,c247])] :: M245 :: M248 :: S) w ∧ Env 88 a [(0,vp pb0),(2,vs count_2),(8,vl_1),(9,(vi (l_1.length:Int))),(10,vi v30)] ∧ ORow 9 1 pS m243 c244 o242.Code.Names M245 ∧ ORow 47 4 pIns m243 c247 o242.Code.Ins M248) ?_ ?_
   rotate_left
   ·intro e a w hO
    obtain ⟨rfl,m290,c291,M292,c294,M295,hle,ok,E,h293,h296⟩:=hO
    have le_m0:=le_m0.trans hle
    have hl_1:=(mL qah).up hle hl_1
    have h55:=(mL qaD).up hle h55
    have h57:=(mL qah).up hle h57
    have at48:=At.up hle at48
    refine qag<|qag<|qab<|qac<|lw E (qaG rfl rfl (InR.inc r33 (qao hl_1) c40)) fun a E=>mv E rfl fun a E=>wpList_nil ?_
    cases hF
    exact qau ⟨m290,c291,M292,c294,M295,le_m0,(ok.pk 4 [1,2,3] rfl (by decide)),E.keep [0,2,8,9,10],(InR.inc r33 (qao hl_1) c40),h293,h296⟩
   have hF:=hJ
   have le_m32:=Mem.le.refl m32
   obtain ⟨r250,e251,hF⟩:=bnd hF
   obtain ⟨r253,e254,hF⟩:=bnd hF
   obtain ⟨r263,e264,hF⟩:=bnd hF
   obtain rfl:=sj hF
   refine qbB [] (Cls u m32 ([(b58,oc 82 [vi x41.Kind,vs x41.Text,vs x41.Name,vs x41.Style,c54,c56])] :: [])) (Cls u m32 ([(b58,oc 82 [vi x41.Kind,vs x41.Text,vs x41.Name,vs x41.Style,c54,c56])] :: [])) (by kernel_rfl) ?_
   intro w hw
   replace ok:=qbS ok hw
   clear hw
   have h55_o:=h55
   have h57_o:=h57
   refine qaz (cl1 (cq le_m32 ok [0] rfl) (cq le_m32 ok [0] rfl)) fun hT=>kt 0 E rfl hT (qaq rfl) fun a E=>kt 1 E rfl hT (qak qaE rfl) fun a E=>kt 2 E rfl hT (qaA qam rfl (qae.cown 0 rfl rfl)) fun a E=>kt 4 E rfl hT (qaq rfl) fun a E=>kt 5 E rfl hT (qak qaY rfl) fun a E=>kt 6 E rfl hT (qaA qan rfl (qae.cown 0 rfl rfl)) fun a E=>kt 8 E rfl hT (qak qba rfl) fun a E=>kt 9 E rfl hT (qaA qan rfl (qae.cown 0 rfl rfl)) fun a E=>qa3 [3] (by kernel_rfl) rfl (qa7 ?_)
   ·refine wo rfl<|qaf E qoX rfl (qgy N x41.Kind r50 e251 hG ok) rfl rfl ?_
    rintro _ w ⟨⟨rfl,ok⟩,r273⟩
    refine ⟨_,rfl,fun a E=>?_⟩
    refine wn<|qaz (cl1 (cq le_m32 ok [0] rfl) (cq le_m32 ok [0] rfl)) fun hT=>qa3 [7] (by kernel_rfl) rfl (qa7 ?_)
    ·refine qcK (o:=_) rfl ?_
     replace ok:Ok u m32 ([(pb0,oc 57 [c34,c37])] :: M35 :: M38 :: [(b58,oc 82 [vi x41.Kind,vs x41.Text,vs x41.Name,vs x41.Style,c54,c56])] :: S) w:=(ok.pk 4 [1,2,3,0] rfl (by decide))
     refine qaf E qlA rfl (qdn N x41.Name l52 v31 h36 h39 e254 hG ok) rfl rfl ?_
     rintro _ w ⟨m274,c276,M277,c279,M280,rfl,hle,ok,r275,h278,h281⟩
     have le_m0:=le_m0.trans hle
     have le_m32:=le_m32.trans hle
     have hl_1:=(mL qah).up hle hl_1
     have h55:=(mL qaD).up hle h55
     have h57:=(mL qah).up hle h57
     have at48:=At.up hle at48
     refine ⟨_,rfl,fun a E=>?_⟩
     refine wn<|qaz (cl1 (cq le_m32 ok [3] rfl) (cq le_m32 ok [3] rfl)) fun hT=>kt 10 E rfl hT (qap (ps:=[(0,.tmp 17),(1,.tmp 21),(3,.tmp 23)]) (qs:=[(0,[vi r250]),(1,[vi r253.1]),(3,[vs x41.Style])]) (cs:=[vi r250,vi r253.1,vi 0,vs x41.Style]) qcY qcW rfl ⟨rfl,rfl,rfl,⟨rfl,rfl,rfl,⟨rfl,rfl,rfl,trivial⟩⟩⟩ rfl) fun a E=>qa3 [11] (by kernel_rfl) rfl (qa7 ?_)
     ·refine wo rfl<|qaf E qfH rfl (qa8 N _ (Ins.mk r250 r253.1 0 x41.Style) ⟨rfl,r273,r275,(ir 0),l53⟩ r253.2 h278 h281 e264 hG ok) rfl rfl ?_
      rintro _ w ⟨m282,c284,M285,c287,M288,rfl,hle,ok,r283,h286,h289⟩
      have le_m0:=le_m0.trans hle
      have le_m32:=le_m32.trans hle
      have hl_1:=(mL qah).up hle hl_1
      have h55:=(mL qaD).up hle h55
      have h57:=(mL qah).up hle h57
      have at48:=At.up hle at48
      refine ⟨_,rfl,fun a E=>?_⟩
      refine wn<|qaz (cl1 (cq le_m32 ok [3] rfl) (cq le_m32 ok [3] rfl)) fun hT=>qbI (by kernel_rfl) ?_
      exact ⟨rfl,⟨m282,c284,M285,c287,M288,le_m32,(ok.pk 4 [3,0,1,2] rfl (by decide)),E.keep [0,2,8,9,10],h286,h289⟩⟩
 refine fk E ok qcA qck rfl 0 rfl rfl fun a E=>lv E ok (qbe qbi h57 rfl) fun a E=>lw E (qal rfl rfl) fun a E=>pt E rfl rfl fun a E=>aw E rfl fun a E=>cf E rfl hF (fun c92 hF=>?_) fun c92 hF=>?_
 ·refine qac<|mv E rfl fun a E=>fk E ok qaY qan rfl 0 rfl rfl fun a E=>lw E (qap (ps:=[(0,.const (vi 4)),(3,.tmp 57)]) (qs:=[(0,[vi 4]),(3,[vs x41.Name])]) (cs:=[vi 4,vi 0,vi 0,vs x41.Name]) qcY qcW rfl ⟨rfl,rfl,rfl,⟨rfl,rfl,rfl,trivial⟩⟩ rfl) fun a E=>?_
  obtain ⟨r93,e94,hF⟩:=bnd hF
  replace ok:Ok u m32 ([(pb0,oc 57 [c34,c37])] :: M35 :: M38 :: [(b58,oc 82 [vi x41.Kind,vs x41.Text,vs x41.Name,vs x41.Style,c54,c56])] :: S) w:=(ok.pk 4 [1,2,3,0] rfl (by decide))
  refine qaf E qfH rfl (qa8 N _ (Ins.mk 4 0 0 x41.Name) ⟨rfl,(ir 4),(ir 0),(ir 0),l52⟩ v31 h36 h39 e94 hG ok) rfl rfl ?_
  rintro _ w ⟨m95,c97,M98,c100,M101,rfl,hle,ok,r96,h99,h102⟩
  have le_m0:=le_m0.trans hle
  have hl_1:=(mL qah).up hle hl_1
  have h55:=(mL qaD).up hle h55
  have h57:=(mL qah).up hle h57
  have at48:=At.up hle at48
  refine ⟨_,rfl,fun a E=>?_⟩
  refine wpList_nil<|qag<|qag<|qab<|qac<|lw E (qaG rfl rfl (InR.inc r33 (qao hl_1) c40)) fun a E=>mv E rfl fun a E=>wpList_nil ?_
  cases hF
  exact qau ⟨m95,c97,M98,c100,M101,le_m0,(ok.pk 4 [0,1,2] rfl (by decide)),E.keep [0,2,8,9,10],(InR.inc r33 (qao hl_1) c40),h99,h102⟩
 refine sg<|fk E ok qaE qam rfl 0 rfl rfl fun a E=>lw E (qal rfl rfl) fun a E=>aw E rfl fun a E=>cf E rfl hF (fun c103 hF=>?_) fun c103 hF=>?_
 ·refine sg<|mv E rfl fun a E=>fk E ok qaY qan rfl 0 rfl rfl fun a E=>lw E (qap (ps:=[(0,.const (vi 2)),(3,.tmp 66)]) (qs:=[(0,[vi 2]),(3,[vs x41.Name])]) (cs:=[vi 2,vi 0,vi 0,vs x41.Name]) qcY qcW rfl ⟨rfl,rfl,rfl,⟨rfl,rfl,rfl,trivial⟩⟩ rfl) fun a E=>?_
  obtain ⟨r104,e105,hF⟩:=bnd hF
  replace ok:Ok u m32 ([(pb0,oc 57 [c34,c37])] :: M35 :: M38 :: [(b58,oc 82 [vi x41.Kind,vs x41.Text,vs x41.Name,vs x41.Style,c54,c56])] :: S) w:=(ok.pk 4 [1,2,3,0] rfl (by decide))
  refine qaf E qfH rfl (qa8 N _ (Ins.mk 2 0 0 x41.Name) ⟨rfl,(ir 2),(ir 0),(ir 0),l52⟩ v31 h36 h39 e105 hG ok) rfl rfl ?_
  rintro _ w ⟨m106,c108,M109,c111,M112,rfl,hle,ok,r107,h110,h113⟩
  have le_m0:=le_m0.trans hle
  have hl_1:=(mL qah).up hle hl_1
  have h55:=(mL qaD).up hle h55
  have h57:=(mL qah).up hle h57
  have at48:=At.up hle at48
  refine ⟨_,rfl,fun a E=>?_⟩
  refine wn<|sg<|mv E rfl fun a E=>fk E ok qcA qck rfl 3 rfl rfl fun a E=>mv E rfl fun a E=>bd hF fun r114 e115 hF=>qaf E qlB rfl (ih_compile_compiler_parts _ x41.Parts h57 count_2 lcount_2 r104.2 h110 h113 e115 hG ok) rfl rfl ?_
  rintro _ w ⟨m116,c117,M118,c120,M121,rfl,hle,ok,h119,h122⟩
  have le_m0:=le_m0.trans hle
  have hl_1:=(mL qah).up hle hl_1
  have h55:=(mL qaD).up hle h55
  have h57:=(mL qah).up hle h57
  have at48:=At.up hle at48
  refine ⟨_,rfl,fun a E=>?_⟩
  refine wn<|qac<|mv E rfl fun a E=>fk E ok qaY qan rfl 3 rfl rfl fun a E=>lw E (qap (ps:=[(0,.const (vi 3)),(3,.tmp 76)]) (qs:=[(0,[vi 3]),(3,[vs x41.Name])]) (cs:=[vi 3,vi 0,vi 0,vs x41.Name]) qcY qcW rfl ⟨rfl,rfl,rfl,⟨rfl,rfl,rfl,trivial⟩⟩ rfl) fun a E=>bd hF fun r123 e124 hF=>qaf E qfH rfl (qa8 N _ (Ins.mk 3 0 0 x41.Name) ⟨rfl,(ir 3),(ir 0),(ir 0),l52⟩ r114 h119 h122 e124 hG ok) rfl rfl ?_
  rintro _ w ⟨m125,c127,M128,c130,M131,rfl,hle,ok,r126,h129,h132⟩
  have le_m0:=le_m0.trans hle
  have hl_1:=(mL qah).up hle hl_1
  have h55:=(mL qaD).up hle h55
  have h57:=(mL qah).up hle h57
  have at48:=At.up hle at48
  refine ⟨_,rfl,fun a E=>?_⟩
  refine wpList_nil<|qag<|qag<|qab<|qac<|lw E (qaG rfl rfl (InR.inc r33 (qao hl_1) c40)) fun a E=>mv E rfl fun a E=>wpList_nil ?_
  cases hF
  exact qau ⟨m125,c127,M128,c130,M131,le_m0,(ok.pk 4 [0,1,2] rfl (by decide)),E.keep [0,2,8,9,10],(InR.inc r33 (qao hl_1) c40),h129,h132⟩
 refine sg<|fk E ok qaE qam rfl 0 rfl rfl fun a E=>bd hF fun r133 e134 hF=>lc E qhZ rfl (qcl N x41.Kind r50 e134 hG ok) fun w ok a E=>aw E rfl fun a E=>cf E rfl hF (fun c135 hF=>?_) fun c135 hF=>?_
 ·refine qac<|mv E rfl fun a E=>lv E ok (qat (cs:=[vi x41.Kind,vs x41.Text,vs x41.Name,vs x41.Style,c54,c56]) qdJ rfl rfl (qae.own 0 rfl rfl)) fun a E=>mv E rfl fun a E=>?_
  obtain ⟨r136,e137,hF⟩:=bnd hF
  replace ok:Ok u m32 ([(pb0,oc 57 [c34,c37])] :: M35 :: M38 :: [(b58,oc 82 [vi x41.Kind,vs x41.Text,vs x41.Name,vs x41.Style,c54,c56])] :: S) w:=(ok.pk 4 [1,2,3,0] rfl (by decide))
  refine qaf E qoO rfl (ih_compile_compiler_selection _ x41 (qaS.2 ⟨_,_,rfl,r50,l51,l52,l53,h55,h57⟩) count_2 lcount_2 v31 h36 h39 e137 hG ok) rfl rfl ?_
  rintro _ w ⟨m138,c139,M140,c142,M143,rfl,hle,ok,h141,h144⟩
  have le_m0:=le_m0.trans hle
  have hl_1:=(mL qah).up hle hl_1
  have h55:=(mL qaD).up hle h55
  have h57:=(mL qah).up hle h57
  have at48:=At.up hle at48
  refine ⟨_,rfl,fun a E=>?_⟩
  refine wpList_nil<|qag<|qag<|qab<|qac<|lw E (qaG rfl rfl (InR.inc r33 (qao hl_1) c40)) fun a E=>mv E rfl fun a E=>wpList_nil ?_
  cases hF
  exact qau ⟨m138,c139,M140,c142,M143,le_m0,(ok.pk 4 [0,1,2] rfl (by decide)),E.keep [0,2,8,9,10],(InR.inc r33 (qao hl_1) c40),h141,h144⟩
 refine bd hF fun o145 hJ hF=>qaJ (Q':=fun e a w=>e = .normal ∧ ∃ m146 c147 M148 c150 M151,m32.le m146 ∧ Ok u m146 ([(b58,oc 82 [vi x41.Kind,vs x41.Text,vs x41.Name,vs x41.Style,c54,c56])] :: [(pb0,oc 57 [c147,c150])] :: M148 :: M151 :: S) w ∧ Env 88 a [(0,vp pb0),(2,vs count_2),(8,vl_1),(9,(vi (l_1.length:Int))),(10,vi v30)] ∧ ORow 9 1 pS m146 c147 o145.Code.Names M148 ∧ ORow 47 4 pIns m146 c150 o145.Code.Ins M151) ?_ ?_
 rotate_left
 ·intro e a w hO
  obtain ⟨rfl,m193,c194,M195,c197,M198,hle,ok,E,h196,h199⟩:=hO
  have le_m0:=le_m0.trans hle
  have hl_1:=(mL qah).up hle hl_1
  have h55:=(mL qaD).up hle h55
  have h57:=(mL qah).up hle h57
  have at48:=At.up hle at48
  refine qag<|qag<|qab<|qac<|lw E (qaG rfl rfl (InR.inc r33 (qao hl_1) c40)) fun a E=>mv E rfl fun a E=>wpList_nil ?_
  cases hF
  exact qau ⟨m193,c194,M195,c197,M198,le_m0,(ok.pk 4 [1,2,3] rfl (by decide)),E.keep [0,2,8,9,10],(InR.inc r33 (qao hl_1) c40),h196,h199⟩
 have hF:=hJ
 have le_m32:=Mem.le.refl m32
 obtain ⟨r153,e154,hF⟩:=bnd hF
 obtain ⟨r156,e157,hF⟩:=bnd hF
 obtain ⟨r166,e167,hF⟩:=bnd hF
 obtain rfl:=sj hF
 refine qbB [] (Cls u m32 ([(b58,oc 82 [vi x41.Kind,vs x41.Text,vs x41.Name,vs x41.Style,c54,c56])] :: [])) (Cls u m32 ([(b58,oc 82 [vi x41.Kind,vs x41.Text,vs x41.Name,vs x41.Style,c54,c56])] :: [])) (by kernel_rfl) ?_
 intro w hw
 replace ok:=qbS ok hw
 clear hw
 have h55_o:=h55
 have h57_o:=h57
 refine qaz (cl1 (cq le_m32 ok [0] rfl) (cq le_m32 ok [0] rfl)) fun hT=>kt 0 E rfl hT (qaq rfl) fun a E=>kt 1 E rfl hT (qak qaE rfl) fun a E=>kt 2 E rfl hT (qaA qam rfl (qae.cown 0 rfl rfl)) fun a E=>kt 4 E rfl hT (qaq rfl) fun a E=>kt 5 E rfl hT (qak qaY rfl) fun a E=>kt 6 E rfl hT (qaA qan rfl (qae.cown 0 rfl rfl)) fun a E=>kt 8 E rfl hT (qak qba rfl) fun a E=>kt 9 E rfl hT (qaA qan rfl (qae.cown 0 rfl rfl)) fun a E=>qa3 [3] (by kernel_rfl) rfl (qa7 ?_)
 ·refine wo rfl<|qaf E qoX rfl (qgy N x41.Kind r50 e154 hG ok) rfl rfl ?_
  rintro _ w ⟨⟨rfl,ok⟩,r176⟩
  refine ⟨_,rfl,fun a E=>?_⟩
  refine wn<|qaz (cl1 (cq le_m32 ok [0] rfl) (cq le_m32 ok [0] rfl)) fun hT=>qa3 [7] (by kernel_rfl) rfl (qa7 ?_)
  ·refine qcK (o:=_) rfl ?_
   replace ok:Ok u m32 ([(pb0,oc 57 [c34,c37])] :: M35 :: M38 :: [(b58,oc 82 [vi x41.Kind,vs x41.Text,vs x41.Name,vs x41.Style,c54,c56])] :: S) w:=(ok.pk 4 [1,2,3,0] rfl (by decide))
   refine qaf E qlA rfl (qdn N x41.Name l52 v31 h36 h39 e157 hG ok) rfl rfl ?_
   rintro _ w ⟨m177,c179,M180,c182,M183,rfl,hle,ok,r178,h181,h184⟩
   have le_m0:=le_m0.trans hle
   have le_m32:=le_m32.trans hle
   have hl_1:=(mL qah).up hle hl_1
   have h55:=(mL qaD).up hle h55
   have h57:=(mL qah).up hle h57
   have at48:=At.up hle at48
   refine ⟨_,rfl,fun a E=>?_⟩
   refine wn<|qaz (cl1 (cq le_m32 ok [3] rfl) (cq le_m32 ok [3] rfl)) fun hT=>kt 10 E rfl hT (qap (ps:=[(0,.tmp 17),(1,.tmp 21),(3,.tmp 23)]) (qs:=[(0,[vi r153]),(1,[vi r156.1]),(3,[vs x41.Style])]) (cs:=[vi r153,vi r156.1,vi 0,vs x41.Style]) qcY qcW rfl ⟨rfl,rfl,rfl,⟨rfl,rfl,rfl,⟨rfl,rfl,rfl,trivial⟩⟩⟩ rfl) fun a E=>qa3 [11] (by kernel_rfl) rfl (qa7 ?_)
   ·refine wo rfl<|qaf E qfH rfl (qa8 N _ (Ins.mk r153 r156.1 0 x41.Style) ⟨rfl,r176,r178,(ir 0),l53⟩ r156.2 h181 h184 e167 hG ok) rfl rfl ?_
    rintro _ w ⟨m185,c187,M188,c190,M191,rfl,hle,ok,r186,h189,h192⟩
    have le_m0:=le_m0.trans hle
    have le_m32:=le_m32.trans hle
    have hl_1:=(mL qah).up hle hl_1
    have h55:=(mL qaD).up hle h55
    have h57:=(mL qah).up hle h57
    have at48:=At.up hle at48
    refine ⟨_,rfl,fun a E=>?_⟩
    refine wn<|qaz (cl1 (cq le_m32 ok [3] rfl) (cq le_m32 ok [3] rfl)) fun hT=>qbI (by kernel_rfl) ?_
    exact ⟨rfl,⟨m185,c187,M188,c190,M191,le_m32,(ok.pk 4 [3,0,1,2] rfl (by decide)),E.keep [0,2,8,9,10],h189,h192⟩⟩
theorem qgb (N:Nat) (ih_compile_compiler_parts:qcG N) (ih_compile_compiler_selection:qch N):qch (N + 1):=by
 intro u m0 S w vx_1 x_1 hx_1 count_2 lcount_2 pb0 c9 M10 c12 M13 x0 h11 h14 r hF hG ok
 obtain ⟨c5,c7,rfl,r1,l2,l3,l4,h6,h8⟩:=(qaS.1 hx_1)
 have le_m0:=Mem.le.refl m0
 have hF0:qbZ (qaO N) (qaP N) N x_1 count_2 x0 = some r:=hF
 have hF:=hF0
 clear hF0
 unfold qbZ at hF
 refine en (qgJ u m0 S pb0 x0 c9 M10 c12 M13) r Tryz.func52 rfl rfl rfl (by rintro a w ⟨m1,c15,M16,c18,M19,hle,ok,hd,hrv,h0,h1⟩; exact qbC [] hd rfl hrv ⟨m1,c15,M16,c18,M19,rfl,hle,ok,h0,h1⟩) fun fin a E=>sg<|qfy E ok rfl rfl rfl fun b21 a w E ok=>wn<|wp_seq<|sg<|fk E ok qaE qam rfl 0 rfl rfl fun a E=>lw E (qbu rfl rfl) fun a E=>wn<|bd hF fun o22 hJ hF=>qaJ (Q':=fun e a w=>e = .normal ∧ Ok u m0 ([(b21,oc 82 [vi x_1.Kind,vs x_1.Text,vs x_1.Name,vs x_1.Style,c5,c7])] :: [(pb0,oc 57 [c9,c12])] :: M10 :: M13 :: S) w ∧ Env 104 a [(0,vp pb0),(2,vs o22),(4,vp b21)] ∧ o22.length ≤ LIMS) ?_ ?_
 ·have hF:=hJ
  refine cg E rfl hF (fun c24 hF=>?_) fun c24 hF=>?_
  ·refine wp_skip ?_
   cases hF
   exact ⟨rfl,⟨ok,E.keep [0,2,4],lcount_2⟩⟩
  refine qac<|fk E ok qaY qan rfl 0 rfl rfl fun a E=>av E rfl fun a E=>wpList_nil ?_
  cases hF
  exact ⟨rfl,⟨ok,E.keep [0,2,4],l3⟩⟩
 intro e a w hO
 obtain ⟨rfl,ok,E,l25⟩:=hO
 refine qab<|wp_seq<|bd hF fun o26 hJ hF=>qaJ (Q':=fun e a w=>e = .normal ∧ ∃ m27 c28 M29 c31 M32,m0.le m27 ∧ Ok u m27 ([(b21,oc 82 [vi x_1.Kind,vs x_1.Text,vs x_1.Name,vs x_1.Style,c5,c7])] :: [(pb0,oc 57 [c28,c31])] :: M29 :: M32 :: S) w ∧ Env 104 a [(0,vp pb0),(2,vs o22),(4,vp b21)] ∧ ORow 9 1 pS m27 c28 o26.Code.Names M29 ∧ ORow 47 4 pIns m27 c31 o26.Code.Ins M32) ?_ ?_
 ·have hF:=hJ
  obtain ⟨r34,e35,hF⟩:=bnd hF
  obtain ⟨r44,e45,hF⟩:=bnd hF
  obtain rfl:=sj hF
  refine qbB [] (Cls u m0 ([(b21,oc 82 [vi x_1.Kind,vs x_1.Text,vs x_1.Name,vs x_1.Style,c5,c7])] :: [])) (Cls u m0 ([(b21,oc 82 [vi x_1.Kind,vs x_1.Text,vs x_1.Name,vs x_1.Style,c5,c7])] :: [])) (by kernel_rfl) ?_
  intro w hw
  replace ok:=qbS ok hw
  clear hw
  have h6_o:=h6
  have h8_o:=h8
  refine qaz (cl1 (cq le_m0 ok [0] rfl) (cq le_m0 ok [0] rfl)) fun hT=>kt 0 E rfl hT (qaq rfl) fun a E=>kt 1 E rfl hT (qaq rfl) fun a E=>kt 2 E rfl hT (qak qaY rfl) fun a E=>kt 3 E rfl hT (qaA qan rfl (qae.cown 0 rfl rfl)) fun a E=>kt 5 E rfl hT (qak qaE rfl) fun a E=>kt 6 E rfl hT (qaA qam rfl (qae.cown 0 rfl rfl)) fun a E=>qa3 [4] (by kernel_rfl) rfl (qa7 ?_)
  ·refine qcK (o:=_) rfl ?_
   replace ok:Ok u m0 ([(pb0,oc 57 [c9,c12])] :: M10 :: M13 :: [(b21,oc 82 [vi x_1.Kind,vs x_1.Text,vs x_1.Name,vs x_1.Style,c5,c7])] :: S) w:=(ok.pk 4 [1,2,3,0] rfl (by decide))
   refine qaf E qlA rfl (qdn N x_1.Name l3 x0 h11 h14 e35 hG ok) rfl rfl ?_
   rintro _ w ⟨m54,c56,M57,c59,M60,rfl,hle,ok,r55,h58,h61⟩
   have le_m0:=le_m0.trans hle
   have h6:=(mL qaD).up hle h6
   have h8:=(mL qah).up hle h8
   refine ⟨_,rfl,fun a E=>?_⟩
   refine wn<|qaz (cl1 (cq le_m0 ok [3] rfl) (cq le_m0 ok [3] rfl)) fun hT=>kt 7 E rfl hT (qap (ps:=[(0,.const (vi 10)),(1,.tmp 23),(2,.tmp 25)]) (qs:=[(0,[vi 10]),(1,[vi r34.1]),(2,[vi x_1.Kind])]) (cs:=[vi 10,vi r34.1,vi x_1.Kind,(vs ([]))]) qcY qcW rfl ⟨rfl,rfl,rfl,⟨rfl,rfl,rfl,⟨rfl,rfl,rfl,trivial⟩⟩⟩ rfl) fun a E=>qa3 [8] (by kernel_rfl) rfl (qa7 ?_)
   ·refine wo rfl<|qaf E qfH rfl (qa8 N _ (Ins.mk 10 r34.1 x_1.Kind ([])) ⟨rfl,(ir 10),r55,r1,(Nat.zero_le _)⟩ r34.2 h58 h61 e45 hG ok) rfl rfl ?_
    rintro _ w ⟨m62,c64,M65,c67,M68,rfl,hle,ok,r63,h66,h69⟩
    have le_m0:=le_m0.trans hle
    have h6:=(mL qaD).up hle h6
    have h8:=(mL qah).up hle h8
    refine ⟨_,rfl,fun a E=>?_⟩
    refine wn<|qaz (cl1 (cq le_m0 ok [3] rfl) (cq le_m0 ok [3] rfl)) fun hT=>qbI (by kernel_rfl) ?_
    exact ⟨rfl,⟨m62,c64,M65,c67,M68,le_m0,(ok.pk 4 [3,0,1,2] rfl (by decide)),E.keep [0,2,4],h66,h69⟩⟩
 intro e a w hO
 obtain ⟨rfl,m70,c71,M72,c74,M75,hle,ok,E,h73,h76⟩:=hO
 have le_m0:=le_m0.trans hle
 have h6:=(mL qaD).up hle h6
 have h8:=(mL qah).up hle h8
 refine qab<|sg<|mv E rfl fun a E=>lw E (qaj rfl) fun a E=>fv E qd4 rfl fun a E=>fk E ok qcB qcH rfl 1 rfl rfl fun a E=>lv E ok (qd8 qcD h76 rfl) fun a E=>aw E rfl fun a E=>wp_seq<|sg<|fv E qbG rfl fun a E=>ld E ok qcq 0 rfl rfl rfl fun a E=>lv E ok (qbe qcd h6 rfl) fun a E=>mv E rfl fun a E=>wn<|wp_block<|bd hF fun o85 hL hF=>qbb _ (fun (s:Int × Compiler) a w=>∃ m86 c88 M89 c91 M92,m70.le m86 ∧ Ok u m86 ([(b21,oc 82 [vi x_1.Kind,vs x_1.Text,vs x_1.Name,vs x_1.Style,c5,c7])] :: [(pb0,oc 57 [c88,c91])] :: M89 :: M92 :: S) w ∧ Env 104 a [(0,vp pb0),(2,vs o22),(4,vp b21),(6,(vi (o26.Code.Ins.length:Int))),(35,c5),(36,(vi (x_1.Cases.length:Int))),(37,vi s.1)] ∧ InR .i64 s.1 ∧ ORow 9 1 pS m86 c88 s.2.Code.Names M89 ∧ ORow 47 4 pIns m86 c91 s.2.Code.Ins M92) (fun (b:Compiler) e a w=>e = (.exit 0) ∧ ∃ m378 c379 M380 c382 M383,m70.le m378 ∧ Ok u m378 ([(b21,oc 82 [vi x_1.Kind,vs x_1.Text,vs x_1.Name,vs x_1.Style,c5,c7])] :: [(pb0,oc 57 [c379,c382])] :: M380 :: M383 :: S) w ∧ Env 104 a [(0,vp pb0),(2,vs o22),(4,vp b21),(6,(vi (o26.Code.Ins.length:Int)))] ∧ ORow 9 1 pS m378 c379 b.Code.Names M380 ∧ ORow 47 4 pIns m378 c382 b.Code.Ins M383) ?_ ?_ N _ a w hL ⟨m70,c71,M72,c74,M75,Mem.le.refl _,ok,E.keep [0,2,4,6,35,36,37],(ir 0),h73,h76⟩
 ·rintro ⟨v94,v95⟩ a w r ⟨m96,c98,M99,c101,M102,hle,ok,E,r97,h100,h103⟩ hF
  replace hF:qbN (qaO N) (qaP N) N x_1 v94 v95 = some r:=hF
  unfold qbN at hF
  have le_m70:=Mem.le.refl m70
  have le_m0:=le_m0.trans hle
  have le_m70:=le_m70.trans hle
  have h6:=(mL qaD).up hle h6
  have h8:=(mL qah).up hle h8
  refine sg<|lw E (qaQ rfl rfl) fun a E=>wn<|wp_seq<|cg E rfl hF (fun c104 hF=>?_) fun c104 hF=>?_
  ·refine wp_exit<|qaV ?_
   cases hF
   exact so (⟨rfl,⟨m96,c98,M99,c101,M102,le_m70,ok,E.keep [0,2,4,6],h100,h103⟩⟩)
  refine wp_skip<|qab<|wp_seq<|wp_block<|sg ?_
  obtain ⟨x105,e106,hF⟩:=bnd hF
  obtain ⟨b107,o108,es109,hl110,rr111,at112,yy113⟩:=ia E 35 37 qcd h6 e106
  obtain ⟨c115,rfl,l114,h116⟩:=rr111
  refine lv E ok (yy113 _ _) fun a E=>lv E ok (qat (cs:=[vs x105.Key,c115]) qkx rfl rfl (qae.ro at112)) fun a E=>qa4 E ok qdk rfl rfl fun b117 a w E ok=>qad E ok 0 rfl rfl rfl qkB rfl rfl ⟨rfl,(qdb h116),trivial⟩ rfl rfl fun w ok=>wn<|qac<|mv E rfl fun a E=>fk E ok qf4 qan rfl 0 rfl rfl fun a E=>lw E (qap (ps:=[(0,.const (vi 11)),(3,.tmp 43)]) (qs:=[(0,[vi 11]),(3,[vs x105.Key])]) (cs:=[vi 11,vi 0,vi 0,vs x105.Key]) qcY qcW rfl ⟨rfl,rfl,rfl,⟨rfl,rfl,rfl,trivial⟩⟩ rfl) fun a E=>?_
  obtain ⟨r118,e119,hF⟩:=bnd hF
  replace ok:Ok u m96 ([(pb0,oc 57 [c98,c101])] :: M99 :: M102 :: [(b117,oc 85 [vs x105.Key,c115])] :: [(b21,oc 82 [vi x_1.Kind,vs x_1.Text,vs x_1.Name,vs x_1.Style,c5,c7])] :: S) w:=(ok.pk 5 [2,3,4,0,1] rfl (by decide))
  refine qaf E qfH rfl (qa8 N _ (Ins.mk 11 0 0 x105.Key) ⟨rfl,(ir 11),(ir 0),(ir 0),l114⟩ v95 h100 h103 e119 hG ok) rfl rfl ?_
  rintro _ w ⟨m120,c122,M123,c125,M126,rfl,hle,ok,r121,h124,h127⟩
  have le_m0:=le_m0.trans hle
  have le_m70:=le_m70.trans hle
  have h6:=(mL qaD).up hle h6
  have h8:=(mL qah).up hle h8
  have h116:=(mL qah).up hle h116
  have at112:=At.up hle at112
  refine ⟨_,rfl,fun a E=>?_⟩
  refine wpList_nil<|qag<|qab<|qac<|lw E (qaG rfl rfl (InR.inc r97 (qao h6) c104)) fun a E=>mv E rfl fun a E=>wpList_nil ?_
  cases hF
  exact qau ⟨m120,c122,M123,c125,M126,le_m70,(ok.pk 5 [4,0,1,2] rfl (by decide)),E.keep [0,2,4,6,35,36,37],(InR.inc r97 (qao h6) c104),h124,h127⟩
 intro e a w _ hO
 obtain ⟨rfl,m128,c129,M130,c132,M133,hle,ok,E,h131,h134⟩:=hO
 have le_m0:=le_m0.trans hle
 have h6:=(mL qaD).up hle h6
 have h8:=(mL qah).up hle h8
 refine qbh<|qab<|sg<|aw E rfl fun a E=>wp_seq<|sg<|fk E ok qbG qcq rfl 0 rfl rfl fun a E=>lv E ok (qbe qcd h6 rfl) fun a E=>mv E rfl fun a E=>wn<|wp_block ?_
 obtain ⟨M146,ok,h147⟩:=qew (e:=3) (k:=1) (R:=(pI .i64)) ok
 refine bd hF fun o148 hL hF=>qbb _ (fun (s:(List (Int)) × Int × Compiler) a w=>∃ m149 c150 M151 c154 M155 c157 M158,m128.le m149 ∧ Ok u m149 (M151 :: [(b21,oc 82 [vi x_1.Kind,vs x_1.Text,vs x_1.Name,vs x_1.Style,c5,c7])] :: [(pb0,oc 57 [c154,c157])] :: M155 :: M158 :: S) w ∧ Env 104 a [(0,vp pb0),(2,vs o22),(6,(vi (o26.Code.Ins.length:Int))),(9,c150),(48,c5),(49,(vi (x_1.Cases.length:Int))),(50,vi s.2.1)] ∧ ORow 3 1 (pI .i64) m149 c150 s.1 M151 ∧ InR .i64 s.2.1 ∧ ORow 9 1 pS m149 c154 s.2.2.Code.Names M155 ∧ ORow 47 4 pIns m149 c157 s.2.2.Code.Ins M158) (fun (b:(Compiler × (List (Int)))) e a w=>e = (.exit 2) ∧ ∃ m368 c369 M370 c372 M373 c375 M376,m128.le m368 ∧ Ok u m368 (M376 :: [(b21,oc 82 [vi x_1.Kind,vs x_1.Text,vs x_1.Name,vs x_1.Style,c5,c7])] :: [(pb0,oc 57 [c369,c372])] :: M370 :: M373 :: S) w ∧ Env 104 a [(0,vp pb0),(9,c375)] ∧ ORow 9 1 pS m368 c369 b.1.Code.Names M370 ∧ ORow 47 4 pIns m368 c372 b.1.Code.Ins M373 ∧ ORow 3 1 (pI .i64) m368 c375 b.2 M376) ?_ ?_ N _ a w hL ⟨m128,(Value.slice none 0 0),M146,c129,M130,c132,M133,Mem.le.refl _,ok,E.keep [0,2,6,9,48,49,50],h147,(ir 0),h131,h134⟩
 rotate_left
 ·as_aux_lemma =>
   intro e a w _ hO
   obtain ⟨rfl,m262,c263,M264,c266,M267,c269,M270,hle,ok,E,h265,h268,h271⟩:=hO
   have le_m0:=le_m0.trans hle
   have h6:=(mL qaD).up hle h6
   have h8:=(mL qah).up hle h8
   refine qbh<|qab<|sg<|mv E rfl fun a E=>lv E ok (qd8 qgM h271 rfl) fun a E=>mv E rfl fun a E=>wn<|wp_block<|bd hF fun o280 hL hF=>qbb _ (fun (s:Int × Compiler) a w=>∃ c282 M283 c285 M286,Ok u m262 (M270 :: [(b21,oc 82 [vi x_1.Kind,vs x_1.Text,vs x_1.Name,vs x_1.Style,c5,c7])] :: [(pb0,oc 57 [c282,c285])] :: M283 :: M286 :: S) w ∧ Env 104 a [(0,vp pb0),(83,c269),(84,(vi (o148.2.length:Int))),(85,vi s.1)] ∧ InR .i64 s.1 ∧ ORow 9 1 pS m262 c282 s.2.Code.Names M283 ∧ ORow 47 4 pIns m262 c285 s.2.Code.Ins M286) (fun (b:Compiler) e a w=>e = (.exit 4) ∧ ∃ c362 M363 c365 M366,Ok u m262 (M270 :: [(b21,oc 82 [vi x_1.Kind,vs x_1.Text,vs x_1.Name,vs x_1.Style,c5,c7])] :: [(pb0,oc 57 [c362,c365])] :: M363 :: M366 :: S) w ∧ Env 104 a [] ∧ ORow 9 1 pS m262 c362 b.Code.Names M363 ∧ ORow 47 4 pIns m262 c365 b.Code.Ins M366) ?_ ?_ N _ a w hL ⟨c263,M264,c266,M267,ok,E.keep [0,83,84,85],(ir 0),h265,h268⟩
   rotate_left
   ·intro e a w _ hO
    obtain ⟨rfl,c356,M357,c359,M360,ok,E,h358,h361⟩:=hO
    refine qbh ?_
    exact fin hF ⟨m262,c356,M357,c359,M360,le_m0,ok.drop.drop,E.d,trivial,h358,h361⟩
   rintro ⟨v288,v289⟩ a w r ⟨c291,M292,c294,M295,ok,E,r290,h293,h296⟩ hF
   replace hF:qbO (qaO N) (qaP N) N o148 v288 v289 = some r:=hF
   unfold qbO at hF
   refine sg<|lw E (qaQ rfl rfl) fun a E=>wn<|wp_seq<|cg E rfl hF (fun c297 hF=>?_) fun c297 hF=>?_
   ·refine wp_exit<|qaV ?_
    cases hF
    exact so (⟨rfl,⟨c291,M292,c294,M295,ok,E.keep [],h293,h296⟩⟩)
   refine wp_skip<|qab<|wp_seq<|wp_block<|sg ?_
   obtain ⟨x298,e299,hF⟩:=bnd hF
   obtain ⟨b300,o301,hp302,yy303⟩:=qfS qgM h271 e299 (P:=Tryz.prog) (X:=.tmp 83) (I:=.tmp 85) (kd:=.i64) (qcc E rfl) (qcc E rfl)
   refine lv E ok (yy303 _ _) fun a E=>?_
   obtain ⟨es304,hl305,rr306,hh307⟩:=qhr h271 e299 hp302 (by decide)
   obtain ⟨rfl,r308⟩:=rr306
   refine lv E ok (qaA qam rfl (hh307 _ _ _ 0 rfl)) fun a E=>aw E rfl fun a E=>bd hF fun o309 hJ hF=>qaJ (Q':=fun e a w=>e = .normal ∧ ∃ c310 M311 c313 M314,Ok u m262 (M270 :: [(b21,oc 82 [vi x_1.Kind,vs x_1.Text,vs x_1.Name,vs x_1.Style,c5,c7])] :: [(pb0,oc 57 [c310,c313])] :: M311 :: M314 :: S) w ∧ Env 104 a [(0,vp pb0),(83,c269),(84,(vi (o148.2.length:Int))),(85,vi v288)] ∧ ORow 9 1 pS m262 c310 o309.Code.Names M311 ∧ ORow 47 4 pIns m262 c313 o309.Code.Ins M314) ?_ ?_
   rotate_left
   ·intro e a w hO
    obtain ⟨rfl,c350,M351,c353,M354,ok,E,h352,h355⟩:=hO
    refine qag<|qab<|qac<|lw E (qaG rfl rfl (InR.inc r290 (ORow.InR h271) c297)) fun a E=>mv E rfl fun a E=>wpList_nil ?_
    cases hF
    exact qau ⟨c350,M351,c353,M354,ok,E.keep [0,83,84,85],(InR.inc r290 (ORow.InR h271) c297),h352,h355⟩
   have hF:=hJ
   obtain ⟨x316,e317,hF⟩:=bnd hF
   obtain ⟨l326,e327,hF⟩:=bnd hF
   obtain rfl:=sj hF
   refine qbB [] (Cls u m262 (M270 :: [(b21,oc 82 [vi x_1.Kind,vs x_1.Text,vs x_1.Name,vs x_1.Style,c5,c7])] :: M292 :: [])) (Cls u m262 (M270 :: [(b21,oc 82 [vi x_1.Kind,vs x_1.Text,vs x_1.Name,vs x_1.Style,c5,c7])] :: M292 :: [])) (by kernel_rfl) ?_
   intro w hw
   replace ok:=qbS ok hw
   clear hw
   have le_m262:=Mem.le.refl m262
   refine qaz (cl1 (cq le_m262 ok [0,1,3] rfl) (cq le_m262 ok [0,1,3] rfl)) fun hT=>kt 0 E rfl hT (qaq rfl) fun a E=>kt 1 E rfl hT (qaj rfl) fun a E=>kt 2 E rfl hT (qak qd4 rfl) fun a E=>kt 3 E rfl hT (qak qcB rfl) fun a E=>kt 5 E rfl hT (qaq rfl) fun a E=>kt 6 E rfl hT (qaq rfl) fun a E=>kt 7 E rfl hT (qaj rfl) fun a E=>kt 8 E rfl hT (qak qd4 rfl) fun a E=>kt 9 E rfl hT (qak qcB rfl) fun a E=>qa3 [4,10] (by kernel_rfl) rfl (qiN ?_ (qiN ?_ (qlC)))
   ·refine wo rfl<|ld E ok qcH 2 rfl rfl rfl fun a E=>wn<|qaz (cl1 (cq le_m262 ok [0,1,3] rfl) (cq le_m262 ok [0,1,3] rfl)) fun hT=>qa3 [10] (by kernel_rfl) rfl (qa7 ?_)
    ·refine wo rfl<|ld E ok qcH 2 rfl rfl rfl fun a E=>wn<|qaz (cl1 (cq le_m262 ok [0,1,3] rfl) (cq le_m262 ok [0,1,3] rfl)) fun hT=>kt 11 E rfl hT (qd8 qcD h296 rfl) fun a E=>?_
     obtain ⟨b330,o331,hp332,yy333⟩:=qfS qcD h296 e317 (P:=Tryz.prog) (X:=.tmp 93) (I:=.tmp 94) (kd:=.i64) (qcc E rfl) (qcc E rfl)
     refine kt 12 E rfl hT (yy333 _ _) fun a E=>kt 13 E rfl hT (qak qej rfl) fun a E=>qa3 [14] (by kernel_rfl) rfl (qa7 ?_)
     ·refine wo rfl<|qgL (R:=pIns) (f:=1) E ok 4 rfl h296 e317 hp332 rfl rfl rfl qgc rfl rfl rfl ⟨rfl,trivial⟩ (fun es _ h=>by obtain ⟨rfl,r334,r335,r336,l337⟩:=h; exact ⟨rfl,r334,(ORow.InR h296),r336,l337⟩) e327 rfl fun M338 w ok h339=>wn<|qaz (cl1 (cq le_m262 ok [0,1,3] rfl) (cq le_m262 ok [0,1,3] rfl)) fun hT=>qbI (by kernel_rfl) ?_
      exact ⟨rfl,⟨c291,M292,c294,M338,ok,E.keep [0,83,84,85],h293,h339⟩⟩
   refine wo rfl<|ld E ok qcH 2 rfl rfl rfl fun a E=>wn<|qaz (cl1 (cq le_m262 ok [0,1,3] rfl) (cq le_m262 ok [0,1,3] rfl)) fun hT=>kt 11 E rfl hT (qd8 qcD h296 rfl) fun a E=>qa3 [4] (by kernel_rfl) rfl (qa7 ?_)
   ·refine wo rfl<|ld E ok qcH 2 rfl rfl rfl fun a E=>wn<|qaz (cl1 (cq le_m262 ok [0,1,3] rfl) (cq le_m262 ok [0,1,3] rfl)) fun hT=>?_
    obtain ⟨b340,o341,hp342,yy343⟩:=qfS qcD h296 e317 (P:=Tryz.prog) (X:=.tmp 93) (I:=.tmp 94) (kd:=.i64) (qcc E rfl) (qcc E rfl)
    refine kt 12 E rfl hT (yy343 _ _) fun a E=>kt 13 E rfl hT (qak qej rfl) fun a E=>qa3 [14] (by kernel_rfl) rfl (qa7 ?_)
    ·refine wo rfl<|qgL (R:=pIns) (f:=1) E ok 4 rfl h296 e317 hp342 rfl rfl rfl qgc rfl rfl rfl ⟨rfl,trivial⟩ (fun es _ h=>by obtain ⟨rfl,r344,r345,r346,l347⟩:=h; exact ⟨rfl,r344,(ORow.InR h296),r346,l347⟩) e327 rfl fun M348 w ok h349=>wn<|qaz (cl1 (cq le_m262 ok [0,1,3] rfl) (cq le_m262 ok [0,1,3] rfl)) fun hT=>qbI (by kernel_rfl) ?_
     exact ⟨rfl,⟨c291,M292,c294,M348,ok,E.keep [0,83,84,85],h293,h349⟩⟩
 rintro ⟨v160,v161,v162⟩ a w r ⟨m163,c164,M165,c168,M169,c171,M172,hle,ok,E,h166,r167,h170,h173⟩ hF
 replace hF:qbL (qaO N) (qaP N) N x_1 o22 o26 v160 v161 v162 = some r:=hF
 unfold qbL at hF
 have le_m128:=Mem.le.refl m128
 have le_m0:=le_m0.trans hle
 have le_m128:=le_m128.trans hle
 have h6:=(mL qaD).up hle h6
 have h8:=(mL qah).up hle h8
 refine sg<|lw E (qaQ rfl rfl) fun a E=>wn<|wp_seq<|cg E rfl hF (fun c174 hF=>?_) fun c174 hF=>?_
 ·refine wp_exit<|qaV ?_
  cases hF
  exact so (⟨rfl,⟨m163,c168,M169,c171,M172,c164,M165,le_m128,ok,E.keep [0,9],h170,h173,h166⟩⟩)
 refine wp_skip<|qab<|wp_seq<|wp_block<|sg<|mv E rfl fun a E=>?_
 obtain ⟨x175,e176,hF⟩:=bnd hF
 obtain ⟨b177,o178,es179,hl180,rr181,at182,yy183⟩:=ia E 48 50 qcd h6 e176
 obtain ⟨c185,rfl,l184,h186⟩:=rr181
 refine lv E ok (yy183 _ _) fun a E=>lv E ok (qat (cs:=[vs x175.Key,c185]) qkx rfl rfl (qae.ro at182)) fun a E=>qa4 E ok qdk rfl rfl fun b187 a w E ok=>av E rfl fun a E=>qad E ok 0 rfl rfl rfl qkB rfl rfl ⟨rfl,(qdb h186),trivial⟩ rfl rfl fun w ok=>wn<|wp_seq<|bd hF fun o188 hJ hF=>qaJ (Q':=fun e a w=>e = .normal ∧ ∃ c189 M190 c192 M193,Ok u m163 ([(b187,oc 85 [vs x175.Key,c185])] :: M165 :: [(b21,oc 82 [vi x_1.Kind,vs x_1.Text,vs x_1.Name,vs x_1.Style,c5,c7])] :: [(pb0,oc 57 [c189,c192])] :: M190 :: M193 :: S) w ∧ Env 104 a [(0,vp pb0),(2,vs o22),(6,(vi (o26.Code.Ins.length:Int))),(9,c164),(11,vp b187),(48,c5),(49,(vi (x_1.Cases.length:Int))),(50,vi v161)] ∧ ORow 9 1 pS m163 c189 o188.Code.Names M190 ∧ ORow 47 4 pIns m163 c192 o188.Code.Ins M193) ?_ ?_
 rotate_left
 ·intro e a w hO
  obtain ⟨rfl,c229,M230,c232,M233,ok,E,h231,h234⟩:=hO
  refine qab<|sg<|mv E rfl fun a E=>fk E ok qf2 qck rfl 0 rfl rfl fun a E=>mv E rfl fun a E=>?_
  obtain ⟨r235,e236,hF⟩:=bnd hF
  replace ok:Ok u m163 ([(pb0,oc 57 [c229,c232])] :: M230 :: M233 :: [(b187,oc 85 [vs x175.Key,c185])] :: M165 :: [(b21,oc 82 [vi x_1.Kind,vs x_1.Text,vs x_1.Name,vs x_1.Style,c5,c7])] :: S) w:=(ok.pk 6 [3,4,5,0,1,2] rfl (by decide))
  refine qaf E qlB rfl (ih_compile_compiler_parts _ x175.Parts h186 o22 l25 o188 h231 h234 e236 hG ok) rfl rfl ?_
  rintro _ w ⟨m237,c238,M239,c241,M242,rfl,hle,ok,h240,h243⟩
  have le_m0:=le_m0.trans hle
  have le_m128:=le_m128.trans hle
  have h6:=(mL qaD).up hle h6
  have h8:=(mL qah).up hle h8
  have h166:=ORow.up (mI .i64) hle h166
  have h186:=(mL qah).up hle h186
  have at182:=At.up hle at182
  refine ⟨_,rfl,fun a E=>?_⟩
  refine wn<|qac<|mz E rfl rfl fun a E=>lw E (qap (ps:=[(0,.const (vi 12))]) (qs:=[(0,[vi 12])]) (cs:=[vi 12,vi 0,vi 0,(vs ([]))]) qcY qcW rfl ⟨rfl,rfl,rfl,trivial⟩ rfl) fun a E=>bd hF fun r244 e245 hF=>qaf E qfH rfl (qa8 N _ (Ins.mk 12 0 0 ([])) ⟨rfl,(ir 12),(ir 0),(ir 0),(Nat.zero_le _)⟩ r235 h240 h243 e245 hG ok) rfl rfl ?_
  rintro _ w ⟨m246,c248,M249,c251,M252,rfl,hle,ok,r247,h250,h253⟩
  have le_m0:=le_m0.trans hle
  have le_m128:=le_m128.trans hle
  have h6:=(mL qaD).up hle h6
  have h8:=(mL qah).up hle h8
  have h166:=ORow.up (mI .i64) hle h166
  have h186:=(mL qah).up hle h186
  have at182:=At.up hle at182
  refine ⟨_,rfl,fun a E=>?_⟩
  refine qbx (R:=(pI .i64)) (xo:=[.tmp 79]) (xs:=([r244.1]:List (Int))) E ok qgM qkG rfl ⟨⟨_,rfl,rfl,(qdC r247)⟩,trivial⟩ rfl rfl rfl rfl fun c254 M255 a w E ok h256=>bd hF fun l257 e258 hF=>qcv (R:=(pI .i64)) E ok 5 (mI .i64) qgM Tryz.underlying74 rfl h166 (qbz.ofRow h256 0 rfl ok) e258 ⟨_,qkG,rfl⟩ rfl rfl rfl rfl fun c259 M260 a w E ok h261=>av E rfl fun a E=>wpList_nil<|qag<|qab<|qac<|lw E (qaG rfl rfl (InR.inc r167 (qao h6) c174)) fun a E=>mv E rfl fun a E=>wpList_nil ?_
  cases hF
  exact qau ⟨m246,c259,M260,c248,M249,c251,M252,le_m128,(ok.pk 7 [5,6,1,2,3] rfl (by decide)),E.keep [0,2,6,9,48,49,50],h261,(InR.inc r167 (qao h6) c174),h250,h253⟩
 have hF:=hJ
 obtain ⟨x195,e196,hF⟩:=bnd hF
 obtain ⟨l205,e206,hF⟩:=bnd hF
 obtain rfl:=sj hF
 refine qbB [] (Cls u m163 ([(b187,oc 85 [vs x175.Key,c185])] :: M165 :: [(b21,oc 82 [vi x_1.Kind,vs x_1.Text,vs x_1.Name,vs x_1.Style,c5,c7])] :: M169 :: [])) (Cls u m163 ([(b187,oc 85 [vs x175.Key,c185])] :: M165 :: [(b21,oc 82 [vi x_1.Kind,vs x_1.Text,vs x_1.Name,vs x_1.Style,c5,c7])] :: M169 :: [])) (by kernel_rfl) ?_
 intro w hw
 replace ok:=qbS ok hw
 clear hw
 have le_m163:=Mem.le.refl m163
 refine qaz (cl1 (cq le_m163 ok [0,1,2,4] rfl) (cq le_m163 ok [0,1,2,4] rfl)) fun hT=>kt 0 E rfl hT (qaq rfl) fun a E=>kt 1 E rfl hT (qaj rfl) fun a E=>kt 2 E rfl hT (qak qd4 rfl) fun a E=>kt 3 E rfl hT (qak qcB rfl) fun a E=>kt 5 E rfl hT (qaq rfl) fun a E=>kt 6 E rfl hT (qaq rfl) fun a E=>kt 7 E rfl hT (qaM rfl rfl) fun a E=>kt 8 E rfl hT (qaq rfl) fun a E=>kt 9 E rfl hT (qaj rfl) fun a E=>kt 10 E rfl hT (qak qd4 rfl) fun a E=>kt 11 E rfl hT (qak qcB rfl) fun a E=>qa3 [4,12] (by kernel_rfl) rfl (qiN ?_ (qiN ?_ (qlC)))
 ·refine wo rfl<|ld E ok qcH 3 rfl rfl rfl fun a E=>wn<|qaz (cl1 (cq le_m163 ok [0,1,2,4] rfl) (cq le_m163 ok [0,1,2,4] rfl)) fun hT=>qa3 [12] (by kernel_rfl) rfl (qa7 ?_)
  ·refine wo rfl<|ld E ok qcH 3 rfl rfl rfl fun a E=>wn<|qaz (cl1 (cq le_m163 ok [0,1,2,4] rfl) (cq le_m163 ok [0,1,2,4] rfl)) fun hT=>kt 13 E rfl hT (qd8 qcD h173 rfl) fun a E=>?_
   obtain ⟨b209,o210,hp211,yy212⟩:=qfS qcD h173 e196 (P:=Tryz.prog) (X:=.tmp 59) (I:=.tmp 62) (kd:=.i64) (qcc E rfl) (qcc E rfl)
   refine kt 14 E rfl hT (yy212 _ _) fun a E=>kt 15 E rfl hT (qak qej rfl) fun a E=>qa3 [16] (by kernel_rfl) rfl (qa7 ?_)
   ·refine wo rfl<|qgL (R:=pIns) (f:=1) E ok 5 rfl h173 e196 hp211 rfl rfl rfl qgc rfl rfl rfl ⟨rfl,trivial⟩ (fun es _ h=>by obtain ⟨rfl,r213,r214,r215,l216⟩:=h; exact ⟨rfl,r213,(ORow.InR h173),r215,l216⟩) e206 rfl fun M217 w ok h218=>wn<|qaz (cl1 (cq le_m163 ok [0,1,2,4] rfl) (cq le_m163 ok [0,1,2,4] rfl)) fun hT=>qbI (by kernel_rfl) ?_
    exact ⟨rfl,⟨c168,M169,c171,M217,ok,E.keep [0,2,6,9,11,48,49,50],h170,h218⟩⟩
 refine wo rfl<|ld E ok qcH 3 rfl rfl rfl fun a E=>wn<|qaz (cl1 (cq le_m163 ok [0,1,2,4] rfl) (cq le_m163 ok [0,1,2,4] rfl)) fun hT=>kt 13 E rfl hT (qd8 qcD h173 rfl) fun a E=>qa3 [4] (by kernel_rfl) rfl (qa7 ?_)
 ·refine wo rfl<|ld E ok qcH 3 rfl rfl rfl fun a E=>wn<|qaz (cl1 (cq le_m163 ok [0,1,2,4] rfl) (cq le_m163 ok [0,1,2,4] rfl)) fun hT=>?_
  obtain ⟨b219,o220,hp221,yy222⟩:=qfS qcD h173 e196 (P:=Tryz.prog) (X:=.tmp 59) (I:=.tmp 62) (kd:=.i64) (qcc E rfl) (qcc E rfl)
  refine kt 14 E rfl hT (yy222 _ _) fun a E=>kt 15 E rfl hT (qak qej rfl) fun a E=>qa3 [16] (by kernel_rfl) rfl (qa7 ?_)
  ·refine wo rfl<|qgL (R:=pIns) (f:=1) E ok 5 rfl h173 e196 hp221 rfl rfl rfl qgc rfl rfl rfl ⟨rfl,trivial⟩ (fun es _ h=>by obtain ⟨rfl,r223,r224,r225,l226⟩:=h; exact ⟨rfl,r223,(ORow.InR h173),r225,l226⟩) e206 rfl fun M227 w ok h228=>wn<|qaz (cl1 (cq le_m163 ok [0,1,2,4] rfl) (cq le_m163 ok [0,1,2,4] rfl)) fun hT=>qbI (by kernel_rfl) ?_
   exact ⟨rfl,⟨c168,M169,c171,M227,ok,E.keep [0,2,6,9,11,48,49,50],h170,h228⟩⟩
theorem qg5:qcG 0:=by
 intro u m0 S w vl_1 l_1 hl_1 count_2 lcount_2 pb0 c1 M2 c4 M5 x0 h3 h6 r hF hG ok
 replace hF:none = some r:=hF
 cases hF
theorem qga:qch 0:=by
 intro u m0 S w vx_1 x_1 hx_1 count_2 lcount_2 pb0 c9 M10 c12 M13 x0 h11 h14 r hF hG ok
 replace hF:none = some r:=hF
 cases hF
theorem qgg (N:Nat):qcG N ∧ qch N:=by
 induction N with
 | zero=>exact ⟨qg5,qga⟩
 | succ N h=>exact ⟨qgY N h.1 h.2,qgb N h.1 h.2⟩
theorem qhO {u:World} {m0:Mem} {S:Segs} {w:World} (N:Nat) (vl_1:Value) (l_1:List (Part)) (hl_1:(pL 6 qa0) m0 [vl_1] l_1) (count_2:List UInt8) (lcount_2:count_2.length ≤ LIMS) {pb0:Nat} {c1:Value} {M2:List (Nat × Obj)} {c4:Value} {M5:List (Nat × Obj)} (x0:Compiler) (h3:ORow 9 1 pS m0 c1 x0.Code.Names M2) (h6:ORow 47 4 pIns m0 c4 x0.Code.Ins M5) {r:Compiler} (hF:qaO N l_1 count_2 x0 = some r) (hG:Glob u) (ok:Ok u m0 ([(pb0,oc 57 [c1,c4])] :: M2 :: M5 :: S) w) :
 Calls Tryz.prog 31 [vp pb0,vl_1,vs count_2].toArray w fun e w'=>∃ m1 c7 M8 c10 M11,e = .returned (.tuple [].toArray) ∧ m0.le m1 ∧ Ok u m1 ([(pb0,oc 57 [c7,c10])] :: M8 :: M11 :: S) w' ∧ ORow 9 1 pS m1 c7 r.Code.Names M8 ∧ ORow 47 4 pIns m1 c10 r.Code.Ins M11:=(qgg N).1 vl_1 l_1 hl_1 count_2 lcount_2 x0 h3 h6 hF hG ok
def qj2 (u:World) (m0:Mem) (S:Segs) (r:Code × Int) (a:Act) (w:World):Prop :=
 ∃ m1 v0,m0.le m1 ∧ Ok u m1 S w ∧ a.defers = [] ∧ RVs Tryz.prog a w [.c 2 28 (.agg v0.toArray),.t 3 (.int .i64 r.2)] ∧ qkv m1 v0 r.1 ∧ InR .i64 r.2
theorem qha (N:Nat) (vparts_0:Value) (parts_0:List (Part)) (hparts_0:(pL 6 qa0) m0 [vparts_0] parts_0) {r:Code × Int} (hF:qdO N parts_0 = some r) (hG:Glob u) (ok:Ok u m0 S w) :
  Calls Tryz.prog 11 [vparts_0].toArray w fun e w'=>∃ m1 v0,e = .returned (.tuple [(.agg v0.toArray),(.int .i64 r.2)].toArray) ∧ m0.le m1 ∧ Ok u m1 S w' ∧ qkv m1 v0 r.1 ∧ InR .i64 r.2:=by
 have le_m0:=Mem.le.refl m0
 unfold qdO at hF
 refine en (qj2 u m0 S) r Tryz.func11 rfl rfl rfl (by rintro a w ⟨m1,v0,hle,ok,hd,hrv,h0,h1⟩; exact qbC [.c 2 28 (.agg v0.toArray),.t 3 (.int .i64 r.2)] hd rfl hrv ⟨m1,v0,rfl,hle,ok,h0,h1⟩) fun fin a E=>sg<|qa4 E ok qiB rfl rfl fun b1 a w E ok=>aw E rfl fun a E=>wp_seq<|sg<|mv E rfl fun a E=>bd hF fun r2 e3 hF=>lc E qqg rfl (qk2 N _ parts_0 hparts_0 e3 hG ok) fun w ok a E=>lw E (qbf rfl) fun a E=>wn<|cf E rfl hF (fun c4 hF=>?_) fun c4 hF=>?_
 ·refine sg<|lw E (qap (ps:=[]) (qs:=[]) (cs:=[(Value.slice none 0 0),(Value.slice none 0 0)]) qiB qlm rfl trivial rfl) fun a E=>qad E ok 0 rfl rfl rfl qkr rfl rfl ⟨rfl,rfl,trivial⟩ rfl rfl fun w ok=>aw E rfl fun a E=>wp_ret<|qai ?_
  exact fin hF ⟨m0,[(Value.slice none 0 0),(Value.slice none 0 0)],le_m0,ok.drop,E.d,⟨rv_c (cs:=[(Value.slice none 0 0),(Value.slice none 0 0)]) E ok rfl qjr rfl (qae.own 0 rfl rfl),rv_t E rfl,trivial⟩,⟨_,_,rfl,qca,qca⟩,(ir 1)⟩
 refine wp_skip<|qab<|sg<|lw E (qap (ps:=[]) (qs:=[]) (cs:=[(Value.slice none 0 0),(Value.slice none 0 0)]) qpm qnV rfl trivial rfl) fun a E=>qfy E ok rfl rfl rfl fun b5 a w E ok=>av E rfl fun a E=>wn<|sg<|mz E rfl rfl fun a E=>?_
 obtain ⟨M6,ok,h7⟩:=qew (e:=9) (k:=1) (R:=pS) ok
 obtain ⟨M8,ok,h9⟩:=qew (e:=47) (k:=4) (R:=pIns) ok
 obtain ⟨r10,e11,hF⟩:=bnd hF
 replace ok:Ok u m0 ([(b5,oc 57 [(Value.slice none 0 0),(Value.slice none 0 0)])] :: M6 :: M8 :: [(b1,oc 28 [(Value.slice none 0 0),(Value.slice none 0 0)])] :: S) w:=(ok.pk 4 [2,1,0,3] rfl (by decide))
 refine qaf E qlB rfl (qhO N _ parts_0 hparts_0 ([]) (show ([]:List UInt8).length ≤ LIMS by decide) (Compiler.mk (Code.mk ([]) ([]))) h7 h9 e11 hG ok) rfl rfl ?_
 rintro _ w ⟨m12,c13,M14,c16,M17,rfl,hle,ok,h15,h18⟩
 have le_m0:=le_m0.trans hle
 have hparts_0:=(mL qah).up hle hparts_0
 refine ⟨_,rfl,fun a E=>?_⟩
 refine wn<|sg<|mv E rfl fun a E=>lw E (qap (ps:=[(0,.const (vi 13))]) (qs:=[(0,[vi 13])]) (cs:=[vi 13,vi 0,vi 0,(vs ([]))]) qcY qcW rfl ⟨rfl,rfl,rfl,trivial⟩ rfl) fun a E=>bd hF fun r19 e20 hF=>qaf E qfH rfl (qa8 N _ (Ins.mk 13 0 0 ([])) ⟨rfl,(ir 13),(ir 0),(ir 0),(Nat.zero_le _)⟩ r10 h15 h18 e20 hG ok) rfl rfl ?_
 rintro _ w ⟨m21,c23,M24,c26,M27,rfl,hle,ok,r22,h25,h28⟩
 have le_m0:=le_m0.trans hle
 have hparts_0:=(mL qah).up hle hparts_0
 refine ⟨_,rfl,fun a E=>?_⟩
 refine wn<|sg<|mv E rfl fun a E=>lw E (qaj rfl) fun a E=>fv E qd4 rfl fun a E=>lv E ok (qat (cs:=[c23,c26]) qjr rfl rfl (qae.own 0 rfl rfl)) fun a E=>qad E ok 3 rfl rfl rfl qkr rfl rfl ⟨(ORow.one h25),(ORow.one h28),trivial⟩ rfl rfl fun w ok=>aw E rfl fun a E=>wp_ret ?_
 obtain ⟨m29,hle,ok,hfz⟩:=(ok.frs 1 rfl).freeze
 have h30:=ORow.froz mS h25 hle hfz (by decide)
 have le_m0:=le_m0.trans hle
 have hparts_0:=(mL qah).up hle hparts_0
 have h28:=ORow.up mIns hle h28
 obtain ⟨m31,hle,ok,hfz⟩:=(ok.frs 1 rfl).freeze
 have h32:=ORow.froz mIns h28 hle hfz (by decide)
 have le_m0:=le_m0.trans hle
 have hparts_0:=(mL qah).up hle hparts_0
 have h30:=(mL mS).up hle h30
 exact fin hF ⟨m31,[c23,c26],le_m0,ok.drop.drop,E.d,⟨rv_c (cs:=[c23,c26]) E ok rfl qjr rfl (qae.own 1 rfl rfl),rv_t E rfl,trivial⟩,⟨_,_,rfl,h30,h32⟩,(ir 0)⟩
def qeI (u:World) (m0:Mem) (S:Segs) (r:Bool) (a:Act) (w:World):Prop :=
 Ok u m0 S w ∧ a.defers = [] ∧ RVs Tryz.prog a w [.t 4 (.bool r)]
theorem qgG (N:Nat) (vs1_0:Value) (s1_0:List (List UInt8)) (hs1_0:(pL 1 pS) m0 [vs1_0] s1_0) (vs2_1:Value) (s2_1:List (List UInt8)) (hs2_1:(pL 1 pS) m0 [vs2_1] s2_1) {r:Bool} (hF:qdR N s1_0 s2_1 = some r) (hG:Glob u) (ok:Ok u m0 S w) :
  Calls Tryz.prog 41 [vs1_0,vs2_1].toArray w fun e w'=>(e = .returned (.bool r) ∧ Ok u m0 S w'):=by
 unfold qdR at hF
 refine en (qeI u m0 S) r Tryz.func41 rfl rfl rfl (fun _ _ h=>ra h rfl) fun fin a E=>sg<|aw E rfl fun a E=>wp_seq<|sg<|mv E rfl fun a E=>lv E ok (qbe qb3 hs1_0 rfl) fun a E=>mv E rfl fun a E=>lv E ok (qbe qb3 hs2_1 rfl) fun a E=>lw E (qbu rfl rfl) fun a E=>wn<|cf E rfl hF (fun c1 hF=>?_) fun c1 hF=>?_
 ·refine sg<|aw E rfl fun a E=>wp_ret<|qai ?_
  exact fin hF ⟨ok,E.d,rz E rfl⟩
 refine wp_skip<|qab<|wp_seq<|sg<|mv E rfl fun a E=>lv E ok (qbe qb3 hs1_0 rfl) fun a E=>mv E rfl fun a E=>wn<|wp_block<|bd hF fun o3 hL hF=>qbb _ (fun (s:Int) a w=>Ok u m0 (S) w ∧ Env 26 a [(0,vs1_0),(1,vs2_1),(12,(vi (s1_0.length:Int))),(13,vi s)] ∧ InR .i64 s) (fun (b:(Unit ⊕ Bool)) e a w=>(Sum.elim (fun b29=>e = (.exit 0) ∧ Ok u m0 (S) w ∧ Env 26 a []) (fun b30=>e = .ret ∧ qeI u m0 S b30 a w)) b) ?_ ?_ N _ a w hL ⟨ok,E.keep [0,1,12,13],(ir 0)⟩
 rotate_left
 ·intro e a w _ hO
  rcases o3 with o3 | o3
  rotate_left
  ·obtain ⟨rfl,hret⟩:=hO
   refine qaB<|qai ?_
   exact fin hF hret
  have hF:=qcb hF
  obtain ⟨rfl,ok,E⟩:=hO
  refine qbh<|qab<|sg<|aw E rfl fun a E=>wp_ret ?_
  exact fin hF ⟨ok,E.d,rz E rfl⟩
 rintro v5 a w r ⟨ok,E,r6⟩ hF
 replace hF:qdm N s1_0 s2_1 v5 = some r:=hF
 unfold qdm at hF
 refine sg<|lw E (qaQ rfl rfl) fun a E=>wn<|wp_seq<|cg E rfl hF (fun c7 hF=>?_) fun c7 hF=>?_
 ·refine wp_exit<|qaV ?_
  cases hF
  exact so (sl ⟨rfl,⟨ok,E.keep []⟩⟩)
 refine wp_skip<|qab<|wp_seq<|wp_block<|sg<|mv E rfl fun a E=>av E rfl fun a E=>wn<|wp_seq<|qdY (by kernel_rfl) (by kernel_rfl) ok<|qv E (qaq rfl) fun a E=>qv E (qaq rfl) fun a E=>?_
 obtain ⟨x8,e9,hF⟩:=bnd hF
 obtain ⟨b10,o11,es12,hl13,rr14,at15,yy16⟩:=ia E 16 17 qb3 hs1_0 e9
 obtain ⟨rfl,l17⟩:=rr14
 refine qv E (yy16 _ _) fun a E=>qv E (qaA qan rfl (qae.ro at15)) fun a E=>qv E (qaq rfl) fun a E=>qv E (qaq rfl) fun a E=>?_
 obtain ⟨x18,e19,hF⟩:=bnd hF
 obtain ⟨b20,o21,es22,hl23,rr24,at25,yy26⟩:=ia E 20 21 qb3 hs2_1 e19
 obtain ⟨rfl,l27⟩:=rr24
 refine qv E (yy26 _ _) fun a E=>qv E (qaA qan rfl (qae.ro at25)) fun a E=>qv E (qdp rfl rfl) fun a E=>wpQuiet_nil ?_
 intro w ok
 refine qab<|cg E rfl hF (fun c28 hF=>?_) fun c28 hF=>?_
 ·refine wp_skip<|qag<|qab<|qac<|lw E (qaG rfl rfl (InR.inc r6 (qao hs1_0) c7)) fun a E=>mv E rfl fun a E=>wpList_nil ?_
  cases hF
  exact qau ⟨ok,E.keep [0,1,12,13],(InR.inc r6 (qao hs1_0) c7)⟩
 refine sg<|aw E rfl fun a E=>wp_ret<|qaB<|qai ?_
 cases hF
 exact so (sr ⟨rfl,⟨ok,E.d,rz E rfl⟩⟩)
def qds (u:World) (m0:Mem) (S:Segs) (r:Bool) (a:Act) (w:World):Prop :=
 Ok u m0 S w ∧ a.defers = [] ∧ RVs Tryz.prog a w [.t 4 (.bool r)]
theorem qe4 (N:Nat) (vs1_0:Value) (s1_0:List (Ins)) (hs1_0:(pL 4 pIns) m0 [vs1_0] s1_0) (vs2_1:Value) (s2_1:List (Ins)) (hs2_1:(pL 4 pIns) m0 [vs2_1] s2_1) {r:Bool} (hF:qcI N s1_0 s2_1 = some r) (hG:Glob u) (ok:Ok u m0 S w) :
  Calls Tryz.prog 42 [vs1_0,vs2_1].toArray w fun e w'=>(e = .returned (.bool r) ∧ Ok u m0 S w'):=by
 unfold qcI at hF
 refine en (qds u m0 S) r Tryz.func42 rfl rfl rfl (fun _ _ h=>ra h rfl) fun fin a E=>sg<|aw E rfl fun a E=>wp_seq<|sg<|mv E rfl fun a E=>lv E ok (qbe qcD hs1_0 rfl) fun a E=>mv E rfl fun a E=>lv E ok (qbe qcD hs2_1 rfl) fun a E=>lw E (qbu rfl rfl) fun a E=>wn<|cf E rfl hF (fun c1 hF=>?_) fun c1 hF=>?_
 ·refine sg<|aw E rfl fun a E=>wp_ret<|qai ?_
  exact fin hF ⟨ok,E.d,rz E rfl⟩
 refine wp_skip<|qab<|wp_seq<|sg<|mv E rfl fun a E=>lv E ok (qbe qcD hs1_0 rfl) fun a E=>mv E rfl fun a E=>wn<|wp_block<|bd hF fun o3 hL hF=>qbb _ (fun (s:Int) a w=>Ok u m0 (S) w ∧ Env 26 a [(0,vs1_0),(1,vs2_1),(12,(vi (s1_0.length:Int))),(13,vi s)] ∧ InR .i64 s) (fun (b:(Unit ⊕ Bool)) e a w=>(Sum.elim (fun b35=>e = (.exit 0) ∧ Ok u m0 (S) w ∧ Env 26 a []) (fun b36=>e = .ret ∧ qds u m0 S b36 a w)) b) ?_ ?_ N _ a w hL ⟨ok,E.keep [0,1,12,13],(ir 0)⟩
 rotate_left
 ·intro e a w _ hO
  rcases o3 with o3 | o3
  rotate_left
  ·obtain ⟨rfl,hret⟩:=hO
   refine qaB<|qai ?_
   exact fin hF hret
  have hF:=qcb hF
  obtain ⟨rfl,ok,E⟩:=hO
  refine qbh<|qab<|sg<|aw E rfl fun a E=>wp_ret ?_
  exact fin hF ⟨ok,E.d,rz E rfl⟩
 rintro v5 a w r ⟨ok,E,r6⟩ hF
 replace hF:qcp N s1_0 s2_1 v5 = some r:=hF
 unfold qcp at hF
 refine sg<|lw E (qaQ rfl rfl) fun a E=>wn<|wp_seq<|cg E rfl hF (fun c7 hF=>?_) fun c7 hF=>?_
 ·refine wp_exit<|qaV ?_
  cases hF
  exact so (sl ⟨rfl,⟨ok,E.keep []⟩⟩)
 refine wp_skip<|qab<|wp_seq<|wp_block<|sg<|mv E rfl fun a E=>av E rfl fun a E=>wn<|wp_seq<|qdY (by kernel_rfl) (by kernel_rfl) ok<|qv E (qaq rfl) fun a E=>qv E (qaq rfl) fun a E=>?_
 obtain ⟨x8,e9,hF⟩:=bnd hF
 obtain ⟨b10,o11,es12,hl13,rr14,at15,yy16⟩:=ia E 16 17 qcD hs1_0 e9
 obtain ⟨rfl,r17,r18,r19,l20⟩:=rr14
 refine qv E (yy16 _ _) fun a E=>qv E (qat (cs:=[vi x8.Op,vi x8.A,vi x8.B,vs x8.S]) qiy rfl rfl (qae.ro at15)) fun a E=>qv E (qaq rfl) fun a E=>qv E (qaq rfl) fun a E=>?_
 obtain ⟨x21,e22,hF⟩:=bnd hF
 obtain ⟨b23,o24,es25,hl26,rr27,at28,yy29⟩:=ia E 20 21 qcD hs2_1 e22
 obtain ⟨rfl,r30,r31,r32,l33⟩:=rr27
 refine qv E (yy29 _ _) fun a E=>qv E (qat (cs:=[vi x21.Op,vi x21.A,vi x21.B,vs x21.S]) qiy rfl rfl (qae.ro at28)) fun a E=>qv E (qpP qnU (qkK Tryz.underlying47 qmq (qfo (by decide) (qa9 qam rfl) (qa9 qam rfl) (qhp Tryz.underlying3) (qfo (by decide) (qa9 qam rfl) (qa9 qam rfl) (qhp Tryz.underlying3) (qfo (by decide) (qa9 qam rfl) (qa9 qam rfl) (qhp Tryz.underlying3) (qlt (by decide) (qa9 qan rfl) (qa9 qan rfl) (qmP Tryz.underlying9)))))) rfl rfl) fun a E=>wpQuiet_nil ?_
 intro w ok
 refine qab<|cg E rfl hF (fun c34 hF=>?_) fun c34 hF=>?_
 ·refine wp_skip<|qag<|qab<|qac<|lw E (qaG rfl rfl (InR.inc r6 (qao hs1_0) c7)) fun a E=>mv E rfl fun a E=>wpList_nil ?_
  cases hF
  exact qau ⟨ok,E.keep [0,1,12,13],(InR.inc r6 (qao hs1_0) c7)⟩
 refine sg<|aw E rfl fun a E=>wp_ret<|qaB<|qai ?_
 cases hF
 exact so (sr ⟨rfl,⟨ok,E.d,rz E rfl⟩⟩)
def qkJ (u:World) (m0:Mem) (S:Segs) (r:Bool) (a:Act) (w:World):Prop :=
 Ok u m0 S w ∧ a.defers = [] ∧ RVs Tryz.prog a w [.t 4 (.bool r)]
theorem qkk (N:Nat) (va_0:List Value) (a_0:Code) (ha_0:qkv m0 va_0 a_0) (vb_1:List Value) (b_1:Code) (hb_1:qkv m0 vb_1 b_1) {r:Bool} (hF:qg9 N a_0 b_1 = some r) (hG:Glob u) (ok:Ok u m0 S w) :
  Calls Tryz.prog 19 [.agg va_0.toArray,.agg vb_1.toArray].toArray w fun e w'=>(e = .returned (.bool r) ∧ Ok u m0 S w'):=by
 obtain ⟨c1,c3,rfl,h2,h4⟩:=ha_0
 obtain ⟨c5,c7,rfl,h6,h8⟩:=hb_1
 unfold qg9 at hF
 refine en (qkJ u m0 S) r Tryz.func19 rfl rfl rfl (fun _ _ h=>ra h rfl) fun fin a E=>sg<|qfy E ok rfl rfl rfl fun b9 a w E ok=>qfy E ok rfl rfl rfl fun b10 a w E ok=>aw E rfl fun a E=>sg<|fk E ok qhq qg1 rfl 1 rfl rfl fun a E=>fk E ok qhq qg1 rfl 0 rfl rfl fun a E=>bd hF fun r11 e12 hF=>lc E qqE rfl (qgG N _ a_0.Names h2 _ b_1.Names h6 e12 hG ok) fun w ok a E=>mv E rfl fun a E=>qbo r11 (fun c13=>?_) (fun c13=>?_)
 rotate_left
 ·have hF:=qbl c13 hF
  have E:=E.upd 10 c13 rfl
  refine lsz E fun a E=>ls E fun a E=>pf E rfl rfl fun a E=>av E rfl fun a E=>wn<|wp_ret ?_
  exact fin hF ⟨ok.drop.drop,E.d,rz E rfl⟩
 have hF:=qbm c13 hF
 have E:=E.upd 10 c13 rfl
 refine fk E ok qcB qcH rfl 1 rfl rfl fun a E=>fk E ok qcB qcH rfl 0 rfl rfl fun a E=>bd hF fun r14 e15 hF=>lc E qqn rfl (qe4 N _ a_0.Ins h4 _ b_1.Ins h8 e15 hG ok) fun w ok a E=>pt E rfl rfl fun a E=>aw E rfl fun a E=>wp_ret ?_
 exact fin hF ⟨ok.drop.drop,E.d,rz E rfl⟩
def qii (u:World) (m0:Mem) (S:Segs) (r:Replacer) (a:Act) (w:World):Prop :=
 ∃ m1 b0 c4 M5,m0.le m1 ∧ Ok u m1 ([(b0,oc 110 [(Value.int .u32 r.once.done.v),(Value.int .i32 r.once.m.mu.state),(Value.int .u32 r.once.m.mu.sema),Value.nilIface,c4])] :: M5 :: S) w ∧ a.defers = [] ∧ RVs Tryz.prog a w [.t 2 (.pointer (some ⟨b0,0,none⟩))] ∧ InR .u32 r.once.done.v ∧ InR .i32 r.once.m.mu.state ∧ InR .u32 r.once.m.mu.sema ∧ ORow 9 1 pS m1 c4 r.oldnew M5
theorem qin (N:Nat) (voldnew_0:Value) (oldnew_0:List (List UInt8)) (holdnew_0:(pL 1 pS) m0 [voldnew_0] oldnew_0) {r:Replacer} (hF:qe6 N oldnew_0 = some r) (hG:Glob u) (ok:Ok u m0 (S) w) :
  Calls Tryz.prog 34 [voldnew_0].toArray w fun e w'=>∃ m1 b0 c4 M5,e = .returned (.pointer (some ⟨b0,0,none⟩)) ∧ m0.le m1 ∧ Ok u m1 ([(b0,oc 110 [(Value.int .u32 r.once.done.v),(Value.int .i32 r.once.m.mu.state),(Value.int .u32 r.once.m.mu.sema),Value.nilIface,c4])] :: M5 :: S) w' ∧ InR .u32 r.once.done.v ∧ InR .i32 r.once.m.mu.state ∧ InR .u32 r.once.m.mu.sema ∧ ORow 9 1 pS m1 c4 r.oldnew M5:=by
 have le_m0:=Mem.le.refl m0
 unfold qe6 at hF
 refine en (qii u m0 S) r Tryz.func34 rfl rfl rfl (by rintro a w ⟨m1,b0,c4,M5,hle,ok,hd,hrv,h0,h1,h2,h3⟩; exact qbC [.t 2 (.pointer (some ⟨b0,0,none⟩))] hd rfl hrv ⟨m1,b0,c4,M5,rfl,hle,ok,h0,h1,h2,h3⟩) fun fin a E=>sg<|aw E rfl fun a E=>wp_seq<|sg<|mv E rfl fun a E=>lv E ok (qbe qb3 holdnew_0 rfl) fun a E=>bd hF fun q7 e8 hF=>lw E (y_rm rfl rfl e8) fun a E=>lw E (qal rfl rfl) fun a E=>wn<|bd hF fun o9 hJ hF=>qaJ (Q':=fun e a w=>e = .normal ∧ Ok u m0 (S) w ∧ Env 12 a [(0,voldnew_0)]) ?_ ?_
 ·have hF:=hJ
  refine cf E rfl hF (fun c10 hF=>?_) fun c10 hF=>?_
  ·cases hF
  refine wp_skip ?_
  cases hF
  exact ⟨rfl,⟨ok,E.keep [0]⟩⟩
 intro e a w hO
 obtain ⟨rfl,ok,E⟩:=hO
 refine qab<|sg<|mv E rfl fun a E=>?_
 obtain ⟨M11,ok,h12⟩:=qew (e:=9) (k:=1) (R:=pS) ok
 refine bd hF fun l13 e14 hF=>qcv (R:=pS) E ok 0 mS qb3 Tryz.underlying25 rfl h12 (qbz.ofL holdnew_0 ok) e14 ⟨_,qdW,rfl⟩ rfl rfl rfl rfl fun c15 M16 a w E ok h17=>lw E (qap (ps:=[(2,.tmp 9)]) (qs:=[(4,[c15])]) (cs:=[(Value.int .u32 0),(Value.int .i32 0),(Value.int .u32 0),Value.nilIface,c15]) qod qnd rfl ⟨rfl,(ORow.cells h17),rfl,trivial⟩ rfl) fun a E=>qfy E ok rfl rfl rfl fun b18 a w E ok=>aw E rfl fun a E=>wp_ret ?_
 exact fin hF ⟨m0,b18,c15,M16,le_m0,ok,E.d,rz E rfl,(show InR .u32 0 by decide),(show InR .i32 0 by decide),(show InR .u32 0 by decide),h17⟩
def qgv (u:World) (m0:Mem) (S:Segs) (pb0:Nat) (x0:Builder) (c1:Value) (c3:Value) (M4:List (Nat × Obj)) (r:Int × Unit × Builder) (a:Act) (w:World):Prop :=
 ∃ c6 c8 M9,Ok u m0 ([(pb0,oc 68 [c6,c8])] :: M9 :: S) w ∧ a.defers = [] ∧ RVs Tryz.prog a w [.t 4 (.int .i64 r.1),.t 5 .nilIface] ∧ InR .i64 r.1 ∧ BAd pb0 c6 ∧ ORow 5 1 (pI .u8) m0 c8 r.2.2.buf M9
theorem qb9 (N:Nat) (s_1:List UInt8) (ls_1:s_1.length ≤ LIMS) {pb0:Nat} {c1:Value} {c3:Value} {M4:List (Nat × Obj)} (x0:Builder) (h2:BAd pb0 c1) (h5:ORow 5 1 (pI .u8) m0 c3 x0.buf M4) {r:Int × Unit × Builder} (hF:qbV N s_1 x0 = some r) (hG:Glob u) (ok:Ok u m0 ([(pb0,oc 68 [c1,c3])] :: M4 :: S) w) :
  Calls Tryz.prog 35 [vp pb0,vs s_1].toArray w fun e w'=>∃ c6 c8 M9,(e = .returned (.tuple [(.int .i64 r.1),.nilIface].toArray) ∧ Ok u m0 ([(pb0,oc 68 [c6,c8])] :: M9 :: S) w') ∧ InR .i64 r.1 ∧ BAd pb0 c6 ∧ ORow 5 1 (pI .u8) m0 c8 r.2.2.buf M9:=by
 unfold qbV at hF
 refine en (qgv u m0 S pb0 x0 c1 c3 M4) r Tryz.func35 rfl rfl rfl (by rintro a w ⟨c6,c8,M9,ok,hd,hrv,h0,h1,h2⟩; exact qbC [.t 4 (.int .i64 r.1),.t 5 .nilIface] hd rfl hrv ⟨c6,c8,M9,⟨rfl,ok⟩,h0,h1,h2⟩) fun fin a E=>sg<|av E rfl fun a E=>aw E rfl fun a E=>sg<|mv E rfl fun a E=>lc E qoM rfl (qgx h2 ok) fun w ok a E=>wn<|sg<|mz E rfl rfl fun a E=>lw E (qaj rfl) fun a E=>fv E qjQ rfl fun a E=>ld E ok qnQ 0 rfl rfl rfl fun a E=>mv E rfl fun a E=>?_
 refine bd hF fun l11 e12 hF=>qqc E ok 1 qet Tryz.underlying9 rfl h5 e12 ⟨_,qdE,rfl⟩ rfl rfl rfl rfl fun c13 M14 a w E ok h15=>lw E (qaj rfl) fun a E=>fv E qjQ rfl fun a E=>qad E ok 0 rfl rfl rfl qn2 (ORow.cells h15) rfl ⟨(ORow.one h15),trivial⟩ rfl rfl fun w ok=>wn<|sg<|mv E rfl fun a E=>lw E (qaH Tryz.underlying9 rfl) fun a E=>av E rfl fun a E=>aw E rfl fun a E=>wp_ret ?_
 exact fin hF ⟨(vp pb0),c13,M14,ok,E.d,⟨rv_t E rfl,rv_t E rfl,trivial⟩,(InR.len ls_1),(.inr rfl),h15⟩
theorem qep {u:World} {m0:Mem} {S:Segs} {w:World} (N:Nat) (p0_0:Int) (rp0_0:InR .i64 p0_0) {r:(List UInt8)} (hF:qdU N p0_0 = some r) (hG:Glob u) (hTb:Tab u) (ok:Ok u m0 S w) :
 Calls Tryz.prog 36 [vi p0_0].toArray w fun e w'=>(e = .returned (.string (bs r)) ∧ Ok u m0 S w') ∧ r.length ≤ LIMS:=qns Tryz.laysM171 hTb p0_0 rp0_0 hF ok
end Go.Proofs.YtllnjbnknjpbjaaGreatDoor
namespace Go.Proofs.YtllnjbnknjpbjaaGreatDoor
open Go.X
variable {u:World} {m0:Mem} {S:Segs} {w:World}
set_option maxHeartbeats 4000000
set_option maxRecDepth 100000
def qk3 (u:World) (m0:Mem) (S:Segs) (r:(List UInt8)) (a:Act) (w:World):Prop :=
 Ok u m0 S w ∧ a.defers = [] ∧ RVs Tryz.prog a w [.t 2 (.string (bs r))] ∧ r.length ≤ LIMS
theorem qk8 (N:Nat) (vc_0:List Value) (c_0:Code) (hc_0:qkv m0 vc_0 c_0) {r:(List UInt8)} (hF:qhD N c_0 = some r) (hG:Glob u) (hTb:Tab u) (ok:Ok u m0 S w) :
  Calls Tryz.prog 16 [.agg vc_0.toArray].toArray w fun e w'=>(e = .returned (.string (bs r)) ∧ Ok u m0 S w') ∧ r.length ≤ LIMS:=by
 obtain ⟨c1,c3,rfl,h2,h4⟩:=hc_0
 have hb0:=ok.base
 have le_m0:=Mem.le.refl m0
 unfold qhD at hF
 refine en (qk3 u m0 S) r Tryz.func16 rfl rfl rfl (fun _ _ h=>rb h rfl) fun fin a E=>sg<|qfy E ok rfl rfl rfl fun b5 a w E ok=>aw E rfl fun a E=>sg<|lv E ok (ql7 (ps:=[(0,.const (vs ([63]))),(1,.const (vs ([101,109,105,116]))),(2,.const (vs ([111,112,101,110]))),(3,.const (vs ([99,108,111,115,101]))),(4,.const (vs ([118,111,105,100]))),(5,.const (vs ([97,114,103]))),(6,.const (vs ([110,117,109,98,101,114]))),(7,.const (vs ([117,110,105,116]))),(8,.const (vs ([100,97,116,101]))),(9,.const (vs ([108,105,115,116]))),(10,.const (vs ([115,119,105,116,99,104]))),(11,.const (vs ([99,97,115,101]))),(12,.const (vs ([106,117,109,112]))),(13,.const (vs ([115,116,111,112])))]) (qs:=[(0,[(vs ([63]))]),(1,[(vs ([101,109,105,116]))]),(2,[(vs ([111,112,101,110]))]),(3,[(vs ([99,108,111,115,101]))]),(4,[(vs ([118,111,105,100]))]),(5,[(vs ([97,114,103]))]),(6,[(vs ([110,117,109,98,101,114]))]),(7,[(vs ([117,110,105,116]))]),(8,[(vs ([100,97,116,101]))]),(9,[(vs ([108,105,115,116]))]),(10,[(vs ([115,119,105,116,99,104]))]),(11,[(vs ([99,97,115,101]))]),(12,[(vs ([106,117,109,112]))]),(13,[(vs ([115,116,111,112]))])]) (cs:=[(vs ([63])),(vs ([101,109,105,116])),(vs ([111,112,101,110])),(vs ([99,108,111,115,101])),(vs ([118,111,105,100])),(vs ([97,114,103])),(vs ([110,117,109,98,101,114])),(vs ([117,110,105,116])),(vs ([100,97,116,101])),(vs ([108,105,115,116])),(vs ([115,119,105,116,99,104])),(vs ([99,97,115,101])),(vs ([106,117,109,112])),(vs ([115,116,111,112]))]) qmJ qmr rfl ⟨rfl,rfl,rfl,⟨rfl,rfl,rfl,⟨rfl,rfl,rfl,⟨rfl,rfl,rfl,⟨rfl,rfl,rfl,⟨rfl,rfl,rfl,⟨rfl,rfl,rfl,⟨rfl,rfl,rfl,⟨rfl,rfl,rfl,⟨rfl,rfl,rfl,⟨rfl,rfl,rfl,⟨rfl,rfl,rfl,⟨rfl,rfl,rfl,⟨rfl,rfl,rfl,trivial⟩⟩⟩⟩⟩⟩⟩⟩⟩⟩⟩⟩⟩⟩ rfl) fun a E=>qa4 E ok qmJ rfl rfl fun b6 a w E ok=>qad E ok 0 rfl rfl rfl qpN rfl rfl ⟨rfl,rfl,rfl,rfl,rfl,rfl,rfl,rfl,rfl,rfl,rfl,rfl,rfl,rfl,trivial⟩ rfl rfl fun w ok=>wn<|sg<|qbx (R:=pS) (xo:=[.const (vs ([34])),.const (vs ([92,34])),.const (vs ([92])),.const (vs ([92,92])),.const (vs ([10])),.const (vs ([92,110]))]) (xs:=([[34],[92,34],[92],[92,92],[10],[92,110]]:List (List UInt8))) E ok qb3 qdW rfl ⟨⟨_,rfl,rfl,(qcV (show ([34]:List UInt8).length ≤ LIMS by decide))⟩,⟨_,rfl,rfl,(qcV (show ([92,34]:List UInt8).length ≤ LIMS by decide))⟩,⟨_,rfl,rfl,(qcV (show ([92]:List UInt8).length ≤ LIMS by decide))⟩,⟨_,rfl,rfl,(qcV (show ([92,92]:List UInt8).length ≤ LIMS by decide))⟩,⟨_,rfl,rfl,(qcV (show ([10]:List UInt8).length ≤ LIMS by decide))⟩,⟨_,rfl,rfl,(qcV (show ([92,110]:List UInt8).length ≤ LIMS by decide))⟩,trivial⟩ rfl rfl rfl rfl fun c7 M8 a w E ok h9=>?_
 obtain ⟨m10,hle,ok,hfz⟩:=(ok.frs 0 rfl).freeze
 have h11:=ORow.froz mS h9 hle hfz (by decide)
 have le_m0:=le_m0.trans hle
 have h2:=(mL mS).up hle h2
 have h4:=(mL mIns).up hle h4
 refine bd hF fun r12 e13 hF=>qaf E qqj rfl (qin N _ ([[34],[92,34],[92],[92,92],[10],[92,110]]:List (List UInt8)) h11 e13 hG ok) rfl rfl ?_
 rintro _ w ⟨m14,b15,c19,M20,rfl,hle,ok,r16,r17,r18,h21⟩
 have le_m0:=le_m0.trans hle
 have h2:=(mL mS).up hle h2
 have h4:=(mL mIns).up hle h4
 have h11:=(mL mS).up hle h11
 refine ⟨_,rfl,fun a E=>?_⟩
 refine aw E rfl fun a E=>sg<|qa4 E ok qmU rfl rfl fun b22 a w E ok=>wn<|wp_seq<|sg<|fk E ok qcB qcH rfl 4 rfl rfl fun a E=>lv E ok (qbe qcD h4 rfl) fun a E=>mv E rfl fun a E=>wn<|wp_block ?_
 obtain ⟨M30,ok,h31⟩:=qew (e:=5) (k:=1) (R:=(pI .u8)) ok
 refine bd hF fun o32 hL hF=>qbb _ (fun (s:Int × Builder) a w=>∃ c34 c36 M37,Ok u m14 (M37 :: [(b22,oc 68 [c34,c36])] :: [(b15,oc 110 [(Value.int .u32 r12.once.done.v),(Value.int .i32 r12.once.m.mu.state),(Value.int .u32 r12.once.m.mu.sema),Value.nilIface,c19])] :: M20 :: [(b6,oc 62 [(vs ([63])),(vs ([101,109,105,116])),(vs ([111,112,101,110])),(vs ([99,108,111,115,101])),(vs ([118,111,105,100])),(vs ([97,114,103])),(vs ([110,117,109,98,101,114])),(vs ([117,110,105,116])),(vs ([100,97,116,101])),(vs ([108,105,115,116])),(vs ([115,119,105,116,99,104])),(vs ([99,97,115,101])),(vs ([106,117,109,112])),(vs ([115,116,111,112]))])] :: [(b5,oc 28 [c1,c3])] :: S) w ∧ Env 70 a [(3,vp b6),(4,vp b15),(5,vp b22),(15,c3),(16,(vi (c_0.Ins.length:Int))),(17,vi s.1)] ∧ InR .i64 s.1 ∧ BAd b22 c34 ∧ ORow 5 1 (pI .u8) m14 c36 s.2.buf M37) (fun (b:Builder) e a w=>e = (.exit 0) ∧ ∃ c286 c288 M289,Ok u m14 (M289 :: [(b22,oc 68 [c286,c288])] :: [(b15,oc 110 [(Value.int .u32 r12.once.done.v),(Value.int .i32 r12.once.m.mu.state),(Value.int .u32 r12.once.m.mu.sema),Value.nilIface,c19])] :: M20 :: [(b6,oc 62 [(vs ([63])),(vs ([101,109,105,116])),(vs ([111,112,101,110])),(vs ([99,108,111,115,101])),(vs ([118,111,105,100])),(vs ([97,114,103])),(vs ([110,117,109,98,101,114])),(vs ([117,110,105,116])),(vs ([100,97,116,101])),(vs ([108,105,115,116])),(vs ([115,119,105,116,99,104])),(vs ([99,97,115,101])),(vs ([106,117,109,112])),(vs ([115,116,111,112]))])] :: [(b5,oc 28 [c1,c3])] :: S) w ∧ Env 70 a [(5,vp b22)] ∧ BAd b22 c286 ∧ ORow 5 1 (pI .u8) m14 c288 b.buf M289) ?_ ?_ N _ a w hL ⟨(Value.pointer none),(Value.slice none 0 0),M30,ok,E.keep [3,4,5,15,16,17],(ir 0),(.inl rfl),h31⟩
 rotate_left
 ·intro e a w _ hO
  obtain ⟨rfl,c280,c282,M283,ok,E,h281,h284⟩:=hO
  refine qbh<|qab<|sg ?_
  replace ok:Ok u m14 ([(b22,oc 68 [c280,c282])] :: M283 :: [(b15,oc 110 [(Value.int .u32 r12.once.done.v),(Value.int .i32 r12.once.m.mu.state),(Value.int .u32 r12.once.m.mu.sema),Value.nilIface,c19])] :: M20 :: [(b6,oc 62 [(vs ([63])),(vs ([101,109,105,116])),(vs ([111,112,101,110])),(vs ([99,108,111,115,101])),(vs ([118,111,105,100])),(vs ([97,114,103])),(vs ([110,117,109,98,101,114])),(vs ([117,110,105,116])),(vs ([100,97,116,101])),(vs ([108,105,115,116])),(vs ([115,119,105,116,99,104])),(vs ([99,97,115,101])),(vs ([106,117,109,112])),(vs ([115,116,111,112]))])] :: [(b5,oc 28 [c1,c3])] :: S) w:=(ok.pk 6 [1,0,2,3,4,5] rfl (by decide))
  refine qaf E qoQ rfl (qkl Tryz.lays169 Tryz.Builder_Extra_169 h284 ok) rfl rfl ?_
  rintro _ w ⟨⟨rfl,ok⟩,l285⟩
  refine ⟨_,rfl,fun a E=>?_⟩
  refine aw E rfl fun a E=>wp_ret ?_
  exact fin hF ⟨(ok.drop.drop.drop.drop).down hb0 le_m0,E.d,rz E rfl,l285⟩
 rintro ⟨v39,v40⟩ a w r ⟨c42,c44,M45,ok,E,r41,h43,h46⟩ hF
 replace hF:qgj N c_0 v39 v40 = some r:=hF
 unfold qgj at hF
 refine sg<|lw E (qaQ rfl rfl) fun a E=>wn<|wp_seq<|cg E rfl hF (fun c47 hF=>?_) fun c47 hF=>?_
 ·refine wp_exit<|qaV ?_
  cases hF
  exact so (⟨rfl,⟨c42,c44,M45,ok,E.keep [5],h43,h46⟩⟩)
 refine wp_skip<|qab<|wp_seq<|wp_block<|sg<|mv E rfl fun a E=>?_
 obtain ⟨x48,e49,hF⟩:=bnd hF
 obtain ⟨b50,o51,es52,hl53,rr54,at55,yy56⟩:=ia E 15 17 qcD h4 e49
 obtain ⟨rfl,r57,r58,r59,l60⟩:=rr54
 refine lv E ok (yy56 _ _) fun a E=>lv E ok (qat (cs:=[vi x48.Op,vi x48.A,vi x48.B,vs x48.S]) qiy rfl rfl (qae.ro at55)) fun a E=>qa4 E ok qcY rfl rfl fun b61 a w E ok=>av E rfl fun a E=>qad E ok 0 rfl rfl rfl qn0 rfl rfl ⟨rfl,rfl,rfl,rfl,trivial⟩ rfl rfl fun w ok=>wn<|sg<|aw E rfl fun a E=>wp_seq<|sg<|fv E qgD rfl fun a E=>ld E ok qam 0 rfl rfl rfl fun a E=>lw E (qbF rfl rfl) fun a E=>mv E rfl fun a E=>bw E 25 hF (fun c62 hF E=>?_) fun c62 hF E=>?_
 ·as_aux_lemma =>
   refine lsq E fun a E=>ls E fun a E=>pf E rfl rfl fun a E=>wn<|c_if E rfl (fun h=>by cases h) (fun _=>?_)
   refine wp_skip<|qab<|wp_seq<|bd hF fun o178 hJ hF=>qaJ (Q':=fun e a w=>e = .normal ∧ ∃ c179 c181 M182,Ok u m14 ([(b61,oc 47 [vi x48.Op,vi x48.A,vi x48.B,vs x48.S])] :: M182 :: [(b22,oc 68 [c179,c181])] :: [(b15,oc 110 [(Value.int .u32 r12.once.done.v),(Value.int .i32 r12.once.m.mu.state),(Value.int .u32 r12.once.m.mu.sema),Value.nilIface,c19])] :: M20 :: [(b6,oc 62 [(vs ([63])),(vs ([101,109,105,116])),(vs ([111,112,101,110])),(vs ([99,108,111,115,101])),(vs ([118,111,105,100])),(vs ([97,114,103])),(vs ([110,117,109,98,101,114])),(vs ([117,110,105,116])),(vs ([100,97,116,101])),(vs ([108,105,115,116])),(vs ([115,119,105,116,99,104])),(vs ([99,97,115,101])),(vs ([106,117,109,112])),(vs ([115,116,111,112]))])] :: [(b5,oc 28 [c1,c3])] :: S) w ∧ Env 70 a [(3,vp b6),(4,vp b15),(5,vp b22),(7,vp b61),(15,c3),(16,(vi (c_0.Ins.length:Int))),(17,vi v39)] ∧ BAd b22 c179 ∧ ORow 5 1 (pI .u8) m14 c181 o178.buf M182) ?_ ?_
   ·have hF:=hJ
    obtain ⟨r184,e185,hF⟩:=bnd hF
    obtain ⟨s187,e188,hF⟩:=bnd hF
    obtain ⟨s189,e190,hF⟩:=bnd hF
    obtain ⟨r191,e192,hF⟩:=bnd hF
    obtain rfl:=sj hF
    refine qbB [] (Cls u m14 ([(b61,oc 47 [vi x48.Op,vi x48.A,vi x48.B,vs x48.S])] :: [(b15,oc 110 [(Value.int .u32 r12.once.done.v),(Value.int .i32 r12.once.m.mu.state),(Value.int .u32 r12.once.m.mu.sema),Value.nilIface,c19])] :: M20 :: [(b6,oc 62 [(vs ([63])),(vs ([101,109,105,116])),(vs ([111,112,101,110])),(vs ([99,108,111,115,101])),(vs ([118,111,105,100])),(vs ([97,114,103])),(vs ([110,117,109,98,101,114])),(vs ([117,110,105,116])),(vs ([100,97,116,101])),(vs ([108,105,115,116])),(vs ([115,119,105,116,99,104])),(vs ([99,97,115,101])),(vs ([106,117,109,112])),(vs ([115,116,111,112]))])] :: [(b5,oc 28 [c1,c3])] :: [])) (Cls u m14 ([(b61,oc 47 [vi x48.Op,vi x48.A,vi x48.B,vs x48.S])] :: [(b15,oc 110 [(Value.int .u32 r12.once.done.v),(Value.int .i32 r12.once.m.mu.state),(Value.int .u32 r12.once.m.mu.sema),Value.nilIface,c19])] :: M20 :: [(b6,oc 62 [(vs ([63])),(vs ([101,109,105,116])),(vs ([111,112,101,110])),(vs ([99,108,111,115,101])),(vs ([118,111,105,100])),(vs ([97,114,103])),(vs ([110,117,109,98,101,114])),(vs ([117,110,105,116])),(vs ([100,97,116,101])),(vs ([108,105,115,116])),(vs ([115,119,105,116,99,104])),(vs ([99,97,115,101])),(vs ([106,117,109,112])),(vs ([115,116,111,112]))])] :: [(b5,oc 28 [c1,c3])] :: [])) (by kernel_rfl) ?_
    intro w hw
    replace ok:=qbS ok hw
    clear hw
    have le_m14:=Mem.le.refl m14
    refine qaz (cl1 (cq le_m14 ok [0,3,4,5,6] rfl) (cq le_m14 ok [0,3,4,5,6] rfl)) fun hT=>kt 0 E rfl hT (qaq rfl) fun a E=>kt 3 E rfl hT (qaq rfl) fun a E=>kt 4 E rfl hT (qnq qmr rfl rfl (by decide) (by decide)) fun a E=>kt 5 E rfl hT (qaA qan rfl (qae.cown 3 rfl rfl)) fun a E=>qa3 [1] (by kernel_rfl) rfl (qa7 ?_)
    ·refine wo rfl<|qaf E qkO rfl (qep N v39 r41 e185 hG hTb ok) rfl rfl ?_
     rintro _ w ⟨⟨rfl,ok⟩,l199⟩
     refine ⟨_,rfl,fun a E=>?_⟩
     refine wn<|qaz (cl1 (cq le_m14 ok [0,3,4,5,6] rfl) (cq le_m14 ok [0,3,4,5,6] rfl)) fun hT=>kt 2 E rfl hT (qaT rfl rfl e188) fun a E=>kt 6 E rfl hT (qaT rfl rfl e190) fun a E=>qa3 [7] (by kernel_rfl) rfl (qa7 ?_)
     ·refine qcK (o:=_) rfl ?_
      replace ok:Ok u m14 ([(b22,oc 68 [c42,c44])] :: M45 :: [(b61,oc 47 [vi x48.Op,vi x48.A,vi x48.B,vs x48.S])] :: [(b15,oc 110 [(Value.int .u32 r12.once.done.v),(Value.int .i32 r12.once.m.mu.state),(Value.int .u32 r12.once.m.mu.sema),Value.nilIface,c19])] :: M20 :: [(b6,oc 62 [(vs ([63])),(vs ([101,109,105,116])),(vs ([111,112,101,110])),(vs ([99,108,111,115,101])),(vs ([118,111,105,100])),(vs ([97,114,103])),(vs ([110,117,109,98,101,114])),(vs ([117,110,105,116])),(vs ([100,97,116,101])),(vs ([108,105,115,116])),(vs ([115,119,105,116,99,104])),(vs ([99,97,115,101])),(vs ([106,117,109,112])),(vs ([115,116,111,112]))])] :: [(b5,oc 28 [c1,c3])] :: S) w:=(ok.pk 7 [2,1,0,3,4,5,6] rfl (by decide))
      refine qaf E qkw rfl (qb9 N s189 (qbP e190) (Builder.mk () v40.buf) h43 h46 e192 hG ok) rfl rfl ?_
      rintro _ w ⟨c201,c203,M204,⟨rfl,ok⟩,r200,h202,h205⟩
      refine ⟨_,rfl,fun a E=>?_⟩
      refine wn<|qaz (cl1 (cq le_m14 ok [2,3,4,5,6] rfl) (cq le_m14 ok [2,3,4,5,6] rfl)) fun hT=>qbI (by kernel_rfl) ?_
      exact ⟨rfl,⟨c201,c203,M204,(ok.pk 7 [2,1,0,3,4,5,6] rfl (by decide)),E.keep [3,4,5,7,15,16,17],h202,h205⟩⟩
   intro e a w hO
   obtain ⟨rfl,c206,c208,M209,ok,E,h207,h210⟩:=hO
   refine qab<|wp_seq<|sg<|fk E ok qej qam rfl 0 rfl rfl fun a E=>fk E ok qmS qam rfl 0 rfl rfl fun a E=>qbx (R:=(pI .i64)) (xo:=[.tmp 41,.tmp 43]) (xs:=([x48.A,x48.B]:List (Int))) E ok qgM qkG rfl ⟨⟨_,rfl,rfl,(qdC r58)⟩,⟨_,rfl,rfl,(qdC r59)⟩,trivial⟩ rfl rfl rfl rfl fun c211 M212 a w E ok h213=>lv E ok (qd8 qgM h213 rfl) fun a E=>mv E rfl fun a E=>wn<|wp_block<|bd hF fun o221 hL hF=>qbb _ (fun (s:Int × Builder) a w=>∃ c223 c225 M226,Ok u m14 (M212 :: [(b61,oc 47 [vi x48.Op,vi x48.A,vi x48.B,vs x48.S])] :: M226 :: [(b22,oc 68 [c223,c225])] :: [(b15,oc 110 [(Value.int .u32 r12.once.done.v),(Value.int .i32 r12.once.m.mu.state),(Value.int .u32 r12.once.m.mu.sema),Value.nilIface,c19])] :: M20 :: [(b6,oc 62 [(vs ([63])),(vs ([101,109,105,116])),(vs ([111,112,101,110])),(vs ([99,108,111,115,101])),(vs ([118,111,105,100])),(vs ([97,114,103])),(vs ([110,117,109,98,101,114])),(vs ([117,110,105,116])),(vs ([100,97,116,101])),(vs ([108,105,115,116])),(vs ([115,119,105,116,99,104])),(vs ([99,97,115,101])),(vs ([106,117,109,112])),(vs ([115,116,111,112]))])] :: [(b5,oc 28 [c1,c3])] :: S) w ∧ Env 70 a [(3,vp b6),(4,vp b15),(5,vp b22),(7,vp b61),(15,c3),(16,(vi (c_0.Ins.length:Int))),(17,vi v39),(44,c211),(45,(vi (([x48.A,x48.B]:List (Int)).length:Int))),(46,vi s.1)] ∧ InR .i64 s.1 ∧ BAd b22 c223 ∧ ORow 5 1 (pI .u8) m14 c225 s.2.buf M226) (fun (b:Builder) e a w=>e = (.exit 2) ∧ ∃ c275 c277 M278,Ok u m14 (M212 :: [(b61,oc 47 [vi x48.Op,vi x48.A,vi x48.B,vs x48.S])] :: M278 :: [(b22,oc 68 [c275,c277])] :: [(b15,oc 110 [(Value.int .u32 r12.once.done.v),(Value.int .i32 r12.once.m.mu.state),(Value.int .u32 r12.once.m.mu.sema),Value.nilIface,c19])] :: M20 :: [(b6,oc 62 [(vs ([63])),(vs ([101,109,105,116])),(vs ([111,112,101,110])),(vs ([99,108,111,115,101])),(vs ([118,111,105,100])),(vs ([97,114,103])),(vs ([110,117,109,98,101,114])),(vs ([117,110,105,116])),(vs ([100,97,116,101])),(vs ([108,105,115,116])),(vs ([115,119,105,116,99,104])),(vs ([99,97,115,101])),(vs ([106,117,109,112])),(vs ([115,116,111,112]))])] :: [(b5,oc 28 [c1,c3])] :: S) w ∧ Env 70 a [(3,vp b6),(4,vp b15),(5,vp b22),(7,vp b61),(15,c3),(16,(vi (c_0.Ins.length:Int))),(17,vi v39)] ∧ BAd b22 c275 ∧ ORow 5 1 (pI .u8) m14 c277 b.buf M278) ?_ ?_ N _ a w hL ⟨c206,c208,M209,ok,E.keep [3,4,5,7,15,16,17,44,45,46],(ir 0),h207,h210⟩
   rotate_left
   ·intro e a w _ hO
    obtain ⟨rfl,c262,c264,M265,ok,E,h263,h266⟩:=hO
    refine qbh<|qab<|wp_seq<|sg<|fk E ok qmG qan rfl 1 rfl rfl fun a E=>lw E (qdp rfl rfl) fun a E=>wn<|cf E rfl hF (fun c267 hF=>?_) fun c267 hF=>?_
    ·cases hF
    refine wp_skip<|qab<|qac ?_
    obtain ⟨r268,e269,hF⟩:=bnd hF
    replace ok:Ok u m14 ([(b22,oc 68 [c262,c264])] :: M265 :: M212 :: [(b61,oc 47 [vi x48.Op,vi x48.A,vi x48.B,vs x48.S])] :: [(b15,oc 110 [(Value.int .u32 r12.once.done.v),(Value.int .i32 r12.once.m.mu.state),(Value.int .u32 r12.once.m.mu.sema),Value.nilIface,c19])] :: M20 :: [(b6,oc 62 [(vs ([63])),(vs ([101,109,105,116])),(vs ([111,112,101,110])),(vs ([99,108,111,115,101])),(vs ([118,111,105,100])),(vs ([97,114,103])),(vs ([110,117,109,98,101,114])),(vs ([117,110,105,116])),(vs ([100,97,116,101])),(vs ([108,105,115,116])),(vs ([115,119,105,116,99,104])),(vs ([99,97,115,101])),(vs ([106,117,109,112])),(vs ([115,116,111,112]))])] :: [(b5,oc 28 [c1,c3])] :: S) w:=(ok.pk 8 [3,2,0,1,4,5,6,7] rfl (by decide))
    refine qaf E qkL rfl (qcj N 10 (show InR .u8 (10) by decide) (Builder.mk () o221.buf) h263 h266 e269 hG ok) rfl rfl ?_
    rintro _ w ⟨c270,c272,M273,⟨rfl,ok⟩,h271,h274⟩
    refine ⟨_,rfl,fun a E=>?_⟩
    refine wpList_nil<|qag<|qab<|qac<|lw E (qaG rfl rfl (InR.inc r41 (qao h4) c47)) fun a E=>mv E rfl fun a E=>wpList_nil ?_
    cases hF
    exact qau ⟨c270,c272,M273,(ok.pk 8 [1,0,4,5,6,7] rfl (by decide)),E.keep [3,4,5,15,16,17],(InR.inc r41 (qao h4) c47),h271,h274⟩
   rintro ⟨v228,v229⟩ a w r ⟨c231,c233,M234,ok,E,r230,h232,h235⟩ hF
   replace hF:qgt N x48 v228 v229 = some r:=hF
   unfold qgt at hF
   refine sg<|lw E (qaQ rfl rfl) fun a E=>wn<|wp_seq<|cg E rfl hF (fun c236 hF=>?_) fun c236 hF=>?_
   ·refine wp_exit<|qaV ?_
    cases hF
    exact so (⟨rfl,⟨c231,c233,M234,ok,E.keep [3,4,5,7,15,16,17],h232,h235⟩⟩)
   refine wp_skip<|qab<|wp_seq<|wp_block<|sg ?_
   obtain ⟨x237,e238,hF⟩:=bnd hF
   obtain ⟨b239,o240,hp241,yy242⟩:=qfS qgM h213 e238 (P:=Tryz.prog) (X:=.tmp 44) (I:=.tmp 46) (kd:=.i64) (qcc E rfl) (qcc E rfl)
   refine lv E ok (yy242 _ _) fun a E=>?_
   obtain ⟨es243,hl244,rr245,hh246⟩:=qhr h213 e238 hp241 (by decide)
   obtain ⟨rfl,r247⟩:=rr245
   refine lv E ok (qaA qam rfl (hh246 _ _ _ 0 rfl)) fun a E=>aw E rfl fun a E=>sg<|mv E rfl fun a E=>lw E (qbu rfl rfl) fun a E=>wn<|cg E rfl hF (fun c248 hF=>?_) fun c248 hF=>?_
   ·refine wp_skip<|qag<|qab<|qac<|lw E (qaG rfl rfl (InR.inc r230 (ORow.InR h213) c236)) fun a E=>mv E rfl fun a E=>wpList_nil ?_
    cases hF
    exact qau ⟨c231,c233,M234,ok,E.keep [3,4,5,7,15,16,17,44,45,46],(InR.inc r230 (ORow.InR h213) c236),h232,h235⟩
   refine qac<|mv E rfl fun a E=>bd hF fun r249 e250 hF=>qaf E qkO rfl (qep N x237 r247 e250 hG hTb ok) rfl rfl ?_
   rintro _ w ⟨⟨rfl,ok⟩,l251⟩
   refine ⟨_,rfl,fun a E=>?_⟩
   refine bd hF fun s252 e253 hF=>lw E (qaT rfl rfl e253) fun a E=>?_
   obtain ⟨r254,e255,hF⟩:=bnd hF
   replace ok:Ok u m14 ([(b22,oc 68 [c231,c233])] :: M234 :: M212 :: [(b61,oc 47 [vi x48.Op,vi x48.A,vi x48.B,vs x48.S])] :: [(b15,oc 110 [(Value.int .u32 r12.once.done.v),(Value.int .i32 r12.once.m.mu.state),(Value.int .u32 r12.once.m.mu.sema),Value.nilIface,c19])] :: M20 :: [(b6,oc 62 [(vs ([63])),(vs ([101,109,105,116])),(vs ([111,112,101,110])),(vs ([99,108,111,115,101])),(vs ([118,111,105,100])),(vs ([97,114,103])),(vs ([110,117,109,98,101,114])),(vs ([117,110,105,116])),(vs ([100,97,116,101])),(vs ([108,105,115,116])),(vs ([115,119,105,116,99,104])),(vs ([99,97,115,101])),(vs ([106,117,109,112])),(vs ([115,116,111,112]))])] :: [(b5,oc 28 [c1,c3])] :: S) w:=(ok.pk 8 [3,2,0,1,4,5,6,7] rfl (by decide))
   refine qaf E qkw rfl (qb9 N s252 (qbP e253) (Builder.mk () v229.buf) h232 h235 e255 hG ok) rfl rfl ?_
   rintro _ w ⟨c257,c259,M260,⟨rfl,ok⟩,r256,h258,h261⟩
   refine ⟨_,rfl,fun a E=>?_⟩
   refine wpList_nil<|qag<|qab<|qac<|lw E (qaG rfl rfl (InR.inc r230 (ORow.InR h213) c236)) fun a E=>mv E rfl fun a E=>wpList_nil ?_
   cases hF
   exact qau ⟨c257,c259,M260,(ok.pk 8 [2,3,1,0,4,5,6,7] rfl (by decide)),E.keep [3,4,5,7,15,16,17,44,45,46],(InR.inc r230 (ORow.InR h213) c236),h258,h261⟩
 refine fk E ok qgD qam rfl 0 rfl rfl fun a E=>lw E (qcE rfl rfl) fun a E=>pt E rfl rfl fun a E=>wn<|bd hF fun o63 hJ hF=>qaJ (Q':=fun e a w=>e = .normal ∧ Ok u m14 ([(b61,oc 47 [vi x48.Op,vi x48.A,vi x48.B,vs x48.S])] :: M45 :: [(b22,oc 68 [c42,c44])] :: [(b15,oc 110 [(Value.int .u32 r12.once.done.v),(Value.int .i32 r12.once.m.mu.state),(Value.int .u32 r12.once.m.mu.sema),Value.nilIface,c19])] :: M20 :: [(b6,oc 62 [(vs ([63])),(vs ([101,109,105,116])),(vs ([111,112,101,110])),(vs ([99,108,111,115,101])),(vs ([118,111,105,100])),(vs ([97,114,103])),(vs ([110,117,109,98,101,114])),(vs ([117,110,105,116])),(vs ([100,97,116,101])),(vs ([108,105,115,116])),(vs ([115,119,105,116,99,104])),(vs ([99,97,115,101])),(vs ([106,117,109,112])),(vs ([115,116,111,112]))])] :: [(b5,oc 28 [c1,c3])] :: S) w ∧ Env 70 a [(3,vp b6),(4,vp b15),(5,vp b22),(6,vi v39),(7,vp b61),(8,vi o63),(15,c3),(16,(vi (c_0.Ins.length:Int))),(17,vi v39)] ∧ InR .i64 o63) ?_ ?_
 ·have hF:=hJ
  refine cg E rfl hF (fun c65 hF=>?_) fun c65 hF=>?_
  ·refine wp_skip ?_
   cases hF
   exact ⟨rfl,⟨ok,E.keep [3,4,5,6,7,8,15,16,17],(ir 0)⟩⟩
  refine qac<|fk E ok qgD qam rfl 0 rfl rfl fun a E=>av E rfl fun a E=>wpList_nil ?_
  cases hF
  exact ⟨rfl,⟨ok,E.keep [3,4,5,6,7,8,15,16,17],r57⟩⟩
 intro e a w hO
 obtain ⟨rfl,ok,E,r66⟩:=hO
 refine qab<|wp_seq<|bd hF fun o67 hJ hF=>qaJ (Q':=fun e a w=>e = .normal ∧ ∃ c68 c70 M71,Ok u m14 ([(b61,oc 47 [vi x48.Op,vi x48.A,vi x48.B,vs x48.S])] :: M71 :: [(b22,oc 68 [c68,c70])] :: [(b15,oc 110 [(Value.int .u32 r12.once.done.v),(Value.int .i32 r12.once.m.mu.state),(Value.int .u32 r12.once.m.mu.sema),Value.nilIface,c19])] :: M20 :: [(b6,oc 62 [(vs ([63])),(vs ([101,109,105,116])),(vs ([111,112,101,110])),(vs ([99,108,111,115,101])),(vs ([118,111,105,100])),(vs ([97,114,103])),(vs ([110,117,109,98,101,114])),(vs ([117,110,105,116])),(vs ([100,97,116,101])),(vs ([108,105,115,116])),(vs ([115,119,105,116,99,104])),(vs ([99,97,115,101])),(vs ([106,117,109,112])),(vs ([115,116,111,112]))])] :: [(b5,oc 28 [c1,c3])] :: S) w ∧ Env 70 a [(3,vp b6),(4,vp b15),(5,vp b22),(7,vp b61),(15,c3),(16,(vi (c_0.Ins.length:Int))),(17,vi v39)] ∧ BAd b22 c68 ∧ ORow 5 1 (pI .u8) m14 c70 o67.buf M71) ?_ ?_
 ·have hF:=hJ
  obtain ⟨r73,e74,hF⟩:=bnd hF
  obtain ⟨s76,e77,hF⟩:=bnd hF
  obtain ⟨x78,e79,hF⟩:=bnd hF
  obtain ⟨s80,e81,hF⟩:=bnd hF
  obtain ⟨r82,e83,hF⟩:=bnd hF
  obtain rfl:=sj hF
  refine qbB [] (Cls u m14 ([(b61,oc 47 [vi x48.Op,vi x48.A,vi x48.B,vs x48.S])] :: [(b15,oc 110 [(Value.int .u32 r12.once.done.v),(Value.int .i32 r12.once.m.mu.state),(Value.int .u32 r12.once.m.mu.sema),Value.nilIface,c19])] :: M20 :: [(b6,oc 62 [(vs ([63])),(vs ([101,109,105,116])),(vs ([111,112,101,110])),(vs ([99,108,111,115,101])),(vs ([118,111,105,100])),(vs ([97,114,103])),(vs ([110,117,109,98,101,114])),(vs ([117,110,105,116])),(vs ([100,97,116,101])),(vs ([108,105,115,116])),(vs ([115,119,105,116,99,104])),(vs ([99,97,115,101])),(vs ([106,117,109,112])),(vs ([115,116,111,112]))])] :: [(b5,oc 28 [c1,c3])] :: [])) (Cls u m14 ([(b61,oc 47 [vi x48.Op,vi x48.A,vi x48.B,vs x48.S])] :: [(b15,oc 110 [(Value.int .u32 r12.once.done.v),(Value.int .i32 r12.once.m.mu.state),(Value.int .u32 r12.once.m.mu.sema),Value.nilIface,c19])] :: M20 :: [(b6,oc 62 [(vs ([63])),(vs ([101,109,105,116])),(vs ([111,112,101,110])),(vs ([99,108,111,115,101])),(vs ([118,111,105,100])),(vs ([97,114,103])),(vs ([110,117,109,98,101,114])),(vs ([117,110,105,116])),(vs ([100,97,116,101])),(vs ([108,105,115,116])),(vs ([115,119,105,116,99,104])),(vs ([99,97,115,101])),(vs ([106,117,109,112])),(vs ([115,116,111,112]))])] :: [(b5,oc 28 [c1,c3])] :: [])) (by kernel_rfl) ?_
  intro w hw
  replace ok:=qbS ok hw
  clear hw
  have le_m14:=Mem.le.refl m14
  refine qaz (cl1 (cq le_m14 ok [0,3,4,5,6] rfl) (cq le_m14 ok [0,3,4,5,6] rfl)) fun hT=>kt 0 E rfl hT (qaq rfl) fun a E=>kt 3 E rfl hT (qaq rfl) fun a E=>?_
  replace e79:idx (Arr14_List_UInt8.list (Arr14_List_UInt8.mk ([63]) ([101,109,105,116]) ([111,112,101,110]) ([99,108,111,115,101]) ([118,111,105,100]) ([97,114,103]) ([110,117,109,98,101,114]) ([117,110,105,116]) ([100,97,116,101]) ([108,105,115,116]) ([115,119,105,116,99,104]) ([99,97,115,101]) ([106,117,109,112]) ([115,116,111,112]))) o63 = some x78:=e79
  refine kt 4 E rfl hT (qnq qmr rfl rfl (qlk e79).1 (qlk e79).2) fun a E=>qa3 [1,5] (by kernel_rfl) rfl (qiN ?_ (qiN ?_ (qlC)))
  ·refine wo rfl<|qaf E qkO rfl (qep N v39 r41 e74 hG hTb ok) rfl rfl ?_
   rintro _ w ⟨⟨rfl,ok⟩,l90⟩
   refine ⟨_,rfl,fun a E=>?_⟩
   refine wn<|qaz (cl1 (cq le_m14 ok [0,3,4,5,6] rfl) (cq le_m14 ok [0,3,4,5,6] rfl)) fun hT=>kt 2 E rfl hT (qaT rfl rfl e77) fun a E=>qa3 [5] (by kernel_rfl) rfl (qa7 ?_)
   ·refine wo rfl<|lv E ok (qaA qan rfl (qae.idx (xs:=Arr14_List_UInt8.list (Arr14_List_UInt8.mk ([63]) ([101,109,105,116]) ([111,112,101,110]) ([99,108,111,115,101]) ([118,111,105,100]) ([97,114,103]) ([110,117,109,98,101,114]) ([117,110,105,116]) ([100,97,116,101]) ([108,105,115,116]) ([115,119,105,116,99,104]) ([99,97,115,101]) ([106,117,109,112]) ([115,116,111,112]))) (f:=(fun x=>vs x)) (qae.own 5 rfl rfl) e79)) fun a E=>wn<|qaz (cl1 (cq le_m14 ok [0,3,4,5,6] rfl) (cq le_m14 ok [0,3,4,5,6] rfl)) fun hT=>kt 6 E rfl hT (qaT rfl rfl e81) fun a E=>qa3 [7] (by kernel_rfl) rfl (qa7 ?_)
    ·refine qcK (o:=_) rfl ?_
     replace ok:Ok u m14 ([(b22,oc 68 [c42,c44])] :: M45 :: [(b61,oc 47 [vi x48.Op,vi x48.A,vi x48.B,vs x48.S])] :: [(b15,oc 110 [(Value.int .u32 r12.once.done.v),(Value.int .i32 r12.once.m.mu.state),(Value.int .u32 r12.once.m.mu.sema),Value.nilIface,c19])] :: M20 :: [(b6,oc 62 [(vs ([63])),(vs ([101,109,105,116])),(vs ([111,112,101,110])),(vs ([99,108,111,115,101])),(vs ([118,111,105,100])),(vs ([97,114,103])),(vs ([110,117,109,98,101,114])),(vs ([117,110,105,116])),(vs ([100,97,116,101])),(vs ([108,105,115,116])),(vs ([115,119,105,116,99,104])),(vs ([99,97,115,101])),(vs ([106,117,109,112])),(vs ([115,116,111,112]))])] :: [(b5,oc 28 [c1,c3])] :: S) w:=(ok.pk 7 [2,1,0,3,4,5,6] rfl (by decide))
     refine qaf E qkw rfl (qb9 N s80 (qbP e81) (Builder.mk () v40.buf) h43 h46 e83 hG ok) rfl rfl ?_
     rintro _ w ⟨c92,c94,M95,⟨rfl,ok⟩,r91,h93,h96⟩
     refine ⟨_,rfl,fun a E=>?_⟩
     refine wn<|qaz (cl1 (cq le_m14 ok [2,3,4,5,6] rfl) (cq le_m14 ok [2,3,4,5,6] rfl)) fun hT=>qbI (by kernel_rfl) ?_
     exact ⟨rfl,⟨c92,c94,M95,(ok.pk 7 [2,1,0,3,4,5,6] rfl (by decide)),E.keep [3,4,5,7,15,16,17],h93,h96⟩⟩
  refine wo rfl<|lv E ok (qaA qan rfl (qae.idx (xs:=Arr14_List_UInt8.list (Arr14_List_UInt8.mk ([63]) ([101,109,105,116]) ([111,112,101,110]) ([99,108,111,115,101]) ([118,111,105,100]) ([97,114,103]) ([110,117,109,98,101,114]) ([117,110,105,116]) ([100,97,116,101]) ([108,105,115,116]) ([115,119,105,116,99,104]) ([99,97,115,101]) ([106,117,109,112]) ([115,116,111,112]))) (f:=(fun x=>vs x)) (qae.own 5 rfl rfl) e79)) fun a E=>wn<|qaz (cl1 (cq le_m14 ok [0,3,4,5,6] rfl) (cq le_m14 ok [0,3,4,5,6] rfl)) fun hT=>qa3 [1] (by kernel_rfl) rfl (qa7 ?_)
  ·refine wo rfl<|qaf E qkO rfl (qep N v39 r41 e74 hG hTb ok) rfl rfl ?_
   rintro _ w ⟨⟨rfl,ok⟩,l97⟩
   refine ⟨_,rfl,fun a E=>?_⟩
   refine wn<|qaz (cl1 (cq le_m14 ok [0,3,4,5,6] rfl) (cq le_m14 ok [0,3,4,5,6] rfl)) fun hT=>kt 2 E rfl hT (qaT rfl rfl e77) fun a E=>kt 6 E rfl hT (qaT rfl rfl e81) fun a E=>qa3 [7] (by kernel_rfl) rfl (qa7 ?_)
   ·refine qcK (o:=_) rfl ?_
    replace ok:Ok u m14 ([(b22,oc 68 [c42,c44])] :: M45 :: [(b61,oc 47 [vi x48.Op,vi x48.A,vi x48.B,vs x48.S])] :: [(b15,oc 110 [(Value.int .u32 r12.once.done.v),(Value.int .i32 r12.once.m.mu.state),(Value.int .u32 r12.once.m.mu.sema),Value.nilIface,c19])] :: M20 :: [(b6,oc 62 [(vs ([63])),(vs ([101,109,105,116])),(vs ([111,112,101,110])),(vs ([99,108,111,115,101])),(vs ([118,111,105,100])),(vs ([97,114,103])),(vs ([110,117,109,98,101,114])),(vs ([117,110,105,116])),(vs ([100,97,116,101])),(vs ([108,105,115,116])),(vs ([115,119,105,116,99,104])),(vs ([99,97,115,101])),(vs ([106,117,109,112])),(vs ([115,116,111,112]))])] :: [(b5,oc 28 [c1,c3])] :: S) w:=(ok.pk 7 [2,1,0,3,4,5,6] rfl (by decide))
    refine qaf E qkw rfl (qb9 N s80 (qbP e81) (Builder.mk () v40.buf) h43 h46 e83 hG ok) rfl rfl ?_
    rintro _ w ⟨c99,c101,M102,⟨rfl,ok⟩,r98,h100,h103⟩
    refine ⟨_,rfl,fun a E=>?_⟩
    refine wn<|qaz (cl1 (cq le_m14 ok [2,3,4,5,6] rfl) (cq le_m14 ok [2,3,4,5,6] rfl)) fun hT=>qbI (by kernel_rfl) ?_
    exact ⟨rfl,⟨c99,c101,M102,(ok.pk 7 [2,1,0,3,4,5,6] rfl (by decide)),E.keep [3,4,5,7,15,16,17],h100,h103⟩⟩
 intro e a w hO
 obtain ⟨rfl,c104,c106,M107,ok,E,h105,h108⟩:=hO
 refine qab<|wp_seq<|sg<|fk E ok qej qam rfl 0 rfl rfl fun a E=>fk E ok qmS qam rfl 0 rfl rfl fun a E=>qbx (R:=(pI .i64)) (xo:=[.tmp 41,.tmp 43]) (xs:=([x48.A,x48.B]:List (Int))) E ok qgM qkG rfl ⟨⟨_,rfl,rfl,(qdC r58)⟩,⟨_,rfl,rfl,(qdC r59)⟩,trivial⟩ rfl rfl rfl rfl fun c109 M110 a w E ok h111=>lv E ok (qd8 qgM h111 rfl) fun a E=>mv E rfl fun a E=>wn<|wp_block<|bd hF fun o119 hL hF=>qbb _ (fun (s:Int × Builder) a w=>∃ c121 c123 M124,Ok u m14 (M110 :: [(b61,oc 47 [vi x48.Op,vi x48.A,vi x48.B,vs x48.S])] :: M124 :: [(b22,oc 68 [c121,c123])] :: [(b15,oc 110 [(Value.int .u32 r12.once.done.v),(Value.int .i32 r12.once.m.mu.state),(Value.int .u32 r12.once.m.mu.sema),Value.nilIface,c19])] :: M20 :: [(b6,oc 62 [(vs ([63])),(vs ([101,109,105,116])),(vs ([111,112,101,110])),(vs ([99,108,111,115,101])),(vs ([118,111,105,100])),(vs ([97,114,103])),(vs ([110,117,109,98,101,114])),(vs ([117,110,105,116])),(vs ([100,97,116,101])),(vs ([108,105,115,116])),(vs ([115,119,105,116,99,104])),(vs ([99,97,115,101])),(vs ([106,117,109,112])),(vs ([115,116,111,112]))])] :: [(b5,oc 28 [c1,c3])] :: S) w ∧ Env 70 a [(3,vp b6),(4,vp b15),(5,vp b22),(7,vp b61),(15,c3),(16,(vi (c_0.Ins.length:Int))),(17,vi v39),(44,c109),(45,(vi (([x48.A,x48.B]:List (Int)).length:Int))),(46,vi s.1)] ∧ InR .i64 s.1 ∧ BAd b22 c121 ∧ ORow 5 1 (pI .u8) m14 c123 s.2.buf M124) (fun (b:Builder) e a w=>e = (.exit 2) ∧ ∃ c173 c175 M176,Ok u m14 (M110 :: [(b61,oc 47 [vi x48.Op,vi x48.A,vi x48.B,vs x48.S])] :: M176 :: [(b22,oc 68 [c173,c175])] :: [(b15,oc 110 [(Value.int .u32 r12.once.done.v),(Value.int .i32 r12.once.m.mu.state),(Value.int .u32 r12.once.m.mu.sema),Value.nilIface,c19])] :: M20 :: [(b6,oc 62 [(vs ([63])),(vs ([101,109,105,116])),(vs ([111,112,101,110])),(vs ([99,108,111,115,101])),(vs ([118,111,105,100])),(vs ([97,114,103])),(vs ([110,117,109,98,101,114])),(vs ([117,110,105,116])),(vs ([100,97,116,101])),(vs ([108,105,115,116])),(vs ([115,119,105,116,99,104])),(vs ([99,97,115,101])),(vs ([106,117,109,112])),(vs ([115,116,111,112]))])] :: [(b5,oc 28 [c1,c3])] :: S) w ∧ Env 70 a [(3,vp b6),(4,vp b15),(5,vp b22),(7,vp b61),(15,c3),(16,(vi (c_0.Ins.length:Int))),(17,vi v39)] ∧ BAd b22 c173 ∧ ORow 5 1 (pI .u8) m14 c175 b.buf M176) ?_ ?_ N _ a w hL ⟨c104,c106,M107,ok,E.keep [3,4,5,7,15,16,17,44,45,46],(ir 0),h105,h108⟩
 rotate_left
 ·intro e a w _ hO
  obtain ⟨rfl,c160,c162,M163,ok,E,h161,h164⟩:=hO
  refine qbh<|qab<|wp_seq<|sg<|fk E ok qmG qan rfl 1 rfl rfl fun a E=>lw E (qdp rfl rfl) fun a E=>wn<|cf E rfl hF (fun c165 hF=>?_) fun c165 hF=>?_
  ·cases hF
  refine wp_skip<|qab<|qac ?_
  obtain ⟨r166,e167,hF⟩:=bnd hF
  replace ok:Ok u m14 ([(b22,oc 68 [c160,c162])] :: M163 :: M110 :: [(b61,oc 47 [vi x48.Op,vi x48.A,vi x48.B,vs x48.S])] :: [(b15,oc 110 [(Value.int .u32 r12.once.done.v),(Value.int .i32 r12.once.m.mu.state),(Value.int .u32 r12.once.m.mu.sema),Value.nilIface,c19])] :: M20 :: [(b6,oc 62 [(vs ([63])),(vs ([101,109,105,116])),(vs ([111,112,101,110])),(vs ([99,108,111,115,101])),(vs ([118,111,105,100])),(vs ([97,114,103])),(vs ([110,117,109,98,101,114])),(vs ([117,110,105,116])),(vs ([100,97,116,101])),(vs ([108,105,115,116])),(vs ([115,119,105,116,99,104])),(vs ([99,97,115,101])),(vs ([106,117,109,112])),(vs ([115,116,111,112]))])] :: [(b5,oc 28 [c1,c3])] :: S) w:=(ok.pk 8 [3,2,0,1,4,5,6,7] rfl (by decide))
  refine qaf E qkL rfl (qcj N 10 (show InR .u8 (10) by decide) (Builder.mk () o119.buf) h161 h164 e167 hG ok) rfl rfl ?_
  rintro _ w ⟨c168,c170,M171,⟨rfl,ok⟩,h169,h172⟩
  refine ⟨_,rfl,fun a E=>?_⟩
  refine wpList_nil<|qag<|qab<|qac<|lw E (qaG rfl rfl (InR.inc r41 (qao h4) c47)) fun a E=>mv E rfl fun a E=>wpList_nil ?_
  cases hF
  exact qau ⟨c168,c170,M171,(ok.pk 8 [1,0,4,5,6,7] rfl (by decide)),E.keep [3,4,5,15,16,17],(InR.inc r41 (qao h4) c47),h169,h172⟩
 rintro ⟨v126,v127⟩ a w r ⟨c129,c131,M132,ok,E,r128,h130,h133⟩ hF
 replace hF:qgu N x48 v126 v127 = some r:=hF
 unfold qgu at hF
 refine sg<|lw E (qaQ rfl rfl) fun a E=>wn<|wp_seq<|cg E rfl hF (fun c134 hF=>?_) fun c134 hF=>?_
 ·refine wp_exit<|qaV ?_
  cases hF
  exact so (⟨rfl,⟨c129,c131,M132,ok,E.keep [3,4,5,7,15,16,17],h130,h133⟩⟩)
 refine wp_skip<|qab<|wp_seq<|wp_block<|sg ?_
 obtain ⟨x135,e136,hF⟩:=bnd hF
 obtain ⟨b137,o138,hp139,yy140⟩:=qfS qgM h111 e136 (P:=Tryz.prog) (X:=.tmp 44) (I:=.tmp 46) (kd:=.i64) (qcc E rfl) (qcc E rfl)
 refine lv E ok (yy140 _ _) fun a E=>?_
 obtain ⟨es141,hl142,rr143,hh144⟩:=qhr h111 e136 hp139 (by decide)
 obtain ⟨rfl,r145⟩:=rr143
 refine lv E ok (qaA qam rfl (hh144 _ _ _ 0 rfl)) fun a E=>aw E rfl fun a E=>sg<|mv E rfl fun a E=>lw E (qbu rfl rfl) fun a E=>wn<|cg E rfl hF (fun c146 hF=>?_) fun c146 hF=>?_
 ·refine wp_skip<|qag<|qab<|qac<|lw E (qaG rfl rfl (InR.inc r128 (ORow.InR h111) c134)) fun a E=>mv E rfl fun a E=>wpList_nil ?_
  cases hF
  exact qau ⟨c129,c131,M132,ok,E.keep [3,4,5,7,15,16,17,44,45,46],(InR.inc r128 (ORow.InR h111) c134),h130,h133⟩
 refine qac<|mv E rfl fun a E=>bd hF fun r147 e148 hF=>qaf E qkO rfl (qep N x135 r145 e148 hG hTb ok) rfl rfl ?_
 rintro _ w ⟨⟨rfl,ok⟩,l149⟩
 refine ⟨_,rfl,fun a E=>?_⟩
 refine bd hF fun s150 e151 hF=>lw E (qaT rfl rfl e151) fun a E=>?_
 obtain ⟨r152,e153,hF⟩:=bnd hF
 replace ok:Ok u m14 ([(b22,oc 68 [c129,c131])] :: M132 :: M110 :: [(b61,oc 47 [vi x48.Op,vi x48.A,vi x48.B,vs x48.S])] :: [(b15,oc 110 [(Value.int .u32 r12.once.done.v),(Value.int .i32 r12.once.m.mu.state),(Value.int .u32 r12.once.m.mu.sema),Value.nilIface,c19])] :: M20 :: [(b6,oc 62 [(vs ([63])),(vs ([101,109,105,116])),(vs ([111,112,101,110])),(vs ([99,108,111,115,101])),(vs ([118,111,105,100])),(vs ([97,114,103])),(vs ([110,117,109,98,101,114])),(vs ([117,110,105,116])),(vs ([100,97,116,101])),(vs ([108,105,115,116])),(vs ([115,119,105,116,99,104])),(vs ([99,97,115,101])),(vs ([106,117,109,112])),(vs ([115,116,111,112]))])] :: [(b5,oc 28 [c1,c3])] :: S) w:=(ok.pk 8 [3,2,0,1,4,5,6,7] rfl (by decide))
 refine qaf E qkw rfl (qb9 N s150 (qbP e151) (Builder.mk () v127.buf) h130 h133 e153 hG ok) rfl rfl ?_
 rintro _ w ⟨c155,c157,M158,⟨rfl,ok⟩,r154,h156,h159⟩
 refine ⟨_,rfl,fun a E=>?_⟩
 refine wpList_nil<|qag<|qab<|qac<|lw E (qaG rfl rfl (InR.inc r128 (ORow.InR h111) c134)) fun a E=>mv E rfl fun a E=>wpList_nil ?_
 cases hF
 exact qau ⟨c155,c157,M158,(ok.pk 8 [2,3,1,0,4,5,6,7] rfl (by decide)),E.keep [3,4,5,7,15,16,17,44,45,46],(InR.inc r128 (ORow.InR h111) c134),h156,h159⟩
end Go.Proofs.YtllnjbnknjpbjaaGreatDoor
namespace Go.Proofs.YtllnjbnknjpbjaaGreatDoor
open Go.X
variable {u:World} {m0:Mem} {S:Segs} {w:World}
set_option maxHeartbeats 4000000
set_option maxRecDepth 100000
def ql9:Rp Number2:=fun _ cs x=>cs = [.bool x.Neg,.string (bs x.Whole),.string (bs x.Frac)] ∧ x.Whole.length ≤ LIMS ∧ x.Frac.length ≤ LIMS
theorem qbn:aggB Tryz.prog 173 3 = true:=by kernel_rfl
theorem qhG:qaX Tryz.prog 173 0 0 = true:=by kernel_rfl
theorem qcT:qaX Tryz.prog 173 1 1 = true:=by kernel_rfl
theorem qdf:qaX Tryz.prog 173 2 2 = true:=by kernel_rfl
theorem qpC:goB Tryz.prog 104 = true:=by kernel_rfl
theorem qpD:goB Tryz.prog 105 = true:=by kernel_rfl
theorem qnp:goB Tryz.prog 128 = true:=by kernel_rfl
theorem qkn:goB Tryz.prog 129 = true:=by kernel_rfl
theorem qnm:goB Tryz.prog 27 = true:=by kernel_rfl
theorem qnf:goB Tryz.prog 28 = true:=by kernel_rfl
theorem qm6:goB Tryz.prog 29 = true:=by kernel_rfl
theorem qmZ:goB Tryz.prog 43 = true:=by kernel_rfl
theorem qlI:goB Tryz.prog 44 = true:=by kernel_rfl
theorem qlF:goB Tryz.prog 45 = true:=by kernel_rfl
theorem qjT:goB Tryz.prog 47 = true:=by kernel_rfl
theorem qeX:goB Tryz.prog 59 = true:=by kernel_rfl
theorem qjW:goB Tryz.prog 60 = true:=by kernel_rfl
theorem qql:goB Tryz.prog 62 = true:=by kernel_rfl
theorem qlJ:goB Tryz.prog 75 = true:=by kernel_rfl
theorem qoP:goB Tryz.prog 76 = true:=by kernel_rfl
theorem qqD:goB Tryz.prog 77 = true:=by kernel_rfl
theorem qqt:goB Tryz.prog 78 = true:=by kernel_rfl
theorem qlL:goB Tryz.prog 79 = true:=by kernel_rfl
theorem qhl:goB Tryz.prog 80 = true:=by kernel_rfl
theorem qbR:∃ i,Tryz.prog.info? 173 = some i ∧ i.size = 3:=⟨_,rfl,by kernel_rfl⟩
theorem qqu:∃ i,Tryz.prog.info? 4 = some i ∧ i.size = 1:=⟨_,rfl,by kernel_rfl⟩
theorem qlH:oneB Tryz.prog 4 = true:=by kernel_rfl
theorem qbT:qdL Tryz.prog 173 = some [(0,1),(1,1),(2,1)]:=by kernel_rfl
theorem qb4:qct Tryz.prog 173 = some [vb false,(vs ([])),(vs ([]))]:=by kernel_rfl
def qji (u:World) (m0:Mem) (S:Segs) (r:Int) (a:Act) (w:World):Prop :=
 Ok u m0 S w ∧ a.defers = [] ∧ RVs Tryz.prog a w [.t 2 (.int .i64 r)] ∧ InR .i64 r
def qeb (N:Nat):Prop:=∀ {u:World} {m0:Mem} {S:Segs} {w:World} (vparts_0:Value) (parts_0:List (Part)) (hparts_0:(pL 6 qa0) m0 [vparts_0] parts_0) {r:Int} (hF:qbY N parts_0 = some r) (hG:Glob u) (ok:Ok u m0 S w),Calls Tryz.prog 27 [vparts_0].toArray w fun e w'=>(e = .returned (.int .i64 r) ∧ Ok u m0 S w') ∧ InR .i64 r
theorem qh6 (N:Nat) (ih_calqueref26_Depth:qeb N):qeb (N + 1):=by
 intro u m0 S w vparts_0 parts_0 hparts_0 r hF hG ok
 have hF0:qc3 (qbY N) N parts_0 = some r:=hF
 have hF:=hF0
 clear hF0
 unfold qc3 at hF
 refine en (qji u m0 S) r Tryz.func27 rfl rfl rfl (fun _ _ h=>rb h rfl) fun fin a E=>sg<|aw E rfl fun a E=>sg<|aw E rfl fun a E=>wp_seq<|sg<|av E rfl fun a E=>wn<|wp_block<|bd hF fun o3 hL hF=>qbb _ (fun (s:Int × Int) a w=>Ok u m0 (S) w ∧ Env 45 a [(0,vparts_0),(3,vi s.1),(4,vi s.2)] ∧ InR .i64 s.1 ∧ InR .i64 s.2) (fun (b:Int) e a w=>e = (.exit 0) ∧ Ok u m0 (S) w ∧ Env 45 a [(3,vi b)] ∧ InR .i64 b) ?_ ?_ N _ a w hL ⟨ok,E.keep [0,3,4],(ir 0),(ir 0)⟩
 rotate_left
 ·intro e a w _ hO
  obtain ⟨rfl,ok,E,r92⟩:=hO
  refine qbh<|qab<|sg<|mv E rfl fun a E=>aw E rfl fun a E=>wp_ret ?_
  exact fin hF ⟨ok,E.d,rz E rfl,r92⟩
 rintro ⟨v6,v7⟩ a w r ⟨ok,E,r8,r9⟩ hF
 replace hF:qcN (qbY N) N parts_0 v6 v7 = some r:=hF
 unfold qcN at hF
 refine wp_seq<|sg<|mz E rfl rfl fun a E=>lv E ok (qbe qbi hparts_0 rfl) fun a E=>lw E (qaQ rfl rfl) fun a E=>wn<|cg E rfl hF (fun c10 hF=>?_) fun c10 hF=>?_
 ·refine wp_exit<|qaV ?_
  cases hF
  exact so (⟨rfl,⟨ok,E.keep [3],r8⟩⟩)
 refine wp_skip<|qab<|wp_seq<|wp_block<|sg<|mz E rfl rfl fun a E=>mv E rfl fun a E=>?_
 obtain ⟨x11,e12,hF⟩:=bnd hF
 obtain ⟨b13,o14,es15,hl16,rr17,at18,yy19⟩:=ia E 13 14 qbi hparts_0 e12
 obtain ⟨c24,c26,rfl,r20,l21,l22,l23,h25,h27⟩:=(qaS.1 rr17)
 refine lv E ok (yy19 _ _) fun a E=>fv E qcA rfl fun a E=>lv E ok (qaA qck rfl (qae.ro (At.sub 5 1 at18))) fun a E=>bd hF fun r28 e29 hF=>qaf E qnm rfl (ih_calqueref26_Depth _ x11.Parts h27 e29 hG ok) rfl rfl ?_
 rintro _ w ⟨⟨rfl,ok⟩,r30⟩
 refine ⟨_,rfl,fun a E=>?_⟩
 refine lw E (qaM rfl rfl) fun a E=>lv E ok (qpX rfl rfl rfl) fun a E=>aw E rfl fun a E=>sg<|av E rfl fun a E=>wn<|wp_block<|bd hF fun o33 hL hF=>qbb _ (fun (s:Int × Int) a w=>Ok u m0 (S) w ∧ Env 45 a [(0,vparts_0),(3,vi s.1),(4,vi v7),(5,vi s.2)] ∧ InR .i64 s.1 ∧ InR .i64 s.2) (fun (b:Int) e a w=>e = (.exit 2) ∧ Ok u m0 (S) w ∧ Env 45 a [(0,vparts_0),(3,vi b),(4,vi v7)] ∧ InR .i64 b) ?_ ?_ N _ a w hL ⟨ok,E.keep [0,3,4,5],(InR.max (InR.max r8 (ir 1)) (InR.wrap _ _)),(ir 0)⟩
 rotate_left
 ·intro e a w _ hO
  obtain ⟨rfl,ok,E,r90⟩:=hO
  refine qbh<|qag<|qab<|qac<|mv E rfl fun a E=>lw E (qaG rfl rfl (InR.inc r9 (qao hparts_0) c10)) fun a E=>av E rfl fun a E=>wpList_nil ?_
  cases hF
  exact qau ⟨ok,E.keep [0,3,4],r90,(InR.inc r9 (qao hparts_0) c10)⟩
 rintro ⟨v36,v37⟩ a w r ⟨ok,E,r38,r39⟩ hF
 replace hF:qcS (qbY N) N parts_0 v7 v36 v37 = some r:=hF
 unfold qcS at hF
 refine wp_seq<|sg<|mz E rfl rfl fun a E=>mv E rfl fun a E=>?_
 obtain ⟨x40,e41,hF⟩:=bnd hF
 obtain ⟨b42,o43,es44,hl45,rr46,at47,yy48⟩:=ia E 22 23 qbi hparts_0 e41
 obtain ⟨c53,c55,rfl,r49,l50,l51,l52,h54,h56⟩:=(qaS.1 rr46)
 refine lv E ok (yy48 _ _) fun a E=>fv E qbG rfl fun a E=>lv E ok (qaA qcq rfl (qae.ro (At.sub 4 1 at47))) fun a E=>lv E ok (qbe qcd h54 rfl) fun a E=>lw E (qaQ rfl rfl) fun a E=>wn<|cg E rfl hF (fun c57 hF=>?_) fun c57 hF=>?_
 ·refine wp_exit<|qaV ?_
  cases hF
  exact so (⟨rfl,⟨ok,E.keep [0,3,4],r38⟩⟩)
 refine wp_skip<|qab<|wp_seq<|wp_block<|qac<|mz E rfl rfl fun a E=>mv E rfl fun a E=>?_
 obtain ⟨x58,e59,hF⟩:=bnd hF
 obtain ⟨b60,o61,es62,hl63,rr64,at65,yy66⟩:=ia E 32 33 qbi hparts_0 e59
 obtain ⟨c71,c73,rfl,r67,l68,l69,l70,h72,h74⟩:=(qaS.1 rr64)
 refine lv E ok (yy66 _ _) fun a E=>fv E qbG rfl fun a E=>lv E ok (qaA qcq rfl (qae.ro (At.sub 4 1 at65))) fun a E=>mv E rfl fun a E=>?_
 obtain ⟨x75,e76,hF⟩:=bnd hF
 obtain ⟨b77,o78,es79,hl80,rr81,at82,yy83⟩:=ia E 36 37 qcd h72 e76
 obtain ⟨c85,rfl,l84,h86⟩:=rr81
 refine lv E ok (yy83 _ _) fun a E=>fv E qf2 rfl fun a E=>lv E ok (qaA qck rfl (qae.ro (At.sub 1 1 at82))) fun a E=>bd hF fun r87 e88 hF=>qaf E qnm rfl (ih_calqueref26_Depth _ x75.Parts h86 e88 hG ok) rfl rfl ?_
 rintro _ w ⟨⟨rfl,ok⟩,r89⟩
 refine ⟨_,rfl,fun a E=>?_⟩
 refine lw E (qaM rfl rfl) fun a E=>lw E (qqy rfl rfl) fun a E=>av E rfl fun a E=>wpList_nil<|qag<|qab<|qac<|mv E rfl fun a E=>lw E (qaG rfl rfl (InR.inc r39 (qao h54) c57)) fun a E=>av E rfl fun a E=>wpList_nil ?_
 cases hF
 exact qau ⟨ok,E.keep [0,3,4,5],(InR.max r38 (InR.wrap _ _)),(InR.inc r39 (qao h54) c57)⟩
theorem qh4:qeb 0:=by
 intro u m0 S w vparts_0 parts_0 hparts_0 r hF hG ok
 replace hF:none = some r:=hF
 cases hF
theorem qhf (N:Nat):qeb N:=by
 induction N with
 | zero=>exact qh4
 | succ N h=>exact qh6 N h
theorem qje {u:World} {m0:Mem} {S:Segs} {w:World} (N:Nat) (vparts_0:Value) (parts_0:List (Part)) (hparts_0:(pL 6 qa0) m0 [vparts_0] parts_0) {r:Int} (hF:qbY N parts_0 = some r) (hG:Glob u) (ok:Ok u m0 S w) :
 Calls Tryz.prog 27 [vparts_0].toArray w fun e w'=>(e = .returned (.int .i64 r) ∧ Ok u m0 S w') ∧ InR .i64 r:=(qhf N) vparts_0 parts_0 hparts_0 hF hG ok
def qjs (u:World) (m0:Mem) (S:Segs) (r:Int) (a:Act) (w:World):Prop :=
 Ok u m0 S w ∧ a.defers = [] ∧ RVs Tryz.prog a w [.t 2 (.int .i64 r)] ∧ InR .i64 r
def qex (N:Nat):Prop:=∀ {u:World} {m0:Mem} {S:Segs} {w:World} (vparts_0:Value) (parts_0:List (Part)) (hparts_0:(pL 6 qa0) m0 [vparts_0] parts_0) {r:Int} (hF:qb5 N parts_0 = some r) (hG:Glob u) (ok:Ok u m0 S w),Calls Tryz.prog 28 [vparts_0].toArray w fun e w'=>(e = .returned (.int .i64 r) ∧ Ok u m0 S w') ∧ InR .i64 r
theorem qiw (N:Nat) (ih_calqueref26_Size:qex N):qex (N + 1):=by
 intro u m0 S w vparts_0 parts_0 hparts_0 r hF hG ok
 have hF0:qc8 (qb5 N) N parts_0 = some r:=hF
 have hF:=hF0
 clear hF0
 unfold qc8 at hF
 refine en (qjs u m0 S) r Tryz.func28 rfl rfl rfl (fun _ _ h=>rb h rfl) fun fin a E=>sg<|aw E rfl fun a E=>sg<|aw E rfl fun a E=>wp_seq<|sg<|av E rfl fun a E=>wn<|wp_block<|bd hF fun o3 hL hF=>qbb _ (fun (s:Int × Int) a w=>Ok u m0 (S) w ∧ Env 53 a [(0,vparts_0),(3,vi s.1),(4,vi s.2)] ∧ InR .i64 s.1 ∧ InR .i64 s.2) (fun (b:Int) e a w=>e = (.exit 0) ∧ Ok u m0 (S) w ∧ Env 53 a [(3,vi b)] ∧ InR .i64 b) ?_ ?_ N _ a w hL ⟨ok,E.keep [0,3,4],(ir 0),(ir 0)⟩
 rotate_left
 ·intro e a w _ hO
  obtain ⟨rfl,ok,E,r109⟩:=hO
  refine qbh<|qab<|sg<|mv E rfl fun a E=>aw E rfl fun a E=>wp_ret ?_
  exact fin hF ⟨ok,E.d,rz E rfl,r109⟩
 rintro ⟨v6,v7⟩ a w r ⟨ok,E,r8,r9⟩ hF
 replace hF:qcZ (qb5 N) N parts_0 v6 v7 = some r:=hF
 unfold qcZ at hF
 refine wp_seq<|sg<|mz E rfl rfl fun a E=>lv E ok (qbe qbi hparts_0 rfl) fun a E=>lw E (qaQ rfl rfl) fun a E=>wn<|cg E rfl hF (fun c10 hF=>?_) fun c10 hF=>?_
 ·refine wp_exit<|qaV ?_
  cases hF
  exact so (⟨rfl,⟨ok,E.keep [3],r8⟩⟩)
 refine wp_skip<|qab<|wp_seq<|wp_block<|wp_seq<|qdY (by kernel_rfl) (by kernel_rfl) ok<|qv E (qaq rfl) fun a E=>qv E (qaq rfl) fun a E=>qv E (qaq rfl) fun a E=>?_
 obtain ⟨x11,e12,hF⟩:=bnd hF
 obtain ⟨b13,o14,es15,hl16,rr17,at18,yy19⟩:=ia E 13 14 qbi hparts_0 e12
 obtain ⟨c24,c26,rfl,r20,l21,l22,l23,h25,h27⟩:=(qaS.1 rr17)
 refine qv E (yy19 _ _) fun a E=>qv E (qak qcA rfl) fun a E=>qv E (qaA qck rfl (qae.ro (At.sub 5 1 at18))) fun a E=>?_
 obtain ⟨r28,e29,hF⟩:=bnd hF
 obtain ⟨_,_,⟨_,_⟩,r30⟩:=Go.X.Calls.get (ih_calqueref26_Size _ x11.Parts h27 e29 hG ok)
 refine qd6 E qnf rfl (fun w ok=>(ih_calqueref26_Size _ x11.Parts h27 e29 hG ok).mono (fun _ _ h=>h.1)) rfl rfl fun a E=>qv E (qaM rfl rfl) fun a E=>qv E (qaq rfl) fun a E=>qv E (qaq rfl) fun a E=>?_
 obtain ⟨x31,e32,hF⟩:=bnd hF
 obtain ⟨b33,o34,es35,hl36,rr37,at38,yy39⟩:=ia E 20 21 qbi hparts_0 e32
 obtain ⟨c44,c46,rfl,r40,l41,l42,l43,h45,h47⟩:=(qaS.1 rr37)
 refine qv E (yy39 _ _) fun a E=>qv E (qak qd3 rfl) fun a E=>qv E (qaA qan rfl (qae.ro (At.sub 1 1 at38))) fun a E=>qv E (qaH Tryz.underlying9 rfl) fun a E=>qv E (qiJ rfl rfl (by decide)) fun a E=>qv E (qaM rfl rfl) fun a E=>qv E (qaM rfl rfl) fun a E=>qv E (qbt rfl) fun a E=>wpQuiet_nil ?_
 intro w ok
 refine qab<|sg<|aw E rfl fun a E=>wp_block<|bd hF fun o50 hL hF=>qbb _ (fun (s:Int × Int) a w=>Ok u m0 (S) w ∧ Env 53 a [(0,vparts_0),(3,vi s.1),(4,vi v7),(5,vi s.2)] ∧ InR .i64 s.1 ∧ InR .i64 s.2) (fun (b:Int) e a w=>e = (.exit 2) ∧ Ok u m0 (S) w ∧ Env 53 a [(0,vparts_0),(3,vi b),(4,vi v7)] ∧ InR .i64 b) ?_ ?_ N _ a w hL ⟨ok,E.keep [0,3,4,5],(InR.wrap _ _),(ir 0)⟩
 rotate_left
 ·intro e a w _ hO
  obtain ⟨rfl,ok,E,r107⟩:=hO
  refine qbh<|qag<|qab<|qac<|mv E rfl fun a E=>lw E (qaG rfl rfl (InR.inc r9 (qao hparts_0) c10)) fun a E=>av E rfl fun a E=>wpList_nil ?_
  cases hF
  exact qau ⟨ok,E.keep [0,3,4],r107,(InR.inc r9 (qao hparts_0) c10)⟩
 rintro ⟨v53,v54⟩ a w r ⟨ok,E,r55,r56⟩ hF
 replace hF:qc0 (qb5 N) N parts_0 v7 v53 v54 = some r:=hF
 unfold qc0 at hF
 refine wp_seq<|sg<|mz E rfl rfl fun a E=>mv E rfl fun a E=>?_
 obtain ⟨x57,e58,hF⟩:=bnd hF
 obtain ⟨b59,o60,es61,hl62,rr63,at64,yy65⟩:=ia E 30 31 qbi hparts_0 e58
 obtain ⟨c70,c72,rfl,r66,l67,l68,l69,h71,h73⟩:=(qaS.1 rr63)
 refine lv E ok (yy65 _ _) fun a E=>fv E qbG rfl fun a E=>lv E ok (qaA qcq rfl (qae.ro (At.sub 4 1 at64))) fun a E=>lv E ok (qbe qcd h71 rfl) fun a E=>lw E (qaQ rfl rfl) fun a E=>wn<|cg E rfl hF (fun c74 hF=>?_) fun c74 hF=>?_
 ·refine wp_exit<|qaV ?_
  cases hF
  exact so (⟨rfl,⟨ok,E.keep [0,3,4],r55⟩⟩)
 refine wp_skip<|qab<|wp_seq<|wp_block<|qac<|mz E rfl rfl fun a E=>mv E rfl fun a E=>?_
 obtain ⟨x75,e76,hF⟩:=bnd hF
 obtain ⟨b77,o78,es79,hl80,rr81,at82,yy83⟩:=ia E 40 41 qbi hparts_0 e76
 obtain ⟨c88,c90,rfl,r84,l85,l86,l87,h89,h91⟩:=(qaS.1 rr81)
 refine lv E ok (yy83 _ _) fun a E=>fv E qbG rfl fun a E=>lv E ok (qaA qcq rfl (qae.ro (At.sub 4 1 at82))) fun a E=>mv E rfl fun a E=>?_
 obtain ⟨x92,e93,hF⟩:=bnd hF
 obtain ⟨b94,o95,es96,hl97,rr98,at99,yy100⟩:=ia E 44 45 qcd h89 e93
 obtain ⟨c102,rfl,l101,h103⟩:=rr98
 refine lv E ok (yy100 _ _) fun a E=>fv E qf2 rfl fun a E=>lv E ok (qaA qck rfl (qae.ro (At.sub 1 1 at99))) fun a E=>bd hF fun r104 e105 hF=>qaf E qnf rfl (ih_calqueref26_Size _ x92.Parts h103 e105 hG ok) rfl rfl ?_
 rintro _ w ⟨⟨rfl,ok⟩,r106⟩
 refine ⟨_,rfl,fun a E=>?_⟩
 refine lw E (qaM rfl rfl) fun a E=>lw E (qaM rfl rfl) fun a E=>av E rfl fun a E=>wpList_nil<|qag<|qab<|qac<|mv E rfl fun a E=>lw E (qaG rfl rfl (InR.inc r56 (qao h71) c74)) fun a E=>av E rfl fun a E=>wpList_nil ?_
 cases hF
 exact qau ⟨ok,E.keep [0,3,4,5],(InR.wrap _ _),(InR.inc r56 (qao h71) c74)⟩
theorem qif:qex 0:=by
 intro u m0 S w vparts_0 parts_0 hparts_0 r hF hG ok
 replace hF:none = some r:=hF
 cases hF
theorem qhF (N:Nat):qex N:=by
 induction N with
 | zero=>exact qif
 | succ N h=>exact qiw N h
theorem qjp {u:World} {m0:Mem} {S:Segs} {w:World} (N:Nat) (vparts_0:Value) (parts_0:List (Part)) (hparts_0:(pL 6 qa0) m0 [vparts_0] parts_0) {r:Int} (hF:qb5 N parts_0 = some r) (hG:Glob u) (ok:Ok u m0 S w) :
 Calls Tryz.prog 28 [vparts_0].toArray w fun e w'=>(e = .returned (.int .i64 r) ∧ Ok u m0 S w') ∧ InR .i64 r:=(qhF N) vparts_0 parts_0 hparts_0 hF hG ok
def qe5 (u:World) (m0:Mem) (S:Segs) (r:Bool) (a:Act) (w:World):Prop :=
 Ok u m0 S w ∧ a.defers = [] ∧ RVs Tryz.prog a w [.t 2 (.bool r)]
def qec (N:Nat):Prop:=∀ {u:World} {m0:Mem} {S:Segs} {w:World} (vparts_0:Value) (parts_0:List (Part)) (hparts_0:(pL 6 qa0) m0 [vparts_0] parts_0) {r:Bool} (hF:qbX N parts_0 = some r) (hG:Glob u) (ok:Ok u m0 S w),Calls Tryz.prog 29 [vparts_0].toArray w fun e w'=>(e = .returned (.bool r) ∧ Ok u m0 S w')
theorem qh9 (N:Nat) (ih_calqueref26_short:qec N):qec (N + 1):=by
 intro u m0 S w vparts_0 parts_0 hparts_0 r hF hG ok
 have hF0:qc1 (qbX N) N parts_0 = some r:=hF
 have hF:=hF0
 clear hF0
 unfold qc1 at hF
 refine en (qe5 u m0 S) r Tryz.func29 rfl rfl rfl (fun _ _ h=>ra h rfl) fun fin a E=>sg<|aw E rfl fun a E=>wp_seq<|sg<|aw E rfl fun a E=>wp_block<|bd hF fun o2 hL hF=>qbb _ (fun (s:Int) a w=>Ok u m0 (S) w ∧ Env 70 a [(0,vparts_0),(3,vi s)] ∧ InR .i64 s) (fun (b:(Unit ⊕ Bool)) e a w=>(Sum.elim (fun b150=>e = (.exit 0) ∧ Ok u m0 (S) w ∧ Env 70 a []) (fun b151=>e = .ret ∧ qe5 u m0 S b151 a w)) b) ?_ ?_ N _ a w hL ⟨ok,E.keep [0,3],(ir 0)⟩
 rotate_left
 ·intro e a w _ hO
  rcases o2 with o2 | o2
  rotate_left
  ·obtain ⟨rfl,hret⟩:=hO
   refine qaB<|qai ?_
   exact fin hF hret
  have hF:=qcb hF
  obtain ⟨rfl,ok,E⟩:=hO
  refine qbh<|qab<|sg<|aw E rfl fun a E=>wp_ret ?_
  exact fin hF ⟨ok,E.d,rz E rfl⟩
 rintro v4 a w r ⟨ok,E,r5⟩ hF
 replace hF:qcP (qbX N) N parts_0 v4 = some r:=hF
 unfold qcP at hF
 refine wp_seq<|sg<|mz E rfl rfl fun a E=>lv E ok (qbe qbi hparts_0 rfl) fun a E=>lw E (qaQ rfl rfl) fun a E=>wn<|cg E rfl hF (fun c6 hF=>?_) fun c6 hF=>?_
 ·refine wp_exit<|qaV ?_
  cases hF
  exact so (sl ⟨rfl,⟨ok,E.keep []⟩⟩)
 refine wp_skip<|qab<|wp_seq<|wp_block<|wp_seq<|sg<|mv E rfl fun a E=>mv E rfl fun a E=>?_
 obtain ⟨x7,e8,hF⟩:=bnd hF
 obtain ⟨b9,o10,es11,hl12,rr13,at14,yy15⟩:=ia E 11 12 qbi hparts_0 e8
 obtain ⟨c20,c22,rfl,r16,l17,l18,l19,h21,h23⟩:=(qaS.1 rr13)
 refine lv E ok (yy15 _ _) fun a E=>fv E qaY rfl fun a E=>lv E ok (qaA qan rfl (qae.ro (At.sub 2 1 at14))) fun a E=>lw E (qaH Tryz.underlying9 rfl) fun a E=>lw E (qby rfl rfl) fun a E=>mv E rfl fun a E=>bu E 18 hF (fun c24 hF E=>?_) fun c24 hF E=>?_
 ·refine lsz E fun a E=>lsq E fun a E=>ls E fun a E=>pt E rfl rfl fun a E=>mv E rfl fun a E=>lsz E fun a E=>lsq E fun a E=>ls E fun a E=>?_
  refine pt E rfl rfl fun a E=>wn<|c_if E rfl (fun _=>?_) (fun h=>by cases h)
  refine sg<|aw E rfl fun a E=>wp_ret<|qai<|qaB<|qai ?_
  cases hF
  exact so (sr ⟨rfl,⟨ok,E.d,rz E rfl⟩⟩)
 refine mz E rfl rfl fun a E=>?_
 obtain ⟨x25,e26,hF⟩:=bnd hF
 obtain ⟨b27,o28,es29,hl30,rr31,at32,yy33⟩:=ia E 19 20 qbi hparts_0 e26
 obtain ⟨c38,c40,rfl,r34,l35,l36,l37,h39,h41⟩:=(qaS.1 rr31)
 refine lv E ok (yy33 _ _) fun a E=>fv E qba rfl fun a E=>lv E ok (qaA qan rfl (qae.ro (At.sub 3 1 at32))) fun a E=>lw E (qaH Tryz.underlying9 rfl) fun a E=>lw E (qby rfl rfl) fun a E=>pf E rfl rfl fun a E=>mv E rfl fun a E=>bu E 27 hF (fun c42 hF E=>?_) fun c42 hF E=>?_
 ·refine lsz E fun a E=>lsq E fun a E=>ls E fun a E=>pt E rfl rfl fun a E=>wn<|c_if E rfl (fun _=>?_) (fun h=>by cases h)
  refine sg<|aw E rfl fun a E=>wp_ret<|qai<|qaB<|qai ?_
  cases hF
  exact so (sr ⟨rfl,⟨ok,E.d,rz E rfl⟩⟩)
 refine mz E rfl rfl fun a E=>?_
 obtain ⟨x43,e44,hF⟩:=bnd hF
 obtain ⟨b45,o46,es47,hl48,rr49,at50,yy51⟩:=ia E 28 29 qbi hparts_0 e44
 obtain ⟨c56,c58,rfl,r52,l53,l54,l55,h57,h59⟩:=(qaS.1 rr49)
 refine lv E ok (yy51 _ _) fun a E=>fv E qcA rfl fun a E=>lv E ok (qaA qck rfl (qae.ro (At.sub 5 1 at50))) fun a E=>bd hF fun r60 e61 hF=>lc E qm6 rfl (ih_calqueref26_short _ x43.Parts h59 e61 hG ok) fun w ok a E=>lw E (qbf rfl) fun a E=>pf E rfl rfl fun a E=>wn<|cf E rfl hF (fun c62 hF=>?_) fun c62 hF=>?_
 ·refine sg<|aw E rfl fun a E=>wp_ret<|qai<|qaB<|qai ?_
  cases hF
  exact so (sr ⟨rfl,⟨ok,E.d,rz E rfl⟩⟩)
 refine wp_skip<|qab<|sg<|aw E rfl fun a E=>wp_block<|bd hF fun o64 hL hF=>qbb _ (fun (s:Int) a w=>Ok u m0 (S) w ∧ Env 70 a [(0,vparts_0),(3,vi v4),(4,vi s)] ∧ InR .i64 s) (fun (b:(Unit ⊕ Bool)) e a w=>(Sum.elim (fun b148=>e = (.exit 2) ∧ Ok u m0 (S) w ∧ Env 70 a [(0,vparts_0),(3,vi v4)]) (fun b149=>e = .ret ∧ qe5 u m0 S b149 a w)) b) ?_ ?_ N _ a w hL ⟨ok,E.keep [0,3,4],(ir 0)⟩
 rotate_left
 ·intro e a w _ hO
  rcases o64 with o64 | o64
  rotate_left
  ·have hF:=qnr hF
   obtain ⟨rfl,hret⟩:=hO
   refine qaB<|qaB<|qai ?_
   cases hF
   exact so (sr ⟨rfl,hret⟩)
  have hF:=qcb hF
  obtain ⟨rfl,ok,E⟩:=hO
  refine qbh<|qag<|qab<|qac<|mv E rfl fun a E=>lw E (qaG rfl rfl (InR.inc r5 (qao hparts_0) c6)) fun a E=>av E rfl fun a E=>wpList_nil ?_
  cases hF
  exact qau ⟨ok,E.keep [0,3],(InR.inc r5 (qao hparts_0) c6)⟩
 rintro v66 a w r ⟨ok,E,r67⟩ hF
 replace hF:qcQ (qbX N) N parts_0 v4 v66 = some r:=hF
 unfold qcQ at hF
 refine wp_seq<|sg<|mz E rfl rfl fun a E=>mv E rfl fun a E=>?_
 obtain ⟨x68,e69,hF⟩:=bnd hF
 obtain ⟨b70,o71,es72,hl73,rr74,at75,yy76⟩:=ia E 37 38 qbi hparts_0 e69
 obtain ⟨c81,c83,rfl,r77,l78,l79,l80,h82,h84⟩:=(qaS.1 rr74)
 refine lv E ok (yy76 _ _) fun a E=>fv E qbG rfl fun a E=>lv E ok (qaA qcq rfl (qae.ro (At.sub 4 1 at75))) fun a E=>lv E ok (qbe qcd h82 rfl) fun a E=>lw E (qaQ rfl rfl) fun a E=>wn<|cg E rfl hF (fun c85 hF=>?_) fun c85 hF=>?_
 ·refine wp_exit<|qaV ?_
  cases hF
  exact so (sl ⟨rfl,⟨ok,E.keep [0,3]⟩⟩)
 refine wp_skip<|qab<|wp_seq<|wp_block<|sg<|mz E rfl rfl fun a E=>?_
 obtain ⟨x86,e87,hF⟩:=bnd hF
 obtain ⟨b88,o89,es90,hl91,rr92,at93,yy94⟩:=ia E 46 47 qbi hparts_0 e87
 obtain ⟨c99,c101,rfl,r95,l96,l97,l98,h100,h102⟩:=(qaS.1 rr92)
 refine lv E ok (yy94 _ _) fun a E=>fv E qbG rfl fun a E=>lv E ok (qaA qcq rfl (qae.ro (At.sub 4 1 at93))) fun a E=>mv E rfl fun a E=>?_
 obtain ⟨x103,e104,hF⟩:=bnd hF
 obtain ⟨b105,o106,es107,hl108,rr109,at110,yy111⟩:=ia E 50 51 qcd h100 e104
 obtain ⟨c113,rfl,l112,h114⟩:=rr109
 refine lv E ok (yy111 _ _) fun a E=>fv E qf4 rfl fun a E=>lv E ok (qaA qan rfl (qae.ro (At.sub 0 1 at110))) fun a E=>lw E (qaH Tryz.underlying9 rfl) fun a E=>lw E (qby rfl rfl) fun a E=>mv E rfl fun a E=>bu E 57 hF (fun c115 hF E=>?_) fun c115 hF E=>?_
 ·refine lsz E fun a E=>lsz E fun a E=>lsq E fun a E=>ls E fun a E=>pt E rfl rfl fun a E=>wn<|c_if E rfl (fun _=>?_) (fun h=>by cases h)
  refine sg<|aw E rfl fun a E=>wp_ret<|qaB<|qai ?_
  cases hF
  exact so (sr ⟨rfl,⟨ok,E.d,rz E rfl⟩⟩)
 refine mz E rfl rfl fun a E=>?_
 obtain ⟨x116,e117,hF⟩:=bnd hF
 obtain ⟨b118,o119,es120,hl121,rr122,at123,yy124⟩:=ia E 58 59 qbi hparts_0 e117
 obtain ⟨c129,c131,rfl,r125,l126,l127,l128,h130,h132⟩:=(qaS.1 rr122)
 refine lv E ok (yy124 _ _) fun a E=>fv E qbG rfl fun a E=>lv E ok (qaA qcq rfl (qae.ro (At.sub 4 1 at123))) fun a E=>mv E rfl fun a E=>?_
 obtain ⟨x133,e134,hF⟩:=bnd hF
 obtain ⟨b135,o136,es137,hl138,rr139,at140,yy141⟩:=ia E 62 63 qcd h130 e134
 obtain ⟨c143,rfl,l142,h144⟩:=rr139
 refine lv E ok (yy141 _ _) fun a E=>fv E qf2 rfl fun a E=>lv E ok (qaA qck rfl (qae.ro (At.sub 1 1 at140))) fun a E=>bd hF fun r145 e146 hF=>lc E qm6 rfl (ih_calqueref26_short _ x133.Parts h144 e146 hG ok) fun w ok a E=>lw E (qbf rfl) fun a E=>pf E rfl rfl fun a E=>wn<|cg E rfl hF (fun c147 hF=>?_) fun c147 hF=>?_
 ·refine wp_skip<|qag<|qab<|qac<|mv E rfl fun a E=>lw E (qaG rfl rfl (InR.inc r67 (qao h82) c85)) fun a E=>av E rfl fun a E=>wpList_nil ?_
  cases hF
  exact qau ⟨ok,E.keep [0,3,4],(InR.inc r67 (qao h82) c85)⟩
 refine sg<|aw E rfl fun a E=>wp_ret<|qaB<|qai ?_
 cases hF
 exact so (sr ⟨rfl,⟨ok,E.d,rz E rfl⟩⟩)
theorem qia:qec 0:=by
 intro u m0 S w vparts_0 parts_0 hparts_0 r hF hG ok
 replace hF:none = some r:=hF
 cases hF
theorem qhk (N:Nat):qec N:=by
 induction N with
 | zero=>exact qia
 | succ N h=>exact qh9 N h
theorem qi2 {u:World} {m0:Mem} {S:Segs} {w:World} (N:Nat) (vparts_0:Value) (parts_0:List (Part)) (hparts_0:(pL 6 qa0) m0 [vparts_0] parts_0) {r:Bool} (hF:qbX N parts_0 = some r) (hG:Glob u) (ok:Ok u m0 S w) :
 Calls Tryz.prog 29 [vparts_0].toArray w fun e w'=>(e = .returned (.bool r) ∧ Ok u m0 S w'):=(qhk N) vparts_0 parts_0 hparts_0 hF hG ok
def qjX (u:World) (m0:Mem) (S:Segs) (r:Bool) (a:Act) (w:World):Prop :=
 Ok u m0 S w ∧ a.defers = [] ∧ RVs Tryz.prog a w [.t 2 (.bool r)]
theorem qj1 (N:Nat) (vparts_0:Value) (parts_0:List (Part)) (hparts_0:(pL 6 qa0) m0 [vparts_0] parts_0) {r:Bool} (hF:qes N parts_0 = some r) (hG:Glob u) (ok:Ok u m0 S w) :
  Calls Tryz.prog 10 [vparts_0].toArray w fun e w'=>(e = .returned (.bool r) ∧ Ok u m0 S w'):=by
 unfold qes at hF
 refine en (qjX u m0 S) r Tryz.func10 rfl rfl rfl (fun _ _ h=>ra h rfl) fun fin a E=>sg<|aw E rfl fun a E=>sg<|mv E rfl fun a E=>bd hF fun r1 e2 hF=>qaf E qnm rfl (qje N _ parts_0 hparts_0 e2 hG ok) rfl rfl ?_
 rintro _ w ⟨⟨rfl,ok⟩,r3⟩
 refine ⟨_,rfl,fun a E=>?_⟩
 refine lw E (qcE rfl rfl) fun a E=>mv E rfl fun a E=>bw E 6 hF (fun c4 hF E=>?_) fun c4 hF E=>?_
 ·refine lsq E fun a E=>ls E fun a E=>pf E rfl rfl fun a E=>mv E rfl fun a E=>lsq E fun a E=>pf E rfl rfl fun a E=>aw E rfl fun a E=>wp_ret ?_
  exact fin hF ⟨ok,E.d,rz E rfl⟩
 refine mv E rfl fun a E=>bd hF fun r5 e6 hF=>qaf E qnf rfl (qjp N _ parts_0 hparts_0 e6 hG ok) rfl rfl ?_
 rintro _ w ⟨⟨rfl,ok⟩,r7⟩
 refine ⟨_,rfl,fun a E=>?_⟩
 refine lw E (qcE rfl rfl) fun a E=>pt E rfl rfl fun a E=>mv E rfl fun a E=>bw E 11 hF (fun c8 hF E=>?_) fun c8 hF E=>?_
 ·refine lsq E fun a E=>pf E rfl rfl fun a E=>aw E rfl fun a E=>wp_ret ?_
  exact fin hF ⟨ok,E.d,rz E rfl⟩
 refine mv E rfl fun a E=>bd hF fun r9 e10 hF=>lc E qm6 rfl (qi2 N _ parts_0 hparts_0 e10 hG ok) fun w ok a E=>pt E rfl rfl fun a E=>aw E rfl fun a E=>wp_ret ?_
 exact fin hF ⟨ok,E.d,rz E rfl⟩
def qhN (u:World) (m0:Mem) (S:Segs) (r:Bool) (a:Act) (w:World):Prop :=
 Ok u m0 S w ∧ a.defers = [] ∧ RVs Tryz.prog a w [.t 4 (.bool r)]
theorem qeW (N:Nat) (vl_0:Value) (l_0:List (List UInt8)) (hl_0:(pL 1 pS) m0 [vl_0] l_0) (s_1:List UInt8) (ls_1:s_1.length ≤ LIMS) {r:Bool} (hF:qd5 N l_0 s_1 = some r) (hG:Glob u) (ok:Ok u m0 S w) :
  Calls Tryz.prog 44 [vl_0,vs s_1].toArray w fun e w'=>(e = .returned (.bool r) ∧ Ok u m0 S w'):=by
 unfold qd5 at hF
 refine en (qhN u m0 S) r Tryz.func44 rfl rfl rfl (fun _ _ h=>ra h rfl) fun fin a E=>sg<|aw E rfl fun a E=>wp_seq<|sg<|aw E rfl fun a E=>wp_block<|bd hF fun o2 hL hF=>qbb _ (fun (s:Int) a w=>Ok u m0 (S) w ∧ Env 18 a [(0,vl_0),(1,vs s_1),(5,vi s)] ∧ InR .i64 s) (fun (b:(Unit ⊕ Bool)) e a w=>(Sum.elim (fun b18=>e = (.exit 0) ∧ Ok u m0 (S) w ∧ Env 18 a []) (fun b19=>e = .ret ∧ qhN u m0 S b19 a w)) b) ?_ ?_ N _ a w hL ⟨ok,E.keep [0,1,5],(ir 0)⟩
 rotate_left
 ·intro e a w _ hO
  rcases o2 with o2 | o2
  rotate_left
  ·obtain ⟨rfl,hret⟩:=hO
   refine qaB<|qai ?_
   exact fin hF hret
  have hF:=qcb hF
  obtain ⟨rfl,ok,E⟩:=hO
  refine qbh<|qab<|sg<|aw E rfl fun a E=>wp_ret ?_
  exact fin hF ⟨ok,E.d,rz E rfl⟩
 rintro v4 a w r ⟨ok,E,r5⟩ hF
 replace hF:qfP N l_0 s_1 v4 = some r:=hF
 unfold qfP at hF
 refine wp_seq<|sg<|mz E rfl rfl fun a E=>lv E ok (qbe qb3 hl_0 rfl) fun a E=>lw E (qaQ rfl rfl) fun a E=>wn<|cg E rfl hF (fun c6 hF=>?_) fun c6 hF=>?_
 ·refine wp_exit<|qaV ?_
  cases hF
  exact so (sl ⟨rfl,⟨ok,E.keep []⟩⟩)
 refine wp_skip<|qab<|wp_seq<|wp_block<|sg<|mz E rfl rfl fun a E=>?_
 obtain ⟨x7,e8,hF⟩:=bnd hF
 obtain ⟨b9,o10,es11,hl12,rr13,at14,yy15⟩:=ia E 12 13 qb3 hl_0 e8
 obtain ⟨rfl,l16⟩:=rr13
 refine lv E ok (yy15 _ _) fun a E=>lv E ok (qaA qan rfl (qae.ro at14)) fun a E=>mv E rfl fun a E=>lw E (qbp rfl rfl) fun a E=>wn<|cg E rfl hF (fun c17 hF=>?_) fun c17 hF=>?_
 ·refine wp_skip<|qag<|qab<|qac<|mv E rfl fun a E=>lw E (qaG rfl rfl (InR.inc r5 (qao hl_0) c6)) fun a E=>av E rfl fun a E=>wpList_nil ?_
  cases hF
  exact qau ⟨ok,E.keep [0,1,5],(InR.inc r5 (qao hl_0) c6)⟩
 refine sg<|aw E rfl fun a E=>wp_ret<|qaB<|qai ?_
 cases hF
 exact so (sr ⟨rfl,⟨ok,E.d,rz E rfl⟩⟩)
def qhW (u:World) (m0:Mem) (S:Segs) (r:Bool) (a:Act) (w:World):Prop :=
 Ok u m0 S w ∧ a.defers = [] ∧ RVs Tryz.prog a w [.t 2 (.bool r)]
theorem qee (N:Nat) (kind_0:Int) (rkind_0:InR .i64 kind_0) {r:Bool} (hF:qc6 N kind_0 = some r) (hG:Glob u) (ok:Ok u m0 S w) :
  Calls Tryz.prog 43 [vi kind_0].toArray w fun e w'=>(e = .returned (.bool r) ∧ Ok u m0 S w'):=by
 unfold qc6 at hF
 refine en (qhW u m0 S) r Tryz.func43 rfl rfl rfl (fun _ _ h=>ra h rfl) fun fin a E=>sg<|aw E rfl fun a E=>sg<|mv E rfl fun a E=>lw E (qal rfl rfl) fun a E=>mv E rfl fun a E=>bu E 5 hF (fun c1 hF E=>?_) fun c1 hF E=>?_
 ·refine lsq E fun a E=>pt E rfl rfl fun a E=>mv E rfl fun a E=>lsq E fun a E=>pt E rfl rfl fun a E=>av E rfl fun a E=>wn<|wp_ret ?_
  exact fin hF ⟨ok,E.d,rz E rfl⟩
 refine mv E rfl fun a E=>lw E (qal rfl rfl) fun a E=>pf E rfl rfl fun a E=>mv E rfl fun a E=>bu E 9 hF (fun c2 hF E=>?_) fun c2 hF E=>?_
 ·refine lsq E fun a E=>pt E rfl rfl fun a E=>aw E rfl fun a E=>wp_ret ?_
  exact fin hF ⟨ok,E.d,rz E rfl⟩
 refine mv E rfl fun a E=>lw E (qal rfl rfl) fun a E=>pf E rfl rfl fun a E=>aw E rfl fun a E=>wp_ret ?_
 exact fin hF ⟨ok,E.d,rz E rfl⟩
def qip (u:World) (m0:Mem) (S:Segs) (r:Bool) (a:Act) (w:World):Prop :=
 Ok u m0 S w ∧ a.defers = [] ∧ RVs Tryz.prog a w [.t 2 (.bool r)]
theorem qdQ (N:Nat) (kind_0:Int) (rkind_0:InR .i64 kind_0) {r:Bool} (hF:qcX N kind_0 = some r) (hG:Glob u) (ok:Ok u m0 S w) :
  Calls Tryz.prog 45 [vi kind_0].toArray w fun e w'=>(e = .returned (.bool r) ∧ Ok u m0 S w'):=by
 unfold qcX at hF
 refine en (qip u m0 S) r Tryz.func45 rfl rfl rfl (fun _ _ h=>ra h rfl) fun fin a E=>sg<|aw E rfl fun a E=>sg<|mv E rfl fun a E=>lw E (qal rfl rfl) fun a E=>mv E rfl fun a E=>bu E 5 hF (fun c1 hF E=>?_) fun c1 hF E=>?_
 ·refine lsq E fun a E=>pt E rfl rfl fun a E=>aw E rfl fun a E=>wp_ret ?_
  exact fin hF ⟨ok,E.d,rz E rfl⟩
 refine mv E rfl fun a E=>lw E (qal rfl rfl) fun a E=>pf E rfl rfl fun a E=>aw E rfl fun a E=>wp_ret ?_
 exact fin hF ⟨ok,E.d,rz E rfl⟩
def qi0 (u:World) (m0:Mem) (S:Segs) (r:Bool) (a:Act) (w:World):Prop :=
 Ok u m0 S w ∧ a.defers = [] ∧ RVs Tryz.prog a w [.t 2 (.bool r)]
theorem qgz (N:Nat) (c_0:Int) (rc_0:InR .u8 c_0) {r:Bool} (hF:qeA N c_0 = some r) (hG:Glob u) (ok:Ok u m0 S w) :
  Calls Tryz.prog 76 [Value.int .u8 c_0].toArray w fun e w'=>(e = .returned (.bool r) ∧ Ok u m0 S w'):=by
 unfold qeA at hF
 refine en (qi0 u m0 S) r Tryz.func76 rfl rfl rfl (fun _ _ h=>ra h rfl) fun fin a E=>sg<|aw E rfl fun a E=>sg<|mv E rfl fun a E=>lw E (qbF rfl rfl) fun a E=>mv E rfl fun a E=>bu E 5 hF (fun c1 hF E=>?_) fun c1 hF E=>?_
 ·refine mv E rfl fun a E=>lw E (qcE rfl rfl) fun a E=>pt E rfl rfl fun a E=>aw E rfl fun a E=>wp_ret ?_
  exact fin hF ⟨ok,E.d,rz E rfl⟩
 refine lsq E fun a E=>pf E rfl rfl fun a E=>aw E rfl fun a E=>wp_ret ?_
 exact fin hF ⟨ok,E.d,rz E rfl⟩
def qiK (u:World) (m0:Mem) (S:Segs) (r:Bool) (a:Act) (w:World):Prop :=
 Ok u m0 S w ∧ a.defers = [] ∧ RVs Tryz.prog a w [.t 2 (.bool r)]
theorem qiO (N:Nat) (c_0:Int) (rc_0:InR .u8 c_0) {r:Bool} (hF:qfj N c_0 = some r) (hG:Glob u) (ok:Ok u m0 S w) :
  Calls Tryz.prog 104 [Value.int .u8 c_0].toArray w fun e w'=>(e = .returned (.bool r) ∧ Ok u m0 S w'):=by
 unfold qfj at hF
 refine en (qiK u m0 S) r Tryz.func104 rfl rfl rfl (fun _ _ h=>ra h rfl) fun fin a E=>sg<|aw E rfl fun a E=>sg<|mv E rfl fun a E=>bd hF fun r1 e2 hF=>lc E qoP rfl (qgz N c_0 rc_0 e2 hG ok) fun w ok a E=>mv E rfl fun a E=>qbo r1 (fun c3=>?_) (fun c3=>?_)
 ·have hF:=qbm c3 hF
  have E:=E.upd 5 c3 rfl
  refine lsz E fun a E=>lsq E fun a E=>pt E rfl rfl fun a E=>av E rfl fun a E=>wn<|wp_ret ?_
  exact fin hF ⟨ok,E.d,rz E rfl⟩
 have hF:=qbl c3 hF
 have E:=E.upd 5 c3 rfl
 refine mv E rfl fun a E=>lw E (qbF rfl rfl) fun a E=>mv E rfl fun a E=>bu E 8 hF (fun c4 hF E=>?_) fun c4 hF E=>?_
 ·refine mv E rfl fun a E=>lw E (qcE rfl rfl) fun a E=>pt E rfl rfl fun a E=>pf E rfl rfl fun a E=>aw E rfl fun a E=>wp_ret ?_
  exact fin hF ⟨ok,E.d,rz E rfl⟩
 refine lsq E fun a E=>pf E rfl rfl fun a E=>pf E rfl rfl fun a E=>aw E rfl fun a E=>wp_ret ?_
 exact fin hF ⟨ok,E.d,rz E rfl⟩
def qi1 (u:World) (m0:Mem) (S:Segs) (r:Bool) (a:Act) (w:World):Prop :=
 Ok u m0 S w ∧ a.defers = [] ∧ RVs Tryz.prog a w [.t 2 (.bool r)]
theorem qea (N:Nat) (c_0:Int) (rc_0:InR .u8 c_0) {r:Bool} (hF:qdl N c_0 = some r) (hG:Glob u) (ok:Ok u m0 S w) :
  Calls Tryz.prog 75 [Value.int .u8 c_0].toArray w fun e w'=>(e = .returned (.bool r) ∧ Ok u m0 S w'):=by
 unfold qdl at hF
 refine en (qi1 u m0 S) r Tryz.func75 rfl rfl rfl (fun _ _ h=>ra h rfl) fun fin a E=>sg<|aw E rfl fun a E=>sg<|mv E rfl fun a E=>bd hF fun r1 e2 hF=>lc E qpC rfl (qiO N c_0 rc_0 e2 hG ok) fun w ok a E=>mv E rfl fun a E=>qbo r1 (fun c3=>?_) (fun c3=>?_)
 ·have hF:=qbm c3 hF
  have E:=E.upd 5 c3 rfl
  refine lsz E fun a E=>lsq E fun a E=>pt E rfl rfl fun a E=>mv E rfl fun a E=>lsq E fun a E=>pt E rfl rfl fun a E=>mv E rfl fun a E=>lsq E fun a E=>pt E rfl rfl fun a E=>av E rfl fun a E=>?_
  refine wn<|wp_ret ?_
  exact fin hF ⟨ok,E.d,rz E rfl⟩
 have hF:=qbl c3 hF
 have E:=E.upd 5 c3 rfl
 refine mv E rfl fun a E=>lw E (qbF rfl rfl) fun a E=>mv E rfl fun a E=>bw E 8 hF (fun c4 hF E=>?_) fun c4 hF E=>?_
 ·refine lsq E fun a E=>pf E rfl rfl fun a E=>pf E rfl rfl fun a E=>mz E rfl rfl fun a E=>lw E (qal rfl rfl) fun a E=>pf E rfl rfl fun a E=>mv E rfl fun a E=>bu E 17 hF (fun c7 hF E=>?_) fun c7 hF E=>?_
  ·refine lsq E fun a E=>pt E rfl rfl fun a E=>aw E rfl fun a E=>wp_ret ?_
   exact fin hF ⟨ok,E.d,rz E rfl⟩
  refine mv E rfl fun a E=>lw E (qal rfl rfl) fun a E=>pf E rfl rfl fun a E=>aw E rfl fun a E=>wp_ret ?_
  exact fin hF ⟨ok,E.d,rz E rfl⟩
 refine mv E rfl fun a E=>lw E (qcE rfl rfl) fun a E=>pt E rfl rfl fun a E=>pf E rfl rfl fun a E=>mv E rfl fun a E=>bu E 13 hF (fun c5 hF E=>?_) fun c5 hF E=>?_
 ·refine lsq E fun a E=>pt E rfl rfl fun a E=>mv E rfl fun a E=>lsq E fun a E=>pt E rfl rfl fun a E=>av E rfl fun a E=>wn<|wp_ret ?_
  exact fin hF ⟨ok,E.d,rz E rfl⟩
 refine mv E rfl fun a E=>lw E (qal rfl rfl) fun a E=>pf E rfl rfl fun a E=>mv E rfl fun a E=>bu E 17 hF (fun c6 hF E=>?_) fun c6 hF E=>?_
 ·refine lsq E fun a E=>pt E rfl rfl fun a E=>aw E rfl fun a E=>wp_ret ?_
  exact fin hF ⟨ok,E.d,rz E rfl⟩
 refine mv E rfl fun a E=>lw E (qal rfl rfl) fun a E=>pf E rfl rfl fun a E=>aw E rfl fun a E=>wp_ret ?_
 exact fin hF ⟨ok,E.d,rz E rfl⟩
def qgO (u:World) (m0:Mem) (S:Segs) (r:Bool) (a:Act) (w:World):Prop :=
 Ok u m0 S w ∧ a.defers = [] ∧ RVs Tryz.prog a w [.t 2 (.bool r)]
theorem qbc (N:Nat) (s_0:List UInt8) (ls_0:s_0.length ≤ LIMS) {r:Bool} (hF:qbd N s_0 = some r) (hG:Glob u) (ok:Ok u m0 S w) :
  Calls Tryz.prog 59 [vs s_0].toArray w fun e w'=>(e = .returned (.bool r) ∧ Ok u m0 S w'):=by
 unfold qbd at hF
 refine en (qgO u m0 S) r Tryz.func59 rfl rfl rfl (fun _ _ h=>ra h rfl) fun fin a E=>sg<|aw E rfl fun a E=>wp_seq<|sg<|aw E rfl fun a E=>wp_block<|bd hF fun o2 hL hF=>qbb _ (fun (s:Int) a w=>Ok u m0 (S) w ∧ Env 28 a [(0,vs s_0),(3,vi s)] ∧ InR .i64 s) (fun (b:(Unit ⊕ Bool)) e a w=>(Sum.elim (fun b18=>e = (.exit 0) ∧ Ok u m0 (S) w ∧ Env 28 a [(0,vs s_0)]) (fun b19=>e = .ret ∧ qgO u m0 S b19 a w)) b) ?_ ?_ N _ a w hL ⟨ok,E.keep [0,3],(ir 0)⟩
 ·rintro v4 a w r ⟨ok,E,r5⟩ hF
  replace hF:qe9 N s_0 v4 = some r:=hF
  unfold qe9 at hF
  refine wp_seq<|sg<|mz E rfl rfl fun a E=>lw E (qaH Tryz.underlying9 rfl) fun a E=>lw E (qaQ rfl rfl) fun a E=>wn<|cg E rfl hF (fun c6 hF=>?_) fun c6 hF=>?_
  ·refine wp_exit<|qaV ?_
   cases hF
   exact so (sl ⟨rfl,⟨ok,E.keep [0]⟩⟩)
  refine wp_skip<|qab<|wp_seq<|wp_block<|sg<|mz E rfl rfl fun a E=>bd hF fun c7 e8 hF=>lv E ok (qaF Tryz.underlying9 rfl rfl e8) fun a E=>bd hF fun r9 e10 hF=>lc E qlJ rfl (qea N (c7.toNat:Int) (InR.byte c7) e10 hG ok) fun w ok a E=>lw E (qbf rfl) fun a E=>wn<|cg E rfl hF (fun c11 hF=>?_) fun c11 hF=>?_
  ·refine wp_skip<|qag<|qab<|qac<|mv E rfl fun a E=>lw E (qaG rfl rfl (InR.inc r5 (InR.len ls_0) c6)) fun a E=>av E rfl fun a E=>wpList_nil ?_
   cases hF
   exact qau ⟨ok,E.keep [0,3],(InR.inc r5 (InR.len ls_0) c6)⟩
  refine sg<|aw E rfl fun a E=>wp_ret<|qaB<|qai ?_
  cases hF
  exact so (sr ⟨rfl,⟨ok,E.d,rz E rfl⟩⟩)
 intro e a w _ hO
 rcases o2 with o2 | o2
 rotate_left
 ·obtain ⟨rfl,hret⟩:=hO
  refine qaB<|qai ?_
  exact fin hF hret
 have hF:=qcb hF
 obtain ⟨rfl,ok,E⟩:=hO
 refine qbh<|qab<|sg<|mv E rfl fun a E=>lw E (qaH Tryz.underlying9 rfl) fun a E=>lw E (qbF rfl rfl) fun a E=>mv E rfl fun a E=>bw E 18 hF (fun c12 hF E=>?_) fun c12 hF E=>?_
 ·refine lsq E fun a E=>ls E fun a E=>pf E rfl rfl fun a E=>mv E rfl fun a E=>lsq E fun a E=>ls E fun a E=>pf E rfl rfl fun a E=>aw E rfl fun a E=>wp_ret ?_
  exact fin hF ⟨ok,E.d,rz E rfl⟩
 refine mv E rfl fun a E=>lw E (qaH Tryz.underlying9 rfl) fun a E=>lw E (qcE rfl rfl) fun a E=>pt E rfl rfl fun a E=>mv E rfl fun a E=>bw E 23 hF (fun c13 hF E=>?_) fun c13 hF E=>?_
 ·refine lsq E fun a E=>ls E fun a E=>pf E rfl rfl fun a E=>aw E rfl fun a E=>wp_ret ?_
  exact fin hF ⟨ok,E.d,rz E rfl⟩
 refine mv E rfl fun a E=>bd hF fun c14 e15 hF=>lv E ok (qaF Tryz.underlying9 rfl rfl e15) fun a E=>bd hF fun r16 e17 hF=>lc E qoP rfl (qgz N (c14.toNat:Int) (InR.byte c14) e17 hG ok) fun w ok a E=>pt E rfl rfl fun a E=>aw E rfl fun a E=>wp_ret ?_
 exact fin hF ⟨ok,E.d,rz E rfl⟩
def qjj (u:World) (m0:Mem) (S:Segs) (r:Bool) (a:Act) (w:World):Prop :=
 Ok u m0 S w ∧ a.defers = [] ∧ RVs Tryz.prog a w [.t 2 (.bool r)]
theorem qiZ (N:Nat) (s_0:List UInt8) (ls_0:s_0.length ≤ LIMS) {r:Bool} (hF:qfL N s_0 = some r) (hG:Glob u) (ok:Ok u m0 S w) :
  Calls Tryz.prog 77 [vs s_0].toArray w fun e w'=>(e = .returned (.bool r) ∧ Ok u m0 S w'):=by
 unfold qfL at hF
 refine en (qjj u m0 S) r Tryz.func77 rfl rfl rfl (fun _ _ h=>ra h rfl) fun fin a E=>sg<|aw E rfl fun a E=>sg<|mv E rfl fun a E=>lw E (qbp rfl rfl) fun a E=>mv E rfl fun a E=>bu E 5 hF (fun c1 hF E=>?_) fun c1 hF E=>?_
 ·refine lsq E fun a E=>pt E rfl rfl fun a E=>mv E rfl fun a E=>lsq E fun a E=>pt E rfl rfl fun a E=>mv E rfl fun a E=>lsq E fun a E=>pt E rfl rfl fun a E=>mv E rfl fun a E=>lsq E fun a E=>pt E rfl rfl fun a E=>mv E rfl fun a E=>?_
  refine lsq E fun a E=>pt E rfl rfl fun a E=>aw E rfl fun a E=>wp_ret ?_
  exact fin hF ⟨ok,E.d,rz E rfl⟩
 refine mv E rfl fun a E=>lw E (qbp rfl rfl) fun a E=>pf E rfl rfl fun a E=>mv E rfl fun a E=>bu E 9 hF (fun c2 hF E=>?_) fun c2 hF E=>?_
 ·refine lsq E fun a E=>pt E rfl rfl fun a E=>mv E rfl fun a E=>lsq E fun a E=>pt E rfl rfl fun a E=>mv E rfl fun a E=>lsq E fun a E=>pt E rfl rfl fun a E=>mv E rfl fun a E=>lsq E fun a E=>pt E rfl rfl fun a E=>av E rfl fun a E=>?_
  refine wn<|wp_ret ?_
  exact fin hF ⟨ok,E.d,rz E rfl⟩
 refine mv E rfl fun a E=>lw E (qbp rfl rfl) fun a E=>pf E rfl rfl fun a E=>mv E rfl fun a E=>bu E 13 hF (fun c3 hF E=>?_) fun c3 hF E=>?_
 ·refine lsq E fun a E=>pt E rfl rfl fun a E=>mv E rfl fun a E=>lsq E fun a E=>pt E rfl rfl fun a E=>mv E rfl fun a E=>lsq E fun a E=>pt E rfl rfl fun a E=>aw E rfl fun a E=>wp_ret ?_
  exact fin hF ⟨ok,E.d,rz E rfl⟩
 refine mv E rfl fun a E=>lw E (qbp rfl rfl) fun a E=>pf E rfl rfl fun a E=>mv E rfl fun a E=>bu E 17 hF (fun c4 hF E=>?_) fun c4 hF E=>?_
 ·refine lsq E fun a E=>pt E rfl rfl fun a E=>mv E rfl fun a E=>lsq E fun a E=>pt E rfl rfl fun a E=>av E rfl fun a E=>wn<|wp_ret ?_
  exact fin hF ⟨ok,E.d,rz E rfl⟩
 refine mv E rfl fun a E=>lw E (qbp rfl rfl) fun a E=>pf E rfl rfl fun a E=>mv E rfl fun a E=>bu E 21 hF (fun c5 hF E=>?_) fun c5 hF E=>?_
 ·refine lsq E fun a E=>pt E rfl rfl fun a E=>aw E rfl fun a E=>wp_ret ?_
  exact fin hF ⟨ok,E.d,rz E rfl⟩
 refine mv E rfl fun a E=>lw E (qbp rfl rfl) fun a E=>pf E rfl rfl fun a E=>aw E rfl fun a E=>wp_ret ?_
 exact fin hF ⟨ok,E.d,rz E rfl⟩
def qge (u:World) (m0:Mem) (S:Segs) (r:Bool) (a:Act) (w:World):Prop :=
 Ok u m0 S w ∧ a.defers = [] ∧ RVs Tryz.prog a w [.t 2 (.bool r)]
theorem qgk (N:Nat) (s_0:List UInt8) (ls_0:s_0.length ≤ LIMS) {r:Bool} (hF:qeo N s_0 = some r) (hG:Glob u) (ok:Ok u m0 S w) :
  Calls Tryz.prog 128 [vs s_0].toArray w fun e w'=>(e = .returned (.bool r) ∧ Ok u m0 S w'):=by
 unfold qeo at hF
 refine en (qge u m0 S) r Tryz.func128 rfl rfl rfl (fun _ _ h=>ra h rfl) fun fin a E=>sg<|aw E rfl fun a E=>wp_seq<|sg<|aw E rfl fun a E=>wp_block<|bd hF fun o2 hL hF=>qbb _ (fun (s:Int) a w=>Ok u m0 (S) w ∧ Env 20 a [(0,vs s_0),(3,vi s)] ∧ InR .i64 s) (fun (b:(Unit ⊕ Bool)) e a w=>(Sum.elim (fun b13=>e = (.exit 0) ∧ Ok u m0 (S) w ∧ Env 20 a []) (fun b14=>e = .ret ∧ qge u m0 S b14 a w)) b) ?_ ?_ N _ a w hL ⟨ok,E.keep [0,3],(ir 0)⟩
 rotate_left
 ·intro e a w _ hO
  rcases o2 with o2 | o2
  rotate_left
  ·obtain ⟨rfl,hret⟩:=hO
   refine qaB<|qai ?_
   exact fin hF hret
  have hF:=qcb hF
  obtain ⟨rfl,ok,E⟩:=hO
  refine qbh<|qab<|sg<|aw E rfl fun a E=>wp_ret ?_
  exact fin hF ⟨ok,E.d,rz E rfl⟩
 rintro v4 a w r ⟨ok,E,r5⟩ hF
 replace hF:qeJ N s_0 v4 = some r:=hF
 unfold qeJ at hF
 refine wp_seq<|sg<|mz E rfl rfl fun a E=>lw E (qaH Tryz.underlying9 rfl) fun a E=>lw E (qaQ rfl rfl) fun a E=>wn<|cg E rfl hF (fun c6 hF=>?_) fun c6 hF=>?_
 ·refine wp_exit<|qaV ?_
  cases hF
  exact so (sl ⟨rfl,⟨ok,E.keep []⟩⟩)
 refine wp_skip<|qab<|wp_seq<|wp_block<|sg<|mz E rfl rfl fun a E=>bd hF fun c7 e8 hF=>lv E ok (qaF Tryz.underlying9 rfl rfl e8) fun a E=>lw E (qaQ rfl rfl) fun a E=>mv E rfl fun a E=>bu E 14 hF (fun c9 hF E=>?_) fun c9 hF E=>?_
 ·refine lsz E fun a E=>pt E rfl rfl fun a E=>wn<|c_if E rfl (fun _=>?_) (fun h=>by cases h)
  refine sg<|aw E rfl fun a E=>wp_ret<|qaB<|qai ?_
  cases hF
  exact so (sr ⟨rfl,⟨ok,E.d,rz E rfl⟩⟩)
 refine mz E rfl rfl fun a E=>bd hF fun c10 e11 hF=>lv E ok (qaF Tryz.underlying9 rfl rfl e11) fun a E=>lw E (qby rfl rfl) fun a E=>pf E rfl rfl fun a E=>wn<|cg E rfl hF (fun c12 hF=>?_) fun c12 hF=>?_
 ·refine wp_skip<|qag<|qab<|qac<|mv E rfl fun a E=>lw E (qaG rfl rfl (InR.inc r5 (InR.len ls_0) c6)) fun a E=>av E rfl fun a E=>wpList_nil ?_
  cases hF
  exact qau ⟨ok,E.keep [0,3],(InR.inc r5 (InR.len ls_0) c6)⟩
 refine sg<|aw E rfl fun a E=>wp_ret<|qaB<|qai ?_
 cases hF
 exact so (sr ⟨rfl,⟨ok,E.d,rz E rfl⟩⟩)
def qgP (u:World) (m0:Mem) (S:Segs) (r:Bool) (a:Act) (w:World):Prop :=
 Ok u m0 S w ∧ a.defers = [] ∧ RVs Tryz.prog a w [.t 2 (.bool r)]
theorem qen (N:Nat) (s_0:List UInt8) (ls_0:s_0.length ≤ LIMS) {r:Bool} (hF:qdx N s_0 = some r) (hG:Glob u) (ok:Ok u m0 S w) :
  Calls Tryz.prog 129 [vs s_0].toArray w fun e w'=>(e = .returned (.bool r) ∧ Ok u m0 S w'):=by
 unfold qdx at hF
 refine en (qgP u m0 S) r Tryz.func129 rfl rfl rfl (fun _ _ h=>ra h rfl) fun fin a E=>sg<|aw E rfl fun a E=>wp_seq<|sg<|aw E rfl fun a E=>wp_block<|bd hF fun o2 hL hF=>qbb _ (fun (s:Int) a w=>Ok u m0 (S) w ∧ Env 14 a [(0,vs s_0),(3,vi s)] ∧ InR .i64 s) (fun (b:(Unit ⊕ Bool)) e a w=>(Sum.elim (fun b10=>e = (.exit 0) ∧ Ok u m0 (S) w ∧ Env 14 a []) (fun b11=>e = .ret ∧ qgP u m0 S b11 a w)) b) ?_ ?_ N _ a w hL ⟨ok,E.keep [0,3],(ir 0)⟩
 rotate_left
 ·intro e a w _ hO
  rcases o2 with o2 | o2
  rotate_left
  ·obtain ⟨rfl,hret⟩:=hO
   refine qaB<|qai ?_
   exact fin hF hret
  have hF:=qcb hF
  obtain ⟨rfl,ok,E⟩:=hO
  refine qbh<|qab<|sg<|aw E rfl fun a E=>wp_ret ?_
  exact fin hF ⟨ok,E.d,rz E rfl⟩
 rintro v4 a w r ⟨ok,E,r5⟩ hF
 replace hF:qfg N s_0 v4 = some r:=hF
 unfold qfg at hF
 refine wp_seq<|sg<|mz E rfl rfl fun a E=>lw E (qaH Tryz.underlying9 rfl) fun a E=>lw E (qaQ rfl rfl) fun a E=>wn<|cg E rfl hF (fun c6 hF=>?_) fun c6 hF=>?_
 ·refine wp_exit<|qaV ?_
  cases hF
  exact so (sl ⟨rfl,⟨ok,E.keep []⟩⟩)
 refine wp_skip<|qab<|wp_seq<|wp_block<|sg<|mz E rfl rfl fun a E=>bd hF fun c7 e8 hF=>lv E ok (qaF Tryz.underlying9 rfl rfl e8) fun a E=>lw E (qbu rfl rfl) fun a E=>wn<|cg E rfl hF (fun c9 hF=>?_) fun c9 hF=>?_
 ·refine wp_skip<|qag<|qab<|qac<|mv E rfl fun a E=>lw E (qaG rfl rfl (InR.inc r5 (InR.len ls_0) c6)) fun a E=>av E rfl fun a E=>wpList_nil ?_
  cases hF
  exact qau ⟨ok,E.keep [0,3],(InR.inc r5 (InR.len ls_0) c6)⟩
 refine sg<|aw E rfl fun a E=>wp_ret<|qaB<|qai ?_
 cases hF
 exact so (sr ⟨rfl,⟨ok,E.d,rz E rfl⟩⟩)
end Go.Proofs.YtllnjbnknjpbjaaGreatDoor
namespace Go.Proofs.YtllnjbnknjpbjaaGreatDoor
open Go.X
variable {u:World} {m0:Mem} {S:Segs} {w:World}
set_option maxHeartbeats 4000000
set_option maxRecDepth 100000
def qdr (u:World) (m0:Mem) (S:Segs) (r:Number2 × Bool) (a:Act) (w:World):Prop :=
 ∃ m1 v0,m0.le m1 ∧ Ok u m1 S w ∧ a.defers = [] ∧ RVs Tryz.prog a w [.c 2 173 (.agg v0.toArray),.t 3 (.bool r.2)] ∧ ql9 m1 v0 r.1
theorem qjd (N:Nat) (s_0:List UInt8) (ls_0:s_0.length ≤ LIMS) {r:Number2 × Bool} (hF:qfR N s_0 = some r) (hG:Glob u) (ok:Ok u m0 S w) :
  Calls Tryz.prog 105 [vs s_0].toArray w fun e w'=>∃ m1 v0,e = .returned (.tuple [(.agg v0.toArray),(.bool r.2)].toArray) ∧ m0.le m1 ∧ Ok u m1 S w' ∧ ql9 m1 v0 r.1:=by
 have le_m0:=Mem.le.refl m0
 unfold qfR at hF
 refine en (qdr u m0 S) r Tryz.func105 rfl rfl rfl (by rintro a w ⟨m1,v0,hle,ok,hd,hrv,h0⟩; exact qbC [.c 2 173 (.agg v0.toArray),.t 3 (.bool r.2)] hd rfl hrv ⟨m1,v0,rfl,hle,ok,h0⟩) fun fin a E=>sg<|qa4 E ok qb4 rfl rfl fun b1 a w E ok=>aw E rfl fun a E=>sg<|qa4 E ok qb4 rfl rfl fun b2 a w E ok=>wn<|wp_seq<|sg<|mv E rfl fun a E=>lw E (qaH Tryz.underlying9 rfl) fun a E=>lw E (qby rfl rfl) fun a E=>mv E rfl fun a E=>bw E 9 hF (fun c3 hF E=>?_) fun c3 hF E=>?_
 ·as_aux_lemma =>
   refine lsq E fun a E=>ls E fun a E=>pf E rfl rfl fun a E=>wn<|c_if E rfl (fun h=>by cases h) (fun _=>?_)
   refine wp_skip<|qab<|sg<|aw E rfl fun a E=>wp_seq<|wp_block<|bd hF fun o73 hL hF=>qbb _ (fun (s:Int) a w=>Ok u m0 ([(b2,oc 173 [vb false,(vs ([])),(vs ([]))])] :: [(b1,oc 173 [vb false,(vs ([])),(vs ([]))])] :: S) w ∧ Env 98 a [(0,vs s_0),(2,vp b1),(4,vp b2),(5,vi s)] ∧ InR .i64 s) (fun (b:Int) e a w=>e = (.exit 0) ∧ Ok u m0 ([(b2,oc 173 [vb false,(vs ([])),(vs ([]))])] :: [(b1,oc 173 [vb false,(vs ([])),(vs ([]))])] :: S) w ∧ Env 98 a [(0,vs s_0),(2,vp b1),(4,vp b2),(5,vi b)] ∧ InR .i64 b) ?_ ?_ N _ a w hL ⟨ok,E.keep [0,2,4,5],(ir 0)⟩
   ·rintro v75 a w r ⟨ok,E,r76⟩ hF
    replace hF:qeY N s_0 v75 = some r:=hF
    unfold qeY at hF
    refine wp_seq<|sg<|mz E rfl rfl fun a E=>lw E (qaH Tryz.underlying9 rfl) fun a E=>lw E (qaQ rfl rfl) fun a E=>mv E rfl fun a E=>bw E 21 hF (fun c77 hF E=>?_) fun c77 hF E=>?_
    ·refine lsz E fun a E=>pf E rfl rfl fun a E=>wn<|c_if E rfl (fun h=>by cases h) (fun _=>?_)
     refine wp_exit<|qaV ?_
     cases hF
     exact so (⟨rfl,⟨ok,E.keep [0,2,4,5],r76⟩⟩)
    refine mz E rfl rfl fun a E=>bd hF fun c78 e79 hF=>lv E ok (qaF Tryz.underlying9 rfl rfl e79) fun a E=>lw E (qbu rfl rfl) fun a E=>pt E rfl rfl fun a E=>wn<|cg E rfl hF (fun c80 hF=>?_) fun c80 hF=>?_
    ·refine wp_exit<|qaV ?_
     cases hF
     exact so (⟨rfl,⟨ok,E.keep [0,2,4,5],r76⟩⟩)
    refine wp_skip<|qab<|wp_block<|qac<|mv E rfl fun a E=>lw E (qaG rfl rfl (InR.inc r76 (InR.len ls_0) c77)) fun a E=>av E rfl fun a E=>wpList_nil<|qag ?_
    cases hF
    exact qau ⟨ok,E.keep [0,2,4,5],(InR.inc r76 (InR.len ls_0) c77)⟩
   intro e a w _ hO
   obtain ⟨rfl,ok,E,r81⟩:=hO
   refine qbh<|qab<|sg<|mz E rfl rfl fun a E=>bd hF fun s82 e83 hF=>lw E (qdc Tryz.underlying9 e83 rfl rfl ⟨_,rfl⟩) fun a E=>fv E qcT rfl fun a E=>qad E ok 0 rfl rfl rfl qcF rfl rfl ⟨rfl,trivial⟩ rfl rfl fun w ok=>wn<|wp_seq<|sg<|mz E rfl rfl fun a E=>lw E (qaH Tryz.underlying9 rfl) fun a E=>lw E (qaQ rfl rfl) fun a E=>wn<|bd hF fun o84 hJ hF=>qaJ (Q':=fun e a w=>(Sum.elim (fun b85=>e = .normal ∧ Ok u m0 ([(b2,oc 173 [vb b85.Neg,vs b85.Whole,vs b85.Frac])] :: [(b1,oc 173 [vb false,(vs ([])),(vs ([]))])] :: S) w ∧ Env 98 a [(2,vp b1),(4,vp b2)] ∧ b85.Whole.length ≤ LIMS ∧ b85.Frac.length ≤ LIMS) (fun b88=>e = .ret ∧ qdr u m0 S b88 a w)) o84) ?_ ?_
   ·have hF:=hJ
    refine cg E rfl hF (fun c89 hF=>?_) fun c89 hF=>?_
    ·refine wp_skip ?_
     cases hF
     exact (sl ⟨rfl,⟨ok,E.keep [2,4],(Nat.le_trans (qcf e83) ls_0),(Nat.zero_le _)⟩⟩)
    refine sg<|mz E rfl rfl fun a E=>lw E (qaG rfl rfl (InR.inc r81 (InR.len ls_0) c89)) fun a E=>bd hF fun s90 e91 hF=>lw E (qdc Tryz.underlying9 e91 rfl ⟨_,rfl⟩ rfl) fun a E=>fv E qdf rfl fun a E=>qad E ok 0 rfl rfl rfl qcF rfl rfl ⟨rfl,trivial⟩ rfl rfl fun w ok=>wn<|sg<|fv E qdf rfl fun a E=>ld E ok qan 0 rfl rfl rfl fun a E=>lw E (qaH Tryz.underlying9 rfl) fun a E=>lw E (qal rfl rfl) fun a E=>wn<|cg E rfl hF (fun c92 hF=>?_) fun c92 hF=>?_
    ·refine wp_skip ?_
     cases hF
     exact (sl ⟨rfl,⟨ok,E.keep [2,4],(Nat.le_trans (qcf e83) ls_0),(Nat.le_trans (qcf e91) ls_0)⟩⟩)
    refine sg<|lw E (qap (ps:=[]) (qs:=[]) (cs:=[vb false,(vs ([])),(vs ([]))]) qb4 qbT rfl trivial rfl) fun a E=>qad E ok 1 rfl rfl rfl qbR rfl rfl ⟨rfl,rfl,rfl,trivial⟩ rfl rfl fun w ok=>aw E rfl fun a E=>wp_ret ?_
    have hret:qdr u m0 S ((Number2.mk false ([]) ([])),false) a w:=⟨m0,[vb false,(vs ([])),(vs ([]))],le_m0,ok.drop.drop,E.d,⟨rv_c (cs:=[vb false,(vs ([])),(vs ([]))]) E ok rfl qbn rfl (qae.own 1 rfl rfl),rv_t E rfl,trivial⟩,⟨rfl,(Nat.zero_le _),(Nat.zero_le _)⟩⟩
    cases hF
    exact (sr ⟨rfl,hret⟩)
   intro e a w hO
   rcases o84 with o84 | o84
   rotate_left
   ·obtain ⟨rfl,hret⟩:=hO
    refine qai ?_
    exact fin hF hret
   have hF:=qcb hF
   obtain ⟨rfl,ok,E,l93,l94⟩:=hO
   refine qab<|wp_seq<|sg<|fk E ok qcT qan rfl 0 rfl rfl fun a E=>fk E ok qdf qan rfl 0 rfl rfl fun a E=>bd hF fun s95 e96 hF=>lw E (qaT rfl rfl e96) fun a E=>bd hF fun r97 e98 hF=>lc E qnp rfl (qgk N s95 (qbP e96) e98 hG ok) fun w ok a E=>lw E (qbf rfl) fun a E=>mv E rfl fun a E=>bu E 54 hF (fun c99 hF E=>?_) fun c99 hF E=>?_
   ·refine lsz E fun a E=>pt E rfl rfl fun a E=>mv E rfl fun a E=>lsz E fun a E=>pt E rfl rfl fun a E=>mv E rfl fun a E=>lsz E fun a E=>?_
    refine lsz E fun a E=>lsq E fun a E=>pt E rfl rfl fun a E=>mv E rfl fun a E=>lsz E fun a E=>pt E rfl rfl fun a E=>mv E rfl fun a E=>lsq E fun a E=>?_
    refine lsz E fun a E=>lsz E fun a E=>pt E rfl rfl fun a E=>wn<|c_if E rfl (fun _=>?_) (fun h=>by cases h)
    refine sg<|lw E (qap (ps:=[]) (qs:=[]) (cs:=[vb false,(vs ([])),(vs ([]))]) qb4 qbT rfl trivial rfl) fun a E=>qad E ok 1 rfl rfl rfl qbR rfl rfl ⟨rfl,rfl,rfl,trivial⟩ rfl rfl fun w ok=>aw E rfl fun a E=>wp_ret<|qai ?_
    exact fin hF ⟨m0,[vb false,(vs ([])),(vs ([]))],le_m0,ok.drop.drop,E.d,⟨rv_c (cs:=[vb false,(vs ([])),(vs ([]))]) E ok rfl qbn rfl (qae.own 1 rfl rfl),rv_t E rfl,trivial⟩,⟨rfl,(Nat.zero_le _),(Nat.zero_le _)⟩⟩
   refine fk E ok qcT qan rfl 0 rfl rfl fun a E=>lw E (qaH Tryz.underlying9 rfl) fun a E=>lw E (qaQ rfl rfl) fun a E=>pf E rfl rfl fun a E=>mv E rfl fun a E=>bu E 60 hF (fun c100 hF E=>?_) fun c100 hF E=>?_
   ·refine lsz E fun a E=>pt E rfl rfl fun a E=>mv E rfl fun a E=>lsz E fun a E=>lsz E fun a E=>lsq E fun a E=>?_
    refine pt E rfl rfl fun a E=>mv E rfl fun a E=>lsz E fun a E=>pt E rfl rfl fun a E=>mv E rfl fun a E=>lsz E fun a E=>lsz E fun a E=>?_
    refine lsq E fun a E=>pt E rfl rfl fun a E=>wn<|c_if E rfl (fun _=>?_) (fun h=>by cases h)
    refine sg<|lw E (qap (ps:=[]) (qs:=[]) (cs:=[vb false,(vs ([])),(vs ([]))]) qb4 qbT rfl trivial rfl) fun a E=>qad E ok 1 rfl rfl rfl qbR rfl rfl ⟨rfl,rfl,rfl,trivial⟩ rfl rfl fun w ok=>aw E rfl fun a E=>wp_ret<|qai ?_
    exact fin hF ⟨m0,[vb false,(vs ([])),(vs ([]))],le_m0,ok.drop.drop,E.d,⟨rv_c (cs:=[vb false,(vs ([])),(vs ([]))]) E ok rfl qbn rfl (qae.own 1 rfl rfl),rv_t E rfl,trivial⟩,⟨rfl,(Nat.zero_le _),(Nat.zero_le _)⟩⟩
   refine fk E ok qcT qan rfl 0 rfl rfl fun a E=>lw E (qaH Tryz.underlying9 rfl) fun a E=>lw E (qby rfl rfl) fun a E=>pf E rfl rfl fun a E=>mv E rfl fun a E=>bu E 66 hF (fun c101 hF E=>?_) fun c101 hF E=>?_
   ·refine lsz E fun a E=>lsz E fun a E=>lsq E fun a E=>pt E rfl rfl fun a E=>mv E rfl fun a E=>lsz E fun a E=>?_
    refine pt E rfl rfl fun a E=>mv E rfl fun a E=>lsz E fun a E=>lsz E fun a E=>lsq E fun a E=>pt E rfl rfl fun a E=>wn<|c_if E rfl (fun _=>?_) (fun h=>by cases h)
    refine sg<|lw E (qap (ps:=[]) (qs:=[]) (cs:=[vb false,(vs ([])),(vs ([]))]) qb4 qbT rfl trivial rfl) fun a E=>qad E ok 1 rfl rfl rfl qbR rfl rfl ⟨rfl,rfl,rfl,trivial⟩ rfl rfl fun w ok=>aw E rfl fun a E=>wp_ret<|qai ?_
    exact fin hF ⟨m0,[vb false,(vs ([])),(vs ([]))],le_m0,ok.drop.drop,E.d,⟨rv_c (cs:=[vb false,(vs ([])),(vs ([]))]) E ok rfl qbn rfl (qae.own 1 rfl rfl),rv_t E rfl,trivial⟩,⟨rfl,(Nat.zero_le _),(Nat.zero_le _)⟩⟩
   refine fk E ok qcT qan rfl 0 rfl rfl fun a E=>lw E (qaH Tryz.underlying9 rfl) fun a E=>lw E (qby rfl rfl) fun a E=>mv E rfl fun a E=>bw E 71 hF (fun c102 hF E=>?_) fun c102 hF E=>?_
   ·as_aux_lemma =>
     refine lsz E fun a E=>pf E rfl rfl fun a E=>pf E rfl rfl fun a E=>mv E rfl fun a E=>fv E qdf rfl fun a E=>ld E ok qan 0 rfl rfl rfl fun a E=>lw E (qaH Tryz.underlying9 rfl) fun a E=>lw E (qby rfl rfl) fun a E=>pf E rfl rfl fun a E=>mv E rfl fun a E=>bu E 84 hF (fun c113 hF E=>?_) fun c113 hF E=>?_
     ·refine lsz E fun a E=>lsz E fun a E=>lsq E fun a E=>pt E rfl rfl fun a E=>wn<|c_if E rfl (fun _=>?_) (fun h=>by cases h)
      refine sg<|lw E (qap (ps:=[]) (qs:=[]) (cs:=[vb false,(vs ([])),(vs ([]))]) qb4 qbT rfl trivial rfl) fun a E=>qad E ok 1 rfl rfl rfl qbR rfl rfl ⟨rfl,rfl,rfl,trivial⟩ rfl rfl fun w ok=>aw E rfl fun a E=>wp_ret<|qai ?_
      exact fin hF ⟨m0,[vb false,(vs ([])),(vs ([]))],le_m0,ok.drop.drop,E.d,⟨rv_c (cs:=[vb false,(vs ([])),(vs ([]))]) E ok rfl qbn rfl (qae.own 1 rfl rfl),rv_t E rfl,trivial⟩,⟨rfl,(Nat.zero_le _),(Nat.zero_le _)⟩⟩
     refine fk E ok qhG qlH rfl 0 rfl rfl fun a E=>mv E rfl fun a E=>qbo o84.Neg (fun c114=>?_) (fun c114=>?_)
     rotate_left
     ·have hF:=qbl c114 hF
      have E:=E.upd 87 c114 rfl
      refine lsz E fun a E=>lsq E fun a E=>pf E rfl rfl fun a E=>pf E rfl rfl fun a E=>wn<|c_if E rfl (fun h=>by cases h) (fun _=>?_)
      refine wp_skip<|qab<|sg<|lv E ok (qat (cs:=[vb o84.Neg,vs o84.Whole,vs o84.Frac]) qbn rfl rfl (qae.own 0 rfl rfl)) fun a E=>qad E ok 1 rfl rfl rfl qbR rfl rfl ⟨rfl,rfl,rfl,trivial⟩ rfl rfl fun w ok=>av E rfl fun a E=>wn<|wp_ret ?_
      exact fin hF ⟨m0,[vb o84.Neg,vs o84.Whole,vs o84.Frac],le_m0,ok.drop.drop,E.d,⟨rv_c (cs:=[vb o84.Neg,vs o84.Whole,vs o84.Frac]) E ok rfl qbn rfl (qae.own 1 rfl rfl),rv_t E rfl,trivial⟩,⟨rfl,l93,l94⟩⟩
     have hF:=qbm c114 hF
     have E:=E.upd 87 c114 rfl
     refine fk E ok qcT qan rfl 0 rfl rfl fun a E=>fk E ok qdf qan rfl 0 rfl rfl fun a E=>bd hF fun s115 e116 hF=>lw E (qaT rfl rfl e116) fun a E=>bd hF fun r117 e118 hF=>lc E qkn rfl (qen N s115 (qbP e116) e118 hG ok) fun w ok a E=>pt E rfl rfl fun a E=>pf E rfl rfl fun a E=>wn<|cf E rfl hF (fun c119 hF=>?_) fun c119 hF=>?_
     ·refine sg<|lw E (qap (ps:=[]) (qs:=[]) (cs:=[vb false,(vs ([])),(vs ([]))]) qb4 qbT rfl trivial rfl) fun a E=>qad E ok 1 rfl rfl rfl qbR rfl rfl ⟨rfl,rfl,rfl,trivial⟩ rfl rfl fun w ok=>aw E rfl fun a E=>wp_ret<|qai ?_
      exact fin hF ⟨m0,[vb false,(vs ([])),(vs ([]))],le_m0,ok.drop.drop,E.d,⟨rv_c (cs:=[vb false,(vs ([])),(vs ([]))]) E ok rfl qbn rfl (qae.own 1 rfl rfl),rv_t E rfl,trivial⟩,⟨rfl,(Nat.zero_le _),(Nat.zero_le _)⟩⟩
     refine wp_skip<|qab<|sg<|lv E ok (qat (cs:=[vb o84.Neg,vs o84.Whole,vs o84.Frac]) qbn rfl rfl (qae.own 0 rfl rfl)) fun a E=>qad E ok 1 rfl rfl rfl qbR rfl rfl ⟨rfl,rfl,rfl,trivial⟩ rfl rfl fun w ok=>av E rfl fun a E=>wn<|wp_ret ?_
     exact fin hF ⟨m0,[vb o84.Neg,vs o84.Whole,vs o84.Frac],le_m0,ok.drop.drop,E.d,⟨rv_c (cs:=[vb o84.Neg,vs o84.Whole,vs o84.Frac]) E ok rfl qbn rfl (qae.own 1 rfl rfl),rv_t E rfl,trivial⟩,⟨rfl,l93,l94⟩⟩
   refine fk E ok qcT qan rfl 0 rfl rfl fun a E=>bd hF fun c103 e104 hF=>lv E ok (qaF Tryz.underlying9 rfl rfl e104) fun a E=>lw E (qal rfl rfl) fun a E=>pt E rfl rfl fun a E=>pf E rfl rfl fun a E=>mv E rfl fun a E=>bu E 78 hF (fun c105 hF E=>?_) fun c105 hF E=>?_
   ·refine lsz E fun a E=>pt E rfl rfl fun a E=>mv E rfl fun a E=>lsz E fun a E=>lsz E fun a E=>lsq E fun a E=>?_
    refine pt E rfl rfl fun a E=>wn<|c_if E rfl (fun _=>?_) (fun h=>by cases h)
    refine sg<|lw E (qap (ps:=[]) (qs:=[]) (cs:=[vb false,(vs ([])),(vs ([]))]) qb4 qbT rfl trivial rfl) fun a E=>qad E ok 1 rfl rfl rfl qbR rfl rfl ⟨rfl,rfl,rfl,trivial⟩ rfl rfl fun w ok=>aw E rfl fun a E=>wp_ret<|qai ?_
    exact fin hF ⟨m0,[vb false,(vs ([])),(vs ([]))],le_m0,ok.drop.drop,E.d,⟨rv_c (cs:=[vb false,(vs ([])),(vs ([]))]) E ok rfl qbn rfl (qae.own 1 rfl rfl),rv_t E rfl,trivial⟩,⟨rfl,(Nat.zero_le _),(Nat.zero_le _)⟩⟩
   refine fk E ok qdf qan rfl 0 rfl rfl fun a E=>lw E (qaH Tryz.underlying9 rfl) fun a E=>lw E (qby rfl rfl) fun a E=>pf E rfl rfl fun a E=>mv E rfl fun a E=>bu E 84 hF (fun c106 hF E=>?_) fun c106 hF E=>?_
   ·refine lsz E fun a E=>lsz E fun a E=>lsq E fun a E=>pt E rfl rfl fun a E=>wn<|c_if E rfl (fun _=>?_) (fun h=>by cases h)
    refine sg<|lw E (qap (ps:=[]) (qs:=[]) (cs:=[vb false,(vs ([])),(vs ([]))]) qb4 qbT rfl trivial rfl) fun a E=>qad E ok 1 rfl rfl rfl qbR rfl rfl ⟨rfl,rfl,rfl,trivial⟩ rfl rfl fun w ok=>aw E rfl fun a E=>wp_ret<|qai ?_
    exact fin hF ⟨m0,[vb false,(vs ([])),(vs ([]))],le_m0,ok.drop.drop,E.d,⟨rv_c (cs:=[vb false,(vs ([])),(vs ([]))]) E ok rfl qbn rfl (qae.own 1 rfl rfl),rv_t E rfl,trivial⟩,⟨rfl,(Nat.zero_le _),(Nat.zero_le _)⟩⟩
   refine fk E ok qhG qlH rfl 0 rfl rfl fun a E=>mv E rfl fun a E=>qbo o84.Neg (fun c107=>?_) (fun c107=>?_)
   rotate_left
   ·have hF:=qbl c107 hF
    have E:=E.upd 87 c107 rfl
    refine lsz E fun a E=>lsq E fun a E=>pf E rfl rfl fun a E=>pf E rfl rfl fun a E=>wn<|c_if E rfl (fun h=>by cases h) (fun _=>?_)
    refine wp_skip<|qab<|sg<|lv E ok (qat (cs:=[vb o84.Neg,vs o84.Whole,vs o84.Frac]) qbn rfl rfl (qae.own 0 rfl rfl)) fun a E=>qad E ok 1 rfl rfl rfl qbR rfl rfl ⟨rfl,rfl,rfl,trivial⟩ rfl rfl fun w ok=>av E rfl fun a E=>wn<|wp_ret ?_
    exact fin hF ⟨m0,[vb o84.Neg,vs o84.Whole,vs o84.Frac],le_m0,ok.drop.drop,E.d,⟨rv_c (cs:=[vb o84.Neg,vs o84.Whole,vs o84.Frac]) E ok rfl qbn rfl (qae.own 1 rfl rfl),rv_t E rfl,trivial⟩,⟨rfl,l93,l94⟩⟩
   have hF:=qbm c107 hF
   have E:=E.upd 87 c107 rfl
   refine fk E ok qcT qan rfl 0 rfl rfl fun a E=>fk E ok qdf qan rfl 0 rfl rfl fun a E=>bd hF fun s108 e109 hF=>lw E (qaT rfl rfl e109) fun a E=>bd hF fun r110 e111 hF=>lc E qkn rfl (qen N s108 (qbP e109) e111 hG ok) fun w ok a E=>pt E rfl rfl fun a E=>pf E rfl rfl fun a E=>wn<|cf E rfl hF (fun c112 hF=>?_) fun c112 hF=>?_
   ·refine sg<|lw E (qap (ps:=[]) (qs:=[]) (cs:=[vb false,(vs ([])),(vs ([]))]) qb4 qbT rfl trivial rfl) fun a E=>qad E ok 1 rfl rfl rfl qbR rfl rfl ⟨rfl,rfl,rfl,trivial⟩ rfl rfl fun w ok=>aw E rfl fun a E=>wp_ret<|qai ?_
    exact fin hF ⟨m0,[vb false,(vs ([])),(vs ([]))],le_m0,ok.drop.drop,E.d,⟨rv_c (cs:=[vb false,(vs ([])),(vs ([]))]) E ok rfl qbn rfl (qae.own 1 rfl rfl),rv_t E rfl,trivial⟩,⟨rfl,(Nat.zero_le _),(Nat.zero_le _)⟩⟩
   refine wp_skip<|qab<|sg<|lv E ok (qat (cs:=[vb o84.Neg,vs o84.Whole,vs o84.Frac]) qbn rfl rfl (qae.own 0 rfl rfl)) fun a E=>qad E ok 1 rfl rfl rfl qbR rfl rfl ⟨rfl,rfl,rfl,trivial⟩ rfl rfl fun w ok=>av E rfl fun a E=>wn<|wp_ret ?_
   exact fin hF ⟨m0,[vb o84.Neg,vs o84.Whole,vs o84.Frac],le_m0,ok.drop.drop,E.d,⟨rv_c (cs:=[vb o84.Neg,vs o84.Whole,vs o84.Frac]) E ok rfl qbn rfl (qae.own 1 rfl rfl),rv_t E rfl,trivial⟩,⟨rfl,l93,l94⟩⟩
 refine mv E rfl fun a E=>bd hF fun c4 e5 hF=>lv E ok (qaF Tryz.underlying9 rfl rfl e5) fun a E=>lw E (qal rfl rfl) fun a E=>pt E rfl rfl fun a E=>wn<|bd hF fun o6 hJ hF=>qaJ (Q':=fun e a w=>e = .normal ∧ Ok u m0 ([(b2,oc 173 [vb o6.2.Neg,vs o6.2.Whole,vs o6.2.Frac])] :: [(b1,oc 173 [vb false,(vs ([])),(vs ([]))])] :: S) w ∧ Env 98 a [(0,vs o6.1),(2,vp b1),(4,vp b2)] ∧ o6.1.length ≤ LIMS ∧ o6.2.Whole.length ≤ LIMS ∧ o6.2.Frac.length ≤ LIMS) ?_ ?_
 ·have hF:=hJ
  refine cg E rfl hF (fun c10 hF=>?_) fun c10 hF=>?_
  ·refine wp_skip ?_
   cases hF
   exact ⟨rfl,⟨ok,E.keep [0,2,4],ls_0,(Nat.zero_le _),(Nat.zero_le _)⟩⟩
  refine bd hF fun o11 hJ hF=>qaJ (Q':=fun e a w=>e = .normal ∧ Ok u m0 ([(b2,oc 173 [vb o11.2.Neg,vs o11.2.Whole,vs o11.2.Frac])] :: [(b1,oc 173 [vb false,(vs ([])),(vs ([]))])] :: S) w ∧ Env 98 a [(0,vs o11.1),(2,vp b1),(4,vp b2)] ∧ o11.1.length ≤ LIMS ∧ o11.2.Whole.length ≤ LIMS ∧ o11.2.Frac.length ≤ LIMS) ?_ ?_
  rotate_left
  ·intro e a w hO
   obtain ⟨rfl,ok,E,l17,l18,l19⟩:=hO
   cases hF
   exact ⟨rfl,⟨ok,E.keep [0,2,4],l17,l18,l19⟩⟩
  have hF:=hJ
  obtain ⟨s15,e16,hF⟩:=bnd hF
  obtain rfl:=sj hF
  refine qbB [] (Cls u m0 ([(b1,oc 173 [vb false,(vs ([])),(vs ([]))])] :: [])) (Cls u m0 ([(b1,oc 173 [vb false,(vs ([])),(vs ([]))])] :: [])) (by kernel_rfl) ?_
  intro w hw
  replace ok:=qbS ok hw
  clear hw
  refine qaz (cl1 (cq le_m0 ok [1] rfl) (cq le_m0 ok [1] rfl)) fun hT=>kt 0 E rfl hT (qaq rfl) fun a E=>kt 1 E rfl hT (qdc Tryz.underlying9 e16 rfl ⟨_,rfl⟩ rfl) fun a E=>kt 2 E rfl hT (qak qhG rfl) fun a E=>qa3 [3] (by kernel_rfl) rfl (qa7 ?_)
  ·refine wo rfl<|qad E ok 0 rfl rfl rfl qqu rfl rfl ⟨rfl,trivial⟩ rfl rfl fun w ok=>wn<|qaz (cl1 (cq le_m0 ok [1] rfl) (cq le_m0 ok [1] rfl)) fun hT=>kt 4 E rfl hT (qbt rfl) fun a E=>qbI (by kernel_rfl) ?_
   exact ⟨rfl,⟨ok,E.keep [0,2,4],(Nat.le_trans (qcf e16) ls_0),(Nat.zero_le _),(Nat.zero_le _)⟩⟩
 intro e a w hO
 obtain ⟨rfl,ok,E,l20,l21,l22⟩:=hO
 refine qab<|sg<|aw E rfl fun a E=>wp_seq<|wp_block<|bd hF fun o24 hL hF=>qbb _ (fun (s:Int) a w=>Ok u m0 ([(b2,oc 173 [vb o6.2.Neg,vs o6.2.Whole,vs o6.2.Frac])] :: [(b1,oc 173 [vb false,(vs ([])),(vs ([]))])] :: S) w ∧ Env 98 a [(0,vs o6.1),(2,vp b1),(4,vp b2),(5,vi s)] ∧ InR .i64 s) (fun (b:Int) e a w=>e = (.exit 0) ∧ Ok u m0 ([(b2,oc 173 [vb o6.2.Neg,vs o6.2.Whole,vs o6.2.Frac])] :: [(b1,oc 173 [vb false,(vs ([])),(vs ([]))])] :: S) w ∧ Env 98 a [(0,vs o6.1),(2,vp b1),(4,vp b2),(5,vi b)] ∧ InR .i64 b) ?_ ?_ N _ a w hL ⟨ok,E.keep [0,2,4,5],(ir 0)⟩
 ·rintro v26 a w r ⟨ok,E,r27⟩ hF
  replace hF:qeQ N o6 v26 = some r:=hF
  unfold qeQ at hF
  refine wp_seq<|sg<|mz E rfl rfl fun a E=>lw E (qaH Tryz.underlying9 rfl) fun a E=>lw E (qaQ rfl rfl) fun a E=>mv E rfl fun a E=>bw E 21 hF (fun c28 hF E=>?_) fun c28 hF E=>?_
  ·refine lsz E fun a E=>pf E rfl rfl fun a E=>wn<|c_if E rfl (fun h=>by cases h) (fun _=>?_)
   refine wp_exit<|qaV ?_
   cases hF
   exact so (⟨rfl,⟨ok,E.keep [0,2,4,5],r27⟩⟩)
  refine mz E rfl rfl fun a E=>bd hF fun c29 e30 hF=>lv E ok (qaF Tryz.underlying9 rfl rfl e30) fun a E=>lw E (qbu rfl rfl) fun a E=>pt E rfl rfl fun a E=>wn<|cg E rfl hF (fun c31 hF=>?_) fun c31 hF=>?_
  ·refine wp_exit<|qaV ?_
   cases hF
   exact so (⟨rfl,⟨ok,E.keep [0,2,4,5],r27⟩⟩)
  refine wp_skip<|qab<|wp_block<|qac<|mv E rfl fun a E=>lw E (qaG rfl rfl (InR.inc r27 (InR.len l20) c28)) fun a E=>av E rfl fun a E=>wpList_nil<|qag ?_
  cases hF
  exact qau ⟨ok,E.keep [0,2,4,5],(InR.inc r27 (InR.len l20) c28)⟩
 intro e a w _ hO
 obtain ⟨rfl,ok,E,r32⟩:=hO
 refine qbh<|qab<|sg<|mz E rfl rfl fun a E=>bd hF fun s33 e34 hF=>lw E (qdc Tryz.underlying9 e34 rfl rfl ⟨_,rfl⟩) fun a E=>fv E qcT rfl fun a E=>qad E ok 0 rfl rfl rfl qcF rfl rfl ⟨rfl,trivial⟩ rfl rfl fun w ok=>wn<|wp_seq<|sg<|mz E rfl rfl fun a E=>lw E (qaH Tryz.underlying9 rfl) fun a E=>lw E (qaQ rfl rfl) fun a E=>wn<|bd hF fun o35 hJ hF=>qaJ (Q':=fun e a w=>(Sum.elim (fun b36=>e = .normal ∧ Ok u m0 ([(b2,oc 173 [vb b36.Neg,vs b36.Whole,vs b36.Frac])] :: [(b1,oc 173 [vb false,(vs ([])),(vs ([]))])] :: S) w ∧ Env 98 a [(2,vp b1),(4,vp b2)] ∧ b36.Whole.length ≤ LIMS ∧ b36.Frac.length ≤ LIMS) (fun b39=>e = .ret ∧ qdr u m0 S b39 a w)) o35) ?_ ?_
 ·have hF:=hJ
  refine cg E rfl hF (fun c40 hF=>?_) fun c40 hF=>?_
  ·refine wp_skip ?_
   cases hF
   exact (sl ⟨rfl,⟨ok,E.keep [2,4],(Nat.le_trans (qcf e34) l20),l22⟩⟩)
  refine sg<|mz E rfl rfl fun a E=>lw E (qaG rfl rfl (InR.inc r32 (InR.len l20) c40)) fun a E=>bd hF fun s41 e42 hF=>lw E (qdc Tryz.underlying9 e42 rfl ⟨_,rfl⟩ rfl) fun a E=>fv E qdf rfl fun a E=>qad E ok 0 rfl rfl rfl qcF rfl rfl ⟨rfl,trivial⟩ rfl rfl fun w ok=>wn<|sg<|fv E qdf rfl fun a E=>ld E ok qan 0 rfl rfl rfl fun a E=>lw E (qaH Tryz.underlying9 rfl) fun a E=>lw E (qal rfl rfl) fun a E=>wn<|cg E rfl hF (fun c43 hF=>?_) fun c43 hF=>?_
  ·refine wp_skip ?_
   cases hF
   exact (sl ⟨rfl,⟨ok,E.keep [2,4],(Nat.le_trans (qcf e34) l20),(Nat.le_trans (qcf e42) l20)⟩⟩)
  refine sg<|lw E (qap (ps:=[]) (qs:=[]) (cs:=[vb false,(vs ([])),(vs ([]))]) qb4 qbT rfl trivial rfl) fun a E=>qad E ok 1 rfl rfl rfl qbR rfl rfl ⟨rfl,rfl,rfl,trivial⟩ rfl rfl fun w ok=>aw E rfl fun a E=>wp_ret ?_
  have hret:qdr u m0 S ((Number2.mk false ([]) ([])),false) a w:=⟨m0,[vb false,(vs ([])),(vs ([]))],le_m0,ok.drop.drop,E.d,⟨rv_c (cs:=[vb false,(vs ([])),(vs ([]))]) E ok rfl qbn rfl (qae.own 1 rfl rfl),rv_t E rfl,trivial⟩,⟨rfl,(Nat.zero_le _),(Nat.zero_le _)⟩⟩
  cases hF
  exact (sr ⟨rfl,hret⟩)
 intro e a w hO
 rcases o35 with o35 | o35
 rotate_left
 ·obtain ⟨rfl,hret⟩:=hO
  refine qai ?_
  exact fin hF hret
 have hF:=qcb hF
 obtain ⟨rfl,ok,E,l44,l45⟩:=hO
 refine qab<|wp_seq<|sg<|fk E ok qcT qan rfl 0 rfl rfl fun a E=>fk E ok qdf qan rfl 0 rfl rfl fun a E=>bd hF fun s46 e47 hF=>lw E (qaT rfl rfl e47) fun a E=>bd hF fun r48 e49 hF=>lc E qnp rfl (qgk N s46 (qbP e47) e49 hG ok) fun w ok a E=>lw E (qbf rfl) fun a E=>mv E rfl fun a E=>bu E 54 hF (fun c50 hF E=>?_) fun c50 hF E=>?_
 ·refine lsz E fun a E=>pt E rfl rfl fun a E=>mv E rfl fun a E=>lsz E fun a E=>pt E rfl rfl fun a E=>mv E rfl fun a E=>lsz E fun a E=>?_
  refine lsz E fun a E=>lsq E fun a E=>pt E rfl rfl fun a E=>mv E rfl fun a E=>lsz E fun a E=>pt E rfl rfl fun a E=>mv E rfl fun a E=>lsq E fun a E=>?_
  refine lsz E fun a E=>lsz E fun a E=>pt E rfl rfl fun a E=>wn<|c_if E rfl (fun _=>?_) (fun h=>by cases h)
  refine sg<|lw E (qap (ps:=[]) (qs:=[]) (cs:=[vb false,(vs ([])),(vs ([]))]) qb4 qbT rfl trivial rfl) fun a E=>qad E ok 1 rfl rfl rfl qbR rfl rfl ⟨rfl,rfl,rfl,trivial⟩ rfl rfl fun w ok=>aw E rfl fun a E=>wp_ret<|qai ?_
  exact fin hF ⟨m0,[vb false,(vs ([])),(vs ([]))],le_m0,ok.drop.drop,E.d,⟨rv_c (cs:=[vb false,(vs ([])),(vs ([]))]) E ok rfl qbn rfl (qae.own 1 rfl rfl),rv_t E rfl,trivial⟩,⟨rfl,(Nat.zero_le _),(Nat.zero_le _)⟩⟩
 refine fk E ok qcT qan rfl 0 rfl rfl fun a E=>lw E (qaH Tryz.underlying9 rfl) fun a E=>lw E (qaQ rfl rfl) fun a E=>pf E rfl rfl fun a E=>mv E rfl fun a E=>bu E 60 hF (fun c51 hF E=>?_) fun c51 hF E=>?_
 ·refine lsz E fun a E=>pt E rfl rfl fun a E=>mv E rfl fun a E=>lsz E fun a E=>lsz E fun a E=>lsq E fun a E=>?_
  refine pt E rfl rfl fun a E=>mv E rfl fun a E=>lsz E fun a E=>pt E rfl rfl fun a E=>mv E rfl fun a E=>lsz E fun a E=>lsz E fun a E=>?_
  refine lsq E fun a E=>pt E rfl rfl fun a E=>wn<|c_if E rfl (fun _=>?_) (fun h=>by cases h)
  refine sg<|lw E (qap (ps:=[]) (qs:=[]) (cs:=[vb false,(vs ([])),(vs ([]))]) qb4 qbT rfl trivial rfl) fun a E=>qad E ok 1 rfl rfl rfl qbR rfl rfl ⟨rfl,rfl,rfl,trivial⟩ rfl rfl fun w ok=>aw E rfl fun a E=>wp_ret<|qai ?_
  exact fin hF ⟨m0,[vb false,(vs ([])),(vs ([]))],le_m0,ok.drop.drop,E.d,⟨rv_c (cs:=[vb false,(vs ([])),(vs ([]))]) E ok rfl qbn rfl (qae.own 1 rfl rfl),rv_t E rfl,trivial⟩,⟨rfl,(Nat.zero_le _),(Nat.zero_le _)⟩⟩
 refine fk E ok qcT qan rfl 0 rfl rfl fun a E=>lw E (qaH Tryz.underlying9 rfl) fun a E=>lw E (qby rfl rfl) fun a E=>pf E rfl rfl fun a E=>mv E rfl fun a E=>bu E 66 hF (fun c52 hF E=>?_) fun c52 hF E=>?_
 ·refine lsz E fun a E=>lsz E fun a E=>lsq E fun a E=>pt E rfl rfl fun a E=>mv E rfl fun a E=>lsz E fun a E=>?_
  refine pt E rfl rfl fun a E=>mv E rfl fun a E=>lsz E fun a E=>lsz E fun a E=>lsq E fun a E=>pt E rfl rfl fun a E=>wn<|c_if E rfl (fun _=>?_) (fun h=>by cases h)
  refine sg<|lw E (qap (ps:=[]) (qs:=[]) (cs:=[vb false,(vs ([])),(vs ([]))]) qb4 qbT rfl trivial rfl) fun a E=>qad E ok 1 rfl rfl rfl qbR rfl rfl ⟨rfl,rfl,rfl,trivial⟩ rfl rfl fun w ok=>aw E rfl fun a E=>wp_ret<|qai ?_
  exact fin hF ⟨m0,[vb false,(vs ([])),(vs ([]))],le_m0,ok.drop.drop,E.d,⟨rv_c (cs:=[vb false,(vs ([])),(vs ([]))]) E ok rfl qbn rfl (qae.own 1 rfl rfl),rv_t E rfl,trivial⟩,⟨rfl,(Nat.zero_le _),(Nat.zero_le _)⟩⟩
 refine fk E ok qcT qan rfl 0 rfl rfl fun a E=>lw E (qaH Tryz.underlying9 rfl) fun a E=>lw E (qby rfl rfl) fun a E=>mv E rfl fun a E=>bw E 71 hF (fun c53 hF E=>?_) fun c53 hF E=>?_
 ·as_aux_lemma =>
   refine lsz E fun a E=>pf E rfl rfl fun a E=>pf E rfl rfl fun a E=>mv E rfl fun a E=>fv E qdf rfl fun a E=>ld E ok qan 0 rfl rfl rfl fun a E=>lw E (qaH Tryz.underlying9 rfl) fun a E=>lw E (qby rfl rfl) fun a E=>pf E rfl rfl fun a E=>mv E rfl fun a E=>bu E 84 hF (fun c64 hF E=>?_) fun c64 hF E=>?_
   ·refine lsz E fun a E=>lsz E fun a E=>lsq E fun a E=>pt E rfl rfl fun a E=>wn<|c_if E rfl (fun _=>?_) (fun h=>by cases h)
    refine sg<|lw E (qap (ps:=[]) (qs:=[]) (cs:=[vb false,(vs ([])),(vs ([]))]) qb4 qbT rfl trivial rfl) fun a E=>qad E ok 1 rfl rfl rfl qbR rfl rfl ⟨rfl,rfl,rfl,trivial⟩ rfl rfl fun w ok=>aw E rfl fun a E=>wp_ret<|qai ?_
    exact fin hF ⟨m0,[vb false,(vs ([])),(vs ([]))],le_m0,ok.drop.drop,E.d,⟨rv_c (cs:=[vb false,(vs ([])),(vs ([]))]) E ok rfl qbn rfl (qae.own 1 rfl rfl),rv_t E rfl,trivial⟩,⟨rfl,(Nat.zero_le _),(Nat.zero_le _)⟩⟩
   refine fk E ok qhG qlH rfl 0 rfl rfl fun a E=>mv E rfl fun a E=>qbo o35.Neg (fun c65=>?_) (fun c65=>?_)
   rotate_left
   ·have hF:=qbl c65 hF
    have E:=E.upd 87 c65 rfl
    refine lsz E fun a E=>lsq E fun a E=>pf E rfl rfl fun a E=>pf E rfl rfl fun a E=>wn<|c_if E rfl (fun h=>by cases h) (fun _=>?_)
    refine wp_skip<|qab<|sg<|lv E ok (qat (cs:=[vb o35.Neg,vs o35.Whole,vs o35.Frac]) qbn rfl rfl (qae.own 0 rfl rfl)) fun a E=>qad E ok 1 rfl rfl rfl qbR rfl rfl ⟨rfl,rfl,rfl,trivial⟩ rfl rfl fun w ok=>av E rfl fun a E=>wn<|wp_ret ?_
    exact fin hF ⟨m0,[vb o35.Neg,vs o35.Whole,vs o35.Frac],le_m0,ok.drop.drop,E.d,⟨rv_c (cs:=[vb o35.Neg,vs o35.Whole,vs o35.Frac]) E ok rfl qbn rfl (qae.own 1 rfl rfl),rv_t E rfl,trivial⟩,⟨rfl,l44,l45⟩⟩
   have hF:=qbm c65 hF
   have E:=E.upd 87 c65 rfl
   refine fk E ok qcT qan rfl 0 rfl rfl fun a E=>fk E ok qdf qan rfl 0 rfl rfl fun a E=>bd hF fun s66 e67 hF=>lw E (qaT rfl rfl e67) fun a E=>bd hF fun r68 e69 hF=>lc E qkn rfl (qen N s66 (qbP e67) e69 hG ok) fun w ok a E=>pt E rfl rfl fun a E=>pf E rfl rfl fun a E=>wn<|cf E rfl hF (fun c70 hF=>?_) fun c70 hF=>?_
   ·refine sg<|lw E (qap (ps:=[]) (qs:=[]) (cs:=[vb false,(vs ([])),(vs ([]))]) qb4 qbT rfl trivial rfl) fun a E=>qad E ok 1 rfl rfl rfl qbR rfl rfl ⟨rfl,rfl,rfl,trivial⟩ rfl rfl fun w ok=>aw E rfl fun a E=>wp_ret<|qai ?_
    exact fin hF ⟨m0,[vb false,(vs ([])),(vs ([]))],le_m0,ok.drop.drop,E.d,⟨rv_c (cs:=[vb false,(vs ([])),(vs ([]))]) E ok rfl qbn rfl (qae.own 1 rfl rfl),rv_t E rfl,trivial⟩,⟨rfl,(Nat.zero_le _),(Nat.zero_le _)⟩⟩
   refine wp_skip<|qab<|sg<|lv E ok (qat (cs:=[vb o35.Neg,vs o35.Whole,vs o35.Frac]) qbn rfl rfl (qae.own 0 rfl rfl)) fun a E=>qad E ok 1 rfl rfl rfl qbR rfl rfl ⟨rfl,rfl,rfl,trivial⟩ rfl rfl fun w ok=>av E rfl fun a E=>wn<|wp_ret ?_
   exact fin hF ⟨m0,[vb o35.Neg,vs o35.Whole,vs o35.Frac],le_m0,ok.drop.drop,E.d,⟨rv_c (cs:=[vb o35.Neg,vs o35.Whole,vs o35.Frac]) E ok rfl qbn rfl (qae.own 1 rfl rfl),rv_t E rfl,trivial⟩,⟨rfl,l44,l45⟩⟩
 refine fk E ok qcT qan rfl 0 rfl rfl fun a E=>bd hF fun c54 e55 hF=>lv E ok (qaF Tryz.underlying9 rfl rfl e55) fun a E=>lw E (qal rfl rfl) fun a E=>pt E rfl rfl fun a E=>pf E rfl rfl fun a E=>mv E rfl fun a E=>bu E 78 hF (fun c56 hF E=>?_) fun c56 hF E=>?_
 ·refine lsz E fun a E=>pt E rfl rfl fun a E=>mv E rfl fun a E=>lsz E fun a E=>lsz E fun a E=>lsq E fun a E=>?_
  refine pt E rfl rfl fun a E=>wn<|c_if E rfl (fun _=>?_) (fun h=>by cases h)
  refine sg<|lw E (qap (ps:=[]) (qs:=[]) (cs:=[vb false,(vs ([])),(vs ([]))]) qb4 qbT rfl trivial rfl) fun a E=>qad E ok 1 rfl rfl rfl qbR rfl rfl ⟨rfl,rfl,rfl,trivial⟩ rfl rfl fun w ok=>aw E rfl fun a E=>wp_ret<|qai ?_
  exact fin hF ⟨m0,[vb false,(vs ([])),(vs ([]))],le_m0,ok.drop.drop,E.d,⟨rv_c (cs:=[vb false,(vs ([])),(vs ([]))]) E ok rfl qbn rfl (qae.own 1 rfl rfl),rv_t E rfl,trivial⟩,⟨rfl,(Nat.zero_le _),(Nat.zero_le _)⟩⟩
 refine fk E ok qdf qan rfl 0 rfl rfl fun a E=>lw E (qaH Tryz.underlying9 rfl) fun a E=>lw E (qby rfl rfl) fun a E=>pf E rfl rfl fun a E=>mv E rfl fun a E=>bu E 84 hF (fun c57 hF E=>?_) fun c57 hF E=>?_
 ·refine lsz E fun a E=>lsz E fun a E=>lsq E fun a E=>pt E rfl rfl fun a E=>wn<|c_if E rfl (fun _=>?_) (fun h=>by cases h)
  refine sg<|lw E (qap (ps:=[]) (qs:=[]) (cs:=[vb false,(vs ([])),(vs ([]))]) qb4 qbT rfl trivial rfl) fun a E=>qad E ok 1 rfl rfl rfl qbR rfl rfl ⟨rfl,rfl,rfl,trivial⟩ rfl rfl fun w ok=>aw E rfl fun a E=>wp_ret<|qai ?_
  exact fin hF ⟨m0,[vb false,(vs ([])),(vs ([]))],le_m0,ok.drop.drop,E.d,⟨rv_c (cs:=[vb false,(vs ([])),(vs ([]))]) E ok rfl qbn rfl (qae.own 1 rfl rfl),rv_t E rfl,trivial⟩,⟨rfl,(Nat.zero_le _),(Nat.zero_le _)⟩⟩
 refine fk E ok qhG qlH rfl 0 rfl rfl fun a E=>mv E rfl fun a E=>qbo o35.Neg (fun c58=>?_) (fun c58=>?_)
 rotate_left
 ·have hF:=qbl c58 hF
  have E:=E.upd 87 c58 rfl
  refine lsz E fun a E=>lsq E fun a E=>pf E rfl rfl fun a E=>pf E rfl rfl fun a E=>wn<|c_if E rfl (fun h=>by cases h) (fun _=>?_)
  refine wp_skip<|qab<|sg<|lv E ok (qat (cs:=[vb o35.Neg,vs o35.Whole,vs o35.Frac]) qbn rfl rfl (qae.own 0 rfl rfl)) fun a E=>qad E ok 1 rfl rfl rfl qbR rfl rfl ⟨rfl,rfl,rfl,trivial⟩ rfl rfl fun w ok=>av E rfl fun a E=>wn<|wp_ret ?_
  exact fin hF ⟨m0,[vb o35.Neg,vs o35.Whole,vs o35.Frac],le_m0,ok.drop.drop,E.d,⟨rv_c (cs:=[vb o35.Neg,vs o35.Whole,vs o35.Frac]) E ok rfl qbn rfl (qae.own 1 rfl rfl),rv_t E rfl,trivial⟩,⟨rfl,l44,l45⟩⟩
 have hF:=qbm c58 hF
 have E:=E.upd 87 c58 rfl
 refine fk E ok qcT qan rfl 0 rfl rfl fun a E=>fk E ok qdf qan rfl 0 rfl rfl fun a E=>bd hF fun s59 e60 hF=>lw E (qaT rfl rfl e60) fun a E=>bd hF fun r61 e62 hF=>lc E qkn rfl (qen N s59 (qbP e60) e62 hG ok) fun w ok a E=>pt E rfl rfl fun a E=>pf E rfl rfl fun a E=>wn<|cf E rfl hF (fun c63 hF=>?_) fun c63 hF=>?_
 ·refine sg<|lw E (qap (ps:=[]) (qs:=[]) (cs:=[vb false,(vs ([])),(vs ([]))]) qb4 qbT rfl trivial rfl) fun a E=>qad E ok 1 rfl rfl rfl qbR rfl rfl ⟨rfl,rfl,rfl,trivial⟩ rfl rfl fun w ok=>aw E rfl fun a E=>wp_ret<|qai ?_
  exact fin hF ⟨m0,[vb false,(vs ([])),(vs ([]))],le_m0,ok.drop.drop,E.d,⟨rv_c (cs:=[vb false,(vs ([])),(vs ([]))]) E ok rfl qbn rfl (qae.own 1 rfl rfl),rv_t E rfl,trivial⟩,⟨rfl,(Nat.zero_le _),(Nat.zero_le _)⟩⟩
 refine wp_skip<|qab<|sg<|lv E ok (qat (cs:=[vb o35.Neg,vs o35.Whole,vs o35.Frac]) qbn rfl rfl (qae.own 0 rfl rfl)) fun a E=>qad E ok 1 rfl rfl rfl qbR rfl rfl ⟨rfl,rfl,rfl,trivial⟩ rfl rfl fun w ok=>av E rfl fun a E=>wn<|wp_ret ?_
 exact fin hF ⟨m0,[vb o35.Neg,vs o35.Whole,vs o35.Frac],le_m0,ok.drop.drop,E.d,⟨rv_c (cs:=[vb o35.Neg,vs o35.Whole,vs o35.Frac]) E ok rfl qbn rfl (qae.own 1 rfl rfl),rv_t E rfl,trivial⟩,⟨rfl,l44,l45⟩⟩
def qjh (u:World) (m0:Mem) (S:Segs) (r:Bool) (a:Act) (w:World):Prop :=
 Ok u m0 S w ∧ a.defers = [] ∧ RVs Tryz.prog a w [.t 2 (.bool r)]
theorem qjf (N:Nat) (s_0:List UInt8) (ls_0:s_0.length ≤ LIMS) {r:Bool} (hF:qfN N s_0 = some r) (hG:Glob u) (ok:Ok u m0 S w) :
  Calls Tryz.prog 78 [vs s_0].toArray w fun e w'=>(e = .returned (.bool r) ∧ Ok u m0 S w'):=by
 have hb0:=ok.base
 have le_m0:=Mem.le.refl m0
 unfold qfN at hF
 refine en (qjh u m0 S) r Tryz.func78 rfl rfl rfl (fun _ _ h=>ra h rfl) fun fin a E=>sg<|aw E rfl fun a E=>sg<|mv E rfl fun a E=>bd hF fun r1 e2 hF=>qaf E qpD rfl (qjd N s_0 ls_0 e2 hG ok) rfl rfl ?_
 rintro _ w ⟨m3,vs4,rfl,hle,ok,h5⟩
 have le_m0:=le_m0.trans hle
 obtain ⟨rfl,l6,l7⟩:=h5
 refine ⟨_,rfl,fun a E=>?_⟩
 refine mv E rfl fun a E=>lw E (qaZ rfl rfl) fun a E=>lw E (qaZ rfl rfl) fun a E=>qa4 E ok qb4 rfl rfl fun b8 a w E ok=>qad E ok 0 rfl rfl rfl qbR rfl rfl ⟨rfl,rfl,rfl,trivial⟩ rfl rfl fun w ok=>aw E rfl fun a E=>sg<|mv E rfl fun a E=>aw E rfl fun a E=>wp_ret ?_
 exact fin hF ⟨(ok.drop).down hb0 le_m0,E.d,rz E rfl⟩
def qj3 (u:World) (m0:Mem) (S:Segs) (r:Bool) (a:Act) (w:World):Prop :=
 Ok u m0 S w ∧ a.defers = [] ∧ RVs Tryz.prog a w [.t 4 (.bool r)]
theorem qdh (N:Nat) (kind_0:Int) (rkind_0:InR .i64 kind_0) (s_1:List UInt8) (ls_1:s_1.length ≤ LIMS) {r:Bool} (hF:qcU N kind_0 s_1 = some r) (hG:Glob u) (ok:Ok u m0 S w) :
  Calls Tryz.prog 60 [vi kind_0,vs s_1].toArray w fun e w'=>(e = .returned (.bool r) ∧ Ok u m0 S w'):=by
 unfold qcU at hF
 refine en (qj3 u m0 S) r Tryz.func60 rfl rfl rfl (fun _ _ h=>ra h rfl) fun fin a E=>sg<|aw E rfl fun a E=>wp_seq<|sg<|mv E rfl fun a E=>lw E (qal rfl rfl) fun a E=>wn<|cf E rfl hF (fun c1 hF=>?_) fun c1 hF=>?_
 ·refine sg<|mv E rfl fun a E=>bd hF fun r2 e3 hF=>lc E qeX rfl (qbc N s_1 ls_1 e3 hG ok) fun w ok a E=>aw E rfl fun a E=>wp_ret<|qai ?_
  exact fin hF ⟨ok,E.d,rz E rfl⟩
 refine wp_skip<|qab<|sg<|mv E rfl fun a E=>bd hF fun r4 e5 hF=>lc E qqD rfl (qiZ N s_1 ls_1 e5 hG ok) fun w ok a E=>mv E rfl fun a E=>qbo r4 (fun c6=>?_) (fun c6=>?_)
 ·have hF:=qbm c6 hF
  have E:=E.upd 11 c6 rfl
  refine lsz E fun a E=>lsz E fun a E=>lsz E fun a E=>ls E fun a E=>pt E rfl rfl fun a E=>av E rfl fun a E=>wn<|wp_ret ?_
  exact fin hF ⟨ok,E.d,rz E rfl⟩
 have hF:=qbl c6 hF
 have E:=E.upd 11 c6 rfl
 refine mv E rfl fun a E=>lw E (qaH Tryz.underlying9 rfl) fun a E=>lw E (qby rfl rfl) fun a E=>mv E rfl fun a E=>bw E 15 hF (fun c7 hF E=>?_) fun c7 hF E=>?_
 ·refine lsq E fun a E=>ls E fun a E=>pf E rfl rfl fun a E=>mv E rfl fun a E=>lsq E fun a E=>ls E fun a E=>pf E rfl rfl fun a E=>pf E rfl rfl fun a E=>aw E rfl fun a E=>wp_ret ?_
  exact fin hF ⟨ok,E.d,rz E rfl⟩
 refine mv E rfl fun a E=>bd hF fun c8 e9 hF=>lv E ok (qaF Tryz.underlying9 rfl rfl e9) fun a E=>lw E (qal rfl rfl) fun a E=>pt E rfl rfl fun a E=>mv E rfl fun a E=>bw E 20 hF (fun c10 hF E=>?_) fun c10 hF E=>?_
 ·refine lsq E fun a E=>ls E fun a E=>pf E rfl rfl fun a E=>pf E rfl rfl fun a E=>aw E rfl fun a E=>wp_ret ?_
  exact fin hF ⟨ok,E.d,rz E rfl⟩
 refine mv E rfl fun a E=>bd hF fun s11 e12 hF=>lw E (qdc Tryz.underlying9 e12 rfl ⟨_,rfl⟩ rfl) fun a E=>bd hF fun r13 e14 hF=>lc E qqt rfl (qjf N s11 (Nat.le_trans (qcf e12) ls_1) e14 hG ok) fun w ok a E=>pt E rfl rfl fun a E=>pf E rfl rfl fun a E=>aw E rfl fun a E=>wp_ret ?_
 exact fin hF ⟨ok,E.d,rz E rfl⟩
def qfT (u:World) (m0:Mem) (S:Segs) (r:Bool) (a:Act) (w:World):Prop :=
 Ok u m0 S w ∧ a.defers = [] ∧ RVs Tryz.prog a w [.t 2 (.bool r)]
theorem qdB (N:Nat) (s_0:List UInt8) (ls_0:s_0.length ≤ LIMS) {r:Bool} (hF:qcO N s_0 = some r) (hG:Glob u) (ok:Ok u m0 S w) :
  Calls Tryz.prog 79 [vs s_0].toArray w fun e w'=>(e = .returned (.bool r) ∧ Ok u m0 S w'):=by
 unfold qcO at hF
 refine en (qfT u m0 S) r Tryz.func79 rfl rfl rfl (fun _ _ h=>ra h rfl) fun fin a E=>sg<|aw E rfl fun a E=>wp_seq<|sg<|aw E rfl fun a E=>wp_block<|bd hF fun o2 hL hF=>qbb _ (fun (s:Int) a w=>Ok u m0 (S) w ∧ Env 37 a [(0,vs s_0),(3,vi s)] ∧ InR .i64 s) (fun (b:(Unit ⊕ Bool)) e a w=>(Sum.elim (fun b16=>e = (.exit 0) ∧ Ok u m0 (S) w ∧ Env 37 a [(0,vs s_0)]) (fun b17=>e = .ret ∧ qfT u m0 S b17 a w)) b) ?_ ?_ N _ a w hL ⟨ok,E.keep [0,3],(ir 0)⟩
 rotate_left
 ·intro e a w _ hO
  rcases o2 with o2 | o2
  rotate_left
  ·obtain ⟨rfl,hret⟩:=hO
   refine qaB<|qai ?_
   exact fin hF hret
  have hF:=qcb hF
  obtain ⟨rfl,ok,E⟩:=hO
  refine qbh<|qab<|sg<|mv E rfl fun a E=>lw E (qaH Tryz.underlying9 rfl) fun a E=>lw E (qbF rfl rfl) fun a E=>mv E rfl fun a E=>bu E 32 hF (fun c15 hF E=>?_) fun c15 hF E=>?_
  ·refine mv E rfl fun a E=>lw E (qaH Tryz.underlying9 rfl) fun a E=>lw E (qcE rfl rfl) fun a E=>pt E rfl rfl fun a E=>aw E rfl fun a E=>wp_ret ?_
   exact fin hF ⟨ok,E.d,rz E rfl⟩
  refine lsq E fun a E=>ls E fun a E=>pf E rfl rfl fun a E=>aw E rfl fun a E=>wp_ret ?_
  exact fin hF ⟨ok,E.d,rz E rfl⟩
 rintro v4 a w r ⟨ok,E,r5⟩ hF
 replace hF:qed N s_0 v4 = some r:=hF
 unfold qed at hF
 refine wp_seq<|sg<|mz E rfl rfl fun a E=>lw E (qaH Tryz.underlying9 rfl) fun a E=>lw E (qaQ rfl rfl) fun a E=>wn<|cg E rfl hF (fun c6 hF=>?_) fun c6 hF=>?_
 ·refine wp_exit<|qaV ?_
  cases hF
  exact so (sl ⟨rfl,⟨ok,E.keep [0]⟩⟩)
 refine wp_skip<|qab<|wp_seq<|wp_block<|sg<|mz E rfl rfl fun a E=>bd hF fun c7 e8 hF=>lv E ok (qaF Tryz.underlying9 rfl rfl e8) fun a E=>aw E rfl fun a E=>wp_seq<|bd hF fun o9 hJ hF=>qaJ (Q':=fun e a w=>e = .normal ∧ Ok u m0 (S) w ∧ Env 37 a [(0,vs s_0),(3,vi v4),(28,vb o9)]) ?_ ?_
 rotate_left
 ·intro e a w hO
  obtain ⟨rfl,ok,E⟩:=hO
  refine qab<|cg E rfl hF (fun c14 hF=>?_) fun c14 hF=>?_
  ·refine wp_skip<|qag<|qab<|qac<|mv E rfl fun a E=>lw E (qaG rfl rfl (InR.inc r5 (InR.len ls_0) c6)) fun a E=>av E rfl fun a E=>wpList_nil ?_
   cases hF
   exact qau ⟨ok,E.keep [0,3],(InR.inc r5 (InR.len ls_0) c6)⟩
  refine sg<|aw E rfl fun a E=>wp_ret<|qaB<|qai ?_
  cases hF
  exact so (sr ⟨rfl,⟨ok,E.d,rz E rfl⟩⟩)
 have hF:=hJ
 refine qac<|mv E rfl fun a E=>lw E (qbF rfl rfl) fun a E=>mv E rfl fun a E=>bw E 16 hF (fun c10 hF E=>?_) fun c10 hF E=>?_
 ·refine lsq E fun a E=>pf E rfl rfl fun a E=>mz E rfl rfl fun a E=>lw E (qbF rfl rfl) fun a E=>mv E rfl fun a E=>bu E 23 hF (fun c13 hF E=>?_) fun c13 hF E=>?_
  ·refine mv E rfl fun a E=>lw E (qcE rfl rfl) fun a E=>pt E rfl rfl fun a E=>pf E rfl rfl fun a E=>lw E (qbf rfl) fun a E=>wpList_nil ?_
   cases hF
   exact ⟨rfl,⟨ok,E.keep [0,3,28]⟩⟩
  refine lsq E fun a E=>pf E rfl rfl fun a E=>pf E rfl rfl fun a E=>lw E (qbf rfl) fun a E=>wpList_nil ?_
  cases hF
  exact ⟨rfl,⟨ok,E.keep [0,3,28]⟩⟩
 refine mv E rfl fun a E=>lw E (qcE rfl rfl) fun a E=>pt E rfl rfl fun a E=>mv E rfl fun a E=>bu E 20 hF (fun c11 hF E=>?_) fun c11 hF E=>?_
 ·refine lsz E fun a E=>lsq E fun a E=>pt E rfl rfl fun a E=>lw E (qbf rfl) fun a E=>wpList_nil ?_
  cases hF
  exact ⟨rfl,⟨ok,E.keep [0,3,28]⟩⟩
 refine mv E rfl fun a E=>lw E (qbF rfl rfl) fun a E=>mv E rfl fun a E=>bu E 23 hF (fun c12 hF E=>?_) fun c12 hF E=>?_
 ·refine mv E rfl fun a E=>lw E (qcE rfl rfl) fun a E=>pt E rfl rfl fun a E=>pf E rfl rfl fun a E=>lw E (qbf rfl) fun a E=>wpList_nil ?_
  cases hF
  exact ⟨rfl,⟨ok,E.keep [0,3,28]⟩⟩
 refine lsq E fun a E=>pf E rfl rfl fun a E=>pf E rfl rfl fun a E=>lw E (qbf rfl) fun a E=>wpList_nil ?_
 cases hF
 exact ⟨rfl,⟨ok,E.keep [0,3,28]⟩⟩
end Go.Proofs.YtllnjbnknjpbjaaGreatDoor
namespace Go.Proofs.YtllnjbnknjpbjaaGreatDoor
open Go.X
variable {u:World} {m0:Mem} {S:Segs} {w:World}
set_option maxHeartbeats 4000000
set_option maxRecDepth 100000
def qiC (u:World) (m0:Mem) (S:Segs) (r:Bool) (a:Act) (w:World):Prop :=
 Ok u m0 S w ∧ a.defers = [] ∧ RVs Tryz.prog a w [.t 2 (.bool r)]
theorem qbH (N:Nat) (c_0:Int) (rc_0:InR .u8 c_0) {r:Bool} (hF:qbv N c_0 = some r) (hG:Glob u) (ok:Ok u m0 S w) :
  Calls Tryz.prog 80 [Value.int .u8 c_0].toArray w fun e w'=>(e = .returned (.bool r) ∧ Ok u m0 S w'):=by
 unfold qbv at hF
 refine en (qiC u m0 S) r Tryz.func80 rfl rfl rfl (fun _ _ h=>ra h rfl) fun fin a E=>sg<|aw E rfl fun a E=>sg<|mv E rfl fun a E=>lw E (qal rfl rfl) fun a E=>mv E rfl fun a E=>bu E 5 hF (fun c1 hF E=>?_) fun c1 hF E=>?_
 ·refine lsq E fun a E=>pt E rfl rfl fun a E=>mv E rfl fun a E=>lsq E fun a E=>pt E rfl rfl fun a E=>mv E rfl fun a E=>lsq E fun a E=>pt E rfl rfl fun a E=>mv E rfl fun a E=>lsq E fun a E=>pt E rfl rfl fun a E=>mv E rfl fun a E=>?_
  refine lsq E fun a E=>pt E rfl rfl fun a E=>aw E rfl fun a E=>wp_ret ?_
  exact fin hF ⟨ok,E.d,rz E rfl⟩
 refine mv E rfl fun a E=>lw E (qal rfl rfl) fun a E=>pf E rfl rfl fun a E=>mv E rfl fun a E=>bu E 9 hF (fun c2 hF E=>?_) fun c2 hF E=>?_
 ·refine lsq E fun a E=>pt E rfl rfl fun a E=>mv E rfl fun a E=>lsq E fun a E=>pt E rfl rfl fun a E=>mv E rfl fun a E=>lsq E fun a E=>pt E rfl rfl fun a E=>mv E rfl fun a E=>lsq E fun a E=>pt E rfl rfl fun a E=>av E rfl fun a E=>?_
  refine wn<|wp_ret ?_
  exact fin hF ⟨ok,E.d,rz E rfl⟩
 refine mv E rfl fun a E=>lw E (qal rfl rfl) fun a E=>pf E rfl rfl fun a E=>mv E rfl fun a E=>bu E 13 hF (fun c3 hF E=>?_) fun c3 hF E=>?_
 ·refine lsq E fun a E=>pt E rfl rfl fun a E=>mv E rfl fun a E=>lsq E fun a E=>pt E rfl rfl fun a E=>mv E rfl fun a E=>lsq E fun a E=>pt E rfl rfl fun a E=>aw E rfl fun a E=>wp_ret ?_
  exact fin hF ⟨ok,E.d,rz E rfl⟩
 refine mv E rfl fun a E=>lw E (qal rfl rfl) fun a E=>pf E rfl rfl fun a E=>mv E rfl fun a E=>bu E 17 hF (fun c4 hF E=>?_) fun c4 hF E=>?_
 ·refine lsq E fun a E=>pt E rfl rfl fun a E=>mv E rfl fun a E=>lsq E fun a E=>pt E rfl rfl fun a E=>av E rfl fun a E=>wn<|wp_ret ?_
  exact fin hF ⟨ok,E.d,rz E rfl⟩
 refine mv E rfl fun a E=>lw E (qal rfl rfl) fun a E=>pf E rfl rfl fun a E=>mv E rfl fun a E=>bu E 21 hF (fun c5 hF E=>?_) fun c5 hF E=>?_
 ·refine lsq E fun a E=>pt E rfl rfl fun a E=>aw E rfl fun a E=>wp_ret ?_
  exact fin hF ⟨ok,E.d,rz E rfl⟩
 refine mv E rfl fun a E=>lw E (qal rfl rfl) fun a E=>pf E rfl rfl fun a E=>aw E rfl fun a E=>wp_ret ?_
 exact fin hF ⟨ok,E.d,rz E rfl⟩
def qiI (u:World) (m0:Mem) (S:Segs) (r:(List UInt8)) (a:Act) (w:World):Prop :=
 Ok u m0 S w ∧ a.defers = [] ∧ RVs Tryz.prog a w [.t 2 (.string (bs r))] ∧ r.length ≤ LIMS
theorem qiW (N:Nat) (s_0:List UInt8) (ls_0:s_0.length ≤ LIMS) {r:(List UInt8)} (hF:qfr N s_0 = some r) (hG:Glob u) (ok:Ok u m0 S w) :
  Calls Tryz.prog 62 [vs s_0].toArray w fun e w'=>(e = .returned (.string (bs r)) ∧ Ok u m0 S w') ∧ r.length ≤ LIMS:=by
 unfold qfr at hF
 refine en (qiI u m0 S) r Tryz.func62 rfl rfl rfl (fun _ _ h=>rb h rfl) fun fin a E=>sg<|aw E rfl fun a E=>sg<|aw E rfl fun a E=>wp_seq<|sg<|av E rfl fun a E=>wn<|wp_block ?_
 obtain ⟨M6,ok,h7⟩:=qew (e:=5) (k:=1) (R:=(pI .u8)) ok
 refine bd hF fun o8 hL hF=>qbb _ (fun (s:(List (Int)) × Int) a w=>∃ c9 M10,Ok u m0 (M10 :: S) w ∧ Env 26 a [(0,vs s_0),(3,c9),(4,vi s.2)] ∧ ORow 5 1 (pI .u8) m0 c9 s.1 M10 ∧ InR .i64 s.2) (fun (b:((List (Int)))) e a w=>e = (.exit 0) ∧ ∃ c53 M54,Ok u m0 (M54 :: S) w ∧ Env 26 a [(3,c53)] ∧ ORow 5 1 (pI .u8) m0 c53 b M54) ?_ ?_ N _ a w hL ⟨(Value.slice none 0 0),M6,ok,E.keep [0,3,4],h7,(ir 0)⟩
 rotate_left
 ·intro e a w _ hO
  obtain ⟨rfl,c50,M51,ok,E,h52⟩:=hO
  refine qbh<|qab<|sg<|mv E rfl fun a E=>lv E ok (qit Tryz.underlying66 Tryz.underlying5 Tryz.underlying9 rfl (BR.ofRow h52 0 rfl)) fun a E=>av E rfl fun a E=>wn<|wp_ret ?_
  exact fin hF ⟨ok.drop,E.d,rz E rfl,(Nat.le_trans (Nat.le_of_eq qdy) h52.form.2)⟩
 rintro ⟨v13,v14⟩ a w r ⟨c15,M16,ok,E,h17,r18⟩ hF
 replace hF:qeB N s_0 v13 v14 = some r:=hF
 unfold qeB at hF
 refine wp_seq<|sg<|mz E rfl rfl fun a E=>lw E (qaH Tryz.underlying9 rfl) fun a E=>lw E (qaQ rfl rfl) fun a E=>wn<|cg E rfl hF (fun c19 hF=>?_) fun c19 hF=>?_
 ·refine wp_exit<|qaV ?_
  cases hF
  exact so (⟨rfl,⟨c15,M16,ok,E.keep [3],h17⟩⟩)
 refine wp_skip<|qab<|wp_seq<|wp_block<|wp_seq<|sg<|mv E rfl fun a E=>mv E rfl fun a E=>bd hF fun c20 e21 hF=>lv E ok (qaF Tryz.underlying9 rfl rfl e21) fun a E=>bd hF fun r22 e23 hF=>lc E qhl rfl (qbH N (c20.toNat:Int) (InR.byte c20) e23 hG ok) fun w ok a E=>wn<|bd hF fun o24 hJ hF=>qaJ (Q':=fun e a w=>e = .normal ∧ ∃ c25 M26,Ok u m0 (M26 :: S) w ∧ Env 26 a [(0,vs s_0),(3,c25),(4,vi v14)] ∧ ORow 5 1 (pI .u8) m0 c25 o24 M26) ?_ ?_
 ·have hF:=hJ
  refine cg E rfl hF (fun c28 hF=>?_) fun c28 hF=>?_
  ·refine wp_skip ?_
   cases hF
   exact ⟨rfl,⟨c15,M16,ok,E.keep [0,3,4],h17⟩⟩
  refine qac<|mv E rfl fun a E=>qbx (R:=(pI .u8)) (xo:=[.const (Value.int .u8 92)]) (xs:=([92]:List (Int))) E ok qet qdE rfl ⟨⟨_,rfl,rfl,(qdC (show InR .u8 (92) by decide))⟩,trivial⟩ rfl rfl rfl rfl fun c29 M30 a w E ok h31=>bd hF fun l32 e33 hF=>qcv (R:=(pI .u8)) E ok 1 (mI .u8) qet Tryz.underlying66 rfl h17 (qbz.ofRow h31 0 rfl ok) e33 ⟨_,qdE,rfl⟩ rfl rfl rfl rfl fun c34 M35 a w E ok h36=>av E rfl fun a E=>wpList_nil ?_
  cases hF
  exact ⟨rfl,⟨c34,M35,(ok.pk 2 [1] rfl (by decide)),E.keep [0,3,4],h36⟩⟩
 intro e a w hO
 obtain ⟨rfl,c37,M38,ok,E,h39⟩:=hO
 refine qab<|qac<|mz E rfl rfl fun a E=>mv E rfl fun a E=>bd hF fun c40 e41 hF=>lv E ok (qaF Tryz.underlying9 rfl rfl e41) fun a E=>qbx (R:=(pI .u8)) (xo:=[.tmp 21]) (xs:=([(c40.toNat:Int)]:List (Int))) E ok qet qdE rfl ⟨⟨_,rfl,rfl,(qdC (InR.byte c40))⟩,trivial⟩ rfl rfl rfl rfl fun c42 M43 a w E ok h44=>bd hF fun l45 e46 hF=>qcv (R:=(pI .u8)) E ok 1 (mI .u8) qet Tryz.underlying66 rfl h39 (qbz.ofRow h44 0 rfl ok) e46 ⟨_,qdE,rfl⟩ rfl rfl rfl rfl fun c47 M48 a w E ok h49=>av E rfl fun a E=>wpList_nil<|qag<|qab<|qac<|mv E rfl fun a E=>lw E (qaG rfl rfl (InR.inc r18 (InR.len ls_0) c19)) fun a E=>av E rfl fun a E=>wpList_nil ?_
 cases hF
 exact qau ⟨c47,M48,(ok.pk 2 [1] rfl (by decide)),E.keep [0,3,4],h49,(InR.inc r18 (InR.len ls_0) c19)⟩
end Go.Proofs.YtllnjbnknjpbjaaGreatDoor
namespace Go.Proofs.YtllnjbnknjpbjaaGreatDoor
open Go.X
variable {u:World} {m0:Mem} {S:Segs} {w:World}
set_option maxHeartbeats 4000000
set_option maxRecDepth 100000
def qjI (u:World) (m0:Mem) (S:Segs) (r:(List UInt8)) (a:Act) (w:World):Prop :=
 Ok u m0 S w ∧ a.defers = [] ∧ RVs Tryz.prog a w [.t 4 (.string (bs r))] ∧ r.length ≤ LIMS
def qel (N:Nat):Prop:=∀ {u:World} {m0:Mem} {S:Segs} {w:World} (vparts_0:Value) (parts_0:List (Part)) (hparts_0:(pL 6 qa0) m0 [vparts_0] parts_0) (gap_1:List UInt8) (lgap_1:gap_1.length ≤ LIMS) {r:(List UInt8)} (hF:qcJ N parts_0 gap_1 = some r) (hG:Glob u) (ok:Ok u m0 S w),Calls Tryz.prog 47 [vparts_0,vs gap_1].toArray w fun e w'=>(e = .returned (.string (bs r)) ∧ Ok u m0 S w') ∧ r.length ≤ LIMS
theorem qix (N:Nat) (ih_calqueref26_Text:qel N):qel (N + 1):=by
 intro u m0 S w vparts_0 parts_0 hparts_0 gap_1 lgap_1 r hF hG ok
 have hF0:qeD (qcJ N) N parts_0 gap_1 = some r:=hF
 have hF:=hF0
 clear hF0
 unfold qeD at hF
 refine en (qjI u m0 S) r Tryz.func47 rfl rfl rfl (fun _ _ h=>rb h rfl) fun fin a E=>sg<|aw E rfl fun a E=>sg<|aw E rfl fun a E=>sg<|qbx (R:=pS) (xo:=[.const (vs ([110,117,109,98,101,114])),.const (vs ([117,110,105,116])),.const (vs ([100,97,116,101])),.const (vs ([108,105,115,116])),.const (vs ([112,108,117,114,97,108])),.const (vs ([111,114,100,105,110,97,108])),.const (vs ([115,101,108,101,99,116]))]) (xs:=([[110,117,109,98,101,114],[117,110,105,116],[100,97,116,101],[108,105,115,116],[112,108,117,114,97,108],[111,114,100,105,110,97,108],[115,101,108,101,99,116]]:List (List UInt8))) E ok qb3 qdW rfl ⟨⟨_,rfl,rfl,(qcV (show ([110,117,109,98,101,114]:List UInt8).length ≤ LIMS by decide))⟩,⟨_,rfl,rfl,(qcV (show ([117,110,105,116]:List UInt8).length ≤ LIMS by decide))⟩,⟨_,rfl,rfl,(qcV (show ([100,97,116,101]:List UInt8).length ≤ LIMS by decide))⟩,⟨_,rfl,rfl,(qcV (show ([108,105,115,116]:List UInt8).length ≤ LIMS by decide))⟩,⟨_,rfl,rfl,(qcV (show ([112,108,117,114,97,108]:List UInt8).length ≤ LIMS by decide))⟩,⟨_,rfl,rfl,(qcV (show ([111,114,100,105,110,97,108]:List UInt8).length ≤ LIMS by decide))⟩,⟨_,rfl,rfl,(qcV (show ([115,101,108,101,99,116]:List UInt8).length ≤ LIMS by decide))⟩,trivial⟩ rfl rfl rfl rfl fun c1 M2 a w E ok h3=>av E rfl fun a E=>wn<|wp_seq<|sg<|aw E rfl fun a E=>wp_block<|bd hF fun o6 hL hF=>qbb _ (fun (s:(List UInt8) × Int) a w=>Ok u m0 (M2 :: S) w ∧ Env 154 a [(0,vparts_0),(1,vs gap_1),(5,vs s.1),(6,c1),(7,vi s.2)] ∧ s.1.length ≤ LIMS ∧ InR .i64 s.2) (fun (b:((List UInt8))) e a w=>e = (.exit 0) ∧ Ok u m0 (M2 :: S) w ∧ Env 154 a [(5,vs b)] ∧ b.length ≤ LIMS) ?_ ?_ N _ a w hL ⟨ok,E.keep [0,1,5,6,7],(show ([]:List UInt8).length ≤ LIMS by decide),(ir 0)⟩
 rotate_left
 ·intro e a w _ hO
  obtain ⟨rfl,ok,E,l287⟩:=hO
  refine qbh<|qab<|sg<|mv E rfl fun a E=>aw E rfl fun a E=>wp_ret ?_
  exact fin hF ⟨ok.drop,E.d,rz E rfl,l287⟩
 rintro ⟨v9,v10⟩ a w r ⟨ok,E,l11,r12⟩ hF
 replace hF:qe2 (qcJ N) N parts_0 gap_1 v9 v10 = some r:=hF
 unfold qe2 at hF
 refine wp_seq<|sg<|mz E rfl rfl fun a E=>lv E ok (qbe qbi hparts_0 rfl) fun a E=>lw E (qaQ rfl rfl) fun a E=>wn<|cg E rfl hF (fun c13 hF=>?_) fun c13 hF=>?_
 ·refine wp_exit<|qaV ?_
  cases hF
  exact so (⟨rfl,⟨ok,E.keep [5],l11⟩⟩)
 refine wp_skip<|qab<|wp_seq<|wp_block<|sg<|mz E rfl rfl fun a E=>?_
 obtain ⟨x14,e15,hF⟩:=bnd hF
 obtain ⟨b16,o17,es18,hl19,rr20,at21,yy22⟩:=ia E 17 18 qbi hparts_0 e15
 obtain ⟨c27,c29,rfl,r23,l24,l25,l26,h28,h30⟩:=(qaS.1 rr20)
 refine lv E ok (yy22 _ _) fun a E=>lv E ok (qat (cs:=[vi x14.Kind,vs x14.Text,vs x14.Name,vs x14.Style,c27,c29]) qdJ rfl rfl (qae.ro at21)) fun a E=>qa4 E ok qbq rfl rfl fun b31 a w E ok=>qad E ok 0 rfl rfl rfl qfp rfl rfl ⟨rfl,rfl,rfl,rfl,(qdb h28),(qdb h30),trivial⟩ rfl rfl fun w ok=>wn<|wp_block<|sg<|fk E ok qaE qam rfl 0 rfl rfl fun a E=>lw E (qal rfl rfl) fun a E=>aw E rfl fun a E=>cf E rfl hF (fun c32 hF=>?_) fun c32 hF=>?_
 ·refine qac<|mv E rfl fun a E=>fk E ok qd3 qan rfl 0 rfl rfl fun a E=>bd hF fun r33 e34 hF=>qaf E qql rfl (qiW N x14.Text l24 e34 hG ok) rfl rfl ?_
  rintro _ w ⟨⟨rfl,ok⟩,l35⟩
  refine ⟨_,rfl,fun a E=>?_⟩
  refine bd hF fun s36 e37 hF=>lw E (qaT rfl rfl e37) fun a E=>av E rfl fun a E=>wpList_nil<|qag<|qag<|qab<|qac<|mv E rfl fun a E=>lw E (qaG rfl rfl (InR.inc r12 (qao hparts_0) c13)) fun a E=>av E rfl fun a E=>wpList_nil ?_
  cases hF
  exact qau ⟨(ok.pk 2 [1] rfl (by decide)),E.keep [0,1,5,6,7],(qbP e37),(InR.inc r12 (qao hparts_0) c13)⟩
 refine sg<|fk E ok qaE qam rfl 0 rfl rfl fun a E=>lw E (qal rfl rfl) fun a E=>aw E rfl fun a E=>cf E rfl hF (fun c38 hF=>?_) fun c38 hF=>?_
 ·refine qac<|mv E rfl fun a E=>bd hF fun s39 e40 hF=>lw E (qaT rfl rfl e40) fun a E=>av E rfl fun a E=>wpList_nil<|qag<|qag<|qab<|qac<|mv E rfl fun a E=>lw E (qaG rfl rfl (InR.inc r12 (qao hparts_0) c13)) fun a E=>av E rfl fun a E=>wpList_nil ?_
  cases hF
  exact qau ⟨(ok.pk 2 [1] rfl (by decide)),E.keep [0,1,5,6,7],(qbP e40),(InR.inc r12 (qao hparts_0) c13)⟩
 refine sg<|fk E ok qaE qam rfl 0 rfl rfl fun a E=>lw E (qal rfl rfl) fun a E=>mv E rfl fun a E=>bw E 40 hF (fun c41 hF E=>?_) fun c41 hF E=>?_
 ·as_aux_lemma =>
   refine lsz E fun a E=>pf E rfl rfl fun a E=>aw E rfl fun a E=>c_if E rfl (fun h=>by cases h) (fun _=>?_)
   refine sg<|fk E ok qaE qam rfl 0 rfl rfl fun a E=>lw E (qal rfl rfl) fun a E=>aw E rfl fun a E=>cf E rfl hF (fun c168 hF=>?_) fun c168 hF=>?_
   ·refine qdY (by kernel_rfl) (by kernel_rfl) ok<|qv E (qaq rfl) fun a E=>qv E (qak qaY rfl) fun a E=>qv E (qaA qan rfl (qae.own 0 rfl rfl)) fun a E=>bd hF fun s169 e170 hF=>qv E (qaT rfl rfl e170) fun a E=>bd hF fun s171 e172 hF=>qv E (qaT rfl rfl e172) fun a E=>qv E (qak qcA rfl) fun a E=>qv E (qaA qck rfl (qae.own 0 rfl rfl)) fun a E=>qv E (qaq rfl) fun a E=>?_
    obtain ⟨r173,e174,hF⟩:=bnd hF
    obtain ⟨_,_,⟨_,_⟩,l175⟩:=Go.X.Calls.get (ih_calqueref26_Text _ x14.Parts h30 gap_1 lgap_1 e174 hG ok)
    refine qd6 E qjT rfl (fun w ok=>(ih_calqueref26_Text _ x14.Parts h30 gap_1 lgap_1 e174 hG ok).mono (fun _ _ h=>h.1)) rfl rfl fun a E=>bd hF fun s176 e177 hF=>qv E (qaT rfl rfl e177) fun a E=>bd hF fun s178 e179 hF=>qv E (qaT rfl rfl e179) fun a E=>qv E (qak qaY rfl) fun a E=>qv E (qaA qan rfl (qae.own 0 rfl rfl)) fun a E=>bd hF fun s180 e181 hF=>qv E (qaT rfl rfl e181) fun a E=>bd hF fun s182 e183 hF=>qv E (qaT rfl rfl e183) fun a E=>bd hF fun s184 e185 hF=>qv E (qaT rfl rfl e185) fun a E=>qv E (qbt rfl) fun a E=>wpQuiet_nil ?_
    intro w ok
    refine qag<|qag<|qab<|qac<|mv E rfl fun a E=>lw E (qaG rfl rfl (InR.inc r12 (qao hparts_0) c13)) fun a E=>av E rfl fun a E=>wpList_nil ?_
    cases hF
    exact qau ⟨(ok.pk 2 [1] rfl (by decide)),E.keep [0,1,5,6,7],(qbP e185),(InR.inc r12 (qao hparts_0) c13)⟩
   refine sg<|fk E ok qaE qam rfl 0 rfl rfl fun a E=>lw E (qal rfl rfl) fun a E=>aw E rfl fun a E=>cf E rfl hF (fun c186 hF=>?_) fun c186 hF=>?_
   ·refine qac<|mv E rfl fun a E=>fk E ok qaY qan rfl 0 rfl rfl fun a E=>bd hF fun s187 e188 hF=>lw E (qaT rfl rfl e188) fun a E=>bd hF fun s189 e190 hF=>lw E (qaT rfl rfl e190) fun a E=>bd hF fun s191 e192 hF=>lw E (qaT rfl rfl e192) fun a E=>av E rfl fun a E=>wpList_nil<|qag<|qag<|qab<|qac<|mv E rfl fun a E=>?_
    refine lw E (qaG rfl rfl (InR.inc r12 (qao hparts_0) c13)) fun a E=>av E rfl fun a E=>wpList_nil ?_
    cases hF
    exact qau ⟨(ok.pk 2 [1] rfl (by decide)),E.keep [0,1,5,6,7],(qbP e192),(InR.inc r12 (qao hparts_0) c13)⟩
   refine sg<|fk E ok qaE qam rfl 0 rfl rfl fun a E=>lw E (qbF rfl rfl) fun a E=>mv E rfl fun a E=>bw E 86 hF (fun c193 hF E=>?_) fun c193 hF E=>?_
   ·refine lsq E fun a E=>ls E fun a E=>pf E rfl rfl fun a E=>aw E rfl fun a E=>c_if E rfl (fun h=>by cases h) (fun _=>?_)
    refine wp_skip<|qag<|qag<|qab<|qac<|mv E rfl fun a E=>lw E (qaG rfl rfl (InR.inc r12 (qao hparts_0) c13)) fun a E=>av E rfl fun a E=>wpList_nil ?_
    cases hF
    exact qau ⟨(ok.pk 2 [1] rfl (by decide)),E.keep [0,1,5,6,7],l11,(InR.inc r12 (qao hparts_0) c13)⟩
   refine fk E ok qaE qam rfl 0 rfl rfl fun a E=>lw E (qcE rfl rfl) fun a E=>pt E rfl rfl fun a E=>aw E rfl fun a E=>cg E rfl hF (fun c194 hF=>?_) fun c194 hF=>?_
   ·refine wp_skip<|qag<|qag<|qab<|qac<|mv E rfl fun a E=>lw E (qaG rfl rfl (InR.inc r12 (qao hparts_0) c13)) fun a E=>av E rfl fun a E=>wpList_nil ?_
    cases hF
    exact qau ⟨(ok.pk 2 [1] rfl (by decide)),E.keep [0,1,5,6,7],l11,(InR.inc r12 (qao hparts_0) c13)⟩
   refine wp_seq<|qdY (by kernel_rfl) (by kernel_rfl) ok<|qv E (qaq rfl) fun a E=>qv E (qak qaY rfl) fun a E=>qv E (qaA qan rfl (qae.own 0 rfl rfl)) fun a E=>bd hF fun s195 e196 hF=>qv E (qaT rfl rfl e196) fun a E=>bd hF fun s197 e198 hF=>qv E (qaT rfl rfl e198) fun a E=>qv E (qaq rfl) fun a E=>bd hF fun s199 e200 hF=>qv E (qaT rfl rfl e200) fun a E=>qv E (qaq rfl) fun a E=>qv E (qak qaE rfl) fun a E=>qv E (qaA qam rfl (qae.own 0 rfl rfl)) fun a E=>qv E (qdX rfl rfl) fun a E=>?_
   obtain ⟨x201,e202,hF⟩:=bnd hF
   obtain ⟨b203,o204,hp205,yy206⟩:=qfS qb3 h3 e202 (P:=Tryz.prog) (X:=.tmp 98) (I:=.tmp 101) (kd:=.i64) (qcc E rfl) (qcc E rfl)
   refine qv E (yy206 _ _) fun a E=>?_
   obtain ⟨es207,hl208,rr209,hh210⟩:=qhr h3 e202 hp205 (by decide)
   obtain ⟨rfl,l211⟩:=rr209
   refine qv E (qaA qan rfl (hh210 _ _ _ 1 rfl)) fun a E=>bd hF fun s212 e213 hF=>qv E (qaT rfl rfl e213) fun a E=>bd hF fun s214 e215 hF=>qv E (qaT rfl rfl e215) fun a E=>qv E (qbt rfl) fun a E=>wpQuiet_nil ?_
   intro w ok
   refine qab<|wp_seq<|sg<|fk E ok qba qan rfl 0 rfl rfl fun a E=>lw E (qdp rfl rfl) fun a E=>wn<|bd hF fun o216 hJ hF=>qaJ (Q':=fun e a w=>e = .normal ∧ Ok u m0 ([(b31,oc 82 [vi x14.Kind,vs x14.Text,vs x14.Name,vs x14.Style,c27,c29])] :: M2 :: S) w ∧ Env 154 a [(0,vparts_0),(1,vs gap_1),(5,vs o216),(6,c1),(7,vi v10),(8,vp b31)] ∧ o216.length ≤ LIMS) ?_ ?_
   ·have hF:=hJ
    refine cg E rfl hF (fun c218 hF=>?_) fun c218 hF=>?_
    ·refine wp_skip ?_
     cases hF
     exact ⟨rfl,⟨ok,E.keep [0,1,5,6,7,8],(qbP e215)⟩⟩
    refine qac<|mz E rfl rfl fun a E=>bd hF fun s219 e220 hF=>lw E (qaT rfl rfl e220) fun a E=>fk E ok qba qan rfl 0 rfl rfl fun a E=>bd hF fun s221 e222 hF=>lw E (qaT rfl rfl e222) fun a E=>bd hF fun s223 e224 hF=>lw E (qaT rfl rfl e224) fun a E=>av E rfl fun a E=>wpList_nil ?_
    cases hF
    exact ⟨rfl,⟨ok,E.keep [0,1,5,6,7,8],(qbP e224)⟩⟩
   intro e a w hO
   obtain ⟨rfl,ok,E,l225⟩:=hO
   refine qab<|wp_seq<|sg<|fk E ok qaE qam rfl 0 rfl rfl fun a E=>bd hF fun r226 e227 hF=>lc E qmZ rfl (qee N x14.Kind r23 e227 hG ok) fun w ok a E=>wn<|bd hF fun o228 hJ hF=>qaJ (Q':=fun e a w=>e = .normal ∧ Ok u m0 ([(b31,oc 82 [vi x14.Kind,vs x14.Text,vs x14.Name,vs x14.Style,c27,c29])] :: M2 :: S) w ∧ Env 154 a [(0,vparts_0),(1,vs gap_1),(5,vs o228),(6,c1),(7,vi v10),(8,vp b31)] ∧ o228.length ≤ LIMS) ?_ ?_
   ·have hF:=hJ
    refine cg E rfl hF (fun c230 hF=>?_) fun c230 hF=>?_
    ·refine wp_skip ?_
     cases hF
     exact ⟨rfl,⟨ok,E.keep [0,1,5,6,7,8],l225⟩⟩
    refine qac<|mv E rfl fun a E=>bd hF fun s231 e232 hF=>lw E (qaT rfl rfl e232) fun a E=>av E rfl fun a E=>wpList_nil ?_
    cases hF
    exact ⟨rfl,⟨ok,E.keep [0,1,5,6,7,8],(qbP e232)⟩⟩
   intro e a w hO
   obtain ⟨rfl,ok,E,l233⟩:=hO
   refine qab<|wp_seq<|sg<|aw E rfl fun a E=>wp_block<|bd hF fun o236 hL hF=>qbb _ (fun (s:(List UInt8) × Int) a w=>Ok u m0 ([(b31,oc 82 [vi x14.Kind,vs x14.Text,vs x14.Name,vs x14.Style,c27,c29])] :: M2 :: S) w ∧ Env 154 a [(0,vparts_0),(1,vs gap_1),(5,vs s.1),(6,c1),(7,vi v10),(8,vp b31),(9,vi s.2)] ∧ s.1.length ≤ LIMS ∧ InR .i64 s.2) (fun (b:((List UInt8))) e a w=>e = (.exit 3) ∧ Ok u m0 ([(b31,oc 82 [vi x14.Kind,vs x14.Text,vs x14.Name,vs x14.Style,c27,c29])] :: M2 :: S) w ∧ Env 154 a [(0,vparts_0),(1,vs gap_1),(5,vs b),(6,c1),(7,vi v10)] ∧ b.length ≤ LIMS) ?_ ?_ N _ a w hL ⟨ok,E.keep [0,1,5,6,7,8,9],l233,(ir 0)⟩
   rotate_left
   ·intro e a w _ hO
    obtain ⟨rfl,ok,E,l283⟩:=hO
    refine qbh<|qab<|qac<|mv E rfl fun a E=>bd hF fun s284 e285 hF=>lw E (qaT rfl rfl e285) fun a E=>av E rfl fun a E=>wpList_nil<|qag<|qag<|qab<|qac<|mv E rfl fun a E=>lw E (qaG rfl rfl (InR.inc r12 (qao hparts_0) c13)) fun a E=>av E rfl fun a E=>wpList_nil ?_
    cases hF
    exact qau ⟨(ok.pk 2 [1] rfl (by decide)),E.keep [0,1,5,6,7],(qbP e285),(InR.inc r12 (qao hparts_0) c13)⟩
   rintro ⟨v239,v240⟩ a w r ⟨ok,E,l241,r242⟩ hF
   replace hF:qfd (qcJ N) N gap_1 x14 v239 v240 = some r:=hF
   unfold qfd at hF
   refine wp_seq<|sg<|mv E rfl fun a E=>fk E ok qbG qcq rfl 0 rfl rfl fun a E=>lv E ok (qbe qcd h28 rfl) fun a E=>lw E (qaQ rfl rfl) fun a E=>wn<|cg E rfl hF (fun c243 hF=>?_) fun c243 hF=>?_
   ·refine wp_exit<|qaV ?_
    cases hF
    exact so (⟨rfl,⟨ok,E.keep [0,1,5,6,7],l241⟩⟩)
   refine wp_skip<|qab<|wp_seq<|wp_block<|qdY (by kernel_rfl) (by kernel_rfl) ok<|qv E (qaq rfl) fun a E=>qv E (qaq rfl) fun a E=>qv E (qak qbG rfl) fun a E=>qv E (qaA qcq rfl (qae.own 0 rfl rfl)) fun a E=>qv E (qaq rfl) fun a E=>?_
   obtain ⟨x244,e245,hF⟩:=bnd hF
   obtain ⟨b246,o247,es248,hl249,rr250,at251,yy252⟩:=ia E 131 132 qcd h28 e245
   obtain ⟨c254,rfl,l253,h255⟩:=rr250
   refine qv E (yy252 _ _) fun a E=>qv E (qak qf4 rfl) fun a E=>qv E (qaA qan rfl (qae.ro (At.sub 0 1 at251))) fun a E=>bd hF fun s256 e257 hF=>qv E (qaT rfl rfl e257) fun a E=>qv E (qaq rfl) fun a E=>bd hF fun s258 e259 hF=>qv E (qaT rfl rfl e259) fun a E=>bd hF fun s260 e261 hF=>qv E (qaT rfl rfl e261) fun a E=>qv E (qak qbG rfl) fun a E=>qv E (qaA qcq rfl (qae.own 0 rfl rfl)) fun a E=>qv E (qaq rfl) fun a E=>?_
   obtain ⟨x262,e263,hF⟩:=bnd hF
   obtain ⟨b264,o265,es266,hl267,rr268,at269,yy270⟩:=ia E 141 142 qcd h28 e263
   obtain ⟨c272,rfl,l271,h273⟩:=rr268
   refine qv E (yy270 _ _) fun a E=>qv E (qak qf2 rfl) fun a E=>qv E (qaA qck rfl (qae.ro (At.sub 1 1 at269))) fun a E=>qv E (qaq rfl) fun a E=>?_
   obtain ⟨r274,e275,hF⟩:=bnd hF
   obtain ⟨_,_,⟨_,_⟩,l276⟩:=Go.X.Calls.get (ih_calqueref26_Text _ x262.Parts h273 gap_1 lgap_1 e275 hG ok)
   refine qd6 E qjT rfl (fun w ok=>(ih_calqueref26_Text _ x262.Parts h273 gap_1 lgap_1 e275 hG ok).mono (fun _ _ h=>h.1)) rfl rfl fun a E=>bd hF fun s277 e278 hF=>qv E (qaT rfl rfl e278) fun a E=>bd hF fun s279 e280 hF=>qv E (qaT rfl rfl e280) fun a E=>bd hF fun s281 e282 hF=>qv E (qaT rfl rfl e282) fun a E=>qv E (qbt rfl) fun a E=>wpQuiet_nil ?_
   intro w ok
   refine qag<|qab<|qac<|mv E rfl fun a E=>lw E (qaG rfl rfl (InR.inc r242 (qao h28) c243)) fun a E=>av E rfl fun a E=>wpList_nil ?_
   cases hF
   exact qau ⟨ok,E.keep [0,1,5,6,7,8,9],(qbP e282),(InR.inc r242 (qao h28) c243)⟩
 refine fk E ok qcA qck rfl 0 rfl rfl fun a E=>lv E ok (qbe qbi h30 rfl) fun a E=>lw E (qal rfl rfl) fun a E=>pt E rfl rfl fun a E=>aw E rfl fun a E=>cf E rfl hF (fun c42 hF=>?_) fun c42 hF=>?_
 ·refine qac<|mv E rfl fun a E=>fk E ok qaY qan rfl 0 rfl rfl fun a E=>bd hF fun s43 e44 hF=>lw E (qaT rfl rfl e44) fun a E=>bd hF fun s45 e46 hF=>lw E (qaT rfl rfl e46) fun a E=>bd hF fun s47 e48 hF=>lw E (qaT rfl rfl e48) fun a E=>av E rfl fun a E=>wpList_nil<|qag<|qag<|qab<|qac<|mv E rfl fun a E=>?_
  refine lw E (qaG rfl rfl (InR.inc r12 (qao hparts_0) c13)) fun a E=>av E rfl fun a E=>wpList_nil ?_
  cases hF
  exact qau ⟨(ok.pk 2 [1] rfl (by decide)),E.keep [0,1,5,6,7],(qbP e48),(InR.inc r12 (qao hparts_0) c13)⟩
 refine sg<|fk E ok qaE qam rfl 0 rfl rfl fun a E=>lw E (qal rfl rfl) fun a E=>aw E rfl fun a E=>cf E rfl hF (fun c49 hF=>?_) fun c49 hF=>?_
 ·refine qdY (by kernel_rfl) (by kernel_rfl) ok<|qv E (qaq rfl) fun a E=>qv E (qak qaY rfl) fun a E=>qv E (qaA qan rfl (qae.own 0 rfl rfl)) fun a E=>bd hF fun s50 e51 hF=>qv E (qaT rfl rfl e51) fun a E=>bd hF fun s52 e53 hF=>qv E (qaT rfl rfl e53) fun a E=>qv E (qak qcA rfl) fun a E=>qv E (qaA qck rfl (qae.own 0 rfl rfl)) fun a E=>qv E (qaq rfl) fun a E=>?_
  obtain ⟨r54,e55,hF⟩:=bnd hF
  obtain ⟨_,_,⟨_,_⟩,l56⟩:=Go.X.Calls.get (ih_calqueref26_Text _ x14.Parts h30 gap_1 lgap_1 e55 hG ok)
  refine qd6 E qjT rfl (fun w ok=>(ih_calqueref26_Text _ x14.Parts h30 gap_1 lgap_1 e55 hG ok).mono (fun _ _ h=>h.1)) rfl rfl fun a E=>bd hF fun s57 e58 hF=>qv E (qaT rfl rfl e58) fun a E=>bd hF fun s59 e60 hF=>qv E (qaT rfl rfl e60) fun a E=>qv E (qak qaY rfl) fun a E=>qv E (qaA qan rfl (qae.own 0 rfl rfl)) fun a E=>bd hF fun s61 e62 hF=>qv E (qaT rfl rfl e62) fun a E=>bd hF fun s63 e64 hF=>qv E (qaT rfl rfl e64) fun a E=>bd hF fun s65 e66 hF=>qv E (qaT rfl rfl e66) fun a E=>qv E (qbt rfl) fun a E=>wpQuiet_nil ?_
  intro w ok
  refine qag<|qag<|qab<|qac<|mv E rfl fun a E=>lw E (qaG rfl rfl (InR.inc r12 (qao hparts_0) c13)) fun a E=>av E rfl fun a E=>wpList_nil ?_
  cases hF
  exact qau ⟨(ok.pk 2 [1] rfl (by decide)),E.keep [0,1,5,6,7],(qbP e66),(InR.inc r12 (qao hparts_0) c13)⟩
 refine sg<|fk E ok qaE qam rfl 0 rfl rfl fun a E=>lw E (qal rfl rfl) fun a E=>aw E rfl fun a E=>cf E rfl hF (fun c67 hF=>?_) fun c67 hF=>?_
 ·refine qac<|mv E rfl fun a E=>fk E ok qaY qan rfl 0 rfl rfl fun a E=>bd hF fun s68 e69 hF=>lw E (qaT rfl rfl e69) fun a E=>bd hF fun s70 e71 hF=>lw E (qaT rfl rfl e71) fun a E=>bd hF fun s72 e73 hF=>lw E (qaT rfl rfl e73) fun a E=>av E rfl fun a E=>wpList_nil<|qag<|qag<|qab<|qac<|mv E rfl fun a E=>?_
  refine lw E (qaG rfl rfl (InR.inc r12 (qao hparts_0) c13)) fun a E=>av E rfl fun a E=>wpList_nil ?_
  cases hF
  exact qau ⟨(ok.pk 2 [1] rfl (by decide)),E.keep [0,1,5,6,7],(qbP e73),(InR.inc r12 (qao hparts_0) c13)⟩
 refine sg<|fk E ok qaE qam rfl 0 rfl rfl fun a E=>lw E (qbF rfl rfl) fun a E=>mv E rfl fun a E=>bw E 86 hF (fun c74 hF E=>?_) fun c74 hF E=>?_
 ·refine lsq E fun a E=>ls E fun a E=>pf E rfl rfl fun a E=>aw E rfl fun a E=>c_if E rfl (fun h=>by cases h) (fun _=>?_)
  refine wp_skip<|qag<|qag<|qab<|qac<|mv E rfl fun a E=>lw E (qaG rfl rfl (InR.inc r12 (qao hparts_0) c13)) fun a E=>av E rfl fun a E=>wpList_nil ?_
  cases hF
  exact qau ⟨(ok.pk 2 [1] rfl (by decide)),E.keep [0,1,5,6,7],l11,(InR.inc r12 (qao hparts_0) c13)⟩
 refine fk E ok qaE qam rfl 0 rfl rfl fun a E=>lw E (qcE rfl rfl) fun a E=>pt E rfl rfl fun a E=>aw E rfl fun a E=>cg E rfl hF (fun c75 hF=>?_) fun c75 hF=>?_
 ·refine wp_skip<|qag<|qag<|qab<|qac<|mv E rfl fun a E=>lw E (qaG rfl rfl (InR.inc r12 (qao hparts_0) c13)) fun a E=>av E rfl fun a E=>wpList_nil ?_
  cases hF
  exact qau ⟨(ok.pk 2 [1] rfl (by decide)),E.keep [0,1,5,6,7],l11,(InR.inc r12 (qao hparts_0) c13)⟩
 refine wp_seq<|qdY (by kernel_rfl) (by kernel_rfl) ok<|qv E (qaq rfl) fun a E=>qv E (qak qaY rfl) fun a E=>qv E (qaA qan rfl (qae.own 0 rfl rfl)) fun a E=>bd hF fun s76 e77 hF=>qv E (qaT rfl rfl e77) fun a E=>bd hF fun s78 e79 hF=>qv E (qaT rfl rfl e79) fun a E=>qv E (qaq rfl) fun a E=>bd hF fun s80 e81 hF=>qv E (qaT rfl rfl e81) fun a E=>qv E (qaq rfl) fun a E=>qv E (qak qaE rfl) fun a E=>qv E (qaA qam rfl (qae.own 0 rfl rfl)) fun a E=>qv E (qdX rfl rfl) fun a E=>?_
 obtain ⟨x82,e83,hF⟩:=bnd hF
 obtain ⟨b84,o85,hp86,yy87⟩:=qfS qb3 h3 e83 (P:=Tryz.prog) (X:=.tmp 98) (I:=.tmp 101) (kd:=.i64) (qcc E rfl) (qcc E rfl)
 refine qv E (yy87 _ _) fun a E=>?_
 obtain ⟨es88,hl89,rr90,hh91⟩:=qhr h3 e83 hp86 (by decide)
 obtain ⟨rfl,l92⟩:=rr90
 refine qv E (qaA qan rfl (hh91 _ _ _ 1 rfl)) fun a E=>bd hF fun s93 e94 hF=>qv E (qaT rfl rfl e94) fun a E=>bd hF fun s95 e96 hF=>qv E (qaT rfl rfl e96) fun a E=>qv E (qbt rfl) fun a E=>wpQuiet_nil ?_
 intro w ok
 refine qab<|wp_seq<|sg<|fk E ok qba qan rfl 0 rfl rfl fun a E=>lw E (qdp rfl rfl) fun a E=>wn<|bd hF fun o97 hJ hF=>qaJ (Q':=fun e a w=>e = .normal ∧ Ok u m0 ([(b31,oc 82 [vi x14.Kind,vs x14.Text,vs x14.Name,vs x14.Style,c27,c29])] :: M2 :: S) w ∧ Env 154 a [(0,vparts_0),(1,vs gap_1),(5,vs o97),(6,c1),(7,vi v10),(8,vp b31)] ∧ o97.length ≤ LIMS) ?_ ?_
 ·have hF:=hJ
  refine cg E rfl hF (fun c99 hF=>?_) fun c99 hF=>?_
  ·refine wp_skip ?_
   cases hF
   exact ⟨rfl,⟨ok,E.keep [0,1,5,6,7,8],(qbP e96)⟩⟩
  refine qac<|mz E rfl rfl fun a E=>bd hF fun s100 e101 hF=>lw E (qaT rfl rfl e101) fun a E=>fk E ok qba qan rfl 0 rfl rfl fun a E=>bd hF fun s102 e103 hF=>lw E (qaT rfl rfl e103) fun a E=>bd hF fun s104 e105 hF=>lw E (qaT rfl rfl e105) fun a E=>av E rfl fun a E=>wpList_nil ?_
  cases hF
  exact ⟨rfl,⟨ok,E.keep [0,1,5,6,7,8],(qbP e105)⟩⟩
 intro e a w hO
 obtain ⟨rfl,ok,E,l106⟩:=hO
 refine qab<|wp_seq<|sg<|fk E ok qaE qam rfl 0 rfl rfl fun a E=>bd hF fun r107 e108 hF=>lc E qmZ rfl (qee N x14.Kind r23 e108 hG ok) fun w ok a E=>wn<|bd hF fun o109 hJ hF=>qaJ (Q':=fun e a w=>e = .normal ∧ Ok u m0 ([(b31,oc 82 [vi x14.Kind,vs x14.Text,vs x14.Name,vs x14.Style,c27,c29])] :: M2 :: S) w ∧ Env 154 a [(0,vparts_0),(1,vs gap_1),(5,vs o109),(6,c1),(7,vi v10),(8,vp b31)] ∧ o109.length ≤ LIMS) ?_ ?_
 ·have hF:=hJ
  refine cg E rfl hF (fun c111 hF=>?_) fun c111 hF=>?_
  ·refine wp_skip ?_
   cases hF
   exact ⟨rfl,⟨ok,E.keep [0,1,5,6,7,8],l106⟩⟩
  refine qac<|mv E rfl fun a E=>bd hF fun s112 e113 hF=>lw E (qaT rfl rfl e113) fun a E=>av E rfl fun a E=>wpList_nil ?_
  cases hF
  exact ⟨rfl,⟨ok,E.keep [0,1,5,6,7,8],(qbP e113)⟩⟩
 intro e a w hO
 obtain ⟨rfl,ok,E,l114⟩:=hO
 refine qab<|wp_seq<|sg<|aw E rfl fun a E=>wp_block<|bd hF fun o117 hL hF=>qbb _ (fun (s:(List UInt8) × Int) a w=>Ok u m0 ([(b31,oc 82 [vi x14.Kind,vs x14.Text,vs x14.Name,vs x14.Style,c27,c29])] :: M2 :: S) w ∧ Env 154 a [(0,vparts_0),(1,vs gap_1),(5,vs s.1),(6,c1),(7,vi v10),(8,vp b31),(9,vi s.2)] ∧ s.1.length ≤ LIMS ∧ InR .i64 s.2) (fun (b:((List UInt8))) e a w=>e = (.exit 3) ∧ Ok u m0 ([(b31,oc 82 [vi x14.Kind,vs x14.Text,vs x14.Name,vs x14.Style,c27,c29])] :: M2 :: S) w ∧ Env 154 a [(0,vparts_0),(1,vs gap_1),(5,vs b),(6,c1),(7,vi v10)] ∧ b.length ≤ LIMS) ?_ ?_ N _ a w hL ⟨ok,E.keep [0,1,5,6,7,8,9],l114,(ir 0)⟩
 rotate_left
 ·intro e a w _ hO
  obtain ⟨rfl,ok,E,l164⟩:=hO
  refine qbh<|qab<|qac<|mv E rfl fun a E=>bd hF fun s165 e166 hF=>lw E (qaT rfl rfl e166) fun a E=>av E rfl fun a E=>wpList_nil<|qag<|qag<|qab<|qac<|mv E rfl fun a E=>lw E (qaG rfl rfl (InR.inc r12 (qao hparts_0) c13)) fun a E=>av E rfl fun a E=>wpList_nil ?_
  cases hF
  exact qau ⟨(ok.pk 2 [1] rfl (by decide)),E.keep [0,1,5,6,7],(qbP e166),(InR.inc r12 (qao hparts_0) c13)⟩
 rintro ⟨v120,v121⟩ a w r ⟨ok,E,l122,r123⟩ hF
 replace hF:qfa (qcJ N) N gap_1 x14 v120 v121 = some r:=hF
 unfold qfa at hF
 refine wp_seq<|sg<|mv E rfl fun a E=>fk E ok qbG qcq rfl 0 rfl rfl fun a E=>lv E ok (qbe qcd h28 rfl) fun a E=>lw E (qaQ rfl rfl) fun a E=>wn<|cg E rfl hF (fun c124 hF=>?_) fun c124 hF=>?_
 ·refine wp_exit<|qaV ?_
  cases hF
  exact so (⟨rfl,⟨ok,E.keep [0,1,5,6,7],l122⟩⟩)
 refine wp_skip<|qab<|wp_seq<|wp_block<|qdY (by kernel_rfl) (by kernel_rfl) ok<|qv E (qaq rfl) fun a E=>qv E (qaq rfl) fun a E=>qv E (qak qbG rfl) fun a E=>qv E (qaA qcq rfl (qae.own 0 rfl rfl)) fun a E=>qv E (qaq rfl) fun a E=>?_
 obtain ⟨x125,e126,hF⟩:=bnd hF
 obtain ⟨b127,o128,es129,hl130,rr131,at132,yy133⟩:=ia E 131 132 qcd h28 e126
 obtain ⟨c135,rfl,l134,h136⟩:=rr131
 refine qv E (yy133 _ _) fun a E=>qv E (qak qf4 rfl) fun a E=>qv E (qaA qan rfl (qae.ro (At.sub 0 1 at132))) fun a E=>bd hF fun s137 e138 hF=>qv E (qaT rfl rfl e138) fun a E=>qv E (qaq rfl) fun a E=>bd hF fun s139 e140 hF=>qv E (qaT rfl rfl e140) fun a E=>bd hF fun s141 e142 hF=>qv E (qaT rfl rfl e142) fun a E=>qv E (qak qbG rfl) fun a E=>qv E (qaA qcq rfl (qae.own 0 rfl rfl)) fun a E=>qv E (qaq rfl) fun a E=>?_
 obtain ⟨x143,e144,hF⟩:=bnd hF
 obtain ⟨b145,o146,es147,hl148,rr149,at150,yy151⟩:=ia E 141 142 qcd h28 e144
 obtain ⟨c153,rfl,l152,h154⟩:=rr149
 refine qv E (yy151 _ _) fun a E=>qv E (qak qf2 rfl) fun a E=>qv E (qaA qck rfl (qae.ro (At.sub 1 1 at150))) fun a E=>qv E (qaq rfl) fun a E=>?_
 obtain ⟨r155,e156,hF⟩:=bnd hF
 obtain ⟨_,_,⟨_,_⟩,l157⟩:=Go.X.Calls.get (ih_calqueref26_Text _ x143.Parts h154 gap_1 lgap_1 e156 hG ok)
 refine qd6 E qjT rfl (fun w ok=>(ih_calqueref26_Text _ x143.Parts h154 gap_1 lgap_1 e156 hG ok).mono (fun _ _ h=>h.1)) rfl rfl fun a E=>bd hF fun s158 e159 hF=>qv E (qaT rfl rfl e159) fun a E=>bd hF fun s160 e161 hF=>qv E (qaT rfl rfl e161) fun a E=>bd hF fun s162 e163 hF=>qv E (qaT rfl rfl e163) fun a E=>qv E (qbt rfl) fun a E=>wpQuiet_nil ?_
 intro w ok
 refine qag<|qab<|qac<|mv E rfl fun a E=>lw E (qaG rfl rfl (InR.inc r123 (qao h28) c124)) fun a E=>av E rfl fun a E=>wpList_nil ?_
 cases hF
 exact qau ⟨ok,E.keep [0,1,5,6,7,8,9],(qbP e163),(InR.inc r123 (qao h28) c124)⟩
theorem qis:qel 0:=by
 intro u m0 S w vparts_0 parts_0 hparts_0 gap_1 lgap_1 r hF hG ok
 replace hF:none = some r:=hF
 cases hF
theorem qhv (N:Nat):qel N:=by
 induction N with
 | zero=>exact qis
 | succ N h=>exact qix N h
theorem qgX {u:World} {m0:Mem} {S:Segs} {w:World} (N:Nat) (vparts_0:Value) (parts_0:List (Part)) (hparts_0:(pL 6 qa0) m0 [vparts_0] parts_0) (gap_1:List UInt8) (lgap_1:gap_1.length ≤ LIMS) {r:(List UInt8)} (hF:qcJ N parts_0 gap_1 = some r) (hG:Glob u) (ok:Ok u m0 S w) :
 Calls Tryz.prog 47 [vparts_0,vs gap_1].toArray w fun e w'=>(e = .returned (.string (bs r)) ∧ Ok u m0 S w') ∧ r.length ≤ LIMS:=(qhv N) vparts_0 parts_0 hparts_0 gap_1 lgap_1 hF hG ok
end Go.Proofs.YtllnjbnknjpbjaaGreatDoor
