/- Texts of this proof, put together by pack.py: what its declarations name. -/
import Derived.Test.YtllnjbnknjpbjaaGreatDoorPkKx2
import Derived.Test.YtllnjbnknjpbjaaGreatDoorCards
import Derived.Test.YtllnjbnknjpbjaaGreatDoorChecked
import Derived.Test.YtllnjbnknjpbjaaGreatDoorProg
import Derived.Test.YtllnjbnknjpbjaaGreatDoorRows
import Derived.Test.YtllnjbnknjpbjaaGreatDoorTie
set_option linter.unusedVariables false
set_option linter.unusedSimpArgs false
namespace Go.Proofs.YtllnjbnknjpbjaaGreatDoor
open Go.X
variable {u:World} {m0:Mem} {S:Segs} {w:World}
set_option maxHeartbeats 4000000
set_option maxRecDepth 100000
def Tab (u:World):Prop:=Lib.TabIs Tryz.prog u "internal/strconv.uint64pow10" .u64 Lib.pow10Tab
def pIns:Rp Ins:=fun _ cs x=>cs = [.int .i64 x.Op,.int .i64 x.A,.int .i64 x.B,.string (bs x.S)] ∧ InR .i64 x.Op ∧ InR .i64 x.A ∧ InR .i64 x.B ∧ x.S.length ≤ LIMS
theorem mIns:Mono pIns:=⟨fun _ h=>by
 obtain ⟨e,h0,h1,h2,h3⟩:=h
 exact ⟨e,h0,h1,h2,h3⟩,fun h=>by
 obtain ⟨rfl,h0,h1,h2,h3⟩:=h
 exact ⟨rfl,rfl,rfl,rfl,trivial⟩⟩
def qeY:Rp Code:=fun m cs x=>∃ c0 c1,cs = [c0,c1] ∧ (pL 1 pS) m [c0] x.Names ∧ (pL 4 pIns) m [c1] x.Ins
theorem qhv:aggB Tryz.prog 28 2 = true:=by kernel_rfl
theorem qjA:aggB Tryz.prog 47 4 = true:=by kernel_rfl
theorem qoI:ArT Tryz.prog 129 3 7 1:=ArT.of (by kernel_rfl)
theorem qlY:ArT Tryz.prog 62 9 14 1:=ArT.of (by kernel_rfl)
theorem qnw:Tryz.prog.eqGuardType Tryz.prog.depth 47 = false:=by kernel_rfl
theorem qhr:qaO Tryz.prog 28 0 0 = true:=by kernel_rfl
theorem qdi:qaO Tryz.prog 28 1 1 = true:=by kernel_rfl
theorem qkQ:qaO Tryz.prog 47 0 0 = true:=by kernel_rfl
theorem qhq:qaO Tryz.prog 47 1 1 = true:=by kernel_rfl
theorem qmv:qaO Tryz.prog 47 2 2 = true:=by kernel_rfl
theorem qjL:qaO Tryz.prog 47 3 3 = true:=by kernel_rfl
theorem qed:qaO Tryz.prog 57 0 0 = true:=by kernel_rfl
theorem qp2:goB Tryz.prog 30 = true:=by kernel_rfl
theorem qlp:goB Tryz.prog 31 = true:=by kernel_rfl
theorem qfF:goB Tryz.prog 32 = true:=by kernel_rfl
theorem qpW:goB Tryz.prog 34 = true:=by kernel_rfl
theorem qiD:goB Tryz.prog 35 = true:=by kernel_rfl
theorem qj5:goB Tryz.prog 36 = true:=by kernel_rfl
theorem qqd:goB Tryz.prog 41 = true:=by kernel_rfl
theorem qp7:goB Tryz.prog 42 = true:=by kernel_rfl
theorem qlw:goB Tryz.prog 50 = true:=by kernel_rfl
theorem qol:goB Tryz.prog 52 = true:=by kernel_rfl
theorem qob:goB Tryz.prog 53 = true:=by kernel_rfl
theorem qp0:goB Tryz.prog 69 = true:=by kernel_rfl
theorem qmX:∃ i,Tryz.prog.info? 25 = some i ∧ i.size = 1:=⟨_,rfl,by kernel_rfl⟩
theorem qm5:∃ i,Tryz.prog.info? 26 = some i ∧ i.size = 1:=⟨_,rfl,by kernel_rfl⟩
theorem qjx:∃ i,Tryz.prog.info? 28 = some i ∧ i.size = 2:=⟨_,rfl,by kernel_rfl⟩
theorem qgj:∃ i,Tryz.prog.info? 3 = some i ∧ i.size = 1:=⟨_,rfl,by kernel_rfl⟩
theorem qpg:∃ i,Tryz.prog.info? 47 = some i ∧ i.size = 4:=⟨_,rfl,by kernel_rfl⟩
theorem qpt:∃ i,Tryz.prog.info? 62 = some i ∧ i.size = 14:=⟨_,rfl,by kernel_rfl⟩
theorem qdM:oneB Tryz.prog 25 = true:=by kernel_rfl
theorem qdt:oneB Tryz.prog 26 = true:=by kernel_rfl
theorem qmK:qdz Tryz.prog 110 = some [(0,3),(3,1),(4,1)]:=by kernel_rfl
theorem qjy:qdz Tryz.prog 28 = some [(0,1),(1,1)]:=by kernel_rfl
theorem qcJ:qdz Tryz.prog 47 = some [(0,1),(1,1),(2,1),(3,1)]:=by kernel_rfl
theorem qnn:qdz Tryz.prog 57 = some [(0,2)]:=by kernel_rfl
theorem qbx:SlT Tryz.prog 25 9 1:=SlT.of (by kernel_rfl)
theorem qc5:SlT Tryz.prog 26 47 4:=SlT.of (by kernel_rfl)
theorem qgJ:SlT Tryz.prog 74 3 1:=SlT.of (by kernel_rfl)
theorem qlM:Tryz.prog.stoodInHeld 47 = false:=by kernel_rfl
theorem qnP:qbX Tryz.prog 110 = some [(Value.int .u32 0),(Value.int .i32 0),(Value.int .u32 0),Value.nilIface,(Value.slice none 0 0)]:=by kernel_rfl
theorem qnW:qbX Tryz.prog 129 = some [vi 0,vi 0,vi 0,vi 0,vi 0,vi 0,vi 0]:=by kernel_rfl
theorem qgy:qbX Tryz.prog 28 = some [(Value.slice none 0 0),(Value.slice none 0 0)]:=by kernel_rfl
theorem qj9:qbX Tryz.prog 3 = some [vi 0]:=by kernel_rfl
theorem qcD:qbX Tryz.prog 47 = some [vi 0,vi 0,vi 0,(vs ([]))]:=by kernel_rfl
theorem qoU:qbX Tryz.prog 57 = some [(Value.slice none 0 0),(Value.slice none 0 0)]:=by kernel_rfl
theorem qmw:qbX Tryz.prog 62 = some [(vs ([])),(vs ([])),(vs ([])),(vs ([])),(vs ([])),(vs ([])),(vs ([])),(vs ([])),(vs ([])),(vs ([])),(vs ([])),(vs ([])),(vs ([])),(vs ([]))]:=by kernel_rfl
theorem qdK:qbX Tryz.prog 9 = some [(vs ([]))]:=by kernel_rfl
def qh9 (u:World) (m0:Mem) (S:Segs) (pb0:Nat) (x0:Compiler) (c5:Value) (M6:List (Nat × Obj)) (c8:Value) (M9:List (Nat × Obj)) (r:Int × Compiler) (a:Act) (w:World):Prop :=
 ∃ m1 c11 M12 c14 M15,m0.le m1 ∧ Ok u m1 ([(pb0,oc 57 [c11,c14])] :: M12 :: M15 :: S) w ∧ a.defers = [] ∧ RVs Tryz.prog a w [.t 4 (.int .i64 r.1)] ∧ InR .i64 r.1 ∧ ORow 9 1 pS m1 c11 r.2.Code.Names M12 ∧ ORow 47 4 pIns m1 c14 r.2.Code.Ins M15
theorem qba (N:Nat) (vx_1:List Value) (x_1:Ins) (hx_1:pIns m0 vx_1 x_1) {pb0:Nat} {c5:Value} {M6:List (Nat × Obj)} {c8:Value} {M9:List (Nat × Obj)} (x0:Compiler) (h7:ORow 9 1 pS m0 c5 x0.Code.Names M6) (h10:ORow 47 4 pIns m0 c8 x0.Code.Ins M9) {r:Int × Compiler} (hF:qa8 N x_1 x0 = some r) (hG:Glob u) (ok:Ok u m0 ([(pb0,oc 57 [c5,c8])] :: M6 :: M9 :: S) w) :
  Calls Tryz.prog 32 [vp pb0,.agg vx_1.toArray].toArray w fun e w'=>∃ m1 c11 M12 c14 M15,e = .returned (.int .i64 r.1) ∧ m0.le m1 ∧ Ok u m1 ([(pb0,oc 57 [c11,c14])] :: M12 :: M15 :: S) w' ∧ InR .i64 r.1 ∧ ORow 9 1 pS m1 c11 r.2.Code.Names M12 ∧ ORow 47 4 pIns m1 c14 r.2.Code.Ins M15:=by
 obtain ⟨rfl,r1,r2,r3,l4⟩:=hx_1
 have le_m0:=Mem.le.refl m0
 unfold qa8 at hF
 refine en (qh9 u m0 S pb0 x0 c5 M6 c8 M9) r Tryz.func32 rfl rfl rfl (by rintro a w ⟨m1,c11,M12,c14,M15,hle,ok,hd,hrv,h0,h1,h2⟩; exact qbs [.t 4 (.int .i64 r.1)] hd rfl hrv ⟨m1,c11,M12,c14,M15,rfl,hle,ok,h0,h1,h2⟩) fun fin a E=>sg<|qdV E ok rfl rfl rfl fun b17 a w E ok=>aw E rfl fun a E=>wp_seq<|bd hF fun o18 hJ hF=>qaK (Q':=fun e a w=>e = .normal ∧ ∃ c19 M20 c22 M23,Ok u m0 ([(b17,oc 47 [vi x_1.Op,vi x_1.A,vi x_1.B,vs x_1.S])] :: [(pb0,oc 57 [c19,c22])] :: M20 :: M23 :: S) w ∧ Env 24 a [(0,vp pb0)] ∧ ORow 9 1 pS m0 c19 o18.Code.Names M20 ∧ ORow 47 4 pIns m0 c22 o18.Code.Ins M23) ?_ ?_
 rotate_left
 ·intro e a w hO
  obtain ⟨rfl,c39,M40,c42,M43,ok,E,h41,h44⟩:=hO
  refine qaa<|sg<|mv E rfl fun a E=>lw E (qaj rfl) fun a E=>fv E qed rfl fun a E=>fk E ok qdi qdt rfl 1 rfl rfl fun a E=>lv E ok (qd3 qc5 h44 rfl) fun a E=>lw E (qcY rfl rfl) fun a E=>aw E rfl fun a E=>wp_ret ?_
  exact fin hF ⟨m0,c39,M40,c42,M43,le_m0,ok.drop,E.d,rz E rfl,(InR.wrap _ _),h41,h44⟩
 have hF:=hJ
 obtain ⟨l28,e29,hF⟩:=bnd hF
 obtain rfl:=sj hF
 refine qbl [5,6] (Cls u m0 ([(b17,oc 47 [vi x_1.Op,vi x_1.A,vi x_1.B,vs x_1.S])] :: [(pb0,oc 57 [c5,c8])] :: M6 :: [])) (Cls u m0 ([(b17,oc 47 [vi x_1.Op,vi x_1.A,vi x_1.B,vs x_1.S])] :: M6 :: [])) (by kernel_rfl) ?_
 intro w hw
 replace ok:=qbE ok hw
 clear hw
 refine qar (cl1 (cq le_m0 ok [0,1,2] rfl) (cq le_m0 ok [0,2] rfl)) fun hT=>kt 0 E rfl hT (qah rfl) fun a E=>kt 1 E rfl hT (qah rfl) fun a E=>kt 2 E rfl hT (qaj rfl) fun a E=>kt 3 E rfl hT (qai qed rfl) fun a E=>kt 4 E rfl hT (qai qdi rfl) fun a E=>qct 5 E rfl (by kernel_rfl) nP hT (qaz qdt rfl (qae.cown 1 rfl rfl)) rfl rfl fun a E=>qct 6 E rfl (by kernel_rfl) nP hT (qan (cs:=[vi x_1.Op,vi x_1.A,vi x_1.B,vs x_1.S]) qjA rfl rfl (qae.cown 0 rfl rfl)) rfl rfl fun a E=>qaP [7] (by kernel_rfl) rfl (qaT ?_)
 ·refine wo rfl<|qbt (R:=pIns) (xo:=[.tmp 11]) (xs:=([x_1]:List (Ins))) E ok qc5 qcD rfl ⟨⟨_,rfl,rfl,⟨rfl,r1,r2,r3,l4⟩⟩,trivial⟩ rfl rfl rfl rfl fun c33 M34 a w E ok h35=>wn<|qar (cl1 (cq le_m0 ok [1,2,3] rfl) (cq le_m0 ok [1,3] rfl)) fun hT=>qaP [8] (by kernel_rfl) rfl (qaT ?_)
  ·refine wo rfl<|qcn (R:=pIns) E ok 4 mIns qc5 Tryz.underlying26 rfl h10 (qbz.ofRow h35 0 rfl ok) e29 ⟨_,qcD,rfl⟩ rfl rfl rfl rfl fun c36 M37 a w E ok h38=>wn<|qar (cl1 (cq le_m0 ok [1,2,3] rfl) (cq le_m0 ok [1,3] rfl)) fun hT=>kt 9 E rfl hT (qaj rfl) fun a E=>kt 10 E rfl hT (qai qed rfl) fun a E=>kt 11 E rfl hT (qai qdi rfl) fun a E=>qaP [12] (by kernel_rfl) rfl (qaT ?_)
   ·refine wo rfl<|qad E ok 2 rfl rfl rfl qm5 (ORow.cells h38) rfl ⟨(ORow.one h38),trivial⟩ rfl rfl fun w ok=>wn<|qar (cl2 (by kernel_rfl) (cq le_m0 ok [1,3] rfl)) fun hT=>qbw (by kernel_rfl) ?_
    exact ⟨rfl,⟨c5,M6,c36,M37,(ok.pk 5 [1,2,3,4] rfl (by decide)),E.keep [0],h7,h38⟩⟩
def qeM (u:World) (m0:Mem) (S:Segs) (r:Int) (a:Act) (w:World):Prop :=
 Ok u m0 S w ∧ a.defers = [] ∧ RVs Tryz.prog a w [.t 4 (.int .i64 r)] ∧ InR .i64 r
theorem qgx (N:Nat) (vs_0:Value) (s_0:List (List UInt8)) (hs_0:(pL 1 pS) m0 [vs_0] s_0) (v_1:List UInt8) (lv_1:v_1.length ≤ LIMS) {r:Int} (hF:qdW N s_0 v_1 = some r) (hG:Glob u) (ok:Ok u m0 S w) :
  Calls Tryz.prog 69 [vs_0,vs v_1].toArray w fun e w'=>(e = .returned (.int .i64 r) ∧ Ok u m0 S w') ∧ InR .i64 r:=by
 unfold qdW at hF
 refine en (qeM u m0 S) r Tryz.func69 rfl rfl rfl (fun _ _ h=>rb h rfl) fun fin a E=>sg<|aw E rfl fun a E=>wp_seq<|sg<|mv E rfl fun a E=>lv E ok (qbb qbx hs_0 rfl) fun a E=>mv E rfl fun a E=>wn<|wp_block<|bd hF fun o2 hL hF=>qa6 _ (fun (s:Int) a w=>Ok u m0 (S) w ∧ Env 19 a [(0,vs_0),(1,vs v_1),(7,(vi (s_0.length:Int))),(8,vi s)] ∧ InR .i64 s) (fun (b:(Unit ⊕ Int)) e a w=>(Sum.elim (fun b18=>e = (.exit 0) ∧ Ok u m0 (S) w ∧ Env 19 a []) (fun b19=>e = .ret ∧ qeM u m0 S b19 a w)) b) ?_ ?_ N _ a w hL ⟨ok,E.keep [0,1,7,8],(ir 0)⟩
 rotate_left
 ·intro e a w _ hO
  rcases o2 with o2 | o2
  rotate_left
  ·obtain ⟨rfl,hret⟩:=hO
   refine qaL<|qam ?_
   exact fin hF hret
  have hF:=qb4 hF
  obtain ⟨rfl,ok,E⟩:=hO
  refine qbf<|qaa<|sg<|aw E rfl fun a E=>wp_ret ?_
  exact fin hF ⟨ok,E.d,rz E rfl,(ir (-1))⟩
 rintro v4 a w r ⟨ok,E,r5⟩ hF
 replace hF:qdo N s_0 v_1 v4 = some r:=hF
 unfold qdo at hF
 refine sg<|lw E (qaS rfl rfl) fun a E=>wn<|wp_seq<|cg E rfl hF (fun c6 hF=>?_) fun c6 hF=>?_
 ·refine wp_exit<|qaX ?_
  cases hF
  exact so (sl ⟨rfl,⟨ok,E.keep []⟩⟩)
 refine wp_skip<|qaa<|wp_seq<|wp_block<|sg<|mv E rfl fun a E=>av E rfl fun a E=>wn<|sg<|mz E rfl rfl fun a E=>mv E rfl fun a E=>?_
 obtain ⟨x7,e8,hF⟩:=bnd hF
 obtain ⟨b9,o10,es11,hl12,rr13,at14,yy15⟩:=ia E 12 13 qbx hs_0 e8
 obtain ⟨rfl,l16⟩:=rr13
 refine lv E ok (yy15 _ _) fun a E=>lv E ok (qaz qao rfl (qae.ro at14)) fun a E=>lw E (qbm rfl rfl) fun a E=>wn<|cg E rfl hF (fun c17 hF=>?_) fun c17 hF=>?_
 ·refine wp_skip<|qag<|qaa<|qab<|lw E (qaC rfl rfl (InR.inc r5 (qas hs_0) c6)) fun a E=>mv E rfl fun a E=>wpList_nil ?_
  cases hF
  exact qat ⟨ok,E.keep [0,1,7,8],(InR.inc r5 (qas hs_0) c6)⟩
 refine sg<|mv E rfl fun a E=>aw E rfl fun a E=>wp_ret<|qaL<|qam ?_
 cases hF
 exact so (sr ⟨rfl,⟨ok,E.d,rz E rfl,r5⟩⟩)
def qhY (u:World) (m0:Mem) (S:Segs) (pb0:Nat) (x0:Compiler) (c1:Value) (M2:List (Nat × Obj)) (c4:Value) (M5:List (Nat × Obj)) (r:Int × Compiler) (a:Act) (w:World):Prop :=
 ∃ m1 c7 M8 c10 M11,m0.le m1 ∧ Ok u m1 ([(pb0,oc 57 [c7,c10])] :: M8 :: M11 :: S) w ∧ a.defers = [] ∧ RVs Tryz.prog a w [.t 4 (.int .i64 r.1)] ∧ InR .i64 r.1 ∧ ORow 9 1 pS m1 c7 r.2.Code.Names M8 ∧ ORow 47 4 pIns m1 c10 r.2.Code.Ins M11
theorem qdq (N:Nat) (s_1:List UInt8) (ls_1:s_1.length ≤ LIMS) {pb0:Nat} {c1:Value} {M2:List (Nat × Obj)} {c4:Value} {M5:List (Nat × Obj)} (x0:Compiler) (h3:ORow 9 1 pS m0 c1 x0.Code.Names M2) (h6:ORow 47 4 pIns m0 c4 x0.Code.Ins M5) {r:Int × Compiler} (hF:qcu N s_1 x0 = some r) (hG:Glob u) (ok:Ok u m0 ([(pb0,oc 57 [c1,c4])] :: M2 :: M5 :: S) w) :
  Calls Tryz.prog 50 [vp pb0,vs s_1].toArray w fun e w'=>∃ m1 c7 M8 c10 M11,e = .returned (.int .i64 r.1) ∧ m0.le m1 ∧ Ok u m1 ([(pb0,oc 57 [c7,c10])] :: M8 :: M11 :: S) w' ∧ InR .i64 r.1 ∧ ORow 9 1 pS m1 c7 r.2.Code.Names M8 ∧ ORow 47 4 pIns m1 c10 r.2.Code.Ins M11:=by
 have le_m0:=Mem.le.refl m0
 unfold qcu at hF
 refine en (qhY u m0 S pb0 x0 c1 M2 c4 M5) r Tryz.func50 rfl rfl rfl (by rintro a w ⟨m1,c7,M8,c10,M11,hle,ok,hd,hrv,h0,h1,h2⟩; exact qbs [.t 4 (.int .i64 r.1)] hd rfl hrv ⟨m1,c7,M8,c10,M11,rfl,hle,ok,h0,h1,h2⟩) fun fin a E=>sg<|aw E rfl fun a E=>sg<|mv E rfl fun a E=>lw E (qaj rfl) fun a E=>fv E qed rfl fun a E=>fk E ok qhr qdM rfl 0 rfl rfl fun a E=>mv E rfl fun a E=>?_
 obtain ⟨r18,e19,hF⟩:=bnd hF
 obtain ⟨m13,hle15,ok14,hfz16⟩:=(ok.frs 1 rfl).freeze
 have h17:=ORow.froz mS h3 hle15 hfz16 (by decide)
 refine qaf E qp0 rfl (qgx N _ x0.Code.Names h17 s_1 ls_1 e19 hG ok14) rfl rfl ?_
 rintro _ w ⟨⟨rfl,okz⟩,r20⟩
 replace ok:=(Ok.thawAt 1 rfl ok hle15 hfz16 okz)
 refine ⟨_,rfl,fun a E=>?_⟩
 refine aw E rfl fun a E=>wp_seq<|sg<|mv E rfl fun a E=>lw E (qaS rfl rfl) fun a E=>wn<|cg E rfl hF (fun c21 hF=>?_) fun c21 hF=>?_
 ·refine wp_skip<|qaa<|sg<|mv E rfl fun a E=>aw E rfl fun a E=>wp_ret ?_
  exact fin hF ⟨m0,c1,M2,c4,M5,le_m0,ok,E.d,rz E rfl,r20,h3,h6⟩
 refine sg<|mv E rfl fun a E=>lw E (qaj rfl) fun a E=>fv E qed rfl fun a E=>fk E ok qhr qdM rfl 0 rfl rfl fun a E=>lv E ok (qd3 qbx h3 rfl) fun a E=>aw E rfl fun a E=>qab<|mz E rfl rfl fun a E=>lw E (qaj rfl) fun a E=>fv E qed rfl fun a E=>fk E ok qhr qdM rfl 0 rfl rfl fun a E=>mv E rfl fun a E=>qbt (R:=pS) (xo:=[.tmp 27]) (xs:=([s_1]:List (List UInt8))) E ok qbx qdK rfl ⟨⟨_,rfl,rfl,(qbM ls_1)⟩,trivial⟩ rfl rfl rfl rfl fun c22 M23 a w E ok h24=>?_
 refine bd hF fun l25 e26 hF=>qcn (R:=pS) E ok 2 mS qbx Tryz.underlying25 rfl h3 (qbz.ofRow h24 0 rfl ok) e26 ⟨_,qdK,rfl⟩ rfl rfl rfl rfl fun c27 M28 a w E ok h29=>lw E (qaj rfl) fun a E=>fv E qed rfl fun a E=>fv E qhr rfl fun a E=>qad E ok 1 rfl rfl rfl qmX (ORow.cells h29) rfl ⟨(ORow.one h29),trivial⟩ rfl rfl fun w ok=>wn<|sg<|mv E rfl fun a E=>aw E rfl fun a E=>wp_ret ?_
 exact fin hF ⟨m0,c27,M28,c4,M5,le_m0,ok.drop,E.d,rz E rfl,(ORow.InR h3),h29,h6⟩
def qiW (u:World) (m0:Mem) (S:Segs) (r:Int) (a:Act) (w:World):Prop :=
 Ok u m0 S w ∧ a.defers = [] ∧ RVs Tryz.prog a w [.t 2 (.int .i64 r)] ∧ InR .i64 r
theorem qgt (N:Nat) (kind_0:Int) (rkind_0:InR .i64 kind_0) {r:Int} (hF:qeD N kind_0 = some r) (hG:Glob u) (ok:Ok u m0 S w) :
  Calls Tryz.prog 53 [vi kind_0].toArray w fun e w'=>(e = .returned (.int .i64 r) ∧ Ok u m0 S w') ∧ InR .i64 r:=by
 unfold qeD at hF
 refine en (qiW u m0 S) r Tryz.func53 rfl rfl rfl (fun _ _ h=>rb h rfl) fun fin a E=>sg<|aw E rfl fun a E=>sg<|lv E ok (qlI (ps:=[(2,.const (vi 5)),(3,.const (vi 6)),(4,.const (vi 7)),(5,.const (vi 8)),(6,.const (vi 9))]) (qs:=[(2,[vi 5]),(3,[vi 6]),(4,[vi 7]),(5,[vi 8]),(6,[vi 9])]) (cs:=[vi 0,vi 0,vi 5,vi 6,vi 7,vi 8,vi 9]) qnW qoI rfl ⟨rfl,rfl,rfl,⟨rfl,rfl,rfl,⟨rfl,rfl,rfl,⟨rfl,rfl,rfl,⟨rfl,rfl,rfl,trivial⟩⟩⟩⟩⟩ rfl) fun a E=>mv E rfl fun a E=>bd hF fun z1 e2 hF=>lv E ok (qpE (f:=Value.int .i64) (xs:=[(0:Int),(0:Int),(5:Int),(6:Int),(7:Int),(8:Int),(9:Int)]) Tryz.underlying129 qgj qaq rfl rfl rfl rfl e2) fun a E=>aw E rfl fun a E=>wp_ret ?_
 exact fin hF ⟨ok,E.d,rz E rfl,(qmV (q:=InR .i64) (xs:=[(0:Int),(0:Int),(5:Int),(6:Int),(7:Int),(8:Int),(9:Int)]) (by decide) e2)⟩
def qhA (u:World) (m0:Mem) (S:Segs) (pb0:Nat) (x0:Compiler) (c1:Value) (M2:List (Nat × Obj)) (c4:Value) (M5:List (Nat × Obj)) (r:Compiler) (a:Act) (w:World):Prop :=
 ∃ m1 c7 M8 c10 M11,m0.le m1 ∧ Ok u m1 ([(pb0,oc 57 [c7,c10])] :: M8 :: M11 :: S) w ∧ a.defers = [] ∧ RVs Tryz.prog a w [] ∧ ORow 9 1 pS m1 c7 r.Code.Names M8 ∧ ORow 47 4 pIns m1 c10 r.Code.Ins M11
def qgA (u:World) (m0:Mem) (S:Segs) (pb0:Nat) (x0:Compiler) (c9:Value) (M10:List (Nat × Obj)) (c12:Value) (M13:List (Nat × Obj)) (r:Compiler) (a:Act) (w:World):Prop :=
 ∃ m1 c15 M16 c18 M19,m0.le m1 ∧ Ok u m1 ([(pb0,oc 57 [c15,c18])] :: M16 :: M19 :: S) w ∧ a.defers = [] ∧ RVs Tryz.prog a w [] ∧ ORow 9 1 pS m1 c15 r.Code.Names M16 ∧ ORow 47 4 pIns m1 c18 r.Code.Ins M19
def qcy (N:Nat):Prop:=∀ {u:World} {m0:Mem} {S:Segs} {w:World} (vl_1:Value) (l_1:List (Part)) (hl_1:(pL 6 qbg) m0 [vl_1] l_1) (count_2:List UInt8) (lcount_2:count_2.length ≤ LIMS) {pb0:Nat} {c1:Value} {M2:List (Nat × Obj)} {c4:Value} {M5:List (Nat × Obj)} (x0:Compiler) (h3:ORow 9 1 pS m0 c1 x0.Code.Names M2) (h6:ORow 47 4 pIns m0 c4 x0.Code.Ins M5) {r:Compiler} (hF:qbH N l_1 count_2 x0 = some r) (hG:Glob u) (ok:Ok u m0 ([(pb0,oc 57 [c1,c4])] :: M2 :: M5 :: S) w),Calls Tryz.prog 31 [vp pb0,vl_1,vs count_2].toArray w fun e w'=>∃ m1 c7 M8 c10 M11,e = .returned (.tuple [].toArray) ∧ m0.le m1 ∧ Ok u m1 ([(pb0,oc 57 [c7,c10])] :: M8 :: M11 :: S) w' ∧ ORow 9 1 pS m1 c7 r.Code.Names M8 ∧ ORow 47 4 pIns m1 c10 r.Code.Ins M11
def qcg (N:Nat):Prop:=∀ {u:World} {m0:Mem} {S:Segs} {w:World} (vx_1:List Value) (x_1:Part) (hx_1:qbg m0 vx_1 x_1) (count_2:List UInt8) (lcount_2:count_2.length ≤ LIMS) {pb0:Nat} {c9:Value} {M10:List (Nat × Obj)} {c12:Value} {M13:List (Nat × Obj)} (x0:Compiler) (h11:ORow 9 1 pS m0 c9 x0.Code.Names M10) (h14:ORow 47 4 pIns m0 c12 x0.Code.Ins M13) {r:Compiler} (hF:qbN N x_1 count_2 x0 = some r) (hG:Glob u) (ok:Ok u m0 ([(pb0,oc 57 [c9,c12])] :: M10 :: M13 :: S) w),Calls Tryz.prog 52 [vp pb0,.agg vx_1.toArray,vs count_2].toArray w fun e w'=>∃ m1 c15 M16 c18 M19,e = .returned (.tuple [].toArray) ∧ m0.le m1 ∧ Ok u m1 ([(pb0,oc 57 [c15,c18])] :: M16 :: M19 :: S) w' ∧ ORow 9 1 pS m1 c15 r.Code.Names M16 ∧ ORow 47 4 pIns m1 c18 r.Code.Ins M19
theorem qgY (N:Nat) (ih_compile_compiler_parts:qcy N) (ih_compile_compiler_selection:qcg N):qcy (N + 1):=by
 intro u m0 S w vl_1 l_1 hl_1 count_2 lcount_2 pb0 c1 M2 c4 M5 x0 h3 h6 r hF hG ok
 have le_m0:=Mem.le.refl m0
 have hF0:qdO (qbH N) (qbN N) N l_1 count_2 x0 = some r:=hF
 have hF:=hF0
 clear hF0
 unfold qdO at hF
 refine en (qhA u m0 S pb0 x0 c1 M2 c4 M5) r Tryz.func31 rfl rfl rfl (by rintro a w ⟨m1,c7,M8,c10,M11,hle,ok,hd,hrv,h0,h1⟩; exact qbs [] hd rfl hrv ⟨m1,c7,M8,c10,M11,rfl,hle,ok,h0,h1⟩) fun fin a E=>sg<|mv E rfl fun a E=>lv E ok (qbb qb5 hl_1 rfl) fun a E=>mv E rfl fun a E=>wn<|wp_block<|bd hF fun o21 hL hF=>qa6 _ (fun (s:Int × Compiler) a w=>∃ m22 c24 M25 c27 M28,m0.le m22 ∧ Ok u m22 ([(pb0,oc 57 [c24,c27])] :: M25 :: M28 :: S) w ∧ Env 88 a [(0,vp pb0),(2,vs count_2),(8,vl_1),(9,(vi (l_1.length:Int))),(10,vi s.1)] ∧ InR .i64 s.1 ∧ ORow 9 1 pS m22 c24 s.2.Code.Names M25 ∧ ORow 47 4 pIns m22 c27 s.2.Code.Ins M28) (fun (b:Compiler) e a w=>e = (.exit 0) ∧ ∃ m304 c305 M306 c308 M309,m0.le m304 ∧ Ok u m304 ([(pb0,oc 57 [c305,c308])] :: M306 :: M309 :: S) w ∧ Env 88 a [] ∧ ORow 9 1 pS m304 c305 b.Code.Names M306 ∧ ORow 47 4 pIns m304 c308 b.Code.Ins M309) ?_ ?_ N _ a w hL ⟨m0,c1,M2,c4,M5,Mem.le.refl _,ok,E.keep [0,2,8,9,10],(ir 0),h3,h6⟩
 rotate_left
 ·intro e a w _ hO
  obtain ⟨rfl,m297,c298,M299,c301,M302,hle,ok,E,h300,h303⟩:=hO
  have le_m0:=le_m0.trans hle
  have hl_1:=(mL qak).up hle hl_1
  refine qbf ?_
  exact fin hF ⟨m297,c298,M299,c301,M302,le_m0,ok,E.d,trivial,h300,h303⟩
 rintro ⟨v30,v31⟩ a w r ⟨m32,c34,M35,c37,M38,hle,ok,E,r33,h36,h39⟩ hF
 replace hF:qea (qbH N) (qbN N) N l_1 count_2 v30 v31 = some r:=hF
 unfold qea at hF
 have le_m0:=le_m0.trans hle
 have hl_1:=(mL qak).up hle hl_1
 refine sg<|lw E (qaS rfl rfl) fun a E=>wn<|wp_seq<|cg E rfl hF (fun c40 hF=>?_) fun c40 hF=>?_
 ·refine wp_exit<|qaX ?_
  cases hF
  exact so (⟨rfl,⟨m32,c34,M35,c37,M38,le_m0,ok,E.keep [],h36,h39⟩⟩)
 refine wp_skip<|qaa<|wp_seq<|wp_block<|sg ?_
 obtain ⟨x41,e42,hF⟩:=bnd hF
 obtain ⟨b43,o44,es45,hl46,rr47,at48,yy49⟩:=ia E 8 10 qb5 hl_1 e42
 obtain ⟨c54,c56,rfl,r50,l51,l52,l53,h55,h57⟩:=(qbp.1 rr47)
 refine lv E ok (yy49 _ _) fun a E=>lv E ok (qan (cs:=[vi x41.Kind,vs x41.Text,vs x41.Name,vs x41.Style,c54,c56]) qdJ rfl rfl (qae.ro at48)) fun a E=>qa3 E ok qby rfl rfl fun b58 a w E ok=>qad E ok 0 rfl rfl rfl qfy rfl rfl ⟨rfl,rfl,rfl,rfl,(qc9 h55),(qc9 h57),trivial⟩ rfl rfl fun w ok=>wn<|wp_block<|sg<|fk E ok qaH qaq rfl 0 rfl rfl fun a E=>lw E (qap rfl rfl) fun a E=>aw E rfl fun a E=>cf E rfl hF (fun c59 hF=>?_) fun c59 hF=>?_
 ·refine qab<|mv E rfl fun a E=>fk E ok qep qao rfl 0 rfl rfl fun a E=>lw E (qau (ps:=[(0,.const (vi 1)),(3,.tmp 32)]) (qs:=[(0,[vi 1]),(3,[vs x41.Text])]) (cs:=[vi 1,vi 0,vi 0,vs x41.Text]) qcD qcJ rfl ⟨rfl,rfl,rfl,⟨rfl,rfl,rfl,trivial⟩⟩ rfl) fun a E=>?_
  obtain ⟨r60,e61,hF⟩:=bnd hF
  replace ok:Ok u m32 ([(pb0,oc 57 [c34,c37])] :: M35 :: M38 :: [(b58,oc 82 [vi x41.Kind,vs x41.Text,vs x41.Name,vs x41.Style,c54,c56])] :: S) w:=(ok.pk 4 [1,2,3,0] rfl (by decide))
  refine qaf E qfF rfl (qba N _ (Ins.mk 1 0 0 x41.Text) ⟨rfl,(ir 1),(ir 0),(ir 0),l51⟩ v31 h36 h39 e61 hG ok) rfl rfl ?_
  rintro _ w ⟨m62,c64,M65,c67,M68,rfl,hle,ok,r63,h66,h69⟩
  have le_m0:=le_m0.trans hle
  have hl_1:=(mL qak).up hle hl_1
  have h55:=(mL qaG).up hle h55
  have h57:=(mL qak).up hle h57
  have at48:=At.up hle at48
  refine ⟨_,rfl,fun a E=>?_⟩
  refine wpList_nil<|qag<|qag<|qaa<|qab<|lw E (qaC rfl rfl (InR.inc r33 (qas hl_1) c40)) fun a E=>mv E rfl fun a E=>wpList_nil ?_
  cases hF
  exact qat ⟨m62,c64,M65,c67,M68,le_m0,(ok.pk 4 [0,1,2] rfl (by decide)),E.keep [0,2,8,9,10],(InR.inc r33 (qas hl_1) c40),h66,h69⟩
 refine sg<|fk E ok qaH qaq rfl 0 rfl rfl fun a E=>lw E (qap rfl rfl) fun a E=>aw E rfl fun a E=>cf E rfl hF (fun c70 hF=>?_) fun c70 hF=>?_
 ·refine qab<|mz E rfl rfl fun a E=>mv E rfl fun a E=>?_
  obtain ⟨r71,e72,hF⟩:=bnd hF
  replace ok:Ok u m32 ([(pb0,oc 57 [c34,c37])] :: M35 :: M38 :: [(b58,oc 82 [vi x41.Kind,vs x41.Text,vs x41.Name,vs x41.Style,c54,c56])] :: S) w:=(ok.pk 4 [1,2,3,0] rfl (by decide))
  refine qaf E qlw rfl (qdq N count_2 lcount_2 v31 h36 h39 e72 hG ok) rfl rfl ?_
  rintro _ w ⟨m73,c75,M76,c78,M79,rfl,hle,ok,r74,h77,h80⟩
  have le_m0:=le_m0.trans hle
  have hl_1:=(mL qak).up hle hl_1
  have h55:=(mL qaG).up hle h55
  have h57:=(mL qak).up hle h57
  have at48:=At.up hle at48
  refine ⟨_,rfl,fun a E=>?_⟩
  refine lw E (qau (ps:=[(0,.const (vi 6)),(1,.tmp 42)]) (qs:=[(0,[vi 6]),(1,[vi r71.1])]) (cs:=[vi 6,vi r71.1,vi 0,(vs ([]))]) qcD qcJ rfl ⟨rfl,rfl,rfl,⟨rfl,rfl,rfl,trivial⟩⟩ rfl) fun a E=>bd hF fun r81 e82 hF=>qaf E qfF rfl (qba N _ (Ins.mk 6 r71.1 0 ([])) ⟨rfl,(ir 6),r74,(ir 0),(Nat.zero_le _)⟩ r71.2 h77 h80 e82 hG ok) rfl rfl ?_
  rintro _ w ⟨m83,c85,M86,c88,M89,rfl,hle,ok,r84,h87,h90⟩
  have le_m0:=le_m0.trans hle
  have hl_1:=(mL qak).up hle hl_1
  have h55:=(mL qaG).up hle h55
  have h57:=(mL qak).up hle h57
  have at48:=At.up hle at48
  refine ⟨_,rfl,fun a E=>?_⟩
  refine wpList_nil<|qag<|qag<|qaa<|qab<|lw E (qaC rfl rfl (InR.inc r33 (qas hl_1) c40)) fun a E=>mv E rfl fun a E=>wpList_nil ?_
  cases hF
  exact qat ⟨m83,c85,M86,c88,M89,le_m0,(ok.pk 4 [0,1,2] rfl (by decide)),E.keep [0,2,8,9,10],(InR.inc r33 (qas hl_1) c40),h87,h90⟩
 refine sg<|fk E ok qaH qaq rfl 0 rfl rfl fun a E=>lw E (qap rfl rfl) fun a E=>mv E rfl fun a E=>bw E 49 hF (fun c91 hF E=>?_) fun c91 hF E=>?_
 ·as_aux_lemma =>
   refine lsz E fun a E=>pf E rfl rfl fun a E=>aw E rfl fun a E=>c_if E rfl (fun h=>by cases h) (fun _=>?_)
   refine sg<|fk E ok qaH qaq rfl 0 rfl rfl fun a E=>lw E (qap rfl rfl) fun a E=>aw E rfl fun a E=>cf E rfl hF (fun c200 hF=>?_) fun c200 hF=>?_
   ·refine sg<|mv E rfl fun a E=>fk E ok qa2 qao rfl 0 rfl rfl fun a E=>lw E (qau (ps:=[(0,.const (vi 2)),(3,.tmp 66)]) (qs:=[(0,[vi 2]),(3,[vs x41.Name])]) (cs:=[vi 2,vi 0,vi 0,vs x41.Name]) qcD qcJ rfl ⟨rfl,rfl,rfl,⟨rfl,rfl,rfl,trivial⟩⟩ rfl) fun a E=>?_
    obtain ⟨r201,e202,hF⟩:=bnd hF
    replace ok:Ok u m32 ([(pb0,oc 57 [c34,c37])] :: M35 :: M38 :: [(b58,oc 82 [vi x41.Kind,vs x41.Text,vs x41.Name,vs x41.Style,c54,c56])] :: S) w:=(ok.pk 4 [1,2,3,0] rfl (by decide))
    refine qaf E qfF rfl (qba N _ (Ins.mk 2 0 0 x41.Name) ⟨rfl,(ir 2),(ir 0),(ir 0),l52⟩ v31 h36 h39 e202 hG ok) rfl rfl ?_
    rintro _ w ⟨m203,c205,M206,c208,M209,rfl,hle,ok,r204,h207,h210⟩
    have le_m0:=le_m0.trans hle
    have hl_1:=(mL qak).up hle hl_1
    have h55:=(mL qaG).up hle h55
    have h57:=(mL qak).up hle h57
    have at48:=At.up hle at48
    refine ⟨_,rfl,fun a E=>?_⟩
    refine wn<|sg<|mv E rfl fun a E=>fk E ok qcV qcW rfl 3 rfl rfl fun a E=>mv E rfl fun a E=>bd hF fun r211 e212 hF=>qaf E qlp rfl (ih_compile_compiler_parts _ x41.Parts h57 count_2 lcount_2 r201.2 h207 h210 e212 hG ok) rfl rfl ?_
    rintro _ w ⟨m213,c214,M215,c217,M218,rfl,hle,ok,h216,h219⟩
    have le_m0:=le_m0.trans hle
    have hl_1:=(mL qak).up hle hl_1
    have h55:=(mL qaG).up hle h55
    have h57:=(mL qak).up hle h57
    have at48:=At.up hle at48
    refine ⟨_,rfl,fun a E=>?_⟩
    refine wn<|qab<|mv E rfl fun a E=>fk E ok qa2 qao rfl 3 rfl rfl fun a E=>lw E (qau (ps:=[(0,.const (vi 3)),(3,.tmp 76)]) (qs:=[(0,[vi 3]),(3,[vs x41.Name])]) (cs:=[vi 3,vi 0,vi 0,vs x41.Name]) qcD qcJ rfl ⟨rfl,rfl,rfl,⟨rfl,rfl,rfl,trivial⟩⟩ rfl) fun a E=>bd hF fun r220 e221 hF=>qaf E qfF rfl (qba N _ (Ins.mk 3 0 0 x41.Name) ⟨rfl,(ir 3),(ir 0),(ir 0),l52⟩ r211 h216 h219 e221 hG ok) rfl rfl ?_
    rintro _ w ⟨m222,c224,M225,c227,M228,rfl,hle,ok,r223,h226,h229⟩
    have le_m0:=le_m0.trans hle
    have hl_1:=(mL qak).up hle hl_1
    have h55:=(mL qaG).up hle h55
    have h57:=(mL qak).up hle h57
    have at48:=At.up hle at48
    refine ⟨_,rfl,fun a E=>?_⟩
    refine wpList_nil<|qag<|qag<|qaa<|qab<|lw E (qaC rfl rfl (InR.inc r33 (qas hl_1) c40)) fun a E=>mv E rfl fun a E=>wpList_nil ?_
    cases hF
    exact qat ⟨m222,c224,M225,c227,M228,le_m0,(ok.pk 4 [0,1,2] rfl (by decide)),E.keep [0,2,8,9,10],(InR.inc r33 (qas hl_1) c40),h226,h229⟩
   refine sg<|fk E ok qaH qaq rfl 0 rfl rfl fun a E=>bd hF fun r230 e231 hF=>lc E qh2 rfl (qci N x41.Kind r50 e231 hG ok) fun w ok a E=>aw E rfl fun a E=>cf E rfl hF (fun c232 hF=>?_) fun c232 hF=>?_
   ·refine qab<|mv E rfl fun a E=>lv E ok (qan (cs:=[vi x41.Kind,vs x41.Text,vs x41.Name,vs x41.Style,c54,c56]) qdJ rfl rfl (qae.own 0 rfl rfl)) fun a E=>mv E rfl fun a E=>?_
    obtain ⟨r233,e234,hF⟩:=bnd hF
    replace ok:Ok u m32 ([(pb0,oc 57 [c34,c37])] :: M35 :: M38 :: [(b58,oc 82 [vi x41.Kind,vs x41.Text,vs x41.Name,vs x41.Style,c54,c56])] :: S) w:=(ok.pk 4 [1,2,3,0] rfl (by decide))
    refine qaf E qol rfl (ih_compile_compiler_selection _ x41 (qbp.2 ⟨_,_,rfl,r50,l51,l52,l53,h55,h57⟩) count_2 lcount_2 v31 h36 h39 e234 hG ok) rfl rfl ?_
    rintro _ w ⟨m235,c236,M237,c239,M240,rfl,hle,ok,h238,h241⟩
    have le_m0:=le_m0.trans hle
    have hl_1:=(mL qak).up hle hl_1
    have h55:=(mL qaG).up hle h55
    have h57:=(mL qak).up hle h57
    have at48:=At.up hle at48
    refine ⟨_,rfl,fun a E=>?_⟩
    refine wpList_nil<|qag<|qag<|qaa<|qab<|lw E (qaC rfl rfl (InR.inc r33 (qas hl_1) c40)) fun a E=>mv E rfl fun a E=>wpList_nil ?_
    cases hF
    exact qat ⟨m235,c236,M237,c239,M240,le_m0,(ok.pk 4 [0,1,2] rfl (by decide)),E.keep [0,2,8,9,10],(InR.inc r33 (qas hl_1) c40),h238,h241⟩
   refine bd hF fun o242 hJ hF=>qaK (Q':=fun e a w=>e = .normal ∧ ∃ m243 c244 M245 c247 M248,m32.le m243 ∧ Ok u m243 ([(b58,oc 82 [vi x41.Kind,vs x41.Text,vs x41.Name,vs x41.Style,c54,c56])] :: [(pb0,oc 57 [c244,c247])] :: M245 :: M248 :: S) w ∧ Env 88 a [(0,vp pb0),(2,vs count_2),(8,vl_1),(9,(vi (l_1.length:Int))),(10,vi v30)] ∧ ORow 9 1 pS m243 c244 o242.Code.Names M245 ∧ ORow 47 4 pIns m243 c247 o242.Code.Ins M248) ?_ ?_
   rotate_left
   ·intro e a w hO
    obtain ⟨rfl,m290,c291,M292,c294,M295,hle,ok,E,h293,h296⟩:=hO
    have le_m0:=le_m0.trans hle
    have hl_1:=(mL qak).up hle hl_1
    have h55:=(mL qaG).up hle h55
    have h57:=(mL qak).up hle h57
    have at48:=At.up hle at48
    refine qag<|qag<|qaa<|qab<|lw E (qaC rfl rfl (InR.inc r33 (qas hl_1) c40)) fun a E=>mv E rfl fun a E=>wpList_nil ?_
    cases hF
    exact qat ⟨m290,c291,M292,c294,M295,le_m0,(ok.pk 4 [1,2,3] rfl (by decide)),E.keep [0,2,8,9,10],(InR.inc r33 (qas hl_1) c40),h293,h296⟩
   have hF:=hJ
   have le_m32:=Mem.le.refl m32
   obtain ⟨r250,e251,hF⟩:=bnd hF
   obtain ⟨r253,e254,hF⟩:=bnd hF
   obtain ⟨r263,e264,hF⟩:=bnd hF
   obtain rfl:=sj hF
   refine qbl [] (Cls u m32 ([(b58,oc 82 [vi x41.Kind,vs x41.Text,vs x41.Name,vs x41.Style,c54,c56])] :: [])) (Cls u m32 ([(b58,oc 82 [vi x41.Kind,vs x41.Text,vs x41.Name,vs x41.Style,c54,c56])] :: [])) (by kernel_rfl) ?_
   intro w hw
   replace ok:=qbE ok hw
   clear hw
   have h55_o:=h55
   have h57_o:=h57
   refine qar (cl1 (cq le_m32 ok [0] rfl) (cq le_m32 ok [0] rfl)) fun hT=>kt 0 E rfl hT (qah rfl) fun a E=>kt 1 E rfl hT (qai qaH rfl) fun a E=>kt 2 E rfl hT (qaz qaq rfl (qae.cown 0 rfl rfl)) fun a E=>kt 4 E rfl hT (qah rfl) fun a E=>kt 5 E rfl hT (qai qa2 rfl) fun a E=>kt 6 E rfl hT (qaz qao rfl (qae.cown 0 rfl rfl)) fun a E=>kt 8 E rfl hT (qai qbc rfl) fun a E=>kt 9 E rfl hT (qaz qao rfl (qae.cown 0 rfl rfl)) fun a E=>qaP [3] (by kernel_rfl) rfl (qaT ?_)
   ·refine wo rfl<|qaf E qob rfl (qgt N x41.Kind r50 e251 hG ok) rfl rfl ?_
    rintro _ w ⟨⟨rfl,ok⟩,r273⟩
    refine ⟨_,rfl,fun a E=>?_⟩
    refine wn<|qar (cl1 (cq le_m32 ok [0] rfl) (cq le_m32 ok [0] rfl)) fun hT=>qaP [7] (by kernel_rfl) rfl (qaT ?_)
    ·refine qco (o:=_) rfl ?_
     replace ok:Ok u m32 ([(pb0,oc 57 [c34,c37])] :: M35 :: M38 :: [(b58,oc 82 [vi x41.Kind,vs x41.Text,vs x41.Name,vs x41.Style,c54,c56])] :: S) w:=(ok.pk 4 [1,2,3,0] rfl (by decide))
     refine qaf E qlw rfl (qdq N x41.Name l52 v31 h36 h39 e254 hG ok) rfl rfl ?_
     rintro _ w ⟨m274,c276,M277,c279,M280,rfl,hle,ok,r275,h278,h281⟩
     have le_m0:=le_m0.trans hle
     have le_m32:=le_m32.trans hle
     have hl_1:=(mL qak).up hle hl_1
     have h55:=(mL qaG).up hle h55
     have h57:=(mL qak).up hle h57
     have at48:=At.up hle at48
     refine ⟨_,rfl,fun a E=>?_⟩
     refine wn<|qar (cl1 (cq le_m32 ok [3] rfl) (cq le_m32 ok [3] rfl)) fun hT=>kt 10 E rfl hT (qau (ps:=[(0,.tmp 17),(1,.tmp 21),(3,.tmp 23)]) (qs:=[(0,[vi r250]),(1,[vi r253.1]),(3,[vs x41.Style])]) (cs:=[vi r250,vi r253.1,vi 0,vs x41.Style]) qcD qcJ rfl ⟨rfl,rfl,rfl,⟨rfl,rfl,rfl,⟨rfl,rfl,rfl,trivial⟩⟩⟩ rfl) fun a E=>qaP [11] (by kernel_rfl) rfl (qaT ?_)
     ·refine wo rfl<|qaf E qfF rfl (qba N _ (Ins.mk r250 r253.1 0 x41.Style) ⟨rfl,r273,r275,(ir 0),l53⟩ r253.2 h278 h281 e264 hG ok) rfl rfl ?_
      rintro _ w ⟨m282,c284,M285,c287,M288,rfl,hle,ok,r283,h286,h289⟩
      have le_m0:=le_m0.trans hle
      have le_m32:=le_m32.trans hle
      have hl_1:=(mL qak).up hle hl_1
      have h55:=(mL qaG).up hle h55
      have h57:=(mL qak).up hle h57
      have at48:=At.up hle at48
      refine ⟨_,rfl,fun a E=>?_⟩
      refine wn<|qar (cl1 (cq le_m32 ok [3] rfl) (cq le_m32 ok [3] rfl)) fun hT=>qbw (by kernel_rfl) ?_
      exact ⟨rfl,⟨m282,c284,M285,c287,M288,le_m32,(ok.pk 4 [3,0,1,2] rfl (by decide)),E.keep [0,2,8,9,10],h286,h289⟩⟩
 refine fk E ok qcV qcW rfl 0 rfl rfl fun a E=>lv E ok (qbb qb5 h57 rfl) fun a E=>lw E (qap rfl rfl) fun a E=>pt E rfl rfl fun a E=>aw E rfl fun a E=>cf E rfl hF (fun c92 hF=>?_) fun c92 hF=>?_
 ·refine qab<|mv E rfl fun a E=>fk E ok qa2 qao rfl 0 rfl rfl fun a E=>lw E (qau (ps:=[(0,.const (vi 4)),(3,.tmp 57)]) (qs:=[(0,[vi 4]),(3,[vs x41.Name])]) (cs:=[vi 4,vi 0,vi 0,vs x41.Name]) qcD qcJ rfl ⟨rfl,rfl,rfl,⟨rfl,rfl,rfl,trivial⟩⟩ rfl) fun a E=>?_
  obtain ⟨r93,e94,hF⟩:=bnd hF
  replace ok:Ok u m32 ([(pb0,oc 57 [c34,c37])] :: M35 :: M38 :: [(b58,oc 82 [vi x41.Kind,vs x41.Text,vs x41.Name,vs x41.Style,c54,c56])] :: S) w:=(ok.pk 4 [1,2,3,0] rfl (by decide))
  refine qaf E qfF rfl (qba N _ (Ins.mk 4 0 0 x41.Name) ⟨rfl,(ir 4),(ir 0),(ir 0),l52⟩ v31 h36 h39 e94 hG ok) rfl rfl ?_
  rintro _ w ⟨m95,c97,M98,c100,M101,rfl,hle,ok,r96,h99,h102⟩
  have le_m0:=le_m0.trans hle
  have hl_1:=(mL qak).up hle hl_1
  have h55:=(mL qaG).up hle h55
  have h57:=(mL qak).up hle h57
  have at48:=At.up hle at48
  refine ⟨_,rfl,fun a E=>?_⟩
  refine wpList_nil<|qag<|qag<|qaa<|qab<|lw E (qaC rfl rfl (InR.inc r33 (qas hl_1) c40)) fun a E=>mv E rfl fun a E=>wpList_nil ?_
  cases hF
  exact qat ⟨m95,c97,M98,c100,M101,le_m0,(ok.pk 4 [0,1,2] rfl (by decide)),E.keep [0,2,8,9,10],(InR.inc r33 (qas hl_1) c40),h99,h102⟩
 refine sg<|fk E ok qaH qaq rfl 0 rfl rfl fun a E=>lw E (qap rfl rfl) fun a E=>aw E rfl fun a E=>cf E rfl hF (fun c103 hF=>?_) fun c103 hF=>?_
 ·refine sg<|mv E rfl fun a E=>fk E ok qa2 qao rfl 0 rfl rfl fun a E=>lw E (qau (ps:=[(0,.const (vi 2)),(3,.tmp 66)]) (qs:=[(0,[vi 2]),(3,[vs x41.Name])]) (cs:=[vi 2,vi 0,vi 0,vs x41.Name]) qcD qcJ rfl ⟨rfl,rfl,rfl,⟨rfl,rfl,rfl,trivial⟩⟩ rfl) fun a E=>?_
  obtain ⟨r104,e105,hF⟩:=bnd hF
  replace ok:Ok u m32 ([(pb0,oc 57 [c34,c37])] :: M35 :: M38 :: [(b58,oc 82 [vi x41.Kind,vs x41.Text,vs x41.Name,vs x41.Style,c54,c56])] :: S) w:=(ok.pk 4 [1,2,3,0] rfl (by decide))
  refine qaf E qfF rfl (qba N _ (Ins.mk 2 0 0 x41.Name) ⟨rfl,(ir 2),(ir 0),(ir 0),l52⟩ v31 h36 h39 e105 hG ok) rfl rfl ?_
  rintro _ w ⟨m106,c108,M109,c111,M112,rfl,hle,ok,r107,h110,h113⟩
  have le_m0:=le_m0.trans hle
  have hl_1:=(mL qak).up hle hl_1
  have h55:=(mL qaG).up hle h55
  have h57:=(mL qak).up hle h57
  have at48:=At.up hle at48
  refine ⟨_,rfl,fun a E=>?_⟩
  refine wn<|sg<|mv E rfl fun a E=>fk E ok qcV qcW rfl 3 rfl rfl fun a E=>mv E rfl fun a E=>bd hF fun r114 e115 hF=>qaf E qlp rfl (ih_compile_compiler_parts _ x41.Parts h57 count_2 lcount_2 r104.2 h110 h113 e115 hG ok) rfl rfl ?_
  rintro _ w ⟨m116,c117,M118,c120,M121,rfl,hle,ok,h119,h122⟩
  have le_m0:=le_m0.trans hle
  have hl_1:=(mL qak).up hle hl_1
  have h55:=(mL qaG).up hle h55
  have h57:=(mL qak).up hle h57
  have at48:=At.up hle at48
  refine ⟨_,rfl,fun a E=>?_⟩
  refine wn<|qab<|mv E rfl fun a E=>fk E ok qa2 qao rfl 3 rfl rfl fun a E=>lw E (qau (ps:=[(0,.const (vi 3)),(3,.tmp 76)]) (qs:=[(0,[vi 3]),(3,[vs x41.Name])]) (cs:=[vi 3,vi 0,vi 0,vs x41.Name]) qcD qcJ rfl ⟨rfl,rfl,rfl,⟨rfl,rfl,rfl,trivial⟩⟩ rfl) fun a E=>bd hF fun r123 e124 hF=>qaf E qfF rfl (qba N _ (Ins.mk 3 0 0 x41.Name) ⟨rfl,(ir 3),(ir 0),(ir 0),l52⟩ r114 h119 h122 e124 hG ok) rfl rfl ?_
  rintro _ w ⟨m125,c127,M128,c130,M131,rfl,hle,ok,r126,h129,h132⟩
  have le_m0:=le_m0.trans hle
  have hl_1:=(mL qak).up hle hl_1
  have h55:=(mL qaG).up hle h55
  have h57:=(mL qak).up hle h57
  have at48:=At.up hle at48
  refine ⟨_,rfl,fun a E=>?_⟩
  refine wpList_nil<|qag<|qag<|qaa<|qab<|lw E (qaC rfl rfl (InR.inc r33 (qas hl_1) c40)) fun a E=>mv E rfl fun a E=>wpList_nil ?_
  cases hF
  exact qat ⟨m125,c127,M128,c130,M131,le_m0,(ok.pk 4 [0,1,2] rfl (by decide)),E.keep [0,2,8,9,10],(InR.inc r33 (qas hl_1) c40),h129,h132⟩
 refine sg<|fk E ok qaH qaq rfl 0 rfl rfl fun a E=>bd hF fun r133 e134 hF=>lc E qh2 rfl (qci N x41.Kind r50 e134 hG ok) fun w ok a E=>aw E rfl fun a E=>cf E rfl hF (fun c135 hF=>?_) fun c135 hF=>?_
 ·refine qab<|mv E rfl fun a E=>lv E ok (qan (cs:=[vi x41.Kind,vs x41.Text,vs x41.Name,vs x41.Style,c54,c56]) qdJ rfl rfl (qae.own 0 rfl rfl)) fun a E=>mv E rfl fun a E=>?_
  obtain ⟨r136,e137,hF⟩:=bnd hF
  replace ok:Ok u m32 ([(pb0,oc 57 [c34,c37])] :: M35 :: M38 :: [(b58,oc 82 [vi x41.Kind,vs x41.Text,vs x41.Name,vs x41.Style,c54,c56])] :: S) w:=(ok.pk 4 [1,2,3,0] rfl (by decide))
  refine qaf E qol rfl (ih_compile_compiler_selection _ x41 (qbp.2 ⟨_,_,rfl,r50,l51,l52,l53,h55,h57⟩) count_2 lcount_2 v31 h36 h39 e137 hG ok) rfl rfl ?_
  rintro _ w ⟨m138,c139,M140,c142,M143,rfl,hle,ok,h141,h144⟩
  have le_m0:=le_m0.trans hle
  have hl_1:=(mL qak).up hle hl_1
  have h55:=(mL qaG).up hle h55
  have h57:=(mL qak).up hle h57
  have at48:=At.up hle at48
  refine ⟨_,rfl,fun a E=>?_⟩
  refine wpList_nil<|qag<|qag<|qaa<|qab<|lw E (qaC rfl rfl (InR.inc r33 (qas hl_1) c40)) fun a E=>mv E rfl fun a E=>wpList_nil ?_
  cases hF
  exact qat ⟨m138,c139,M140,c142,M143,le_m0,(ok.pk 4 [0,1,2] rfl (by decide)),E.keep [0,2,8,9,10],(InR.inc r33 (qas hl_1) c40),h141,h144⟩
 refine bd hF fun o145 hJ hF=>qaK (Q':=fun e a w=>e = .normal ∧ ∃ m146 c147 M148 c150 M151,m32.le m146 ∧ Ok u m146 ([(b58,oc 82 [vi x41.Kind,vs x41.Text,vs x41.Name,vs x41.Style,c54,c56])] :: [(pb0,oc 57 [c147,c150])] :: M148 :: M151 :: S) w ∧ Env 88 a [(0,vp pb0),(2,vs count_2),(8,vl_1),(9,(vi (l_1.length:Int))),(10,vi v30)] ∧ ORow 9 1 pS m146 c147 o145.Code.Names M148 ∧ ORow 47 4 pIns m146 c150 o145.Code.Ins M151) ?_ ?_
 rotate_left
 ·intro e a w hO
  obtain ⟨rfl,m193,c194,M195,c197,M198,hle,ok,E,h196,h199⟩:=hO
  have le_m0:=le_m0.trans hle
  have hl_1:=(mL qak).up hle hl_1
  have h55:=(mL qaG).up hle h55
  have h57:=(mL qak).up hle h57
  have at48:=At.up hle at48
  refine qag<|qag<|qaa<|qab<|lw E (qaC rfl rfl (InR.inc r33 (qas hl_1) c40)) fun a E=>mv E rfl fun a E=>wpList_nil ?_
  cases hF
  exact qat ⟨m193,c194,M195,c197,M198,le_m0,(ok.pk 4 [1,2,3] rfl (by decide)),E.keep [0,2,8,9,10],(InR.inc r33 (qas hl_1) c40),h196,h199⟩
 have hF:=hJ
 have le_m32:=Mem.le.refl m32
 obtain ⟨r153,e154,hF⟩:=bnd hF
 obtain ⟨r156,e157,hF⟩:=bnd hF
 obtain ⟨r166,e167,hF⟩:=bnd hF
 obtain rfl:=sj hF
 refine qbl [] (Cls u m32 ([(b58,oc 82 [vi x41.Kind,vs x41.Text,vs x41.Name,vs x41.Style,c54,c56])] :: [])) (Cls u m32 ([(b58,oc 82 [vi x41.Kind,vs x41.Text,vs x41.Name,vs x41.Style,c54,c56])] :: [])) (by kernel_rfl) ?_
 intro w hw
 replace ok:=qbE ok hw
 clear hw
 have h55_o:=h55
 have h57_o:=h57
 refine qar (cl1 (cq le_m32 ok [0] rfl) (cq le_m32 ok [0] rfl)) fun hT=>kt 0 E rfl hT (qah rfl) fun a E=>kt 1 E rfl hT (qai qaH rfl) fun a E=>kt 2 E rfl hT (qaz qaq rfl (qae.cown 0 rfl rfl)) fun a E=>kt 4 E rfl hT (qah rfl) fun a E=>kt 5 E rfl hT (qai qa2 rfl) fun a E=>kt 6 E rfl hT (qaz qao rfl (qae.cown 0 rfl rfl)) fun a E=>kt 8 E rfl hT (qai qbc rfl) fun a E=>kt 9 E rfl hT (qaz qao rfl (qae.cown 0 rfl rfl)) fun a E=>qaP [3] (by kernel_rfl) rfl (qaT ?_)
 ·refine wo rfl<|qaf E qob rfl (qgt N x41.Kind r50 e154 hG ok) rfl rfl ?_
  rintro _ w ⟨⟨rfl,ok⟩,r176⟩
  refine ⟨_,rfl,fun a E=>?_⟩
  refine wn<|qar (cl1 (cq le_m32 ok [0] rfl) (cq le_m32 ok [0] rfl)) fun hT=>qaP [7] (by kernel_rfl) rfl (qaT ?_)
  ·refine qco (o:=_) rfl ?_
   replace ok:Ok u m32 ([(pb0,oc 57 [c34,c37])] :: M35 :: M38 :: [(b58,oc 82 [vi x41.Kind,vs x41.Text,vs x41.Name,vs x41.Style,c54,c56])] :: S) w:=(ok.pk 4 [1,2,3,0] rfl (by decide))
   refine qaf E qlw rfl (qdq N x41.Name l52 v31 h36 h39 e157 hG ok) rfl rfl ?_
   rintro _ w ⟨m177,c179,M180,c182,M183,rfl,hle,ok,r178,h181,h184⟩
   have le_m0:=le_m0.trans hle
   have le_m32:=le_m32.trans hle
   have hl_1:=(mL qak).up hle hl_1
   have h55:=(mL qaG).up hle h55
   have h57:=(mL qak).up hle h57
   have at48:=At.up hle at48
   refine ⟨_,rfl,fun a E=>?_⟩
   refine wn<|qar (cl1 (cq le_m32 ok [3] rfl) (cq le_m32 ok [3] rfl)) fun hT=>kt 10 E rfl hT (qau (ps:=[(0,.tmp 17),(1,.tmp 21),(3,.tmp 23)]) (qs:=[(0,[vi r153]),(1,[vi r156.1]),(3,[vs x41.Style])]) (cs:=[vi r153,vi r156.1,vi 0,vs x41.Style]) qcD qcJ rfl ⟨rfl,rfl,rfl,⟨rfl,rfl,rfl,⟨rfl,rfl,rfl,trivial⟩⟩⟩ rfl) fun a E=>qaP [11] (by kernel_rfl) rfl (qaT ?_)
   ·refine wo rfl<|qaf E qfF rfl (qba N _ (Ins.mk r153 r156.1 0 x41.Style) ⟨rfl,r176,r178,(ir 0),l53⟩ r156.2 h181 h184 e167 hG ok) rfl rfl ?_
    rintro _ w ⟨m185,c187,M188,c190,M191,rfl,hle,ok,r186,h189,h192⟩
    have le_m0:=le_m0.trans hle
    have le_m32:=le_m32.trans hle
    have hl_1:=(mL qak).up hle hl_1
    have h55:=(mL qaG).up hle h55
    have h57:=(mL qak).up hle h57
    have at48:=At.up hle at48
    refine ⟨_,rfl,fun a E=>?_⟩
    refine wn<|qar (cl1 (cq le_m32 ok [3] rfl) (cq le_m32 ok [3] rfl)) fun hT=>qbw (by kernel_rfl) ?_
    exact ⟨rfl,⟨m185,c187,M188,c190,M191,le_m32,(ok.pk 4 [3,0,1,2] rfl (by decide)),E.keep [0,2,8,9,10],h189,h192⟩⟩
theorem qga (N:Nat) (ih_compile_compiler_parts:qcy N) (ih_compile_compiler_selection:qcg N):qcg (N + 1):=by
 intro u m0 S w vx_1 x_1 hx_1 count_2 lcount_2 pb0 c9 M10 c12 M13 x0 h11 h14 r hF hG ok
 obtain ⟨c5,c7,rfl,r1,l2,l3,l4,h6,h8⟩:=(qbp.1 hx_1)
 have le_m0:=Mem.le.refl m0
 have hF0:qc7 (qbH N) (qbN N) N x_1 count_2 x0 = some r:=hF
 have hF:=hF0
 clear hF0
 unfold qc7 at hF
 refine en (qgA u m0 S pb0 x0 c9 M10 c12 M13) r Tryz.func52 rfl rfl rfl (by rintro a w ⟨m1,c15,M16,c18,M19,hle,ok,hd,hrv,h0,h1⟩; exact qbs [] hd rfl hrv ⟨m1,c15,M16,c18,M19,rfl,hle,ok,h0,h1⟩) fun fin a E=>sg<|qdV E ok rfl rfl rfl fun b21 a w E ok=>wn<|wp_seq<|sg<|fk E ok qaH qaq rfl 0 rfl rfl fun a E=>lw E (qbj rfl rfl) fun a E=>wn<|bd hF fun o22 hJ hF=>qaK (Q':=fun e a w=>e = .normal ∧ Ok u m0 ([(b21,oc 82 [vi x_1.Kind,vs x_1.Text,vs x_1.Name,vs x_1.Style,c5,c7])] :: [(pb0,oc 57 [c9,c12])] :: M10 :: M13 :: S) w ∧ Env 104 a [(0,vp pb0),(2,vs o22),(4,vp b21)] ∧ o22.length ≤ LIMS) ?_ ?_
 ·have hF:=hJ
  refine cg E rfl hF (fun c24 hF=>?_) fun c24 hF=>?_
  ·refine wp_skip ?_
   cases hF
   exact ⟨rfl,⟨ok,E.keep [0,2,4],lcount_2⟩⟩
  refine qab<|fk E ok qa2 qao rfl 0 rfl rfl fun a E=>av E rfl fun a E=>wpList_nil ?_
  cases hF
  exact ⟨rfl,⟨ok,E.keep [0,2,4],l3⟩⟩
 intro e a w hO
 obtain ⟨rfl,ok,E,l25⟩:=hO
 refine qaa<|wp_seq<|bd hF fun o26 hJ hF=>qaK (Q':=fun e a w=>e = .normal ∧ ∃ m27 c28 M29 c31 M32,m0.le m27 ∧ Ok u m27 ([(b21,oc 82 [vi x_1.Kind,vs x_1.Text,vs x_1.Name,vs x_1.Style,c5,c7])] :: [(pb0,oc 57 [c28,c31])] :: M29 :: M32 :: S) w ∧ Env 104 a [(0,vp pb0),(2,vs o22),(4,vp b21)] ∧ ORow 9 1 pS m27 c28 o26.Code.Names M29 ∧ ORow 47 4 pIns m27 c31 o26.Code.Ins M32) ?_ ?_
 ·have hF:=hJ
  obtain ⟨r34,e35,hF⟩:=bnd hF
  obtain ⟨r44,e45,hF⟩:=bnd hF
  obtain rfl:=sj hF
  refine qbl [] (Cls u m0 ([(b21,oc 82 [vi x_1.Kind,vs x_1.Text,vs x_1.Name,vs x_1.Style,c5,c7])] :: [])) (Cls u m0 ([(b21,oc 82 [vi x_1.Kind,vs x_1.Text,vs x_1.Name,vs x_1.Style,c5,c7])] :: [])) (by kernel_rfl) ?_
  intro w hw
  replace ok:=qbE ok hw
  clear hw
  have h6_o:=h6
  have h8_o:=h8
  refine qar (cl1 (cq le_m0 ok [0] rfl) (cq le_m0 ok [0] rfl)) fun hT=>kt 0 E rfl hT (qah rfl) fun a E=>kt 1 E rfl hT (qah rfl) fun a E=>kt 2 E rfl hT (qai qa2 rfl) fun a E=>kt 3 E rfl hT (qaz qao rfl (qae.cown 0 rfl rfl)) fun a E=>kt 5 E rfl hT (qai qaH rfl) fun a E=>kt 6 E rfl hT (qaz qaq rfl (qae.cown 0 rfl rfl)) fun a E=>qaP [4] (by kernel_rfl) rfl (qaT ?_)
  ·refine qco (o:=_) rfl ?_
   replace ok:Ok u m0 ([(pb0,oc 57 [c9,c12])] :: M10 :: M13 :: [(b21,oc 82 [vi x_1.Kind,vs x_1.Text,vs x_1.Name,vs x_1.Style,c5,c7])] :: S) w:=(ok.pk 4 [1,2,3,0] rfl (by decide))
   refine qaf E qlw rfl (qdq N x_1.Name l3 x0 h11 h14 e35 hG ok) rfl rfl ?_
   rintro _ w ⟨m54,c56,M57,c59,M60,rfl,hle,ok,r55,h58,h61⟩
   have le_m0:=le_m0.trans hle
   have h6:=(mL qaG).up hle h6
   have h8:=(mL qak).up hle h8
   refine ⟨_,rfl,fun a E=>?_⟩
   refine wn<|qar (cl1 (cq le_m0 ok [3] rfl) (cq le_m0 ok [3] rfl)) fun hT=>kt 7 E rfl hT (qau (ps:=[(0,.const (vi 10)),(1,.tmp 23),(2,.tmp 25)]) (qs:=[(0,[vi 10]),(1,[vi r34.1]),(2,[vi x_1.Kind])]) (cs:=[vi 10,vi r34.1,vi x_1.Kind,(vs ([]))]) qcD qcJ rfl ⟨rfl,rfl,rfl,⟨rfl,rfl,rfl,⟨rfl,rfl,rfl,trivial⟩⟩⟩ rfl) fun a E=>qaP [8] (by kernel_rfl) rfl (qaT ?_)
   ·refine wo rfl<|qaf E qfF rfl (qba N _ (Ins.mk 10 r34.1 x_1.Kind ([])) ⟨rfl,(ir 10),r55,r1,(Nat.zero_le _)⟩ r34.2 h58 h61 e45 hG ok) rfl rfl ?_
    rintro _ w ⟨m62,c64,M65,c67,M68,rfl,hle,ok,r63,h66,h69⟩
    have le_m0:=le_m0.trans hle
    have h6:=(mL qaG).up hle h6
    have h8:=(mL qak).up hle h8
    refine ⟨_,rfl,fun a E=>?_⟩
    refine wn<|qar (cl1 (cq le_m0 ok [3] rfl) (cq le_m0 ok [3] rfl)) fun hT=>qbw (by kernel_rfl) ?_
    exact ⟨rfl,⟨m62,c64,M65,c67,M68,le_m0,(ok.pk 4 [3,0,1,2] rfl (by decide)),E.keep [0,2,4],h66,h69⟩⟩
 intro e a w hO
 obtain ⟨rfl,m70,c71,M72,c74,M75,hle,ok,E,h73,h76⟩:=hO
 have le_m0:=le_m0.trans hle
 have h6:=(mL qaG).up hle h6
 have h8:=(mL qak).up hle h8
 refine qaa<|sg<|mv E rfl fun a E=>lw E (qaj rfl) fun a E=>fv E qed rfl fun a E=>fk E ok qdi qdt rfl 1 rfl rfl fun a E=>lv E ok (qd3 qc5 h76 rfl) fun a E=>aw E rfl fun a E=>wp_seq<|sg<|fv E qcj rfl fun a E=>ld E ok qdu 0 rfl rfl rfl fun a E=>lv E ok (qbb qcK h6 rfl) fun a E=>mv E rfl fun a E=>wn<|wp_block<|bd hF fun o85 hL hF=>qa6 _ (fun (s:Int × Compiler) a w=>∃ m86 c88 M89 c91 M92,m70.le m86 ∧ Ok u m86 ([(b21,oc 82 [vi x_1.Kind,vs x_1.Text,vs x_1.Name,vs x_1.Style,c5,c7])] :: [(pb0,oc 57 [c88,c91])] :: M89 :: M92 :: S) w ∧ Env 104 a [(0,vp pb0),(2,vs o22),(4,vp b21),(6,(vi (o26.Code.Ins.length:Int))),(35,c5),(36,(vi (x_1.Cases.length:Int))),(37,vi s.1)] ∧ InR .i64 s.1 ∧ ORow 9 1 pS m86 c88 s.2.Code.Names M89 ∧ ORow 47 4 pIns m86 c91 s.2.Code.Ins M92) (fun (b:Compiler) e a w=>e = (.exit 0) ∧ ∃ m378 c379 M380 c382 M383,m70.le m378 ∧ Ok u m378 ([(b21,oc 82 [vi x_1.Kind,vs x_1.Text,vs x_1.Name,vs x_1.Style,c5,c7])] :: [(pb0,oc 57 [c379,c382])] :: M380 :: M383 :: S) w ∧ Env 104 a [(0,vp pb0),(2,vs o22),(4,vp b21),(6,(vi (o26.Code.Ins.length:Int)))] ∧ ORow 9 1 pS m378 c379 b.Code.Names M380 ∧ ORow 47 4 pIns m378 c382 b.Code.Ins M383) ?_ ?_ N _ a w hL ⟨m70,c71,M72,c74,M75,Mem.le.refl _,ok,E.keep [0,2,4,6,35,36,37],(ir 0),h73,h76⟩
 ·rintro ⟨v94,v95⟩ a w r ⟨m96,c98,M99,c101,M102,hle,ok,E,r97,h100,h103⟩ hF
  replace hF:qdn (qbH N) (qbN N) N x_1 v94 v95 = some r:=hF
  unfold qdn at hF
  have le_m70:=Mem.le.refl m70
  have le_m0:=le_m0.trans hle
  have le_m70:=le_m70.trans hle
  have h6:=(mL qaG).up hle h6
  have h8:=(mL qak).up hle h8
  refine sg<|lw E (qaS rfl rfl) fun a E=>wn<|wp_seq<|cg E rfl hF (fun c104 hF=>?_) fun c104 hF=>?_
  ·refine wp_exit<|qaX ?_
   cases hF
   exact so (⟨rfl,⟨m96,c98,M99,c101,M102,le_m70,ok,E.keep [0,2,4,6],h100,h103⟩⟩)
  refine wp_skip<|qaa<|wp_seq<|wp_block<|sg ?_
  obtain ⟨x105,e106,hF⟩:=bnd hF
  obtain ⟨b107,o108,es109,hl110,rr111,at112,yy113⟩:=ia E 35 37 qcK h6 e106
  obtain ⟨c115,rfl,l114,h116⟩:=rr111
  refine lv E ok (yy113 _ _) fun a E=>lv E ok (qan (cs:=[vs x105.Key,c115]) qkh rfl rfl (qae.ro at112)) fun a E=>qa3 E ok qdl rfl rfl fun b117 a w E ok=>qad E ok 0 rfl rfl rfl qkj rfl rfl ⟨rfl,(qc9 h116),trivial⟩ rfl rfl fun w ok=>wn<|qab<|mv E rfl fun a E=>fk E ok qgE qao rfl 0 rfl rfl fun a E=>lw E (qau (ps:=[(0,.const (vi 11)),(3,.tmp 43)]) (qs:=[(0,[vi 11]),(3,[vs x105.Key])]) (cs:=[vi 11,vi 0,vi 0,vs x105.Key]) qcD qcJ rfl ⟨rfl,rfl,rfl,⟨rfl,rfl,rfl,trivial⟩⟩ rfl) fun a E=>?_
  obtain ⟨r118,e119,hF⟩:=bnd hF
  replace ok:Ok u m96 ([(pb0,oc 57 [c98,c101])] :: M99 :: M102 :: [(b117,oc 85 [vs x105.Key,c115])] :: [(b21,oc 82 [vi x_1.Kind,vs x_1.Text,vs x_1.Name,vs x_1.Style,c5,c7])] :: S) w:=(ok.pk 5 [2,3,4,0,1] rfl (by decide))
  refine qaf E qfF rfl (qba N _ (Ins.mk 11 0 0 x105.Key) ⟨rfl,(ir 11),(ir 0),(ir 0),l114⟩ v95 h100 h103 e119 hG ok) rfl rfl ?_
  rintro _ w ⟨m120,c122,M123,c125,M126,rfl,hle,ok,r121,h124,h127⟩
  have le_m0:=le_m0.trans hle
  have le_m70:=le_m70.trans hle
  have h6:=(mL qaG).up hle h6
  have h8:=(mL qak).up hle h8
  have h116:=(mL qak).up hle h116
  have at112:=At.up hle at112
  refine ⟨_,rfl,fun a E=>?_⟩
  refine wpList_nil<|qag<|qaa<|qab<|lw E (qaC rfl rfl (InR.inc r97 (qas h6) c104)) fun a E=>mv E rfl fun a E=>wpList_nil ?_
  cases hF
  exact qat ⟨m120,c122,M123,c125,M126,le_m70,(ok.pk 5 [4,0,1,2] rfl (by decide)),E.keep [0,2,4,6,35,36,37],(InR.inc r97 (qas h6) c104),h124,h127⟩
 intro e a w _ hO
 obtain ⟨rfl,m128,c129,M130,c132,M133,hle,ok,E,h131,h134⟩:=hO
 have le_m0:=le_m0.trans hle
 have h6:=(mL qaG).up hle h6
 have h8:=(mL qak).up hle h8
 refine qbf<|qaa<|sg<|aw E rfl fun a E=>wp_seq<|sg<|fk E ok qcj qdu rfl 0 rfl rfl fun a E=>lv E ok (qbb qcK h6 rfl) fun a E=>mv E rfl fun a E=>wn<|wp_block ?_
 obtain ⟨M146,ok,h147⟩:=qee (e:=3) (k:=1) (R:=(pI .i64)) ok
 refine bd hF fun o148 hL hF=>qa6 _ (fun (s:(List (Int)) × Int × Compiler) a w=>∃ m149 c150 M151 c154 M155 c157 M158,m128.le m149 ∧ Ok u m149 (M151 :: [(b21,oc 82 [vi x_1.Kind,vs x_1.Text,vs x_1.Name,vs x_1.Style,c5,c7])] :: [(pb0,oc 57 [c154,c157])] :: M155 :: M158 :: S) w ∧ Env 104 a [(0,vp pb0),(2,vs o22),(6,(vi (o26.Code.Ins.length:Int))),(9,c150),(48,c5),(49,(vi (x_1.Cases.length:Int))),(50,vi s.2.1)] ∧ ORow 3 1 (pI .i64) m149 c150 s.1 M151 ∧ InR .i64 s.2.1 ∧ ORow 9 1 pS m149 c154 s.2.2.Code.Names M155 ∧ ORow 47 4 pIns m149 c157 s.2.2.Code.Ins M158) (fun (b:(Compiler × (List (Int)))) e a w=>e = (.exit 2) ∧ ∃ m368 c369 M370 c372 M373 c375 M376,m128.le m368 ∧ Ok u m368 (M376 :: [(b21,oc 82 [vi x_1.Kind,vs x_1.Text,vs x_1.Name,vs x_1.Style,c5,c7])] :: [(pb0,oc 57 [c369,c372])] :: M370 :: M373 :: S) w ∧ Env 104 a [(0,vp pb0),(9,c375)] ∧ ORow 9 1 pS m368 c369 b.1.Code.Names M370 ∧ ORow 47 4 pIns m368 c372 b.1.Code.Ins M373 ∧ ORow 3 1 (pI .i64) m368 c375 b.2 M376) ?_ ?_ N _ a w hL ⟨m128,(Value.slice none 0 0),M146,c129,M130,c132,M133,Mem.le.refl _,ok,E.keep [0,2,6,9,48,49,50],h147,(ir 0),h131,h134⟩
 rotate_left
 ·as_aux_lemma =>
   intro e a w _ hO
   obtain ⟨rfl,m262,c263,M264,c266,M267,c269,M270,hle,ok,E,h265,h268,h271⟩:=hO
   have le_m0:=le_m0.trans hle
   have h6:=(mL qaG).up hle h6
   have h8:=(mL qak).up hle h8
   refine qbf<|qaa<|sg<|mv E rfl fun a E=>lv E ok (qd3 qgJ h271 rfl) fun a E=>mv E rfl fun a E=>wn<|wp_block<|bd hF fun o280 hL hF=>qa6 _ (fun (s:Int × Compiler) a w=>∃ c282 M283 c285 M286,Ok u m262 (M270 :: [(b21,oc 82 [vi x_1.Kind,vs x_1.Text,vs x_1.Name,vs x_1.Style,c5,c7])] :: [(pb0,oc 57 [c282,c285])] :: M283 :: M286 :: S) w ∧ Env 104 a [(0,vp pb0),(83,c269),(84,(vi (o148.2.length:Int))),(85,vi s.1)] ∧ InR .i64 s.1 ∧ ORow 9 1 pS m262 c282 s.2.Code.Names M283 ∧ ORow 47 4 pIns m262 c285 s.2.Code.Ins M286) (fun (b:Compiler) e a w=>e = (.exit 4) ∧ ∃ c362 M363 c365 M366,Ok u m262 (M270 :: [(b21,oc 82 [vi x_1.Kind,vs x_1.Text,vs x_1.Name,vs x_1.Style,c5,c7])] :: [(pb0,oc 57 [c362,c365])] :: M363 :: M366 :: S) w ∧ Env 104 a [] ∧ ORow 9 1 pS m262 c362 b.Code.Names M363 ∧ ORow 47 4 pIns m262 c365 b.Code.Ins M366) ?_ ?_ N _ a w hL ⟨c263,M264,c266,M267,ok,E.keep [0,83,84,85],(ir 0),h265,h268⟩
   rotate_left
   ·intro e a w _ hO
    obtain ⟨rfl,c356,M357,c359,M360,ok,E,h358,h361⟩:=hO
    refine qbf ?_
    exact fin hF ⟨m262,c356,M357,c359,M360,le_m0,ok.drop.drop,E.d,trivial,h358,h361⟩
   rintro ⟨v288,v289⟩ a w r ⟨c291,M292,c294,M295,ok,E,r290,h293,h296⟩ hF
   replace hF:qdp (qbH N) (qbN N) N o148 v288 v289 = some r:=hF
   unfold qdp at hF
   refine sg<|lw E (qaS rfl rfl) fun a E=>wn<|wp_seq<|cg E rfl hF (fun c297 hF=>?_) fun c297 hF=>?_
   ·refine wp_exit<|qaX ?_
    cases hF
    exact so (⟨rfl,⟨c291,M292,c294,M295,ok,E.keep [],h293,h296⟩⟩)
   refine wp_skip<|qaa<|wp_seq<|wp_block<|sg ?_
   obtain ⟨x298,e299,hF⟩:=bnd hF
   obtain ⟨b300,o301,hp302,yy303⟩:=qe4 qgJ h271 e299 (P:=Tryz.prog) (X:=.tmp 83) (I:=.tmp 85) (kd:=.i64) (qbQ E rfl) (qbQ E rfl)
   refine lv E ok (yy303 _ _) fun a E=>?_
   obtain ⟨es304,hl305,rr306,hh307⟩:=qf5 h271 e299 hp302 (by decide)
   obtain ⟨rfl,r308⟩:=rr306
   refine lv E ok (qaz qaq rfl (hh307 _ _ _ 0 rfl)) fun a E=>aw E rfl fun a E=>bd hF fun o309 hJ hF=>qaK (Q':=fun e a w=>e = .normal ∧ ∃ c310 M311 c313 M314,Ok u m262 (M270 :: [(b21,oc 82 [vi x_1.Kind,vs x_1.Text,vs x_1.Name,vs x_1.Style,c5,c7])] :: [(pb0,oc 57 [c310,c313])] :: M311 :: M314 :: S) w ∧ Env 104 a [(0,vp pb0),(83,c269),(84,(vi (o148.2.length:Int))),(85,vi v288)] ∧ ORow 9 1 pS m262 c310 o309.Code.Names M311 ∧ ORow 47 4 pIns m262 c313 o309.Code.Ins M314) ?_ ?_
   rotate_left
   ·intro e a w hO
    obtain ⟨rfl,c350,M351,c353,M354,ok,E,h352,h355⟩:=hO
    refine qag<|qaa<|qab<|lw E (qaC rfl rfl (InR.inc r290 (ORow.InR h271) c297)) fun a E=>mv E rfl fun a E=>wpList_nil ?_
    cases hF
    exact qat ⟨c350,M351,c353,M354,ok,E.keep [0,83,84,85],(InR.inc r290 (ORow.InR h271) c297),h352,h355⟩
   have hF:=hJ
   obtain ⟨x316,e317,hF⟩:=bnd hF
   obtain ⟨l326,e327,hF⟩:=bnd hF
   obtain rfl:=sj hF
   refine qbl [] (Cls u m262 (M270 :: [(b21,oc 82 [vi x_1.Kind,vs x_1.Text,vs x_1.Name,vs x_1.Style,c5,c7])] :: M292 :: [])) (Cls u m262 (M270 :: [(b21,oc 82 [vi x_1.Kind,vs x_1.Text,vs x_1.Name,vs x_1.Style,c5,c7])] :: M292 :: [])) (by kernel_rfl) ?_
   intro w hw
   replace ok:=qbE ok hw
   clear hw
   have le_m262:=Mem.le.refl m262
   refine qar (cl1 (cq le_m262 ok [0,1,3] rfl) (cq le_m262 ok [0,1,3] rfl)) fun hT=>kt 0 E rfl hT (qah rfl) fun a E=>kt 1 E rfl hT (qaj rfl) fun a E=>kt 2 E rfl hT (qai qed rfl) fun a E=>kt 3 E rfl hT (qai qdi rfl) fun a E=>kt 5 E rfl hT (qah rfl) fun a E=>kt 6 E rfl hT (qah rfl) fun a E=>kt 7 E rfl hT (qaj rfl) fun a E=>kt 8 E rfl hT (qai qed rfl) fun a E=>kt 9 E rfl hT (qai qdi rfl) fun a E=>qaP [4,10] (by kernel_rfl) rfl (qiF ?_ (qiF ?_ (qly)))
   ·refine wo rfl<|ld E ok qdt 2 rfl rfl rfl fun a E=>wn<|qar (cl1 (cq le_m262 ok [0,1,3] rfl) (cq le_m262 ok [0,1,3] rfl)) fun hT=>qaP [10] (by kernel_rfl) rfl (qaT ?_)
    ·refine wo rfl<|ld E ok qdt 2 rfl rfl rfl fun a E=>wn<|qar (cl1 (cq le_m262 ok [0,1,3] rfl) (cq le_m262 ok [0,1,3] rfl)) fun hT=>kt 11 E rfl hT (qd3 qc5 h296 rfl) fun a E=>?_
     obtain ⟨b330,o331,hp332,yy333⟩:=qe4 qc5 h296 e317 (P:=Tryz.prog) (X:=.tmp 93) (I:=.tmp 94) (kd:=.i64) (qbQ E rfl) (qbQ E rfl)
     refine kt 12 E rfl hT (yy333 _ _) fun a E=>kt 13 E rfl hT (qai qhq rfl) fun a E=>qaP [14] (by kernel_rfl) rfl (qaT ?_)
     ·refine wo rfl<|qgI (R:=pIns) (f:=1) E ok 4 rfl h296 e317 hp332 rfl rfl rfl qgj rfl rfl rfl ⟨rfl,trivial⟩ (fun es _ h=>by obtain ⟨rfl,r334,r335,r336,l337⟩:=h; exact ⟨rfl,r334,(ORow.InR h296),r336,l337⟩) e327 rfl fun M338 w ok h339=>wn<|qar (cl1 (cq le_m262 ok [0,1,3] rfl) (cq le_m262 ok [0,1,3] rfl)) fun hT=>qbw (by kernel_rfl) ?_
      exact ⟨rfl,⟨c291,M292,c294,M338,ok,E.keep [0,83,84,85],h293,h339⟩⟩
   refine wo rfl<|ld E ok qdt 2 rfl rfl rfl fun a E=>wn<|qar (cl1 (cq le_m262 ok [0,1,3] rfl) (cq le_m262 ok [0,1,3] rfl)) fun hT=>kt 11 E rfl hT (qd3 qc5 h296 rfl) fun a E=>qaP [4] (by kernel_rfl) rfl (qaT ?_)
   ·refine wo rfl<|ld E ok qdt 2 rfl rfl rfl fun a E=>wn<|qar (cl1 (cq le_m262 ok [0,1,3] rfl) (cq le_m262 ok [0,1,3] rfl)) fun hT=>?_
    obtain ⟨b340,o341,hp342,yy343⟩:=qe4 qc5 h296 e317 (P:=Tryz.prog) (X:=.tmp 93) (I:=.tmp 94) (kd:=.i64) (qbQ E rfl) (qbQ E rfl)
    refine kt 12 E rfl hT (yy343 _ _) fun a E=>kt 13 E rfl hT (qai qhq rfl) fun a E=>qaP [14] (by kernel_rfl) rfl (qaT ?_)
    ·refine wo rfl<|qgI (R:=pIns) (f:=1) E ok 4 rfl h296 e317 hp342 rfl rfl rfl qgj rfl rfl rfl ⟨rfl,trivial⟩ (fun es _ h=>by obtain ⟨rfl,r344,r345,r346,l347⟩:=h; exact ⟨rfl,r344,(ORow.InR h296),r346,l347⟩) e327 rfl fun M348 w ok h349=>wn<|qar (cl1 (cq le_m262 ok [0,1,3] rfl) (cq le_m262 ok [0,1,3] rfl)) fun hT=>qbw (by kernel_rfl) ?_
     exact ⟨rfl,⟨c291,M292,c294,M348,ok,E.keep [0,83,84,85],h293,h349⟩⟩
 rintro ⟨v160,v161,v162⟩ a w r ⟨m163,c164,M165,c168,M169,c171,M172,hle,ok,E,h166,r167,h170,h173⟩ hF
 replace hF:qdm (qbH N) (qbN N) N x_1 o22 o26 v160 v161 v162 = some r:=hF
 unfold qdm at hF
 have le_m128:=Mem.le.refl m128
 have le_m0:=le_m0.trans hle
 have le_m128:=le_m128.trans hle
 have h6:=(mL qaG).up hle h6
 have h8:=(mL qak).up hle h8
 refine sg<|lw E (qaS rfl rfl) fun a E=>wn<|wp_seq<|cg E rfl hF (fun c174 hF=>?_) fun c174 hF=>?_
 ·refine wp_exit<|qaX ?_
  cases hF
  exact so (⟨rfl,⟨m163,c168,M169,c171,M172,c164,M165,le_m128,ok,E.keep [0,9],h170,h173,h166⟩⟩)
 refine wp_skip<|qaa<|wp_seq<|wp_block<|sg<|mv E rfl fun a E=>?_
 obtain ⟨x175,e176,hF⟩:=bnd hF
 obtain ⟨b177,o178,es179,hl180,rr181,at182,yy183⟩:=ia E 48 50 qcK h6 e176
 obtain ⟨c185,rfl,l184,h186⟩:=rr181
 refine lv E ok (yy183 _ _) fun a E=>lv E ok (qan (cs:=[vs x175.Key,c185]) qkh rfl rfl (qae.ro at182)) fun a E=>qa3 E ok qdl rfl rfl fun b187 a w E ok=>av E rfl fun a E=>qad E ok 0 rfl rfl rfl qkj rfl rfl ⟨rfl,(qc9 h186),trivial⟩ rfl rfl fun w ok=>wn<|wp_seq<|bd hF fun o188 hJ hF=>qaK (Q':=fun e a w=>e = .normal ∧ ∃ c189 M190 c192 M193,Ok u m163 ([(b187,oc 85 [vs x175.Key,c185])] :: M165 :: [(b21,oc 82 [vi x_1.Kind,vs x_1.Text,vs x_1.Name,vs x_1.Style,c5,c7])] :: [(pb0,oc 57 [c189,c192])] :: M190 :: M193 :: S) w ∧ Env 104 a [(0,vp pb0),(2,vs o22),(6,(vi (o26.Code.Ins.length:Int))),(9,c164),(11,vp b187),(48,c5),(49,(vi (x_1.Cases.length:Int))),(50,vi v161)] ∧ ORow 9 1 pS m163 c189 o188.Code.Names M190 ∧ ORow 47 4 pIns m163 c192 o188.Code.Ins M193) ?_ ?_
 rotate_left
 ·intro e a w hO
  obtain ⟨rfl,c229,M230,c232,M233,ok,E,h231,h234⟩:=hO
  refine qaa<|sg<|mv E rfl fun a E=>fk E ok qiw qcW rfl 0 rfl rfl fun a E=>mv E rfl fun a E=>?_
  obtain ⟨r235,e236,hF⟩:=bnd hF
  replace ok:Ok u m163 ([(pb0,oc 57 [c229,c232])] :: M230 :: M233 :: [(b187,oc 85 [vs x175.Key,c185])] :: M165 :: [(b21,oc 82 [vi x_1.Kind,vs x_1.Text,vs x_1.Name,vs x_1.Style,c5,c7])] :: S) w:=(ok.pk 6 [3,4,5,0,1,2] rfl (by decide))
  refine qaf E qlp rfl (ih_compile_compiler_parts _ x175.Parts h186 o22 l25 o188 h231 h234 e236 hG ok) rfl rfl ?_
  rintro _ w ⟨m237,c238,M239,c241,M242,rfl,hle,ok,h240,h243⟩
  have le_m0:=le_m0.trans hle
  have le_m128:=le_m128.trans hle
  have h6:=(mL qaG).up hle h6
  have h8:=(mL qak).up hle h8
  have h166:=ORow.up (mI .i64) hle h166
  have h186:=(mL qak).up hle h186
  have at182:=At.up hle at182
  refine ⟨_,rfl,fun a E=>?_⟩
  refine wn<|qab<|mz E rfl rfl fun a E=>lw E (qau (ps:=[(0,.const (vi 12))]) (qs:=[(0,[vi 12])]) (cs:=[vi 12,vi 0,vi 0,(vs ([]))]) qcD qcJ rfl ⟨rfl,rfl,rfl,trivial⟩ rfl) fun a E=>bd hF fun r244 e245 hF=>qaf E qfF rfl (qba N _ (Ins.mk 12 0 0 ([])) ⟨rfl,(ir 12),(ir 0),(ir 0),(Nat.zero_le _)⟩ r235 h240 h243 e245 hG ok) rfl rfl ?_
  rintro _ w ⟨m246,c248,M249,c251,M252,rfl,hle,ok,r247,h250,h253⟩
  have le_m0:=le_m0.trans hle
  have le_m128:=le_m128.trans hle
  have h6:=(mL qaG).up hle h6
  have h8:=(mL qak).up hle h8
  have h166:=ORow.up (mI .i64) hle h166
  have h186:=(mL qak).up hle h186
  have at182:=At.up hle at182
  refine ⟨_,rfl,fun a E=>?_⟩
  refine qbt (R:=(pI .i64)) (xo:=[.tmp 79]) (xs:=([r244.1]:List (Int))) E ok qgJ qj9 rfl ⟨⟨_,rfl,rfl,(qdr r247)⟩,trivial⟩ rfl rfl rfl rfl fun c254 M255 a w E ok h256=>bd hF fun l257 e258 hF=>qcn (R:=(pI .i64)) E ok 5 (mI .i64) qgJ Tryz.underlying74 rfl h166 (qbz.ofRow h256 0 rfl ok) e258 ⟨_,qj9,rfl⟩ rfl rfl rfl rfl fun c259 M260 a w E ok h261=>av E rfl fun a E=>wpList_nil<|qag<|qaa<|qab<|lw E (qaC rfl rfl (InR.inc r167 (qas h6) c174)) fun a E=>mv E rfl fun a E=>wpList_nil ?_
  cases hF
  exact qat ⟨m246,c259,M260,c248,M249,c251,M252,le_m128,(ok.pk 7 [5,6,1,2,3] rfl (by decide)),E.keep [0,2,6,9,48,49,50],h261,(InR.inc r167 (qas h6) c174),h250,h253⟩
 have hF:=hJ
 obtain ⟨x195,e196,hF⟩:=bnd hF
 obtain ⟨l205,e206,hF⟩:=bnd hF
 obtain rfl:=sj hF
 refine qbl [] (Cls u m163 ([(b187,oc 85 [vs x175.Key,c185])] :: M165 :: [(b21,oc 82 [vi x_1.Kind,vs x_1.Text,vs x_1.Name,vs x_1.Style,c5,c7])] :: M169 :: [])) (Cls u m163 ([(b187,oc 85 [vs x175.Key,c185])] :: M165 :: [(b21,oc 82 [vi x_1.Kind,vs x_1.Text,vs x_1.Name,vs x_1.Style,c5,c7])] :: M169 :: [])) (by kernel_rfl) ?_
 intro w hw
 replace ok:=qbE ok hw
 clear hw
 have le_m163:=Mem.le.refl m163
 refine qar (cl1 (cq le_m163 ok [0,1,2,4] rfl) (cq le_m163 ok [0,1,2,4] rfl)) fun hT=>kt 0 E rfl hT (qah rfl) fun a E=>kt 1 E rfl hT (qaj rfl) fun a E=>kt 2 E rfl hT (qai qed rfl) fun a E=>kt 3 E rfl hT (qai qdi rfl) fun a E=>kt 5 E rfl hT (qah rfl) fun a E=>kt 6 E rfl hT (qah rfl) fun a E=>kt 7 E rfl hT (qaQ rfl rfl) fun a E=>kt 8 E rfl hT (qah rfl) fun a E=>kt 9 E rfl hT (qaj rfl) fun a E=>kt 10 E rfl hT (qai qed rfl) fun a E=>kt 11 E rfl hT (qai qdi rfl) fun a E=>qaP [4,12] (by kernel_rfl) rfl (qiF ?_ (qiF ?_ (qly)))
 ·refine wo rfl<|ld E ok qdt 3 rfl rfl rfl fun a E=>wn<|qar (cl1 (cq le_m163 ok [0,1,2,4] rfl) (cq le_m163 ok [0,1,2,4] rfl)) fun hT=>qaP [12] (by kernel_rfl) rfl (qaT ?_)
  ·refine wo rfl<|ld E ok qdt 3 rfl rfl rfl fun a E=>wn<|qar (cl1 (cq le_m163 ok [0,1,2,4] rfl) (cq le_m163 ok [0,1,2,4] rfl)) fun hT=>kt 13 E rfl hT (qd3 qc5 h173 rfl) fun a E=>?_
   obtain ⟨b209,o210,hp211,yy212⟩:=qe4 qc5 h173 e196 (P:=Tryz.prog) (X:=.tmp 59) (I:=.tmp 62) (kd:=.i64) (qbQ E rfl) (qbQ E rfl)
   refine kt 14 E rfl hT (yy212 _ _) fun a E=>kt 15 E rfl hT (qai qhq rfl) fun a E=>qaP [16] (by kernel_rfl) rfl (qaT ?_)
   ·refine wo rfl<|qgI (R:=pIns) (f:=1) E ok 5 rfl h173 e196 hp211 rfl rfl rfl qgj rfl rfl rfl ⟨rfl,trivial⟩ (fun es _ h=>by obtain ⟨rfl,r213,r214,r215,l216⟩:=h; exact ⟨rfl,r213,(ORow.InR h173),r215,l216⟩) e206 rfl fun M217 w ok h218=>wn<|qar (cl1 (cq le_m163 ok [0,1,2,4] rfl) (cq le_m163 ok [0,1,2,4] rfl)) fun hT=>qbw (by kernel_rfl) ?_
    exact ⟨rfl,⟨c168,M169,c171,M217,ok,E.keep [0,2,6,9,11,48,49,50],h170,h218⟩⟩
 refine wo rfl<|ld E ok qdt 3 rfl rfl rfl fun a E=>wn<|qar (cl1 (cq le_m163 ok [0,1,2,4] rfl) (cq le_m163 ok [0,1,2,4] rfl)) fun hT=>kt 13 E rfl hT (qd3 qc5 h173 rfl) fun a E=>qaP [4] (by kernel_rfl) rfl (qaT ?_)
 ·refine wo rfl<|ld E ok qdt 3 rfl rfl rfl fun a E=>wn<|qar (cl1 (cq le_m163 ok [0,1,2,4] rfl) (cq le_m163 ok [0,1,2,4] rfl)) fun hT=>?_
  obtain ⟨b219,o220,hp221,yy222⟩:=qe4 qc5 h173 e196 (P:=Tryz.prog) (X:=.tmp 59) (I:=.tmp 62) (kd:=.i64) (qbQ E rfl) (qbQ E rfl)
  refine kt 14 E rfl hT (yy222 _ _) fun a E=>kt 15 E rfl hT (qai qhq rfl) fun a E=>qaP [16] (by kernel_rfl) rfl (qaT ?_)
  ·refine wo rfl<|qgI (R:=pIns) (f:=1) E ok 5 rfl h173 e196 hp221 rfl rfl rfl qgj rfl rfl rfl ⟨rfl,trivial⟩ (fun es _ h=>by obtain ⟨rfl,r223,r224,r225,l226⟩:=h; exact ⟨rfl,r223,(ORow.InR h173),r225,l226⟩) e206 rfl fun M227 w ok h228=>wn<|qar (cl1 (cq le_m163 ok [0,1,2,4] rfl) (cq le_m163 ok [0,1,2,4] rfl)) fun hT=>qbw (by kernel_rfl) ?_
   exact ⟨rfl,⟨c168,M169,c171,M227,ok,E.keep [0,2,6,9,11,48,49,50],h170,h228⟩⟩
theorem qgT:qcy 0:=by
 intro u m0 S w vl_1 l_1 hl_1 count_2 lcount_2 pb0 c1 M2 c4 M5 x0 h3 h6 r hF hG ok
 replace hF:none = some r:=hF
 cases hF
theorem qf7:qcg 0:=by
 intro u m0 S w vx_1 x_1 hx_1 count_2 lcount_2 pb0 c9 M10 c12 M13 x0 h11 h14 r hF hG ok
 replace hF:none = some r:=hF
 cases hF
theorem qgl (N:Nat):qcy N ∧ qcg N:=by
 induction N with
 | zero=>exact ⟨qgT,qf7⟩
 | succ N h=>exact ⟨qgY N h.1 h.2,qga N h.1 h.2⟩
theorem qhs {u:World} {m0:Mem} {S:Segs} {w:World} (N:Nat) (vl_1:Value) (l_1:List (Part)) (hl_1:(pL 6 qbg) m0 [vl_1] l_1) (count_2:List UInt8) (lcount_2:count_2.length ≤ LIMS) {pb0:Nat} {c1:Value} {M2:List (Nat × Obj)} {c4:Value} {M5:List (Nat × Obj)} (x0:Compiler) (h3:ORow 9 1 pS m0 c1 x0.Code.Names M2) (h6:ORow 47 4 pIns m0 c4 x0.Code.Ins M5) {r:Compiler} (hF:qbH N l_1 count_2 x0 = some r) (hG:Glob u) (ok:Ok u m0 ([(pb0,oc 57 [c1,c4])] :: M2 :: M5 :: S) w) :
 Calls Tryz.prog 31 [vp pb0,vl_1,vs count_2].toArray w fun e w'=>∃ m1 c7 M8 c10 M11,e = .returned (.tuple [].toArray) ∧ m0.le m1 ∧ Ok u m1 ([(pb0,oc 57 [c7,c10])] :: M8 :: M11 :: S) w' ∧ ORow 9 1 pS m1 c7 r.Code.Names M8 ∧ ORow 47 4 pIns m1 c10 r.Code.Ins M11:=(qgl N).1 vl_1 l_1 hl_1 count_2 lcount_2 x0 h3 h6 hF hG ok
def qjR (u:World) (m0:Mem) (S:Segs) (r:Code × Int) (a:Act) (w:World):Prop :=
 ∃ m1 v0,m0.le m1 ∧ Ok u m1 S w ∧ a.defers = [] ∧ RVs Tryz.prog a w [.c 2 28 (.agg v0.toArray),.t 3 (.int .i64 r.2)] ∧ qeY m1 v0 r.1 ∧ InR .i64 r.2
theorem qjP (N:Nat) (vparts_0:Value) (parts_0:List (Part)) (hparts_0:(pL 6 qbg) m0 [vparts_0] parts_0) {r:Code × Int} (hF:qgq N parts_0 = some r) (hG:Glob u) (ok:Ok u m0 S w) :
  Calls Tryz.prog 11 [vparts_0].toArray w fun e w'=>∃ m1 v0,e = .returned (.tuple [(.agg v0.toArray),(.int .i64 r.2)].toArray) ∧ m0.le m1 ∧ Ok u m1 S w' ∧ qeY m1 v0 r.1 ∧ InR .i64 r.2:=by
 have le_m0:=Mem.le.refl m0
 unfold qgq at hF
 refine en (qjR u m0 S) r Tryz.func11 rfl rfl rfl (by rintro a w ⟨m1,v0,hle,ok,hd,hrv,h0,h1⟩; exact qbs [.c 2 28 (.agg v0.toArray),.t 3 (.int .i64 r.2)] hd rfl hrv ⟨m1,v0,rfl,hle,ok,h0,h1⟩) fun fin a E=>sg<|qa3 E ok qgy rfl rfl fun b1 a w E ok=>aw E rfl fun a E=>wp_seq<|sg<|mv E rfl fun a E=>bd hF fun r2 e3 hF=>lc E qp2 rfl (qk7 N _ parts_0 hparts_0 e3 hG ok) fun w ok a E=>lw E (qbh rfl) fun a E=>wn<|cf E rfl hF (fun c4 hF=>?_) fun c4 hF=>?_
 ·refine sg<|lw E (qau (ps:=[]) (qs:=[]) (cs:=[(Value.slice none 0 0),(Value.slice none 0 0)]) qgy qjy rfl trivial rfl) fun a E=>qad E ok 0 rfl rfl rfl qjx rfl rfl ⟨rfl,rfl,trivial⟩ rfl rfl fun w ok=>aw E rfl fun a E=>wp_ret<|qam ?_
  exact fin hF ⟨m0,[(Value.slice none 0 0),(Value.slice none 0 0)],le_m0,ok.drop,E.d,⟨rv_c (cs:=[(Value.slice none 0 0),(Value.slice none 0 0)]) E ok rfl qhv rfl (qae.own 0 rfl rfl),rv_t E rfl,trivial⟩,⟨_,_,rfl,qca,qca⟩,(ir 1)⟩
 refine wp_skip<|qaa<|sg<|lw E (qau (ps:=[]) (qs:=[]) (cs:=[(Value.slice none 0 0),(Value.slice none 0 0)]) qoU qnn rfl trivial rfl) fun a E=>qdV E ok rfl rfl rfl fun b5 a w E ok=>av E rfl fun a E=>wn<|sg<|mz E rfl rfl fun a E=>?_
 obtain ⟨M6,ok,h7⟩:=qee (e:=9) (k:=1) (R:=pS) ok
 obtain ⟨M8,ok,h9⟩:=qee (e:=47) (k:=4) (R:=pIns) ok
 obtain ⟨r10,e11,hF⟩:=bnd hF
 replace ok:Ok u m0 ([(b5,oc 57 [(Value.slice none 0 0),(Value.slice none 0 0)])] :: M6 :: M8 :: [(b1,oc 28 [(Value.slice none 0 0),(Value.slice none 0 0)])] :: S) w:=(ok.pk 4 [2,1,0,3] rfl (by decide))
 refine qaf E qlp rfl (qhs N _ parts_0 hparts_0 ([]) (show ([]:List UInt8).length ≤ LIMS by decide) (Compiler.mk (Code.mk ([]) ([]))) h7 h9 e11 hG ok) rfl rfl ?_
 rintro _ w ⟨m12,c13,M14,c16,M17,rfl,hle,ok,h15,h18⟩
 have le_m0:=le_m0.trans hle
 have hparts_0:=(mL qak).up hle hparts_0
 refine ⟨_,rfl,fun a E=>?_⟩
 refine wn<|sg<|mv E rfl fun a E=>lw E (qau (ps:=[(0,.const (vi 13))]) (qs:=[(0,[vi 13])]) (cs:=[vi 13,vi 0,vi 0,(vs ([]))]) qcD qcJ rfl ⟨rfl,rfl,rfl,trivial⟩ rfl) fun a E=>bd hF fun r19 e20 hF=>qaf E qfF rfl (qba N _ (Ins.mk 13 0 0 ([])) ⟨rfl,(ir 13),(ir 0),(ir 0),(Nat.zero_le _)⟩ r10 h15 h18 e20 hG ok) rfl rfl ?_
 rintro _ w ⟨m21,c23,M24,c26,M27,rfl,hle,ok,r22,h25,h28⟩
 have le_m0:=le_m0.trans hle
 have hparts_0:=(mL qak).up hle hparts_0
 refine ⟨_,rfl,fun a E=>?_⟩
 refine wn<|sg<|mv E rfl fun a E=>lw E (qaj rfl) fun a E=>fv E qed rfl fun a E=>lv E ok (qan (cs:=[c23,c26]) qhv rfl rfl (qae.own 0 rfl rfl)) fun a E=>qad E ok 3 rfl rfl rfl qjx rfl rfl ⟨(ORow.one h25),(ORow.one h28),trivial⟩ rfl rfl fun w ok=>aw E rfl fun a E=>wp_ret ?_
 obtain ⟨m29,hle,ok,hfz⟩:=(ok.frs 1 rfl).freeze
 have h30:=ORow.froz mS h25 hle hfz (by decide)
 have le_m0:=le_m0.trans hle
 have hparts_0:=(mL qak).up hle hparts_0
 have h28:=ORow.up mIns hle h28
 obtain ⟨m31,hle,ok,hfz⟩:=(ok.frs 1 rfl).freeze
 have h32:=ORow.froz mIns h28 hle hfz (by decide)
 have le_m0:=le_m0.trans hle
 have hparts_0:=(mL qak).up hle hparts_0
 have h30:=(mL mS).up hle h30
 exact fin hF ⟨m31,[c23,c26],le_m0,ok.drop.drop,E.d,⟨rv_c (cs:=[c23,c26]) E ok rfl qhv rfl (qae.own 1 rfl rfl),rv_t E rfl,trivial⟩,⟨_,_,rfl,h30,h32⟩,(ir 0)⟩
def qeQ (u:World) (m0:Mem) (S:Segs) (r:Bool) (a:Act) (w:World):Prop :=
 Ok u m0 S w ∧ a.defers = [] ∧ RVs Tryz.prog a w [.t 4 (.bool r)]
theorem qgz (N:Nat) (vs1_0:Value) (s1_0:List (List UInt8)) (hs1_0:(pL 1 pS) m0 [vs1_0] s1_0) (vs2_1:Value) (s2_1:List (List UInt8)) (hs2_1:(pL 1 pS) m0 [vs2_1] s2_1) {r:Bool} (hF:qcT N s1_0 s2_1 = some r) (hG:Glob u) (ok:Ok u m0 S w) :
  Calls Tryz.prog 41 [vs1_0,vs2_1].toArray w fun e w'=>(e = .returned (.bool r) ∧ Ok u m0 S w'):=by
 unfold qcT at hF
 refine en (qeQ u m0 S) r Tryz.func41 rfl rfl rfl (fun _ _ h=>ra h rfl) fun fin a E=>sg<|aw E rfl fun a E=>wp_seq<|sg<|mv E rfl fun a E=>lv E ok (qbb qbx hs1_0 rfl) fun a E=>mv E rfl fun a E=>lv E ok (qbb qbx hs2_1 rfl) fun a E=>lw E (qbj rfl rfl) fun a E=>wn<|cf E rfl hF (fun c1 hF=>?_) fun c1 hF=>?_
 ·refine sg<|aw E rfl fun a E=>wp_ret<|qam ?_
  exact fin hF ⟨ok,E.d,rz E rfl⟩
 refine wp_skip<|qaa<|wp_seq<|sg<|mv E rfl fun a E=>lv E ok (qbb qbx hs1_0 rfl) fun a E=>mv E rfl fun a E=>wn<|wp_block<|bd hF fun o3 hL hF=>qa6 _ (fun (s:Int) a w=>Ok u m0 (S) w ∧ Env 26 a [(0,vs1_0),(1,vs2_1),(12,(vi (s1_0.length:Int))),(13,vi s)] ∧ InR .i64 s) (fun (b:(Unit ⊕ Bool)) e a w=>(Sum.elim (fun b29=>e = (.exit 0) ∧ Ok u m0 (S) w ∧ Env 26 a []) (fun b30=>e = .ret ∧ qeQ u m0 S b30 a w)) b) ?_ ?_ N _ a w hL ⟨ok,E.keep [0,1,12,13],(ir 0)⟩
 rotate_left
 ·intro e a w _ hO
  rcases o3 with o3 | o3
  rotate_left
  ·obtain ⟨rfl,hret⟩:=hO
   refine qaL<|qam ?_
   exact fin hF hret
  have hF:=qb4 hF
  obtain ⟨rfl,ok,E⟩:=hO
  refine qbf<|qaa<|sg<|aw E rfl fun a E=>wp_ret ?_
  exact fin hF ⟨ok,E.d,rz E rfl⟩
 rintro v5 a w r ⟨ok,E,r6⟩ hF
 replace hF:qbP N s1_0 s2_1 v5 = some r:=hF
 unfold qbP at hF
 refine sg<|lw E (qaS rfl rfl) fun a E=>wn<|wp_seq<|cg E rfl hF (fun c7 hF=>?_) fun c7 hF=>?_
 ·refine wp_exit<|qaX ?_
  cases hF
  exact so (sl ⟨rfl,⟨ok,E.keep []⟩⟩)
 refine wp_skip<|qaa<|wp_seq<|wp_block<|sg<|mv E rfl fun a E=>av E rfl fun a E=>wn<|wp_seq<|qcZ (by kernel_rfl) (by kernel_rfl) ok<|qv E (qah rfl) fun a E=>qv E (qah rfl) fun a E=>?_
 obtain ⟨x8,e9,hF⟩:=bnd hF
 obtain ⟨b10,o11,es12,hl13,rr14,at15,yy16⟩:=ia E 16 17 qbx hs1_0 e9
 obtain ⟨rfl,l17⟩:=rr14
 refine qv E (yy16 _ _) fun a E=>qv E (qaz qao rfl (qae.ro at15)) fun a E=>qv E (qah rfl) fun a E=>qv E (qah rfl) fun a E=>?_
 obtain ⟨x18,e19,hF⟩:=bnd hF
 obtain ⟨b20,o21,es22,hl23,rr24,at25,yy26⟩:=ia E 20 21 qbx hs2_1 e19
 obtain ⟨rfl,l27⟩:=rr24
 refine qv E (yy26 _ _) fun a E=>qv E (qaz qao rfl (qae.ro at25)) fun a E=>qv E (qcP rfl rfl) fun a E=>wpQuiet_nil ?_
 intro w ok
 refine qaa<|cg E rfl hF (fun c28 hF=>?_) fun c28 hF=>?_
 ·refine wp_skip<|qag<|qaa<|qab<|lw E (qaC rfl rfl (InR.inc r6 (qas hs1_0) c7)) fun a E=>mv E rfl fun a E=>wpList_nil ?_
  cases hF
  exact qat ⟨ok,E.keep [0,1,12,13],(InR.inc r6 (qas hs1_0) c7)⟩
 refine sg<|aw E rfl fun a E=>wp_ret<|qaL<|qam ?_
 cases hF
 exact so (sr ⟨rfl,⟨ok,E.d,rz E rfl⟩⟩)
def qdw (u:World) (m0:Mem) (S:Segs) (r:Bool) (a:Act) (w:World):Prop :=
 Ok u m0 S w ∧ a.defers = [] ∧ RVs Tryz.prog a w [.t 4 (.bool r)]
theorem qfj (N:Nat) (vs1_0:Value) (s1_0:List (Ins)) (hs1_0:(pL 4 pIns) m0 [vs1_0] s1_0) (vs2_1:Value) (s2_1:List (Ins)) (hs2_1:(pL 4 pIns) m0 [vs2_1] s2_1) {r:Bool} (hF:qb2 N s1_0 s2_1 = some r) (hG:Glob u) (ok:Ok u m0 S w) :
  Calls Tryz.prog 42 [vs1_0,vs2_1].toArray w fun e w'=>(e = .returned (.bool r) ∧ Ok u m0 S w'):=by
 unfold qb2 at hF
 refine en (qdw u m0 S) r Tryz.func42 rfl rfl rfl (fun _ _ h=>ra h rfl) fun fin a E=>sg<|aw E rfl fun a E=>wp_seq<|sg<|mv E rfl fun a E=>lv E ok (qbb qc5 hs1_0 rfl) fun a E=>mv E rfl fun a E=>lv E ok (qbb qc5 hs2_1 rfl) fun a E=>lw E (qbj rfl rfl) fun a E=>wn<|cf E rfl hF (fun c1 hF=>?_) fun c1 hF=>?_
 ·refine sg<|aw E rfl fun a E=>wp_ret<|qam ?_
  exact fin hF ⟨ok,E.d,rz E rfl⟩
 refine wp_skip<|qaa<|wp_seq<|sg<|mv E rfl fun a E=>lv E ok (qbb qc5 hs1_0 rfl) fun a E=>mv E rfl fun a E=>wn<|wp_block<|bd hF fun o3 hL hF=>qa6 _ (fun (s:Int) a w=>Ok u m0 (S) w ∧ Env 26 a [(0,vs1_0),(1,vs2_1),(12,(vi (s1_0.length:Int))),(13,vi s)] ∧ InR .i64 s) (fun (b:(Unit ⊕ Bool)) e a w=>(Sum.elim (fun b35=>e = (.exit 0) ∧ Ok u m0 (S) w ∧ Env 26 a []) (fun b36=>e = .ret ∧ qdw u m0 S b36 a w)) b) ?_ ?_ N _ a w hL ⟨ok,E.keep [0,1,12,13],(ir 0)⟩
 rotate_left
 ·intro e a w _ hO
  rcases o3 with o3 | o3
  rotate_left
  ·obtain ⟨rfl,hret⟩:=hO
   refine qaL<|qam ?_
   exact fin hF hret
  have hF:=qb4 hF
  obtain ⟨rfl,ok,E⟩:=hO
  refine qbf<|qaa<|sg<|aw E rfl fun a E=>wp_ret ?_
  exact fin hF ⟨ok,E.d,rz E rfl⟩
 rintro v5 a w r ⟨ok,E,r6⟩ hF
 replace hF:qbi N s1_0 s2_1 v5 = some r:=hF
 unfold qbi at hF
 refine sg<|lw E (qaS rfl rfl) fun a E=>wn<|wp_seq<|cg E rfl hF (fun c7 hF=>?_) fun c7 hF=>?_
 ·refine wp_exit<|qaX ?_
  cases hF
  exact so (sl ⟨rfl,⟨ok,E.keep []⟩⟩)
 refine wp_skip<|qaa<|wp_seq<|wp_block<|sg<|mv E rfl fun a E=>av E rfl fun a E=>wn<|wp_seq<|qcZ (by kernel_rfl) (by kernel_rfl) ok<|qv E (qah rfl) fun a E=>qv E (qah rfl) fun a E=>?_
 obtain ⟨x8,e9,hF⟩:=bnd hF
 obtain ⟨b10,o11,es12,hl13,rr14,at15,yy16⟩:=ia E 16 17 qc5 hs1_0 e9
 obtain ⟨rfl,r17,r18,r19,l20⟩:=rr14
 refine qv E (yy16 _ _) fun a E=>qv E (qan (cs:=[vi x8.Op,vi x8.A,vi x8.B,vs x8.S]) qjA rfl rfl (qae.ro at15)) fun a E=>qv E (qah rfl) fun a E=>qv E (qah rfl) fun a E=>?_
 obtain ⟨x21,e22,hF⟩:=bnd hF
 obtain ⟨b23,o24,es25,hl26,rr27,at28,yy29⟩:=ia E 20 21 qc5 hs2_1 e22
 obtain ⟨rfl,r30,r31,r32,l33⟩:=rr27
 refine qv E (yy29 _ _) fun a E=>qv E (qan (cs:=[vi x21.Op,vi x21.A,vi x21.B,vs x21.S]) qjA rfl rfl (qae.ro at28)) fun a E=>qv E (qm1 qnw (qiH Tryz.underlying47 qlM (qeb (by decide) (qaY qaq rfl) (qaY qaq rfl) (qfE Tryz.underlying3) (qeb (by decide) (qaY qaq rfl) (qaY qaq rfl) (qfE Tryz.underlying3) (qeb (by decide) (qaY qaq rfl) (qaY qaq rfl) (qfE Tryz.underlying3) (qjw (by decide) (qaY qao rfl) (qaY qao rfl) (qkJ Tryz.underlying9)))))) rfl rfl) fun a E=>wpQuiet_nil ?_
 intro w ok
 refine qaa<|cg E rfl hF (fun c34 hF=>?_) fun c34 hF=>?_
 ·refine wp_skip<|qag<|qaa<|qab<|lw E (qaC rfl rfl (InR.inc r6 (qas hs1_0) c7)) fun a E=>mv E rfl fun a E=>wpList_nil ?_
  cases hF
  exact qat ⟨ok,E.keep [0,1,12,13],(InR.inc r6 (qas hs1_0) c7)⟩
 refine sg<|aw E rfl fun a E=>wp_ret<|qaL<|qam ?_
 cases hF
 exact so (sr ⟨rfl,⟨ok,E.d,rz E rfl⟩⟩)
def qkq (u:World) (m0:Mem) (S:Segs) (r:Bool) (a:Act) (w:World):Prop :=
 Ok u m0 S w ∧ a.defers = [] ∧ RVs Tryz.prog a w [.t 4 (.bool r)]
theorem qfp (N:Nat) (va_0:List Value) (a_0:Code) (ha_0:qeY m0 va_0 a_0) (vb_1:List Value) (b_1:Code) (hb_1:qeY m0 vb_1 b_1) {r:Bool} (hF:qdY N a_0 b_1 = some r) (hG:Glob u) (ok:Ok u m0 S w) :
  Calls Tryz.prog 19 [.agg va_0.toArray,.agg vb_1.toArray].toArray w fun e w'=>(e = .returned (.bool r) ∧ Ok u m0 S w'):=by
 obtain ⟨c1,c3,rfl,h2,h4⟩:=ha_0
 obtain ⟨c5,c7,rfl,h6,h8⟩:=hb_1
 unfold qdY at hF
 refine en (qkq u m0 S) r Tryz.func19 rfl rfl rfl (fun _ _ h=>ra h rfl) fun fin a E=>sg<|qdV E ok rfl rfl rfl fun b9 a w E ok=>qdV E ok rfl rfl rfl fun b10 a w E ok=>aw E rfl fun a E=>sg<|fk E ok qhr qdM rfl 1 rfl rfl fun a E=>fk E ok qhr qdM rfl 0 rfl rfl fun a E=>bd hF fun r11 e12 hF=>lc E qqd rfl (qgz N _ a_0.Names h2 _ b_1.Names h6 e12 hG ok) fun w ok a E=>mv E rfl fun a E=>qbr r11 (fun c13=>?_) (fun c13=>?_)
 rotate_left
 ·have hF:=qbn c13 hF
  have E:=E.upd 10 c13 rfl
  refine lsz E fun a E=>ls E fun a E=>pf E rfl rfl fun a E=>av E rfl fun a E=>wn<|wp_ret ?_
  exact fin hF ⟨ok.drop.drop,E.d,rz E rfl⟩
 have hF:=qbo c13 hF
 have E:=E.upd 10 c13 rfl
 refine fk E ok qdi qdt rfl 1 rfl rfl fun a E=>fk E ok qdi qdt rfl 0 rfl rfl fun a E=>bd hF fun r14 e15 hF=>lc E qp7 rfl (qfj N _ a_0.Ins h4 _ b_1.Ins h8 e15 hG ok) fun w ok a E=>pt E rfl rfl fun a E=>aw E rfl fun a E=>wp_ret ?_
 exact fin hF ⟨ok.drop.drop,E.d,rz E rfl⟩
def qiq (u:World) (m0:Mem) (S:Segs) (r:Replacer) (a:Act) (w:World):Prop :=
 ∃ m1 b0 c4 M5,m0.le m1 ∧ Ok u m1 ([(b0,oc 110 [(Value.int .u32 r.once.done.v),(Value.int .i32 r.once.m.mu.state),(Value.int .u32 r.once.m.mu.sema),Value.nilIface,c4])] :: M5 :: S) w ∧ a.defers = [] ∧ RVs Tryz.prog a w [.t 2 (.pointer (some ⟨b0,0,none⟩))] ∧ InR .u32 r.once.done.v ∧ InR .i32 r.once.m.mu.state ∧ InR .u32 r.once.m.mu.sema ∧ ORow 9 1 pS m1 c4 r.oldnew M5
theorem qiu (N:Nat) (voldnew_0:Value) (oldnew_0:List (List UInt8)) (holdnew_0:(pL 1 pS) m0 [voldnew_0] oldnew_0) {r:Replacer} (hF:qcM N oldnew_0 = some r) (hG:Glob u) (ok:Ok u m0 (S) w) :
  Calls Tryz.prog 34 [voldnew_0].toArray w fun e w'=>∃ m1 b0 c4 M5,e = .returned (.pointer (some ⟨b0,0,none⟩)) ∧ m0.le m1 ∧ Ok u m1 ([(b0,oc 110 [(Value.int .u32 r.once.done.v),(Value.int .i32 r.once.m.mu.state),(Value.int .u32 r.once.m.mu.sema),Value.nilIface,c4])] :: M5 :: S) w' ∧ InR .u32 r.once.done.v ∧ InR .i32 r.once.m.mu.state ∧ InR .u32 r.once.m.mu.sema ∧ ORow 9 1 pS m1 c4 r.oldnew M5:=by
 have le_m0:=Mem.le.refl m0
 unfold qcM at hF
 refine en (qiq u m0 S) r Tryz.func34 rfl rfl rfl (by rintro a w ⟨m1,b0,c4,M5,hle,ok,hd,hrv,h0,h1,h2,h3⟩; exact qbs [.t 2 (.pointer (some ⟨b0,0,none⟩))] hd rfl hrv ⟨m1,b0,c4,M5,rfl,hle,ok,h0,h1,h2,h3⟩) fun fin a E=>sg<|aw E rfl fun a E=>wp_seq<|sg<|mv E rfl fun a E=>lv E ok (qbb qbx holdnew_0 rfl) fun a E=>bd hF fun q7 e8 hF=>lw E (y_rm rfl rfl e8) fun a E=>lw E (qap rfl rfl) fun a E=>wn<|bd hF fun o9 hJ hF=>qaK (Q':=fun e a w=>e = .normal ∧ Ok u m0 (S) w ∧ Env 12 a [(0,voldnew_0)]) ?_ ?_
 ·have hF:=hJ
  refine cf E rfl hF (fun c10 hF=>?_) fun c10 hF=>?_
  ·cases hF
  refine wp_skip ?_
  cases hF
  exact ⟨rfl,⟨ok,E.keep [0]⟩⟩
 intro e a w hO
 obtain ⟨rfl,ok,E⟩:=hO
 refine qaa<|sg<|mv E rfl fun a E=>?_
 obtain ⟨M11,ok,h12⟩:=qee (e:=9) (k:=1) (R:=pS) ok
 refine bd hF fun l13 e14 hF=>qcn (R:=pS) E ok 0 mS qbx Tryz.underlying25 rfl h12 (qbz.ofL holdnew_0 ok) e14 ⟨_,qdK,rfl⟩ rfl rfl rfl rfl fun c15 M16 a w E ok h17=>lw E (qau (ps:=[(2,.tmp 9)]) (qs:=[(4,[c15])]) (cs:=[(Value.int .u32 0),(Value.int .i32 0),(Value.int .u32 0),Value.nilIface,c15]) qnP qmK rfl ⟨rfl,(ORow.cells h17),rfl,trivial⟩ rfl) fun a E=>qdV E ok rfl rfl rfl fun b18 a w E ok=>aw E rfl fun a E=>wp_ret ?_
 exact fin hF ⟨m0,b18,c15,M16,le_m0,ok,E.d,rz E rfl,(show InR .u32 0 by decide),(show InR .i32 0 by decide),(show InR .u32 0 by decide),h17⟩
def qgr (u:World) (m0:Mem) (S:Segs) (pb0:Nat) (x0:Builder) (c1:Value) (c3:Value) (M4:List (Nat × Obj)) (r:Int × Unit × Builder) (a:Act) (w:World):Prop :=
 ∃ c6 c8 M9,Ok u m0 ([(pb0,oc 68 [c6,c8])] :: M9 :: S) w ∧ a.defers = [] ∧ RVs Tryz.prog a w [.t 4 (.int .i64 r.1),.t 5 .nilIface] ∧ InR .i64 r.1 ∧ BAd pb0 c6 ∧ ORow 5 1 (pI .u8) m0 c8 r.2.2.buf M9
theorem qbB (N:Nat) (s_1:List UInt8) (ls_1:s_1.length ≤ LIMS) {pb0:Nat} {c1:Value} {c3:Value} {M4:List (Nat × Obj)} (x0:Builder) (h2:BAd pb0 c1) (h5:ORow 5 1 (pI .u8) m0 c3 x0.buf M4) {r:Int × Unit × Builder} (hF:qa0 N s_1 x0 = some r) (hG:Glob u) (ok:Ok u m0 ([(pb0,oc 68 [c1,c3])] :: M4 :: S) w) :
  Calls Tryz.prog 35 [vp pb0,vs s_1].toArray w fun e w'=>∃ c6 c8 M9,(e = .returned (.tuple [(.int .i64 r.1),.nilIface].toArray) ∧ Ok u m0 ([(pb0,oc 68 [c6,c8])] :: M9 :: S) w') ∧ InR .i64 r.1 ∧ BAd pb0 c6 ∧ ORow 5 1 (pI .u8) m0 c8 r.2.2.buf M9:=by
 unfold qa0 at hF
 refine en (qgr u m0 S pb0 x0 c1 c3 M4) r Tryz.func35 rfl rfl rfl (by rintro a w ⟨c6,c8,M9,ok,hd,hrv,h0,h1,h2⟩; exact qbs [.t 4 (.int .i64 r.1),.t 5 .nilIface] hd rfl hrv ⟨c6,c8,M9,⟨rfl,ok⟩,h0,h1,h2⟩) fun fin a E=>sg<|av E rfl fun a E=>aw E rfl fun a E=>sg<|mv E rfl fun a E=>lc E qov rfl (qgs h2 ok) fun w ok a E=>wn<|sg<|mz E rfl rfl fun a E=>lw E (qaj rfl) fun a E=>fv E qjC rfl fun a E=>ld E ok qnd 0 rfl rfl rfl fun a E=>mv E rfl fun a E=>?_
 refine bd hF fun l11 e12 hF=>qpe E ok 1 qex Tryz.underlying9 rfl h5 e12 ⟨_,qdN,rfl⟩ rfl rfl rfl rfl fun c13 M14 a w E ok h15=>lw E (qaj rfl) fun a E=>fv E qjC rfl fun a E=>qad E ok 0 rfl rfl rfl qng (ORow.cells h15) rfl ⟨(ORow.one h15),trivial⟩ rfl rfl fun w ok=>wn<|sg<|mv E rfl fun a E=>lw E (qaJ Tryz.underlying9 rfl) fun a E=>av E rfl fun a E=>aw E rfl fun a E=>wp_ret ?_
 exact fin hF ⟨(vp pb0),c13,M14,ok,E.d,⟨rv_t E rfl,rv_t E rfl,trivial⟩,(InR.len ls_1),(.inr rfl),h15⟩
theorem qev {u:World} {m0:Mem} {S:Segs} {w:World} (N:Nat) (p0_0:Int) (rp0_0:InR .i64 p0_0) {r:(List UInt8)} (hF:qcA N p0_0 = some r) (hG:Glob u) (hTb:Tab u) (ok:Ok u m0 S w) :
 Calls Tryz.prog 36 [vi p0_0].toArray w fun e w'=>(e = .returned (.string (bs r)) ∧ Ok u m0 S w') ∧ r.length ≤ LIMS:=qnh Tryz.laysM171 hTb p0_0 rp0_0 hF ok
end Go.Proofs.YtllnjbnknjpbjaaGreatDoor
namespace Go.Proofs.YtllnjbnknjpbjaaGreatDoor
theorem qkC (w:World):(callFunc 139 #[]).run Tryz.prog w = .ok (.value (.tuple #[])) w:=run_call_mark0 Tryz.func139 (by kernel_rfl) (by kernel_rfl) (by kernel_rfl) .disable (by kernel_rfl) w
theorem qlc (w:World):(callFunc 141 #[]).run Tryz.prog w = .ok (.value (.tuple #[])) w:=run_call_mark0 Tryz.func141 (by kernel_rfl) (by kernel_rfl) (by kernel_rfl) .enable (by kernel_rfl) w
theorem qmI (a:Addr) (w:World):(callFunc 142 #[.pointer (some a)]).run Tryz.prog w = .ok (.value (.tuple #[])) w:=run_call_marked Tryz.func142 (by kernel_rfl) (by kernel_rfl) (by kernel_rfl) .acquire (by kernel_rfl) a w
theorem qmF (a:Addr) (w:World):(callFunc 144 #[.pointer (some a)]).run Tryz.prog w = .ok (.value (.tuple #[])) w:=run_call_marked Tryz.func144 (by kernel_rfl) (by kernel_rfl) (by kernel_rfl) .releaseMerge (by kernel_rfl) a w
theorem qkS (a:Addr) (x:Value) (u:FrameMode) (w:World) (hc:w.cell? a = some x) (hz:w.frozen? a = false) :
  CallsD Tryz.prog 101 #[.pointer (some a),.bool true] u w fun e u' w'=>u' = u ∧ (e = .returned (.tuple #[]) ∧ w' = w.drew.setCell a (.int .u32 1)):=by
 have hc':w.drew.cell? a = some x:=by go_simp
 have hz':w.drew.frozen? a = false:=by go_simp
 have hst:=run_call_store (P:=Tryz.prog) Tryz.func124 (by kernel_rfl) (by kernel_rfl) (by kernel_rfl) (by kernel_rfl) (k:=.u32) (y:=1) hc' hz'
 go_enter_d Tryz.func101,Tryz.ntmps101
 go_wp2
 go_region_calls
 all_goals (go_end0; exact ⟨rfl,rfl⟩)
set_option maxRecDepth 100000 in
set_option maxHeartbeats 1600000 in
theorem qkA (a:Addr) (u:FrameMode) (w:World) (hc:w.cell? a = some (.int .i32 1)) (hz:w.frozen? a = false) :
  CallsD Tryz.prog 100 #[.pointer (some a)] u w fun e u' w'=>u' = u ∧ (e = .returned (.tuple #[]) ∧ w' = w.setCell a (.int .i32 0)):=by
 have hd:=qkC
 have he:=qlc
 have hr:=qmF
 have hadd:=run_call_add (P:=Tryz.prog) Tryz.func145 (by kernel_rfl) (by kernel_rfl) (by kernel_rfl) .i32 (by kernel_rfl) (y:=-1) (s:=0) hc hz (by simp [go_sem]; rfl)
 have hcv:=run_convert_to_unsafe (P:=Tryz.prog) (src:=202) (dst:=130) Tryz.underlying202 Tryz.underlying130 (by kernel_rfl) hc
 go_enter_d Tryz.func100,Tryz.ntmps100
 go_wp2
 go_end0
 go_wp2
 go_end0
 exact ⟨rfl,rfl⟩
set_option maxRecDepth 100000 in
set_option maxHeartbeats 1600000 in
theorem qm2 (a:Addr) (w:World) (hc:w.cell? a = some (.int .i32 0)) (hz:w.frozen? a = false) :
  Calls Tryz.prog 99 #[.pointer (some a)] w fun e w'=>e = .returned (.tuple #[]) ∧ w' = w.setCell a (.int .i32 1):=by
 have hd:=qkC
 have he:=qlc
 have ha:=qmI
 have hcas:=run_call_cas_hit (P:=Tryz.prog) Tryz.func140 (by kernel_rfl) (by kernel_rfl) (by kernel_rfl) .i32 (by kernel_rfl) (y:=1) hc hz
 have hc':(w.setCell a (.int .i32 1)).cell? a = some (.int .i32 1):=World.cell?_setCell_same w a _ hc
 have hcv:=run_convert_to_unsafe (P:=Tryz.prog) (src:=202) (dst:=130) Tryz.underlying202 Tryz.underlying130 (by kernel_rfl) hc'
 go_enter Tryz.func99,Tryz.ntmps99
 go_wp2
 first | go_end0 | (simp only [Exit.inBlock,Exit.then]; refine bodyPost_ret (results_none rfl _ _ _) rfl ?_) | refine bodyPost_ret (results_none rfl _ _ _) rfl ?_
 go_wp2
 go_end0
 exact ⟨rfl,rfl⟩
set_option maxRecDepth 100000 in
set_option maxHeartbeats 1600000 in
theorem qn2 (b off:Nat) (w:World) (R:World → Prop)
  (h0:w.cell? ⟨b,off,none⟩ = some (.int .u32 0)) (h1:w.cell? ⟨b,off + 1,none⟩ = some (.int .i32 0))
  (f0:w.frozen? ⟨b,off,none⟩ = false) (f1:w.frozen? ⟨b,off + 1,none⟩ = false)
  (hf:Calls Tryz.prog 58 #[.pointer (some ⟨b,off,none⟩)] (w.setCell ⟨b,off + 1,none⟩ (.int .i32 1)) fun e w'=>e = .returned (.tuple #[]) ∧ R w')
  (hR:∀ w',R w' → w'.cell? ⟨b,off,none⟩ = some (.int .u32 0) ∧ w'.cell? ⟨b,off + 1,none⟩ = some (.int .i32 1) ∧ w'.frozen? ⟨b,off,none⟩ = false ∧ w'.frozen? ⟨b,off + 1,none⟩ = false) :
  Calls Tryz.prog 73 #[.pointer (some ⟨b,off,none⟩),.func (.func 58) #[.pointer (some ⟨b,off,none⟩)] #[]] w fun e w'=>e = .returned (.tuple #[]) ∧
   ∃ w2,R w2 ∧ w' = (w2.drew.setCell ⟨b,off,none⟩ (.int .u32 1)).setCell ⟨b,off + 1,none⟩ (.int .i32 0):=by
 have hl:=run_call_load (P:=Tryz.prog) Tryz.func98 (by kernel_rfl) (by kernel_rfl) (by kernel_rfl) .u32 (by kernel_rfl) (w:=w.setCell ⟨b,off + 1,none⟩ (.int .i32 1)) (a:=⟨b,off,none⟩) (x:=0) ((World.cell?_setCell_other _ ⟨b,off + 1,none⟩ ⟨b,off,none⟩ _ (by simp)).trans h0)
 have hnot:∀ (x:Bool) (w:World),(Op.unary .not (.bool x)).run Tryz.prog w = .ok (.bool (!x)) w:=fun _ _=>rfl
 go_enter_defers Tryz.func73,Tryz.ntmps73
 go_wp2_with (first | (go_at_call 99; refine (qm2 ⟨b,off + 1,none⟩ _ (by go_simp) (by go_simp)).mono ?_; rintro e w' ⟨rfl,rfl⟩) | (go_at_call 58; refine hf.mono ?_; rintro e w2 ⟨rfl,r2⟩) | (go_at_call 72; go_in))
 obtain ⟨k0,k1,z0,z1⟩:=hR w2 r2
 refine leaves_cons (f:=101) (args:=#[.pointer (some ⟨b,off,none⟩),.bool true]) (by simp) (by simp [go_sem]) ?_
 refine (qkS ⟨b,off,none⟩ (.int .u32 0) .returning _ k0 z0).mono ?_
 rintro e u' w'' ⟨rfl,rfl,rfl⟩
 refine leaves_cons (f:=100) (args:=#[.pointer (some ⟨b,off + 1,none⟩)]) (by simp [settle]) (by simp [go_sem]) ?_
 refine (qkA ⟨b,off + 1,none⟩ _ _ ?_ (by simp [z1])).mono ?_
 ·refine (World.cell?_setCell_other _ ⟨b,off,none⟩ ⟨b,off + 1,none⟩ _ (by simp)).trans ?_
  rw [World.cell?_drew]
  exact k1
 rintro e u' w'' ⟨rfl,rfl,rfl⟩
 simp [Leaves,settle,results,Tryz.results73]
 exact ⟨w2,r2,rfl⟩
set_option maxRecDepth 100000 in
set_option maxHeartbeats 1600000 in
theorem qnG (b off:Nat) (w:World) (R:World → Prop)
  (h0:w.cell? ⟨b,off,none⟩ = some (.int .u32 0)) (h1:w.cell? ⟨b,off + 1,none⟩ = some (.int .i32 0))
  (f0:w.frozen? ⟨b,off,none⟩ = false) (f1:w.frozen? ⟨b,off + 1,none⟩ = false)
  (hf:Calls Tryz.prog 58 #[.pointer (some ⟨b,off,none⟩)] (w.setCell ⟨b,off + 1,none⟩ (.int .i32 1)) fun e w'=>e = .returned (.tuple #[]) ∧ R w')
  (hR:∀ w',R w' → w'.cell? ⟨b,off,none⟩ = some (.int .u32 0) ∧ w'.cell? ⟨b,off + 1,none⟩ = some (.int .i32 1) ∧ w'.frozen? ⟨b,off,none⟩ = false ∧ w'.frozen? ⟨b,off + 1,none⟩ = false) :
  Calls Tryz.prog 57 #[.pointer (some ⟨b,off,none⟩),.func (.func 58) #[.pointer (some ⟨b,off,none⟩)] #[]] w fun e w'=>e = .returned (.tuple #[]) ∧
   ∃ w2,R w2 ∧ w' = (w2.drew.setCell ⟨b,off,none⟩ (.int .u32 1)).setCell ⟨b,off + 1,none⟩ (.int .i32 0):=by
 have hl:=run_call_load (P:=Tryz.prog) Tryz.func98 (by kernel_rfl) (by kernel_rfl) (by kernel_rfl) .u32 (by kernel_rfl) h0
 have hnot:∀ (x:Bool) (w:World),(Op.unary .not (.bool x)).run Tryz.prog w = .ok (.bool (!x)) w:=fun _ _=>rfl
 go_enter Tryz.func57,Tryz.ntmps57
 go_wp2_with (first | (go_at_call 73; refine (qn2 b off w R h0 h1 f0 f1 hf hR).mono ?_; rintro e w' ⟨rfl,h⟩) | (go_at_call 72; go_in))
 go_end0
 exact ⟨rfl,h⟩
theorem qoB (a:Addr) (d:Int) (hd:¬ d = 0) (fv:Value) (w:World) (h0:w.cell? a = some (.int .u32 d)) :
  Calls Tryz.prog 57 #[.pointer (some a),fv] w fun e w'=>e = .returned (.tuple #[]) ∧ w' = w:=by
 have hl:=run_call_load (P:=Tryz.prog) Tryz.func98 (by kernel_rfl) (by kernel_rfl) (by kernel_rfl) .u32 (by kernel_rfl) h0
 have hnot:∀ (x:Bool) (w:World),(Op.unary .not (.bool x)).run Tryz.prog w = .ok (.bool (!x)) w:=fun _ _=>rfl
 have hd':(d != 0) = true:=by simp [hd]
 go_enter Tryz.func57,Tryz.ntmps57
 go_wp2
 go_end0
 exact ⟨rfl,rfl⟩
end Go.Proofs.YtllnjbnknjpbjaaGreatDoor
namespace Go.X
section
variable {P:Program} {C:World → Prop} {L:List (Nat × Value)} {ty:TypeId}
theorem qo5 {x y:Operand} {t t' e:TypeId} {q:Option Addr} {n c n' c':Nat} (ht:P.underlying t = some (.slice e)) (hx:ev L x = some (.slice q n c)) (hy:ev L y = some (.slice none n' c')):qaM P C L (.binOp .eql t x y t') ty (.bool q.isNone):=by
 intro ρ w dst pos after g E ok
 have h:=Lib.run_eql_slice_nil w t e q n c n' c' ht
 simp [execOp,E hx,E hy,eqGuard,h,Result.andThen]
theorem qiU {x y:Operand} {t t' e:TypeId} {q:Option Addr} {n c n' c':Nat} (ht:P.underlying t = some (.slice e)) (hx:ev L x = some (.slice q n c)) (hy:ev L y = some (.slice none n' c')):qaM P C L (.binOp .neq t x y t') ty (.bool (!q.isNone)):=by
 intro ρ w dst pos after g E ok
 have h:=run_neq_slice_nil_any w t e q n c n' c' ht
 simp [execOp,E hx,E hy,eqGuard,h,Result.andThen]
theorem qo3 {x:Operand} {t:TypeId} {v:Value} (ht:P.concrete t = true) (hx:ev L x = some v):qaM P C L (.makeInterface t x) ty (.iface t v):=by
 intro ρ w dst pos after g E ok
 simp only [execOp,E hx]
 rw [Sem.run_bind,run_makeInterface _ t v ht]
 rfl
end
section
variable {P:Program} {u w:World} {m:Mem} {S:Segs} {Q:Exit → Act → World → Prop} {n:Nat} {L:List (Nat × Value)} {l rest:List Oper} {a:Act} {d:Nat} {ty:TypeId} {pos:String} {after:Array Edge} {gd:Option (Nat × Bool)}
theorem qo7 {k:Nat} {e t:TypeId} {x y:Operand} {kd kd':IntKind} {j:Nat} {z:List Value} (E:Env n a L) (ok:Ok u m S w) (ht:SlT P t e k) (hz:qbX P e = some z) (hzl:z.length = k) (hy:ev L y = some (.int kd' 0)) (hx:ev L x = some (.int kd (j:Int))) (hj:j ≤ LIM)
  (hg:want l L gd = some true) (hd:Nat.blt d n = true)
  (K:∀ b a' w',Env n a' ((d,.slice (some ⟨b,0,none⟩) 0 j) :: L) → Ok u m ([(b,Obj.cells (reps z j).toArray e (0,0))] :: S) w' → wpList P l.toArray Q rest a' w') :
  wpList P l.toArray Q (⟨some d,.makeSlice t y x,ty,pos,after,gd⟩ :: rest) a w:=by
 obtain ⟨i,hinf,hsz,hby,hk⟩:=ht.inf
 obtain ⟨zv,hzr,hzc⟩:=qfs (P:=P) hz
 refine l_op (v:=.slice (some ⟨w.heap.size,0,none⟩) 0 j) (w':=w.alloc (.cells (reps z j).toArray e)) E hg hd ?_ (fun a' E'=>K _ _ _ E' (ok.alloc _))
 have hw:IntKind.i64.wrap (j:Int) = j:=qck (by rw [qbC]; unfold LIM at hj; omega)
 have hw0:IntKind.i64.wrap 0 = 0:=qck (by rw [qbC]; omega)
 have hti:(typeInfo e).run P w = .ok i w:=by simp [typeInfo,hinf,go_sem]
 have hsz':(sizeOf e).run P w = .ok k w:=by simp [sizeOf,typeInfo,hinf,hsz,go_sem]
 have hbj:i.bytes * j ≤ 32768 * 4294967296:=Nat.mul_le_mul hby hj
 have hroom:¬ (roomBytes < j * i.bytes):=by
  rw [Nat.mul_comm]; unfold roomBytes; omega
 have hsize:zv.cells.size = k:=by rw [← hzl,← hzc]; simp
 have hrow:j * k ≠ 0 → ((Array.range (j * k)).map fun i=>zv.cells[i % zv.cells.size]!) = (reps z j).toArray:=by
  intro _
  rw [← qmr z j,hzl,hsize]
  apply Array.ext'
  simp only [Array.toList_map,Array.toList_range]
  apply List.map_congr_left
  intro i _
  rw [← hzc]
  simp [getElem!_def]
 have hl1:¬ (281474976710656 < (i.bytes:Int) * (j:Int)):=by
  have:((i.bytes * j:Nat):Int) ≤ ((32768 * 4294967296:Nat):Int):=Int.ofNat_le.2 hbj
  rw [Int.natCast_mul] at this
  omega
 simp only [execOp,E.ev hx,E.ev hy,Instr.makeSlice,Sem.run_bind,run_underlying ht.und,Result.andThen_ok,asInt,asIntOf,Sem.run_pure,hti,hw,hw0,Int.toNat_natCast]
 have c1:((decide ((j:Int) < 0) || decide ((i.bytes:Int) * (j:Int) > 2 ^ 48)) || decide ((0:Int) < 0) || decide ((0:Int) > (j:Int))) = false:=by
  simp only [Bool.or_eq_false_iff,decide_eq_false_iff_not]
  refine ⟨⟨⟨by omega,by simpa using hl1⟩,by omega⟩,by omega⟩
 by_cases hjk:j * k = 0
 ·have h0:j = 0:=by
   rcases Nat.mul_eq_zero.1 hjk with h | h
   ·exact h
   ·omega
  have e1:((Array.range (j * k)).map fun x=>(#[]:Array Value)[x % (#[]:Array Value).size]!) = (reps z j).toArray:=by subst h0; simp [reps]
  simp only [c1,Bool.false_eq_true,if_false,askRoom,gt_iff_lt,hroom,Sem.run_bind,Sem.run_pure,Result.andThen_ok,hsz',hjk,if_true]
  rw [hjk] at e1
  simp only [newRow,Sem.run_bind,Sem.run_pure,qdF,Result.andThen_ok,e1,Int.toNat_zero]
 ·simp only [c1,Bool.false_eq_true,if_false,askRoom,gt_iff_lt,hroom,Sem.run_bind,Sem.run_pure,Result.andThen_ok,hsz',hjk,hzr,hrow hjk,newRow,qdF,Int.toNat_zero]
end
end Go.X
namespace Go.Proofs.YtllnjbnknjpbjaaGreatDoor
open Go.X
theorem qkv:qaO Tryz.prog 110 1 3 = true:=by kernel_rfl
theorem qkw:qaO Tryz.prog 110 2 4 = true:=by kernel_rfl
set_option maxRecDepth 100000 in
theorem qe0:qaO Tryz.prog 170 0 0 = true:=by kernel_rfl
set_option maxRecDepth 100000 in
theorem qhn:qaO Tryz.prog 170 1 256 = true:=by kernel_rfl
theorem qiA:oneB Tryz.prog 25 = true:=by kernel_rfl
theorem qik:oneB Tryz.prog 9 = true:=by kernel_rfl
theorem qgH:oneB Tryz.prog 66 = true:=by kernel_rfl
theorem qe7:SlT Tryz.prog 25 9 1:=SlT.of (by kernel_rfl)
theorem qjH:SlT Tryz.prog 66 5 1:=SlT.of (by kernel_rfl)
set_option maxRecDepth 100000 in
theorem qhD:ArT Tryz.prog 168 66 256 1:=ArT.of (by kernel_rfl)
theorem qj1:qbX Tryz.prog 9 = some [(Value.string (bs ([])))]:=by kernel_rfl
theorem qlS:qbX Tryz.prog 5 = some [(Value.int .u8 0)]:=by kernel_rfl
set_option maxRecDepth 100000 in
theorem qoa:∃ i,Tryz.prog.info? 66 = some i ∧ i.size = 1:=⟨_,rfl,by kernel_rfl⟩
set_option maxRecDepth 100000 in
theorem qlV:∃ i,Tryz.prog.info? 25 = some i ∧ i.size = 1:=⟨_,rfl,by kernel_rfl⟩
set_option maxRecDepth 100000 in
theorem qm9:∃ i,Tryz.prog.info? 108 = some i ∧ i.size = 1:=⟨_,rfl,by kernel_rfl⟩
set_option maxRecDepth 100000 in
theorem qnq:∃ i,Tryz.prog.info? 170 = some i ∧ i.size = 257:=⟨_,rfl,by kernel_rfl⟩
def Z257:List Value:=List.replicate 257 (.slice none 0 0)
set_option maxRecDepth 100000 in
theorem qkm:qbX Tryz.prog 170 = some Z257:=by kernel_rfl
set_option maxRecDepth 100000 in
theorem qlK:qdz Tryz.prog 170 = some [(0,256),(256,1)]:=by kernel_rfl
set_option maxRecDepth 100000 in
theorem qm4:Tryz.prog.concrete 171 = true:=by kernel_rfl
theorem qfr:Z257.length = 257:=by unfold Z257; rw [List.length_replicate]
theorem qlW {c:Nat} (h:c < 257):Z257[c]? = some (.slice none 0 0):=by unfold Z257; rw [List.getElem?_replicate,if_pos h]
theorem qli:∀ {vs:List Value},(∀ v ∈ vs,v.oneCell' = true) → qgR vs
 | [],_=>trivial
 | v :: vs,h=>⟨h v (by simp),qli fun x hx=>h x (by simp [hx])⟩
def ON:List (List UInt8):=[[34],[92,34],[92],[92,92],[10],[92,110]]
def RV (m:Mem) (v:Value) (o:Option (List UInt8)):Prop:=match o with
 | none=>v = .slice none 0 0
 | some s=>∃ b cap,v = .slice (some ⟨b,0,none⟩) s.length cap ∧ At m b 0 (qcG s)
theorem RV.up {m m':Mem} {v:Value} {o:Option (List UInt8)} (h:RV m v o) (hle:m.le m'):RV m' v o:=by
 unfold RV at *
 cases o with
 | none=>exact h
 | some s =>
  obtain ⟨b,cap,h1,h2⟩:=h
  exact ⟨b,cap,h1,h2.up hle⟩
theorem RV.one {m:Mem} {v:Value} {o:Option (List UInt8)} (h:RV m v o):v.oneCell' = true ∧ v.cells.toList = [v]:=by
 unfold RV at h
 cases o with
 | none=>subst h; exact ⟨rfl,rfl⟩
 | some s=>obtain ⟨b,cap,rfl,_⟩:=h; exact ⟨rfl,rfl⟩
def TR:List (List UInt8):=[[10],[92],[34]]
structure Tb (m:Mem) (k:Nat) (cells:List Value) (tv:Value) (Mt:List (Nat × Obj)):Prop where
 len:cells.length = 257
 top:cells[256]? = some tv
 row:ORow 9 1 pS m tv (TR.take k) Mt
 at_:∀ c,c < 256 → ∃ v,cells[c]? = some v ∧ RV m v (rpk k c)
def BSR (m:Mem) (d:Nat):Prop:=∃ cells tv,cells.length = 257 ∧ At m d 0 cells ∧ cells[256]? = some tv ∧ pL 1 pS m [tv] TR ∧ ∀ c,c < 256 → ∃ v,cells[c]? = some v ∧ RV m v (rpk 3 c)
theorem At.frz {m:Mem} {b:Nat} {xs ys:List Value} {T:TypeId} {f:Nat × Nat} (h:m b = some (Obj.cells (xs ++ ys).toArray T f)):At m b 0 xs:=by
 intro j v hj
 have hlt:=(List.getElem?_eq_some_iff.1 hj).1
 unfold Mem.cell
 simp only [h]
 rw [if_neg (by simp)]
 rw [List.getElem?_toArray,Nat.zero_add,List.getElem?_append_left hlt]
 exact hj
theorem qot {α:Type} {l:List α} {i:Nat} {v:α} (h:l[i]? = some v):(l.drop i).take 1 = [v]:=by
 obtain ⟨hlt,rfl⟩:=List.getElem?_eq_some_iff.1 h
 rw [List.drop_eq_getElem_cons hlt]
 rfl
theorem qmi (c:UInt8):bytesOf [(c.toNat:Int)] = [c]:=by simp [bytesOf]
theorem rnd {k:Nat} (hk:k < 3):∃ c s2,ON[4 - 2 * k]? = some [c] ∧ ON[4 - 2 * k + 1]? = some s2 ∧ TR.take (k + 1) = TR.take k ++ [[c]] ∧ rpk k c.toNat = none ∧ ∀ x,rpk (k + 1) x = if x = c.toNat then some s2 else rpk k x:=by
 rcases (show k = 0 ∨ k = 1 ∨ k = 2 by omega) with rfl | rfl | rfl
 ·refine ⟨10,[92,110],rfl,rfl,rfl,rfl,fun x=>?_⟩
  have h:(10:UInt8).toNat = 10:=rfl
  unfold rpk
  rw [h]
  by_cases h1:x = 10 <;> simp [h1]
 ·refine ⟨92,[92,92],rfl,rfl,rfl,rfl,fun x=>?_⟩
  have h:(92:UInt8).toNat = 92:=rfl
  unfold rpk
  rw [h]
  by_cases h1:x = 10 <;> by_cases h2:x = 92 <;> simp [h1,h2] <;> omega
 ·refine ⟨34,[92,34],rfl,rfl,rfl,rfl,fun x=>?_⟩
  have h:(34:UInt8).toNat = 34:=rfl
  unfold rpk
  rw [h]
  by_cases h1:x = 10 <;> by_cases h2:x = 92 <;> by_cases h3:x = 34 <;> simp [h1,h2,h3] <;> omega
section
variable {u:World} {m0:Mem} {S:Segs} {w:World}
set_option maxHeartbeats 4000000 in
set_option maxRecDepth 100000 in
theorem qo0 {b ab oo cap:Nat} {x0 x1 x2:Value} (hAt:∀ i x,ON[i]? = some x → m0.cell ⟨ab,oo + i,none⟩ = some (.string (bs x)))
  (ok:Ok u m0 ([(b,Obj.cells [x0,x1,x2,.nilIface,.slice (some ⟨ab,oo,none⟩) 6 cap].toArray 110 (0,0))] :: S) w) :
  Calls Tryz.prog 74 [Value.pointer (some ⟨b,0,none⟩)].toArray w fun e w'=>∃ m1 d,e = .returned (.iface 171 (.pointer (some ⟨d,0,none⟩))) ∧ m0.le m1 ∧ BSR m1 d ∧
   Ok u m1 ([(b,Obj.cells [x0,x1,x2,.nilIface,.slice (some ⟨ab,oo,none⟩) 6 cap].toArray 110 (0,0))] :: S) w':=by
 have hx:∀ (m:Mem) (SS:Segs) (hle:m0.le m) (i:Nat) (x:List UInt8),ON[i]? = some x → qae (Ok u m SS) ab (oo + i * 1) [.string (bs x)]:=by
  intro m SS hle i x hi
  refine qae.ro fun j v hj=>?_
  have hj0:j = 0:=by
   have:=(List.getElem?_eq_some_iff.1 hj).1
   simpa using this
  subst hj0
  cases hj
  rw [Nat.add_zero,Nat.mul_one]
  exact hle.cell (hAt i x hi)
 refine enter Tryz.func74 rfl rfl rfl fun a E=>?_
 refine wp_seq ?_
 refine qab ?_
 refine qal E ok (qaI rfl) rfl rfl fun a E=>?_
 refine wpList_nil ?_
 refine qaa ?_
 refine wp_seq ?_
 refine qab ?_
 refine qal E ok (qah rfl) rfl rfl fun a E=>?_
 refine qal E ok (qaj rfl) rfl rfl fun a E=>?_
 refine qal E ok (qai qkw rfl) rfl rfl fun a E=>?_
 refine qal E ok (qaz qiA rfl (qae.own 0 rfl rfl)) rfl rfl fun a E=>?_
 refine qal E ok (qaI rfl) rfl rfl fun a E=>?_
 refine wpList_nil ?_
 refine qaa ?_
 refine wp_seq ?_
 refine wp_seq ?_
 refine qab ?_
 refine qal E ok (qah rfl) rfl rfl fun a E=>?_
 refine qal E ok (qh0 Tryz.underlying25 rfl) rfl rfl fun a E=>?_
 refine qal E ok (qap rfl rfl) rfl rfl fun a E=>?_
 refine qal E ok (qah rfl) rfl rfl fun a E=>?_
 refine qij E rfl rfl fun a E=>?_
 refine qij E rfl rfl fun a E=>?_
 refine qij E rfl rfl fun a E=>?_
 refine qij E rfl rfl fun a E=>?_
 refine qij E rfl rfl fun a E=>?_
 refine qal E ok (qdk rfl rfl) rfl rfl fun a E=>?_
 refine wpList_nil ?_
 refine qaa ?_
 refine c_if E rfl (fun h=>by cases h) (fun _=>?_)
 refine wp_skip ?_
 refine qaa ?_
 refine wp_seq ?_
 refine qab ?_
 refine qal E ok (qaI rfl) rfl rfl fun a E=>?_
 refine wpList_nil ?_
 refine qaa ?_
 refine wp_seq ?_
 refine wp_seq ?_
 refine qab ?_
 refine qal E ok (qaI rfl) rfl rfl fun a E=>?_
 refine wpList_nil ?_
 refine qaa ?_
 refine wp_block ?_
 have it3:iter (fun k:Nat=>if k < 3 then some (Sum.inl (k + 1)) else some (Sum.inr ())) 4 0 = some ():=rfl
 refine qa6 (fun k:Nat=>if k < 3 then some (Sum.inl (k + 1)) else some (Sum.inr ()))
  (fun k a w=>k ≤ 3 ∧ Ok u m0 ([(b,Obj.cells [x0,x1,x2,.nilIface,.slice (some ⟨ab,oo,none⟩) 6 cap].toArray 110 (0,0))] :: S) w ∧ Env 132 a [(0,Value.pointer (some ⟨b,0,none⟩)),(3,.slice (some ⟨ab,oo,none⟩) 6 cap),(4,.bool (k == 0)),(5,.int .i64 ((2 * k:Nat):Int))])
  (fun _ e a w=>e = .exit 0 ∧ Ok u m0 ([(b,Obj.cells [x0,x1,x2,.nilIface,.slice (some ⟨ab,oo,none⟩) 6 cap].toArray 110 (0,0))] :: S) w ∧ Env 132 a [(0,Value.pointer (some ⟨b,0,none⟩)),(3,.slice (some ⟨ab,oo,none⟩) 6 cap),(4,.bool false)]) ?_ ?_ 4 0 a w (b:=()) it3 ⟨by omega,ok,E.keep [0,3,4,5]⟩
 ·rintro k a w r ⟨hk,ok,E⟩ hB
  refine wp_seq ?_
  refine wp_seq ?_
  refine qab ?_
  refine qal E ok (qah rfl) rfl rfl fun a E=>?_
  refine qal E ok (qah rfl) rfl rfl fun a E=>?_
  refine qal E ok (qh0 Tryz.underlying25 rfl) rfl rfl fun a E=>?_
  refine qal E ok (qaS rfl rfl) rfl rfl fun a E=>?_
  refine wpList_nil ?_
  refine qaa ?_
  refine c_if E rfl (fun hc=>?_) (fun hc=>?_)
  ·have hlt:k < 3:=by have:=of_decide_eq_true hc; omega
   rw [if_pos hlt] at hB
   obtain rfl:=Option.some.inj hB
   refine wp_skip ?_
   refine qaa ?_
   refine wp_seq ?_
   refine wp_block ?_
   refine wp_seq ?_
   refine wp_seq ?_
   obtain ⟨o1,ho1,hl1⟩:∃ x,ON[2 * k]? = some x ∧ x.length = 1:=by
    rcases (show k = 0 ∨ k = 1 ∨ k = 2 by omega) with rfl | rfl | rfl <;> exact ⟨_,rfl,rfl⟩
   obtain ⟨o2,ho2,hl2⟩:∃ x,ON[2 * k + 1]? = some x ∧ x.length = 2:=by
    rcases (show k = 0 ∨ k = 1 ∨ k = 2 by omega) with rfl | rfl | rfl <;> exact ⟨_,rfl,rfl⟩
   refine qab ?_
   refine qal E ok (qah rfl) rfl rfl fun a E=>?_
   refine qal E ok (qah rfl) rfl rfl fun a E=>?_
   refine qal E ok (qhC (k:=1) qe7 rfl rfl (by omega)) rfl rfl fun a E=>?_
   refine qal E ok (qaz qik rfl (hx m0 _ (Mem.le.refl m0) _ _ ho1)) rfl rfl fun a E=>?_
   refine qal E ok (qaJ Tryz.underlying9 rfl) rfl rfl fun a E=>?_
   rw [hl1] at E
   refine qal E ok (qbj rfl rfl) rfl rfl fun a E=>?_
   refine wpList_nil ?_
   refine qaa ?_
   refine c_if E rfl (fun h=>by cases h) (fun _=>?_)
   refine wp_skip ?_
   refine qaa ?_
   refine wp_seq ?_
   refine qab ?_
   refine qal E ok (qah rfl) rfl rfl fun a E=>?_
   refine qal E ok (qah rfl) rfl rfl fun a E=>?_
   refine qal E ok (qaQ rfl rfl) rfl rfl fun a E=>?_
   rw [show IntKind.wrap .i64 (((2 * k:Nat):Int) + 1) = ((2 * k + 1:Nat):Int) from by rw [qck (qbC.2 ⟨by omega,by omega⟩)]; omega] at E
   refine qal E ok (qhC (k:=1) qe7 rfl rfl (by omega)) rfl rfl fun a E=>?_
   refine qal E ok (qaz qik rfl (hx m0 _ (Mem.le.refl m0) _ _ ho2)) rfl rfl fun a E=>?_
   refine qal E ok (qaJ Tryz.underlying9 rfl) rfl rfl fun a E=>?_
   rw [hl2] at E
   refine qal E ok (qbj rfl rfl) rfl rfl fun a E=>?_
   refine wpList_nil ?_
   refine qaa ?_
   refine c_if E rfl (fun _=>?_) (fun h=>by cases h)
   refine qab ?_
   refine qal E ok (qaI rfl) rfl rfl fun a E=>?_
   refine wpList_nil ?_
   refine qag ?_
   refine qaa ?_
   refine qab ?_
   refine qal E ok (qah rfl) rfl rfl fun a E=>?_
   refine qal E ok (qaQ rfl rfl) rfl rfl fun a E=>?_
   rw [show IntKind.wrap .i64 (((2 * k:Nat):Int) + 2) = ((2 * (k + 1):Nat):Int) from by rw [qck (qbC.2 ⟨by omega,by omega⟩)]; omega] at E
   refine qal E ok (qaI rfl) rfl rfl fun a E=>?_
   refine wpList_nil ?_
   refine qat ⟨by omega,ok,?_⟩
   have:(k + 1 == 0) = false:=by simp
   rw [this]
   exact E.keep [0,3,4,5]
  ·have hge:¬ k < 3:=by have:=of_decide_eq_false hc; omega
   rw [if_neg hge] at hB
   obtain rfl:=Option.some.inj hB
   refine wp_exit ?_
   refine qaX ?_
   refine qjq (by nofun) ⟨rfl,ok,?_⟩
   have:(k == 0) = false:=by rw [beq_eq_false_iff_ne]; omega
   rw [this] at E
   exact E.keep [0,3,4]
 ·rintro e a w _ ⟨rfl,ok,E⟩
  refine qbf ?_
  refine qaa ?_
  refine wp_seq ?_
  refine wp_seq ?_
  refine qab ?_
  refine qal E ok (qah rfl) rfl rfl fun a E=>?_
  refine wpList_nil ?_
  refine qaa ?_
  refine c_if E rfl (fun h=>by cases h) (fun _=>?_)
  refine wp_skip ?_
  refine qaa ?_
  refine wp_seq ?_
  refine qab ?_
  refine qal E ok (qah rfl) rfl rfl fun a E=>?_
  refine qal E ok (qh0 Tryz.underlying25 rfl) rfl rfl fun a E=>?_
  refine qal E ok (qgb rfl rfl (by decide)) rfl rfl fun a E=>?_
  rw [show IntKind.wrap .i64 (((6:Nat):Int).tdiv 2) = ((3:Nat):Int) from by decide] at E
  refine qo7 (k:=1) (j:=3) E ok qe7 qj1 rfl rfl rfl (by decide) rfl rfl fun bt a w E ok=>?_
  refine qal E ok (qau (ps:=[(1,.tmp 94)]) (qs:=[(256,[.slice (some ⟨bt,0,none⟩) 0 3])]) qkm qlK rfl ⟨rfl,rfl,Nat.ble_eq_true_of_le (by rw [qfr]; exact (show 256 + 1 ≤ 257 by decide)),trivial⟩ rfl) rfl rfl fun a E=>?_
  refine qa3 E ok qkm rfl rfl fun d a w E ok=>?_
  have hfl:fl Z257 [(256,[.slice (some ⟨bt,0,none⟩) 0 3])] = wr Z257 256 [.slice (some ⟨bt,0,none⟩) 0 3]:=rfl
  rw [hfl] at E
  have hwl:(wr Z257 256 [.slice (some ⟨bt,0,none⟩) 0 3]).length = 257:=by rw [qcX,qfr]
  have hwg:∀ j,(wr Z257 256 [.slice (some ⟨bt,0,none⟩) 0 3])[j]? = if j = 256 then some (.slice (some ⟨bt,0,none⟩) 0 3) else Z257[j]?:=fun j=>by
   rw [qeL _ _ _ _ (by rw [qfr]; exact (show 256 + 1 ≤ 257 by decide))]
   by_cases h:j = 256
   ·subst h; rfl
   ·rw [if_neg h,if_neg]
    intro h'
    exact h (by have h1:=h'.1; have h2:j < 256 + 1:=h'.2; omega)
  generalize hC:wr Z257 256 [.slice (some ⟨bt,0,none⟩) 0 3] = C1 at E hwl hwg
  refine qad (c:=Z257) (vs:=C1) (sz:=257) E ok 0 rfl rfl rfl qnq rfl hwl (qli fun v hv=>?_) (Nat.ble_eq_true_of_le (by rw [hwl,qfr]; decide)) rfl fun w ok=>?_
  ·obtain ⟨j,hj⟩:=List.mem_iff_getElem?.1 hv
   rw [hwg] at hj
   split at hj
   ·cases hj; rfl
   ·have hlt:=(List.getElem?_eq_some_iff.1 hj).1
    rw [qlW (by rw [qfr] at hlt; exact hlt)] at hj
    cases hj; rfl
  have hcl:(wr Z257 0 C1).length = 257:=by rw [qcX,qfr]
  have hcg:∀ j,(wr Z257 0 C1)[j]? = C1[j]?:=fun j=>by
   rw [qeL _ _ _ _ (by rw [hwl,qfr]; decide)]
   by_cases h:j < 257
   ·rw [if_pos ⟨Nat.zero_le _,by rw [hwl]; omega⟩,Nat.sub_zero]
   ·rw [if_neg (by rw [hwl]; omega),List.getElem?_eq_none (by rw [qfr]; omega),List.getElem?_eq_none (by rw [hwl]; omega)]
  refine wpList_nil ?_
  refine qaa ?_
  refine wp_seq ?_
  refine wp_seq ?_
  refine qab ?_
  refine qal E ok (qah rfl) rfl rfl fun a E=>?_
  refine qal E ok (qh0 Tryz.underlying25 rfl) rfl rfl fun a E=>?_
  refine qal E ok (qcY rfl rfl) rfl rfl fun a E=>?_
  rw [show IntKind.wrap .i64 (((6:Nat):Int) - 2) = 4 - 2 * ((0:Nat):Int) from by decide] at E
  refine qal E ok (qaI rfl) rfl rfl fun a E=>?_
  refine wpList_nil ?_
  refine qaa ?_
  refine wp_block ?_
  have tb0:Tb m0 0 (wr Z257 0 C1) (.slice (some ⟨bt,0,none⟩) 0 3) [(bt,Obj.cells (reps [(Value.string (bs ([])))] 3).toArray 9 (0,0))]:=by
   refine ⟨hcl,by rw [hcg,hwg,if_pos rfl],.inr ⟨bt,0,3,_,rfl,rfl,by decide,by decide,by decide,by decide,fun i x hi=>by cases hi⟩,fun c hc=>⟨_,by rw [hcg,hwg,if_neg (by omega),qlW (by omega)],?_⟩⟩
   have:rpk 0 c = none:=by unfold rpk; simp
   rw [this]
   rfl
  generalize wr Z257 0 C1 = cells0 at ok tb0
  refine qa6 (fun k:Nat=>if k < 3 then some (Sum.inl (k + 1)) else some (Sum.inr ()))
   (fun k a w=>∃ m1 cells tv Mt,k ≤ 3 ∧ m0.le m1 ∧ Ok u m1 ([(d,Obj.cells cells.toArray 170 (0,0))] :: Mt :: [(b,Obj.cells [x0,x1,x2,.nilIface,.slice (some ⟨ab,oo,none⟩) 6 cap].toArray 110 (0,0))] :: S) w ∧ Tb m1 k cells tv Mt ∧ Env 132 a [(3,.slice (some ⟨ab,oo,none⟩) 6 cap),(11,.pointer (some ⟨d,0,none⟩)),(12,.int .i64 (4 - 2 * (k:Int)))])
   (fun _ e a w=>e = .exit 6 ∧ ∃ m1 cells tv Mt,m0.le m1 ∧ Ok u m1 ([(d,Obj.cells cells.toArray 170 (0,0))] :: Mt :: [(b,Obj.cells [x0,x1,x2,.nilIface,.slice (some ⟨ab,oo,none⟩) 6 cap].toArray 110 (0,0))] :: S) w ∧ Tb m1 3 cells tv Mt ∧ Env 132 a [(11,.pointer (some ⟨d,0,none⟩))]) ?_ ?_ 4 0 a w (b:=()) it3 ⟨m0,cells0,_,_,by omega,Mem.le.refl m0,ok,tb0,E.keep [3,11,12]⟩
  ·rintro k a w r ⟨m1,cells,tv,Mt,hk,hle,ok,tb,E⟩ hB
   refine wp_seq ?_
   refine wp_seq ?_
   refine qab ?_
   refine qal E ok (qah rfl) rfl rfl fun a E=>?_
   refine qal E ok (qbK rfl rfl) rfl rfl fun a E=>?_
   refine wpList_nil ?_
   refine qaa ?_
   refine c_if E rfl (fun hc=>?_) (fun hc=>?_)
   ·have hlt:k < 3:=by have:=of_decide_eq_true hc; omega
    rw [if_pos hlt] at hB
    obtain rfl:=Option.some.inj hB
    obtain ⟨c,s2,q1,q2,q3,q4,q5⟩:=rnd hlt
    have hc256:c.toNat < 256:=c.toNat_lt
    have hlt6:4 - 2 * k < 6:=by omega
    have hi:(4 - 2 * (k:Int)) = ((4 - 2 * k:Nat):Int):=by omega
    rw [hi] at E
    refine wp_skip ?_
    refine qaa ?_
    refine wp_seq ?_
    refine wp_block ?_
    refine wp_seq ?_
    refine qab ?_
    refine qal E ok (qah rfl) rfl rfl fun a E=>?_
    refine qal E ok (qah rfl) rfl rfl fun a E=>?_
    refine qal E ok (qhC (k:=1) qe7 rfl rfl hlt6) rfl rfl fun a E=>?_
    refine qal E ok (qaz qik rfl (hx m1 _ hle _ _ q1)) rfl rfl fun a E=>?_
    refine qal E ok (qaD (c:=c) Tryz.underlying9 rfl rfl rfl) rfl rfl fun a E=>?_
    refine qal E ok (qaI rfl) rfl rfl fun a E=>?_
    refine wpList_nil ?_
    refine qaa ?_
    refine wp_seq ?_
    refine qab ?_
    refine qal E ok (qah rfl) rfl rfl fun a E=>?_
    refine qal E ok (qah rfl) rfl rfl fun a E=>?_
    refine qal E ok (qaQ rfl rfl) rfl rfl fun a E=>?_
    rw [show IntKind.wrap .i64 (((4 - 2 * k:Nat):Int) + 1) = ((4 - 2 * k + 1:Nat):Int) from by rw [qck (qbC.2 ⟨by omega,by omega⟩)]; omega] at E
    refine qal E ok (qhC (k:=1) qe7 rfl rfl (by omega)) rfl rfl fun a E=>?_
    refine qal E ok (qaz qik rfl (hx m1 _ hle _ _ q2)) rfl rfl fun a E=>?_
    refine qal E ok (qaI rfl) rfl rfl fun a E=>?_
    refine wpList_nil ?_
    refine qaa ?_
    refine wp_seq ?_
    refine wp_seq ?_
    refine qab ?_
    refine qal E ok (qah rfl) rfl rfl fun a E=>?_
    refine qal E ok (qai qe0 rfl) rfl rfl fun a E=>?_
    refine qal E ok (qge qhD rfl rfl (Int.natCast_nonneg _) (by rw [Int.toNat_natCast]; exact hc256)) rfl rfl fun a E=>?_
    rw [show 0 + 0 + ((c.toNat:Nat):Int).toNat * 1 = c.toNat from by rw [Int.toNat_natCast]; omega] at E
    obtain ⟨v0,hv0,rv0⟩:=tb.at_ c.toNat hc256
    rw [q4] at rv0
    obtain rfl:v0 = .slice none 0 0:=rv0
    refine qal E ok (qaz qgH rfl (qae.own 0 rfl (qot hv0))) rfl rfl fun a E=>?_
    refine qal E ok (qo5 Tryz.underlying66 rfl rfl) rfl rfl fun a E=>?_
    refine wpList_nil ?_
    refine qaa ?_
    refine c_if E rfl (fun _=>?_) (fun h=>by cases h)
    refine qab ?_
    refine qal E ok (qai qhn rfl) rfl rfl fun a E=>?_
    refine qal E ok (qaz qiA rfl (qae.own 0 rfl (qot tb.top))) rfl rfl fun a E=>?_
    refine qal E ok (qah rfl) rfl rfl fun a E=>?_
    refine qbt (R:=(pI .u8)) (xo:=[.tmp 120]) (xs:=([(c.toNat:Int)]:List Int)) E ok qjH qlS rfl ⟨⟨_,rfl,rfl,(qdr (InR.byte c))⟩,trivial⟩ rfl rfl rfl rfl fun c121 M121 a w E ok h121=>?_
    refine qal E ok (qgV Tryz.underlying66 Tryz.underlying5 Tryz.underlying9 rfl (BR.ofRow h121 0 rfl)) rfl rfl fun a E=>?_
    rw [qmi] at E
    refine qbt (R:=pS) (xo:=[.tmp 122]) (xs:=([[c]]:List (List UInt8))) E ok qe7 qj1 rfl ⟨⟨_,rfl,rfl,(qbM (show ([c]:List UInt8).length ≤ LIMS from (show 1 ≤ LIMS by decide)))⟩,trivial⟩ rfl rfl rfl rfl fun c123 M123 a w E ok h123=>?_
    refine qcn (R:=pS) (zs:=TR.take (k + 1)) E ok 3 mS qe7 Tryz.underlying25 rfl tb.row (qbz.ofRow h123 0 rfl ok) (by rw [q3]; unfold app; rw [if_pos (by rw [List.length_take]; have:TR.length = 3:=rfl; simp only [List.length_cons,List.length_nil]; unfold LIM; omega)]) ⟨_,qj1,rfl⟩ rfl rfl rfl rfl fun c124 M124 a w E ok h124=>?_
    replace ok:=ok.drop.drop
    refine qal E ok (qai qhn rfl) rfl rfl fun a E=>?_
    refine qad (c:=cells) (vs:=[c124]) (sz:=1) E ok 0 rfl rfl rfl qlV (ORow.cells h124) rfl ⟨ORow.one h124,trivial⟩ (Nat.ble_eq_true_of_le (by rw [tb.len]; exact (show 256 + 1 ≤ 257 by decide))) rfl fun w ok=>?_
    refine wpList_nil ?_
    refine qaa ?_
    refine qab ?_
    refine qal E ok (qah rfl) rfl rfl fun a E=>?_
    refine qal E ok (qah rfl) rfl rfl fun a E=>?_
    refine qo6 E ok Tryz.underlying9 Tryz.underlying66 Tryz.underlying5 rfl rfl rfl fun bx bcap tail f a w E hf ok=>?_
    refine qal E ok (qai qe0 rfl) rfl rfl fun a E=>?_
    refine qal E ok (qge qhD rfl rfl (Int.natCast_nonneg _) (by rw [Int.toNat_natCast]; exact hc256)) rfl rfl fun a E=>?_
    rw [show 0 + 0 + ((c.toNat:Nat):Int).toNat * 1 = c.toNat from by rw [Int.toNat_natCast]; omega] at E
    have hl1:(wr cells 256 [c124]).length = 257:=by rw [qcX,tb.len]
    refine qad (c:=wr cells 256 [c124]) (vs:=[.slice (some ⟨bx,0,none⟩) s2.length bcap]) (sz:=1) E ok 1 rfl rfl rfl qoa rfl rfl ⟨rfl,trivial⟩ (Nat.ble_eq_true_of_le (by rw [hl1]; simp only [List.length_cons,List.length_nil]; omega)) rfl fun w ok=>?_
    refine wpList_nil ?_
    refine qag ?_
    refine qaa ?_
    refine qab ?_
    refine qal E ok (qah rfl) rfl rfl fun a E=>?_
    refine qal E ok (qcY rfl rfl) rfl rfl fun a E=>?_
    rw [show IntKind.wrap .i64 (((4 - 2 * k:Nat):Int) - 2) = 4 - 2 * ((k + 1:Nat):Int) from by rw [qck (qbC.2 ⟨by omega,by omega⟩)]; omega] at E
    refine qal E ok (qaI rfl) rfl rfl fun a E=>?_
    refine wpList_nil ?_
    obtain ⟨m2,hle2,ok,hfz⟩:=Ok.freeze ok
    have hb2:=hfz _ (List.mem_singleton.2 rfl)
    have hat:At m2 bx 0 (qcG s2):=At.frz hb2
    have hg1:∀ j,(wr cells 256 [c124])[j]? = if j = 256 then some c124 else cells[j]?:=fun j=>by
     rw [qeL _ _ _ _ (by rw [tb.len]; exact (show 256 + 1 ≤ 257 by decide))]
     by_cases h:j = 256
     ·subst h; rfl
     ·rw [if_neg h,if_neg]
      intro h'
      exact h (by have h1:=h'.1; have h2:j < 256 + 1:=h'.2; omega)
    have hg2:∀ j,(wr (wr cells 256 [c124]) c.toNat [.slice (some ⟨bx,0,none⟩) s2.length bcap])[j]? = if j = c.toNat then some (.slice (some ⟨bx,0,none⟩) s2.length bcap) else (wr cells 256 [c124])[j]?:=fun j=>by
     rw [qeL _ _ _ _ (by rw [hl1]; simp only [List.length_cons,List.length_nil]; omega)]
     by_cases h:j = c.toNat
     ·subst h
      rw [if_pos ⟨Nat.le_refl _,by simp only [List.length_cons,List.length_nil]; omega⟩,if_pos rfl,Nat.sub_self]
      rfl
     ·rw [if_neg h,if_neg]
      intro h'
      exact h (by have h1:=h'.1; have h2:=h'.2; simp only [List.length_cons,List.length_nil] at h2; omega)
    refine qat ⟨m2,_,c124,M124,by omega,hle.trans hle2,ok,⟨by rw [qcX,hl1],by rw [hg2,if_neg (by omega),hg1,if_pos rfl],h124.up mS hle2,fun x hx'=>?_⟩,E.keep [3,11,12]⟩
    rw [q5 x,hg2]
    by_cases hxc:x = c.toNat
    ·rw [if_pos hxc,if_pos hxc]
     exact ⟨_,rfl,bx,bcap,rfl,hat⟩
    ·rw [if_neg hxc,if_neg hxc,hg1,if_neg (by omega)]
     obtain ⟨v,hv,rv⟩:=tb.at_ x hx'
     exact ⟨v,hv,rv.up hle2⟩
   ·have hge:¬ k < 3:=by have:=of_decide_eq_false hc; omega
    rw [if_neg hge] at hB
    obtain rfl:=Option.some.inj hB
    obtain rfl:k = 3:=by omega
    refine wp_exit ?_
    refine qaX ?_
    exact qjq (by nofun) ⟨rfl,m1,cells,tv,Mt,hle,ok,tb,E.keep [11]⟩
  ·rintro e a w _ ⟨rfl,m1,cells,tv,Mt,hle,ok,tb,E⟩
   refine qbf ?_
   refine qaa ?_
   refine wp_seq ?_
   refine qab ?_
   refine qal E ok (qo3 qm4 rfl) rfl rfl fun a E=>?_
   refine qal E ok (qaI rfl) rfl rfl fun a E=>?_
   refine wpList_nil ?_
   refine qaa ?_
   refine wp_ret ?_
   obtain ⟨m2,hle2,ok,hfz⟩:=Ok.freeze ok
   have hb2:=hfz _ (List.mem_singleton.2 rfl)
   obtain ⟨m3,hle3,ok,hfz3⟩:=Ok.freeze ok
   have hat:At m2 d 0 cells:=At.frz (ys:=[]) (by rw [List.append_nil]; exact hb2)
   have hrow:=ORow.froz mS (tb.row.up mS hle2) hle3 hfz3 (by decide)
   refine qbs [.t 2 (.iface 171 (.pointer (some ⟨d,0,none⟩)))] E.d rfl ⟨rv_t E rfl,trivial⟩ ⟨m3,d,rfl,(hle.trans hle2).trans hle3,⟨cells,tv,tb.len,hat.up hle3,tb.top,hrow,fun c hc=>?_⟩,ok⟩
   obtain ⟨v,hv,rv⟩:=tb.at_ c hc
   exact ⟨v,hv,rv.up (hle2.trans hle3)⟩
end
end Go.Proofs.YtllnjbnknjpbjaaGreatDoor
namespace Go.X
section
variable {P:Program} {C:World → Prop} {L:List (Nat × Value)} {ty:TypeId}
theorem qnp {t e k b o len cap lo:Nat} {X A:Operand} {ka:IntKind} (ht:SlT P t e k) (hX:ev L X = some (.slice (some ⟨b,o,none⟩) len cap)) (hA:ev L A = some (.int ka lo)) (h1:lo ≤ len) (h2:len ≤ cap) (h4:lo < cap) :
  qaM P C L (.slice t X (some A) none none) ty (.slice (some ⟨b,o + lo * k,none⟩) (len - lo) (cap - lo)):=by
 intro ρ w dst pos after g E ok
 obtain ⟨i,hinf,hsz,_,_⟩:=ht.inf
 have hsz':(sizeOf e).run P w = .ok k w:=by simp [sizeOf,typeInfo,hinf,hsz,go_sem]
 have b1:(Instr.sliceBounds true len cap (some (.int ka lo)) none none).run P w = .ok (lo,len,cap) w:=by
  unfold Instr.sliceBounds
  simp [Instr.sliceBound,asIntOf,h1,go_sem]
 have hne:¬ cap = lo:=by omega
 simp only [execOp,Instr.sliceAt,E hX,E hA,Sem.run_bind,run_underlying ht.und,Result.andThen_ok,Instr.slice,Option.map_some,Option.map_none,b1,hsz',Sem.run_pure]
 simp [hne,qc8]
end
section
variable {P:Program} {u w:World} {m:Mem} {S:Segs} {Q:Exit → Act → World → Prop} {n:Nat} {L:List (Nat × Value)} {l rest:List Oper} {a:Act} {d:Nat} {ty:TypeId} {pos:String} {after:Array Edge} {gd:Option (Nat × Bool)}
theorem qpz {dT sT elem:TypeId} {x y:Operand} {g o dLen dCap sb sLen sCap:Nat} {cur cs:List Value} {t:TypeId} (E:Env n a L) (ok:Ok u m ([(g,.cells cur.toArray t (0,0))] :: S) w) (hu:P.underlying dT = some (.slice elem)) (hs:(P.info? elem).map (·.size) = some 1)
  (hx:ev L x = some (.slice (some ⟨g,o,none⟩) dLen dCap)) (hy:ev L y = some (.slice (some ⟨sb,0,none⟩) sLen sCap)) (hsrc:At m sb 0 cs) (hn:cs.length = Nat.min sLen dLen) (hfit:o + cs.length ≤ cur.length) (h1:∀ v ∈ cs,v.oneCell' = true) (hg:want l L gd = some true) (hd:Nat.blt d n = true)
  (K:∀ a' w',Env n a' ((d,.int .i64 cs.length) :: L) → Ok u m ([(g,.cells (cur.take o ++ cs ++ cur.drop (o + cs.length)).toArray t (0,0))] :: S) w' → wpList P l.toArray Q rest a' w') :
  wpList P l.toArray Q (⟨some d,.call { callee:=.builtin .copy,args:=#[x,y],argTypes:=#[dT,sT] },ty,pos,after,gd⟩ :: rest) a w:=by
 have hgc:=ok.ownCell
 have hr:=run_copy_row (P:=P) w dT sT ty elem g o dLen dCap ⟨sb,0,none⟩ sLen sCap cur.toArray t cs hu hs hgc hn (fun j v hj=>by
  have:=ok.cell (hsrc j v hj)
  rw [Nat.zero_add] at this
  have e:(⟨sb,0,none⟩:Addr).add j = ⟨sb,j,none⟩:=by unfold Addr.add; simp; intro h; omega
  rw [e]
  exact this) (by simpa using hfit) h1
 refine l_op (v:=.int .i64 cs.length) (w':=w.setRow g (cur.take o ++ cs ++ cur.drop (o + cs.length)).toArray) E hg hd ?_ (fun a' E'=>K _ _ E' ?_)
 ·unfold execOp
  simp only [resolve,invoke,builtin,Sem.run_bind,Sem.run_pure,Result.andThen_ok,List.map_toArray,List.map_cons,List.map_nil,E.ev hx,E.ev hy,hr]
  rfl
 ·refine ok.setObj rfl rfl rfl ?_ fun k hk=>?_
  ·unfold World.setRow
   simp [Array.getElem?_modify,hgc]
  ·unfold World.setRow
   simp [Array.getElem?_modify,hk.symm]
end
end Go.X
namespace Go.Proofs.YtllnjbnknjpbjaaGreatDoor
open Go.X
def nsp (s:Bs):Nat:=s.countP fun c=>(rp c).isSome
theorem qor (c:UInt8):rp c = if c = 10 then some [92,110] else if c = 92 then some [92,92] else if c = 34 then some [92,34] else none:=by
 unfold rp rpk
 have h:∀ d:UInt8,(c.toNat = d.toNat) ↔ c = d:=fun d=>⟨fun h=>UInt8.toNat_inj.1 h,fun h=>by rw [h]⟩
 have e1:=h 10
 have e2:=h 92
 have e3:=h 34
 have n1:(10:UInt8).toNat = 10:=rfl
 have n2:(92:UInt8).toNat = 92:=rfl
 have n3:(34:UInt8).toNat = 34:=rfl
 rw [n1] at e1
 rw [n2] at e2
 rw [n3] at e3
 simp only [e1,e2,e3,show (0 < 3) = True from by simp,show (1 < 3) = True from by simp,show (2 < 3) = True from by simp,and_true]
theorem qkl {c:UInt8} {r:Bs} (h:rp c = some r):r.length = 2:=by
 rw [qor] at h
 split at h
 ·cases h; rfl
 ·split at h
  ·cases h; rfl
  ·split at h
   ·cases h; rfl
   ·cases h
theorem qmB (a b:Bs):quo (a ++ b) = quo a ++ quo b:=by unfold quo; rw [List.flatMap_append]
theorem qox (c:UInt8):quo [c] = (rp c).getD [c]:=by unfold quo; simp
theorem qmA:∀ s:Bs,(quo s).length = s.length + nsp s
 | []=>rfl
 | c :: s=>by
  have ih:=qmA s
  have e:quo (c :: s) = (rp c).getD [c] ++ quo s:=rfl
  rw [e,List.length_append,ih]
  unfold nsp
  rw [List.countP_cons,List.length_cons]
  cases h:rp c with
  | none=>simp; omega
  | some r=>simp [qkl h]; omega
theorem qnE {s:Bs} (h:nsp s = 0):quo s = s:=by
 induction s with
 | nil=>rfl
 | cons c s ih =>
  unfold nsp at h
  rw [List.countP_cons] at h
  have e:quo (c :: s) = (rp c).getD [c] ++ quo s:=rfl
  rw [e,ih (by unfold nsp; omega)]
  cases hr:rp c with
  | none=>rfl
  | some r=>rw [hr] at h; simp at h
theorem qlh:∀ s:Bs,nsp s = s.count 10 + s.count 92 + s.count 34
 | []=>rfl
 | c :: s=>by
  have ih:=qlh s
  unfold nsp at ih ⊢
  rw [List.countP_cons,List.count_cons,List.count_cons,List.count_cons,ih,qor]
  by_cases h1:c = 10
  ·subst h1; simp; omega
  ·by_cases h2:c = 92
   ·subst h2; simp; omega
   ·by_cases h3:c = 34
    ·subst h3; simp; omega
    ·simp [h1,h2,h3]
theorem qn8:goB Tryz.prog 219 = true:=by kernel_rfl
theorem qpJ:(Tryz.prog.info? 5).map (·.size) = some 1:=by kernel_rfl
theorem qlZ:Tryz.prog.follows .mixedOrders = true:=by kernel_rfl
set_option maxRecDepth 100000 in
theorem qoP:∃ i,Tryz.prog.info? 5 = some i ∧ i.size = 1:=⟨_,rfl,by kernel_rfl⟩
theorem qnD {m:Mem} {d c:Nat} {cells:List Value} {v:Value} (h:At m d 0 cells) (hc:cells[c]? = some v):At m d c [v]:=by
 intro j x hj
 have hj0:j = 0:=by
  have:=(List.getElem?_eq_some_iff.1 hj).1
  simpa using this
 subst hj0
 cases hj
 have:=h c v hc
 rw [Nat.zero_add] at this
 exact this
theorem BSR.cell {m:Mem} {d:Nat} (h:BSR m d) (c:UInt8):∃ v,At m d c.toNat [v] ∧ RV m v (rp c):=by
 obtain ⟨cells,tv,h1,h2,h3,h4,h5⟩:=h
 obtain ⟨v,g1,g2⟩:=h5 c.toNat c.toNat_lt
 exact ⟨v,qnD h2 g1,g2⟩
theorem BSR.top {m:Mem} {d:Nat} (h:BSR m d):∃ tv,At m d 256 [tv] ∧ pL 1 pS m [tv] TR:=by
 obtain ⟨cells,tv,h1,h2,h3,h4,h5⟩:=h
 exact ⟨tv,qnD h2 h3,h4⟩
def cn (s:Bs) (k:Nat):Nat:=((TR.take k).map fun x=>s.count (x.headD 0)).sum
theorem qpa (s:Bs) {k:Nat} {c:UInt8} (h:TR[k]? = some [c]):cn s (k + 1) = cn s k + s.count c:=by
 unfold cn
 obtain ⟨hlt,he⟩:=List.getElem?_eq_some_iff.1 h
 rw [List.take_succ_eq_append_getElem hlt,List.map_append,List.sum_append,he]
 simp
theorem qnU (s:Bs):cn s 3 = nsp s:=by
 rw [qlh]
 unfold cn TR
 simp
 omega
theorem qph {k:Nat} (h:k < 3):∃ c r,TR[k]? = some [c] ∧ rp c = some r:=by
 rcases (show k = 0 ∨ k = 1 ∨ k = 2 by omega) with rfl | rfl | rfl
 ·exact ⟨10,_,rfl,rfl⟩
 ·exact ⟨92,_,rfl,rfl⟩
 ·exact ⟨34,_,rfl,rfl⟩
theorem qoj (s:Bs) (k:Nat):cn s k ≤ 3 * s.length:=by
 have h:∀ c:UInt8,s.count c ≤ s.length:=fun c=>List.count_le_length
 have e:TR.take k = TR.take (min k 3):=by
  rcases (show k ≤ 3 ∨ 3 < k by omega) with h | h
  ·rw [Nat.min_eq_left h]
  ·rw [Nat.min_eq_right (by omega),List.take_of_length_le (by show 3 ≤ k; omega)]
   rfl
 unfold cn
 rw [e]
 have h1:=h 10
 have h2:=h 92
 have h3:=h 34
 rcases (show min k 3 = 0 ∨ min k 3 = 1 ∨ min k 3 = 2 ∨ min k 3 = 3 by omega) with e | e | e | e <;> rw [e] <;> unfold TR <;> simp <;> omega
theorem qlo {s:Bs} {i:Nat} {c:UInt8} (h:s[i]? = some c):nsp (s.take (i + 1)) = nsp (s.take i) + (if (rp c).isSome then 1 else 0):=by
 obtain ⟨hlt,he⟩:=List.getElem?_eq_some_iff.1 h
 unfold nsp
 rw [List.take_succ_eq_append_getElem hlt,List.countP_append,he]
 simp [List.countP_cons]
theorem qm7 (s:Bs):nsp s ≤ s.length:=List.countP_le_length
theorem qma (z:Value):∀ j,reps [z] j = List.replicate j z
 | 0=>rfl
 | j + 1=>by rw [reps,qma z j,List.replicate_succ]; rfl
def bufC (x:Bs) (n:Nat):List Value:=qcG x ++ List.replicate n (.int .u8 0)
theorem ql7 (x:Bs) (n:Nat):(bufC x n).length = x.length + n:=by unfold bufC; rw [List.length_append,qd0,List.length_replicate]
theorem qkz (x y:Bs):qcG (x ++ y) = qcG x ++ qcG y:=by unfold qcG; rw [List.map_append]
theorem qoz (x r:Bs) {n:Nat} (h:r.length ≤ n):(bufC x n).take x.length ++ qcG r ++ (bufC x n).drop (x.length + r.length) = bufC (x ++ r) (n - r.length):=by
 unfold bufC
 have hl:=qd0 x
 rw [List.take_append_of_le_length (by omega),List.take_of_length_le (by omega),List.drop_append,List.drop_eq_nil_of_le (by omega),List.nil_append,hl,Nat.add_sub_cancel_left,List.drop_replicate,qkz]
theorem qoF (x:Bs) (c:UInt8) {n:Nat} (h:1 ≤ n):(bufC x n).set x.length (.int .u8 c.toNat) = bufC (x ++ [c]) (n - 1):=by
 unfold bufC
 have hl:=qd0 x
 obtain ⟨k,rfl⟩:∃ k,n = k + 1:=⟨n - 1,by omega⟩
 rw [List.set_append_right _ _ (by omega),hl,Nat.sub_self,List.replicate_succ,List.set_cons_zero,qkz,Nat.add_sub_cancel,List.append_assoc]
 rfl
theorem qpd {s:Bs} {i:Nat} {c:UInt8} (h:s[i]? = some c):quo (s.take (i + 1)) = quo (s.take i) ++ (rp c).getD [c]:=by
 obtain ⟨hlt,he⟩:=List.getElem?_eq_some_iff.1 h
 rw [List.take_succ_eq_append_getElem hlt,qmB,he,qox]
theorem qjW (s:Bs) (i:Nat):(quo (s.take i)).length ≤ (quo s).length:=by
 conv=>rhs; rw [← List.take_append_drop i s,qmB,List.length_append]
 omega
theorem ql2 (n:Nat) (f:Nat → Option (Nat ⊕ Unit)) (h:∀ i,i < n → f i = some (.inl (i + 1))) (hn:f n = some (.inr ())):iter f (n + 1) 0 = some ():=by
 have key:∀ k i,i + k = n → iter f (k + 1) i = some ():=by
  intro k
  induction k with
  | zero =>
   intro i hi
   have e:i = n:=by omega
   rw [e]
   show iter f 1 n = _
   rw [iter,hn]
  | succ k ih=>intro i hi; rw [iter,h i (by omega)]; exact ih (i + 1) (by omega)
 exact key n 0 (by omega)
section
variable {u:World} {m0:Mem} {S:Segs} {w:World}
def Cnt (u:World) (m0:Mem) (S:Segs) (d:Nat) (s:Bs) (a:Act) (w:World):Prop :=
 Ok u m0 S w ∧ Env 122 a [(0,.pointer (some ⟨d,0,none⟩)),(1,.string (bs s)),(5,.int .i64 ((s.length + nsp s:Nat):Int)),(6,.bool (!(nsp s == 0)))]
set_option maxHeartbeats 4000000 in
set_option maxRecDepth 100000 in
theorem qp6 {d:Nat} (hB:BSR m0 d) (s:Bs) (hs:s.length ≤ 1000000000) (ok:Ok u m0 S w) :
  Calls Tryz.prog 217 [Value.pointer (some ⟨d,0,none⟩),Value.string (bs s)].toArray w fun e w'=>e = .returned (.string (bs (quo s))) ∧ Ok u m0 S w':=by
 obtain ⟨tv,ht1,ht2⟩:=hB.top
 refine enter Tryz.func217 rfl rfl rfl fun a E=>?_
 refine wp_seq ?_
 refine qab ?_
 refine qal E ok (qaI rfl) rfl rfl fun a E=>?_
 refine wpList_nil ?_
 refine qaa ?_
 refine wp_seq ?_
 refine qab ?_
 refine qal E ok (qah rfl) rfl rfl fun a E=>?_
 refine qal E ok (qaJ Tryz.underlying9 rfl) rfl rfl fun a E=>?_
 refine qal E ok (qaI rfl) rfl rfl fun a E=>?_
 refine wpList_nil ?_
 refine qaa ?_
 refine wp_seq ?_
 refine qab ?_
 refine qal E ok (qaI rfl) rfl rfl fun a E=>?_
 refine wpList_nil ?_
 refine qaa ?_
 refine wp_seq ?_
 refine qaK (Q':=fun e a w=>e = .normal ∧ Cnt u m0 S d s a w) ?_ ?_
 ·refine wp_seq ?_
  refine qab ?_
  refine qal E ok (qah rfl) rfl rfl fun a E=>?_
  refine qal E ok (qaj rfl) rfl rfl fun a E=>?_
  refine qal E ok (qai qhn rfl) rfl rfl fun a E=>?_
  refine qal E ok (qaz qiA rfl (qae.ro ht1)) rfl rfl fun a E=>?_
  refine qal E ok (qbb qe7 ht2 rfl) rfl rfl fun a E=>?_
  refine qal E ok (qjt rfl rfl) rfl rfl fun a E=>?_
  refine qal E ok (qah rfl) rfl rfl fun a E=>?_
  refine qal E ok (qaJ Tryz.underlying9 rfl) rfl rfl fun a E=>?_
  refine qal E ok (qcC rfl rfl) rfl rfl fun a E=>?_
  refine wpList_nil ?_
  refine qaa ?_
  have it:∀ n:Nat,iter (fun k:Nat=>if k < n then some (Sum.inl (k + 1)) else some (Sum.inr ())) (n + 1) 0 = some ():=fun n=>by
   refine ql2 n _ (fun i hi=>if_pos hi) (if_neg (Nat.lt_irrefl n))
  refine c_if E rfl (fun _=>?_) (fun _=>?_)
  ·refine wp_seq ?_
   refine qab ?_
   refine qal E ok (qah rfl) rfl rfl fun a E=>?_
   refine qal E ok (qaj rfl) rfl rfl fun a E=>?_
   refine qal E ok (qai qhn rfl) rfl rfl fun a E=>?_
   refine qal E ok (qaz qiA rfl (qae.ro ht1)) rfl rfl fun a E=>?_
   refine qal E ok (qbb qe7 ht2 rfl) rfl rfl fun a E=>?_
   refine qal E ok (qah rfl) rfl rfl fun a E=>?_
   refine wpList_nil ?_
   refine qaa ?_
   refine wp_block ?_
   refine qa6 (fun k:Nat=>if k < 3 then some (Sum.inl (k + 1)) else some (Sum.inr ()))
    (fun k a w=>k ≤ 3 ∧ Ok u m0 S w ∧ Env 122 a [(0,.pointer (some ⟨d,0,none⟩)),(1,.string (bs s)),(5,.int .i64 ((s.length + cn s k:Nat):Int)),(6,.bool (!(cn s k == 0))),(30,tv),(31,.int .i64 ((3:Nat):Int)),(32,.int .i64 (k:Int))])
    (fun _ e a w=>e = .exit 0 ∧ Cnt u m0 S d s a w) ?_ ?_ 4 0 a w (b:=()) (it 3) ⟨by omega,ok,E.keep [0,1,5,6,30,31,32]⟩
   ·rintro k a w r ⟨hk,ok,E⟩ hB'
    refine wp_seq ?_
    refine qab ?_
    refine qal E ok (qaS rfl rfl) rfl rfl fun a E=>?_
    refine wpList_nil ?_
    refine qaa ?_
    refine wp_seq ?_
    refine c_if E rfl (fun hc=>?_) (fun hc=>?_)
    ·have hlt:k < 3:=by have:=of_decide_eq_true hc; omega
     rw [if_pos hlt] at hB'
     obtain rfl:=Option.some.inj hB'
     obtain ⟨c,r0,hc1,hr0⟩:=qph hlt
     obtain ⟨v,hv1,hv2⟩:=hB.cell c
     rw [hr0] at hv2
     obtain ⟨rb,rcap,rfl,hv2⟩:=hv2
     have hrl:=qkl hr0
     have hcn:=qpa s hc1
     have hcl:=qoj s k
     have hcl1:=qoj s (k + 1)
     refine wp_skip ?_
     refine qaa ?_
     refine wp_seq ?_
     refine wp_block ?_
     refine wp_seq ?_
     refine qab ?_
     obtain ⟨eb,eo,es,hel,rr,eat,yy⟩:=qlA qe7 ht2 (show idx TR (k:Int) = some [c] by unfold idx; rw [if_pos (Int.natCast_nonneg _),Int.toNat_natCast,hc1]) (P:=Tryz.prog) (X:=.tmp 30) (I:=.tmp 32) (kd:=.i64) (qbQ E rfl) (qbQ E rfl)
     obtain ⟨rfl,_⟩:=rr
     refine qal E ok (yy _ _) rfl rfl fun a E=>?_
     refine qal E ok (qaz qik rfl (qae.ro eat)) rfl rfl fun a E=>?_
     refine qal E ok (qaI rfl) rfl rfl fun a E=>?_
     refine wpList_nil ?_
     refine qaa ?_
     refine wp_seq ?_
     refine qab ?_
     refine qal E ok (qah rfl) rfl rfl fun a E=>?_
     refine qal E ok (qah rfl) rfl rfl fun a E=>?_
     refine qaf E qn8 rfl (Any.strings_Count_one Tryz.lays138 (bs s) c w) rfl rfl ?_
     rintro _ w' ⟨rfl,rfl⟩
     refine ⟨_,rfl,fun a E=>?_⟩
     refine qal E ok (qaI rfl) rfl rfl fun a E=>?_
     refine wpList_nil ?_
     refine qaa ?_
     have hlc:Lib.countByte (bs s).data.toList c = s.count c:=rfl
     rw [hlc] at E
     refine qaK (Q':=fun e a w=>e = .normal ∧ Ok u m0 S w ∧ Env 122 a [(0,.pointer (some ⟨d,0,none⟩)),(1,.string (bs s)),(5,.int .i64 ((s.length + cn s (k + 1):Nat):Int)),(6,.bool (!(cn s (k + 1) == 0))),(30,tv),(31,.int .i64 ((3:Nat):Int)),(32,.int .i64 (k:Int))]) ?_ ?_
     ·refine wp_seq ?_
      refine qab ?_
      refine qal E ok (qah rfl) rfl rfl fun a E=>?_
      refine qal E ok (qbj rfl rfl) rfl rfl fun a E=>?_
      refine wpList_nil ?_
      refine qaa ?_
      refine c_if E rfl (fun hc2=>?_) (fun hc2=>?_)
      ·have hne:s.count c ≠ 0:=fun h=>by rw [h] at hc2; cases hc2
       refine wp_seq ?_
       refine qcZ qlZ (by kernel_rfl) ok ?_
       refine qe1 E (qah rfl) rfl rfl fun a E=>?_
       refine qe1 E (qah rfl) rfl rfl fun a E=>?_
       refine qe1 E (qah rfl) rfl rfl fun a E=>?_
       refine qe1 E (qah rfl) rfl rfl fun a E=>?_
       refine qe1 E (qaD (c:=c) Tryz.underlying9 rfl rfl rfl) rfl rfl fun a E=>?_
       refine qe1 E (qaj rfl) rfl rfl fun a E=>?_
       refine qe1 E (qai qe0 rfl) rfl rfl fun a E=>?_
       refine qe1 E (qge qhD rfl rfl (Int.natCast_nonneg _) (by rw [Int.toNat_natCast]; exact c.toNat_lt)) rfl rfl fun a E=>?_
       rw [show 0 + 0 + ((c.toNat:Nat):Int).toNat * 1 = c.toNat from by rw [Int.toNat_natCast]; omega] at E
       refine qe1 E (qaz qgH rfl (qae.ro hv1)) rfl rfl fun a E=>?_
       refine qe1 E (qh0 Tryz.underlying66 rfl) rfl rfl fun a E=>?_
       rw [hrl] at E
       refine qe1 E (qcY rfl rfl) rfl rfl fun a E=>?_
       rw [show IntKind.wrap .i64 (((2:Nat):Int) - 1) = 1 from by decide] at E
       refine qe1 E (qjt rfl rfl) rfl rfl fun a E=>?_
       rw [show IntKind.wrap .i64 (((s.count c:Nat):Int) * 1) = ((s.count c:Nat):Int) from by rw [qck (qbC.2 ⟨by omega,by omega⟩)]; omega] at E
       refine qe1 E (qaQ rfl rfl) rfl rfl fun a E=>?_
       rw [show IntKind.wrap .i64 (((s.length + cn s k:Nat):Int) + ((s.count c:Nat):Int)) = ((s.length + cn s (k + 1):Nat):Int) from by rw [qck (qbC.2 ⟨by omega,by omega⟩)]; omega] at E
       refine qe1 E (qaI rfl) rfl rfl fun a E=>?_
       refine wpQuiet_nil ?_
       intro w ok
       refine qaa ?_
       refine qab ?_
       refine qal E ok (qaI rfl) rfl rfl fun a E=>?_
       refine wpList_nil ?_
       have e6:(!(cn s (k + 1) == 0)) = true:=by
        rw [Bool.not_eq_true',beq_eq_false_iff_ne]; omega
       rw [e6]
       exact ⟨rfl,ok,E.keep [0,1,5,6,30,31,32]⟩
      ·have h0:s.count c = 0:=by
        have:(((s.count c:Nat):Int) != 0) = false:=hc2
        rw [bne_eq_false_iff_eq] at this
        omega
       have e5:cn s (k + 1) = cn s k:=by omega
       refine wp_skip ?_
       rw [e5]
       exact ⟨rfl,ok,E.keep [0,1,5,6,30,31,32]⟩
     ·rintro e a w ⟨rfl,ok,E⟩
      refine qag ?_
      refine qaa ?_
      refine qab ?_
      refine qal E ok (qaQ rfl rfl) rfl rfl fun a E=>?_
      rw [show IntKind.wrap .i64 ((k:Int) + 1) = ((k + 1:Nat):Int) from by rw [qck (qbC.2 ⟨by omega,by omega⟩)]; omega] at E
      refine qal E ok (qah rfl) rfl rfl fun a E=>?_
      refine wpList_nil ?_
      exact qat ⟨by omega,ok,E.keep [0,1,5,6,30,31,32]⟩
    ·have hge:¬ k < 3:=by have:=of_decide_eq_false hc; omega
     rw [if_neg hge] at hB'
     obtain rfl:=Option.some.inj hB'
     obtain rfl:k = 3:=by omega
     refine wp_exit ?_
     refine qaX ?_
     rw [qnU] at E
     exact qjq (by nofun) ⟨rfl,ok,E.keep [0,1,5,6]⟩
   ·rintro e a w _ ⟨rfl,h⟩
    exact qbf ⟨rfl,h⟩
  ·refine wp_seq ?_
   refine qab ?_
   refine qal E ok (qaI rfl) rfl rfl fun a E=>?_
   refine wpList_nil ?_
   refine qaa ?_
   refine wp_block ?_
   refine qa6 (fun k:Nat=>if k < s.length then some (Sum.inl (k + 1)) else some (Sum.inr ()))
    (fun k a w=>k ≤ s.length ∧ Ok u m0 S w ∧ Env 122 a [(0,.pointer (some ⟨d,0,none⟩)),(1,.string (bs s)),(5,.int .i64 ((s.length + nsp (s.take k):Nat):Int)),(6,.bool (!(nsp (s.take k) == 0))),(10,.int .i64 (k:Int))])
    (fun _ e a w=>e = .exit 2 ∧ Cnt u m0 S d s a w) ?_ ?_ (s.length + 1) 0 a w (b:=()) (it s.length) ⟨by omega,ok,E.keep [0,1,5,6,10]⟩
   ·rintro k a w r ⟨hk,ok,E⟩ hB'
    have hnk:=qm7 (s.take k)
    rw [List.length_take] at hnk
    refine wp_seq ?_
    refine wp_seq ?_
    refine qab ?_
    refine qal E ok (qah rfl) rfl rfl fun a E=>?_
    refine qal E ok (qah rfl) rfl rfl fun a E=>?_
    refine qal E ok (qaJ Tryz.underlying9 rfl) rfl rfl fun a E=>?_
    refine qal E ok (qaS rfl rfl) rfl rfl fun a E=>?_
    refine wpList_nil ?_
    refine qaa ?_
    refine c_if E rfl (fun hc=>?_) (fun hc=>?_)
    ·have hlt:k < s.length:=by have:=of_decide_eq_true hc; omega
     rw [if_pos hlt] at hB'
     obtain rfl:=Option.some.inj hB'
     obtain ⟨c,hc1⟩:∃ c,s[k]? = some c:=⟨_,List.getElem?_eq_getElem hlt⟩
     obtain ⟨v,hv1,hv2⟩:=hB.cell c
     have hns:=qlo hc1
     have hix:idx s (k:Int) = some c:=by unfold idx; rw [if_pos (Int.natCast_nonneg _),Int.toNat_natCast,hc1]
     refine wp_skip ?_
     refine qaa ?_
     refine wp_seq ?_
     refine wp_block ?_
     refine wp_seq ?_
     refine qab ?_
     refine qal E ok (qah rfl) rfl rfl fun a E=>?_
     refine qal E ok (qah rfl) rfl rfl fun a E=>?_
     refine qal E ok (qaD (c:=c) Tryz.underlying9 rfl rfl hix) rfl rfl fun a E=>?_
     refine qal E ok (qaI rfl) rfl rfl fun a E=>?_
     refine wpList_nil ?_
     refine qaa ?_
     refine qaK (Q':=fun e a w=>e = .normal ∧ Ok u m0 S w ∧ Env 122 a [(0,.pointer (some ⟨d,0,none⟩)),(1,.string (bs s)),(5,.int .i64 ((s.length + nsp (s.take (k + 1)):Nat):Int)),(6,.bool (!(nsp (s.take (k + 1)) == 0))),(10,.int .i64 (k:Int))]) ?_ ?_
     ·refine wp_seq ?_
      refine qab ?_
      refine qal E ok (qah rfl) rfl rfl fun a E=>?_
      refine qal E ok (qah rfl) rfl rfl fun a E=>?_
      refine qal E ok (qaj rfl) rfl rfl fun a E=>?_
      refine qal E ok (qai qe0 rfl) rfl rfl fun a E=>?_
      refine qal E ok (qge qhD rfl rfl (Int.natCast_nonneg _) (by rw [Int.toNat_natCast]; exact c.toNat_lt)) rfl rfl fun a E=>?_
      rw [show 0 + 0 + ((c.toNat:Nat):Int).toNat * 1 = c.toNat from by rw [Int.toNat_natCast]; omega] at E
      refine qal E ok (qaz qgH rfl (qae.ro hv1)) rfl rfl fun a E=>?_
      cases hr0:rp c with
      | none =>
       rw [hr0] at hv2 hns
       obtain rfl:v = .slice none 0 0:=hv2
       refine qal E ok (qiU Tryz.underlying66 rfl rfl) rfl rfl fun a E=>?_
       refine wpList_nil ?_
       refine qaa ?_
       refine c_if E rfl (fun h=>by cases h) (fun _=>?_)
       refine wp_skip ?_
       have e5:nsp (s.take (k + 1)) = nsp (s.take k):=hns
       rw [e5]
       exact ⟨rfl,ok,E.keep [0,1,5,6,10]⟩
      | some r0 =>
       rw [hr0] at hv2 hns
       obtain ⟨rb,rcap,rfl,hv2⟩:=hv2
       have hrl:=qkl hr0
       have hns':nsp (s.take (k + 1)) = nsp (s.take k) + 1:=hns
       refine qal E ok (qiU Tryz.underlying66 rfl rfl) rfl rfl fun a E=>?_
       refine wpList_nil ?_
       refine qaa ?_
       refine c_if E rfl (fun _=>?_) (fun h=>by cases h)
       refine wp_seq ?_
       refine qab ?_
       refine qal E ok (qah rfl) rfl rfl fun a E=>?_
       refine qal E ok (qah rfl) rfl rfl fun a E=>?_
       refine qal E ok (qah rfl) rfl rfl fun a E=>?_
       refine qal E ok (qaj rfl) rfl rfl fun a E=>?_
       refine qal E ok (qai qe0 rfl) rfl rfl fun a E=>?_
       refine qal E ok (qge qhD rfl rfl (Int.natCast_nonneg _) (by rw [Int.toNat_natCast]; exact c.toNat_lt)) rfl rfl fun a E=>?_
       rw [show 0 + 0 + ((c.toNat:Nat):Int).toNat * 1 = c.toNat from by rw [Int.toNat_natCast]; omega] at E
       refine qal E ok (qaz qgH rfl (qae.ro hv1)) rfl rfl fun a E=>?_
       refine qal E ok (qh0 Tryz.underlying66 rfl) rfl rfl fun a E=>?_
       rw [hrl] at E
       refine qal E ok (qcY rfl rfl) rfl rfl fun a E=>?_
       rw [show IntKind.wrap .i64 (((2:Nat):Int) - 1) = 1 from by decide] at E
       refine qal E ok (qaQ rfl rfl) rfl rfl fun a E=>?_
       rw [show IntKind.wrap .i64 (((s.length + nsp (s.take k):Nat):Int) + 1) = ((s.length + nsp (s.take (k + 1)):Nat):Int) from by rw [qck (qbC.2 ⟨by omega,by omega⟩)]; omega] at E
       refine qal E ok (qaI rfl) rfl rfl fun a E=>?_
       refine wpList_nil ?_
       refine qaa ?_
       refine qab ?_
       refine qal E ok (qaI rfl) rfl rfl fun a E=>?_
       refine wpList_nil ?_
       have e6:(!(nsp (s.take (k + 1)) == 0)) = true:=by
        rw [Bool.not_eq_true',beq_eq_false_iff_ne]; omega
       rw [e6]
       exact ⟨rfl,ok,E.keep [0,1,5,6,10]⟩
     ·rintro e a w ⟨rfl,ok,E⟩
      refine qag ?_
      refine qaa ?_
      refine qab ?_
      refine qal E ok (qah rfl) rfl rfl fun a E=>?_
      refine qal E ok (qaQ rfl rfl) rfl rfl fun a E=>?_
      rw [show IntKind.wrap .i64 ((k:Int) + 1) = ((k + 1:Nat):Int) from by rw [qck (qbC.2 ⟨by omega,by omega⟩)]; omega] at E
      refine qal E ok (qaI rfl) rfl rfl fun a E=>?_
      refine wpList_nil ?_
      exact qat ⟨by omega,ok,E.keep [0,1,5,6,10]⟩
    ·have hge:¬ k < s.length:=by have:=of_decide_eq_false hc; omega
     rw [if_neg hge] at hB'
     obtain rfl:=Option.some.inj hB'
     obtain rfl:k = s.length:=by omega
     refine wp_exit ?_
     refine qaX ?_
     rw [List.take_length] at E
     exact qjq (by nofun) ⟨rfl,ok,E.keep [0,1,5,6]⟩
   ·rintro e a w _ ⟨rfl,h⟩
    exact qbf ⟨rfl,h⟩
 ·rintro e a w ⟨rfl,ok,E⟩
  refine qaa ?_
  refine wp_seq ?_
  refine wp_seq ?_
  refine qab ?_
  refine qal E ok (qah rfl) rfl rfl fun a E=>?_
  refine qal E ok (qbh rfl) rfl rfl fun a E=>?_
  refine wpList_nil ?_
  refine qaa ?_
  refine c_if E rfl (fun hc=>?_) (fun hc=>?_)
  ·have h0:nsp s = 0:=by
    rw [Bool.not_not,beq_iff_eq] at hc
    exact hc
   refine wp_seq ?_
   refine qab ?_
   refine qal E ok (qah rfl) rfl rfl fun a E=>?_
   refine qal E ok (qaI rfl) rfl rfl fun a E=>?_
   refine wpList_nil ?_
   refine qaa ?_
   refine wp_ret ?_
   refine qam ?_
   rw [qnE h0]
   exact qbs [.t 4 (.string (bs s))] E.d rfl ⟨rv_t E rfl,trivial⟩ ⟨rfl,ok⟩
  ·refine wp_skip ?_
   refine qaa ?_
   refine wp_seq ?_
   refine qab ?_
   refine qal E ok (qah rfl) rfl rfl fun a E=>?_
   have hnl:=qm7 s
   have hql:=qmA s
   rw [← hql] at E
   refine qoO (k:=1) (j:=(quo s).length) (z:=[.int .u8 0]) E ok qjH qlS rfl rfl (by unfold LIM; omega) rfl rfl fun g a w E ok=>?_
   refine qal E ok (qaI rfl) rfl rfl fun a E=>?_
   refine wpList_nil ?_
   refine qaa ?_
   refine wp_seq ?_
   refine qab ?_
   refine qal E ok (qaI rfl) rfl rfl fun a E=>?_
   refine wpList_nil ?_
   refine qaa ?_
   refine wp_seq ?_
   refine wp_seq ?_
   refine qab ?_
   refine qal E ok (qaI rfl) rfl rfl fun a E=>?_
   refine wpList_nil ?_
   refine qaa ?_
   refine wp_block ?_
   have hb0:reps [(Value.int .u8 0)] (quo s).length = bufC (quo (s.take 0)) ((quo s).length - (quo (s.take 0)).length):=by rw [qma]; rfl
   rw [hb0] at ok
   refine qa6 (fun k:Nat=>if k < s.length then some (Sum.inl (k + 1)) else some (Sum.inr ()))
    (fun k a w=>k ≤ s.length ∧ Ok u m0 ([(g,Obj.cells (bufC (quo (s.take k)) ((quo s).length - (quo (s.take k)).length)).toArray 5 (0,0))] :: S) w ∧ Env 122 a [(0,.pointer (some ⟨d,0,none⟩)),(1,.string (bs s)),(12,.slice (some ⟨g,0,none⟩) (quo s).length (quo s).length),(13,.int .i64 ((quo (s.take k)).length:Int)),(14,.int .i64 (k:Int))])
    (fun _ e a w=>e = .exit 4 ∧ Ok u m0 ([(g,Obj.cells (bufC (quo s) 0).toArray 5 (0,0))] :: S) w ∧ Env 122 a [(12,.slice (some ⟨g,0,none⟩) (quo s).length (quo s).length)]) ?_ ?_ (s.length + 1) 0 a w (b:=()) (ql2 s.length _ (fun i hi=>if_pos hi) (if_neg (Nat.lt_irrefl _))) ⟨by omega,ok,E.keep [0,1,12,13,14]⟩
   ·rintro k a w r ⟨hk,ok,E⟩ hB'
    have hqk:=qjW s k
    refine wp_seq ?_
    refine wp_seq ?_
    refine qab ?_
    refine qal E ok (qah rfl) rfl rfl fun a E=>?_
    refine qal E ok (qah rfl) rfl rfl fun a E=>?_
    refine qal E ok (qaJ Tryz.underlying9 rfl) rfl rfl fun a E=>?_
    refine qal E ok (qaS rfl rfl) rfl rfl fun a E=>?_
    refine wpList_nil ?_
    refine qaa ?_
    refine c_if E rfl (fun hc=>?_) (fun hc=>?_)
    ·have hlt:k < s.length:=by have:=of_decide_eq_true hc; omega
     rw [if_pos hlt] at hB'
     obtain rfl:=Option.some.inj hB'
     obtain ⟨c,hc1⟩:∃ c,s[k]? = some c:=⟨_,List.getElem?_eq_getElem hlt⟩
     obtain ⟨v,hv1,hv2⟩:=hB.cell c
     have hix:idx s (k:Int) = some c:=by unfold idx; rw [if_pos (Int.natCast_nonneg _),Int.toNat_natCast,hc1]
     have hq:=qpd hc1
     have hqk1:=qjW s (k + 1)
     have hql1:(quo (s.take (k + 1))).length = (quo (s.take k)).length + ((rp c).getD [c]).length:=by rw [hq,List.length_append]
     refine wp_skip ?_
     refine qaa ?_
     refine wp_seq ?_
     refine wp_block ?_
     refine wp_seq ?_
     refine qab ?_
     refine qal E ok (qah rfl) rfl rfl fun a E=>?_
     refine qal E ok (qah rfl) rfl rfl fun a E=>?_
     refine qal E ok (qaD (c:=c) Tryz.underlying9 rfl rfl hix) rfl rfl fun a E=>?_
     refine qal E ok (qaI rfl) rfl rfl fun a E=>?_
     refine wpList_nil ?_
     refine qaa ?_
     refine qaK (Q':=fun e a w=>e = .normal ∧ Ok u m0 ([(g,Obj.cells (bufC (quo (s.take (k + 1))) ((quo s).length - (quo (s.take (k + 1))).length)).toArray 5 (0,0))] :: S) w ∧ Env 122 a [(0,.pointer (some ⟨d,0,none⟩)),(1,.string (bs s)),(12,.slice (some ⟨g,0,none⟩) (quo s).length (quo s).length),(13,.int .i64 ((quo (s.take (k + 1))).length:Int)),(14,.int .i64 (k:Int))]) ?_ ?_
     ·refine wp_seq ?_
      refine qab ?_
      refine qal E ok (qah rfl) rfl rfl fun a E=>?_
      refine qal E ok (qah rfl) rfl rfl fun a E=>?_
      refine qal E ok (qaj rfl) rfl rfl fun a E=>?_
      refine qal E ok (qai qe0 rfl) rfl rfl fun a E=>?_
      refine qal E ok (qge qhD rfl rfl (Int.natCast_nonneg _) (by rw [Int.toNat_natCast]; exact c.toNat_lt)) rfl rfl fun a E=>?_
      rw [show 0 + 0 + ((c.toNat:Nat):Int).toNat * 1 = c.toNat from by rw [Int.toNat_natCast]; omega] at E
      refine qal E ok (qaz qgH rfl (qae.ro hv1)) rfl rfl fun a E=>?_
      cases hr0:rp c with
      | none =>
       rw [hr0] at hv2 hq hql1
       obtain rfl:v = .slice none 0 0:=hv2
       have hql1':(quo (s.take (k + 1))).length = (quo (s.take k)).length + 1:=hql1
       refine qal E ok (qiU Tryz.underlying66 rfl rfl) rfl rfl fun a E=>?_
       refine wpList_nil ?_
       refine qaa ?_
       refine c_if E rfl (fun h=>by cases h) (fun _=>?_)
       refine wp_seq ?_
       refine qab ?_
       refine qal E ok (qah rfl) rfl rfl fun a E=>?_
       refine qal E ok (qah rfl) rfl rfl fun a E=>?_
       refine qal E ok (qah rfl) rfl rfl fun a E=>?_
       refine qal E ok (qhC (k:=1) qjH rfl rfl (by omega)) rfl rfl fun a E=>?_
       rw [show 0 + (quo (s.take k)).length * 1 = (quo (s.take k)).length from by omega] at E
       refine qad (c:=bufC (quo (s.take k)) ((quo s).length - (quo (s.take k)).length)) (vs:=[.int .u8 (c.toNat:Int)]) (sz:=1) E ok 0 rfl rfl rfl qoP rfl rfl ⟨rfl,trivial⟩ (Nat.ble_eq_true_of_le (by rw [ql7]; simp only [List.length_cons,List.length_nil]; omega)) rfl fun w ok=>?_
       have hcells:wr (bufC (quo (s.take k)) ((quo s).length - (quo (s.take k)).length)) (quo (s.take k)).length [.int .u8 (c.toNat:Int)] = bufC (quo (s.take (k + 1))) ((quo s).length - (quo (s.take (k + 1))).length):=by
        have h1:=qoF (quo (s.take k)) c (n:=(quo s).length - (quo (s.take k)).length) (by omega)
        rw [hq,show (quo s).length - (quo (s.take k) ++ (none:Option Bs).getD [c]).length = (quo s).length - (quo (s.take k)).length - 1 from by rw [List.length_append]; simp only [Option.getD_none,List.length_cons,List.length_nil]; omega]
        exact h1
       replace ok:Ok u m0 ([(g,Obj.cells (wr (bufC (quo (s.take k)) ((quo s).length - (quo (s.take k)).length)) (quo (s.take k)).length [.int .u8 (c.toNat:Int)]).toArray 5 (0,0))] :: S) w:=ok
       rw [hcells] at ok
       refine wpList_nil ?_
       refine qaa ?_
       refine qab ?_
       refine qal E ok (qah rfl) rfl rfl fun a E=>?_
       refine qal E ok (qaQ rfl rfl) rfl rfl fun a E=>?_
       rw [show IntKind.wrap .i64 (((quo (s.take k)).length:Int) + 1) = ((quo (s.take (k + 1))).length:Int) from by rw [qck (qbC.2 ⟨by omega,by omega⟩)]; omega] at E
       refine qal E ok (qaI rfl) rfl rfl fun a E=>?_
       refine wpList_nil ?_
       exact ⟨rfl,ok,E.keep [0,1,12,13,14]⟩
      | some r0 =>
       rw [hr0] at hv2 hq hql1
       obtain ⟨rb,rcap,rfl,hv2⟩:=hv2
       have hrl:=qkl hr0
       have hql1':(quo (s.take (k + 1))).length = (quo (s.take k)).length + 2:=by rw [hql1]; show _ + r0.length = _; rw [hrl]
       refine qal E ok (qiU Tryz.underlying66 rfl rfl) rfl rfl fun a E=>?_
       refine wpList_nil ?_
       refine qaa ?_
       refine c_if E rfl (fun _=>?_) (fun h=>by cases h)
       refine qbl [] (Cls u m0 []) (Cls u m0 []) qlZ ?_
       intro w' hw
       replace ok:=qbE ok hw
       clear hw
       refine qar (cl1 ⟨m0,_,Mem.le.refl m0,ok,trivial⟩ ⟨m0,_,Mem.le.refl m0,ok,trivial⟩) fun hT=>?_
       refine qeK 0 E rfl (by kernel_rfl) nP hT (qah rfl) rfl rfl fun a E=>?_
       refine qeK 1 E rfl (by kernel_rfl) nP hT (qah rfl) rfl rfl fun a E=>?_
       refine qeK 2 E rfl (by kernel_rfl) nP hT (qah rfl) rfl rfl fun a E=>?_
       refine qeK 3 E rfl (by kernel_rfl) nP hT (qnp (k:=1) qjH rfl rfl (by omega) (by omega) (by omega)) rfl rfl fun a E=>?_
       refine qeK 4 E rfl (by kernel_rfl) nP hT (qah rfl) rfl rfl fun a E=>?_
       refine qeK 5 E rfl (by kernel_rfl) nP hT (qah rfl) rfl rfl fun a E=>?_
       refine qeK 6 E rfl (by kernel_rfl) nP hT (qaj rfl) rfl rfl fun a E=>?_
       refine qeK 7 E rfl (by kernel_rfl) nP hT (qai qe0 rfl) rfl rfl fun a E=>?_
       refine qeK 8 E rfl (by kernel_rfl) nP hT (qge qhD rfl rfl (Int.natCast_nonneg _) (by rw [Int.toNat_natCast]; exact c.toNat_lt)) rfl rfl fun a E=>?_
       rw [show 0 + 0 + ((c.toNat:Nat):Int).toNat * 1 = c.toNat from by rw [Int.toNat_natCast]; omega] at E
       refine qeK 9 E rfl (by kernel_rfl) nP hT (qaz qgH rfl (qae.cro hv1)) rfl rfl fun a E=>?_
       refine qaP [10] (by kernel_rfl) rfl (qaT ?_)
       refine qco (o:=_) rfl ?_
       refine qpz (cs:=qcG r0) E ok Tryz.underlying66 qpJ rfl rfl hv2 (by rw [qd0]; exact (Nat.min_eq_left (by omega)).symm) (by rw [qd0,ql7]; omega) (fun v hv=>by
        obtain ⟨b,_,rfl⟩:=List.mem_map.1 hv
        rfl) rfl rfl fun a w E ok=>?_
       have hcells:(bufC (quo (s.take k)) ((quo s).length - (quo (s.take k)).length)).take (0 + (quo (s.take k)).length * 1) ++ qcG r0 ++ (bufC (quo (s.take k)) ((quo s).length - (quo (s.take k)).length)).drop (0 + (quo (s.take k)).length * 1 + (qcG r0).length) = bufC (quo (s.take (k + 1))) ((quo s).length - (quo (s.take (k + 1))).length):=by
        have h1:=qoz (quo (s.take k)) r0 (n:=(quo s).length - (quo (s.take k)).length) (by omega)
        rw [qd0,show 0 + (quo (s.take k)).length * 1 = (quo (s.take k)).length from by omega,h1,hq]
        show bufC (quo (s.take k) ++ r0) _ = bufC (quo (s.take k) ++ r0) _
        rw [List.length_append,hrl]
        congr 1
        omega
       rw [hcells] at ok
       rw [qd0,hrl] at E
       refine wpList_nil ?_
       refine qaa ?_
       refine qar (cl2 (by kernel_rfl) ⟨m0,_,Mem.le.refl m0,ok,trivial⟩) fun hT=>?_
       refine qeK 11 E rfl (by kernel_rfl) nP hT (qaQ rfl rfl) rfl rfl fun a E=>?_
       rw [show IntKind.wrap .i64 (((quo (s.take k)).length:Int) + ((2:Nat):Int)) = ((quo (s.take (k + 1))).length:Int) from by rw [qck (qbC.2 ⟨by omega,by omega⟩)]; omega] at E
       refine qeK 12 E rfl (by kernel_rfl) nP hT (qaI rfl) rfl rfl fun a E=>?_
       refine qbw (by kernel_rfl) ?_
       exact ⟨rfl,ok,E.keep [0,1,12,13,14]⟩
     ·rintro e a w ⟨rfl,ok,E⟩
      refine qag ?_
      refine qaa ?_
      refine qab ?_
      refine qal E ok (qah rfl) rfl rfl fun a E=>?_
      refine qal E ok (qaQ rfl rfl) rfl rfl fun a E=>?_
      rw [show IntKind.wrap .i64 ((k:Int) + 1) = ((k + 1:Nat):Int) from by rw [qck (qbC.2 ⟨by omega,by omega⟩)]; omega] at E
      refine qal E ok (qaI rfl) rfl rfl fun a E=>?_
      refine wpList_nil ?_
      exact qat ⟨by omega,ok,E.keep [0,1,12,13,14]⟩
    ·have hge:¬ k < s.length:=by have:=of_decide_eq_false hc; omega
     rw [if_neg hge] at hB'
     obtain rfl:=Option.some.inj hB'
     obtain rfl:k = s.length:=by omega
     refine wp_exit ?_
     refine qaX ?_
     rw [List.take_length,Nat.sub_self] at ok
     exact qjq (by nofun) ⟨rfl,ok,E.keep [12]⟩
   ·rintro e a w _ ⟨rfl,ok,E⟩
    refine qbf ?_
    refine qaa ?_
    refine wp_seq ?_
    refine qab ?_
    refine qal E ok (qah rfl) rfl rfl fun a E=>?_
    refine qal E ok (qgV (xs:=ints (quo s)) Tryz.underlying66 Tryz.underlying5 Tryz.underlying9 rfl (fun w ok=>⟨some ⟨g,0,none⟩,(quo s).length,by unfold ints; rw [List.length_map],.inr ⟨g,0,rfl,fun j x hj=>?_⟩⟩)) rfl rfl fun a E=>?_
    ·have h1:bufC (quo s) 0 = qcG (quo s):=by unfold bufC; simp
     refine qae.own (S:=[(g,Obj.cells (bufC (quo s) 0).toArray 5 (0,0))] :: S) (cs:=qcG (quo s)) 0 rfl (by rw [h1,List.drop_zero,List.take_length]) w ok j _ ?_
     unfold ints at hj
     unfold qcG
     rw [List.getElem?_map] at hj ⊢
     cases hq:(quo s)[j]? with
     | none=>rw [hq] at hj; cases hj
     | some b=>rw [hq] at hj; cases hj; rfl
    have hbo:bytesOf (ints (quo s)) = quo s:=qiV (quo s)
    rw [hbo] at E
    refine qal E ok (qaI rfl) rfl rfl fun a E=>?_
    refine wpList_nil ?_
    refine qaa ?_
    refine wp_ret ?_
    exact qbs [.t 4 (.string (bs (quo s)))] E.d rfl ⟨rv_t E rfl,trivial⟩ ⟨rfl,ok.drop⟩
end
end Go.Proofs.YtllnjbnknjpbjaaGreatDoor
namespace Go.X
section
variable {P:Program} {C:World → Prop} {L:List (Nat × Value)} {ty:TypeId}
theorem qnR {f:Fn} {x:Operand} {v:Value} (hx:ev L x = some v):qaM P C L (.makeFunc f #[x] #[]) ty (.func f #[v] #[]):=by
 intro ρ w dst pos after g E ok
 simp [execOp,E hx,Instr.makeFunc,go_sem]
end
section
variable {P:Program} {u w:World} {m:Mem} {S:Segs} {Q:Exit → Act → World → Prop} {n:Nat} {L:List (Nat × Value)} {l rest:List Oper} {a:Act} {d:Nat} {ty:TypeId} {pos:String} {after:Array Edge} {gd:Option (Nat × Bool)}
theorem qnV {f:Nat} {recv x:Operand} {name:String} {ats:Array TypeId} {t:TypeId} {v rv xv:Value} {R:Ending → World → Prop} (E:Env n a L) (hf:goB P f = true) (hr:ev L recv = some (.iface t v)) (hx:ev L x = some xv)
  (hm:∀ w,(method (P.types.size + 100) t v name).run P w = .ok (f,rv) w) (hc:Calls P f [rv,xv].toArray w R) (hg:want l L gd = some true) (hd:Nat.blt d n = true)
  (K:∀ e w',R e w' → ∃ v,e = .returned v ∧ ∀ a',Env n a' ((d,v) :: L) → wpList P l.toArray Q rest a' w') :
  wpList P l.toArray Q (⟨some d,.call { callee:=.invoke recv name,args:=#[x],argTypes:=ats },ty,pos,after,gd⟩ :: rest) a w:=by
 refine wpList_step fun K' hK'=>?_
 rw [E.want (o:=⟨some d,_,ty,pos,after,gd⟩) hg,if_pos rfl]
 unfold Oper.wp
 have this:(execOp a.eval ⟨some d,.call { callee:=.invoke recv name,args:=#[x],argTypes:=ats },ty,pos,after,gd⟩).run P w = (callFunc f [rv,xv].toArray).run P w:=by
  simp only [execOp,resolve,Sem.run_bind,Sem.run_pure,Result.andThen_ok,invoke,List.map_toArray,List.map_cons,List.map_nil,E.ev hr,E.ev hx]
  simp [callMethod,hm,go_sem,Result.andThen]
 rw [this,qhT hf]
 simp only [Oper.upon]
 refine hc.mono fun e w' hr=>?_
 obtain ⟨v,rfl,h⟩:=K e w' hr
 exact hK' _ _ (h _ (E.put d v hd))
end
end Go.X
namespace Go.Proofs.YtllnjbnknjpbjaaGreatDoor
open Go.X
theorem qms:goB Tryz.prog 57 = true:=by kernel_rfl
theorem qoL:goB Tryz.prog 74 = true:=by kernel_rfl
theorem qnY:goB Tryz.prog 217 = true:=by kernel_rfl
theorem qmH:qaO Tryz.prog 110 0 0 = true:=by kernel_rfl
theorem qm3:oneB Tryz.prog 108 = true:=by kernel_rfl
theorem qo9 (d:Nat):∀ w,(method (Tryz.prog.types.size + 100) 171 (.pointer (some ⟨d,0,none⟩)) "Replace").run Tryz.prog w = .ok (217,.pointer (some ⟨d,0,none⟩)) w:=fun _=>by kernel_rfl
section
variable {u:World} {m0:Mem} {S:Segs} {w:World}
set_option maxHeartbeats 4000000 in
set_option maxRecDepth 100000 in
theorem qml {b ab oo cap:Nat} {x0 x1 x2:Value} (hAt:∀ i x,ON[i]? = some x → m0.cell ⟨ab,oo + i,none⟩ = some (.string (bs x)))
  (ok:Ok u m0 ([(b,Obj.cells [x0,x1,x2,.nilIface,.slice (some ⟨ab,oo,none⟩) 6 cap].toArray 110 (0,0))] :: S) w) :
  Calls Tryz.prog 58 [Value.pointer (some ⟨b,0,none⟩)].toArray w fun e w'=>∃ m1 d,e = .returned (.tuple #[]) ∧ m0.le m1 ∧ BSR m1 d ∧
   Ok u m1 ([(b,Obj.cells [x0,x1,x2,.iface 171 (.pointer (some ⟨d,0,none⟩)),.slice none 0 0].toArray 110 (0,0))] :: S) w':=by
 refine enter Tryz.func58 rfl rfl rfl fun a E=>?_
 refine wp_seq ?_
 refine qab ?_
 refine qal E ok (qah rfl) rfl rfl fun a E=>?_
 refine qal E ok (qah rfl) rfl rfl fun a E=>?_
 refine qaf E qoL rfl (qo0 hAt ok) rfl rfl ?_
 rintro _ w ⟨m1,d,rfl,hle,hB,ok⟩
 refine ⟨_,rfl,fun a E=>?_⟩
 refine qal E ok (qaj rfl) rfl rfl fun a E=>?_
 refine qal E ok (qai qkv rfl) rfl rfl fun a E=>?_
 refine qad E ok 0 rfl rfl rfl qm9 rfl rfl ⟨rfl,trivial⟩ rfl rfl fun w ok=>?_
 refine wpList_nil ?_
 refine qaa ?_
 refine qab ?_
 refine qal E ok (qah rfl) rfl rfl fun a E=>?_
 refine qal E ok (qaj rfl) rfl rfl fun a E=>?_
 refine qal E ok (qai qkw rfl) rfl rfl fun a E=>?_
 refine qad E ok 0 rfl rfl rfl qlV rfl rfl ⟨rfl,trivial⟩ rfl rfl fun w ok=>?_
 refine wpList_nil ?_
 exact ⟨E.d,.tuple #[],results_none rfl _ _ _,m1,d,rfl,hle,hB,ok⟩
theorem qhH {b o:Nat} {c:List Value} {T:TypeId} {v:Value} (ok:Ok u m0 ([(b,Obj.cells c.toArray T (0,0))] :: S) w) (h:c[o]? = some v):w.cell? ⟨b,o,none⟩ = some v:=by
 have:=ok.ownCell
 unfold World.cell?
 simp only [this]
 simpa using h
theorem qiN {b o:Nat} {c:List Value} {T:TypeId} (ok:Ok u m0 ([(b,Obj.cells c.toArray T (0,0))] :: S) w):w.frozen? ⟨b,o,none⟩ = false:=by
 have:=ok.ownCell
 simp [World.frozen?,this]
theorem qpO {b ab oo cap:Nat} (hAt:∀ i x,ON[i]? = some x → m0.cell ⟨ab,oo + i,none⟩ = some (.string (bs x)))
  (ok:Ok u m0 ([(b,Obj.cells [.int .u32 0,.int .i32 0,.int .u32 0,.nilIface,.slice (some ⟨ab,oo,none⟩) 6 cap].toArray 110 (0,0))] :: S) w) :
  Calls Tryz.prog 57 [Value.pointer (some ⟨b,0,none⟩),Value.func (.func 58) #[.pointer (some ⟨b,0,none⟩)] #[]].toArray w fun e w'=>∃ m1 d,e = .returned (.tuple #[]) ∧ m0.le m1 ∧ BSR m1 d ∧
   Ok u m1 ([(b,Obj.cells [.int .u32 1,.int .i32 0,.int .u32 0,.iface 171 (.pointer (some ⟨d,0,none⟩)),.slice none 0 0].toArray 110 (0,0))] :: S) w':=by
 have ok1:Ok u m0 ([(b,Obj.cells [.int .u32 0,.int .i32 1,.int .u32 0,.nilIface,.slice (some ⟨ab,oo,none⟩) 6 cap].toArray 110 (0,0))] :: S) (w.setCell ⟨b,0 + 1,none⟩ (.int .i32 1)):=ok.setCell (off:=1) (.int .i32 1)
 refine (qnG b 0 w (fun w2=>∃ m1 d,m0.le m1 ∧ BSR m1 d ∧ Ok u m1 ([(b,Obj.cells [.int .u32 0,.int .i32 1,.int .u32 0,.iface 171 (.pointer (some ⟨d,0,none⟩)),.slice none 0 0].toArray 110 (0,0))] :: S) w2) (qhH ok rfl) (qhH ok rfl) (qiN ok) (qiN ok) ?_ ?_).mono ?_
 ·refine (qml hAt ok1).mono ?_
  rintro e w' ⟨m1,d,rfl,hle,hB,ok2⟩
  exact ⟨rfl,m1,d,hle,hB,ok2⟩
 ·rintro w' ⟨m1,d,hle,hB,ok2⟩
  exact ⟨qhH ok2 rfl,qhH ok2 rfl,qiN ok2,qiN ok2⟩
 ·rintro e w' ⟨rfl,w2,⟨m1,d,hle,hB,ok2⟩,rfl⟩
  refine ⟨m1,d,rfl,hle,hB,?_⟩
  have ok3:=qbE ok2 (w':=w2.drew) rfl
  have ok4:=ok3.setCell (off:=0) (.int .u32 1)
  exact ok4.setCell (off:=1) (.int .i32 0)
def qjD (m:Mem) (cells:List Value):Prop :=
 (∃ ab oo cap,cells = [.int .u32 0,.int .i32 0,.int .u32 0,.nilIface,.slice (some ⟨ab,oo,none⟩) 6 cap] ∧ ∀ i x,ON[i]? = some x → m.cell ⟨ab,oo + i,none⟩ = some (.string (bs x))) ∨
 ∃ d,cells = [.int .u32 1,.int .i32 0,.int .u32 0,.iface 171 (.pointer (some ⟨d,0,none⟩)),.slice none 0 0] ∧ BSR m d
theorem BSR.up {m m':Mem} {d:Nat} (h:BSR m d) (hle:m.le m'):BSR m' d:=by
 obtain ⟨cells,tv,h1,h2,h3,h4,h5⟩:=h
 refine ⟨cells,tv,h1,h2.up hle,h3,(mL mS).up hle h4,fun c hc=>?_⟩
 obtain ⟨v,g1,g2⟩:=h5 c hc
 exact ⟨v,g1,g2.up hle⟩
theorem qjD.up {m m':Mem} {cells:List Value} (h:qjD m cells) (hle:m.le m'):qjD m' cells:=by
 rcases h with ⟨ab,oo,cap,h1,h2⟩ | ⟨d,h1,h2⟩
 ·exact .inl ⟨ab,oo,cap,h1,fun i x hi=>hle.cell (h2 i x hi)⟩
 ·exact .inr ⟨d,h1,h2.up hle⟩
set_option maxHeartbeats 4000000 in
set_option maxRecDepth 100000 in
theorem qnl {b:Nat} {cells:List Value} (hR:qjD m0 cells) (s:Bs) (hs:s.length ≤ 1000000000) (ok:Ok u m0 ([(b,Obj.cells cells.toArray 110 (0,0))] :: S) w) :
  Calls Tryz.prog 37 [Value.pointer (some ⟨b,0,none⟩),Value.string (bs s)].toArray w fun e w'=>∃ m1 cells',e = .returned (.string (bs (quo s))) ∧ m0.le m1 ∧ qjD m1 cells' ∧ Ok u m1 ([(b,Obj.cells cells'.toArray 110 (0,0))] :: S) w':=by
 refine enter Tryz.func37 rfl rfl rfl fun a E=>?_
 refine wp_seq ?_
 refine qab ?_
 refine qal E ok (qaI rfl) rfl rfl fun a E=>?_
 refine wpList_nil ?_
 refine qaa ?_
 refine wp_seq ?_
 refine qaK (Q':=fun e a w=>e = .normal ∧ ∃ m1 d,m0.le m1 ∧ BSR m1 d ∧ Ok u m1 ([(b,Obj.cells [.int .u32 1,.int .i32 0,.int .u32 0,.iface 171 (.pointer (some ⟨d,0,none⟩)),.slice none 0 0].toArray 110 (0,0))] :: S) w ∧ Env 17 a [(0,.pointer (some ⟨b,0,none⟩)),(1,.string (bs s))]) ?_ ?_
 ·refine qab ?_
  refine qal E ok (qah rfl) rfl rfl fun a E=>?_
  refine qal E ok (qaj rfl) rfl rfl fun a E=>?_
  refine qal E ok (qai qmH rfl) rfl rfl fun a E=>?_
  refine qal E ok (qah rfl) rfl rfl fun a E=>?_
  refine qal E ok (qnR rfl) rfl rfl fun a E=>?_
  rcases hR with ⟨ab,oo,cap,rfl,hAt⟩ | ⟨d,rfl,hB⟩
  ·refine qaf E qms rfl (qpO hAt ok) rfl rfl ?_
   rintro _ w ⟨m1,d,rfl,hle,hB,ok⟩
   refine ⟨_,rfl,fun a E=>?_⟩
   refine wpList_nil ?_
   exact ⟨rfl,m1,d,hle,hB,ok,E.keep [0,1]⟩
  ·refine qaf E qms rfl (qoB ⟨b,0,none⟩ 1 (by decide) _ w (qhH ok rfl)) rfl rfl ?_
   rintro _ w' ⟨rfl,rfl⟩
   refine ⟨_,rfl,fun a E=>?_⟩
   refine wpList_nil ?_
   exact ⟨rfl,m0,d,Mem.le.refl m0,hB,ok,E.keep [0,1]⟩
 ·rintro e a w ⟨rfl,m1,d,hle,hB,ok,E⟩
  refine qaa ?_
  refine wp_seq ?_
  refine qab ?_
  refine qal E ok (qah rfl) rfl rfl fun a E=>?_
  refine qal E ok (qaj rfl) rfl rfl fun a E=>?_
  refine qal E ok (qai qkv rfl) rfl rfl fun a E=>?_
  refine qal E ok (qaz qm3 rfl (qae.own 0 rfl rfl)) rfl rfl fun a E=>?_
  refine qal E ok (qah rfl) rfl rfl fun a E=>?_
  refine qnV E qnY rfl rfl (qo9 d) (qp6 hB s hs ok) rfl rfl ?_
  rintro _ w ⟨rfl,ok⟩
  refine ⟨_,rfl,fun a E=>?_⟩
  refine qal E ok (qaI rfl) rfl rfl fun a E=>?_
  refine wpList_nil ?_
  refine qaa ?_
  refine wp_ret ?_
  exact qbs [.t 4 (.string (bs (quo s)))] E.d rfl ⟨rv_t E rfl,trivial⟩ ⟨m1,_,rfl,hle,.inr ⟨d,rfl,hB⟩,ok⟩
end
end Go.Proofs.YtllnjbnknjpbjaaGreatDoor
namespace Go.X
theorem Ok.melt {u w:World} {m0 m1:Mem} {S:Segs} (hle:m0.le m1) (hb:∀ b o,u.heap[b]? = some o → m0 b = some o) (ok:Ok u m1 S w):∃ X:List (Nat × Obj),Ok u m0 (X :: S) w ∧ ∀ b o,m1 b = some o → m0 b = some o ∨ (b,o) ∈ X:=by
 have hmem:∀ p:Nat × Obj,p ∈ (List.range w.heap.size).filterMap (fun b=>match m0 b with | none=>(m1 b).map fun o=>(b,o) | some _=>none) ↔ m1 p.1 = some p.2 ∧ m0 p.1 = none:=by
  rintro ⟨b,o⟩
  rw [List.mem_filterMap]
  constructor
  ·rintro ⟨x,hx,h⟩
   cases h0:m0 x with
   | some y=>rw [h0] at h; cases h
   | none =>
    rw [h0] at h
    obtain ⟨o',h1,h2⟩:=Option.map_eq_some_iff.1 h
    cases h2
    exact ⟨h1,h0⟩
  ·rintro ⟨h1,h0⟩
   refine ⟨b,?_,?_⟩
   ·rw [List.mem_range]
    exact (Array.getElem?_eq_some_iff.1 (ok.ro _ _ h1)).1
   ·have h0':m0 b = none:=h0
    have h1':m1 b = some o:=h1
    rw [h0',h1']
    rfl
 refine ⟨(List.range w.heap.size).filterMap (fun b=>match m0 b with | none=>(m1 b).map fun o=>(b,o) | some _=>none),⟨ok.os,ok.out,ok.tape,fun b o h=>ok.ro b o (hle b o h),fun p hp=>?_,?_,hb⟩,fun b o h=>?_⟩
 ·simp only [List.flatten_cons,List.mem_append] at hp
  rcases hp with hp | hp
  ·obtain ⟨h1,h0⟩:=(hmem p).1 hp
   exact ⟨ok.ro _ _ h1,h0⟩
  ·obtain ⟨h1,h0⟩:=ok.own p hp
   refine ⟨h1,?_⟩
   cases h:m0 p.1 with
   | none=>rfl
   | some o=>have:=hle _ _ h; rw [h0] at this; cases this
 ·simp only [List.flatten_cons]
  refine List.pairwise_append.2 ⟨?_,ok.nd,fun p hp q hq e=>?_⟩
  ·rw [List.pairwise_filterMap]
   refine List.nodup_range.imp fun {x y} hxy=>?_
   intro p hp q hq e
   have key:∀ (x:Nat) (p:Nat × Obj),(match m0 x with | none=>(m1 x).map fun o=>(x,o) | some _=>none) = some p → p.1 = x:=by
    intro x p h
    cases h0:m0 x with
    | some y=>rw [h0] at h; cases h
    | none =>
     rw [h0] at h
     obtain ⟨o',h1,h2⟩:=Option.map_eq_some_iff.1 h
     cases h2
     rfl
   exact hxy (by rw [← key x p hp,← key y q hq,e])
  ·obtain ⟨h1,h0⟩:=(hmem p).1 hp
   have:=(ok.own q hq).2
   rw [← e,h1] at this
   cases this
 ·cases h0:m0 b with
  | none=>exact .inr ((hmem (b,o)).2 ⟨h,h0⟩)
  | some o' =>
   have:=hle _ _ h0
   rw [h] at this
   cases this
   exact .inl rfl
end Go.X
namespace Go.Proofs.YtllnjbnknjpbjaaGreatDoor
open Go.X
theorem qmq:goB Tryz.prog 37 = true:=by kernel_rfl
def RepO (m0:Mem) (cells:List Value) (M:List (Nat × Obj)):Prop:=∀ m2:Mem,m0.le m2 → (∀ p ∈ M,m2 p.1 = some p.2) → qjD m2 cells
section
variable {u:World} {m0:Mem} {S:Segs} {w:World}
theorem qlj {b:Nat} {cells:List Value} {M:List (Nat × Obj)} (hR:RepO m0 cells M) (N:Nat) (s:Bs) {r:Bs} (hF:qbT N s = some r) (ok:Ok u m0 ([(b,Obj.cells cells.toArray 110 (0,0))] :: M :: S) w) :
  Calls Tryz.prog 37 [Value.pointer (some ⟨b,0,none⟩),Value.string (bs s)].toArray w fun e w'=>∃ cells' M',e = .returned (.string (bs r)) ∧ RepO m0 cells' M' ∧ Ok u m0 ([(b,Obj.cells cells'.toArray 110 (0,0))] :: M' :: S) w':=by
 unfold qbT at hF
 split at hF
 case isFalse=>cases hF
 rename_i hs
 obtain rfl:=Option.some.inj hF
 obtain ⟨m2,hle,ok2,hfz⟩:=ok.swap.freeze
 refine (qnl (hR m2 hle hfz) s hs ok2).mono ?_
 rintro e w' ⟨m3,cells',rfl,hle3,hR3,ok3⟩
 obtain ⟨X,ok4,hX⟩:=Ok.melt (hle.trans hle3) ok.base ok3
 refine ⟨cells',X,rfl,fun m4 h4 hM=>hR3.up fun b o h=>?_,ok4.swap⟩
 rcases hX b o h with h | h
 ·exact h4 b o h
 ·exact hM _ h
theorem qnL {N:Nat} {v:Value} (hv:(pL 1 pS) m0 [v] ([[34],[92,34],[92],[92,92],[10],[92,110]]:List (List UInt8))) {r:Replacer} (hF:qcM N ([[34],[92,34],[92],[92,92],[10],[92,110]]:List (List UInt8)) = some r) (hG:Glob u) (ok:Ok u m0 S w) :
  Calls Tryz.prog 34 [v].toArray w fun e w'=>∃ b0 cR MR,e = .returned (.pointer (some ⟨b0,0,none⟩)) ∧ RepO m0 cR MR ∧ Ok u m0 ([(b0,Obj.cells cR.toArray 110 (0,0))] :: MR :: S) w':=by
 have hr:qcM N ([[34],[92,34],[92],[92,92],[10],[92,110]]:List (List UInt8)) = some (Replacer.mk (Once.mk (NoCopy.mk ) (BoolT.mk (NoCopy.mk ) 0) (Mutex2.mk (NoCopy.mk ) (Mutex.mk 0 0))) () ON):=rfl
 rw [hr] at hF
 obtain rfl:=Option.some.inj hF
 refine (qiu N v _ hv hr hG ok).mono ?_
 rintro e w' ⟨m1,b0,c4,M5,rfl,hle,ok1,_,_,_,h5⟩
 obtain ⟨m2,hle2,ok2,hfz⟩:=ok1.swap.freeze
 have h6:=ORow.froz mS h5 hle2 hfz (by decide)
 obtain ⟨ad,cap,e1,_,_,_,h7⟩:=h6
 obtain ⟨ab,oo,rfl,h8⟩:=h7 (by show 6 ≠ 0; decide)
 obtain rfl:c4 = .slice (some ⟨ab,oo,none⟩) 6 cap:=(List.cons.inj e1).1
 obtain ⟨X,ok4,hX⟩:=Ok.melt (hle.trans hle2) ok.base ok2
 refine ⟨b0,_,X,rfl,fun m4 h4 hM=>.inl ⟨ab,oo,cap,rfl,fun i x hi=>?_⟩,ok4.swap⟩
 obtain ⟨es,g1,g2,g3⟩:=h8 i x hi
 obtain ⟨rfl,_⟩:=g3
 have g4:=g2 0 _ rfl
 rw [Nat.mul_one,Nat.add_zero] at g4
 have:m2.le m4:=fun b o h=>by
  rcases hX b o h with h | h
  ·exact h4 b o h
  ·exact hM _ h
 exact this.cell g4
end
end Go.Proofs.YtllnjbnknjpbjaaGreatDoor
namespace Go.Proofs.YtllnjbnknjpbjaaGreatDoor
open Go.X
variable {u:World} {m0:Mem} {S:Segs} {w:World}
set_option maxHeartbeats 4000000
set_option maxRecDepth 100000
def qk9 (u:World) (m0:Mem) (S:Segs) (r:(List UInt8)) (a:Act) (w:World):Prop :=
 Ok u m0 S w ∧ a.defers = [] ∧ RVs Tryz.prog a w [.t 2 (.string (bs r))] ∧ r.length ≤ LIMS
theorem qfD (N:Nat) (vc_0:List Value) (c_0:Code) (hc_0:qeY m0 vc_0 c_0) {r:(List UInt8)} (hF:qeG N c_0 = some r) (hG:Glob u) (hTb:Tab u) (ok:Ok u m0 S w) :
  Calls Tryz.prog 16 [.agg vc_0.toArray].toArray w fun e w'=>(e = .returned (.string (bs r)) ∧ Ok u m0 S w') ∧ r.length ≤ LIMS:=by
 obtain ⟨c1,c3,rfl,h2,h4⟩:=hc_0
 have hb0:=ok.base
 have le_m0:=Mem.le.refl m0
 unfold qeG at hF
 refine en (qk9 u m0 S) r Tryz.func16 rfl rfl rfl (fun _ _ h=>rb h rfl) fun fin a E=>sg<|qdV E ok rfl rfl rfl fun b5 a w E ok=>aw E rfl fun a E=>sg<|lv E ok (qlI (ps:=[(0,.const (vs ([63]))),(1,.const (vs ([101,109,105,116]))),(2,.const (vs ([111,112,101,110]))),(3,.const (vs ([99,108,111,115,101]))),(4,.const (vs ([118,111,105,100]))),(5,.const (vs ([97,114,103]))),(6,.const (vs ([110,117,109,98,101,114]))),(7,.const (vs ([117,110,105,116]))),(8,.const (vs ([100,97,116,101]))),(9,.const (vs ([108,105,115,116]))),(10,.const (vs ([115,119,105,116,99,104]))),(11,.const (vs ([99,97,115,101]))),(12,.const (vs ([106,117,109,112]))),(13,.const (vs ([115,116,111,112])))]) (qs:=[(0,[(vs ([63]))]),(1,[(vs ([101,109,105,116]))]),(2,[(vs ([111,112,101,110]))]),(3,[(vs ([99,108,111,115,101]))]),(4,[(vs ([118,111,105,100]))]),(5,[(vs ([97,114,103]))]),(6,[(vs ([110,117,109,98,101,114]))]),(7,[(vs ([117,110,105,116]))]),(8,[(vs ([100,97,116,101]))]),(9,[(vs ([108,105,115,116]))]),(10,[(vs ([115,119,105,116,99,104]))]),(11,[(vs ([99,97,115,101]))]),(12,[(vs ([106,117,109,112]))]),(13,[(vs ([115,116,111,112]))])]) (cs:=[(vs ([63])),(vs ([101,109,105,116])),(vs ([111,112,101,110])),(vs ([99,108,111,115,101])),(vs ([118,111,105,100])),(vs ([97,114,103])),(vs ([110,117,109,98,101,114])),(vs ([117,110,105,116])),(vs ([100,97,116,101])),(vs ([108,105,115,116])),(vs ([115,119,105,116,99,104])),(vs ([99,97,115,101])),(vs ([106,117,109,112])),(vs ([115,116,111,112]))]) qmw qlY rfl ⟨rfl,rfl,rfl,⟨rfl,rfl,rfl,⟨rfl,rfl,rfl,⟨rfl,rfl,rfl,⟨rfl,rfl,rfl,⟨rfl,rfl,rfl,⟨rfl,rfl,rfl,⟨rfl,rfl,rfl,⟨rfl,rfl,rfl,⟨rfl,rfl,rfl,⟨rfl,rfl,rfl,⟨rfl,rfl,rfl,⟨rfl,rfl,rfl,⟨rfl,rfl,rfl,trivial⟩⟩⟩⟩⟩⟩⟩⟩⟩⟩⟩⟩⟩⟩ rfl) fun a E=>qa3 E ok qmw rfl rfl fun b6 a w E ok=>qad E ok 0 rfl rfl rfl qpt rfl rfl ⟨rfl,rfl,rfl,rfl,rfl,rfl,rfl,rfl,rfl,rfl,rfl,rfl,rfl,rfl,trivial⟩ rfl rfl fun w ok=>wn<|sg<|qbt (R:=pS) (xo:=[.const (vs ([34])),.const (vs ([92,34])),.const (vs ([92])),.const (vs ([92,92])),.const (vs ([10])),.const (vs ([92,110]))]) (xs:=([[34],[92,34],[92],[92,92],[10],[92,110]]:List (List UInt8))) E ok qbx qdK rfl ⟨⟨_,rfl,rfl,(qbM (show ([34]:List UInt8).length ≤ LIMS by decide))⟩,⟨_,rfl,rfl,(qbM (show ([92,34]:List UInt8).length ≤ LIMS by decide))⟩,⟨_,rfl,rfl,(qbM (show ([92]:List UInt8).length ≤ LIMS by decide))⟩,⟨_,rfl,rfl,(qbM (show ([92,92]:List UInt8).length ≤ LIMS by decide))⟩,⟨_,rfl,rfl,(qbM (show ([10]:List UInt8).length ≤ LIMS by decide))⟩,⟨_,rfl,rfl,(qbM (show ([92,110]:List UInt8).length ≤ LIMS by decide))⟩,trivial⟩ rfl rfl rfl rfl fun c7 M8 a w E ok h9=>?_
 obtain ⟨m10,hle,ok,hfz⟩:=(ok.frs 0 rfl).freeze
 have h11:=ORow.froz mS h9 hle hfz (by decide)
 have le_m0:=le_m0.trans hle
 have h2:=(mL mS).up hle h2
 have h4:=(mL mIns).up hle h4
 refine bd hF fun r12 e13 hF=>qaf E qpW rfl (qnL h11 e13 hG ok) rfl rfl ?_
 rintro _ w ⟨b15,cR,MR,rfl,hR,ok⟩
 refine ⟨_,rfl,fun a E=>?_⟩
 refine aw E rfl fun a E=>sg<|qa3 E ok qmE rfl rfl fun b22 a w E ok=>wn<|wp_seq<|sg<|fk E ok qdi qdt rfl 4 rfl rfl fun a E=>lv E ok (qbb qc5 h4 rfl) fun a E=>mv E rfl fun a E=>wn<|wp_block ?_
 obtain ⟨M30,ok,h31⟩:=qee (e:=5) (k:=1) (R:=(pI .u8)) ok
 refine bd hF fun o32 hL hF=>qa6 _ (fun (s:Int × Builder) a w=>∃ cR MR c34 c36 M37,RepO m10 cR MR ∧ Ok u m10 (M37 :: [(b22,oc 68 [c34,c36])] :: [(b15,Obj.cells cR.toArray 110 (0,0))] :: MR :: [(b6,oc 62 [(vs ([63])),(vs ([101,109,105,116])),(vs ([111,112,101,110])),(vs ([99,108,111,115,101])),(vs ([118,111,105,100])),(vs ([97,114,103])),(vs ([110,117,109,98,101,114])),(vs ([117,110,105,116])),(vs ([100,97,116,101])),(vs ([108,105,115,116])),(vs ([115,119,105,116,99,104])),(vs ([99,97,115,101])),(vs ([106,117,109,112])),(vs ([115,116,111,112]))])] :: [(b5,oc 28 [c1,c3])] :: S) w ∧ Env 70 a [(3,vp b6),(4,vp b15),(5,vp b22),(15,c3),(16,(vi (c_0.Ins.length:Int))),(17,vi s.1)] ∧ InR .i64 s.1 ∧ BAd b22 c34 ∧ ORow 5 1 (pI .u8) m10 c36 s.2.buf M37) (fun (b:Builder) e a w=>e = (.exit 0) ∧ ∃ cR MR c286 c288 M289,RepO m10 cR MR ∧ Ok u m10 (M289 :: [(b22,oc 68 [c286,c288])] :: [(b15,Obj.cells cR.toArray 110 (0,0))] :: MR :: [(b6,oc 62 [(vs ([63])),(vs ([101,109,105,116])),(vs ([111,112,101,110])),(vs ([99,108,111,115,101])),(vs ([118,111,105,100])),(vs ([97,114,103])),(vs ([110,117,109,98,101,114])),(vs ([117,110,105,116])),(vs ([100,97,116,101])),(vs ([108,105,115,116])),(vs ([115,119,105,116,99,104])),(vs ([99,97,115,101])),(vs ([106,117,109,112])),(vs ([115,116,111,112]))])] :: [(b5,oc 28 [c1,c3])] :: S) w ∧ Env 70 a [(5,vp b22)] ∧ BAd b22 c286 ∧ ORow 5 1 (pI .u8) m10 c288 b.buf M289) ?_ ?_ N _ a w hL ⟨cR,MR,(Value.pointer none),(Value.slice none 0 0),M30,hR,ok,E.keep [3,4,5,15,16,17],(ir 0),(.inl rfl),h31⟩
 rotate_left
 ·intro e a w _ hO
  obtain ⟨rfl,cR,MR,c280,c282,M283,hR,ok,E,h281,h284⟩:=hO
  refine qbf<|qaa<|sg ?_
  replace ok:Ok u m10 ([(b22,oc 68 [c280,c282])] :: M283 :: [(b15,Obj.cells cR.toArray 110 (0,0))] :: MR :: [(b6,oc 62 [(vs ([63])),(vs ([101,109,105,116])),(vs ([111,112,101,110])),(vs ([99,108,111,115,101])),(vs ([118,111,105,100])),(vs ([97,114,103])),(vs ([110,117,109,98,101,114])),(vs ([117,110,105,116])),(vs ([100,97,116,101])),(vs ([108,105,115,116])),(vs ([115,119,105,116,99,104])),(vs ([99,97,115,101])),(vs ([106,117,109,112])),(vs ([115,116,111,112]))])] :: [(b5,oc 28 [c1,c3])] :: S) w:=(ok.pk 6 [1,0,2,3,4,5] rfl (by decide))
  refine qaf E qom rfl (qkx Tryz.lays169 Tryz.Builder_Extra_169 h284 ok) rfl rfl ?_
  rintro _ w ⟨⟨rfl,ok⟩,l285⟩
  refine ⟨_,rfl,fun a E=>?_⟩
  refine aw E rfl fun a E=>wp_ret ?_
  exact fin hF ⟨(ok.drop.drop.drop.drop).down hb0 le_m0,E.d,rz E rfl,l285⟩
 rintro ⟨v39,v40⟩ a w r ⟨cR,MR,c42,c44,M45,hR,ok,E,r41,h43,h46⟩ hF
 replace hF:qde N c_0 v39 v40 = some r:=hF
 unfold qde at hF
 refine sg<|lw E (qaS rfl rfl) fun a E=>wn<|wp_seq<|cg E rfl hF (fun c47 hF=>?_) fun c47 hF=>?_
 ·refine wp_exit<|qaX ?_
  cases hF
  exact so (⟨rfl,⟨cR,MR,c42,c44,M45,hR,ok,E.keep [5],h43,h46⟩⟩)
 refine wp_skip<|qaa<|wp_seq<|wp_block<|sg<|mv E rfl fun a E=>?_
 obtain ⟨x48,e49,hF⟩:=bnd hF
 obtain ⟨b50,o51,es52,hl53,rr54,at55,yy56⟩:=ia E 15 17 qc5 h4 e49
 obtain ⟨rfl,r57,r58,r59,l60⟩:=rr54
 refine lv E ok (yy56 _ _) fun a E=>lv E ok (qan (cs:=[vi x48.Op,vi x48.A,vi x48.B,vs x48.S]) qjA rfl rfl (qae.ro at55)) fun a E=>qa3 E ok qcD rfl rfl fun b61 a w E ok=>av E rfl fun a E=>qad E ok 0 rfl rfl rfl qpg rfl rfl ⟨rfl,rfl,rfl,rfl,trivial⟩ rfl rfl fun w ok=>wn<|sg<|aw E rfl fun a E=>wp_seq<|sg<|fv E qkQ rfl fun a E=>ld E ok qaq 0 rfl rfl rfl fun a E=>lw E (qbK rfl rfl) fun a E=>mv E rfl fun a E=>bw E 25 hF (fun c62 hF E=>?_) fun c62 hF E=>?_
 ·as_aux_lemma =>
   refine lsq E fun a E=>ls E fun a E=>pf E rfl rfl fun a E=>wn<|c_if E rfl (fun h=>by cases h) (fun _=>?_)
   refine wp_skip<|qaa<|wp_seq<|bd hF fun o178 hJ hF=>qaK (Q':=fun e a w=>e = .normal ∧ ∃ c179 c181 M182,Ok u m10 ([(b61,oc 47 [vi x48.Op,vi x48.A,vi x48.B,vs x48.S])] :: M182 :: [(b22,oc 68 [c179,c181])] :: [(b15,Obj.cells cR.toArray 110 (0,0))] :: MR :: [(b6,oc 62 [(vs ([63])),(vs ([101,109,105,116])),(vs ([111,112,101,110])),(vs ([99,108,111,115,101])),(vs ([118,111,105,100])),(vs ([97,114,103])),(vs ([110,117,109,98,101,114])),(vs ([117,110,105,116])),(vs ([100,97,116,101])),(vs ([108,105,115,116])),(vs ([115,119,105,116,99,104])),(vs ([99,97,115,101])),(vs ([106,117,109,112])),(vs ([115,116,111,112]))])] :: [(b5,oc 28 [c1,c3])] :: S) w ∧ Env 70 a [(3,vp b6),(4,vp b15),(5,vp b22),(7,vp b61),(15,c3),(16,(vi (c_0.Ins.length:Int))),(17,vi v39)] ∧ BAd b22 c179 ∧ ORow 5 1 (pI .u8) m10 c181 o178.buf M182) ?_ ?_
   ·have hF:=hJ
    obtain ⟨r184,e185,hF⟩:=bnd hF
    obtain ⟨s187,e188,hF⟩:=bnd hF
    obtain ⟨s189,e190,hF⟩:=bnd hF
    obtain ⟨r191,e192,hF⟩:=bnd hF
    obtain rfl:=sj hF
    refine qbl [] (Cls u m10 ([(b61,oc 47 [vi x48.Op,vi x48.A,vi x48.B,vs x48.S])] :: [(b15,Obj.cells cR.toArray 110 (0,0))] :: MR :: [(b6,oc 62 [(vs ([63])),(vs ([101,109,105,116])),(vs ([111,112,101,110])),(vs ([99,108,111,115,101])),(vs ([118,111,105,100])),(vs ([97,114,103])),(vs ([110,117,109,98,101,114])),(vs ([117,110,105,116])),(vs ([100,97,116,101])),(vs ([108,105,115,116])),(vs ([115,119,105,116,99,104])),(vs ([99,97,115,101])),(vs ([106,117,109,112])),(vs ([115,116,111,112]))])] :: [(b5,oc 28 [c1,c3])] :: [])) (Cls u m10 ([(b61,oc 47 [vi x48.Op,vi x48.A,vi x48.B,vs x48.S])] :: [(b15,Obj.cells cR.toArray 110 (0,0))] :: MR :: [(b6,oc 62 [(vs ([63])),(vs ([101,109,105,116])),(vs ([111,112,101,110])),(vs ([99,108,111,115,101])),(vs ([118,111,105,100])),(vs ([97,114,103])),(vs ([110,117,109,98,101,114])),(vs ([117,110,105,116])),(vs ([100,97,116,101])),(vs ([108,105,115,116])),(vs ([115,119,105,116,99,104])),(vs ([99,97,115,101])),(vs ([106,117,109,112])),(vs ([115,116,111,112]))])] :: [(b5,oc 28 [c1,c3])] :: [])) (by kernel_rfl) ?_
    intro w hw
    replace ok:=qbE ok hw
    clear hw
    have le_m10:=Mem.le.refl m10
    refine qar (cl1 (cq le_m10 ok [0,3,4,5,6] rfl) (cq le_m10 ok [0,3,4,5,6] rfl)) fun hT=>kt 0 E rfl hT (qah rfl) fun a E=>kt 3 E rfl hT (qah rfl) fun a E=>kt 4 E rfl hT (qge qlY rfl rfl (by decide) (by decide)) fun a E=>kt 5 E rfl hT (qaz qao rfl (qae.cown 3 rfl rfl)) fun a E=>qaP [1] (by kernel_rfl) rfl (qaT ?_)
    ·refine wo rfl<|qaf E qj5 rfl (qev N v39 r41 e185 hG hTb ok) rfl rfl ?_
     rintro _ w ⟨⟨rfl,ok⟩,l199⟩
     refine ⟨_,rfl,fun a E=>?_⟩
     refine wn<|qar (cl1 (cq le_m10 ok [0,3,4,5,6] rfl) (cq le_m10 ok [0,3,4,5,6] rfl)) fun hT=>kt 2 E rfl hT (qaE rfl rfl e188) fun a E=>kt 6 E rfl hT (qaE rfl rfl e190) fun a E=>qaP [7] (by kernel_rfl) rfl (qaT ?_)
     ·refine qco (o:=_) rfl ?_
      replace ok:Ok u m10 ([(b22,oc 68 [c42,c44])] :: M45 :: [(b61,oc 47 [vi x48.Op,vi x48.A,vi x48.B,vs x48.S])] :: [(b15,Obj.cells cR.toArray 110 (0,0))] :: MR :: [(b6,oc 62 [(vs ([63])),(vs ([101,109,105,116])),(vs ([111,112,101,110])),(vs ([99,108,111,115,101])),(vs ([118,111,105,100])),(vs ([97,114,103])),(vs ([110,117,109,98,101,114])),(vs ([117,110,105,116])),(vs ([100,97,116,101])),(vs ([108,105,115,116])),(vs ([115,119,105,116,99,104])),(vs ([99,97,115,101])),(vs ([106,117,109,112])),(vs ([115,116,111,112]))])] :: [(b5,oc 28 [c1,c3])] :: S) w:=(ok.pk 7 [2,1,0,3,4,5,6] rfl (by decide))
      refine qaf E qiD rfl (qbB N s189 (qaV e190) (Builder.mk () v40.buf) h43 h46 e192 hG ok) rfl rfl ?_
      rintro _ w ⟨c201,c203,M204,⟨rfl,ok⟩,r200,h202,h205⟩
      refine ⟨_,rfl,fun a E=>?_⟩
      refine wn<|qar (cl1 (cq le_m10 ok [2,3,4,5,6] rfl) (cq le_m10 ok [2,3,4,5,6] rfl)) fun hT=>qbw (by kernel_rfl) ?_
      exact ⟨rfl,⟨c201,c203,M204,(ok.pk 7 [2,1,0,3,4,5,6] rfl (by decide)),E.keep [3,4,5,7,15,16,17],h202,h205⟩⟩
   intro e a w hO
   obtain ⟨rfl,c206,c208,M209,ok,E,h207,h210⟩:=hO
   refine qaa<|wp_seq<|sg<|fk E ok qhq qaq rfl 0 rfl rfl fun a E=>fk E ok qmv qaq rfl 0 rfl rfl fun a E=>qbt (R:=(pI .i64)) (xo:=[.tmp 41,.tmp 43]) (xs:=([x48.A,x48.B]:List (Int))) E ok qgJ qj9 rfl ⟨⟨_,rfl,rfl,(qdr r58)⟩,⟨_,rfl,rfl,(qdr r59)⟩,trivial⟩ rfl rfl rfl rfl fun c211 M212 a w E ok h213=>lv E ok (qd3 qgJ h213 rfl) fun a E=>mv E rfl fun a E=>wn<|wp_block<|bd hF fun o221 hL hF=>qa6 _ (fun (s:Int × Builder) a w=>∃ c223 c225 M226,Ok u m10 (M212 :: [(b61,oc 47 [vi x48.Op,vi x48.A,vi x48.B,vs x48.S])] :: M226 :: [(b22,oc 68 [c223,c225])] :: [(b15,Obj.cells cR.toArray 110 (0,0))] :: MR :: [(b6,oc 62 [(vs ([63])),(vs ([101,109,105,116])),(vs ([111,112,101,110])),(vs ([99,108,111,115,101])),(vs ([118,111,105,100])),(vs ([97,114,103])),(vs ([110,117,109,98,101,114])),(vs ([117,110,105,116])),(vs ([100,97,116,101])),(vs ([108,105,115,116])),(vs ([115,119,105,116,99,104])),(vs ([99,97,115,101])),(vs ([106,117,109,112])),(vs ([115,116,111,112]))])] :: [(b5,oc 28 [c1,c3])] :: S) w ∧ Env 70 a [(3,vp b6),(4,vp b15),(5,vp b22),(7,vp b61),(15,c3),(16,(vi (c_0.Ins.length:Int))),(17,vi v39),(44,c211),(45,(vi (([x48.A,x48.B]:List (Int)).length:Int))),(46,vi s.1)] ∧ InR .i64 s.1 ∧ BAd b22 c223 ∧ ORow 5 1 (pI .u8) m10 c225 s.2.buf M226) (fun (b:Builder) e a w=>e = (.exit 2) ∧ ∃ c275 c277 M278,Ok u m10 (M212 :: [(b61,oc 47 [vi x48.Op,vi x48.A,vi x48.B,vs x48.S])] :: M278 :: [(b22,oc 68 [c275,c277])] :: [(b15,Obj.cells cR.toArray 110 (0,0))] :: MR :: [(b6,oc 62 [(vs ([63])),(vs ([101,109,105,116])),(vs ([111,112,101,110])),(vs ([99,108,111,115,101])),(vs ([118,111,105,100])),(vs ([97,114,103])),(vs ([110,117,109,98,101,114])),(vs ([117,110,105,116])),(vs ([100,97,116,101])),(vs ([108,105,115,116])),(vs ([115,119,105,116,99,104])),(vs ([99,97,115,101])),(vs ([106,117,109,112])),(vs ([115,116,111,112]))])] :: [(b5,oc 28 [c1,c3])] :: S) w ∧ Env 70 a [(3,vp b6),(4,vp b15),(5,vp b22),(7,vp b61),(15,c3),(16,(vi (c_0.Ins.length:Int))),(17,vi v39)] ∧ BAd b22 c275 ∧ ORow 5 1 (pI .u8) m10 c277 b.buf M278) ?_ ?_ N _ a w hL ⟨c206,c208,M209,ok,E.keep [3,4,5,7,15,16,17,44,45,46],(ir 0),h207,h210⟩
   rotate_left
   ·intro e a w _ hO
    obtain ⟨rfl,c262,c264,M265,ok,E,h263,h266⟩:=hO
    refine qbf<|qaa<|wp_seq<|sg<|fk E ok qjL qao rfl 1 rfl rfl fun a E=>lw E (qcP rfl rfl) fun a E=>wn<|cf E rfl hF (fun c267 hF=>?_) fun c267 hF=>?_
    ·obtain ⟨oW,hJW,hF⟩:=bnd hF
     obtain ⟨rR,eR,hJW⟩:=bnd hJW
     obtain ⟨sA,eA,hJW⟩:=bnd hJW
     obtain ⟨sB,eB,hJW⟩:=bnd hJW
     obtain ⟨rW,eW,hJW⟩:=bnd hJW
     obtain rfl:=Option.some.inj hJW
     obtain ⟨rV,eV,hF⟩:=bnd hF
     replace ok:Ok u m10 ([(b22,oc 68 [c262,c264])] :: M265 :: M212 :: [(b61,oc 47 [vi x48.Op,vi x48.A,vi x48.B,vs x48.S])] :: [(b15,Obj.cells cR.toArray 110 (0,0))] :: MR :: [(b6,oc 62 [(vs ([63])),(vs ([101,109,105,116])),(vs ([111,112,101,110])),(vs ([99,108,111,115,101])),(vs ([118,111,105,100])),(vs ([97,114,103])),(vs ([110,117,109,98,101,114])),(vs ([117,110,105,116])),(vs ([100,97,116,101])),(vs ([108,105,115,116])),(vs ([115,119,105,116,99,104])),(vs ([99,97,115,101])),(vs ([106,117,109,112])),(vs ([115,116,111,112]))])] :: [(b5,oc 28 [c1,c3])] :: S) w:=(ok.pk 8 [3,2,0,1,4,5,6,7] rfl (by decide))
     refine qab<|mv E rfl fun a E=>fk E ok qjL qao rfl 3 rfl rfl fun a E=>?_
     replace ok:Ok u m10 ([(b15,Obj.cells cR.toArray 110 (0,0))] :: MR :: [(b22,oc 68 [c262,c264])] :: M265 :: M212 :: [(b61,oc 47 [vi x48.Op,vi x48.A,vi x48.B,vs x48.S])] :: [(b6,oc 62 [(vs ([63])),(vs ([101,109,105,116])),(vs ([111,112,101,110])),(vs ([99,108,111,115,101])),(vs ([118,111,105,100])),(vs ([97,114,103])),(vs ([110,117,109,98,101,114])),(vs ([117,110,105,116])),(vs ([100,97,116,101])),(vs ([108,105,115,116])),(vs ([115,119,105,116,99,104])),(vs ([99,97,115,101])),(vs ([106,117,109,112])),(vs ([115,116,111,112]))])] :: [(b5,oc 28 [c1,c3])] :: S) w:=(ok.pk 8 [4,5,0,1,2,3,6,7] rfl (by decide))
     refine qaf E qmq rfl (qlj hR N x48.S eR ok) rfl rfl ?_
     rintro _ w ⟨cR,MR,rfl,hR,ok⟩
     refine ⟨_,rfl,fun a E=>?_⟩
     refine lw E (qaE rfl rfl eA) fun a E=>lw E (qaE rfl rfl eB) fun a E=>?_
     replace ok:Ok u m10 ([(b22,oc 68 [c262,c264])] :: M265 :: [(b15,Obj.cells cR.toArray 110 (0,0))] :: MR :: M212 :: [(b61,oc 47 [vi x48.Op,vi x48.A,vi x48.B,vs x48.S])] :: [(b6,oc 62 [(vs ([63])),(vs ([101,109,105,116])),(vs ([111,112,101,110])),(vs ([99,108,111,115,101])),(vs ([118,111,105,100])),(vs ([97,114,103])),(vs ([110,117,109,98,101,114])),(vs ([117,110,105,116])),(vs ([100,97,116,101])),(vs ([108,105,115,116])),(vs ([115,119,105,116,99,104])),(vs ([99,97,115,101])),(vs ([106,117,109,112])),(vs ([115,116,111,112]))])] :: [(b5,oc 28 [c1,c3])] :: S) w:=(ok.pk 8 [2,3,0,1,4,5,6,7] rfl (by decide))
     refine qaf E qiD rfl (qbB N sB (qaV eB) (Builder.mk () o221.buf) h263 h266 eW hG ok) rfl rfl ?_
     rintro _ w ⟨cW1,cW2,MW,⟨rfl,ok⟩,rW1,hW1,hW2⟩
     refine ⟨_,rfl,fun a E=>?_⟩
     refine wn<|qab<|qaf E qiP rfl (qbJ N 10 (show InR .u8 (10) by decide) (Builder.mk () rW.2.2.buf) hW1 hW2 eV hG ok) rfl rfl ?_
     rintro _ w ⟨cV1,cV2,MV,⟨rfl,ok⟩,hV1,hV2⟩
     refine ⟨_,rfl,fun a E=>?_⟩
     refine wpList_nil<|qag<|qaa<|qab<|lw E (qaC rfl rfl (InR.inc r41 (qas h4) c47)) fun a E=>mv E rfl fun a E=>wpList_nil ?_
     cases hF
     exact qat ⟨cR,MR,cV1,cV2,MV,hR,(ok.pk 8 [1,0,2,3,6,7] rfl (by decide)),E.keep [3,4,5,15,16,17],(InR.inc r41 (qas h4) c47),hV1,hV2⟩
    refine wp_skip<|qaa<|qab ?_
    obtain ⟨r268,e269,hF⟩:=bnd hF
    replace ok:Ok u m10 ([(b22,oc 68 [c262,c264])] :: M265 :: M212 :: [(b61,oc 47 [vi x48.Op,vi x48.A,vi x48.B,vs x48.S])] :: [(b15,Obj.cells cR.toArray 110 (0,0))] :: MR :: [(b6,oc 62 [(vs ([63])),(vs ([101,109,105,116])),(vs ([111,112,101,110])),(vs ([99,108,111,115,101])),(vs ([118,111,105,100])),(vs ([97,114,103])),(vs ([110,117,109,98,101,114])),(vs ([117,110,105,116])),(vs ([100,97,116,101])),(vs ([108,105,115,116])),(vs ([115,119,105,116,99,104])),(vs ([99,97,115,101])),(vs ([106,117,109,112])),(vs ([115,116,111,112]))])] :: [(b5,oc 28 [c1,c3])] :: S) w:=(ok.pk 8 [3,2,0,1,4,5,6,7] rfl (by decide))
    refine qaf E qiP rfl (qbJ N 10 (show InR .u8 (10) by decide) (Builder.mk () o221.buf) h263 h266 e269 hG ok) rfl rfl ?_
    rintro _ w ⟨c270,c272,M273,⟨rfl,ok⟩,h271,h274⟩
    refine ⟨_,rfl,fun a E=>?_⟩
    refine wpList_nil<|qag<|qaa<|qab<|lw E (qaC rfl rfl (InR.inc r41 (qas h4) c47)) fun a E=>mv E rfl fun a E=>wpList_nil ?_
    cases hF
    exact qat ⟨cR,MR,c270,c272,M273,hR,(ok.pk 8 [1,0,4,5,6,7] rfl (by decide)),E.keep [3,4,5,15,16,17],(InR.inc r41 (qas h4) c47),h271,h274⟩
   rintro ⟨v228,v229⟩ a w r ⟨c231,c233,M234,ok,E,r230,h232,h235⟩ hF
   replace hF:qfn N x48 v228 v229 = some r:=hF
   unfold qfn at hF
   refine sg<|lw E (qaS rfl rfl) fun a E=>wn<|wp_seq<|cg E rfl hF (fun c236 hF=>?_) fun c236 hF=>?_
   ·refine wp_exit<|qaX ?_
    cases hF
    exact so (⟨rfl,⟨c231,c233,M234,ok,E.keep [3,4,5,7,15,16,17],h232,h235⟩⟩)
   refine wp_skip<|qaa<|wp_seq<|wp_block<|sg ?_
   obtain ⟨x237,e238,hF⟩:=bnd hF
   obtain ⟨b239,o240,hp241,yy242⟩:=qe4 qgJ h213 e238 (P:=Tryz.prog) (X:=.tmp 44) (I:=.tmp 46) (kd:=.i64) (qbQ E rfl) (qbQ E rfl)
   refine lv E ok (yy242 _ _) fun a E=>?_
   obtain ⟨es243,hl244,rr245,hh246⟩:=qf5 h213 e238 hp241 (by decide)
   obtain ⟨rfl,r247⟩:=rr245
   refine lv E ok (qaz qaq rfl (hh246 _ _ _ 0 rfl)) fun a E=>aw E rfl fun a E=>sg<|mv E rfl fun a E=>lw E (qbj rfl rfl) fun a E=>wn<|cg E rfl hF (fun c248 hF=>?_) fun c248 hF=>?_
   ·refine wp_skip<|qag<|qaa<|qab<|lw E (qaC rfl rfl (InR.inc r230 (ORow.InR h213) c236)) fun a E=>mv E rfl fun a E=>wpList_nil ?_
    cases hF
    exact qat ⟨c231,c233,M234,ok,E.keep [3,4,5,7,15,16,17,44,45,46],(InR.inc r230 (ORow.InR h213) c236),h232,h235⟩
   refine qab<|mv E rfl fun a E=>bd hF fun r249 e250 hF=>qaf E qj5 rfl (qev N x237 r247 e250 hG hTb ok) rfl rfl ?_
   rintro _ w ⟨⟨rfl,ok⟩,l251⟩
   refine ⟨_,rfl,fun a E=>?_⟩
   refine bd hF fun s252 e253 hF=>lw E (qaE rfl rfl e253) fun a E=>?_
   obtain ⟨r254,e255,hF⟩:=bnd hF
   replace ok:Ok u m10 ([(b22,oc 68 [c231,c233])] :: M234 :: M212 :: [(b61,oc 47 [vi x48.Op,vi x48.A,vi x48.B,vs x48.S])] :: [(b15,Obj.cells cR.toArray 110 (0,0))] :: MR :: [(b6,oc 62 [(vs ([63])),(vs ([101,109,105,116])),(vs ([111,112,101,110])),(vs ([99,108,111,115,101])),(vs ([118,111,105,100])),(vs ([97,114,103])),(vs ([110,117,109,98,101,114])),(vs ([117,110,105,116])),(vs ([100,97,116,101])),(vs ([108,105,115,116])),(vs ([115,119,105,116,99,104])),(vs ([99,97,115,101])),(vs ([106,117,109,112])),(vs ([115,116,111,112]))])] :: [(b5,oc 28 [c1,c3])] :: S) w:=(ok.pk 8 [3,2,0,1,4,5,6,7] rfl (by decide))
   refine qaf E qiD rfl (qbB N s252 (qaV e253) (Builder.mk () v229.buf) h232 h235 e255 hG ok) rfl rfl ?_
   rintro _ w ⟨c257,c259,M260,⟨rfl,ok⟩,r256,h258,h261⟩
   refine ⟨_,rfl,fun a E=>?_⟩
   refine wpList_nil<|qag<|qaa<|qab<|lw E (qaC rfl rfl (InR.inc r230 (ORow.InR h213) c236)) fun a E=>mv E rfl fun a E=>wpList_nil ?_
   cases hF
   exact qat ⟨c257,c259,M260,(ok.pk 8 [2,3,1,0,4,5,6,7] rfl (by decide)),E.keep [3,4,5,7,15,16,17,44,45,46],(InR.inc r230 (ORow.InR h213) c236),h258,h261⟩
 refine fk E ok qkQ qaq rfl 0 rfl rfl fun a E=>lw E (qcC rfl rfl) fun a E=>pt E rfl rfl fun a E=>wn<|bd hF fun o63 hJ hF=>qaK (Q':=fun e a w=>e = .normal ∧ Ok u m10 ([(b61,oc 47 [vi x48.Op,vi x48.A,vi x48.B,vs x48.S])] :: M45 :: [(b22,oc 68 [c42,c44])] :: [(b15,Obj.cells cR.toArray 110 (0,0))] :: MR :: [(b6,oc 62 [(vs ([63])),(vs ([101,109,105,116])),(vs ([111,112,101,110])),(vs ([99,108,111,115,101])),(vs ([118,111,105,100])),(vs ([97,114,103])),(vs ([110,117,109,98,101,114])),(vs ([117,110,105,116])),(vs ([100,97,116,101])),(vs ([108,105,115,116])),(vs ([115,119,105,116,99,104])),(vs ([99,97,115,101])),(vs ([106,117,109,112])),(vs ([115,116,111,112]))])] :: [(b5,oc 28 [c1,c3])] :: S) w ∧ Env 70 a [(3,vp b6),(4,vp b15),(5,vp b22),(6,vi v39),(7,vp b61),(8,vi o63),(15,c3),(16,(vi (c_0.Ins.length:Int))),(17,vi v39)] ∧ InR .i64 o63) ?_ ?_
 ·have hF:=hJ
  refine cg E rfl hF (fun c65 hF=>?_) fun c65 hF=>?_
  ·refine wp_skip ?_
   cases hF
   exact ⟨rfl,⟨ok,E.keep [3,4,5,6,7,8,15,16,17],(ir 0)⟩⟩
  refine qab<|fk E ok qkQ qaq rfl 0 rfl rfl fun a E=>av E rfl fun a E=>wpList_nil ?_
  cases hF
  exact ⟨rfl,⟨ok,E.keep [3,4,5,6,7,8,15,16,17],r57⟩⟩
 intro e a w hO
 obtain ⟨rfl,ok,E,r66⟩:=hO
 refine qaa<|wp_seq<|bd hF fun o67 hJ hF=>qaK (Q':=fun e a w=>e = .normal ∧ ∃ c68 c70 M71,Ok u m10 ([(b61,oc 47 [vi x48.Op,vi x48.A,vi x48.B,vs x48.S])] :: M71 :: [(b22,oc 68 [c68,c70])] :: [(b15,Obj.cells cR.toArray 110 (0,0))] :: MR :: [(b6,oc 62 [(vs ([63])),(vs ([101,109,105,116])),(vs ([111,112,101,110])),(vs ([99,108,111,115,101])),(vs ([118,111,105,100])),(vs ([97,114,103])),(vs ([110,117,109,98,101,114])),(vs ([117,110,105,116])),(vs ([100,97,116,101])),(vs ([108,105,115,116])),(vs ([115,119,105,116,99,104])),(vs ([99,97,115,101])),(vs ([106,117,109,112])),(vs ([115,116,111,112]))])] :: [(b5,oc 28 [c1,c3])] :: S) w ∧ Env 70 a [(3,vp b6),(4,vp b15),(5,vp b22),(7,vp b61),(15,c3),(16,(vi (c_0.Ins.length:Int))),(17,vi v39)] ∧ BAd b22 c68 ∧ ORow 5 1 (pI .u8) m10 c70 o67.buf M71) ?_ ?_
 ·have hF:=hJ
  obtain ⟨r73,e74,hF⟩:=bnd hF
  obtain ⟨s76,e77,hF⟩:=bnd hF
  obtain ⟨x78,e79,hF⟩:=bnd hF
  obtain ⟨s80,e81,hF⟩:=bnd hF
  obtain ⟨r82,e83,hF⟩:=bnd hF
  obtain rfl:=sj hF
  refine qbl [] (Cls u m10 ([(b61,oc 47 [vi x48.Op,vi x48.A,vi x48.B,vs x48.S])] :: [(b15,Obj.cells cR.toArray 110 (0,0))] :: MR :: [(b6,oc 62 [(vs ([63])),(vs ([101,109,105,116])),(vs ([111,112,101,110])),(vs ([99,108,111,115,101])),(vs ([118,111,105,100])),(vs ([97,114,103])),(vs ([110,117,109,98,101,114])),(vs ([117,110,105,116])),(vs ([100,97,116,101])),(vs ([108,105,115,116])),(vs ([115,119,105,116,99,104])),(vs ([99,97,115,101])),(vs ([106,117,109,112])),(vs ([115,116,111,112]))])] :: [(b5,oc 28 [c1,c3])] :: [])) (Cls u m10 ([(b61,oc 47 [vi x48.Op,vi x48.A,vi x48.B,vs x48.S])] :: [(b15,Obj.cells cR.toArray 110 (0,0))] :: MR :: [(b6,oc 62 [(vs ([63])),(vs ([101,109,105,116])),(vs ([111,112,101,110])),(vs ([99,108,111,115,101])),(vs ([118,111,105,100])),(vs ([97,114,103])),(vs ([110,117,109,98,101,114])),(vs ([117,110,105,116])),(vs ([100,97,116,101])),(vs ([108,105,115,116])),(vs ([115,119,105,116,99,104])),(vs ([99,97,115,101])),(vs ([106,117,109,112])),(vs ([115,116,111,112]))])] :: [(b5,oc 28 [c1,c3])] :: [])) (by kernel_rfl) ?_
  intro w hw
  replace ok:=qbE ok hw
  clear hw
  have le_m10:=Mem.le.refl m10
  refine qar (cl1 (cq le_m10 ok [0,3,4,5,6] rfl) (cq le_m10 ok [0,3,4,5,6] rfl)) fun hT=>kt 0 E rfl hT (qah rfl) fun a E=>kt 3 E rfl hT (qah rfl) fun a E=>?_
  replace e79:idx (Arr14_List_UInt8.list (Arr14_List_UInt8.mk ([63]) ([101,109,105,116]) ([111,112,101,110]) ([99,108,111,115,101]) ([118,111,105,100]) ([97,114,103]) ([110,117,109,98,101,114]) ([117,110,105,116]) ([100,97,116,101]) ([108,105,115,116]) ([115,119,105,116,99,104]) ([99,97,115,101]) ([106,117,109,112]) ([115,116,111,112]))) o63 = some x78:=e79
  refine kt 4 E rfl hT (qge qlY rfl rfl (qlb e79).1 (qlb e79).2) fun a E=>qaP [1,5] (by kernel_rfl) rfl (qiF ?_ (qiF ?_ (qly)))
  ·refine wo rfl<|qaf E qj5 rfl (qev N v39 r41 e74 hG hTb ok) rfl rfl ?_
   rintro _ w ⟨⟨rfl,ok⟩,l90⟩
   refine ⟨_,rfl,fun a E=>?_⟩
   refine wn<|qar (cl1 (cq le_m10 ok [0,3,4,5,6] rfl) (cq le_m10 ok [0,3,4,5,6] rfl)) fun hT=>kt 2 E rfl hT (qaE rfl rfl e77) fun a E=>qaP [5] (by kernel_rfl) rfl (qaT ?_)
   ·refine wo rfl<|lv E ok (qaz qao rfl (qae.idx (xs:=Arr14_List_UInt8.list (Arr14_List_UInt8.mk ([63]) ([101,109,105,116]) ([111,112,101,110]) ([99,108,111,115,101]) ([118,111,105,100]) ([97,114,103]) ([110,117,109,98,101,114]) ([117,110,105,116]) ([100,97,116,101]) ([108,105,115,116]) ([115,119,105,116,99,104]) ([99,97,115,101]) ([106,117,109,112]) ([115,116,111,112]))) (f:=(fun x=>vs x)) (qae.own 5 rfl rfl) e79)) fun a E=>wn<|qar (cl1 (cq le_m10 ok [0,3,4,5,6] rfl) (cq le_m10 ok [0,3,4,5,6] rfl)) fun hT=>kt 6 E rfl hT (qaE rfl rfl e81) fun a E=>qaP [7] (by kernel_rfl) rfl (qaT ?_)
    ·refine qco (o:=_) rfl ?_
     replace ok:Ok u m10 ([(b22,oc 68 [c42,c44])] :: M45 :: [(b61,oc 47 [vi x48.Op,vi x48.A,vi x48.B,vs x48.S])] :: [(b15,Obj.cells cR.toArray 110 (0,0))] :: MR :: [(b6,oc 62 [(vs ([63])),(vs ([101,109,105,116])),(vs ([111,112,101,110])),(vs ([99,108,111,115,101])),(vs ([118,111,105,100])),(vs ([97,114,103])),(vs ([110,117,109,98,101,114])),(vs ([117,110,105,116])),(vs ([100,97,116,101])),(vs ([108,105,115,116])),(vs ([115,119,105,116,99,104])),(vs ([99,97,115,101])),(vs ([106,117,109,112])),(vs ([115,116,111,112]))])] :: [(b5,oc 28 [c1,c3])] :: S) w:=(ok.pk 7 [2,1,0,3,4,5,6] rfl (by decide))
     refine qaf E qiD rfl (qbB N s80 (qaV e81) (Builder.mk () v40.buf) h43 h46 e83 hG ok) rfl rfl ?_
     rintro _ w ⟨c92,c94,M95,⟨rfl,ok⟩,r91,h93,h96⟩
     refine ⟨_,rfl,fun a E=>?_⟩
     refine wn<|qar (cl1 (cq le_m10 ok [2,3,4,5,6] rfl) (cq le_m10 ok [2,3,4,5,6] rfl)) fun hT=>qbw (by kernel_rfl) ?_
     exact ⟨rfl,⟨c92,c94,M95,(ok.pk 7 [2,1,0,3,4,5,6] rfl (by decide)),E.keep [3,4,5,7,15,16,17],h93,h96⟩⟩
  refine wo rfl<|lv E ok (qaz qao rfl (qae.idx (xs:=Arr14_List_UInt8.list (Arr14_List_UInt8.mk ([63]) ([101,109,105,116]) ([111,112,101,110]) ([99,108,111,115,101]) ([118,111,105,100]) ([97,114,103]) ([110,117,109,98,101,114]) ([117,110,105,116]) ([100,97,116,101]) ([108,105,115,116]) ([115,119,105,116,99,104]) ([99,97,115,101]) ([106,117,109,112]) ([115,116,111,112]))) (f:=(fun x=>vs x)) (qae.own 5 rfl rfl) e79)) fun a E=>wn<|qar (cl1 (cq le_m10 ok [0,3,4,5,6] rfl) (cq le_m10 ok [0,3,4,5,6] rfl)) fun hT=>qaP [1] (by kernel_rfl) rfl (qaT ?_)
  ·refine wo rfl<|qaf E qj5 rfl (qev N v39 r41 e74 hG hTb ok) rfl rfl ?_
   rintro _ w ⟨⟨rfl,ok⟩,l97⟩
   refine ⟨_,rfl,fun a E=>?_⟩
   refine wn<|qar (cl1 (cq le_m10 ok [0,3,4,5,6] rfl) (cq le_m10 ok [0,3,4,5,6] rfl)) fun hT=>kt 2 E rfl hT (qaE rfl rfl e77) fun a E=>kt 6 E rfl hT (qaE rfl rfl e81) fun a E=>qaP [7] (by kernel_rfl) rfl (qaT ?_)
   ·refine qco (o:=_) rfl ?_
    replace ok:Ok u m10 ([(b22,oc 68 [c42,c44])] :: M45 :: [(b61,oc 47 [vi x48.Op,vi x48.A,vi x48.B,vs x48.S])] :: [(b15,Obj.cells cR.toArray 110 (0,0))] :: MR :: [(b6,oc 62 [(vs ([63])),(vs ([101,109,105,116])),(vs ([111,112,101,110])),(vs ([99,108,111,115,101])),(vs ([118,111,105,100])),(vs ([97,114,103])),(vs ([110,117,109,98,101,114])),(vs ([117,110,105,116])),(vs ([100,97,116,101])),(vs ([108,105,115,116])),(vs ([115,119,105,116,99,104])),(vs ([99,97,115,101])),(vs ([106,117,109,112])),(vs ([115,116,111,112]))])] :: [(b5,oc 28 [c1,c3])] :: S) w:=(ok.pk 7 [2,1,0,3,4,5,6] rfl (by decide))
    refine qaf E qiD rfl (qbB N s80 (qaV e81) (Builder.mk () v40.buf) h43 h46 e83 hG ok) rfl rfl ?_
    rintro _ w ⟨c99,c101,M102,⟨rfl,ok⟩,r98,h100,h103⟩
    refine ⟨_,rfl,fun a E=>?_⟩
    refine wn<|qar (cl1 (cq le_m10 ok [2,3,4,5,6] rfl) (cq le_m10 ok [2,3,4,5,6] rfl)) fun hT=>qbw (by kernel_rfl) ?_
    exact ⟨rfl,⟨c99,c101,M102,(ok.pk 7 [2,1,0,3,4,5,6] rfl (by decide)),E.keep [3,4,5,7,15,16,17],h100,h103⟩⟩
 intro e a w hO
 obtain ⟨rfl,c104,c106,M107,ok,E,h105,h108⟩:=hO
 refine qaa<|wp_seq<|sg<|fk E ok qhq qaq rfl 0 rfl rfl fun a E=>fk E ok qmv qaq rfl 0 rfl rfl fun a E=>qbt (R:=(pI .i64)) (xo:=[.tmp 41,.tmp 43]) (xs:=([x48.A,x48.B]:List (Int))) E ok qgJ qj9 rfl ⟨⟨_,rfl,rfl,(qdr r58)⟩,⟨_,rfl,rfl,(qdr r59)⟩,trivial⟩ rfl rfl rfl rfl fun c109 M110 a w E ok h111=>lv E ok (qd3 qgJ h111 rfl) fun a E=>mv E rfl fun a E=>wn<|wp_block<|bd hF fun o119 hL hF=>qa6 _ (fun (s:Int × Builder) a w=>∃ c121 c123 M124,Ok u m10 (M110 :: [(b61,oc 47 [vi x48.Op,vi x48.A,vi x48.B,vs x48.S])] :: M124 :: [(b22,oc 68 [c121,c123])] :: [(b15,Obj.cells cR.toArray 110 (0,0))] :: MR :: [(b6,oc 62 [(vs ([63])),(vs ([101,109,105,116])),(vs ([111,112,101,110])),(vs ([99,108,111,115,101])),(vs ([118,111,105,100])),(vs ([97,114,103])),(vs ([110,117,109,98,101,114])),(vs ([117,110,105,116])),(vs ([100,97,116,101])),(vs ([108,105,115,116])),(vs ([115,119,105,116,99,104])),(vs ([99,97,115,101])),(vs ([106,117,109,112])),(vs ([115,116,111,112]))])] :: [(b5,oc 28 [c1,c3])] :: S) w ∧ Env 70 a [(3,vp b6),(4,vp b15),(5,vp b22),(7,vp b61),(15,c3),(16,(vi (c_0.Ins.length:Int))),(17,vi v39),(44,c109),(45,(vi (([x48.A,x48.B]:List (Int)).length:Int))),(46,vi s.1)] ∧ InR .i64 s.1 ∧ BAd b22 c121 ∧ ORow 5 1 (pI .u8) m10 c123 s.2.buf M124) (fun (b:Builder) e a w=>e = (.exit 2) ∧ ∃ c173 c175 M176,Ok u m10 (M110 :: [(b61,oc 47 [vi x48.Op,vi x48.A,vi x48.B,vs x48.S])] :: M176 :: [(b22,oc 68 [c173,c175])] :: [(b15,Obj.cells cR.toArray 110 (0,0))] :: MR :: [(b6,oc 62 [(vs ([63])),(vs ([101,109,105,116])),(vs ([111,112,101,110])),(vs ([99,108,111,115,101])),(vs ([118,111,105,100])),(vs ([97,114,103])),(vs ([110,117,109,98,101,114])),(vs ([117,110,105,116])),(vs ([100,97,116,101])),(vs ([108,105,115,116])),(vs ([115,119,105,116,99,104])),(vs ([99,97,115,101])),(vs ([106,117,109,112])),(vs ([115,116,111,112]))])] :: [(b5,oc 28 [c1,c3])] :: S) w ∧ Env 70 a [(3,vp b6),(4,vp b15),(5,vp b22),(7,vp b61),(15,c3),(16,(vi (c_0.Ins.length:Int))),(17,vi v39)] ∧ BAd b22 c173 ∧ ORow 5 1 (pI .u8) m10 c175 b.buf M176) ?_ ?_ N _ a w hL ⟨c104,c106,M107,ok,E.keep [3,4,5,7,15,16,17,44,45,46],(ir 0),h105,h108⟩
 rotate_left
 ·intro e a w _ hO
  obtain ⟨rfl,c160,c162,M163,ok,E,h161,h164⟩:=hO
  refine qbf<|qaa<|wp_seq<|sg<|fk E ok qjL qao rfl 1 rfl rfl fun a E=>lw E (qcP rfl rfl) fun a E=>wn<|cf E rfl hF (fun c165 hF=>?_) fun c165 hF=>?_
  ·obtain ⟨oW,hJW,hF⟩:=bnd hF
   obtain ⟨rR,eR,hJW⟩:=bnd hJW
   obtain ⟨sA,eA,hJW⟩:=bnd hJW
   obtain ⟨sB,eB,hJW⟩:=bnd hJW
   obtain ⟨rW,eW,hJW⟩:=bnd hJW
   obtain rfl:=Option.some.inj hJW
   obtain ⟨rV,eV,hF⟩:=bnd hF
   replace ok:Ok u m10 ([(b22,oc 68 [c160,c162])] :: M163 :: M110 :: [(b61,oc 47 [vi x48.Op,vi x48.A,vi x48.B,vs x48.S])] :: [(b15,Obj.cells cR.toArray 110 (0,0))] :: MR :: [(b6,oc 62 [(vs ([63])),(vs ([101,109,105,116])),(vs ([111,112,101,110])),(vs ([99,108,111,115,101])),(vs ([118,111,105,100])),(vs ([97,114,103])),(vs ([110,117,109,98,101,114])),(vs ([117,110,105,116])),(vs ([100,97,116,101])),(vs ([108,105,115,116])),(vs ([115,119,105,116,99,104])),(vs ([99,97,115,101])),(vs ([106,117,109,112])),(vs ([115,116,111,112]))])] :: [(b5,oc 28 [c1,c3])] :: S) w:=(ok.pk 8 [3,2,0,1,4,5,6,7] rfl (by decide))
   refine qab<|mv E rfl fun a E=>fk E ok qjL qao rfl 3 rfl rfl fun a E=>?_
   replace ok:Ok u m10 ([(b15,Obj.cells cR.toArray 110 (0,0))] :: MR :: [(b22,oc 68 [c160,c162])] :: M163 :: M110 :: [(b61,oc 47 [vi x48.Op,vi x48.A,vi x48.B,vs x48.S])] :: [(b6,oc 62 [(vs ([63])),(vs ([101,109,105,116])),(vs ([111,112,101,110])),(vs ([99,108,111,115,101])),(vs ([118,111,105,100])),(vs ([97,114,103])),(vs ([110,117,109,98,101,114])),(vs ([117,110,105,116])),(vs ([100,97,116,101])),(vs ([108,105,115,116])),(vs ([115,119,105,116,99,104])),(vs ([99,97,115,101])),(vs ([106,117,109,112])),(vs ([115,116,111,112]))])] :: [(b5,oc 28 [c1,c3])] :: S) w:=(ok.pk 8 [4,5,0,1,2,3,6,7] rfl (by decide))
   refine qaf E qmq rfl (qlj hR N x48.S eR ok) rfl rfl ?_
   rintro _ w ⟨cR,MR,rfl,hR,ok⟩
   refine ⟨_,rfl,fun a E=>?_⟩
   refine lw E (qaE rfl rfl eA) fun a E=>lw E (qaE rfl rfl eB) fun a E=>?_
   replace ok:Ok u m10 ([(b22,oc 68 [c160,c162])] :: M163 :: [(b15,Obj.cells cR.toArray 110 (0,0))] :: MR :: M110 :: [(b61,oc 47 [vi x48.Op,vi x48.A,vi x48.B,vs x48.S])] :: [(b6,oc 62 [(vs ([63])),(vs ([101,109,105,116])),(vs ([111,112,101,110])),(vs ([99,108,111,115,101])),(vs ([118,111,105,100])),(vs ([97,114,103])),(vs ([110,117,109,98,101,114])),(vs ([117,110,105,116])),(vs ([100,97,116,101])),(vs ([108,105,115,116])),(vs ([115,119,105,116,99,104])),(vs ([99,97,115,101])),(vs ([106,117,109,112])),(vs ([115,116,111,112]))])] :: [(b5,oc 28 [c1,c3])] :: S) w:=(ok.pk 8 [2,3,0,1,4,5,6,7] rfl (by decide))
   refine qaf E qiD rfl (qbB N sB (qaV eB) (Builder.mk () o119.buf) h161 h164 eW hG ok) rfl rfl ?_
   rintro _ w ⟨cW1,cW2,MW,⟨rfl,ok⟩,rW1,hW1,hW2⟩
   refine ⟨_,rfl,fun a E=>?_⟩
   refine wn<|qab<|qaf E qiP rfl (qbJ N 10 (show InR .u8 (10) by decide) (Builder.mk () rW.2.2.buf) hW1 hW2 eV hG ok) rfl rfl ?_
   rintro _ w ⟨cV1,cV2,MV,⟨rfl,ok⟩,hV1,hV2⟩
   refine ⟨_,rfl,fun a E=>?_⟩
   refine wpList_nil<|qag<|qaa<|qab<|lw E (qaC rfl rfl (InR.inc r41 (qas h4) c47)) fun a E=>mv E rfl fun a E=>wpList_nil ?_
   cases hF
   exact qat ⟨cR,MR,cV1,cV2,MV,hR,(ok.pk 8 [1,0,2,3,6,7] rfl (by decide)),E.keep [3,4,5,15,16,17],(InR.inc r41 (qas h4) c47),hV1,hV2⟩
  refine wp_skip<|qaa<|qab ?_
  obtain ⟨r166,e167,hF⟩:=bnd hF
  replace ok:Ok u m10 ([(b22,oc 68 [c160,c162])] :: M163 :: M110 :: [(b61,oc 47 [vi x48.Op,vi x48.A,vi x48.B,vs x48.S])] :: [(b15,Obj.cells cR.toArray 110 (0,0))] :: MR :: [(b6,oc 62 [(vs ([63])),(vs ([101,109,105,116])),(vs ([111,112,101,110])),(vs ([99,108,111,115,101])),(vs ([118,111,105,100])),(vs ([97,114,103])),(vs ([110,117,109,98,101,114])),(vs ([117,110,105,116])),(vs ([100,97,116,101])),(vs ([108,105,115,116])),(vs ([115,119,105,116,99,104])),(vs ([99,97,115,101])),(vs ([106,117,109,112])),(vs ([115,116,111,112]))])] :: [(b5,oc 28 [c1,c3])] :: S) w:=(ok.pk 8 [3,2,0,1,4,5,6,7] rfl (by decide))
  refine qaf E qiP rfl (qbJ N 10 (show InR .u8 (10) by decide) (Builder.mk () o119.buf) h161 h164 e167 hG ok) rfl rfl ?_
  rintro _ w ⟨c168,c170,M171,⟨rfl,ok⟩,h169,h172⟩
  refine ⟨_,rfl,fun a E=>?_⟩
  refine wpList_nil<|qag<|qaa<|qab<|lw E (qaC rfl rfl (InR.inc r41 (qas h4) c47)) fun a E=>mv E rfl fun a E=>wpList_nil ?_
  cases hF
  exact qat ⟨cR,MR,c168,c170,M171,hR,(ok.pk 8 [1,0,4,5,6,7] rfl (by decide)),E.keep [3,4,5,15,16,17],(InR.inc r41 (qas h4) c47),h169,h172⟩
 rintro ⟨v126,v127⟩ a w r ⟨c129,c131,M132,ok,E,r128,h130,h133⟩ hF
 replace hF:qch N x48 v126 v127 = some r:=hF
 unfold qch at hF
 refine sg<|lw E (qaS rfl rfl) fun a E=>wn<|wp_seq<|cg E rfl hF (fun c134 hF=>?_) fun c134 hF=>?_
 ·refine wp_exit<|qaX ?_
  cases hF
  exact so (⟨rfl,⟨c129,c131,M132,ok,E.keep [3,4,5,7,15,16,17],h130,h133⟩⟩)
 refine wp_skip<|qaa<|wp_seq<|wp_block<|sg ?_
 obtain ⟨x135,e136,hF⟩:=bnd hF
 obtain ⟨b137,o138,hp139,yy140⟩:=qe4 qgJ h111 e136 (P:=Tryz.prog) (X:=.tmp 44) (I:=.tmp 46) (kd:=.i64) (qbQ E rfl) (qbQ E rfl)
 refine lv E ok (yy140 _ _) fun a E=>?_
 obtain ⟨es141,hl142,rr143,hh144⟩:=qf5 h111 e136 hp139 (by decide)
 obtain ⟨rfl,r145⟩:=rr143
 refine lv E ok (qaz qaq rfl (hh144 _ _ _ 0 rfl)) fun a E=>aw E rfl fun a E=>sg<|mv E rfl fun a E=>lw E (qbj rfl rfl) fun a E=>wn<|cg E rfl hF (fun c146 hF=>?_) fun c146 hF=>?_
 ·refine wp_skip<|qag<|qaa<|qab<|lw E (qaC rfl rfl (InR.inc r128 (ORow.InR h111) c134)) fun a E=>mv E rfl fun a E=>wpList_nil ?_
  cases hF
  exact qat ⟨c129,c131,M132,ok,E.keep [3,4,5,7,15,16,17,44,45,46],(InR.inc r128 (ORow.InR h111) c134),h130,h133⟩
 refine qab<|mv E rfl fun a E=>bd hF fun r147 e148 hF=>qaf E qj5 rfl (qev N x135 r145 e148 hG hTb ok) rfl rfl ?_
 rintro _ w ⟨⟨rfl,ok⟩,l149⟩
 refine ⟨_,rfl,fun a E=>?_⟩
 refine bd hF fun s150 e151 hF=>lw E (qaE rfl rfl e151) fun a E=>?_
 obtain ⟨r152,e153,hF⟩:=bnd hF
 replace ok:Ok u m10 ([(b22,oc 68 [c129,c131])] :: M132 :: M110 :: [(b61,oc 47 [vi x48.Op,vi x48.A,vi x48.B,vs x48.S])] :: [(b15,Obj.cells cR.toArray 110 (0,0))] :: MR :: [(b6,oc 62 [(vs ([63])),(vs ([101,109,105,116])),(vs ([111,112,101,110])),(vs ([99,108,111,115,101])),(vs ([118,111,105,100])),(vs ([97,114,103])),(vs ([110,117,109,98,101,114])),(vs ([117,110,105,116])),(vs ([100,97,116,101])),(vs ([108,105,115,116])),(vs ([115,119,105,116,99,104])),(vs ([99,97,115,101])),(vs ([106,117,109,112])),(vs ([115,116,111,112]))])] :: [(b5,oc 28 [c1,c3])] :: S) w:=(ok.pk 8 [3,2,0,1,4,5,6,7] rfl (by decide))
 refine qaf E qiD rfl (qbB N s150 (qaV e151) (Builder.mk () v127.buf) h130 h133 e153 hG ok) rfl rfl ?_
 rintro _ w ⟨c155,c157,M158,⟨rfl,ok⟩,r154,h156,h159⟩
 refine ⟨_,rfl,fun a E=>?_⟩
 refine wpList_nil<|qag<|qaa<|qab<|lw E (qaC rfl rfl (InR.inc r128 (ORow.InR h111) c134)) fun a E=>mv E rfl fun a E=>wpList_nil ?_
 cases hF
 exact qat ⟨c155,c157,M158,(ok.pk 8 [2,3,1,0,4,5,6,7] rfl (by decide)),E.keep [3,4,5,7,15,16,17,44,45,46],(InR.inc r128 (ORow.InR h111) c134),h156,h159⟩
end Go.Proofs.YtllnjbnknjpbjaaGreatDoor
namespace Go.Proofs.YtllnjbnknjpbjaaGreatDoor
open Go.X
variable {u:World} {m0:Mem} {S:Segs} {w:World}
set_option maxHeartbeats 4000000
set_option maxRecDepth 100000
def ql4:Rp Number2:=fun _ cs x=>cs = [.bool x.Neg,.string (bs x.Whole),.string (bs x.Frac)] ∧ x.Whole.length ≤ LIMS ∧ x.Frac.length ≤ LIMS
theorem qbv:aggB Tryz.prog 173 3 = true:=by kernel_rfl
theorem qhu:qaO Tryz.prog 173 0 0 = true:=by kernel_rfl
theorem qcH:qaO Tryz.prog 173 1 1 = true:=by kernel_rfl
theorem qdf:qaO Tryz.prog 173 2 2 = true:=by kernel_rfl
theorem qpb:goB Tryz.prog 104 = true:=by kernel_rfl
theorem qpi:goB Tryz.prog 105 = true:=by kernel_rfl
theorem qnb:goB Tryz.prog 128 = true:=by kernel_rfl
theorem qkk:goB Tryz.prog 129 = true:=by kernel_rfl
theorem qmP:goB Tryz.prog 43 = true:=by kernel_rfl
theorem qlv:goB Tryz.prog 44 = true:=by kernel_rfl
theorem qlr:goB Tryz.prog 45 = true:=by kernel_rfl
theorem qjI:goB Tryz.prog 47 = true:=by kernel_rfl
theorem qe3:goB Tryz.prog 59 = true:=by kernel_rfl
theorem qjM:goB Tryz.prog 60 = true:=by kernel_rfl
theorem qpP:goB Tryz.prog 62 = true:=by kernel_rfl
theorem qlC:goB Tryz.prog 75 = true:=by kernel_rfl
theorem qoi:goB Tryz.prog 76 = true:=by kernel_rfl
theorem qqa:goB Tryz.prog 77 = true:=by kernel_rfl
theorem qqc:goB Tryz.prog 78 = true:=by kernel_rfl
theorem qlF:goB Tryz.prog 79 = true:=by kernel_rfl
theorem qhh:goB Tryz.prog 80 = true:=by kernel_rfl
theorem qbS:∃ i,Tryz.prog.info? 173 = some i ∧ i.size = 3:=⟨_,rfl,by kernel_rfl⟩
theorem qpY:∃ i,Tryz.prog.info? 4 = some i ∧ i.size = 1:=⟨_,rfl,by kernel_rfl⟩
theorem qlx:oneB Tryz.prog 4 = true:=by kernel_rfl
theorem qbW:qdz Tryz.prog 173 = some [(0,1),(1,1),(2,1)]:=by kernel_rfl
theorem qb7:qbX Tryz.prog 173 = some [vb false,(vs ([])),(vs ([]))]:=by kernel_rfl
def qhK (u:World) (m0:Mem) (S:Segs) (r:Bool) (a:Act) (w:World):Prop :=
 Ok u m0 S w ∧ a.defers = [] ∧ RVs Tryz.prog a w [.t 4 (.bool r)]
theorem qeX (N:Nat) (vl_0:Value) (l_0:List (List UInt8)) (hl_0:(pL 1 pS) m0 [vl_0] l_0) (s_1:List UInt8) (ls_1:s_1.length ≤ LIMS) {r:Bool} (hF:qec N l_0 s_1 = some r) (hG:Glob u) (ok:Ok u m0 S w) :
  Calls Tryz.prog 44 [vl_0,vs s_1].toArray w fun e w'=>(e = .returned (.bool r) ∧ Ok u m0 S w'):=by
 unfold qec at hF
 refine en (qhK u m0 S) r Tryz.func44 rfl rfl rfl (fun _ _ h=>ra h rfl) fun fin a E=>sg<|aw E rfl fun a E=>wp_seq<|sg<|aw E rfl fun a E=>wp_block<|bd hF fun o2 hL hF=>qa6 _ (fun (s:Int) a w=>Ok u m0 (S) w ∧ Env 18 a [(0,vl_0),(1,vs s_1),(5,vi s)] ∧ InR .i64 s) (fun (b:(Unit ⊕ Bool)) e a w=>(Sum.elim (fun b18=>e = (.exit 0) ∧ Ok u m0 (S) w ∧ Env 18 a []) (fun b19=>e = .ret ∧ qhK u m0 S b19 a w)) b) ?_ ?_ N _ a w hL ⟨ok,E.keep [0,1,5],(ir 0)⟩
 rotate_left
 ·intro e a w _ hO
  rcases o2 with o2 | o2
  rotate_left
  ·obtain ⟨rfl,hret⟩:=hO
   refine qaL<|qam ?_
   exact fin hF hret
  have hF:=qb4 hF
  obtain ⟨rfl,ok,E⟩:=hO
  refine qbf<|qaa<|sg<|aw E rfl fun a E=>wp_ret ?_
  exact fin hF ⟨ok,E.d,rz E rfl⟩
 rintro v4 a w r ⟨ok,E,r5⟩ hF
 replace hF:qfO N l_0 s_1 v4 = some r:=hF
 unfold qfO at hF
 refine wp_seq<|sg<|mz E rfl rfl fun a E=>lv E ok (qbb qbx hl_0 rfl) fun a E=>lw E (qaS rfl rfl) fun a E=>wn<|cg E rfl hF (fun c6 hF=>?_) fun c6 hF=>?_
 ·refine wp_exit<|qaX ?_
  cases hF
  exact so (sl ⟨rfl,⟨ok,E.keep []⟩⟩)
 refine wp_skip<|qaa<|wp_seq<|wp_block<|sg<|mz E rfl rfl fun a E=>?_
 obtain ⟨x7,e8,hF⟩:=bnd hF
 obtain ⟨b9,o10,es11,hl12,rr13,at14,yy15⟩:=ia E 12 13 qbx hl_0 e8
 obtain ⟨rfl,l16⟩:=rr13
 refine lv E ok (yy15 _ _) fun a E=>lv E ok (qaz qao rfl (qae.ro at14)) fun a E=>mv E rfl fun a E=>lw E (qbm rfl rfl) fun a E=>wn<|cg E rfl hF (fun c17 hF=>?_) fun c17 hF=>?_
 ·refine wp_skip<|qag<|qaa<|qab<|mv E rfl fun a E=>lw E (qaC rfl rfl (InR.inc r5 (qas hl_0) c6)) fun a E=>av E rfl fun a E=>wpList_nil ?_
  cases hF
  exact qat ⟨ok,E.keep [0,1,5],(InR.inc r5 (qas hl_0) c6)⟩
 refine sg<|aw E rfl fun a E=>wp_ret<|qaL<|qam ?_
 cases hF
 exact so (sr ⟨rfl,⟨ok,E.d,rz E rfl⟩⟩)
def qhZ (u:World) (m0:Mem) (S:Segs) (r:Bool) (a:Act) (w:World):Prop :=
 Ok u m0 S w ∧ a.defers = [] ∧ RVs Tryz.prog a w [.t 2 (.bool r)]
theorem qem (N:Nat) (kind_0:Int) (rkind_0:InR .i64 kind_0) {r:Bool} (hF:qc1 N kind_0 = some r) (hG:Glob u) (ok:Ok u m0 S w) :
  Calls Tryz.prog 43 [vi kind_0].toArray w fun e w'=>(e = .returned (.bool r) ∧ Ok u m0 S w'):=by
 unfold qc1 at hF
 refine en (qhZ u m0 S) r Tryz.func43 rfl rfl rfl (fun _ _ h=>ra h rfl) fun fin a E=>sg<|aw E rfl fun a E=>sg<|mv E rfl fun a E=>lw E (qap rfl rfl) fun a E=>mv E rfl fun a E=>bu E 5 hF (fun c1 hF E=>?_) fun c1 hF E=>?_
 ·refine lsq E fun a E=>pt E rfl rfl fun a E=>mv E rfl fun a E=>lsq E fun a E=>pt E rfl rfl fun a E=>av E rfl fun a E=>wn<|wp_ret ?_
  exact fin hF ⟨ok,E.d,rz E rfl⟩
 refine mv E rfl fun a E=>lw E (qap rfl rfl) fun a E=>pf E rfl rfl fun a E=>mv E rfl fun a E=>bu E 9 hF (fun c2 hF E=>?_) fun c2 hF E=>?_
 ·refine lsq E fun a E=>pt E rfl rfl fun a E=>aw E rfl fun a E=>wp_ret ?_
  exact fin hF ⟨ok,E.d,rz E rfl⟩
 refine mv E rfl fun a E=>lw E (qap rfl rfl) fun a E=>pf E rfl rfl fun a E=>aw E rfl fun a E=>wp_ret ?_
 exact fin hF ⟨ok,E.d,rz E rfl⟩
def qio (u:World) (m0:Mem) (S:Segs) (r:Bool) (a:Act) (w:World):Prop :=
 Ok u m0 S w ∧ a.defers = [] ∧ RVs Tryz.prog a w [.t 2 (.bool r)]
theorem qdU (N:Nat) (kind_0:Int) (rkind_0:InR .i64 kind_0) {r:Bool} (hF:qcL N kind_0 = some r) (hG:Glob u) (ok:Ok u m0 S w) :
  Calls Tryz.prog 45 [vi kind_0].toArray w fun e w'=>(e = .returned (.bool r) ∧ Ok u m0 S w'):=by
 unfold qcL at hF
 refine en (qio u m0 S) r Tryz.func45 rfl rfl rfl (fun _ _ h=>ra h rfl) fun fin a E=>sg<|aw E rfl fun a E=>sg<|mv E rfl fun a E=>lw E (qap rfl rfl) fun a E=>mv E rfl fun a E=>bu E 5 hF (fun c1 hF E=>?_) fun c1 hF E=>?_
 ·refine lsq E fun a E=>pt E rfl rfl fun a E=>aw E rfl fun a E=>wp_ret ?_
  exact fin hF ⟨ok,E.d,rz E rfl⟩
 refine mv E rfl fun a E=>lw E (qap rfl rfl) fun a E=>pf E rfl rfl fun a E=>aw E rfl fun a E=>wp_ret ?_
 exact fin hF ⟨ok,E.d,rz E rfl⟩
def qi9 (u:World) (m0:Mem) (S:Segs) (r:Bool) (a:Act) (w:World):Prop :=
 Ok u m0 S w ∧ a.defers = [] ∧ RVs Tryz.prog a w [.t 2 (.bool r)]
theorem qgu (N:Nat) (c_0:Int) (rc_0:InR .u8 c_0) {r:Bool} (hF:qeE N c_0 = some r) (hG:Glob u) (ok:Ok u m0 S w) :
  Calls Tryz.prog 76 [Value.int .u8 c_0].toArray w fun e w'=>(e = .returned (.bool r) ∧ Ok u m0 S w'):=by
 unfold qeE at hF
 refine en (qi9 u m0 S) r Tryz.func76 rfl rfl rfl (fun _ _ h=>ra h rfl) fun fin a E=>sg<|aw E rfl fun a E=>sg<|mv E rfl fun a E=>lw E (qbK rfl rfl) fun a E=>mv E rfl fun a E=>bu E 5 hF (fun c1 hF E=>?_) fun c1 hF E=>?_
 ·refine mv E rfl fun a E=>lw E (qcC rfl rfl) fun a E=>pt E rfl rfl fun a E=>aw E rfl fun a E=>wp_ret ?_
  exact fin hF ⟨ok,E.d,rz E rfl⟩
 refine lsq E fun a E=>pf E rfl rfl fun a E=>aw E rfl fun a E=>wp_ret ?_
 exact fin hF ⟨ok,E.d,rz E rfl⟩
def qiy (u:World) (m0:Mem) (S:Segs) (r:Bool) (a:Act) (w:World):Prop :=
 Ok u m0 S w ∧ a.defers = [] ∧ RVs Tryz.prog a w [.t 2 (.bool r)]
theorem qiT (N:Nat) (c_0:Int) (rc_0:InR .u8 c_0) {r:Bool} (hF:qft N c_0 = some r) (hG:Glob u) (ok:Ok u m0 S w) :
  Calls Tryz.prog 104 [Value.int .u8 c_0].toArray w fun e w'=>(e = .returned (.bool r) ∧ Ok u m0 S w'):=by
 unfold qft at hF
 refine en (qiy u m0 S) r Tryz.func104 rfl rfl rfl (fun _ _ h=>ra h rfl) fun fin a E=>sg<|aw E rfl fun a E=>sg<|mv E rfl fun a E=>bd hF fun r1 e2 hF=>lc E qoi rfl (qgu N c_0 rc_0 e2 hG ok) fun w ok a E=>mv E rfl fun a E=>qbr r1 (fun c3=>?_) (fun c3=>?_)
 ·have hF:=qbo c3 hF
  have E:=E.upd 5 c3 rfl
  refine lsz E fun a E=>lsq E fun a E=>pt E rfl rfl fun a E=>av E rfl fun a E=>wn<|wp_ret ?_
  exact fin hF ⟨ok,E.d,rz E rfl⟩
 have hF:=qbn c3 hF
 have E:=E.upd 5 c3 rfl
 refine mv E rfl fun a E=>lw E (qbK rfl rfl) fun a E=>mv E rfl fun a E=>bu E 8 hF (fun c4 hF E=>?_) fun c4 hF E=>?_
 ·refine mv E rfl fun a E=>lw E (qcC rfl rfl) fun a E=>pt E rfl rfl fun a E=>pf E rfl rfl fun a E=>aw E rfl fun a E=>wp_ret ?_
  exact fin hF ⟨ok,E.d,rz E rfl⟩
 refine lsq E fun a E=>pf E rfl rfl fun a E=>pf E rfl rfl fun a E=>aw E rfl fun a E=>wp_ret ?_
 exact fin hF ⟨ok,E.d,rz E rfl⟩
def qjf (u:World) (m0:Mem) (S:Segs) (r:Bool) (a:Act) (w:World):Prop :=
 Ok u m0 S w ∧ a.defers = [] ∧ RVs Tryz.prog a w [.t 2 (.bool r)]
theorem qej (N:Nat) (c_0:Int) (rc_0:InR .u8 c_0) {r:Bool} (hF:qdh N c_0 = some r) (hG:Glob u) (ok:Ok u m0 S w) :
  Calls Tryz.prog 75 [Value.int .u8 c_0].toArray w fun e w'=>(e = .returned (.bool r) ∧ Ok u m0 S w'):=by
 unfold qdh at hF
 refine en (qjf u m0 S) r Tryz.func75 rfl rfl rfl (fun _ _ h=>ra h rfl) fun fin a E=>sg<|aw E rfl fun a E=>sg<|mv E rfl fun a E=>bd hF fun r1 e2 hF=>lc E qpb rfl (qiT N c_0 rc_0 e2 hG ok) fun w ok a E=>mv E rfl fun a E=>qbr r1 (fun c3=>?_) (fun c3=>?_)
 ·have hF:=qbo c3 hF
  have E:=E.upd 5 c3 rfl
  refine lsz E fun a E=>lsq E fun a E=>pt E rfl rfl fun a E=>mv E rfl fun a E=>lsq E fun a E=>pt E rfl rfl fun a E=>mv E rfl fun a E=>lsq E fun a E=>pt E rfl rfl fun a E=>av E rfl fun a E=>?_
  refine wn<|wp_ret ?_
  exact fin hF ⟨ok,E.d,rz E rfl⟩
 have hF:=qbn c3 hF
 have E:=E.upd 5 c3 rfl
 refine mv E rfl fun a E=>lw E (qbK rfl rfl) fun a E=>mv E rfl fun a E=>bw E 8 hF (fun c4 hF E=>?_) fun c4 hF E=>?_
 ·refine lsq E fun a E=>pf E rfl rfl fun a E=>pf E rfl rfl fun a E=>mz E rfl rfl fun a E=>lw E (qap rfl rfl) fun a E=>pf E rfl rfl fun a E=>mv E rfl fun a E=>bu E 17 hF (fun c7 hF E=>?_) fun c7 hF E=>?_
  ·refine lsq E fun a E=>pt E rfl rfl fun a E=>aw E rfl fun a E=>wp_ret ?_
   exact fin hF ⟨ok,E.d,rz E rfl⟩
  refine mv E rfl fun a E=>lw E (qap rfl rfl) fun a E=>pf E rfl rfl fun a E=>aw E rfl fun a E=>wp_ret ?_
  exact fin hF ⟨ok,E.d,rz E rfl⟩
 refine mv E rfl fun a E=>lw E (qcC rfl rfl) fun a E=>pt E rfl rfl fun a E=>pf E rfl rfl fun a E=>mv E rfl fun a E=>bu E 13 hF (fun c5 hF E=>?_) fun c5 hF E=>?_
 ·refine lsq E fun a E=>pt E rfl rfl fun a E=>mv E rfl fun a E=>lsq E fun a E=>pt E rfl rfl fun a E=>av E rfl fun a E=>wn<|wp_ret ?_
  exact fin hF ⟨ok,E.d,rz E rfl⟩
 refine mv E rfl fun a E=>lw E (qap rfl rfl) fun a E=>pf E rfl rfl fun a E=>mv E rfl fun a E=>bu E 17 hF (fun c6 hF E=>?_) fun c6 hF E=>?_
 ·refine lsq E fun a E=>pt E rfl rfl fun a E=>aw E rfl fun a E=>wp_ret ?_
  exact fin hF ⟨ok,E.d,rz E rfl⟩
 refine mv E rfl fun a E=>lw E (qap rfl rfl) fun a E=>pf E rfl rfl fun a E=>aw E rfl fun a E=>wp_ret ?_
 exact fin hF ⟨ok,E.d,rz E rfl⟩
def qgX (u:World) (m0:Mem) (S:Segs) (r:Bool) (a:Act) (w:World):Prop :=
 Ok u m0 S w ∧ a.defers = [] ∧ RVs Tryz.prog a w [.t 2 (.bool r)]
theorem qbe (N:Nat) (s_0:List UInt8) (ls_0:s_0.length ≤ LIMS) {r:Bool} (hF:qbd N s_0 = some r) (hG:Glob u) (ok:Ok u m0 S w) :
  Calls Tryz.prog 59 [vs s_0].toArray w fun e w'=>(e = .returned (.bool r) ∧ Ok u m0 S w'):=by
 unfold qbd at hF
 refine en (qgX u m0 S) r Tryz.func59 rfl rfl rfl (fun _ _ h=>ra h rfl) fun fin a E=>sg<|aw E rfl fun a E=>wp_seq<|sg<|aw E rfl fun a E=>wp_block<|bd hF fun o2 hL hF=>qa6 _ (fun (s:Int) a w=>Ok u m0 (S) w ∧ Env 28 a [(0,vs s_0),(3,vi s)] ∧ InR .i64 s) (fun (b:(Unit ⊕ Bool)) e a w=>(Sum.elim (fun b18=>e = (.exit 0) ∧ Ok u m0 (S) w ∧ Env 28 a [(0,vs s_0)]) (fun b19=>e = .ret ∧ qgX u m0 S b19 a w)) b) ?_ ?_ N _ a w hL ⟨ok,E.keep [0,3],(ir 0)⟩
 ·rintro v4 a w r ⟨ok,E,r5⟩ hF
  replace hF:qe9 N s_0 v4 = some r:=hF
  unfold qe9 at hF
  refine wp_seq<|sg<|mz E rfl rfl fun a E=>lw E (qaJ Tryz.underlying9 rfl) fun a E=>lw E (qaS rfl rfl) fun a E=>wn<|cg E rfl hF (fun c6 hF=>?_) fun c6 hF=>?_
  ·refine wp_exit<|qaX ?_
   cases hF
   exact so (sl ⟨rfl,⟨ok,E.keep [0]⟩⟩)
  refine wp_skip<|qaa<|wp_seq<|wp_block<|sg<|mz E rfl rfl fun a E=>bd hF fun c7 e8 hF=>lv E ok (qaD Tryz.underlying9 rfl rfl e8) fun a E=>bd hF fun r9 e10 hF=>lc E qlC rfl (qej N (c7.toNat:Int) (InR.byte c7) e10 hG ok) fun w ok a E=>lw E (qbh rfl) fun a E=>wn<|cg E rfl hF (fun c11 hF=>?_) fun c11 hF=>?_
  ·refine wp_skip<|qag<|qaa<|qab<|mv E rfl fun a E=>lw E (qaC rfl rfl (InR.inc r5 (InR.len ls_0) c6)) fun a E=>av E rfl fun a E=>wpList_nil ?_
   cases hF
   exact qat ⟨ok,E.keep [0,3],(InR.inc r5 (InR.len ls_0) c6)⟩
  refine sg<|aw E rfl fun a E=>wp_ret<|qaL<|qam ?_
  cases hF
  exact so (sr ⟨rfl,⟨ok,E.d,rz E rfl⟩⟩)
 intro e a w _ hO
 rcases o2 with o2 | o2
 rotate_left
 ·obtain ⟨rfl,hret⟩:=hO
  refine qaL<|qam ?_
  exact fin hF hret
 have hF:=qb4 hF
 obtain ⟨rfl,ok,E⟩:=hO
 refine qbf<|qaa<|sg<|mv E rfl fun a E=>lw E (qaJ Tryz.underlying9 rfl) fun a E=>lw E (qbK rfl rfl) fun a E=>mv E rfl fun a E=>bw E 18 hF (fun c12 hF E=>?_) fun c12 hF E=>?_
 ·refine lsq E fun a E=>ls E fun a E=>pf E rfl rfl fun a E=>mv E rfl fun a E=>lsq E fun a E=>ls E fun a E=>pf E rfl rfl fun a E=>aw E rfl fun a E=>wp_ret ?_
  exact fin hF ⟨ok,E.d,rz E rfl⟩
 refine mv E rfl fun a E=>lw E (qaJ Tryz.underlying9 rfl) fun a E=>lw E (qcC rfl rfl) fun a E=>pt E rfl rfl fun a E=>mv E rfl fun a E=>bw E 23 hF (fun c13 hF E=>?_) fun c13 hF E=>?_
 ·refine lsq E fun a E=>ls E fun a E=>pf E rfl rfl fun a E=>aw E rfl fun a E=>wp_ret ?_
  exact fin hF ⟨ok,E.d,rz E rfl⟩
 refine mv E rfl fun a E=>bd hF fun c14 e15 hF=>lv E ok (qaD Tryz.underlying9 rfl rfl e15) fun a E=>bd hF fun r16 e17 hF=>lc E qoi rfl (qgu N (c14.toNat:Int) (InR.byte c14) e17 hG ok) fun w ok a E=>pt E rfl rfl fun a E=>aw E rfl fun a E=>wp_ret ?_
 exact fin hF ⟨ok,E.d,rz E rfl⟩
def qja (u:World) (m0:Mem) (S:Segs) (r:Bool) (a:Act) (w:World):Prop :=
 Ok u m0 S w ∧ a.defers = [] ∧ RVs Tryz.prog a w [.t 2 (.bool r)]
theorem qi7 (N:Nat) (s_0:List UInt8) (ls_0:s_0.length ≤ LIMS) {r:Bool} (hF:qfM N s_0 = some r) (hG:Glob u) (ok:Ok u m0 S w) :
  Calls Tryz.prog 77 [vs s_0].toArray w fun e w'=>(e = .returned (.bool r) ∧ Ok u m0 S w'):=by
 unfold qfM at hF
 refine en (qja u m0 S) r Tryz.func77 rfl rfl rfl (fun _ _ h=>ra h rfl) fun fin a E=>sg<|aw E rfl fun a E=>sg<|mv E rfl fun a E=>lw E (qbm rfl rfl) fun a E=>mv E rfl fun a E=>bu E 5 hF (fun c1 hF E=>?_) fun c1 hF E=>?_
 ·refine lsq E fun a E=>pt E rfl rfl fun a E=>mv E rfl fun a E=>lsq E fun a E=>pt E rfl rfl fun a E=>mv E rfl fun a E=>lsq E fun a E=>pt E rfl rfl fun a E=>mv E rfl fun a E=>lsq E fun a E=>pt E rfl rfl fun a E=>mv E rfl fun a E=>?_
  refine lsq E fun a E=>pt E rfl rfl fun a E=>aw E rfl fun a E=>wp_ret ?_
  exact fin hF ⟨ok,E.d,rz E rfl⟩
 refine mv E rfl fun a E=>lw E (qbm rfl rfl) fun a E=>pf E rfl rfl fun a E=>mv E rfl fun a E=>bu E 9 hF (fun c2 hF E=>?_) fun c2 hF E=>?_
 ·refine lsq E fun a E=>pt E rfl rfl fun a E=>mv E rfl fun a E=>lsq E fun a E=>pt E rfl rfl fun a E=>mv E rfl fun a E=>lsq E fun a E=>pt E rfl rfl fun a E=>mv E rfl fun a E=>lsq E fun a E=>pt E rfl rfl fun a E=>av E rfl fun a E=>?_
  refine wn<|wp_ret ?_
  exact fin hF ⟨ok,E.d,rz E rfl⟩
 refine mv E rfl fun a E=>lw E (qbm rfl rfl) fun a E=>pf E rfl rfl fun a E=>mv E rfl fun a E=>bu E 13 hF (fun c3 hF E=>?_) fun c3 hF E=>?_
 ·refine lsq E fun a E=>pt E rfl rfl fun a E=>mv E rfl fun a E=>lsq E fun a E=>pt E rfl rfl fun a E=>mv E rfl fun a E=>lsq E fun a E=>pt E rfl rfl fun a E=>aw E rfl fun a E=>wp_ret ?_
  exact fin hF ⟨ok,E.d,rz E rfl⟩
 refine mv E rfl fun a E=>lw E (qbm rfl rfl) fun a E=>pf E rfl rfl fun a E=>mv E rfl fun a E=>bu E 17 hF (fun c4 hF E=>?_) fun c4 hF E=>?_
 ·refine lsq E fun a E=>pt E rfl rfl fun a E=>mv E rfl fun a E=>lsq E fun a E=>pt E rfl rfl fun a E=>av E rfl fun a E=>wn<|wp_ret ?_
  exact fin hF ⟨ok,E.d,rz E rfl⟩
 refine mv E rfl fun a E=>lw E (qbm rfl rfl) fun a E=>pf E rfl rfl fun a E=>mv E rfl fun a E=>bu E 21 hF (fun c5 hF E=>?_) fun c5 hF E=>?_
 ·refine lsq E fun a E=>pt E rfl rfl fun a E=>aw E rfl fun a E=>wp_ret ?_
  exact fin hF ⟨ok,E.d,rz E rfl⟩
 refine mv E rfl fun a E=>lw E (qbm rfl rfl) fun a E=>pf E rfl rfl fun a E=>aw E rfl fun a E=>wp_ret ?_
 exact fin hF ⟨ok,E.d,rz E rfl⟩
def qgf (u:World) (m0:Mem) (S:Segs) (r:Bool) (a:Act) (w:World):Prop :=
 Ok u m0 S w ∧ a.defers = [] ∧ RVs Tryz.prog a w [.t 2 (.bool r)]
theorem qgc (N:Nat) (s_0:List UInt8) (ls_0:s_0.length ≤ LIMS) {r:Bool} (hF:qey N s_0 = some r) (hG:Glob u) (ok:Ok u m0 S w) :
  Calls Tryz.prog 128 [vs s_0].toArray w fun e w'=>(e = .returned (.bool r) ∧ Ok u m0 S w'):=by
 unfold qey at hF
 refine en (qgf u m0 S) r Tryz.func128 rfl rfl rfl (fun _ _ h=>ra h rfl) fun fin a E=>sg<|aw E rfl fun a E=>wp_seq<|sg<|aw E rfl fun a E=>wp_block<|bd hF fun o2 hL hF=>qa6 _ (fun (s:Int) a w=>Ok u m0 (S) w ∧ Env 20 a [(0,vs s_0),(3,vi s)] ∧ InR .i64 s) (fun (b:(Unit ⊕ Bool)) e a w=>(Sum.elim (fun b13=>e = (.exit 0) ∧ Ok u m0 (S) w ∧ Env 20 a []) (fun b14=>e = .ret ∧ qgf u m0 S b14 a w)) b) ?_ ?_ N _ a w hL ⟨ok,E.keep [0,3],(ir 0)⟩
 rotate_left
 ·intro e a w _ hO
  rcases o2 with o2 | o2
  rotate_left
  ·obtain ⟨rfl,hret⟩:=hO
   refine qaL<|qam ?_
   exact fin hF hret
  have hF:=qb4 hF
  obtain ⟨rfl,ok,E⟩:=hO
  refine qbf<|qaa<|sg<|aw E rfl fun a E=>wp_ret ?_
  exact fin hF ⟨ok,E.d,rz E rfl⟩
 rintro v4 a w r ⟨ok,E,r5⟩ hF
 replace hF:qeP N s_0 v4 = some r:=hF
 unfold qeP at hF
 refine wp_seq<|sg<|mz E rfl rfl fun a E=>lw E (qaJ Tryz.underlying9 rfl) fun a E=>lw E (qaS rfl rfl) fun a E=>wn<|cg E rfl hF (fun c6 hF=>?_) fun c6 hF=>?_
 ·refine wp_exit<|qaX ?_
  cases hF
  exact so (sl ⟨rfl,⟨ok,E.keep []⟩⟩)
 refine wp_skip<|qaa<|wp_seq<|wp_block<|sg<|mz E rfl rfl fun a E=>bd hF fun c7 e8 hF=>lv E ok (qaD Tryz.underlying9 rfl rfl e8) fun a E=>lw E (qaS rfl rfl) fun a E=>mv E rfl fun a E=>bu E 14 hF (fun c9 hF E=>?_) fun c9 hF E=>?_
 ·refine lsz E fun a E=>pt E rfl rfl fun a E=>wn<|c_if E rfl (fun _=>?_) (fun h=>by cases h)
  refine sg<|aw E rfl fun a E=>wp_ret<|qaL<|qam ?_
  cases hF
  exact so (sr ⟨rfl,⟨ok,E.d,rz E rfl⟩⟩)
 refine mz E rfl rfl fun a E=>bd hF fun c10 e11 hF=>lv E ok (qaD Tryz.underlying9 rfl rfl e11) fun a E=>lw E (qbD rfl rfl) fun a E=>pf E rfl rfl fun a E=>wn<|cg E rfl hF (fun c12 hF=>?_) fun c12 hF=>?_
 ·refine wp_skip<|qag<|qaa<|qab<|mv E rfl fun a E=>lw E (qaC rfl rfl (InR.inc r5 (InR.len ls_0) c6)) fun a E=>av E rfl fun a E=>wpList_nil ?_
  cases hF
  exact qat ⟨ok,E.keep [0,3],(InR.inc r5 (InR.len ls_0) c6)⟩
 refine sg<|aw E rfl fun a E=>wp_ret<|qaL<|qam ?_
 cases hF
 exact so (sr ⟨rfl,⟨ok,E.d,rz E rfl⟩⟩)
def qgL (u:World) (m0:Mem) (S:Segs) (r:Bool) (a:Act) (w:World):Prop :=
 Ok u m0 S w ∧ a.defers = [] ∧ RVs Tryz.prog a w [.t 2 (.bool r)]
theorem qeu (N:Nat) (s_0:List UInt8) (ls_0:s_0.length ≤ LIMS) {r:Bool} (hF:qdB N s_0 = some r) (hG:Glob u) (ok:Ok u m0 S w) :
  Calls Tryz.prog 129 [vs s_0].toArray w fun e w'=>(e = .returned (.bool r) ∧ Ok u m0 S w'):=by
 unfold qdB at hF
 refine en (qgL u m0 S) r Tryz.func129 rfl rfl rfl (fun _ _ h=>ra h rfl) fun fin a E=>sg<|aw E rfl fun a E=>wp_seq<|sg<|aw E rfl fun a E=>wp_block<|bd hF fun o2 hL hF=>qa6 _ (fun (s:Int) a w=>Ok u m0 (S) w ∧ Env 14 a [(0,vs s_0),(3,vi s)] ∧ InR .i64 s) (fun (b:(Unit ⊕ Bool)) e a w=>(Sum.elim (fun b10=>e = (.exit 0) ∧ Ok u m0 (S) w ∧ Env 14 a []) (fun b11=>e = .ret ∧ qgL u m0 S b11 a w)) b) ?_ ?_ N _ a w hL ⟨ok,E.keep [0,3],(ir 0)⟩
 rotate_left
 ·intro e a w _ hO
  rcases o2 with o2 | o2
  rotate_left
  ·obtain ⟨rfl,hret⟩:=hO
   refine qaL<|qam ?_
   exact fin hF hret
  have hF:=qb4 hF
  obtain ⟨rfl,ok,E⟩:=hO
  refine qbf<|qaa<|sg<|aw E rfl fun a E=>wp_ret ?_
  exact fin hF ⟨ok,E.d,rz E rfl⟩
 rintro v4 a w r ⟨ok,E,r5⟩ hF
 replace hF:qfl N s_0 v4 = some r:=hF
 unfold qfl at hF
 refine wp_seq<|sg<|mz E rfl rfl fun a E=>lw E (qaJ Tryz.underlying9 rfl) fun a E=>lw E (qaS rfl rfl) fun a E=>wn<|cg E rfl hF (fun c6 hF=>?_) fun c6 hF=>?_
 ·refine wp_exit<|qaX ?_
  cases hF
  exact so (sl ⟨rfl,⟨ok,E.keep []⟩⟩)
 refine wp_skip<|qaa<|wp_seq<|wp_block<|sg<|mz E rfl rfl fun a E=>bd hF fun c7 e8 hF=>lv E ok (qaD Tryz.underlying9 rfl rfl e8) fun a E=>lw E (qbj rfl rfl) fun a E=>wn<|cg E rfl hF (fun c9 hF=>?_) fun c9 hF=>?_
 ·refine wp_skip<|qag<|qaa<|qab<|mv E rfl fun a E=>lw E (qaC rfl rfl (InR.inc r5 (InR.len ls_0) c6)) fun a E=>av E rfl fun a E=>wpList_nil ?_
  cases hF
  exact qat ⟨ok,E.keep [0,3],(InR.inc r5 (InR.len ls_0) c6)⟩
 refine sg<|aw E rfl fun a E=>wp_ret<|qaL<|qam ?_
 cases hF
 exact so (sr ⟨rfl,⟨ok,E.d,rz E rfl⟩⟩)
end Go.Proofs.YtllnjbnknjpbjaaGreatDoor
