/- Texts of this proof, joined by pack.py. -/
import Derived.Test.YthhieiabfpkaaaaGreatDoorPkKz4
import Derived.Test.YthhieiabfpkaaaaGreatDoorCards
import Derived.Test.YthhieiabfpkaaaaGreatDoorChecked
import Derived.Test.YthhieiabfpkaaaaGreatDoorProg
import Derived.Test.YthhieiabfpkaaaaGreatDoorRows
import Derived.Test.YthhieiabfpkaaaaGreatDoorTie
set_option linter.unusedVariables false
set_option linter.unusedSimpArgs false
namespace Go.Proofs.YthhieiabfpkaaaaGreatDoor
open Go.X
variable {u:World} {m0:Mem} {S:Segs} {w:World}
set_option maxHeartbeats 4000000
set_option maxRecDepth 100000
def pIns:Rp Ins:=fun _ cs x=>cs = [.int .i64 x.Op,.int .i64 x.A,.int .i64 x.B,.string (bs x.S)] ∧ InR .i64 x.Op ∧ InR .i64 x.A ∧ InR .i64 x.B ∧ x.S.length ≤ LIMS
theorem mIns:Mono pIns:=⟨fun _ h=>by
 obtain ⟨e,h0,h1,h2,h3⟩:=h
 exact ⟨e,h0,h1,h2,h3⟩,fun h=>by
 obtain ⟨rfl,h0,h1,h2,h3⟩:=h
 exact ⟨rfl,rfl,rfl,rfl,trivial⟩⟩
def qjm:Rp Code:=fun m cs x=>∃ c0 c1,cs = [c0,c1] ∧ (pL 1 pS) m [c0] x.Names ∧ (pL 4 pIns) m [c1] x.Ins
def qnn:Rp Flow:=fun m cs x=>∃ c0 c1 c2 c3 c4,cs = [c0,c1,c2,c3,c4] ∧ (pL 1 pS) m [c0] x.c.Names ∧ (pL 4 pIns) m [c1] x.c.Ins ∧ (pL 1 (pK 1 pS)) m [c2] x.open_ ∧ (pL 1 pB) m [c3] x.reached ∧ (pL 1 pB) m [c4] x.clash
theorem qtO:Mono qnn:=⟨fun hm h=>by
 obtain ⟨c0,c1,c2,c3,c4,e,h0,h1,h2,h3,h4⟩:=h
 exact ⟨c0,c1,c2,c3,c4,e,(mL mS).up hm h0,(mL mIns).up hm h1,(mL (mK mS)).up hm h2,(mL mB).up hm h3,(mL mB).up hm h4⟩,fun h=>by
 obtain ⟨c0,c1,c2,c3,c4,rfl,h0,h1,h2,h3,h4⟩:=h
 exact ⟨((mL mS).one h0).1,((mL mIns).one h1).1,((mL (mK mS)).one h2).1,((mL mB).one h3).1,((mL mB).one h4).1,trivial⟩⟩
def qrs:Rp Uses:=fun _ cs x=>cs = [.bool x.a,.bool x.b,.bool x.s]
theorem qkz:aggB Tryz.prog 227 3 = true:=by kernel_rfl
theorem qd2:aggB Tryz.prog 49 2 = true:=by kernel_rfl
theorem qko:aggB Tryz.prog 78 4 = true:=by kernel_rfl
theorem qo4:ArT Tryz.prog 276 227 14 3:=ArT.of (by kernel_rfl)
theorem qn9:qar Tryz.prog 175 0 0 = true:=by kernel_rfl
theorem qnW:qar Tryz.prog 175 1 2 = true:=by kernel_rfl
theorem qi6:qar Tryz.prog 175 2 3 = true:=by kernel_rfl
theorem qrd:qar Tryz.prog 175 3 4 = true:=by kernel_rfl
theorem qqV:qar Tryz.prog 227 0 0 = true:=by kernel_rfl
theorem qnI:qar Tryz.prog 227 1 1 = true:=by kernel_rfl
theorem qjc:qar Tryz.prog 227 2 2 = true:=by kernel_rfl
theorem qqT:qar Tryz.prog 235 0 0 = true:=by kernel_rfl
theorem qrl:qar Tryz.prog 235 1 1 = true:=by kernel_rfl
theorem qoY:qar Tryz.prog 49 0 0 = true:=by kernel_rfl
theorem qdD:qar Tryz.prog 49 1 1 = true:=by kernel_rfl
theorem qkO:qar Tryz.prog 75 0 0 = true:=by kernel_rfl
theorem qeX:qar Tryz.prog 78 0 0 = true:=by kernel_rfl
theorem qfX:qar Tryz.prog 78 1 1 = true:=by kernel_rfl
theorem qo3:qar Tryz.prog 78 2 2 = true:=by kernel_rfl
theorem qcT:qar Tryz.prog 78 3 3 = true:=by kernel_rfl
theorem qrH:qar Tryz.prog 82 0 0 = true:=by kernel_rfl
theorem qmG:qar Tryz.prog 82 4 20 = true:=by kernel_rfl
theorem qkR:qar Tryz.prog 82 5 22 = true:=by kernel_rfl
theorem qiE:qar Tryz.prog 82 6 23 = true:=by kernel_rfl
theorem qsT:goB Tryz.prog 101 = true:=by kernel_rfl
theorem qsM:goB Tryz.prog 102 = true:=by kernel_rfl
theorem qs7:goB Tryz.prog 103 = true:=by kernel_rfl
theorem qsP:goB Tryz.prog 146 = true:=by kernel_rfl
theorem qlP:goB Tryz.prog 150 = true:=by kernel_rfl
theorem qpm:goB Tryz.prog 22 = true:=by kernel_rfl
theorem qjk:goB Tryz.prog 23 = true:=by kernel_rfl
theorem qtL:goB Tryz.prog 24 = true:=by kernel_rfl
theorem qtt:goB Tryz.prog 44 = true:=by kernel_rfl
theorem qtV:goB Tryz.prog 45 = true:=by kernel_rfl
theorem qtS:goB Tryz.prog 67 = true:=by kernel_rfl
theorem qno:goB Tryz.prog 68 = true:=by kernel_rfl
theorem qkB:∃ i,Tryz.prog.info? 227 = some i ∧ i.size = 3:=⟨_,rfl,by kernel_rfl⟩
theorem qsw:∃ i,Tryz.prog.info? 231 = some i ∧ i.size = 1:=⟨_,rfl,by kernel_rfl⟩
theorem qrI:∃ i,Tryz.prog.info? 276 = some i ∧ i.size = 42:=⟨_,rfl,by kernel_rfl⟩
theorem qrp:∃ i,Tryz.prog.info? 4 = some i ∧ i.size = 1:=⟨_,rfl,by kernel_rfl⟩
theorem qsC:∃ i,Tryz.prog.info? 47 = some i ∧ i.size = 1:=⟨_,rfl,by kernel_rfl⟩
theorem qnA:∃ i,Tryz.prog.info? 49 = some i ∧ i.size = 2:=⟨_,rfl,by kernel_rfl⟩
theorem qnM:∃ i,Tryz.prog.info? 78 = some i ∧ i.size = 4:=⟨_,rfl,by kernel_rfl⟩
theorem qpC:liesAt Tryz.prog Tryz.prog.depth 82 (24 / Tryz.prog.cellsOf 82) 20 68 1 = true:=by kernel_rfl
theorem qiJ:oneB Tryz.prog 111 = true:=by kernel_rfl
theorem qoW:oneB Tryz.prog 173 = true:=by kernel_rfl
theorem qo5:oneB Tryz.prog 231 = true:=by kernel_rfl
theorem qez:oneB Tryz.prog 47 = true:=by kernel_rfl
theorem qfn:qcq Tryz.prog 175 = some [(0,2),(2,1),(3,1),(4,1)]:=by kernel_rfl
theorem qbW:qcq Tryz.prog 227 = some [(0,1),(1,1),(2,1)]:=by kernel_rfl
theorem qpD:qcq Tryz.prog 235 = some [(0,1),(1,1)]:=by kernel_rfl
theorem qpT:qcq Tryz.prog 49 = some [(0,1),(1,1)]:=by kernel_rfl
theorem qp6:qcq Tryz.prog 75 = some [(0,2)]:=by kernel_rfl
theorem qfe:qcq Tryz.prog 78 = some [(0,1),(1,1),(2,1),(3,1)]:=by kernel_rfl
theorem qpX:qcq Tryz.prog 82 = some [(0,2),(2,16),(18,1),(19,1),(20,2),(22,1),(23,1)]:=by kernel_rfl
theorem qhR:SlT Tryz.prog 173 231 1:=SlT.of (by kernel_rfl)
theorem qe8:SlT Tryz.prog 47 78 4:=SlT.of (by kernel_rfl)
theorem qgs:qbq Tryz.prog 175 = some [(Value.slice none 0 0),(Value.slice none 0 0),(Value.slice none 0 0),(Value.slice none 0 0),(Value.slice none 0 0)]:=by kernel_rfl
theorem qch:qbq Tryz.prog 227 = some [vb false,vb false,vb false]:=by kernel_rfl
theorem qhG:qbq Tryz.prog 231 = some [(Value.pointer none)]:=by kernel_rfl
theorem qq2:qbq Tryz.prog 235 = some [(vs ([])),(Value.pointer none)]:=by kernel_rfl
theorem qn8:qbq Tryz.prog 276 = some [vb false,vb false,vb false,vb false,vb false,vb false,vb false,vb false,vb false,vb false,vb false,vb false,vb false,vb false,vb false,vb false,vb false,vb false,vb false,vb false,vb false,vb false,vb false,vb false,vb false,vb false,vb false,vb false,vb false,vb false,vb false,vb false,vb false,vb false,vb false,vb false,vb false,vb false,vb false,vb false,vb false,vb false]:=by kernel_rfl
theorem qmo:qbq Tryz.prog 49 = some [(Value.slice none 0 0),(Value.slice none 0 0)]:=by kernel_rfl
theorem qrS:qbq Tryz.prog 75 = some [(Value.slice none 0 0),(Value.slice none 0 0)]:=by kernel_rfl
theorem qej:qbq Tryz.prog 78 = some [vi 0,vi 0,vi 0,(vs ([]))]:=by kernel_rfl
theorem qrD:qbq Tryz.prog 82 = some [(Value.slice none 0 0),(Value.slice none 0 0),(vs ([])),(vs ([])),(vs ([])),(Value.slice none 0 0),(Value.slice none 0 0),(vs ([])),(vs ([])),(vs ([])),(vs ([])),vi 0,vi 0,(Value.slice none 0 0),(Value.slice none 0 0),(Value.slice none 0 0),(Value.slice none 0 0),(Value.slice none 0 0),(Value.slice none 0 0),vb false,(Value.pointer none),(Value.slice none 0 0),(Value.slice none 0 0),vi 0]:=by kernel_rfl
def qio (u:World) (m0:Mem) (S:Segs) (pb0:Nat) (x0:Compiler) (c5:Value) (M6:List (Nat × Obj)) (c8:Value) (M9:List (Nat × Obj)) (r:Int × Compiler) (a:Act) (w:World):Prop :=
 ∃ m1 c11 M12 c14 M15,m0.le m1 ∧ Ok u m1 ([(pb0,oc 75 [c11,c14])] :: M12 :: M15 :: S) w ∧ a.defers = [] ∧ RVs Tryz.prog a w [.t 4 (.int .i64 r.1)] ∧ InR .i64 r.1 ∧ ORow 9 1 pS m1 c11 r.2.Code.Names M12 ∧ ORow 78 4 pIns m1 c14 r.2.Code.Ins M15
theorem qbG (N:Nat) (vx_1:List Value) (x_1:Ins) (hx_1:pIns m0 vx_1 x_1) {pb0:Nat} {c5:Value} {M6:List (Nat × Obj)} {c8:Value} {M9:List (Nat × Obj)} (x0:Compiler) (h7:ORow 9 1 pS m0 c5 x0.Code.Names M6) (h10:ORow 78 4 pIns m0 c8 x0.Code.Ins M9) {r:Int × Compiler} (hF:qbv N x_1 x0 = some r) (hG:Glob u) (ok:Ok u m0 ([(pb0,oc 75 [c5,c8])] :: M6 :: M9 :: S) w) :
  Calls Tryz.prog 23 [vp pb0,.agg vx_1.toArray].toArray w fun e w'=>∃ m1 c11 M12 c14 M15,e = .returned (.int .i64 r.1) ∧ m0.le m1 ∧ Ok u m1 ([(pb0,oc 75 [c11,c14])] :: M12 :: M15 :: S) w' ∧ InR .i64 r.1 ∧ ORow 9 1 pS m1 c11 r.2.Code.Names M12 ∧ ORow 78 4 pIns m1 c14 r.2.Code.Ins M15:=by
 obtain ⟨rfl,r1,r2,r3,l4⟩:=hx_1
 have le_m0:=Mem.le.refl m0
 unfold qbv at hF
 refine en (qio u m0 S pb0 x0 c5 M6 c8 M9) r Tryz.func23 rfl rfl rfl (by rintro a w ⟨m1,c11,M12,c14,M15,hle,ok,hd,hrv,h0,h1,h2⟩; exact qaT [.t 4 (.int .i64 r.1)] hd rfl hrv ⟨m1,c11,M12,c14,M15,rfl,hle,ok,h0,h1,h2⟩) fun fin a E=>sg<|qbF E ok rfl rfl rfl fun b17 a w E ok=>aw E rfl fun a E=>wp_seq<|bd hF fun o18 hJ hF=>qaH (Q':=fun e a w=>e = .normal ∧ ∃ c19 M20 c22 M23,Ok u m0 ([(b17,oc 78 [vi x_1.Op,vi x_1.A,vi x_1.B,vs x_1.S])] :: [(pb0,oc 75 [c19,c22])] :: M20 :: M23 :: S) w ∧ Env 24 a [(0,vp pb0)] ∧ ORow 9 1 pS m0 c19 o18.Code.Names M20 ∧ ORow 78 4 pIns m0 c22 o18.Code.Ins M23) ?_ ?_
 rotate_left
 ·intro e a w hO
  obtain ⟨rfl,c39,M40,c42,M43,ok,E,h41,h44⟩:=hO
  refine qaa<|sg<|mv E rfl fun a E=>lw E (qae rfl) fun a E=>fv E qkO rfl fun a E=>fk E ok qdD qez rfl 1 rfl rfl fun a E=>lv E ok (qb7 qe8 h44 rfl) fun a E=>lw E (qbI rfl rfl) fun a E=>aw E rfl fun a E=>wp_ret ?_
  exact fin hF ⟨m0,c39,M40,c42,M43,le_m0,ok.drop,E.d,rz E rfl,(InR.wrap _ _),h41,h44⟩
 have hF:=hJ
 obtain ⟨l28,e29,hF⟩:=bnd hF
 obtain rfl:=sj hF
 refine qco [5,6] (Cls u m0 ([(b17,oc 78 [vi x_1.Op,vi x_1.A,vi x_1.B,vs x_1.S])] :: [(pb0,oc 75 [c5,c8])] :: M6 :: [])) (Cls u m0 ([(b17,oc 78 [vi x_1.Op,vi x_1.A,vi x_1.B,vs x_1.S])] :: M6 :: [])) (by kernel_rfl) ?_
 intro w hw
 replace ok:=qc8 ok hw
 clear hw
 refine qas (cl1 (cq le_m0 ok [0,1,2] rfl) (cq le_m0 ok [0,2] rfl)) fun hT=>kt 0 E rfl hT (qai rfl) fun a E=>kt 1 E rfl hT (qai rfl) fun a E=>kt 2 E rfl hT (qae rfl) fun a E=>kt 3 E rfl hT (qag qkO rfl) fun a E=>kt 4 E rfl hT (qag qdD rfl) fun a E=>qeI 5 E rfl (by kernel_rfl) nP hT (qal qez rfl (Holds.cown 1 rfl rfl)) rfl rfl fun a E=>qeI 6 E rfl (by kernel_rfl) nP hT (qan (cs:=[vi x_1.Op,vi x_1.A,vi x_1.B,vs x_1.S]) qko rfl rfl (Holds.cown 0 rfl rfl)) rfl rfl fun a E=>qaS [7] (by kernel_rfl) rfl (qaZ ?_)
 ·refine wo rfl<|qa6 (R:=pIns) (xo:=[.tmp 11]) (xs:=([x_1]:List (Ins))) E ok qe8 qej rfl ⟨⟨_,rfl,rfl,⟨rfl,r1,r2,r3,l4⟩⟩,trivial⟩ rfl rfl rfl rfl fun c33 M34 a w E ok h35=>wn<|qas (cl1 (cq le_m0 ok [1,2,3] rfl) (cq le_m0 ok [1,3] rfl)) fun hT=>qaS [8] (by kernel_rfl) rfl (qaZ ?_)
  ·refine wo rfl<|qb0 (R:=pIns) E ok 4 mIns qe8 Tryz.underlying47 rfl h10 (qbf.ofRow h35 0 rfl ok) e29 ⟨_,qej,rfl⟩ rfl rfl rfl rfl fun c36 M37 a w E ok h38=>wn<|qas (cl1 (cq le_m0 ok [1,2,3] rfl) (cq le_m0 ok [1,3] rfl)) fun hT=>kt 9 E rfl hT (qae rfl) fun a E=>kt 10 E rfl hT (qag qkO rfl) fun a E=>kt 11 E rfl hT (qag qdD rfl) fun a E=>qaS [12] (by kernel_rfl) rfl (qaZ ?_)
   ·refine wo rfl<|qax E ok 2 rfl rfl rfl qsC (ORow.cells h38) rfl ⟨(ORow.one h38),trivial⟩ rfl rfl fun w ok=>wn<|qas (cl2 (by kernel_rfl) (cq le_m0 ok [1,3] rfl)) fun hT=>qbJ (by kernel_rfl) ?_
    exact ⟨rfl,⟨c5,M6,c36,M37,(ok.pk 5 [1,2,3,4] rfl (by decide)),E.keep [0],h7,h38⟩⟩
def qhX (u:World) (m0:Mem) (S:Segs) (pb0:Nat) (x0:Compiler) (c1:Value) (M2:List (Nat × Obj)) (c4:Value) (M5:List (Nat × Obj)) (r:Compiler) (a:Act) (w:World):Prop :=
 ∃ m1 c7 M8 c10 M11,m0.le m1 ∧ Ok u m1 ([(pb0,oc 75 [c7,c10])] :: M8 :: M11 :: S) w ∧ a.defers = [] ∧ RVs Tryz.prog a w [] ∧ ORow 9 1 pS m1 c7 r.Code.Names M8 ∧ ORow 78 4 pIns m1 c10 r.Code.Ins M11
def qc4 (N:Nat):Prop:=∀ {u:World} {m0:Mem} {S:Segs} {w:World} (vl_1:Value) (l_1:List (Part)) (hl_1:(pL 6 qbp) m0 [vl_1] l_1) (count_2:List UInt8) (lcount_2:count_2.length ≤ LIMS) {pb0:Nat} {c1:Value} {M2:List (Nat × Obj)} {c4:Value} {M5:List (Nat × Obj)} (x0:Compiler) (h3:ORow 9 1 pS m0 c1 x0.Code.Names M2) (h6:ORow 78 4 pIns m0 c4 x0.Code.Ins M5) {r:Compiler} (hF:qcE N l_1 count_2 x0 = some r) (hG:Glob u) (ok:Ok u m0 ([(pb0,oc 75 [c1,c4])] :: M2 :: M5 :: S) w),Calls Tryz.prog 22 [vp pb0,vl_1,vs count_2].toArray w fun e w'=>∃ m1 c7 M8 c10 M11,e = .returned (.tuple [].toArray) ∧ m0.le m1 ∧ Ok u m1 ([(pb0,oc 75 [c7,c10])] :: M8 :: M11 :: S) w' ∧ ORow 9 1 pS m1 c7 r.Code.Names M8 ∧ ORow 78 4 pIns m1 c10 r.Code.Ins M11
theorem qgN (N:Nat) (ih_compile_compiler_parts:qc4 N):qc4 (N + 1):=by
 intro u m0 S w vl_1 l_1 hl_1 count_2 lcount_2 pb0 c1 M2 c4 M5 x0 h3 h6 r hF hG ok
 have le_m0:=Mem.le.refl m0
 have hF0:qdx (qcE N) N l_1 count_2 x0 = some r:=hF
 have hF:=hF0
 clear hF0
 unfold qdx at hF
 refine en (qhX u m0 S pb0 x0 c1 M2 c4 M5) r Tryz.func22 rfl rfl rfl (by rintro a w ⟨m1,c7,M8,c10,M11,hle,ok,hd,hrv,h0,h1⟩; exact qaT [] hd rfl hrv ⟨m1,c7,M8,c10,M11,rfl,hle,ok,h0,h1⟩) fun fin a E=>sg<|mv E rfl fun a E=>lv E ok (qaP qcM hl_1 rfl) fun a E=>mv E rfl fun a E=>wn<|wp_block<|bd hF fun o21 hL hF=>qa7 _ (fun (s:Int × Compiler) a w=>∃ m22 c24 M25 c27 M28,m0.le m22 ∧ Ok u m22 ([(pb0,oc 75 [c24,c27])] :: M25 :: M28 :: S) w ∧ Env 88 a [(0,vp pb0),(2,vs count_2),(8,vl_1),(9,(vi (l_1.length:Int))),(10,vi s.1)] ∧ InR .i64 s.1 ∧ ORow 9 1 pS m22 c24 s.2.Code.Names M25 ∧ ORow 78 4 pIns m22 c27 s.2.Code.Ins M28) (fun (b:Compiler) e a w=>e = (.exit 0) ∧ ∃ m156 c157 M158 c160 M161,m0.le m156 ∧ Ok u m156 ([(pb0,oc 75 [c157,c160])] :: M158 :: M161 :: S) w ∧ Env 88 a [] ∧ ORow 9 1 pS m156 c157 b.Code.Names M158 ∧ ORow 78 4 pIns m156 c160 b.Code.Ins M161) ?_ ?_ N _ a w hL ⟨m0,c1,M2,c4,M5,Mem.le.refl _,ok,E.keep [0,2,8,9,10],(ir 0),h3,h6⟩
 rotate_left
 ·intro e a w _ hO
  obtain ⟨rfl,m149,c150,M151,c153,M154,hle,ok,E,h152,h155⟩:=hO
  have le_m0:=le_m0.trans hle
  have hl_1:=(mL qa8).up hle hl_1
  refine qa0 ?_
  exact fin hF ⟨m149,c150,M151,c153,M154,le_m0,ok,E.d,trivial,h152,h155⟩
 rintro ⟨v30,v31⟩ a w r ⟨m32,c34,M35,c37,M38,hle,ok,E,r33,h36,h39⟩ hF
 replace hF:qdR (qcE N) N l_1 count_2 v30 v31 = some r:=hF
 unfold qdR at hF
 have le_m0:=le_m0.trans hle
 have hl_1:=(mL qa8).up hle hl_1
 refine sg<|lw E (qap rfl rfl) fun a E=>wn<|wp_seq<|cg E rfl hF (fun c40 hF=>?_) fun c40 hF=>?_
 ·refine wp_exit<|qaM ?_
  cases hF
  exact so (⟨rfl,⟨m32,c34,M35,c37,M38,le_m0,ok,E.keep [],h36,h39⟩⟩)
 refine wp_skip<|qaa<|wp_seq<|wp_block<|sg ?_
 obtain ⟨x41,e42,hF⟩:=bnd hF
 obtain ⟨b43,o44,es45,hl46,rr47,at48,yy49⟩:=ia E 8 10 qcM hl_1 e42
 obtain ⟨c54,c56,rfl,r50,l51,l52,l53,h55,h57⟩:=(qbK.1 rr47)
 refine lv E ok (yy49 _ _) fun a E=>lv E ok (qan (cs:=[vi x41.Kind,vs x41.Text,vs x41.Name,vs x41.Style,c54,c56]) qd5 rfl rfl (Holds.ro at48)) fun a E=>qa4 E ok qcn rfl rfl fun b58 a w E ok=>qax E ok 0 rfl rfl rfl qhH rfl rfl ⟨rfl,rfl,rfl,rfl,(qdk h55),(qdk h57),trivial⟩ rfl rfl fun w ok=>wn<|wp_block<|sg<|fk E ok qa2 qam rfl 0 rfl rfl fun a E=>lw E (qah rfl rfl) fun a E=>aw E rfl fun a E=>cf E rfl hF (fun c59 hF=>?_) fun c59 hF=>?_
 ·refine qab<|mv E rfl fun a E=>fk E ok qed qay rfl 0 rfl rfl fun a E=>lw E (qaL (ps:=[(0,.const (vi 1)),(3,.tmp 32)]) (qs:=[(0,[vi 1]),(3,[vs x41.Text])]) (cs:=[vi 1,vi 0,vi 0,vs x41.Text]) qej qfe rfl ⟨rfl,rfl,rfl,⟨rfl,rfl,rfl,trivial⟩⟩ rfl) fun a E=>?_
  obtain ⟨r60,e61,hF⟩:=bnd hF
  replace ok:Ok u m32 ([(pb0,oc 75 [c34,c37])] :: M35 :: M38 :: [(b58,oc 34 [vi x41.Kind,vs x41.Text,vs x41.Name,vs x41.Style,c54,c56])] :: S) w:=(ok.pk 4 [1,2,3,0] rfl (by decide))
  refine qaf E qjk rfl (qbG N _ (Ins.mk 1 0 0 x41.Text) ⟨rfl,(ir 1),(ir 0),(ir 0),l51⟩ v31 h36 h39 e61 hG ok) rfl rfl ?_
  rintro _ w ⟨m62,c64,M65,c67,M68,rfl,hle,ok,r63,h66,h69⟩
  have le_m0:=le_m0.trans hle
  have hl_1:=(mL qa8).up hle hl_1
  have h55:=(mL qex).up hle h55
  have h57:=(mL qa8).up hle h57
  have at48:=At.up hle at48
  refine ⟨_,rfl,fun a E=>?_⟩
  refine wpList_nil<|qac<|qac<|qaa<|qab<|lw E (qaE rfl rfl (InR.inc r33 (qaj hl_1) c40)) fun a E=>mv E rfl fun a E=>wpList_nil ?_
  cases hF
  exact qao ⟨m62,c64,M65,c67,M68,le_m0,(ok.pk 4 [0,1,2] rfl (by decide)),E.keep [0,2,8,9,10],(InR.inc r33 (qaj hl_1) c40),h66,h69⟩
 refine sg<|fk E ok qa2 qam rfl 0 rfl rfl fun a E=>lw E (qah rfl rfl) fun a E=>aw E rfl fun a E=>cf E rfl hF (fun c70 hF=>?_) fun c70 hF=>?_
 ·refine qab<|mz E rfl rfl fun a E=>mv E rfl fun a E=>?_
  cases hF
 refine sg<|fk E ok qa2 qam rfl 0 rfl rfl fun a E=>lw E (qah rfl rfl) fun a E=>mv E rfl fun a E=>bw E 49 hF (fun c71 hF E=>?_) fun c71 hF E=>?_
 ·as_aux_lemma =>
   refine lsz E fun a E=>pf E rfl rfl fun a E=>aw E rfl fun a E=>c_if E rfl (fun h=>by cases h) (fun _=>?_)
   refine sg<|fk E ok qa2 qam rfl 0 rfl rfl fun a E=>lw E (qah rfl rfl) fun a E=>aw E rfl fun a E=>cg E rfl hF (fun c116 hF=>?_) fun c116 hF=>?_
   ·refine sg<|fk E ok qa2 qam rfl 0 rfl rfl fun a E=>bd hF fun r146 e147 hF=>lc E qh7 rfl (qbS N x41.Kind r50 e147 hG ok) fun w ok a E=>aw E rfl fun a E=>cg E rfl hF (fun c148 hF=>?_) fun c148 hF=>?_
    ·cases hF
    refine qab<|mv E rfl fun a E=>lv E ok (qan (cs:=[vi x41.Kind,vs x41.Text,vs x41.Name,vs x41.Style,c54,c56]) qd5 rfl rfl (Holds.own 0 rfl rfl)) fun a E=>mv E rfl fun a E=>?_
    cases hF
   refine sg<|mv E rfl fun a E=>fk E ok qbj qay rfl 0 rfl rfl fun a E=>lw E (qaL (ps:=[(0,.const (vi 2)),(3,.tmp 66)]) (qs:=[(0,[vi 2]),(3,[vs x41.Name])]) (cs:=[vi 2,vi 0,vi 0,vs x41.Name]) qej qfe rfl ⟨rfl,rfl,rfl,⟨rfl,rfl,rfl,trivial⟩⟩ rfl) fun a E=>?_
   obtain ⟨r117,e118,hF⟩:=bnd hF
   replace ok:Ok u m32 ([(pb0,oc 75 [c34,c37])] :: M35 :: M38 :: [(b58,oc 34 [vi x41.Kind,vs x41.Text,vs x41.Name,vs x41.Style,c54,c56])] :: S) w:=(ok.pk 4 [1,2,3,0] rfl (by decide))
   refine qaf E qjk rfl (qbG N _ (Ins.mk 2 0 0 x41.Name) ⟨rfl,(ir 2),(ir 0),(ir 0),l52⟩ v31 h36 h39 e118 hG ok) rfl rfl ?_
   rintro _ w ⟨m119,c121,M122,c124,M125,rfl,hle,ok,r120,h123,h126⟩
   have le_m0:=le_m0.trans hle
   have hl_1:=(mL qa8).up hle hl_1
   have h55:=(mL qex).up hle h55
   have h57:=(mL qa8).up hle h57
   have at48:=At.up hle at48
   refine ⟨_,rfl,fun a E=>?_⟩
   refine wn<|sg<|mv E rfl fun a E=>fk E ok qec qeD rfl 3 rfl rfl fun a E=>mv E rfl fun a E=>bd hF fun r127 e128 hF=>qaf E qpm rfl (ih_compile_compiler_parts _ x41.Parts h57 count_2 lcount_2 r117.2 h123 h126 e128 hG ok) rfl rfl ?_
   rintro _ w ⟨m129,c130,M131,c133,M134,rfl,hle,ok,h132,h135⟩
   have le_m0:=le_m0.trans hle
   have hl_1:=(mL qa8).up hle hl_1
   have h55:=(mL qex).up hle h55
   have h57:=(mL qa8).up hle h57
   have at48:=At.up hle at48
   refine ⟨_,rfl,fun a E=>?_⟩
   refine wn<|qab<|mv E rfl fun a E=>fk E ok qbj qay rfl 3 rfl rfl fun a E=>lw E (qaL (ps:=[(0,.const (vi 3)),(3,.tmp 76)]) (qs:=[(0,[vi 3]),(3,[vs x41.Name])]) (cs:=[vi 3,vi 0,vi 0,vs x41.Name]) qej qfe rfl ⟨rfl,rfl,rfl,⟨rfl,rfl,rfl,trivial⟩⟩ rfl) fun a E=>bd hF fun r136 e137 hF=>qaf E qjk rfl (qbG N _ (Ins.mk 3 0 0 x41.Name) ⟨rfl,(ir 3),(ir 0),(ir 0),l52⟩ r127 h132 h135 e137 hG ok) rfl rfl ?_
   rintro _ w ⟨m138,c140,M141,c143,M144,rfl,hle,ok,r139,h142,h145⟩
   have le_m0:=le_m0.trans hle
   have hl_1:=(mL qa8).up hle hl_1
   have h55:=(mL qex).up hle h55
   have h57:=(mL qa8).up hle h57
   have at48:=At.up hle at48
   refine ⟨_,rfl,fun a E=>?_⟩
   refine wpList_nil<|qac<|qac<|qaa<|qab<|lw E (qaE rfl rfl (InR.inc r33 (qaj hl_1) c40)) fun a E=>mv E rfl fun a E=>wpList_nil ?_
   cases hF
   exact qao ⟨m138,c140,M141,c143,M144,le_m0,(ok.pk 4 [0,1,2] rfl (by decide)),E.keep [0,2,8,9,10],(InR.inc r33 (qaj hl_1) c40),h142,h145⟩
 refine fk E ok qec qeD rfl 0 rfl rfl fun a E=>lv E ok (qaP qcM h57 rfl) fun a E=>lw E (qah rfl rfl) fun a E=>pt E rfl rfl fun a E=>aw E rfl fun a E=>cf E rfl hF (fun c72 hF=>?_) fun c72 hF=>?_
 ·refine qab<|mv E rfl fun a E=>fk E ok qbj qay rfl 0 rfl rfl fun a E=>lw E (qaL (ps:=[(0,.const (vi 4)),(3,.tmp 57)]) (qs:=[(0,[vi 4]),(3,[vs x41.Name])]) (cs:=[vi 4,vi 0,vi 0,vs x41.Name]) qej qfe rfl ⟨rfl,rfl,rfl,⟨rfl,rfl,rfl,trivial⟩⟩ rfl) fun a E=>?_
  obtain ⟨r73,e74,hF⟩:=bnd hF
  replace ok:Ok u m32 ([(pb0,oc 75 [c34,c37])] :: M35 :: M38 :: [(b58,oc 34 [vi x41.Kind,vs x41.Text,vs x41.Name,vs x41.Style,c54,c56])] :: S) w:=(ok.pk 4 [1,2,3,0] rfl (by decide))
  refine qaf E qjk rfl (qbG N _ (Ins.mk 4 0 0 x41.Name) ⟨rfl,(ir 4),(ir 0),(ir 0),l52⟩ v31 h36 h39 e74 hG ok) rfl rfl ?_
  rintro _ w ⟨m75,c77,M78,c80,M81,rfl,hle,ok,r76,h79,h82⟩
  have le_m0:=le_m0.trans hle
  have hl_1:=(mL qa8).up hle hl_1
  have h55:=(mL qex).up hle h55
  have h57:=(mL qa8).up hle h57
  have at48:=At.up hle at48
  refine ⟨_,rfl,fun a E=>?_⟩
  refine wpList_nil<|qac<|qac<|qaa<|qab<|lw E (qaE rfl rfl (InR.inc r33 (qaj hl_1) c40)) fun a E=>mv E rfl fun a E=>wpList_nil ?_
  cases hF
  exact qao ⟨m75,c77,M78,c80,M81,le_m0,(ok.pk 4 [0,1,2] rfl (by decide)),E.keep [0,2,8,9,10],(InR.inc r33 (qaj hl_1) c40),h79,h82⟩
 refine sg<|fk E ok qa2 qam rfl 0 rfl rfl fun a E=>lw E (qah rfl rfl) fun a E=>aw E rfl fun a E=>cg E rfl hF (fun c83 hF=>?_) fun c83 hF=>?_
 ·refine sg<|fk E ok qa2 qam rfl 0 rfl rfl fun a E=>bd hF fun r113 e114 hF=>lc E qh7 rfl (qbS N x41.Kind r50 e114 hG ok) fun w ok a E=>aw E rfl fun a E=>cg E rfl hF (fun c115 hF=>?_) fun c115 hF=>?_
  ·cases hF
  refine qab<|mv E rfl fun a E=>lv E ok (qan (cs:=[vi x41.Kind,vs x41.Text,vs x41.Name,vs x41.Style,c54,c56]) qd5 rfl rfl (Holds.own 0 rfl rfl)) fun a E=>mv E rfl fun a E=>?_
  cases hF
 refine sg<|mv E rfl fun a E=>fk E ok qbj qay rfl 0 rfl rfl fun a E=>lw E (qaL (ps:=[(0,.const (vi 2)),(3,.tmp 66)]) (qs:=[(0,[vi 2]),(3,[vs x41.Name])]) (cs:=[vi 2,vi 0,vi 0,vs x41.Name]) qej qfe rfl ⟨rfl,rfl,rfl,⟨rfl,rfl,rfl,trivial⟩⟩ rfl) fun a E=>?_
 obtain ⟨r84,e85,hF⟩:=bnd hF
 replace ok:Ok u m32 ([(pb0,oc 75 [c34,c37])] :: M35 :: M38 :: [(b58,oc 34 [vi x41.Kind,vs x41.Text,vs x41.Name,vs x41.Style,c54,c56])] :: S) w:=(ok.pk 4 [1,2,3,0] rfl (by decide))
 refine qaf E qjk rfl (qbG N _ (Ins.mk 2 0 0 x41.Name) ⟨rfl,(ir 2),(ir 0),(ir 0),l52⟩ v31 h36 h39 e85 hG ok) rfl rfl ?_
 rintro _ w ⟨m86,c88,M89,c91,M92,rfl,hle,ok,r87,h90,h93⟩
 have le_m0:=le_m0.trans hle
 have hl_1:=(mL qa8).up hle hl_1
 have h55:=(mL qex).up hle h55
 have h57:=(mL qa8).up hle h57
 have at48:=At.up hle at48
 refine ⟨_,rfl,fun a E=>?_⟩
 refine wn<|sg<|mv E rfl fun a E=>fk E ok qec qeD rfl 3 rfl rfl fun a E=>mv E rfl fun a E=>bd hF fun r94 e95 hF=>qaf E qpm rfl (ih_compile_compiler_parts _ x41.Parts h57 count_2 lcount_2 r84.2 h90 h93 e95 hG ok) rfl rfl ?_
 rintro _ w ⟨m96,c97,M98,c100,M101,rfl,hle,ok,h99,h102⟩
 have le_m0:=le_m0.trans hle
 have hl_1:=(mL qa8).up hle hl_1
 have h55:=(mL qex).up hle h55
 have h57:=(mL qa8).up hle h57
 have at48:=At.up hle at48
 refine ⟨_,rfl,fun a E=>?_⟩
 refine wn<|qab<|mv E rfl fun a E=>fk E ok qbj qay rfl 3 rfl rfl fun a E=>lw E (qaL (ps:=[(0,.const (vi 3)),(3,.tmp 76)]) (qs:=[(0,[vi 3]),(3,[vs x41.Name])]) (cs:=[vi 3,vi 0,vi 0,vs x41.Name]) qej qfe rfl ⟨rfl,rfl,rfl,⟨rfl,rfl,rfl,trivial⟩⟩ rfl) fun a E=>bd hF fun r103 e104 hF=>qaf E qjk rfl (qbG N _ (Ins.mk 3 0 0 x41.Name) ⟨rfl,(ir 3),(ir 0),(ir 0),l52⟩ r94 h99 h102 e104 hG ok) rfl rfl ?_
 rintro _ w ⟨m105,c107,M108,c110,M111,rfl,hle,ok,r106,h109,h112⟩
 have le_m0:=le_m0.trans hle
 have hl_1:=(mL qa8).up hle hl_1
 have h55:=(mL qex).up hle h55
 have h57:=(mL qa8).up hle h57
 have at48:=At.up hle at48
 refine ⟨_,rfl,fun a E=>?_⟩
 refine wpList_nil<|qac<|qac<|qaa<|qab<|lw E (qaE rfl rfl (InR.inc r33 (qaj hl_1) c40)) fun a E=>mv E rfl fun a E=>wpList_nil ?_
 cases hF
 exact qao ⟨m105,c107,M108,c110,M111,le_m0,(ok.pk 4 [0,1,2] rfl (by decide)),E.keep [0,2,8,9,10],(InR.inc r33 (qaj hl_1) c40),h109,h112⟩
theorem qgK:qc4 0:=by
 intro u m0 S w vl_1 l_1 hl_1 count_2 lcount_2 pb0 c1 M2 c4 M5 x0 h3 h6 r hF hG ok
 replace hF:none = some r:=hF
 cases hF
theorem qf3 (N:Nat):qc4 N:=by
 induction N with
 | zero=>exact qgK
 | succ N h=>exact qgN N h
theorem qhC {u:World} {m0:Mem} {S:Segs} {w:World} (N:Nat) (vl_1:Value) (l_1:List (Part)) (hl_1:(pL 6 qbp) m0 [vl_1] l_1) (count_2:List UInt8) (lcount_2:count_2.length ≤ LIMS) {pb0:Nat} {c1:Value} {M2:List (Nat × Obj)} {c4:Value} {M5:List (Nat × Obj)} (x0:Compiler) (h3:ORow 9 1 pS m0 c1 x0.Code.Names M2) (h6:ORow 78 4 pIns m0 c4 x0.Code.Ins M5) {r:Compiler} (hF:qcE N l_1 count_2 x0 = some r) (hG:Glob u) (ok:Ok u m0 ([(pb0,oc 75 [c1,c4])] :: M2 :: M5 :: S) w) :
 Calls Tryz.prog 22 [vp pb0,vl_1,vs count_2].toArray w fun e w'=>∃ m1 c7 M8 c10 M11,e = .returned (.tuple [].toArray) ∧ m0.le m1 ∧ Ok u m1 ([(pb0,oc 75 [c7,c10])] :: M8 :: M11 :: S) w' ∧ ORow 9 1 pS m1 c7 r.Code.Names M8 ∧ ORow 78 4 pIns m1 c10 r.Code.Ins M11:=(qf3 N) vl_1 l_1 hl_1 count_2 lcount_2 x0 h3 h6 hF hG ok
def qkV (u:World) (m0:Mem) (S:Segs) (r:Code × Int) (a:Act) (w:World):Prop :=
 ∃ m1 v0,m0.le m1 ∧ Ok u m1 S w ∧ a.defers = [] ∧ RVs Tryz.prog a w [.c 2 49 (.agg v0.toArray),.t 3 (.int .i64 r.2)] ∧ qjm m1 v0 r.1 ∧ InR .i64 r.2
theorem qkX (N:Nat) (vparts_0:Value) (parts_0:List (Part)) (hparts_0:(pL 6 qbp) m0 [vparts_0] parts_0) {r:Code × Int} (hF:qgg N parts_0 = some r) (hG:Glob u) (ok:Ok u m0 S w) :
  Calls Tryz.prog 9 [vparts_0].toArray w fun e w'=>∃ m1 v0,e = .returned (.tuple [(.agg v0.toArray),(.int .i64 r.2)].toArray) ∧ m0.le m1 ∧ Ok u m1 S w' ∧ qjm m1 v0 r.1 ∧ InR .i64 r.2:=by
 have le_m0:=Mem.le.refl m0
 unfold qgg at hF
 refine en (qkV u m0 S) r Tryz.func9 rfl rfl rfl (by rintro a w ⟨m1,v0,hle,ok,hd,hrv,h0,h1⟩; exact qaT [.c 2 49 (.agg v0.toArray),.t 3 (.int .i64 r.2)] hd rfl hrv ⟨m1,v0,rfl,hle,ok,h0,h1⟩) fun fin a E=>sg<|qa4 E ok qmo rfl rfl fun b1 a w E ok=>aw E rfl fun a E=>wp_seq<|sg<|mv E rfl fun a E=>bd hF fun r2 e3 hF=>lc E qrv rfl (qiL N _ parts_0 hparts_0 e3 hG ok) fun w ok a E=>lw E (qbx rfl) fun a E=>wn<|cf E rfl hF (fun c4 hF=>?_) fun c4 hF=>?_
 ·refine sg<|lw E (qaL (ps:=[]) (qs:=[]) (cs:=[(Value.slice none 0 0),(Value.slice none 0 0)]) qmo qpT rfl trivial rfl) fun a E=>qax E ok 0 rfl rfl rfl qnA rfl rfl ⟨rfl,rfl,trivial⟩ rfl rfl fun w ok=>aw E rfl fun a E=>wp_ret<|qad ?_
  exact fin hF ⟨m0,[(Value.slice none 0 0),(Value.slice none 0 0)],le_m0,ok.drop,E.d,⟨rv_c (cs:=[(Value.slice none 0 0),(Value.slice none 0 0)]) E ok rfl qd2 rfl (Holds.own 0 rfl rfl),rv_t E rfl,trivial⟩,⟨_,_,rfl,qaI,qaI⟩,(ir 1)⟩
 refine wp_skip<|qaa<|sg<|lw E (qaL (ps:=[]) (qs:=[]) (cs:=[(Value.slice none 0 0),(Value.slice none 0 0)]) qrS qp6 rfl trivial rfl) fun a E=>qbF E ok rfl rfl rfl fun b5 a w E ok=>av E rfl fun a E=>wn<|sg<|mz E rfl rfl fun a E=>?_
 obtain ⟨M6,ok,h7⟩:=qcY (e:=9) (k:=1) (R:=pS) ok
 obtain ⟨M8,ok,h9⟩:=qcY (e:=78) (k:=4) (R:=pIns) ok
 obtain ⟨r10,e11,hF⟩:=bnd hF
 replace ok:Ok u m0 ([(b5,oc 75 [(Value.slice none 0 0),(Value.slice none 0 0)])] :: M6 :: M8 :: [(b1,oc 49 [(Value.slice none 0 0),(Value.slice none 0 0)])] :: S) w:=(ok.pk 4 [2,1,0,3] rfl (by decide))
 refine qaf E qpm rfl (qhC N _ parts_0 hparts_0 ([]) (show ([]:List UInt8).length ≤ LIMS by decide) (Compiler.mk (Code.mk ([]) ([]))) h7 h9 e11 hG ok) rfl rfl ?_
 rintro _ w ⟨m12,c13,M14,c16,M17,rfl,hle,ok,h15,h18⟩
 have le_m0:=le_m0.trans hle
 have hparts_0:=(mL qa8).up hle hparts_0
 refine ⟨_,rfl,fun a E=>?_⟩
 refine wn<|sg<|mv E rfl fun a E=>lw E (qaL (ps:=[(0,.const (vi 13))]) (qs:=[(0,[vi 13])]) (cs:=[vi 13,vi 0,vi 0,(vs ([]))]) qej qfe rfl ⟨rfl,rfl,rfl,trivial⟩ rfl) fun a E=>bd hF fun r19 e20 hF=>qaf E qjk rfl (qbG N _ (Ins.mk 13 0 0 ([])) ⟨rfl,(ir 13),(ir 0),(ir 0),(Nat.zero_le _)⟩ r10 h15 h18 e20 hG ok) rfl rfl ?_
 rintro _ w ⟨m21,c23,M24,c26,M27,rfl,hle,ok,r22,h25,h28⟩
 have le_m0:=le_m0.trans hle
 have hparts_0:=(mL qa8).up hle hparts_0
 refine ⟨_,rfl,fun a E=>?_⟩
 refine wn<|sg<|mv E rfl fun a E=>lw E (qae rfl) fun a E=>fv E qkO rfl fun a E=>lv E ok (qan (cs:=[c23,c26]) qd2 rfl rfl (Holds.own 0 rfl rfl)) fun a E=>qax E ok 3 rfl rfl rfl qnA rfl rfl ⟨(ORow.one h25),(ORow.one h28),trivial⟩ rfl rfl fun w ok=>aw E rfl fun a E=>wp_ret ?_
 obtain ⟨m29,hle,ok,hfz⟩:=(ok.frs 1 rfl).freeze
 have h30:=ORow.froz mS h25 hle hfz (by decide)
 have le_m0:=le_m0.trans hle
 have hparts_0:=(mL qa8).up hle hparts_0
 have h28:=ORow.up mIns hle h28
 obtain ⟨m31,hle,ok,hfz⟩:=(ok.frs 1 rfl).freeze
 have h32:=ORow.froz mIns h28 hle hfz (by decide)
 have le_m0:=le_m0.trans hle
 have hparts_0:=(mL qa8).up hle hparts_0
 have h30:=(mL mS).up hle h30
 exact fin hF ⟨m31,[c23,c26],le_m0,ok.drop.drop,E.d,⟨rv_c (cs:=[c23,c26]) E ok rfl qd2 rfl (Holds.own 1 rfl rfl),rv_t E rfl,trivial⟩,⟨_,_,rfl,h30,h32⟩,(ir 0)⟩
def qiv (u:World) (m0:Mem) (S:Segs) (r:Bool) (a:Act) (w:World):Prop :=
 Ok u m0 S w ∧ a.defers = [] ∧ RVs Tryz.prog a w [.t 2 (.bool r)]
theorem qmk (N:Nat) (vl_0:Value) (l_0:List (List UInt8)) (hl_0:(pL 1 pS) m0 [vl_0] l_0) {r:Bool} (hF:qhA N l_0 = some r) (hG:Glob u) (ok:Ok u m0 S w) :
  Calls Tryz.prog 101 [vl_0].toArray w fun e w'=>(e = .returned (.bool r) ∧ Ok u m0 S w'):=by
 unfold qhA at hF
 refine en (qiv u m0 S) r Tryz.func101 rfl rfl rfl (fun _ _ h=>ra h rfl) fun fin a E=>sg<|aw E rfl fun a E=>sg<|qjW kS (oneV pB) E ok rfl rfl fun c1 M2 a w E ok h3=>aw E rfl fun a E=>wp_seq<|sg<|mv E rfl fun a E=>lv E ok (qaP qkE hl_0 rfl) fun a E=>mv E rfl fun a E=>wn<|wp_block<|bd hF fun o9 hL hF=>qa7 _ (fun (s:Int × (List (List UInt8 × Bool))) a w=>∃ c11 M12,Ok u m0 (M12 :: S) w ∧ Env 27 a [(0,vl_0),(3,c11),(7,vl_0),(8,(vi (l_0.length:Int))),(9,vi s.1)] ∧ InR .i64 s.1 ∧ OMap kS (oneV pB) m0 c11 s.2 M12) (fun (b:(Unit ⊕ Bool)) e a w=>(Sum.elim (fun b43=>e = (.exit 0) ∧ Ok u m0 (S) w ∧ Env 27 a [(0,vl_0)]) (fun b44=>e = .ret ∧ qiv u m0 S b44 a w)) b) ?_ ?_ N _ a w hL ⟨c1,M2,ok,E.keep [0,3,7,8,9],(ir 0),h3⟩
 rotate_left
 ·intro e a w _ hO
  rcases o9 with o9 | o9
  rotate_left
  ·obtain ⟨rfl,hret⟩:=hO
   refine qak<|qad ?_
   exact fin hF hret
  have hF:=qcj hF
  obtain ⟨rfl,ok,E⟩:=hO
  refine qa0<|qaa<|sg<|mv E rfl fun a E=>lv E ok (qaP qkE hl_0 rfl) fun a E=>lw E (qaR rfl rfl) fun a E=>av E rfl fun a E=>wn<|wp_ret ?_
  exact fin hF ⟨ok,E.d,rz E rfl⟩
 rintro ⟨v14,v15⟩ a w r ⟨c17,M18,ok,E,r16,h19⟩ hF
 replace hF:qgh N l_0 v14 v15 = some r:=hF
 unfold qgh at hF
 refine sg<|lw E (qap rfl rfl) fun a E=>wn<|wp_seq<|cg E rfl hF (fun c20 hF=>?_) fun c20 hF=>?_
 ·refine wp_exit<|qaM ?_
  cases hF
  exact so (sl ⟨rfl,⟨(ok.pk 1 [] rfl (by decide)),E.keep [0]⟩⟩)
 refine wp_skip<|qaa<|wp_seq<|wp_block<|sg ?_
 obtain ⟨x21,e22,hF⟩:=bnd hF
 obtain ⟨b23,o24,es25,hl26,rr27,at28,yy29⟩:=ia E 7 9 qkE hl_0 e22
 obtain ⟨rfl,l30⟩:=rr27
 refine lv E ok (yy29 _ _) fun a E=>lv E ok (qal qay rfl (Holds.ro at28)) fun a E=>aw E rfl fun a E=>wp_seq<|sg<|mv E rfl fun a E=>bd hF fun r31 e32 hF=>lc E qf6 rfl (qc7 N x21 l30 e32 hG ok) fun w ok a E=>lw E (qbx rfl) fun a E=>mv E rfl fun a E=>bu E 16 hF (fun c33 hF E=>?_) fun c33 hF E=>?_
 ·refine lsq E fun a E=>ls E fun a E=>pt E rfl rfl fun a E=>wn<|c_if E rfl (fun _=>?_) (fun h=>by cases h)
  refine sg<|aw E rfl fun a E=>wp_ret<|qad<|qak<|qad ?_
  cases hF
  exact so (sr ⟨rfl,⟨ok.drop,E.d,rz E rfl⟩⟩)
 refine mz E rfl rfl fun a E=>?_
 obtain ⟨xv34,h35,yy36,yy37⟩:=qlo (P:=Tryz.prog) (mo:=.tmp 17) (ko:=.tmp 18) (zx:=(false:Bool)) ok 0 (qc6 Tryz.underlying9) Tryz.underlying120 h19 rfl (qaJ E rfl) (qaJ E rfl) ⟨rfl,l30⟩ qmC qdi
 obtain rfl:=ql0 h35
 refine lv E ok (yy36 _) fun a E=>pf E rfl rfl fun a E=>wn<|cf E rfl hF (fun c38 hF=>?_) fun c38 hF=>?_
 ·refine sg<|aw E rfl fun a E=>wp_ret<|qad<|qak<|qad ?_
  cases hF
  exact so (sr ⟨rfl,⟨ok.drop,E.d,rz E rfl⟩⟩)
 refine wp_skip<|qaa<|qab<|mz E rfl rfl fun a E=>bd hF fun l39 e40 hF=>qmb (.inl rfl) E ok 0 (qc6 Tryz.underlying9) Tryz.underlying120 h19 rfl rfl rfl rfl ⟨rfl,l30⟩ qdi e40 rfl fun M41 w ok h42=>wpList_nil<|qac<|qaa<|qab<|lw E (qaE rfl rfl (InR.inc r16 (qaj hl_0) c20)) fun a E=>mv E rfl fun a E=>wpList_nil ?_
 cases hF
 exact qao ⟨c17,M41,ok,E.keep [0,3,7,8,9],(InR.inc r16 (qaj hl_0) c20),h42⟩
def qlY (u:World) (m0:Mem) (S:Segs) (r:Uses × Bool) (a:Act) (w:World):Prop :=
 ∃ m1 v0,m0.le m1 ∧ Ok u m1 S w ∧ a.defers = [] ∧ RVs Tryz.prog a w [.c 2 227 (.agg v0.toArray),.t 3 (.bool r.2)] ∧ qrs m1 v0 r.1
theorem ql1 (N:Nat) (op_0:Int) (rop_0:InR .i64 op_0) {r:Uses × Bool} (hF:qg3 N op_0 = some r) (hG:Glob u) (ok:Ok u m0 S w) :
  Calls Tryz.prog 146 [vi op_0].toArray w fun e w'=>∃ m1 v0,e = .returned (.tuple [(.agg v0.toArray),(.bool r.2)].toArray) ∧ m0.le m1 ∧ Ok u m1 S w' ∧ qrs m1 v0 r.1:=by
 have le_m0:=Mem.le.refl m0
 unfold qg3 at hF
 refine en (qlY u m0 S) r Tryz.func146 rfl rfl rfl (by rintro a w ⟨m1,v0,hle,ok,hd,hrv,h0⟩; exact qaT [.c 2 227 (.agg v0.toArray),.t 3 (.bool r.2)] hd rfl hrv ⟨m1,v0,rfl,hle,ok,h0⟩) fun fin a E=>sg<|qa4 E ok qch rfl rfl fun b1 a w E ok=>aw E rfl fun a E=>sg<|lw E (qaL (ps:=[(2,.const (vb true))]) (qs:=[(2,[vb true])]) (cs:=[vb false,vb false,vb true]) qch qbW rfl ⟨rfl,rfl,rfl,trivial⟩ rfl) fun a E=>lw E (qaL (ps:=[(2,.const (vb true))]) (qs:=[(2,[vb true])]) (cs:=[vb false,vb false,vb true]) qch qbW rfl ⟨rfl,rfl,rfl,trivial⟩ rfl) fun a E=>lw E (qaL (ps:=[(2,.const (vb true))]) (qs:=[(2,[vb true])]) (cs:=[vb false,vb false,vb true]) qch qbW rfl ⟨rfl,rfl,rfl,trivial⟩ rfl) fun a E=>lw E (qaL (ps:=[(2,.const (vb true))]) (qs:=[(2,[vb true])]) (cs:=[vb false,vb false,vb true]) qch qbW rfl ⟨rfl,rfl,rfl,trivial⟩ rfl) fun a E=>lw E (qaL (ps:=[(0,.const (vb true))]) (qs:=[(0,[vb true])]) (cs:=[vb true,vb false,vb false]) qch qbW rfl ⟨rfl,rfl,rfl,trivial⟩ rfl) fun a E=>lw E (qaL (ps:=[(0,.const (vb true)),(2,.const (vb true))]) (qs:=[(0,[vb true]),(2,[vb true])]) (cs:=[vb true,vb false,vb true]) qch qbW rfl ⟨rfl,rfl,rfl,⟨rfl,rfl,rfl,trivial⟩⟩ rfl) fun a E=>lw E (qaL (ps:=[(0,.const (vb true)),(2,.const (vb true))]) (qs:=[(0,[vb true]),(2,[vb true])]) (cs:=[vb true,vb false,vb true]) qch qbW rfl ⟨rfl,rfl,rfl,⟨rfl,rfl,rfl,trivial⟩⟩ rfl) fun a E=>?_
 refine lw E (qaL (ps:=[(0,.const (vb true)),(2,.const (vb true))]) (qs:=[(0,[vb true]),(2,[vb true])]) (cs:=[vb true,vb false,vb true]) qch qbW rfl ⟨rfl,rfl,rfl,⟨rfl,rfl,rfl,trivial⟩⟩ rfl) fun a E=>lw E (qaL (ps:=[(0,.const (vb true)),(2,.const (vb true))]) (qs:=[(0,[vb true]),(2,[vb true])]) (cs:=[vb true,vb false,vb true]) qch qbW rfl ⟨rfl,rfl,rfl,⟨rfl,rfl,rfl,trivial⟩⟩ rfl) fun a E=>lw E (qaL (ps:=[(0,.const (vb true)),(1,.const (vb true))]) (qs:=[(0,[vb true]),(1,[vb true])]) (cs:=[vb true,vb true,vb false]) qch qbW rfl ⟨rfl,rfl,rfl,⟨rfl,rfl,rfl,trivial⟩⟩ rfl) fun a E=>lw E (qaL (ps:=[(0,.const (vb true)),(2,.const (vb true))]) (qs:=[(0,[vb true]),(2,[vb true])]) (cs:=[vb true,vb false,vb true]) qch qbW rfl ⟨rfl,rfl,rfl,⟨rfl,rfl,rfl,trivial⟩⟩ rfl) fun a E=>lw E (qaL (ps:=[(0,.const (vb true))]) (qs:=[(0,[vb true])]) (cs:=[vb true,vb false,vb false]) qch qbW rfl ⟨rfl,rfl,rfl,trivial⟩ rfl) fun a E=>lw E (qaL (ps:=[]) (qs:=[]) (cs:=[vb false,vb false,vb false]) qch qbW rfl trivial rfl) fun a E=>lv E ok (qqO (ps:=[(1,.tmp 5),(2,.tmp 6),(3,.tmp 7),(4,.tmp 8),(5,.tmp 9),(6,.tmp 10),(7,.tmp 11),(8,.tmp 12),(9,.tmp 13),(10,.tmp 14),(11,.tmp 15),(12,.tmp 16),(13,.tmp 17)]) (qs:=[(3,[vb false,vb false,vb true]),(6,[vb false,vb false,vb true]),(9,[vb false,vb false,vb true]),(12,[vb false,vb false,vb true]),(15,[vb true,vb false,vb false]),(18,[vb true,vb false,vb true]),(21,[vb true,vb false,vb true]),(24,[vb true,vb false,vb true]),(27,[vb true,vb false,vb true]),(30,[vb true,vb true,vb false]),(33,[vb true,vb false,vb true]),(36,[vb true,vb false,vb false]),(39,[vb false,vb false,vb false])]) (cs:=[vb false,vb false,vb false,vb false,vb false,vb true,vb false,vb false,vb true,vb false,vb false,vb true,vb false,vb false,vb true,vb true,vb false,vb false,vb true,vb false,vb true,vb true,vb false,vb true,vb true,vb false,vb true,vb true,vb false,vb true,vb true,vb true,vb false,vb true,vb false,vb true,vb true,vb false,vb false,vb false,vb false,vb false]) qn8 qo4 rfl ⟨rfl,rfl,rfl,⟨rfl,rfl,rfl,⟨rfl,rfl,rfl,⟨rfl,rfl,rfl,⟨rfl,rfl,rfl,⟨rfl,rfl,rfl,⟨rfl,rfl,rfl,⟨rfl,rfl,rfl,⟨rfl,rfl,rfl,⟨rfl,rfl,rfl,⟨rfl,rfl,rfl,⟨rfl,rfl,rfl,⟨rfl,rfl,rfl,trivial⟩⟩⟩⟩⟩⟩⟩⟩⟩⟩⟩⟩⟩ rfl) fun a E=>qa4 E ok qn8 rfl rfl fun b2 a w E ok=>qax E ok 0 rfl rfl rfl qrI rfl rfl ⟨rfl,rfl,rfl,rfl,rfl,rfl,rfl,rfl,rfl,rfl,rfl,rfl,rfl,rfl,rfl,rfl,rfl,rfl,rfl,rfl,rfl,rfl,rfl,rfl,rfl,rfl,rfl,rfl,rfl,rfl,rfl,rfl,rfl,rfl,rfl,rfl,rfl,rfl,rfl,rfl,rfl,rfl,trivial⟩ rfl rfl fun w ok=>wn<|wp_seq<|sg<|mv E rfl fun a E=>lw E (qap rfl rfl) fun a E=>mv E rfl fun a E=>bu E 21 hF (fun c3 hF E=>?_) fun c3 hF E=>?_
 ·refine lsq E fun a E=>pt E rfl rfl fun a E=>wn<|c_if E rfl (fun _=>?_) (fun h=>by cases h)
  refine sg<|lw E (qaL (ps:=[]) (qs:=[]) (cs:=[vb false,vb false,vb false]) qch qbW rfl trivial rfl) fun a E=>qax E ok 1 rfl rfl rfl qkB rfl rfl ⟨rfl,rfl,rfl,trivial⟩ rfl rfl fun w ok=>aw E rfl fun a E=>wp_ret<|qad ?_
  exact fin hF ⟨m0,[vb false,vb false,vb false],le_m0,ok.drop.drop,E.d,⟨rv_c (cs:=[vb false,vb false,vb false]) E ok rfl qkz rfl (Holds.own 1 rfl rfl),rv_t E rfl,trivial⟩,rfl⟩
 refine mv E rfl fun a E=>lw E (qaK rfl rfl) fun a E=>pf E rfl rfl fun a E=>wn<|cf E rfl hF (fun c4 hF=>?_) fun c4 hF=>?_
 ·refine sg<|lw E (qaL (ps:=[]) (qs:=[]) (cs:=[vb false,vb false,vb false]) qch qbW rfl trivial rfl) fun a E=>qax E ok 1 rfl rfl rfl qkB rfl rfl ⟨rfl,rfl,rfl,trivial⟩ rfl rfl fun w ok=>aw E rfl fun a E=>wp_ret<|qad ?_
  exact fin hF ⟨m0,[vb false,vb false,vb false],le_m0,ok.drop.drop,E.d,⟨rv_c (cs:=[vb false,vb false,vb false]) E ok rfl qkz rfl (Holds.own 1 rfl rfl),rv_t E rfl,trivial⟩,rfl⟩
 refine wp_skip<|qaa<|sg<|mv E rfl fun a E=>?_
 obtain ⟨x5,e6,hF⟩:=bnd hF
 replace e6:idx (Arr14_Uses.list (Arr14_Uses.mk (Uses.mk false false false) (Uses.mk false false true) (Uses.mk false false true) (Uses.mk false false true) (Uses.mk false false true) (Uses.mk true false false) (Uses.mk true false true) (Uses.mk true false true) (Uses.mk true false true) (Uses.mk true false true) (Uses.mk true true false) (Uses.mk true false true) (Uses.mk true false false) (Uses.mk false false false))) op_0 = some x5:=e6
 refine lv E ok (qsS qo4 rfl rfl (qm0 e6).1 (qm0 e6).2) fun a E=>lv E ok (qan (cs:=[vb x5.a,vb x5.b,vb x5.s]) qkz rfl rfl (Holds.idxK (k:=3) (xs:=Arr14_Uses.list (Arr14_Uses.mk (Uses.mk false false false) (Uses.mk false false true) (Uses.mk false false true) (Uses.mk false false true) (Uses.mk false false true) (Uses.mk true false false) (Uses.mk true false true) (Uses.mk true false true) (Uses.mk true false true) (Uses.mk true false true) (Uses.mk true true false) (Uses.mk true false true) (Uses.mk true false false) (Uses.mk false false false))) (f:=(fun x:Uses=>[vb x.a,vb x.b,vb x.s])) (fun _=>rfl) (Holds.own 0 rfl rfl) e6)) fun a E=>qax E ok 1 rfl rfl rfl qkB rfl rfl ⟨rfl,rfl,rfl,trivial⟩ rfl rfl fun w ok=>aw E rfl fun a E=>wp_ret ?_
 exact fin hF ⟨m0,[vb x5.a,vb x5.b,vb x5.s],le_m0,ok.drop.drop,E.d,⟨rv_c (cs:=[vb x5.a,vb x5.b,vb x5.s]) E ok rfl qkz rfl (Holds.own 1 rfl rfl),rv_t E rfl,trivial⟩,rfl⟩
def qlJ (u:World) (m0:Mem) (S:Segs) (r:Bool) (a:Act) (w:World):Prop :=
 Ok u m0 S w ∧ a.defers = [] ∧ RVs Tryz.prog a w [.t 4 (.bool r)]
theorem qmd (N:Nat) (vc_0:List Value) (c_0:Code) (hc_0:qjm m0 vc_0 c_0) (i_1:Int) (ri_1:InR .i64 i_1) {r:Bool} (hF:qg4 N c_0 i_1 = some r) (hG:Glob u) (ok:Ok u m0 S w) :
  Calls Tryz.prog 102 [.agg vc_0.toArray,vi i_1].toArray w fun e w'=>(e = .returned (.bool r) ∧ Ok u m0 S w'):=by
 obtain ⟨c1,c3,rfl,h2,h4⟩:=hc_0
 have hb0:=ok.base
 have le_m0:=Mem.le.refl m0
 unfold qg4 at hF
 refine en (qlJ u m0 S) r Tryz.func102 rfl rfl rfl (fun _ _ h=>ra h rfl) fun fin a E=>sg<|qbF E ok rfl rfl rfl fun b5 a w E ok=>aw E rfl fun a E=>wp_seq<|sg<|mv E rfl fun a E=>lw E (qap rfl rfl) fun a E=>mv E rfl fun a E=>bu E 10 hF (fun c6 hF E=>?_) fun c6 hF E=>?_
 ·refine lsz E fun a E=>ls E fun a E=>pt E rfl rfl fun a E=>wn<|c_if E rfl (fun _=>?_) (fun h=>by cases h)
  refine sg<|aw E rfl fun a E=>wp_ret<|qad ?_
  exact fin hF ⟨ok.drop,E.d,rz E rfl⟩
 refine mv E rfl fun a E=>fk E ok qdD qez rfl 0 rfl rfl fun a E=>lv E ok (qaP qe8 h4 rfl) fun a E=>lw E (qaq rfl rfl) fun a E=>pf E rfl rfl fun a E=>wn<|cf E rfl hF (fun c7 hF=>?_) fun c7 hF=>?_
 ·refine sg<|aw E rfl fun a E=>wp_ret<|qad ?_
  exact fin hF ⟨ok.drop,E.d,rz E rfl⟩
 refine wp_skip<|qaa<|sg<|fk E ok qdD qez rfl 0 rfl rfl fun a E=>mv E rfl fun a E=>?_
 obtain ⟨x8,e9,hF⟩:=bnd hF
 obtain ⟨b10,o11,es12,hl13,rr14,at15,yy16⟩:=ia E 18 19 qe8 h4 e9
 obtain ⟨rfl,r17,r18,r19,l20⟩:=rr14
 refine lv E ok (yy16 _ _) fun a E=>lv E ok (qan (cs:=[vi x8.Op,vi x8.A,vi x8.B,vs x8.S]) qko rfl rfl (Holds.ro at15)) fun a E=>qa4 E ok qej rfl rfl fun b21 a w E ok=>qax E ok 0 rfl rfl rfl qnM rfl rfl ⟨rfl,rfl,rfl,rfl,trivial⟩ rfl rfl fun w ok=>wn<|sg<|fk E ok qeX qam rfl 0 rfl rfl fun a E=>bd hF fun r22 e23 hF=>qaf E qsP rfl (ql1 N x8.Op r17 e23 hG ok) rfl rfl ?_
 rintro _ w ⟨m24,vs25,rfl,hle,ok,h26⟩
 have le_m0:=le_m0.trans hle
 have h2:=(mL mS).up hle h2
 have h4:=(mL mIns).up hle h4
 have at15:=At.up hle at15
 obtain ⟨rfl⟩:=h26
 refine ⟨_,rfl,fun a E=>?_⟩
 refine mv E rfl fun a E=>lw E (qav rfl rfl) fun a E=>lw E (qav rfl rfl) fun a E=>qa4 E ok qch rfl rfl fun b27 a w E ok=>qax E ok 0 rfl rfl rfl qkB rfl rfl ⟨rfl,rfl,rfl,trivial⟩ rfl rfl fun w ok=>aw E rfl fun a E=>wp_seq<|wp_seq<|bd hF fun o28 hJ hF=>qaH (Q':=fun e a w=>e = .normal ∧ Ok u m24 ([(b27,oc 227 [vb r22.1.a,vb r22.1.b,vb r22.1.s])] :: [(b21,oc 78 [vi x8.Op,vi x8.A,vi x8.B,vs x8.S])] :: [(b5,oc 49 [c1,c3])] :: S) w ∧ Env 168 a [(1,vi i_1),(2,vp b5),(5,vp b21),(59,vb o28)]) ?_ ?_
 ·as_aux_lemma =>
   have hF:=hJ
   refine qab<|mv E rfl fun a E=>lw E (qbx rfl) fun a E=>mv E rfl fun a E=>bu E 30 hF (fun c29 hF E=>?_) fun c29 hF E=>?_
   ·refine lsz E fun a E=>lsz E fun a E=>pt E rfl rfl fun a E=>mv E rfl fun a E=>lsz E fun a E=>lsq E fun a E=>?_
    refine lsq E fun a E=>pt E rfl rfl fun a E=>mv E rfl fun a E=>lsz E fun a E=>lsz E fun a E=>pt E rfl rfl fun a E=>wpList_nil ?_
    cases hF
    exact ⟨rfl,⟨ok,E.keep [1,2,5,59]⟩⟩
   refine fk E ok qqV qeP rfl 0 rfl rfl fun a E=>lw E (qbx rfl) fun a E=>mv E rfl fun a E=>bw E 34 hF (fun c30 hF E=>?_) fun c30 hF E=>?_
   ·as_aux_lemma =>
     refine lsq E fun a E=>ls E fun a E=>pf E rfl rfl fun a E=>pf E rfl rfl fun a E=>mv E rfl fun a E=>fk E ok qnI qeP rfl 0 rfl rfl fun a E=>lw E (qbx rfl) fun a E=>mv E rfl fun a E=>bw E 44 hF (fun c36 hF E=>?_) fun c36 hF E=>?_
     ·refine lsq E fun a E=>ls E fun a E=>pf E rfl rfl fun a E=>pf E rfl rfl fun a E=>mv E rfl fun a E=>fk E ok qjc qeP rfl 0 rfl rfl fun a E=>lw E (qbx rfl) fun a E=>mv E rfl fun a E=>bu E 54 hF (fun c39 hF E=>?_) fun c39 hF E=>?_
      ·refine fk E ok qcT qay rfl 1 rfl rfl fun a E=>lw E (qdj rfl rfl) fun a E=>pt E rfl rfl fun a E=>pf E rfl rfl fun a E=>wpList_nil ?_
       cases hF
       exact ⟨rfl,⟨ok,E.keep [1,2,5,59]⟩⟩
      refine lsq E fun a E=>ls E fun a E=>pf E rfl rfl fun a E=>pf E rfl rfl fun a E=>wpList_nil ?_
      cases hF
      exact ⟨rfl,⟨ok,E.keep [1,2,5,59]⟩⟩
     refine fk E ok qo3 qam rfl 1 rfl rfl fun a E=>lw E (qbD rfl rfl) fun a E=>pt E rfl rfl fun a E=>pf E rfl rfl fun a E=>mv E rfl fun a E=>bu E 50 hF (fun c37 hF E=>?_) fun c37 hF E=>?_
     ·refine lsz E fun a E=>lsz E fun a E=>pt E rfl rfl fun a E=>wpList_nil ?_
      cases hF
      exact ⟨rfl,⟨ok,E.keep [1,2,5,59]⟩⟩
     refine fk E ok qjc qeP rfl 0 rfl rfl fun a E=>lw E (qbx rfl) fun a E=>mv E rfl fun a E=>bu E 54 hF (fun c38 hF E=>?_) fun c38 hF E=>?_
     ·refine fk E ok qcT qay rfl 1 rfl rfl fun a E=>lw E (qdj rfl rfl) fun a E=>pt E rfl rfl fun a E=>pf E rfl rfl fun a E=>wpList_nil ?_
      cases hF
      exact ⟨rfl,⟨ok,E.keep [1,2,5,59]⟩⟩
     refine lsq E fun a E=>ls E fun a E=>pf E rfl rfl fun a E=>pf E rfl rfl fun a E=>wpList_nil ?_
     cases hF
     exact ⟨rfl,⟨ok,E.keep [1,2,5,59]⟩⟩
   refine fk E ok qfX qam rfl 1 rfl rfl fun a E=>lw E (qbD rfl rfl) fun a E=>pt E rfl rfl fun a E=>pf E rfl rfl fun a E=>mv E rfl fun a E=>bu E 40 hF (fun c31 hF E=>?_) fun c31 hF E=>?_
   ·refine lsz E fun a E=>lsz E fun a E=>pt E rfl rfl fun a E=>mv E rfl fun a E=>lsz E fun a E=>lsq E fun a E=>?_
    refine lsq E fun a E=>pt E rfl rfl fun a E=>wpList_nil ?_
    cases hF
    exact ⟨rfl,⟨ok,E.keep [1,2,5,59]⟩⟩
   refine fk E ok qnI qeP rfl 0 rfl rfl fun a E=>lw E (qbx rfl) fun a E=>mv E rfl fun a E=>bw E 44 hF (fun c32 hF E=>?_) fun c32 hF E=>?_
   ·refine lsq E fun a E=>ls E fun a E=>pf E rfl rfl fun a E=>pf E rfl rfl fun a E=>mv E rfl fun a E=>fk E ok qjc qeP rfl 0 rfl rfl fun a E=>lw E (qbx rfl) fun a E=>mv E rfl fun a E=>bu E 54 hF (fun c35 hF E=>?_) fun c35 hF E=>?_
    ·refine fk E ok qcT qay rfl 1 rfl rfl fun a E=>lw E (qdj rfl rfl) fun a E=>pt E rfl rfl fun a E=>pf E rfl rfl fun a E=>wpList_nil ?_
     cases hF
     exact ⟨rfl,⟨ok,E.keep [1,2,5,59]⟩⟩
    refine lsq E fun a E=>ls E fun a E=>pf E rfl rfl fun a E=>pf E rfl rfl fun a E=>wpList_nil ?_
    cases hF
    exact ⟨rfl,⟨ok,E.keep [1,2,5,59]⟩⟩
   refine fk E ok qo3 qam rfl 1 rfl rfl fun a E=>lw E (qbD rfl rfl) fun a E=>pt E rfl rfl fun a E=>pf E rfl rfl fun a E=>mv E rfl fun a E=>bu E 50 hF (fun c33 hF E=>?_) fun c33 hF E=>?_
   ·refine lsz E fun a E=>lsz E fun a E=>pt E rfl rfl fun a E=>wpList_nil ?_
    cases hF
    exact ⟨rfl,⟨ok,E.keep [1,2,5,59]⟩⟩
   refine fk E ok qjc qeP rfl 0 rfl rfl fun a E=>lw E (qbx rfl) fun a E=>mv E rfl fun a E=>bu E 54 hF (fun c34 hF E=>?_) fun c34 hF E=>?_
   ·refine fk E ok qcT qay rfl 1 rfl rfl fun a E=>lw E (qdj rfl rfl) fun a E=>pt E rfl rfl fun a E=>pf E rfl rfl fun a E=>wpList_nil ?_
    cases hF
    exact ⟨rfl,⟨ok,E.keep [1,2,5,59]⟩⟩
   refine lsq E fun a E=>ls E fun a E=>pf E rfl rfl fun a E=>pf E rfl rfl fun a E=>wpList_nil ?_
   cases hF
   exact ⟨rfl,⟨ok,E.keep [1,2,5,59]⟩⟩
 intro e a w hO
 obtain ⟨rfl,ok,E⟩:=hO
 refine qaa<|cf E rfl hF (fun c40 hF=>?_) fun c40 hF=>?_
 ·refine sg<|aw E rfl fun a E=>wp_ret<|qad ?_
  exact fin hF ⟨(ok.drop.drop.drop).down hb0 le_m0,E.d,rz E rfl⟩
 refine wp_skip<|qaa<|wp_seq<|wp_seq<|bd hF fun o41 hJ hF=>qaH (Q':=fun e a w=>e = .normal ∧ Ok u m24 ([(b27,oc 227 [vb r22.1.a,vb r22.1.b,vb r22.1.s])] :: [(b21,oc 78 [vi x8.Op,vi x8.A,vi x8.B,vs x8.S])] :: [(b5,oc 49 [c1,c3])] :: S) w ∧ Env 168 a [(1,vi i_1),(2,vp b5),(5,vp b21),(80,vb o41)]) ?_ ?_
 ·as_aux_lemma =>
   have hF:=hJ
   refine qab<|fk E ok qeX qam rfl 1 rfl rfl fun a E=>lw E (qaq rfl rfl) fun a E=>mv E rfl fun a E=>bw E 63 hF (fun c42 hF E=>?_) fun c42 hF E=>?_
   ·refine lsq E fun a E=>ls E fun a E=>pf E rfl rfl fun a E=>mv E rfl fun a E=>lsz E fun a E=>lsz E fun a E=>lsq E fun a E=>ls E fun a E=>?_
    refine pf E rfl rfl fun a E=>wpList_nil ?_
    cases hF
    exact ⟨rfl,⟨ok,E.keep [1,2,5,80]⟩⟩
   refine fk E ok qeX qam rfl 1 rfl rfl fun a E=>lw E (qaR rfl rfl) fun a E=>pt E rfl rfl fun a E=>mv E rfl fun a E=>bw E 68 hF (fun c43 hF E=>?_) fun c43 hF E=>?_
   ·refine lsz E fun a E=>lsz E fun a E=>lsq E fun a E=>ls E fun a E=>pf E rfl rfl fun a E=>wpList_nil ?_
    cases hF
    exact ⟨rfl,⟨ok,E.keep [1,2,5,80]⟩⟩
   refine fk E ok qfX qam rfl 1 rfl rfl fun a E=>lw E (qap rfl rfl) fun a E=>mv E rfl fun a E=>bu E 72 hF (fun c44 hF E=>?_) fun c44 hF E=>?_
   ·refine lsz E fun a E=>lsq E fun a E=>pt E rfl rfl fun a E=>pt E rfl rfl fun a E=>wpList_nil ?_
    cases hF
    exact ⟨rfl,⟨ok,E.keep [1,2,5,80]⟩⟩
   refine fk E ok qfX qam rfl 1 rfl rfl fun a E=>fk E ok qoY qi0 rfl 2 rfl rfl fun a E=>lv E ok (qaP qkE h2 rfl) fun a E=>lw E (qaq rfl rfl) fun a E=>pf E rfl rfl fun a E=>pt E rfl rfl fun a E=>wpList_nil ?_
   cases hF
   exact ⟨rfl,⟨ok,E.keep [1,2,5,80]⟩⟩
 intro e a w hO
 obtain ⟨rfl,ok,E⟩:=hO
 refine qaa<|cf E rfl hF (fun c45 hF=>?_) fun c45 hF=>?_
 ·refine sg<|aw E rfl fun a E=>wp_ret<|qad ?_
  exact fin hF ⟨(ok.drop.drop.drop).down hb0 le_m0,E.d,rz E rfl⟩
 refine wp_skip<|qaa<|wp_seq<|sg<|fk E ok qeX qam rfl 1 rfl rfl fun a E=>wn<|wp_block<|sg<|lw E (qah rfl rfl) fun a E=>aw E rfl fun a E=>cf E rfl hF (fun c46 hF=>?_) fun c46 hF=>?_
 ·refine sg<|fk E ok qcT qay rfl 1 rfl rfl fun a E=>lw E (qdj rfl rfl) fun a E=>aw E rfl fun a E=>wp_ret<|qak<|qad ?_
  exact fin hF ⟨(ok.drop.drop.drop).down hb0 le_m0,E.d,rz E rfl⟩
 refine wp_seq<|sg<|lw E (qah rfl rfl) fun a E=>aw E rfl fun a E=>bd hF fun o47 hJ hF=>qaH (Q':=fun e a w=>e = .normal ∧ Ok u m24 ([(b27,oc 227 [vb r22.1.a,vb r22.1.b,vb r22.1.s])] :: [(b21,oc 78 [vi x8.Op,vi x8.A,vi x8.B,vs x8.S])] :: [(b5,oc 49 [c1,c3])] :: S) w ∧ Env 168 a [(1,vi i_1),(2,vp b5),(5,vp b21),(82,vi x8.Op),(88,vb o47)]) ?_ ?_
 ·have hF:=hJ
  refine cf E rfl hF (fun c48 hF=>?_) fun c48 hF=>?_
  ·refine wp_skip ?_
   cases hF
   exact ⟨rfl,⟨ok,E.keep [1,2,5,82,88]⟩⟩
  refine sg<|lw E (qah rfl rfl) fun a E=>aw E rfl fun a E=>cf E rfl hF (fun c49 hF=>?_) fun c49 hF=>?_
  ·refine wp_skip ?_
   cases hF
   exact ⟨rfl,⟨ok,E.keep [1,2,5,82,88]⟩⟩
  refine sg<|lw E (qah rfl rfl) fun a E=>aw E rfl fun a E=>cf E rfl hF (fun c50 hF=>?_) fun c50 hF=>?_
  ·refine wp_skip ?_
   cases hF
   exact ⟨rfl,⟨ok,E.keep [1,2,5,82,88]⟩⟩
  refine sg<|lw E (qah rfl rfl) fun a E=>aw E rfl fun a E=>cf E rfl hF (fun c51 hF=>?_) fun c51 hF=>?_
  ·refine wp_skip ?_
   cases hF
   exact ⟨rfl,⟨ok,E.keep [1,2,5,82,88]⟩⟩
  refine qab<|lw E (qah rfl rfl) fun a E=>av E rfl fun a E=>wpList_nil ?_
  cases hF
  exact ⟨rfl,⟨ok,E.keep [1,2,5,82,88]⟩⟩
 intro e a w hO
 obtain ⟨rfl,ok,E⟩:=hO
 refine qaa<|cf E rfl hF (fun c52 hF=>?_) fun c52 hF=>?_
 ·refine sg<|fk E ok qcT qay rfl 1 rfl rfl fun a E=>bd hF fun r53 e54 hF=>lc E qf6 rfl (qc7 N x8.S l20 e54 hG ok) fun w ok a E=>aw E rfl fun a E=>wp_ret<|qak<|qad ?_
  exact fin hF ⟨(ok.drop.drop.drop).down hb0 le_m0,E.d,rz E rfl⟩
 refine sg<|lw E (qah rfl rfl) fun a E=>aw E rfl fun a E=>cf E rfl hF (fun c55 hF=>?_) fun c55 hF=>?_
 ·refine sg<|fk E ok qcT qay rfl 1 rfl rfl fun a E=>lw E (qcH rfl rfl) fun a E=>mv E rfl fun a E=>bu E 102 hF (fun c56 hF E=>?_) fun c56 hF E=>?_
  ·refine lsq E fun a E=>ls E fun a E=>pt E rfl rfl fun a E=>mv E rfl fun a E=>lsq E fun a E=>ls E fun a E=>pt E rfl rfl fun a E=>aw E rfl fun a E=>wp_ret<|qak<|qad ?_
   exact fin hF ⟨(ok.drop.drop.drop).down hb0 le_m0,E.d,rz E rfl⟩
  refine fk E ok qcT qay rfl 1 rfl rfl fun a E=>lw E (qcH rfl rfl) fun a E=>pf E rfl rfl fun a E=>mv E rfl fun a E=>bu E 107 hF (fun c57 hF E=>?_) fun c57 hF E=>?_
  ·refine lsq E fun a E=>ls E fun a E=>pt E rfl rfl fun a E=>aw E rfl fun a E=>wp_ret<|qak<|qad ?_
   exact fin hF ⟨(ok.drop.drop.drop).down hb0 le_m0,E.d,rz E rfl⟩
  refine fk E ok qcT qay rfl 1 rfl rfl fun a E=>lw E (qcH rfl rfl) fun a E=>pf E rfl rfl fun a E=>aw E rfl fun a E=>wp_ret<|qak<|qad ?_
  exact fin hF ⟨(ok.drop.drop.drop).down hb0 le_m0,E.d,rz E rfl⟩
 refine sg<|lw E (qah rfl rfl) fun a E=>aw E rfl fun a E=>cf E rfl hF (fun c58 hF=>?_) fun c58 hF=>?_
 ·refine sg<|fk E ok qcT qay rfl 1 rfl rfl fun a E=>?_
  cases hF
 refine sg<|lw E (qah rfl rfl) fun a E=>aw E rfl fun a E=>cf E rfl hF (fun c59 hF=>?_) fun c59 hF=>?_
 ·refine sg<|lv E ok (qan (cs:=[c1,c3]) qd2 rfl rfl (Holds.own 2 rfl rfl)) fun a E=>mv E rfl fun a E=>?_
  cases hF
 refine sg<|lw E (qah rfl rfl) fun a E=>aw E rfl fun a E=>cg E rfl hF (fun c60 hF=>?_) fun c60 hF=>?_
 ·refine sg<|lw E (qah rfl rfl) fun a E=>aw E rfl fun a E=>cf E rfl hF (fun c90 hF=>?_) fun c90 hF=>?_
  ·refine sg<|lv E ok (qan (cs:=[c1,c3]) qd2 rfl rfl (Holds.own 2 rfl rfl)) fun a E=>mv E rfl fun a E=>fk E ok qfX qam rfl 1 rfl rfl fun a E=>?_
   cases hF
  refine sg<|lw E (qah rfl rfl) fun a E=>aw E rfl fun a E=>cg E rfl hF (fun c91 hF=>?_) fun c91 hF=>?_
  ·refine wp_skip<|qac<|qaa<|sg<|aw E rfl fun a E=>wp_ret ?_
   exact fin hF ⟨(ok.drop.drop.drop).down hb0 le_m0,E.d,rz E rfl⟩
  refine sg<|mv E rfl fun a E=>fk E ok qdD qez rfl 2 rfl rfl fun a E=>lv E ok (qaP qe8 h4 rfl) fun a E=>lw E (qbI rfl rfl) fun a E=>lw E (qah rfl rfl) fun a E=>aw E rfl fun a E=>wp_ret<|qak<|qad ?_
  exact fin hF ⟨(ok.drop.drop.drop).down hb0 le_m0,E.d,rz E rfl⟩
 refine sg<|mv E rfl fun a E=>lw E (qaK rfl rfl) fun a E=>mv E rfl fun a E=>bw E 126 hF (fun c61 hF E=>?_) fun c61 hF E=>?_
 ·refine lsz E fun a E=>lsz E fun a E=>lsz E fun a E=>lsz E fun a E=>?_
  refine lsq E fun a E=>pf E rfl rfl fun a E=>mv E rfl fun a E=>lsz E fun a E=>ls E fun a E=>pf E rfl rfl fun a E=>aw E rfl fun a E=>wp_ret<|qak<|qad ?_
  exact fin hF ⟨(ok.drop.drop.drop).down hb0 le_m0,E.d,rz E rfl⟩
 refine fk E ok qdD qez rfl 2 rfl rfl fun a E=>mv E rfl fun a E=>lw E (qhq rfl rfl (InR.dec ri_1 (ir 0) c61)) fun a E=>?_
 obtain ⟨x62,e63,hF⟩:=bnd hF
 obtain ⟨b64,o65,es66,hl67,rr68,at69,yy70⟩:=ia E 128 130 qe8 h4 e63
 obtain ⟨rfl,r71,r72,r73,l74⟩:=rr68
 refine lv E ok (yy70 _ _) fun a E=>fv E qeX rfl fun a E=>lv E ok (qal qam rfl (Holds.ro (At.sub 0 1 at69))) fun a E=>lw E (qah rfl rfl) fun a E=>mv E rfl fun a E=>bu E 135 hF (fun c75 hF E=>?_) fun c75 hF E=>?_
 ·refine lsz E fun a E=>lsz E fun a E=>pt E rfl rfl fun a E=>pt E rfl rfl fun a E=>mv E rfl fun a E=>lv E ok (qan (cs:=[c1,c3]) qd2 rfl rfl (Holds.own 2 rfl rfl)) fun a E=>mv E rfl fun a E=>fk E ok qfX qam rfl 1 rfl rfl fun a E=>?_
  cases hF
 refine fk E ok qdD qez rfl 2 rfl rfl fun a E=>mv E rfl fun a E=>lw E (qhq rfl rfl (InR.dec ri_1 (ir 0) c61)) fun a E=>?_
 obtain ⟨x76,e77,hF⟩:=bnd hF
 obtain ⟨b78,o79,es80,hl81,rr82,at83,yy84⟩:=ia E 137 139 qe8 h4 e77
 obtain ⟨rfl,r85,r86,r87,l88⟩:=rr82
 refine lv E ok (yy84 _ _) fun a E=>fv E qeX rfl fun a E=>lv E ok (qal qam rfl (Holds.ro (At.sub 0 1 at83))) fun a E=>lw E (qah rfl rfl) fun a E=>pf E rfl rfl fun a E=>pt E rfl rfl fun a E=>mv E rfl fun a E=>bu E 146 hF (fun c89 hF E=>?_) fun c89 hF E=>?_
 ·refine lv E ok (qan (cs:=[c1,c3]) qd2 rfl rfl (Holds.own 2 rfl rfl)) fun a E=>mv E rfl fun a E=>fk E ok qfX qam rfl 1 rfl rfl fun a E=>?_
  cases hF
 refine lsz E fun a E=>ls E fun a E=>pf E rfl rfl fun a E=>av E rfl fun a E=>wn<|wp_ret<|qak<|qad ?_
 exact fin hF ⟨(ok.drop.drop.drop).down hb0 le_m0,E.d,rz E rfl⟩
def qkv (u:World) (m0:Mem) (S:Segs) (pb0:Nat) (x0:Flow) (c1:Value) (c3:Value) (c5:Value) (M6:List (Nat × Obj)) (c8:Value) (M9:List (Nat × Obj)) (c11:Value) (M12:List (Nat × Obj)) (r:Flow) (a:Act) (w:World):Prop :=
 ∃ m1 c14 c16 c18 M19 c21 M22 c24 M25,m0.le m1 ∧ Ok u m1 ([(pb0,oc 175 [c14,c16,c18,c21,c24])] :: M19 :: M22 :: M25 :: S) w ∧ a.defers = [] ∧ RVs Tryz.prog a w [] ∧ (pL 1 pS) m1 [c14] r.c.Names ∧ (pL 4 pIns) m1 [c16] r.c.Ins ∧ ORow 231 1 (pK 1 pS) m1 c18 r.open_ M19 ∧ ORow 4 1 pB m1 c21 r.reached M22 ∧ ORow 4 1 pB m1 c24 r.clash M25
theorem qer (N:Nat) (to_1:Int) (rto_1:InR .i64 to_1) (vopen_2:Value) (open_2:List (List UInt8)) (hopen_2:(pK 1 pS) m0 [vopen_2] open_2) {pb0:Nat} {c1:Value} {c3:Value} {c5:Value} {M6:List (Nat × Obj)} {c8:Value} {M9:List (Nat × Obj)} {c11:Value} {M12:List (Nat × Obj)} (x0:Flow) (h2:(pL 1 pS) m0 [c1] x0.c.Names) (h4:(pL 4 pIns) m0 [c3] x0.c.Ins) (h7:ORow 231 1 (pK 1 pS) m0 c5 x0.open_ M6) (h10:ORow 4 1 pB m0 c8 x0.reached M9) (h13:ORow 4 1 pB m0 c11 x0.clash M12) {r:Flow} (hF:qdo N to_1 open_2 x0 = some r) (hG:Glob u) (ok:Ok u m0 ([(pb0,oc 175 [c1,c3,c5,c8,c11])] :: M6 :: M9 :: M12 :: S) w) :
  Calls Tryz.prog 150 [vp pb0,vi to_1,vopen_2].toArray w fun e w'=>∃ m1 c14 c16 c18 M19 c21 M22 c24 M25,e = .returned (.tuple [].toArray) ∧ m0.le m1 ∧ Ok u m1 ([(pb0,oc 175 [c14,c16,c18,c21,c24])] :: M19 :: M22 :: M25 :: S) w' ∧ (pL 1 pS) m1 [c14] r.c.Names ∧ (pL 4 pIns) m1 [c16] r.c.Ins ∧ ORow 231 1 (pK 1 pS) m1 c18 r.open_ M19 ∧ ORow 4 1 pB m1 c21 r.reached M22 ∧ ORow 4 1 pB m1 c24 r.clash M25:=by
 have le_m0:=Mem.le.refl m0
 unfold qdo at hF
 refine en (qkv u m0 S pb0 x0 c1 c3 c5 M6 c8 M9 c11 M12) r Tryz.func150 rfl rfl rfl (by rintro a w ⟨m1,c14,c16,c18,M19,c21,M22,c24,M25,hle,ok,hd,hrv,h0,h1,h2,h3,h4⟩; exact qaT [] hd rfl hrv ⟨m1,c14,c16,c18,M19,c21,M22,c24,M25,rfl,hle,ok,h0,h1,h2,h3,h4⟩) fun fin a E=>wp_seq<|sg<|mv E rfl fun a E=>lw E (qae rfl) fun a E=>fk E ok qi6 qiJ rfl 0 rfl rfl fun a E=>mv E rfl fun a E=>?_
 obtain ⟨x27,e28,hF⟩:=bnd hF
 obtain ⟨b29,o30,hp31,yy32⟩:=qbC qbh h10 e28 (P:=Tryz.prog) (X:=.tmp 9) (I:=.tmp 10) (kd:=.i64) (qaJ E rfl) (qaJ E rfl)
 refine lv E ok (yy32 _ _) fun a E=>?_
 obtain ⟨es33,hl34,rr35,hh36⟩:=qds h10 e28 hp31 (by decide)
 obtain rfl:=rr35
 refine lv E ok (qal qeP rfl (hh36 _ _ _ 2 rfl)) fun a E=>wn<|cf E rfl hF (fun c37 hF=>?_) fun c37 hF=>?_
 ·refine wp_seq ?_
  cases hF
 refine wp_skip<|qaa<|bd hF fun o71 hJ hF=>qaH (Q':=fun e a w=>e = .normal ∧ ∃ c72 c74 c76 M77 c79 M80 c82 M83,Ok u m0 ([(pb0,oc 175 [c72,c74,c76,c79,c82])] :: M77 :: M80 :: M83 :: S) w ∧ Env 51 a [] ∧ (pL 1 pS) m0 [c72] o71.c.Names ∧ (pL 4 pIns) m0 [c74] o71.c.Ins ∧ ORow 231 1 (pK 1 pS) m0 c76 o71.open_ M77 ∧ ORow 4 1 pB m0 c79 o71.reached M80 ∧ ORow 4 1 pB m0 c82 o71.clash M83) ?_ ?_
 rotate_left
 ·intro e a w hO
  obtain ⟨rfl,c117,c119,c121,M122,c124,M125,c127,M128,ok,E,h118,h120,h123,h126,h129⟩:=hO
  exact fin hF ⟨m0,c117,c119,c121,M122,c124,M125,c127,M128,le_m0,ok,E.d,trivial,h118,h120,h123,h126,h129⟩
 have hF:=hJ
 obtain ⟨x85,e86,hF⟩:=bnd hF
 obtain ⟨l91,e92,hF⟩:=bnd hF
 obtain ⟨x95,e96,hF⟩:=bnd hF
 obtain ⟨l101,e102,hF⟩:=bnd hF
 obtain rfl:=sj hF
 refine qco [3,8] (Cls u m0 ([(pb0,oc 175 [c1,c3,c5,c8,c11])] :: M12 :: [])) (Cls u m0 (M12 :: [])) (by kernel_rfl) ?_
 intro w hw
 replace ok:=qc8 ok hw
 clear hw
 refine qas (cl1 (cq le_m0 ok [0,3] rfl) (cq le_m0 ok [3] rfl)) fun hT=>kt 0 E rfl hT (qai rfl) fun a E=>kt 1 E rfl hT (qae rfl) fun a E=>kt 2 E rfl hT (qag qi6 rfl) fun a E=>qeI 3 E rfl (by kernel_rfl) nP hT (qal qiJ rfl (Holds.cown 0 rfl rfl)) rfl rfl fun a E=>kt 4 E rfl hT (qai rfl) fun a E=>kt 5 E rfl hT (qai rfl) fun a E=>kt 6 E rfl hT (qae rfl) fun a E=>kt 7 E rfl hT (qag qnW rfl) fun a E=>qeI 8 E rfl (by kernel_rfl) nP hT (qal qoW rfl (Holds.cown 0 rfl rfl)) rfl rfl fun a E=>kt 9 E rfl hT (qai rfl) fun a E=>kt 10 E rfl hT (qai rfl) fun a E=>?_
 obtain ⟨b105,o106,hp107,yy108⟩:=qbC qbh h10 e86 (P:=Tryz.prog) (X:=.tmp 41) (I:=.tmp 42) (kd:=.i64) (qaJ E rfl) (qaJ E rfl)
 refine kt 11 E rfl hT (yy108 _ _) fun a E=>qaS [12] (by kernel_rfl) rfl (qaZ ?_)
 ·refine wo rfl<|qbX (R:=pB) E ok 2 rfl h10 e86 hp107 rfl rfl qrp rfl rfl rfl ⟨rfl,trivial⟩ qdi e92 rfl fun M109 w ok h110=>wn<|qas (cl2 (by kernel_rfl) (cq le_m0 ok [3] rfl)) fun hT=>?_
  obtain ⟨b111,o112,hp113,yy114⟩:=qbC qhR h7 e96 (P:=Tryz.prog) (X:=.tmp 46) (I:=.tmp 47) (kd:=.i64) (qaJ E rfl) (qaJ E rfl)
  refine kt 13 E rfl hT (yy114 _ _) fun a E=>qaS [14] (by kernel_rfl) rfl (qaZ ?_)
  ·refine wo rfl<|qbX (R:=(pK 1 pS)) E ok 1 rfl h7 e96 hp113 rfl rfl qsw (qnP hopen_2) rfl rfl ⟨(qsO hopen_2),trivial⟩ hopen_2 e102 rfl fun M115 w ok h116=>wn<|qas (cl2 (by kernel_rfl) (cq le_m0 ok [3] rfl)) fun hT=>qbJ (by kernel_rfl) ?_
   exact ⟨rfl,⟨c1,c3,c5,M115,c8,M109,c11,M12,ok,E.keep [],h2,h4,h116,h110,h13⟩⟩
def qjQ (u:World) (m0:Mem) (S:Segs) (pb0:Nat) (x0:Flow) (c1:Value) (c3:Value) (c5:Value) (M6:List (Nat × Obj)) (c8:Value) (M9:List (Nat × Obj)) (c11:Value) (M12:List (Nat × Obj)) (r:Bool × Flow) (a:Act) (w:World):Prop :=
 ∃ m1 c14 c16 c18 M19 c21 M22 c24 M25,m0.le m1 ∧ Ok u m1 ([(pb0,oc 175 [c14,c16,c18,c21,c24])] :: M19 :: M22 :: M25 :: S) w ∧ a.defers = [] ∧ RVs Tryz.prog a w [.t 4 (.bool r.1)] ∧ (pL 1 pS) m1 [c14] r.2.c.Names ∧ (pL 4 pIns) m1 [c16] r.2.c.Ins ∧ ORow 231 1 (pK 1 pS) m1 c18 r.2.open_ M19 ∧ ORow 4 1 pB m1 c21 r.2.reached M22 ∧ ORow 4 1 pB m1 c24 r.2.clash M25
theorem qj3 (N:Nat) (i_1:Int) (ri_1:InR .i64 i_1) {pb0:Nat} {c1:Value} {c3:Value} {c5:Value} {M6:List (Nat × Obj)} {c8:Value} {M9:List (Nat × Obj)} {c11:Value} {M12:List (Nat × Obj)} (x0:Flow) (h2:(pL 1 pS) m0 [c1] x0.c.Names) (h4:(pL 4 pIns) m0 [c3] x0.c.Ins) (h7:ORow 231 1 (pK 1 pS) m0 c5 x0.open_ M6) (h10:ORow 4 1 pB m0 c8 x0.reached M9) (h13:ORow 4 1 pB m0 c11 x0.clash M12) {r:Bool × Flow} (hF:qfE N i_1 x0 = some r) (hG:Glob u) (ok:Ok u m0 ([(pb0,oc 175 [c1,c3,c5,c8,c11])] :: M6 :: M9 :: M12 :: S) w) :
  Calls Tryz.prog 103 [vp pb0,vi i_1].toArray w fun e w'=>∃ m1 c14 c16 c18 M19 c21 M22 c24 M25,e = .returned (.bool r.1) ∧ m0.le m1 ∧ Ok u m1 ([(pb0,oc 175 [c14,c16,c18,c21,c24])] :: M19 :: M22 :: M25 :: S) w' ∧ (pL 1 pS) m1 [c14] r.2.c.Names ∧ (pL 4 pIns) m1 [c16] r.2.c.Ins ∧ ORow 231 1 (pK 1 pS) m1 c18 r.2.open_ M19 ∧ ORow 4 1 pB m1 c21 r.2.reached M22 ∧ ORow 4 1 pB m1 c24 r.2.clash M25:=by
 have le_m0:=Mem.le.refl m0
 unfold qfE at hF
 refine en (qjQ u m0 S pb0 x0 c1 c3 c5 M6 c8 M9 c11 M12) r Tryz.func103 rfl rfl rfl (by rintro a w ⟨m1,c14,c16,c18,M19,c21,M22,c24,M25,hle,ok,hd,hrv,h0,h1,h2,h3,h4⟩; exact qaT [.t 4 (.bool r.1)] hd rfl hrv ⟨m1,c14,c16,c18,M19,c21,M22,c24,M25,rfl,hle,ok,h0,h1,h2,h3,h4⟩) fun fin a E=>sg<|aw E rfl fun a E=>wp_seq<|sg<|mv E rfl fun a E=>lw E (qae rfl) fun a E=>fk E ok qrd qiJ rfl 0 rfl rfl fun a E=>mv E rfl fun a E=>?_
 obtain ⟨x27,e28,hF⟩:=bnd hF
 obtain ⟨b29,o30,hp31,yy32⟩:=qbC qbh h13 e28 (P:=Tryz.prog) (X:=.tmp 12) (I:=.tmp 13) (kd:=.i64) (qaJ E rfl) (qaJ E rfl)
 refine lv E ok (yy32 _ _) fun a E=>?_
 obtain ⟨es33,hl34,rr35,hh36⟩:=qds h13 e28 hp31 (by decide)
 obtain rfl:=rr35
 refine lv E ok (qal qeP rfl (hh36 _ _ _ 3 rfl)) fun a E=>wn<|cf E rfl hF (fun c37 hF=>?_) fun c37 hF=>?_
 ·refine sg<|aw E rfl fun a E=>wp_ret<|qad ?_
  exact fin hF ⟨m0,c1,c3,c5,M6,c8,M9,c11,M12,le_m0,ok,E.d,rz E rfl,h2,h4,h7,h10,h13⟩
 refine wp_skip<|qaa<|sg<|mv E rfl fun a E=>lw E (qae rfl) fun a E=>fk E ok qnW qoW rfl 0 rfl rfl fun a E=>mv E rfl fun a E=>?_
 obtain ⟨x38,e39,hF⟩:=bnd hF
 obtain ⟨b40,o41,hp42,yy43⟩:=qbC qhR h7 e39 (P:=Tryz.prog) (X:=.tmp 19) (I:=.tmp 20) (kd:=.i64) (qaJ E rfl) (qaJ E rfl)
 refine lv E ok (yy43 _ _) fun a E=>?_
 obtain ⟨es44,hl45,rr46,hh47⟩:=qds h7 e39 hp42 (by decide)
 obtain ⟨c48,rfl,h49⟩:=qr7 rr46
 refine lv E ok (qal qo5 rfl (hh47 _ _ _ 1 rfl)) fun a E=>aw E rfl fun a E=>wp_seq<|sg<|mv E rfl fun a E=>lw E (qae rfl) fun a E=>fv E qn9 rfl fun a E=>fk E ok qdD qez rfl 0 rfl rfl fun a E=>mv E rfl fun a E=>?_
 obtain ⟨x50,e51,hF⟩:=bnd hF
 obtain ⟨b52,o53,es54,hl55,rr56,at57,yy58⟩:=ia E 27 28 qe8 h4 e51
 obtain ⟨rfl,r59,r60,r61,l62⟩:=rr56
 refine lv E ok (yy58 _ _) fun a E=>lv E ok (qan (cs:=[vi x50.Op,vi x50.A,vi x50.B,vs x50.S]) qko rfl rfl (Holds.ro at57)) fun a E=>qa4 E ok qej rfl rfl fun b63 a w E ok=>qax E ok 0 rfl rfl rfl qnM rfl rfl ⟨rfl,rfl,rfl,rfl,trivial⟩ rfl rfl fun w ok=>wn<|sg<|fk E ok qeX qam rfl 0 rfl rfl fun a E=>wn<|wp_block<|sg<|lw E (qah rfl rfl) fun a E=>aw E rfl fun a E=>cf E rfl hF (fun c64 hF=>?_) fun c64 hF=>?_
 ·refine sg<|mv E rfl fun a E=>lv E ok (qqu Tryz.underlying231 h49 rfl rfl) fun a E=>aw E rfl fun a E=>wp_ret<|qak<|qad ?_
  exact fin hF ⟨m0,c1,c3,c5,M6,c8,M9,c11,M12,le_m0,ok.drop,E.d,rz E rfl,h2,h4,h7,h10,h13⟩
 refine sg<|lw E (qah rfl rfl) fun a E=>aw E rfl fun a E=>cf E rfl hF (fun c65 hF=>?_) fun c65 hF=>?_
 ·refine qab<|mv E rfl fun a E=>fk E ok qfX qam rfl 0 rfl rfl fun a E=>mv E rfl fun a E=>?_
  obtain ⟨r66,e67,hF⟩:=bnd hF
  replace ok:Ok u m0 ([(pb0,oc 175 [c1,c3,c5,c8,c11])] :: M6 :: M9 :: M12 :: [(b63,oc 78 [vi x50.Op,vi x50.A,vi x50.B,vs x50.S])] :: S) w:=(ok.pk 5 [1,2,3,4,0] rfl (by decide))
  refine qaf E qlP rfl (qer N x50.A r60 _ x38 h49 x0 h2 h4 h7 h10 h13 e67 hG ok) rfl rfl ?_
  rintro _ w ⟨m68,c69,c71,c73,M74,c76,M77,c79,M80,rfl,hle,ok,h70,h72,h75,h78,h81⟩
  have le_m0:=le_m0.trans hle
  have h2:=(mL mS).up hle h2
  have h4:=(mL mIns).up hle h4
  have h49:=(mK mS).up hle h49
  have at57:=At.up hle at57
  refine ⟨_,rfl,fun a E=>?_⟩
  refine wpList_nil<|qac<|qaa<|sg<|aw E rfl fun a E=>wp_ret ?_
  exact fin hF ⟨m68,c69,c71,c73,M74,c76,M77,c79,M80,le_m0,(ok.pk 5 [0,1,2,3] rfl (by decide)),E.d,rz E rfl,h70,h72,h75,h78,h81⟩
 refine sg<|lw E (qah rfl rfl) fun a E=>aw E rfl fun a E=>cf E rfl hF (fun c82 hF=>?_) fun c82 hF=>?_
 ·refine sg<|mv E rfl fun a E=>lw E (qae rfl) fun a E=>fv E qn9 rfl fun a E=>lv E ok (qan (cs:=[c1,c3]) qd2 rfl rfl (Holds.own 1 rfl rfl)) fun a E=>mv E rfl fun a E=>?_
  cases hF
 refine sg<|lw E (qah rfl rfl) fun a E=>aw E rfl fun a E=>cf E rfl hF (fun c83 hF=>?_) fun c83 hF=>?_
 ·refine qab<|mz E rfl rfl fun a E=>lw E (qaF rfl rfl) fun a E=>fk E ok qcT qay rfl 0 rfl rfl fun a E=>mv E rfl fun a E=>lw E (qaL (ps:=[(0,.tmp 74),(1,.tmp 75)]) (qs:=[(0,[vs x50.S]),(1,[c48])]) (cs:=[vs x50.S,c48]) qq2 qpD rfl ⟨rfl,rfl,rfl,⟨rfl,(qnP h49),rfl,trivial⟩⟩ rfl) fun a E=>qbF E ok rfl rfl rfl fun b84 a w E ok=>?_
  have hlk:=(show pS m0 [vs x50.S] x50.S from (qtP l62))
  have hln:=(show (pK 1 pS) m0 [c48] x38 from h49)
  obtain ⟨m85,hle,ok,hfz⟩:=(ok.frs 0 rfl).freeze
  have h86:=qrL mS hlk hln rfl hle hfz rfl
  clear hlk hln
  have le_m0:=le_m0.trans hle
  have h2:=(mL mS).up hle h2
  have h4:=(mL mIns).up hle h4
  have h7:=ORow.up (mK mS) hle h7
  have h10:=ORow.up mB hle h10
  have h13:=ORow.up mB hle h13
  have h49:=(mK mS).up hle h49
  have at57:=At.up hle at57
  obtain ⟨r87,e88,hF⟩:=bnd hF
  replace ok:Ok u m85 ([(pb0,oc 175 [c1,c3,c5,c8,c11])] :: M6 :: M9 :: M12 :: [(b63,oc 78 [vi x50.Op,vi x50.A,vi x50.B,vs x50.S])] :: S) w:=(ok.pk 5 [1,2,3,4,0] rfl (by decide))
  refine qaf E qlP rfl (qer N (IntKind.wrap .i64 (i_1 + 1)) (InR.wrap _ _) _ (x50.S :: x38) h86 x0 h2 h4 h7 h10 h13 e88 hG ok) rfl rfl ?_
  rintro _ w ⟨m89,c90,c92,c94,M95,c97,M98,c100,M101,rfl,hle,ok,h91,h93,h96,h99,h102⟩
  have le_m0:=le_m0.trans hle
  have h2:=(mL mS).up hle h2
  have h4:=(mL mIns).up hle h4
  have h49:=(mK mS).up hle h49
  have at57:=At.up hle at57
  have h86:=(mK mS).up hle h86
  refine ⟨_,rfl,fun a E=>?_⟩
  refine wpList_nil<|qac<|qaa<|sg<|aw E rfl fun a E=>wp_ret ?_
  exact fin hF ⟨m89,c90,c92,c94,M95,c97,M98,c100,M101,le_m0,(ok.pk 5 [0,1,2,3] rfl (by decide)),E.d,rz E rfl,h91,h93,h96,h99,h102⟩
 refine sg<|lw E (qah rfl rfl) fun a E=>aw E rfl fun a E=>cg E rfl hF (fun c103 hF=>?_) fun c103 hF=>?_
 ·refine qab<|mz E rfl rfl fun a E=>lw E (qaF rfl rfl) fun a E=>mv E rfl fun a E=>?_
  obtain ⟨r144,e145,hF⟩:=bnd hF
  replace ok:Ok u m0 ([(pb0,oc 175 [c1,c3,c5,c8,c11])] :: M6 :: M9 :: M12 :: [(b63,oc 78 [vi x50.Op,vi x50.A,vi x50.B,vs x50.S])] :: S) w:=(ok.pk 5 [1,2,3,4,0] rfl (by decide))
  refine qaf E qlP rfl (qer N (IntKind.wrap .i64 (i_1 + 1)) (InR.wrap _ _) _ x38 h49 x0 h2 h4 h7 h10 h13 e145 hG ok) rfl rfl ?_
  rintro _ w ⟨m146,c147,c149,c151,M152,c154,M155,c157,M158,rfl,hle,ok,h148,h150,h153,h156,h159⟩
  have le_m0:=le_m0.trans hle
  have h2:=(mL mS).up hle h2
  have h4:=(mL mIns).up hle h4
  have h49:=(mK mS).up hle h49
  have at57:=At.up hle at57
  refine ⟨_,rfl,fun a E=>?_⟩
  refine wpList_nil<|qac<|qaa<|sg<|aw E rfl fun a E=>wp_ret ?_
  exact fin hF ⟨m146,c147,c149,c151,M152,c154,M155,c157,M158,le_m0,(ok.pk 5 [0,1,2,3] rfl (by decide)),E.d,rz E rfl,h148,h150,h153,h156,h159⟩
 refine wp_seq<|wp_seq<|qce (by kernel_rfl) (by kernel_rfl) ok<|qv E (qai rfl) fun a E=>qv E (qqu Tryz.underlying231 h49 rfl rfl) fun a E=>qv E (qai rfl) fun a E=>bu E 83 hF (fun c104 hF E=>?_) fun c104 hF E=>?_
 ·refine qs E fun a E=>qs E fun a E=>qs E fun a E=>qs E fun a E=>qs E fun a E=>qs E fun a E=>qs E fun a E=>qv E (qbV rfl rfl) fun a E=>wpQuiet_nil ?_
  intro w ok
  refine qaa<|c_if E rfl (fun _=>?_) (fun h=>by cases h)
  refine sg<|aw E rfl fun a E=>wp_ret<|qad<|qak<|qad ?_
  exact fin hF ⟨m0,c1,c3,c5,M6,c8,M9,c11,M12,le_m0,ok.drop,E.d,rz E rfl,h2,h4,h7,h10,h13⟩
 refine qv E (qai rfl) fun a E=>?_
 obtain ⟨q105,e106,hF⟩:=bnd hF
 obtain ⟨b107,o108,es109,c110,hv111,hR112,h113,at114⟩:=qqs h49 e106
 obtain ⟨rfl,l115⟩:=hR112
 refine qv E (qk5 hv111 rfl) fun a E=>qv E (qag qqT rfl) fun a E=>qv E (qal qay rfl (Holds.ro (At.sub 0 1 at114))) fun a E=>qv E (qag qcT rfl) fun a E=>qv E (qal qay rfl (Holds.own 0 rfl rfl)) fun a E=>qv E (qdj rfl rfl) fun a E=>qv E (qcD rfl rfl) fun a E=>wpQuiet_nil ?_
 intro w ok
 refine qaa<|cf E rfl hF (fun c116 hF=>?_) fun c116 hF=>?_
 ·refine sg<|aw E rfl fun a E=>wp_ret<|qad<|qak<|qad ?_
  exact fin hF ⟨m0,c1,c3,c5,M6,c8,M9,c11,M12,le_m0,ok.drop,E.d,rz E rfl,h2,h4,h7,h10,h13⟩
 refine wp_skip<|qaa<|qab<|mz E rfl rfl fun a E=>lw E (qaF rfl rfl) fun a E=>mv E rfl fun a E=>?_
 obtain ⟨q117,e118,hF⟩:=bnd hF
 obtain ⟨b119,o120,es121,c122,hv123,hR124,h125,at126⟩:=qqs h49 e118
 obtain ⟨rfl,l127⟩:=hR124
 refine lv E ok (qk5 hv123 rfl) fun a E=>fv E qrl rfl fun a E=>lv E ok (qal qo5 rfl (Holds.ro (At.sub 1 1 at126))) fun a E=>?_
 obtain ⟨r128,e129,hF⟩:=bnd hF
 replace ok:Ok u m0 ([(pb0,oc 175 [c1,c3,c5,c8,c11])] :: M6 :: M9 :: M12 :: [(b63,oc 78 [vi x50.Op,vi x50.A,vi x50.B,vs x50.S])] :: S) w:=(ok.pk 5 [1,2,3,4,0] rfl (by decide))
 refine qaf E qlP rfl (qer N (IntKind.wrap .i64 (i_1 + 1)) (InR.wrap _ _) _ q117.2 h125 x0 h2 h4 h7 h10 h13 e129 hG ok) rfl rfl ?_
 rintro _ w ⟨m130,c131,c133,c135,M136,c138,M139,c141,M142,rfl,hle,ok,h132,h134,h137,h140,h143⟩
 have le_m0:=le_m0.trans hle
 have h2:=(mL mS).up hle h2
 have h4:=(mL mIns).up hle h4
 have h49:=(mK mS).up hle h49
 have at57:=At.up hle at57
 have h113:=(mK mS).up hle h113
 have at114:=At.up hle at114
 have h125:=(mK mS).up hle h125
 have at126:=At.up hle at126
 refine ⟨_,rfl,fun a E=>?_⟩
 refine wpList_nil<|qac<|qaa<|sg<|aw E rfl fun a E=>wp_ret ?_
 exact fin hF ⟨m130,c131,c133,c135,M136,c138,M139,c141,M142,le_m0,(ok.pk 5 [0,1,2,3] rfl (by decide)),E.d,rz E rfl,h132,h134,h137,h140,h143⟩
end Go.Proofs.YthhieiabfpkaaaaGreatDoor
namespace Go.Proofs.YthhieiabfpkaaaaGreatDoor
open Go.X
def qfL (N:Nat) (c_0:Code) (x_13:Int):Option (Int ⊕ ((Unit ⊕ ((Option (Flow)) × Int × Int)))) :=
 bif (decide (x_13 < (c_0.Ins.length:Int))) then
  (qg4 N c_0 x_13).bind fun r16 =>
  bif (!r16) then
   some (.inr (.inr (none,x_13,4)))
  else
   some (.inl (x_13 + 1))
 else
  some (.inr (.inl ()))
def qfN (N:Nat) (c_0:Code) (x_171:Int) (x_172:Flow):Option ((Int × Flow) ⊕ ((Flow ⊕ ((Option (Flow)) × Int × Int)))) :=
 bif (decide (x_171 < (c_0.Ins.length:Int))) then
  (idx x_172.reached x_171).bind fun x189 =>
  bif x189 then
   (qfE N x_171 x_172).bind fun r200 =>
   bif (!r200.1) then
    some (.inr (.inr (none,x_171,7)))
   else
    some (.inl ((x_171 + 1),r200.2))
  else
   some (.inl ((x_171 + 1),x_172))
 else
  some (.inr (.inl x_172))
def qgW (N:Nat) (c_0:Code):Option ((Option (Flow)) × Int × Int) :=
 (qhA N c_0.Names).bind fun r6 =>
 bif (!r6) then
  some (none,0,1)
 else
  bif (decide ((c_0.Ins.length:Int) > 10000)) then
   some (none,0,6)
  else
   (iter (fun s=>qfL N c_0 s) N 0).bind fun o11 =>
   Sum.elim (fun _o11 =>
    bif ((c_0.Ins.length:Int) == 0) then
     some (none,(c_0.Ins.length:Int),4)
    else
     (idx c_0.Ins (IntKind.wrap .i64 ((c_0.Ins.length:Int) - 1))).bind fun x20 =>
     bif (x20.Op != 13) then
      some (none,(c_0.Ins.length:Int),4)
     else
      (show Option Flow from
       (mk (c_0.Ins.length:Int) (([]:List (List UInt8)):List (List UInt8))).bind fun l49 =>
       (mk (c_0.Ins.length:Int) (false:Bool)).bind fun l54 =>
       (mk (c_0.Ins.length:Int) (false:Bool)).bind fun l59 =>
       some (Flow.mk c_0 l49 l54 l59)).bind fun o34 =>
      (idx o34.reached 0).bind fun _x130 =>
      (setI o34.reached 0 true).bind fun l136 =>
      (iter (fun s=>qfN N c_0 s.1 s.2) N (0,(Flow.mk o34.c o34.open_ l136 o34.clash))).bind fun o155 =>
      Sum.elim (fun o155 =>
       some ((some o155),0,0))
      (fun o155 =>
       some o155) o155)
   (fun o11 =>
    some o11) o11
def qhJ (N:Nat) (c_0:Code):Option (Int × Int) :=
 (qgW N c_0).bind fun r6 =>
 some (r6.2.1,r6.2.2)
def qc2 (_N:Nat) (s_1:List UInt8) (x0:Run):Option (Int × Unit × Run) :=
 (app x0.out.buf (ints s_1)).bind fun l77 =>
 some ((s_1.length:Int),(),(Run.mk x0.c x0.loc x0.values x0.isolated (Builder.mk () l77) x0.trace x0.e))
def qeu (_N:Nat) (x0:Run):Option Int :=
 some (x0.out.buf.length:Int)
def qdb (N:Nat) (s_1:List UInt8) (x0:Run):Option Run :=
 (qc2 N s_1 (Run.mk x0.c x0.loc x0.values x0.isolated (Builder.mk () x0.out.buf) x0.trace x0.e)).bind fun r77 =>
 (qeu N (Run.mk r77.2.2.c r77.2.2.loc r77.2.2.values r77.2.2.isolated (Builder.mk () r77.2.2.out.buf) r77.2.2.trace r77.2.2.e)).bind fun r119 =>
 bif (decide (r119 > 20000)) then
  some (Run.mk r77.2.2.c r77.2.2.loc r77.2.2.values r77.2.2.isolated (Builder.mk () r77.2.2.out.buf) r77.2.2.trace 6)
 else
  some (Run.mk r77.2.2.c r77.2.2.loc r77.2.2.values r77.2.2.isolated (Builder.mk () r77.2.2.out.buf) r77.2.2.trace r77.2.2.e)
def qfH (N:Nat) (i_1:Int) (x0:Run):Option (Int × Run) :=
 (app x0.trace ([i_1]:List (Int))).bind fun l80 =>
 (idx x0.c.Ins i_1).bind fun x85 =>
 bif (x85.Op == 1) then
  (qdb N x85.S (Run.mk x0.c x0.loc x0.values x0.isolated (Builder.mk () x0.out.buf) l80 x0.e)).bind fun r100 =>
  some ((IntKind.wrap .i64 (i_1 + 1)),(Run.mk r100.c r100.loc r100.values r100.isolated (Builder.mk () r100.out.buf) r100.trace r100.e))
 else
  bif (x85.Op == 2) then
   (cat ([60]) x85.S).bind fun s142 =>
   (cat s142 ([62])).bind fun s144 =>
   (qdb N s144 (Run.mk x0.c x0.loc x0.values x0.isolated (Builder.mk () x0.out.buf) l80 x0.e)).bind fun r146 =>
   some ((IntKind.wrap .i64 (i_1 + 1)),(Run.mk r146.c r146.loc r146.values r146.isolated (Builder.mk () r146.out.buf) r146.trace r146.e))
  else
   bif (x85.Op == 3) then
    (cat ([60,47]) x85.S).bind fun s188 =>
    (cat s188 ([62])).bind fun s190 =>
    (qdb N s190 (Run.mk x0.c x0.loc x0.values x0.isolated (Builder.mk () x0.out.buf) l80 x0.e)).bind fun r192 =>
    some ((IntKind.wrap .i64 (i_1 + 1)),(Run.mk r192.c r192.loc r192.values r192.isolated (Builder.mk () r192.out.buf) r192.trace r192.e))
   else
    bif (x85.Op == 4) then
     (cat ([60]) x85.S).bind fun s234 =>
     (cat s234 ([62,60,47])).bind fun s236 =>
     (cat s236 x85.S).bind fun s238 =>
     (cat s238 ([62])).bind fun s240 =>
     (qdb N s240 (Run.mk x0.c x0.loc x0.values x0.isolated (Builder.mk () x0.out.buf) l80 x0.e)).bind fun r242 =>
     some ((IntKind.wrap .i64 (i_1 + 1)),(Run.mk r242.c r242.loc r242.values r242.isolated (Builder.mk () r242.out.buf) r242.trace r242.e))
    else
     bif (x85.Op == 10) then
      none
     else
      bif (x85.Op == 12) then
       some (x85.A,(Run.mk x0.c x0.loc x0.values x0.isolated (Builder.mk () x0.out.buf) l80 x0.e))
      else
       none
def qfO (N:Nat) (c_0:Code) (i_159:Int) (x_160:Run):Option ((Int × Run) ⊕ ((Run × Int))) :=
 bif (x_160.e == 0) then
  (idx c_0.Ins i_159).bind fun x202 =>
  bif (x202.Op != 13) then
   (qfH N i_159 (Run.mk x_160.c x_160.loc x_160.values x_160.isolated (Builder.mk () x_160.out.buf) x_160.trace x_160.e)).bind fun r216 =>
   some (.inl (r216.1,(Run.mk r216.2.c r216.2.loc r216.2.values r216.2.isolated (Builder.mk () r216.2.out.buf) r216.2.trace r216.2.e)))
  else
   some (.inr ((Run.mk x_160.c x_160.loc x_160.values x_160.isolated (Builder.mk () x_160.out.buf) x_160.trace x_160.e),i_159))
 else
  some (.inr ((Run.mk x_160.c x_160.loc x_160.values x_160.isolated (Builder.mk () x_160.out.buf) x_160.trace x_160.e),i_159))
def qg5 (N:Nat) (c_0:Code) (loc_1:Locale) (values_2:List (ValueT)) (isolated_3:Bool):Option Run :=
 (qhJ N c_0).bind fun r68 =>
 bif (r68.2 != 0) then
  none
 else
  (iter (fun s=>qfO N c_0 s.1 s.2) N (0,(Run.mk c_0 loc_1 values_2 isolated_3 (Builder.mk () ([])) ([]) 0))).bind fun o118 =>
  bif (o118.1.e == 0) then
   (app o118.1.trace ([o118.2]:List (Int))).bind fun l302 =>
   some (Run.mk o118.1.c o118.1.loc o118.1.values o118.1.isolated (Builder.mk () o118.1.out.buf) l302 o118.1.e)
  else
   some (Run.mk o118.1.c o118.1.loc o118.1.values o118.1.isolated (Builder.mk () o118.1.out.buf) o118.1.trace o118.1.e)
def qil (N:Nat) (c_0:Code) (loc_1:Locale) (values_2:List (ValueT)) (isolated_3:Bool):Option ((List UInt8) × Int) :=
 (qg5 N c_0 loc_1 values_2 isolated_3).bind fun r30 =>
 bif (r30.e != 0) then
  some ([],r30.e)
 else
  some ((qaQ r30.out.buf),0)
end Go.Proofs.YthhieiabfpkaaaaGreatDoor
namespace Go.Proofs.YthhieiabfpkaaaaGreatDoor
open Go.X
variable {u:World} {m0:Mem} {S:Segs} {w:World}
set_option maxHeartbeats 4000000
set_option maxRecDepth 100000
def qf8 (u:World) (m0:Mem) (S:Segs) (r:(Option (Flow)) × Int × Int) (a:Act) (w:World):Prop :=
 ∃ m1 v0,m0.le m1 ∧ Ok u m1 (S) w ∧ a.defers = [] ∧ RVs Tryz.prog a w [.t 2 v0,.t 3 (.int .i64 r.2.1),.t 4 (.int .i64 r.2.2)] ∧ (pP 5 qnn) m1 [v0] r.1 ∧ InR .i64 r.2.1 ∧ InR .i64 r.2.2
theorem qlU (N:Nat) (vc_0:List Value) (c_0:Code) (hc_0:qjm m0 vc_0 c_0) {r:(Option (Flow)) × Int × Int} (hF:qgW N c_0 = some r) (hG:Glob u) (ok:Ok u m0 (S) w) :
  Calls Tryz.prog 67 [.agg vc_0.toArray].toArray w fun e w'=>∃ m1 v0,e = .returned (.tuple [v0,(.int .i64 r.2.1),(.int .i64 r.2.2)].toArray) ∧ m0.le m1 ∧ Ok u m1 (S) w' ∧ (pP 5 qnn) m1 [v0] r.1 ∧ InR .i64 r.2.1 ∧ InR .i64 r.2.2:=by
 obtain ⟨c1,c3,rfl,h2,h4⟩:=hc_0
 have le_m0:=Mem.le.refl m0
 unfold qgW at hF
 refine en (qf8 u m0 S) r Tryz.func67 rfl rfl rfl (by rintro a w ⟨m1,v0,hle,ok,hd,hrv,h0,h1,h2⟩; exact qaT [.t 2 v0,.t 3 (.int .i64 r.2.1),.t 4 (.int .i64 r.2.2)] hd rfl hrv ⟨m1,v0,rfl,hle,ok,h0,h1,h2⟩) fun fin a E=>sg<|qbF E ok rfl rfl rfl fun b5 a w E ok=>av E rfl fun a E=>av E rfl fun a E=>av E rfl fun a E=>wn<|wp_seq<|sg<|fk E ok qoY qi0 rfl 0 rfl rfl fun a E=>bd hF fun r6 e7 hF=>lc E qsT rfl (qmk N _ c_0.Names h2 e7 hG ok) fun w ok a E=>lw E (qbx rfl) fun a E=>wn<|cf E rfl hF (fun c8 hF=>?_) fun c8 hF=>?_
 ·refine sg<|av E rfl fun a E=>av E rfl fun a E=>aw E rfl fun a E=>wp_ret<|qad ?_
  exact fin hF ⟨m0,(Value.pointer none),le_m0,ok.drop,E.d,⟨rv_t E rfl,rv_t E rfl,rv_t E rfl,trivial⟩,qiW,(ir 0),(ir 1)⟩
 refine wp_skip<|qaa<|sg<|fk E ok qdD qez rfl 0 rfl rfl fun a E=>lv E ok (qaP qe8 h4 rfl) fun a E=>av E rfl fun a E=>wn<|wp_seq<|sg<|mv E rfl fun a E=>lw E (qaK rfl rfl) fun a E=>wn<|cf E rfl hF (fun c9 hF=>?_) fun c9 hF=>?_
 ·refine sg<|av E rfl fun a E=>av E rfl fun a E=>aw E rfl fun a E=>wp_ret<|qad ?_
  exact fin hF ⟨m0,(Value.pointer none),le_m0,ok.drop,E.d,⟨rv_t E rfl,rv_t E rfl,rv_t E rfl,trivial⟩,qiW,(ir 0),(ir 6)⟩
 refine wp_skip<|qaa<|wp_seq<|sg<|fk E ok qdD qez rfl 0 rfl rfl fun a E=>lv E ok (qaP qe8 h4 rfl) fun a E=>mv E rfl fun a E=>wn<|wp_block<|bd hF fun o11 hL hF=>qa7 _ (fun (s:Int) a w=>Ok u m0 ([(b5,oc 49 [c1,c3])] :: S) w ∧ Env 77 a [(1,vp b5),(5,(vi (c_0.Ins.length:Int))),(20,(vi (c_0.Ins.length:Int))),(21,vi s)] ∧ InR .i64 s) (fun (b:(Unit ⊕ ((Option (Flow)) × Int × Int))) e a w=>(Sum.elim (fun b255=>e = (.exit 0) ∧ Ok u m0 ([(b5,oc 49 [c1,c3])] :: S) w ∧ Env 77 a [(1,vp b5),(5,(vi (c_0.Ins.length:Int)))]) (fun b256=>e = .ret ∧ qf8 u m0 S b256 a w)) b) ?_ ?_ N _ a w hL ⟨ok,E.keep [1,5,20,21],(ir 0)⟩
 ·rintro v13 a w r ⟨ok,E,r14⟩ hF
  replace hF:qfL N c_0 v13 = some r:=hF
  unfold qfL at hF
  refine sg<|lw E (qap rfl rfl) fun a E=>wn<|wp_seq<|cg E rfl hF (fun c15 hF=>?_) fun c15 hF=>?_
  ·refine wp_exit<|qaM ?_
   cases hF
   exact so (sl ⟨rfl,⟨ok,E.keep [1,5]⟩⟩)
  refine wp_skip<|qaa<|wp_seq<|wp_block<|sg<|mv E rfl fun a E=>av E rfl fun a E=>wn<|sg<|lv E ok (qan (cs:=[c1,c3]) qd2 rfl rfl (Holds.own 0 rfl rfl)) fun a E=>mv E rfl fun a E=>?_
  refine bd hF fun r16 e17 hF=>lc E qsM rfl (qmd N _ c_0 ⟨_,_,rfl,h2,h4⟩ v13 r14 e17 hG ok) fun w ok a E=>lw E (qbx rfl) fun a E=>wn<|cg E rfl hF (fun c18 hF=>?_) fun c18 hF=>?_
  ·refine wp_skip<|qac<|qaa<|qab<|lw E (qaE rfl rfl (InR.inc r14 (qaj h4) c15)) fun a E=>mv E rfl fun a E=>wpList_nil ?_
   cases hF
   exact qao ⟨ok,E.keep [1,5,20,21],(InR.inc r14 (qaj h4) c15)⟩
  refine sg<|mv E rfl fun a E=>av E rfl fun a E=>av E rfl fun a E=>aw E rfl fun a E=>wp_ret<|qak<|qad ?_
  cases hF
  exact so (sr ⟨rfl,⟨m0,(Value.pointer none),le_m0,ok.drop,E.d,⟨rv_t E rfl,rv_t E rfl,rv_t E rfl,trivial⟩,qiW,r14,(ir 4)⟩⟩)
 intro e a w _ hO
 rcases o11 with o11 | o11
 rotate_left
 ·obtain ⟨rfl,hret⟩:=hO
  refine qak<|qad ?_
  exact fin hF hret
 have hF:=qcj hF
 obtain ⟨rfl,ok,E⟩:=hO
 refine qa0<|qaa<|wp_seq<|sg<|mv E rfl fun a E=>lw E (qah rfl rfl) fun a E=>mv E rfl fun a E=>bu E 32 hF (fun c19 hF E=>?_) fun c19 hF E=>?_
 ·refine lsz E fun a E=>lsz E fun a E=>pt E rfl rfl fun a E=>wn<|c_if E rfl (fun _=>?_) (fun h=>by cases h)
  refine sg<|mv E rfl fun a E=>av E rfl fun a E=>av E rfl fun a E=>aw E rfl fun a E=>wp_ret<|qad ?_
  exact fin hF ⟨m0,(Value.pointer none),le_m0,ok.drop,E.d,⟨rv_t E rfl,rv_t E rfl,rv_t E rfl,trivial⟩,qiW,(qaj h4),(ir 4)⟩
 refine fk E ok qdD qez rfl 0 rfl rfl fun a E=>mv E rfl fun a E=>lw E (qbI rfl rfl) fun a E=>?_
 obtain ⟨x20,e21,hF⟩:=bnd hF
 obtain ⟨b22,o23,es24,hl25,rr26,at27,yy28⟩:=ia E 34 36 qe8 h4 e21
 obtain ⟨rfl,r29,r30,r31,l32⟩:=rr26
 refine lv E ok (yy28 _ _) fun a E=>fv E qeX rfl fun a E=>lv E ok (qal qam rfl (Holds.ro (At.sub 0 1 at27))) fun a E=>lw E (qbD rfl rfl) fun a E=>pf E rfl rfl fun a E=>wn<|cf E rfl hF (fun c33 hF=>?_) fun c33 hF=>?_
 ·refine sg<|mv E rfl fun a E=>av E rfl fun a E=>av E rfl fun a E=>aw E rfl fun a E=>wp_ret<|qad ?_
  exact fin hF ⟨m0,(Value.pointer none),le_m0,ok.drop,E.d,⟨rv_t E rfl,rv_t E rfl,rv_t E rfl,trivial⟩,qiW,(qaj h4),(ir 4)⟩
 refine wp_skip<|qaa<|wp_seq<|bd hF fun o34 hJ hF=>qaH (Q':=fun e a w=>e = .normal ∧ ∃ b48 c35 c37 c39 M40 c42 M43 c45 M46,Ok u m0 ([(b48,oc 175 [c35,c37,c39,c42,c45])] :: M46 :: M43 :: M40 :: [(b5,oc 49 [c1,c3])] :: S) w ∧ Env 77 a [(5,(vi (c_0.Ins.length:Int))),(7,vp b48)] ∧ (pL 1 pS) m0 [c35] o34.c.Names ∧ (pL 4 pIns) m0 [c37] o34.c.Ins ∧ ORow 231 1 (pK 1 pS) m0 c39 o34.open_ M40 ∧ ORow 4 1 pB m0 c42 o34.reached M43 ∧ ORow 4 1 pB m0 c45 o34.clash M46) ?_ ?_
 ·as_aux_lemma =>
   have hF:=hJ
   obtain ⟨l49,e50,hF⟩:=bnd hF
   obtain ⟨l54,e55,hF⟩:=bnd hF
   obtain ⟨l59,e60,hF⟩:=bnd hF
   obtain rfl:=sj hF
   refine qco [] (Cls u m0 ([(b5,oc 49 [c1,c3])] :: [])) (Cls u m0 ([(b5,oc 49 [c1,c3])] :: [])) (by kernel_rfl) ?_
   intro w hw
   replace ok:=qc8 ok hw
   clear hw
   refine qas (cl1 (cq le_m0 ok [0] rfl) (cq le_m0 ok [0] rfl)) fun hT=>kt 0 E rfl hT (qan (cs:=[c1,c3]) qd2 rfl rfl (Holds.cown 0 rfl rfl)) fun a E=>kt 1 E rfl hT (qai rfl) fun a E=>kt 3 E rfl hT (qai rfl) fun a E=>kt 5 E rfl hT (qai rfl) fun a E=>qaS [2,4,6] (by kernel_rfl) rfl (qd7 ?_ (qd7 ?_ (qd7 ?_ (qhd))))
   ·refine wo rfl<|qcS (R:=(pK 1 pS)) E ok qhR qhG rfl qkw rfl e50 rfl rfl fun c65 M66 a w E ok h67=>wn<|qas (cl1 (cq le_m0 ok [1] rfl) (cq le_m0 ok [1] rfl)) fun hT=>qaS [4,6] (by kernel_rfl) rfl (qd7 ?_ (qd7 ?_ (qhd)))
    ·refine wo rfl<|qcS (R:=pB) E ok qbh qdM rfl qdi rfl e55 rfl rfl fun c68 M69 a w E ok h70=>wn<|qas (cl1 (cq le_m0 ok [2] rfl) (cq le_m0 ok [2] rfl)) fun hT=>qaS [6] (by kernel_rfl) rfl (qaZ ?_)
     ·refine wo rfl<|qcS (R:=pB) E ok qbh qdM rfl qdi rfl e60 rfl rfl fun c71 M72 a w E ok h73=>wn<|qas (cl1 (cq le_m0 ok [3] rfl) (cq le_m0 ok [3] rfl)) fun hT=>kt 7 E rfl hT (qaL (ps:=[(0,.tmp 43),(1,.tmp 45),(2,.tmp 47),(3,.tmp 49)]) (qs:=[(0,[c1,c3]),(2,[c65]),(3,[c68]),(4,[c71])]) (cs:=[c1,c3,c65,c68,c71]) qgs qfn rfl ⟨rfl,rfl,rfl,⟨rfl,(ORow.cells h67),rfl,⟨rfl,(ORow.cells h70),rfl,⟨rfl,(ORow.cells h73),rfl,trivial⟩⟩⟩⟩ rfl) fun a E=>qaS [8] (by kernel_rfl) rfl (qaZ ?_)
      ·refine wo rfl<|qbF E ok rfl rfl rfl fun b74 a w E ok=>wn<|qas (cl1 (cq le_m0 ok [4] rfl) (cq le_m0 ok [4] rfl)) fun hT=>kt 9 E rfl hT (qaG rfl) fun a E=>qbJ (by kernel_rfl) ?_
       exact ⟨rfl,⟨b74,c1,c3,c65,M66,c68,M69,c71,M72,ok,E.keep [5,7],h2,h4,h67,h70,h73⟩⟩
    refine wo rfl<|qcS (R:=pB) E ok qbh qdM rfl qdi rfl e60 rfl rfl fun c75 M76 a w E ok h77=>wn<|qas (cl1 (cq le_m0 ok [2] rfl) (cq le_m0 ok [2] rfl)) fun hT=>qaS [4] (by kernel_rfl) rfl (qaZ ?_)
    ·refine wo rfl<|qcS (R:=pB) E ok qbh qdM rfl qdi rfl e55 rfl rfl fun c78 M79 a w E ok h80=>wn<|qas (cl1 (cq le_m0 ok [3] rfl) (cq le_m0 ok [3] rfl)) fun hT=>kt 7 E rfl hT (qaL (ps:=[(0,.tmp 43),(1,.tmp 45),(2,.tmp 47),(3,.tmp 49)]) (qs:=[(0,[c1,c3]),(2,[c65]),(3,[c78]),(4,[c75])]) (cs:=[c1,c3,c65,c78,c75]) qgs qfn rfl ⟨rfl,rfl,rfl,⟨rfl,(ORow.cells h67),rfl,⟨rfl,(ORow.cells h80),rfl,⟨rfl,(ORow.cells h77),rfl,trivial⟩⟩⟩⟩ rfl) fun a E=>qaS [8] (by kernel_rfl) rfl (qaZ ?_)
     ·refine wo rfl<|qbF E ok rfl rfl rfl fun b81 a w E ok=>wn<|qas (cl1 (cq le_m0 ok [4] rfl) (cq le_m0 ok [4] rfl)) fun hT=>kt 9 E rfl hT (qaG rfl) fun a E=>qbJ (by kernel_rfl) ?_
      exact ⟨rfl,⟨b81,c1,c3,c65,M66,c78,M79,c75,M76,(ok.pk 5 [0,2,1,3,4] rfl (by decide)),E.keep [5,7],h2,h4,h67,h80,h77⟩⟩
   ·refine wo rfl<|qcS (R:=pB) E ok qbh qdM rfl qdi rfl e55 rfl rfl fun c82 M83 a w E ok h84=>wn<|qas (cl1 (cq le_m0 ok [1] rfl) (cq le_m0 ok [1] rfl)) fun hT=>qaS [2,6] (by kernel_rfl) rfl (qd7 ?_ (qd7 ?_ (qhd)))
    ·refine wo rfl<|qcS (R:=(pK 1 pS)) E ok qhR qhG rfl qkw rfl e50 rfl rfl fun c85 M86 a w E ok h87=>wn<|qas (cl1 (cq le_m0 ok [2] rfl) (cq le_m0 ok [2] rfl)) fun hT=>qaS [6] (by kernel_rfl) rfl (qaZ ?_)
     ·refine wo rfl<|qcS (R:=pB) E ok qbh qdM rfl qdi rfl e60 rfl rfl fun c88 M89 a w E ok h90=>wn<|qas (cl1 (cq le_m0 ok [3] rfl) (cq le_m0 ok [3] rfl)) fun hT=>kt 7 E rfl hT (qaL (ps:=[(0,.tmp 43),(1,.tmp 45),(2,.tmp 47),(3,.tmp 49)]) (qs:=[(0,[c1,c3]),(2,[c85]),(3,[c82]),(4,[c88])]) (cs:=[c1,c3,c85,c82,c88]) qgs qfn rfl ⟨rfl,rfl,rfl,⟨rfl,(ORow.cells h87),rfl,⟨rfl,(ORow.cells h84),rfl,⟨rfl,(ORow.cells h90),rfl,trivial⟩⟩⟩⟩ rfl) fun a E=>qaS [8] (by kernel_rfl) rfl (qaZ ?_)
      ·refine wo rfl<|qbF E ok rfl rfl rfl fun b91 a w E ok=>wn<|qas (cl1 (cq le_m0 ok [4] rfl) (cq le_m0 ok [4] rfl)) fun hT=>kt 9 E rfl hT (qaG rfl) fun a E=>qbJ (by kernel_rfl) ?_
       exact ⟨rfl,⟨b91,c1,c3,c85,M86,c82,M83,c88,M89,(ok.pk 5 [0,1,3,2,4] rfl (by decide)),E.keep [5,7],h2,h4,h87,h84,h90⟩⟩
    refine wo rfl<|qcS (R:=pB) E ok qbh qdM rfl qdi rfl e60 rfl rfl fun c92 M93 a w E ok h94=>wn<|qas (cl1 (cq le_m0 ok [2] rfl) (cq le_m0 ok [2] rfl)) fun hT=>qaS [2] (by kernel_rfl) rfl (qaZ ?_)
    ·refine wo rfl<|qcS (R:=(pK 1 pS)) E ok qhR qhG rfl qkw rfl e50 rfl rfl fun c95 M96 a w E ok h97=>wn<|qas (cl1 (cq le_m0 ok [3] rfl) (cq le_m0 ok [3] rfl)) fun hT=>kt 7 E rfl hT (qaL (ps:=[(0,.tmp 43),(1,.tmp 45),(2,.tmp 47),(3,.tmp 49)]) (qs:=[(0,[c1,c3]),(2,[c95]),(3,[c82]),(4,[c92])]) (cs:=[c1,c3,c95,c82,c92]) qgs qfn rfl ⟨rfl,rfl,rfl,⟨rfl,(ORow.cells h97),rfl,⟨rfl,(ORow.cells h84),rfl,⟨rfl,(ORow.cells h94),rfl,trivial⟩⟩⟩⟩ rfl) fun a E=>qaS [8] (by kernel_rfl) rfl (qaZ ?_)
     ·refine wo rfl<|qbF E ok rfl rfl rfl fun b98 a w E ok=>wn<|qas (cl1 (cq le_m0 ok [4] rfl) (cq le_m0 ok [4] rfl)) fun hT=>kt 9 E rfl hT (qaG rfl) fun a E=>qbJ (by kernel_rfl) ?_
      exact ⟨rfl,⟨b98,c1,c3,c95,M96,c82,M83,c92,M93,(ok.pk 5 [0,2,3,1,4] rfl (by decide)),E.keep [5,7],h2,h4,h97,h84,h94⟩⟩
   refine wo rfl<|qcS (R:=pB) E ok qbh qdM rfl qdi rfl e60 rfl rfl fun c99 M100 a w E ok h101=>wn<|qas (cl1 (cq le_m0 ok [1] rfl) (cq le_m0 ok [1] rfl)) fun hT=>qaS [2,4] (by kernel_rfl) rfl (qd7 ?_ (qd7 ?_ (qhd)))
   ·refine wo rfl<|qcS (R:=(pK 1 pS)) E ok qhR qhG rfl qkw rfl e50 rfl rfl fun c102 M103 a w E ok h104=>wn<|qas (cl1 (cq le_m0 ok [2] rfl) (cq le_m0 ok [2] rfl)) fun hT=>qaS [4] (by kernel_rfl) rfl (qaZ ?_)
    ·refine wo rfl<|qcS (R:=pB) E ok qbh qdM rfl qdi rfl e55 rfl rfl fun c105 M106 a w E ok h107=>wn<|qas (cl1 (cq le_m0 ok [3] rfl) (cq le_m0 ok [3] rfl)) fun hT=>kt 7 E rfl hT (qaL (ps:=[(0,.tmp 43),(1,.tmp 45),(2,.tmp 47),(3,.tmp 49)]) (qs:=[(0,[c1,c3]),(2,[c102]),(3,[c105]),(4,[c99])]) (cs:=[c1,c3,c102,c105,c99]) qgs qfn rfl ⟨rfl,rfl,rfl,⟨rfl,(ORow.cells h104),rfl,⟨rfl,(ORow.cells h107),rfl,⟨rfl,(ORow.cells h101),rfl,trivial⟩⟩⟩⟩ rfl) fun a E=>qaS [8] (by kernel_rfl) rfl (qaZ ?_)
     ·refine wo rfl<|qbF E ok rfl rfl rfl fun b108 a w E ok=>wn<|qas (cl1 (cq le_m0 ok [4] rfl) (cq le_m0 ok [4] rfl)) fun hT=>kt 9 E rfl hT (qaG rfl) fun a E=>qbJ (by kernel_rfl) ?_
      exact ⟨rfl,⟨b108,c1,c3,c102,M103,c105,M106,c99,M100,(ok.pk 5 [0,3,1,2,4] rfl (by decide)),E.keep [5,7],h2,h4,h104,h107,h101⟩⟩
   refine wo rfl<|qcS (R:=pB) E ok qbh qdM rfl qdi rfl e55 rfl rfl fun c109 M110 a w E ok h111=>wn<|qas (cl1 (cq le_m0 ok [2] rfl) (cq le_m0 ok [2] rfl)) fun hT=>qaS [2] (by kernel_rfl) rfl (qaZ ?_)
   ·refine wo rfl<|qcS (R:=(pK 1 pS)) E ok qhR qhG rfl qkw rfl e50 rfl rfl fun c112 M113 a w E ok h114=>wn<|qas (cl1 (cq le_m0 ok [3] rfl) (cq le_m0 ok [3] rfl)) fun hT=>kt 7 E rfl hT (qaL (ps:=[(0,.tmp 43),(1,.tmp 45),(2,.tmp 47),(3,.tmp 49)]) (qs:=[(0,[c1,c3]),(2,[c112]),(3,[c109]),(4,[c99])]) (cs:=[c1,c3,c112,c109,c99]) qgs qfn rfl ⟨rfl,rfl,rfl,⟨rfl,(ORow.cells h114),rfl,⟨rfl,(ORow.cells h111),rfl,⟨rfl,(ORow.cells h101),rfl,trivial⟩⟩⟩⟩ rfl) fun a E=>qaS [8] (by kernel_rfl) rfl (qaZ ?_)
    ·refine wo rfl<|qbF E ok rfl rfl rfl fun b115 a w E ok=>wn<|qas (cl1 (cq le_m0 ok [4] rfl) (cq le_m0 ok [4] rfl)) fun hT=>kt 9 E rfl hT (qaG rfl) fun a E=>qbJ (by kernel_rfl) ?_
     exact ⟨rfl,⟨b115,c1,c3,c112,M113,c109,M110,c99,M100,(ok.pk 5 [0,3,2,1,4] rfl (by decide)),E.keep [5,7],h2,h4,h114,h111,h101⟩⟩
 intro e a w hO
 obtain ⟨rfl,b129,c116,c118,c120,M121,c123,M124,c126,M127,ok,E,h117,h119,h122,h125,h128⟩:=hO
 refine qaa<|sg<|mv E rfl fun a E=>lw E (qae rfl) fun a E=>fk E ok qi6 qiJ rfl 0 rfl rfl fun a E=>?_
 obtain ⟨x130,e131,hF⟩:=bnd hF
 obtain ⟨b132,o133,hp134,yy135⟩:=qbC qbh h125 e131 (P:=Tryz.prog) (X:=.tmp 55) (I:=.const (vi 0)) (kd:=.i64) (qaJ E rfl) (qaJ E rfl)
 refine lv E ok (yy135 _ _) fun a E=>bd hF fun l136 e137 hF=>qbX (R:=pB) E ok 2 rfl h125 e131 hp134 rfl rfl qrp rfl rfl rfl ⟨rfl,trivial⟩ qdi e137 rfl fun M138 w ok h139=>wn<|wp_seq<|sg<|mz E rfl rfl fun a E=>wn<|wp_block<|bd hF fun o155 hL hF=>qa7 _ (fun (s:Int × Flow) a w=>∃ m156 c158 c160 c162 M163 c165 M166 c168 M169,m0.le m156 ∧ Ok u m156 ([(b129,oc 175 [c158,c160,c162,c165,c168])] :: M169 :: M166 :: M163 :: [(b5,oc 49 [c1,c3])] :: S) w ∧ Env 77 a [(7,vp b129),(57,(vi (c_0.Ins.length:Int))),(58,vi s.1)] ∧ InR .i64 s.1 ∧ (pL 1 pS) m156 [c158] s.2.c.Names ∧ (pL 4 pIns) m156 [c160] s.2.c.Ins ∧ ORow 231 1 (pK 1 pS) m156 c162 s.2.open_ M163 ∧ ORow 4 1 pB m156 c165 s.2.reached M166 ∧ ORow 4 1 pB m156 c168 s.2.clash M169) (fun (b:(Flow ⊕ ((Option (Flow)) × Int × Int))) e a w=>(Sum.elim (fun b239=>e = (.exit 2) ∧ ∃ m240 c241 c243 c245 M246 c248 M249 c251 M252,m0.le m240 ∧ Ok u m240 ([(b129,oc 175 [c241,c243,c245,c248,c251])] :: M252 :: M249 :: M246 :: [(b5,oc 49 [c1,c3])] :: S) w ∧ Env 77 a [(7,vp b129)] ∧ (pL 1 pS) m240 [c241] b239.c.Names ∧ (pL 4 pIns) m240 [c243] b239.c.Ins ∧ ORow 231 1 (pK 1 pS) m240 c245 b239.open_ M246 ∧ ORow 4 1 pB m240 c248 b239.reached M249 ∧ ORow 4 1 pB m240 c251 b239.clash M252) (fun b254=>e = .ret ∧ qf8 u m0 S b254 a w)) b) ?_ ?_ N _ a w hL ⟨m0,c116,c118,c120,M121,c123,M138,c126,M127,Mem.le.refl _,ok,E.keep [7,57,58],(ir 0),h117,h119,h122,h139,h128⟩
 rotate_left
 ·as_aux_lemma =>
   intro e a w _ hO
   rcases o155 with o155 | o155
   rotate_left
   ·obtain ⟨rfl,hret⟩:=hO
    refine qak<|qad ?_
    exact fin hF hret
   have hF:=qcj hF
   obtain ⟨rfl,m217,c218,c220,c222,M223,c225,M226,c228,M229,hle,ok,E,h219,h221,h224,h227,h230⟩:=hO
   have le_m0:=le_m0.trans hle
   have h2:=(mL mS).up hle h2
   have h4:=(mL mIns).up hle h4
   have at27:=At.up hle at27
   have h117:=(mL mS).up hle h117
   have h119:=(mL mIns).up hle h119
   refine qa0<|qaa<|sg<|mv E rfl fun a E=>av E rfl fun a E=>av E rfl fun a E=>av E rfl fun a E=>wn<|wp_ret ?_
   obtain ⟨m231,hle,ok,hfz⟩:=(ok.frs 3 rfl).freeze
   have h232:=ORow.froz (mK mS) h224 hle hfz (by decide)
   have le_m0:=le_m0.trans hle
   have h2:=(mL mS).up hle h2
   have h4:=(mL mIns).up hle h4
   have at27:=At.up hle at27
   have h117:=(mL mS).up hle h117
   have h119:=(mL mIns).up hle h119
   have h219:=(mL mS).up hle h219
   have h221:=(mL mIns).up hle h221
   have h227:=ORow.up mB hle h227
   have h230:=ORow.up mB hle h230
   obtain ⟨m233,hle,ok,hfz⟩:=(ok.frs 2 rfl).freeze
   have h234:=ORow.froz mB h227 hle hfz (by decide)
   have le_m0:=le_m0.trans hle
   have h2:=(mL mS).up hle h2
   have h4:=(mL mIns).up hle h4
   have at27:=At.up hle at27
   have h117:=(mL mS).up hle h117
   have h119:=(mL mIns).up hle h119
   have h219:=(mL mS).up hle h219
   have h221:=(mL mIns).up hle h221
   have h230:=ORow.up mB hle h230
   have h232:=(mL (mK mS)).up hle h232
   obtain ⟨m235,hle,ok,hfz⟩:=(ok.frs 1 rfl).freeze
   have h236:=ORow.froz mB h230 hle hfz (by decide)
   have le_m0:=le_m0.trans hle
   have h2:=(mL mS).up hle h2
   have h4:=(mL mIns).up hle h4
   have at27:=At.up hle at27
   have h117:=(mL mS).up hle h117
   have h119:=(mL mIns).up hle h119
   have h219:=(mL mS).up hle h219
   have h221:=(mL mIns).up hle h221
   have h232:=(mL (mK mS)).up hle h232
   have h234:=(mL mB).up hle h234
   have hbx:=(show qnn m235 [c218,c220,c222,c225,c228] o155 from ⟨_,_,_,_,_,rfl,h219,h221,h232,h234,h236⟩)
   obtain ⟨m237,hle,ok,hfz⟩:=(ok.frs 0 rfl).freeze
   have h238:=qr8 qtO hbx hle hfz rfl
   clear hbx
   have le_m0:=le_m0.trans hle
   have h2:=(mL mS).up hle h2
   have h4:=(mL mIns).up hle h4
   have at27:=At.up hle at27
   have h117:=(mL mS).up hle h117
   have h119:=(mL mIns).up hle h119
   have h219:=(mL mS).up hle h219
   have h221:=(mL mIns).up hle h221
   have h232:=(mL (mK mS)).up hle h232
   have h234:=(mL mB).up hle h234
   have h236:=(mL mB).up hle h236
   exact fin hF ⟨m237,vp b129,le_m0,ok.drop,E.d,⟨rv_t E rfl,rv_t E rfl,rv_t E rfl,trivial⟩,h238,(ir 0),(ir 0)⟩
 rintro ⟨v171,v172⟩ a w r ⟨m173,c175,c177,c179,M180,c182,M183,c185,M186,hle,ok,E,r174,h176,h178,h181,h184,h187⟩ hF
 replace hF:qfN N c_0 v171 v172 = some r:=hF
 unfold qfN at hF
 have le_m0:=le_m0.trans hle
 have h2:=(mL mS).up hle h2
 have h4:=(mL mIns).up hle h4
 have at27:=At.up hle at27
 have h117:=(mL mS).up hle h117
 have h119:=(mL mIns).up hle h119
 refine sg<|lw E (qap rfl rfl) fun a E=>wn<|wp_seq<|cg E rfl hF (fun c188 hF=>?_) fun c188 hF=>?_
 ·refine wp_exit<|qaM ?_
  cases hF
  exact so (sl ⟨rfl,⟨m173,c175,c177,c179,M180,c182,M183,c185,M186,le_m0,ok,E.keep [7],h176,h178,h181,h184,h187⟩⟩)
 refine wp_skip<|qaa<|wp_seq<|wp_block<|sg<|mv E rfl fun a E=>av E rfl fun a E=>wn<|sg<|mv E rfl fun a E=>lw E (qae rfl) fun a E=>fk E ok qi6 qiJ rfl 0 rfl rfl fun a E=>mv E rfl fun a E=>?_
 obtain ⟨x189,e190,hF⟩:=bnd hF
 obtain ⟨b191,o192,hp193,yy194⟩:=qbC qbh h184 e190 (P:=Tryz.prog) (X:=.tmp 64) (I:=.tmp 65) (kd:=.i64) (qaJ E rfl) (qaJ E rfl)
 refine lv E ok (yy194 _ _) fun a E=>?_
 obtain ⟨es195,hl196,rr197,hh198⟩:=qds h184 e190 hp193 (by decide)
 obtain rfl:=rr197
 refine lv E ok (qal qeP rfl (hh198 _ _ _ 2 rfl)) fun a E=>mv E rfl fun a E=>qcu x189 (fun c199=>?_) (fun c199=>?_)
 rotate_left
 ·have hF:=qcc c199 hF
  have E:=E.upd 68 c199 rfl
  refine lsz E fun a E=>pf E rfl rfl fun a E=>wn<|c_if E rfl (fun h=>by cases h) (fun _=>?_)
  refine wp_skip<|qac<|qaa<|qab<|lw E (qaE rfl rfl (InR.inc r174 (qaj h4) c188)) fun a E=>mv E rfl fun a E=>wpList_nil ?_
  cases hF
  exact qao ⟨m173,c175,c177,c179,M180,c182,M183,c185,M186,le_m0,ok,E.keep [7,57,58],(InR.inc r174 (qaj h4) c188),h176,h178,h181,h184,h187⟩
 have hF:=qci c199 hF
 have E:=E.upd 68 c199 rfl
 refine mz E rfl rfl fun a E=>?_
 obtain ⟨r200,e201,hF⟩:=bnd hF
 replace ok:Ok u m173 ([(b129,oc 175 [c175,c177,c179,c182,c185])] :: M180 :: M183 :: M186 :: [(b5,oc 49 [c1,c3])] :: S) w:=(ok.pk 5 [0,3,2,1,4] rfl (by decide))
 refine qaf E qs7 rfl (qj3 N v171 r174 v172 h176 h178 h181 h184 h187 e201 hG ok) rfl rfl ?_
 rintro _ w ⟨m202,c203,c205,c207,M208,c210,M211,c213,M214,rfl,hle,ok,h204,h206,h209,h212,h215⟩
 have le_m0:=le_m0.trans hle
 have h2:=(mL mS).up hle h2
 have h4:=(mL mIns).up hle h4
 have at27:=At.up hle at27
 have h117:=(mL mS).up hle h117
 have h119:=(mL mIns).up hle h119
 have h176:=(mL mS).up hle h176
 have h178:=(mL mIns).up hle h178
 refine ⟨_,rfl,fun a E=>?_⟩
 refine lw E (qbx rfl) fun a E=>pt E rfl rfl fun a E=>wn<|cg E rfl hF (fun c216 hF=>?_) fun c216 hF=>?_
 ·refine wp_skip<|qac<|qaa<|qab<|lw E (qaE rfl rfl (InR.inc r174 (qaj h4) c188)) fun a E=>mv E rfl fun a E=>wpList_nil ?_
  cases hF
  exact qao ⟨m202,c203,c205,c207,M208,c210,M211,c213,M214,le_m0,(ok.pk 5 [0,3,2,1,4] rfl (by decide)),E.keep [7,57,58],(InR.inc r174 (qaj h4) c188),h204,h206,h209,h212,h215⟩
 refine sg<|mv E rfl fun a E=>av E rfl fun a E=>av E rfl fun a E=>aw E rfl fun a E=>wp_ret<|qak<|qad ?_
 cases hF
 exact so (sr ⟨rfl,⟨m202,(Value.pointer none),le_m0,ok.drop.drop.drop.drop.drop,E.d,⟨rv_t E rfl,rv_t E rfl,rv_t E rfl,trivial⟩,qiW,r174,(ir 7)⟩⟩)
def qmM (u:World) (m0:Mem) (S:Segs) (r:Int × Int) (a:Act) (w:World):Prop :=
 Ok u m0 S w ∧ a.defers = [] ∧ RVs Tryz.prog a w [.t 2 (.int .i64 r.1),.t 3 (.int .i64 r.2)] ∧ InR .i64 r.1 ∧ InR .i64 r.2
theorem qmU (N:Nat) (vc_0:List Value) (c_0:Code) (hc_0:qjm m0 vc_0 c_0) {r:Int × Int} (hF:qhJ N c_0 = some r) (hG:Glob u) (ok:Ok u m0 S w) :
  Calls Tryz.prog 44 [.agg vc_0.toArray].toArray w fun e w'=>(e = .returned (.tuple [(.int .i64 r.1),(.int .i64 r.2)].toArray) ∧ Ok u m0 S w') ∧ InR .i64 r.1 ∧ InR .i64 r.2:=by
 obtain ⟨c1,c3,rfl,h2,h4⟩:=hc_0
 have hb0:=ok.base
 have le_m0:=Mem.le.refl m0
 unfold qhJ at hF
 refine en (qmM u m0 S) r Tryz.func44 rfl rfl rfl (by rintro a w ⟨ok,hd,hrv,h0,h1⟩; exact qaT [.t 2 (.int .i64 r.1),.t 3 (.int .i64 r.2)] hd rfl hrv ⟨⟨rfl,ok⟩,h0,h1⟩) fun fin a E=>sg<|qbF E ok rfl rfl rfl fun b5 a w E ok=>av E rfl fun a E=>aw E rfl fun a E=>sg<|lv E ok (qan (cs:=[c1,c3]) qd2 rfl rfl (Holds.own 0 rfl rfl)) fun a E=>bd hF fun r6 e7 hF=>qaf E qtS rfl (qlU N _ c_0 ⟨_,_,rfl,h2,h4⟩ e7 hG ok) rfl rfl ?_
 rintro _ w ⟨m8,c9,rfl,hle,ok,h10,r11,r12⟩
 have le_m0:=le_m0.trans hle
 have h2:=(mL mS).up hle h2
 have h4:=(mL mIns).up hle h4
 refine ⟨_,rfl,fun a E=>?_⟩
 refine mv E rfl fun a E=>lw E (qav rfl rfl) fun a E=>lw E (qav rfl rfl) fun a E=>lw E (qav rfl rfl) fun a E=>av E rfl fun a E=>aw E rfl fun a E=>sg<|mz E rfl rfl fun a E=>av E rfl fun a E=>aw E rfl fun a E=>wp_ret ?_
 exact fin hF ⟨(ok.drop).down hb0 le_m0,E.d,⟨rv_t E rfl,rv_t E rfl,trivial⟩,r11,r12⟩
theorem qhn {u:World} {m:Mem} {S:Segs} {w:World} {b:Nat} {v:Value} {z0 z1 z2 z3 z4 z5 z6 z7 z8 z9 z10 z11 z12 z13 z14 z15 z16 z17 z18 z19 z20 z21:Value} (ok:Ok u m ([(b,oc 82 [z0,z1,z2,z3,z4,z5,z6,z7,z8,z9,z10,z11,z12,z13,z14,z15,z16,z17,z18,z19,(Value.pointer none),v,z20,z21])] :: S) w) :
  Calls Tryz.prog 49 [.pointer (some ⟨b,20,none⟩)].toArray w fun e w'=>e = .returned (.tuple [].toArray) ∧ Ok u m ([(b,oc 82 [z0,z1,z2,z3,z4,z5,z6,z7,z8,z9,z10,z11,z12,z13,z14,z15,z16,z17,z18,z19,(Value.pointer (some ⟨b,20,none⟩)),v,z20,z21])] :: S) w':=by
 have fin:∀ a w,(a.defers = [] ∧ Ok u m ([(b,oc 82 [z0,z1,z2,z3,z4,z5,z6,z7,z8,z9,z10,z11,z12,z13,z14,z15,z16,z17,z18,z19,(Value.pointer (some ⟨b,20,none⟩)),v,z20,z21])] :: S) w) → bodyPost Tryz.prog Tryz.f49 (fun e w'=>e = .returned (.tuple [].toArray) ∧ Ok u m ([(b,oc 82 [z0,z1,z2,z3,z4,z5,z6,z7,z8,z9,z10,z11,z12,z13,z14,z15,z16,z17,z18,z19,(Value.pointer (some ⟨b,20,none⟩)),v,z20,z21])] :: S) w') .ret a w:=fun a w h=>qaT [] h.1 rfl trivial ⟨rfl,h.2⟩
 refine enter Tryz.func49 rfl rfl rfl fun a E=>sg<|mv E rfl fun a E=>lw E (qae rfl) fun a E=>fk E ok qef qga rfl 0 rfl rfl fun a E=>lv E ok (qhU Tryz.underlying65 rfl rfl) fun a E=>wn<|c_if E rfl (fun _=>?_) (fun h=>by cases h)
 refine qab<|mz E rfl rfl fun a E=>lv E ok (qjo Tryz.underlying65 Tryz.underlying150 qog (by decide) (qfV (c:=[z0,z1,z2,z3,z4,z5,z6,z7,z8,z9,z10,z11,z12,z13,z14,z15,z16,z17,z18,z19,(Value.pointer none),v,z20,z21]) 0 rfl) (Nat.le_of_ble_eq_true rfl) rfl) fun a E=>lv E ok (qjn Tryz.func75 (by kernel_rfl) (by kernel_rfl) (by kernel_rfl) (by kernel_rfl) rfl) fun a E=>lv E ok (qhK Tryz.underlying150 Tryz.underlying65 qhv (qfV (c:=[z0,z1,z2,z3,z4,z5,z6,z7,z8,z9,z10,z11,z12,z13,z14,z15,z16,z17,z18,z19,(Value.pointer none),v,z20,z21]) 0 rfl) qpC rfl) fun a E=>lw E (qae rfl) fun a E=>fv E qef rfl fun a E=>qax E ok 0 rfl rfl rfl qnU rfl rfl ⟨rfl,trivial⟩ rfl rfl fun w ok=>wpList_nil ?_
 exact fin _ _ ⟨E.d,ok⟩
theorem qg7 {u:World} {m:Mem} {S:Segs} {w:World} {b:Nat} {v:Value} {z0 z1 z2 z3 z4 z5 z6 z7 z8 z9 z10 z11 z12 z13 z14 z15 z16 z17 z18 z19 z20 z21:Value} (ok:Ok u m ([(b,oc 82 [z0,z1,z2,z3,z4,z5,z6,z7,z8,z9,z10,z11,z12,z13,z14,z15,z16,z17,z18,z19,(Value.pointer (some ⟨b,20,none⟩)),v,z20,z21])] :: S) w) :
  Calls Tryz.prog 49 [.pointer (some ⟨b,20,none⟩)].toArray w fun e w'=>e = .returned (.tuple [].toArray) ∧ Ok u m ([(b,oc 82 [z0,z1,z2,z3,z4,z5,z6,z7,z8,z9,z10,z11,z12,z13,z14,z15,z16,z17,z18,z19,(Value.pointer (some ⟨b,20,none⟩)),v,z20,z21])] :: S) w':=by
 have fin:∀ a w,(a.defers = [] ∧ Ok u m ([(b,oc 82 [z0,z1,z2,z3,z4,z5,z6,z7,z8,z9,z10,z11,z12,z13,z14,z15,z16,z17,z18,z19,(Value.pointer (some ⟨b,20,none⟩)),v,z20,z21])] :: S) w) → bodyPost Tryz.prog Tryz.f49 (fun e w'=>e = .returned (.tuple [].toArray) ∧ Ok u m ([(b,oc 82 [z0,z1,z2,z3,z4,z5,z6,z7,z8,z9,z10,z11,z12,z13,z14,z15,z16,z17,z18,z19,(Value.pointer (some ⟨b,20,none⟩)),v,z20,z21])] :: S) w') .ret a w:=fun a w h=>qaT [] h.1 rfl trivial ⟨rfl,h.2⟩
 refine enter Tryz.func49 rfl rfl rfl fun a E=>sg<|mv E rfl fun a E=>lw E (qae rfl) fun a E=>fk E ok qef qga rfl 0 rfl rfl fun a E=>lv E ok (qhU Tryz.underlying65 rfl rfl) fun a E=>wn<|c_if E rfl (fun h=>by cases h) (fun _=>?_)
 refine sg<|mv E rfl fun a E=>lw E (qae rfl) fun a E=>fk E ok qef qga rfl 0 rfl rfl fun a E=>mv E rfl fun a E=>lv E ok (qkf Tryz.underlying65 qhv rfl rfl) fun a E=>wn<|c_if E rfl (fun h=>by cases h) (fun _=>?_)
 refine wp_skip ?_
 exact fin _ _ ⟨E.d,ok⟩
theorem qh2 {u:World} {m:Mem} {S:Segs} {w:World} {b:Nat} {a v:Value} {z0 z1 z2 z3 z4 z5 z6 z7 z8 z9 z10 z11 z12 z13 z14 z15 z16 z17 z18 z19 z20 z21:Value} (ha:BAdo 20 b a) (ok:Ok u m ([(b,oc 82 [z0,z1,z2,z3,z4,z5,z6,z7,z8,z9,z10,z11,z12,z13,z14,z15,z16,z17,z18,z19,a,v,z20,z21])] :: S) w) :
  Calls Tryz.prog 49 [.pointer (some ⟨b,20,none⟩)].toArray w fun e w'=>e = .returned (.tuple [].toArray) ∧ Ok u m ([(b,oc 82 [z0,z1,z2,z3,z4,z5,z6,z7,z8,z9,z10,z11,z12,z13,z14,z15,z16,z17,z18,z19,(Value.pointer (some ⟨b,20,none⟩)),v,z20,z21])] :: S) w':=by
 rcases ha with rfl | rfl
 ·exact qhn ok
 ·exact qg7 ok
def qfC (u:World) (m0:Mem) (S:Segs) (pb0:Nat) (x0:Run) (c1:Value) (c3:Value) (c8:Value) (c10:Value) (c18:Value) (c20:Value) (c22:Value) (c24:Value) (c26:Value) (c28:Value) (c30:Value) (c32:Value) (M33:List (Nat × Obj)) (c35:Value) (M36:List (Nat × Obj)) (r:Int × Unit × Run) (a:Act) (w:World):Prop :=
 ∃ m1 c39 c41 c46 c48 c56 c58 c60 c62 c64 c66 c68 c70 M71 c73 M74,m0.le m1 ∧ Ok u m1 ([(pb0,oc 82 [c39,c41,vs r.2.2.loc.Tag,vs r.2.2.loc.Parent,vs r.2.2.loc.Direction,c46,c48,vs r.2.2.loc.Symbols.Decimal,vs r.2.2.loc.Symbols.Group,vs r.2.2.loc.Symbols.Minus,vs r.2.2.loc.Symbols.Percent,vi r.2.2.loc.Symbols.Primary,vi r.2.2.loc.Symbols.Secondary,c56,c58,c60,c62,c64,c66,vb r.2.2.isolated,c68,c70,c73,vi r.2.2.e])] :: M71 :: M74 :: S) w ∧ a.defers = [] ∧ RVs Tryz.prog a w [.t 4 (.int .i64 r.1),.t 5 .nilIface] ∧ InR .i64 r.1 ∧ (pL 1 pS) m1 [c39] r.2.2.c.Names ∧ (pL 4 pIns) m1 [c41] r.2.2.c.Ins ∧ r.2.2.loc.Tag.length ≤ LIMS ∧ r.2.2.loc.Parent.length ≤ LIMS ∧ r.2.2.loc.Direction.length ≤ LIMS ∧ (pL 2 qaN) m1 [c46] r.2.2.loc.Cardinal ∧ (pL 2 qaN) m1 [c48] r.2.2.loc.Ordinal ∧ r.2.2.loc.Symbols.Decimal.length ≤ LIMS ∧ r.2.2.loc.Symbols.Group.length ≤ LIMS ∧ r.2.2.loc.Symbols.Minus.length ≤ LIMS ∧ r.2.2.loc.Symbols.Percent.length ≤ LIMS ∧ InR .i64 r.2.2.loc.Symbols.Primary ∧ InR .i64 r.2.2.loc.Symbols.Secondary ∧ (pL 5 qaC) m1 [c56] r.2.2.loc.Lists ∧ (pL 3 qaB) m1 [c58] r.2.2.loc.Units ∧ (pL 2 qaA) m1 [c60] r.2.2.loc.Dates ∧ (pL 1 pS) m1 [c62] r.2.2.loc.Months ∧ (pL 1 pS) m1 [c64] r.2.2.loc.Days ∧ (pL 5 qaO) m1 [c66] r.2.2.values ∧ BAdo 20 pb0 c68 ∧ ORow 5 1 (pI .u8) m1 c70 r.2.2.out.buf M71 ∧ ORow 3 1 (pI .i64) m1 c73 r.2.2.trace M74 ∧ InR .i64 r.2.2.e
theorem qfK (N:Nat) (s_1:List UInt8) (ls_1:s_1.length ≤ LIMS) {pb0:Nat} {c1:Value} {c3:Value} {c8:Value} {c10:Value} {c18:Value} {c20:Value} {c22:Value} {c24:Value} {c26:Value} {c28:Value} {c30:Value} {c32:Value} {M33:List (Nat × Obj)} {c35:Value} {M36:List (Nat × Obj)} (x0:Run) (h2:(pL 1 pS) m0 [c1] x0.c.Names) (h4:(pL 4 pIns) m0 [c3] x0.c.Ins) (l5:x0.loc.Tag.length ≤ LIMS) (l6:x0.loc.Parent.length ≤ LIMS) (l7:x0.loc.Direction.length ≤ LIMS) (h9:(pL 2 qaN) m0 [c8] x0.loc.Cardinal) (h11:(pL 2 qaN) m0 [c10] x0.loc.Ordinal) (l12:x0.loc.Symbols.Decimal.length ≤ LIMS) (l13:x0.loc.Symbols.Group.length ≤ LIMS) (l14:x0.loc.Symbols.Minus.length ≤ LIMS) (l15:x0.loc.Symbols.Percent.length ≤ LIMS) (r16:InR .i64 x0.loc.Symbols.Primary) (r17:InR .i64 x0.loc.Symbols.Secondary) (h19:(pL 5 qaC) m0 [c18] x0.loc.Lists) (h21:(pL 3 qaB) m0 [c20] x0.loc.Units) (h23:(pL 2 qaA) m0 [c22] x0.loc.Dates) (h25:(pL 1 pS) m0 [c24] x0.loc.Months) (h27:(pL 1 pS) m0 [c26] x0.loc.Days) (h29:(pL 5 qaO) m0 [c28] x0.values) (h31:BAdo 20 pb0 c30) (h34:ORow 5 1 (pI .u8) m0 c32 x0.out.buf M33) (h37:ORow 3 1 (pI .i64) m0 c35 x0.trace M36) (r38:InR .i64 x0.e) {r:Int × Unit × Run} (hF:qc2 N s_1 x0 = some r) (hG:Glob u) (ok:Ok u m0 ([(pb0,oc 82 [c1,c3,vs x0.loc.Tag,vs x0.loc.Parent,vs x0.loc.Direction,c8,c10,vs x0.loc.Symbols.Decimal,vs x0.loc.Symbols.Group,vs x0.loc.Symbols.Minus,vs x0.loc.Symbols.Percent,vi x0.loc.Symbols.Primary,vi x0.loc.Symbols.Secondary,c18,c20,c22,c24,c26,c28,vb x0.isolated,c30,c32,c35,vi x0.e])] :: M33 :: M36 :: S) w) :
  Calls Tryz.prog 52 [Value.pointer (some ⟨pb0,20,none⟩),vs s_1].toArray w fun e w'=>∃ m1 c39 c41 c46 c48 c56 c58 c60 c62 c64 c66 c68 c70 M71 c73 M74,e = .returned (.tuple [(.int .i64 r.1),.nilIface].toArray) ∧ m0.le m1 ∧ Ok u m1 ([(pb0,oc 82 [c39,c41,vs r.2.2.loc.Tag,vs r.2.2.loc.Parent,vs r.2.2.loc.Direction,c46,c48,vs r.2.2.loc.Symbols.Decimal,vs r.2.2.loc.Symbols.Group,vs r.2.2.loc.Symbols.Minus,vs r.2.2.loc.Symbols.Percent,vi r.2.2.loc.Symbols.Primary,vi r.2.2.loc.Symbols.Secondary,c56,c58,c60,c62,c64,c66,vb r.2.2.isolated,c68,c70,c73,vi r.2.2.e])] :: M71 :: M74 :: S) w' ∧ InR .i64 r.1 ∧ (pL 1 pS) m1 [c39] r.2.2.c.Names ∧ (pL 4 pIns) m1 [c41] r.2.2.c.Ins ∧ r.2.2.loc.Tag.length ≤ LIMS ∧ r.2.2.loc.Parent.length ≤ LIMS ∧ r.2.2.loc.Direction.length ≤ LIMS ∧ (pL 2 qaN) m1 [c46] r.2.2.loc.Cardinal ∧ (pL 2 qaN) m1 [c48] r.2.2.loc.Ordinal ∧ r.2.2.loc.Symbols.Decimal.length ≤ LIMS ∧ r.2.2.loc.Symbols.Group.length ≤ LIMS ∧ r.2.2.loc.Symbols.Minus.length ≤ LIMS ∧ r.2.2.loc.Symbols.Percent.length ≤ LIMS ∧ InR .i64 r.2.2.loc.Symbols.Primary ∧ InR .i64 r.2.2.loc.Symbols.Secondary ∧ (pL 5 qaC) m1 [c56] r.2.2.loc.Lists ∧ (pL 3 qaB) m1 [c58] r.2.2.loc.Units ∧ (pL 2 qaA) m1 [c60] r.2.2.loc.Dates ∧ (pL 1 pS) m1 [c62] r.2.2.loc.Months ∧ (pL 1 pS) m1 [c64] r.2.2.loc.Days ∧ (pL 5 qaO) m1 [c66] r.2.2.values ∧ BAdo 20 pb0 c68 ∧ ORow 5 1 (pI .u8) m1 c70 r.2.2.out.buf M71 ∧ ORow 3 1 (pI .i64) m1 c73 r.2.2.trace M74 ∧ InR .i64 r.2.2.e:=by
 have le_m0:=Mem.le.refl m0
 unfold qc2 at hF
 refine en (qfC u m0 S pb0 x0 c1 c3 c8 c10 c18 c20 c22 c24 c26 c28 c30 c32 M33 c35 M36) r Tryz.func52 rfl rfl rfl (by rintro a w ⟨m1,c39,c41,c46,c48,c56,c58,c60,c62,c64,c66,c68,c70,M71,c73,M74,hle,ok,hd,hrv,h0,h1,h2,h3,h4,h5,h6,h7,h8,h9,h10,h11,h12,h13,h14,h15,h16,h17,h18,h19,h20,h21,h22,h23⟩; exact qaT [.t 4 (.int .i64 r.1),.t 5 .nilIface] hd rfl hrv ⟨m1,c39,c41,c46,c48,c56,c58,c60,c62,c64,c66,c68,c70,M71,c73,M74,rfl,hle,ok,h0,h1,h2,h3,h4,h5,h6,h7,h8,h9,h10,h11,h12,h13,h14,h15,h16,h17,h18,h19,h20,h21,h22,h23⟩) fun fin a E=>sg<|av E rfl fun a E=>aw E rfl fun a E=>sg<|mv E rfl fun a E=>lc E qlm rfl (qh2 h31 ok) fun w ok a E=>wn<|sg<|mz E rfl rfl fun a E=>lw E (qae rfl) fun a E=>fv E qdA rfl fun a E=>ld E ok qf2 0 rfl rfl rfl fun a E=>mv E rfl fun a E=>?_
 refine bd hF fun l77 e78 hF=>qoa E ok 1 qcK Tryz.underlying9 rfl h34 e78 ⟨_,qcF,rfl⟩ rfl rfl rfl rfl fun c79 M80 a w E ok h81=>lw E (qae rfl) fun a E=>fv E qdA rfl fun a E=>qax E ok 0 rfl rfl rfl qjZ (ORow.cells h81) rfl ⟨(ORow.one h81),trivial⟩ rfl rfl fun w ok=>wn<|sg<|mv E rfl fun a E=>lw E (qbs Tryz.underlying9 rfl) fun a E=>av E rfl fun a E=>aw E rfl fun a E=>wp_ret ?_
 exact fin hF ⟨m0,c1,c3,c8,c10,c18,c20,c22,c24,c26,c28,(Value.pointer (some ⟨pb0,20,none⟩)),c79,M80,c35,M36,le_m0,ok,E.d,⟨rv_t E rfl,rv_t E rfl,trivial⟩,(InR.len ls_1),h2,h4,l5,l6,l7,h9,h11,l12,l13,l14,l15,r16,r17,h19,h21,h23,h25,h27,h29,(.inr rfl),h81,h37,r38⟩
def qhB (u:World) (m0:Mem) (S:Segs) (pb0:Nat) (x0:Run) (c1:Value) (c3:Value) (c8:Value) (c10:Value) (c18:Value) (c20:Value) (c22:Value) (c24:Value) (c26:Value) (c28:Value) (c30:Value) (c32:Value) (M33:List (Nat × Obj)) (c35:Value) (M36:List (Nat × Obj)) (r:Int) (a:Act) (w:World):Prop :=
 Ok u m0 ([(pb0,oc 82 [c1,c3,vs x0.loc.Tag,vs x0.loc.Parent,vs x0.loc.Direction,c8,c10,vs x0.loc.Symbols.Decimal,vs x0.loc.Symbols.Group,vs x0.loc.Symbols.Minus,vs x0.loc.Symbols.Percent,vi x0.loc.Symbols.Primary,vi x0.loc.Symbols.Secondary,c18,c20,c22,c24,c26,c28,vb x0.isolated,c30,c32,c35,vi x0.e])] :: M33 :: M36 :: S) w ∧ a.defers = [] ∧ RVs Tryz.prog a w [.t 2 (.int .i64 r)] ∧ InR .i64 r
theorem qhD (N:Nat) {pb0:Nat} {c1:Value} {c3:Value} {c8:Value} {c10:Value} {c18:Value} {c20:Value} {c22:Value} {c24:Value} {c26:Value} {c28:Value} {c30:Value} {c32:Value} {M33:List (Nat × Obj)} {c35:Value} {M36:List (Nat × Obj)} (x0:Run) (h2:(pL 1 pS) m0 [c1] x0.c.Names) (h4:(pL 4 pIns) m0 [c3] x0.c.Ins) (l5:x0.loc.Tag.length ≤ LIMS) (l6:x0.loc.Parent.length ≤ LIMS) (l7:x0.loc.Direction.length ≤ LIMS) (h9:(pL 2 qaN) m0 [c8] x0.loc.Cardinal) (h11:(pL 2 qaN) m0 [c10] x0.loc.Ordinal) (l12:x0.loc.Symbols.Decimal.length ≤ LIMS) (l13:x0.loc.Symbols.Group.length ≤ LIMS) (l14:x0.loc.Symbols.Minus.length ≤ LIMS) (l15:x0.loc.Symbols.Percent.length ≤ LIMS) (r16:InR .i64 x0.loc.Symbols.Primary) (r17:InR .i64 x0.loc.Symbols.Secondary) (h19:(pL 5 qaC) m0 [c18] x0.loc.Lists) (h21:(pL 3 qaB) m0 [c20] x0.loc.Units) (h23:(pL 2 qaA) m0 [c22] x0.loc.Dates) (h25:(pL 1 pS) m0 [c24] x0.loc.Months) (h27:(pL 1 pS) m0 [c26] x0.loc.Days) (h29:(pL 5 qaO) m0 [c28] x0.values) (h31:BAdo 20 pb0 c30) (h34:ORow 5 1 (pI .u8) m0 c32 x0.out.buf M33) (h37:ORow 3 1 (pI .i64) m0 c35 x0.trace M36) (r38:InR .i64 x0.e) {r:Int} (hF:qeu N x0 = some r) (hG:Glob u) (ok:Ok u m0 ([(pb0,oc 82 [c1,c3,vs x0.loc.Tag,vs x0.loc.Parent,vs x0.loc.Direction,c8,c10,vs x0.loc.Symbols.Decimal,vs x0.loc.Symbols.Group,vs x0.loc.Symbols.Minus,vs x0.loc.Symbols.Percent,vi x0.loc.Symbols.Primary,vi x0.loc.Symbols.Secondary,c18,c20,c22,c24,c26,c28,vb x0.isolated,c30,c32,c35,vi x0.e])] :: M33 :: M36 :: S) w) :
  Calls Tryz.prog 83 [Value.pointer (some ⟨pb0,20,none⟩)].toArray w fun e w'=>(e = .returned (.int .i64 r) ∧ Ok u m0 ([(pb0,oc 82 [c1,c3,vs x0.loc.Tag,vs x0.loc.Parent,vs x0.loc.Direction,c8,c10,vs x0.loc.Symbols.Decimal,vs x0.loc.Symbols.Group,vs x0.loc.Symbols.Minus,vs x0.loc.Symbols.Percent,vi x0.loc.Symbols.Primary,vi x0.loc.Symbols.Secondary,c18,c20,c22,c24,c26,c28,vb x0.isolated,c30,c32,c35,vi x0.e])] :: M33 :: M36 :: S) w') ∧ InR .i64 r:=by
 unfold qeu at hF
 refine en (qhB u m0 S pb0 x0 c1 c3 c8 c10 c18 c20 c22 c24 c26 c28 c30 c32 M33 c35 M36) r Tryz.func83 rfl rfl rfl (fun _ _ h=>rb h rfl) fun fin a E=>sg<|aw E rfl fun a E=>sg<|mv E rfl fun a E=>lw E (qae rfl) fun a E=>fk E ok qdA qf2 rfl 0 rfl rfl fun a E=>lv E ok (qb7 qcK h34 rfl) fun a E=>aw E rfl fun a E=>wp_ret ?_
 exact fin hF ⟨ok,E.d,rz E rfl,(ORow.InR h34)⟩
def qjA (u:World) (m0:Mem) (S:Segs) (pb0:Nat) (x0:Run) (c1:Value) (c3:Value) (c8:Value) (c10:Value) (c18:Value) (c20:Value) (c22:Value) (c24:Value) (c26:Value) (c28:Value) (c30:Value) (c32:Value) (M33:List (Nat × Obj)) (c35:Value) (M36:List (Nat × Obj)) (r:Run) (a:Act) (w:World):Prop :=
 ∃ m1 c39 c41 c46 c48 c56 c58 c60 c62 c64 c66 c68 c70 M71 c73 M74,m0.le m1 ∧ Ok u m1 ([(pb0,oc 82 [c39,c41,vs r.loc.Tag,vs r.loc.Parent,vs r.loc.Direction,c46,c48,vs r.loc.Symbols.Decimal,vs r.loc.Symbols.Group,vs r.loc.Symbols.Minus,vs r.loc.Symbols.Percent,vi r.loc.Symbols.Primary,vi r.loc.Symbols.Secondary,c56,c58,c60,c62,c64,c66,vb r.isolated,c68,c70,c73,vi r.e])] :: M71 :: M74 :: S) w ∧ a.defers = [] ∧ RVs Tryz.prog a w [] ∧ (pL 1 pS) m1 [c39] r.c.Names ∧ (pL 4 pIns) m1 [c41] r.c.Ins ∧ r.loc.Tag.length ≤ LIMS ∧ r.loc.Parent.length ≤ LIMS ∧ r.loc.Direction.length ≤ LIMS ∧ (pL 2 qaN) m1 [c46] r.loc.Cardinal ∧ (pL 2 qaN) m1 [c48] r.loc.Ordinal ∧ r.loc.Symbols.Decimal.length ≤ LIMS ∧ r.loc.Symbols.Group.length ≤ LIMS ∧ r.loc.Symbols.Minus.length ≤ LIMS ∧ r.loc.Symbols.Percent.length ≤ LIMS ∧ InR .i64 r.loc.Symbols.Primary ∧ InR .i64 r.loc.Symbols.Secondary ∧ (pL 5 qaC) m1 [c56] r.loc.Lists ∧ (pL 3 qaB) m1 [c58] r.loc.Units ∧ (pL 2 qaA) m1 [c60] r.loc.Dates ∧ (pL 1 pS) m1 [c62] r.loc.Months ∧ (pL 1 pS) m1 [c64] r.loc.Days ∧ (pL 5 qaO) m1 [c66] r.values ∧ BAdo 20 pb0 c68 ∧ ORow 5 1 (pI .u8) m1 c70 r.out.buf M71 ∧ ORow 3 1 (pI .i64) m1 c73 r.trace M74 ∧ InR .i64 r.e
theorem qd9 (N:Nat) (s_1:List UInt8) (ls_1:s_1.length ≤ LIMS) {pb0:Nat} {c1:Value} {c3:Value} {c8:Value} {c10:Value} {c18:Value} {c20:Value} {c22:Value} {c24:Value} {c26:Value} {c28:Value} {c30:Value} {c32:Value} {M33:List (Nat × Obj)} {c35:Value} {M36:List (Nat × Obj)} (x0:Run) (h2:(pL 1 pS) m0 [c1] x0.c.Names) (h4:(pL 4 pIns) m0 [c3] x0.c.Ins) (l5:x0.loc.Tag.length ≤ LIMS) (l6:x0.loc.Parent.length ≤ LIMS) (l7:x0.loc.Direction.length ≤ LIMS) (h9:(pL 2 qaN) m0 [c8] x0.loc.Cardinal) (h11:(pL 2 qaN) m0 [c10] x0.loc.Ordinal) (l12:x0.loc.Symbols.Decimal.length ≤ LIMS) (l13:x0.loc.Symbols.Group.length ≤ LIMS) (l14:x0.loc.Symbols.Minus.length ≤ LIMS) (l15:x0.loc.Symbols.Percent.length ≤ LIMS) (r16:InR .i64 x0.loc.Symbols.Primary) (r17:InR .i64 x0.loc.Symbols.Secondary) (h19:(pL 5 qaC) m0 [c18] x0.loc.Lists) (h21:(pL 3 qaB) m0 [c20] x0.loc.Units) (h23:(pL 2 qaA) m0 [c22] x0.loc.Dates) (h25:(pL 1 pS) m0 [c24] x0.loc.Months) (h27:(pL 1 pS) m0 [c26] x0.loc.Days) (h29:(pL 5 qaO) m0 [c28] x0.values) (h31:BAdo 20 pb0 c30) (h34:ORow 5 1 (pI .u8) m0 c32 x0.out.buf M33) (h37:ORow 3 1 (pI .i64) m0 c35 x0.trace M36) (r38:InR .i64 x0.e) {r:Run} (hF:qdb N s_1 x0 = some r) (hG:Glob u) (ok:Ok u m0 ([(pb0,oc 82 [c1,c3,vs x0.loc.Tag,vs x0.loc.Parent,vs x0.loc.Direction,c8,c10,vs x0.loc.Symbols.Decimal,vs x0.loc.Symbols.Group,vs x0.loc.Symbols.Minus,vs x0.loc.Symbols.Percent,vi x0.loc.Symbols.Primary,vi x0.loc.Symbols.Secondary,c18,c20,c22,c24,c26,c28,vb x0.isolated,c30,c32,c35,vi x0.e])] :: M33 :: M36 :: S) w) :
  Calls Tryz.prog 68 [vp pb0,vs s_1].toArray w fun e w'=>∃ m1 c39 c41 c46 c48 c56 c58 c60 c62 c64 c66 c68 c70 M71 c73 M74,e = .returned (.tuple [].toArray) ∧ m0.le m1 ∧ Ok u m1 ([(pb0,oc 82 [c39,c41,vs r.loc.Tag,vs r.loc.Parent,vs r.loc.Direction,c46,c48,vs r.loc.Symbols.Decimal,vs r.loc.Symbols.Group,vs r.loc.Symbols.Minus,vs r.loc.Symbols.Percent,vi r.loc.Symbols.Primary,vi r.loc.Symbols.Secondary,c56,c58,c60,c62,c64,c66,vb r.isolated,c68,c70,c73,vi r.e])] :: M71 :: M74 :: S) w' ∧ (pL 1 pS) m1 [c39] r.c.Names ∧ (pL 4 pIns) m1 [c41] r.c.Ins ∧ r.loc.Tag.length ≤ LIMS ∧ r.loc.Parent.length ≤ LIMS ∧ r.loc.Direction.length ≤ LIMS ∧ (pL 2 qaN) m1 [c46] r.loc.Cardinal ∧ (pL 2 qaN) m1 [c48] r.loc.Ordinal ∧ r.loc.Symbols.Decimal.length ≤ LIMS ∧ r.loc.Symbols.Group.length ≤ LIMS ∧ r.loc.Symbols.Minus.length ≤ LIMS ∧ r.loc.Symbols.Percent.length ≤ LIMS ∧ InR .i64 r.loc.Symbols.Primary ∧ InR .i64 r.loc.Symbols.Secondary ∧ (pL 5 qaC) m1 [c56] r.loc.Lists ∧ (pL 3 qaB) m1 [c58] r.loc.Units ∧ (pL 2 qaA) m1 [c60] r.loc.Dates ∧ (pL 1 pS) m1 [c62] r.loc.Months ∧ (pL 1 pS) m1 [c64] r.loc.Days ∧ (pL 5 qaO) m1 [c66] r.values ∧ BAdo 20 pb0 c68 ∧ ORow 5 1 (pI .u8) m1 c70 r.out.buf M71 ∧ ORow 3 1 (pI .i64) m1 c73 r.trace M74 ∧ InR .i64 r.e:=by
 have le_m0:=Mem.le.refl m0
 unfold qdb at hF
 refine en (qjA u m0 S pb0 x0 c1 c3 c8 c10 c18 c20 c22 c24 c26 c28 c30 c32 M33 c35 M36) r Tryz.func68 rfl rfl rfl (by rintro a w ⟨m1,c39,c41,c46,c48,c56,c58,c60,c62,c64,c66,c68,c70,M71,c73,M74,hle,ok,hd,hrv,h0,h1,h2,h3,h4,h5,h6,h7,h8,h9,h10,h11,h12,h13,h14,h15,h16,h17,h18,h19,h20,h21,h22⟩; exact qaT [] hd rfl hrv ⟨m1,c39,c41,c46,c48,c56,c58,c60,c62,c64,c66,c68,c70,M71,c73,M74,rfl,hle,ok,h0,h1,h2,h3,h4,h5,h6,h7,h8,h9,h10,h11,h12,h13,h14,h15,h16,h17,h18,h19,h20,h21,h22⟩) fun fin a E=>sg<|mv E rfl fun a E=>lw E (qae rfl) fun a E=>fv E qmG rfl fun a E=>mv E rfl fun a E=>bd hF fun r77 e78 hF=>qaf E qkP rfl (qfK N s_1 ls_1 (Run.mk x0.c x0.loc x0.values x0.isolated (Builder.mk () x0.out.buf) x0.trace x0.e) h2 h4 l5 l6 l7 h9 h11 l12 l13 l14 l15 r16 r17 h19 h21 h23 h25 h27 h29 h31 h34 h37 r38 e78 hG ok) rfl rfl ?_
 rintro _ w ⟨m79,c81,c83,c88,c90,c98,c100,c102,c104,c106,c108,c110,c112,M113,c115,M116,rfl,hle,ok,r80,h82,h84,l85,l86,l87,h89,h91,l92,l93,l94,l95,r96,r97,h99,h101,h103,h105,h107,h109,h111,h114,h117,r118⟩
 have le_m0:=le_m0.trans hle
 have h2:=(mL mS).up hle h2
 have h4:=(mL mIns).up hle h4
 have h9:=(mL qa9).up hle h9
 have h11:=(mL qa9).up hle h11
 have h19:=(mL qaW).up hle h19
 have h21:=(mL qaV).up hle h21
 have h23:=(mL qaU).up hle h23
 have h25:=(mL mS).up hle h25
 have h27:=(mL mS).up hle h27
 have h29:=(mL qbo).up hle h29
 refine ⟨_,rfl,fun a E=>?_⟩
 refine wn<|sg<|mv E rfl fun a E=>lw E (qae rfl) fun a E=>fv E qmG rfl fun a E=>bd hF fun r119 e120 hF=>qaf E qrA rfl (qhD N (Run.mk r77.2.2.c r77.2.2.loc r77.2.2.values r77.2.2.isolated (Builder.mk () r77.2.2.out.buf) r77.2.2.trace r77.2.2.e) h82 h84 l85 l86 l87 h89 h91 l92 l93 l94 l95 r96 r97 h99 h101 h103 h105 h107 h109 h111 h114 h117 r118 e120 hG ok) rfl rfl ?_
 rintro _ w ⟨⟨rfl,ok⟩,r121⟩
 refine ⟨_,rfl,fun a E=>?_⟩
 refine lw E (qaK rfl rfl) fun a E=>wn<|cg E rfl hF (fun c122 hF=>?_) fun c122 hF=>?_
 ·refine wp_skip ?_
  exact fin hF ⟨m79,c81,c83,c88,c90,c98,c100,c102,c104,c106,c108,c110,c112,M113,c115,M116,le_m0,ok,E.d,trivial,h82,h84,l85,l86,l87,h89,h91,l92,l93,l94,l95,r96,r97,h99,h101,h103,h105,h107,h109,h111,h114,h117,r118⟩
 refine qab<|mv E rfl fun a E=>lw E (qae rfl) fun a E=>fv E qiE rfl fun a E=>qax E ok 0 rfl rfl rfl qlK rfl rfl ⟨rfl,trivial⟩ rfl rfl fun w ok=>wpList_nil ?_
 exact fin hF ⟨m79,c81,c83,c88,c90,c98,c100,c102,c104,c106,c108,c110,c112,M113,c115,M116,le_m0,ok,E.d,trivial,h82,h84,l85,l86,l87,h89,h91,l92,l93,l94,l95,r96,r97,h99,h101,h103,h105,h107,h109,h111,h114,h117,(ir 6)⟩
def qkg (u:World) (m0:Mem) (S:Segs) (pb0:Nat) (x0:Run) (c1:Value) (c3:Value) (c8:Value) (c10:Value) (c18:Value) (c20:Value) (c22:Value) (c24:Value) (c26:Value) (c28:Value) (c30:Value) (c32:Value) (M33:List (Nat × Obj)) (c35:Value) (M36:List (Nat × Obj)) (r:Int × Run) (a:Act) (w:World):Prop :=
 ∃ m1 c39 c41 c46 c48 c56 c58 c60 c62 c64 c66 c68 c70 M71 c73 M74,m0.le m1 ∧ Ok u m1 ([(pb0,oc 82 [c39,c41,vs r.2.loc.Tag,vs r.2.loc.Parent,vs r.2.loc.Direction,c46,c48,vs r.2.loc.Symbols.Decimal,vs r.2.loc.Symbols.Group,vs r.2.loc.Symbols.Minus,vs r.2.loc.Symbols.Percent,vi r.2.loc.Symbols.Primary,vi r.2.loc.Symbols.Secondary,c56,c58,c60,c62,c64,c66,vb r.2.isolated,c68,c70,c73,vi r.2.e])] :: M71 :: M74 :: S) w ∧ a.defers = [] ∧ RVs Tryz.prog a w [.t 4 (.int .i64 r.1)] ∧ InR .i64 r.1 ∧ (pL 1 pS) m1 [c39] r.2.c.Names ∧ (pL 4 pIns) m1 [c41] r.2.c.Ins ∧ r.2.loc.Tag.length ≤ LIMS ∧ r.2.loc.Parent.length ≤ LIMS ∧ r.2.loc.Direction.length ≤ LIMS ∧ (pL 2 qaN) m1 [c46] r.2.loc.Cardinal ∧ (pL 2 qaN) m1 [c48] r.2.loc.Ordinal ∧ r.2.loc.Symbols.Decimal.length ≤ LIMS ∧ r.2.loc.Symbols.Group.length ≤ LIMS ∧ r.2.loc.Symbols.Minus.length ≤ LIMS ∧ r.2.loc.Symbols.Percent.length ≤ LIMS ∧ InR .i64 r.2.loc.Symbols.Primary ∧ InR .i64 r.2.loc.Symbols.Secondary ∧ (pL 5 qaC) m1 [c56] r.2.loc.Lists ∧ (pL 3 qaB) m1 [c58] r.2.loc.Units ∧ (pL 2 qaA) m1 [c60] r.2.loc.Dates ∧ (pL 1 pS) m1 [c62] r.2.loc.Months ∧ (pL 1 pS) m1 [c64] r.2.loc.Days ∧ (pL 5 qaO) m1 [c66] r.2.values ∧ BAdo 20 pb0 c68 ∧ ORow 5 1 (pI .u8) m1 c70 r.2.out.buf M71 ∧ ORow 3 1 (pI .i64) m1 c73 r.2.trace M74 ∧ InR .i64 r.2.e
theorem qky (N:Nat) (i_1:Int) (ri_1:InR .i64 i_1) {pb0:Nat} {c1:Value} {c3:Value} {c8:Value} {c10:Value} {c18:Value} {c20:Value} {c22:Value} {c24:Value} {c26:Value} {c28:Value} {c30:Value} {c32:Value} {M33:List (Nat × Obj)} {c35:Value} {M36:List (Nat × Obj)} (x0:Run) (h2:(pL 1 pS) m0 [c1] x0.c.Names) (h4:(pL 4 pIns) m0 [c3] x0.c.Ins) (l5:x0.loc.Tag.length ≤ LIMS) (l6:x0.loc.Parent.length ≤ LIMS) (l7:x0.loc.Direction.length ≤ LIMS) (h9:(pL 2 qaN) m0 [c8] x0.loc.Cardinal) (h11:(pL 2 qaN) m0 [c10] x0.loc.Ordinal) (l12:x0.loc.Symbols.Decimal.length ≤ LIMS) (l13:x0.loc.Symbols.Group.length ≤ LIMS) (l14:x0.loc.Symbols.Minus.length ≤ LIMS) (l15:x0.loc.Symbols.Percent.length ≤ LIMS) (r16:InR .i64 x0.loc.Symbols.Primary) (r17:InR .i64 x0.loc.Symbols.Secondary) (h19:(pL 5 qaC) m0 [c18] x0.loc.Lists) (h21:(pL 3 qaB) m0 [c20] x0.loc.Units) (h23:(pL 2 qaA) m0 [c22] x0.loc.Dates) (h25:(pL 1 pS) m0 [c24] x0.loc.Months) (h27:(pL 1 pS) m0 [c26] x0.loc.Days) (h29:(pL 5 qaO) m0 [c28] x0.values) (h31:BAdo 20 pb0 c30) (h34:ORow 5 1 (pI .u8) m0 c32 x0.out.buf M33) (h37:ORow 3 1 (pI .i64) m0 c35 x0.trace M36) (r38:InR .i64 x0.e) {r:Int × Run} (hF:qfH N i_1 x0 = some r) (hG:Glob u) (hTb:Tab u) (ok:Ok u m0 ([(pb0,oc 82 [c1,c3,vs x0.loc.Tag,vs x0.loc.Parent,vs x0.loc.Direction,c8,c10,vs x0.loc.Symbols.Decimal,vs x0.loc.Symbols.Group,vs x0.loc.Symbols.Minus,vs x0.loc.Symbols.Percent,vi x0.loc.Symbols.Primary,vi x0.loc.Symbols.Secondary,c18,c20,c22,c24,c26,c28,vb x0.isolated,c30,c32,c35,vi x0.e])] :: M33 :: M36 :: S) w) :
  Calls Tryz.prog 45 [vp pb0,vi i_1].toArray w fun e w'=>∃ m1 c39 c41 c46 c48 c56 c58 c60 c62 c64 c66 c68 c70 M71 c73 M74,e = .returned (.int .i64 r.1) ∧ m0.le m1 ∧ Ok u m1 ([(pb0,oc 82 [c39,c41,vs r.2.loc.Tag,vs r.2.loc.Parent,vs r.2.loc.Direction,c46,c48,vs r.2.loc.Symbols.Decimal,vs r.2.loc.Symbols.Group,vs r.2.loc.Symbols.Minus,vs r.2.loc.Symbols.Percent,vi r.2.loc.Symbols.Primary,vi r.2.loc.Symbols.Secondary,c56,c58,c60,c62,c64,c66,vb r.2.isolated,c68,c70,c73,vi r.2.e])] :: M71 :: M74 :: S) w' ∧ InR .i64 r.1 ∧ (pL 1 pS) m1 [c39] r.2.c.Names ∧ (pL 4 pIns) m1 [c41] r.2.c.Ins ∧ r.2.loc.Tag.length ≤ LIMS ∧ r.2.loc.Parent.length ≤ LIMS ∧ r.2.loc.Direction.length ≤ LIMS ∧ (pL 2 qaN) m1 [c46] r.2.loc.Cardinal ∧ (pL 2 qaN) m1 [c48] r.2.loc.Ordinal ∧ r.2.loc.Symbols.Decimal.length ≤ LIMS ∧ r.2.loc.Symbols.Group.length ≤ LIMS ∧ r.2.loc.Symbols.Minus.length ≤ LIMS ∧ r.2.loc.Symbols.Percent.length ≤ LIMS ∧ InR .i64 r.2.loc.Symbols.Primary ∧ InR .i64 r.2.loc.Symbols.Secondary ∧ (pL 5 qaC) m1 [c56] r.2.loc.Lists ∧ (pL 3 qaB) m1 [c58] r.2.loc.Units ∧ (pL 2 qaA) m1 [c60] r.2.loc.Dates ∧ (pL 1 pS) m1 [c62] r.2.loc.Months ∧ (pL 1 pS) m1 [c64] r.2.loc.Days ∧ (pL 5 qaO) m1 [c66] r.2.values ∧ BAdo 20 pb0 c68 ∧ ORow 5 1 (pI .u8) m1 c70 r.2.out.buf M71 ∧ ORow 3 1 (pI .i64) m1 c73 r.2.trace M74 ∧ InR .i64 r.2.e:=by
 have le_m0:=Mem.le.refl m0
 unfold qfH at hF
 refine en (qkg u m0 S pb0 x0 c1 c3 c8 c10 c18 c20 c22 c24 c26 c28 c30 c32 M33 c35 M36) r Tryz.func45 rfl rfl rfl (by rintro a w ⟨m1,c39,c41,c46,c48,c56,c58,c60,c62,c64,c66,c68,c70,M71,c73,M74,hle,ok,hd,hrv,h0,h1,h2,h3,h4,h5,h6,h7,h8,h9,h10,h11,h12,h13,h14,h15,h16,h17,h18,h19,h20,h21,h22,h23⟩; exact qaT [.t 4 (.int .i64 r.1)] hd rfl hrv ⟨m1,c39,c41,c46,c48,c56,c58,c60,c62,c64,c66,c68,c70,M71,c73,M74,rfl,hle,ok,h0,h1,h2,h3,h4,h5,h6,h7,h8,h9,h10,h11,h12,h13,h14,h15,h16,h17,h18,h19,h20,h21,h22,h23⟩) fun fin a E=>sg<|aw E rfl fun a E=>sg<|mz E rfl rfl fun a E=>lw E (qae rfl) fun a E=>fk E ok qkR qcR rfl 0 rfl rfl fun a E=>mv E rfl fun a E=>qa6 (R:=(pI .i64)) (xo:=[.tmp 11]) (xs:=([i_1]:List (Int))) E ok qat qbn rfl ⟨⟨_,rfl,rfl,(qaX ri_1)⟩,trivial⟩ rfl rfl rfl rfl fun c77 M78 a w E ok h79=>bd hF fun l80 e81 hF=>qb0 (R:=(pI .i64)) E ok 3 (mI .i64) qat Tryz.underlying26 rfl h37 (qbf.ofRow h79 0 rfl ok) e81 ⟨_,qbn,rfl⟩ rfl rfl rfl rfl fun c82 M83 a w E ok h84=>lw E (qae rfl) fun a E=>fv E qkR rfl fun a E=>qax E ok 1 rfl rfl rfl qlz (ORow.cells h84) rfl ⟨(ORow.one h84),trivial⟩ rfl rfl fun w ok=>wn<|wp_seq<|wp_seq ?_
 refine qab<|mv E rfl fun a E=>lw E (qae rfl) fun a E=>fv E qrH rfl fun a E=>fk E ok qdD qez rfl 1 rfl rfl fun a E=>mv E rfl fun a E=>?_
 obtain ⟨x85,e86,hF⟩:=bnd hF
 obtain ⟨b87,o88,es89,hl90,rr91,at92,yy93⟩:=ia E 20 21 qe8 h4 e86
 obtain ⟨rfl,r94,r95,r96,l97⟩:=rr91
 refine lv E ok (yy93 _ _) fun a E=>lv E ok (qan (cs:=[vi x85.Op,vi x85.A,vi x85.B,vs x85.S]) qko rfl rfl (Holds.ro at92)) fun a E=>qa4 E ok qej rfl rfl fun b98 a w E ok=>qax E ok 0 rfl rfl rfl qnM rfl rfl ⟨rfl,rfl,rfl,rfl,trivial⟩ rfl rfl fun w ok=>wn<|sg<|fk E ok qeX qam rfl 0 rfl rfl fun a E=>wn<|wp_block<|sg<|lw E (qah rfl rfl) fun a E=>aw E rfl fun a E=>cf E rfl hF (fun c99 hF=>?_) fun c99 hF=>?_
 ·refine qab<|mv E rfl fun a E=>fk E ok qcT qay rfl 0 rfl rfl fun a E=>?_
  obtain ⟨r100,e101,hF⟩:=bnd hF
  replace ok:Ok u m0 ([(pb0,oc 82 [c1,c3,vs x0.loc.Tag,vs x0.loc.Parent,vs x0.loc.Direction,c8,c10,vs x0.loc.Symbols.Decimal,vs x0.loc.Symbols.Group,vs x0.loc.Symbols.Minus,vs x0.loc.Symbols.Percent,vi x0.loc.Symbols.Primary,vi x0.loc.Symbols.Secondary,c18,c20,c22,c24,c26,c28,vb x0.isolated,c30,c32,c82,vi x0.e])] :: M33 :: M83 :: [(b98,oc 78 [vi x85.Op,vi x85.A,vi x85.B,vs x85.S])] :: M78 :: S) w:=(ok.pk 5 [2,3,4,0,1] rfl (by decide))
  refine qaf E qno rfl (qd9 N x85.S l97 (Run.mk x0.c x0.loc x0.values x0.isolated (Builder.mk () x0.out.buf) l80 x0.e) h2 h4 l5 l6 l7 h9 h11 l12 l13 l14 l15 r16 r17 h19 h21 h23 h25 h27 h29 h31 h34 h84 r38 e101 hG ok) rfl rfl ?_
  rintro _ w ⟨m102,c103,c105,c110,c112,c120,c122,c124,c126,c128,c130,c132,c134,M135,c137,M138,rfl,hle,ok,h104,h106,l107,l108,l109,h111,h113,l114,l115,l116,l117,r118,r119,h121,h123,h125,h127,h129,h131,h133,h136,h139,r140⟩
  have le_m0:=le_m0.trans hle
  have h2:=(mL mS).up hle h2
  have h4:=(mL mIns).up hle h4
  have h9:=(mL qa9).up hle h9
  have h11:=(mL qa9).up hle h11
  have h19:=(mL qaW).up hle h19
  have h21:=(mL qaV).up hle h21
  have h23:=(mL qaU).up hle h23
  have h25:=(mL mS).up hle h25
  have h27:=(mL mS).up hle h27
  have h29:=(mL qbo).up hle h29
  have h79:=ORow.up (mI .i64) hle h79
  have at92:=At.up hle at92
  refine ⟨_,rfl,fun a E=>?_⟩
  refine wpList_nil<|qac<|qaa<|sg<|mv E rfl fun a E=>lw E (qaF rfl rfl) fun a E=>av E rfl fun a E=>wn<|wp_ret ?_
  exact fin hF ⟨m102,c103,c105,c110,c112,c120,c122,c124,c126,c128,c130,c132,c134,M135,c137,M138,le_m0,(ok.pk 5 [0,1,2] rfl (by decide)),E.d,rz E rfl,(InR.wrap _ _),h104,h106,l107,l108,l109,h111,h113,l114,l115,l116,l117,r118,r119,h121,h123,h125,h127,h129,h131,h133,h136,h139,r140⟩
 refine sg<|lw E (qah rfl rfl) fun a E=>aw E rfl fun a E=>cf E rfl hF (fun c141 hF=>?_) fun c141 hF=>?_
 ·refine qab<|mv E rfl fun a E=>fk E ok qcT qay rfl 0 rfl rfl fun a E=>bd hF fun s142 e143 hF=>lw E (qdS rfl rfl e143) fun a E=>bd hF fun s144 e145 hF=>lw E (qdS rfl rfl e145) fun a E=>?_
  obtain ⟨r146,e147,hF⟩:=bnd hF
  replace ok:Ok u m0 ([(pb0,oc 82 [c1,c3,vs x0.loc.Tag,vs x0.loc.Parent,vs x0.loc.Direction,c8,c10,vs x0.loc.Symbols.Decimal,vs x0.loc.Symbols.Group,vs x0.loc.Symbols.Minus,vs x0.loc.Symbols.Percent,vi x0.loc.Symbols.Primary,vi x0.loc.Symbols.Secondary,c18,c20,c22,c24,c26,c28,vb x0.isolated,c30,c32,c82,vi x0.e])] :: M33 :: M83 :: [(b98,oc 78 [vi x85.Op,vi x85.A,vi x85.B,vs x85.S])] :: M78 :: S) w:=(ok.pk 5 [2,3,4,0,1] rfl (by decide))
  refine qaf E qno rfl (qd9 N s144 (qgz e145) (Run.mk x0.c x0.loc x0.values x0.isolated (Builder.mk () x0.out.buf) l80 x0.e) h2 h4 l5 l6 l7 h9 h11 l12 l13 l14 l15 r16 r17 h19 h21 h23 h25 h27 h29 h31 h34 h84 r38 e147 hG ok) rfl rfl ?_
  rintro _ w ⟨m148,c149,c151,c156,c158,c166,c168,c170,c172,c174,c176,c178,c180,M181,c183,M184,rfl,hle,ok,h150,h152,l153,l154,l155,h157,h159,l160,l161,l162,l163,r164,r165,h167,h169,h171,h173,h175,h177,h179,h182,h185,r186⟩
  have le_m0:=le_m0.trans hle
  have h2:=(mL mS).up hle h2
  have h4:=(mL mIns).up hle h4
  have h9:=(mL qa9).up hle h9
  have h11:=(mL qa9).up hle h11
  have h19:=(mL qaW).up hle h19
  have h21:=(mL qaV).up hle h21
  have h23:=(mL qaU).up hle h23
  have h25:=(mL mS).up hle h25
  have h27:=(mL mS).up hle h27
  have h29:=(mL qbo).up hle h29
  have h79:=ORow.up (mI .i64) hle h79
  have at92:=At.up hle at92
  refine ⟨_,rfl,fun a E=>?_⟩
  refine wpList_nil<|qac<|qaa<|sg<|mv E rfl fun a E=>lw E (qaF rfl rfl) fun a E=>av E rfl fun a E=>wn<|wp_ret ?_
  exact fin hF ⟨m148,c149,c151,c156,c158,c166,c168,c170,c172,c174,c176,c178,c180,M181,c183,M184,le_m0,(ok.pk 5 [0,1,2] rfl (by decide)),E.d,rz E rfl,(InR.wrap _ _),h150,h152,l153,l154,l155,h157,h159,l160,l161,l162,l163,r164,r165,h167,h169,h171,h173,h175,h177,h179,h182,h185,r186⟩
 refine sg<|lw E (qah rfl rfl) fun a E=>aw E rfl fun a E=>cf E rfl hF (fun c187 hF=>?_) fun c187 hF=>?_
 ·refine qab<|mv E rfl fun a E=>fk E ok qcT qay rfl 0 rfl rfl fun a E=>bd hF fun s188 e189 hF=>lw E (qdS rfl rfl e189) fun a E=>bd hF fun s190 e191 hF=>lw E (qdS rfl rfl e191) fun a E=>?_
  obtain ⟨r192,e193,hF⟩:=bnd hF
  replace ok:Ok u m0 ([(pb0,oc 82 [c1,c3,vs x0.loc.Tag,vs x0.loc.Parent,vs x0.loc.Direction,c8,c10,vs x0.loc.Symbols.Decimal,vs x0.loc.Symbols.Group,vs x0.loc.Symbols.Minus,vs x0.loc.Symbols.Percent,vi x0.loc.Symbols.Primary,vi x0.loc.Symbols.Secondary,c18,c20,c22,c24,c26,c28,vb x0.isolated,c30,c32,c82,vi x0.e])] :: M33 :: M83 :: [(b98,oc 78 [vi x85.Op,vi x85.A,vi x85.B,vs x85.S])] :: M78 :: S) w:=(ok.pk 5 [2,3,4,0,1] rfl (by decide))
  refine qaf E qno rfl (qd9 N s190 (qgz e191) (Run.mk x0.c x0.loc x0.values x0.isolated (Builder.mk () x0.out.buf) l80 x0.e) h2 h4 l5 l6 l7 h9 h11 l12 l13 l14 l15 r16 r17 h19 h21 h23 h25 h27 h29 h31 h34 h84 r38 e193 hG ok) rfl rfl ?_
  rintro _ w ⟨m194,c195,c197,c202,c204,c212,c214,c216,c218,c220,c222,c224,c226,M227,c229,M230,rfl,hle,ok,h196,h198,l199,l200,l201,h203,h205,l206,l207,l208,l209,r210,r211,h213,h215,h217,h219,h221,h223,h225,h228,h231,r232⟩
  have le_m0:=le_m0.trans hle
  have h2:=(mL mS).up hle h2
  have h4:=(mL mIns).up hle h4
  have h9:=(mL qa9).up hle h9
  have h11:=(mL qa9).up hle h11
  have h19:=(mL qaW).up hle h19
  have h21:=(mL qaV).up hle h21
  have h23:=(mL qaU).up hle h23
  have h25:=(mL mS).up hle h25
  have h27:=(mL mS).up hle h27
  have h29:=(mL qbo).up hle h29
  have h79:=ORow.up (mI .i64) hle h79
  have at92:=At.up hle at92
  refine ⟨_,rfl,fun a E=>?_⟩
  refine wpList_nil<|qac<|qaa<|sg<|mv E rfl fun a E=>lw E (qaF rfl rfl) fun a E=>av E rfl fun a E=>wn<|wp_ret ?_
  exact fin hF ⟨m194,c195,c197,c202,c204,c212,c214,c216,c218,c220,c222,c224,c226,M227,c229,M230,le_m0,(ok.pk 5 [0,1,2] rfl (by decide)),E.d,rz E rfl,(InR.wrap _ _),h196,h198,l199,l200,l201,h203,h205,l206,l207,l208,l209,r210,r211,h213,h215,h217,h219,h221,h223,h225,h228,h231,r232⟩
 refine sg<|lw E (qah rfl rfl) fun a E=>aw E rfl fun a E=>cg E rfl hF (fun c233 hF=>?_) fun c233 hF=>?_
 ·refine sg<|lw E (qah rfl rfl) fun a E=>aw E rfl fun a E=>cf E rfl hF (fun c283 hF=>?_) fun c283 hF=>?_
  ·refine sg<|mz E rfl rfl fun a E=>?_
   cases hF
  refine sg<|lw E (qah rfl rfl) fun a E=>aw E rfl fun a E=>cg E rfl hF (fun c284 hF=>?_) fun c284 hF=>?_
  ·refine qab<|mv E rfl fun a E=>lv E ok (qan (cs:=[vi x85.Op,vi x85.A,vi x85.B,vs x85.S]) qko rfl rfl (Holds.own 0 rfl rfl)) fun a E=>?_
   cases hF
  refine sg<|fk E ok qfX qam rfl 0 rfl rfl fun a E=>aw E rfl fun a E=>wp_ret<|qak<|qad ?_
  exact fin hF ⟨m0,c1,c3,c8,c10,c18,c20,c22,c24,c26,c28,c30,c32,M33,c82,M83,le_m0,ok.drop.drop,E.d,rz E rfl,r95,h2,h4,l5,l6,l7,h9,h11,l12,l13,l14,l15,r16,r17,h19,h21,h23,h25,h27,h29,h31,h34,h84,r38⟩
 refine qab<|mv E rfl fun a E=>fk E ok qcT qay rfl 0 rfl rfl fun a E=>bd hF fun s234 e235 hF=>lw E (qdS rfl rfl e235) fun a E=>bd hF fun s236 e237 hF=>lw E (qdS rfl rfl e237) fun a E=>fk E ok qcT qay rfl 0 rfl rfl fun a E=>bd hF fun s238 e239 hF=>lw E (qdS rfl rfl e239) fun a E=>bd hF fun s240 e241 hF=>lw E (qdS rfl rfl e241) fun a E=>?_
 obtain ⟨r242,e243,hF⟩:=bnd hF
 replace ok:Ok u m0 ([(pb0,oc 82 [c1,c3,vs x0.loc.Tag,vs x0.loc.Parent,vs x0.loc.Direction,c8,c10,vs x0.loc.Symbols.Decimal,vs x0.loc.Symbols.Group,vs x0.loc.Symbols.Minus,vs x0.loc.Symbols.Percent,vi x0.loc.Symbols.Primary,vi x0.loc.Symbols.Secondary,c18,c20,c22,c24,c26,c28,vb x0.isolated,c30,c32,c82,vi x0.e])] :: M33 :: M83 :: [(b98,oc 78 [vi x85.Op,vi x85.A,vi x85.B,vs x85.S])] :: M78 :: S) w:=(ok.pk 5 [2,3,4,0,1] rfl (by decide))
 refine qaf E qno rfl (qd9 N s240 (qgz e241) (Run.mk x0.c x0.loc x0.values x0.isolated (Builder.mk () x0.out.buf) l80 x0.e) h2 h4 l5 l6 l7 h9 h11 l12 l13 l14 l15 r16 r17 h19 h21 h23 h25 h27 h29 h31 h34 h84 r38 e243 hG ok) rfl rfl ?_
 rintro _ w ⟨m244,c245,c247,c252,c254,c262,c264,c266,c268,c270,c272,c274,c276,M277,c279,M280,rfl,hle,ok,h246,h248,l249,l250,l251,h253,h255,l256,l257,l258,l259,r260,r261,h263,h265,h267,h269,h271,h273,h275,h278,h281,r282⟩
 have le_m0:=le_m0.trans hle
 have h2:=(mL mS).up hle h2
 have h4:=(mL mIns).up hle h4
 have h9:=(mL qa9).up hle h9
 have h11:=(mL qa9).up hle h11
 have h19:=(mL qaW).up hle h19
 have h21:=(mL qaV).up hle h21
 have h23:=(mL qaU).up hle h23
 have h25:=(mL mS).up hle h25
 have h27:=(mL mS).up hle h27
 have h29:=(mL qbo).up hle h29
 have h79:=ORow.up (mI .i64) hle h79
 have at92:=At.up hle at92
 refine ⟨_,rfl,fun a E=>?_⟩
 refine wpList_nil<|qac<|qaa<|sg<|mv E rfl fun a E=>lw E (qaF rfl rfl) fun a E=>av E rfl fun a E=>wn<|wp_ret ?_
 exact fin hF ⟨m244,c245,c247,c252,c254,c262,c264,c266,c268,c270,c272,c274,c276,M277,c279,M280,le_m0,(ok.pk 5 [0,1,2] rfl (by decide)),E.d,rz E rfl,(InR.wrap _ _),h246,h248,l249,l250,l251,h253,h255,l256,l257,l258,l259,r260,r261,h263,h265,h267,h269,h271,h273,h275,h278,h281,r282⟩
def qlT (u:World) (m0:Mem) (S:Segs) (r:Run) (a:Act) (w:World):Prop :=
 ∃ m1 b0 c28 c30 c35 c37 c45 c47 c49 c51 c53 c55 c57 c59 M60 c62 M63,m0.le m1 ∧ Ok u m1 ([(b0,oc 82 [c28,c30,vs r.loc.Tag,vs r.loc.Parent,vs r.loc.Direction,c35,c37,vs r.loc.Symbols.Decimal,vs r.loc.Symbols.Group,vs r.loc.Symbols.Minus,vs r.loc.Symbols.Percent,vi r.loc.Symbols.Primary,vi r.loc.Symbols.Secondary,c45,c47,c49,c51,c53,c55,vb r.isolated,c57,c59,c62,vi r.e])] :: M60 :: M63 :: S) w ∧ a.defers = [] ∧ RVs Tryz.prog a w [.t 8 (.pointer (some ⟨b0,0,none⟩))] ∧ (pL 1 pS) m1 [c28] r.c.Names ∧ (pL 4 pIns) m1 [c30] r.c.Ins ∧ r.loc.Tag.length ≤ LIMS ∧ r.loc.Parent.length ≤ LIMS ∧ r.loc.Direction.length ≤ LIMS ∧ (pL 2 qaN) m1 [c35] r.loc.Cardinal ∧ (pL 2 qaN) m1 [c37] r.loc.Ordinal ∧ r.loc.Symbols.Decimal.length ≤ LIMS ∧ r.loc.Symbols.Group.length ≤ LIMS ∧ r.loc.Symbols.Minus.length ≤ LIMS ∧ r.loc.Symbols.Percent.length ≤ LIMS ∧ InR .i64 r.loc.Symbols.Primary ∧ InR .i64 r.loc.Symbols.Secondary ∧ (pL 5 qaC) m1 [c45] r.loc.Lists ∧ (pL 3 qaB) m1 [c47] r.loc.Units ∧ (pL 2 qaA) m1 [c49] r.loc.Dates ∧ (pL 1 pS) m1 [c51] r.loc.Months ∧ (pL 1 pS) m1 [c53] r.loc.Days ∧ (pL 5 qaO) m1 [c55] r.values ∧ BAdo 20 b0 c57 ∧ ORow 5 1 (pI .u8) m1 c59 r.out.buf M60 ∧ ORow 3 1 (pI .i64) m1 c62 r.trace M63 ∧ InR .i64 r.e
theorem qlI (N:Nat) (vc_0:List Value) (c_0:Code) (hc_0:qjm m0 vc_0 c_0) (vloc_1:List Value) (loc_1:Locale) (hloc_1:qiB m0 vloc_1 loc_1) (vvalues_2:Value) (values_2:List (ValueT)) (hvalues_2:(pL 5 qaO) m0 [vvalues_2] values_2) (isolated_3:Bool) {r:Run} (hF:qg5 N c_0 loc_1 values_2 isolated_3 = some r) (hG:Glob u) (hTb:Tab u) (ok:Ok u m0 (S) w) :
  Calls Tryz.prog 24 [.agg vc_0.toArray,.agg vloc_1.toArray,vvalues_2,vb isolated_3].toArray w fun e w'=>∃ m1 b0 c28 c30 c35 c37 c45 c47 c49 c51 c53 c55 c57 c59 M60 c62 M63,e = .returned (.pointer (some ⟨b0,0,none⟩)) ∧ m0.le m1 ∧ Ok u m1 ([(b0,oc 82 [c28,c30,vs r.loc.Tag,vs r.loc.Parent,vs r.loc.Direction,c35,c37,vs r.loc.Symbols.Decimal,vs r.loc.Symbols.Group,vs r.loc.Symbols.Minus,vs r.loc.Symbols.Percent,vi r.loc.Symbols.Primary,vi r.loc.Symbols.Secondary,c45,c47,c49,c51,c53,c55,vb r.isolated,c57,c59,c62,vi r.e])] :: M60 :: M63 :: S) w' ∧ (pL 1 pS) m1 [c28] r.c.Names ∧ (pL 4 pIns) m1 [c30] r.c.Ins ∧ r.loc.Tag.length ≤ LIMS ∧ r.loc.Parent.length ≤ LIMS ∧ r.loc.Direction.length ≤ LIMS ∧ (pL 2 qaN) m1 [c35] r.loc.Cardinal ∧ (pL 2 qaN) m1 [c37] r.loc.Ordinal ∧ r.loc.Symbols.Decimal.length ≤ LIMS ∧ r.loc.Symbols.Group.length ≤ LIMS ∧ r.loc.Symbols.Minus.length ≤ LIMS ∧ r.loc.Symbols.Percent.length ≤ LIMS ∧ InR .i64 r.loc.Symbols.Primary ∧ InR .i64 r.loc.Symbols.Secondary ∧ (pL 5 qaC) m1 [c45] r.loc.Lists ∧ (pL 3 qaB) m1 [c47] r.loc.Units ∧ (pL 2 qaA) m1 [c49] r.loc.Dates ∧ (pL 1 pS) m1 [c51] r.loc.Months ∧ (pL 1 pS) m1 [c53] r.loc.Days ∧ (pL 5 qaO) m1 [c55] r.values ∧ BAdo 20 b0 c57 ∧ ORow 5 1 (pI .u8) m1 c59 r.out.buf M60 ∧ ORow 3 1 (pI .i64) m1 c62 r.trace M63 ∧ InR .i64 r.e:=by
 obtain ⟨c1,c3,rfl,h2,h4⟩:=hc_0
 obtain ⟨c8,c10,c18,c20,c22,c24,c26,rfl,l5,l6,l7,h9,h11,l12,l13,l14,l15,r16,r17,h19,h21,h23,h25,h27⟩:=hloc_1
 have le_m0:=Mem.le.refl m0
 unfold qg5 at hF
 refine en (qlT u m0 S) r Tryz.func24 rfl rfl rfl (by rintro a w ⟨m1,b0,c28,c30,c35,c37,c45,c47,c49,c51,c53,c55,c57,c59,M60,c62,M63,hle,ok,hd,hrv,h0,h1,h2,h3,h4,h5,h6,h7,h8,h9,h10,h11,h12,h13,h14,h15,h16,h17,h18,h19,h20,h21,h22⟩; exact qaT [.t 8 (.pointer (some ⟨b0,0,none⟩))] hd rfl hrv ⟨m1,b0,c28,c30,c35,c37,c45,c47,c49,c51,c53,c55,c57,c59,M60,c62,M63,rfl,hle,ok,h0,h1,h2,h3,h4,h5,h6,h7,h8,h9,h10,h11,h12,h13,h14,h15,h16,h17,h18,h19,h20,h21,h22⟩) fun fin a E=>sg<|qbF E ok rfl rfl rfl fun b66 a w E ok=>qbF E ok rfl rfl rfl fun b67 a w E ok=>aw E rfl fun a E=>wp_seq<|sg<|lv E ok (qan (cs:=[c1,c3]) qd2 rfl rfl (Holds.own 1 rfl rfl)) fun a E=>bd hF fun r68 e69 hF=>qaf E qtt rfl (qmU N _ c_0 ⟨_,_,rfl,h2,h4⟩ e69 hG ok) rfl rfl ?_
 rintro _ w ⟨⟨rfl,ok⟩,r70,r71⟩
 refine ⟨_,rfl,fun a E=>?_⟩
 refine mv E rfl fun a E=>lw E (qav rfl rfl) fun a E=>lw E (qav rfl rfl) fun a E=>av E rfl fun a E=>aw E rfl fun a E=>sg<|mv E rfl fun a E=>lw E (qbD rfl rfl) fun a E=>wn<|cf E rfl hF (fun c72 hF=>?_) fun c72 hF=>?_
 ·refine sg<|aw E rfl fun a E=>wp_ret<|qad ?_
  cases hF
 refine wp_skip<|qaa<|sg<|lv E ok (qan (cs:=[c1,c3]) qd2 rfl rfl (Holds.own 1 rfl rfl)) fun a E=>lv E ok (qan (cs:=[vs loc_1.Tag,vs loc_1.Parent,vs loc_1.Direction,c8,c10,vs loc_1.Symbols.Decimal,vs loc_1.Symbols.Group,vs loc_1.Symbols.Minus,vs loc_1.Symbols.Percent,vi loc_1.Symbols.Primary,vi loc_1.Symbols.Secondary,c18,c20,c22,c24,c26]) qfd rfl rfl (Holds.own 0 rfl rfl)) fun a E=>mz E rfl rfl fun a E=>lw E (qaL (ps:=[(0,.tmp 20),(1,.tmp 21),(2,.tmp 22),(3,.tmp 23)]) (qs:=[(0,[c1,c3]),(2,[vs loc_1.Tag,vs loc_1.Parent,vs loc_1.Direction,c8,c10,vs loc_1.Symbols.Decimal,vs loc_1.Symbols.Group,vs loc_1.Symbols.Minus,vs loc_1.Symbols.Percent,vi loc_1.Symbols.Primary,vi loc_1.Symbols.Secondary,c18,c20,c22,c24,c26]),(18,[vvalues_2]),(19,[vb isolated_3])]) (cs:=[c1,c3,vs loc_1.Tag,vs loc_1.Parent,vs loc_1.Direction,c8,c10,vs loc_1.Symbols.Decimal,vs loc_1.Symbols.Group,vs loc_1.Symbols.Minus,vs loc_1.Symbols.Percent,vi loc_1.Symbols.Primary,vi loc_1.Symbols.Secondary,c18,c20,c22,c24,c26,vvalues_2,vb isolated_3,(Value.pointer none),(Value.slice none 0 0),(Value.slice none 0 0),vi 0]) qrD qpX rfl ⟨rfl,rfl,rfl,⟨rfl,rfl,rfl,⟨rfl,(qjw hvalues_2),rfl,⟨rfl,rfl,rfl,trivial⟩⟩⟩⟩ rfl) fun a E=>qbF E ok rfl rfl rfl fun b73 a w E ok=>aw E rfl fun a E=>sg<|av E rfl fun a E=>wn<|wp_seq<|wp_block ?_
 obtain ⟨M114,ok,h115⟩:=qcY (e:=5) (k:=1) (R:=(pI .u8)) ok
 obtain ⟨M116,ok,h117⟩:=qcY (e:=3) (k:=1) (R:=(pI .i64)) ok
 refine bd hF fun o118 hL hF=>qa7 _ (fun (s:Int × Run) a w=>∃ m119 c121 c123 c128 c130 c138 c140 c142 c144 c146 c148 c150 c152 M153 c155 M156,m0.le m119 ∧ Ok u m119 (M156 :: M153 :: [(b73,oc 82 [c121,c123,vs s.2.loc.Tag,vs s.2.loc.Parent,vs s.2.loc.Direction,c128,c130,vs s.2.loc.Symbols.Decimal,vs s.2.loc.Symbols.Group,vs s.2.loc.Symbols.Minus,vs s.2.loc.Symbols.Percent,vi s.2.loc.Symbols.Primary,vi s.2.loc.Symbols.Secondary,c138,c140,c142,c144,c146,c148,vb s.2.isolated,c150,c152,c155,vi s.2.e])] :: [(b67,oc 46 [vs loc_1.Tag,vs loc_1.Parent,vs loc_1.Direction,c8,c10,vs loc_1.Symbols.Decimal,vs loc_1.Symbols.Group,vs loc_1.Symbols.Minus,vs loc_1.Symbols.Percent,vi loc_1.Symbols.Primary,vi loc_1.Symbols.Secondary,c18,c20,c22,c24,c26])] :: [(b66,oc 49 [c1,c3])] :: S) w ∧ Env 59 a [(4,vp b66),(11,vp b73),(12,vi s.1)] ∧ InR .i64 s.1 ∧ (pL 1 pS) m119 [c121] s.2.c.Names ∧ (pL 4 pIns) m119 [c123] s.2.c.Ins ∧ s.2.loc.Tag.length ≤ LIMS ∧ s.2.loc.Parent.length ≤ LIMS ∧ s.2.loc.Direction.length ≤ LIMS ∧ (pL 2 qaN) m119 [c128] s.2.loc.Cardinal ∧ (pL 2 qaN) m119 [c130] s.2.loc.Ordinal ∧ s.2.loc.Symbols.Decimal.length ≤ LIMS ∧ s.2.loc.Symbols.Group.length ≤ LIMS ∧ s.2.loc.Symbols.Minus.length ≤ LIMS ∧ s.2.loc.Symbols.Percent.length ≤ LIMS ∧ InR .i64 s.2.loc.Symbols.Primary ∧ InR .i64 s.2.loc.Symbols.Secondary ∧ (pL 5 qaC) m119 [c138] s.2.loc.Lists ∧ (pL 3 qaB) m119 [c140] s.2.loc.Units ∧ (pL 2 qaA) m119 [c142] s.2.loc.Dates ∧ (pL 1 pS) m119 [c144] s.2.loc.Months ∧ (pL 1 pS) m119 [c146] s.2.loc.Days ∧ (pL 5 qaO) m119 [c148] s.2.values ∧ BAdo 20 b73 c150 ∧ ORow 5 1 (pI .u8) m119 c152 s.2.out.buf M153 ∧ ORow 3 1 (pI .i64) m119 c155 s.2.trace M156 ∧ InR .i64 s.2.e) (fun (b:(Run × Int)) e a w=>e = (.exit 0) ∧ ∃ m307 c308 c310 c315 c317 c325 c327 c329 c331 c333 c335 c337 c339 M340 c342 M343,m0.le m307 ∧ Ok u m307 (M343 :: M340 :: [(b73,oc 82 [c308,c310,vs b.1.loc.Tag,vs b.1.loc.Parent,vs b.1.loc.Direction,c315,c317,vs b.1.loc.Symbols.Decimal,vs b.1.loc.Symbols.Group,vs b.1.loc.Symbols.Minus,vs b.1.loc.Symbols.Percent,vi b.1.loc.Symbols.Primary,vi b.1.loc.Symbols.Secondary,c325,c327,c329,c331,c333,c335,vb b.1.isolated,c337,c339,c342,vi b.1.e])] :: [(b67,oc 46 [vs loc_1.Tag,vs loc_1.Parent,vs loc_1.Direction,c8,c10,vs loc_1.Symbols.Decimal,vs loc_1.Symbols.Group,vs loc_1.Symbols.Minus,vs loc_1.Symbols.Percent,vi loc_1.Symbols.Primary,vi loc_1.Symbols.Secondary,c18,c20,c22,c24,c26])] :: [(b66,oc 49 [c1,c3])] :: S) w ∧ Env 59 a [(11,vp b73),(12,vi b.2)] ∧ (pL 1 pS) m307 [c308] b.1.c.Names ∧ (pL 4 pIns) m307 [c310] b.1.c.Ins ∧ b.1.loc.Tag.length ≤ LIMS ∧ b.1.loc.Parent.length ≤ LIMS ∧ b.1.loc.Direction.length ≤ LIMS ∧ (pL 2 qaN) m307 [c315] b.1.loc.Cardinal ∧ (pL 2 qaN) m307 [c317] b.1.loc.Ordinal ∧ b.1.loc.Symbols.Decimal.length ≤ LIMS ∧ b.1.loc.Symbols.Group.length ≤ LIMS ∧ b.1.loc.Symbols.Minus.length ≤ LIMS ∧ b.1.loc.Symbols.Percent.length ≤ LIMS ∧ InR .i64 b.1.loc.Symbols.Primary ∧ InR .i64 b.1.loc.Symbols.Secondary ∧ (pL 5 qaC) m307 [c325] b.1.loc.Lists ∧ (pL 3 qaB) m307 [c327] b.1.loc.Units ∧ (pL 2 qaA) m307 [c329] b.1.loc.Dates ∧ (pL 1 pS) m307 [c331] b.1.loc.Months ∧ (pL 1 pS) m307 [c333] b.1.loc.Days ∧ (pL 5 qaO) m307 [c335] b.1.values ∧ BAdo 20 b73 c337 ∧ ORow 5 1 (pI .u8) m307 c339 b.1.out.buf M340 ∧ ORow 3 1 (pI .i64) m307 c342 b.1.trace M343 ∧ InR .i64 b.1.e ∧ InR .i64 b.2) ?_ ?_ N _ a w hL ⟨m0,c1,c3,c8,c10,c18,c20,c22,c24,c26,vvalues_2,(Value.pointer none),(Value.slice none 0 0),M114,(Value.slice none 0 0),M116,Mem.le.refl _,ok,E.keep [4,11,12],(ir 0),h2,h4,l5,l6,l7,h9,h11,l12,l13,l14,l15,r16,r17,h19,h21,h23,h25,h27,hvalues_2,(.inl rfl),h115,h117,(ir 0)⟩
 rotate_left
 ·intro e a w _ hO
  obtain ⟨rfl,m258,c259,c261,c266,c268,c276,c278,c280,c282,c284,c286,c288,c290,M291,c293,M294,hle,ok,E,h260,h262,l263,l264,l265,h267,h269,l270,l271,l272,l273,r274,r275,h277,h279,h281,h283,h285,h287,h289,h292,h295,r296,r297⟩:=hO
  have le_m0:=le_m0.trans hle
  have h2:=(mL mS).up hle h2
  have h4:=(mL mIns).up hle h4
  have h9:=(mL qa9).up hle h9
  have h11:=(mL qa9).up hle h11
  have h19:=(mL qaW).up hle h19
  have h21:=(mL qaV).up hle h21
  have h23:=(mL qaU).up hle h23
  have h25:=(mL mS).up hle h25
  have h27:=(mL mS).up hle h27
  have hvalues_2:=(mL qbo).up hle hvalues_2
  refine qa0<|qaa<|wp_seq<|sg<|mv E rfl fun a E=>lw E (qae rfl) fun a E=>fv E qiE rfl fun a E=>ld E ok qfq 2 rfl rfl rfl fun a E=>lw E (qah rfl rfl) fun a E=>wn<|cg E rfl hF (fun c298 hF=>?_) fun c298 hF=>?_
  ·refine wp_skip<|qaa<|sg<|mv E rfl fun a E=>aw E rfl fun a E=>wp_ret ?_
   exact fin hF ⟨m258,b73,c259,c261,c266,c268,c276,c278,c280,c282,c284,c286,c288,c290,M291,c293,M294,le_m0,(ok.pk 5 [2,1,0] rfl (by decide)),E.d,rz E rfl,h260,h262,l263,l264,l265,h267,h269,l270,l271,l272,l273,r274,r275,h277,h279,h281,h283,h285,h287,h289,h292,h295,r296⟩
  refine qab<|mz E rfl rfl fun a E=>lw E (qae rfl) fun a E=>fk E ok qkR qcR rfl 2 rfl rfl fun a E=>mv E rfl fun a E=>qa6 (R:=(pI .i64)) (xo:=[.tmp 53]) (xs:=([o118.2]:List (Int))) E ok qat qbn rfl ⟨⟨_,rfl,rfl,(qaX r297)⟩,trivial⟩ rfl rfl rfl rfl fun c299 M300 a w E ok h301=>bd hF fun l302 e303 hF=>qb0 (R:=(pI .i64)) E ok 1 (mI .i64) qat Tryz.underlying26 rfl h295 (qbf.ofRow h301 0 rfl ok) e303 ⟨_,qbn,rfl⟩ rfl rfl rfl rfl fun c304 M305 a w E ok h306=>lw E (qae rfl) fun a E=>fv E qkR rfl fun a E=>qax E ok 3 rfl rfl rfl qlz (ORow.cells h306) rfl ⟨(ORow.one h306),trivial⟩ rfl rfl fun w ok=>wn<|sg<|mv E rfl fun a E=>aw E rfl fun a E=>wp_ret ?_
  exact fin hF ⟨m258,b73,c259,c261,c266,c268,c276,c278,c280,c282,c284,c286,c288,c290,M291,c304,M305,le_m0,(ok.pk 6 [3,2,1] rfl (by decide)),E.d,rz E rfl,h260,h262,l263,l264,l265,h267,h269,l270,l271,l272,l273,r274,r275,h277,h279,h281,h283,h285,h287,h289,h292,h306,r296⟩
 rintro ⟨v159,v160⟩ a w r ⟨m161,c163,c165,c170,c172,c180,c182,c184,c186,c188,c190,c192,c194,M195,c197,M198,hle,ok,E,r162,h164,h166,l167,l168,l169,h171,h173,l174,l175,l176,l177,r178,r179,h181,h183,h185,h187,h189,h191,h193,h196,h199,r200⟩ hF
 replace hF:qfO N c_0 v159 v160 = some r:=hF
 unfold qfO at hF
 have le_m0:=le_m0.trans hle
 have h2:=(mL mS).up hle h2
 have h4:=(mL mIns).up hle h4
 have h9:=(mL qa9).up hle h9
 have h11:=(mL qa9).up hle h11
 have h19:=(mL qaW).up hle h19
 have h21:=(mL qaV).up hle h21
 have h23:=(mL qaU).up hle h23
 have h25:=(mL mS).up hle h25
 have h27:=(mL mS).up hle h27
 have hvalues_2:=(mL qbo).up hle hvalues_2
 refine wp_seq<|sg<|mv E rfl fun a E=>lw E (qae rfl) fun a E=>fk E ok qiE qfq rfl 2 rfl rfl fun a E=>lw E (qah rfl rfl) fun a E=>mv E rfl fun a E=>bw E 31 hF (fun c201 hF E=>?_) fun c201 hF E=>?_
 ·refine lsz E fun a E=>lsq E fun a E=>ls E fun a E=>pf E rfl rfl fun a E=>wn<|c_if E rfl (fun h=>by cases h) (fun _=>?_)
  refine wp_exit<|qaM ?_
  cases hF
  exact so (⟨rfl,⟨m161,c163,c165,c170,c172,c180,c182,c184,c186,c188,c190,c192,c194,M195,c197,M198,le_m0,ok,E.keep [11,12],h164,h166,l167,l168,l169,h171,h173,l174,l175,l176,l177,r178,r179,h181,h183,h185,h187,h189,h191,h193,h196,h199,r200,r162⟩⟩)
 refine fk E ok qdD qez rfl 4 rfl rfl fun a E=>mv E rfl fun a E=>?_
 obtain ⟨x202,e203,hF⟩:=bnd hF
 obtain ⟨b204,o205,es206,hl207,rr208,at209,yy210⟩:=ia E 33 34 qe8 h4 e203
 obtain ⟨rfl,r211,r212,r213,l214⟩:=rr208
 refine lv E ok (yy210 _ _) fun a E=>fv E qeX rfl fun a E=>lv E ok (qal qam rfl (Holds.ro (At.sub 0 1 at209))) fun a E=>lw E (qbD rfl rfl) fun a E=>pt E rfl rfl fun a E=>wn<|cg E rfl hF (fun c215 hF=>?_) fun c215 hF=>?_
 ·refine wp_exit<|qaM ?_
  cases hF
  exact so (⟨rfl,⟨m161,c163,c165,c170,c172,c180,c182,c184,c186,c188,c190,c192,c194,M195,c197,M198,le_m0,ok,E.keep [11,12],h164,h166,l167,l168,l169,h171,h173,l174,l175,l176,l177,r178,r179,h181,h183,h185,h187,h189,h191,h193,h196,h199,r200,r162⟩⟩)
 refine wp_skip<|qaa<|wp_block<|qab<|mz E rfl rfl fun a E=>?_
 obtain ⟨r216,e217,hF⟩:=bnd hF
 replace ok:Ok u m161 ([(b73,oc 82 [c163,c165,vs v160.loc.Tag,vs v160.loc.Parent,vs v160.loc.Direction,c170,c172,vs v160.loc.Symbols.Decimal,vs v160.loc.Symbols.Group,vs v160.loc.Symbols.Minus,vs v160.loc.Symbols.Percent,vi v160.loc.Symbols.Primary,vi v160.loc.Symbols.Secondary,c180,c182,c184,c186,c188,c190,vb v160.isolated,c192,c194,c197,vi v160.e])] :: M195 :: M198 :: [(b67,oc 46 [vs loc_1.Tag,vs loc_1.Parent,vs loc_1.Direction,c8,c10,vs loc_1.Symbols.Decimal,vs loc_1.Symbols.Group,vs loc_1.Symbols.Minus,vs loc_1.Symbols.Percent,vi loc_1.Symbols.Primary,vi loc_1.Symbols.Secondary,c18,c20,c22,c24,c26])] :: [(b66,oc 49 [c1,c3])] :: S) w:=(ok.pk 5 [2,1,0,3,4] rfl (by decide))
 refine qaf E qtV rfl (qky N v159 r162 (Run.mk v160.c v160.loc v160.values v160.isolated (Builder.mk () v160.out.buf) v160.trace v160.e) h164 h166 l167 l168 l169 h171 h173 l174 l175 l176 l177 r178 r179 h181 h183 h185 h187 h189 h191 h193 h196 h199 r200 e217 hG hTb ok) rfl rfl ?_
 rintro _ w ⟨m218,c220,c222,c227,c229,c237,c239,c241,c243,c245,c247,c249,c251,M252,c254,M255,rfl,hle,ok,r219,h221,h223,l224,l225,l226,h228,h230,l231,l232,l233,l234,r235,r236,h238,h240,h242,h244,h246,h248,h250,h253,h256,r257⟩
 have le_m0:=le_m0.trans hle
 have h2:=(mL mS).up hle h2
 have h4:=(mL mIns).up hle h4
 have h9:=(mL qa9).up hle h9
 have h11:=(mL qa9).up hle h11
 have h19:=(mL qaW).up hle h19
 have h21:=(mL qaV).up hle h21
 have h23:=(mL qaU).up hle h23
 have h25:=(mL mS).up hle h25
 have h27:=(mL mS).up hle h27
 have hvalues_2:=(mL qbo).up hle hvalues_2
 have h164:=(mL mS).up hle h164
 have h166:=(mL mIns).up hle h166
 have h171:=(mL qa9).up hle h171
 have h173:=(mL qa9).up hle h173
 have h181:=(mL qaW).up hle h181
 have h183:=(mL qaV).up hle h183
 have h185:=(mL qaU).up hle h185
 have h187:=(mL mS).up hle h187
 have h189:=(mL mS).up hle h189
 have h191:=(mL qbo).up hle h191
 have at209:=At.up hle at209
 refine ⟨_,rfl,fun a E=>?_⟩
 refine av E rfl fun a E=>wpList_nil<|qac ?_
 cases hF
 exact qao ⟨m218,c220,c222,c227,c229,c237,c239,c241,c243,c245,c247,c249,c251,M252,c254,M255,le_m0,(ok.pk 5 [2,1,0,3,4] rfl (by decide)),E.keep [4,11,12],r219,h221,h223,l224,l225,l226,h228,h230,l231,l232,l233,l234,r235,r236,h238,h240,h242,h244,h246,h248,h250,h253,h256,r257⟩
def qnl (u:World) (m0:Mem) (S:Segs) (r:(List UInt8) × Int) (a:Act) (w:World):Prop :=
 Ok u m0 S w ∧ a.defers = [] ∧ RVs Tryz.prog a w [.t 8 (.string (bs r.1)),.t 9 (.int .i64 r.2)] ∧ r.1.length ≤ LIMS ∧ InR .i64 r.2
theorem qm9 (N:Nat) (vc_0:List Value) (c_0:Code) (hc_0:qjm m0 vc_0 c_0) (vloc_1:List Value) (loc_1:Locale) (hloc_1:qiB m0 vloc_1 loc_1) (vvalues_2:Value) (values_2:List (ValueT)) (hvalues_2:(pL 5 qaO) m0 [vvalues_2] values_2) (isolated_3:Bool) {r:(List UInt8) × Int} (hF:qil N c_0 loc_1 values_2 isolated_3 = some r) (hG:Glob u) (hTb:Tab u) (ok:Ok u m0 S w) :
  Calls Tryz.prog 10 [.agg vc_0.toArray,.agg vloc_1.toArray,vvalues_2,vb isolated_3].toArray w fun e w'=>(e = .returned (.tuple [(.string (bs r.1)),(.int .i64 r.2)].toArray) ∧ Ok u m0 S w') ∧ r.1.length ≤ LIMS ∧ InR .i64 r.2:=by
 obtain ⟨c1,c3,rfl,h2,h4⟩:=hc_0
 obtain ⟨c8,c10,c18,c20,c22,c24,c26,rfl,l5,l6,l7,h9,h11,l12,l13,l14,l15,r16,r17,h19,h21,h23,h25,h27⟩:=hloc_1
 have hb0:=ok.base
 have le_m0:=Mem.le.refl m0
 unfold qil at hF
 refine en (qnl u m0 S) r Tryz.func10 rfl rfl rfl (by rintro a w ⟨ok,hd,hrv,h0,h1⟩; exact qaT [.t 8 (.string (bs r.1)),.t 9 (.int .i64 r.2)] hd rfl hrv ⟨⟨rfl,ok⟩,h0,h1⟩) fun fin a E=>sg<|qbF E ok rfl rfl rfl fun b28 a w E ok=>qbF E ok rfl rfl rfl fun b29 a w E ok=>av E rfl fun a E=>av E rfl fun a E=>wn<|sg<|lv E ok (qan (cs:=[c1,c3]) qd2 rfl rfl (Holds.own 1 rfl rfl)) fun a E=>lv E ok (qan (cs:=[vs loc_1.Tag,vs loc_1.Parent,vs loc_1.Direction,c8,c10,vs loc_1.Symbols.Decimal,vs loc_1.Symbols.Group,vs loc_1.Symbols.Minus,vs loc_1.Symbols.Percent,vi loc_1.Symbols.Primary,vi loc_1.Symbols.Secondary,c18,c20,c22,c24,c26]) qfd rfl rfl (Holds.own 0 rfl rfl)) fun a E=>mz E rfl rfl fun a E=>bd hF fun r30 e31 hF=>qaf E qtL rfl (qlI N _ c_0 ⟨_,_,rfl,h2,h4⟩ _ loc_1 ⟨_,_,_,_,_,_,_,rfl,l5,l6,l7,h9,h11,l12,l13,l14,l15,r16,r17,h19,h21,h23,h25,h27⟩ _ values_2 hvalues_2 isolated_3 e31 hG hTb ok) rfl rfl ?_
 rintro _ w ⟨m32,b33,c34,c36,c41,c43,c51,c53,c55,c57,c59,c61,c63,c65,M66,c68,M69,rfl,hle,ok,h35,h37,l38,l39,l40,h42,h44,l45,l46,l47,l48,r49,r50,h52,h54,h56,h58,h60,h62,h64,h67,h70,r71⟩
 have le_m0:=le_m0.trans hle
 have h2:=(mL mS).up hle h2
 have h4:=(mL mIns).up hle h4
 have h9:=(mL qa9).up hle h9
 have h11:=(mL qa9).up hle h11
 have h19:=(mL qaW).up hle h19
 have h21:=(mL qaV).up hle h21
 have h23:=(mL qaU).up hle h23
 have h25:=(mL mS).up hle h25
 have h27:=(mL mS).up hle h27
 have hvalues_2:=(mL qbo).up hle hvalues_2
 refine ⟨_,rfl,fun a E=>?_⟩
 refine aw E rfl fun a E=>wp_seq<|wp_block<|sg<|mv E rfl fun a E=>lv E ok (qhU Tryz.underlying79 rfl rfl) fun a E=>aw E rfl fun a E=>c_if E rfl (fun h=>by cases h) (fun _=>?_)
 refine sg<|mv E rfl fun a E=>lw E (qae rfl) fun a E=>fk E ok qiE qfq rfl 0 rfl rfl fun a E=>lw E (qbD rfl rfl) fun a E=>av E rfl fun a E=>wn<|cf E rfl hF (fun c72 hF=>?_) fun c72 hF=>?_
 ·refine wp_seq<|qce (by kernel_rfl) (by kernel_rfl) ok<|qv E (qai rfl) fun a E=>qv E (qae rfl) fun a E=>qv E (qag qiE rfl) fun a E=>qv E (qal qfq rfl (Holds.own 0 rfl rfl)) fun a E=>qv E (qaG rfl) fun a E=>qv E (qaG rfl) fun a E=>wpQuiet_nil ?_
  intro w ok
  refine qaa<|wp_ret<|qak<|qad ?_
  exact fin hF ⟨(ok.drop.drop.drop.drop.drop).down hb0 le_m0,E.d,⟨rv_t E rfl,rv_t E rfl,trivial⟩,(show ([]:List UInt8).length ≤ LIMS by decide),r71⟩
 refine wp_skip<|qac<|qaa<|sg<|mv E rfl fun a E=>lw E (qae rfl) fun a E=>fv E qmG rfl fun a E=>qaf E qkD rfl (qoB (pre:=[c34,c36,vs r30.loc.Tag,vs r30.loc.Parent,vs r30.loc.Direction,c41,c43,vs r30.loc.Symbols.Decimal,vs r30.loc.Symbols.Group,vs r30.loc.Symbols.Minus,vs r30.loc.Symbols.Percent,vi r30.loc.Symbols.Primary,vi r30.loc.Symbols.Secondary,c51,c53,c55,c57,c59,c61,vb r30.isolated]) Tryz.lays169 Tryz.Builder_Extra_169 h67 ok) rfl rfl ?_
 rintro _ w ⟨⟨rfl,ok⟩,l73⟩
 refine ⟨_,rfl,fun a E=>?_⟩
 refine av E rfl fun a E=>aw E rfl fun a E=>wp_ret ?_
 exact fin hF ⟨(ok.drop.drop.drop).down hb0 le_m0,E.d,⟨rv_t E rfl,rv_t E rfl,trivial⟩,l73,(ir 0)⟩
end Go.Proofs.YthhieiabfpkaaaaGreatDoor
namespace Go.Proofs.YthhieiabfpkaaaaGreatDoor
open Go.X
structure Around where
 Before:List UInt8
 After:List UInt8
 RTL:Bool
def qeM (N:Nat):Option Bool :=
 (qeV N (Locale.mk ([]) ([]) ([]) ([]) ([]) (Symbols.mk ([]) ([]) ([]) ([]) 0 0) ([]) ([]) ([]) ([]) ([])) ([(Part.mk 1 ([97]) ([]) ([]) ([]) ([]))]:List (Part)) ([]) false).bind fun r9 =>
 (qgg N ([(Part.mk 1 ([97]) ([]) ([]) ([]) ([]))]:List (Part))).bind fun r15 =>
 (qil N r15.1 (Locale.mk ([]) ([]) ([]) ([]) ([]) (Symbols.mk ([]) ([]) ([]) ([]) 0 0) ([]) ([]) ([]) ([]) ([])) ([]) false).bind fun r26 =>
 bif (r9.2 == 0) then
  bif (r15.2 == 0) then
   bif (r26.2 == 0) then
    bif (r9.1 == ([97])) then
     some (r26.1 == ([97]))
    else
     some false
   else
    some false
  else
   some false
 else
  some false
def qb3 (_N:Nat) (r98:(List (Int))) (r103:(List (Int))) (r111:(List (Int))) (out_173:List (Int)) (x_174:Int):Option (((List (Int)) × Int) ⊕ (((List (Int))))) :=
 bif (decide (x_174 < (r98.length:Int))) then
  (idx r98 x_174).bind fun x180 =>
  bif (decide (x180 < (r103.length:Int))) then
   (app out_173 ([x180]:List (Int))).bind fun l194 =>
   some (.inl (l194,(x_174 + 1)))
  else
   bif (decide (x180 ≥ (IntKind.wrap .i64 ((r103.length:Int) + (r111.length:Int))))) then
    (app out_173 ([(IntKind.wrap .i64 (x180 - (r111.length:Int)))]:List (Int))).bind fun l203 =>
    some (.inl (l203,(x_174 + 1)))
   else
    some (.inl (out_173,(x_174 + 1)))
 else
  some (.inr out_173)
def qdp (N:Nat) (a_0:Around) (value_1:List UInt8):Option ((List (Int)) × Bool) :=
 (show Option ((List UInt8) × Int) from
  (qdZ N a_0.Before).bind fun r7 =>
  (cat r7 ([123,120,125])).bind fun s10 =>
  (qdZ N a_0.After).bind fun r12 =>
  (cat s10 r12).bind fun s15 =>
  (qf0 N (Locale.mk ([]) ([]) ([]) ([]) ([]) (Symbols.mk ([]) ([]) ([]) ([]) 0 0) ([]) ([]) ([]) ([]) ([])) s15 ([(ValueT.mk ([120]) 1 value_1 0 ([]))]:List (ValueT)) true).bind fun r25 =>
  some (r25.1,r25.2)).bind fun o4 =>
 bif (o4.2 != 0) then
  some ([],false)
 else
  (qd3 N value_1).bind fun r67 =>
  (cat a_0.Before r67).bind fun s70 =>
  (cat s70 a_0.After).bind fun s72 =>
  bif (o4.1 != s72) then
   some ([],false)
  else
   (qcL N o4.1).bind fun r75 =>
   (qcL N a_0.Before).bind fun r78 =>
   (qcL N value_1).bind fun r81 =>
   (cat r78 r81).bind fun s84 =>
   (qcL N a_0.After).bind fun r86 =>
   (cat s84 r86).bind fun s89 =>
   bif (r75 != s89) then
    some ([],false)
   else
    (qfv N o4.1 a_0.RTL).bind fun r92 =>
    (qgd N r92.1).bind fun r98 =>
    (qcd N a_0.Before).bind fun r103 =>
    (qd3 N value_1).bind fun r108 =>
    (qcd N r108).bind fun r111 =>
    bif (r92.2 != 0) then
     some ([],false)
    else
     bif (decide ((r92.1.length:Int) < (IntKind.wrap .i64 ((r103.length:Int) + (r111.length:Int))))) then
      some ([],false)
     else
      bif ((r98.length:Int) != (r92.1.length:Int)) then
       some ([],false)
      else
       (show Option ((List (Int))) from
        (slc r92.1 0 (r103.length:Int)).bind fun l126 =>
        (app ([]:List (Int)) l126).bind fun l131 =>
        (slc r92.1 (IntKind.wrap .i64 ((r103.length:Int) + (r111.length:Int))) (r92.1.length:Int)).bind fun l136 =>
        (app l131 l136).bind fun l141 =>
        some l141).bind fun o119 =>
       (iter (fun s=>qb3 N r98 r103 r111 s.1 s.2) N (o119,0)).bind fun o168 =>
       some (o168,true)
def qbk (N:Nat) (a_0:Around) (x_1:List UInt8) (y_2:List UInt8):Option Bool :=
 (qeM N ).bind fun r4 =>
 bif (!r4) then
  some false
 else
  bif (decide ((IntKind.wrap .i64 ((a_0.Before.length:Int) + (a_0.After.length:Int))) > 100)) then
   some true
  else
   bif (decide ((x_1.length:Int) > 100)) then
    some true
   else
    bif (decide ((y_2.length:Int) > 100)) then
     some true
    else
     (qde N a_0.Before).bind fun r10 =>
     (qde N a_0.After).bind fun r13 =>
     bif (decide ((IntKind.wrap .i64 (r10 + r13)) > 20)) then
      some true
     else
      (qdp N a_0 x_1).bind fun r17 =>
      (qdp N a_0 y_2).bind fun r22 =>
      bif r17.2 then
       bif r22.2 then
        (qc5 N r17.1 r22.1).bind fun r29 =>
        some r29
       else
        some false
      else
       some false
end Go.Proofs.YthhieiabfpkaaaaGreatDoor
namespace Go.Proofs.YthhieiabfpkaaaaGreatDoor
open Go.X
variable {u:World} {m0:Mem} {S:Segs} {w:World}
set_option maxHeartbeats 4000000
set_option maxRecDepth 100000
def qmQ:Rp Around:=fun _ cs x=>cs = [.string (bs x.Before),.string (bs x.After),.bool x.RTL] ∧ x.Before.length ≤ LIMS ∧ x.After.length ≤ LIMS
theorem qpW:aggB Tryz.prog 23 3 = true:=by kernel_rfl
theorem qht:qar Tryz.prog 23 0 0 = true:=by kernel_rfl
theorem qiC:qar Tryz.prog 23 1 1 = true:=by kernel_rfl
theorem qr9:qar Tryz.prog 23 2 2 = true:=by kernel_rfl
theorem qtE:goB Tryz.prog 10 = true:=by kernel_rfl
theorem qo8:goB Tryz.prog 13 = true:=by kernel_rfl
theorem qnw:goB Tryz.prog 16 = true:=by kernel_rfl
theorem qtG:goB Tryz.prog 17 = true:=by kernel_rfl
theorem qtD:goB Tryz.prog 18 = true:=by kernel_rfl
theorem go_4:goB Tryz.prog 4 = true:=by kernel_rfl
theorem go_5:goB Tryz.prog 5 = true:=by kernel_rfl
theorem go_6:goB Tryz.prog 6 = true:=by kernel_rfl
theorem go_7:goB Tryz.prog 7 = true:=by kernel_rfl
theorem go_9:goB Tryz.prog 9 = true:=by kernel_rfl
theorem qjR:qcq Tryz.prog 46 = some [(0,1),(1,1),(2,1),(3,1),(4,1),(5,6),(11,1),(12,1),(13,1),(14,1),(15,1)]:=by kernel_rfl
theorem qmK:qbq Tryz.prog 46 = some [(vs ([])),(vs ([])),(vs ([])),(Value.slice none 0 0),(Value.slice none 0 0),(vs ([])),(vs ([])),(vs ([])),(vs ([])),vi 0,vi 0,(Value.slice none 0 0),(Value.slice none 0 0),(Value.slice none 0 0),(Value.slice none 0 0),(Value.slice none 0 0)]:=by kernel_rfl
def qjT (u:World) (m0:Mem) (S:Segs) (r:Bool) (a:Act) (w:World):Prop :=
 Ok u m0 S w ∧ a.defers = [] ∧ RVs Tryz.prog a w [.t 0 (.bool r)]
theorem qjU (N:Nat) {r:Bool} (hF:qeM N  = some r) (hG:Glob u) (hTb:Tab u) (ok:Ok u m0 S w) :
  Calls Tryz.prog 4 [].toArray w fun e w'=>(e = .returned (.bool r) ∧ Ok u m0 S w'):=by
 have hb0:=ok.base
 have le_m0:=Mem.le.refl m0
 unfold qeM at hF
 refine en (qjT u m0 S) r Tryz.func4 rfl rfl rfl (fun _ _ h=>ra h rfl) fun fin a E=>sg<|aw E rfl fun a E=>sg<|lw E (qaL (ps:=[(0,.const (vi 1)),(1,.const (vs ([97])))]) (qs:=[(0,[vi 1]),(1,[(vs ([97]))])]) (cs:=[vi 1,(vs ([97])),(vs ([])),(vs ([])),(Value.slice none 0 0),(Value.slice none 0 0)]) qcn qgG rfl ⟨rfl,rfl,rfl,⟨rfl,rfl,rfl,trivial⟩⟩ rfl) fun a E=>qa6 (R:=qbp) (xo:=[.tmp 8]) (xs:=([(Part.mk 1 ([97]) ([]) ([]) ([]) ([]))]:List (Part))) E ok qcM qcn rfl ⟨⟨_,rfl,rfl,(qbK.2 ⟨_,_,rfl,(ir 1),(show ([97]:List UInt8).length ≤ LIMS by decide),(Nat.zero_le _),(Nat.zero_le _),qaI,qaI⟩)⟩,trivial⟩ rfl rfl rfl rfl fun c1 M2 a w E ok h3=>aw E rfl fun a E=>sg<|lw E (qaL (ps:=[]) (qs:=[]) (cs:=[(vs ([])),(vs ([])),(vs ([])),(Value.slice none 0 0),(Value.slice none 0 0),(vs ([])),(vs ([])),(vs ([])),(vs ([])),vi 0,vi 0,(Value.slice none 0 0),(Value.slice none 0 0),(Value.slice none 0 0),(Value.slice none 0 0),(Value.slice none 0 0)]) qmK qjR rfl trivial rfl) fun a E=>mv E rfl fun a E=>?_
 obtain ⟨r9,e10,hF⟩:=bnd hF
 obtain ⟨m4,hle6,ok5,hfz7⟩:=(ok.frs 0 rfl).freeze
 have h8:=ORow.froz qa8 h3 hle6 hfz7 (by decide)
 refine qaf E go_8 rfl (qjz N _ (Locale.mk ([]) ([]) ([]) ([]) ([]) (Symbols.mk ([]) ([]) ([]) ([]) 0 0) ([]) ([]) ([]) ([]) ([])) ⟨_,_,_,_,_,_,_,rfl,(Nat.zero_le _),(Nat.zero_le _),(Nat.zero_le _),qaI,qaI,(Nat.zero_le _),(Nat.zero_le _),(Nat.zero_le _),(Nat.zero_le _),(ir 0),(ir 0),qaI,qaI,qaI,qaI,qaI⟩ _ ([(Part.mk 1 ([97]) ([]) ([]) ([]) ([]))]:List (Part)) h8 _ ([]) qaI false e10 hG hTb ok5) rfl rfl ?_
 rintro _ w ⟨⟨rfl,okz⟩,l11,r12⟩
 replace ok:=(Ok.thawAt 0 rfl ok hle6 hfz7 okz)
 refine ⟨_,rfl,fun a E=>?_⟩
 refine mv E rfl fun a E=>lw E (qav rfl rfl) fun a E=>lw E (qav rfl rfl) fun a E=>av E rfl fun a E=>aw E rfl fun a E=>sg<|mv E rfl fun a E=>?_
 obtain ⟨m13,hle,ok,hfz⟩:=(ok.frs 0 rfl).freeze
 have h14:=ORow.froz qa8 h3 hle hfz (by decide)
 have le_m0:=le_m0.trans hle
 refine bd hF fun r15 e16 hF=>qaf E go_9 rfl (qkX N _ ([(Part.mk 1 ([97]) ([]) ([]) ([]) ([]))]:List (Part)) h14 e16 hG ok) rfl rfl ?_
 rintro _ w ⟨m17,vs18,rfl,hle,ok,h19,r20⟩
 have le_m0:=le_m0.trans hle
 have h14:=(mL qa8).up hle h14
 obtain ⟨c21,c23,rfl,h22,h24⟩:=h19
 refine ⟨_,rfl,fun a E=>?_⟩
 refine mv E rfl fun a E=>lw E (qav rfl rfl) fun a E=>lw E (qav rfl rfl) fun a E=>qa4 E ok qmo rfl rfl fun b25 a w E ok=>qax E ok 0 rfl rfl rfl qnA rfl rfl ⟨(qdk h22),(qdk h24),trivial⟩ rfl rfl fun w ok=>aw E rfl fun a E=>sg<|lv E ok (qan (cs:=[c21,c23]) qd2 rfl rfl (Holds.own 0 rfl rfl)) fun a E=>lw E (qaL (ps:=[]) (qs:=[]) (cs:=[(vs ([])),(vs ([])),(vs ([])),(Value.slice none 0 0),(Value.slice none 0 0),(vs ([])),(vs ([])),(vs ([])),(vs ([])),vi 0,vi 0,(Value.slice none 0 0),(Value.slice none 0 0),(Value.slice none 0 0),(Value.slice none 0 0),(Value.slice none 0 0)]) qmK qjR rfl trivial rfl) fun a E=>bd hF fun r26 e27 hF=>qaf E qtE rfl (qm9 N _ r15.1 ⟨_,_,rfl,h22,h24⟩ _ (Locale.mk ([]) ([]) ([]) ([]) ([]) (Symbols.mk ([]) ([]) ([]) ([]) 0 0) ([]) ([]) ([]) ([]) ([])) ⟨_,_,_,_,_,_,_,rfl,(Nat.zero_le _),(Nat.zero_le _),(Nat.zero_le _),qaI,qaI,(Nat.zero_le _),(Nat.zero_le _),(Nat.zero_le _),(Nat.zero_le _),(ir 0),(ir 0),qaI,qaI,qaI,qaI,qaI⟩ _ ([]) qaI false e27 hG hTb ok) rfl rfl ?_
 rintro _ w ⟨⟨rfl,ok⟩,l28,r29⟩
 refine ⟨_,rfl,fun a E=>?_⟩
 refine mv E rfl fun a E=>lw E (qav rfl rfl) fun a E=>lw E (qav rfl rfl) fun a E=>av E rfl fun a E=>aw E rfl fun a E=>sg<|mv E rfl fun a E=>lw E (qah rfl rfl) fun a E=>mv E rfl fun a E=>bw E 29 hF (fun c30 hF E=>?_) fun c30 hF E=>?_
 ·refine lsq E fun a E=>pf E rfl rfl fun a E=>mv E rfl fun a E=>lsq E fun a E=>pf E rfl rfl fun a E=>mv E rfl fun a E=>lsq E fun a E=>pf E rfl rfl fun a E=>mv E rfl fun a E=>lsq E fun a E=>pf E rfl rfl fun a E=>av E rfl fun a E=>?_
  refine wn<|wp_ret ?_
  exact fin hF ⟨(ok.drop).down hb0 le_m0,E.d,rz E rfl⟩
 refine mv E rfl fun a E=>lw E (qah rfl rfl) fun a E=>pt E rfl rfl fun a E=>mv E rfl fun a E=>bw E 33 hF (fun c31 hF E=>?_) fun c31 hF E=>?_
 ·refine lsq E fun a E=>pf E rfl rfl fun a E=>mv E rfl fun a E=>lsq E fun a E=>pf E rfl rfl fun a E=>mv E rfl fun a E=>lsq E fun a E=>pf E rfl rfl fun a E=>aw E rfl fun a E=>wp_ret ?_
  exact fin hF ⟨(ok.drop).down hb0 le_m0,E.d,rz E rfl⟩
 refine mv E rfl fun a E=>lw E (qah rfl rfl) fun a E=>pt E rfl rfl fun a E=>mv E rfl fun a E=>bw E 37 hF (fun c32 hF E=>?_) fun c32 hF E=>?_
 ·refine lsq E fun a E=>pf E rfl rfl fun a E=>mv E rfl fun a E=>lsq E fun a E=>pf E rfl rfl fun a E=>av E rfl fun a E=>wn<|wp_ret ?_
  exact fin hF ⟨(ok.drop).down hb0 le_m0,E.d,rz E rfl⟩
 refine mv E rfl fun a E=>lw E (qcH rfl rfl) fun a E=>pt E rfl rfl fun a E=>mv E rfl fun a E=>bu E 41 hF (fun c33 hF E=>?_) fun c33 hF E=>?_
 ·refine mv E rfl fun a E=>lw E (qcH rfl rfl) fun a E=>pt E rfl rfl fun a E=>aw E rfl fun a E=>wp_ret ?_
  exact fin hF ⟨(ok.drop).down hb0 le_m0,E.d,rz E rfl⟩
 refine lsq E fun a E=>pf E rfl rfl fun a E=>aw E rfl fun a E=>wp_ret ?_
 exact fin hF ⟨(ok.drop).down hb0 le_m0,E.d,rz E rfl⟩
def qkh (u:World) (m0:Mem) (S:Segs) (r:(List (Int)) × Bool) (a:Act) (w:World):Prop :=
 ∃ m1 v0,m0.le m1 ∧ Ok u m1 S w ∧ a.defers = [] ∧ RVs Tryz.prog a w [.t 4 v0,.t 5 (.bool r.2)] ∧ (pL 1 (pI .i64)) m1 [v0] r.1
theorem qgL (N:Nat) (va_0:List Value) (a_0:Around) (ha_0:qmQ m0 va_0 a_0) (value_1:List UInt8) (lvalue_1:value_1.length ≤ LIMS) {r:(List (Int)) × Bool} (hF:qdp N a_0 value_1 = some r) (hG:Glob u) (hTb:Tab u) (ok:Ok u m0 S w) :
  Calls Tryz.prog 6 [.agg va_0.toArray,vs value_1].toArray w fun e w'=>∃ m1 v0,e = .returned (.tuple [v0,(.bool r.2)].toArray) ∧ m0.le m1 ∧ Ok u m1 S w' ∧ (pL 1 (pI .i64)) m1 [v0] r.1:=by
 obtain ⟨rfl,l1,l2⟩:=ha_0
 have le_m0:=Mem.le.refl m0
 unfold qdp at hF
 refine en (qkh u m0 S) r Tryz.func6 rfl rfl rfl (by rintro a w ⟨m1,v0,hle,ok,hd,hrv,h0⟩; exact qaT [.t 4 v0,.t 5 (.bool r.2)] hd rfl hrv ⟨m1,v0,rfl,hle,ok,h0⟩) fun fin a E=>sg<|qbF E ok rfl rfl rfl fun b3 a w E ok=>av E rfl fun a E=>aw E rfl fun a E=>wp_seq<|bd hF fun o4 hJ hF=>qaH (Q':=fun e a w=>e = .normal ∧ Ok u m0 ([(b3,oc 23 [vs a_0.Before,vs a_0.After,vb a_0.RTL])] :: S) w ∧ Env 134 a [(1,vs value_1),(2,vp b3),(6,vs o4.1),(7,vi o4.2)] ∧ o4.1.length ≤ LIMS ∧ InR .i64 o4.2) ?_ ?_
 ·as_aux_lemma =>
   have hF:=hJ
   obtain ⟨r7,e8,hF⟩:=bnd hF
   obtain ⟨s10,e11,hF⟩:=bnd hF
   obtain ⟨r12,e13,hF⟩:=bnd hF
   obtain ⟨s15,e16,hF⟩:=bnd hF
   obtain ⟨r25,e26,hF⟩:=bnd hF
   obtain rfl:=sj hF
   refine qco [] (Cls u m0 ([(b3,oc 23 [vs a_0.Before,vs a_0.After,vb a_0.RTL])] :: [])) (Cls u m0 ([(b3,oc 23 [vs a_0.Before,vs a_0.After,vb a_0.RTL])] :: [])) (by kernel_rfl) ?_
   intro w hw
   replace ok:=qc8 ok hw
   clear hw
   refine qas (cl1 (cq le_m0 ok [0] rfl) (cq le_m0 ok [0] rfl)) fun hT=>kt 0 E rfl hT (qaL (ps:=[]) (qs:=[]) (cs:=[(vs ([])),(vs ([])),(vs ([])),(Value.slice none 0 0),(Value.slice none 0 0),(vs ([])),(vs ([])),(vs ([])),(vs ([])),vi 0,vi 0,(Value.slice none 0 0),(Value.slice none 0 0),(Value.slice none 0 0),(Value.slice none 0 0),(Value.slice none 0 0)]) qmK qjR rfl trivial rfl) fun a E=>kt 1 E rfl hT (qag qht rfl) fun a E=>kt 2 E rfl hT (qal qay rfl (Holds.cown 0 rfl rfl)) fun a E=>kt 5 E rfl hT (qag qiC rfl) fun a E=>kt 6 E rfl hT (qal qay rfl (Holds.cown 0 rfl rfl)) fun a E=>kt 9 E rfl hT (qai rfl) fun a E=>kt 10 E rfl hT (qaL (ps:=[(0,.const (vs ([120]))),(1,.const (vi 1)),(2,.tmp 26)]) (qs:=[(0,[(vs ([120]))]),(1,[vi 1]),(2,[vs value_1])]) (cs:=[(vs ([120])),vi 1,vs value_1,vi 0,(Value.slice none 0 0)]) qfg qm3 rfl ⟨rfl,rfl,rfl,⟨rfl,rfl,rfl,⟨rfl,rfl,rfl,trivial⟩⟩⟩ rfl) fun a E=>qaS [3,11] (by kernel_rfl) rfl (qd7 ?_ (qd7 ?_ (qhd)))
   rotate_left
   ·refine wo rfl<|qa6 (R:=qaO) (xo:=[.tmp 27]) (xs:=([(ValueT.mk ([120]) 1 value_1 0 ([]))]:List (ValueT))) E ok qkJ qfg rfl ⟨⟨_,rfl,rfl,⟨_,rfl,(show ([120]:List UInt8).length ≤ LIMS by decide),(ir 1),lvalue_1,(ir 0),qaI⟩⟩,trivial⟩ rfl rfl rfl rfl fun c52 M53 a w E ok h54=>wn<|qas (cl1 (cq le_m0 ok [1] rfl) (cq le_m0 ok [1] rfl)) fun hT=>qaS [3] (by kernel_rfl) rfl (qaZ ?_)
    ·refine wo rfl<|qaf E qkL rfl (qdV N a_0.Before l1 e8 hG ok) rfl rfl ?_
     rintro _ w ⟨⟨rfl,ok⟩,l55⟩
     refine ⟨_,rfl,fun a E=>?_⟩
     refine wn<|qas (cl1 (cq le_m0 ok [1] rfl) (cq le_m0 ok [1] rfl)) fun hT=>kt 4 E rfl hT (qdS rfl rfl e11) fun a E=>qaS [7] (by kernel_rfl) rfl (qaZ ?_)
     ·refine wo rfl<|qaf E qkL rfl (qdV N a_0.After l2 e13 hG ok) rfl rfl ?_
      rintro _ w ⟨⟨rfl,ok⟩,l56⟩
      refine ⟨_,rfl,fun a E=>?_⟩
      refine wn<|qas (cl1 (cq le_m0 ok [1] rfl) (cq le_m0 ok [1] rfl)) fun hT=>kt 8 E rfl hT (qdS rfl rfl e16) fun a E=>qaS [12] (by kernel_rfl) rfl (qaZ ?_)
      ·refine qdY (o:=_) rfl ?_
       obtain ⟨m57,hle59,ok58,hfz60⟩:=(ok.frs 0 rfl).freeze
       have h61:=ORow.froz qbo h54 hle59 hfz60 (by decide)
       refine qaf E qo8 rfl (qif N _ (Locale.mk ([]) ([]) ([]) ([]) ([]) (Symbols.mk ([]) ([]) ([]) ([]) 0 0) ([]) ([]) ([]) ([]) ([])) ⟨_,_,_,_,_,_,_,rfl,(Nat.zero_le _),(Nat.zero_le _),(Nat.zero_le _),qaI,qaI,(Nat.zero_le _),(Nat.zero_le _),(Nat.zero_le _),(Nat.zero_le _),(ir 0),(ir 0),qaI,qaI,qaI,qaI,qaI⟩ s15 (qgz e16) _ ([(ValueT.mk ([120]) 1 value_1 0 ([]))]:List (ValueT)) h61 true e26 hG hTb ok58) rfl rfl ?_
       rintro _ w ⟨⟨rfl,okz⟩,l62,r63⟩
       replace ok:=(Ok.thawAt 0 rfl ok hle59 hfz60 okz)
       refine ⟨_,rfl,fun a E=>?_⟩
       refine wn<|qas (cl1 (cq le_m0 ok [1] rfl) (cq le_m0 ok [1] rfl)) fun hT=>kt 13 E rfl hT (qai rfl) fun a E=>kt 14 E rfl hT (qav rfl rfl) fun a E=>kt 15 E rfl hT (qav rfl rfl) fun a E=>kt 16 E rfl hT (qaG rfl) fun a E=>kt 17 E rfl hT (qaG rfl) fun a E=>qbJ (by kernel_rfl) ?_
       exact ⟨rfl,⟨(ok.pk 2 [1] rfl (by decide)),E.keep [1,2,6,7],l62,r63⟩⟩
   refine wo rfl<|qaf E qkL rfl (qdV N a_0.Before l1 e8 hG ok) rfl rfl ?_
   rintro _ w ⟨⟨rfl,ok⟩,l29⟩
   refine ⟨_,rfl,fun a E=>?_⟩
   refine wn<|qas (cl1 (cq le_m0 ok [0] rfl) (cq le_m0 ok [0] rfl)) fun hT=>kt 4 E rfl hT (qdS rfl rfl e11) fun a E=>qaS [7,11] (by kernel_rfl) rfl (qd7 ?_ (qd7 ?_ (qhd)))
   ·refine wo rfl<|qaf E qkL rfl (qdV N a_0.After l2 e13 hG ok) rfl rfl ?_
    rintro _ w ⟨⟨rfl,ok⟩,l30⟩
    refine ⟨_,rfl,fun a E=>?_⟩
    refine wn<|qas (cl1 (cq le_m0 ok [0] rfl) (cq le_m0 ok [0] rfl)) fun hT=>kt 8 E rfl hT (qdS rfl rfl e16) fun a E=>qaS [11] (by kernel_rfl) rfl (qaZ ?_)
    ·refine wo rfl<|qa6 (R:=qaO) (xo:=[.tmp 27]) (xs:=([(ValueT.mk ([120]) 1 value_1 0 ([]))]:List (ValueT))) E ok qkJ qfg rfl ⟨⟨_,rfl,rfl,⟨_,rfl,(show ([120]:List UInt8).length ≤ LIMS by decide),(ir 1),lvalue_1,(ir 0),qaI⟩⟩,trivial⟩ rfl rfl rfl rfl fun c31 M32 a w E ok h33=>wn<|qas (cl1 (cq le_m0 ok [1] rfl) (cq le_m0 ok [1] rfl)) fun hT=>qaS [12] (by kernel_rfl) rfl (qaZ ?_)
     ·refine qdY (o:=_) rfl ?_
      obtain ⟨m34,hle36,ok35,hfz37⟩:=(ok.frs 0 rfl).freeze
      have h38:=ORow.froz qbo h33 hle36 hfz37 (by decide)
      refine qaf E qo8 rfl (qif N _ (Locale.mk ([]) ([]) ([]) ([]) ([]) (Symbols.mk ([]) ([]) ([]) ([]) 0 0) ([]) ([]) ([]) ([]) ([])) ⟨_,_,_,_,_,_,_,rfl,(Nat.zero_le _),(Nat.zero_le _),(Nat.zero_le _),qaI,qaI,(Nat.zero_le _),(Nat.zero_le _),(Nat.zero_le _),(Nat.zero_le _),(ir 0),(ir 0),qaI,qaI,qaI,qaI,qaI⟩ s15 (qgz e16) _ ([(ValueT.mk ([120]) 1 value_1 0 ([]))]:List (ValueT)) h38 true e26 hG hTb ok35) rfl rfl ?_
      rintro _ w ⟨⟨rfl,okz⟩,l39,r40⟩
      replace ok:=(Ok.thawAt 0 rfl ok hle36 hfz37 okz)
      refine ⟨_,rfl,fun a E=>?_⟩
      refine wn<|qas (cl1 (cq le_m0 ok [1] rfl) (cq le_m0 ok [1] rfl)) fun hT=>kt 13 E rfl hT (qai rfl) fun a E=>kt 14 E rfl hT (qav rfl rfl) fun a E=>kt 15 E rfl hT (qav rfl rfl) fun a E=>kt 16 E rfl hT (qaG rfl) fun a E=>kt 17 E rfl hT (qaG rfl) fun a E=>qbJ (by kernel_rfl) ?_
      exact ⟨rfl,⟨(ok.pk 2 [1] rfl (by decide)),E.keep [1,2,6,7],l39,r40⟩⟩
   refine wo rfl<|qa6 (R:=qaO) (xo:=[.tmp 27]) (xs:=([(ValueT.mk ([120]) 1 value_1 0 ([]))]:List (ValueT))) E ok qkJ qfg rfl ⟨⟨_,rfl,rfl,⟨_,rfl,(show ([120]:List UInt8).length ≤ LIMS by decide),(ir 1),lvalue_1,(ir 0),qaI⟩⟩,trivial⟩ rfl rfl rfl rfl fun c41 M42 a w E ok h43=>wn<|qas (cl1 (cq le_m0 ok [1] rfl) (cq le_m0 ok [1] rfl)) fun hT=>qaS [7] (by kernel_rfl) rfl (qaZ ?_)
   ·refine wo rfl<|qaf E qkL rfl (qdV N a_0.After l2 e13 hG ok) rfl rfl ?_
    rintro _ w ⟨⟨rfl,ok⟩,l44⟩
    refine ⟨_,rfl,fun a E=>?_⟩
    refine wn<|qas (cl1 (cq le_m0 ok [1] rfl) (cq le_m0 ok [1] rfl)) fun hT=>kt 8 E rfl hT (qdS rfl rfl e16) fun a E=>qaS [12] (by kernel_rfl) rfl (qaZ ?_)
    ·refine qdY (o:=_) rfl ?_
     obtain ⟨m45,hle47,ok46,hfz48⟩:=(ok.frs 0 rfl).freeze
     have h49:=ORow.froz qbo h43 hle47 hfz48 (by decide)
     refine qaf E qo8 rfl (qif N _ (Locale.mk ([]) ([]) ([]) ([]) ([]) (Symbols.mk ([]) ([]) ([]) ([]) 0 0) ([]) ([]) ([]) ([]) ([])) ⟨_,_,_,_,_,_,_,rfl,(Nat.zero_le _),(Nat.zero_le _),(Nat.zero_le _),qaI,qaI,(Nat.zero_le _),(Nat.zero_le _),(Nat.zero_le _),(Nat.zero_le _),(ir 0),(ir 0),qaI,qaI,qaI,qaI,qaI⟩ s15 (qgz e16) _ ([(ValueT.mk ([120]) 1 value_1 0 ([]))]:List (ValueT)) h49 true e26 hG hTb ok46) rfl rfl ?_
     rintro _ w ⟨⟨rfl,okz⟩,l50,r51⟩
     replace ok:=(Ok.thawAt 0 rfl ok hle47 hfz48 okz)
     refine ⟨_,rfl,fun a E=>?_⟩
     refine wn<|qas (cl1 (cq le_m0 ok [1] rfl) (cq le_m0 ok [1] rfl)) fun hT=>kt 13 E rfl hT (qai rfl) fun a E=>kt 14 E rfl hT (qav rfl rfl) fun a E=>kt 15 E rfl hT (qav rfl rfl) fun a E=>kt 16 E rfl hT (qaG rfl) fun a E=>kt 17 E rfl hT (qaG rfl) fun a E=>qbJ (by kernel_rfl) ?_
     exact ⟨rfl,⟨(ok.pk 2 [1] rfl (by decide)),E.keep [1,2,6,7],l50,r51⟩⟩
 intro e a w hO
 obtain ⟨rfl,ok,E,l64,r65⟩:=hO
 refine qaa<|wp_seq<|wp_seq<|qce (by kernel_rfl) (by kernel_rfl) ok<|qv E (qai rfl) fun a E=>qv E (qbD rfl rfl) fun a E=>qv E (qai rfl) fun a E=>bu E 34 hF (fun c66 hF E=>?_) fun c66 hF E=>?_
 ·refine qs E fun a E=>qs E fun a E=>qs E fun a E=>qs E fun a E=>qs E fun a E=>qs E fun a E=>qs E fun a E=>qs E fun a E=>qs E fun a E=>qs E fun a E=>qv E (qbV rfl rfl) fun a E=>qv E (qai rfl) fun a E=>qs E fun a E=>qs E fun a E=>qs E fun a E=>qs E fun a E=>?_
  refine qs E fun a E=>qs E fun a E=>qs E fun a E=>qs E fun a E=>qs E fun a E=>qs E fun a E=>qs E fun a E=>qs E fun a E=>qs E fun a E=>qv E (qbV rfl rfl) fun a E=>wpQuiet_nil ?_
  intro w ok
  refine qaa<|c_if E rfl (fun _=>?_) (fun h=>by cases h)
  refine sg<|av E rfl fun a E=>aw E rfl fun a E=>wp_ret<|qad ?_
  exact fin hF ⟨m0,(.slice none 0 0),le_m0,ok.drop,E.d,⟨rv_t E rfl,rv_t E rfl,trivial⟩,qaI⟩
 refine qv E (qai rfl) fun a E=>qv E (qag qht rfl) fun a E=>qv E (qal qay rfl (Holds.own 0 rfl rfl)) fun a E=>qv E (qai rfl) fun a E=>?_
 obtain ⟨r67,e68,hF⟩:=bnd hF
 obtain ⟨_,_,⟨_,_⟩,l69⟩:=Go.X.Calls.get (qfi N value_1 lvalue_1 e68 hG ok)
 refine qd0 E qpG rfl (fun w ok=>(qfi N value_1 lvalue_1 e68 hG ok).mono (fun _ _ h=>h.1)) rfl rfl fun a E=>bd hF fun s70 e71 hF=>qv E (qdS rfl rfl e71) fun a E=>qv E (qag qiC rfl) fun a E=>qv E (qal qay rfl (Holds.own 0 rfl rfl)) fun a E=>bd hF fun s72 e73 hF=>qv E (qdS rfl rfl e73) fun a E=>qv E (qdj rfl rfl) fun a E=>qv E (qcD rfl rfl) fun a E=>qv E (qai rfl) fun a E=>bu E 46 hF (fun c74 hF E=>?_) fun c74 hF E=>?_
 ·refine qs E fun a E=>qs E fun a E=>qs E fun a E=>qs E fun a E=>qs E fun a E=>qs E fun a E=>qs E fun a E=>qs E fun a E=>qs E fun a E=>qs E fun a E=>qs E fun a E=>qs E fun a E=>qs E fun a E=>qv E (qbV rfl rfl) fun a E=>wpQuiet_nil ?_
  intro w ok
  refine qaa<|c_if E rfl (fun _=>?_) (fun h=>by cases h)
  refine sg<|av E rfl fun a E=>aw E rfl fun a E=>wp_ret<|qad ?_
  exact fin hF ⟨m0,(.slice none 0 0),le_m0,ok.drop,E.d,⟨rv_t E rfl,rv_t E rfl,trivial⟩,qaI⟩
 refine qv E (qai rfl) fun a E=>?_
 obtain ⟨r75,e76,hF⟩:=bnd hF
 obtain ⟨_,_,⟨_,_⟩,l77⟩:=Go.X.Calls.get (qcB N o4.1 l64 e76 hG ok)
 refine qd0 E qnw rfl (fun w ok=>(qcB N o4.1 l64 e76 hG ok).mono (fun _ _ h=>h.1)) rfl rfl fun a E=>qv E (qag qht rfl) fun a E=>qv E (qal qay rfl (Holds.own 0 rfl rfl)) fun a E=>?_
 obtain ⟨r78,e79,hF⟩:=bnd hF
 obtain ⟨_,_,⟨_,_⟩,l80⟩:=Go.X.Calls.get (qcB N a_0.Before l1 e79 hG ok)
 refine qd0 E qnw rfl (fun w ok=>(qcB N a_0.Before l1 e79 hG ok).mono (fun _ _ h=>h.1)) rfl rfl fun a E=>qv E (qai rfl) fun a E=>?_
 obtain ⟨r81,e82,hF⟩:=bnd hF
 obtain ⟨_,_,⟨_,_⟩,l83⟩:=Go.X.Calls.get (qcB N value_1 lvalue_1 e82 hG ok)
 refine qd0 E qnw rfl (fun w ok=>(qcB N value_1 lvalue_1 e82 hG ok).mono (fun _ _ h=>h.1)) rfl rfl fun a E=>bd hF fun s84 e85 hF=>qv E (qdS rfl rfl e85) fun a E=>qv E (qag qiC rfl) fun a E=>qv E (qal qay rfl (Holds.own 0 rfl rfl)) fun a E=>?_
 obtain ⟨r86,e87,hF⟩:=bnd hF
 obtain ⟨_,_,⟨_,_⟩,l88⟩:=Go.X.Calls.get (qcB N a_0.After l2 e87 hG ok)
 refine qd0 E qnw rfl (fun w ok=>(qcB N a_0.After l2 e87 hG ok).mono (fun _ _ h=>h.1)) rfl rfl fun a E=>bd hF fun s89 e90 hF=>qv E (qdS rfl rfl e90) fun a E=>qv E (qdj rfl rfl) fun a E=>qv E (qcD rfl rfl) fun a E=>wpQuiet_nil ?_
 intro w ok
 refine qaa<|cf E rfl hF (fun c91 hF=>?_) fun c91 hF=>?_
 ·refine sg<|av E rfl fun a E=>aw E rfl fun a E=>wp_ret<|qad ?_
  exact fin hF ⟨m0,(.slice none 0 0),le_m0,ok.drop,E.d,⟨rv_t E rfl,rv_t E rfl,trivial⟩,qaI⟩
 refine wp_skip<|qaa<|sg<|mv E rfl fun a E=>fk E ok qr9 qeP rfl 0 rfl rfl fun a E=>bd hF fun r92 e93 hF=>qaf E qtG rfl (qnb N o4.1 l64 a_0.RTL e93 hG ok) rfl rfl ?_
 rintro _ w ⟨m94,c95,rfl,hle,ok,h96,r97⟩
 have le_m0:=le_m0.trans hle
 refine ⟨_,rfl,fun a E=>?_⟩
 refine mv E rfl fun a E=>lw E (qav rfl rfl) fun a E=>lw E (qav rfl rfl) fun a E=>av E rfl fun a E=>aw E rfl fun a E=>sg<|mv E rfl fun a E=>bd hF fun r98 e99 hF=>qaf E qtD rfl (qn1 N _ r92.1 h96 e99 hG ok) rfl rfl ?_
 rintro _ w ⟨m100,c101,rfl,hle,ok,h102⟩
 have le_m0:=le_m0.trans hle
 have h96:=(mL (mI .i64)).up hle h96
 refine ⟨_,rfl,fun a E=>?_⟩
 refine aw E rfl fun a E=>sg<|fk E ok qht qay rfl 0 rfl rfl fun a E=>bd hF fun r103 e104 hF=>qaf E qpI rfl (qeO N a_0.Before l1 e104 hG ok) rfl rfl ?_
 rintro _ w ⟨m105,c106,rfl,hle,ok,h107⟩
 have le_m0:=le_m0.trans hle
 have h96:=(mL (mI .i64)).up hle h96
 have h102:=(mL (mI .i64)).up hle h102
 refine ⟨_,rfl,fun a E=>?_⟩
 refine lv E ok (qaP qat h107 rfl) fun a E=>mv E rfl fun a E=>bd hF fun r108 e109 hF=>qaf E qpG rfl (qfi N value_1 lvalue_1 e109 hG ok) rfl rfl ?_
 rintro _ w ⟨⟨rfl,ok⟩,l110⟩
 refine ⟨_,rfl,fun a E=>?_⟩
 refine bd hF fun r111 e112 hF=>qaf E qpI rfl (qeO N r108 l110 e112 hG ok) rfl rfl ?_
 rintro _ w ⟨m113,c114,rfl,hle,ok,h115⟩
 have le_m0:=le_m0.trans hle
 have h96:=(mL (mI .i64)).up hle h96
 have h102:=(mL (mI .i64)).up hle h102
 have h107:=(mL (mI .i64)).up hle h107
 refine ⟨_,rfl,fun a E=>?_⟩
 refine lv E ok (qaP qat h115 rfl) fun a E=>av E rfl fun a E=>aw E rfl fun a E=>wp_seq<|sg<|mv E rfl fun a E=>lw E (qbD rfl rfl) fun a E=>mv E rfl fun a E=>bu E 80 hF (fun c116 hF E=>?_) fun c116 hF E=>?_
 ·refine lsz E fun a E=>lsq E fun a E=>pt E rfl rfl fun a E=>mv E rfl fun a E=>lsz E fun a E=>ls E fun a E=>pt E rfl rfl fun a E=>wn<|c_if E rfl (fun _=>?_) (fun h=>by cases h)
  refine sg<|av E rfl fun a E=>aw E rfl fun a E=>wp_ret<|qad ?_
  exact fin hF ⟨m113,(.slice none 0 0),le_m0,ok.drop,E.d,⟨rv_t E rfl,rv_t E rfl,trivial⟩,qaI⟩
 refine mv E rfl fun a E=>lv E ok (qaP qat h96 rfl) fun a E=>mz E rfl rfl fun a E=>lw E (qaF rfl rfl) fun a E=>lw E (qap rfl rfl) fun a E=>pf E rfl rfl fun a E=>mv E rfl fun a E=>bu E 88 hF (fun c117 hF E=>?_) fun c117 hF E=>?_
 ·refine lsz E fun a E=>ls E fun a E=>pt E rfl rfl fun a E=>wn<|c_if E rfl (fun _=>?_) (fun h=>by cases h)
  refine sg<|av E rfl fun a E=>aw E rfl fun a E=>wp_ret<|qad ?_
  exact fin hF ⟨m113,(.slice none 0 0),le_m0,ok.drop,E.d,⟨rv_t E rfl,rv_t E rfl,trivial⟩,qaI⟩
 refine mv E rfl fun a E=>lv E ok (qaP qat h102 rfl) fun a E=>mv E rfl fun a E=>lv E ok (qaP qat h96 rfl) fun a E=>lw E (qbD rfl rfl) fun a E=>pf E rfl rfl fun a E=>wn<|cf E rfl hF (fun c118 hF=>?_) fun c118 hF=>?_
 ·refine sg<|av E rfl fun a E=>aw E rfl fun a E=>wp_ret<|qad ?_
  exact fin hF ⟨m113,(.slice none 0 0),le_m0,ok.drop,E.d,⟨rv_t E rfl,rv_t E rfl,trivial⟩,qaI⟩
 refine wp_skip<|qaa<|wp_seq<|bd hF fun o119 hJ hF=>qaH (Q':=fun e a w=>e = .normal ∧ ∃ c120 M121,Ok u m113 (M121 :: [(b3,oc 23 [vs a_0.Before,vs a_0.After,vb a_0.RTL])] :: S) w ∧ Env 134 a [(10,c101),(11,(vi (r103.length:Int))),(12,(vi (r111.length:Int))),(13,c120)] ∧ ORow 3 1 (pI .i64) m113 c120 o119 M121) ?_ ?_
 ·have hF:=hJ
  obtain ⟨l126,e127,hF⟩:=bnd hF
  obtain ⟨l131,e132,hF⟩:=bnd hF
  obtain ⟨l136,e137,hF⟩:=bnd hF
  obtain ⟨l141,e142,hF⟩:=bnd hF
  obtain rfl:=sj hF
  refine qco [] (Cls u m113 ([(b3,oc 23 [vs a_0.Before,vs a_0.After,vb a_0.RTL])] :: [])) (Cls u m113 ([(b3,oc 23 [vs a_0.Before,vs a_0.After,vb a_0.RTL])] :: [])) (by kernel_rfl) ?_
  intro w hw
  replace ok:=qc8 ok hw
  clear hw
  have le_m113:=Mem.le.refl m113
  refine qas (cl1 (cq le_m113 ok [0] rfl) (cq le_m113 ok [0] rfl)) fun hT=>kt 1 E rfl hT (qai rfl) fun a E=>kt 2 E rfl hT (qai rfl) fun a E=>?_
  obtain ⟨c146,h147,yy148⟩:=qnB qat h96 e127 (P:=Tryz.prog) (X:=.tmp 96) (lov:=none) (hiv:=(some (.tmp 97))) (qaJ E rfl) (qey E rfl) (qey E ⟨_,rfl⟩)
  refine kt 3 E rfl hT (yy148 _ _) fun a E=>kt 5 E rfl hT (qai rfl) fun a E=>kt 6 E rfl hT (qai rfl) fun a E=>kt 7 E rfl hT (qai rfl) fun a E=>kt 8 E rfl hT (qaF rfl rfl) fun a E=>?_
  obtain ⟨c149,h150,yy151⟩:=qnB qat h96 e137 (P:=Tryz.prog) (X:=.tmp 100) (lov:=(some (.tmp 103))) (hiv:=none) (qaJ E rfl) (qey E ⟨_,rfl⟩) (qey E rfl)
  refine kt 9 E rfl hT (yy151 _ _) fun a E=>qaS [0] (by kernel_rfl) rfl (qaZ ?_)
  ·refine wo rfl<|qa6 (R:=(pI .i64)) (xo:=[]) (xs:=([]:List (Int))) E ok qat qbn rfl trivial rfl rfl rfl rfl fun c152 M153 a w E ok h154=>wn<|qas (cl1 (cq le_m113 ok [1] rfl) (cq le_m113 ok [1] rfl)) fun hT=>qaS [4] (by kernel_rfl) rfl (qaZ ?_)
   ·refine wo rfl<|qb0 (R:=(pI .i64)) E ok 0 (mI .i64) qat Tryz.underlying26 rfl h154 (qbf.ofL h147 ok) e132 ⟨_,qbn,rfl⟩ rfl rfl rfl rfl fun c155 M156 a w E ok h157=>wn<|qas (cl1 (cq le_m113 ok [1] rfl) (cq le_m113 ok [1] rfl)) fun hT=>qaS [10] (by kernel_rfl) rfl (qaZ ?_)
    ·refine wo rfl<|qb0 (R:=(pI .i64)) E ok 0 (mI .i64) qat Tryz.underlying26 rfl h157 (qbf.ofL h150 ok) e142 ⟨_,qbn,rfl⟩ rfl rfl rfl rfl fun c158 M159 a w E ok h160=>wn<|qas (cl1 (cq le_m113 ok [1] rfl) (cq le_m113 ok [1] rfl)) fun hT=>kt 11 E rfl hT (qaG rfl) fun a E=>qbJ (by kernel_rfl) ?_
     exact ⟨rfl,⟨c158,M159,ok,E.keep [10,11,12,13],h160⟩⟩
 intro e a w hO
 obtain ⟨rfl,c161,M162,ok,E,h163⟩:=hO
 refine qaa<|wp_seq<|sg<|mv E rfl fun a E=>lv E ok (qaP qat h102 rfl) fun a E=>mv E rfl fun a E=>wn<|wp_block<|bd hF fun o168 hL hF=>qa7 _ (fun (s:(List (Int)) × Int) a w=>∃ c169 M170,Ok u m113 (M170 :: [(b3,oc 23 [vs a_0.Before,vs a_0.After,vb a_0.RTL])] :: S) w ∧ Env 134 a [(11,(vi (r103.length:Int))),(12,(vi (r111.length:Int))),(13,c169),(106,c101),(107,(vi (r98.length:Int))),(108,vi s.2)] ∧ ORow 3 1 (pI .i64) m113 c169 s.1 M170 ∧ InR .i64 s.2) (fun (b:((List (Int)))) e a w=>e = (.exit 0) ∧ ∃ c213 M214,Ok u m113 (M214 :: [(b3,oc 23 [vs a_0.Before,vs a_0.After,vb a_0.RTL])] :: S) w ∧ Env 134 a [(13,c213)] ∧ ORow 3 1 (pI .i64) m113 c213 b M214) ?_ ?_ N _ a w hL ⟨c161,M162,ok,E.keep [11,12,13,106,107,108],h163,(ir 0)⟩
 rotate_left
 ·intro e a w _ hO
  obtain ⟨rfl,c208,M209,ok,E,h210⟩:=hO
  refine qa0<|qaa<|sg<|mv E rfl fun a E=>av E rfl fun a E=>av E rfl fun a E=>wn<|wp_ret ?_
  obtain ⟨m211,hle,ok,hfz⟩:=(ok.frs 0 rfl).freeze
  have h212:=ORow.froz (mI .i64) h210 hle hfz (by decide)
  have le_m0:=le_m0.trans hle
  have h96:=(mL (mI .i64)).up hle h96
  have h102:=(mL (mI .i64)).up hle h102
  have h107:=(mL (mI .i64)).up hle h107
  have h115:=(mL (mI .i64)).up hle h115
  exact fin hF ⟨m211,c208,le_m0,ok.drop,E.d,⟨rv_t E rfl,rv_t E rfl,trivial⟩,h212⟩
 rintro ⟨v173,v174⟩ a w r ⟨c175,M176,ok,E,h177,r178⟩ hF
 replace hF:qb3 N r98 r103 r111 v173 v174 = some r:=hF
 unfold qb3 at hF
 refine sg<|lw E (qap rfl rfl) fun a E=>wn<|wp_seq<|cg E rfl hF (fun c179 hF=>?_) fun c179 hF=>?_
 ·refine wp_exit<|qaM ?_
  cases hF
  exact so (⟨rfl,⟨c175,M176,ok,E.keep [13],h177⟩⟩)
 refine wp_skip<|qaa<|wp_seq<|wp_block<|sg ?_
 obtain ⟨x180,e181,hF⟩:=bnd hF
 obtain ⟨b182,o183,es184,hl185,rr186,at187,yy188⟩:=ia E 106 108 qat h102 e181
 obtain ⟨rfl,r189⟩:=rr186
 refine lv E ok (yy188 _ _) fun a E=>lv E ok (qal qam rfl (Holds.ro at187)) fun a E=>aw E rfl fun a E=>wp_block<|sg<|mz E rfl rfl fun a E=>lw E (qap rfl rfl) fun a E=>aw E rfl fun a E=>cf E rfl hF (fun c190 hF=>?_) fun c190 hF=>?_
 ·refine qab<|mz E rfl rfl fun a E=>qa6 (R:=(pI .i64)) (xo:=[.tmp 117]) (xs:=([x180]:List (Int))) E ok qat qbn rfl ⟨⟨_,rfl,rfl,(qaX r189)⟩,trivial⟩ rfl rfl rfl rfl fun c191 M192 a w E ok h193=>bd hF fun l194 e195 hF=>qb0 (R:=(pI .i64)) E ok 1 (mI .i64) qat Tryz.underlying26 rfl h177 (qbf.ofRow h193 0 rfl ok) e195 ⟨_,qbn,rfl⟩ rfl rfl rfl rfl fun c196 M197 a w E ok h198=>av E rfl fun a E=>wpList_nil<|qac<|qac<|qaa<|qab<|lw E (qaE rfl rfl (InR.inc r178 (qaj h102) c179)) fun a E=>mv E rfl fun a E=>wpList_nil ?_
  cases hF
  exact qao ⟨c196,M197,(ok.pk 3 [1,2] rfl (by decide)),E.keep [11,12,13,106,107,108],h198,(InR.inc r178 (qaj h102) c179)⟩
 refine sg<|mz E rfl rfl fun a E=>mv E rfl fun a E=>lw E (qaF rfl rfl) fun a E=>lw E (qaq rfl rfl) fun a E=>av E rfl fun a E=>wn<|cg E rfl hF (fun c199 hF=>?_) fun c199 hF=>?_
 ·refine wp_skip<|qac<|qac<|qaa<|qab<|lw E (qaE rfl rfl (InR.inc r178 (qaj h102) c179)) fun a E=>mv E rfl fun a E=>wpList_nil ?_
  cases hF
  exact qao ⟨c175,M176,ok,E.keep [11,12,13,106,107,108],h177,(InR.inc r178 (qaj h102) c179)⟩
 refine qab<|mz E rfl rfl fun a E=>mv E rfl fun a E=>lw E (qbI rfl rfl) fun a E=>qa6 (R:=(pI .i64)) (xo:=[.tmp 129]) (xs:=([(IntKind.wrap .i64 (x180 - (r111.length:Int)))]:List (Int))) E ok qat qbn rfl ⟨⟨_,rfl,rfl,(qaX (InR.wrap _ _))⟩,trivial⟩ rfl rfl rfl rfl fun c200 M201 a w E ok h202=>bd hF fun l203 e204 hF=>qb0 (R:=(pI .i64)) E ok 1 (mI .i64) qat Tryz.underlying26 rfl h177 (qbf.ofRow h202 0 rfl ok) e204 ⟨_,qbn,rfl⟩ rfl rfl rfl rfl fun c205 M206 a w E ok h207=>av E rfl fun a E=>wpList_nil<|qac<|qac<|qaa<|qab<|lw E (qaE rfl rfl (InR.inc r178 (qaj h102) c179)) fun a E=>mv E rfl fun a E=>wpList_nil ?_
 cases hF
 exact qao ⟨c205,M206,(ok.pk 3 [1,2] rfl (by decide)),E.keep [11,12,13,106,107,108],h207,(InR.inc r178 (qaj h102) c179)⟩
def qg8 (u:World) (m0:Mem) (S:Segs) (r:Bool) (a:Act) (w:World):Prop :=
 Ok u m0 S w ∧ a.defers = [] ∧ RVs Tryz.prog a w [.t 6 (.bool r)]
theorem qg6 (N:Nat) (va_0:List Value) (a_0:Around) (ha_0:qmQ m0 va_0 a_0) (x_1:List UInt8) (lx_1:x_1.length ≤ LIMS) (y_2:List UInt8) (ly_2:y_2.length ≤ LIMS) {r:Bool} (hF:qbk N a_0 x_1 y_2 = some r) (hG:Glob u) (hTb:Tab u) (ok:Ok u m0 S w) :
  Calls Tryz.prog 3 [.agg va_0.toArray,vs x_1,vs y_2].toArray w fun e w'=>(e = .returned (.bool r) ∧ Ok u m0 S w'):=by
 obtain ⟨rfl,l1,l2⟩:=ha_0
 have hb0:=ok.base
 have le_m0:=Mem.le.refl m0
 unfold qbk at hF
 refine en (qg8 u m0 S) r Tryz.func3 rfl rfl rfl (fun _ _ h=>ra h rfl) fun fin a E=>sg<|qbF E ok rfl rfl rfl fun b3 a w E ok=>aw E rfl fun a E=>wp_seq<|sg<|bd hF fun r4 e5 hF=>lc E go_4 rfl (qjU N  e5 hG hTb ok) fun w ok a E=>lw E (qbx rfl) fun a E=>wn<|cf E rfl hF (fun c6 hF=>?_) fun c6 hF=>?_
 ·refine sg<|aw E rfl fun a E=>wp_ret<|qad ?_
  exact fin hF ⟨ok.drop,E.d,rz E rfl⟩
 refine wp_skip<|qaa<|wp_seq<|wp_seq<|qce (by kernel_rfl) (by kernel_rfl) ok<|qv E (qag qht rfl) fun a E=>qv E (qal qay rfl (Holds.own 0 rfl rfl)) fun a E=>qv E (qbs Tryz.underlying9 rfl) fun a E=>qv E (qag qiC rfl) fun a E=>qv E (qal qay rfl (Holds.own 0 rfl rfl)) fun a E=>qv E (qbs Tryz.underlying9 rfl) fun a E=>qv E (qaF rfl rfl) fun a E=>qv E (qaK rfl rfl) fun a E=>qv E (qai rfl) fun a E=>bu E 21 hF (fun c7 hF E=>?_) fun c7 hF E=>?_
 ·refine qs E fun a E=>qs E fun a E=>qs E fun a E=>qv E (qbV rfl rfl) fun a E=>qv E (qai rfl) fun a E=>qs E fun a E=>qs E fun a E=>qs E fun a E=>qv E (qbV rfl rfl) fun a E=>qv E (qai rfl) fun a E=>qs E fun a E=>qs E fun a E=>qs E fun a E=>qs E fun a E=>qs E fun a E=>qs E fun a E=>?_
  refine qs E fun a E=>qs E fun a E=>qv E (qbV rfl rfl) fun a E=>wpQuiet_nil ?_
  intro w ok
  refine qaa<|c_if E rfl (fun _=>?_) (fun h=>by cases h)
  refine sg<|aw E rfl fun a E=>wp_ret<|qad ?_
  exact fin hF ⟨ok.drop,E.d,rz E rfl⟩
 refine qv E (qai rfl) fun a E=>qv E (qbs Tryz.underlying9 rfl) fun a E=>qv E (qaK rfl rfl) fun a E=>qv E (qcD rfl rfl) fun a E=>qv E (qai rfl) fun a E=>bu E 26 hF (fun c8 hF E=>?_) fun c8 hF E=>?_
 ·refine qs E fun a E=>qs E fun a E=>qs E fun a E=>qv E (qbV rfl rfl) fun a E=>qv E (qai rfl) fun a E=>qs E fun a E=>qs E fun a E=>qs E fun a E=>qs E fun a E=>qs E fun a E=>qs E fun a E=>qs E fun a E=>qs E fun a E=>qv E (qbV rfl rfl) fun a E=>wpQuiet_nil ?_
  intro w ok
  refine qaa<|c_if E rfl (fun _=>?_) (fun h=>by cases h)
  refine sg<|aw E rfl fun a E=>wp_ret<|qad ?_
  exact fin hF ⟨ok.drop,E.d,rz E rfl⟩
 refine qv E (qai rfl) fun a E=>qv E (qbs Tryz.underlying9 rfl) fun a E=>qv E (qaK rfl rfl) fun a E=>qv E (qcD rfl rfl) fun a E=>qv E (qai rfl) fun a E=>bu E 31 hF (fun c9 hF E=>?_) fun c9 hF E=>?_
 ·refine qs E fun a E=>qs E fun a E=>qs E fun a E=>qs E fun a E=>qs E fun a E=>qs E fun a E=>qs E fun a E=>qs E fun a E=>qv E (qbV rfl rfl) fun a E=>wpQuiet_nil ?_
  intro w ok
  refine qaa<|c_if E rfl (fun _=>?_) (fun h=>by cases h)
  refine sg<|aw E rfl fun a E=>wp_ret<|qad ?_
  exact fin hF ⟨ok.drop,E.d,rz E rfl⟩
 refine qv E (qag qht rfl) fun a E=>qv E (qal qay rfl (Holds.own 0 rfl rfl)) fun a E=>?_
 obtain ⟨r10,e11,hF⟩:=bnd hF
 obtain ⟨_,_,⟨_,_⟩,r12⟩:=Go.X.Calls.get (qd8 N a_0.Before l1 e11 hG ok)
 refine qd0 E go_5 rfl (fun w ok=>(qd8 N a_0.Before l1 e11 hG ok).mono (fun _ _ h=>h.1)) rfl rfl fun a E=>qv E (qag qiC rfl) fun a E=>qv E (qal qay rfl (Holds.own 0 rfl rfl)) fun a E=>?_
 obtain ⟨r13,e14,hF⟩:=bnd hF
 obtain ⟨_,_,⟨_,_⟩,r15⟩:=Go.X.Calls.get (qd8 N a_0.After l2 e14 hG ok)
 refine qd0 E go_5 rfl (fun w ok=>(qd8 N a_0.After l2 e14 hG ok).mono (fun _ _ h=>h.1)) rfl rfl fun a E=>qv E (qaF rfl rfl) fun a E=>qv E (qaK rfl rfl) fun a E=>qv E (qcD rfl rfl) fun a E=>wpQuiet_nil ?_
 intro w ok
 refine qaa<|cf E rfl hF (fun c16 hF=>?_) fun c16 hF=>?_
 ·refine sg<|aw E rfl fun a E=>wp_ret<|qad ?_
  exact fin hF ⟨ok.drop,E.d,rz E rfl⟩
 refine wp_skip<|qaa<|sg<|lv E ok (qan (cs:=[vs a_0.Before,vs a_0.After,vb a_0.RTL]) qpW rfl rfl (Holds.own 0 rfl rfl)) fun a E=>mv E rfl fun a E=>bd hF fun r17 e18 hF=>qaf E go_6 rfl (qgL N _ a_0 ⟨rfl,l1,l2⟩ x_1 lx_1 e18 hG hTb ok) rfl rfl ?_
 rintro _ w ⟨m19,c20,rfl,hle,ok,h21⟩
 have le_m0:=le_m0.trans hle
 refine ⟨_,rfl,fun a E=>?_⟩
 refine mv E rfl fun a E=>lw E (qav rfl rfl) fun a E=>lw E (qav rfl rfl) fun a E=>av E rfl fun a E=>aw E rfl fun a E=>sg<|lv E ok (qan (cs:=[vs a_0.Before,vs a_0.After,vb a_0.RTL]) qpW rfl rfl (Holds.own 0 rfl rfl)) fun a E=>mv E rfl fun a E=>bd hF fun r22 e23 hF=>qaf E go_6 rfl (qgL N _ a_0 ⟨rfl,l1,l2⟩ y_2 ly_2 e23 hG hTb ok) rfl rfl ?_
 rintro _ w ⟨m24,c25,rfl,hle,ok,h26⟩
 have le_m0:=le_m0.trans hle
 have h21:=(mL (mI .i64)).up hle h21
 refine ⟨_,rfl,fun a E=>?_⟩
 refine mv E rfl fun a E=>lw E (qav rfl rfl) fun a E=>lw E (qav rfl rfl) fun a E=>av E rfl fun a E=>aw E rfl fun a E=>sg<|mz E rfl rfl fun a E=>qcu r17.2 (fun c27=>?_) (fun c27=>?_)
 rotate_left
 ·have hF:=qcc c27 hF
  have E:=E.upd 54 c27 rfl
  refine ls E fun a E=>pf E rfl rfl fun a E=>mv E rfl fun a E=>lsq E fun a E=>ls E fun a E=>pf E rfl rfl fun a E=>av E rfl fun a E=>wn<|wp_ret ?_
  exact fin hF ⟨(ok.drop).down hb0 le_m0,E.d,rz E rfl⟩
 have hF:=qci c27 hF
 have E:=E.upd 54 c27 rfl
 refine mv E rfl fun a E=>pt E rfl rfl fun a E=>mv E rfl fun a E=>qcu r22.2 (fun c28=>?_) (fun c28=>?_)
 rotate_left
 ·have hF:=qcc c28 hF
  have E:=E.upd 57 c28 rfl
  refine lsq E fun a E=>ls E fun a E=>pf E rfl rfl fun a E=>aw E rfl fun a E=>wp_ret ?_
  exact fin hF ⟨(ok.drop).down hb0 le_m0,E.d,rz E rfl⟩
 have hF:=qci c28 hF
 have E:=E.upd 57 c28 rfl
 refine mz E rfl rfl fun a E=>bd hF fun r29 e30 hF=>lc E go_7 rfl (qin N _ r17.1 h21 _ r22.1 h26 e30 hG ok) fun w ok a E=>pt E rfl rfl fun a E=>aw E rfl fun a E=>wp_ret ?_
 exact fin hF ⟨(ok.drop).down hb0 le_m0,E.d,rz E rfl⟩
end Go.Proofs.YthhieiabfpkaaaaGreatDoor
namespace Go.X
variable {H:Type} {enc:TypeId × Value → H}
end Go.X
namespace Go.X
open Go.ChangeShapes Go.RowKit
def OpnS {α:Type} (P:Program) (t:TypeId) (R:Rp α) (Q:α → Prop):Prop :=
 ∀ {H:Type} {enc:TypeId × Value → H} {W:World} {base:Nat} {spare:Nat → Bool} {held:Bool} {fuel:Nat} {cs:List Value} {x:DataW H × List MemPlace},
  DataW.trod enc P W base spare held fuel t cs = some x → (∀ n ∈ x.1.weights P t,n ≤ reachBytes) → ∃ a:α,R (hm W) cs a ∧ Q a
section
variable {P:Program} {t:TypeId}
theorem qsV (ht:P.underlying t = some .bool):OpnS P t pB (fun _=>True):=fun h _=>by
 obtain ⟨a,ha⟩:=qs6 ht h
 exact ⟨a,ha,trivial⟩
theorem qnq (ht:P.underlying t = some .string):OpnS P t pS (fun s=>s.length ≤ reachBytes):=fun h hz=>by
 obtain ⟨s,rfl,rfl,hs⟩:=DataW.trod_string ht h
 refine ⟨s.data.toList,⟨rfl,hs⟩,hz _ ?_⟩
 simp [DataW.weights]
theorem qqE {fs:Array Field} (ht:P.underlying t = some (.struct fs)) {H:Type} {enc:TypeId × Value → H} {W:World} {base:Nat} {spare:Nat → Bool} {held:Bool} {fuel:Nat} {cs:List Value} {x:DataW H × List MemPlace}
  (h:DataW.trod enc P W base spare held fuel t cs = some x) (hz:∀ n ∈ x.1.weights P t,n ≤ reachBytes) :
  cs.length = P.cellsOf t ∧ ∀ {α:Type} {R:Rp α} {Q:α → Prop} (i:Nat) (f:Field) (n:Nat),fs[i]? = some f → P.cellsOf f.type = n → OpnS P f.type R Q → ∃ a,R (hm W) ((cs.drop f.offset).take n) a ∧ Q a:=by
 obtain ⟨xs,n,_,hx,hl,hlen,hf⟩:=DataW.trod_struct ht h
 refine ⟨hl,fun {α R Q} i f n hi hn ho=>?_⟩
 have hi':i < xs.length:=by rw [hlen]; exact (Array.getElem?_eq_some_iff.1 hi).1
 have:=hf i f hi
 rw [List.getElem?_eq_getElem hi',hn] at this
 refine ho this fun k hk=>hz k ?_
 subst hx
 simp only [DataW.weights,ht]
 refine DataW.weights_mem_each (j:=i) (t:=f.type) (d:=xs[i].1) ?_ ?_ k hk
 ·simp [hi]
 ·simp [hi']
end
end Go.X
namespace Go.X
open Go.ChangeShapes Go.RowKit
section
variable {H:Type} {enc:TypeId × Value → H}
theorem qj2 {a:Assume} {C:Checked} {os:Os} {f:FuncId} {fn:Func} {s:ChangeSpec} {conds:List PathCond} {apart fresh handsOn again:Bool} {X:World → Array Value → Prop}
  (hX:∀ (w w':World) (args:Array Value),w.heap = w'.heap → X w args → X w' args)
  (own:ownKnob C.prog.godebug = none) (started:os.Started) (noInit:C.prog.inits.idxOf? f = none) (hfn:C.prog.funcs[f]? = some fn)
  (witness:∃ (w:World) (tape:Tape) (i:Input),w.os = os ∧ (w.forCall tape i).Shaped C.prog ∧ i.vars = [] ∧ Input.okWide C.prog (w.forCall tape i) .any w.heap.size f i ∧
   ((s.pre enc C.prog fn conds apart (w.forCall tape i).memory i.args ∧ X (w.forCall tape i).memory i.args) ∧ sizedMet enc C.prog fn (OpenSpec.ofChange s) apart (w.forCall tape i).memory i.args) ∧ a.holds C.prog (lone (Frame.enter C.prog f i.args .normal) [] (w.forCall tape i)))
  (contract:∀ (W:World) (base:Nat) (args:Array Value) (ds gs:List (DataW H)) (before:List MemPlace),
   (∀ (j:Nat) t v,fn.params[j]? = some t → args[j]? = some v → Value.okWide C.prog W .any base t v) →
   DataW.Whole enc C.prog fn.params.toList s.vars apart W args.toList ds gs before → W.ShapedOpen C.prog →
   X W args → (DataW.weightsEach C.prog (fn.params.toList ++ s.plain.varTypes C.prog) (ds ++ gs)).all (· ≤ reachBytes) = true →
   Calls C.prog f args W fun e W'=>∃ v,e = .returned v ∧ s.post enc C.prog fn apart fresh handsOn again W args v W') :
  ReturnsInHanded a C os f .any (fun w args=>(s.pre enc C.prog fn conds apart w args ∧ X w args) ∧ sizedMet enc C.prog fn (OpenSpec.ofChange s) apart w args) (s.post enc C.prog fn apart fresh handsOn again):=by
 refine returnsInHanded_of_calls own started noInit witness ?_
 intro w tape i _ hsh _ hok hpre _
 obtain ⟨_,_,_,fn',hfn',_,_,_,_,hval⟩:=hok
 have e:fn' = fn:=Option.some.inj (hfn'.symm.trans hfn)
 subst e
 obtain ⟨⟨⟨ds,gs,before,hw,_⟩,hx⟩,hz⟩:=hpre
 have hw':=DataW.Whole.of_heap (w':=w.forCall tape i) (by rfl) hw
 refine (contract (w.forCall tape i) w.heap.size i.args ds gs before hval hw' hsh (hX _ _ _ (by rfl) hx) (hz.weights hw)).mono fun e W' ⟨v,he,hp⟩=>?_
 subst he
 exact ChangeSpec.post_blind hp
end
end Go.X
namespace Go.X
open Go.ChangeShapes Go.RowKit
end Go.X
namespace Go.Proofs.YthhieiabfpkaaaaGreatDoor
open Go.ChangeShapes Go.WideShapes Go.ChangeAt Go.RowKit Go.X
theorem own:ownKnob Tryz.prog.godebug = none:=by kernel_rfl
theorem qmD:laidOutB Tryz.prog = true:=by kernel_rfl
theorem qpS {H:Type} {enc:TypeId × Value → H} {W:World} {base:Nat} {sp:Nat → Bool} {held:Bool} (b:Bool):DataW.Trod enc Tryz.prog W base sp held 4 (.bool b) (.lit (.bool b)) [] :=
 ⟨1,by simp [DataW.trod,Value.cells,Tryz.underlying4]⟩
theorem qsz {W:World} (h:W.ShapedOpen Tryz.prog):Glob W:=cell_of_shapedOpen_int (g:=0) (t:=3) (zero:=#[.int .i64 0]) h (of_decide_eq_true (by kernel_rfl)) (by kernel_rfl) (by kernel_rfl) (by kernel_rfl) (by kernel_rfl) Tryz.underlying3
theorem ce4:Tryz.prog.cellsOf 4 = 1:=by kernel_rfl
theorem ce9:Tryz.prog.cellsOf 9 = 1:=by kernel_rfl
theorem ce23:Tryz.prog.cellsOf 23 = 3:=by kernel_rfl
theorem o_23:OpnS Tryz.prog 23 qmQ (fun x=>(x.Before.length ≤ reachBytes ∧ x.After.length ≤ reachBytes)):=fun h hz=>by
 obtain ⟨hl,hf⟩:=qqE Tryz.underlying23 h hz
 obtain ⟨c0,c1,c2,rfl⟩:=len3 (hl.trans ce23)
 obtain ⟨a0,h0,q0⟩:=hf 0 _ 1 rfl ce9 (qnq Tryz.underlying9)
 obtain ⟨a1,h1,q1⟩:=hf 1 _ 1 rfl ce9 (qnq Tryz.underlying9)
 obtain ⟨a2,h2,q2⟩:=hf 2 _ 1 rfl ce4 (qsV Tryz.underlying4)
 have h0:pS _ [c0] a0:=h0
 obtain ⟨rfl,g0⟩:=ql3 h0
 have h1:pS _ [c1] a1:=h1
 obtain ⟨rfl,g1⟩:=ql3 h1
 have h2:pB _ [c2] a2:=h2
 obtain rfl:=ql0 h2
 exact ⟨⟨a0,a1,a2⟩,⟨rfl,g0,g1⟩,⟨q0,q1⟩⟩
theorem qkx {W:World} (h:laidMetH Tryz.prog Rows.wholeIsolationRow.laid W):Tab W:=by
 rw [MakeChecks.laidMetH_plain _ _ _ (by kernel_rfl)] at h
 exact Lib.tabIs_of_head (g:=3) (t:=328) (e:=281) (by kernel_rfl) (by kernel_rfl) Tryz.underlying328 (by kernel_rfl) (by kernel_rfl) (by kernel_rfl) (show laidMet Tryz.prog (("internal/strconv.uint64pow10",Lib.tabData .u64 Lib.pow10Tab) :: _) W from laidMet.tail (x:=_) (laidMet.tail (x:=_) h))
set_option maxRecDepth 100000 in
theorem qiS (hp:∀ x0 x1 x2,(x0.Before.length ≤ reachBytes ∧ x0.After.length ≤ reachBytes) → (x1.length ≤ reachBytes) → (x2.length ≤ reachBytes) → ∃ N,qbk N x0 x1 x2 = some true) (os:Os) (started:os.Started) (H:Type) (enc:TypeId × Value → H) :
  ReturnsInHanded {} Tryz.checked os 3 .any (fun w args=>(Rows.wholeIsolationSpec.pre enc Tryz.prog Tryz.f3 [] false w args ∧ laidMetH Tryz.prog Rows.wholeIsolationRow.laid w) ∧ sizedMet enc Tryz.prog Tryz.f3 (OpenSpec.ofChange Rows.wholeIsolationSpec) false w args)
   (Rows.wholeIsolationSpec.post enc Tryz.prog Tryz.f3 false true false false):=by
 refine qj2 (C:=Tryz.checked) (X:=fun w _=>laidMetH Tryz.prog Rows.wholeIsolationRow.laid w) (fun _ _ _ hh h=>laidMetH.of_heap hh h) own started (by kernel_rfl) Tryz.func3
  (ChangeSpec.witness_shaped (enc:=enc) (C:=Tryz.checked) (os:=os) (X:=fun w _=>laidMetH Tryz.prog Rows.wholeIsolationRow.laid w) false (World.laidAll Tryz.prog os Rows.wholeIsolationRow.laid) #[.agg #[.string (bs []),.string (bs []),.bool false],.string (bs []),.string (bs [])] 8 (World.laidAll_os _ _ _)
   (World.shaped_of_ZipB (by kernel_rfl) (by kernel_rfl)) (by kernel_rfl) (by kernel_rfl) (by kernel_rfl)
   (by rw [MakeChecks.laidMetH_plain _ _ _ (by kernel_rfl)]; exact laidMet_laidAll _ (by kernel_rfl) (by kernel_rfl))) ?_
 intro W base args ds gs before hval0 hW hsh hX hz
 have hval:∀ (j:Nat) t v,Tryz.f3.params[j]? = some t → args[j]? = some v → Value.okWide Tryz.prog W .any base t v:=hval0
 have hW':=hW
 obtain ⟨p,q,hA0,hV,rfl,_,_⟩:=hW
 have hA:DataW.TrodAll enc Tryz.prog W 0 (fun _=>true) true Tryz.f3.params.toList args.toList ds p:=hA0
 rw [Tryz.params3] at hA hval
 obtain ⟨v0,v1,v2,d0,d1,d2,p0,p1,p2,rfl,rfl,rfl,k0,k1,k2⟩:=trodAll_three hA
 obtain ⟨rfl,rfl⟩:=trodVars_none hV
 obtain ⟨fu0,hf0⟩:=id k0
 have hz0:∀ n ∈ d0.weights Tryz.prog 23,n ≤ reachBytes:=fun n hn=>by
  have:=List.all_eq_true.1 hz n (DataW.weights_mem_each (j:=0) (t:=23) (d:=d0) (by rw [Tryz.params3]; rfl) rfl n hn)
  simpa using this
 obtain ⟨s0,rfl,_⟩:=okWide_struct Tryz.underlying23 (hval 0 23 v0 rfl rfl)
 obtain ⟨a0,r0,q0⟩:=o_23 hf0 hz0
 obtain ⟨fu1,hf1⟩:=id k1
 have hz1:∀ n ∈ d1.weights Tryz.prog 9,n ≤ reachBytes:=fun n hn=>by
  have:=List.all_eq_true.1 hz n (DataW.weights_mem_each (j:=1) (t:=9) (d:=d1) (by rw [Tryz.params3]; rfl) rfl n hn)
  simpa using this
 obtain ⟨s1,rfl⟩:=okWide_string Tryz.underlying9 (hval 1 9 v1 rfl rfl)
 obtain ⟨a1,r1,q1⟩:=(qnq Tryz.underlying9) hf1 hz1
 obtain ⟨e1,l1⟩:=ql3 (show pS (hm W) [.string s1] a1 from r1)
 obtain ⟨fu2,hf2⟩:=id k2
 have hz2:∀ n ∈ d2.weights Tryz.prog 9,n ≤ reachBytes:=fun n hn=>by
  have:=List.all_eq_true.1 hz n (DataW.weights_mem_each (j:=2) (t:=9) (d:=d2) (by rw [Tryz.params3]; rfl) rfl n hn)
  simpa using this
 obtain ⟨s2,rfl⟩:=okWide_string Tryz.underlying9 (hval 2 9 v2 rfl rfl)
 obtain ⟨a2,r2,q2⟩:=(qnq Tryz.underlying9) hf2 hz2
 obtain ⟨e2,l2⟩:=ql3 (show pS (hm W) [.string s2] a2 from r2)
 clear hA0 hval0
 have hlt:∀ x ∈ p0 ++ p1 ++ p2,x.block < W.heap.size:=fun x hx=>by
  refine hW'.lt x ?_
  simpa using hx
 have hlt0:∀ x ∈ p0,x.block < W.heap.size:=fun x hx=>hlt x (by simp [hx])
 have hlt1:∀ x ∈ p1,x.block < W.heap.size:=fun x hx=>hlt x (by simp [hx])
 have hlt2:∀ x ∈ p2,x.block < W.heap.size:=fun x hx=>hlt x (by simp [hx])
 obtain ⟨N,hN⟩:=hp a0 a1 a2 q0 q1 q2
 have hw:=qg6 N s0.toList a0 r0 a1 l1 a2 l2 hN (qsz hsh) (qkx hX) (Ok.start W)
 cases e1; cases e2
 refine hw.mono fun e W' ⟨he,ok⟩=>?_
 subst he
 have hn:=ok.below
 have t0:=Below.trod qmD (by kernel_rfl) (of_decide_eq_true (by kernel_rfl)) k0 hn hlt0
 have t1:=Below.trod qmD (by kernel_rfl) (of_decide_eq_true (by kernel_rfl)) k1 hn hlt1
 have t2:=Below.trod qmD (by kernel_rfl) (of_decide_eq_true (by kernel_rfl)) k2 hn hlt2
 refine ⟨_,rfl,_,_,_,[],p0 ++ (p1 ++ p2),[],hW',?_,?_,rfl,hn.frame _,fun h=>by cases h⟩
 ·exact trodAll_mk1 (qpS true)
 ·exact trodAll_mk3 t0 t1 t2
theorem band {a b:Bool} (h1:a = true) (h2:b = true):(a && b) = true:=by rw [h1,h2]; rfl
end Go.Proofs.YthhieiabfpkaaaaGreatDoor
