/- Texts of this proof, put together by pack.py: what its declarations name. -/
import Derived.Test.YtidfofhmnlhfjaaGreatDoorPkAb4
import Derived.Test.YtidfofhmnlhfjaaGreatDoorCards
import Derived.Test.YtidfofhmnlhfjaaGreatDoorChecked
import Derived.Test.YtidfofhmnlhfjaaGreatDoorProg
import Derived.Test.YtidfofhmnlhfjaaGreatDoorRows
import Derived.Test.YtidfofhmnlhfjaaGreatDoorTie
set_option linter.unusedVariables false
set_option linter.unusedSimpArgs false
namespace Go.Proofs.YtidfofhmnlhfjaaGreatDoor
open Go.X
variable {u:World} {m0:Mem} {S:Segs} {w:World}
set_option maxHeartbeats 4000000
set_option maxRecDepth 100000
def qke:Rp Reduction:=fun _ cs x=>cs = [.int .i64 x.bound,.int .i64 x.mod] ∧ InR .i64 x.bound ∧ InR .i64 x.mod
def qlB:Rp Walker:=fun m cs x=>∃ c0 c1,cs = [c0,c1,.int .i64 x.whole.bound,.int .i64 x.whole.mod,.int .i64 x.part.bound,.int .i64 x.part.mod] ∧ (pL 1 (pL 4 qap)) m [c0] x.c ∧ (pL 4 qap) m [c1] x.l ∧ InR .i64 x.whole.bound ∧ InR .i64 x.whole.mod ∧ InR .i64 x.part.bound ∧ InR .i64 x.part.mod
def qeq:Rp State2:=fun _ cs x=>cs = [.int .i64 x.phase,.int .i64 x.whole,.string (bs x.truth),.bool x.some,.int .i64 x.v,.int .i64 x.w,.int .i64 x.f,.int .i64 x.t] ∧ InR .i64 x.phase ∧ InR .i64 x.whole ∧ x.truth.length ≤ LIMS ∧ InR .i64 x.v ∧ InR .i64 x.w ∧ InR .i64 x.f ∧ InR .i64 x.t
theorem qgT:Mono qeq:=⟨fun _ h=>by
 obtain ⟨e,h0,h1,h2,h4,h5,h6,h7⟩:=h
 exact ⟨e,h0,h1,h2,h4,h5,h6,h7⟩,fun h=>by
 obtain ⟨rfl,h0,h1,h2,h4,h5,h6,h7⟩:=h
 exact ⟨rfl,rfl,rfl,rfl,rfl,rfl,rfl,rfl,trivial⟩⟩
theorem Arr7_Bool.set_list {a z:Arr7_Bool} {i:Int} {x:Bool} (h:Arr7_Bool.set a i x = some z):setI a.list i x = some z.list:=by
 unfold Arr7_Bool.set at h
 cases hs:setI a.list i x with
 | none=>rw [hs] at h; cases h
 | some l =>
  rw [hs] at h
  obtain ⟨_,_,hl⟩:=qhB hs
  have hn:l.length = 7:=by rw [hl,List.length_set]; rfl
  clear hl hs
  match l,hn,h with
  | [x0,x1,x2,x3,x4,x5,x6],_,h=>cases h; rfl
theorem qhU:aggB Tryz.prog 100 6 = true:=by kernel_rfl
theorem qa3:aggB Tryz.prog 102 8 = true:=by kernel_rfl
theorem qc4:aggB Tryz.prog 34 3 = true:=by kernel_rfl
theorem qiY:aggB Tryz.prog 97 2 = true:=by kernel_rfl
theorem qeu:ArT Tryz.prog 140 4 7 1:=ArT.of (by kernel_rfl)
theorem qru:Tryz.prog.eqGuardType Tryz.prog.depth 102 = false:=by kernel_rfl
theorem qkA:qaH Tryz.prog 100 0 0 = true:=by kernel_rfl
theorem qhY:qaH Tryz.prog 100 1 1 = true:=by kernel_rfl
theorem qqg:qaH Tryz.prog 100 2 2 = true:=by kernel_rfl
theorem qkC:qaH Tryz.prog 100 3 4 = true:=by kernel_rfl
theorem qdL:qaH Tryz.prog 102 0 0 = true:=by kernel_rfl
theorem qiV:qaH Tryz.prog 102 1 1 = true:=by kernel_rfl
theorem qj8:qaH Tryz.prog 102 2 2 = true:=by kernel_rfl
theorem qff:qaH Tryz.prog 102 3 3 = true:=by kernel_rfl
theorem qdN:qaH Tryz.prog 102 4 4 = true:=by kernel_rfl
theorem qgG:qaH Tryz.prog 102 5 5 = true:=by kernel_rfl
theorem qds:qaH Tryz.prog 102 6 6 = true:=by kernel_rfl
theorem qfG:qaH Tryz.prog 102 7 7 = true:=by kernel_rfl
theorem qiU:qaH Tryz.prog 34 0 0 = true:=by kernel_rfl
theorem qbP:qaH Tryz.prog 34 1 1 = true:=by kernel_rfl
theorem qc9:qaH Tryz.prog 34 2 2 = true:=by kernel_rfl
theorem qhV:qaH Tryz.prog 97 0 0 = true:=by kernel_rfl
theorem qhX:qaH Tryz.prog 97 1 1 = true:=by kernel_rfl
theorem qsj:goB Tryz.prog 118 = true:=by kernel_rfl
theorem qsr:goB Tryz.prog 119 = true:=by kernel_rfl
theorem qrO:goB Tryz.prog 121 = true:=by kernel_rfl
theorem qqx:goB Tryz.prog 13 = true:=by kernel_rfl
theorem qrJ:goB Tryz.prog 148 = true:=by kernel_rfl
theorem qtd:goB Tryz.prog 23 = true:=by kernel_rfl
theorem qqn:goB Tryz.prog 39 = true:=by kernel_rfl
theorem qo6:goB Tryz.prog 40 = true:=by kernel_rfl
theorem qs6:goB Tryz.prog 46 = true:=by kernel_rfl
theorem qqm:goB Tryz.prog 55 = true:=by kernel_rfl
theorem qo2:goB Tryz.prog 56 = true:=by kernel_rfl
theorem qqo:goB Tryz.prog 57 = true:=by kernel_rfl
theorem qtc:goB Tryz.prog 58 = true:=by kernel_rfl
theorem qsT:goB Tryz.prog 59 = true:=by kernel_rfl
theorem qsR:goB Tryz.prog 86 = true:=by kernel_rfl
theorem qqk:goB Tryz.prog 87 = true:=by kernel_rfl
theorem qoP:goB Tryz.prog 89 = true:=by kernel_rfl
theorem qmD:goB Tryz.prog 90 = true:=by kernel_rfl
theorem qnx:goB Tryz.prog 91 = true:=by kernel_rfl
theorem qiN:goB Tryz.prog 92 = true:=by kernel_rfl
theorem qs8:goB Tryz.prog 93 = true:=by kernel_rfl
theorem qqW:∃ i,Tryz.prog.info? 100 = some i ∧ i.size = 6:=⟨_,rfl,by kernel_rfl⟩
theorem qbU:∃ i,Tryz.prog.info? 102 = some i ∧ i.size = 8:=⟨_,rfl,by kernel_rfl⟩
theorem qqY:∃ i,Tryz.prog.info? 140 = some i ∧ i.size = 7:=⟨_,rfl,by kernel_rfl⟩
theorem qfc:∃ i,Tryz.prog.info? 34 = some i ∧ i.size = 3:=⟨_,rfl,by kernel_rfl⟩
theorem qpw:∃ i,Tryz.prog.info? 97 = some i ∧ i.size = 2:=⟨_,rfl,by kernel_rfl⟩
theorem qo4:qdP Tryz.prog 100 = some [(0,1),(1,1),(2,2),(4,2)]:=by kernel_rfl
theorem qew:qdP Tryz.prog 102 = some [(0,1),(1,1),(2,1),(3,1),(4,1),(5,1),(6,1),(7,1)]:=by kernel_rfl
theorem qjr:qdP Tryz.prog 34 = some [(0,1),(1,1),(2,1)]:=by kernel_rfl
theorem qpd:qdP Tryz.prog 97 = some [(0,1),(1,1)]:=by kernel_rfl
theorem qhG:SlT Tryz.prog 103 102 8:=SlT.of (by kernel_rfl)
theorem qpI:Tryz.prog.stoodInHeld 102 = false:=by kernel_rfl
theorem qnO:qcb Tryz.prog 100 = some [(Value.slice none 0 0),(Value.slice none 0 0),vi 0,vi 0,vi 0,vi 0]:=by kernel_rfl
theorem qc0:qcb Tryz.prog 102 = some [vi 0,vi 0,(vs ([])),vb false,vi 0,vi 0,vi 0,vi 0]:=by kernel_rfl
theorem qnI:qcb Tryz.prog 140 = some [vb false,vb false,vb false,vb false,vb false,vb false,vb false]:=by kernel_rfl
theorem qdB:qcb Tryz.prog 34 = some [vi 0,(Value.slice none 0 0),(Value.slice none 0 0)]:=by kernel_rfl
theorem qmT:qcb Tryz.prog 97 = some [vi 0,vi 0]:=by kernel_rfl
def qlL (u:World) (m0:Mem) (S:Segs) (r:(List (Relation))) (a:Act) (w:World):Prop :=
 ∃ m1 v0,m0.le m1 ∧ Ok u m1 S w ∧ a.defers = [] ∧ RVs Tryz.prog a w [.t 2 v0] ∧ (pL 4 qap) m1 [v0] r
theorem qiA (N:Nat) (vc_0:Value) (c_0:List (List (Relation))) (hc_0:(pL 1 (pL 4 qap)) m0 [vc_0] c_0) {r:(List (Relation))} (hF:qfC N c_0 = some r) (hG:Glob u) (ok:Ok u m0 S w) :
  Calls Tryz.prog 39 [vc_0].toArray w fun e w'=>∃ m1 v0,e = .returned v0 ∧ m0.le m1 ∧ Ok u m1 S w' ∧ (pL 4 qap) m1 [v0] r:=by
 have le_m0:=Mem.le.refl m0
 unfold qfC at hF
 refine en (qlL u m0 S) r Tryz.func39 rfl rfl rfl (fun _ _ h=>rc h fun _=>rfl) fun fin a E=>sg<|aw E rfl fun a E=>sg<|aw E rfl fun a E=>wp_seq<|sg<|av E rfl fun a E=>wn<|wp_block ?_
 obtain ⟨M6,ok,h7⟩:=qcf (e:=69) (k:=4) (R:=qap) ok
 refine bd hF fun o8 hL hF=>qaE _ (fun (s:(List (Relation)) × Int) a w=>∃ c9 M10,Ok u m0 (M10 :: S) w ∧ Env 18 a [(0,vc_0),(3,c9),(4,vi s.2)] ∧ ORow 69 4 qap m0 c9 s.1 M10 ∧ InR .i64 s.2) (fun (b:((List (Relation)))) e a w=>e = (.exit 0) ∧ ∃ c41 M42,Ok u m0 (M42 :: S) w ∧ Env 18 a [(3,c41)] ∧ ORow 69 4 qap m0 c41 b M42) ?_ ?_ N _ a w hL ⟨(Value.slice none 0 0),M6,ok,E.keep [0,3,4],h7,(ir 0)⟩
 rotate_left
 ·intro e a w _ hO
  obtain ⟨rfl,c36,M37,ok,E,h38⟩:=hO
  refine qaM<|qaa<|sg<|mv E rfl fun a E=>aw E rfl fun a E=>wp_ret ?_
  obtain ⟨m39,hle,ok,hfz⟩:=(ok.frs 0 rfl).freeze
  have h40:=ORow.froz qaf h38 hle hfz (by decide)
  have le_m0:=le_m0.trans hle
  have hc_0:=(mL (mL qaf)).up hle hc_0
  exact fin hF ⟨m39,c36,le_m0,ok,E.d,rz E rfl,h40⟩
 rintro ⟨v13,v14⟩ a w r ⟨c15,M16,ok,E,h17,r18⟩ hF
 replace hF:qgI N c_0 v13 v14 = some r:=hF
 unfold qgI at hF
 refine wp_seq<|sg<|mz E rfl rfl fun a E=>lv E ok (qaD qcM hc_0 rfl) fun a E=>lw E (qav rfl rfl) fun a E=>wn<|cg E rfl hF (fun c19 hF=>?_) fun c19 hF=>?_
 ·refine wp_exit<|qaA ?_
  cases hF
  exact so (⟨rfl,⟨c15,M16,ok,E.keep [3],h17⟩⟩)
 refine wp_skip<|qaa<|wp_seq<|wp_block<|qac<|mz E rfl rfl fun a E=>mv E rfl fun a E=>?_
 obtain ⟨x20,e21,hF⟩:=bnd hF
 obtain ⟨b22,o23,es24,hl25,rr26,at27,yy28⟩:=ia E 12 13 qcM hc_0 e21
 obtain ⟨c29,rfl,h30⟩:=qbK rr26
 refine lv E ok (yy28 _ _) fun a E=>lv E ok (qaj qci rfl (qab.ro at27)) fun a E=>bd hF fun l31 e32 hF=>qbo (R:=qap) E ok 0 qaf qa4 Tryz.underlying66 rfl h17 (qa0.ofL h30 ok) e32 ⟨_,qcU,rfl⟩ rfl rfl rfl rfl fun c33 M34 a w E ok h35=>av E rfl fun a E=>wpList_nil<|qal<|qaa<|qac<|mv E rfl fun a E=>lw E (qaw rfl rfl (InR.inc r18 (qam hc_0) c19)) fun a E=>av E rfl fun a E=>wpList_nil ?_
 cases hF
 exact qas ⟨c33,M34,ok,E.keep [0,3,4],h35,(InR.inc r18 (qam hc_0) c19)⟩
def qle (u:World) (m0:Mem) (S:Segs) (r:Int) (a:Act) (w:World):Prop :=
 Ok u m0 S w ∧ a.defers = [] ∧ RVs Tryz.prog a w [.t 2 (.int .i64 r)] ∧ InR .i64 r
theorem qgJ (N:Nat) (vr_0:List Value) (r_0:Relation) (hr_0:qap m0 vr_0 r_0) {r:Int} (hF:qdg N r_0 = some r) (hG:Glob u) (ok:Ok u m0 S w) :
  Calls Tryz.prog 40 [.agg vr_0.toArray].toArray w fun e w'=>(e = .returned (.int .i64 r) ∧ Ok u m0 S w') ∧ InR .i64 r:=by
 obtain ⟨c3,rfl,r1,r2,h4⟩:=hr_0
 unfold qdg at hF
 refine en (qle u m0 S) r Tryz.func40 rfl rfl rfl (fun _ _ h=>rb h rfl) fun fin a E=>sg<|qbz E ok rfl rfl rfl fun b5 a w E ok=>aw E rfl fun a E=>sg<|aw E rfl fun a E=>wp_seq<|sg<|av E rfl fun a E=>wn<|wp_block<|bd hF fun o8 hL hF=>qaE _ (fun (s:Int × Int) a w=>Ok u m0 ([(b5,oc 69 [vi r_0.Operand,vi r_0.Mod,vb r_0.Not,c3])] :: S) w ∧ Env 21 a [(1,vp b5),(3,vi s.1),(4,vi s.2)] ∧ InR .i64 s.1 ∧ InR .i64 s.2) (fun (b:Int) e a w=>e = (.exit 0) ∧ Ok u m0 ([(b5,oc 69 [vi r_0.Operand,vi r_0.Mod,vb r_0.Not,c3])] :: S) w ∧ Env 21 a [(3,vi b)] ∧ InR .i64 b) ?_ ?_ N _ a w hL ⟨ok,E.keep [1,3,4],(ir 0),(ir 0)⟩
 rotate_left
 ·intro e a w _ hO
  obtain ⟨rfl,ok,E,r27⟩:=hO
  refine qaM<|qaa<|sg<|mv E rfl fun a E=>aw E rfl fun a E=>wp_ret ?_
  exact fin hF ⟨ok.drop,E.d,rz E rfl,r27⟩
 rintro ⟨v11,v12⟩ a w r ⟨ok,E,r13,r14⟩ hF
 replace hF:qgx N r_0 v11 v12 = some r:=hF
 unfold qgx at hF
 refine wp_seq<|sg<|mv E rfl fun a E=>fk E ok qbs qb3 rfl 0 rfl rfl fun a E=>lv E ok (qaD qbO h4 rfl) fun a E=>lw E (qav rfl rfl) fun a E=>wn<|cg E rfl hF (fun c15 hF=>?_) fun c15 hF=>?_
 ·refine wp_exit<|qaA ?_
  cases hF
  exact so (⟨rfl,⟨ok,E.keep [3],r13⟩⟩)
 refine wp_skip<|qaa<|wp_seq<|wp_block<|qac<|mv E rfl fun a E=>fk E ok qbs qb3 rfl 0 rfl rfl fun a E=>mv E rfl fun a E=>?_
 obtain ⟨x16,e17,hF⟩:=bnd hF
 obtain ⟨b18,o19,es20,hl21,rr22,at23,yy24⟩:=ia E 14 15 qbO h4 e17
 obtain ⟨rfl,r25,r26⟩:=rr22
 refine lv E ok (yy24 _ _) fun a E=>fv E qdK rfl fun a E=>lv E ok (qaj qak rfl (qab.ro (At.sub 1 1 at23))) fun a E=>lw E (qnr rfl rfl) fun a E=>av E rfl fun a E=>wpList_nil<|qal<|qaa<|qac<|mv E rfl fun a E=>lw E (qaw rfl rfl (InR.inc r14 (qam h4) c15)) fun a E=>av E rfl fun a E=>wpList_nil ?_
 cases hF
 exact qas ⟨ok,E.keep [1,3,4],(InR.max r13 r26),(InR.inc r14 (qam h4) c15)⟩
def qkj (u:World) (m0:Mem) (S:Segs) (r:Int × Int) (a:Act) (w:World):Prop :=
 Ok u m0 S w ∧ a.defers = [] ∧ RVs Tryz.prog a w [.t 2 (.int .i64 r.1),.t 3 (.int .i64 r.2)] ∧ InR .i64 r.1 ∧ InR .i64 r.2
theorem qhH (N:Nat) (vc_0:Value) (c_0:List (List (Relation))) (hc_0:(pL 1 (pL 4 qap)) m0 [vc_0] c_0) {r:Int × Int} (hF:qcD N c_0 = some r) (hG:Glob u) (ok:Ok u m0 S w) :
  Calls Tryz.prog 13 [vc_0].toArray w fun e w'=>(e = .returned (.tuple [(.int .i64 r.1),(.int .i64 r.2)].toArray) ∧ Ok u m0 S w') ∧ InR .i64 r.1 ∧ InR .i64 r.2:=by
 have hb0:=ok.base
 have le_m0:=Mem.le.refl m0
 unfold qcD at hF
 refine en (qkj u m0 S) r Tryz.func13 rfl rfl rfl (by rintro a w ⟨ok,hd,hrv,h0,h1⟩; exact qbG [.t 2 (.int .i64 r.1),.t 3 (.int .i64 r.2)] hd rfl hrv ⟨⟨rfl,ok⟩,h0,h1⟩) fun fin a E=>sg<|av E rfl fun a E=>aw E rfl fun a E=>wp_seq<|sg<|mv E rfl fun a E=>bd hF fun r1 e2 hF=>lc E qtd rfl (qkP N _ c_0 hc_0 e2 hG ok) fun w ok a E=>lw E (qbu rfl) fun a E=>wn<|cf E rfl hF (fun c3 hF=>?_) fun c3 hF=>?_
 ·refine sg<|av E rfl fun a E=>aw E rfl fun a E=>wp_ret<|qaq ?_
  exact fin hF ⟨ok,E.d,⟨rv_t E rfl,rv_t E rfl,trivial⟩,(ir 0),(ir 1)⟩
 refine wp_skip<|qaa<|sg<|aw E rfl fun a E=>sg<|mv E rfl fun a E=>bd hF fun r4 e5 hF=>qan E qqn rfl (qiA N _ c_0 hc_0 e5 hG ok) rfl rfl ?_
 rintro _ w ⟨m6,c7,rfl,hle,ok,h8⟩
 have le_m0:=le_m0.trans hle
 have hc_0:=(mL (mL qaf)).up hle hc_0
 refine ⟨_,rfl,fun a E=>?_⟩
 refine aw E rfl fun a E=>wp_seq<|sg<|av E rfl fun a E=>wn<|wp_block<|bd hF fun o11 hL hF=>qaE _ (fun (s:Int × Int) a w=>Ok u m6 (S) w ∧ Env 46 a [(4,vi s.1),(5,c7),(6,vi s.2)] ∧ InR .i64 s.1 ∧ InR .i64 s.2) (fun (b:Int) e a w=>e = (.exit 0) ∧ Ok u m6 (S) w ∧ Env 46 a [(4,vi b)] ∧ InR .i64 b) ?_ ?_ N _ a w hL ⟨ok,E.keep [4,5,6],(ir 1),(ir 0)⟩
 rotate_left
 ·intro e a w _ hO
  obtain ⟨rfl,ok,E,r69⟩:=hO
  refine qaM<|qaa<|sg<|mv E rfl fun a E=>av E rfl fun a E=>av E rfl fun a E=>wn<|wp_ret ?_
  exact fin hF ⟨(ok).down hb0 le_m0,E.d,⟨rv_t E rfl,rv_t E rfl,trivial⟩,r69,(ir 0)⟩
 rintro ⟨v14,v15⟩ a w r ⟨ok,E,r16,r17⟩ hF
 replace hF:qcy N r4 v14 v15 = some r:=hF
 unfold qcy at hF
 refine wp_seq<|sg<|mz E rfl rfl fun a E=>lv E ok (qaD qa4 h8 rfl) fun a E=>lw E (qav rfl rfl) fun a E=>wn<|cg E rfl hF (fun c18 hF=>?_) fun c18 hF=>?_
 ·refine wp_exit<|qaA ?_
  cases hF
  exact so (⟨rfl,⟨ok,E.keep [4],r16⟩⟩)
 refine wp_skip<|qaa<|wp_seq<|wp_block<|sg<|mz E rfl rfl fun a E=>?_
 obtain ⟨x19,e20,hF⟩:=bnd hF
 obtain ⟨b21,o22,es23,hl24,rr25,at26,yy27⟩:=ia E 19 20 qa4 h8 e20
 obtain ⟨c30,rfl,r28,r29,h31⟩:=rr25
 refine lv E ok (yy27 _ _) fun a E=>fv E qcn rfl fun a E=>lv E ok (qaj qak rfl (qab.ro (At.sub 1 1 at26))) fun a E=>aw E rfl fun a E=>wp_seq<|sg<|mv E rfl fun a E=>lw E (qau rfl rfl) fun a E=>wn<|bd hF fun o32 hJ hF=>qaG (Q':=fun e a w=>e = .normal ∧ Ok u m6 (S) w ∧ Env 46 a [(4,vi v14),(5,c7),(6,vi v15),(7,vi o32)] ∧ InR .i64 o32) ?_ ?_
 ·have hF:=hJ
  refine cg E rfl hF (fun c34 hF=>?_) fun c34 hF=>?_
  ·refine wp_skip ?_
   cases hF
   exact ⟨rfl,⟨ok,E.keep [4,5,6,7],r29⟩⟩
  refine qac<|mz E rfl rfl fun a E=>?_
  obtain ⟨x35,e36,hF⟩:=bnd hF
  obtain ⟨b37,o38,es39,hl40,rr41,at42,yy43⟩:=ia E 26 27 qa4 h8 e36
  obtain ⟨c46,rfl,r44,r45,h47⟩:=rr41
  refine lv E ok (yy43 _ _) fun a E=>lv E ok (qag (cs:=[vi x35.Operand,vi x35.Mod,vb x35.Not,c46]) qbc rfl rfl (qab.ro at42)) fun a E=>bd hF fun r48 e49 hF=>qan E qo6 rfl (qgJ N _ x35 ⟨_,rfl,r44,r45,h47⟩ e49 hG ok) rfl rfl ?_
  rintro _ w ⟨⟨rfl,ok⟩,r50⟩
  refine ⟨_,rfl,fun a E=>?_⟩
  refine lw E (qbq rfl rfl) fun a E=>av E rfl fun a E=>wpList_nil ?_
  cases hF
  exact ⟨rfl,⟨ok,E.keep [4,5,6,7],(InR.wrap _ _)⟩⟩
 intro e a w hO
 obtain ⟨rfl,ok,E,r51⟩:=hO
 refine qaa<|wp_seq<|sg<|mz E rfl rfl fun a E=>?_
 obtain ⟨x52,e53,hF⟩:=bnd hF
 obtain ⟨b54,o55,es56,hl57,rr58,at59,yy60⟩:=ia E 32 33 qa4 h8 e53
 obtain ⟨c63,rfl,r61,r62,h64⟩:=rr58
 refine lv E ok (yy60 _ _) fun a E=>fv E qa2 rfl fun a E=>lv E ok (qaj qak rfl (qab.ro (At.sub 0 1 at59))) fun a E=>lw E (qau rfl rfl) fun a E=>wn<|bd hF fun o65 hJ hF=>qaG (Q':=fun e a w=>e = .normal ∧ Ok u m6 (S) w ∧ Env 46 a [(4,vi v14),(5,c7),(6,vi v15),(7,vi o65)] ∧ InR .i64 o65) ?_ ?_
 ·have hF:=hJ
  refine cg E rfl hF (fun c67 hF=>?_) fun c67 hF=>?_
  ·refine wp_skip ?_
   cases hF
   exact ⟨rfl,⟨ok,E.keep [4,5,6,7],r51⟩⟩
  refine qac<|mz E rfl rfl fun a E=>lw E (qfB rfl rfl) fun a E=>av E rfl fun a E=>wpList_nil ?_
  cases hF
  exact ⟨rfl,⟨ok,E.keep [4,5,6,7],(InR.wrap _ _)⟩⟩
 intro e a w hO
 obtain ⟨rfl,ok,E,r68⟩:=hO
 refine qaa<|qac<|mz E rfl rfl fun a E=>lw E (qfB rfl rfl) fun a E=>lw E (qkp rfl rfl) fun a E=>av E rfl fun a E=>wpList_nil<|qal<|qaa<|qac<|mv E rfl fun a E=>lw E (qaw rfl rfl (InR.inc r17 (qam h8) c18)) fun a E=>av E rfl fun a E=>wpList_nil ?_
 cases hF
 exact qas ⟨ok,E.keep [4,5,6],(InR.min (ir 1000000) (InR.wrap _ _)),(InR.inc r17 (qam h8) c18)⟩
def qlP (u:World) (m0:Mem) (S:Segs) (r:Int) (a:Act) (w:World):Prop :=
 Ok u m0 S w ∧ a.defers = [] ∧ RVs Tryz.prog a w [.t 4 (.int .i64 r)] ∧ InR .i64 r
def qfQ (N:Nat):Prop:=∀ {u:World} {m0:Mem} {S:Segs} {w:World} (a_0:Int) (ra_0:InR .i64 a_0) (b_1:Int) (rb_1:InR .i64 b_1) {r:Int} (hF:qdt N a_0 b_1 = some r) (hG:Glob u) (ok:Ok u m0 S w),Calls Tryz.prog 89 [vi a_0,vi b_1].toArray w fun e w'=>(e = .returned (.int .i64 r) ∧ Ok u m0 S w') ∧ InR .i64 r
theorem qkr (N:Nat) (ih_calqueref10_gcd:qfQ N):qfQ (N + 1):=by
 intro u m0 S w a_0 ra_0 b_1 rb_1 r hF hG ok
 have hF0:qd1 (qdt N) N a_0 b_1 = some r:=hF
 have hF:=hF0
 clear hF0
 unfold qd1 at hF
 refine en (qlP u m0 S) r Tryz.func89 rfl rfl rfl (fun _ _ h=>rb h rfl) fun fin a E=>sg<|aw E rfl fun a E=>wp_seq<|sg<|mv E rfl fun a E=>lw E (qau rfl rfl) fun a E=>wn<|cf E rfl hF (fun c1 hF=>?_) fun c1 hF=>?_
 ·refine sg<|mv E rfl fun a E=>aw E rfl fun a E=>wp_ret<|qaq ?_
  exact fin hF ⟨ok,E.d,rz E rfl,ra_0⟩
 refine wp_skip<|qaa<|sg<|mz E rfl rfl fun a E=>mv E rfl fun a E=>bd hF fun q2 e3 hF=>lw E (y_rm rfl rfl e3) fun a E=>bd hF fun r4 e5 hF=>qan E qoP rfl (ih_calqueref10_gcd b_1 rb_1 q2 (qnP e3 ra_0) e5 hG ok) rfl rfl ?_
 rintro _ w ⟨⟨rfl,ok⟩,r6⟩
 refine ⟨_,rfl,fun a E=>?_⟩
 refine aw E rfl fun a E=>wp_ret ?_
 exact fin hF ⟨ok,E.d,rz E rfl,r6⟩
theorem qkk:qfQ 0:=by
 intro u m0 S w a_0 ra_0 b_1 rb_1 r hF hG ok
 replace hF:none = some r:=hF
 cases hF
theorem qjh (N:Nat):qfQ N:=by
 induction N with
 | zero=>exact qkk
 | succ N h=>exact qkr N h
theorem qiD {u:World} {m0:Mem} {S:Segs} {w:World} (N:Nat) (a_0:Int) (ra_0:InR .i64 a_0) (b_1:Int) (rb_1:InR .i64 b_1) {r:Int} (hF:qdt N a_0 b_1 = some r) (hG:Glob u) (ok:Ok u m0 S w) :
 Calls Tryz.prog 89 [vi a_0,vi b_1].toArray w fun e w'=>(e = .returned (.int .i64 r) ∧ Ok u m0 S w') ∧ InR .i64 r:=(qjh N) a_0 ra_0 b_1 rb_1 hF hG ok
def qkm (u:World) (m0:Mem) (S:Segs) (r:Reduction) (a:Act) (w:World):Prop :=
 ∃ m1 v0,m0.le m1 ∧ Ok u m1 S w ∧ a.defers = [] ∧ RVs Tryz.prog a w [.c 6 97 (.agg v0.toArray)] ∧ qke m1 v0 r
theorem qhC (N:Nat) (vl_0:Value) (l_0:List (Relation)) (hl_0:(pL 4 qap) m0 [vl_0] l_0) (a_1:Int) (ra_1:InR .i64 a_1) (b_2:Int) (rb_2:InR .i64 b_2) {r:Reduction} (hF:qdS N l_0 a_1 b_2 = some r) (hG:Glob u) (ok:Ok u m0 S w) :
  Calls Tryz.prog 55 [vl_0,vi a_1,vi b_2].toArray w fun e w'=>∃ m1 v0,e = .returned (.agg v0.toArray) ∧ m0.le m1 ∧ Ok u m1 S w' ∧ qke m1 v0 r:=by
 have le_m0:=Mem.le.refl m0
 unfold qdS at hF
 refine en (qkm u m0 S) r Tryz.func55 rfl rfl rfl (by rintro a w ⟨m1,v0,hle,ok,hd,hrv,h0⟩; exact qbG [.c 6 97 (.agg v0.toArray)] hd rfl hrv ⟨m1,v0,rfl,hle,ok,h0⟩) fun fin a E=>sg<|qax E ok qmT rfl rfl fun b1 a w E ok=>wn<|sg<|lw E (qaF (ps:=[(0,.const (vi (-1))),(1,.const (vi 1))]) (qs:=[(0,[(vi (-1))]),(1,[vi 1])]) (cs:=[(vi (-1)),vi 1]) qmT qpd rfl ⟨rfl,rfl,rfl,⟨rfl,rfl,rfl,trivial⟩⟩ rfl) fun a E=>qax E ok qmT rfl rfl fun b2 a w E ok=>qad E ok 0 rfl rfl rfl qpw rfl rfl ⟨rfl,rfl,trivial⟩ rfl rfl fun w ok=>wn<|wp_seq<|sg<|aw E rfl fun a E=>wp_block<|bd hF fun o7 hL hF=>qaE _ (fun (s:Int × Reduction) a w=>Ok u m0 ([(b2,oc 97 [vi s.2.bound,vi s.2.mod])] :: [(b1,oc 97 [vi 0,vi 0])] :: S) w ∧ Env 68 a [(0,vl_0),(1,vi a_1),(2,vi b_2),(6,vp b1),(7,vp b2),(8,vi s.1)] ∧ InR .i64 s.1 ∧ InR .i64 s.2.bound ∧ InR .i64 s.2.mod) (fun (b:Reduction) e a w=>e = (.exit 0) ∧ Ok u m0 ([(b2,oc 97 [vi b.bound,vi b.mod])] :: [(b1,oc 97 [vi 0,vi 0])] :: S) w ∧ Env 68 a [(6,vp b1),(7,vp b2)] ∧ InR .i64 b.bound ∧ InR .i64 b.mod) ?_ ?_ N _ a w hL ⟨ok,E.keep [0,1,2,6,7,8],(ir 0),(ir (-1)),(ir 1)⟩
 rotate_left
 ·intro e a w _ hO
  obtain ⟨rfl,ok,E,r257,r258⟩:=hO
  refine qaM<|qaa<|sg<|lv E ok (qag (cs:=[vi o7.bound,vi o7.mod]) qiY rfl rfl (qab.own 0 rfl rfl)) fun a E=>qad E ok 1 rfl rfl rfl qpw rfl rfl ⟨rfl,rfl,trivial⟩ rfl rfl fun w ok=>wn<|wp_ret ?_
  exact fin hF ⟨m0,[vi o7.bound,vi o7.mod],le_m0,ok.drop.drop,E.d,⟨rv_c (cs:=[vi o7.bound,vi o7.mod]) E ok rfl qiY rfl (qab.own 1 rfl rfl),trivial⟩,⟨rfl,r257,r258⟩⟩
 rintro ⟨v11,v12⟩ a w r ⟨ok,E,r13,r14,r15⟩ hF
 replace hF:qcz N l_0 a_1 b_2 v11 v12 = some r:=hF
 unfold qcz at hF
 refine wp_seq<|sg<|mz E rfl rfl fun a E=>lv E ok (qaD qa4 hl_0 rfl) fun a E=>lw E (qav rfl rfl) fun a E=>wn<|cg E rfl hF (fun c16 hF=>?_) fun c16 hF=>?_
 ·refine wp_exit<|qaA ?_
  cases hF
  exact so (⟨rfl,⟨ok,E.keep [6,7],r14,r15⟩⟩)
 refine wp_skip<|qaa<|wp_seq<|wp_block<|wp_block<|sg<|mv E rfl fun a E=>mv E rfl fun a E=>?_
 obtain ⟨x17,e18,hF⟩:=bnd hF
 obtain ⟨b19,o20,es21,hl22,rr23,at24,yy25⟩:=ia E 35 36 qa4 hl_0 e18
 obtain ⟨c28,rfl,r26,r27,h29⟩:=rr23
 refine lv E ok (yy25 _ _) fun a E=>fv E qa2 rfl fun a E=>lv E ok (qaj qak rfl (qab.ro (At.sub 0 1 at24))) fun a E=>mv E rfl fun a E=>lw E (qb7 rfl rfl) fun a E=>mv E rfl fun a E=>bw E 42 hF (fun c30 hF E=>?_) fun c30 hF E=>?_
 ·as_aux_lemma =>
   refine lsz E fun a E=>lsq E fun a E=>ls E fun a E=>pf E rfl rfl fun a E=>aw E rfl fun a E=>c_if E rfl (fun h=>by cases h) (fun _=>?_)
   refine sg<|mz E rfl rfl fun a E=>?_
   obtain ⟨x151,e152,hF⟩:=bnd hF
   obtain ⟨b153,o154,es155,hl156,rr157,at158,yy159⟩:=ia E 52 53 qa4 hl_0 e152
   obtain ⟨c162,rfl,r160,r161,h163⟩:=rr157
   refine lv E ok (yy159 _ _) fun a E=>fv E qcn rfl fun a E=>lv E ok (qaj qak rfl (qab.ro (At.sub 1 1 at158))) fun a E=>lw E (qau rfl rfl) fun a E=>aw E rfl fun a E=>cf E rfl hF (fun c164 hF=>?_) fun c164 hF=>?_
   ·refine bd hF fun o165 hJ hF=>qaG (Q':=fun e a w=>e = .normal ∧ Ok u m0 ([(b2,oc 97 [vi o165.bound,vi o165.mod])] :: [(b1,oc 97 [vi 0,vi 0])] :: S) w ∧ Env 68 a [(0,vl_0),(1,vi a_1),(2,vi b_2),(6,vp b1),(7,vp b2),(8,vi v11)] ∧ InR .i64 o165.bound ∧ InR .i64 o165.mod) ?_ ?_
    rotate_left
    ·intro e a w hO
     obtain ⟨rfl,ok,E,r196,r197⟩:=hO
     refine qal<|qal<|qaa<|qac<|mv E rfl fun a E=>lw E (qaw rfl rfl (InR.inc r13 (qam hl_0) c16)) fun a E=>av E rfl fun a E=>wpList_nil ?_
     cases hF
     exact qas ⟨ok,E.keep [0,1,2,6,7,8],(InR.inc r13 (qam hl_0) c16),r196,r197⟩
    have hF:=hJ
    obtain ⟨x168,e169,hF⟩:=bnd hF
    obtain ⟨r181,e182,hF⟩:=bnd hF
    obtain rfl:=sj hF
    refine qaY [1,5] (Cls u m0 ([(b2,oc 97 [vi v12.bound,vi v12.mod])] :: [(b1,oc 97 [vi 0,vi 0])] :: [])) (Cls u m0 ([(b1,oc 97 [vi 0,vi 0])] :: [])) (by kernel_rfl) ?_
    intro w hw
    replace ok:=qbd ok hw
    clear hw
    refine qai (cl1 (cq le_m0 ok [0,1] rfl) (cq le_m0 ok [1] rfl)) fun hT=>kt 0 E rfl hT (qae qhV rfl) fun a E=>qaS 1 E rfl (by kernel_rfl) nP hT (qaj qak rfl (qab.cown 0 rfl rfl)) rfl rfl fun a E=>kt 2 E rfl hT (qah rfl) fun a E=>kt 3 E rfl hT (qah rfl) fun a E=>?_
    obtain ⟨b184,o185,es186,hl187,rr188,at189,yy190⟩:=ia E 60 61 qa4 hl_0 e169
    obtain ⟨c193,rfl,r191,r192,h194⟩:=rr188
    refine kt 4 E rfl hT (yy190 _ _) fun a E=>qaS 5 E rfl (by kernel_rfl) nP hT (qag (cs:=[vi x168.Operand,vi x168.Mod,vb x168.Not,c193]) qbc rfl rfl (qab.cro at189)) rfl rfl fun a E=>qao [6] (by kernel_rfl) rfl (qar ?_)
    ·refine wo rfl<|qan E qo6 rfl (qgJ N _ x168 ⟨_,rfl,r191,r192,h194⟩ e182 hG ok) rfl rfl ?_
     rintro _ w ⟨⟨rfl,ok⟩,r195⟩
     refine ⟨_,rfl,fun a E=>?_⟩
     refine wn<|qai (cl1 (cq le_m0 ok [0,1] rfl) (cq le_m0 ok [1] rfl)) fun hT=>qao [7] (by kernel_rfl) rfl (qar ?_)
     ·refine wo rfl<|lw E (qnr rfl rfl) fun a E=>wn<|qai (cl1 (cq le_m0 ok [0,1] rfl) (cq le_m0 ok [1] rfl)) fun hT=>kt 8 E rfl hT (qae qhV rfl) fun a E=>qao [9] (by kernel_rfl) rfl (qar ?_)
      ·refine wo rfl<|qad E ok 0 rfl rfl rfl qaZ rfl rfl ⟨rfl,trivial⟩ rfl rfl fun w ok=>wn<|qai (cl2 (by kernel_rfl) (cq le_m0 ok [1] rfl)) fun hT=>qaV (by kernel_rfl) ?_
       exact ⟨rfl,⟨ok,E.keep [0,1,2,6,7,8],(InR.max r14 r195),r15⟩⟩
   refine bd hF fun o198 hJ hF=>qaG (Q':=fun e a w=>e = .normal ∧ Ok u m0 ([(b2,oc 97 [vi o198.bound,vi o198.mod])] :: [(b1,oc 97 [vi 0,vi 0])] :: S) w ∧ Env 68 a [(0,vl_0),(1,vi a_1),(2,vi b_2),(6,vp b1),(7,vp b2),(8,vi v11)] ∧ InR .i64 o198.bound ∧ InR .i64 o198.mod) ?_ ?_
   rotate_left
   ·intro e a w hO
    obtain ⟨rfl,ok,E,r255,r256⟩:=hO
    refine qal<|qal<|qaa<|qac<|mv E rfl fun a E=>lw E (qaw rfl rfl (InR.inc r13 (qam hl_0) c16)) fun a E=>av E rfl fun a E=>wpList_nil ?_
    cases hF
    exact qas ⟨ok,E.keep [0,1,2,6,7,8],(InR.inc r13 (qam hl_0) c16),r255,r256⟩
   have hF:=hJ
   obtain ⟨x201,e202,hF⟩:=bnd hF
   obtain ⟨r214,e215,hF⟩:=bnd hF
   obtain ⟨q217,e218,hF⟩:=bnd hF
   obtain ⟨x219,e220,hF⟩:=bnd hF
   obtain rfl:=sj hF
   refine qaY [1,3,8,15] (Cls u m0 ([(b2,oc 97 [vi v12.bound,vi v12.mod])] :: [(b1,oc 97 [vi 0,vi 0])] :: [])) (Cls u m0 ([(b1,oc 97 [vi 0,vi 0])] :: [])) (by kernel_rfl) ?_
   intro w hw
   replace ok:=qbd ok hw
   clear hw
   refine qai (cl1 (cq le_m0 ok [0,1] rfl) (cq le_m0 ok [1] rfl)) fun hT=>kt 0 E rfl hT (qae qhX rfl) fun a E=>qaS 1 E rfl (by kernel_rfl) nP hT (qaj qak rfl (qab.cown 0 rfl rfl)) rfl rfl fun a E=>kt 2 E rfl hT (qae qhX rfl) fun a E=>qaS 3 E rfl (by kernel_rfl) nP hT (qaj qak rfl (qab.cown 0 rfl rfl)) rfl rfl fun a E=>kt 4 E rfl hT (qah rfl) fun a E=>kt 5 E rfl hT (qah rfl) fun a E=>?_
   obtain ⟨b232,o233,es234,hl235,rr236,at237,yy238⟩:=ia E 20 21 qa4 hl_0 e202
   obtain ⟨c241,rfl,r239,r240,h242⟩:=rr236
   refine kt 6 E rfl hT (yy238 _ _) fun a E=>kt 7 E rfl hT (qae qcn rfl) fun a E=>qaS 8 E rfl (by kernel_rfl) nP hT (qaj qak rfl (qab.cro (At.sub 1 1 at237))) rfl rfl fun a E=>kt 11 E rfl hT (qah rfl) fun a E=>kt 12 E rfl hT (qah rfl) fun a E=>?_
   obtain ⟨b243,o244,es245,hl246,rr247,at248,yy249⟩:=ia E 27 28 qa4 hl_0 e220
   obtain ⟨c252,rfl,r250,r251,h253⟩:=rr247
   refine kt 13 E rfl hT (yy249 _ _) fun a E=>kt 14 E rfl hT (qae qcn rfl) fun a E=>qaS 15 E rfl (by kernel_rfl) nP hT (qaj qak rfl (qab.cro (At.sub 1 1 at248))) rfl rfl fun a E=>qao [9] (by kernel_rfl) rfl (qar ?_)
   ·refine wo rfl<|qan E qoP rfl (qiD N v12.mod r15 x201.Mod r240 e215 hG ok) rfl rfl ?_
    rintro _ w ⟨⟨rfl,ok⟩,r254⟩
    refine ⟨_,rfl,fun a E=>?_⟩
    refine wn<|qai (cl1 (cq le_m0 ok [0,1] rfl) (cq le_m0 ok [1] rfl)) fun hT=>kt 10 E rfl hT (y_qt rfl rfl e218) fun a E=>kt 16 E rfl hT (qfB rfl rfl) fun a E=>kt 17 E rfl hT (qae qhX rfl) fun a E=>qao [18] (by kernel_rfl) rfl (qar ?_)
    ·refine wo rfl<|qad E ok 0 rfl rfl rfl qaZ rfl rfl ⟨rfl,trivial⟩ rfl rfl fun w ok=>wn<|qai (cl2 (by kernel_rfl) (cq le_m0 ok [1] rfl)) fun hT=>qaV (by kernel_rfl) ?_
     exact ⟨rfl,⟨ok,E.keep [0,1,2,6,7,8],r14,(InR.wrap _ _)⟩⟩
 refine mz E rfl rfl fun a E=>?_
 obtain ⟨x31,e32,hF⟩:=bnd hF
 obtain ⟨b33,o34,es35,hl36,rr37,at38,yy39⟩:=ia E 43 44 qa4 hl_0 e32
 obtain ⟨c42,rfl,r40,r41,h43⟩:=rr37
 refine lv E ok (yy39 _ _) fun a E=>fv E qa2 rfl fun a E=>lv E ok (qaj qak rfl (qab.ro (At.sub 0 1 at38))) fun a E=>mv E rfl fun a E=>lw E (qb7 rfl rfl) fun a E=>pt E rfl rfl fun a E=>av E rfl fun a E=>wn<|cf E rfl hF (fun c44 hF=>?_) fun c44 hF=>?_
 ·refine wp_skip<|qal<|qal<|qaa<|qac<|mv E rfl fun a E=>lw E (qaw rfl rfl (InR.inc r13 (qam hl_0) c16)) fun a E=>av E rfl fun a E=>wpList_nil ?_
  cases hF
  exact qas ⟨ok,E.keep [0,1,2,6,7,8],(InR.inc r13 (qam hl_0) c16),r14,r15⟩
 refine sg<|mz E rfl rfl fun a E=>?_
 obtain ⟨x45,e46,hF⟩:=bnd hF
 obtain ⟨b47,o48,es49,hl50,rr51,at52,yy53⟩:=ia E 52 53 qa4 hl_0 e46
 obtain ⟨c56,rfl,r54,r55,h57⟩:=rr51
 refine lv E ok (yy53 _ _) fun a E=>fv E qcn rfl fun a E=>lv E ok (qaj qak rfl (qab.ro (At.sub 1 1 at52))) fun a E=>lw E (qau rfl rfl) fun a E=>aw E rfl fun a E=>cf E rfl hF (fun c58 hF=>?_) fun c58 hF=>?_
 ·refine bd hF fun o59 hJ hF=>qaG (Q':=fun e a w=>e = .normal ∧ Ok u m0 ([(b2,oc 97 [vi o59.bound,vi o59.mod])] :: [(b1,oc 97 [vi 0,vi 0])] :: S) w ∧ Env 68 a [(0,vl_0),(1,vi a_1),(2,vi b_2),(6,vp b1),(7,vp b2),(8,vi v11)] ∧ InR .i64 o59.bound ∧ InR .i64 o59.mod) ?_ ?_
  rotate_left
  ·intro e a w hO
   obtain ⟨rfl,ok,E,r90,r91⟩:=hO
   refine qal<|qal<|qaa<|qac<|mv E rfl fun a E=>lw E (qaw rfl rfl (InR.inc r13 (qam hl_0) c16)) fun a E=>av E rfl fun a E=>wpList_nil ?_
   cases hF
   exact qas ⟨ok,E.keep [0,1,2,6,7,8],(InR.inc r13 (qam hl_0) c16),r90,r91⟩
  have hF:=hJ
  obtain ⟨x62,e63,hF⟩:=bnd hF
  obtain ⟨r75,e76,hF⟩:=bnd hF
  obtain rfl:=sj hF
  refine qaY [1,5] (Cls u m0 ([(b2,oc 97 [vi v12.bound,vi v12.mod])] :: [(b1,oc 97 [vi 0,vi 0])] :: [])) (Cls u m0 ([(b1,oc 97 [vi 0,vi 0])] :: [])) (by kernel_rfl) ?_
  intro w hw
  replace ok:=qbd ok hw
  clear hw
  refine qai (cl1 (cq le_m0 ok [0,1] rfl) (cq le_m0 ok [1] rfl)) fun hT=>kt 0 E rfl hT (qae qhV rfl) fun a E=>qaS 1 E rfl (by kernel_rfl) nP hT (qaj qak rfl (qab.cown 0 rfl rfl)) rfl rfl fun a E=>kt 2 E rfl hT (qah rfl) fun a E=>kt 3 E rfl hT (qah rfl) fun a E=>?_
  obtain ⟨b78,o79,es80,hl81,rr82,at83,yy84⟩:=ia E 60 61 qa4 hl_0 e63
  obtain ⟨c87,rfl,r85,r86,h88⟩:=rr82
  refine kt 4 E rfl hT (yy84 _ _) fun a E=>qaS 5 E rfl (by kernel_rfl) nP hT (qag (cs:=[vi x62.Operand,vi x62.Mod,vb x62.Not,c87]) qbc rfl rfl (qab.cro at83)) rfl rfl fun a E=>qao [6] (by kernel_rfl) rfl (qar ?_)
  ·refine wo rfl<|qan E qo6 rfl (qgJ N _ x62 ⟨_,rfl,r85,r86,h88⟩ e76 hG ok) rfl rfl ?_
   rintro _ w ⟨⟨rfl,ok⟩,r89⟩
   refine ⟨_,rfl,fun a E=>?_⟩
   refine wn<|qai (cl1 (cq le_m0 ok [0,1] rfl) (cq le_m0 ok [1] rfl)) fun hT=>qao [7] (by kernel_rfl) rfl (qar ?_)
   ·refine wo rfl<|lw E (qnr rfl rfl) fun a E=>wn<|qai (cl1 (cq le_m0 ok [0,1] rfl) (cq le_m0 ok [1] rfl)) fun hT=>kt 8 E rfl hT (qae qhV rfl) fun a E=>qao [9] (by kernel_rfl) rfl (qar ?_)
    ·refine wo rfl<|qad E ok 0 rfl rfl rfl qaZ rfl rfl ⟨rfl,trivial⟩ rfl rfl fun w ok=>wn<|qai (cl2 (by kernel_rfl) (cq le_m0 ok [1] rfl)) fun hT=>qaV (by kernel_rfl) ?_
     exact ⟨rfl,⟨ok,E.keep [0,1,2,6,7,8],(InR.max r14 r89),r15⟩⟩
 refine bd hF fun o92 hJ hF=>qaG (Q':=fun e a w=>e = .normal ∧ Ok u m0 ([(b2,oc 97 [vi o92.bound,vi o92.mod])] :: [(b1,oc 97 [vi 0,vi 0])] :: S) w ∧ Env 68 a [(0,vl_0),(1,vi a_1),(2,vi b_2),(6,vp b1),(7,vp b2),(8,vi v11)] ∧ InR .i64 o92.bound ∧ InR .i64 o92.mod) ?_ ?_
 rotate_left
 ·intro e a w hO
  obtain ⟨rfl,ok,E,r149,r150⟩:=hO
  refine qal<|qal<|qaa<|qac<|mv E rfl fun a E=>lw E (qaw rfl rfl (InR.inc r13 (qam hl_0) c16)) fun a E=>av E rfl fun a E=>wpList_nil ?_
  cases hF
  exact qas ⟨ok,E.keep [0,1,2,6,7,8],(InR.inc r13 (qam hl_0) c16),r149,r150⟩
 have hF:=hJ
 obtain ⟨x95,e96,hF⟩:=bnd hF
 obtain ⟨r108,e109,hF⟩:=bnd hF
 obtain ⟨q111,e112,hF⟩:=bnd hF
 obtain ⟨x113,e114,hF⟩:=bnd hF
 obtain rfl:=sj hF
 refine qaY [1,3,8,15] (Cls u m0 ([(b2,oc 97 [vi v12.bound,vi v12.mod])] :: [(b1,oc 97 [vi 0,vi 0])] :: [])) (Cls u m0 ([(b1,oc 97 [vi 0,vi 0])] :: [])) (by kernel_rfl) ?_
 intro w hw
 replace ok:=qbd ok hw
 clear hw
 refine qai (cl1 (cq le_m0 ok [0,1] rfl) (cq le_m0 ok [1] rfl)) fun hT=>kt 0 E rfl hT (qae qhX rfl) fun a E=>qaS 1 E rfl (by kernel_rfl) nP hT (qaj qak rfl (qab.cown 0 rfl rfl)) rfl rfl fun a E=>kt 2 E rfl hT (qae qhX rfl) fun a E=>qaS 3 E rfl (by kernel_rfl) nP hT (qaj qak rfl (qab.cown 0 rfl rfl)) rfl rfl fun a E=>kt 4 E rfl hT (qah rfl) fun a E=>kt 5 E rfl hT (qah rfl) fun a E=>?_
 obtain ⟨b126,o127,es128,hl129,rr130,at131,yy132⟩:=ia E 20 21 qa4 hl_0 e96
 obtain ⟨c135,rfl,r133,r134,h136⟩:=rr130
 refine kt 6 E rfl hT (yy132 _ _) fun a E=>kt 7 E rfl hT (qae qcn rfl) fun a E=>qaS 8 E rfl (by kernel_rfl) nP hT (qaj qak rfl (qab.cro (At.sub 1 1 at131))) rfl rfl fun a E=>kt 11 E rfl hT (qah rfl) fun a E=>kt 12 E rfl hT (qah rfl) fun a E=>?_
 obtain ⟨b137,o138,es139,hl140,rr141,at142,yy143⟩:=ia E 27 28 qa4 hl_0 e114
 obtain ⟨c146,rfl,r144,r145,h147⟩:=rr141
 refine kt 13 E rfl hT (yy143 _ _) fun a E=>kt 14 E rfl hT (qae qcn rfl) fun a E=>qaS 15 E rfl (by kernel_rfl) nP hT (qaj qak rfl (qab.cro (At.sub 1 1 at142))) rfl rfl fun a E=>qao [9] (by kernel_rfl) rfl (qar ?_)
 ·refine wo rfl<|qan E qoP rfl (qiD N v12.mod r15 x95.Mod r134 e109 hG ok) rfl rfl ?_
  rintro _ w ⟨⟨rfl,ok⟩,r148⟩
  refine ⟨_,rfl,fun a E=>?_⟩
  refine wn<|qai (cl1 (cq le_m0 ok [0,1] rfl) (cq le_m0 ok [1] rfl)) fun hT=>kt 10 E rfl hT (y_qt rfl rfl e112) fun a E=>kt 16 E rfl hT (qfB rfl rfl) fun a E=>kt 17 E rfl hT (qae qhX rfl) fun a E=>qao [18] (by kernel_rfl) rfl (qar ?_)
  ·refine wo rfl<|qad E ok 0 rfl rfl rfl qaZ rfl rfl ⟨rfl,trivial⟩ rfl rfl fun w ok=>wn<|qai (cl2 (by kernel_rfl) (cq le_m0 ok [1] rfl)) fun hT=>qaV (by kernel_rfl) ?_
   exact ⟨rfl,⟨ok,E.keep [0,1,2,6,7,8],r14,(InR.wrap _ _)⟩⟩
def qiu (u:World) (m0:Mem) (S:Segs) (r:State2) (a:Act) (w:World):Prop :=
 ∃ m1 v0,m0.le m1 ∧ Ok u m1 S w ∧ a.defers = [] ∧ RVs Tryz.prog a w [.c 4 102 (.agg v0.toArray)] ∧ qeq m1 v0 r
theorem qeT (N:Nat) (vx_0:List Value) (x_0:Walker) (hx_0:qlB m0 vx_0 x_0) (vs_1:List Value) (s_1:State2) (hs_1:qeq m0 vs_1 s_1) {r:State2} (hF:qa9 N x_0 s_1 = some r) (hG:Glob u) (ok:Ok u m0 S w) :
  Calls Tryz.prog 56 [.agg vx_0.toArray,.agg vs_1.toArray].toArray w fun e w'=>∃ m1 v0,e = .returned (.agg v0.toArray) ∧ m0.le m1 ∧ Ok u m1 S w' ∧ qeq m1 v0 r:=by
 obtain ⟨c1,c3,rfl,h2,h4,r5,r6,r7,r8⟩:=hx_0
 obtain ⟨rfl,r9,r10,l11,r12,r13,r14,r15⟩:=hs_1
 have le_m0:=Mem.le.refl m0
 unfold qa9 at hF
 refine en (qiu u m0 S) r Tryz.func56 rfl rfl rfl (by rintro a w ⟨m1,v0,hle,ok,hd,hrv,h0⟩; exact qbG [.c 4 102 (.agg v0.toArray)] hd rfl hrv ⟨m1,v0,rfl,hle,ok,h0⟩) fun fin a E=>sg<|qbz E ok rfl rfl rfl fun b16 a w E ok=>qbz E ok rfl rfl rfl fun b17 a w E ok=>qax E ok qc0 rfl rfl fun b18 a w E ok=>wn<|sg<|lv E ok (qqd (ps:=[]) (qs:=[]) (cs:=[vb false,vb false,vb false,vb false,vb false,vb false,vb false]) qnI qeu rfl trivial rfl) fun a E=>qax E ok qnI rfl rfl fun b19 a w E ok=>qad E ok 0 rfl rfl rfl qqY rfl rfl ⟨rfl,rfl,rfl,rfl,rfl,rfl,rfl,trivial⟩ rfl rfl fun w ok=>wn<|wp_seq<|sg<|aw E rfl fun a E=>wp_block<|bd hF fun o22 hL hF=>qaE _ (fun (s:Int × Arr7_Bool) a w=>Ok u m0 ([(b19,oc 140 [vb s.2.e0,vb s.2.e1,vb s.2.e2,vb s.2.e3,vb s.2.e4,vb s.2.e5,vb s.2.e6])] :: [(b18,oc 102 [vi 0,vi 0,(vs ([])),vb false,vi 0,vi 0,vi 0,vi 0])] :: [(b17,oc 102 [vi s_1.phase,vi s_1.whole,vs s_1.truth,vb s_1.some,vi s_1.v,vi s_1.w,vi s_1.f,vi s_1.t])] :: [(b16,oc 100 [c1,c3,vi x_0.whole.bound,vi x_0.whole.mod,vi x_0.part.bound,vi x_0.part.mod])] :: S) w ∧ Env 53 a [(2,vp b16),(3,vp b17),(4,vp b18),(5,vp b19),(6,vi s.1)] ∧ InR .i64 s.1) (fun (b:Arr7_Bool) e a w=>e = (.exit 0) ∧ Ok u m0 ([(b19,oc 140 [vb b.e0,vb b.e1,vb b.e2,vb b.e3,vb b.e4,vb b.e5,vb b.e6])] :: [(b18,oc 102 [vi 0,vi 0,(vs ([])),vb false,vi 0,vi 0,vi 0,vi 0])] :: [(b17,oc 102 [vi s_1.phase,vi s_1.whole,vs s_1.truth,vb s_1.some,vi s_1.v,vi s_1.w,vi s_1.f,vi s_1.t])] :: [(b16,oc 100 [c1,c3,vi x_0.whole.bound,vi x_0.whole.mod,vi x_0.part.bound,vi x_0.part.mod])] :: S) w ∧ Env 53 a [(3,vp b17),(4,vp b18),(5,vp b19)]) ?_ ?_ N _ a w hL ⟨ok,E.keep [2,3,4,5,6],(ir 0)⟩
 ·rintro ⟨v24,v25⟩ a w r ⟨ok,E,r26⟩ hF
  replace hF:qbM N x_0 v24 v25 = some r:=hF
  unfold qbM at hF
  refine wp_seq<|sg<|mv E rfl fun a E=>fk E ok qhY qci rfl 3 rfl rfl fun a E=>lv E ok (qaD qa4 h4 rfl) fun a E=>lw E (qav rfl rfl) fun a E=>wn<|cg E rfl hF (fun c27 hF=>?_) fun c27 hF=>?_
  ·refine wp_exit<|qaA ?_
   cases hF
   exact so (⟨rfl,⟨ok,E.keep [3,4,5]⟩⟩)
  refine wp_skip<|qaa<|wp_seq<|wp_block<|qac<|fk E ok qhY qci rfl 3 rfl rfl fun a E=>mv E rfl fun a E=>?_
  obtain ⟨x28,e29,hF⟩:=bnd hF
  obtain ⟨b30,o31,es32,hl33,rr34,at35,yy36⟩:=ia E 16 17 qa4 h4 e29
  obtain ⟨c39,rfl,r37,r38,h40⟩:=rr34
  refine lv E ok (yy36 _ _) fun a E=>fv E qa2 rfl fun a E=>lv E ok (qaj qak rfl (qab.ro (At.sub 0 1 at35))) fun a E=>?_
  obtain ⟨x41,e42,hF⟩:=bnd hF
  replace e42:idx (Arr7_Bool.list v25) x28.Operand = some x41:=e42
  refine lv E ok (qb4 qeu rfl rfl (qaN e42).1 (qaN e42).2) fun a E=>?_
  obtain ⟨z43,e44,hF⟩:=bnd hF
  have h45:=Arr7_Bool.set_list e44
  have h46:=AllP.setI (q:=(fun _=>True)) (xs:=Arr7_Bool.list v25) ⟨trivial,trivial,trivial,trivial,trivial,trivial,trivial,trivial⟩ trivial h45
  refine qed (c:=[vb v25.e0,vb v25.e1,vb v25.e2,vb v25.e3,vb v25.e4,vb v25.e5,vb v25.e6]) (c':=[vb z43.e0,vb z43.e1,vb z43.e2,vb z43.e3,vb z43.e4,vb z43.e5,vb z43.e6]) E ok 0 rfl rfl rfl qjq rfl rfl ⟨rfl,trivial⟩ (qh7 (n:=7) (qaN e42).2 (Nat.le_of_ble_eq_true rfl)) (qju (f:=Value.bool) (pre:=[]) (post:=[]) (xs:=Arr7_Bool.list v25) (ys:=z43.list) rfl h45) rfl fun w ok=>wpList_nil<|qal<|qaa<|qac<|mv E rfl fun a E=>lw E (qaw rfl rfl (InR.inc r26 (qam h4) c27)) fun a E=>av E rfl fun a E=>wpList_nil ?_
  cases hF
  exact qas ⟨ok,E.keep [2,3,4,5,6],(InR.inc r26 (qam h4) c27)⟩
 intro e a w _ hO
 obtain ⟨rfl,ok,E⟩:=hO
 refine qaM<|qaa<|wp_seq<|sg<|lv E ok (qb4 qeu rfl rfl (by decide) (by decide)) fun a E=>ld E ok qbx 0 rfl rfl rfl fun a E=>lw E (qbu rfl) fun a E=>wn<|bd hF fun o47 hJ hF=>qaG (Q':=fun e a w=>e = .normal ∧ Ok u m0 ([(b19,oc 140 [vb o22.e0,vb o22.e1,vb o22.e2,vb o22.e3,vb o22.e4,vb o22.e5,vb o22.e6])] :: [(b18,oc 102 [vi 0,vi 0,(vs ([])),vb false,vi 0,vi 0,vi 0,vi 0])] :: [(b17,oc 102 [vi o47.phase,vi o47.whole,vs o47.truth,vb o47.some,vi o47.v,vi o47.w,vi o47.f,vi o47.t])] :: [(b16,oc 100 [c1,c3,vi x_0.whole.bound,vi x_0.whole.mod,vi x_0.part.bound,vi x_0.part.mod])] :: S) w ∧ Env 53 a [(3,vp b17),(4,vp b18),(5,vp b19)] ∧ InR .i64 o47.phase ∧ InR .i64 o47.whole ∧ o47.truth.length ≤ LIMS ∧ InR .i64 o47.v ∧ InR .i64 o47.w ∧ InR .i64 o47.f ∧ InR .i64 o47.t) ?_ ?_
 ·have hF:=hJ
  refine cg E rfl hF (fun c55 hF=>?_) fun c55 hF=>?_
  ·refine wp_skip ?_
   cases hF
   exact ⟨rfl,⟨ok,E.keep [3,4,5],r9,r10,l11,r12,r13,r14,r15⟩⟩
  refine qac<|fv E qff rfl fun a E=>qad E ok 2 rfl rfl rfl qjq rfl rfl ⟨rfl,trivial⟩ rfl rfl fun w ok=>wpList_nil ?_
  cases hF
  exact ⟨rfl,⟨ok,E.keep [3,4,5],r9,r10,l11,r12,r13,r14,r15⟩⟩
 intro e a w hO
 obtain ⟨rfl,ok,E,r56,r57,l58,r59,r60,r61,r62⟩:=hO
 refine qaa<|wp_seq<|sg<|lv E ok (qb4 qeu rfl rfl (by decide) (by decide)) fun a E=>ld E ok qbx 0 rfl rfl rfl fun a E=>lw E (qbu rfl) fun a E=>mv E rfl fun a E=>bw E 29 hF (fun c63 hF E=>?_) fun c63 hF E=>?_
 ·as_aux_lemma =>
   refine lsq E fun a E=>ls E fun a E=>pf E rfl rfl fun a E=>wn<|c_if E rfl (fun h=>by cases h) (fun _=>?_)
   refine wp_skip<|qaa<|wp_seq<|sg<|lv E ok (qb4 qeu rfl rfl (by decide) (by decide)) fun a E=>ld E ok qbx 0 rfl rfl rfl fun a E=>lw E (qbu rfl) fun a E=>wn<|bd hF fun o115 hJ hF=>qaG (Q':=fun e a w=>e = .normal ∧ Ok u m0 ([(b19,oc 140 [vb o22.e0,vb o22.e1,vb o22.e2,vb o22.e3,vb o22.e4,vb o22.e5,vb o22.e6])] :: [(b18,oc 102 [vi 0,vi 0,(vs ([])),vb false,vi 0,vi 0,vi 0,vi 0])] :: [(b17,oc 102 [vi o115.phase,vi o115.whole,vs o115.truth,vb o115.some,vi o115.v,vi o115.w,vi o115.f,vi o115.t])] :: [(b16,oc 100 [c1,c3,vi x_0.whole.bound,vi x_0.whole.mod,vi x_0.part.bound,vi x_0.part.mod])] :: S) w ∧ Env 53 a [(3,vp b17),(4,vp b18),(5,vp b19)] ∧ InR .i64 o115.phase ∧ InR .i64 o115.whole ∧ o115.truth.length ≤ LIMS ∧ InR .i64 o115.v ∧ InR .i64 o115.w ∧ InR .i64 o115.f ∧ InR .i64 o115.t) ?_ ?_
   ·have hF:=hJ
    refine cg E rfl hF (fun c123 hF=>?_) fun c123 hF=>?_
    ·refine wp_skip ?_
     cases hF
     exact ⟨rfl,⟨ok,E.keep [3,4,5],r56,r57,l58,r59,r60,r61,r62⟩⟩
    refine qac<|fv E qgG rfl fun a E=>qad E ok 2 rfl rfl rfl qaZ rfl rfl ⟨rfl,trivial⟩ rfl rfl fun w ok=>wpList_nil ?_
    cases hF
    exact ⟨rfl,⟨ok,E.keep [3,4,5],r56,r57,l58,r59,(ir 0),r61,r62⟩⟩
   intro e a w hO
   obtain ⟨rfl,ok,E,r124,r125,l126,r127,r128,r129,r130⟩:=hO
   refine qaa<|wp_seq<|sg<|lv E ok (qb4 qeu rfl rfl (by decide) (by decide)) fun a E=>ld E ok qbx 0 rfl rfl rfl fun a E=>lw E (qbu rfl) fun a E=>mv E rfl fun a E=>bw E 42 hF (fun c131 hF E=>?_) fun c131 hF E=>?_
   ·refine lsq E fun a E=>ls E fun a E=>pf E rfl rfl fun a E=>wn<|c_if E rfl (fun h=>by cases h) (fun _=>?_)
    refine wp_skip<|qaa<|wp_seq<|sg<|lv E ok (qb4 qeu rfl rfl (by decide) (by decide)) fun a E=>ld E ok qbx 0 rfl rfl rfl fun a E=>lw E (qbu rfl) fun a E=>wn<|cg E rfl hF (fun c149 hF=>?_) fun c149 hF=>?_
    ·refine wp_skip<|qaa<|sg<|lv E ok (qag (cs:=[vi o115.phase,vi o115.whole,vs o115.truth,vb o115.some,vi o115.v,vi o115.w,vi o115.f,vi o115.t]) qa3 rfl rfl (qab.own 2 rfl rfl)) fun a E=>qad E ok 1 rfl rfl rfl qbU rfl rfl ⟨rfl,rfl,rfl,rfl,rfl,rfl,rfl,rfl,trivial⟩ rfl rfl fun w ok=>wn<|wp_ret ?_
     exact fin hF ⟨m0,[vi o115.phase,vi o115.whole,vs o115.truth,vb o115.some,vi o115.v,vi o115.w,vi o115.f,vi o115.t],le_m0,ok.drop.drop.drop.drop,E.d,⟨rv_c (cs:=[vi o115.phase,vi o115.whole,vs o115.truth,vb o115.some,vi o115.v,vi o115.w,vi o115.f,vi o115.t]) E ok rfl qa3 rfl (qab.own 1 rfl rfl),trivial⟩,⟨rfl,r124,r125,l126,r127,r128,r129,r130⟩⟩
    refine qac<|fv E qfG rfl fun a E=>qad E ok 2 rfl rfl rfl qaZ rfl rfl ⟨rfl,trivial⟩ rfl rfl fun w ok=>wn<|sg<|lv E ok (qag (cs:=[vi o115.phase,vi o115.whole,vs o115.truth,vb o115.some,vi o115.v,vi o115.w,vi o115.f,vi 0]) qa3 rfl rfl (qab.own 2 rfl rfl)) fun a E=>qad E ok 1 rfl rfl rfl qbU rfl rfl ⟨rfl,rfl,rfl,rfl,rfl,rfl,rfl,rfl,trivial⟩ rfl rfl fun w ok=>wn<|wp_ret ?_
    exact fin hF ⟨m0,[vi o115.phase,vi o115.whole,vs o115.truth,vb o115.some,vi o115.v,vi o115.w,vi o115.f,vi 0],le_m0,ok.drop.drop.drop.drop,E.d,⟨rv_c (cs:=[vi o115.phase,vi o115.whole,vs o115.truth,vb o115.some,vi o115.v,vi o115.w,vi o115.f,vi 0]) E ok rfl qa3 rfl (qab.own 1 rfl rfl),trivial⟩,⟨rfl,r124,r125,l126,r127,r128,r129,(ir 0)⟩⟩
   refine lv E ok (qb4 qeu rfl rfl (by decide) (by decide)) fun a E=>ld E ok qbx 0 rfl rfl rfl fun a E=>lw E (qbu rfl) fun a E=>pt E rfl rfl fun a E=>wn<|bd hF fun o132 hJ hF=>qaG (Q':=fun e a w=>e = .normal ∧ Ok u m0 ([(b19,oc 140 [vb o22.e0,vb o22.e1,vb o22.e2,vb o22.e3,vb o22.e4,vb o22.e5,vb o22.e6])] :: [(b18,oc 102 [vi 0,vi 0,(vs ([])),vb false,vi 0,vi 0,vi 0,vi 0])] :: [(b17,oc 102 [vi o132.phase,vi o132.whole,vs o132.truth,vb o132.some,vi o132.v,vi o132.w,vi o132.f,vi o132.t])] :: [(b16,oc 100 [c1,c3,vi x_0.whole.bound,vi x_0.whole.mod,vi x_0.part.bound,vi x_0.part.mod])] :: S) w ∧ Env 53 a [(3,vp b17),(4,vp b18),(5,vp b19)] ∧ InR .i64 o132.phase ∧ InR .i64 o132.whole ∧ o132.truth.length ≤ LIMS ∧ InR .i64 o132.v ∧ InR .i64 o132.w ∧ InR .i64 o132.f ∧ InR .i64 o132.t) ?_ ?_
   ·have hF:=hJ
    refine cg E rfl hF (fun c140 hF=>?_) fun c140 hF=>?_
    ·refine wp_skip ?_
     cases hF
     exact ⟨rfl,⟨ok,E.keep [3,4,5],r124,r125,l126,r127,r128,r129,r130⟩⟩
    refine qac<|fv E qds rfl fun a E=>qad E ok 2 rfl rfl rfl qaZ rfl rfl ⟨rfl,trivial⟩ rfl rfl fun w ok=>wpList_nil ?_
    cases hF
    exact ⟨rfl,⟨ok,E.keep [3,4,5],r124,r125,l126,r127,r128,(ir 0),r130⟩⟩
   intro e a w hO
   obtain ⟨rfl,ok,E,r141,r142,l143,r144,r145,r146,r147⟩:=hO
   refine qaa<|wp_seq<|sg<|lv E ok (qb4 qeu rfl rfl (by decide) (by decide)) fun a E=>ld E ok qbx 0 rfl rfl rfl fun a E=>lw E (qbu rfl) fun a E=>wn<|cg E rfl hF (fun c148 hF=>?_) fun c148 hF=>?_
   ·refine wp_skip<|qaa<|sg<|lv E ok (qag (cs:=[vi o132.phase,vi o132.whole,vs o132.truth,vb o132.some,vi o132.v,vi o132.w,vi o132.f,vi o132.t]) qa3 rfl rfl (qab.own 2 rfl rfl)) fun a E=>qad E ok 1 rfl rfl rfl qbU rfl rfl ⟨rfl,rfl,rfl,rfl,rfl,rfl,rfl,rfl,trivial⟩ rfl rfl fun w ok=>wn<|wp_ret ?_
    exact fin hF ⟨m0,[vi o132.phase,vi o132.whole,vs o132.truth,vb o132.some,vi o132.v,vi o132.w,vi o132.f,vi o132.t],le_m0,ok.drop.drop.drop.drop,E.d,⟨rv_c (cs:=[vi o132.phase,vi o132.whole,vs o132.truth,vb o132.some,vi o132.v,vi o132.w,vi o132.f,vi o132.t]) E ok rfl qa3 rfl (qab.own 1 rfl rfl),trivial⟩,⟨rfl,r141,r142,l143,r144,r145,r146,r147⟩⟩
   refine qac<|fv E qfG rfl fun a E=>qad E ok 2 rfl rfl rfl qaZ rfl rfl ⟨rfl,trivial⟩ rfl rfl fun w ok=>wn<|sg<|lv E ok (qag (cs:=[vi o132.phase,vi o132.whole,vs o132.truth,vb o132.some,vi o132.v,vi o132.w,vi o132.f,vi 0]) qa3 rfl rfl (qab.own 2 rfl rfl)) fun a E=>qad E ok 1 rfl rfl rfl qbU rfl rfl ⟨rfl,rfl,rfl,rfl,rfl,rfl,rfl,rfl,trivial⟩ rfl rfl fun w ok=>wn<|wp_ret ?_
   exact fin hF ⟨m0,[vi o132.phase,vi o132.whole,vs o132.truth,vb o132.some,vi o132.v,vi o132.w,vi o132.f,vi 0],le_m0,ok.drop.drop.drop.drop,E.d,⟨rv_c (cs:=[vi o132.phase,vi o132.whole,vs o132.truth,vb o132.some,vi o132.v,vi o132.w,vi o132.f,vi 0]) E ok rfl qa3 rfl (qab.own 1 rfl rfl),trivial⟩,⟨rfl,r141,r142,l143,r144,r145,r146,(ir 0)⟩⟩
 refine lv E ok (qb4 qeu rfl rfl (by decide) (by decide)) fun a E=>ld E ok qbx 0 rfl rfl rfl fun a E=>lw E (qbu rfl) fun a E=>pt E rfl rfl fun a E=>wn<|bd hF fun o64 hJ hF=>qaG (Q':=fun e a w=>e = .normal ∧ Ok u m0 ([(b19,oc 140 [vb o22.e0,vb o22.e1,vb o22.e2,vb o22.e3,vb o22.e4,vb o22.e5,vb o22.e6])] :: [(b18,oc 102 [vi 0,vi 0,(vs ([])),vb false,vi 0,vi 0,vi 0,vi 0])] :: [(b17,oc 102 [vi o64.phase,vi o64.whole,vs o64.truth,vb o64.some,vi o64.v,vi o64.w,vi o64.f,vi o64.t])] :: [(b16,oc 100 [c1,c3,vi x_0.whole.bound,vi x_0.whole.mod,vi x_0.part.bound,vi x_0.part.mod])] :: S) w ∧ Env 53 a [(3,vp b17),(4,vp b18),(5,vp b19)] ∧ InR .i64 o64.phase ∧ InR .i64 o64.whole ∧ o64.truth.length ≤ LIMS ∧ InR .i64 o64.v ∧ InR .i64 o64.w ∧ InR .i64 o64.f ∧ InR .i64 o64.t) ?_ ?_
 ·have hF:=hJ
  refine cg E rfl hF (fun c72 hF=>?_) fun c72 hF=>?_
  ·refine wp_skip ?_
   cases hF
   exact ⟨rfl,⟨ok,E.keep [3,4,5],r56,r57,l58,r59,r60,r61,r62⟩⟩
  refine qac<|fv E qdN rfl fun a E=>qad E ok 2 rfl rfl rfl qaZ rfl rfl ⟨rfl,trivial⟩ rfl rfl fun w ok=>wpList_nil ?_
  cases hF
  exact ⟨rfl,⟨ok,E.keep [3,4,5],r56,r57,l58,(ir 0),r60,r61,r62⟩⟩
 intro e a w hO
 obtain ⟨rfl,ok,E,r73,r74,l75,r76,r77,r78,r79⟩:=hO
 refine qaa<|wp_seq<|sg<|lv E ok (qb4 qeu rfl rfl (by decide) (by decide)) fun a E=>ld E ok qbx 0 rfl rfl rfl fun a E=>lw E (qbu rfl) fun a E=>wn<|bd hF fun o80 hJ hF=>qaG (Q':=fun e a w=>e = .normal ∧ Ok u m0 ([(b19,oc 140 [vb o22.e0,vb o22.e1,vb o22.e2,vb o22.e3,vb o22.e4,vb o22.e5,vb o22.e6])] :: [(b18,oc 102 [vi 0,vi 0,(vs ([])),vb false,vi 0,vi 0,vi 0,vi 0])] :: [(b17,oc 102 [vi o80.phase,vi o80.whole,vs o80.truth,vb o80.some,vi o80.v,vi o80.w,vi o80.f,vi o80.t])] :: [(b16,oc 100 [c1,c3,vi x_0.whole.bound,vi x_0.whole.mod,vi x_0.part.bound,vi x_0.part.mod])] :: S) w ∧ Env 53 a [(3,vp b17),(4,vp b18),(5,vp b19)] ∧ InR .i64 o80.phase ∧ InR .i64 o80.whole ∧ o80.truth.length ≤ LIMS ∧ InR .i64 o80.v ∧ InR .i64 o80.w ∧ InR .i64 o80.f ∧ InR .i64 o80.t) ?_ ?_
 ·have hF:=hJ
  refine cg E rfl hF (fun c88 hF=>?_) fun c88 hF=>?_
  ·refine wp_skip ?_
   cases hF
   exact ⟨rfl,⟨ok,E.keep [3,4,5],r73,r74,l75,r76,r77,r78,r79⟩⟩
  refine qac<|fv E qgG rfl fun a E=>qad E ok 2 rfl rfl rfl qaZ rfl rfl ⟨rfl,trivial⟩ rfl rfl fun w ok=>wpList_nil ?_
  cases hF
  exact ⟨rfl,⟨ok,E.keep [3,4,5],r73,r74,l75,r76,(ir 0),r78,r79⟩⟩
 intro e a w hO
 obtain ⟨rfl,ok,E,r89,r90,l91,r92,r93,r94,r95⟩:=hO
 refine qaa<|wp_seq<|sg<|lv E ok (qb4 qeu rfl rfl (by decide) (by decide)) fun a E=>ld E ok qbx 0 rfl rfl rfl fun a E=>lw E (qbu rfl) fun a E=>mv E rfl fun a E=>bw E 42 hF (fun c96 hF E=>?_) fun c96 hF E=>?_
 ·refine lsq E fun a E=>ls E fun a E=>pf E rfl rfl fun a E=>wn<|c_if E rfl (fun h=>by cases h) (fun _=>?_)
  refine wp_skip<|qaa<|wp_seq<|sg<|lv E ok (qb4 qeu rfl rfl (by decide) (by decide)) fun a E=>ld E ok qbx 0 rfl rfl rfl fun a E=>lw E (qbu rfl) fun a E=>wn<|cg E rfl hF (fun c114 hF=>?_) fun c114 hF=>?_
  ·refine wp_skip<|qaa<|sg<|lv E ok (qag (cs:=[vi o80.phase,vi o80.whole,vs o80.truth,vb o80.some,vi o80.v,vi o80.w,vi o80.f,vi o80.t]) qa3 rfl rfl (qab.own 2 rfl rfl)) fun a E=>qad E ok 1 rfl rfl rfl qbU rfl rfl ⟨rfl,rfl,rfl,rfl,rfl,rfl,rfl,rfl,trivial⟩ rfl rfl fun w ok=>wn<|wp_ret ?_
   exact fin hF ⟨m0,[vi o80.phase,vi o80.whole,vs o80.truth,vb o80.some,vi o80.v,vi o80.w,vi o80.f,vi o80.t],le_m0,ok.drop.drop.drop.drop,E.d,⟨rv_c (cs:=[vi o80.phase,vi o80.whole,vs o80.truth,vb o80.some,vi o80.v,vi o80.w,vi o80.f,vi o80.t]) E ok rfl qa3 rfl (qab.own 1 rfl rfl),trivial⟩,⟨rfl,r89,r90,l91,r92,r93,r94,r95⟩⟩
  refine qac<|fv E qfG rfl fun a E=>qad E ok 2 rfl rfl rfl qaZ rfl rfl ⟨rfl,trivial⟩ rfl rfl fun w ok=>wn<|sg<|lv E ok (qag (cs:=[vi o80.phase,vi o80.whole,vs o80.truth,vb o80.some,vi o80.v,vi o80.w,vi o80.f,vi 0]) qa3 rfl rfl (qab.own 2 rfl rfl)) fun a E=>qad E ok 1 rfl rfl rfl qbU rfl rfl ⟨rfl,rfl,rfl,rfl,rfl,rfl,rfl,rfl,trivial⟩ rfl rfl fun w ok=>wn<|wp_ret ?_
  exact fin hF ⟨m0,[vi o80.phase,vi o80.whole,vs o80.truth,vb o80.some,vi o80.v,vi o80.w,vi o80.f,vi 0],le_m0,ok.drop.drop.drop.drop,E.d,⟨rv_c (cs:=[vi o80.phase,vi o80.whole,vs o80.truth,vb o80.some,vi o80.v,vi o80.w,vi o80.f,vi 0]) E ok rfl qa3 rfl (qab.own 1 rfl rfl),trivial⟩,⟨rfl,r89,r90,l91,r92,r93,r94,(ir 0)⟩⟩
 refine lv E ok (qb4 qeu rfl rfl (by decide) (by decide)) fun a E=>ld E ok qbx 0 rfl rfl rfl fun a E=>lw E (qbu rfl) fun a E=>pt E rfl rfl fun a E=>wn<|bd hF fun o97 hJ hF=>qaG (Q':=fun e a w=>e = .normal ∧ Ok u m0 ([(b19,oc 140 [vb o22.e0,vb o22.e1,vb o22.e2,vb o22.e3,vb o22.e4,vb o22.e5,vb o22.e6])] :: [(b18,oc 102 [vi 0,vi 0,(vs ([])),vb false,vi 0,vi 0,vi 0,vi 0])] :: [(b17,oc 102 [vi o97.phase,vi o97.whole,vs o97.truth,vb o97.some,vi o97.v,vi o97.w,vi o97.f,vi o97.t])] :: [(b16,oc 100 [c1,c3,vi x_0.whole.bound,vi x_0.whole.mod,vi x_0.part.bound,vi x_0.part.mod])] :: S) w ∧ Env 53 a [(3,vp b17),(4,vp b18),(5,vp b19)] ∧ InR .i64 o97.phase ∧ InR .i64 o97.whole ∧ o97.truth.length ≤ LIMS ∧ InR .i64 o97.v ∧ InR .i64 o97.w ∧ InR .i64 o97.f ∧ InR .i64 o97.t) ?_ ?_
 ·have hF:=hJ
  refine cg E rfl hF (fun c105 hF=>?_) fun c105 hF=>?_
  ·refine wp_skip ?_
   cases hF
   exact ⟨rfl,⟨ok,E.keep [3,4,5],r89,r90,l91,r92,r93,r94,r95⟩⟩
  refine qac<|fv E qds rfl fun a E=>qad E ok 2 rfl rfl rfl qaZ rfl rfl ⟨rfl,trivial⟩ rfl rfl fun w ok=>wpList_nil ?_
  cases hF
  exact ⟨rfl,⟨ok,E.keep [3,4,5],r89,r90,l91,r92,r93,(ir 0),r95⟩⟩
 intro e a w hO
 obtain ⟨rfl,ok,E,r106,r107,l108,r109,r110,r111,r112⟩:=hO
 refine qaa<|wp_seq<|sg<|lv E ok (qb4 qeu rfl rfl (by decide) (by decide)) fun a E=>ld E ok qbx 0 rfl rfl rfl fun a E=>lw E (qbu rfl) fun a E=>wn<|cg E rfl hF (fun c113 hF=>?_) fun c113 hF=>?_
 ·refine wp_skip<|qaa<|sg<|lv E ok (qag (cs:=[vi o97.phase,vi o97.whole,vs o97.truth,vb o97.some,vi o97.v,vi o97.w,vi o97.f,vi o97.t]) qa3 rfl rfl (qab.own 2 rfl rfl)) fun a E=>qad E ok 1 rfl rfl rfl qbU rfl rfl ⟨rfl,rfl,rfl,rfl,rfl,rfl,rfl,rfl,trivial⟩ rfl rfl fun w ok=>wn<|wp_ret ?_
  exact fin hF ⟨m0,[vi o97.phase,vi o97.whole,vs o97.truth,vb o97.some,vi o97.v,vi o97.w,vi o97.f,vi o97.t],le_m0,ok.drop.drop.drop.drop,E.d,⟨rv_c (cs:=[vi o97.phase,vi o97.whole,vs o97.truth,vb o97.some,vi o97.v,vi o97.w,vi o97.f,vi o97.t]) E ok rfl qa3 rfl (qab.own 1 rfl rfl),trivial⟩,⟨rfl,r106,r107,l108,r109,r110,r111,r112⟩⟩
 refine qac<|fv E qfG rfl fun a E=>qad E ok 2 rfl rfl rfl qaZ rfl rfl ⟨rfl,trivial⟩ rfl rfl fun w ok=>wn<|sg<|lv E ok (qag (cs:=[vi o97.phase,vi o97.whole,vs o97.truth,vb o97.some,vi o97.v,vi o97.w,vi o97.f,vi 0]) qa3 rfl rfl (qab.own 2 rfl rfl)) fun a E=>qad E ok 1 rfl rfl rfl qbU rfl rfl ⟨rfl,rfl,rfl,rfl,rfl,rfl,rfl,rfl,trivial⟩ rfl rfl fun w ok=>wn<|wp_ret ?_
 exact fin hF ⟨m0,[vi o97.phase,vi o97.whole,vs o97.truth,vb o97.some,vi o97.v,vi o97.w,vi o97.f,vi 0],le_m0,ok.drop.drop.drop.drop,E.d,⟨rv_c (cs:=[vi o97.phase,vi o97.whole,vs o97.truth,vb o97.some,vi o97.v,vi o97.w,vi o97.f,vi 0]) E ok rfl qa3 rfl (qab.own 1 rfl rfl),trivial⟩,⟨rfl,r106,r107,l108,r109,r110,r111,(ir 0)⟩⟩
def qiq (u:World) (m0:Mem) (S:Segs) (r:Int) (a:Act) (w:World):Prop :=
 Ok u m0 S w ∧ a.defers = [] ∧ RVs Tryz.prog a w [.t 4 (.int .i64 r)] ∧ InR .i64 r
theorem qcO (N:Nat) (vx_0:List Value) (x_0:Reduction) (hx_0:qke m0 vx_0 x_0) (n_1:Int) (rn_1:InR .i64 n_1) {r:Int} (hF:qbi N x_0 n_1 = some r) (hG:Glob u) (ok:Ok u m0 S w) :
  Calls Tryz.prog 90 [.agg vx_0.toArray,vi n_1].toArray w fun e w'=>(e = .returned (.int .i64 r) ∧ Ok u m0 S w') ∧ InR .i64 r:=by
 obtain ⟨rfl,r1,r2⟩:=hx_0
 unfold qbi at hF
 refine en (qiq u m0 S) r Tryz.func90 rfl rfl rfl (fun _ _ h=>rb h rfl) fun fin a E=>sg<|qbz E ok rfl rfl rfl fun b3 a w E ok=>aw E rfl fun a E=>wp_seq<|sg<|mv E rfl fun a E=>fk E ok qhV qak rfl 0 rfl rfl fun a E=>lw E (qeC rfl rfl) fun a E=>wn<|cf E rfl hF (fun c4 hF=>?_) fun c4 hF=>?_
 ·refine sg<|mv E rfl fun a E=>aw E rfl fun a E=>wp_ret<|qaq ?_
  exact fin hF ⟨ok.drop,E.d,rz E rfl,rn_1⟩
 refine wp_skip<|qaa<|wp_seq<|qdc (by kernel_rfl) (by kernel_rfl) ok<|qv E (qae qhV rfl) fun a E=>qv E (qaj qak rfl (qab.own 0 rfl rfl)) fun a E=>qv E (qbq rfl rfl) fun a E=>qv E (qah rfl) fun a E=>qv E (qae qhV rfl) fun a E=>qv E (qaj qak rfl (qab.own 0 rfl rfl)) fun a E=>qv E (qhI rfl rfl) fun a E=>qv E (qhI rfl rfl) fun a E=>qv E (qae qhX rfl) fun a E=>qv E (qaj qak rfl (qab.own 0 rfl rfl)) fun a E=>?_
 refine bd hF fun q5 e6 hF=>qv E (y_rm rfl rfl e6) fun a E=>qv E (qbq rfl rfl) fun a E=>qv E (qcZ rfl) fun a E=>wpQuiet_nil ?_
 intro w ok
 refine qaa<|wp_ret ?_
 exact fin hF ⟨ok.drop,E.d,rz E rfl,(InR.wrap _ _)⟩
def qhJ (u:World) (m0:Mem) (S:Segs) (r:Bool) (a:Act) (w:World):Prop :=
 Ok u m0 S w ∧ a.defers = [] ∧ RVs Tryz.prog a w [.t 4 (.bool r)]
theorem qko (N:Nat) (vl_0:Value) (l_0:List (Span)) (hl_0:(pL 2 qdI) m0 [vl_0] l_0) (n_1:Int) (rn_1:InR .i64 n_1) {r:Bool} (hF:qeP N l_0 n_1 = some r) (hG:Glob u) (ok:Ok u m0 S w) :
  Calls Tryz.prog 121 [vl_0,vi n_1].toArray w fun e w'=>(e = .returned (.bool r) ∧ Ok u m0 S w'):=by
 unfold qeP at hF
 refine en (qhJ u m0 S) r Tryz.func121 rfl rfl rfl (fun _ _ h=>ra h rfl) fun fin a E=>sg<|aw E rfl fun a E=>wp_seq<|sg<|aw E rfl fun a E=>wp_block<|bd hF fun o2 hL hF=>qaE _ (fun (s:Int) a w=>Ok u m0 (S) w ∧ Env 28 a [(0,vl_0),(1,vi n_1),(5,vi s)] ∧ InR .i64 s) (fun (b:(Unit ⊕ Bool)) e a w=>(Sum.elim (fun b31=>e = (.exit 0) ∧ Ok u m0 (S) w ∧ Env 28 a []) (fun b32=>e = .ret ∧ qhJ u m0 S b32 a w)) b) ?_ ?_ N _ a w hL ⟨ok,E.keep [0,1,5],(ir 0)⟩
 rotate_left
 ·intro e a w _ hO
  rcases o2 with o2 | o2
  rotate_left
  ·obtain ⟨rfl,hret⟩:=hO
   refine qaz<|qaq ?_
   exact fin hF hret
  have hF:=qca hF
  obtain ⟨rfl,ok,E⟩:=hO
  refine qaM<|qaa<|sg<|aw E rfl fun a E=>wp_ret ?_
  exact fin hF ⟨ok,E.d,rz E rfl⟩
 rintro v4 a w r ⟨ok,E,r5⟩ hF
 replace hF:qdW N l_0 n_1 v4 = some r:=hF
 unfold qdW at hF
 refine wp_seq<|sg<|mz E rfl rfl fun a E=>lv E ok (qaD qbO hl_0 rfl) fun a E=>lw E (qav rfl rfl) fun a E=>wn<|cg E rfl hF (fun c6 hF=>?_) fun c6 hF=>?_
 ·refine wp_exit<|qaA ?_
  cases hF
  exact so (sl ⟨rfl,⟨ok,E.keep []⟩⟩)
 refine wp_skip<|qaa<|wp_seq<|wp_block<|sg<|mz E rfl rfl fun a E=>mv E rfl fun a E=>?_
 obtain ⟨x7,e8,hF⟩:=bnd hF
 obtain ⟨b9,o10,es11,hl12,rr13,at14,yy15⟩:=ia E 13 14 qbO hl_0 e8
 obtain ⟨rfl,r16,r17⟩:=rr13
 refine lv E ok (yy15 _ _) fun a E=>fv E qeS rfl fun a E=>lv E ok (qaj qak rfl (qab.ro (At.sub 0 1 at14))) fun a E=>lw E (qev rfl rfl) fun a E=>mv E rfl fun a E=>bw E 19 hF (fun c18 hF E=>?_) fun c18 hF E=>?_
 ·refine lsz E fun a E=>lsq E fun a E=>ls E fun a E=>pf E rfl rfl fun a E=>wn<|c_if E rfl (fun h=>by cases h) (fun _=>?_)
  refine wp_skip<|qal<|qaa<|qac<|mv E rfl fun a E=>lw E (qaw rfl rfl (InR.inc r5 (qam hl_0) c6)) fun a E=>av E rfl fun a E=>wpList_nil ?_
  cases hF
  exact qas ⟨ok,E.keep [0,1,5],(InR.inc r5 (qam hl_0) c6)⟩
 refine mz E rfl rfl fun a E=>mv E rfl fun a E=>?_
 obtain ⟨x19,e20,hF⟩:=bnd hF
 obtain ⟨b21,o22,es23,hl24,rr25,at26,yy27⟩:=ia E 21 22 qbO hl_0 e20
 obtain ⟨rfl,r28,r29⟩:=rr25
 refine lv E ok (yy27 _ _) fun a E=>fv E qdK rfl fun a E=>lv E ok (qaj qak rfl (qab.ro (At.sub 1 1 at26))) fun a E=>lw E (qeC rfl rfl) fun a E=>pt E rfl rfl fun a E=>wn<|cg E rfl hF (fun c30 hF=>?_) fun c30 hF=>?_
 ·refine wp_skip<|qal<|qaa<|qac<|mv E rfl fun a E=>lw E (qaw rfl rfl (InR.inc r5 (qam hl_0) c6)) fun a E=>av E rfl fun a E=>wpList_nil ?_
  cases hF
  exact qas ⟨ok,E.keep [0,1,5],(InR.inc r5 (qam hl_0) c6)⟩
 refine sg<|aw E rfl fun a E=>wp_ret<|qaz<|qaq ?_
 cases hF
 exact so (sr ⟨rfl,⟨ok,E.d,rz E rfl⟩⟩)
def qkV (u:World) (m0:Mem) (S:Segs) (r:Bool) (a:Act) (w:World):Prop :=
 Ok u m0 S w ∧ a.defers = [] ∧ RVs Tryz.prog a w [.t 4 (.bool r)]
theorem qb6 (N:Nat) (vr_0:List Value) (r_0:Relation) (hr_0:qap m0 vr_0 r_0) (n_1:Int) (rn_1:InR .i64 n_1) {r:Bool} (hF:qba N r_0 n_1 = some r) (hG:Glob u) (ok:Ok u m0 S w) :
  Calls Tryz.prog 92 [.agg vr_0.toArray,vi n_1].toArray w fun e w'=>(e = .returned (.bool r) ∧ Ok u m0 S w'):=by
 obtain ⟨c3,rfl,r1,r2,h4⟩:=hr_0
 unfold qba at hF
 refine en (qkV u m0 S) r Tryz.func92 rfl rfl rfl (fun _ _ h=>ra h rfl) fun fin a E=>sg<|qbz E ok rfl rfl rfl fun b5 a w E ok=>aw E rfl fun a E=>wp_seq<|sg<|fk E ok qcn qak rfl 0 rfl rfl fun a E=>lw E (qb7 rfl rfl) fun a E=>wn<|bd hF fun o6 hJ hF=>qaG (Q':=fun e a w=>e = .normal ∧ Ok u m0 ([(b5,oc 69 [vi r_0.Operand,vi r_0.Mod,vb r_0.Not,c3])] :: S) w ∧ Env 19 a [(1,vi o6),(2,vp b5)] ∧ InR .i64 o6) ?_ ?_
 ·have hF:=hJ
  refine cg E rfl hF (fun c8 hF=>?_) fun c8 hF=>?_
  ·refine wp_skip ?_
   cases hF
   exact ⟨rfl,⟨ok,E.keep [1,2],rn_1⟩⟩
  refine qac<|mv E rfl fun a E=>fk E ok qcn qak rfl 0 rfl rfl fun a E=>bd hF fun q9 e10 hF=>lw E (y_rm rfl rfl e10) fun a E=>av E rfl fun a E=>wpList_nil ?_
  cases hF
  exact ⟨rfl,⟨ok,E.keep [1,2],(qnP e10 rn_1)⟩⟩
 intro e a w hO
 obtain ⟨rfl,ok,E,r11⟩:=hO
 refine qaa<|wp_seq<|qdc (by kernel_rfl) (by kernel_rfl) ok<|qv E (qae qbs rfl) fun a E=>qv E (qaj qb3 rfl (qab.own 0 rfl rfl)) fun a E=>qv E (qah rfl) fun a E=>bd hF fun r12 e13 hF=>qgn E qrO rfl (fun w ok=>(qko N _ r_0.Spans h4 o6 r11 e13 hG ok).mono (fun _ _ h=>h)) rfl rfl fun a E=>qv E (qae qe9 rfl) fun a E=>qv E (qaj qbx rfl (qab.own 0 rfl rfl)) fun a E=>qv E (qnU Tryz.underlying4 rfl rfl) fun a E=>qv E (qcZ rfl) fun a E=>wpQuiet_nil ?_
 intro w ok
 refine qaa<|wp_ret ?_
 exact fin hF ⟨ok.drop,E.d,rz E rfl⟩
def qik (u:World) (m0:Mem) (S:Segs) (r:(List UInt8)) (a:Act) (w:World):Prop :=
 Ok u m0 S w ∧ a.defers = [] ∧ RVs Tryz.prog a w [.t 4 (.string (bs r))] ∧ r.length ≤ LIMS
theorem qdu (N:Nat) (vx_0:List Value) (x_0:Walker) (hx_0:qlB m0 vx_0 x_0) (n_1:Int) (rn_1:InR .i64 n_1) {r:(List UInt8)} (hF:qbn N x_0 n_1 = some r) (hG:Glob u) (ok:Ok u m0 S w) :
  Calls Tryz.prog 91 [.agg vx_0.toArray,vi n_1].toArray w fun e w'=>(e = .returned (.string (bs r)) ∧ Ok u m0 S w') ∧ r.length ≤ LIMS:=by
 obtain ⟨c1,c3,rfl,h2,h4,r5,r6,r7,r8⟩:=hx_0
 unfold qbn at hF
 refine en (qik u m0 S) r Tryz.func91 rfl rfl rfl (fun _ _ h=>rb h rfl) fun fin a E=>sg<|qbz E ok rfl rfl rfl fun b9 a w E ok=>aw E rfl fun a E=>sg<|aw E rfl fun a E=>wp_seq<|sg<|av E rfl fun a E=>wn<|wp_block<|bd hF fun o12 hL hF=>qaE _ (fun (s:(List UInt8) × Int) a w=>Ok u m0 ([(b9,oc 100 [c1,c3,vi x_0.whole.bound,vi x_0.whole.mod,vi x_0.part.bound,vi x_0.part.mod])] :: S) w ∧ Env 33 a [(1,vi n_1),(2,vp b9),(5,vs s.1),(6,vi s.2)] ∧ s.1.length ≤ LIMS ∧ InR .i64 s.2) (fun (b:((List UInt8))) e a w=>e = (.exit 0) ∧ Ok u m0 ([(b9,oc 100 [c1,c3,vi x_0.whole.bound,vi x_0.whole.mod,vi x_0.part.bound,vi x_0.part.mod])] :: S) w ∧ Env 33 a [(5,vs b)] ∧ b.length ≤ LIMS) ?_ ?_ N _ a w hL ⟨ok,E.keep [1,2,5,6],(show ([]:List UInt8).length ≤ LIMS by decide),(ir 0)⟩
 rotate_left
 ·intro e a w _ hO
  obtain ⟨rfl,ok,E,l44⟩:=hO
  refine qaM<|qaa<|sg<|mv E rfl fun a E=>aw E rfl fun a E=>wp_ret ?_
  exact fin hF ⟨ok.drop,E.d,rz E rfl,l44⟩
 rintro ⟨v15,v16⟩ a w r ⟨ok,E,l17,r18⟩ hF
 replace hF:qbI N x_0 n_1 v15 v16 = some r:=hF
 unfold qbI at hF
 refine wp_seq<|sg<|mv E rfl fun a E=>fk E ok qhY qci rfl 0 rfl rfl fun a E=>lv E ok (qaD qa4 h4 rfl) fun a E=>lw E (qav rfl rfl) fun a E=>wn<|cg E rfl hF (fun c19 hF=>?_) fun c19 hF=>?_
 ·refine wp_exit<|qaA ?_
  cases hF
  exact so (⟨rfl,⟨ok,E.keep [5],l17⟩⟩)
 refine wp_skip<|qaa<|wp_seq<|wp_block<|sg<|fk E ok qhY qci rfl 0 rfl rfl fun a E=>mv E rfl fun a E=>?_
 obtain ⟨x20,e21,hF⟩:=bnd hF
 obtain ⟨b22,o23,es24,hl25,rr26,at27,yy28⟩:=ia E 17 18 qa4 h4 e21
 obtain ⟨c31,rfl,r29,r30,h32⟩:=rr26
 refine lv E ok (yy28 _ _) fun a E=>lv E ok (qag (cs:=[vi x20.Operand,vi x20.Mod,vb x20.Not,c31]) qbc rfl rfl (qab.ro at27)) fun a E=>qax E ok qcU rfl rfl fun b33 a w E ok=>qad E ok 0 rfl rfl rfl qfF rfl rfl ⟨rfl,rfl,rfl,(qa5 h32),trivial⟩ rfl rfl fun w ok=>wn<|sg<|aw E rfl fun a E=>wp_seq<|sg<|fk E ok qa2 qak rfl 0 rfl rfl fun a E=>lw E (qeC rfl rfl) fun a E=>mv E rfl fun a E=>bw E 24 hF (fun c34 hF E=>?_) fun c34 hF E=>?_
 ·refine lsq E fun a E=>ls E fun a E=>pf E rfl rfl fun a E=>wn<|c_if E rfl (fun h=>by cases h) (fun _=>?_)
  refine wp_skip<|qaa<|qac<|mz E rfl rfl fun a E=>bd hF fun s42 e43 hF=>lw E (qe1 rfl rfl e43) fun a E=>av E rfl fun a E=>wpList_nil<|qal<|qaa<|qac<|mv E rfl fun a E=>lw E (qaw rfl rfl (InR.inc r18 (qam h4) c19)) fun a E=>av E rfl fun a E=>wpList_nil ?_
  cases hF
  exact qas ⟨(ok.pk 2 [1] rfl (by decide)),E.keep [1,2,5,6],(qdX e43),(InR.inc r18 (qam h4) c19)⟩
 refine lv E ok (qag (cs:=[vi x20.Operand,vi x20.Mod,vb x20.Not,c31]) qbc rfl rfl (qab.own 0 rfl rfl)) fun a E=>mv E rfl fun a E=>bd hF fun r35 e36 hF=>lc E qiN rfl (qb6 N _ x20 ⟨_,rfl,r29,r30,h32⟩ n_1 rn_1 e36 hG ok) fun w ok a E=>pt E rfl rfl fun a E=>wn<|cg E rfl hF (fun c37 hF=>?_) fun c37 hF=>?_
 ·refine wp_skip<|qaa<|qac<|mz E rfl rfl fun a E=>bd hF fun s40 e41 hF=>lw E (qe1 rfl rfl e41) fun a E=>av E rfl fun a E=>wpList_nil<|qal<|qaa<|qac<|mv E rfl fun a E=>lw E (qaw rfl rfl (InR.inc r18 (qam h4) c19)) fun a E=>av E rfl fun a E=>wpList_nil ?_
  cases hF
  exact qas ⟨(ok.pk 2 [1] rfl (by decide)),E.keep [1,2,5,6],(qdX e41),(InR.inc r18 (qam h4) c19)⟩
 refine qac<|aw E rfl fun a E=>qac<|mz E rfl rfl fun a E=>bd hF fun s38 e39 hF=>lw E (qe1 rfl rfl e39) fun a E=>av E rfl fun a E=>wpList_nil<|qal<|qaa<|qac<|mv E rfl fun a E=>lw E (qaw rfl rfl (InR.inc r18 (qam h4) c19)) fun a E=>av E rfl fun a E=>wpList_nil ?_
 cases hF
 exact qas ⟨(ok.pk 2 [1] rfl (by decide)),E.keep [1,2,5,6],(qdX e39),(InR.inc r18 (qam h4) c19)⟩
end Go.Proofs.YtidfofhmnlhfjaaGreatDoor
namespace Go.Proofs.YtidfofhmnlhfjaaGreatDoor
open Go.X
variable {u:World} {m0:Mem} {S:Segs} {w:World}
set_option maxHeartbeats 4000000
set_option maxRecDepth 100000
def qiH (u:World) (m0:Mem) (S:Segs) (r:State2) (a:Act) (w:World):Prop :=
 ∃ m1 v0,m0.le m1 ∧ Ok u m1 S w ∧ a.defers = [] ∧ RVs Tryz.prog a w [.c 6 102 (.agg v0.toArray)] ∧ qeq m1 v0 r
theorem qgC (N:Nat) (vx_0:List Value) (x_0:Walker) (hx_0:qlB m0 vx_0 x_0) (vs_1:List Value) (s_1:State2) (hs_1:qeq m0 vs_1 s_1) (c_2:Int) (rc_2:InR .i64 c_2) {r:State2} (hF:qaQ N x_0 s_1 c_2 = some r) (hG:Glob u) (ok:Ok u m0 S w) :
  Calls Tryz.prog 57 [.agg vx_0.toArray,.agg vs_1.toArray,vi c_2].toArray w fun e w'=>∃ m1 v0,e = .returned (.agg v0.toArray) ∧ m0.le m1 ∧ Ok u m1 S w' ∧ qeq m1 v0 r:=by
 obtain ⟨c1,c3,rfl,h2,h4,r5,r6,r7,r8⟩:=hx_0
 obtain ⟨rfl,r9,r10,l11,r12,r13,r14,r15⟩:=hs_1
 have le_m0:=Mem.le.refl m0
 unfold qaQ at hF
 refine en (qiH u m0 S) r Tryz.func57 rfl rfl rfl (by rintro a w ⟨m1,v0,hle,ok,hd,hrv,h0⟩; exact qbG [.c 6 102 (.agg v0.toArray)] hd rfl hrv ⟨m1,v0,rfl,hle,ok,h0⟩) fun fin a E=>sg<|qbz E ok rfl rfl rfl fun b16 a w E ok=>qbz E ok rfl rfl rfl fun b17 a w E ok=>qax E ok qc0 rfl rfl fun b18 a w E ok=>wn<|wp_seq<|wp_block<|sg<|fk E ok qdL qak rfl 1 rfl rfl fun a E=>lw E (qeC rfl rfl) fun a E=>mv E rfl fun a E=>bw E 11 hF (fun c19 hF E=>?_) fun c19 hF E=>?_
 ·as_aux_lemma =>
   refine lsq E fun a E=>pf E rfl rfl fun a E=>aw E rfl fun a E=>c_if E rfl (fun h=>by cases h) (fun _=>?_)
   refine sg<|fk E ok qdL qak rfl 1 rfl rfl fun a E=>lw E (qau rfl rfl) fun a E=>aw E rfl fun a E=>cf E rfl hF (fun c40 hF=>?_) fun c40 hF=>?_
   ·refine sg<|lv E ok (qag (cs:=[c1,c3,vi x_0.whole.bound,vi x_0.whole.mod,vi x_0.part.bound,vi x_0.part.mod]) qhU rfl rfl (qab.own 2 rfl rfl)) fun a E=>fk E ok qiV qak rfl 1 rfl rfl fun a E=>bd hF fun r41 e42 hF=>qan E qnx rfl (qdu N _ x_0 ⟨_,_,rfl,h2,h4,r5,r6,r7,r8⟩ s_1.whole r10 e42 hG ok) rfl rfl ?_
    rintro _ w ⟨⟨rfl,ok⟩,l43⟩
    refine ⟨_,rfl,fun a E=>?_⟩
    refine lw E (qaF (ps:=[(0,.const (vi 2)),(2,.tmp 31)]) (qs:=[(0,[vi 2]),(2,[vs r41])]) (cs:=[vi 2,vi 0,vs r41,vb false,vi 0,vi 0,vi 0,vi 0]) qc0 qew rfl ⟨rfl,rfl,rfl,⟨rfl,rfl,rfl,trivial⟩⟩ rfl) fun a E=>qad E ok 0 rfl rfl rfl qbU rfl rfl ⟨rfl,rfl,rfl,rfl,rfl,rfl,rfl,rfl,trivial⟩ rfl rfl fun w ok=>wn<|wp_ret<|qaz<|qaq ?_
    exact fin hF ⟨m0,[vi 2,vi 0,vs r41,vb false,vi 0,vi 0,vi 0,vi 0],le_m0,ok.drop.drop.drop,E.d,⟨rv_c (cs:=[vi 2,vi 0,vs r41,vb false,vi 0,vi 0,vi 0,vi 0]) E ok rfl qa3 rfl (qab.own 0 rfl rfl),trivial⟩,⟨rfl,(ir 2),(ir 0),l43,(ir 0),(ir 0),(ir 0),(ir 0)⟩⟩
   refine sg<|fk E ok qdL qak rfl 1 rfl rfl fun a E=>lw E (qau rfl rfl) fun a E=>mv E rfl fun a E=>bu E 37 hF (fun c44 hF E=>?_) fun c44 hF E=>?_
   ·as_aux_lemma =>
     refine lsq E fun a E=>ls E fun a E=>pt E rfl rfl fun a E=>mz E rfl rfl fun a E=>lw E (qav rfl rfl) fun a E=>pt E rfl rfl fun a E=>aw E rfl fun a E=>cg E rfl hF (fun c45 hF=>?_) fun c45 hF=>?_
     ·refine wp_skip<|qal<|qaa<|sg<|lw E (qaF (ps:=[(0,.const (vi 4))]) (qs:=[(0,[vi 4])]) (cs:=[vi 4,vi 0,(vs ([])),vb false,vi 0,vi 0,vi 0,vi 0]) qc0 qew rfl ⟨rfl,rfl,rfl,trivial⟩ rfl) fun a E=>qad E ok 0 rfl rfl rfl qbU rfl rfl ⟨rfl,rfl,rfl,rfl,rfl,rfl,rfl,rfl,trivial⟩ rfl rfl fun w ok=>wn<|wp_ret ?_
      exact fin hF ⟨m0,[vi 4,vi 0,(vs ([])),vb false,vi 0,vi 0,vi 0,vi 0],le_m0,ok.drop.drop.drop,E.d,⟨rv_c (cs:=[vi 4,vi 0,(vs ([])),vb false,vi 0,vi 0,vi 0,vi 0]) E ok rfl qa3 rfl (qab.own 0 rfl rfl),trivial⟩,⟨rfl,(ir 4),(ir 0),(Nat.zero_le _),(ir 0),(ir 0),(ir 0),(ir 0)⟩⟩
     refine sg<|fv E qdL rfl fun a E=>qad E ok 1 rfl rfl rfl qaZ rfl rfl ⟨rfl,trivial⟩ rfl rfl fun w ok=>wn<|sg<|fk E ok qdN qak rfl 1 rfl rfl fun a E=>lw E (qbq rfl rfl) fun a E=>lw E (qkp rfl rfl) fun a E=>fv E qdN rfl fun a E=>qad E ok 1 rfl rfl rfl qaZ rfl rfl ⟨rfl,trivial⟩ rfl rfl fun w ok=>wn<|sg<|fv E qkC rfl fun a E=>lv E ok (qag (cs:=[vi x_0.part.bound,vi x_0.part.mod]) qiY rfl rfl (qab.own 2 rfl rfl)) fun a E=>fk E ok qds qak rfl 1 rfl rfl fun a E=>lw E (qfB rfl rfl) fun a E=>mv E rfl fun a E=>?_
     refine lw E (qbq rfl rfl) fun a E=>bd hF fun r46 e47 hF=>qan E qmD rfl (qcO N _ x_0.part ⟨rfl,r7,r8⟩ (IntKind.wrap .i64 ((IntKind.wrap .i64 ((10:Int) * s_1.f)) + c_2)) (InR.wrap _ _) e47 hG ok) rfl rfl ?_
     rintro _ w ⟨⟨rfl,ok⟩,r48⟩
     refine ⟨_,rfl,fun a E=>?_⟩
     refine fv E qds rfl fun a E=>qad E ok 1 rfl rfl rfl qaZ rfl rfl ⟨rfl,trivial⟩ rfl rfl fun w ok=>wn<|wp_seq<|sg<|mv E rfl fun a E=>lw E (qb7 rfl rfl) fun a E=>wn<|cg E rfl hF (fun c49 hF=>?_) fun c49 hF=>?_
     ·refine wp_skip<|qaa<|sg<|lv E ok (qag (cs:=[vi 3,vi s_1.whole,vs s_1.truth,vb s_1.some,(vi (min (IntKind.wrap .i64 (s_1.v + 1)) 7)),vi s_1.w,vi r46,vi s_1.t]) qa3 rfl rfl (qab.own 1 rfl rfl)) fun a E=>qad E ok 0 rfl rfl rfl qbU rfl rfl ⟨rfl,rfl,rfl,rfl,rfl,rfl,rfl,rfl,trivial⟩ rfl rfl fun w ok=>wn<|wp_ret<|qaz<|qaq ?_
      exact fin hF ⟨m0,[vi 3,vi s_1.whole,vs s_1.truth,vb s_1.some,(vi (min (IntKind.wrap .i64 (s_1.v + 1)) 7)),vi s_1.w,vi r46,vi s_1.t],le_m0,ok.drop.drop.drop,E.d,⟨rv_c (cs:=[vi 3,vi s_1.whole,vs s_1.truth,vb s_1.some,(vi (min (IntKind.wrap .i64 (s_1.v + 1)) 7)),vi s_1.w,vi r46,vi s_1.t]) E ok rfl qa3 rfl (qab.own 0 rfl rfl),trivial⟩,⟨rfl,(ir 3),r10,l11,(InR.min (InR.wrap _ _) (ir 7)),r13,r48,r15⟩⟩
     refine qac<|fk E ok qdN qak rfl 1 rfl rfl fun a E=>fk E ok qds qak rfl 1 rfl rfl fun a E=>fv E qff rfl fun a E=>qad E ok 1 rfl rfl rfl qjq rfl rfl ⟨rfl,trivial⟩ rfl rfl fun w ok=>fv E qgG rfl fun a E=>qad E ok 1 rfl rfl rfl qaZ rfl rfl ⟨rfl,trivial⟩ rfl rfl fun w ok=>fv E qfG rfl fun a E=>qad E ok 1 rfl rfl rfl qaZ rfl rfl ⟨rfl,trivial⟩ rfl rfl fun w ok=>wn<|sg<|lv E ok (qag (cs:=[vi 3,vi s_1.whole,vs s_1.truth,vb true,(vi (min (IntKind.wrap .i64 (s_1.v + 1)) 7)),(vi (min (IntKind.wrap .i64 (s_1.v + 1)) 7)),vi r46,vi r46]) qa3 rfl rfl (qab.own 1 rfl rfl)) fun a E=>qad E ok 0 rfl rfl rfl qbU rfl rfl ⟨rfl,rfl,rfl,rfl,rfl,rfl,rfl,rfl,trivial⟩ rfl rfl fun w ok=>wn<|wp_ret<|qaz<|qaq ?_
     exact fin hF ⟨m0,[vi 3,vi s_1.whole,vs s_1.truth,vb true,(vi (min (IntKind.wrap .i64 (s_1.v + 1)) 7)),(vi (min (IntKind.wrap .i64 (s_1.v + 1)) 7)),vi r46,vi r46],le_m0,ok.drop.drop.drop,E.d,⟨rv_c (cs:=[vi 3,vi s_1.whole,vs s_1.truth,vb true,(vi (min (IntKind.wrap .i64 (s_1.v + 1)) 7)),(vi (min (IntKind.wrap .i64 (s_1.v + 1)) 7)),vi r46,vi r46]) E ok rfl qa3 rfl (qab.own 0 rfl rfl),trivial⟩,⟨rfl,(ir 3),r10,l11,(InR.min (InR.wrap _ _) (ir 7)),(InR.min (InR.wrap _ _) (ir 7)),r48,r48⟩⟩
   refine fk E ok qdL qak rfl 1 rfl rfl fun a E=>lw E (qau rfl rfl) fun a E=>pf E rfl rfl fun a E=>mv E rfl fun a E=>bw E 42 hF (fun c50 hF E=>?_) fun c50 hF E=>?_
   ·refine lsq E fun a E=>pf E rfl rfl fun a E=>aw E rfl fun a E=>c_if E rfl (fun h=>by cases h) (fun _=>?_)
    refine wp_skip<|qal<|qaa<|sg<|lw E (qaF (ps:=[(0,.const (vi 4))]) (qs:=[(0,[vi 4])]) (cs:=[vi 4,vi 0,(vs ([])),vb false,vi 0,vi 0,vi 0,vi 0]) qc0 qew rfl ⟨rfl,rfl,rfl,trivial⟩ rfl) fun a E=>qad E ok 0 rfl rfl rfl qbU rfl rfl ⟨rfl,rfl,rfl,rfl,rfl,rfl,rfl,rfl,trivial⟩ rfl rfl fun w ok=>wn<|wp_ret ?_
    exact fin hF ⟨m0,[vi 4,vi 0,(vs ([])),vb false,vi 0,vi 0,vi 0,vi 0],le_m0,ok.drop.drop.drop,E.d,⟨rv_c (cs:=[vi 4,vi 0,(vs ([])),vb false,vi 0,vi 0,vi 0,vi 0]) E ok rfl qa3 rfl (qab.own 0 rfl rfl),trivial⟩,⟨rfl,(ir 4),(ir 0),(Nat.zero_le _),(ir 0),(ir 0),(ir 0),(ir 0)⟩⟩
   refine mv E rfl fun a E=>lw E (qav rfl rfl) fun a E=>pt E rfl rfl fun a E=>aw E rfl fun a E=>cg E rfl hF (fun c51 hF=>?_) fun c51 hF=>?_
   ·refine wp_skip<|qal<|qaa<|sg<|lw E (qaF (ps:=[(0,.const (vi 4))]) (qs:=[(0,[vi 4])]) (cs:=[vi 4,vi 0,(vs ([])),vb false,vi 0,vi 0,vi 0,vi 0]) qc0 qew rfl ⟨rfl,rfl,rfl,trivial⟩ rfl) fun a E=>qad E ok 0 rfl rfl rfl qbU rfl rfl ⟨rfl,rfl,rfl,rfl,rfl,rfl,rfl,rfl,trivial⟩ rfl rfl fun w ok=>wn<|wp_ret ?_
    exact fin hF ⟨m0,[vi 4,vi 0,(vs ([])),vb false,vi 0,vi 0,vi 0,vi 0],le_m0,ok.drop.drop.drop,E.d,⟨rv_c (cs:=[vi 4,vi 0,(vs ([])),vb false,vi 0,vi 0,vi 0,vi 0]) E ok rfl qa3 rfl (qab.own 0 rfl rfl),trivial⟩,⟨rfl,(ir 4),(ir 0),(Nat.zero_le _),(ir 0),(ir 0),(ir 0),(ir 0)⟩⟩
   refine sg<|fv E qdL rfl fun a E=>qad E ok 1 rfl rfl rfl qaZ rfl rfl ⟨rfl,trivial⟩ rfl rfl fun w ok=>wn<|sg<|fk E ok qdN qak rfl 1 rfl rfl fun a E=>lw E (qbq rfl rfl) fun a E=>lw E (qkp rfl rfl) fun a E=>fv E qdN rfl fun a E=>qad E ok 1 rfl rfl rfl qaZ rfl rfl ⟨rfl,trivial⟩ rfl rfl fun w ok=>wn<|sg<|fv E qkC rfl fun a E=>lv E ok (qag (cs:=[vi x_0.part.bound,vi x_0.part.mod]) qiY rfl rfl (qab.own 2 rfl rfl)) fun a E=>fk E ok qds qak rfl 1 rfl rfl fun a E=>lw E (qfB rfl rfl) fun a E=>mv E rfl fun a E=>?_
   refine lw E (qbq rfl rfl) fun a E=>bd hF fun r52 e53 hF=>qan E qmD rfl (qcO N _ x_0.part ⟨rfl,r7,r8⟩ (IntKind.wrap .i64 ((IntKind.wrap .i64 ((10:Int) * s_1.f)) + c_2)) (InR.wrap _ _) e53 hG ok) rfl rfl ?_
   rintro _ w ⟨⟨rfl,ok⟩,r54⟩
   refine ⟨_,rfl,fun a E=>?_⟩
   refine fv E qds rfl fun a E=>qad E ok 1 rfl rfl rfl qaZ rfl rfl ⟨rfl,trivial⟩ rfl rfl fun w ok=>wn<|wp_seq<|sg<|mv E rfl fun a E=>lw E (qb7 rfl rfl) fun a E=>wn<|cg E rfl hF (fun c55 hF=>?_) fun c55 hF=>?_
   ·refine wp_skip<|qaa<|sg<|lv E ok (qag (cs:=[vi 3,vi s_1.whole,vs s_1.truth,vb s_1.some,(vi (min (IntKind.wrap .i64 (s_1.v + 1)) 7)),vi s_1.w,vi r52,vi s_1.t]) qa3 rfl rfl (qab.own 1 rfl rfl)) fun a E=>qad E ok 0 rfl rfl rfl qbU rfl rfl ⟨rfl,rfl,rfl,rfl,rfl,rfl,rfl,rfl,trivial⟩ rfl rfl fun w ok=>wn<|wp_ret<|qaz<|qaq ?_
    exact fin hF ⟨m0,[vi 3,vi s_1.whole,vs s_1.truth,vb s_1.some,(vi (min (IntKind.wrap .i64 (s_1.v + 1)) 7)),vi s_1.w,vi r52,vi s_1.t],le_m0,ok.drop.drop.drop,E.d,⟨rv_c (cs:=[vi 3,vi s_1.whole,vs s_1.truth,vb s_1.some,(vi (min (IntKind.wrap .i64 (s_1.v + 1)) 7)),vi s_1.w,vi r52,vi s_1.t]) E ok rfl qa3 rfl (qab.own 0 rfl rfl),trivial⟩,⟨rfl,(ir 3),r10,l11,(InR.min (InR.wrap _ _) (ir 7)),r13,r54,r15⟩⟩
   refine qac<|fk E ok qdN qak rfl 1 rfl rfl fun a E=>fk E ok qds qak rfl 1 rfl rfl fun a E=>fv E qff rfl fun a E=>qad E ok 1 rfl rfl rfl qjq rfl rfl ⟨rfl,trivial⟩ rfl rfl fun w ok=>fv E qgG rfl fun a E=>qad E ok 1 rfl rfl rfl qaZ rfl rfl ⟨rfl,trivial⟩ rfl rfl fun w ok=>fv E qfG rfl fun a E=>qad E ok 1 rfl rfl rfl qaZ rfl rfl ⟨rfl,trivial⟩ rfl rfl fun w ok=>wn<|sg<|lv E ok (qag (cs:=[vi 3,vi s_1.whole,vs s_1.truth,vb true,(vi (min (IntKind.wrap .i64 (s_1.v + 1)) 7)),(vi (min (IntKind.wrap .i64 (s_1.v + 1)) 7)),vi r52,vi r52]) qa3 rfl rfl (qab.own 1 rfl rfl)) fun a E=>qad E ok 0 rfl rfl rfl qbU rfl rfl ⟨rfl,rfl,rfl,rfl,rfl,rfl,rfl,rfl,trivial⟩ rfl rfl fun w ok=>wn<|wp_ret<|qaz<|qaq ?_
   exact fin hF ⟨m0,[vi 3,vi s_1.whole,vs s_1.truth,vb true,(vi (min (IntKind.wrap .i64 (s_1.v + 1)) 7)),(vi (min (IntKind.wrap .i64 (s_1.v + 1)) 7)),vi r52,vi r52],le_m0,ok.drop.drop.drop,E.d,⟨rv_c (cs:=[vi 3,vi s_1.whole,vs s_1.truth,vb true,(vi (min (IntKind.wrap .i64 (s_1.v + 1)) 7)),(vi (min (IntKind.wrap .i64 (s_1.v + 1)) 7)),vi r52,vi r52]) E ok rfl qa3 rfl (qab.own 0 rfl rfl),trivial⟩,⟨rfl,(ir 3),r10,l11,(InR.min (InR.wrap _ _) (ir 7)),(InR.min (InR.wrap _ _) (ir 7)),r54,r54⟩⟩
 refine mv E rfl fun a E=>lw E (qav rfl rfl) fun a E=>pt E rfl rfl fun a E=>aw E rfl fun a E=>cf E rfl hF (fun c20 hF=>?_) fun c20 hF=>?_
 ·refine sg<|fv E qqg rfl fun a E=>lv E ok (qag (cs:=[vi x_0.whole.bound,vi x_0.whole.mod]) qiY rfl rfl (qab.own 2 rfl rfl)) fun a E=>fk E ok qiV qak rfl 1 rfl rfl fun a E=>lw E (qfB rfl rfl) fun a E=>mv E rfl fun a E=>lw E (qbq rfl rfl) fun a E=>bd hF fun r21 e22 hF=>qan E qmD rfl (qcO N _ x_0.whole ⟨rfl,r5,r6⟩ (IntKind.wrap .i64 ((IntKind.wrap .i64 ((10:Int) * s_1.whole)) + c_2)) (InR.wrap _ _) e22 hG ok) rfl rfl ?_
  rintro _ w ⟨⟨rfl,ok⟩,r23⟩
  refine ⟨_,rfl,fun a E=>?_⟩
  refine lw E (qaF (ps:=[(0,.const (vi 1)),(1,.tmp 22)]) (qs:=[(0,[vi 1]),(1,[vi r21])]) (cs:=[vi 1,vi r21,(vs ([])),vb false,vi 0,vi 0,vi 0,vi 0]) qc0 qew rfl ⟨rfl,rfl,rfl,⟨rfl,rfl,rfl,trivial⟩⟩ rfl) fun a E=>qad E ok 0 rfl rfl rfl qbU rfl rfl ⟨rfl,rfl,rfl,rfl,rfl,rfl,rfl,rfl,trivial⟩ rfl rfl fun w ok=>wn<|wp_ret<|qaz<|qaq ?_
  exact fin hF ⟨m0,[vi 1,vi r21,(vs ([])),vb false,vi 0,vi 0,vi 0,vi 0],le_m0,ok.drop.drop.drop,E.d,⟨rv_c (cs:=[vi 1,vi r21,(vs ([])),vb false,vi 0,vi 0,vi 0,vi 0]) E ok rfl qa3 rfl (qab.own 0 rfl rfl),trivial⟩,⟨rfl,(ir 1),r23,(Nat.zero_le _),(ir 0),(ir 0),(ir 0),(ir 0)⟩⟩
 refine sg<|fk E ok qdL qak rfl 1 rfl rfl fun a E=>lw E (qau rfl rfl) fun a E=>aw E rfl fun a E=>cf E rfl hF (fun c24 hF=>?_) fun c24 hF=>?_
 ·refine sg<|lv E ok (qag (cs:=[c1,c3,vi x_0.whole.bound,vi x_0.whole.mod,vi x_0.part.bound,vi x_0.part.mod]) qhU rfl rfl (qab.own 2 rfl rfl)) fun a E=>fk E ok qiV qak rfl 1 rfl rfl fun a E=>bd hF fun r25 e26 hF=>qan E qnx rfl (qdu N _ x_0 ⟨_,_,rfl,h2,h4,r5,r6,r7,r8⟩ s_1.whole r10 e26 hG ok) rfl rfl ?_
  rintro _ w ⟨⟨rfl,ok⟩,l27⟩
  refine ⟨_,rfl,fun a E=>?_⟩
  refine lw E (qaF (ps:=[(0,.const (vi 2)),(2,.tmp 31)]) (qs:=[(0,[vi 2]),(2,[vs r25])]) (cs:=[vi 2,vi 0,vs r25,vb false,vi 0,vi 0,vi 0,vi 0]) qc0 qew rfl ⟨rfl,rfl,rfl,⟨rfl,rfl,rfl,trivial⟩⟩ rfl) fun a E=>qad E ok 0 rfl rfl rfl qbU rfl rfl ⟨rfl,rfl,rfl,rfl,rfl,rfl,rfl,rfl,trivial⟩ rfl rfl fun w ok=>wn<|wp_ret<|qaz<|qaq ?_
  exact fin hF ⟨m0,[vi 2,vi 0,vs r25,vb false,vi 0,vi 0,vi 0,vi 0],le_m0,ok.drop.drop.drop,E.d,⟨rv_c (cs:=[vi 2,vi 0,vs r25,vb false,vi 0,vi 0,vi 0,vi 0]) E ok rfl qa3 rfl (qab.own 0 rfl rfl),trivial⟩,⟨rfl,(ir 2),(ir 0),l27,(ir 0),(ir 0),(ir 0),(ir 0)⟩⟩
 refine sg<|fk E ok qdL qak rfl 1 rfl rfl fun a E=>lw E (qau rfl rfl) fun a E=>mv E rfl fun a E=>bu E 37 hF (fun c28 hF E=>?_) fun c28 hF E=>?_
 ·as_aux_lemma =>
   refine lsq E fun a E=>ls E fun a E=>pt E rfl rfl fun a E=>mz E rfl rfl fun a E=>lw E (qav rfl rfl) fun a E=>pt E rfl rfl fun a E=>aw E rfl fun a E=>cg E rfl hF (fun c29 hF=>?_) fun c29 hF=>?_
   ·refine wp_skip<|qal<|qaa<|sg<|lw E (qaF (ps:=[(0,.const (vi 4))]) (qs:=[(0,[vi 4])]) (cs:=[vi 4,vi 0,(vs ([])),vb false,vi 0,vi 0,vi 0,vi 0]) qc0 qew rfl ⟨rfl,rfl,rfl,trivial⟩ rfl) fun a E=>qad E ok 0 rfl rfl rfl qbU rfl rfl ⟨rfl,rfl,rfl,rfl,rfl,rfl,rfl,rfl,trivial⟩ rfl rfl fun w ok=>wn<|wp_ret ?_
    exact fin hF ⟨m0,[vi 4,vi 0,(vs ([])),vb false,vi 0,vi 0,vi 0,vi 0],le_m0,ok.drop.drop.drop,E.d,⟨rv_c (cs:=[vi 4,vi 0,(vs ([])),vb false,vi 0,vi 0,vi 0,vi 0]) E ok rfl qa3 rfl (qab.own 0 rfl rfl),trivial⟩,⟨rfl,(ir 4),(ir 0),(Nat.zero_le _),(ir 0),(ir 0),(ir 0),(ir 0)⟩⟩
   refine sg<|fv E qdL rfl fun a E=>qad E ok 1 rfl rfl rfl qaZ rfl rfl ⟨rfl,trivial⟩ rfl rfl fun w ok=>wn<|sg<|fk E ok qdN qak rfl 1 rfl rfl fun a E=>lw E (qbq rfl rfl) fun a E=>lw E (qkp rfl rfl) fun a E=>fv E qdN rfl fun a E=>qad E ok 1 rfl rfl rfl qaZ rfl rfl ⟨rfl,trivial⟩ rfl rfl fun w ok=>wn<|sg<|fv E qkC rfl fun a E=>lv E ok (qag (cs:=[vi x_0.part.bound,vi x_0.part.mod]) qiY rfl rfl (qab.own 2 rfl rfl)) fun a E=>fk E ok qds qak rfl 1 rfl rfl fun a E=>lw E (qfB rfl rfl) fun a E=>mv E rfl fun a E=>?_
   refine lw E (qbq rfl rfl) fun a E=>bd hF fun r30 e31 hF=>qan E qmD rfl (qcO N _ x_0.part ⟨rfl,r7,r8⟩ (IntKind.wrap .i64 ((IntKind.wrap .i64 ((10:Int) * s_1.f)) + c_2)) (InR.wrap _ _) e31 hG ok) rfl rfl ?_
   rintro _ w ⟨⟨rfl,ok⟩,r32⟩
   refine ⟨_,rfl,fun a E=>?_⟩
   refine fv E qds rfl fun a E=>qad E ok 1 rfl rfl rfl qaZ rfl rfl ⟨rfl,trivial⟩ rfl rfl fun w ok=>wn<|wp_seq<|sg<|mv E rfl fun a E=>lw E (qb7 rfl rfl) fun a E=>wn<|cg E rfl hF (fun c33 hF=>?_) fun c33 hF=>?_
   ·refine wp_skip<|qaa<|sg<|lv E ok (qag (cs:=[vi 3,vi s_1.whole,vs s_1.truth,vb s_1.some,(vi (min (IntKind.wrap .i64 (s_1.v + 1)) 7)),vi s_1.w,vi r30,vi s_1.t]) qa3 rfl rfl (qab.own 1 rfl rfl)) fun a E=>qad E ok 0 rfl rfl rfl qbU rfl rfl ⟨rfl,rfl,rfl,rfl,rfl,rfl,rfl,rfl,trivial⟩ rfl rfl fun w ok=>wn<|wp_ret<|qaz<|qaq ?_
    exact fin hF ⟨m0,[vi 3,vi s_1.whole,vs s_1.truth,vb s_1.some,(vi (min (IntKind.wrap .i64 (s_1.v + 1)) 7)),vi s_1.w,vi r30,vi s_1.t],le_m0,ok.drop.drop.drop,E.d,⟨rv_c (cs:=[vi 3,vi s_1.whole,vs s_1.truth,vb s_1.some,(vi (min (IntKind.wrap .i64 (s_1.v + 1)) 7)),vi s_1.w,vi r30,vi s_1.t]) E ok rfl qa3 rfl (qab.own 0 rfl rfl),trivial⟩,⟨rfl,(ir 3),r10,l11,(InR.min (InR.wrap _ _) (ir 7)),r13,r32,r15⟩⟩
   refine qac<|fk E ok qdN qak rfl 1 rfl rfl fun a E=>fk E ok qds qak rfl 1 rfl rfl fun a E=>fv E qff rfl fun a E=>qad E ok 1 rfl rfl rfl qjq rfl rfl ⟨rfl,trivial⟩ rfl rfl fun w ok=>fv E qgG rfl fun a E=>qad E ok 1 rfl rfl rfl qaZ rfl rfl ⟨rfl,trivial⟩ rfl rfl fun w ok=>fv E qfG rfl fun a E=>qad E ok 1 rfl rfl rfl qaZ rfl rfl ⟨rfl,trivial⟩ rfl rfl fun w ok=>wn<|sg<|lv E ok (qag (cs:=[vi 3,vi s_1.whole,vs s_1.truth,vb true,(vi (min (IntKind.wrap .i64 (s_1.v + 1)) 7)),(vi (min (IntKind.wrap .i64 (s_1.v + 1)) 7)),vi r30,vi r30]) qa3 rfl rfl (qab.own 1 rfl rfl)) fun a E=>qad E ok 0 rfl rfl rfl qbU rfl rfl ⟨rfl,rfl,rfl,rfl,rfl,rfl,rfl,rfl,trivial⟩ rfl rfl fun w ok=>wn<|wp_ret<|qaz<|qaq ?_
   exact fin hF ⟨m0,[vi 3,vi s_1.whole,vs s_1.truth,vb true,(vi (min (IntKind.wrap .i64 (s_1.v + 1)) 7)),(vi (min (IntKind.wrap .i64 (s_1.v + 1)) 7)),vi r30,vi r30],le_m0,ok.drop.drop.drop,E.d,⟨rv_c (cs:=[vi 3,vi s_1.whole,vs s_1.truth,vb true,(vi (min (IntKind.wrap .i64 (s_1.v + 1)) 7)),(vi (min (IntKind.wrap .i64 (s_1.v + 1)) 7)),vi r30,vi r30]) E ok rfl qa3 rfl (qab.own 0 rfl rfl),trivial⟩,⟨rfl,(ir 3),r10,l11,(InR.min (InR.wrap _ _) (ir 7)),(InR.min (InR.wrap _ _) (ir 7)),r32,r32⟩⟩
 refine fk E ok qdL qak rfl 1 rfl rfl fun a E=>lw E (qau rfl rfl) fun a E=>pf E rfl rfl fun a E=>mv E rfl fun a E=>bw E 42 hF (fun c34 hF E=>?_) fun c34 hF E=>?_
 ·refine lsq E fun a E=>pf E rfl rfl fun a E=>aw E rfl fun a E=>c_if E rfl (fun h=>by cases h) (fun _=>?_)
  refine wp_skip<|qal<|qaa<|sg<|lw E (qaF (ps:=[(0,.const (vi 4))]) (qs:=[(0,[vi 4])]) (cs:=[vi 4,vi 0,(vs ([])),vb false,vi 0,vi 0,vi 0,vi 0]) qc0 qew rfl ⟨rfl,rfl,rfl,trivial⟩ rfl) fun a E=>qad E ok 0 rfl rfl rfl qbU rfl rfl ⟨rfl,rfl,rfl,rfl,rfl,rfl,rfl,rfl,trivial⟩ rfl rfl fun w ok=>wn<|wp_ret ?_
  exact fin hF ⟨m0,[vi 4,vi 0,(vs ([])),vb false,vi 0,vi 0,vi 0,vi 0],le_m0,ok.drop.drop.drop,E.d,⟨rv_c (cs:=[vi 4,vi 0,(vs ([])),vb false,vi 0,vi 0,vi 0,vi 0]) E ok rfl qa3 rfl (qab.own 0 rfl rfl),trivial⟩,⟨rfl,(ir 4),(ir 0),(Nat.zero_le _),(ir 0),(ir 0),(ir 0),(ir 0)⟩⟩
 refine mv E rfl fun a E=>lw E (qav rfl rfl) fun a E=>pt E rfl rfl fun a E=>aw E rfl fun a E=>cg E rfl hF (fun c35 hF=>?_) fun c35 hF=>?_
 ·refine wp_skip<|qal<|qaa<|sg<|lw E (qaF (ps:=[(0,.const (vi 4))]) (qs:=[(0,[vi 4])]) (cs:=[vi 4,vi 0,(vs ([])),vb false,vi 0,vi 0,vi 0,vi 0]) qc0 qew rfl ⟨rfl,rfl,rfl,trivial⟩ rfl) fun a E=>qad E ok 0 rfl rfl rfl qbU rfl rfl ⟨rfl,rfl,rfl,rfl,rfl,rfl,rfl,rfl,trivial⟩ rfl rfl fun w ok=>wn<|wp_ret ?_
  exact fin hF ⟨m0,[vi 4,vi 0,(vs ([])),vb false,vi 0,vi 0,vi 0,vi 0],le_m0,ok.drop.drop.drop,E.d,⟨rv_c (cs:=[vi 4,vi 0,(vs ([])),vb false,vi 0,vi 0,vi 0,vi 0]) E ok rfl qa3 rfl (qab.own 0 rfl rfl),trivial⟩,⟨rfl,(ir 4),(ir 0),(Nat.zero_le _),(ir 0),(ir 0),(ir 0),(ir 0)⟩⟩
 refine sg<|fv E qdL rfl fun a E=>qad E ok 1 rfl rfl rfl qaZ rfl rfl ⟨rfl,trivial⟩ rfl rfl fun w ok=>wn<|sg<|fk E ok qdN qak rfl 1 rfl rfl fun a E=>lw E (qbq rfl rfl) fun a E=>lw E (qkp rfl rfl) fun a E=>fv E qdN rfl fun a E=>qad E ok 1 rfl rfl rfl qaZ rfl rfl ⟨rfl,trivial⟩ rfl rfl fun w ok=>wn<|sg<|fv E qkC rfl fun a E=>lv E ok (qag (cs:=[vi x_0.part.bound,vi x_0.part.mod]) qiY rfl rfl (qab.own 2 rfl rfl)) fun a E=>fk E ok qds qak rfl 1 rfl rfl fun a E=>lw E (qfB rfl rfl) fun a E=>mv E rfl fun a E=>?_
 refine lw E (qbq rfl rfl) fun a E=>bd hF fun r36 e37 hF=>qan E qmD rfl (qcO N _ x_0.part ⟨rfl,r7,r8⟩ (IntKind.wrap .i64 ((IntKind.wrap .i64 ((10:Int) * s_1.f)) + c_2)) (InR.wrap _ _) e37 hG ok) rfl rfl ?_
 rintro _ w ⟨⟨rfl,ok⟩,r38⟩
 refine ⟨_,rfl,fun a E=>?_⟩
 refine fv E qds rfl fun a E=>qad E ok 1 rfl rfl rfl qaZ rfl rfl ⟨rfl,trivial⟩ rfl rfl fun w ok=>wn<|wp_seq<|sg<|mv E rfl fun a E=>lw E (qb7 rfl rfl) fun a E=>wn<|cg E rfl hF (fun c39 hF=>?_) fun c39 hF=>?_
 ·refine wp_skip<|qaa<|sg<|lv E ok (qag (cs:=[vi 3,vi s_1.whole,vs s_1.truth,vb s_1.some,(vi (min (IntKind.wrap .i64 (s_1.v + 1)) 7)),vi s_1.w,vi r36,vi s_1.t]) qa3 rfl rfl (qab.own 1 rfl rfl)) fun a E=>qad E ok 0 rfl rfl rfl qbU rfl rfl ⟨rfl,rfl,rfl,rfl,rfl,rfl,rfl,rfl,trivial⟩ rfl rfl fun w ok=>wn<|wp_ret<|qaz<|qaq ?_
  exact fin hF ⟨m0,[vi 3,vi s_1.whole,vs s_1.truth,vb s_1.some,(vi (min (IntKind.wrap .i64 (s_1.v + 1)) 7)),vi s_1.w,vi r36,vi s_1.t],le_m0,ok.drop.drop.drop,E.d,⟨rv_c (cs:=[vi 3,vi s_1.whole,vs s_1.truth,vb s_1.some,(vi (min (IntKind.wrap .i64 (s_1.v + 1)) 7)),vi s_1.w,vi r36,vi s_1.t]) E ok rfl qa3 rfl (qab.own 0 rfl rfl),trivial⟩,⟨rfl,(ir 3),r10,l11,(InR.min (InR.wrap _ _) (ir 7)),r13,r38,r15⟩⟩
 refine qac<|fk E ok qdN qak rfl 1 rfl rfl fun a E=>fk E ok qds qak rfl 1 rfl rfl fun a E=>fv E qff rfl fun a E=>qad E ok 1 rfl rfl rfl qjq rfl rfl ⟨rfl,trivial⟩ rfl rfl fun w ok=>fv E qgG rfl fun a E=>qad E ok 1 rfl rfl rfl qaZ rfl rfl ⟨rfl,trivial⟩ rfl rfl fun w ok=>fv E qfG rfl fun a E=>qad E ok 1 rfl rfl rfl qaZ rfl rfl ⟨rfl,trivial⟩ rfl rfl fun w ok=>wn<|sg<|lv E ok (qag (cs:=[vi 3,vi s_1.whole,vs s_1.truth,vb true,(vi (min (IntKind.wrap .i64 (s_1.v + 1)) 7)),(vi (min (IntKind.wrap .i64 (s_1.v + 1)) 7)),vi r36,vi r36]) qa3 rfl rfl (qab.own 1 rfl rfl)) fun a E=>qad E ok 0 rfl rfl rfl qbU rfl rfl ⟨rfl,rfl,rfl,rfl,rfl,rfl,rfl,rfl,trivial⟩ rfl rfl fun w ok=>wn<|wp_ret<|qaz<|qaq ?_
 exact fin hF ⟨m0,[vi 3,vi s_1.whole,vs s_1.truth,vb true,(vi (min (IntKind.wrap .i64 (s_1.v + 1)) 7)),(vi (min (IntKind.wrap .i64 (s_1.v + 1)) 7)),vi r36,vi r36],le_m0,ok.drop.drop.drop,E.d,⟨rv_c (cs:=[vi 3,vi s_1.whole,vs s_1.truth,vb true,(vi (min (IntKind.wrap .i64 (s_1.v + 1)) 7)),(vi (min (IntKind.wrap .i64 (s_1.v + 1)) 7)),vi r36,vi r36]) E ok rfl qa3 rfl (qab.own 0 rfl rfl),trivial⟩,⟨rfl,(ir 3),r10,l11,(InR.min (InR.wrap _ _) (ir 7)),(InR.min (InR.wrap _ _) (ir 7)),r38,r38⟩⟩
def qem (u:World) (m0:Mem) (S:Segs) (r:Bool) (a:Act) (w:World):Prop :=
 Ok u m0 S w ∧ a.defers = [] ∧ RVs Tryz.prog a w [.t 4 (.bool r)]
theorem qh1 (N:Nat) (vx_0:List Value) (x_0:Walker) (hx_0:qlB m0 vx_0 x_0) (vs_1:List Value) (s_1:State2) (hs_1:qeq m0 vs_1 s_1) {r:Bool} (hF:qbA N x_0 s_1 = some r) (hG:Glob u) (ok:Ok u m0 S w) :
  Calls Tryz.prog 58 [.agg vx_0.toArray,.agg vs_1.toArray].toArray w fun e w'=>(e = .returned (.bool r) ∧ Ok u m0 S w'):=by
 obtain ⟨c1,c3,rfl,h2,h4,r5,r6,r7,r8⟩:=hx_0
 obtain ⟨rfl,r9,r10,l11,r12,r13,r14,r15⟩:=hs_1
 unfold qbA at hF
 refine en (qem u m0 S) r Tryz.func58 rfl rfl rfl (fun _ _ h=>ra h rfl) fun fin a E=>sg<|qbz E ok rfl rfl rfl fun b16 a w E ok=>qbz E ok rfl rfl rfl fun b17 a w E ok=>aw E rfl fun a E=>wp_seq<|sg<|fk E ok qdL qak rfl 0 rfl rfl fun a E=>lw E (qb7 rfl rfl) fun a E=>mv E rfl fun a E=>bw E 14 hF (fun c18 hF E=>?_) fun c18 hF E=>?_
 ·as_aux_lemma =>
   refine lsq E fun a E=>ls E fun a E=>pf E rfl rfl fun a E=>wn<|c_if E rfl (fun h=>by cases h) (fun _=>?_)
   refine wp_skip<|qaa<|wp_seq<|sg<|fk E ok qdL qak rfl 0 rfl rfl fun a E=>lw E (qau rfl rfl) fun a E=>wn<|bd hF fun o111 hJ hF=>qaG (Q':=fun e a w=>e = .normal ∧ Ok u m0 ([(b17,oc 102 [vi o111.phase,vi o111.whole,vs o111.truth,vb o111.some,vi o111.v,vi o111.w,vi o111.f,vi o111.t])] :: [(b16,oc 100 [c1,c3,vi x_0.whole.bound,vi x_0.whole.mod,vi x_0.part.bound,vi x_0.part.mod])] :: S) w ∧ Env 103 a [(2,vp b16),(3,vp b17)] ∧ InR .i64 o111.phase ∧ InR .i64 o111.whole ∧ o111.truth.length ≤ LIMS ∧ InR .i64 o111.v ∧ InR .i64 o111.w ∧ InR .i64 o111.f ∧ InR .i64 o111.t) ?_ ?_
   ·have hF:=hJ
    refine cg E rfl hF (fun c119 hF=>?_) fun c119 hF=>?_
    ·refine wp_skip ?_
     cases hF
     exact ⟨rfl,⟨ok,E.keep [2,3],r9,r10,l11,r12,r13,r14,r15⟩⟩
    refine qac<|lv E ok (qag (cs:=[c1,c3,vi x_0.whole.bound,vi x_0.whole.mod,vi x_0.part.bound,vi x_0.part.mod]) qhU rfl rfl (qab.own 1 rfl rfl)) fun a E=>fk E ok qiV qak rfl 0 rfl rfl fun a E=>bd hF fun r120 e121 hF=>qan E qnx rfl (qdu N _ x_0 ⟨_,_,rfl,h2,h4,r5,r6,r7,r8⟩ s_1.whole r10 e121 hG ok) rfl rfl ?_
    rintro _ w ⟨⟨rfl,ok⟩,l122⟩
    refine ⟨_,rfl,fun a E=>?_⟩
    refine fv E qj8 rfl fun a E=>qad E ok 0 rfl rfl rfl qqz rfl rfl ⟨rfl,trivial⟩ rfl rfl fun w ok=>wpList_nil ?_
    cases hF
    exact ⟨rfl,⟨ok,E.keep [2,3],r9,r10,l122,r12,r13,r14,r15⟩⟩
   intro e a w hO
   obtain ⟨rfl,ok,E,r123,r124,l125,r126,r127,r128,r129⟩:=hO
   refine qaa<|sg<|aw E rfl fun a E=>wp_seq<|sg<|aw E rfl fun a E=>wp_block<|bd hF fun o132 hL hF=>qaE _ (fun (s:Int × Int) a w=>Ok u m0 ([(b17,oc 102 [vi o111.phase,vi o111.whole,vs o111.truth,vb o111.some,vi o111.v,vi o111.w,vi o111.f,vi o111.t])] :: [(b16,oc 100 [c1,c3,vi x_0.whole.bound,vi x_0.whole.mod,vi x_0.part.bound,vi x_0.part.mod])] :: S) w ∧ Env 103 a [(2,vp b16),(3,vp b17),(5,vi s.1),(6,vi s.2)] ∧ InR .i64 s.1 ∧ InR .i64 s.2) (fun (b:(Unit ⊕ Bool)) e a w=>(Sum.elim (fun b200=>e = (.exit 0) ∧ Ok u m0 ([(b17,oc 102 [vi o111.phase,vi o111.whole,vs o111.truth,vb o111.some,vi o111.v,vi o111.w,vi o111.f,vi o111.t])] :: [(b16,oc 100 [c1,c3,vi x_0.whole.bound,vi x_0.whole.mod,vi x_0.part.bound,vi x_0.part.mod])] :: S) w ∧ Env 103 a []) (fun b201=>e = .ret ∧ qem u m0 S b201 a w)) b) ?_ ?_ N _ a w hL ⟨ok,E.keep [2,3,5,6],(ir 0),(ir 0)⟩
   rotate_left
   ·intro e a w _ hO
    rcases o132 with o132 | o132
    rotate_left
    ·obtain ⟨rfl,hret⟩:=hO
     refine qaz<|qaq ?_
     exact fin hF hret
    have hF:=qca hF
    obtain ⟨rfl,ok,E⟩:=hO
    refine qaM<|qaa<|sg<|aw E rfl fun a E=>wp_ret ?_
    exact fin hF ⟨ok.drop.drop,E.d,rz E rfl⟩
   rintro ⟨v135,v136⟩ a w r ⟨ok,E,r137,r138⟩ hF
   replace hF:qda N x_0 o111 v135 v136 = some r:=hF
   unfold qda at hF
   refine wp_seq<|sg<|mv E rfl fun a E=>fk E ok qkA qfh rfl 1 rfl rfl fun a E=>lv E ok (qaD qcM h2 rfl) fun a E=>lw E (qav rfl rfl) fun a E=>wn<|cg E rfl hF (fun c139 hF=>?_) fun c139 hF=>?_
   ·refine wp_exit<|qaA ?_
    cases hF
    exact so (sl ⟨rfl,⟨ok,E.keep []⟩⟩)
   refine wp_skip<|qaa<|wp_seq<|wp_block<|sg<|av E rfl fun a E=>wn<|wp_seq<|sg<|aw E rfl fun a E=>wp_block<|bd hF fun o142 hL hF=>qaE _ (fun (s:Int × Bool × Int) a w=>Ok u m0 ([(b17,oc 102 [vi o111.phase,vi o111.whole,vs o111.truth,vb o111.some,vi o111.v,vi o111.w,vi o111.f,vi o111.t])] :: [(b16,oc 100 [c1,c3,vi x_0.whole.bound,vi x_0.whole.mod,vi x_0.part.bound,vi x_0.part.mod])] :: S) w ∧ Env 103 a [(2,vp b16),(3,vp b17),(5,vi s.1),(6,vi v136),(7,vb s.2.1),(8,vi s.2.2)] ∧ InR .i64 s.1 ∧ InR .i64 s.2.2) (fun (b:(Int × Bool)) e a w=>e = (.exit 2) ∧ Ok u m0 ([(b17,oc 102 [vi o111.phase,vi o111.whole,vs o111.truth,vb o111.some,vi o111.v,vi o111.w,vi o111.f,vi o111.t])] :: [(b16,oc 100 [c1,c3,vi x_0.whole.bound,vi x_0.whole.mod,vi x_0.part.bound,vi x_0.part.mod])] :: S) w ∧ Env 103 a [(2,vp b16),(3,vp b17),(5,vi b.1),(6,vi v136),(7,vb b.2)] ∧ InR .i64 b.1) ?_ ?_ N _ a w hL ⟨ok,E.keep [2,3,5,6,7,8],r137,(ir 0)⟩
   rotate_left
   ·intro e a w _ hO
    obtain ⟨rfl,ok,E,r197⟩:=hO
    refine qaM<|qaa<|sg<|mv E rfl fun a E=>wn<|cg E rfl hF (fun c198 hF=>?_) fun c198 hF=>?_
    ·refine wp_skip<|qal<|qaa<|qac<|mv E rfl fun a E=>lw E (qaw rfl rfl (InR.inc r138 (qam h2) c139)) fun a E=>av E rfl fun a E=>wpList_nil ?_
     cases hF
     exact qas ⟨ok,E.keep [2,3,5,6],r197,(InR.inc r138 (qam h2) c139)⟩
    refine sg<|aw E rfl fun a E=>wp_ret<|qaz<|qaq ?_
    cases hF
    exact so (sr ⟨rfl,⟨ok.drop.drop,E.d,rz E rfl⟩⟩)
   rintro ⟨v145,v146,v147⟩ a w r ⟨ok,E,r148,r149⟩ hF
   replace hF:qee N x_0 o111 v136 v145 v146 v147 = some r:=hF
   unfold qee at hF
   refine wp_seq<|sg<|mv E rfl fun a E=>fk E ok qkA qfh rfl 1 rfl rfl fun a E=>mv E rfl fun a E=>?_
   obtain ⟨x150,e151,hF⟩:=bnd hF
   obtain ⟨b152,o153,es154,hl155,rr156,at157,yy158⟩:=ia E 36 37 qcM h2 e151
   obtain ⟨c159,rfl,h160⟩:=qbK rr156
   refine lv E ok (yy158 _ _) fun a E=>lv E ok (qaj qci rfl (qab.ro at157)) fun a E=>lv E ok (qaD qa4 h160 rfl) fun a E=>lw E (qav rfl rfl) fun a E=>wn<|cg E rfl hF (fun c161 hF=>?_) fun c161 hF=>?_
   ·refine wp_exit<|qaA ?_
    cases hF
    exact so (⟨rfl,⟨ok,E.keep [2,3,5,6,7],r148⟩⟩)
   refine wp_skip<|qaa<|wp_seq<|wp_block<|sg<|fk E ok qhY qci rfl 1 rfl rfl fun a E=>mv E rfl fun a E=>?_
   obtain ⟨x162,e163,hF⟩:=bnd hF
   obtain ⟨b164,o165,es166,hl167,rr168,at169,yy170⟩:=ia E 45 46 qa4 h4 e163
   obtain ⟨c173,rfl,r171,r172,h174⟩:=rr168
   refine lv E ok (yy170 _ _) fun a E=>lv E ok (qag (cs:=[vi x162.Operand,vi x162.Mod,vb x162.Not,c173]) qbc rfl rfl (qab.ro at169)) fun a E=>qax E ok qcU rfl rfl fun b175 a w E ok=>qad E ok 0 rfl rfl rfl qfF rfl rfl ⟨rfl,rfl,rfl,(qa5 h174),trivial⟩ rfl rfl fun w ok=>wn<|sg<|fk E ok qj8 qfs rfl 1 rfl rfl fun a E=>mv E rfl fun a E=>bd hF fun c176 e177 hF=>lv E ok (qc7 Tryz.underlying9 rfl rfl e177) fun a E=>lw E (qau rfl rfl) fun a E=>aw E rfl fun a E=>wp_seq<|sg ?_
   refine fk E ok qa2 qak rfl 0 rfl rfl fun a E=>wn<|wp_block<|sg<|lw E (qau rfl rfl) fun a E=>aw E rfl fun a E=>bd hF fun o178 hJ hF=>qaG (Q':=fun e a w=>e = .normal ∧ Ok u m0 ([(b175,oc 69 [vi x162.Operand,vi x162.Mod,vb x162.Not,c173])] :: [(b17,oc 102 [vi o111.phase,vi o111.whole,vs o111.truth,vb o111.some,vi o111.v,vi o111.w,vi o111.f,vi o111.t])] :: [(b16,oc 100 [c1,c3,vi x_0.whole.bound,vi x_0.whole.mod,vi x_0.part.bound,vi x_0.part.mod])] :: S) w ∧ Env 103 a [(2,vp b16),(3,vp b17),(5,vi v145),(6,vi v136),(7,vb v146),(8,vi v147),(10,vb o178)]) ?_ ?_
   rotate_left
   ·intro e a w hO
    obtain ⟨rfl,ok,E⟩:=hO
    refine qal<|qaa<|sg<|mz E rfl rfl fun a E=>qcp v146 (fun c196=>?_) (fun c196=>?_)
    ·have hF:=qcg c196 hF
     have E:=E.upd 97 c196 rfl
     refine mv E rfl fun a E=>pt E rfl rfl fun a E=>aw E rfl fun a E=>qac<|mv E rfl fun a E=>lw E (qbq rfl rfl) fun a E=>av E rfl fun a E=>wpList_nil<|qal<|qaa<|qac<|mv E rfl fun a E=>lw E (qaw rfl rfl (InR.inc r149 (qam h160) c161)) fun a E=>av E rfl fun a E=>wpList_nil ?_
     cases hF
     exact qas ⟨(ok.pk 3 [1,2] rfl (by decide)),E.keep [2,3,5,6,7,8],(InR.wrap _ _),(InR.inc r149 (qam h160) c161)⟩
    have hF:=qcc c196 hF
    have E:=E.upd 97 c196 rfl
    refine ls E fun a E=>pf E rfl rfl fun a E=>aw E rfl fun a E=>qac<|mv E rfl fun a E=>lw E (qbq rfl rfl) fun a E=>av E rfl fun a E=>wpList_nil<|qal<|qaa<|qac<|mv E rfl fun a E=>lw E (qaw rfl rfl (InR.inc r149 (qam h160) c161)) fun a E=>av E rfl fun a E=>wpList_nil ?_
    cases hF
    exact qas ⟨(ok.pk 3 [1,2] rfl (by decide)),E.keep [2,3,5,6,7,8],(InR.wrap _ _),(InR.inc r149 (qam h160) c161)⟩
   have hF:=hJ
   refine cf E rfl hF (fun c179 hF=>?_) fun c179 hF=>?_
   ·as_aux_lemma =>
     refine qac<|mz E rfl rfl fun a E=>bw E 59 hF (fun c180 hF E=>?_) fun c180 hF E=>?_
     ·refine lsq E fun a E=>ls E fun a E=>pf E rfl rfl fun a E=>mv E rfl fun a E=>fk E ok qff qbx rfl 1 rfl rfl fun a E=>mv E rfl fun a E=>qcp o111.some (fun c183=>?_) (fun c183=>?_)
      ·have hF:=qcg c183 hF
       have E:=E.upd 67 c183 rfl
       refine fk E ok qe9 qbx rfl 0 rfl rfl fun a E=>pt E rfl rfl fun a E=>pf E rfl rfl fun a E=>av E rfl fun a E=>wpList_nil ?_
       cases hF
       exact ⟨rfl,⟨ok,E.keep [2,3,5,6,7,8,10]⟩⟩
      have hF:=qcc c183 hF
      have E:=E.upd 67 c183 rfl
      refine lsq E fun a E=>pf E rfl rfl fun a E=>pf E rfl rfl fun a E=>av E rfl fun a E=>wpList_nil ?_
      cases hF
      exact ⟨rfl,⟨ok,E.keep [2,3,5,6,7,8,10]⟩⟩
     refine fk E ok qff qbx rfl 1 rfl rfl fun a E=>lw E (qbu rfl) fun a E=>pt E rfl rfl fun a E=>mv E rfl fun a E=>bu E 64 hF (fun c181 hF E=>?_) fun c181 hF E=>?_
     ·refine lsz E fun a E=>lsq E fun a E=>pt E rfl rfl fun a E=>av E rfl fun a E=>wpList_nil ?_
      cases hF
      exact ⟨rfl,⟨ok,E.keep [2,3,5,6,7,8,10]⟩⟩
     refine fk E ok qff qbx rfl 1 rfl rfl fun a E=>mv E rfl fun a E=>qcp o111.some (fun c182=>?_) (fun c182=>?_)
     ·have hF:=qcg c182 hF
      have E:=E.upd 67 c182 rfl
      refine fk E ok qe9 qbx rfl 0 rfl rfl fun a E=>pt E rfl rfl fun a E=>pf E rfl rfl fun a E=>av E rfl fun a E=>wpList_nil ?_
      cases hF
      exact ⟨rfl,⟨ok,E.keep [2,3,5,6,7,8,10]⟩⟩
     have hF:=qcc c182 hF
     have E:=E.upd 67 c182 rfl
     refine lsq E fun a E=>pf E rfl rfl fun a E=>pf E rfl rfl fun a E=>av E rfl fun a E=>wpList_nil ?_
     cases hF
     exact ⟨rfl,⟨ok,E.keep [2,3,5,6,7,8,10]⟩⟩
   refine sg<|lw E (qau rfl rfl) fun a E=>aw E rfl fun a E=>cf E rfl hF (fun c184 hF=>?_) fun c184 hF=>?_
   ·refine qac<|lv E ok (qag (cs:=[vi x162.Operand,vi x162.Mod,vb x162.Not,c173]) qbc rfl rfl (qab.own 0 rfl rfl)) fun a E=>fk E ok qdN qak rfl 1 rfl rfl fun a E=>bd hF fun r185 e186 hF=>lc E qiN rfl (qb6 N _ x162 ⟨_,rfl,r171,r172,h174⟩ o111.v r126 e186 hG ok) fun w ok a E=>av E rfl fun a E=>wpList_nil ?_
    cases hF
    exact ⟨rfl,⟨ok,E.keep [2,3,5,6,7,8,10]⟩⟩
   refine sg<|lw E (qau rfl rfl) fun a E=>aw E rfl fun a E=>cf E rfl hF (fun c187 hF=>?_) fun c187 hF=>?_
   ·refine qac<|lv E ok (qag (cs:=[vi x162.Operand,vi x162.Mod,vb x162.Not,c173]) qbc rfl rfl (qab.own 0 rfl rfl)) fun a E=>fk E ok qgG qak rfl 1 rfl rfl fun a E=>bd hF fun r188 e189 hF=>lc E qiN rfl (qb6 N _ x162 ⟨_,rfl,r171,r172,h174⟩ o111.w r127 e189 hG ok) fun w ok a E=>av E rfl fun a E=>wpList_nil ?_
    cases hF
    exact ⟨rfl,⟨ok,E.keep [2,3,5,6,7,8,10]⟩⟩
   refine sg<|lw E (qau rfl rfl) fun a E=>aw E rfl fun a E=>cf E rfl hF (fun c190 hF=>?_) fun c190 hF=>?_
   ·refine qac<|lv E ok (qag (cs:=[vi x162.Operand,vi x162.Mod,vb x162.Not,c173]) qbc rfl rfl (qab.own 0 rfl rfl)) fun a E=>fk E ok qds qak rfl 1 rfl rfl fun a E=>bd hF fun r191 e192 hF=>lc E qiN rfl (qb6 N _ x162 ⟨_,rfl,r171,r172,h174⟩ o111.f r128 e192 hG ok) fun w ok a E=>av E rfl fun a E=>wpList_nil ?_
    cases hF
    exact ⟨rfl,⟨ok,E.keep [2,3,5,6,7,8,10]⟩⟩
   refine sg<|lw E (qau rfl rfl) fun a E=>aw E rfl fun a E=>cg E rfl hF (fun c193 hF=>?_) fun c193 hF=>?_
   ·refine wp_skip ?_
    cases hF
    exact ⟨rfl,⟨ok,E.keep [2,3,5,6,7,8,10]⟩⟩
   refine qac<|lv E ok (qag (cs:=[vi x162.Operand,vi x162.Mod,vb x162.Not,c173]) qbc rfl rfl (qab.own 0 rfl rfl)) fun a E=>fk E ok qfG qak rfl 1 rfl rfl fun a E=>bd hF fun r194 e195 hF=>lc E qiN rfl (qb6 N _ x162 ⟨_,rfl,r171,r172,h174⟩ o111.t r129 e195 hG ok) fun w ok a E=>av E rfl fun a E=>wpList_nil ?_
   cases hF
   exact ⟨rfl,⟨ok,E.keep [2,3,5,6,7,8,10]⟩⟩
 refine fk E ok qdL qak rfl 0 rfl rfl fun a E=>lw E (qb7 rfl rfl) fun a E=>pt E rfl rfl fun a E=>wn<|cf E rfl hF (fun c19 hF=>?_) fun c19 hF=>?_
 ·refine sg<|aw E rfl fun a E=>wp_ret<|qaq ?_
  exact fin hF ⟨ok.drop.drop,E.d,rz E rfl⟩
 refine wp_skip<|qaa<|wp_seq<|sg<|fk E ok qdL qak rfl 0 rfl rfl fun a E=>lw E (qau rfl rfl) fun a E=>wn<|bd hF fun o20 hJ hF=>qaG (Q':=fun e a w=>e = .normal ∧ Ok u m0 ([(b17,oc 102 [vi o20.phase,vi o20.whole,vs o20.truth,vb o20.some,vi o20.v,vi o20.w,vi o20.f,vi o20.t])] :: [(b16,oc 100 [c1,c3,vi x_0.whole.bound,vi x_0.whole.mod,vi x_0.part.bound,vi x_0.part.mod])] :: S) w ∧ Env 103 a [(2,vp b16),(3,vp b17)] ∧ InR .i64 o20.phase ∧ InR .i64 o20.whole ∧ o20.truth.length ≤ LIMS ∧ InR .i64 o20.v ∧ InR .i64 o20.w ∧ InR .i64 o20.f ∧ InR .i64 o20.t) ?_ ?_
 ·have hF:=hJ
  refine cg E rfl hF (fun c28 hF=>?_) fun c28 hF=>?_
  ·refine wp_skip ?_
   cases hF
   exact ⟨rfl,⟨ok,E.keep [2,3],r9,r10,l11,r12,r13,r14,r15⟩⟩
  refine qac<|lv E ok (qag (cs:=[c1,c3,vi x_0.whole.bound,vi x_0.whole.mod,vi x_0.part.bound,vi x_0.part.mod]) qhU rfl rfl (qab.own 1 rfl rfl)) fun a E=>fk E ok qiV qak rfl 0 rfl rfl fun a E=>bd hF fun r29 e30 hF=>qan E qnx rfl (qdu N _ x_0 ⟨_,_,rfl,h2,h4,r5,r6,r7,r8⟩ s_1.whole r10 e30 hG ok) rfl rfl ?_
  rintro _ w ⟨⟨rfl,ok⟩,l31⟩
  refine ⟨_,rfl,fun a E=>?_⟩
  refine fv E qj8 rfl fun a E=>qad E ok 0 rfl rfl rfl qqz rfl rfl ⟨rfl,trivial⟩ rfl rfl fun w ok=>wpList_nil ?_
  cases hF
  exact ⟨rfl,⟨ok,E.keep [2,3],r9,r10,l31,r12,r13,r14,r15⟩⟩
 intro e a w hO
 obtain ⟨rfl,ok,E,r32,r33,l34,r35,r36,r37,r38⟩:=hO
 refine qaa<|sg<|aw E rfl fun a E=>wp_seq<|sg<|aw E rfl fun a E=>wp_block<|bd hF fun o41 hL hF=>qaE _ (fun (s:Int × Int) a w=>Ok u m0 ([(b17,oc 102 [vi o20.phase,vi o20.whole,vs o20.truth,vb o20.some,vi o20.v,vi o20.w,vi o20.f,vi o20.t])] :: [(b16,oc 100 [c1,c3,vi x_0.whole.bound,vi x_0.whole.mod,vi x_0.part.bound,vi x_0.part.mod])] :: S) w ∧ Env 103 a [(2,vp b16),(3,vp b17),(5,vi s.1),(6,vi s.2)] ∧ InR .i64 s.1 ∧ InR .i64 s.2) (fun (b:(Unit ⊕ Bool)) e a w=>(Sum.elim (fun b109=>e = (.exit 0) ∧ Ok u m0 ([(b17,oc 102 [vi o20.phase,vi o20.whole,vs o20.truth,vb o20.some,vi o20.v,vi o20.w,vi o20.f,vi o20.t])] :: [(b16,oc 100 [c1,c3,vi x_0.whole.bound,vi x_0.whole.mod,vi x_0.part.bound,vi x_0.part.mod])] :: S) w ∧ Env 103 a []) (fun b110=>e = .ret ∧ qem u m0 S b110 a w)) b) ?_ ?_ N _ a w hL ⟨ok,E.keep [2,3,5,6],(ir 0),(ir 0)⟩
 rotate_left
 ·intro e a w _ hO
  rcases o41 with o41 | o41
  rotate_left
  ·obtain ⟨rfl,hret⟩:=hO
   refine qaz<|qaq ?_
   exact fin hF hret
  have hF:=qca hF
  obtain ⟨rfl,ok,E⟩:=hO
  refine qaM<|qaa<|sg<|aw E rfl fun a E=>wp_ret ?_
  exact fin hF ⟨ok.drop.drop,E.d,rz E rfl⟩
 rintro ⟨v44,v45⟩ a w r ⟨ok,E,r46,r47⟩ hF
 replace hF:qbg N x_0 o20 v44 v45 = some r:=hF
 unfold qbg at hF
 refine wp_seq<|sg<|mv E rfl fun a E=>fk E ok qkA qfh rfl 1 rfl rfl fun a E=>lv E ok (qaD qcM h2 rfl) fun a E=>lw E (qav rfl rfl) fun a E=>wn<|cg E rfl hF (fun c48 hF=>?_) fun c48 hF=>?_
 ·refine wp_exit<|qaA ?_
  cases hF
  exact so (sl ⟨rfl,⟨ok,E.keep []⟩⟩)
 refine wp_skip<|qaa<|wp_seq<|wp_block<|sg<|av E rfl fun a E=>wn<|wp_seq<|sg<|aw E rfl fun a E=>wp_block<|bd hF fun o51 hL hF=>qaE _ (fun (s:Int × Bool × Int) a w=>Ok u m0 ([(b17,oc 102 [vi o20.phase,vi o20.whole,vs o20.truth,vb o20.some,vi o20.v,vi o20.w,vi o20.f,vi o20.t])] :: [(b16,oc 100 [c1,c3,vi x_0.whole.bound,vi x_0.whole.mod,vi x_0.part.bound,vi x_0.part.mod])] :: S) w ∧ Env 103 a [(2,vp b16),(3,vp b17),(5,vi s.1),(6,vi v45),(7,vb s.2.1),(8,vi s.2.2)] ∧ InR .i64 s.1 ∧ InR .i64 s.2.2) (fun (b:(Int × Bool)) e a w=>e = (.exit 2) ∧ Ok u m0 ([(b17,oc 102 [vi o20.phase,vi o20.whole,vs o20.truth,vb o20.some,vi o20.v,vi o20.w,vi o20.f,vi o20.t])] :: [(b16,oc 100 [c1,c3,vi x_0.whole.bound,vi x_0.whole.mod,vi x_0.part.bound,vi x_0.part.mod])] :: S) w ∧ Env 103 a [(2,vp b16),(3,vp b17),(5,vi b.1),(6,vi v45),(7,vb b.2)] ∧ InR .i64 b.1) ?_ ?_ N _ a w hL ⟨ok,E.keep [2,3,5,6,7,8],r46,(ir 0)⟩
 rotate_left
 ·intro e a w _ hO
  obtain ⟨rfl,ok,E,r106⟩:=hO
  refine qaM<|qaa<|sg<|mv E rfl fun a E=>wn<|cg E rfl hF (fun c107 hF=>?_) fun c107 hF=>?_
  ·refine wp_skip<|qal<|qaa<|qac<|mv E rfl fun a E=>lw E (qaw rfl rfl (InR.inc r47 (qam h2) c48)) fun a E=>av E rfl fun a E=>wpList_nil ?_
   cases hF
   exact qas ⟨ok,E.keep [2,3,5,6],r106,(InR.inc r47 (qam h2) c48)⟩
  refine sg<|aw E rfl fun a E=>wp_ret<|qaz<|qaq ?_
  cases hF
  exact so (sr ⟨rfl,⟨ok.drop.drop,E.d,rz E rfl⟩⟩)
 rintro ⟨v54,v55,v56⟩ a w r ⟨ok,E,r57,r58⟩ hF
 replace hF:qbC N x_0 o20 v45 v54 v55 v56 = some r:=hF
 unfold qbC at hF
 refine wp_seq<|sg<|mv E rfl fun a E=>fk E ok qkA qfh rfl 1 rfl rfl fun a E=>mv E rfl fun a E=>?_
 obtain ⟨x59,e60,hF⟩:=bnd hF
 obtain ⟨b61,o62,es63,hl64,rr65,at66,yy67⟩:=ia E 36 37 qcM h2 e60
 obtain ⟨c68,rfl,h69⟩:=qbK rr65
 refine lv E ok (yy67 _ _) fun a E=>lv E ok (qaj qci rfl (qab.ro at66)) fun a E=>lv E ok (qaD qa4 h69 rfl) fun a E=>lw E (qav rfl rfl) fun a E=>wn<|cg E rfl hF (fun c70 hF=>?_) fun c70 hF=>?_
 ·refine wp_exit<|qaA ?_
  cases hF
  exact so (⟨rfl,⟨ok,E.keep [2,3,5,6,7],r57⟩⟩)
 refine wp_skip<|qaa<|wp_seq<|wp_block<|sg<|fk E ok qhY qci rfl 1 rfl rfl fun a E=>mv E rfl fun a E=>?_
 obtain ⟨x71,e72,hF⟩:=bnd hF
 obtain ⟨b73,o74,es75,hl76,rr77,at78,yy79⟩:=ia E 45 46 qa4 h4 e72
 obtain ⟨c82,rfl,r80,r81,h83⟩:=rr77
 refine lv E ok (yy79 _ _) fun a E=>lv E ok (qag (cs:=[vi x71.Operand,vi x71.Mod,vb x71.Not,c82]) qbc rfl rfl (qab.ro at78)) fun a E=>qax E ok qcU rfl rfl fun b84 a w E ok=>qad E ok 0 rfl rfl rfl qfF rfl rfl ⟨rfl,rfl,rfl,(qa5 h83),trivial⟩ rfl rfl fun w ok=>wn<|sg<|fk E ok qj8 qfs rfl 1 rfl rfl fun a E=>mv E rfl fun a E=>bd hF fun c85 e86 hF=>lv E ok (qc7 Tryz.underlying9 rfl rfl e86) fun a E=>lw E (qau rfl rfl) fun a E=>aw E rfl fun a E=>wp_seq<|sg ?_
 refine fk E ok qa2 qak rfl 0 rfl rfl fun a E=>wn<|wp_block<|sg<|lw E (qau rfl rfl) fun a E=>aw E rfl fun a E=>bd hF fun o87 hJ hF=>qaG (Q':=fun e a w=>e = .normal ∧ Ok u m0 ([(b84,oc 69 [vi x71.Operand,vi x71.Mod,vb x71.Not,c82])] :: [(b17,oc 102 [vi o20.phase,vi o20.whole,vs o20.truth,vb o20.some,vi o20.v,vi o20.w,vi o20.f,vi o20.t])] :: [(b16,oc 100 [c1,c3,vi x_0.whole.bound,vi x_0.whole.mod,vi x_0.part.bound,vi x_0.part.mod])] :: S) w ∧ Env 103 a [(2,vp b16),(3,vp b17),(5,vi v54),(6,vi v45),(7,vb v55),(8,vi v56),(10,vb o87)]) ?_ ?_
 rotate_left
 ·intro e a w hO
  obtain ⟨rfl,ok,E⟩:=hO
  refine qal<|qaa<|sg<|mz E rfl rfl fun a E=>qcp v55 (fun c105=>?_) (fun c105=>?_)
  ·have hF:=qcg c105 hF
   have E:=E.upd 97 c105 rfl
   refine mv E rfl fun a E=>pt E rfl rfl fun a E=>aw E rfl fun a E=>qac<|mv E rfl fun a E=>lw E (qbq rfl rfl) fun a E=>av E rfl fun a E=>wpList_nil<|qal<|qaa<|qac<|mv E rfl fun a E=>lw E (qaw rfl rfl (InR.inc r58 (qam h69) c70)) fun a E=>av E rfl fun a E=>wpList_nil ?_
   cases hF
   exact qas ⟨(ok.pk 3 [1,2] rfl (by decide)),E.keep [2,3,5,6,7,8],(InR.wrap _ _),(InR.inc r58 (qam h69) c70)⟩
  have hF:=qcc c105 hF
  have E:=E.upd 97 c105 rfl
  refine ls E fun a E=>pf E rfl rfl fun a E=>aw E rfl fun a E=>qac<|mv E rfl fun a E=>lw E (qbq rfl rfl) fun a E=>av E rfl fun a E=>wpList_nil<|qal<|qaa<|qac<|mv E rfl fun a E=>lw E (qaw rfl rfl (InR.inc r58 (qam h69) c70)) fun a E=>av E rfl fun a E=>wpList_nil ?_
  cases hF
  exact qas ⟨(ok.pk 3 [1,2] rfl (by decide)),E.keep [2,3,5,6,7,8],(InR.wrap _ _),(InR.inc r58 (qam h69) c70)⟩
 have hF:=hJ
 refine cf E rfl hF (fun c88 hF=>?_) fun c88 hF=>?_
 ·as_aux_lemma =>
   refine qac<|mz E rfl rfl fun a E=>bw E 59 hF (fun c89 hF E=>?_) fun c89 hF E=>?_
   ·refine lsq E fun a E=>ls E fun a E=>pf E rfl rfl fun a E=>mv E rfl fun a E=>fk E ok qff qbx rfl 1 rfl rfl fun a E=>mv E rfl fun a E=>qcp o20.some (fun c92=>?_) (fun c92=>?_)
    ·have hF:=qcg c92 hF
     have E:=E.upd 67 c92 rfl
     refine fk E ok qe9 qbx rfl 0 rfl rfl fun a E=>pt E rfl rfl fun a E=>pf E rfl rfl fun a E=>av E rfl fun a E=>wpList_nil ?_
     cases hF
     exact ⟨rfl,⟨ok,E.keep [2,3,5,6,7,8,10]⟩⟩
    have hF:=qcc c92 hF
    have E:=E.upd 67 c92 rfl
    refine lsq E fun a E=>pf E rfl rfl fun a E=>pf E rfl rfl fun a E=>av E rfl fun a E=>wpList_nil ?_
    cases hF
    exact ⟨rfl,⟨ok,E.keep [2,3,5,6,7,8,10]⟩⟩
   refine fk E ok qff qbx rfl 1 rfl rfl fun a E=>lw E (qbu rfl) fun a E=>pt E rfl rfl fun a E=>mv E rfl fun a E=>bu E 64 hF (fun c90 hF E=>?_) fun c90 hF E=>?_
   ·refine lsz E fun a E=>lsq E fun a E=>pt E rfl rfl fun a E=>av E rfl fun a E=>wpList_nil ?_
    cases hF
    exact ⟨rfl,⟨ok,E.keep [2,3,5,6,7,8,10]⟩⟩
   refine fk E ok qff qbx rfl 1 rfl rfl fun a E=>mv E rfl fun a E=>qcp o20.some (fun c91=>?_) (fun c91=>?_)
   ·have hF:=qcg c91 hF
    have E:=E.upd 67 c91 rfl
    refine fk E ok qe9 qbx rfl 0 rfl rfl fun a E=>pt E rfl rfl fun a E=>pf E rfl rfl fun a E=>av E rfl fun a E=>wpList_nil ?_
    cases hF
    exact ⟨rfl,⟨ok,E.keep [2,3,5,6,7,8,10]⟩⟩
   have hF:=qcc c91 hF
   have E:=E.upd 67 c91 rfl
   refine lsq E fun a E=>pf E rfl rfl fun a E=>pf E rfl rfl fun a E=>av E rfl fun a E=>wpList_nil ?_
   cases hF
   exact ⟨rfl,⟨ok,E.keep [2,3,5,6,7,8,10]⟩⟩
 refine sg<|lw E (qau rfl rfl) fun a E=>aw E rfl fun a E=>cf E rfl hF (fun c93 hF=>?_) fun c93 hF=>?_
 ·refine qac<|lv E ok (qag (cs:=[vi x71.Operand,vi x71.Mod,vb x71.Not,c82]) qbc rfl rfl (qab.own 0 rfl rfl)) fun a E=>fk E ok qdN qak rfl 1 rfl rfl fun a E=>bd hF fun r94 e95 hF=>lc E qiN rfl (qb6 N _ x71 ⟨_,rfl,r80,r81,h83⟩ o20.v r35 e95 hG ok) fun w ok a E=>av E rfl fun a E=>wpList_nil ?_
  cases hF
  exact ⟨rfl,⟨ok,E.keep [2,3,5,6,7,8,10]⟩⟩
 refine sg<|lw E (qau rfl rfl) fun a E=>aw E rfl fun a E=>cf E rfl hF (fun c96 hF=>?_) fun c96 hF=>?_
 ·refine qac<|lv E ok (qag (cs:=[vi x71.Operand,vi x71.Mod,vb x71.Not,c82]) qbc rfl rfl (qab.own 0 rfl rfl)) fun a E=>fk E ok qgG qak rfl 1 rfl rfl fun a E=>bd hF fun r97 e98 hF=>lc E qiN rfl (qb6 N _ x71 ⟨_,rfl,r80,r81,h83⟩ o20.w r36 e98 hG ok) fun w ok a E=>av E rfl fun a E=>wpList_nil ?_
  cases hF
  exact ⟨rfl,⟨ok,E.keep [2,3,5,6,7,8,10]⟩⟩
 refine sg<|lw E (qau rfl rfl) fun a E=>aw E rfl fun a E=>cf E rfl hF (fun c99 hF=>?_) fun c99 hF=>?_
 ·refine qac<|lv E ok (qag (cs:=[vi x71.Operand,vi x71.Mod,vb x71.Not,c82]) qbc rfl rfl (qab.own 0 rfl rfl)) fun a E=>fk E ok qds qak rfl 1 rfl rfl fun a E=>bd hF fun r100 e101 hF=>lc E qiN rfl (qb6 N _ x71 ⟨_,rfl,r80,r81,h83⟩ o20.f r37 e101 hG ok) fun w ok a E=>av E rfl fun a E=>wpList_nil ?_
  cases hF
  exact ⟨rfl,⟨ok,E.keep [2,3,5,6,7,8,10]⟩⟩
 refine sg<|lw E (qau rfl rfl) fun a E=>aw E rfl fun a E=>cg E rfl hF (fun c102 hF=>?_) fun c102 hF=>?_
 ·refine wp_skip ?_
  cases hF
  exact ⟨rfl,⟨ok,E.keep [2,3,5,6,7,8,10]⟩⟩
 refine qac<|lv E ok (qag (cs:=[vi x71.Operand,vi x71.Mod,vb x71.Not,c82]) qbc rfl rfl (qab.own 0 rfl rfl)) fun a E=>fk E ok qfG qak rfl 1 rfl rfl fun a E=>bd hF fun r103 e104 hF=>lc E qiN rfl (qb6 N _ x71 ⟨_,rfl,r80,r81,h83⟩ o20.t r38 e104 hG ok) fun w ok a E=>av E rfl fun a E=>wpList_nil ?_
 cases hF
 exact ⟨rfl,⟨ok,E.keep [2,3,5,6,7,8,10]⟩⟩
def qhQ (u:World) (m0:Mem) (S:Segs) (r:Bool) (a:Act) (w:World):Prop :=
 Ok u m0 S w ∧ a.defers = [] ∧ RVs Tryz.prog a w [.t 8 (.bool r)]
theorem qkX (N:Nat) (vd_0:List Value) (d_0:DFA) (hd_0:pDFA m0 vd_0 d_0) (vof_1:Value) (of_1:List (Int)) (hof_1:(pL 1 (pI .i64)) m0 [vof_1] of_1) (a_2:Int) (ra_2:InR .i64 a_2) (b_3:Int) (rb_3:InR .i64 b_3) {r:Bool} (hF:qeV N d_0 of_1 a_2 b_3 = some r) (hG:Glob u) (ok:Ok u m0 S w) :
  Calls Tryz.prog 148 [.agg vd_0.toArray,vof_1,vi a_2,vi b_3].toArray w fun e w'=>(e = .returned (.bool r) ∧ Ok u m0 S w'):=by
 obtain ⟨c2,c4,rfl,r1,h3,h5⟩:=hd_0
 unfold qeV at hF
 refine en (qhQ u m0 S) r Tryz.func148 rfl rfl rfl (fun _ _ h=>ra h rfl) fun fin a E=>sg<|qbz E ok rfl rfl rfl fun b6 a w E ok=>aw E rfl fun a E=>wp_seq<|wp_seq<|qdc (by kernel_rfl) (by kernel_rfl) ok<|qv E (qah rfl) fun a E=>qv E (qah rfl) fun a E=>?_
 obtain ⟨x7,e8,hF⟩:=bnd hF
 obtain ⟨b9,o10,es11,hl12,rr13,at14,yy15⟩:=ia E 10 11 qaJ hof_1 e8
 obtain ⟨rfl,r16⟩:=rr13
 refine qv E (yy15 _ _) fun a E=>qv E (qaj qak rfl (qab.ro at14)) fun a E=>qv E (qah rfl) fun a E=>qv E (qah rfl) fun a E=>?_
 obtain ⟨x17,e18,hF⟩:=bnd hF
 obtain ⟨b19,o20,es21,hl22,rr23,at24,yy25⟩:=ia E 14 15 qaJ hof_1 e18
 obtain ⟨rfl,r26⟩:=rr23
 refine qv E (yy25 _ _) fun a E=>qv E (qaj qak rfl (qab.ro at24)) fun a E=>qv E (qb7 rfl rfl) fun a E=>wpQuiet_nil ?_
 intro w ok
 refine qaa<|cf E rfl hF (fun c27 hF=>?_) fun c27 hF=>?_
 ·refine sg<|aw E rfl fun a E=>wp_ret<|qaq ?_
  exact fin hF ⟨ok.drop,E.d,rz E rfl⟩
 refine wp_skip<|qaa<|wp_seq<|sg<|aw E rfl fun a E=>wp_block<|bd hF fun o29 hL hF=>qaE _ (fun (s:Int) a w=>Ok u m0 ([(b6,oc 34 [vi d_0.Start,c2,c4])] :: S) w ∧ Env 46 a [(1,vof_1),(2,vi a_2),(3,vi b_3),(4,vp b6),(9,vi s)] ∧ InR .i64 s) (fun (b:(Unit ⊕ Bool)) e a w=>(Sum.elim (fun b97=>e = (.exit 0) ∧ Ok u m0 ([(b6,oc 34 [vi d_0.Start,c2,c4])] :: S) w ∧ Env 46 a []) (fun b98=>e = .ret ∧ qhQ u m0 S b98 a w)) b) ?_ ?_ N _ a w hL ⟨ok,E.keep [1,2,3,4,9],(ir 0)⟩
 rotate_left
 ·intro e a w _ hO
  rcases o29 with o29 | o29
  rotate_left
  ·obtain ⟨rfl,hret⟩:=hO
   refine qaz<|qaq ?_
   exact fin hF hret
  have hF:=qca hF
  obtain ⟨rfl,ok,E⟩:=hO
  refine qaM<|qaa<|sg<|aw E rfl fun a E=>wp_ret ?_
  exact fin hF ⟨ok.drop,E.d,rz E rfl⟩
 rintro v31 a w r ⟨ok,E,r32⟩ hF
 replace hF:qcL N d_0 of_1 a_2 b_3 v31 = some r:=hF
 unfold qcL at hF
 refine wp_seq<|sg<|mv E rfl fun a E=>lw E (qav rfl rfl) fun a E=>wn<|cg E rfl hF (fun c33 hF=>?_) fun c33 hF=>?_
 ·refine wp_exit<|qaA ?_
  cases hF
  exact so (sl ⟨rfl,⟨ok,E.keep []⟩⟩)
 refine wp_skip<|qaa<|wp_seq<|wp_block<|wp_seq<|qdc (by kernel_rfl) (by kernel_rfl) ok<|qv E (qah rfl) fun a E=>qv E (qae qbP rfl) fun a E=>qv E (qaj qdf rfl (qab.own 0 rfl rfl)) fun a E=>qv E (qah rfl) fun a E=>?_
 obtain ⟨x34,e35,hF⟩:=bnd hF
 obtain ⟨b36,o37,es38,hl39,rr40,at41,yy42⟩:=ia E 25 26 qcA h3 e35
 obtain ⟨c43,rfl,h44⟩:=qbK rr40
 refine qv E (yy42 _ _) fun a E=>qv E (qaj qc3 rfl (qab.ro at41)) fun a E=>qv E (qah rfl) fun a E=>?_
 obtain ⟨x45,e46,hF⟩:=bnd hF
 obtain ⟨b47,o48,es49,hl50,rr51,at52,yy53⟩:=ia E 28 29 qaJ h44 e46
 obtain ⟨rfl,r54⟩:=rr51
 refine qv E (yy53 _ _) fun a E=>qv E (qaj qak rfl (qab.ro at52)) fun a E=>?_
 obtain ⟨x55,e56,hF⟩:=bnd hF
 obtain ⟨b57,o58,es59,hl60,rr61,at62,yy63⟩:=ia E 23 31 qaJ hof_1 e56
 obtain ⟨rfl,r64⟩:=rr61
 refine qv E (yy63 _ _) fun a E=>qv E (qaj qak rfl (qab.ro at62)) fun a E=>qv E (qah rfl) fun a E=>qv E (qae qbP rfl) fun a E=>qv E (qaj qdf rfl (qab.own 0 rfl rfl)) fun a E=>qv E (qah rfl) fun a E=>?_
 obtain ⟨x65,e66,hF⟩:=bnd hF
 obtain ⟨b67,o68,es69,hl70,rr71,at72,yy73⟩:=ia E 36 37 qcA h3 e66
 obtain ⟨c74,rfl,h75⟩:=qbK rr71
 refine qv E (yy73 _ _) fun a E=>qv E (qaj qc3 rfl (qab.ro at72)) fun a E=>qv E (qah rfl) fun a E=>?_
 obtain ⟨x76,e77,hF⟩:=bnd hF
 obtain ⟨b78,o79,es80,hl81,rr82,at83,yy84⟩:=ia E 39 40 qaJ h75 e77
 obtain ⟨rfl,r85⟩:=rr82
 refine qv E (yy84 _ _) fun a E=>qv E (qaj qak rfl (qab.ro at83)) fun a E=>?_
 obtain ⟨x86,e87,hF⟩:=bnd hF
 obtain ⟨b88,o89,es90,hl91,rr92,at93,yy94⟩:=ia E 34 42 qaJ hof_1 e87
 obtain ⟨rfl,r95⟩:=rr92
 refine qv E (yy94 _ _) fun a E=>qv E (qaj qak rfl (qab.ro at93)) fun a E=>qv E (qb7 rfl rfl) fun a E=>wpQuiet_nil ?_
 intro w ok
 refine qaa<|cg E rfl hF (fun c96 hF=>?_) fun c96 hF=>?_
 ·refine wp_skip<|qal<|qaa<|qac<|mv E rfl fun a E=>lw E (qaw rfl rfl (InR.inc r32 (ir 11) c33)) fun a E=>av E rfl fun a E=>wpList_nil ?_
  cases hF
  exact qas ⟨ok,E.keep [1,2,3,4,9],(InR.inc r32 (ir 11) c33)⟩
 refine sg<|aw E rfl fun a E=>wp_ret<|qaz<|qaq ?_
 cases hF
 exact so (sr ⟨rfl,⟨ok.drop,E.d,rz E rfl⟩⟩)
def qfY (u:World) (m0:Mem) (S:Segs) (r:(List (Int))) (a:Act) (w:World):Prop :=
 ∃ m1 v0,m0.le m1 ∧ Ok u m1 S w ∧ a.defers = [] ∧ RVs Tryz.prog a w [.t 2 v0] ∧ (pL 1 (pI .i64)) m1 [v0] r
theorem qj6 (N:Nat) (vd_0:List Value) (d_0:DFA) (hd_0:pDFA m0 vd_0 d_0) {r:(List (Int))} (hF:qei N d_0 = some r) (hG:Glob u) (ok:Ok u m0 S w) :
  Calls Tryz.prog 118 [.agg vd_0.toArray].toArray w fun e w'=>∃ m1 v0,e = .returned v0 ∧ m0.le m1 ∧ Ok u m1 S w' ∧ (pL 1 (pI .i64)) m1 [v0] r:=by
 obtain ⟨c2,c4,rfl,r1,h3,h5⟩:=hd_0
 have le_m0:=Mem.le.refl m0
 unfold qei at hF
 refine en (qfY u m0 S) r Tryz.func118 rfl rfl rfl (fun _ _ h=>rc h fun _=>rfl) fun fin a E=>sg<|qbz E ok rfl rfl rfl fun b6 a w E ok=>aw E rfl fun a E=>sg<|fk E ok qbP qdf rfl 0 rfl rfl fun a E=>lv E ok (qaD qcA h3 rfl) fun a E=>aw E rfl fun a E=>sg<|aw E rfl fun a E=>sg<|av E rfl fun a E=>wn<|wp_seq<|sg<|aw E rfl fun a E=>wp_block ?_
 obtain ⟨M12,ok,h13⟩:=qcf (e:=3) (k:=1) (R:=(pI .i64)) ok
 refine bd hF fun o14 hL hF=>qaE _ (fun (s:(List (Int)) × Int) a w=>∃ c15 M16,Ok u m0 (M16 :: [(b6,oc 34 [vi d_0.Start,c2,c4])] :: S) w ∧ Env 71 a [(1,vp b6),(3,(vi (d_0.Next.length:Int))),(4,c15),(5,vi 1),(6,vi s.2)] ∧ ORow 3 1 (pI .i64) m0 c15 s.1 M16 ∧ InR .i64 s.2) (fun (b:((List (Int)))) e a w=>e = (.exit 0) ∧ ∃ c162 M163,Ok u m0 (M163 :: [(b6,oc 34 [vi d_0.Start,c2,c4])] :: S) w ∧ Env 71 a [(1,vp b6),(3,(vi (d_0.Next.length:Int))),(4,c162),(5,vi 1)] ∧ ORow 3 1 (pI .i64) m0 c162 b M163) ?_ ?_ N _ a w hL ⟨(Value.slice none 0 0),M12,ok,E.keep [1,3,4,5,6],h13,(ir 0)⟩
 ·rintro ⟨v19,v20⟩ a w r ⟨c21,M22,ok,E,h23,r24⟩ hF
  replace hF:qcT N d_0 v19 v20 = some r:=hF
  unfold qcT at hF
  refine wp_seq<|sg<|mz E rfl rfl fun a E=>lw E (qav rfl rfl) fun a E=>wn<|cg E rfl hF (fun c25 hF=>?_) fun c25 hF=>?_
  ·refine wp_exit<|qaA ?_
   cases hF
   exact so (⟨rfl,⟨c21,M22,ok,E.keep [1,3,4,5],h23⟩⟩)
  refine wp_skip<|qaa<|wp_seq<|wp_block<|sg<|av E rfl fun a E=>wn<|wp_seq<|sg<|fk E ok qc9 qd3 rfl 1 rfl rfl fun a E=>mv E rfl fun a E=>?_
  obtain ⟨x26,e27,hF⟩:=bnd hF
  obtain ⟨b28,o29,es30,hl31,rr32,at33,yy34⟩:=ia E 21 22 qce h5 e27
  obtain rfl:=rr32
  refine lv E ok (yy34 _ _) fun a E=>lv E ok (qaj qbx rfl (qab.ro at33)) fun a E=>wn<|bd hF fun o35 hJ hF=>qaG (Q':=fun e a w=>e = .normal ∧ Ok u m0 (M22 :: [(b6,oc 34 [vi d_0.Start,c2,c4])] :: S) w ∧ Env 71 a [(1,vp b6),(3,(vi (d_0.Next.length:Int))),(4,c21),(5,vi 1),(6,vi v20),(7,vi o35)] ∧ InR .i64 o35) ?_ ?_
  ·have hF:=hJ
   refine cg E rfl hF (fun c37 hF=>?_) fun c37 hF=>?_
   ·refine wp_skip ?_
    cases hF
    exact ⟨rfl,⟨ok,E.keep [1,3,4,5,6,7],(ir 0)⟩⟩
   refine qac<|av E rfl fun a E=>wpList_nil ?_
   cases hF
   exact ⟨rfl,⟨ok,E.keep [1,3,4,5,6,7],(ir 1)⟩⟩
  intro e a w hO
  obtain ⟨rfl,ok,E,r38⟩:=hO
  refine qaa<|qac<|mz E rfl rfl fun a E=>qaW (R:=(pI .i64)) (xo:=[.tmp 26]) (xs:=([o35]:List (Int))) E ok qaJ qbl rfl ⟨⟨_,rfl,rfl,(qaX r38)⟩,trivial⟩ rfl rfl rfl rfl fun c39 M40 a w E ok h41=>bd hF fun l42 e43 hF=>qbo (R:=(pI .i64)) E ok 1 (mI .i64) qaJ Tryz.underlying72 rfl h23 (qa0.ofRow h41 0 rfl ok) e43 ⟨_,qbl,rfl⟩ rfl rfl rfl rfl fun c44 M45 a w E ok h46=>av E rfl fun a E=>wpList_nil<|qal<|qaa<|qac<|mv E rfl fun a E=>lw E (qaw rfl rfl (InR.inc r24 (qam h3) c25)) fun a E=>av E rfl fun a E=>wpList_nil ?_
  cases hF
  exact qas ⟨c44,M45,(ok.pk 3 [1,2] rfl (by decide)),E.keep [1,3,4,5,6],h46,(InR.inc r24 (qam h3) c25)⟩
 intro e a w _ hO
 obtain ⟨rfl,c47,M48,ok,E,h49⟩:=hO
 refine qaM<|qaa<|wp_block<|bd hF fun o54 hL hF=>qaE _ (fun (s:(List (Int)) × Int) a w=>∃ c55 M56,Ok u m0 (M56 :: [(b6,oc 34 [vi d_0.Start,c2,c4])] :: S) w ∧ Env 71 a [(1,vp b6),(3,(vi (d_0.Next.length:Int))),(4,c55),(5,vi s.2)] ∧ ORow 3 1 (pI .i64) m0 c55 s.1 M56 ∧ InR .i64 s.2) (fun (b:((List (Int)))) e a w=>e = .ret ∧ qfY u m0 S b a w) ?_ ?_ N _ a w hL ⟨c47,M48,ok,E.keep [1,3,4,5],h49,(ir 1)⟩
 rotate_left
 ·intro e a w _ hO
  obtain ⟨rfl,hret⟩:=hO
  refine qaz ?_
  exact fin hF hret
 rintro ⟨v59,v60⟩ a w r ⟨c61,M62,ok,E,h63,r64⟩ hF
 replace hF:qdE N d_0 v59 v60 = some r:=hF
 unfold qdE at hF
 refine wp_block<|sg<|av E rfl fun a E=>aw E rfl fun a E=>wp_seq<|sg<|aw E rfl fun a E=>wp_block ?_
 obtain ⟨M73,ok,h74⟩:=qcf (e:=3) (k:=1) (R:=(pI .i64)) ok
 obtain ⟨M75,ok,h76⟩:=qcf (e:=3) (k:=1) (R:=(pI .i64)) ok
 refine bd hF fun o77 hL hF=>qaE _ (fun (s:(List (Int)) × (List (Int)) × Int) a w=>∃ c78 M79 c81 M82,Ok u m0 (M82 :: M79 :: M62 :: [(b6,oc 34 [vi d_0.Start,c2,c4])] :: S) w ∧ Env 71 a [(1,vp b6),(3,(vi (d_0.Next.length:Int))),(4,c61),(5,vi v60),(8,c78),(9,c81),(10,vi s.2.2)] ∧ ORow 3 1 (pI .i64) m0 c78 s.1 M79 ∧ ORow 3 1 (pI .i64) m0 c81 s.2.1 M82 ∧ InR .i64 s.2.2) (fun (b:((List (Int)) × (List (Int)))) e a w=>e = (.exit 4) ∧ ∃ c156 M157 c159 M160,Ok u m0 (M160 :: M157 :: M62 :: [(b6,oc 34 [vi d_0.Start,c2,c4])] :: S) w ∧ Env 71 a [(1,vp b6),(3,(vi (d_0.Next.length:Int))),(5,vi v60),(8,c156),(9,c159)] ∧ ORow 3 1 (pI .i64) m0 c156 b.1 M157 ∧ ORow 3 1 (pI .i64) m0 c159 b.2 M160) ?_ ?_ N _ a w hL ⟨(Value.slice none 0 0),M73,(Value.slice none 0 0),M75,ok,E.keep [1,3,4,5,8,9,10],h74,h76,(ir 0)⟩
 rotate_left
 ·intro e a w _ hO
  obtain ⟨rfl,c147,M148,c150,M151,ok,E,h149,h152⟩:=hO
  refine qaM<|qaa<|sg<|mv E rfl fun a E=>aw E rfl fun a E=>wp_seq<|sg<|mv E rfl fun a E=>lv E ok (qcF qaJ h152 rfl) fun a E=>mv E rfl fun a E=>lw E (qau rfl rfl) fun a E=>wn<|cg E rfl hF (fun c153 hF=>?_) fun c153 hF=>?_
  ·refine wp_skip<|qaa<|qac<|mv E rfl fun a E=>lv E ok (qcF qaJ h152 rfl) fun a E=>av E rfl fun a E=>wpList_nil<|qal ?_
   cases hF
   exact qas ⟨c147,M148,(ok.pk 4 [1,3] rfl (by decide)),E.keep [1,3,4,5],h149,(ORow.InR h152)⟩
  refine sg<|mv E rfl fun a E=>aw E rfl fun a E=>wp_ret<|qaq<|qaz ?_
  obtain ⟨m154,hle,ok,hfz⟩:=(ok.frs 1 rfl).freeze
  have h155:=ORow.froz (mI .i64) h149 hle hfz (by decide)
  have le_m0:=le_m0.trans hle
  have h3:=(mL (mL (mI .i64))).up hle h3
  have h5:=(mL mB).up hle h5
  have h152:=ORow.up (mI .i64) hle h152
  have hret:qfY u m0 S o77.1 a w:=⟨m154,c147,le_m0,ok.drop.drop.drop,E.d,rz E rfl,h155⟩
  cases hF
  exact so (⟨rfl,hret⟩)
 rintro ⟨v85,v86,v87⟩ a w r ⟨c88,M89,c91,M92,ok,E,h90,h93,r94⟩ hF
 replace hF:qcR N d_0 v59 v85 v86 v87 = some r:=hF
 unfold qcR at hF
 refine wp_seq<|sg<|mz E rfl rfl fun a E=>lw E (qav rfl rfl) fun a E=>wn<|cg E rfl hF (fun c95 hF=>?_) fun c95 hF=>?_
 ·refine wp_exit<|qaA ?_
  cases hF
  exact so (⟨rfl,⟨c88,M89,c91,M92,ok,E.keep [1,3,5,8,9],h90,h93⟩⟩)
 refine wp_skip<|qaa<|wp_seq<|wp_block<|sg<|av E rfl fun a E=>wn<|wp_seq<|wp_block<|bd hF fun o97 hL hF=>qaE _ (fun (s:Int) a w=>Ok u m0 (M92 :: M89 :: M62 :: [(b6,oc 34 [vi d_0.Start,c2,c4])] :: S) w ∧ Env 71 a [(1,vp b6),(3,(vi (d_0.Next.length:Int))),(4,c61),(5,vi v60),(8,c88),(9,c91),(10,vi v87),(11,vi s)] ∧ InR .i64 s) (fun (b:Int) e a w=>e = (.exit 6) ∧ Ok u m0 (M92 :: M89 :: M62 :: [(b6,oc 34 [vi d_0.Start,c2,c4])] :: S) w ∧ Env 71 a [(1,vp b6),(3,(vi (d_0.Next.length:Int))),(4,c61),(5,vi v60),(8,c88),(9,c91),(10,vi v87),(11,vi b)] ∧ InR .i64 b) ?_ ?_ N _ a w hL ⟨ok,E.keep [1,3,4,5,8,9,10,11],(ir 0)⟩
 rotate_left
 ·intro e a w _ hO
  obtain ⟨rfl,ok,E,r121⟩:=hO
  refine qaM<|qaa<|wp_seq<|sg<|mz E rfl rfl fun a E=>lv E ok (qcF qaJ h93 rfl) fun a E=>lw E (qau rfl rfl) fun a E=>wn<|bd hF fun o122 hJ hF=>qaG (Q':=fun e a w=>e = .normal ∧ ∃ c123 M124,Ok u m0 (M124 :: M89 :: M62 :: [(b6,oc 34 [vi d_0.Start,c2,c4])] :: S) w ∧ Env 71 a [(1,vp b6),(3,(vi (d_0.Next.length:Int))),(4,c61),(5,vi v60),(8,c88),(9,c123),(10,vi v87),(11,vi o97)] ∧ ORow 3 1 (pI .i64) m0 c123 o122 M124) ?_ ?_
  ·have hF:=hJ
   refine cg E rfl hF (fun c126 hF=>?_) fun c126 hF=>?_
   ·refine wp_skip ?_
    cases hF
    exact ⟨rfl,⟨c91,M92,ok,E.keep [1,3,4,5,8,9,10,11],h93⟩⟩
   refine qac<|mz E rfl rfl fun a E=>qaW (R:=(pI .i64)) (xo:=[.tmp 56]) (xs:=([v87]:List (Int))) E ok qaJ qbl rfl ⟨⟨_,rfl,rfl,(qaX r94)⟩,trivial⟩ rfl rfl rfl rfl fun c127 M128 a w E ok h129=>bd hF fun l130 e131 hF=>qbo (R:=(pI .i64)) E ok 1 (mI .i64) qaJ Tryz.underlying72 rfl h93 (qa0.ofRow h129 0 rfl ok) e131 ⟨_,qbl,rfl⟩ rfl rfl rfl rfl fun c132 M133 a w E ok h134=>av E rfl fun a E=>wpList_nil ?_
   cases hF
   exact ⟨rfl,⟨c132,M133,(ok.pk 5 [1,2,3,4] rfl (by decide)),E.keep [1,3,4,5,8,9,10,11],h134⟩⟩
  intro e a w hO
  obtain ⟨rfl,c135,M136,ok,E,h137⟩:=hO
  refine qaa<|qac<|mz E rfl rfl fun a E=>qaW (R:=(pI .i64)) (xo:=[.tmp 60]) (xs:=([o97]:List (Int))) E ok qaJ qbl rfl ⟨⟨_,rfl,rfl,(qaX r121)⟩,trivial⟩ rfl rfl rfl rfl fun c138 M139 a w E ok h140=>bd hF fun l141 e142 hF=>qbo (R:=(pI .i64)) E ok 2 (mI .i64) qaJ Tryz.underlying72 rfl h90 (qa0.ofRow h140 0 rfl ok) e142 ⟨_,qbl,rfl⟩ rfl rfl rfl rfl fun c143 M144 a w E ok h145=>av E rfl fun a E=>wpList_nil<|qal<|qaa<|qac<|mv E rfl fun a E=>lw E (qaw rfl rfl (InR.inc r94 (qam h3) c95)) fun a E=>av E rfl fun a E=>wpList_nil ?_
  cases hF
  exact qas ⟨c143,M144,c135,M136,(ok.pk 5 [1,2,3,4] rfl (by decide)),E.keep [1,3,4,5,8,9,10],h145,h137,(InR.inc r94 (qam h3) c95)⟩
 rintro v99 a w r ⟨ok,E,r100⟩ hF
 replace hF:qck N d_0 v59 v86 v87 v99 = some r:=hF
 unfold qck at hF
 refine wp_seq<|wp_seq<|qdc (by kernel_rfl) (by kernel_rfl) ok<|qv E (qah rfl) fun a E=>qv E (qah rfl) fun a E=>qv E (qcF qaJ h93 rfl) fun a E=>qv E (qav rfl rfl) fun a E=>qv E (qah rfl) fun a E=>bw E 38 hF (fun c101 hF E=>?_) fun c101 hF E=>?_
 ·refine qs E fun a E=>qs E fun a E=>qs E fun a E=>qs E fun a E=>qs E fun a E=>qs E fun a E=>qs E fun a E=>qs E fun a E=>qs E fun a E=>qv E (qa1 rfl rfl) fun a E=>wpQuiet_nil ?_
  intro w ok
  refine qaa<|c_if E rfl (fun h=>by cases h) (fun _=>?_)
  refine wp_exit<|qaA ?_
  cases hF
  exact so (⟨rfl,⟨ok,E.keep [1,3,4,5,8,9,10,11],r100⟩⟩)
 refine qv E (qag (cs:=[vi d_0.Start,c2,c4]) qc4 rfl rfl (qab.own 3 rfl rfl)) fun a E=>qv E (qah rfl) fun a E=>qv E (qah rfl) fun a E=>qv E (qah rfl) fun a E=>qv E (qah rfl) fun a E=>?_
 obtain ⟨x102,e103,hF⟩:=bnd hF
 obtain ⟨b104,o105,hp106,yy107⟩:=qbR qaJ h93 e103 (P:=Tryz.prog) (X:=.tmp 42) (I:=.tmp 43) (kd:=.i64) (qaT E rfl) (qaT E rfl)
 refine qv E (yy107 _ _) fun a E=>?_
 obtain ⟨es108,hl109,rr110,hh111⟩:=qb9 h93 e103 hp106 (by decide)
 obtain ⟨rfl,r112⟩:=rr110
 refine qv E (qaj qak rfl (hh111 _ _ _ 0 rfl)) fun a E=>bd hF fun r118 e119 hF=>qgn E (v:=(vb r118)) qrJ rfl (fun w ok=>?_) rfl rfl fun a E=>?_
 ·obtain ⟨m113,hle115,ok114,hfz116⟩:=(ok.frs 2 rfl).freeze
  have h117:=ORow.froz (mI .i64) h63 hle115 hfz116 (by decide)
  have h3':=(mL (mL (mI .i64))).up hle115 h3
  have h5':=(mL mB).up hle115 h5
  refine Calls.mono (qkX N _ d_0 ⟨_,_,rfl,r1,h3',h5'⟩ _ v59 h117 v87 r94 x102 r112 e119 hG ok114) fun _ _ hz=>?_
  obtain ⟨hz1,okz⟩:=hz
  exact ⟨hz1,(Ok.thawAt 2 rfl ok hle115 hfz116 okz)⟩
 refine qv E (qbu rfl) fun a E=>qv E (qa8 rfl rfl) fun a E=>wpQuiet_nil ?_
 intro w ok
 refine qaa<|cg E rfl hF (fun c120 hF=>?_) fun c120 hF=>?_
 ·refine wp_exit<|qaA ?_
  cases hF
  exact so (⟨rfl,⟨ok,E.keep [1,3,4,5,8,9,10,11],r100⟩⟩)
 refine wp_skip<|qaa<|wp_block<|qac<|mv E rfl fun a E=>lw E (qaw rfl rfl (InR.inc r100 (ORow.InR h93) c101)) fun a E=>av E rfl fun a E=>wpList_nil<|qal ?_
 cases hF
 exact qas ⟨ok,E.keep [1,3,4,5,8,9,10,11],(InR.inc r100 (ORow.InR h93) c101)⟩
def qhS (u:World) (m0:Mem) (S:Segs) (r:Int) (a:Act) (w:World):Prop :=
 Ok u m0 S w ∧ a.defers = [] ∧ RVs Tryz.prog a w [.t 4 (.int .i64 r)] ∧ InR .i64 r
theorem qkR (N:Nat) (vl_0:Value) (l_0:List (Int)) (hl_0:(pL 1 (pI .i64)) m0 [vl_0] l_0) (n_1:Int) (rn_1:InR .i64 n_1) {r:Int} (hF:qeY N l_0 n_1 = some r) (hG:Glob u) (ok:Ok u m0 S w) :
  Calls Tryz.prog 119 [vl_0,vi n_1].toArray w fun e w'=>(e = .returned (.int .i64 r) ∧ Ok u m0 S w') ∧ InR .i64 r:=by
 unfold qeY at hF
 refine en (qhS u m0 S) r Tryz.func119 rfl rfl rfl (fun _ _ h=>rb h rfl) fun fin a E=>sg<|aw E rfl fun a E=>wp_seq<|sg<|aw E rfl fun a E=>wp_block<|bd hF fun o2 hL hF=>qaE _ (fun (s:Int) a w=>Ok u m0 (S) w ∧ Env 19 a [(0,vl_0),(1,vi n_1),(5,vi s)] ∧ InR .i64 s) (fun (b:(Unit ⊕ Int)) e a w=>(Sum.elim (fun b18=>e = (.exit 0) ∧ Ok u m0 (S) w ∧ Env 19 a []) (fun b19=>e = .ret ∧ qhS u m0 S b19 a w)) b) ?_ ?_ N _ a w hL ⟨ok,E.keep [0,1,5],(ir 0)⟩
 rotate_left
 ·intro e a w _ hO
  rcases o2 with o2 | o2
  rotate_left
  ·obtain ⟨rfl,hret⟩:=hO
   refine qaz<|qaq ?_
   exact fin hF hret
  have hF:=qca hF
  obtain ⟨rfl,ok,E⟩:=hO
  refine qaM<|qaa<|sg<|aw E rfl fun a E=>wp_ret ?_
  exact fin hF ⟨ok,E.d,rz E rfl,(ir (-1))⟩
 rintro v4 a w r ⟨ok,E,r5⟩ hF
 replace hF:qdk N l_0 n_1 v4 = some r:=hF
 unfold qdk at hF
 refine wp_seq<|sg<|mz E rfl rfl fun a E=>lv E ok (qaD qaJ hl_0 rfl) fun a E=>lw E (qav rfl rfl) fun a E=>wn<|cg E rfl hF (fun c6 hF=>?_) fun c6 hF=>?_
 ·refine wp_exit<|qaA ?_
  cases hF
  exact so (sl ⟨rfl,⟨ok,E.keep []⟩⟩)
 refine wp_skip<|qaa<|wp_seq<|wp_block<|sg<|mz E rfl rfl fun a E=>?_
 obtain ⟨x7,e8,hF⟩:=bnd hF
 obtain ⟨b9,o10,es11,hl12,rr13,at14,yy15⟩:=ia E 12 13 qaJ hl_0 e8
 obtain ⟨rfl,r16⟩:=rr13
 refine lv E ok (yy15 _ _) fun a E=>lv E ok (qaj qak rfl (qab.ro at14)) fun a E=>mv E rfl fun a E=>lw E (qau rfl rfl) fun a E=>wn<|cg E rfl hF (fun c17 hF=>?_) fun c17 hF=>?_
 ·refine wp_skip<|qal<|qaa<|qac<|mv E rfl fun a E=>lw E (qaw rfl rfl (InR.inc r5 (qam hl_0) c6)) fun a E=>av E rfl fun a E=>wpList_nil ?_
  cases hF
  exact qas ⟨ok,E.keep [0,1,5],(InR.inc r5 (qam hl_0) c6)⟩
 refine sg<|mv E rfl fun a E=>aw E rfl fun a E=>wp_ret<|qaz<|qaq ?_
 cases hF
 exact so (sr ⟨rfl,⟨ok,E.d,rz E rfl,r5⟩⟩)
end Go.Proofs.YtidfofhmnlhfjaaGreatDoor
namespace Go.Proofs.YtidfofhmnlhfjaaGreatDoor
open Go.X
variable {u:World} {m0:Mem} {S:Segs} {w:World}
set_option maxHeartbeats 4000000
set_option maxRecDepth 100000
def qjF (u:World) (m0:Mem) (S:Segs) (r:DFA) (a:Act) (w:World):Prop :=
 ∃ m1 v0,m0.le m1 ∧ Ok u m1 S w ∧ a.defers = [] ∧ RVs Tryz.prog a w [.c 2 34 (.agg v0.toArray)] ∧ pDFA m1 v0 r
theorem qho (N:Nat) (vd_0:List Value) (d_0:DFA) (hd_0:pDFA m0 vd_0 d_0) {r:DFA} (hF:qdz N d_0 = some r) (hG:Glob u) (ok:Ok u m0 S w) :
  Calls Tryz.prog 87 [.agg vd_0.toArray].toArray w fun e w'=>∃ m1 v0,e = .returned (.agg v0.toArray) ∧ m0.le m1 ∧ Ok u m1 S w' ∧ pDFA m1 v0 r:=by
 obtain ⟨c2,c4,rfl,r1,h3,h5⟩:=hd_0
 have le_m0:=Mem.le.refl m0
 unfold qdz at hF
 refine en (qjF u m0 S) r Tryz.func87 rfl rfl rfl (by rintro a w ⟨m1,v0,hle,ok,hd,hrv,h0⟩; exact qbG [.c 2 34 (.agg v0.toArray)] hd rfl hrv ⟨m1,v0,rfl,hle,ok,h0⟩) fun fin a E=>sg<|qbz E ok rfl rfl rfl fun b6 a w E ok=>qax E ok qdB rfl rfl fun b7 a w E ok=>wn<|sg<|lv E ok (qag (cs:=[vi d_0.Start,c2,c4]) qc4 rfl rfl (qab.own 1 rfl rfl)) fun a E=>bd hF fun r8 e9 hF=>qan E qsj rfl (qj6 N _ d_0 ⟨_,_,rfl,r1,h3,h5⟩ e9 hG ok) rfl rfl ?_
 rintro _ w ⟨m10,c11,rfl,hle,ok,h12⟩
 have le_m0:=le_m0.trans hle
 have h3:=(mL (mL (mI .i64))).up hle h3
 have h5:=(mL mB).up hle h5
 refine ⟨_,rfl,fun a E=>?_⟩
 refine aw E rfl fun a E=>sg<|mv E rfl fun a E=>fk E ok qiU qak rfl 1 rfl rfl fun a E=>?_
 obtain ⟨x13,e14,hF⟩:=bnd hF
 obtain ⟨b15,o16,es17,hl18,rr19,at20,yy21⟩:=ia E 14 16 qaJ h12 e14
 obtain ⟨rfl,r22⟩:=rr19
 refine lv E ok (yy21 _ _) fun a E=>lv E ok (qaj qak rfl (qab.ro at20)) fun a E=>qaW (R:=(pI .i64)) (xo:=[.tmp 18]) (xs:=([x13]:List (Int))) E ok qaJ qbl rfl ⟨⟨_,rfl,rfl,(qaX r22)⟩,trivial⟩ rfl rfl rfl rfl fun c23 M24 a w E ok h25=>aw E rfl fun a E=>sg<|fk E ok qiU qak rfl 2 rfl rfl fun a E=>qaW (R:=(pI .i64)) (xo:=[.tmp 21]) (xs:=([d_0.Start]:List (Int))) E ok qaJ qbl rfl ⟨⟨_,rfl,rfl,(qaX r1)⟩,trivial⟩ rfl rfl rfl rfl fun c26 M27 a w E ok h28=>aw E rfl fun a E=>sg<|qax E ok qdB rfl rfl fun b29 a w E ok=>wn<|wp_seq<|sg<|av E rfl fun a E=>wn<|wp_block ?_
 obtain ⟨M51,ok,h52⟩:=qcf (e:=72) (k:=1) (R:=(pL 1 (pI .i64))) ok
 obtain ⟨M53,ok,h54⟩:=qcf (e:=4) (k:=1) (R:=pB) ok
 refine bd hF fun o55 hL hF=>qaE _ (fun (s:(List (Int)) × (List (Int)) × Int × DFA) a w=>∃ m56 c57 M58 c60 M61 c65 M66 c68 M69,m10.le m56 ∧ Ok u m56 (M69 :: M66 :: [(b29,oc 34 [vi s.2.2.2.Start,c65,c68])] :: M61 :: M58 :: [(b7,oc 34 [vi 0,(Value.slice none 0 0),(Value.slice none 0 0)])] :: [(b6,oc 34 [vi d_0.Start,c2,c4])] :: S) w ∧ Env 89 a [(1,vp b6),(2,vp b7),(3,c11),(4,c57),(5,c60),(6,vp b29),(7,vi s.2.2.1)] ∧ ORow 3 1 (pI .i64) m56 c57 s.1 M58 ∧ ORow 3 1 (pI .i64) m56 c60 s.2.1 M61 ∧ InR .i64 s.2.2.1 ∧ InR .i64 s.2.2.2.Start ∧ ORow 72 1 (pL 1 (pI .i64)) m56 c65 s.2.2.2.Next M66 ∧ ORow 4 1 pB m56 c68 s.2.2.2.Accept M69) (fun (b:DFA) e a w=>e = (.exit 0) ∧ ∃ m374 c376 M377 c379 M380,m10.le m374 ∧ Ok u m374 (M380 :: M377 :: [(b29,oc 34 [vi b.Start,c376,c379])] :: [(b7,oc 34 [vi 0,(Value.slice none 0 0),(Value.slice none 0 0)])] :: [(b6,oc 34 [vi d_0.Start,c2,c4])] :: S) w ∧ Env 89 a [(2,vp b7),(6,vp b29)] ∧ InR .i64 b.Start ∧ ORow 72 1 (pL 1 (pI .i64)) m374 c376 b.Next M377 ∧ ORow 4 1 pB m374 c379 b.Accept M380) ?_ ?_ N _ a w hL ⟨m10,c23,M24,c26,M27,(Value.slice none 0 0),M51,(Value.slice none 0 0),M53,Mem.le.refl _,ok,E.keep [1,2,3,4,5,6,7],h25,h28,(ir 0),(ir 0),h52,h54⟩
 rotate_left
 ·intro e a w _ hO
  obtain ⟨rfl,m362,c364,M365,c367,M368,hle,ok,E,r363,h366,h369⟩:=hO
  have le_m0:=le_m0.trans hle
  have h3:=(mL (mL (mI .i64))).up hle h3
  have h5:=(mL mB).up hle h5
  have h12:=(mL (mI .i64)).up hle h12
  have at20:=At.up hle at20
  refine qaM<|qaa<|sg<|lv E ok (qag (cs:=[vi o55.Start,c364,c367]) qc4 rfl rfl (qab.own 2 rfl rfl)) fun a E=>qad E ok 3 rfl rfl rfl qfc rfl rfl ⟨rfl,(ORow.one h366),(ORow.one h369),trivial⟩ rfl rfl fun w ok=>wn<|wp_ret ?_
  obtain ⟨m370,hle,ok,hfz⟩:=(ok.frs 1 rfl).freeze
  have h371:=ORow.froz (mL (mI .i64)) h366 hle hfz (by decide)
  have le_m0:=le_m0.trans hle
  have h3:=(mL (mL (mI .i64))).up hle h3
  have h5:=(mL mB).up hle h5
  have h12:=(mL (mI .i64)).up hle h12
  have at20:=At.up hle at20
  have h369:=ORow.up mB hle h369
  obtain ⟨m372,hle,ok,hfz⟩:=(ok.frs 0 rfl).freeze
  have h373:=ORow.froz mB h369 hle hfz (by decide)
  have le_m0:=le_m0.trans hle
  have h3:=(mL (mL (mI .i64))).up hle h3
  have h5:=(mL mB).up hle h5
  have h12:=(mL (mI .i64)).up hle h12
  have at20:=At.up hle at20
  have h371:=(mL (mL (mI .i64))).up hle h371
  exact fin hF ⟨m372,[vi o55.Start,c364,c367],le_m0,ok.drop.drop.drop,E.d,⟨rv_c (cs:=[vi o55.Start,c364,c367]) E ok rfl qc4 rfl (qab.own 1 rfl rfl),trivial⟩,⟨_,_,rfl,r363,h371,h373⟩⟩
 rintro ⟨v71,v72,v73,v74⟩ a w r ⟨m75,c76,M77,c79,M80,c84,M85,c87,M88,hle,ok,E,h78,h81,r82,r83,h86,h89⟩ hF
 replace hF:qcS N d_0 r8 v71 v72 v73 v74 = some r:=hF
 unfold qcS at hF
 have le_m10:=Mem.le.refl m10
 have le_m0:=le_m0.trans hle
 have le_m10:=le_m10.trans hle
 have h3:=(mL (mL (mI .i64))).up hle h3
 have h5:=(mL mB).up hle h5
 have h12:=(mL (mI .i64)).up hle h12
 have at20:=At.up hle at20
 refine wp_seq<|sg<|mz E rfl rfl fun a E=>lv E ok (qcF qaJ h78 rfl) fun a E=>lw E (qav rfl rfl) fun a E=>wn<|cg E rfl hF (fun c90 hF=>?_) fun c90 hF=>?_
 ·refine wp_exit<|qaA ?_
  cases hF
  exact so (⟨rfl,⟨m75,c84,M85,c87,M88,le_m10,(ok.pk 7 [0,1,2,5,6] rfl (by decide)),E.keep [2,6],r83,h86,h89⟩⟩)
 refine wp_skip<|qaa<|wp_seq<|wp_block<|sg<|av E rfl fun a E=>wn<|wp_seq<|sg<|aw E rfl fun a E=>wp_block ?_
 obtain ⟨M108,ok,h109⟩:=qcf (e:=3) (k:=1) (R:=(pI .i64)) ok
 refine bd hF fun o110 hL hF=>qaE _ (fun (s:(List (Int)) × (List (Int)) × (List (Int)) × Int) a w=>∃ c111 M112 c114 M115 c117 M118,Ok u m75 (M118 :: M88 :: M85 :: [(b29,oc 34 [vi v74.Start,c84,c87])] :: M115 :: M112 :: [(b7,oc 34 [vi 0,(Value.slice none 0 0),(Value.slice none 0 0)])] :: [(b6,oc 34 [vi d_0.Start,c2,c4])] :: S) w ∧ Env 89 a [(1,vp b6),(2,vp b7),(3,c11),(4,c111),(5,c114),(6,vp b29),(7,vi v73),(8,c117),(9,vi s.2.2.2)] ∧ ORow 3 1 (pI .i64) m75 c111 s.1 M112 ∧ ORow 3 1 (pI .i64) m75 c114 s.2.1 M115 ∧ ORow 3 1 (pI .i64) m75 c117 s.2.2.1 M118 ∧ InR .i64 s.2.2.2) (fun (b:((List (Int)) × (List (Int)) × (List (Int)))) e a w=>e = (.exit 2) ∧ ∃ c353 M354 c356 M357 c359 M360,Ok u m75 (M360 :: M88 :: M85 :: [(b29,oc 34 [vi v74.Start,c84,c87])] :: M357 :: M354 :: [(b7,oc 34 [vi 0,(Value.slice none 0 0),(Value.slice none 0 0)])] :: [(b6,oc 34 [vi d_0.Start,c2,c4])] :: S) w ∧ Env 89 a [(1,vp b6),(2,vp b7),(3,c11),(4,c353),(5,c356),(6,vp b29),(7,vi v73),(8,c359)] ∧ ORow 3 1 (pI .i64) m75 c353 b.1 M354 ∧ ORow 3 1 (pI .i64) m75 c356 b.2.1 M357 ∧ ORow 3 1 (pI .i64) m75 c359 b.2.2 M360) ?_ ?_ N _ a w hL ⟨c76,M77,c79,M80,(Value.slice none 0 0),M108,ok,E.keep [1,2,3,4,5,6,7,8,9],h78,h81,h109,(ir 0)⟩
 ·as_aux_lemma =>
   rintro ⟨v121,v122,v123,v124⟩ a w r ⟨c125,M126,c128,M129,c131,M132,ok,E,h127,h130,h133,r134⟩ hF
   replace hF:qcQ N d_0 r8 v73 v121 v122 v123 v124 = some r:=hF
   unfold qcQ at hF
   refine wp_seq<|sg<|mv E rfl fun a E=>lw E (qav rfl rfl) fun a E=>wn<|cg E rfl hF (fun c135 hF=>?_) fun c135 hF=>?_
   ·refine wp_exit<|qaA ?_
    cases hF
    exact so (⟨rfl,⟨c125,M126,c128,M129,c131,M132,ok,E.keep [1,2,3,4,5,6,7,8],h127,h130,h133⟩⟩)
   refine wp_skip<|qaa<|wp_seq<|wp_block<|wp_seq<|qdc (by kernel_rfl) (by kernel_rfl) ok<|qv E (qae qbP rfl) fun a E=>qv E (qaj qdf rfl (qab.own 7 rfl rfl)) fun a E=>qv E (qah rfl) fun a E=>qv E (qah rfl) fun a E=>?_
   obtain ⟨x136,e137,hF⟩:=bnd hF
   obtain ⟨b138,o139,hp140,yy141⟩:=qbR qaJ h130 e137 (P:=Tryz.prog) (X:=.tmp 35) (I:=.tmp 36) (kd:=.i64) (qaT E rfl) (qaT E rfl)
   refine qv E (yy141 _ _) fun a E=>?_
   obtain ⟨es142,hl143,rr144,hh145⟩:=qb9 h130 e137 hp140 (by decide)
   obtain ⟨rfl,r146⟩:=rr144
   refine qv E (qaj qak rfl (hh145 _ _ _ 4 rfl)) fun a E=>?_
   obtain ⟨x147,e148,hF⟩:=bnd hF
   obtain ⟨b149,o150,es151,hl152,rr153,at154,yy155⟩:=ia E 34 38 qcA h3 e148
   obtain ⟨c156,rfl,h157⟩:=qbK rr153
   refine qv E (yy155 _ _) fun a E=>qv E (qaj qc3 rfl (qab.ro at154)) fun a E=>qv E (qah rfl) fun a E=>?_
   obtain ⟨x158,e159,hF⟩:=bnd hF
   obtain ⟨b160,o161,es162,hl163,rr164,at165,yy166⟩:=ia E 40 41 qaJ h157 e159
   obtain ⟨rfl,r167⟩:=rr164
   refine qv E (yy166 _ _) fun a E=>qv E (qaj qak rfl (qab.ro at165)) fun a E=>qv E (qcZ rfl) fun a E=>wpQuiet_nil ?_
   intro w ok
   refine qaa<|sg<|mz E rfl rfl fun a E=>mv E rfl fun a E=>?_
   obtain ⟨x168,e169,hF⟩:=bnd hF
   obtain ⟨b170,o171,es172,hl173,rr174,at175,yy176⟩:=ia E 45 46 qaJ h12 e169
   obtain ⟨rfl,r177⟩:=rr174
   refine lv E ok (yy176 _ _) fun a E=>lv E ok (qaj qak rfl (qab.ro at175)) fun a E=>?_
   obtain ⟨r183,e184,hF⟩:=bnd hF
   obtain ⟨m178,hle180,ok179,hfz181⟩:=(ok.frs 5 rfl).freeze
   have h182:=ORow.froz (mI .i64) h127 hle180 hfz181 (by decide)
   refine qan E qsr rfl (qkR N _ v121 h182 x168 r177 e184 hG ok179) rfl rfl ?_
   rintro _ w ⟨⟨rfl,okz⟩,r185⟩
   replace ok:=(Ok.thawAt 5 rfl ok hle180 hfz181 okz)
   refine ⟨_,rfl,fun a E=>?_⟩
   refine aw E rfl fun a E=>wp_seq<|sg<|mv E rfl fun a E=>lw E (qav rfl rfl) fun a E=>wn<|bd hF fun o186 hJ hF=>qaG (Q':=fun e a w=>e = .normal ∧ ∃ c187 M188 c190 M191,Ok u m75 (M132 :: M88 :: M85 :: [(b29,oc 34 [vi v74.Start,c84,c87])] :: M191 :: M188 :: [(b7,oc 34 [vi 0,(Value.slice none 0 0),(Value.slice none 0 0)])] :: [(b6,oc 34 [vi d_0.Start,c2,c4])] :: S) w ∧ Env 89 a [(1,vp b6),(2,vp b7),(3,c11),(4,c187),(5,c190),(6,vp b29),(7,vi v73),(8,c131),(9,vi v124),(11,vi o186.2.2)] ∧ ORow 3 1 (pI .i64) m75 c187 o186.1 M188 ∧ ORow 3 1 (pI .i64) m75 c190 o186.2.1 M191 ∧ InR .i64 o186.2.2) ?_ ?_
   rotate_left
   ·intro e a w hO
    obtain ⟨rfl,c221,M222,c224,M225,ok,E,h223,h226,r227⟩:=hO
    refine qaa<|qac<|mz E rfl rfl fun a E=>qaW (R:=(pI .i64)) (xo:=[.tmp 66]) (xs:=([o186.2.2]:List (Int))) E ok qaJ qbl rfl ⟨⟨_,rfl,rfl,(qaX r227)⟩,trivial⟩ rfl rfl rfl rfl fun c228 M229 a w E ok h230=>bd hF fun l231 e232 hF=>qbo (R:=(pI .i64)) E ok 1 (mI .i64) qaJ Tryz.underlying72 rfl h133 (qa0.ofRow h230 0 rfl ok) e232 ⟨_,qbl,rfl⟩ rfl rfl rfl rfl fun c233 M234 a w E ok h235=>av E rfl fun a E=>wpList_nil<|qal<|qaa<|qac<|mv E rfl fun a E=>lw E (qaw rfl rfl (InR.inc r134 (ir 11) c135)) fun a E=>av E rfl fun a E=>wpList_nil ?_
    cases hF
    exact qas ⟨c221,M222,c224,M225,c233,M234,(ok.pk 9 [1,2,3,4,5,6,7,8] rfl (by decide)),E.keep [1,2,3,4,5,6,7,8,9],h223,h226,h235,(InR.inc r134 (ir 11) c135)⟩
   have hF:=hJ
   refine cg E rfl hF (fun c194 hF=>?_) fun c194 hF=>?_
   ·refine wp_skip ?_
    cases hF
    exact ⟨rfl,⟨c125,M126,c128,M129,ok,E.keep [1,2,3,4,5,6,7,8,9,11],h127,h130,r185⟩⟩
   refine sg<|mv E rfl fun a E=>lv E ok (qcF qaJ h127 rfl) fun a E=>aw E rfl fun a E=>qac<|mz E rfl rfl fun a E=>mv E rfl fun a E=>?_
   obtain ⟨x195,e196,hF⟩:=bnd hF
   obtain ⟨b197,o198,es199,hl200,rr201,at202,yy203⟩:=ia E 55 56 qaJ h12 e196
   obtain ⟨rfl,r204⟩:=rr201
   refine lv E ok (yy203 _ _) fun a E=>lv E ok (qaj qak rfl (qab.ro at202)) fun a E=>qaW (R:=(pI .i64)) (xo:=[.tmp 58]) (xs:=([x195]:List (Int))) E ok qaJ qbl rfl ⟨⟨_,rfl,rfl,(qaX r204)⟩,trivial⟩ rfl rfl rfl rfl fun c205 M206 a w E ok h207=>bd hF fun l208 e209 hF=>qbo (R:=(pI .i64)) E ok 6 (mI .i64) qaJ Tryz.underlying72 rfl h127 (qa0.ofRow h207 0 rfl ok) e209 ⟨_,qbl,rfl⟩ rfl rfl rfl rfl fun c210 M211 a w E ok h212=>mz E rfl rfl fun a E=>qaW (R:=(pI .i64)) (xo:=[.tmp 62]) (xs:=([x158]:List (Int))) E ok qaJ qbl rfl ⟨⟨_,rfl,rfl,(qaX r167)⟩,trivial⟩ rfl rfl rfl rfl fun c213 M214 a w E ok h215=>bd hF fun l216 e217 hF=>qbo (R:=(pI .i64)) E ok 6 (mI .i64) qaJ Tryz.underlying72 rfl h130 (qa0.ofRow h215 0 rfl ok) e217 ⟨_,qbl,rfl⟩ rfl rfl rfl rfl fun c218 M219 a w E ok h220=>av E rfl fun a E=>av E rfl fun a E=>wpList_nil ?_
   cases hF
   exact ⟨rfl,⟨c210,M211,c218,M219,(ok.pk 10 [2,3,4,5,6,7,8,9] rfl (by decide)),E.keep [1,2,3,4,5,6,7,8,9,11],h212,h220,(ORow.InR h127)⟩⟩
 intro e a w _ hO
 obtain ⟨rfl,c236,M237,c239,M240,c242,M243,ok,E,h238,h241,h244⟩:=hO
 refine qaM<|qaa<|bd hF fun o245 hJ hF=>qaG (Q':=fun e a w=>e = .normal ∧ ∃ m246 c248 M249 c251 M252,m75.le m246 ∧ Ok u m246 (M252 :: M249 :: [(b29,oc 34 [vi o245.Start,c248,c251])] :: M240 :: M237 :: [(b7,oc 34 [vi 0,(Value.slice none 0 0),(Value.slice none 0 0)])] :: [(b6,oc 34 [vi d_0.Start,c2,c4])] :: S) w ∧ Env 89 a [(1,vp b6),(2,vp b7),(3,c11),(4,c236),(5,c239),(6,vp b29),(7,vi v73)] ∧ InR .i64 o245.Start ∧ ORow 72 1 (pL 1 (pI .i64)) m246 c248 o245.Next M249 ∧ ORow 4 1 pB m246 c251 o245.Accept M252) ?_ ?_
 rotate_left
 ·intro e a w hO
  obtain ⟨rfl,m345,c347,M348,c350,M351,hle,ok,E,r346,h349,h352⟩:=hO
  have le_m0:=le_m0.trans hle
  have le_m10:=le_m10.trans hle
  have h3:=(mL (mL (mI .i64))).up hle h3
  have h5:=(mL mB).up hle h5
  have h12:=(mL (mI .i64)).up hle h12
  have at20:=At.up hle at20
  have h238:=ORow.up (mI .i64) hle h238
  have h241:=ORow.up (mI .i64) hle h241
  refine qal<|qaa<|qac<|mv E rfl fun a E=>lw E (qaw rfl rfl (InR.inc r82 (ORow.InR h78) c90)) fun a E=>av E rfl fun a E=>wpList_nil ?_
  cases hF
  exact qas ⟨m345,c236,M237,c239,M240,c347,M348,c350,M351,le_m10,ok,E.keep [1,2,3,4,5,6,7],h238,h241,(InR.inc r82 (ORow.InR h78) c90),r346,h349,h352⟩
 have hF:=hJ
 have le_m75:=Mem.le.refl m75
 obtain ⟨l259,e260,hF⟩:=bnd hF
 obtain ⟨x264,e265,hF⟩:=bnd hF
 obtain ⟨x275,e276,hF⟩:=bnd hF
 obtain ⟨l287,e288,hF⟩:=bnd hF
 obtain rfl:=sj hF
 refine qaY [1,6] (Cls u m75 ([(b29,oc 34 [vi v74.Start,c84,c87])] :: M240 :: M237 :: [(b7,oc 34 [vi 0,(Value.slice none 0 0),(Value.slice none 0 0)])] :: [(b6,oc 34 [vi d_0.Start,c2,c4])] :: [])) (Cls u m75 (M240 :: M237 :: [(b7,oc 34 [vi 0,(Value.slice none 0 0),(Value.slice none 0 0)])] :: [(b6,oc 34 [vi d_0.Start,c2,c4])] :: [])) (by kernel_rfl) ?_
 intro w hw
 replace ok:=qbd ok hw
 clear hw
 have h3_o:=h3
 have h5_o:=h5
 refine qai (cl1 (cq le_m75 ok [3,4,5,6,7] rfl) (cq le_m75 ok [4,5,6,7] rfl)) fun hT=>kt 0 E rfl hT (qae qbP rfl) fun a E=>qaS 1 E rfl (by kernel_rfl) nP hT (qaj qdf rfl (qab.cown 0 rfl rfl)) rfl rfl fun a E=>kt 2 E rfl hT (qah rfl) fun a E=>kt 5 E rfl hT (qae qc9 rfl) fun a E=>qaS 6 E rfl (by kernel_rfl) nP hT (qaj qd3 rfl (qab.cown 0 rfl rfl)) rfl rfl fun a E=>kt 7 E rfl hT (qae qc9 rfl) fun a E=>kt 8 E rfl hT (qaj qd3 rfl (qab.cown 3 rfl rfl)) fun a E=>kt 9 E rfl hT (qah rfl) fun a E=>kt 10 E rfl hT (qah rfl) fun a E=>?_
 obtain ⟨b292,o293,hp294,yy295⟩:=qbR qaJ h241 e265 (P:=Tryz.prog) (X:=.tmp 78) (I:=.tmp 79) (kd:=.i64) (qaT E rfl) (qaT E rfl)
 refine kt 11 E rfl hT (yy295 _ _) fun a E=>?_
 obtain ⟨es296,hl297,rr298,hh299⟩:=qb9 h241 e265 hp294 (by decide)
 obtain ⟨rfl,r300⟩:=rr298
 refine kt 12 E rfl hT (qaj qak rfl (qab.crow hh299 0 rfl)) fun a E=>?_
 obtain ⟨b301,o302,es303,hl304,rr305,at306,yy307⟩:=ia E 77 81 qce h5 e276
 obtain rfl:=rr305
 refine kt 13 E rfl hT (yy307 _ _) fun a E=>kt 14 E rfl hT (qaj qbx rfl (qab.cro at306)) fun a E=>qao [3,15] (by kernel_rfl) rfl (qdm ?_ (qdm ?_ (qgR)))
 rotate_left
 ·refine wo rfl<|qaW (R:=pB) (xo:=[.tmp 83]) (xs:=([x275]:List (Bool))) E ok qce qdD rfl ⟨⟨_,rfl,rfl,qgB⟩,trivial⟩ rfl rfl rfl rfl fun c331 M332 a w E ok h333=>wn<|qai (cl1 (cq le_m75 ok [4,5,6,7,8] rfl) (cq le_m75 ok [5,6,7,8] rfl)) fun hT=>qao [3] (by kernel_rfl) rfl (qar ?_)
  ·refine qbm (o:=_) rfl ?_
   obtain ⟨m334,hle,ok,hfz⟩:=(ok.frs 1 rfl).freeze
   have h335:=ORow.froz (mI .i64) h244 hle hfz (by decide)
   have le_m0:=le_m0.trans hle
   have le_m10:=le_m10.trans hle
   have le_m75:=le_m75.trans hle
   have h3:=(mL (mL (mI .i64))).up hle h3
   have h5:=(mL mB).up hle h5
   have h12:=(mL (mI .i64)).up hle h12
   have at20:=At.up hle at20
   have h86:=ORow.up (mL (mI .i64)) hle h86
   have h89:=ORow.up mB hle h89
   have h238:=ORow.up (mI .i64) hle h238
   have h241:=ORow.up (mI .i64) hle h241
   have at306:=At.up hle at306
   have h333:=ORow.up mB hle h333
   refine qaW (R:=(pL 1 (pI .i64))) (xo:=[.tmp 71]) (xs:=([o110.2.2]:List (List (Int)))) E ok qcA qdC rfl ⟨⟨_,(qbW h335),rfl,h335⟩,trivial⟩ rfl rfl rfl rfl fun c336 M337 a w E ok h338=>wn<|qai (cl1 (cq le_m75 ok [4,5,6,7,8] rfl) (cq le_m75 ok [5,6,7,8] rfl)) fun hT=>qao [4] (by kernel_rfl) rfl (qar ?_)
   ·refine wo rfl<|qbo (R:=(pL 1 (pI .i64))) E ok 3 (mL (mI .i64)) qcA Tryz.underlying31 rfl h86 (qa0.ofRow h338 0 rfl ok) e260 ⟨_,qdC,rfl⟩ rfl rfl rfl rfl fun c339 M340 a w E ok h341=>wn<|qai (cl1 (cq le_m75 ok [4,5,6,7,8] rfl) (cq le_m75 ok [5,6,7,8] rfl)) fun hT=>kt 17 E rfl hT (qae qbP rfl) fun a E=>qao [16] (by kernel_rfl) rfl (qar ?_)
    ·refine wo rfl<|qbo (R:=pB) E ok 2 mB qce Tryz.underlying32 rfl h89 (qa0.ofRow h333 1 rfl ok) e288 ⟨_,qdD,rfl⟩ rfl rfl rfl rfl fun c342 M343 a w E ok h344=>wn<|qai (cl1 (cq le_m75 ok [4,5,6,7,8] rfl) (cq le_m75 ok [5,6,7,8] rfl)) fun hT=>qao [18] (by kernel_rfl) rfl (qar ?_)
     ·refine wo rfl<|qad E ok 4 rfl rfl rfl qh9 (ORow.cells h341) rfl ⟨(ORow.one h341),trivial⟩ rfl rfl fun w ok=>wn<|qai (cl2 (by kernel_rfl) (cq le_m75 ok [5,6,7,8] rfl)) fun hT=>kt 19 E rfl hT (qae qc9 rfl) fun a E=>qao [20] (by kernel_rfl) rfl (qar ?_)
      ·refine wo rfl<|qad E ok 4 rfl rfl rfl qhd (ORow.cells h344) rfl ⟨(ORow.one h344),trivial⟩ rfl rfl fun w ok=>wn<|qai (cl2 (by kernel_rfl) (cq le_m75 ok [5,6,7,8] rfl)) fun hT=>qaV (by kernel_rfl) ?_
       exact ⟨rfl,⟨m334,c339,M340,c342,M343,le_m75,(ok.pk 9 [2,3,4,5,6,7,8] rfl (by decide)),E.keep [1,2,3,4,5,6,7],r83,h341,h344⟩⟩
 refine qbm (o:=_) rfl ?_
 obtain ⟨m308,hle,ok,hfz⟩:=(ok.frs 0 rfl).freeze
 have h309:=ORow.froz (mI .i64) h244 hle hfz (by decide)
 have le_m0:=le_m0.trans hle
 have le_m10:=le_m10.trans hle
 have le_m75:=le_m75.trans hle
 have h3:=(mL (mL (mI .i64))).up hle h3
 have h5:=(mL mB).up hle h5
 have h12:=(mL (mI .i64)).up hle h12
 have at20:=At.up hle at20
 have h86:=ORow.up (mL (mI .i64)) hle h86
 have h89:=ORow.up mB hle h89
 have h238:=ORow.up (mI .i64) hle h238
 have h241:=ORow.up (mI .i64) hle h241
 have at306:=At.up hle at306
 refine qaW (R:=(pL 1 (pI .i64))) (xo:=[.tmp 71]) (xs:=([o110.2.2]:List (List (Int)))) E ok qcA qdC rfl ⟨⟨_,(qbW h309),rfl,h309⟩,trivial⟩ rfl rfl rfl rfl fun c310 M311 a w E ok h312=>wn<|qai (cl1 (cq le_m75 ok [3,4,5,6,7] rfl) (cq le_m75 ok [4,5,6,7] rfl)) fun hT=>qao [4,15] (by kernel_rfl) rfl (qdm ?_ (qdm ?_ (qgR)))
 ·refine wo rfl<|qbo (R:=(pL 1 (pI .i64))) E ok 2 (mL (mI .i64)) qcA Tryz.underlying31 rfl h86 (qa0.ofRow h312 0 rfl ok) e260 ⟨_,qdC,rfl⟩ rfl rfl rfl rfl fun c313 M314 a w E ok h315=>wn<|qai (cl1 (cq le_m75 ok [3,4,5,6,7] rfl) (cq le_m75 ok [4,5,6,7] rfl)) fun hT=>kt 17 E rfl hT (qae qbP rfl) fun a E=>qao [15] (by kernel_rfl) rfl (qar ?_)
  ·refine wo rfl<|qaW (R:=pB) (xo:=[.tmp 83]) (xs:=([x275]:List (Bool))) E ok qce qdD rfl ⟨⟨_,rfl,rfl,qgB⟩,trivial⟩ rfl rfl rfl rfl fun c316 M317 a w E ok h318=>wn<|qai (cl1 (cq le_m75 ok [4,5,6,7,8] rfl) (cq le_m75 ok [5,6,7,8] rfl)) fun hT=>qao [16] (by kernel_rfl) rfl (qar ?_)
   ·refine wo rfl<|qbo (R:=pB) E ok 2 mB qce Tryz.underlying32 rfl h89 (qa0.ofRow h318 0 rfl ok) e288 ⟨_,qdD,rfl⟩ rfl rfl rfl rfl fun c319 M320 a w E ok h321=>wn<|qai (cl1 (cq le_m75 ok [4,5,6,7,8] rfl) (cq le_m75 ok [5,6,7,8] rfl)) fun hT=>qao [18] (by kernel_rfl) rfl (qar ?_)
    ·refine wo rfl<|qad E ok 4 rfl rfl rfl qh9 (ORow.cells h315) rfl ⟨(ORow.one h315),trivial⟩ rfl rfl fun w ok=>wn<|qai (cl2 (by kernel_rfl) (cq le_m75 ok [5,6,7,8] rfl)) fun hT=>kt 19 E rfl hT (qae qc9 rfl) fun a E=>qao [20] (by kernel_rfl) rfl (qar ?_)
     ·refine wo rfl<|qad E ok 4 rfl rfl rfl qhd (ORow.cells h321) rfl ⟨(ORow.one h321),trivial⟩ rfl rfl fun w ok=>wn<|qai (cl2 (by kernel_rfl) (cq le_m75 ok [5,6,7,8] rfl)) fun hT=>qaV (by kernel_rfl) ?_
      exact ⟨rfl,⟨m308,c313,M314,c319,M320,le_m75,(ok.pk 9 [2,3,4,5,6,7,8] rfl (by decide)),E.keep [1,2,3,4,5,6,7],r83,h315,h321⟩⟩
 refine wo rfl<|qaW (R:=pB) (xo:=[.tmp 83]) (xs:=([x275]:List (Bool))) E ok qce qdD rfl ⟨⟨_,rfl,rfl,qgB⟩,trivial⟩ rfl rfl rfl rfl fun c322 M323 a w E ok h324=>wn<|qai (cl1 (cq le_m75 ok [4,5,6,7,8] rfl) (cq le_m75 ok [5,6,7,8] rfl)) fun hT=>qao [4] (by kernel_rfl) rfl (qar ?_)
 ·refine wo rfl<|qbo (R:=(pL 1 (pI .i64))) E ok 3 (mL (mI .i64)) qcA Tryz.underlying31 rfl h86 (qa0.ofRow h312 1 rfl ok) e260 ⟨_,qdC,rfl⟩ rfl rfl rfl rfl fun c325 M326 a w E ok h327=>wn<|qai (cl1 (cq le_m75 ok [4,5,6,7,8] rfl) (cq le_m75 ok [5,6,7,8] rfl)) fun hT=>kt 17 E rfl hT (qae qbP rfl) fun a E=>qao [16] (by kernel_rfl) rfl (qar ?_)
  ·refine wo rfl<|qbo (R:=pB) E ok 2 mB qce Tryz.underlying32 rfl h89 (qa0.ofRow h324 0 rfl ok) e288 ⟨_,qdD,rfl⟩ rfl rfl rfl rfl fun c328 M329 a w E ok h330=>wn<|qai (cl1 (cq le_m75 ok [4,5,6,7,8] rfl) (cq le_m75 ok [5,6,7,8] rfl)) fun hT=>qao [18] (by kernel_rfl) rfl (qar ?_)
   ·refine wo rfl<|qad E ok 4 rfl rfl rfl qh9 (ORow.cells h327) rfl ⟨(ORow.one h327),trivial⟩ rfl rfl fun w ok=>wn<|qai (cl2 (by kernel_rfl) (cq le_m75 ok [5,6,7,8] rfl)) fun hT=>kt 19 E rfl hT (qae qc9 rfl) fun a E=>qao [20] (by kernel_rfl) rfl (qar ?_)
    ·refine wo rfl<|qad E ok 4 rfl rfl rfl qhd (ORow.cells h330) rfl ⟨(ORow.one h330),trivial⟩ rfl rfl fun w ok=>wn<|qai (cl2 (by kernel_rfl) (cq le_m75 ok [5,6,7,8] rfl)) fun hT=>qaV (by kernel_rfl) ?_
     exact ⟨rfl,⟨m308,c325,M326,c328,M329,le_m75,(ok.pk 9 [2,3,4,5,6,7,8] rfl (by decide)),E.keep [1,2,3,4,5,6,7],r83,h327,h330⟩⟩
def qjQ (u:World) (m0:Mem) (S:Segs) (r:DFA) (a:Act) (w:World):Prop :=
 ∃ m1 v0,m0.le m1 ∧ Ok u m1 S w ∧ a.defers = [] ∧ RVs Tryz.prog a w [.c 2 34 (.agg v0.toArray)] ∧ pDFA m1 v0 r
theorem qjH (N:Nat) (vd_0:List Value) (d_0:DFA) (hd_0:pDFA m0 vd_0 d_0) {r:DFA} (hF:qfq N d_0 = some r) (hG:Glob u) (ok:Ok u m0 S w) :
  Calls Tryz.prog 93 [.agg vd_0.toArray].toArray w fun e w'=>∃ m1 v0,e = .returned (.agg v0.toArray) ∧ m0.le m1 ∧ Ok u m1 S w' ∧ pDFA m1 v0 r:=by
 obtain ⟨c2,c4,rfl,r1,h3,h5⟩:=hd_0
 have le_m0:=Mem.le.refl m0
 unfold qfq at hF
 refine en (qjQ u m0 S) r Tryz.func93 rfl rfl rfl (by rintro a w ⟨m1,v0,hle,ok,hd,hrv,h0⟩; exact qbG [.c 2 34 (.agg v0.toArray)] hd rfl hrv ⟨m1,v0,rfl,hle,ok,h0⟩) fun fin a E=>sg<|qbz E ok rfl rfl rfl fun b6 a w E ok=>qax E ok qdB rfl rfl fun b7 a w E ok=>wn<|sg<|lv E ok (qag (cs:=[vi d_0.Start,c2,c4]) qc4 rfl rfl (qab.own 1 rfl rfl)) fun a E=>bd hF fun r8 e9 hF=>qan E qqk rfl (qho N _ d_0 ⟨_,_,rfl,r1,h3,h5⟩ e9 hG ok) rfl rfl ?_
 rintro _ w ⟨m10,vs11,rfl,hle,ok,h12⟩
 have le_m0:=le_m0.trans hle
 have h3:=(mL (mL (mI .i64))).up hle h3
 have h5:=(mL mB).up hle h5
 obtain ⟨c14,c16,rfl,r13,h15,h17⟩:=h12
 refine ⟨_,rfl,fun a E=>?_⟩
 refine qad E ok 0 rfl rfl rfl qfc rfl rfl ⟨rfl,(qa5 h15),(qa5 h17),trivial⟩ rfl rfl fun w ok=>wn<|wp_ret ?_
 exact fin hF ⟨m10,[vi r8.Start,c14,c16],le_m0,ok.drop.drop,E.d,⟨rv_c (cs:=[vi r8.Start,c14,c16]) E ok rfl qc4 rfl (qab.own 0 rfl rfl),trivial⟩,⟨_,_,rfl,r13,h15,h17⟩⟩
def qkL (u:World) (m0:Mem) (S:Segs) (r:DFA × Int) (a:Act) (w:World):Prop :=
 ∃ m1 v0,m0.le m1 ∧ Ok u m1 S w ∧ a.defers = [] ∧ RVs Tryz.prog a w [.c 2 34 (.agg v0.toArray),.t 3 (.int .i64 r.2)] ∧ pDFA m1 v0 r.1 ∧ InR .i64 r.2
theorem qkW (N:Nat) (vd_0:List Value) (d_0:DFA) (hd_0:pDFA m0 vd_0 d_0) {r:DFA × Int} (hF:qfT N d_0 = some r) (hG:Glob u) (ok:Ok u m0 S w) :
  Calls Tryz.prog 59 [.agg vd_0.toArray].toArray w fun e w'=>∃ m1 v0,e = .returned (.tuple [(.agg v0.toArray),(.int .i64 r.2)].toArray) ∧ m0.le m1 ∧ Ok u m1 S w' ∧ pDFA m1 v0 r.1 ∧ InR .i64 r.2:=by
 obtain ⟨c2,c4,rfl,r1,h3,h5⟩:=hd_0
 have le_m0:=Mem.le.refl m0
 unfold qfT at hF
 refine en (qkL u m0 S) r Tryz.func59 rfl rfl rfl (by rintro a w ⟨m1,v0,hle,ok,hd,hrv,h0,h1⟩; exact qbG [.c 2 34 (.agg v0.toArray),.t 3 (.int .i64 r.2)] hd rfl hrv ⟨m1,v0,rfl,hle,ok,h0,h1⟩) fun fin a E=>sg<|qbz E ok rfl rfl rfl fun b6 a w E ok=>qax E ok qdB rfl rfl fun b7 a w E ok=>aw E rfl fun a E=>sg<|lv E ok (qag (cs:=[vi d_0.Start,c2,c4]) qc4 rfl rfl (qab.own 1 rfl rfl)) fun a E=>bd hF fun r8 e9 hF=>qan E qs8 rfl (qjH N _ d_0 ⟨_,_,rfl,r1,h3,h5⟩ e9 hG ok) rfl rfl ?_
 rintro _ w ⟨m10,vs11,rfl,hle,ok,h12⟩
 have le_m0:=le_m0.trans hle
 have h3:=(mL (mL (mI .i64))).up hle h3
 have h5:=(mL mB).up hle h5
 obtain ⟨c14,c16,rfl,r13,h15,h17⟩:=h12
 refine ⟨_,rfl,fun a E=>?_⟩
 refine qax E ok qdB rfl rfl fun b18 a w E ok=>qad E ok 0 rfl rfl rfl qfc rfl rfl ⟨rfl,(qa5 h15),(qa5 h17),trivial⟩ rfl rfl fun w ok=>wn<|wp_seq<|sg<|fv E qbP rfl fun a E=>ld E ok qdf 0 rfl rfl rfl fun a E=>lv E ok (qaD qcA h15 rfl) fun a E=>lw E (qb1 rfl rfl) fun a E=>wn<|cf E rfl hF (fun c19 hF=>?_) fun c19 hF=>?_
 ·refine sg<|lw E (qaF (ps:=[]) (qs:=[]) (cs:=[vi 0,(Value.slice none 0 0),(Value.slice none 0 0)]) qdB qjr rfl trivial rfl) fun a E=>qad E ok 1 rfl rfl rfl qfc rfl rfl ⟨rfl,rfl,rfl,trivial⟩ rfl rfl fun w ok=>aw E rfl fun a E=>wp_ret<|qaq ?_
  exact fin hF ⟨m10,[vi 0,(Value.slice none 0 0),(Value.slice none 0 0)],le_m0,ok.drop.drop.drop,E.d,⟨rv_c (cs:=[vi 0,(Value.slice none 0 0),(Value.slice none 0 0)]) E ok rfl qc4 rfl (qab.own 1 rfl rfl),rv_t E rfl,trivial⟩,⟨_,_,rfl,(ir 0),qeO,qeO⟩,(ir 6)⟩
 refine wp_skip<|qaa<|sg<|lv E ok (qag (cs:=[vi r8.Start,c14,c16]) qc4 rfl rfl (qab.own 0 rfl rfl)) fun a E=>qad E ok 1 rfl rfl rfl qfc rfl rfl ⟨rfl,(qa5 h15),(qa5 h17),trivial⟩ rfl rfl fun w ok=>av E rfl fun a E=>wn<|wp_ret ?_
 exact fin hF ⟨m10,[vi r8.Start,c14,c16],le_m0,ok.drop.drop.drop,E.d,⟨rv_c (cs:=[vi r8.Start,c14,c16]) E ok rfl qc4 rfl (qab.own 1 rfl rfl),rv_t E rfl,trivial⟩,⟨_,_,rfl,r13,h15,h17⟩,(ir 0)⟩
def qjf (u:World) (m0:Mem) (S:Segs) (r:DFA × Int) (a:Act) (w:World):Prop :=
 ∃ m1 v0,m0.le m1 ∧ Ok u m1 S w ∧ a.defers = [] ∧ RVs Tryz.prog a w [.c 2 34 (.agg v0.toArray),.t 3 (.int .i64 r.2)] ∧ pDFA m1 v0 r.1 ∧ InR .i64 r.2
theorem qfw (N:Nat) (vc_0:Value) (c_0:List (List (Relation))) (hc_0:(pL 1 (pL 4 qap)) m0 [vc_0] c_0) {r:DFA × Int} (hF:qbt N c_0 = some r) (hG:Glob u) (ok:Ok u m0 S w) :
  Calls Tryz.prog 18 [vc_0].toArray w fun e w'=>∃ m1 v0,e = .returned (.tuple [(.agg v0.toArray),(.int .i64 r.2)].toArray) ∧ m0.le m1 ∧ Ok u m1 S w' ∧ pDFA m1 v0 r.1 ∧ InR .i64 r.2:=by
 have le_m0:=Mem.le.refl m0
 unfold qbt at hF
 refine en (qjf u m0 S) r Tryz.func18 rfl rfl rfl (by rintro a w ⟨m1,v0,hle,ok,hd,hrv,h0,h1⟩; exact qbG [.c 2 34 (.agg v0.toArray),.t 3 (.int .i64 r.2)] hd rfl hrv ⟨m1,v0,rfl,hle,ok,h0,h1⟩) fun fin a E=>sg<|qax E ok qdB rfl rfl fun b1 a w E ok=>aw E rfl fun a E=>sg<|mv E rfl fun a E=>bd hF fun r2 e3 hF=>qan E qqx rfl (qhH N _ c_0 hc_0 e3 hG ok) rfl rfl ?_
 rintro _ w ⟨⟨rfl,ok⟩,r4,r5⟩
 refine ⟨_,rfl,fun a E=>?_⟩
 refine mv E rfl fun a E=>lw E (qaR rfl rfl) fun a E=>lw E (qaR rfl rfl) fun a E=>av E rfl fun a E=>aw E rfl fun a E=>wp_seq<|sg<|mv E rfl fun a E=>lw E (qb7 rfl rfl) fun a E=>wn<|cf E rfl hF (fun c6 hF=>?_) fun c6 hF=>?_
 ·refine sg<|lw E (qaF (ps:=[]) (qs:=[]) (cs:=[vi 0,(Value.slice none 0 0),(Value.slice none 0 0)]) qdB qjr rfl trivial rfl) fun a E=>mv E rfl fun a E=>qad E ok 0 rfl rfl rfl qfc rfl rfl ⟨rfl,rfl,rfl,trivial⟩ rfl rfl fun w ok=>aw E rfl fun a E=>wp_ret<|qaq ?_
  exact fin hF ⟨m0,[vi 0,(Value.slice none 0 0),(Value.slice none 0 0)],le_m0,ok.drop,E.d,⟨rv_c (cs:=[vi 0,(Value.slice none 0 0),(Value.slice none 0 0)]) E ok rfl qc4 rfl (qab.own 0 rfl rfl),rv_t E rfl,trivial⟩,⟨_,_,rfl,(ir 0),qeO,qeO⟩,r5⟩
 refine wp_skip<|qaa<|wp_seq<|sg<|mv E rfl fun a E=>lw E (qb1 rfl rfl) fun a E=>wn<|cf E rfl hF (fun c7 hF=>?_) fun c7 hF=>?_
 ·refine sg<|lw E (qaF (ps:=[]) (qs:=[]) (cs:=[vi 0,(Value.slice none 0 0),(Value.slice none 0 0)]) qdB qjr rfl trivial rfl) fun a E=>qad E ok 0 rfl rfl rfl qfc rfl rfl ⟨rfl,rfl,rfl,trivial⟩ rfl rfl fun w ok=>aw E rfl fun a E=>wp_ret<|qaq ?_
  exact fin hF ⟨m0,[vi 0,(Value.slice none 0 0),(Value.slice none 0 0)],le_m0,ok.drop,E.d,⟨rv_c (cs:=[vi 0,(Value.slice none 0 0),(Value.slice none 0 0)]) E ok rfl qc4 rfl (qab.own 0 rfl rfl),rv_t E rfl,trivial⟩,⟨_,_,rfl,(ir 0),qeO,qeO⟩,(ir 6)⟩
 refine wp_skip<|qaa<|sg<|mv E rfl fun a E=>bd hF fun r8 e9 hF=>qan E qqn rfl (qiA N _ c_0 hc_0 e9 hG ok) rfl rfl ?_
 rintro _ w ⟨m10,c11,rfl,hle,ok,h12⟩
 have le_m0:=le_m0.trans hle
 have hc_0:=(mL (mL qaf)).up hle hc_0
 refine ⟨_,rfl,fun a E=>?_⟩
 refine aw E rfl fun a E=>sg<|mz E rfl rfl fun a E=>mv E rfl fun a E=>bd hF fun r13 e14 hF=>qan E qqm rfl (qhC N _ r8 h12 1 (ir 1) 2 (ir 2) e14 hG ok) rfl rfl ?_
 rintro _ w ⟨m15,vs16,rfl,hle,ok,h17⟩
 have le_m0:=le_m0.trans hle
 have hc_0:=(mL (mL qaf)).up hle hc_0
 have h12:=(mL qaf).up hle h12
 obtain ⟨rfl,r18,r19⟩:=h17
 refine ⟨_,rfl,fun a E=>?_⟩
 refine mv E rfl fun a E=>bd hF fun r20 e21 hF=>qan E qqm rfl (qhC N _ r8 h12 5 (ir 5) 6 (ir 6) e21 hG ok) rfl rfl ?_
 rintro _ w ⟨m22,vs23,rfl,hle,ok,h24⟩
 have le_m0:=le_m0.trans hle
 have hc_0:=(mL (mL qaf)).up hle hc_0
 have h12:=(mL qaf).up hle h12
 obtain ⟨rfl,r25,r26⟩:=h24
 refine ⟨_,rfl,fun a E=>?_⟩
 refine lw E (qaF (ps:=[(0,.tmp 29),(1,.tmp 30),(2,.tmp 32),(3,.tmp 34)]) (qs:=[(0,[vc_0]),(1,[c11]),(2,[vi r13.bound,vi r13.mod]),(4,[vi r20.bound,vi r20.mod])]) (cs:=[vc_0,c11,vi r13.bound,vi r13.mod,vi r20.bound,vi r20.mod]) qnO qo4 rfl ⟨rfl,(qbW hc_0),rfl,⟨rfl,(qbW h12),rfl,⟨rfl,rfl,rfl,⟨rfl,rfl,rfl,trivial⟩⟩⟩⟩ rfl) fun a E=>qax E ok qnO rfl rfl fun b27 a w E ok=>qad E ok 0 rfl rfl rfl qqW rfl rfl ⟨(qa5 hc_0),(qa5 h12),rfl,rfl,rfl,rfl,trivial⟩ rfl rfl fun w ok=>wn<|sg<|lw E (qaF (ps:=[]) (qs:=[]) (cs:=[vi 0,vi 0,(vs ([])),vb false,vi 0,vi 0,vi 0,vi 0]) qc0 qew rfl trivial rfl) fun a E=>qaW (R:=qeq) (xo:=[.tmp 36]) (xs:=([(State2.mk 0 0 ([]) false 0 0 0 0)]:List (State2))) E ok qhG qc0 rfl ⟨⟨_,rfl,rfl,⟨rfl,(ir 0),(ir 0),(Nat.zero_le _),(ir 0),(ir 0),(ir 0),(ir 0)⟩⟩,trivial⟩ rfl rfl rfl rfl fun c28 M29 a w E ok h30=>aw E rfl fun a E=>sg<|qax E ok qdB rfl rfl fun b31 a w E ok=>wn<|wp_seq<|sg<|aw E rfl fun a E=>wp_block ?_
 obtain ⟨M47,ok,h48⟩:=qcf (e:=72) (k:=1) (R:=(pL 1 (pI .i64))) ok
 obtain ⟨M49,ok,h50⟩:=qcf (e:=4) (k:=1) (R:=pB) ok
 refine bd hF fun o51 hL hF=>qaE _ (fun (s:(List (State2)) × Int × DFA) a w=>∃ m52 c53 M54 c58 M59 c61 M62,m22.le m52 ∧ Ok u m52 (M62 :: M59 :: [(b31,oc 34 [vi s.2.2.Start,c58,c61])] :: M54 :: [(b27,oc 100 [vc_0,c11,vi r13.bound,vi r13.mod,vi r20.bound,vi r20.mod])] :: [(b1,oc 34 [vi 0,(Value.slice none 0 0),(Value.slice none 0 0)])] :: S) w ∧ Env 104 a [(2,vp b1),(7,vp b27),(8,c53),(9,vp b31),(10,vi s.2.1)] ∧ ORow 102 8 qeq m52 c53 s.1 M54 ∧ InR .i64 s.2.1 ∧ InR .i64 s.2.2.Start ∧ ORow 72 1 (pL 1 (pI .i64)) m52 c58 s.2.2.Next M59 ∧ ORow 4 1 pB m52 c61 s.2.2.Accept M62) (fun (b:DFA) e a w=>e = (.exit 0) ∧ ∃ m413 c415 M416 c418 M419,m22.le m413 ∧ Ok u m413 (M419 :: M416 :: [(b31,oc 34 [vi b.Start,c415,c418])] :: [(b27,oc 100 [vc_0,c11,vi r13.bound,vi r13.mod,vi r20.bound,vi r20.mod])] :: [(b1,oc 34 [vi 0,(Value.slice none 0 0),(Value.slice none 0 0)])] :: S) w ∧ Env 104 a [(2,vp b1),(9,vp b31)] ∧ InR .i64 b.Start ∧ ORow 72 1 (pL 1 (pI .i64)) m413 c415 b.Next M416 ∧ ORow 4 1 pB m413 c418 b.Accept M419) ?_ ?_ N _ a w hL ⟨m22,c28,M29,(Value.slice none 0 0),M47,(Value.slice none 0 0),M49,Mem.le.refl _,ok,E.keep [2,7,8,9,10],h30,(ir 0),(ir 0),h48,h50⟩
 rotate_left
 ·intro e a w _ hO
  obtain ⟨rfl,m390,c392,M393,c395,M396,hle,ok,E,r391,h394,h397⟩:=hO
  have le_m0:=le_m0.trans hle
  have hc_0:=(mL (mL qaf)).up hle hc_0
  have h12:=(mL qaf).up hle h12
  refine qaM<|qaa<|sg<|lv E ok (qag (cs:=[vi o51.Start,c392,c395]) qc4 rfl rfl (qab.own 2 rfl rfl)) fun a E=>?_
  obtain ⟨m398,hle,ok,hfz⟩:=(ok.frs 1 rfl).freeze
  have h399:=ORow.froz (mL (mI .i64)) h394 hle hfz (by decide)
  have le_m0:=le_m0.trans hle
  have hc_0:=(mL (mL qaf)).up hle hc_0
  have h12:=(mL qaf).up hle h12
  have h397:=ORow.up mB hle h397
  obtain ⟨m400,hle,ok,hfz⟩:=(ok.frs 0 rfl).freeze
  have h401:=ORow.froz mB h397 hle hfz (by decide)
  have le_m0:=le_m0.trans hle
  have hc_0:=(mL (mL qaf)).up hle hc_0
  have h12:=(mL qaf).up hle h12
  have h399:=(mL (mL (mI .i64))).up hle h399
  refine bd hF fun r402 e403 hF=>qan E qsT rfl (qkW N _ o51 ⟨_,_,rfl,r391,h399,h401⟩ e403 hG ok) rfl rfl ?_
  rintro _ w ⟨m404,vs405,rfl,hle,ok,h406,r407⟩
  have le_m0:=le_m0.trans hle
  have hc_0:=(mL (mL qaf)).up hle hc_0
  have h12:=(mL qaf).up hle h12
  have h399:=(mL (mL (mI .i64))).up hle h399
  have h401:=(mL mB).up hle h401
  obtain ⟨c409,c411,rfl,r408,h410,h412⟩:=h406
  refine ⟨_,rfl,fun a E=>?_⟩
  refine lw E (qaR rfl rfl) fun a E=>lw E (qaR rfl rfl) fun a E=>qad E ok 2 rfl rfl rfl qfc rfl rfl ⟨rfl,(qa5 h410),(qa5 h412),trivial⟩ rfl rfl fun w ok=>aw E rfl fun a E=>wp_ret ?_
  exact fin hF ⟨m404,[vi r402.1.Start,c409,c411],le_m0,ok.drop.drop.drop,E.d,⟨rv_c (cs:=[vi r402.1.Start,c409,c411]) E ok rfl qc4 rfl (qab.own 2 rfl rfl),rv_t E rfl,trivial⟩,⟨_,_,rfl,r408,h410,h412⟩,r407⟩
 rintro ⟨v64,v65,v66⟩ a w r ⟨m67,c68,M69,c73,M74,c76,M77,hle,ok,E,h70,r71,r72,h75,h78⟩ hF
 replace hF:qcw N c_0 r8 r13 r20 v64 v65 v66 = some r:=hF
 unfold qcw at hF
 have le_m22:=Mem.le.refl m22
 have le_m0:=le_m0.trans hle
 have le_m22:=le_m22.trans hle
 have hc_0:=(mL (mL qaf)).up hle hc_0
 have h12:=(mL qaf).up hle h12
 refine wp_seq<|sg<|mz E rfl rfl fun a E=>lv E ok (qcF qhG h70 rfl) fun a E=>lw E (qav rfl rfl) fun a E=>wn<|cg E rfl hF (fun c79 hF=>?_) fun c79 hF=>?_
 ·refine wp_exit<|qaA ?_
  cases hF
  exact so (⟨rfl,⟨m67,c73,M74,c76,M77,le_m22,(ok.pk 6 [0,1,2,4,5] rfl (by decide)),E.keep [2,9],r72,h75,h78⟩⟩)
 refine wp_skip<|qaa<|wp_seq<|wp_block<|sg<|av E rfl fun a E=>wn<|wp_seq<|sg<|aw E rfl fun a E=>wp_block ?_
 obtain ⟨M91,ok,h92⟩:=qcf (e:=3) (k:=1) (R:=(pI .i64)) ok
 refine bd hF fun o93 hL hF=>qaE _ (fun (s:(List (State2)) × (List (Int)) × Int) a w=>∃ m94 c95 M96 c98 M99,m67.le m94 ∧ Ok u m94 (M99 :: M77 :: M74 :: [(b31,oc 34 [vi v66.Start,c73,c76])] :: M96 :: [(b27,oc 100 [vc_0,c11,vi r13.bound,vi r13.mod,vi r20.bound,vi r20.mod])] :: [(b1,oc 34 [vi 0,(Value.slice none 0 0),(Value.slice none 0 0)])] :: S) w ∧ Env 104 a [(2,vp b1),(7,vp b27),(8,c95),(9,vp b31),(10,vi v65),(11,c98),(12,vi s.2.2)] ∧ ORow 102 8 qeq m94 c95 s.1 M96 ∧ ORow 3 1 (pI .i64) m94 c98 s.2.1 M99 ∧ InR .i64 s.2.2) (fun (b:((List (State2)) × (List (Int)))) e a w=>e = (.exit 2) ∧ ∃ m383 c384 M385 c387 M388,m67.le m383 ∧ Ok u m383 (M388 :: M77 :: M74 :: [(b31,oc 34 [vi v66.Start,c73,c76])] :: M385 :: [(b27,oc 100 [vc_0,c11,vi r13.bound,vi r13.mod,vi r20.bound,vi r20.mod])] :: [(b1,oc 34 [vi 0,(Value.slice none 0 0),(Value.slice none 0 0)])] :: S) w ∧ Env 104 a [(2,vp b1),(7,vp b27),(8,c384),(9,vp b31),(10,vi v65),(11,c387)] ∧ ORow 102 8 qeq m383 c384 b.1 M385 ∧ ORow 3 1 (pI .i64) m383 c387 b.2 M388) ?_ ?_ N _ a w hL ⟨m67,c68,M69,(Value.slice none 0 0),M91,Mem.le.refl _,ok,E.keep [2,7,8,9,10,11,12],h70,h92,(ir 0)⟩
 rotate_left
 ·as_aux_lemma =>
   intro e a w _ hO
   obtain ⟨rfl,m293,c294,M295,c297,M298,hle,ok,E,h296,h299⟩:=hO
   have le_m0:=le_m0.trans hle
   have le_m22:=le_m22.trans hle
   have hc_0:=(mL (mL qaf)).up hle hc_0
   have h12:=(mL qaf).up hle h12
   have h75:=ORow.up (mL (mI .i64)) hle h75
   have h78:=ORow.up mB hle h78
   refine qaM<|qaa<|bd hF fun o300 hJ hF=>qaG (Q':=fun e a w=>e = .normal ∧ ∃ m301 c303 M304 c306 M307,m293.le m301 ∧ Ok u m301 (M307 :: M304 :: [(b31,oc 34 [vi o300.Start,c303,c306])] :: M295 :: [(b27,oc 100 [vc_0,c11,vi r13.bound,vi r13.mod,vi r20.bound,vi r20.mod])] :: [(b1,oc 34 [vi 0,(Value.slice none 0 0),(Value.slice none 0 0)])] :: S) w ∧ Env 104 a [(2,vp b1),(7,vp b27),(8,c294),(9,vp b31),(10,vi v65)] ∧ InR .i64 o300.Start ∧ ORow 72 1 (pL 1 (pI .i64)) m301 c303 o300.Next M304 ∧ ORow 4 1 pB m301 c306 o300.Accept M307) ?_ ?_
   rotate_left
   ·intro e a w hO
    obtain ⟨rfl,m375,c377,M378,c380,M381,hle,ok,E,r376,h379,h382⟩:=hO
    have le_m0:=le_m0.trans hle
    have le_m22:=le_m22.trans hle
    have hc_0:=(mL (mL qaf)).up hle hc_0
    have h12:=(mL qaf).up hle h12
    have h296:=ORow.up qgT hle h296
    refine qal<|qaa<|qac<|mv E rfl fun a E=>lw E (qaw rfl rfl (InR.inc r71 (ORow.InR h70) c79)) fun a E=>av E rfl fun a E=>wpList_nil ?_
    cases hF
    exact qas ⟨m375,c294,M295,c377,M378,c380,M381,le_m22,ok,E.keep [2,7,8,9,10],h296,(InR.inc r71 (ORow.InR h70) c79),r376,h379,h382⟩
   have hF:=hJ
   have le_m293:=Mem.le.refl m293
   obtain ⟨l314,e315,hF⟩:=bnd hF
   obtain ⟨x319,e320,hF⟩:=bnd hF
   obtain ⟨r336,e337,hF⟩:=bnd hF
   obtain ⟨l341,e342,hF⟩:=bnd hF
   obtain rfl:=sj hF
   refine qaY [1,6] (Cls u m293 ([(b31,oc 34 [vi v66.Start,c73,c76])] :: M295 :: [(b27,oc 100 [vc_0,c11,vi r13.bound,vi r13.mod,vi r20.bound,vi r20.mod])] :: [(b1,oc 34 [vi 0,(Value.slice none 0 0),(Value.slice none 0 0)])] :: [])) (Cls u m293 (M295 :: [(b27,oc 100 [vc_0,c11,vi r13.bound,vi r13.mod,vi r20.bound,vi r20.mod])] :: [(b1,oc 34 [vi 0,(Value.slice none 0 0),(Value.slice none 0 0)])] :: [])) (by kernel_rfl) ?_
   intro w hw
   replace ok:=qbd ok hw
   clear hw
   have h12_o:=h12
   have hc_0_o:=hc_0
   refine qai (cl1 (cq le_m293 ok [3,4,5,6] rfl) (cq le_m293 ok [4,5,6] rfl)) fun hT=>kt 0 E rfl hT (qae qbP rfl) fun a E=>qaS 1 E rfl (by kernel_rfl) nP hT (qaj qdf rfl (qab.cown 0 rfl rfl)) rfl rfl fun a E=>kt 2 E rfl hT (qah rfl) fun a E=>kt 5 E rfl hT (qae qc9 rfl) fun a E=>qaS 6 E rfl (by kernel_rfl) nP hT (qaj qd3 rfl (qab.cown 0 rfl rfl)) rfl rfl fun a E=>kt 7 E rfl hT (qag (cs:=[vc_0,c11,vi r13.bound,vi r13.mod,vi r20.bound,vi r20.mod]) qhU rfl rfl (qab.cown 1 rfl rfl)) fun a E=>kt 8 E rfl hT (qah rfl) fun a E=>kt 9 E rfl hT (qah rfl) fun a E=>?_
   obtain ⟨b346,o347,hp348,yy349⟩:=qbR qhG h296 e320 (P:=Tryz.prog) (X:=.tmp 91) (I:=.tmp 92) (kd:=.i64) (qaT E rfl) (qaT E rfl)
   refine kt 10 E rfl hT (yy349 _ _) fun a E=>?_
   obtain ⟨es350,hl351,rr352,hh353⟩:=qb9 h296 e320 hp348 (by decide)
   obtain ⟨rfl,r354,r355,l356,r357,r358,r359,r360⟩:=rr352
   refine kt 11 E rfl hT (qag (cs:=[vi x319.phase,vi x319.whole,vs x319.truth,vb x319.some,vi x319.v,vi x319.w,vi x319.f,vi x319.t]) qa3 rfl rfl (qab.crow hh353 0 rfl)) fun a E=>qao [3] (by kernel_rfl) rfl (qar ?_)
   ·refine qbm (o:=_) rfl ?_
    obtain ⟨m361,hle,ok,hfz⟩:=(ok.frs 0 rfl).freeze
    have h362:=ORow.froz (mI .i64) h299 hle hfz (by decide)
    have le_m0:=le_m0.trans hle
    have le_m22:=le_m22.trans hle
    have le_m293:=le_m293.trans hle
    have hc_0:=(mL (mL qaf)).up hle hc_0
    have h12:=(mL qaf).up hle h12
    have h75:=ORow.up (mL (mI .i64)) hle h75
    have h78:=ORow.up mB hle h78
    have h296:=ORow.up qgT hle h296
    refine qaW (R:=(pL 1 (pI .i64))) (xo:=[.tmp 85]) (xs:=([o93.2]:List (List (Int)))) E ok qcA qdC rfl ⟨⟨_,(qbW h362),rfl,h362⟩,trivial⟩ rfl rfl rfl rfl fun c363 M364 a w E ok h365=>wn<|qai (cl1 (cq le_m293 ok [3,4,5,6] rfl) (cq le_m293 ok [4,5,6] rfl)) fun hT=>qao [4] (by kernel_rfl) rfl (qar ?_)
    ·refine wo rfl<|qbo (R:=(pL 1 (pI .i64))) E ok 2 (mL (mI .i64)) qcA Tryz.underlying31 rfl h75 (qa0.ofRow h365 0 rfl ok) e315 ⟨_,qdC,rfl⟩ rfl rfl rfl rfl fun c366 M367 a w E ok h368=>wn<|qai (cl1 (cq le_m293 ok [3,4,5,6] rfl) (cq le_m293 ok [4,5,6] rfl)) fun hT=>kt 15 E rfl hT (qae qbP rfl) fun a E=>qao [12] (by kernel_rfl) rfl (qar ?_)
     ·refine wo rfl<|lc E qtc rfl (qh1 N _ (Walker.mk c_0 r8 r13 r20) ⟨_,_,rfl,hc_0,h12,r18,r19,r25,r26⟩ _ x319 ⟨rfl,r354,r355,l356,r357,r358,r359,r360⟩ e337 hG ok) fun w ok a E=>wn<|qai (cl1 (cq le_m293 ok [3,4,5,6] rfl) (cq le_m293 ok [4,5,6] rfl)) fun hT=>qao [13] (by kernel_rfl) rfl (qar ?_)
      ·refine wo rfl<|qaW (R:=pB) (xo:=[.tmp 95]) (xs:=([r336]:List (Bool))) E ok qce qdD rfl ⟨⟨_,rfl,rfl,qgB⟩,trivial⟩ rfl rfl rfl rfl fun c369 M370 a w E ok h371=>wn<|qai (cl1 (cq le_m293 ok [4,5,6,7] rfl) (cq le_m293 ok [5,6,7] rfl)) fun hT=>qao [14] (by kernel_rfl) rfl (qar ?_)
       ·refine wo rfl<|qbo (R:=pB) E ok 2 mB qce Tryz.underlying32 rfl h78 (qa0.ofRow h371 0 rfl ok) e342 ⟨_,qdD,rfl⟩ rfl rfl rfl rfl fun c372 M373 a w E ok h374=>wn<|qai (cl1 (cq le_m293 ok [4,5,6,7] rfl) (cq le_m293 ok [5,6,7] rfl)) fun hT=>qao [16] (by kernel_rfl) rfl (qar ?_)
        ·refine wo rfl<|qad E ok 4 rfl rfl rfl qh9 (ORow.cells h368) rfl ⟨(ORow.one h368),trivial⟩ rfl rfl fun w ok=>wn<|qai (cl2 (by kernel_rfl) (cq le_m293 ok [5,6,7] rfl)) fun hT=>kt 17 E rfl hT (qae qc9 rfl) fun a E=>qao [18] (by kernel_rfl) rfl (qar ?_)
         ·refine wo rfl<|qad E ok 4 rfl rfl rfl qhd (ORow.cells h374) rfl ⟨(ORow.one h374),trivial⟩ rfl rfl fun w ok=>wn<|qai (cl2 (by kernel_rfl) (cq le_m293 ok [5,6,7] rfl)) fun hT=>qaV (by kernel_rfl) ?_
          exact ⟨rfl,⟨m361,c366,M367,c372,M373,le_m293,(ok.pk 8 [2,3,4,5,6,7] rfl (by decide)),E.keep [2,7,8,9,10],r72,h368,h374⟩⟩
 rintro ⟨v102,v103,v104⟩ a w r ⟨m105,c106,M107,c109,M110,hle,ok,E,h108,h111,r112⟩ hF
 replace hF:qb2 N c_0 r8 r13 r20 v65 v102 v103 v104 = some r:=hF
 unfold qb2 at hF
 have le_m67:=Mem.le.refl m67
 have le_m0:=le_m0.trans hle
 have le_m22:=le_m22.trans hle
 have le_m67:=le_m67.trans hle
 have hc_0:=(mL (mL qaf)).up hle hc_0
 have h12:=(mL qaf).up hle h12
 have h75:=ORow.up (mL (mI .i64)) hle h75
 have h78:=ORow.up mB hle h78
 refine wp_seq<|sg<|mv E rfl fun a E=>lw E (qav rfl rfl) fun a E=>wn<|cg E rfl hF (fun c113 hF=>?_) fun c113 hF=>?_
 ·refine wp_exit<|qaA ?_
  cases hF
  exact so (⟨rfl,⟨m105,c106,M107,c109,M110,le_m67,ok,E.keep [2,7,8,9,10,11],h108,h111⟩⟩)
 refine wp_skip<|qaa<|wp_seq<|wp_block<|wp_seq<|bd hF fun o114 hJ hF=>qaG (Q':=fun e a w=>e = .normal ∧ ∃ m115 b123,m105.le m115 ∧ Ok u m115 ([(b123,oc 102 [vi o114.phase,vi o114.whole,vs o114.truth,vb o114.some,vi o114.v,vi o114.w,vi o114.f,vi o114.t])] :: M110 :: M77 :: M74 :: [(b31,oc 34 [vi v66.Start,c73,c76])] :: M107 :: [(b27,oc 100 [vc_0,c11,vi r13.bound,vi r13.mod,vi r20.bound,vi r20.mod])] :: [(b1,oc 34 [vi 0,(Value.slice none 0 0),(Value.slice none 0 0)])] :: S) w ∧ Env 104 a [(2,vp b1),(7,vp b27),(8,c106),(9,vp b31),(10,vi v65),(11,c109),(12,vi v104),(13,vp b123)] ∧ InR .i64 o114.phase ∧ InR .i64 o114.whole ∧ o114.truth.length ≤ LIMS ∧ InR .i64 o114.v ∧ InR .i64 o114.w ∧ InR .i64 o114.f ∧ InR .i64 o114.t) ?_ ?_
 rotate_left
 ·as_aux_lemma =>
   intro e a w hO
   obtain ⟨rfl,m234,b242,hle,ok,E,r235,r236,l237,r238,r239,r240,r241⟩:=hO
   have le_m0:=le_m0.trans hle
   have le_m22:=le_m22.trans hle
   have le_m67:=le_m67.trans hle
   have hc_0:=(mL (mL qaf)).up hle hc_0
   have h12:=(mL qaf).up hle h12
   have h75:=ORow.up (mL (mI .i64)) hle h75
   have h78:=ORow.up mB hle h78
   have h108:=ORow.up qgT hle h108
   have h111:=ORow.up (mI .i64) hle h111
   refine qaa<|sg<|aw E rfl fun a E=>wp_seq<|wp_block<|bd hF fun o244 hL hF=>qaE _ (fun (s:Int) a w=>Ok u m234 ([(b242,oc 102 [vi o114.phase,vi o114.whole,vs o114.truth,vb o114.some,vi o114.v,vi o114.w,vi o114.f,vi o114.t])] :: M110 :: M77 :: M74 :: [(b31,oc 34 [vi v66.Start,c73,c76])] :: M107 :: [(b27,oc 100 [vc_0,c11,vi r13.bound,vi r13.mod,vi r20.bound,vi r20.mod])] :: [(b1,oc 34 [vi 0,(Value.slice none 0 0),(Value.slice none 0 0)])] :: S) w ∧ Env 104 a [(2,vp b1),(7,vp b27),(8,c106),(9,vp b31),(10,vi v65),(11,c109),(12,vi v104),(13,vp b242),(14,vi s)] ∧ InR .i64 s) (fun (b:Int) e a w=>e = (.exit 4) ∧ Ok u m234 ([(b242,oc 102 [vi o114.phase,vi o114.whole,vs o114.truth,vb o114.some,vi o114.v,vi o114.w,vi o114.f,vi o114.t])] :: M110 :: M77 :: M74 :: [(b31,oc 34 [vi v66.Start,c73,c76])] :: M107 :: [(b27,oc 100 [vc_0,c11,vi r13.bound,vi r13.mod,vi r20.bound,vi r20.mod])] :: [(b1,oc 34 [vi 0,(Value.slice none 0 0),(Value.slice none 0 0)])] :: S) w ∧ Env 104 a [(2,vp b1),(7,vp b27),(8,c106),(9,vp b31),(10,vi v65),(11,c109),(12,vi v104),(13,vp b242),(14,vi b)] ∧ InR .i64 b) ?_ ?_ N _ a w hL ⟨ok,E.keep [2,7,8,9,10,11,12,13,14],(ir 0)⟩
   rotate_left
   ·intro e a w _ hO
    obtain ⟨rfl,ok,E,r267⟩:=hO
    refine qaM<|qaa<|wp_seq<|sg<|mz E rfl rfl fun a E=>lv E ok (qcF qhG h108 rfl) fun a E=>lw E (qau rfl rfl) fun a E=>wn<|bd hF fun o268 hJ hF=>qaG (Q':=fun e a w=>e = .normal ∧ ∃ c269 M270,Ok u m234 ([(b242,oc 102 [vi o114.phase,vi o114.whole,vs o114.truth,vb o114.some,vi o114.v,vi o114.w,vi o114.f,vi o114.t])] :: M110 :: M77 :: M74 :: [(b31,oc 34 [vi v66.Start,c73,c76])] :: M270 :: [(b27,oc 100 [vc_0,c11,vi r13.bound,vi r13.mod,vi r20.bound,vi r20.mod])] :: [(b1,oc 34 [vi 0,(Value.slice none 0 0),(Value.slice none 0 0)])] :: S) w ∧ Env 104 a [(2,vp b1),(7,vp b27),(8,c269),(9,vp b31),(10,vi v65),(11,c109),(12,vi v104),(14,vi o244)] ∧ ORow 102 8 qeq m234 c269 o268 M270) ?_ ?_
    ·have hF:=hJ
     refine cg E rfl hF (fun c272 hF=>?_) fun c272 hF=>?_
     ·refine wp_skip ?_
      cases hF
      exact ⟨rfl,⟨c106,M107,ok,E.keep [2,7,8,9,10,11,12,14],h108⟩⟩
     refine qac<|mv E rfl fun a E=>lv E ok (qag (cs:=[vi o114.phase,vi o114.whole,vs o114.truth,vb o114.some,vi o114.v,vi o114.w,vi o114.f,vi o114.t]) qa3 rfl rfl (qab.own 0 rfl rfl)) fun a E=>qaW (R:=qeq) (xo:=[.tmp 76]) (xs:=([o114]:List (State2))) E ok qhG qc0 rfl ⟨⟨_,rfl,rfl,⟨rfl,r235,r236,l237,r238,r239,r240,r241⟩⟩,trivial⟩ rfl rfl rfl rfl fun c273 M274 a w E ok h275=>bd hF fun l276 e277 hF=>qbo (R:=qeq) E ok 6 qgT qhG Tryz.underlying103 rfl h108 (qa0.ofRow h275 0 rfl ok) e277 ⟨_,qc0,rfl⟩ rfl rfl rfl rfl fun c278 M279 a w E ok h280=>av E rfl fun a E=>wpList_nil ?_
     cases hF
     exact ⟨rfl,⟨c278,M279,(ok.pk 9 [1,2,3,4,5,6,7,8] rfl (by decide)),E.keep [2,7,8,9,10,11,12,14],h280⟩⟩
    intro e a w hO
    obtain ⟨rfl,c281,M282,ok,E,h283⟩:=hO
    refine qaa<|qac<|mz E rfl rfl fun a E=>qaW (R:=(pI .i64)) (xo:=[.tmp 80]) (xs:=([o244]:List (Int))) E ok qaJ qbl rfl ⟨⟨_,rfl,rfl,(qaX r267)⟩,trivial⟩ rfl rfl rfl rfl fun c284 M285 a w E ok h286=>bd hF fun l287 e288 hF=>qbo (R:=(pI .i64)) E ok 2 (mI .i64) qaJ Tryz.underlying72 rfl h111 (qa0.ofRow h286 0 rfl ok) e288 ⟨_,qbl,rfl⟩ rfl rfl rfl rfl fun c289 M290 a w E ok h291=>av E rfl fun a E=>wpList_nil<|qal<|qaa<|qac<|mv E rfl fun a E=>lw E (qaw rfl rfl (InR.inc r112 (ir 11) c113)) fun a E=>av E rfl fun a E=>wpList_nil ?_
    cases hF
    exact qas ⟨m234,c281,M282,c289,M290,le_m67,(ok.pk 9 [2,3,4,5,6,7,8] rfl (by decide)),E.keep [2,7,8,9,10,11,12],h283,h291,(InR.inc r112 (ir 11) c113)⟩
   rintro v246 a w r ⟨ok,E,r247⟩ hF
   replace hF:qcx N v102 o114 v246 = some r:=hF
   unfold qcx at hF
   refine wp_seq<|wp_seq<|qdc (by kernel_rfl) (by kernel_rfl) ok<|qv E (qah rfl) fun a E=>qv E (qah rfl) fun a E=>qv E (qcF qhG h108 rfl) fun a E=>qv E (qav rfl rfl) fun a E=>qv E (qah rfl) fun a E=>bw E 61 hF (fun c248 hF E=>?_) fun c248 hF E=>?_
   ·refine qs E fun a E=>qs E fun a E=>qs E fun a E=>qs E fun a E=>qs E fun a E=>qs E fun a E=>qv E (qa1 rfl rfl) fun a E=>wpQuiet_nil ?_
    intro w ok
    refine qaa<|c_if E rfl (fun h=>by cases h) (fun _=>?_)
    refine wp_exit<|qaA ?_
    cases hF
    exact so (⟨rfl,⟨ok,E.keep [2,7,8,9,10,11,12,13,14],r247⟩⟩)
   refine qv E (qah rfl) fun a E=>qv E (qah rfl) fun a E=>?_
   obtain ⟨x249,e250,hF⟩:=bnd hF
   obtain ⟨b251,o252,hp253,yy254⟩:=qbR qhG h108 e250 (P:=Tryz.prog) (X:=.tmp 62) (I:=.tmp 63) (kd:=.i64) (qaT E rfl) (qaT E rfl)
   refine qv E (yy254 _ _) fun a E=>?_
   obtain ⟨es255,hl256,rr257,hh258⟩:=qb9 h108 e250 hp253 (by decide)
   obtain ⟨rfl,r259,r260,l261,r262,r263,r264,r265⟩:=rr257
   refine qv E (qag (cs:=[vi x249.phase,vi x249.whole,vs x249.truth,vb x249.some,vi x249.v,vi x249.w,vi x249.f,vi x249.t]) qa3 rfl rfl (hh258 _ _ _ 5 rfl)) fun a E=>qv E (qag (cs:=[vi o114.phase,vi o114.whole,vs o114.truth,vb o114.some,vi o114.v,vi o114.w,vi o114.f,vi o114.t]) qa3 rfl rfl (qab.own 0 rfl rfl)) fun a E=>qv E (qr5 qru (qoU Tryz.underlying102 qpI (qf7 (by decide) (qde qak rfl) (qde qak rfl) (qiQ Tryz.underlying3) (qf7 (by decide) (qde qak rfl) (qde qak rfl) (qiQ Tryz.underlying3) (qf7 (by decide) (qde qfs rfl) (qde qfs rfl) (qqS Tryz.underlying9) (qf7 (by decide) (qde qbx rfl) (qde qbx rfl) (qp0 Tryz.underlying4) (qf7 (by decide) (qde qak rfl) (qde qak rfl) (qiQ Tryz.underlying3) (qf7 (by decide) (qde qak rfl) (qde qak rfl) (qiQ Tryz.underlying3) (qf7 (by decide) (qde qak rfl) (qde qak rfl) (qiQ Tryz.underlying3) (qpq (by decide) (qde qak rfl) (qde qak rfl) (qiQ Tryz.underlying3)))))))))) rfl rfl) fun a E=>qv E (qa8 rfl rfl) fun a E=>wpQuiet_nil ?_
   intro w ok
   refine qaa<|cg E rfl hF (fun c266 hF=>?_) fun c266 hF=>?_
   ·refine wp_exit<|qaA ?_
    cases hF
    exact so (⟨rfl,⟨ok,E.keep [2,7,8,9,10,11,12,13,14],r247⟩⟩)
   refine wp_skip<|qaa<|wp_block<|qac<|mv E rfl fun a E=>lw E (qaw rfl rfl (InR.inc r247 (ORow.InR h108) c248)) fun a E=>av E rfl fun a E=>wpList_nil<|qal ?_
   cases hF
   exact qas ⟨ok,E.keep [2,7,8,9,10,11,12,13,14],(InR.inc r247 (ORow.InR h108) c248)⟩
 have hF:=hJ
 have le_m105:=Mem.le.refl m105
 obtain ⟨x124,e125,hF⟩:=bnd hF
 obtain ⟨r141,e142,hF⟩:=bnd hF
 obtain ⟨r153,e154,hF⟩:=bnd hF
 obtain rfl:=sj hF
 refine qaY [] (Cls u m105 (M110 :: M77 :: M74 :: [(b31,oc 34 [vi v66.Start,c73,c76])] :: M107 :: [(b27,oc 100 [vc_0,c11,vi r13.bound,vi r13.mod,vi r20.bound,vi r20.mod])] :: [(b1,oc 34 [vi 0,(Value.slice none 0 0),(Value.slice none 0 0)])] :: [])) (Cls u m105 (M110 :: M77 :: M74 :: [(b31,oc 34 [vi v66.Start,c73,c76])] :: M107 :: [(b27,oc 100 [vc_0,c11,vi r13.bound,vi r13.mod,vi r20.bound,vi r20.mod])] :: [(b1,oc 34 [vi 0,(Value.slice none 0 0),(Value.slice none 0 0)])] :: [])) (by kernel_rfl) ?_
 intro w hw
 replace ok:=qbd ok hw
 clear hw
 have h12_o:=h12
 have hc_0_o:=hc_0
 refine qai (cl1 (cq le_m105 ok [0,1,2,3,4,5,6] rfl) (cq le_m105 ok [0,1,2,3,4,5,6] rfl)) fun hT=>kt 0 E rfl hT (qag (cs:=[vc_0,c11,vi r13.bound,vi r13.mod,vi r20.bound,vi r20.mod]) qhU rfl rfl (qab.cown 5 rfl rfl)) fun a E=>kt 1 E rfl hT (qag (cs:=[vc_0,c11,vi r13.bound,vi r13.mod,vi r20.bound,vi r20.mod]) qhU rfl rfl (qab.cown 5 rfl rfl)) fun a E=>kt 2 E rfl hT (qah rfl) fun a E=>kt 3 E rfl hT (qah rfl) fun a E=>?_
 obtain ⟨b166,o167,hp168,yy169⟩:=qbR qhG h108 e125 (P:=Tryz.prog) (X:=.tmp 50) (I:=.tmp 51) (kd:=.i64) (qaT E rfl) (qaT E rfl)
 refine kt 4 E rfl hT (yy169 _ _) fun a E=>?_
 obtain ⟨es170,hl171,rr172,hh173⟩:=qb9 h108 e125 hp168 (by decide)
 obtain ⟨rfl,r174,r175,l176,r177,r178,r179,r180⟩:=rr172
 refine kt 5 E rfl hT (qag (cs:=[vi x124.phase,vi x124.whole,vs x124.truth,vb x124.some,vi x124.v,vi x124.w,vi x124.f,vi x124.t]) qa3 rfl rfl (qab.crow hh173 4 rfl)) fun a E=>kt 6 E rfl hT (qah rfl) fun a E=>qao [7,9] (by kernel_rfl) rfl (qdm ?_ (qdm ?_ (qgR)))
 rotate_left
 ·refine wo rfl<|qax E ok qc0 rfl rfl fun b213 a w E ok=>wn<|qai (cl1 (cq le_m105 ok [1,2,3,4,5,6,7] rfl) (cq le_m105 ok [1,2,3,4,5,6,7] rfl)) fun hT=>qao [7] (by kernel_rfl) rfl (qar ?_)
  ·refine wo rfl<|qan E qqo rfl (qgC N _ (Walker.mk c_0 r8 r13 r20) ⟨_,_,rfl,hc_0,h12,r18,r19,r25,r26⟩ _ x124 ⟨rfl,r174,r175,l176,r177,r178,r179,r180⟩ v104 r112 e142 hG ok) rfl rfl ?_
   rintro _ w ⟨m214,vs215,rfl,hle,ok,h216⟩
   have le_m0:=le_m0.trans hle
   have le_m22:=le_m22.trans hle
   have le_m67:=le_m67.trans hle
   have le_m105:=le_m105.trans hle
   have hc_0:=(mL (mL qaf)).up hle hc_0
   have h12:=(mL qaf).up hle h12
   have h75:=ORow.up (mL (mI .i64)) hle h75
   have h78:=ORow.up mB hle h78
   have h108:=ORow.up qgT hle h108
   have h111:=ORow.up (mI .i64) hle h111
   obtain ⟨rfl,r217,r218,l219,r220,r221,r222,r223⟩:=h216
   refine ⟨_,rfl,fun a E=>?_⟩
   refine wn<|qai (cl1 (cq le_m105 ok [1,2,3,4,5,6,7] rfl) (cq le_m105 ok [1,2,3,4,5,6,7] rfl)) fun hT=>qao [8] (by kernel_rfl) rfl (qar ?_)
   ·refine wo rfl<|qan E qo2 rfl (qeT N _ (Walker.mk c_0 r8 r13 r20) ⟨_,_,rfl,hc_0,h12,r18,r19,r25,r26⟩ _ r141 ⟨rfl,r217,r218,l219,r220,r221,r222,r223⟩ e154 hG ok) rfl rfl ?_
    rintro _ w ⟨m224,vs225,rfl,hle,ok,h226⟩
    have le_m0:=le_m0.trans hle
    have le_m22:=le_m22.trans hle
    have le_m67:=le_m67.trans hle
    have le_m105:=le_m105.trans hle
    have hc_0:=(mL (mL qaf)).up hle hc_0
    have h12:=(mL qaf).up hle h12
    have h75:=ORow.up (mL (mI .i64)) hle h75
    have h78:=ORow.up mB hle h78
    have h108:=ORow.up qgT hle h108
    have h111:=ORow.up (mI .i64) hle h111
    obtain ⟨rfl,r227,r228,l229,r230,r231,r232,r233⟩:=h226
    refine ⟨_,rfl,fun a E=>?_⟩
    refine wn<|qai (cl1 (cq le_m105 ok [1,2,3,4,5,6,7] rfl) (cq le_m105 ok [1,2,3,4,5,6,7] rfl)) fun hT=>qao [10] (by kernel_rfl) rfl (qar ?_)
    ·refine wo rfl<|qad E ok 0 rfl rfl rfl qbU rfl rfl ⟨rfl,rfl,rfl,rfl,rfl,rfl,rfl,rfl,trivial⟩ rfl rfl fun w ok=>wn<|qai (cl1 (cq le_m105 ok [1,2,3,4,5,6,7] rfl) (cq le_m105 ok [1,2,3,4,5,6,7] rfl)) fun hT=>qaV (by kernel_rfl) ?_
     exact ⟨rfl,⟨m224,b213,le_m105,ok,E.keep [2,7,8,9,10,11,12,13],r227,r228,l229,r230,r231,r232,r233⟩⟩
 refine wo rfl<|qan E qqo rfl (qgC N _ (Walker.mk c_0 r8 r13 r20) ⟨_,_,rfl,hc_0,h12,r18,r19,r25,r26⟩ _ x124 ⟨rfl,r174,r175,l176,r177,r178,r179,r180⟩ v104 r112 e142 hG ok) rfl rfl ?_
 rintro _ w ⟨m181,vs182,rfl,hle,ok,h183⟩
 have le_m0:=le_m0.trans hle
 have le_m22:=le_m22.trans hle
 have le_m67:=le_m67.trans hle
 have le_m105:=le_m105.trans hle
 have hc_0:=(mL (mL qaf)).up hle hc_0
 have h12:=(mL qaf).up hle h12
 have h75:=ORow.up (mL (mI .i64)) hle h75
 have h78:=ORow.up mB hle h78
 have h108:=ORow.up qgT hle h108
 have h111:=ORow.up (mI .i64) hle h111
 obtain ⟨rfl,r184,r185,l186,r187,r188,r189,r190⟩:=h183
 refine ⟨_,rfl,fun a E=>?_⟩
 refine wn<|qai (cl1 (cq le_m105 ok [0,1,2,3,4,5,6] rfl) (cq le_m105 ok [0,1,2,3,4,5,6] rfl)) fun hT=>qao [8,9] (by kernel_rfl) rfl (qdm ?_ (qdm ?_ (qgR)))
 ·refine wo rfl<|qan E qo2 rfl (qeT N _ (Walker.mk c_0 r8 r13 r20) ⟨_,_,rfl,hc_0,h12,r18,r19,r25,r26⟩ _ r141 ⟨rfl,r184,r185,l186,r187,r188,r189,r190⟩ e154 hG ok) rfl rfl ?_
  rintro _ w ⟨m191,vs192,rfl,hle,ok,h193⟩
  have le_m0:=le_m0.trans hle
  have le_m22:=le_m22.trans hle
  have le_m67:=le_m67.trans hle
  have le_m105:=le_m105.trans hle
  have hc_0:=(mL (mL qaf)).up hle hc_0
  have h12:=(mL qaf).up hle h12
  have h75:=ORow.up (mL (mI .i64)) hle h75
  have h78:=ORow.up mB hle h78
  have h108:=ORow.up qgT hle h108
  have h111:=ORow.up (mI .i64) hle h111
  obtain ⟨rfl,r194,r195,l196,r197,r198,r199,r200⟩:=h193
  refine ⟨_,rfl,fun a E=>?_⟩
  refine wn<|qai (cl1 (cq le_m105 ok [0,1,2,3,4,5,6] rfl) (cq le_m105 ok [0,1,2,3,4,5,6] rfl)) fun hT=>qao [9] (by kernel_rfl) rfl (qar ?_)
  ·refine wo rfl<|qax E ok qc0 rfl rfl fun b201 a w E ok=>wn<|qai (cl1 (cq le_m105 ok [1,2,3,4,5,6,7] rfl) (cq le_m105 ok [1,2,3,4,5,6,7] rfl)) fun hT=>qao [10] (by kernel_rfl) rfl (qar ?_)
   ·refine wo rfl<|qad E ok 0 rfl rfl rfl qbU rfl rfl ⟨rfl,rfl,rfl,rfl,rfl,rfl,rfl,rfl,trivial⟩ rfl rfl fun w ok=>wn<|qai (cl1 (cq le_m105 ok [1,2,3,4,5,6,7] rfl) (cq le_m105 ok [1,2,3,4,5,6,7] rfl)) fun hT=>qaV (by kernel_rfl) ?_
    exact ⟨rfl,⟨m191,b201,le_m105,ok,E.keep [2,7,8,9,10,11,12,13],r194,r195,l196,r197,r198,r199,r200⟩⟩
 refine wo rfl<|qax E ok qc0 rfl rfl fun b202 a w E ok=>wn<|qai (cl1 (cq le_m105 ok [1,2,3,4,5,6,7] rfl) (cq le_m105 ok [1,2,3,4,5,6,7] rfl)) fun hT=>qao [8] (by kernel_rfl) rfl (qar ?_)
 ·refine wo rfl<|qan E qo2 rfl (qeT N _ (Walker.mk c_0 r8 r13 r20) ⟨_,_,rfl,hc_0,h12,r18,r19,r25,r26⟩ _ r141 ⟨rfl,r184,r185,l186,r187,r188,r189,r190⟩ e154 hG ok) rfl rfl ?_
  rintro _ w ⟨m203,vs204,rfl,hle,ok,h205⟩
  have le_m0:=le_m0.trans hle
  have le_m22:=le_m22.trans hle
  have le_m67:=le_m67.trans hle
  have le_m105:=le_m105.trans hle
  have hc_0:=(mL (mL qaf)).up hle hc_0
  have h12:=(mL qaf).up hle h12
  have h75:=ORow.up (mL (mI .i64)) hle h75
  have h78:=ORow.up mB hle h78
  have h108:=ORow.up qgT hle h108
  have h111:=ORow.up (mI .i64) hle h111
  obtain ⟨rfl,r206,r207,l208,r209,r210,r211,r212⟩:=h205
  refine ⟨_,rfl,fun a E=>?_⟩
  refine wn<|qai (cl1 (cq le_m105 ok [1,2,3,4,5,6,7] rfl) (cq le_m105 ok [1,2,3,4,5,6,7] rfl)) fun hT=>qao [10] (by kernel_rfl) rfl (qar ?_)
  ·refine wo rfl<|qad E ok 0 rfl rfl rfl qbU rfl rfl ⟨rfl,rfl,rfl,rfl,rfl,rfl,rfl,rfl,trivial⟩ rfl rfl fun w ok=>wn<|qai (cl1 (cq le_m105 ok [1,2,3,4,5,6,7] rfl) (cq le_m105 ok [1,2,3,4,5,6,7] rfl)) fun hT=>qaV (by kernel_rfl) ?_
   exact ⟨rfl,⟨m203,b202,le_m105,ok,E.keep [2,7,8,9,10,11,12,13],r206,r207,l208,r209,r210,r211,r212⟩⟩
def qgA (u:World) (m0:Mem) (S:Segs) (r:Bool) (a:Act) (w:World):Prop :=
 Ok u m0 S w ∧ a.defers = [] ∧ RVs Tryz.prog a w [.t 2 (.bool r)]
theorem qkZ (N:Nat) (vd_0:List Value) (d_0:DFA) (hd_0:pDFA m0 vd_0 d_0) {r:Bool} (hF:qgZ N d_0 = some r) (hG:Glob u) (ok:Ok u m0 S w) :
  Calls Tryz.prog 86 [.agg vd_0.toArray].toArray w fun e w'=>(e = .returned (.bool r) ∧ Ok u m0 S w'):=by
 obtain ⟨c2,c4,rfl,r1,h3,h5⟩:=hd_0
 unfold qgZ at hF
 refine en (qgA u m0 S) r Tryz.func86 rfl rfl rfl (fun _ _ h=>ra h rfl) fun fin a E=>sg<|qbz E ok rfl rfl rfl fun b6 a w E ok=>aw E rfl fun a E=>sg<|fk E ok qbP qdf rfl 0 rfl rfl fun a E=>lv E ok (qaD qcA h3 rfl) fun a E=>aw E rfl fun a E=>wp_seq<|sg<|mv E rfl fun a E=>lw E (qav rfl rfl) fun a E=>mv E rfl fun a E=>bu E 11 hF (fun c7 hF E=>?_) fun c7 hF E=>?_
 ·refine lsq E fun a E=>pt E rfl rfl fun a E=>mv E rfl fun a E=>lsz E fun a E=>ls E fun a E=>pt E rfl rfl fun a E=>mv E rfl fun a E=>lsq E fun a E=>ls E fun a E=>pt E rfl rfl fun a E=>mv E rfl fun a E=>?_
  refine lsz E fun a E=>pt E rfl rfl fun a E=>wn<|c_if E rfl (fun _=>?_) (fun h=>by cases h)
  refine sg<|aw E rfl fun a E=>wp_ret<|qaq ?_
  exact fin hF ⟨ok.drop,E.d,rz E rfl⟩
 refine mv E rfl fun a E=>lw E (qb1 rfl rfl) fun a E=>pf E rfl rfl fun a E=>mv E rfl fun a E=>bu E 15 hF (fun c8 hF E=>?_) fun c8 hF E=>?_
 ·refine lsz E fun a E=>ls E fun a E=>pt E rfl rfl fun a E=>mv E rfl fun a E=>lsq E fun a E=>ls E fun a E=>pt E rfl rfl fun a E=>mv E rfl fun a E=>lsz E fun a E=>?_
  refine pt E rfl rfl fun a E=>wn<|c_if E rfl (fun _=>?_) (fun h=>by cases h)
  refine sg<|aw E rfl fun a E=>wp_ret<|qaq ?_
  exact fin hF ⟨ok.drop,E.d,rz E rfl⟩
 refine fk E ok qc9 qd3 rfl 0 rfl rfl fun a E=>lv E ok (qaD qce h5 rfl) fun a E=>mv E rfl fun a E=>lw E (qb7 rfl rfl) fun a E=>pf E rfl rfl fun a E=>mv E rfl fun a E=>bu E 22 hF (fun c9 hF E=>?_) fun c9 hF E=>?_
 ·refine lsq E fun a E=>ls E fun a E=>pt E rfl rfl fun a E=>mv E rfl fun a E=>lsz E fun a E=>pt E rfl rfl fun a E=>wn<|c_if E rfl (fun _=>?_) (fun h=>by cases h)
  refine sg<|aw E rfl fun a E=>wp_ret<|qaq ?_
  exact fin hF ⟨ok.drop,E.d,rz E rfl⟩
 refine fk E ok qiU qak rfl 0 rfl rfl fun a E=>lw E (qav rfl rfl) fun a E=>pf E rfl rfl fun a E=>mv E rfl fun a E=>bu E 27 hF (fun c10 hF E=>?_) fun c10 hF E=>?_
 ·refine lsz E fun a E=>pt E rfl rfl fun a E=>wn<|c_if E rfl (fun _=>?_) (fun h=>by cases h)
  refine sg<|aw E rfl fun a E=>wp_ret<|qaq ?_
  exact fin hF ⟨ok.drop,E.d,rz E rfl⟩
 refine fk E ok qiU qak rfl 0 rfl rfl fun a E=>mv E rfl fun a E=>lw E (qev rfl rfl) fun a E=>pf E rfl rfl fun a E=>wn<|cf E rfl hF (fun c11 hF=>?_) fun c11 hF=>?_
 ·refine sg<|aw E rfl fun a E=>wp_ret<|qaq ?_
  exact fin hF ⟨ok.drop,E.d,rz E rfl⟩
 refine wp_skip<|qaa<|wp_seq<|sg<|aw E rfl fun a E=>wp_block<|bd hF fun o13 hL hF=>qaE _ (fun (s:Int) a w=>Ok u m0 ([(b6,oc 34 [vi d_0.Start,c2,c4])] :: S) w ∧ Env 70 a [(1,vp b6),(3,(vi (d_0.Next.length:Int))),(4,vi s)] ∧ InR .i64 s) (fun (b:(Unit ⊕ Bool)) e a w=>(Sum.elim (fun b82=>e = (.exit 0) ∧ Ok u m0 ([(b6,oc 34 [vi d_0.Start,c2,c4])] :: S) w ∧ Env 70 a []) (fun b83=>e = .ret ∧ qgA u m0 S b83 a w)) b) ?_ ?_ N _ a w hL ⟨ok,E.keep [1,3,4],(ir 0)⟩
 rotate_left
 ·intro e a w _ hO
  rcases o13 with o13 | o13
  rotate_left
  ·obtain ⟨rfl,hret⟩:=hO
   refine qaz<|qaq ?_
   exact fin hF hret
  have hF:=qca hF
  obtain ⟨rfl,ok,E⟩:=hO
  refine qaM<|qaa<|sg<|aw E rfl fun a E=>wp_ret ?_
  exact fin hF ⟨ok.drop,E.d,rz E rfl⟩
 rintro v15 a w r ⟨ok,E,r16⟩ hF
 replace hF:qgk N d_0 v15 = some r:=hF
 unfold qgk at hF
 refine wp_seq<|sg<|mz E rfl rfl fun a E=>lw E (qav rfl rfl) fun a E=>wn<|cg E rfl hF (fun c17 hF=>?_) fun c17 hF=>?_
 ·refine wp_exit<|qaA ?_
  cases hF
  exact so (sl ⟨rfl,⟨ok,E.keep []⟩⟩)
 refine wp_skip<|qaa<|wp_seq<|wp_block<|wp_seq<|sg<|fv E qbP rfl fun a E=>ld E ok qdf 0 rfl rfl rfl fun a E=>mv E rfl fun a E=>?_
 obtain ⟨x18,e19,hF⟩:=bnd hF
 obtain ⟨b20,o21,es22,hl23,rr24,at25,yy26⟩:=ia E 39 40 qcA h3 e19
 obtain ⟨c27,rfl,h28⟩:=qbK rr24
 refine lv E ok (yy26 _ _) fun a E=>lv E ok (qaj qc3 rfl (qab.ro at25)) fun a E=>lv E ok (qaD qaJ h28 rfl) fun a E=>lw E (qb7 rfl rfl) fun a E=>wn<|cf E rfl hF (fun c29 hF=>?_) fun c29 hF=>?_
 ·refine sg<|aw E rfl fun a E=>wp_ret<|qaq<|qaz<|qaq ?_
  cases hF
  exact so (sr ⟨rfl,⟨ok.drop,E.d,rz E rfl⟩⟩)
 refine wp_skip<|qaa<|sg<|aw E rfl fun a E=>wp_block<|bd hF fun o31 hL hF=>qaE _ (fun (s:Int) a w=>Ok u m0 ([(b6,oc 34 [vi d_0.Start,c2,c4])] :: S) w ∧ Env 70 a [(1,vp b6),(3,(vi (d_0.Next.length:Int))),(4,vi v15),(5,vi s)] ∧ InR .i64 s) (fun (b:(Unit ⊕ Bool)) e a w=>(Sum.elim (fun b80=>e = (.exit 2) ∧ Ok u m0 ([(b6,oc 34 [vi d_0.Start,c2,c4])] :: S) w ∧ Env 70 a [(1,vp b6),(3,(vi (d_0.Next.length:Int))),(4,vi v15)]) (fun b81=>e = .ret ∧ qgA u m0 S b81 a w)) b) ?_ ?_ N _ a w hL ⟨ok,E.keep [1,3,4,5],(ir 0)⟩
 rotate_left
 ·intro e a w _ hO
  rcases o31 with o31 | o31
  rotate_left
  ·have hF:=qmt hF
   obtain ⟨rfl,hret⟩:=hO
   refine qaz<|qaz<|qaq ?_
   cases hF
   exact so (sr ⟨rfl,hret⟩)
  have hF:=qca hF
  obtain ⟨rfl,ok,E⟩:=hO
  refine qaM<|qal<|qaa<|qac<|mv E rfl fun a E=>lw E (qaw rfl rfl (InR.inc r16 (qam h3) c17)) fun a E=>av E rfl fun a E=>wpList_nil ?_
  cases hF
  exact qas ⟨ok,E.keep [1,3,4],(InR.inc r16 (qam h3) c17)⟩
 rintro v33 a w r ⟨ok,E,r34⟩ hF
 replace hF:qge N d_0 v15 v33 = some r:=hF
 unfold qge at hF
 refine wp_seq<|sg<|mv E rfl fun a E=>lw E (qav rfl rfl) fun a E=>wn<|cg E rfl hF (fun c35 hF=>?_) fun c35 hF=>?_
 ·refine wp_exit<|qaA ?_
  cases hF
  exact so (sl ⟨rfl,⟨ok,E.keep [1,3,4]⟩⟩)
 refine wp_skip<|qaa<|wp_seq<|wp_block<|sg<|fk E ok qbP qdf rfl 0 rfl rfl fun a E=>mv E rfl fun a E=>?_
 obtain ⟨x36,e37,hF⟩:=bnd hF
 obtain ⟨b38,o39,es40,hl41,rr42,at43,yy44⟩:=ia E 50 51 qcA h3 e37
 obtain ⟨c45,rfl,h46⟩:=qbK rr42
 refine lv E ok (yy44 _ _) fun a E=>lv E ok (qaj qc3 rfl (qab.ro at43)) fun a E=>mv E rfl fun a E=>?_
 obtain ⟨x47,e48,hF⟩:=bnd hF
 obtain ⟨b49,o50,es51,hl52,rr53,at54,yy55⟩:=ia E 53 54 qaJ h46 e48
 obtain ⟨rfl,r56⟩:=rr53
 refine lv E ok (yy55 _ _) fun a E=>lv E ok (qaj qak rfl (qab.ro at54)) fun a E=>lw E (qav rfl rfl) fun a E=>mv E rfl fun a E=>bu E 58 hF (fun c57 hF E=>?_) fun c57 hF E=>?_
 ·refine lsz E fun a E=>lsz E fun a E=>lsq E fun a E=>pt E rfl rfl fun a E=>wn<|c_if E rfl (fun _=>?_) (fun h=>by cases h)
  refine sg<|aw E rfl fun a E=>wp_ret<|qaz<|qaq ?_
  cases hF
  exact so (sr ⟨rfl,⟨ok.drop,E.d,rz E rfl⟩⟩)
 refine fk E ok qbP qdf rfl 0 rfl rfl fun a E=>mv E rfl fun a E=>?_
 obtain ⟨x58,e59,hF⟩:=bnd hF
 obtain ⟨b60,o61,es62,hl63,rr64,at65,yy66⟩:=ia E 60 61 qcA h3 e59
 obtain ⟨c67,rfl,h68⟩:=qbK rr64
 refine lv E ok (yy66 _ _) fun a E=>lv E ok (qaj qc3 rfl (qab.ro at65)) fun a E=>mv E rfl fun a E=>?_
 obtain ⟨x69,e70,hF⟩:=bnd hF
 obtain ⟨b71,o72,es73,hl74,rr75,at76,yy77⟩:=ia E 63 64 qaJ h68 e70
 obtain ⟨rfl,r78⟩:=rr75
 refine lv E ok (yy77 _ _) fun a E=>lv E ok (qaj qak rfl (qab.ro at76)) fun a E=>mv E rfl fun a E=>lw E (qev rfl rfl) fun a E=>pf E rfl rfl fun a E=>wn<|cg E rfl hF (fun c79 hF=>?_) fun c79 hF=>?_
 ·refine wp_skip<|qal<|qaa<|qac<|mv E rfl fun a E=>lw E (qaw rfl rfl (InR.inc r34 (ir 11) c35)) fun a E=>av E rfl fun a E=>wpList_nil ?_
  cases hF
  exact qas ⟨ok,E.keep [1,3,4,5],(InR.inc r34 (ir 11) c35)⟩
 refine sg<|aw E rfl fun a E=>wp_ret<|qaz<|qaq ?_
 cases hF
 exact so (sr ⟨rfl,⟨ok.drop,E.d,rz E rfl⟩⟩)
def qjM (u:World) (m0:Mem) (S:Segs) (r:DFA × Int) (a:Act) (w:World):Prop :=
 ∃ m1 v0,m0.le m1 ∧ Ok u m1 S w ∧ a.defers = [] ∧ RVs Tryz.prog a w [.c 2 34 (.agg v0.toArray),.t 3 (.int .i64 r.2)] ∧ pDFA m1 v0 r.1 ∧ InR .i64 r.2
theorem qjV (N:Nat) (vd_0:List Value) (d_0:DFA) (hd_0:pDFA m0 vd_0 d_0) {r:DFA × Int} (hF:qgz N d_0 = some r) (hG:Glob u) (ok:Ok u m0 S w) :
  Calls Tryz.prog 46 [.agg vd_0.toArray].toArray w fun e w'=>∃ m1 v0,e = .returned (.tuple [(.agg v0.toArray),(.int .i64 r.2)].toArray) ∧ m0.le m1 ∧ Ok u m1 S w' ∧ pDFA m1 v0 r.1 ∧ InR .i64 r.2:=by
 obtain ⟨c2,c4,rfl,r1,h3,h5⟩:=hd_0
 have le_m0:=Mem.le.refl m0
 unfold qgz at hF
 refine en (qjM u m0 S) r Tryz.func46 rfl rfl rfl (by rintro a w ⟨m1,v0,hle,ok,hd,hrv,h0,h1⟩; exact qbG [.c 2 34 (.agg v0.toArray),.t 3 (.int .i64 r.2)] hd rfl hrv ⟨m1,v0,rfl,hle,ok,h0,h1⟩) fun fin a E=>sg<|qbz E ok rfl rfl rfl fun b6 a w E ok=>qax E ok qdB rfl rfl fun b7 a w E ok=>aw E rfl fun a E=>wp_seq<|sg<|lv E ok (qag (cs:=[vi d_0.Start,c2,c4]) qc4 rfl rfl (qab.own 1 rfl rfl)) fun a E=>bd hF fun r8 e9 hF=>lc E qsR rfl (qkZ N _ d_0 ⟨_,_,rfl,r1,h3,h5⟩ e9 hG ok) fun w ok a E=>lw E (qbu rfl) fun a E=>wn<|cf E rfl hF (fun c10 hF=>?_) fun c10 hF=>?_
 ·refine sg<|lw E (qaF (ps:=[]) (qs:=[]) (cs:=[vi 0,(Value.slice none 0 0),(Value.slice none 0 0)]) qdB qjr rfl trivial rfl) fun a E=>qad E ok 0 rfl rfl rfl qfc rfl rfl ⟨rfl,rfl,rfl,trivial⟩ rfl rfl fun w ok=>aw E rfl fun a E=>wp_ret<|qaq ?_
  exact fin hF ⟨m0,[vi 0,(Value.slice none 0 0),(Value.slice none 0 0)],le_m0,ok.drop.drop,E.d,⟨rv_c (cs:=[vi 0,(Value.slice none 0 0),(Value.slice none 0 0)]) E ok rfl qc4 rfl (qab.own 0 rfl rfl),rv_t E rfl,trivial⟩,⟨_,_,rfl,(ir 0),qeO,qeO⟩,(ir 1)⟩
 refine wp_skip<|qaa<|sg<|lv E ok (qag (cs:=[vi d_0.Start,c2,c4]) qc4 rfl rfl (qab.own 1 rfl rfl)) fun a E=>bd hF fun r11 e12 hF=>qan E qqk rfl (qho N _ d_0 ⟨_,_,rfl,r1,h3,h5⟩ e12 hG ok) rfl rfl ?_
 rintro _ w ⟨m13,vs14,rfl,hle,ok,h15⟩
 have le_m0:=le_m0.trans hle
 have h3:=(mL (mL (mI .i64))).up hle h3
 have h5:=(mL mB).up hle h5
 obtain ⟨c17,c19,rfl,r16,h18,h20⟩:=h15
 refine ⟨_,rfl,fun a E=>?_⟩
 refine qad E ok 0 rfl rfl rfl qfc rfl rfl ⟨rfl,(qa5 h18),(qa5 h20),trivial⟩ rfl rfl fun w ok=>aw E rfl fun a E=>wp_ret ?_
 exact fin hF ⟨m13,[vi r11.Start,c17,c19],le_m0,ok.drop.drop,E.d,⟨rv_c (cs:=[vi r11.Start,c17,c19]) E ok rfl qc4 rfl (qab.own 0 rfl rfl),rv_t E rfl,trivial⟩,⟨_,_,rfl,r16,h18,h20⟩,(ir 0)⟩
end Go.Proofs.YtidfofhmnlhfjaaGreatDoor
namespace Go.Proofs.YtidfofhmnlhfjaaGreatDoor
open Go.X
variable {u:World} {m0:Mem} {S:Segs} {w:World}
set_option maxHeartbeats 4000000
set_option maxRecDepth 100000
def qj2 (u:World) (m0:Mem) (S:Segs) (r:DFA) (a:Act) (w:World):Prop :=
 ∃ m1 v0,m0.le m1 ∧ Ok u m1 S w ∧ a.defers = [] ∧ RVs Tryz.prog a w [.c 0 34 (.agg v0.toArray)] ∧ pDFA m1 v0 r
theorem qjI (N:Nat) {r:DFA} (hF:qfu N  = some r) (hG:Glob u) (ok:Ok u m0 S w) :
  Calls Tryz.prog 16 [].toArray w fun e w'=>∃ m1 v0,e = .returned (.agg v0.toArray) ∧ m0.le m1 ∧ Ok u m1 S w' ∧ pDFA m1 v0 r:=by
 have le_m0:=Mem.le.refl m0
 unfold qfu at hF
 refine en (qj2 u m0 S) r Tryz.func16 rfl rfl rfl (by rintro a w ⟨m1,v0,hle,ok,hd,hrv,h0⟩; exact qbG [.c 0 34 (.agg v0.toArray)] hd rfl hrv ⟨m1,v0,rfl,hle,ok,h0⟩) fun fin a E=>sg<|qax E ok qdB rfl rfl fun b1 a w E ok=>wn<|sg<|qax E ok qdB rfl rfl fun b2 a w E ok=>wn<|wp_seq<|sg<|av E rfl fun a E=>wn<|wp_block ?_
 obtain ⟨M12,ok,h13⟩:=qcf (e:=72) (k:=1) (R:=(pL 1 (pI .i64))) ok
 obtain ⟨M14,ok,h15⟩:=qcf (e:=4) (k:=1) (R:=pB) ok
 refine bd hF fun o16 hL hF=>qaE _ (fun (s:Int × DFA) a w=>∃ m17 c20 M21 c23 M24,m0.le m17 ∧ Ok u m17 (M24 :: M21 :: [(b2,oc 34 [vi s.2.Start,c20,c23])] :: [(b1,oc 34 [vi 0,(Value.slice none 0 0),(Value.slice none 0 0)])] :: S) w ∧ Env 87 a [(0,vp b1),(1,vp b2),(2,vi s.1)] ∧ InR .i64 s.1 ∧ InR .i64 s.2.Start ∧ ORow 72 1 (pL 1 (pI .i64)) m17 c20 s.2.Next M21 ∧ ORow 4 1 pB m17 c23 s.2.Accept M24) (fun (b:DFA) e a w=>e = (.exit 0) ∧ ∃ m323 c325 M326 c328 M329,m0.le m323 ∧ Ok u m323 (M329 :: M326 :: [(b2,oc 34 [vi b.Start,c325,c328])] :: [(b1,oc 34 [vi 0,(Value.slice none 0 0),(Value.slice none 0 0)])] :: S) w ∧ Env 87 a [(0,vp b1),(1,vp b2)] ∧ InR .i64 b.Start ∧ ORow 72 1 (pL 1 (pI .i64)) m323 c325 b.Next M326 ∧ ORow 4 1 pB m323 c328 b.Accept M329) ?_ ?_ N _ a w hL ⟨m0,(Value.slice none 0 0),M12,(Value.slice none 0 0),M14,Mem.le.refl _,ok,E.keep [0,1,2],(ir 0),(ir 0),h13,h15⟩
 rotate_left
 ·intro e a w _ hO
  obtain ⟨rfl,m299,c301,M302,c304,M305,hle,ok,E,r300,h303,h306⟩:=hO
  have le_m0:=le_m0.trans hle
  refine qaM<|qaa<|sg<|lv E ok (qag (cs:=[vi o16.Start,c301,c304]) qc4 rfl rfl (qab.own 2 rfl rfl)) fun a E=>?_
  obtain ⟨m307,hle,ok,hfz⟩:=(ok.frs 1 rfl).freeze
  have h308:=ORow.froz (mL (mI .i64)) h303 hle hfz (by decide)
  have le_m0:=le_m0.trans hle
  have h306:=ORow.up mB hle h306
  obtain ⟨m309,hle,ok,hfz⟩:=(ok.frs 0 rfl).freeze
  have h310:=ORow.froz mB h306 hle hfz (by decide)
  have le_m0:=le_m0.trans hle
  have h308:=(mL (mL (mI .i64))).up hle h308
  refine bd hF fun r311 e312 hF=>qan E qs6 rfl (qjV N _ o16 ⟨_,_,rfl,r300,h308,h310⟩ e312 hG ok) rfl rfl ?_
  rintro _ w ⟨m313,vs314,rfl,hle,ok,h315,r316⟩
  have le_m0:=le_m0.trans hle
  have h308:=(mL (mL (mI .i64))).up hle h308
  have h310:=(mL mB).up hle h310
  obtain ⟨c318,c320,rfl,r317,h319,h321⟩:=h315
  refine ⟨_,rfl,fun a E=>?_⟩
  refine mv E rfl fun a E=>lw E (qaR rfl rfl) fun a E=>lw E (qaR rfl rfl) fun a E=>qax E ok qdB rfl rfl fun b322 a w E ok=>qad E ok 0 rfl rfl rfl qfc rfl rfl ⟨rfl,(qa5 h319),(qa5 h321),trivial⟩ rfl rfl fun w ok=>aw E rfl fun a E=>sg<|lv E ok (qag (cs:=[vi r311.1.Start,c318,c320]) qc4 rfl rfl (qab.own 0 rfl rfl)) fun a E=>qad E ok 2 rfl rfl rfl qfc rfl rfl ⟨rfl,(qa5 h319),(qa5 h321),trivial⟩ rfl rfl fun w ok=>wn<|wp_ret ?_
  exact fin hF ⟨m313,[vi r311.1.Start,c318,c320],le_m0,ok.drop.drop.drop,E.d,⟨rv_c (cs:=[vi r311.1.Start,c318,c320]) E ok rfl qc4 rfl (qab.own 2 rfl rfl),trivial⟩,⟨_,_,rfl,r317,h319,h321⟩⟩
 rintro ⟨v26,v27⟩ a w r ⟨m28,c31,M32,c34,M35,hle,ok,E,r29,r30,h33,h36⟩ hF
 replace hF:qfO N v26 v27 = some r:=hF
 unfold qfO at hF
 have le_m0:=le_m0.trans hle
 refine wp_seq<|sg<|mv E rfl fun a E=>lw E (qeC rfl rfl) fun a E=>wn<|cg E rfl hF (fun c37 hF=>?_) fun c37 hF=>?_
 ·refine wp_exit<|qaA ?_
  cases hF
  exact so (⟨rfl,⟨m28,c31,M32,c34,M35,le_m0,ok,E.keep [0,1],r30,h33,h36⟩⟩)
 refine wp_skip<|qaa<|wp_seq<|wp_block<|sg<|av E rfl fun a E=>wn<|wp_seq<|sg<|aw E rfl fun a E=>wp_block ?_
 obtain ⟨M43,ok,h44⟩:=qcf (e:=3) (k:=1) (R:=(pI .i64)) ok
 refine bd hF fun o45 hL hF=>qaE _ (fun (s:(List (Int)) × Int) a w=>∃ c46 M47,Ok u m28 (M47 :: M35 :: M32 :: [(b2,oc 34 [vi v27.Start,c31,c34])] :: [(b1,oc 34 [vi 0,(Value.slice none 0 0),(Value.slice none 0 0)])] :: S) w ∧ Env 87 a [(0,vp b1),(1,vp b2),(2,vi v26),(3,c46),(4,vi s.2)] ∧ ORow 3 1 (pI .i64) m28 c46 s.1 M47 ∧ InR .i64 s.2) (fun (b:((List (Int)))) e a w=>e = (.exit 2) ∧ ∃ c296 M297,Ok u m28 (M297 :: M35 :: M32 :: [(b2,oc 34 [vi v27.Start,c31,c34])] :: [(b1,oc 34 [vi 0,(Value.slice none 0 0),(Value.slice none 0 0)])] :: S) w ∧ Env 87 a [(0,vp b1),(1,vp b2),(2,vi v26),(3,c296)] ∧ ORow 3 1 (pI .i64) m28 c296 b M297) ?_ ?_ N _ a w hL ⟨(Value.slice none 0 0),M43,ok,E.keep [0,1,2,3,4],h44,(ir 0)⟩
 rotate_left
 ·as_aux_lemma =>
   intro e a w _ hO
   obtain ⟨rfl,c198,M199,ok,E,h200⟩:=hO
   refine qaM<|qaa<|bd hF fun o201 hJ hF=>qaG (Q':=fun e a w=>e = .normal ∧ ∃ m202 c204 M205 c207 M208,m28.le m202 ∧ Ok u m202 (M208 :: M205 :: [(b2,oc 34 [vi o201.Start,c204,c207])] :: [(b1,oc 34 [vi 0,(Value.slice none 0 0),(Value.slice none 0 0)])] :: S) w ∧ Env 87 a [(0,vp b1),(1,vp b2),(2,vi v26)] ∧ InR .i64 o201.Start ∧ ORow 72 1 (pL 1 (pI .i64)) m202 c204 o201.Next M205 ∧ ORow 4 1 pB m202 c207 o201.Accept M208) ?_ ?_
   rotate_left
   ·intro e a w hO
    obtain ⟨rfl,m288,c290,M291,c293,M294,hle,ok,E,r289,h292,h295⟩:=hO
    have le_m0:=le_m0.trans hle
    refine qal<|qaa<|qac<|mv E rfl fun a E=>lw E (qbq rfl rfl) fun a E=>av E rfl fun a E=>wpList_nil ?_
    cases hF
    exact qas ⟨m288,c290,M291,c293,M294,le_m0,ok,E.keep [0,1,2],(InR.wrap _ _),r289,h292,h295⟩
   have hF:=hJ
   have le_m28:=Mem.le.refl m28
   refine bd hF fun l215 e216 hF=>qcp (decide (v26 > 0)) (fun c220=>?_) (fun c220=>?_)
   rotate_left
   ·have hF:=qcc c220 hF
    obtain ⟨l269,e270,hF⟩:=bnd hF
    obtain rfl:=sj hF
    refine qaY [1,6] (Cls u m28 ([(b2,oc 34 [vi v27.Start,c31,c34])] :: [(b1,oc 34 [vi 0,(Value.slice none 0 0),(Value.slice none 0 0)])] :: [])) (Cls u m28 ([(b1,oc 34 [vi 0,(Value.slice none 0 0),(Value.slice none 0 0)])] :: [])) (by kernel_rfl) ?_
    intro w hw
    replace ok:=qbd ok hw
    clear hw
    refine qai (cl1 (cq le_m28 ok [3,4] rfl) (cq le_m28 ok [4] rfl)) fun hT=>kt 0 E rfl hT (qae qbP rfl) fun a E=>qaS 1 E rfl (by kernel_rfl) nP hT (qaj qdf rfl (qab.cown 0 rfl rfl)) rfl rfl fun a E=>kt 2 E rfl hT (qah rfl) fun a E=>kt 5 E rfl hT (qae qc9 rfl) fun a E=>qaS 6 E rfl (by kernel_rfl) nP hT (qaj qd3 rfl (qab.cown 0 rfl rfl)) rfl rfl fun a E=>kt 7 E rfl hT (qah rfl) fun a E=>kt 8 E rfl hT (qb1 rfl rfl) fun a E=>qao [3] (by kernel_rfl) rfl (qar ?_)
    ·refine qbm (o:=_) rfl ?_
     obtain ⟨m274,hle,ok,hfz⟩:=(ok.frs 0 rfl).freeze
     have h275:=ORow.froz (mI .i64) h200 hle hfz (by decide)
     have le_m0:=le_m0.trans hle
     have le_m28:=le_m28.trans hle
     have h33:=ORow.up (mL (mI .i64)) hle h33
     have h36:=ORow.up mB hle h36
     refine qaW (R:=(pL 1 (pI .i64))) (xo:=[.tmp 62]) (xs:=([o45]:List (List (Int)))) E ok qcA qdC rfl ⟨⟨_,(qbW h275),rfl,h275⟩,trivial⟩ rfl rfl rfl rfl fun c276 M277 a w E ok h278=>wn<|qai (cl1 (cq le_m28 ok [3,4] rfl) (cq le_m28 ok [4] rfl)) fun hT=>qao [4] (by kernel_rfl) rfl (qar ?_)
     ·refine wo rfl<|qbo (R:=(pL 1 (pI .i64))) E ok 2 (mL (mI .i64)) qcA Tryz.underlying31 rfl h33 (qa0.ofRow h278 0 rfl ok) e216 ⟨_,qdC,rfl⟩ rfl rfl rfl rfl fun c279 M280 a w E ok h281=>wn<|qai (cl1 (cq le_m28 ok [3,4] rfl) (cq le_m28 ok [4] rfl)) fun hT=>kt 9 E rfl hT (qah rfl) fun a E=>?_
      have E:=E.upd 69 c220 rfl
      refine qat 10 false E rfl (by kernel_rfl) nP hT rfl rfl fun a E=>qat 11 false E rfl (by kernel_rfl) nP hT rfl rfl fun a E=>kt 12 E rfl hT (qa1 rfl rfl) fun a E=>kt 13 E rfl hT (qah rfl) fun a E=>qat 14 false E rfl (by kernel_rfl) nP hT rfl rfl fun a E=>qat 15 false E rfl (by kernel_rfl) nP hT rfl rfl fun a E=>kt 16 E rfl hT (qa1 rfl rfl) fun a E=>kt 19 E rfl hT (qae qbP rfl) fun a E=>qao [17] (by kernel_rfl) rfl (qar ?_)
      ·refine wo rfl<|qaW (R:=pB) (xo:=[.tmp 76]) (xs:=([false]:List (Bool))) E ok qce qdD rfl ⟨⟨_,rfl,rfl,qgB⟩,trivial⟩ rfl rfl rfl rfl fun c282 M283 a w E ok h284=>wn<|qai (cl1 (cq le_m28 ok [4,5] rfl) (cq le_m28 ok [5] rfl)) fun hT=>qao [18] (by kernel_rfl) rfl (qar ?_)
       ·refine wo rfl<|qbo (R:=pB) E ok 2 mB qce Tryz.underlying32 rfl h36 (qa0.ofRow h284 0 rfl ok) e270 ⟨_,qdD,rfl⟩ rfl rfl rfl rfl fun c285 M286 a w E ok h287=>wn<|qai (cl1 (cq le_m28 ok [4,5] rfl) (cq le_m28 ok [5] rfl)) fun hT=>qao [20] (by kernel_rfl) rfl (qar ?_)
        ·refine wo rfl<|qad E ok 4 rfl rfl rfl qh9 (ORow.cells h281) rfl ⟨(ORow.one h281),trivial⟩ rfl rfl fun w ok=>wn<|qai (cl2 (by kernel_rfl) (cq le_m28 ok [5] rfl)) fun hT=>kt 21 E rfl hT (qae qc9 rfl) fun a E=>qao [22] (by kernel_rfl) rfl (qar ?_)
         ·refine wo rfl<|qad E ok 4 rfl rfl rfl qhd (ORow.cells h287) rfl ⟨(ORow.one h287),trivial⟩ rfl rfl fun w ok=>wn<|qai (cl2 (by kernel_rfl) (cq le_m28 ok [5] rfl)) fun hT=>qaV (by kernel_rfl) ?_
          exact ⟨rfl,⟨m274,c279,M280,c285,M286,le_m28,(ok.pk 6 [2,3,4,5] rfl (by decide)),E.keep [0,1,2],r30,h281,h287⟩⟩
   have hF:=qcg c220 hF
   refine qcp (decide (v26 < 24)) (fun c221=>?_) (fun c221=>?_)
   ·have hF:=qcg c221 hF
    obtain ⟨l225,e226,hF⟩:=bnd hF
    obtain rfl:=sj hF
    refine qaY [1,6] (Cls u m28 ([(b2,oc 34 [vi v27.Start,c31,c34])] :: [(b1,oc 34 [vi 0,(Value.slice none 0 0),(Value.slice none 0 0)])] :: [])) (Cls u m28 ([(b1,oc 34 [vi 0,(Value.slice none 0 0),(Value.slice none 0 0)])] :: [])) (by kernel_rfl) ?_
    intro w hw
    replace ok:=qbd ok hw
    clear hw
    refine qai (cl1 (cq le_m28 ok [3,4] rfl) (cq le_m28 ok [4] rfl)) fun hT=>kt 0 E rfl hT (qae qbP rfl) fun a E=>qaS 1 E rfl (by kernel_rfl) nP hT (qaj qdf rfl (qab.cown 0 rfl rfl)) rfl rfl fun a E=>kt 2 E rfl hT (qah rfl) fun a E=>kt 5 E rfl hT (qae qc9 rfl) fun a E=>qaS 6 E rfl (by kernel_rfl) nP hT (qaj qd3 rfl (qab.cown 0 rfl rfl)) rfl rfl fun a E=>kt 7 E rfl hT (qah rfl) fun a E=>kt 8 E rfl hT (qb1 rfl rfl) fun a E=>qao [3] (by kernel_rfl) rfl (qar ?_)
    ·refine qbm (o:=_) rfl ?_
     obtain ⟨m230,hle,ok,hfz⟩:=(ok.frs 0 rfl).freeze
     have h231:=ORow.froz (mI .i64) h200 hle hfz (by decide)
     have le_m0:=le_m0.trans hle
     have le_m28:=le_m28.trans hle
     have h33:=ORow.up (mL (mI .i64)) hle h33
     have h36:=ORow.up mB hle h36
     refine qaW (R:=(pL 1 (pI .i64))) (xo:=[.tmp 62]) (xs:=([o45]:List (List (Int)))) E ok qcA qdC rfl ⟨⟨_,(qbW h231),rfl,h231⟩,trivial⟩ rfl rfl rfl rfl fun c232 M233 a w E ok h234=>wn<|qai (cl1 (cq le_m28 ok [3,4] rfl) (cq le_m28 ok [4] rfl)) fun hT=>qao [4] (by kernel_rfl) rfl (qar ?_)
     ·refine wo rfl<|qbo (R:=(pL 1 (pI .i64))) E ok 2 (mL (mI .i64)) qcA Tryz.underlying31 rfl h33 (qa0.ofRow h234 0 rfl ok) e216 ⟨_,qdC,rfl⟩ rfl rfl rfl rfl fun c235 M236 a w E ok h237=>wn<|qai (cl1 (cq le_m28 ok [3,4] rfl) (cq le_m28 ok [4] rfl)) fun hT=>kt 9 E rfl hT (qah rfl) fun a E=>?_
      have E:=E.upd 69 c220 rfl
      refine kt 10 E rfl hT (qah rfl) fun a E=>kt 11 E rfl hT (qav rfl rfl) fun a E=>kt 12 E rfl hT (qa8 rfl rfl) fun a E=>kt 13 E rfl hT (qah rfl) fun a E=>?_
      have E:=E.upd 73 c221 rfl
      refine kt 14 E rfl hT (qah rfl) fun a E=>kt 15 E rfl hT (qb7 rfl rfl) fun a E=>kt 16 E rfl hT (qa8 rfl rfl) fun a E=>kt 19 E rfl hT (qae qbP rfl) fun a E=>qao [17] (by kernel_rfl) rfl (qar ?_)
      ·refine wo rfl<|qaW (R:=pB) (xo:=[.tmp 76]) (xs:=([(v26 != 17)]:List (Bool))) E ok qce qdD rfl ⟨⟨_,rfl,rfl,qgB⟩,trivial⟩ rfl rfl rfl rfl fun c238 M239 a w E ok h240=>wn<|qai (cl1 (cq le_m28 ok [4,5] rfl) (cq le_m28 ok [5] rfl)) fun hT=>qao [18] (by kernel_rfl) rfl (qar ?_)
       ·refine wo rfl<|qbo (R:=pB) E ok 2 mB qce Tryz.underlying32 rfl h36 (qa0.ofRow h240 0 rfl ok) e226 ⟨_,qdD,rfl⟩ rfl rfl rfl rfl fun c241 M242 a w E ok h243=>wn<|qai (cl1 (cq le_m28 ok [4,5] rfl) (cq le_m28 ok [5] rfl)) fun hT=>qao [20] (by kernel_rfl) rfl (qar ?_)
        ·refine wo rfl<|qad E ok 4 rfl rfl rfl qh9 (ORow.cells h237) rfl ⟨(ORow.one h237),trivial⟩ rfl rfl fun w ok=>wn<|qai (cl2 (by kernel_rfl) (cq le_m28 ok [5] rfl)) fun hT=>kt 21 E rfl hT (qae qc9 rfl) fun a E=>qao [22] (by kernel_rfl) rfl (qar ?_)
         ·refine wo rfl<|qad E ok 4 rfl rfl rfl qhd (ORow.cells h243) rfl ⟨(ORow.one h243),trivial⟩ rfl rfl fun w ok=>wn<|qai (cl2 (by kernel_rfl) (cq le_m28 ok [5] rfl)) fun hT=>qaV (by kernel_rfl) ?_
          exact ⟨rfl,⟨m230,c235,M236,c241,M242,le_m28,(ok.pk 6 [2,3,4,5] rfl (by decide)),E.keep [0,1,2],r30,h237,h243⟩⟩
   have hF:=qcc c221 hF
   obtain ⟨l247,e248,hF⟩:=bnd hF
   obtain rfl:=sj hF
   refine qaY [1,6] (Cls u m28 ([(b2,oc 34 [vi v27.Start,c31,c34])] :: [(b1,oc 34 [vi 0,(Value.slice none 0 0),(Value.slice none 0 0)])] :: [])) (Cls u m28 ([(b1,oc 34 [vi 0,(Value.slice none 0 0),(Value.slice none 0 0)])] :: [])) (by kernel_rfl) ?_
   intro w hw
   replace ok:=qbd ok hw
   clear hw
   refine qai (cl1 (cq le_m28 ok [3,4] rfl) (cq le_m28 ok [4] rfl)) fun hT=>kt 0 E rfl hT (qae qbP rfl) fun a E=>qaS 1 E rfl (by kernel_rfl) nP hT (qaj qdf rfl (qab.cown 0 rfl rfl)) rfl rfl fun a E=>kt 2 E rfl hT (qah rfl) fun a E=>kt 5 E rfl hT (qae qc9 rfl) fun a E=>qaS 6 E rfl (by kernel_rfl) nP hT (qaj qd3 rfl (qab.cown 0 rfl rfl)) rfl rfl fun a E=>kt 7 E rfl hT (qah rfl) fun a E=>kt 8 E rfl hT (qb1 rfl rfl) fun a E=>qao [3] (by kernel_rfl) rfl (qar ?_)
   ·refine qbm (o:=_) rfl ?_
    obtain ⟨m252,hle,ok,hfz⟩:=(ok.frs 0 rfl).freeze
    have h253:=ORow.froz (mI .i64) h200 hle hfz (by decide)
    have le_m0:=le_m0.trans hle
    have le_m28:=le_m28.trans hle
    have h33:=ORow.up (mL (mI .i64)) hle h33
    have h36:=ORow.up mB hle h36
    refine qaW (R:=(pL 1 (pI .i64))) (xo:=[.tmp 62]) (xs:=([o45]:List (List (Int)))) E ok qcA qdC rfl ⟨⟨_,(qbW h253),rfl,h253⟩,trivial⟩ rfl rfl rfl rfl fun c254 M255 a w E ok h256=>wn<|qai (cl1 (cq le_m28 ok [3,4] rfl) (cq le_m28 ok [4] rfl)) fun hT=>qao [4] (by kernel_rfl) rfl (qar ?_)
    ·refine wo rfl<|qbo (R:=(pL 1 (pI .i64))) E ok 2 (mL (mI .i64)) qcA Tryz.underlying31 rfl h33 (qa0.ofRow h256 0 rfl ok) e216 ⟨_,qdC,rfl⟩ rfl rfl rfl rfl fun c257 M258 a w E ok h259=>wn<|qai (cl1 (cq le_m28 ok [3,4] rfl) (cq le_m28 ok [4] rfl)) fun hT=>kt 9 E rfl hT (qah rfl) fun a E=>?_
     have E:=E.upd 69 c220 rfl
     refine kt 10 E rfl hT (qah rfl) fun a E=>kt 11 E rfl hT (qav rfl rfl) fun a E=>kt 12 E rfl hT (qa8 rfl rfl) fun a E=>kt 13 E rfl hT (qah rfl) fun a E=>?_
     have E:=E.upd 73 c221 rfl
     refine qat 14 false E rfl (by kernel_rfl) nP hT rfl rfl fun a E=>qat 15 false E rfl (by kernel_rfl) nP hT rfl rfl fun a E=>kt 16 E rfl hT (qa1 rfl rfl) fun a E=>kt 19 E rfl hT (qae qbP rfl) fun a E=>qao [17] (by kernel_rfl) rfl (qar ?_)
     ·refine wo rfl<|qaW (R:=pB) (xo:=[.tmp 76]) (xs:=([false]:List (Bool))) E ok qce qdD rfl ⟨⟨_,rfl,rfl,qgB⟩,trivial⟩ rfl rfl rfl rfl fun c260 M261 a w E ok h262=>wn<|qai (cl1 (cq le_m28 ok [4,5] rfl) (cq le_m28 ok [5] rfl)) fun hT=>qao [18] (by kernel_rfl) rfl (qar ?_)
      ·refine wo rfl<|qbo (R:=pB) E ok 2 mB qce Tryz.underlying32 rfl h36 (qa0.ofRow h262 0 rfl ok) e248 ⟨_,qdD,rfl⟩ rfl rfl rfl rfl fun c263 M264 a w E ok h265=>wn<|qai (cl1 (cq le_m28 ok [4,5] rfl) (cq le_m28 ok [5] rfl)) fun hT=>qao [20] (by kernel_rfl) rfl (qar ?_)
       ·refine wo rfl<|qad E ok 4 rfl rfl rfl qh9 (ORow.cells h259) rfl ⟨(ORow.one h259),trivial⟩ rfl rfl fun w ok=>wn<|qai (cl2 (by kernel_rfl) (cq le_m28 ok [5] rfl)) fun hT=>kt 21 E rfl hT (qae qc9 rfl) fun a E=>qao [22] (by kernel_rfl) rfl (qar ?_)
        ·refine wo rfl<|qad E ok 4 rfl rfl rfl qhd (ORow.cells h265) rfl ⟨(ORow.one h265),trivial⟩ rfl rfl fun w ok=>wn<|qai (cl2 (by kernel_rfl) (cq le_m28 ok [5] rfl)) fun hT=>qaV (by kernel_rfl) ?_
         exact ⟨rfl,⟨m252,c257,M258,c263,M264,le_m28,(ok.pk 6 [2,3,4,5] rfl (by decide)),E.keep [0,1,2],r30,h259,h265⟩⟩
 rintro ⟨v50,v51⟩ a w r ⟨c52,M53,ok,E,h54,r55⟩ hF
 replace hF:qfL N v26 v50 v51 = some r:=hF
 unfold qfL at hF
 refine wp_seq<|sg<|mv E rfl fun a E=>lw E (qav rfl rfl) fun a E=>wn<|cg E rfl hF (fun c56 hF=>?_) fun c56 hF=>?_
 ·refine wp_exit<|qaA ?_
  cases hF
  exact so (⟨rfl,⟨c52,M53,ok,E.keep [0,1,2,3],h54⟩⟩)
 refine wp_skip<|qaa<|wp_seq<|wp_block<|sg<|av E rfl fun a E=>wn<|wp_seq<|wp_block<|sg<|mv E rfl fun a E=>lw E (qau rfl rfl) fun a E=>mv E rfl fun a E=>bu E 19 hF (fun c57 hF E=>?_) fun c57 hF E=>?_
 ·as_aux_lemma =>
   refine mv E rfl fun a E=>lw E (qau rfl rfl) fun a E=>pt E rfl rfl fun a E=>aw E rfl fun a E=>bd hF fun o58 hJ hF=>qaG (Q':=fun e a w=>e = .normal ∧ Ok u m28 (M53 :: M35 :: M32 :: [(b2,oc 34 [vi v27.Start,c31,c34])] :: [(b1,oc 34 [vi 0,(Value.slice none 0 0),(Value.slice none 0 0)])] :: S) w ∧ Env 87 a [(0,vp b1),(1,vp b2),(2,vi v26),(3,c52),(4,vi v51),(5,vi o58)] ∧ InR .i64 o58) ?_ ?_
   rotate_left
   ·intro e a w hO
    obtain ⟨rfl,ok,E,r87⟩:=hO
    refine qal<|qaa<|qac<|mz E rfl rfl fun a E=>qaW (R:=(pI .i64)) (xo:=[.tmp 57]) (xs:=([o58]:List (Int))) E ok qaJ qbl rfl ⟨⟨_,rfl,rfl,(qaX r87)⟩,trivial⟩ rfl rfl rfl rfl fun c88 M89 a w E ok h90=>bd hF fun l91 e92 hF=>qbo (R:=(pI .i64)) E ok 1 (mI .i64) qaJ Tryz.underlying72 rfl h54 (qa0.ofRow h90 0 rfl ok) e92 ⟨_,qbl,rfl⟩ rfl rfl rfl rfl fun c93 M94 a w E ok h95=>av E rfl fun a E=>wpList_nil<|qal<|qaa<|qac<|mv E rfl fun a E=>lw E (qaw rfl rfl (InR.inc r55 (ir 11) c56)) fun a E=>av E rfl fun a E=>wpList_nil ?_
    cases hF
    exact qas ⟨c93,M94,(ok.pk 6 [1,2,3,4,5] rfl (by decide)),E.keep [0,1,2,3,4],h95,(InR.inc r55 (ir 11) c56)⟩
   have hF:=hJ
   refine cf E rfl hF (fun c60 hF=>?_) fun c60 hF=>?_
   ·refine qac<|av E rfl fun a E=>wpList_nil ?_
    cases hF
    exact ⟨rfl,⟨ok,E.keep [0,1,2,3,4,5],(ir 16)⟩⟩
   refine sg<|mv E rfl fun a E=>lw E (qav rfl rfl) fun a E=>mv E rfl fun a E=>bw E 26 hF (fun c61 hF E=>?_) fun c61 hF E=>?_
   ·as_aux_lemma =>
     refine lsq E fun a E=>pf E rfl rfl fun a E=>aw E rfl fun a E=>c_if E rfl (fun h=>by cases h) (fun _=>?_)
     refine sg<|mv E rfl fun a E=>lw E (qb1 rfl rfl) fun a E=>mv E rfl fun a E=>bw E 35 hF (fun c75 hF E=>?_) fun c75 hF E=>?_
     ·refine lsq E fun a E=>pf E rfl rfl fun a E=>mv E rfl fun a E=>lsq E fun a E=>pf E rfl rfl fun a E=>av E rfl fun a E=>wn<|c_if E rfl (fun h=>by cases h) (fun _=>?_)
      refine sg<|mv E rfl fun a E=>lw E (qev rfl rfl) fun a E=>mv E rfl fun a E=>bw E 46 hF (fun c84 hF E=>?_) fun c84 hF E=>?_
      ·refine lsq E fun a E=>pf E rfl rfl fun a E=>mv E rfl fun a E=>lsq E fun a E=>pf E rfl rfl fun a E=>av E rfl fun a E=>wn<|c_if E rfl (fun h=>by cases h) (fun _=>?_)
       refine wp_skip ?_
       cases hF
       exact ⟨rfl,⟨ok,E.keep [0,1,2,3,4,5],(ir 24)⟩⟩
      refine mv E rfl fun a E=>lw E (qav rfl rfl) fun a E=>pt E rfl rfl fun a E=>mv E rfl fun a E=>bw E 50 hF (fun c85 hF E=>?_) fun c85 hF E=>?_
      ·refine lsq E fun a E=>pf E rfl rfl fun a E=>aw E rfl fun a E=>c_if E rfl (fun h=>by cases h) (fun _=>?_)
       refine wp_skip ?_
       cases hF
       exact ⟨rfl,⟨ok,E.keep [0,1,2,3,4,5],(ir 24)⟩⟩
      refine mv E rfl fun a E=>lw E (qav rfl rfl) fun a E=>pt E rfl rfl fun a E=>aw E rfl fun a E=>cg E rfl hF (fun c86 hF=>?_) fun c86 hF=>?_
      ·refine wp_skip ?_
       cases hF
       exact ⟨rfl,⟨ok,E.keep [0,1,2,3,4,5],(ir 24)⟩⟩
      refine qac<|mv E rfl fun a E=>lw E (qaw rfl rfl (InR.inc r29 (ir 23) c85)) fun a E=>av E rfl fun a E=>wpList_nil ?_
      cases hF
      exact ⟨rfl,⟨ok,E.keep [0,1,2,3,4,5],(InR.inc r29 (ir 23) c85)⟩⟩
     refine mv E rfl fun a E=>lw E (qeC rfl rfl) fun a E=>pt E rfl rfl fun a E=>mv E rfl fun a E=>bw E 39 hF (fun c76 hF E=>?_) fun c76 hF E=>?_
     ·refine lsq E fun a E=>pf E rfl rfl fun a E=>aw E rfl fun a E=>c_if E rfl (fun h=>by cases h) (fun _=>?_)
      refine sg<|mv E rfl fun a E=>lw E (qev rfl rfl) fun a E=>mv E rfl fun a E=>bw E 46 hF (fun c81 hF E=>?_) fun c81 hF E=>?_
      ·refine lsq E fun a E=>pf E rfl rfl fun a E=>mv E rfl fun a E=>lsq E fun a E=>pf E rfl rfl fun a E=>av E rfl fun a E=>wn<|c_if E rfl (fun h=>by cases h) (fun _=>?_)
       refine wp_skip ?_
       cases hF
       exact ⟨rfl,⟨ok,E.keep [0,1,2,3,4,5],(ir 24)⟩⟩
      refine mv E rfl fun a E=>lw E (qav rfl rfl) fun a E=>pt E rfl rfl fun a E=>mv E rfl fun a E=>bw E 50 hF (fun c82 hF E=>?_) fun c82 hF E=>?_
      ·refine lsq E fun a E=>pf E rfl rfl fun a E=>aw E rfl fun a E=>c_if E rfl (fun h=>by cases h) (fun _=>?_)
       refine wp_skip ?_
       cases hF
       exact ⟨rfl,⟨ok,E.keep [0,1,2,3,4,5],(ir 24)⟩⟩
      refine mv E rfl fun a E=>lw E (qav rfl rfl) fun a E=>pt E rfl rfl fun a E=>aw E rfl fun a E=>cg E rfl hF (fun c83 hF=>?_) fun c83 hF=>?_
      ·refine wp_skip ?_
       cases hF
       exact ⟨rfl,⟨ok,E.keep [0,1,2,3,4,5],(ir 24)⟩⟩
      refine qac<|mv E rfl fun a E=>lw E (qaw rfl rfl (InR.inc r29 (ir 23) c82)) fun a E=>av E rfl fun a E=>wpList_nil ?_
      cases hF
      exact ⟨rfl,⟨ok,E.keep [0,1,2,3,4,5],(InR.inc r29 (ir 23) c82)⟩⟩
     refine mv E rfl fun a E=>lw E (qau rfl rfl) fun a E=>pt E rfl rfl fun a E=>aw E rfl fun a E=>cf E rfl hF (fun c77 hF=>?_) fun c77 hF=>?_
     ·refine qac<|av E rfl fun a E=>wpList_nil ?_
      cases hF
      exact ⟨rfl,⟨ok,E.keep [0,1,2,3,4,5],(ir 17)⟩⟩
     refine sg<|mv E rfl fun a E=>lw E (qev rfl rfl) fun a E=>mv E rfl fun a E=>bw E 46 hF (fun c78 hF E=>?_) fun c78 hF E=>?_
     ·refine lsq E fun a E=>pf E rfl rfl fun a E=>mv E rfl fun a E=>lsq E fun a E=>pf E rfl rfl fun a E=>av E rfl fun a E=>wn<|c_if E rfl (fun h=>by cases h) (fun _=>?_)
      refine wp_skip ?_
      cases hF
      exact ⟨rfl,⟨ok,E.keep [0,1,2,3,4,5],(ir 24)⟩⟩
     refine mv E rfl fun a E=>lw E (qav rfl rfl) fun a E=>pt E rfl rfl fun a E=>mv E rfl fun a E=>bw E 50 hF (fun c79 hF E=>?_) fun c79 hF E=>?_
     ·refine lsq E fun a E=>pf E rfl rfl fun a E=>aw E rfl fun a E=>c_if E rfl (fun h=>by cases h) (fun _=>?_)
      refine wp_skip ?_
      cases hF
      exact ⟨rfl,⟨ok,E.keep [0,1,2,3,4,5],(ir 24)⟩⟩
     refine mv E rfl fun a E=>lw E (qav rfl rfl) fun a E=>pt E rfl rfl fun a E=>aw E rfl fun a E=>cg E rfl hF (fun c80 hF=>?_) fun c80 hF=>?_
     ·refine wp_skip ?_
      cases hF
      exact ⟨rfl,⟨ok,E.keep [0,1,2,3,4,5],(ir 24)⟩⟩
     refine qac<|mv E rfl fun a E=>lw E (qaw rfl rfl (InR.inc r29 (ir 23) c79)) fun a E=>av E rfl fun a E=>wpList_nil ?_
     cases hF
     exact ⟨rfl,⟨ok,E.keep [0,1,2,3,4,5],(InR.inc r29 (ir 23) c79)⟩⟩
   refine mv E rfl fun a E=>lw E (qav rfl rfl) fun a E=>pt E rfl rfl fun a E=>aw E rfl fun a E=>cf E rfl hF (fun c62 hF=>?_) fun c62 hF=>?_
   ·refine qac<|mv E rfl fun a E=>lw E (qaw rfl rfl (InR.inc r29 (ir 15) c61)) fun a E=>av E rfl fun a E=>wpList_nil ?_
    cases hF
    exact ⟨rfl,⟨ok,E.keep [0,1,2,3,4,5],(InR.inc r29 (ir 15) c61)⟩⟩
   refine sg<|mv E rfl fun a E=>lw E (qb1 rfl rfl) fun a E=>mv E rfl fun a E=>bw E 35 hF (fun c63 hF E=>?_) fun c63 hF E=>?_
   ·refine lsq E fun a E=>pf E rfl rfl fun a E=>mv E rfl fun a E=>lsq E fun a E=>pf E rfl rfl fun a E=>av E rfl fun a E=>wn<|c_if E rfl (fun h=>by cases h) (fun _=>?_)
    refine sg<|mv E rfl fun a E=>lw E (qev rfl rfl) fun a E=>mv E rfl fun a E=>bw E 46 hF (fun c72 hF E=>?_) fun c72 hF E=>?_
    ·refine lsq E fun a E=>pf E rfl rfl fun a E=>mv E rfl fun a E=>lsq E fun a E=>pf E rfl rfl fun a E=>av E rfl fun a E=>wn<|c_if E rfl (fun h=>by cases h) (fun _=>?_)
     refine wp_skip ?_
     cases hF
     exact ⟨rfl,⟨ok,E.keep [0,1,2,3,4,5],(ir 24)⟩⟩
    refine mv E rfl fun a E=>lw E (qav rfl rfl) fun a E=>pt E rfl rfl fun a E=>mv E rfl fun a E=>bw E 50 hF (fun c73 hF E=>?_) fun c73 hF E=>?_
    ·refine lsq E fun a E=>pf E rfl rfl fun a E=>aw E rfl fun a E=>c_if E rfl (fun h=>by cases h) (fun _=>?_)
     refine wp_skip ?_
     cases hF
     exact ⟨rfl,⟨ok,E.keep [0,1,2,3,4,5],(ir 24)⟩⟩
    refine mv E rfl fun a E=>lw E (qav rfl rfl) fun a E=>pt E rfl rfl fun a E=>aw E rfl fun a E=>cg E rfl hF (fun c74 hF=>?_) fun c74 hF=>?_
    ·refine wp_skip ?_
     cases hF
     exact ⟨rfl,⟨ok,E.keep [0,1,2,3,4,5],(ir 24)⟩⟩
    refine qac<|mv E rfl fun a E=>lw E (qaw rfl rfl (InR.inc r29 (ir 23) c73)) fun a E=>av E rfl fun a E=>wpList_nil ?_
    cases hF
    exact ⟨rfl,⟨ok,E.keep [0,1,2,3,4,5],(InR.inc r29 (ir 23) c73)⟩⟩
   refine mv E rfl fun a E=>lw E (qeC rfl rfl) fun a E=>pt E rfl rfl fun a E=>mv E rfl fun a E=>bw E 39 hF (fun c64 hF E=>?_) fun c64 hF E=>?_
   ·refine lsq E fun a E=>pf E rfl rfl fun a E=>aw E rfl fun a E=>c_if E rfl (fun h=>by cases h) (fun _=>?_)
    refine sg<|mv E rfl fun a E=>lw E (qev rfl rfl) fun a E=>mv E rfl fun a E=>bw E 46 hF (fun c69 hF E=>?_) fun c69 hF E=>?_
    ·refine lsq E fun a E=>pf E rfl rfl fun a E=>mv E rfl fun a E=>lsq E fun a E=>pf E rfl rfl fun a E=>av E rfl fun a E=>wn<|c_if E rfl (fun h=>by cases h) (fun _=>?_)
     refine wp_skip ?_
     cases hF
     exact ⟨rfl,⟨ok,E.keep [0,1,2,3,4,5],(ir 24)⟩⟩
    refine mv E rfl fun a E=>lw E (qav rfl rfl) fun a E=>pt E rfl rfl fun a E=>mv E rfl fun a E=>bw E 50 hF (fun c70 hF E=>?_) fun c70 hF E=>?_
    ·refine lsq E fun a E=>pf E rfl rfl fun a E=>aw E rfl fun a E=>c_if E rfl (fun h=>by cases h) (fun _=>?_)
     refine wp_skip ?_
     cases hF
     exact ⟨rfl,⟨ok,E.keep [0,1,2,3,4,5],(ir 24)⟩⟩
    refine mv E rfl fun a E=>lw E (qav rfl rfl) fun a E=>pt E rfl rfl fun a E=>aw E rfl fun a E=>cg E rfl hF (fun c71 hF=>?_) fun c71 hF=>?_
    ·refine wp_skip ?_
     cases hF
     exact ⟨rfl,⟨ok,E.keep [0,1,2,3,4,5],(ir 24)⟩⟩
    refine qac<|mv E rfl fun a E=>lw E (qaw rfl rfl (InR.inc r29 (ir 23) c70)) fun a E=>av E rfl fun a E=>wpList_nil ?_
    cases hF
    exact ⟨rfl,⟨ok,E.keep [0,1,2,3,4,5],(InR.inc r29 (ir 23) c70)⟩⟩
   refine mv E rfl fun a E=>lw E (qau rfl rfl) fun a E=>pt E rfl rfl fun a E=>aw E rfl fun a E=>cf E rfl hF (fun c65 hF=>?_) fun c65 hF=>?_
   ·refine qac<|av E rfl fun a E=>wpList_nil ?_
    cases hF
    exact ⟨rfl,⟨ok,E.keep [0,1,2,3,4,5],(ir 17)⟩⟩
   refine sg<|mv E rfl fun a E=>lw E (qev rfl rfl) fun a E=>mv E rfl fun a E=>bw E 46 hF (fun c66 hF E=>?_) fun c66 hF E=>?_
   ·refine lsq E fun a E=>pf E rfl rfl fun a E=>mv E rfl fun a E=>lsq E fun a E=>pf E rfl rfl fun a E=>av E rfl fun a E=>wn<|c_if E rfl (fun h=>by cases h) (fun _=>?_)
    refine wp_skip ?_
    cases hF
    exact ⟨rfl,⟨ok,E.keep [0,1,2,3,4,5],(ir 24)⟩⟩
   refine mv E rfl fun a E=>lw E (qav rfl rfl) fun a E=>pt E rfl rfl fun a E=>mv E rfl fun a E=>bw E 50 hF (fun c67 hF E=>?_) fun c67 hF E=>?_
   ·refine lsq E fun a E=>pf E rfl rfl fun a E=>aw E rfl fun a E=>c_if E rfl (fun h=>by cases h) (fun _=>?_)
    refine wp_skip ?_
    cases hF
    exact ⟨rfl,⟨ok,E.keep [0,1,2,3,4,5],(ir 24)⟩⟩
   refine mv E rfl fun a E=>lw E (qav rfl rfl) fun a E=>pt E rfl rfl fun a E=>aw E rfl fun a E=>cg E rfl hF (fun c68 hF=>?_) fun c68 hF=>?_
   ·refine wp_skip ?_
    cases hF
    exact ⟨rfl,⟨ok,E.keep [0,1,2,3,4,5],(ir 24)⟩⟩
   refine qac<|mv E rfl fun a E=>lw E (qaw rfl rfl (InR.inc r29 (ir 23) c67)) fun a E=>av E rfl fun a E=>wpList_nil ?_
   cases hF
   exact ⟨rfl,⟨ok,E.keep [0,1,2,3,4,5],(InR.inc r29 (ir 23) c67)⟩⟩
 refine lsq E fun a E=>pf E rfl rfl fun a E=>aw E rfl fun a E=>c_if E rfl (fun h=>by cases h) (fun _=>?_)
 refine sg<|mv E rfl fun a E=>lw E (qav rfl rfl) fun a E=>mv E rfl fun a E=>bu E 26 hF (fun c96 hF E=>?_) fun c96 hF E=>?_
 ·as_aux_lemma =>
   refine mv E rfl fun a E=>lw E (qav rfl rfl) fun a E=>pt E rfl rfl fun a E=>aw E rfl fun a E=>bd hF fun o97 hJ hF=>qaG (Q':=fun e a w=>e = .normal ∧ Ok u m28 (M53 :: M35 :: M32 :: [(b2,oc 34 [vi v27.Start,c31,c34])] :: [(b1,oc 34 [vi 0,(Value.slice none 0 0),(Value.slice none 0 0)])] :: S) w ∧ Env 87 a [(0,vp b1),(1,vp b2),(2,vi v26),(3,c52),(4,vi v51),(5,vi o97)] ∧ InR .i64 o97) ?_ ?_
   rotate_left
   ·intro e a w hO
    obtain ⟨rfl,ok,E,r112⟩:=hO
    refine qal<|qaa<|qac<|mz E rfl rfl fun a E=>qaW (R:=(pI .i64)) (xo:=[.tmp 57]) (xs:=([o97]:List (Int))) E ok qaJ qbl rfl ⟨⟨_,rfl,rfl,(qaX r112)⟩,trivial⟩ rfl rfl rfl rfl fun c113 M114 a w E ok h115=>bd hF fun l116 e117 hF=>qbo (R:=(pI .i64)) E ok 1 (mI .i64) qaJ Tryz.underlying72 rfl h54 (qa0.ofRow h115 0 rfl ok) e117 ⟨_,qbl,rfl⟩ rfl rfl rfl rfl fun c118 M119 a w E ok h120=>av E rfl fun a E=>wpList_nil<|qal<|qaa<|qac<|mv E rfl fun a E=>lw E (qaw rfl rfl (InR.inc r55 (ir 11) c56)) fun a E=>av E rfl fun a E=>wpList_nil ?_
    cases hF
    exact qas ⟨c118,M119,(ok.pk 6 [1,2,3,4,5] rfl (by decide)),E.keep [0,1,2,3,4],h120,(InR.inc r55 (ir 11) c56)⟩
   have hF:=hJ
   refine cf E rfl hF (fun c99 hF=>?_) fun c99 hF=>?_
   ·refine qac<|mv E rfl fun a E=>lw E (qaw rfl rfl (InR.inc r29 (ir 15) c96)) fun a E=>av E rfl fun a E=>wpList_nil ?_
    cases hF
    exact ⟨rfl,⟨ok,E.keep [0,1,2,3,4,5],(InR.inc r29 (ir 15) c96)⟩⟩
   refine sg<|mv E rfl fun a E=>lw E (qb1 rfl rfl) fun a E=>mv E rfl fun a E=>bw E 35 hF (fun c100 hF E=>?_) fun c100 hF E=>?_
   ·refine lsq E fun a E=>pf E rfl rfl fun a E=>mv E rfl fun a E=>lsq E fun a E=>pf E rfl rfl fun a E=>av E rfl fun a E=>wn<|c_if E rfl (fun h=>by cases h) (fun _=>?_)
    refine sg<|mv E rfl fun a E=>lw E (qev rfl rfl) fun a E=>mv E rfl fun a E=>bw E 46 hF (fun c109 hF E=>?_) fun c109 hF E=>?_
    ·refine lsq E fun a E=>pf E rfl rfl fun a E=>mv E rfl fun a E=>lsq E fun a E=>pf E rfl rfl fun a E=>av E rfl fun a E=>wn<|c_if E rfl (fun h=>by cases h) (fun _=>?_)
     refine wp_skip ?_
     cases hF
     exact ⟨rfl,⟨ok,E.keep [0,1,2,3,4,5],(ir 24)⟩⟩
    refine mv E rfl fun a E=>lw E (qav rfl rfl) fun a E=>pt E rfl rfl fun a E=>mv E rfl fun a E=>bw E 50 hF (fun c110 hF E=>?_) fun c110 hF E=>?_
    ·refine lsq E fun a E=>pf E rfl rfl fun a E=>aw E rfl fun a E=>c_if E rfl (fun h=>by cases h) (fun _=>?_)
     refine wp_skip ?_
     cases hF
     exact ⟨rfl,⟨ok,E.keep [0,1,2,3,4,5],(ir 24)⟩⟩
    refine mv E rfl fun a E=>lw E (qav rfl rfl) fun a E=>pt E rfl rfl fun a E=>aw E rfl fun a E=>cg E rfl hF (fun c111 hF=>?_) fun c111 hF=>?_
    ·refine wp_skip ?_
     cases hF
     exact ⟨rfl,⟨ok,E.keep [0,1,2,3,4,5],(ir 24)⟩⟩
    refine qac<|mv E rfl fun a E=>lw E (qaw rfl rfl (InR.inc r29 (ir 23) c110)) fun a E=>av E rfl fun a E=>wpList_nil ?_
    cases hF
    exact ⟨rfl,⟨ok,E.keep [0,1,2,3,4,5],(InR.inc r29 (ir 23) c110)⟩⟩
   refine mv E rfl fun a E=>lw E (qeC rfl rfl) fun a E=>pt E rfl rfl fun a E=>mv E rfl fun a E=>bw E 39 hF (fun c101 hF E=>?_) fun c101 hF E=>?_
   ·refine lsq E fun a E=>pf E rfl rfl fun a E=>aw E rfl fun a E=>c_if E rfl (fun h=>by cases h) (fun _=>?_)
    refine sg<|mv E rfl fun a E=>lw E (qev rfl rfl) fun a E=>mv E rfl fun a E=>bw E 46 hF (fun c106 hF E=>?_) fun c106 hF E=>?_
    ·refine lsq E fun a E=>pf E rfl rfl fun a E=>mv E rfl fun a E=>lsq E fun a E=>pf E rfl rfl fun a E=>av E rfl fun a E=>wn<|c_if E rfl (fun h=>by cases h) (fun _=>?_)
     refine wp_skip ?_
     cases hF
     exact ⟨rfl,⟨ok,E.keep [0,1,2,3,4,5],(ir 24)⟩⟩
    refine mv E rfl fun a E=>lw E (qav rfl rfl) fun a E=>pt E rfl rfl fun a E=>mv E rfl fun a E=>bw E 50 hF (fun c107 hF E=>?_) fun c107 hF E=>?_
    ·refine lsq E fun a E=>pf E rfl rfl fun a E=>aw E rfl fun a E=>c_if E rfl (fun h=>by cases h) (fun _=>?_)
     refine wp_skip ?_
     cases hF
     exact ⟨rfl,⟨ok,E.keep [0,1,2,3,4,5],(ir 24)⟩⟩
    refine mv E rfl fun a E=>lw E (qav rfl rfl) fun a E=>pt E rfl rfl fun a E=>aw E rfl fun a E=>cg E rfl hF (fun c108 hF=>?_) fun c108 hF=>?_
    ·refine wp_skip ?_
     cases hF
     exact ⟨rfl,⟨ok,E.keep [0,1,2,3,4,5],(ir 24)⟩⟩
    refine qac<|mv E rfl fun a E=>lw E (qaw rfl rfl (InR.inc r29 (ir 23) c107)) fun a E=>av E rfl fun a E=>wpList_nil ?_
    cases hF
    exact ⟨rfl,⟨ok,E.keep [0,1,2,3,4,5],(InR.inc r29 (ir 23) c107)⟩⟩
   refine mv E rfl fun a E=>lw E (qau rfl rfl) fun a E=>pt E rfl rfl fun a E=>aw E rfl fun a E=>cf E rfl hF (fun c102 hF=>?_) fun c102 hF=>?_
   ·refine qac<|av E rfl fun a E=>wpList_nil ?_
    cases hF
    exact ⟨rfl,⟨ok,E.keep [0,1,2,3,4,5],(ir 17)⟩⟩
   refine sg<|mv E rfl fun a E=>lw E (qev rfl rfl) fun a E=>mv E rfl fun a E=>bw E 46 hF (fun c103 hF E=>?_) fun c103 hF E=>?_
   ·refine lsq E fun a E=>pf E rfl rfl fun a E=>mv E rfl fun a E=>lsq E fun a E=>pf E rfl rfl fun a E=>av E rfl fun a E=>wn<|c_if E rfl (fun h=>by cases h) (fun _=>?_)
    refine wp_skip ?_
    cases hF
    exact ⟨rfl,⟨ok,E.keep [0,1,2,3,4,5],(ir 24)⟩⟩
   refine mv E rfl fun a E=>lw E (qav rfl rfl) fun a E=>pt E rfl rfl fun a E=>mv E rfl fun a E=>bw E 50 hF (fun c104 hF E=>?_) fun c104 hF E=>?_
   ·refine lsq E fun a E=>pf E rfl rfl fun a E=>aw E rfl fun a E=>c_if E rfl (fun h=>by cases h) (fun _=>?_)
    refine wp_skip ?_
    cases hF
    exact ⟨rfl,⟨ok,E.keep [0,1,2,3,4,5],(ir 24)⟩⟩
   refine mv E rfl fun a E=>lw E (qav rfl rfl) fun a E=>pt E rfl rfl fun a E=>aw E rfl fun a E=>cg E rfl hF (fun c105 hF=>?_) fun c105 hF=>?_
   ·refine wp_skip ?_
    cases hF
    exact ⟨rfl,⟨ok,E.keep [0,1,2,3,4,5],(ir 24)⟩⟩
   refine qac<|mv E rfl fun a E=>lw E (qaw rfl rfl (InR.inc r29 (ir 23) c104)) fun a E=>av E rfl fun a E=>wpList_nil ?_
   cases hF
   exact ⟨rfl,⟨ok,E.keep [0,1,2,3,4,5],(InR.inc r29 (ir 23) c104)⟩⟩
 refine lsq E fun a E=>pf E rfl rfl fun a E=>aw E rfl fun a E=>c_if E rfl (fun h=>by cases h) (fun _=>?_)
 refine sg<|mv E rfl fun a E=>lw E (qb1 rfl rfl) fun a E=>mv E rfl fun a E=>bw E 35 hF (fun c121 hF E=>?_) fun c121 hF E=>?_
 ·as_aux_lemma =>
   refine lsq E fun a E=>pf E rfl rfl fun a E=>mv E rfl fun a E=>lsq E fun a E=>pf E rfl rfl fun a E=>av E rfl fun a E=>wn<|c_if E rfl (fun h=>by cases h) (fun _=>?_)
   refine sg<|mv E rfl fun a E=>lw E (qev rfl rfl) fun a E=>mv E rfl fun a E=>bw E 46 hF (fun c168 hF E=>?_) fun c168 hF E=>?_
   ·refine lsq E fun a E=>pf E rfl rfl fun a E=>mv E rfl fun a E=>lsq E fun a E=>pf E rfl rfl fun a E=>av E rfl fun a E=>wn<|c_if E rfl (fun h=>by cases h) (fun _=>?_)
    refine wp_skip<|qal<|qaa<|qac<|mz E rfl rfl fun a E=>qaW (R:=(pI .i64)) (xo:=[.tmp 57]) (xs:=([24]:List (Int))) E ok qaJ qbl rfl ⟨⟨_,rfl,rfl,(qaX (ir 24))⟩,trivial⟩ rfl rfl rfl rfl fun c190 M191 a w E ok h192=>bd hF fun l193 e194 hF=>qbo (R:=(pI .i64)) E ok 1 (mI .i64) qaJ Tryz.underlying72 rfl h54 (qa0.ofRow h192 0 rfl ok) e194 ⟨_,qbl,rfl⟩ rfl rfl rfl rfl fun c195 M196 a w E ok h197=>av E rfl fun a E=>wpList_nil<|qal<|qaa<|qac<|mv E rfl fun a E=>lw E (qaw rfl rfl (InR.inc r55 (ir 11) c56)) fun a E=>av E rfl fun a E=>wpList_nil ?_
    cases hF
    exact qas ⟨c195,M196,(ok.pk 6 [1,2,3,4,5] rfl (by decide)),E.keep [0,1,2,3,4],h197,(InR.inc r55 (ir 11) c56)⟩
   refine mv E rfl fun a E=>lw E (qav rfl rfl) fun a E=>pt E rfl rfl fun a E=>mv E rfl fun a E=>bw E 50 hF (fun c169 hF E=>?_) fun c169 hF E=>?_
   ·refine lsq E fun a E=>pf E rfl rfl fun a E=>aw E rfl fun a E=>c_if E rfl (fun h=>by cases h) (fun _=>?_)
    refine wp_skip<|qal<|qaa<|qac<|mz E rfl rfl fun a E=>qaW (R:=(pI .i64)) (xo:=[.tmp 57]) (xs:=([24]:List (Int))) E ok qaJ qbl rfl ⟨⟨_,rfl,rfl,(qaX (ir 24))⟩,trivial⟩ rfl rfl rfl rfl fun c182 M183 a w E ok h184=>bd hF fun l185 e186 hF=>qbo (R:=(pI .i64)) E ok 1 (mI .i64) qaJ Tryz.underlying72 rfl h54 (qa0.ofRow h184 0 rfl ok) e186 ⟨_,qbl,rfl⟩ rfl rfl rfl rfl fun c187 M188 a w E ok h189=>av E rfl fun a E=>wpList_nil<|qal<|qaa<|qac<|mv E rfl fun a E=>lw E (qaw rfl rfl (InR.inc r55 (ir 11) c56)) fun a E=>av E rfl fun a E=>wpList_nil ?_
    cases hF
    exact qas ⟨c187,M188,(ok.pk 6 [1,2,3,4,5] rfl (by decide)),E.keep [0,1,2,3,4],h189,(InR.inc r55 (ir 11) c56)⟩
   refine mv E rfl fun a E=>lw E (qav rfl rfl) fun a E=>pt E rfl rfl fun a E=>aw E rfl fun a E=>bd hF fun o170 hJ hF=>qaG (Q':=fun e a w=>e = .normal ∧ Ok u m28 (M53 :: M35 :: M32 :: [(b2,oc 34 [vi v27.Start,c31,c34])] :: [(b1,oc 34 [vi 0,(Value.slice none 0 0),(Value.slice none 0 0)])] :: S) w ∧ Env 87 a [(0,vp b1),(1,vp b2),(2,vi v26),(3,c52),(4,vi v51),(5,vi o170)] ∧ InR .i64 o170) ?_ ?_
   ·have hF:=hJ
    refine cg E rfl hF (fun c172 hF=>?_) fun c172 hF=>?_
    ·refine wp_skip ?_
     cases hF
     exact ⟨rfl,⟨ok,E.keep [0,1,2,3,4,5],(ir 24)⟩⟩
    refine qac<|mv E rfl fun a E=>lw E (qaw rfl rfl (InR.inc r29 (ir 23) c169)) fun a E=>av E rfl fun a E=>wpList_nil ?_
    cases hF
    exact ⟨rfl,⟨ok,E.keep [0,1,2,3,4,5],(InR.inc r29 (ir 23) c169)⟩⟩
   intro e a w hO
   obtain ⟨rfl,ok,E,r173⟩:=hO
   refine qal<|qaa<|qac<|mz E rfl rfl fun a E=>qaW (R:=(pI .i64)) (xo:=[.tmp 57]) (xs:=([o170]:List (Int))) E ok qaJ qbl rfl ⟨⟨_,rfl,rfl,(qaX r173)⟩,trivial⟩ rfl rfl rfl rfl fun c174 M175 a w E ok h176=>bd hF fun l177 e178 hF=>qbo (R:=(pI .i64)) E ok 1 (mI .i64) qaJ Tryz.underlying72 rfl h54 (qa0.ofRow h176 0 rfl ok) e178 ⟨_,qbl,rfl⟩ rfl rfl rfl rfl fun c179 M180 a w E ok h181=>av E rfl fun a E=>wpList_nil<|qal<|qaa<|qac<|mv E rfl fun a E=>lw E (qaw rfl rfl (InR.inc r55 (ir 11) c56)) fun a E=>av E rfl fun a E=>wpList_nil ?_
   cases hF
   exact qas ⟨c179,M180,(ok.pk 6 [1,2,3,4,5] rfl (by decide)),E.keep [0,1,2,3,4],h181,(InR.inc r55 (ir 11) c56)⟩
 refine mv E rfl fun a E=>lw E (qeC rfl rfl) fun a E=>pt E rfl rfl fun a E=>mv E rfl fun a E=>bu E 39 hF (fun c122 hF E=>?_) fun c122 hF E=>?_
 ·as_aux_lemma =>
   refine mv E rfl fun a E=>lw E (qau rfl rfl) fun a E=>pt E rfl rfl fun a E=>aw E rfl fun a E=>bd hF fun o123 hJ hF=>qaG (Q':=fun e a w=>e = .normal ∧ Ok u m28 (M53 :: M35 :: M32 :: [(b2,oc 34 [vi v27.Start,c31,c34])] :: [(b1,oc 34 [vi 0,(Value.slice none 0 0),(Value.slice none 0 0)])] :: S) w ∧ Env 87 a [(0,vp b1),(1,vp b2),(2,vi v26),(3,c52),(4,vi v51),(5,vi o123)] ∧ InR .i64 o123) ?_ ?_
   rotate_left
   ·intro e a w hO
    obtain ⟨rfl,ok,E,r129⟩:=hO
    refine qal<|qaa<|qac<|mz E rfl rfl fun a E=>qaW (R:=(pI .i64)) (xo:=[.tmp 57]) (xs:=([o123]:List (Int))) E ok qaJ qbl rfl ⟨⟨_,rfl,rfl,(qaX r129)⟩,trivial⟩ rfl rfl rfl rfl fun c130 M131 a w E ok h132=>bd hF fun l133 e134 hF=>qbo (R:=(pI .i64)) E ok 1 (mI .i64) qaJ Tryz.underlying72 rfl h54 (qa0.ofRow h132 0 rfl ok) e134 ⟨_,qbl,rfl⟩ rfl rfl rfl rfl fun c135 M136 a w E ok h137=>av E rfl fun a E=>wpList_nil<|qal<|qaa<|qac<|mv E rfl fun a E=>lw E (qaw rfl rfl (InR.inc r55 (ir 11) c56)) fun a E=>av E rfl fun a E=>wpList_nil ?_
    cases hF
    exact qas ⟨c135,M136,(ok.pk 6 [1,2,3,4,5] rfl (by decide)),E.keep [0,1,2,3,4],h137,(InR.inc r55 (ir 11) c56)⟩
   have hF:=hJ
   refine cf E rfl hF (fun c125 hF=>?_) fun c125 hF=>?_
   ·refine qac<|av E rfl fun a E=>wpList_nil ?_
    cases hF
    exact ⟨rfl,⟨ok,E.keep [0,1,2,3,4,5],(ir 17)⟩⟩
   refine sg<|mv E rfl fun a E=>lw E (qev rfl rfl) fun a E=>mv E rfl fun a E=>bw E 46 hF (fun c126 hF E=>?_) fun c126 hF E=>?_
   ·refine lsq E fun a E=>pf E rfl rfl fun a E=>mv E rfl fun a E=>lsq E fun a E=>pf E rfl rfl fun a E=>av E rfl fun a E=>wn<|c_if E rfl (fun h=>by cases h) (fun _=>?_)
    refine wp_skip ?_
    cases hF
    exact ⟨rfl,⟨ok,E.keep [0,1,2,3,4,5],(ir 24)⟩⟩
   refine mv E rfl fun a E=>lw E (qav rfl rfl) fun a E=>pt E rfl rfl fun a E=>mv E rfl fun a E=>bw E 50 hF (fun c127 hF E=>?_) fun c127 hF E=>?_
   ·refine lsq E fun a E=>pf E rfl rfl fun a E=>aw E rfl fun a E=>c_if E rfl (fun h=>by cases h) (fun _=>?_)
    refine wp_skip ?_
    cases hF
    exact ⟨rfl,⟨ok,E.keep [0,1,2,3,4,5],(ir 24)⟩⟩
   refine mv E rfl fun a E=>lw E (qav rfl rfl) fun a E=>pt E rfl rfl fun a E=>aw E rfl fun a E=>cg E rfl hF (fun c128 hF=>?_) fun c128 hF=>?_
   ·refine wp_skip ?_
    cases hF
    exact ⟨rfl,⟨ok,E.keep [0,1,2,3,4,5],(ir 24)⟩⟩
   refine qac<|mv E rfl fun a E=>lw E (qaw rfl rfl (InR.inc r29 (ir 23) c127)) fun a E=>av E rfl fun a E=>wpList_nil ?_
   cases hF
   exact ⟨rfl,⟨ok,E.keep [0,1,2,3,4,5],(InR.inc r29 (ir 23) c127)⟩⟩
 refine lsq E fun a E=>pf E rfl rfl fun a E=>aw E rfl fun a E=>c_if E rfl (fun h=>by cases h) (fun _=>?_)
 refine sg<|mv E rfl fun a E=>lw E (qev rfl rfl) fun a E=>mv E rfl fun a E=>bw E 46 hF (fun c138 hF E=>?_) fun c138 hF E=>?_
 ·refine lsq E fun a E=>pf E rfl rfl fun a E=>mv E rfl fun a E=>lsq E fun a E=>pf E rfl rfl fun a E=>av E rfl fun a E=>wn<|c_if E rfl (fun h=>by cases h) (fun _=>?_)
  refine wp_skip<|qal<|qaa<|qac<|mz E rfl rfl fun a E=>qaW (R:=(pI .i64)) (xo:=[.tmp 57]) (xs:=([24]:List (Int))) E ok qaJ qbl rfl ⟨⟨_,rfl,rfl,(qaX (ir 24))⟩,trivial⟩ rfl rfl rfl rfl fun c160 M161 a w E ok h162=>bd hF fun l163 e164 hF=>qbo (R:=(pI .i64)) E ok 1 (mI .i64) qaJ Tryz.underlying72 rfl h54 (qa0.ofRow h162 0 rfl ok) e164 ⟨_,qbl,rfl⟩ rfl rfl rfl rfl fun c165 M166 a w E ok h167=>av E rfl fun a E=>wpList_nil<|qal<|qaa<|qac<|mv E rfl fun a E=>lw E (qaw rfl rfl (InR.inc r55 (ir 11) c56)) fun a E=>av E rfl fun a E=>wpList_nil ?_
  cases hF
  exact qas ⟨c165,M166,(ok.pk 6 [1,2,3,4,5] rfl (by decide)),E.keep [0,1,2,3,4],h167,(InR.inc r55 (ir 11) c56)⟩
 refine mv E rfl fun a E=>lw E (qav rfl rfl) fun a E=>pt E rfl rfl fun a E=>mv E rfl fun a E=>bw E 50 hF (fun c139 hF E=>?_) fun c139 hF E=>?_
 ·refine lsq E fun a E=>pf E rfl rfl fun a E=>aw E rfl fun a E=>c_if E rfl (fun h=>by cases h) (fun _=>?_)
  refine wp_skip<|qal<|qaa<|qac<|mz E rfl rfl fun a E=>qaW (R:=(pI .i64)) (xo:=[.tmp 57]) (xs:=([24]:List (Int))) E ok qaJ qbl rfl ⟨⟨_,rfl,rfl,(qaX (ir 24))⟩,trivial⟩ rfl rfl rfl rfl fun c152 M153 a w E ok h154=>bd hF fun l155 e156 hF=>qbo (R:=(pI .i64)) E ok 1 (mI .i64) qaJ Tryz.underlying72 rfl h54 (qa0.ofRow h154 0 rfl ok) e156 ⟨_,qbl,rfl⟩ rfl rfl rfl rfl fun c157 M158 a w E ok h159=>av E rfl fun a E=>wpList_nil<|qal<|qaa<|qac<|mv E rfl fun a E=>lw E (qaw rfl rfl (InR.inc r55 (ir 11) c56)) fun a E=>av E rfl fun a E=>wpList_nil ?_
  cases hF
  exact qas ⟨c157,M158,(ok.pk 6 [1,2,3,4,5] rfl (by decide)),E.keep [0,1,2,3,4],h159,(InR.inc r55 (ir 11) c56)⟩
 refine mv E rfl fun a E=>lw E (qav rfl rfl) fun a E=>pt E rfl rfl fun a E=>aw E rfl fun a E=>bd hF fun o140 hJ hF=>qaG (Q':=fun e a w=>e = .normal ∧ Ok u m28 (M53 :: M35 :: M32 :: [(b2,oc 34 [vi v27.Start,c31,c34])] :: [(b1,oc 34 [vi 0,(Value.slice none 0 0),(Value.slice none 0 0)])] :: S) w ∧ Env 87 a [(0,vp b1),(1,vp b2),(2,vi v26),(3,c52),(4,vi v51),(5,vi o140)] ∧ InR .i64 o140) ?_ ?_
 ·have hF:=hJ
  refine cg E rfl hF (fun c142 hF=>?_) fun c142 hF=>?_
  ·refine wp_skip ?_
   cases hF
   exact ⟨rfl,⟨ok,E.keep [0,1,2,3,4,5],(ir 24)⟩⟩
  refine qac<|mv E rfl fun a E=>lw E (qaw rfl rfl (InR.inc r29 (ir 23) c139)) fun a E=>av E rfl fun a E=>wpList_nil ?_
  cases hF
  exact ⟨rfl,⟨ok,E.keep [0,1,2,3,4,5],(InR.inc r29 (ir 23) c139)⟩⟩
 intro e a w hO
 obtain ⟨rfl,ok,E,r143⟩:=hO
 refine qal<|qaa<|qac<|mz E rfl rfl fun a E=>qaW (R:=(pI .i64)) (xo:=[.tmp 57]) (xs:=([o140]:List (Int))) E ok qaJ qbl rfl ⟨⟨_,rfl,rfl,(qaX r143)⟩,trivial⟩ rfl rfl rfl rfl fun c144 M145 a w E ok h146=>bd hF fun l147 e148 hF=>qbo (R:=(pI .i64)) E ok 1 (mI .i64) qaJ Tryz.underlying72 rfl h54 (qa0.ofRow h146 0 rfl ok) e148 ⟨_,qbl,rfl⟩ rfl rfl rfl rfl fun c149 M150 a w E ok h151=>av E rfl fun a E=>wpList_nil<|qal<|qaa<|qac<|mv E rfl fun a E=>lw E (qaw rfl rfl (InR.inc r55 (ir 11) c56)) fun a E=>av E rfl fun a E=>wpList_nil ?_
 cases hF
 exact qas ⟨c149,M150,(ok.pk 6 [1,2,3,4,5] rfl (by decide)),E.keep [0,1,2,3,4],h151,(InR.inc r55 (ir 11) c56)⟩
def qfr (u:World) (m0:Mem) (S:Segs) (r:Bool) (a:Act) (w:World):Prop :=
 Ok u m0 S w ∧ a.defers = [] ∧ RVs Tryz.prog a w [.t 4 (.bool r)]
theorem qft (N:Nat) (va_0:List Value) (a_0:DFA) (ha_0:pDFA m0 va_0 a_0) (vb_1:List Value) (b_1:DFA) (hb_1:pDFA m0 vb_1 b_1) {r:Bool} (hF:qbS N a_0 b_1 = some r) (hG:Glob u) (ok:Ok u m0 S w) :
  Calls Tryz.prog 14 [.agg va_0.toArray,.agg vb_1.toArray].toArray w fun e w'=>(e = .returned (.bool r) ∧ Ok u m0 S w'):=by
 obtain ⟨c2,c4,rfl,r1,h3,h5⟩:=ha_0
 obtain ⟨c7,c9,rfl,r6,h8,h10⟩:=hb_1
 unfold qbS at hF
 refine en (qfr u m0 S) r Tryz.func14 rfl rfl rfl (fun _ _ h=>ra h rfl) fun fin a E=>sg<|qbz E ok rfl rfl rfl fun b11 a w E ok=>qbz E ok rfl rfl rfl fun b12 a w E ok=>aw E rfl fun a E=>wp_seq<|sg<|fk E ok qiU qak rfl 1 rfl rfl fun a E=>fk E ok qiU qak rfl 0 rfl rfl fun a E=>lw E (qb7 rfl rfl) fun a E=>mv E rfl fun a E=>bu E 13 hF (fun c13 hF E=>?_) fun c13 hF E=>?_
 ·refine lsz E fun a E=>lsq E fun a E=>ls E fun a E=>pt E rfl rfl fun a E=>mv E rfl fun a E=>lsz E fun a E=>lsq E fun a E=>ls E fun a E=>?_
  refine pt E rfl rfl fun a E=>wn<|c_if E rfl (fun _=>?_) (fun h=>by cases h)
  refine sg<|aw E rfl fun a E=>wp_ret<|qaq ?_
  exact fin hF ⟨ok.drop.drop,E.d,rz E rfl⟩
 refine fk E ok qbP qdf rfl 1 rfl rfl fun a E=>lv E ok (qaD qcA h3 rfl) fun a E=>fk E ok qbP qdf rfl 0 rfl rfl fun a E=>lv E ok (qaD qcA h8 rfl) fun a E=>lw E (qb7 rfl rfl) fun a E=>pf E rfl rfl fun a E=>mv E rfl fun a E=>bu E 22 hF (fun c14 hF E=>?_) fun c14 hF E=>?_
 ·refine lsz E fun a E=>lsq E fun a E=>ls E fun a E=>pt E rfl rfl fun a E=>wn<|c_if E rfl (fun _=>?_) (fun h=>by cases h)
  refine sg<|aw E rfl fun a E=>wp_ret<|qaq ?_
  exact fin hF ⟨ok.drop.drop,E.d,rz E rfl⟩
 refine fk E ok qc9 qd3 rfl 1 rfl rfl fun a E=>lv E ok (qaD qce h5 rfl) fun a E=>fk E ok qc9 qd3 rfl 0 rfl rfl fun a E=>lv E ok (qaD qce h10 rfl) fun a E=>lw E (qb7 rfl rfl) fun a E=>pf E rfl rfl fun a E=>wn<|cf E rfl hF (fun c15 hF=>?_) fun c15 hF=>?_
 ·refine sg<|aw E rfl fun a E=>wp_ret<|qaq ?_
  exact fin hF ⟨ok.drop.drop,E.d,rz E rfl⟩
 refine wp_skip<|qaa<|wp_seq<|sg<|aw E rfl fun a E=>wp_block<|bd hF fun o17 hL hF=>qaE _ (fun (s:Int) a w=>Ok u m0 ([(b12,oc 34 [vi b_1.Start,c7,c9])] :: [(b11,oc 34 [vi a_0.Start,c2,c4])] :: S) w ∧ Env 96 a [(2,vp b11),(3,vp b12),(5,vi s)] ∧ InR .i64 s) (fun (b:(Unit ⊕ Bool)) e a w=>(Sum.elim (fun b134=>e = (.exit 0) ∧ Ok u m0 ([(b12,oc 34 [vi b_1.Start,c7,c9])] :: [(b11,oc 34 [vi a_0.Start,c2,c4])] :: S) w ∧ Env 96 a [(2,vp b11),(3,vp b12)]) (fun b135=>e = .ret ∧ qfr u m0 S b135 a w)) b) ?_ ?_ N _ a w hL ⟨ok,E.keep [2,3,5],(ir 0)⟩
 rotate_left
 ·as_aux_lemma =>
   intro e a w _ hO
   rcases o17 with o17 | o17
   rotate_left
   ·obtain ⟨rfl,hret⟩:=hO
    refine qaz<|qaq ?_
    exact fin hF hret
   have hF:=qca hF
   obtain ⟨rfl,ok,E⟩:=hO
   refine qaM<|qaa<|wp_seq<|sg<|aw E rfl fun a E=>wp_block<|bd hF fun o108 hL hF=>qaE _ (fun (s:Int) a w=>Ok u m0 ([(b12,oc 34 [vi b_1.Start,c7,c9])] :: [(b11,oc 34 [vi a_0.Start,c2,c4])] :: S) w ∧ Env 96 a [(2,vp b11),(3,vp b12),(7,vi s)] ∧ InR .i64 s) (fun (b:(Unit ⊕ Bool)) e a w=>(Sum.elim (fun b132=>e = (.exit 4) ∧ Ok u m0 ([(b12,oc 34 [vi b_1.Start,c7,c9])] :: [(b11,oc 34 [vi a_0.Start,c2,c4])] :: S) w ∧ Env 96 a []) (fun b133=>e = .ret ∧ qfr u m0 S b133 a w)) b) ?_ ?_ N _ a w hL ⟨ok,E.keep [2,3,7],(ir 0)⟩
   rotate_left
   ·intro e a w _ hO
    rcases o108 with o108 | o108
    rotate_left
    ·obtain ⟨rfl,hret⟩:=hO
     refine qaz<|qaq ?_
     exact fin hF hret
    have hF:=qca hF
    obtain ⟨rfl,ok,E⟩:=hO
    refine qaM<|qaa<|sg<|aw E rfl fun a E=>wp_ret ?_
    exact fin hF ⟨ok.drop.drop,E.d,rz E rfl⟩
   rintro v110 a w r ⟨ok,E,r111⟩ hF
   replace hF:qdl N a_0 b_1 v110 = some r:=hF
   unfold qdl at hF
   refine wp_seq<|sg<|mv E rfl fun a E=>fk E ok qc9 qd3 rfl 1 rfl rfl fun a E=>lv E ok (qaD qce h5 rfl) fun a E=>lw E (qav rfl rfl) fun a E=>wn<|cg E rfl hF (fun c112 hF=>?_) fun c112 hF=>?_
   ·refine wp_exit<|qaA ?_
    cases hF
    exact so (sl ⟨rfl,⟨ok,E.keep []⟩⟩)
   refine wp_skip<|qaa<|wp_seq<|wp_block<|wp_seq<|qdc (by kernel_rfl) (by kernel_rfl) ok<|qv E (qae qc9 rfl) fun a E=>qv E (qaj qd3 rfl (qab.own 1 rfl rfl)) fun a E=>qv E (qah rfl) fun a E=>?_
   obtain ⟨x113,e114,hF⟩:=bnd hF
   obtain ⟨b115,o116,es117,hl118,rr119,at120,yy121⟩:=ia E 86 87 qce h5 e114
   obtain rfl:=rr119
   refine qv E (yy121 _ _) fun a E=>qv E (qaj qbx rfl (qab.ro at120)) fun a E=>qv E (qae qc9 rfl) fun a E=>qv E (qaj qd3 rfl (qab.own 0 rfl rfl)) fun a E=>qv E (qah rfl) fun a E=>?_
   obtain ⟨x122,e123,hF⟩:=bnd hF
   obtain ⟨b124,o125,es126,hl127,rr128,at129,yy130⟩:=ia E 91 92 qce h10 e123
   obtain rfl:=rr128
   refine qv E (yy130 _ _) fun a E=>qv E (qaj qbx rfl (qab.ro at129)) fun a E=>qv E (qnU Tryz.underlying4 rfl rfl) fun a E=>wpQuiet_nil ?_
   intro w ok
   refine qaa<|cg E rfl hF (fun c131 hF=>?_) fun c131 hF=>?_
   ·refine wp_skip<|qal<|qaa<|qac<|mv E rfl fun a E=>lw E (qaw rfl rfl (InR.inc r111 (qam h5) c112)) fun a E=>av E rfl fun a E=>wpList_nil ?_
    cases hF
    exact qas ⟨ok,E.keep [2,3,7],(InR.inc r111 (qam h5) c112)⟩
   refine sg<|aw E rfl fun a E=>wp_ret<|qaz<|qaq ?_
   cases hF
   exact so (sr ⟨rfl,⟨ok.drop.drop,E.d,rz E rfl⟩⟩)
 rintro v19 a w r ⟨ok,E,r20⟩ hF
 replace hF:qdj N a_0 b_1 v19 = some r:=hF
 unfold qdj at hF
 refine wp_seq<|sg<|mv E rfl fun a E=>fk E ok qbP qdf rfl 1 rfl rfl fun a E=>lv E ok (qaD qcA h3 rfl) fun a E=>lw E (qav rfl rfl) fun a E=>wn<|cg E rfl hF (fun c21 hF=>?_) fun c21 hF=>?_
 ·refine wp_exit<|qaA ?_
  cases hF
  exact so (sl ⟨rfl,⟨ok,E.keep [2,3]⟩⟩)
 refine wp_skip<|qaa<|wp_seq<|wp_block<|wp_seq<|wp_seq<|qdc (by kernel_rfl) (by kernel_rfl) ok<|qv E (qae qbP rfl) fun a E=>qv E (qaj qdf rfl (qab.own 1 rfl rfl)) fun a E=>qv E (qah rfl) fun a E=>?_
 obtain ⟨x22,e23,hF⟩:=bnd hF
 obtain ⟨b24,o25,es26,hl27,rr28,at29,yy30⟩:=ia E 39 40 qcA h3 e23
 obtain ⟨c31,rfl,h32⟩:=qbK rr28
 refine qv E (yy30 _ _) fun a E=>qv E (qaj qc3 rfl (qab.ro at29)) fun a E=>qv E (qaD qaJ h32 rfl) fun a E=>qv E (qae qbP rfl) fun a E=>qv E (qaj qdf rfl (qab.own 0 rfl rfl)) fun a E=>qv E (qah rfl) fun a E=>?_
 obtain ⟨x33,e34,hF⟩:=bnd hF
 obtain ⟨b35,o36,es37,hl38,rr39,at40,yy41⟩:=ia E 45 46 qcA h8 e34
 obtain ⟨c42,rfl,h43⟩:=qbK rr39
 refine qv E (yy41 _ _) fun a E=>qv E (qaj qc3 rfl (qab.ro at40)) fun a E=>qv E (qaD qaJ h43 rfl) fun a E=>qv E (qb7 rfl rfl) fun a E=>wpQuiet_nil ?_
 intro w ok
 refine qaa<|cf E rfl hF (fun c44 hF=>?_) fun c44 hF=>?_
 ·refine sg<|aw E rfl fun a E=>wp_ret<|qaq<|qaz<|qaq ?_
  cases hF
  exact so (sr ⟨rfl,⟨ok.drop.drop,E.d,rz E rfl⟩⟩)
 refine wp_skip<|qaa<|sg<|aw E rfl fun a E=>wp_block<|bd hF fun o46 hL hF=>qaE _ (fun (s:Int) a w=>Ok u m0 ([(b12,oc 34 [vi b_1.Start,c7,c9])] :: [(b11,oc 34 [vi a_0.Start,c2,c4])] :: S) w ∧ Env 96 a [(2,vp b11),(3,vp b12),(5,vi v19),(6,vi s)] ∧ InR .i64 s) (fun (b:(Unit ⊕ Bool)) e a w=>(Sum.elim (fun b105=>e = (.exit 2) ∧ Ok u m0 ([(b12,oc 34 [vi b_1.Start,c7,c9])] :: [(b11,oc 34 [vi a_0.Start,c2,c4])] :: S) w ∧ Env 96 a [(2,vp b11),(3,vp b12),(5,vi v19)]) (fun b106=>e = .ret ∧ qfr u m0 S b106 a w)) b) ?_ ?_ N _ a w hL ⟨ok,E.keep [2,3,5,6],(ir 0)⟩
 rotate_left
 ·intro e a w _ hO
  rcases o46 with o46 | o46
  rotate_left
  ·have hF:=qmt hF
   obtain ⟨rfl,hret⟩:=hO
   refine qaz<|qaz<|qaq ?_
   cases hF
   exact so (sr ⟨rfl,hret⟩)
  have hF:=qca hF
  obtain ⟨rfl,ok,E⟩:=hO
  refine qaM<|qal<|qaa<|qac<|mv E rfl fun a E=>lw E (qaw rfl rfl (InR.inc r20 (qam h3) c21)) fun a E=>av E rfl fun a E=>wpList_nil ?_
  cases hF
  exact qas ⟨ok,E.keep [2,3,5],(InR.inc r20 (qam h3) c21)⟩
 rintro v48 a w r ⟨ok,E,r49⟩ hF
 replace hF:qdi N a_0 b_1 v19 v48 = some r:=hF
 unfold qdi at hF
 refine wp_seq<|sg<|mv E rfl fun a E=>fk E ok qbP qdf rfl 1 rfl rfl fun a E=>mv E rfl fun a E=>?_
 obtain ⟨x50,e51,hF⟩:=bnd hF
 obtain ⟨b52,o53,es54,hl55,rr56,at57,yy58⟩:=ia E 53 54 qcA h3 e51
 obtain ⟨c59,rfl,h60⟩:=qbK rr56
 refine lv E ok (yy58 _ _) fun a E=>lv E ok (qaj qc3 rfl (qab.ro at57)) fun a E=>lv E ok (qaD qaJ h60 rfl) fun a E=>lw E (qav rfl rfl) fun a E=>wn<|cg E rfl hF (fun c61 hF=>?_) fun c61 hF=>?_
 ·refine wp_exit<|qaA ?_
  cases hF
  exact so (sl ⟨rfl,⟨ok,E.keep [2,3,5]⟩⟩)
 refine wp_skip<|qaa<|wp_seq<|wp_block<|wp_seq<|qdc (by kernel_rfl) (by kernel_rfl) ok<|qv E (qae qbP rfl) fun a E=>qv E (qaj qdf rfl (qab.own 1 rfl rfl)) fun a E=>qv E (qah rfl) fun a E=>?_
 obtain ⟨x62,e63,hF⟩:=bnd hF
 obtain ⟨b64,o65,es66,hl67,rr68,at69,yy70⟩:=ia E 62 63 qcA h3 e63
 obtain ⟨c71,rfl,h72⟩:=qbK rr68
 refine qv E (yy70 _ _) fun a E=>qv E (qaj qc3 rfl (qab.ro at69)) fun a E=>qv E (qah rfl) fun a E=>?_
 obtain ⟨x73,e74,hF⟩:=bnd hF
 obtain ⟨b75,o76,es77,hl78,rr79,at80,yy81⟩:=ia E 65 66 qaJ h72 e74
 obtain ⟨rfl,r82⟩:=rr79
 refine qv E (yy81 _ _) fun a E=>qv E (qaj qak rfl (qab.ro at80)) fun a E=>qv E (qae qbP rfl) fun a E=>qv E (qaj qdf rfl (qab.own 0 rfl rfl)) fun a E=>qv E (qah rfl) fun a E=>?_
 obtain ⟨x83,e84,hF⟩:=bnd hF
 obtain ⟨b85,o86,es87,hl88,rr89,at90,yy91⟩:=ia E 70 71 qcA h8 e84
 obtain ⟨c92,rfl,h93⟩:=qbK rr89
 refine qv E (yy91 _ _) fun a E=>qv E (qaj qc3 rfl (qab.ro at90)) fun a E=>qv E (qah rfl) fun a E=>?_
 obtain ⟨x94,e95,hF⟩:=bnd hF
 obtain ⟨b96,o97,es98,hl99,rr100,at101,yy102⟩:=ia E 73 74 qaJ h93 e95
 obtain ⟨rfl,r103⟩:=rr100
 refine qv E (yy102 _ _) fun a E=>qv E (qaj qak rfl (qab.ro at101)) fun a E=>qv E (qb7 rfl rfl) fun a E=>wpQuiet_nil ?_
 intro w ok
 refine qaa<|cg E rfl hF (fun c104 hF=>?_) fun c104 hF=>?_
 ·refine wp_skip<|qal<|qaa<|qac<|mv E rfl fun a E=>lw E (qaw rfl rfl (InR.inc r49 (qam h60) c61)) fun a E=>av E rfl fun a E=>wpList_nil ?_
  cases hF
  exact qas ⟨ok,E.keep [2,3,5,6],(InR.inc r49 (qam h60) c61)⟩
 refine sg<|aw E rfl fun a E=>wp_ret<|qaz<|qaq ?_
 cases hF
 exact so (sr ⟨rfl,⟨ok.drop.drop,E.d,rz E rfl⟩⟩)
end Go.Proofs.YtidfofhmnlhfjaaGreatDoor
