/- Texts of this proof, put together by pack.py: what its declarations name. -/
import Derived.Test.YtllfckekodcdaaaGreatDoorPkKn4
import Derived.Test.YtllfckekodcdaaaGreatDoorCards
import Derived.Test.YtllfckekodcdaaaGreatDoorChecked
import Derived.Test.YtllfckekodcdaaaGreatDoorProg
import Derived.Test.YtllfckekodcdaaaGreatDoorRows
import Derived.Test.YtllfckekodcdaaaGreatDoorTie
set_option linter.unusedVariables false
set_option linter.unusedSimpArgs false
namespace Go.Proofs.YtllfckekodcdaaaGreatDoor
open Go.X
variable {u:World} {m0:Mem} {S:Segs} {w:World}
set_option maxHeartbeats 4000000
set_option maxRecDepth 100000
def qhf (u:World) (m0:Mem) (S:Segs) (r:Bool) (a:Act) (w:World):Prop :=
 Ok u m0 S w ∧ a.defers = [] ∧ RVs Tryz.prog a w [.t 4 (.bool r)]
theorem qjB (N:Nat) (vx_0:List Value) (x_0:Entry) (hx_0:qfB m0 vx_0 x_0) (vy_1:List Value) (y_1:Entry) (hy_1:qfB m0 vy_1 y_1) {r:Bool} (hF:qf0 N x_0 y_1 = some r) (hG:Glob u) (ok:Ok u m0 S w) :
  Calls Tryz.prog 19 [.agg vx_0.toArray,.agg vy_1.toArray].toArray w fun e w'=>(e = .returned (.bool r) ∧ Ok u m0 S w'):=by
 obtain ⟨c4,c6,c9,rfl,l1,l2,l3,h5,h7,r8,h10⟩:=hx_0
 obtain ⟨c14,c16,c19,rfl,l11,l12,l13,h15,h17,r18,h20⟩:=hy_1
 unfold qf0 at hF
 refine en (qhf u m0 S) r Tryz.func19 rfl rfl rfl (fun _ _ h=>ra h rfl) fun fin a E=>sg<|qcC E ok rfl rfl rfl fun b21 a w E ok=>qcC E ok rfl rfl rfl fun b22 a w E ok=>aw E rfl fun a E=>wp_seq<|sg<|fk E ok qqD qal rfl 1 rfl rfl fun a E=>fk E ok qqD qal rfl 0 rfl rfl fun a E=>lw E (qbn rfl rfl) fun a E=>mv E rfl fun a E=>bu E 11 hF (fun c23 hF E=>?_) fun c23 hF E=>?_
 ·refine lsz E fun a E=>ls E fun a E=>pt E rfl rfl fun a E=>mv E rfl fun a E=>lsz E fun a E=>ls E fun a E=>pt E rfl rfl fun a E=>mv E rfl fun a E=>lsz E fun a E=>ls E fun a E=>pt E rfl rfl fun a E=>mv E rfl fun a E=>lsq E fun a E=>ls E fun a E=>?_
  refine lsq E fun a E=>ls E fun a E=>pt E rfl rfl fun a E=>mv E rfl fun a E=>lsz E fun a E=>lsq E fun a E=>pt E rfl rfl fun a E=>mv E rfl fun a E=>lsz E fun a E=>lsq E fun a E=>ls E fun a E=>pt E rfl rfl fun a E=>wn<|c_if E rfl (fun _=>?_) (fun h=>by cases h)
  refine sg<|aw E rfl fun a E=>wp_ret<|qae ?_
  exact fin hF ⟨ok.drop.drop,E.d,rz E rfl⟩
 refine fk E ok qnP qal rfl 1 rfl rfl fun a E=>fk E ok qnP qal rfl 0 rfl rfl fun a E=>lw E (qbn rfl rfl) fun a E=>pf E rfl rfl fun a E=>mv E rfl fun a E=>bu E 18 hF (fun c24 hF E=>?_) fun c24 hF E=>?_
 ·refine lsz E fun a E=>ls E fun a E=>pt E rfl rfl fun a E=>mv E rfl fun a E=>lsz E fun a E=>ls E fun a E=>pt E rfl rfl fun a E=>mv E rfl fun a E=>lsz E fun a E=>lsq E fun a E=>pt E rfl rfl fun a E=>mv E rfl fun a E=>lsq E fun a E=>?_
  refine lsz E fun a E=>pt E rfl rfl fun a E=>mv E rfl fun a E=>lsz E fun a E=>lsq E fun a E=>ls E fun a E=>pt E rfl rfl fun a E=>wn<|c_if E rfl (fun _=>?_) (fun h=>by cases h)
  refine sg<|aw E rfl fun a E=>wp_ret<|qae ?_
  exact fin hF ⟨ok.drop.drop,E.d,rz E rfl⟩
 refine fk E ok qqW qal rfl 1 rfl rfl fun a E=>fk E ok qqW qal rfl 0 rfl rfl fun a E=>lw E (qbn rfl rfl) fun a E=>pf E rfl rfl fun a E=>mv E rfl fun a E=>bu E 25 hF (fun c25 hF E=>?_) fun c25 hF E=>?_
 ·refine lsz E fun a E=>ls E fun a E=>pt E rfl rfl fun a E=>mv E rfl fun a E=>lsz E fun a E=>lsq E fun a E=>pt E rfl rfl fun a E=>mv E rfl fun a E=>lsz E fun a E=>lsq E fun a E=>pt E rfl rfl fun a E=>mv E rfl fun a E=>ls E fun a E=>?_
  refine lsz E fun a E=>lsq E fun a E=>pt E rfl rfl fun a E=>wn<|c_if E rfl (fun _=>?_) (fun h=>by cases h)
  refine sg<|aw E rfl fun a E=>wp_ret<|qae ?_
  exact fin hF ⟨ok.drop.drop,E.d,rz E rfl⟩
 refine fk E ok qqP qaJ rfl 1 rfl rfl fun a E=>fk E ok qqP qaJ rfl 0 rfl rfl fun a E=>lw E (qcn rfl rfl) fun a E=>pf E rfl rfl fun a E=>mv E rfl fun a E=>bu E 32 hF (fun c26 hF E=>?_) fun c26 hF E=>?_
 ·refine lsz E fun a E=>lsq E fun a E=>pt E rfl rfl fun a E=>mv E rfl fun a E=>lsz E fun a E=>lsq E fun a E=>pt E rfl rfl fun a E=>mv E rfl fun a E=>lsz E fun a E=>lsq E fun a E=>ls E fun a E=>pt E rfl rfl fun a E=>?_
  refine wn<|c_if E rfl (fun _=>?_) (fun h=>by cases h)
  refine sg<|aw E rfl fun a E=>wp_ret<|qae ?_
  exact fin hF ⟨ok.drop.drop,E.d,rz E rfl⟩
 refine fk E ok qkt qku rfl 1 rfl rfl fun a E=>fk E ok qkt qku rfl 0 rfl rfl fun a E=>bd hF fun r27 e28 hF=>lc E qtu rfl (qgA N _ x_0.Comments h5 _ y_1.Comments h15 e28 hG ok) fun w ok a E=>lw E (qbj rfl) fun a E=>pf E rfl rfl fun a E=>mv E rfl fun a E=>bu E 40 hF (fun c29 hF E=>?_) fun c29 hF E=>?_
 ·refine lsz E fun a E=>lsq E fun a E=>pt E rfl rfl fun a E=>mv E rfl fun a E=>lsz E fun a E=>lsq E fun a E=>ls E fun a E=>pt E rfl rfl fun a E=>wn<|c_if E rfl (fun _=>?_) (fun h=>by cases h)
  refine sg<|aw E rfl fun a E=>wp_ret<|qae ?_
  exact fin hF ⟨ok.drop.drop,E.d,rz E rfl⟩
 refine fk E ok qqE qku rfl 1 rfl rfl fun a E=>fk E ok qqE qku rfl 0 rfl rfl fun a E=>bd hF fun r30 e31 hF=>lc E qtu rfl (qgA N _ x_0.Flags h7 _ y_1.Flags h17 e31 hG ok) fun w ok a E=>lw E (qbj rfl) fun a E=>pf E rfl rfl fun a E=>mv E rfl fun a E=>bu E 48 hF (fun c32 hF E=>?_) fun c32 hF E=>?_
 ·refine lsz E fun a E=>lsq E fun a E=>ls E fun a E=>pt E rfl rfl fun a E=>wn<|c_if E rfl (fun _=>?_) (fun h=>by cases h)
  refine sg<|aw E rfl fun a E=>wp_ret<|qae ?_
  exact fin hF ⟨ok.drop.drop,E.d,rz E rfl⟩
 refine fk E ok qdS qeG rfl 1 rfl rfl fun a E=>lv E ok (qau qcQ h10 rfl) fun a E=>fk E ok qdS qeG rfl 0 rfl rfl fun a E=>lv E ok (qau qcQ h20 rfl) fun a E=>lw E (qcn rfl rfl) fun a E=>pf E rfl rfl fun a E=>wn<|cf E rfl hF (fun c33 hF=>?_) fun c33 hF=>?_
 ·refine sg<|aw E rfl fun a E=>wp_ret<|qae ?_
  exact fin hF ⟨ok.drop.drop,E.d,rz E rfl⟩
 refine wp_skip<|qaa<|wp_seq<|sg<|aw E rfl fun a E=>wp_block<|bd hF fun o35 hL hF=>qax _ (fun (s:Int) a w=>Ok u m0 ([(b22,oc 53 [vs y_1.ID,vs y_1.Source,vs y_1.Target,c14,c16,vi y_1.State,c19])] :: [(b21,oc 53 [vs x_0.ID,vs x_0.Source,vs x_0.Target,c4,c6,vi x_0.State,c9])] :: S) w ∧ Env 75 a [(2,vp b21),(3,vp b22),(5,vi s)] ∧ InR .i64 s) (fun (b:(Unit ⊕ Bool)) e a w=>(Sum.elim (fun b63=>e = (.exit 0) ∧ Ok u m0 ([(b22,oc 53 [vs y_1.ID,vs y_1.Source,vs y_1.Target,c14,c16,vi y_1.State,c19])] :: [(b21,oc 53 [vs x_0.ID,vs x_0.Source,vs x_0.Target,c4,c6,vi x_0.State,c9])] :: S) w ∧ Env 75 a []) (fun b64=>e = .ret ∧ qhf u m0 S b64 a w)) b) ?_ ?_ N _ a w hL ⟨ok,E.keep [2,3,5],(ir 0)⟩
 rotate_left
 ·intro e a w _ hO
  rcases o35 with o35 | o35
  rotate_left
  ·obtain ⟨rfl,hret⟩:=hO
   refine qag<|qae ?_
   exact fin hF hret
  have hF:=qaX hF
  obtain ⟨rfl,ok,E⟩:=hO
  refine qaz<|qaa<|sg<|aw E rfl fun a E=>wp_ret ?_
  exact fin hF ⟨ok.drop.drop,E.d,rz E rfl⟩
 rintro v37 a w r ⟨ok,E,r38⟩ hF
 replace hF:qe0 N x_0 y_1 v37 = some r:=hF
 unfold qe0 at hF
 refine wp_seq<|sg<|mv E rfl fun a E=>fk E ok qdS qeG rfl 1 rfl rfl fun a E=>lv E ok (qau qcQ h10 rfl) fun a E=>lw E (qat rfl rfl) fun a E=>wn<|cg E rfl hF (fun c39 hF=>?_) fun c39 hF=>?_
 ·refine wp_exit<|qap ?_
  cases hF
  exact so (sl ⟨rfl,⟨ok,E.keep []⟩⟩)
 refine wp_skip<|qaa<|wp_seq<|wp_block<|wp_seq<|qaY (by kernel_rfl) (by kernel_rfl) ok<|qv E (qak qdS rfl) fun a E=>qv E (qah qeG rfl (qac.own 1 rfl rfl)) fun a E=>qv E (qad rfl) fun a E=>?_
 obtain ⟨x40,e41,hF⟩:=bnd hF
 obtain ⟨b42,o43,es44,hl45,rr46,at47,yy48⟩:=ia E 65 66 qcQ h10 e41
 obtain ⟨rfl,l49,l50⟩:=rr46
 refine qv E (yy48 _ _) fun a E=>qv E (qam (cs:=[vs x40.Name,vs x40.Value]) qr3 rfl rfl (qac.ro at47)) fun a E=>qv E (qak qdS rfl) fun a E=>qv E (qah qeG rfl (qac.own 0 rfl rfl)) fun a E=>qv E (qad rfl) fun a E=>?_
 obtain ⟨x51,e52,hF⟩:=bnd hF
 obtain ⟨b53,o54,es55,hl56,rr57,at58,yy59⟩:=ia E 70 71 qcQ h20 e52
 obtain ⟨rfl,l60,l61⟩:=rr57
 refine qv E (yy59 _ _) fun a E=>qv E (qam (cs:=[vs x51.Name,vs x51.Value]) qr3 rfl rfl (qac.ro at58)) fun a E=>qv E (qve qu1 (qrd Tryz.underlying58 qsE (qof (by decide) (qb3 qal rfl) (qb3 qal rfl) (qqt Tryz.underlying9) (qrH (by decide) (qb3 qal rfl) (qb3 qal rfl) (qqt Tryz.underlying9)))) rfl rfl) fun a E=>wpQuiet_nil ?_
 intro w ok
 refine qaa<|cg E rfl hF (fun c62 hF=>?_) fun c62 hF=>?_
 ·refine wp_skip<|qaf<|qaa<|qab<|mv E rfl fun a E=>lw E (qar rfl rfl (InR.inc r38 (qaj h10) c39)) fun a E=>av E rfl fun a E=>wpList_nil ?_
  cases hF
  exact qan ⟨ok,E.keep [2,3,5],(InR.inc r38 (qaj h10) c39)⟩
 refine sg<|aw E rfl fun a E=>wp_ret<|qag<|qae ?_
 cases hF
 exact so (sr ⟨rfl,⟨ok.drop.drop,E.d,rz E rfl⟩⟩)
def qiN (u:World) (m0:Mem) (S:Segs) (r:Bool) (a:Act) (w:World):Prop :=
 Ok u m0 S w ∧ a.defers = [] ∧ RVs Tryz.prog a w [.t 4 (.bool r)]
theorem qlI (N:Nat) (va_0:Value) (a_0:List (Entry)) (ha_0:(pL 7 qfB) m0 [va_0] a_0) (vb_1:Value) (b_1:List (Entry)) (hb_1:(pL 7 qfB) m0 [vb_1] b_1) {r:Bool} (hF:qhz N a_0 b_1 = some r) (hG:Glob u) (ok:Ok u m0 S w) :
  Calls Tryz.prog 21 [va_0,vb_1].toArray w fun e w'=>(e = .returned (.bool r) ∧ Ok u m0 S w'):=by
 unfold qhz at hF
 refine en (qiN u m0 S) r Tryz.func21 rfl rfl rfl (fun _ _ h=>ra h rfl) fun fin a E=>sg<|aw E rfl fun a E=>wp_seq<|sg<|mv E rfl fun a E=>lv E ok (qau qgH ha_0 rfl) fun a E=>mv E rfl fun a E=>lv E ok (qau qgH hb_1 rfl) fun a E=>lw E (qcn rfl rfl) fun a E=>wn<|cf E rfl hF (fun c1 hF=>?_) fun c1 hF=>?_
 ·refine sg<|aw E rfl fun a E=>wp_ret<|qae ?_
  exact fin hF ⟨ok,E.d,rz E rfl⟩
 refine wp_skip<|qaa<|wp_seq<|sg<|aw E rfl fun a E=>wp_block<|bd hF fun o3 hL hF=>qax _ (fun (s:Int) a w=>Ok u m0 (S) w ∧ Env 27 a [(0,va_0),(1,vb_1),(5,vi s)] ∧ InR .i64 s) (fun (b:(Unit ⊕ Bool)) e a w=>(Sum.elim (fun b49=>e = (.exit 0) ∧ Ok u m0 (S) w ∧ Env 27 a []) (fun b50=>e = .ret ∧ qiN u m0 S b50 a w)) b) ?_ ?_ N _ a w hL ⟨ok,E.keep [0,1,5],(ir 0)⟩
 rotate_left
 ·intro e a w _ hO
  rcases o3 with o3 | o3
  rotate_left
  ·obtain ⟨rfl,hret⟩:=hO
   refine qag<|qae ?_
   exact fin hF hret
  have hF:=qaX hF
  obtain ⟨rfl,ok,E⟩:=hO
  refine qaz<|qaa<|sg<|aw E rfl fun a E=>wp_ret ?_
  exact fin hF ⟨ok,E.d,rz E rfl⟩
 rintro v5 a w r ⟨ok,E,r6⟩ hF
 replace hF:qgx N a_0 b_1 v5 = some r:=hF
 unfold qgx at hF
 refine wp_seq<|sg<|mz E rfl rfl fun a E=>lv E ok (qau qgH ha_0 rfl) fun a E=>lw E (qat rfl rfl) fun a E=>wn<|cg E rfl hF (fun c7 hF=>?_) fun c7 hF=>?_
 ·refine wp_exit<|qap ?_
  cases hF
  exact so (sl ⟨rfl,⟨ok,E.keep []⟩⟩)
 refine wp_skip<|qaa<|wp_seq<|wp_block<|wp_seq<|qaY (by kernel_rfl) (by kernel_rfl) ok<|qv E (qad rfl) fun a E=>qv E (qad rfl) fun a E=>?_
 obtain ⟨x8,e9,hF⟩:=bnd hF
 obtain ⟨b10,o11,es12,hl13,rr14,at15,yy16⟩:=ia E 17 18 qgH ha_0 e9
 obtain ⟨c20,c22,c25,rfl,l17,l18,l19,h21,h23,r24,h26⟩:=rr14
 refine qv E (yy16 _ _) fun a E=>qv E (qam (cs:=[vs x8.ID,vs x8.Source,vs x8.Target,c20,c22,vi x8.State,c25]) qsi rfl rfl (qac.ro at15)) fun a E=>qv E (qad rfl) fun a E=>qv E (qad rfl) fun a E=>?_
 obtain ⟨x27,e28,hF⟩:=bnd hF
 obtain ⟨b29,o30,es31,hl32,rr33,at34,yy35⟩:=ia E 21 22 qgH hb_1 e28
 obtain ⟨c39,c41,c44,rfl,l36,l37,l38,h40,h42,r43,h45⟩:=rr33
 refine qv E (yy35 _ _) fun a E=>qv E (qam (cs:=[vs x27.ID,vs x27.Source,vs x27.Target,c39,c41,vi x27.State,c44]) qsi rfl rfl (qac.ro at34)) fun a E=>bd hF fun r46 e47 hF=>qfZ E qwi rfl (fun w ok=>(qjB N _ x8 ⟨_,_,_,rfl,l17,l18,l19,h21,h23,r24,h26⟩ _ x27 ⟨_,_,_,rfl,l36,l37,l38,h40,h42,r43,h45⟩ e47 hG ok).mono (fun _ _ h=>h)) rfl rfl fun a E=>qv E (qbj rfl) fun a E=>wpQuiet_nil ?_
 intro w ok
 refine qaa<|cg E rfl hF (fun c48 hF=>?_) fun c48 hF=>?_
 ·refine wp_skip<|qaf<|qaa<|qab<|mv E rfl fun a E=>lw E (qar rfl rfl (InR.inc r6 (qaj ha_0) c7)) fun a E=>av E rfl fun a E=>wpList_nil ?_
  cases hF
  exact qan ⟨ok,E.keep [0,1,5],(InR.inc r6 (qaj ha_0) c7)⟩
 refine sg<|aw E rfl fun a E=>wp_ret<|qag<|qae ?_
 cases hF
 exact so (sr ⟨rfl,⟨ok,E.d,rz E rfl⟩⟩)
def qk3 (u:World) (m0:Mem) (S:Segs) (r:Int) (a:Act) (w:World):Prop :=
 Ok u m0 S w ∧ a.defers = [] ∧ RVs Tryz.prog a w [.t 2 (.int .i64 r)] ∧ InR .i64 r
theorem qk2 (N:Nat) (s_0:List UInt8) (ls_0:s_0.length ≤ LIMS) {r:Int} (hF:qeJ N s_0 = some r) (hG:Glob u) (ok:Ok u m0 S w) :
  Calls Tryz.prog 26 [vs s_0].toArray w fun e w'=>(e = .returned (.int .i64 r) ∧ Ok u m0 S w') ∧ InR .i64 r:=by
 unfold qeJ at hF
 refine en (qk3 u m0 S) r Tryz.func26 rfl rfl rfl (fun _ _ h=>rb h rfl) fun fin a E=>sg<|aw E rfl fun a E=>sg<|aw E rfl fun a E=>wp_seq<|sg<|av E rfl fun a E=>wn<|wp_block<|bd hF fun o3 hL hF=>qax _ (fun (s:Int × Int) a w=>Ok u m0 (S) w ∧ Env 18 a [(0,vs s_0),(3,vi s.1),(4,vi s.2)] ∧ InR .i64 s.1 ∧ InR .i64 s.2) (fun (b:Int) e a w=>e = (.exit 0) ∧ Ok u m0 (S) w ∧ Env 18 a [(3,vi b)] ∧ InR .i64 b) ?_ ?_ N _ a w hL ⟨ok,E.keep [0,3,4],(ir 1),(ir 0)⟩
 rotate_left
 ·intro e a w _ hO
  obtain ⟨rfl,ok,E,r14⟩:=hO
  refine qaz<|qaa<|sg<|mv E rfl fun a E=>aw E rfl fun a E=>wp_ret ?_
  exact fin hF ⟨ok,E.d,rz E rfl,r14⟩
 rintro ⟨v6,v7⟩ a w r ⟨ok,E,r8,r9⟩ hF
 replace hF:qcf N s_0 v6 v7 = some r:=hF
 unfold qcf at hF
 refine wp_seq<|sg<|mz E rfl rfl fun a E=>lw E (qaA Tryz.underlying9 rfl) fun a E=>lw E (qat rfl rfl) fun a E=>wn<|cg E rfl hF (fun c10 hF=>?_) fun c10 hF=>?_
 ·refine wp_exit<|qap ?_
  cases hF
  exact so (⟨rfl,⟨ok,E.keep [3],r8⟩⟩)
 refine wp_skip<|qaa<|wp_seq<|wp_block<|sg<|mz E rfl rfl fun a E=>bd hF fun c11 e12 hF=>lv E ok (qaQ Tryz.underlying9 rfl rfl e12) fun a E=>lw E (qa0 rfl rfl) fun a E=>wn<|cg E rfl hF (fun c13 hF=>?_) fun c13 hF=>?_
 ·refine wp_skip<|qaf<|qaa<|qab<|mv E rfl fun a E=>lw E (qar rfl rfl (InR.inc r9 (InR.len ls_0) c10)) fun a E=>av E rfl fun a E=>wpList_nil ?_
  cases hF
  exact qan ⟨ok,E.keep [0,3,4],r8,(InR.inc r9 (InR.len ls_0) c10)⟩
 refine qab<|mv E rfl fun a E=>lw E (qav rfl rfl) fun a E=>av E rfl fun a E=>wpList_nil<|qaf<|qaa<|qab<|mv E rfl fun a E=>lw E (qar rfl rfl (InR.inc r9 (InR.len ls_0) c10)) fun a E=>av E rfl fun a E=>wpList_nil ?_
 cases hF
 exact qan ⟨ok,E.keep [0,3,4],(InR.wrap _ _),(InR.inc r9 (InR.len ls_0) c10)⟩
def qhr (u:World) (m0:Mem) (S:Segs) (r:Bool) (a:Act) (w:World):Prop :=
 Ok u m0 S w ∧ a.defers = [] ∧ RVs Tryz.prog a w [.t 4 (.bool r)]
theorem qjZ (N:Nat) (va_0:Value) (a_0:List (Int)) (ha_0:(pL 1 (pI .i64)) m0 [va_0] a_0) (vb_1:Value) (b_1:List (Int)) (hb_1:(pL 1 (pI .i64)) m0 [vb_1] b_1) {r:Bool} (hF:qdH N a_0 b_1 = some r) (hG:Glob u) (ok:Ok u m0 S w) :
  Calls Tryz.prog 25 [va_0,vb_1].toArray w fun e w'=>(e = .returned (.bool r) ∧ Ok u m0 S w'):=by
 unfold qdH at hF
 refine en (qhr u m0 S) r Tryz.func25 rfl rfl rfl (fun _ _ h=>ra h rfl) fun fin a E=>sg<|aw E rfl fun a E=>wp_seq<|sg<|mv E rfl fun a E=>lv E ok (qau qg8 ha_0 rfl) fun a E=>mv E rfl fun a E=>lv E ok (qau qg8 hb_1 rfl) fun a E=>lw E (qcn rfl rfl) fun a E=>wn<|cf E rfl hF (fun c1 hF=>?_) fun c1 hF=>?_
 ·refine sg<|aw E rfl fun a E=>wp_ret<|qae ?_
  exact fin hF ⟨ok,E.d,rz E rfl⟩
 refine wp_skip<|qaa<|wp_seq<|sg<|aw E rfl fun a E=>wp_block<|bd hF fun o3 hL hF=>qax _ (fun (s:Int) a w=>Ok u m0 (S) w ∧ Env 26 a [(0,va_0),(1,vb_1),(5,vi s)] ∧ InR .i64 s) (fun (b:(Unit ⊕ Bool)) e a w=>(Sum.elim (fun b29=>e = (.exit 0) ∧ Ok u m0 (S) w ∧ Env 26 a []) (fun b30=>e = .ret ∧ qhr u m0 S b30 a w)) b) ?_ ?_ N _ a w hL ⟨ok,E.keep [0,1,5],(ir 0)⟩
 rotate_left
 ·intro e a w _ hO
  rcases o3 with o3 | o3
  rotate_left
  ·obtain ⟨rfl,hret⟩:=hO
   refine qag<|qae ?_
   exact fin hF hret
  have hF:=qaX hF
  obtain ⟨rfl,ok,E⟩:=hO
  refine qaz<|qaa<|sg<|aw E rfl fun a E=>wp_ret ?_
  exact fin hF ⟨ok,E.d,rz E rfl⟩
 rintro v5 a w r ⟨ok,E,r6⟩ hF
 replace hF:qca N a_0 b_1 v5 = some r:=hF
 unfold qca at hF
 refine wp_seq<|sg<|mz E rfl rfl fun a E=>lv E ok (qau qg8 ha_0 rfl) fun a E=>lw E (qat rfl rfl) fun a E=>wn<|cg E rfl hF (fun c7 hF=>?_) fun c7 hF=>?_
 ·refine wp_exit<|qap ?_
  cases hF
  exact so (sl ⟨rfl,⟨ok,E.keep []⟩⟩)
 refine wp_skip<|qaa<|wp_seq<|wp_block<|wp_seq<|qaY (by kernel_rfl) (by kernel_rfl) ok<|qv E (qad rfl) fun a E=>qv E (qad rfl) fun a E=>?_
 obtain ⟨x8,e9,hF⟩:=bnd hF
 obtain ⟨b10,o11,es12,hl13,rr14,at15,yy16⟩:=ia E 17 18 qg8 ha_0 e9
 obtain ⟨rfl,r17⟩:=rr14
 refine qv E (yy16 _ _) fun a E=>qv E (qah qaJ rfl (qac.ro at15)) fun a E=>qv E (qad rfl) fun a E=>qv E (qad rfl) fun a E=>?_
 obtain ⟨x18,e19,hF⟩:=bnd hF
 obtain ⟨b20,o21,es22,hl23,rr24,at25,yy26⟩:=ia E 21 22 qg8 hb_1 e19
 obtain ⟨rfl,r27⟩:=rr24
 refine qv E (yy26 _ _) fun a E=>qv E (qah qaJ rfl (qac.ro at25)) fun a E=>qv E (qcn rfl rfl) fun a E=>wpQuiet_nil ?_
 intro w ok
 refine qaa<|cg E rfl hF (fun c28 hF=>?_) fun c28 hF=>?_
 ·refine wp_skip<|qaf<|qaa<|qab<|mv E rfl fun a E=>lw E (qar rfl rfl (InR.inc r6 (qaj ha_0) c7)) fun a E=>av E rfl fun a E=>wpList_nil ?_
  cases hF
  exact qan ⟨ok,E.keep [0,1,5],(InR.inc r6 (qaj ha_0) c7)⟩
 refine sg<|aw E rfl fun a E=>wp_ret<|qag<|qae ?_
 cases hF
 exact so (sr ⟨rfl,⟨ok,E.d,rz E rfl⟩⟩)
def qmk (u:World) (m0:Mem) (S:Segs) (r:Bool) (a:Act) (w:World):Prop :=
 Ok u m0 S w ∧ a.defers = [] ∧ RVs Tryz.prog a w [.t 2 (.bool r)]
theorem qml (N:Nat) (vs_0:Value) (s_0:List (State)) (hs_0:(pL 2 qbA) m0 [vs_0] s_0) {r:Bool} (hF:qfs N s_0 = some r) (hG:Glob u) (ok:Ok u m0 S w) :
  Calls Tryz.prog 32 [vs_0].toArray w fun e w'=>(e = .returned (.bool r) ∧ Ok u m0 S w'):=by
 unfold qfs at hF
 refine en (qmk u m0 S) r Tryz.func32 rfl rfl rfl (fun _ _ h=>ra h rfl) fun fin a E=>sg<|aw E rfl fun a E=>sg<|aw E rfl fun a E=>wp_seq<|sg<|av E rfl fun a E=>wn<|wp_block<|bd hF fun o3 hL hF=>qax _ (fun (s:Int × Int) a w=>Ok u m0 (S) w ∧ Env 83 a [(0,vs_0),(3,vi s.1),(4,vi s.2)] ∧ InR .i64 s.1 ∧ InR .i64 s.2) (fun (b:Int) e a w=>e = (.exit 0) ∧ Ok u m0 (S) w ∧ Env 83 a [(3,vi b)] ∧ InR .i64 b) ?_ ?_ N _ a w hL ⟨ok,E.keep [0,3,4],(ir 0),(ir 0)⟩
 rotate_left
 ·intro e a w _ hO
  obtain ⟨rfl,ok,E,r113⟩:=hO
  refine qaz<|qaa<|sg<|mv E rfl fun a E=>lw E (qb2 rfl rfl) fun a E=>av E rfl fun a E=>wn<|wp_ret ?_
  exact fin hF ⟨ok,E.d,rz E rfl⟩
 rintro ⟨v6,v7⟩ a w r ⟨ok,E,r8,r9⟩ hF
 replace hF:qdk N s_0 v6 v7 = some r:=hF
 unfold qdk at hF
 refine wp_seq<|sg<|mz E rfl rfl fun a E=>lv E ok (qau qbu hs_0 rfl) fun a E=>lw E (qat rfl rfl) fun a E=>wn<|cg E rfl hF (fun c10 hF=>?_) fun c10 hF=>?_
 ·refine wp_exit<|qap ?_
  cases hF
  exact so (⟨rfl,⟨ok,E.keep [3],r8⟩⟩)
 refine wp_skip<|qaa<|wp_seq<|wp_block<|wp_seq<|sg<|av E rfl fun a E=>wn<|wp_block<|bd hF fun o13 hL hF=>qax _ (fun (s:Int × Int) a w=>Ok u m0 (S) w ∧ Env 83 a [(0,vs_0),(3,vi s.1),(4,vi v7),(5,vi s.2)] ∧ InR .i64 s.1 ∧ InR .i64 s.2) (fun (b:Int) e a w=>e = (.exit 2) ∧ Ok u m0 (S) w ∧ Env 83 a [(0,vs_0),(3,vi b),(4,vi v7)] ∧ InR .i64 b) ?_ ?_ N _ a w hL ⟨ok,E.keep [0,3,4,5],r8,(ir 0)⟩
 rotate_left
 ·intro e a w _ hO
  obtain ⟨rfl,ok,E,r99⟩:=hO
  refine qaz<|qaa<|qab<|mz E rfl rfl fun a E=>mv E rfl fun a E=>?_
  obtain ⟨x100,e101,hF⟩:=bnd hF
  obtain ⟨b102,o103,es104,hl105,rr106,at107,yy108⟩:=ia E 72 73 qbu hs_0 e101
  obtain ⟨c110,rfl,l109,h111⟩:=rr106
  refine lv E ok (yy108 _ _) fun a E=>fv E qim rfl fun a E=>lv E ok (qah qal rfl (qac.ro (At.sub 0 1 at107))) fun a E=>lw E (qaA Tryz.underlying9 rfl) fun a E=>lv E ok (qmf rfl rfl (by decide)) fun a E=>lw E (qav rfl rfl) fun a E=>lw E (qav rfl rfl) fun a E=>av E rfl fun a E=>wpList_nil<|qaf<|qaa<|qab<|mv E rfl fun a E=>lw E (qar rfl rfl (InR.inc r9 (qaj hs_0) c10)) fun a E=>av E rfl fun a E=>wpList_nil ?_
  cases hF
  exact qan ⟨ok,E.keep [0,3,4],(InR.wrap _ _),(InR.inc r9 (qaj hs_0) c10)⟩
 rintro ⟨v16,v17⟩ a w r ⟨ok,E,r18,r19⟩ hF
 replace hF:qdh N s_0 v7 v16 v17 = some r:=hF
 unfold qdh at hF
 refine wp_seq<|sg<|mz E rfl rfl fun a E=>mv E rfl fun a E=>?_
 obtain ⟨x20,e21,hF⟩:=bnd hF
 obtain ⟨b22,o23,es24,hl25,rr26,at27,yy28⟩:=ia E 15 16 qbu hs_0 e21
 obtain ⟨c30,rfl,l29,h31⟩:=rr26
 refine lv E ok (yy28 _ _) fun a E=>fv E qcx rfl fun a E=>lv E ok (qah qd6 rfl (qac.ro (At.sub 1 1 at27))) fun a E=>lv E ok (qau qdZ h31 rfl) fun a E=>lw E (qat rfl rfl) fun a E=>wn<|cg E rfl hF (fun c32 hF=>?_) fun c32 hF=>?_
 ·refine wp_exit<|qap ?_
  cases hF
  exact so (⟨rfl,⟨ok,E.keep [0,3,4],r18⟩⟩)
 refine wp_skip<|qaa<|wp_seq<|wp_block<|sg<|mz E rfl rfl fun a E=>?_
 obtain ⟨x33,e34,hF⟩:=bnd hF
 obtain ⟨b35,o36,es37,hl38,rr39,at40,yy41⟩:=ia E 24 25 qbu hs_0 e34
 obtain ⟨c43,rfl,l42,h44⟩:=rr39
 refine lv E ok (yy41 _ _) fun a E=>fv E qcx rfl fun a E=>lv E ok (qah qd6 rfl (qac.ro (At.sub 1 1 at40))) fun a E=>mv E rfl fun a E=>?_
 obtain ⟨x45,e46,hF⟩:=bnd hF
 obtain ⟨b47,o48,es49,hl50,rr51,at52,yy53⟩:=ia E 28 29 qdZ h44 e46
 obtain ⟨c55,rfl,l54,h56,l57⟩:=rr51
 refine lv E ok (yy53 _ _) fun a E=>lv E ok (qam (cs:=[vs x45.Kind,c55,vs x45.Next]) qdt rfl rfl (qac.ro at52)) fun a E=>qaM E ok qde rfl rfl fun b58 a w E ok=>qai E ok 0 rfl rfl rfl qgu rfl rfl ⟨rfl,(qbi h56),rfl,trivial⟩ rfl rfl fun w ok=>wn<|sg<|mv E rfl fun a E=>fk E ok qju qal rfl 0 rfl rfl fun a E=>lw E (qaA Tryz.underlying9 rfl) fun a E=>lv E ok (qmf rfl rfl (by decide)) fun a E=>lw E (qav rfl rfl) fun a E=>fk E ok qfK qal rfl 0 rfl rfl fun a E=>lw E (qaA Tryz.underlying9 rfl) fun a E=>lv E ok (qmf rfl rfl (by decide)) fun a E=>lw E (qav rfl rfl) fun a E=>lw E (qav rfl rfl) fun a E=>aw E rfl fun a E=>sg<|aw E rfl fun a E=>wp_block<|bd hF fun o61 hL hF=>qax _ (fun (s:Int × Int) a w=>Ok u m0 ([(b58,oc 114 [vs x45.Kind,c55,vs x45.Next])] :: S) w ∧ Env 83 a [(0,vs_0),(3,vi s.1),(4,vi v7),(5,vi v17),(6,vp b58),(7,vi s.2)] ∧ InR .i64 s.1 ∧ InR .i64 s.2) (fun (b:Int) e a w=>e = (.exit 4) ∧ Ok u m0 ([(b58,oc 114 [vs x45.Kind,c55,vs x45.Next])] :: S) w ∧ Env 83 a [(0,vs_0),(3,vi b),(4,vi v7),(5,vi v17)] ∧ InR .i64 b) ?_ ?_ N _ a w hL ⟨ok,E.keep [0,3,4,5,6,7],(InR.wrap _ _),(ir 0)⟩
 rotate_left
 ·intro e a w _ hO
  obtain ⟨rfl,ok,E,r97⟩:=hO
  refine qaz<|qaf<|qaa<|qab<|mv E rfl fun a E=>lw E (qar rfl rfl (InR.inc r19 (qaj h31) c32)) fun a E=>av E rfl fun a E=>wpList_nil ?_
  cases hF
  exact qan ⟨(ok.pk 1 [] rfl (by decide)),E.keep [0,3,4,5],r97,(InR.inc r19 (qaj h31) c32)⟩
 rintro ⟨v64,v65⟩ a w r ⟨ok,E,r66,r67⟩ hF
 replace hF:qdl N x45 v64 v65 = some r:=hF
 unfold qdl at hF
 refine wp_seq<|sg<|mv E rfl fun a E=>fk E ok qcv qea rfl 0 rfl rfl fun a E=>lv E ok (qau qcm h56 rfl) fun a E=>lw E (qat rfl rfl) fun a E=>wn<|cg E rfl hF (fun c68 hF=>?_) fun c68 hF=>?_
 ·refine wp_exit<|qap ?_
  cases hF
  exact so (⟨rfl,⟨ok,E.keep [0,3,4,5],r66⟩⟩)
 refine wp_skip<|qaa<|wp_seq<|wp_block<|qaY (by kernel_rfl) (by kernel_rfl) ok<|qv E (qad rfl) fun a E=>qv E (qak qcv rfl) fun a E=>qv E (qah qea rfl (qac.own 0 rfl rfl)) fun a E=>qv E (qad rfl) fun a E=>?_
 obtain ⟨x69,e70,hF⟩:=bnd hF
 obtain ⟨b71,o72,es73,hl74,rr75,at76,yy77⟩:=ia E 53 54 qcm h56 e70
 obtain ⟨c79,rfl,l78,h80,r81,r82⟩:=rr75
 refine qv E (yy77 _ _) fun a E=>qv E (qak qa8 rfl) fun a E=>qv E (qah qbB rfl (qac.ro (At.sub 1 1 at76))) fun a E=>qv E (qau qbx h80 rfl) fun a E=>qv E (qmf rfl rfl (by decide)) fun a E=>qv E (qav rfl rfl) fun a E=>qv E (qak qcv rfl) fun a E=>qv E (qah qea rfl (qac.own 0 rfl rfl)) fun a E=>qv E (qad rfl) fun a E=>?_
 obtain ⟨x83,e84,hF⟩:=bnd hF
 obtain ⟨b85,o86,es87,hl88,rr89,at90,yy91⟩:=ia E 62 63 qcm h56 e84
 obtain ⟨c93,rfl,l92,h94,r95,r96⟩:=rr89
 refine qv E (yy91 _ _) fun a E=>qv E (qak qbE rfl) fun a E=>qv E (qah qal rfl (qac.ro (At.sub 0 1 at90))) fun a E=>qv E (qaA Tryz.underlying9 rfl) fun a E=>qv E (qmf rfl rfl (by decide)) fun a E=>qv E (qav rfl rfl) fun a E=>qv E (qav rfl rfl) fun a E=>qv E (qaq rfl) fun a E=>wpQuiet_nil ?_
 intro w ok
 refine qaf<|qaa<|qab<|mv E rfl fun a E=>lw E (qar rfl rfl (InR.inc r67 (qaj h56) c68)) fun a E=>av E rfl fun a E=>wpList_nil ?_
 cases hF
 exact qan ⟨ok,E.keep [0,3,4,5,6,7],(InR.wrap _ _),(InR.inc r67 (qaj h56) c68)⟩
def qlc (u:World) (m0:Mem) (S:Segs) (r:Int) (a:Act) (w:World):Prop :=
 Ok u m0 S w ∧ a.defers = [] ∧ RVs Tryz.prog a w [.t 2 (.int .i64 r)] ∧ InR .i64 r
theorem qc6 (N:Nat) (c_0:Int) (rc_0:InR .u8 c_0) {r:Int} (hF:qdP N c_0 = some r) (hG:Glob u) (ok:Ok u m0 S w) :
  Calls Tryz.prog 131 [Value.int .u8 c_0].toArray w fun e w'=>(e = .returned (.int .i64 r) ∧ Ok u m0 S w') ∧ InR .i64 r:=by
 unfold qdP at hF
 refine en (qlc u m0 S) r Tryz.func131 rfl rfl rfl (fun _ _ h=>rb h rfl) fun fin a E=>sg<|aw E rfl fun a E=>wp_seq<|wp_block<|sg<|mv E rfl fun a E=>lw E (qa2 rfl rfl) fun a E=>mv E rfl fun a E=>bw E 6 hF (fun c1 hF E=>?_) fun c1 hF E=>?_
 ·refine lsq E fun a E=>pf E rfl rfl fun a E=>aw E rfl fun a E=>c_if E rfl (fun h=>by cases h) (fun _=>?_)
  refine sg<|mv E rfl fun a E=>lw E (qa2 rfl rfl) fun a E=>mv E rfl fun a E=>bw E 16 hF (fun c5 hF E=>?_) fun c5 hF E=>?_
  ·refine lsq E fun a E=>pf E rfl rfl fun a E=>aw E rfl fun a E=>c_if E rfl (fun h=>by cases h) (fun _=>?_)
   refine wp_skip<|qaf<|qaa<|sg<|aw E rfl fun a E=>wp_ret ?_
   exact fin hF ⟨ok,E.d,rz E rfl,(ir (-1))⟩
  refine mv E rfl fun a E=>lw E (qb2 rfl rfl) fun a E=>pt E rfl rfl fun a E=>aw E rfl fun a E=>cg E rfl hF (fun c6 hF=>?_) fun c6 hF=>?_
  ·refine wp_skip<|qaf<|qaa<|sg<|aw E rfl fun a E=>wp_ret ?_
   exact fin hF ⟨ok,E.d,rz E rfl,(ir (-1))⟩
  refine sg<|mv E rfl fun a E=>lw E (qbo rfl rfl) fun a E=>lw E (ql8 Tryz.underlying5 Tryz.underlying3 rfl (InR.wrap _ _) (by decide)) fun a E=>lw E (qav rfl rfl) fun a E=>av E rfl fun a E=>wn<|wp_ret<|qag<|qae ?_
  exact fin hF ⟨ok,E.d,rz E rfl,(InR.wrap _ _)⟩
 refine mv E rfl fun a E=>lw E (qb2 rfl rfl) fun a E=>pt E rfl rfl fun a E=>aw E rfl fun a E=>cf E rfl hF (fun c2 hF=>?_) fun c2 hF=>?_
 ·refine sg<|mv E rfl fun a E=>lw E (qbo rfl rfl) fun a E=>lw E (ql8 Tryz.underlying5 Tryz.underlying3 rfl (InR.wrap _ _) (by decide)) fun a E=>aw E rfl fun a E=>wp_ret<|qag<|qae ?_
  exact fin hF ⟨ok,E.d,rz E rfl,(InR.widen (InR.wrap _ _) (by decide))⟩
 refine sg<|mv E rfl fun a E=>lw E (qa2 rfl rfl) fun a E=>mv E rfl fun a E=>bw E 16 hF (fun c3 hF E=>?_) fun c3 hF E=>?_
 ·refine lsq E fun a E=>pf E rfl rfl fun a E=>aw E rfl fun a E=>c_if E rfl (fun h=>by cases h) (fun _=>?_)
  refine wp_skip<|qaf<|qaa<|sg<|aw E rfl fun a E=>wp_ret ?_
  exact fin hF ⟨ok,E.d,rz E rfl,(ir (-1))⟩
 refine mv E rfl fun a E=>lw E (qb2 rfl rfl) fun a E=>pt E rfl rfl fun a E=>aw E rfl fun a E=>cg E rfl hF (fun c4 hF=>?_) fun c4 hF=>?_
 ·refine wp_skip<|qaf<|qaa<|sg<|aw E rfl fun a E=>wp_ret ?_
  exact fin hF ⟨ok,E.d,rz E rfl,(ir (-1))⟩
 refine sg<|mv E rfl fun a E=>lw E (qbo rfl rfl) fun a E=>lw E (ql8 Tryz.underlying5 Tryz.underlying3 rfl (InR.wrap _ _) (by decide)) fun a E=>lw E (qav rfl rfl) fun a E=>av E rfl fun a E=>wn<|wp_ret<|qag<|qae ?_
 exact fin hF ⟨ok,E.d,rz E rfl,(InR.wrap _ _)⟩
def qjX (u:World) (m0:Mem) (S:Segs) (r:Int × Int) (a:Act) (w:World):Prop :=
 Ok u m0 S w ∧ a.defers = [] ∧ RVs Tryz.prog a w [.t 4 (.int .u8 r.1),.t 5 (.int .i64 r.2)] ∧ InR .u8 r.1 ∧ InR .i64 r.2
theorem qc9 (N:Nat) (s_0:List UInt8) (ls_0:s_0.length ≤ LIMS) (at_1:Int) (rat_1:InR .i64 at_1) {r:Int × Int} (hF:qcc N s_0 at_1 = some r) (hG:Glob u) (ok:Ok u m0 S w) :
  Calls Tryz.prog 109 [vs s_0,vi at_1].toArray w fun e w'=>(e = .returned (.tuple [(.int .u8 r.1),(.int .i64 r.2)].toArray) ∧ Ok u m0 S w') ∧ InR .u8 r.1 ∧ InR .i64 r.2:=by
 unfold qcc at hF
 refine en (qjX u m0 S) r Tryz.func109 rfl rfl rfl (by rintro a w ⟨ok,hd,hrv,h0,h1⟩; exact qbs [.t 4 (.int .u8 r.1),.t 5 (.int .i64 r.2)] hd rfl hrv ⟨⟨rfl,ok⟩,h0,h1⟩) fun fin a E=>sg<|av E rfl fun a E=>aw E rfl fun a E=>wp_seq<|wp_block<|sg<|mz E rfl rfl fun a E=>lw E (qaA Tryz.underlying9 rfl) fun a E=>lw E (qa2 rfl rfl) fun a E=>av E rfl fun a E=>wn<|cf E rfl hF (fun c1 hF=>?_) fun c1 hF=>?_
 ·refine sg<|av E rfl fun a E=>aw E rfl fun a E=>wp_ret<|qag<|qae ?_
  exact fin hF ⟨ok,E.d,⟨rv_t E rfl,rv_t E rfl,trivial⟩,(show InR .u8 (0) by decide),(ir (-1))⟩
 refine sg<|mz E rfl rfl fun a E=>bd hF fun c2 e3 hF=>lv E ok (qaQ Tryz.underlying9 rfl rfl e3) fun a E=>lw E (qcn rfl rfl) fun a E=>aw E rfl fun a E=>cf E rfl hF (fun c4 hF=>?_) fun c4 hF=>?_
 ·refine sg<|mz E rfl rfl fun a E=>bd hF fun c5 e6 hF=>lv E ok (qaQ Tryz.underlying9 rfl rfl e6) fun a E=>mv E rfl fun a E=>lw E (qav rfl rfl) fun a E=>av E rfl fun a E=>aw E rfl fun a E=>wp_ret<|qag<|qae ?_
  exact fin hF ⟨ok,E.d,⟨rv_t E rfl,rv_t E rfl,trivial⟩,(InR.byte c5),(InR.wrap _ _)⟩
 refine sg<|mv E rfl fun a E=>lw E (qav rfl rfl) fun a E=>mv E rfl fun a E=>lw E (qaA Tryz.underlying9 rfl) fun a E=>lw E (qat rfl rfl) fun a E=>mv E rfl fun a E=>bw E 27 hF (fun c7 hF E=>?_) fun c7 hF E=>?_
 ·refine lsz E fun a E=>ls E fun a E=>pf E rfl rfl fun a E=>mv E rfl fun a E=>lsz E fun a E=>lsq E fun a E=>pf E rfl rfl fun a E=>mv E rfl fun a E=>lsz E fun a E=>lsq E fun a E=>pf E rfl rfl fun a E=>av E rfl fun a E=>wn<|c_if E rfl (fun h=>by cases h) (fun _=>?_)
  refine sg<|mv E rfl fun a E=>lw E (qav rfl rfl) fun a E=>mv E rfl fun a E=>lw E (qaA Tryz.underlying9 rfl) fun a E=>lw E (qat rfl rfl) fun a E=>av E rfl fun a E=>wn<|cg E rfl hF (fun c42 hF=>?_) fun c42 hF=>?_
  ·refine wp_skip<|qaf<|qaa<|sg<|av E rfl fun a E=>av E rfl fun a E=>wn<|wp_ret ?_
   exact fin hF ⟨ok,E.d,⟨rv_t E rfl,rv_t E rfl,trivial⟩,(show InR .u8 (0) by decide),(ir (-1))⟩
  refine sg<|mz E rfl rfl fun a E=>lw E (qav rfl rfl) fun a E=>bd hF fun c43 e44 hF=>lv E ok (qaQ Tryz.underlying9 rfl rfl e44) fun a E=>mv E rfl fun a E=>lw E (qav rfl rfl) fun a E=>av E rfl fun a E=>aw E rfl fun a E=>wp_ret<|qag<|qae ?_
  exact fin hF ⟨ok,E.d,⟨rv_t E rfl,rv_t E rfl,trivial⟩,(InR.byte c43),(InR.wrap _ _)⟩
 refine mz E rfl rfl fun a E=>lw E (qav rfl rfl) fun a E=>bd hF fun c8 e9 hF=>lv E ok (qaQ Tryz.underlying9 rfl rfl e9) fun a E=>lw E (qa0 rfl rfl) fun a E=>pt E rfl rfl fun a E=>mv E rfl fun a E=>bw E 34 hF (fun c10 hF E=>?_) fun c10 hF E=>?_
 ·refine lsz E fun a E=>lsq E fun a E=>pf E rfl rfl fun a E=>mv E rfl fun a E=>lsz E fun a E=>lsq E fun a E=>pf E rfl rfl fun a E=>av E rfl fun a E=>wn<|c_if E rfl (fun h=>by cases h) (fun _=>?_)
  refine sg<|mv E rfl fun a E=>lw E (qav rfl rfl) fun a E=>mv E rfl fun a E=>lw E (qaA Tryz.underlying9 rfl) fun a E=>lw E (qat rfl rfl) fun a E=>av E rfl fun a E=>wn<|cg E rfl hF (fun c39 hF=>?_) fun c39 hF=>?_
  ·refine wp_skip<|qaf<|qaa<|sg<|av E rfl fun a E=>av E rfl fun a E=>wn<|wp_ret ?_
   exact fin hF ⟨ok,E.d,⟨rv_t E rfl,rv_t E rfl,trivial⟩,(show InR .u8 (0) by decide),(ir (-1))⟩
  refine sg<|mz E rfl rfl fun a E=>lw E (qav rfl rfl) fun a E=>bd hF fun c40 e41 hF=>lv E ok (qaQ Tryz.underlying9 rfl rfl e41) fun a E=>mv E rfl fun a E=>lw E (qav rfl rfl) fun a E=>av E rfl fun a E=>aw E rfl fun a E=>wp_ret<|qag<|qae ?_
  exact fin hF ⟨ok,E.d,⟨rv_t E rfl,rv_t E rfl,trivial⟩,(InR.byte c40),(InR.wrap _ _)⟩
 refine mz E rfl rfl fun a E=>lw E (qav rfl rfl) fun a E=>bd hF fun c11 e12 hF=>lv E ok (qaQ Tryz.underlying9 rfl rfl e12) fun a E=>bd hF fun r13 e14 hF=>qas E qnx rfl (qc6 N (c11.toNat:Int) (InR.byte c11) e14 hG ok) rfl rfl ?_
 rintro _ w ⟨⟨rfl,ok⟩,r15⟩
 refine ⟨_,rfl,fun a E=>?_⟩
 refine lw E (qa2 rfl rfl) fun a E=>pt E rfl rfl fun a E=>mv E rfl fun a E=>bw E 42 hF (fun c16 hF E=>?_) fun c16 hF E=>?_
 ·refine lsz E fun a E=>lsq E fun a E=>pf E rfl rfl fun a E=>av E rfl fun a E=>wn<|c_if E rfl (fun h=>by cases h) (fun _=>?_)
  refine sg<|mv E rfl fun a E=>lw E (qav rfl rfl) fun a E=>mv E rfl fun a E=>lw E (qaA Tryz.underlying9 rfl) fun a E=>lw E (qat rfl rfl) fun a E=>av E rfl fun a E=>wn<|cg E rfl hF (fun c36 hF=>?_) fun c36 hF=>?_
  ·refine wp_skip<|qaf<|qaa<|sg<|av E rfl fun a E=>av E rfl fun a E=>wn<|wp_ret ?_
   exact fin hF ⟨ok,E.d,⟨rv_t E rfl,rv_t E rfl,trivial⟩,(show InR .u8 (0) by decide),(ir (-1))⟩
  refine sg<|mz E rfl rfl fun a E=>lw E (qav rfl rfl) fun a E=>bd hF fun c37 e38 hF=>lv E ok (qaQ Tryz.underlying9 rfl rfl e38) fun a E=>mv E rfl fun a E=>lw E (qav rfl rfl) fun a E=>av E rfl fun a E=>aw E rfl fun a E=>wp_ret<|qag<|qae ?_
  exact fin hF ⟨ok,E.d,⟨rv_t E rfl,rv_t E rfl,trivial⟩,(InR.byte c37),(InR.wrap _ _)⟩
 refine mz E rfl rfl fun a E=>lw E (qav rfl rfl) fun a E=>bd hF fun c17 e18 hF=>lv E ok (qaQ Tryz.underlying9 rfl rfl e18) fun a E=>bd hF fun r19 e20 hF=>qas E qnx rfl (qc6 N (c17.toNat:Int) (InR.byte c17) e20 hG ok) rfl rfl ?_
 rintro _ w ⟨⟨rfl,ok⟩,r21⟩
 refine ⟨_,rfl,fun a E=>?_⟩
 refine lw E (qa2 rfl rfl) fun a E=>pt E rfl rfl fun a E=>aw E rfl fun a E=>cf E rfl hF (fun c22 hF=>?_) fun c22 hF=>?_
 ·refine wp_seq<|qaY (by kernel_rfl) (by kernel_rfl) ok<|qv E (qad rfl) fun a E=>qv E (qad rfl) fun a E=>qv E (qav rfl rfl) fun a E=>bd hF fun c23 e24 hF=>qv E (qaQ Tryz.underlying9 rfl rfl e24) fun a E=>?_
  obtain ⟨r25,e26,hF⟩:=bnd hF
  obtain ⟨_,_,⟨_,_⟩,r27⟩:=Go.X.Calls.get (qc6 N (c23.toNat:Int) (InR.byte c23) e26 hG ok)
  refine qfZ E qnx rfl (fun w ok=>(qc6 N (c23.toNat:Int) (InR.byte c23) e26 hG ok).mono (fun _ _ h=>h.1)) rfl rfl fun a E=>qv E (qu3 rfl rfl) fun a E=>qv E (qad rfl) fun a E=>qv E (qad rfl) fun a E=>qv E (qav rfl rfl) fun a E=>bd hF fun c28 e29 hF=>qv E (qaQ Tryz.underlying9 rfl rfl e29) fun a E=>?_
  obtain ⟨r30,e31,hF⟩:=bnd hF
  obtain ⟨_,_,⟨_,_⟩,r32⟩:=Go.X.Calls.get (qc6 N (c28.toNat:Int) (InR.byte c28) e31 hG ok)
  refine qfZ E qnx rfl (fun w ok=>(qc6 N (c28.toNat:Int) (InR.byte c28) e31 hG ok).mono (fun _ _ h=>h.1)) rfl rfl fun a E=>qv E (qav rfl rfl) fun a E=>qv E (qlR Tryz.underlying3 Tryz.underlying5 rfl) fun a E=>qv E (qad rfl) fun a E=>qv E (qav rfl rfl) fun a E=>qv E (qaq rfl) fun a E=>qv E (qaq rfl) fun a E=>wpQuiet_nil ?_
  intro w ok
  refine qaa<|wp_ret<|qag<|qae ?_
  exact fin hF ⟨ok,E.d,⟨rv_t E rfl,rv_t E rfl,trivial⟩,(InR.wrap _ _),(InR.wrap _ _)⟩
 refine sg<|mv E rfl fun a E=>lw E (qav rfl rfl) fun a E=>mv E rfl fun a E=>lw E (qaA Tryz.underlying9 rfl) fun a E=>lw E (qat rfl rfl) fun a E=>av E rfl fun a E=>wn<|cg E rfl hF (fun c33 hF=>?_) fun c33 hF=>?_
 ·refine wp_skip<|qaf<|qaa<|sg<|av E rfl fun a E=>av E rfl fun a E=>wn<|wp_ret ?_
  exact fin hF ⟨ok,E.d,⟨rv_t E rfl,rv_t E rfl,trivial⟩,(show InR .u8 (0) by decide),(ir (-1))⟩
 refine sg<|mz E rfl rfl fun a E=>lw E (qav rfl rfl) fun a E=>bd hF fun c34 e35 hF=>lv E ok (qaQ Tryz.underlying9 rfl rfl e35) fun a E=>mv E rfl fun a E=>lw E (qav rfl rfl) fun a E=>av E rfl fun a E=>aw E rfl fun a E=>wp_ret<|qag<|qae ?_
 exact fin hF ⟨ok,E.d,⟨rv_t E rfl,rv_t E rfl,trivial⟩,(InR.byte c34),(InR.wrap _ _)⟩
def qj0 (u:World) (m0:Mem) (S:Segs) (r:Item × Int) (a:Act) (w:World):Prop :=
 ∃ m1 v0,m0.le m1 ∧ Ok u m1 S w ∧ a.defers = [] ∧ RVs Tryz.prog a w [.c 4 138 (.agg v0.toArray),.t 5 (.int .i64 r.2)] ∧ qbt m1 v0 r.1 ∧ InR .i64 r.2
theorem qj3 (N:Nat) (s_0:List UInt8) (ls_0:s_0.length ≤ LIMS) (at_1:Int) (rat_1:InR .i64 at_1) {r:Item × Int} (hF:qgi N s_0 at_1 = some r) (hG:Glob u) (ok:Ok u m0 S w) :
  Calls Tryz.prog 88 [vs s_0,vi at_1].toArray w fun e w'=>∃ m1 v0,e = .returned (.tuple [(.agg v0.toArray),(.int .i64 r.2)].toArray) ∧ m0.le m1 ∧ Ok u m1 S w' ∧ qbt m1 v0 r.1 ∧ InR .i64 r.2:=by
 have le_m0:=Mem.le.refl m0
 unfold qgi at hF
 refine en (qj0 u m0 S) r Tryz.func88 rfl rfl rfl (by rintro a w ⟨m1,v0,hle,ok,hd,hrv,h0,h1⟩; exact qbs [.c 4 138 (.agg v0.toArray),.t 5 (.int .i64 r.2)] hd rfl hrv ⟨m1,v0,rfl,hle,ok,h0,h1⟩) fun fin a E=>sg<|qaM E ok qbp rfl rfl fun b1 a w E ok=>aw E rfl fun a E=>sg<|aw E rfl fun a E=>sg<|mv E rfl fun a E=>lw E (qav rfl rfl) fun a E=>aw E rfl fun a E=>wp_seq<|wp_block ?_
 obtain ⟨M7,ok,h8⟩:=qck (e:=5) (k:=1) (R:=(pI .u8)) ok
 refine bd hF fun o9 hL hF=>qax _ (fun (s:Int × (List (Int))) a w=>∃ c11 M12,Ok u m0 (M12 :: [(b1,oc 138 [(vs ([])),(Value.slice none 0 0),vb false,vi 0,vi 0])] :: S) w ∧ Env 50 a [(0,vs s_0),(1,vi s.1),(4,vp b1),(6,c11)] ∧ InR .i64 s.1 ∧ ORow 5 1 (pI .u8) m0 c11 s.2 M12) (fun (b:(Int × (List (Int)))) e a w=>e = (.exit 0) ∧ ∃ c44 M45,Ok u m0 (M45 :: [(b1,oc 138 [(vs ([])),(Value.slice none 0 0),vb false,vi 0,vi 0])] :: S) w ∧ Env 50 a [(0,vs s_0),(1,vi b.1),(4,vp b1),(6,c44)] ∧ InR .i64 b.1 ∧ ORow 5 1 (pI .u8) m0 c44 b.2 M45) ?_ ?_ N _ a w hL ⟨(Value.slice none 0 0),M7,ok,E.keep [0,1,4,6],(InR.wrap _ _),h8⟩
 rotate_left
 ·intro e a w _ hO
  obtain ⟨rfl,c38,M39,ok,E,r37,h40⟩:=hO
  refine qaz<|qaa<|wp_seq<|sg<|mv E rfl fun a E=>lw E (qat rfl rfl) fun a E=>mv E rfl fun a E=>bu E 38 hF (fun c41 hF E=>?_) fun c41 hF E=>?_
  ·refine lsz E fun a E=>pt E rfl rfl fun a E=>wn<|c_if E rfl (fun _=>?_) (fun h=>by cases h)
   refine sg<|lw E (qaR (ps:=[]) (qs:=[]) (cs:=[(vs ([])),(Value.slice none 0 0),vb false,vi 0,vi 0]) qbp qcO rfl trivial rfl) fun a E=>qai E ok 1 rfl rfl rfl qbg rfl rfl ⟨rfl,rfl,rfl,rfl,rfl,trivial⟩ rfl rfl fun w ok=>aw E rfl fun a E=>wp_ret<|qae ?_
   exact fin hF ⟨m0,[(vs ([])),(Value.slice none 0 0),vb false,vi 0,vi 0],le_m0,ok.drop.drop,E.d,⟨rv_c (cs:=[(vs ([])),(Value.slice none 0 0),vb false,vi 0,vi 0]) E ok rfl qaU rfl (qac.own 1 rfl rfl),rv_t E rfl,trivial⟩,⟨_,rfl,(Nat.zero_le _),qa9,(ir 0),(ir 0)⟩,(ir (-1))⟩
  refine mz E rfl rfl fun a E=>lw E (qaA Tryz.underlying9 rfl) fun a E=>lw E (qa2 rfl rfl) fun a E=>pf E rfl rfl fun a E=>wn<|cf E rfl hF (fun c42 hF=>?_) fun c42 hF=>?_
  ·refine sg<|lw E (qaR (ps:=[]) (qs:=[]) (cs:=[(vs ([])),(Value.slice none 0 0),vb false,vi 0,vi 0]) qbp qcO rfl trivial rfl) fun a E=>qai E ok 1 rfl rfl rfl qbg rfl rfl ⟨rfl,rfl,rfl,rfl,rfl,trivial⟩ rfl rfl fun w ok=>aw E rfl fun a E=>wp_ret<|qae ?_
   exact fin hF ⟨m0,[(vs ([])),(Value.slice none 0 0),vb false,vi 0,vi 0],le_m0,ok.drop.drop,E.d,⟨rv_c (cs:=[(vs ([])),(Value.slice none 0 0),vb false,vi 0,vi 0]) E ok rfl qaU rfl (qac.own 1 rfl rfl),rv_t E rfl,trivial⟩,⟨_,rfl,(Nat.zero_le _),qa9,(ir 0),(ir 0)⟩,(ir (-1))⟩
  refine wp_skip<|qaa<|sg<|mv E rfl fun a E=>lv E ok (qjs Tryz.underlying86 Tryz.underlying5 Tryz.underlying9 rfl (BR.ofRow h40 0 rfl)) fun a E=>lw E (qaR (ps:=[(0,.tmp 46)]) (qs:=[(0,[(vs (bytesOf o9.2))])]) (cs:=[(vs (bytesOf o9.2)),(Value.slice none 0 0),vb false,vi 0,vi 0]) qbp qcO rfl ⟨rfl,rfl,rfl,trivial⟩ rfl) fun a E=>mv E rfl fun a E=>lw E (qav rfl rfl) fun a E=>qai E ok 1 rfl rfl rfl qbg rfl rfl ⟨rfl,rfl,rfl,rfl,rfl,trivial⟩ rfl rfl fun w ok=>aw E rfl fun a E=>wp_ret ?_
  exact fin hF ⟨m0,[(vs (bytesOf o9.2)),(Value.slice none 0 0),vb false,vi 0,vi 0],le_m0,ok.drop.drop,E.d,⟨rv_c (cs:=[(vs (bytesOf o9.2)),(Value.slice none 0 0),vb false,vi 0,vi 0]) E ok rfl qaU rfl (qac.own 1 rfl rfl),rv_t E rfl,trivial⟩,⟨_,rfl,(Nat.le_trans (Nat.le_of_eq qgv) h40.form.2),qa9,(ir 0),(ir 0)⟩,(InR.wrap _ _)⟩
 rintro ⟨v14,v15⟩ a w r ⟨c17,M18,ok,E,r16,h19⟩ hF
 replace hF:qfj N s_0 v14 v15 = some r:=hF
 unfold qfj at hF
 refine wp_seq<|sg<|mv E rfl fun a E=>lw E (qa2 rfl rfl) fun a E=>mv E rfl fun a E=>bw E 13 hF (fun c20 hF E=>?_) fun c20 hF E=>?_
 ·refine lsz E fun a E=>pf E rfl rfl fun a E=>mv E rfl fun a E=>lsz E fun a E=>pf E rfl rfl fun a E=>wn<|c_if E rfl (fun h=>by cases h) (fun _=>?_)
  refine wp_exit<|qap ?_
  cases hF
  exact so (⟨rfl,⟨c17,M18,ok,E.keep [0,1,4,6],r16,h19⟩⟩)
 refine mz E rfl rfl fun a E=>lw E (qaA Tryz.underlying9 rfl) fun a E=>lw E (qat rfl rfl) fun a E=>pt E rfl rfl fun a E=>mv E rfl fun a E=>bw E 19 hF (fun c21 hF E=>?_) fun c21 hF E=>?_
 ·refine lsz E fun a E=>pf E rfl rfl fun a E=>wn<|c_if E rfl (fun h=>by cases h) (fun _=>?_)
  refine wp_exit<|qap ?_
  cases hF
  exact so (⟨rfl,⟨c17,M18,ok,E.keep [0,1,4,6],r16,h19⟩⟩)
 refine mz E rfl rfl fun a E=>bd hF fun c22 e23 hF=>lv E ok (qaQ Tryz.underlying9 rfl rfl e23) fun a E=>lw E (qcn rfl rfl) fun a E=>pt E rfl rfl fun a E=>wn<|cg E rfl hF (fun c24 hF=>?_) fun c24 hF=>?_
 ·refine wp_exit<|qap ?_
  cases hF
  exact so (⟨rfl,⟨c17,M18,ok,E.keep [0,1,4,6],r16,h19⟩⟩)
 refine wp_skip<|qaa<|wp_block<|sg<|mz E rfl rfl fun a E=>bd hF fun r25 e26 hF=>qas E qlq rfl (qc9 N s_0 ls_0 v14 r16 e26 hG ok) rfl rfl ?_
 rintro _ w ⟨⟨rfl,ok⟩,r27,r28⟩
 refine ⟨_,rfl,fun a E=>?_⟩
 refine mv E rfl fun a E=>lw E (qao rfl rfl) fun a E=>lw E (qao rfl rfl) fun a E=>av E rfl fun a E=>aw E rfl fun a E=>qab<|mz E rfl rfl fun a E=>qaT (R:=(pI .u8)) (xo:=[.tmp 32]) (xs:=([r25.1]:List (Int))) E ok qhY qg4 rfl ⟨⟨_,rfl,rfl,(qfI r27)⟩,trivial⟩ rfl rfl rfl rfl fun c29 M30 a w E ok h31=>bd hF fun l32 e33 hF=>qbR (R:=(pI .u8)) E ok 1 (mI .u8) qhY Tryz.underlying86 rfl h19 (qa3.ofRow h31 0 rfl ok) e33 ⟨_,qg4,rfl⟩ rfl rfl rfl rfl fun c34 M35 a w E ok h36=>mv E rfl fun a E=>av E rfl fun a E=>av E rfl fun a E=>wpList_nil<|qaf ?_
 cases hF
 exact qan ⟨c34,M35,(ok.pk 3 [1,2] rfl (by decide)),E.keep [0,1,4,6],r28,h36⟩
def qjz (u:World) (m0:Mem) (S:Segs) (r:Item × Int) (a:Act) (w:World):Prop :=
 ∃ m1 v0,m0.le m1 ∧ Ok u m1 S w ∧ a.defers = [] ∧ RVs Tryz.prog a w [.c 4 138 (.agg v0.toArray),.t 5 (.int .i64 r.2)] ∧ qbt m1 v0 r.1 ∧ InR .i64 r.2
theorem qhd (N:Nat) (s_0:List UInt8) (ls_0:s_0.length ≤ LIMS) (at_1:Int) (rat_1:InR .i64 at_1) {r:Item × Int} (hF:qew N s_0 at_1 = some r) (hG:Glob u) (ok:Ok u m0 S w) :
  Calls Tryz.prog 89 [vs s_0,vi at_1].toArray w fun e w'=>∃ m1 v0,e = .returned (.tuple [(.agg v0.toArray),(.int .i64 r.2)].toArray) ∧ m0.le m1 ∧ Ok u m1 S w' ∧ qbt m1 v0 r.1 ∧ InR .i64 r.2:=by
 have le_m0:=Mem.le.refl m0
 unfold qew at hF
 refine en (qjz u m0 S) r Tryz.func89 rfl rfl rfl (by rintro a w ⟨m1,v0,hle,ok,hd,hrv,h0,h1⟩; exact qbs [.c 4 138 (.agg v0.toArray),.t 5 (.int .i64 r.2)] hd rfl hrv ⟨m1,v0,rfl,hle,ok,h0,h1⟩) fun fin a E=>sg<|qaM E ok qbp rfl rfl fun b1 a w E ok=>aw E rfl fun a E=>sg<|lw E (qaR (ps:=[]) (qs:=[]) (cs:=[(vs ([])),(Value.slice none 0 0),vb false,vi 0,vi 0]) qbp qcO rfl trivial rfl) fun a E=>qaM E ok qbp rfl rfl fun b2 a w E ok=>qai E ok 0 rfl rfl rfl qbg rfl rfl ⟨rfl,rfl,rfl,rfl,rfl,trivial⟩ rfl rfl fun w ok=>wn<|sg<|mv E rfl fun a E=>lw E (qav rfl rfl) fun a E=>aw E rfl fun a E=>wp_seq<|sg<|mz E rfl rfl fun a E=>lw E (qaA Tryz.underlying9 rfl) fun a E=>lw E (qat rfl rfl) fun a E=>mv E rfl fun a E=>bw E 17 hF (fun c3 hF E=>?_) fun c3 hF E=>?_
 ·as_aux_lemma =>
   refine lsz E fun a E=>pf E rfl rfl fun a E=>wn<|c_if E rfl (fun h=>by cases h) (fun _=>?_)
   refine wp_skip<|qaa<|wp_seq<|wp_block ?_
   obtain ⟨M116,ok,h117⟩:=qck (e:=157) (k:=2) (R:=qbv) ok
   refine bd hF fun o118 hL hF=>qax _ (fun (s:Int × Item) a w=>∃ c121 M122,Ok u m0 (M122 :: [(b2,oc 138 [vs s.2.Text,c121,vb s.2.Not,vi s.2.Least,vi s.2.Most])] :: [(b1,oc 138 [(vs ([])),(Value.slice none 0 0),vb false,vi 0,vi 0])] :: S) w ∧ Env 89 a [(0,vs s_0),(1,vi s.1),(4,vp b1),(6,vp b2)] ∧ InR .i64 s.1 ∧ s.2.Text.length ≤ LIMS ∧ ORow 157 2 qbv m0 c121 s.2.Ranges M122 ∧ InR .i64 s.2.Least ∧ InR .i64 s.2.Most) (fun (b:(Item × Int)) e a w=>e = (.exit 0) ∧ ∃ c194 M195,Ok u m0 (M195 :: [(b2,oc 138 [vs b.1.Text,c194,vb b.1.Not,vi b.1.Least,vi b.1.Most])] :: [(b1,oc 138 [(vs ([])),(Value.slice none 0 0),vb false,vi 0,vi 0])] :: S) w ∧ Env 89 a [(0,vs s_0),(1,vi b.2),(4,vp b1),(6,vp b2)] ∧ b.1.Text.length ≤ LIMS ∧ ORow 157 2 qbv m0 c194 b.1.Ranges M195 ∧ InR .i64 b.1.Least ∧ InR .i64 b.1.Most ∧ InR .i64 b.2) ?_ ?_ N _ a w hL ⟨(Value.slice none 0 0),M116,ok,E.keep [0,1,4,6],(InR.wrap _ _),(Nat.zero_le _),h117,(ir 0),(ir 0)⟩
   rotate_left
   ·intro e a w _ hO
    obtain ⟨rfl,c183,M184,ok,E,l182,h185,r186,r187,r188⟩:=hO
    refine qaz<|qaa<|wp_seq<|sg<|mv E rfl fun a E=>lw E (qat rfl rfl) fun a E=>mv E rfl fun a E=>bu E 79 hF (fun c189 hF E=>?_) fun c189 hF E=>?_
    ·refine lsz E fun a E=>pt E rfl rfl fun a E=>wn<|c_if E rfl (fun _=>?_) (fun h=>by cases h)
     refine sg<|lw E (qaR (ps:=[]) (qs:=[]) (cs:=[(vs ([])),(Value.slice none 0 0),vb false,vi 0,vi 0]) qbp qcO rfl trivial rfl) fun a E=>qai E ok 2 rfl rfl rfl qbg rfl rfl ⟨rfl,rfl,rfl,rfl,rfl,trivial⟩ rfl rfl fun w ok=>aw E rfl fun a E=>wp_ret<|qae ?_
     exact fin hF ⟨m0,[(vs ([])),(Value.slice none 0 0),vb false,vi 0,vi 0],le_m0,ok.drop.drop.drop,E.d,⟨rv_c (cs:=[(vs ([])),(Value.slice none 0 0),vb false,vi 0,vi 0]) E ok rfl qaU rfl (qac.own 2 rfl rfl),rv_t E rfl,trivial⟩,⟨_,rfl,(Nat.zero_le _),qa9,(ir 0),(ir 0)⟩,(ir (-1))⟩
    refine mz E rfl rfl fun a E=>lw E (qaA Tryz.underlying9 rfl) fun a E=>lw E (qa2 rfl rfl) fun a E=>pf E rfl rfl fun a E=>wn<|cf E rfl hF (fun c190 hF=>?_) fun c190 hF=>?_
    ·refine sg<|lw E (qaR (ps:=[]) (qs:=[]) (cs:=[(vs ([])),(Value.slice none 0 0),vb false,vi 0,vi 0]) qbp qcO rfl trivial rfl) fun a E=>qai E ok 2 rfl rfl rfl qbg rfl rfl ⟨rfl,rfl,rfl,rfl,rfl,trivial⟩ rfl rfl fun w ok=>aw E rfl fun a E=>wp_ret<|qae ?_
     exact fin hF ⟨m0,[(vs ([])),(Value.slice none 0 0),vb false,vi 0,vi 0],le_m0,ok.drop.drop.drop,E.d,⟨rv_c (cs:=[(vs ([])),(Value.slice none 0 0),vb false,vi 0,vi 0]) E ok rfl qaU rfl (qac.own 2 rfl rfl),rv_t E rfl,trivial⟩,⟨_,rfl,(Nat.zero_le _),qa9,(ir 0),(ir 0)⟩,(ir (-1))⟩
    refine wp_skip<|qaa<|sg<|lv E ok (qam (cs:=[vs o118.1.Text,c183,vb o118.1.Not,vi o118.1.Least,vi o118.1.Most]) qaU rfl rfl (qac.own 1 rfl rfl)) fun a E=>mv E rfl fun a E=>lw E (qav rfl rfl) fun a E=>qai E ok 2 rfl rfl rfl qbg rfl rfl ⟨rfl,(ORow.one h185),rfl,rfl,rfl,trivial⟩ rfl rfl fun w ok=>aw E rfl fun a E=>wp_ret ?_
    obtain ⟨m191,hle,ok,hfz⟩:=(ok.frs 0 rfl).freeze
    have h192:=ORow.froz qfA h185 hle hfz (by decide)
    have le_m0:=le_m0.trans hle
    exact fin hF ⟨m191,[vs o118.1.Text,c183,vb o118.1.Not,vi o118.1.Least,vi o118.1.Most],le_m0,ok.drop.drop,E.d,⟨rv_c (cs:=[vs o118.1.Text,c183,vb o118.1.Not,vi o118.1.Least,vi o118.1.Most]) E ok rfl qaU rfl (qac.own 1 rfl rfl),rv_t E rfl,trivial⟩,⟨_,rfl,l182,h192,r186,r187⟩,(InR.wrap _ _)⟩
   rintro ⟨v126,v127⟩ a w r ⟨c130,M131,ok,E,r128,l129,h132,r133,r134⟩ hF
   replace hF:qe4 N s_0 v126 v127 = some r:=hF
   unfold qe4 at hF
   refine wp_seq<|sg<|mv E rfl fun a E=>lw E (qa2 rfl rfl) fun a E=>mv E rfl fun a E=>bw E 28 hF (fun c135 hF E=>?_) fun c135 hF E=>?_
   ·refine lsz E fun a E=>pf E rfl rfl fun a E=>mv E rfl fun a E=>lsz E fun a E=>pf E rfl rfl fun a E=>wn<|c_if E rfl (fun h=>by cases h) (fun _=>?_)
    refine wp_exit<|qap ?_
    cases hF
    exact so (⟨rfl,⟨c130,M131,ok,E.keep [0,1,4,6],l129,h132,r133,r134,r128⟩⟩)
   refine mz E rfl rfl fun a E=>lw E (qaA Tryz.underlying9 rfl) fun a E=>lw E (qat rfl rfl) fun a E=>pt E rfl rfl fun a E=>mv E rfl fun a E=>bw E 34 hF (fun c136 hF E=>?_) fun c136 hF E=>?_
   ·refine lsz E fun a E=>pf E rfl rfl fun a E=>wn<|c_if E rfl (fun h=>by cases h) (fun _=>?_)
    refine wp_exit<|qap ?_
    cases hF
    exact so (⟨rfl,⟨c130,M131,ok,E.keep [0,1,4,6],l129,h132,r133,r134,r128⟩⟩)
   refine mz E rfl rfl fun a E=>bd hF fun c137 e138 hF=>lv E ok (qaQ Tryz.underlying9 rfl rfl e138) fun a E=>lw E (qcn rfl rfl) fun a E=>pt E rfl rfl fun a E=>wn<|cg E rfl hF (fun c139 hF=>?_) fun c139 hF=>?_
   ·refine wp_exit<|qap ?_
    cases hF
    exact so (⟨rfl,⟨c130,M131,ok,E.keep [0,1,4,6],l129,h132,r133,r134,r128⟩⟩)
   refine wp_skip<|qaa<|wp_block<|sg<|mz E rfl rfl fun a E=>bd hF fun r140 e141 hF=>qas E qlq rfl (qc9 N s_0 ls_0 v126 r128 e141 hG ok) rfl rfl ?_
   rintro _ w ⟨⟨rfl,ok⟩,r142,r143⟩
   refine ⟨_,rfl,fun a E=>?_⟩
   refine mv E rfl fun a E=>lw E (qao rfl rfl) fun a E=>lw E (qao rfl rfl) fun a E=>av E rfl fun a E=>aw E rfl fun a E=>sg<|mv E rfl fun a E=>aw E rfl fun a E=>wp_seq<|sg<|mv E rfl fun a E=>lw E (qa2 rfl rfl) fun a E=>mv E rfl fun a E=>bw E 49 hF (fun c144 hF E=>?_) fun c144 hF E=>?_
   ·refine lsz E fun a E=>pf E rfl rfl fun a E=>mv E rfl fun a E=>lsz E fun a E=>pf E rfl rfl fun a E=>wn<|c_if E rfl (fun h=>by cases h) (fun _=>?_)
    refine wp_skip<|qaa<|qab<|fk E ok qa8 qbB rfl 1 rfl rfl fun a E=>mz E rfl rfl fun a E=>lw E (qaR (ps:=[(0,.tmp 70),(1,.tmp 71)]) (qs:=[(0,[(Value.int .u8 r140.1)]),(1,[(Value.int .u8 r140.1)])]) (cs:=[(Value.int .u8 r140.1),(Value.int .u8 r140.1)]) qcw qg7 rfl ⟨rfl,rfl,rfl,⟨rfl,rfl,rfl,trivial⟩⟩ rfl) fun a E=>qaT (R:=qbv) (xo:=[.tmp 72]) (xs:=([(Range.mk r140.1 r140.1)]:List (Range))) E ok qbx qcw rfl ⟨⟨_,rfl,rfl,⟨rfl,r142,r142⟩⟩,trivial⟩ rfl rfl rfl rfl fun c174 M175 a w E ok h176=>bd hF fun l177 e178 hF=>qbR (R:=qbv) E ok 1 qfA qbx Tryz.underlying136 rfl h132 (qa3.ofRow h176 0 rfl ok) e178 ⟨_,qcw,rfl⟩ rfl rfl rfl rfl fun c179 M180 a w E ok h181=>mv E rfl fun a E=>fv E qa8 rfl fun a E=>qai E ok 2 rfl rfl rfl qi9 (ORow.cells h181) rfl ⟨(ORow.one h181),trivial⟩ rfl rfl fun w ok=>av E rfl fun a E=>wpList_nil<|qaf ?_
    cases hF
    exact qan ⟨c179,M180,(ok.pk 4 [1,2,3] rfl (by decide)),E.keep [0,1,4,6],r143,l129,h181,r133,r134⟩
   refine mz E rfl rfl fun a E=>lw E (qaA Tryz.underlying9 rfl) fun a E=>lw E (qat rfl rfl) fun a E=>pt E rfl rfl fun a E=>mv E rfl fun a E=>bw E 55 hF (fun c145 hF E=>?_) fun c145 hF E=>?_
   ·refine lsz E fun a E=>pf E rfl rfl fun a E=>wn<|c_if E rfl (fun h=>by cases h) (fun _=>?_)
    refine wp_skip<|qaa<|qab<|fk E ok qa8 qbB rfl 1 rfl rfl fun a E=>mz E rfl rfl fun a E=>lw E (qaR (ps:=[(0,.tmp 70),(1,.tmp 71)]) (qs:=[(0,[(Value.int .u8 r140.1)]),(1,[(Value.int .u8 r140.1)])]) (cs:=[(Value.int .u8 r140.1),(Value.int .u8 r140.1)]) qcw qg7 rfl ⟨rfl,rfl,rfl,⟨rfl,rfl,rfl,trivial⟩⟩ rfl) fun a E=>qaT (R:=qbv) (xo:=[.tmp 72]) (xs:=([(Range.mk r140.1 r140.1)]:List (Range))) E ok qbx qcw rfl ⟨⟨_,rfl,rfl,⟨rfl,r142,r142⟩⟩,trivial⟩ rfl rfl rfl rfl fun c166 M167 a w E ok h168=>bd hF fun l169 e170 hF=>qbR (R:=qbv) E ok 1 qfA qbx Tryz.underlying136 rfl h132 (qa3.ofRow h168 0 rfl ok) e170 ⟨_,qcw,rfl⟩ rfl rfl rfl rfl fun c171 M172 a w E ok h173=>mv E rfl fun a E=>fv E qa8 rfl fun a E=>qai E ok 2 rfl rfl rfl qi9 (ORow.cells h173) rfl ⟨(ORow.one h173),trivial⟩ rfl rfl fun w ok=>av E rfl fun a E=>wpList_nil<|qaf ?_
    cases hF
    exact qan ⟨c171,M172,(ok.pk 4 [1,2,3] rfl (by decide)),E.keep [0,1,4,6],r143,l129,h173,r133,r134⟩
   refine mz E rfl rfl fun a E=>bd hF fun c146 e147 hF=>lv E ok (qaQ Tryz.underlying9 rfl rfl e147) fun a E=>lw E (qa0 rfl rfl) fun a E=>pt E rfl rfl fun a E=>wn<|bd hF fun o148 hJ hF=>qa6 (Q':=fun e a w=>e = .normal ∧ Ok u m0 (M131 :: [(b2,oc 138 [vs v127.Text,c130,vb v127.Not,vi v127.Least,vi v127.Most])] :: [(b1,oc 138 [(vs ([])),(Value.slice none 0 0),vb false,vi 0,vi 0])] :: S) w ∧ Env 89 a [(0,vs s_0),(4,vp b1),(6,vp b2),(7,(Value.int .u8 r140.1)),(8,vi o148.1),(9,(Value.int .u8 o148.2))] ∧ InR .i64 o148.1 ∧ InR .u8 o148.2) ?_ ?_
   rotate_left
   ·intro e a w hO
    obtain ⟨rfl,ok,E,r156,r157⟩:=hO
    refine qaa<|qab<|fk E ok qa8 qbB rfl 1 rfl rfl fun a E=>mz E rfl rfl fun a E=>lw E (qaR (ps:=[(0,.tmp 70),(1,.tmp 71)]) (qs:=[(0,[(Value.int .u8 r140.1)]),(1,[(Value.int .u8 o148.2)])]) (cs:=[(Value.int .u8 r140.1),(Value.int .u8 o148.2)]) qcw qg7 rfl ⟨rfl,rfl,rfl,⟨rfl,rfl,rfl,trivial⟩⟩ rfl) fun a E=>qaT (R:=qbv) (xo:=[.tmp 72]) (xs:=([(Range.mk r140.1 o148.2)]:List (Range))) E ok qbx qcw rfl ⟨⟨_,rfl,rfl,⟨rfl,r142,r157⟩⟩,trivial⟩ rfl rfl rfl rfl fun c158 M159 a w E ok h160=>bd hF fun l161 e162 hF=>qbR (R:=qbv) E ok 1 qfA qbx Tryz.underlying136 rfl h132 (qa3.ofRow h160 0 rfl ok) e162 ⟨_,qcw,rfl⟩ rfl rfl rfl rfl fun c163 M164 a w E ok h165=>mv E rfl fun a E=>fv E qa8 rfl fun a E=>qai E ok 2 rfl rfl rfl qi9 (ORow.cells h165) rfl ⟨(ORow.one h165),trivial⟩ rfl rfl fun w ok=>av E rfl fun a E=>wpList_nil<|qaf ?_
    cases hF
    exact qan ⟨c163,M164,(ok.pk 4 [1,2,3] rfl (by decide)),E.keep [0,1,4,6],r156,l129,h165,r133,r134⟩
   have hF:=hJ
   refine cg E rfl hF (fun c151 hF=>?_) fun c151 hF=>?_
   ·refine wp_skip ?_
    cases hF
    exact ⟨rfl,⟨ok,E.keep [0,4,6,7,8,9],r143,r142⟩⟩
   refine qab<|mz E rfl rfl fun a E=>lw E (qar rfl rfl (InR.inc r143 (InR.len ls_0) c145)) fun a E=>bd hF fun r152 e153 hF=>qas E qlq rfl (qc9 N s_0 ls_0 (r140.2 + 1) (InR.inc r143 (InR.len ls_0) c145) e153 hG ok) rfl rfl ?_
   rintro _ w ⟨⟨rfl,ok⟩,r154,r155⟩
   refine ⟨_,rfl,fun a E=>?_⟩
   refine mv E rfl fun a E=>lw E (qao rfl rfl) fun a E=>lw E (qao rfl rfl) fun a E=>av E rfl fun a E=>av E rfl fun a E=>wpList_nil ?_
   cases hF
   exact ⟨rfl,⟨ok,E.keep [0,4,6,7,8,9],r155,r154⟩⟩
 refine mz E rfl rfl fun a E=>bd hF fun c4 e5 hF=>lv E ok (qaQ Tryz.underlying9 rfl rfl e5) fun a E=>lw E (qa0 rfl rfl) fun a E=>pt E rfl rfl fun a E=>wn<|bd hF fun o6 hJ hF=>qa6 (Q':=fun e a w=>e = .normal ∧ Ok u m0 ([(b2,oc 138 [vs o6.2.Text,(Value.slice none 0 0),vb o6.2.Not,vi o6.2.Least,vi o6.2.Most])] :: [(b1,oc 138 [(vs ([])),(Value.slice none 0 0),vb false,vi 0,vi 0])] :: S) w ∧ Env 89 a [(0,vs s_0),(1,vi o6.1),(4,vp b1),(6,vp b2)] ∧ InR .i64 o6.1 ∧ o6.2.Text.length ≤ LIMS ∧ InR .i64 o6.2.Least ∧ InR .i64 o6.2.Most) ?_ ?_
 ·have hF:=hJ
  refine cg E rfl hF (fun c11 hF=>?_) fun c11 hF=>?_
  ·refine wp_skip ?_
   cases hF
   exact ⟨rfl,⟨ok,E.keep [0,1,4,6],(InR.wrap _ _),(Nat.zero_le _),(ir 0),(ir 0)⟩⟩
  refine sg<|fv E qhB rfl fun a E=>qai E ok 0 rfl rfl rfl qts rfl rfl ⟨rfl,trivial⟩ rfl rfl fun w ok=>wn<|qab<|mv E rfl fun a E=>lw E (qar rfl rfl (InR.inc (InR.wrap _ _) (InR.len ls_0) c3)) fun a E=>av E rfl fun a E=>wpList_nil ?_
  cases hF
  exact ⟨rfl,⟨ok,E.keep [0,1,4,6],(InR.inc (InR.wrap _ _) (InR.len ls_0) c3),(Nat.zero_le _),(ir 0),(ir 0)⟩⟩
 intro e a w hO
 obtain ⟨rfl,ok,E,r12,l13,r14,r15⟩:=hO
 refine qaa<|wp_seq<|wp_block ?_
 obtain ⟨M24,ok,h25⟩:=qck (e:=157) (k:=2) (R:=qbv) ok
 refine bd hF fun o26 hL hF=>qax _ (fun (s:Int × Item) a w=>∃ c29 M30,Ok u m0 (M30 :: [(b2,oc 138 [vs s.2.Text,c29,vb s.2.Not,vi s.2.Least,vi s.2.Most])] :: [(b1,oc 138 [(vs ([])),(Value.slice none 0 0),vb false,vi 0,vi 0])] :: S) w ∧ Env 89 a [(0,vs s_0),(1,vi s.1),(4,vp b1),(6,vp b2)] ∧ InR .i64 s.1 ∧ s.2.Text.length ≤ LIMS ∧ ORow 157 2 qbv m0 c29 s.2.Ranges M30 ∧ InR .i64 s.2.Least ∧ InR .i64 s.2.Most) (fun (b:(Item × Int)) e a w=>e = (.exit 0) ∧ ∃ c102 M103,Ok u m0 (M103 :: [(b2,oc 138 [vs b.1.Text,c102,vb b.1.Not,vi b.1.Least,vi b.1.Most])] :: [(b1,oc 138 [(vs ([])),(Value.slice none 0 0),vb false,vi 0,vi 0])] :: S) w ∧ Env 89 a [(0,vs s_0),(1,vi b.2),(4,vp b1),(6,vp b2)] ∧ b.1.Text.length ≤ LIMS ∧ ORow 157 2 qbv m0 c102 b.1.Ranges M103 ∧ InR .i64 b.1.Least ∧ InR .i64 b.1.Most ∧ InR .i64 b.2) ?_ ?_ N _ a w hL ⟨(Value.slice none 0 0),M24,ok,E.keep [0,1,4,6],r12,l13,h25,r14,r15⟩
 rotate_left
 ·intro e a w _ hO
  obtain ⟨rfl,c91,M92,ok,E,l90,h93,r94,r95,r96⟩:=hO
  refine qaz<|qaa<|wp_seq<|sg<|mv E rfl fun a E=>lw E (qat rfl rfl) fun a E=>mv E rfl fun a E=>bu E 79 hF (fun c97 hF E=>?_) fun c97 hF E=>?_
  ·refine lsz E fun a E=>pt E rfl rfl fun a E=>wn<|c_if E rfl (fun _=>?_) (fun h=>by cases h)
   refine sg<|lw E (qaR (ps:=[]) (qs:=[]) (cs:=[(vs ([])),(Value.slice none 0 0),vb false,vi 0,vi 0]) qbp qcO rfl trivial rfl) fun a E=>qai E ok 2 rfl rfl rfl qbg rfl rfl ⟨rfl,rfl,rfl,rfl,rfl,trivial⟩ rfl rfl fun w ok=>aw E rfl fun a E=>wp_ret<|qae ?_
   exact fin hF ⟨m0,[(vs ([])),(Value.slice none 0 0),vb false,vi 0,vi 0],le_m0,ok.drop.drop.drop,E.d,⟨rv_c (cs:=[(vs ([])),(Value.slice none 0 0),vb false,vi 0,vi 0]) E ok rfl qaU rfl (qac.own 2 rfl rfl),rv_t E rfl,trivial⟩,⟨_,rfl,(Nat.zero_le _),qa9,(ir 0),(ir 0)⟩,(ir (-1))⟩
  refine mz E rfl rfl fun a E=>lw E (qaA Tryz.underlying9 rfl) fun a E=>lw E (qa2 rfl rfl) fun a E=>pf E rfl rfl fun a E=>wn<|cf E rfl hF (fun c98 hF=>?_) fun c98 hF=>?_
  ·refine sg<|lw E (qaR (ps:=[]) (qs:=[]) (cs:=[(vs ([])),(Value.slice none 0 0),vb false,vi 0,vi 0]) qbp qcO rfl trivial rfl) fun a E=>qai E ok 2 rfl rfl rfl qbg rfl rfl ⟨rfl,rfl,rfl,rfl,rfl,trivial⟩ rfl rfl fun w ok=>aw E rfl fun a E=>wp_ret<|qae ?_
   exact fin hF ⟨m0,[(vs ([])),(Value.slice none 0 0),vb false,vi 0,vi 0],le_m0,ok.drop.drop.drop,E.d,⟨rv_c (cs:=[(vs ([])),(Value.slice none 0 0),vb false,vi 0,vi 0]) E ok rfl qaU rfl (qac.own 2 rfl rfl),rv_t E rfl,trivial⟩,⟨_,rfl,(Nat.zero_le _),qa9,(ir 0),(ir 0)⟩,(ir (-1))⟩
  refine wp_skip<|qaa<|sg<|lv E ok (qam (cs:=[vs o26.1.Text,c91,vb o26.1.Not,vi o26.1.Least,vi o26.1.Most]) qaU rfl rfl (qac.own 1 rfl rfl)) fun a E=>mv E rfl fun a E=>lw E (qav rfl rfl) fun a E=>qai E ok 2 rfl rfl rfl qbg rfl rfl ⟨rfl,(ORow.one h93),rfl,rfl,rfl,trivial⟩ rfl rfl fun w ok=>aw E rfl fun a E=>wp_ret ?_
  obtain ⟨m99,hle,ok,hfz⟩:=(ok.frs 0 rfl).freeze
  have h100:=ORow.froz qfA h93 hle hfz (by decide)
  have le_m0:=le_m0.trans hle
  exact fin hF ⟨m99,[vs o26.1.Text,c91,vb o26.1.Not,vi o26.1.Least,vi o26.1.Most],le_m0,ok.drop.drop,E.d,⟨rv_c (cs:=[vs o26.1.Text,c91,vb o26.1.Not,vi o26.1.Least,vi o26.1.Most]) E ok rfl qaU rfl (qac.own 1 rfl rfl),rv_t E rfl,trivial⟩,⟨_,rfl,l90,h100,r94,r95⟩,(InR.wrap _ _)⟩
 rintro ⟨v34,v35⟩ a w r ⟨c38,M39,ok,E,r36,l37,h40,r41,r42⟩ hF
 replace hF:qeT N s_0 v34 v35 = some r:=hF
 unfold qeT at hF
 refine wp_seq<|sg<|mv E rfl fun a E=>lw E (qa2 rfl rfl) fun a E=>mv E rfl fun a E=>bw E 28 hF (fun c43 hF E=>?_) fun c43 hF E=>?_
 ·refine lsz E fun a E=>pf E rfl rfl fun a E=>mv E rfl fun a E=>lsz E fun a E=>pf E rfl rfl fun a E=>wn<|c_if E rfl (fun h=>by cases h) (fun _=>?_)
  refine wp_exit<|qap ?_
  cases hF
  exact so (⟨rfl,⟨c38,M39,ok,E.keep [0,1,4,6],l37,h40,r41,r42,r36⟩⟩)
 refine mz E rfl rfl fun a E=>lw E (qaA Tryz.underlying9 rfl) fun a E=>lw E (qat rfl rfl) fun a E=>pt E rfl rfl fun a E=>mv E rfl fun a E=>bw E 34 hF (fun c44 hF E=>?_) fun c44 hF E=>?_
 ·refine lsz E fun a E=>pf E rfl rfl fun a E=>wn<|c_if E rfl (fun h=>by cases h) (fun _=>?_)
  refine wp_exit<|qap ?_
  cases hF
  exact so (⟨rfl,⟨c38,M39,ok,E.keep [0,1,4,6],l37,h40,r41,r42,r36⟩⟩)
 refine mz E rfl rfl fun a E=>bd hF fun c45 e46 hF=>lv E ok (qaQ Tryz.underlying9 rfl rfl e46) fun a E=>lw E (qcn rfl rfl) fun a E=>pt E rfl rfl fun a E=>wn<|cg E rfl hF (fun c47 hF=>?_) fun c47 hF=>?_
 ·refine wp_exit<|qap ?_
  cases hF
  exact so (⟨rfl,⟨c38,M39,ok,E.keep [0,1,4,6],l37,h40,r41,r42,r36⟩⟩)
 refine wp_skip<|qaa<|wp_block<|sg<|mz E rfl rfl fun a E=>bd hF fun r48 e49 hF=>qas E qlq rfl (qc9 N s_0 ls_0 v34 r36 e49 hG ok) rfl rfl ?_
 rintro _ w ⟨⟨rfl,ok⟩,r50,r51⟩
 refine ⟨_,rfl,fun a E=>?_⟩
 refine mv E rfl fun a E=>lw E (qao rfl rfl) fun a E=>lw E (qao rfl rfl) fun a E=>av E rfl fun a E=>aw E rfl fun a E=>sg<|mv E rfl fun a E=>aw E rfl fun a E=>wp_seq<|sg<|mv E rfl fun a E=>lw E (qa2 rfl rfl) fun a E=>mv E rfl fun a E=>bw E 49 hF (fun c52 hF E=>?_) fun c52 hF E=>?_
 ·refine lsz E fun a E=>pf E rfl rfl fun a E=>mv E rfl fun a E=>lsz E fun a E=>pf E rfl rfl fun a E=>wn<|c_if E rfl (fun h=>by cases h) (fun _=>?_)
  refine wp_skip<|qaa<|qab<|fk E ok qa8 qbB rfl 1 rfl rfl fun a E=>mz E rfl rfl fun a E=>lw E (qaR (ps:=[(0,.tmp 70),(1,.tmp 71)]) (qs:=[(0,[(Value.int .u8 r48.1)]),(1,[(Value.int .u8 r48.1)])]) (cs:=[(Value.int .u8 r48.1),(Value.int .u8 r48.1)]) qcw qg7 rfl ⟨rfl,rfl,rfl,⟨rfl,rfl,rfl,trivial⟩⟩ rfl) fun a E=>qaT (R:=qbv) (xo:=[.tmp 72]) (xs:=([(Range.mk r48.1 r48.1)]:List (Range))) E ok qbx qcw rfl ⟨⟨_,rfl,rfl,⟨rfl,r50,r50⟩⟩,trivial⟩ rfl rfl rfl rfl fun c82 M83 a w E ok h84=>bd hF fun l85 e86 hF=>qbR (R:=qbv) E ok 1 qfA qbx Tryz.underlying136 rfl h40 (qa3.ofRow h84 0 rfl ok) e86 ⟨_,qcw,rfl⟩ rfl rfl rfl rfl fun c87 M88 a w E ok h89=>mv E rfl fun a E=>fv E qa8 rfl fun a E=>qai E ok 2 rfl rfl rfl qi9 (ORow.cells h89) rfl ⟨(ORow.one h89),trivial⟩ rfl rfl fun w ok=>av E rfl fun a E=>wpList_nil<|qaf ?_
  cases hF
  exact qan ⟨c87,M88,(ok.pk 4 [1,2,3] rfl (by decide)),E.keep [0,1,4,6],r51,l37,h89,r41,r42⟩
 refine mz E rfl rfl fun a E=>lw E (qaA Tryz.underlying9 rfl) fun a E=>lw E (qat rfl rfl) fun a E=>pt E rfl rfl fun a E=>mv E rfl fun a E=>bw E 55 hF (fun c53 hF E=>?_) fun c53 hF E=>?_
 ·refine lsz E fun a E=>pf E rfl rfl fun a E=>wn<|c_if E rfl (fun h=>by cases h) (fun _=>?_)
  refine wp_skip<|qaa<|qab<|fk E ok qa8 qbB rfl 1 rfl rfl fun a E=>mz E rfl rfl fun a E=>lw E (qaR (ps:=[(0,.tmp 70),(1,.tmp 71)]) (qs:=[(0,[(Value.int .u8 r48.1)]),(1,[(Value.int .u8 r48.1)])]) (cs:=[(Value.int .u8 r48.1),(Value.int .u8 r48.1)]) qcw qg7 rfl ⟨rfl,rfl,rfl,⟨rfl,rfl,rfl,trivial⟩⟩ rfl) fun a E=>qaT (R:=qbv) (xo:=[.tmp 72]) (xs:=([(Range.mk r48.1 r48.1)]:List (Range))) E ok qbx qcw rfl ⟨⟨_,rfl,rfl,⟨rfl,r50,r50⟩⟩,trivial⟩ rfl rfl rfl rfl fun c74 M75 a w E ok h76=>bd hF fun l77 e78 hF=>qbR (R:=qbv) E ok 1 qfA qbx Tryz.underlying136 rfl h40 (qa3.ofRow h76 0 rfl ok) e78 ⟨_,qcw,rfl⟩ rfl rfl rfl rfl fun c79 M80 a w E ok h81=>mv E rfl fun a E=>fv E qa8 rfl fun a E=>qai E ok 2 rfl rfl rfl qi9 (ORow.cells h81) rfl ⟨(ORow.one h81),trivial⟩ rfl rfl fun w ok=>av E rfl fun a E=>wpList_nil<|qaf ?_
  cases hF
  exact qan ⟨c79,M80,(ok.pk 4 [1,2,3] rfl (by decide)),E.keep [0,1,4,6],r51,l37,h81,r41,r42⟩
 refine mz E rfl rfl fun a E=>bd hF fun c54 e55 hF=>lv E ok (qaQ Tryz.underlying9 rfl rfl e55) fun a E=>lw E (qa0 rfl rfl) fun a E=>pt E rfl rfl fun a E=>wn<|bd hF fun o56 hJ hF=>qa6 (Q':=fun e a w=>e = .normal ∧ Ok u m0 (M39 :: [(b2,oc 138 [vs v35.Text,c38,vb v35.Not,vi v35.Least,vi v35.Most])] :: [(b1,oc 138 [(vs ([])),(Value.slice none 0 0),vb false,vi 0,vi 0])] :: S) w ∧ Env 89 a [(0,vs s_0),(4,vp b1),(6,vp b2),(7,(Value.int .u8 r48.1)),(8,vi o56.1),(9,(Value.int .u8 o56.2))] ∧ InR .i64 o56.1 ∧ InR .u8 o56.2) ?_ ?_
 rotate_left
 ·intro e a w hO
  obtain ⟨rfl,ok,E,r64,r65⟩:=hO
  refine qaa<|qab<|fk E ok qa8 qbB rfl 1 rfl rfl fun a E=>mz E rfl rfl fun a E=>lw E (qaR (ps:=[(0,.tmp 70),(1,.tmp 71)]) (qs:=[(0,[(Value.int .u8 r48.1)]),(1,[(Value.int .u8 o56.2)])]) (cs:=[(Value.int .u8 r48.1),(Value.int .u8 o56.2)]) qcw qg7 rfl ⟨rfl,rfl,rfl,⟨rfl,rfl,rfl,trivial⟩⟩ rfl) fun a E=>qaT (R:=qbv) (xo:=[.tmp 72]) (xs:=([(Range.mk r48.1 o56.2)]:List (Range))) E ok qbx qcw rfl ⟨⟨_,rfl,rfl,⟨rfl,r50,r65⟩⟩,trivial⟩ rfl rfl rfl rfl fun c66 M67 a w E ok h68=>bd hF fun l69 e70 hF=>qbR (R:=qbv) E ok 1 qfA qbx Tryz.underlying136 rfl h40 (qa3.ofRow h68 0 rfl ok) e70 ⟨_,qcw,rfl⟩ rfl rfl rfl rfl fun c71 M72 a w E ok h73=>mv E rfl fun a E=>fv E qa8 rfl fun a E=>qai E ok 2 rfl rfl rfl qi9 (ORow.cells h73) rfl ⟨(ORow.one h73),trivial⟩ rfl rfl fun w ok=>av E rfl fun a E=>wpList_nil<|qaf ?_
  cases hF
  exact qan ⟨c71,M72,(ok.pk 4 [1,2,3] rfl (by decide)),E.keep [0,1,4,6],r64,l37,h73,r41,r42⟩
 have hF:=hJ
 refine cg E rfl hF (fun c59 hF=>?_) fun c59 hF=>?_
 ·refine wp_skip ?_
  cases hF
  exact ⟨rfl,⟨ok,E.keep [0,4,6,7,8,9],r51,r50⟩⟩
 refine qab<|mz E rfl rfl fun a E=>lw E (qar rfl rfl (InR.inc r51 (InR.len ls_0) c53)) fun a E=>bd hF fun r60 e61 hF=>qas E qlq rfl (qc9 N s_0 ls_0 (r48.2 + 1) (InR.inc r51 (InR.len ls_0) c53) e61 hG ok) rfl rfl ?_
 rintro _ w ⟨⟨rfl,ok⟩,r62,r63⟩
 refine ⟨_,rfl,fun a E=>?_⟩
 refine mv E rfl fun a E=>lw E (qao rfl rfl) fun a E=>lw E (qao rfl rfl) fun a E=>av E rfl fun a E=>av E rfl fun a E=>wpList_nil ?_
 cases hF
 exact ⟨rfl,⟨ok,E.keep [0,4,6,7,8,9],r63,r62⟩⟩
def qeg (u:World) (m0:Mem) (S:Segs) (r:Item × Int) (a:Act) (w:World):Prop :=
 ∃ m1 v0,m0.le m1 ∧ Ok u m1 S w ∧ a.defers = [] ∧ RVs Tryz.prog a w [.c 4 138 (.agg v0.toArray),.t 5 (.int .i64 r.2)] ∧ qbt m1 v0 r.1 ∧ InR .i64 r.2
theorem qfN (N:Nat) (s_0:List UInt8) (ls_0:s_0.length ≤ LIMS) (at_1:Int) (rat_1:InR .i64 at_1) {r:Item × Int} (hF:qdG N s_0 at_1 = some r) (hG:Glob u) (ok:Ok u m0 S w) :
  Calls Tryz.prog 68 [vs s_0,vi at_1].toArray w fun e w'=>∃ m1 v0,e = .returned (.tuple [(.agg v0.toArray),(.int .i64 r.2)].toArray) ∧ m0.le m1 ∧ Ok u m1 S w' ∧ qbt m1 v0 r.1 ∧ InR .i64 r.2:=by
 have le_m0:=Mem.le.refl m0
 unfold qdG at hF
 refine en (qeg u m0 S) r Tryz.func68 rfl rfl rfl (by rintro a w ⟨m1,v0,hle,ok,hd,hrv,h0,h1⟩; exact qbs [.c 4 138 (.agg v0.toArray),.t 5 (.int .i64 r.2)] hd rfl hrv ⟨m1,v0,rfl,hle,ok,h0,h1⟩) fun fin a E=>sg<|qaM E ok qbp rfl rfl fun b1 a w E ok=>aw E rfl fun a E=>sg<|lw E (qaR (ps:=[]) (qs:=[]) (cs:=[(vs ([])),(Value.slice none 0 0),vb false,vi 0,vi 0]) qbp qcO rfl trivial rfl) fun a E=>qaM E ok qbp rfl rfl fun b2 a w E ok=>qai E ok 0 rfl rfl rfl qbg rfl rfl ⟨rfl,rfl,rfl,rfl,rfl,trivial⟩ rfl rfl fun w ok=>wn<|wp_seq<|wp_block<|sg<|mz E rfl rfl fun a E=>lw E (qaA Tryz.underlying9 rfl) fun a E=>lw E (qat rfl rfl) fun a E=>mv E rfl fun a E=>bw E 14 hF (fun c3 hF E=>?_) fun c3 hF E=>?_
 ·as_aux_lemma =>
   refine lsz E fun a E=>pf E rfl rfl fun a E=>aw E rfl fun a E=>c_if E rfl (fun h=>by cases h) (fun _=>?_)
   refine sg<|mz E rfl rfl fun a E=>lw E (qaA Tryz.underlying9 rfl) fun a E=>lw E (qat rfl rfl) fun a E=>mv E rfl fun a E=>bw E 31 hF (fun c57 hF E=>?_) fun c57 hF E=>?_
   ·refine lsz E fun a E=>pf E rfl rfl fun a E=>aw E rfl fun a E=>c_if E rfl (fun h=>by cases h) (fun _=>?_)
    refine sg<|lw E (qaR (ps:=[]) (qs:=[]) (cs:=[(vs ([])),(Value.slice none 0 0),vb false,vi 0,vi 0]) qbp qcO rfl trivial rfl) fun a E=>qai E ok 1 rfl rfl rfl qbg rfl rfl ⟨rfl,rfl,rfl,rfl,rfl,trivial⟩ rfl rfl fun w ok=>aw E rfl fun a E=>wp_ret<|qag<|qae ?_
    exact fin hF ⟨m0,[(vs ([])),(Value.slice none 0 0),vb false,vi 0,vi 0],le_m0,ok.drop.drop,E.d,⟨rv_c (cs:=[(vs ([])),(Value.slice none 0 0),vb false,vi 0,vi 0]) E ok rfl qaU rfl (qac.own 1 rfl rfl),rv_t E rfl,trivial⟩,⟨_,rfl,(Nat.zero_le _),qa9,(ir 0),(ir 0)⟩,(ir (-1))⟩
   refine mz E rfl rfl fun a E=>bd hF fun c58 e59 hF=>lv E ok (qaQ Tryz.underlying9 rfl rfl e59) fun a E=>lw E (qa0 rfl rfl) fun a E=>pt E rfl rfl fun a E=>aw E rfl fun a E=>cg E rfl hF (fun c60 hF=>?_) fun c60 hF=>?_
   ·refine sg<|lw E (qaR (ps:=[]) (qs:=[]) (cs:=[(vs ([])),(Value.slice none 0 0),vb false,vi 0,vi 0]) qbp qcO rfl trivial rfl) fun a E=>qai E ok 1 rfl rfl rfl qbg rfl rfl ⟨rfl,rfl,rfl,rfl,rfl,trivial⟩ rfl rfl fun w ok=>aw E rfl fun a E=>wp_ret<|qag<|qae ?_
    exact fin hF ⟨m0,[(vs ([])),(Value.slice none 0 0),vb false,vi 0,vi 0],le_m0,ok.drop.drop,E.d,⟨rv_c (cs:=[(vs ([])),(Value.slice none 0 0),vb false,vi 0,vi 0]) E ok rfl qaU rfl (qac.own 1 rfl rfl),rv_t E rfl,trivial⟩,⟨_,rfl,(Nat.zero_le _),qa9,(ir 0),(ir 0)⟩,(ir (-1))⟩
   refine qab<|mz E rfl rfl fun a E=>bd hF fun r61 e62 hF=>qas E qtH rfl (qhd N s_0 ls_0 at_1 rat_1 e62 hG ok) rfl rfl ?_
   rintro _ w ⟨m63,vs64,rfl,hle,ok,h65,r66⟩
   have le_m0:=le_m0.trans hle
   obtain ⟨c68,rfl,l67,h69,r70,r71⟩:=h65
   refine ⟨_,rfl,fun a E=>?_⟩
   refine mv E rfl fun a E=>lw E (qao rfl rfl) fun a E=>lw E (qao rfl rfl) fun a E=>qai E ok 0 rfl rfl rfl qbg rfl rfl ⟨rfl,(qbi h69),rfl,rfl,rfl,trivial⟩ rfl rfl fun w ok=>av E rfl fun a E=>wpList_nil<|qaf<|qaa<|sg<|fv E qd7 rfl fun a E=>qai E ok 0 rfl rfl rfl qes rfl rfl ⟨rfl,trivial⟩ rfl rfl fun w ok=>fv E qdI rfl fun a E=>qai E ok 0 rfl rfl rfl qes rfl rfl ⟨rfl,trivial⟩ rfl rfl fun w ok=>wn<|wp_seq<|sg<|mv E rfl fun a E=>lw E (qa2 rfl rfl) fun a E=>mv E rfl fun a E=>bw E 47 hF (fun c72 hF E=>?_) fun c72 hF E=>?_
   ·refine lsz E fun a E=>pf E rfl rfl fun a E=>wn<|c_if E rfl (fun h=>by cases h) (fun _=>?_)
    refine wp_skip<|qaa<|sg<|lv E ok (qam (cs:=[vs r61.1.Text,c68,vb r61.1.Not,vi 1,vi 1]) qaU rfl rfl (qac.own 0 rfl rfl)) fun a E=>mv E rfl fun a E=>qai E ok 1 rfl rfl rfl qbg rfl rfl ⟨rfl,(qbi h69),rfl,rfl,rfl,trivial⟩ rfl rfl fun w ok=>av E rfl fun a E=>wn<|wp_ret ?_
    exact fin hF ⟨m63,[vs r61.1.Text,c68,vb r61.1.Not,vi 1,vi 1],le_m0,ok.drop.drop,E.d,⟨rv_c (cs:=[vs r61.1.Text,c68,vb r61.1.Not,vi 1,vi 1]) E ok rfl qaU rfl (qac.own 1 rfl rfl),rv_t E rfl,trivial⟩,⟨_,rfl,l67,h69,(ir 1),(ir 1)⟩,r66⟩
   refine mz E rfl rfl fun a E=>lw E (qaA Tryz.underlying9 rfl) fun a E=>lw E (qat rfl rfl) fun a E=>pt E rfl rfl fun a E=>wn<|cg E rfl hF (fun c73 hF=>?_) fun c73 hF=>?_
   ·refine wp_skip<|qaa<|sg<|lv E ok (qam (cs:=[vs r61.1.Text,c68,vb r61.1.Not,vi 1,vi 1]) qaU rfl rfl (qac.own 0 rfl rfl)) fun a E=>mv E rfl fun a E=>qai E ok 1 rfl rfl rfl qbg rfl rfl ⟨rfl,(qbi h69),rfl,rfl,rfl,trivial⟩ rfl rfl fun w ok=>av E rfl fun a E=>wn<|wp_ret ?_
    exact fin hF ⟨m63,[vs r61.1.Text,c68,vb r61.1.Not,vi 1,vi 1],le_m0,ok.drop.drop,E.d,⟨rv_c (cs:=[vs r61.1.Text,c68,vb r61.1.Not,vi 1,vi 1]) E ok rfl qaU rfl (qac.own 1 rfl rfl),rv_t E rfl,trivial⟩,⟨_,rfl,l67,h69,(ir 1),(ir 1)⟩,r66⟩
   refine sg<|mz E rfl rfl fun a E=>bd hF fun c74 e75 hF=>lv E ok (qaQ Tryz.underlying9 rfl rfl e75) fun a E=>wn<|wp_block<|sg<|lw E (qa0 rfl rfl) fun a E=>av E rfl fun a E=>wn<|cf E rfl hF (fun c76 hF=>?_) fun c76 hF=>?_
   ·refine qab<|mv E rfl fun a E=>lw E (qar rfl rfl (InR.inc r66 (InR.len ls_0) c73)) fun a E=>fv E qd7 rfl fun a E=>qai E ok 0 rfl rfl rfl qes rfl rfl ⟨rfl,trivial⟩ rfl rfl fun w ok=>av E rfl fun a E=>wpList_nil<|qaf<|qaa<|sg<|lv E ok (qam (cs:=[vs r61.1.Text,c68,vb r61.1.Not,vi 0,vi 1]) qaU rfl rfl (qac.own 0 rfl rfl)) fun a E=>mv E rfl fun a E=>qai E ok 1 rfl rfl rfl qbg rfl rfl ⟨rfl,(qbi h69),rfl,rfl,rfl,trivial⟩ rfl rfl fun w ok=>av E rfl fun a E=>wn<|wp_ret ?_
    exact fin hF ⟨m63,[vs r61.1.Text,c68,vb r61.1.Not,vi 0,vi 1],le_m0,ok.drop.drop,E.d,⟨rv_c (cs:=[vs r61.1.Text,c68,vb r61.1.Not,vi 0,vi 1]) E ok rfl qaU rfl (qac.own 1 rfl rfl),rv_t E rfl,trivial⟩,⟨_,rfl,l67,h69,(ir 0),(ir 1)⟩,(InR.inc r66 (InR.len ls_0) c73)⟩
   refine sg<|lw E (qa0 rfl rfl) fun a E=>aw E rfl fun a E=>cf E rfl hF (fun c77 hF=>?_) fun c77 hF=>?_
   ·refine qab<|mv E rfl fun a E=>lw E (qar rfl rfl (InR.inc r66 (InR.len ls_0) c73)) fun a E=>fv E qd7 rfl fun a E=>qai E ok 0 rfl rfl rfl qes rfl rfl ⟨rfl,trivial⟩ rfl rfl fun w ok=>fv E qdI rfl fun a E=>qai E ok 0 rfl rfl rfl qes rfl rfl ⟨rfl,trivial⟩ rfl rfl fun w ok=>av E rfl fun a E=>wpList_nil<|qaf<|qaa<|sg<|lv E ok (qam (cs:=[vs r61.1.Text,c68,vb r61.1.Not,vi 0,(vi (-1))]) qaU rfl rfl (qac.own 0 rfl rfl)) fun a E=>mv E rfl fun a E=>qai E ok 1 rfl rfl rfl qbg rfl rfl ⟨rfl,(qbi h69),rfl,rfl,rfl,trivial⟩ rfl rfl fun w ok=>aw E rfl fun a E=>wp_ret ?_
    exact fin hF ⟨m63,[vs r61.1.Text,c68,vb r61.1.Not,vi 0,(vi (-1))],le_m0,ok.drop.drop,E.d,⟨rv_c (cs:=[vs r61.1.Text,c68,vb r61.1.Not,vi 0,(vi (-1))]) E ok rfl qaU rfl (qac.own 1 rfl rfl),rv_t E rfl,trivial⟩,⟨_,rfl,l67,h69,(ir 0),(ir (-1))⟩,(InR.inc r66 (InR.len ls_0) c73)⟩
   refine sg<|lw E (qa0 rfl rfl) fun a E=>aw E rfl fun a E=>cg E rfl hF (fun c78 hF=>?_) fun c78 hF=>?_
   ·refine wp_skip<|qaf<|qaa<|sg<|lv E ok (qam (cs:=[vs r61.1.Text,c68,vb r61.1.Not,vi 1,vi 1]) qaU rfl rfl (qac.own 0 rfl rfl)) fun a E=>mv E rfl fun a E=>qai E ok 1 rfl rfl rfl qbg rfl rfl ⟨rfl,(qbi h69),rfl,rfl,rfl,trivial⟩ rfl rfl fun w ok=>aw E rfl fun a E=>wp_ret ?_
    exact fin hF ⟨m63,[vs r61.1.Text,c68,vb r61.1.Not,vi 1,vi 1],le_m0,ok.drop.drop,E.d,⟨rv_c (cs:=[vs r61.1.Text,c68,vb r61.1.Not,vi 1,vi 1]) E ok rfl qaU rfl (qac.own 1 rfl rfl),rv_t E rfl,trivial⟩,⟨_,rfl,l67,h69,(ir 1),(ir 1)⟩,r66⟩
   refine qab<|mv E rfl fun a E=>lw E (qar rfl rfl (InR.inc r66 (InR.len ls_0) c73)) fun a E=>fv E qdI rfl fun a E=>qai E ok 0 rfl rfl rfl qes rfl rfl ⟨rfl,trivial⟩ rfl rfl fun w ok=>av E rfl fun a E=>wpList_nil<|qaf<|qaa<|sg<|lv E ok (qam (cs:=[vs r61.1.Text,c68,vb r61.1.Not,vi 1,(vi (-1))]) qaU rfl rfl (qac.own 0 rfl rfl)) fun a E=>mv E rfl fun a E=>qai E ok 1 rfl rfl rfl qbg rfl rfl ⟨rfl,(qbi h69),rfl,rfl,rfl,trivial⟩ rfl rfl fun w ok=>av E rfl fun a E=>wn<|wp_ret ?_
   exact fin hF ⟨m63,[vs r61.1.Text,c68,vb r61.1.Not,vi 1,(vi (-1))],le_m0,ok.drop.drop,E.d,⟨rv_c (cs:=[vs r61.1.Text,c68,vb r61.1.Not,vi 1,(vi (-1))]) E ok rfl qaU rfl (qac.own 1 rfl rfl),rv_t E rfl,trivial⟩,⟨_,rfl,l67,h69,(ir 1),(ir (-1))⟩,(InR.inc r66 (InR.len ls_0) c73)⟩
 refine mz E rfl rfl fun a E=>bd hF fun c4 e5 hF=>lv E ok (qaQ Tryz.underlying9 rfl rfl e5) fun a E=>lw E (qa0 rfl rfl) fun a E=>pt E rfl rfl fun a E=>aw E rfl fun a E=>bd hF fun o6 hJ hF=>qa6 (Q':=fun e a w=>(Sum.elim (fun b7=>e = .normal ∧ ∃ m8 c11,m0.le m8 ∧ Ok u m8 ([(b2,oc 138 [vs b7.2.Text,c11,vb b7.2.Not,vi b7.2.Least,vi b7.2.Most])] :: [(b1,oc 138 [(vs ([])),(Value.slice none 0 0),vb false,vi 0,vi 0])] :: S) w ∧ Env 74 a [(0,vs s_0),(1,vi b7.1),(4,vp b1),(6,vp b2)] ∧ InR .i64 b7.1 ∧ b7.2.Text.length ≤ LIMS ∧ (pL 2 qbv) m8 [c11] b7.2.Ranges ∧ InR .i64 b7.2.Least ∧ InR .i64 b7.2.Most) (fun b15=>e = .ret ∧ qeg u m0 S b15 a w)) o6) ?_ ?_
 ·as_aux_lemma =>
   have hF:=hJ
   refine cf E rfl hF (fun c16 hF=>?_) fun c16 hF=>?_
   ·refine qab<|mz E rfl rfl fun a E=>bd hF fun r17 e18 hF=>qas E qwB rfl (qj3 N s_0 ls_0 at_1 rat_1 e18 hG ok) rfl rfl ?_
    rintro _ w ⟨m19,vs20,rfl,hle,ok,h21,r22⟩
    have le_m0:=le_m0.trans hle
    obtain ⟨c24,rfl,l23,h25,r26,r27⟩:=h21
    refine ⟨_,rfl,fun a E=>?_⟩
    refine mv E rfl fun a E=>lw E (qao rfl rfl) fun a E=>lw E (qao rfl rfl) fun a E=>qai E ok 0 rfl rfl rfl qbg rfl rfl ⟨rfl,(qbi h25),rfl,rfl,rfl,trivial⟩ rfl rfl fun w ok=>av E rfl fun a E=>wpList_nil ?_
    cases hF
    exact (sl ⟨rfl,⟨m19,c24,le_m0,ok,E.keep [0,1,4,6],r22,l23,h25,r26,r27⟩⟩)
   refine sg<|mz E rfl rfl fun a E=>lw E (qaA Tryz.underlying9 rfl) fun a E=>lw E (qat rfl rfl) fun a E=>mv E rfl fun a E=>bw E 31 hF (fun c28 hF E=>?_) fun c28 hF E=>?_
   ·refine lsz E fun a E=>pf E rfl rfl fun a E=>aw E rfl fun a E=>c_if E rfl (fun h=>by cases h) (fun _=>?_)
    refine sg<|lw E (qaR (ps:=[]) (qs:=[]) (cs:=[(vs ([])),(Value.slice none 0 0),vb false,vi 0,vi 0]) qbp qcO rfl trivial rfl) fun a E=>qai E ok 1 rfl rfl rfl qbg rfl rfl ⟨rfl,rfl,rfl,rfl,rfl,trivial⟩ rfl rfl fun w ok=>aw E rfl fun a E=>wp_ret ?_
    have hret:qeg u m0 S ((Item.mk ([]) ([]) false 0 0),(-1)) a w:=⟨m0,[(vs ([])),(Value.slice none 0 0),vb false,vi 0,vi 0],le_m0,ok.drop.drop,E.d,⟨rv_c (cs:=[(vs ([])),(Value.slice none 0 0),vb false,vi 0,vi 0]) E ok rfl qaU rfl (qac.own 1 rfl rfl),rv_t E rfl,trivial⟩,⟨_,rfl,(Nat.zero_le _),qa9,(ir 0),(ir 0)⟩,(ir (-1))⟩
    cases hF
    exact (sr ⟨rfl,hret⟩)
   refine mz E rfl rfl fun a E=>bd hF fun c29 e30 hF=>lv E ok (qaQ Tryz.underlying9 rfl rfl e30) fun a E=>lw E (qa0 rfl rfl) fun a E=>pt E rfl rfl fun a E=>aw E rfl fun a E=>cg E rfl hF (fun c31 hF=>?_) fun c31 hF=>?_
   ·refine sg<|lw E (qaR (ps:=[]) (qs:=[]) (cs:=[(vs ([])),(Value.slice none 0 0),vb false,vi 0,vi 0]) qbp qcO rfl trivial rfl) fun a E=>qai E ok 1 rfl rfl rfl qbg rfl rfl ⟨rfl,rfl,rfl,rfl,rfl,trivial⟩ rfl rfl fun w ok=>aw E rfl fun a E=>wp_ret ?_
    have hret:qeg u m0 S ((Item.mk ([]) ([]) false 0 0),(-1)) a w:=⟨m0,[(vs ([])),(Value.slice none 0 0),vb false,vi 0,vi 0],le_m0,ok.drop.drop,E.d,⟨rv_c (cs:=[(vs ([])),(Value.slice none 0 0),vb false,vi 0,vi 0]) E ok rfl qaU rfl (qac.own 1 rfl rfl),rv_t E rfl,trivial⟩,⟨_,rfl,(Nat.zero_le _),qa9,(ir 0),(ir 0)⟩,(ir (-1))⟩
    cases hF
    exact (sr ⟨rfl,hret⟩)
   refine qab<|mz E rfl rfl fun a E=>bd hF fun r32 e33 hF=>qas E qtH rfl (qhd N s_0 ls_0 at_1 rat_1 e33 hG ok) rfl rfl ?_
   rintro _ w ⟨m34,vs35,rfl,hle,ok,h36,r37⟩
   have le_m0:=le_m0.trans hle
   obtain ⟨c39,rfl,l38,h40,r41,r42⟩:=h36
   refine ⟨_,rfl,fun a E=>?_⟩
   refine mv E rfl fun a E=>lw E (qao rfl rfl) fun a E=>lw E (qao rfl rfl) fun a E=>qai E ok 0 rfl rfl rfl qbg rfl rfl ⟨rfl,(qbi h40),rfl,rfl,rfl,trivial⟩ rfl rfl fun w ok=>av E rfl fun a E=>wpList_nil ?_
   cases hF
   exact (sl ⟨rfl,⟨m34,c39,le_m0,ok,E.keep [0,1,4,6],r37,l38,h40,r41,r42⟩⟩)
 intro e a w hO
 rcases o6 with o6 | o6
 rotate_left
 ·obtain ⟨rfl,hret⟩:=hO
  refine qag<|qae ?_
  exact fin hF hret
 have hF:=qaX hF
 obtain ⟨rfl,m43,c46,hle,ok,E,r44,l45,h47,r48,r49⟩:=hO
 have le_m0:=le_m0.trans hle
 refine qaf<|qaa<|sg<|fv E qd7 rfl fun a E=>qai E ok 0 rfl rfl rfl qes rfl rfl ⟨rfl,trivial⟩ rfl rfl fun w ok=>fv E qdI rfl fun a E=>qai E ok 0 rfl rfl rfl qes rfl rfl ⟨rfl,trivial⟩ rfl rfl fun w ok=>wn<|wp_seq<|sg<|mv E rfl fun a E=>lw E (qa2 rfl rfl) fun a E=>mv E rfl fun a E=>bw E 47 hF (fun c50 hF E=>?_) fun c50 hF E=>?_
 ·refine lsz E fun a E=>pf E rfl rfl fun a E=>wn<|c_if E rfl (fun h=>by cases h) (fun _=>?_)
  refine wp_skip<|qaa<|sg<|lv E ok (qam (cs:=[vs o6.2.Text,c46,vb o6.2.Not,vi 1,vi 1]) qaU rfl rfl (qac.own 0 rfl rfl)) fun a E=>mv E rfl fun a E=>qai E ok 1 rfl rfl rfl qbg rfl rfl ⟨rfl,(qbi h47),rfl,rfl,rfl,trivial⟩ rfl rfl fun w ok=>av E rfl fun a E=>wn<|wp_ret ?_
  exact fin hF ⟨m43,[vs o6.2.Text,c46,vb o6.2.Not,vi 1,vi 1],le_m0,ok.drop.drop,E.d,⟨rv_c (cs:=[vs o6.2.Text,c46,vb o6.2.Not,vi 1,vi 1]) E ok rfl qaU rfl (qac.own 1 rfl rfl),rv_t E rfl,trivial⟩,⟨_,rfl,l45,h47,(ir 1),(ir 1)⟩,r44⟩
 refine mz E rfl rfl fun a E=>lw E (qaA Tryz.underlying9 rfl) fun a E=>lw E (qat rfl rfl) fun a E=>pt E rfl rfl fun a E=>wn<|cg E rfl hF (fun c51 hF=>?_) fun c51 hF=>?_
 ·refine wp_skip<|qaa<|sg<|lv E ok (qam (cs:=[vs o6.2.Text,c46,vb o6.2.Not,vi 1,vi 1]) qaU rfl rfl (qac.own 0 rfl rfl)) fun a E=>mv E rfl fun a E=>qai E ok 1 rfl rfl rfl qbg rfl rfl ⟨rfl,(qbi h47),rfl,rfl,rfl,trivial⟩ rfl rfl fun w ok=>av E rfl fun a E=>wn<|wp_ret ?_
  exact fin hF ⟨m43,[vs o6.2.Text,c46,vb o6.2.Not,vi 1,vi 1],le_m0,ok.drop.drop,E.d,⟨rv_c (cs:=[vs o6.2.Text,c46,vb o6.2.Not,vi 1,vi 1]) E ok rfl qaU rfl (qac.own 1 rfl rfl),rv_t E rfl,trivial⟩,⟨_,rfl,l45,h47,(ir 1),(ir 1)⟩,r44⟩
 refine sg<|mz E rfl rfl fun a E=>bd hF fun c52 e53 hF=>lv E ok (qaQ Tryz.underlying9 rfl rfl e53) fun a E=>wn<|wp_block<|sg<|lw E (qa0 rfl rfl) fun a E=>av E rfl fun a E=>wn<|cf E rfl hF (fun c54 hF=>?_) fun c54 hF=>?_
 ·refine qab<|mv E rfl fun a E=>lw E (qar rfl rfl (InR.inc r44 (InR.len ls_0) c51)) fun a E=>fv E qd7 rfl fun a E=>qai E ok 0 rfl rfl rfl qes rfl rfl ⟨rfl,trivial⟩ rfl rfl fun w ok=>av E rfl fun a E=>wpList_nil<|qaf<|qaa<|sg<|lv E ok (qam (cs:=[vs o6.2.Text,c46,vb o6.2.Not,vi 0,vi 1]) qaU rfl rfl (qac.own 0 rfl rfl)) fun a E=>mv E rfl fun a E=>qai E ok 1 rfl rfl rfl qbg rfl rfl ⟨rfl,(qbi h47),rfl,rfl,rfl,trivial⟩ rfl rfl fun w ok=>av E rfl fun a E=>wn<|wp_ret ?_
  exact fin hF ⟨m43,[vs o6.2.Text,c46,vb o6.2.Not,vi 0,vi 1],le_m0,ok.drop.drop,E.d,⟨rv_c (cs:=[vs o6.2.Text,c46,vb o6.2.Not,vi 0,vi 1]) E ok rfl qaU rfl (qac.own 1 rfl rfl),rv_t E rfl,trivial⟩,⟨_,rfl,l45,h47,(ir 0),(ir 1)⟩,(InR.inc r44 (InR.len ls_0) c51)⟩
 refine sg<|lw E (qa0 rfl rfl) fun a E=>aw E rfl fun a E=>cf E rfl hF (fun c55 hF=>?_) fun c55 hF=>?_
 ·refine qab<|mv E rfl fun a E=>lw E (qar rfl rfl (InR.inc r44 (InR.len ls_0) c51)) fun a E=>fv E qd7 rfl fun a E=>qai E ok 0 rfl rfl rfl qes rfl rfl ⟨rfl,trivial⟩ rfl rfl fun w ok=>fv E qdI rfl fun a E=>qai E ok 0 rfl rfl rfl qes rfl rfl ⟨rfl,trivial⟩ rfl rfl fun w ok=>av E rfl fun a E=>wpList_nil<|qaf<|qaa<|sg<|lv E ok (qam (cs:=[vs o6.2.Text,c46,vb o6.2.Not,vi 0,(vi (-1))]) qaU rfl rfl (qac.own 0 rfl rfl)) fun a E=>mv E rfl fun a E=>qai E ok 1 rfl rfl rfl qbg rfl rfl ⟨rfl,(qbi h47),rfl,rfl,rfl,trivial⟩ rfl rfl fun w ok=>aw E rfl fun a E=>wp_ret ?_
  exact fin hF ⟨m43,[vs o6.2.Text,c46,vb o6.2.Not,vi 0,(vi (-1))],le_m0,ok.drop.drop,E.d,⟨rv_c (cs:=[vs o6.2.Text,c46,vb o6.2.Not,vi 0,(vi (-1))]) E ok rfl qaU rfl (qac.own 1 rfl rfl),rv_t E rfl,trivial⟩,⟨_,rfl,l45,h47,(ir 0),(ir (-1))⟩,(InR.inc r44 (InR.len ls_0) c51)⟩
 refine sg<|lw E (qa0 rfl rfl) fun a E=>aw E rfl fun a E=>cg E rfl hF (fun c56 hF=>?_) fun c56 hF=>?_
 ·refine wp_skip<|qaf<|qaa<|sg<|lv E ok (qam (cs:=[vs o6.2.Text,c46,vb o6.2.Not,vi 1,vi 1]) qaU rfl rfl (qac.own 0 rfl rfl)) fun a E=>mv E rfl fun a E=>qai E ok 1 rfl rfl rfl qbg rfl rfl ⟨rfl,(qbi h47),rfl,rfl,rfl,trivial⟩ rfl rfl fun w ok=>aw E rfl fun a E=>wp_ret ?_
  exact fin hF ⟨m43,[vs o6.2.Text,c46,vb o6.2.Not,vi 1,vi 1],le_m0,ok.drop.drop,E.d,⟨rv_c (cs:=[vs o6.2.Text,c46,vb o6.2.Not,vi 1,vi 1]) E ok rfl qaU rfl (qac.own 1 rfl rfl),rv_t E rfl,trivial⟩,⟨_,rfl,l45,h47,(ir 1),(ir 1)⟩,r44⟩
 refine qab<|mv E rfl fun a E=>lw E (qar rfl rfl (InR.inc r44 (InR.len ls_0) c51)) fun a E=>fv E qdI rfl fun a E=>qai E ok 0 rfl rfl rfl qes rfl rfl ⟨rfl,trivial⟩ rfl rfl fun w ok=>av E rfl fun a E=>wpList_nil<|qaf<|qaa<|sg<|lv E ok (qam (cs:=[vs o6.2.Text,c46,vb o6.2.Not,vi 1,(vi (-1))]) qaU rfl rfl (qac.own 0 rfl rfl)) fun a E=>mv E rfl fun a E=>qai E ok 1 rfl rfl rfl qbg rfl rfl ⟨rfl,(qbi h47),rfl,rfl,rfl,trivial⟩ rfl rfl fun w ok=>av E rfl fun a E=>wn<|wp_ret ?_
 exact fin hF ⟨m43,[vs o6.2.Text,c46,vb o6.2.Not,vi 1,(vi (-1))],le_m0,ok.drop.drop,E.d,⟨rv_c (cs:=[vs o6.2.Text,c46,vb o6.2.Not,vi 1,(vi (-1))]) E ok rfl qaU rfl (qac.own 1 rfl rfl),rv_t E rfl,trivial⟩,⟨_,rfl,l45,h47,(ir 1),(ir (-1))⟩,(InR.inc r44 (InR.len ls_0) c51)⟩
def qhm (u:World) (m0:Mem) (S:Segs) (r:Rule × Bool) (a:Act) (w:World):Prop :=
 ∃ m1 v0,m0.le m1 ∧ Ok u m1 S w ∧ a.defers = [] ∧ RVs Tryz.prog a w [.c 2 114 (.agg v0.toArray),.t 3 (.bool r.2)] ∧ qdC m1 v0 r.1
theorem qj4 (N:Nat) (s_0:List UInt8) (ls_0:s_0.length ≤ LIMS) {r:Rule × Bool} (hF:qgf N s_0 = some r) (hG:Glob u) (ok:Ok u m0 S w) :
  Calls Tryz.prog 41 [vs s_0].toArray w fun e w'=>∃ m1 v0,e = .returned (.tuple [(.agg v0.toArray),(.bool r.2)].toArray) ∧ m0.le m1 ∧ Ok u m1 S w' ∧ qdC m1 v0 r.1:=by
 have le_m0:=Mem.le.refl m0
 unfold qgf at hF
 refine en (qhm u m0 S) r Tryz.func41 rfl rfl rfl (by rintro a w ⟨m1,v0,hle,ok,hd,hrv,h0⟩; exact qbs [.c 2 114 (.agg v0.toArray),.t 3 (.bool r.2)] hd rfl hrv ⟨m1,v0,rfl,hle,ok,h0⟩) fun fin a E=>sg<|qaM E ok qde rfl rfl fun b1 a w E ok=>aw E rfl fun a E=>sg<|aw E rfl fun a E=>wp_seq<|wp_block<|bd hF fun o3 hL hF=>qax _ (fun (s:Int) a w=>Ok u m0 ([(b1,oc 114 [(vs ([])),(Value.slice none 0 0),(vs ([]))])] :: S) w ∧ Env 88 a [(0,vs s_0),(2,vp b1),(4,vi s)] ∧ InR .i64 s) (fun (b:Int) e a w=>e = (.exit 0) ∧ Ok u m0 ([(b1,oc 114 [(vs ([])),(Value.slice none 0 0),(vs ([]))])] :: S) w ∧ Env 88 a [(0,vs s_0),(2,vp b1),(4,vi b)] ∧ InR .i64 b) ?_ ?_ N _ a w hL ⟨ok,E.keep [0,2,4],(ir 0)⟩
 ·rintro v5 a w r ⟨ok,E,r6⟩ hF
  replace hF:qfh N s_0 v5 = some r:=hF
  unfold qfh at hF
  refine wp_seq<|sg<|mz E rfl rfl fun a E=>lw E (qaA Tryz.underlying9 rfl) fun a E=>lw E (qat rfl rfl) fun a E=>mv E rfl fun a E=>bw E 12 hF (fun c7 hF E=>?_) fun c7 hF E=>?_
  ·refine lsz E fun a E=>pf E rfl rfl fun a E=>wn<|c_if E rfl (fun h=>by cases h) (fun _=>?_)
   refine wp_exit<|qap ?_
   cases hF
   exact so (⟨rfl,⟨ok,E.keep [0,2,4],r6⟩⟩)
  refine mz E rfl rfl fun a E=>bd hF fun c8 e9 hF=>lv E ok (qaQ Tryz.underlying9 rfl rfl e9) fun a E=>lw E (qcn rfl rfl) fun a E=>pt E rfl rfl fun a E=>wn<|cg E rfl hF (fun c10 hF=>?_) fun c10 hF=>?_
  ·refine wp_exit<|qap ?_
   cases hF
   exact so (⟨rfl,⟨ok,E.keep [0,2,4],r6⟩⟩)
  refine wp_skip<|qaa<|wp_block<|qab<|mv E rfl fun a E=>lw E (qar rfl rfl (InR.inc r6 (InR.len ls_0) c7)) fun a E=>av E rfl fun a E=>wpList_nil<|qaf ?_
  cases hF
  exact qan ⟨ok,E.keep [0,2,4],(InR.inc r6 (InR.len ls_0) c7)⟩
 intro e a w _ hO
 obtain ⟨rfl,ok,E,r11⟩:=hO
 refine qaz<|qaa<|sg<|mz E rfl rfl fun a E=>bd hF fun s12 e13 hF=>lw E (qaF Tryz.underlying9 e13 rfl rfl ⟨_,rfl⟩) fun a E=>lw E (qaR (ps:=[(0,.tmp 22)]) (qs:=[(0,[vs s12])]) (cs:=[vs s12,(Value.slice none 0 0),(vs ([]))]) qde qnf rfl ⟨rfl,rfl,rfl,trivial⟩ rfl) fun a E=>qaM E ok qde rfl rfl fun b14 a w E ok=>qai E ok 0 rfl rfl rfl qgu rfl rfl ⟨rfl,rfl,rfl,trivial⟩ rfl rfl fun w ok=>wn<|wp_seq<|wp_block ?_
 obtain ⟨M25,ok,h26⟩:=qck (e:=138) (k:=5) (R:=qbt) ok
 refine bd hF fun o27 hL hF=>qax _ (fun (s:Int × Rule) a w=>∃ m28 c31 M32,m0.le m28 ∧ Ok u m28 (M32 :: [(b14,oc 114 [vs s.2.Kind,c31,vs s.2.Next])] :: [(b1,oc 114 [(vs ([])),(Value.slice none 0 0),(vs ([]))])] :: S) w ∧ Env 88 a [(0,vs s_0),(2,vp b1),(4,vi s.1),(5,vp b14)] ∧ InR .i64 s.1 ∧ s.2.Kind.length ≤ LIMS ∧ ORow 138 5 qbt m28 c31 s.2.Items M32 ∧ s.2.Next.length ≤ LIMS) (fun (b:((Rule × Int) ⊕ (Rule × Bool))) e a w=>(Sum.elim (fun b142=>e = (.exit 2) ∧ ∃ m143 c145 M146,m0.le m143 ∧ Ok u m143 (M146 :: [(b14,oc 114 [vs b142.1.Kind,c145,vs b142.1.Next])] :: [(b1,oc 114 [(vs ([])),(Value.slice none 0 0),(vs ([]))])] :: S) w ∧ Env 88 a [(0,vs s_0),(2,vp b1),(4,vi b142.2),(5,vp b14)] ∧ b142.1.Kind.length ≤ LIMS ∧ ORow 138 5 qbt m143 c145 b142.1.Items M146 ∧ b142.1.Next.length ≤ LIMS ∧ InR .i64 b142.2) (fun b150=>e = .ret ∧ qhm u m0 S b150 a w)) b) ?_ ?_ N _ a w hL ⟨m0,(Value.slice none 0 0),M25,Mem.le.refl _,ok,E.keep [0,2,4,5],r11,(Nat.le_trans (qbr e13) ls_0),h26,(Nat.zero_le _)⟩
 rotate_left
 ·as_aux_lemma =>
   intro e a w _ hO
   rcases o27 with o27 | o27
   rotate_left
   ·obtain ⟨rfl,hret⟩:=hO
    refine qag<|qae ?_
    exact fin hF hret
   have hF:=qaX hF
   obtain ⟨rfl,m116,c118,M119,hle,ok,E,l117,h120,l121,r122⟩:=hO
   have le_m0:=le_m0.trans hle
   refine qaz<|qaa<|wp_seq ?_
   obtain ⟨m123,hle,ok,hfz⟩:=(ok.frs 0 rfl).freeze
   have h124:=ORow.froz qdE h120 hle hfz (by decide)
   have le_m0:=le_m0.trans hle
   refine bd hF fun o125 hJ hF=>qa6 (Q':=fun e a w=>e = .normal ∧ ∃ c127,Ok u m123 ([(b14,oc 114 [vs o27.1.Kind,c118,vs o27.1.Next])] :: [(b1,oc 114 [vs o125.2.Kind,c127,vs o125.2.Next])] :: S) w ∧ Env 88 a [(2,vp b1),(3,vb o125.1)] ∧ o125.2.Kind.length ≤ LIMS ∧ (pL 5 qbt) m123 [c127] o125.2.Items ∧ o125.2.Next.length ≤ LIMS) ?_ ?_
   rotate_left
   ·intro e a w hO
    obtain ⟨rfl,c139,ok,E,l138,h140,l141⟩:=hO
    refine qaa<|wp_ret ?_
    exact fin hF ⟨m123,[vs o125.2.Kind,c139,vs o125.2.Next],le_m0,ok.drop.drop,E.d,⟨rv_c (cs:=[vs o125.2.Kind,c139,vs o125.2.Next]) E ok rfl qdt rfl (qac.own 1 rfl rfl),rv_t E rfl,trivial⟩,⟨_,rfl,l138,h140,l141⟩⟩
   have hF:=hJ
   refine qc8 (decide (o27.2 ≥ 0)) (fun c130=>?_) (fun c130=>?_)
   rotate_left
   ·have hF:=qbV c130 hF
    cases hF
    refine qcb [0] (Cls u m123 ([(b14,oc 114 [vs o27.1.Kind,c118,vs o27.1.Next])] :: [(b1,oc 114 [(vs ([])),(Value.slice none 0 0),(vs ([]))])] :: [])) (Cls u m123 ([(b14,oc 114 [vs o27.1.Kind,c118,vs o27.1.Next])] :: [])) (by kernel_rfl) ?_
    intro w hw
    replace ok:=qcB ok hw
    clear hw
    have le_m123:=Mem.le.refl m123
    refine qay (cl1 (cq le_m123 ok [0,1] rfl) (cq le_m123 ok [0] rfl)) fun hT=>qbk 0 E rfl (by kernel_rfl) nP hT (qam (cs:=[vs o27.1.Kind,c118,vs o27.1.Next]) qdt rfl rfl (qac.cown 0 rfl rfl)) rfl rfl fun a E=>kt 1 E rfl hT (qad rfl) fun a E=>kt 2 E rfl hT (qa2 rfl rfl) fun a E=>kt 3 E rfl hT (qad rfl) fun a E=>?_
    have E:=E.upd 78 c130 rfl
    refine qhp 4 false E rfl (by kernel_rfl) nP hT rfl rfl fun a E=>qhp 5 false E rfl (by kernel_rfl) nP hT rfl rfl fun a E=>kt 6 E rfl hT (qbq rfl rfl) fun a E=>kt 7 E rfl hT (qad rfl) fun a E=>qhp 8 false E rfl (by kernel_rfl) nP hT rfl rfl fun a E=>qhp 9 false E rfl (by kernel_rfl) nP hT rfl rfl fun a E=>qhp 10 false E rfl (by kernel_rfl) nP hT rfl rfl fun a E=>qhp 11 false E rfl (by kernel_rfl) nP hT rfl rfl fun a E=>kt 12 E rfl hT (qbq rfl rfl) fun a E=>qaZ [13] (by kernel_rfl) rfl (qa1 ?_)
    ·refine wo rfl<|qai E ok 1 rfl rfl rfl qgu rfl rfl ⟨rfl,(qbi h124),rfl,trivial⟩ rfl rfl fun w ok=>wn<|qay (cl2 (by kernel_rfl) (cq le_m123 ok [0] rfl)) fun hT=>kt 14 E rfl hT (qaq rfl) fun a E=>qcl (by kernel_rfl) ?_
     exact ⟨rfl,⟨c118,ok,E.keep [2,3],l117,h124,l121⟩⟩
   have hF:=qbW c130 hF
   refine bd hF fun r131 e132 hF=>qc8 r131 (fun c133=>?_) (fun c133=>?_)
   rotate_left
   ·have hF:=qbV c133 hF
    cases hF
    refine qcb [0] (Cls u m123 ([(b14,oc 114 [vs o27.1.Kind,c118,vs o27.1.Next])] :: [(b1,oc 114 [(vs ([])),(Value.slice none 0 0),(vs ([]))])] :: [])) (Cls u m123 ([(b14,oc 114 [vs o27.1.Kind,c118,vs o27.1.Next])] :: [])) (by kernel_rfl) ?_
    intro w hw
    replace ok:=qcB ok hw
    clear hw
    have le_m123:=Mem.le.refl m123
    refine qay (cl1 (cq le_m123 ok [0,1] rfl) (cq le_m123 ok [0] rfl)) fun hT=>qbk 0 E rfl (by kernel_rfl) nP hT (qam (cs:=[vs o27.1.Kind,c118,vs o27.1.Next]) qdt rfl rfl (qac.cown 0 rfl rfl)) rfl rfl fun a E=>kt 1 E rfl hT (qad rfl) fun a E=>kt 2 E rfl hT (qa2 rfl rfl) fun a E=>kt 3 E rfl hT (qad rfl) fun a E=>?_
    have E:=E.upd 78 c130 rfl
    refine kt 4 E rfl hT (qam (cs:=[vs o27.1.Kind,c118,vs o27.1.Next]) qdt rfl rfl (qac.cown 0 rfl rfl)) fun a E=>qaZ [5] (by kernel_rfl) rfl (qa1 ?_)
    ·refine wo rfl<|lc E qrh rfl (qge N _ o27.1 ⟨_,rfl,l117,h124,l121⟩ e132 hG ok) fun w ok a E=>wn<|qay (cl1 (cq le_m123 ok [0,1] rfl) (cq le_m123 ok [0] rfl)) fun hT=>kt 6 E rfl hT (qb5 rfl rfl) fun a E=>kt 7 E rfl hT (qad rfl) fun a E=>?_
     have E:=E.upd 82 c133 rfl
     refine qhp 8 false E rfl (by kernel_rfl) nP hT rfl rfl fun a E=>qhp 9 false E rfl (by kernel_rfl) nP hT rfl rfl fun a E=>qhp 10 false E rfl (by kernel_rfl) nP hT rfl rfl fun a E=>qhp 11 false E rfl (by kernel_rfl) nP hT rfl rfl fun a E=>kt 12 E rfl hT (qbq rfl rfl) fun a E=>qaZ [13] (by kernel_rfl) rfl (qa1 ?_)
     ·refine wo rfl<|qai E ok 1 rfl rfl rfl qgu rfl rfl ⟨rfl,(qbi h124),rfl,trivial⟩ rfl rfl fun w ok=>wn<|qay (cl2 (by kernel_rfl) (cq le_m123 ok [0] rfl)) fun hT=>kt 14 E rfl hT (qaq rfl) fun a E=>qcl (by kernel_rfl) ?_
      exact ⟨rfl,⟨c118,ok,E.keep [2,3],l117,h124,l121⟩⟩
   have hF:=qbW c133 hF
   obtain ⟨r134,e135,hF⟩:=bnd hF
   obtain rfl:=sj hF
   refine qcb [0] (Cls u m123 ([(b14,oc 114 [vs o27.1.Kind,c118,vs o27.1.Next])] :: [(b1,oc 114 [(vs ([])),(Value.slice none 0 0),(vs ([]))])] :: [])) (Cls u m123 ([(b14,oc 114 [vs o27.1.Kind,c118,vs o27.1.Next])] :: [])) (by kernel_rfl) ?_
   intro w hw
   replace ok:=qcB ok hw
   clear hw
   have le_m123:=Mem.le.refl m123
   refine qay (cl1 (cq le_m123 ok [0,1] rfl) (cq le_m123 ok [0] rfl)) fun hT=>qbk 0 E rfl (by kernel_rfl) nP hT (qam (cs:=[vs o27.1.Kind,c118,vs o27.1.Next]) qdt rfl rfl (qac.cown 0 rfl rfl)) rfl rfl fun a E=>kt 1 E rfl hT (qad rfl) fun a E=>kt 2 E rfl hT (qa2 rfl rfl) fun a E=>kt 3 E rfl hT (qad rfl) fun a E=>?_
   have E:=E.upd 78 c130 rfl
   refine kt 4 E rfl hT (qam (cs:=[vs o27.1.Kind,c118,vs o27.1.Next]) qdt rfl rfl (qac.cown 0 rfl rfl)) fun a E=>qaZ [5] (by kernel_rfl) rfl (qa1 ?_)
   ·refine wo rfl<|lc E qrh rfl (qge N _ o27.1 ⟨_,rfl,l117,h124,l121⟩ e132 hG ok) fun w ok a E=>wn<|qay (cl1 (cq le_m123 ok [0,1] rfl) (cq le_m123 ok [0] rfl)) fun hT=>kt 6 E rfl hT (qb5 rfl rfl) fun a E=>kt 7 E rfl hT (qad rfl) fun a E=>?_
    have E:=E.upd 82 c133 rfl
    refine kt 8 E rfl hT (qam (cs:=[vs o27.1.Kind,c118,vs o27.1.Next]) qdt rfl rfl (qac.cown 0 rfl rfl)) fun a E=>kt 10 E rfl hT (qad rfl) fun a E=>qaZ [9] (by kernel_rfl) rfl (qa1 ?_)
    ·refine wo rfl<|qas E qtN rfl (qiL N _ o27.1 ⟨_,rfl,l117,h124,l121⟩ e135 hG ok) rfl rfl ?_
     rintro _ w ⟨⟨rfl,ok⟩,l137⟩
     refine ⟨_,rfl,fun a E=>?_⟩
     refine wn<|qay (cl1 (cq le_m123 ok [0,1] rfl) (cq le_m123 ok [0] rfl)) fun hT=>kt 11 E rfl hT (qaG rfl rfl) fun a E=>kt 12 E rfl hT (qb5 rfl rfl) fun a E=>qaZ [13] (by kernel_rfl) rfl (qa1 ?_)
     ·refine wo rfl<|qai E ok 1 rfl rfl rfl qgu rfl rfl ⟨rfl,(qbi h124),rfl,trivial⟩ rfl rfl fun w ok=>wn<|qay (cl2 (by kernel_rfl) (cq le_m123 ok [0] rfl)) fun hT=>kt 14 E rfl hT (qaq rfl) fun a E=>qcl (by kernel_rfl) ?_
      exact ⟨rfl,⟨c118,ok,E.keep [2,3],l117,h124,l121⟩⟩
 rintro ⟨v35,v36⟩ a w r ⟨m37,c40,M41,hle,ok,E,r38,l39,h42,l43⟩ hF
 replace hF:qfi N s_0 v35 v36 = some r:=hF
 unfold qfi at hF
 have le_m0:=le_m0.trans hle
 refine wp_seq<|sg<|mv E rfl fun a E=>lw E (qa2 rfl rfl) fun a E=>mv E rfl fun a E=>bw E 26 hF (fun c44 hF E=>?_) fun c44 hF E=>?_
 ·refine lsz E fun a E=>pf E rfl rfl fun a E=>wn<|c_if E rfl (fun h=>by cases h) (fun _=>?_)
  refine wp_exit<|qap ?_
  cases hF
  exact so (sl ⟨rfl,⟨m37,c40,M41,le_m0,ok,E.keep [0,2,4,5],l39,h42,l43,r38⟩⟩)
 refine mz E rfl rfl fun a E=>lw E (qaA Tryz.underlying9 rfl) fun a E=>lw E (qat rfl rfl) fun a E=>pt E rfl rfl fun a E=>wn<|cg E rfl hF (fun c45 hF=>?_) fun c45 hF=>?_
 ·refine wp_exit<|qap ?_
  cases hF
  exact so (sl ⟨rfl,⟨m37,c40,M41,le_m0,ok,E.keep [0,2,4,5],l39,h42,l43,r38⟩⟩)
 refine wp_skip<|qaa<|wp_block<|wp_seq<|sg<|fk E ok qcv qea rfl 1 rfl rfl fun a E=>lv E ok (qno qcm h42 rfl) fun a E=>lw E (qbN rfl rfl) fun a E=>mv E rfl fun a E=>bw E 36 hF (fun c46 hF E=>?_) fun c46 hF E=>?_
 ·refine lsz E fun a E=>ls E fun a E=>pf E rfl rfl fun a E=>mv E rfl fun a E=>lsz E fun a E=>lsq E fun a E=>pf E rfl rfl fun a E=>wn<|c_if E rfl (fun h=>by cases h) (fun _=>?_)
  refine wp_skip<|qaa<|sg<|mz E rfl rfl fun a E=>lw E (qar rfl rfl (InR.inc r38 (InR.len ls_0) c45)) fun a E=>bd hF fun r96 e97 hF=>qas E qrE rfl (qfN N s_0 ls_0 (v35 + 1) (InR.inc r38 (InR.len ls_0) c45) e97 hG ok) rfl rfl ?_
  rintro _ w ⟨m98,vs99,rfl,hle,ok,h100,r101⟩
  have le_m0:=le_m0.trans hle
  have h42:=ORow.up qdE hle h42
  obtain ⟨c103,rfl,l102,h104,r105,r106⟩:=h100
  refine ⟨_,rfl,fun a E=>?_⟩
  refine mv E rfl fun a E=>lw E (qao rfl rfl) fun a E=>lw E (qao rfl rfl) fun a E=>qaM E ok qbp rfl rfl fun b107 a w E ok=>qai E ok 0 rfl rfl rfl qbg rfl rfl ⟨rfl,(qbi h104),rfl,rfl,rfl,trivial⟩ rfl rfl fun w ok=>aw E rfl fun a E=>qab<|fk E ok qcv qea rfl 2 rfl rfl fun a E=>lv E ok (qam (cs:=[vs r96.1.Text,c103,vb r96.1.Not,vi r96.1.Least,vi r96.1.Most]) qaU rfl rfl (qac.own 0 rfl rfl)) fun a E=>qaT (R:=qbt) (xo:=[.tmp 70]) (xs:=([r96.1]:List (Item))) E ok qcm qbp rfl ⟨⟨_,rfl,rfl,⟨_,rfl,l102,h104,r105,r106⟩⟩,trivial⟩ rfl rfl rfl rfl fun c108 M109 a w E ok h110=>bd hF fun l111 e112 hF=>qbR (R:=qbt) E ok 2 qdE qcm Tryz.underlying112 rfl h42 (qa3.ofRow h110 0 rfl ok) e112 ⟨_,qbp,rfl⟩ rfl rfl rfl rfl fun c113 M114 a w E ok h115=>mv E rfl fun a E=>fv E qcv rfl fun a E=>qai E ok 3 rfl rfl rfl qnU (ORow.cells h115) rfl ⟨(ORow.one h115),trivial⟩ rfl rfl fun w ok=>av E rfl fun a E=>wpList_nil<|qaf ?_
  cases hF
  exact qan ⟨m98,c113,M114,le_m0,(ok.pk 5 [2,3,4] rfl (by decide)),E.keep [0,2,4,5],r101,l39,h115,l43⟩
 refine mv E rfl fun a E=>lw E (qav rfl rfl) fun a E=>mv E rfl fun a E=>lw E (qaA Tryz.underlying9 rfl) fun a E=>lw E (qb2 rfl rfl) fun a E=>pt E rfl rfl fun a E=>mv E rfl fun a E=>bw E 43 hF (fun c47 hF E=>?_) fun c47 hF E=>?_
 ·refine lsz E fun a E=>lsq E fun a E=>pf E rfl rfl fun a E=>wn<|c_if E rfl (fun h=>by cases h) (fun _=>?_)
  refine wp_skip<|qaa<|sg<|mz E rfl rfl fun a E=>lw E (qar rfl rfl (InR.inc r38 (InR.len ls_0) c45)) fun a E=>bd hF fun r76 e77 hF=>qas E qrE rfl (qfN N s_0 ls_0 (v35 + 1) (InR.inc r38 (InR.len ls_0) c45) e77 hG ok) rfl rfl ?_
  rintro _ w ⟨m78,vs79,rfl,hle,ok,h80,r81⟩
  have le_m0:=le_m0.trans hle
  have h42:=ORow.up qdE hle h42
  obtain ⟨c83,rfl,l82,h84,r85,r86⟩:=h80
  refine ⟨_,rfl,fun a E=>?_⟩
  refine mv E rfl fun a E=>lw E (qao rfl rfl) fun a E=>lw E (qao rfl rfl) fun a E=>qaM E ok qbp rfl rfl fun b87 a w E ok=>qai E ok 0 rfl rfl rfl qbg rfl rfl ⟨rfl,(qbi h84),rfl,rfl,rfl,trivial⟩ rfl rfl fun w ok=>aw E rfl fun a E=>qab<|fk E ok qcv qea rfl 2 rfl rfl fun a E=>lv E ok (qam (cs:=[vs r76.1.Text,c83,vb r76.1.Not,vi r76.1.Least,vi r76.1.Most]) qaU rfl rfl (qac.own 0 rfl rfl)) fun a E=>qaT (R:=qbt) (xo:=[.tmp 70]) (xs:=([r76.1]:List (Item))) E ok qcm qbp rfl ⟨⟨_,rfl,rfl,⟨_,rfl,l82,h84,r85,r86⟩⟩,trivial⟩ rfl rfl rfl rfl fun c88 M89 a w E ok h90=>bd hF fun l91 e92 hF=>qbR (R:=qbt) E ok 2 qdE qcm Tryz.underlying112 rfl h42 (qa3.ofRow h90 0 rfl ok) e92 ⟨_,qbp,rfl⟩ rfl rfl rfl rfl fun c93 M94 a w E ok h95=>mv E rfl fun a E=>fv E qcv rfl fun a E=>qai E ok 3 rfl rfl rfl qnU (ORow.cells h95) rfl ⟨(ORow.one h95),trivial⟩ rfl rfl fun w ok=>av E rfl fun a E=>wpList_nil<|qaf ?_
  cases hF
  exact qan ⟨m78,c93,M94,le_m0,(ok.pk 5 [2,3,4] rfl (by decide)),E.keep [0,2,4,5],r81,l39,h95,l43⟩
 refine mz E rfl rfl fun a E=>mv E rfl fun a E=>lw E (qav rfl rfl) fun a E=>bd hF fun s48 e49 hF=>lw E (qaF Tryz.underlying9 e49 rfl ⟨_,rfl⟩ ⟨_,rfl⟩) fun a E=>lw E (qaG rfl rfl) fun a E=>pt E rfl rfl fun a E=>wn<|cg E rfl hF (fun c50 hF=>?_) fun c50 hF=>?_
 ·refine wp_skip<|qaa<|sg<|mz E rfl rfl fun a E=>lw E (qar rfl rfl (InR.inc r38 (InR.len ls_0) c45)) fun a E=>bd hF fun r56 e57 hF=>qas E qrE rfl (qfN N s_0 ls_0 (v35 + 1) (InR.inc r38 (InR.len ls_0) c45) e57 hG ok) rfl rfl ?_
  rintro _ w ⟨m58,vs59,rfl,hle,ok,h60,r61⟩
  have le_m0:=le_m0.trans hle
  have h42:=ORow.up qdE hle h42
  obtain ⟨c63,rfl,l62,h64,r65,r66⟩:=h60
  refine ⟨_,rfl,fun a E=>?_⟩
  refine mv E rfl fun a E=>lw E (qao rfl rfl) fun a E=>lw E (qao rfl rfl) fun a E=>qaM E ok qbp rfl rfl fun b67 a w E ok=>qai E ok 0 rfl rfl rfl qbg rfl rfl ⟨rfl,(qbi h64),rfl,rfl,rfl,trivial⟩ rfl rfl fun w ok=>aw E rfl fun a E=>qab<|fk E ok qcv qea rfl 2 rfl rfl fun a E=>lv E ok (qam (cs:=[vs r56.1.Text,c63,vb r56.1.Not,vi r56.1.Least,vi r56.1.Most]) qaU rfl rfl (qac.own 0 rfl rfl)) fun a E=>qaT (R:=qbt) (xo:=[.tmp 70]) (xs:=([r56.1]:List (Item))) E ok qcm qbp rfl ⟨⟨_,rfl,rfl,⟨_,rfl,l62,h64,r65,r66⟩⟩,trivial⟩ rfl rfl rfl rfl fun c68 M69 a w E ok h70=>bd hF fun l71 e72 hF=>qbR (R:=qbt) E ok 2 qdE qcm Tryz.underlying112 rfl h42 (qa3.ofRow h70 0 rfl ok) e72 ⟨_,qbp,rfl⟩ rfl rfl rfl rfl fun c73 M74 a w E ok h75=>mv E rfl fun a E=>fv E qcv rfl fun a E=>qai E ok 3 rfl rfl rfl qnU (ORow.cells h75) rfl ⟨(ORow.one h75),trivial⟩ rfl rfl fun w ok=>av E rfl fun a E=>wpList_nil<|qaf ?_
  cases hF
  exact qan ⟨m58,c73,M74,le_m0,(ok.pk 5 [2,3,4] rfl (by decide)),E.keep [0,2,4,5],r61,l39,h75,l43⟩
 refine sg<|mz E rfl rfl fun a E=>lw E (qav rfl rfl) fun a E=>bd hF fun s51 e52 hF=>lw E (qaF Tryz.underlying9 e52 rfl ⟨_,rfl⟩ rfl) fun a E=>fv E qfK rfl fun a E=>qai E ok 1 rfl rfl rfl qgB rfl rfl ⟨rfl,trivial⟩ rfl rfl fun w ok=>wn<|wp_seq<|sg<|fk E ok qfK qal rfl 1 rfl rfl fun a E=>bd hF fun r53 e54 hF=>lc E qoP rfl (qfq N s51 (Nat.le_trans (qbr e52) ls_0) e54 hG ok) fun w ok a E=>lw E (qbj rfl) fun a E=>wn<|cg E rfl hF (fun c55 hF=>?_) fun c55 hF=>?_
 ·refine wp_skip<|qaa<|wp_exit<|qap<|qjy rfl ?_
  cases hF
  exact so (sl ⟨rfl,⟨m37,c40,M41,le_m0,ok,E.keep [0,2,4,5],l39,h42,(Nat.le_trans (qbr e52) ls_0),r38⟩⟩)
 refine sg<|lw E (qaR (ps:=[]) (qs:=[]) (cs:=[(vs ([])),(Value.slice none 0 0),(vs ([]))]) qde qnf rfl trivial rfl) fun a E=>qai E ok 2 rfl rfl rfl qgu rfl rfl ⟨rfl,rfl,rfl,trivial⟩ rfl rfl fun w ok=>aw E rfl fun a E=>wp_ret<|qae<|qae<|qag ?_
 cases hF
 exact so (sr ⟨rfl,⟨m37,[(vs ([])),(Value.slice none 0 0),(vs ([]))],le_m0,ok.drop.drop.drop,E.d,⟨rv_c (cs:=[(vs ([])),(Value.slice none 0 0),(vs ([]))]) E ok rfl qdt rfl (qac.own 2 rfl rfl),rv_t E rfl,trivial⟩,⟨_,rfl,(Nat.zero_le _),qa9,(Nat.zero_le _)⟩⟩⟩)
end Go.Proofs.YtllfckekodcdaaaGreatDoor
namespace Go.Proofs.YtllfckekodcdaaaGreatDoor
open Go.X
variable {u:World} {m0:Mem} {S:Segs} {w:World}
set_option maxHeartbeats 4000000
set_option maxRecDepth 100000
def qd5 (u:World) (m0:Mem) (S:Segs) (r:(List (State)) × Int × Int) (a:Act) (w:World):Prop :=
 ∃ m1 v0,m0.le m1 ∧ Ok u m1 S w ∧ a.defers = [] ∧ RVs Tryz.prog a w [.t 2 v0,.t 3 (.int .i64 r.2.1),.t 4 (.int .i64 r.2.2)] ∧ (pL 2 qbA) m1 [v0] r.1 ∧ InR .i64 r.2.1 ∧ InR .i64 r.2.2
theorem qlg (N:Nat) (s_0:List UInt8) (ls_0:s_0.length ≤ LIMS) {r:(List (State)) × Int × Int} (hF:qhi N s_0 = some r) (hG:Glob u) (ok:Ok u m0 S w) :
  Calls Tryz.prog 27 [vs s_0].toArray w fun e w'=>∃ m1 v0,e = .returned (.tuple [v0,(.int .i64 r.2.1),(.int .i64 r.2.2)].toArray) ∧ m0.le m1 ∧ Ok u m1 S w' ∧ (pL 2 qbA) m1 [v0] r.1 ∧ InR .i64 r.2.1 ∧ InR .i64 r.2.2:=by
 have le_m0:=Mem.le.refl m0
 unfold qhi at hF
 refine en (qd5 u m0 S) r Tryz.func27 rfl rfl rfl (by rintro a w ⟨m1,v0,hle,ok,hd,hrv,h0,h1,h2⟩; exact qbs [.t 2 v0,.t 3 (.int .i64 r.2.1),.t 4 (.int .i64 r.2.2)] hd rfl hrv ⟨m1,v0,rfl,hle,ok,h0,h1,h2⟩) fun fin a E=>sg<|av E rfl fun a E=>av E rfl fun a E=>aw E rfl fun a E=>sg<|aw E rfl fun a E=>sg<|av E rfl fun a E=>aw E rfl fun a E=>wp_seq<|sg<|av E rfl fun a E=>wn<|wp_block ?_
 obtain ⟨M10,ok,h11⟩:=qqv (e:=108) (k:=2) (R:=qcP) ok
 refine bd hF fun o12 hL hF=>qax _ (fun (s:(List (State)) × Int × Int × Int) a w=>∃ m13 c14 M15,m0.le m13 ∧ Ok u m13 (M15 :: S) w ∧ Env 88 a [(0,vs s_0),(5,c14),(6,vi s.2.1),(7,vi s.2.2.1),(8,vi s.2.2.2)] ∧ NRow 108 2 qcP m13 c14 s.1 M15 ∧ InR .i64 s.2.1 ∧ InR .i64 s.2.2.1 ∧ InR .i64 s.2.2.2) (fun (b:(((List (State)) × Int × Int) ⊕ ((List (State)) × Int × Int))) e a w=>(Sum.elim (fun b341=>e = (.exit 0) ∧ ∃ m342 c343 M344,m0.le m342 ∧ Ok u m342 (M344 :: S) w ∧ Env 88 a [(0,vs s_0),(5,c343),(6,vi b341.2.1),(7,vi b341.2.2)] ∧ NRow 108 2 qcP m342 c343 b341.1 M344 ∧ InR .i64 b341.2.1 ∧ InR .i64 b341.2.2) (fun b348=>e = .ret ∧ qd5 u m0 S b348 a w)) b) ?_ ?_ N _ a w hL ⟨m0,(Value.slice none 0 0),M10,Mem.le.refl _,ok,E.keep [0,5,6,7,8],h11,(ir 0),(ir 0),(ir 0)⟩
 rotate_left
 ·as_aux_lemma =>
   intro e a w _ hO
   rcases o12 with o12 | o12
   rotate_left
   ·obtain ⟨rfl,hret⟩:=hO
    refine qag<|qae ?_
    exact fin hF hret
   have hF:=qaX hF
   obtain ⟨rfl,m324,c325,M326,hle,ok,E,h327,r328,r329⟩:=hO
   have le_m0:=le_m0.trans hle
   refine qaz<|qaa<|wp_seq<|sg<|mz E rfl rfl fun a E=>lw E (qaA Tryz.underlying9 rfl) fun a E=>lw E (qat rfl rfl) fun a E=>wn<|cf E rfl hF (fun c330 hF=>?_) fun c330 hF=>?_
   ·refine sg<|mv E rfl fun a E=>av E rfl fun a E=>av E rfl fun a E=>aw E rfl fun a E=>wp_ret<|qae ?_
    exact fin hF ⟨m324,(.slice none 0 0),le_m0,ok.drop,E.d,⟨rv_t E rfl,rv_t E rfl,rv_t E rfl,trivial⟩,qa9,r329,(ir 3)⟩
   refine wp_skip<|qaa<|wp_seq<|sg<|mv E rfl fun a E=>?_
   obtain ⟨r336,e337,hF⟩:=bnd hF
   obtain ⟨m331,hle333,ok332,hfz334⟩:=(ok.frs 0 rfl).freeze
   have h335:=NRow.froz qkY h327 hle333 hfz334 (by decide)
   refine qas E qoS rfl (qe8 N _ o12.1 h335 e337 hG ok332) rfl rfl ?_
   rintro _ w ⟨rfl,okz⟩
   replace ok:=(Ok.thawAt 0 rfl ok hle333 hfz334 okz)
   refine ⟨_,rfl,fun a E=>?_⟩
   refine lw E (qbj rfl) fun a E=>wn<|cf E rfl hF (fun c338 hF=>?_) fun c338 hF=>?_
   ·refine sg<|av E rfl fun a E=>av E rfl fun a E=>aw E rfl fun a E=>wp_ret<|qae ?_
    exact fin hF ⟨m324,(.slice none 0 0),le_m0,ok.drop,E.d,⟨rv_t E rfl,rv_t E rfl,rv_t E rfl,trivial⟩,qa9,(ir 0),(ir 1)⟩
   refine wp_skip<|qaa<|sg<|mv E rfl fun a E=>av E rfl fun a E=>av E rfl fun a E=>av E rfl fun a E=>wn<|wp_ret ?_
   obtain ⟨m339,hle,ok,hfz⟩:=(ok.frs 0 rfl).freeze
   have h340:=NRow.froz qkY h327 hle hfz (by decide)
   have le_m0:=le_m0.trans hle
   exact fin hF ⟨m339,c325,le_m0,ok,E.d,⟨rv_t E rfl,rv_t E rfl,rv_t E rfl,trivial⟩,h340,(ir 0),(ir 0)⟩
 rintro ⟨v20,v21,v22,v23⟩ a w r ⟨m24,c25,M26,hle,ok,E,h27,r28,r29,r30⟩ hF
 replace hF:qgc N s_0 v20 v21 v22 v23 = some r:=hF
 unfold qgc at hF
 have le_m0:=le_m0.trans hle
 refine wp_seq<|sg<|mz E rfl rfl fun a E=>lw E (qaA Tryz.underlying9 rfl) fun a E=>lw E (qat rfl rfl) fun a E=>wn<|cg E rfl hF (fun c31 hF=>?_) fun c31 hF=>?_
 ·refine wp_exit<|qap ?_
  cases hF
  exact so (sl ⟨rfl,⟨m24,c25,M26,le_m0,ok,E.keep [0,5,6,7],h27,r28,r29⟩⟩)
 refine wp_skip<|qaa<|wp_seq<|wp_block<|wp_seq<|sg<|mv E rfl fun a E=>mv E rfl fun a E=>bd hF fun c32 e33 hF=>lv E ok (qaQ Tryz.underlying9 rfl rfl e33) fun a E=>lw E (qcn rfl rfl) fun a E=>wn<|cf E rfl hF (fun c34 hF=>?_) fun c34 hF=>?_
 ·refine wp_exit<|qap<|qaz<|qaa<|qab<|mv E rfl fun a E=>lw E (qar rfl rfl (InR.inc r30 (InR.len ls_0) c31)) fun a E=>av E rfl fun a E=>wpList_nil ?_
  cases hF
  exact qan ⟨m24,c25,M26,le_m0,ok,E.keep [0,5,6,7,8],h27,r28,r29,(InR.inc r30 (InR.len ls_0) c31)⟩
 refine wp_skip<|qaa<|sg<|mz E rfl rfl fun a E=>mv E rfl fun a E=>bd hF fun s35 e36 hF=>lw E (qaF Tryz.underlying9 e36 rfl ⟨_,rfl⟩ ⟨_,rfl⟩) fun a E=>aw E rfl fun a E=>sg<|mv E rfl fun a E=>bd hF fun r37 e38 hF=>qas E qwO rfl (qj4 N s35 (Nat.le_trans (qbr e36) ls_0) e38 hG ok) rfl rfl ?_
 rintro _ w ⟨m39,vs40,rfl,hle,ok,h41⟩
 have le_m0:=le_m0.trans hle
 have h27:=NRow.up qoy hle h27
 obtain ⟨c43,rfl,l42,h44,l45⟩:=h41
 refine ⟨_,rfl,fun a E=>?_⟩
 refine mv E rfl fun a E=>lw E (qao rfl rfl) fun a E=>lw E (qao rfl rfl) fun a E=>qaM E ok qde rfl rfl fun b46 a w E ok=>qai E ok 0 rfl rfl rfl qgu rfl rfl ⟨rfl,(qbi h44),rfl,trivial⟩ rfl rfl fun w ok=>aw E rfl fun a E=>wp_seq<|wp_block<|sg<|mv E rfl fun a E=>lw E (qaA Tryz.underlying9 rfl) fun a E=>lw E (qbN rfl rfl) fun a E=>mv E rfl fun a E=>bw E 36 hF (fun c47 hF E=>?_) fun c47 hF E=>?_
 ·as_aux_lemma =>
   refine lsq E fun a E=>ls E fun a E=>pf E rfl rfl fun a E=>mv E rfl fun a E=>lsq E fun a E=>ls E fun a E=>pf E rfl rfl fun a E=>aw E rfl fun a E=>c_if E rfl (fun h=>by cases h) (fun _=>?_)
   refine sg<|mz E rfl rfl fun a E=>qc8 r37.2 (fun c241=>?_) (fun c241=>?_)
   rotate_left
   ·have hF:=qbV c241 hF
    have E:=E.upd 54 c241 rfl
    refine lsq E fun a E=>ls E fun a E=>pf E rfl rfl fun a E=>aw E rfl fun a E=>c_if E rfl (fun h=>by cases h) (fun _=>?_)
    refine sg<|mv E rfl fun a E=>av E rfl fun a E=>av E rfl fun a E=>aw E rfl fun a E=>wp_ret<|qag<|qae<|qag<|qae ?_
    cases hF
    exact so (sr ⟨rfl,⟨m39,(.slice none 0 0),le_m0,ok.drop.drop,E.d,⟨rv_t E rfl,rv_t E rfl,rv_t E rfl,trivial⟩,qa9,r29,(ir 3)⟩⟩)
   have hF:=qbW c241 hF
   have E:=E.upd 54 c241 rfl
   refine mv E rfl fun a E=>lv E ok (qlm qbu h27 rfl) fun a E=>lw E (qbN rfl rfl) fun a E=>pt E rfl rfl fun a E=>aw E rfl fun a E=>cg E rfl hF (fun c242 hF=>?_) fun c242 hF=>?_
   ·refine sg<|mv E rfl fun a E=>av E rfl fun a E=>av E rfl fun a E=>aw E rfl fun a E=>wp_ret<|qag<|qae<|qag<|qae ?_
    cases hF
    exact so (sr ⟨rfl,⟨m39,(.slice none 0 0),le_m0,ok.drop.drop,E.d,⟨rv_t E rfl,rv_t E rfl,rv_t E rfl,trivial⟩,qa9,r29,(ir 3)⟩⟩)
   refine bd hF fun o243 hJ hF=>qa6 (Q':=fun e a w=>e = .normal ∧ ∃ c244 M245,Ok u m39 ([(b46,oc 114 [vs r37.1.Kind,c43,vs r37.1.Next])] :: M245 :: S) w ∧ Env 88 a [(0,vs s_0),(5,c244),(7,vi v22),(8,vi v23)] ∧ NRow 108 2 qcP m39 c244 o243 M245) ?_ ?_
   rotate_left
   ·intro e a w hO
    obtain ⟨rfl,c321,M322,ok,E,h323⟩:=hO
    refine qaf<|qaa<|qab<|mv E rfl fun a E=>lw E (qar rfl rfl (InR.inc r30 (InR.len ls_0) c31)) fun a E=>mv E rfl fun a E=>lw E (qav rfl rfl) fun a E=>av E rfl fun a E=>av E rfl fun a E=>wpList_nil<|qaf<|qaa<|qab<|mv E rfl fun a E=>lw E (qar rfl rfl (InR.inc r30 (InR.len ls_0) c31)) fun a E=>av E rfl fun a E=>wpList_nil ?_
    cases hF
    exact qan ⟨m39,c321,M322,le_m0,(ok.pk 2 [1] rfl (by decide)),E.keep [0,5,6,7,8],h323,(InR.inc r30 (InR.len ls_0) c31),(InR.wrap _ _),(InR.inc r30 (InR.len ls_0) c31)⟩
   have hF:=hJ
   obtain ⟨x247,e248,hF⟩:=bnd hF
   obtain ⟨l270,e271,hF⟩:=bnd hF
   obtain ⟨x275,e276,hF⟩:=bnd hF
   obtain rfl:=sj hF
   replace ok:Ok u m39 (M26 :: [(b46,oc 114 [vs r37.1.Kind,c43,vs r37.1.Next])] :: S) w:=(ok.pk 2 [1,0] rfl (by decide))
   obtain ⟨cs287,c288,M289,M290,M291,ok,hr292,hx293,he294,hh295⟩:=NRow.open h27 e248 ok
   obtain ⟨c297,rfl,l296,h298⟩:=he294
   refine qcb [10,11] (Cls u m39 (M289 :: [(b46,oc 114 [vs r37.1.Kind,c43,vs r37.1.Next])] :: [])) (Cls u m39 ([(b46,oc 114 [vs r37.1.Kind,c43,vs r37.1.Next])] :: [])) (by kernel_rfl) ?_
   intro w hw
   replace ok:=qcB ok hw
   clear hw
   have le_m39:=Mem.le.refl m39
   refine qay (cl1 (cq le_m39 ok [0,3] rfl) (cq le_m39 ok [3] rfl)) fun hT=>kt 0 E rfl hT (qad rfl) fun a E=>kt 1 E rfl hT (qad rfl) fun a E=>kt 2 E rfl hT (qfw qbu hr292 hh295 rfl) fun a E=>kt 3 E rfl hT (qjH rfl rfl (InR.dec (NRow.InR h27) (ir 0) c242)) fun a E=>kt 4 E rfl hT (qad rfl) fun a E=>kt 5 E rfl hT (qad rfl) fun a E=>kt 6 E rfl hT (qfw qbu hr292 hh295 rfl) fun a E=>kt 7 E rfl hT (qjH rfl rfl (InR.dec (NRow.InR h27) (ir 0) c242)) fun a E=>?_
   obtain ⟨b299,o300,hp301,yy302⟩:=qgF qbu hr292 hx293 (P:=Tryz.prog) (X:=.tmp 63) (I:=.tmp 66) (kd:=.i64) (qaC E rfl) (qaC E rfl)
   refine kt 8 E rfl hT (yy302 _ _) fun a E=>kt 9 E rfl hT (qak qcx rfl) fun a E=>?_
   obtain ⟨hl303,hh304⟩:=qdK hr292 hx293 hp301 (by decide)
   refine qbk 10 E rfl (by kernel_rfl) nP hT (qah qd6 rfl (qac.sub 1 1 (qac.crow hh304 0 rfl))) rfl rfl fun a E=>qbk 11 E rfl (by kernel_rfl) nP hT (qam (cs:=[vs r37.1.Kind,c43,vs r37.1.Next]) qdt rfl rfl (qac.cown 1 rfl rfl)) rfl rfl fun a E=>qaZ [12] (by kernel_rfl) rfl (qa1 ?_)
   ·refine wo rfl<|qaT (R:=qdC) (xo:=[.tmp 70]) (xs:=([r37.1]:List (Rule))) E ok qdZ qde rfl ⟨⟨_,rfl,rfl,⟨_,rfl,l42,h44,l45⟩⟩,trivial⟩ rfl rfl rfl rfl fun c305 M306 a w E ok h307=>wn<|qay (cl1 (cq le_m39 ok [1,4] rfl) (cq le_m39 ok [4] rfl)) fun hT=>qaZ [13] (by kernel_rfl) rfl (qa1 ?_)
    ·refine wo rfl<|qbR (R:=qdC) E ok 2 qdO qdZ Tryz.underlying106 rfl h298 (qa3.ofRow h307 0 rfl ok) e271 ⟨_,qde,rfl⟩ rfl rfl rfl rfl fun c308 M309 a w E ok h310=>wn<|qay (cl1 (cq le_m39 ok [1,4] rfl) (cq le_m39 ok [4] rfl)) fun hT=>?_
     obtain ⟨b311,o312,hp313,yy314⟩:=qgF qbu hr292 hx293 (P:=Tryz.prog) (X:=.tmp 59) (I:=.tmp 62) (kd:=.i64) (qaC E rfl) (qaC E rfl)
     refine kt 14 E rfl hT (yy314 _ _) fun a E=>kt 15 E rfl hT (qak qcx rfl) fun a E=>qaZ [16] (by kernel_rfl) rfl (qa1 ?_)
     ·refine wo rfl<|qgR (f:=1) (c':=[vs x247.Name,c308]) E ok 1 rfl hr292 hx293 hp313 rfl rfl rfl qnL (ORow.cells h310) rfl rfl ⟨(ORow.one h310),trivial⟩ rfl ⟨rfl,(ORow.one h310),trivial⟩ rfl fun M315 w ok hr316 hx317=>?_
      have hh318:=qeu.set (c':=[vs x247.Name,c308]) hh295
      refine wn<|qay (cl2 (by kernel_rfl) (cq le_m39 ok [4] rfl)) fun hT=>qcl (by kernel_rfl) ?_
      replace ok:Ok u m39 (M315 :: M309 :: M291 :: M306 :: [(b46,oc 114 [vs r37.1.Kind,c43,vs r37.1.Next])] :: S) w:=(ok.pk 5 [1,2,3,0,4] rfl (by decide))
      obtain ⟨M319,ok,h320⟩:=NRow.close e248 ok hr316 hx317 (show qcP m39 [vs x247.Name,c308] (State.mk x247.Name l270) M309 from ⟨_,rfl,l296,h310⟩) hh318
      exact ⟨rfl,⟨c25,M319,(ok.pk 3 [2,0] rfl (by decide)),E.keep [0,5,7,8],h320⟩⟩
 refine mv E rfl fun a E=>bd hF fun s48 e49 hF=>lw E (qaF Tryz.underlying9 e49 rfl rfl ⟨_,rfl⟩) fun a E=>lw E (qaG rfl rfl) fun a E=>pt E rfl rfl fun a E=>mv E rfl fun a E=>bw E 41 hF (fun c50 hF E=>?_) fun c50 hF E=>?_
 ·as_aux_lemma =>
   refine lsq E fun a E=>ls E fun a E=>pf E rfl rfl fun a E=>aw E rfl fun a E=>c_if E rfl (fun h=>by cases h) (fun _=>?_)
   refine sg<|mz E rfl rfl fun a E=>qc8 r37.2 (fun c158=>?_) (fun c158=>?_)
   rotate_left
   ·have hF:=qbV c158 hF
    have E:=E.upd 54 c158 rfl
    refine lsq E fun a E=>ls E fun a E=>pf E rfl rfl fun a E=>aw E rfl fun a E=>c_if E rfl (fun h=>by cases h) (fun _=>?_)
    refine sg<|mv E rfl fun a E=>av E rfl fun a E=>av E rfl fun a E=>aw E rfl fun a E=>wp_ret<|qag<|qae<|qag<|qae ?_
    cases hF
    exact so (sr ⟨rfl,⟨m39,(.slice none 0 0),le_m0,ok.drop.drop,E.d,⟨rv_t E rfl,rv_t E rfl,rv_t E rfl,trivial⟩,qa9,r29,(ir 3)⟩⟩)
   have hF:=qbW c158 hF
   have E:=E.upd 54 c158 rfl
   refine mv E rfl fun a E=>lv E ok (qlm qbu h27 rfl) fun a E=>lw E (qbN rfl rfl) fun a E=>pt E rfl rfl fun a E=>aw E rfl fun a E=>cg E rfl hF (fun c159 hF=>?_) fun c159 hF=>?_
   ·refine sg<|mv E rfl fun a E=>av E rfl fun a E=>av E rfl fun a E=>aw E rfl fun a E=>wp_ret<|qag<|qae<|qag<|qae ?_
    cases hF
    exact so (sr ⟨rfl,⟨m39,(.slice none 0 0),le_m0,ok.drop.drop,E.d,⟨rv_t E rfl,rv_t E rfl,rv_t E rfl,trivial⟩,qa9,r29,(ir 3)⟩⟩)
   refine bd hF fun o160 hJ hF=>qa6 (Q':=fun e a w=>e = .normal ∧ ∃ c161 M162,Ok u m39 ([(b46,oc 114 [vs r37.1.Kind,c43,vs r37.1.Next])] :: M162 :: S) w ∧ Env 88 a [(0,vs s_0),(5,c161),(7,vi v22),(8,vi v23)] ∧ NRow 108 2 qcP m39 c161 o160 M162) ?_ ?_
   rotate_left
   ·intro e a w hO
    obtain ⟨rfl,c238,M239,ok,E,h240⟩:=hO
    refine qaf<|qaa<|qab<|mv E rfl fun a E=>lw E (qar rfl rfl (InR.inc r30 (InR.len ls_0) c31)) fun a E=>mv E rfl fun a E=>lw E (qav rfl rfl) fun a E=>av E rfl fun a E=>av E rfl fun a E=>wpList_nil<|qaf<|qaa<|qab<|mv E rfl fun a E=>lw E (qar rfl rfl (InR.inc r30 (InR.len ls_0) c31)) fun a E=>av E rfl fun a E=>wpList_nil ?_
    cases hF
    exact qan ⟨m39,c238,M239,le_m0,(ok.pk 2 [1] rfl (by decide)),E.keep [0,5,6,7,8],h240,(InR.inc r30 (InR.len ls_0) c31),(InR.wrap _ _),(InR.inc r30 (InR.len ls_0) c31)⟩
   have hF:=hJ
   obtain ⟨x164,e165,hF⟩:=bnd hF
   obtain ⟨l187,e188,hF⟩:=bnd hF
   obtain ⟨x192,e193,hF⟩:=bnd hF
   obtain rfl:=sj hF
   replace ok:Ok u m39 (M26 :: [(b46,oc 114 [vs r37.1.Kind,c43,vs r37.1.Next])] :: S) w:=(ok.pk 2 [1,0] rfl (by decide))
   obtain ⟨cs204,c205,M206,M207,M208,ok,hr209,hx210,he211,hh212⟩:=NRow.open h27 e165 ok
   obtain ⟨c214,rfl,l213,h215⟩:=he211
   refine qcb [10,11] (Cls u m39 (M206 :: [(b46,oc 114 [vs r37.1.Kind,c43,vs r37.1.Next])] :: [])) (Cls u m39 ([(b46,oc 114 [vs r37.1.Kind,c43,vs r37.1.Next])] :: [])) (by kernel_rfl) ?_
   intro w hw
   replace ok:=qcB ok hw
   clear hw
   have le_m39:=Mem.le.refl m39
   refine qay (cl1 (cq le_m39 ok [0,3] rfl) (cq le_m39 ok [3] rfl)) fun hT=>kt 0 E rfl hT (qad rfl) fun a E=>kt 1 E rfl hT (qad rfl) fun a E=>kt 2 E rfl hT (qfw qbu hr209 hh212 rfl) fun a E=>kt 3 E rfl hT (qjH rfl rfl (InR.dec (NRow.InR h27) (ir 0) c159)) fun a E=>kt 4 E rfl hT (qad rfl) fun a E=>kt 5 E rfl hT (qad rfl) fun a E=>kt 6 E rfl hT (qfw qbu hr209 hh212 rfl) fun a E=>kt 7 E rfl hT (qjH rfl rfl (InR.dec (NRow.InR h27) (ir 0) c159)) fun a E=>?_
   obtain ⟨b216,o217,hp218,yy219⟩:=qgF qbu hr209 hx210 (P:=Tryz.prog) (X:=.tmp 63) (I:=.tmp 66) (kd:=.i64) (qaC E rfl) (qaC E rfl)
   refine kt 8 E rfl hT (yy219 _ _) fun a E=>kt 9 E rfl hT (qak qcx rfl) fun a E=>?_
   obtain ⟨hl220,hh221⟩:=qdK hr209 hx210 hp218 (by decide)
   refine qbk 10 E rfl (by kernel_rfl) nP hT (qah qd6 rfl (qac.sub 1 1 (qac.crow hh221 0 rfl))) rfl rfl fun a E=>qbk 11 E rfl (by kernel_rfl) nP hT (qam (cs:=[vs r37.1.Kind,c43,vs r37.1.Next]) qdt rfl rfl (qac.cown 1 rfl rfl)) rfl rfl fun a E=>qaZ [12] (by kernel_rfl) rfl (qa1 ?_)
   ·refine wo rfl<|qaT (R:=qdC) (xo:=[.tmp 70]) (xs:=([r37.1]:List (Rule))) E ok qdZ qde rfl ⟨⟨_,rfl,rfl,⟨_,rfl,l42,h44,l45⟩⟩,trivial⟩ rfl rfl rfl rfl fun c222 M223 a w E ok h224=>wn<|qay (cl1 (cq le_m39 ok [1,4] rfl) (cq le_m39 ok [4] rfl)) fun hT=>qaZ [13] (by kernel_rfl) rfl (qa1 ?_)
    ·refine wo rfl<|qbR (R:=qdC) E ok 2 qdO qdZ Tryz.underlying106 rfl h215 (qa3.ofRow h224 0 rfl ok) e188 ⟨_,qde,rfl⟩ rfl rfl rfl rfl fun c225 M226 a w E ok h227=>wn<|qay (cl1 (cq le_m39 ok [1,4] rfl) (cq le_m39 ok [4] rfl)) fun hT=>?_
     obtain ⟨b228,o229,hp230,yy231⟩:=qgF qbu hr209 hx210 (P:=Tryz.prog) (X:=.tmp 59) (I:=.tmp 62) (kd:=.i64) (qaC E rfl) (qaC E rfl)
     refine kt 14 E rfl hT (yy231 _ _) fun a E=>kt 15 E rfl hT (qak qcx rfl) fun a E=>qaZ [16] (by kernel_rfl) rfl (qa1 ?_)
     ·refine wo rfl<|qgR (f:=1) (c':=[vs x164.Name,c225]) E ok 1 rfl hr209 hx210 hp230 rfl rfl rfl qnL (ORow.cells h227) rfl rfl ⟨(ORow.one h227),trivial⟩ rfl ⟨rfl,(ORow.one h227),trivial⟩ rfl fun M232 w ok hr233 hx234=>?_
      have hh235:=qeu.set (c':=[vs x164.Name,c225]) hh212
      refine wn<|qay (cl2 (by kernel_rfl) (cq le_m39 ok [4] rfl)) fun hT=>qcl (by kernel_rfl) ?_
      replace ok:Ok u m39 (M232 :: M226 :: M208 :: M223 :: [(b46,oc 114 [vs r37.1.Kind,c43,vs r37.1.Next])] :: S) w:=(ok.pk 5 [1,2,3,0,4] rfl (by decide))
      obtain ⟨M236,ok,h237⟩:=NRow.close e165 ok hr233 hx234 (show qcP m39 [vs x164.Name,c225] (State.mk x164.Name l187) M226 from ⟨_,rfl,l213,h227⟩) hh235
      exact ⟨rfl,⟨c25,M236,(ok.pk 3 [2,0] rfl (by decide)),E.keep [0,5,7,8],h237⟩⟩
 refine mv E rfl fun a E=>bd hF fun s51 e52 hF=>lw E (qaF Tryz.underlying9 e52 rfl ⟨_,rfl⟩ rfl) fun a E=>bd hF fun r53 e54 hF=>lc E qoP rfl (qfq N s51 (Nat.le_trans (qbr e52) (Nat.le_trans (qbr e36) ls_0)) e54 hG ok) fun w ok a E=>pt E rfl rfl fun a E=>aw E rfl fun a E=>bd hF fun o55 hJ hF=>qa6 (Q':=fun e a w=>(Sum.elim (fun b56=>e = .normal ∧ ∃ c57 M58,Ok u m39 ([(b46,oc 114 [vs r37.1.Kind,c43,vs r37.1.Next])] :: M58 :: S) w ∧ Env 88 a [(0,vs s_0),(5,c57),(7,vi v22),(8,vi v23)] ∧ NRow 108 2 qcP m39 c57 b56 M58) (fun b60=>e = .ret ∧ qd5 u m0 S b60 a w)) o55) ?_ ?_
 rotate_left
 ·intro e a w hO
  rcases o55 with o55 | o55
  rotate_left
  ·have hF:=qhk hF
   obtain ⟨rfl,hret⟩:=hO
   refine qag<|qae<|qag<|qae ?_
   cases hF
   exact so (sr ⟨rfl,hret⟩)
  have hF:=qaX hF
  obtain ⟨rfl,c155,M156,ok,E,h157⟩:=hO
  refine qaf<|qaa<|qab<|mv E rfl fun a E=>lw E (qar rfl rfl (InR.inc r30 (InR.len ls_0) c31)) fun a E=>mv E rfl fun a E=>lw E (qav rfl rfl) fun a E=>av E rfl fun a E=>av E rfl fun a E=>wpList_nil<|qaf<|qaa<|qab<|mv E rfl fun a E=>lw E (qar rfl rfl (InR.inc r30 (InR.len ls_0) c31)) fun a E=>av E rfl fun a E=>wpList_nil ?_
  cases hF
  exact qan ⟨m39,c155,M156,le_m0,(ok.pk 2 [1] rfl (by decide)),E.keep [0,5,6,7,8],h157,(InR.inc r30 (InR.len ls_0) c31),(InR.wrap _ _),(InR.inc r30 (InR.len ls_0) c31)⟩
 have hF:=hJ
 refine cf E rfl hF (fun c61 hF=>?_) fun c61 hF=>?_
 ·refine qab<|mz E rfl rfl fun a E=>bd hF fun s62 e63 hF=>lw E (qaF Tryz.underlying9 e63 rfl ⟨_,rfl⟩ rfl) fun a E=>lw E (qaR (ps:=[(0,.tmp 48)]) (qs:=[(0,[vs s62])]) (cs:=[vs s62,(Value.slice none 0 0)]) qmU qrx rfl ⟨rfl,rfl,rfl,trivial⟩ rfl) fun a E=>qaT (R:=pRaw) (xo:=[.tmp 49]) (xs:=[[vs s62,(Value.slice none 0 0)]]) E ok qbu qmU rfl ⟨⟨_,rfl,rfl,⟨rfl,⟨rfl,rfl,trivial⟩⟩⟩,trivial⟩ rfl rfl rfl rfl fun c64 M65 a w E ok h66=>?_
  replace ok:Ok u m39 (M26 :: M65 :: [(b46,oc 114 [vs r37.1.Kind,c43,vs r37.1.Next])] :: S) w:=(ok.pk 3 [2,0,1] rfl (by decide))
  refine bd hF fun l67 e68 hF=>qnz (R:=qcP) E ok.addnil.swap2 qbu Tryz.underlying39 h27 (qa3.ofRow h66 1 rfl ok) ⟨_,rfl,(Nat.le_trans (qbr e63) (Nat.le_trans (qbr e36) ls_0)),ORow.nil⟩ e68 ⟨_,qmU,rfl⟩ rfl rfl rfl rfl fun c69 M70 a w E ok h71=>av E rfl fun a E=>wpList_nil ?_
  cases hF
  exact (sl ⟨rfl,⟨c69,M70,(ok.pk 3 [2,0] rfl (by decide)),E.keep [0,5,7,8],h71⟩⟩)
 refine sg<|mz E rfl rfl fun a E=>qc8 r37.2 (fun c72=>?_) (fun c72=>?_)
 rotate_left
 ·have hF:=qbV c72 hF
  have E:=E.upd 54 c72 rfl
  refine lsq E fun a E=>ls E fun a E=>pf E rfl rfl fun a E=>aw E rfl fun a E=>c_if E rfl (fun h=>by cases h) (fun _=>?_)
  refine sg<|mv E rfl fun a E=>av E rfl fun a E=>av E rfl fun a E=>aw E rfl fun a E=>wp_ret ?_
  have hret:qd5 u m0 S ([],v22,3) a w:=⟨m39,(.slice none 0 0),le_m0,ok.drop.drop,E.d,⟨rv_t E rfl,rv_t E rfl,rv_t E rfl,trivial⟩,qa9,r29,(ir 3)⟩
  cases hF
  exact (sr ⟨rfl,hret⟩)
 have hF:=qbW c72 hF
 have E:=E.upd 54 c72 rfl
 refine mv E rfl fun a E=>lv E ok (qlm qbu h27 rfl) fun a E=>lw E (qbN rfl rfl) fun a E=>pt E rfl rfl fun a E=>aw E rfl fun a E=>cg E rfl hF (fun c73 hF=>?_) fun c73 hF=>?_
 ·refine sg<|mv E rfl fun a E=>av E rfl fun a E=>av E rfl fun a E=>aw E rfl fun a E=>wp_ret ?_
  have hret:qd5 u m0 S ([],v22,3) a w:=⟨m39,(.slice none 0 0),le_m0,ok.drop.drop,E.d,⟨rv_t E rfl,rv_t E rfl,rv_t E rfl,trivial⟩,qa9,r29,(ir 3)⟩
  cases hF
  exact (sr ⟨rfl,hret⟩)
 refine bd hF fun o74 hJ hF=>qa6 (Q':=fun e a w=>e = .normal ∧ ∃ c75 M76,Ok u m39 ([(b46,oc 114 [vs r37.1.Kind,c43,vs r37.1.Next])] :: M76 :: S) w ∧ Env 88 a [(0,vs s_0),(5,c75),(7,vi v22),(8,vi v23)] ∧ NRow 108 2 qcP m39 c75 o74 M76) ?_ ?_
 rotate_left
 ·intro e a w hO
  obtain ⟨rfl,c152,M153,ok,E,h154⟩:=hO
  cases hF
  exact (sl ⟨rfl,⟨c152,M153,ok,E.keep [0,5,7,8],h154⟩⟩)
 have hF:=hJ
 obtain ⟨x78,e79,hF⟩:=bnd hF
 obtain ⟨l101,e102,hF⟩:=bnd hF
 obtain ⟨x106,e107,hF⟩:=bnd hF
 obtain rfl:=sj hF
 replace ok:Ok u m39 (M26 :: [(b46,oc 114 [vs r37.1.Kind,c43,vs r37.1.Next])] :: S) w:=(ok.pk 2 [1,0] rfl (by decide))
 obtain ⟨cs118,c119,M120,M121,M122,ok,hr123,hx124,he125,hh126⟩:=NRow.open h27 e79 ok
 obtain ⟨c128,rfl,l127,h129⟩:=he125
 refine qcb [10,11] (Cls u m39 (M120 :: [(b46,oc 114 [vs r37.1.Kind,c43,vs r37.1.Next])] :: [])) (Cls u m39 ([(b46,oc 114 [vs r37.1.Kind,c43,vs r37.1.Next])] :: [])) (by kernel_rfl) ?_
 intro w hw
 replace ok:=qcB ok hw
 clear hw
 have le_m39:=Mem.le.refl m39
 refine qay (cl1 (cq le_m39 ok [0,3] rfl) (cq le_m39 ok [3] rfl)) fun hT=>kt 0 E rfl hT (qad rfl) fun a E=>kt 1 E rfl hT (qad rfl) fun a E=>kt 2 E rfl hT (qfw qbu hr123 hh126 rfl) fun a E=>kt 3 E rfl hT (qjH rfl rfl (InR.dec (NRow.InR h27) (ir 0) c73)) fun a E=>kt 4 E rfl hT (qad rfl) fun a E=>kt 5 E rfl hT (qad rfl) fun a E=>kt 6 E rfl hT (qfw qbu hr123 hh126 rfl) fun a E=>kt 7 E rfl hT (qjH rfl rfl (InR.dec (NRow.InR h27) (ir 0) c73)) fun a E=>?_
 obtain ⟨b130,o131,hp132,yy133⟩:=qgF qbu hr123 hx124 (P:=Tryz.prog) (X:=.tmp 63) (I:=.tmp 66) (kd:=.i64) (qaC E rfl) (qaC E rfl)
 refine kt 8 E rfl hT (yy133 _ _) fun a E=>kt 9 E rfl hT (qak qcx rfl) fun a E=>?_
 obtain ⟨hl134,hh135⟩:=qdK hr123 hx124 hp132 (by decide)
 refine qbk 10 E rfl (by kernel_rfl) nP hT (qah qd6 rfl (qac.sub 1 1 (qac.crow hh135 0 rfl))) rfl rfl fun a E=>qbk 11 E rfl (by kernel_rfl) nP hT (qam (cs:=[vs r37.1.Kind,c43,vs r37.1.Next]) qdt rfl rfl (qac.cown 1 rfl rfl)) rfl rfl fun a E=>qaZ [12] (by kernel_rfl) rfl (qa1 ?_)
 ·refine wo rfl<|qaT (R:=qdC) (xo:=[.tmp 70]) (xs:=([r37.1]:List (Rule))) E ok qdZ qde rfl ⟨⟨_,rfl,rfl,⟨_,rfl,l42,h44,l45⟩⟩,trivial⟩ rfl rfl rfl rfl fun c136 M137 a w E ok h138=>wn<|qay (cl1 (cq le_m39 ok [1,4] rfl) (cq le_m39 ok [4] rfl)) fun hT=>qaZ [13] (by kernel_rfl) rfl (qa1 ?_)
  ·refine wo rfl<|qbR (R:=qdC) E ok 2 qdO qdZ Tryz.underlying106 rfl h129 (qa3.ofRow h138 0 rfl ok) e102 ⟨_,qde,rfl⟩ rfl rfl rfl rfl fun c139 M140 a w E ok h141=>wn<|qay (cl1 (cq le_m39 ok [1,4] rfl) (cq le_m39 ok [4] rfl)) fun hT=>?_
   obtain ⟨b142,o143,hp144,yy145⟩:=qgF qbu hr123 hx124 (P:=Tryz.prog) (X:=.tmp 59) (I:=.tmp 62) (kd:=.i64) (qaC E rfl) (qaC E rfl)
   refine kt 14 E rfl hT (yy145 _ _) fun a E=>kt 15 E rfl hT (qak qcx rfl) fun a E=>qaZ [16] (by kernel_rfl) rfl (qa1 ?_)
   ·refine wo rfl<|qgR (f:=1) (c':=[vs x78.Name,c139]) E ok 1 rfl hr123 hx124 hp144 rfl rfl rfl qnL (ORow.cells h141) rfl rfl ⟨(ORow.one h141),trivial⟩ rfl ⟨rfl,(ORow.one h141),trivial⟩ rfl fun M146 w ok hr147 hx148=>?_
    have hh149:=qeu.set (c':=[vs x78.Name,c139]) hh126
    refine wn<|qay (cl2 (by kernel_rfl) (cq le_m39 ok [4] rfl)) fun hT=>qcl (by kernel_rfl) ?_
    replace ok:Ok u m39 (M146 :: M140 :: M122 :: M137 :: [(b46,oc 114 [vs r37.1.Kind,c43,vs r37.1.Next])] :: S) w:=(ok.pk 5 [1,2,3,0,4] rfl (by decide))
    obtain ⟨M150,ok,h151⟩:=NRow.close e79 ok hr147 hx148 (show qcP m39 [vs x78.Name,c139] (State.mk x78.Name l101) M140 from ⟨_,rfl,l127,h141⟩) hh149
    exact ⟨rfl,⟨c25,M150,(ok.pk 3 [2,0] rfl (by decide)),E.keep [0,5,7,8],h151⟩⟩
def qlb (u:World) (m0:Mem) (S:Segs) (r:(List (Item))) (a:Act) (w:World):Prop :=
 ∃ m1 v0,m0.le m1 ∧ Ok u m1 S w ∧ a.defers = [] ∧ RVs Tryz.prog a w [.t 2 v0] ∧ (pL 5 qbt) m1 [v0] r
theorem qli (N:Nat) (vl_0:Value) (l_0:List (Item)) (hl_0:(pL 5 qbt) m0 [vl_0] l_0) {r:(List (Item))} (hF:qeI N l_0 = some r) (hG:Glob u) (ok:Ok u m0 S w) :
  Calls Tryz.prog 37 [vl_0].toArray w fun e w'=>∃ m1 v0,e = .returned v0 ∧ m0.le m1 ∧ Ok u m1 S w' ∧ (pL 5 qbt) m1 [v0] r:=by
 have le_m0:=Mem.le.refl m0
 unfold qeI at hF
 refine en (qlb u m0 S) r Tryz.func37 rfl rfl rfl (fun _ _ h=>rc h fun _=>rfl) fun fin a E=>sg<|aw E rfl fun a E=>sg<|aw E rfl fun a E=>wp_seq<|sg<|av E rfl fun a E=>wn<|wp_block ?_
 obtain ⟨M6,ok,h7⟩:=qck (e:=154) (k:=5) (R:=qbt) ok
 refine bd hF fun o8 hL hF=>qax _ (fun (s:(List (Item)) × Int) a w=>∃ m9 c10 M11,m0.le m9 ∧ Ok u m9 (M11 :: S) w ∧ Env 62 a [(0,vl_0),(3,c10),(4,vi s.2)] ∧ ORow 154 5 qbt m9 c10 s.1 M11 ∧ InR .i64 s.2) (fun (b:((List (Item)))) e a w=>e = (.exit 0) ∧ ∃ m280 c281 M282,m0.le m280 ∧ Ok u m280 (M282 :: S) w ∧ Env 62 a [(3,c281)] ∧ ORow 154 5 qbt m280 c281 b M282) ?_ ?_ N _ a w hL ⟨m0,(Value.slice none 0 0),M6,Mem.le.refl _,ok,E.keep [0,3,4],h7,(ir 0)⟩
 rotate_left
 ·intro e a w _ hO
  obtain ⟨rfl,m274,c275,M276,hle,ok,E,h277⟩:=hO
  have le_m0:=le_m0.trans hle
  have hl_0:=(mL qdE).up hle hl_0
  refine qaz<|qaa<|sg<|mv E rfl fun a E=>aw E rfl fun a E=>wp_ret ?_
  obtain ⟨m278,hle,ok,hfz⟩:=(ok.frs 0 rfl).freeze
  have h279:=ORow.froz qdE h277 hle hfz (by decide)
  have le_m0:=le_m0.trans hle
  have hl_0:=(mL qdE).up hle hl_0
  exact fin hF ⟨m278,c275,le_m0,ok,E.d,rz E rfl,h279⟩
 rintro ⟨v14,v15⟩ a w r ⟨m16,c17,M18,hle,ok,E,h19,r20⟩ hF
 replace hF:qdF N l_0 v14 v15 = some r:=hF
 unfold qdF at hF
 have le_m0:=le_m0.trans hle
 have hl_0:=(mL qdE).up hle hl_0
 refine wp_seq<|sg<|mz E rfl rfl fun a E=>lv E ok (qau qcm hl_0 rfl) fun a E=>lw E (qat rfl rfl) fun a E=>wn<|cg E rfl hF (fun c21 hF=>?_) fun c21 hF=>?_
 ·refine wp_exit<|qap ?_
  cases hF
  exact so (⟨rfl,⟨m16,c17,M18,le_m0,ok,E.keep [3],h19⟩⟩)
 refine wp_skip<|qaa<|wp_seq<|wp_block<|wp_seq<|bd hF fun o22 hJ hF=>qa6 (Q':=fun e a w=>e = .normal ∧ ∃ b26,Ok u m16 ([(b26,oc 154 [vs o22.Text,(Value.slice none 0 0),vb o22.Not,vi o22.Least,vi o22.Most])] :: M18 :: S) w ∧ Env 62 a [(0,vl_0),(3,c17),(4,vi v15),(5,vp b26)] ∧ o22.Text.length ≤ LIMS ∧ InR .i64 o22.Least ∧ InR .i64 o22.Most) ?_ ?_
 ·have hF:=hJ
  obtain ⟨x27,e28,hF⟩:=bnd hF
  obtain ⟨x41,e42,hF⟩:=bnd hF
  obtain ⟨x55,e56,hF⟩:=bnd hF
  obtain ⟨x69,e70,hF⟩:=bnd hF
  obtain rfl:=sj hF
  refine qcb [] (Cls u m16 (M18 :: [])) (Cls u m16 (M18 :: [])) (by kernel_rfl) ?_
  intro w hw
  replace ok:=qcB ok hw
  clear hw
  have le_m16:=Mem.le.refl m16
  refine qay (cl1 (cq le_m16 ok [0] rfl) (cq le_m16 ok [0] rfl)) fun hT=>kt 0 E rfl hT (qad rfl) fun a E=>kt 1 E rfl hT (qad rfl) fun a E=>?_
  obtain ⟨b84,o85,es86,hl87,rr88,at89,yy90⟩:=ia E 13 14 qcm hl_0 e28
  obtain ⟨c92,rfl,l91,h93,r94,r95⟩:=rr88
  refine kt 2 E rfl hT (yy90 _ _) fun a E=>kt 3 E rfl hT (qak qbE rfl) fun a E=>kt 4 E rfl hT (qah qal rfl (qac.cro (At.sub 0 1 at89))) fun a E=>kt 5 E rfl hT (qad rfl) fun a E=>kt 6 E rfl hT (qad rfl) fun a E=>?_
  obtain ⟨b96,o97,es98,hl99,rr100,at101,yy102⟩:=ia E 18 19 qcm hl_0 e42
  obtain ⟨c104,rfl,l103,h105,r106,r107⟩:=rr100
  refine kt 7 E rfl hT (yy102 _ _) fun a E=>kt 8 E rfl hT (qak qhB rfl) fun a E=>kt 9 E rfl hT (qah qhb rfl (qac.cro (At.sub 2 1 at101))) fun a E=>kt 10 E rfl hT (qad rfl) fun a E=>kt 11 E rfl hT (qad rfl) fun a E=>?_
  obtain ⟨b108,o109,es110,hl111,rr112,at113,yy114⟩:=ia E 23 24 qcm hl_0 e56
  obtain ⟨c116,rfl,l115,h117,r118,r119⟩:=rr112
  refine kt 12 E rfl hT (yy114 _ _) fun a E=>kt 13 E rfl hT (qak qd7 rfl) fun a E=>kt 14 E rfl hT (qah qaJ rfl (qac.cro (At.sub 3 1 at113))) fun a E=>kt 15 E rfl hT (qad rfl) fun a E=>kt 16 E rfl hT (qad rfl) fun a E=>?_
  obtain ⟨b120,o121,es122,hl123,rr124,at125,yy126⟩:=ia E 28 29 qcm hl_0 e70
  obtain ⟨c128,rfl,l127,h129,r130,r131⟩:=rr124
  refine kt 17 E rfl hT (yy126 _ _) fun a E=>kt 18 E rfl hT (qak qdI rfl) fun a E=>kt 19 E rfl hT (qah qaJ rfl (qac.cro (At.sub 4 1 at125))) fun a E=>kt 20 E rfl hT (qaR (ps:=[(0,.tmp 17),(2,.tmp 22),(3,.tmp 27),(4,.tmp 32)]) (qs:=[(0,[vs x27.Text]),(2,[vb x41.Not]),(3,[vi x55.Least]),(4,[vi x69.Most])]) (cs:=[vs x27.Text,(Value.slice none 0 0),vb x41.Not,vi x55.Least,vi x69.Most]) qhC qq1 rfl ⟨rfl,rfl,rfl,⟨rfl,rfl,rfl,⟨rfl,rfl,rfl,⟨rfl,rfl,rfl,trivial⟩⟩⟩⟩ rfl) fun a E=>qaZ [21] (by kernel_rfl) rfl (qa1 ?_)
  ·refine wo rfl<|qaM E ok qhC rfl rfl fun b132 a w E ok=>wn<|qay (cl1 (cq le_m16 ok [1] rfl) (cq le_m16 ok [1] rfl)) fun hT=>qaZ [22] (by kernel_rfl) rfl (qa1 ?_)
   ·refine wo rfl<|qai E ok 0 rfl rfl rfl qlY rfl rfl ⟨rfl,rfl,rfl,rfl,rfl,trivial⟩ rfl rfl fun w ok=>wn<|qay (cl1 (cq le_m16 ok [1] rfl) (cq le_m16 ok [1] rfl)) fun hT=>qcl (by kernel_rfl) ?_
    exact ⟨rfl,⟨b132,ok,E.keep [0,3,4,5],l91,r118,r131⟩⟩
 intro e a w hO
 obtain ⟨rfl,b136,ok,E,l133,r134,r135⟩:=hO
 refine qaa<|wp_seq<|sg<|aw E rfl fun a E=>wp_block ?_
 obtain ⟨M145,ok,h146⟩:=qck (e:=156) (k:=2) (R:=qbv) ok
 refine bd hF fun o147 hL hF=>qax _ (fun (s:Int × Item) a w=>∃ c150 M151,Ok u m16 (M151 :: [(b136,oc 154 [vs s.2.Text,c150,vb s.2.Not,vi s.2.Least,vi s.2.Most])] :: M18 :: S) w ∧ Env 62 a [(0,vl_0),(3,c17),(4,vi v15),(5,vp b136),(6,vi s.1)] ∧ InR .i64 s.1 ∧ s.2.Text.length ≤ LIMS ∧ ORow 156 2 qbv m16 c150 s.2.Ranges M151 ∧ InR .i64 s.2.Least ∧ InR .i64 s.2.Most) (fun (b:Item) e a w=>e = (.exit 2) ∧ ∃ c269 M270,Ok u m16 (M270 :: [(b136,oc 154 [vs b.Text,c269,vb b.Not,vi b.Least,vi b.Most])] :: M18 :: S) w ∧ Env 62 a [(0,vl_0),(3,c17),(4,vi v15),(5,vp b136)] ∧ b.Text.length ≤ LIMS ∧ ORow 156 2 qbv m16 c269 b.Ranges M270 ∧ InR .i64 b.Least ∧ InR .i64 b.Most) ?_ ?_ N _ a w hL ⟨(Value.slice none 0 0),M145,ok,E.keep [0,3,4,5,6],(ir 0),l133,h146,r134,r135⟩
 rotate_left
 ·intro e a w _ hO
  obtain ⟨rfl,c253,M254,ok,E,l252,h255,r256,r257⟩:=hO
  refine qaz<|qaa<|qab<|mv E rfl fun a E=>lv E ok (qam (cs:=[vs o147.Text,c253,vb o147.Not,vi o147.Least,vi o147.Most]) qfX rfl rfl (qac.own 1 rfl rfl)) fun a E=>?_
  obtain ⟨m258,hle,ok,hfz⟩:=(ok.frs 0 rfl).freeze
  have h259:=ORow.froz qfA h255 hle hfz (by decide)
  have le_m0:=le_m0.trans hle
  have hl_0:=(mL qdE).up hle hl_0
  have h19:=ORow.up qdE hle h19
  refine qaT (R:=qbt) (xo:=[.tmp 58]) (xs:=([o147]:List (Item))) E ok qeZ qhC rfl ⟨⟨_,rfl,rfl,⟨_,rfl,l252,h259,r256,r257⟩⟩,trivial⟩ rfl rfl rfl rfl fun c260 M261 a w E ok h262=>bd hF fun l263 e264 hF=>qnd (R:=qbt) E ok 2 qdE qeZ Tryz.underlying115 rfl h19 (qa3.ofRow h262 0 rfl ok) e264 (qjK qvv) ⟨_,qhC,rfl⟩ rfl rfl rfl rfl fun c265 M266 a w E ok h267=>av E rfl fun a E=>wpList_nil<|qaf<|qaa<|qab<|mv E rfl fun a E=>lw E (qar rfl rfl (InR.inc r20 (qaj hl_0) c21)) fun a E=>av E rfl fun a E=>wpList_nil ?_
  cases hF
  exact qan ⟨m258,c265,M266,le_m0,(ok.pk 3 [2] rfl (by decide)),E.keep [0,3,4],h267,(InR.inc r20 (qaj hl_0) c21)⟩
 rintro ⟨v155,v156⟩ a w r ⟨c159,M160,ok,E,r157,l158,h161,r162,r163⟩ hF
 replace hF:qcR N l_0 v15 v155 v156 = some r:=hF
 unfold qcR at hF
 refine wp_seq<|sg<|mz E rfl rfl fun a E=>mv E rfl fun a E=>?_
 obtain ⟨x164,e165,hF⟩:=bnd hF
 obtain ⟨b166,o167,es168,hl169,rr170,at171,yy172⟩:=ia E 35 36 qcm hl_0 e165
 obtain ⟨c174,rfl,l173,h175,r176,r177⟩:=rr170
 refine lv E ok (yy172 _ _) fun a E=>fv E qa8 rfl fun a E=>lv E ok (qah qbB rfl (qac.ro (At.sub 1 1 at171))) fun a E=>lv E ok (qau qbx h175 rfl) fun a E=>lw E (qat rfl rfl) fun a E=>wn<|cg E rfl hF (fun c178 hF=>?_) fun c178 hF=>?_
 ·refine wp_exit<|qap ?_
  cases hF
  exact so (⟨rfl,⟨c159,M160,ok,E.keep [0,3,4,5],l158,h161,r162,r163⟩⟩)
 refine wp_skip<|qaa<|wp_seq<|wp_block<|bd hF fun o179 hJ hF=>qa6 (Q':=fun e a w=>e = .normal ∧ ∃ c181 M182,Ok u m16 (M182 :: [(b136,oc 154 [vs o179.Text,c181,vb o179.Not,vi o179.Least,vi o179.Most])] :: M18 :: S) w ∧ Env 62 a [(0,vl_0),(3,c17),(4,vi v15),(5,vp b136),(6,vi v155)] ∧ o179.Text.length ≤ LIMS ∧ ORow 156 2 qbv m16 c181 o179.Ranges M182 ∧ InR .i64 o179.Least ∧ InR .i64 o179.Most) ?_ ?_
 rotate_left
 ·intro e a w hO
  obtain ⟨rfl,c247,M248,ok,E,l246,h249,r250,r251⟩:=hO
  refine qaf<|qaa<|qab<|mv E rfl fun a E=>lw E (qar rfl rfl (InR.inc r157 (qaj h175) c178)) fun a E=>av E rfl fun a E=>wpList_nil ?_
  cases hF
  exact qan ⟨c247,M248,ok,E.keep [0,3,4,5,6],(InR.inc r157 (qaj h175) c178),l246,h249,r250,r251⟩
 have hF:=hJ
 obtain ⟨x186,e187,hF⟩:=bnd hF
 obtain ⟨x200,e201,hF⟩:=bnd hF
 obtain ⟨l214,e215,hF⟩:=bnd hF
 obtain rfl:=sj hF
 refine qcb [1,6,9] (Cls u m16 ([(b136,oc 154 [vs v156.Text,c159,vb v156.Not,vi v156.Least,vi v156.Most])] :: M18 :: [])) (Cls u m16 (M18 :: [])) (by kernel_rfl) ?_
 intro w hw
 replace ok:=qcB ok hw
 clear hw
 have le_m16:=Mem.le.refl m16
 refine qay (cl1 (cq le_m16 ok [1,2] rfl) (cq le_m16 ok [2] rfl)) fun hT=>kt 0 E rfl hT (qak qg1 rfl) fun a E=>qbk 1 E rfl (by kernel_rfl) nP hT (qah qif rfl (qac.cown 0 rfl rfl)) rfl rfl fun a E=>kt 2 E rfl hT (qad rfl) fun a E=>kt 3 E rfl hT (qad rfl) fun a E=>?_
 obtain ⟨b219,o220,es221,hl222,rr223,at224,yy225⟩:=ia E 46 47 qcm hl_0 e187
 obtain ⟨c227,rfl,l226,h228,r229,r230⟩:=rr223
 refine kt 4 E rfl hT (yy225 _ _) fun a E=>kt 5 E rfl hT (qak qa8 rfl) fun a E=>qbk 6 E rfl (by kernel_rfl) nP hT (qah qbB rfl (qac.cro (At.sub 1 1 at224))) rfl rfl fun a E=>kt 7 E rfl hT (qad rfl) fun a E=>?_
 obtain ⟨b231,o232,es233,hl234,rr235,at236,yy237⟩:=ia E 50 51 qbx h228 e201
 obtain ⟨rfl,r238,r239⟩:=rr235
 refine kt 8 E rfl hT (yy237 _ _) fun a E=>qbk 9 E rfl (by kernel_rfl) nP hT (qam (cs:=[(Value.int .u8 x200.From),(Value.int .u8 x200.To)]) quR rfl rfl (qac.cro at236)) rfl rfl fun a E=>qaZ [10] (by kernel_rfl) rfl (qa1 ?_)
 ·refine wo rfl<|qaT (R:=qbv) (xo:=[.tmp 53]) (xs:=([x200]:List (Range))) E ok qg3 qmF rfl ⟨⟨_,rfl,rfl,⟨rfl,r238,r239⟩⟩,trivial⟩ rfl rfl rfl rfl fun c240 M241 a w E ok h242=>wn<|qay (cl1 (cq le_m16 ok [2,3] rfl) (cq le_m16 ok [3] rfl)) fun hT=>qaZ [11] (by kernel_rfl) rfl (qa1 ?_)
  ·refine wo rfl<|qnd (R:=qbv) E ok 1 qfA qg3 Tryz.underlying152 rfl h161 (qa3.ofRow h242 0 rfl ok) e215 (qjK qvw) ⟨_,qmF,rfl⟩ rfl rfl rfl rfl fun c243 M244 a w E ok h245=>wn<|qay (cl1 (cq le_m16 ok [2,3] rfl) (cq le_m16 ok [3] rfl)) fun hT=>kt 12 E rfl hT (qak qg1 rfl) fun a E=>qaZ [13] (by kernel_rfl) rfl (qa1 ?_)
   ·refine wo rfl<|qai E ok 2 rfl rfl rfl quj (ORow.cells h245) rfl ⟨(ORow.one h245),trivial⟩ rfl rfl fun w ok=>wn<|qay (cl2 (by kernel_rfl) (cq le_m16 ok [3] rfl)) fun hT=>qcl (by kernel_rfl) ?_
    exact ⟨rfl,⟨c243,M244,(ok.pk 4 [1,2,3] rfl (by decide)),E.keep [0,3,4,5,6],l158,h245,r162,r163⟩⟩
def qmw (u:World) (m0:Mem) (S:Segs) (r:(List (State))) (a:Act) (w:World):Prop :=
 ∃ m1 v0,m0.le m1 ∧ Ok u m1 S w ∧ a.defers = [] ∧ RVs Tryz.prog a w [.t 2 v0] ∧ (pL 2 qbA) m1 [v0] r
theorem qhj (N:Nat) (vs_0:Value) (s_0:List (State)) (hs_0:(pL 2 qbA) m0 [vs_0] s_0) {r:(List (State))} (hF:qdN N s_0 = some r) (hG:Glob u) (ok:Ok u m0 S w) :
  Calls Tryz.prog 23 [vs_0].toArray w fun e w'=>∃ m1 v0,e = .returned v0 ∧ m0.le m1 ∧ Ok u m1 S w' ∧ (pL 2 qbA) m1 [v0] r:=by
 have le_m0:=Mem.le.refl m0
 unfold qdN at hF
 refine en (qmw u m0 S) r Tryz.func23 rfl rfl rfl (fun _ _ h=>rc h fun _=>rfl) fun fin a E=>sg<|aw E rfl fun a E=>sg<|aw E rfl fun a E=>wp_seq<|sg<|av E rfl fun a E=>wn<|wp_block ?_
 obtain ⟨M6,ok,h7⟩:=qck (e:=111) (k:=2) (R:=qbA) ok
 refine bd hF fun o8 hL hF=>qax _ (fun (s:(List (State)) × Int) a w=>∃ m9 c10 M11,m0.le m9 ∧ Ok u m9 (M11 :: S) w ∧ Env 56 a [(0,vs_0),(3,c10),(4,vi s.2)] ∧ ORow 111 2 qbA m9 c10 s.1 M11 ∧ InR .i64 s.2) (fun (b:((List (State)))) e a w=>e = (.exit 0) ∧ ∃ m156 c157 M158,m0.le m156 ∧ Ok u m156 (M158 :: S) w ∧ Env 56 a [(3,c157)] ∧ ORow 111 2 qbA m156 c157 b M158) ?_ ?_ N _ a w hL ⟨m0,(Value.slice none 0 0),M6,Mem.le.refl _,ok,E.keep [0,3,4],h7,(ir 0)⟩
 rotate_left
 ·intro e a w _ hO
  obtain ⟨rfl,m150,c151,M152,hle,ok,E,h153⟩:=hO
  have le_m0:=le_m0.trans hle
  have hs_0:=(mL qaD).up hle hs_0
  refine qaz<|qaa<|sg<|mv E rfl fun a E=>aw E rfl fun a E=>wp_ret ?_
  obtain ⟨m154,hle,ok,hfz⟩:=(ok.frs 0 rfl).freeze
  have h155:=ORow.froz qaD h153 hle hfz (by decide)
  have le_m0:=le_m0.trans hle
  have hs_0:=(mL qaD).up hle hs_0
  exact fin hF ⟨m154,c151,le_m0,ok,E.d,rz E rfl,h155⟩
 rintro ⟨v14,v15⟩ a w r ⟨m16,c17,M18,hle,ok,E,h19,r20⟩ hF
 replace hF:qek N s_0 v14 v15 = some r:=hF
 unfold qek at hF
 have le_m0:=le_m0.trans hle
 have hs_0:=(mL qaD).up hle hs_0
 refine wp_seq<|sg<|mz E rfl rfl fun a E=>lv E ok (qau qbu hs_0 rfl) fun a E=>lw E (qat rfl rfl) fun a E=>wn<|cg E rfl hF (fun c21 hF=>?_) fun c21 hF=>?_
 ·refine wp_exit<|qap ?_
  cases hF
  exact so (⟨rfl,⟨m16,c17,M18,le_m0,ok,E.keep [3],h19⟩⟩)
 refine wp_skip<|qaa<|wp_seq<|wp_block<|sg<|mz E rfl rfl fun a E=>?_
 obtain ⟨x22,e23,hF⟩:=bnd hF
 obtain ⟨b24,o25,es26,hl27,rr28,at29,yy30⟩:=ia E 14 15 qbu hs_0 e23
 obtain ⟨c32,rfl,l31,h33⟩:=rr28
 refine lv E ok (yy30 _ _) fun a E=>fv E qim rfl fun a E=>lv E ok (qah qal rfl (qac.ro (At.sub 0 1 at29))) fun a E=>lw E (qaR (ps:=[(0,.tmp 18)]) (qs:=[(0,[vs x22.Name])]) (cs:=[vs x22.Name,(Value.slice none 0 0)]) qgP qrc rfl ⟨rfl,rfl,rfl,trivial⟩ rfl) fun a E=>qaM E ok qgP rfl rfl fun b34 a w E ok=>qai E ok 0 rfl rfl rfl qkc rfl rfl ⟨rfl,rfl,trivial⟩ rfl rfl fun w ok=>wn<|wp_seq<|sg<|aw E rfl fun a E=>wp_block ?_
 obtain ⟨M41,ok,h42⟩:=qck (e:=118) (k:=3) (R:=qdC) ok
 refine bd hF fun o43 hL hF=>qax _ (fun (s:Int × State) a w=>∃ m44 c47 M48,m16.le m44 ∧ Ok u m44 (M48 :: [(b34,oc 111 [vs s.2.Name,c47])] :: M18 :: S) w ∧ Env 56 a [(0,vs_0),(3,c17),(4,vi v15),(5,vp b34),(6,vi s.1)] ∧ InR .i64 s.1 ∧ s.2.Name.length ≤ LIMS ∧ ORow 118 3 qdC m44 c47 s.2.Rules M48) (fun (b:State) e a w=>e = (.exit 2) ∧ ∃ m145 c147 M148,m16.le m145 ∧ Ok u m145 (M148 :: [(b34,oc 111 [vs b.Name,c147])] :: M18 :: S) w ∧ Env 56 a [(0,vs_0),(3,c17),(4,vi v15),(5,vp b34)] ∧ b.Name.length ≤ LIMS ∧ ORow 118 3 qdC m145 c147 b.Rules M148) ?_ ?_ N _ a w hL ⟨m16,(Value.slice none 0 0),M41,Mem.le.refl _,ok,E.keep [0,3,4,5,6],(ir 0),l31,h42⟩
 rotate_left
 ·intro e a w _ hO
  obtain ⟨rfl,m130,c132,M133,hle,ok,E,l131,h134⟩:=hO
  have le_m0:=le_m0.trans hle
  have hs_0:=(mL qaD).up hle hs_0
  have h19:=ORow.up qaD hle h19
  have h33:=(mL qdO).up hle h33
  have at29:=At.up hle at29
  refine qaz<|qaa<|qab<|mv E rfl fun a E=>lv E ok (qam (cs:=[vs o43.Name,c132]) qkk rfl rfl (qac.own 1 rfl rfl)) fun a E=>?_
  obtain ⟨m135,hle,ok,hfz⟩:=(ok.frs 0 rfl).freeze
  have h136:=ORow.froz qdO h134 hle hfz (by decide)
  have le_m0:=le_m0.trans hle
  have hs_0:=(mL qaD).up hle hs_0
  have h19:=ORow.up qaD hle h19
  have h33:=(mL qdO).up hle h33
  have at29:=At.up hle at29
  refine qaT (R:=qbA) (xo:=[.tmp 52]) (xs:=([o43]:List (State))) E ok qg6 qgP rfl ⟨⟨_,rfl,rfl,⟨_,rfl,l131,h136⟩⟩,trivial⟩ rfl rfl rfl rfl fun c137 M138 a w E ok h139=>bd hF fun l140 e141 hF=>qnd (R:=qbA) E ok 2 qaD qg6 Tryz.underlying73 rfl h19 (qa3.ofRow h139 0 rfl ok) e141 (qjK qvu) ⟨_,qgP,rfl⟩ rfl rfl rfl rfl fun c142 M143 a w E ok h144=>av E rfl fun a E=>wpList_nil<|qaf<|qaa<|qab<|mv E rfl fun a E=>lw E (qar rfl rfl (InR.inc r20 (qaj hs_0) c21)) fun a E=>av E rfl fun a E=>wpList_nil ?_
  cases hF
  exact qan ⟨m135,c142,M143,le_m0,(ok.pk 3 [2] rfl (by decide)),E.keep [0,3,4],h144,(InR.inc r20 (qaj hs_0) c21)⟩
 rintro ⟨v50,v51⟩ a w r ⟨m52,c55,M56,hle,ok,E,r53,l54,h57⟩ hF
 replace hF:qei N s_0 v15 v50 v51 = some r:=hF
 unfold qei at hF
 have le_m16:=Mem.le.refl m16
 have le_m0:=le_m0.trans hle
 have le_m16:=le_m16.trans hle
 have hs_0:=(mL qaD).up hle hs_0
 have h19:=ORow.up qaD hle h19
 have h33:=(mL qdO).up hle h33
 have at29:=At.up hle at29
 refine wp_seq<|sg<|mz E rfl rfl fun a E=>mv E rfl fun a E=>?_
 obtain ⟨x58,e59,hF⟩:=bnd hF
 obtain ⟨b60,o61,es62,hl63,rr64,at65,yy66⟩:=ia E 21 22 qbu hs_0 e59
 obtain ⟨c68,rfl,l67,h69⟩:=rr64
 refine lv E ok (yy66 _ _) fun a E=>fv E qcx rfl fun a E=>lv E ok (qah qd6 rfl (qac.ro (At.sub 1 1 at65))) fun a E=>lv E ok (qau qdZ h69 rfl) fun a E=>lw E (qat rfl rfl) fun a E=>wn<|cg E rfl hF (fun c70 hF=>?_) fun c70 hF=>?_
 ·refine wp_exit<|qap ?_
  cases hF
  exact so (⟨rfl,⟨m52,c55,M56,le_m16,ok,E.keep [0,3,4,5],l54,h57⟩⟩)
 refine wp_skip<|qaa<|wp_seq<|wp_block<|sg<|mz E rfl rfl fun a E=>?_
 obtain ⟨x71,e72,hF⟩:=bnd hF
 obtain ⟨b73,o74,es75,hl76,rr77,at78,yy79⟩:=ia E 30 31 qbu hs_0 e72
 obtain ⟨c81,rfl,l80,h82⟩:=rr77
 refine lv E ok (yy79 _ _) fun a E=>fv E qcx rfl fun a E=>lv E ok (qah qd6 rfl (qac.ro (At.sub 1 1 at78))) fun a E=>mv E rfl fun a E=>?_
 obtain ⟨x83,e84,hF⟩:=bnd hF
 obtain ⟨b85,o86,es87,hl88,rr89,at90,yy91⟩:=ia E 34 35 qdZ h82 e84
 obtain ⟨c93,rfl,l92,h94,l95⟩:=rr89
 refine lv E ok (yy91 _ _) fun a E=>lv E ok (qam (cs:=[vs x83.Kind,c93,vs x83.Next]) qdt rfl rfl (qac.ro at90)) fun a E=>qaM E ok qde rfl rfl fun b96 a w E ok=>qai E ok 0 rfl rfl rfl qgu rfl rfl ⟨rfl,(qbi h94),rfl,trivial⟩ rfl rfl fun w ok=>wn<|bd hF fun o97 hJ hF=>qa6 (Q':=fun e a w=>e = .normal ∧ ∃ m98 c100 M101,m52.le m98 ∧ Ok u m98 ([(b96,oc 114 [vs x83.Kind,c93,vs x83.Next])] :: M101 :: [(b34,oc 111 [vs o97.Name,c100])] :: M18 :: S) w ∧ Env 56 a [(0,vs_0),(3,c17),(4,vi v15),(5,vp b34),(6,vi v50)] ∧ o97.Name.length ≤ LIMS ∧ ORow 118 3 qdC m98 c100 o97.Rules M101) ?_ ?_
 rotate_left
 ·intro e a w hO
  obtain ⟨rfl,m125,c127,M128,hle,ok,E,l126,h129⟩:=hO
  have le_m0:=le_m0.trans hle
  have le_m16:=le_m16.trans hle
  have hs_0:=(mL qaD).up hle hs_0
  have h19:=ORow.up qaD hle h19
  have h33:=(mL qdO).up hle h33
  have at29:=At.up hle at29
  have h69:=(mL qdO).up hle h69
  have at65:=At.up hle at65
  have h82:=(mL qdO).up hle h82
  have at78:=At.up hle at78
  have h94:=(mL qdE).up hle h94
  have at90:=At.up hle at90
  refine qaf<|qaa<|qab<|mv E rfl fun a E=>lw E (qar rfl rfl (InR.inc r53 (qaj h69) c70)) fun a E=>av E rfl fun a E=>wpList_nil ?_
  cases hF
  exact qan ⟨m125,c127,M128,le_m16,(ok.pk 4 [1,2,3] rfl (by decide)),E.keep [0,3,4,5,6],(InR.inc r53 (qaj h69) c70),l126,h129⟩
 have hF:=hJ
 have le_m52:=Mem.le.refl m52
 obtain ⟨r103,e104,hF⟩:=bnd hF
 obtain ⟨l111,e112,hF⟩:=bnd hF
 obtain rfl:=sj hF
 refine qcb [1,3,5,8] (Cls u m52 ([(b96,oc 114 [vs x83.Kind,c93,vs x83.Next])] :: [(b34,oc 111 [vs v51.Name,c55])] :: M18 :: [])) (Cls u m52 ([(b96,oc 114 [vs x83.Kind,c93,vs x83.Next])] :: M18 :: [])) (by kernel_rfl) ?_
 intro w hw
 replace ok:=qcB ok hw
 clear hw
 have h94_o:=h94
 refine qay (cl1 (cq le_m52 ok [0,2,3] rfl) (cq le_m52 ok [0,3] rfl)) fun hT=>kt 0 E rfl hT (qak qg0 rfl) fun a E=>qbk 1 E rfl (by kernel_rfl) nP hT (qah qio rfl (qac.cown 1 rfl rfl)) rfl rfl fun a E=>kt 2 E rfl hT (qak qju rfl) fun a E=>qbk 3 E rfl (by kernel_rfl) nP hT (qah qal rfl (qac.cown 0 rfl rfl)) rfl rfl fun a E=>kt 4 E rfl hT (qak qcv rfl) fun a E=>qbk 5 E rfl (by kernel_rfl) nP hT (qah qea rfl (qac.cown 0 rfl rfl)) rfl rfl fun a E=>kt 7 E rfl hT (qak qfK rfl) fun a E=>qbk 8 E rfl (by kernel_rfl) nP hT (qah qal rfl (qac.cown 0 rfl rfl)) rfl rfl fun a E=>qaZ [6] (by kernel_rfl) rfl (qa1 ?_)
 ·refine wo rfl<|qas E qwK rfl (qli N _ x83.Items h94 e104 hG ok) rfl rfl ?_
  rintro _ w ⟨m116,c117,rfl,hle,ok,h118⟩
  have le_m0:=le_m0.trans hle
  have le_m16:=le_m16.trans hle
  have le_m52:=le_m52.trans hle
  have hs_0:=(mL qaD).up hle hs_0
  have h19:=ORow.up qaD hle h19
  have h33:=(mL qdO).up hle h33
  have at29:=At.up hle at29
  have h57:=ORow.up qdO hle h57
  have h69:=(mL qdO).up hle h69
  have at65:=At.up hle at65
  have h82:=(mL qdO).up hle h82
  have at78:=At.up hle at78
  have h94:=(mL qdE).up hle h94
  have at90:=At.up hle at90
  refine ⟨_,rfl,fun a E=>?_⟩
  refine wn<|qay (cl1 (cq le_m52 ok [0,2,3] rfl) (cq le_m52 ok [0,3] rfl)) fun hT=>kt 9 E rfl hT (qaR (ps:=[(0,.tmp 41),(1,.tmp 44),(2,.tmp 46)]) (qs:=[(0,[vs x83.Kind]),(1,[c117]),(2,[vs x83.Next])]) (cs:=[vs x83.Kind,c117,vs x83.Next]) qhv qq0 rfl ⟨rfl,rfl,rfl,⟨rfl,(qec h118),rfl,⟨rfl,rfl,rfl,trivial⟩⟩⟩ rfl) fun a E=>qaZ [10] (by kernel_rfl) rfl (qa1 ?_)
  ·refine wo rfl<|qaT (R:=qdC) (xo:=[.tmp 47]) (xs:=([(Rule.mk x83.Kind r103 x83.Next)]:List (Rule))) E ok qgq qhv rfl ⟨⟨_,rfl,rfl,⟨_,rfl,l92,h118,l95⟩⟩,trivial⟩ rfl rfl rfl rfl fun c119 M120 a w E ok h121=>wn<|qay (cl1 (cq le_m52 ok [1,3,4] rfl) (cq le_m52 ok [1,4] rfl)) fun hT=>qaZ [11] (by kernel_rfl) rfl (qa1 ?_)
   ·refine wo rfl<|qnd (R:=qdC) E ok 2 qdO qgq Tryz.underlying109 rfl h57 (qa3.ofRow h121 0 rfl ok) e112 (qjK qu8) ⟨_,qhv,rfl⟩ rfl rfl rfl rfl fun c122 M123 a w E ok h124=>wn<|qay (cl1 (cq le_m52 ok [1,3,4] rfl) (cq le_m52 ok [1,4] rfl)) fun hT=>kt 12 E rfl hT (qak qg0 rfl) fun a E=>qaZ [13] (by kernel_rfl) rfl (qa1 ?_)
    ·refine wo rfl<|qai E ok 3 rfl rfl rfl qtW (ORow.cells h124) rfl ⟨(ORow.one h124),trivial⟩ rfl rfl fun w ok=>wn<|qay (cl2 (by kernel_rfl) (cq le_m52 ok [1,4] rfl)) fun hT=>qcl (by kernel_rfl) ?_
     exact ⟨rfl,⟨m116,c122,M123,le_m52,(ok.pk 5 [1,2,3,4] rfl (by decide)),E.keep [0,3,4,5,6],l54,h124⟩⟩
def qmq (u:World) (m0:Mem) (S:Segs) (r:(List (Call))) (a:Act) (w:World):Prop :=
 ∃ m1 v0,m0.le m1 ∧ Ok u m1 S w ∧ a.defers = [] ∧ RVs Tryz.prog a w [.t 2 v0] ∧ (pL 3 qdd) m1 [v0] r
theorem qiU (N:Nat) (vl_0:Value) (l_0:List (Call)) (hl_0:(pL 3 qdd) m0 [vl_0] l_0) {r:(List (Call))} (hF:qeo N l_0 = some r) (hG:Glob u) (ok:Ok u m0 S w) :
  Calls Tryz.prog 13 [vl_0].toArray w fun e w'=>∃ m1 v0,e = .returned v0 ∧ m0.le m1 ∧ Ok u m1 S w' ∧ (pL 3 qdd) m1 [v0] r:=by
 have le_m0:=Mem.le.refl m0
 unfold qeo at hF
 refine en (qmq u m0 S) r Tryz.func13 rfl rfl rfl (fun _ _ h=>rc h fun _=>rfl) fun fin a E=>sg<|aw E rfl fun a E=>sg<|aw E rfl fun a E=>wp_seq<|sg<|av E rfl fun a E=>wn<|wp_block ?_
 obtain ⟨M6,ok,h7⟩:=qck (e:=83) (k:=3) (R:=qdd) ok
 refine bd hF fun o8 hL hF=>qax _ (fun (s:(List (Call)) × Int) a w=>∃ c9 M10,Ok u m0 (M10 :: S) w ∧ Env 19 a [(0,vl_0),(3,c9),(4,vi s.2)] ∧ ORow 83 3 qdd m0 c9 s.1 M10 ∧ InR .i64 s.2) (fun (b:((List (Call)))) e a w=>e = (.exit 0) ∧ ∃ c45 M46,Ok u m0 (M46 :: S) w ∧ Env 19 a [(3,c45)] ∧ ORow 83 3 qdd m0 c45 b M46) ?_ ?_ N _ a w hL ⟨(Value.slice none 0 0),M6,ok,E.keep [0,3,4],h7,(ir 0)⟩
 rotate_left
 ·intro e a w _ hO
  obtain ⟨rfl,c40,M41,ok,E,h42⟩:=hO
  refine qaz<|qaa<|sg<|mv E rfl fun a E=>aw E rfl fun a E=>wp_ret ?_
  obtain ⟨m43,hle,ok,hfz⟩:=(ok.frs 0 rfl).freeze
  have h44:=ORow.froz qby h42 hle hfz (by decide)
  have le_m0:=le_m0.trans hle
  have hl_0:=(mL qby).up hle hl_0
  exact fin hF ⟨m43,c40,le_m0,ok,E.d,rz E rfl,h44⟩
 rintro ⟨v13,v14⟩ a w r ⟨c15,M16,ok,E,h17,r18⟩ hF
 replace hF:qen N l_0 v13 v14 = some r:=hF
 unfold qen at hF
 refine wp_seq<|sg<|mz E rfl rfl fun a E=>lv E ok (qau qfz hl_0 rfl) fun a E=>lw E (qat rfl rfl) fun a E=>wn<|cg E rfl hF (fun c19 hF=>?_) fun c19 hF=>?_
 ·refine wp_exit<|qap ?_
  cases hF
  exact so (⟨rfl,⟨c15,M16,ok,E.keep [3],h17⟩⟩)
 refine wp_skip<|qaa<|wp_seq<|wp_block<|qab<|mz E rfl rfl fun a E=>mv E rfl fun a E=>?_
 obtain ⟨x20,e21,hF⟩:=bnd hF
 obtain ⟨b22,o23,es24,hl25,rr26,at27,yy28⟩:=ia E 12 13 qfz hl_0 e21
 obtain ⟨rfl,l29,r30,r31⟩:=rr26
 refine lv E ok (yy28 _ _) fun a E=>lv E ok (qam (cs:=[vs x20.Name,vi x20.ID,vi x20.Source]) qse rfl rfl (qac.ro at27)) fun a E=>qaT (R:=qdd) (xo:=[.tmp 15]) (xs:=([x20]:List (Call))) E ok qgg qkl rfl ⟨⟨_,rfl,rfl,⟨rfl,l29,r30,r31⟩⟩,trivial⟩ rfl rfl rfl rfl fun c32 M33 a w E ok h34=>bd hF fun l35 e36 hF=>qbR (R:=qdd) E ok 1 qby qgg Tryz.underlying34 rfl h17 (qa3.ofRow h34 0 rfl ok) e36 ⟨_,qkl,rfl⟩ rfl rfl rfl rfl fun c37 M38 a w E ok h39=>av E rfl fun a E=>wpList_nil<|qaf<|qaa<|qab<|mv E rfl fun a E=>lw E (qar rfl rfl (InR.inc r18 (qaj hl_0) c19)) fun a E=>av E rfl fun a E=>wpList_nil ?_
 cases hF
 exact qan ⟨c37,M38,(ok.pk 2 [1] rfl (by decide)),E.keep [0,3,4],h39,(InR.inc r18 (qaj hl_0) c19)⟩
def qlf (u:World) (m0:Mem) (S:Segs) (r:(List (File))) (a:Act) (w:World):Prop :=
 ∃ m1 v0,m0.le m1 ∧ Ok u m1 S w ∧ a.defers = [] ∧ RVs Tryz.prog a w [.t 2 v0] ∧ (pL 2 qef) m1 [v0] r
theorem qle (N:Nat) (vl_0:Value) (l_0:List (File)) (hl_0:(pL 2 qef) m0 [vl_0] l_0) {r:(List (File))} (hF:qeL N l_0 = some r) (hG:Glob u) (ok:Ok u m0 S w) :
  Calls Tryz.prog 33 [vl_0].toArray w fun e w'=>∃ m1 v0,e = .returned v0 ∧ m0.le m1 ∧ Ok u m1 S w' ∧ (pL 2 qef) m1 [v0] r:=by
 have le_m0:=Mem.le.refl m0
 unfold qeL at hF
 refine en (qlf u m0 S) r Tryz.func33 rfl rfl rfl (fun _ _ h=>rc h fun _=>rfl) fun fin a E=>sg<|aw E rfl fun a E=>sg<|aw E rfl fun a E=>wp_seq<|sg<|av E rfl fun a E=>wn<|wp_block ?_
 obtain ⟨M6,ok,h7⟩:=qck (e:=75) (k:=2) (R:=qef) ok
 refine bd hF fun o8 hL hF=>qax _ (fun (s:(List (File)) × Int) a w=>∃ c9 M10,Ok u m0 (M10 :: S) w ∧ Env 19 a [(0,vl_0),(3,c9),(4,vi s.2)] ∧ ORow 75 2 qef m0 c9 s.1 M10 ∧ InR .i64 s.2) (fun (b:((List (File)))) e a w=>e = (.exit 0) ∧ ∃ c44 M45,Ok u m0 (M45 :: S) w ∧ Env 19 a [(3,c44)] ∧ ORow 75 2 qef m0 c44 b M45) ?_ ?_ N _ a w hL ⟨(Value.slice none 0 0),M6,ok,E.keep [0,3,4],h7,(ir 0)⟩
 rotate_left
 ·intro e a w _ hO
  obtain ⟨rfl,c39,M40,ok,E,h41⟩:=hO
  refine qaz<|qaa<|sg<|mv E rfl fun a E=>aw E rfl fun a E=>wp_ret ?_
  obtain ⟨m42,hle,ok,hfz⟩:=(ok.frs 0 rfl).freeze
  have h43:=ORow.froz qcX h41 hle hfz (by decide)
  have le_m0:=le_m0.trans hle
  have hl_0:=(mL qcX).up hle hl_0
  exact fin hF ⟨m42,c39,le_m0,ok,E.d,rz E rfl,h43⟩
 rintro ⟨v13,v14⟩ a w r ⟨c15,M16,ok,E,h17,r18⟩ hF
 replace hF:qdD N l_0 v13 v14 = some r:=hF
 unfold qdD at hF
 refine wp_seq<|sg<|mz E rfl rfl fun a E=>lv E ok (qau qjW hl_0 rfl) fun a E=>lw E (qat rfl rfl) fun a E=>wn<|cg E rfl hF (fun c19 hF=>?_) fun c19 hF=>?_
 ·refine wp_exit<|qap ?_
  cases hF
  exact so (⟨rfl,⟨c15,M16,ok,E.keep [3],h17⟩⟩)
 refine wp_skip<|qaa<|wp_seq<|wp_block<|qab<|mz E rfl rfl fun a E=>mv E rfl fun a E=>?_
 obtain ⟨x20,e21,hF⟩:=bnd hF
 obtain ⟨b22,o23,es24,hl25,rr26,at27,yy28⟩:=ia E 12 13 qjW hl_0 e21
 obtain ⟨rfl,l29,l30⟩:=rr26
 refine lv E ok (yy28 _ _) fun a E=>lv E ok (qam (cs:=[vs x20.Name,vs x20.Text]) qlS rfl rfl (qac.ro at27)) fun a E=>qaT (R:=qef) (xo:=[.tmp 15]) (xs:=([x20]:List (File))) E ok qis qin rfl ⟨⟨_,rfl,rfl,⟨rfl,l29,l30⟩⟩,trivial⟩ rfl rfl rfl rfl fun c31 M32 a w E ok h33=>bd hF fun l34 e35 hF=>qbR (R:=qef) E ok 1 qcX qis Tryz.underlying84 rfl h17 (qa3.ofRow h33 0 rfl ok) e35 ⟨_,qin,rfl⟩ rfl rfl rfl rfl fun c36 M37 a w E ok h38=>av E rfl fun a E=>wpList_nil<|qaf<|qaa<|qab<|mv E rfl fun a E=>lw E (qar rfl rfl (InR.inc r18 (qaj hl_0) c19)) fun a E=>av E rfl fun a E=>wpList_nil ?_
 cases hF
 exact qan ⟨c36,M37,(ok.pk 2 [1] rfl (by decide)),E.keep [0,3,4],h38,(InR.inc r18 (qaj hl_0) c19)⟩
end Go.Proofs.YtllfckekodcdaaaGreatDoor
namespace Go.Proofs.YtllfckekodcdaaaGreatDoor
open Go.X
variable {u:World} {m0:Mem} {S:Segs} {w:World}
set_option maxHeartbeats 4000000
set_option maxRecDepth 100000
theorem quH:aggB Tryz.prog 105 5 = true:=by kernel_rfl
theorem qih:qaw Tryz.prog 105 2 2 = true:=by kernel_rfl
theorem qjv:qaw Tryz.prog 105 3 3 = true:=by kernel_rfl
theorem qut:qaw Tryz.prog 29 2 2 = true:=by kernel_rfl
theorem qwA:goB Tryz.prog 54 = true:=by kernel_rfl
theorem qwe:goB Tryz.prog 55 = true:=by kernel_rfl
theorem qvV:goB Tryz.prog 57 = true:=by kernel_rfl
theorem qtO:goB Tryz.prog 58 = true:=by kernel_rfl
theorem qtz:goB Tryz.prog 59 = true:=by kernel_rfl
theorem qn1:∃ i,Tryz.prog.info? 105 = some i ∧ i.size = 5:=⟨_,rfl,by kernel_rfl⟩
theorem qji:oneB Tryz.prog 34 = true:=by kernel_rfl
theorem qnl:qcN Tryz.prog 105 = some [(0,1),(1,1),(2,1),(3,1),(4,1)]:=by kernel_rfl
theorem qjf:qbf Tryz.prog 105 = some [vi 0,vi 0,(vs ([])),(vs ([])),(vs ([]))]:=by kernel_rfl
def qi5 (u:World) (m0:Mem) (S:Segs) (pb0:Nat) (x0:Token) (r:Bool) (a:Act) (w:World):Prop :=
 Ok u m0 ([(pb0,oc 29 [vs x0.Kind,vs x0.Text,vi x0.From])] :: S) w ∧ a.defers = [] ∧ RVs Tryz.prog a w [.t 3 (.bool r)]
theorem qi4 (N:Nat) (vc_0:List Value) (c_0:Call) (hc_0:qdd m0 vc_0 c_0) {pb0:Nat} (x0:Token) (l4:x0.Kind.length ≤ LIMS) (l5:x0.Text.length ≤ LIMS) (r6:InR .i64 x0.From) {r:Bool} (hF:qdY N c_0 x0 = some r) (hG:Glob u) (ok:Ok u m0 ([(pb0,oc 29 [vs x0.Kind,vs x0.Text,vi x0.From])] :: S) w) :
  Calls Tryz.prog 55 [.agg vc_0.toArray,vp pb0].toArray w fun e w'=>(e = .returned (.bool r) ∧ Ok u m0 ([(pb0,oc 29 [vs x0.Kind,vs x0.Text,vi x0.From])] :: S) w'):=by
 obtain ⟨rfl,l1,r2,r3⟩:=hc_0
 unfold qdY at hF
 refine en (qi5 u m0 S pb0 x0) r Tryz.func55 rfl rfl rfl (fun _ _ h=>ra h rfl) fun fin a E=>sg<|qcC E ok rfl rfl rfl fun b7 a w E ok=>aw E rfl fun a E=>sg<|fk E ok qbT qal rfl 1 rfl rfl fun a E=>lw E (qaG rfl rfl) fun a E=>mv E rfl fun a E=>bu E 7 hF (fun c8 hF E=>?_) fun c8 hF E=>?_
 ·refine fk E ok qd8 qal rfl 1 rfl rfl fun a E=>fk E ok qkf qal rfl 0 rfl rfl fun a E=>lw E (qaG rfl rfl) fun a E=>pt E rfl rfl fun a E=>av E rfl fun a E=>wn<|wp_ret ?_
  exact fin hF ⟨ok.drop,E.d,rz E rfl⟩
 refine lsz E fun a E=>ls E fun a E=>pf E rfl rfl fun a E=>av E rfl fun a E=>wn<|wp_ret ?_
 exact fin hF ⟨ok.drop,E.d,rz E rfl⟩
def qcE (u:World) (m0:Mem) (S:Segs) (pb0:Nat) (x0:Token) (r:Int) (a:Act) (w:World):Prop :=
 Ok u m0 ([(pb0,oc 29 [vs x0.Kind,vs x0.Text,vi x0.From])] :: S) w ∧ a.defers = [] ∧ RVs Tryz.prog a w [.t 4 (.int .i64 r)] ∧ InR .i64 r
theorem qe3 (N:Nat) (vs_0:Value) (s_0:List (Call)) (hs_0:(pL 3 qdd) m0 [vs_0] s_0) {pb0:Nat} (x0:Token) (l1:x0.Kind.length ≤ LIMS) (l2:x0.Text.length ≤ LIMS) (r3:InR .i64 x0.From) {r:Int} (hF:qba N s_0 x0 = some r) (hG:Glob u) (ok:Ok u m0 ([(pb0,oc 29 [vs x0.Kind,vs x0.Text,vi x0.From])] :: S) w) :
  Calls Tryz.prog 54 [vs_0,Value.func (.func 55) #[] #[.pointer (some ⟨pb0,0,none⟩)]].toArray w fun e w'=>(e = .returned (.int .i64 r) ∧ Ok u m0 ([(pb0,oc 29 [vs x0.Kind,vs x0.Text,vi x0.From])] :: S) w') ∧ InR .i64 r:=by
 unfold qba at hF
 refine en (qcE u m0 S pb0 x0) r Tryz.func54 rfl rfl rfl (fun _ _ h=>rb h rfl) fun fin a E=>sg<|aw E rfl fun a E=>wp_seq<|sg<|mv E rfl fun a E=>lv E ok (qau qgg hs_0 rfl) fun a E=>mv E rfl fun a E=>wn<|wp_block<|bd hF fun o5 hL hF=>qax _ (fun (s:Int) a w=>Ok u m0 ([(pb0,oc 29 [vs x0.Kind,vs x0.Text,vi x0.From])] :: S) w ∧ Env 19 a [(0,vs_0),(1,(Value.func (.func 55) #[] #[.pointer (some ⟨pb0,0,none⟩)])),(7,(vi (s_0.length:Int))),(8,vi s)] ∧ InR .i64 s) (fun (b:(Unit ⊕ Int)) e a w=>(Sum.elim (fun b25=>e = (.exit 0) ∧ Ok u m0 ([(pb0,oc 29 [vs x0.Kind,vs x0.Text,vi x0.From])] :: S) w ∧ Env 19 a []) (fun b26=>e = .ret ∧ qcE u m0 S pb0 x0 b26 a w)) b) ?_ ?_ N _ a w hL ⟨ok,E.keep [0,1,7,8],(ir 0)⟩
 rotate_left
 ·intro e a w _ hO
  rcases o5 with o5 | o5
  rotate_left
  ·obtain ⟨rfl,hret⟩:=hO
   refine qag<|qae ?_
   exact fin hF hret
  have hF:=qaX hF
  obtain ⟨rfl,ok,E⟩:=hO
  refine qaz<|qaa<|sg<|aw E rfl fun a E=>wp_ret ?_
  exact fin hF ⟨ok,E.d,rz E rfl,(ir (-1))⟩
 rintro v7 a w r ⟨ok,E,r8⟩ hF
 replace hF:qaW N s_0 x0 v7 = some r:=hF
 unfold qaW at hF
 refine sg<|lw E (qat rfl rfl) fun a E=>wn<|wp_seq<|cg E rfl hF (fun c9 hF=>?_) fun c9 hF=>?_
 ·refine wp_exit<|qap ?_
  cases hF
  exact so (sl ⟨rfl,⟨ok,E.keep []⟩⟩)
 refine wp_skip<|qaa<|wp_seq<|wp_block<|sg<|mv E rfl fun a E=>av E rfl fun a E=>wn<|sg<|mz E rfl rfl fun a E=>mv E rfl fun a E=>?_
 obtain ⟨x10,e11,hF⟩:=bnd hF
 obtain ⟨b12,o13,es14,hl15,rr16,at17,yy18⟩:=ia E 12 13 qgg hs_0 e11
 obtain ⟨rfl,l19,r20,r21⟩:=rr16
 refine lv E ok (yy18 _ _) fun a E=>lv E ok (qam (cs:=[vs x10.Name,vi x10.ID,vi x10.Source]) qsD rfl rfl (qac.ro at17)) fun a E=>bd hF fun r22 e23 hF=>qqH E rfl qwe rfl (qi4 N _ x10 ⟨rfl,l19,r20,r21⟩ x0 l1 l2 r3 e23 hG ok) rfl rfl ?_
 rintro _ w ⟨rfl,ok⟩
 refine ⟨_,rfl,fun a E=>?_⟩
 refine wn<|cg E rfl hF (fun c24 hF=>?_) fun c24 hF=>?_
 ·refine wp_skip<|qaf<|qaa<|qab<|lw E (qar rfl rfl (InR.inc r8 (qaj hs_0) c9)) fun a E=>mv E rfl fun a E=>wpList_nil ?_
  cases hF
  exact qan ⟨ok,E.keep [0,1,7,8],(InR.inc r8 (qaj hs_0) c9)⟩
 refine sg<|mv E rfl fun a E=>aw E rfl fun a E=>wp_ret<|qag<|qae ?_
 cases hF
 exact so (sr ⟨rfl,⟨ok,E.d,rz E rfl,r8⟩⟩)
theorem qhF {vl vc:Value} (hl:vl.cells.toList = [vl]) (hc:vc.cells.toList = [vc]) (ok:Ok u m0 S w) :
  Calls Tryz.prog 36 [vl,vc].toArray w fun e w'=>∃ b1 b2,e = .returned (.func (.func 53) #[] #[.pointer (some ⟨b1,0,none⟩),.pointer (some ⟨b2,0,none⟩)]) ∧ Ok u m0 ([(b2,oc 34 [vc])] :: [(b1,oc 26 [vl])] :: S) w':=by
 refine enter Tryz.func36 rfl rfl rfl fun a E=>sg<|qsn (cs:=[vl]) E ok rfl hl rfl rfl fun b1 a w E ok=>qsn (cs:=[vc]) E ok rfl hc rfl rfl fun b2 a w E ok=>aw E rfl fun a E=>sg<|lv E ok (qkI (caps:=[.tmp 2,.tmp 3]) rfl) fun a E=>aw E rfl fun a E=>wp_ret ?_
 exact qbs [.t 4 (.func (.func 53) #[] #[.pointer (some ⟨b1,0,none⟩),.pointer (some ⟨b2,0,none⟩)])] E.d rfl (rz E rfl) ⟨b1,b2,rfl,ok⟩
def KpO (u:World) (m:Mem) (T:Segs) (A B:World):Prop:=Ok u m T A → Ok u m T B
def FOk (nc B:Nat) (x:Found2):Prop:=0 ≤ x.call ∧ x.call < nc ∧ 0 ≤ x.offset ∧ x.offset ≤ B ∧ x.id.length ≤ B + 1000000 ∧ x.source.length ≤ B + 1000000 ∧ x.comment.length ≤ B + 1000000
abbrev Fo (nc B:Nat):={ x:Found2 // FOk nc B x }
def fcs (x:Found2):List Value:=[vi x.call,vi x.offset,vs x.id,vs x.source,vs x.comment]
theorem qrX {u:World} {m0:Mem} {N nc B b1 b2:Nat} {vl_0 vcalls_1:Value} {l_0:List Token} {calls_1:List Call} {rs:List Found2} (hl_0:(pL 3 qaE) m0 [vl_0] l_0) (hcalls_1:(pL 3 qdd) m0 [vcalls_1] calls_1)
  (hF0:qdU N l_0 calls_1 = some rs) (hB:∀ x ∈ rs,FOk nc B x) (hG:Glob u) {w:World} (ok:Ok u m0 [[(b2,oc 34 [vcalls_1])],[(b1,oc 26 [vl_0])]] w) :
  SeqStopsK Fence.wide 2 Tryz.prog 53 #[.pointer (some ⟨b1,0,none⟩),.pointer (some ⟨b2,0,none⟩)] (fun x:Fo nc B=>#[Value.agg (fcs x.1).toArray]) (KpO u m0 [[(b2,oc 34 [vcalls_1])],[(b1,oc 26 [vl_0])]]) (fun ys=>ys.map (·.1) = rs) (fun ys=>∃ zs,ys.map (·.1) ++ zs = rs) rs.length w:=by
 intro ln J Jx W hW hJ hJx hY h0
 have okW:Ok u m0 [[(b2,oc 34 [vcalls_1])],[(b1,oc 26 [vl_0])]] W:=ok.below' hW
 clear hW ok
 refine callsIn_wide.2 ?_
 rw [show (#[Value.func (.yield ln) #[] #[]] ++ #[vp b1,vp b2]:Array Value) = [Value.func (.yield ln) #[] #[],vp b1,vp b2].toArray from by simp]
 have grow:∀ {A C:World} {ys:List (Fo nc B)},J ys A → Go.RowKit.Below A.heap.size A C → J ys C:=fun hA hb=>hJ _ _ _ none hA ⟨hb.os,hb.tape,hb.output,hb.size,fun k hk _=>hb.block k hk⟩ (fun r e=>by cases e)
 refine enter Tryz.func53 rfl rfl rfl fun a E=>sg<|qjR E okW (qah qfV rfl (qac.own 1 rfl rfl)) rfl rfl fun a E=>qjR E okW (qau qcz hl_0 rfl) rfl rfl fun a E=>qjR E okW (qad rfl) rfl rfl fun a E=>wn ?_
 have hlen:=qcq.1 (qaj hl_0)
 have E0:Env 126 a [(12,vl_0),(13,(vi (l_0.length:Int))),(14,(vi ((0:Nat):Int))),(0,(Value.func (.yield ln) #[] #[])),(1,vp b1),(2,vp b2)]:=E.keep [12,13,14,0,1,2]
 refine wp_block ?_
 unfold qdU at hF0
 refine quO (fun n a w=>∃ (i:Nat) (acc:List (Fo nc B)),n = l_0.length - i ∧ i ≤ l_0.length ∧ Env 126 a [(12,vl_0),(13,(vi (l_0.length:Int))),(14,(vi (i:Int))),(0,(Value.func (.yield ln) #[] #[])),(1,vp b1),(2,vp b2)] ∧ Ok u m0 [[(b2,oc 34 [vcalls_1])],[(b1,oc 26 [vl_0])]] w ∧ J acc w ∧ ∃ rest,qg9 N l_0 calls_1 (l_0.length - i) i = some rest ∧ acc.map (·.1) ++ rest = rs) ?_ l_0.length _ _ ⟨0,[],rfl,by omega,E0,okW,h0,rs,hF0,rfl⟩
 clear E0 E okW h0 hF0
 rintro n a w ⟨i,acc,rfl,hi,E,okW,hJw,rest,hfo,hrs⟩
 refine sg<|qjR E okW (qat rfl rfl) rfl rfl fun a E=>wn<|wp_seq<|c_if E rfl (fun hc=>?_) (fun hc=>?_)
 rotate_left
 ·refine wp_exit<|qap<|.inr ⟨by nofun,?_⟩
  refine qaz ?_
  have hk6:i = l_0.length:=by have:=of_decide_eq_false hc; omega
  subst hk6
  rw [Nat.sub_self] at hfo
  obtain rfl:=Option.some.inj hfo
  exact qbs (R:=fun e W'=>(∃ v,e = Ending.returned v) ∧ ((∃ xs:List (Fo nc B),xs.map (·.1) = rs ∧ J xs W') ∨ (∃ pre:List (Fo nc B),(∃ zs,pre.map (·.1) ++ zs = rs) ∧ Jx pre W'))) (fn:=Tryz.f53) (P:=Tryz.prog) [] E.d rfl trivial ⟨⟨_,rfl⟩,.inl ⟨acc,by simpa using hrs,hJw⟩⟩
 have hi6:i < l_0.length:=by have:=of_decide_eq_true hc; omega
 rw [show l_0.length - i = (l_0.length - (i + 1)) + 1 by omega,qg9] at hfo
 obtain ⟨r,hF,hfo⟩:=bnd hfo
 obtain ⟨rest',hfo',hrest⟩:=bnd hfo
 obtain rfl:=Option.some.inj hrest
 have E:=E.keep [12,13,14,0,1,2]
 obtain ⟨i_2,hi2⟩:∃ i_2:Int,i_2 = (i:Int):=⟨_,rfl⟩
 rw [← hi2] at hF E
 have ri_2:InR .i64 i_2:=by rw [hi2,qcq]; omega
 refine wp_skip<|qaa<|wp_seq ?_
 obtain ⟨Q',hQ'⟩:∃ Q':Exit → Act → World → Prop,Q' = fun e a w=>(e = .normal ∧ ∃ acc':List (Fo nc B),Env 126 a [(12,vl_0),(13,(vi (l_0.length:Int))),(14,vi i_2),(0,(Value.func (.yield ln) #[] #[])),(1,vp b1),(2,vp b2)] ∧ Ok u m0 [[(b2,oc 34 [vcalls_1])],[(b1,oc 26 [vl_0])]] w ∧ J acc' w ∧ acc'.map (·.1) ++ rest' = rs) ∨ (e = .ret ∧ a.defers = [] ∧ ∃ pre:List (Fo nc B),(∃ zs,pre.map (·.1) ++ zs = rs) ∧ Jx pre w):=⟨_,rfl⟩
 refine qa6 (Q':=Q') ?_ ?_
 rotate_left
 ·rw [hQ']
  rintro e a w (⟨rfl,acc',E,okW,hJ2,hrs2⟩ | ⟨rfl,hd,hpre⟩)
  ·refine qaa<|qab<|lv E okW (qav rfl rfl) fun a E=>lv E okW (qad rfl) fun a E=>wpList_nil (.inl ⟨rfl,l_0.length - (i + 1),by omega,i + 1,acc',rfl,by omega,?_,okW,hJ2,rest',hfo',hrs2⟩)
   have hw:IntKind.wrap .i64 (i_2 + 1) = ((i + 1:Nat):Int):=by rw [hi2,qee (qcq.2 ⟨by omega,by omega⟩)]; omega
   rw [hw] at E
   exact E.keep [12,13,14,0,1,2]
  ·refine qae<|.inr ⟨by nofun,?_⟩
   refine qag ?_
   exact qbs (R:=fun e W'=>(∃ v,e = Ending.returned v) ∧ ((∃ xs:List (Fo nc B),xs.map (·.1) = rs ∧ J xs W') ∨ (∃ pre:List (Fo nc B),(∃ zs,pre.map (·.1) ++ zs = rs) ∧ Jx pre W'))) (fn:=Tryz.f53) (P:=Tryz.prog) [] hd rfl trivial ⟨⟨_,rfl⟩,.inr hpre⟩
 have belo:=fun {m4:Mem} {w':World} (hle:(hmx w [[(b2,oc 34 [vcalls_1])],[(b1,oc 26 [vl_0])]]).le m4) (ok4:Ok u m4 [[(b2,oc 34 [vcalls_1])],[(b1,oc 26 [vl_0])]] w')=>okW.belowX hle ok4
 have okF:=okW.full
 have hskip:∀ {m4:Mem} {a:Act} {w':World},(hmx w [[(b2,oc 34 [vcalls_1])],[(b1,oc 26 [vl_0])]]).le m4 → Ok u m4 [[(b2,oc 34 [vcalls_1])],[(b1,oc 26 [vl_0])]] w' → Env 126 a [(12,vl_0),(13,(vi (l_0.length:Int))),(14,vi i_2),(0,(Value.func (.yield ln) #[] #[])),(1,vp b1),(2,vp b2)] → r = none → Q' .normal a w':=by
  intro m4 a w' hle ok4 E hr
  rw [hQ']
  exact .inl ⟨rfl,acc,E,okW.below' (belo hle ok4),grow hJw (belo hle ok4),by rw [← hrs,hr]; rfl⟩
 have hyd:∀ {m4:Mem} {X:List (List (Nat × Obj))} {w':World} {x:Found2},(hmx w [[(b2,oc 34 [vcalls_1])],[(b1,oc 26 [vl_0])]]).le m4 → Ok u m4 [[(b2,oc 34 [vcalls_1])],[(b1,oc 26 [vl_0])]] w' → r = some x →
   Ok u m0 [[(b2,oc 34 [vcalls_1])],[(b1,oc 26 [vl_0])]] w' ∧ ∃ y:Fo nc B,y.1 = x ∧ (acc ++ [y]).map (·.1) ++ rest' = rs ∧ YieldAt Fence.wide 1 Tryz.prog ln #[Value.agg (fcs x).toArray] w' fun e W' =>
    (e = .returned (.bool true) ∧ J (acc ++ [y]) W' ∧ KpO u m0 [[(b2,oc 34 [vcalls_1])],[(b1,oc 26 [vl_0])]] w' W') ∨ (e = .returned (.bool false) ∧ Jx (acc ++ [y]) W'):=by
  intro m4 X w' x hle ok4 hr
  rw [hr] at hrs
  have hx:x ∈ rs:=by rw [← hrs]; simp
  have hn:acc.length < rs.length:=by rw [← hrs]; simp
  refine ⟨okW.below' (belo hle ok4),⟨x,hB x hx⟩,rfl,?_,hY acc ⟨x,hB x hx⟩ w' (grow hJw (belo hle ok4)) hn⟩
  rw [← hrs]; simp
 replace hl_0:=(mL qaN).up okW.hmx_le hl_0
 replace hcalls_1:=(mL qby).up okW.hmx_le hcalls_1
 clear belo grow hJw okW
 obtain ⟨mo,hmo⟩:∃ mo:Mem,mo = m0:=⟨_,rfl⟩
 rw [← hmo] at hyd hQ'
 clear hmo hY hJ hJx
 obtain ⟨S,hS⟩:∃ S:Segs,S = []:=⟨_,rfl⟩
 rw [← hS] at hQ' hskip hyd okF hl_0 hcalls_1
 clear hS m0
 generalize hmx w _ = m0 at *
 have ok:=okF
 clear okF
 have le_m0:=Mem.le.refl m0
 unfold qfG at hF
 refine wp_block<|sg<|mv E rfl fun a E=>?_
 obtain ⟨x12,e13,hF⟩:=bnd hF
 obtain ⟨b14,o15,es16,hl17,rr18,at19,yy20⟩:=ia E 12 14 qcz hl_0 e13
 obtain ⟨rfl,l21,l22,r23⟩:=rr18
 refine lv E ok (yy20 _ _) fun a E=>lv E ok (qam (cs:=[vs x12.Kind,vs x12.Text,vi x12.From]) qf2 rfl rfl (qac.ro at19)) fun a E=>qaM E ok qdo rfl rfl fun b24 a w E ok=>av E rfl fun a E=>qai E ok 0 rfl rfl rfl qke rfl rfl ⟨rfl,rfl,rfl,trivial⟩ rfl rfl fun w ok=>wn<|sg<|ld E ok qji 1 rfl rfl rfl fun a E=>lv E ok (qkI (caps:=[.tmp 5]) rfl) fun a E=>bd hF fun r25 e26 hF=>qas E qwA rfl (qe3 N _ calls_1 hcalls_1 x12 l21 l22 r23 e26 hG ok) rfl rfl ?_
 rintro _ w ⟨⟨rfl,ok⟩,r27⟩
 refine ⟨_,rfl,fun a E=>?_⟩
 refine aw E rfl fun a E=>sg<|mv E rfl fun a E=>lw E (qav rfl rfl) fun a E=>av E rfl fun a E=>wn<|wp_seq<|wp_block<|bd hF fun o29 hL hF=>qax _ (fun (s:Int) a w=>Ok u m0 ([(b24,oc 29 [vs x12.Kind,vs x12.Text,vi x12.From])] :: [(b2,oc 34 [vcalls_1])] :: [(b1,oc 26 [vl_0])] :: S) w ∧ Env 126 a [(4,vi i_2),(5,vp b24),(6,vi r25),(7,vi s),(12,vl_0),(13,(vi (l_0.length:Int))),(14,vi i_2),(0,(Value.func (.yield ln) #[] #[])),(1,vp b1),(2,vp b2)] ∧ InR .i64 s) (fun (b:Int) e a w=>e = (.exit 2) ∧ Ok u m0 ([(b24,oc 29 [vs x12.Kind,vs x12.Text,vi x12.From])] :: [(b2,oc 34 [vcalls_1])] :: [(b1,oc 26 [vl_0])] :: S) w ∧ Env 126 a [(4,vi i_2),(5,vp b24),(6,vi r25),(7,vi b),(12,vl_0),(13,(vi (l_0.length:Int))),(14,vi i_2),(0,(Value.func (.yield ln) #[] #[])),(1,vp b1),(2,vp b2)] ∧ InR .i64 b) ?_ ?_ N _ a w hL ⟨ok,E.keep [4,5,6,7,12,13,14,0,1,2],(InR.wrap _ _)⟩
 ·rintro v31 a w r ⟨ok,E,r32⟩ hF
  replace hF:qdm N l_0 v31 = some r:=hF
  unfold qdm at hF
  refine wp_seq<|sg<|mv E rfl fun a E=>ld E ok qfV 2 rfl rfl rfl fun a E=>lv E ok (qau qcz hl_0 rfl) fun a E=>lw E (qat rfl rfl) fun a E=>mv E rfl fun a E=>bw E 28 hF (fun c33 hF E=>?_) fun c33 hF E=>?_
  ·refine lsz E fun a E=>ls E fun a E=>pf E rfl rfl fun a E=>wn<|c_if E rfl (fun h=>by cases h) (fun _=>?_)
   refine wp_exit<|qap ?_
   cases hF
   exact so (⟨rfl,⟨ok,E.keep [4,5,6,7,12,13,14,0,1,2],r32⟩⟩)
  refine ld E ok qfV 2 rfl rfl rfl fun a E=>mv E rfl fun a E=>?_
  obtain ⟨x34,e35,hF⟩:=bnd hF
  obtain ⟨b36,o37,es38,hl39,rr40,at41,yy42⟩:=ia E 29 30 qcz hl_0 e35
  obtain ⟨rfl,l43,l44,r45⟩:=rr40
  refine lv E ok (yy42 _ _) fun a E=>lv E ok (qam (cs:=[vs x34.Kind,vs x34.Text,vi x34.From]) qf2 rfl rfl (qac.ro at41)) fun a E=>bd hF fun r46 e47 hF=>lc E qrv rfl (qhQ N _ x34 ⟨rfl,l43,l44,r45⟩ e47 hG ok) fun w ok a E=>pt E rfl rfl fun a E=>wn<|cg E rfl hF (fun c48 hF=>?_) fun c48 hF=>?_
  ·refine wp_exit<|qap ?_
   cases hF
   exact so (⟨rfl,⟨ok,E.keep [4,5,6,7,12,13,14,0,1,2],r32⟩⟩)
  refine wp_skip<|qaa<|wp_block<|qab<|mv E rfl fun a E=>lw E (qar rfl rfl (InR.inc r32 (qaj hl_0) c33)) fun a E=>av E rfl fun a E=>wpList_nil<|qaf ?_
  cases hF
  exact qan ⟨ok,E.keep [4,5,6,7,12,13,14,0,1,2],(InR.inc r32 (qaj hl_0) c33)⟩
 intro e a w _ hO
 obtain ⟨rfl,ok,E,r49⟩:=hO
 refine qaz<|qaa<|wp_seq<|sg<|mv E rfl fun a E=>lw E (qat rfl rfl) fun a E=>mv E rfl fun a E=>bu E 39 hF (fun c50 hF E=>?_) fun c50 hF E=>?_
 ·refine lsz E fun a E=>pt E rfl rfl fun a E=>mv E rfl fun a E=>lsz E fun a E=>lsq E fun a E=>pt E rfl rfl fun a E=>wn<|c_if E rfl (fun _=>?_) (fun h=>by cases h)
  refine wp_exit<|qap<|qaz ?_
  exact hskip le_m0 (ok.pk 3 [1,2] rfl (by decide)) (E.keep [12,13,14,0,1,2]) (sj hF).symm
 refine mv E rfl fun a E=>ld E ok qfV 2 rfl rfl rfl fun a E=>lv E ok (qau qcz hl_0 rfl) fun a E=>lw E (qa0 rfl rfl) fun a E=>pf E rfl rfl fun a E=>mv E rfl fun a E=>bu E 45 hF (fun c51 hF E=>?_) fun c51 hF E=>?_
 ·refine lsz E fun a E=>lsq E fun a E=>pt E rfl rfl fun a E=>wn<|c_if E rfl (fun _=>?_) (fun h=>by cases h)
  refine wp_exit<|qap<|qaz ?_
  exact hskip le_m0 (ok.pk 3 [1,2] rfl (by decide)) (E.keep [12,13,14,0,1,2]) (sj hF).symm
 refine ld E ok qfV 2 rfl rfl rfl fun a E=>mv E rfl fun a E=>?_
 obtain ⟨x52,e53,hF⟩:=bnd hF
 obtain ⟨b54,o55,es56,hl57,rr58,at59,yy60⟩:=ia E 46 47 qcz hl_0 e53
 obtain ⟨rfl,l61,l62,r63⟩:=rr58
 refine lv E ok (yy60 _ _) fun a E=>fv E qbT rfl fun a E=>lv E ok (qah qal rfl (qac.ro (At.sub 0 1 at59))) fun a E=>lw E (qbn rfl rfl) fun a E=>pf E rfl rfl fun a E=>wn<|cf E rfl hF (fun c64 hF=>?_) fun c64 hF=>?_
 ·refine wp_exit<|qap<|qaz ?_
  exact hskip le_m0 (ok.pk 3 [1,2] rfl (by decide)) (E.keep [12,13,14,0,1,2]) (sj hF).symm
 refine wp_skip<|qaa<|sg<|ld E ok qfV 2 rfl rfl rfl fun a E=>mv E rfl fun a E=>bd hF fun r65 e66 hF=>qas E qvV rfl (qk5 N _ l_0 hl_0 o29 r49 e66 hG ok) rfl rfl ?_
 rintro _ w ⟨m67,c68,rfl,hle,ok,h69⟩
 have le_m0:=le_m0.trans hle
 have hl_0:=(mL qaN).up hle hl_0
 have hcalls_1:=(mL qby).up hle hcalls_1
 have at19:=At.up hle at19
 have at59:=At.up hle at59
 refine ⟨_,rfl,fun a E=>?_⟩
 refine aw E rfl fun a E=>wp_seq<|bd hF fun o70 hJ hF=>qa6 (Q':=fun e a w=>e = .normal ∧ ∃ b76,Ok u m67 ([(b76,oc 105 [vi o70.call,vi o70.offset,vs o70.id,vs o70.source,vs o70.comment])] :: [(b24,oc 29 [vs x12.Kind,vs x12.Text,vi x12.From])] :: [(b2,oc 34 [vcalls_1])] :: [(b1,oc 26 [vl_0])] :: S) w ∧ Env 126 a [(6,vi r25),(8,c68),(9,vp b76),(12,vl_0),(13,(vi (l_0.length:Int))),(14,vi i_2),(0,(Value.func (.yield ln) #[] #[])),(1,vp b1),(2,vp b2)] ∧ InR .i64 o70.call ∧ InR .i64 o70.offset ∧ o70.id.length ≤ LIMS ∧ o70.source.length ≤ LIMS ∧ o70.comment.length ≤ LIMS) ?_ ?_
 ·have hF:=hJ
  obtain ⟨r77,e78,hF⟩:=bnd hF
  obtain rfl:=sj hF
  refine qcb [] (Cls u m67 ([(b24,oc 29 [vs x12.Kind,vs x12.Text,vi x12.From])] :: [(b2,oc 34 [vcalls_1])] :: [(b1,oc 26 [vl_0])] :: [])) (Cls u m67 ([(b24,oc 29 [vs x12.Kind,vs x12.Text,vi x12.From])] :: [(b2,oc 34 [vcalls_1])] :: [(b1,oc 26 [vl_0])] :: [])) (by kernel_rfl) ?_
  intro w hw
  replace ok:=qcB ok hw
  clear hw
  have le_m67:=Mem.le.refl m67
  refine qay (cl1 (cq le_m67 ok [0,1,2] rfl) (cq le_m67 ok [0,1,2] rfl)) fun hT=>kt 0 E rfl hT (qad rfl) fun a E=>kt 1 E rfl hT (qak qut rfl) fun a E=>kt 2 E rfl hT (qah qaJ rfl (qac.cown 0 rfl rfl)) fun a E=>kt 3 E rfl hT (qah qfV rfl (qac.cown 2 rfl rfl)) fun a E=>kt 4 E rfl hT (qad rfl) fun a E=>qaZ [5,7] (by kernel_rfl) rfl (qrw ?_ (qrw ?_ (qtp)))
  ·refine wo rfl<|qas E qtO rfl (qiX N _ l_0 hl_0 i_2 ri_2 e78 hG ok) rfl rfl ?_
   rintro _ w ⟨⟨rfl,ok⟩,l81⟩
   refine ⟨_,rfl,fun a E=>?_⟩
   refine wn<|qay (cl1 (cq le_m67 ok [0,1,2] rfl) (cq le_m67 ok [0,1,2] rfl)) fun hT=>kt 6 E rfl hT (qaR (ps:=[(0,.tmp 56),(1,.tmp 58),(4,.tmp 61)]) (qs:=[(0,[vi r25]),(1,[vi x12.From]),(4,[vs r77])]) (cs:=[vi r25,vi x12.From,(vs ([])),(vs ([])),vs r77]) qjf qnl rfl ⟨rfl,rfl,rfl,⟨rfl,rfl,rfl,⟨rfl,rfl,rfl,trivial⟩⟩⟩ rfl) fun a E=>qaZ [7] (by kernel_rfl) rfl (qa1 ?_)
   ·refine wo rfl<|qaM E ok qjf rfl rfl fun b82 a w E ok=>wn<|qay (cl1 (cq le_m67 ok [1,2,3] rfl) (cq le_m67 ok [1,2,3] rfl)) fun hT=>qaZ [8] (by kernel_rfl) rfl (qa1 ?_)
    ·refine wo rfl<|qai E ok 0 rfl rfl rfl qn1 rfl rfl ⟨rfl,rfl,rfl,rfl,rfl,trivial⟩ rfl rfl fun w ok=>wn<|qay (cl1 (cq le_m67 ok [1,2,3] rfl) (cq le_m67 ok [1,2,3] rfl)) fun hT=>qcl (by kernel_rfl) ?_
     exact ⟨rfl,⟨b82,ok,E.keep [6,8,9,12,13,14,0,1,2],r27,r23,(Nat.zero_le _),(Nat.zero_le _),l81⟩⟩
  refine wo rfl<|qaM E ok qjf rfl rfl fun b83 a w E ok=>wn<|qay (cl1 (cq le_m67 ok [1,2,3] rfl) (cq le_m67 ok [1,2,3] rfl)) fun hT=>qaZ [5] (by kernel_rfl) rfl (qa1 ?_)
  ·refine wo rfl<|qas E qtO rfl (qiX N _ l_0 hl_0 i_2 ri_2 e78 hG ok) rfl rfl ?_
   rintro _ w ⟨⟨rfl,ok⟩,l84⟩
   refine ⟨_,rfl,fun a E=>?_⟩
   refine wn<|qay (cl1 (cq le_m67 ok [1,2,3] rfl) (cq le_m67 ok [1,2,3] rfl)) fun hT=>kt 6 E rfl hT (qaR (ps:=[(0,.tmp 56),(1,.tmp 58),(4,.tmp 61)]) (qs:=[(0,[vi r25]),(1,[vi x12.From]),(4,[vs r77])]) (cs:=[vi r25,vi x12.From,(vs ([])),(vs ([])),vs r77]) qjf qnl rfl ⟨rfl,rfl,rfl,⟨rfl,rfl,rfl,⟨rfl,rfl,rfl,trivial⟩⟩⟩ rfl) fun a E=>qaZ [8] (by kernel_rfl) rfl (qa1 ?_)
   ·refine wo rfl<|qai E ok 0 rfl rfl rfl qn1 rfl rfl ⟨rfl,rfl,rfl,rfl,rfl,trivial⟩ rfl rfl fun w ok=>wn<|qay (cl1 (cq le_m67 ok [1,2,3] rfl) (cq le_m67 ok [1,2,3] rfl)) fun hT=>qcl (by kernel_rfl) ?_
    exact ⟨rfl,⟨b83,ok,E.keep [6,8,9,12,13,14,0,1,2],r27,r23,(Nat.zero_le _),(Nat.zero_le _),l84⟩⟩
 intro e a w hO
 obtain ⟨rfl,b90,ok,E,r85,r86,l87,l88,l89⟩:=hO
 refine qaa<|sg<|av E rfl fun a E=>aw E rfl fun a E=>wp_seq<|sg<|ld E ok qji 2 rfl rfl rfl fun a E=>mv E rfl fun a E=>?_
 obtain ⟨x91,e92,hF⟩:=bnd hF
 obtain ⟨b93,o94,es95,hl96,rr97,at98,yy99⟩:=ia E 63 64 qgg hcalls_1 e92
 obtain ⟨rfl,l100,r101,r102⟩:=rr97
 refine lv E ok (yy99 _ _) fun a E=>fv E qjb rfl fun a E=>lv E ok (qah qaJ rfl (qac.ro (At.sub 1 1 at98))) fun a E=>lw E (qa2 rfl rfl) fun a E=>wn<|bd hF fun o103 hJ hF=>qa6 (Q':=fun e a w=>e = .normal ∧ Ok u m67 ([(b90,oc 105 [vi o103.2.call,vi o103.2.offset,vs o103.2.id,vs o103.2.source,vs o103.2.comment])] :: [(b24,oc 29 [vs x12.Kind,vs x12.Text,vi x12.From])] :: [(b2,oc 34 [vcalls_1])] :: [(b1,oc 26 [vl_0])] :: S) w ∧ Env 126 a [(6,vi r25),(8,c68),(9,vp b90),(10,vb o103.1),(11,vb true),(12,vl_0),(13,(vi (l_0.length:Int))),(14,vi i_2),(0,(Value.func (.yield ln) #[] #[])),(1,vp b1),(2,vp b2)] ∧ InR .i64 o103.2.call ∧ InR .i64 o103.2.offset ∧ o103.2.id.length ≤ LIMS ∧ o103.2.source.length ≤ LIMS ∧ o103.2.comment.length ≤ LIMS) ?_ ?_
 ·have hF:=hJ
  refine cg E rfl hF (fun c109 hF=>?_) fun c109 hF=>?_
  ·refine wp_skip ?_
   cases hF
   exact ⟨rfl,⟨ok,E.keep [6,8,9,10,11,12,13,14,0,1,2],r85,r86,l87,l88,l89⟩⟩
  refine qab<|mv E rfl fun a E=>ld E ok qji 2 rfl rfl rfl fun a E=>mv E rfl fun a E=>?_
  obtain ⟨x110,e111,hF⟩:=bnd hF
  obtain ⟨b112,o113,es114,hl115,rr116,at117,yy118⟩:=ia E 71 72 qgg hcalls_1 e111
  obtain ⟨rfl,l119,r120,r121⟩:=rr116
  refine lv E ok (yy118 _ _) fun a E=>fv E qjb rfl fun a E=>lv E ok (qah qaJ rfl (qac.ro (At.sub 1 1 at117))) fun a E=>bd hF fun r122 e123 hF=>qas E qtz rfl (qjV N _ r65 h69 x110.ID r120 e123 hG ok) rfl rfl ?_
  rintro _ w ⟨⟨rfl,ok⟩,l124⟩
  refine ⟨_,rfl,fun a E=>?_⟩
  refine mv E rfl fun a E=>lw E (qao rfl rfl) fun a E=>lw E (qao rfl rfl) fun a E=>fv E qih rfl fun a E=>qai E ok 0 rfl rfl rfl qgB rfl rfl ⟨rfl,trivial⟩ rfl rfl fun w ok=>av E rfl fun a E=>wpList_nil ?_
  cases hF
  exact ⟨rfl,⟨ok,E.keep [6,8,9,10,11,12,13,14,0,1,2],r85,r86,l124,l88,l89⟩⟩
 intro e a w hO
 obtain ⟨rfl,ok,E,r125,r126,l127,l128,l129⟩:=hO
 refine qaa<|wp_seq<|sg<|ld E ok qji 2 rfl rfl rfl fun a E=>mv E rfl fun a E=>?_
 obtain ⟨x130,e131,hF⟩:=bnd hF
 obtain ⟨b132,o133,es134,hl135,rr136,at137,yy138⟩:=ia E 80 81 qgg hcalls_1 e131
 obtain ⟨rfl,l139,r140,r141⟩:=rr136
 refine lv E ok (yy138 _ _) fun a E=>fv E qi8 rfl fun a E=>lv E ok (qah qaJ rfl (qac.ro (At.sub 2 1 at137))) fun a E=>lw E (qa2 rfl rfl) fun a E=>wn<|bd hF fun o142 hJ hF=>qa6 (Q':=fun e a w=>e = .normal ∧ Ok u m67 ([(b90,oc 105 [vi o142.2.call,vi o142.2.offset,vs o142.2.id,vs o142.2.source,vs o142.2.comment])] :: [(b24,oc 29 [vs x12.Kind,vs x12.Text,vi x12.From])] :: [(b2,oc 34 [vcalls_1])] :: [(b1,oc 26 [vl_0])] :: S) w ∧ Env 126 a [(6,vi r25),(9,vp b90),(10,vb o103.1),(11,vb o142.1),(12,vl_0),(13,(vi (l_0.length:Int))),(14,vi i_2),(0,(Value.func (.yield ln) #[] #[])),(1,vp b1),(2,vp b2)] ∧ InR .i64 o142.2.call ∧ InR .i64 o142.2.offset ∧ o142.2.id.length ≤ LIMS ∧ o142.2.source.length ≤ LIMS ∧ o142.2.comment.length ≤ LIMS) ?_ ?_
 ·have hF:=hJ
  refine cg E rfl hF (fun c148 hF=>?_) fun c148 hF=>?_
  ·refine wp_skip ?_
   cases hF
   exact ⟨rfl,⟨ok,E.keep [6,9,10,11,12,13,14,0,1,2],r125,r126,l127,l128,l129⟩⟩
  refine qab<|mv E rfl fun a E=>ld E ok qji 2 rfl rfl rfl fun a E=>mv E rfl fun a E=>?_
  obtain ⟨x149,e150,hF⟩:=bnd hF
  obtain ⟨b151,o152,es153,hl154,rr155,at156,yy157⟩:=ia E 88 89 qgg hcalls_1 e150
  obtain ⟨rfl,l158,r159,r160⟩:=rr155
  refine lv E ok (yy157 _ _) fun a E=>fv E qi8 rfl fun a E=>lv E ok (qah qaJ rfl (qac.ro (At.sub 2 1 at156))) fun a E=>bd hF fun r161 e162 hF=>qas E qtz rfl (qjV N _ r65 h69 x149.Source r160 e162 hG ok) rfl rfl ?_
  rintro _ w ⟨⟨rfl,ok⟩,l163⟩
  refine ⟨_,rfl,fun a E=>?_⟩
  refine mv E rfl fun a E=>lw E (qao rfl rfl) fun a E=>lw E (qao rfl rfl) fun a E=>fv E qjv rfl fun a E=>qai E ok 0 rfl rfl rfl qgB rfl rfl ⟨rfl,trivial⟩ rfl rfl fun w ok=>av E rfl fun a E=>wpList_nil ?_
  cases hF
  exact ⟨rfl,⟨ok,E.keep [6,9,10,11,12,13,14,0,1,2],r125,r126,l127,l163,l129⟩⟩
 intro e a w hO
 obtain ⟨rfl,ok,E,r164,r165,l166,l167,l168⟩:=hO
 refine qaa<|wp_seq<|sg<|mv E rfl fun a E=>lw E (qbj rfl) fun a E=>mv E rfl fun a E=>bu E 99 hF (fun c169 hF E=>?_) fun c169 hF E=>?_
 ·refine lsq E fun a E=>pt E rfl rfl fun a E=>wn<|c_if E rfl (fun _=>?_) (fun h=>by cases h)
  refine wp_exit<|qap<|qaz ?_
  exact hskip le_m0 (ok.pk 4 [2,3] rfl (by decide)) (E.keep [12,13,14,0,1,2]) (sj hF).symm
 refine mv E rfl fun a E=>lw E (qbj rfl) fun a E=>pf E rfl rfl fun a E=>wn<|cf E rfl hF (fun c170 hF=>?_) fun c170 hF=>?_
 ·refine wp_exit<|qap<|qaz ?_
  exact hskip le_m0 (ok.pk 4 [2,3] rfl (by decide)) (E.keep [12,13,14,0,1,2]) (sj hF).symm
 refine wp_skip<|qaa<|wp_seq<|sg<|ld E ok qji 2 rfl rfl rfl fun a E=>mv E rfl fun a E=>?_
 obtain ⟨x171,e172,hF⟩:=bnd hF
 obtain ⟨b173,o174,es175,hl176,rr177,at178,yy179⟩:=ia E 103 104 qgg hcalls_1 e172
 obtain ⟨rfl,l180,r181,r182⟩:=rr177
 refine lv E ok (yy179 _ _) fun a E=>fv E qjb rfl fun a E=>lv E ok (qah qaJ rfl (qac.ro (At.sub 1 1 at178))) fun a E=>lw E (qat rfl rfl) fun a E=>wn<|bd hF fun o183 hJ hF=>qa6 (Q':=fun e a w=>e = .normal ∧ Ok u m67 ([(b90,oc 105 [vi o183.call,vi o183.offset,vs o183.id,vs o183.source,vs o183.comment])] :: [(b24,oc 29 [vs x12.Kind,vs x12.Text,vi x12.From])] :: [(b2,oc 34 [vcalls_1])] :: [(b1,oc 26 [vl_0])] :: S) w ∧ Env 126 a [(6,vi r25),(9,vp b90),(12,vl_0),(13,(vi (l_0.length:Int))),(14,vi i_2),(0,(Value.func (.yield ln) #[] #[])),(1,vp b1),(2,vp b2)] ∧ InR .i64 o183.call ∧ InR .i64 o183.offset ∧ o183.id.length ≤ LIMS ∧ o183.source.length ≤ LIMS ∧ o183.comment.length ≤ LIMS) ?_ ?_
 ·have hF:=hJ
  refine cg E rfl hF (fun c189 hF=>?_) fun c189 hF=>?_
  ·refine wp_skip ?_
   cases hF
   exact ⟨rfl,⟨ok,E.keep [6,9,12,13,14,0,1,2],r164,r165,l166,l167,l168⟩⟩
  refine qab<|fk E ok qjv qal rfl 0 rfl rfl fun a E=>fv E qih rfl fun a E=>qai E ok 0 rfl rfl rfl qgB rfl rfl ⟨rfl,trivial⟩ rfl rfl fun w ok=>wpList_nil ?_
  cases hF
  exact ⟨rfl,⟨ok,E.keep [6,9,12,13,14,0,1,2],r164,r165,l167,l167,l168⟩⟩
 intro e a w hO
 obtain ⟨rfl,ok,E,r190,r191,l192,l193,l194⟩:=hO
 refine qaa<|wp_seq<|sg<|ld E ok qji 2 rfl rfl rfl fun a E=>mv E rfl fun a E=>?_
 obtain ⟨x195,e196,hF⟩:=bnd hF
 obtain ⟨b197,o198,es199,hl200,rr201,at202,yy203⟩:=ia E 112 113 qgg hcalls_1 e196
 obtain ⟨rfl,l204,r205,r206⟩:=rr201
 refine lv E ok (yy203 _ _) fun a E=>fv E qi8 rfl fun a E=>lv E ok (qah qaJ rfl (qac.ro (At.sub 2 1 at202))) fun a E=>lw E (qat rfl rfl) fun a E=>wn<|bd hF fun o207 hJ hF=>qa6 (Q':=fun e a w=>e = .normal ∧ Ok u m67 ([(b90,oc 105 [vi o207.call,vi o207.offset,vs o207.id,vs o207.source,vs o207.comment])] :: [(b24,oc 29 [vs x12.Kind,vs x12.Text,vi x12.From])] :: [(b2,oc 34 [vcalls_1])] :: [(b1,oc 26 [vl_0])] :: S) w ∧ Env 126 a [(9,vp b90),(12,vl_0),(13,(vi (l_0.length:Int))),(14,vi i_2),(0,(Value.func (.yield ln) #[] #[])),(1,vp b1),(2,vp b2)] ∧ InR .i64 o207.call ∧ InR .i64 o207.offset ∧ o207.id.length ≤ LIMS ∧ o207.source.length ≤ LIMS ∧ o207.comment.length ≤ LIMS) ?_ ?_
 ·have hF:=hJ
  refine cg E rfl hF (fun c213 hF=>?_) fun c213 hF=>?_
  ·refine wp_skip ?_
   cases hF
   exact ⟨rfl,⟨ok,E.keep [9,12,13,14,0,1,2],r190,r191,l192,l193,l194⟩⟩
  refine qab<|fk E ok qih qal rfl 0 rfl rfl fun a E=>fv E qjv rfl fun a E=>qai E ok 0 rfl rfl rfl qgB rfl rfl ⟨rfl,trivial⟩ rfl rfl fun w ok=>wpList_nil ?_
  cases hF
  exact ⟨rfl,⟨ok,E.keep [9,12,13,14,0,1,2],r190,r191,l192,l192,l194⟩⟩
 intro e a w hO
 obtain ⟨rfl,ok,E,r214,r215,l216,l217,l218⟩:=hO
 refine qaa<|wp_seq ?_
 cases hF
 obtain ⟨okW,y,hyv,hrs2,hy⟩:=hyd (X:=[]) le_m0 (ok.pk 4 [2,3] rfl (by decide)) rfl
 refine (wpIn_wide (n:=2)).1 (wpIn_region_lit ?_)
 refine qnh (by intro c h; cases h) fun K hK=>mv E rfl fun a E=>wn_ hK<|qnh (by intro c h; cases h) fun K hK=>lv E ok (qam (cs:=fcs o207) quH rfl rfl (qac.own 0 rfl rfl)) fun a E=>wn_ hK<|qt1 E rfl rfl hy rfl rfl ?_
 rintro e w3 (⟨rfl,hJ3,hK3⟩ | ⟨rfl,hJ3⟩)
 ·refine ⟨_,rfl,fun a E=>?_⟩
  have ok3:=hK3 okW
  refine qnh (by intro c h; cases h) fun K hK=>lv E ok3 (qbj rfl) fun a E=>wn_ hK<|wpListIn_nil (qaa ?_)
  refine c_if E rfl (fun h=>by cases h) (fun _=>?_)
  refine wp_skip<|qaf ?_
  rw [hQ']
  exact .inl ⟨rfl,acc ++ [y],E.keep [12,13,14,0,1,2],ok3,hJ3,hrs2⟩
 ·refine ⟨_,rfl,fun a E=>?_⟩
  refine qnh (by intro c h; cases h) fun K hK=>lw E (qbj rfl) fun a E=>wn_ hK<|wpListIn_nil (qaa ?_)
  refine c_if E rfl (fun _=>?_) (fun h=>by cases h)
  refine wp_ret<|qag ?_
  rw [hQ']
  exact .inr ⟨rfl,E.d,acc ++ [y],⟨rest',hrs2⟩,hJ3⟩
theorem qlU {σ ρ:Type} (f:σ → Found2 → Option (σ ⊕ ρ)):∀ (xs:List Found2) (x:Found2) (s s':σ),runF f xs s = some (.inl s') → runF f (xs ++ [x]) s = (f s' x).bind fun o=>Sum.elim (fun s'=>some (.inl s')) (fun r=>some (.inr r)) o
 | [],x,s,s',h=>by
  obtain rfl:=Sum.inl.inj (Option.some.inj h)
  rfl
 | y :: xs,x,s,s',h=>by
  rw [List.cons_append,runF]
  rw [runF] at h
  cases hf:f s y with
  | none=>rw [hf] at h; cases h
  | some o =>
   rw [hf] at h
   cases o with
   | inl s1=>exact qlU f xs x s1 s' h
   | inr r=>cases h
theorem qpQ {σ ρ:Type} (f:σ → Found2 → Option (σ ⊕ ρ)):∀ (xs ys:List Found2) (s:σ) (r:ρ),runF f xs s = some (.inr r) → runF f (xs ++ ys) s = some (.inr r)
 | [],ys,s,r,h=>by cases h
 | y :: xs,ys,s,r,h=>by
  rw [List.cons_append,runF]
  rw [runF] at h
  cases hf:f s y with
  | none=>rw [hf] at h; cases h
  | some o =>
   rw [hf] at h
   cases o with
   | inl s1=>exact qpQ f xs ys s1 r h
   | inr r1=>exact h
theorem qm7 {ds:List Deferred} {u:World} {m:Mem} {S0:Segs} {w:World} {a:Act} {L:List (Nat × Value)} {nt N nc B bl bc:Nat} {vl vc:Value} {l:List Token} {calls:List Call} {rs:List Found2} {σ ρ:Type} {Q:Exit → Act → World → Prop}
  {g:Operand} {p t id:Nat} {body:Code} {ty1 ty2:TypeId} {pos1 pos2:String} {af1 af2:Array Edge} (E:Env nt a L) (hX:ev L g = some (.func (.func 53) #[] #[.pointer (some ⟨bl,0,none⟩),.pointer (some ⟨bc,0,none⟩)])) (hp:Nat.blt p nt = true) (ht:Nat.blt t nt = true) (hlt:∀ v v':Value,ev ((t,v) :: (p,v') :: L) (.tmp t) = some v) (hlp:∀ v v':Value,ev ((t,v) :: (p,v') :: L) (.tmp p) = some v')
  (ok:Ok u m ([(bc,oc 34 [vc])] :: [(bl,oc 26 [vl])] :: S0) w) (hl:(pL 3 qaE) m [vl] l) (hc:(pL 3 qdd) m [vc] calls) (hF:qdU N l calls = some rs) (hB:∀ x ∈ rs,FOk nc B x) (hG:Glob u)
  (Rep:Nat → σ → Segs → Prop) (RepX:ρ → Segs → Prop) (f:σ → Found2 → Option (σ ⊕ ρ)) (s0:σ) (h0:Rep 0 s0 S0)
  (hcl:∀ j s T,Rep j s T → ∀ q ∈ T.flatten,q.1 < w.heap.size ∨ q.2.isCells = true) (hclx:∀ r T,RepX r T → ∀ q ∈ T.flatten,q.1 < w.heap.size ∨ q.2.isCells = true)
  (hround:∀ (k j:Nat) (s:σ) (T:Segs) (x:Found2) (bx:Nat) (m':Mem) (a':Act) (W:World) (Q':Exit → Act → World → Prop),Rep j s T → j < rs.length → FOk nc B x → m.le m' →
   Ok u m' ([(bx,Obj.cells (fcs x).toArray 105 (0,0))] :: [(bc,oc 34 [vc])] :: [(bl,oc 26 [vl])] :: T) W → Env nt a' ((t,.pointer (some ⟨bx,0,none⟩)) :: (p,.agg (fcs x).toArray) :: L) →
   (∀ s' T' m'' a'' W',f s x = some (.inl s') → Rep (j + 1) s' T' → m'.le m'' → Ok u m'' ([(bc,oc 34 [vc])] :: [(bl,oc 26 [vl])] :: T') W' → Q' .normal a'' W') →
   (∀ r T' m'' a'' W',f s x = some (.inr r) → RepX r T' → m'.le m'' → Ok u m'' ([(bc,oc 34 [vc])] :: [(bl,oc 26 [vl])] :: T') W' → Q' .ret a'' W') →
   body.wpIn (rf_ k) 1 Tryz.prog Q' a' W)
  (hdone:∀ D s T W,Rep rs.length s T → runF f rs s0 = some (.inl s) → Ok u m ([(bc,oc 34 [vc])] :: [(bl,oc 26 [vl])] :: T) W → w.heap.size ≤ D → W.heap[D]? = some (.deferred (some [])) → Q .normal { a with defers:={ target:=.collected D,args:=#[] } :: ds } W)
  (hstop:∀ D r T W,RepX r T → runF f rs s0 = some (.inr r) → Ok u m ([(bc,oc 34 [vc])] :: [(bl,oc 26 [vl])] :: T) W → w.heap.size ≤ D → W.heap[D]? = some (.deferred (some [])) → Q .ret { a with defers:={ target:=.collected D,args:=#[] } :: ds } W) :
  (Code.rangeFunc g #[p] (Code.region id [⟨some t,.alloc 105,ty1,pos1,af1,none⟩,⟨none,.store 105 (.tmp t) (.tmp p),ty2,pos2,af2,none⟩].toArray false) body).wpIn Fence.wide 3 Tryz.prog Q { a with defers:=ds } w:=by
 have hmlt:∀ b o,m b = some o → b < w.heap.size:=fun b o h=>ok.m_lt h
 have T0lt:∀ q ∈ ([(bc,oc 34 [vc])] ++ [(bl,oc 26 [vl])]:List (Nat × Obj)),q.2.isCells = true:=fun q hq=>by
  rcases List.mem_append.1 hq with hq | hq <;> obtain rfl:=List.mem_singleton.1 hq <;> rfl
 have own:∀ {T:Segs} {X:List (Nat × Obj)},(∀ q ∈ X,q.2.isCells = true) → (∀ q ∈ T.flatten,q.1 < w.heap.size ∨ q.2.isCells = true) → ∀ q ∈ (X :: [(bc,oc 34 [vc])] :: [(bl,oc 26 [vl])] :: T).flatten,q.1 < w.heap.size ∨ q.2.isCells = true:=fun hX hT q hq=>by
  simp only [List.flatten_cons,List.mem_append] at hq
  rcases hq with hq | hq | hq | hq
  ·exact .inr (hX q hq)
  ·exact .inr (T0lt q (List.mem_append_left _ hq))
  ·exact .inr (T0lt q (List.mem_append_right _ hq))
  ·exact hT q hq
 have own0:∀ {T:Segs},(∀ q ∈ T.flatten,q.1 < w.heap.size ∨ q.2.isCells = true) → ∀ q ∈ ([(bc,oc 34 [vc])] :: [(bl,oc 26 [vl])] :: T).flatten,q.1 < w.heap.size ∨ q.2.isCells = true:=fun hT q hq=>by
  have:=own (X:=[]) (by simp) hT
  exact this q (by simpa using hq)
 have okT:Ok u m [[(bc,oc 34 [vc])],[(bl,oc 26 [vl])]] w:=Ok.init (A:=[[(bc,oc 34 [vc])],[(bl,oc 26 [vl])]]) ok
 refine qsC (α:=Fo nc B) (N:=rs.length) (encs:=fun x=>#[Value.agg (fcs x.1).toArray]) (Kp:=KpO u m [[(bc,oc 34 [vc])],[(bl,oc 26 [vl])]]) ((show ({ a with defers:=ds }:Act).eval g = a.eval g from by cases g <;> rfl).trans (E.ev hX)) (fun args w=>rfl) (qrX hl hc hF hB hG okT)
  (fun h k o=>k (h o)) (fun W l o o' hl h1 h2 h3 hok=>?_) (fun _=>rfl)
  (fun pre W=>∃ s T,Rep pre.length s T ∧ runF f (pre.map (·.1)) s0 = some (.inl s) ∧ Ok u m ([(bc,oc 34 [vc])] :: [(bl,oc 26 [vl])] :: T) W)
  (fun c pre W=>c = .ret ∧ ∃ r T,RepX r T ∧ runF f (pre.map (·.1)) s0 = some (.inr r) ∧ Ok u m ([(bc,oc 34 [vc])] :: [(bl,oc 26 [vl])] :: T) W)
  ?_ ?_ ⟨s0,S0,h0,rfl,ok⟩
  (fun pre x a' W=>∃ s T bx,Rep pre.length s T ∧ runF f (pre.map (·.1)) s0 = some (.inl s) ∧ Ok u m ([(bx,Obj.cells (fcs x.1).toArray 105 (0,0))] :: [(bc,oc 34 [vc])] :: [(bl,oc 26 [vl])] :: T) W ∧ Env nt a' ((t,.pointer (some ⟨bx,0,none⟩)) :: (p,.agg (fcs x.1).toArray) :: L))
  ?_ ?_ ?_ ?_ ?_
 ·refine hok.grownC (B:=w.heap.size) (grownBy_putObj' W l o') (fun r e=>by cases e; exact ⟨hl,o,h1,h2⟩) hmlt (fun q hq=>.inr (T0lt q (by simpa using hq)))
 ·rintro pre X Y row ⟨s,T,h1,h2,h3⟩ hg hr
  exact ⟨s,T,h1,h2,h3.grownC (B:=w.heap.size) hg hr hmlt (own0 (hcl _ _ _ h1))⟩
 ·rintro c pre X Y row ⟨rfl,r,T,h1,h2,h3⟩ hg hr
  exact ⟨rfl,r,T,h1,h2,h3.grownC (B:=w.heap.size) hg hr hmlt (own0 (hclx _ _ h1))⟩
 ·rintro pre x a' W l o o' ⟨s,T,bx,h1,h2,h3,h4⟩ hl hlo
  exact ⟨s,T,bx,h1,h2,h3.grownC (B:=w.heap.size) (grownBy_putObj' W l (.loop o')) (fun r e=>by cases e; exact ⟨hl,_,hlo,rfl⟩) hmlt (own (fun q hq=>by obtain rfl:=List.mem_singleton.1 hq; rfl) (hcl _ _ _ h1)),h4⟩
 ·-- the loop's variable
  rintro k pre x W K ⟨s,T,h1,h2,h3⟩ hlen hK
  have E1:=E.put p (Value.agg (fcs x.1).toArray) hp
  replace E1:=qra E1 (t:=((#[p]:Array Nat).zip #[Value.agg (fcs x.1).toArray]).foldl (fun t (p:Nat × Value)=>t.setIfInBounds p.1 p.2) a.tmps) (by simp [Act.put])
  have okF:=h3.full
  refine qeq rfl<|qaM E1 okF qjf rfl ht fun bx a1 W1 E1 ok1=>qai (v:=.agg (fcs x.1).toArray) E1 ok1 0 rfl (hlt _ _) (hlp _ _) qn1 rfl rfl ⟨rfl,rfl,rfl,rfl,rfl,trivial⟩ rfl rfl fun W2 ok2=>wpList_nil ⟨rfl,qaa ?_⟩
  have ok3:Ok u m ([(bx,Obj.cells (fcs x.1).toArray 105 (0,0))] :: [(bc,oc 34 [vc])] :: [(bl,oc 26 [vl])] :: T) W2:=ok2.down ok.base h3.hmx_le
  refine hK _ _ (h3.keepsS _ (own0 (hcl _ _ _ h1)) (Mem.le.refl _) ok2) (fun _=>Ok.init (A:=[[(bc,oc 34 [vc])],[(bl,oc 26 [vl])]]) ok3.drop) ⟨s,T,bx,h1,h2,ok3,E1⟩
 ·-- the body
  rintro k pre x a' W hk ⟨s,T,bx,h1,h2,h3,E1⟩ hlen
  have hx:=x.2
  have okF:=h3.full
  refine hround k pre.length s T x.1 bx _ a' W _ h1 hlen hx h3.hmx_le okF E1 (fun s' T' m'' a'' W' hf hr hle ok'=>?_) (fun r T' m'' a'' W' hf hr hle ok'=>?_)
  ·have okm:Ok u m _ W':=ok'.down ok.base (h3.hmx_le.trans hle)
   refine ⟨h3.keepsS _ (own (fun q hq=>by obtain rfl:=List.mem_singleton.1 hq; rfl) (hcl _ _ _ h1)) hle ok',fun _=>Ok.init (A:=[[(bc,oc 34 [vc])],[(bl,oc 26 [vl])]]) okm,s',T',by simpa using hr,?_,okm⟩
   rw [List.map_append,List.map_cons,List.map_nil,qlU f _ _ _ _ h2,hf]
   rfl
  ·have okm:Ok u m _ W':=ok'.down ok.base (h3.hmx_le.trans hle)
   refine ⟨h3.keepsS _ (own (fun q hq=>by obtain rfl:=List.mem_singleton.1 hq; rfl) (hcl _ _ _ h1)) hle ok',rfl,r,T',hr,?_,okm⟩
   rw [List.map_append,List.map_cons,List.map_nil,qlU f _ _ _ _ h2,hf]
   rfl
 ·rintro D xs W hD hxs ⟨s,T,h1,h2,h3⟩ hdef
  rw [hxs] at h2
  refine hdone D s T W ?_ h2 h3 hD hdef
  rw [← hxs,List.length_map]
  exact h1
 ·rintro D c pre W hD ⟨zs,hzs⟩ ⟨rfl,r,T,h1,h2,h3⟩ hdef
  refine wpIn_ret (hstop D r T W h1 ?_ h3 hD hdef)
  rw [← hzs]
  exact qpQ f _ _ _ _ h2
theorem qsl {u:World} {m:Mem} {S0:Segs} {w:World} {a:Act} {L:List (Nat × Value)} {nt N nc B bl bc:Nat} {vl vc:Value} {l:List Token} {calls:List Call} {rs:List Found2} {σ ρ:Type} {Q:Exit → Act → World → Prop}
  {g:Operand} {p t id:Nat} {body:Code} {ty1 ty2:TypeId} {pos1 pos2:String} {af1 af2:Array Edge} (E:Env nt a L) (hX:ev L g = some (.func (.func 53) #[] #[.pointer (some ⟨bl,0,none⟩),.pointer (some ⟨bc,0,none⟩)])) (hp:Nat.blt p nt = true) (ht:Nat.blt t nt = true) (hlt:∀ v v':Value,ev ((t,v) :: (p,v') :: L) (.tmp t) = some v) (hlp:∀ v v':Value,ev ((t,v) :: (p,v') :: L) (.tmp p) = some v')
  (ok:Ok u m ([(bc,oc 34 [vc])] :: [(bl,oc 26 [vl])] :: S0) w) (hl:(pL 3 qaE) m [vl] l) (hc:(pL 3 qdd) m [vc] calls) (hF:qdU N l calls = some rs) (hB:∀ x ∈ rs,FOk nc B x) (hG:Glob u)
  (Rep:Nat → σ → Segs → Prop) (RepX:ρ → Segs → Prop) (f:σ → Found2 → Option (σ ⊕ ρ)) (s0:σ) (h0:Rep 0 s0 S0)
  (hcl:∀ j s T,Rep j s T → ∀ q ∈ T.flatten,q.1 < w.heap.size ∨ q.2.isCells = true) (hclx:∀ r T,RepX r T → ∀ q ∈ T.flatten,q.1 < w.heap.size ∨ q.2.isCells = true)
  (hround:∀ (k j:Nat) (s:σ) (T:Segs) (x:Found2) (bx:Nat) (m':Mem) (a':Act) (W:World) (Q':Exit → Act → World → Prop),Rep j s T → j < rs.length → FOk nc B x → m.le m' →
   Ok u m' ([(bx,Obj.cells (fcs x).toArray 105 (0,0))] :: [(bc,oc 34 [vc])] :: [(bl,oc 26 [vl])] :: T) W → Env nt a' ((t,.pointer (some ⟨bx,0,none⟩)) :: (p,.agg (fcs x).toArray) :: L) →
   (∀ s' T' m'' a'' W',f s x = some (.inl s') → Rep (j + 1) s' T' → m'.le m'' → Ok u m'' ([(bc,oc 34 [vc])] :: [(bl,oc 26 [vl])] :: T') W' → Q' .normal a'' W') →
   (∀ r T' m'' a'' W',f s x = some (.inr r) → RepX r T' → m'.le m'' → Ok u m'' ([(bc,oc 34 [vc])] :: [(bl,oc 26 [vl])] :: T') W' → Q' .ret a'' W') →
   body.wpIn (rf_ k) 1 Tryz.prog Q' a' W)
  (hdone:∀ D s T W,Rep rs.length s T → runF f rs s0 = some (.inl s) → Ok u m ([(bc,oc 34 [vc])] :: [(bl,oc 26 [vl])] :: T) W → w.heap.size ≤ D → W.heap[D]? = some (.deferred (some [])) → Q .normal { a with defers:={ target:=.collected D,args:=#[] } :: a.defers } W)
  (hstop:∀ D r T W,RepX r T → runF f rs s0 = some (.inr r) → Ok u m ([(bc,oc 34 [vc])] :: [(bl,oc 26 [vl])] :: T) W → w.heap.size ≤ D → W.heap[D]? = some (.deferred (some [])) → Q .ret { a with defers:={ target:=.collected D,args:=#[] } :: a.defers } W) :
  (Code.rangeFunc g #[p] (Code.region id [⟨some t,.alloc 105,ty1,pos1,af1,none⟩,⟨none,.store 105 (.tmp t) (.tmp p),ty2,pos2,af2,none⟩].toArray false) body).wpIn Fence.wide 3 Tryz.prog Q a w :=
 qm7 (ds:=a.defers) E hX hp ht hlt hlp ok hl hc hF hB hG Rep RepX f s0 h0 hcl hclx hround hdone hstop
end Go.Proofs.YtllfckekodcdaaaGreatDoor
namespace Go.Proofs.YtllfckekodcdaaaGreatDoor
open Go.X
variable {u:World} {m0:Mem} {S:Segs} {w:World}
set_option maxHeartbeats 4000000
set_option maxRecDepth 100000
theorem qhU:aggB Tryz.prog 46 2 = true:=by kernel_rfl
theorem qtn:qaw Tryz.prog 105 0 0 = true:=by kernel_rfl
theorem qo2:qaw Tryz.prog 105 1 1 = true:=by kernel_rfl
theorem qmG:qaw Tryz.prog 105 4 4 = true:=by kernel_rfl
theorem qcL:qaw Tryz.prog 58 1 1 = true:=by kernel_rfl
theorem qn4:qaw Tryz.prog 75 1 1 = true:=by kernel_rfl
theorem qtF:goB Tryz.prog 12 = true:=by kernel_rfl
theorem qtA:goB Tryz.prog 35 = true:=by kernel_rfl
theorem qvT:goB Tryz.prog 43 = true:=by kernel_rfl
theorem qwm:goB Tryz.prog 44 = true:=by kernel_rfl
theorem qwl:goB Tryz.prog 45 = true:=by kernel_rfl
theorem qvX:goB Tryz.prog 46 = true:=by kernel_rfl
theorem quJ:∃ i,Tryz.prog.info? 130 = some i ∧ i.size = 1:=⟨_,rfl,by kernel_rfl⟩
theorem qhP:∃ i,Tryz.prog.info? 44 = some i ∧ i.size = 1:=⟨_,rfl,by kernel_rfl⟩
theorem qgW:∃ i,Tryz.prog.info? 46 = some i ∧ i.size = 2:=⟨_,rfl,by kernel_rfl⟩
theorem qiE:∃ i,Tryz.prog.info? 47 = some i ∧ i.size = 1:=⟨_,rfl,by kernel_rfl⟩
theorem qvx:∃ i,Tryz.prog.info? 50 = some i ∧ i.size = 1:=⟨_,rfl,by kernel_rfl⟩
theorem qvm:∃ i,Tryz.prog.info? 69 = some i ∧ i.size = 1:=⟨_,rfl,by kernel_rfl⟩
theorem qfW:oneB Tryz.prog 44 = true:=by kernel_rfl
theorem qiD:oneB Tryz.prog 47 = true:=by kernel_rfl
theorem qsu:oneB Tryz.prog 69 = true:=by kernel_rfl
theorem qf5:qcN Tryz.prog 46 = some [(0,1),(1,1)]:=by kernel_rfl
theorem qok:qcN Tryz.prog 58 = some [(0,1),(1,1)]:=by kernel_rfl
theorem qsT:qbf Tryz.prog 130 = some [(Value.map none)]:=by kernel_rfl
theorem qqw:qbf Tryz.prog 44 = some [(Value.slice none 0 0)]:=by kernel_rfl
theorem qfk:qbf Tryz.prog 46 = some [vi 0,vi 0]:=by kernel_rfl
theorem quN:qbf Tryz.prog 47 = some [vi 0]:=by kernel_rfl
theorem ql4:qbf Tryz.prog 58 = some [(vs ([])),(vs ([]))]:=by kernel_rfl
theorem quB:qbf Tryz.prog 69 = some [(Value.slice none 0 0)]:=by kernel_rfl
theorem qo4:qbf Tryz.prog 9 = some [(vs ([]))]:=by kernel_rfl
theorem qvb {nc B:Nat} {x:Found2} (h:fokb nc B x = true):FOk nc B x:=by
 unfold fokb at h
 have h1:=of_decide_eq_true h
 exact h1
theorem qoh {N nc B:Nat} {l:List Token} {calls:List Call} {rs:List Found2} (h:qeR N nc B l calls = some rs):qdU N l calls = some rs ∧ ∀ x ∈ rs,FOk nc B x:=by
 unfold qeR at h
 obtain ⟨r,h1,h⟩:=bnd h
 cases hb:r.all (fokb nc B) with
 | false=>rw [hb] at h; cases h
 | true =>
  rw [hb] at h
  obtain rfl:=Option.some.inj h
  rw [List.all_eq_true] at hb
  exact ⟨h1,fun x hx=>qvb (hb x hx)⟩
theorem qtx:goB Tryz.prog 36 = true:=by kernel_rfl
def qgC (u:World) (m0:Mem) (S:Segs) (r:(List (Int)) × Int) (a:Act) (w:World):Prop :=
 ∃ m1 v0,m0.le m1 ∧ Ok u m1 S w ∧ a.defers = [] ∧ RVs Tryz.prog a w [.t 6 v0,.t 7 (.int .i64 r.2)] ∧ (pL 1 (pI .i64)) m1 [v0] r.1 ∧ InR .i64 r.2
theorem qny (N:Nat) (vscript_0:Value) (script_0:List (State)) (hscript_0:(pL 2 qbA) m0 [vscript_0] script_0) (vcalls_1:Value) (calls_1:List (Call)) (hcalls_1:(pL 3 qdd) m0 [vcalls_1] calls_1) (vfile_2:List Value) (file_2:File) (hfile_2:qef m0 vfile_2 file_2) {r:(List (Int)) × Int} (hF:qgn N script_0 calls_1 file_2 = some r) (hG:Glob u) (ok:Ok u m0 S w) :
  Calls Tryz.prog 22 [vscript_0,vcalls_1,.agg vfile_2.toArray].toArray w fun e w'=>∃ m1 v0,e = .returned (.tuple [v0,(.int .i64 r.2)].toArray) ∧ m0.le m1 ∧ Ok u m1 S w' ∧ (pL 1 (pI .i64)) m1 [v0] r.1 ∧ InR .i64 r.2:=by
 obtain ⟨rfl,l1,l2⟩:=hfile_2
 have le_m0:=Mem.le.refl m0
 unfold qgn at hF
 have fin:∀ a w,qgC u m0 S r a w → bodyPostM Fence.wide 3 Tryz.prog Tryz.f22 (fun e w'=>∃ m1 v0,e = .returned (.tuple [v0,(.int .i64 r.2)].toArray) ∧ m0.le m1 ∧ Ok u m1 S w' ∧ (pL 1 (pI .i64)) m1 [v0] r.1 ∧ InR .i64 r.2) .ret a w:=by
  intro a w h
  obtain ⟨m1,v0,hle,ok,hd,hrv,h0,h1⟩:=h
  exact qsg (qbs [.t 6 v0,.t 7 (.int .i64 r.2)] hd rfl hrv ⟨m1,v0,rfl,hle,ok,h0,h1⟩)
 refine qsz Tryz.func22 rfl rfl rfl fun a E=>sg<|qcC E ok rfl rfl rfl fun b3 a w E ok=>av E rfl fun a E=>aw E rfl fun a E=>wp_seq<|sg<|mv E rfl fun a E=>bd hF fun r4 e5 hF=>lc E qrk rfl (qjo N _ script_0 hscript_0 e5 hG ok) fun w ok a E=>lw E (qbj rfl) fun a E=>mv E rfl fun a E=>bu E 16 hF (fun c6 hF E=>?_) fun c6 hF E=>?_
 ·refine lsq E fun a E=>ls E fun a E=>pt E rfl rfl fun a E=>wn<|c_if E rfl (fun _=>?_) (fun h=>by cases h)
  refine sg<|av E rfl fun a E=>aw E rfl fun a E=>wp_ret<|qae ?_
  have hret:qgC u m0 S ([],1) a w:=⟨m0,(.slice none 0 0),le_m0,ok.drop,E.d,⟨rv_t E rfl,rv_t E rfl,trivial⟩,qa9,(ir 1)⟩
  cases hF
  exact fin _ _ hret
 refine mv E rfl fun a E=>bd hF fun r7 e8 hF=>lc E qtF rfl (qjI N _ calls_1 hcalls_1 e8 hG ok) fun w ok a E=>lw E (qbj rfl) fun a E=>pf E rfl rfl fun a E=>wn<|cf E rfl hF (fun c9 hF=>?_) fun c9 hF=>?_
 ·refine sg<|av E rfl fun a E=>aw E rfl fun a E=>wp_ret<|qae ?_
  have hret:qgC u m0 S ([],1) a w:=⟨m0,(.slice none 0 0),le_m0,ok.drop,E.d,⟨rv_t E rfl,rv_t E rfl,trivial⟩,qa9,(ir 1)⟩
  cases hF
  exact fin _ _ hret
 refine wp_skip<|qaa<|sg<|mv E rfl fun a E=>fk E ok qn4 qal rfl 0 rfl rfl fun a E=>bd hF fun r10 e11 hF=>qas E qtA rfl (qkZ N _ script_0 hscript_0 file_2.Text l2 e11 hG ok) rfl rfl ?_
 rintro _ w ⟨m12,c13,rfl,hle,ok,h14,r15,r16⟩
 have le_m0:=le_m0.trans hle
 have hscript_0:=(mL qaD).up hle hscript_0
 have hcalls_1:=(mL qby).up hle hcalls_1
 refine ⟨_,rfl,fun a E=>?_⟩
 refine mv E rfl fun a E=>lw E (qao rfl rfl) fun a E=>lw E (qao rfl rfl) fun a E=>lw E (qao rfl rfl) fun a E=>av E rfl fun a E=>av E rfl fun a E=>av E rfl fun a E=>wn<|wp_seq<|sg<|mv E rfl fun a E=>lw E (qcn rfl rfl) fun a E=>wn<|cf E rfl hF (fun c17 hF=>?_) fun c17 hF=>?_
 ·refine sg<|mv E rfl fun a E=>av E rfl fun a E=>aw E rfl fun a E=>wp_ret<|qae ?_
  have hret:qgC u m0 S ([],r10.2.2) a w:=⟨m12,(.slice none 0 0),le_m0,ok.drop,E.d,⟨rv_t E rfl,rv_t E rfl,trivial⟩,qa9,r16⟩
  cases hF
  exact fin _ _ hret
 refine wp_skip<|qaa<|sg<|mv E rfl fun a E=>lv E ok (qau qgg hcalls_1 rfl) fun a E=>bd hF fun l18 e19 hF=>qo7 (R:=(pI .i64)) E ok qg8 qni rfl (qfI (ir 0)) rfl e19 rfl rfl fun c20 M21 a w E ok h22=>qaM E ok quB rfl rfl fun b23 a w E ok=>qai E ok 0 rfl rfl rfl qvm (ORow.cells h22) rfl ⟨(ORow.one h22),trivial⟩ rfl rfl fun w ok=>wn<|wp_seq<|sg<|mz E rfl rfl fun a E=>?_
 obtain ⟨r24,e25,hF⟩:=bnd hF
 obtain ⟨hfo,hfb⟩:=qoh e25
 refine qas E qtx rfl (qhF (qec h14) (qec hcalls_1) ok) rfl rfl ?_
 rintro _ w ⟨bl,bc,rfl,ok⟩
 refine ⟨_,rfl,fun a E=>?_⟩
 refine wn<|wp_block ?_
 obtain ⟨o34,hL,hF⟩:=bnd hF
 have ok:Ok u m12 ([(bc,oc 34 [vcalls_1])] :: [(bl,oc 26 [_])] :: [(b23,oc 69 [c20])] :: M21 :: [(b3,oc 75 [vs file_2.Name,vs file_2.Text])] :: S) w:=ok
 have hSlt:∀ q ∈ S.flatten,q.1 < w.heap.size:=fun q hq=>(Array.getElem?_eq_some_iff.1 (ok.own q (by simp only [List.flatten_cons,List.mem_append]; exact .inr (.inr (.inr (.inr (.inr hq)))))).1).1
 have hmlt:∀ b o,m12 b = some o → b < w.heap.size:=fun b o h=>ok.m_lt h
 have E0:=E
 refine (wpIn_wide (n:=3)).1 (qsl (m:=m12) (vc:=vcalls_1) E rfl rfl rfl (fun _ _=>rfl) (fun _ _=>rfl) ok h14 hcalls_1 hfo hfb hG
  (fun _ s T=>∃ c M,T = [(b23,oc 69 [c])] :: M :: [(b3,oc 75 [vs file_2.Name,vs file_2.Text])] :: S ∧ ORow 3 1 (pI .i64) m12 c s M ∧ s.length = calls_1.length)
  (fun _ _=>False) qeP l18 ⟨c20,M21,rfl,h22,qvp e19 rfl⟩ ?_ (fun _ _ h=>h.elim) ?_ ?_ (fun _ _ _ _ h=>h.elim))
 ·rintro j s T ⟨c,M,rfl,hr,hsl⟩ q hq
  simp only [List.flatten_cons,List.mem_append] at hq
  rcases hq with hq | hq | hq | hq
  ·obtain rfl:=List.mem_singleton.1 hq; exact .inr rfl
  ·exact .inr (hr.isCells q hq)
  ·obtain rfl:=List.mem_singleton.1 hq; exact .inr rfl
  ·exact .inl (hSlt q hq)
 ·rintro k j s T x bx m' a' W Q' ⟨c,M,rfl,hr,hsl⟩ hj hx hle ok E hn hx2
  obtain ⟨hx0,hx1,_⟩:=hx
  have hin:x.call.toNat < s.length:=by omega
  obtain ⟨v,hv⟩:∃ v,idx s x.call = some v:=⟨s[x.call.toNat],by unfold idx; rw [if_pos hx0]; exact List.getElem?_eq_getElem hin⟩
  obtain ⟨l2,hl2⟩:∃ l2,setI s x.call (IntKind.wrap .i64 (v + 1)) = some l2:=⟨_,qmN hv⟩
  have hf:qeP s x = some (.inl l2):=by unfold qeP; rw [hv,oBs,hl2]; rfl
  have hr:=hr.up (mI .i64) hle
  refine wpIn_block<|qeq rfl<|ld E ok qsu 3 rfl rfl rfl fun a E=>fk E ok qtn qaJ rfl 0 rfl rfl fun a E=>?_
  obtain ⟨b63,o64,hp65,yy66⟩:=qb4 qg8 hr hv (P:=Tryz.prog) (X:=.tmp 39) (I:=.tmp 41) (kd:=.i64) (qaC E rfl) (qaC E rfl)
  refine lv E ok (yy66 _ _) fun a E=>?_
  obtain ⟨es67,hl68,rr69,hh70⟩:=qev hr hv hp65 (by decide)
  obtain ⟨rfl,r71⟩:=rr69
  refine lv E ok (qah qaJ rfl (hh70 _ _ _ 4 rfl)) fun a E=>lw E (qav rfl rfl) fun a E=>?_
  obtain ⟨b74,o75,hp76,yy77⟩:=qb4 qg8 hr hv (P:=Tryz.prog) (X:=.tmp 39) (I:=.tmp 41) (kd:=.i64) (qaC E rfl) (qaC E rfl)
  refine lv E ok (yy77 _ _) fun a E=>qkW (R:=(pI .i64)) E ok 4 rfl hr hv hp76 rfl rfl qes rfl rfl rfl ⟨rfl,trivial⟩ (qfI (InR.wrap _ _)) hl2 rfl fun M80 w ok h81=>wpList_nil ⟨rfl,qaf ?_⟩
  exact hn _ _ m' _ _ hf ⟨c,M80,rfl,h81.chg (fun _ _ h=>h),(qmA hl2 hsl)⟩ (Mem.le.refl _) ok.drop
 ·rintro D s T W ⟨c,M,rfl,hr,hsl⟩ hrun okW hD hDef
  rw [hL] at hrun
  obtain rfl:=Option.some.inj hrun
  have hda:=E0.d
  refine qaf<|qaa<|sg<|qq3 E0 okW (qah qsu rfl (qac.own 2 rfl rfl)) rfl rfl fun a' E=>qq3 E okW (qaq rfl) rfl rfl fun a' E=>qq3 E okW (qaq rfl) rfl rfl fun a' E=>wn<|wp_ret ?_
  have ok3:Ok u m12 _ (W.putObj D (.deferred none)):=okW.grownC (B:=w.heap.size) (grownBy_putObj' W D _) (fun r e=>by cases e; exact ⟨hD,_,hDef,rfl⟩) hmlt (fun q hq=>by
   simp only [List.flatten_cons,List.mem_append] at hq
   rcases hq with hq | hq | hq | hq | hq | hq
   ·obtain rfl:=List.mem_singleton.1 hq; exact .inr rfl
   ·obtain rfl:=List.mem_singleton.1 hq; exact .inr rfl
   ·obtain rfl:=List.mem_singleton.1 hq; exact .inr rfl
   ·exact .inr (hr.isCells q hq)
   ·obtain rfl:=List.mem_singleton.1 hq; exact .inr rfl
   ·exact .inl (hSlt q hq))
  obtain ⟨m85,hle,ok,hfz⟩:=(ok3.frs 3 rfl).freeze
  have h86:=ORow.froz (mI .i64) hr hle hfz (by decide)
  have le_m0:=le_m0.trans hle
  cases hF
  have hbp:bodyPost Tryz.prog Tryz.f22 (fun e w'=>∃ m1 v0,e = .returned (.tuple [v0,(.int .i64 (0:Int))].toArray) ∧ m0.le m1 ∧ Ok u m1 S w' ∧ (pL 1 (pI .i64)) m1 [v0] s ∧ InR .i64 (0:Int)) .ret a' (W.putObj D (.deferred none)):=qbs [.t 6 c,.t 7 (.int .i64 (0:Int))] E.d rfl ⟨rv_t E rfl,rv_t E rfl,trivial⟩ ⟨m85,c,rfl,le_m0,ok.drop.drop.drop.drop,h86,(ir 0)⟩
  have hh:=qvJ (F:=Fence.wide) (n:=3) E.d hDef hbp
  rw [E.d] at hh
  rw [hda]
  exact hh
end Go.Proofs.YtllfckekodcdaaaGreatDoor
namespace Go.Proofs.YtllfckekodcdaaaGreatDoor
open Go.X
abbrev Mp:=List (List UInt8 × Int)
def E0 (id src:List UInt8):Entry:=Entry.mk id src [] [] [] 0 [Field.mk [114,101,102] []]
def refT (f:File) (x:Found2):List UInt8:=f.Name ++ [58] ++ Lib.itoa (1 + (Lib.count (f.Text.take x.offset.toNat) [10]:Int))
def cms (e:Entry) (c:List UInt8):List (List UInt8):=if c = [] ∨ e.Comments.contains c = true then e.Comments else e.Comments ++ [c]
def fld (l:List Field) (kn:Bool) (r:List UInt8):List Field:=match l with | g :: gs=>Field.mk g.Name (g.Value ++ (bif kn then [32] else []) ++ r) :: gs | []=>[]
def ent (e:Entry) (x:Found2) (kn:Bool) (r:List UInt8):Entry:=Entry.mk e.ID e.Source e.Target (cms e x.comment) e.Flags e.State (fld e.Fields kn r)
def rnd (i:Int) (f:File) (x:Found2) (ix:Mp) (out:List Entry):(Mp × List Entry) ⊕ (List Entry × Place × Int) :=
 bif (mget ix x.id).isSome then
  match out[((mget ix x.id).getD 0).toNat]? with
  | none=>.inr ([],Place.mk 0 0,0)
  | some e=>if e.Source = x.source then .inl (ix,out.set ((mget ix x.id).getD 0).toNat (ent e x true (refT f x))) else .inr ([],Place.mk i x.offset,14)
 else .inl (mput ix x.id (out.length:Int),out ++ [ent (E0 x.id x.source) x false (refT f x)])
structure Rb (N:Nat) (f:File) (x:Found2) (ix:Mp) (out:List Entry):Prop where
 nm:f.Name.length ≤ 1000000
 tx:f.Text.length ≤ 1000000
 of0:0 ≤ x.offset
 of1:x.offset ≤ (f.Text.length:Int)
 ol:out.length ≤ 10000000
 il:ix.length ≤ 10000000
 iv:∀ p ∈ ix,0 ≤ p.2 ∧ p.2 < (out.length:Int)
 fl:∀ e ∈ out,∃ g,e.Fields = [g] ∧ g.Value.length ≤ 100000000000000
 cl:∀ e ∈ out,e.Comments.length < N ∧ e.Comments.length ≤ 10000000
 n0:0 < N
theorem qsM {ix:Mp} {k:List UInt8} {v:Int} (h:mget ix k = some v):∃ p ∈ ix,p.2 = v:=by
 unfold mget at h
 cases hf:ix.find? (fun p=>k == p.1) with
 | none=>rw [hf] at h; cases h
 | some p =>
  rw [hf] at h
  exact ⟨p,List.mem_of_find?_eq_some hf,Option.some.inj h⟩
theorem qqb {N:Nat} (l:List (List UInt8)) (c:List UInt8) (hN:l.length < N):qbH N l c = some (l.contains c):=by
 unfold qbH qdc
 have key:∀ (j:Nat) (M:Nat),j ≤ l.length → l.length - j < M → (∀ i,i < j → l[i]? ≠ some c) → ((iter (fun s=>qbe N l c s) M (j:Int)).bind fun o=>Sum.elim (fun _=>some (-1:Int)) (fun o=>some o) o).bind (fun r=>some (decide (r ≥ 0))) = some ((l.drop j).contains c):=by
  intro j M
  induction M generalizing j with
  | zero=>intro _ h; omega
  | succ M ih =>
   intro hj hM hn
   rw [iter]
   by_cases h:j < l.length
   ·have hb:qbe N l c (j:Int) = if c = l[j] then some (.inr (.inr (j:Int))) else some (.inl ((j:Int) + 1)):=by
     unfold qbe
     rw [decide_eq_true (by omega),cond_true,idx,if_pos (by omega),Int.toNat_natCast,List.getElem?_eq_getElem h,oBs]
     by_cases hc:c = l[j]
     ·rw [if_pos hc,beq_iff_eq.2 hc,cond_true]
     ·rw [if_neg hc,beq_eq_false_iff_ne.2 hc,cond_false]
    rw [hb,List.drop_eq_getElem_cons h,List.contains_cons]
    by_cases hc:c = l[j]
    ·rw [if_pos hc]
     simp [← hc]
    ·rw [if_neg hc,beq_eq_false_iff_ne.2 hc,Bool.false_or]
     exact ih (j + 1) (by omega) (by omega) (fun i hi=>by
      by_cases hij:i < j
      ·exact hn i hij
      ·obtain rfl:i = j:=by omega
       rw [List.getElem?_eq_getElem h]
       intro e; exact hc (Option.some.inj e).symm)
   ·have hb:qbe N l c (j:Int) = some (.inr (.inl ())):=by
     unfold qbe
     rw [decide_eq_false (by omega),cond_false]
    rw [hb,List.drop_eq_nil_of_le (by omega)]
    rfl
 have:=key 0 N (by omega) (by omega) (fun i hi=>by omega)
 simpa using this
theorem qsx:∀ u:Nat,(Lib.decDigits u).length ≤ u + 1:=by
 intro u
 induction u using Nat.strongRecOn with
 | _ u ih =>
  rw [Lib.decDigits]
  by_cases h:u < 10
  ·rw [dif_pos h]; simp
  ·rw [dif_neg h,List.length_append]
   have:=ih (u / 10) (by omega)
   simp; omega
theorem qik {a b:List UInt8} (h:a.length + b.length ≤ 9000000000000000000):cat a b = some (a ++ b):=by unfold cat; rw [if_pos (by unfold LIMS; omega)]
theorem qps {α:Type} {a b:List α} (h:a.length + b.length ≤ 4000000000):app a b = some (a ++ b):=by unfold app; rw [if_pos (by unfold LIM; omega)]
theorem qnI {N:Nat} {f:File} {x:Found2} (h1:f.Name.length ≤ 1000000) (h2:f.Text.length ≤ 1000000) (h3:0 ≤ x.offset) (h4:x.offset ≤ (f.Text.length:Int)) {β:Type} (K:List UInt8 → Option β) :
  ((cat f.Name ([58])).bind fun s175=>(slc f.Text 0 x.offset).bind fun s177=>(qfn N s177 ([10])).bind fun r179=>(qfm N (IntKind.wrap .i64 ((1:Int) + r179))).bind fun r182=>(cat s175 r182).bind K) = K (refT f x) ∧ (refT f x).length ≤ 10000000:=by
 have hc:Lib.count (f.Text.take x.offset.toNat) [10] ≤ (f.Text.take x.offset.toNat).length + 1:=Lib.count_le _ _
 have ht:(f.Text.take x.offset.toNat).length ≤ 1000000:=by rw [List.length_take]; omega
 have hi:Lib.itoa (1 + (Lib.count (f.Text.take x.offset.toNat) [10]:Int)) = Lib.decDigits (1 + Lib.count (f.Text.take x.offset.toNat) [10]):=by
  unfold Lib.itoa
  rw [if_neg (by omega)]
  congr 1 <;> omega
 have hl:=qsx (1 + Lib.count (f.Text.take x.offset.toNat) [10])
 constructor
 ·rw [qik (by simp; omega),oBs,slc,if_pos ⟨by omega,h3,h4⟩,oBs]
  rw [show (f.Text.drop (0:Int).toNat).take (x.offset - 0).toNat = f.Text.take x.offset.toNat by simp]
  rw [qfn,if_pos ⟨by decide,by omega⟩,oBs,qee (qcq.2 ⟨by omega,by omega⟩),qfm,hi,if_pos (by unfold LIMS; omega),oBs,qik (by simp; omega),oBs]
  unfold refT
  rw [hi]
 ·unfold refT
  rw [hi]
  simp only [List.length_append,List.length_cons,List.length_nil]
  omega
end Go.Proofs.YtllfckekodcdaaaGreatDoor
namespace Go.Proofs.YtllfckekodcdaaaGreatDoor
open Go.X
theorem qkr {α:Type} {l:List α} {k:Nat} {x:α} (h:l[k]? = some x):idx l (k:Int) = some x:=by unfold idx; rw [if_pos (by omega),Int.toNat_natCast]; exact h
theorem fldK {β:Type} {g:Field} {r:List UInt8} (h:g.Value.length + r.length ≤ 1000000000000000) (K:List Field → Option β) :
  ((idx [g] 0).bind fun x405=>(cat x405.Value ([32])).bind fun s417=>(idx [g] 0).bind fun x419=>(setI [g] 0 (Field.mk x419.Name s417)).bind fun l427=>(idx l427 0).bind fun x433=>(cat x433.Value r).bind fun s445=>(idx l427 0).bind fun x447=>(setI l427 0 (Field.mk x447.Name s445)).bind K) = K (fld [g] true r):=by
 show (cat g.Value [32]).bind (fun s417=>(cat s417 r).bind fun s445=>K [Field.mk g.Name s445]) = _
 rw [qik (by simp; omega),oBs,qik (by simp; omega),oBs]
 rfl
theorem fldU {β:Type} {g:Field} {r:List UInt8} (h:g.Value.length + r.length ≤ 1000000000000000) (K:List Field → Option β) :
  ((idx [g] 0).bind fun x484=>(cat x484.Value r).bind fun s496=>(idx [g] 0).bind fun x498=>(setI [g] 0 (Field.mk x498.Name s496)).bind K) = K (fld [g] false r):=by
 show (cat g.Value r).bind (fun s496=>K [Field.mk g.Name s496]) = _
 rw [qik (by omega),oBs]
 unfold fld
 simp only [cond_false,List.append_nil]
theorem qvd {e:Entry} {c:List UInt8} (h:c = []):cms e c = e.Comments:=by unfold cms; rw [if_pos (.inl h)]
theorem qt6 {e:Entry} {c:List UInt8} (h:e.Comments.contains c = true):cms e c = e.Comments:=by unfold cms; rw [if_pos (.inr h)]
theorem quX {e:Entry} {c:List UInt8} (h0:c ≠ []) (h:e.Comments.contains c = false):cms e c = e.Comments ++ [c]:=by unfold cms; rw [if_neg (by rw [h]; simp [h0])]
theorem qqV {N:Nat} {x:Found2} {ρ:Type} {r:List UInt8} {out:List Entry} {k:Nat} {e:Entry} {g:Field} {M:Mp} (kn:Bool) (hk:out[k]? = some e) (hf:e.Fields = [g]) (hg:g.Value.length + r.length ≤ 1000000000000000) (hc:e.Comments.length < N) (hc2:e.Comments.length ≤ 10000000)
    (F:Entry → List Entry → Option ((Mp × List Entry) ⊕ ρ)) (hF:∀ e out,e.Fields = [g] → F e out = some (.inl (M,out.set k (Entry.mk e.ID e.Source e.Target e.Comments e.Flags e.State (fld [g] kn r))))) :
    (bif x.comment != [] then
      (qbH N e.Comments x.comment).bind fun r293 =>
        bif !r293 then
          ((app e.Comments [x.comment]).bind fun l329=>some (out.set (k:Int).toNat (Entry.mk e.ID e.Source e.Target l329 e.Flags e.State e.Fields),())).bind fun o298=>(idx o298.1 (k:Int)).bind fun x379=>F x379 o298.1
        else F e out
     else F e out) = some (.inl (M,out.set k (ent e x kn r))):=by
  have hlt:=(List.getElem?_eq_some_iff.1 hk).1
  by_cases h0:x.comment = []
  · rw [h0,bne_self_eq_false,cond_false,hF _ _ hf]
    unfold ent
    rw [qvd h0,hf]
  · rw [bne_iff_ne.2 h0,cond_true,qqb _ _ hc,oBs]
    cases hh:e.Comments.contains x.comment with
    | true =>
      rw [Bool.not_true,cond_false,hF _ _ hf]
      unfold ent
      rw [qt6 hh,hf]
    | false =>
      rw [Bool.not_false,cond_true,qps (by simp; omega),oBs,oBs,Int.toNat_natCast]
      simp only
      rw [qkr (List.getElem?_set_self hlt),oBs,hF _ _ (show (Entry.mk e.ID e.Source e.Target (e.Comments ++ [x.comment]) e.Flags e.State e.Fields).Fields = [g] from hf),List.set_set]
      unfold ent
      rw [quX h0 hh,hf]
theorem qpC {N:Nat} {i:Int} {f:File} {x:Found2} {ix:Mp} {out:List Entry} (b:Rb N f x ix out):qdT N i f x ix out = some (rnd i f x ix out):=by
 unfold qdT
 obtain ⟨hr,hrl⟩:=qnI (N:=N) b.nm b.tx b.of0 b.of1 (fun s:List UInt8=>(some s:Option (List UInt8)))
 refine ((qnI (N:=N) b.nm b.tx b.of0 b.of1 _).1).trans ?_
 unfold rnd
 generalize refT f x = r at hrl ⊢
 cases hm:mget ix x.id with
 | none =>
  simp only [Option.isSome_none,Bool.not_false,cond_true,cond_false]
  rw [mset,if_pos (by have:=b.il; unfold LIM; omega),oBs,qps (by have:=b.ol; simp; omega),oBs]
  simp only [oBs]
  rw [qkr (k:=out.length) (x:=E0 x.id x.source) (by rw [List.getElem?_append_right (Nat.le_refl _),Nat.sub_self]; rfl),oBs]
  have hs:∀ e:Entry,(out ++ [E0 x.id x.source]).set out.length e = out ++ [e]:=fun e=>by rw [List.set_append_right _ _ (Nat.le_refl _),Nat.sub_self]; rfl
  have hsrc:((E0 x.id x.source).Source != x.source) = false:=bne_self_eq_false _
  rw [hsrc,cond_false,← hs (ent (E0 x.id x.source) x false r)]
  exact qqV (N:=N) (x:=x) (r:=r) (M:=mput ix x.id (out.length:Int)) (k:=out.length) (e:=E0 x.id x.source) (g:=Field.mk [114,101,102] []) (out:=out ++ [E0 x.id x.source]) false (by rw [List.getElem?_append_right (Nat.le_refl _),Nat.sub_self]; rfl) rfl (by simp; omega) b.n0 (Nat.zero_le _)
   (fun e o=>(idx e.Fields 0).bind fun x484=>(cat x484.Value r).bind fun s496=>(idx e.Fields 0).bind fun x498=>(setI e.Fields 0 (Field.mk x498.Name s496)).bind fun l=>some (.inl (mput ix x.id (out.length:Int),o.set ((out.length:Nat):Int).toNat (Entry.mk e.ID e.Source e.Target e.Comments e.Flags e.State l))))
   (fun e o hf=>by
    simp only [hf]
    rw [fldU (by simp; omega),Int.toNat_natCast])
 | some v =>
  obtain ⟨p,hp,hpv⟩:=qsM hm
  obtain ⟨hv0,hv1⟩:=b.iv p hp
  rw [hpv] at hv0 hv1
  obtain ⟨k,rfl⟩:∃ k:Nat,v = (k:Int):=⟨v.toNat,by omega⟩
  have hlt:k < out.length:=by omega
  obtain ⟨g,hf,hg⟩:=b.fl out[k] (List.getElem_mem hlt)
  obtain ⟨hc1,hc2⟩:=b.cl out[k] (List.getElem_mem hlt)
  have hk:out[k]? = some out[k]:=List.getElem?_eq_getElem hlt
  generalize out[k] = e at *
  simp only [Option.isSome_some,Bool.not_true,cond_true,cond_false,oBs,Option.getD_some,Int.toNat_natCast]
  rw [hk,qkr hk,oBs]
  simp only
  by_cases hs:e.Source = x.source
  ·rw [if_pos hs,show (e.Source != x.source) = false from by rw [hs]; exact bne_self_eq_false _,cond_false]
   exact qqV (N:=N) (x:=x) (r:=r) (M:=ix) (k:=k) (e:=e) (g:=g) (out:=out) true hk hf (by omega) hc1 hc2
    (fun e o=>(idx e.Fields 0).bind fun x405=>(cat x405.Value ([32])).bind fun s417=>(idx e.Fields 0).bind fun x419=>(setI e.Fields 0 (Field.mk x419.Name s417)).bind fun l427=>(idx l427 0).bind fun x433=>(cat x433.Value r).bind fun s445=>(idx l427 0).bind fun x447=>(setI l427 0 (Field.mk x447.Name s445)).bind fun l=>some (.inl (ix,o.set k (Entry.mk e.ID e.Source e.Target e.Comments e.Flags e.State l))))
    (fun e o hf=>by
     simp only [hf]
     rw [fldK (by omega)])
  ·rw [if_neg hs,bne_iff_ne.2 hs,cond_true]
structure Sb (N n K j:Nat) (ix:Mp) (out:List Entry):Prop where
 ol:out.length ≤ 1000000 + j
 il:ix.length ≤ 1000000 + j
 iv:∀ p ∈ ix,0 ≤ p.2 ∧ p.2 < (out.length:Int)
 fl:∀ e ∈ out,∃ g,e.Fields = [g] ∧ g.Value.length ≤ 1000000000000 + j * K
 cl:∀ e ∈ out,e.Comments.length + n < N + j ∧ e.Comments.length ≤ 1000000 + j
 fg:∀ e ∈ out,e.Flags = []
theorem qpd (ix:Mp) (k:List UInt8) (v:Int):(mput ix k v).length ≤ ix.length + 1:=by
 induction ix with
 | nil=>simp [mput]
 | cons p ix ih =>
  rw [mput]
  split
  ·simp
  ·simp only [List.length_cons]; omega
theorem qo8 {ix:Mp} {k:List UInt8} {v:Int} {p:List UInt8 × Int} (h:p ∈ mput ix k v):p ∈ ix ∨ p = (k,v):=by
 induction ix with
 | nil=>simpa [mput] using h
 | cons q ix ih =>
  rw [mput] at h
  split at h
  ·rcases List.mem_cons.1 h with h | h
   ·exact .inr h
   ·exact .inl (List.mem_cons_of_mem _ h)
  ·rcases List.mem_cons.1 h with h | h
   ·exact .inl (h ▸ List.mem_cons_self ..)
   ·rcases ih h with h | h
    ·exact .inl (List.mem_cons_of_mem _ h)
    ·exact .inr h
theorem qmc (e:Entry) (c:List UInt8):(cms e c).length ≤ e.Comments.length + 1:=by
 unfold cms
 split
 ·omega
 ·simp
theorem Sb.rb {N n K j:Nat} {ix:Mp} {out:List Entry} {f:File} {x:Found2} (b:Sb N n K j ix out) (hj:j < n) (hn:n ≤ 1000000) (hN:n < N) (h1:f.Name.length ≤ 1000000) (h2:f.Text.length ≤ 1000000) (h3:0 ≤ x.offset) (h4:x.offset ≤ (f.Text.length:Int)) (hK:j * K ≤ 20000000000000):Rb N f x ix out where
 nm:=h1
 tx:=h2
 of0:=h3
 of1:=h4
 ol:=by have:=b.ol; omega
 il:=by have:=b.il; omega
 iv:=b.iv
 fl:=fun e he=>by obtain ⟨g,h,h5⟩:=b.fl e he; exact ⟨g,h,by omega⟩
 cl:=fun e he=>by obtain ⟨h,h5⟩:=b.cl e he; omega
 n0:=by omega
set_option maxRecDepth 100000 in
theorem Sb.step {N n K j:Nat} {ix ix':Mp} {out out':List Entry} {i:Int} {f:File} {x:Found2} (b:Sb N n K j ix out) (hj:j < n) (hn:n ≤ 1000000) (hN:n < N) (hr:(refT f x).length + 1 ≤ K) (h:rnd i f x ix out = .inl (ix',out')):Sb N n K (j + 1) ix' out':=by
 have hz:(j + 1) * K = j * K + K:=Nat.succ_mul j K
 unfold rnd at h
 generalize refT f x = r at hr h
 cases hm:mget ix x.id with
 | none =>
  rw [hm] at h
  simp only [Option.isSome_none,cond_false,Sum.inl.injEq,Prod.mk.injEq] at h
  obtain ⟨rfl,rfl⟩:=h
  have hc:=qmc (E0 x.id x.source) x.comment
  have hE:(E0 x.id x.source).Comments.length = 0:=rfl
  refine ⟨by have:=b.ol; simp; omega,by have:=b.il; have:=qpd ix x.id (out.length:Int); omega,fun p hp=>?_,fun e he=>?_,fun e he=>?_,fun e he=>?_⟩
  ·rw [List.length_append,List.length_singleton]
   rcases qo8 hp with hp | rfl
   ·have:=b.iv p hp; omega
   ·simp only; omega
  ·rcases List.mem_append.1 he with he | he
   ·obtain ⟨g,h1,h2⟩:=b.fl e he; exact ⟨g,h1,by rw [hz]; omega⟩
   ·obtain rfl:=List.mem_singleton.1 he
    exact ⟨Field.mk [114,101,102] ([] ++ [] ++ r),rfl,by show ([] ++ [] ++ r:List UInt8).length ≤ _; rw [List.nil_append,List.nil_append,hz]; omega⟩
  ·rcases List.mem_append.1 he with he | he
   ·have:=b.cl e he; omega
   ·obtain rfl:=List.mem_singleton.1 he
    show (cms (E0 x.id x.source) x.comment).length + n < N + (j + 1) ∧ (cms (E0 x.id x.source) x.comment).length ≤ _
    omega
  ·rcases List.mem_append.1 he with he | he
   ·exact b.fg e he
   ·obtain rfl:=List.mem_singleton.1 he; rfl
 | some v =>
  rw [hm] at h
  simp only [Option.isSome_some,cond_true,Option.getD_some] at h
  cases hk:out[v.toNat]? with
  | none=>rw [hk] at h; simp at h
  | some e0 =>
   rw [hk] at h
   simp only at h
   split at h
   case isFalse=>simp at h
   simp only [Sum.inl.injEq,Prod.mk.injEq] at h
   obtain ⟨rfl,rfl⟩:=h
   have he0:=List.mem_of_getElem? hk
   have hc:=qmc e0 x.comment
   obtain ⟨g,hg1,hg2⟩:=b.fl e0 he0
   refine ⟨by have:=b.ol; rw [List.length_set]; omega,by have:=b.il; omega,fun p hp=>by rw [List.length_set]; exact b.iv p hp,fun e he=>?_,fun e he=>?_,fun e he=>?_⟩
   ·rcases List.mem_or_eq_of_mem_set he with he | rfl
    ·obtain ⟨g,h1,h2⟩:=b.fl e he; exact ⟨g,h1,by rw [hz]; omega⟩
    ·refine ⟨Field.mk g.Name (g.Value ++ [32] ++ r),?_,by show (g.Value ++ [32] ++ r).length ≤ _; rw [List.length_append,List.length_append,List.length_singleton,hz]; omega⟩
     show fld e0.Fields true r = _
     rw [hg1]; rfl
   ·rcases List.mem_or_eq_of_mem_set he with he | rfl
    ·have:=b.cl e he; omega
    ·have:=b.cl e0 he0
     show (cms e0 x.comment).length + n < N + (j + 1) ∧ (cms e0 x.comment).length ≤ _
     omega
   ·rcases List.mem_or_eq_of_mem_set he with he | rfl
    ·exact b.fg e he
    ·exact b.fg e0 he0
end Go.Proofs.YtllfckekodcdaaaGreatDoor
namespace Go.X
open Go.RowKit
section
variable {P:Program} {Q:Exit → Act → World → Prop} {n:Nat} {L:List (Nat × Value)} {a:Act} {u w:World} {m:Mem} {S:Segs} {ds:List Deferred}
theorem qup (E:Env n a L):a = { a with defers:=qiu [] }:=by
 cases a with
 | mk t d =>
  have:=E.d
  simp only at this
  subst this
  rfl
theorem d_if {t:Bool} {c:Operand} {x y:Code} (E:Env n a L) (hc:ev L c = some (.bool t)) (h1:t = true → x.wp P Q { a with defers:=ds } w) (h2:t = false → y.wp P Q { a with defers:=ds } w):(Code.cond c x y).wp P Q { a with defers:=ds } w:=by
 refine wp_cond (t:=t) ((show ({ a with defers:=ds }:Act).eval c = a.eval c from by cases c <;> rfl).trans (E.ev hc)) ?_
 cases t
 ·exact h2 rfl
 ·exact h1 rfl
def MkS (Ds:List Nat):List (Nat × Obj):=Ds.map fun D=>(D,Obj.deferred (some []))
theorem Ok.mkK {Ds:List Nat} (ok:Ok u m (MkS Ds :: S) w):(∀ D ∈ Ds,w.heap[D]? = some (.deferred (some []))) ∧ Ds.Nodup:=by
 refine ⟨fun D hD=>(ok.own (D,.deferred (some [])) (by simp only [List.flatten_cons,List.mem_append]; exact .inl (List.mem_map.2 ⟨D,hD,rfl⟩))).1,?_⟩
 have:=ok.nd
 simp only [List.flatten_cons] at this
 have:=(List.pairwise_append.1 this).1
 exact (List.pairwise_map.1 this).imp fun h=>h
theorem Ok.takenM:∀ {Ds:List Nat} {w:World},Ok u m (MkS Ds :: S) w → Ok u m S (Go.X.taken w Ds)
 | [],_,ok=>ok.drop
 | D :: Ds,w,ok=>by
  have ok1:Ok u m ([(D,.deferred (some []))] :: MkS Ds :: S) w:=ok.perm (by simp [MkS])
  have hlt:=ok1.ids_lt (p:=(D,.deferred (some []))) (by simp)
  have ok2:Ok u m ([(D,.deferred none)] :: MkS Ds :: S) (w.putObj D (.deferred none)):=ok1.setObj rfl rfl rfl (World.putObj_heap_same hlt) fun k hk=>World.putObj_heap_other hk
  have ok3:=ok2.drop
  show Ok u m S (Go.X.taken (w.putObj D (.deferred none)) Ds)
  exact Ok.takenM ok3
theorem Ok.addMk {Ds:List Nat} {B D:Nat} (ok:Ok u m (MkS Ds :: S) w) (hm:∀ b o,m b = some o → b < B) (hS:∀ q ∈ (MkS Ds :: S).flatten,q.1 < B ∨ q.2.isCells = true) (hD:B ≤ D) (hd:w.heap[D]? = some (.deferred (some []))):Ok u m (MkS (D :: Ds) :: S) w:=by
 have hn:∀ q ∈ (MkS Ds :: S).flatten,D ≠ q.1:=fun q hq e=>by
  rcases hS q hq with h | h
  ·omega
  ·have:=(ok.own q hq).1
   rw [← e,hd] at this
   rw [← Option.some.inj this] at h
   cases h
 have ok1:Ok u m ([(D,.deferred (some []))] :: MkS Ds :: S) w:=by
  refine ⟨ok.os,ok.out,ok.tape,ok.ro,fun p hp=>?_,?_,ok.base⟩
  ·simp only [List.flatten_cons,List.cons_append,List.nil_append,List.mem_cons] at hp
   rcases hp with rfl | hp
   ·refine ⟨hd,?_⟩
    cases hb:m D with
    | none=>rfl
    | some o=>have:=hm D o hb; omega
   ·exact ok.own p (by simpa only [List.flatten_cons] using hp)
  ·rw [List.flatten_cons]
   exact List.pairwise_cons.2 ⟨fun q hq=>hn q hq,ok.nd⟩
 exact ok1.perm (by simp [MkS])
end
end Go.X
