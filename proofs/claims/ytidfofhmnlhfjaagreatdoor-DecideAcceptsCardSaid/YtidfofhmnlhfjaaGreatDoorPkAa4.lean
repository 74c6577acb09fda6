/- Texts of this proof, put together by pack.py: what its declarations name. -/
import Derived.Test.YtidfofhmnlhfjaaGreatDoorPkAa3
import Derived.Test.YtidfofhmnlhfjaaGreatDoorCards
import Derived.Test.YtidfofhmnlhfjaaGreatDoorChecked
import Derived.Test.YtidfofhmnlhfjaaGreatDoorProg
import Derived.Test.YtidfofhmnlhfjaaGreatDoorRows
import Derived.Test.YtidfofhmnlhfjaaGreatDoorTie
set_option linter.unusedVariables false
set_option linter.unusedSimpArgs false
namespace Go.Proofs.YtidfofhmnlhfjaaGreatDoor
open Go.X
variable {u:World} {m0:Mem} {S:Segs} {w:World}
set_option maxHeartbeats 4000000
set_option maxRecDepth 100000
def qk8:Rp Number2:=fun _ cs x=>cs = [.bool x.negative,.string (bs x.whole),.string (bs x.fraction)] ∧ x.whole.length ≤ LIMS ∧ x.fraction.length ≤ LIMS
theorem qaX:aggB Tryz.prog 153 3 = true:=by kernel_rfl
theorem qld:qaO Tryz.prog 153 1 1 = true:=by kernel_rfl
theorem qi1:qaO Tryz.prog 153 2 2 = true:=by kernel_rfl
theorem qoD:goB Tryz.prog 104 = true:=by kernel_rfl
theorem qqI:goB Tryz.prog 105 = true:=by kernel_rfl
theorem qqN:goB Tryz.prog 107 = true:=by kernel_rfl
theorem qrB:goB Tryz.prog 108 = true:=by kernel_rfl
theorem qry:goB Tryz.prog 134 = true:=by kernel_rfl
theorem qq5:goB Tryz.prog 135 = true:=by kernel_rfl
theorem qjW:goB Tryz.prog 136 = true:=by kernel_rfl
theorem qlg:goB Tryz.prog 137 = true:=by kernel_rfl
theorem qre:goB Tryz.prog 138 = true:=by kernel_rfl
theorem qln:goB Tryz.prog 139 = true:=by kernel_rfl
theorem qrz:goB Tryz.prog 140 = true:=by kernel_rfl
theorem qrs:goB Tryz.prog 141 = true:=by kernel_rfl
theorem qop:goB Tryz.prog 155 = true:=by kernel_rfl
theorem qos:goB Tryz.prog 156 = true:=by kernel_rfl
theorem qq6:goB Tryz.prog 161 = true:=by kernel_rfl
theorem qq7:goB Tryz.prog 162 = true:=by kernel_rfl
theorem qr8:goB Tryz.prog 65 = true:=by kernel_rfl
theorem qsk:goB Tryz.prog 66 = true:=by kernel_rfl
theorem qsi:goB Tryz.prog 67 = true:=by kernel_rfl
theorem qrV:goB Tryz.prog 68 = true:=by kernel_rfl
theorem qrR:goB Tryz.prog 70 = true:=by kernel_rfl
theorem qrY:goB Tryz.prog 71 = true:=by kernel_rfl
theorem qbV:∃ i,Tryz.prog.info? 153 = some i ∧ i.size = 3:=⟨_,rfl,by kernel_rfl⟩
theorem qob:qd3 Tryz.prog 153 = some [(0,1),(1,1),(2,1)]:=by kernel_rfl
theorem qhR:qck Tryz.prog 153 = some [vb false,(vs ([])),(vs ([]))]:=by kernel_rfl
theorem qjm {u:World} {m0:Mem} {S:Segs} {w:World} (N:Nat) (p0_0:List UInt8) (lp0_0:p0_0.length ≤ LIMS) (p1_1:List UInt8) (lp1_1:p1_1.length ≤ LIMS) {r:(List UInt8) × Bool} (hF:strings_CutPrefix N p0_0 p1_1 = some r) (hG:Glob u) (ok:Ok u m0 S w) :
 Calls Tryz.prog 134 [vs p0_0,vs p1_1].toArray w fun e w'=>(e = .returned (.tuple [(.string (bs r.1)),(.bool r.2)].toArray) ∧ Ok u m0 S w') ∧ r.1.length ≤ LIMS:=qmJ Tryz.lays103 p0_0 p1_1 hF lp0_0 ok
theorem qmE (N:Nat) (p0_0:List UInt8) (lp0_0:p0_0.length ≤ LIMS) (p1_1:List UInt8) (lp1_1:p1_1.length ≤ LIMS) {r:(List UInt8) × (List UInt8) × Bool} (hF:strings_Cut N p0_0 p1_1 = some r) (hG:Glob u) (ok:Ok u m0 S w) :
  Calls Tryz.prog 135 [vs p0_0,vs p1_1].toArray w fun e w'=>(e = .returned (.tuple [(.string (bs r.1)),(.string (bs r.2.1)),(.bool r.2.2)].toArray) ∧ Ok u m0 S w') ∧ r.1.length ≤ LIMS ∧ r.2.1.length ≤ LIMS:=by
 obtain ⟨mx,hmx⟩:=hG
 exact qqD Tryz.lays145 hmx p0_0 p1_1 hF lp0_0 ok
theorem qiw {u:World} {m0:Mem} {S:Segs} {w:World} (N:Nat) (p0_0:List UInt8) (lp0_0:p0_0.length ≤ LIMS) (p1_1:List UInt8) (lp1_1:p1_1.length ≤ LIMS) {r:(List UInt8)} (hF:qeu N p0_0 p1_1 = some r) (hG:Glob u) (ok:Ok u m0 S w) :
 Calls Tryz.prog 155 [vs p0_0,vs p1_1].toArray w fun e w'=>(e = .returned (.string (bs r)) ∧ Ok u m0 S w') ∧ r.length ≤ LIMS:=qpd Tryz.lays160 (by kernel_rfl) p0_0 p1_1 hF lp0_0 ok
def qla (u:World) (m0:Mem) (S:Segs) (r:Bool) (a:Act) (w:World):Prop :=
 Ok u m0 S w ∧ a.defers = [] ∧ RVs Tryz.prog a w [.t 2 (.bool r)]
theorem qeq (N:Nat) (s_0:List UInt8) (ls_0:s_0.length ≤ LIMS) {r:Bool} (hF:qcJ N s_0 = some r) (hG:Glob u) (ok:Ok u m0 S w) :
  Calls Tryz.prog 136 [vs s_0].toArray w fun e w'=>(e = .returned (.bool r) ∧ Ok u m0 S w'):=by
 unfold qcJ at hF
 refine en (qla u m0 S) r Tryz.func136 rfl rfl rfl (fun _ _ h=>ra h rfl) fun fin a E=>sg<|aw E rfl fun a E=>sg<|mv E rfl fun a E=>bd hF fun r1 e2 hF=>qan E qop rfl (qiw N s_0 ls_0 ([48,49,50,51,52,53,54,55,56,57]) (show ([48,49,50,51,52,53,54,55,56,57]:List UInt8).length ≤ LIMS by decide) e2 hG ok) rfl rfl ?_
 rintro _ w ⟨⟨rfl,ok⟩,l3⟩
 refine ⟨_,rfl,fun a E=>?_⟩
 refine lw E (qhY rfl rfl) fun a E=>aw E rfl fun a E=>wp_ret ?_
 exact fin hF ⟨ok,E.d,rz E rfl⟩
def qlY (u:World) (m0:Mem) (S:Segs) (r:Bool) (a:Act) (w:World):Prop :=
 Ok u m0 S w ∧ a.defers = [] ∧ RVs Tryz.prog a w [.t 2 (.bool r)]
theorem qiB (N:Nat) (s_0:List UInt8) (ls_0:s_0.length ≤ LIMS) {r:Bool} (hF:qfn N s_0 = some r) (hG:Glob u) (ok:Ok u m0 S w) :
  Calls Tryz.prog 156 [vs s_0].toArray w fun e w'=>(e = .returned (.bool r) ∧ Ok u m0 S w'):=by
 unfold qfn at hF
 refine en (qlY u m0 S) r Tryz.func156 rfl rfl rfl (fun _ _ h=>ra h rfl) fun fin a E=>sg<|aw E rfl fun a E=>sg<|mv E rfl fun a E=>bd hF fun r1 e2 hF=>qan E qop rfl (qiw N s_0 ls_0 ([48]) (show ([48]:List UInt8).length ≤ LIMS by decide) e2 hG ok) rfl rfl ?_
 rintro _ w ⟨⟨rfl,ok⟩,l3⟩
 refine ⟨_,rfl,fun a E=>?_⟩
 refine lw E (qhY rfl rfl) fun a E=>aw E rfl fun a E=>wp_ret ?_
 exact fin hF ⟨ok,E.d,rz E rfl⟩
def qip (u:World) (m0:Mem) (S:Segs) (r:Bool) (a:Act) (w:World):Prop :=
 Ok u m0 S w ∧ a.defers = [] ∧ RVs Tryz.prog a w [.t 2 (.bool r)]
theorem qd2 (N:Nat) (vx_0:List Value) (x_0:Number2) (hx_0:qk8 m0 vx_0 x_0) {r:Bool} (hF:qct N x_0 = some r) (hG:Glob u) (ok:Ok u m0 S w) :
  Calls Tryz.prog 137 [.agg vx_0.toArray].toArray w fun e w'=>(e = .returned (.bool r) ∧ Ok u m0 S w'):=by
 obtain ⟨rfl,l1,l2⟩:=hx_0
 unfold qct at hF
 refine en (qip u m0 S) r Tryz.func137 rfl rfl rfl (fun _ _ h=>ra h rfl) fun fin a E=>sg<|qb8 E ok rfl rfl rfl fun b3 a w E ok=>aw E rfl fun a E=>sg<|fk E ok qld qbg rfl 0 rfl rfl fun a E=>bd hF fun r4 e5 hF=>lc E qos rfl (qiB N x_0.whole l1 e5 hG ok) fun w ok a E=>mv E rfl fun a E=>qbN r4 (fun c6=>?_) (fun c6=>?_)
 rotate_left
 ·have hF:=qbI c6 hF
  have E:=E.upd 6 c6 rfl
  refine lsq E fun a E=>ls E fun a E=>pf E rfl rfl fun a E=>aw E rfl fun a E=>wp_ret ?_
  exact fin hF ⟨ok.drop,E.d,rz E rfl⟩
 have hF:=qbK c6 hF
 have E:=E.upd 6 c6 rfl
 refine fk E ok qi1 qbg rfl 0 rfl rfl fun a E=>bd hF fun r7 e8 hF=>lc E qos rfl (qiB N x_0.fraction l2 e8 hG ok) fun w ok a E=>pt E rfl rfl fun a E=>aw E rfl fun a E=>wp_ret ?_
 exact fin hF ⟨ok.drop,E.d,rz E rfl⟩
def qlA (u:World) (m0:Mem) (S:Segs) (r:Number2 × Bool) (a:Act) (w:World):Prop :=
 ∃ m1 v0,m0.le m1 ∧ Ok u m1 S w ∧ a.defers = [] ∧ RVs Tryz.prog a w [.c 2 153 (.agg v0.toArray),.t 3 (.bool r.2)] ∧ qk8 m1 v0 r.1
theorem qh8 (N:Nat) (s_0:List UInt8) (ls_0:s_0.length ≤ LIMS) {r:Number2 × Bool} (hF:qeS N s_0 = some r) (hG:Glob u) (ok:Ok u m0 S w) :
  Calls Tryz.prog 104 [vs s_0].toArray w fun e w'=>∃ m1 v0,e = .returned (.tuple [(.agg v0.toArray),(.bool r.2)].toArray) ∧ m0.le m1 ∧ Ok u m1 S w' ∧ qk8 m1 v0 r.1:=by
 have le_m0:=Mem.le.refl m0
 unfold qeS at hF
 refine en (qlA u m0 S) r Tryz.func104 rfl rfl rfl (by rintro a w ⟨m1,v0,hle,ok,hd,hrv,h0⟩; exact qbS [.c 2 153 (.agg v0.toArray),.t 3 (.bool r.2)] hd rfl hrv ⟨m1,v0,rfl,hle,ok,h0⟩) fun fin a E=>sg<|qaB E ok qhR rfl rfl fun b1 a w E ok=>aw E rfl fun a E=>sg<|mv E rfl fun a E=>bd hF fun r2 e3 hF=>qan E qry rfl (qjm N s_0 ls_0 ([45]) (show ([45]:List UInt8).length ≤ LIMS by decide) e3 hG ok) rfl rfl ?_
 rintro _ w ⟨⟨rfl,ok⟩,l4⟩
 refine ⟨_,rfl,fun a E=>?_⟩
 refine mv E rfl fun a E=>lw E (qaK rfl rfl) fun a E=>lw E (qaK rfl rfl) fun a E=>av E rfl fun a E=>aw E rfl fun a E=>sg<|mv E rfl fun a E=>bd hF fun r5 e6 hF=>qan E qq5 rfl (qmE N r2.1 l4 ([46]) (show ([46]:List UInt8).length ≤ LIMS by decide) e6 hG ok) rfl rfl ?_
 rintro _ w ⟨⟨rfl,ok⟩,l7,l8⟩
 refine ⟨_,rfl,fun a E=>?_⟩
 refine mv E rfl fun a E=>lw E (qaK rfl rfl) fun a E=>lw E (qaK rfl rfl) fun a E=>lw E (qaK rfl rfl) fun a E=>av E rfl fun a E=>av E rfl fun a E=>av E rfl fun a E=>wn<|sg<|mz E rfl rfl fun a E=>mv E rfl fun a E=>lw E (qaP (ps:=[(0,.tmp 21),(1,.tmp 22),(2,.tmp 23)]) (qs:=[(0,[vb r2.2]),(1,[vs r5.1]),(2,[vs r5.2.1])]) (cs:=[vb r2.2,vs r5.1,vs r5.2.1]) qhR qob rfl ⟨rfl,rfl,rfl,⟨rfl,rfl,rfl,⟨rfl,rfl,rfl,trivial⟩⟩⟩ rfl) fun a E=>qaB E ok qhR rfl rfl fun b9 a w E ok=>?_
 refine qad E ok 0 rfl rfl rfl qbV rfl rfl ⟨rfl,rfl,rfl,trivial⟩ rfl rfl fun w ok=>wn<|wp_seq<|wp_block<|sg<|mv E rfl fun a E=>lw E (qa7 Tryz.underlying9 rfl) fun a E=>lw E (qay rfl rfl) fun a E=>mv E rfl fun a E=>bu E 29 hF (fun c10 hF E=>?_) fun c10 hF E=>?_
 ·refine lsq E fun a E=>ls E fun a E=>pt E rfl rfl fun a E=>mv E rfl fun a E=>lsq E fun a E=>ls E fun a E=>pt E rfl rfl fun a E=>mv E rfl fun a E=>lsz E fun a E=>lsq E fun a E=>?_
  refine lsq E fun a E=>pt E rfl rfl fun a E=>aw E rfl fun a E=>c_if E rfl (fun _=>?_) (fun h=>by cases h)
  refine sg<|lv E ok (qag (cs:=[vb r2.2,vs r5.1,vs r5.2.1]) qaX rfl rfl (qab.own 0 rfl rfl)) fun a E=>qad E ok 1 rfl rfl rfl qbV rfl rfl ⟨rfl,rfl,rfl,trivial⟩ rfl rfl fun w ok=>aw E rfl fun a E=>wp_ret<|qax<|qal ?_
  exact fin hF ⟨m0,[vb r2.2,vs r5.1,vs r5.2.1],le_m0,ok.drop.drop,E.d,⟨rv_c (cs:=[vb r2.2,vs r5.1,vs r5.2.1]) E ok rfl qaX rfl (qab.own 1 rfl rfl),rv_t E rfl,trivial⟩,⟨rfl,l7,l8⟩⟩
 refine mv E rfl fun a E=>lw E (qa7 Tryz.underlying9 rfl) fun a E=>lw E (qbp rfl rfl) fun a E=>pf E rfl rfl fun a E=>mv E rfl fun a E=>bu E 34 hF (fun c11 hF E=>?_) fun c11 hF E=>?_
 ·refine lsq E fun a E=>ls E fun a E=>pt E rfl rfl fun a E=>mv E rfl fun a E=>lsz E fun a E=>lsz E fun a E=>pt E rfl rfl fun a E=>av E rfl fun a E=>wn<|c_if E rfl (fun _=>?_) (fun h=>by cases h)
  refine sg<|lv E ok (qag (cs:=[vb r2.2,vs r5.1,vs r5.2.1]) qaX rfl rfl (qab.own 0 rfl rfl)) fun a E=>qad E ok 1 rfl rfl rfl qbV rfl rfl ⟨rfl,rfl,rfl,trivial⟩ rfl rfl fun w ok=>aw E rfl fun a E=>wp_ret<|qax<|qal ?_
  exact fin hF ⟨m0,[vb r2.2,vs r5.1,vs r5.2.1],le_m0,ok.drop.drop,E.d,⟨rv_c (cs:=[vb r2.2,vs r5.1,vs r5.2.1]) E ok rfl qaX rfl (qab.own 1 rfl rfl),rv_t E rfl,trivial⟩,⟨rfl,l7,l8⟩⟩
 refine mv E rfl fun a E=>bd hF fun r12 e13 hF=>lc E qjW rfl (qeq N r5.1 l7 e13 hG ok) fun w ok a E=>lw E (qa2 rfl) fun a E=>pf E rfl rfl fun a E=>mv E rfl fun a E=>bu E 39 hF (fun c14 hF E=>?_) fun c14 hF E=>?_
 ·refine lsz E fun a E=>lsz E fun a E=>pt E rfl rfl fun a E=>aw E rfl fun a E=>c_if E rfl (fun _=>?_) (fun h=>by cases h)
  refine sg<|lv E ok (qag (cs:=[vb r2.2,vs r5.1,vs r5.2.1]) qaX rfl rfl (qab.own 0 rfl rfl)) fun a E=>qad E ok 1 rfl rfl rfl qbV rfl rfl ⟨rfl,rfl,rfl,trivial⟩ rfl rfl fun w ok=>aw E rfl fun a E=>wp_ret<|qax<|qal ?_
  exact fin hF ⟨m0,[vb r2.2,vs r5.1,vs r5.2.1],le_m0,ok.drop.drop,E.d,⟨rv_c (cs:=[vb r2.2,vs r5.1,vs r5.2.1]) E ok rfl qaX rfl (qab.own 1 rfl rfl),rv_t E rfl,trivial⟩,⟨rfl,l7,l8⟩⟩
 refine mv E rfl fun a E=>lw E (qa7 Tryz.underlying9 rfl) fun a E=>lw E (qbp rfl rfl) fun a E=>mv E rfl fun a E=>bw E 43 hF (fun c15 hF E=>?_) fun c15 hF E=>?_
 ·as_aux_lemma =>
   refine lsq E fun a E=>ls E fun a E=>pf E rfl rfl fun a E=>pf E rfl rfl fun a E=>aw E rfl fun a E=>c_if E rfl (fun h=>by cases h) (fun _=>?_)
   refine sg<|mz E rfl rfl fun a E=>qbN r5.2.2 (fun c45=>?_) (fun c45=>?_)
   rotate_left
   ·as_aux_lemma =>
     have hF:=qbI c45 hF
     have E:=E.upd 52 c45 rfl
     refine lsq E fun a E=>ls E fun a E=>pf E rfl rfl fun a E=>mz E rfl rfl fun a E=>lw E (qa7 Tryz.underlying9 rfl) fun a E=>lw E (qbp rfl rfl) fun a E=>pf E rfl rfl fun a E=>mv E rfl fun a E=>bu E 62 hF (fun c59 hF E=>?_) fun c59 hF E=>?_
     ·refine lsq E fun a E=>ls E fun a E=>pt E rfl rfl fun a E=>aw E rfl fun a E=>c_if E rfl (fun _=>?_) (fun h=>by cases h)
      refine sg<|lv E ok (qag (cs:=[vb r2.2,vs r5.1,vs r5.2.1]) qaX rfl rfl (qab.own 0 rfl rfl)) fun a E=>qad E ok 1 rfl rfl rfl qbV rfl rfl ⟨rfl,rfl,rfl,trivial⟩ rfl rfl fun w ok=>aw E rfl fun a E=>wp_ret<|qax<|qal ?_
      exact fin hF ⟨m0,[vb r2.2,vs r5.1,vs r5.2.1],le_m0,ok.drop.drop,E.d,⟨rv_c (cs:=[vb r2.2,vs r5.1,vs r5.2.1]) E ok rfl qaX rfl (qab.own 1 rfl rfl),rv_t E rfl,trivial⟩,⟨rfl,l7,l8⟩⟩
     refine mv E rfl fun a E=>bd hF fun r60 e61 hF=>lc E qjW rfl (qeq N r5.2.1 l8 e61 hG ok) fun w ok a E=>lw E (qa2 rfl) fun a E=>pf E rfl rfl fun a E=>aw E rfl fun a E=>cf E rfl hF (fun c62 hF=>?_) fun c62 hF=>?_
     ·refine sg<|lv E ok (qag (cs:=[vb r2.2,vs r5.1,vs r5.2.1]) qaX rfl rfl (qab.own 0 rfl rfl)) fun a E=>qad E ok 1 rfl rfl rfl qbV rfl rfl ⟨rfl,rfl,rfl,trivial⟩ rfl rfl fun w ok=>aw E rfl fun a E=>wp_ret<|qax<|qal ?_
      exact fin hF ⟨m0,[vb r2.2,vs r5.1,vs r5.2.1],le_m0,ok.drop.drop,E.d,⟨rv_c (cs:=[vb r2.2,vs r5.1,vs r5.2.1]) E ok rfl qaX rfl (qab.own 1 rfl rfl),rv_t E rfl,trivial⟩,⟨rfl,l7,l8⟩⟩
     refine wp_skip<|qap<|qaa<|wp_seq<|bd hF fun o63 hJ hF=>qaL (Q':=fun e a w=>e = .normal ∧ Ok u m0 ([(b9,oc 153 [vb r2.2,vs r5.1,vs r5.2.1])] :: [(b1,oc 153 [vb o63.2.negative,vs o63.2.whole,vs o63.2.fraction])] :: S) w ∧ Env 76 a [(2,vp b1),(3,vb o63.1)] ∧ o63.2.whole.length ≤ LIMS ∧ o63.2.fraction.length ≤ LIMS) ?_ ?_
     rotate_left
     ·intro e a w hO
      obtain ⟨rfl,ok,E,l69,l70⟩:=hO
      refine qaa<|wp_ret ?_
      exact fin hF ⟨m0,[vb o63.2.negative,vs o63.2.whole,vs o63.2.fraction],le_m0,ok.drop.drop,E.d,⟨rv_c (cs:=[vb o63.2.negative,vs o63.2.whole,vs o63.2.fraction]) E ok rfl qaX rfl (qab.own 1 rfl rfl),rv_t E rfl,trivial⟩,⟨rfl,l69,l70⟩⟩
     have hF:=hJ
     refine qbN (!r2.2) (fun c66=>?_) (fun c66=>?_)
     ·have hF:=qbK c66 hF
      cases hF
      refine qaS [0] (Cls u m0 ([(b9,oc 153 [vb r2.2,vs r5.1,vs r5.2.1])] :: [(b1,oc 153 [vb false,(vs ([])),(vs ([]))])] :: [])) (Cls u m0 ([(b9,oc 153 [vb r2.2,vs r5.1,vs r5.2.1])] :: [])) (by kernel_rfl) ?_
      intro w hw
      replace ok:=qa6 ok hw
      clear hw
      refine qai (cl1 (cq le_m0 ok [0,1] rfl) (cq le_m0 ok [0] rfl)) fun hT=>qaZ 0 E rfl (by kernel_rfl) nP hT (qag (cs:=[vb r2.2,vs r5.1,vs r5.2.1]) qaX rfl rfl (qab.cown 0 rfl rfl)) rfl rfl fun a E=>kt 1 E rfl hT (qah rfl) fun a E=>kt 2 E rfl hT (qa2 rfl) fun a E=>kt 3 E rfl hT (qah rfl) fun a E=>?_
      have E:=E.upd 71 c66 rfl
      refine qam 4 false E rfl (by kernel_rfl) nP hT rfl rfl fun a E=>qam 5 false E rfl (by kernel_rfl) nP hT rfl rfl fun a E=>qam 6 false E rfl (by kernel_rfl) nP hT rfl rfl fun a E=>kt 7 E rfl hT (qaY rfl rfl) fun a E=>qar [8] (by kernel_rfl) rfl (qat ?_)
      ·refine wo rfl<|qad E ok 1 rfl rfl rfl qbV rfl rfl ⟨rfl,rfl,rfl,trivial⟩ rfl rfl fun w ok=>wn<|qai (cl2 (by kernel_rfl) (cq le_m0 ok [0] rfl)) fun hT=>kt 9 E rfl hT (qbA rfl) fun a E=>qaR (by kernel_rfl) ?_
       exact ⟨rfl,⟨ok,E.keep [2,3],l7,l8⟩⟩
     have hF:=qbI c66 hF
     obtain ⟨r67,e68,hF⟩:=bnd hF
     obtain rfl:=sj hF
     refine qaS [0] (Cls u m0 ([(b9,oc 153 [vb r2.2,vs r5.1,vs r5.2.1])] :: [(b1,oc 153 [vb false,(vs ([])),(vs ([]))])] :: [])) (Cls u m0 ([(b9,oc 153 [vb r2.2,vs r5.1,vs r5.2.1])] :: [])) (by kernel_rfl) ?_
     intro w hw
     replace ok:=qa6 ok hw
     clear hw
     refine qai (cl1 (cq le_m0 ok [0,1] rfl) (cq le_m0 ok [0] rfl)) fun hT=>qaZ 0 E rfl (by kernel_rfl) nP hT (qag (cs:=[vb r2.2,vs r5.1,vs r5.2.1]) qaX rfl rfl (qab.cown 0 rfl rfl)) rfl rfl fun a E=>kt 1 E rfl hT (qah rfl) fun a E=>kt 2 E rfl hT (qa2 rfl) fun a E=>kt 3 E rfl hT (qah rfl) fun a E=>?_
     have E:=E.upd 71 c66 rfl
     refine kt 4 E rfl hT (qag (cs:=[vb r2.2,vs r5.1,vs r5.2.1]) qaX rfl rfl (qab.cown 0 rfl rfl)) fun a E=>qar [5] (by kernel_rfl) rfl (qat ?_)
     ·refine wo rfl<|lc E qlg rfl (qd2 N _ (Number2.mk r2.2 r5.1 r5.2.1) ⟨rfl,l7,l8⟩ e68 hG ok) fun w ok a E=>wn<|qai (cl1 (cq le_m0 ok [0,1] rfl) (cq le_m0 ok [0] rfl)) fun hT=>kt 6 E rfl hT (qa2 rfl) fun a E=>kt 7 E rfl hT (qaT rfl rfl) fun a E=>qar [8] (by kernel_rfl) rfl (qat ?_)
      ·refine wo rfl<|qad E ok 1 rfl rfl rfl qbV rfl rfl ⟨rfl,rfl,rfl,trivial⟩ rfl rfl fun w ok=>wn<|qai (cl2 (by kernel_rfl) (cq le_m0 ok [0] rfl)) fun hT=>kt 9 E rfl hT (qbA rfl) fun a E=>qaR (by kernel_rfl) ?_
       exact ⟨rfl,⟨ok,E.keep [2,3],l7,l8⟩⟩
   have hF:=qbK c45 hF
   have E:=E.upd 52 c45 rfl
   refine mv E rfl fun a E=>lw E (qa7 Tryz.underlying9 rfl) fun a E=>lw E (qau rfl rfl) fun a E=>pt E rfl rfl fun a E=>mv E rfl fun a E=>bu E 57 hF (fun c46 hF E=>?_) fun c46 hF E=>?_
   ·refine lsq E fun a E=>ls E fun a E=>pt E rfl rfl fun a E=>mv E rfl fun a E=>lsq E fun a E=>ls E fun a E=>pt E rfl rfl fun a E=>aw E rfl fun a E=>c_if E rfl (fun _=>?_) (fun h=>by cases h)
    refine sg<|lv E ok (qag (cs:=[vb r2.2,vs r5.1,vs r5.2.1]) qaX rfl rfl (qab.own 0 rfl rfl)) fun a E=>qad E ok 1 rfl rfl rfl qbV rfl rfl ⟨rfl,rfl,rfl,trivial⟩ rfl rfl fun w ok=>aw E rfl fun a E=>wp_ret<|qax<|qal ?_
    exact fin hF ⟨m0,[vb r2.2,vs r5.1,vs r5.2.1],le_m0,ok.drop.drop,E.d,⟨rv_c (cs:=[vb r2.2,vs r5.1,vs r5.2.1]) E ok rfl qaX rfl (qab.own 1 rfl rfl),rv_t E rfl,trivial⟩,⟨rfl,l7,l8⟩⟩
   refine mv E rfl fun a E=>lw E (qa7 Tryz.underlying9 rfl) fun a E=>lw E (qbp rfl rfl) fun a E=>pf E rfl rfl fun a E=>mv E rfl fun a E=>bu E 62 hF (fun c47 hF E=>?_) fun c47 hF E=>?_
   ·refine lsq E fun a E=>ls E fun a E=>pt E rfl rfl fun a E=>aw E rfl fun a E=>c_if E rfl (fun _=>?_) (fun h=>by cases h)
    refine sg<|lv E ok (qag (cs:=[vb r2.2,vs r5.1,vs r5.2.1]) qaX rfl rfl (qab.own 0 rfl rfl)) fun a E=>qad E ok 1 rfl rfl rfl qbV rfl rfl ⟨rfl,rfl,rfl,trivial⟩ rfl rfl fun w ok=>aw E rfl fun a E=>wp_ret<|qax<|qal ?_
    exact fin hF ⟨m0,[vb r2.2,vs r5.1,vs r5.2.1],le_m0,ok.drop.drop,E.d,⟨rv_c (cs:=[vb r2.2,vs r5.1,vs r5.2.1]) E ok rfl qaX rfl (qab.own 1 rfl rfl),rv_t E rfl,trivial⟩,⟨rfl,l7,l8⟩⟩
   refine mv E rfl fun a E=>bd hF fun r48 e49 hF=>lc E qjW rfl (qeq N r5.2.1 l8 e49 hG ok) fun w ok a E=>lw E (qa2 rfl) fun a E=>pf E rfl rfl fun a E=>aw E rfl fun a E=>cf E rfl hF (fun c50 hF=>?_) fun c50 hF=>?_
   ·refine sg<|lv E ok (qag (cs:=[vb r2.2,vs r5.1,vs r5.2.1]) qaX rfl rfl (qab.own 0 rfl rfl)) fun a E=>qad E ok 1 rfl rfl rfl qbV rfl rfl ⟨rfl,rfl,rfl,trivial⟩ rfl rfl fun w ok=>aw E rfl fun a E=>wp_ret<|qax<|qal ?_
    exact fin hF ⟨m0,[vb r2.2,vs r5.1,vs r5.2.1],le_m0,ok.drop.drop,E.d,⟨rv_c (cs:=[vb r2.2,vs r5.1,vs r5.2.1]) E ok rfl qaX rfl (qab.own 1 rfl rfl),rv_t E rfl,trivial⟩,⟨rfl,l7,l8⟩⟩
   refine wp_skip<|qap<|qaa<|wp_seq<|bd hF fun o51 hJ hF=>qaL (Q':=fun e a w=>e = .normal ∧ Ok u m0 ([(b9,oc 153 [vb r2.2,vs r5.1,vs r5.2.1])] :: [(b1,oc 153 [vb o51.2.negative,vs o51.2.whole,vs o51.2.fraction])] :: S) w ∧ Env 76 a [(2,vp b1),(3,vb o51.1)] ∧ o51.2.whole.length ≤ LIMS ∧ o51.2.fraction.length ≤ LIMS) ?_ ?_
   rotate_left
   ·intro e a w hO
    obtain ⟨rfl,ok,E,l57,l58⟩:=hO
    refine qaa<|wp_ret ?_
    exact fin hF ⟨m0,[vb o51.2.negative,vs o51.2.whole,vs o51.2.fraction],le_m0,ok.drop.drop,E.d,⟨rv_c (cs:=[vb o51.2.negative,vs o51.2.whole,vs o51.2.fraction]) E ok rfl qaX rfl (qab.own 1 rfl rfl),rv_t E rfl,trivial⟩,⟨rfl,l57,l58⟩⟩
   have hF:=hJ
   refine qbN (!r2.2) (fun c54=>?_) (fun c54=>?_)
   ·have hF:=qbK c54 hF
    cases hF
    refine qaS [0] (Cls u m0 ([(b9,oc 153 [vb r2.2,vs r5.1,vs r5.2.1])] :: [(b1,oc 153 [vb false,(vs ([])),(vs ([]))])] :: [])) (Cls u m0 ([(b9,oc 153 [vb r2.2,vs r5.1,vs r5.2.1])] :: [])) (by kernel_rfl) ?_
    intro w hw
    replace ok:=qa6 ok hw
    clear hw
    refine qai (cl1 (cq le_m0 ok [0,1] rfl) (cq le_m0 ok [0] rfl)) fun hT=>qaZ 0 E rfl (by kernel_rfl) nP hT (qag (cs:=[vb r2.2,vs r5.1,vs r5.2.1]) qaX rfl rfl (qab.cown 0 rfl rfl)) rfl rfl fun a E=>kt 1 E rfl hT (qah rfl) fun a E=>kt 2 E rfl hT (qa2 rfl) fun a E=>kt 3 E rfl hT (qah rfl) fun a E=>?_
    have E:=E.upd 71 c54 rfl
    refine qam 4 false E rfl (by kernel_rfl) nP hT rfl rfl fun a E=>qam 5 false E rfl (by kernel_rfl) nP hT rfl rfl fun a E=>qam 6 false E rfl (by kernel_rfl) nP hT rfl rfl fun a E=>kt 7 E rfl hT (qaY rfl rfl) fun a E=>qar [8] (by kernel_rfl) rfl (qat ?_)
    ·refine wo rfl<|qad E ok 1 rfl rfl rfl qbV rfl rfl ⟨rfl,rfl,rfl,trivial⟩ rfl rfl fun w ok=>wn<|qai (cl2 (by kernel_rfl) (cq le_m0 ok [0] rfl)) fun hT=>kt 9 E rfl hT (qbA rfl) fun a E=>qaR (by kernel_rfl) ?_
     exact ⟨rfl,⟨ok,E.keep [2,3],l7,l8⟩⟩
   have hF:=qbI c54 hF
   obtain ⟨r55,e56,hF⟩:=bnd hF
   obtain rfl:=sj hF
   refine qaS [0] (Cls u m0 ([(b9,oc 153 [vb r2.2,vs r5.1,vs r5.2.1])] :: [(b1,oc 153 [vb false,(vs ([])),(vs ([]))])] :: [])) (Cls u m0 ([(b9,oc 153 [vb r2.2,vs r5.1,vs r5.2.1])] :: [])) (by kernel_rfl) ?_
   intro w hw
   replace ok:=qa6 ok hw
   clear hw
   refine qai (cl1 (cq le_m0 ok [0,1] rfl) (cq le_m0 ok [0] rfl)) fun hT=>qaZ 0 E rfl (by kernel_rfl) nP hT (qag (cs:=[vb r2.2,vs r5.1,vs r5.2.1]) qaX rfl rfl (qab.cown 0 rfl rfl)) rfl rfl fun a E=>kt 1 E rfl hT (qah rfl) fun a E=>kt 2 E rfl hT (qa2 rfl) fun a E=>kt 3 E rfl hT (qah rfl) fun a E=>?_
   have E:=E.upd 71 c54 rfl
   refine kt 4 E rfl hT (qag (cs:=[vb r2.2,vs r5.1,vs r5.2.1]) qaX rfl rfl (qab.cown 0 rfl rfl)) fun a E=>qar [5] (by kernel_rfl) rfl (qat ?_)
   ·refine wo rfl<|lc E qlg rfl (qd2 N _ (Number2.mk r2.2 r5.1 r5.2.1) ⟨rfl,l7,l8⟩ e56 hG ok) fun w ok a E=>wn<|qai (cl1 (cq le_m0 ok [0,1] rfl) (cq le_m0 ok [0] rfl)) fun hT=>kt 6 E rfl hT (qa2 rfl) fun a E=>kt 7 E rfl hT (qaT rfl rfl) fun a E=>qar [8] (by kernel_rfl) rfl (qat ?_)
    ·refine wo rfl<|qad E ok 1 rfl rfl rfl qbV rfl rfl ⟨rfl,rfl,rfl,trivial⟩ rfl rfl fun w ok=>wn<|qai (cl2 (by kernel_rfl) (cq le_m0 ok [0] rfl)) fun hT=>kt 9 E rfl hT (qbA rfl) fun a E=>qaR (by kernel_rfl) ?_
     exact ⟨rfl,⟨ok,E.keep [2,3],l7,l8⟩⟩
 refine mv E rfl fun a E=>bd hF fun c16 e17 hF=>lv E ok (qbx Tryz.underlying9 rfl rfl e17) fun a E=>lw E (qau rfl rfl) fun a E=>pt E rfl rfl fun a E=>pf E rfl rfl fun a E=>aw E rfl fun a E=>cf E rfl hF (fun c18 hF=>?_) fun c18 hF=>?_
 ·refine sg<|lv E ok (qag (cs:=[vb r2.2,vs r5.1,vs r5.2.1]) qaX rfl rfl (qab.own 0 rfl rfl)) fun a E=>qad E ok 1 rfl rfl rfl qbV rfl rfl ⟨rfl,rfl,rfl,trivial⟩ rfl rfl fun w ok=>aw E rfl fun a E=>wp_ret<|qax<|qal ?_
  exact fin hF ⟨m0,[vb r2.2,vs r5.1,vs r5.2.1],le_m0,ok.drop.drop,E.d,⟨rv_c (cs:=[vb r2.2,vs r5.1,vs r5.2.1]) E ok rfl qaX rfl (qab.own 1 rfl rfl),rv_t E rfl,trivial⟩,⟨rfl,l7,l8⟩⟩
 refine sg<|mz E rfl rfl fun a E=>qbN r5.2.2 (fun c19=>?_) (fun c19=>?_)
 rotate_left
 ·as_aux_lemma =>
   have hF:=qbI c19 hF
   have E:=E.upd 52 c19 rfl
   refine lsq E fun a E=>ls E fun a E=>pf E rfl rfl fun a E=>mz E rfl rfl fun a E=>lw E (qa7 Tryz.underlying9 rfl) fun a E=>lw E (qbp rfl rfl) fun a E=>pf E rfl rfl fun a E=>mv E rfl fun a E=>bu E 62 hF (fun c33 hF E=>?_) fun c33 hF E=>?_
   ·refine lsq E fun a E=>ls E fun a E=>pt E rfl rfl fun a E=>aw E rfl fun a E=>c_if E rfl (fun _=>?_) (fun h=>by cases h)
    refine sg<|lv E ok (qag (cs:=[vb r2.2,vs r5.1,vs r5.2.1]) qaX rfl rfl (qab.own 0 rfl rfl)) fun a E=>qad E ok 1 rfl rfl rfl qbV rfl rfl ⟨rfl,rfl,rfl,trivial⟩ rfl rfl fun w ok=>aw E rfl fun a E=>wp_ret<|qax<|qal ?_
    exact fin hF ⟨m0,[vb r2.2,vs r5.1,vs r5.2.1],le_m0,ok.drop.drop,E.d,⟨rv_c (cs:=[vb r2.2,vs r5.1,vs r5.2.1]) E ok rfl qaX rfl (qab.own 1 rfl rfl),rv_t E rfl,trivial⟩,⟨rfl,l7,l8⟩⟩
   refine mv E rfl fun a E=>bd hF fun r34 e35 hF=>lc E qjW rfl (qeq N r5.2.1 l8 e35 hG ok) fun w ok a E=>lw E (qa2 rfl) fun a E=>pf E rfl rfl fun a E=>aw E rfl fun a E=>cf E rfl hF (fun c36 hF=>?_) fun c36 hF=>?_
   ·refine sg<|lv E ok (qag (cs:=[vb r2.2,vs r5.1,vs r5.2.1]) qaX rfl rfl (qab.own 0 rfl rfl)) fun a E=>qad E ok 1 rfl rfl rfl qbV rfl rfl ⟨rfl,rfl,rfl,trivial⟩ rfl rfl fun w ok=>aw E rfl fun a E=>wp_ret<|qax<|qal ?_
    exact fin hF ⟨m0,[vb r2.2,vs r5.1,vs r5.2.1],le_m0,ok.drop.drop,E.d,⟨rv_c (cs:=[vb r2.2,vs r5.1,vs r5.2.1]) E ok rfl qaX rfl (qab.own 1 rfl rfl),rv_t E rfl,trivial⟩,⟨rfl,l7,l8⟩⟩
   refine wp_skip<|qap<|qaa<|wp_seq<|bd hF fun o37 hJ hF=>qaL (Q':=fun e a w=>e = .normal ∧ Ok u m0 ([(b9,oc 153 [vb r2.2,vs r5.1,vs r5.2.1])] :: [(b1,oc 153 [vb o37.2.negative,vs o37.2.whole,vs o37.2.fraction])] :: S) w ∧ Env 76 a [(2,vp b1),(3,vb o37.1)] ∧ o37.2.whole.length ≤ LIMS ∧ o37.2.fraction.length ≤ LIMS) ?_ ?_
   rotate_left
   ·intro e a w hO
    obtain ⟨rfl,ok,E,l43,l44⟩:=hO
    refine qaa<|wp_ret ?_
    exact fin hF ⟨m0,[vb o37.2.negative,vs o37.2.whole,vs o37.2.fraction],le_m0,ok.drop.drop,E.d,⟨rv_c (cs:=[vb o37.2.negative,vs o37.2.whole,vs o37.2.fraction]) E ok rfl qaX rfl (qab.own 1 rfl rfl),rv_t E rfl,trivial⟩,⟨rfl,l43,l44⟩⟩
   have hF:=hJ
   refine qbN (!r2.2) (fun c40=>?_) (fun c40=>?_)
   ·have hF:=qbK c40 hF
    cases hF
    refine qaS [0] (Cls u m0 ([(b9,oc 153 [vb r2.2,vs r5.1,vs r5.2.1])] :: [(b1,oc 153 [vb false,(vs ([])),(vs ([]))])] :: [])) (Cls u m0 ([(b9,oc 153 [vb r2.2,vs r5.1,vs r5.2.1])] :: [])) (by kernel_rfl) ?_
    intro w hw
    replace ok:=qa6 ok hw
    clear hw
    refine qai (cl1 (cq le_m0 ok [0,1] rfl) (cq le_m0 ok [0] rfl)) fun hT=>qaZ 0 E rfl (by kernel_rfl) nP hT (qag (cs:=[vb r2.2,vs r5.1,vs r5.2.1]) qaX rfl rfl (qab.cown 0 rfl rfl)) rfl rfl fun a E=>kt 1 E rfl hT (qah rfl) fun a E=>kt 2 E rfl hT (qa2 rfl) fun a E=>kt 3 E rfl hT (qah rfl) fun a E=>?_
    have E:=E.upd 71 c40 rfl
    refine qam 4 false E rfl (by kernel_rfl) nP hT rfl rfl fun a E=>qam 5 false E rfl (by kernel_rfl) nP hT rfl rfl fun a E=>qam 6 false E rfl (by kernel_rfl) nP hT rfl rfl fun a E=>kt 7 E rfl hT (qaY rfl rfl) fun a E=>qar [8] (by kernel_rfl) rfl (qat ?_)
    ·refine wo rfl<|qad E ok 1 rfl rfl rfl qbV rfl rfl ⟨rfl,rfl,rfl,trivial⟩ rfl rfl fun w ok=>wn<|qai (cl2 (by kernel_rfl) (cq le_m0 ok [0] rfl)) fun hT=>kt 9 E rfl hT (qbA rfl) fun a E=>qaR (by kernel_rfl) ?_
     exact ⟨rfl,⟨ok,E.keep [2,3],l7,l8⟩⟩
   have hF:=qbI c40 hF
   obtain ⟨r41,e42,hF⟩:=bnd hF
   obtain rfl:=sj hF
   refine qaS [0] (Cls u m0 ([(b9,oc 153 [vb r2.2,vs r5.1,vs r5.2.1])] :: [(b1,oc 153 [vb false,(vs ([])),(vs ([]))])] :: [])) (Cls u m0 ([(b9,oc 153 [vb r2.2,vs r5.1,vs r5.2.1])] :: [])) (by kernel_rfl) ?_
   intro w hw
   replace ok:=qa6 ok hw
   clear hw
   refine qai (cl1 (cq le_m0 ok [0,1] rfl) (cq le_m0 ok [0] rfl)) fun hT=>qaZ 0 E rfl (by kernel_rfl) nP hT (qag (cs:=[vb r2.2,vs r5.1,vs r5.2.1]) qaX rfl rfl (qab.cown 0 rfl rfl)) rfl rfl fun a E=>kt 1 E rfl hT (qah rfl) fun a E=>kt 2 E rfl hT (qa2 rfl) fun a E=>kt 3 E rfl hT (qah rfl) fun a E=>?_
   have E:=E.upd 71 c40 rfl
   refine kt 4 E rfl hT (qag (cs:=[vb r2.2,vs r5.1,vs r5.2.1]) qaX rfl rfl (qab.cown 0 rfl rfl)) fun a E=>qar [5] (by kernel_rfl) rfl (qat ?_)
   ·refine wo rfl<|lc E qlg rfl (qd2 N _ (Number2.mk r2.2 r5.1 r5.2.1) ⟨rfl,l7,l8⟩ e42 hG ok) fun w ok a E=>wn<|qai (cl1 (cq le_m0 ok [0,1] rfl) (cq le_m0 ok [0] rfl)) fun hT=>kt 6 E rfl hT (qa2 rfl) fun a E=>kt 7 E rfl hT (qaT rfl rfl) fun a E=>qar [8] (by kernel_rfl) rfl (qat ?_)
    ·refine wo rfl<|qad E ok 1 rfl rfl rfl qbV rfl rfl ⟨rfl,rfl,rfl,trivial⟩ rfl rfl fun w ok=>wn<|qai (cl2 (by kernel_rfl) (cq le_m0 ok [0] rfl)) fun hT=>kt 9 E rfl hT (qbA rfl) fun a E=>qaR (by kernel_rfl) ?_
     exact ⟨rfl,⟨ok,E.keep [2,3],l7,l8⟩⟩
 have hF:=qbK c19 hF
 have E:=E.upd 52 c19 rfl
 refine mv E rfl fun a E=>lw E (qa7 Tryz.underlying9 rfl) fun a E=>lw E (qau rfl rfl) fun a E=>pt E rfl rfl fun a E=>mv E rfl fun a E=>bu E 57 hF (fun c20 hF E=>?_) fun c20 hF E=>?_
 ·refine lsq E fun a E=>ls E fun a E=>pt E rfl rfl fun a E=>mv E rfl fun a E=>lsq E fun a E=>ls E fun a E=>pt E rfl rfl fun a E=>aw E rfl fun a E=>c_if E rfl (fun _=>?_) (fun h=>by cases h)
  refine sg<|lv E ok (qag (cs:=[vb r2.2,vs r5.1,vs r5.2.1]) qaX rfl rfl (qab.own 0 rfl rfl)) fun a E=>qad E ok 1 rfl rfl rfl qbV rfl rfl ⟨rfl,rfl,rfl,trivial⟩ rfl rfl fun w ok=>aw E rfl fun a E=>wp_ret<|qax<|qal ?_
  exact fin hF ⟨m0,[vb r2.2,vs r5.1,vs r5.2.1],le_m0,ok.drop.drop,E.d,⟨rv_c (cs:=[vb r2.2,vs r5.1,vs r5.2.1]) E ok rfl qaX rfl (qab.own 1 rfl rfl),rv_t E rfl,trivial⟩,⟨rfl,l7,l8⟩⟩
 refine mv E rfl fun a E=>lw E (qa7 Tryz.underlying9 rfl) fun a E=>lw E (qbp rfl rfl) fun a E=>pf E rfl rfl fun a E=>mv E rfl fun a E=>bu E 62 hF (fun c21 hF E=>?_) fun c21 hF E=>?_
 ·refine lsq E fun a E=>ls E fun a E=>pt E rfl rfl fun a E=>aw E rfl fun a E=>c_if E rfl (fun _=>?_) (fun h=>by cases h)
  refine sg<|lv E ok (qag (cs:=[vb r2.2,vs r5.1,vs r5.2.1]) qaX rfl rfl (qab.own 0 rfl rfl)) fun a E=>qad E ok 1 rfl rfl rfl qbV rfl rfl ⟨rfl,rfl,rfl,trivial⟩ rfl rfl fun w ok=>aw E rfl fun a E=>wp_ret<|qax<|qal ?_
  exact fin hF ⟨m0,[vb r2.2,vs r5.1,vs r5.2.1],le_m0,ok.drop.drop,E.d,⟨rv_c (cs:=[vb r2.2,vs r5.1,vs r5.2.1]) E ok rfl qaX rfl (qab.own 1 rfl rfl),rv_t E rfl,trivial⟩,⟨rfl,l7,l8⟩⟩
 refine mv E rfl fun a E=>bd hF fun r22 e23 hF=>lc E qjW rfl (qeq N r5.2.1 l8 e23 hG ok) fun w ok a E=>lw E (qa2 rfl) fun a E=>pf E rfl rfl fun a E=>aw E rfl fun a E=>cf E rfl hF (fun c24 hF=>?_) fun c24 hF=>?_
 ·refine sg<|lv E ok (qag (cs:=[vb r2.2,vs r5.1,vs r5.2.1]) qaX rfl rfl (qab.own 0 rfl rfl)) fun a E=>qad E ok 1 rfl rfl rfl qbV rfl rfl ⟨rfl,rfl,rfl,trivial⟩ rfl rfl fun w ok=>aw E rfl fun a E=>wp_ret<|qax<|qal ?_
  exact fin hF ⟨m0,[vb r2.2,vs r5.1,vs r5.2.1],le_m0,ok.drop.drop,E.d,⟨rv_c (cs:=[vb r2.2,vs r5.1,vs r5.2.1]) E ok rfl qaX rfl (qab.own 1 rfl rfl),rv_t E rfl,trivial⟩,⟨rfl,l7,l8⟩⟩
 refine wp_skip<|qap<|qaa<|wp_seq<|bd hF fun o25 hJ hF=>qaL (Q':=fun e a w=>e = .normal ∧ Ok u m0 ([(b9,oc 153 [vb r2.2,vs r5.1,vs r5.2.1])] :: [(b1,oc 153 [vb o25.2.negative,vs o25.2.whole,vs o25.2.fraction])] :: S) w ∧ Env 76 a [(2,vp b1),(3,vb o25.1)] ∧ o25.2.whole.length ≤ LIMS ∧ o25.2.fraction.length ≤ LIMS) ?_ ?_
 rotate_left
 ·intro e a w hO
  obtain ⟨rfl,ok,E,l31,l32⟩:=hO
  refine qaa<|wp_ret ?_
  exact fin hF ⟨m0,[vb o25.2.negative,vs o25.2.whole,vs o25.2.fraction],le_m0,ok.drop.drop,E.d,⟨rv_c (cs:=[vb o25.2.negative,vs o25.2.whole,vs o25.2.fraction]) E ok rfl qaX rfl (qab.own 1 rfl rfl),rv_t E rfl,trivial⟩,⟨rfl,l31,l32⟩⟩
 have hF:=hJ
 refine qbN (!r2.2) (fun c28=>?_) (fun c28=>?_)
 ·have hF:=qbK c28 hF
  cases hF
  refine qaS [0] (Cls u m0 ([(b9,oc 153 [vb r2.2,vs r5.1,vs r5.2.1])] :: [(b1,oc 153 [vb false,(vs ([])),(vs ([]))])] :: [])) (Cls u m0 ([(b9,oc 153 [vb r2.2,vs r5.1,vs r5.2.1])] :: [])) (by kernel_rfl) ?_
  intro w hw
  replace ok:=qa6 ok hw
  clear hw
  refine qai (cl1 (cq le_m0 ok [0,1] rfl) (cq le_m0 ok [0] rfl)) fun hT=>qaZ 0 E rfl (by kernel_rfl) nP hT (qag (cs:=[vb r2.2,vs r5.1,vs r5.2.1]) qaX rfl rfl (qab.cown 0 rfl rfl)) rfl rfl fun a E=>kt 1 E rfl hT (qah rfl) fun a E=>kt 2 E rfl hT (qa2 rfl) fun a E=>kt 3 E rfl hT (qah rfl) fun a E=>?_
  have E:=E.upd 71 c28 rfl
  refine qam 4 false E rfl (by kernel_rfl) nP hT rfl rfl fun a E=>qam 5 false E rfl (by kernel_rfl) nP hT rfl rfl fun a E=>qam 6 false E rfl (by kernel_rfl) nP hT rfl rfl fun a E=>kt 7 E rfl hT (qaY rfl rfl) fun a E=>qar [8] (by kernel_rfl) rfl (qat ?_)
  ·refine wo rfl<|qad E ok 1 rfl rfl rfl qbV rfl rfl ⟨rfl,rfl,rfl,trivial⟩ rfl rfl fun w ok=>wn<|qai (cl2 (by kernel_rfl) (cq le_m0 ok [0] rfl)) fun hT=>kt 9 E rfl hT (qbA rfl) fun a E=>qaR (by kernel_rfl) ?_
   exact ⟨rfl,⟨ok,E.keep [2,3],l7,l8⟩⟩
 have hF:=qbI c28 hF
 obtain ⟨r29,e30,hF⟩:=bnd hF
 obtain rfl:=sj hF
 refine qaS [0] (Cls u m0 ([(b9,oc 153 [vb r2.2,vs r5.1,vs r5.2.1])] :: [(b1,oc 153 [vb false,(vs ([])),(vs ([]))])] :: [])) (Cls u m0 ([(b9,oc 153 [vb r2.2,vs r5.1,vs r5.2.1])] :: [])) (by kernel_rfl) ?_
 intro w hw
 replace ok:=qa6 ok hw
 clear hw
 refine qai (cl1 (cq le_m0 ok [0,1] rfl) (cq le_m0 ok [0] rfl)) fun hT=>qaZ 0 E rfl (by kernel_rfl) nP hT (qag (cs:=[vb r2.2,vs r5.1,vs r5.2.1]) qaX rfl rfl (qab.cown 0 rfl rfl)) rfl rfl fun a E=>kt 1 E rfl hT (qah rfl) fun a E=>kt 2 E rfl hT (qa2 rfl) fun a E=>kt 3 E rfl hT (qah rfl) fun a E=>?_
 have E:=E.upd 71 c28 rfl
 refine kt 4 E rfl hT (qag (cs:=[vb r2.2,vs r5.1,vs r5.2.1]) qaX rfl rfl (qab.cown 0 rfl rfl)) fun a E=>qar [5] (by kernel_rfl) rfl (qat ?_)
 ·refine wo rfl<|lc E qlg rfl (qd2 N _ (Number2.mk r2.2 r5.1 r5.2.1) ⟨rfl,l7,l8⟩ e30 hG ok) fun w ok a E=>wn<|qai (cl1 (cq le_m0 ok [0,1] rfl) (cq le_m0 ok [0] rfl)) fun hT=>kt 6 E rfl hT (qa2 rfl) fun a E=>kt 7 E rfl hT (qaT rfl rfl) fun a E=>qar [8] (by kernel_rfl) rfl (qat ?_)
  ·refine wo rfl<|qad E ok 1 rfl rfl rfl qbV rfl rfl ⟨rfl,rfl,rfl,trivial⟩ rfl rfl fun w ok=>wn<|qai (cl2 (by kernel_rfl) (cq le_m0 ok [0] rfl)) fun hT=>kt 9 E rfl hT (qbA rfl) fun a E=>qaR (by kernel_rfl) ?_
   exact ⟨rfl,⟨ok,E.keep [2,3],l7,l8⟩⟩
def qlE (u:World) (m0:Mem) (S:Segs) (r:Bool) (a:Act) (w:World):Prop :=
 Ok u m0 S w ∧ a.defers = [] ∧ RVs Tryz.prog a w [.t 2 (.bool r)]
theorem qlr (N:Nat) (s_0:List UInt8) (ls_0:s_0.length ≤ LIMS) {r:Bool} (hF:qfF N s_0 = some r) (hG:Glob u) (ok:Ok u m0 S w) :
  Calls Tryz.prog 66 [vs s_0].toArray w fun e w'=>(e = .returned (.bool r) ∧ Ok u m0 S w'):=by
 have hb0:=ok.base
 have le_m0:=Mem.le.refl m0
 unfold qfF at hF
 refine en (qlE u m0 S) r Tryz.func66 rfl rfl rfl (fun _ _ h=>ra h rfl) fun fin a E=>sg<|aw E rfl fun a E=>sg<|mv E rfl fun a E=>bd hF fun r1 e2 hF=>qan E qoD rfl (qh8 N s_0 ls_0 e2 hG ok) rfl rfl ?_
 rintro _ w ⟨m3,vs4,rfl,hle,ok,h5⟩
 have le_m0:=le_m0.trans hle
 obtain ⟨rfl,l6,l7⟩:=h5
 refine ⟨_,rfl,fun a E=>?_⟩
 refine mv E rfl fun a E=>lw E (qaK rfl rfl) fun a E=>lw E (qaK rfl rfl) fun a E=>qaB E ok qhR rfl rfl fun b8 a w E ok=>qad E ok 0 rfl rfl rfl qbV rfl rfl ⟨rfl,rfl,rfl,trivial⟩ rfl rfl fun w ok=>aw E rfl fun a E=>sg<|mv E rfl fun a E=>aw E rfl fun a E=>wp_ret ?_
 exact fin hF ⟨(ok.drop).down hb0 le_m0,E.d,rz E rfl⟩
theorem qjo {u:World} {m0:Mem} {S:Segs} {w:World} (N:Nat) (p0_0:List UInt8) (lp0_0:p0_0.length ≤ LIMS) (p1_1:List UInt8) (lp1_1:p1_1.length ≤ LIMS) {r:(List UInt8)} (hF:qdu N p0_0 p1_1 = some r) (hG:Glob u) (ok:Ok u m0 S w) :
 Calls Tryz.prog 138 [vs p0_0,vs p1_1].toArray w fun e w'=>(e = .returned (.string (bs r)) ∧ Ok u m0 S w') ∧ r.length ≤ LIMS:=qmG Tryz.lays162 (by kernel_rfl) p0_0 p1_1 hF lp0_0 ok
theorem qmd {u:World} {m0:Mem} {S:Segs} {w:World} (N:Nat) (p0_0:List UInt8) (lp0_0:p0_0.length ≤ LIMS) {r:Int × Unit} (hF:strconv_Atoi N p0_0 = some r) (hG:Glob u) (ok:Ok u m0 S w) :
 Calls Tryz.prog 161 [vs p0_0].toArray w fun e w'=>(e = .returned (.tuple [(.int .i64 r.1),.nilIface].toArray) ∧ Ok u m0 (S) w') ∧ InR .i64 r.1:=qpx Tryz.lays172 p0_0 hF ok
def qls (u:World) (m0:Mem) (S:Segs) (r:Int) (a:Act) (w:World):Prop :=
 Ok u m0 S w ∧ a.defers = [] ∧ RVs Tryz.prog a w [.t 2 (.int .i64 r)] ∧ InR .i64 r
theorem qfP (N:Nat) (s_0:List UInt8) (ls_0:s_0.length ≤ LIMS) {r:Int} (hF:qdw N s_0 = some r) (hG:Glob u) (ok:Ok u m0 S w) :
  Calls Tryz.prog 139 [vs s_0].toArray w fun e w'=>(e = .returned (.int .i64 r) ∧ Ok u m0 S w') ∧ InR .i64 r:=by
 unfold qdw at hF
 refine en (qls u m0 S) r Tryz.func139 rfl rfl rfl (fun _ _ h=>rb h rfl) fun fin a E=>sg<|aw E rfl fun a E=>sg<|mv E rfl fun a E=>bd hF fun s1 e2 hF=>lw E (qdf rfl rfl e2) fun a E=>bd hF fun r3 e4 hF=>qan E qq6 rfl (qmd N s1 (qcg e2) e4 hG ok) rfl rfl ?_
 rintro _ w ⟨⟨rfl,ok⟩,r5⟩
 refine ⟨_,rfl,fun a E=>?_⟩
 refine mv E rfl fun a E=>lw E (qaK rfl rfl) fun a E=>lw E (qaK rfl rfl) fun a E=>av E rfl fun a E=>aw E rfl fun a E=>sg<|mv E rfl fun a E=>aw E rfl fun a E=>wp_ret ?_
 exact fin hF ⟨ok,E.d,rz E rfl,r5⟩
def qkH (u:World) (m0:Mem) (S:Segs) (r:Int × Int) (a:Act) (w:World):Prop :=
 Ok u m0 S w ∧ a.defers = [] ∧ RVs Tryz.prog a w [.t 4 (.int .i64 r.1),.t 5 (.int .i64 r.2)] ∧ InR .i64 r.1 ∧ InR .i64 r.2
theorem qkG (N:Nat) (s_0:List UInt8) (ls_0:s_0.length ≤ LIMS) (operand_1:Int) (roperand_1:InR .i64 operand_1) {r:Int × Int} (hF:qeV N s_0 operand_1 = some r) (hG:Glob u) (ok:Ok u m0 S w) :
  Calls Tryz.prog 107 [vs s_0,vi operand_1].toArray w fun e w'=>(e = .returned (.tuple [(.int .i64 r.1),(.int .i64 r.2)].toArray) ∧ Ok u m0 S w') ∧ InR .i64 r.1 ∧ InR .i64 r.2:=by
 have hb0:=ok.base
 have le_m0:=Mem.le.refl m0
 unfold qeV at hF
 refine en (qkH u m0 S) r Tryz.func107 rfl rfl rfl (by rintro a w ⟨ok,hd,hrv,h0,h1⟩; exact qbS [.t 4 (.int .i64 r.1),.t 5 (.int .i64 r.2)] hd rfl hrv ⟨⟨rfl,ok⟩,h0,h1⟩) fun fin a E=>sg<|av E rfl fun a E=>aw E rfl fun a E=>sg<|mv E rfl fun a E=>bd hF fun r1 e2 hF=>qan E qoD rfl (qh8 N s_0 ls_0 e2 hG ok) rfl rfl ?_
 rintro _ w ⟨m3,vs4,rfl,hle,ok,h5⟩
 have le_m0:=le_m0.trans hle
 obtain ⟨rfl,l6,l7⟩:=h5
 refine ⟨_,rfl,fun a E=>?_⟩
 refine mv E rfl fun a E=>lw E (qaK rfl rfl) fun a E=>lw E (qaK rfl rfl) fun a E=>qaB E ok qhR rfl rfl fun b8 a w E ok=>qad E ok 0 rfl rfl rfl qbV rfl rfl ⟨rfl,rfl,rfl,trivial⟩ rfl rfl fun w ok=>aw E rfl fun a E=>wp_seq<|sg<|mv E rfl fun a E=>lw E (qa2 rfl) fun a E=>wn<|cf E rfl hF (fun c9 hF=>?_) fun c9 hF=>?_
 ·refine sg<|av E rfl fun a E=>aw E rfl fun a E=>wp_ret<|qal ?_
  exact fin hF ⟨(ok.drop).down hb0 le_m0,E.d,⟨rv_t E rfl,rv_t E rfl,trivial⟩,(ir 0),(ir 1)⟩
 refine wp_skip<|qaa<|sg<|fk E ok qi1 qbg rfl 0 rfl rfl fun a E=>bd hF fun r10 e11 hF=>qan E qre rfl (qjo N r1.1.fraction l7 ([48]) (show ([48]:List UInt8).length ≤ LIMS by decide) e11 hG ok) rfl rfl ?_
 rintro _ w ⟨⟨rfl,ok⟩,l12⟩
 refine ⟨_,rfl,fun a E=>?_⟩
 refine aw E rfl fun a E=>wp_seq<|sg<|mv E rfl fun a E=>wn<|wp_block<|sg<|lw E (qau rfl rfl) fun a E=>aw E rfl fun a E=>cf E rfl hF (fun c13 hF=>?_) fun c13 hF=>?_
 ·refine wp_seq<|sg<|mv E rfl fun a E=>lw E (qoN rfl rfl) fun a E=>wn<|cf E rfl hF (fun c14 hF=>?_) fun c14 hF=>?_
  ·refine sg<|av E rfl fun a E=>aw E rfl fun a E=>wp_ret<|qal<|qax<|qal ?_
   exact fin hF ⟨(ok.drop).down hb0 le_m0,E.d,⟨rv_t E rfl,rv_t E rfl,trivial⟩,(ir 0),(ir 8)⟩
  refine wp_skip<|qaa<|sg<|fk E ok qld qbg rfl 0 rfl rfl fun a E=>bd hF fun r15 e16 hF=>qan E qln rfl (qfP N r1.1.whole l6 e16 hG ok) rfl rfl ?_
  rintro _ w ⟨⟨rfl,ok⟩,r17⟩
  refine ⟨_,rfl,fun a E=>?_⟩
  refine av E rfl fun a E=>aw E rfl fun a E=>wp_ret<|qax<|qal ?_
  exact fin hF ⟨(ok.drop).down hb0 le_m0,E.d,⟨rv_t E rfl,rv_t E rfl,trivial⟩,r17,(ir 0)⟩
 refine sg<|lw E (qau rfl rfl) fun a E=>aw E rfl fun a E=>cf E rfl hF (fun c18 hF=>?_) fun c18 hF=>?_
 ·refine sg<|fk E ok qld qbg rfl 0 rfl rfl fun a E=>bd hF fun r19 e20 hF=>qan E qln rfl (qfP N r1.1.whole l6 e20 hG ok) rfl rfl ?_
  rintro _ w ⟨⟨rfl,ok⟩,r21⟩
  refine ⟨_,rfl,fun a E=>?_⟩
  refine av E rfl fun a E=>aw E rfl fun a E=>wp_ret<|qax<|qal ?_
  exact fin hF ⟨(ok.drop).down hb0 le_m0,E.d,⟨rv_t E rfl,rv_t E rfl,trivial⟩,r21,(ir 0)⟩
 refine sg<|lw E (qau rfl rfl) fun a E=>aw E rfl fun a E=>cf E rfl hF (fun c22 hF=>?_) fun c22 hF=>?_
 ·refine sg<|fk E ok qi1 qbg rfl 0 rfl rfl fun a E=>lw E (qa7 Tryz.underlying9 rfl) fun a E=>av E rfl fun a E=>av E rfl fun a E=>wn<|wp_ret<|qax<|qal ?_
  exact fin hF ⟨(ok.drop).down hb0 le_m0,E.d,⟨rv_t E rfl,rv_t E rfl,trivial⟩,(InR.len l7),(ir 0)⟩
 refine sg<|lw E (qau rfl rfl) fun a E=>aw E rfl fun a E=>cf E rfl hF (fun c23 hF=>?_) fun c23 hF=>?_
 ·refine sg<|mv E rfl fun a E=>lw E (qa7 Tryz.underlying9 rfl) fun a E=>av E rfl fun a E=>aw E rfl fun a E=>wp_ret<|qax<|qal ?_
  exact fin hF ⟨(ok.drop).down hb0 le_m0,E.d,⟨rv_t E rfl,rv_t E rfl,trivial⟩,(InR.len l12),(ir 0)⟩
 refine sg<|lw E (qau rfl rfl) fun a E=>aw E rfl fun a E=>cf E rfl hF (fun c24 hF=>?_) fun c24 hF=>?_
 ·refine sg<|fk E ok qi1 qbg rfl 0 rfl rfl fun a E=>bd hF fun r25 e26 hF=>qan E qln rfl (qfP N r1.1.fraction l7 e26 hG ok) rfl rfl ?_
  rintro _ w ⟨⟨rfl,ok⟩,r27⟩
  refine ⟨_,rfl,fun a E=>?_⟩
  refine av E rfl fun a E=>aw E rfl fun a E=>wp_ret<|qax<|qal ?_
  exact fin hF ⟨(ok.drop).down hb0 le_m0,E.d,⟨rv_t E rfl,rv_t E rfl,trivial⟩,r27,(ir 0)⟩
 refine sg<|lw E (qau rfl rfl) fun a E=>aw E rfl fun a E=>cg E rfl hF (fun c28 hF=>?_) fun c28 hF=>?_
 ·refine wp_skip<|qap<|qaa<|sg<|av E rfl fun a E=>av E rfl fun a E=>wn<|wp_ret ?_
  exact fin hF ⟨(ok.drop).down hb0 le_m0,E.d,⟨rv_t E rfl,rv_t E rfl,trivial⟩,(ir 0),(ir 1)⟩
 refine sg<|mv E rfl fun a E=>bd hF fun r29 e30 hF=>qan E qln rfl (qfP N r10 l12 e30 hG ok) rfl rfl ?_
 rintro _ w ⟨⟨rfl,ok⟩,r31⟩
 refine ⟨_,rfl,fun a E=>?_⟩
 refine av E rfl fun a E=>aw E rfl fun a E=>wp_ret<|qax<|qal ?_
 exact fin hF ⟨(ok.drop).down hb0 le_m0,E.d,⟨rv_t E rfl,rv_t E rfl,trivial⟩,r31,(ir 0)⟩
def qk7 (u:World) (m0:Mem) (S:Segs) (pb0:Nat) (x0:Int) (r:Bool) (a:Act) (w:World):Prop :=
 Ok u m0 ([(pb0,oc 3 [vi x0])] :: S) w ∧ a.defers = [] ∧ RVs Tryz.prog a w [.t 3 (.bool r)]
theorem qkQ (N:Nat) (vs_0:List Value) (s_0:Span) (hs_0:qcA m0 vs_0 s_0) {pb0:Nat} (x0:Int) (r3:InR .i64 x0) {r:Bool} (hF:qgb N s_0 x0 = some r) (hG:Glob u) (ok:Ok u m0 ([(pb0,oc 3 [vi x0])] :: S) w) :
  Calls Tryz.prog 141 [.agg vs_0.toArray,vp pb0].toArray w fun e w'=>(e = .returned (.bool r) ∧ Ok u m0 ([(pb0,oc 3 [vi x0])] :: S) w'):=by
 obtain ⟨rfl,r1,r2⟩:=hs_0
 unfold qgb at hF
 refine en (qk7 u m0 S pb0 x0) r Tryz.func141 rfl rfl rfl (fun _ _ h=>ra h rfl) fun fin a E=>sg<|qb8 E ok rfl rfl rfl fun b4 a w E ok=>aw E rfl fun a E=>sg<|ld E ok qaq 1 rfl rfl rfl fun a E=>fk E ok qd6 qaq rfl 0 rfl rfl fun a E=>lw E (qgd rfl rfl) fun a E=>mv E rfl fun a E=>bu E 8 hF (fun c5 hF E=>?_) fun c5 hF E=>?_
 ·refine ld E ok qaq 1 rfl rfl rfl fun a E=>fk E ok qc6 qaq rfl 0 rfl rfl fun a E=>lw E (qf7 rfl rfl) fun a E=>pt E rfl rfl fun a E=>aw E rfl fun a E=>wp_ret ?_
  exact fin hF ⟨ok.drop,E.d,rz E rfl⟩
 refine lsz E fun a E=>pf E rfl rfl fun a E=>aw E rfl fun a E=>wp_ret ?_
 exact fin hF ⟨ok.drop,E.d,rz E rfl⟩
def qdh (u:World) (m0:Mem) (S:Segs) (pb0:Nat) (x0:Int) (r:Int) (a:Act) (w:World):Prop :=
 Ok u m0 ([(pb0,oc 3 [vi x0])] :: S) w ∧ a.defers = [] ∧ RVs Tryz.prog a w [.t 4 (.int .i64 r)] ∧ InR .i64 r
theorem qfo (N:Nat) (vs_0:Value) (s_0:List (Span)) (hs_0:(pL 2 qcA) m0 [vs_0] s_0) {pb0:Nat} (x0:Int) (r1:InR .i64 x0) {r:Int} (hF:qbM N s_0 x0 = some r) (hG:Glob u) (ok:Ok u m0 ([(pb0,oc 3 [vi x0])] :: S) w) :
  Calls Tryz.prog 162 [vs_0,Value.func (.func 141) #[] #[.pointer (some ⟨pb0,0,none⟩)]].toArray w fun e w'=>(e = .returned (.int .i64 r) ∧ Ok u m0 ([(pb0,oc 3 [vi x0])] :: S) w') ∧ InR .i64 r:=by
 unfold qbM at hF
 refine en (qdh u m0 S pb0 x0) r Tryz.func162 rfl rfl rfl (fun _ _ h=>rb h rfl) fun fin a E=>sg<|aw E rfl fun a E=>wp_seq<|sg<|mv E rfl fun a E=>lv E ok (qaD qbz hs_0 rfl) fun a E=>mv E rfl fun a E=>wn<|wp_block<|bd hF fun o3 hL hF=>qaF _ (fun (s:Int) a w=>Ok u m0 ([(pb0,oc 3 [vi x0])] :: S) w ∧ Env 19 a [(0,vs_0),(1,(Value.func (.func 141) #[] #[.pointer (some ⟨pb0,0,none⟩)])),(7,(vi (s_0.length:Int))),(8,vi s)] ∧ InR .i64 s) (fun (b:(Unit ⊕ Int)) e a w=>(Sum.elim (fun b22=>e = (.exit 0) ∧ Ok u m0 ([(pb0,oc 3 [vi x0])] :: S) w ∧ Env 19 a []) (fun b23=>e = .ret ∧ qdh u m0 S pb0 x0 b23 a w)) b) ?_ ?_ N _ a w hL ⟨ok,E.keep [0,1,7,8],(ir 0)⟩
 rotate_left
 ·intro e a w _ hO
  rcases o3 with o3 | o3
  rotate_left
  ·obtain ⟨rfl,hret⟩:=hO
   refine qax<|qal ?_
   exact fin hF hret
  have hF:=qbT hF
  obtain ⟨rfl,ok,E⟩:=hO
  refine qaN<|qaa<|sg<|aw E rfl fun a E=>wp_ret ?_
  exact fin hF ⟨ok,E.d,rz E rfl,(ir (-1))⟩
 rintro v5 a w r ⟨ok,E,r6⟩ hF
 replace hF:qbe N s_0 x0 v5 = some r:=hF
 unfold qbe at hF
 refine sg<|lw E (qay rfl rfl) fun a E=>wn<|wp_seq<|cg E rfl hF (fun c7 hF=>?_) fun c7 hF=>?_
 ·refine wp_exit<|qaA ?_
  cases hF
  exact so (sl ⟨rfl,⟨ok,E.keep []⟩⟩)
 refine wp_skip<|qaa<|wp_seq<|wp_block<|sg<|mv E rfl fun a E=>av E rfl fun a E=>wn<|sg<|mz E rfl rfl fun a E=>mv E rfl fun a E=>?_
 obtain ⟨x8,e9,hF⟩:=bnd hF
 obtain ⟨b10,o11,es12,hl13,rr14,at15,yy16⟩:=ia E 12 13 qbz hs_0 e9
 obtain ⟨rfl,r17,r18⟩:=rr14
 refine lv E ok (yy16 _ _) fun a E=>lv E ok (qag (cs:=[vi x8.From,vi x8.To]) qdJ rfl rfl (qab.ro at15)) fun a E=>bd hF fun r19 e20 hF=>qeP E rfl qrs rfl (qkQ N _ x8 ⟨rfl,r17,r18⟩ x0 r1 e20 hG ok) rfl rfl ?_
 rintro _ w ⟨rfl,ok⟩
 refine ⟨_,rfl,fun a E=>?_⟩
 refine wn<|cg E rfl hF (fun c21 hF=>?_) fun c21 hF=>?_
 ·refine wp_skip<|qap<|qaa<|qac<|lw E (qaE rfl rfl (InR.inc r6 (qao hs_0) c7)) fun a E=>mv E rfl fun a E=>wpList_nil ?_
  cases hF
  exact qas ⟨ok,E.keep [0,1,7,8],(InR.inc r6 (qao hs_0) c7)⟩
 refine sg<|mv E rfl fun a E=>aw E rfl fun a E=>wp_ret<|qax<|qal ?_
 cases hF
 exact so (sr ⟨rfl,⟨ok,E.d,rz E rfl,r6⟩⟩)
def qe9 (u:World) (m0:Mem) (S:Segs) (pb0:Nat) (x0:Int) (r:Bool) (a:Act) (w:World):Prop :=
 Ok u m0 ([(pb0,oc 3 [vi x0])] :: S) w ∧ a.defers = [] ∧ RVs Tryz.prog a w [.t 4 (.bool r)]
theorem qfc (N:Nat) (vs_0:Value) (s_0:List (Span)) (hs_0:(pL 2 qcA) m0 [vs_0] s_0) {pb0:Nat} (x0:Int) (r1:InR .i64 x0) {r:Bool} (hF:qby N s_0 x0 = some r) (hG:Glob u) (ok:Ok u m0 ([(pb0,oc 3 [vi x0])] :: S) w) :
  Calls Tryz.prog 140 [vs_0,Value.func (.func 141) #[] #[.pointer (some ⟨pb0,0,none⟩)]].toArray w fun e w'=>(e = .returned (.bool r) ∧ Ok u m0 ([(pb0,oc 3 [vi x0])] :: S) w'):=by
 unfold qby at hF
 refine en (qe9 u m0 S pb0 x0) r Tryz.func140 rfl rfl rfl (fun _ _ h=>ra h rfl) fun fin a E=>sg<|aw E rfl fun a E=>sg<|mz E rfl rfl fun a E=>bd hF fun r2 e3 hF=>qan E qq7 rfl (qfo N _ s_0 hs_0 x0 r1 e3 hG ok) rfl rfl ?_
 rintro _ w ⟨⟨rfl,ok⟩,r4⟩
 refine ⟨_,rfl,fun a E=>?_⟩
 refine lw E (qgd rfl rfl) fun a E=>aw E rfl fun a E=>wp_ret ?_
 exact fin hF ⟨ok,E.d,rz E rfl⟩
def ql2 (u:World) (m0:Mem) (S:Segs) (r:Bool) (a:Act) (w:World):Prop :=
 Ok u m0 S w ∧ a.defers = [] ∧ RVs Tryz.prog a w [.t 4 (.bool r)]
theorem qmb (N:Nat) (vl_0:Value) (l_0:List (Span)) (hl_0:(pL 2 qcA) m0 [vl_0] l_0) (n_1:Int) (rn_1:InR .i64 n_1) {r:Bool} (hF:qf2 N l_0 n_1 = some r) (hG:Glob u) (ok:Ok u m0 S w) :
  Calls Tryz.prog 108 [vl_0,vi n_1].toArray w fun e w'=>(e = .returned (.bool r) ∧ Ok u m0 S w'):=by
 unfold qf2 at hF
 refine en (ql2 u m0 S) r Tryz.func108 rfl rfl rfl (fun _ _ h=>ra h rfl) fun fin a E=>sg<|qb8 E ok rfl rfl rfl fun b1 a w E ok=>aw E rfl fun a E=>sg<|mv E rfl fun a E=>lv E ok (qcI (caps:=[.tmp 3]) rfl) fun a E=>bd hF fun r2 e3 hF=>lc E qrz rfl (qfc N _ l_0 hl_0 n_1 rn_1 e3 hG ok) fun w ok a E=>aw E rfl fun a E=>wp_ret ?_
 exact fin hF ⟨ok.drop,E.d,rz E rfl⟩
def qkJ (u:World) (m0:Mem) (S:Segs) (r:Bool) (a:Act) (w:World):Prop :=
 Ok u m0 S w ∧ a.defers = [] ∧ RVs Tryz.prog a w [.t 4 (.bool r)]
theorem qkw (N:Nat) (vr_0:List Value) (r_0:Relation) (hr_0:qak m0 vr_0 r_0) (number_1:List UInt8) (lnumber_1:number_1.length ≤ LIMS) {r:Bool} (hF:qeX N r_0 number_1 = some r) (hG:Glob u) (ok:Ok u m0 S w) :
  Calls Tryz.prog 71 [.agg vr_0.toArray,vs number_1].toArray w fun e w'=>(e = .returned (.bool r) ∧ Ok u m0 S w'):=by
 obtain ⟨c3,rfl,r1,r2,h4⟩:=hr_0
 unfold qeX at hF
 refine en (qkJ u m0 S) r Tryz.func71 rfl rfl rfl (fun _ _ h=>ra h rfl) fun fin a E=>sg<|qb8 E ok rfl rfl rfl fun b5 a w E ok=>aw E rfl fun a E=>sg<|mv E rfl fun a E=>fk E ok qa1 qaq rfl 0 rfl rfl fun a E=>bd hF fun r6 e7 hF=>qan E qqN rfl (qkG N number_1 lnumber_1 r_0.Operand r1 e7 hG ok) rfl rfl ?_
 rintro _ w ⟨⟨rfl,ok⟩,r8,r9⟩
 refine ⟨_,rfl,fun a E=>?_⟩
 refine mv E rfl fun a E=>lw E (qaK rfl rfl) fun a E=>lw E (qaK rfl rfl) fun a E=>av E rfl fun a E=>aw E rfl fun a E=>wp_seq<|sg<|mv E rfl fun a E=>lw E (qdp rfl rfl) fun a E=>wn<|cf E rfl hF (fun c10 hF=>?_) fun c10 hF=>?_
 ·refine sg<|fk E ok qfI qdx rfl 0 rfl rfl fun a E=>aw E rfl fun a E=>wp_ret<|qal ?_
  exact fin hF ⟨ok.drop,E.d,rz E rfl⟩
 refine wp_skip<|qaa<|wp_seq<|sg<|fk E ok qcZ qaq rfl 0 rfl rfl fun a E=>lw E (qdp rfl rfl) fun a E=>wn<|bd hF fun o11 hJ hF=>qaL (Q':=fun e a w=>e = .normal ∧ Ok u m0 ([(b5,oc 69 [vi r_0.Operand,vi r_0.Mod,vb r_0.Not,c3])] :: S) w ∧ Env 32 a [(2,vp b5),(5,vi o11)] ∧ InR .i64 o11) ?_ ?_
 ·have hF:=hJ
  refine cg E rfl hF (fun c13 hF=>?_) fun c13 hF=>?_
  ·refine wp_skip ?_
   cases hF
   exact ⟨rfl,⟨ok,E.keep [2,5],r8⟩⟩
  refine qac<|mv E rfl fun a E=>fk E ok qcZ qaq rfl 0 rfl rfl fun a E=>bd hF fun q14 e15 hF=>lw E (y_rm rfl rfl e15) fun a E=>av E rfl fun a E=>wpList_nil ?_
  cases hF
  exact ⟨rfl,⟨ok,E.keep [2,5],(qke e15 r8)⟩⟩
 intro e a w hO
 obtain ⟨rfl,ok,E,r16⟩:=hO
 refine qaa<|wp_seq<|qeU (by kernel_rfl) (by kernel_rfl) ok<|qv E (qae qbf rfl) fun a E=>qv E (qaj qbO rfl (qab.own 0 rfl rfl)) fun a E=>qv E (qah rfl) fun a E=>bd hF fun r17 e18 hF=>qfT E qrB rfl (fun w ok=>(qmb N _ r_0.Spans h4 o11 r16 e18 hG ok).mono (fun _ _ h=>h)) rfl rfl fun a E=>qv E (qae qfI rfl) fun a E=>qv E (qaj qdx rfl (qab.own 0 rfl rfl)) fun a E=>qv E (qoL Tryz.underlying4 rfl rfl) fun a E=>qv E (qbA rfl) fun a E=>wpQuiet_nil ?_
 intro w ok
 refine qaa<|wp_ret ?_
 exact fin hF ⟨ok.drop,E.d,rz E rfl⟩
def qiu (u:World) (m0:Mem) (S:Segs) (pb0:Nat) (x0:List UInt8) (r:Bool) (a:Act) (w:World):Prop :=
 Ok u m0 ([(pb0,oc 9 [vs x0])] :: S) w ∧ a.defers = [] ∧ RVs Tryz.prog a w [.t 3 (.bool r)]
theorem qiq (N:Nat) (vr_0:List Value) (r_0:Relation) (hr_0:qak m0 vr_0 r_0) {pb0:Nat} (x0:List UInt8) (l5:x0.length ≤ LIMS) {r:Bool} (hF:qeI N r_0 x0 = some r) (hG:Glob u) (ok:Ok u m0 ([(pb0,oc 9 [vs x0])] :: S) w) :
  Calls Tryz.prog 70 [.agg vr_0.toArray,vp pb0].toArray w fun e w'=>(e = .returned (.bool r) ∧ Ok u m0 ([(pb0,oc 9 [vs x0])] :: S) w'):=by
 obtain ⟨c3,rfl,r1,r2,h4⟩:=hr_0
 unfold qeI at hF
 refine en (qiu u m0 S pb0 x0) r Tryz.func70 rfl rfl rfl (fun _ _ h=>ra h rfl) fun fin a E=>sg<|qb8 E ok rfl rfl rfl fun b6 a w E ok=>aw E rfl fun a E=>sg<|lv E ok (qag (cs:=[vi r_0.Operand,vi r_0.Mod,vb r_0.Not,c3]) qbr rfl rfl (qab.own 0 rfl rfl)) fun a E=>ld E ok qbg 1 rfl rfl rfl fun a E=>bd hF fun r7 e8 hF=>lc E qrY rfl (qkw N _ r_0 ⟨_,rfl,r1,r2,h4⟩ x0 l5 e8 hG ok) fun w ok a E=>lw E (qa2 rfl) fun a E=>aw E rfl fun a E=>wp_ret ?_
 exact fin hF ⟨ok.drop,E.d,rz E rfl⟩
def qcC (u:World) (m0:Mem) (S:Segs) (pb0:Nat) (x0:List UInt8) (r:Int) (a:Act) (w:World):Prop :=
 Ok u m0 ([(pb0,oc 9 [vs x0])] :: S) w ∧ a.defers = [] ∧ RVs Tryz.prog a w [.t 4 (.int .i64 r)] ∧ InR .i64 r
theorem qew (N:Nat) (vs_0:Value) (s_0:List (Relation)) (hs_0:(pL 4 qak) m0 [vs_0] s_0) {pb0:Nat} (x0:List UInt8) (l1:x0.length ≤ LIMS) {r:Int} (hF:qbo N s_0 x0 = some r) (hG:Glob u) (ok:Ok u m0 ([(pb0,oc 9 [vs x0])] :: S) w) :
  Calls Tryz.prog 106 [vs_0,Value.func (.func 70) #[] #[.pointer (some ⟨pb0,0,none⟩)]].toArray w fun e w'=>(e = .returned (.int .i64 r) ∧ Ok u m0 ([(pb0,oc 9 [vs x0])] :: S) w') ∧ InR .i64 r:=by
 unfold qbo at hF
 refine en (qcC u m0 S pb0 x0) r Tryz.func106 rfl rfl rfl (fun _ _ h=>rb h rfl) fun fin a E=>sg<|aw E rfl fun a E=>wp_seq<|sg<|mv E rfl fun a E=>lv E ok (qaD qbk hs_0 rfl) fun a E=>mv E rfl fun a E=>wn<|wp_block<|bd hF fun o3 hL hF=>qaF _ (fun (s:Int) a w=>Ok u m0 ([(pb0,oc 9 [vs x0])] :: S) w ∧ Env 19 a [(0,vs_0),(1,(Value.func (.func 70) #[] #[.pointer (some ⟨pb0,0,none⟩)])),(7,(vi (s_0.length:Int))),(8,vi s)] ∧ InR .i64 s) (fun (b:(Unit ⊕ Int)) e a w=>(Sum.elim (fun b24=>e = (.exit 0) ∧ Ok u m0 ([(pb0,oc 9 [vs x0])] :: S) w ∧ Env 19 a []) (fun b25=>e = .ret ∧ qcC u m0 S pb0 x0 b25 a w)) b) ?_ ?_ N _ a w hL ⟨ok,E.keep [0,1,7,8],(ir 0)⟩
 rotate_left
 ·intro e a w _ hO
  rcases o3 with o3 | o3
  rotate_left
  ·obtain ⟨rfl,hret⟩:=hO
   refine qax<|qal ?_
   exact fin hF hret
  have hF:=qbT hF
  obtain ⟨rfl,ok,E⟩:=hO
  refine qaN<|qaa<|sg<|aw E rfl fun a E=>wp_ret ?_
  exact fin hF ⟨ok,E.d,rz E rfl,(ir (-1))⟩
 rintro v5 a w r ⟨ok,E,r6⟩ hF
 replace hF:qa5 N s_0 x0 v5 = some r:=hF
 unfold qa5 at hF
 refine sg<|lw E (qay rfl rfl) fun a E=>wn<|wp_seq<|cg E rfl hF (fun c7 hF=>?_) fun c7 hF=>?_
 ·refine wp_exit<|qaA ?_
  cases hF
  exact so (sl ⟨rfl,⟨ok,E.keep []⟩⟩)
 refine wp_skip<|qaa<|wp_seq<|wp_block<|sg<|mv E rfl fun a E=>av E rfl fun a E=>wn<|sg<|mz E rfl rfl fun a E=>mv E rfl fun a E=>?_
 obtain ⟨x8,e9,hF⟩:=bnd hF
 obtain ⟨b10,o11,es12,hl13,rr14,at15,yy16⟩:=ia E 12 13 qbk hs_0 e9
 obtain ⟨c19,rfl,r17,r18,h20⟩:=rr14
 refine lv E ok (yy16 _ _) fun a E=>lv E ok (qag (cs:=[vi x8.Operand,vi x8.Mod,vb x8.Not,c19]) qbr rfl rfl (qab.ro at15)) fun a E=>bd hF fun r21 e22 hF=>qeP E rfl qrR rfl (qiq N _ x8 ⟨_,rfl,r17,r18,h20⟩ x0 l1 e22 hG ok) rfl rfl ?_
 rintro _ w ⟨rfl,ok⟩
 refine ⟨_,rfl,fun a E=>?_⟩
 refine wn<|cg E rfl hF (fun c23 hF=>?_) fun c23 hF=>?_
 ·refine wp_skip<|qap<|qaa<|qac<|lw E (qaE rfl rfl (InR.inc r6 (qao hs_0) c7)) fun a E=>mv E rfl fun a E=>wpList_nil ?_
  cases hF
  exact qas ⟨ok,E.keep [0,1,7,8],(InR.inc r6 (qao hs_0) c7)⟩
 refine sg<|mv E rfl fun a E=>aw E rfl fun a E=>wp_ret<|qax<|qal ?_
 cases hF
 exact so (sr ⟨rfl,⟨ok,E.d,rz E rfl,r6⟩⟩)
def qec (u:World) (m0:Mem) (S:Segs) (pb0:Nat) (x0:List UInt8) (r:Bool) (a:Act) (w:World):Prop :=
 Ok u m0 ([(pb0,oc 9 [vs x0])] :: S) w ∧ a.defers = [] ∧ RVs Tryz.prog a w [.t 4 (.bool r)]
theorem qd7 (N:Nat) (vs_0:Value) (s_0:List (Relation)) (hs_0:(pL 4 qak) m0 [vs_0] s_0) {pb0:Nat} (x0:List UInt8) (l1:x0.length ≤ LIMS) {r:Bool} (hF:qbi N s_0 x0 = some r) (hG:Glob u) (ok:Ok u m0 ([(pb0,oc 9 [vs x0])] :: S) w) :
  Calls Tryz.prog 69 [vs_0,Value.func (.func 70) #[] #[.pointer (some ⟨pb0,0,none⟩)]].toArray w fun e w'=>(e = .returned (.bool r) ∧ Ok u m0 ([(pb0,oc 9 [vs x0])] :: S) w'):=by
 unfold qbi at hF
 refine en (qec u m0 S pb0 x0) r Tryz.func69 rfl rfl rfl (fun _ _ h=>ra h rfl) fun fin a E=>sg<|aw E rfl fun a E=>sg<|mz E rfl rfl fun a E=>bd hF fun r2 e3 hF=>qan E qo3 rfl (qew N _ s_0 hs_0 x0 l1 e3 hG ok) rfl rfl ?_
 rintro _ w ⟨⟨rfl,ok⟩,r4⟩
 refine ⟨_,rfl,fun a E=>?_⟩
 refine lw E (qgd rfl rfl) fun a E=>aw E rfl fun a E=>wp_ret ?_
 exact fin hF ⟨ok,E.d,rz E rfl⟩
def qjA (u:World) (m0:Mem) (S:Segs) (pb0:Nat) (x0:List UInt8) (r:Bool) (a:Act) (w:World):Prop :=
 Ok u m0 ([(pb0,oc 9 [vs x0])] :: S) w ∧ a.defers = [] ∧ RVs Tryz.prog a w [.t 3 (.bool r)]
theorem qjr (N:Nat) (vlist_0:Value) (list_0:List (Relation)) (hlist_0:(pL 4 qak) m0 [vlist_0] list_0) {pb0:Nat} (x0:List UInt8) (l1:x0.length ≤ LIMS) {r:Bool} (hF:qff N list_0 x0 = some r) (hG:Glob u) (ok:Ok u m0 ([(pb0,oc 9 [vs x0])] :: S) w) :
  Calls Tryz.prog 68 [vlist_0,vp pb0].toArray w fun e w'=>(e = .returned (.bool r) ∧ Ok u m0 ([(pb0,oc 9 [vs x0])] :: S) w'):=by
 unfold qff at hF
 refine en (qjA u m0 S pb0 x0) r Tryz.func68 rfl rfl rfl (fun _ _ h=>ra h rfl) fun fin a E=>sg<|aw E rfl fun a E=>sg<|mv E rfl fun a E=>lv E ok (qcI (caps:=[.tmp 1]) rfl) fun a E=>bd hF fun r2 e3 hF=>lc E qpM rfl (qd7 N _ list_0 hlist_0 x0 l1 e3 hG ok) fun w ok a E=>lw E (qa2 rfl) fun a E=>aw E rfl fun a E=>wp_ret ?_
 exact fin hF ⟨ok,E.d,rz E rfl⟩
def qc0 (u:World) (m0:Mem) (S:Segs) (pb0:Nat) (x0:List UInt8) (r:Int) (a:Act) (w:World):Prop :=
 Ok u m0 ([(pb0,oc 9 [vs x0])] :: S) w ∧ a.defers = [] ∧ RVs Tryz.prog a w [.t 4 (.int .i64 r)] ∧ InR .i64 r
theorem qe5 (N:Nat) (vs_0:Value) (s_0:List (List (Relation))) (hs_0:(pL 1 (pL 4 qak)) m0 [vs_0] s_0) {pb0:Nat} (x0:List UInt8) (l1:x0.length ≤ LIMS) {r:Int} (hF:qbw N s_0 x0 = some r) (hG:Glob u) (ok:Ok u m0 ([(pb0,oc 9 [vs x0])] :: S) w) :
  Calls Tryz.prog 105 [vs_0,Value.func (.func 68) #[] #[.pointer (some ⟨pb0,0,none⟩)]].toArray w fun e w'=>(e = .returned (.int .i64 r) ∧ Ok u m0 ([(pb0,oc 9 [vs x0])] :: S) w') ∧ InR .i64 r:=by
 unfold qbw at hF
 refine en (qc0 u m0 S pb0 x0) r Tryz.func105 rfl rfl rfl (fun _ _ h=>rb h rfl) fun fin a E=>sg<|aw E rfl fun a E=>wp_seq<|sg<|mv E rfl fun a E=>lv E ok (qaD qcv hs_0 rfl) fun a E=>mv E rfl fun a E=>wn<|wp_block<|bd hF fun o3 hL hF=>qaF _ (fun (s:Int) a w=>Ok u m0 ([(pb0,oc 9 [vs x0])] :: S) w ∧ Env 19 a [(0,vs_0),(1,(Value.func (.func 68) #[] #[.pointer (some ⟨pb0,0,none⟩)])),(7,(vi (s_0.length:Int))),(8,vi s)] ∧ InR .i64 s) (fun (b:(Unit ⊕ Int)) e a w=>(Sum.elim (fun b22=>e = (.exit 0) ∧ Ok u m0 ([(pb0,oc 9 [vs x0])] :: S) w ∧ Env 19 a []) (fun b23=>e = .ret ∧ qc0 u m0 S pb0 x0 b23 a w)) b) ?_ ?_ N _ a w hL ⟨ok,E.keep [0,1,7,8],(ir 0)⟩
 rotate_left
 ·intro e a w _ hO
  rcases o3 with o3 | o3
  rotate_left
  ·obtain ⟨rfl,hret⟩:=hO
   refine qax<|qal ?_
   exact fin hF hret
  have hF:=qbT hF
  obtain ⟨rfl,ok,E⟩:=hO
  refine qaN<|qaa<|sg<|aw E rfl fun a E=>wp_ret ?_
  exact fin hF ⟨ok,E.d,rz E rfl,(ir (-1))⟩
 rintro v5 a w r ⟨ok,E,r6⟩ hF
 replace hF:qbb N s_0 x0 v5 = some r:=hF
 unfold qbb at hF
 refine sg<|lw E (qay rfl rfl) fun a E=>wn<|wp_seq<|cg E rfl hF (fun c7 hF=>?_) fun c7 hF=>?_
 ·refine wp_exit<|qaA ?_
  cases hF
  exact so (sl ⟨rfl,⟨ok,E.keep []⟩⟩)
 refine wp_skip<|qaa<|wp_seq<|wp_block<|sg<|mv E rfl fun a E=>av E rfl fun a E=>wn<|sg<|mz E rfl rfl fun a E=>mv E rfl fun a E=>?_
 obtain ⟨x8,e9,hF⟩:=bnd hF
 obtain ⟨b10,o11,es12,hl13,rr14,at15,yy16⟩:=ia E 12 13 qcv hs_0 e9
 obtain ⟨c17,rfl,h18⟩:=qcz rr14
 refine lv E ok (yy16 _ _) fun a E=>lv E ok (qaj qcN rfl (qab.ro at15)) fun a E=>bd hF fun r19 e20 hF=>qeP E rfl qrV rfl (qjr N _ x8 h18 x0 l1 e20 hG ok) rfl rfl ?_
 rintro _ w ⟨rfl,ok⟩
 refine ⟨_,rfl,fun a E=>?_⟩
 refine wn<|cg E rfl hF (fun c21 hF=>?_) fun c21 hF=>?_
 ·refine wp_skip<|qap<|qaa<|qac<|lw E (qaE rfl rfl (InR.inc r6 (qao hs_0) c7)) fun a E=>mv E rfl fun a E=>wpList_nil ?_
  cases hF
  exact qas ⟨ok,E.keep [0,1,7,8],(InR.inc r6 (qao hs_0) c7)⟩
 refine sg<|mv E rfl fun a E=>aw E rfl fun a E=>wp_ret<|qax<|qal ?_
 cases hF
 exact so (sr ⟨rfl,⟨ok,E.d,rz E rfl,r6⟩⟩)
def qeL (u:World) (m0:Mem) (S:Segs) (pb0:Nat) (x0:List UInt8) (r:Bool) (a:Act) (w:World):Prop :=
 Ok u m0 ([(pb0,oc 9 [vs x0])] :: S) w ∧ a.defers = [] ∧ RVs Tryz.prog a w [.t 4 (.bool r)]
theorem qeM (N:Nat) (vs_0:Value) (s_0:List (List (Relation))) (hs_0:(pL 1 (pL 4 qak)) m0 [vs_0] s_0) {pb0:Nat} (x0:List UInt8) (l1:x0.length ≤ LIMS) {r:Bool} (hF:qba N s_0 x0 = some r) (hG:Glob u) (ok:Ok u m0 ([(pb0,oc 9 [vs x0])] :: S) w) :
  Calls Tryz.prog 67 [vs_0,Value.func (.func 68) #[] #[.pointer (some ⟨pb0,0,none⟩)]].toArray w fun e w'=>(e = .returned (.bool r) ∧ Ok u m0 ([(pb0,oc 9 [vs x0])] :: S) w'):=by
 unfold qba at hF
 refine en (qeL u m0 S pb0 x0) r Tryz.func67 rfl rfl rfl (fun _ _ h=>ra h rfl) fun fin a E=>sg<|aw E rfl fun a E=>sg<|mz E rfl rfl fun a E=>bd hF fun r2 e3 hF=>qan E qqI rfl (qe5 N _ s_0 hs_0 x0 l1 e3 hG ok) rfl rfl ?_
 rintro _ w ⟨⟨rfl,ok⟩,r4⟩
 refine ⟨_,rfl,fun a E=>?_⟩
 refine lw E (qgd rfl rfl) fun a E=>aw E rfl fun a E=>wp_ret ?_
 exact fin hF ⟨ok,E.d,rz E rfl⟩
def qkF (u:World) (m0:Mem) (S:Segs) (r:Bool × Int) (a:Act) (w:World):Prop :=
 Ok u m0 S w ∧ a.defers = [] ∧ RVs Tryz.prog a w [.t 4 (.bool r.1),.t 5 (.int .i64 r.2)] ∧ InR .i64 r.2
theorem qkz (N:Nat) (vc_0:Value) (c_0:List (List (Relation))) (hc_0:(pL 1 (pL 4 qak)) m0 [vc_0] c_0) (number_1:List UInt8) (lnumber_1:number_1.length ≤ LIMS) {r:Bool × Int} (hF:qe0 N c_0 number_1 = some r) (hG:Glob u) (ok:Ok u m0 S w) :
  Calls Tryz.prog 24 [vc_0,vs number_1].toArray w fun e w'=>(e = .returned (.tuple [(.bool r.1),(.int .i64 r.2)].toArray) ∧ Ok u m0 S w') ∧ InR .i64 r.2:=by
 unfold qe0 at hF
 refine en (qkF u m0 S) r Tryz.func24 rfl rfl rfl (by rintro a w ⟨ok,hd,hrv,h0⟩; exact qbS [.t 4 (.bool r.1),.t 5 (.int .i64 r.2)] hd rfl hrv ⟨⟨rfl,ok⟩,h0⟩) fun fin a E=>sg<|qb8 E ok rfl rfl rfl fun b1 a w E ok=>av E rfl fun a E=>aw E rfl fun a E=>wp_seq<|sg<|mv E rfl fun a E=>bd hF fun r2 e3 hF=>lc E qn6 rfl (qgi N _ c_0 hc_0 e3 hG ok) fun w ok a E=>lw E (qa2 rfl) fun a E=>mv E rfl fun a E=>bu E 9 hF (fun c4 hF E=>?_) fun c4 hF E=>?_
 ·refine lsq E fun a E=>ls E fun a E=>pt E rfl rfl fun a E=>wn<|c_if E rfl (fun _=>?_) (fun h=>by cases h)
  refine sg<|av E rfl fun a E=>aw E rfl fun a E=>wp_ret<|qal ?_
  exact fin hF ⟨ok.drop,E.d,⟨rv_t E rfl,rv_t E rfl,trivial⟩,(ir 1)⟩
 refine ld E ok qbg 0 rfl rfl rfl fun a E=>bd hF fun r5 e6 hF=>lc E qsk rfl (qlr N number_1 lnumber_1 e6 hG ok) fun w ok a E=>lw E (qa2 rfl) fun a E=>pf E rfl rfl fun a E=>wn<|cf E rfl hF (fun c7 hF=>?_) fun c7 hF=>?_
 ·refine sg<|av E rfl fun a E=>aw E rfl fun a E=>wp_ret<|qal ?_
  exact fin hF ⟨ok.drop,E.d,⟨rv_t E rfl,rv_t E rfl,trivial⟩,(ir 1)⟩
 refine wp_skip<|qaa<|sg<|mv E rfl fun a E=>lv E ok (qcI (caps:=[.tmp 3]) rfl) fun a E=>bd hF fun r8 e9 hF=>lc E qsi rfl (qeM N _ c_0 hc_0 number_1 lnumber_1 e9 hG ok) fun w ok a E=>av E rfl fun a E=>aw E rfl fun a E=>wp_ret ?_
 exact fin hF ⟨ok.drop,E.d,⟨rv_t E rfl,rv_t E rfl,trivial⟩,(ir 0)⟩
end Go.Proofs.YtidfofhmnlhfjaaGreatDoor
namespace Go.Proofs.YtidfofhmnlhfjaaGreatDoor
open Go.X
variable {u:World} {m0:Mem} {S:Segs} {w:World}
set_option maxHeartbeats 4000000
set_option maxRecDepth 100000
def qgD (u:World) (m0:Mem) (S:Segs) (r:Bool) (a:Act) (w:World):Prop :=
 Ok u m0 S w ∧ a.defers = [] ∧ RVs Tryz.prog a w [.t 2 (.bool r)]
theorem qiW (N:Nat) (vr_0:List Value) (r_0:Relation) (hr_0:qak m0 vr_0 r_0) {r:Bool} (hF:qdU N r_0 = some r) (hG:Glob u) (ok:Ok u m0 S w) :
  Calls Tryz.prog 65 [.agg vr_0.toArray].toArray w fun e w'=>(e = .returned (.bool r) ∧ Ok u m0 S w'):=by
 obtain ⟨c3,rfl,r1,r2,h4⟩:=hr_0
 have hb0:=ok.base
 have le_m0:=Mem.le.refl m0
 unfold qdU at hF
 refine en (qgD u m0 S) r Tryz.func65 rfl rfl rfl (fun _ _ h=>ra h rfl) fun fin a E=>sg<|qb8 E ok rfl rfl rfl fun b5 a w E ok=>aw E rfl fun a E=>wp_seq<|wp_seq<|bd hF fun o6 hJ hF=>qaL (Q':=fun e a w=>e = .normal ∧ ∃ m7,m0.le m7 ∧ Ok u m7 ([(b5,oc 69 [vi r_0.Operand,vi r_0.Mod,vb r_0.Not,c3])] :: S) w ∧ Env 69 a [(1,vp b5),(38,vb o6)]) ?_ ?_
 rotate_left
 ·as_aux_lemma =>
   intro e a w hO
   obtain ⟨rfl,m30,hle,ok,E⟩:=hO
   have le_m0:=le_m0.trans hle
   have h4:=(mL qc2).up hle h4
   refine qaa<|cf E rfl hF (fun c31 hF=>?_) fun c31 hF=>?_
   ·refine sg<|aw E rfl fun a E=>wp_ret<|qal ?_
    exact fin hF ⟨(ok.drop).down hb0 le_m0,E.d,rz E rfl⟩
   refine wp_skip<|qaa<|wp_seq<|sg<|aw E rfl fun a E=>wp_block<|bd hF fun o33 hL hF=>qaF _ (fun (s:Int) a w=>Ok u m30 ([(b5,oc 69 [vi r_0.Operand,vi r_0.Mod,vb r_0.Not,c3])] :: S) w ∧ Env 69 a [(1,vp b5),(3,vi s)] ∧ InR .i64 s) (fun (b:(Unit ⊕ Bool)) e a w=>(Sum.elim (fun b56=>e = (.exit 0) ∧ Ok u m30 ([(b5,oc 69 [vi r_0.Operand,vi r_0.Mod,vb r_0.Not,c3])] :: S) w ∧ Env 69 a []) (fun b57=>e = .ret ∧ qgD u m0 S b57 a w)) b) ?_ ?_ N _ a w hL ⟨ok,E.keep [1,3],(ir 0)⟩
   rotate_left
   ·intro e a w _ hO
    rcases o33 with o33 | o33
    rotate_left
    ·obtain ⟨rfl,hret⟩:=hO
     refine qax<|qal ?_
     exact fin hF hret
    have hF:=qbT hF
    obtain ⟨rfl,ok,E⟩:=hO
    refine qaN<|qaa<|sg<|aw E rfl fun a E=>wp_ret ?_
    exact fin hF ⟨(ok.drop).down hb0 le_m0,E.d,rz E rfl⟩
   rintro v35 a w r ⟨ok,E,r36⟩ hF
   replace hF:qcy N r_0 v35 = some r:=hF
   unfold qcy at hF
   refine wp_seq<|sg<|mv E rfl fun a E=>fk E ok qbf qbO rfl 0 rfl rfl fun a E=>lv E ok (qaD qbz h4 rfl) fun a E=>lw E (qay rfl rfl) fun a E=>wn<|cg E rfl hF (fun c37 hF=>?_) fun c37 hF=>?_
   ·refine wp_exit<|qaA ?_
    cases hF
    exact so (sl ⟨rfl,⟨ok,E.keep []⟩⟩)
   refine wp_skip<|qaa<|wp_seq<|wp_block<|sg<|fk E ok qbf qbO rfl 0 rfl rfl fun a E=>mv E rfl fun a E=>?_
   obtain ⟨x38,e39,hF⟩:=bnd hF
   obtain ⟨b40,o41,es42,hl43,rr44,at45,yy46⟩:=ia E 47 48 qbz h4 e39
   obtain ⟨rfl,r47,r48⟩:=rr44
   refine lv E ok (yy46 _ _) fun a E=>lv E ok (qag (cs:=[vi x38.From,vi x38.To]) qdJ rfl rfl (qab.ro at45)) fun a E=>qaB E ok qcE rfl rfl fun b49 a w E ok=>qad E ok 0 rfl rfl rfl qfi rfl rfl ⟨rfl,rfl,trivial⟩ rfl rfl fun w ok=>wn<|wp_seq<|qeU (by kernel_rfl) (by kernel_rfl) ok<|qv E (qae qd6 rfl) fun a E=>qv E (qaj qaq rfl (qab.own 0 rfl rfl)) fun a E=>qv E (qay rfl rfl) fun a E=>qv E (qah rfl) fun a E=>bu E 54 hF (fun c50 hF E=>?_) fun c50 hF E=>?_
   ·refine qs E fun a E=>qs E fun a E=>qs E fun a E=>qs E fun a E=>qs E fun a E=>qv E (qaY rfl rfl) fun a E=>qv E (qah rfl) fun a E=>qs E fun a E=>qs E fun a E=>qs E fun a E=>qs E fun a E=>qs E fun a E=>qs E fun a E=>qv E (qaY rfl rfl) fun a E=>wpQuiet_nil ?_
    intro w ok
    refine qaa<|c_if E rfl (fun _=>?_) (fun h=>by cases h)
    refine sg<|aw E rfl fun a E=>wp_ret<|qax<|qal ?_
    cases hF
    exact so (sr ⟨rfl,⟨(ok.drop.drop).down hb0 le_m0,E.d,rz E rfl⟩⟩)
   refine qv E (qae qd6 rfl) fun a E=>qv E (qaj qaq rfl (qab.own 0 rfl rfl)) fun a E=>qv E (qae qc6 rfl) fun a E=>qv E (qaj qaq rfl (qab.own 0 rfl rfl)) fun a E=>qv E (qbp rfl rfl) fun a E=>qv E (qaT rfl rfl) fun a E=>qv E (qah rfl) fun a E=>bu E 61 hF (fun c51 hF E=>?_) fun c51 hF E=>?_
   ·refine qs E fun a E=>qs E fun a E=>qs E fun a E=>qs E fun a E=>qs E fun a E=>qs E fun a E=>qv E (qaY rfl rfl) fun a E=>wpQuiet_nil ?_
    intro w ok
    refine qaa<|c_if E rfl (fun _=>?_) (fun h=>by cases h)
    refine sg<|aw E rfl fun a E=>wp_ret<|qax<|qal ?_
    cases hF
    exact so (sr ⟨rfl,⟨(ok.drop.drop).down hb0 le_m0,E.d,rz E rfl⟩⟩)
   refine qv E (qae qc6 rfl) fun a E=>qv E (qaj qaq rfl (qab.own 0 rfl rfl)) fun a E=>qv E (qae qa1 rfl) fun a E=>qv E (qaj qaq rfl (qab.own 1 rfl rfl)) fun a E=>?_
   obtain ⟨r52,e53,hF⟩:=bnd hF
   obtain ⟨_,_,⟨_,_⟩,r54⟩:=Go.X.Calls.get (qb5 N r_0.Operand r1 e53 hG ok)
   refine qfT E qj5 rfl (fun w ok=>(qb5 N r_0.Operand r1 e53 hG ok).mono (fun _ _ h=>h.1)) rfl rfl fun a E=>qv E (qbp rfl rfl) fun a E=>qv E (qaT rfl rfl) fun a E=>wpQuiet_nil ?_
   intro w ok
   refine qaa<|cg E rfl hF (fun c55 hF=>?_) fun c55 hF=>?_
   ·refine wp_skip<|qap<|qaa<|qac<|mv E rfl fun a E=>lw E (qaE rfl rfl (InR.inc r36 (qao h4) c37)) fun a E=>av E rfl fun a E=>wpList_nil ?_
    cases hF
    exact qas ⟨(ok.pk 2 [1] rfl (by decide)),E.keep [1,3],(InR.inc r36 (qao h4) c37)⟩
   refine sg<|aw E rfl fun a E=>wp_ret<|qax<|qal ?_
   cases hF
   exact so (sr ⟨rfl,⟨(ok.drop.drop).down hb0 le_m0,E.d,rz E rfl⟩⟩)
 have hF:=hJ
 refine qbN (decide (r_0.Operand < 1)) (fun c8=>?_) (fun c8=>?_)
 ·have hF:=qbK c8 hF
  cases hF
  refine qaS [] (Cls u m0 ([(b5,oc 69 [vi r_0.Operand,vi r_0.Mod,vb r_0.Not,c3])] :: [])) (Cls u m0 ([(b5,oc 69 [vi r_0.Operand,vi r_0.Mod,vb r_0.Not,c3])] :: [])) (by kernel_rfl) ?_
  intro w hw
  replace ok:=qa6 ok hw
  clear hw
  have h4_o:=h4
  refine qai (cl1 (cq le_m0 ok [0] rfl) (cq le_m0 ok [0] rfl)) fun hT=>kt 0 E rfl hT (qae qa1 rfl) fun a E=>kt 1 E rfl hT (qaj qaq rfl (qab.cown 0 rfl rfl)) fun a E=>kt 2 E rfl hT (qay rfl rfl) fun a E=>kt 3 E rfl hT (qah rfl) fun a E=>?_
  have E:=E.upd 8 c8 rfl
  refine qam 4 false E rfl (by kernel_rfl) nP hT rfl rfl fun a E=>qam 5 false E rfl (by kernel_rfl) nP hT rfl rfl fun a E=>qam 6 false E rfl (by kernel_rfl) nP hT rfl rfl fun a E=>kt 7 E rfl hT (qaY rfl rfl) fun a E=>kt 8 E rfl hT (qah rfl) fun a E=>qam 9 false E rfl (by kernel_rfl) nP hT rfl rfl fun a E=>qam 10 false E rfl (by kernel_rfl) nP hT rfl rfl fun a E=>qam 11 false E rfl (by kernel_rfl) nP hT rfl rfl fun a E=>qam 12 false E rfl (by kernel_rfl) nP hT rfl rfl fun a E=>qam 13 false E rfl (by kernel_rfl) nP hT rfl rfl fun a E=>qam 14 false E rfl (by kernel_rfl) nP hT rfl rfl fun a E=>qam 15 false E rfl (by kernel_rfl) nP hT rfl rfl fun a E=>qam 16 false E rfl (by kernel_rfl) nP hT rfl rfl fun a E=>qam 17 false E rfl (by kernel_rfl) nP hT rfl rfl fun a E=>qam 18 false E rfl (by kernel_rfl) nP hT rfl rfl fun a E=>qam 19 false E rfl (by kernel_rfl) nP hT rfl rfl fun a E=>?_
  refine qam 20 false E rfl (by kernel_rfl) nP hT rfl rfl fun a E=>kt 21 E rfl hT (qaY rfl rfl) fun a E=>kt 22 E rfl hT (qah rfl) fun a E=>qam 23 false E rfl (by kernel_rfl) nP hT rfl rfl fun a E=>qam 24 false E rfl (by kernel_rfl) nP hT rfl rfl fun a E=>qam 25 false E rfl (by kernel_rfl) nP hT rfl rfl fun a E=>qam 26 false E rfl (by kernel_rfl) nP hT rfl rfl fun a E=>kt 27 E rfl hT (qaY rfl rfl) fun a E=>kt 28 E rfl hT (qah rfl) fun a E=>qam 29 false E rfl (by kernel_rfl) nP hT rfl rfl fun a E=>qam 30 false E rfl (by kernel_rfl) nP hT rfl rfl fun a E=>qam 31 false E rfl (by kernel_rfl) nP hT rfl rfl fun a E=>qam 32 false E rfl (by kernel_rfl) nP hT rfl rfl fun a E=>kt 33 E rfl hT (qaY rfl rfl) fun a E=>qaR (by kernel_rfl) ?_
  exact ⟨rfl,⟨m0,le_m0,ok,E.keep [1,38]⟩⟩
 have hF:=qbI c8 hF
 refine qbN (decide (r_0.Operand > 6)) (fun c9=>?_) (fun c9=>?_)
 ·have hF:=qbK c9 hF
  cases hF
  refine qaS [] (Cls u m0 ([(b5,oc 69 [vi r_0.Operand,vi r_0.Mod,vb r_0.Not,c3])] :: [])) (Cls u m0 ([(b5,oc 69 [vi r_0.Operand,vi r_0.Mod,vb r_0.Not,c3])] :: [])) (by kernel_rfl) ?_
  intro w hw
  replace ok:=qa6 ok hw
  clear hw
  have h4_o:=h4
  refine qai (cl1 (cq le_m0 ok [0] rfl) (cq le_m0 ok [0] rfl)) fun hT=>kt 0 E rfl hT (qae qa1 rfl) fun a E=>kt 1 E rfl hT (qaj qaq rfl (qab.cown 0 rfl rfl)) fun a E=>kt 2 E rfl hT (qay rfl rfl) fun a E=>kt 3 E rfl hT (qah rfl) fun a E=>?_
  have E:=E.upd 8 c8 rfl
  refine kt 4 E rfl hT (qae qa1 rfl) fun a E=>kt 5 E rfl hT (qaj qaq rfl (qab.cown 0 rfl rfl)) fun a E=>kt 6 E rfl hT (qbp rfl rfl) fun a E=>kt 7 E rfl hT (qaT rfl rfl) fun a E=>kt 8 E rfl hT (qah rfl) fun a E=>?_
  have E:=E.upd 13 c9 rfl
  refine qam 9 false E rfl (by kernel_rfl) nP hT rfl rfl fun a E=>qam 10 false E rfl (by kernel_rfl) nP hT rfl rfl fun a E=>qam 11 false E rfl (by kernel_rfl) nP hT rfl rfl fun a E=>qam 12 false E rfl (by kernel_rfl) nP hT rfl rfl fun a E=>qam 13 false E rfl (by kernel_rfl) nP hT rfl rfl fun a E=>qam 14 false E rfl (by kernel_rfl) nP hT rfl rfl fun a E=>qam 15 false E rfl (by kernel_rfl) nP hT rfl rfl fun a E=>qam 16 false E rfl (by kernel_rfl) nP hT rfl rfl fun a E=>qam 17 false E rfl (by kernel_rfl) nP hT rfl rfl fun a E=>qam 18 false E rfl (by kernel_rfl) nP hT rfl rfl fun a E=>qam 19 false E rfl (by kernel_rfl) nP hT rfl rfl fun a E=>qam 20 false E rfl (by kernel_rfl) nP hT rfl rfl fun a E=>kt 21 E rfl hT (qaY rfl rfl) fun a E=>kt 22 E rfl hT (qah rfl) fun a E=>qam 23 false E rfl (by kernel_rfl) nP hT rfl rfl fun a E=>qam 24 false E rfl (by kernel_rfl) nP hT rfl rfl fun a E=>?_
  refine qam 25 false E rfl (by kernel_rfl) nP hT rfl rfl fun a E=>qam 26 false E rfl (by kernel_rfl) nP hT rfl rfl fun a E=>kt 27 E rfl hT (qaY rfl rfl) fun a E=>kt 28 E rfl hT (qah rfl) fun a E=>qam 29 false E rfl (by kernel_rfl) nP hT rfl rfl fun a E=>qam 30 false E rfl (by kernel_rfl) nP hT rfl rfl fun a E=>qam 31 false E rfl (by kernel_rfl) nP hT rfl rfl fun a E=>qam 32 false E rfl (by kernel_rfl) nP hT rfl rfl fun a E=>kt 33 E rfl hT (qaY rfl rfl) fun a E=>qaR (by kernel_rfl) ?_
  exact ⟨rfl,⟨m0,le_m0,ok,E.keep [1,38]⟩⟩
 have hF:=qbI c9 hF
 refine qbN (r_0.Mod != 0) (fun c10=>?_) (fun c10=>?_)
 rotate_left
 ·as_aux_lemma =>
   have hF:=qbI c10 hF
   refine qbN (decide ((r_0.Spans.length:Int) < 1)) (fun c29=>?_) (fun c29=>?_)
   ·have hF:=qbK c29 hF
    cases hF
    refine qaS [] (Cls u m0 ([(b5,oc 69 [vi r_0.Operand,vi r_0.Mod,vb r_0.Not,c3])] :: [])) (Cls u m0 ([(b5,oc 69 [vi r_0.Operand,vi r_0.Mod,vb r_0.Not,c3])] :: [])) (by kernel_rfl) ?_
    intro w hw
    replace ok:=qa6 ok hw
    clear hw
    have h4_o:=h4
    refine qai (cl1 (cq le_m0 ok [0] rfl) (cq le_m0 ok [0] rfl)) fun hT=>kt 0 E rfl hT (qae qa1 rfl) fun a E=>kt 1 E rfl hT (qaj qaq rfl (qab.cown 0 rfl rfl)) fun a E=>kt 2 E rfl hT (qay rfl rfl) fun a E=>kt 3 E rfl hT (qah rfl) fun a E=>?_
    have E:=E.upd 8 c8 rfl
    refine kt 4 E rfl hT (qae qa1 rfl) fun a E=>kt 5 E rfl hT (qaj qaq rfl (qab.cown 0 rfl rfl)) fun a E=>kt 6 E rfl hT (qbp rfl rfl) fun a E=>kt 7 E rfl hT (qaT rfl rfl) fun a E=>kt 8 E rfl hT (qah rfl) fun a E=>?_
    have E:=E.upd 13 c9 rfl
    refine kt 9 E rfl hT (qae qcZ rfl) fun a E=>kt 10 E rfl hT (qaj qaq rfl (qab.cown 0 rfl rfl)) fun a E=>kt 11 E rfl hT (qdp rfl rfl) fun a E=>kt 12 E rfl hT (qah rfl) fun a E=>?_
    have E:=E.upd 17 c10 rfl
    refine qam 13 false E rfl (by kernel_rfl) nP hT rfl rfl fun a E=>qam 14 false E rfl (by kernel_rfl) nP hT rfl rfl fun a E=>qam 15 false E rfl (by kernel_rfl) nP hT rfl rfl fun a E=>qam 16 false E rfl (by kernel_rfl) nP hT rfl rfl fun a E=>qam 17 false E rfl (by kernel_rfl) nP hT rfl rfl fun a E=>qam 18 false E rfl (by kernel_rfl) nP hT rfl rfl fun a E=>qam 19 false E rfl (by kernel_rfl) nP hT rfl rfl fun a E=>kt 20 E rfl hT (qaT rfl rfl) fun a E=>kt 21 E rfl hT (qaT rfl rfl) fun a E=>kt 22 E rfl hT (qah rfl) fun a E=>kt 23 E rfl hT (qae qbf rfl) fun a E=>kt 24 E rfl hT (qaj qbO rfl (qab.cown 0 rfl rfl)) fun a E=>kt 25 E rfl hT (qaD qbz h4 rfl) fun a E=>kt 26 E rfl hT (qay rfl rfl) fun a E=>kt 27 E rfl hT (qaT rfl rfl) fun a E=>kt 28 E rfl hT (qah rfl) fun a E=>?_
    have E:=E.upd 33 c29 rfl
    refine qam 29 false E rfl (by kernel_rfl) nP hT rfl rfl fun a E=>qam 30 false E rfl (by kernel_rfl) nP hT rfl rfl fun a E=>qam 31 false E rfl (by kernel_rfl) nP hT rfl rfl fun a E=>qam 32 false E rfl (by kernel_rfl) nP hT rfl rfl fun a E=>kt 33 E rfl hT (qaY rfl rfl) fun a E=>qaR (by kernel_rfl) ?_
    exact ⟨rfl,⟨m0,le_m0,ok,E.keep [1,38]⟩⟩
   have hF:=qbI c29 hF
   cases hF
   refine qaS [] (Cls u m0 ([(b5,oc 69 [vi r_0.Operand,vi r_0.Mod,vb r_0.Not,c3])] :: [])) (Cls u m0 ([(b5,oc 69 [vi r_0.Operand,vi r_0.Mod,vb r_0.Not,c3])] :: [])) (by kernel_rfl) ?_
   intro w hw
   replace ok:=qa6 ok hw
   clear hw
   have h4_o:=h4
   refine qai (cl1 (cq le_m0 ok [0] rfl) (cq le_m0 ok [0] rfl)) fun hT=>kt 0 E rfl hT (qae qa1 rfl) fun a E=>kt 1 E rfl hT (qaj qaq rfl (qab.cown 0 rfl rfl)) fun a E=>kt 2 E rfl hT (qay rfl rfl) fun a E=>kt 3 E rfl hT (qah rfl) fun a E=>?_
   have E:=E.upd 8 c8 rfl
   refine kt 4 E rfl hT (qae qa1 rfl) fun a E=>kt 5 E rfl hT (qaj qaq rfl (qab.cown 0 rfl rfl)) fun a E=>kt 6 E rfl hT (qbp rfl rfl) fun a E=>kt 7 E rfl hT (qaT rfl rfl) fun a E=>kt 8 E rfl hT (qah rfl) fun a E=>?_
   have E:=E.upd 13 c9 rfl
   refine kt 9 E rfl hT (qae qcZ rfl) fun a E=>kt 10 E rfl hT (qaj qaq rfl (qab.cown 0 rfl rfl)) fun a E=>kt 11 E rfl hT (qdp rfl rfl) fun a E=>kt 12 E rfl hT (qah rfl) fun a E=>?_
   have E:=E.upd 17 c10 rfl
   refine qam 13 false E rfl (by kernel_rfl) nP hT rfl rfl fun a E=>qam 14 false E rfl (by kernel_rfl) nP hT rfl rfl fun a E=>qam 15 false E rfl (by kernel_rfl) nP hT rfl rfl fun a E=>qam 16 false E rfl (by kernel_rfl) nP hT rfl rfl fun a E=>qam 17 false E rfl (by kernel_rfl) nP hT rfl rfl fun a E=>qam 18 false E rfl (by kernel_rfl) nP hT rfl rfl fun a E=>qam 19 false E rfl (by kernel_rfl) nP hT rfl rfl fun a E=>kt 20 E rfl hT (qaT rfl rfl) fun a E=>kt 21 E rfl hT (qaT rfl rfl) fun a E=>kt 22 E rfl hT (qah rfl) fun a E=>kt 23 E rfl hT (qae qbf rfl) fun a E=>kt 24 E rfl hT (qaj qbO rfl (qab.cown 0 rfl rfl)) fun a E=>kt 25 E rfl hT (qaD qbz h4 rfl) fun a E=>kt 26 E rfl hT (qay rfl rfl) fun a E=>kt 27 E rfl hT (qaT rfl rfl) fun a E=>kt 28 E rfl hT (qah rfl) fun a E=>?_
   have E:=E.upd 33 c29 rfl
   refine kt 29 E rfl hT (qae qbf rfl) fun a E=>kt 30 E rfl hT (qaj qbO rfl (qab.cown 0 rfl rfl)) fun a E=>kt 31 E rfl hT (qaD qbz h4 rfl) fun a E=>kt 32 E rfl hT (qbp rfl rfl) fun a E=>kt 33 E rfl hT (qaT rfl rfl) fun a E=>qaR (by kernel_rfl) ?_
   exact ⟨rfl,⟨m0,le_m0,ok,E.keep [1,38]⟩⟩
 have hF:=qbK c10 hF
 obtain ⟨r11,e12,hF⟩:=bnd hF
 refine bd hF fun r16 e17 hF=>qbN (!r16) (fun c18=>?_) (fun c18=>?_)
 ·have hF:=qbK c18 hF
  cases hF
  refine qaS [] (Cls u m0 ([(b5,oc 69 [vi r_0.Operand,vi r_0.Mod,vb r_0.Not,c3])] :: [])) (Cls u m0 ([(b5,oc 69 [vi r_0.Operand,vi r_0.Mod,vb r_0.Not,c3])] :: [])) (by kernel_rfl) ?_
  intro w hw
  replace ok:=qa6 ok hw
  clear hw
  have h4_o:=h4
  refine qai (cl1 (cq le_m0 ok [0] rfl) (cq le_m0 ok [0] rfl)) fun hT=>kt 0 E rfl hT (qae qa1 rfl) fun a E=>kt 1 E rfl hT (qaj qaq rfl (qab.cown 0 rfl rfl)) fun a E=>kt 2 E rfl hT (qay rfl rfl) fun a E=>kt 3 E rfl hT (qah rfl) fun a E=>?_
  have E:=E.upd 8 c8 rfl
  refine kt 4 E rfl hT (qae qa1 rfl) fun a E=>kt 5 E rfl hT (qaj qaq rfl (qab.cown 0 rfl rfl)) fun a E=>kt 6 E rfl hT (qbp rfl rfl) fun a E=>kt 7 E rfl hT (qaT rfl rfl) fun a E=>kt 8 E rfl hT (qah rfl) fun a E=>?_
  have E:=E.upd 13 c9 rfl
  refine kt 9 E rfl hT (qae qcZ rfl) fun a E=>kt 10 E rfl hT (qaj qaq rfl (qab.cown 0 rfl rfl)) fun a E=>kt 11 E rfl hT (qdp rfl rfl) fun a E=>kt 12 E rfl hT (qah rfl) fun a E=>?_
  have E:=E.upd 17 c10 rfl
  refine kt 13 E rfl hT (qae qa1 rfl) fun a E=>kt 14 E rfl hT (qaj qaq rfl (qab.cown 0 rfl rfl)) fun a E=>kt 16 E rfl hT (qae qcZ rfl) fun a E=>kt 17 E rfl hT (qaj qaq rfl (qab.cown 0 rfl rfl)) fun a E=>qar [15] (by kernel_rfl) rfl (qat ?_)
  ·refine wo rfl<|qan E qlI rfl (qeW N r_0.Operand r1 e12 hG ok) rfl rfl ?_
   rintro _ w ⟨m19,c20,rfl,hle,ok,h21⟩
   have le_m0:=le_m0.trans hle
   have h4:=(mL qc2).up hle h4
   refine ⟨_,rfl,fun a E=>?_⟩
   refine wn<|qai (cl1 (cq le_m0 ok [0] rfl) (cq le_m0 ok [0] rfl)) fun hT=>qar [18] (by kernel_rfl) rfl (qat ?_)
   ·refine wo rfl<|lc E qlP rfl (qfe N _ r11 h21 r_0.Mod r2 e17 hG ok) fun w ok a E=>wn<|qai (cl1 (cq le_m0 ok [0] rfl) (cq le_m0 ok [0] rfl)) fun hT=>kt 19 E rfl hT (qa2 rfl) fun a E=>kt 20 E rfl hT (qaY rfl rfl) fun a E=>kt 21 E rfl hT (qaT rfl rfl) fun a E=>kt 22 E rfl hT (qah rfl) fun a E=>?_
    have E:=E.upd 27 c18 rfl
    refine qam 23 false E rfl (by kernel_rfl) nP hT rfl rfl fun a E=>qam 24 false E rfl (by kernel_rfl) nP hT rfl rfl fun a E=>qam 25 false E rfl (by kernel_rfl) nP hT rfl rfl fun a E=>qam 26 false E rfl (by kernel_rfl) nP hT rfl rfl fun a E=>kt 27 E rfl hT (qaY rfl rfl) fun a E=>kt 28 E rfl hT (qah rfl) fun a E=>qam 29 false E rfl (by kernel_rfl) nP hT rfl rfl fun a E=>qam 30 false E rfl (by kernel_rfl) nP hT rfl rfl fun a E=>qam 31 false E rfl (by kernel_rfl) nP hT rfl rfl fun a E=>qam 32 false E rfl (by kernel_rfl) nP hT rfl rfl fun a E=>kt 33 E rfl hT (qaY rfl rfl) fun a E=>qaR (by kernel_rfl) ?_
    exact ⟨rfl,⟨m19,le_m0,ok,E.keep [1,38]⟩⟩
 have hF:=qbI c18 hF
 refine qbN (decide ((r_0.Spans.length:Int) < 1)) (fun c22=>?_) (fun c22=>?_)
 ·have hF:=qbK c22 hF
  cases hF
  refine qaS [] (Cls u m0 ([(b5,oc 69 [vi r_0.Operand,vi r_0.Mod,vb r_0.Not,c3])] :: [])) (Cls u m0 ([(b5,oc 69 [vi r_0.Operand,vi r_0.Mod,vb r_0.Not,c3])] :: [])) (by kernel_rfl) ?_
  intro w hw
  replace ok:=qa6 ok hw
  clear hw
  have h4_o:=h4
  refine qai (cl1 (cq le_m0 ok [0] rfl) (cq le_m0 ok [0] rfl)) fun hT=>kt 0 E rfl hT (qae qa1 rfl) fun a E=>kt 1 E rfl hT (qaj qaq rfl (qab.cown 0 rfl rfl)) fun a E=>kt 2 E rfl hT (qay rfl rfl) fun a E=>kt 3 E rfl hT (qah rfl) fun a E=>?_
  have E:=E.upd 8 c8 rfl
  refine kt 4 E rfl hT (qae qa1 rfl) fun a E=>kt 5 E rfl hT (qaj qaq rfl (qab.cown 0 rfl rfl)) fun a E=>kt 6 E rfl hT (qbp rfl rfl) fun a E=>kt 7 E rfl hT (qaT rfl rfl) fun a E=>kt 8 E rfl hT (qah rfl) fun a E=>?_
  have E:=E.upd 13 c9 rfl
  refine kt 9 E rfl hT (qae qcZ rfl) fun a E=>kt 10 E rfl hT (qaj qaq rfl (qab.cown 0 rfl rfl)) fun a E=>kt 11 E rfl hT (qdp rfl rfl) fun a E=>kt 12 E rfl hT (qah rfl) fun a E=>?_
  have E:=E.upd 17 c10 rfl
  refine kt 13 E rfl hT (qae qa1 rfl) fun a E=>kt 14 E rfl hT (qaj qaq rfl (qab.cown 0 rfl rfl)) fun a E=>kt 16 E rfl hT (qae qcZ rfl) fun a E=>kt 17 E rfl hT (qaj qaq rfl (qab.cown 0 rfl rfl)) fun a E=>qar [15] (by kernel_rfl) rfl (qat ?_)
  ·refine wo rfl<|qan E qlI rfl (qeW N r_0.Operand r1 e12 hG ok) rfl rfl ?_
   rintro _ w ⟨m23,c24,rfl,hle,ok,h25⟩
   have le_m0:=le_m0.trans hle
   have h4:=(mL qc2).up hle h4
   refine ⟨_,rfl,fun a E=>?_⟩
   refine wn<|qai (cl1 (cq le_m0 ok [0] rfl) (cq le_m0 ok [0] rfl)) fun hT=>qar [18] (by kernel_rfl) rfl (qat ?_)
   ·refine wo rfl<|lc E qlP rfl (qfe N _ r11 h25 r_0.Mod r2 e17 hG ok) fun w ok a E=>wn<|qai (cl1 (cq le_m0 ok [0] rfl) (cq le_m0 ok [0] rfl)) fun hT=>kt 19 E rfl hT (qa2 rfl) fun a E=>kt 20 E rfl hT (qaY rfl rfl) fun a E=>kt 21 E rfl hT (qaT rfl rfl) fun a E=>kt 22 E rfl hT (qah rfl) fun a E=>?_
    have E:=E.upd 27 c18 rfl
    refine kt 23 E rfl hT (qae qbf rfl) fun a E=>kt 24 E rfl hT (qaj qbO rfl (qab.cown 0 rfl rfl)) fun a E=>kt 25 E rfl hT (qaD qbz h4 rfl) fun a E=>kt 26 E rfl hT (qay rfl rfl) fun a E=>kt 27 E rfl hT (qaT rfl rfl) fun a E=>kt 28 E rfl hT (qah rfl) fun a E=>?_
    have E:=E.upd 33 c22 rfl
    refine qam 29 false E rfl (by kernel_rfl) nP hT rfl rfl fun a E=>qam 30 false E rfl (by kernel_rfl) nP hT rfl rfl fun a E=>qam 31 false E rfl (by kernel_rfl) nP hT rfl rfl fun a E=>qam 32 false E rfl (by kernel_rfl) nP hT rfl rfl fun a E=>kt 33 E rfl hT (qaY rfl rfl) fun a E=>qaR (by kernel_rfl) ?_
    exact ⟨rfl,⟨m23,le_m0,ok,E.keep [1,38]⟩⟩
 have hF:=qbI c22 hF
 cases hF
 refine qaS [] (Cls u m0 ([(b5,oc 69 [vi r_0.Operand,vi r_0.Mod,vb r_0.Not,c3])] :: [])) (Cls u m0 ([(b5,oc 69 [vi r_0.Operand,vi r_0.Mod,vb r_0.Not,c3])] :: [])) (by kernel_rfl) ?_
 intro w hw
 replace ok:=qa6 ok hw
 clear hw
 have h4_o:=h4
 refine qai (cl1 (cq le_m0 ok [0] rfl) (cq le_m0 ok [0] rfl)) fun hT=>kt 0 E rfl hT (qae qa1 rfl) fun a E=>kt 1 E rfl hT (qaj qaq rfl (qab.cown 0 rfl rfl)) fun a E=>kt 2 E rfl hT (qay rfl rfl) fun a E=>kt 3 E rfl hT (qah rfl) fun a E=>?_
 have E:=E.upd 8 c8 rfl
 refine kt 4 E rfl hT (qae qa1 rfl) fun a E=>kt 5 E rfl hT (qaj qaq rfl (qab.cown 0 rfl rfl)) fun a E=>kt 6 E rfl hT (qbp rfl rfl) fun a E=>kt 7 E rfl hT (qaT rfl rfl) fun a E=>kt 8 E rfl hT (qah rfl) fun a E=>?_
 have E:=E.upd 13 c9 rfl
 refine kt 9 E rfl hT (qae qcZ rfl) fun a E=>kt 10 E rfl hT (qaj qaq rfl (qab.cown 0 rfl rfl)) fun a E=>kt 11 E rfl hT (qdp rfl rfl) fun a E=>kt 12 E rfl hT (qah rfl) fun a E=>?_
 have E:=E.upd 17 c10 rfl
 refine kt 13 E rfl hT (qae qa1 rfl) fun a E=>kt 14 E rfl hT (qaj qaq rfl (qab.cown 0 rfl rfl)) fun a E=>kt 16 E rfl hT (qae qcZ rfl) fun a E=>kt 17 E rfl hT (qaj qaq rfl (qab.cown 0 rfl rfl)) fun a E=>qar [15] (by kernel_rfl) rfl (qat ?_)
 ·refine wo rfl<|qan E qlI rfl (qeW N r_0.Operand r1 e12 hG ok) rfl rfl ?_
  rintro _ w ⟨m26,c27,rfl,hle,ok,h28⟩
  have le_m0:=le_m0.trans hle
  have h4:=(mL qc2).up hle h4
  refine ⟨_,rfl,fun a E=>?_⟩
  refine wn<|qai (cl1 (cq le_m0 ok [0] rfl) (cq le_m0 ok [0] rfl)) fun hT=>qar [18] (by kernel_rfl) rfl (qat ?_)
  ·refine wo rfl<|lc E qlP rfl (qfe N _ r11 h28 r_0.Mod r2 e17 hG ok) fun w ok a E=>wn<|qai (cl1 (cq le_m0 ok [0] rfl) (cq le_m0 ok [0] rfl)) fun hT=>kt 19 E rfl hT (qa2 rfl) fun a E=>kt 20 E rfl hT (qaY rfl rfl) fun a E=>kt 21 E rfl hT (qaT rfl rfl) fun a E=>kt 22 E rfl hT (qah rfl) fun a E=>?_
   have E:=E.upd 27 c18 rfl
   refine kt 23 E rfl hT (qae qbf rfl) fun a E=>kt 24 E rfl hT (qaj qbO rfl (qab.cown 0 rfl rfl)) fun a E=>kt 25 E rfl hT (qaD qbz h4 rfl) fun a E=>kt 26 E rfl hT (qay rfl rfl) fun a E=>kt 27 E rfl hT (qaT rfl rfl) fun a E=>kt 28 E rfl hT (qah rfl) fun a E=>?_
   have E:=E.upd 33 c22 rfl
   refine kt 29 E rfl hT (qae qbf rfl) fun a E=>kt 30 E rfl hT (qaj qbO rfl (qab.cown 0 rfl rfl)) fun a E=>kt 31 E rfl hT (qaD qbz h4 rfl) fun a E=>kt 32 E rfl hT (qbp rfl rfl) fun a E=>kt 33 E rfl hT (qaT rfl rfl) fun a E=>qaR (by kernel_rfl) ?_
   exact ⟨rfl,⟨m26,le_m0,ok,E.keep [1,38]⟩⟩
def qfL (u:World) (m0:Mem) (S:Segs) (r:Bool) (a:Act) (w:World):Prop :=
 Ok u m0 S w ∧ a.defers = [] ∧ RVs Tryz.prog a w [.t 2 (.bool r)]
theorem qgT (N:Nat) (vc_0:Value) (c_0:List (List (Relation))) (hc_0:(pL 1 (pL 4 qak)) m0 [vc_0] c_0) {r:Bool} (hF:qds N c_0 = some r) (hG:Glob u) (ok:Ok u m0 S w) :
  Calls Tryz.prog 23 [vc_0].toArray w fun e w'=>(e = .returned (.bool r) ∧ Ok u m0 S w'):=by
 unfold qds at hF
 refine en (qfL u m0 S) r Tryz.func23 rfl rfl rfl (fun _ _ h=>ra h rfl) fun fin a E=>sg<|aw E rfl fun a E=>sg<|aw E rfl fun a E=>wp_seq<|sg<|av E rfl fun a E=>wn<|wp_block<|bd hF fun o3 hL hF=>qaF _ (fun (s:Int × Int) a w=>Ok u m0 (S) w ∧ Env 45 a [(0,vc_0),(3,vi s.1),(4,vi s.2)] ∧ InR .i64 s.1 ∧ InR .i64 s.2) (fun (b:(Int ⊕ Bool)) e a w=>(Sum.elim (fun b77=>e = (.exit 0) ∧ Ok u m0 (S) w ∧ Env 45 a [(0,vc_0),(3,vi b77)] ∧ InR .i64 b77) (fun b79=>e = .ret ∧ qfL u m0 S b79 a w)) b) ?_ ?_ N _ a w hL ⟨ok,E.keep [0,3,4],(ir 0),(ir 0)⟩
 rotate_left
 ·intro e a w _ hO
  rcases o3 with o3 | o3
  rotate_left
  ·obtain ⟨rfl,hret⟩:=hO
   refine qax<|qal ?_
   exact fin hF hret
  have hF:=qbT hF
  obtain ⟨rfl,ok,E,r75⟩:=hO
  refine qaN<|qaa<|sg<|mv E rfl fun a E=>lv E ok (qaD qcv hc_0 rfl) fun a E=>lw E (qbp rfl rfl) fun a E=>mv E rfl fun a E=>bu E 41 hF (fun c76 hF E=>?_) fun c76 hF E=>?_
  ·refine mv E rfl fun a E=>lw E (qf7 rfl rfl) fun a E=>pt E rfl rfl fun a E=>aw E rfl fun a E=>wp_ret ?_
   exact fin hF ⟨ok,E.d,rz E rfl⟩
  refine lsq E fun a E=>pf E rfl rfl fun a E=>aw E rfl fun a E=>wp_ret ?_
  exact fin hF ⟨ok,E.d,rz E rfl⟩
 rintro ⟨v6,v7⟩ a w r ⟨ok,E,r8,r9⟩ hF
 replace hF:qbY N c_0 v6 v7 = some r:=hF
 unfold qbY at hF
 refine wp_seq<|sg<|mz E rfl rfl fun a E=>lv E ok (qaD qcv hc_0 rfl) fun a E=>lw E (qay rfl rfl) fun a E=>wn<|cg E rfl hF (fun c10 hF=>?_) fun c10 hF=>?_
 ·refine wp_exit<|qaA ?_
  cases hF
  exact so (sl ⟨rfl,⟨ok,E.keep [0,3],r8⟩⟩)
 refine wp_skip<|qaa<|wp_seq<|wp_block<|wp_seq<|sg<|mv E rfl fun a E=>mv E rfl fun a E=>?_
 obtain ⟨x11,e12,hF⟩:=bnd hF
 obtain ⟨b13,o14,es15,hl16,rr17,at18,yy19⟩:=ia E 12 13 qcv hc_0 e12
 obtain ⟨c20,rfl,h21⟩:=qcz rr17
 refine lv E ok (yy19 _ _) fun a E=>lv E ok (qaj qcN rfl (qab.ro at18)) fun a E=>lv E ok (qaD qbk h21 rfl) fun a E=>lw E (qau rfl rfl) fun a E=>wn<|cf E rfl hF (fun c22 hF=>?_) fun c22 hF=>?_
 ·refine sg<|aw E rfl fun a E=>wp_ret<|qal<|qax<|qal ?_
  cases hF
  exact so (sr ⟨rfl,⟨ok,E.d,rz E rfl⟩⟩)
 refine wp_skip<|qaa<|sg<|aw E rfl fun a E=>wp_block<|bd hF fun o25 hL hF=>qaF _ (fun (s:Int × Int) a w=>Ok u m0 (S) w ∧ Env 45 a [(0,vc_0),(3,vi s.1),(4,vi v7),(5,vi s.2)] ∧ InR .i64 s.1 ∧ InR .i64 s.2) (fun (b:(Int ⊕ Bool)) e a w=>(Sum.elim (fun b72=>e = (.exit 2) ∧ Ok u m0 (S) w ∧ Env 45 a [(0,vc_0),(3,vi b72),(4,vi v7)] ∧ InR .i64 b72) (fun b74=>e = .ret ∧ qfL u m0 S b74 a w)) b) ?_ ?_ N _ a w hL ⟨ok,E.keep [0,3,4,5],r8,(ir 0)⟩
 rotate_left
 ·intro e a w _ hO
  rcases o25 with o25 | o25
  rotate_left
  ·have hF:=qmR hF
   obtain ⟨rfl,hret⟩:=hO
   refine qax<|qax<|qal ?_
   cases hF
   exact so (sr ⟨rfl,hret⟩)
  have hF:=qbT hF
  obtain ⟨rfl,ok,E,r71⟩:=hO
  refine qaN<|qap<|qaa<|qac<|mv E rfl fun a E=>lw E (qaE rfl rfl (InR.inc r9 (qao hc_0) c10)) fun a E=>av E rfl fun a E=>wpList_nil ?_
  cases hF
  exact qas ⟨ok,E.keep [0,3,4],r71,(InR.inc r9 (qao hc_0) c10)⟩
 rintro ⟨v28,v29⟩ a w r ⟨ok,E,r30,r31⟩ hF
 replace hF:qbF N c_0 v7 v28 v29 = some r:=hF
 unfold qbF at hF
 refine wp_seq<|sg<|mz E rfl rfl fun a E=>mv E rfl fun a E=>?_
 obtain ⟨x32,e33,hF⟩:=bnd hF
 obtain ⟨b34,o35,es36,hl37,rr38,at39,yy40⟩:=ia E 19 20 qcv hc_0 e33
 obtain ⟨c41,rfl,h42⟩:=qcz rr38
 refine lv E ok (yy40 _ _) fun a E=>lv E ok (qaj qcN rfl (qab.ro at39)) fun a E=>lv E ok (qaD qbk h42 rfl) fun a E=>lw E (qay rfl rfl) fun a E=>wn<|cg E rfl hF (fun c43 hF=>?_) fun c43 hF=>?_
 ·refine wp_exit<|qaA ?_
  cases hF
  exact so (sl ⟨rfl,⟨ok,E.keep [0,3,4],r30⟩⟩)
 refine wp_skip<|qaa<|wp_seq<|wp_block<|sg<|mv E rfl fun a E=>lw E (qcc rfl rfl) fun a E=>aw E rfl fun a E=>sg<|mz E rfl rfl fun a E=>?_
 obtain ⟨x44,e45,hF⟩:=bnd hF
 obtain ⟨b46,o47,es48,hl49,rr50,at51,yy52⟩:=ia E 29 30 qcv hc_0 e45
 obtain ⟨c53,rfl,h54⟩:=qcz rr50
 refine lv E ok (yy52 _ _) fun a E=>lv E ok (qaj qcN rfl (qab.ro at51)) fun a E=>mv E rfl fun a E=>?_
 obtain ⟨x55,e56,hF⟩:=bnd hF
 obtain ⟨b57,o58,es59,hl60,rr61,at62,yy63⟩:=ia E 32 33 qbk h54 e56
 obtain ⟨c66,rfl,r64,r65,h67⟩:=rr61
 refine lv E ok (yy63 _ _) fun a E=>lv E ok (qag (cs:=[vi x55.Operand,vi x55.Mod,vb x55.Not,c66]) qbr rfl rfl (qab.ro at62)) fun a E=>bd hF fun r68 e69 hF=>lc E qr8 rfl (qiW N _ x55 ⟨_,rfl,r64,r65,h67⟩ e69 hG ok) fun w ok a E=>lw E (qa2 rfl) fun a E=>wn<|cg E rfl hF (fun c70 hF=>?_) fun c70 hF=>?_
 ·refine wp_skip<|qap<|qaa<|qac<|mv E rfl fun a E=>lw E (qaE rfl rfl (InR.inc r31 (qao h42) c43)) fun a E=>av E rfl fun a E=>wpList_nil ?_
  cases hF
  exact qas ⟨ok,E.keep [0,3,4,5],(InR.wrap _ _),(InR.inc r31 (qao h42) c43)⟩
 refine sg<|aw E rfl fun a E=>wp_ret<|qax<|qal ?_
 cases hF
 exact so (sr ⟨rfl,⟨ok,E.d,rz E rfl⟩⟩)
end Go.Proofs.YtidfofhmnlhfjaaGreatDoor
namespace Go.Proofs.YtidfofhmnlhfjaaGreatDoor
open Go.X
variable {u:World} {m0:Mem} {S:Segs} {w:World}
set_option maxHeartbeats 4000000
set_option maxRecDepth 100000
def pDFA:Rp DFA:=fun m cs x=>∃ c1 c2,cs = [.int .i64 x.Start,c1,c2] ∧ InR .i64 x.Start ∧ (pL 1 (pL 1 (pI .i64))) m [c1] x.Next ∧ (pL 1 pB) m [c2] x.Accept
theorem Arr6_Tracker.set_list {a z:Arr6_Tracker} {i:Int} {x:Tracker} (h:Arr6_Tracker.set a i x = some z):setI a.list i x = some z.list:=by
 unfold Arr6_Tracker.set at h
 cases hs:setI a.list i x with
 | none=>rw [hs] at h; cases h
 | some l =>
  rw [hs] at h
  obtain ⟨_,_,hl⟩:=qgN hs
  have hn:l.length = 6:=by rw [hl,List.length_set]; rfl
  clear hl hs
  match l,hn,h with
  | [x0,x1,x2,x3,x4,x5],_,h=>cases h; rfl
def qca:Rp Reading:=fun _ cs x=>cs = [.int .i64 x.phase,.int .i64 x.trackers.e0.a,.int .i64 x.trackers.e0.b,.int .i64 x.trackers.e1.a,.int .i64 x.trackers.e1.b,.int .i64 x.trackers.e2.a,.int .i64 x.trackers.e2.b,.int .i64 x.trackers.e3.a,.int .i64 x.trackers.e3.b,.int .i64 x.trackers.e4.a,.int .i64 x.trackers.e4.b,.int .i64 x.trackers.e5.a,.int .i64 x.trackers.e5.b] ∧ InR .i64 x.phase ∧ InR .i64 x.trackers.e0.a ∧ InR .i64 x.trackers.e0.b ∧ InR .i64 x.trackers.e1.a ∧ InR .i64 x.trackers.e1.b ∧ InR .i64 x.trackers.e2.a ∧ InR .i64 x.trackers.e2.b ∧ InR .i64 x.trackers.e3.a ∧ InR .i64 x.trackers.e3.b ∧ InR .i64 x.trackers.e4.a ∧ InR .i64 x.trackers.e4.b ∧ InR .i64 x.trackers.e5.a ∧ InR .i64 x.trackers.e5.b
theorem qnb:Mono qca:=⟨fun _ h=>by
 obtain ⟨e,h0,h1,h2,h3,h4,h5,h6,h7,h8,h9,h10,h11,h12⟩:=h
 exact ⟨e,h0,h1,h2,h3,h4,h5,h6,h7,h8,h9,h10,h11,h12⟩,fun h=>by
 obtain ⟨rfl,h0,h1,h2,h3,h4,h5,h6,h7,h8,h9,h10,h11,h12⟩:=h
 exact ⟨rfl,rfl,rfl,rfl,rfl,rfl,rfl,rfl,rfl,rfl,rfl,rfl,rfl,trivial⟩⟩
def qbX:Rp Arr11_Int:=fun _ cs x=>cs = [.int .i64 x.e0,.int .i64 x.e1,.int .i64 x.e2,.int .i64 x.e3,.int .i64 x.e4,.int .i64 x.e5,.int .i64 x.e6,.int .i64 x.e7,.int .i64 x.e8,.int .i64 x.e9,.int .i64 x.e10] ∧ InR .i64 x.e0 ∧ InR .i64 x.e1 ∧ InR .i64 x.e2 ∧ InR .i64 x.e3 ∧ InR .i64 x.e4 ∧ InR .i64 x.e5 ∧ InR .i64 x.e6 ∧ InR .i64 x.e7 ∧ InR .i64 x.e8 ∧ InR .i64 x.e9 ∧ InR .i64 x.e10
theorem qbG:Mono qbX:=⟨fun _ h=>by
 obtain ⟨e,h0,h1,h2,h3,h4,h5,h6,h7,h8,h9,h10⟩:=h
 exact ⟨e,h0,h1,h2,h3,h4,h5,h6,h7,h8,h9,h10⟩,fun h=>by
 obtain ⟨rfl,h0,h1,h2,h3,h4,h5,h6,h7,h8,h9,h10⟩:=h
 exact ⟨rfl,rfl,rfl,rfl,rfl,rfl,rfl,rfl,rfl,rfl,rfl,trivial⟩⟩
theorem Arr11_Int.set_list {a z:Arr11_Int} {i:Int} {x:Int} (h:Arr11_Int.set a i x = some z):setI a.list i x = some z.list:=by
 unfold Arr11_Int.set at h
 cases hs:setI a.list i x with
 | none=>rw [hs] at h; cases h
 | some l =>
  rw [hs] at h
  obtain ⟨_,_,hl⟩:=qgN hs
  have hn:l.length = 11:=by rw [hl,List.length_set]; rfl
  clear hl hs
  match l,hn,h with
  | [x0,x1,x2,x3,x4,x5,x6,x7,x8,x9,x10],_,h=>cases h; rfl
def qg6:Rp Table:=fun m cs x=>∃ c0 c1,cs = [c0,c1] ∧ (pL 11 qbX) m [c0] x.next ∧ (pL 1 pB) m [c1] x.accept
def pKey:Rp Key:=fun _ cs x=>cs = [.int .i64 x.class_,.int .i64 x.next.e0,.int .i64 x.next.e1,.int .i64 x.next.e2,.int .i64 x.next.e3,.int .i64 x.next.e4,.int .i64 x.next.e5,.int .i64 x.next.e6,.int .i64 x.next.e7,.int .i64 x.next.e8,.int .i64 x.next.e9,.int .i64 x.next.e10] ∧ InR .i64 x.class_ ∧ InR .i64 x.next.e0 ∧ InR .i64 x.next.e1 ∧ InR .i64 x.next.e2 ∧ InR .i64 x.next.e3 ∧ InR .i64 x.next.e4 ∧ InR .i64 x.next.e5 ∧ InR .i64 x.next.e6 ∧ InR .i64 x.next.e7 ∧ InR .i64 x.next.e8 ∧ InR .i64 x.next.e9 ∧ InR .i64 x.next.e10
theorem mKey:Mono pKey:=⟨fun _ h=>by
 obtain ⟨e,h0,h1,h2,h3,h4,h5,h6,h7,h8,h9,h10,h11⟩:=h
 exact ⟨e,h0,h1,h2,h3,h4,h5,h6,h7,h8,h9,h10,h11⟩,fun h=>by
 obtain ⟨rfl,h0,h1,h2,h3,h4,h5,h6,h7,h8,h9,h10,h11⟩:=h
 exact ⟨rfl,rfl,rfl,rfl,rfl,rfl,rfl,rfl,rfl,rfl,rfl,rfl,trivial⟩⟩
theorem qiH:aggB Tryz.prog 129 11 = true:=by kernel_rfl
theorem qn5:aggB Tryz.prog 132 12 = true:=by kernel_rfl
theorem qgO:aggB Tryz.prog 35 3 = true:=by kernel_rfl
theorem qiI:aggB Tryz.prog 75 2 = true:=by kernel_rfl
theorem qcB:aggB Tryz.prog 89 13 = true:=by kernel_rfl
theorem qhD:ArT Tryz.prog 129 3 11 1:=ArT.of (by kernel_rfl)
theorem qgC:ArT Tryz.prog 87 86 6 2:=ArT.of (by kernel_rfl)
theorem qpf:qaO Tryz.prog 132 1 1 = true:=by kernel_rfl
theorem qiJ:qaO Tryz.prog 35 1 1 = true:=by kernel_rfl
theorem qf9:qaO Tryz.prog 75 0 0 = true:=by kernel_rfl
theorem qg0:qaO Tryz.prog 75 1 1 = true:=by kernel_rfl
theorem qcx:qaO Tryz.prog 89 0 0 = true:=by kernel_rfl
theorem qgc:qaO Tryz.prog 89 1 1 = true:=by kernel_rfl
theorem qrZ:goB Tryz.prog 44 = true:=by kernel_rfl
theorem qsl:goB Tryz.prog 45 = true:=by kernel_rfl
theorem qsr:goB Tryz.prog 48 = true:=by kernel_rfl
theorem qsn:goB Tryz.prog 49 = true:=by kernel_rfl
theorem qrT:goB Tryz.prog 50 = true:=by kernel_rfl
theorem qr5:goB Tryz.prog 51 = true:=by kernel_rfl
theorem qsg:goB Tryz.prog 53 = true:=by kernel_rfl
theorem qr0:goB Tryz.prog 83 = true:=by kernel_rfl
theorem qr1:goB Tryz.prog 84 = true:=by kernel_rfl
theorem qsq:goB Tryz.prog 85 = true:=by kernel_rfl
theorem qn3:∃ i,Tryz.prog.info? 129 = some i ∧ i.size = 11:=⟨_,rfl,by kernel_rfl⟩
theorem qp0:∃ i,Tryz.prog.info? 132 = some i ∧ i.size = 12:=⟨_,rfl,by kernel_rfl⟩
theorem qq8:∃ i,Tryz.prog.info? 31 = some i ∧ i.size = 1:=⟨_,rfl,by kernel_rfl⟩
theorem qoQ:∃ i,Tryz.prog.info? 32 = some i ∧ i.size = 1:=⟨_,rfl,by kernel_rfl⟩
theorem qhK:∃ i,Tryz.prog.info? 35 = some i ∧ i.size = 3:=⟨_,rfl,by kernel_rfl⟩
theorem qoG:∃ i,Tryz.prog.info? 73 = some i ∧ i.size = 1:=⟨_,rfl,by kernel_rfl⟩
theorem qlt:∃ i,Tryz.prog.info? 75 = some i ∧ i.size = 2:=⟨_,rfl,by kernel_rfl⟩
theorem qfU:∃ i,Tryz.prog.info? 89 = some i ∧ i.size = 13:=⟨_,rfl,by kernel_rfl⟩
theorem qlo:oneB Tryz.prog 31 = true:=by kernel_rfl
theorem qhN:oneB Tryz.prog 32 = true:=by kernel_rfl
theorem qh0:oneB Tryz.prog 73 = true:=by kernel_rfl
theorem qoe:qd3 Tryz.prog 132 = some [(0,1),(1,11)]:=by kernel_rfl
theorem qie:qd3 Tryz.prog 35 = some [(0,1),(1,1),(2,1)]:=by kernel_rfl
theorem qg4:qd3 Tryz.prog 89 = some [(0,1),(1,12)]:=by kernel_rfl
theorem qhL:SlT Tryz.prog 138 89 13:=SlT.of (by kernel_rfl)
theorem qkf:SlT Tryz.prog 31 72 1:=SlT.of (by kernel_rfl)
theorem qgE:SlT Tryz.prog 73 129 11:=SlT.of (by kernel_rfl)
theorem ql4:qlU Tryz.prog 3 = some (vi 0):=by kernel_rfl
theorem qfY:qck Tryz.prog 129 = some [vi 0,vi 0,vi 0,vi 0,vi 0,vi 0,vi 0,vi 0,vi 0,vi 0,vi 0]:=by kernel_rfl
theorem qnc:qck Tryz.prog 132 = some [vi 0,vi 0,vi 0,vi 0,vi 0,vi 0,vi 0,vi 0,vi 0,vi 0,vi 0,vi 0]:=by kernel_rfl
theorem qgx:qck Tryz.prog 35 = some [vi 0,(Value.slice none 0 0),(Value.slice none 0 0)]:=by kernel_rfl
theorem qhH:qck Tryz.prog 75 = some [(Value.slice none 0 0),(Value.slice none 0 0)]:=by kernel_rfl
theorem qfl:qck Tryz.prog 89 = some [vi 0,vi 0,vi 0,vi 0,vi 0,vi 0,vi 0,vi 0,vi 0,vi 0,vi 0,vi 0,vi 0]:=by kernel_rfl
theorem qnK:laidOutB Tryz.prog = true:=by kernel_rfl
theorem qmf:KeyR Tryz.prog 89 (aggK qca):=qo0 (n:=13) qnK (of_decide_eq_true (by kernel_rfl)) (by kernel_rfl) (of_decide_eq_true (by kernel_rfl)) (of_decide_eq_true (by kernel_rfl)) (by kernel_rfl) (by kernel_rfl)
 (fun {m cs x} h=>by
  obtain ⟨rfl,h0,h1,h2,h3,h4,h5,h6,h7,h8,h9,h10,h11,h12⟩:=h
  rfl)
 (fun {m cs x} d h=>by
  obtain ⟨rfl,h0,h1,h2,h3,h4,h5,h6,h7,h8,h9,h10,h11,h12⟩:=h
  refine qkc Tryz.underlying89 (by kernel_rfl) (by kernel_rfl) ?_
  intro f hf
  simp only [List.mem_cons,List.not_mem_nil,or_false] at hf
  rcases hf with rfl | rfl
  ·exact qjY Tryz.underlying3 h0
  ·exact qp5 (k:=2) (f:=(fun z:Tracker=>[.int .i64 z.a,.int .i64 z.b])) (xs:=Arr6_Tracker.list (x.trackers)) Tryz.underlying87 (by kernel_rfl) (by kernel_rfl) rfl rfl (fun _=>rfl) (fun y hy=>by have hq:=AllP.mem (q:=(fun z:Tracker=>InR .i64 z.a ∧ InR .i64 z.b)) (xs:=Arr6_Tracker.list (x.trackers)) ⟨⟨h1,h2⟩,⟨h3,h4⟩,⟨h5,h6⟩,⟨h7,h8⟩,⟨h9,h10⟩,⟨h11,h12⟩,trivial⟩ y hy; refine qkc Tryz.underlying86 (by kernel_rfl) (by kernel_rfl) ?_; intro f hf; simp only [List.mem_cons,List.not_mem_nil,or_false] at hf; rcases hf with rfl | rfl <;> first | exact qjY Tryz.underlying3 hq.1 | exact qjY Tryz.underlying3 hq.2))
 (fun {m m' cs cs' x x'} h h'=>by
  obtain ⟨rfl,_,_,_,_,_,_,_,_,_,_,_,_,_⟩:=h
  obtain ⟨rfl,_,_,_,_,_,_,_,_,_,_,_,_,_⟩:=h'
  constructor
  ·intro e; simp at e; rcases x with ⟨y0,⟨⟨y1,y2⟩,⟨y3,y4⟩,⟨y5,y6⟩,⟨y7,y8⟩,⟨y9,y10⟩,⟨y11,y12⟩⟩⟩; rcases x' with ⟨y13,⟨⟨y14,y15⟩,⟨y16,y17⟩,⟨y18,y19⟩,⟨y20,y21⟩,⟨y22,y23⟩,⟨y24,y25⟩⟩⟩; simp_all
  ·intro e; rw [e])
theorem qnv:KeyR Tryz.prog 132 (aggK pKey):=qo7 (n:=12) qnK (of_decide_eq_true (by kernel_rfl)) (by kernel_rfl) (of_decide_eq_true (by kernel_rfl)) (of_decide_eq_true (by kernel_rfl)) (by kernel_rfl) (by kernel_rfl)
 (fun {m cs x} h=>by
  obtain ⟨rfl,h0,h1,h2,h3,h4,h5,h6,h7,h8,h9,h10,h11⟩:=h
  rfl)
 (fun {m cs x} d h=>by
  obtain ⟨rfl,h0,h1,h2,h3,h4,h5,h6,h7,h8,h9,h10,h11⟩:=h
  refine qkc Tryz.underlying132 (by kernel_rfl) (by kernel_rfl) ?_
  intro f hf
  simp only [List.mem_cons,List.not_mem_nil,or_false] at hf
  rcases hf with rfl | rfl
  ·exact qjY Tryz.underlying3 h0
  ·exact qrM (f:=(Value.int .i64)) (xs:=Arr11_Int.list (x.next)) Tryz.underlying129 (by kernel_rfl) (by kernel_rfl) rfl rfl (fun y hy=>by have hq:=AllP.mem (q:=(InR .i64)) (xs:=Arr11_Int.list (x.next)) ⟨h1,h2,h3,h4,h5,h6,h7,h8,h9,h10,h11,trivial⟩ y hy; exact qjY Tryz.underlying3 hq))
 (fun {m m' cs cs' x x'} h h'=>by
  obtain ⟨rfl,_,_,_,_,_,_,_,_,_,_,_,_⟩:=h
  obtain ⟨rfl,_,_,_,_,_,_,_,_,_,_,_,_⟩:=h'
  constructor
  ·intro e; simp at e; rcases x with ⟨y0,⟨y1,y2,y3,y4,y5,y6,y7,y8,y9,y10,y11⟩⟩; rcases x' with ⟨y12,⟨y13,y14,y15,y16,y17,y18,y19,y20,y21,y22,y23⟩⟩; simp_all
  ·intro e; rw [e])
def qh6 (u:World) (m0:Mem) (S:Segs) (pb0:Nat) (pb1:Nat) (pb2:Nat) (x0:List (Int)) (c1:Value) (M2:List (Nat × Obj)) (x1:Table) (c4:Value) (c6:Value) (x2:List (Int)) (c8:Value) (M9:List (Nat × Obj)) (r:Int) (a:Act) (w:World):Prop :=
 Ok u m0 ([(pb0,oc 72 [c1])] :: M2 :: [(pb1,oc 75 [c4,c6])] :: [(pb2,oc 72 [c8])] :: M9 :: S) w ∧ a.defers = [] ∧ RVs Tryz.prog a w [.t 7 (.int .i64 r)] ∧ InR .i64 r
theorem qh2 (N:Nat) (c_0:Int) (rc_0:InR .i64 c_0) (symbol_1:Int) (rsymbol_1:InR .i64 symbol_1) {pb0:Nat} {c1:Value} {M2:List (Nat × Obj)} (x0:List (Int)) (h3:ORow 3 1 (pI .i64) m0 c1 x0 M2) {pb1:Nat} {c4:Value} {c6:Value} (x1:Table) (h5:(pL 11 qbX) m0 [c4] x1.next) (h7:(pL 1 pB) m0 [c6] x1.accept) {pb2:Nat} {c8:Value} {M9:List (Nat × Obj)} (x2:List (Int)) (h10:ORow 3 1 (pI .i64) m0 c8 x2 M9) {r:Int} (hF:qcw N c_0 symbol_1 x0 x1 x2 = some r) (hG:Glob u) (ok:Ok u m0 ([(pb0,oc 72 [c1])] :: M2 :: [(pb1,oc 75 [c4,c6])] :: [(pb2,oc 72 [c8])] :: M9 :: S) w) :
  Calls Tryz.prog 84 [vi c_0,vi symbol_1,vp pb0,vp pb1,vp pb2].toArray w fun e w'=>(e = .returned (.int .i64 r) ∧ Ok u m0 ([(pb0,oc 72 [c1])] :: M2 :: [(pb1,oc 75 [c4,c6])] :: [(pb2,oc 72 [c8])] :: M9 :: S) w') ∧ InR .i64 r:=by
 unfold qcw at hF
 refine en (qh6 u m0 S pb0 pb1 pb2 x0 c1 M2 x1 c4 c6 x2 c8 M9) r Tryz.func84 rfl rfl rfl (fun _ _ h=>rb h rfl) fun fin a E=>sg<|aw E rfl fun a E=>wp_seq<|qeU (by kernel_rfl) (by kernel_rfl) ok<|qv E (qaj qeC rfl (qab.own 0 rfl rfl)) fun a E=>qv E (qae qf9 rfl) fun a E=>qv E (qaj qh0 rfl (qab.own 2 rfl rfl)) fun a E=>qv E (qaj qeC rfl (qab.own 3 rfl rfl)) fun a E=>qv E (qah rfl) fun a E=>?_
 obtain ⟨x11,e12,hF⟩:=bnd hF
 obtain ⟨b13,o14,hp15,yy16⟩:=qcm qbU h10 e12 (P:=Tryz.prog) (X:=.tmp 11) (I:=.tmp 12) (kd:=.i64) (qaU E rfl) (qaU E rfl)
 refine qv E (yy16 _ _) fun a E=>?_
 obtain ⟨es17,hl18,rr19,hh20⟩:=qcY h10 e12 hp15 (by decide)
 obtain ⟨rfl,r21⟩:=rr19
 refine qv E (qaj qaq rfl (hh20 _ _ _ 4 rfl)) fun a E=>qv E (qah rfl) fun a E=>?_
 obtain ⟨x22,e23,hF⟩:=bnd hF
 obtain ⟨b24,o25,es26,hl27,rr28,at29,yy30⟩:=ia E 10 14 qgE h5 e23
 obtain ⟨rfl,r31,r32,r33,r34,r35,r36,r37,r38,r39,r40,r41⟩:=rr28
 refine qv E (yy30 _ _) fun a E=>?_
 obtain ⟨x42,e43,hF⟩:=bnd hF
 replace e43:idx (Arr11_Int.list x22) symbol_1 = some x42:=e43
 refine qv E (qeo qhD rfl rfl (qaQ e43).1 (qaQ e43).2) fun a E=>qv E (qaj qaq rfl (qab.idx (xs:=Arr11_Int.list x22) (f:=(Value.int .i64)) (qab.ro at29) e43)) fun a E=>?_
 obtain ⟨x44,e45,hF⟩:=bnd hF
 obtain ⟨b46,o47,hp48,yy49⟩:=qcm qbU h3 e45 (P:=Tryz.prog) (X:=.tmp 8) (I:=.tmp 18) (kd:=.i64) (qaU E rfl) (qaU E rfl)
 refine qv E (yy49 _ _) fun a E=>?_
 obtain ⟨es50,hl51,rr52,hh53⟩:=qcY h3 e45 hp48 (by decide)
 obtain ⟨rfl,r54⟩:=rr52
 refine qv E (qaj qaq rfl (hh53 _ _ _ 1 rfl)) fun a E=>qv E (qbA rfl) fun a E=>wpQuiet_nil ?_
 intro w ok
 refine qaa<|wp_ret ?_
 exact fin hF ⟨ok,E.d,rz E rfl,r54⟩
def qh5 (u:World) (m0:Mem) (S:Segs) (pb0:Nat) (pb1:Nat) (x0:Table) (c1:Value) (c3:Value) (x1:List (Int)) (c5:Value) (M6:List (Nat × Obj)) (r:Bool) (a:Act) (w:World):Prop :=
 Ok u m0 ([(pb0,oc 75 [c1,c3])] :: [(pb1,oc 72 [c5])] :: M6 :: S) w ∧ a.defers = [] ∧ RVs Tryz.prog a w [.t 4 (.bool r)]
theorem qh3 (N:Nat) (c_0:Int) (rc_0:InR .i64 c_0) {pb0:Nat} {c1:Value} {c3:Value} (x0:Table) (h2:(pL 11 qbX) m0 [c1] x0.next) (h4:(pL 1 pB) m0 [c3] x0.accept) {pb1:Nat} {c5:Value} {M6:List (Nat × Obj)} (x1:List (Int)) (h7:ORow 3 1 (pI .i64) m0 c5 x1 M6) {r:Bool} (hF:qdd N c_0 x0 x1 = some r) (hG:Glob u) (ok:Ok u m0 ([(pb0,oc 75 [c1,c3])] :: [(pb1,oc 72 [c5])] :: M6 :: S) w) :
  Calls Tryz.prog 85 [vi c_0,vp pb0,vp pb1].toArray w fun e w'=>(e = .returned (.bool r) ∧ Ok u m0 ([(pb0,oc 75 [c1,c3])] :: [(pb1,oc 72 [c5])] :: M6 :: S) w'):=by
 unfold qdd at hF
 refine en (qh5 u m0 S pb0 pb1 x0 c1 c3 x1 c5 M6) r Tryz.func85 rfl rfl rfl (fun _ _ h=>ra h rfl) fun fin a E=>sg<|aw E rfl fun a E=>wp_seq<|qeU (by kernel_rfl) (by kernel_rfl) ok<|qv E (qae qg0 rfl) fun a E=>qv E (qaj qhN rfl (qab.own 0 rfl rfl)) fun a E=>qv E (qaj qeC rfl (qab.own 1 rfl rfl)) fun a E=>qv E (qah rfl) fun a E=>?_
 obtain ⟨x8,e9,hF⟩:=bnd hF
 obtain ⟨b10,o11,hp12,yy13⟩:=qcm qbU h7 e9 (P:=Tryz.prog) (X:=.tmp 7) (I:=.tmp 8) (kd:=.i64) (qaU E rfl) (qaU E rfl)
 refine qv E (yy13 _ _) fun a E=>?_
 obtain ⟨es14,hl15,rr16,hh17⟩:=qcY h7 e9 hp12 (by decide)
 obtain ⟨rfl,r18⟩:=rr16
 refine qv E (qaj qaq rfl (hh17 _ _ _ 2 rfl)) fun a E=>?_
 obtain ⟨x19,e20,hF⟩:=bnd hF
 obtain ⟨b21,o22,es23,hl24,rr25,at26,yy27⟩:=ia E 6 10 qf8 h4 e20
 obtain rfl:=rr25
 refine qv E (yy27 _ _) fun a E=>qv E (qaj qdx rfl (qab.ro at26)) fun a E=>qv E (qbA rfl) fun a E=>wpQuiet_nil ?_
 intro w ok
 refine qaa<|wp_ret ?_
 exact fin hF ⟨ok,E.d,rz E rfl⟩
def qg1 (u:World) (m0:Mem) (S:Segs) (pb0:Nat) (pb1:Nat) (pb2:Nat) (x0:List (Int)) (c1:Value) (M2:List (Nat × Obj)) (x1:Table) (c4:Value) (c6:Value) (x2:List (Int)) (c8:Value) (M9:List (Nat × Obj)) (r:Table) (a:Act) (w:World):Prop :=
 ∃ m1 v0,m0.le m1 ∧ Ok u m1 ([(pb0,oc 72 [c1])] :: M2 :: [(pb1,oc 75 [c4,c6])] :: [(pb2,oc 72 [c8])] :: M9 :: S) w ∧ a.defers = [] ∧ RVs Tryz.prog a w [.c 6 75 (.agg v0.toArray)] ∧ qg6 m1 v0 r
theorem qgV (N:Nat) (start_0:Int) (rstart_0:InR .i64 start_0) {pb0:Nat} {c1:Value} {M2:List (Nat × Obj)} (x0:List (Int)) (h3:ORow 3 1 (pI .i64) m0 c1 x0 M2) {pb1:Nat} {c4:Value} {c6:Value} (x1:Table) (h5:(pL 11 qbX) m0 [c4] x1.next) (h7:(pL 1 pB) m0 [c6] x1.accept) {pb2:Nat} {c8:Value} {M9:List (Nat × Obj)} (x2:List (Int)) (h10:ORow 3 1 (pI .i64) m0 c8 x2 M9) {r:Table} (hF:qcl N start_0 x0 x1 x2 = some r) (hG:Glob u) (ok:Ok u m0 ([(pb0,oc 72 [c1])] :: M2 :: [(pb1,oc 75 [c4,c6])] :: [(pb2,oc 72 [c8])] :: M9 :: S) w) :
  Calls Tryz.prog 83 [vi start_0,Value.func (.func 84) #[] #[.pointer (some ⟨pb0,0,none⟩),.pointer (some ⟨pb1,0,none⟩),.pointer (some ⟨pb2,0,none⟩)],Value.func (.func 85) #[] #[.pointer (some ⟨pb1,0,none⟩),.pointer (some ⟨pb2,0,none⟩)]].toArray w fun e w'=>∃ m1 v0,e = .returned (.agg v0.toArray) ∧ m0.le m1 ∧ Ok u m1 ([(pb0,oc 72 [c1])] :: M2 :: [(pb1,oc 75 [c4,c6])] :: [(pb2,oc 72 [c8])] :: M9 :: S) w' ∧ qg6 m1 v0 r:=by
 have le_m0:=Mem.le.refl m0
 unfold qcl at hF
 refine en (qg1 u m0 S pb0 pb1 pb2 x0 c1 M2 x1 c4 c6 x2 c8 M9) r Tryz.func83 rfl rfl rfl (by rintro a w ⟨m1,v0,hle,ok,hd,hrv,h0⟩; exact qbS [.c 6 75 (.agg v0.toArray)] hd rfl hrv ⟨m1,v0,rfl,hle,ok,h0⟩) fun fin a E=>sg<|qaB E ok qhH rfl rfl fun b11 a w E ok=>wn<|sg<|qh7 (kI .i64) (oneV (pI .i64)) E ok rfl rfl fun c12 M13 a w E ok h14=>mv E rfl fun a E=>bd hF fun l15 e16 hF=>qiK (.inr rfl) E ok 0 (qkS Tryz.underlying3) Tryz.underlying169 h14 rfl rfl rfl rfl ⟨rfl,rstart_0⟩ (qbc (ir 0)) e16 rfl fun M17 w ok h18=>mv E rfl fun a E=>aw E rfl fun a E=>sg<|mv E rfl fun a E=>qcn (R:=(pI .i64)) (xo:=[.tmp 19]) (xs:=([start_0]:List (Int))) E ok qbU qf1 rfl ⟨⟨_,rfl,rfl,(qbc rstart_0)⟩,trivial⟩ rfl rfl rfl rfl fun c19 M20 a w E ok h21=>aw E rfl fun a E=>sg<|qaB E ok qhH rfl rfl fun b22 a w E ok=>wn<|wp_seq<|sg<|aw E rfl fun a E=>wp_block ?_
 obtain ⟨M40,ok,h41⟩:=qes (e:=129) (k:=11) (R:=qbX) ok
 obtain ⟨M42,ok,h43⟩:=qes (e:=4) (k:=1) (R:=pB) ok
 refine bd hF fun o44 hL hF=>qaF _ (fun (s:(List (Int)) × Int × Table × (List (Int × Int))) a w=>∃ c45 M46 c49 M50 c52 M53 c55 M56,Ok u m0 (M53 :: M50 :: [(b22,oc 75 [c49,c52])] :: M46 :: M56 :: [(b11,oc 75 [(Value.slice none 0 0),(Value.slice none 0 0)])] :: [(pb0,oc 72 [c1])] :: M2 :: [(pb1,oc 75 [c4,c6])] :: [(pb2,oc 72 [c8])] :: M9 :: S) w ∧ Env 76 a [(1,(Value.func (.func 84) #[] #[.pointer (some ⟨pb0,0,none⟩),.pointer (some ⟨pb1,0,none⟩),.pointer (some ⟨pb2,0,none⟩)])),(2,(Value.func (.func 85) #[] #[.pointer (some ⟨pb1,0,none⟩),.pointer (some ⟨pb2,0,none⟩)])),(6,vp b11),(7,c55),(8,c45),(9,vp b22),(10,vi s.2.1)] ∧ ORow 3 1 (pI .i64) m0 c45 s.1 M46 ∧ InR .i64 s.2.1 ∧ ORow 129 11 qbX m0 c49 s.2.2.1.next M50 ∧ ORow 4 1 pB m0 c52 s.2.2.1.accept M53 ∧ OMap (kI .i64) (oneV (pI .i64)) m0 c55 s.2.2.2 M56) (fun (b:Table) e a w=>e = (.exit 0) ∧ ∃ c286 M287 c289 M290,Ok u m0 (M290 :: M287 :: [(b22,oc 75 [c286,c289])] :: [(b11,oc 75 [(Value.slice none 0 0),(Value.slice none 0 0)])] :: [(pb0,oc 72 [c1])] :: M2 :: [(pb1,oc 75 [c4,c6])] :: [(pb2,oc 72 [c8])] :: M9 :: S) w ∧ Env 76 a [(6,vp b11),(9,vp b22)] ∧ ORow 129 11 qbX m0 c286 b.next M287 ∧ ORow 4 1 pB m0 c289 b.accept M290) ?_ ?_ N _ a w hL ⟨c19,M20,(Value.slice none 0 0),M40,(Value.slice none 0 0),M42,c12,M17,ok,E.keep [1,2,6,7,8,9,10],h21,(ir 0),h41,h43,h18⟩
 rotate_left
 ·intro e a w _ hO
  obtain ⟨rfl,c276,M277,c279,M280,ok,E,h278,h281⟩:=hO
  refine qaN<|qaa<|sg<|lv E ok (qag (cs:=[c276,c279]) qiI rfl rfl (qab.own 2 rfl rfl)) fun a E=>qad E ok 3 rfl rfl rfl qlt rfl rfl ⟨(ORow.one h278),(ORow.one h281),trivial⟩ rfl rfl fun w ok=>wn<|wp_ret ?_
  obtain ⟨m282,hle,ok,hfz⟩:=(ok.frs 1 rfl).freeze
  have h283:=ORow.froz qbG h278 hle hfz (by decide)
  have le_m0:=le_m0.trans hle
  have h3:=ORow.up (mI .i64) hle h3
  have h5:=(mL qbG).up hle h5
  have h7:=(mL mB).up hle h7
  have h10:=ORow.up (mI .i64) hle h10
  have h281:=ORow.up mB hle h281
  obtain ⟨m284,hle,ok,hfz⟩:=(ok.frs 0 rfl).freeze
  have h285:=ORow.froz mB h281 hle hfz (by decide)
  have le_m0:=le_m0.trans hle
  have h3:=ORow.up (mI .i64) hle h3
  have h5:=(mL qbG).up hle h5
  have h7:=(mL mB).up hle h7
  have h10:=ORow.up (mI .i64) hle h10
  have h283:=(mL qbG).up hle h283
  exact fin hF ⟨m284,[c276,c279],le_m0,ok.drop.drop,E.d,⟨rv_c (cs:=[c276,c279]) E ok rfl qiI rfl (qab.own 1 rfl rfl),trivial⟩,⟨_,_,rfl,h283,h285⟩⟩
 rintro ⟨v58,v59,v60,v61⟩ a w r ⟨c62,M63,c66,M67,c69,M70,c72,M73,ok,E,h64,r65,h68,h71,h74⟩ hF
 replace hF:qbD N x0 x1 x2 v58 v59 v60 v61 = some r:=hF
 unfold qbD at hF
 refine wp_seq<|sg<|mz E rfl rfl fun a E=>lv E ok (qep qbU h64 rfl) fun a E=>lw E (qay rfl rfl) fun a E=>wn<|cg E rfl hF (fun c75 hF=>?_) fun c75 hF=>?_
 ·refine wp_exit<|qaA ?_
  cases hF
  exact so (⟨rfl,⟨c66,M67,c69,M70,(ok.pk 11 [0,1,2,5,6,7,8,9,10] rfl (by decide)),E.keep [6,9],h68,h71⟩⟩)
 refine wp_skip<|qaa<|wp_seq<|wp_block<|sg<|qaB E ok qfY rfl rfl fun b76 a w E ok=>wn<|wp_seq<|sg<|mv E rfl fun a E=>wn<|wp_block<|bd hF fun o99 hL hF=>qaF _ (fun (s:(List (Int)) × Int × Arr11_Int × (List (Int × Int))) a w=>∃ c100 M101 c115 M116,Ok u m0 ([(b76,oc 129 [vi s.2.2.1.e0,vi s.2.2.1.e1,vi s.2.2.1.e2,vi s.2.2.1.e3,vi s.2.2.1.e4,vi s.2.2.1.e5,vi s.2.2.1.e6,vi s.2.2.1.e7,vi s.2.2.1.e8,vi s.2.2.1.e9,vi s.2.2.1.e10])] :: M70 :: M67 :: [(b22,oc 75 [c66,c69])] :: M101 :: M116 :: [(b11,oc 75 [(Value.slice none 0 0),(Value.slice none 0 0)])] :: [(pb0,oc 72 [c1])] :: M2 :: [(pb1,oc 75 [c4,c6])] :: [(pb2,oc 72 [c8])] :: M9 :: S) w ∧ Env 76 a [(1,(Value.func (.func 84) #[] #[.pointer (some ⟨pb0,0,none⟩),.pointer (some ⟨pb1,0,none⟩),.pointer (some ⟨pb2,0,none⟩)])),(2,(Value.func (.func 85) #[] #[.pointer (some ⟨pb1,0,none⟩),.pointer (some ⟨pb2,0,none⟩)])),(6,vp b11),(7,c115),(8,c100),(9,vp b22),(10,vi v59),(11,vp b76),(27,vi s.2.1)] ∧ ORow 3 1 (pI .i64) m0 c100 s.1 M101 ∧ InR .i64 s.2.1 ∧ InR .i64 s.2.2.1.e0 ∧ InR .i64 s.2.2.1.e1 ∧ InR .i64 s.2.2.1.e2 ∧ InR .i64 s.2.2.1.e3 ∧ InR .i64 s.2.2.1.e4 ∧ InR .i64 s.2.2.1.e5 ∧ InR .i64 s.2.2.1.e6 ∧ InR .i64 s.2.2.1.e7 ∧ InR .i64 s.2.2.1.e8 ∧ InR .i64 s.2.2.1.e9 ∧ InR .i64 s.2.2.1.e10 ∧ OMap (kI .i64) (oneV (pI .i64)) m0 c115 s.2.2.2 M116) (fun (b:(Arr11_Int × (List (Int × Int)) × (List (Int)))) e a w=>e = (.exit 2) ∧ ∃ c270 M271 c273 M274,Ok u m0 ([(b76,oc 129 [vi b.1.e0,vi b.1.e1,vi b.1.e2,vi b.1.e3,vi b.1.e4,vi b.1.e5,vi b.1.e6,vi b.1.e7,vi b.1.e8,vi b.1.e9,vi b.1.e10])] :: M70 :: M67 :: [(b22,oc 75 [c66,c69])] :: M274 :: M271 :: [(b11,oc 75 [(Value.slice none 0 0),(Value.slice none 0 0)])] :: [(pb0,oc 72 [c1])] :: M2 :: [(pb1,oc 75 [c4,c6])] :: [(pb2,oc 72 [c8])] :: M9 :: S) w ∧ Env 76 a [(1,(Value.func (.func 84) #[] #[.pointer (some ⟨pb0,0,none⟩),.pointer (some ⟨pb1,0,none⟩),.pointer (some ⟨pb2,0,none⟩)])),(2,(Value.func (.func 85) #[] #[.pointer (some ⟨pb1,0,none⟩),.pointer (some ⟨pb2,0,none⟩)])),(6,vp b11),(7,c270),(8,c273),(9,vp b22),(10,vi v59),(11,vp b76)] ∧ InR .i64 b.1.e0 ∧ InR .i64 b.1.e1 ∧ InR .i64 b.1.e2 ∧ InR .i64 b.1.e3 ∧ InR .i64 b.1.e4 ∧ InR .i64 b.1.e5 ∧ InR .i64 b.1.e6 ∧ InR .i64 b.1.e7 ∧ InR .i64 b.1.e8 ∧ InR .i64 b.1.e9 ∧ InR .i64 b.1.e10 ∧ OMap (kI .i64) (oneV (pI .i64)) m0 c270 b.2.1 M271 ∧ ORow 3 1 (pI .i64) m0 c273 b.2.2 M274) ?_ ?_ N _ a w hL ⟨c62,M63,c72,M73,ok,E.keep [1,2,6,7,8,9,10,11,27],h64,(ir 0),(ir 0),(ir 0),(ir 0),(ir 0),(ir 0),(ir 0),(ir 0),(ir 0),(ir 0),(ir 0),(ir 0),h74⟩
 rotate_left
 ·as_aux_lemma =>
   intro e a w _ hO
   obtain ⟨rfl,c196,M197,c199,M200,ok,E,r185,r186,r187,r188,r189,r190,r191,r192,r193,r194,r195,h198,h201⟩:=hO
   refine qaN<|qaa<|sg<|fk E ok qf9 qh0 rfl 3 rfl rfl fun a E=>lv E ok (qag (cs:=[vi o99.1.e0,vi o99.1.e1,vi o99.1.e2,vi o99.1.e3,vi o99.1.e4,vi o99.1.e5,vi o99.1.e6,vi o99.1.e7,vi o99.1.e8,vi o99.1.e9,vi o99.1.e10]) qiH rfl rfl (qab.own 0 rfl rfl)) fun a E=>qcn (R:=qbX) (xo:=[.tmp 60]) (xs:=([o99.1]:List (Arr11_Int))) E ok qgE qfY rfl ⟨⟨_,rfl,rfl,⟨rfl,r185,r186,r187,r188,r189,r190,r191,r192,r193,r194,r195⟩⟩,trivial⟩ rfl rfl rfl rfl fun c202 M203 a w E ok h204=>bd hF fun l205 e206 hF=>qee (R:=qbX) E ok 3 qbG qgE Tryz.underlying73 rfl h68 (qb7.ofRow h204 0 rfl ok) e206 ⟨_,qfY,rfl⟩ rfl rfl rfl rfl fun c207 M208 a w E ok h209=>fv E qf9 rfl fun a E=>qad E ok 4 rfl rfl rfl qoG (ORow.cells h209) rfl ⟨(ORow.one h209),trivial⟩ rfl rfl fun w ok=>wn<|bd hF fun o210 hJ hF=>qaL (Q':=fun e a w=>e = .normal ∧ ∃ c211 M212 c214 M215,Ok u m0 (M203 :: [(b76,oc 129 [vi o99.1.e0,vi o99.1.e1,vi o99.1.e2,vi o99.1.e3,vi o99.1.e4,vi o99.1.e5,vi o99.1.e6,vi o99.1.e7,vi o99.1.e8,vi o99.1.e9,vi o99.1.e10])] :: M215 :: M212 :: [(b22,oc 75 [c211,c214])] :: M200 :: M197 :: [(b11,oc 75 [(Value.slice none 0 0),(Value.slice none 0 0)])] :: [(pb0,oc 72 [c1])] :: M2 :: [(pb1,oc 75 [c4,c6])] :: [(pb2,oc 72 [c8])] :: M9 :: S) w ∧ Env 76 a [(1,(Value.func (.func 84) #[] #[.pointer (some ⟨pb0,0,none⟩),.pointer (some ⟨pb1,0,none⟩),.pointer (some ⟨pb2,0,none⟩)])),(2,(Value.func (.func 85) #[] #[.pointer (some ⟨pb1,0,none⟩),.pointer (some ⟨pb2,0,none⟩)])),(6,vp b11),(7,c196),(8,c199),(9,vp b22),(10,vi v59)] ∧ ORow 129 11 qbX m0 c211 o210.next M212 ∧ ORow 4 1 pB m0 c214 o210.accept M215) ?_ ?_
   rotate_left
   ·intro e a w hO
    obtain ⟨rfl,c253,M254,c256,M257,ok,E,h255,h258⟩:=hO
    refine qap<|qaa<|qac<|mv E rfl fun a E=>lw E (qaE rfl rfl (InR.inc r65 (ORow.InR h64) c75)) fun a E=>av E rfl fun a E=>wpList_nil ?_
    cases hF
    exact qas ⟨c199,M200,c253,M254,c256,M257,c196,M197,(ok.pk 13 [2,3,4,5,6,7,8,9,10,11,12] rfl (by decide)),E.keep [1,2,6,7,8,9,10],h201,(InR.inc r65 (ORow.InR h64) c75),h255,h258,h198⟩
   have hF:=hJ
   obtain ⟨x217,e218,hF⟩:=bnd hF
   obtain ⟨r228,e229,hF⟩:=bnd hF
   obtain ⟨l233,e234,hF⟩:=bnd hF
   obtain rfl:=sj hF
   refine qaS [1,6] (Cls u m0 (M203 :: [(b76,oc 129 [vi o99.1.e0,vi o99.1.e1,vi o99.1.e2,vi o99.1.e3,vi o99.1.e4,vi o99.1.e5,vi o99.1.e6,vi o99.1.e7,vi o99.1.e8,vi o99.1.e9,vi o99.1.e10])] :: M208 :: [(b22,oc 75 [c207,c69])] :: M200 :: M197 :: [(b11,oc 75 [(Value.slice none 0 0),(Value.slice none 0 0)])] :: [(pb0,oc 72 [c1])] :: M2 :: [(pb1,oc 75 [c4,c6])] :: [(pb2,oc 72 [c8])] :: M9 :: [])) (Cls u m0 (M203 :: [(b76,oc 129 [vi o99.1.e0,vi o99.1.e1,vi o99.1.e2,vi o99.1.e3,vi o99.1.e4,vi o99.1.e5,vi o99.1.e6,vi o99.1.e7,vi o99.1.e8,vi o99.1.e9,vi o99.1.e10])] :: M208 :: M200 :: M197 :: [(b11,oc 75 [(Value.slice none 0 0),(Value.slice none 0 0)])] :: [(pb0,oc 72 [c1])] :: M2 :: [(pb1,oc 75 [c4,c6])] :: [(pb2,oc 72 [c8])] :: M9 :: [])) (by kernel_rfl) ?_
   intro w hw
   replace ok:=qa6 ok hw
   clear hw
   refine qai (cl1 (cq le_m0 ok [0,1,3,4,5,6,7,8,9,10,11,12] rfl) (cq le_m0 ok [0,1,3,5,6,7,8,9,10,11,12] rfl)) fun hT=>kt 0 E rfl hT (qae qg0 rfl) fun a E=>qaZ 1 E rfl (by kernel_rfl) nP hT (qaj qhN rfl (qab.cown 3 rfl rfl)) rfl rfl fun a E=>kt 2 E rfl hT (qah rfl) fun a E=>kt 3 E rfl hT (qah rfl) fun a E=>kt 4 E rfl hT (qah rfl) fun a E=>?_
   obtain ⟨b238,o239,hp240,yy241⟩:=qcm qbU h201 e218 (P:=Tryz.prog) (X:=.tmp 67) (I:=.tmp 68) (kd:=.i64) (qaU E rfl) (qaU E rfl)
   refine kt 5 E rfl hT (yy241 _ _) fun a E=>?_
   obtain ⟨es242,hl243,rr244,hh245⟩:=qcY h201 e218 hp240 (by decide)
   obtain ⟨rfl,r246⟩:=rr244
   refine qaZ 6 E rfl (by kernel_rfl) nP hT (qaj qaq rfl (qab.crow hh245 4 rfl)) rfl rfl fun a E=>qar [7] (by kernel_rfl) rfl (qat ?_)
   ·refine qbB (o:=_) rfl ?_
    replace ok:Ok u m0 ([(pb1,oc 75 [c4,c6])] :: [(pb2,oc 72 [c8])] :: M9 :: M203 :: [(b76,oc 129 [vi o99.1.e0,vi o99.1.e1,vi o99.1.e2,vi o99.1.e3,vi o99.1.e4,vi o99.1.e5,vi o99.1.e6,vi o99.1.e7,vi o99.1.e8,vi o99.1.e9,vi o99.1.e10])] :: M70 :: M208 :: [(b22,oc 75 [c207,c69])] :: M200 :: M197 :: [(b11,oc 75 [(Value.slice none 0 0),(Value.slice none 0 0)])] :: [(pb0,oc 72 [c1])] :: M2 :: S) w:=(ok.pk 13 [10,11,12,0,1,2,3,4,5,6,7,8,9] rfl (by decide))
    refine qeP E rfl qsq rfl (qh3 N x217 r246 x1 h5 h7 x2 h10 e229 hG ok) rfl rfl ?_
    rintro _ w ⟨rfl,ok⟩
    refine ⟨_,rfl,fun a E=>?_⟩
    refine wn<|qai (cl1 (cq le_m0 ok [3,4,6,7,8,9,10,11,12,0,1,2] rfl) (cq le_m0 ok [3,4,6,8,9,10,11,12,0,1,2] rfl)) fun hT=>qar [8] (by kernel_rfl) rfl (qat ?_)
    ·refine wo rfl<|qcn (R:=pB) (xo:=[.tmp 71]) (xs:=([r228]:List (Bool))) E ok qf8 qj6 rfl ⟨⟨_,rfl,rfl,qkr⟩,trivial⟩ rfl rfl rfl rfl fun c247 M248 a w E ok h249=>wn<|qai (cl1 (cq le_m0 ok [4,5,7,8,9,10,11,12,13,1,2,3] rfl) (cq le_m0 ok [4,5,7,9,10,11,12,13,1,2,3] rfl)) fun hT=>qar [9] (by kernel_rfl) rfl (qat ?_)
     ·refine wo rfl<|qee (R:=pB) E ok 6 mB qf8 Tryz.underlying32 rfl h71 (qb7.ofRow h249 0 rfl ok) e234 ⟨_,qj6,rfl⟩ rfl rfl rfl rfl fun c250 M251 a w E ok h252=>wn<|qai (cl1 (cq le_m0 ok [4,5,7,8,9,10,11,12,13,1,2,3] rfl) (cq le_m0 ok [4,5,7,9,10,11,12,13,1,2,3] rfl)) fun hT=>kt 10 E rfl hT (qae qg0 rfl) fun a E=>qar [11] (by kernel_rfl) rfl (qat ?_)
      ·refine wo rfl<|qad E ok 8 rfl rfl rfl qoQ (ORow.cells h252) rfl ⟨(ORow.one h252),trivial⟩ rfl rfl fun w ok=>wn<|qai (cl2 (by kernel_rfl) (cq le_m0 ok [4,5,7,9,10,11,12,13,1,2,3] rfl)) fun hT=>qaR (by kernel_rfl) ?_
       exact ⟨rfl,⟨c207,M208,c250,M251,(ok.pk 14 [4,5,6,7,8,9,10,11,12,13,1,2,3] rfl (by decide)),E.keep [1,2,6,7,8,9,10],h209,h252⟩⟩
 rintro ⟨v118,v119,v120,v121⟩ a w r ⟨c122,M123,c137,M138,ok,E,h124,r125,r126,r127,r128,r129,r130,r131,r132,r133,r134,r135,r136,h139⟩ hF
 replace hF:qbm N x0 x1 x2 v59 v118 v119 v120 v121 = some r:=hF
 unfold qbm at hF
 refine sg<|lw E (qay rfl rfl) fun a E=>wn<|wp_seq<|cg E rfl hF (fun c140 hF=>?_) fun c140 hF=>?_
 ·refine wp_exit<|qaA ?_
  cases hF
  exact so (⟨rfl,⟨c137,M138,c122,M123,ok,E.keep [1,2,6,7,8,9,10,11],r126,r127,r128,r129,r130,r131,r132,r133,r134,r135,r136,h139,h124⟩⟩)
 refine wp_skip<|qaa<|wp_seq<|wp_block<|sg<|mv E rfl fun a E=>av E rfl fun a E=>wn<|sg<|mz E rfl rfl fun a E=>mv E rfl fun a E=>?_
 obtain ⟨x141,e142,hF⟩:=bnd hF
 obtain ⟨b143,o144,hp145,yy146⟩:=qcm qbU h124 e142 (P:=Tryz.prog) (X:=.tmp 31) (I:=.tmp 32) (kd:=.i64) (qaU E rfl) (qaU E rfl)
 refine lv E ok (yy146 _ _) fun a E=>?_
 obtain ⟨es147,hl148,rr149,hh150⟩:=qcY h124 e142 hp145 (by decide)
 obtain ⟨rfl,r151⟩:=rr149
 refine lv E ok (qaj qaq rfl (hh150 _ _ _ 4 rfl)) fun a E=>mv E rfl fun a E=>?_
 obtain ⟨r152,e153,hF⟩:=bnd hF
 replace ok:Ok u m0 ([(pb0,oc 72 [c1])] :: M2 :: [(pb1,oc 75 [c4,c6])] :: [(pb2,oc 72 [c8])] :: M9 :: [(b76,oc 129 [vi v120.e0,vi v120.e1,vi v120.e2,vi v120.e3,vi v120.e4,vi v120.e5,vi v120.e6,vi v120.e7,vi v120.e8,vi v120.e9,vi v120.e10])] :: M70 :: M67 :: [(b22,oc 75 [c66,c69])] :: M123 :: M138 :: [(b11,oc 75 [(Value.slice none 0 0),(Value.slice none 0 0)])] :: S) w:=(ok.pk 12 [7,8,9,10,11,0,1,2,3,4,5,6] rfl (by decide))
 refine qeP E rfl qr1 rfl (qh2 N x141 r151 v119 r125 x0 h3 x1 h5 h7 x2 h10 e153 hG ok) rfl rfl ?_
 rintro _ w ⟨⟨rfl,ok⟩,r154⟩
 refine ⟨_,rfl,fun a E=>?_⟩
 refine aw E rfl fun a E=>sg<|mz E rfl rfl fun a E=>?_
 obtain ⟨xv155,h156,yy157,yy158⟩:=qmN (P:=Tryz.prog) (mo:=.tmp 38) (ko:=.tmp 39) (zx:=(0:Int)) ok 10 (qkS Tryz.underlying3) Tryz.underlying169 h139 rfl (qaU E rfl) (qaU E rfl) ⟨rfl,r154⟩ ql4 (qbc (ir 0))
 obtain ⟨rfl,r159⟩:=qg3 h156
 refine lv E ok (yy158 _) fun a E=>mv E rfl fun a E=>lw E (qaK rfl rfl) fun a E=>lw E (qaK rfl rfl) fun a E=>av E rfl fun a E=>aw E rfl fun a E=>wp_seq<|sg<|mv E rfl fun a E=>lw E (qa2 rfl) fun a E=>wn<|cg E rfl hF (fun c160 hF=>?_) fun c160 hF=>?_
 ·refine wp_skip<|qaa<|qac<|mz E rfl rfl fun a E=>?_
  obtain ⟨x179,e180,hF⟩:=bnd hF
  replace e180:idx (Arr11_Int.list v120) v119 = some x179:=e180
  refine lv E ok (qeo qhD rfl rfl (qaQ e180).1 (qaQ e180).2) fun a E=>?_
  obtain ⟨z181,e182,hF⟩:=bnd hF
  have h183:=Arr11_Int.set_list e182
  have h184:=AllP.setI (q:=(InR .i64)) (xs:=Arr11_Int.list v120) ⟨r126,r127,r128,r129,r130,r131,r132,r133,r134,r135,r136,trivial⟩ r159 h183
  refine qe2 (c:=[vi v120.e0,vi v120.e1,vi v120.e2,vi v120.e3,vi v120.e4,vi v120.e5,vi v120.e6,vi v120.e7,vi v120.e8,vi v120.e9,vi v120.e10]) (c':=[vi z181.e0,vi z181.e1,vi z181.e2,vi z181.e3,vi z181.e4,vi z181.e5,vi z181.e6,vi z181.e7,vi z181.e8,vi z181.e9,vi z181.e10]) E ok 5 rfl rfl rfl qb4 rfl rfl ⟨rfl,trivial⟩ (qjU (n:=11) (qaQ e180).2 (Nat.le_of_ble_eq_true rfl)) (qlw (f:=(Value.int .i64)) (pre:=[]) (post:=[]) (xs:=Arr11_Int.list v120) (ys:=z181.list) rfl h183) rfl fun w ok=>wpList_nil<|qap<|qaa<|qac<|lw E (qaE rfl rfl (InR.inc r125 (ir 11) c140)) fun a E=>mv E rfl fun a E=>wpList_nil ?_
  cases hF
  exact qas ⟨c122,M123,c137,M138,(ok.pk 12 [5,6,7,8,9,10,11,0,1,2,3,4] rfl (by decide)),E.keep [1,2,6,7,8,9,10,11,27],h124,(InR.inc r125 (ir 11) c140),h184.1,h184.2.1,h184.2.2.1,h184.2.2.2.1,h184.2.2.2.2.1,h184.2.2.2.2.2.1,h184.2.2.2.2.2.2.1,h184.2.2.2.2.2.2.2.1,h184.2.2.2.2.2.2.2.2.1,h184.2.2.2.2.2.2.2.2.2.1,h184.2.2.2.2.2.2.2.2.2.2.1,h139⟩
 refine sg<|mv E rfl fun a E=>lv E ok (qep qbU h124 rfl) fun a E=>aw E rfl fun a E=>sg<|mz E rfl rfl fun a E=>mv E rfl fun a E=>bd hF fun l161 e162 hF=>qiK (.inl rfl) E ok 10 (qkS Tryz.underlying3) Tryz.underlying169 h139 rfl rfl rfl rfl ⟨rfl,r154⟩ (qbc (ORow.InR h124)) e162 rfl fun M163 w ok h164=>wn<|qac<|mz E rfl rfl fun a E=>qcn (R:=(pI .i64)) (xo:=[.tmp 51]) (xs:=([r152]:List (Int))) E ok qbU qf1 rfl ⟨⟨_,rfl,rfl,(qbc r154)⟩,trivial⟩ rfl rfl rfl rfl fun c165 M166 a w E ok h167=>bd hF fun l168 e169 hF=>qee (R:=(pI .i64)) E ok 10 (mI .i64) qbU Tryz.underlying72 rfl h124 (qb7.ofRow h167 0 rfl ok) e169 ⟨_,qf1,rfl⟩ rfl rfl rfl rfl fun c170 M171 a w E ok h172=>aw E rfl fun a E=>qac<|mz E rfl rfl fun a E=>?_
 obtain ⟨x173,e174,hF⟩:=bnd hF
 replace e174:idx (Arr11_Int.list v120) v119 = some x173:=e174
 refine lv E ok (qeo qhD rfl rfl (qaQ e174).1 (qaQ e174).2) fun a E=>?_
 obtain ⟨z175,e176,hF⟩:=bnd hF
 have h177:=Arr11_Int.set_list e176
 have h178:=AllP.setI (q:=(InR .i64)) (xs:=Arr11_Int.list v120) ⟨r126,r127,r128,r129,r130,r131,r132,r133,r134,r135,r136,trivial⟩ (ORow.InR h124) h177
 refine qe2 (c:=[vi v120.e0,vi v120.e1,vi v120.e2,vi v120.e3,vi v120.e4,vi v120.e5,vi v120.e6,vi v120.e7,vi v120.e8,vi v120.e9,vi v120.e10]) (c':=[vi z175.e0,vi z175.e1,vi z175.e2,vi z175.e3,vi z175.e4,vi z175.e5,vi z175.e6,vi z175.e7,vi z175.e8,vi z175.e9,vi z175.e10]) E ok 6 rfl rfl rfl qb4 rfl rfl ⟨rfl,trivial⟩ (qjU (n:=11) (qaQ e174).2 (Nat.le_of_ble_eq_true rfl)) (qlw (f:=(Value.int .i64)) (pre:=[]) (post:=[]) (xs:=Arr11_Int.list v120) (ys:=z175.list) rfl h177) rfl fun w ok=>wpList_nil<|qap<|qaa<|qac<|lw E (qaE rfl rfl (InR.inc r125 (ir 11) c140)) fun a E=>mv E rfl fun a E=>wpList_nil ?_
 cases hF
 exact qas ⟨c170,M171,c137,M163,(ok.pk 13 [6,7,8,9,10,11,12,1,2,3,4,5] rfl (by decide)),E.keep [1,2,6,7,8,9,10,11,27],h172,(InR.inc r125 (ir 11) c140),h178.1,h178.2.1,h178.2.2.1,h178.2.2.2.1,h178.2.2.2.2.1,h178.2.2.2.2.2.1,h178.2.2.2.2.2.2.1,h178.2.2.2.2.2.2.2.1,h178.2.2.2.2.2.2.2.2.1,h178.2.2.2.2.2.2.2.2.2.1,h178.2.2.2.2.2.2.2.2.2.2.1,h164⟩
def qiy (u:World) (m0:Mem) (S:Segs) (r:Table) (a:Act) (w:World):Prop :=
 ∃ m1 v0,m0.le m1 ∧ Ok u m1 S w ∧ a.defers = [] ∧ RVs Tryz.prog a w [.c 2 75 (.agg v0.toArray)] ∧ qg6 m1 v0 r
theorem qix (N:Nat) (vt_0:List Value) (t_0:Table) (ht_0:qg6 m0 vt_0 t_0) {r:Table} (hF:qdy N t_0 = some r) (hG:Glob u) (ok:Ok u m0 S w) :
  Calls Tryz.prog 44 [.agg vt_0.toArray].toArray w fun e w'=>∃ m1 v0,e = .returned (.agg v0.toArray) ∧ m0.le m1 ∧ Ok u m1 S w' ∧ qg6 m1 v0 r:=by
 obtain ⟨c1,c3,rfl,h2,h4⟩:=ht_0
 have le_m0:=Mem.le.refl m0
 unfold qdy at hF
 refine en (qiy u m0 S) r Tryz.func44 rfl rfl rfl (by rintro a w ⟨m1,v0,hle,ok,hd,hrv,h0⟩; exact qbS [.c 2 75 (.agg v0.toArray)] hd rfl hrv ⟨m1,v0,rfl,hle,ok,h0⟩) fun fin a E=>sg<|qb8 E ok rfl rfl rfl fun b5 a w E ok=>qaB E ok qhH rfl rfl fun b6 a w E ok=>wn<|sg<|fk E ok qf9 qh0 rfl 1 rfl rfl fun a E=>lv E ok (qaD qgE h2 rfl) fun a E=>bd hF fun l7 e8 hF=>qdZ (R:=(pI .i64)) E ok qbU qf1 rfl (qbc (ir 0)) rfl e8 rfl rfl fun c9 M10 a w E ok h11=>qaB E ok qiL rfl rfl fun b12 a w E ok=>qad E ok 0 rfl rfl rfl qlT (ORow.cells h11) rfl ⟨(ORow.one h11),trivial⟩ rfl rfl fun w ok=>wn<|wp_seq<|sg<|fk E ok qg0 qhN rfl 3 rfl rfl fun a E=>lv E ok (qaD qf8 h4 rfl) fun a E=>mv E rfl fun a E=>wn<|wp_block<|bd hF fun o18 hL hF=>qaF _ (fun (s:Int × (List (Int))) a w=>∃ c20 M21,Ok u m0 ([(b12,oc 72 [c20])] :: M21 :: [(b6,oc 75 [(Value.slice none 0 0),(Value.slice none 0 0)])] :: [(b5,oc 75 [c1,c3])] :: S) w ∧ Env 112 a [(1,vp b5),(2,vp b6),(3,vp b12),(23,c3),(24,(vi (t_0.accept.length:Int))),(25,vi s.1)] ∧ InR .i64 s.1 ∧ ORow 3 1 (pI .i64) m0 c20 s.2 M21) (fun (b:((List (Int)))) e a w=>e = (.exit 0) ∧ ∃ c366 M367,Ok u m0 ([(b12,oc 72 [c366])] :: M367 :: [(b6,oc 75 [(Value.slice none 0 0),(Value.slice none 0 0)])] :: [(b5,oc 75 [c1,c3])] :: S) w ∧ Env 112 a [(1,vp b5),(2,vp b6),(3,vp b12)] ∧ ORow 3 1 (pI .i64) m0 c366 b M367) ?_ ?_ N _ a w hL ⟨c9,M10,ok,E.keep [1,2,3,23,24,25],(ir 0),h11⟩
 ·rintro ⟨v23,v24⟩ a w r ⟨c26,M27,ok,E,r25,h28⟩ hF
  replace hF:qb2 N t_0 v23 v24 = some r:=hF
  unfold qb2 at hF
  refine sg<|lw E (qay rfl rfl) fun a E=>wn<|wp_seq<|cg E rfl hF (fun c29 hF=>?_) fun c29 hF=>?_
  ·refine wp_exit<|qaA ?_
   cases hF
   exact so (⟨rfl,⟨c26,M27,ok,E.keep [1,2,3],h28⟩⟩)
  refine wp_skip<|qaa<|wp_seq<|wp_block<|sg<|mv E rfl fun a E=>?_
  obtain ⟨x30,e31,hF⟩:=bnd hF
  obtain ⟨b32,o33,es34,hl35,rr36,at37,yy38⟩:=ia E 23 25 qf8 h4 e31
  obtain rfl:=rr36
  refine lv E ok (yy38 _ _) fun a E=>lv E ok (qaj qdx rfl (qab.ro at37)) fun a E=>av E rfl fun a E=>aw E rfl fun a E=>sg<|mv E rfl fun a E=>wn<|cg E rfl hF (fun c39 hF=>?_) fun c39 hF=>?_
  ·refine wp_skip<|qap<|qaa<|qac<|lw E (qaE rfl rfl (InR.inc r25 (qao h4) c29)) fun a E=>mv E rfl fun a E=>wpList_nil ?_
   cases hF
   exact qas ⟨c26,M27,ok,E.keep [1,2,3,23,24,25],(InR.inc r25 (qao h4) c29),h28⟩
  refine qac<|ld E ok qeC 0 rfl rfl rfl fun a E=>mv E rfl fun a E=>?_
  obtain ⟨x40,e41,hF⟩:=bnd hF
  obtain ⟨b42,o43,hp44,yy45⟩:=qcm qbU h28 e41 (P:=Tryz.prog) (X:=.tmp 31) (I:=.tmp 32) (kd:=.i64) (qaU E rfl) (qaU E rfl)
  refine lv E ok (yy45 _ _) fun a E=>bd hF fun l46 e47 hF=>qga (R:=(pI .i64)) E ok 1 rfl h28 e41 hp44 rfl rfl qb4 rfl rfl rfl ⟨rfl,trivial⟩ (qbc (ir 1)) e47 rfl fun M48 w ok h49=>wpList_nil<|qap<|qaa<|qac<|lw E (qaE rfl rfl (InR.inc r25 (qao h4) c29)) fun a E=>mv E rfl fun a E=>wpList_nil ?_
  cases hF
  exact qas ⟨c26,M48,ok,E.keep [1,2,3,23,24,25],(InR.inc r25 (qao h4) c29),h49⟩
 intro e a w _ hO
 obtain ⟨rfl,c50,M51,ok,E,h52⟩:=hO
 refine qaN<|qaa<|sg<|aw E rfl fun a E=>wp_seq<|wp_block<|bd hF fun o58 hL hF=>qaF _ (fun (s:Int × (List (Int))) a w=>∃ c60 M61,Ok u m0 ([(b12,oc 72 [c60])] :: M61 :: [(b6,oc 75 [(Value.slice none 0 0),(Value.slice none 0 0)])] :: [(b5,oc 75 [c1,c3])] :: S) w ∧ Env 112 a [(1,vp b5),(2,vp b6),(3,vp b12),(6,vi s.1)] ∧ InR .i64 s.1 ∧ ORow 3 1 (pI .i64) m0 c60 s.2 M61) (fun (b:((List (Int)) × Int)) e a w=>e = (.exit 2) ∧ ∃ c362 M363,Ok u m0 ([(b12,oc 72 [c362])] :: M363 :: [(b6,oc 75 [(Value.slice none 0 0),(Value.slice none 0 0)])] :: [(b5,oc 75 [c1,c3])] :: S) w ∧ Env 112 a [(1,vp b5),(2,vp b6),(3,vp b12),(6,vi b.2)] ∧ ORow 3 1 (pI .i64) m0 c362 b.1 M363 ∧ InR .i64 b.2) ?_ ?_ N _ a w hL ⟨c50,M51,ok,E.keep [1,2,3,6],(ir 0),h52⟩
 rotate_left
 ·as_aux_lemma =>
   intro e a w _ hO
   obtain ⟨rfl,c266,M267,ok,E,h268,r269⟩:=hO
   refine qaN<|qaa<|sg<|mv E rfl fun a E=>bd hF fun l270 e271 hF=>qdZ (R:=(pI .i64)) E ok qbU qf1 rfl (qbc (ir 0)) rfl e271 rfl rfl fun c272 M273 a w E ok h274=>qaB E ok qiL rfl rfl fun b275 a w E ok=>qad E ok 0 rfl rfl rfl qlT (ORow.cells h274) rfl ⟨(ORow.one h274),trivial⟩ rfl rfl fun w ok=>wn<|wp_seq<|sg<|ld E ok qeC 2 rfl rfl rfl fun a E=>lv E ok (qep qbU h268 rfl) fun a E=>lw E (qhb rfl rfl) fun a E=>aw E rfl fun a E=>wp_block<|bd hF fun o281 hL hF=>qaF _ (fun (s:Int × (List (Int))) a w=>∃ c283 M284,Ok u m0 ([(b275,oc 72 [c283])] :: M284 :: [(b12,oc 72 [c266])] :: M267 :: [(b6,oc 75 [(Value.slice none 0 0),(Value.slice none 0 0)])] :: [(b5,oc 75 [c1,c3])] :: S) w ∧ Env 112 a [(1,vp b5),(2,vp b6),(3,vp b12),(16,vp b275),(17,vi s.1)] ∧ InR .i64 s.1 ∧ ORow 3 1 (pI .i64) m0 c283 s.2 M284) (fun (b:((List (Int)))) e a w=>e = (.exit 8) ∧ ∃ c359 M360,Ok u m0 ([(b275,oc 72 [c359])] :: M360 :: [(b12,oc 72 [c266])] :: M267 :: [(b6,oc 75 [(Value.slice none 0 0),(Value.slice none 0 0)])] :: [(b5,oc 75 [c1,c3])] :: S) w ∧ Env 112 a [(1,vp b5),(2,vp b6),(3,vp b12),(16,vp b275)] ∧ ORow 3 1 (pI .i64) m0 c359 b M360) ?_ ?_ N _ a w hL ⟨c272,M273,ok,E.keep [1,2,3,16,17],(InR.wrap _ _),h274⟩
   rotate_left
   ·intro e a w _ hO
    obtain ⟨rfl,c336,M337,ok,E,h338⟩:=hO
    refine qaN<|qaa<|sg<|ld E ok qeC 2 rfl rfl rfl fun a E=>?_
    obtain ⟨x339,e340,hF⟩:=bnd hF
    obtain ⟨b341,o342,hp343,yy344⟩:=qcm qbU h268 e340 (P:=Tryz.prog) (X:=.tmp 106) (I:=.const (vi 0)) (kd:=.i64) (qaU E rfl) (qaU E rfl)
    refine lv E ok (yy344 _ _) fun a E=>?_
    obtain ⟨es345,hl346,rr347,hh348⟩:=qcY h268 e340 hp343 (by decide)
    obtain ⟨rfl,r349⟩:=rr347
    refine lv E ok (qaj qaq rfl (hh348 _ _ _ 3 rfl)) fun a E=>lv E ok (qcI (caps:=[.tmp 3,.tmp 1,.tmp 16]) rfl) fun a E=>lv E ok (qcI (caps:=[.tmp 1,.tmp 16]) rfl) fun a E=>?_
    obtain ⟨r350,e351,hF⟩:=bnd hF
    replace ok:Ok u m0 ([(b12,oc 72 [c266])] :: M267 :: [(b5,oc 75 [c1,c3])] :: [(b275,oc 72 [c336])] :: M337 :: [(b6,oc 75 [(Value.slice none 0 0),(Value.slice none 0 0)])] :: S) w:=(ok.pk 6 [2,3,5,0,1,4] rfl (by decide))
    refine qan E qr0 rfl (qgV N x339 r349 o58.1 h268 t_0 h2 h4 o281 h338 e351 hG ok) rfl rfl ?_
    rintro _ w ⟨m352,vs353,rfl,hle,ok,h354⟩
    have le_m0:=le_m0.trans hle
    have h2:=(mL qbG).up hle h2
    have h4:=(mL mB).up hle h4
    have h268:=ORow.up (mI .i64) hle h268
    have h338:=ORow.up (mI .i64) hle h338
    obtain ⟨c355,c357,rfl,h356,h358⟩:=h354
    refine ⟨_,rfl,fun a E=>?_⟩
    refine qad E ok 5 rfl rfl rfl qlt rfl rfl ⟨(qcO h356),(qcO h358),trivial⟩ rfl rfl fun w ok=>wn<|wp_ret ?_
    exact fin hF ⟨m352,[c355,c357],le_m0,ok.drop.drop.drop.drop.drop.drop,E.d,⟨rv_c (cs:=[c355,c357]) E ok rfl qiI rfl (qab.own 5 rfl rfl),trivial⟩,⟨_,_,rfl,h356,h358⟩⟩
   rintro ⟨v286,v287⟩ a w r ⟨c289,M290,ok,E,r288,h291⟩ hF
   replace hF:qb1 N o58 v286 v287 = some r:=hF
   unfold qb1 at hF
   refine wp_seq<|sg<|mv E rfl fun a E=>lw E (qgd rfl rfl) fun a E=>wn<|cg E rfl hF (fun c292 hF=>?_) fun c292 hF=>?_
   ·refine wp_exit<|qaA ?_
    cases hF
    exact so (⟨rfl,⟨c289,M290,ok,E.keep [1,2,3,16],h291⟩⟩)
   refine wp_skip<|qaa<|wp_seq<|wp_block<|bd hF fun o293 hJ hF=>qaL (Q':=fun e a w=>e = .normal ∧ ∃ c294 M295,Ok u m0 ([(b275,oc 72 [c294])] :: M295 :: [(b12,oc 72 [c266])] :: M267 :: [(b6,oc 75 [(Value.slice none 0 0),(Value.slice none 0 0)])] :: [(b5,oc 75 [c1,c3])] :: S) w ∧ Env 112 a [(1,vp b5),(2,vp b6),(3,vp b12),(16,vp b275),(17,vi v286)] ∧ ORow 3 1 (pI .i64) m0 c294 o293 M295) ?_ ?_
   rotate_left
   ·intro e a w hO
    obtain ⟨rfl,c333,M334,ok,E,h335⟩:=hO
    refine qap<|qaa<|qac<|mv E rfl fun a E=>lw E (qhb rfl rfl) fun a E=>av E rfl fun a E=>wpList_nil ?_
    cases hF
    exact qas ⟨c333,M334,ok,E.keep [1,2,3,16,17],(InR.wrap _ _),h335⟩
   have hF:=hJ
   obtain ⟨x297,e298,hF⟩:=bnd hF
   obtain ⟨x308,e309,hF⟩:=bnd hF
   obtain ⟨l314,e315,hF⟩:=bnd hF
   obtain rfl:=sj hF
   refine qaS [0,1,4] (Cls u m0 ([(b275,oc 72 [c289])] :: [(b12,oc 72 [c266])] :: M267 :: [(b6,oc 75 [(Value.slice none 0 0),(Value.slice none 0 0)])] :: [(b5,oc 75 [c1,c3])] :: [])) (Cls u m0 ([(b12,oc 72 [c266])] :: M267 :: [(b6,oc 75 [(Value.slice none 0 0),(Value.slice none 0 0)])] :: [(b5,oc 75 [c1,c3])] :: [])) (by kernel_rfl) ?_
   intro w hw
   replace ok:=qa6 ok hw
   clear hw
   refine qai (cl1 (cq le_m0 ok [0,2,3,4,5] rfl) (cq le_m0 ok [2,3,4,5] rfl)) fun hT=>qaZ 0 E rfl (by kernel_rfl) nP hT (qaj qeC rfl (qab.cown 0 rfl rfl)) rfl rfl fun a E=>qaZ 1 E rfl (by kernel_rfl) nP hT (qaj qeC rfl (qab.cown 1 rfl rfl)) rfl rfl fun a E=>kt 2 E rfl hT (qah rfl) fun a E=>?_
   obtain ⟨b318,o319,hp320,yy321⟩:=qcm qbU h268 e298 (P:=Tryz.prog) (X:=.tmp 100) (I:=.tmp 101) (kd:=.i64) (qaU E rfl) (qaU E rfl)
   refine kt 3 E rfl hT (yy321 _ _) fun a E=>?_
   obtain ⟨es322,hl323,rr324,hh325⟩:=qcY h268 e298 hp320 (by decide)
   obtain ⟨rfl,r326⟩:=rr324
   refine qaZ 4 E rfl (by kernel_rfl) nP hT (qaj qaq rfl (qab.crow hh325 2 rfl)) rfl rfl fun a E=>kt 5 E rfl hT (qah rfl) fun a E=>?_
   obtain ⟨b327,o328,hp329,yy330⟩:=qcm qbU h291 e309 (P:=Tryz.prog) (X:=.tmp 99) (I:=.tmp 103) (kd:=.i64) (qaU E rfl) (qaU E rfl)
   refine kt 6 E rfl hT (yy330 _ _) fun a E=>qar [7] (by kernel_rfl) rfl (qat ?_)
   ·refine wo rfl<|qga (R:=(pI .i64)) E ok 1 rfl h291 e309 hp329 rfl rfl qb4 rfl rfl rfl ⟨rfl,trivial⟩ (qbc r288) e315 rfl fun M331 w ok h332=>wn<|qai (cl2 (by kernel_rfl) (cq le_m0 ok [2,3,4,5] rfl)) fun hT=>qaR (by kernel_rfl) ?_
    exact ⟨rfl,⟨c289,M331,ok,E.keep [1,2,3,16,17],h332⟩⟩
 rintro ⟨v63,v64⟩ a w r ⟨c66,M67,ok,E,r65,h68⟩ hF
 replace hF:qbJ N t_0 v63 v64 = some r:=hF
 unfold qbJ at hF
 refine wp_block<|sg<|qh7 (aggK pKey) (oneV (pI .i64)) E ok rfl rfl fun c69 M70 a w E ok h71=>aw E rfl fun a E=>sg<|ld E ok qeC 1 rfl rfl rfl fun a E=>lv E ok (qep qbU h68 rfl) fun a E=>bd hF fun l72 e73 hF=>qdZ (R:=(pI .i64)) E ok qbU qf1 rfl (qbc (ir 0)) rfl e73 rfl rfl fun c74 M75 a w E ok h76=>aw E rfl fun a E=>wp_seq<|sg<|fv E qf9 rfl fun a E=>ld E ok qh0 5 rfl rfl rfl fun a E=>lv E ok (qaD qgE h2 rfl) fun a E=>mv E rfl fun a E=>wn<|wp_block ?_
 refine bd hF fun o85 hL hF=>qaF _ (fun (s:Int × (List (Key × Int)) × (List (Int))) a w=>∃ c87 M88 c90 M91,Ok u m0 (M91 :: M88 :: [(b12,oc 72 [c66])] :: M67 :: [(b6,oc 75 [(Value.slice none 0 0),(Value.slice none 0 0)])] :: [(b5,oc 75 [c1,c3])] :: S) w ∧ Env 112 a [(1,vp b5),(2,vp b6),(3,vp b12),(6,vi v63),(7,c87),(8,c90),(40,c1),(41,(vi (t_0.next.length:Int))),(42,vi s.1)] ∧ InR .i64 s.1 ∧ OMap (aggK pKey) (oneV (pI .i64)) m0 c87 s.2.1 M88 ∧ ORow 3 1 (pI .i64) m0 c90 s.2.2 M91) (fun (b:((List (Key × Int)) × (List (Int)))) e a w=>e = (.exit 4) ∧ ∃ c260 M261 c263 M264,Ok u m0 (M264 :: M261 :: [(b12,oc 72 [c66])] :: M67 :: [(b6,oc 75 [(Value.slice none 0 0),(Value.slice none 0 0)])] :: [(b5,oc 75 [c1,c3])] :: S) w ∧ Env 112 a [(1,vp b5),(2,vp b6),(3,vp b12),(6,vi v63),(7,c260),(8,c263)] ∧ OMap (aggK pKey) (oneV (pI .i64)) m0 c260 b.1 M261 ∧ ORow 3 1 (pI .i64) m0 c263 b.2 M264) ?_ ?_ N _ a w hL ⟨c69,M70,c74,M75,ok,E.keep [1,2,3,6,7,8,40,41,42],(ir 0),h71,h76⟩
 rotate_left
 ·intro e a w _ hO
  obtain ⟨rfl,c253,M254,c256,M257,ok,E,h255,h258⟩:=hO
  refine qaN<|qaa<|sg<|mv E rfl fun a E=>qad E ok 2 rfl rfl rfl qlT (ORow.cells h258) rfl ⟨(ORow.one h258),trivial⟩ rfl rfl fun w ok=>wn<|wp_seq<|sg<|mv E rfl fun a E=>lv E ok (qk3 1 rfl Tryz.underlying130 h255 rfl) fun a E=>mv E rfl fun a E=>lw E (qau rfl rfl) fun a E=>wn<|cf E rfl hF (fun c259 hF=>?_) fun c259 hF=>?_
  ·refine wp_exit<|qaA<|qrD rfl ?_
   cases hF
   exact so (⟨rfl,⟨c256,M257,(ok.pk 6 [2,0,4,5] rfl (by decide)),E.keep [1,2,3,6],h258,r65⟩⟩)
  refine wp_skip<|qaa<|qac<|mv E rfl fun a E=>lv E ok (qk3 1 rfl Tryz.underlying130 h255 rfl) fun a E=>av E rfl fun a E=>wpList_nil<|qap ?_
  cases hF
  exact qas ⟨c256,M257,(ok.pk 6 [2,0,4,5] rfl (by decide)),E.keep [1,2,3,6],(OMap.InR h255),h258⟩
 rintro ⟨v93,v94,v95⟩ a w r ⟨c97,M98,c100,M101,ok,E,r96,h99,h102⟩ hF
 replace hF:qco N t_0 v64 v93 v94 v95 = some r:=hF
 unfold qco at hF
 refine sg<|lw E (qay rfl rfl) fun a E=>wn<|wp_seq<|cg E rfl hF (fun c103 hF=>?_) fun c103 hF=>?_
 ·refine wp_exit<|qaA ?_
  cases hF
  exact so (⟨rfl,⟨c97,M98,c100,M101,ok,E.keep [1,2,3,6,7,8],h99,h102⟩⟩)
 refine wp_skip<|qaa<|wp_seq<|wp_block<|sg<|mv E rfl fun a E=>?_
 obtain ⟨x104,e105,hF⟩:=bnd hF
 obtain ⟨b106,o107,es108,hl109,rr110,at111,yy112⟩:=ia E 40 42 qgE h2 e105
 obtain ⟨rfl,r113,r114,r115,r116,r117,r118,r119,r120,r121,r122,r123⟩:=rr110
 refine lv E ok (yy112 _ _) fun a E=>lv E ok (qag (cs:=[vi x104.e0,vi x104.e1,vi x104.e2,vi x104.e3,vi x104.e4,vi x104.e5,vi x104.e6,vi x104.e7,vi x104.e8,vi x104.e9,vi x104.e10]) qiH rfl rfl (qab.ro at111)) fun a E=>qaB E ok qfY rfl rfl fun b124 a w E ok=>av E rfl fun a E=>qad E ok 0 rfl rfl rfl qn3 rfl rfl ⟨rfl,rfl,rfl,rfl,rfl,rfl,rfl,rfl,rfl,rfl,rfl,trivial⟩ rfl rfl fun w ok=>wn<|sg<|ld E ok qeC 3 rfl rfl rfl fun a E=>mv E rfl fun a E=>?_
 obtain ⟨x125,e126,hF⟩:=bnd hF
 obtain ⟨b127,o128,hp129,yy130⟩:=qcm qbU h68 e126 (P:=Tryz.prog) (X:=.tmp 47) (I:=.tmp 48) (kd:=.i64) (qaU E rfl) (qaU E rfl)
 refine lv E ok (yy130 _ _) fun a E=>?_
 obtain ⟨es131,hl132,rr133,hh134⟩:=qcY h68 e126 hp129 (by decide)
 obtain ⟨rfl,r135⟩:=rr133
 refine lv E ok (qaj qaq rfl (hh134 _ _ _ 4 rfl)) fun a E=>lw E (qaP (ps:=[(0,.tmp 50)]) (qs:=[(0,[vi x125])]) (cs:=[vi x125,vi 0,vi 0,vi 0,vi 0,vi 0,vi 0,vi 0,vi 0,vi 0,vi 0,vi 0]) qnc qoe rfl ⟨rfl,rfl,rfl,trivial⟩ rfl) fun a E=>qaB E ok qnc rfl rfl fun b136 a w E ok=>qad E ok 0 rfl rfl rfl qp0 rfl rfl ⟨rfl,rfl,rfl,rfl,rfl,rfl,rfl,rfl,rfl,rfl,rfl,rfl,trivial⟩ rfl rfl fun w ok=>wn<|wp_seq<|sg<|lv E ok (qag (cs:=[vi x104.e0,vi x104.e1,vi x104.e2,vi x104.e3,vi x104.e4,vi x104.e5,vi x104.e6,vi x104.e7,vi x104.e8,vi x104.e9,vi x104.e10]) qiH rfl rfl (qab.own 1 rfl rfl)) fun a E=>mv E rfl fun a E=>wn<|wp_block<|bd hF fun o151 hL hF=>qaF _ (fun (s:Int × Key) a w=>Ok u m0 ([(b136,oc 132 [vi s.2.class_,vi s.2.next.e0,vi s.2.next.e1,vi s.2.next.e2,vi s.2.next.e3,vi s.2.next.e4,vi s.2.next.e5,vi s.2.next.e6,vi s.2.next.e7,vi s.2.next.e8,vi s.2.next.e9,vi s.2.next.e10])] :: [(b124,oc 129 [vi x104.e0,vi x104.e1,vi x104.e2,vi x104.e3,vi x104.e4,vi x104.e5,vi x104.e6,vi x104.e7,vi x104.e8,vi x104.e9,vi x104.e10])] :: M101 :: M98 :: [(b12,oc 72 [c66])] :: M67 :: [(b6,oc 75 [(Value.slice none 0 0),(Value.slice none 0 0)])] :: [(b5,oc 75 [c1,c3])] :: S) w ∧ Env 112 a [(1,vp b5),(2,vp b6),(3,vp b12),(6,vi v63),(7,c97),(8,c100),(9,vi v93),(11,vp b136),(40,c1),(41,(vi (t_0.next.length:Int))),(42,vi v93),(52,(Value.agg [vi x104.e0,vi x104.e1,vi x104.e2,vi x104.e3,vi x104.e4,vi x104.e5,vi x104.e6,vi x104.e7,vi x104.e8,vi x104.e9,vi x104.e10].toArray)),(53,vi s.1)] ∧ InR .i64 s.1 ∧ InR .i64 s.2.class_ ∧ InR .i64 s.2.next.e0 ∧ InR .i64 s.2.next.e1 ∧ InR .i64 s.2.next.e2 ∧ InR .i64 s.2.next.e3 ∧ InR .i64 s.2.next.e4 ∧ InR .i64 s.2.next.e5 ∧ InR .i64 s.2.next.e6 ∧ InR .i64 s.2.next.e7 ∧ InR .i64 s.2.next.e8 ∧ InR .i64 s.2.next.e9 ∧ InR .i64 s.2.next.e10) (fun (b:Key) e a w=>e = (.exit 6) ∧ Ok u m0 ([(b136,oc 132 [vi b.class_,vi b.next.e0,vi b.next.e1,vi b.next.e2,vi b.next.e3,vi b.next.e4,vi b.next.e5,vi b.next.e6,vi b.next.e7,vi b.next.e8,vi b.next.e9,vi b.next.e10])] :: [(b124,oc 129 [vi x104.e0,vi x104.e1,vi x104.e2,vi x104.e3,vi x104.e4,vi x104.e5,vi x104.e6,vi x104.e7,vi x104.e8,vi x104.e9,vi x104.e10])] :: M101 :: M98 :: [(b12,oc 72 [c66])] :: M67 :: [(b6,oc 75 [(Value.slice none 0 0),(Value.slice none 0 0)])] :: [(b5,oc 75 [c1,c3])] :: S) w ∧ Env 112 a [(1,vp b5),(2,vp b6),(3,vp b12),(6,vi v63),(7,c97),(8,c100),(9,vi v93),(11,vp b136),(40,c1),(41,(vi (t_0.next.length:Int))),(42,vi v93)] ∧ InR .i64 b.class_ ∧ InR .i64 b.next.e0 ∧ InR .i64 b.next.e1 ∧ InR .i64 b.next.e2 ∧ InR .i64 b.next.e3 ∧ InR .i64 b.next.e4 ∧ InR .i64 b.next.e5 ∧ InR .i64 b.next.e6 ∧ InR .i64 b.next.e7 ∧ InR .i64 b.next.e8 ∧ InR .i64 b.next.e9 ∧ InR .i64 b.next.e10) ?_ ?_ N _ a w hL ⟨ok,E.keep [1,2,3,6,7,8,9,11,40,41,42,52,53],(ir 0),r135,(ir 0),(ir 0),(ir 0),(ir 0),(ir 0),(ir 0),(ir 0),(ir 0),(ir 0),(ir 0),(ir 0)⟩
 ·rintro ⟨v165,v166⟩ a w r ⟨ok,E,r167,r168,r169,r170,r171,r172,r173,r174,r175,r176,r177,r178,r179⟩ hF
  replace hF:qbH N v64 x104 v165 v166 = some r:=hF
  unfold qbH at hF
  refine sg<|lw E (qay rfl rfl) fun a E=>wn<|wp_seq<|cg E rfl hF (fun c180 hF=>?_) fun c180 hF=>?_
  ·refine wp_exit<|qaA ?_
   cases hF
   exact so (⟨rfl,⟨ok,E.keep [1,2,3,6,7,8,9,11,40,41,42],r168,r169,r170,r171,r172,r173,r174,r175,r176,r177,r178,r179⟩⟩)
  refine wp_skip<|qaa<|wp_seq<|wp_block<|sg<|mv E rfl fun a E=>bd hF fun z181 e182 hF=>lv E ok (qqY (f:=Value.int .i64) (xs:=[(x104.e0:Int),(x104.e1:Int),(x104.e2:Int),(x104.e3:Int),(x104.e4:Int),(x104.e5:Int),(x104.e6:Int),(x104.e7:Int),(x104.e8:Int),(x104.e9:Int),(x104.e10:Int)]) Tryz.underlying129 qb4 qaq rfl rfl rfl rfl e182) fun a E=>av E rfl fun a E=>aw E rfl fun a E=>qac<|mv E rfl fun a E=>ld E ok qeC 4 rfl rfl rfl fun a E=>mv E rfl fun a E=>?_
  obtain ⟨x183,e184,hF⟩:=bnd hF
  obtain ⟨b185,o186,hp187,yy188⟩:=qcm qbU h68 e184 (P:=Tryz.prog) (X:=.tmp 58) (I:=.tmp 59) (kd:=.i64) (qaU E rfl) (qaU E rfl)
  refine lv E ok (yy188 _ _) fun a E=>?_
  obtain ⟨es189,hl190,rr191,hh192⟩:=qcY h68 e184 hp187 (by decide)
  obtain ⟨rfl,r193⟩:=rr191
  refine lv E ok (qaj qaq rfl (hh192 _ _ _ 5 rfl)) fun a E=>fv E qpf rfl fun a E=>?_
  obtain ⟨x194,e195,hF⟩:=bnd hF
  replace e195:idx (Arr11_Int.list v166.next) v165 = some x194:=e195
  refine lv E ok (qeo qhD rfl rfl (qaQ e195).1 (qaQ e195).2) fun a E=>?_
  obtain ⟨z196,e197,hF⟩:=bnd hF
  have h198:=Arr11_Int.set_list e197
  have h199:=AllP.setI (q:=(InR .i64)) (xs:=Arr11_Int.list v166.next) ⟨r169,r170,r171,r172,r173,r174,r175,r176,r177,r178,r179,trivial⟩ r193 h198
  refine qe2 (c:=[vi v166.class_,vi v166.next.e0,vi v166.next.e1,vi v166.next.e2,vi v166.next.e3,vi v166.next.e4,vi v166.next.e5,vi v166.next.e6,vi v166.next.e7,vi v166.next.e8,vi v166.next.e9,vi v166.next.e10]) (c':=[vi v166.class_,vi z196.e0,vi z196.e1,vi z196.e2,vi z196.e3,vi z196.e4,vi z196.e5,vi z196.e6,vi z196.e7,vi z196.e8,vi z196.e9,vi z196.e10]) E ok 0 rfl rfl rfl qb4 rfl rfl ⟨rfl,trivial⟩ (qjU (n:=11) (qaQ e195).2 (Nat.le_of_ble_eq_true rfl)) (qlw (f:=(Value.int .i64)) (pre:=[vi v166.class_]) (post:=[]) (xs:=Arr11_Int.list v166.next) (ys:=z196.list) rfl h198) rfl fun w ok=>wpList_nil<|qap<|qaa<|qac<|lw E (qaE rfl rfl (InR.inc r167 (ir 11) c180)) fun a E=>mv E rfl fun a E=>wpList_nil ?_
  cases hF
  exact qas ⟨ok,E.keep [1,2,3,6,7,8,9,11,40,41,42,52,53],(InR.inc r167 (ir 11) c180),r168,h199.1,h199.2.1,h199.2.2.1,h199.2.2.2.1,h199.2.2.2.2.1,h199.2.2.2.2.2.1,h199.2.2.2.2.2.2.1,h199.2.2.2.2.2.2.2.1,h199.2.2.2.2.2.2.2.2.1,h199.2.2.2.2.2.2.2.2.2.1,h199.2.2.2.2.2.2.2.2.2.2.1⟩
 intro e a w _ hO
 obtain ⟨rfl,ok,E,r200,r201,r202,r203,r204,r205,r206,r207,r208,r209,r210,r211⟩:=hO
 refine qaN<|qaa<|sg<|mv E rfl fun a E=>lv E ok (qag (cs:=[vi o151.class_,vi o151.next.e0,vi o151.next.e1,vi o151.next.e2,vi o151.next.e3,vi o151.next.e4,vi o151.next.e5,vi o151.next.e6,vi o151.next.e7,vi o151.next.e8,vi o151.next.e9,vi o151.next.e10]) qn5 rfl rfl (qab.own 0 rfl rfl)) fun a E=>?_
 obtain ⟨xv212,h213,yy214,yy215⟩:=qmN (P:=Tryz.prog) (mo:=.tmp 66) (ko:=.tmp 67) (zx:=(0:Int)) ok 3 qnv Tryz.underlying130 h99 rfl (qaU E rfl) (qaU E rfl) ⟨m0,_,rfl,⟨rfl,r200,r201,r202,r203,r204,r205,r206,r207,r208,r209,r210,r211⟩⟩ ql4 (qbc (ir 0))
 obtain ⟨rfl,r216⟩:=qg3 h213
 refine lv E ok (yy215 _) fun a E=>mv E rfl fun a E=>lw E (qaK rfl rfl) fun a E=>lw E (qaK rfl rfl) fun a E=>av E rfl fun a E=>aw E rfl fun a E=>wp_seq<|sg<|mv E rfl fun a E=>lw E (qa2 rfl) fun a E=>wn<|bd hF fun o217 hJ hF=>qaL (Q':=fun e a w=>e = .normal ∧ ∃ c218 M219,Ok u m0 ([(b136,oc 132 [vi o151.class_,vi o151.next.e0,vi o151.next.e1,vi o151.next.e2,vi o151.next.e3,vi o151.next.e4,vi o151.next.e5,vi o151.next.e6,vi o151.next.e7,vi o151.next.e8,vi o151.next.e9,vi o151.next.e10])] :: [(b124,oc 129 [vi x104.e0,vi x104.e1,vi x104.e2,vi x104.e3,vi x104.e4,vi x104.e5,vi x104.e6,vi x104.e7,vi x104.e8,vi x104.e9,vi x104.e10])] :: M101 :: M219 :: [(b12,oc 72 [c66])] :: M67 :: [(b6,oc 75 [(Value.slice none 0 0),(Value.slice none 0 0)])] :: [(b5,oc 75 [c1,c3])] :: S) w ∧ Env 112 a [(1,vp b5),(2,vp b6),(3,vp b12),(6,vi v63),(7,c218),(8,c100),(9,vi v93),(14,vi o217.2),(40,c1),(41,(vi (t_0.next.length:Int))),(42,vi v93)] ∧ OMap (aggK pKey) (oneV (pI .i64)) m0 c218 o217.1 M219 ∧ InR .i64 o217.2) ?_ ?_
 rotate_left
 ·intro e a w hO
  obtain ⟨rfl,c227,M228,ok,E,h229,r230⟩:=hO
  refine qaa<|qac<|mz E rfl rfl fun a E=>mv E rfl fun a E=>?_
  obtain ⟨x231,e232,hF⟩:=bnd hF
  obtain ⟨b233,o234,hp235,yy236⟩:=qcm qbU h102 e232 (P:=Tryz.prog) (X:=.tmp 78) (I:=.tmp 79) (kd:=.i64) (qaU E rfl) (qaU E rfl)
  refine lv E ok (yy236 _ _) fun a E=>bd hF fun l237 e238 hF=>qga (R:=(pI .i64)) E ok 2 rfl h102 e232 hp235 rfl rfl qb4 rfl rfl rfl ⟨rfl,trivial⟩ (qbc r230) e238 rfl fun M239 w ok h240=>wpList_nil<|qap<|qaa<|qac<|lw E (qaE rfl rfl (InR.inc r96 (qao h2) c103)) fun a E=>mv E rfl fun a E=>wpList_nil ?_
  cases hF
  exact qas ⟨c227,M228,c100,M239,(ok.pk 8 [2,3,4,5,6,7] rfl (by decide)),E.keep [1,2,3,6,7,8,40,41,42],(InR.inc r96 (qao h2) c103),h229,h240⟩
 have hF:=hJ
 refine cg E rfl hF (fun c222 hF=>?_) fun c222 hF=>?_
 ·refine wp_skip ?_
  cases hF
  exact ⟨rfl,⟨c97,M98,ok,E.keep [1,2,3,6,7,8,9,14,40,41,42],h99,r216⟩⟩
 refine sg<|mv E rfl fun a E=>lv E ok (qk3 3 rfl Tryz.underlying130 h99 rfl) fun a E=>aw E rfl fun a E=>qac<|mv E rfl fun a E=>lv E ok (qag (cs:=[vi o151.class_,vi o151.next.e0,vi o151.next.e1,vi o151.next.e2,vi o151.next.e3,vi o151.next.e4,vi o151.next.e5,vi o151.next.e6,vi o151.next.e7,vi o151.next.e8,vi o151.next.e9,vi o151.next.e10]) qn5 rfl rfl (qab.own 0 rfl rfl)) fun a E=>mv E rfl fun a E=>bd hF fun l223 e224 hF=>qiK (.inl rfl) E ok 3 qnv Tryz.underlying130 h99 rfl rfl rfl rfl ⟨m0,_,rfl,⟨rfl,r200,r201,r202,r203,r204,r205,r206,r207,r208,r209,r210,r211⟩⟩ (qbc (OMap.InR h99)) e224 rfl fun M225 w ok h226=>wpList_nil ?_
 cases hF
 exact ⟨rfl,⟨c97,M225,ok,E.keep [1,2,3,6,7,8,9,14,40,41,42],h226,(OMap.InR h99)⟩⟩
def qjO (u:World) (m0:Mem) (S:Segs) (r:DFA) (a:Act) (w:World):Prop :=
 ∃ m1 v0,m0.le m1 ∧ Ok u m1 S w ∧ a.defers = [] ∧ RVs Tryz.prog a w [.c 2 35 (.agg v0.toArray)] ∧ pDFA m1 v0 r
theorem qj3 (N:Nat) (vt_0:List Value) (t_0:Table) (ht_0:qg6 m0 vt_0 t_0) {r:DFA} (hF:qeD N t_0 = some r) (hG:Glob u) (ok:Ok u m0 S w) :
  Calls Tryz.prog 45 [.agg vt_0.toArray].toArray w fun e w'=>∃ m1 v0,e = .returned (.agg v0.toArray) ∧ m0.le m1 ∧ Ok u m1 S w' ∧ pDFA m1 v0 r:=by
 obtain ⟨c1,c3,rfl,h2,h4⟩:=ht_0
 have le_m0:=Mem.le.refl m0
 unfold qeD at hF
 refine en (qjO u m0 S) r Tryz.func45 rfl rfl rfl (by rintro a w ⟨m1,v0,hle,ok,hd,hrv,h0⟩; exact qbS [.c 2 35 (.agg v0.toArray)] hd rfl hrv ⟨m1,v0,rfl,hle,ok,h0⟩) fun fin a E=>sg<|qb8 E ok rfl rfl rfl fun b5 a w E ok=>qaB E ok qgx rfl rfl fun b6 a w E ok=>wn<|sg<|fk E ok qg0 qhN rfl 1 rfl rfl fun a E=>lw E (qaP (ps:=[(2,.tmp 7)]) (qs:=[(2,[c3])]) (cs:=[vi 0,(Value.slice none 0 0),c3]) qgx qie rfl ⟨rfl,(qcR h4),rfl,trivial⟩ rfl) fun a E=>qaB E ok qgx rfl rfl fun b7 a w E ok=>qad E ok 0 rfl rfl rfl qhK rfl rfl ⟨rfl,rfl,(qcO h4),trivial⟩ rfl rfl fun w ok=>wn<|wp_seq<|sg<|fk E ok qf9 qh0 rfl 2 rfl rfl fun a E=>lv E ok (qaD qgE h2 rfl) fun a E=>mv E rfl fun a E=>wn<|wp_block ?_
 obtain ⟨M16,ok,h17⟩:=qes (e:=72) (k:=1) (R:=(pL 1 (pI .i64))) ok
 refine bd hF fun o18 hL hF=>qaF _ (fun (s:Int × DFA) a w=>∃ m19 c22 M23 c25,m0.le m19 ∧ Ok u m19 (M23 :: [(b7,oc 35 [vi s.2.Start,c22,c25])] :: [(b6,oc 35 [vi 0,(Value.slice none 0 0),(Value.slice none 0 0)])] :: [(b5,oc 75 [c1,c3])] :: S) w ∧ Env 24 a [(2,vp b6),(3,vp b7),(10,c1),(11,(vi (t_0.next.length:Int))),(12,vi s.1)] ∧ InR .i64 s.1 ∧ InR .i64 s.2.Start ∧ ORow 72 1 (pL 1 (pI .i64)) m19 c22 s.2.Next M23 ∧ (pL 1 pB) m19 [c25] s.2.Accept) (fun (b:DFA) e a w=>e = (.exit 0) ∧ ∃ m97 c99 M100 c102,m0.le m97 ∧ Ok u m97 (M100 :: [(b7,oc 35 [vi b.Start,c99,c102])] :: [(b6,oc 35 [vi 0,(Value.slice none 0 0),(Value.slice none 0 0)])] :: [(b5,oc 75 [c1,c3])] :: S) w ∧ Env 24 a [(2,vp b6),(3,vp b7)] ∧ InR .i64 b.Start ∧ ORow 72 1 (pL 1 (pI .i64)) m97 c99 b.Next M100 ∧ (pL 1 pB) m97 [c102] b.Accept) ?_ ?_ N _ a w hL ⟨m0,(Value.slice none 0 0),M16,c3,Mem.le.refl _,ok,E.keep [2,3,10,11,12],(ir 0),(ir 0),h17,h4⟩
 rotate_left
 ·intro e a w _ hO
  obtain ⟨rfl,m88,c90,M91,c93,hle,ok,E,r89,h92,h94⟩:=hO
  have le_m0:=le_m0.trans hle
  have h2:=(mL qbG).up hle h2
  have h4:=(mL mB).up hle h4
  refine qaN<|qaa<|sg<|lv E ok (qag (cs:=[vi o18.Start,c90,c93]) qgO rfl rfl (qab.own 1 rfl rfl)) fun a E=>qad E ok 2 rfl rfl rfl qhK rfl rfl ⟨rfl,(ORow.one h92),(qcO h94),trivial⟩ rfl rfl fun w ok=>wn<|wp_ret ?_
  obtain ⟨m95,hle,ok,hfz⟩:=(ok.frs 0 rfl).freeze
  have h96:=ORow.froz (mL (mI .i64)) h92 hle hfz (by decide)
  have le_m0:=le_m0.trans hle
  have h2:=(mL qbG).up hle h2
  have h4:=(mL mB).up hle h4
  have h94:=(mL mB).up hle h94
  exact fin hF ⟨m95,[vi o18.Start,c90,c93],le_m0,ok.drop.drop.drop,E.d,⟨rv_c (cs:=[vi o18.Start,c90,c93]) E ok rfl qgO rfl (qab.own 1 rfl rfl),trivial⟩,⟨_,_,rfl,r89,h96,h94⟩⟩
 rintro ⟨v27,v28⟩ a w r ⟨m29,c32,M33,c35,hle,ok,E,r30,r31,h34,h36⟩ hF
 replace hF:qcu N t_0 v27 v28 = some r:=hF
 unfold qcu at hF
 have le_m0:=le_m0.trans hle
 have h2:=(mL qbG).up hle h2
 have h4:=(mL mB).up hle h4
 refine sg<|lw E (qay rfl rfl) fun a E=>wn<|wp_seq<|cg E rfl hF (fun c37 hF=>?_) fun c37 hF=>?_
 ·refine wp_exit<|qaA ?_
  cases hF
  exact so (⟨rfl,⟨m29,c32,M33,c35,le_m0,ok,E.keep [2,3],r31,h34,h36⟩⟩)
 refine wp_skip<|qaa<|wp_seq<|wp_block<|sg ?_
 obtain ⟨x38,e39,hF⟩:=bnd hF
 obtain ⟨b40,o41,es42,hl43,rr44,at45,yy46⟩:=ia E 10 12 qgE h2 e39
 obtain ⟨rfl,r47,r48,r49,r50,r51,r52,r53,r54,r55,r56,r57⟩:=rr44
 refine lv E ok (yy46 _ _) fun a E=>lv E ok (qag (cs:=[vi x38.e0,vi x38.e1,vi x38.e2,vi x38.e3,vi x38.e4,vi x38.e5,vi x38.e6,vi x38.e7,vi x38.e8,vi x38.e9,vi x38.e10]) qiH rfl rfl (qab.ro at45)) fun a E=>qaB E ok qfY rfl rfl fun b58 a w E ok=>qad E ok 0 rfl rfl rfl qn3 rfl rfl ⟨rfl,rfl,rfl,rfl,rfl,rfl,rfl,rfl,rfl,rfl,rfl,trivial⟩ rfl rfl fun w ok=>wn ?_
 have lits:=(show Lits 1 (pI .i64) m29 [vi x38.e0,vi x38.e1,vi x38.e2,vi x38.e3,vi x38.e4,vi x38.e5,vi x38.e6,vi x38.e7,vi x38.e8,vi x38.e9,vi x38.e10] ([x38.e0,x38.e1,x38.e2,x38.e3,x38.e4,x38.e5,x38.e6,x38.e7,x38.e8,x38.e9,x38.e10]:List (Int)) from ⟨⟨_,rfl,rfl,(qbc r47)⟩,⟨_,rfl,rfl,(qbc r48)⟩,⟨_,rfl,rfl,(qbc r49)⟩,⟨_,rfl,rfl,(qbc r50)⟩,⟨_,rfl,rfl,(qbc r51)⟩,⟨_,rfl,rfl,(qbc r52)⟩,⟨_,rfl,rfl,(qbc r53)⟩,⟨_,rfl,rfl,(qbc r54)⟩,⟨_,rfl,rfl,(qbc r55)⟩,⟨_,rfl,rfl,(qbc r56)⟩,⟨_,rfl,rfl,(qbc r57)⟩,trivial⟩)
 obtain ⟨m59,hle,ok,hfz⟩:=(ok.frs 0 rfl).freeze
 have h60:=ql0 (n:=11) (mI .i64) lits rfl hle hfz rfl rfl
 clear lits
 have le_m0:=le_m0.trans hle
 have h2:=(mL qbG).up hle h2
 have h4:=(mL mB).up hle h4
 have h34:=ORow.up (mL (mI .i64)) hle h34
 have h36:=(mL mB).up hle h36
 have at45:=At.up hle at45
 refine bd hF fun o61 hJ hF=>qaL (Q':=fun e a w=>e = .normal ∧ ∃ c63 M64 c66,Ok u m59 (M64 :: [(b7,oc 35 [vi o61.Start,c63,c66])] :: [(b6,oc 35 [vi 0,(Value.slice none 0 0),(Value.slice none 0 0)])] :: [(b5,oc 75 [c1,c3])] :: S) w ∧ Env 24 a [(2,vp b6),(3,vp b7),(10,c1),(11,(vi (t_0.next.length:Int))),(12,vi v27)] ∧ InR .i64 o61.Start ∧ ORow 72 1 (pL 1 (pI .i64)) m59 c63 o61.Next M64 ∧ (pL 1 pB) m59 [c66] o61.Accept) ?_ ?_
 rotate_left
 ·intro e a w hO
  obtain ⟨rfl,c83,M84,c86,ok,E,r82,h85,h87⟩:=hO
  refine qap<|qaa<|qac<|lw E (qaE rfl rfl (InR.inc r30 (qao h2) c37)) fun a E=>mv E rfl fun a E=>wpList_nil ?_
  cases hF
  exact qas ⟨m59,c83,M84,c86,le_m0,ok,E.keep [2,3,10,11,12],(InR.inc r30 (qao h2) c37),r82,h85,h87⟩
 have hF:=hJ
 obtain ⟨l71,e72,hF⟩:=bnd hF
 obtain rfl:=sj hF
 refine qaS [1] (Cls u m59 ([(b7,oc 35 [vi v28.Start,c32,c35])] :: [(b6,oc 35 [vi 0,(Value.slice none 0 0),(Value.slice none 0 0)])] :: [(b5,oc 75 [c1,c3])] :: [])) (Cls u m59 ([(b6,oc 35 [vi 0,(Value.slice none 0 0),(Value.slice none 0 0)])] :: [(b5,oc 75 [c1,c3])] :: [])) (by kernel_rfl) ?_
 intro w hw
 replace ok:=qa6 ok hw
 clear hw
 have le_m59:=Mem.le.refl m59
 refine qai (cl1 (cq le_m59 ok [1,2,3] rfl) (cq le_m59 ok [2,3] rfl)) fun hT=>kt 0 E rfl hT (qae qiJ rfl) fun a E=>qaZ 1 E rfl (by kernel_rfl) nP hT (qaj qlo rfl (qab.cown 0 rfl rfl)) rfl rfl fun a E=>kt 2 E rfl hT (qsh Tryz.underlying129 qb4 rfl) fun a E=>qar [3] (by kernel_rfl) rfl (qat ?_)
 ·refine wo rfl<|qcn (R:=(pL 1 (pI .i64))) (xo:=[.tmp 18]) (xs:=([([x38.e0,x38.e1,x38.e2,x38.e3,x38.e4,x38.e5,x38.e6,x38.e7,x38.e8,x38.e9,x38.e10]:List (Int))]:List (List (Int)))) E ok qkf qiL rfl ⟨⟨_,(qcR h60),rfl,h60⟩,trivial⟩ rfl rfl rfl rfl fun c76 M77 a w E ok h78=>wn<|qai (cl1 (cq le_m59 ok [2,3,4] rfl) (cq le_m59 ok [3,4] rfl)) fun hT=>qar [4] (by kernel_rfl) rfl (qat ?_)
  ·refine wo rfl<|qee (R:=(pL 1 (pI .i64))) E ok 1 (mL (mI .i64)) qkf Tryz.underlying31 rfl h34 (qb7.ofRow h78 0 rfl ok) e72 ⟨_,qiL,rfl⟩ rfl rfl rfl rfl fun c79 M80 a w E ok h81=>wn<|qai (cl1 (cq le_m59 ok [2,3,4] rfl) (cq le_m59 ok [3,4] rfl)) fun hT=>kt 5 E rfl hT (qae qiJ rfl) fun a E=>qar [6] (by kernel_rfl) rfl (qat ?_)
   ·refine wo rfl<|qad E ok 2 rfl rfl rfl qq8 (ORow.cells h81) rfl ⟨(ORow.one h81),trivial⟩ rfl rfl fun w ok=>wn<|qai (cl2 (by kernel_rfl) (cq le_m59 ok [3,4] rfl)) fun hT=>qaR (by kernel_rfl) ?_
    exact ⟨rfl,⟨c79,M80,c35,(ok.pk 5 [1,2,3,4] rfl (by decide)),E.keep [2,3,10,11,12],r31,h81,h36⟩⟩
end Go.Proofs.YtidfofhmnlhfjaaGreatDoor
namespace Go.Proofs.YtidfofhmnlhfjaaGreatDoor
open Go.X
variable {u:World} {m0:Mem} {S:Segs} {w:World}
set_option maxHeartbeats 4000000
set_option maxRecDepth 100000
def qir (u:World) (m0:Mem) (S:Segs) (r:Reading) (a:Act) (w:World):Prop :=
 ∃ m1 v0,m0.le m1 ∧ Ok u m1 S w ∧ a.defers = [] ∧ RVs Tryz.prog a w [.c 6 89 (.agg v0.toArray)] ∧ qca m1 v0 r
theorem qiD (N:Nat) (vs_0:List Value) (s_0:Reading) (hs_0:qca m0 vs_0 s_0) (vl_1:Value) (l_1:List (Relation)) (hl_1:(pL 4 qak) m0 [vl_1] l_1) (symbol_2:Int) (rsymbol_2:InR .i64 symbol_2) {r:Reading} (hF:qeJ N s_0 l_1 symbol_2 = some r) (hG:Glob u) (ok:Ok u m0 S w) :
  Calls Tryz.prog 50 [.agg vs_0.toArray,vl_1,vi symbol_2].toArray w fun e w'=>∃ m1 v0,e = .returned (.agg v0.toArray) ∧ m0.le m1 ∧ Ok u m1 S w' ∧ qca m1 v0 r:=by
 obtain ⟨rfl,r1,r2,r3,r4,r5,r6,r7,r8,r9,r10,r11,r12,r13⟩:=hs_0
 have le_m0:=Mem.le.refl m0
 unfold qeJ at hF
 refine en (qir u m0 S) r Tryz.func50 rfl rfl rfl (by rintro a w ⟨m1,v0,hle,ok,hd,hrv,h0⟩; exact qbS [.c 6 89 (.agg v0.toArray)] hd rfl hrv ⟨m1,v0,rfl,hle,ok,h0⟩) fun fin a E=>sg<|qb8 E ok rfl rfl rfl fun b14 a w E ok=>qaB E ok qfl rfl rfl fun b15 a w E ok=>wn<|wp_seq<|wp_block<|sg<|mv E rfl fun a E=>lw E (qau rfl rfl) fun a E=>mv E rfl fun a E=>bw E 12 hF (fun c16 hF E=>?_) fun c16 hF E=>?_
 ·as_aux_lemma =>
   refine lsq E fun a E=>ls E fun a E=>pf E rfl rfl fun a E=>aw E rfl fun a E=>c_if E rfl (fun h=>by cases h) (fun _=>?_)
   refine sg<|mv E rfl fun a E=>lw E (qau rfl rfl) fun a E=>mv E rfl fun a E=>bu E 22 hF (fun c333 hF E=>?_) fun c333 hF E=>?_
   ·refine lsq E fun a E=>ls E fun a E=>pt E rfl rfl fun a E=>aw E rfl fun a E=>c_if E rfl (fun _=>?_) (fun h=>by cases h)
    refine sg<|lw E (qaP (ps:=[(0,.const (vi 4))]) (qs:=[(0,[vi 4])]) (cs:=[vi 4,vi 0,vi 0,vi 0,vi 0,vi 0,vi 0,vi 0,vi 0,vi 0,vi 0,vi 0,vi 0]) qfl qg4 rfl ⟨rfl,rfl,rfl,trivial⟩ rfl) fun a E=>qad E ok 0 rfl rfl rfl qfU rfl rfl ⟨rfl,rfl,rfl,rfl,rfl,rfl,rfl,rfl,rfl,rfl,rfl,rfl,rfl,trivial⟩ rfl rfl fun w ok=>wn<|wp_ret<|qax<|qal ?_
    exact fin hF ⟨m0,[vi 4,vi 0,vi 0,vi 0,vi 0,vi 0,vi 0,vi 0,vi 0,vi 0,vi 0,vi 0,vi 0],le_m0,ok.drop.drop,E.d,⟨rv_c (cs:=[vi 4,vi 0,vi 0,vi 0,vi 0,vi 0,vi 0,vi 0,vi 0,vi 0,vi 0,vi 0,vi 0]) E ok rfl qcB rfl (qab.own 0 rfl rfl),trivial⟩,⟨rfl,(ir 4),(ir 0),(ir 0),(ir 0),(ir 0),(ir 0),(ir 0),(ir 0),(ir 0),(ir 0),(ir 0),(ir 0),(ir 0)⟩⟩
   refine fk E ok qcx qaq rfl 1 rfl rfl fun a E=>lw E (qau rfl rfl) fun a E=>pf E rfl rfl fun a E=>aw E rfl fun a E=>cf E rfl hF (fun c334 hF=>?_) fun c334 hF=>?_
   ·refine sg<|lw E (qaP (ps:=[(0,.const (vi 4))]) (qs:=[(0,[vi 4])]) (cs:=[vi 4,vi 0,vi 0,vi 0,vi 0,vi 0,vi 0,vi 0,vi 0,vi 0,vi 0,vi 0,vi 0]) qfl qg4 rfl ⟨rfl,rfl,rfl,trivial⟩ rfl) fun a E=>qad E ok 0 rfl rfl rfl qfU rfl rfl ⟨rfl,rfl,rfl,rfl,rfl,rfl,rfl,rfl,rfl,rfl,rfl,rfl,rfl,trivial⟩ rfl rfl fun w ok=>wn<|wp_ret<|qax<|qal ?_
    exact fin hF ⟨m0,[vi 4,vi 0,vi 0,vi 0,vi 0,vi 0,vi 0,vi 0,vi 0,vi 0,vi 0,vi 0,vi 0],le_m0,ok.drop.drop,E.d,⟨rv_c (cs:=[vi 4,vi 0,vi 0,vi 0,vi 0,vi 0,vi 0,vi 0,vi 0,vi 0,vi 0,vi 0,vi 0]) E ok rfl qcB rfl (qab.own 0 rfl rfl),trivial⟩,⟨rfl,(ir 4),(ir 0),(ir 0),(ir 0),(ir 0),(ir 0),(ir 0),(ir 0),(ir 0),(ir 0),(ir 0),(ir 0),(ir 0)⟩⟩
   refine wp_skip<|qap<|qaa<|wp_seq<|sg<|fk E ok qcx qaq rfl 1 rfl rfl fun a E=>lw E (qau rfl rfl) fun a E=>mv E rfl fun a E=>bu E 31 hF (fun c335 hF E=>?_) fun c335 hF E=>?_
   ·as_aux_lemma =>
     refine lsq E fun a E=>ls E fun a E=>pt E rfl rfl fun a E=>wn<|c_if E rfl (fun _=>?_) (fun h=>by cases h)
     refine qac<|fv E qcx rfl fun a E=>qad E ok 1 rfl rfl rfl qb4 rfl rfl ⟨rfl,trivial⟩ rfl rfl fun w ok=>wn<|wp_seq<|sg<|mv E rfl fun a E=>lv E ok (qaD qbk hl_1 rfl) fun a E=>mv E rfl fun a E=>wn<|wp_block<|bd hF fun o351 hL hF=>qaF _ (fun (s:Int × Reading) a w=>∃ m352,m0.le m352 ∧ Ok u m352 ([(b15,oc 89 [vi 0,vi 0,vi 0,vi 0,vi 0,vi 0,vi 0,vi 0,vi 0,vi 0,vi 0,vi 0,vi 0])] :: [(b14,oc 89 [vi s.2.phase,vi s.2.trackers.e0.a,vi s.2.trackers.e0.b,vi s.2.trackers.e1.a,vi s.2.trackers.e1.b,vi s.2.trackers.e2.a,vi s.2.trackers.e2.b,vi s.2.trackers.e3.a,vi s.2.trackers.e3.b,vi s.2.trackers.e4.a,vi s.2.trackers.e4.b,vi s.2.trackers.e5.a,vi s.2.trackers.e5.b])] :: S) w ∧ Env 60 a [(2,vi symbol_2),(3,vp b14),(6,vp b15),(38,vl_1),(39,(vi (l_1.length:Int))),(40,vi s.1)] ∧ InR .i64 s.1 ∧ InR .i64 s.2.phase ∧ InR .i64 s.2.trackers.e0.a ∧ InR .i64 s.2.trackers.e0.b ∧ InR .i64 s.2.trackers.e1.a ∧ InR .i64 s.2.trackers.e1.b ∧ InR .i64 s.2.trackers.e2.a ∧ InR .i64 s.2.trackers.e2.b ∧ InR .i64 s.2.trackers.e3.a ∧ InR .i64 s.2.trackers.e3.b ∧ InR .i64 s.2.trackers.e4.a ∧ InR .i64 s.2.trackers.e4.b ∧ InR .i64 s.2.trackers.e5.a ∧ InR .i64 s.2.trackers.e5.b) (fun (b:Reading) e a w=>e = (.exit 1) ∧ ∃ m464,m0.le m464 ∧ Ok u m464 ([(b15,oc 89 [vi 0,vi 0,vi 0,vi 0,vi 0,vi 0,vi 0,vi 0,vi 0,vi 0,vi 0,vi 0,vi 0])] :: [(b14,oc 89 [vi b.phase,vi b.trackers.e0.a,vi b.trackers.e0.b,vi b.trackers.e1.a,vi b.trackers.e1.b,vi b.trackers.e2.a,vi b.trackers.e2.b,vi b.trackers.e3.a,vi b.trackers.e3.b,vi b.trackers.e4.a,vi b.trackers.e4.b,vi b.trackers.e5.a,vi b.trackers.e5.b])] :: S) w ∧ Env 60 a [(3,vp b14),(6,vp b15)] ∧ InR .i64 b.phase ∧ InR .i64 b.trackers.e0.a ∧ InR .i64 b.trackers.e0.b ∧ InR .i64 b.trackers.e1.a ∧ InR .i64 b.trackers.e1.b ∧ InR .i64 b.trackers.e2.a ∧ InR .i64 b.trackers.e2.b ∧ InR .i64 b.trackers.e3.a ∧ InR .i64 b.trackers.e3.b ∧ InR .i64 b.trackers.e4.a ∧ InR .i64 b.trackers.e4.b ∧ InR .i64 b.trackers.e5.a ∧ InR .i64 b.trackers.e5.b) ?_ ?_ N _ a w hL ⟨m0,Mem.le.refl _,ok,E.keep [2,3,6,38,39,40],(ir 0),(ir 1),r2,r3,r4,r5,r6,r7,r8,r9,r10,r11,r12,r13⟩
     rotate_left
     ·intro e a w _ hO
      obtain ⟨rfl,m450,hle,ok,E,r451,r452,r453,r454,r455,r456,r457,r458,r459,r460,r461,r462,r463⟩:=hO
      have le_m0:=le_m0.trans hle
      have hl_1:=(mL qaf).up hle hl_1
      refine qaN<|qaa<|sg<|lv E ok (qag (cs:=[vi o351.phase,vi o351.trackers.e0.a,vi o351.trackers.e0.b,vi o351.trackers.e1.a,vi o351.trackers.e1.b,vi o351.trackers.e2.a,vi o351.trackers.e2.b,vi o351.trackers.e3.a,vi o351.trackers.e3.b,vi o351.trackers.e4.a,vi o351.trackers.e4.b,vi o351.trackers.e5.a,vi o351.trackers.e5.b]) qcB rfl rfl (qab.own 1 rfl rfl)) fun a E=>qad E ok 0 rfl rfl rfl qfU rfl rfl ⟨rfl,rfl,rfl,rfl,rfl,rfl,rfl,rfl,rfl,rfl,rfl,rfl,rfl,trivial⟩ rfl rfl fun w ok=>wn<|wp_ret ?_
      exact fin hF ⟨m450,[vi o351.phase,vi o351.trackers.e0.a,vi o351.trackers.e0.b,vi o351.trackers.e1.a,vi o351.trackers.e1.b,vi o351.trackers.e2.a,vi o351.trackers.e2.b,vi o351.trackers.e3.a,vi o351.trackers.e3.b,vi o351.trackers.e4.a,vi o351.trackers.e4.b,vi o351.trackers.e5.a,vi o351.trackers.e5.b],le_m0,ok.drop.drop,E.d,⟨rv_c (cs:=[vi o351.phase,vi o351.trackers.e0.a,vi o351.trackers.e0.b,vi o351.trackers.e1.a,vi o351.trackers.e1.b,vi o351.trackers.e2.a,vi o351.trackers.e2.b,vi o351.trackers.e3.a,vi o351.trackers.e3.b,vi o351.trackers.e4.a,vi o351.trackers.e4.b,vi o351.trackers.e5.a,vi o351.trackers.e5.b]) E ok rfl qcB rfl (qab.own 0 rfl rfl),trivial⟩,⟨rfl,r451,r452,r453,r454,r455,r456,r457,r458,r459,r460,r461,r462,r463⟩⟩
     rintro ⟨v367,v368⟩ a w r ⟨m369,hle,ok,E,r370,r371,r372,r373,r374,r375,r376,r377,r378,r379,r380,r381,r382,r383⟩ hF
     replace hF:qdM N l_1 symbol_2 v367 v368 = some r:=hF
     unfold qdM at hF
     have le_m0:=le_m0.trans hle
     have hl_1:=(mL qaf).up hle hl_1
     refine sg<|lw E (qay rfl rfl) fun a E=>wn<|wp_seq<|cg E rfl hF (fun c384 hF=>?_) fun c384 hF=>?_
     ·refine wp_exit<|qaA ?_
      cases hF
      exact so (⟨rfl,⟨m369,le_m0,ok,E.keep [3,6],r371,r372,r373,r374,r375,r376,r377,r378,r379,r380,r381,r382,r383⟩⟩)
     refine wp_skip<|qaa<|wp_seq<|wp_block<|sg<|mv E rfl fun a E=>?_
     obtain ⟨x385,e386,hF⟩:=bnd hF
     obtain ⟨b387,o388,es389,hl390,rr391,at392,yy393⟩:=ia E 38 40 qbk hl_1 e386
     obtain ⟨c396,rfl,r394,r395,h397⟩:=rr391
     refine lv E ok (yy393 _ _) fun a E=>lv E ok (qag (cs:=[vi x385.Operand,vi x385.Mod,vb x385.Not,c396]) qbr rfl rfl (qab.ro at392)) fun a E=>qaB E ok qcW rfl rfl fun b398 a w E ok=>av E rfl fun a E=>qad E ok 0 rfl rfl rfl qf3 rfl rfl ⟨rfl,rfl,rfl,(qcO h397),trivial⟩ rfl rfl fun w ok=>wn<|bd hF fun o399 hJ hF=>qaL (Q':=fun e a w=>e = .normal ∧ ∃ m400,m369.le m400 ∧ Ok u m400 ([(b398,oc 69 [vi x385.Operand,vi x385.Mod,vb x385.Not,c396])] :: [(b15,oc 89 [vi 0,vi 0,vi 0,vi 0,vi 0,vi 0,vi 0,vi 0,vi 0,vi 0,vi 0,vi 0,vi 0])] :: [(b14,oc 89 [vi o399.phase,vi o399.trackers.e0.a,vi o399.trackers.e0.b,vi o399.trackers.e1.a,vi o399.trackers.e1.b,vi o399.trackers.e2.a,vi o399.trackers.e2.b,vi o399.trackers.e3.a,vi o399.trackers.e3.b,vi o399.trackers.e4.a,vi o399.trackers.e4.b,vi o399.trackers.e5.a,vi o399.trackers.e5.b])] :: S) w ∧ Env 60 a [(2,vi symbol_2),(3,vp b14),(6,vp b15),(38,vl_1),(39,(vi (l_1.length:Int))),(40,vi v367)] ∧ InR .i64 o399.phase ∧ InR .i64 o399.trackers.e0.a ∧ InR .i64 o399.trackers.e0.b ∧ InR .i64 o399.trackers.e1.a ∧ InR .i64 o399.trackers.e1.b ∧ InR .i64 o399.trackers.e2.a ∧ InR .i64 o399.trackers.e2.b ∧ InR .i64 o399.trackers.e3.a ∧ InR .i64 o399.trackers.e3.b ∧ InR .i64 o399.trackers.e4.a ∧ InR .i64 o399.trackers.e4.b ∧ InR .i64 o399.trackers.e5.a ∧ InR .i64 o399.trackers.e5.b) ?_ ?_
     rotate_left
     ·intro e a w hO
      obtain ⟨rfl,m436,hle,ok,E,r437,r438,r439,r440,r441,r442,r443,r444,r445,r446,r447,r448,r449⟩:=hO
      have le_m0:=le_m0.trans hle
      have hl_1:=(mL qaf).up hle hl_1
      have h397:=(mL qc2).up hle h397
      have at392:=At.up hle at392
      refine qap<|qaa<|qac<|lw E (qaE rfl rfl (InR.inc r370 (qao hl_1) c384)) fun a E=>mv E rfl fun a E=>wpList_nil ?_
      cases hF
      exact qas ⟨m436,le_m0,(ok.pk 3 [1,2] rfl (by decide)),E.keep [2,3,6,38,39,40],(InR.inc r370 (qao hl_1) c384),r437,r438,r439,r440,r441,r442,r443,r444,r445,r446,r447,r448,r449⟩
     have hF:=hJ
     have le_m369:=Mem.le.refl m369
     obtain ⟨x414,e415,hF⟩:=bnd hF
     obtain ⟨r416,e417,hF⟩:=bnd hF
     obtain ⟨x423,e424,hF⟩:=bnd hF
     obtain ⟨z425,e426,hF⟩:=bnd hF
     obtain rfl:=sj hF
     refine qaS [4,5,7] (Cls u m369 ([(b398,oc 69 [vi x385.Operand,vi x385.Mod,vb x385.Not,c396])] :: [(b15,oc 89 [vi 0,vi 0,vi 0,vi 0,vi 0,vi 0,vi 0,vi 0,vi 0,vi 0,vi 0,vi 0,vi 0])] :: [(b14,oc 89 [vi v368.phase,vi v368.trackers.e0.a,vi v368.trackers.e0.b,vi v368.trackers.e1.a,vi v368.trackers.e1.b,vi v368.trackers.e2.a,vi v368.trackers.e2.b,vi v368.trackers.e3.a,vi v368.trackers.e3.b,vi v368.trackers.e4.a,vi v368.trackers.e4.b,vi v368.trackers.e5.a,vi v368.trackers.e5.b])] :: [])) (Cls u m369 ([(b398,oc 69 [vi x385.Operand,vi x385.Mod,vb x385.Not,c396])] :: [(b15,oc 89 [vi 0,vi 0,vi 0,vi 0,vi 0,vi 0,vi 0,vi 0,vi 0,vi 0,vi 0,vi 0,vi 0])] :: [])) (by kernel_rfl) ?_
     intro w hw
     replace ok:=qa6 ok hw
     clear hw
     have h397_o:=h397
     refine qai (cl1 (cq le_m369 ok [0,1,2] rfl) (cq le_m369 ok [0,1] rfl)) fun hT=>kt 0 E rfl hT (qah rfl) fun a E=>kt 1 E rfl hT (qah rfl) fun a E=>kt 2 E rfl hT (qae qgc rfl) fun a E=>?_
     replace e415:idx (Arr6_Tracker.list v368.trackers) v367 = some x414:=e415
     refine kt 3 E rfl hT (qeo qgC rfl rfl (qaQ e415).1 (qaQ e415).2) fun a E=>qaZ 5 E rfl (by kernel_rfl) nP hT (qag (cs:=[vi x385.Operand,vi x385.Mod,vb x385.Not,c396]) qbr rfl rfl (qab.cown 0 rfl rfl)) rfl rfl fun a E=>kt 6 E rfl hT (qae qcx rfl) fun a E=>qaZ 7 E rfl (by kernel_rfl) nP hT (qaj qaq rfl (qab.cown 2 rfl rfl)) rfl rfl fun a E=>kt 8 E rfl hT (qau rfl rfl) fun a E=>kt 9 E rfl hT (qah rfl) fun a E=>kt 11 E rfl hT (qae qgc rfl) fun a E=>qar [4] (by kernel_rfl) rfl (qat ?_)
     ·refine wo rfl<|lv E ok (qag (cs:=[vi x414.a,vi x414.b]) qbC rfl rfl (qab.idxK (k:=2) (xs:=Arr6_Tracker.list v368.trackers) (f:=(fun x:Tracker=>[vi x.a,vi x.b])) (fun _=>rfl) (qab.own 2 rfl rfl) e415)) fun a E=>wn<|qai (cl1 (cq le_m369 ok [0,1,2] rfl) (cq le_m369 ok [0,1] rfl)) fun hT=>qar [10] (by kernel_rfl) rfl (qat ?_)
      ·refine wo rfl<|qan E qlN rfl (qdc N _ x414 ⟨rfl,(AllP.idx (q:=(fun z:Tracker=>InR .i64 z.a ∧ InR .i64 z.b)) (xs:=Arr6_Tracker.list v368.trackers) ⟨⟨r372,r373⟩,⟨r374,r375⟩,⟨r376,r377⟩,⟨r378,r379⟩,⟨r380,r381⟩,⟨r382,r383⟩,trivial⟩ e415).1,(AllP.idx (q:=(fun z:Tracker=>InR .i64 z.a ∧ InR .i64 z.b)) (xs:=Arr6_Tracker.list v368.trackers) ⟨⟨r372,r373⟩,⟨r374,r375⟩,⟨r376,r377⟩,⟨r378,r379⟩,⟨r380,r381⟩,⟨r382,r383⟩,trivial⟩ e415).2⟩ _ x385 ⟨_,rfl,r394,r395,h397⟩ (v368.phase == 3) symbol_2 rsymbol_2 e417 hG ok) rfl rfl ?_
       rintro _ w ⟨m429,vs430,rfl,hle,ok,h431⟩
       have le_m0:=le_m0.trans hle
       have le_m369:=le_m369.trans hle
       have hl_1:=(mL qaf).up hle hl_1
       have h397:=(mL qc2).up hle h397
       have at392:=At.up hle at392
       obtain ⟨rfl,r432,r433⟩:=h431
       refine ⟨_,rfl,fun a E=>?_⟩
       refine wn<|qai (cl1 (cq le_m369 ok [0,1,2] rfl) (cq le_m369 ok [0,1] rfl)) fun hT=>?_
       replace e424:idx (Arr6_Tracker.list v368.trackers) v367 = some x423:=e424
       refine kt 12 E rfl hT (qeo qgC rfl rfl (qaQ e424).1 (qaQ e424).2) fun a E=>qar [13] (by kernel_rfl) rfl (qat ?_)
       ·refine qbB (o:=_) rfl ?_
        have h434:=Arr6_Tracker.set_list e426
        have h435:=AllP.setI (q:=(fun z:Tracker=>InR .i64 z.a ∧ InR .i64 z.b)) (xs:=Arr6_Tracker.list v368.trackers) ⟨⟨r372,r373⟩,⟨r374,r375⟩,⟨r376,r377⟩,⟨r378,r379⟩,⟨r380,r381⟩,⟨r382,r383⟩,trivial⟩ ⟨r432,r433⟩ h434
        refine qe2 (c:=[vi v368.phase,vi v368.trackers.e0.a,vi v368.trackers.e0.b,vi v368.trackers.e1.a,vi v368.trackers.e1.b,vi v368.trackers.e2.a,vi v368.trackers.e2.b,vi v368.trackers.e3.a,vi v368.trackers.e3.b,vi v368.trackers.e4.a,vi v368.trackers.e4.b,vi v368.trackers.e5.a,vi v368.trackers.e5.b]) (c':=[vi v368.phase,vi z425.e0.a,vi z425.e0.b,vi z425.e1.a,vi z425.e1.b,vi z425.e2.a,vi z425.e2.b,vi z425.e3.a,vi z425.e3.b,vi z425.e4.a,vi z425.e4.b,vi z425.e5.a,vi z425.e5.b]) E ok 2 rfl rfl rfl qdA rfl rfl ⟨rfl,rfl,trivial⟩ (qki (n:=6) (k:=2) (qaQ e424).2 (Nat.le_of_ble_eq_true rfl)) (qlB (f:=(fun x:Tracker=>[vi x.a,vi x.b])) (fun _=>rfl) (pre:=[vi v368.phase]) (post:=[]) (xs:=Arr6_Tracker.list v368.trackers) (ys:=z425.list) rfl h434) rfl fun w ok=>wn<|qai (cl2 (by kernel_rfl) (cq le_m369 ok [0,1] rfl)) fun hT=>qaR (by kernel_rfl) ?_
        exact ⟨rfl,⟨m429,le_m369,ok,E.keep [2,3,6,38,39,40],r371,h435.1.1,h435.1.2,h435.2.1.1,h435.2.1.2,h435.2.2.1.1,h435.2.2.1.2,h435.2.2.2.1.1,h435.2.2.2.1.2,h435.2.2.2.2.1.1,h435.2.2.2.2.1.2,h435.2.2.2.2.2.1.1,h435.2.2.2.2.2.1.2⟩⟩
   refine fk E ok qcx qaq rfl 1 rfl rfl fun a E=>lw E (qau rfl rfl) fun a E=>pf E rfl rfl fun a E=>wn<|bd hF fun o478 hJ hF=>qaL (Q':=fun e a w=>e = .normal ∧ Ok u m0 ([(b15,oc 89 [vi 0,vi 0,vi 0,vi 0,vi 0,vi 0,vi 0,vi 0,vi 0,vi 0,vi 0,vi 0,vi 0])] :: [(b14,oc 89 [vi o478.phase,vi o478.trackers.e0.a,vi o478.trackers.e0.b,vi o478.trackers.e1.a,vi o478.trackers.e1.b,vi o478.trackers.e2.a,vi o478.trackers.e2.b,vi o478.trackers.e3.a,vi o478.trackers.e3.b,vi o478.trackers.e4.a,vi o478.trackers.e4.b,vi o478.trackers.e5.a,vi o478.trackers.e5.b])] :: S) w ∧ Env 60 a [(1,vl_1),(2,vi symbol_2),(3,vp b14),(6,vp b15)] ∧ InR .i64 o478.phase ∧ InR .i64 o478.trackers.e0.a ∧ InR .i64 o478.trackers.e0.b ∧ InR .i64 o478.trackers.e1.a ∧ InR .i64 o478.trackers.e1.b ∧ InR .i64 o478.trackers.e2.a ∧ InR .i64 o478.trackers.e2.b ∧ InR .i64 o478.trackers.e3.a ∧ InR .i64 o478.trackers.e3.b ∧ InR .i64 o478.trackers.e4.a ∧ InR .i64 o478.trackers.e4.b ∧ InR .i64 o478.trackers.e5.a ∧ InR .i64 o478.trackers.e5.b) ?_ ?_
   ·have hF:=hJ
    refine cf E rfl hF (fun c492 hF=>?_) fun c492 hF=>?_
    ·refine qac<|fv E qcx rfl fun a E=>qad E ok 1 rfl rfl rfl qb4 rfl rfl ⟨rfl,trivial⟩ rfl rfl fun w ok=>wpList_nil ?_
     cases hF
     exact ⟨rfl,⟨ok,E.keep [1,2,3,6],(ir 1),r2,r3,r4,r5,r6,r7,r8,r9,r10,r11,r12,r13⟩⟩
    refine qac<|fv E qcx rfl fun a E=>qad E ok 1 rfl rfl rfl qb4 rfl rfl ⟨rfl,trivial⟩ rfl rfl fun w ok=>wpList_nil ?_
    cases hF
    exact ⟨rfl,⟨ok,E.keep [1,2,3,6],(ir 3),r2,r3,r4,r5,r6,r7,r8,r9,r10,r11,r12,r13⟩⟩
   intro e a w hO
   obtain ⟨rfl,ok,E,r493,r494,r495,r496,r497,r498,r499,r500,r501,r502,r503,r504,r505⟩:=hO
   refine qaa<|wp_seq<|sg<|mv E rfl fun a E=>lv E ok (qaD qbk hl_1 rfl) fun a E=>mv E rfl fun a E=>wn<|wp_block<|bd hF fun o521 hL hF=>qaF _ (fun (s:Int × Reading) a w=>∃ m522,m0.le m522 ∧ Ok u m522 ([(b15,oc 89 [vi 0,vi 0,vi 0,vi 0,vi 0,vi 0,vi 0,vi 0,vi 0,vi 0,vi 0,vi 0,vi 0])] :: [(b14,oc 89 [vi s.2.phase,vi s.2.trackers.e0.a,vi s.2.trackers.e0.b,vi s.2.trackers.e1.a,vi s.2.trackers.e1.b,vi s.2.trackers.e2.a,vi s.2.trackers.e2.b,vi s.2.trackers.e3.a,vi s.2.trackers.e3.b,vi s.2.trackers.e4.a,vi s.2.trackers.e4.b,vi s.2.trackers.e5.a,vi s.2.trackers.e5.b])] :: S) w ∧ Env 60 a [(2,vi symbol_2),(3,vp b14),(6,vp b15),(38,vl_1),(39,(vi (l_1.length:Int))),(40,vi s.1)] ∧ InR .i64 s.1 ∧ InR .i64 s.2.phase ∧ InR .i64 s.2.trackers.e0.a ∧ InR .i64 s.2.trackers.e0.b ∧ InR .i64 s.2.trackers.e1.a ∧ InR .i64 s.2.trackers.e1.b ∧ InR .i64 s.2.trackers.e2.a ∧ InR .i64 s.2.trackers.e2.b ∧ InR .i64 s.2.trackers.e3.a ∧ InR .i64 s.2.trackers.e3.b ∧ InR .i64 s.2.trackers.e4.a ∧ InR .i64 s.2.trackers.e4.b ∧ InR .i64 s.2.trackers.e5.a ∧ InR .i64 s.2.trackers.e5.b) (fun (b:Reading) e a w=>e = (.exit 1) ∧ ∃ m634,m0.le m634 ∧ Ok u m634 ([(b15,oc 89 [vi 0,vi 0,vi 0,vi 0,vi 0,vi 0,vi 0,vi 0,vi 0,vi 0,vi 0,vi 0,vi 0])] :: [(b14,oc 89 [vi b.phase,vi b.trackers.e0.a,vi b.trackers.e0.b,vi b.trackers.e1.a,vi b.trackers.e1.b,vi b.trackers.e2.a,vi b.trackers.e2.b,vi b.trackers.e3.a,vi b.trackers.e3.b,vi b.trackers.e4.a,vi b.trackers.e4.b,vi b.trackers.e5.a,vi b.trackers.e5.b])] :: S) w ∧ Env 60 a [(3,vp b14),(6,vp b15)] ∧ InR .i64 b.phase ∧ InR .i64 b.trackers.e0.a ∧ InR .i64 b.trackers.e0.b ∧ InR .i64 b.trackers.e1.a ∧ InR .i64 b.trackers.e1.b ∧ InR .i64 b.trackers.e2.a ∧ InR .i64 b.trackers.e2.b ∧ InR .i64 b.trackers.e3.a ∧ InR .i64 b.trackers.e3.b ∧ InR .i64 b.trackers.e4.a ∧ InR .i64 b.trackers.e4.b ∧ InR .i64 b.trackers.e5.a ∧ InR .i64 b.trackers.e5.b) ?_ ?_ N _ a w hL ⟨m0,Mem.le.refl _,ok,E.keep [2,3,6,38,39,40],(ir 0),r493,r494,r495,r496,r497,r498,r499,r500,r501,r502,r503,r504,r505⟩
   rotate_left
   ·intro e a w _ hO
    obtain ⟨rfl,m620,hle,ok,E,r621,r622,r623,r624,r625,r626,r627,r628,r629,r630,r631,r632,r633⟩:=hO
    have le_m0:=le_m0.trans hle
    have hl_1:=(mL qaf).up hle hl_1
    refine qaN<|qaa<|sg<|lv E ok (qag (cs:=[vi o521.phase,vi o521.trackers.e0.a,vi o521.trackers.e0.b,vi o521.trackers.e1.a,vi o521.trackers.e1.b,vi o521.trackers.e2.a,vi o521.trackers.e2.b,vi o521.trackers.e3.a,vi o521.trackers.e3.b,vi o521.trackers.e4.a,vi o521.trackers.e4.b,vi o521.trackers.e5.a,vi o521.trackers.e5.b]) qcB rfl rfl (qab.own 1 rfl rfl)) fun a E=>qad E ok 0 rfl rfl rfl qfU rfl rfl ⟨rfl,rfl,rfl,rfl,rfl,rfl,rfl,rfl,rfl,rfl,rfl,rfl,rfl,trivial⟩ rfl rfl fun w ok=>wn<|wp_ret ?_
    exact fin hF ⟨m620,[vi o521.phase,vi o521.trackers.e0.a,vi o521.trackers.e0.b,vi o521.trackers.e1.a,vi o521.trackers.e1.b,vi o521.trackers.e2.a,vi o521.trackers.e2.b,vi o521.trackers.e3.a,vi o521.trackers.e3.b,vi o521.trackers.e4.a,vi o521.trackers.e4.b,vi o521.trackers.e5.a,vi o521.trackers.e5.b],le_m0,ok.drop.drop,E.d,⟨rv_c (cs:=[vi o521.phase,vi o521.trackers.e0.a,vi o521.trackers.e0.b,vi o521.trackers.e1.a,vi o521.trackers.e1.b,vi o521.trackers.e2.a,vi o521.trackers.e2.b,vi o521.trackers.e3.a,vi o521.trackers.e3.b,vi o521.trackers.e4.a,vi o521.trackers.e4.b,vi o521.trackers.e5.a,vi o521.trackers.e5.b]) E ok rfl qcB rfl (qab.own 0 rfl rfl),trivial⟩,⟨rfl,r621,r622,r623,r624,r625,r626,r627,r628,r629,r630,r631,r632,r633⟩⟩
   rintro ⟨v537,v538⟩ a w r ⟨m539,hle,ok,E,r540,r541,r542,r543,r544,r545,r546,r547,r548,r549,r550,r551,r552,r553⟩ hF
   replace hF:qdN N l_1 symbol_2 v537 v538 = some r:=hF
   unfold qdN at hF
   have le_m0:=le_m0.trans hle
   have hl_1:=(mL qaf).up hle hl_1
   refine sg<|lw E (qay rfl rfl) fun a E=>wn<|wp_seq<|cg E rfl hF (fun c554 hF=>?_) fun c554 hF=>?_
   ·refine wp_exit<|qaA ?_
    cases hF
    exact so (⟨rfl,⟨m539,le_m0,ok,E.keep [3,6],r541,r542,r543,r544,r545,r546,r547,r548,r549,r550,r551,r552,r553⟩⟩)
   refine wp_skip<|qaa<|wp_seq<|wp_block<|sg<|mv E rfl fun a E=>?_
   obtain ⟨x555,e556,hF⟩:=bnd hF
   obtain ⟨b557,o558,es559,hl560,rr561,at562,yy563⟩:=ia E 38 40 qbk hl_1 e556
   obtain ⟨c566,rfl,r564,r565,h567⟩:=rr561
   refine lv E ok (yy563 _ _) fun a E=>lv E ok (qag (cs:=[vi x555.Operand,vi x555.Mod,vb x555.Not,c566]) qbr rfl rfl (qab.ro at562)) fun a E=>qaB E ok qcW rfl rfl fun b568 a w E ok=>av E rfl fun a E=>qad E ok 0 rfl rfl rfl qf3 rfl rfl ⟨rfl,rfl,rfl,(qcO h567),trivial⟩ rfl rfl fun w ok=>wn<|bd hF fun o569 hJ hF=>qaL (Q':=fun e a w=>e = .normal ∧ ∃ m570,m539.le m570 ∧ Ok u m570 ([(b568,oc 69 [vi x555.Operand,vi x555.Mod,vb x555.Not,c566])] :: [(b15,oc 89 [vi 0,vi 0,vi 0,vi 0,vi 0,vi 0,vi 0,vi 0,vi 0,vi 0,vi 0,vi 0,vi 0])] :: [(b14,oc 89 [vi o569.phase,vi o569.trackers.e0.a,vi o569.trackers.e0.b,vi o569.trackers.e1.a,vi o569.trackers.e1.b,vi o569.trackers.e2.a,vi o569.trackers.e2.b,vi o569.trackers.e3.a,vi o569.trackers.e3.b,vi o569.trackers.e4.a,vi o569.trackers.e4.b,vi o569.trackers.e5.a,vi o569.trackers.e5.b])] :: S) w ∧ Env 60 a [(2,vi symbol_2),(3,vp b14),(6,vp b15),(38,vl_1),(39,(vi (l_1.length:Int))),(40,vi v537)] ∧ InR .i64 o569.phase ∧ InR .i64 o569.trackers.e0.a ∧ InR .i64 o569.trackers.e0.b ∧ InR .i64 o569.trackers.e1.a ∧ InR .i64 o569.trackers.e1.b ∧ InR .i64 o569.trackers.e2.a ∧ InR .i64 o569.trackers.e2.b ∧ InR .i64 o569.trackers.e3.a ∧ InR .i64 o569.trackers.e3.b ∧ InR .i64 o569.trackers.e4.a ∧ InR .i64 o569.trackers.e4.b ∧ InR .i64 o569.trackers.e5.a ∧ InR .i64 o569.trackers.e5.b) ?_ ?_
   rotate_left
   ·intro e a w hO
    obtain ⟨rfl,m606,hle,ok,E,r607,r608,r609,r610,r611,r612,r613,r614,r615,r616,r617,r618,r619⟩:=hO
    have le_m0:=le_m0.trans hle
    have hl_1:=(mL qaf).up hle hl_1
    have h567:=(mL qc2).up hle h567
    have at562:=At.up hle at562
    refine qap<|qaa<|qac<|lw E (qaE rfl rfl (InR.inc r540 (qao hl_1) c554)) fun a E=>mv E rfl fun a E=>wpList_nil ?_
    cases hF
    exact qas ⟨m606,le_m0,(ok.pk 3 [1,2] rfl (by decide)),E.keep [2,3,6,38,39,40],(InR.inc r540 (qao hl_1) c554),r607,r608,r609,r610,r611,r612,r613,r614,r615,r616,r617,r618,r619⟩
   have hF:=hJ
   have le_m539:=Mem.le.refl m539
   obtain ⟨x584,e585,hF⟩:=bnd hF
   obtain ⟨r586,e587,hF⟩:=bnd hF
   obtain ⟨x593,e594,hF⟩:=bnd hF
   obtain ⟨z595,e596,hF⟩:=bnd hF
   obtain rfl:=sj hF
   refine qaS [4,5,7] (Cls u m539 ([(b568,oc 69 [vi x555.Operand,vi x555.Mod,vb x555.Not,c566])] :: [(b15,oc 89 [vi 0,vi 0,vi 0,vi 0,vi 0,vi 0,vi 0,vi 0,vi 0,vi 0,vi 0,vi 0,vi 0])] :: [(b14,oc 89 [vi v538.phase,vi v538.trackers.e0.a,vi v538.trackers.e0.b,vi v538.trackers.e1.a,vi v538.trackers.e1.b,vi v538.trackers.e2.a,vi v538.trackers.e2.b,vi v538.trackers.e3.a,vi v538.trackers.e3.b,vi v538.trackers.e4.a,vi v538.trackers.e4.b,vi v538.trackers.e5.a,vi v538.trackers.e5.b])] :: [])) (Cls u m539 ([(b568,oc 69 [vi x555.Operand,vi x555.Mod,vb x555.Not,c566])] :: [(b15,oc 89 [vi 0,vi 0,vi 0,vi 0,vi 0,vi 0,vi 0,vi 0,vi 0,vi 0,vi 0,vi 0,vi 0])] :: [])) (by kernel_rfl) ?_
   intro w hw
   replace ok:=qa6 ok hw
   clear hw
   have h567_o:=h567
   refine qai (cl1 (cq le_m539 ok [0,1,2] rfl) (cq le_m539 ok [0,1] rfl)) fun hT=>kt 0 E rfl hT (qah rfl) fun a E=>kt 1 E rfl hT (qah rfl) fun a E=>kt 2 E rfl hT (qae qgc rfl) fun a E=>?_
   replace e585:idx (Arr6_Tracker.list v538.trackers) v537 = some x584:=e585
   refine kt 3 E rfl hT (qeo qgC rfl rfl (qaQ e585).1 (qaQ e585).2) fun a E=>qaZ 5 E rfl (by kernel_rfl) nP hT (qag (cs:=[vi x555.Operand,vi x555.Mod,vb x555.Not,c566]) qbr rfl rfl (qab.cown 0 rfl rfl)) rfl rfl fun a E=>kt 6 E rfl hT (qae qcx rfl) fun a E=>qaZ 7 E rfl (by kernel_rfl) nP hT (qaj qaq rfl (qab.cown 2 rfl rfl)) rfl rfl fun a E=>kt 8 E rfl hT (qau rfl rfl) fun a E=>kt 9 E rfl hT (qah rfl) fun a E=>kt 11 E rfl hT (qae qgc rfl) fun a E=>qar [4] (by kernel_rfl) rfl (qat ?_)
   ·refine wo rfl<|lv E ok (qag (cs:=[vi x584.a,vi x584.b]) qbC rfl rfl (qab.idxK (k:=2) (xs:=Arr6_Tracker.list v538.trackers) (f:=(fun x:Tracker=>[vi x.a,vi x.b])) (fun _=>rfl) (qab.own 2 rfl rfl) e585)) fun a E=>wn<|qai (cl1 (cq le_m539 ok [0,1,2] rfl) (cq le_m539 ok [0,1] rfl)) fun hT=>qar [10] (by kernel_rfl) rfl (qat ?_)
    ·refine wo rfl<|qan E qlN rfl (qdc N _ x584 ⟨rfl,(AllP.idx (q:=(fun z:Tracker=>InR .i64 z.a ∧ InR .i64 z.b)) (xs:=Arr6_Tracker.list v538.trackers) ⟨⟨r542,r543⟩,⟨r544,r545⟩,⟨r546,r547⟩,⟨r548,r549⟩,⟨r550,r551⟩,⟨r552,r553⟩,trivial⟩ e585).1,(AllP.idx (q:=(fun z:Tracker=>InR .i64 z.a ∧ InR .i64 z.b)) (xs:=Arr6_Tracker.list v538.trackers) ⟨⟨r542,r543⟩,⟨r544,r545⟩,⟨r546,r547⟩,⟨r548,r549⟩,⟨r550,r551⟩,⟨r552,r553⟩,trivial⟩ e585).2⟩ _ x555 ⟨_,rfl,r564,r565,h567⟩ (v538.phase == 3) symbol_2 rsymbol_2 e587 hG ok) rfl rfl ?_
     rintro _ w ⟨m599,vs600,rfl,hle,ok,h601⟩
     have le_m0:=le_m0.trans hle
     have le_m539:=le_m539.trans hle
     have hl_1:=(mL qaf).up hle hl_1
     have h567:=(mL qc2).up hle h567
     have at562:=At.up hle at562
     obtain ⟨rfl,r602,r603⟩:=h601
     refine ⟨_,rfl,fun a E=>?_⟩
     refine wn<|qai (cl1 (cq le_m539 ok [0,1,2] rfl) (cq le_m539 ok [0,1] rfl)) fun hT=>?_
     replace e594:idx (Arr6_Tracker.list v538.trackers) v537 = some x593:=e594
     refine kt 12 E rfl hT (qeo qgC rfl rfl (qaQ e594).1 (qaQ e594).2) fun a E=>qar [13] (by kernel_rfl) rfl (qat ?_)
     ·refine qbB (o:=_) rfl ?_
      have h604:=Arr6_Tracker.set_list e596
      have h605:=AllP.setI (q:=(fun z:Tracker=>InR .i64 z.a ∧ InR .i64 z.b)) (xs:=Arr6_Tracker.list v538.trackers) ⟨⟨r542,r543⟩,⟨r544,r545⟩,⟨r546,r547⟩,⟨r548,r549⟩,⟨r550,r551⟩,⟨r552,r553⟩,trivial⟩ ⟨r602,r603⟩ h604
      refine qe2 (c:=[vi v538.phase,vi v538.trackers.e0.a,vi v538.trackers.e0.b,vi v538.trackers.e1.a,vi v538.trackers.e1.b,vi v538.trackers.e2.a,vi v538.trackers.e2.b,vi v538.trackers.e3.a,vi v538.trackers.e3.b,vi v538.trackers.e4.a,vi v538.trackers.e4.b,vi v538.trackers.e5.a,vi v538.trackers.e5.b]) (c':=[vi v538.phase,vi z595.e0.a,vi z595.e0.b,vi z595.e1.a,vi z595.e1.b,vi z595.e2.a,vi z595.e2.b,vi z595.e3.a,vi z595.e3.b,vi z595.e4.a,vi z595.e4.b,vi z595.e5.a,vi z595.e5.b]) E ok 2 rfl rfl rfl qdA rfl rfl ⟨rfl,rfl,trivial⟩ (qki (n:=6) (k:=2) (qaQ e594).2 (Nat.le_of_ble_eq_true rfl)) (qlB (f:=(fun x:Tracker=>[vi x.a,vi x.b])) (fun _=>rfl) (pre:=[vi v538.phase]) (post:=[]) (xs:=Arr6_Tracker.list v538.trackers) (ys:=z595.list) rfl h604) rfl fun w ok=>wn<|qai (cl2 (by kernel_rfl) (cq le_m539 ok [0,1] rfl)) fun hT=>qaR (by kernel_rfl) ?_
      exact ⟨rfl,⟨m599,le_m539,ok,E.keep [2,3,6,38,39,40],r541,h605.1.1,h605.1.2,h605.2.1.1,h605.2.1.2,h605.2.2.1.1,h605.2.2.1.2,h605.2.2.2.1.1,h605.2.2.2.1.2,h605.2.2.2.2.1.1,h605.2.2.2.2.1.2,h605.2.2.2.2.2.1.1,h605.2.2.2.2.2.1.2⟩⟩
 refine fk E ok qcx qaq rfl 1 rfl rfl fun a E=>lw E (qau rfl rfl) fun a E=>pt E rfl rfl fun a E=>aw E rfl fun a E=>cf E rfl hF (fun c17 hF=>?_) fun c17 hF=>?_
 ·refine sg<|fv E qcx rfl fun a E=>qad E ok 1 rfl rfl rfl qb4 rfl rfl ⟨rfl,trivial⟩ rfl rfl fun w ok=>wn<|sg<|lv E ok (qag (cs:=[vi 2,vi s_0.trackers.e0.a,vi s_0.trackers.e0.b,vi s_0.trackers.e1.a,vi s_0.trackers.e1.b,vi s_0.trackers.e2.a,vi s_0.trackers.e2.b,vi s_0.trackers.e3.a,vi s_0.trackers.e3.b,vi s_0.trackers.e4.a,vi s_0.trackers.e4.b,vi s_0.trackers.e5.a,vi s_0.trackers.e5.b]) qcB rfl rfl (qab.own 1 rfl rfl)) fun a E=>qad E ok 0 rfl rfl rfl qfU rfl rfl ⟨rfl,rfl,rfl,rfl,rfl,rfl,rfl,rfl,rfl,rfl,rfl,rfl,rfl,trivial⟩ rfl rfl fun w ok=>wn<|wp_ret<|qax<|qal ?_
  exact fin hF ⟨m0,[vi 2,vi s_0.trackers.e0.a,vi s_0.trackers.e0.b,vi s_0.trackers.e1.a,vi s_0.trackers.e1.b,vi s_0.trackers.e2.a,vi s_0.trackers.e2.b,vi s_0.trackers.e3.a,vi s_0.trackers.e3.b,vi s_0.trackers.e4.a,vi s_0.trackers.e4.b,vi s_0.trackers.e5.a,vi s_0.trackers.e5.b],le_m0,ok.drop.drop,E.d,⟨rv_c (cs:=[vi 2,vi s_0.trackers.e0.a,vi s_0.trackers.e0.b,vi s_0.trackers.e1.a,vi s_0.trackers.e1.b,vi s_0.trackers.e2.a,vi s_0.trackers.e2.b,vi s_0.trackers.e3.a,vi s_0.trackers.e3.b,vi s_0.trackers.e4.a,vi s_0.trackers.e4.b,vi s_0.trackers.e5.a,vi s_0.trackers.e5.b]) E ok rfl qcB rfl (qab.own 0 rfl rfl),trivial⟩,⟨rfl,(ir 2),r2,r3,r4,r5,r6,r7,r8,r9,r10,r11,r12,r13⟩⟩
 refine sg<|mv E rfl fun a E=>lw E (qau rfl rfl) fun a E=>mv E rfl fun a E=>bu E 22 hF (fun c18 hF E=>?_) fun c18 hF E=>?_
 ·refine lsq E fun a E=>ls E fun a E=>pt E rfl rfl fun a E=>aw E rfl fun a E=>c_if E rfl (fun _=>?_) (fun h=>by cases h)
  refine sg<|lw E (qaP (ps:=[(0,.const (vi 4))]) (qs:=[(0,[vi 4])]) (cs:=[vi 4,vi 0,vi 0,vi 0,vi 0,vi 0,vi 0,vi 0,vi 0,vi 0,vi 0,vi 0,vi 0]) qfl qg4 rfl ⟨rfl,rfl,rfl,trivial⟩ rfl) fun a E=>qad E ok 0 rfl rfl rfl qfU rfl rfl ⟨rfl,rfl,rfl,rfl,rfl,rfl,rfl,rfl,rfl,rfl,rfl,rfl,rfl,trivial⟩ rfl rfl fun w ok=>wn<|wp_ret<|qax<|qal ?_
  exact fin hF ⟨m0,[vi 4,vi 0,vi 0,vi 0,vi 0,vi 0,vi 0,vi 0,vi 0,vi 0,vi 0,vi 0,vi 0],le_m0,ok.drop.drop,E.d,⟨rv_c (cs:=[vi 4,vi 0,vi 0,vi 0,vi 0,vi 0,vi 0,vi 0,vi 0,vi 0,vi 0,vi 0,vi 0]) E ok rfl qcB rfl (qab.own 0 rfl rfl),trivial⟩,⟨rfl,(ir 4),(ir 0),(ir 0),(ir 0),(ir 0),(ir 0),(ir 0),(ir 0),(ir 0),(ir 0),(ir 0),(ir 0),(ir 0)⟩⟩
 refine fk E ok qcx qaq rfl 1 rfl rfl fun a E=>lw E (qau rfl rfl) fun a E=>pf E rfl rfl fun a E=>aw E rfl fun a E=>cf E rfl hF (fun c19 hF=>?_) fun c19 hF=>?_
 ·refine sg<|lw E (qaP (ps:=[(0,.const (vi 4))]) (qs:=[(0,[vi 4])]) (cs:=[vi 4,vi 0,vi 0,vi 0,vi 0,vi 0,vi 0,vi 0,vi 0,vi 0,vi 0,vi 0,vi 0]) qfl qg4 rfl ⟨rfl,rfl,rfl,trivial⟩ rfl) fun a E=>qad E ok 0 rfl rfl rfl qfU rfl rfl ⟨rfl,rfl,rfl,rfl,rfl,rfl,rfl,rfl,rfl,rfl,rfl,rfl,rfl,trivial⟩ rfl rfl fun w ok=>wn<|wp_ret<|qax<|qal ?_
  exact fin hF ⟨m0,[vi 4,vi 0,vi 0,vi 0,vi 0,vi 0,vi 0,vi 0,vi 0,vi 0,vi 0,vi 0,vi 0],le_m0,ok.drop.drop,E.d,⟨rv_c (cs:=[vi 4,vi 0,vi 0,vi 0,vi 0,vi 0,vi 0,vi 0,vi 0,vi 0,vi 0,vi 0,vi 0]) E ok rfl qcB rfl (qab.own 0 rfl rfl),trivial⟩,⟨rfl,(ir 4),(ir 0),(ir 0),(ir 0),(ir 0),(ir 0),(ir 0),(ir 0),(ir 0),(ir 0),(ir 0),(ir 0),(ir 0)⟩⟩
 refine wp_skip<|qap<|qaa<|wp_seq<|sg<|fk E ok qcx qaq rfl 1 rfl rfl fun a E=>lw E (qau rfl rfl) fun a E=>mv E rfl fun a E=>bu E 31 hF (fun c20 hF E=>?_) fun c20 hF E=>?_
 ·as_aux_lemma =>
   refine lsq E fun a E=>ls E fun a E=>pt E rfl rfl fun a E=>wn<|c_if E rfl (fun _=>?_) (fun h=>by cases h)
   refine qac<|fv E qcx rfl fun a E=>qad E ok 1 rfl rfl rfl qb4 rfl rfl ⟨rfl,trivial⟩ rfl rfl fun w ok=>wn<|wp_seq<|sg<|mv E rfl fun a E=>lv E ok (qaD qbk hl_1 rfl) fun a E=>mv E rfl fun a E=>wn<|wp_block<|bd hF fun o36 hL hF=>qaF _ (fun (s:Int × Reading) a w=>∃ m37,m0.le m37 ∧ Ok u m37 ([(b15,oc 89 [vi 0,vi 0,vi 0,vi 0,vi 0,vi 0,vi 0,vi 0,vi 0,vi 0,vi 0,vi 0,vi 0])] :: [(b14,oc 89 [vi s.2.phase,vi s.2.trackers.e0.a,vi s.2.trackers.e0.b,vi s.2.trackers.e1.a,vi s.2.trackers.e1.b,vi s.2.trackers.e2.a,vi s.2.trackers.e2.b,vi s.2.trackers.e3.a,vi s.2.trackers.e3.b,vi s.2.trackers.e4.a,vi s.2.trackers.e4.b,vi s.2.trackers.e5.a,vi s.2.trackers.e5.b])] :: S) w ∧ Env 60 a [(2,vi symbol_2),(3,vp b14),(6,vp b15),(38,vl_1),(39,(vi (l_1.length:Int))),(40,vi s.1)] ∧ InR .i64 s.1 ∧ InR .i64 s.2.phase ∧ InR .i64 s.2.trackers.e0.a ∧ InR .i64 s.2.trackers.e0.b ∧ InR .i64 s.2.trackers.e1.a ∧ InR .i64 s.2.trackers.e1.b ∧ InR .i64 s.2.trackers.e2.a ∧ InR .i64 s.2.trackers.e2.b ∧ InR .i64 s.2.trackers.e3.a ∧ InR .i64 s.2.trackers.e3.b ∧ InR .i64 s.2.trackers.e4.a ∧ InR .i64 s.2.trackers.e4.b ∧ InR .i64 s.2.trackers.e5.a ∧ InR .i64 s.2.trackers.e5.b) (fun (b:Reading) e a w=>e = (.exit 1) ∧ ∃ m149,m0.le m149 ∧ Ok u m149 ([(b15,oc 89 [vi 0,vi 0,vi 0,vi 0,vi 0,vi 0,vi 0,vi 0,vi 0,vi 0,vi 0,vi 0,vi 0])] :: [(b14,oc 89 [vi b.phase,vi b.trackers.e0.a,vi b.trackers.e0.b,vi b.trackers.e1.a,vi b.trackers.e1.b,vi b.trackers.e2.a,vi b.trackers.e2.b,vi b.trackers.e3.a,vi b.trackers.e3.b,vi b.trackers.e4.a,vi b.trackers.e4.b,vi b.trackers.e5.a,vi b.trackers.e5.b])] :: S) w ∧ Env 60 a [(3,vp b14),(6,vp b15)] ∧ InR .i64 b.phase ∧ InR .i64 b.trackers.e0.a ∧ InR .i64 b.trackers.e0.b ∧ InR .i64 b.trackers.e1.a ∧ InR .i64 b.trackers.e1.b ∧ InR .i64 b.trackers.e2.a ∧ InR .i64 b.trackers.e2.b ∧ InR .i64 b.trackers.e3.a ∧ InR .i64 b.trackers.e3.b ∧ InR .i64 b.trackers.e4.a ∧ InR .i64 b.trackers.e4.b ∧ InR .i64 b.trackers.e5.a ∧ InR .i64 b.trackers.e5.b) ?_ ?_ N _ a w hL ⟨m0,Mem.le.refl _,ok,E.keep [2,3,6,38,39,40],(ir 0),(ir 1),r2,r3,r4,r5,r6,r7,r8,r9,r10,r11,r12,r13⟩
   rotate_left
   ·intro e a w _ hO
    obtain ⟨rfl,m135,hle,ok,E,r136,r137,r138,r139,r140,r141,r142,r143,r144,r145,r146,r147,r148⟩:=hO
    have le_m0:=le_m0.trans hle
    have hl_1:=(mL qaf).up hle hl_1
    refine qaN<|qaa<|sg<|lv E ok (qag (cs:=[vi o36.phase,vi o36.trackers.e0.a,vi o36.trackers.e0.b,vi o36.trackers.e1.a,vi o36.trackers.e1.b,vi o36.trackers.e2.a,vi o36.trackers.e2.b,vi o36.trackers.e3.a,vi o36.trackers.e3.b,vi o36.trackers.e4.a,vi o36.trackers.e4.b,vi o36.trackers.e5.a,vi o36.trackers.e5.b]) qcB rfl rfl (qab.own 1 rfl rfl)) fun a E=>qad E ok 0 rfl rfl rfl qfU rfl rfl ⟨rfl,rfl,rfl,rfl,rfl,rfl,rfl,rfl,rfl,rfl,rfl,rfl,rfl,trivial⟩ rfl rfl fun w ok=>wn<|wp_ret ?_
    exact fin hF ⟨m135,[vi o36.phase,vi o36.trackers.e0.a,vi o36.trackers.e0.b,vi o36.trackers.e1.a,vi o36.trackers.e1.b,vi o36.trackers.e2.a,vi o36.trackers.e2.b,vi o36.trackers.e3.a,vi o36.trackers.e3.b,vi o36.trackers.e4.a,vi o36.trackers.e4.b,vi o36.trackers.e5.a,vi o36.trackers.e5.b],le_m0,ok.drop.drop,E.d,⟨rv_c (cs:=[vi o36.phase,vi o36.trackers.e0.a,vi o36.trackers.e0.b,vi o36.trackers.e1.a,vi o36.trackers.e1.b,vi o36.trackers.e2.a,vi o36.trackers.e2.b,vi o36.trackers.e3.a,vi o36.trackers.e3.b,vi o36.trackers.e4.a,vi o36.trackers.e4.b,vi o36.trackers.e5.a,vi o36.trackers.e5.b]) E ok rfl qcB rfl (qab.own 0 rfl rfl),trivial⟩,⟨rfl,r136,r137,r138,r139,r140,r141,r142,r143,r144,r145,r146,r147,r148⟩⟩
   rintro ⟨v52,v53⟩ a w r ⟨m54,hle,ok,E,r55,r56,r57,r58,r59,r60,r61,r62,r63,r64,r65,r66,r67,r68⟩ hF
   replace hF:qa8 N l_1 symbol_2 v52 v53 = some r:=hF
   unfold qa8 at hF
   have le_m0:=le_m0.trans hle
   have hl_1:=(mL qaf).up hle hl_1
   refine sg<|lw E (qay rfl rfl) fun a E=>wn<|wp_seq<|cg E rfl hF (fun c69 hF=>?_) fun c69 hF=>?_
   ·refine wp_exit<|qaA ?_
    cases hF
    exact so (⟨rfl,⟨m54,le_m0,ok,E.keep [3,6],r56,r57,r58,r59,r60,r61,r62,r63,r64,r65,r66,r67,r68⟩⟩)
   refine wp_skip<|qaa<|wp_seq<|wp_block<|sg<|mv E rfl fun a E=>?_
   obtain ⟨x70,e71,hF⟩:=bnd hF
   obtain ⟨b72,o73,es74,hl75,rr76,at77,yy78⟩:=ia E 38 40 qbk hl_1 e71
   obtain ⟨c81,rfl,r79,r80,h82⟩:=rr76
   refine lv E ok (yy78 _ _) fun a E=>lv E ok (qag (cs:=[vi x70.Operand,vi x70.Mod,vb x70.Not,c81]) qbr rfl rfl (qab.ro at77)) fun a E=>qaB E ok qcW rfl rfl fun b83 a w E ok=>av E rfl fun a E=>qad E ok 0 rfl rfl rfl qf3 rfl rfl ⟨rfl,rfl,rfl,(qcO h82),trivial⟩ rfl rfl fun w ok=>wn<|bd hF fun o84 hJ hF=>qaL (Q':=fun e a w=>e = .normal ∧ ∃ m85,m54.le m85 ∧ Ok u m85 ([(b83,oc 69 [vi x70.Operand,vi x70.Mod,vb x70.Not,c81])] :: [(b15,oc 89 [vi 0,vi 0,vi 0,vi 0,vi 0,vi 0,vi 0,vi 0,vi 0,vi 0,vi 0,vi 0,vi 0])] :: [(b14,oc 89 [vi o84.phase,vi o84.trackers.e0.a,vi o84.trackers.e0.b,vi o84.trackers.e1.a,vi o84.trackers.e1.b,vi o84.trackers.e2.a,vi o84.trackers.e2.b,vi o84.trackers.e3.a,vi o84.trackers.e3.b,vi o84.trackers.e4.a,vi o84.trackers.e4.b,vi o84.trackers.e5.a,vi o84.trackers.e5.b])] :: S) w ∧ Env 60 a [(2,vi symbol_2),(3,vp b14),(6,vp b15),(38,vl_1),(39,(vi (l_1.length:Int))),(40,vi v52)] ∧ InR .i64 o84.phase ∧ InR .i64 o84.trackers.e0.a ∧ InR .i64 o84.trackers.e0.b ∧ InR .i64 o84.trackers.e1.a ∧ InR .i64 o84.trackers.e1.b ∧ InR .i64 o84.trackers.e2.a ∧ InR .i64 o84.trackers.e2.b ∧ InR .i64 o84.trackers.e3.a ∧ InR .i64 o84.trackers.e3.b ∧ InR .i64 o84.trackers.e4.a ∧ InR .i64 o84.trackers.e4.b ∧ InR .i64 o84.trackers.e5.a ∧ InR .i64 o84.trackers.e5.b) ?_ ?_
   rotate_left
   ·intro e a w hO
    obtain ⟨rfl,m121,hle,ok,E,r122,r123,r124,r125,r126,r127,r128,r129,r130,r131,r132,r133,r134⟩:=hO
    have le_m0:=le_m0.trans hle
    have hl_1:=(mL qaf).up hle hl_1
    have h82:=(mL qc2).up hle h82
    have at77:=At.up hle at77
    refine qap<|qaa<|qac<|lw E (qaE rfl rfl (InR.inc r55 (qao hl_1) c69)) fun a E=>mv E rfl fun a E=>wpList_nil ?_
    cases hF
    exact qas ⟨m121,le_m0,(ok.pk 3 [1,2] rfl (by decide)),E.keep [2,3,6,38,39,40],(InR.inc r55 (qao hl_1) c69),r122,r123,r124,r125,r126,r127,r128,r129,r130,r131,r132,r133,r134⟩
   have hF:=hJ
   have le_m54:=Mem.le.refl m54
   obtain ⟨x99,e100,hF⟩:=bnd hF
   obtain ⟨r101,e102,hF⟩:=bnd hF
   obtain ⟨x108,e109,hF⟩:=bnd hF
   obtain ⟨z110,e111,hF⟩:=bnd hF
   obtain rfl:=sj hF
   refine qaS [4,5,7] (Cls u m54 ([(b83,oc 69 [vi x70.Operand,vi x70.Mod,vb x70.Not,c81])] :: [(b15,oc 89 [vi 0,vi 0,vi 0,vi 0,vi 0,vi 0,vi 0,vi 0,vi 0,vi 0,vi 0,vi 0,vi 0])] :: [(b14,oc 89 [vi v53.phase,vi v53.trackers.e0.a,vi v53.trackers.e0.b,vi v53.trackers.e1.a,vi v53.trackers.e1.b,vi v53.trackers.e2.a,vi v53.trackers.e2.b,vi v53.trackers.e3.a,vi v53.trackers.e3.b,vi v53.trackers.e4.a,vi v53.trackers.e4.b,vi v53.trackers.e5.a,vi v53.trackers.e5.b])] :: [])) (Cls u m54 ([(b83,oc 69 [vi x70.Operand,vi x70.Mod,vb x70.Not,c81])] :: [(b15,oc 89 [vi 0,vi 0,vi 0,vi 0,vi 0,vi 0,vi 0,vi 0,vi 0,vi 0,vi 0,vi 0,vi 0])] :: [])) (by kernel_rfl) ?_
   intro w hw
   replace ok:=qa6 ok hw
   clear hw
   have h82_o:=h82
   refine qai (cl1 (cq le_m54 ok [0,1,2] rfl) (cq le_m54 ok [0,1] rfl)) fun hT=>kt 0 E rfl hT (qah rfl) fun a E=>kt 1 E rfl hT (qah rfl) fun a E=>kt 2 E rfl hT (qae qgc rfl) fun a E=>?_
   replace e100:idx (Arr6_Tracker.list v53.trackers) v52 = some x99:=e100
   refine kt 3 E rfl hT (qeo qgC rfl rfl (qaQ e100).1 (qaQ e100).2) fun a E=>qaZ 5 E rfl (by kernel_rfl) nP hT (qag (cs:=[vi x70.Operand,vi x70.Mod,vb x70.Not,c81]) qbr rfl rfl (qab.cown 0 rfl rfl)) rfl rfl fun a E=>kt 6 E rfl hT (qae qcx rfl) fun a E=>qaZ 7 E rfl (by kernel_rfl) nP hT (qaj qaq rfl (qab.cown 2 rfl rfl)) rfl rfl fun a E=>kt 8 E rfl hT (qau rfl rfl) fun a E=>kt 9 E rfl hT (qah rfl) fun a E=>kt 11 E rfl hT (qae qgc rfl) fun a E=>qar [4] (by kernel_rfl) rfl (qat ?_)
   ·refine wo rfl<|lv E ok (qag (cs:=[vi x99.a,vi x99.b]) qbC rfl rfl (qab.idxK (k:=2) (xs:=Arr6_Tracker.list v53.trackers) (f:=(fun x:Tracker=>[vi x.a,vi x.b])) (fun _=>rfl) (qab.own 2 rfl rfl) e100)) fun a E=>wn<|qai (cl1 (cq le_m54 ok [0,1,2] rfl) (cq le_m54 ok [0,1] rfl)) fun hT=>qar [10] (by kernel_rfl) rfl (qat ?_)
    ·refine wo rfl<|qan E qlN rfl (qdc N _ x99 ⟨rfl,(AllP.idx (q:=(fun z:Tracker=>InR .i64 z.a ∧ InR .i64 z.b)) (xs:=Arr6_Tracker.list v53.trackers) ⟨⟨r57,r58⟩,⟨r59,r60⟩,⟨r61,r62⟩,⟨r63,r64⟩,⟨r65,r66⟩,⟨r67,r68⟩,trivial⟩ e100).1,(AllP.idx (q:=(fun z:Tracker=>InR .i64 z.a ∧ InR .i64 z.b)) (xs:=Arr6_Tracker.list v53.trackers) ⟨⟨r57,r58⟩,⟨r59,r60⟩,⟨r61,r62⟩,⟨r63,r64⟩,⟨r65,r66⟩,⟨r67,r68⟩,trivial⟩ e100).2⟩ _ x70 ⟨_,rfl,r79,r80,h82⟩ (v53.phase == 3) symbol_2 rsymbol_2 e102 hG ok) rfl rfl ?_
     rintro _ w ⟨m114,vs115,rfl,hle,ok,h116⟩
     have le_m0:=le_m0.trans hle
     have le_m54:=le_m54.trans hle
     have hl_1:=(mL qaf).up hle hl_1
     have h82:=(mL qc2).up hle h82
     have at77:=At.up hle at77
     obtain ⟨rfl,r117,r118⟩:=h116
     refine ⟨_,rfl,fun a E=>?_⟩
     refine wn<|qai (cl1 (cq le_m54 ok [0,1,2] rfl) (cq le_m54 ok [0,1] rfl)) fun hT=>?_
     replace e109:idx (Arr6_Tracker.list v53.trackers) v52 = some x108:=e109
     refine kt 12 E rfl hT (qeo qgC rfl rfl (qaQ e109).1 (qaQ e109).2) fun a E=>qar [13] (by kernel_rfl) rfl (qat ?_)
     ·refine qbB (o:=_) rfl ?_
      have h119:=Arr6_Tracker.set_list e111
      have h120:=AllP.setI (q:=(fun z:Tracker=>InR .i64 z.a ∧ InR .i64 z.b)) (xs:=Arr6_Tracker.list v53.trackers) ⟨⟨r57,r58⟩,⟨r59,r60⟩,⟨r61,r62⟩,⟨r63,r64⟩,⟨r65,r66⟩,⟨r67,r68⟩,trivial⟩ ⟨r117,r118⟩ h119
      refine qe2 (c:=[vi v53.phase,vi v53.trackers.e0.a,vi v53.trackers.e0.b,vi v53.trackers.e1.a,vi v53.trackers.e1.b,vi v53.trackers.e2.a,vi v53.trackers.e2.b,vi v53.trackers.e3.a,vi v53.trackers.e3.b,vi v53.trackers.e4.a,vi v53.trackers.e4.b,vi v53.trackers.e5.a,vi v53.trackers.e5.b]) (c':=[vi v53.phase,vi z110.e0.a,vi z110.e0.b,vi z110.e1.a,vi z110.e1.b,vi z110.e2.a,vi z110.e2.b,vi z110.e3.a,vi z110.e3.b,vi z110.e4.a,vi z110.e4.b,vi z110.e5.a,vi z110.e5.b]) E ok 2 rfl rfl rfl qdA rfl rfl ⟨rfl,rfl,trivial⟩ (qki (n:=6) (k:=2) (qaQ e109).2 (Nat.le_of_ble_eq_true rfl)) (qlB (f:=(fun x:Tracker=>[vi x.a,vi x.b])) (fun _=>rfl) (pre:=[vi v53.phase]) (post:=[]) (xs:=Arr6_Tracker.list v53.trackers) (ys:=z110.list) rfl h119) rfl fun w ok=>wn<|qai (cl2 (by kernel_rfl) (cq le_m54 ok [0,1] rfl)) fun hT=>qaR (by kernel_rfl) ?_
      exact ⟨rfl,⟨m114,le_m54,ok,E.keep [2,3,6,38,39,40],r56,h120.1.1,h120.1.2,h120.2.1.1,h120.2.1.2,h120.2.2.1.1,h120.2.2.1.2,h120.2.2.2.1.1,h120.2.2.2.1.2,h120.2.2.2.2.1.1,h120.2.2.2.2.1.2,h120.2.2.2.2.2.1.1,h120.2.2.2.2.2.1.2⟩⟩
 refine fk E ok qcx qaq rfl 1 rfl rfl fun a E=>lw E (qau rfl rfl) fun a E=>pf E rfl rfl fun a E=>wn<|bd hF fun o163 hJ hF=>qaL (Q':=fun e a w=>e = .normal ∧ Ok u m0 ([(b15,oc 89 [vi 0,vi 0,vi 0,vi 0,vi 0,vi 0,vi 0,vi 0,vi 0,vi 0,vi 0,vi 0,vi 0])] :: [(b14,oc 89 [vi o163.phase,vi o163.trackers.e0.a,vi o163.trackers.e0.b,vi o163.trackers.e1.a,vi o163.trackers.e1.b,vi o163.trackers.e2.a,vi o163.trackers.e2.b,vi o163.trackers.e3.a,vi o163.trackers.e3.b,vi o163.trackers.e4.a,vi o163.trackers.e4.b,vi o163.trackers.e5.a,vi o163.trackers.e5.b])] :: S) w ∧ Env 60 a [(1,vl_1),(2,vi symbol_2),(3,vp b14),(6,vp b15)] ∧ InR .i64 o163.phase ∧ InR .i64 o163.trackers.e0.a ∧ InR .i64 o163.trackers.e0.b ∧ InR .i64 o163.trackers.e1.a ∧ InR .i64 o163.trackers.e1.b ∧ InR .i64 o163.trackers.e2.a ∧ InR .i64 o163.trackers.e2.b ∧ InR .i64 o163.trackers.e3.a ∧ InR .i64 o163.trackers.e3.b ∧ InR .i64 o163.trackers.e4.a ∧ InR .i64 o163.trackers.e4.b ∧ InR .i64 o163.trackers.e5.a ∧ InR .i64 o163.trackers.e5.b) ?_ ?_
 ·have hF:=hJ
  refine cf E rfl hF (fun c177 hF=>?_) fun c177 hF=>?_
  ·refine qac<|fv E qcx rfl fun a E=>qad E ok 1 rfl rfl rfl qb4 rfl rfl ⟨rfl,trivial⟩ rfl rfl fun w ok=>wpList_nil ?_
   cases hF
   exact ⟨rfl,⟨ok,E.keep [1,2,3,6],(ir 1),r2,r3,r4,r5,r6,r7,r8,r9,r10,r11,r12,r13⟩⟩
  refine qac<|fv E qcx rfl fun a E=>qad E ok 1 rfl rfl rfl qb4 rfl rfl ⟨rfl,trivial⟩ rfl rfl fun w ok=>wpList_nil ?_
  cases hF
  exact ⟨rfl,⟨ok,E.keep [1,2,3,6],(ir 3),r2,r3,r4,r5,r6,r7,r8,r9,r10,r11,r12,r13⟩⟩
 intro e a w hO
 obtain ⟨rfl,ok,E,r178,r179,r180,r181,r182,r183,r184,r185,r186,r187,r188,r189,r190⟩:=hO
 refine qaa<|wp_seq<|sg<|mv E rfl fun a E=>lv E ok (qaD qbk hl_1 rfl) fun a E=>mv E rfl fun a E=>wn<|wp_block<|bd hF fun o206 hL hF=>qaF _ (fun (s:Int × Reading) a w=>∃ m207,m0.le m207 ∧ Ok u m207 ([(b15,oc 89 [vi 0,vi 0,vi 0,vi 0,vi 0,vi 0,vi 0,vi 0,vi 0,vi 0,vi 0,vi 0,vi 0])] :: [(b14,oc 89 [vi s.2.phase,vi s.2.trackers.e0.a,vi s.2.trackers.e0.b,vi s.2.trackers.e1.a,vi s.2.trackers.e1.b,vi s.2.trackers.e2.a,vi s.2.trackers.e2.b,vi s.2.trackers.e3.a,vi s.2.trackers.e3.b,vi s.2.trackers.e4.a,vi s.2.trackers.e4.b,vi s.2.trackers.e5.a,vi s.2.trackers.e5.b])] :: S) w ∧ Env 60 a [(2,vi symbol_2),(3,vp b14),(6,vp b15),(38,vl_1),(39,(vi (l_1.length:Int))),(40,vi s.1)] ∧ InR .i64 s.1 ∧ InR .i64 s.2.phase ∧ InR .i64 s.2.trackers.e0.a ∧ InR .i64 s.2.trackers.e0.b ∧ InR .i64 s.2.trackers.e1.a ∧ InR .i64 s.2.trackers.e1.b ∧ InR .i64 s.2.trackers.e2.a ∧ InR .i64 s.2.trackers.e2.b ∧ InR .i64 s.2.trackers.e3.a ∧ InR .i64 s.2.trackers.e3.b ∧ InR .i64 s.2.trackers.e4.a ∧ InR .i64 s.2.trackers.e4.b ∧ InR .i64 s.2.trackers.e5.a ∧ InR .i64 s.2.trackers.e5.b) (fun (b:Reading) e a w=>e = (.exit 1) ∧ ∃ m319,m0.le m319 ∧ Ok u m319 ([(b15,oc 89 [vi 0,vi 0,vi 0,vi 0,vi 0,vi 0,vi 0,vi 0,vi 0,vi 0,vi 0,vi 0,vi 0])] :: [(b14,oc 89 [vi b.phase,vi b.trackers.e0.a,vi b.trackers.e0.b,vi b.trackers.e1.a,vi b.trackers.e1.b,vi b.trackers.e2.a,vi b.trackers.e2.b,vi b.trackers.e3.a,vi b.trackers.e3.b,vi b.trackers.e4.a,vi b.trackers.e4.b,vi b.trackers.e5.a,vi b.trackers.e5.b])] :: S) w ∧ Env 60 a [(3,vp b14),(6,vp b15)] ∧ InR .i64 b.phase ∧ InR .i64 b.trackers.e0.a ∧ InR .i64 b.trackers.e0.b ∧ InR .i64 b.trackers.e1.a ∧ InR .i64 b.trackers.e1.b ∧ InR .i64 b.trackers.e2.a ∧ InR .i64 b.trackers.e2.b ∧ InR .i64 b.trackers.e3.a ∧ InR .i64 b.trackers.e3.b ∧ InR .i64 b.trackers.e4.a ∧ InR .i64 b.trackers.e4.b ∧ InR .i64 b.trackers.e5.a ∧ InR .i64 b.trackers.e5.b) ?_ ?_ N _ a w hL ⟨m0,Mem.le.refl _,ok,E.keep [2,3,6,38,39,40],(ir 0),r178,r179,r180,r181,r182,r183,r184,r185,r186,r187,r188,r189,r190⟩
 rotate_left
 ·intro e a w _ hO
  obtain ⟨rfl,m305,hle,ok,E,r306,r307,r308,r309,r310,r311,r312,r313,r314,r315,r316,r317,r318⟩:=hO
  have le_m0:=le_m0.trans hle
  have hl_1:=(mL qaf).up hle hl_1
  refine qaN<|qaa<|sg<|lv E ok (qag (cs:=[vi o206.phase,vi o206.trackers.e0.a,vi o206.trackers.e0.b,vi o206.trackers.e1.a,vi o206.trackers.e1.b,vi o206.trackers.e2.a,vi o206.trackers.e2.b,vi o206.trackers.e3.a,vi o206.trackers.e3.b,vi o206.trackers.e4.a,vi o206.trackers.e4.b,vi o206.trackers.e5.a,vi o206.trackers.e5.b]) qcB rfl rfl (qab.own 1 rfl rfl)) fun a E=>qad E ok 0 rfl rfl rfl qfU rfl rfl ⟨rfl,rfl,rfl,rfl,rfl,rfl,rfl,rfl,rfl,rfl,rfl,rfl,rfl,trivial⟩ rfl rfl fun w ok=>wn<|wp_ret ?_
  exact fin hF ⟨m305,[vi o206.phase,vi o206.trackers.e0.a,vi o206.trackers.e0.b,vi o206.trackers.e1.a,vi o206.trackers.e1.b,vi o206.trackers.e2.a,vi o206.trackers.e2.b,vi o206.trackers.e3.a,vi o206.trackers.e3.b,vi o206.trackers.e4.a,vi o206.trackers.e4.b,vi o206.trackers.e5.a,vi o206.trackers.e5.b],le_m0,ok.drop.drop,E.d,⟨rv_c (cs:=[vi o206.phase,vi o206.trackers.e0.a,vi o206.trackers.e0.b,vi o206.trackers.e1.a,vi o206.trackers.e1.b,vi o206.trackers.e2.a,vi o206.trackers.e2.b,vi o206.trackers.e3.a,vi o206.trackers.e3.b,vi o206.trackers.e4.a,vi o206.trackers.e4.b,vi o206.trackers.e5.a,vi o206.trackers.e5.b]) E ok rfl qcB rfl (qab.own 0 rfl rfl),trivial⟩,⟨rfl,r306,r307,r308,r309,r310,r311,r312,r313,r314,r315,r316,r317,r318⟩⟩
 rintro ⟨v222,v223⟩ a w r ⟨m224,hle,ok,E,r225,r226,r227,r228,r229,r230,r231,r232,r233,r234,r235,r236,r237,r238⟩ hF
 replace hF:qdP N l_1 symbol_2 v222 v223 = some r:=hF
 unfold qdP at hF
 have le_m0:=le_m0.trans hle
 have hl_1:=(mL qaf).up hle hl_1
 refine sg<|lw E (qay rfl rfl) fun a E=>wn<|wp_seq<|cg E rfl hF (fun c239 hF=>?_) fun c239 hF=>?_
 ·refine wp_exit<|qaA ?_
  cases hF
  exact so (⟨rfl,⟨m224,le_m0,ok,E.keep [3,6],r226,r227,r228,r229,r230,r231,r232,r233,r234,r235,r236,r237,r238⟩⟩)
 refine wp_skip<|qaa<|wp_seq<|wp_block<|sg<|mv E rfl fun a E=>?_
 obtain ⟨x240,e241,hF⟩:=bnd hF
 obtain ⟨b242,o243,es244,hl245,rr246,at247,yy248⟩:=ia E 38 40 qbk hl_1 e241
 obtain ⟨c251,rfl,r249,r250,h252⟩:=rr246
 refine lv E ok (yy248 _ _) fun a E=>lv E ok (qag (cs:=[vi x240.Operand,vi x240.Mod,vb x240.Not,c251]) qbr rfl rfl (qab.ro at247)) fun a E=>qaB E ok qcW rfl rfl fun b253 a w E ok=>av E rfl fun a E=>qad E ok 0 rfl rfl rfl qf3 rfl rfl ⟨rfl,rfl,rfl,(qcO h252),trivial⟩ rfl rfl fun w ok=>wn<|bd hF fun o254 hJ hF=>qaL (Q':=fun e a w=>e = .normal ∧ ∃ m255,m224.le m255 ∧ Ok u m255 ([(b253,oc 69 [vi x240.Operand,vi x240.Mod,vb x240.Not,c251])] :: [(b15,oc 89 [vi 0,vi 0,vi 0,vi 0,vi 0,vi 0,vi 0,vi 0,vi 0,vi 0,vi 0,vi 0,vi 0])] :: [(b14,oc 89 [vi o254.phase,vi o254.trackers.e0.a,vi o254.trackers.e0.b,vi o254.trackers.e1.a,vi o254.trackers.e1.b,vi o254.trackers.e2.a,vi o254.trackers.e2.b,vi o254.trackers.e3.a,vi o254.trackers.e3.b,vi o254.trackers.e4.a,vi o254.trackers.e4.b,vi o254.trackers.e5.a,vi o254.trackers.e5.b])] :: S) w ∧ Env 60 a [(2,vi symbol_2),(3,vp b14),(6,vp b15),(38,vl_1),(39,(vi (l_1.length:Int))),(40,vi v222)] ∧ InR .i64 o254.phase ∧ InR .i64 o254.trackers.e0.a ∧ InR .i64 o254.trackers.e0.b ∧ InR .i64 o254.trackers.e1.a ∧ InR .i64 o254.trackers.e1.b ∧ InR .i64 o254.trackers.e2.a ∧ InR .i64 o254.trackers.e2.b ∧ InR .i64 o254.trackers.e3.a ∧ InR .i64 o254.trackers.e3.b ∧ InR .i64 o254.trackers.e4.a ∧ InR .i64 o254.trackers.e4.b ∧ InR .i64 o254.trackers.e5.a ∧ InR .i64 o254.trackers.e5.b) ?_ ?_
 rotate_left
 ·intro e a w hO
  obtain ⟨rfl,m291,hle,ok,E,r292,r293,r294,r295,r296,r297,r298,r299,r300,r301,r302,r303,r304⟩:=hO
  have le_m0:=le_m0.trans hle
  have hl_1:=(mL qaf).up hle hl_1
  have h252:=(mL qc2).up hle h252
  have at247:=At.up hle at247
  refine qap<|qaa<|qac<|lw E (qaE rfl rfl (InR.inc r225 (qao hl_1) c239)) fun a E=>mv E rfl fun a E=>wpList_nil ?_
  cases hF
  exact qas ⟨m291,le_m0,(ok.pk 3 [1,2] rfl (by decide)),E.keep [2,3,6,38,39,40],(InR.inc r225 (qao hl_1) c239),r292,r293,r294,r295,r296,r297,r298,r299,r300,r301,r302,r303,r304⟩
 have hF:=hJ
 have le_m224:=Mem.le.refl m224
 obtain ⟨x269,e270,hF⟩:=bnd hF
 obtain ⟨r271,e272,hF⟩:=bnd hF
 obtain ⟨x278,e279,hF⟩:=bnd hF
 obtain ⟨z280,e281,hF⟩:=bnd hF
 obtain rfl:=sj hF
 refine qaS [4,5,7] (Cls u m224 ([(b253,oc 69 [vi x240.Operand,vi x240.Mod,vb x240.Not,c251])] :: [(b15,oc 89 [vi 0,vi 0,vi 0,vi 0,vi 0,vi 0,vi 0,vi 0,vi 0,vi 0,vi 0,vi 0,vi 0])] :: [(b14,oc 89 [vi v223.phase,vi v223.trackers.e0.a,vi v223.trackers.e0.b,vi v223.trackers.e1.a,vi v223.trackers.e1.b,vi v223.trackers.e2.a,vi v223.trackers.e2.b,vi v223.trackers.e3.a,vi v223.trackers.e3.b,vi v223.trackers.e4.a,vi v223.trackers.e4.b,vi v223.trackers.e5.a,vi v223.trackers.e5.b])] :: [])) (Cls u m224 ([(b253,oc 69 [vi x240.Operand,vi x240.Mod,vb x240.Not,c251])] :: [(b15,oc 89 [vi 0,vi 0,vi 0,vi 0,vi 0,vi 0,vi 0,vi 0,vi 0,vi 0,vi 0,vi 0,vi 0])] :: [])) (by kernel_rfl) ?_
 intro w hw
 replace ok:=qa6 ok hw
 clear hw
 have h252_o:=h252
 refine qai (cl1 (cq le_m224 ok [0,1,2] rfl) (cq le_m224 ok [0,1] rfl)) fun hT=>kt 0 E rfl hT (qah rfl) fun a E=>kt 1 E rfl hT (qah rfl) fun a E=>kt 2 E rfl hT (qae qgc rfl) fun a E=>?_
 replace e270:idx (Arr6_Tracker.list v223.trackers) v222 = some x269:=e270
 refine kt 3 E rfl hT (qeo qgC rfl rfl (qaQ e270).1 (qaQ e270).2) fun a E=>qaZ 5 E rfl (by kernel_rfl) nP hT (qag (cs:=[vi x240.Operand,vi x240.Mod,vb x240.Not,c251]) qbr rfl rfl (qab.cown 0 rfl rfl)) rfl rfl fun a E=>kt 6 E rfl hT (qae qcx rfl) fun a E=>qaZ 7 E rfl (by kernel_rfl) nP hT (qaj qaq rfl (qab.cown 2 rfl rfl)) rfl rfl fun a E=>kt 8 E rfl hT (qau rfl rfl) fun a E=>kt 9 E rfl hT (qah rfl) fun a E=>kt 11 E rfl hT (qae qgc rfl) fun a E=>qar [4] (by kernel_rfl) rfl (qat ?_)
 ·refine wo rfl<|lv E ok (qag (cs:=[vi x269.a,vi x269.b]) qbC rfl rfl (qab.idxK (k:=2) (xs:=Arr6_Tracker.list v223.trackers) (f:=(fun x:Tracker=>[vi x.a,vi x.b])) (fun _=>rfl) (qab.own 2 rfl rfl) e270)) fun a E=>wn<|qai (cl1 (cq le_m224 ok [0,1,2] rfl) (cq le_m224 ok [0,1] rfl)) fun hT=>qar [10] (by kernel_rfl) rfl (qat ?_)
  ·refine wo rfl<|qan E qlN rfl (qdc N _ x269 ⟨rfl,(AllP.idx (q:=(fun z:Tracker=>InR .i64 z.a ∧ InR .i64 z.b)) (xs:=Arr6_Tracker.list v223.trackers) ⟨⟨r227,r228⟩,⟨r229,r230⟩,⟨r231,r232⟩,⟨r233,r234⟩,⟨r235,r236⟩,⟨r237,r238⟩,trivial⟩ e270).1,(AllP.idx (q:=(fun z:Tracker=>InR .i64 z.a ∧ InR .i64 z.b)) (xs:=Arr6_Tracker.list v223.trackers) ⟨⟨r227,r228⟩,⟨r229,r230⟩,⟨r231,r232⟩,⟨r233,r234⟩,⟨r235,r236⟩,⟨r237,r238⟩,trivial⟩ e270).2⟩ _ x240 ⟨_,rfl,r249,r250,h252⟩ (v223.phase == 3) symbol_2 rsymbol_2 e272 hG ok) rfl rfl ?_
   rintro _ w ⟨m284,vs285,rfl,hle,ok,h286⟩
   have le_m0:=le_m0.trans hle
   have le_m224:=le_m224.trans hle
   have hl_1:=(mL qaf).up hle hl_1
   have h252:=(mL qc2).up hle h252
   have at247:=At.up hle at247
   obtain ⟨rfl,r287,r288⟩:=h286
   refine ⟨_,rfl,fun a E=>?_⟩
   refine wn<|qai (cl1 (cq le_m224 ok [0,1,2] rfl) (cq le_m224 ok [0,1] rfl)) fun hT=>?_
   replace e279:idx (Arr6_Tracker.list v223.trackers) v222 = some x278:=e279
   refine kt 12 E rfl hT (qeo qgC rfl rfl (qaQ e279).1 (qaQ e279).2) fun a E=>qar [13] (by kernel_rfl) rfl (qat ?_)
   ·refine qbB (o:=_) rfl ?_
    have h289:=Arr6_Tracker.set_list e281
    have h290:=AllP.setI (q:=(fun z:Tracker=>InR .i64 z.a ∧ InR .i64 z.b)) (xs:=Arr6_Tracker.list v223.trackers) ⟨⟨r227,r228⟩,⟨r229,r230⟩,⟨r231,r232⟩,⟨r233,r234⟩,⟨r235,r236⟩,⟨r237,r238⟩,trivial⟩ ⟨r287,r288⟩ h289
    refine qe2 (c:=[vi v223.phase,vi v223.trackers.e0.a,vi v223.trackers.e0.b,vi v223.trackers.e1.a,vi v223.trackers.e1.b,vi v223.trackers.e2.a,vi v223.trackers.e2.b,vi v223.trackers.e3.a,vi v223.trackers.e3.b,vi v223.trackers.e4.a,vi v223.trackers.e4.b,vi v223.trackers.e5.a,vi v223.trackers.e5.b]) (c':=[vi v223.phase,vi z280.e0.a,vi z280.e0.b,vi z280.e1.a,vi z280.e1.b,vi z280.e2.a,vi z280.e2.b,vi z280.e3.a,vi z280.e3.b,vi z280.e4.a,vi z280.e4.b,vi z280.e5.a,vi z280.e5.b]) E ok 2 rfl rfl rfl qdA rfl rfl ⟨rfl,rfl,trivial⟩ (qki (n:=6) (k:=2) (qaQ e279).2 (Nat.le_of_ble_eq_true rfl)) (qlB (f:=(fun x:Tracker=>[vi x.a,vi x.b])) (fun _=>rfl) (pre:=[vi v223.phase]) (post:=[]) (xs:=Arr6_Tracker.list v223.trackers) (ys:=z280.list) rfl h289) rfl fun w ok=>wn<|qai (cl2 (by kernel_rfl) (cq le_m224 ok [0,1] rfl)) fun hT=>qaR (by kernel_rfl) ?_
    exact ⟨rfl,⟨m284,le_m224,ok,E.keep [2,3,6,38,39,40],r226,h290.1.1,h290.1.2,h290.2.1.1,h290.2.1.2,h290.2.2.1.1,h290.2.2.1.2,h290.2.2.2.1.1,h290.2.2.2.1.2,h290.2.2.2.2.1.1,h290.2.2.2.2.1.2,h290.2.2.2.2.2.1.1,h290.2.2.2.2.2.1.2⟩⟩
def qiY (u:World) (m0:Mem) (S:Segs) (pb0:Nat) (x0:List (Relation)) (c14:Value) (r:Reading) (a:Act) (w:World):Prop :=
 ∃ m1 v0,m0.le m1 ∧ Ok u m1 ([(pb0,oc 66 [c14])] :: S) w ∧ a.defers = [] ∧ RVs Tryz.prog a w [.c 5 89 (.agg v0.toArray)] ∧ qca m1 v0 r
theorem qjc (N:Nat) (vs_0:List Value) (s_0:Reading) (hs_0:qca m0 vs_0 s_0) (symbol_1:Int) (rsymbol_1:InR .i64 symbol_1) {pb0:Nat} {c14:Value} (x0:List (Relation)) (h15:(pL 4 qak) m0 [c14] x0) {r:Reading} (hF:qbW N s_0 symbol_1 x0 = some r) (hG:Glob u) (ok:Ok u m0 ([(pb0,oc 66 [c14])] :: S) w) :
  Calls Tryz.prog 49 [.agg vs_0.toArray,vi symbol_1,vp pb0].toArray w fun e w'=>∃ m1 v0,e = .returned (.agg v0.toArray) ∧ m0.le m1 ∧ Ok u m1 ([(pb0,oc 66 [c14])] :: S) w' ∧ qca m1 v0 r:=by
 obtain ⟨rfl,r1,r2,r3,r4,r5,r6,r7,r8,r9,r10,r11,r12,r13⟩:=hs_0
 have le_m0:=Mem.le.refl m0
 unfold qbW at hF
 refine en (qiY u m0 S pb0 x0 c14) r Tryz.func49 rfl rfl rfl (by rintro a w ⟨m1,v0,hle,ok,hd,hrv,h0⟩; exact qbS [.c 5 89 (.agg v0.toArray)] hd rfl hrv ⟨m1,v0,rfl,hle,ok,h0⟩) fun fin a E=>sg<|qb8 E ok rfl rfl rfl fun b16 a w E ok=>qaB E ok qfl rfl rfl fun b17 a w E ok=>wn<|sg<|lv E ok (qag (cs:=[vi s_0.phase,vi s_0.trackers.e0.a,vi s_0.trackers.e0.b,vi s_0.trackers.e1.a,vi s_0.trackers.e1.b,vi s_0.trackers.e2.a,vi s_0.trackers.e2.b,vi s_0.trackers.e3.a,vi s_0.trackers.e3.b,vi s_0.trackers.e4.a,vi s_0.trackers.e4.b,vi s_0.trackers.e5.a,vi s_0.trackers.e5.b]) qcB rfl rfl (qab.own 1 rfl rfl)) fun a E=>ld E ok qcN 2 rfl rfl rfl fun a E=>mv E rfl fun a E=>bd hF fun r18 e19 hF=>qan E qrT rfl (qiD N _ s_0 ⟨rfl,r1,r2,r3,r4,r5,r6,r7,r8,r9,r10,r11,r12,r13⟩ _ x0 h15 symbol_1 rsymbol_1 e19 hG ok) rfl rfl ?_
 rintro _ w ⟨m20,vs21,rfl,hle,ok,h22⟩
 have le_m0:=le_m0.trans hle
 have h15:=(mL qaf).up hle h15
 obtain ⟨rfl,r23,r24,r25,r26,r27,r28,r29,r30,r31,r32,r33,r34,r35⟩:=h22
 refine ⟨_,rfl,fun a E=>?_⟩
 refine qad E ok 0 rfl rfl rfl qfU rfl rfl ⟨rfl,rfl,rfl,rfl,rfl,rfl,rfl,rfl,rfl,rfl,rfl,rfl,rfl,trivial⟩ rfl rfl fun w ok=>wn<|wp_ret ?_
 exact fin hF ⟨m20,[vi r18.phase,vi r18.trackers.e0.a,vi r18.trackers.e0.b,vi r18.trackers.e1.a,vi r18.trackers.e1.b,vi r18.trackers.e2.a,vi r18.trackers.e2.b,vi r18.trackers.e3.a,vi r18.trackers.e3.b,vi r18.trackers.e4.a,vi r18.trackers.e4.b,vi r18.trackers.e5.a,vi r18.trackers.e5.b],le_m0,ok.drop.drop,E.d,⟨rv_c (cs:=[vi r18.phase,vi r18.trackers.e0.a,vi r18.trackers.e0.b,vi r18.trackers.e1.a,vi r18.trackers.e1.b,vi r18.trackers.e2.a,vi r18.trackers.e2.b,vi r18.trackers.e3.a,vi r18.trackers.e3.b,vi r18.trackers.e4.a,vi r18.trackers.e4.b,vi r18.trackers.e5.a,vi r18.trackers.e5.b]) E ok rfl qcB rfl (qab.own 0 rfl rfl),trivial⟩,⟨rfl,r23,r24,r25,r26,r27,r28,r29,r30,r31,r32,r33,r34,r35⟩⟩
def qih (u:World) (m0:Mem) (S:Segs) (pb0:Nat) (pb1:Nat) (x0:Reading) (x1:List (Relation)) (c14:Value) (r:Bool) (a:Act) (w:World):Prop :=
 Ok u m0 ([(pb0,oc 89 [vi x0.phase,vi x0.trackers.e0.a,vi x0.trackers.e0.b,vi x0.trackers.e1.a,vi x0.trackers.e1.b,vi x0.trackers.e2.a,vi x0.trackers.e2.b,vi x0.trackers.e3.a,vi x0.trackers.e3.b,vi x0.trackers.e4.a,vi x0.trackers.e4.b,vi x0.trackers.e5.a,vi x0.trackers.e5.b])] :: [(pb1,oc 66 [c14])] :: S) w ∧ a.defers = [] ∧ RVs Tryz.prog a w [.t 4 (.bool r)]
theorem qin (N:Nat) (i_0:Int) (ri_0:InR .i64 i_0) {pb0:Nat} (x0:Reading) (r1:InR .i64 x0.phase) (r2:InR .i64 x0.trackers.e0.a) (r3:InR .i64 x0.trackers.e0.b) (r4:InR .i64 x0.trackers.e1.a) (r5:InR .i64 x0.trackers.e1.b) (r6:InR .i64 x0.trackers.e2.a) (r7:InR .i64 x0.trackers.e2.b) (r8:InR .i64 x0.trackers.e3.a) (r9:InR .i64 x0.trackers.e3.b) (r10:InR .i64 x0.trackers.e4.a) (r11:InR .i64 x0.trackers.e4.b) (r12:InR .i64 x0.trackers.e5.a) (r13:InR .i64 x0.trackers.e5.b) {pb1:Nat} {c14:Value} (x1:List (Relation)) (h15:(pL 4 qak) m0 [c14] x1) {r:Bool} (hF:qdn N i_0 x0 x1 = some r) (hG:Glob u) (ok:Ok u m0 ([(pb0,oc 89 [vi x0.phase,vi x0.trackers.e0.a,vi x0.trackers.e0.b,vi x0.trackers.e1.a,vi x0.trackers.e1.b,vi x0.trackers.e2.a,vi x0.trackers.e2.b,vi x0.trackers.e3.a,vi x0.trackers.e3.b,vi x0.trackers.e4.a,vi x0.trackers.e4.b,vi x0.trackers.e5.a,vi x0.trackers.e5.b])] :: [(pb1,oc 66 [c14])] :: S) w) :
  Calls Tryz.prog 53 [vi i_0,vp pb0,vp pb1].toArray w fun e w'=>(e = .returned (.bool r) ∧ Ok u m0 ([(pb0,oc 89 [vi x0.phase,vi x0.trackers.e0.a,vi x0.trackers.e0.b,vi x0.trackers.e1.a,vi x0.trackers.e1.b,vi x0.trackers.e2.a,vi x0.trackers.e2.b,vi x0.trackers.e3.a,vi x0.trackers.e3.b,vi x0.trackers.e4.a,vi x0.trackers.e4.b,vi x0.trackers.e5.a,vi x0.trackers.e5.b])] :: [(pb1,oc 66 [c14])] :: S) w'):=by
 unfold qdn at hF
 refine en (qih u m0 S pb0 pb1 x0 x1 c14) r Tryz.func53 rfl rfl rfl (fun _ _ h=>ra h rfl) fun fin a E=>sg<|aw E rfl fun a E=>wp_seq<|qeU (by kernel_rfl) (by kernel_rfl) ok<|qv E (qah rfl) fun a E=>qv E (qae qgc rfl) fun a E=>?_
 obtain ⟨x16,e17,hF⟩:=bnd hF
 replace e17:idx (Arr6_Tracker.list x0.trackers) i_0 = some x16:=e17
 refine qv E (qeo qgC rfl rfl (qaQ e17).1 (qaQ e17).2) fun a E=>qv E (qag (cs:=[vi x16.a,vi x16.b]) qbC rfl rfl (qab.idxK (k:=2) (xs:=Arr6_Tracker.list x0.trackers) (f:=(fun x:Tracker=>[vi x.a,vi x.b])) (fun _=>rfl) (qab.own 0 rfl rfl) e17)) fun a E=>qv E (qaj qcN rfl (qab.own 1 rfl rfl)) fun a E=>qv E (qah rfl) fun a E=>?_
 obtain ⟨x18,e19,hF⟩:=bnd hF
 obtain ⟨b20,o21,es22,hl23,rr24,at25,yy26⟩:=ia E 9 10 qbk h15 e19
 obtain ⟨c29,rfl,r27,r28,h30⟩:=rr24
 refine qv E (yy26 _ _) fun a E=>qv E (qag (cs:=[vi x18.Operand,vi x18.Mod,vb x18.Not,c29]) qbr rfl rfl (qab.ro at25)) fun a E=>bd hF fun r31 e32 hF=>qfT E qpL rfl (fun w ok=>(qgm N _ x16 ⟨rfl,(AllP.idx (q:=(fun z:Tracker=>InR .i64 z.a ∧ InR .i64 z.b)) (xs:=Arr6_Tracker.list x0.trackers) ⟨⟨r2,r3⟩,⟨r4,r5⟩,⟨r6,r7⟩,⟨r8,r9⟩,⟨r10,r11⟩,⟨r12,r13⟩,trivial⟩ e17).1,(AllP.idx (q:=(fun z:Tracker=>InR .i64 z.a ∧ InR .i64 z.b)) (xs:=Arr6_Tracker.list x0.trackers) ⟨⟨r2,r3⟩,⟨r4,r5⟩,⟨r6,r7⟩,⟨r8,r9⟩,⟨r10,r11⟩,⟨r12,r13⟩,trivial⟩ e17).2⟩ _ x18 ⟨_,rfl,r27,r28,h30⟩ e32 hG ok).mono (fun _ _ h=>h)) rfl rfl fun a E=>qv E (qbA rfl) fun a E=>wpQuiet_nil ?_
 intro w ok
 refine qaa<|wp_ret ?_
 exact fin hF ⟨ok,E.d,rz E rfl⟩
def qjQ (u:World) (m0:Mem) (S:Segs) (pb0:Nat) (pb1:Nat) (x0:Reading) (x1:List (Relation)) (c14:Value) (r:Bool) (a:Act) (w:World):Prop :=
 Ok u m0 ([(pb0,oc 89 [vi x0.phase,vi x0.trackers.e0.a,vi x0.trackers.e0.b,vi x0.trackers.e1.a,vi x0.trackers.e1.b,vi x0.trackers.e2.a,vi x0.trackers.e2.b,vi x0.trackers.e3.a,vi x0.trackers.e3.b,vi x0.trackers.e4.a,vi x0.trackers.e4.b,vi x0.trackers.e5.a,vi x0.trackers.e5.b])] :: [(pb1,oc 66 [c14])] :: S) w ∧ a.defers = [] ∧ RVs Tryz.prog a w [.t 4 (.bool r)]
theorem qg9 (N:Nat) (vc_0:Value) (c_0:List (List (Relation))) (hc_0:(pL 1 (pL 4 qak)) m0 [vc_0] c_0) {pb0:Nat} (x0:Reading) (r1:InR .i64 x0.phase) (r2:InR .i64 x0.trackers.e0.a) (r3:InR .i64 x0.trackers.e0.b) (r4:InR .i64 x0.trackers.e1.a) (r5:InR .i64 x0.trackers.e1.b) (r6:InR .i64 x0.trackers.e2.a) (r7:InR .i64 x0.trackers.e2.b) (r8:InR .i64 x0.trackers.e3.a) (r9:InR .i64 x0.trackers.e3.b) (r10:InR .i64 x0.trackers.e4.a) (r11:InR .i64 x0.trackers.e4.b) (r12:InR .i64 x0.trackers.e5.a) (r13:InR .i64 x0.trackers.e5.b) {pb1:Nat} {c14:Value} (x1:List (Relation)) (h15:(pL 4 qak) m0 [c14] x1) {r:Bool} (hF:qdH N c_0 x0 x1 = some r) (hG:Glob u) (ok:Ok u m0 ([(pb0,oc 89 [vi x0.phase,vi x0.trackers.e0.a,vi x0.trackers.e0.b,vi x0.trackers.e1.a,vi x0.trackers.e1.b,vi x0.trackers.e2.a,vi x0.trackers.e2.b,vi x0.trackers.e3.a,vi x0.trackers.e3.b,vi x0.trackers.e4.a,vi x0.trackers.e4.b,vi x0.trackers.e5.a,vi x0.trackers.e5.b])] :: [(pb1,oc 66 [c14])] :: S) w) :
  Calls Tryz.prog 52 [vc_0,Value.func (.func 53) #[] #[.pointer (some ⟨pb0,0,none⟩),.pointer (some ⟨pb1,0,none⟩)]].toArray w fun e w'=>(e = .returned (.bool r) ∧ Ok u m0 ([(pb0,oc 89 [vi x0.phase,vi x0.trackers.e0.a,vi x0.trackers.e0.b,vi x0.trackers.e1.a,vi x0.trackers.e1.b,vi x0.trackers.e2.a,vi x0.trackers.e2.b,vi x0.trackers.e3.a,vi x0.trackers.e3.b,vi x0.trackers.e4.a,vi x0.trackers.e4.b,vi x0.trackers.e5.a,vi x0.trackers.e5.b])] :: [(pb1,oc 66 [c14])] :: S) w'):=by
 unfold qdH at hF
 refine en (qjQ u m0 S pb0 pb1 x0 x1 c14) r Tryz.func52 rfl rfl rfl (fun _ _ h=>ra h rfl) fun fin a E=>sg<|aw E rfl fun a E=>sg<|aw E rfl fun a E=>sg<|aw E rfl fun a E=>wp_seq<|sg<|mv E rfl fun a E=>lv E ok (qaD qcv hc_0 rfl) fun a E=>mv E rfl fun a E=>wn<|wp_block<|bd hF fun o18 hL hF=>qaF _ (fun (s:Int × Bool × Int) a w=>Ok u m0 ([(pb0,oc 89 [vi x0.phase,vi x0.trackers.e0.a,vi x0.trackers.e0.b,vi x0.trackers.e1.a,vi x0.trackers.e1.b,vi x0.trackers.e2.a,vi x0.trackers.e2.b,vi x0.trackers.e3.a,vi x0.trackers.e3.b,vi x0.trackers.e4.a,vi x0.trackers.e4.b,vi x0.trackers.e5.a,vi x0.trackers.e5.b])] :: [(pb1,oc 66 [c14])] :: S) w ∧ Env 35 a [(1,(Value.func (.func 53) #[] #[.pointer (some ⟨pb0,0,none⟩),.pointer (some ⟨pb1,0,none⟩)])),(5,vi s.1),(6,vb s.2.1),(10,vc_0),(11,(vi (c_0.length:Int))),(12,vi s.2.2)] ∧ InR .i64 s.1 ∧ InR .i64 s.2.2) (fun (b:Bool) e a w=>e = (.exit 0) ∧ Ok u m0 ([(pb0,oc 89 [vi x0.phase,vi x0.trackers.e0.a,vi x0.trackers.e0.b,vi x0.trackers.e1.a,vi x0.trackers.e1.b,vi x0.trackers.e2.a,vi x0.trackers.e2.b,vi x0.trackers.e3.a,vi x0.trackers.e3.b,vi x0.trackers.e4.a,vi x0.trackers.e4.b,vi x0.trackers.e5.a,vi x0.trackers.e5.b])] :: [(pb1,oc 66 [c14])] :: S) w ∧ Env 35 a [(6,vb b)]) ?_ ?_ N _ a w hL ⟨ok,E.keep [1,5,6,10,11,12],(ir 0),(ir 0)⟩
 rotate_left
 ·intro e a w _ hO
  obtain ⟨rfl,ok,E⟩:=hO
  refine qaN<|qaa<|sg<|mv E rfl fun a E=>aw E rfl fun a E=>wp_ret ?_
  exact fin hF ⟨ok,E.d,rz E rfl⟩
 rintro ⟨v21,v22,v23⟩ a w r ⟨ok,E,r24,r25⟩ hF
 replace hF:qcs N c_0 x0 x1 v21 v22 v23 = some r:=hF
 unfold qcs at hF
 refine sg<|lw E (qay rfl rfl) fun a E=>wn<|wp_seq<|cg E rfl hF (fun c26 hF=>?_) fun c26 hF=>?_
 ·refine wp_exit<|qaA ?_
  cases hF
  exact so (⟨rfl,⟨ok,E.keep [6]⟩⟩)
 refine wp_skip<|qaa<|wp_seq<|wp_block<|sg ?_
 obtain ⟨x27,e28,hF⟩:=bnd hF
 obtain ⟨b29,o30,es31,hl32,rr33,at34,yy35⟩:=ia E 10 12 qcv hc_0 e28
 obtain ⟨c36,rfl,h37⟩:=qcz rr33
 refine lv E ok (yy35 _ _) fun a E=>lv E ok (qaj qcN rfl (qab.ro at34)) fun a E=>aw E rfl fun a E=>sg<|av E rfl fun a E=>wn<|wp_seq<|sg<|mv E rfl fun a E=>lv E ok (qaD qbk h37 rfl) fun a E=>mv E rfl fun a E=>wn<|wp_block<|bd hF fun o40 hL hF=>qaF _ (fun (s:Int × Bool × Int) a w=>Ok u m0 ([(pb0,oc 89 [vi x0.phase,vi x0.trackers.e0.a,vi x0.trackers.e0.b,vi x0.trackers.e1.a,vi x0.trackers.e1.b,vi x0.trackers.e2.a,vi x0.trackers.e2.b,vi x0.trackers.e3.a,vi x0.trackers.e3.b,vi x0.trackers.e4.a,vi x0.trackers.e4.b,vi x0.trackers.e5.a,vi x0.trackers.e5.b])] :: [(pb1,oc 66 [c14])] :: S) w ∧ Env 35 a [(1,(Value.func (.func 53) #[] #[.pointer (some ⟨pb0,0,none⟩),.pointer (some ⟨pb1,0,none⟩)])),(5,vi s.1),(6,vb v22),(9,vb s.2.1),(10,vc_0),(11,(vi (c_0.length:Int))),(12,vi v23),(17,(vi (x27.length:Int))),(18,vi s.2.2)] ∧ InR .i64 s.1 ∧ InR .i64 s.2.2) (fun (b:(Int × Bool)) e a w=>e = (.exit 2) ∧ Ok u m0 ([(pb0,oc 89 [vi x0.phase,vi x0.trackers.e0.a,vi x0.trackers.e0.b,vi x0.trackers.e1.a,vi x0.trackers.e1.b,vi x0.trackers.e2.a,vi x0.trackers.e2.b,vi x0.trackers.e3.a,vi x0.trackers.e3.b,vi x0.trackers.e4.a,vi x0.trackers.e4.b,vi x0.trackers.e5.a,vi x0.trackers.e5.b])] :: [(pb1,oc 66 [c14])] :: S) w ∧ Env 35 a [(1,(Value.func (.func 53) #[] #[.pointer (some ⟨pb0,0,none⟩),.pointer (some ⟨pb1,0,none⟩)])),(5,vi b.1),(6,vb v22),(9,vb b.2),(10,vc_0),(11,(vi (c_0.length:Int))),(12,vi v23)] ∧ InR .i64 b.1) ?_ ?_ N _ a w hL ⟨ok,E.keep [1,5,6,9,10,11,12,17,18],r24,(ir 0)⟩
 rotate_left
 ·intro e a w _ hO
  obtain ⟨rfl,ok,E,r52⟩:=hO
  refine qaN<|qaa<|qac<|mz E rfl rfl fun a E=>qbN v22 (fun c53=>?_) (fun c53=>?_)
  ·have hF:=qbK c53 hF
   have E:=E.upd 30 c53 rfl
   refine ls E fun a E=>pt E rfl rfl fun a E=>av E rfl fun a E=>wpList_nil<|qap<|qaa<|qac<|lw E (qaE rfl rfl (InR.inc r25 (qao hc_0) c26)) fun a E=>mv E rfl fun a E=>wpList_nil ?_
   cases hF
   exact qas ⟨ok,E.keep [1,5,6,10,11,12],r52,(InR.inc r25 (qao hc_0) c26)⟩
  have hF:=qbI c53 hF
  have E:=E.upd 30 c53 rfl
  refine mv E rfl fun a E=>pf E rfl rfl fun a E=>av E rfl fun a E=>wpList_nil<|qap<|qaa<|qac<|lw E (qaE rfl rfl (InR.inc r25 (qao hc_0) c26)) fun a E=>mv E rfl fun a E=>wpList_nil ?_
  cases hF
  exact qas ⟨ok,E.keep [1,5,6,10,11,12],r52,(InR.inc r25 (qao hc_0) c26)⟩
 rintro ⟨v43,v44,v45⟩ a w r ⟨ok,E,r46,r47⟩ hF
 replace hF:qcq N x0 x1 x27 v43 v44 v45 = some r:=hF
 unfold qcq at hF
 refine sg<|lw E (qay rfl rfl) fun a E=>wn<|wp_seq<|cg E rfl hF (fun c48 hF=>?_) fun c48 hF=>?_
 ·refine wp_exit<|qaA ?_
  cases hF
  exact so (⟨rfl,⟨ok,E.keep [1,5,6,9,10,11,12],r46⟩⟩)
 refine wp_skip<|qaa<|wp_seq<|wp_block<|sg<|mz E rfl rfl fun a E=>qbN v44 (fun c49=>?_) (fun c49=>?_)
 rotate_left
 ·have hF:=qbI c49 hF
  have E:=E.upd 21 c49 rfl
  refine lsq E fun a E=>ls E fun a E=>pf E rfl rfl fun a E=>aw E rfl fun a E=>qac<|mv E rfl fun a E=>lw E (qcc rfl rfl) fun a E=>av E rfl fun a E=>wpList_nil<|qap<|qaa<|qac<|lw E (qaE rfl rfl (InR.inc r47 (qao h37) c48)) fun a E=>mv E rfl fun a E=>wpList_nil ?_
  cases hF
  exact qas ⟨ok,E.keep [1,5,6,9,10,11,12,17,18],(InR.wrap _ _),(InR.inc r47 (qao h37) c48)⟩
 have hF:=qbK c49 hF
 have E:=E.upd 21 c49 rfl
 refine mz E rfl rfl fun a E=>bd hF fun r50 e51 hF=>qeP E rfl qsg rfl (qin N v43 r46 x0 r1 r2 r3 r4 r5 r6 r7 r8 r9 r10 r11 r12 r13 x1 h15 e51 hG ok) rfl rfl ?_
 rintro _ w ⟨rfl,ok⟩
 refine ⟨_,rfl,fun a E=>?_⟩
 refine pt E rfl rfl fun a E=>aw E rfl fun a E=>qac<|mv E rfl fun a E=>lw E (qcc rfl rfl) fun a E=>av E rfl fun a E=>wpList_nil<|qap<|qaa<|qac<|lw E (qaE rfl rfl (InR.inc r47 (qao h37) c48)) fun a E=>mv E rfl fun a E=>wpList_nil ?_
 cases hF
 exact qas ⟨ok,E.keep [1,5,6,9,10,11,12,17,18],(InR.wrap _ _),(InR.inc r47 (qao h37) c48)⟩
def qiZ (u:World) (m0:Mem) (S:Segs) (pb0:Nat) (pb1:Nat) (x0:List (List (Relation))) (c14:Value) (x1:List (Relation)) (c16:Value) (r:Bool) (a:Act) (w:World):Prop :=
 Ok u m0 ([(pb0,oc 23 [c14])] :: [(pb1,oc 66 [c16])] :: S) w ∧ a.defers = [] ∧ RVs Tryz.prog a w [.t 4 (.bool r)]
theorem qi3 (N:Nat) (vs_0:List Value) (s_0:Reading) (hs_0:qca m0 vs_0 s_0) {pb0:Nat} {c14:Value} (x0:List (List (Relation))) (h15:(pL 1 (pL 4 qak)) m0 [c14] x0) {pb1:Nat} {c16:Value} (x1:List (Relation)) (h17:(pL 4 qak) m0 [c16] x1) {r:Bool} (hF:qcd N s_0 x0 x1 = some r) (hG:Glob u) (ok:Ok u m0 ([(pb0,oc 23 [c14])] :: [(pb1,oc 66 [c16])] :: S) w) :
  Calls Tryz.prog 51 [.agg vs_0.toArray,vp pb0,vp pb1].toArray w fun e w'=>(e = .returned (.bool r) ∧ Ok u m0 ([(pb0,oc 23 [c14])] :: [(pb1,oc 66 [c16])] :: S) w'):=by
 obtain ⟨rfl,r1,r2,r3,r4,r5,r6,r7,r8,r9,r10,r11,r12,r13⟩:=hs_0
 unfold qcd at hF
 refine en (qiZ u m0 S pb0 pb1 x0 c14 x1 c16) r Tryz.func51 rfl rfl rfl (fun _ _ h=>ra h rfl) fun fin a E=>sg<|qb8 E ok rfl rfl rfl fun b18 a w E ok=>aw E rfl fun a E=>sg<|fk E ok qcx qaq rfl 0 rfl rfl fun a E=>lw E (qau rfl rfl) fun a E=>mv E rfl fun a E=>bu E 8 hF (fun c19 hF E=>?_) fun c19 hF E=>?_
 ·refine lsq E fun a E=>ls E fun a E=>pt E rfl rfl fun a E=>mv E rfl fun a E=>ld E ok qfS 1 rfl rfl rfl fun a E=>lv E ok (qcI (caps:=[.tmp 3,.tmp 2]) rfl) fun a E=>?_
  obtain ⟨r20,e21,hF⟩:=bnd hF
  replace ok:Ok u m0 ([(b18,oc 89 [vi s_0.phase,vi s_0.trackers.e0.a,vi s_0.trackers.e0.b,vi s_0.trackers.e1.a,vi s_0.trackers.e1.b,vi s_0.trackers.e2.a,vi s_0.trackers.e2.b,vi s_0.trackers.e3.a,vi s_0.trackers.e3.b,vi s_0.trackers.e4.a,vi s_0.trackers.e4.b,vi s_0.trackers.e5.a,vi s_0.trackers.e5.b])] :: [(pb1,oc 66 [c16])] :: [(pb0,oc 23 [c14])] :: S) w:=(ok.pk 3 [0,2,1] rfl (by decide))
  refine lc E qn7 rfl (qg9 N _ x0 h15 s_0 r1 r2 r3 r4 r5 r6 r7 r8 r9 r10 r11 r12 r13 x1 h17 e21 hG ok) fun w ok a E=>pt E rfl rfl fun a E=>aw E rfl fun a E=>wp_ret ?_
  exact fin hF ⟨(ok.pk 3 [2,1] rfl (by decide)),E.d,rz E rfl⟩
 refine fk E ok qcx qaq rfl 0 rfl rfl fun a E=>lw E (qau rfl rfl) fun a E=>pf E rfl rfl fun a E=>mv E rfl fun a E=>bw E 13 hF (fun c22 hF E=>?_) fun c22 hF E=>?_
 ·refine lsq E fun a E=>ls E fun a E=>pf E rfl rfl fun a E=>aw E rfl fun a E=>wp_ret ?_
  exact fin hF ⟨ok.drop,E.d,rz E rfl⟩
 refine ld E ok qfS 1 rfl rfl rfl fun a E=>lv E ok (qcI (caps:=[.tmp 3,.tmp 2]) rfl) fun a E=>?_
 obtain ⟨r23,e24,hF⟩:=bnd hF
 replace ok:Ok u m0 ([(b18,oc 89 [vi s_0.phase,vi s_0.trackers.e0.a,vi s_0.trackers.e0.b,vi s_0.trackers.e1.a,vi s_0.trackers.e1.b,vi s_0.trackers.e2.a,vi s_0.trackers.e2.b,vi s_0.trackers.e3.a,vi s_0.trackers.e3.b,vi s_0.trackers.e4.a,vi s_0.trackers.e4.b,vi s_0.trackers.e5.a,vi s_0.trackers.e5.b])] :: [(pb1,oc 66 [c16])] :: [(pb0,oc 23 [c14])] :: S) w:=(ok.pk 3 [0,2,1] rfl (by decide))
 refine lc E qn7 rfl (qg9 N _ x0 h15 s_0 r1 r2 r3 r4 r5 r6 r7 r8 r9 r10 r11 r12 r13 x1 h17 e24 hG ok) fun w ok a E=>pt E rfl rfl fun a E=>aw E rfl fun a E=>wp_ret ?_
 exact fin hF ⟨(ok.pk 3 [2,1] rfl (by decide)),E.d,rz E rfl⟩
end Go.Proofs.YtidfofhmnlhfjaaGreatDoor
