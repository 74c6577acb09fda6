/- Texts of this proof, put together by pack.py: what its declarations name. -/
import Derived.Test.YtllnjbnknjpbjaaGreatDoorPkKx3
import Derived.Test.YtllnjbnknjpbjaaGreatDoorCards
import Derived.Test.YtllnjbnknjpbjaaGreatDoorChecked
import Derived.Test.YtllnjbnknjpbjaaGreatDoorProg
import Derived.Test.YtllnjbnknjpbjaaGreatDoorRows
import Derived.Test.YtllnjbnknjpbjaaGreatDoorTie
set_option linter.unusedVariables false
set_option linter.unusedSimpArgs false
namespace Go.Proofs.YtllnjbnknjpbjaaGreatDoor
open Go.X
variable {u:World} {m0:Mem} {S:Segs} {w:World}
set_option maxHeartbeats 4000000
set_option maxRecDepth 100000
def qds (u:World) (m0:Mem) (S:Segs) (r:Number2 × Bool) (a:Act) (w:World):Prop :=
 ∃ m1 v0,m0.le m1 ∧ Ok u m1 S w ∧ a.defers = [] ∧ RVs Tryz.prog a w [.c 2 173 (.agg v0.toArray),.t 3 (.bool r.2)] ∧ ql4 m1 v0 r.1
theorem qjb (N:Nat) (s_0:List UInt8) (ls_0:s_0.length ≤ LIMS) {r:Number2 × Bool} (hF:qfK N s_0 = some r) (hG:Glob u) (ok:Ok u m0 S w) :
  Calls Tryz.prog 105 [vs s_0].toArray w fun e w'=>∃ m1 v0,e = .returned (.tuple [(.agg v0.toArray),(.bool r.2)].toArray) ∧ m0.le m1 ∧ Ok u m1 S w' ∧ ql4 m1 v0 r.1:=by
 have le_m0:=Mem.le.refl m0
 unfold qfK at hF
 refine en (qds u m0 S) r Tryz.func105 rfl rfl rfl (by rintro a w ⟨m1,v0,hle,ok,hd,hrv,h0⟩; exact qbs [.c 2 173 (.agg v0.toArray),.t 3 (.bool r.2)] hd rfl hrv ⟨m1,v0,rfl,hle,ok,h0⟩) fun fin a E=>sg<|qa3 E ok qb7 rfl rfl fun b1 a w E ok=>aw E rfl fun a E=>sg<|qa3 E ok qb7 rfl rfl fun b2 a w E ok=>wn<|wp_seq<|sg<|mv E rfl fun a E=>lw E (qaJ Tryz.underlying9 rfl) fun a E=>lw E (qbD rfl rfl) fun a E=>mv E rfl fun a E=>bw E 9 hF (fun c3 hF E=>?_) fun c3 hF E=>?_
 ·as_aux_lemma =>
   refine lsq E fun a E=>ls E fun a E=>pf E rfl rfl fun a E=>wn<|c_if E rfl (fun h=>by cases h) (fun _=>?_)
   refine wp_skip<|qaa<|sg<|aw E rfl fun a E=>wp_seq<|wp_block<|bd hF fun o73 hL hF=>qa6 _ (fun (s:Int) a w=>Ok u m0 ([(b2,oc 173 [vb false,(vs ([])),(vs ([]))])] :: [(b1,oc 173 [vb false,(vs ([])),(vs ([]))])] :: S) w ∧ Env 98 a [(0,vs s_0),(2,vp b1),(4,vp b2),(5,vi s)] ∧ InR .i64 s) (fun (b:Int) e a w=>e = (.exit 0) ∧ Ok u m0 ([(b2,oc 173 [vb false,(vs ([])),(vs ([]))])] :: [(b1,oc 173 [vb false,(vs ([])),(vs ([]))])] :: S) w ∧ Env 98 a [(0,vs s_0),(2,vp b1),(4,vp b2),(5,vi b)] ∧ InR .i64 b) ?_ ?_ N _ a w hL ⟨ok,E.keep [0,2,4,5],(ir 0)⟩
   ·rintro v75 a w r ⟨ok,E,r76⟩ hF
    replace hF:qeW N s_0 v75 = some r:=hF
    unfold qeW at hF
    refine wp_seq<|sg<|mz E rfl rfl fun a E=>lw E (qaJ Tryz.underlying9 rfl) fun a E=>lw E (qaS rfl rfl) fun a E=>mv E rfl fun a E=>bw E 21 hF (fun c77 hF E=>?_) fun c77 hF E=>?_
    ·refine lsz E fun a E=>pf E rfl rfl fun a E=>wn<|c_if E rfl (fun h=>by cases h) (fun _=>?_)
     refine wp_exit<|qaX ?_
     cases hF
     exact so (⟨rfl,⟨ok,E.keep [0,2,4,5],r76⟩⟩)
    refine mz E rfl rfl fun a E=>bd hF fun c78 e79 hF=>lv E ok (qaD Tryz.underlying9 rfl rfl e79) fun a E=>lw E (qbj rfl rfl) fun a E=>pt E rfl rfl fun a E=>wn<|cg E rfl hF (fun c80 hF=>?_) fun c80 hF=>?_
    ·refine wp_exit<|qaX ?_
     cases hF
     exact so (⟨rfl,⟨ok,E.keep [0,2,4,5],r76⟩⟩)
    refine wp_skip<|qaa<|wp_block<|qab<|mv E rfl fun a E=>lw E (qaC rfl rfl (InR.inc r76 (InR.len ls_0) c77)) fun a E=>av E rfl fun a E=>wpList_nil<|qag ?_
    cases hF
    exact qat ⟨ok,E.keep [0,2,4,5],(InR.inc r76 (InR.len ls_0) c77)⟩
   intro e a w _ hO
   obtain ⟨rfl,ok,E,r81⟩:=hO
   refine qbf<|qaa<|sg<|mz E rfl rfl fun a E=>bd hF fun s82 e83 hF=>lw E (qcd Tryz.underlying9 e83 rfl rfl ⟨_,rfl⟩) fun a E=>fv E qcH rfl fun a E=>qad E ok 0 rfl rfl rfl qcv rfl rfl ⟨rfl,trivial⟩ rfl rfl fun w ok=>wn<|wp_seq<|sg<|mz E rfl rfl fun a E=>lw E (qaJ Tryz.underlying9 rfl) fun a E=>lw E (qaS rfl rfl) fun a E=>wn<|bd hF fun o84 hJ hF=>qaK (Q':=fun e a w=>(Sum.elim (fun b85=>e = .normal ∧ Ok u m0 ([(b2,oc 173 [vb b85.Neg,vs b85.Whole,vs b85.Frac])] :: [(b1,oc 173 [vb false,(vs ([])),(vs ([]))])] :: S) w ∧ Env 98 a [(2,vp b1),(4,vp b2)] ∧ b85.Whole.length ≤ LIMS ∧ b85.Frac.length ≤ LIMS) (fun b88=>e = .ret ∧ qds u m0 S b88 a w)) o84) ?_ ?_
   ·have hF:=hJ
    refine cg E rfl hF (fun c89 hF=>?_) fun c89 hF=>?_
    ·refine wp_skip ?_
     cases hF
     exact (sl ⟨rfl,⟨ok,E.keep [2,4],(Nat.le_trans (qcc e83) ls_0),(Nat.zero_le _)⟩⟩)
    refine sg<|mz E rfl rfl fun a E=>lw E (qaC rfl rfl (InR.inc r81 (InR.len ls_0) c89)) fun a E=>bd hF fun s90 e91 hF=>lw E (qcd Tryz.underlying9 e91 rfl ⟨_,rfl⟩ rfl) fun a E=>fv E qdf rfl fun a E=>qad E ok 0 rfl rfl rfl qcv rfl rfl ⟨rfl,trivial⟩ rfl rfl fun w ok=>wn<|sg<|fv E qdf rfl fun a E=>ld E ok qao 0 rfl rfl rfl fun a E=>lw E (qaJ Tryz.underlying9 rfl) fun a E=>lw E (qap rfl rfl) fun a E=>wn<|cg E rfl hF (fun c92 hF=>?_) fun c92 hF=>?_
    ·refine wp_skip ?_
     cases hF
     exact (sl ⟨rfl,⟨ok,E.keep [2,4],(Nat.le_trans (qcc e83) ls_0),(Nat.le_trans (qcc e91) ls_0)⟩⟩)
    refine sg<|lw E (qau (ps:=[]) (qs:=[]) (cs:=[vb false,(vs ([])),(vs ([]))]) qb7 qbW rfl trivial rfl) fun a E=>qad E ok 1 rfl rfl rfl qbS rfl rfl ⟨rfl,rfl,rfl,trivial⟩ rfl rfl fun w ok=>aw E rfl fun a E=>wp_ret ?_
    have hret:qds u m0 S ((Number2.mk false ([]) ([])),false) a w:=⟨m0,[vb false,(vs ([])),(vs ([]))],le_m0,ok.drop.drop,E.d,⟨rv_c (cs:=[vb false,(vs ([])),(vs ([]))]) E ok rfl qbv rfl (qae.own 1 rfl rfl),rv_t E rfl,trivial⟩,⟨rfl,(Nat.zero_le _),(Nat.zero_le _)⟩⟩
    cases hF
    exact (sr ⟨rfl,hret⟩)
   intro e a w hO
   rcases o84 with o84 | o84
   rotate_left
   ·obtain ⟨rfl,hret⟩:=hO
    refine qam ?_
    exact fin hF hret
   have hF:=qb4 hF
   obtain ⟨rfl,ok,E,l93,l94⟩:=hO
   refine qaa<|wp_seq<|sg<|fk E ok qcH qao rfl 0 rfl rfl fun a E=>fk E ok qdf qao rfl 0 rfl rfl fun a E=>bd hF fun s95 e96 hF=>lw E (qaE rfl rfl e96) fun a E=>bd hF fun r97 e98 hF=>lc E qnb rfl (qgc N s95 (qaV e96) e98 hG ok) fun w ok a E=>lw E (qbh rfl) fun a E=>mv E rfl fun a E=>bu E 54 hF (fun c99 hF E=>?_) fun c99 hF E=>?_
   ·refine lsz E fun a E=>pt E rfl rfl fun a E=>mv E rfl fun a E=>lsz E fun a E=>pt E rfl rfl fun a E=>mv E rfl fun a E=>lsz E fun a E=>?_
    refine lsz E fun a E=>lsq E fun a E=>pt E rfl rfl fun a E=>mv E rfl fun a E=>lsz E fun a E=>pt E rfl rfl fun a E=>mv E rfl fun a E=>lsq E fun a E=>?_
    refine lsz E fun a E=>lsz E fun a E=>pt E rfl rfl fun a E=>wn<|c_if E rfl (fun _=>?_) (fun h=>by cases h)
    refine sg<|lw E (qau (ps:=[]) (qs:=[]) (cs:=[vb false,(vs ([])),(vs ([]))]) qb7 qbW rfl trivial rfl) fun a E=>qad E ok 1 rfl rfl rfl qbS rfl rfl ⟨rfl,rfl,rfl,trivial⟩ rfl rfl fun w ok=>aw E rfl fun a E=>wp_ret<|qam ?_
    exact fin hF ⟨m0,[vb false,(vs ([])),(vs ([]))],le_m0,ok.drop.drop,E.d,⟨rv_c (cs:=[vb false,(vs ([])),(vs ([]))]) E ok rfl qbv rfl (qae.own 1 rfl rfl),rv_t E rfl,trivial⟩,⟨rfl,(Nat.zero_le _),(Nat.zero_le _)⟩⟩
   refine fk E ok qcH qao rfl 0 rfl rfl fun a E=>lw E (qaJ Tryz.underlying9 rfl) fun a E=>lw E (qaS rfl rfl) fun a E=>pf E rfl rfl fun a E=>mv E rfl fun a E=>bu E 60 hF (fun c100 hF E=>?_) fun c100 hF E=>?_
   ·refine lsz E fun a E=>pt E rfl rfl fun a E=>mv E rfl fun a E=>lsz E fun a E=>lsz E fun a E=>lsq E fun a E=>?_
    refine pt E rfl rfl fun a E=>mv E rfl fun a E=>lsz E fun a E=>pt E rfl rfl fun a E=>mv E rfl fun a E=>lsz E fun a E=>lsz E fun a E=>?_
    refine lsq E fun a E=>pt E rfl rfl fun a E=>wn<|c_if E rfl (fun _=>?_) (fun h=>by cases h)
    refine sg<|lw E (qau (ps:=[]) (qs:=[]) (cs:=[vb false,(vs ([])),(vs ([]))]) qb7 qbW rfl trivial rfl) fun a E=>qad E ok 1 rfl rfl rfl qbS rfl rfl ⟨rfl,rfl,rfl,trivial⟩ rfl rfl fun w ok=>aw E rfl fun a E=>wp_ret<|qam ?_
    exact fin hF ⟨m0,[vb false,(vs ([])),(vs ([]))],le_m0,ok.drop.drop,E.d,⟨rv_c (cs:=[vb false,(vs ([])),(vs ([]))]) E ok rfl qbv rfl (qae.own 1 rfl rfl),rv_t E rfl,trivial⟩,⟨rfl,(Nat.zero_le _),(Nat.zero_le _)⟩⟩
   refine fk E ok qcH qao rfl 0 rfl rfl fun a E=>lw E (qaJ Tryz.underlying9 rfl) fun a E=>lw E (qbD rfl rfl) fun a E=>pf E rfl rfl fun a E=>mv E rfl fun a E=>bu E 66 hF (fun c101 hF E=>?_) fun c101 hF E=>?_
   ·refine lsz E fun a E=>lsz E fun a E=>lsq E fun a E=>pt E rfl rfl fun a E=>mv E rfl fun a E=>lsz E fun a E=>?_
    refine pt E rfl rfl fun a E=>mv E rfl fun a E=>lsz E fun a E=>lsz E fun a E=>lsq E fun a E=>pt E rfl rfl fun a E=>wn<|c_if E rfl (fun _=>?_) (fun h=>by cases h)
    refine sg<|lw E (qau (ps:=[]) (qs:=[]) (cs:=[vb false,(vs ([])),(vs ([]))]) qb7 qbW rfl trivial rfl) fun a E=>qad E ok 1 rfl rfl rfl qbS rfl rfl ⟨rfl,rfl,rfl,trivial⟩ rfl rfl fun w ok=>aw E rfl fun a E=>wp_ret<|qam ?_
    exact fin hF ⟨m0,[vb false,(vs ([])),(vs ([]))],le_m0,ok.drop.drop,E.d,⟨rv_c (cs:=[vb false,(vs ([])),(vs ([]))]) E ok rfl qbv rfl (qae.own 1 rfl rfl),rv_t E rfl,trivial⟩,⟨rfl,(Nat.zero_le _),(Nat.zero_le _)⟩⟩
   refine fk E ok qcH qao rfl 0 rfl rfl fun a E=>lw E (qaJ Tryz.underlying9 rfl) fun a E=>lw E (qbD rfl rfl) fun a E=>mv E rfl fun a E=>bw E 71 hF (fun c102 hF E=>?_) fun c102 hF E=>?_
   ·as_aux_lemma =>
     refine lsz E fun a E=>pf E rfl rfl fun a E=>pf E rfl rfl fun a E=>mv E rfl fun a E=>fv E qdf rfl fun a E=>ld E ok qao 0 rfl rfl rfl fun a E=>lw E (qaJ Tryz.underlying9 rfl) fun a E=>lw E (qbD rfl rfl) fun a E=>pf E rfl rfl fun a E=>mv E rfl fun a E=>bu E 84 hF (fun c113 hF E=>?_) fun c113 hF E=>?_
     ·refine lsz E fun a E=>lsz E fun a E=>lsq E fun a E=>pt E rfl rfl fun a E=>wn<|c_if E rfl (fun _=>?_) (fun h=>by cases h)
      refine sg<|lw E (qau (ps:=[]) (qs:=[]) (cs:=[vb false,(vs ([])),(vs ([]))]) qb7 qbW rfl trivial rfl) fun a E=>qad E ok 1 rfl rfl rfl qbS rfl rfl ⟨rfl,rfl,rfl,trivial⟩ rfl rfl fun w ok=>aw E rfl fun a E=>wp_ret<|qam ?_
      exact fin hF ⟨m0,[vb false,(vs ([])),(vs ([]))],le_m0,ok.drop.drop,E.d,⟨rv_c (cs:=[vb false,(vs ([])),(vs ([]))]) E ok rfl qbv rfl (qae.own 1 rfl rfl),rv_t E rfl,trivial⟩,⟨rfl,(Nat.zero_le _),(Nat.zero_le _)⟩⟩
     refine fk E ok qhu qlx rfl 0 rfl rfl fun a E=>mv E rfl fun a E=>qbr o84.Neg (fun c114=>?_) (fun c114=>?_)
     rotate_left
     ·have hF:=qbn c114 hF
      have E:=E.upd 87 c114 rfl
      refine lsz E fun a E=>lsq E fun a E=>pf E rfl rfl fun a E=>pf E rfl rfl fun a E=>wn<|c_if E rfl (fun h=>by cases h) (fun _=>?_)
      refine wp_skip<|qaa<|sg<|lv E ok (qan (cs:=[vb o84.Neg,vs o84.Whole,vs o84.Frac]) qbv rfl rfl (qae.own 0 rfl rfl)) fun a E=>qad E ok 1 rfl rfl rfl qbS rfl rfl ⟨rfl,rfl,rfl,trivial⟩ rfl rfl fun w ok=>av E rfl fun a E=>wn<|wp_ret ?_
      exact fin hF ⟨m0,[vb o84.Neg,vs o84.Whole,vs o84.Frac],le_m0,ok.drop.drop,E.d,⟨rv_c (cs:=[vb o84.Neg,vs o84.Whole,vs o84.Frac]) E ok rfl qbv rfl (qae.own 1 rfl rfl),rv_t E rfl,trivial⟩,⟨rfl,l93,l94⟩⟩
     have hF:=qbo c114 hF
     have E:=E.upd 87 c114 rfl
     refine fk E ok qcH qao rfl 0 rfl rfl fun a E=>fk E ok qdf qao rfl 0 rfl rfl fun a E=>bd hF fun s115 e116 hF=>lw E (qaE rfl rfl e116) fun a E=>bd hF fun r117 e118 hF=>lc E qkk rfl (qeu N s115 (qaV e116) e118 hG ok) fun w ok a E=>pt E rfl rfl fun a E=>pf E rfl rfl fun a E=>wn<|cf E rfl hF (fun c119 hF=>?_) fun c119 hF=>?_
     ·refine sg<|lw E (qau (ps:=[]) (qs:=[]) (cs:=[vb false,(vs ([])),(vs ([]))]) qb7 qbW rfl trivial rfl) fun a E=>qad E ok 1 rfl rfl rfl qbS rfl rfl ⟨rfl,rfl,rfl,trivial⟩ rfl rfl fun w ok=>aw E rfl fun a E=>wp_ret<|qam ?_
      exact fin hF ⟨m0,[vb false,(vs ([])),(vs ([]))],le_m0,ok.drop.drop,E.d,⟨rv_c (cs:=[vb false,(vs ([])),(vs ([]))]) E ok rfl qbv rfl (qae.own 1 rfl rfl),rv_t E rfl,trivial⟩,⟨rfl,(Nat.zero_le _),(Nat.zero_le _)⟩⟩
     refine wp_skip<|qaa<|sg<|lv E ok (qan (cs:=[vb o84.Neg,vs o84.Whole,vs o84.Frac]) qbv rfl rfl (qae.own 0 rfl rfl)) fun a E=>qad E ok 1 rfl rfl rfl qbS rfl rfl ⟨rfl,rfl,rfl,trivial⟩ rfl rfl fun w ok=>av E rfl fun a E=>wn<|wp_ret ?_
     exact fin hF ⟨m0,[vb o84.Neg,vs o84.Whole,vs o84.Frac],le_m0,ok.drop.drop,E.d,⟨rv_c (cs:=[vb o84.Neg,vs o84.Whole,vs o84.Frac]) E ok rfl qbv rfl (qae.own 1 rfl rfl),rv_t E rfl,trivial⟩,⟨rfl,l93,l94⟩⟩
   refine fk E ok qcH qao rfl 0 rfl rfl fun a E=>bd hF fun c103 e104 hF=>lv E ok (qaD Tryz.underlying9 rfl rfl e104) fun a E=>lw E (qap rfl rfl) fun a E=>pt E rfl rfl fun a E=>pf E rfl rfl fun a E=>mv E rfl fun a E=>bu E 78 hF (fun c105 hF E=>?_) fun c105 hF E=>?_
   ·refine lsz E fun a E=>pt E rfl rfl fun a E=>mv E rfl fun a E=>lsz E fun a E=>lsz E fun a E=>lsq E fun a E=>?_
    refine pt E rfl rfl fun a E=>wn<|c_if E rfl (fun _=>?_) (fun h=>by cases h)
    refine sg<|lw E (qau (ps:=[]) (qs:=[]) (cs:=[vb false,(vs ([])),(vs ([]))]) qb7 qbW rfl trivial rfl) fun a E=>qad E ok 1 rfl rfl rfl qbS rfl rfl ⟨rfl,rfl,rfl,trivial⟩ rfl rfl fun w ok=>aw E rfl fun a E=>wp_ret<|qam ?_
    exact fin hF ⟨m0,[vb false,(vs ([])),(vs ([]))],le_m0,ok.drop.drop,E.d,⟨rv_c (cs:=[vb false,(vs ([])),(vs ([]))]) E ok rfl qbv rfl (qae.own 1 rfl rfl),rv_t E rfl,trivial⟩,⟨rfl,(Nat.zero_le _),(Nat.zero_le _)⟩⟩
   refine fk E ok qdf qao rfl 0 rfl rfl fun a E=>lw E (qaJ Tryz.underlying9 rfl) fun a E=>lw E (qbD rfl rfl) fun a E=>pf E rfl rfl fun a E=>mv E rfl fun a E=>bu E 84 hF (fun c106 hF E=>?_) fun c106 hF E=>?_
   ·refine lsz E fun a E=>lsz E fun a E=>lsq E fun a E=>pt E rfl rfl fun a E=>wn<|c_if E rfl (fun _=>?_) (fun h=>by cases h)
    refine sg<|lw E (qau (ps:=[]) (qs:=[]) (cs:=[vb false,(vs ([])),(vs ([]))]) qb7 qbW rfl trivial rfl) fun a E=>qad E ok 1 rfl rfl rfl qbS rfl rfl ⟨rfl,rfl,rfl,trivial⟩ rfl rfl fun w ok=>aw E rfl fun a E=>wp_ret<|qam ?_
    exact fin hF ⟨m0,[vb false,(vs ([])),(vs ([]))],le_m0,ok.drop.drop,E.d,⟨rv_c (cs:=[vb false,(vs ([])),(vs ([]))]) E ok rfl qbv rfl (qae.own 1 rfl rfl),rv_t E rfl,trivial⟩,⟨rfl,(Nat.zero_le _),(Nat.zero_le _)⟩⟩
   refine fk E ok qhu qlx rfl 0 rfl rfl fun a E=>mv E rfl fun a E=>qbr o84.Neg (fun c107=>?_) (fun c107=>?_)
   rotate_left
   ·have hF:=qbn c107 hF
    have E:=E.upd 87 c107 rfl
    refine lsz E fun a E=>lsq E fun a E=>pf E rfl rfl fun a E=>pf E rfl rfl fun a E=>wn<|c_if E rfl (fun h=>by cases h) (fun _=>?_)
    refine wp_skip<|qaa<|sg<|lv E ok (qan (cs:=[vb o84.Neg,vs o84.Whole,vs o84.Frac]) qbv rfl rfl (qae.own 0 rfl rfl)) fun a E=>qad E ok 1 rfl rfl rfl qbS rfl rfl ⟨rfl,rfl,rfl,trivial⟩ rfl rfl fun w ok=>av E rfl fun a E=>wn<|wp_ret ?_
    exact fin hF ⟨m0,[vb o84.Neg,vs o84.Whole,vs o84.Frac],le_m0,ok.drop.drop,E.d,⟨rv_c (cs:=[vb o84.Neg,vs o84.Whole,vs o84.Frac]) E ok rfl qbv rfl (qae.own 1 rfl rfl),rv_t E rfl,trivial⟩,⟨rfl,l93,l94⟩⟩
   have hF:=qbo c107 hF
   have E:=E.upd 87 c107 rfl
   refine fk E ok qcH qao rfl 0 rfl rfl fun a E=>fk E ok qdf qao rfl 0 rfl rfl fun a E=>bd hF fun s108 e109 hF=>lw E (qaE rfl rfl e109) fun a E=>bd hF fun r110 e111 hF=>lc E qkk rfl (qeu N s108 (qaV e109) e111 hG ok) fun w ok a E=>pt E rfl rfl fun a E=>pf E rfl rfl fun a E=>wn<|cf E rfl hF (fun c112 hF=>?_) fun c112 hF=>?_
   ·refine sg<|lw E (qau (ps:=[]) (qs:=[]) (cs:=[vb false,(vs ([])),(vs ([]))]) qb7 qbW rfl trivial rfl) fun a E=>qad E ok 1 rfl rfl rfl qbS rfl rfl ⟨rfl,rfl,rfl,trivial⟩ rfl rfl fun w ok=>aw E rfl fun a E=>wp_ret<|qam ?_
    exact fin hF ⟨m0,[vb false,(vs ([])),(vs ([]))],le_m0,ok.drop.drop,E.d,⟨rv_c (cs:=[vb false,(vs ([])),(vs ([]))]) E ok rfl qbv rfl (qae.own 1 rfl rfl),rv_t E rfl,trivial⟩,⟨rfl,(Nat.zero_le _),(Nat.zero_le _)⟩⟩
   refine wp_skip<|qaa<|sg<|lv E ok (qan (cs:=[vb o84.Neg,vs o84.Whole,vs o84.Frac]) qbv rfl rfl (qae.own 0 rfl rfl)) fun a E=>qad E ok 1 rfl rfl rfl qbS rfl rfl ⟨rfl,rfl,rfl,trivial⟩ rfl rfl fun w ok=>av E rfl fun a E=>wn<|wp_ret ?_
   exact fin hF ⟨m0,[vb o84.Neg,vs o84.Whole,vs o84.Frac],le_m0,ok.drop.drop,E.d,⟨rv_c (cs:=[vb o84.Neg,vs o84.Whole,vs o84.Frac]) E ok rfl qbv rfl (qae.own 1 rfl rfl),rv_t E rfl,trivial⟩,⟨rfl,l93,l94⟩⟩
 refine mv E rfl fun a E=>bd hF fun c4 e5 hF=>lv E ok (qaD Tryz.underlying9 rfl rfl e5) fun a E=>lw E (qap rfl rfl) fun a E=>pt E rfl rfl fun a E=>wn<|bd hF fun o6 hJ hF=>qaK (Q':=fun e a w=>e = .normal ∧ Ok u m0 ([(b2,oc 173 [vb o6.2.Neg,vs o6.2.Whole,vs o6.2.Frac])] :: [(b1,oc 173 [vb false,(vs ([])),(vs ([]))])] :: S) w ∧ Env 98 a [(0,vs o6.1),(2,vp b1),(4,vp b2)] ∧ o6.1.length ≤ LIMS ∧ o6.2.Whole.length ≤ LIMS ∧ o6.2.Frac.length ≤ LIMS) ?_ ?_
 ·have hF:=hJ
  refine cg E rfl hF (fun c10 hF=>?_) fun c10 hF=>?_
  ·refine wp_skip ?_
   cases hF
   exact ⟨rfl,⟨ok,E.keep [0,2,4],ls_0,(Nat.zero_le _),(Nat.zero_le _)⟩⟩
  refine bd hF fun o11 hJ hF=>qaK (Q':=fun e a w=>e = .normal ∧ Ok u m0 ([(b2,oc 173 [vb o11.2.Neg,vs o11.2.Whole,vs o11.2.Frac])] :: [(b1,oc 173 [vb false,(vs ([])),(vs ([]))])] :: S) w ∧ Env 98 a [(0,vs o11.1),(2,vp b1),(4,vp b2)] ∧ o11.1.length ≤ LIMS ∧ o11.2.Whole.length ≤ LIMS ∧ o11.2.Frac.length ≤ LIMS) ?_ ?_
  rotate_left
  ·intro e a w hO
   obtain ⟨rfl,ok,E,l17,l18,l19⟩:=hO
   cases hF
   exact ⟨rfl,⟨ok,E.keep [0,2,4],l17,l18,l19⟩⟩
  have hF:=hJ
  obtain ⟨s15,e16,hF⟩:=bnd hF
  obtain rfl:=sj hF
  refine qbl [] (Cls u m0 ([(b1,oc 173 [vb false,(vs ([])),(vs ([]))])] :: [])) (Cls u m0 ([(b1,oc 173 [vb false,(vs ([])),(vs ([]))])] :: [])) (by kernel_rfl) ?_
  intro w hw
  replace ok:=qbE ok hw
  clear hw
  refine qar (cl1 (cq le_m0 ok [1] rfl) (cq le_m0 ok [1] rfl)) fun hT=>kt 0 E rfl hT (qah rfl) fun a E=>kt 1 E rfl hT (qcd Tryz.underlying9 e16 rfl ⟨_,rfl⟩ rfl) fun a E=>kt 2 E rfl hT (qai qhu rfl) fun a E=>qaP [3] (by kernel_rfl) rfl (qaT ?_)
  ·refine wo rfl<|qad E ok 0 rfl rfl rfl qpY rfl rfl ⟨rfl,trivial⟩ rfl rfl fun w ok=>wn<|qar (cl1 (cq le_m0 ok [1] rfl) (cq le_m0 ok [1] rfl)) fun hT=>kt 4 E rfl hT (qaI rfl) fun a E=>qbw (by kernel_rfl) ?_
   exact ⟨rfl,⟨ok,E.keep [0,2,4],(Nat.le_trans (qcc e16) ls_0),(Nat.zero_le _),(Nat.zero_le _)⟩⟩
 intro e a w hO
 obtain ⟨rfl,ok,E,l20,l21,l22⟩:=hO
 refine qaa<|sg<|aw E rfl fun a E=>wp_seq<|wp_block<|bd hF fun o24 hL hF=>qa6 _ (fun (s:Int) a w=>Ok u m0 ([(b2,oc 173 [vb o6.2.Neg,vs o6.2.Whole,vs o6.2.Frac])] :: [(b1,oc 173 [vb false,(vs ([])),(vs ([]))])] :: S) w ∧ Env 98 a [(0,vs o6.1),(2,vp b1),(4,vp b2),(5,vi s)] ∧ InR .i64 s) (fun (b:Int) e a w=>e = (.exit 0) ∧ Ok u m0 ([(b2,oc 173 [vb o6.2.Neg,vs o6.2.Whole,vs o6.2.Frac])] :: [(b1,oc 173 [vb false,(vs ([])),(vs ([]))])] :: S) w ∧ Env 98 a [(0,vs o6.1),(2,vp b1),(4,vp b2),(5,vi b)] ∧ InR .i64 b) ?_ ?_ N _ a w hL ⟨ok,E.keep [0,2,4,5],(ir 0)⟩
 ·rintro v26 a w r ⟨ok,E,r27⟩ hF
  replace hF:qeZ N o6 v26 = some r:=hF
  unfold qeZ at hF
  refine wp_seq<|sg<|mz E rfl rfl fun a E=>lw E (qaJ Tryz.underlying9 rfl) fun a E=>lw E (qaS rfl rfl) fun a E=>mv E rfl fun a E=>bw E 21 hF (fun c28 hF E=>?_) fun c28 hF E=>?_
  ·refine lsz E fun a E=>pf E rfl rfl fun a E=>wn<|c_if E rfl (fun h=>by cases h) (fun _=>?_)
   refine wp_exit<|qaX ?_
   cases hF
   exact so (⟨rfl,⟨ok,E.keep [0,2,4,5],r27⟩⟩)
  refine mz E rfl rfl fun a E=>bd hF fun c29 e30 hF=>lv E ok (qaD Tryz.underlying9 rfl rfl e30) fun a E=>lw E (qbj rfl rfl) fun a E=>pt E rfl rfl fun a E=>wn<|cg E rfl hF (fun c31 hF=>?_) fun c31 hF=>?_
  ·refine wp_exit<|qaX ?_
   cases hF
   exact so (⟨rfl,⟨ok,E.keep [0,2,4,5],r27⟩⟩)
  refine wp_skip<|qaa<|wp_block<|qab<|mv E rfl fun a E=>lw E (qaC rfl rfl (InR.inc r27 (InR.len l20) c28)) fun a E=>av E rfl fun a E=>wpList_nil<|qag ?_
  cases hF
  exact qat ⟨ok,E.keep [0,2,4,5],(InR.inc r27 (InR.len l20) c28)⟩
 intro e a w _ hO
 obtain ⟨rfl,ok,E,r32⟩:=hO
 refine qbf<|qaa<|sg<|mz E rfl rfl fun a E=>bd hF fun s33 e34 hF=>lw E (qcd Tryz.underlying9 e34 rfl rfl ⟨_,rfl⟩) fun a E=>fv E qcH rfl fun a E=>qad E ok 0 rfl rfl rfl qcv rfl rfl ⟨rfl,trivial⟩ rfl rfl fun w ok=>wn<|wp_seq<|sg<|mz E rfl rfl fun a E=>lw E (qaJ Tryz.underlying9 rfl) fun a E=>lw E (qaS rfl rfl) fun a E=>wn<|bd hF fun o35 hJ hF=>qaK (Q':=fun e a w=>(Sum.elim (fun b36=>e = .normal ∧ Ok u m0 ([(b2,oc 173 [vb b36.Neg,vs b36.Whole,vs b36.Frac])] :: [(b1,oc 173 [vb false,(vs ([])),(vs ([]))])] :: S) w ∧ Env 98 a [(2,vp b1),(4,vp b2)] ∧ b36.Whole.length ≤ LIMS ∧ b36.Frac.length ≤ LIMS) (fun b39=>e = .ret ∧ qds u m0 S b39 a w)) o35) ?_ ?_
 ·have hF:=hJ
  refine cg E rfl hF (fun c40 hF=>?_) fun c40 hF=>?_
  ·refine wp_skip ?_
   cases hF
   exact (sl ⟨rfl,⟨ok,E.keep [2,4],(Nat.le_trans (qcc e34) l20),l22⟩⟩)
  refine sg<|mz E rfl rfl fun a E=>lw E (qaC rfl rfl (InR.inc r32 (InR.len l20) c40)) fun a E=>bd hF fun s41 e42 hF=>lw E (qcd Tryz.underlying9 e42 rfl ⟨_,rfl⟩ rfl) fun a E=>fv E qdf rfl fun a E=>qad E ok 0 rfl rfl rfl qcv rfl rfl ⟨rfl,trivial⟩ rfl rfl fun w ok=>wn<|sg<|fv E qdf rfl fun a E=>ld E ok qao 0 rfl rfl rfl fun a E=>lw E (qaJ Tryz.underlying9 rfl) fun a E=>lw E (qap rfl rfl) fun a E=>wn<|cg E rfl hF (fun c43 hF=>?_) fun c43 hF=>?_
  ·refine wp_skip ?_
   cases hF
   exact (sl ⟨rfl,⟨ok,E.keep [2,4],(Nat.le_trans (qcc e34) l20),(Nat.le_trans (qcc e42) l20)⟩⟩)
  refine sg<|lw E (qau (ps:=[]) (qs:=[]) (cs:=[vb false,(vs ([])),(vs ([]))]) qb7 qbW rfl trivial rfl) fun a E=>qad E ok 1 rfl rfl rfl qbS rfl rfl ⟨rfl,rfl,rfl,trivial⟩ rfl rfl fun w ok=>aw E rfl fun a E=>wp_ret ?_
  have hret:qds u m0 S ((Number2.mk false ([]) ([])),false) a w:=⟨m0,[vb false,(vs ([])),(vs ([]))],le_m0,ok.drop.drop,E.d,⟨rv_c (cs:=[vb false,(vs ([])),(vs ([]))]) E ok rfl qbv rfl (qae.own 1 rfl rfl),rv_t E rfl,trivial⟩,⟨rfl,(Nat.zero_le _),(Nat.zero_le _)⟩⟩
  cases hF
  exact (sr ⟨rfl,hret⟩)
 intro e a w hO
 rcases o35 with o35 | o35
 rotate_left
 ·obtain ⟨rfl,hret⟩:=hO
  refine qam ?_
  exact fin hF hret
 have hF:=qb4 hF
 obtain ⟨rfl,ok,E,l44,l45⟩:=hO
 refine qaa<|wp_seq<|sg<|fk E ok qcH qao rfl 0 rfl rfl fun a E=>fk E ok qdf qao rfl 0 rfl rfl fun a E=>bd hF fun s46 e47 hF=>lw E (qaE rfl rfl e47) fun a E=>bd hF fun r48 e49 hF=>lc E qnb rfl (qgc N s46 (qaV e47) e49 hG ok) fun w ok a E=>lw E (qbh rfl) fun a E=>mv E rfl fun a E=>bu E 54 hF (fun c50 hF E=>?_) fun c50 hF E=>?_
 ·refine lsz E fun a E=>pt E rfl rfl fun a E=>mv E rfl fun a E=>lsz E fun a E=>pt E rfl rfl fun a E=>mv E rfl fun a E=>lsz E fun a E=>?_
  refine lsz E fun a E=>lsq E fun a E=>pt E rfl rfl fun a E=>mv E rfl fun a E=>lsz E fun a E=>pt E rfl rfl fun a E=>mv E rfl fun a E=>lsq E fun a E=>?_
  refine lsz E fun a E=>lsz E fun a E=>pt E rfl rfl fun a E=>wn<|c_if E rfl (fun _=>?_) (fun h=>by cases h)
  refine sg<|lw E (qau (ps:=[]) (qs:=[]) (cs:=[vb false,(vs ([])),(vs ([]))]) qb7 qbW rfl trivial rfl) fun a E=>qad E ok 1 rfl rfl rfl qbS rfl rfl ⟨rfl,rfl,rfl,trivial⟩ rfl rfl fun w ok=>aw E rfl fun a E=>wp_ret<|qam ?_
  exact fin hF ⟨m0,[vb false,(vs ([])),(vs ([]))],le_m0,ok.drop.drop,E.d,⟨rv_c (cs:=[vb false,(vs ([])),(vs ([]))]) E ok rfl qbv rfl (qae.own 1 rfl rfl),rv_t E rfl,trivial⟩,⟨rfl,(Nat.zero_le _),(Nat.zero_le _)⟩⟩
 refine fk E ok qcH qao rfl 0 rfl rfl fun a E=>lw E (qaJ Tryz.underlying9 rfl) fun a E=>lw E (qaS rfl rfl) fun a E=>pf E rfl rfl fun a E=>mv E rfl fun a E=>bu E 60 hF (fun c51 hF E=>?_) fun c51 hF E=>?_
 ·refine lsz E fun a E=>pt E rfl rfl fun a E=>mv E rfl fun a E=>lsz E fun a E=>lsz E fun a E=>lsq E fun a E=>?_
  refine pt E rfl rfl fun a E=>mv E rfl fun a E=>lsz E fun a E=>pt E rfl rfl fun a E=>mv E rfl fun a E=>lsz E fun a E=>lsz E fun a E=>?_
  refine lsq E fun a E=>pt E rfl rfl fun a E=>wn<|c_if E rfl (fun _=>?_) (fun h=>by cases h)
  refine sg<|lw E (qau (ps:=[]) (qs:=[]) (cs:=[vb false,(vs ([])),(vs ([]))]) qb7 qbW rfl trivial rfl) fun a E=>qad E ok 1 rfl rfl rfl qbS rfl rfl ⟨rfl,rfl,rfl,trivial⟩ rfl rfl fun w ok=>aw E rfl fun a E=>wp_ret<|qam ?_
  exact fin hF ⟨m0,[vb false,(vs ([])),(vs ([]))],le_m0,ok.drop.drop,E.d,⟨rv_c (cs:=[vb false,(vs ([])),(vs ([]))]) E ok rfl qbv rfl (qae.own 1 rfl rfl),rv_t E rfl,trivial⟩,⟨rfl,(Nat.zero_le _),(Nat.zero_le _)⟩⟩
 refine fk E ok qcH qao rfl 0 rfl rfl fun a E=>lw E (qaJ Tryz.underlying9 rfl) fun a E=>lw E (qbD rfl rfl) fun a E=>pf E rfl rfl fun a E=>mv E rfl fun a E=>bu E 66 hF (fun c52 hF E=>?_) fun c52 hF E=>?_
 ·refine lsz E fun a E=>lsz E fun a E=>lsq E fun a E=>pt E rfl rfl fun a E=>mv E rfl fun a E=>lsz E fun a E=>?_
  refine pt E rfl rfl fun a E=>mv E rfl fun a E=>lsz E fun a E=>lsz E fun a E=>lsq E fun a E=>pt E rfl rfl fun a E=>wn<|c_if E rfl (fun _=>?_) (fun h=>by cases h)
  refine sg<|lw E (qau (ps:=[]) (qs:=[]) (cs:=[vb false,(vs ([])),(vs ([]))]) qb7 qbW rfl trivial rfl) fun a E=>qad E ok 1 rfl rfl rfl qbS rfl rfl ⟨rfl,rfl,rfl,trivial⟩ rfl rfl fun w ok=>aw E rfl fun a E=>wp_ret<|qam ?_
  exact fin hF ⟨m0,[vb false,(vs ([])),(vs ([]))],le_m0,ok.drop.drop,E.d,⟨rv_c (cs:=[vb false,(vs ([])),(vs ([]))]) E ok rfl qbv rfl (qae.own 1 rfl rfl),rv_t E rfl,trivial⟩,⟨rfl,(Nat.zero_le _),(Nat.zero_le _)⟩⟩
 refine fk E ok qcH qao rfl 0 rfl rfl fun a E=>lw E (qaJ Tryz.underlying9 rfl) fun a E=>lw E (qbD rfl rfl) fun a E=>mv E rfl fun a E=>bw E 71 hF (fun c53 hF E=>?_) fun c53 hF E=>?_
 ·as_aux_lemma =>
   refine lsz E fun a E=>pf E rfl rfl fun a E=>pf E rfl rfl fun a E=>mv E rfl fun a E=>fv E qdf rfl fun a E=>ld E ok qao 0 rfl rfl rfl fun a E=>lw E (qaJ Tryz.underlying9 rfl) fun a E=>lw E (qbD rfl rfl) fun a E=>pf E rfl rfl fun a E=>mv E rfl fun a E=>bu E 84 hF (fun c64 hF E=>?_) fun c64 hF E=>?_
   ·refine lsz E fun a E=>lsz E fun a E=>lsq E fun a E=>pt E rfl rfl fun a E=>wn<|c_if E rfl (fun _=>?_) (fun h=>by cases h)
    refine sg<|lw E (qau (ps:=[]) (qs:=[]) (cs:=[vb false,(vs ([])),(vs ([]))]) qb7 qbW rfl trivial rfl) fun a E=>qad E ok 1 rfl rfl rfl qbS rfl rfl ⟨rfl,rfl,rfl,trivial⟩ rfl rfl fun w ok=>aw E rfl fun a E=>wp_ret<|qam ?_
    exact fin hF ⟨m0,[vb false,(vs ([])),(vs ([]))],le_m0,ok.drop.drop,E.d,⟨rv_c (cs:=[vb false,(vs ([])),(vs ([]))]) E ok rfl qbv rfl (qae.own 1 rfl rfl),rv_t E rfl,trivial⟩,⟨rfl,(Nat.zero_le _),(Nat.zero_le _)⟩⟩
   refine fk E ok qhu qlx rfl 0 rfl rfl fun a E=>mv E rfl fun a E=>qbr o35.Neg (fun c65=>?_) (fun c65=>?_)
   rotate_left
   ·have hF:=qbn c65 hF
    have E:=E.upd 87 c65 rfl
    refine lsz E fun a E=>lsq E fun a E=>pf E rfl rfl fun a E=>pf E rfl rfl fun a E=>wn<|c_if E rfl (fun h=>by cases h) (fun _=>?_)
    refine wp_skip<|qaa<|sg<|lv E ok (qan (cs:=[vb o35.Neg,vs o35.Whole,vs o35.Frac]) qbv rfl rfl (qae.own 0 rfl rfl)) fun a E=>qad E ok 1 rfl rfl rfl qbS rfl rfl ⟨rfl,rfl,rfl,trivial⟩ rfl rfl fun w ok=>av E rfl fun a E=>wn<|wp_ret ?_
    exact fin hF ⟨m0,[vb o35.Neg,vs o35.Whole,vs o35.Frac],le_m0,ok.drop.drop,E.d,⟨rv_c (cs:=[vb o35.Neg,vs o35.Whole,vs o35.Frac]) E ok rfl qbv rfl (qae.own 1 rfl rfl),rv_t E rfl,trivial⟩,⟨rfl,l44,l45⟩⟩
   have hF:=qbo c65 hF
   have E:=E.upd 87 c65 rfl
   refine fk E ok qcH qao rfl 0 rfl rfl fun a E=>fk E ok qdf qao rfl 0 rfl rfl fun a E=>bd hF fun s66 e67 hF=>lw E (qaE rfl rfl e67) fun a E=>bd hF fun r68 e69 hF=>lc E qkk rfl (qeu N s66 (qaV e67) e69 hG ok) fun w ok a E=>pt E rfl rfl fun a E=>pf E rfl rfl fun a E=>wn<|cf E rfl hF (fun c70 hF=>?_) fun c70 hF=>?_
   ·refine sg<|lw E (qau (ps:=[]) (qs:=[]) (cs:=[vb false,(vs ([])),(vs ([]))]) qb7 qbW rfl trivial rfl) fun a E=>qad E ok 1 rfl rfl rfl qbS rfl rfl ⟨rfl,rfl,rfl,trivial⟩ rfl rfl fun w ok=>aw E rfl fun a E=>wp_ret<|qam ?_
    exact fin hF ⟨m0,[vb false,(vs ([])),(vs ([]))],le_m0,ok.drop.drop,E.d,⟨rv_c (cs:=[vb false,(vs ([])),(vs ([]))]) E ok rfl qbv rfl (qae.own 1 rfl rfl),rv_t E rfl,trivial⟩,⟨rfl,(Nat.zero_le _),(Nat.zero_le _)⟩⟩
   refine wp_skip<|qaa<|sg<|lv E ok (qan (cs:=[vb o35.Neg,vs o35.Whole,vs o35.Frac]) qbv rfl rfl (qae.own 0 rfl rfl)) fun a E=>qad E ok 1 rfl rfl rfl qbS rfl rfl ⟨rfl,rfl,rfl,trivial⟩ rfl rfl fun w ok=>av E rfl fun a E=>wn<|wp_ret ?_
   exact fin hF ⟨m0,[vb o35.Neg,vs o35.Whole,vs o35.Frac],le_m0,ok.drop.drop,E.d,⟨rv_c (cs:=[vb o35.Neg,vs o35.Whole,vs o35.Frac]) E ok rfl qbv rfl (qae.own 1 rfl rfl),rv_t E rfl,trivial⟩,⟨rfl,l44,l45⟩⟩
 refine fk E ok qcH qao rfl 0 rfl rfl fun a E=>bd hF fun c54 e55 hF=>lv E ok (qaD Tryz.underlying9 rfl rfl e55) fun a E=>lw E (qap rfl rfl) fun a E=>pt E rfl rfl fun a E=>pf E rfl rfl fun a E=>mv E rfl fun a E=>bu E 78 hF (fun c56 hF E=>?_) fun c56 hF E=>?_
 ·refine lsz E fun a E=>pt E rfl rfl fun a E=>mv E rfl fun a E=>lsz E fun a E=>lsz E fun a E=>lsq E fun a E=>?_
  refine pt E rfl rfl fun a E=>wn<|c_if E rfl (fun _=>?_) (fun h=>by cases h)
  refine sg<|lw E (qau (ps:=[]) (qs:=[]) (cs:=[vb false,(vs ([])),(vs ([]))]) qb7 qbW rfl trivial rfl) fun a E=>qad E ok 1 rfl rfl rfl qbS rfl rfl ⟨rfl,rfl,rfl,trivial⟩ rfl rfl fun w ok=>aw E rfl fun a E=>wp_ret<|qam ?_
  exact fin hF ⟨m0,[vb false,(vs ([])),(vs ([]))],le_m0,ok.drop.drop,E.d,⟨rv_c (cs:=[vb false,(vs ([])),(vs ([]))]) E ok rfl qbv rfl (qae.own 1 rfl rfl),rv_t E rfl,trivial⟩,⟨rfl,(Nat.zero_le _),(Nat.zero_le _)⟩⟩
 refine fk E ok qdf qao rfl 0 rfl rfl fun a E=>lw E (qaJ Tryz.underlying9 rfl) fun a E=>lw E (qbD rfl rfl) fun a E=>pf E rfl rfl fun a E=>mv E rfl fun a E=>bu E 84 hF (fun c57 hF E=>?_) fun c57 hF E=>?_
 ·refine lsz E fun a E=>lsz E fun a E=>lsq E fun a E=>pt E rfl rfl fun a E=>wn<|c_if E rfl (fun _=>?_) (fun h=>by cases h)
  refine sg<|lw E (qau (ps:=[]) (qs:=[]) (cs:=[vb false,(vs ([])),(vs ([]))]) qb7 qbW rfl trivial rfl) fun a E=>qad E ok 1 rfl rfl rfl qbS rfl rfl ⟨rfl,rfl,rfl,trivial⟩ rfl rfl fun w ok=>aw E rfl fun a E=>wp_ret<|qam ?_
  exact fin hF ⟨m0,[vb false,(vs ([])),(vs ([]))],le_m0,ok.drop.drop,E.d,⟨rv_c (cs:=[vb false,(vs ([])),(vs ([]))]) E ok rfl qbv rfl (qae.own 1 rfl rfl),rv_t E rfl,trivial⟩,⟨rfl,(Nat.zero_le _),(Nat.zero_le _)⟩⟩
 refine fk E ok qhu qlx rfl 0 rfl rfl fun a E=>mv E rfl fun a E=>qbr o35.Neg (fun c58=>?_) (fun c58=>?_)
 rotate_left
 ·have hF:=qbn c58 hF
  have E:=E.upd 87 c58 rfl
  refine lsz E fun a E=>lsq E fun a E=>pf E rfl rfl fun a E=>pf E rfl rfl fun a E=>wn<|c_if E rfl (fun h=>by cases h) (fun _=>?_)
  refine wp_skip<|qaa<|sg<|lv E ok (qan (cs:=[vb o35.Neg,vs o35.Whole,vs o35.Frac]) qbv rfl rfl (qae.own 0 rfl rfl)) fun a E=>qad E ok 1 rfl rfl rfl qbS rfl rfl ⟨rfl,rfl,rfl,trivial⟩ rfl rfl fun w ok=>av E rfl fun a E=>wn<|wp_ret ?_
  exact fin hF ⟨m0,[vb o35.Neg,vs o35.Whole,vs o35.Frac],le_m0,ok.drop.drop,E.d,⟨rv_c (cs:=[vb o35.Neg,vs o35.Whole,vs o35.Frac]) E ok rfl qbv rfl (qae.own 1 rfl rfl),rv_t E rfl,trivial⟩,⟨rfl,l44,l45⟩⟩
 have hF:=qbo c58 hF
 have E:=E.upd 87 c58 rfl
 refine fk E ok qcH qao rfl 0 rfl rfl fun a E=>fk E ok qdf qao rfl 0 rfl rfl fun a E=>bd hF fun s59 e60 hF=>lw E (qaE rfl rfl e60) fun a E=>bd hF fun r61 e62 hF=>lc E qkk rfl (qeu N s59 (qaV e60) e62 hG ok) fun w ok a E=>pt E rfl rfl fun a E=>pf E rfl rfl fun a E=>wn<|cf E rfl hF (fun c63 hF=>?_) fun c63 hF=>?_
 ·refine sg<|lw E (qau (ps:=[]) (qs:=[]) (cs:=[vb false,(vs ([])),(vs ([]))]) qb7 qbW rfl trivial rfl) fun a E=>qad E ok 1 rfl rfl rfl qbS rfl rfl ⟨rfl,rfl,rfl,trivial⟩ rfl rfl fun w ok=>aw E rfl fun a E=>wp_ret<|qam ?_
  exact fin hF ⟨m0,[vb false,(vs ([])),(vs ([]))],le_m0,ok.drop.drop,E.d,⟨rv_c (cs:=[vb false,(vs ([])),(vs ([]))]) E ok rfl qbv rfl (qae.own 1 rfl rfl),rv_t E rfl,trivial⟩,⟨rfl,(Nat.zero_le _),(Nat.zero_le _)⟩⟩
 refine wp_skip<|qaa<|sg<|lv E ok (qan (cs:=[vb o35.Neg,vs o35.Whole,vs o35.Frac]) qbv rfl rfl (qae.own 0 rfl rfl)) fun a E=>qad E ok 1 rfl rfl rfl qbS rfl rfl ⟨rfl,rfl,rfl,trivial⟩ rfl rfl fun w ok=>av E rfl fun a E=>wn<|wp_ret ?_
 exact fin hF ⟨m0,[vb o35.Neg,vs o35.Whole,vs o35.Frac],le_m0,ok.drop.drop,E.d,⟨rv_c (cs:=[vb o35.Neg,vs o35.Whole,vs o35.Frac]) E ok rfl qbv rfl (qae.own 1 rfl rfl),rv_t E rfl,trivial⟩,⟨rfl,l44,l45⟩⟩
def qje (u:World) (m0:Mem) (S:Segs) (r:Bool) (a:Act) (w:World):Prop :=
 Ok u m0 S w ∧ a.defers = [] ∧ RVs Tryz.prog a w [.t 2 (.bool r)]
theorem qi2 (N:Nat) (s_0:List UInt8) (ls_0:s_0.length ≤ LIMS) {r:Bool} (hF:qfL N s_0 = some r) (hG:Glob u) (ok:Ok u m0 S w) :
  Calls Tryz.prog 78 [vs s_0].toArray w fun e w'=>(e = .returned (.bool r) ∧ Ok u m0 S w'):=by
 have hb0:=ok.base
 have le_m0:=Mem.le.refl m0
 unfold qfL at hF
 refine en (qje u m0 S) r Tryz.func78 rfl rfl rfl (fun _ _ h=>ra h rfl) fun fin a E=>sg<|aw E rfl fun a E=>sg<|mv E rfl fun a E=>bd hF fun r1 e2 hF=>qaf E qpi rfl (qjb N s_0 ls_0 e2 hG ok) rfl rfl ?_
 rintro _ w ⟨m3,vs4,rfl,hle,ok,h5⟩
 have le_m0:=le_m0.trans hle
 obtain ⟨rfl,l6,l7⟩:=h5
 refine ⟨_,rfl,fun a E=>?_⟩
 refine mv E rfl fun a E=>lw E (qa7 rfl rfl) fun a E=>lw E (qa7 rfl rfl) fun a E=>qa3 E ok qb7 rfl rfl fun b8 a w E ok=>qad E ok 0 rfl rfl rfl qbS rfl rfl ⟨rfl,rfl,rfl,trivial⟩ rfl rfl fun w ok=>aw E rfl fun a E=>sg<|mv E rfl fun a E=>aw E rfl fun a E=>wp_ret ?_
 exact fin hF ⟨(ok.drop).down hb0 le_m0,E.d,rz E rfl⟩
def qjS (u:World) (m0:Mem) (S:Segs) (r:Bool) (a:Act) (w:World):Prop :=
 Ok u m0 S w ∧ a.defers = [] ∧ RVs Tryz.prog a w [.t 4 (.bool r)]
theorem qdj (N:Nat) (kind_0:Int) (rkind_0:InR .i64 kind_0) (s_1:List UInt8) (ls_1:s_1.length ≤ LIMS) {r:Bool} (hF:qcI N kind_0 s_1 = some r) (hG:Glob u) (ok:Ok u m0 S w) :
  Calls Tryz.prog 60 [vi kind_0,vs s_1].toArray w fun e w'=>(e = .returned (.bool r) ∧ Ok u m0 S w'):=by
 unfold qcI at hF
 refine en (qjS u m0 S) r Tryz.func60 rfl rfl rfl (fun _ _ h=>ra h rfl) fun fin a E=>sg<|aw E rfl fun a E=>wp_seq<|sg<|mv E rfl fun a E=>lw E (qap rfl rfl) fun a E=>wn<|cf E rfl hF (fun c1 hF=>?_) fun c1 hF=>?_
 ·refine sg<|mv E rfl fun a E=>bd hF fun r2 e3 hF=>lc E qe3 rfl (qbe N s_1 ls_1 e3 hG ok) fun w ok a E=>aw E rfl fun a E=>wp_ret<|qam ?_
  exact fin hF ⟨ok,E.d,rz E rfl⟩
 refine wp_skip<|qaa<|sg<|mv E rfl fun a E=>bd hF fun r4 e5 hF=>lc E qqa rfl (qi7 N s_1 ls_1 e5 hG ok) fun w ok a E=>mv E rfl fun a E=>qbr r4 (fun c6=>?_) (fun c6=>?_)
 ·have hF:=qbo c6 hF
  have E:=E.upd 11 c6 rfl
  refine lsz E fun a E=>lsz E fun a E=>lsz E fun a E=>ls E fun a E=>pt E rfl rfl fun a E=>av E rfl fun a E=>wn<|wp_ret ?_
  exact fin hF ⟨ok,E.d,rz E rfl⟩
 have hF:=qbn c6 hF
 have E:=E.upd 11 c6 rfl
 refine mv E rfl fun a E=>lw E (qaJ Tryz.underlying9 rfl) fun a E=>lw E (qbD rfl rfl) fun a E=>mv E rfl fun a E=>bw E 15 hF (fun c7 hF E=>?_) fun c7 hF E=>?_
 ·refine lsq E fun a E=>ls E fun a E=>pf E rfl rfl fun a E=>mv E rfl fun a E=>lsq E fun a E=>ls E fun a E=>pf E rfl rfl fun a E=>pf E rfl rfl fun a E=>aw E rfl fun a E=>wp_ret ?_
  exact fin hF ⟨ok,E.d,rz E rfl⟩
 refine mv E rfl fun a E=>bd hF fun c8 e9 hF=>lv E ok (qaD Tryz.underlying9 rfl rfl e9) fun a E=>lw E (qap rfl rfl) fun a E=>pt E rfl rfl fun a E=>mv E rfl fun a E=>bw E 20 hF (fun c10 hF E=>?_) fun c10 hF E=>?_
 ·refine lsq E fun a E=>ls E fun a E=>pf E rfl rfl fun a E=>pf E rfl rfl fun a E=>aw E rfl fun a E=>wp_ret ?_
  exact fin hF ⟨ok,E.d,rz E rfl⟩
 refine mv E rfl fun a E=>bd hF fun s11 e12 hF=>lw E (qcd Tryz.underlying9 e12 rfl ⟨_,rfl⟩ rfl) fun a E=>bd hF fun r13 e14 hF=>lc E qqc rfl (qi2 N s11 (Nat.le_trans (qcc e12) ls_1) e14 hG ok) fun w ok a E=>pt E rfl rfl fun a E=>pf E rfl rfl fun a E=>aw E rfl fun a E=>wp_ret ?_
 exact fin hF ⟨ok,E.d,rz E rfl⟩
def qfX (u:World) (m0:Mem) (S:Segs) (r:Bool) (a:Act) (w:World):Prop :=
 Ok u m0 S w ∧ a.defers = [] ∧ RVs Tryz.prog a w [.t 2 (.bool r)]
theorem qdE (N:Nat) (s_0:List UInt8) (ls_0:s_0.length ≤ LIMS) {r:Bool} (hF:qcE N s_0 = some r) (hG:Glob u) (ok:Ok u m0 S w) :
  Calls Tryz.prog 79 [vs s_0].toArray w fun e w'=>(e = .returned (.bool r) ∧ Ok u m0 S w'):=by
 unfold qcE at hF
 refine en (qfX u m0 S) r Tryz.func79 rfl rfl rfl (fun _ _ h=>ra h rfl) fun fin a E=>sg<|aw E rfl fun a E=>wp_seq<|sg<|aw E rfl fun a E=>wp_block<|bd hF fun o2 hL hF=>qa6 _ (fun (s:Int) a w=>Ok u m0 (S) w ∧ Env 37 a [(0,vs s_0),(3,vi s)] ∧ InR .i64 s) (fun (b:(Unit ⊕ Bool)) e a w=>(Sum.elim (fun b16=>e = (.exit 0) ∧ Ok u m0 (S) w ∧ Env 37 a [(0,vs s_0)]) (fun b17=>e = .ret ∧ qfX u m0 S b17 a w)) b) ?_ ?_ N _ a w hL ⟨ok,E.keep [0,3],(ir 0)⟩
 rotate_left
 ·intro e a w _ hO
  rcases o2 with o2 | o2
  rotate_left
  ·obtain ⟨rfl,hret⟩:=hO
   refine qaL<|qam ?_
   exact fin hF hret
  have hF:=qb4 hF
  obtain ⟨rfl,ok,E⟩:=hO
  refine qbf<|qaa<|sg<|mv E rfl fun a E=>lw E (qaJ Tryz.underlying9 rfl) fun a E=>lw E (qbK rfl rfl) fun a E=>mv E rfl fun a E=>bu E 32 hF (fun c15 hF E=>?_) fun c15 hF E=>?_
  ·refine mv E rfl fun a E=>lw E (qaJ Tryz.underlying9 rfl) fun a E=>lw E (qcC rfl rfl) fun a E=>pt E rfl rfl fun a E=>aw E rfl fun a E=>wp_ret ?_
   exact fin hF ⟨ok,E.d,rz E rfl⟩
  refine lsq E fun a E=>ls E fun a E=>pf E rfl rfl fun a E=>aw E rfl fun a E=>wp_ret ?_
  exact fin hF ⟨ok,E.d,rz E rfl⟩
 rintro v4 a w r ⟨ok,E,r5⟩ hF
 replace hF:qen N s_0 v4 = some r:=hF
 unfold qen at hF
 refine wp_seq<|sg<|mz E rfl rfl fun a E=>lw E (qaJ Tryz.underlying9 rfl) fun a E=>lw E (qaS rfl rfl) fun a E=>wn<|cg E rfl hF (fun c6 hF=>?_) fun c6 hF=>?_
 ·refine wp_exit<|qaX ?_
  cases hF
  exact so (sl ⟨rfl,⟨ok,E.keep [0]⟩⟩)
 refine wp_skip<|qaa<|wp_seq<|wp_block<|sg<|mz E rfl rfl fun a E=>bd hF fun c7 e8 hF=>lv E ok (qaD Tryz.underlying9 rfl rfl e8) fun a E=>aw E rfl fun a E=>wp_seq<|bd hF fun o9 hJ hF=>qaK (Q':=fun e a w=>e = .normal ∧ Ok u m0 (S) w ∧ Env 37 a [(0,vs s_0),(3,vi v4),(28,vb o9)]) ?_ ?_
 rotate_left
 ·intro e a w hO
  obtain ⟨rfl,ok,E⟩:=hO
  refine qaa<|cg E rfl hF (fun c14 hF=>?_) fun c14 hF=>?_
  ·refine wp_skip<|qag<|qaa<|qab<|mv E rfl fun a E=>lw E (qaC rfl rfl (InR.inc r5 (InR.len ls_0) c6)) fun a E=>av E rfl fun a E=>wpList_nil ?_
   cases hF
   exact qat ⟨ok,E.keep [0,3],(InR.inc r5 (InR.len ls_0) c6)⟩
  refine sg<|aw E rfl fun a E=>wp_ret<|qaL<|qam ?_
  cases hF
  exact so (sr ⟨rfl,⟨ok,E.d,rz E rfl⟩⟩)
 have hF:=hJ
 refine qab<|mv E rfl fun a E=>lw E (qbK rfl rfl) fun a E=>mv E rfl fun a E=>bw E 16 hF (fun c10 hF E=>?_) fun c10 hF E=>?_
 ·refine lsq E fun a E=>pf E rfl rfl fun a E=>mz E rfl rfl fun a E=>lw E (qbK rfl rfl) fun a E=>mv E rfl fun a E=>bu E 23 hF (fun c13 hF E=>?_) fun c13 hF E=>?_
  ·refine mv E rfl fun a E=>lw E (qcC rfl rfl) fun a E=>pt E rfl rfl fun a E=>pf E rfl rfl fun a E=>lw E (qbh rfl) fun a E=>wpList_nil ?_
   cases hF
   exact ⟨rfl,⟨ok,E.keep [0,3,28]⟩⟩
  refine lsq E fun a E=>pf E rfl rfl fun a E=>pf E rfl rfl fun a E=>lw E (qbh rfl) fun a E=>wpList_nil ?_
  cases hF
  exact ⟨rfl,⟨ok,E.keep [0,3,28]⟩⟩
 refine mv E rfl fun a E=>lw E (qcC rfl rfl) fun a E=>pt E rfl rfl fun a E=>mv E rfl fun a E=>bu E 20 hF (fun c11 hF E=>?_) fun c11 hF E=>?_
 ·refine lsz E fun a E=>lsq E fun a E=>pt E rfl rfl fun a E=>lw E (qbh rfl) fun a E=>wpList_nil ?_
  cases hF
  exact ⟨rfl,⟨ok,E.keep [0,3,28]⟩⟩
 refine mv E rfl fun a E=>lw E (qbK rfl rfl) fun a E=>mv E rfl fun a E=>bu E 23 hF (fun c12 hF E=>?_) fun c12 hF E=>?_
 ·refine mv E rfl fun a E=>lw E (qcC rfl rfl) fun a E=>pt E rfl rfl fun a E=>pf E rfl rfl fun a E=>lw E (qbh rfl) fun a E=>wpList_nil ?_
  cases hF
  exact ⟨rfl,⟨ok,E.keep [0,3,28]⟩⟩
 refine lsq E fun a E=>pf E rfl rfl fun a E=>pf E rfl rfl fun a E=>lw E (qbh rfl) fun a E=>wpList_nil ?_
 cases hF
 exact ⟨rfl,⟨ok,E.keep [0,3,28]⟩⟩
end Go.Proofs.YtllnjbnknjpbjaaGreatDoor
namespace Go.Proofs.YtllnjbnknjpbjaaGreatDoor
open Go.X
variable {u:World} {m0:Mem} {S:Segs} {w:World}
set_option maxHeartbeats 4000000
set_option maxRecDepth 100000
def qir (u:World) (m0:Mem) (S:Segs) (r:Bool) (a:Act) (w:World):Prop :=
 Ok u m0 S w ∧ a.defers = [] ∧ RVs Tryz.prog a w [.t 2 (.bool r)]
theorem qbL (N:Nat) (c_0:Int) (rc_0:InR .u8 c_0) {r:Bool} (hF:qbF N c_0 = some r) (hG:Glob u) (ok:Ok u m0 S w) :
  Calls Tryz.prog 80 [Value.int .u8 c_0].toArray w fun e w'=>(e = .returned (.bool r) ∧ Ok u m0 S w'):=by
 unfold qbF at hF
 refine en (qir u m0 S) r Tryz.func80 rfl rfl rfl (fun _ _ h=>ra h rfl) fun fin a E=>sg<|aw E rfl fun a E=>sg<|mv E rfl fun a E=>lw E (qap rfl rfl) fun a E=>mv E rfl fun a E=>bu E 5 hF (fun c1 hF E=>?_) fun c1 hF E=>?_
 ·refine lsq E fun a E=>pt E rfl rfl fun a E=>mv E rfl fun a E=>lsq E fun a E=>pt E rfl rfl fun a E=>mv E rfl fun a E=>lsq E fun a E=>pt E rfl rfl fun a E=>mv E rfl fun a E=>lsq E fun a E=>pt E rfl rfl fun a E=>mv E rfl fun a E=>?_
  refine lsq E fun a E=>pt E rfl rfl fun a E=>aw E rfl fun a E=>wp_ret ?_
  exact fin hF ⟨ok,E.d,rz E rfl⟩
 refine mv E rfl fun a E=>lw E (qap rfl rfl) fun a E=>pf E rfl rfl fun a E=>mv E rfl fun a E=>bu E 9 hF (fun c2 hF E=>?_) fun c2 hF E=>?_
 ·refine lsq E fun a E=>pt E rfl rfl fun a E=>mv E rfl fun a E=>lsq E fun a E=>pt E rfl rfl fun a E=>mv E rfl fun a E=>lsq E fun a E=>pt E rfl rfl fun a E=>mv E rfl fun a E=>lsq E fun a E=>pt E rfl rfl fun a E=>av E rfl fun a E=>?_
  refine wn<|wp_ret ?_
  exact fin hF ⟨ok,E.d,rz E rfl⟩
 refine mv E rfl fun a E=>lw E (qap rfl rfl) fun a E=>pf E rfl rfl fun a E=>mv E rfl fun a E=>bu E 13 hF (fun c3 hF E=>?_) fun c3 hF E=>?_
 ·refine lsq E fun a E=>pt E rfl rfl fun a E=>mv E rfl fun a E=>lsq E fun a E=>pt E rfl rfl fun a E=>mv E rfl fun a E=>lsq E fun a E=>pt E rfl rfl fun a E=>aw E rfl fun a E=>wp_ret ?_
  exact fin hF ⟨ok,E.d,rz E rfl⟩
 refine mv E rfl fun a E=>lw E (qap rfl rfl) fun a E=>pf E rfl rfl fun a E=>mv E rfl fun a E=>bu E 17 hF (fun c4 hF E=>?_) fun c4 hF E=>?_
 ·refine lsq E fun a E=>pt E rfl rfl fun a E=>mv E rfl fun a E=>lsq E fun a E=>pt E rfl rfl fun a E=>av E rfl fun a E=>wn<|wp_ret ?_
  exact fin hF ⟨ok,E.d,rz E rfl⟩
 refine mv E rfl fun a E=>lw E (qap rfl rfl) fun a E=>pf E rfl rfl fun a E=>mv E rfl fun a E=>bu E 21 hF (fun c5 hF E=>?_) fun c5 hF E=>?_
 ·refine lsq E fun a E=>pt E rfl rfl fun a E=>aw E rfl fun a E=>wp_ret ?_
  exact fin hF ⟨ok,E.d,rz E rfl⟩
 refine mv E rfl fun a E=>lw E (qap rfl rfl) fun a E=>pf E rfl rfl fun a E=>aw E rfl fun a E=>wp_ret ?_
 exact fin hF ⟨ok,E.d,rz E rfl⟩
def qiE (u:World) (m0:Mem) (S:Segs) (r:(List UInt8)) (a:Act) (w:World):Prop :=
 Ok u m0 S w ∧ a.defers = [] ∧ RVs Tryz.prog a w [.t 2 (.string (bs r))] ∧ r.length ≤ LIMS
theorem qiQ (N:Nat) (s_0:List UInt8) (ls_0:s_0.length ≤ LIMS) {r:(List UInt8)} (hF:qfq N s_0 = some r) (hG:Glob u) (ok:Ok u m0 S w) :
  Calls Tryz.prog 62 [vs s_0].toArray w fun e w'=>(e = .returned (.string (bs r)) ∧ Ok u m0 S w') ∧ r.length ≤ LIMS:=by
 unfold qfq at hF
 refine en (qiE u m0 S) r Tryz.func62 rfl rfl rfl (fun _ _ h=>rb h rfl) fun fin a E=>sg<|aw E rfl fun a E=>sg<|aw E rfl fun a E=>wp_seq<|sg<|av E rfl fun a E=>wn<|wp_block ?_
 obtain ⟨M6,ok,h7⟩:=qee (e:=5) (k:=1) (R:=(pI .u8)) ok
 refine bd hF fun o8 hL hF=>qa6 _ (fun (s:(List (Int)) × Int) a w=>∃ c9 M10,Ok u m0 (M10 :: S) w ∧ Env 26 a [(0,vs s_0),(3,c9),(4,vi s.2)] ∧ ORow 5 1 (pI .u8) m0 c9 s.1 M10 ∧ InR .i64 s.2) (fun (b:((List (Int)))) e a w=>e = (.exit 0) ∧ ∃ c53 M54,Ok u m0 (M54 :: S) w ∧ Env 26 a [(3,c53)] ∧ ORow 5 1 (pI .u8) m0 c53 b M54) ?_ ?_ N _ a w hL ⟨(Value.slice none 0 0),M6,ok,E.keep [0,3,4],h7,(ir 0)⟩
 rotate_left
 ·intro e a w _ hO
  obtain ⟨rfl,c50,M51,ok,E,h52⟩:=hO
  refine qbf<|qaa<|sg<|mv E rfl fun a E=>lv E ok (qgV Tryz.underlying66 Tryz.underlying5 Tryz.underlying9 rfl (BR.ofRow h52 0 rfl)) fun a E=>av E rfl fun a E=>wn<|wp_ret ?_
  exact fin hF ⟨ok.drop,E.d,rz E rfl,(Nat.le_trans (Nat.le_of_eq qdH) h52.form.2)⟩
 rintro ⟨v13,v14⟩ a w r ⟨c15,M16,ok,E,h17,r18⟩ hF
 replace hF:qeJ N s_0 v13 v14 = some r:=hF
 unfold qeJ at hF
 refine wp_seq<|sg<|mz E rfl rfl fun a E=>lw E (qaJ Tryz.underlying9 rfl) fun a E=>lw E (qaS rfl rfl) fun a E=>wn<|cg E rfl hF (fun c19 hF=>?_) fun c19 hF=>?_
 ·refine wp_exit<|qaX ?_
  cases hF
  exact so (⟨rfl,⟨c15,M16,ok,E.keep [3],h17⟩⟩)
 refine wp_skip<|qaa<|wp_seq<|wp_block<|wp_seq<|sg<|mv E rfl fun a E=>mv E rfl fun a E=>bd hF fun c20 e21 hF=>lv E ok (qaD Tryz.underlying9 rfl rfl e21) fun a E=>bd hF fun r22 e23 hF=>lc E qhh rfl (qbL N (c20.toNat:Int) (InR.byte c20) e23 hG ok) fun w ok a E=>wn<|bd hF fun o24 hJ hF=>qaK (Q':=fun e a w=>e = .normal ∧ ∃ c25 M26,Ok u m0 (M26 :: S) w ∧ Env 26 a [(0,vs s_0),(3,c25),(4,vi v14)] ∧ ORow 5 1 (pI .u8) m0 c25 o24 M26) ?_ ?_
 ·have hF:=hJ
  refine cg E rfl hF (fun c28 hF=>?_) fun c28 hF=>?_
  ·refine wp_skip ?_
   cases hF
   exact ⟨rfl,⟨c15,M16,ok,E.keep [0,3,4],h17⟩⟩
  refine qab<|mv E rfl fun a E=>qbt (R:=(pI .u8)) (xo:=[.const (Value.int .u8 92)]) (xs:=([92]:List (Int))) E ok qex qdN rfl ⟨⟨_,rfl,rfl,(qdr (show InR .u8 (92) by decide))⟩,trivial⟩ rfl rfl rfl rfl fun c29 M30 a w E ok h31=>bd hF fun l32 e33 hF=>qcn (R:=(pI .u8)) E ok 1 (mI .u8) qex Tryz.underlying66 rfl h17 (qbz.ofRow h31 0 rfl ok) e33 ⟨_,qdN,rfl⟩ rfl rfl rfl rfl fun c34 M35 a w E ok h36=>av E rfl fun a E=>wpList_nil ?_
  cases hF
  exact ⟨rfl,⟨c34,M35,(ok.pk 2 [1] rfl (by decide)),E.keep [0,3,4],h36⟩⟩
 intro e a w hO
 obtain ⟨rfl,c37,M38,ok,E,h39⟩:=hO
 refine qaa<|qab<|mz E rfl rfl fun a E=>mv E rfl fun a E=>bd hF fun c40 e41 hF=>lv E ok (qaD Tryz.underlying9 rfl rfl e41) fun a E=>qbt (R:=(pI .u8)) (xo:=[.tmp 21]) (xs:=([(c40.toNat:Int)]:List (Int))) E ok qex qdN rfl ⟨⟨_,rfl,rfl,(qdr (InR.byte c40))⟩,trivial⟩ rfl rfl rfl rfl fun c42 M43 a w E ok h44=>bd hF fun l45 e46 hF=>qcn (R:=(pI .u8)) E ok 1 (mI .u8) qex Tryz.underlying66 rfl h39 (qbz.ofRow h44 0 rfl ok) e46 ⟨_,qdN,rfl⟩ rfl rfl rfl rfl fun c47 M48 a w E ok h49=>av E rfl fun a E=>wpList_nil<|qag<|qaa<|qab<|mv E rfl fun a E=>lw E (qaC rfl rfl (InR.inc r18 (InR.len ls_0) c19)) fun a E=>av E rfl fun a E=>wpList_nil ?_
 cases hF
 exact qat ⟨c47,M48,(ok.pk 2 [1] rfl (by decide)),E.keep [0,3,4],h49,(InR.inc r18 (InR.len ls_0) c19)⟩
end Go.Proofs.YtllnjbnknjpbjaaGreatDoor
namespace Go.Proofs.YtllnjbnknjpbjaaGreatDoor
open Go.X
variable {u:World} {m0:Mem} {S:Segs} {w:World}
set_option maxHeartbeats 4000000
set_option maxRecDepth 100000
def qjk (u:World) (m0:Mem) (S:Segs) (r:(List UInt8)) (a:Act) (w:World):Prop :=
 Ok u m0 S w ∧ a.defers = [] ∧ RVs Tryz.prog a w [.t 4 (.string (bs r))] ∧ r.length ≤ LIMS
def qes (N:Nat):Prop:=∀ {u:World} {m0:Mem} {S:Segs} {w:World} (vparts_0:Value) (parts_0:List (Part)) (hparts_0:(pL 6 qbg) m0 [vparts_0] parts_0) (gap_1:List UInt8) (lgap_1:gap_1.length ≤ LIMS) {r:(List UInt8)} (hF:qcz N parts_0 gap_1 = some r) (hG:Glob u) (ok:Ok u m0 S w),Calls Tryz.prog 47 [vparts_0,vs gap_1].toArray w fun e w'=>(e = .returned (.string (bs r)) ∧ Ok u m0 S w') ∧ r.length ≤ LIMS
theorem qie (N:Nat) (ih_calqueref26_Text:qes N):qes (N + 1):=by
 intro u m0 S w vparts_0 parts_0 hparts_0 gap_1 lgap_1 r hF hG ok
 have hF0:qeN (qcz N) N parts_0 gap_1 = some r:=hF
 have hF:=hF0
 clear hF0
 unfold qeN at hF
 refine en (qjk u m0 S) r Tryz.func47 rfl rfl rfl (fun _ _ h=>rb h rfl) fun fin a E=>sg<|aw E rfl fun a E=>sg<|aw E rfl fun a E=>sg<|qbt (R:=pS) (xo:=[.const (vs ([110,117,109,98,101,114])),.const (vs ([117,110,105,116])),.const (vs ([100,97,116,101])),.const (vs ([108,105,115,116])),.const (vs ([112,108,117,114,97,108])),.const (vs ([111,114,100,105,110,97,108])),.const (vs ([115,101,108,101,99,116]))]) (xs:=([[110,117,109,98,101,114],[117,110,105,116],[100,97,116,101],[108,105,115,116],[112,108,117,114,97,108],[111,114,100,105,110,97,108],[115,101,108,101,99,116]]:List (List UInt8))) E ok qbx qdK rfl ⟨⟨_,rfl,rfl,(qbM (show ([110,117,109,98,101,114]:List UInt8).length ≤ LIMS by decide))⟩,⟨_,rfl,rfl,(qbM (show ([117,110,105,116]:List UInt8).length ≤ LIMS by decide))⟩,⟨_,rfl,rfl,(qbM (show ([100,97,116,101]:List UInt8).length ≤ LIMS by decide))⟩,⟨_,rfl,rfl,(qbM (show ([108,105,115,116]:List UInt8).length ≤ LIMS by decide))⟩,⟨_,rfl,rfl,(qbM (show ([112,108,117,114,97,108]:List UInt8).length ≤ LIMS by decide))⟩,⟨_,rfl,rfl,(qbM (show ([111,114,100,105,110,97,108]:List UInt8).length ≤ LIMS by decide))⟩,⟨_,rfl,rfl,(qbM (show ([115,101,108,101,99,116]:List UInt8).length ≤ LIMS by decide))⟩,trivial⟩ rfl rfl rfl rfl fun c1 M2 a w E ok h3=>av E rfl fun a E=>wn<|wp_seq<|sg<|aw E rfl fun a E=>wp_block<|bd hF fun o6 hL hF=>qa6 _ (fun (s:(List UInt8) × Int) a w=>Ok u m0 (M2 :: S) w ∧ Env 154 a [(0,vparts_0),(1,vs gap_1),(5,vs s.1),(6,c1),(7,vi s.2)] ∧ s.1.length ≤ LIMS ∧ InR .i64 s.2) (fun (b:((List UInt8))) e a w=>e = (.exit 0) ∧ Ok u m0 (M2 :: S) w ∧ Env 154 a [(5,vs b)] ∧ b.length ≤ LIMS) ?_ ?_ N _ a w hL ⟨ok,E.keep [0,1,5,6,7],(show ([]:List UInt8).length ≤ LIMS by decide),(ir 0)⟩
 rotate_left
 ·intro e a w _ hO
  obtain ⟨rfl,ok,E,l287⟩:=hO
  refine qbf<|qaa<|sg<|mv E rfl fun a E=>aw E rfl fun a E=>wp_ret ?_
  exact fin hF ⟨ok.drop,E.d,rz E rfl,l287⟩
 rintro ⟨v9,v10⟩ a w r ⟨ok,E,l11,r12⟩ hF
 replace hF:qfc (qcz N) N parts_0 gap_1 v9 v10 = some r:=hF
 unfold qfc at hF
 refine wp_seq<|sg<|mz E rfl rfl fun a E=>lv E ok (qbb qb5 hparts_0 rfl) fun a E=>lw E (qaS rfl rfl) fun a E=>wn<|cg E rfl hF (fun c13 hF=>?_) fun c13 hF=>?_
 ·refine wp_exit<|qaX ?_
  cases hF
  exact so (⟨rfl,⟨ok,E.keep [5],l11⟩⟩)
 refine wp_skip<|qaa<|wp_seq<|wp_block<|sg<|mz E rfl rfl fun a E=>?_
 obtain ⟨x14,e15,hF⟩:=bnd hF
 obtain ⟨b16,o17,es18,hl19,rr20,at21,yy22⟩:=ia E 17 18 qb5 hparts_0 e15
 obtain ⟨c27,c29,rfl,r23,l24,l25,l26,h28,h30⟩:=(qbp.1 rr20)
 refine lv E ok (yy22 _ _) fun a E=>lv E ok (qan (cs:=[vi x14.Kind,vs x14.Text,vs x14.Name,vs x14.Style,c27,c29]) qdJ rfl rfl (qae.ro at21)) fun a E=>qa3 E ok qby rfl rfl fun b31 a w E ok=>qad E ok 0 rfl rfl rfl qfy rfl rfl ⟨rfl,rfl,rfl,rfl,(qc9 h28),(qc9 h30),trivial⟩ rfl rfl fun w ok=>wn<|wp_block<|sg<|fk E ok qaH qaq rfl 0 rfl rfl fun a E=>lw E (qap rfl rfl) fun a E=>aw E rfl fun a E=>cf E rfl hF (fun c32 hF=>?_) fun c32 hF=>?_
 ·refine qab<|mv E rfl fun a E=>fk E ok qep qao rfl 0 rfl rfl fun a E=>bd hF fun r33 e34 hF=>qaf E qpP rfl (qiQ N x14.Text l24 e34 hG ok) rfl rfl ?_
  rintro _ w ⟨⟨rfl,ok⟩,l35⟩
  refine ⟨_,rfl,fun a E=>?_⟩
  refine bd hF fun s36 e37 hF=>lw E (qaE rfl rfl e37) fun a E=>av E rfl fun a E=>wpList_nil<|qag<|qag<|qaa<|qab<|mv E rfl fun a E=>lw E (qaC rfl rfl (InR.inc r12 (qas hparts_0) c13)) fun a E=>av E rfl fun a E=>wpList_nil ?_
  cases hF
  exact qat ⟨(ok.pk 2 [1] rfl (by decide)),E.keep [0,1,5,6,7],(qaV e37),(InR.inc r12 (qas hparts_0) c13)⟩
 refine sg<|fk E ok qaH qaq rfl 0 rfl rfl fun a E=>lw E (qap rfl rfl) fun a E=>aw E rfl fun a E=>cf E rfl hF (fun c38 hF=>?_) fun c38 hF=>?_
 ·refine qab<|mv E rfl fun a E=>bd hF fun s39 e40 hF=>lw E (qaE rfl rfl e40) fun a E=>av E rfl fun a E=>wpList_nil<|qag<|qag<|qaa<|qab<|mv E rfl fun a E=>lw E (qaC rfl rfl (InR.inc r12 (qas hparts_0) c13)) fun a E=>av E rfl fun a E=>wpList_nil ?_
  cases hF
  exact qat ⟨(ok.pk 2 [1] rfl (by decide)),E.keep [0,1,5,6,7],(qaV e40),(InR.inc r12 (qas hparts_0) c13)⟩
 refine sg<|fk E ok qaH qaq rfl 0 rfl rfl fun a E=>lw E (qap rfl rfl) fun a E=>mv E rfl fun a E=>bw E 40 hF (fun c41 hF E=>?_) fun c41 hF E=>?_
 ·as_aux_lemma =>
   refine lsz E fun a E=>pf E rfl rfl fun a E=>aw E rfl fun a E=>c_if E rfl (fun h=>by cases h) (fun _=>?_)
   refine sg<|fk E ok qaH qaq rfl 0 rfl rfl fun a E=>lw E (qap rfl rfl) fun a E=>aw E rfl fun a E=>cf E rfl hF (fun c168 hF=>?_) fun c168 hF=>?_
   ·refine qcZ (by kernel_rfl) (by kernel_rfl) ok<|qv E (qah rfl) fun a E=>qv E (qai qa2 rfl) fun a E=>qv E (qaz qao rfl (qae.own 0 rfl rfl)) fun a E=>bd hF fun s169 e170 hF=>qv E (qaE rfl rfl e170) fun a E=>bd hF fun s171 e172 hF=>qv E (qaE rfl rfl e172) fun a E=>qv E (qai qcV rfl) fun a E=>qv E (qaz qcW rfl (qae.own 0 rfl rfl)) fun a E=>qv E (qah rfl) fun a E=>?_
    obtain ⟨r173,e174,hF⟩:=bnd hF
    obtain ⟨_,_,⟨_,_⟩,l175⟩:=Go.X.Calls.get (ih_calqueref26_Text _ x14.Parts h30 gap_1 lgap_1 e174 hG ok)
    refine qd1 E qjI rfl (fun w ok=>(ih_calqueref26_Text _ x14.Parts h30 gap_1 lgap_1 e174 hG ok).mono (fun _ _ h=>h.1)) rfl rfl fun a E=>bd hF fun s176 e177 hF=>qv E (qaE rfl rfl e177) fun a E=>bd hF fun s178 e179 hF=>qv E (qaE rfl rfl e179) fun a E=>qv E (qai qa2 rfl) fun a E=>qv E (qaz qao rfl (qae.own 0 rfl rfl)) fun a E=>bd hF fun s180 e181 hF=>qv E (qaE rfl rfl e181) fun a E=>bd hF fun s182 e183 hF=>qv E (qaE rfl rfl e183) fun a E=>bd hF fun s184 e185 hF=>qv E (qaE rfl rfl e185) fun a E=>qv E (qaI rfl) fun a E=>wpQuiet_nil ?_
    intro w ok
    refine qag<|qag<|qaa<|qab<|mv E rfl fun a E=>lw E (qaC rfl rfl (InR.inc r12 (qas hparts_0) c13)) fun a E=>av E rfl fun a E=>wpList_nil ?_
    cases hF
    exact qat ⟨(ok.pk 2 [1] rfl (by decide)),E.keep [0,1,5,6,7],(qaV e185),(InR.inc r12 (qas hparts_0) c13)⟩
   refine sg<|fk E ok qaH qaq rfl 0 rfl rfl fun a E=>lw E (qap rfl rfl) fun a E=>aw E rfl fun a E=>cf E rfl hF (fun c186 hF=>?_) fun c186 hF=>?_
   ·refine qab<|mv E rfl fun a E=>fk E ok qa2 qao rfl 0 rfl rfl fun a E=>bd hF fun s187 e188 hF=>lw E (qaE rfl rfl e188) fun a E=>bd hF fun s189 e190 hF=>lw E (qaE rfl rfl e190) fun a E=>bd hF fun s191 e192 hF=>lw E (qaE rfl rfl e192) fun a E=>av E rfl fun a E=>wpList_nil<|qag<|qag<|qaa<|qab<|mv E rfl fun a E=>?_
    refine lw E (qaC rfl rfl (InR.inc r12 (qas hparts_0) c13)) fun a E=>av E rfl fun a E=>wpList_nil ?_
    cases hF
    exact qat ⟨(ok.pk 2 [1] rfl (by decide)),E.keep [0,1,5,6,7],(qaV e192),(InR.inc r12 (qas hparts_0) c13)⟩
   refine sg<|fk E ok qaH qaq rfl 0 rfl rfl fun a E=>lw E (qbK rfl rfl) fun a E=>mv E rfl fun a E=>bw E 86 hF (fun c193 hF E=>?_) fun c193 hF E=>?_
   ·refine lsq E fun a E=>ls E fun a E=>pf E rfl rfl fun a E=>aw E rfl fun a E=>c_if E rfl (fun h=>by cases h) (fun _=>?_)
    refine wp_skip<|qag<|qag<|qaa<|qab<|mv E rfl fun a E=>lw E (qaC rfl rfl (InR.inc r12 (qas hparts_0) c13)) fun a E=>av E rfl fun a E=>wpList_nil ?_
    cases hF
    exact qat ⟨(ok.pk 2 [1] rfl (by decide)),E.keep [0,1,5,6,7],l11,(InR.inc r12 (qas hparts_0) c13)⟩
   refine fk E ok qaH qaq rfl 0 rfl rfl fun a E=>lw E (qcC rfl rfl) fun a E=>pt E rfl rfl fun a E=>aw E rfl fun a E=>cg E rfl hF (fun c194 hF=>?_) fun c194 hF=>?_
   ·refine wp_skip<|qag<|qag<|qaa<|qab<|mv E rfl fun a E=>lw E (qaC rfl rfl (InR.inc r12 (qas hparts_0) c13)) fun a E=>av E rfl fun a E=>wpList_nil ?_
    cases hF
    exact qat ⟨(ok.pk 2 [1] rfl (by decide)),E.keep [0,1,5,6,7],l11,(InR.inc r12 (qas hparts_0) c13)⟩
   refine wp_seq<|qcZ (by kernel_rfl) (by kernel_rfl) ok<|qv E (qah rfl) fun a E=>qv E (qai qa2 rfl) fun a E=>qv E (qaz qao rfl (qae.own 0 rfl rfl)) fun a E=>bd hF fun s195 e196 hF=>qv E (qaE rfl rfl e196) fun a E=>bd hF fun s197 e198 hF=>qv E (qaE rfl rfl e198) fun a E=>qv E (qah rfl) fun a E=>bd hF fun s199 e200 hF=>qv E (qaE rfl rfl e200) fun a E=>qv E (qah rfl) fun a E=>qv E (qai qaH rfl) fun a E=>qv E (qaz qaq rfl (qae.own 0 rfl rfl)) fun a E=>qv E (qcY rfl rfl) fun a E=>?_
   obtain ⟨x201,e202,hF⟩:=bnd hF
   obtain ⟨b203,o204,hp205,yy206⟩:=qe4 qbx h3 e202 (P:=Tryz.prog) (X:=.tmp 98) (I:=.tmp 101) (kd:=.i64) (qbQ E rfl) (qbQ E rfl)
   refine qv E (yy206 _ _) fun a E=>?_
   obtain ⟨es207,hl208,rr209,hh210⟩:=qf5 h3 e202 hp205 (by decide)
   obtain ⟨rfl,l211⟩:=rr209
   refine qv E (qaz qao rfl (hh210 _ _ _ 1 rfl)) fun a E=>bd hF fun s212 e213 hF=>qv E (qaE rfl rfl e213) fun a E=>bd hF fun s214 e215 hF=>qv E (qaE rfl rfl e215) fun a E=>qv E (qaI rfl) fun a E=>wpQuiet_nil ?_
   intro w ok
   refine qaa<|wp_seq<|sg<|fk E ok qbc qao rfl 0 rfl rfl fun a E=>lw E (qcP rfl rfl) fun a E=>wn<|bd hF fun o216 hJ hF=>qaK (Q':=fun e a w=>e = .normal ∧ Ok u m0 ([(b31,oc 82 [vi x14.Kind,vs x14.Text,vs x14.Name,vs x14.Style,c27,c29])] :: M2 :: S) w ∧ Env 154 a [(0,vparts_0),(1,vs gap_1),(5,vs o216),(6,c1),(7,vi v10),(8,vp b31)] ∧ o216.length ≤ LIMS) ?_ ?_
   ·have hF:=hJ
    refine cg E rfl hF (fun c218 hF=>?_) fun c218 hF=>?_
    ·refine wp_skip ?_
     cases hF
     exact ⟨rfl,⟨ok,E.keep [0,1,5,6,7,8],(qaV e215)⟩⟩
    refine qab<|mz E rfl rfl fun a E=>bd hF fun s219 e220 hF=>lw E (qaE rfl rfl e220) fun a E=>fk E ok qbc qao rfl 0 rfl rfl fun a E=>bd hF fun s221 e222 hF=>lw E (qaE rfl rfl e222) fun a E=>bd hF fun s223 e224 hF=>lw E (qaE rfl rfl e224) fun a E=>av E rfl fun a E=>wpList_nil ?_
    cases hF
    exact ⟨rfl,⟨ok,E.keep [0,1,5,6,7,8],(qaV e224)⟩⟩
   intro e a w hO
   obtain ⟨rfl,ok,E,l225⟩:=hO
   refine qaa<|wp_seq<|sg<|fk E ok qaH qaq rfl 0 rfl rfl fun a E=>bd hF fun r226 e227 hF=>lc E qmP rfl (qem N x14.Kind r23 e227 hG ok) fun w ok a E=>wn<|bd hF fun o228 hJ hF=>qaK (Q':=fun e a w=>e = .normal ∧ Ok u m0 ([(b31,oc 82 [vi x14.Kind,vs x14.Text,vs x14.Name,vs x14.Style,c27,c29])] :: M2 :: S) w ∧ Env 154 a [(0,vparts_0),(1,vs gap_1),(5,vs o228),(6,c1),(7,vi v10),(8,vp b31)] ∧ o228.length ≤ LIMS) ?_ ?_
   ·have hF:=hJ
    refine cg E rfl hF (fun c230 hF=>?_) fun c230 hF=>?_
    ·refine wp_skip ?_
     cases hF
     exact ⟨rfl,⟨ok,E.keep [0,1,5,6,7,8],l225⟩⟩
    refine qab<|mv E rfl fun a E=>bd hF fun s231 e232 hF=>lw E (qaE rfl rfl e232) fun a E=>av E rfl fun a E=>wpList_nil ?_
    cases hF
    exact ⟨rfl,⟨ok,E.keep [0,1,5,6,7,8],(qaV e232)⟩⟩
   intro e a w hO
   obtain ⟨rfl,ok,E,l233⟩:=hO
   refine qaa<|wp_seq<|sg<|aw E rfl fun a E=>wp_block<|bd hF fun o236 hL hF=>qa6 _ (fun (s:(List UInt8) × Int) a w=>Ok u m0 ([(b31,oc 82 [vi x14.Kind,vs x14.Text,vs x14.Name,vs x14.Style,c27,c29])] :: M2 :: S) w ∧ Env 154 a [(0,vparts_0),(1,vs gap_1),(5,vs s.1),(6,c1),(7,vi v10),(8,vp b31),(9,vi s.2)] ∧ s.1.length ≤ LIMS ∧ InR .i64 s.2) (fun (b:((List UInt8))) e a w=>e = (.exit 3) ∧ Ok u m0 ([(b31,oc 82 [vi x14.Kind,vs x14.Text,vs x14.Name,vs x14.Style,c27,c29])] :: M2 :: S) w ∧ Env 154 a [(0,vparts_0),(1,vs gap_1),(5,vs b),(6,c1),(7,vi v10)] ∧ b.length ≤ LIMS) ?_ ?_ N _ a w hL ⟨ok,E.keep [0,1,5,6,7,8,9],l233,(ir 0)⟩
   rotate_left
   ·intro e a w _ hO
    obtain ⟨rfl,ok,E,l283⟩:=hO
    refine qbf<|qaa<|qab<|mv E rfl fun a E=>bd hF fun s284 e285 hF=>lw E (qaE rfl rfl e285) fun a E=>av E rfl fun a E=>wpList_nil<|qag<|qag<|qaa<|qab<|mv E rfl fun a E=>lw E (qaC rfl rfl (InR.inc r12 (qas hparts_0) c13)) fun a E=>av E rfl fun a E=>wpList_nil ?_
    cases hF
    exact qat ⟨(ok.pk 2 [1] rfl (by decide)),E.keep [0,1,5,6,7],(qaV e285),(InR.inc r12 (qas hparts_0) c13)⟩
   rintro ⟨v239,v240⟩ a w r ⟨ok,E,l241,r242⟩ hF
   replace hF:qfb (qcz N) N gap_1 x14 v239 v240 = some r:=hF
   unfold qfb at hF
   refine wp_seq<|sg<|mv E rfl fun a E=>fk E ok qcj qdu rfl 0 rfl rfl fun a E=>lv E ok (qbb qcK h28 rfl) fun a E=>lw E (qaS rfl rfl) fun a E=>wn<|cg E rfl hF (fun c243 hF=>?_) fun c243 hF=>?_
   ·refine wp_exit<|qaX ?_
    cases hF
    exact so (⟨rfl,⟨ok,E.keep [0,1,5,6,7],l241⟩⟩)
   refine wp_skip<|qaa<|wp_seq<|wp_block<|qcZ (by kernel_rfl) (by kernel_rfl) ok<|qv E (qah rfl) fun a E=>qv E (qah rfl) fun a E=>qv E (qai qcj rfl) fun a E=>qv E (qaz qdu rfl (qae.own 0 rfl rfl)) fun a E=>qv E (qah rfl) fun a E=>?_
   obtain ⟨x244,e245,hF⟩:=bnd hF
   obtain ⟨b246,o247,es248,hl249,rr250,at251,yy252⟩:=ia E 131 132 qcK h28 e245
   obtain ⟨c254,rfl,l253,h255⟩:=rr250
   refine qv E (yy252 _ _) fun a E=>qv E (qai qgE rfl) fun a E=>qv E (qaz qao rfl (qae.ro (At.sub 0 1 at251))) fun a E=>bd hF fun s256 e257 hF=>qv E (qaE rfl rfl e257) fun a E=>qv E (qah rfl) fun a E=>bd hF fun s258 e259 hF=>qv E (qaE rfl rfl e259) fun a E=>bd hF fun s260 e261 hF=>qv E (qaE rfl rfl e261) fun a E=>qv E (qai qcj rfl) fun a E=>qv E (qaz qdu rfl (qae.own 0 rfl rfl)) fun a E=>qv E (qah rfl) fun a E=>?_
   obtain ⟨x262,e263,hF⟩:=bnd hF
   obtain ⟨b264,o265,es266,hl267,rr268,at269,yy270⟩:=ia E 141 142 qcK h28 e263
   obtain ⟨c272,rfl,l271,h273⟩:=rr268
   refine qv E (yy270 _ _) fun a E=>qv E (qai qiw rfl) fun a E=>qv E (qaz qcW rfl (qae.ro (At.sub 1 1 at269))) fun a E=>qv E (qah rfl) fun a E=>?_
   obtain ⟨r274,e275,hF⟩:=bnd hF
   obtain ⟨_,_,⟨_,_⟩,l276⟩:=Go.X.Calls.get (ih_calqueref26_Text _ x262.Parts h273 gap_1 lgap_1 e275 hG ok)
   refine qd1 E qjI rfl (fun w ok=>(ih_calqueref26_Text _ x262.Parts h273 gap_1 lgap_1 e275 hG ok).mono (fun _ _ h=>h.1)) rfl rfl fun a E=>bd hF fun s277 e278 hF=>qv E (qaE rfl rfl e278) fun a E=>bd hF fun s279 e280 hF=>qv E (qaE rfl rfl e280) fun a E=>bd hF fun s281 e282 hF=>qv E (qaE rfl rfl e282) fun a E=>qv E (qaI rfl) fun a E=>wpQuiet_nil ?_
   intro w ok
   refine qag<|qaa<|qab<|mv E rfl fun a E=>lw E (qaC rfl rfl (InR.inc r242 (qas h28) c243)) fun a E=>av E rfl fun a E=>wpList_nil ?_
   cases hF
   exact qat ⟨ok,E.keep [0,1,5,6,7,8,9],(qaV e282),(InR.inc r242 (qas h28) c243)⟩
 refine fk E ok qcV qcW rfl 0 rfl rfl fun a E=>lv E ok (qbb qb5 h30 rfl) fun a E=>lw E (qap rfl rfl) fun a E=>pt E rfl rfl fun a E=>aw E rfl fun a E=>cf E rfl hF (fun c42 hF=>?_) fun c42 hF=>?_
 ·refine qab<|mv E rfl fun a E=>fk E ok qa2 qao rfl 0 rfl rfl fun a E=>bd hF fun s43 e44 hF=>lw E (qaE rfl rfl e44) fun a E=>bd hF fun s45 e46 hF=>lw E (qaE rfl rfl e46) fun a E=>bd hF fun s47 e48 hF=>lw E (qaE rfl rfl e48) fun a E=>av E rfl fun a E=>wpList_nil<|qag<|qag<|qaa<|qab<|mv E rfl fun a E=>?_
  refine lw E (qaC rfl rfl (InR.inc r12 (qas hparts_0) c13)) fun a E=>av E rfl fun a E=>wpList_nil ?_
  cases hF
  exact qat ⟨(ok.pk 2 [1] rfl (by decide)),E.keep [0,1,5,6,7],(qaV e48),(InR.inc r12 (qas hparts_0) c13)⟩
 refine sg<|fk E ok qaH qaq rfl 0 rfl rfl fun a E=>lw E (qap rfl rfl) fun a E=>aw E rfl fun a E=>cf E rfl hF (fun c49 hF=>?_) fun c49 hF=>?_
 ·refine qcZ (by kernel_rfl) (by kernel_rfl) ok<|qv E (qah rfl) fun a E=>qv E (qai qa2 rfl) fun a E=>qv E (qaz qao rfl (qae.own 0 rfl rfl)) fun a E=>bd hF fun s50 e51 hF=>qv E (qaE rfl rfl e51) fun a E=>bd hF fun s52 e53 hF=>qv E (qaE rfl rfl e53) fun a E=>qv E (qai qcV rfl) fun a E=>qv E (qaz qcW rfl (qae.own 0 rfl rfl)) fun a E=>qv E (qah rfl) fun a E=>?_
  obtain ⟨r54,e55,hF⟩:=bnd hF
  obtain ⟨_,_,⟨_,_⟩,l56⟩:=Go.X.Calls.get (ih_calqueref26_Text _ x14.Parts h30 gap_1 lgap_1 e55 hG ok)
  refine qd1 E qjI rfl (fun w ok=>(ih_calqueref26_Text _ x14.Parts h30 gap_1 lgap_1 e55 hG ok).mono (fun _ _ h=>h.1)) rfl rfl fun a E=>bd hF fun s57 e58 hF=>qv E (qaE rfl rfl e58) fun a E=>bd hF fun s59 e60 hF=>qv E (qaE rfl rfl e60) fun a E=>qv E (qai qa2 rfl) fun a E=>qv E (qaz qao rfl (qae.own 0 rfl rfl)) fun a E=>bd hF fun s61 e62 hF=>qv E (qaE rfl rfl e62) fun a E=>bd hF fun s63 e64 hF=>qv E (qaE rfl rfl e64) fun a E=>bd hF fun s65 e66 hF=>qv E (qaE rfl rfl e66) fun a E=>qv E (qaI rfl) fun a E=>wpQuiet_nil ?_
  intro w ok
  refine qag<|qag<|qaa<|qab<|mv E rfl fun a E=>lw E (qaC rfl rfl (InR.inc r12 (qas hparts_0) c13)) fun a E=>av E rfl fun a E=>wpList_nil ?_
  cases hF
  exact qat ⟨(ok.pk 2 [1] rfl (by decide)),E.keep [0,1,5,6,7],(qaV e66),(InR.inc r12 (qas hparts_0) c13)⟩
 refine sg<|fk E ok qaH qaq rfl 0 rfl rfl fun a E=>lw E (qap rfl rfl) fun a E=>aw E rfl fun a E=>cf E rfl hF (fun c67 hF=>?_) fun c67 hF=>?_
 ·refine qab<|mv E rfl fun a E=>fk E ok qa2 qao rfl 0 rfl rfl fun a E=>bd hF fun s68 e69 hF=>lw E (qaE rfl rfl e69) fun a E=>bd hF fun s70 e71 hF=>lw E (qaE rfl rfl e71) fun a E=>bd hF fun s72 e73 hF=>lw E (qaE rfl rfl e73) fun a E=>av E rfl fun a E=>wpList_nil<|qag<|qag<|qaa<|qab<|mv E rfl fun a E=>?_
  refine lw E (qaC rfl rfl (InR.inc r12 (qas hparts_0) c13)) fun a E=>av E rfl fun a E=>wpList_nil ?_
  cases hF
  exact qat ⟨(ok.pk 2 [1] rfl (by decide)),E.keep [0,1,5,6,7],(qaV e73),(InR.inc r12 (qas hparts_0) c13)⟩
 refine sg<|fk E ok qaH qaq rfl 0 rfl rfl fun a E=>lw E (qbK rfl rfl) fun a E=>mv E rfl fun a E=>bw E 86 hF (fun c74 hF E=>?_) fun c74 hF E=>?_
 ·refine lsq E fun a E=>ls E fun a E=>pf E rfl rfl fun a E=>aw E rfl fun a E=>c_if E rfl (fun h=>by cases h) (fun _=>?_)
  refine wp_skip<|qag<|qag<|qaa<|qab<|mv E rfl fun a E=>lw E (qaC rfl rfl (InR.inc r12 (qas hparts_0) c13)) fun a E=>av E rfl fun a E=>wpList_nil ?_
  cases hF
  exact qat ⟨(ok.pk 2 [1] rfl (by decide)),E.keep [0,1,5,6,7],l11,(InR.inc r12 (qas hparts_0) c13)⟩
 refine fk E ok qaH qaq rfl 0 rfl rfl fun a E=>lw E (qcC rfl rfl) fun a E=>pt E rfl rfl fun a E=>aw E rfl fun a E=>cg E rfl hF (fun c75 hF=>?_) fun c75 hF=>?_
 ·refine wp_skip<|qag<|qag<|qaa<|qab<|mv E rfl fun a E=>lw E (qaC rfl rfl (InR.inc r12 (qas hparts_0) c13)) fun a E=>av E rfl fun a E=>wpList_nil ?_
  cases hF
  exact qat ⟨(ok.pk 2 [1] rfl (by decide)),E.keep [0,1,5,6,7],l11,(InR.inc r12 (qas hparts_0) c13)⟩
 refine wp_seq<|qcZ (by kernel_rfl) (by kernel_rfl) ok<|qv E (qah rfl) fun a E=>qv E (qai qa2 rfl) fun a E=>qv E (qaz qao rfl (qae.own 0 rfl rfl)) fun a E=>bd hF fun s76 e77 hF=>qv E (qaE rfl rfl e77) fun a E=>bd hF fun s78 e79 hF=>qv E (qaE rfl rfl e79) fun a E=>qv E (qah rfl) fun a E=>bd hF fun s80 e81 hF=>qv E (qaE rfl rfl e81) fun a E=>qv E (qah rfl) fun a E=>qv E (qai qaH rfl) fun a E=>qv E (qaz qaq rfl (qae.own 0 rfl rfl)) fun a E=>qv E (qcY rfl rfl) fun a E=>?_
 obtain ⟨x82,e83,hF⟩:=bnd hF
 obtain ⟨b84,o85,hp86,yy87⟩:=qe4 qbx h3 e83 (P:=Tryz.prog) (X:=.tmp 98) (I:=.tmp 101) (kd:=.i64) (qbQ E rfl) (qbQ E rfl)
 refine qv E (yy87 _ _) fun a E=>?_
 obtain ⟨es88,hl89,rr90,hh91⟩:=qf5 h3 e83 hp86 (by decide)
 obtain ⟨rfl,l92⟩:=rr90
 refine qv E (qaz qao rfl (hh91 _ _ _ 1 rfl)) fun a E=>bd hF fun s93 e94 hF=>qv E (qaE rfl rfl e94) fun a E=>bd hF fun s95 e96 hF=>qv E (qaE rfl rfl e96) fun a E=>qv E (qaI rfl) fun a E=>wpQuiet_nil ?_
 intro w ok
 refine qaa<|wp_seq<|sg<|fk E ok qbc qao rfl 0 rfl rfl fun a E=>lw E (qcP rfl rfl) fun a E=>wn<|bd hF fun o97 hJ hF=>qaK (Q':=fun e a w=>e = .normal ∧ Ok u m0 ([(b31,oc 82 [vi x14.Kind,vs x14.Text,vs x14.Name,vs x14.Style,c27,c29])] :: M2 :: S) w ∧ Env 154 a [(0,vparts_0),(1,vs gap_1),(5,vs o97),(6,c1),(7,vi v10),(8,vp b31)] ∧ o97.length ≤ LIMS) ?_ ?_
 ·have hF:=hJ
  refine cg E rfl hF (fun c99 hF=>?_) fun c99 hF=>?_
  ·refine wp_skip ?_
   cases hF
   exact ⟨rfl,⟨ok,E.keep [0,1,5,6,7,8],(qaV e96)⟩⟩
  refine qab<|mz E rfl rfl fun a E=>bd hF fun s100 e101 hF=>lw E (qaE rfl rfl e101) fun a E=>fk E ok qbc qao rfl 0 rfl rfl fun a E=>bd hF fun s102 e103 hF=>lw E (qaE rfl rfl e103) fun a E=>bd hF fun s104 e105 hF=>lw E (qaE rfl rfl e105) fun a E=>av E rfl fun a E=>wpList_nil ?_
  cases hF
  exact ⟨rfl,⟨ok,E.keep [0,1,5,6,7,8],(qaV e105)⟩⟩
 intro e a w hO
 obtain ⟨rfl,ok,E,l106⟩:=hO
 refine qaa<|wp_seq<|sg<|fk E ok qaH qaq rfl 0 rfl rfl fun a E=>bd hF fun r107 e108 hF=>lc E qmP rfl (qem N x14.Kind r23 e108 hG ok) fun w ok a E=>wn<|bd hF fun o109 hJ hF=>qaK (Q':=fun e a w=>e = .normal ∧ Ok u m0 ([(b31,oc 82 [vi x14.Kind,vs x14.Text,vs x14.Name,vs x14.Style,c27,c29])] :: M2 :: S) w ∧ Env 154 a [(0,vparts_0),(1,vs gap_1),(5,vs o109),(6,c1),(7,vi v10),(8,vp b31)] ∧ o109.length ≤ LIMS) ?_ ?_
 ·have hF:=hJ
  refine cg E rfl hF (fun c111 hF=>?_) fun c111 hF=>?_
  ·refine wp_skip ?_
   cases hF
   exact ⟨rfl,⟨ok,E.keep [0,1,5,6,7,8],l106⟩⟩
  refine qab<|mv E rfl fun a E=>bd hF fun s112 e113 hF=>lw E (qaE rfl rfl e113) fun a E=>av E rfl fun a E=>wpList_nil ?_
  cases hF
  exact ⟨rfl,⟨ok,E.keep [0,1,5,6,7,8],(qaV e113)⟩⟩
 intro e a w hO
 obtain ⟨rfl,ok,E,l114⟩:=hO
 refine qaa<|wp_seq<|sg<|aw E rfl fun a E=>wp_block<|bd hF fun o117 hL hF=>qa6 _ (fun (s:(List UInt8) × Int) a w=>Ok u m0 ([(b31,oc 82 [vi x14.Kind,vs x14.Text,vs x14.Name,vs x14.Style,c27,c29])] :: M2 :: S) w ∧ Env 154 a [(0,vparts_0),(1,vs gap_1),(5,vs s.1),(6,c1),(7,vi v10),(8,vp b31),(9,vi s.2)] ∧ s.1.length ≤ LIMS ∧ InR .i64 s.2) (fun (b:((List UInt8))) e a w=>e = (.exit 3) ∧ Ok u m0 ([(b31,oc 82 [vi x14.Kind,vs x14.Text,vs x14.Name,vs x14.Style,c27,c29])] :: M2 :: S) w ∧ Env 154 a [(0,vparts_0),(1,vs gap_1),(5,vs b),(6,c1),(7,vi v10)] ∧ b.length ≤ LIMS) ?_ ?_ N _ a w hL ⟨ok,E.keep [0,1,5,6,7,8,9],l114,(ir 0)⟩
 rotate_left
 ·intro e a w _ hO
  obtain ⟨rfl,ok,E,l164⟩:=hO
  refine qbf<|qaa<|qab<|mv E rfl fun a E=>bd hF fun s165 e166 hF=>lw E (qaE rfl rfl e166) fun a E=>av E rfl fun a E=>wpList_nil<|qag<|qag<|qaa<|qab<|mv E rfl fun a E=>lw E (qaC rfl rfl (InR.inc r12 (qas hparts_0) c13)) fun a E=>av E rfl fun a E=>wpList_nil ?_
  cases hF
  exact qat ⟨(ok.pk 2 [1] rfl (by decide)),E.keep [0,1,5,6,7],(qaV e166),(InR.inc r12 (qas hparts_0) c13)⟩
 rintro ⟨v120,v121⟩ a w r ⟨ok,E,l122,r123⟩ hF
 replace hF:qfk (qcz N) N gap_1 x14 v120 v121 = some r:=hF
 unfold qfk at hF
 refine wp_seq<|sg<|mv E rfl fun a E=>fk E ok qcj qdu rfl 0 rfl rfl fun a E=>lv E ok (qbb qcK h28 rfl) fun a E=>lw E (qaS rfl rfl) fun a E=>wn<|cg E rfl hF (fun c124 hF=>?_) fun c124 hF=>?_
 ·refine wp_exit<|qaX ?_
  cases hF
  exact so (⟨rfl,⟨ok,E.keep [0,1,5,6,7],l122⟩⟩)
 refine wp_skip<|qaa<|wp_seq<|wp_block<|qcZ (by kernel_rfl) (by kernel_rfl) ok<|qv E (qah rfl) fun a E=>qv E (qah rfl) fun a E=>qv E (qai qcj rfl) fun a E=>qv E (qaz qdu rfl (qae.own 0 rfl rfl)) fun a E=>qv E (qah rfl) fun a E=>?_
 obtain ⟨x125,e126,hF⟩:=bnd hF
 obtain ⟨b127,o128,es129,hl130,rr131,at132,yy133⟩:=ia E 131 132 qcK h28 e126
 obtain ⟨c135,rfl,l134,h136⟩:=rr131
 refine qv E (yy133 _ _) fun a E=>qv E (qai qgE rfl) fun a E=>qv E (qaz qao rfl (qae.ro (At.sub 0 1 at132))) fun a E=>bd hF fun s137 e138 hF=>qv E (qaE rfl rfl e138) fun a E=>qv E (qah rfl) fun a E=>bd hF fun s139 e140 hF=>qv E (qaE rfl rfl e140) fun a E=>bd hF fun s141 e142 hF=>qv E (qaE rfl rfl e142) fun a E=>qv E (qai qcj rfl) fun a E=>qv E (qaz qdu rfl (qae.own 0 rfl rfl)) fun a E=>qv E (qah rfl) fun a E=>?_
 obtain ⟨x143,e144,hF⟩:=bnd hF
 obtain ⟨b145,o146,es147,hl148,rr149,at150,yy151⟩:=ia E 141 142 qcK h28 e144
 obtain ⟨c153,rfl,l152,h154⟩:=rr149
 refine qv E (yy151 _ _) fun a E=>qv E (qai qiw rfl) fun a E=>qv E (qaz qcW rfl (qae.ro (At.sub 1 1 at150))) fun a E=>qv E (qah rfl) fun a E=>?_
 obtain ⟨r155,e156,hF⟩:=bnd hF
 obtain ⟨_,_,⟨_,_⟩,l157⟩:=Go.X.Calls.get (ih_calqueref26_Text _ x143.Parts h154 gap_1 lgap_1 e156 hG ok)
 refine qd1 E qjI rfl (fun w ok=>(ih_calqueref26_Text _ x143.Parts h154 gap_1 lgap_1 e156 hG ok).mono (fun _ _ h=>h.1)) rfl rfl fun a E=>bd hF fun s158 e159 hF=>qv E (qaE rfl rfl e159) fun a E=>bd hF fun s160 e161 hF=>qv E (qaE rfl rfl e161) fun a E=>bd hF fun s162 e163 hF=>qv E (qaE rfl rfl e163) fun a E=>qv E (qaI rfl) fun a E=>wpQuiet_nil ?_
 intro w ok
 refine qag<|qaa<|qab<|mv E rfl fun a E=>lw E (qaC rfl rfl (InR.inc r123 (qas h28) c124)) fun a E=>av E rfl fun a E=>wpList_nil ?_
 cases hF
 exact qat ⟨ok,E.keep [0,1,5,6,7,8,9],(qaV e163),(InR.inc r123 (qas h28) c124)⟩
theorem qil:qes 0:=by
 intro u m0 S w vparts_0 parts_0 hparts_0 gap_1 lgap_1 r hF hG ok
 replace hF:none = some r:=hF
 cases hF
theorem qhx (N:Nat):qes N:=by
 induction N with
 | zero=>exact qil
 | succ N h=>exact qie N h
theorem qgK {u:World} {m0:Mem} {S:Segs} {w:World} (N:Nat) (vparts_0:Value) (parts_0:List (Part)) (hparts_0:(pL 6 qbg) m0 [vparts_0] parts_0) (gap_1:List UInt8) (lgap_1:gap_1.length ≤ LIMS) {r:(List UInt8)} (hF:qcz N parts_0 gap_1 = some r) (hG:Glob u) (ok:Ok u m0 S w) :
 Calls Tryz.prog 47 [vparts_0,vs gap_1].toArray w fun e w'=>(e = .returned (.string (bs r)) ∧ Ok u m0 S w') ∧ r.length ≤ LIMS:=(qhx N) vparts_0 parts_0 hparts_0 gap_1 lgap_1 hF hG ok
end Go.Proofs.YtllnjbnknjpbjaaGreatDoor
namespace Go.Proofs.YtllnjbnknjpbjaaGreatDoor
open Go.X
variable {u:World} {m0:Mem} {S:Segs} {w:World}
set_option maxHeartbeats 4000000
set_option maxRecDepth 100000
def qf6:Rp Position:=fun _ cs x=>cs = [.int .i64 x.Offset,.int .i64 x.Line,.int .i64 x.Column] ∧ InR .i64 x.Offset ∧ InR .i64 x.Line ∧ InR .i64 x.Column
def qaU:Rp Token:=fun _ cs x=>cs = [.int .i64 x.Kind,.string (bs x.Text),.int .i64 x.From,.int .i64 x.To] ∧ InR .i64 x.Kind ∧ x.Text.length ≤ LIMS ∧ InR .i64 x.From ∧ InR .i64 x.To
theorem qac:Mono qaU:=⟨fun _ h=>by
 obtain ⟨e,h0,h1,h2,h3⟩:=h
 exact ⟨e,h0,h1,h2,h3⟩,fun h=>by
 obtain ⟨rfl,h0,h1,h2,h3⟩:=h
 exact ⟨rfl,rfl,rfl,rfl,trivial⟩⟩
theorem qa4:aggB Tryz.prog 137 4 = true:=by kernel_rfl
theorem qeI:aggB Tryz.prog 52 3 = true:=by kernel_rfl
theorem qhM:qaO Tryz.prog 121 0 0 = true:=by kernel_rfl
theorem ql8:qaO Tryz.prog 121 1 1 = true:=by kernel_rfl
theorem qiM:qaO Tryz.prog 121 2 2 = true:=by kernel_rfl
theorem qj4:qaO Tryz.prog 121 3 3 = true:=by kernel_rfl
theorem qdd:qaO Tryz.prog 121 4 4 = true:=by kernel_rfl
theorem qcl:qaO Tryz.prog 137 0 0 = true:=by kernel_rfl
theorem qe2:qaO Tryz.prog 137 1 1 = true:=by kernel_rfl
theorem ql5:qaO Tryz.prog 137 3 3 = true:=by kernel_rfl
theorem qhp:qaO Tryz.prog 52 0 0 = true:=by kernel_rfl
theorem qmx:qaO Tryz.prog 52 1 1 = true:=by kernel_rfl
theorem qkT:qaO Tryz.prog 52 2 2 = true:=by kernel_rfl
theorem qpu:goB Tryz.prog 106 = true:=by kernel_rfl
theorem qpl:goB Tryz.prog 107 = true:=by kernel_rfl
theorem qm8:goB Tryz.prog 108 = true:=by kernel_rfl
theorem qpr:goB Tryz.prog 109 = true:=by kernel_rfl
theorem qps:goB Tryz.prog 110 = true:=by kernel_rfl
theorem qmc:goB Tryz.prog 111 = true:=by kernel_rfl
theorem qmg:goB Tryz.prog 112 = true:=by kernel_rfl
theorem qcp:goB Tryz.prog 130 = true:=by kernel_rfl
theorem qpv:goB Tryz.prog 131 = true:=by kernel_rfl
theorem qgS:goB Tryz.prog 132 = true:=by kernel_rfl
theorem qpS:goB Tryz.prog 48 = true:=by kernel_rfl
theorem qpV:goB Tryz.prog 63 = true:=by kernel_rfl
theorem qiG:goB Tryz.prog 64 = true:=by kernel_rfl
theorem qfH:goB Tryz.prog 65 = true:=by kernel_rfl
theorem qod:goB Tryz.prog 66 = true:=by kernel_rfl
theorem qpU:goB Tryz.prog 81 = true:=by kernel_rfl
theorem qok:goB Tryz.prog 82 = true:=by kernel_rfl
theorem qoh:goB Tryz.prog 83 = true:=by kernel_rfl
theorem qc4:goB Tryz.prog 84 = true:=by kernel_rfl
theorem qp5:goB Tryz.prog 85 = true:=by kernel_rfl
theorem qcw:goB Tryz.prog 86 = true:=by kernel_rfl
theorem qkn:goB Tryz.prog 87 = true:=by kernel_rfl
theorem qon:goB Tryz.prog 88 = true:=by kernel_rfl
theorem qp4:goB Tryz.prog 89 = true:=by kernel_rfl
theorem qoA:∃ i,Tryz.prog.info? 116 = some i ∧ i.size = 1:=⟨_,rfl,by kernel_rfl⟩
theorem qaW:∃ i,Tryz.prog.info? 137 = some i ∧ i.size = 4:=⟨_,rfl,by kernel_rfl⟩
theorem qno:∃ i,Tryz.prog.info? 22 = some i ∧ i.size = 1:=⟨_,rfl,by kernel_rfl⟩
theorem qpp:∃ i,Tryz.prog.info? 29 = some i ∧ i.size = 1:=⟨_,rfl,by kernel_rfl⟩
theorem qew:∃ i,Tryz.prog.info? 52 = some i ∧ i.size = 3:=⟨_,rfl,by kernel_rfl⟩
theorem qkd:∃ i,Tryz.prog.info? 80 = some i ∧ i.size = 1:=⟨_,rfl,by kernel_rfl⟩
theorem qjF:oneB Tryz.prog 116 = true:=by kernel_rfl
theorem qeF:oneB Tryz.prog 29 = true:=by kernel_rfl
theorem qmS:qdz Tryz.prog 121 = some [(0,1),(1,1),(2,1),(3,1),(4,1)]:=by kernel_rfl
theorem qaR:qdz Tryz.prog 137 = some [(0,1),(1,1),(2,1),(3,1)]:=by kernel_rfl
theorem qfu:qdz Tryz.prog 52 = some [(0,1),(1,1),(2,1)]:=by kernel_rfl
theorem qh1:qdz Tryz.prog 85 = some [(0,1),(1,1)]:=by kernel_rfl
theorem qgW:SlT Tryz.prog 116 137 4:=SlT.of (by kernel_rfl)
theorem qnO:qbX Tryz.prog 121 = some [(Value.slice none 0 0),vi 0,(Value.slice none 0 0),vi 0,vi 0]:=by kernel_rfl
theorem qaN:qbX Tryz.prog 137 = some [vi 0,(vs ([])),vi 0,vi 0]:=by kernel_rfl
theorem qdQ:qbX Tryz.prog 52 = some [vi 0,vi 0,vi 0]:=by kernel_rfl
def qi5 (u:World) (m0:Mem) (S:Segs) (r:Bool) (a:Act) (w:World):Prop :=
 Ok u m0 S w ∧ a.defers = [] ∧ RVs Tryz.prog a w [.t 2 (.bool r)]
theorem qi6 (N:Nat) (c_0:Int) (rc_0:InR .u8 c_0) {r:Bool} (hF:qfJ N c_0 = some r) (hG:Glob u) (ok:Ok u m0 S w) :
  Calls Tryz.prog 81 [Value.int .u8 c_0].toArray w fun e w'=>(e = .returned (.bool r) ∧ Ok u m0 S w'):=by
 unfold qfJ at hF
 refine en (qi5 u m0 S) r Tryz.func81 rfl rfl rfl (fun _ _ h=>ra h rfl) fun fin a E=>sg<|aw E rfl fun a E=>sg<|mv E rfl fun a E=>lw E (qap rfl rfl) fun a E=>mv E rfl fun a E=>bu E 5 hF (fun c1 hF E=>?_) fun c1 hF E=>?_
 ·refine lsq E fun a E=>pt E rfl rfl fun a E=>mv E rfl fun a E=>lsq E fun a E=>pt E rfl rfl fun a E=>av E rfl fun a E=>wn<|wp_ret ?_
  exact fin hF ⟨ok,E.d,rz E rfl⟩
 refine mv E rfl fun a E=>lw E (qap rfl rfl) fun a E=>pf E rfl rfl fun a E=>mv E rfl fun a E=>bu E 9 hF (fun c2 hF E=>?_) fun c2 hF E=>?_
 ·refine lsq E fun a E=>pt E rfl rfl fun a E=>aw E rfl fun a E=>wp_ret ?_
  exact fin hF ⟨ok,E.d,rz E rfl⟩
 refine mv E rfl fun a E=>lw E (qap rfl rfl) fun a E=>pf E rfl rfl fun a E=>aw E rfl fun a E=>wp_ret ?_
 exact fin hF ⟨ok,E.d,rz E rfl⟩
def qjc (u:World) (m0:Mem) (S:Segs) (r:Bool) (a:Act) (w:World):Prop :=
 Ok u m0 S w ∧ a.defers = [] ∧ RVs Tryz.prog a w [.t 2 (.bool r)]
theorem qi4 (N:Nat) (c_0:Int) (rc_0:InR .u8 c_0) {r:Bool} (hF:qfR N c_0 = some r) (hG:Glob u) (ok:Ok u m0 S w) :
  Calls Tryz.prog 106 [Value.int .u8 c_0].toArray w fun e w'=>(e = .returned (.bool r) ∧ Ok u m0 S w'):=by
 unfold qfR at hF
 refine en (qjc u m0 S) r Tryz.func106 rfl rfl rfl (fun _ _ h=>ra h rfl) fun fin a E=>sg<|aw E rfl fun a E=>sg<|mv E rfl fun a E=>bd hF fun r1 e2 hF=>lc E qlC rfl (qej N c_0 rc_0 e2 hG ok) fun w ok a E=>mv E rfl fun a E=>qbr r1 (fun c3=>?_) (fun c3=>?_)
 ·have hF:=qbo c3 hF
  have E:=E.upd 5 c3 rfl
  refine lsq E fun a E=>pt E rfl rfl fun a E=>mv E rfl fun a E=>lsq E fun a E=>pt E rfl rfl fun a E=>av E rfl fun a E=>wn<|wp_ret ?_
  exact fin hF ⟨ok,E.d,rz E rfl⟩
 have hF:=qbn c3 hF
 have E:=E.upd 5 c3 rfl
 refine mv E rfl fun a E=>lw E (qap rfl rfl) fun a E=>pf E rfl rfl fun a E=>mv E rfl fun a E=>bu E 9 hF (fun c4 hF E=>?_) fun c4 hF E=>?_
 ·refine lsq E fun a E=>pt E rfl rfl fun a E=>aw E rfl fun a E=>wp_ret ?_
  exact fin hF ⟨ok,E.d,rz E rfl⟩
 refine mv E rfl fun a E=>lw E (qap rfl rfl) fun a E=>pf E rfl rfl fun a E=>aw E rfl fun a E=>wp_ret ?_
 exact fin hF ⟨ok,E.d,rz E rfl⟩
def qiJ (u:World) (m0:Mem) (S:Segs) (r:Token) (a:Act) (w:World):Prop :=
 ∃ m1 v0,m0.le m1 ∧ Ok u m1 S w ∧ a.defers = [] ∧ RVs Tryz.prog a w [.c 4 137 (.agg v0.toArray)] ∧ qaU m1 v0 r
theorem qgg (N:Nat) (s_0:List UInt8) (ls_0:s_0.length ≤ LIMS) (at_1:Int) (rat_1:InR .i64 at_1) {r:Token} (hF:qez N s_0 at_1 = some r) (hG:Glob u) (ok:Ok u m0 S w) :
  Calls Tryz.prog 82 [vs s_0,vi at_1].toArray w fun e w'=>∃ m1 v0,e = .returned (.agg v0.toArray) ∧ m0.le m1 ∧ Ok u m1 S w' ∧ qaU m1 v0 r:=by
 have le_m0:=Mem.le.refl m0
 unfold qez at hF
 refine en (qiJ u m0 S) r Tryz.func82 rfl rfl rfl (by rintro a w ⟨m1,v0,hle,ok,hd,hrv,h0⟩; exact qbs [.c 4 137 (.agg v0.toArray)] hd rfl hrv ⟨m1,v0,rfl,hle,ok,h0⟩) fun fin a E=>sg<|qa3 E ok qaN rfl rfl fun b1 a w E ok=>wn<|sg<|mv E rfl fun a E=>aw E rfl fun a E=>wp_seq<|wp_block<|bd hF fun o3 hL hF=>qa6 _ (fun (s:Int) a w=>Ok u m0 ([(b1,oc 137 [vi 0,(vs ([])),vi 0,vi 0])] :: S) w ∧ Env 58 a [(0,vs s_0),(1,vi at_1),(4,vp b1),(5,vi s)] ∧ InR .i64 s) (fun (b:Int) e a w=>e = (.exit 0) ∧ Ok u m0 ([(b1,oc 137 [vi 0,(vs ([])),vi 0,vi 0])] :: S) w ∧ Env 58 a [(0,vs s_0),(1,vi at_1),(4,vp b1),(5,vi b)] ∧ InR .i64 b) ?_ ?_ N _ a w hL ⟨ok,E.keep [0,1,4,5],rat_1⟩
 ·rintro v5 a w r ⟨ok,E,r6⟩ hF
  replace hF:qeR N s_0 v5 = some r:=hF
  unfold qeR at hF
  refine wp_seq<|sg<|mz E rfl rfl fun a E=>lw E (qaJ Tryz.underlying9 rfl) fun a E=>lw E (qaS rfl rfl) fun a E=>mv E rfl fun a E=>bw E 11 hF (fun c7 hF E=>?_) fun c7 hF E=>?_
  ·refine lsz E fun a E=>pf E rfl rfl fun a E=>wn<|c_if E rfl (fun h=>by cases h) (fun _=>?_)
   refine wp_exit<|qaX ?_
   cases hF
   exact so (⟨rfl,⟨ok,E.keep [0,1,4,5],r6⟩⟩)
  refine mz E rfl rfl fun a E=>bd hF fun c8 e9 hF=>lv E ok (qaD Tryz.underlying9 rfl rfl e9) fun a E=>bd hF fun r10 e11 hF=>lc E qpu rfl (qi4 N (c8.toNat:Int) (InR.byte c8) e11 hG ok) fun w ok a E=>pt E rfl rfl fun a E=>wn<|cg E rfl hF (fun c12 hF=>?_) fun c12 hF=>?_
  ·refine wp_exit<|qaX ?_
   cases hF
   exact so (⟨rfl,⟨ok,E.keep [0,1,4,5],r6⟩⟩)
  refine wp_skip<|qaa<|wp_block<|qab<|mv E rfl fun a E=>lw E (qaC rfl rfl (InR.inc r6 (InR.len ls_0) c7)) fun a E=>av E rfl fun a E=>wpList_nil<|qag ?_
  cases hF
  exact qat ⟨ok,E.keep [0,1,4,5],(InR.inc r6 (InR.len ls_0) c7)⟩
 intro e a w _ hO
 obtain ⟨rfl,ok,E,r13⟩:=hO
 refine qbf<|qaa<|wp_seq<|wp_block<|sg<|mz E rfl rfl fun a E=>lw E (qbD rfl rfl) fun a E=>aw E rfl fun a E=>cf E rfl hF (fun c14 hF=>?_) fun c14 hF=>?_
 ·refine sg<|mz E rfl rfl fun a E=>mv E rfl fun a E=>bd hF fun s15 e16 hF=>lw E (qcd Tryz.underlying9 e16 rfl ⟨_,rfl⟩ ⟨_,rfl⟩) fun a E=>mz E rfl rfl fun a E=>lw E (qau (ps:=[(0,.const (vi 9)),(1,.tmp 26),(2,.tmp 27),(3,.tmp 28)]) (qs:=[(0,[vi 9]),(1,[vs s15]),(2,[vi at_1]),(3,[vi o3])]) (cs:=[vi 9,vs s15,vi at_1,vi o3]) qaN qaR rfl ⟨rfl,rfl,rfl,⟨rfl,rfl,rfl,⟨rfl,rfl,rfl,⟨rfl,rfl,rfl,trivial⟩⟩⟩⟩ rfl) fun a E=>qad E ok 0 rfl rfl rfl qaW rfl rfl ⟨rfl,rfl,rfl,rfl,trivial⟩ rfl rfl fun w ok=>wn<|wp_ret<|qaL<|qam ?_
  exact fin hF ⟨m0,[vi 9,vs s15,vi at_1,vi o3],le_m0,ok.drop,E.d,⟨rv_c (cs:=[vi 9,vs s15,vi at_1,vi o3]) E ok rfl qa4 rfl (qae.own 0 rfl rfl),trivial⟩,⟨rfl,(ir 9),(Nat.le_trans (qcc e16) ls_0),rat_1,r13⟩⟩
 refine sg<|mz E rfl rfl fun a E=>bd hF fun c17 e18 hF=>lv E ok (qaD Tryz.underlying9 rfl rfl e18) fun a E=>lw E (qap rfl rfl) fun a E=>aw E rfl fun a E=>cf E rfl hF (fun c19 hF=>?_) fun c19 hF=>?_
 ·refine sg<|mz E rfl rfl fun a E=>lw E (qaQ rfl rfl) fun a E=>lw E (qau (ps:=[(0,.const (vi 2)),(1,.const (vs ([123]))),(2,.tmp 35),(3,.tmp 37)]) (qs:=[(0,[vi 2]),(1,[(vs ([123]))]),(2,[vi at_1]),(3,[(vi (IntKind.wrap .i64 (at_1 + 1)))])]) (cs:=[vi 2,(vs ([123])),vi at_1,(vi (IntKind.wrap .i64 (at_1 + 1)))]) qaN qaR rfl ⟨rfl,rfl,rfl,⟨rfl,rfl,rfl,⟨rfl,rfl,rfl,⟨rfl,rfl,rfl,trivial⟩⟩⟩⟩ rfl) fun a E=>qad E ok 0 rfl rfl rfl qaW rfl rfl ⟨rfl,rfl,rfl,rfl,trivial⟩ rfl rfl fun w ok=>wn<|wp_ret<|qaL<|qam ?_
  exact fin hF ⟨m0,[vi 2,(vs ([123])),vi at_1,(vi (IntKind.wrap .i64 (at_1 + 1)))],le_m0,ok.drop,E.d,⟨rv_c (cs:=[vi 2,(vs ([123])),vi at_1,(vi (IntKind.wrap .i64 (at_1 + 1)))]) E ok rfl qa4 rfl (qae.own 0 rfl rfl),trivial⟩,⟨rfl,(ir 2),(show ([123]:List UInt8).length ≤ LIMS by decide),rat_1,(InR.wrap _ _)⟩⟩
 refine sg<|mz E rfl rfl fun a E=>bd hF fun c20 e21 hF=>lv E ok (qaD Tryz.underlying9 rfl rfl e21) fun a E=>lw E (qap rfl rfl) fun a E=>aw E rfl fun a E=>cf E rfl hF (fun c22 hF=>?_) fun c22 hF=>?_
 ·refine sg<|mz E rfl rfl fun a E=>lw E (qaQ rfl rfl) fun a E=>lw E (qau (ps:=[(0,.const (vi 3)),(1,.const (vs ([125]))),(2,.tmp 44),(3,.tmp 46)]) (qs:=[(0,[vi 3]),(1,[(vs ([125]))]),(2,[vi at_1]),(3,[(vi (IntKind.wrap .i64 (at_1 + 1)))])]) (cs:=[vi 3,(vs ([125])),vi at_1,(vi (IntKind.wrap .i64 (at_1 + 1)))]) qaN qaR rfl ⟨rfl,rfl,rfl,⟨rfl,rfl,rfl,⟨rfl,rfl,rfl,⟨rfl,rfl,rfl,trivial⟩⟩⟩⟩ rfl) fun a E=>qad E ok 0 rfl rfl rfl qaW rfl rfl ⟨rfl,rfl,rfl,rfl,trivial⟩ rfl rfl fun w ok=>wn<|wp_ret<|qaL<|qam ?_
  exact fin hF ⟨m0,[vi 3,(vs ([125])),vi at_1,(vi (IntKind.wrap .i64 (at_1 + 1)))],le_m0,ok.drop,E.d,⟨rv_c (cs:=[vi 3,(vs ([125])),vi at_1,(vi (IntKind.wrap .i64 (at_1 + 1)))]) E ok rfl qa4 rfl (qae.own 0 rfl rfl),trivial⟩,⟨rfl,(ir 3),(show ([125]:List UInt8).length ≤ LIMS by decide),rat_1,(InR.wrap _ _)⟩⟩
 refine sg<|mz E rfl rfl fun a E=>bd hF fun c23 e24 hF=>lv E ok (qaD Tryz.underlying9 rfl rfl e24) fun a E=>lw E (qap rfl rfl) fun a E=>aw E rfl fun a E=>cg E rfl hF (fun c25 hF=>?_) fun c25 hF=>?_
 ·refine wp_skip<|qag<|qaa<|sg<|lw E (qau (ps:=[]) (qs:=[]) (cs:=[vi 0,(vs ([])),vi 0,vi 0]) qaN qaR rfl trivial rfl) fun a E=>qad E ok 0 rfl rfl rfl qaW rfl rfl ⟨rfl,rfl,rfl,rfl,trivial⟩ rfl rfl fun w ok=>wn<|wp_ret ?_
  exact fin hF ⟨m0,[vi 0,(vs ([])),vi 0,vi 0],le_m0,ok.drop,E.d,⟨rv_c (cs:=[vi 0,(vs ([])),vi 0,vi 0]) E ok rfl qa4 rfl (qae.own 0 rfl rfl),trivial⟩,⟨rfl,(ir 0),(Nat.zero_le _),(ir 0),(ir 0)⟩⟩
 refine sg<|mz E rfl rfl fun a E=>lw E (qaQ rfl rfl) fun a E=>lw E (qau (ps:=[(0,.const (vi 8)),(1,.const (vs ([44]))),(2,.tmp 53),(3,.tmp 55)]) (qs:=[(0,[vi 8]),(1,[(vs ([44]))]),(2,[vi at_1]),(3,[(vi (IntKind.wrap .i64 (at_1 + 1)))])]) (cs:=[vi 8,(vs ([44])),vi at_1,(vi (IntKind.wrap .i64 (at_1 + 1)))]) qaN qaR rfl ⟨rfl,rfl,rfl,⟨rfl,rfl,rfl,⟨rfl,rfl,rfl,⟨rfl,rfl,rfl,trivial⟩⟩⟩⟩ rfl) fun a E=>qad E ok 0 rfl rfl rfl qaW rfl rfl ⟨rfl,rfl,rfl,rfl,trivial⟩ rfl rfl fun w ok=>wn<|wp_ret<|qaL<|qam ?_
 exact fin hF ⟨m0,[vi 8,(vs ([44])),vi at_1,(vi (IntKind.wrap .i64 (at_1 + 1)))],le_m0,ok.drop,E.d,⟨rv_c (cs:=[vi 8,(vs ([44])),vi at_1,(vi (IntKind.wrap .i64 (at_1 + 1)))]) E ok rfl qa4 rfl (qae.own 0 rfl rfl),trivial⟩,⟨rfl,(ir 8),(show ([44]:List UInt8).length ≤ LIMS by decide),rat_1,(InR.wrap _ _)⟩⟩
def qgM (u:World) (m0:Mem) (S:Segs) (r:Int) (a:Act) (w:World):Prop :=
 Ok u m0 S w ∧ a.defers = [] ∧ RVs Tryz.prog a w [.t 4 (.int .i64 r)] ∧ InR .i64 r
theorem qjr (N:Nat) (s_0:List UInt8) (ls_0:s_0.length ≤ LIMS) (at_1:Int) (rat_1:InR .i64 at_1) {r:Int} (hF:qf1 N s_0 at_1 = some r) (hG:Glob u) (ok:Ok u m0 S w) :
  Calls Tryz.prog 107 [vs s_0,vi at_1].toArray w fun e w'=>(e = .returned (.int .i64 r) ∧ Ok u m0 S w') ∧ InR .i64 r:=by
 unfold qf1 at hF
 refine en (qgM u m0 S) r Tryz.func107 rfl rfl rfl (fun _ _ h=>rb h rfl) fun fin a E=>sg<|aw E rfl fun a E=>wp_seq<|wp_block<|bd hF fun o2 hL hF=>qa6 _ (fun (s:Int) a w=>Ok u m0 (S) w ∧ Env 40 a [(0,vs s_0),(1,vi s)] ∧ InR .i64 s) (fun (b:(Int ⊕ Int)) e a w=>(Sum.elim (fun b32=>e = (.exit 0) ∧ Ok u m0 (S) w ∧ Env 40 a [(1,vi b32)] ∧ InR .i64 b32) (fun b34=>e = .ret ∧ qgM u m0 S b34 a w)) b) ?_ ?_ N _ a w hL ⟨ok,E.keep [0,1],rat_1⟩
 rotate_left
 ·intro e a w _ hO
  rcases o2 with o2 | o2
  rotate_left
  ·obtain ⟨rfl,hret⟩:=hO
   refine qaL<|qam ?_
   exact fin hF hret
  have hF:=qb4 hF
  obtain ⟨rfl,ok,E,r31⟩:=hO
  refine qbf<|qaa<|sg<|mv E rfl fun a E=>aw E rfl fun a E=>wp_ret ?_
  exact fin hF ⟨ok,E.d,rz E rfl,r31⟩
 rintro v4 a w r ⟨ok,E,r5⟩ hF
 replace hF:qe8 N s_0 v4 = some r:=hF
 unfold qe8 at hF
 refine wp_seq<|sg<|mz E rfl rfl fun a E=>lw E (qaJ Tryz.underlying9 rfl) fun a E=>lw E (qaS rfl rfl) fun a E=>wn<|cg E rfl hF (fun c6 hF=>?_) fun c6 hF=>?_
 ·refine wp_exit<|qaX ?_
  cases hF
  exact so (sl ⟨rfl,⟨ok,E.keep [1],r5⟩⟩)
 refine wp_skip<|qaa<|wp_block<|wp_block<|sg<|mz E rfl rfl fun a E=>bd hF fun c7 e8 hF=>lv E ok (qaD Tryz.underlying9 rfl rfl e8) fun a E=>lw E (qap rfl rfl) fun a E=>mv E rfl fun a E=>bw E 15 hF (fun c9 hF E=>?_) fun c9 hF E=>?_
 ·refine lsz E fun a E=>ls E fun a E=>pf E rfl rfl fun a E=>mv E rfl fun a E=>lsz E fun a E=>ls E fun a E=>pf E rfl rfl fun a E=>aw E rfl fun a E=>c_if E rfl (fun h=>by cases h) (fun _=>?_)
  refine sg<|mz E rfl rfl fun a E=>bd hF fun c26 e27 hF=>lv E ok (qaD Tryz.underlying9 rfl rfl e27) fun a E=>bd hF fun r28 e29 hF=>lc E qhh rfl (qbL N (c26.toNat:Int) (InR.byte c26) e29 hG ok) fun w ok a E=>lw E (qbh rfl) fun a E=>aw E rfl fun a E=>cf E rfl hF (fun c30 hF=>?_) fun c30 hF=>?_
  ·refine qab<|mv E rfl fun a E=>lw E (qaC rfl rfl (InR.inc r5 (InR.len ls_0) c6)) fun a E=>av E rfl fun a E=>wpList_nil<|qag<|qag ?_
   cases hF
   exact qat ⟨ok,E.keep [0,1],(InR.inc r5 (InR.len ls_0) c6)⟩
  refine sg<|mv E rfl fun a E=>aw E rfl fun a E=>wp_ret<|qaL<|qaL ?_
  cases hF
  exact so (sr ⟨rfl,⟨ok,E.d,rz E rfl,r5⟩⟩)
 refine mv E rfl fun a E=>lw E (qaC rfl rfl (InR.inc r5 (InR.len ls_0) c6)) fun a E=>mv E rfl fun a E=>lw E (qaJ Tryz.underlying9 rfl) fun a E=>lw E (qaS rfl rfl) fun a E=>pt E rfl rfl fun a E=>mv E rfl fun a E=>bw E 22 hF (fun c10 hF E=>?_) fun c10 hF E=>?_
 ·refine lsz E fun a E=>ls E fun a E=>pf E rfl rfl fun a E=>av E rfl fun a E=>wn<|c_if E rfl (fun h=>by cases h) (fun _=>?_)
  refine sg<|mz E rfl rfl fun a E=>bd hF fun c21 e22 hF=>lv E ok (qaD Tryz.underlying9 rfl rfl e22) fun a E=>bd hF fun r23 e24 hF=>lc E qhh rfl (qbL N (c21.toNat:Int) (InR.byte c21) e24 hG ok) fun w ok a E=>lw E (qbh rfl) fun a E=>aw E rfl fun a E=>cf E rfl hF (fun c25 hF=>?_) fun c25 hF=>?_
  ·refine qab<|mv E rfl fun a E=>lw E (qaC rfl rfl (InR.inc r5 (InR.len ls_0) c6)) fun a E=>av E rfl fun a E=>wpList_nil<|qag<|qag ?_
   cases hF
   exact qat ⟨ok,E.keep [0,1],(InR.inc r5 (InR.len ls_0) c6)⟩
  refine sg<|mv E rfl fun a E=>aw E rfl fun a E=>wp_ret<|qaL<|qaL ?_
  cases hF
  exact so (sr ⟨rfl,⟨ok,E.d,rz E rfl,r5⟩⟩)
 refine mz E rfl rfl fun a E=>lw E (qaC rfl rfl (InR.inc r5 (InR.len ls_0) c6)) fun a E=>bd hF fun c11 e12 hF=>lv E ok (qaD Tryz.underlying9 rfl rfl e12) fun a E=>bd hF fun r13 e14 hF=>lc E qhh rfl (qbL N (c11.toNat:Int) (InR.byte c11) e14 hG ok) fun w ok a E=>pt E rfl rfl fun a E=>aw E rfl fun a E=>cf E rfl hF (fun c15 hF=>?_) fun c15 hF=>?_
 ·refine qab<|mv E rfl fun a E=>lw E (qaQ rfl rfl) fun a E=>av E rfl fun a E=>wpList_nil<|qag<|qag ?_
  cases hF
  exact qat ⟨ok,E.keep [0,1],(InR.wrap _ _)⟩
 refine sg<|mz E rfl rfl fun a E=>bd hF fun c16 e17 hF=>lv E ok (qaD Tryz.underlying9 rfl rfl e17) fun a E=>bd hF fun r18 e19 hF=>lc E qhh rfl (qbL N (c16.toNat:Int) (InR.byte c16) e19 hG ok) fun w ok a E=>lw E (qbh rfl) fun a E=>aw E rfl fun a E=>cf E rfl hF (fun c20 hF=>?_) fun c20 hF=>?_
 ·refine qab<|mv E rfl fun a E=>lw E (qaC rfl rfl (InR.inc r5 (InR.len ls_0) c6)) fun a E=>av E rfl fun a E=>wpList_nil<|qag<|qag ?_
  cases hF
  exact qat ⟨ok,E.keep [0,1],(InR.inc r5 (InR.len ls_0) c6)⟩
 refine sg<|mv E rfl fun a E=>aw E rfl fun a E=>wp_ret<|qaL<|qaL ?_
 cases hF
 exact so (sr ⟨rfl,⟨ok,E.d,rz E rfl,r5⟩⟩)
def qjB (u:World) (m0:Mem) (S:Segs) (r:Token) (a:Act) (w:World):Prop :=
 ∃ m1 v0,m0.le m1 ∧ Ok u m1 S w ∧ a.defers = [] ∧ RVs Tryz.prog a w [.c 4 137 (.agg v0.toArray)] ∧ qaU m1 v0 r
theorem qgO (N:Nat) (s_0:List UInt8) (ls_0:s_0.length ≤ LIMS) (at_1:Int) (rat_1:InR .i64 at_1) {r:Token} (hF:qeU N s_0 at_1 = some r) (hG:Glob u) (ok:Ok u m0 S w) :
  Calls Tryz.prog 108 [vs s_0,vi at_1].toArray w fun e w'=>∃ m1 v0,e = .returned (.agg v0.toArray) ∧ m0.le m1 ∧ Ok u m1 S w' ∧ qaU m1 v0 r:=by
 have le_m0:=Mem.le.refl m0
 unfold qeU at hF
 refine en (qjB u m0 S) r Tryz.func108 rfl rfl rfl (by rintro a w ⟨m1,v0,hle,ok,hd,hrv,h0⟩; exact qbs [.c 4 137 (.agg v0.toArray)] hd rfl hrv ⟨m1,v0,rfl,hle,ok,h0⟩) fun fin a E=>sg<|qa3 E ok qaN rfl rfl fun b1 a w E ok=>wn<|sg<|mv E rfl fun a E=>lw E (qaQ rfl rfl) fun a E=>av E rfl fun a E=>aw E rfl fun a E=>wp_seq<|sg<|mz E rfl rfl fun a E=>lw E (qaJ Tryz.underlying9 rfl) fun a E=>lw E (qaS rfl rfl) fun a E=>mv E rfl fun a E=>bw E 15 hF (fun c2 hF E=>?_) fun c2 hF E=>?_
 ·as_aux_lemma =>
   refine lsz E fun a E=>pf E rfl rfl fun a E=>wn<|c_if E rfl (fun h=>by cases h) (fun _=>?_)
   refine wp_skip<|qaa<|sg<|mv E rfl fun a E=>aw E rfl fun a E=>wp_seq<|wp_block<|bd hF fun o67 hL hF=>qa6 _ (fun (s:Int) a w=>Ok u m0 ([(b1,oc 137 [vi 0,(vs ([])),vi 0,vi 0])] :: S) w ∧ Env 87 a [(0,vs s_0),(1,vi at_1),(4,vp b1),(5,vi 5),(6,(vi (IntKind.wrap .i64 (at_1 + 1)))),(7,vi s)] ∧ InR .i64 s) (fun (b:Int) e a w=>e = (.exit 0) ∧ Ok u m0 ([(b1,oc 137 [vi 0,(vs ([])),vi 0,vi 0])] :: S) w ∧ Env 87 a [(0,vs s_0),(1,vi at_1),(4,vp b1),(5,vi 5),(6,(vi (IntKind.wrap .i64 (at_1 + 1)))),(7,vi b)] ∧ InR .i64 b) ?_ ?_ N _ a w hL ⟨ok,E.keep [0,1,4,5,6,7],(InR.wrap _ _)⟩
   ·rintro v69 a w r ⟨ok,E,r70⟩ hF
    replace hF:qfd N s_0 v69 = some r:=hF
    unfold qfd at hF
    refine wp_seq<|sg<|mz E rfl rfl fun a E=>lw E (qaJ Tryz.underlying9 rfl) fun a E=>lw E (qaS rfl rfl) fun a E=>mv E rfl fun a E=>bw E 28 hF (fun c71 hF E=>?_) fun c71 hF E=>?_
    ·refine lsz E fun a E=>pf E rfl rfl fun a E=>wn<|c_if E rfl (fun h=>by cases h) (fun _=>?_)
     refine wp_exit<|qaX ?_
     cases hF
     exact so (⟨rfl,⟨ok,E.keep [0,1,4,5,6,7],r70⟩⟩)
    refine mz E rfl rfl fun a E=>bd hF fun c72 e73 hF=>lv E ok (qaD Tryz.underlying9 rfl rfl e73) fun a E=>bd hF fun r74 e75 hF=>lc E qlC rfl (qej N (c72.toNat:Int) (InR.byte c72) e75 hG ok) fun w ok a E=>pt E rfl rfl fun a E=>wn<|cg E rfl hF (fun c76 hF=>?_) fun c76 hF=>?_
    ·refine wp_exit<|qaX ?_
     cases hF
     exact so (⟨rfl,⟨ok,E.keep [0,1,4,5,6,7],r70⟩⟩)
    refine wp_skip<|qaa<|wp_block<|qab<|mv E rfl fun a E=>lw E (qaC rfl rfl (InR.inc r70 (InR.len ls_0) c71)) fun a E=>av E rfl fun a E=>wpList_nil<|qag ?_
    cases hF
    exact qat ⟨ok,E.keep [0,1,4,5,6,7],(InR.inc r70 (InR.len ls_0) c71)⟩
   intro e a w _ hO
   obtain ⟨rfl,ok,E,r77⟩:=hO
   refine qbf<|qaa<|sg<|mz E rfl rfl fun a E=>mv E rfl fun a E=>lw E (qaJ Tryz.underlying9 rfl) fun a E=>lw E (qog rfl rfl) fun a E=>mv E rfl fun a E=>bd hF fun s78 e79 hF=>lw E (qcd Tryz.underlying9 e79 rfl ⟨_,rfl⟩ ⟨_,rfl⟩) fun a E=>aw E rfl fun a E=>wp_seq<|sg<|mv E rfl fun a E=>lw E (qap rfl rfl) fun a E=>mv E rfl fun a E=>bw E 45 hF (fun c80 hF E=>?_) fun c80 hF E=>?_
   ·as_aux_lemma =>
     refine lsz E fun a E=>pf E rfl rfl fun a E=>mv E rfl fun a E=>lsz E fun a E=>pf E rfl rfl fun a E=>wn<|c_if E rfl (fun h=>by cases h) (fun _=>?_)
     refine wp_skip<|qaa<|wp_seq<|sg<|mz E rfl rfl fun a E=>bd hF fun c110 e111 hF=>lv E ok (qaD Tryz.underlying9 rfl rfl e111) fun a E=>lw E (qbj rfl rfl) fun a E=>mv E rfl fun a E=>bu E 63 hF (fun c112 hF E=>?_) fun c112 hF E=>?_
     ·refine lsq E fun a E=>ls E fun a E=>pt E rfl rfl fun a E=>mv E rfl fun a E=>lsz E fun a E=>pt E rfl rfl fun a E=>mv E rfl fun a E=>lsz E fun a E=>pt E rfl rfl fun a E=>?_
      refine wn<|c_if E rfl (fun _=>?_) (fun h=>by cases h)
      refine sg<|lw E (qau (ps:=[]) (qs:=[]) (cs:=[vi 0,(vs ([])),vi 0,vi 0]) qaN qaR rfl trivial rfl) fun a E=>qad E ok 0 rfl rfl rfl qaW rfl rfl ⟨rfl,rfl,rfl,rfl,trivial⟩ rfl rfl fun w ok=>wn<|wp_ret<|qam ?_
      exact fin hF ⟨m0,[vi 0,(vs ([])),vi 0,vi 0],le_m0,ok.drop,E.d,⟨rv_c (cs:=[vi 0,(vs ([])),vi 0,vi 0]) E ok rfl qa4 rfl (qae.own 0 rfl rfl),trivial⟩,⟨rfl,(ir 0),(Nat.zero_le _),(ir 0),(ir 0)⟩⟩
     refine mv E rfl fun a E=>bd hF fun r113 e114 hF=>lc E qe3 rfl (qbe N s78 (Nat.le_trans (qcc e79) ls_0) e114 hG ok) fun w ok a E=>lw E (qbh rfl) fun a E=>pf E rfl rfl fun a E=>mv E rfl fun a E=>bu E 68 hF (fun c115 hF E=>?_) fun c115 hF E=>?_
     ·refine lsz E fun a E=>pt E rfl rfl fun a E=>mv E rfl fun a E=>lsz E fun a E=>pt E rfl rfl fun a E=>wn<|c_if E rfl (fun _=>?_) (fun h=>by cases h)
      refine sg<|lw E (qau (ps:=[]) (qs:=[]) (cs:=[vi 0,(vs ([])),vi 0,vi 0]) qaN qaR rfl trivial rfl) fun a E=>qad E ok 0 rfl rfl rfl qaW rfl rfl ⟨rfl,rfl,rfl,rfl,trivial⟩ rfl rfl fun w ok=>wn<|wp_ret<|qam ?_
      exact fin hF ⟨m0,[vi 0,(vs ([])),vi 0,vi 0],le_m0,ok.drop,E.d,⟨rv_c (cs:=[vi 0,(vs ([])),vi 0,vi 0]) E ok rfl qa4 rfl (qae.own 0 rfl rfl),trivial⟩,⟨rfl,(ir 0),(Nat.zero_le _),(ir 0),(ir 0)⟩⟩
     refine mz E rfl rfl fun a E=>lw E (qaJ Tryz.underlying9 rfl) fun a E=>lw E (qbK rfl rfl) fun a E=>pf E rfl rfl fun a E=>mv E rfl fun a E=>bu E 74 hF (fun c116 hF E=>?_) fun c116 hF E=>?_
     ·refine lsz E fun a E=>pt E rfl rfl fun a E=>wn<|c_if E rfl (fun _=>?_) (fun h=>by cases h)
      refine sg<|lw E (qau (ps:=[]) (qs:=[]) (cs:=[vi 0,(vs ([])),vi 0,vi 0]) qaN qaR rfl trivial rfl) fun a E=>qad E ok 0 rfl rfl rfl qaW rfl rfl ⟨rfl,rfl,rfl,rfl,trivial⟩ rfl rfl fun w ok=>wn<|wp_ret<|qam ?_
      exact fin hF ⟨m0,[vi 0,(vs ([])),vi 0,vi 0],le_m0,ok.drop,E.d,⟨rv_c (cs:=[vi 0,(vs ([])),vi 0,vi 0]) E ok rfl qa4 rfl (qae.own 0 rfl rfl),trivial⟩,⟨rfl,(ir 0),(Nat.zero_le _),(ir 0),(ir 0)⟩⟩
     refine mz E rfl rfl fun a E=>bd hF fun c117 e118 hF=>lv E ok (qaD Tryz.underlying9 rfl rfl e118) fun a E=>lw E (qbj rfl rfl) fun a E=>pf E rfl rfl fun a E=>wn<|cf E rfl hF (fun c119 hF=>?_) fun c119 hF=>?_
     ·refine sg<|lw E (qau (ps:=[]) (qs:=[]) (cs:=[vi 0,(vs ([])),vi 0,vi 0]) qaN qaR rfl trivial rfl) fun a E=>qad E ok 0 rfl rfl rfl qaW rfl rfl ⟨rfl,rfl,rfl,rfl,trivial⟩ rfl rfl fun w ok=>wn<|wp_ret<|qam ?_
      exact fin hF ⟨m0,[vi 0,(vs ([])),vi 0,vi 0],le_m0,ok.drop,E.d,⟨rv_c (cs:=[vi 0,(vs ([])),vi 0,vi 0]) E ok rfl qa4 rfl (qae.own 0 rfl rfl),trivial⟩,⟨rfl,(ir 0),(Nat.zero_le _),(ir 0),(ir 0)⟩⟩
     refine wp_skip<|qaa<|sg<|mz E rfl rfl fun a E=>mz E rfl rfl fun a E=>lw E (qaQ rfl rfl) fun a E=>lw E (qau (ps:=[(0,.tmp 81),(1,.tmp 82),(2,.tmp 83),(3,.tmp 85)]) (qs:=[(0,[vi 5]),(1,[vs s78]),(2,[vi at_1]),(3,[(vi (IntKind.wrap .i64 (o67 + 1)))])]) (cs:=[vi 5,vs s78,vi at_1,(vi (IntKind.wrap .i64 (o67 + 1)))]) qaN qaR rfl ⟨rfl,rfl,rfl,⟨rfl,rfl,rfl,⟨rfl,rfl,rfl,⟨rfl,rfl,rfl,trivial⟩⟩⟩⟩ rfl) fun a E=>qad E ok 0 rfl rfl rfl qaW rfl rfl ⟨rfl,rfl,rfl,rfl,trivial⟩ rfl rfl fun w ok=>wn<|wp_ret ?_
     exact fin hF ⟨m0,[vi 5,vs s78,vi at_1,(vi (IntKind.wrap .i64 (o67 + 1)))],le_m0,ok.drop,E.d,⟨rv_c (cs:=[vi 5,vs s78,vi at_1,(vi (IntKind.wrap .i64 (o67 + 1)))]) E ok rfl qa4 rfl (qae.own 0 rfl rfl),trivial⟩,⟨rfl,(ir 5),(Nat.le_trans (qcc e79) ls_0),rat_1,(InR.wrap _ _)⟩⟩
   refine mz E rfl rfl fun a E=>lw E (qaJ Tryz.underlying9 rfl) fun a E=>lw E (qaS rfl rfl) fun a E=>pt E rfl rfl fun a E=>mv E rfl fun a E=>bw E 51 hF (fun c81 hF E=>?_) fun c81 hF E=>?_
   ·as_aux_lemma =>
     refine lsz E fun a E=>pf E rfl rfl fun a E=>wn<|c_if E rfl (fun h=>by cases h) (fun _=>?_)
     refine wp_skip<|qaa<|wp_seq<|sg<|mz E rfl rfl fun a E=>bd hF fun c100 e101 hF=>lv E ok (qaD Tryz.underlying9 rfl rfl e101) fun a E=>lw E (qbj rfl rfl) fun a E=>mv E rfl fun a E=>bu E 63 hF (fun c102 hF E=>?_) fun c102 hF E=>?_
     ·refine lsq E fun a E=>ls E fun a E=>pt E rfl rfl fun a E=>mv E rfl fun a E=>lsz E fun a E=>pt E rfl rfl fun a E=>mv E rfl fun a E=>lsz E fun a E=>pt E rfl rfl fun a E=>?_
      refine wn<|c_if E rfl (fun _=>?_) (fun h=>by cases h)
      refine sg<|lw E (qau (ps:=[]) (qs:=[]) (cs:=[vi 0,(vs ([])),vi 0,vi 0]) qaN qaR rfl trivial rfl) fun a E=>qad E ok 0 rfl rfl rfl qaW rfl rfl ⟨rfl,rfl,rfl,rfl,trivial⟩ rfl rfl fun w ok=>wn<|wp_ret<|qam ?_
      exact fin hF ⟨m0,[vi 0,(vs ([])),vi 0,vi 0],le_m0,ok.drop,E.d,⟨rv_c (cs:=[vi 0,(vs ([])),vi 0,vi 0]) E ok rfl qa4 rfl (qae.own 0 rfl rfl),trivial⟩,⟨rfl,(ir 0),(Nat.zero_le _),(ir 0),(ir 0)⟩⟩
     refine mv E rfl fun a E=>bd hF fun r103 e104 hF=>lc E qe3 rfl (qbe N s78 (Nat.le_trans (qcc e79) ls_0) e104 hG ok) fun w ok a E=>lw E (qbh rfl) fun a E=>pf E rfl rfl fun a E=>mv E rfl fun a E=>bu E 68 hF (fun c105 hF E=>?_) fun c105 hF E=>?_
     ·refine lsz E fun a E=>pt E rfl rfl fun a E=>mv E rfl fun a E=>lsz E fun a E=>pt E rfl rfl fun a E=>wn<|c_if E rfl (fun _=>?_) (fun h=>by cases h)
      refine sg<|lw E (qau (ps:=[]) (qs:=[]) (cs:=[vi 0,(vs ([])),vi 0,vi 0]) qaN qaR rfl trivial rfl) fun a E=>qad E ok 0 rfl rfl rfl qaW rfl rfl ⟨rfl,rfl,rfl,rfl,trivial⟩ rfl rfl fun w ok=>wn<|wp_ret<|qam ?_
      exact fin hF ⟨m0,[vi 0,(vs ([])),vi 0,vi 0],le_m0,ok.drop,E.d,⟨rv_c (cs:=[vi 0,(vs ([])),vi 0,vi 0]) E ok rfl qa4 rfl (qae.own 0 rfl rfl),trivial⟩,⟨rfl,(ir 0),(Nat.zero_le _),(ir 0),(ir 0)⟩⟩
     refine mz E rfl rfl fun a E=>lw E (qaJ Tryz.underlying9 rfl) fun a E=>lw E (qbK rfl rfl) fun a E=>pf E rfl rfl fun a E=>mv E rfl fun a E=>bu E 74 hF (fun c106 hF E=>?_) fun c106 hF E=>?_
     ·refine lsz E fun a E=>pt E rfl rfl fun a E=>wn<|c_if E rfl (fun _=>?_) (fun h=>by cases h)
      refine sg<|lw E (qau (ps:=[]) (qs:=[]) (cs:=[vi 0,(vs ([])),vi 0,vi 0]) qaN qaR rfl trivial rfl) fun a E=>qad E ok 0 rfl rfl rfl qaW rfl rfl ⟨rfl,rfl,rfl,rfl,trivial⟩ rfl rfl fun w ok=>wn<|wp_ret<|qam ?_
      exact fin hF ⟨m0,[vi 0,(vs ([])),vi 0,vi 0],le_m0,ok.drop,E.d,⟨rv_c (cs:=[vi 0,(vs ([])),vi 0,vi 0]) E ok rfl qa4 rfl (qae.own 0 rfl rfl),trivial⟩,⟨rfl,(ir 0),(Nat.zero_le _),(ir 0),(ir 0)⟩⟩
     refine mz E rfl rfl fun a E=>bd hF fun c107 e108 hF=>lv E ok (qaD Tryz.underlying9 rfl rfl e108) fun a E=>lw E (qbj rfl rfl) fun a E=>pf E rfl rfl fun a E=>wn<|cf E rfl hF (fun c109 hF=>?_) fun c109 hF=>?_
     ·refine sg<|lw E (qau (ps:=[]) (qs:=[]) (cs:=[vi 0,(vs ([])),vi 0,vi 0]) qaN qaR rfl trivial rfl) fun a E=>qad E ok 0 rfl rfl rfl qaW rfl rfl ⟨rfl,rfl,rfl,rfl,trivial⟩ rfl rfl fun w ok=>wn<|wp_ret<|qam ?_
      exact fin hF ⟨m0,[vi 0,(vs ([])),vi 0,vi 0],le_m0,ok.drop,E.d,⟨rv_c (cs:=[vi 0,(vs ([])),vi 0,vi 0]) E ok rfl qa4 rfl (qae.own 0 rfl rfl),trivial⟩,⟨rfl,(ir 0),(Nat.zero_le _),(ir 0),(ir 0)⟩⟩
     refine wp_skip<|qaa<|sg<|mz E rfl rfl fun a E=>mz E rfl rfl fun a E=>lw E (qaQ rfl rfl) fun a E=>lw E (qau (ps:=[(0,.tmp 81),(1,.tmp 82),(2,.tmp 83),(3,.tmp 85)]) (qs:=[(0,[vi 5]),(1,[vs s78]),(2,[vi at_1]),(3,[(vi (IntKind.wrap .i64 (o67 + 1)))])]) (cs:=[vi 5,vs s78,vi at_1,(vi (IntKind.wrap .i64 (o67 + 1)))]) qaN qaR rfl ⟨rfl,rfl,rfl,⟨rfl,rfl,rfl,⟨rfl,rfl,rfl,⟨rfl,rfl,rfl,trivial⟩⟩⟩⟩ rfl) fun a E=>qad E ok 0 rfl rfl rfl qaW rfl rfl ⟨rfl,rfl,rfl,rfl,trivial⟩ rfl rfl fun w ok=>wn<|wp_ret ?_
     exact fin hF ⟨m0,[vi 5,vs s78,vi at_1,(vi (IntKind.wrap .i64 (o67 + 1)))],le_m0,ok.drop,E.d,⟨rv_c (cs:=[vi 5,vs s78,vi at_1,(vi (IntKind.wrap .i64 (o67 + 1)))]) E ok rfl qa4 rfl (qae.own 0 rfl rfl),trivial⟩,⟨rfl,(ir 5),(Nat.le_trans (qcc e79) ls_0),rat_1,(InR.wrap _ _)⟩⟩
   refine mz E rfl rfl fun a E=>bd hF fun c82 e83 hF=>lv E ok (qaD Tryz.underlying9 rfl rfl e83) fun a E=>lw E (qap rfl rfl) fun a E=>pt E rfl rfl fun a E=>wn<|bd hF fun o84 hJ hF=>qaK (Q':=fun e a w=>e = .normal ∧ Ok u m0 ([(b1,oc 137 [vi 0,(vs ([])),vi 0,vi 0])] :: S) w ∧ Env 87 a [(0,vs s_0),(1,vi at_1),(4,vp b1),(5,vi o84.1),(7,vi o84.2),(8,vs s78)] ∧ InR .i64 o84.1 ∧ InR .i64 o84.2) ?_ ?_
   ·have hF:=hJ
    refine cg E rfl hF (fun c87 hF=>?_) fun c87 hF=>?_
    ·refine wp_skip ?_
     cases hF
     exact ⟨rfl,⟨ok,E.keep [0,1,4,5,7,8],(ir 5),r77⟩⟩
    refine qab<|mv E rfl fun a E=>lw E (qaC rfl rfl (InR.inc r77 (InR.len ls_0) c81)) fun a E=>av E rfl fun a E=>av E rfl fun a E=>wpList_nil ?_
    cases hF
    exact ⟨rfl,⟨ok,E.keep [0,1,4,5,7,8],(ir 7),(InR.inc r77 (InR.len ls_0) c81)⟩⟩
   intro e a w hO
   obtain ⟨rfl,ok,E,r88,r89⟩:=hO
   refine qaa<|wp_seq<|sg<|mz E rfl rfl fun a E=>bd hF fun c90 e91 hF=>lv E ok (qaD Tryz.underlying9 rfl rfl e91) fun a E=>lw E (qbj rfl rfl) fun a E=>mv E rfl fun a E=>bu E 63 hF (fun c92 hF E=>?_) fun c92 hF E=>?_
   ·refine lsq E fun a E=>ls E fun a E=>pt E rfl rfl fun a E=>mv E rfl fun a E=>lsz E fun a E=>pt E rfl rfl fun a E=>mv E rfl fun a E=>lsz E fun a E=>pt E rfl rfl fun a E=>?_
    refine wn<|c_if E rfl (fun _=>?_) (fun h=>by cases h)
    refine sg<|lw E (qau (ps:=[]) (qs:=[]) (cs:=[vi 0,(vs ([])),vi 0,vi 0]) qaN qaR rfl trivial rfl) fun a E=>qad E ok 0 rfl rfl rfl qaW rfl rfl ⟨rfl,rfl,rfl,rfl,trivial⟩ rfl rfl fun w ok=>wn<|wp_ret<|qam ?_
    exact fin hF ⟨m0,[vi 0,(vs ([])),vi 0,vi 0],le_m0,ok.drop,E.d,⟨rv_c (cs:=[vi 0,(vs ([])),vi 0,vi 0]) E ok rfl qa4 rfl (qae.own 0 rfl rfl),trivial⟩,⟨rfl,(ir 0),(Nat.zero_le _),(ir 0),(ir 0)⟩⟩
   refine mv E rfl fun a E=>bd hF fun r93 e94 hF=>lc E qe3 rfl (qbe N s78 (Nat.le_trans (qcc e79) ls_0) e94 hG ok) fun w ok a E=>lw E (qbh rfl) fun a E=>pf E rfl rfl fun a E=>mv E rfl fun a E=>bu E 68 hF (fun c95 hF E=>?_) fun c95 hF E=>?_
   ·refine lsz E fun a E=>pt E rfl rfl fun a E=>mv E rfl fun a E=>lsz E fun a E=>pt E rfl rfl fun a E=>wn<|c_if E rfl (fun _=>?_) (fun h=>by cases h)
    refine sg<|lw E (qau (ps:=[]) (qs:=[]) (cs:=[vi 0,(vs ([])),vi 0,vi 0]) qaN qaR rfl trivial rfl) fun a E=>qad E ok 0 rfl rfl rfl qaW rfl rfl ⟨rfl,rfl,rfl,rfl,trivial⟩ rfl rfl fun w ok=>wn<|wp_ret<|qam ?_
    exact fin hF ⟨m0,[vi 0,(vs ([])),vi 0,vi 0],le_m0,ok.drop,E.d,⟨rv_c (cs:=[vi 0,(vs ([])),vi 0,vi 0]) E ok rfl qa4 rfl (qae.own 0 rfl rfl),trivial⟩,⟨rfl,(ir 0),(Nat.zero_le _),(ir 0),(ir 0)⟩⟩
   refine mz E rfl rfl fun a E=>lw E (qaJ Tryz.underlying9 rfl) fun a E=>lw E (qbK rfl rfl) fun a E=>pf E rfl rfl fun a E=>mv E rfl fun a E=>bu E 74 hF (fun c96 hF E=>?_) fun c96 hF E=>?_
   ·refine lsz E fun a E=>pt E rfl rfl fun a E=>wn<|c_if E rfl (fun _=>?_) (fun h=>by cases h)
    refine sg<|lw E (qau (ps:=[]) (qs:=[]) (cs:=[vi 0,(vs ([])),vi 0,vi 0]) qaN qaR rfl trivial rfl) fun a E=>qad E ok 0 rfl rfl rfl qaW rfl rfl ⟨rfl,rfl,rfl,rfl,trivial⟩ rfl rfl fun w ok=>wn<|wp_ret<|qam ?_
    exact fin hF ⟨m0,[vi 0,(vs ([])),vi 0,vi 0],le_m0,ok.drop,E.d,⟨rv_c (cs:=[vi 0,(vs ([])),vi 0,vi 0]) E ok rfl qa4 rfl (qae.own 0 rfl rfl),trivial⟩,⟨rfl,(ir 0),(Nat.zero_le _),(ir 0),(ir 0)⟩⟩
   refine mz E rfl rfl fun a E=>bd hF fun c97 e98 hF=>lv E ok (qaD Tryz.underlying9 rfl rfl e98) fun a E=>lw E (qbj rfl rfl) fun a E=>pf E rfl rfl fun a E=>wn<|cf E rfl hF (fun c99 hF=>?_) fun c99 hF=>?_
   ·refine sg<|lw E (qau (ps:=[]) (qs:=[]) (cs:=[vi 0,(vs ([])),vi 0,vi 0]) qaN qaR rfl trivial rfl) fun a E=>qad E ok 0 rfl rfl rfl qaW rfl rfl ⟨rfl,rfl,rfl,rfl,trivial⟩ rfl rfl fun w ok=>wn<|wp_ret<|qam ?_
    exact fin hF ⟨m0,[vi 0,(vs ([])),vi 0,vi 0],le_m0,ok.drop,E.d,⟨rv_c (cs:=[vi 0,(vs ([])),vi 0,vi 0]) E ok rfl qa4 rfl (qae.own 0 rfl rfl),trivial⟩,⟨rfl,(ir 0),(Nat.zero_le _),(ir 0),(ir 0)⟩⟩
   refine wp_skip<|qaa<|sg<|mz E rfl rfl fun a E=>mz E rfl rfl fun a E=>lw E (qaQ rfl rfl) fun a E=>lw E (qau (ps:=[(0,.tmp 81),(1,.tmp 82),(2,.tmp 83),(3,.tmp 85)]) (qs:=[(0,[vi o84.1]),(1,[vs s78]),(2,[vi at_1]),(3,[(vi (IntKind.wrap .i64 (o84.2 + 1)))])]) (cs:=[vi o84.1,vs s78,vi at_1,(vi (IntKind.wrap .i64 (o84.2 + 1)))]) qaN qaR rfl ⟨rfl,rfl,rfl,⟨rfl,rfl,rfl,⟨rfl,rfl,rfl,⟨rfl,rfl,rfl,trivial⟩⟩⟩⟩ rfl) fun a E=>qad E ok 0 rfl rfl rfl qaW rfl rfl ⟨rfl,rfl,rfl,rfl,trivial⟩ rfl rfl fun w ok=>wn<|wp_ret ?_
   exact fin hF ⟨m0,[vi o84.1,vs s78,vi at_1,(vi (IntKind.wrap .i64 (o84.2 + 1)))],le_m0,ok.drop,E.d,⟨rv_c (cs:=[vi o84.1,vs s78,vi at_1,(vi (IntKind.wrap .i64 (o84.2 + 1)))]) E ok rfl qa4 rfl (qae.own 0 rfl rfl),trivial⟩,⟨rfl,r88,(Nat.le_trans (qcc e79) ls_0),rat_1,(InR.wrap _ _)⟩⟩
 refine mz E rfl rfl fun a E=>bd hF fun c3 e4 hF=>lv E ok (qaD Tryz.underlying9 rfl rfl e4) fun a E=>lw E (qap rfl rfl) fun a E=>pt E rfl rfl fun a E=>wn<|bd hF fun o5 hJ hF=>qaK (Q':=fun e a w=>e = .normal ∧ Ok u m0 ([(b1,oc 137 [vi 0,(vs ([])),vi 0,vi 0])] :: S) w ∧ Env 87 a [(0,vs s_0),(1,vi at_1),(4,vp b1),(5,vi o5.1),(6,vi o5.2)] ∧ InR .i64 o5.1 ∧ InR .i64 o5.2) ?_ ?_
 ·have hF:=hJ
  refine cg E rfl hF (fun c8 hF=>?_) fun c8 hF=>?_
  ·refine wp_skip ?_
   cases hF
   exact ⟨rfl,⟨ok,E.keep [0,1,4,5,6],(ir 5),(InR.wrap _ _)⟩⟩
  refine qab<|mv E rfl fun a E=>lw E (qaC rfl rfl (InR.inc (InR.wrap _ _) (InR.len ls_0) c2)) fun a E=>av E rfl fun a E=>av E rfl fun a E=>wpList_nil ?_
  cases hF
  exact ⟨rfl,⟨ok,E.keep [0,1,4,5,6],(ir 6),(InR.inc (InR.wrap _ _) (InR.len ls_0) c2)⟩⟩
 intro e a w hO
 obtain ⟨rfl,ok,E,r9,r10⟩:=hO
 refine qaa<|sg<|mv E rfl fun a E=>aw E rfl fun a E=>wp_seq<|wp_block<|bd hF fun o12 hL hF=>qa6 _ (fun (s:Int) a w=>Ok u m0 ([(b1,oc 137 [vi 0,(vs ([])),vi 0,vi 0])] :: S) w ∧ Env 87 a [(0,vs s_0),(1,vi at_1),(4,vp b1),(5,vi o5.1),(6,vi o5.2),(7,vi s)] ∧ InR .i64 s) (fun (b:Int) e a w=>e = (.exit 0) ∧ Ok u m0 ([(b1,oc 137 [vi 0,(vs ([])),vi 0,vi 0])] :: S) w ∧ Env 87 a [(0,vs s_0),(1,vi at_1),(4,vp b1),(5,vi o5.1),(6,vi o5.2),(7,vi b)] ∧ InR .i64 b) ?_ ?_ N _ a w hL ⟨ok,E.keep [0,1,4,5,6,7],r10⟩
 ·rintro v14 a w r ⟨ok,E,r15⟩ hF
  replace hF:qfe N s_0 v14 = some r:=hF
  unfold qfe at hF
  refine wp_seq<|sg<|mz E rfl rfl fun a E=>lw E (qaJ Tryz.underlying9 rfl) fun a E=>lw E (qaS rfl rfl) fun a E=>mv E rfl fun a E=>bw E 28 hF (fun c16 hF E=>?_) fun c16 hF E=>?_
  ·refine lsz E fun a E=>pf E rfl rfl fun a E=>wn<|c_if E rfl (fun h=>by cases h) (fun _=>?_)
   refine wp_exit<|qaX ?_
   cases hF
   exact so (⟨rfl,⟨ok,E.keep [0,1,4,5,6,7],r15⟩⟩)
  refine mz E rfl rfl fun a E=>bd hF fun c17 e18 hF=>lv E ok (qaD Tryz.underlying9 rfl rfl e18) fun a E=>bd hF fun r19 e20 hF=>lc E qlC rfl (qej N (c17.toNat:Int) (InR.byte c17) e20 hG ok) fun w ok a E=>pt E rfl rfl fun a E=>wn<|cg E rfl hF (fun c21 hF=>?_) fun c21 hF=>?_
  ·refine wp_exit<|qaX ?_
   cases hF
   exact so (⟨rfl,⟨ok,E.keep [0,1,4,5,6,7],r15⟩⟩)
  refine wp_skip<|qaa<|wp_block<|qab<|mv E rfl fun a E=>lw E (qaC rfl rfl (InR.inc r15 (InR.len ls_0) c16)) fun a E=>av E rfl fun a E=>wpList_nil<|qag ?_
  cases hF
  exact qat ⟨ok,E.keep [0,1,4,5,6,7],(InR.inc r15 (InR.len ls_0) c16)⟩
 intro e a w _ hO
 obtain ⟨rfl,ok,E,r22⟩:=hO
 refine qbf<|qaa<|sg<|mz E rfl rfl fun a E=>mv E rfl fun a E=>lw E (qaJ Tryz.underlying9 rfl) fun a E=>lw E (qog rfl rfl) fun a E=>mv E rfl fun a E=>bd hF fun s23 e24 hF=>lw E (qcd Tryz.underlying9 e24 rfl ⟨_,rfl⟩ ⟨_,rfl⟩) fun a E=>aw E rfl fun a E=>wp_seq<|sg<|mv E rfl fun a E=>lw E (qap rfl rfl) fun a E=>mv E rfl fun a E=>bw E 45 hF (fun c25 hF E=>?_) fun c25 hF E=>?_
 ·as_aux_lemma =>
   refine lsz E fun a E=>pf E rfl rfl fun a E=>mv E rfl fun a E=>lsz E fun a E=>pf E rfl rfl fun a E=>wn<|c_if E rfl (fun h=>by cases h) (fun _=>?_)
   refine wp_skip<|qaa<|wp_seq<|sg<|mz E rfl rfl fun a E=>bd hF fun c55 e56 hF=>lv E ok (qaD Tryz.underlying9 rfl rfl e56) fun a E=>lw E (qbj rfl rfl) fun a E=>mv E rfl fun a E=>bu E 63 hF (fun c57 hF E=>?_) fun c57 hF E=>?_
   ·refine lsq E fun a E=>ls E fun a E=>pt E rfl rfl fun a E=>mv E rfl fun a E=>lsz E fun a E=>pt E rfl rfl fun a E=>mv E rfl fun a E=>lsz E fun a E=>pt E rfl rfl fun a E=>?_
    refine wn<|c_if E rfl (fun _=>?_) (fun h=>by cases h)
    refine sg<|lw E (qau (ps:=[]) (qs:=[]) (cs:=[vi 0,(vs ([])),vi 0,vi 0]) qaN qaR rfl trivial rfl) fun a E=>qad E ok 0 rfl rfl rfl qaW rfl rfl ⟨rfl,rfl,rfl,rfl,trivial⟩ rfl rfl fun w ok=>wn<|wp_ret<|qam ?_
    exact fin hF ⟨m0,[vi 0,(vs ([])),vi 0,vi 0],le_m0,ok.drop,E.d,⟨rv_c (cs:=[vi 0,(vs ([])),vi 0,vi 0]) E ok rfl qa4 rfl (qae.own 0 rfl rfl),trivial⟩,⟨rfl,(ir 0),(Nat.zero_le _),(ir 0),(ir 0)⟩⟩
   refine mv E rfl fun a E=>bd hF fun r58 e59 hF=>lc E qe3 rfl (qbe N s23 (Nat.le_trans (qcc e24) ls_0) e59 hG ok) fun w ok a E=>lw E (qbh rfl) fun a E=>pf E rfl rfl fun a E=>mv E rfl fun a E=>bu E 68 hF (fun c60 hF E=>?_) fun c60 hF E=>?_
   ·refine lsz E fun a E=>pt E rfl rfl fun a E=>mv E rfl fun a E=>lsz E fun a E=>pt E rfl rfl fun a E=>wn<|c_if E rfl (fun _=>?_) (fun h=>by cases h)
    refine sg<|lw E (qau (ps:=[]) (qs:=[]) (cs:=[vi 0,(vs ([])),vi 0,vi 0]) qaN qaR rfl trivial rfl) fun a E=>qad E ok 0 rfl rfl rfl qaW rfl rfl ⟨rfl,rfl,rfl,rfl,trivial⟩ rfl rfl fun w ok=>wn<|wp_ret<|qam ?_
    exact fin hF ⟨m0,[vi 0,(vs ([])),vi 0,vi 0],le_m0,ok.drop,E.d,⟨rv_c (cs:=[vi 0,(vs ([])),vi 0,vi 0]) E ok rfl qa4 rfl (qae.own 0 rfl rfl),trivial⟩,⟨rfl,(ir 0),(Nat.zero_le _),(ir 0),(ir 0)⟩⟩
   refine mz E rfl rfl fun a E=>lw E (qaJ Tryz.underlying9 rfl) fun a E=>lw E (qbK rfl rfl) fun a E=>pf E rfl rfl fun a E=>mv E rfl fun a E=>bu E 74 hF (fun c61 hF E=>?_) fun c61 hF E=>?_
   ·refine lsz E fun a E=>pt E rfl rfl fun a E=>wn<|c_if E rfl (fun _=>?_) (fun h=>by cases h)
    refine sg<|lw E (qau (ps:=[]) (qs:=[]) (cs:=[vi 0,(vs ([])),vi 0,vi 0]) qaN qaR rfl trivial rfl) fun a E=>qad E ok 0 rfl rfl rfl qaW rfl rfl ⟨rfl,rfl,rfl,rfl,trivial⟩ rfl rfl fun w ok=>wn<|wp_ret<|qam ?_
    exact fin hF ⟨m0,[vi 0,(vs ([])),vi 0,vi 0],le_m0,ok.drop,E.d,⟨rv_c (cs:=[vi 0,(vs ([])),vi 0,vi 0]) E ok rfl qa4 rfl (qae.own 0 rfl rfl),trivial⟩,⟨rfl,(ir 0),(Nat.zero_le _),(ir 0),(ir 0)⟩⟩
   refine mz E rfl rfl fun a E=>bd hF fun c62 e63 hF=>lv E ok (qaD Tryz.underlying9 rfl rfl e63) fun a E=>lw E (qbj rfl rfl) fun a E=>pf E rfl rfl fun a E=>wn<|cf E rfl hF (fun c64 hF=>?_) fun c64 hF=>?_
   ·refine sg<|lw E (qau (ps:=[]) (qs:=[]) (cs:=[vi 0,(vs ([])),vi 0,vi 0]) qaN qaR rfl trivial rfl) fun a E=>qad E ok 0 rfl rfl rfl qaW rfl rfl ⟨rfl,rfl,rfl,rfl,trivial⟩ rfl rfl fun w ok=>wn<|wp_ret<|qam ?_
    exact fin hF ⟨m0,[vi 0,(vs ([])),vi 0,vi 0],le_m0,ok.drop,E.d,⟨rv_c (cs:=[vi 0,(vs ([])),vi 0,vi 0]) E ok rfl qa4 rfl (qae.own 0 rfl rfl),trivial⟩,⟨rfl,(ir 0),(Nat.zero_le _),(ir 0),(ir 0)⟩⟩
   refine wp_skip<|qaa<|sg<|mz E rfl rfl fun a E=>mz E rfl rfl fun a E=>lw E (qaQ rfl rfl) fun a E=>lw E (qau (ps:=[(0,.tmp 81),(1,.tmp 82),(2,.tmp 83),(3,.tmp 85)]) (qs:=[(0,[vi o5.1]),(1,[vs s23]),(2,[vi at_1]),(3,[(vi (IntKind.wrap .i64 (o12 + 1)))])]) (cs:=[vi o5.1,vs s23,vi at_1,(vi (IntKind.wrap .i64 (o12 + 1)))]) qaN qaR rfl ⟨rfl,rfl,rfl,⟨rfl,rfl,rfl,⟨rfl,rfl,rfl,⟨rfl,rfl,rfl,trivial⟩⟩⟩⟩ rfl) fun a E=>qad E ok 0 rfl rfl rfl qaW rfl rfl ⟨rfl,rfl,rfl,rfl,trivial⟩ rfl rfl fun w ok=>wn<|wp_ret ?_
   exact fin hF ⟨m0,[vi o5.1,vs s23,vi at_1,(vi (IntKind.wrap .i64 (o12 + 1)))],le_m0,ok.drop,E.d,⟨rv_c (cs:=[vi o5.1,vs s23,vi at_1,(vi (IntKind.wrap .i64 (o12 + 1)))]) E ok rfl qa4 rfl (qae.own 0 rfl rfl),trivial⟩,⟨rfl,r9,(Nat.le_trans (qcc e24) ls_0),rat_1,(InR.wrap _ _)⟩⟩
 refine mz E rfl rfl fun a E=>lw E (qaJ Tryz.underlying9 rfl) fun a E=>lw E (qaS rfl rfl) fun a E=>pt E rfl rfl fun a E=>mv E rfl fun a E=>bw E 51 hF (fun c26 hF E=>?_) fun c26 hF E=>?_
 ·as_aux_lemma =>
   refine lsz E fun a E=>pf E rfl rfl fun a E=>wn<|c_if E rfl (fun h=>by cases h) (fun _=>?_)
   refine wp_skip<|qaa<|wp_seq<|sg<|mz E rfl rfl fun a E=>bd hF fun c45 e46 hF=>lv E ok (qaD Tryz.underlying9 rfl rfl e46) fun a E=>lw E (qbj rfl rfl) fun a E=>mv E rfl fun a E=>bu E 63 hF (fun c47 hF E=>?_) fun c47 hF E=>?_
   ·refine lsq E fun a E=>ls E fun a E=>pt E rfl rfl fun a E=>mv E rfl fun a E=>lsz E fun a E=>pt E rfl rfl fun a E=>mv E rfl fun a E=>lsz E fun a E=>pt E rfl rfl fun a E=>?_
    refine wn<|c_if E rfl (fun _=>?_) (fun h=>by cases h)
    refine sg<|lw E (qau (ps:=[]) (qs:=[]) (cs:=[vi 0,(vs ([])),vi 0,vi 0]) qaN qaR rfl trivial rfl) fun a E=>qad E ok 0 rfl rfl rfl qaW rfl rfl ⟨rfl,rfl,rfl,rfl,trivial⟩ rfl rfl fun w ok=>wn<|wp_ret<|qam ?_
    exact fin hF ⟨m0,[vi 0,(vs ([])),vi 0,vi 0],le_m0,ok.drop,E.d,⟨rv_c (cs:=[vi 0,(vs ([])),vi 0,vi 0]) E ok rfl qa4 rfl (qae.own 0 rfl rfl),trivial⟩,⟨rfl,(ir 0),(Nat.zero_le _),(ir 0),(ir 0)⟩⟩
   refine mv E rfl fun a E=>bd hF fun r48 e49 hF=>lc E qe3 rfl (qbe N s23 (Nat.le_trans (qcc e24) ls_0) e49 hG ok) fun w ok a E=>lw E (qbh rfl) fun a E=>pf E rfl rfl fun a E=>mv E rfl fun a E=>bu E 68 hF (fun c50 hF E=>?_) fun c50 hF E=>?_
   ·refine lsz E fun a E=>pt E rfl rfl fun a E=>mv E rfl fun a E=>lsz E fun a E=>pt E rfl rfl fun a E=>wn<|c_if E rfl (fun _=>?_) (fun h=>by cases h)
    refine sg<|lw E (qau (ps:=[]) (qs:=[]) (cs:=[vi 0,(vs ([])),vi 0,vi 0]) qaN qaR rfl trivial rfl) fun a E=>qad E ok 0 rfl rfl rfl qaW rfl rfl ⟨rfl,rfl,rfl,rfl,trivial⟩ rfl rfl fun w ok=>wn<|wp_ret<|qam ?_
    exact fin hF ⟨m0,[vi 0,(vs ([])),vi 0,vi 0],le_m0,ok.drop,E.d,⟨rv_c (cs:=[vi 0,(vs ([])),vi 0,vi 0]) E ok rfl qa4 rfl (qae.own 0 rfl rfl),trivial⟩,⟨rfl,(ir 0),(Nat.zero_le _),(ir 0),(ir 0)⟩⟩
   refine mz E rfl rfl fun a E=>lw E (qaJ Tryz.underlying9 rfl) fun a E=>lw E (qbK rfl rfl) fun a E=>pf E rfl rfl fun a E=>mv E rfl fun a E=>bu E 74 hF (fun c51 hF E=>?_) fun c51 hF E=>?_
   ·refine lsz E fun a E=>pt E rfl rfl fun a E=>wn<|c_if E rfl (fun _=>?_) (fun h=>by cases h)
    refine sg<|lw E (qau (ps:=[]) (qs:=[]) (cs:=[vi 0,(vs ([])),vi 0,vi 0]) qaN qaR rfl trivial rfl) fun a E=>qad E ok 0 rfl rfl rfl qaW rfl rfl ⟨rfl,rfl,rfl,rfl,trivial⟩ rfl rfl fun w ok=>wn<|wp_ret<|qam ?_
    exact fin hF ⟨m0,[vi 0,(vs ([])),vi 0,vi 0],le_m0,ok.drop,E.d,⟨rv_c (cs:=[vi 0,(vs ([])),vi 0,vi 0]) E ok rfl qa4 rfl (qae.own 0 rfl rfl),trivial⟩,⟨rfl,(ir 0),(Nat.zero_le _),(ir 0),(ir 0)⟩⟩
   refine mz E rfl rfl fun a E=>bd hF fun c52 e53 hF=>lv E ok (qaD Tryz.underlying9 rfl rfl e53) fun a E=>lw E (qbj rfl rfl) fun a E=>pf E rfl rfl fun a E=>wn<|cf E rfl hF (fun c54 hF=>?_) fun c54 hF=>?_
   ·refine sg<|lw E (qau (ps:=[]) (qs:=[]) (cs:=[vi 0,(vs ([])),vi 0,vi 0]) qaN qaR rfl trivial rfl) fun a E=>qad E ok 0 rfl rfl rfl qaW rfl rfl ⟨rfl,rfl,rfl,rfl,trivial⟩ rfl rfl fun w ok=>wn<|wp_ret<|qam ?_
    exact fin hF ⟨m0,[vi 0,(vs ([])),vi 0,vi 0],le_m0,ok.drop,E.d,⟨rv_c (cs:=[vi 0,(vs ([])),vi 0,vi 0]) E ok rfl qa4 rfl (qae.own 0 rfl rfl),trivial⟩,⟨rfl,(ir 0),(Nat.zero_le _),(ir 0),(ir 0)⟩⟩
   refine wp_skip<|qaa<|sg<|mz E rfl rfl fun a E=>mz E rfl rfl fun a E=>lw E (qaQ rfl rfl) fun a E=>lw E (qau (ps:=[(0,.tmp 81),(1,.tmp 82),(2,.tmp 83),(3,.tmp 85)]) (qs:=[(0,[vi o5.1]),(1,[vs s23]),(2,[vi at_1]),(3,[(vi (IntKind.wrap .i64 (o12 + 1)))])]) (cs:=[vi o5.1,vs s23,vi at_1,(vi (IntKind.wrap .i64 (o12 + 1)))]) qaN qaR rfl ⟨rfl,rfl,rfl,⟨rfl,rfl,rfl,⟨rfl,rfl,rfl,⟨rfl,rfl,rfl,trivial⟩⟩⟩⟩ rfl) fun a E=>qad E ok 0 rfl rfl rfl qaW rfl rfl ⟨rfl,rfl,rfl,rfl,trivial⟩ rfl rfl fun w ok=>wn<|wp_ret ?_
   exact fin hF ⟨m0,[vi o5.1,vs s23,vi at_1,(vi (IntKind.wrap .i64 (o12 + 1)))],le_m0,ok.drop,E.d,⟨rv_c (cs:=[vi o5.1,vs s23,vi at_1,(vi (IntKind.wrap .i64 (o12 + 1)))]) E ok rfl qa4 rfl (qae.own 0 rfl rfl),trivial⟩,⟨rfl,r9,(Nat.le_trans (qcc e24) ls_0),rat_1,(InR.wrap _ _)⟩⟩
 refine mz E rfl rfl fun a E=>bd hF fun c27 e28 hF=>lv E ok (qaD Tryz.underlying9 rfl rfl e28) fun a E=>lw E (qap rfl rfl) fun a E=>pt E rfl rfl fun a E=>wn<|bd hF fun o29 hJ hF=>qaK (Q':=fun e a w=>e = .normal ∧ Ok u m0 ([(b1,oc 137 [vi 0,(vs ([])),vi 0,vi 0])] :: S) w ∧ Env 87 a [(0,vs s_0),(1,vi at_1),(4,vp b1),(5,vi o29.1),(7,vi o29.2),(8,vs s23)] ∧ InR .i64 o29.1 ∧ InR .i64 o29.2) ?_ ?_
 ·have hF:=hJ
  refine cg E rfl hF (fun c32 hF=>?_) fun c32 hF=>?_
  ·refine wp_skip ?_
   cases hF
   exact ⟨rfl,⟨ok,E.keep [0,1,4,5,7,8],r9,r22⟩⟩
  refine qab<|mv E rfl fun a E=>lw E (qaC rfl rfl (InR.inc r22 (InR.len ls_0) c26)) fun a E=>av E rfl fun a E=>av E rfl fun a E=>wpList_nil ?_
  cases hF
  exact ⟨rfl,⟨ok,E.keep [0,1,4,5,7,8],(ir 7),(InR.inc r22 (InR.len ls_0) c26)⟩⟩
 intro e a w hO
 obtain ⟨rfl,ok,E,r33,r34⟩:=hO
 refine qaa<|wp_seq<|sg<|mz E rfl rfl fun a E=>bd hF fun c35 e36 hF=>lv E ok (qaD Tryz.underlying9 rfl rfl e36) fun a E=>lw E (qbj rfl rfl) fun a E=>mv E rfl fun a E=>bu E 63 hF (fun c37 hF E=>?_) fun c37 hF E=>?_
 ·refine lsq E fun a E=>ls E fun a E=>pt E rfl rfl fun a E=>mv E rfl fun a E=>lsz E fun a E=>pt E rfl rfl fun a E=>mv E rfl fun a E=>lsz E fun a E=>pt E rfl rfl fun a E=>?_
  refine wn<|c_if E rfl (fun _=>?_) (fun h=>by cases h)
  refine sg<|lw E (qau (ps:=[]) (qs:=[]) (cs:=[vi 0,(vs ([])),vi 0,vi 0]) qaN qaR rfl trivial rfl) fun a E=>qad E ok 0 rfl rfl rfl qaW rfl rfl ⟨rfl,rfl,rfl,rfl,trivial⟩ rfl rfl fun w ok=>wn<|wp_ret<|qam ?_
  exact fin hF ⟨m0,[vi 0,(vs ([])),vi 0,vi 0],le_m0,ok.drop,E.d,⟨rv_c (cs:=[vi 0,(vs ([])),vi 0,vi 0]) E ok rfl qa4 rfl (qae.own 0 rfl rfl),trivial⟩,⟨rfl,(ir 0),(Nat.zero_le _),(ir 0),(ir 0)⟩⟩
 refine mv E rfl fun a E=>bd hF fun r38 e39 hF=>lc E qe3 rfl (qbe N s23 (Nat.le_trans (qcc e24) ls_0) e39 hG ok) fun w ok a E=>lw E (qbh rfl) fun a E=>pf E rfl rfl fun a E=>mv E rfl fun a E=>bu E 68 hF (fun c40 hF E=>?_) fun c40 hF E=>?_
 ·refine lsz E fun a E=>pt E rfl rfl fun a E=>mv E rfl fun a E=>lsz E fun a E=>pt E rfl rfl fun a E=>wn<|c_if E rfl (fun _=>?_) (fun h=>by cases h)
  refine sg<|lw E (qau (ps:=[]) (qs:=[]) (cs:=[vi 0,(vs ([])),vi 0,vi 0]) qaN qaR rfl trivial rfl) fun a E=>qad E ok 0 rfl rfl rfl qaW rfl rfl ⟨rfl,rfl,rfl,rfl,trivial⟩ rfl rfl fun w ok=>wn<|wp_ret<|qam ?_
  exact fin hF ⟨m0,[vi 0,(vs ([])),vi 0,vi 0],le_m0,ok.drop,E.d,⟨rv_c (cs:=[vi 0,(vs ([])),vi 0,vi 0]) E ok rfl qa4 rfl (qae.own 0 rfl rfl),trivial⟩,⟨rfl,(ir 0),(Nat.zero_le _),(ir 0),(ir 0)⟩⟩
 refine mz E rfl rfl fun a E=>lw E (qaJ Tryz.underlying9 rfl) fun a E=>lw E (qbK rfl rfl) fun a E=>pf E rfl rfl fun a E=>mv E rfl fun a E=>bu E 74 hF (fun c41 hF E=>?_) fun c41 hF E=>?_
 ·refine lsz E fun a E=>pt E rfl rfl fun a E=>wn<|c_if E rfl (fun _=>?_) (fun h=>by cases h)
  refine sg<|lw E (qau (ps:=[]) (qs:=[]) (cs:=[vi 0,(vs ([])),vi 0,vi 0]) qaN qaR rfl trivial rfl) fun a E=>qad E ok 0 rfl rfl rfl qaW rfl rfl ⟨rfl,rfl,rfl,rfl,trivial⟩ rfl rfl fun w ok=>wn<|wp_ret<|qam ?_
  exact fin hF ⟨m0,[vi 0,(vs ([])),vi 0,vi 0],le_m0,ok.drop,E.d,⟨rv_c (cs:=[vi 0,(vs ([])),vi 0,vi 0]) E ok rfl qa4 rfl (qae.own 0 rfl rfl),trivial⟩,⟨rfl,(ir 0),(Nat.zero_le _),(ir 0),(ir 0)⟩⟩
 refine mz E rfl rfl fun a E=>bd hF fun c42 e43 hF=>lv E ok (qaD Tryz.underlying9 rfl rfl e43) fun a E=>lw E (qbj rfl rfl) fun a E=>pf E rfl rfl fun a E=>wn<|cf E rfl hF (fun c44 hF=>?_) fun c44 hF=>?_
 ·refine sg<|lw E (qau (ps:=[]) (qs:=[]) (cs:=[vi 0,(vs ([])),vi 0,vi 0]) qaN qaR rfl trivial rfl) fun a E=>qad E ok 0 rfl rfl rfl qaW rfl rfl ⟨rfl,rfl,rfl,rfl,trivial⟩ rfl rfl fun w ok=>wn<|wp_ret<|qam ?_
  exact fin hF ⟨m0,[vi 0,(vs ([])),vi 0,vi 0],le_m0,ok.drop,E.d,⟨rv_c (cs:=[vi 0,(vs ([])),vi 0,vi 0]) E ok rfl qa4 rfl (qae.own 0 rfl rfl),trivial⟩,⟨rfl,(ir 0),(Nat.zero_le _),(ir 0),(ir 0)⟩⟩
 refine wp_skip<|qaa<|sg<|mz E rfl rfl fun a E=>mz E rfl rfl fun a E=>lw E (qaQ rfl rfl) fun a E=>lw E (qau (ps:=[(0,.tmp 81),(1,.tmp 82),(2,.tmp 83),(3,.tmp 85)]) (qs:=[(0,[vi o29.1]),(1,[vs s23]),(2,[vi at_1]),(3,[(vi (IntKind.wrap .i64 (o29.2 + 1)))])]) (cs:=[vi o29.1,vs s23,vi at_1,(vi (IntKind.wrap .i64 (o29.2 + 1)))]) qaN qaR rfl ⟨rfl,rfl,rfl,⟨rfl,rfl,rfl,⟨rfl,rfl,rfl,⟨rfl,rfl,rfl,trivial⟩⟩⟩⟩ rfl) fun a E=>qad E ok 0 rfl rfl rfl qaW rfl rfl ⟨rfl,rfl,rfl,rfl,trivial⟩ rfl rfl fun w ok=>wn<|wp_ret ?_
 exact fin hF ⟨m0,[vi o29.1,vs s23,vi at_1,(vi (IntKind.wrap .i64 (o29.2 + 1)))],le_m0,ok.drop,E.d,⟨rv_c (cs:=[vi o29.1,vs s23,vi at_1,(vi (IntKind.wrap .i64 (o29.2 + 1)))]) E ok rfl qa4 rfl (qae.own 0 rfl rfl),trivial⟩,⟨rfl,r33,(Nat.le_trans (qcc e24) ls_0),rat_1,(InR.wrap _ _)⟩⟩
def qhX (u:World) (m0:Mem) (S:Segs) (r:Token) (a:Act) (w:World):Prop :=
 ∃ m1 v0,m0.le m1 ∧ Ok u m1 S w ∧ a.defers = [] ∧ RVs Tryz.prog a w [.c 6 137 (.agg v0.toArray)] ∧ qaU m1 v0 r
theorem qfI (N:Nat) (s_0:List UInt8) (ls_0:s_0.length ≤ LIMS) (at_1:Int) (rat_1:InR .i64 at_1) (depth_2:Int) (rdepth_2:InR .i64 depth_2) {r:Token} (hF:qdS N s_0 at_1 depth_2 = some r) (hG:Glob u) (ok:Ok u m0 S w) :
  Calls Tryz.prog 83 [vs s_0,vi at_1,vi depth_2].toArray w fun e w'=>∃ m1 v0,e = .returned (.agg v0.toArray) ∧ m0.le m1 ∧ Ok u m1 S w' ∧ qaU m1 v0 r:=by
 have le_m0:=Mem.le.refl m0
 unfold qdS at hF
 refine en (qhX u m0 S) r Tryz.func83 rfl rfl rfl (by rintro a w ⟨m1,v0,hle,ok,hd,hrv,h0⟩; exact qbs [.c 6 137 (.agg v0.toArray)] hd rfl hrv ⟨m1,v0,rfl,hle,ok,h0⟩) fun fin a E=>sg<|qa3 E ok qaN rfl rfl fun b1 a w E ok=>wn<|wp_seq<|sg<|mz E rfl rfl fun a E=>bd hF fun r2 e3 hF=>qaf E qpl rfl (qjr N s_0 ls_0 at_1 rat_1 e3 hG ok) rfl rfl ?_
 rintro _ w ⟨⟨rfl,ok⟩,r4⟩
 refine ⟨_,rfl,fun a E=>?_⟩
 refine aw E rfl fun a E=>sg<|mz E rfl rfl fun a E=>lw E (qbD rfl rfl) fun a E=>wn<|cf E rfl hF (fun c5 hF=>?_) fun c5 hF=>?_
 ·refine sg<|mz E rfl rfl fun a E=>mv E rfl fun a E=>bd hF fun s6 e7 hF=>lw E (qcd Tryz.underlying9 e7 rfl ⟨_,rfl⟩ ⟨_,rfl⟩) fun a E=>mz E rfl rfl fun a E=>lw E (qau (ps:=[(0,.const (vi 1)),(1,.tmp 17),(2,.tmp 18),(3,.tmp 19)]) (qs:=[(0,[vi 1]),(1,[vs s6]),(2,[vi at_1]),(3,[vi r2])]) (cs:=[vi 1,vs s6,vi at_1,vi r2]) qaN qaR rfl ⟨rfl,rfl,rfl,⟨rfl,rfl,rfl,⟨rfl,rfl,rfl,⟨rfl,rfl,rfl,trivial⟩⟩⟩⟩ rfl) fun a E=>qad E ok 0 rfl rfl rfl qaW rfl rfl ⟨rfl,rfl,rfl,rfl,trivial⟩ rfl rfl fun w ok=>wn<|wp_ret<|qam ?_
  exact fin hF ⟨m0,[vi 1,vs s6,vi at_1,vi r2],le_m0,ok.drop,E.d,⟨rv_c (cs:=[vi 1,vs s6,vi at_1,vi r2]) E ok rfl qa4 rfl (qae.own 0 rfl rfl),trivial⟩,⟨rfl,(ir 1),(Nat.le_trans (qcc e7) ls_0),rat_1,r4⟩⟩
 refine wp_skip<|qaa<|wp_seq<|wp_block<|sg<|mz E rfl rfl fun a E=>bd hF fun c8 e9 hF=>lv E ok (qaD Tryz.underlying9 rfl rfl e9) fun a E=>lw E (qap rfl rfl) fun a E=>aw E rfl fun a E=>cf E rfl hF (fun c10 hF=>?_) fun c10 hF=>?_
 ·refine sg<|mz E rfl rfl fun a E=>lw E (qaQ rfl rfl) fun a E=>lw E (qau (ps:=[(0,.const (vi 2)),(1,.const (vs ([123]))),(2,.tmp 26),(3,.tmp 28)]) (qs:=[(0,[vi 2]),(1,[(vs ([123]))]),(2,[vi at_1]),(3,[(vi (IntKind.wrap .i64 (at_1 + 1)))])]) (cs:=[vi 2,(vs ([123])),vi at_1,(vi (IntKind.wrap .i64 (at_1 + 1)))]) qaN qaR rfl ⟨rfl,rfl,rfl,⟨rfl,rfl,rfl,⟨rfl,rfl,rfl,⟨rfl,rfl,rfl,trivial⟩⟩⟩⟩ rfl) fun a E=>qad E ok 0 rfl rfl rfl qaW rfl rfl ⟨rfl,rfl,rfl,rfl,trivial⟩ rfl rfl fun w ok=>wn<|wp_ret<|qaL<|qam ?_
  exact fin hF ⟨m0,[vi 2,(vs ([123])),vi at_1,(vi (IntKind.wrap .i64 (at_1 + 1)))],le_m0,ok.drop,E.d,⟨rv_c (cs:=[vi 2,(vs ([123])),vi at_1,(vi (IntKind.wrap .i64 (at_1 + 1)))]) E ok rfl qa4 rfl (qae.own 0 rfl rfl),trivial⟩,⟨rfl,(ir 2),(show ([123]:List UInt8).length ≤ LIMS by decide),rat_1,(InR.wrap _ _)⟩⟩
 refine sg<|mz E rfl rfl fun a E=>bd hF fun c11 e12 hF=>lv E ok (qaD Tryz.underlying9 rfl rfl e12) fun a E=>lw E (qap rfl rfl) fun a E=>mv E rfl fun a E=>bw E 35 hF (fun c13 hF E=>?_) fun c13 hF E=>?_
 ·refine lsq E fun a E=>pf E rfl rfl fun a E=>aw E rfl fun a E=>c_if E rfl (fun h=>by cases h) (fun _=>?_)
  refine sg<|mz E rfl rfl fun a E=>bd hF fun c27 e28 hF=>lv E ok (qaD Tryz.underlying9 rfl rfl e28) fun a E=>lw E (qap rfl rfl) fun a E=>aw E rfl fun a E=>cf E rfl hF (fun c29 hF=>?_) fun c29 hF=>?_
  ·refine sg<|mz E rfl rfl fun a E=>lw E (qaQ rfl rfl) fun a E=>lw E (qau (ps:=[(0,.const (vi 4)),(1,.const (vs ([35]))),(2,.tmp 48),(3,.tmp 50)]) (qs:=[(0,[vi 4]),(1,[(vs ([35]))]),(2,[vi at_1]),(3,[(vi (IntKind.wrap .i64 (at_1 + 1)))])]) (cs:=[vi 4,(vs ([35])),vi at_1,(vi (IntKind.wrap .i64 (at_1 + 1)))]) qaN qaR rfl ⟨rfl,rfl,rfl,⟨rfl,rfl,rfl,⟨rfl,rfl,rfl,⟨rfl,rfl,rfl,trivial⟩⟩⟩⟩ rfl) fun a E=>qad E ok 0 rfl rfl rfl qaW rfl rfl ⟨rfl,rfl,rfl,rfl,trivial⟩ rfl rfl fun w ok=>wn<|wp_ret<|qaL<|qam ?_
   exact fin hF ⟨m0,[vi 4,(vs ([35])),vi at_1,(vi (IntKind.wrap .i64 (at_1 + 1)))],le_m0,ok.drop,E.d,⟨rv_c (cs:=[vi 4,(vs ([35])),vi at_1,(vi (IntKind.wrap .i64 (at_1 + 1)))]) E ok rfl qa4 rfl (qae.own 0 rfl rfl),trivial⟩,⟨rfl,(ir 4),(show ([35]:List UInt8).length ≤ LIMS by decide),rat_1,(InR.wrap _ _)⟩⟩
  refine wp_skip<|qag<|qaa<|sg<|mz E rfl rfl fun a E=>bd hF fun r30 e31 hF=>qaf E qm8 rfl (qgO N s_0 ls_0 at_1 rat_1 e31 hG ok) rfl rfl ?_
  rintro _ w ⟨m32,vs33,rfl,hle,ok,h34⟩
  have le_m0:=le_m0.trans hle
  obtain ⟨rfl,r35,l36,r37,r38⟩:=h34
  refine ⟨_,rfl,fun a E=>?_⟩
  refine qad E ok 0 rfl rfl rfl qaW rfl rfl ⟨rfl,rfl,rfl,rfl,trivial⟩ rfl rfl fun w ok=>wn<|wp_ret ?_
  exact fin hF ⟨m32,[vi r30.Kind,vs r30.Text,vi r30.From,vi r30.To],le_m0,ok.drop,E.d,⟨rv_c (cs:=[vi r30.Kind,vs r30.Text,vi r30.From,vi r30.To]) E ok rfl qa4 rfl (qae.own 0 rfl rfl),trivial⟩,⟨rfl,r35,l36,r37,r38⟩⟩
 refine mv E rfl fun a E=>lw E (qbD rfl rfl) fun a E=>pt E rfl rfl fun a E=>aw E rfl fun a E=>cf E rfl hF (fun c14 hF=>?_) fun c14 hF=>?_
 ·refine sg<|mz E rfl rfl fun a E=>lw E (qaQ rfl rfl) fun a E=>lw E (qau (ps:=[(0,.const (vi 3)),(1,.const (vs ([125]))),(2,.tmp 39),(3,.tmp 41)]) (qs:=[(0,[vi 3]),(1,[(vs ([125]))]),(2,[vi at_1]),(3,[(vi (IntKind.wrap .i64 (at_1 + 1)))])]) (cs:=[vi 3,(vs ([125])),vi at_1,(vi (IntKind.wrap .i64 (at_1 + 1)))]) qaN qaR rfl ⟨rfl,rfl,rfl,⟨rfl,rfl,rfl,⟨rfl,rfl,rfl,⟨rfl,rfl,rfl,trivial⟩⟩⟩⟩ rfl) fun a E=>qad E ok 0 rfl rfl rfl qaW rfl rfl ⟨rfl,rfl,rfl,rfl,trivial⟩ rfl rfl fun w ok=>wn<|wp_ret<|qaL<|qam ?_
  exact fin hF ⟨m0,[vi 3,(vs ([125])),vi at_1,(vi (IntKind.wrap .i64 (at_1 + 1)))],le_m0,ok.drop,E.d,⟨rv_c (cs:=[vi 3,(vs ([125])),vi at_1,(vi (IntKind.wrap .i64 (at_1 + 1)))]) E ok rfl qa4 rfl (qae.own 0 rfl rfl),trivial⟩,⟨rfl,(ir 3),(show ([125]:List UInt8).length ≤ LIMS by decide),rat_1,(InR.wrap _ _)⟩⟩
 refine sg<|mz E rfl rfl fun a E=>bd hF fun c15 e16 hF=>lv E ok (qaD Tryz.underlying9 rfl rfl e16) fun a E=>lw E (qap rfl rfl) fun a E=>aw E rfl fun a E=>cf E rfl hF (fun c17 hF=>?_) fun c17 hF=>?_
 ·refine sg<|mz E rfl rfl fun a E=>lw E (qaQ rfl rfl) fun a E=>lw E (qau (ps:=[(0,.const (vi 4)),(1,.const (vs ([35]))),(2,.tmp 48),(3,.tmp 50)]) (qs:=[(0,[vi 4]),(1,[(vs ([35]))]),(2,[vi at_1]),(3,[(vi (IntKind.wrap .i64 (at_1 + 1)))])]) (cs:=[vi 4,(vs ([35])),vi at_1,(vi (IntKind.wrap .i64 (at_1 + 1)))]) qaN qaR rfl ⟨rfl,rfl,rfl,⟨rfl,rfl,rfl,⟨rfl,rfl,rfl,⟨rfl,rfl,rfl,trivial⟩⟩⟩⟩ rfl) fun a E=>qad E ok 0 rfl rfl rfl qaW rfl rfl ⟨rfl,rfl,rfl,rfl,trivial⟩ rfl rfl fun w ok=>wn<|wp_ret<|qaL<|qam ?_
  exact fin hF ⟨m0,[vi 4,(vs ([35])),vi at_1,(vi (IntKind.wrap .i64 (at_1 + 1)))],le_m0,ok.drop,E.d,⟨rv_c (cs:=[vi 4,(vs ([35])),vi at_1,(vi (IntKind.wrap .i64 (at_1 + 1)))]) E ok rfl qa4 rfl (qae.own 0 rfl rfl),trivial⟩,⟨rfl,(ir 4),(show ([35]:List UInt8).length ≤ LIMS by decide),rat_1,(InR.wrap _ _)⟩⟩
 refine wp_skip<|qag<|qaa<|sg<|mz E rfl rfl fun a E=>bd hF fun r18 e19 hF=>qaf E qm8 rfl (qgO N s_0 ls_0 at_1 rat_1 e19 hG ok) rfl rfl ?_
 rintro _ w ⟨m20,vs21,rfl,hle,ok,h22⟩
 have le_m0:=le_m0.trans hle
 obtain ⟨rfl,r23,l24,r25,r26⟩:=h22
 refine ⟨_,rfl,fun a E=>?_⟩
 refine qad E ok 0 rfl rfl rfl qaW rfl rfl ⟨rfl,rfl,rfl,rfl,trivial⟩ rfl rfl fun w ok=>wn<|wp_ret ?_
 exact fin hF ⟨m20,[vi r18.Kind,vs r18.Text,vi r18.From,vi r18.To],le_m0,ok.drop,E.d,⟨rv_c (cs:=[vi r18.Kind,vs r18.Text,vi r18.From,vi r18.To]) E ok rfl qa4 rfl (qae.own 0 rfl rfl),trivial⟩,⟨rfl,r23,l24,r25,r26⟩⟩
def qgo (u:World) (m0:Mem) (S:Segs) (r:(List (Token)) × Int × Int) (a:Act) (w:World):Prop :=
 ∃ m1 v0,m0.le m1 ∧ Ok u m1 S w ∧ a.defers = [] ∧ RVs Tryz.prog a w [.t 2 v0,.t 3 (.int .i64 r.2.1),.t 4 (.int .i64 r.2.2)] ∧ (pL 4 qaU) m1 [v0] r.1 ∧ InR .i64 r.2.1 ∧ InR .i64 r.2.2
theorem qiC (N:Nat) (s_0:List UInt8) (ls_0:s_0.length ≤ LIMS) {r:(List (Token)) × Int × Int} (hF:qfx N s_0 = some r) (hG:Glob u) (ok:Ok u m0 S w) :
  Calls Tryz.prog 63 [vs s_0].toArray w fun e w'=>∃ m1 v0,e = .returned (.tuple [v0,(.int .i64 r.2.1),(.int .i64 r.2.2)].toArray) ∧ m0.le m1 ∧ Ok u m1 S w' ∧ (pL 4 qaU) m1 [v0] r.1 ∧ InR .i64 r.2.1 ∧ InR .i64 r.2.2:=by
 have le_m0:=Mem.le.refl m0
 unfold qfx at hF
 refine en (qgo u m0 S) r Tryz.func63 rfl rfl rfl (by rintro a w ⟨m1,v0,hle,ok,hd,hrv,h0,h1,h2⟩; exact qbs [.t 2 v0,.t 3 (.int .i64 r.2.1),.t 4 (.int .i64 r.2.2)] hd rfl hrv ⟨m1,v0,rfl,hle,ok,h0,h1,h2⟩) fun fin a E=>sg<|av E rfl fun a E=>av E rfl fun a E=>aw E rfl fun a E=>wp_seq<|sg<|mv E rfl fun a E=>lw E (qaJ Tryz.underlying9 rfl) fun a E=>lw E (qbD rfl rfl) fun a E=>wn<|cf E rfl hF (fun c1 hF=>?_) fun c1 hF=>?_
 ·refine sg<|av E rfl fun a E=>av E rfl fun a E=>aw E rfl fun a E=>wp_ret<|qam ?_
  exact fin hF ⟨m0,(.slice none 0 0),le_m0,ok,E.d,⟨rv_t E rfl,rv_t E rfl,rv_t E rfl,trivial⟩,qca,(ir 4000),(ir 6)⟩
 refine wp_skip<|qaa<|sg<|aw E rfl fun a E=>sg<|av E rfl fun a E=>aw E rfl fun a E=>wp_seq<|wp_block ?_
 obtain ⟨M9,ok,h10⟩:=qee (e:=137) (k:=4) (R:=qaU) ok
 refine bd hF fun o11 hL hF=>qa6 _ (fun (s:(List (Token)) × Int × Int) a w=>∃ m12 c13 M14,m0.le m12 ∧ Ok u m12 (M14 :: S) w ∧ Env 62 a [(0,vs s_0),(5,c13),(6,vi s.2.1),(7,vi s.2.2)] ∧ ORow 137 4 qaU m12 c13 s.1 M14 ∧ InR .i64 s.2.1 ∧ InR .i64 s.2.2) (fun (b:(((List (Token)) × Int) ⊕ ((List (Token)) × Int × Int))) e a w=>(Sum.elim (fun b134=>e = (.exit 0) ∧ ∃ m135 c136 M137,m0.le m135 ∧ Ok u m135 (M137 :: S) w ∧ Env 62 a [(0,vs s_0),(5,c136),(7,vi b134.2)] ∧ ORow 137 4 qaU m135 c136 b134.1 M137 ∧ InR .i64 b134.2) (fun b140=>e = .ret ∧ qgo u m0 S b140 a w)) b) ?_ ?_ N _ a w hL ⟨m0,(Value.slice none 0 0),M9,Mem.le.refl _,ok,E.keep [0,5,6,7],h10,(ir 0),(ir 0)⟩
 rotate_left
 ·intro e a w _ hO
  rcases o11 with o11 | o11
  rotate_left
  ·obtain ⟨rfl,hret⟩:=hO
   refine qaL<|qam ?_
   exact fin hF hret
  have hF:=qb4 hF
  obtain ⟨rfl,m126,c127,M128,hle,ok,E,h129,r130⟩:=hO
  have le_m0:=le_m0.trans hle
  refine qbf<|qaa<|wp_seq<|sg<|mv E rfl fun a E=>lw E (qbD rfl rfl) fun a E=>wn<|cf E rfl hF (fun c131 hF=>?_) fun c131 hF=>?_
  ·refine sg<|mv E rfl fun a E=>lw E (qaJ Tryz.underlying9 rfl) fun a E=>av E rfl fun a E=>av E rfl fun a E=>av E rfl fun a E=>wn<|wp_ret<|qam ?_
   exact fin hF ⟨m126,(.slice none 0 0),le_m0,ok.drop,E.d,⟨rv_t E rfl,rv_t E rfl,rv_t E rfl,trivial⟩,qca,(InR.len ls_0),(ir 3)⟩
  refine wp_skip<|qaa<|sg<|mv E rfl fun a E=>av E rfl fun a E=>av E rfl fun a E=>av E rfl fun a E=>wn<|wp_ret ?_
  obtain ⟨m132,hle,ok,hfz⟩:=(ok.frs 0 rfl).freeze
  have h133:=ORow.froz qac h129 hle hfz (by decide)
  have le_m0:=le_m0.trans hle
  exact fin hF ⟨m132,c127,le_m0,ok,E.d,⟨rv_t E rfl,rv_t E rfl,rv_t E rfl,trivial⟩,h133,(ir 0),(ir 0)⟩
 rintro ⟨v18,v19,v20⟩ a w r ⟨m21,c22,M23,hle,ok,E,h24,r25,r26⟩ hF
 replace hF:qeO N s_0 v18 v19 v20 = some r:=hF
 unfold qeO at hF
 have le_m0:=le_m0.trans hle
 refine wp_seq<|sg<|mz E rfl rfl fun a E=>lw E (qaJ Tryz.underlying9 rfl) fun a E=>lw E (qaS rfl rfl) fun a E=>wn<|cg E rfl hF (fun c27 hF=>?_) fun c27 hF=>?_
 ·refine wp_exit<|qaX ?_
  cases hF
  exact so (sl ⟨rfl,⟨m21,c22,M23,le_m0,ok,E.keep [0,5,7],h24,r26⟩⟩)
 refine wp_skip<|qaa<|wp_block<|sg<|mv E rfl fun a E=>bd hF fun q28 e29 hF=>lw E (y_rm rfl rfl e29) fun a E=>lw E (qap rfl rfl) fun a E=>aw E rfl fun a E=>wp_seq<|sg<|mz E rfl rfl fun a E=>bw E 21 hF (fun c30 hF E=>?_) fun c30 hF E=>?_
 ·as_aux_lemma =>
   refine lsz E fun a E=>pf E rfl rfl fun a E=>wn<|c_if E rfl (fun h=>by cases h) (fun _=>?_)
   refine wp_skip<|qaa<|sg<|lw E (qau (ps:=[]) (qs:=[]) (cs:=[vi 0,(vs ([])),vi 0,vi 0]) qaN qaR rfl trivial rfl) fun a E=>qa3 E ok qaN rfl rfl fun b81 a w E ok=>qad E ok 0 rfl rfl rfl qaW rfl rfl ⟨rfl,rfl,rfl,rfl,trivial⟩ rfl rfl fun w ok=>wn<|wp_seq<|sg<|mv E rfl fun a E=>wn<|bd hF fun o82 hJ hF=>qaK (Q':=fun e a w=>e = .normal ∧ ∃ m83,m21.le m83 ∧ Ok u m83 ([(b81,oc 137 [vi o82.Kind,vs o82.Text,vi o82.From,vi o82.To])] :: M23 :: S) w ∧ Env 62 a [(0,vs s_0),(5,c22),(6,vi v19),(7,vi v20),(9,vp b81)] ∧ InR .i64 o82.Kind ∧ o82.Text.length ≤ LIMS ∧ InR .i64 o82.From ∧ InR .i64 o82.To) ?_ ?_
   ·have hF:=hJ
    have le_m21:=Mem.le.refl m21
    refine cf E rfl hF (fun c88 hF=>?_) fun c88 hF=>?_
    ·refine qab<|mz E rfl rfl fun a E=>bd hF fun r89 e90 hF=>qaf E qok rfl (qgg N s_0 ls_0 v19 r25 e90 hG ok) rfl rfl ?_
     rintro _ w ⟨m91,vs92,rfl,hle,ok,h93⟩
     have le_m0:=le_m0.trans hle
     have le_m21:=le_m21.trans hle
     have h24:=ORow.up qac hle h24
     obtain ⟨rfl,r94,l95,r96,r97⟩:=h93
     refine ⟨_,rfl,fun a E=>?_⟩
     refine qad E ok 0 rfl rfl rfl qaW rfl rfl ⟨rfl,rfl,rfl,rfl,trivial⟩ rfl rfl fun w ok=>wpList_nil ?_
     cases hF
     exact ⟨rfl,⟨m91,le_m21,ok,E.keep [0,5,6,7,9],r94,l95,r96,r97⟩⟩
    refine qab<|mz E rfl rfl fun a E=>mv E rfl fun a E=>bd hF fun r98 e99 hF=>qaf E qoh rfl (qfI N s_0 ls_0 v19 r25 v20 r26 e99 hG ok) rfl rfl ?_
    rintro _ w ⟨m100,vs101,rfl,hle,ok,h102⟩
    have le_m0:=le_m0.trans hle
    have le_m21:=le_m21.trans hle
    have h24:=ORow.up qac hle h24
    obtain ⟨rfl,r103,l104,r105,r106⟩:=h102
    refine ⟨_,rfl,fun a E=>?_⟩
    refine qad E ok 0 rfl rfl rfl qaW rfl rfl ⟨rfl,rfl,rfl,rfl,trivial⟩ rfl rfl fun w ok=>wpList_nil ?_
    cases hF
    exact ⟨rfl,⟨m100,le_m21,ok,E.keep [0,5,6,7,9],r103,l104,r105,r106⟩⟩
   intro e a w hO
   obtain ⟨rfl,m107,hle,ok,E,r108,l109,r110,r111⟩:=hO
   have le_m0:=le_m0.trans hle
   have h24:=ORow.up qac hle h24
   refine qaa<|wp_seq<|sg<|fk E ok qcl qaq rfl 0 rfl rfl fun a E=>wn<|wp_block<|sg<|lw E (qap rfl rfl) fun a E=>aw E rfl fun a E=>cf E rfl hF (fun c112 hF=>?_) fun c112 hF=>?_
   ·refine sg<|mv E rfl fun a E=>av E rfl fun a E=>av E rfl fun a E=>aw E rfl fun a E=>wp_ret<|qaL<|qam<|qaL ?_
    cases hF
    exact so (sr ⟨rfl,⟨m107,(.slice none 0 0),le_m0,ok.drop.drop,E.d,⟨rv_t E rfl,rv_t E rfl,rv_t E rfl,trivial⟩,qca,r25,(ir 3)⟩⟩)
   refine sg<|lw E (qap rfl rfl) fun a E=>aw E rfl fun a E=>bd hF fun o113 hJ hF=>qaK (Q':=fun e a w=>e = .normal ∧ Ok u m107 ([(b81,oc 137 [vi o82.Kind,vs o82.Text,vi o82.From,vi o82.To])] :: M23 :: S) w ∧ Env 62 a [(0,vs s_0),(5,c22),(7,vi o113),(9,vp b81)] ∧ InR .i64 o113) ?_ ?_
   rotate_left
   ·intro e a w hO
    obtain ⟨rfl,ok,E,r117⟩:=hO
    refine qag<|qaa<|sg<|mv E rfl fun a E=>lv E ok (qan (cs:=[vi o82.Kind,vs o82.Text,vi o82.From,vi o82.To]) qa4 rfl rfl (qae.own 0 rfl rfl)) fun a E=>qbt (R:=qaU) (xo:=[.tmp 52]) (xs:=([o82]:List (Token))) E ok qgW qaN rfl ⟨⟨_,rfl,rfl,⟨rfl,r108,l109,r110,r111⟩⟩,trivial⟩ rfl rfl rfl rfl fun c118 M119 a w E ok h120=>bd hF fun l121 e122 hF=>qcn (R:=qaU) E ok 2 qac qgW Tryz.underlying116 rfl h24 (qbz.ofRow h120 0 rfl ok) e122 ⟨_,qaN,rfl⟩ rfl rfl rfl rfl fun c123 M124 a w E ok h125=>aw E rfl fun a E=>qab<|fk E ok ql5 qaq rfl 1 rfl rfl fun a E=>av E rfl fun a E=>wpList_nil<|qag ?_
    cases hF
    exact qat ⟨m107,c123,M124,le_m0,(ok.pk 3 [2] rfl (by decide)),E.keep [0,5,6,7],h125,r111,r117⟩
   have hF:=hJ
   refine cf E rfl hF (fun c115 hF=>?_) fun c115 hF=>?_
   ·refine qab<|mv E rfl fun a E=>lw E (qaQ rfl rfl) fun a E=>av E rfl fun a E=>wpList_nil ?_
    cases hF
    exact ⟨rfl,⟨ok,E.keep [0,5,7,9],(InR.wrap _ _)⟩⟩
   refine sg<|lw E (qap rfl rfl) fun a E=>aw E rfl fun a E=>cg E rfl hF (fun c116 hF=>?_) fun c116 hF=>?_
   ·refine wp_skip ?_
    cases hF
    exact ⟨rfl,⟨ok,E.keep [0,5,7,9],r26⟩⟩
   refine qab<|mv E rfl fun a E=>lw E (qcY rfl rfl) fun a E=>av E rfl fun a E=>wpList_nil ?_
   cases hF
   exact ⟨rfl,⟨ok,E.keep [0,5,7,9],(InR.wrap _ _)⟩⟩
 refine mz E rfl rfl fun a E=>bd hF fun c31 e32 hF=>lv E ok (qaD Tryz.underlying9 rfl rfl e32) fun a E=>bd hF fun r33 e34 hF=>lc E qpU rfl (qi6 N (c31.toNat:Int) (InR.byte c31) e34 hG ok) fun w ok a E=>pt E rfl rfl fun a E=>wn<|cf E rfl hF (fun c35 hF=>?_) fun c35 hF=>?_
 ·refine sg<|mv E rfl fun a E=>lw E (qaC rfl rfl (InR.inc r25 (InR.len ls_0) c27)) fun a E=>aw E rfl fun a E=>wp_exit<|qaX<|qbf ?_
  cases hF
  exact qat ⟨m21,c22,M23,le_m0,ok,E.keep [0,5,6,7],h24,(InR.inc r25 (InR.len ls_0) c27),r26⟩
 refine wp_skip<|qaa<|sg<|lw E (qau (ps:=[]) (qs:=[]) (cs:=[vi 0,(vs ([])),vi 0,vi 0]) qaN qaR rfl trivial rfl) fun a E=>qa3 E ok qaN rfl rfl fun b36 a w E ok=>qad E ok 0 rfl rfl rfl qaW rfl rfl ⟨rfl,rfl,rfl,rfl,trivial⟩ rfl rfl fun w ok=>wn<|wp_seq<|sg<|mv E rfl fun a E=>wn<|bd hF fun o37 hJ hF=>qaK (Q':=fun e a w=>e = .normal ∧ ∃ m38,m21.le m38 ∧ Ok u m38 ([(b36,oc 137 [vi o37.Kind,vs o37.Text,vi o37.From,vi o37.To])] :: M23 :: S) w ∧ Env 62 a [(0,vs s_0),(5,c22),(6,vi v19),(7,vi v20),(9,vp b36)] ∧ InR .i64 o37.Kind ∧ o37.Text.length ≤ LIMS ∧ InR .i64 o37.From ∧ InR .i64 o37.To) ?_ ?_
 ·have hF:=hJ
  have le_m21:=Mem.le.refl m21
  refine cf E rfl hF (fun c43 hF=>?_) fun c43 hF=>?_
  ·refine qab<|mz E rfl rfl fun a E=>bd hF fun r44 e45 hF=>qaf E qok rfl (qgg N s_0 ls_0 v19 r25 e45 hG ok) rfl rfl ?_
   rintro _ w ⟨m46,vs47,rfl,hle,ok,h48⟩
   have le_m0:=le_m0.trans hle
   have le_m21:=le_m21.trans hle
   have h24:=ORow.up qac hle h24
   obtain ⟨rfl,r49,l50,r51,r52⟩:=h48
   refine ⟨_,rfl,fun a E=>?_⟩
   refine qad E ok 0 rfl rfl rfl qaW rfl rfl ⟨rfl,rfl,rfl,rfl,trivial⟩ rfl rfl fun w ok=>wpList_nil ?_
   cases hF
   exact ⟨rfl,⟨m46,le_m21,ok,E.keep [0,5,6,7,9],r49,l50,r51,r52⟩⟩
  refine qab<|mz E rfl rfl fun a E=>mv E rfl fun a E=>bd hF fun r53 e54 hF=>qaf E qoh rfl (qfI N s_0 ls_0 v19 r25 v20 r26 e54 hG ok) rfl rfl ?_
  rintro _ w ⟨m55,vs56,rfl,hle,ok,h57⟩
  have le_m0:=le_m0.trans hle
  have le_m21:=le_m21.trans hle
  have h24:=ORow.up qac hle h24
  obtain ⟨rfl,r58,l59,r60,r61⟩:=h57
  refine ⟨_,rfl,fun a E=>?_⟩
  refine qad E ok 0 rfl rfl rfl qaW rfl rfl ⟨rfl,rfl,rfl,rfl,trivial⟩ rfl rfl fun w ok=>wpList_nil ?_
  cases hF
  exact ⟨rfl,⟨m55,le_m21,ok,E.keep [0,5,6,7,9],r58,l59,r60,r61⟩⟩
 intro e a w hO
 obtain ⟨rfl,m62,hle,ok,E,r63,l64,r65,r66⟩:=hO
 have le_m0:=le_m0.trans hle
 have h24:=ORow.up qac hle h24
 refine qaa<|wp_seq<|sg<|fk E ok qcl qaq rfl 0 rfl rfl fun a E=>wn<|wp_block<|sg<|lw E (qap rfl rfl) fun a E=>aw E rfl fun a E=>cf E rfl hF (fun c67 hF=>?_) fun c67 hF=>?_
 ·refine sg<|mv E rfl fun a E=>av E rfl fun a E=>av E rfl fun a E=>aw E rfl fun a E=>wp_ret<|qaL<|qam<|qaL ?_
  cases hF
  exact so (sr ⟨rfl,⟨m62,(.slice none 0 0),le_m0,ok.drop.drop,E.d,⟨rv_t E rfl,rv_t E rfl,rv_t E rfl,trivial⟩,qca,r25,(ir 3)⟩⟩)
 refine sg<|lw E (qap rfl rfl) fun a E=>aw E rfl fun a E=>bd hF fun o68 hJ hF=>qaK (Q':=fun e a w=>e = .normal ∧ Ok u m62 ([(b36,oc 137 [vi o37.Kind,vs o37.Text,vi o37.From,vi o37.To])] :: M23 :: S) w ∧ Env 62 a [(0,vs s_0),(5,c22),(7,vi o68),(9,vp b36)] ∧ InR .i64 o68) ?_ ?_
 rotate_left
 ·intro e a w hO
  obtain ⟨rfl,ok,E,r72⟩:=hO
  refine qag<|qaa<|sg<|mv E rfl fun a E=>lv E ok (qan (cs:=[vi o37.Kind,vs o37.Text,vi o37.From,vi o37.To]) qa4 rfl rfl (qae.own 0 rfl rfl)) fun a E=>qbt (R:=qaU) (xo:=[.tmp 52]) (xs:=([o37]:List (Token))) E ok qgW qaN rfl ⟨⟨_,rfl,rfl,⟨rfl,r63,l64,r65,r66⟩⟩,trivial⟩ rfl rfl rfl rfl fun c73 M74 a w E ok h75=>bd hF fun l76 e77 hF=>qcn (R:=qaU) E ok 2 qac qgW Tryz.underlying116 rfl h24 (qbz.ofRow h75 0 rfl ok) e77 ⟨_,qaN,rfl⟩ rfl rfl rfl rfl fun c78 M79 a w E ok h80=>aw E rfl fun a E=>qab<|fk E ok ql5 qaq rfl 1 rfl rfl fun a E=>av E rfl fun a E=>wpList_nil<|qag ?_
  cases hF
  exact qat ⟨m62,c78,M79,le_m0,(ok.pk 3 [2] rfl (by decide)),E.keep [0,5,6,7],h80,r66,r72⟩
 have hF:=hJ
 refine cf E rfl hF (fun c70 hF=>?_) fun c70 hF=>?_
 ·refine qab<|mv E rfl fun a E=>lw E (qaQ rfl rfl) fun a E=>av E rfl fun a E=>wpList_nil ?_
  cases hF
  exact ⟨rfl,⟨ok,E.keep [0,5,7,9],(InR.wrap _ _)⟩⟩
 refine sg<|lw E (qap rfl rfl) fun a E=>aw E rfl fun a E=>cg E rfl hF (fun c71 hF=>?_) fun c71 hF=>?_
 ·refine wp_skip ?_
  cases hF
  exact ⟨rfl,⟨ok,E.keep [0,5,7,9],r26⟩⟩
 refine qab<|mv E rfl fun a E=>lw E (qcY rfl rfl) fun a E=>av E rfl fun a E=>wpList_nil ?_
 cases hF
 exact ⟨rfl,⟨ok,E.keep [0,5,7,9],(InR.wrap _ _)⟩⟩
end Go.Proofs.YtllnjbnknjpbjaaGreatDoor
namespace Go.Proofs.YtllnjbnknjpbjaaGreatDoor
open Go.X
variable {u:World} {m0:Mem} {S:Segs} {w:World}
set_option maxHeartbeats 4000000
set_option maxRecDepth 100000
def qhJ (u:World) (m0:Mem) (S:Segs) (pb0:Nat) (x0:State) (c1:Value) (c4:Value) (M5:List (Nat × Obj)) (r:Token) (a:Act) (w:World):Prop :=
 ∃ m1 v0,m0.le m1 ∧ Ok u m1 ([(pb0,oc 121 [c1,vi x0.end_,c4,vi x0.at_,vi x0.e])] :: M5 :: S) w ∧ a.defers = [] ∧ RVs Tryz.prog a w [.c 2 137 (.agg v0.toArray)] ∧ qaU m1 v0 r
theorem qaB (N:Nat) {pb0:Nat} {c1:Value} {c4:Value} {M5:List (Nat × Obj)} (x0:State) (h2:(pL 4 qaU) m0 [c1] x0.left) (r3:InR .i64 x0.end_) (h6:ORow 9 1 pS m0 c4 x0.names M5) (r7:InR .i64 x0.at_) (r8:InR .i64 x0.e) {r:Token} (hF:qaF N x0 = some r) (hG:Glob u) (ok:Ok u m0 ([(pb0,oc 121 [c1,vi x0.end_,c4,vi x0.at_,vi x0.e])] :: M5 :: S) w) :
  Calls Tryz.prog 84 [vp pb0].toArray w fun e w'=>∃ m1 v0,e = .returned (.agg v0.toArray) ∧ m0.le m1 ∧ Ok u m1 ([(pb0,oc 121 [c1,vi x0.end_,c4,vi x0.at_,vi x0.e])] :: M5 :: S) w' ∧ qaU m1 v0 r:=by
 have le_m0:=Mem.le.refl m0
 unfold qaF at hF
 refine en (qhJ u m0 S pb0 x0 c1 c4 M5) r Tryz.func84 rfl rfl rfl (by rintro a w ⟨m1,v0,hle,ok,hd,hrv,h0⟩; exact qbs [.c 2 137 (.agg v0.toArray)] hd rfl hrv ⟨m1,v0,rfl,hle,ok,h0⟩) fun fin a E=>sg<|qa3 E ok qaN rfl rfl fun b9 a w E ok=>wn<|wp_seq<|sg<|mv E rfl fun a E=>lw E (qaj rfl) fun a E=>fk E ok qhM qjF rfl 1 rfl rfl fun a E=>lv E ok (qbb qgW h2 rfl) fun a E=>lw E (qap rfl rfl) fun a E=>wn<|cg E rfl hF (fun c10 hF=>?_) fun c10 hF=>?_
 ·refine wp_skip<|qaa<|sg<|mv E rfl fun a E=>lw E (qaj rfl) fun a E=>fk E ok qhM qjF rfl 1 rfl rfl fun a E=>?_
  obtain ⟨x20,e21,hF⟩:=bnd hF
  obtain ⟨b22,o23,es24,hl25,rr26,at27,yy28⟩:=qlA qgW h2 e21 (P:=Tryz.prog) (X:=.tmp 21) (I:=.const (vi 0)) (kd:=.i64) (qbQ E rfl) (qbQ E rfl)
  obtain ⟨rfl,r29,l30,r31,r32⟩:=rr26
  refine lv E ok (yy28 _ _) fun a E=>lv E ok (qan (cs:=[vi x20.Kind,vs x20.Text,vi x20.From,vi x20.To]) qa4 rfl rfl (qae.ro at27)) fun a E=>qad E ok 0 rfl rfl rfl qaW rfl rfl ⟨rfl,rfl,rfl,rfl,trivial⟩ rfl rfl fun w ok=>wn<|wp_ret ?_
  exact fin hF ⟨m0,[vi x20.Kind,vs x20.Text,vi x20.From,vi x20.To],le_m0,ok.drop,E.d,⟨rv_c (cs:=[vi x20.Kind,vs x20.Text,vi x20.From,vi x20.To]) E ok rfl qa4 rfl (qae.own 0 rfl rfl),trivial⟩,⟨rfl,r29,l30,r31,r32⟩⟩
 refine wp_seq<|bd hF fun o11 hJ hF=>qaK (Q':=fun e a w=>e = .normal ∧ Ok u m0 ([(b9,oc 137 [vi o11.Kind,vs o11.Text,vi o11.From,vi o11.To])] :: [(pb0,oc 121 [c1,vi x0.end_,c4,vi x0.at_,vi x0.e])] :: M5 :: S) w ∧ Env 24 a [(2,vp b9)] ∧ InR .i64 o11.Kind ∧ o11.Text.length ≤ LIMS ∧ InR .i64 o11.From ∧ InR .i64 o11.To) ?_ ?_
 rotate_left
 ·intro e a w hO
  obtain ⟨rfl,ok,E,r16,l17,r18,r19⟩:=hO
  refine qaa<|wp_ret<|qam ?_
  exact fin hF ⟨m0,[vi o11.Kind,vs o11.Text,vi o11.From,vi o11.To],le_m0,ok.drop,E.d,⟨rv_c (cs:=[vi o11.Kind,vs o11.Text,vi o11.From,vi o11.To]) E ok rfl qa4 rfl (qae.own 0 rfl rfl),trivial⟩,⟨rfl,r16,l17,r18,r19⟩⟩
 have hF:=hJ
 cases hF
 refine qbl [3,7] (Cls u m0 ([(b9,oc 137 [vi 0,(vs ([])),vi 0,vi 0])] :: [(pb0,oc 121 [c1,vi x0.end_,c4,vi x0.at_,vi x0.e])] :: M5 :: [])) (Cls u m0 ([(pb0,oc 121 [c1,vi x0.end_,c4,vi x0.at_,vi x0.e])] :: M5 :: [])) (by kernel_rfl) ?_
 intro w hw
 replace ok:=qbE ok hw
 clear hw
 refine qar (cl1 (cq le_m0 ok [0,1,2] rfl) (cq le_m0 ok [1,2] rfl)) fun hT=>kt 0 E rfl hT (qah rfl) fun a E=>kt 1 E rfl hT (qaj rfl) fun a E=>kt 2 E rfl hT (qai ql8 rfl) fun a E=>qct 3 E rfl (by kernel_rfl) nP hT (qaz qaq rfl (qae.cown 1 rfl rfl)) rfl rfl fun a E=>kt 4 E rfl hT (qah rfl) fun a E=>kt 5 E rfl hT (qaj rfl) fun a E=>kt 6 E rfl hT (qai ql8 rfl) fun a E=>qct 7 E rfl (by kernel_rfl) nP hT (qaz qaq rfl (qae.cown 1 rfl rfl)) rfl rfl fun a E=>kt 8 E rfl hT (qau (ps:=[(2,.tmp 12),(3,.tmp 16)]) (qs:=[(2,[vi x0.end_]),(3,[vi x0.end_])]) (cs:=[vi 0,(vs ([])),vi x0.end_,vi x0.end_]) qaN qaR rfl ⟨rfl,rfl,rfl,⟨rfl,rfl,rfl,trivial⟩⟩ rfl) fun a E=>qaP [9] (by kernel_rfl) rfl (qaT ?_)
 ·refine wo rfl<|qad E ok 0 rfl rfl rfl qaW rfl rfl ⟨rfl,rfl,rfl,rfl,trivial⟩ rfl rfl fun w ok=>wn<|qar (cl2 (by kernel_rfl) (cq le_m0 ok [1,2] rfl)) fun hT=>qbw (by kernel_rfl) ?_
  exact ⟨rfl,⟨ok,E.keep [2],(ir 0),(Nat.zero_le _),r3,r3⟩⟩
def qhw (u:World) (m0:Mem) (S:Segs) (pb0:Nat) (x0:State) (c1:Value) (c4:Value) (M5:List (Nat × Obj)) (r:State) (a:Act) (w:World):Prop :=
 ∃ m1 c9 c12 M13,m0.le m1 ∧ Ok u m1 ([(pb0,oc 121 [c9,vi r.end_,c12,vi r.at_,vi r.e])] :: M13 :: S) w ∧ a.defers = [] ∧ RVs Tryz.prog a w [] ∧ (pL 4 qaU) m1 [c9] r.left ∧ InR .i64 r.end_ ∧ ORow 9 1 pS m1 c12 r.names M13 ∧ InR .i64 r.at_ ∧ InR .i64 r.e
theorem qa5 (N:Nat) (e_1:Int) (re_1:InR .i64 e_1) {pb0:Nat} {c1:Value} {c4:Value} {M5:List (Nat × Obj)} (x0:State) (h2:(pL 4 qaU) m0 [c1] x0.left) (r3:InR .i64 x0.end_) (h6:ORow 9 1 pS m0 c4 x0.names M5) (r7:InR .i64 x0.at_) (r8:InR .i64 x0.e) {r:State} (hF:qaZ N e_1 x0 = some r) (hG:Glob u) (ok:Ok u m0 ([(pb0,oc 121 [c1,vi x0.end_,c4,vi x0.at_,vi x0.e])] :: M5 :: S) w) :
  Calls Tryz.prog 65 [vp pb0,vi e_1].toArray w fun e w'=>∃ m1 c9 c12 M13,e = .returned (.tuple [].toArray) ∧ m0.le m1 ∧ Ok u m1 ([(pb0,oc 121 [c9,vi r.end_,c12,vi r.at_,vi r.e])] :: M13 :: S) w' ∧ (pL 4 qaU) m1 [c9] r.left ∧ InR .i64 r.end_ ∧ ORow 9 1 pS m1 c12 r.names M13 ∧ InR .i64 r.at_ ∧ InR .i64 r.e:=by
 have le_m0:=Mem.le.refl m0
 unfold qaZ at hF
 refine en (qhw u m0 S pb0 x0 c1 c4 M5) r Tryz.func65 rfl rfl rfl (by rintro a w ⟨m1,c9,c12,M13,hle,ok,hd,hrv,h0,h1,h2,h3,h4⟩; exact qbs [] hd rfl hrv ⟨m1,c9,c12,M13,rfl,hle,ok,h0,h1,h2,h3,h4⟩) fun fin a E=>sg<|mv E rfl fun a E=>lw E (qaj rfl) fun a E=>fk E ok qdd qeF rfl 0 rfl rfl fun a E=>lw E (qap rfl rfl) fun a E=>wn<|cg E rfl hF (fun c17 hF=>?_) fun c17 hF=>?_
 ·refine wp_skip ?_
  exact fin hF ⟨m0,c1,c4,M5,le_m0,ok,E.d,trivial,h2,r3,h6,r7,r8⟩
 refine qab<|mz E rfl rfl fun a E=>mz E rfl rfl fun a E=>bd hF fun r18 e19 hF=>qaf E qc4 rfl (qaB N x0 h2 r3 h6 r7 r8 e19 hG ok) rfl rfl ?_
 rintro _ w ⟨m20,vs21,rfl,hle,ok,h22⟩
 have le_m0:=le_m0.trans hle
 have h2:=(mL qac).up hle h2
 have h6:=ORow.up mS hle h6
 obtain ⟨rfl,r23,l24,r25,r26⟩:=h22
 refine ⟨_,rfl,fun a E=>?_⟩
 refine lv E ok (qcs (cs:=[vi r18.Kind,vs r18.Text,vi r18.From,vi r18.To]) Tryz.underlying137 rfl (qaY qaq rfl) rfl) fun a E=>lw E (qaj rfl) fun a E=>fv E qdd rfl fun a E=>qad E ok 0 rfl rfl rfl qpp rfl rfl ⟨rfl,trivial⟩ rfl rfl fun w ok=>lw E (qaj rfl) fun a E=>fv E qj4 rfl fun a E=>qad E ok 0 rfl rfl rfl qgj rfl rfl ⟨rfl,trivial⟩ rfl rfl fun w ok=>wpList_nil ?_
 exact fin hF ⟨m20,c1,c4,M5,le_m0,ok,E.d,trivial,h2,r3,h6,r25,re_1⟩
def qdG (u:World) (m0:Mem) (S:Segs) (r:(List UInt8) × Int × Int) (a:Act) (w:World):Prop :=
 Ok u m0 S w ∧ a.defers = [] ∧ RVs Tryz.prog a w [.t 2 (.string (bs r.1)),.t 3 (.int .i64 r.2.1),.t 4 (.int .i64 r.2.2)] ∧ r.1.length ≤ LIMS ∧ InR .i64 r.2.1 ∧ InR .i64 r.2.2
theorem qh7 (N:Nat) (s_0:List UInt8) (ls_0:s_0.length ≤ LIMS) {r:(List UInt8) × Int × Int} (hF:qeV N s_0 = some r) (hG:Glob u) (ok:Ok u m0 S w) :
  Calls Tryz.prog 85 [vs s_0].toArray w fun e w'=>(e = .returned (.tuple [(.string (bs r.1)),(.int .i64 r.2.1),(.int .i64 r.2.2)].toArray) ∧ Ok u m0 S w') ∧ r.1.length ≤ LIMS ∧ InR .i64 r.2.1 ∧ InR .i64 r.2.2:=by
 unfold qeV at hF
 refine en (qdG u m0 S) r Tryz.func85 rfl rfl rfl (by rintro a w ⟨ok,hd,hrv,h0,h1,h2⟩; exact qbs [.t 2 (.string (bs r.1)),.t 3 (.int .i64 r.2.1),.t 4 (.int .i64 r.2.2)] hd rfl hrv ⟨⟨rfl,ok⟩,h0,h1,h2⟩) fun fin a E=>sg<|av E rfl fun a E=>av E rfl fun a E=>aw E rfl fun a E=>sg<|aw E rfl fun a E=>wp_seq<|sg<|aw E rfl fun a E=>wp_block ?_
 obtain ⟨M6,ok,h7⟩:=qee (e:=5) (k:=1) (R:=(pI .u8)) ok
 refine bd hF fun o8 hL hF=>qa6 _ (fun (s:(List (Int)) × Int) a w=>∃ c9 M10,Ok u m0 (M10 :: S) w ∧ Env 46 a [(0,vs s_0),(5,c9),(6,vi s.2)] ∧ ORow 5 1 (pI .u8) m0 c9 s.1 M10 ∧ InR .i64 s.2) (fun (b:(((List (Int))) ⊕ ((List UInt8) × Int × Int))) e a w=>(Sum.elim (fun b82=>e = (.exit 0) ∧ ∃ c83 M84,Ok u m0 (M84 :: S) w ∧ Env 46 a [(5,c83)] ∧ ORow 5 1 (pI .u8) m0 c83 b82 M84) (fun b86=>e = .ret ∧ qdG u m0 S b86 a w)) b) ?_ ?_ N _ a w hL ⟨(Value.slice none 0 0),M6,ok,E.keep [0,5,6],h7,(ir 0)⟩
 rotate_left
 ·intro e a w _ hO
  rcases o8 with o8 | o8
  rotate_left
  ·obtain ⟨rfl,hret⟩:=hO
   refine qaL<|qam ?_
   exact fin hF hret
  have hF:=qb4 hF
  obtain ⟨rfl,c79,M80,ok,E,h81⟩:=hO
  refine qbf<|qaa<|sg<|mv E rfl fun a E=>lv E ok (qgV Tryz.underlying66 Tryz.underlying5 Tryz.underlying9 rfl (BR.ofRow h81 0 rfl)) fun a E=>av E rfl fun a E=>av E rfl fun a E=>aw E rfl fun a E=>wp_ret ?_
  exact fin hF ⟨ok.drop,E.d,⟨rv_t E rfl,rv_t E rfl,rv_t E rfl,trivial⟩,(Nat.le_trans (Nat.le_of_eq qdH) h81.form.2),(ir 0),(ir 0)⟩
 rintro ⟨v13,v14⟩ a w r ⟨c15,M16,ok,E,h17,r18⟩ hF
 replace hF:qek N s_0 v13 v14 = some r:=hF
 unfold qek at hF
 refine wp_seq<|sg<|mz E rfl rfl fun a E=>lw E (qaJ Tryz.underlying9 rfl) fun a E=>lw E (qaS rfl rfl) fun a E=>wn<|cg E rfl hF (fun c19 hF=>?_) fun c19 hF=>?_
 ·refine wp_exit<|qaX ?_
  cases hF
  exact so (sl ⟨rfl,⟨c15,M16,ok,E.keep [5],h17⟩⟩)
 refine wp_skip<|qaa<|wp_seq<|wp_block<|wp_seq<|sg<|mv E rfl fun a E=>mv E rfl fun a E=>bd hF fun c20 e21 hF=>lv E ok (qaD Tryz.underlying9 rfl rfl e21) fun a E=>lw E (qap rfl rfl) fun a E=>mv E rfl fun a E=>bw E 17 hF (fun c22 hF E=>?_) fun c22 hF E=>?_
 ·refine lsz E fun a E=>ls E fun a E=>pf E rfl rfl fun a E=>mv E rfl fun a E=>lsz E fun a E=>ls E fun a E=>pf E rfl rfl fun a E=>wn<|c_if E rfl (fun h=>by cases h) (fun _=>?_)
  refine sg<|mz E rfl rfl fun a E=>bd hF fun c64 e65 hF=>lv E ok (qaD Tryz.underlying9 rfl rfl e65) fun a E=>bd hF fun r66 e67 hF=>lc E qhh rfl (qbL N (c64.toNat:Int) (InR.byte c64) e67 hG ok) fun w ok a E=>wn<|cf E rfl hF (fun c68 hF=>?_) fun c68 hF=>?_
  ·refine sg<|mv E rfl fun a E=>av E rfl fun a E=>av E rfl fun a E=>aw E rfl fun a E=>wp_ret<|qam<|qaL<|qam ?_
   cases hF
   exact so (sr ⟨rfl,⟨ok.drop,E.d,⟨rv_t E rfl,rv_t E rfl,rv_t E rfl,trivial⟩,(show ([]:List UInt8).length ≤ LIMS by decide),r18,(ir 3)⟩⟩)
  refine wp_skip<|qaa<|qab<|mz E rfl rfl fun a E=>mv E rfl fun a E=>bd hF fun c69 e70 hF=>lv E ok (qaD Tryz.underlying9 rfl rfl e70) fun a E=>qbt (R:=(pI .u8)) (xo:=[.tmp 41]) (xs:=([(c69.toNat:Int)]:List (Int))) E ok qex qdN rfl ⟨⟨_,rfl,rfl,(qdr (InR.byte c69))⟩,trivial⟩ rfl rfl rfl rfl fun c71 M72 a w E ok h73=>bd hF fun l74 e75 hF=>qcn (R:=(pI .u8)) E ok 1 (mI .u8) qex Tryz.underlying66 rfl h17 (qbz.ofRow h73 0 rfl ok) e75 ⟨_,qdN,rfl⟩ rfl rfl rfl rfl fun c76 M77 a w E ok h78=>av E rfl fun a E=>wpList_nil<|qag<|qaa<|qab<|mv E rfl fun a E=>lw E (qaC rfl rfl (InR.inc r18 (InR.len ls_0) c19)) fun a E=>av E rfl fun a E=>wpList_nil ?_
  cases hF
  exact qat ⟨c76,M77,(ok.pk 2 [1] rfl (by decide)),E.keep [0,5,6],h78,(InR.inc r18 (InR.len ls_0) c19)⟩
 refine mv E rfl fun a E=>lw E (qaC rfl rfl (InR.inc r18 (InR.len ls_0) c19)) fun a E=>mv E rfl fun a E=>lw E (qaJ Tryz.underlying9 rfl) fun a E=>lw E (qaS rfl rfl) fun a E=>pt E rfl rfl fun a E=>mv E rfl fun a E=>bw E 24 hF (fun c23 hF E=>?_) fun c23 hF E=>?_
 ·refine lsz E fun a E=>ls E fun a E=>pf E rfl rfl fun a E=>wn<|c_if E rfl (fun h=>by cases h) (fun _=>?_)
  refine sg<|mz E rfl rfl fun a E=>bd hF fun c49 e50 hF=>lv E ok (qaD Tryz.underlying9 rfl rfl e50) fun a E=>bd hF fun r51 e52 hF=>lc E qhh rfl (qbL N (c49.toNat:Int) (InR.byte c49) e52 hG ok) fun w ok a E=>wn<|cf E rfl hF (fun c53 hF=>?_) fun c53 hF=>?_
  ·refine sg<|mv E rfl fun a E=>av E rfl fun a E=>av E rfl fun a E=>aw E rfl fun a E=>wp_ret<|qam<|qaL<|qam ?_
   cases hF
   exact so (sr ⟨rfl,⟨ok.drop,E.d,⟨rv_t E rfl,rv_t E rfl,rv_t E rfl,trivial⟩,(show ([]:List UInt8).length ≤ LIMS by decide),r18,(ir 3)⟩⟩)
  refine wp_skip<|qaa<|qab<|mz E rfl rfl fun a E=>mv E rfl fun a E=>bd hF fun c54 e55 hF=>lv E ok (qaD Tryz.underlying9 rfl rfl e55) fun a E=>qbt (R:=(pI .u8)) (xo:=[.tmp 41]) (xs:=([(c54.toNat:Int)]:List (Int))) E ok qex qdN rfl ⟨⟨_,rfl,rfl,(qdr (InR.byte c54))⟩,trivial⟩ rfl rfl rfl rfl fun c56 M57 a w E ok h58=>bd hF fun l59 e60 hF=>qcn (R:=(pI .u8)) E ok 1 (mI .u8) qex Tryz.underlying66 rfl h17 (qbz.ofRow h58 0 rfl ok) e60 ⟨_,qdN,rfl⟩ rfl rfl rfl rfl fun c61 M62 a w E ok h63=>av E rfl fun a E=>wpList_nil<|qag<|qaa<|qab<|mv E rfl fun a E=>lw E (qaC rfl rfl (InR.inc r18 (InR.len ls_0) c19)) fun a E=>av E rfl fun a E=>wpList_nil ?_
  cases hF
  exact qat ⟨c61,M62,(ok.pk 2 [1] rfl (by decide)),E.keep [0,5,6],h63,(InR.inc r18 (InR.len ls_0) c19)⟩
 refine mz E rfl rfl fun a E=>lw E (qaC rfl rfl (InR.inc r18 (InR.len ls_0) c19)) fun a E=>bd hF fun c24 e25 hF=>lv E ok (qaD Tryz.underlying9 rfl rfl e25) fun a E=>bd hF fun r26 e27 hF=>lc E qhh rfl (qbL N (c24.toNat:Int) (InR.byte c24) e27 hG ok) fun w ok a E=>pt E rfl rfl fun a E=>wn<|bd hF fun o28 hJ hF=>qaK (Q':=fun e a w=>(Sum.elim (fun b29=>e = .normal ∧ Ok u m0 (M16 :: S) w ∧ Env 46 a [(0,vs s_0),(5,c15),(6,vi b29)] ∧ InR .i64 b29) (fun b31=>e = .ret ∧ qdG u m0 S b31 a w)) o28) ?_ ?_
 rotate_left
 ·intro e a w hO
  rcases o28 with o28 | o28
  rotate_left
  ·have hF:=qpG hF
   obtain ⟨rfl,hret⟩:=hO
   refine qam<|qaL<|qam ?_
   cases hF
   exact so (sr ⟨rfl,hret⟩)
  have hF:=qb4 hF
  obtain ⟨rfl,ok,E,r38⟩:=hO
  refine qaa<|qab<|mz E rfl rfl fun a E=>mv E rfl fun a E=>bd hF fun c39 e40 hF=>lv E ok (qaD Tryz.underlying9 rfl rfl e40) fun a E=>qbt (R:=(pI .u8)) (xo:=[.tmp 41]) (xs:=([(c39.toNat:Int)]:List (Int))) E ok qex qdN rfl ⟨⟨_,rfl,rfl,(qdr (InR.byte c39))⟩,trivial⟩ rfl rfl rfl rfl fun c41 M42 a w E ok h43=>bd hF fun l44 e45 hF=>qcn (R:=(pI .u8)) E ok 1 (mI .u8) qex Tryz.underlying66 rfl h17 (qbz.ofRow h43 0 rfl ok) e45 ⟨_,qdN,rfl⟩ rfl rfl rfl rfl fun c46 M47 a w E ok h48=>av E rfl fun a E=>wpList_nil<|qag<|qaa<|qab<|mv E rfl fun a E=>lw E (qaQ rfl rfl) fun a E=>av E rfl fun a E=>wpList_nil ?_
  cases hF
  exact qat ⟨c46,M47,(ok.pk 2 [1] rfl (by decide)),E.keep [0,5,6],h48,(InR.wrap _ _)⟩
 have hF:=hJ
 refine cf E rfl hF (fun c32 hF=>?_) fun c32 hF=>?_
 ·refine qab<|mv E rfl fun a E=>lw E (qaC rfl rfl (InR.inc r18 (InR.len ls_0) c19)) fun a E=>av E rfl fun a E=>wpList_nil ?_
  cases hF
  exact (sl ⟨rfl,⟨ok,E.keep [0,5,6],(InR.inc r18 (InR.len ls_0) c19)⟩⟩)
 refine sg<|mz E rfl rfl fun a E=>bd hF fun c33 e34 hF=>lv E ok (qaD Tryz.underlying9 rfl rfl e34) fun a E=>bd hF fun r35 e36 hF=>lc E qhh rfl (qbL N (c33.toNat:Int) (InR.byte c33) e36 hG ok) fun w ok a E=>wn<|cg E rfl hF (fun c37 hF=>?_) fun c37 hF=>?_
 ·refine wp_skip ?_
  cases hF
  exact (sl ⟨rfl,⟨ok,E.keep [0,5,6],r18⟩⟩)
 refine sg<|mv E rfl fun a E=>av E rfl fun a E=>av E rfl fun a E=>aw E rfl fun a E=>wp_ret ?_
 have hret:qdG u m0 S ([],v14,3) a w:=⟨ok.drop,E.d,⟨rv_t E rfl,rv_t E rfl,rv_t E rfl,trivial⟩,(show ([]:List UInt8).length ≤ LIMS by decide),r18,(ir 3)⟩
 cases hF
 exact (sr ⟨rfl,hret⟩)
def qhP (u:World) (m0:Mem) (S:Segs) (pb0:Nat) (x0:State) (c1:Value) (c4:Value) (M5:List (Nat × Obj)) (r:(List UInt8) × State) (a:Act) (w:World):Prop :=
 ∃ m1 c9 c12 M13,m0.le m1 ∧ Ok u m1 ([(pb0,oc 121 [c9,vi r.2.end_,c12,vi r.2.at_,vi r.2.e])] :: M13 :: S) w ∧ a.defers = [] ∧ RVs Tryz.prog a w [.t 4 (.string (bs r.1))] ∧ r.1.length ≤ LIMS ∧ (pL 4 qaU) m1 [c9] r.2.left ∧ InR .i64 r.2.end_ ∧ ORow 9 1 pS m1 c12 r.2.names M13 ∧ InR .i64 r.2.at_ ∧ InR .i64 r.2.e
theorem qav (N:Nat) (kind_1:Int) (rkind_1:InR .i64 kind_1) {pb0:Nat} {c1:Value} {c4:Value} {M5:List (Nat × Obj)} (x0:State) (h2:(pL 4 qaU) m0 [c1] x0.left) (r3:InR .i64 x0.end_) (h6:ORow 9 1 pS m0 c4 x0.names M5) (r7:InR .i64 x0.at_) (r8:InR .i64 x0.e) {r:(List UInt8) × State} (hF:qaw N kind_1 x0 = some r) (hG:Glob u) (ok:Ok u m0 ([(pb0,oc 121 [c1,vi x0.end_,c4,vi x0.at_,vi x0.e])] :: M5 :: S) w) :
  Calls Tryz.prog 86 [vp pb0,vi kind_1].toArray w fun e w'=>∃ m1 c9 c12 M13,e = .returned (.string (bs r.1)) ∧ m0.le m1 ∧ Ok u m1 ([(pb0,oc 121 [c9,vi r.2.end_,c12,vi r.2.at_,vi r.2.e])] :: M13 :: S) w' ∧ r.1.length ≤ LIMS ∧ (pL 4 qaU) m1 [c9] r.2.left ∧ InR .i64 r.2.end_ ∧ ORow 9 1 pS m1 c12 r.2.names M13 ∧ InR .i64 r.2.at_ ∧ InR .i64 r.2.e:=by
 have le_m0:=Mem.le.refl m0
 unfold qaw at hF
 refine en (qhP u m0 S pb0 x0 c1 c4 M5) r Tryz.func86 rfl rfl rfl (by rintro a w ⟨m1,c9,c12,M13,hle,ok,hd,hrv,h0,h1,h2,h3,h4,h5⟩; exact qbs [.t 4 (.string (bs r.1))] hd rfl hrv ⟨m1,c9,c12,M13,rfl,hle,ok,h0,h1,h2,h3,h4,h5⟩) fun fin a E=>sg<|aw E rfl fun a E=>sg<|mv E rfl fun a E=>bd hF fun r17 e18 hF=>qaf E qc4 rfl (qaB N x0 h2 r3 h6 r7 r8 e18 hG ok) rfl rfl ?_
 rintro _ w ⟨m19,vs20,rfl,hle,ok,h21⟩
 have le_m0:=le_m0.trans hle
 have h2:=(mL qac).up hle h2
 have h6:=ORow.up mS hle h6
 obtain ⟨rfl,r22,l23,r24,r25⟩:=h21
 refine ⟨_,rfl,fun a E=>?_⟩
 refine qa3 E ok qaN rfl rfl fun b26 a w E ok=>qad E ok 0 rfl rfl rfl qaW rfl rfl ⟨rfl,rfl,rfl,rfl,trivial⟩ rfl rfl fun w ok=>wn<|wp_seq<|sg<|fv E qcl rfl fun a E=>ld E ok qaq 0 rfl rfl rfl fun a E=>mv E rfl fun a E=>lw E (qbj rfl rfl) fun a E=>wn<|bd hF fun o27 hJ hF=>qaK (Q':=fun e a w=>e = .normal ∧ ∃ m28 c29 c32 M33,m19.le m28 ∧ Ok u m28 ([(b26,oc 137 [vi r17.Kind,vs r17.Text,vi r17.From,vi r17.To])] :: [(pb0,oc 121 [c29,vi o27.end_,c32,vi o27.at_,vi o27.e])] :: M33 :: S) w ∧ Env 29 a [(0,vp pb0),(5,vp b26)] ∧ (pL 4 qaU) m28 [c29] o27.left ∧ InR .i64 o27.end_ ∧ ORow 9 1 pS m28 c32 o27.names M33 ∧ InR .i64 o27.at_ ∧ InR .i64 o27.e) ?_ ?_
 ·have hF:=hJ
  have le_m19:=Mem.le.refl m19
  refine cg E rfl hF (fun c37 hF=>?_) fun c37 hF=>?_
  ·refine wp_skip ?_
   cases hF
   exact ⟨rfl,⟨m19,c1,c4,M5,le_m19,ok,E.keep [0,5],h2,r3,h6,r7,r8⟩⟩
  refine qab<|mv E rfl fun a E=>?_
  obtain ⟨r38,e39,hF⟩:=bnd hF
  replace ok:Ok u m19 ([(pb0,oc 121 [c1,vi x0.end_,c4,vi x0.at_,vi x0.e])] :: M5 :: [(b26,oc 137 [vi r17.Kind,vs r17.Text,vi r17.From,vi r17.To])] :: S) w:=(ok.pk 3 [1,2,0] rfl (by decide))
  refine qaf E qfH rfl (qa5 N 3 (ir 3) x0 h2 r3 h6 r7 r8 e39 hG ok) rfl rfl ?_
  rintro _ w ⟨m40,c41,c44,M45,rfl,hle,ok,h42,r43,h46,r47,r48⟩
  have le_m0:=le_m0.trans hle
  have le_m19:=le_m19.trans hle
  have h2:=(mL qac).up hle h2
  refine ⟨_,rfl,fun a E=>?_⟩
  refine wpList_nil ?_
  cases hF
  exact ⟨rfl,⟨m40,c41,c44,M45,le_m19,(ok.pk 3 [2,0,1] rfl (by decide)),E.keep [0,5],h42,r43,h46,r47,r48⟩⟩
 intro e a w hO
 obtain ⟨rfl,m49,c50,c53,M54,hle,ok,E,h51,r52,h55,r56,r57⟩:=hO
 have le_m0:=le_m0.trans hle
 have h2:=(mL qac).up hle h2
 refine qaa<|wp_seq<|sg<|mv E rfl fun a E=>lw E (qaj rfl) fun a E=>fk E ok qdd qeF rfl 1 rfl rfl fun a E=>lw E (qbj rfl rfl) fun a E=>wn<|cf E rfl hF (fun c58 hF=>?_) fun c58 hF=>?_
 ·refine sg<|aw E rfl fun a E=>wp_ret<|qam ?_
  exact fin hF ⟨m49,c50,c53,M54,le_m0,ok.drop,E.d,rz E rfl,(show ([]:List UInt8).length ≤ LIMS by decide),h51,r52,h55,r56,r57⟩
 refine wp_skip<|qaa<|sg<|mz E rfl rfl fun a E=>lw E (qaj rfl) fun a E=>fv E qhM rfl fun a E=>ld E ok qjF 1 rfl rfl rfl fun a E=>?_
 obtain ⟨l59,e60,hF⟩:=bnd hF
 obtain ⟨c61,h62,yy63⟩:=qmf qgW h51 e60 (P:=Tryz.prog) (X:=.tmp 23) (lov:=(some (.const (vi 1)))) (hiv:=none) (qbQ E rfl) (qlB E ⟨_,rfl⟩) (qlB E rfl)
 refine lv E ok (yy63 _ _) fun a E=>lw E (qaj rfl) fun a E=>fv E qhM rfl fun a E=>qad E ok 1 rfl rfl rfl qoA (qeB h62) rfl ⟨(qc9 h62),trivial⟩ rfl rfl fun w ok=>wn<|sg<|fk E ok qe2 qao rfl 0 rfl rfl fun a E=>aw E rfl fun a E=>wp_ret ?_
 exact fin hF ⟨m49,c61,c53,M54,le_m0,ok.drop,E.d,rz E rfl,l23,h62,r52,h55,r56,r57⟩
def qhL (u:World) (m0:Mem) (S:Segs) (pb0:Nat) (x0:State) (c1:Value) (c4:Value) (M5:List (Nat × Obj)) (r:State) (a:Act) (w:World):Prop :=
 ∃ m1 c9 c12 M13,m0.le m1 ∧ Ok u m1 ([(pb0,oc 121 [c9,vi r.end_,c12,vi r.at_,vi r.e])] :: M13 :: S) w ∧ a.defers = [] ∧ RVs Tryz.prog a w [] ∧ (pL 4 qaU) m1 [c9] r.left ∧ InR .i64 r.end_ ∧ ORow 9 1 pS m1 c12 r.names M13 ∧ InR .i64 r.at_ ∧ InR .i64 r.e
theorem qcx (N:Nat) (depth_1:Int) (rdepth_1:InR .i64 depth_1) {pb0:Nat} {c1:Value} {c4:Value} {M5:List (Nat × Obj)} (x0:State) (h2:(pL 4 qaU) m0 [c1] x0.left) (r3:InR .i64 x0.end_) (h6:ORow 9 1 pS m0 c4 x0.names M5) (r7:InR .i64 x0.at_) (r8:InR .i64 x0.e) {r:State} (hF:qb8 N depth_1 x0 = some r) (hG:Glob u) (ok:Ok u m0 ([(pb0,oc 121 [c1,vi x0.end_,c4,vi x0.at_,vi x0.e])] :: M5 :: S) w) :
  Calls Tryz.prog 87 [vp pb0,vi depth_1].toArray w fun e w'=>∃ m1 c9 c12 M13,e = .returned (.tuple [].toArray) ∧ m0.le m1 ∧ Ok u m1 ([(pb0,oc 121 [c9,vi r.end_,c12,vi r.at_,vi r.e])] :: M13 :: S) w' ∧ (pL 4 qaU) m1 [c9] r.left ∧ InR .i64 r.end_ ∧ ORow 9 1 pS m1 c12 r.names M13 ∧ InR .i64 r.at_ ∧ InR .i64 r.e:=by
 have le_m0:=Mem.le.refl m0
 unfold qb8 at hF
 refine en (qhL u m0 S pb0 x0 c1 c4 M5) r Tryz.func87 rfl rfl rfl (by rintro a w ⟨m1,c9,c12,M13,hle,ok,hd,hrv,h0,h1,h2,h3,h4⟩; exact qbs [] hd rfl hrv ⟨m1,c9,c12,M13,rfl,hle,ok,h0,h1,h2,h3,h4⟩) fun fin a E=>sg<|mv E rfl fun a E=>lw E (qbD rfl rfl) fun a E=>wn<|cg E rfl hF (fun c17 hF=>?_) fun c17 hF=>?_
 ·refine wp_skip ?_
  exact fin hF ⟨m0,c1,c4,M5,le_m0,ok,E.d,trivial,h2,r3,h6,r7,r8⟩
 refine qab<|mv E rfl fun a E=>bd hF fun r18 e19 hF=>qaf E qfH rfl (qa5 N 6 (ir 6) x0 h2 r3 h6 r7 r8 e19 hG ok) rfl rfl ?_
 rintro _ w ⟨m20,c21,c24,M25,rfl,hle,ok,h22,r23,h26,r27,r28⟩
 have le_m0:=le_m0.trans hle
 have h2:=(mL qac).up hle h2
 refine ⟨_,rfl,fun a E=>?_⟩
 refine wpList_nil ?_
 exact fin hF ⟨m20,c21,c24,M25,le_m0,ok,E.d,trivial,h22,r23,h26,r27,r28⟩
def qht (u:World) (m0:Mem) (S:Segs) (pb0:Nat) (x0:State) (c1:Value) (c4:Value) (M5:List (Nat × Obj)) (r:(List UInt8) × State) (a:Act) (w:World):Prop :=
 ∃ m1 c9 c12 M13,m0.le m1 ∧ Ok u m1 ([(pb0,oc 121 [c9,vi r.2.end_,c12,vi r.2.at_,vi r.2.e])] :: M13 :: S) w ∧ a.defers = [] ∧ RVs Tryz.prog a w [.t 4 (.string (bs r.1))] ∧ r.1.length ≤ LIMS ∧ (pL 4 qaU) m1 [c9] r.2.left ∧ InR .i64 r.2.end_ ∧ ORow 9 1 pS m1 c12 r.2.names M13 ∧ InR .i64 r.2.at_ ∧ InR .i64 r.2.e
theorem qax (N:Nat) (ok_1:Bool) {pb0:Nat} {c1:Value} {c4:Value} {M5:List (Nat × Obj)} (x0:State) (h2:(pL 4 qaU) m0 [c1] x0.left) (r3:InR .i64 x0.end_) (h6:ORow 9 1 pS m0 c4 x0.names M5) (r7:InR .i64 x0.at_) (r8:InR .i64 x0.e) {r:(List UInt8) × State} (hF:qay N ok_1 x0 = some r) (hG:Glob u) (ok:Ok u m0 ([(pb0,oc 121 [c1,vi x0.end_,c4,vi x0.at_,vi x0.e])] :: M5 :: S) w) :
  Calls Tryz.prog 130 [vp pb0,vb ok_1].toArray w fun e w'=>∃ m1 c9 c12 M13,e = .returned (.string (bs r.1)) ∧ m0.le m1 ∧ Ok u m1 ([(pb0,oc 121 [c9,vi r.2.end_,c12,vi r.2.at_,vi r.2.e])] :: M13 :: S) w' ∧ r.1.length ≤ LIMS ∧ (pL 4 qaU) m1 [c9] r.2.left ∧ InR .i64 r.2.end_ ∧ ORow 9 1 pS m1 c12 r.2.names M13 ∧ InR .i64 r.2.at_ ∧ InR .i64 r.2.e:=by
 have le_m0:=Mem.le.refl m0
 unfold qay at hF
 refine en (qht u m0 S pb0 x0 c1 c4 M5) r Tryz.func130 rfl rfl rfl (by rintro a w ⟨m1,c9,c12,M13,hle,ok,hd,hrv,h0,h1,h2,h3,h4,h5⟩; exact qbs [.t 4 (.string (bs r.1))] hd rfl hrv ⟨m1,c9,c12,M13,rfl,hle,ok,h0,h1,h2,h3,h4,h5⟩) fun fin a E=>sg<|aw E rfl fun a E=>wp_seq<|sg<|mv E rfl fun a E=>bd hF fun r17 e18 hF=>qaf E qc4 rfl (qaB N x0 h2 r3 h6 r7 r8 e18 hG ok) rfl rfl ?_
 rintro _ w ⟨m19,vs20,rfl,hle,ok,h21⟩
 have le_m0:=le_m0.trans hle
 have h2:=(mL qac).up hle h2
 have h6:=ORow.up mS hle h6
 obtain ⟨rfl,r22,l23,r24,r25⟩:=h21
 refine ⟨_,rfl,fun a E=>?_⟩
 refine lv E ok (qcs (cs:=[vi r17.Kind,vs r17.Text,vi r17.From,vi r17.To]) Tryz.underlying137 rfl (qaY qaq rfl) rfl) fun a E=>lw E (qbj rfl rfl) fun a E=>mv E rfl fun a E=>bu E 9 hF (fun c26 hF E=>?_) fun c26 hF E=>?_
 ·refine lsq E fun a E=>pt E rfl rfl fun a E=>wn<|c_if E rfl (fun _=>?_) (fun h=>by cases h)
  refine qab<|mv E rfl fun a E=>bd hF fun r27 e28 hF=>qaf E qfH rfl (qa5 N 3 (ir 3) x0 h2 r3 h6 r7 r8 e28 hG ok) rfl rfl ?_
  rintro _ w ⟨m29,c30,c33,M34,rfl,hle,ok,h31,r32,h35,r36,r37⟩
  have le_m0:=le_m0.trans hle
  have h2:=(mL qac).up hle h2
  refine ⟨_,rfl,fun a E=>?_⟩
  refine wn<|sg<|mv E rfl fun a E=>bd hF fun r38 e39 hF=>qaf E qcw rfl (qav N 9 (ir 9) r27 h31 r32 h35 r36 r37 e39 hG ok) rfl rfl ?_
  rintro _ w ⟨m40,c42,c45,M46,rfl,hle,ok,l41,h43,r44,h47,r48,r49⟩
  have le_m0:=le_m0.trans hle
  have h2:=(mL qac).up hle h2
  have h31:=(mL qac).up hle h31
  refine ⟨_,rfl,fun a E=>?_⟩
  refine aw E rfl fun a E=>wp_ret ?_
  exact fin hF ⟨m40,c42,c45,M46,le_m0,ok,E.d,rz E rfl,l41,h43,r44,h47,r48,r49⟩
 refine mv E rfl fun a E=>lw E (qbh rfl) fun a E=>pf E rfl rfl fun a E=>wn<|cg E rfl hF (fun c50 hF=>?_) fun c50 hF=>?_
 ·refine wp_skip<|qaa<|sg<|mv E rfl fun a E=>bd hF fun r74 e75 hF=>qaf E qcw rfl (qav N 9 (ir 9) x0 h2 r3 h6 r7 r8 e75 hG ok) rfl rfl ?_
  rintro _ w ⟨m76,c78,c81,M82,rfl,hle,ok,l77,h79,r80,h83,r84,r85⟩
  have le_m0:=le_m0.trans hle
  have h2:=(mL qac).up hle h2
  refine ⟨_,rfl,fun a E=>?_⟩
  refine aw E rfl fun a E=>wp_ret ?_
  exact fin hF ⟨m76,c78,c81,M82,le_m0,ok,E.d,rz E rfl,l77,h79,r80,h83,r84,r85⟩
 refine qab<|mv E rfl fun a E=>bd hF fun r51 e52 hF=>qaf E qfH rfl (qa5 N 3 (ir 3) x0 h2 r3 h6 r7 r8 e52 hG ok) rfl rfl ?_
 rintro _ w ⟨m53,c54,c57,M58,rfl,hle,ok,h55,r56,h59,r60,r61⟩
 have le_m0:=le_m0.trans hle
 have h2:=(mL qac).up hle h2
 refine ⟨_,rfl,fun a E=>?_⟩
 refine wn<|sg<|mv E rfl fun a E=>bd hF fun r62 e63 hF=>qaf E qcw rfl (qav N 9 (ir 9) r51 h55 r56 h59 r60 r61 e63 hG ok) rfl rfl ?_
 rintro _ w ⟨m64,c66,c69,M70,rfl,hle,ok,l65,h67,r68,h71,r72,r73⟩
 have le_m0:=le_m0.trans hle
 have h2:=(mL qac).up hle h2
 have h55:=(mL qac).up hle h55
 refine ⟨_,rfl,fun a E=>?_⟩
 refine aw E rfl fun a E=>wp_ret ?_
 exact fin hF ⟨m64,c66,c69,M70,le_m0,ok,E.d,rz E rfl,l65,h67,r68,h71,r72,r73⟩
def qhS (u:World) (m0:Mem) (S:Segs) (pb0:Nat) (x0:State) (c1:Value) (c4:Value) (M5:List (Nat × Obj)) (r:(List UInt8) × State) (a:Act) (w:World):Prop :=
 ∃ m1 c9 c12 M13,m0.le m1 ∧ Ok u m1 ([(pb0,oc 121 [c9,vi r.2.end_,c12,vi r.2.at_,vi r.2.e])] :: M13 :: S) w ∧ a.defers = [] ∧ RVs Tryz.prog a w [.t 2 (.string (bs r.1))] ∧ r.1.length ≤ LIMS ∧ (pL 4 qaU) m1 [c9] r.2.left ∧ InR .i64 r.2.end_ ∧ ORow 9 1 pS m1 c12 r.2.names M13 ∧ InR .i64 r.2.at_ ∧ InR .i64 r.2.e
theorem qhG (N:Nat) {pb0:Nat} {c1:Value} {c4:Value} {M5:List (Nat × Obj)} (x0:State) (h2:(pL 4 qaU) m0 [c1] x0.left) (r3:InR .i64 x0.end_) (h6:ORow 9 1 pS m0 c4 x0.names M5) (r7:InR .i64 x0.at_) (r8:InR .i64 x0.e) {r:(List UInt8) × State} (hF:qeA N x0 = some r) (hG:Glob u) (ok:Ok u m0 ([(pb0,oc 121 [c1,vi x0.end_,c4,vi x0.at_,vi x0.e])] :: M5 :: S) w) :
  Calls Tryz.prog 109 [vp pb0].toArray w fun e w'=>∃ m1 c9 c12 M13,e = .returned (.string (bs r.1)) ∧ m0.le m1 ∧ Ok u m1 ([(pb0,oc 121 [c9,vi r.2.end_,c12,vi r.2.at_,vi r.2.e])] :: M13 :: S) w' ∧ r.1.length ≤ LIMS ∧ (pL 4 qaU) m1 [c9] r.2.left ∧ InR .i64 r.2.end_ ∧ ORow 9 1 pS m1 c12 r.2.names M13 ∧ InR .i64 r.2.at_ ∧ InR .i64 r.2.e:=by
 have le_m0:=Mem.le.refl m0
 unfold qeA at hF
 refine en (qhS u m0 S pb0 x0 c1 c4 M5) r Tryz.func109 rfl rfl rfl (by rintro a w ⟨m1,c9,c12,M13,hle,ok,hd,hrv,h0,h1,h2,h3,h4,h5⟩; exact qbs [.t 2 (.string (bs r.1))] hd rfl hrv ⟨m1,c9,c12,M13,rfl,hle,ok,h0,h1,h2,h3,h4,h5⟩) fun fin a E=>sg<|aw E rfl fun a E=>sg<|mv E rfl fun a E=>bd hF fun r17 e18 hF=>qaf E qc4 rfl (qaB N x0 h2 r3 h6 r7 r8 e18 hG ok) rfl rfl ?_
 rintro _ w ⟨m19,vs20,rfl,hle,ok,h21⟩
 have le_m0:=le_m0.trans hle
 have h2:=(mL qac).up hle h2
 have h6:=ORow.up mS hle h6
 obtain ⟨rfl,r22,l23,r24,r25⟩:=h21
 refine ⟨_,rfl,fun a E=>?_⟩
 refine lv E ok (qcs (cs:=[vi r17.Kind,vs r17.Text,vi r17.From,vi r17.To]) Tryz.underlying137 rfl (qaY qao rfl) rfl) fun a E=>aw E rfl fun a E=>wp_seq<|sg<|mv E rfl fun a E=>bd hF fun r26 e27 hF=>qaf E qc4 rfl (qaB N x0 h2 r3 h6 r7 r8 e27 hG ok) rfl rfl ?_
 rintro _ w ⟨m28,vs29,rfl,hle,ok,h30⟩
 have le_m0:=le_m0.trans hle
 have h2:=(mL qac).up hle h2
 have h6:=ORow.up mS hle h6
 obtain ⟨rfl,r31,l32,r33,r34⟩:=h30
 refine ⟨_,rfl,fun a E=>?_⟩
 refine lv E ok (qcs (cs:=[vi r26.Kind,vs r26.Text,vi r26.From,vi r26.To]) Tryz.underlying137 rfl (qaY qaq rfl) rfl) fun a E=>lw E (qap rfl rfl) fun a E=>mv E rfl fun a E=>bw E 11 hF (fun c35 hF E=>?_) fun c35 hF E=>?_
 ·refine lsq E fun a E=>pf E rfl rfl fun a E=>mv E rfl fun a E=>lsz E fun a E=>lsq E fun a E=>ls E fun a E=>pf E rfl rfl fun a E=>wn<|c_if E rfl (fun h=>by cases h) (fun _=>?_)
  refine wp_skip<|qaa<|sg<|mz E rfl rfl fun a E=>bd hF fun r133 e134 hF=>lc E qe3 rfl (qbe N r17.Text l23 e134 hG ok) fun w ok a E=>bd hF fun r135 e136 hF=>qaf E qcp rfl (qax N r133 x0 h2 r3 h6 r7 r8 e136 hG ok) rfl rfl ?_
  rintro _ w ⟨m137,c139,c142,M143,rfl,hle,ok,l138,h140,r141,h144,r145,r146⟩
  have le_m0:=le_m0.trans hle
  have h2:=(mL qac).up hle h2
  refine ⟨_,rfl,fun a E=>?_⟩
  refine aw E rfl fun a E=>wp_ret ?_
  exact fin hF ⟨m137,c139,c142,M143,le_m0,ok,E.d,rz E rfl,l138,h140,r141,h144,r145,r146⟩
 refine mv E rfl fun a E=>bd hF fun r36 e37 hF=>lc E qe3 rfl (qbe N r17.Text l23 e37 hG ok) fun w ok a E=>pt E rfl rfl fun a E=>mv E rfl fun a E=>qbr r36 (fun c38=>?_) (fun c38=>?_)
 rotate_left
 ·have hF:=qbn c38 hF
  have E:=E.upd 15 c38 rfl
  refine lsz E fun a E=>lsq E fun a E=>ls E fun a E=>pf E rfl rfl fun a E=>wn<|c_if E rfl (fun h=>by cases h) (fun _=>?_)
  refine wp_skip<|qaa<|sg<|mz E rfl rfl fun a E=>bd hF fun r119 e120 hF=>lc E qe3 rfl (qbe N r17.Text l23 e120 hG ok) fun w ok a E=>bd hF fun r121 e122 hF=>qaf E qcp rfl (qax N r119 x0 h2 r3 h6 r7 r8 e122 hG ok) rfl rfl ?_
  rintro _ w ⟨m123,c125,c128,M129,rfl,hle,ok,l124,h126,r127,h130,r131,r132⟩
  have le_m0:=le_m0.trans hle
  have h2:=(mL qac).up hle h2
  refine ⟨_,rfl,fun a E=>?_⟩
  refine aw E rfl fun a E=>wp_ret ?_
  exact fin hF ⟨m123,c125,c128,M129,le_m0,ok,E.d,rz E rfl,l124,h126,r127,h130,r131,r132⟩
 have hF:=qbo c38 hF
 have E:=E.upd 15 c38 rfl
 refine mv E rfl fun a E=>lw E (qaj rfl) fun a E=>fk E ok qiM qdM rfl 0 rfl rfl fun a E=>mv E rfl fun a E=>?_
 obtain ⟨r44,e45,hF⟩:=bnd hF
 obtain ⟨m39,hle41,ok40,hfz42⟩:=(ok.frs 1 rfl).freeze
 have h43:=ORow.froz mS h6 hle41 hfz42 (by decide)
 refine qaf E qlv rfl (qeX N _ x0.names h43 r17.Text l23 e45 hG ok40) rfl rfl ?_
 rintro _ w ⟨rfl,okz⟩
 replace ok:=(Ok.thawAt 1 rfl ok hle41 hfz42 okz)
 refine ⟨_,rfl,fun a E=>?_⟩
 refine lw E (qbh rfl) fun a E=>pt E rfl rfl fun a E=>wn<|bd hF fun o46 hJ hF=>qaK (Q':=fun e a w=>e = .normal ∧ ∃ m47 c48 c51 M52,m28.le m47 ∧ Ok u m47 ([(pb0,oc 121 [c48,vi o46.end_,c51,vi o46.at_,vi o46.e])] :: M52 :: S) w ∧ Env 46 a [(0,vp pb0),(3,vs r17.Text)] ∧ (pL 4 qaU) m47 [c48] o46.left ∧ InR .i64 o46.end_ ∧ ORow 9 1 pS m47 c51 o46.names M52 ∧ InR .i64 o46.at_ ∧ InR .i64 o46.e) ?_ ?_
 rotate_left
 ·intro e a w hO
  obtain ⟨rfl,m96,c97,c100,M101,hle,ok,E,h98,r99,h102,r103,r104⟩:=hO
  have le_m0:=le_m0.trans hle
  have h2:=(mL qac).up hle h2
  refine qaa<|sg<|mz E rfl rfl fun a E=>bd hF fun r105 e106 hF=>lc E qe3 rfl (qbe N r17.Text l23 e106 hG ok) fun w ok a E=>bd hF fun r107 e108 hF=>qaf E qcp rfl (qax N r105 o46 h98 r99 h102 r103 r104 e108 hG ok) rfl rfl ?_
  rintro _ w ⟨m109,c111,c114,M115,rfl,hle,ok,l110,h112,r113,h116,r117,r118⟩
  have le_m0:=le_m0.trans hle
  have h2:=(mL qac).up hle h2
  have h98:=(mL qac).up hle h98
  refine ⟨_,rfl,fun a E=>?_⟩
  refine aw E rfl fun a E=>wp_ret ?_
  exact fin hF ⟨m109,c111,c114,M115,le_m0,ok,E.d,rz E rfl,l110,h112,r113,h116,r117,r118⟩
 have hF:=hJ
 have le_m28:=Mem.le.refl m28
 refine cg E rfl hF (fun c56 hF=>?_) fun c56 hF=>?_
 ·refine wp_skip ?_
  cases hF
  exact ⟨rfl,⟨m28,c1,c4,M5,le_m28,ok,E.keep [0,3],h2,r3,h6,r7,r8⟩⟩
 refine wp_seq<|sg<|mv E rfl fun a E=>lw E (qaj rfl) fun a E=>fk E ok qiM qdM rfl 0 rfl rfl fun a E=>lv E ok (qd3 qbx h6 rfl) fun a E=>lw E (qbK rfl rfl) fun a E=>wn<|bd hF fun o57 hJ hF=>qaK (Q':=fun e a w=>e = .normal ∧ ∃ m58 c59 c62 M63,m28.le m58 ∧ Ok u m58 ([(pb0,oc 121 [c59,vi o57.end_,c62,vi o57.at_,vi o57.e])] :: M63 :: S) w ∧ Env 46 a [(0,vp pb0),(3,vs r17.Text)] ∧ (pL 4 qaU) m58 [c59] o57.left ∧ InR .i64 o57.end_ ∧ ORow 9 1 pS m58 c62 o57.names M63 ∧ InR .i64 o57.at_ ∧ InR .i64 o57.e) ?_ ?_
 ·have hF:=hJ
  refine cg E rfl hF (fun c67 hF=>?_) fun c67 hF=>?_
  ·refine wp_skip ?_
   cases hF
   exact ⟨rfl,⟨m28,c1,c4,M5,le_m28,ok,E.keep [0,3],h2,r3,h6,r7,r8⟩⟩
  refine qab<|mv E rfl fun a E=>bd hF fun r68 e69 hF=>qaf E qfH rfl (qa5 N 6 (ir 6) x0 h2 r3 h6 r7 r8 e69 hG ok) rfl rfl ?_
  rintro _ w ⟨m70,c71,c74,M75,rfl,hle,ok,h72,r73,h76,r77,r78⟩
  have le_m0:=le_m0.trans hle
  have le_m28:=le_m28.trans hle
  have h2:=(mL qac).up hle h2
  refine ⟨_,rfl,fun a E=>?_⟩
  refine wpList_nil ?_
  cases hF
  exact ⟨rfl,⟨m70,c71,c74,M75,le_m28,ok,E.keep [0,3],h72,r73,h76,r77,r78⟩⟩
 intro e a w hO
 obtain ⟨rfl,m79,c80,c83,M84,hle,ok,E,h81,r82,h85,r86,r87⟩:=hO
 have le_m0:=le_m0.trans hle
 have le_m28:=le_m28.trans hle
 have h2:=(mL qac).up hle h2
 refine qaa<|qab<|mz E rfl rfl fun a E=>lw E (qaj rfl) fun a E=>fk E ok qiM qdM rfl 0 rfl rfl fun a E=>mv E rfl fun a E=>qbt (R:=pS) (xo:=[.tmp 37]) (xs:=([r17.Text]:List (List UInt8))) E ok qbx qdK rfl ⟨⟨_,rfl,rfl,(qbM l23)⟩,trivial⟩ rfl rfl rfl rfl fun c88 M89 a w E ok h90=>bd hF fun l91 e92 hF=>qcn (R:=pS) E ok 2 mS qbx Tryz.underlying25 rfl h85 (qbz.ofRow h90 0 rfl ok) e92 ⟨_,qdK,rfl⟩ rfl rfl rfl rfl fun c93 M94 a w E ok h95=>lw E (qaj rfl) fun a E=>fv E qiM rfl fun a E=>qad E ok 1 rfl rfl rfl qmX (ORow.cells h95) rfl ⟨(ORow.one h95),trivial⟩ rfl rfl fun w ok=>wpList_nil ?_
 cases hF
 exact ⟨rfl,⟨m79,c80,c93,M94,le_m28,(ok.pk 3 [1,2] rfl (by decide)),E.keep [0,3],h81,r82,h95,r86,r87⟩⟩
def qgZ (u:World) (m0:Mem) (S:Segs) (r:Int) (a:Act) (w:World):Prop :=
 Ok u m0 S w ∧ a.defers = [] ∧ RVs Tryz.prog a w [.t 2 (.int .i64 r)] ∧ InR .i64 r
theorem qji (N:Nat) (word_0:List UInt8) (lword_0:word_0.length ≤ LIMS) {r:Int} (hF:qfZ N word_0 = some r) (hG:Glob u) (ok:Ok u m0 S w) :
  Calls Tryz.prog 131 [vs word_0].toArray w fun e w'=>(e = .returned (.int .i64 r) ∧ Ok u m0 S w') ∧ InR .i64 r:=by
 unfold qfZ at hF
 refine en (qgZ u m0 S) r Tryz.func131 rfl rfl rfl (fun _ _ h=>rb h rfl) fun fin a E=>sg<|aw E rfl fun a E=>sg<|qbt (R:=pS) (xo:=[.const (vs ([110,117,109,98,101,114])),.const (vs ([117,110,105,116])),.const (vs ([100,97,116,101])),.const (vs ([108,105,115,116])),.const (vs ([112,108,117,114,97,108])),.const (vs ([111,114,100,105,110,97,108])),.const (vs ([115,101,108,101,99,116]))]) (xs:=([[110,117,109,98,101,114],[117,110,105,116],[100,97,116,101],[108,105,115,116],[112,108,117,114,97,108],[111,114,100,105,110,97,108],[115,101,108,101,99,116]]:List (List UInt8))) E ok qbx qdK rfl ⟨⟨_,rfl,rfl,(qbM (show ([110,117,109,98,101,114]:List UInt8).length ≤ LIMS by decide))⟩,⟨_,rfl,rfl,(qbM (show ([117,110,105,116]:List UInt8).length ≤ LIMS by decide))⟩,⟨_,rfl,rfl,(qbM (show ([100,97,116,101]:List UInt8).length ≤ LIMS by decide))⟩,⟨_,rfl,rfl,(qbM (show ([108,105,115,116]:List UInt8).length ≤ LIMS by decide))⟩,⟨_,rfl,rfl,(qbM (show ([112,108,117,114,97,108]:List UInt8).length ≤ LIMS by decide))⟩,⟨_,rfl,rfl,(qbM (show ([111,114,100,105,110,97,108]:List UInt8).length ≤ LIMS by decide))⟩,⟨_,rfl,rfl,(qbM (show ([115,101,108,101,99,116]:List UInt8).length ≤ LIMS by decide))⟩,trivial⟩ rfl rfl rfl rfl fun c1 M2 a w E ok h3=>aw E rfl fun a E=>wp_seq<|sg<|av E rfl fun a E=>wn<|wp_block<|bd hF fun o5 hL hF=>qa6 _ (fun (s:Int) a w=>Ok u m0 (M2 :: S) w ∧ Env 20 a [(0,vs word_0),(3,c1),(4,vi s)] ∧ InR .i64 s) (fun (b:(Unit ⊕ Int)) e a w=>(Sum.elim (fun b22=>e = (.exit 0) ∧ Ok u m0 (M2 :: S) w ∧ Env 20 a []) (fun b23=>e = .ret ∧ qgZ u m0 S b23 a w)) b) ?_ ?_ N _ a w hL ⟨ok,E.keep [0,3,4],(ir 0)⟩
 rotate_left
 ·intro e a w _ hO
  rcases o5 with o5 | o5
  rotate_left
  ·obtain ⟨rfl,hret⟩:=hO
   refine qaL<|qam ?_
   exact fin hF hret
  have hF:=qb4 hF
  obtain ⟨rfl,ok,E⟩:=hO
  refine qbf<|qaa<|sg<|aw E rfl fun a E=>wp_ret ?_
  exact fin hF ⟨ok.drop,E.d,rz E rfl,(ir 0)⟩
 rintro v7 a w r ⟨ok,E,r8⟩ hF
 replace hF:qfa N word_0 v7 = some r:=hF
 unfold qfa at hF
 refine wp_seq<|sg<|mz E rfl rfl fun a E=>lv E ok (qd3 qbx h3 rfl) fun a E=>lw E (qaS rfl rfl) fun a E=>wn<|cg E rfl hF (fun c9 hF=>?_) fun c9 hF=>?_
 ·refine wp_exit<|qaX ?_
  cases hF
  exact so (sl ⟨rfl,⟨ok,E.keep []⟩⟩)
 refine wp_skip<|qaa<|wp_seq<|wp_block<|sg<|mz E rfl rfl fun a E=>?_
 obtain ⟨x10,e11,hF⟩:=bnd hF
 obtain ⟨b12,o13,hp14,yy15⟩:=qe4 qbx h3 e11 (P:=Tryz.prog) (X:=.tmp 12) (I:=.tmp 13) (kd:=.i64) (qbQ E rfl) (qbQ E rfl)
 refine lv E ok (yy15 _ _) fun a E=>?_
 obtain ⟨es16,hl17,rr18,hh19⟩:=qf5 h3 e11 hp14 (by decide)
 obtain ⟨rfl,l20⟩:=rr18
 refine lv E ok (qaz qao rfl (hh19 _ _ _ 0 rfl)) fun a E=>mv E rfl fun a E=>lw E (qbm rfl rfl) fun a E=>wn<|cg E rfl hF (fun c21 hF=>?_) fun c21 hF=>?_
 ·refine wp_skip<|qag<|qaa<|qab<|mv E rfl fun a E=>lw E (qaC rfl rfl (InR.inc r8 (ORow.InR h3) c9)) fun a E=>av E rfl fun a E=>wpList_nil ?_
  cases hF
  exact qat ⟨ok,E.keep [0,3,4],(InR.inc r8 (ORow.InR h3) c9)⟩
 refine sg<|mv E rfl fun a E=>lw E (qaQ rfl rfl) fun a E=>aw E rfl fun a E=>wp_ret<|qaL<|qam ?_
 cases hF
 exact so (sr ⟨rfl,⟨ok.drop,E.d,rz E rfl,(InR.wrap _ _)⟩⟩)
end Go.Proofs.YtllnjbnknjpbjaaGreatDoor
