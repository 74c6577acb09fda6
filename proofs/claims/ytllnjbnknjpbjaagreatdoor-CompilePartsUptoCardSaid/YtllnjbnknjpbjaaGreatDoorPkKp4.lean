/- Texts of this proof, put together by pack.py: what its declarations name. -/
import Derived.Test.YtllnjbnknjpbjaaGreatDoorPkKp3
import Derived.Test.YtllnjbnknjpbjaaGreatDoorCards
import Derived.Test.YtllnjbnknjpbjaaGreatDoorChecked
import Derived.Test.YtllnjbnknjpbjaaGreatDoorProg
import Derived.Test.YtllnjbnknjpbjaaGreatDoorRows
import Derived.Test.YtllnjbnknjpbjaaGreatDoorTie
set_option linter.unusedVariables false
set_option linter.unusedSimpArgs false
namespace Go.Proofs.YtllnjbnknjpbjaaGreatDoor
open Go.X
variable {u:World} {m0:Mem} {S:Segs} {w:World}
set_option maxHeartbeats 4000000
set_option maxRecDepth 100000
def qec (u:World) (m0:Mem) (S:Segs) (r:Number2 × Bool) (a:Act) (w:World):Prop :=
 ∃ m1 v0,m0.le m1 ∧ Ok u m1 S w ∧ a.defers = [] ∧ RVs Tryz.prog a w [.c 2 173 (.agg v0.toArray),.t 3 (.bool r.2)] ∧ qnk m1 v0 r.1
theorem qkd (N:Nat) (s_0:List UInt8) (ls_0:s_0.length ≤ LIMS) {r:Number2 × Bool} (hF:qd3 N s_0 = some r) (hG:Glob u) (ok:Ok u m0 S w) :
  Calls Tryz.prog 105 [vs s_0].toArray w fun e w'=>∃ m1 v0,e = .returned (.tuple [(.agg v0.toArray),(.bool r.2)].toArray) ∧ m0.le m1 ∧ Ok u m1 S w' ∧ qnk m1 v0 r.1:=by
 have le_m0:=Mem.le.refl m0
 unfold qd3 at hF
 refine en (qec u m0 S) r Tryz.func105 rfl rfl rfl (by rintro a w ⟨m1,v0,hle,ok,hd,hrv,h0⟩; exact qbO [.c 2 173 (.agg v0.toArray),.t 3 (.bool r.2)] hd rfl hrv ⟨m1,v0,rfl,hle,ok,h0⟩) fun fin a E=>sg<|qa4 E ok qcw rfl rfl fun b1 a w E ok=>aw E rfl fun a E=>sg<|qa4 E ok qcw rfl rfl fun b2 a w E ok=>wn<|wp_seq<|sg<|mv E rfl fun a E=>lw E (qaI Tryz.underlying9 rfl) fun a E=>lw E (qbk rfl rfl) fun a E=>mv E rfl fun a E=>bw E 9 hF (fun c3 hF E=>?_) fun c3 hF E=>?_
 ·as_aux_lemma =>
   refine lsq E fun a E=>ls E fun a E=>pf E rfl rfl fun a E=>wn<|c_if E rfl (fun h=>by cases h) (fun _=>?_)
   refine wp_skip<|qaa<|sg<|aw E rfl fun a E=>wp_seq<|wp_block<|bd hF fun o73 hL hF=>qa9 _ (fun (s:Int) a w=>Ok u m0 ([(b2,oc 173 [vb false,(vs ([])),(vs ([]))])] :: [(b1,oc 173 [vb false,(vs ([])),(vs ([]))])] :: S) w ∧ Env 98 a [(0,vs s_0),(2,vp b1),(4,vp b2),(5,vi s)] ∧ InR .i64 s) (fun (b:Int) e a w=>e = (.exit 0) ∧ Ok u m0 ([(b2,oc 173 [vb false,(vs ([])),(vs ([]))])] :: [(b1,oc 173 [vb false,(vs ([])),(vs ([]))])] :: S) w ∧ Env 98 a [(0,vs s_0),(2,vp b1),(4,vp b2),(5,vi b)] ∧ InR .i64 b) ?_ ?_ N _ a w hL ⟨ok,E.keep [0,2,4,5],(ir 0)⟩
   ·rintro v75 a w r ⟨ok,E,r76⟩ hF
    replace hF:qfz N s_0 v75 = some r:=hF
    unfold qfz at hF
    refine wp_seq<|sg<|mz E rfl rfl fun a E=>lw E (qaI Tryz.underlying9 rfl) fun a E=>lw E (qaO rfl rfl) fun a E=>mv E rfl fun a E=>bw E 21 hF (fun c77 hF E=>?_) fun c77 hF E=>?_
    ·refine lsz E fun a E=>pf E rfl rfl fun a E=>wn<|c_if E rfl (fun h=>by cases h) (fun _=>?_)
     refine wp_exit<|qaU ?_
     cases hF
     exact so (⟨rfl,⟨ok,E.keep [0,2,4,5],r76⟩⟩)
    refine mz E rfl rfl fun a E=>bd hF fun c78 e79 hF=>lv E ok (qaH Tryz.underlying9 rfl rfl e79) fun a E=>lw E (qbN rfl rfl) fun a E=>pt E rfl rfl fun a E=>wn<|cg E rfl hF (fun c80 hF=>?_) fun c80 hF=>?_
    ·refine wp_exit<|qaU ?_
     cases hF
     exact so (⟨rfl,⟨ok,E.keep [0,2,4,5],r76⟩⟩)
    refine wp_skip<|qaa<|wp_block<|qac<|mv E rfl fun a E=>lw E (qaA rfl rfl (InR.inc r76 (InR.len ls_0) c77)) fun a E=>av E rfl fun a E=>wpList_nil<|qaf ?_
    cases hF
    exact qar ⟨ok,E.keep [0,2,4,5],(InR.inc r76 (InR.len ls_0) c77)⟩
   intro e a w _ hO
   obtain ⟨rfl,ok,E,r81⟩:=hO
   refine qbm<|qaa<|sg<|mz E rfl rfl fun a E=>bd hF fun s82 e83 hF=>lw E (qdZ Tryz.underlying9 e83 rfl rfl ⟨_,rfl⟩) fun a E=>fv E qdu rfl fun a E=>qae E ok 0 rfl rfl rfl qcM rfl rfl ⟨rfl,trivial⟩ rfl rfl fun w ok=>wn<|wp_seq<|sg<|mz E rfl rfl fun a E=>lw E (qaI Tryz.underlying9 rfl) fun a E=>lw E (qaO rfl rfl) fun a E=>wn<|bd hF fun o84 hJ hF=>qaG (Q':=fun e a w=>(Sum.elim (fun b85=>e = .normal ∧ Ok u m0 ([(b2,oc 173 [vb b85.Neg,vs b85.Whole,vs b85.Frac])] :: [(b1,oc 173 [vb false,(vs ([])),(vs ([]))])] :: S) w ∧ Env 98 a [(2,vp b1),(4,vp b2)] ∧ b85.Whole.length ≤ LIMS ∧ b85.Frac.length ≤ LIMS) (fun b88=>e = .ret ∧ qec u m0 S b88 a w)) o84) ?_ ?_
   ·have hF:=hJ
    refine cg E rfl hF (fun c89 hF=>?_) fun c89 hF=>?_
    ·refine wp_skip ?_
     cases hF
     exact (sl ⟨rfl,⟨ok,E.keep [2,4],(Nat.le_trans (qcL e83) ls_0),(Nat.zero_le _)⟩⟩)
    refine sg<|mz E rfl rfl fun a E=>lw E (qaA rfl rfl (InR.inc r81 (InR.len ls_0) c89)) fun a E=>bd hF fun s90 e91 hF=>lw E (qdZ Tryz.underlying9 e91 rfl ⟨_,rfl⟩ rfl) fun a E=>fv E qdY rfl fun a E=>qae E ok 0 rfl rfl rfl qcM rfl rfl ⟨rfl,trivial⟩ rfl rfl fun w ok=>wn<|sg<|fv E qdY rfl fun a E=>ld E ok qak 0 rfl rfl rfl fun a E=>lw E (qaI Tryz.underlying9 rfl) fun a E=>lw E (qao rfl rfl) fun a E=>wn<|cg E rfl hF (fun c92 hF=>?_) fun c92 hF=>?_
    ·refine wp_skip ?_
     cases hF
     exact (sl ⟨rfl,⟨ok,E.keep [2,4],(Nat.le_trans (qcL e83) ls_0),(Nat.le_trans (qcL e91) ls_0)⟩⟩)
    refine sg<|lw E (qau (ps:=[]) (qs:=[]) (cs:=[vb false,(vs ([])),(vs ([]))]) qcw qcf rfl trivial rfl) fun a E=>qae E ok 1 rfl rfl rfl qcc rfl rfl ⟨rfl,rfl,rfl,trivial⟩ rfl rfl fun w ok=>aw E rfl fun a E=>wp_ret ?_
    have hret:qec u m0 S ((Number2.mk false ([]) ([])),false) a w:=⟨m0,[vb false,(vs ([])),(vs ([]))],le_m0,ok.drop.drop,E.d,⟨rv_c (cs:=[vb false,(vs ([])),(vs ([]))]) E ok rfl qbE rfl (qad.own 1 rfl rfl),rv_t E rfl,trivial⟩,⟨rfl,(Nat.zero_le _),(Nat.zero_le _)⟩⟩
    cases hF
    exact (sr ⟨rfl,hret⟩)
   intro e a w hO
   rcases o84 with o84 | o84
   rotate_left
   ·obtain ⟨rfl,hret⟩:=hO
    refine qah ?_
    exact fin hF hret
   have hF:=qbV hF
   obtain ⟨rfl,ok,E,l93,l94⟩:=hO
   refine qaa<|wp_seq<|sg<|fk E ok qdu qak rfl 0 rfl rfl fun a E=>fk E ok qdY qak rfl 0 rfl rfl fun a E=>bd hF fun s95 e96 hF=>lw E (qa5 rfl rfl e96) fun a E=>bd hF fun r97 e98 hF=>lc E qo4 rfl (qg4 N s95 (qb6 e96) e98 hG ok) fun w ok a E=>lw E (qaT rfl) fun a E=>mv E rfl fun a E=>bu E 54 hF (fun c99 hF E=>?_) fun c99 hF E=>?_
   ·refine lsz E fun a E=>pt E rfl rfl fun a E=>mv E rfl fun a E=>lsz E fun a E=>pt E rfl rfl fun a E=>mv E rfl fun a E=>lsz E fun a E=>?_
    refine lsz E fun a E=>lsq E fun a E=>pt E rfl rfl fun a E=>mv E rfl fun a E=>lsz E fun a E=>pt E rfl rfl fun a E=>mv E rfl fun a E=>lsq E fun a E=>?_
    refine lsz E fun a E=>lsz E fun a E=>pt E rfl rfl fun a E=>wn<|c_if E rfl (fun _=>?_) (fun h=>by cases h)
    refine sg<|lw E (qau (ps:=[]) (qs:=[]) (cs:=[vb false,(vs ([])),(vs ([]))]) qcw qcf rfl trivial rfl) fun a E=>qae E ok 1 rfl rfl rfl qcc rfl rfl ⟨rfl,rfl,rfl,trivial⟩ rfl rfl fun w ok=>aw E rfl fun a E=>wp_ret<|qah ?_
    exact fin hF ⟨m0,[vb false,(vs ([])),(vs ([]))],le_m0,ok.drop.drop,E.d,⟨rv_c (cs:=[vb false,(vs ([])),(vs ([]))]) E ok rfl qbE rfl (qad.own 1 rfl rfl),rv_t E rfl,trivial⟩,⟨rfl,(Nat.zero_le _),(Nat.zero_le _)⟩⟩
   refine fk E ok qdu qak rfl 0 rfl rfl fun a E=>lw E (qaI Tryz.underlying9 rfl) fun a E=>lw E (qaO rfl rfl) fun a E=>pf E rfl rfl fun a E=>mv E rfl fun a E=>bu E 60 hF (fun c100 hF E=>?_) fun c100 hF E=>?_
   ·refine lsz E fun a E=>pt E rfl rfl fun a E=>mv E rfl fun a E=>lsz E fun a E=>lsz E fun a E=>lsq E fun a E=>?_
    refine pt E rfl rfl fun a E=>mv E rfl fun a E=>lsz E fun a E=>pt E rfl rfl fun a E=>mv E rfl fun a E=>lsz E fun a E=>lsz E fun a E=>?_
    refine lsq E fun a E=>pt E rfl rfl fun a E=>wn<|c_if E rfl (fun _=>?_) (fun h=>by cases h)
    refine sg<|lw E (qau (ps:=[]) (qs:=[]) (cs:=[vb false,(vs ([])),(vs ([]))]) qcw qcf rfl trivial rfl) fun a E=>qae E ok 1 rfl rfl rfl qcc rfl rfl ⟨rfl,rfl,rfl,trivial⟩ rfl rfl fun w ok=>aw E rfl fun a E=>wp_ret<|qah ?_
    exact fin hF ⟨m0,[vb false,(vs ([])),(vs ([]))],le_m0,ok.drop.drop,E.d,⟨rv_c (cs:=[vb false,(vs ([])),(vs ([]))]) E ok rfl qbE rfl (qad.own 1 rfl rfl),rv_t E rfl,trivial⟩,⟨rfl,(Nat.zero_le _),(Nat.zero_le _)⟩⟩
   refine fk E ok qdu qak rfl 0 rfl rfl fun a E=>lw E (qaI Tryz.underlying9 rfl) fun a E=>lw E (qbk rfl rfl) fun a E=>pf E rfl rfl fun a E=>mv E rfl fun a E=>bu E 66 hF (fun c101 hF E=>?_) fun c101 hF E=>?_
   ·refine lsz E fun a E=>lsz E fun a E=>lsq E fun a E=>pt E rfl rfl fun a E=>mv E rfl fun a E=>lsz E fun a E=>?_
    refine pt E rfl rfl fun a E=>mv E rfl fun a E=>lsz E fun a E=>lsz E fun a E=>lsq E fun a E=>pt E rfl rfl fun a E=>wn<|c_if E rfl (fun _=>?_) (fun h=>by cases h)
    refine sg<|lw E (qau (ps:=[]) (qs:=[]) (cs:=[vb false,(vs ([])),(vs ([]))]) qcw qcf rfl trivial rfl) fun a E=>qae E ok 1 rfl rfl rfl qcc rfl rfl ⟨rfl,rfl,rfl,trivial⟩ rfl rfl fun w ok=>aw E rfl fun a E=>wp_ret<|qah ?_
    exact fin hF ⟨m0,[vb false,(vs ([])),(vs ([]))],le_m0,ok.drop.drop,E.d,⟨rv_c (cs:=[vb false,(vs ([])),(vs ([]))]) E ok rfl qbE rfl (qad.own 1 rfl rfl),rv_t E rfl,trivial⟩,⟨rfl,(Nat.zero_le _),(Nat.zero_le _)⟩⟩
   refine fk E ok qdu qak rfl 0 rfl rfl fun a E=>lw E (qaI Tryz.underlying9 rfl) fun a E=>lw E (qbk rfl rfl) fun a E=>mv E rfl fun a E=>bw E 71 hF (fun c102 hF E=>?_) fun c102 hF E=>?_
   ·as_aux_lemma =>
     refine lsz E fun a E=>pf E rfl rfl fun a E=>pf E rfl rfl fun a E=>mv E rfl fun a E=>fv E qdY rfl fun a E=>ld E ok qak 0 rfl rfl rfl fun a E=>lw E (qaI Tryz.underlying9 rfl) fun a E=>lw E (qbk rfl rfl) fun a E=>pf E rfl rfl fun a E=>mv E rfl fun a E=>bu E 84 hF (fun c113 hF E=>?_) fun c113 hF E=>?_
     ·refine lsz E fun a E=>lsz E fun a E=>lsq E fun a E=>pt E rfl rfl fun a E=>wn<|c_if E rfl (fun _=>?_) (fun h=>by cases h)
      refine sg<|lw E (qau (ps:=[]) (qs:=[]) (cs:=[vb false,(vs ([])),(vs ([]))]) qcw qcf rfl trivial rfl) fun a E=>qae E ok 1 rfl rfl rfl qcc rfl rfl ⟨rfl,rfl,rfl,trivial⟩ rfl rfl fun w ok=>aw E rfl fun a E=>wp_ret<|qah ?_
      exact fin hF ⟨m0,[vb false,(vs ([])),(vs ([]))],le_m0,ok.drop.drop,E.d,⟨rv_c (cs:=[vb false,(vs ([])),(vs ([]))]) E ok rfl qbE rfl (qad.own 1 rfl rfl),rv_t E rfl,trivial⟩,⟨rfl,(Nat.zero_le _),(Nat.zero_le _)⟩⟩
     refine fk E ok qik qmQ rfl 0 rfl rfl fun a E=>mv E rfl fun a E=>qbj o84.Neg (fun c114=>?_) (fun c114=>?_)
     rotate_left
     ·have hF:=qbg c114 hF
      have E:=E.upd 87 c114 rfl
      refine lsz E fun a E=>lsq E fun a E=>pf E rfl rfl fun a E=>pf E rfl rfl fun a E=>wn<|c_if E rfl (fun h=>by cases h) (fun _=>?_)
      refine wp_skip<|qaa<|sg<|lv E ok (qas (cs:=[vb o84.Neg,vs o84.Whole,vs o84.Frac]) qbE rfl rfl (qad.own 0 rfl rfl)) fun a E=>qae E ok 1 rfl rfl rfl qcc rfl rfl ⟨rfl,rfl,rfl,trivial⟩ rfl rfl fun w ok=>av E rfl fun a E=>wn<|wp_ret ?_
      exact fin hF ⟨m0,[vb o84.Neg,vs o84.Whole,vs o84.Frac],le_m0,ok.drop.drop,E.d,⟨rv_c (cs:=[vb o84.Neg,vs o84.Whole,vs o84.Frac]) E ok rfl qbE rfl (qad.own 1 rfl rfl),rv_t E rfl,trivial⟩,⟨rfl,l93,l94⟩⟩
     have hF:=qbh c114 hF
     have E:=E.upd 87 c114 rfl
     refine fk E ok qdu qak rfl 0 rfl rfl fun a E=>fk E ok qdY qak rfl 0 rfl rfl fun a E=>bd hF fun s115 e116 hF=>lw E (qa5 rfl rfl e116) fun a E=>bd hF fun r117 e118 hF=>lc E qlv rfl (qfj N s115 (qb6 e116) e118 hG ok) fun w ok a E=>pt E rfl rfl fun a E=>pf E rfl rfl fun a E=>wn<|cf E rfl hF (fun c119 hF=>?_) fun c119 hF=>?_
     ·refine sg<|lw E (qau (ps:=[]) (qs:=[]) (cs:=[vb false,(vs ([])),(vs ([]))]) qcw qcf rfl trivial rfl) fun a E=>qae E ok 1 rfl rfl rfl qcc rfl rfl ⟨rfl,rfl,rfl,trivial⟩ rfl rfl fun w ok=>aw E rfl fun a E=>wp_ret<|qah ?_
      exact fin hF ⟨m0,[vb false,(vs ([])),(vs ([]))],le_m0,ok.drop.drop,E.d,⟨rv_c (cs:=[vb false,(vs ([])),(vs ([]))]) E ok rfl qbE rfl (qad.own 1 rfl rfl),rv_t E rfl,trivial⟩,⟨rfl,(Nat.zero_le _),(Nat.zero_le _)⟩⟩
     refine wp_skip<|qaa<|sg<|lv E ok (qas (cs:=[vb o84.Neg,vs o84.Whole,vs o84.Frac]) qbE rfl rfl (qad.own 0 rfl rfl)) fun a E=>qae E ok 1 rfl rfl rfl qcc rfl rfl ⟨rfl,rfl,rfl,trivial⟩ rfl rfl fun w ok=>av E rfl fun a E=>wn<|wp_ret ?_
     exact fin hF ⟨m0,[vb o84.Neg,vs o84.Whole,vs o84.Frac],le_m0,ok.drop.drop,E.d,⟨rv_c (cs:=[vb o84.Neg,vs o84.Whole,vs o84.Frac]) E ok rfl qbE rfl (qad.own 1 rfl rfl),rv_t E rfl,trivial⟩,⟨rfl,l93,l94⟩⟩
   refine fk E ok qdu qak rfl 0 rfl rfl fun a E=>bd hF fun c103 e104 hF=>lv E ok (qaH Tryz.underlying9 rfl rfl e104) fun a E=>lw E (qao rfl rfl) fun a E=>pt E rfl rfl fun a E=>pf E rfl rfl fun a E=>mv E rfl fun a E=>bu E 78 hF (fun c105 hF E=>?_) fun c105 hF E=>?_
   ·refine lsz E fun a E=>pt E rfl rfl fun a E=>mv E rfl fun a E=>lsz E fun a E=>lsz E fun a E=>lsq E fun a E=>?_
    refine pt E rfl rfl fun a E=>wn<|c_if E rfl (fun _=>?_) (fun h=>by cases h)
    refine sg<|lw E (qau (ps:=[]) (qs:=[]) (cs:=[vb false,(vs ([])),(vs ([]))]) qcw qcf rfl trivial rfl) fun a E=>qae E ok 1 rfl rfl rfl qcc rfl rfl ⟨rfl,rfl,rfl,trivial⟩ rfl rfl fun w ok=>aw E rfl fun a E=>wp_ret<|qah ?_
    exact fin hF ⟨m0,[vb false,(vs ([])),(vs ([]))],le_m0,ok.drop.drop,E.d,⟨rv_c (cs:=[vb false,(vs ([])),(vs ([]))]) E ok rfl qbE rfl (qad.own 1 rfl rfl),rv_t E rfl,trivial⟩,⟨rfl,(Nat.zero_le _),(Nat.zero_le _)⟩⟩
   refine fk E ok qdY qak rfl 0 rfl rfl fun a E=>lw E (qaI Tryz.underlying9 rfl) fun a E=>lw E (qbk rfl rfl) fun a E=>pf E rfl rfl fun a E=>mv E rfl fun a E=>bu E 84 hF (fun c106 hF E=>?_) fun c106 hF E=>?_
   ·refine lsz E fun a E=>lsz E fun a E=>lsq E fun a E=>pt E rfl rfl fun a E=>wn<|c_if E rfl (fun _=>?_) (fun h=>by cases h)
    refine sg<|lw E (qau (ps:=[]) (qs:=[]) (cs:=[vb false,(vs ([])),(vs ([]))]) qcw qcf rfl trivial rfl) fun a E=>qae E ok 1 rfl rfl rfl qcc rfl rfl ⟨rfl,rfl,rfl,trivial⟩ rfl rfl fun w ok=>aw E rfl fun a E=>wp_ret<|qah ?_
    exact fin hF ⟨m0,[vb false,(vs ([])),(vs ([]))],le_m0,ok.drop.drop,E.d,⟨rv_c (cs:=[vb false,(vs ([])),(vs ([]))]) E ok rfl qbE rfl (qad.own 1 rfl rfl),rv_t E rfl,trivial⟩,⟨rfl,(Nat.zero_le _),(Nat.zero_le _)⟩⟩
   refine fk E ok qik qmQ rfl 0 rfl rfl fun a E=>mv E rfl fun a E=>qbj o84.Neg (fun c107=>?_) (fun c107=>?_)
   rotate_left
   ·have hF:=qbg c107 hF
    have E:=E.upd 87 c107 rfl
    refine lsz E fun a E=>lsq E fun a E=>pf E rfl rfl fun a E=>pf E rfl rfl fun a E=>wn<|c_if E rfl (fun h=>by cases h) (fun _=>?_)
    refine wp_skip<|qaa<|sg<|lv E ok (qas (cs:=[vb o84.Neg,vs o84.Whole,vs o84.Frac]) qbE rfl rfl (qad.own 0 rfl rfl)) fun a E=>qae E ok 1 rfl rfl rfl qcc rfl rfl ⟨rfl,rfl,rfl,trivial⟩ rfl rfl fun w ok=>av E rfl fun a E=>wn<|wp_ret ?_
    exact fin hF ⟨m0,[vb o84.Neg,vs o84.Whole,vs o84.Frac],le_m0,ok.drop.drop,E.d,⟨rv_c (cs:=[vb o84.Neg,vs o84.Whole,vs o84.Frac]) E ok rfl qbE rfl (qad.own 1 rfl rfl),rv_t E rfl,trivial⟩,⟨rfl,l93,l94⟩⟩
   have hF:=qbh c107 hF
   have E:=E.upd 87 c107 rfl
   refine fk E ok qdu qak rfl 0 rfl rfl fun a E=>fk E ok qdY qak rfl 0 rfl rfl fun a E=>bd hF fun s108 e109 hF=>lw E (qa5 rfl rfl e109) fun a E=>bd hF fun r110 e111 hF=>lc E qlv rfl (qfj N s108 (qb6 e109) e111 hG ok) fun w ok a E=>pt E rfl rfl fun a E=>pf E rfl rfl fun a E=>wn<|cf E rfl hF (fun c112 hF=>?_) fun c112 hF=>?_
   ·refine sg<|lw E (qau (ps:=[]) (qs:=[]) (cs:=[vb false,(vs ([])),(vs ([]))]) qcw qcf rfl trivial rfl) fun a E=>qae E ok 1 rfl rfl rfl qcc rfl rfl ⟨rfl,rfl,rfl,trivial⟩ rfl rfl fun w ok=>aw E rfl fun a E=>wp_ret<|qah ?_
    exact fin hF ⟨m0,[vb false,(vs ([])),(vs ([]))],le_m0,ok.drop.drop,E.d,⟨rv_c (cs:=[vb false,(vs ([])),(vs ([]))]) E ok rfl qbE rfl (qad.own 1 rfl rfl),rv_t E rfl,trivial⟩,⟨rfl,(Nat.zero_le _),(Nat.zero_le _)⟩⟩
   refine wp_skip<|qaa<|sg<|lv E ok (qas (cs:=[vb o84.Neg,vs o84.Whole,vs o84.Frac]) qbE rfl rfl (qad.own 0 rfl rfl)) fun a E=>qae E ok 1 rfl rfl rfl qcc rfl rfl ⟨rfl,rfl,rfl,trivial⟩ rfl rfl fun w ok=>av E rfl fun a E=>wn<|wp_ret ?_
   exact fin hF ⟨m0,[vb o84.Neg,vs o84.Whole,vs o84.Frac],le_m0,ok.drop.drop,E.d,⟨rv_c (cs:=[vb o84.Neg,vs o84.Whole,vs o84.Frac]) E ok rfl qbE rfl (qad.own 1 rfl rfl),rv_t E rfl,trivial⟩,⟨rfl,l93,l94⟩⟩
 refine mv E rfl fun a E=>bd hF fun c4 e5 hF=>lv E ok (qaH Tryz.underlying9 rfl rfl e5) fun a E=>lw E (qao rfl rfl) fun a E=>pt E rfl rfl fun a E=>wn<|bd hF fun o6 hJ hF=>qaG (Q':=fun e a w=>e = .normal ∧ Ok u m0 ([(b2,oc 173 [vb o6.2.Neg,vs o6.2.Whole,vs o6.2.Frac])] :: [(b1,oc 173 [vb false,(vs ([])),(vs ([]))])] :: S) w ∧ Env 98 a [(0,vs o6.1),(2,vp b1),(4,vp b2)] ∧ o6.1.length ≤ LIMS ∧ o6.2.Whole.length ≤ LIMS ∧ o6.2.Frac.length ≤ LIMS) ?_ ?_
 ·have hF:=hJ
  refine cg E rfl hF (fun c10 hF=>?_) fun c10 hF=>?_
  ·refine wp_skip ?_
   cases hF
   exact ⟨rfl,⟨ok,E.keep [0,2,4],ls_0,(Nat.zero_le _),(Nat.zero_le _)⟩⟩
  refine bd hF fun o11 hJ hF=>qaG (Q':=fun e a w=>e = .normal ∧ Ok u m0 ([(b2,oc 173 [vb o11.2.Neg,vs o11.2.Whole,vs o11.2.Frac])] :: [(b1,oc 173 [vb false,(vs ([])),(vs ([]))])] :: S) w ∧ Env 98 a [(0,vs o11.1),(2,vp b1),(4,vp b2)] ∧ o11.1.length ≤ LIMS ∧ o11.2.Whole.length ≤ LIMS ∧ o11.2.Frac.length ≤ LIMS) ?_ ?_
  rotate_left
  ·intro e a w hO
   obtain ⟨rfl,ok,E,l17,l18,l19⟩:=hO
   cases hF
   exact ⟨rfl,⟨ok,E.keep [0,2,4],l17,l18,l19⟩⟩
  have hF:=hJ
  obtain ⟨s15,e16,hF⟩:=bnd hF
  obtain rfl:=sj hF
  refine qbI [] (Cls u m0 ([(b1,oc 173 [vb false,(vs ([])),(vs ([]))])] :: [])) (Cls u m0 ([(b1,oc 173 [vb false,(vs ([])),(vs ([]))])] :: [])) (by kernel_rfl) ?_
  intro w hw
  replace ok:=qb3 ok hw
  clear hw
  refine qaw (cl1 (cq le_m0 ok [1] rfl) (cq le_m0 ok [1] rfl)) fun hT=>kt 0 E rfl hT (qan rfl) fun a E=>kt 1 E rfl hT (qdZ Tryz.underlying9 e16 rfl ⟨_,rfl⟩ rfl) fun a E=>kt 2 E rfl hT (qaj qik rfl) fun a E=>qa1 [3] (by kernel_rfl) rfl (qa8 ?_)
  ·refine wo rfl<|qae E ok 0 rfl rfl rfl qsc rfl rfl ⟨rfl,trivial⟩ rfl rfl fun w ok=>wn<|qaw (cl1 (cq le_m0 ok [1] rfl) (cq le_m0 ok [1] rfl)) fun hT=>kt 4 E rfl hT (qbx rfl) fun a E=>qbK (by kernel_rfl) ?_
   exact ⟨rfl,⟨ok,E.keep [0,2,4],(Nat.le_trans (qcL e16) ls_0),(Nat.zero_le _),(Nat.zero_le _)⟩⟩
 intro e a w hO
 obtain ⟨rfl,ok,E,l20,l21,l22⟩:=hO
 refine qaa<|sg<|aw E rfl fun a E=>wp_seq<|wp_block<|bd hF fun o24 hL hF=>qa9 _ (fun (s:Int) a w=>Ok u m0 ([(b2,oc 173 [vb o6.2.Neg,vs o6.2.Whole,vs o6.2.Frac])] :: [(b1,oc 173 [vb false,(vs ([])),(vs ([]))])] :: S) w ∧ Env 98 a [(0,vs o6.1),(2,vp b1),(4,vp b2),(5,vi s)] ∧ InR .i64 s) (fun (b:Int) e a w=>e = (.exit 0) ∧ Ok u m0 ([(b2,oc 173 [vb o6.2.Neg,vs o6.2.Whole,vs o6.2.Frac])] :: [(b1,oc 173 [vb false,(vs ([])),(vs ([]))])] :: S) w ∧ Env 98 a [(0,vs o6.1),(2,vp b1),(4,vp b2),(5,vi b)] ∧ InR .i64 b) ?_ ?_ N _ a w hL ⟨ok,E.keep [0,2,4,5],(ir 0)⟩
 ·rintro v26 a w r ⟨ok,E,r27⟩ hF
  replace hF:qeM N o6 v26 = some r:=hF
  unfold qeM at hF
  refine wp_seq<|sg<|mz E rfl rfl fun a E=>lw E (qaI Tryz.underlying9 rfl) fun a E=>lw E (qaO rfl rfl) fun a E=>mv E rfl fun a E=>bw E 21 hF (fun c28 hF E=>?_) fun c28 hF E=>?_
  ·refine lsz E fun a E=>pf E rfl rfl fun a E=>wn<|c_if E rfl (fun h=>by cases h) (fun _=>?_)
   refine wp_exit<|qaU ?_
   cases hF
   exact so (⟨rfl,⟨ok,E.keep [0,2,4,5],r27⟩⟩)
  refine mz E rfl rfl fun a E=>bd hF fun c29 e30 hF=>lv E ok (qaH Tryz.underlying9 rfl rfl e30) fun a E=>lw E (qbN rfl rfl) fun a E=>pt E rfl rfl fun a E=>wn<|cg E rfl hF (fun c31 hF=>?_) fun c31 hF=>?_
  ·refine wp_exit<|qaU ?_
   cases hF
   exact so (⟨rfl,⟨ok,E.keep [0,2,4,5],r27⟩⟩)
  refine wp_skip<|qaa<|wp_block<|qac<|mv E rfl fun a E=>lw E (qaA rfl rfl (InR.inc r27 (InR.len l20) c28)) fun a E=>av E rfl fun a E=>wpList_nil<|qaf ?_
  cases hF
  exact qar ⟨ok,E.keep [0,2,4,5],(InR.inc r27 (InR.len l20) c28)⟩
 intro e a w _ hO
 obtain ⟨rfl,ok,E,r32⟩:=hO
 refine qbm<|qaa<|sg<|mz E rfl rfl fun a E=>bd hF fun s33 e34 hF=>lw E (qdZ Tryz.underlying9 e34 rfl rfl ⟨_,rfl⟩) fun a E=>fv E qdu rfl fun a E=>qae E ok 0 rfl rfl rfl qcM rfl rfl ⟨rfl,trivial⟩ rfl rfl fun w ok=>wn<|wp_seq<|sg<|mz E rfl rfl fun a E=>lw E (qaI Tryz.underlying9 rfl) fun a E=>lw E (qaO rfl rfl) fun a E=>wn<|bd hF fun o35 hJ hF=>qaG (Q':=fun e a w=>(Sum.elim (fun b36=>e = .normal ∧ Ok u m0 ([(b2,oc 173 [vb b36.Neg,vs b36.Whole,vs b36.Frac])] :: [(b1,oc 173 [vb false,(vs ([])),(vs ([]))])] :: S) w ∧ Env 98 a [(2,vp b1),(4,vp b2)] ∧ b36.Whole.length ≤ LIMS ∧ b36.Frac.length ≤ LIMS) (fun b39=>e = .ret ∧ qec u m0 S b39 a w)) o35) ?_ ?_
 ·have hF:=hJ
  refine cg E rfl hF (fun c40 hF=>?_) fun c40 hF=>?_
  ·refine wp_skip ?_
   cases hF
   exact (sl ⟨rfl,⟨ok,E.keep [2,4],(Nat.le_trans (qcL e34) l20),l22⟩⟩)
  refine sg<|mz E rfl rfl fun a E=>lw E (qaA rfl rfl (InR.inc r32 (InR.len l20) c40)) fun a E=>bd hF fun s41 e42 hF=>lw E (qdZ Tryz.underlying9 e42 rfl ⟨_,rfl⟩ rfl) fun a E=>fv E qdY rfl fun a E=>qae E ok 0 rfl rfl rfl qcM rfl rfl ⟨rfl,trivial⟩ rfl rfl fun w ok=>wn<|sg<|fv E qdY rfl fun a E=>ld E ok qak 0 rfl rfl rfl fun a E=>lw E (qaI Tryz.underlying9 rfl) fun a E=>lw E (qao rfl rfl) fun a E=>wn<|cg E rfl hF (fun c43 hF=>?_) fun c43 hF=>?_
  ·refine wp_skip ?_
   cases hF
   exact (sl ⟨rfl,⟨ok,E.keep [2,4],(Nat.le_trans (qcL e34) l20),(Nat.le_trans (qcL e42) l20)⟩⟩)
  refine sg<|lw E (qau (ps:=[]) (qs:=[]) (cs:=[vb false,(vs ([])),(vs ([]))]) qcw qcf rfl trivial rfl) fun a E=>qae E ok 1 rfl rfl rfl qcc rfl rfl ⟨rfl,rfl,rfl,trivial⟩ rfl rfl fun w ok=>aw E rfl fun a E=>wp_ret ?_
  have hret:qec u m0 S ((Number2.mk false ([]) ([])),false) a w:=⟨m0,[vb false,(vs ([])),(vs ([]))],le_m0,ok.drop.drop,E.d,⟨rv_c (cs:=[vb false,(vs ([])),(vs ([]))]) E ok rfl qbE rfl (qad.own 1 rfl rfl),rv_t E rfl,trivial⟩,⟨rfl,(Nat.zero_le _),(Nat.zero_le _)⟩⟩
  cases hF
  exact (sr ⟨rfl,hret⟩)
 intro e a w hO
 rcases o35 with o35 | o35
 rotate_left
 ·obtain ⟨rfl,hret⟩:=hO
  refine qah ?_
  exact fin hF hret
 have hF:=qbV hF
 obtain ⟨rfl,ok,E,l44,l45⟩:=hO
 refine qaa<|wp_seq<|sg<|fk E ok qdu qak rfl 0 rfl rfl fun a E=>fk E ok qdY qak rfl 0 rfl rfl fun a E=>bd hF fun s46 e47 hF=>lw E (qa5 rfl rfl e47) fun a E=>bd hF fun r48 e49 hF=>lc E qo4 rfl (qg4 N s46 (qb6 e47) e49 hG ok) fun w ok a E=>lw E (qaT rfl) fun a E=>mv E rfl fun a E=>bu E 54 hF (fun c50 hF E=>?_) fun c50 hF E=>?_
 ·refine lsz E fun a E=>pt E rfl rfl fun a E=>mv E rfl fun a E=>lsz E fun a E=>pt E rfl rfl fun a E=>mv E rfl fun a E=>lsz E fun a E=>?_
  refine lsz E fun a E=>lsq E fun a E=>pt E rfl rfl fun a E=>mv E rfl fun a E=>lsz E fun a E=>pt E rfl rfl fun a E=>mv E rfl fun a E=>lsq E fun a E=>?_
  refine lsz E fun a E=>lsz E fun a E=>pt E rfl rfl fun a E=>wn<|c_if E rfl (fun _=>?_) (fun h=>by cases h)
  refine sg<|lw E (qau (ps:=[]) (qs:=[]) (cs:=[vb false,(vs ([])),(vs ([]))]) qcw qcf rfl trivial rfl) fun a E=>qae E ok 1 rfl rfl rfl qcc rfl rfl ⟨rfl,rfl,rfl,trivial⟩ rfl rfl fun w ok=>aw E rfl fun a E=>wp_ret<|qah ?_
  exact fin hF ⟨m0,[vb false,(vs ([])),(vs ([]))],le_m0,ok.drop.drop,E.d,⟨rv_c (cs:=[vb false,(vs ([])),(vs ([]))]) E ok rfl qbE rfl (qad.own 1 rfl rfl),rv_t E rfl,trivial⟩,⟨rfl,(Nat.zero_le _),(Nat.zero_le _)⟩⟩
 refine fk E ok qdu qak rfl 0 rfl rfl fun a E=>lw E (qaI Tryz.underlying9 rfl) fun a E=>lw E (qaO rfl rfl) fun a E=>pf E rfl rfl fun a E=>mv E rfl fun a E=>bu E 60 hF (fun c51 hF E=>?_) fun c51 hF E=>?_
 ·refine lsz E fun a E=>pt E rfl rfl fun a E=>mv E rfl fun a E=>lsz E fun a E=>lsz E fun a E=>lsq E fun a E=>?_
  refine pt E rfl rfl fun a E=>mv E rfl fun a E=>lsz E fun a E=>pt E rfl rfl fun a E=>mv E rfl fun a E=>lsz E fun a E=>lsz E fun a E=>?_
  refine lsq E fun a E=>pt E rfl rfl fun a E=>wn<|c_if E rfl (fun _=>?_) (fun h=>by cases h)
  refine sg<|lw E (qau (ps:=[]) (qs:=[]) (cs:=[vb false,(vs ([])),(vs ([]))]) qcw qcf rfl trivial rfl) fun a E=>qae E ok 1 rfl rfl rfl qcc rfl rfl ⟨rfl,rfl,rfl,trivial⟩ rfl rfl fun w ok=>aw E rfl fun a E=>wp_ret<|qah ?_
  exact fin hF ⟨m0,[vb false,(vs ([])),(vs ([]))],le_m0,ok.drop.drop,E.d,⟨rv_c (cs:=[vb false,(vs ([])),(vs ([]))]) E ok rfl qbE rfl (qad.own 1 rfl rfl),rv_t E rfl,trivial⟩,⟨rfl,(Nat.zero_le _),(Nat.zero_le _)⟩⟩
 refine fk E ok qdu qak rfl 0 rfl rfl fun a E=>lw E (qaI Tryz.underlying9 rfl) fun a E=>lw E (qbk rfl rfl) fun a E=>pf E rfl rfl fun a E=>mv E rfl fun a E=>bu E 66 hF (fun c52 hF E=>?_) fun c52 hF E=>?_
 ·refine lsz E fun a E=>lsz E fun a E=>lsq E fun a E=>pt E rfl rfl fun a E=>mv E rfl fun a E=>lsz E fun a E=>?_
  refine pt E rfl rfl fun a E=>mv E rfl fun a E=>lsz E fun a E=>lsz E fun a E=>lsq E fun a E=>pt E rfl rfl fun a E=>wn<|c_if E rfl (fun _=>?_) (fun h=>by cases h)
  refine sg<|lw E (qau (ps:=[]) (qs:=[]) (cs:=[vb false,(vs ([])),(vs ([]))]) qcw qcf rfl trivial rfl) fun a E=>qae E ok 1 rfl rfl rfl qcc rfl rfl ⟨rfl,rfl,rfl,trivial⟩ rfl rfl fun w ok=>aw E rfl fun a E=>wp_ret<|qah ?_
  exact fin hF ⟨m0,[vb false,(vs ([])),(vs ([]))],le_m0,ok.drop.drop,E.d,⟨rv_c (cs:=[vb false,(vs ([])),(vs ([]))]) E ok rfl qbE rfl (qad.own 1 rfl rfl),rv_t E rfl,trivial⟩,⟨rfl,(Nat.zero_le _),(Nat.zero_le _)⟩⟩
 refine fk E ok qdu qak rfl 0 rfl rfl fun a E=>lw E (qaI Tryz.underlying9 rfl) fun a E=>lw E (qbk rfl rfl) fun a E=>mv E rfl fun a E=>bw E 71 hF (fun c53 hF E=>?_) fun c53 hF E=>?_
 ·as_aux_lemma =>
   refine lsz E fun a E=>pf E rfl rfl fun a E=>pf E rfl rfl fun a E=>mv E rfl fun a E=>fv E qdY rfl fun a E=>ld E ok qak 0 rfl rfl rfl fun a E=>lw E (qaI Tryz.underlying9 rfl) fun a E=>lw E (qbk rfl rfl) fun a E=>pf E rfl rfl fun a E=>mv E rfl fun a E=>bu E 84 hF (fun c64 hF E=>?_) fun c64 hF E=>?_
   ·refine lsz E fun a E=>lsz E fun a E=>lsq E fun a E=>pt E rfl rfl fun a E=>wn<|c_if E rfl (fun _=>?_) (fun h=>by cases h)
    refine sg<|lw E (qau (ps:=[]) (qs:=[]) (cs:=[vb false,(vs ([])),(vs ([]))]) qcw qcf rfl trivial rfl) fun a E=>qae E ok 1 rfl rfl rfl qcc rfl rfl ⟨rfl,rfl,rfl,trivial⟩ rfl rfl fun w ok=>aw E rfl fun a E=>wp_ret<|qah ?_
    exact fin hF ⟨m0,[vb false,(vs ([])),(vs ([]))],le_m0,ok.drop.drop,E.d,⟨rv_c (cs:=[vb false,(vs ([])),(vs ([]))]) E ok rfl qbE rfl (qad.own 1 rfl rfl),rv_t E rfl,trivial⟩,⟨rfl,(Nat.zero_le _),(Nat.zero_le _)⟩⟩
   refine fk E ok qik qmQ rfl 0 rfl rfl fun a E=>mv E rfl fun a E=>qbj o35.Neg (fun c65=>?_) (fun c65=>?_)
   rotate_left
   ·have hF:=qbg c65 hF
    have E:=E.upd 87 c65 rfl
    refine lsz E fun a E=>lsq E fun a E=>pf E rfl rfl fun a E=>pf E rfl rfl fun a E=>wn<|c_if E rfl (fun h=>by cases h) (fun _=>?_)
    refine wp_skip<|qaa<|sg<|lv E ok (qas (cs:=[vb o35.Neg,vs o35.Whole,vs o35.Frac]) qbE rfl rfl (qad.own 0 rfl rfl)) fun a E=>qae E ok 1 rfl rfl rfl qcc rfl rfl ⟨rfl,rfl,rfl,trivial⟩ rfl rfl fun w ok=>av E rfl fun a E=>wn<|wp_ret ?_
    exact fin hF ⟨m0,[vb o35.Neg,vs o35.Whole,vs o35.Frac],le_m0,ok.drop.drop,E.d,⟨rv_c (cs:=[vb o35.Neg,vs o35.Whole,vs o35.Frac]) E ok rfl qbE rfl (qad.own 1 rfl rfl),rv_t E rfl,trivial⟩,⟨rfl,l44,l45⟩⟩
   have hF:=qbh c65 hF
   have E:=E.upd 87 c65 rfl
   refine fk E ok qdu qak rfl 0 rfl rfl fun a E=>fk E ok qdY qak rfl 0 rfl rfl fun a E=>bd hF fun s66 e67 hF=>lw E (qa5 rfl rfl e67) fun a E=>bd hF fun r68 e69 hF=>lc E qlv rfl (qfj N s66 (qb6 e67) e69 hG ok) fun w ok a E=>pt E rfl rfl fun a E=>pf E rfl rfl fun a E=>wn<|cf E rfl hF (fun c70 hF=>?_) fun c70 hF=>?_
   ·refine sg<|lw E (qau (ps:=[]) (qs:=[]) (cs:=[vb false,(vs ([])),(vs ([]))]) qcw qcf rfl trivial rfl) fun a E=>qae E ok 1 rfl rfl rfl qcc rfl rfl ⟨rfl,rfl,rfl,trivial⟩ rfl rfl fun w ok=>aw E rfl fun a E=>wp_ret<|qah ?_
    exact fin hF ⟨m0,[vb false,(vs ([])),(vs ([]))],le_m0,ok.drop.drop,E.d,⟨rv_c (cs:=[vb false,(vs ([])),(vs ([]))]) E ok rfl qbE rfl (qad.own 1 rfl rfl),rv_t E rfl,trivial⟩,⟨rfl,(Nat.zero_le _),(Nat.zero_le _)⟩⟩
   refine wp_skip<|qaa<|sg<|lv E ok (qas (cs:=[vb o35.Neg,vs o35.Whole,vs o35.Frac]) qbE rfl rfl (qad.own 0 rfl rfl)) fun a E=>qae E ok 1 rfl rfl rfl qcc rfl rfl ⟨rfl,rfl,rfl,trivial⟩ rfl rfl fun w ok=>av E rfl fun a E=>wn<|wp_ret ?_
   exact fin hF ⟨m0,[vb o35.Neg,vs o35.Whole,vs o35.Frac],le_m0,ok.drop.drop,E.d,⟨rv_c (cs:=[vb o35.Neg,vs o35.Whole,vs o35.Frac]) E ok rfl qbE rfl (qad.own 1 rfl rfl),rv_t E rfl,trivial⟩,⟨rfl,l44,l45⟩⟩
 refine fk E ok qdu qak rfl 0 rfl rfl fun a E=>bd hF fun c54 e55 hF=>lv E ok (qaH Tryz.underlying9 rfl rfl e55) fun a E=>lw E (qao rfl rfl) fun a E=>pt E rfl rfl fun a E=>pf E rfl rfl fun a E=>mv E rfl fun a E=>bu E 78 hF (fun c56 hF E=>?_) fun c56 hF E=>?_
 ·refine lsz E fun a E=>pt E rfl rfl fun a E=>mv E rfl fun a E=>lsz E fun a E=>lsz E fun a E=>lsq E fun a E=>?_
  refine pt E rfl rfl fun a E=>wn<|c_if E rfl (fun _=>?_) (fun h=>by cases h)
  refine sg<|lw E (qau (ps:=[]) (qs:=[]) (cs:=[vb false,(vs ([])),(vs ([]))]) qcw qcf rfl trivial rfl) fun a E=>qae E ok 1 rfl rfl rfl qcc rfl rfl ⟨rfl,rfl,rfl,trivial⟩ rfl rfl fun w ok=>aw E rfl fun a E=>wp_ret<|qah ?_
  exact fin hF ⟨m0,[vb false,(vs ([])),(vs ([]))],le_m0,ok.drop.drop,E.d,⟨rv_c (cs:=[vb false,(vs ([])),(vs ([]))]) E ok rfl qbE rfl (qad.own 1 rfl rfl),rv_t E rfl,trivial⟩,⟨rfl,(Nat.zero_le _),(Nat.zero_le _)⟩⟩
 refine fk E ok qdY qak rfl 0 rfl rfl fun a E=>lw E (qaI Tryz.underlying9 rfl) fun a E=>lw E (qbk rfl rfl) fun a E=>pf E rfl rfl fun a E=>mv E rfl fun a E=>bu E 84 hF (fun c57 hF E=>?_) fun c57 hF E=>?_
 ·refine lsz E fun a E=>lsz E fun a E=>lsq E fun a E=>pt E rfl rfl fun a E=>wn<|c_if E rfl (fun _=>?_) (fun h=>by cases h)
  refine sg<|lw E (qau (ps:=[]) (qs:=[]) (cs:=[vb false,(vs ([])),(vs ([]))]) qcw qcf rfl trivial rfl) fun a E=>qae E ok 1 rfl rfl rfl qcc rfl rfl ⟨rfl,rfl,rfl,trivial⟩ rfl rfl fun w ok=>aw E rfl fun a E=>wp_ret<|qah ?_
  exact fin hF ⟨m0,[vb false,(vs ([])),(vs ([]))],le_m0,ok.drop.drop,E.d,⟨rv_c (cs:=[vb false,(vs ([])),(vs ([]))]) E ok rfl qbE rfl (qad.own 1 rfl rfl),rv_t E rfl,trivial⟩,⟨rfl,(Nat.zero_le _),(Nat.zero_le _)⟩⟩
 refine fk E ok qik qmQ rfl 0 rfl rfl fun a E=>mv E rfl fun a E=>qbj o35.Neg (fun c58=>?_) (fun c58=>?_)
 rotate_left
 ·have hF:=qbg c58 hF
  have E:=E.upd 87 c58 rfl
  refine lsz E fun a E=>lsq E fun a E=>pf E rfl rfl fun a E=>pf E rfl rfl fun a E=>wn<|c_if E rfl (fun h=>by cases h) (fun _=>?_)
  refine wp_skip<|qaa<|sg<|lv E ok (qas (cs:=[vb o35.Neg,vs o35.Whole,vs o35.Frac]) qbE rfl rfl (qad.own 0 rfl rfl)) fun a E=>qae E ok 1 rfl rfl rfl qcc rfl rfl ⟨rfl,rfl,rfl,trivial⟩ rfl rfl fun w ok=>av E rfl fun a E=>wn<|wp_ret ?_
  exact fin hF ⟨m0,[vb o35.Neg,vs o35.Whole,vs o35.Frac],le_m0,ok.drop.drop,E.d,⟨rv_c (cs:=[vb o35.Neg,vs o35.Whole,vs o35.Frac]) E ok rfl qbE rfl (qad.own 1 rfl rfl),rv_t E rfl,trivial⟩,⟨rfl,l44,l45⟩⟩
 have hF:=qbh c58 hF
 have E:=E.upd 87 c58 rfl
 refine fk E ok qdu qak rfl 0 rfl rfl fun a E=>fk E ok qdY qak rfl 0 rfl rfl fun a E=>bd hF fun s59 e60 hF=>lw E (qa5 rfl rfl e60) fun a E=>bd hF fun r61 e62 hF=>lc E qlv rfl (qfj N s59 (qb6 e60) e62 hG ok) fun w ok a E=>pt E rfl rfl fun a E=>pf E rfl rfl fun a E=>wn<|cf E rfl hF (fun c63 hF=>?_) fun c63 hF=>?_
 ·refine sg<|lw E (qau (ps:=[]) (qs:=[]) (cs:=[vb false,(vs ([])),(vs ([]))]) qcw qcf rfl trivial rfl) fun a E=>qae E ok 1 rfl rfl rfl qcc rfl rfl ⟨rfl,rfl,rfl,trivial⟩ rfl rfl fun w ok=>aw E rfl fun a E=>wp_ret<|qah ?_
  exact fin hF ⟨m0,[vb false,(vs ([])),(vs ([]))],le_m0,ok.drop.drop,E.d,⟨rv_c (cs:=[vb false,(vs ([])),(vs ([]))]) E ok rfl qbE rfl (qad.own 1 rfl rfl),rv_t E rfl,trivial⟩,⟨rfl,(Nat.zero_le _),(Nat.zero_le _)⟩⟩
 refine wp_skip<|qaa<|sg<|lv E ok (qas (cs:=[vb o35.Neg,vs o35.Whole,vs o35.Frac]) qbE rfl rfl (qad.own 0 rfl rfl)) fun a E=>qae E ok 1 rfl rfl rfl qcc rfl rfl ⟨rfl,rfl,rfl,trivial⟩ rfl rfl fun w ok=>av E rfl fun a E=>wn<|wp_ret ?_
 exact fin hF ⟨m0,[vb o35.Neg,vs o35.Whole,vs o35.Frac],le_m0,ok.drop.drop,E.d,⟨rv_c (cs:=[vb o35.Neg,vs o35.Whole,vs o35.Frac]) E ok rfl qbE rfl (qad.own 1 rfl rfl),rv_t E rfl,trivial⟩,⟨rfl,l44,l45⟩⟩
def qkn (u:World) (m0:Mem) (S:Segs) (r:Bool) (a:Act) (w:World):Prop :=
 Ok u m0 S w ∧ a.defers = [] ∧ RVs Tryz.prog a w [.t 2 (.bool r)]
theorem qj7 (N:Nat) (s_0:List UInt8) (ls_0:s_0.length ≤ LIMS) {r:Bool} (hF:qeI N s_0 = some r) (hG:Glob u) (ok:Ok u m0 S w) :
  Calls Tryz.prog 78 [vs s_0].toArray w fun e w'=>(e = .returned (.bool r) ∧ Ok u m0 S w'):=by
 have hb0:=ok.base
 have le_m0:=Mem.le.refl m0
 unfold qeI at hF
 refine en (qkn u m0 S) r Tryz.func78 rfl rfl rfl (fun _ _ h=>ra h rfl) fun fin a E=>sg<|aw E rfl fun a E=>sg<|mv E rfl fun a E=>bd hF fun r1 e2 hF=>qag E qq3 rfl (qkd N s_0 ls_0 e2 hG ok) rfl rfl ?_
 rintro _ w ⟨m3,vs4,rfl,hle,ok,h5⟩
 have le_m0:=le_m0.trans hle
 obtain ⟨rfl,l6,l7⟩:=h5
 refine ⟨_,rfl,fun a E=>?_⟩
 refine mv E rfl fun a E=>lw E (qa6 rfl rfl) fun a E=>lw E (qa6 rfl rfl) fun a E=>qa4 E ok qcw rfl rfl fun b8 a w E ok=>qae E ok 0 rfl rfl rfl qcc rfl rfl ⟨rfl,rfl,rfl,trivial⟩ rfl rfl fun w ok=>aw E rfl fun a E=>sg<|mv E rfl fun a E=>aw E rfl fun a E=>wp_ret ?_
 exact fin hF ⟨(ok.drop).down hb0 le_m0,E.d,rz E rfl⟩
def qk5 (u:World) (m0:Mem) (S:Segs) (r:Bool) (a:Act) (w:World):Prop :=
 Ok u m0 S w ∧ a.defers = [] ∧ RVs Tryz.prog a w [.t 4 (.bool r)]
theorem qcF (N:Nat) (kind_0:Int) (rkind_0:InR .i64 kind_0) (s_1:List UInt8) (ls_1:s_1.length ≤ LIMS) {r:Bool} (hF:qbY N kind_0 s_1 = some r) (hG:Glob u) (ok:Ok u m0 S w) :
  Calls Tryz.prog 60 [vi kind_0,vs s_1].toArray w fun e w'=>(e = .returned (.bool r) ∧ Ok u m0 S w'):=by
 unfold qbY at hF
 refine en (qk5 u m0 S) r Tryz.func60 rfl rfl rfl (fun _ _ h=>ra h rfl) fun fin a E=>sg<|aw E rfl fun a E=>wp_seq<|sg<|mv E rfl fun a E=>lw E (qao rfl rfl) fun a E=>wn<|cf E rfl hF (fun c1 hF=>?_) fun c1 hF=>?_
 ·refine sg<|mv E rfl fun a E=>bd hF fun r2 e3 hF=>lc E qdQ rfl (qaP N s_1 ls_1 e3 hG ok) fun w ok a E=>aw E rfl fun a E=>wp_ret<|qah ?_
  exact fin hF ⟨ok,E.d,rz E rfl⟩
 refine wp_skip<|qaa<|sg<|mv E rfl fun a E=>bd hF fun r4 e5 hF=>lc E qrZ rfl (qjV N s_1 ls_1 e5 hG ok) fun w ok a E=>mv E rfl fun a E=>qbj r4 (fun c6=>?_) (fun c6=>?_)
 ·have hF:=qbh c6 hF
  have E:=E.upd 11 c6 rfl
  refine lsz E fun a E=>lsz E fun a E=>lsz E fun a E=>ls E fun a E=>pt E rfl rfl fun a E=>av E rfl fun a E=>wn<|wp_ret ?_
  exact fin hF ⟨ok,E.d,rz E rfl⟩
 have hF:=qbg c6 hF
 have E:=E.upd 11 c6 rfl
 refine mv E rfl fun a E=>lw E (qaI Tryz.underlying9 rfl) fun a E=>lw E (qbk rfl rfl) fun a E=>mv E rfl fun a E=>bw E 15 hF (fun c7 hF E=>?_) fun c7 hF E=>?_
 ·refine lsq E fun a E=>ls E fun a E=>pf E rfl rfl fun a E=>mv E rfl fun a E=>lsq E fun a E=>ls E fun a E=>pf E rfl rfl fun a E=>pf E rfl rfl fun a E=>aw E rfl fun a E=>wp_ret ?_
  exact fin hF ⟨ok,E.d,rz E rfl⟩
 refine mv E rfl fun a E=>bd hF fun c8 e9 hF=>lv E ok (qaH Tryz.underlying9 rfl rfl e9) fun a E=>lw E (qao rfl rfl) fun a E=>pt E rfl rfl fun a E=>mv E rfl fun a E=>bw E 20 hF (fun c10 hF E=>?_) fun c10 hF E=>?_
 ·refine lsq E fun a E=>ls E fun a E=>pf E rfl rfl fun a E=>pf E rfl rfl fun a E=>aw E rfl fun a E=>wp_ret ?_
  exact fin hF ⟨ok,E.d,rz E rfl⟩
 refine mv E rfl fun a E=>bd hF fun s11 e12 hF=>lw E (qdZ Tryz.underlying9 e12 rfl ⟨_,rfl⟩ rfl) fun a E=>bd hF fun r13 e14 hF=>lc E qrW rfl (qj7 N s11 (Nat.le_trans (qcL e12) ls_1) e14 hG ok) fun w ok a E=>pt E rfl rfl fun a E=>pf E rfl rfl fun a E=>aw E rfl fun a E=>wp_ret ?_
 exact fin hF ⟨ok,E.d,rz E rfl⟩
def qgu (u:World) (m0:Mem) (S:Segs) (r:Bool) (a:Act) (w:World):Prop :=
 Ok u m0 S w ∧ a.defers = [] ∧ RVs Tryz.prog a w [.t 2 (.bool r)]
theorem qdC (N:Nat) (s_0:List UInt8) (ls_0:s_0.length ≤ LIMS) {r:Bool} (hF:qcb N s_0 = some r) (hG:Glob u) (ok:Ok u m0 S w) :
  Calls Tryz.prog 79 [vs s_0].toArray w fun e w'=>(e = .returned (.bool r) ∧ Ok u m0 S w'):=by
 unfold qcb at hF
 refine en (qgu u m0 S) r Tryz.func79 rfl rfl rfl (fun _ _ h=>ra h rfl) fun fin a E=>sg<|aw E rfl fun a E=>wp_seq<|sg<|aw E rfl fun a E=>wp_block<|bd hF fun o2 hL hF=>qa9 _ (fun (s:Int) a w=>Ok u m0 (S) w ∧ Env 37 a [(0,vs s_0),(3,vi s)] ∧ InR .i64 s) (fun (b:(Unit ⊕ Bool)) e a w=>(Sum.elim (fun b16=>e = (.exit 0) ∧ Ok u m0 (S) w ∧ Env 37 a [(0,vs s_0)]) (fun b17=>e = .ret ∧ qgu u m0 S b17 a w)) b) ?_ ?_ N _ a w hL ⟨ok,E.keep [0,3],(ir 0)⟩
 rotate_left
 ·intro e a w _ hO
  rcases o2 with o2 | o2
  rotate_left
  ·obtain ⟨rfl,hret⟩:=hO
   refine qaq<|qah ?_
   exact fin hF hret
  have hF:=qbV hF
  obtain ⟨rfl,ok,E⟩:=hO
  refine qbm<|qaa<|sg<|mv E rfl fun a E=>lw E (qaI Tryz.underlying9 rfl) fun a E=>lw E (qb2 rfl rfl) fun a E=>mv E rfl fun a E=>bu E 32 hF (fun c15 hF E=>?_) fun c15 hF E=>?_
  ·refine mv E rfl fun a E=>lw E (qaI Tryz.underlying9 rfl) fun a E=>lw E (qc4 rfl rfl) fun a E=>pt E rfl rfl fun a E=>aw E rfl fun a E=>wp_ret ?_
   exact fin hF ⟨ok,E.d,rz E rfl⟩
  refine lsq E fun a E=>ls E fun a E=>pf E rfl rfl fun a E=>aw E rfl fun a E=>wp_ret ?_
  exact fin hF ⟨ok,E.d,rz E rfl⟩
 rintro v4 a w r ⟨ok,E,r5⟩ hF
 replace hF:qds N s_0 v4 = some r:=hF
 unfold qds at hF
 refine wp_seq<|sg<|mz E rfl rfl fun a E=>lw E (qaI Tryz.underlying9 rfl) fun a E=>lw E (qaO rfl rfl) fun a E=>wn<|cg E rfl hF (fun c6 hF=>?_) fun c6 hF=>?_
 ·refine wp_exit<|qaU ?_
  cases hF
  exact so (sl ⟨rfl,⟨ok,E.keep [0]⟩⟩)
 refine wp_skip<|qaa<|wp_seq<|wp_block<|sg<|mz E rfl rfl fun a E=>bd hF fun c7 e8 hF=>lv E ok (qaH Tryz.underlying9 rfl rfl e8) fun a E=>aw E rfl fun a E=>wp_seq<|bd hF fun o9 hJ hF=>qaG (Q':=fun e a w=>e = .normal ∧ Ok u m0 (S) w ∧ Env 37 a [(0,vs s_0),(3,vi v4),(28,vb o9)]) ?_ ?_
 rotate_left
 ·intro e a w hO
  obtain ⟨rfl,ok,E⟩:=hO
  refine qaa<|cg E rfl hF (fun c14 hF=>?_) fun c14 hF=>?_
  ·refine wp_skip<|qaf<|qaa<|qac<|mv E rfl fun a E=>lw E (qaA rfl rfl (InR.inc r5 (InR.len ls_0) c6)) fun a E=>av E rfl fun a E=>wpList_nil ?_
   cases hF
   exact qar ⟨ok,E.keep [0,3],(InR.inc r5 (InR.len ls_0) c6)⟩
  refine sg<|aw E rfl fun a E=>wp_ret<|qaq<|qah ?_
  cases hF
  exact so (sr ⟨rfl,⟨ok,E.d,rz E rfl⟩⟩)
 have hF:=hJ
 refine qac<|mv E rfl fun a E=>lw E (qb2 rfl rfl) fun a E=>mv E rfl fun a E=>bw E 16 hF (fun c10 hF E=>?_) fun c10 hF E=>?_
 ·refine lsq E fun a E=>pf E rfl rfl fun a E=>mz E rfl rfl fun a E=>lw E (qb2 rfl rfl) fun a E=>mv E rfl fun a E=>bu E 23 hF (fun c13 hF E=>?_) fun c13 hF E=>?_
  ·refine mv E rfl fun a E=>lw E (qc4 rfl rfl) fun a E=>pt E rfl rfl fun a E=>pf E rfl rfl fun a E=>lw E (qaT rfl) fun a E=>wpList_nil ?_
   cases hF
   exact ⟨rfl,⟨ok,E.keep [0,3,28]⟩⟩
  refine lsq E fun a E=>pf E rfl rfl fun a E=>pf E rfl rfl fun a E=>lw E (qaT rfl) fun a E=>wpList_nil ?_
  cases hF
  exact ⟨rfl,⟨ok,E.keep [0,3,28]⟩⟩
 refine mv E rfl fun a E=>lw E (qc4 rfl rfl) fun a E=>pt E rfl rfl fun a E=>mv E rfl fun a E=>bu E 20 hF (fun c11 hF E=>?_) fun c11 hF E=>?_
 ·refine lsz E fun a E=>lsq E fun a E=>pt E rfl rfl fun a E=>lw E (qaT rfl) fun a E=>wpList_nil ?_
  cases hF
  exact ⟨rfl,⟨ok,E.keep [0,3,28]⟩⟩
 refine mv E rfl fun a E=>lw E (qb2 rfl rfl) fun a E=>mv E rfl fun a E=>bu E 23 hF (fun c12 hF E=>?_) fun c12 hF E=>?_
 ·refine mv E rfl fun a E=>lw E (qc4 rfl rfl) fun a E=>pt E rfl rfl fun a E=>pf E rfl rfl fun a E=>lw E (qaT rfl) fun a E=>wpList_nil ?_
  cases hF
  exact ⟨rfl,⟨ok,E.keep [0,3,28]⟩⟩
 refine lsq E fun a E=>pf E rfl rfl fun a E=>pf E rfl rfl fun a E=>lw E (qaT rfl) fun a E=>wpList_nil ?_
 cases hF
 exact ⟨rfl,⟨ok,E.keep [0,3,28]⟩⟩
def qj2 (u:World) (m0:Mem) (S:Segs) (r:Bool) (a:Act) (w:World):Prop :=
 Ok u m0 S w ∧ a.defers = [] ∧ RVs Tryz.prog a w [.t 4 (.bool r)]
theorem qfQ (N:Nat) (vx_0:List Value) (x_0:Part) (hx_0:qa0 m0 vx_0 x_0) (counted_1:Bool) {r:Bool} (hF:qc0 N x_0 counted_1 = some r) (hG:Glob u) (ok:Ok u m0 S w) :
  Calls Tryz.prog 61 [.agg vx_0.toArray,vb counted_1].toArray w fun e w'=>(e = .returned (.bool r) ∧ Ok u m0 S w'):=by
 obtain ⟨c5,c7,rfl,r1,l2,l3,l4,h6,h8⟩:=(qaK.1 hx_0)
 have le_m0:=Mem.le.refl m0
 unfold qc0 at hF
 refine en (qj2 u m0 S) r Tryz.func61 rfl rfl rfl (fun _ _ h=>ra h rfl) fun fin a E=>sg<|qfY E ok rfl rfl rfl fun b9 a w E ok=>aw E rfl fun a E=>sg<|fk E ok qay qap rfl 0 rfl rfl fun a E=>lw E (qau (ps:=[(0,.tmp 8)]) (qs:=[(0,[vi x_0.Kind])]) (cs:=[vi x_0.Kind,(vs ([])),(vs ([])),(vs ([])),(Value.slice none 0 0),(Value.slice none 0 0)]) qbv qfk rfl ⟨rfl,rfl,rfl,trivial⟩ rfl) fun a E=>qa4 E ok qbv rfl rfl fun b10 a w E ok=>qae E ok 0 rfl rfl rfl qfd rfl rfl ⟨rfl,rfl,rfl,rfl,rfl,rfl,trivial⟩ rfl rfl fun w ok=>wn<|sg<|aw E rfl fun a E=>wp_seq<|sg<|fk E ok qay qap rfl 1 rfl rfl fun a E=>wn<|wp_block<|sg<|lw E (qao rfl rfl) fun a E=>?_
 refine aw E rfl fun a E=>bd hF fun o11 hJ hF=>qaG (Q':=fun e a w=>e = .normal ∧ Ok u m0 ([(b10,oc 82 [vi o11.2.Kind,vs o11.2.Text,vs o11.2.Name,vs o11.2.Style,(Value.slice none 0 0),(Value.slice none 0 0)])] :: [(b9,oc 82 [vi x_0.Kind,vs x_0.Text,vs x_0.Name,vs x_0.Style,c5,c7])] :: S) w ∧ Env 113 a [(2,vp b9),(5,vp b10),(6,vb o11.1)] ∧ InR .i64 o11.2.Kind ∧ o11.2.Text.length ≤ LIMS ∧ o11.2.Name.length ≤ LIMS ∧ o11.2.Style.length ≤ LIMS) ?_ ?_
 rotate_left
 ·as_aux_lemma =>
   intro e a w hO
   obtain ⟨rfl,ok,E,r48,l49,l50,l51⟩:=hO
   refine qaf<|qaa<|sg<|mz E rfl rfl fun a E=>qbj o11.1 (fun c52=>?_) (fun c52=>?_)
   rotate_left
   ·have hF:=qbg c52 hF
    have E:=E.upd 80 c52 rfl
    refine lsz E fun a E=>pf E rfl rfl fun a E=>mv E rfl fun a E=>lsz E fun a E=>pf E rfl rfl fun a E=>mv E rfl fun a E=>lsz E fun a E=>?_
    refine ls E fun a E=>pf E rfl rfl fun a E=>mv E rfl fun a E=>lsz E fun a E=>ls E fun a E=>pf E rfl rfl fun a E=>mv E rfl fun a E=>lsz E fun a E=>ls E fun a E=>pf E rfl rfl fun a E=>?_
    refine aw E rfl fun a E=>wp_ret ?_
    exact fin hF ⟨ok.drop.drop,E.d,rz E rfl⟩
   have hF:=qbh c52 hF
   have E:=E.upd 80 c52 rfl
   refine fk E ok qa2 qbo rfl 1 rfl rfl fun a E=>lv E ok (qaQ qbr h6 rfl) fun a E=>lw E (qao rfl rfl) fun a E=>pt E rfl rfl fun a E=>mv E rfl fun a E=>bw E 86 hF (fun c53 hF E=>?_) fun c53 hF E=>?_
   ·refine lsz E fun a E=>pf E rfl rfl fun a E=>mv E rfl fun a E=>lsz E fun a E=>ls E fun a E=>pf E rfl rfl fun a E=>mv E rfl fun a E=>lsq E fun a E=>ls E fun a E=>?_
    refine lsq E fun a E=>pf E rfl rfl fun a E=>mv E rfl fun a E=>lsz E fun a E=>ls E fun a E=>pf E rfl rfl fun a E=>aw E rfl fun a E=>wp_ret ?_
    exact fin hF ⟨ok.drop.drop,E.d,rz E rfl⟩
   refine fk E ok qbR qbu rfl 1 rfl rfl fun a E=>lv E ok (qaQ qbc h8 rfl) fun a E=>lw E (qao rfl rfl) fun a E=>pt E rfl rfl fun a E=>mv E rfl fun a E=>bw E 92 hF (fun c54 hF E=>?_) fun c54 hF E=>?_
   ·refine lsz E fun a E=>ls E fun a E=>pf E rfl rfl fun a E=>mv E rfl fun a E=>lsz E fun a E=>ls E fun a E=>pf E rfl rfl fun a E=>mv E rfl fun a E=>lsq E fun a E=>?_
    refine lsq E fun a E=>ls E fun a E=>pf E rfl rfl fun a E=>aw E rfl fun a E=>wp_ret ?_
    exact fin hF ⟨ok.drop.drop,E.d,rz E rfl⟩
   refine fk E ok qcz qak rfl 1 rfl rfl fun a E=>fk E ok qcz qak rfl 0 rfl rfl fun a E=>lw E (qbt rfl rfl) fun a E=>pt E rfl rfl fun a E=>mv E rfl fun a E=>bw E 99 hF (fun c55 hF E=>?_) fun c55 hF E=>?_
   ·refine lsz E fun a E=>ls E fun a E=>pf E rfl rfl fun a E=>mv E rfl fun a E=>lsz E fun a E=>ls E fun a E=>pf E rfl rfl fun a E=>aw E rfl fun a E=>wp_ret ?_
    exact fin hF ⟨ok.drop.drop,E.d,rz E rfl⟩
   refine fk E ok qaN qak rfl 1 rfl rfl fun a E=>fk E ok qaN qak rfl 0 rfl rfl fun a E=>lw E (qbt rfl rfl) fun a E=>pt E rfl rfl fun a E=>mv E rfl fun a E=>bu E 106 hF (fun c56 hF E=>?_) fun c56 hF E=>?_
   ·refine fk E ok qaW qak rfl 1 rfl rfl fun a E=>fk E ok qaW qak rfl 0 rfl rfl fun a E=>lw E (qbt rfl rfl) fun a E=>pt E rfl rfl fun a E=>av E rfl fun a E=>wn<|wp_ret ?_
    exact fin hF ⟨ok.drop.drop,E.d,rz E rfl⟩
   refine lsz E fun a E=>ls E fun a E=>pf E rfl rfl fun a E=>av E rfl fun a E=>wn<|wp_ret ?_
   exact fin hF ⟨ok.drop.drop,E.d,rz E rfl⟩
 have hF:=hJ
 refine cf E rfl hF (fun c16 hF=>?_) fun c16 hF=>?_
 ·refine sg<|fk E ok qcz qak rfl 1 rfl rfl fun a E=>fv E qcz rfl fun a E=>qae E ok 0 rfl rfl rfl qcM rfl rfl ⟨rfl,trivial⟩ rfl rfl fun w ok=>wn<|qac<|fk E ok qcz qak rfl 1 rfl rfl fun a E=>lw E (qce rfl rfl) fun a E=>av E rfl fun a E=>wpList_nil ?_
  cases hF
  exact ⟨rfl,⟨ok,E.keep [2,5,6],r1,l2,(Nat.zero_le _),(Nat.zero_le _)⟩⟩
 refine sg<|lw E (qao rfl rfl) fun a E=>aw E rfl fun a E=>cf E rfl hF (fun c17 hF=>?_) fun c17 hF=>?_
 ·refine qac<|mv E rfl fun a E=>av E rfl fun a E=>wpList_nil ?_
  cases hF
  exact ⟨rfl,⟨ok,E.keep [2,5,6],r1,(Nat.zero_le _),(Nat.zero_le _),(Nat.zero_le _)⟩⟩
 refine sg<|lw E (qao rfl rfl) fun a E=>aw E rfl fun a E=>cf E rfl hF (fun c18 hF=>?_) fun c18 hF=>?_
 ·refine sg<|fk E ok qaN qak rfl 1 rfl rfl fun a E=>fv E qaN rfl fun a E=>qae E ok 0 rfl rfl rfl qcM rfl rfl ⟨rfl,trivial⟩ rfl rfl fun w ok=>wn<|qac<|fk E ok qaN qak rfl 1 rfl rfl fun a E=>bd hF fun r19 e20 hF=>lc E qdQ rfl (qaP N x_0.Name l3 e20 hG ok) fun w ok a E=>av E rfl fun a E=>wpList_nil ?_
  cases hF
  exact ⟨rfl,⟨ok,E.keep [2,5,6],r1,(Nat.zero_le _),l3,(Nat.zero_le _)⟩⟩
 refine wp_seq<|sg<|lw E (qao rfl rfl) fun a E=>aw E rfl fun a E=>bd hF fun o21 hJ hF=>qaG (Q':=fun e a w=>e = .normal ∧ Ok u m0 ([(b10,oc 82 [vi x_0.Kind,(vs ([])),(vs ([])),(vs ([])),(Value.slice none 0 0),(Value.slice none 0 0)])] :: [(b9,oc 82 [vi x_0.Kind,vs x_0.Text,vs x_0.Name,vs x_0.Style,c5,c7])] :: S) w ∧ Env 113 a [(2,vp b9),(5,vp b10),(6,vb false),(31,vb o21)]) ?_ ?_
 ·have hF:=hJ
  refine cf E rfl hF (fun c22 hF=>?_) fun c22 hF=>?_
  ·refine wp_skip ?_
   cases hF
   exact ⟨rfl,⟨ok,E.keep [2,5,6,31]⟩⟩
  refine sg<|lw E (qao rfl rfl) fun a E=>aw E rfl fun a E=>cf E rfl hF (fun c23 hF=>?_) fun c23 hF=>?_
  ·refine wp_skip ?_
   cases hF
   exact ⟨rfl,⟨ok,E.keep [2,5,6,31]⟩⟩
  refine sg<|lw E (qao rfl rfl) fun a E=>aw E rfl fun a E=>cf E rfl hF (fun c24 hF=>?_) fun c24 hF=>?_
  ·refine wp_skip ?_
   cases hF
   exact ⟨rfl,⟨ok,E.keep [2,5,6,31]⟩⟩
  refine qac<|lw E (qao rfl rfl) fun a E=>av E rfl fun a E=>wpList_nil ?_
  cases hF
  exact ⟨rfl,⟨ok,E.keep [2,5,6,31]⟩⟩
 intro e a w hO
 obtain ⟨rfl,ok,E⟩:=hO
 refine qaa<|cg E rfl hF (fun c25 hF=>?_) fun c25 hF=>?_
 ·refine wp_skip ?_
  cases hF
  exact ⟨rfl,⟨ok,E.keep [2,5,6],r1,(Nat.zero_le _),(Nat.zero_le _),(Nat.zero_le _)⟩⟩
 refine wp_seq<|bd hF fun o26 hJ hF=>qaG (Q':=fun e a w=>e = .normal ∧ Ok u m0 ([(b10,oc 82 [vi o26.Kind,vs o26.Text,vs o26.Name,vs o26.Style,(Value.slice none 0 0),(Value.slice none 0 0)])] :: [(b9,oc 82 [vi x_0.Kind,vs x_0.Text,vs x_0.Name,vs x_0.Style,c5,c7])] :: S) w ∧ Env 113 a [(2,vp b9),(5,vp b10)] ∧ InR .i64 o26.Kind ∧ o26.Text.length ≤ LIMS ∧ o26.Name.length ≤ LIMS ∧ o26.Style.length ≤ LIMS) ?_ ?_
 ·have hF:=hJ
  cases hF
  refine qbI [1] (Cls u m0 ([(b10,oc 82 [vi x_0.Kind,(vs ([])),(vs ([])),(vs ([])),(Value.slice none 0 0),(Value.slice none 0 0)])] :: [(b9,oc 82 [vi x_0.Kind,vs x_0.Text,vs x_0.Name,vs x_0.Style,c5,c7])] :: [])) (Cls u m0 ([(b9,oc 82 [vi x_0.Kind,vs x_0.Text,vs x_0.Name,vs x_0.Style,c5,c7])] :: [])) (by kernel_rfl) ?_
  intro w hw
  replace ok:=qb3 ok hw
  clear hw
  refine qaw (cl1 (cq le_m0 ok [0,1] rfl) (cq le_m0 ok [1] rfl)) fun hT=>kt 0 E rfl hT (qaj qaN rfl) fun a E=>qdy 1 E rfl (by kernel_rfl) nP hT (qat qak rfl (qad.cown 1 rfl rfl)) rfl rfl fun a E=>kt 2 E rfl hT (qaj qaW rfl) fun a E=>kt 3 E rfl hT (qat qak rfl (qad.cown 0 rfl rfl)) fun a E=>kt 4 E rfl hT (qaj qaN rfl) fun a E=>qa1 [5] (by kernel_rfl) rfl (qa8 ?_)
  ·refine wo rfl<|qae E ok 0 rfl rfl rfl qcM rfl rfl ⟨rfl,trivial⟩ rfl rfl fun w ok=>wn<|qaw (cl2 (by kernel_rfl) (cq le_m0 ok [1] rfl)) fun hT=>kt 6 E rfl hT (qaj qaW rfl) fun a E=>qa1 [7] (by kernel_rfl) rfl (qa8 ?_)
   ·refine wo rfl<|qae E ok 0 rfl rfl rfl qcM rfl rfl ⟨rfl,trivial⟩ rfl rfl fun w ok=>wn<|qaw (cl2 (by kernel_rfl) (cq le_m0 ok [1] rfl)) fun hT=>qbK (by kernel_rfl) ?_
    exact ⟨rfl,⟨ok,E.keep [2,5],r1,(Nat.zero_le _),l3,l4⟩⟩
 intro e a w hO
 obtain ⟨rfl,ok,E,r31,l32,l33,l34⟩:=hO
 refine qaa<|sg<|fk E ok qaN qak rfl 1 rfl rfl fun a E=>bd hF fun r35 e36 hF=>lc E qdQ rfl (qaP N x_0.Name l3 e36 hG ok) fun w ok a E=>aw E rfl fun a E=>sg<|fk E ok qay qap rfl 1 rfl rfl fun a E=>wn<|wp_block<|sg<|lw E (qao rfl rfl) fun a E=>aw E rfl fun a E=>cg E rfl hF (fun c37 hF=>?_) fun c37 hF=>?_
 ·refine sg<|lw E (qao rfl rfl) fun a E=>aw E rfl fun a E=>cf E rfl hF (fun c41 hF=>?_) fun c41 hF=>?_
  ·refine qac<|mz E rfl rfl fun a E=>qbj r35 (fun c42=>?_) (fun c42=>?_)
   rotate_left
   ·have hF:=qbg c42 hF
    have E:=E.upd 74 c42 rfl
    refine lsq E fun a E=>ls E fun a E=>pf E rfl rfl fun a E=>av E rfl fun a E=>wpList_nil<|qaf ?_
    cases hF
    exact ⟨rfl,⟨ok,E.keep [2,5,6],r31,l32,l33,l34⟩⟩
   have hF:=qbh c42 hF
   have E:=E.upd 74 c42 rfl
   refine fk E ok qaW qak rfl 1 rfl rfl fun a E=>bd hF fun r43 e44 hF=>lc E qlG rfl (qdC N x_0.Style l4 e44 hG ok) fun w ok a E=>pt E rfl rfl fun a E=>av E rfl fun a E=>wpList_nil<|qaf ?_
   cases hF
   exact ⟨rfl,⟨ok,E.keep [2,5,6],r31,l32,l33,l34⟩⟩
  refine qac<|mz E rfl rfl fun a E=>qbj r35 (fun c45=>?_) (fun c45=>?_)
  rotate_left
  ·have hF:=qbg c45 hF
   have E:=E.upd 48 c45 rfl
   refine lsq E fun a E=>ls E fun a E=>pf E rfl rfl fun a E=>av E rfl fun a E=>wpList_nil<|qaf ?_
   cases hF
   exact ⟨rfl,⟨ok,E.keep [2,5,6],r31,l32,l33,l34⟩⟩
  have hF:=qbh c45 hF
  have E:=E.upd 48 c45 rfl
  refine fk E ok qaW qak rfl 1 rfl rfl fun a E=>bd hF fun r46 e47 hF=>lc E qdQ rfl (qaP N x_0.Style l4 e47 hG ok) fun w ok a E=>pt E rfl rfl fun a E=>av E rfl fun a E=>wpList_nil<|qaf ?_
  cases hF
  exact ⟨rfl,⟨ok,E.keep [2,5,6],r31,l32,l33,l34⟩⟩
 refine qac<|mz E rfl rfl fun a E=>qbj r35 (fun c38=>?_) (fun c38=>?_)
 rotate_left
 ·have hF:=qbg c38 hF
  have E:=E.upd 56 c38 rfl
  refine lsz E fun a E=>lsz E fun a E=>lsz E fun a E=>ls E fun a E=>pf E rfl rfl fun a E=>av E rfl fun a E=>wpList_nil<|qaf ?_
  cases hF
  exact ⟨rfl,⟨ok,E.keep [2,5,6],r31,l32,l33,l34⟩⟩
 have hF:=qbh c38 hF
 have E:=E.upd 56 c38 rfl
 refine fk E ok qaW qak rfl 1 rfl rfl fun a E=>lw E (qbt rfl rfl) fun a E=>mv E rfl fun a E=>bu E 60 hF (fun c39 hF E=>?_) fun c39 hF E=>?_
 ·refine lsq E fun a E=>ls E fun a E=>pt E rfl rfl fun a E=>mv E rfl fun a E=>lsq E fun a E=>ls E fun a E=>pt E rfl rfl fun a E=>pt E rfl rfl fun a E=>av E rfl fun a E=>wpList_nil<|qaf ?_
  cases hF
  exact ⟨rfl,⟨ok,E.keep [2,5,6],r31,l32,l33,l34⟩⟩
 refine fk E ok qaW qak rfl 1 rfl rfl fun a E=>lw E (qbt rfl rfl) fun a E=>pf E rfl rfl fun a E=>mv E rfl fun a E=>bu E 65 hF (fun c40 hF E=>?_) fun c40 hF E=>?_
 ·refine lsq E fun a E=>ls E fun a E=>pt E rfl rfl fun a E=>pt E rfl rfl fun a E=>av E rfl fun a E=>wpList_nil<|qaf ?_
  cases hF
  exact ⟨rfl,⟨ok,E.keep [2,5,6],r31,l32,l33,l34⟩⟩
 refine fk E ok qaW qak rfl 1 rfl rfl fun a E=>lw E (qbt rfl rfl) fun a E=>pf E rfl rfl fun a E=>pt E rfl rfl fun a E=>av E rfl fun a E=>wpList_nil<|qaf ?_
 cases hF
 exact ⟨rfl,⟨ok,E.keep [2,5,6],r31,l32,l33,l34⟩⟩
end Go.Proofs.YtllnjbnknjpbjaaGreatDoor
namespace Go.Proofs.YtllnjbnknjpbjaaGreatDoor
open Go.X
variable {u:World} {m0:Mem} {S:Segs} {w:World}
set_option maxHeartbeats 4000000
set_option maxRecDepth 100000
def qdW (u:World) (m0:Mem) (S:Segs) (r:Bool) (a:Act) (w:World):Prop :=
 Ok u m0 S w ∧ a.defers = [] ∧ RVs Tryz.prog a w [.t 6 (.bool r)]
def qeO (N:Nat):Prop:=∀ {u:World} {m0:Mem} {S:Segs} {w:World} (vparts_0:Value) (parts_0:List (Part)) (hparts_0:(pL 6 qa0) m0 [vparts_0] parts_0) (depth_1:Int) (rdepth_1:InR .i64 depth_1) (counted_2:Bool) {r:Bool} (hF:qbz N parts_0 depth_1 counted_2 = some r) (hG:Glob u) (ok:Ok u m0 S w),Calls Tryz.prog 46 [vparts_0,vi depth_1,vb counted_2].toArray w fun e w'=>(e = .returned (.bool r) ∧ Ok u m0 S w')
theorem qiH (N:Nat) (ih_calqueref26_formed:qeO N):qeO (N + 1):=by
 intro u m0 S w vparts_0 parts_0 hparts_0 depth_1 rdepth_1 counted_2 r hF hG ok
 have hF0:qdt (qbz N) N parts_0 depth_1 counted_2 = some r:=hF
 have hF:=hF0
 clear hF0
 unfold qdt at hF
 refine en (qdW u m0 S) r Tryz.func46 rfl rfl rfl (fun _ _ h=>ra h rfl) fun fin a E=>sg<|aw E rfl fun a E=>wp_seq<|sg<|aw E rfl fun a E=>wp_block<|bd hF fun o2 hL hF=>qa9 _ (fun (s:Int) a w=>Ok u m0 (S) w ∧ Env 166 a [(0,vparts_0),(1,vi depth_1),(2,vb counted_2),(7,vi s)] ∧ InR .i64 s) (fun (b:(Unit ⊕ Bool)) e a w=>(Sum.elim (fun b381=>e = (.exit 0) ∧ Ok u m0 (S) w ∧ Env 166 a []) (fun b382=>e = .ret ∧ qdW u m0 S b382 a w)) b) ?_ ?_ N _ a w hL ⟨ok,E.keep [0,1,2,7],(ir 0)⟩
 rotate_left
 ·intro e a w _ hO
  rcases o2 with o2 | o2
  rotate_left
  ·obtain ⟨rfl,hret⟩:=hO
   refine qaq<|qah ?_
   exact fin hF hret
  have hF:=qbV hF
  obtain ⟨rfl,ok,E⟩:=hO
  refine qbm<|qaa<|sg<|aw E rfl fun a E=>wp_ret ?_
  exact fin hF ⟨ok,E.d,rz E rfl⟩
 rintro v4 a w r ⟨ok,E,r5⟩ hF
 replace hF:qcI (qbz N) N parts_0 depth_1 counted_2 v4 = some r:=hF
 unfold qcI at hF
 refine wp_seq<|sg<|mz E rfl rfl fun a E=>lv E ok (qaQ qbc hparts_0 rfl) fun a E=>lw E (qaO rfl rfl) fun a E=>wn<|cg E rfl hF (fun c6 hF=>?_) fun c6 hF=>?_
 ·refine wp_exit<|qaU ?_
  cases hF
  exact so (sl ⟨rfl,⟨ok,E.keep []⟩⟩)
 refine wp_skip<|qaa<|wp_seq<|wp_block<|sg<|mz E rfl rfl fun a E=>?_
 obtain ⟨x7,e8,hF⟩:=bnd hF
 obtain ⟨b9,o10,es11,hl12,rr13,at14,yy15⟩:=ia E 18 19 qbc hparts_0 e8
 obtain ⟨c20,c22,rfl,r16,l17,l18,l19,h21,h23⟩:=(qaK.1 rr13)
 refine lv E ok (yy15 _ _) fun a E=>lv E ok (qas (cs:=[vi x7.Kind,vs x7.Text,vs x7.Name,vs x7.Style,c20,c22]) qdr rfl rfl (qad.ro at14)) fun a E=>qa4 E ok qbv rfl rfl fun b24 a w E ok=>qae E ok 0 rfl rfl rfl qfd rfl rfl ⟨rfl,rfl,rfl,rfl,(qcD h21),(qcD h23),trivial⟩ rfl rfl fun w ok=>wn<|wp_seq<|sg<|mv E rfl fun a E=>lw E (qbk rfl rfl) fun a E=>mv E rfl fun a E=>bw E 24 hF (fun c25 hF E=>?_) fun c25 hF E=>?_
 ·as_aux_lemma =>
   refine lsq E fun a E=>ls E fun a E=>pf E rfl rfl fun a E=>mv E rfl fun a E=>lsz E fun a E=>lsq E fun a E=>ls E fun a E=>pf E rfl rfl fun a E=>wn<|c_if E rfl (fun h=>by cases h) (fun _=>?_)
   refine wp_skip<|qaa<|wp_block<|sg<|fk E ok qay qap rfl 0 rfl rfl fun a E=>lw E (qao rfl rfl) fun a E=>aw E rfl fun a E=>cf E rfl hF (fun c269 hF=>?_) fun c269 hF=>?_
   ·as_aux_lemma =>
     refine wp_seq<|bd hF fun o270 hJ hF=>qaG (Q':=fun e a w=>e = .normal ∧ Ok u m0 ([(b24,oc 82 [vi x7.Kind,vs x7.Text,vs x7.Name,vs x7.Style,c20,c22])] :: S) w ∧ Env 166 a [(0,vparts_0),(1,vi depth_1),(2,vb counted_2),(7,vi v4),(74,vb o270)]) ?_ ?_
     rotate_left
     ·intro e a w hO
      obtain ⟨rfl,ok,E⟩:=hO
      refine qaa<|cg E rfl hF (fun c280 hF=>?_) fun c280 hF=>?_
      ·refine wp_skip<|qaf<|qaf<|qaa<|qac<|mv E rfl fun a E=>lw E (qaA rfl rfl (InR.inc r5 (qal hparts_0) c6)) fun a E=>av E rfl fun a E=>wpList_nil ?_
       cases hF
       exact qar ⟨(ok.pk 1 [] rfl (by decide)),E.keep [0,1,2,7],(InR.inc r5 (qal hparts_0) c6)⟩
      refine sg<|aw E rfl fun a E=>wp_ret<|qaq<|qaq<|qah ?_
      cases hF
      exact so (sr ⟨rfl,⟨ok.drop,E.d,rz E rfl⟩⟩)
     have hF:=hJ
     refine qac<|mv E rfl fun a E=>lw E (qbk rfl rfl) fun a E=>mv E rfl fun a E=>bu E 44 hF (fun c271 hF E=>?_) fun c271 hF E=>?_
     ·refine lsz E fun a E=>pt E rfl rfl fun a E=>mv E rfl fun a E=>lsq E fun a E=>ls E fun a E=>pt E rfl rfl fun a E=>mv E rfl fun a E=>lsq E fun a E=>ls E fun a E=>pt E rfl rfl fun a E=>mv E rfl fun a E=>?_
      refine lsz E fun a E=>pt E rfl rfl fun a E=>mv E rfl fun a E=>lsz E fun a E=>lsq E fun a E=>ls E fun a E=>pt E rfl rfl fun a E=>wpList_nil ?_
      cases hF
      exact ⟨rfl,⟨ok,E.keep [0,1,2,7,74]⟩⟩
     refine fk E ok qaN qak rfl 0 rfl rfl fun a E=>bd hF fun r272 e273 hF=>lc E qdQ rfl (qaP N x7.Name l18 e273 hG ok) fun w ok a E=>lw E (qaT rfl) fun a E=>pf E rfl rfl fun a E=>mv E rfl fun a E=>bu E 50 hF (fun c274 hF E=>?_) fun c274 hF E=>?_
     ·refine lsq E fun a E=>ls E fun a E=>pt E rfl rfl fun a E=>mv E rfl fun a E=>lsq E fun a E=>ls E fun a E=>pt E rfl rfl fun a E=>mv E rfl fun a E=>lsz E fun a E=>pt E rfl rfl fun a E=>mv E rfl fun a E=>?_
      refine lsz E fun a E=>lsq E fun a E=>ls E fun a E=>pt E rfl rfl fun a E=>wpList_nil ?_
      cases hF
      exact ⟨rfl,⟨ok,E.keep [0,1,2,7,74]⟩⟩
     refine fk E ok qcz qak rfl 0 rfl rfl fun a E=>lw E (qce rfl rfl) fun a E=>pf E rfl rfl fun a E=>mv E rfl fun a E=>bu E 55 hF (fun c275 hF E=>?_) fun c275 hF E=>?_
     ·refine lsq E fun a E=>ls E fun a E=>pt E rfl rfl fun a E=>mv E rfl fun a E=>lsz E fun a E=>pt E rfl rfl fun a E=>mv E rfl fun a E=>lsz E fun a E=>ls E fun a E=>?_
      refine lsq E fun a E=>pt E rfl rfl fun a E=>wpList_nil ?_
      cases hF
      exact ⟨rfl,⟨ok,E.keep [0,1,2,7,74]⟩⟩
     refine fk E ok qaW qak rfl 0 rfl rfl fun a E=>lw E (qce rfl rfl) fun a E=>pf E rfl rfl fun a E=>mv E rfl fun a E=>bu E 60 hF (fun c276 hF E=>?_) fun c276 hF E=>?_
     ·refine lsz E fun a E=>pt E rfl rfl fun a E=>mv E rfl fun a E=>lsz E fun a E=>lsq E fun a E=>ls E fun a E=>pt E rfl rfl fun a E=>wpList_nil ?_
      cases hF
      exact ⟨rfl,⟨ok,E.keep [0,1,2,7,74]⟩⟩
     refine fk E ok qa2 qbo rfl 0 rfl rfl fun a E=>lv E ok (qaQ qbr h21 rfl) fun a E=>lw E (qbk rfl rfl) fun a E=>pf E rfl rfl fun a E=>mv E rfl fun a E=>bu E 66 hF (fun c277 hF E=>?_) fun c277 hF E=>?_
     ·refine lsz E fun a E=>lsq E fun a E=>ls E fun a E=>pt E rfl rfl fun a E=>wpList_nil ?_
      cases hF
      exact ⟨rfl,⟨ok,E.keep [0,1,2,7,74]⟩⟩
     refine fk E ok qbR qbu rfl 0 rfl rfl fun a E=>mv E rfl fun a E=>lw E (qaM rfl rfl) fun a E=>mv E rfl fun a E=>bd hF fun r278 e279 hF=>lc E qhp rfl (ih_calqueref26_formed _ x7.Parts h23 (IntKind.wrap .i64 (depth_1 + 1)) (InR.wrap _ _) counted_2 e279 hG ok) fun w ok a E=>lw E (qaT rfl) fun a E=>pf E rfl rfl fun a E=>wpList_nil ?_
     cases hF
     exact ⟨rfl,⟨ok,E.keep [0,1,2,7,74]⟩⟩
   refine sg<|fk E ok qay qap rfl 0 rfl rfl fun a E=>bd hF fun r281 e282 hF=>lc E qju rfl (qcq N x7.Kind r16 e282 hG ok) fun w ok a E=>aw E rfl fun a E=>cg E rfl hF (fun c283 hF=>?_) fun c283 hF=>?_
   ·refine sg<|lv E ok (qas (cs:=[vi x7.Kind,vs x7.Text,vs x7.Name,vs x7.Style,c20,c22]) qdr rfl rfl (qad.own 0 rfl rfl)) fun a E=>mv E rfl fun a E=>bd hF fun r378 e379 hF=>lc E qoi rfl (qfQ N _ x7 (qaK.2 ⟨_,_,rfl,r16,l17,l18,l19,h21,h23⟩) counted_2 e379 hG ok) fun w ok a E=>lw E (qaT rfl) fun a E=>aw E rfl fun a E=>cg E rfl hF (fun c380 hF=>?_) fun c380 hF=>?_
    ·refine wp_skip<|qaf<|qaf<|qaa<|qac<|mv E rfl fun a E=>lw E (qaA rfl rfl (InR.inc r5 (qal hparts_0) c6)) fun a E=>av E rfl fun a E=>wpList_nil ?_
     cases hF
     exact qar ⟨(ok.pk 1 [] rfl (by decide)),E.keep [0,1,2,7],(InR.inc r5 (qal hparts_0) c6)⟩
    refine sg<|aw E rfl fun a E=>wp_ret<|qaq<|qaq<|qah ?_
    cases hF
    exact so (sr ⟨rfl,⟨ok.drop,E.d,rz E rfl⟩⟩)
   refine wp_seq<|wp_seq<|bd hF fun o284 hJ hF=>qaG (Q':=fun e a w=>e = .normal ∧ Ok u m0 ([(b24,oc 82 [vi x7.Kind,vs x7.Text,vs x7.Name,vs x7.Style,c20,c22])] :: S) w ∧ Env 166 a [(0,vparts_0),(1,vi depth_1),(2,vb counted_2),(7,vi v4),(8,vp b24),(114,vb o284)]) ?_ ?_
   ·as_aux_lemma =>
     have hF:=hJ
     refine qac<|mv E rfl fun a E=>lw E (qbk rfl rfl) fun a E=>mv E rfl fun a E=>bu E 81 hF (fun c285 hF E=>?_) fun c285 hF E=>?_
     ·refine lsz E fun a E=>pt E rfl rfl fun a E=>mv E rfl fun a E=>lsq E fun a E=>ls E fun a E=>pt E rfl rfl fun a E=>mv E rfl fun a E=>lsq E fun a E=>ls E fun a E=>pt E rfl rfl fun a E=>mv E rfl fun a E=>?_
      refine lsz E fun a E=>pt E rfl rfl fun a E=>mv E rfl fun a E=>lsz E fun a E=>pt E rfl rfl fun a E=>mv E rfl fun a E=>lsz E fun a E=>?_
      refine pt E rfl rfl fun a E=>wpList_nil ?_
      cases hF
      exact ⟨rfl,⟨ok,E.keep [0,1,2,7,8,114]⟩⟩
     refine fk E ok qaN qak rfl 0 rfl rfl fun a E=>bd hF fun r286 e287 hF=>lc E qdQ rfl (qaP N x7.Name l18 e287 hG ok) fun w ok a E=>lw E (qaT rfl) fun a E=>pf E rfl rfl fun a E=>mv E rfl fun a E=>bu E 87 hF (fun c288 hF E=>?_) fun c288 hF E=>?_
     ·refine lsq E fun a E=>ls E fun a E=>pt E rfl rfl fun a E=>mv E rfl fun a E=>lsq E fun a E=>ls E fun a E=>pt E rfl rfl fun a E=>mv E rfl fun a E=>lsz E fun a E=>pt E rfl rfl fun a E=>mv E rfl fun a E=>?_
      refine lsz E fun a E=>pt E rfl rfl fun a E=>mv E rfl fun a E=>lsz E fun a E=>pt E rfl rfl fun a E=>wpList_nil ?_
      cases hF
      exact ⟨rfl,⟨ok,E.keep [0,1,2,7,8,114]⟩⟩
     refine fk E ok qcz qak rfl 0 rfl rfl fun a E=>lw E (qce rfl rfl) fun a E=>pf E rfl rfl fun a E=>mv E rfl fun a E=>bu E 92 hF (fun c289 hF E=>?_) fun c289 hF E=>?_
     ·refine lsq E fun a E=>ls E fun a E=>pt E rfl rfl fun a E=>mv E rfl fun a E=>lsz E fun a E=>pt E rfl rfl fun a E=>mv E rfl fun a E=>lsz E fun a E=>pt E rfl rfl fun a E=>?_
      refine mv E rfl fun a E=>lsz E fun a E=>pt E rfl rfl fun a E=>wpList_nil ?_
      cases hF
      exact ⟨rfl,⟨ok,E.keep [0,1,2,7,8,114]⟩⟩
     refine fk E ok qaW qak rfl 0 rfl rfl fun a E=>lw E (qce rfl rfl) fun a E=>pf E rfl rfl fun a E=>mv E rfl fun a E=>bu E 97 hF (fun c290 hF E=>?_) fun c290 hF E=>?_
     ·refine lsz E fun a E=>pt E rfl rfl fun a E=>mv E rfl fun a E=>lsz E fun a E=>pt E rfl rfl fun a E=>mv E rfl fun a E=>lsz E fun a E=>?_
      refine pt E rfl rfl fun a E=>wpList_nil ?_
      cases hF
      exact ⟨rfl,⟨ok,E.keep [0,1,2,7,8,114]⟩⟩
     refine fk E ok qbR qbu rfl 0 rfl rfl fun a E=>lv E ok (qaQ qbc h23 rfl) fun a E=>lw E (qbk rfl rfl) fun a E=>pf E rfl rfl fun a E=>mv E rfl fun a E=>bu E 103 hF (fun c291 hF E=>?_) fun c291 hF E=>?_
     ·refine lsz E fun a E=>pt E rfl rfl fun a E=>mv E rfl fun a E=>lsz E fun a E=>pt E rfl rfl fun a E=>wpList_nil ?_
      cases hF
      exact ⟨rfl,⟨ok,E.keep [0,1,2,7,8,114]⟩⟩
     refine fk E ok qa2 qbo rfl 0 rfl rfl fun a E=>lv E ok (qaQ qbr h21 rfl) fun a E=>lw E (qaO rfl rfl) fun a E=>pf E rfl rfl fun a E=>mv E rfl fun a E=>bu E 109 hF (fun c292 hF E=>?_) fun c292 hF E=>?_
     ·refine lsz E fun a E=>pt E rfl rfl fun a E=>wpList_nil ?_
      cases hF
      exact ⟨rfl,⟨ok,E.keep [0,1,2,7,8,114]⟩⟩
     refine fk E ok qa2 qbo rfl 0 rfl rfl fun a E=>lv E ok (qaQ qbr h21 rfl) fun a E=>lw E (qbk rfl rfl) fun a E=>pf E rfl rfl fun a E=>wpList_nil ?_
     cases hF
     exact ⟨rfl,⟨ok,E.keep [0,1,2,7,8,114]⟩⟩
   intro e a w hO
   obtain ⟨rfl,ok,E⟩:=hO
   refine qaa<|cf E rfl hF (fun c293 hF=>?_) fun c293 hF=>?_
   ·refine sg<|aw E rfl fun a E=>wp_ret<|qah<|qaq<|qaq<|qah ?_
    cases hF
    exact so (sr ⟨rfl,⟨ok.drop,E.d,rz E rfl⟩⟩)
   refine wp_skip<|qaa<|sg<|aw E rfl fun a E=>wp_seq<|sg<|aw E rfl fun a E=>wp_block ?_
   obtain ⟨M299,ok,h300⟩:=qeq (e:=9) (k:=1) (R:=pS) ok
   refine bd hF fun o301 hL hF=>qa9 _ (fun (s:(List (List UInt8)) × Int) a w=>∃ c302 M303,Ok u m0 (M303 :: [(b24,oc 82 [vi x7.Kind,vs x7.Text,vs x7.Name,vs x7.Style,c20,c22])] :: S) w ∧ Env 166 a [(0,vparts_0),(1,vi depth_1),(2,vb counted_2),(7,vi v4),(8,vp b24),(9,c302),(10,vi s.2)] ∧ ORow 9 1 pS m0 c302 s.1 M303 ∧ InR .i64 s.2) (fun (b:(((List (List UInt8))) ⊕ Bool)) e a w=>(Sum.elim (fun b373=>e = (.exit 3) ∧ ∃ c374 M375,Ok u m0 (M375 :: [(b24,oc 82 [vi x7.Kind,vs x7.Text,vs x7.Name,vs x7.Style,c20,c22])] :: S) w ∧ Env 166 a [(0,vparts_0),(1,vi depth_1),(2,vb counted_2),(7,vi v4),(9,c374)] ∧ ORow 9 1 pS m0 c374 b373 M375) (fun b377=>e = .ret ∧ qdW u m0 S b377 a w)) b) ?_ ?_ N _ a w hL ⟨(Value.slice none 0 0),M299,ok,E.keep [0,1,2,7,8,9,10],h300,(ir 0)⟩
   rotate_left
   ·intro e a w _ hO
    rcases o301 with o301 | o301
    rotate_left
    ·have hF:=qjq hF
     obtain ⟨rfl,hret⟩:=hO
     refine qaq<|qah<|qaq<|qaq<|qah ?_
     cases hF
     exact so (sr ⟨rfl,hret⟩)
    have hF:=qbV hF
    obtain ⟨rfl,c362,M363,ok,E,h364⟩:=hO
    refine qbm<|qaa<|sg<|mv E rfl fun a E=>?_
    obtain ⟨r370,e371,hF⟩:=bnd hF
    obtain ⟨m365,hle367,ok366,hfz368⟩:=(ok.frs 0 rfl).freeze
    have h369:=ORow.froz mS h364 hle367 hfz368 (by decide)
    refine qag E qgR rfl (qcd N _ o301 h369 ([111,116,104,101,114]) (show ([111,116,104,101,114]:List UInt8).length ≤ LIMS by decide) e371 hG ok366) rfl rfl ?_
    rintro _ w ⟨rfl,okz⟩
    replace ok:=(Ok.thawAt 0 rfl ok hle367 hfz368 okz)
    refine ⟨_,rfl,fun a E=>?_⟩
    refine lw E (qaT rfl) fun a E=>wn<|cg E rfl hF (fun c372 hF=>?_) fun c372 hF=>?_
    ·refine wp_skip<|qaf<|qaf<|qaa<|qac<|mv E rfl fun a E=>lw E (qaA rfl rfl (InR.inc r5 (qal hparts_0) c6)) fun a E=>av E rfl fun a E=>wpList_nil ?_
     cases hF
     exact qar ⟨(ok.pk 2 [] rfl (by decide)),E.keep [0,1,2,7],(InR.inc r5 (qal hparts_0) c6)⟩
    refine sg<|aw E rfl fun a E=>wp_ret<|qaq<|qaq<|qah ?_
    cases hF
    exact so (sr ⟨rfl,⟨ok.drop.drop,E.d,rz E rfl⟩⟩)
   rintro ⟨v306,v307⟩ a w r ⟨c308,M309,ok,E,h310,r311⟩ hF
   replace hF:qeu (qbz N) N depth_1 counted_2 x7 v306 v307 = some r:=hF
   unfold qeu at hF
   refine wp_seq<|sg<|mv E rfl fun a E=>fk E ok qa2 qbo rfl 1 rfl rfl fun a E=>lv E ok (qaQ qbr h21 rfl) fun a E=>lw E (qaO rfl rfl) fun a E=>wn<|cg E rfl hF (fun c312 hF=>?_) fun c312 hF=>?_
   ·refine wp_exit<|qaU ?_
    cases hF
    exact so (sl ⟨rfl,⟨c308,M309,ok,E.keep [0,1,2,7,9],h310⟩⟩)
   refine wp_skip<|qaa<|wp_seq<|wp_block<|sg<|fk E ok qa2 qbo rfl 1 rfl rfl fun a E=>mv E rfl fun a E=>?_
   obtain ⟨x313,e314,hF⟩:=bnd hF
   obtain ⟨b315,o316,es317,hl318,rr319,at320,yy321⟩:=ia E 123 124 qbr h21 e314
   obtain ⟨c323,rfl,l322,h324⟩:=rr319
   refine lv E ok (yy321 _ _) fun a E=>lv E ok (qas (cs:=[vs x313.Key,c323]) qiF rfl rfl (qad.ro at320)) fun a E=>qa4 E ok qdq rfl rfl fun b325 a w E ok=>qae E ok 0 rfl rfl rfl qiu rfl rfl ⟨rfl,(qcD h324),trivial⟩ rfl rfl fun w ok=>wn<|wp_seq<|wp_seq<|qdH (by kernel_rfl) (by kernel_rfl) ok<|qv E (qaj qay rfl) fun a E=>qv E (qat qap rfl (qad.own 2 rfl rfl)) fun a E=>qv E (qaj qda rfl) fun a E=>qv E (qat qak rfl (qad.own 0 rfl rfl)) fun a E=>bd hF fun r326 e327 hF=>qcn E qh5 rfl (fun w ok=>(qcF N x7.Kind r16 x313.Key l322 e327 hG ok).mono (fun _ _ h=>h)) rfl rfl fun a E=>qv E (qaT rfl) fun a E=>qv E (qan rfl) fun a E=>bu E 133 hF (fun c328 hF E=>?_) fun c328 hF E=>?_
   ·refine qs E fun a E=>qs E fun a E=>qs E fun a E=>qs E fun a E=>qv E (qbQ rfl rfl) fun a E=>qv E (qan rfl) fun a E=>qs E fun a E=>qs E fun a E=>qs E fun a E=>qs E fun a E=>qs E fun a E=>qs E fun a E=>qs E fun a E=>qs E fun a E=>qs E fun a E=>qs E fun a E=>?_
    refine qs E fun a E=>qs E fun a E=>qv E (qbQ rfl rfl) fun a E=>wpQuiet_nil ?_
    intro w ok
    refine qaa<|c_if E rfl (fun _=>?_) (fun h=>by cases h)
    refine sg<|aw E rfl fun a E=>wp_ret<|qah<|qaq<|qah ?_
    cases hF
    exact so (sr ⟨rfl,⟨ok.drop.drop.drop,E.d,rz E rfl⟩⟩)
   refine qv E (qan rfl) fun a E=>qv E (qaj qda rfl) fun a E=>qv E (qat qak rfl (qad.own 0 rfl rfl)) fun a E=>bd hF fun r334 e335 hF=>qcn E (v:=(vb r334)) qgR rfl (fun w ok=>?_) rfl rfl fun a E=>?_
   ·obtain ⟨m329,hle331,ok330,hfz332⟩:=(ok.frs 1 rfl).freeze
    have h333:=ORow.froz mS h310 hle331 hfz332 (by decide)
    refine Calls.mono (qcd N _ v306 h333 x313.Key l322 e335 hG ok330) fun _ _ hz=>?_
    obtain ⟨hz1,okz⟩:=hz
    exact ⟨hz1,(Ok.thawAt 1 rfl ok hle331 hfz332 okz)⟩
   refine qv E (qbW rfl rfl) fun a E=>qv E (qan rfl) fun a E=>qbj r334 (fun c336=>?_) (fun c336=>?_)
   ·have hF:=qbh c336 hF
    have E:=E.upd 139 c336 rfl
    refine qs E fun a E=>qs E fun a E=>qs E fun a E=>qs E fun a E=>qs E fun a E=>qs E fun a E=>qs E fun a E=>qs E fun a E=>qs E fun a E=>qs E fun a E=>qs E fun a E=>qs E fun a E=>qv E (qbQ rfl rfl) fun a E=>wpQuiet_nil ?_
    intro w ok
    refine qaa<|c_if E rfl (fun _=>?_) (fun h=>by cases h)
    refine sg<|aw E rfl fun a E=>wp_ret<|qah<|qaq<|qah ?_
    cases hF
    exact so (sr ⟨rfl,⟨ok.drop.drop.drop,E.d,rz E rfl⟩⟩)
   have hF:=qbg c336 hF
   have E:=E.upd 139 c336 rfl
   refine qv E (qaj qeh rfl) fun a E=>qv E (qat qbu rfl (qad.own 0 rfl rfl)) fun a E=>qv E (qan rfl) fun a E=>qv E (qaM rfl rfl) fun a E=>qv E (qan rfl) fun a E=>qv E (qan rfl) fun a E=>qbj counted_2 (fun c337=>?_) (fun c337=>?_)
   ·have hF:=qbh c337 hF
    have E:=E.upd 145 c337 rfl
    refine qs E fun a E=>qs E fun a E=>qs E fun a E=>qv E (qbQ rfl rfl) fun a E=>bd hF fun r338 e339 hF=>qcn E qhp rfl (fun w ok=>(ih_calqueref26_formed _ x313.Parts h324 (IntKind.wrap .i64 (depth_1 + 1)) (InR.wrap _ _) true e339 hG ok).mono (fun _ _ h=>h)) rfl rfl fun a E=>qv E (qaT rfl) fun a E=>qv E (qbW rfl rfl) fun a E=>wpQuiet_nil ?_
    intro w ok
    refine qaa<|cf E rfl hF (fun c340 hF=>?_) fun c340 hF=>?_
    ·refine sg<|aw E rfl fun a E=>wp_ret<|qah<|qaq<|qah ?_
     cases hF
     exact so (sr ⟨rfl,⟨ok.drop.drop.drop,E.d,rz E rfl⟩⟩)
    refine wp_skip<|qaa<|qac<|mv E rfl fun a E=>fk E ok qda qak rfl 0 rfl rfl fun a E=>qbq (R:=pS) (xo:=[.tmp 155]) (xs:=([x313.Key]:List (List UInt8))) E ok qbn qbH rfl ⟨⟨_,rfl,rfl,(qcs l322)⟩,trivial⟩ rfl rfl rfl rfl fun c341 M342 a w E ok h343=>bd hF fun l344 e345 hF=>qbX (R:=pS) E ok 2 mS qbn Tryz.underlying25 rfl h310 (qbs.ofRow h343 0 rfl ok) e345 ⟨_,qbH,rfl⟩ rfl rfl rfl rfl fun c346 M347 a w E ok h348=>av E rfl fun a E=>wpList_nil<|qaf<|qaa<|qac<|mv E rfl fun a E=>lw E (qaA rfl rfl (InR.inc r311 (qal h21) c312)) fun a E=>av E rfl fun a E=>wpList_nil ?_
    cases hF
    exact qar ⟨c346,M347,(ok.pk 4 [2,3] rfl (by decide)),E.keep [0,1,2,7,8,9,10],h348,(InR.inc r311 (qal h21) c312)⟩
   have hF:=qbg c337 hF
   have E:=E.upd 145 c337 rfl
   refine qv E (qaj qay rfl) fun a E=>qv E (qat qap rfl (qad.own 2 rfl rfl)) fun a E=>bd hF fun r349 e350 hF=>qcn E qjy rfl (fun w ok=>(qcK N x7.Kind r16 e350 hG ok).mono (fun _ _ h=>h)) rfl rfl fun a E=>qv E (qbW rfl rfl) fun a E=>bd hF fun r351 e352 hF=>qcn E qhp rfl (fun w ok=>(ih_calqueref26_formed _ x313.Parts h324 (IntKind.wrap .i64 (depth_1 + 1)) (InR.wrap _ _) r349 e352 hG ok).mono (fun _ _ h=>h)) rfl rfl fun a E=>qv E (qaT rfl) fun a E=>qv E (qbW rfl rfl) fun a E=>wpQuiet_nil ?_
   intro w ok
   refine qaa<|cf E rfl hF (fun c353 hF=>?_) fun c353 hF=>?_
   ·refine sg<|aw E rfl fun a E=>wp_ret<|qah<|qaq<|qah ?_
    cases hF
    exact so (sr ⟨rfl,⟨ok.drop.drop.drop,E.d,rz E rfl⟩⟩)
   refine wp_skip<|qaa<|qac<|mv E rfl fun a E=>fk E ok qda qak rfl 0 rfl rfl fun a E=>qbq (R:=pS) (xo:=[.tmp 155]) (xs:=([x313.Key]:List (List UInt8))) E ok qbn qbH rfl ⟨⟨_,rfl,rfl,(qcs l322)⟩,trivial⟩ rfl rfl rfl rfl fun c354 M355 a w E ok h356=>bd hF fun l357 e358 hF=>qbX (R:=pS) E ok 2 mS qbn Tryz.underlying25 rfl h310 (qbs.ofRow h356 0 rfl ok) e358 ⟨_,qbH,rfl⟩ rfl rfl rfl rfl fun c359 M360 a w E ok h361=>av E rfl fun a E=>wpList_nil<|qaf<|qaa<|qac<|mv E rfl fun a E=>lw E (qaA rfl rfl (InR.inc r311 (qal h21) c312)) fun a E=>av E rfl fun a E=>wpList_nil ?_
   cases hF
   exact qar ⟨c359,M360,(ok.pk 4 [2,3] rfl (by decide)),E.keep [0,1,2,7,8,9,10],h361,(InR.inc r311 (qal h21) c312)⟩
 refine fk E ok qay qap rfl 0 rfl rfl fun a E=>lw E (qao rfl rfl) fun a E=>pt E rfl rfl fun a E=>mv E rfl fun a E=>bw E 29 hF (fun c26 hF E=>?_) fun c26 hF E=>?_
 ·as_aux_lemma =>
   refine lsz E fun a E=>lsq E fun a E=>ls E fun a E=>pf E rfl rfl fun a E=>wn<|c_if E rfl (fun h=>by cases h) (fun _=>?_)
   refine wp_skip<|qaa<|wp_block<|sg<|fk E ok qay qap rfl 0 rfl rfl fun a E=>lw E (qao rfl rfl) fun a E=>aw E rfl fun a E=>cf E rfl hF (fun c157 hF=>?_) fun c157 hF=>?_
   ·as_aux_lemma =>
     refine wp_seq<|bd hF fun o158 hJ hF=>qaG (Q':=fun e a w=>e = .normal ∧ Ok u m0 ([(b24,oc 82 [vi x7.Kind,vs x7.Text,vs x7.Name,vs x7.Style,c20,c22])] :: S) w ∧ Env 166 a [(0,vparts_0),(1,vi depth_1),(2,vb counted_2),(7,vi v4),(74,vb o158)]) ?_ ?_
     rotate_left
     ·intro e a w hO
      obtain ⟨rfl,ok,E⟩:=hO
      refine qaa<|cg E rfl hF (fun c168 hF=>?_) fun c168 hF=>?_
      ·refine wp_skip<|qaf<|qaf<|qaa<|qac<|mv E rfl fun a E=>lw E (qaA rfl rfl (InR.inc r5 (qal hparts_0) c6)) fun a E=>av E rfl fun a E=>wpList_nil ?_
       cases hF
       exact qar ⟨(ok.pk 1 [] rfl (by decide)),E.keep [0,1,2,7],(InR.inc r5 (qal hparts_0) c6)⟩
      refine sg<|aw E rfl fun a E=>wp_ret<|qaq<|qaq<|qah ?_
      cases hF
      exact so (sr ⟨rfl,⟨ok.drop,E.d,rz E rfl⟩⟩)
     have hF:=hJ
     refine qac<|mv E rfl fun a E=>lw E (qbk rfl rfl) fun a E=>mv E rfl fun a E=>bu E 44 hF (fun c159 hF E=>?_) fun c159 hF E=>?_
     ·refine lsz E fun a E=>pt E rfl rfl fun a E=>mv E rfl fun a E=>lsq E fun a E=>ls E fun a E=>pt E rfl rfl fun a E=>mv E rfl fun a E=>lsq E fun a E=>ls E fun a E=>pt E rfl rfl fun a E=>mv E rfl fun a E=>?_
      refine lsz E fun a E=>pt E rfl rfl fun a E=>mv E rfl fun a E=>lsz E fun a E=>lsq E fun a E=>ls E fun a E=>pt E rfl rfl fun a E=>wpList_nil ?_
      cases hF
      exact ⟨rfl,⟨ok,E.keep [0,1,2,7,74]⟩⟩
     refine fk E ok qaN qak rfl 0 rfl rfl fun a E=>bd hF fun r160 e161 hF=>lc E qdQ rfl (qaP N x7.Name l18 e161 hG ok) fun w ok a E=>lw E (qaT rfl) fun a E=>pf E rfl rfl fun a E=>mv E rfl fun a E=>bu E 50 hF (fun c162 hF E=>?_) fun c162 hF E=>?_
     ·refine lsq E fun a E=>ls E fun a E=>pt E rfl rfl fun a E=>mv E rfl fun a E=>lsq E fun a E=>ls E fun a E=>pt E rfl rfl fun a E=>mv E rfl fun a E=>lsz E fun a E=>pt E rfl rfl fun a E=>mv E rfl fun a E=>?_
      refine lsz E fun a E=>lsq E fun a E=>ls E fun a E=>pt E rfl rfl fun a E=>wpList_nil ?_
      cases hF
      exact ⟨rfl,⟨ok,E.keep [0,1,2,7,74]⟩⟩
     refine fk E ok qcz qak rfl 0 rfl rfl fun a E=>lw E (qce rfl rfl) fun a E=>pf E rfl rfl fun a E=>mv E rfl fun a E=>bu E 55 hF (fun c163 hF E=>?_) fun c163 hF E=>?_
     ·refine lsq E fun a E=>ls E fun a E=>pt E rfl rfl fun a E=>mv E rfl fun a E=>lsz E fun a E=>pt E rfl rfl fun a E=>mv E rfl fun a E=>lsz E fun a E=>ls E fun a E=>?_
      refine lsq E fun a E=>pt E rfl rfl fun a E=>wpList_nil ?_
      cases hF
      exact ⟨rfl,⟨ok,E.keep [0,1,2,7,74]⟩⟩
     refine fk E ok qaW qak rfl 0 rfl rfl fun a E=>lw E (qce rfl rfl) fun a E=>pf E rfl rfl fun a E=>mv E rfl fun a E=>bu E 60 hF (fun c164 hF E=>?_) fun c164 hF E=>?_
     ·refine lsz E fun a E=>pt E rfl rfl fun a E=>mv E rfl fun a E=>lsz E fun a E=>lsq E fun a E=>ls E fun a E=>pt E rfl rfl fun a E=>wpList_nil ?_
      cases hF
      exact ⟨rfl,⟨ok,E.keep [0,1,2,7,74]⟩⟩
     refine fk E ok qa2 qbo rfl 0 rfl rfl fun a E=>lv E ok (qaQ qbr h21 rfl) fun a E=>lw E (qbk rfl rfl) fun a E=>pf E rfl rfl fun a E=>mv E rfl fun a E=>bu E 66 hF (fun c165 hF E=>?_) fun c165 hF E=>?_
     ·refine lsz E fun a E=>lsq E fun a E=>ls E fun a E=>pt E rfl rfl fun a E=>wpList_nil ?_
      cases hF
      exact ⟨rfl,⟨ok,E.keep [0,1,2,7,74]⟩⟩
     refine fk E ok qbR qbu rfl 0 rfl rfl fun a E=>mv E rfl fun a E=>lw E (qaM rfl rfl) fun a E=>mv E rfl fun a E=>bd hF fun r166 e167 hF=>lc E qhp rfl (ih_calqueref26_formed _ x7.Parts h23 (IntKind.wrap .i64 (depth_1 + 1)) (InR.wrap _ _) counted_2 e167 hG ok) fun w ok a E=>lw E (qaT rfl) fun a E=>pf E rfl rfl fun a E=>wpList_nil ?_
     cases hF
     exact ⟨rfl,⟨ok,E.keep [0,1,2,7,74]⟩⟩
   refine sg<|fk E ok qay qap rfl 0 rfl rfl fun a E=>bd hF fun r169 e170 hF=>lc E qju rfl (qcq N x7.Kind r16 e170 hG ok) fun w ok a E=>aw E rfl fun a E=>cg E rfl hF (fun c171 hF=>?_) fun c171 hF=>?_
   ·refine sg<|lv E ok (qas (cs:=[vi x7.Kind,vs x7.Text,vs x7.Name,vs x7.Style,c20,c22]) qdr rfl rfl (qad.own 0 rfl rfl)) fun a E=>mv E rfl fun a E=>bd hF fun r266 e267 hF=>lc E qoi rfl (qfQ N _ x7 (qaK.2 ⟨_,_,rfl,r16,l17,l18,l19,h21,h23⟩) counted_2 e267 hG ok) fun w ok a E=>lw E (qaT rfl) fun a E=>aw E rfl fun a E=>cg E rfl hF (fun c268 hF=>?_) fun c268 hF=>?_
    ·refine wp_skip<|qaf<|qaf<|qaa<|qac<|mv E rfl fun a E=>lw E (qaA rfl rfl (InR.inc r5 (qal hparts_0) c6)) fun a E=>av E rfl fun a E=>wpList_nil ?_
     cases hF
     exact qar ⟨(ok.pk 1 [] rfl (by decide)),E.keep [0,1,2,7],(InR.inc r5 (qal hparts_0) c6)⟩
    refine sg<|aw E rfl fun a E=>wp_ret<|qaq<|qaq<|qah ?_
    cases hF
    exact so (sr ⟨rfl,⟨ok.drop,E.d,rz E rfl⟩⟩)
   refine wp_seq<|wp_seq<|bd hF fun o172 hJ hF=>qaG (Q':=fun e a w=>e = .normal ∧ Ok u m0 ([(b24,oc 82 [vi x7.Kind,vs x7.Text,vs x7.Name,vs x7.Style,c20,c22])] :: S) w ∧ Env 166 a [(0,vparts_0),(1,vi depth_1),(2,vb counted_2),(7,vi v4),(8,vp b24),(114,vb o172)]) ?_ ?_
   ·as_aux_lemma =>
     have hF:=hJ
     refine qac<|mv E rfl fun a E=>lw E (qbk rfl rfl) fun a E=>mv E rfl fun a E=>bu E 81 hF (fun c173 hF E=>?_) fun c173 hF E=>?_
     ·refine lsz E fun a E=>pt E rfl rfl fun a E=>mv E rfl fun a E=>lsq E fun a E=>ls E fun a E=>pt E rfl rfl fun a E=>mv E rfl fun a E=>lsq E fun a E=>ls E fun a E=>pt E rfl rfl fun a E=>mv E rfl fun a E=>?_
      refine lsz E fun a E=>pt E rfl rfl fun a E=>mv E rfl fun a E=>lsz E fun a E=>pt E rfl rfl fun a E=>mv E rfl fun a E=>lsz E fun a E=>?_
      refine pt E rfl rfl fun a E=>wpList_nil ?_
      cases hF
      exact ⟨rfl,⟨ok,E.keep [0,1,2,7,8,114]⟩⟩
     refine fk E ok qaN qak rfl 0 rfl rfl fun a E=>bd hF fun r174 e175 hF=>lc E qdQ rfl (qaP N x7.Name l18 e175 hG ok) fun w ok a E=>lw E (qaT rfl) fun a E=>pf E rfl rfl fun a E=>mv E rfl fun a E=>bu E 87 hF (fun c176 hF E=>?_) fun c176 hF E=>?_
     ·refine lsq E fun a E=>ls E fun a E=>pt E rfl rfl fun a E=>mv E rfl fun a E=>lsq E fun a E=>ls E fun a E=>pt E rfl rfl fun a E=>mv E rfl fun a E=>lsz E fun a E=>pt E rfl rfl fun a E=>mv E rfl fun a E=>?_
      refine lsz E fun a E=>pt E rfl rfl fun a E=>mv E rfl fun a E=>lsz E fun a E=>pt E rfl rfl fun a E=>wpList_nil ?_
      cases hF
      exact ⟨rfl,⟨ok,E.keep [0,1,2,7,8,114]⟩⟩
     refine fk E ok qcz qak rfl 0 rfl rfl fun a E=>lw E (qce rfl rfl) fun a E=>pf E rfl rfl fun a E=>mv E rfl fun a E=>bu E 92 hF (fun c177 hF E=>?_) fun c177 hF E=>?_
     ·refine lsq E fun a E=>ls E fun a E=>pt E rfl rfl fun a E=>mv E rfl fun a E=>lsz E fun a E=>pt E rfl rfl fun a E=>mv E rfl fun a E=>lsz E fun a E=>pt E rfl rfl fun a E=>?_
      refine mv E rfl fun a E=>lsz E fun a E=>pt E rfl rfl fun a E=>wpList_nil ?_
      cases hF
      exact ⟨rfl,⟨ok,E.keep [0,1,2,7,8,114]⟩⟩
     refine fk E ok qaW qak rfl 0 rfl rfl fun a E=>lw E (qce rfl rfl) fun a E=>pf E rfl rfl fun a E=>mv E rfl fun a E=>bu E 97 hF (fun c178 hF E=>?_) fun c178 hF E=>?_
     ·refine lsz E fun a E=>pt E rfl rfl fun a E=>mv E rfl fun a E=>lsz E fun a E=>pt E rfl rfl fun a E=>mv E rfl fun a E=>lsz E fun a E=>?_
      refine pt E rfl rfl fun a E=>wpList_nil ?_
      cases hF
      exact ⟨rfl,⟨ok,E.keep [0,1,2,7,8,114]⟩⟩
     refine fk E ok qbR qbu rfl 0 rfl rfl fun a E=>lv E ok (qaQ qbc h23 rfl) fun a E=>lw E (qbk rfl rfl) fun a E=>pf E rfl rfl fun a E=>mv E rfl fun a E=>bu E 103 hF (fun c179 hF E=>?_) fun c179 hF E=>?_
     ·refine lsz E fun a E=>pt E rfl rfl fun a E=>mv E rfl fun a E=>lsz E fun a E=>pt E rfl rfl fun a E=>wpList_nil ?_
      cases hF
      exact ⟨rfl,⟨ok,E.keep [0,1,2,7,8,114]⟩⟩
     refine fk E ok qa2 qbo rfl 0 rfl rfl fun a E=>lv E ok (qaQ qbr h21 rfl) fun a E=>lw E (qaO rfl rfl) fun a E=>pf E rfl rfl fun a E=>mv E rfl fun a E=>bu E 109 hF (fun c180 hF E=>?_) fun c180 hF E=>?_
     ·refine lsz E fun a E=>pt E rfl rfl fun a E=>wpList_nil ?_
      cases hF
      exact ⟨rfl,⟨ok,E.keep [0,1,2,7,8,114]⟩⟩
     refine fk E ok qa2 qbo rfl 0 rfl rfl fun a E=>lv E ok (qaQ qbr h21 rfl) fun a E=>lw E (qbk rfl rfl) fun a E=>pf E rfl rfl fun a E=>wpList_nil ?_
     cases hF
     exact ⟨rfl,⟨ok,E.keep [0,1,2,7,8,114]⟩⟩
   intro e a w hO
   obtain ⟨rfl,ok,E⟩:=hO
   refine qaa<|cf E rfl hF (fun c181 hF=>?_) fun c181 hF=>?_
   ·refine sg<|aw E rfl fun a E=>wp_ret<|qah<|qaq<|qaq<|qah ?_
    cases hF
    exact so (sr ⟨rfl,⟨ok.drop,E.d,rz E rfl⟩⟩)
   refine wp_skip<|qaa<|sg<|aw E rfl fun a E=>wp_seq<|sg<|aw E rfl fun a E=>wp_block ?_
   obtain ⟨M187,ok,h188⟩:=qeq (e:=9) (k:=1) (R:=pS) ok
   refine bd hF fun o189 hL hF=>qa9 _ (fun (s:(List (List UInt8)) × Int) a w=>∃ c190 M191,Ok u m0 (M191 :: [(b24,oc 82 [vi x7.Kind,vs x7.Text,vs x7.Name,vs x7.Style,c20,c22])] :: S) w ∧ Env 166 a [(0,vparts_0),(1,vi depth_1),(2,vb counted_2),(7,vi v4),(8,vp b24),(9,c190),(10,vi s.2)] ∧ ORow 9 1 pS m0 c190 s.1 M191 ∧ InR .i64 s.2) (fun (b:(((List (List UInt8))) ⊕ Bool)) e a w=>(Sum.elim (fun b261=>e = (.exit 3) ∧ ∃ c262 M263,Ok u m0 (M263 :: [(b24,oc 82 [vi x7.Kind,vs x7.Text,vs x7.Name,vs x7.Style,c20,c22])] :: S) w ∧ Env 166 a [(0,vparts_0),(1,vi depth_1),(2,vb counted_2),(7,vi v4),(9,c262)] ∧ ORow 9 1 pS m0 c262 b261 M263) (fun b265=>e = .ret ∧ qdW u m0 S b265 a w)) b) ?_ ?_ N _ a w hL ⟨(Value.slice none 0 0),M187,ok,E.keep [0,1,2,7,8,9,10],h188,(ir 0)⟩
   rotate_left
   ·intro e a w _ hO
    rcases o189 with o189 | o189
    rotate_left
    ·have hF:=qjq hF
     obtain ⟨rfl,hret⟩:=hO
     refine qaq<|qah<|qaq<|qaq<|qah ?_
     cases hF
     exact so (sr ⟨rfl,hret⟩)
    have hF:=qbV hF
    obtain ⟨rfl,c250,M251,ok,E,h252⟩:=hO
    refine qbm<|qaa<|sg<|mv E rfl fun a E=>?_
    obtain ⟨r258,e259,hF⟩:=bnd hF
    obtain ⟨m253,hle255,ok254,hfz256⟩:=(ok.frs 0 rfl).freeze
    have h257:=ORow.froz mS h252 hle255 hfz256 (by decide)
    refine qag E qgR rfl (qcd N _ o189 h257 ([111,116,104,101,114]) (show ([111,116,104,101,114]:List UInt8).length ≤ LIMS by decide) e259 hG ok254) rfl rfl ?_
    rintro _ w ⟨rfl,okz⟩
    replace ok:=(Ok.thawAt 0 rfl ok hle255 hfz256 okz)
    refine ⟨_,rfl,fun a E=>?_⟩
    refine lw E (qaT rfl) fun a E=>wn<|cg E rfl hF (fun c260 hF=>?_) fun c260 hF=>?_
    ·refine wp_skip<|qaf<|qaf<|qaa<|qac<|mv E rfl fun a E=>lw E (qaA rfl rfl (InR.inc r5 (qal hparts_0) c6)) fun a E=>av E rfl fun a E=>wpList_nil ?_
     cases hF
     exact qar ⟨(ok.pk 2 [] rfl (by decide)),E.keep [0,1,2,7],(InR.inc r5 (qal hparts_0) c6)⟩
    refine sg<|aw E rfl fun a E=>wp_ret<|qaq<|qaq<|qah ?_
    cases hF
    exact so (sr ⟨rfl,⟨ok.drop.drop,E.d,rz E rfl⟩⟩)
   rintro ⟨v194,v195⟩ a w r ⟨c196,M197,ok,E,h198,r199⟩ hF
   replace hF:qex (qbz N) N depth_1 counted_2 x7 v194 v195 = some r:=hF
   unfold qex at hF
   refine wp_seq<|sg<|mv E rfl fun a E=>fk E ok qa2 qbo rfl 1 rfl rfl fun a E=>lv E ok (qaQ qbr h21 rfl) fun a E=>lw E (qaO rfl rfl) fun a E=>wn<|cg E rfl hF (fun c200 hF=>?_) fun c200 hF=>?_
   ·refine wp_exit<|qaU ?_
    cases hF
    exact so (sl ⟨rfl,⟨c196,M197,ok,E.keep [0,1,2,7,9],h198⟩⟩)
   refine wp_skip<|qaa<|wp_seq<|wp_block<|sg<|fk E ok qa2 qbo rfl 1 rfl rfl fun a E=>mv E rfl fun a E=>?_
   obtain ⟨x201,e202,hF⟩:=bnd hF
   obtain ⟨b203,o204,es205,hl206,rr207,at208,yy209⟩:=ia E 123 124 qbr h21 e202
   obtain ⟨c211,rfl,l210,h212⟩:=rr207
   refine lv E ok (yy209 _ _) fun a E=>lv E ok (qas (cs:=[vs x201.Key,c211]) qiF rfl rfl (qad.ro at208)) fun a E=>qa4 E ok qdq rfl rfl fun b213 a w E ok=>qae E ok 0 rfl rfl rfl qiu rfl rfl ⟨rfl,(qcD h212),trivial⟩ rfl rfl fun w ok=>wn<|wp_seq<|wp_seq<|qdH (by kernel_rfl) (by kernel_rfl) ok<|qv E (qaj qay rfl) fun a E=>qv E (qat qap rfl (qad.own 2 rfl rfl)) fun a E=>qv E (qaj qda rfl) fun a E=>qv E (qat qak rfl (qad.own 0 rfl rfl)) fun a E=>bd hF fun r214 e215 hF=>qcn E qh5 rfl (fun w ok=>(qcF N x7.Kind r16 x201.Key l210 e215 hG ok).mono (fun _ _ h=>h)) rfl rfl fun a E=>qv E (qaT rfl) fun a E=>qv E (qan rfl) fun a E=>bu E 133 hF (fun c216 hF E=>?_) fun c216 hF E=>?_
   ·refine qs E fun a E=>qs E fun a E=>qs E fun a E=>qs E fun a E=>qv E (qbQ rfl rfl) fun a E=>qv E (qan rfl) fun a E=>qs E fun a E=>qs E fun a E=>qs E fun a E=>qs E fun a E=>qs E fun a E=>qs E fun a E=>qs E fun a E=>qs E fun a E=>qs E fun a E=>qs E fun a E=>?_
    refine qs E fun a E=>qs E fun a E=>qv E (qbQ rfl rfl) fun a E=>wpQuiet_nil ?_
    intro w ok
    refine qaa<|c_if E rfl (fun _=>?_) (fun h=>by cases h)
    refine sg<|aw E rfl fun a E=>wp_ret<|qah<|qaq<|qah ?_
    cases hF
    exact so (sr ⟨rfl,⟨ok.drop.drop.drop,E.d,rz E rfl⟩⟩)
   refine qv E (qan rfl) fun a E=>qv E (qaj qda rfl) fun a E=>qv E (qat qak rfl (qad.own 0 rfl rfl)) fun a E=>bd hF fun r222 e223 hF=>qcn E (v:=(vb r222)) qgR rfl (fun w ok=>?_) rfl rfl fun a E=>?_
   ·obtain ⟨m217,hle219,ok218,hfz220⟩:=(ok.frs 1 rfl).freeze
    have h221:=ORow.froz mS h198 hle219 hfz220 (by decide)
    refine Calls.mono (qcd N _ v194 h221 x201.Key l210 e223 hG ok218) fun _ _ hz=>?_
    obtain ⟨hz1,okz⟩:=hz
    exact ⟨hz1,(Ok.thawAt 1 rfl ok hle219 hfz220 okz)⟩
   refine qv E (qbW rfl rfl) fun a E=>qv E (qan rfl) fun a E=>qbj r222 (fun c224=>?_) (fun c224=>?_)
   ·have hF:=qbh c224 hF
    have E:=E.upd 139 c224 rfl
    refine qs E fun a E=>qs E fun a E=>qs E fun a E=>qs E fun a E=>qs E fun a E=>qs E fun a E=>qs E fun a E=>qs E fun a E=>qs E fun a E=>qs E fun a E=>qs E fun a E=>qs E fun a E=>qv E (qbQ rfl rfl) fun a E=>wpQuiet_nil ?_
    intro w ok
    refine qaa<|c_if E rfl (fun _=>?_) (fun h=>by cases h)
    refine sg<|aw E rfl fun a E=>wp_ret<|qah<|qaq<|qah ?_
    cases hF
    exact so (sr ⟨rfl,⟨ok.drop.drop.drop,E.d,rz E rfl⟩⟩)
   have hF:=qbg c224 hF
   have E:=E.upd 139 c224 rfl
   refine qv E (qaj qeh rfl) fun a E=>qv E (qat qbu rfl (qad.own 0 rfl rfl)) fun a E=>qv E (qan rfl) fun a E=>qv E (qaM rfl rfl) fun a E=>qv E (qan rfl) fun a E=>qv E (qan rfl) fun a E=>qbj counted_2 (fun c225=>?_) (fun c225=>?_)
   ·have hF:=qbh c225 hF
    have E:=E.upd 145 c225 rfl
    refine qs E fun a E=>qs E fun a E=>qs E fun a E=>qv E (qbQ rfl rfl) fun a E=>bd hF fun r226 e227 hF=>qcn E qhp rfl (fun w ok=>(ih_calqueref26_formed _ x201.Parts h212 (IntKind.wrap .i64 (depth_1 + 1)) (InR.wrap _ _) true e227 hG ok).mono (fun _ _ h=>h)) rfl rfl fun a E=>qv E (qaT rfl) fun a E=>qv E (qbW rfl rfl) fun a E=>wpQuiet_nil ?_
    intro w ok
    refine qaa<|cf E rfl hF (fun c228 hF=>?_) fun c228 hF=>?_
    ·refine sg<|aw E rfl fun a E=>wp_ret<|qah<|qaq<|qah ?_
     cases hF
     exact so (sr ⟨rfl,⟨ok.drop.drop.drop,E.d,rz E rfl⟩⟩)
    refine wp_skip<|qaa<|qac<|mv E rfl fun a E=>fk E ok qda qak rfl 0 rfl rfl fun a E=>qbq (R:=pS) (xo:=[.tmp 155]) (xs:=([x201.Key]:List (List UInt8))) E ok qbn qbH rfl ⟨⟨_,rfl,rfl,(qcs l210)⟩,trivial⟩ rfl rfl rfl rfl fun c229 M230 a w E ok h231=>bd hF fun l232 e233 hF=>qbX (R:=pS) E ok 2 mS qbn Tryz.underlying25 rfl h198 (qbs.ofRow h231 0 rfl ok) e233 ⟨_,qbH,rfl⟩ rfl rfl rfl rfl fun c234 M235 a w E ok h236=>av E rfl fun a E=>wpList_nil<|qaf<|qaa<|qac<|mv E rfl fun a E=>lw E (qaA rfl rfl (InR.inc r199 (qal h21) c200)) fun a E=>av E rfl fun a E=>wpList_nil ?_
    cases hF
    exact qar ⟨c234,M235,(ok.pk 4 [2,3] rfl (by decide)),E.keep [0,1,2,7,8,9,10],h236,(InR.inc r199 (qal h21) c200)⟩
   have hF:=qbg c225 hF
   have E:=E.upd 145 c225 rfl
   refine qv E (qaj qay rfl) fun a E=>qv E (qat qap rfl (qad.own 2 rfl rfl)) fun a E=>bd hF fun r237 e238 hF=>qcn E qjy rfl (fun w ok=>(qcK N x7.Kind r16 e238 hG ok).mono (fun _ _ h=>h)) rfl rfl fun a E=>qv E (qbW rfl rfl) fun a E=>bd hF fun r239 e240 hF=>qcn E qhp rfl (fun w ok=>(ih_calqueref26_formed _ x201.Parts h212 (IntKind.wrap .i64 (depth_1 + 1)) (InR.wrap _ _) r237 e240 hG ok).mono (fun _ _ h=>h)) rfl rfl fun a E=>qv E (qaT rfl) fun a E=>qv E (qbW rfl rfl) fun a E=>wpQuiet_nil ?_
   intro w ok
   refine qaa<|cf E rfl hF (fun c241 hF=>?_) fun c241 hF=>?_
   ·refine sg<|aw E rfl fun a E=>wp_ret<|qah<|qaq<|qah ?_
    cases hF
    exact so (sr ⟨rfl,⟨ok.drop.drop.drop,E.d,rz E rfl⟩⟩)
   refine wp_skip<|qaa<|qac<|mv E rfl fun a E=>fk E ok qda qak rfl 0 rfl rfl fun a E=>qbq (R:=pS) (xo:=[.tmp 155]) (xs:=([x201.Key]:List (List UInt8))) E ok qbn qbH rfl ⟨⟨_,rfl,rfl,(qcs l210)⟩,trivial⟩ rfl rfl rfl rfl fun c242 M243 a w E ok h244=>bd hF fun l245 e246 hF=>qbX (R:=pS) E ok 2 mS qbn Tryz.underlying25 rfl h198 (qbs.ofRow h244 0 rfl ok) e246 ⟨_,qbH,rfl⟩ rfl rfl rfl rfl fun c247 M248 a w E ok h249=>av E rfl fun a E=>wpList_nil<|qaf<|qaa<|qac<|mv E rfl fun a E=>lw E (qaA rfl rfl (InR.inc r199 (qal h21) c200)) fun a E=>av E rfl fun a E=>wpList_nil ?_
   cases hF
   exact qar ⟨c247,M248,(ok.pk 4 [2,3] rfl (by decide)),E.keep [0,1,2,7,8,9,10],h249,(InR.inc r199 (qal h21) c200)⟩
 refine mz E rfl rfl fun a E=>lw E (qod rfl rfl (InR.dec r5 (ir 0) c25)) fun a E=>?_
 obtain ⟨x27,e28,hF⟩:=bnd hF
 obtain ⟨b29,o30,es31,hl32,rr33,at34,yy35⟩:=ia E 30 32 qbc hparts_0 e28
 obtain ⟨c40,c42,rfl,r36,l37,l38,l39,h41,h43⟩:=(qaK.1 rr33)
 refine lv E ok (yy35 _ _) fun a E=>fv E qay rfl fun a E=>lv E ok (qat qap rfl (qad.ro (At.sub 0 1 at34))) fun a E=>lw E (qao rfl rfl) fun a E=>pt E rfl rfl fun a E=>wn<|cf E rfl hF (fun c44 hF=>?_) fun c44 hF=>?_
 ·refine sg<|aw E rfl fun a E=>wp_ret<|qah<|qaq<|qah ?_
  cases hF
  exact so (sr ⟨rfl,⟨ok.drop,E.d,rz E rfl⟩⟩)
 refine wp_skip<|qaa<|wp_block<|sg<|fk E ok qay qap rfl 0 rfl rfl fun a E=>lw E (qao rfl rfl) fun a E=>aw E rfl fun a E=>cf E rfl hF (fun c45 hF=>?_) fun c45 hF=>?_
 ·as_aux_lemma =>
   refine wp_seq<|bd hF fun o46 hJ hF=>qaG (Q':=fun e a w=>e = .normal ∧ Ok u m0 ([(b24,oc 82 [vi x7.Kind,vs x7.Text,vs x7.Name,vs x7.Style,c20,c22])] :: S) w ∧ Env 166 a [(0,vparts_0),(1,vi depth_1),(2,vb counted_2),(7,vi v4),(74,vb o46)]) ?_ ?_
   rotate_left
   ·intro e a w hO
    obtain ⟨rfl,ok,E⟩:=hO
    refine qaa<|cg E rfl hF (fun c56 hF=>?_) fun c56 hF=>?_
    ·refine wp_skip<|qaf<|qaf<|qaa<|qac<|mv E rfl fun a E=>lw E (qaA rfl rfl (InR.inc r5 (qal hparts_0) c6)) fun a E=>av E rfl fun a E=>wpList_nil ?_
     cases hF
     exact qar ⟨(ok.pk 1 [] rfl (by decide)),E.keep [0,1,2,7],(InR.inc r5 (qal hparts_0) c6)⟩
    refine sg<|aw E rfl fun a E=>wp_ret<|qaq<|qaq<|qah ?_
    cases hF
    exact so (sr ⟨rfl,⟨ok.drop,E.d,rz E rfl⟩⟩)
   have hF:=hJ
   refine qac<|mv E rfl fun a E=>lw E (qbk rfl rfl) fun a E=>mv E rfl fun a E=>bu E 44 hF (fun c47 hF E=>?_) fun c47 hF E=>?_
   ·refine lsz E fun a E=>pt E rfl rfl fun a E=>mv E rfl fun a E=>lsq E fun a E=>ls E fun a E=>pt E rfl rfl fun a E=>mv E rfl fun a E=>lsq E fun a E=>ls E fun a E=>pt E rfl rfl fun a E=>mv E rfl fun a E=>?_
    refine lsz E fun a E=>pt E rfl rfl fun a E=>mv E rfl fun a E=>lsz E fun a E=>lsq E fun a E=>ls E fun a E=>pt E rfl rfl fun a E=>wpList_nil ?_
    cases hF
    exact ⟨rfl,⟨ok,E.keep [0,1,2,7,74]⟩⟩
   refine fk E ok qaN qak rfl 0 rfl rfl fun a E=>bd hF fun r48 e49 hF=>lc E qdQ rfl (qaP N x7.Name l18 e49 hG ok) fun w ok a E=>lw E (qaT rfl) fun a E=>pf E rfl rfl fun a E=>mv E rfl fun a E=>bu E 50 hF (fun c50 hF E=>?_) fun c50 hF E=>?_
   ·refine lsq E fun a E=>ls E fun a E=>pt E rfl rfl fun a E=>mv E rfl fun a E=>lsq E fun a E=>ls E fun a E=>pt E rfl rfl fun a E=>mv E rfl fun a E=>lsz E fun a E=>pt E rfl rfl fun a E=>mv E rfl fun a E=>?_
    refine lsz E fun a E=>lsq E fun a E=>ls E fun a E=>pt E rfl rfl fun a E=>wpList_nil ?_
    cases hF
    exact ⟨rfl,⟨ok,E.keep [0,1,2,7,74]⟩⟩
   refine fk E ok qcz qak rfl 0 rfl rfl fun a E=>lw E (qce rfl rfl) fun a E=>pf E rfl rfl fun a E=>mv E rfl fun a E=>bu E 55 hF (fun c51 hF E=>?_) fun c51 hF E=>?_
   ·refine lsq E fun a E=>ls E fun a E=>pt E rfl rfl fun a E=>mv E rfl fun a E=>lsz E fun a E=>pt E rfl rfl fun a E=>mv E rfl fun a E=>lsz E fun a E=>ls E fun a E=>?_
    refine lsq E fun a E=>pt E rfl rfl fun a E=>wpList_nil ?_
    cases hF
    exact ⟨rfl,⟨ok,E.keep [0,1,2,7,74]⟩⟩
   refine fk E ok qaW qak rfl 0 rfl rfl fun a E=>lw E (qce rfl rfl) fun a E=>pf E rfl rfl fun a E=>mv E rfl fun a E=>bu E 60 hF (fun c52 hF E=>?_) fun c52 hF E=>?_
   ·refine lsz E fun a E=>pt E rfl rfl fun a E=>mv E rfl fun a E=>lsz E fun a E=>lsq E fun a E=>ls E fun a E=>pt E rfl rfl fun a E=>wpList_nil ?_
    cases hF
    exact ⟨rfl,⟨ok,E.keep [0,1,2,7,74]⟩⟩
   refine fk E ok qa2 qbo rfl 0 rfl rfl fun a E=>lv E ok (qaQ qbr h21 rfl) fun a E=>lw E (qbk rfl rfl) fun a E=>pf E rfl rfl fun a E=>mv E rfl fun a E=>bu E 66 hF (fun c53 hF E=>?_) fun c53 hF E=>?_
   ·refine lsz E fun a E=>lsq E fun a E=>ls E fun a E=>pt E rfl rfl fun a E=>wpList_nil ?_
    cases hF
    exact ⟨rfl,⟨ok,E.keep [0,1,2,7,74]⟩⟩
   refine fk E ok qbR qbu rfl 0 rfl rfl fun a E=>mv E rfl fun a E=>lw E (qaM rfl rfl) fun a E=>mv E rfl fun a E=>bd hF fun r54 e55 hF=>lc E qhp rfl (ih_calqueref26_formed _ x7.Parts h23 (IntKind.wrap .i64 (depth_1 + 1)) (InR.wrap _ _) counted_2 e55 hG ok) fun w ok a E=>lw E (qaT rfl) fun a E=>pf E rfl rfl fun a E=>wpList_nil ?_
   cases hF
   exact ⟨rfl,⟨ok,E.keep [0,1,2,7,74]⟩⟩
 refine sg<|fk E ok qay qap rfl 0 rfl rfl fun a E=>bd hF fun r57 e58 hF=>lc E qju rfl (qcq N x7.Kind r16 e58 hG ok) fun w ok a E=>aw E rfl fun a E=>cg E rfl hF (fun c59 hF=>?_) fun c59 hF=>?_
 ·refine sg<|lv E ok (qas (cs:=[vi x7.Kind,vs x7.Text,vs x7.Name,vs x7.Style,c20,c22]) qdr rfl rfl (qad.own 0 rfl rfl)) fun a E=>mv E rfl fun a E=>bd hF fun r154 e155 hF=>lc E qoi rfl (qfQ N _ x7 (qaK.2 ⟨_,_,rfl,r16,l17,l18,l19,h21,h23⟩) counted_2 e155 hG ok) fun w ok a E=>lw E (qaT rfl) fun a E=>aw E rfl fun a E=>cg E rfl hF (fun c156 hF=>?_) fun c156 hF=>?_
  ·refine wp_skip<|qaf<|qaf<|qaa<|qac<|mv E rfl fun a E=>lw E (qaA rfl rfl (InR.inc r5 (qal hparts_0) c6)) fun a E=>av E rfl fun a E=>wpList_nil ?_
   cases hF
   exact qar ⟨(ok.pk 1 [] rfl (by decide)),E.keep [0,1,2,7],(InR.inc r5 (qal hparts_0) c6)⟩
  refine sg<|aw E rfl fun a E=>wp_ret<|qaq<|qaq<|qah ?_
  cases hF
  exact so (sr ⟨rfl,⟨ok.drop,E.d,rz E rfl⟩⟩)
 refine wp_seq<|wp_seq<|bd hF fun o60 hJ hF=>qaG (Q':=fun e a w=>e = .normal ∧ Ok u m0 ([(b24,oc 82 [vi x7.Kind,vs x7.Text,vs x7.Name,vs x7.Style,c20,c22])] :: S) w ∧ Env 166 a [(0,vparts_0),(1,vi depth_1),(2,vb counted_2),(7,vi v4),(8,vp b24),(114,vb o60)]) ?_ ?_
 ·as_aux_lemma =>
   have hF:=hJ
   refine qac<|mv E rfl fun a E=>lw E (qbk rfl rfl) fun a E=>mv E rfl fun a E=>bu E 81 hF (fun c61 hF E=>?_) fun c61 hF E=>?_
   ·refine lsz E fun a E=>pt E rfl rfl fun a E=>mv E rfl fun a E=>lsq E fun a E=>ls E fun a E=>pt E rfl rfl fun a E=>mv E rfl fun a E=>lsq E fun a E=>ls E fun a E=>pt E rfl rfl fun a E=>mv E rfl fun a E=>?_
    refine lsz E fun a E=>pt E rfl rfl fun a E=>mv E rfl fun a E=>lsz E fun a E=>pt E rfl rfl fun a E=>mv E rfl fun a E=>lsz E fun a E=>?_
    refine pt E rfl rfl fun a E=>wpList_nil ?_
    cases hF
    exact ⟨rfl,⟨ok,E.keep [0,1,2,7,8,114]⟩⟩
   refine fk E ok qaN qak rfl 0 rfl rfl fun a E=>bd hF fun r62 e63 hF=>lc E qdQ rfl (qaP N x7.Name l18 e63 hG ok) fun w ok a E=>lw E (qaT rfl) fun a E=>pf E rfl rfl fun a E=>mv E rfl fun a E=>bu E 87 hF (fun c64 hF E=>?_) fun c64 hF E=>?_
   ·refine lsq E fun a E=>ls E fun a E=>pt E rfl rfl fun a E=>mv E rfl fun a E=>lsq E fun a E=>ls E fun a E=>pt E rfl rfl fun a E=>mv E rfl fun a E=>lsz E fun a E=>pt E rfl rfl fun a E=>mv E rfl fun a E=>?_
    refine lsz E fun a E=>pt E rfl rfl fun a E=>mv E rfl fun a E=>lsz E fun a E=>pt E rfl rfl fun a E=>wpList_nil ?_
    cases hF
    exact ⟨rfl,⟨ok,E.keep [0,1,2,7,8,114]⟩⟩
   refine fk E ok qcz qak rfl 0 rfl rfl fun a E=>lw E (qce rfl rfl) fun a E=>pf E rfl rfl fun a E=>mv E rfl fun a E=>bu E 92 hF (fun c65 hF E=>?_) fun c65 hF E=>?_
   ·refine lsq E fun a E=>ls E fun a E=>pt E rfl rfl fun a E=>mv E rfl fun a E=>lsz E fun a E=>pt E rfl rfl fun a E=>mv E rfl fun a E=>lsz E fun a E=>pt E rfl rfl fun a E=>?_
    refine mv E rfl fun a E=>lsz E fun a E=>pt E rfl rfl fun a E=>wpList_nil ?_
    cases hF
    exact ⟨rfl,⟨ok,E.keep [0,1,2,7,8,114]⟩⟩
   refine fk E ok qaW qak rfl 0 rfl rfl fun a E=>lw E (qce rfl rfl) fun a E=>pf E rfl rfl fun a E=>mv E rfl fun a E=>bu E 97 hF (fun c66 hF E=>?_) fun c66 hF E=>?_
   ·refine lsz E fun a E=>pt E rfl rfl fun a E=>mv E rfl fun a E=>lsz E fun a E=>pt E rfl rfl fun a E=>mv E rfl fun a E=>lsz E fun a E=>?_
    refine pt E rfl rfl fun a E=>wpList_nil ?_
    cases hF
    exact ⟨rfl,⟨ok,E.keep [0,1,2,7,8,114]⟩⟩
   refine fk E ok qbR qbu rfl 0 rfl rfl fun a E=>lv E ok (qaQ qbc h23 rfl) fun a E=>lw E (qbk rfl rfl) fun a E=>pf E rfl rfl fun a E=>mv E rfl fun a E=>bu E 103 hF (fun c67 hF E=>?_) fun c67 hF E=>?_
   ·refine lsz E fun a E=>pt E rfl rfl fun a E=>mv E rfl fun a E=>lsz E fun a E=>pt E rfl rfl fun a E=>wpList_nil ?_
    cases hF
    exact ⟨rfl,⟨ok,E.keep [0,1,2,7,8,114]⟩⟩
   refine fk E ok qa2 qbo rfl 0 rfl rfl fun a E=>lv E ok (qaQ qbr h21 rfl) fun a E=>lw E (qaO rfl rfl) fun a E=>pf E rfl rfl fun a E=>mv E rfl fun a E=>bu E 109 hF (fun c68 hF E=>?_) fun c68 hF E=>?_
   ·refine lsz E fun a E=>pt E rfl rfl fun a E=>wpList_nil ?_
    cases hF
    exact ⟨rfl,⟨ok,E.keep [0,1,2,7,8,114]⟩⟩
   refine fk E ok qa2 qbo rfl 0 rfl rfl fun a E=>lv E ok (qaQ qbr h21 rfl) fun a E=>lw E (qbk rfl rfl) fun a E=>pf E rfl rfl fun a E=>wpList_nil ?_
   cases hF
   exact ⟨rfl,⟨ok,E.keep [0,1,2,7,8,114]⟩⟩
 intro e a w hO
 obtain ⟨rfl,ok,E⟩:=hO
 refine qaa<|cf E rfl hF (fun c69 hF=>?_) fun c69 hF=>?_
 ·refine sg<|aw E rfl fun a E=>wp_ret<|qah<|qaq<|qaq<|qah ?_
  cases hF
  exact so (sr ⟨rfl,⟨ok.drop,E.d,rz E rfl⟩⟩)
 refine wp_skip<|qaa<|sg<|aw E rfl fun a E=>wp_seq<|sg<|aw E rfl fun a E=>wp_block ?_
 obtain ⟨M75,ok,h76⟩:=qeq (e:=9) (k:=1) (R:=pS) ok
 refine bd hF fun o77 hL hF=>qa9 _ (fun (s:(List (List UInt8)) × Int) a w=>∃ c78 M79,Ok u m0 (M79 :: [(b24,oc 82 [vi x7.Kind,vs x7.Text,vs x7.Name,vs x7.Style,c20,c22])] :: S) w ∧ Env 166 a [(0,vparts_0),(1,vi depth_1),(2,vb counted_2),(7,vi v4),(8,vp b24),(9,c78),(10,vi s.2)] ∧ ORow 9 1 pS m0 c78 s.1 M79 ∧ InR .i64 s.2) (fun (b:(((List (List UInt8))) ⊕ Bool)) e a w=>(Sum.elim (fun b149=>e = (.exit 3) ∧ ∃ c150 M151,Ok u m0 (M151 :: [(b24,oc 82 [vi x7.Kind,vs x7.Text,vs x7.Name,vs x7.Style,c20,c22])] :: S) w ∧ Env 166 a [(0,vparts_0),(1,vi depth_1),(2,vb counted_2),(7,vi v4),(9,c150)] ∧ ORow 9 1 pS m0 c150 b149 M151) (fun b153=>e = .ret ∧ qdW u m0 S b153 a w)) b) ?_ ?_ N _ a w hL ⟨(Value.slice none 0 0),M75,ok,E.keep [0,1,2,7,8,9,10],h76,(ir 0)⟩
 rotate_left
 ·intro e a w _ hO
  rcases o77 with o77 | o77
  rotate_left
  ·have hF:=qjq hF
   obtain ⟨rfl,hret⟩:=hO
   refine qaq<|qah<|qaq<|qaq<|qah ?_
   cases hF
   exact so (sr ⟨rfl,hret⟩)
  have hF:=qbV hF
  obtain ⟨rfl,c138,M139,ok,E,h140⟩:=hO
  refine qbm<|qaa<|sg<|mv E rfl fun a E=>?_
  obtain ⟨r146,e147,hF⟩:=bnd hF
  obtain ⟨m141,hle143,ok142,hfz144⟩:=(ok.frs 0 rfl).freeze
  have h145:=ORow.froz mS h140 hle143 hfz144 (by decide)
  refine qag E qgR rfl (qcd N _ o77 h145 ([111,116,104,101,114]) (show ([111,116,104,101,114]:List UInt8).length ≤ LIMS by decide) e147 hG ok142) rfl rfl ?_
  rintro _ w ⟨rfl,okz⟩
  replace ok:=(Ok.thawAt 0 rfl ok hle143 hfz144 okz)
  refine ⟨_,rfl,fun a E=>?_⟩
  refine lw E (qaT rfl) fun a E=>wn<|cg E rfl hF (fun c148 hF=>?_) fun c148 hF=>?_
  ·refine wp_skip<|qaf<|qaf<|qaa<|qac<|mv E rfl fun a E=>lw E (qaA rfl rfl (InR.inc r5 (qal hparts_0) c6)) fun a E=>av E rfl fun a E=>wpList_nil ?_
   cases hF
   exact qar ⟨(ok.pk 2 [] rfl (by decide)),E.keep [0,1,2,7],(InR.inc r5 (qal hparts_0) c6)⟩
  refine sg<|aw E rfl fun a E=>wp_ret<|qaq<|qaq<|qah ?_
  cases hF
  exact so (sr ⟨rfl,⟨ok.drop.drop,E.d,rz E rfl⟩⟩)
 rintro ⟨v82,v83⟩ a w r ⟨c84,M85,ok,E,h86,r87⟩ hF
 replace hF:qbM (qbz N) N depth_1 counted_2 x7 v82 v83 = some r:=hF
 unfold qbM at hF
 refine wp_seq<|sg<|mv E rfl fun a E=>fk E ok qa2 qbo rfl 1 rfl rfl fun a E=>lv E ok (qaQ qbr h21 rfl) fun a E=>lw E (qaO rfl rfl) fun a E=>wn<|cg E rfl hF (fun c88 hF=>?_) fun c88 hF=>?_
 ·refine wp_exit<|qaU ?_
  cases hF
  exact so (sl ⟨rfl,⟨c84,M85,ok,E.keep [0,1,2,7,9],h86⟩⟩)
 refine wp_skip<|qaa<|wp_seq<|wp_block<|sg<|fk E ok qa2 qbo rfl 1 rfl rfl fun a E=>mv E rfl fun a E=>?_
 obtain ⟨x89,e90,hF⟩:=bnd hF
 obtain ⟨b91,o92,es93,hl94,rr95,at96,yy97⟩:=ia E 123 124 qbr h21 e90
 obtain ⟨c99,rfl,l98,h100⟩:=rr95
 refine lv E ok (yy97 _ _) fun a E=>lv E ok (qas (cs:=[vs x89.Key,c99]) qiF rfl rfl (qad.ro at96)) fun a E=>qa4 E ok qdq rfl rfl fun b101 a w E ok=>qae E ok 0 rfl rfl rfl qiu rfl rfl ⟨rfl,(qcD h100),trivial⟩ rfl rfl fun w ok=>wn<|wp_seq<|wp_seq<|qdH (by kernel_rfl) (by kernel_rfl) ok<|qv E (qaj qay rfl) fun a E=>qv E (qat qap rfl (qad.own 2 rfl rfl)) fun a E=>qv E (qaj qda rfl) fun a E=>qv E (qat qak rfl (qad.own 0 rfl rfl)) fun a E=>bd hF fun r102 e103 hF=>qcn E qh5 rfl (fun w ok=>(qcF N x7.Kind r16 x89.Key l98 e103 hG ok).mono (fun _ _ h=>h)) rfl rfl fun a E=>qv E (qaT rfl) fun a E=>qv E (qan rfl) fun a E=>bu E 133 hF (fun c104 hF E=>?_) fun c104 hF E=>?_
 ·refine qs E fun a E=>qs E fun a E=>qs E fun a E=>qs E fun a E=>qv E (qbQ rfl rfl) fun a E=>qv E (qan rfl) fun a E=>qs E fun a E=>qs E fun a E=>qs E fun a E=>qs E fun a E=>qs E fun a E=>qs E fun a E=>qs E fun a E=>qs E fun a E=>qs E fun a E=>qs E fun a E=>?_
  refine qs E fun a E=>qs E fun a E=>qv E (qbQ rfl rfl) fun a E=>wpQuiet_nil ?_
  intro w ok
  refine qaa<|c_if E rfl (fun _=>?_) (fun h=>by cases h)
  refine sg<|aw E rfl fun a E=>wp_ret<|qah<|qaq<|qah ?_
  cases hF
  exact so (sr ⟨rfl,⟨ok.drop.drop.drop,E.d,rz E rfl⟩⟩)
 refine qv E (qan rfl) fun a E=>qv E (qaj qda rfl) fun a E=>qv E (qat qak rfl (qad.own 0 rfl rfl)) fun a E=>bd hF fun r110 e111 hF=>qcn E (v:=(vb r110)) qgR rfl (fun w ok=>?_) rfl rfl fun a E=>?_
 ·obtain ⟨m105,hle107,ok106,hfz108⟩:=(ok.frs 1 rfl).freeze
  have h109:=ORow.froz mS h86 hle107 hfz108 (by decide)
  refine Calls.mono (qcd N _ v82 h109 x89.Key l98 e111 hG ok106) fun _ _ hz=>?_
  obtain ⟨hz1,okz⟩:=hz
  exact ⟨hz1,(Ok.thawAt 1 rfl ok hle107 hfz108 okz)⟩
 refine qv E (qbW rfl rfl) fun a E=>qv E (qan rfl) fun a E=>qbj r110 (fun c112=>?_) (fun c112=>?_)
 ·have hF:=qbh c112 hF
  have E:=E.upd 139 c112 rfl
  refine qs E fun a E=>qs E fun a E=>qs E fun a E=>qs E fun a E=>qs E fun a E=>qs E fun a E=>qs E fun a E=>qs E fun a E=>qs E fun a E=>qs E fun a E=>qs E fun a E=>qs E fun a E=>qv E (qbQ rfl rfl) fun a E=>wpQuiet_nil ?_
  intro w ok
  refine qaa<|c_if E rfl (fun _=>?_) (fun h=>by cases h)
  refine sg<|aw E rfl fun a E=>wp_ret<|qah<|qaq<|qah ?_
  cases hF
  exact so (sr ⟨rfl,⟨ok.drop.drop.drop,E.d,rz E rfl⟩⟩)
 have hF:=qbg c112 hF
 have E:=E.upd 139 c112 rfl
 refine qv E (qaj qeh rfl) fun a E=>qv E (qat qbu rfl (qad.own 0 rfl rfl)) fun a E=>qv E (qan rfl) fun a E=>qv E (qaM rfl rfl) fun a E=>qv E (qan rfl) fun a E=>qv E (qan rfl) fun a E=>qbj counted_2 (fun c113=>?_) (fun c113=>?_)
 ·have hF:=qbh c113 hF
  have E:=E.upd 145 c113 rfl
  refine qs E fun a E=>qs E fun a E=>qs E fun a E=>qv E (qbQ rfl rfl) fun a E=>bd hF fun r114 e115 hF=>qcn E qhp rfl (fun w ok=>(ih_calqueref26_formed _ x89.Parts h100 (IntKind.wrap .i64 (depth_1 + 1)) (InR.wrap _ _) true e115 hG ok).mono (fun _ _ h=>h)) rfl rfl fun a E=>qv E (qaT rfl) fun a E=>qv E (qbW rfl rfl) fun a E=>wpQuiet_nil ?_
  intro w ok
  refine qaa<|cf E rfl hF (fun c116 hF=>?_) fun c116 hF=>?_
  ·refine sg<|aw E rfl fun a E=>wp_ret<|qah<|qaq<|qah ?_
   cases hF
   exact so (sr ⟨rfl,⟨ok.drop.drop.drop,E.d,rz E rfl⟩⟩)
  refine wp_skip<|qaa<|qac<|mv E rfl fun a E=>fk E ok qda qak rfl 0 rfl rfl fun a E=>qbq (R:=pS) (xo:=[.tmp 155]) (xs:=([x89.Key]:List (List UInt8))) E ok qbn qbH rfl ⟨⟨_,rfl,rfl,(qcs l98)⟩,trivial⟩ rfl rfl rfl rfl fun c117 M118 a w E ok h119=>bd hF fun l120 e121 hF=>qbX (R:=pS) E ok 2 mS qbn Tryz.underlying25 rfl h86 (qbs.ofRow h119 0 rfl ok) e121 ⟨_,qbH,rfl⟩ rfl rfl rfl rfl fun c122 M123 a w E ok h124=>av E rfl fun a E=>wpList_nil<|qaf<|qaa<|qac<|mv E rfl fun a E=>lw E (qaA rfl rfl (InR.inc r87 (qal h21) c88)) fun a E=>av E rfl fun a E=>wpList_nil ?_
  cases hF
  exact qar ⟨c122,M123,(ok.pk 4 [2,3] rfl (by decide)),E.keep [0,1,2,7,8,9,10],h124,(InR.inc r87 (qal h21) c88)⟩
 have hF:=qbg c113 hF
 have E:=E.upd 145 c113 rfl
 refine qv E (qaj qay rfl) fun a E=>qv E (qat qap rfl (qad.own 2 rfl rfl)) fun a E=>bd hF fun r125 e126 hF=>qcn E qjy rfl (fun w ok=>(qcK N x7.Kind r16 e126 hG ok).mono (fun _ _ h=>h)) rfl rfl fun a E=>qv E (qbW rfl rfl) fun a E=>bd hF fun r127 e128 hF=>qcn E qhp rfl (fun w ok=>(ih_calqueref26_formed _ x89.Parts h100 (IntKind.wrap .i64 (depth_1 + 1)) (InR.wrap _ _) r125 e128 hG ok).mono (fun _ _ h=>h)) rfl rfl fun a E=>qv E (qaT rfl) fun a E=>qv E (qbW rfl rfl) fun a E=>wpQuiet_nil ?_
 intro w ok
 refine qaa<|cf E rfl hF (fun c129 hF=>?_) fun c129 hF=>?_
 ·refine sg<|aw E rfl fun a E=>wp_ret<|qah<|qaq<|qah ?_
  cases hF
  exact so (sr ⟨rfl,⟨ok.drop.drop.drop,E.d,rz E rfl⟩⟩)
 refine wp_skip<|qaa<|qac<|mv E rfl fun a E=>fk E ok qda qak rfl 0 rfl rfl fun a E=>qbq (R:=pS) (xo:=[.tmp 155]) (xs:=([x89.Key]:List (List UInt8))) E ok qbn qbH rfl ⟨⟨_,rfl,rfl,(qcs l98)⟩,trivial⟩ rfl rfl rfl rfl fun c130 M131 a w E ok h132=>bd hF fun l133 e134 hF=>qbX (R:=pS) E ok 2 mS qbn Tryz.underlying25 rfl h86 (qbs.ofRow h132 0 rfl ok) e134 ⟨_,qbH,rfl⟩ rfl rfl rfl rfl fun c135 M136 a w E ok h137=>av E rfl fun a E=>wpList_nil<|qaf<|qaa<|qac<|mv E rfl fun a E=>lw E (qaA rfl rfl (InR.inc r87 (qal h21) c88)) fun a E=>av E rfl fun a E=>wpList_nil ?_
 cases hF
 exact qar ⟨c135,M136,(ok.pk 4 [2,3] rfl (by decide)),E.keep [0,1,2,7,8,9,10],h137,(InR.inc r87 (qal h21) c88)⟩
theorem qiL:qeO 0:=by
 intro u m0 S w vparts_0 parts_0 hparts_0 depth_1 rdepth_1 counted_2 r hF hG ok
 replace hF:none = some r:=hF
 cases hF
theorem qhL (N:Nat):qeO N:=by
 induction N with
 | zero=>exact qiL
 | succ N h=>exact qiH N h
theorem qjP {u:World} {m0:Mem} {S:Segs} {w:World} (N:Nat) (vparts_0:Value) (parts_0:List (Part)) (hparts_0:(pL 6 qa0) m0 [vparts_0] parts_0) (depth_1:Int) (rdepth_1:InR .i64 depth_1) (counted_2:Bool) {r:Bool} (hF:qbz N parts_0 depth_1 counted_2 = some r) (hG:Glob u) (ok:Ok u m0 S w) :
 Calls Tryz.prog 46 [vparts_0,vi depth_1,vb counted_2].toArray w fun e w'=>(e = .returned (.bool r) ∧ Ok u m0 S w'):=(qhL N) vparts_0 parts_0 hparts_0 depth_1 rdepth_1 counted_2 hF hG ok
def qi8 (u:World) (m0:Mem) (S:Segs) (r:Bool) (a:Act) (w:World):Prop :=
 Ok u m0 S w ∧ a.defers = [] ∧ RVs Tryz.prog a w [.t 2 (.bool r)]
theorem qbZ (N:Nat) (c_0:Int) (rc_0:InR .u8 c_0) {r:Bool} (hF:qbw N c_0 = some r) (hG:Glob u) (ok:Ok u m0 S w) :
  Calls Tryz.prog 80 [Value.int .u8 c_0].toArray w fun e w'=>(e = .returned (.bool r) ∧ Ok u m0 S w'):=by
 unfold qbw at hF
 refine en (qi8 u m0 S) r Tryz.func80 rfl rfl rfl (fun _ _ h=>ra h rfl) fun fin a E=>sg<|aw E rfl fun a E=>sg<|mv E rfl fun a E=>lw E (qao rfl rfl) fun a E=>mv E rfl fun a E=>bu E 5 hF (fun c1 hF E=>?_) fun c1 hF E=>?_
 ·refine lsq E fun a E=>pt E rfl rfl fun a E=>mv E rfl fun a E=>lsq E fun a E=>pt E rfl rfl fun a E=>mv E rfl fun a E=>lsq E fun a E=>pt E rfl rfl fun a E=>mv E rfl fun a E=>lsq E fun a E=>pt E rfl rfl fun a E=>mv E rfl fun a E=>?_
  refine lsq E fun a E=>pt E rfl rfl fun a E=>aw E rfl fun a E=>wp_ret ?_
  exact fin hF ⟨ok,E.d,rz E rfl⟩
 refine mv E rfl fun a E=>lw E (qao rfl rfl) fun a E=>pf E rfl rfl fun a E=>mv E rfl fun a E=>bu E 9 hF (fun c2 hF E=>?_) fun c2 hF E=>?_
 ·refine lsq E fun a E=>pt E rfl rfl fun a E=>mv E rfl fun a E=>lsq E fun a E=>pt E rfl rfl fun a E=>mv E rfl fun a E=>lsq E fun a E=>pt E rfl rfl fun a E=>mv E rfl fun a E=>lsq E fun a E=>pt E rfl rfl fun a E=>av E rfl fun a E=>?_
  refine wn<|wp_ret ?_
  exact fin hF ⟨ok,E.d,rz E rfl⟩
 refine mv E rfl fun a E=>lw E (qao rfl rfl) fun a E=>pf E rfl rfl fun a E=>mv E rfl fun a E=>bu E 13 hF (fun c3 hF E=>?_) fun c3 hF E=>?_
 ·refine lsq E fun a E=>pt E rfl rfl fun a E=>mv E rfl fun a E=>lsq E fun a E=>pt E rfl rfl fun a E=>mv E rfl fun a E=>lsq E fun a E=>pt E rfl rfl fun a E=>aw E rfl fun a E=>wp_ret ?_
  exact fin hF ⟨ok,E.d,rz E rfl⟩
 refine mv E rfl fun a E=>lw E (qao rfl rfl) fun a E=>pf E rfl rfl fun a E=>mv E rfl fun a E=>bu E 17 hF (fun c4 hF E=>?_) fun c4 hF E=>?_
 ·refine lsq E fun a E=>pt E rfl rfl fun a E=>mv E rfl fun a E=>lsq E fun a E=>pt E rfl rfl fun a E=>av E rfl fun a E=>wn<|wp_ret ?_
  exact fin hF ⟨ok,E.d,rz E rfl⟩
 refine mv E rfl fun a E=>lw E (qao rfl rfl) fun a E=>pf E rfl rfl fun a E=>mv E rfl fun a E=>bu E 21 hF (fun c5 hF E=>?_) fun c5 hF E=>?_
 ·refine lsq E fun a E=>pt E rfl rfl fun a E=>aw E rfl fun a E=>wp_ret ?_
  exact fin hF ⟨ok,E.d,rz E rfl⟩
 refine mv E rfl fun a E=>lw E (qao rfl rfl) fun a E=>pf E rfl rfl fun a E=>aw E rfl fun a E=>wp_ret ?_
 exact fin hF ⟨ok,E.d,rz E rfl⟩
def qjA (u:World) (m0:Mem) (S:Segs) (r:(List UInt8)) (a:Act) (w:World):Prop :=
 Ok u m0 S w ∧ a.defers = [] ∧ RVs Tryz.prog a w [.t 2 (.string (bs r))] ∧ r.length ≤ LIMS
theorem qjw (N:Nat) (s_0:List UInt8) (ls_0:s_0.length ≤ LIMS) {r:(List UInt8)} (hF:qdM N s_0 = some r) (hG:Glob u) (ok:Ok u m0 S w) :
  Calls Tryz.prog 62 [vs s_0].toArray w fun e w'=>(e = .returned (.string (bs r)) ∧ Ok u m0 S w') ∧ r.length ≤ LIMS:=by
 unfold qdM at hF
 refine en (qjA u m0 S) r Tryz.func62 rfl rfl rfl (fun _ _ h=>rb h rfl) fun fin a E=>sg<|aw E rfl fun a E=>sg<|aw E rfl fun a E=>wp_seq<|sg<|av E rfl fun a E=>wn<|wp_block ?_
 obtain ⟨M6,ok,h7⟩:=qeq (e:=5) (k:=1) (R:=(pI .u8)) ok
 refine bd hF fun o8 hL hF=>qa9 _ (fun (s:(List (Int)) × Int) a w=>∃ c9 M10,Ok u m0 (M10 :: S) w ∧ Env 26 a [(0,vs s_0),(3,c9),(4,vi s.2)] ∧ ORow 5 1 (pI .u8) m0 c9 s.1 M10 ∧ InR .i64 s.2) (fun (b:((List (Int)))) e a w=>e = (.exit 0) ∧ ∃ c53 M54,Ok u m0 (M54 :: S) w ∧ Env 26 a [(3,c53)] ∧ ORow 5 1 (pI .u8) m0 c53 b M54) ?_ ?_ N _ a w hL ⟨(Value.slice none 0 0),M6,ok,E.keep [0,3,4],h7,(ir 0)⟩
 rotate_left
 ·intro e a w _ hO
  obtain ⟨rfl,c50,M51,ok,E,h52⟩:=hO
  refine qbm<|qaa<|sg<|mv E rfl fun a E=>lv E ok (qjn Tryz.underlying66 Tryz.underlying5 Tryz.underlying9 rfl (BR.ofRow h52 0 rfl)) fun a E=>av E rfl fun a E=>wn<|wp_ret ?_
  exact fin hF ⟨ok.drop,E.d,rz E rfl,(Nat.le_trans (Nat.le_of_eq qel) h52.form.2)⟩
 rintro ⟨v13,v14⟩ a w r ⟨c15,M16,ok,E,h17,r18⟩ hF
 replace hF:qc8 N s_0 v13 v14 = some r:=hF
 unfold qc8 at hF
 refine wp_seq<|sg<|mz E rfl rfl fun a E=>lw E (qaI Tryz.underlying9 rfl) fun a E=>lw E (qaO rfl rfl) fun a E=>wn<|cg E rfl hF (fun c19 hF=>?_) fun c19 hF=>?_
 ·refine wp_exit<|qaU ?_
  cases hF
  exact so (⟨rfl,⟨c15,M16,ok,E.keep [3],h17⟩⟩)
 refine wp_skip<|qaa<|wp_seq<|wp_block<|wp_seq<|sg<|mv E rfl fun a E=>mv E rfl fun a E=>bd hF fun c20 e21 hF=>lv E ok (qaH Tryz.underlying9 rfl rfl e21) fun a E=>bd hF fun r22 e23 hF=>lc E qh7 rfl (qbZ N (c20.toNat:Int) (InR.byte c20) e23 hG ok) fun w ok a E=>wn<|bd hF fun o24 hJ hF=>qaG (Q':=fun e a w=>e = .normal ∧ ∃ c25 M26,Ok u m0 (M26 :: S) w ∧ Env 26 a [(0,vs s_0),(3,c25),(4,vi v14)] ∧ ORow 5 1 (pI .u8) m0 c25 o24 M26) ?_ ?_
 ·have hF:=hJ
  refine cg E rfl hF (fun c28 hF=>?_) fun c28 hF=>?_
  ·refine wp_skip ?_
   cases hF
   exact ⟨rfl,⟨c15,M16,ok,E.keep [0,3,4],h17⟩⟩
  refine qac<|mv E rfl fun a E=>qbq (R:=(pI .u8)) (xo:=[.const (Value.int .u8 92)]) (xs:=([92]:List (Int))) E ok qff qen rfl ⟨⟨_,rfl,rfl,(qej (show InR .u8 (92) by decide))⟩,trivial⟩ rfl rfl rfl rfl fun c29 M30 a w E ok h31=>bd hF fun l32 e33 hF=>qbX (R:=(pI .u8)) E ok 1 (mI .u8) qff Tryz.underlying66 rfl h17 (qbs.ofRow h31 0 rfl ok) e33 ⟨_,qen,rfl⟩ rfl rfl rfl rfl fun c34 M35 a w E ok h36=>av E rfl fun a E=>wpList_nil ?_
  cases hF
  exact ⟨rfl,⟨c34,M35,(ok.pk 2 [1] rfl (by decide)),E.keep [0,3,4],h36⟩⟩
 intro e a w hO
 obtain ⟨rfl,c37,M38,ok,E,h39⟩:=hO
 refine qaa<|qac<|mz E rfl rfl fun a E=>mv E rfl fun a E=>bd hF fun c40 e41 hF=>lv E ok (qaH Tryz.underlying9 rfl rfl e41) fun a E=>qbq (R:=(pI .u8)) (xo:=[.tmp 21]) (xs:=([(c40.toNat:Int)]:List (Int))) E ok qff qen rfl ⟨⟨_,rfl,rfl,(qej (InR.byte c40))⟩,trivial⟩ rfl rfl rfl rfl fun c42 M43 a w E ok h44=>bd hF fun l45 e46 hF=>qbX (R:=(pI .u8)) E ok 1 (mI .u8) qff Tryz.underlying66 rfl h39 (qbs.ofRow h44 0 rfl ok) e46 ⟨_,qen,rfl⟩ rfl rfl rfl rfl fun c47 M48 a w E ok h49=>av E rfl fun a E=>wpList_nil<|qaf<|qaa<|qac<|mv E rfl fun a E=>lw E (qaA rfl rfl (InR.inc r18 (InR.len ls_0) c19)) fun a E=>av E rfl fun a E=>wpList_nil ?_
 cases hF
 exact qar ⟨c47,M48,(ok.pk 2 [1] rfl (by decide)),E.keep [0,3,4],h49,(InR.inc r18 (InR.len ls_0) c19)⟩
end Go.Proofs.YtllnjbnknjpbjaaGreatDoor
namespace Go.Proofs.YtllnjbnknjpbjaaGreatDoor
open Go.X
variable {u:World} {m0:Mem} {S:Segs} {w:World}
set_option maxHeartbeats 4000000
set_option maxRecDepth 100000
def qkA (u:World) (m0:Mem) (S:Segs) (r:(List UInt8)) (a:Act) (w:World):Prop :=
 Ok u m0 S w ∧ a.defers = [] ∧ RVs Tryz.prog a w [.t 4 (.string (bs r))] ∧ r.length ≤ LIMS
def qfc (N:Nat):Prop:=∀ {u:World} {m0:Mem} {S:Segs} {w:World} (vparts_0:Value) (parts_0:List (Part)) (hparts_0:(pL 6 qa0) m0 [vparts_0] parts_0) (gap_1:List UInt8) (lgap_1:gap_1.length ≤ LIMS) {r:(List UInt8)} (hF:qbG N parts_0 gap_1 = some r) (hG:Glob u) (ok:Ok u m0 S w),Calls Tryz.prog 47 [vparts_0,vs gap_1].toArray w fun e w'=>(e = .returned (.string (bs r)) ∧ Ok u m0 S w') ∧ r.length ≤ LIMS
theorem qjm (N:Nat) (ih_calqueref26_Text:qfc N):qfc (N + 1):=by
 intro u m0 S w vparts_0 parts_0 hparts_0 gap_1 lgap_1 r hF hG ok
 have hF0:qdL (qbG N) N parts_0 gap_1 = some r:=hF
 have hF:=hF0
 clear hF0
 unfold qdL at hF
 refine en (qkA u m0 S) r Tryz.func47 rfl rfl rfl (fun _ _ h=>rb h rfl) fun fin a E=>sg<|aw E rfl fun a E=>sg<|aw E rfl fun a E=>sg<|qbq (R:=pS) (xo:=[.const (vs ([110,117,109,98,101,114])),.const (vs ([117,110,105,116])),.const (vs ([100,97,116,101])),.const (vs ([108,105,115,116])),.const (vs ([112,108,117,114,97,108])),.const (vs ([111,114,100,105,110,97,108])),.const (vs ([115,101,108,101,99,116]))]) (xs:=([[110,117,109,98,101,114],[117,110,105,116],[100,97,116,101],[108,105,115,116],[112,108,117,114,97,108],[111,114,100,105,110,97,108],[115,101,108,101,99,116]]:List (List UInt8))) E ok qbn qbH rfl ⟨⟨_,rfl,rfl,(qcs (show ([110,117,109,98,101,114]:List UInt8).length ≤ LIMS by decide))⟩,⟨_,rfl,rfl,(qcs (show ([117,110,105,116]:List UInt8).length ≤ LIMS by decide))⟩,⟨_,rfl,rfl,(qcs (show ([100,97,116,101]:List UInt8).length ≤ LIMS by decide))⟩,⟨_,rfl,rfl,(qcs (show ([108,105,115,116]:List UInt8).length ≤ LIMS by decide))⟩,⟨_,rfl,rfl,(qcs (show ([112,108,117,114,97,108]:List UInt8).length ≤ LIMS by decide))⟩,⟨_,rfl,rfl,(qcs (show ([111,114,100,105,110,97,108]:List UInt8).length ≤ LIMS by decide))⟩,⟨_,rfl,rfl,(qcs (show ([115,101,108,101,99,116]:List UInt8).length ≤ LIMS by decide))⟩,trivial⟩ rfl rfl rfl rfl fun c1 M2 a w E ok h3=>av E rfl fun a E=>wn<|wp_seq<|sg<|aw E rfl fun a E=>wp_block<|bd hF fun o6 hL hF=>qa9 _ (fun (s:(List UInt8) × Int) a w=>Ok u m0 (M2 :: S) w ∧ Env 154 a [(0,vparts_0),(1,vs gap_1),(5,vs s.1),(6,c1),(7,vi s.2)] ∧ s.1.length ≤ LIMS ∧ InR .i64 s.2) (fun (b:((List UInt8))) e a w=>e = (.exit 0) ∧ Ok u m0 (M2 :: S) w ∧ Env 154 a [(5,vs b)] ∧ b.length ≤ LIMS) ?_ ?_ N _ a w hL ⟨ok,E.keep [0,1,5,6,7],(show ([]:List UInt8).length ≤ LIMS by decide),(ir 0)⟩
 rotate_left
 ·intro e a w _ hO
  obtain ⟨rfl,ok,E,l287⟩:=hO
  refine qbm<|qaa<|sg<|mv E rfl fun a E=>aw E rfl fun a E=>wp_ret ?_
  exact fin hF ⟨ok.drop,E.d,rz E rfl,l287⟩
 rintro ⟨v9,v10⟩ a w r ⟨ok,E,l11,r12⟩ hF
 replace hF:qc3 (qbG N) N parts_0 gap_1 v9 v10 = some r:=hF
 unfold qc3 at hF
 refine wp_seq<|sg<|mz E rfl rfl fun a E=>lv E ok (qaQ qbc hparts_0 rfl) fun a E=>lw E (qaO rfl rfl) fun a E=>wn<|cg E rfl hF (fun c13 hF=>?_) fun c13 hF=>?_
 ·refine wp_exit<|qaU ?_
  cases hF
  exact so (⟨rfl,⟨ok,E.keep [5],l11⟩⟩)
 refine wp_skip<|qaa<|wp_seq<|wp_block<|sg<|mz E rfl rfl fun a E=>?_
 obtain ⟨x14,e15,hF⟩:=bnd hF
 obtain ⟨b16,o17,es18,hl19,rr20,at21,yy22⟩:=ia E 17 18 qbc hparts_0 e15
 obtain ⟨c27,c29,rfl,r23,l24,l25,l26,h28,h30⟩:=(qaK.1 rr20)
 refine lv E ok (yy22 _ _) fun a E=>lv E ok (qas (cs:=[vi x14.Kind,vs x14.Text,vs x14.Name,vs x14.Style,c27,c29]) qdr rfl rfl (qad.ro at21)) fun a E=>qa4 E ok qbv rfl rfl fun b31 a w E ok=>qae E ok 0 rfl rfl rfl qfd rfl rfl ⟨rfl,rfl,rfl,rfl,(qcD h28),(qcD h30),trivial⟩ rfl rfl fun w ok=>wn<|wp_block<|sg<|fk E ok qay qap rfl 0 rfl rfl fun a E=>lw E (qao rfl rfl) fun a E=>aw E rfl fun a E=>cf E rfl hF (fun c32 hF=>?_) fun c32 hF=>?_
 ·refine qac<|mv E rfl fun a E=>fk E ok qcz qak rfl 0 rfl rfl fun a E=>bd hF fun r33 e34 hF=>qag E qrQ rfl (qjw N x14.Text l24 e34 hG ok) rfl rfl ?_
  rintro _ w ⟨⟨rfl,ok⟩,l35⟩
  refine ⟨_,rfl,fun a E=>?_⟩
  refine bd hF fun s36 e37 hF=>lw E (qa5 rfl rfl e37) fun a E=>av E rfl fun a E=>wpList_nil<|qaf<|qaf<|qaa<|qac<|mv E rfl fun a E=>lw E (qaA rfl rfl (InR.inc r12 (qal hparts_0) c13)) fun a E=>av E rfl fun a E=>wpList_nil ?_
  cases hF
  exact qar ⟨(ok.pk 2 [1] rfl (by decide)),E.keep [0,1,5,6,7],(qb6 e37),(InR.inc r12 (qal hparts_0) c13)⟩
 refine sg<|fk E ok qay qap rfl 0 rfl rfl fun a E=>lw E (qao rfl rfl) fun a E=>aw E rfl fun a E=>cf E rfl hF (fun c38 hF=>?_) fun c38 hF=>?_
 ·refine qac<|mv E rfl fun a E=>bd hF fun s39 e40 hF=>lw E (qa5 rfl rfl e40) fun a E=>av E rfl fun a E=>wpList_nil<|qaf<|qaf<|qaa<|qac<|mv E rfl fun a E=>lw E (qaA rfl rfl (InR.inc r12 (qal hparts_0) c13)) fun a E=>av E rfl fun a E=>wpList_nil ?_
  cases hF
  exact qar ⟨(ok.pk 2 [1] rfl (by decide)),E.keep [0,1,5,6,7],(qb6 e40),(InR.inc r12 (qal hparts_0) c13)⟩
 refine sg<|fk E ok qay qap rfl 0 rfl rfl fun a E=>lw E (qao rfl rfl) fun a E=>mv E rfl fun a E=>bw E 40 hF (fun c41 hF E=>?_) fun c41 hF E=>?_
 ·as_aux_lemma =>
   refine lsz E fun a E=>pf E rfl rfl fun a E=>aw E rfl fun a E=>c_if E rfl (fun h=>by cases h) (fun _=>?_)
   refine sg<|fk E ok qay qap rfl 0 rfl rfl fun a E=>lw E (qao rfl rfl) fun a E=>aw E rfl fun a E=>cf E rfl hF (fun c168 hF=>?_) fun c168 hF=>?_
   ·refine qdH (by kernel_rfl) (by kernel_rfl) ok<|qv E (qan rfl) fun a E=>qv E (qaj qaN rfl) fun a E=>qv E (qat qak rfl (qad.own 0 rfl rfl)) fun a E=>bd hF fun s169 e170 hF=>qv E (qa5 rfl rfl e170) fun a E=>bd hF fun s171 e172 hF=>qv E (qa5 rfl rfl e172) fun a E=>qv E (qaj qbR rfl) fun a E=>qv E (qat qbu rfl (qad.own 0 rfl rfl)) fun a E=>qv E (qan rfl) fun a E=>?_
    obtain ⟨r173,e174,hF⟩:=bnd hF
    obtain ⟨_,_,⟨_,_⟩,l175⟩:=Go.X.Calls.get (ih_calqueref26_Text _ x14.Parts h30 gap_1 lgap_1 e174 hG ok)
    refine qcn E qjv rfl (fun w ok=>(ih_calqueref26_Text _ x14.Parts h30 gap_1 lgap_1 e174 hG ok).mono (fun _ _ h=>h.1)) rfl rfl fun a E=>bd hF fun s176 e177 hF=>qv E (qa5 rfl rfl e177) fun a E=>bd hF fun s178 e179 hF=>qv E (qa5 rfl rfl e179) fun a E=>qv E (qaj qaN rfl) fun a E=>qv E (qat qak rfl (qad.own 0 rfl rfl)) fun a E=>bd hF fun s180 e181 hF=>qv E (qa5 rfl rfl e181) fun a E=>bd hF fun s182 e183 hF=>qv E (qa5 rfl rfl e183) fun a E=>bd hF fun s184 e185 hF=>qv E (qa5 rfl rfl e185) fun a E=>qv E (qbx rfl) fun a E=>wpQuiet_nil ?_
    intro w ok
    refine qaf<|qaf<|qaa<|qac<|mv E rfl fun a E=>lw E (qaA rfl rfl (InR.inc r12 (qal hparts_0) c13)) fun a E=>av E rfl fun a E=>wpList_nil ?_
    cases hF
    exact qar ⟨(ok.pk 2 [1] rfl (by decide)),E.keep [0,1,5,6,7],(qb6 e185),(InR.inc r12 (qal hparts_0) c13)⟩
   refine sg<|fk E ok qay qap rfl 0 rfl rfl fun a E=>lw E (qao rfl rfl) fun a E=>aw E rfl fun a E=>cf E rfl hF (fun c186 hF=>?_) fun c186 hF=>?_
   ·refine qac<|mv E rfl fun a E=>fk E ok qaN qak rfl 0 rfl rfl fun a E=>bd hF fun s187 e188 hF=>lw E (qa5 rfl rfl e188) fun a E=>bd hF fun s189 e190 hF=>lw E (qa5 rfl rfl e190) fun a E=>bd hF fun s191 e192 hF=>lw E (qa5 rfl rfl e192) fun a E=>av E rfl fun a E=>wpList_nil<|qaf<|qaf<|qaa<|qac<|mv E rfl fun a E=>?_
    refine lw E (qaA rfl rfl (InR.inc r12 (qal hparts_0) c13)) fun a E=>av E rfl fun a E=>wpList_nil ?_
    cases hF
    exact qar ⟨(ok.pk 2 [1] rfl (by decide)),E.keep [0,1,5,6,7],(qb6 e192),(InR.inc r12 (qal hparts_0) c13)⟩
   refine sg<|fk E ok qay qap rfl 0 rfl rfl fun a E=>lw E (qb2 rfl rfl) fun a E=>mv E rfl fun a E=>bw E 86 hF (fun c193 hF E=>?_) fun c193 hF E=>?_
   ·refine lsq E fun a E=>ls E fun a E=>pf E rfl rfl fun a E=>aw E rfl fun a E=>c_if E rfl (fun h=>by cases h) (fun _=>?_)
    refine wp_skip<|qaf<|qaf<|qaa<|qac<|mv E rfl fun a E=>lw E (qaA rfl rfl (InR.inc r12 (qal hparts_0) c13)) fun a E=>av E rfl fun a E=>wpList_nil ?_
    cases hF
    exact qar ⟨(ok.pk 2 [1] rfl (by decide)),E.keep [0,1,5,6,7],l11,(InR.inc r12 (qal hparts_0) c13)⟩
   refine fk E ok qay qap rfl 0 rfl rfl fun a E=>lw E (qc4 rfl rfl) fun a E=>pt E rfl rfl fun a E=>aw E rfl fun a E=>cg E rfl hF (fun c194 hF=>?_) fun c194 hF=>?_
   ·refine wp_skip<|qaf<|qaf<|qaa<|qac<|mv E rfl fun a E=>lw E (qaA rfl rfl (InR.inc r12 (qal hparts_0) c13)) fun a E=>av E rfl fun a E=>wpList_nil ?_
    cases hF
    exact qar ⟨(ok.pk 2 [1] rfl (by decide)),E.keep [0,1,5,6,7],l11,(InR.inc r12 (qal hparts_0) c13)⟩
   refine wp_seq<|qdH (by kernel_rfl) (by kernel_rfl) ok<|qv E (qan rfl) fun a E=>qv E (qaj qaN rfl) fun a E=>qv E (qat qak rfl (qad.own 0 rfl rfl)) fun a E=>bd hF fun s195 e196 hF=>qv E (qa5 rfl rfl e196) fun a E=>bd hF fun s197 e198 hF=>qv E (qa5 rfl rfl e198) fun a E=>qv E (qan rfl) fun a E=>bd hF fun s199 e200 hF=>qv E (qa5 rfl rfl e200) fun a E=>qv E (qan rfl) fun a E=>qv E (qaj qay rfl) fun a E=>qv E (qat qap rfl (qad.own 0 rfl rfl)) fun a E=>qv E (qes rfl rfl) fun a E=>?_
   obtain ⟨x201,e202,hF⟩:=bnd hF
   obtain ⟨b203,o204,hp205,yy206⟩:=qgp qbn h3 e202 (P:=Tryz.prog) (X:=.tmp 98) (I:=.tmp 101) (kd:=.i64) (qcy E rfl) (qcy E rfl)
   refine qv E (yy206 _ _) fun a E=>?_
   obtain ⟨es207,hl208,rr209,hh210⟩:=qia h3 e202 hp205 (by decide)
   obtain ⟨rfl,l211⟩:=rr209
   refine qv E (qat qak rfl (hh210 _ _ _ 1 rfl)) fun a E=>bd hF fun s212 e213 hF=>qv E (qa5 rfl rfl e213) fun a E=>bd hF fun s214 e215 hF=>qv E (qa5 rfl rfl e215) fun a E=>qv E (qbx rfl) fun a E=>wpQuiet_nil ?_
   intro w ok
   refine qaa<|wp_seq<|sg<|fk E ok qaW qak rfl 0 rfl rfl fun a E=>lw E (qce rfl rfl) fun a E=>wn<|bd hF fun o216 hJ hF=>qaG (Q':=fun e a w=>e = .normal ∧ Ok u m0 ([(b31,oc 82 [vi x14.Kind,vs x14.Text,vs x14.Name,vs x14.Style,c27,c29])] :: M2 :: S) w ∧ Env 154 a [(0,vparts_0),(1,vs gap_1),(5,vs o216),(6,c1),(7,vi v10),(8,vp b31)] ∧ o216.length ≤ LIMS) ?_ ?_
   ·have hF:=hJ
    refine cg E rfl hF (fun c218 hF=>?_) fun c218 hF=>?_
    ·refine wp_skip ?_
     cases hF
     exact ⟨rfl,⟨ok,E.keep [0,1,5,6,7,8],(qb6 e215)⟩⟩
    refine qac<|mz E rfl rfl fun a E=>bd hF fun s219 e220 hF=>lw E (qa5 rfl rfl e220) fun a E=>fk E ok qaW qak rfl 0 rfl rfl fun a E=>bd hF fun s221 e222 hF=>lw E (qa5 rfl rfl e222) fun a E=>bd hF fun s223 e224 hF=>lw E (qa5 rfl rfl e224) fun a E=>av E rfl fun a E=>wpList_nil ?_
    cases hF
    exact ⟨rfl,⟨ok,E.keep [0,1,5,6,7,8],(qb6 e224)⟩⟩
   intro e a w hO
   obtain ⟨rfl,ok,E,l225⟩:=hO
   refine qaa<|wp_seq<|sg<|fk E ok qay qap rfl 0 rfl rfl fun a E=>bd hF fun r226 e227 hF=>lc E qju rfl (qcq N x14.Kind r23 e227 hG ok) fun w ok a E=>wn<|bd hF fun o228 hJ hF=>qaG (Q':=fun e a w=>e = .normal ∧ Ok u m0 ([(b31,oc 82 [vi x14.Kind,vs x14.Text,vs x14.Name,vs x14.Style,c27,c29])] :: M2 :: S) w ∧ Env 154 a [(0,vparts_0),(1,vs gap_1),(5,vs o228),(6,c1),(7,vi v10),(8,vp b31)] ∧ o228.length ≤ LIMS) ?_ ?_
   ·have hF:=hJ
    refine cg E rfl hF (fun c230 hF=>?_) fun c230 hF=>?_
    ·refine wp_skip ?_
     cases hF
     exact ⟨rfl,⟨ok,E.keep [0,1,5,6,7,8],l225⟩⟩
    refine qac<|mv E rfl fun a E=>bd hF fun s231 e232 hF=>lw E (qa5 rfl rfl e232) fun a E=>av E rfl fun a E=>wpList_nil ?_
    cases hF
    exact ⟨rfl,⟨ok,E.keep [0,1,5,6,7,8],(qb6 e232)⟩⟩
   intro e a w hO
   obtain ⟨rfl,ok,E,l233⟩:=hO
   refine qaa<|wp_seq<|sg<|aw E rfl fun a E=>wp_block<|bd hF fun o236 hL hF=>qa9 _ (fun (s:(List UInt8) × Int) a w=>Ok u m0 ([(b31,oc 82 [vi x14.Kind,vs x14.Text,vs x14.Name,vs x14.Style,c27,c29])] :: M2 :: S) w ∧ Env 154 a [(0,vparts_0),(1,vs gap_1),(5,vs s.1),(6,c1),(7,vi v10),(8,vp b31),(9,vi s.2)] ∧ s.1.length ≤ LIMS ∧ InR .i64 s.2) (fun (b:((List UInt8))) e a w=>e = (.exit 3) ∧ Ok u m0 ([(b31,oc 82 [vi x14.Kind,vs x14.Text,vs x14.Name,vs x14.Style,c27,c29])] :: M2 :: S) w ∧ Env 154 a [(0,vparts_0),(1,vs gap_1),(5,vs b),(6,c1),(7,vi v10)] ∧ b.length ≤ LIMS) ?_ ?_ N _ a w hL ⟨ok,E.keep [0,1,5,6,7,8,9],l233,(ir 0)⟩
   rotate_left
   ·intro e a w _ hO
    obtain ⟨rfl,ok,E,l283⟩:=hO
    refine qbm<|qaa<|qac<|mv E rfl fun a E=>bd hF fun s284 e285 hF=>lw E (qa5 rfl rfl e285) fun a E=>av E rfl fun a E=>wpList_nil<|qaf<|qaf<|qaa<|qac<|mv E rfl fun a E=>lw E (qaA rfl rfl (InR.inc r12 (qal hparts_0) c13)) fun a E=>av E rfl fun a E=>wpList_nil ?_
    cases hF
    exact qar ⟨(ok.pk 2 [1] rfl (by decide)),E.keep [0,1,5,6,7],(qb6 e285),(InR.inc r12 (qal hparts_0) c13)⟩
   rintro ⟨v239,v240⟩ a w r ⟨ok,E,l241,r242⟩ hF
   replace hF:qe3 (qbG N) N gap_1 x14 v239 v240 = some r:=hF
   unfold qe3 at hF
   refine wp_seq<|sg<|mv E rfl fun a E=>fk E ok qa2 qbo rfl 0 rfl rfl fun a E=>lv E ok (qaQ qbr h28 rfl) fun a E=>lw E (qaO rfl rfl) fun a E=>wn<|cg E rfl hF (fun c243 hF=>?_) fun c243 hF=>?_
   ·refine wp_exit<|qaU ?_
    cases hF
    exact so (⟨rfl,⟨ok,E.keep [0,1,5,6,7],l241⟩⟩)
   refine wp_skip<|qaa<|wp_seq<|wp_block<|qdH (by kernel_rfl) (by kernel_rfl) ok<|qv E (qan rfl) fun a E=>qv E (qan rfl) fun a E=>qv E (qaj qa2 rfl) fun a E=>qv E (qat qbo rfl (qad.own 0 rfl rfl)) fun a E=>qv E (qan rfl) fun a E=>?_
   obtain ⟨x244,e245,hF⟩:=bnd hF
   obtain ⟨b246,o247,es248,hl249,rr250,at251,yy252⟩:=ia E 131 132 qbr h28 e245
   obtain ⟨c254,rfl,l253,h255⟩:=rr250
   refine qv E (yy252 _ _) fun a E=>qv E (qaj qda rfl) fun a E=>qv E (qat qak rfl (qad.ro (At.sub 0 1 at251))) fun a E=>bd hF fun s256 e257 hF=>qv E (qa5 rfl rfl e257) fun a E=>qv E (qan rfl) fun a E=>bd hF fun s258 e259 hF=>qv E (qa5 rfl rfl e259) fun a E=>bd hF fun s260 e261 hF=>qv E (qa5 rfl rfl e261) fun a E=>qv E (qaj qa2 rfl) fun a E=>qv E (qat qbo rfl (qad.own 0 rfl rfl)) fun a E=>qv E (qan rfl) fun a E=>?_
   obtain ⟨x262,e263,hF⟩:=bnd hF
   obtain ⟨b264,o265,es266,hl267,rr268,at269,yy270⟩:=ia E 141 142 qbr h28 e263
   obtain ⟨c272,rfl,l271,h273⟩:=rr268
   refine qv E (yy270 _ _) fun a E=>qv E (qaj qeh rfl) fun a E=>qv E (qat qbu rfl (qad.ro (At.sub 1 1 at269))) fun a E=>qv E (qan rfl) fun a E=>?_
   obtain ⟨r274,e275,hF⟩:=bnd hF
   obtain ⟨_,_,⟨_,_⟩,l276⟩:=Go.X.Calls.get (ih_calqueref26_Text _ x262.Parts h273 gap_1 lgap_1 e275 hG ok)
   refine qcn E qjv rfl (fun w ok=>(ih_calqueref26_Text _ x262.Parts h273 gap_1 lgap_1 e275 hG ok).mono (fun _ _ h=>h.1)) rfl rfl fun a E=>bd hF fun s277 e278 hF=>qv E (qa5 rfl rfl e278) fun a E=>bd hF fun s279 e280 hF=>qv E (qa5 rfl rfl e280) fun a E=>bd hF fun s281 e282 hF=>qv E (qa5 rfl rfl e282) fun a E=>qv E (qbx rfl) fun a E=>wpQuiet_nil ?_
   intro w ok
   refine qaf<|qaa<|qac<|mv E rfl fun a E=>lw E (qaA rfl rfl (InR.inc r242 (qal h28) c243)) fun a E=>av E rfl fun a E=>wpList_nil ?_
   cases hF
   exact qar ⟨ok,E.keep [0,1,5,6,7,8,9],(qb6 e282),(InR.inc r242 (qal h28) c243)⟩
 refine fk E ok qbR qbu rfl 0 rfl rfl fun a E=>lv E ok (qaQ qbc h30 rfl) fun a E=>lw E (qao rfl rfl) fun a E=>pt E rfl rfl fun a E=>aw E rfl fun a E=>cf E rfl hF (fun c42 hF=>?_) fun c42 hF=>?_
 ·refine qac<|mv E rfl fun a E=>fk E ok qaN qak rfl 0 rfl rfl fun a E=>bd hF fun s43 e44 hF=>lw E (qa5 rfl rfl e44) fun a E=>bd hF fun s45 e46 hF=>lw E (qa5 rfl rfl e46) fun a E=>bd hF fun s47 e48 hF=>lw E (qa5 rfl rfl e48) fun a E=>av E rfl fun a E=>wpList_nil<|qaf<|qaf<|qaa<|qac<|mv E rfl fun a E=>?_
  refine lw E (qaA rfl rfl (InR.inc r12 (qal hparts_0) c13)) fun a E=>av E rfl fun a E=>wpList_nil ?_
  cases hF
  exact qar ⟨(ok.pk 2 [1] rfl (by decide)),E.keep [0,1,5,6,7],(qb6 e48),(InR.inc r12 (qal hparts_0) c13)⟩
 refine sg<|fk E ok qay qap rfl 0 rfl rfl fun a E=>lw E (qao rfl rfl) fun a E=>aw E rfl fun a E=>cf E rfl hF (fun c49 hF=>?_) fun c49 hF=>?_
 ·refine qdH (by kernel_rfl) (by kernel_rfl) ok<|qv E (qan rfl) fun a E=>qv E (qaj qaN rfl) fun a E=>qv E (qat qak rfl (qad.own 0 rfl rfl)) fun a E=>bd hF fun s50 e51 hF=>qv E (qa5 rfl rfl e51) fun a E=>bd hF fun s52 e53 hF=>qv E (qa5 rfl rfl e53) fun a E=>qv E (qaj qbR rfl) fun a E=>qv E (qat qbu rfl (qad.own 0 rfl rfl)) fun a E=>qv E (qan rfl) fun a E=>?_
  obtain ⟨r54,e55,hF⟩:=bnd hF
  obtain ⟨_,_,⟨_,_⟩,l56⟩:=Go.X.Calls.get (ih_calqueref26_Text _ x14.Parts h30 gap_1 lgap_1 e55 hG ok)
  refine qcn E qjv rfl (fun w ok=>(ih_calqueref26_Text _ x14.Parts h30 gap_1 lgap_1 e55 hG ok).mono (fun _ _ h=>h.1)) rfl rfl fun a E=>bd hF fun s57 e58 hF=>qv E (qa5 rfl rfl e58) fun a E=>bd hF fun s59 e60 hF=>qv E (qa5 rfl rfl e60) fun a E=>qv E (qaj qaN rfl) fun a E=>qv E (qat qak rfl (qad.own 0 rfl rfl)) fun a E=>bd hF fun s61 e62 hF=>qv E (qa5 rfl rfl e62) fun a E=>bd hF fun s63 e64 hF=>qv E (qa5 rfl rfl e64) fun a E=>bd hF fun s65 e66 hF=>qv E (qa5 rfl rfl e66) fun a E=>qv E (qbx rfl) fun a E=>wpQuiet_nil ?_
  intro w ok
  refine qaf<|qaf<|qaa<|qac<|mv E rfl fun a E=>lw E (qaA rfl rfl (InR.inc r12 (qal hparts_0) c13)) fun a E=>av E rfl fun a E=>wpList_nil ?_
  cases hF
  exact qar ⟨(ok.pk 2 [1] rfl (by decide)),E.keep [0,1,5,6,7],(qb6 e66),(InR.inc r12 (qal hparts_0) c13)⟩
 refine sg<|fk E ok qay qap rfl 0 rfl rfl fun a E=>lw E (qao rfl rfl) fun a E=>aw E rfl fun a E=>cf E rfl hF (fun c67 hF=>?_) fun c67 hF=>?_
 ·refine qac<|mv E rfl fun a E=>fk E ok qaN qak rfl 0 rfl rfl fun a E=>bd hF fun s68 e69 hF=>lw E (qa5 rfl rfl e69) fun a E=>bd hF fun s70 e71 hF=>lw E (qa5 rfl rfl e71) fun a E=>bd hF fun s72 e73 hF=>lw E (qa5 rfl rfl e73) fun a E=>av E rfl fun a E=>wpList_nil<|qaf<|qaf<|qaa<|qac<|mv E rfl fun a E=>?_
  refine lw E (qaA rfl rfl (InR.inc r12 (qal hparts_0) c13)) fun a E=>av E rfl fun a E=>wpList_nil ?_
  cases hF
  exact qar ⟨(ok.pk 2 [1] rfl (by decide)),E.keep [0,1,5,6,7],(qb6 e73),(InR.inc r12 (qal hparts_0) c13)⟩
 refine sg<|fk E ok qay qap rfl 0 rfl rfl fun a E=>lw E (qb2 rfl rfl) fun a E=>mv E rfl fun a E=>bw E 86 hF (fun c74 hF E=>?_) fun c74 hF E=>?_
 ·refine lsq E fun a E=>ls E fun a E=>pf E rfl rfl fun a E=>aw E rfl fun a E=>c_if E rfl (fun h=>by cases h) (fun _=>?_)
  refine wp_skip<|qaf<|qaf<|qaa<|qac<|mv E rfl fun a E=>lw E (qaA rfl rfl (InR.inc r12 (qal hparts_0) c13)) fun a E=>av E rfl fun a E=>wpList_nil ?_
  cases hF
  exact qar ⟨(ok.pk 2 [1] rfl (by decide)),E.keep [0,1,5,6,7],l11,(InR.inc r12 (qal hparts_0) c13)⟩
 refine fk E ok qay qap rfl 0 rfl rfl fun a E=>lw E (qc4 rfl rfl) fun a E=>pt E rfl rfl fun a E=>aw E rfl fun a E=>cg E rfl hF (fun c75 hF=>?_) fun c75 hF=>?_
 ·refine wp_skip<|qaf<|qaf<|qaa<|qac<|mv E rfl fun a E=>lw E (qaA rfl rfl (InR.inc r12 (qal hparts_0) c13)) fun a E=>av E rfl fun a E=>wpList_nil ?_
  cases hF
  exact qar ⟨(ok.pk 2 [1] rfl (by decide)),E.keep [0,1,5,6,7],l11,(InR.inc r12 (qal hparts_0) c13)⟩
 refine wp_seq<|qdH (by kernel_rfl) (by kernel_rfl) ok<|qv E (qan rfl) fun a E=>qv E (qaj qaN rfl) fun a E=>qv E (qat qak rfl (qad.own 0 rfl rfl)) fun a E=>bd hF fun s76 e77 hF=>qv E (qa5 rfl rfl e77) fun a E=>bd hF fun s78 e79 hF=>qv E (qa5 rfl rfl e79) fun a E=>qv E (qan rfl) fun a E=>bd hF fun s80 e81 hF=>qv E (qa5 rfl rfl e81) fun a E=>qv E (qan rfl) fun a E=>qv E (qaj qay rfl) fun a E=>qv E (qat qap rfl (qad.own 0 rfl rfl)) fun a E=>qv E (qes rfl rfl) fun a E=>?_
 obtain ⟨x82,e83,hF⟩:=bnd hF
 obtain ⟨b84,o85,hp86,yy87⟩:=qgp qbn h3 e83 (P:=Tryz.prog) (X:=.tmp 98) (I:=.tmp 101) (kd:=.i64) (qcy E rfl) (qcy E rfl)
 refine qv E (yy87 _ _) fun a E=>?_
 obtain ⟨es88,hl89,rr90,hh91⟩:=qia h3 e83 hp86 (by decide)
 obtain ⟨rfl,l92⟩:=rr90
 refine qv E (qat qak rfl (hh91 _ _ _ 1 rfl)) fun a E=>bd hF fun s93 e94 hF=>qv E (qa5 rfl rfl e94) fun a E=>bd hF fun s95 e96 hF=>qv E (qa5 rfl rfl e96) fun a E=>qv E (qbx rfl) fun a E=>wpQuiet_nil ?_
 intro w ok
 refine qaa<|wp_seq<|sg<|fk E ok qaW qak rfl 0 rfl rfl fun a E=>lw E (qce rfl rfl) fun a E=>wn<|bd hF fun o97 hJ hF=>qaG (Q':=fun e a w=>e = .normal ∧ Ok u m0 ([(b31,oc 82 [vi x14.Kind,vs x14.Text,vs x14.Name,vs x14.Style,c27,c29])] :: M2 :: S) w ∧ Env 154 a [(0,vparts_0),(1,vs gap_1),(5,vs o97),(6,c1),(7,vi v10),(8,vp b31)] ∧ o97.length ≤ LIMS) ?_ ?_
 ·have hF:=hJ
  refine cg E rfl hF (fun c99 hF=>?_) fun c99 hF=>?_
  ·refine wp_skip ?_
   cases hF
   exact ⟨rfl,⟨ok,E.keep [0,1,5,6,7,8],(qb6 e96)⟩⟩
  refine qac<|mz E rfl rfl fun a E=>bd hF fun s100 e101 hF=>lw E (qa5 rfl rfl e101) fun a E=>fk E ok qaW qak rfl 0 rfl rfl fun a E=>bd hF fun s102 e103 hF=>lw E (qa5 rfl rfl e103) fun a E=>bd hF fun s104 e105 hF=>lw E (qa5 rfl rfl e105) fun a E=>av E rfl fun a E=>wpList_nil ?_
  cases hF
  exact ⟨rfl,⟨ok,E.keep [0,1,5,6,7,8],(qb6 e105)⟩⟩
 intro e a w hO
 obtain ⟨rfl,ok,E,l106⟩:=hO
 refine qaa<|wp_seq<|sg<|fk E ok qay qap rfl 0 rfl rfl fun a E=>bd hF fun r107 e108 hF=>lc E qju rfl (qcq N x14.Kind r23 e108 hG ok) fun w ok a E=>wn<|bd hF fun o109 hJ hF=>qaG (Q':=fun e a w=>e = .normal ∧ Ok u m0 ([(b31,oc 82 [vi x14.Kind,vs x14.Text,vs x14.Name,vs x14.Style,c27,c29])] :: M2 :: S) w ∧ Env 154 a [(0,vparts_0),(1,vs gap_1),(5,vs o109),(6,c1),(7,vi v10),(8,vp b31)] ∧ o109.length ≤ LIMS) ?_ ?_
 ·have hF:=hJ
  refine cg E rfl hF (fun c111 hF=>?_) fun c111 hF=>?_
  ·refine wp_skip ?_
   cases hF
   exact ⟨rfl,⟨ok,E.keep [0,1,5,6,7,8],l106⟩⟩
  refine qac<|mv E rfl fun a E=>bd hF fun s112 e113 hF=>lw E (qa5 rfl rfl e113) fun a E=>av E rfl fun a E=>wpList_nil ?_
  cases hF
  exact ⟨rfl,⟨ok,E.keep [0,1,5,6,7,8],(qb6 e113)⟩⟩
 intro e a w hO
 obtain ⟨rfl,ok,E,l114⟩:=hO
 refine qaa<|wp_seq<|sg<|aw E rfl fun a E=>wp_block<|bd hF fun o117 hL hF=>qa9 _ (fun (s:(List UInt8) × Int) a w=>Ok u m0 ([(b31,oc 82 [vi x14.Kind,vs x14.Text,vs x14.Name,vs x14.Style,c27,c29])] :: M2 :: S) w ∧ Env 154 a [(0,vparts_0),(1,vs gap_1),(5,vs s.1),(6,c1),(7,vi v10),(8,vp b31),(9,vi s.2)] ∧ s.1.length ≤ LIMS ∧ InR .i64 s.2) (fun (b:((List UInt8))) e a w=>e = (.exit 3) ∧ Ok u m0 ([(b31,oc 82 [vi x14.Kind,vs x14.Text,vs x14.Name,vs x14.Style,c27,c29])] :: M2 :: S) w ∧ Env 154 a [(0,vparts_0),(1,vs gap_1),(5,vs b),(6,c1),(7,vi v10)] ∧ b.length ≤ LIMS) ?_ ?_ N _ a w hL ⟨ok,E.keep [0,1,5,6,7,8,9],l114,(ir 0)⟩
 rotate_left
 ·intro e a w _ hO
  obtain ⟨rfl,ok,E,l164⟩:=hO
  refine qbm<|qaa<|qac<|mv E rfl fun a E=>bd hF fun s165 e166 hF=>lw E (qa5 rfl rfl e166) fun a E=>av E rfl fun a E=>wpList_nil<|qaf<|qaf<|qaa<|qac<|mv E rfl fun a E=>lw E (qaA rfl rfl (InR.inc r12 (qal hparts_0) c13)) fun a E=>av E rfl fun a E=>wpList_nil ?_
  cases hF
  exact qar ⟨(ok.pk 2 [1] rfl (by decide)),E.keep [0,1,5,6,7],(qb6 e166),(InR.inc r12 (qal hparts_0) c13)⟩
 rintro ⟨v120,v121⟩ a w r ⟨ok,E,l122,r123⟩ hF
 replace hF:qcE (qbG N) N gap_1 x14 v120 v121 = some r:=hF
 unfold qcE at hF
 refine wp_seq<|sg<|mv E rfl fun a E=>fk E ok qa2 qbo rfl 0 rfl rfl fun a E=>lv E ok (qaQ qbr h28 rfl) fun a E=>lw E (qaO rfl rfl) fun a E=>wn<|cg E rfl hF (fun c124 hF=>?_) fun c124 hF=>?_
 ·refine wp_exit<|qaU ?_
  cases hF
  exact so (⟨rfl,⟨ok,E.keep [0,1,5,6,7],l122⟩⟩)
 refine wp_skip<|qaa<|wp_seq<|wp_block<|qdH (by kernel_rfl) (by kernel_rfl) ok<|qv E (qan rfl) fun a E=>qv E (qan rfl) fun a E=>qv E (qaj qa2 rfl) fun a E=>qv E (qat qbo rfl (qad.own 0 rfl rfl)) fun a E=>qv E (qan rfl) fun a E=>?_
 obtain ⟨x125,e126,hF⟩:=bnd hF
 obtain ⟨b127,o128,es129,hl130,rr131,at132,yy133⟩:=ia E 131 132 qbr h28 e126
 obtain ⟨c135,rfl,l134,h136⟩:=rr131
 refine qv E (yy133 _ _) fun a E=>qv E (qaj qda rfl) fun a E=>qv E (qat qak rfl (qad.ro (At.sub 0 1 at132))) fun a E=>bd hF fun s137 e138 hF=>qv E (qa5 rfl rfl e138) fun a E=>qv E (qan rfl) fun a E=>bd hF fun s139 e140 hF=>qv E (qa5 rfl rfl e140) fun a E=>bd hF fun s141 e142 hF=>qv E (qa5 rfl rfl e142) fun a E=>qv E (qaj qa2 rfl) fun a E=>qv E (qat qbo rfl (qad.own 0 rfl rfl)) fun a E=>qv E (qan rfl) fun a E=>?_
 obtain ⟨x143,e144,hF⟩:=bnd hF
 obtain ⟨b145,o146,es147,hl148,rr149,at150,yy151⟩:=ia E 141 142 qbr h28 e144
 obtain ⟨c153,rfl,l152,h154⟩:=rr149
 refine qv E (yy151 _ _) fun a E=>qv E (qaj qeh rfl) fun a E=>qv E (qat qbu rfl (qad.ro (At.sub 1 1 at150))) fun a E=>qv E (qan rfl) fun a E=>?_
 obtain ⟨r155,e156,hF⟩:=bnd hF
 obtain ⟨_,_,⟨_,_⟩,l157⟩:=Go.X.Calls.get (ih_calqueref26_Text _ x143.Parts h154 gap_1 lgap_1 e156 hG ok)
 refine qcn E qjv rfl (fun w ok=>(ih_calqueref26_Text _ x143.Parts h154 gap_1 lgap_1 e156 hG ok).mono (fun _ _ h=>h.1)) rfl rfl fun a E=>bd hF fun s158 e159 hF=>qv E (qa5 rfl rfl e159) fun a E=>bd hF fun s160 e161 hF=>qv E (qa5 rfl rfl e161) fun a E=>bd hF fun s162 e163 hF=>qv E (qa5 rfl rfl e163) fun a E=>qv E (qbx rfl) fun a E=>wpQuiet_nil ?_
 intro w ok
 refine qaf<|qaa<|qac<|mv E rfl fun a E=>lw E (qaA rfl rfl (InR.inc r123 (qal h28) c124)) fun a E=>av E rfl fun a E=>wpList_nil ?_
 cases hF
 exact qar ⟨ok,E.keep [0,1,5,6,7,8,9],(qb6 e163),(InR.inc r123 (qal h28) c124)⟩
theorem qjg:qfc 0:=by
 intro u m0 S w vparts_0 parts_0 hparts_0 gap_1 lgap_1 r hF hG ok
 replace hF:none = some r:=hF
 cases hF
theorem qim (N:Nat):qfc N:=by
 induction N with
 | zero=>exact qjg
 | succ N h=>exact qjm N h
theorem qf8 {u:World} {m0:Mem} {S:Segs} {w:World} (N:Nat) (vparts_0:Value) (parts_0:List (Part)) (hparts_0:(pL 6 qa0) m0 [vparts_0] parts_0) (gap_1:List UInt8) (lgap_1:gap_1.length ≤ LIMS) {r:(List UInt8)} (hF:qbG N parts_0 gap_1 = some r) (hG:Glob u) (ok:Ok u m0 S w) :
 Calls Tryz.prog 47 [vparts_0,vs gap_1].toArray w fun e w'=>(e = .returned (.string (bs r)) ∧ Ok u m0 S w') ∧ r.length ≤ LIMS:=(qim N) vparts_0 parts_0 hparts_0 gap_1 lgap_1 hF hG ok
def qjY (u:World) (m0:Mem) (S:Segs) (r:Bool) (a:Act) (w:World):Prop :=
 Ok u m0 S w ∧ a.defers = [] ∧ RVs Tryz.prog a w [.t 2 (.bool r)]
theorem qj6 (N:Nat) (vparts_0:Value) (parts_0:List (Part)) (hparts_0:(pL 6 qa0) m0 [vparts_0] parts_0) {r:Bool} (hF:qeL N parts_0 = some r) (hG:Glob u) (ok:Ok u m0 S w) :
  Calls Tryz.prog 24 [vparts_0].toArray w fun e w'=>(e = .returned (.bool r) ∧ Ok u m0 S w'):=by
 have hb0:=ok.base
 have le_m0:=Mem.le.refl m0
 unfold qeL at hF
 refine en (qjY u m0 S) r Tryz.func24 rfl rfl rfl (fun _ _ h=>ra h rfl) fun fin a E=>sg<|aw E rfl fun a E=>sg<|mv E rfl fun a E=>bd hF fun r1 e2 hF=>lc E qhp rfl (qjP N _ parts_0 hparts_0 1 (ir 1) false e2 hG ok) fun w ok a E=>mv E rfl fun a E=>qbj r1 (fun c3=>?_) (fun c3=>?_)
 rotate_left
 ·have hF:=qbg c3 hF
  have E:=E.upd 5 c3 rfl
  refine lsz E fun a E=>pf E rfl rfl fun a E=>mv E rfl fun a E=>lsz E fun a E=>pf E rfl rfl fun a E=>aw E rfl fun a E=>wp_ret ?_
  exact fin hF ⟨ok,E.d,rz E rfl⟩
 have hF:=qbh c3 hF
 have E:=E.upd 5 c3 rfl
 refine mv E rfl fun a E=>bd hF fun r4 e5 hF=>qag E qjH rfl (qjW N _ parts_0 hparts_0 _ ([]) qct e5 hG ok) rfl rfl ?_
 rintro _ w ⟨m6,c7,rfl,hle,ok,h8⟩
 have le_m0:=le_m0.trans hle
 have hparts_0:=(mL qai).up hle hparts_0
 refine ⟨_,rfl,fun a E=>?_⟩
 refine lv E ok (qaQ qbn h8 rfl) fun a E=>lw E (qc4 rfl rfl) fun a E=>pt E rfl rfl fun a E=>mv E rfl fun a E=>bw E 11 hF (fun c9 hF E=>?_) fun c9 hF E=>?_
 ·refine lsz E fun a E=>pf E rfl rfl fun a E=>aw E rfl fun a E=>wp_ret ?_
  exact fin hF ⟨(ok).down hb0 le_m0,E.d,rz E rfl⟩
 refine mv E rfl fun a E=>bd hF fun r10 e11 hF=>qag E qjv rfl (qf8 N _ parts_0 hparts_0 ([32]) (show ([32]:List UInt8).length ≤ LIMS by decide) e11 hG ok) rfl rfl ?_
 rintro _ w ⟨⟨rfl,ok⟩,l12⟩
 refine ⟨_,rfl,fun a E=>?_⟩
 refine lw E (qaI Tryz.underlying9 rfl) fun a E=>lw E (qc4 rfl rfl) fun a E=>pt E rfl rfl fun a E=>aw E rfl fun a E=>wp_ret ?_
 exact fin hF ⟨(ok).down hb0 le_m0,E.d,rz E rfl⟩
def qfP (u:World) (m0:Mem) (S:Segs) (r:Bool) (a:Act) (w:World):Prop :=
 Ok u m0 S w ∧ a.defers = [] ∧ RVs Tryz.prog a w [.t 2 (.bool r)]
def qe1 (N:Nat):Prop:=∀ {u:World} {m0:Mem} {S:Segs} {w:World} (vparts_0:Value) (parts_0:List (Part)) (hparts_0:(pL 6 qa0) m0 [vparts_0] parts_0) {r:Bool} (hF:qcj N parts_0 = some r) (hG:Glob u) (ok:Ok u m0 S w),Calls Tryz.prog 25 [vparts_0].toArray w fun e w'=>(e = .returned (.bool r) ∧ Ok u m0 S w')
theorem qiW (N:Nat) (ih_calqueref29_Plain:qe1 N):qe1 (N + 1):=by
 intro u m0 S w vparts_0 parts_0 hparts_0 r hF hG ok
 have hF0:qdD (qcj N) N parts_0 = some r:=hF
 have hF:=hF0
 clear hF0
 unfold qdD at hF
 refine en (qfP u m0 S) r Tryz.func25 rfl rfl rfl (fun _ _ h=>ra h rfl) fun fin a E=>sg<|aw E rfl fun a E=>wp_seq<|sg<|aw E rfl fun a E=>wp_block<|bd hF fun o2 hL hF=>qa9 _ (fun (s:Int) a w=>Ok u m0 (S) w ∧ Env 47 a [(0,vparts_0),(3,vi s)] ∧ InR .i64 s) (fun (b:(Unit ⊕ Bool)) e a w=>(Sum.elim (fun b104=>e = (.exit 0) ∧ Ok u m0 (S) w ∧ Env 47 a []) (fun b105=>e = .ret ∧ qfP u m0 S b105 a w)) b) ?_ ?_ N _ a w hL ⟨ok,E.keep [0,3],(ir 0)⟩
 rotate_left
 ·intro e a w _ hO
  rcases o2 with o2 | o2
  rotate_left
  ·obtain ⟨rfl,hret⟩:=hO
   refine qaq<|qah ?_
   exact fin hF hret
  have hF:=qbV hF
  obtain ⟨rfl,ok,E⟩:=hO
  refine qbm<|qaa<|sg<|aw E rfl fun a E=>wp_ret ?_
  exact fin hF ⟨ok,E.d,rz E rfl⟩
 rintro v4 a w r ⟨ok,E,r5⟩ hF
 replace hF:qdl (qcj N) N parts_0 v4 = some r:=hF
 unfold qdl at hF
 refine wp_seq<|sg<|mz E rfl rfl fun a E=>lv E ok (qaQ qbc hparts_0 rfl) fun a E=>lw E (qaO rfl rfl) fun a E=>wn<|cg E rfl hF (fun c6 hF=>?_) fun c6 hF=>?_
 ·refine wp_exit<|qaU ?_
  cases hF
  exact so (sl ⟨rfl,⟨ok,E.keep []⟩⟩)
 refine wp_skip<|qaa<|wp_seq<|wp_block<|wp_seq<|sg<|mv E rfl fun a E=>mv E rfl fun a E=>?_
 obtain ⟨x7,e8,hF⟩:=bnd hF
 obtain ⟨b9,o10,es11,hl12,rr13,at14,yy15⟩:=ia E 11 12 qbc hparts_0 e8
 obtain ⟨c20,c22,rfl,r16,l17,l18,l19,h21,h23⟩:=(qaK.1 rr13)
 refine lv E ok (yy15 _ _) fun a E=>fv E qay rfl fun a E=>lv E ok (qat qap rfl (qad.ro (At.sub 0 1 at14))) fun a E=>bd hF fun r24 e25 hF=>lc E qju rfl (qcq N x7.Kind r16 e25 hG ok) fun w ok a E=>mv E rfl fun a E=>qbj r24 (fun c26=>?_) (fun c26=>?_)
 ·have hF:=qbh c26 hF
  have E:=E.upd 17 c26 rfl
  refine lsz E fun a E=>lsq E fun a E=>ls E fun a E=>pt E rfl rfl fun a E=>wn<|c_if E rfl (fun _=>?_) (fun h=>by cases h)
  refine sg<|aw E rfl fun a E=>wp_ret<|qah<|qaq<|qah ?_
  cases hF
  exact so (sr ⟨rfl,⟨ok,E.d,rz E rfl⟩⟩)
 have hF:=qbg c26 hF
 have E:=E.upd 17 c26 rfl
 refine mz E rfl rfl fun a E=>?_
 obtain ⟨x27,e28,hF⟩:=bnd hF
 obtain ⟨b29,o30,es31,hl32,rr33,at34,yy35⟩:=ia E 18 19 qbc hparts_0 e28
 obtain ⟨c40,c42,rfl,r36,l37,l38,l39,h41,h43⟩:=(qaK.1 rr33)
 refine lv E ok (yy35 _ _) fun a E=>fv E qbR rfl fun a E=>lv E ok (qat qbu rfl (qad.ro (At.sub 5 1 at34))) fun a E=>bd hF fun r44 e45 hF=>lc E qoE rfl (ih_calqueref29_Plain _ x27.Parts h43 e45 hG ok) fun w ok a E=>lw E (qaT rfl) fun a E=>pf E rfl rfl fun a E=>wn<|cf E rfl hF (fun c46 hF=>?_) fun c46 hF=>?_
 ·refine sg<|aw E rfl fun a E=>wp_ret<|qah<|qaq<|qah ?_
  cases hF
  exact so (sr ⟨rfl,⟨ok,E.d,rz E rfl⟩⟩)
 refine wp_skip<|qaa<|sg<|aw E rfl fun a E=>wp_block<|bd hF fun o48 hL hF=>qa9 _ (fun (s:Int) a w=>Ok u m0 (S) w ∧ Env 47 a [(0,vparts_0),(3,vi v4),(4,vi s)] ∧ InR .i64 s) (fun (b:(Unit ⊕ Bool)) e a w=>(Sum.elim (fun b102=>e = (.exit 2) ∧ Ok u m0 (S) w ∧ Env 47 a [(0,vparts_0),(3,vi v4)]) (fun b103=>e = .ret ∧ qfP u m0 S b103 a w)) b) ?_ ?_ N _ a w hL ⟨ok,E.keep [0,3,4],(ir 0)⟩
 rotate_left
 ·intro e a w _ hO
  rcases o48 with o48 | o48
  rotate_left
  ·have hF:=qjq hF
   obtain ⟨rfl,hret⟩:=hO
   refine qaq<|qaq<|qah ?_
   cases hF
   exact so (sr ⟨rfl,hret⟩)
  have hF:=qbV hF
  obtain ⟨rfl,ok,E⟩:=hO
  refine qbm<|qaf<|qaa<|qac<|mv E rfl fun a E=>lw E (qaA rfl rfl (InR.inc r5 (qal hparts_0) c6)) fun a E=>av E rfl fun a E=>wpList_nil ?_
  cases hF
  exact qar ⟨ok,E.keep [0,3],(InR.inc r5 (qal hparts_0) c6)⟩
 rintro v50 a w r ⟨ok,E,r51⟩ hF
 replace hF:qdk (qcj N) N parts_0 v4 v50 = some r:=hF
 unfold qdk at hF
 refine wp_seq<|sg<|mz E rfl rfl fun a E=>mv E rfl fun a E=>?_
 obtain ⟨x52,e53,hF⟩:=bnd hF
 obtain ⟨b54,o55,es56,hl57,rr58,at59,yy60⟩:=ia E 27 28 qbc hparts_0 e53
 obtain ⟨c65,c67,rfl,r61,l62,l63,l64,h66,h68⟩:=(qaK.1 rr58)
 refine lv E ok (yy60 _ _) fun a E=>fv E qa2 rfl fun a E=>lv E ok (qat qbo rfl (qad.ro (At.sub 4 1 at59))) fun a E=>lv E ok (qaQ qbr h66 rfl) fun a E=>lw E (qaO rfl rfl) fun a E=>wn<|cg E rfl hF (fun c69 hF=>?_) fun c69 hF=>?_
 ·refine wp_exit<|qaU ?_
  cases hF
  exact so (sl ⟨rfl,⟨ok,E.keep [0,3]⟩⟩)
 refine wp_skip<|qaa<|wp_seq<|wp_block<|sg<|mz E rfl rfl fun a E=>?_
 obtain ⟨x70,e71,hF⟩:=bnd hF
 obtain ⟨b72,o73,es74,hl75,rr76,at77,yy78⟩:=ia E 36 37 qbc hparts_0 e71
 obtain ⟨c83,c85,rfl,r79,l80,l81,l82,h84,h86⟩:=(qaK.1 rr76)
 refine lv E ok (yy78 _ _) fun a E=>fv E qa2 rfl fun a E=>lv E ok (qat qbo rfl (qad.ro (At.sub 4 1 at77))) fun a E=>mv E rfl fun a E=>?_
 obtain ⟨x87,e88,hF⟩:=bnd hF
 obtain ⟨b89,o90,es91,hl92,rr93,at94,yy95⟩:=ia E 40 41 qbr h84 e88
 obtain ⟨c97,rfl,l96,h98⟩:=rr93
 refine lv E ok (yy95 _ _) fun a E=>fv E qeh rfl fun a E=>lv E ok (qat qbu rfl (qad.ro (At.sub 1 1 at94))) fun a E=>bd hF fun r99 e100 hF=>lc E qoE rfl (ih_calqueref29_Plain _ x87.Parts h98 e100 hG ok) fun w ok a E=>lw E (qaT rfl) fun a E=>wn<|cg E rfl hF (fun c101 hF=>?_) fun c101 hF=>?_
 ·refine wp_skip<|qaf<|qaa<|qac<|mv E rfl fun a E=>lw E (qaA rfl rfl (InR.inc r51 (qal h66) c69)) fun a E=>av E rfl fun a E=>wpList_nil ?_
  cases hF
  exact qar ⟨ok,E.keep [0,3,4],(InR.inc r51 (qal h66) c69)⟩
 refine sg<|aw E rfl fun a E=>wp_ret<|qaq<|qah ?_
 cases hF
 exact so (sr ⟨rfl,⟨ok,E.d,rz E rfl⟩⟩)
theorem qi4:qe1 0:=by
 intro u m0 S w vparts_0 parts_0 hparts_0 r hF hG ok
 replace hF:none = some r:=hF
 cases hF
theorem qhW (N:Nat):qe1 N:=by
 induction N with
 | zero=>exact qi4
 | succ N h=>exact qiW N h
theorem qkb {u:World} {m0:Mem} {S:Segs} {w:World} (N:Nat) (vparts_0:Value) (parts_0:List (Part)) (hparts_0:(pL 6 qa0) m0 [vparts_0] parts_0) {r:Bool} (hF:qcj N parts_0 = some r) (hG:Glob u) (ok:Ok u m0 S w) :
 Calls Tryz.prog 25 [vparts_0].toArray w fun e w'=>(e = .returned (.bool r) ∧ Ok u m0 S w'):=(qhW N) vparts_0 parts_0 hparts_0 hF hG ok
end Go.Proofs.YtllnjbnknjpbjaaGreatDoor
namespace Go.Proofs.YtllnjbnknjpbjaaGreatDoor
open Go.X
variable {u:World} {m0:Mem} {S:Segs} {w:World}
set_option maxHeartbeats 4000000
set_option maxRecDepth 100000
def qgB:Rp Position:=fun _ cs x=>cs = [.int .i64 x.Offset,.int .i64 x.Line,.int .i64 x.Column] ∧ InR .i64 x.Offset ∧ InR .i64 x.Line ∧ InR .i64 x.Column
def qaV:Rp Token:=fun _ cs x=>cs = [.int .i64 x.Kind,.string (bs x.Text),.int .i64 x.From,.int .i64 x.To] ∧ InR .i64 x.Kind ∧ x.Text.length ≤ LIMS ∧ InR .i64 x.From ∧ InR .i64 x.To
theorem qab:Mono qaV:=⟨fun _ h=>by
 obtain ⟨e,h0,h1,h2,h3⟩:=h
 exact ⟨e,h0,h1,h2,h3⟩,fun h=>by
 obtain ⟨rfl,h0,h1,h2,h3⟩:=h
 exact ⟨rfl,rfl,rfl,rfl,trivial⟩⟩
theorem qbd:aggB Tryz.prog 137 4 = true:=by kernel_rfl
theorem qfs:aggB Tryz.prog 52 3 = true:=by kernel_rfl
theorem qiz:qbb Tryz.prog 121 0 0 = true:=by kernel_rfl
theorem qm3:qbb Tryz.prog 121 1 1 = true:=by kernel_rfl
theorem qjK:qbb Tryz.prog 121 2 2 = true:=by kernel_rfl
theorem qlg:qbb Tryz.prog 121 3 3 = true:=by kernel_rfl
theorem qd0:qbb Tryz.prog 121 4 4 = true:=by kernel_rfl
theorem qcT:qbb Tryz.prog 137 0 0 = true:=by kernel_rfl
theorem qfA:qbb Tryz.prog 137 1 1 = true:=by kernel_rfl
theorem qnh:qbb Tryz.prog 137 3 3 = true:=by kernel_rfl
theorem qib:qbb Tryz.prog 52 0 0 = true:=by kernel_rfl
theorem qn1:qbb Tryz.prog 52 1 1 = true:=by kernel_rfl
theorem qmg:qbb Tryz.prog 52 2 2 = true:=by kernel_rfl
theorem qrn:goB Tryz.prog 106 = true:=by kernel_rfl
theorem qrI:goB Tryz.prog 107 = true:=by kernel_rfl
theorem qoR:goB Tryz.prog 108 = true:=by kernel_rfl
theorem qq9:goB Tryz.prog 109 = true:=by kernel_rfl
theorem qq6:goB Tryz.prog 110 = true:=by kernel_rfl
theorem qnq:goB Tryz.prog 111 = true:=by kernel_rfl
theorem qni:goB Tryz.prog 112 = true:=by kernel_rfl
theorem qcV:goB Tryz.prog 130 = true:=by kernel_rfl
theorem qrK:goB Tryz.prog 131 = true:=by kernel_rfl
theorem qhB:goB Tryz.prog 132 = true:=by kernel_rfl
theorem qrP:goB Tryz.prog 48 = true:=by kernel_rfl
theorem qse:goB Tryz.prog 63 = true:=by kernel_rfl
theorem qjJ:goB Tryz.prog 64 = true:=by kernel_rfl
theorem qgh:goB Tryz.prog 65 = true:=by kernel_rfl
theorem qqi:goB Tryz.prog 66 = true:=by kernel_rfl
theorem qsb:goB Tryz.prog 81 = true:=by kernel_rfl
theorem qqr:goB Tryz.prog 82 = true:=by kernel_rfl
theorem qqf:goB Tryz.prog 83 = true:=by kernel_rfl
theorem qdR:goB Tryz.prog 84 = true:=by kernel_rfl
theorem qsf:goB Tryz.prog 85 = true:=by kernel_rfl
theorem qdb:goB Tryz.prog 86 = true:=by kernel_rfl
theorem qlB:goB Tryz.prog 87 = true:=by kernel_rfl
theorem qqh:goB Tryz.prog 88 = true:=by kernel_rfl
theorem qr7:goB Tryz.prog 89 = true:=by kernel_rfl
theorem qqV:∃ i,Tryz.prog.info? 116 = some i ∧ i.size = 1:=⟨_,rfl,by kernel_rfl⟩
theorem qaZ:∃ i,Tryz.prog.info? 137 = some i ∧ i.size = 4:=⟨_,rfl,by kernel_rfl⟩
theorem qpg:∃ i,Tryz.prog.info? 22 = some i ∧ i.size = 1:=⟨_,rfl,by kernel_rfl⟩
theorem qru:∃ i,Tryz.prog.info? 29 = some i ∧ i.size = 1:=⟨_,rfl,by kernel_rfl⟩
theorem qfl:∃ i,Tryz.prog.info? 52 = some i ∧ i.size = 3:=⟨_,rfl,by kernel_rfl⟩
theorem qlM:∃ i,Tryz.prog.info? 80 = some i ∧ i.size = 1:=⟨_,rfl,by kernel_rfl⟩
theorem qk1:oneB Tryz.prog 116 = true:=by kernel_rfl
theorem qfw:oneB Tryz.prog 29 = true:=by kernel_rfl
theorem qoe:qey Tryz.prog 121 = some [(0,1),(1,1),(2,1),(3,1),(4,1)]:=by kernel_rfl
theorem qaR:qey Tryz.prog 137 = some [(0,1),(1,1),(2,1),(3,1)]:=by kernel_rfl
theorem qga:qey Tryz.prog 52 = some [(0,1),(1,1),(2,1)]:=by kernel_rfl
theorem qiP:qey Tryz.prog 85 = some [(0,1),(1,1)]:=by kernel_rfl
theorem qhC:SlT Tryz.prog 116 137 4:=SlT.of (by kernel_rfl)
theorem qpY:qcY Tryz.prog 121 = some [(Value.slice none 0 0),vi 0,(Value.slice none 0 0),vi 0,vi 0]:=by kernel_rfl
theorem qaL:qcY Tryz.prog 137 = some [vi 0,(vs ([])),vi 0,vi 0]:=by kernel_rfl
theorem qeA:qcY Tryz.prog 52 = some [vi 0,vi 0,vi 0]:=by kernel_rfl
def qka (u:World) (m0:Mem) (S:Segs) (r:Bool) (a:Act) (w:World):Prop :=
 Ok u m0 S w ∧ a.defers = [] ∧ RVs Tryz.prog a w [.t 2 (.bool r)]
theorem qj8 (N:Nat) (c_0:Int) (rc_0:InR .u8 c_0) {r:Bool} (hF:qgo N c_0 = some r) (hG:Glob u) (ok:Ok u m0 S w) :
  Calls Tryz.prog 81 [Value.int .u8 c_0].toArray w fun e w'=>(e = .returned (.bool r) ∧ Ok u m0 S w'):=by
 unfold qgo at hF
 refine en (qka u m0 S) r Tryz.func81 rfl rfl rfl (fun _ _ h=>ra h rfl) fun fin a E=>sg<|aw E rfl fun a E=>sg<|mv E rfl fun a E=>lw E (qao rfl rfl) fun a E=>mv E rfl fun a E=>bu E 5 hF (fun c1 hF E=>?_) fun c1 hF E=>?_
 ·refine lsq E fun a E=>pt E rfl rfl fun a E=>mv E rfl fun a E=>lsq E fun a E=>pt E rfl rfl fun a E=>av E rfl fun a E=>wn<|wp_ret ?_
  exact fin hF ⟨ok,E.d,rz E rfl⟩
 refine mv E rfl fun a E=>lw E (qao rfl rfl) fun a E=>pf E rfl rfl fun a E=>mv E rfl fun a E=>bu E 9 hF (fun c2 hF E=>?_) fun c2 hF E=>?_
 ·refine lsq E fun a E=>pt E rfl rfl fun a E=>aw E rfl fun a E=>wp_ret ?_
  exact fin hF ⟨ok,E.d,rz E rfl⟩
 refine mv E rfl fun a E=>lw E (qao rfl rfl) fun a E=>pf E rfl rfl fun a E=>aw E rfl fun a E=>wp_ret ?_
 exact fin hF ⟨ok,E.d,rz E rfl⟩
def qke (u:World) (m0:Mem) (S:Segs) (r:Bool) (a:Act) (w:World):Prop :=
 Ok u m0 S w ∧ a.defers = [] ∧ RVs Tryz.prog a w [.t 2 (.bool r)]
theorem qjZ (N:Nat) (c_0:Int) (rc_0:InR .u8 c_0) {r:Bool} (hF:qgj N c_0 = some r) (hG:Glob u) (ok:Ok u m0 S w) :
  Calls Tryz.prog 106 [Value.int .u8 c_0].toArray w fun e w'=>(e = .returned (.bool r) ∧ Ok u m0 S w'):=by
 unfold qgj at hF
 refine en (qke u m0 S) r Tryz.func106 rfl rfl rfl (fun _ _ h=>ra h rfl) fun fin a E=>sg<|aw E rfl fun a E=>sg<|mv E rfl fun a E=>bd hF fun r1 e2 hF=>lc E qmP rfl (qeY N c_0 rc_0 e2 hG ok) fun w ok a E=>mv E rfl fun a E=>qbj r1 (fun c3=>?_) (fun c3=>?_)
 ·have hF:=qbh c3 hF
  have E:=E.upd 5 c3 rfl
  refine lsq E fun a E=>pt E rfl rfl fun a E=>mv E rfl fun a E=>lsq E fun a E=>pt E rfl rfl fun a E=>av E rfl fun a E=>wn<|wp_ret ?_
  exact fin hF ⟨ok,E.d,rz E rfl⟩
 have hF:=qbg c3 hF
 have E:=E.upd 5 c3 rfl
 refine mv E rfl fun a E=>lw E (qao rfl rfl) fun a E=>pf E rfl rfl fun a E=>mv E rfl fun a E=>bu E 9 hF (fun c4 hF E=>?_) fun c4 hF E=>?_
 ·refine lsq E fun a E=>pt E rfl rfl fun a E=>aw E rfl fun a E=>wp_ret ?_
  exact fin hF ⟨ok,E.d,rz E rfl⟩
 refine mv E rfl fun a E=>lw E (qao rfl rfl) fun a E=>pf E rfl rfl fun a E=>aw E rfl fun a E=>wp_ret ?_
 exact fin hF ⟨ok,E.d,rz E rfl⟩
def qjC (u:World) (m0:Mem) (S:Segs) (r:Token) (a:Act) (w:World):Prop :=
 ∃ m1 v0,m0.le m1 ∧ Ok u m1 S w ∧ a.defers = [] ∧ RVs Tryz.prog a w [.c 4 137 (.agg v0.toArray)] ∧ qaV m1 v0 r
theorem qgQ (N:Nat) (s_0:List UInt8) (ls_0:s_0.length ≤ LIMS) (at_1:Int) (rat_1:InR .i64 at_1) {r:Token} (hF:qfh N s_0 at_1 = some r) (hG:Glob u) (ok:Ok u m0 S w) :
  Calls Tryz.prog 82 [vs s_0,vi at_1].toArray w fun e w'=>∃ m1 v0,e = .returned (.agg v0.toArray) ∧ m0.le m1 ∧ Ok u m1 S w' ∧ qaV m1 v0 r:=by
 have le_m0:=Mem.le.refl m0
 unfold qfh at hF
 refine en (qjC u m0 S) r Tryz.func82 rfl rfl rfl (by rintro a w ⟨m1,v0,hle,ok,hd,hrv,h0⟩; exact qbO [.c 4 137 (.agg v0.toArray)] hd rfl hrv ⟨m1,v0,rfl,hle,ok,h0⟩) fun fin a E=>sg<|qa4 E ok qaL rfl rfl fun b1 a w E ok=>wn<|sg<|mv E rfl fun a E=>aw E rfl fun a E=>wp_seq<|wp_block<|bd hF fun o3 hL hF=>qa9 _ (fun (s:Int) a w=>Ok u m0 ([(b1,oc 137 [vi 0,(vs ([])),vi 0,vi 0])] :: S) w ∧ Env 58 a [(0,vs s_0),(1,vi at_1),(4,vp b1),(5,vi s)] ∧ InR .i64 s) (fun (b:Int) e a w=>e = (.exit 0) ∧ Ok u m0 ([(b1,oc 137 [vi 0,(vs ([])),vi 0,vi 0])] :: S) w ∧ Env 58 a [(0,vs s_0),(1,vi at_1),(4,vp b1),(5,vi b)] ∧ InR .i64 b) ?_ ?_ N _ a w hL ⟨ok,E.keep [0,1,4,5],rat_1⟩
 ·rintro v5 a w r ⟨ok,E,r6⟩ hF
  replace hF:qfr N s_0 v5 = some r:=hF
  unfold qfr at hF
  refine wp_seq<|sg<|mz E rfl rfl fun a E=>lw E (qaI Tryz.underlying9 rfl) fun a E=>lw E (qaO rfl rfl) fun a E=>mv E rfl fun a E=>bw E 11 hF (fun c7 hF E=>?_) fun c7 hF E=>?_
  ·refine lsz E fun a E=>pf E rfl rfl fun a E=>wn<|c_if E rfl (fun h=>by cases h) (fun _=>?_)
   refine wp_exit<|qaU ?_
   cases hF
   exact so (⟨rfl,⟨ok,E.keep [0,1,4,5],r6⟩⟩)
  refine mz E rfl rfl fun a E=>bd hF fun c8 e9 hF=>lv E ok (qaH Tryz.underlying9 rfl rfl e9) fun a E=>bd hF fun r10 e11 hF=>lc E qrn rfl (qjZ N (c8.toNat:Int) (InR.byte c8) e11 hG ok) fun w ok a E=>pt E rfl rfl fun a E=>wn<|cg E rfl hF (fun c12 hF=>?_) fun c12 hF=>?_
  ·refine wp_exit<|qaU ?_
   cases hF
   exact so (⟨rfl,⟨ok,E.keep [0,1,4,5],r6⟩⟩)
  refine wp_skip<|qaa<|wp_block<|qac<|mv E rfl fun a E=>lw E (qaA rfl rfl (InR.inc r6 (InR.len ls_0) c7)) fun a E=>av E rfl fun a E=>wpList_nil<|qaf ?_
  cases hF
  exact qar ⟨ok,E.keep [0,1,4,5],(InR.inc r6 (InR.len ls_0) c7)⟩
 intro e a w _ hO
 obtain ⟨rfl,ok,E,r13⟩:=hO
 refine qbm<|qaa<|wp_seq<|wp_block<|sg<|mz E rfl rfl fun a E=>lw E (qbk rfl rfl) fun a E=>aw E rfl fun a E=>cf E rfl hF (fun c14 hF=>?_) fun c14 hF=>?_
 ·refine sg<|mz E rfl rfl fun a E=>mv E rfl fun a E=>bd hF fun s15 e16 hF=>lw E (qdZ Tryz.underlying9 e16 rfl ⟨_,rfl⟩ ⟨_,rfl⟩) fun a E=>mz E rfl rfl fun a E=>lw E (qau (ps:=[(0,.const (vi 9)),(1,.tmp 26),(2,.tmp 27),(3,.tmp 28)]) (qs:=[(0,[vi 9]),(1,[vs s15]),(2,[vi at_1]),(3,[vi o3])]) (cs:=[vi 9,vs s15,vi at_1,vi o3]) qaL qaR rfl ⟨rfl,rfl,rfl,⟨rfl,rfl,rfl,⟨rfl,rfl,rfl,⟨rfl,rfl,rfl,trivial⟩⟩⟩⟩ rfl) fun a E=>qae E ok 0 rfl rfl rfl qaZ rfl rfl ⟨rfl,rfl,rfl,rfl,trivial⟩ rfl rfl fun w ok=>wn<|wp_ret<|qaq<|qah ?_
  exact fin hF ⟨m0,[vi 9,vs s15,vi at_1,vi o3],le_m0,ok.drop,E.d,⟨rv_c (cs:=[vi 9,vs s15,vi at_1,vi o3]) E ok rfl qbd rfl (qad.own 0 rfl rfl),trivial⟩,⟨rfl,(ir 9),(Nat.le_trans (qcL e16) ls_0),rat_1,r13⟩⟩
 refine sg<|mz E rfl rfl fun a E=>bd hF fun c17 e18 hF=>lv E ok (qaH Tryz.underlying9 rfl rfl e18) fun a E=>lw E (qao rfl rfl) fun a E=>aw E rfl fun a E=>cf E rfl hF (fun c19 hF=>?_) fun c19 hF=>?_
 ·refine sg<|mz E rfl rfl fun a E=>lw E (qaM rfl rfl) fun a E=>lw E (qau (ps:=[(0,.const (vi 2)),(1,.const (vs ([123]))),(2,.tmp 35),(3,.tmp 37)]) (qs:=[(0,[vi 2]),(1,[(vs ([123]))]),(2,[vi at_1]),(3,[(vi (IntKind.wrap .i64 (at_1 + 1)))])]) (cs:=[vi 2,(vs ([123])),vi at_1,(vi (IntKind.wrap .i64 (at_1 + 1)))]) qaL qaR rfl ⟨rfl,rfl,rfl,⟨rfl,rfl,rfl,⟨rfl,rfl,rfl,⟨rfl,rfl,rfl,trivial⟩⟩⟩⟩ rfl) fun a E=>qae E ok 0 rfl rfl rfl qaZ rfl rfl ⟨rfl,rfl,rfl,rfl,trivial⟩ rfl rfl fun w ok=>wn<|wp_ret<|qaq<|qah ?_
  exact fin hF ⟨m0,[vi 2,(vs ([123])),vi at_1,(vi (IntKind.wrap .i64 (at_1 + 1)))],le_m0,ok.drop,E.d,⟨rv_c (cs:=[vi 2,(vs ([123])),vi at_1,(vi (IntKind.wrap .i64 (at_1 + 1)))]) E ok rfl qbd rfl (qad.own 0 rfl rfl),trivial⟩,⟨rfl,(ir 2),(show ([123]:List UInt8).length ≤ LIMS by decide),rat_1,(InR.wrap _ _)⟩⟩
 refine sg<|mz E rfl rfl fun a E=>bd hF fun c20 e21 hF=>lv E ok (qaH Tryz.underlying9 rfl rfl e21) fun a E=>lw E (qao rfl rfl) fun a E=>aw E rfl fun a E=>cf E rfl hF (fun c22 hF=>?_) fun c22 hF=>?_
 ·refine sg<|mz E rfl rfl fun a E=>lw E (qaM rfl rfl) fun a E=>lw E (qau (ps:=[(0,.const (vi 3)),(1,.const (vs ([125]))),(2,.tmp 44),(3,.tmp 46)]) (qs:=[(0,[vi 3]),(1,[(vs ([125]))]),(2,[vi at_1]),(3,[(vi (IntKind.wrap .i64 (at_1 + 1)))])]) (cs:=[vi 3,(vs ([125])),vi at_1,(vi (IntKind.wrap .i64 (at_1 + 1)))]) qaL qaR rfl ⟨rfl,rfl,rfl,⟨rfl,rfl,rfl,⟨rfl,rfl,rfl,⟨rfl,rfl,rfl,trivial⟩⟩⟩⟩ rfl) fun a E=>qae E ok 0 rfl rfl rfl qaZ rfl rfl ⟨rfl,rfl,rfl,rfl,trivial⟩ rfl rfl fun w ok=>wn<|wp_ret<|qaq<|qah ?_
  exact fin hF ⟨m0,[vi 3,(vs ([125])),vi at_1,(vi (IntKind.wrap .i64 (at_1 + 1)))],le_m0,ok.drop,E.d,⟨rv_c (cs:=[vi 3,(vs ([125])),vi at_1,(vi (IntKind.wrap .i64 (at_1 + 1)))]) E ok rfl qbd rfl (qad.own 0 rfl rfl),trivial⟩,⟨rfl,(ir 3),(show ([125]:List UInt8).length ≤ LIMS by decide),rat_1,(InR.wrap _ _)⟩⟩
 refine sg<|mz E rfl rfl fun a E=>bd hF fun c23 e24 hF=>lv E ok (qaH Tryz.underlying9 rfl rfl e24) fun a E=>lw E (qao rfl rfl) fun a E=>aw E rfl fun a E=>cg E rfl hF (fun c25 hF=>?_) fun c25 hF=>?_
 ·refine wp_skip<|qaf<|qaa<|sg<|lw E (qau (ps:=[]) (qs:=[]) (cs:=[vi 0,(vs ([])),vi 0,vi 0]) qaL qaR rfl trivial rfl) fun a E=>qae E ok 0 rfl rfl rfl qaZ rfl rfl ⟨rfl,rfl,rfl,rfl,trivial⟩ rfl rfl fun w ok=>wn<|wp_ret ?_
  exact fin hF ⟨m0,[vi 0,(vs ([])),vi 0,vi 0],le_m0,ok.drop,E.d,⟨rv_c (cs:=[vi 0,(vs ([])),vi 0,vi 0]) E ok rfl qbd rfl (qad.own 0 rfl rfl),trivial⟩,⟨rfl,(ir 0),(Nat.zero_le _),(ir 0),(ir 0)⟩⟩
 refine sg<|mz E rfl rfl fun a E=>lw E (qaM rfl rfl) fun a E=>lw E (qau (ps:=[(0,.const (vi 8)),(1,.const (vs ([44]))),(2,.tmp 53),(3,.tmp 55)]) (qs:=[(0,[vi 8]),(1,[(vs ([44]))]),(2,[vi at_1]),(3,[(vi (IntKind.wrap .i64 (at_1 + 1)))])]) (cs:=[vi 8,(vs ([44])),vi at_1,(vi (IntKind.wrap .i64 (at_1 + 1)))]) qaL qaR rfl ⟨rfl,rfl,rfl,⟨rfl,rfl,rfl,⟨rfl,rfl,rfl,⟨rfl,rfl,rfl,trivial⟩⟩⟩⟩ rfl) fun a E=>qae E ok 0 rfl rfl rfl qaZ rfl rfl ⟨rfl,rfl,rfl,rfl,trivial⟩ rfl rfl fun w ok=>wn<|wp_ret<|qaq<|qah ?_
 exact fin hF ⟨m0,[vi 8,(vs ([44])),vi at_1,(vi (IntKind.wrap .i64 (at_1 + 1)))],le_m0,ok.drop,E.d,⟨rv_c (cs:=[vi 8,(vs ([44])),vi at_1,(vi (IntKind.wrap .i64 (at_1 + 1)))]) E ok rfl qbd rfl (qad.own 0 rfl rfl),trivial⟩,⟨rfl,(ir 8),(show ([44]:List UInt8).length ≤ LIMS by decide),rat_1,(InR.wrap _ _)⟩⟩
def qhA (u:World) (m0:Mem) (S:Segs) (r:Int) (a:Act) (w:World):Prop :=
 Ok u m0 S w ∧ a.defers = [] ∧ RVs Tryz.prog a w [.t 4 (.int .i64 r)] ∧ InR .i64 r
theorem qkP (N:Nat) (s_0:List UInt8) (ls_0:s_0.length ≤ LIMS) (at_1:Int) (rat_1:InR .i64 at_1) {r:Int} (hF:qgz N s_0 at_1 = some r) (hG:Glob u) (ok:Ok u m0 S w) :
  Calls Tryz.prog 107 [vs s_0,vi at_1].toArray w fun e w'=>(e = .returned (.int .i64 r) ∧ Ok u m0 S w') ∧ InR .i64 r:=by
 unfold qgz at hF
 refine en (qhA u m0 S) r Tryz.func107 rfl rfl rfl (fun _ _ h=>rb h rfl) fun fin a E=>sg<|aw E rfl fun a E=>wp_seq<|wp_block<|bd hF fun o2 hL hF=>qa9 _ (fun (s:Int) a w=>Ok u m0 (S) w ∧ Env 40 a [(0,vs s_0),(1,vi s)] ∧ InR .i64 s) (fun (b:(Int ⊕ Int)) e a w=>(Sum.elim (fun b32=>e = (.exit 0) ∧ Ok u m0 (S) w ∧ Env 40 a [(1,vi b32)] ∧ InR .i64 b32) (fun b34=>e = .ret ∧ qhA u m0 S b34 a w)) b) ?_ ?_ N _ a w hL ⟨ok,E.keep [0,1],rat_1⟩
 rotate_left
 ·intro e a w _ hO
  rcases o2 with o2 | o2
  rotate_left
  ·obtain ⟨rfl,hret⟩:=hO
   refine qaq<|qah ?_
   exact fin hF hret
  have hF:=qbV hF
  obtain ⟨rfl,ok,E,r31⟩:=hO
  refine qbm<|qaa<|sg<|mv E rfl fun a E=>aw E rfl fun a E=>wp_ret ?_
  exact fin hF ⟨ok,E.d,rz E rfl,r31⟩
 rintro v4 a w r ⟨ok,E,r5⟩ hF
 replace hF:qfU N s_0 v4 = some r:=hF
 unfold qfU at hF
 refine wp_seq<|sg<|mz E rfl rfl fun a E=>lw E (qaI Tryz.underlying9 rfl) fun a E=>lw E (qaO rfl rfl) fun a E=>wn<|cg E rfl hF (fun c6 hF=>?_) fun c6 hF=>?_
 ·refine wp_exit<|qaU ?_
  cases hF
  exact so (sl ⟨rfl,⟨ok,E.keep [1],r5⟩⟩)
 refine wp_skip<|qaa<|wp_block<|wp_block<|sg<|mz E rfl rfl fun a E=>bd hF fun c7 e8 hF=>lv E ok (qaH Tryz.underlying9 rfl rfl e8) fun a E=>lw E (qao rfl rfl) fun a E=>mv E rfl fun a E=>bw E 15 hF (fun c9 hF E=>?_) fun c9 hF E=>?_
 ·refine lsz E fun a E=>ls E fun a E=>pf E rfl rfl fun a E=>mv E rfl fun a E=>lsz E fun a E=>ls E fun a E=>pf E rfl rfl fun a E=>aw E rfl fun a E=>c_if E rfl (fun h=>by cases h) (fun _=>?_)
  refine sg<|mz E rfl rfl fun a E=>bd hF fun c26 e27 hF=>lv E ok (qaH Tryz.underlying9 rfl rfl e27) fun a E=>bd hF fun r28 e29 hF=>lc E qh7 rfl (qbZ N (c26.toNat:Int) (InR.byte c26) e29 hG ok) fun w ok a E=>lw E (qaT rfl) fun a E=>aw E rfl fun a E=>cf E rfl hF (fun c30 hF=>?_) fun c30 hF=>?_
  ·refine qac<|mv E rfl fun a E=>lw E (qaA rfl rfl (InR.inc r5 (InR.len ls_0) c6)) fun a E=>av E rfl fun a E=>wpList_nil<|qaf<|qaf ?_
   cases hF
   exact qar ⟨ok,E.keep [0,1],(InR.inc r5 (InR.len ls_0) c6)⟩
  refine sg<|mv E rfl fun a E=>aw E rfl fun a E=>wp_ret<|qaq<|qaq ?_
  cases hF
  exact so (sr ⟨rfl,⟨ok,E.d,rz E rfl,r5⟩⟩)
 refine mv E rfl fun a E=>lw E (qaA rfl rfl (InR.inc r5 (InR.len ls_0) c6)) fun a E=>mv E rfl fun a E=>lw E (qaI Tryz.underlying9 rfl) fun a E=>lw E (qaO rfl rfl) fun a E=>pt E rfl rfl fun a E=>mv E rfl fun a E=>bw E 22 hF (fun c10 hF E=>?_) fun c10 hF E=>?_
 ·refine lsz E fun a E=>ls E fun a E=>pf E rfl rfl fun a E=>av E rfl fun a E=>wn<|c_if E rfl (fun h=>by cases h) (fun _=>?_)
  refine sg<|mz E rfl rfl fun a E=>bd hF fun c21 e22 hF=>lv E ok (qaH Tryz.underlying9 rfl rfl e22) fun a E=>bd hF fun r23 e24 hF=>lc E qh7 rfl (qbZ N (c21.toNat:Int) (InR.byte c21) e24 hG ok) fun w ok a E=>lw E (qaT rfl) fun a E=>aw E rfl fun a E=>cf E rfl hF (fun c25 hF=>?_) fun c25 hF=>?_
  ·refine qac<|mv E rfl fun a E=>lw E (qaA rfl rfl (InR.inc r5 (InR.len ls_0) c6)) fun a E=>av E rfl fun a E=>wpList_nil<|qaf<|qaf ?_
   cases hF
   exact qar ⟨ok,E.keep [0,1],(InR.inc r5 (InR.len ls_0) c6)⟩
  refine sg<|mv E rfl fun a E=>aw E rfl fun a E=>wp_ret<|qaq<|qaq ?_
  cases hF
  exact so (sr ⟨rfl,⟨ok,E.d,rz E rfl,r5⟩⟩)
 refine mz E rfl rfl fun a E=>lw E (qaA rfl rfl (InR.inc r5 (InR.len ls_0) c6)) fun a E=>bd hF fun c11 e12 hF=>lv E ok (qaH Tryz.underlying9 rfl rfl e12) fun a E=>bd hF fun r13 e14 hF=>lc E qh7 rfl (qbZ N (c11.toNat:Int) (InR.byte c11) e14 hG ok) fun w ok a E=>pt E rfl rfl fun a E=>aw E rfl fun a E=>cf E rfl hF (fun c15 hF=>?_) fun c15 hF=>?_
 ·refine qac<|mv E rfl fun a E=>lw E (qaM rfl rfl) fun a E=>av E rfl fun a E=>wpList_nil<|qaf<|qaf ?_
  cases hF
  exact qar ⟨ok,E.keep [0,1],(InR.wrap _ _)⟩
 refine sg<|mz E rfl rfl fun a E=>bd hF fun c16 e17 hF=>lv E ok (qaH Tryz.underlying9 rfl rfl e17) fun a E=>bd hF fun r18 e19 hF=>lc E qh7 rfl (qbZ N (c16.toNat:Int) (InR.byte c16) e19 hG ok) fun w ok a E=>lw E (qaT rfl) fun a E=>aw E rfl fun a E=>cf E rfl hF (fun c20 hF=>?_) fun c20 hF=>?_
 ·refine qac<|mv E rfl fun a E=>lw E (qaA rfl rfl (InR.inc r5 (InR.len ls_0) c6)) fun a E=>av E rfl fun a E=>wpList_nil<|qaf<|qaf ?_
  cases hF
  exact qar ⟨ok,E.keep [0,1],(InR.inc r5 (InR.len ls_0) c6)⟩
 refine sg<|mv E rfl fun a E=>aw E rfl fun a E=>wp_ret<|qaq<|qaq ?_
 cases hF
 exact so (sr ⟨rfl,⟨ok,E.d,rz E rfl,r5⟩⟩)
def qkw (u:World) (m0:Mem) (S:Segs) (r:Token) (a:Act) (w:World):Prop :=
 ∃ m1 v0,m0.le m1 ∧ Ok u m1 S w ∧ a.defers = [] ∧ RVs Tryz.prog a w [.c 4 137 (.agg v0.toArray)] ∧ qaV m1 v0 r
theorem qhG (N:Nat) (s_0:List UInt8) (ls_0:s_0.length ≤ LIMS) (at_1:Int) (rat_1:InR .i64 at_1) {r:Token} (hF:qfD N s_0 at_1 = some r) (hG:Glob u) (ok:Ok u m0 S w) :
  Calls Tryz.prog 108 [vs s_0,vi at_1].toArray w fun e w'=>∃ m1 v0,e = .returned (.agg v0.toArray) ∧ m0.le m1 ∧ Ok u m1 S w' ∧ qaV m1 v0 r:=by
 have le_m0:=Mem.le.refl m0
 unfold qfD at hF
 refine en (qkw u m0 S) r Tryz.func108 rfl rfl rfl (by rintro a w ⟨m1,v0,hle,ok,hd,hrv,h0⟩; exact qbO [.c 4 137 (.agg v0.toArray)] hd rfl hrv ⟨m1,v0,rfl,hle,ok,h0⟩) fun fin a E=>sg<|qa4 E ok qaL rfl rfl fun b1 a w E ok=>wn<|sg<|mv E rfl fun a E=>lw E (qaM rfl rfl) fun a E=>av E rfl fun a E=>aw E rfl fun a E=>wp_seq<|sg<|mz E rfl rfl fun a E=>lw E (qaI Tryz.underlying9 rfl) fun a E=>lw E (qaO rfl rfl) fun a E=>mv E rfl fun a E=>bw E 15 hF (fun c2 hF E=>?_) fun c2 hF E=>?_
 ·as_aux_lemma =>
   refine lsz E fun a E=>pf E rfl rfl fun a E=>wn<|c_if E rfl (fun h=>by cases h) (fun _=>?_)
   refine wp_skip<|qaa<|sg<|mv E rfl fun a E=>aw E rfl fun a E=>wp_seq<|wp_block<|bd hF fun o67 hL hF=>qa9 _ (fun (s:Int) a w=>Ok u m0 ([(b1,oc 137 [vi 0,(vs ([])),vi 0,vi 0])] :: S) w ∧ Env 87 a [(0,vs s_0),(1,vi at_1),(4,vp b1),(5,vi 5),(6,(vi (IntKind.wrap .i64 (at_1 + 1)))),(7,vi s)] ∧ InR .i64 s) (fun (b:Int) e a w=>e = (.exit 0) ∧ Ok u m0 ([(b1,oc 137 [vi 0,(vs ([])),vi 0,vi 0])] :: S) w ∧ Env 87 a [(0,vs s_0),(1,vi at_1),(4,vp b1),(5,vi 5),(6,(vi (IntKind.wrap .i64 (at_1 + 1)))),(7,vi b)] ∧ InR .i64 b) ?_ ?_ N _ a w hL ⟨ok,E.keep [0,1,4,5,6,7],(InR.wrap _ _)⟩
   ·rintro v69 a w r ⟨ok,E,r70⟩ hF
    replace hF:qfW N s_0 v69 = some r:=hF
    unfold qfW at hF
    refine wp_seq<|sg<|mz E rfl rfl fun a E=>lw E (qaI Tryz.underlying9 rfl) fun a E=>lw E (qaO rfl rfl) fun a E=>mv E rfl fun a E=>bw E 28 hF (fun c71 hF E=>?_) fun c71 hF E=>?_
    ·refine lsz E fun a E=>pf E rfl rfl fun a E=>wn<|c_if E rfl (fun h=>by cases h) (fun _=>?_)
     refine wp_exit<|qaU ?_
     cases hF
     exact so (⟨rfl,⟨ok,E.keep [0,1,4,5,6,7],r70⟩⟩)
    refine mz E rfl rfl fun a E=>bd hF fun c72 e73 hF=>lv E ok (qaH Tryz.underlying9 rfl rfl e73) fun a E=>bd hF fun r74 e75 hF=>lc E qmP rfl (qeY N (c72.toNat:Int) (InR.byte c72) e75 hG ok) fun w ok a E=>pt E rfl rfl fun a E=>wn<|cg E rfl hF (fun c76 hF=>?_) fun c76 hF=>?_
    ·refine wp_exit<|qaU ?_
     cases hF
     exact so (⟨rfl,⟨ok,E.keep [0,1,4,5,6,7],r70⟩⟩)
    refine wp_skip<|qaa<|wp_block<|qac<|mv E rfl fun a E=>lw E (qaA rfl rfl (InR.inc r70 (InR.len ls_0) c71)) fun a E=>av E rfl fun a E=>wpList_nil<|qaf ?_
    cases hF
    exact qar ⟨ok,E.keep [0,1,4,5,6,7],(InR.inc r70 (InR.len ls_0) c71)⟩
   intro e a w _ hO
   obtain ⟨rfl,ok,E,r77⟩:=hO
   refine qbm<|qaa<|sg<|mz E rfl rfl fun a E=>mv E rfl fun a E=>lw E (qaI Tryz.underlying9 rfl) fun a E=>lw E (qqo rfl rfl) fun a E=>mv E rfl fun a E=>bd hF fun s78 e79 hF=>lw E (qdZ Tryz.underlying9 e79 rfl ⟨_,rfl⟩ ⟨_,rfl⟩) fun a E=>aw E rfl fun a E=>wp_seq<|sg<|mv E rfl fun a E=>lw E (qao rfl rfl) fun a E=>mv E rfl fun a E=>bw E 45 hF (fun c80 hF E=>?_) fun c80 hF E=>?_
   ·as_aux_lemma =>
     refine lsz E fun a E=>pf E rfl rfl fun a E=>mv E rfl fun a E=>lsz E fun a E=>pf E rfl rfl fun a E=>wn<|c_if E rfl (fun h=>by cases h) (fun _=>?_)
     refine wp_skip<|qaa<|wp_seq<|sg<|mz E rfl rfl fun a E=>bd hF fun c110 e111 hF=>lv E ok (qaH Tryz.underlying9 rfl rfl e111) fun a E=>lw E (qbN rfl rfl) fun a E=>mv E rfl fun a E=>bu E 63 hF (fun c112 hF E=>?_) fun c112 hF E=>?_
     ·refine lsq E fun a E=>ls E fun a E=>pt E rfl rfl fun a E=>mv E rfl fun a E=>lsz E fun a E=>pt E rfl rfl fun a E=>mv E rfl fun a E=>lsz E fun a E=>pt E rfl rfl fun a E=>?_
      refine wn<|c_if E rfl (fun _=>?_) (fun h=>by cases h)
      refine sg<|lw E (qau (ps:=[]) (qs:=[]) (cs:=[vi 0,(vs ([])),vi 0,vi 0]) qaL qaR rfl trivial rfl) fun a E=>qae E ok 0 rfl rfl rfl qaZ rfl rfl ⟨rfl,rfl,rfl,rfl,trivial⟩ rfl rfl fun w ok=>wn<|wp_ret<|qah ?_
      exact fin hF ⟨m0,[vi 0,(vs ([])),vi 0,vi 0],le_m0,ok.drop,E.d,⟨rv_c (cs:=[vi 0,(vs ([])),vi 0,vi 0]) E ok rfl qbd rfl (qad.own 0 rfl rfl),trivial⟩,⟨rfl,(ir 0),(Nat.zero_le _),(ir 0),(ir 0)⟩⟩
     refine mv E rfl fun a E=>bd hF fun r113 e114 hF=>lc E qdQ rfl (qaP N s78 (Nat.le_trans (qcL e79) ls_0) e114 hG ok) fun w ok a E=>lw E (qaT rfl) fun a E=>pf E rfl rfl fun a E=>mv E rfl fun a E=>bu E 68 hF (fun c115 hF E=>?_) fun c115 hF E=>?_
     ·refine lsz E fun a E=>pt E rfl rfl fun a E=>mv E rfl fun a E=>lsz E fun a E=>pt E rfl rfl fun a E=>wn<|c_if E rfl (fun _=>?_) (fun h=>by cases h)
      refine sg<|lw E (qau (ps:=[]) (qs:=[]) (cs:=[vi 0,(vs ([])),vi 0,vi 0]) qaL qaR rfl trivial rfl) fun a E=>qae E ok 0 rfl rfl rfl qaZ rfl rfl ⟨rfl,rfl,rfl,rfl,trivial⟩ rfl rfl fun w ok=>wn<|wp_ret<|qah ?_
      exact fin hF ⟨m0,[vi 0,(vs ([])),vi 0,vi 0],le_m0,ok.drop,E.d,⟨rv_c (cs:=[vi 0,(vs ([])),vi 0,vi 0]) E ok rfl qbd rfl (qad.own 0 rfl rfl),trivial⟩,⟨rfl,(ir 0),(Nat.zero_le _),(ir 0),(ir 0)⟩⟩
     refine mz E rfl rfl fun a E=>lw E (qaI Tryz.underlying9 rfl) fun a E=>lw E (qb2 rfl rfl) fun a E=>pf E rfl rfl fun a E=>mv E rfl fun a E=>bu E 74 hF (fun c116 hF E=>?_) fun c116 hF E=>?_
     ·refine lsz E fun a E=>pt E rfl rfl fun a E=>wn<|c_if E rfl (fun _=>?_) (fun h=>by cases h)
      refine sg<|lw E (qau (ps:=[]) (qs:=[]) (cs:=[vi 0,(vs ([])),vi 0,vi 0]) qaL qaR rfl trivial rfl) fun a E=>qae E ok 0 rfl rfl rfl qaZ rfl rfl ⟨rfl,rfl,rfl,rfl,trivial⟩ rfl rfl fun w ok=>wn<|wp_ret<|qah ?_
      exact fin hF ⟨m0,[vi 0,(vs ([])),vi 0,vi 0],le_m0,ok.drop,E.d,⟨rv_c (cs:=[vi 0,(vs ([])),vi 0,vi 0]) E ok rfl qbd rfl (qad.own 0 rfl rfl),trivial⟩,⟨rfl,(ir 0),(Nat.zero_le _),(ir 0),(ir 0)⟩⟩
     refine mz E rfl rfl fun a E=>bd hF fun c117 e118 hF=>lv E ok (qaH Tryz.underlying9 rfl rfl e118) fun a E=>lw E (qbN rfl rfl) fun a E=>pf E rfl rfl fun a E=>wn<|cf E rfl hF (fun c119 hF=>?_) fun c119 hF=>?_
     ·refine sg<|lw E (qau (ps:=[]) (qs:=[]) (cs:=[vi 0,(vs ([])),vi 0,vi 0]) qaL qaR rfl trivial rfl) fun a E=>qae E ok 0 rfl rfl rfl qaZ rfl rfl ⟨rfl,rfl,rfl,rfl,trivial⟩ rfl rfl fun w ok=>wn<|wp_ret<|qah ?_
      exact fin hF ⟨m0,[vi 0,(vs ([])),vi 0,vi 0],le_m0,ok.drop,E.d,⟨rv_c (cs:=[vi 0,(vs ([])),vi 0,vi 0]) E ok rfl qbd rfl (qad.own 0 rfl rfl),trivial⟩,⟨rfl,(ir 0),(Nat.zero_le _),(ir 0),(ir 0)⟩⟩
     refine wp_skip<|qaa<|sg<|mz E rfl rfl fun a E=>mz E rfl rfl fun a E=>lw E (qaM rfl rfl) fun a E=>lw E (qau (ps:=[(0,.tmp 81),(1,.tmp 82),(2,.tmp 83),(3,.tmp 85)]) (qs:=[(0,[vi 5]),(1,[vs s78]),(2,[vi at_1]),(3,[(vi (IntKind.wrap .i64 (o67 + 1)))])]) (cs:=[vi 5,vs s78,vi at_1,(vi (IntKind.wrap .i64 (o67 + 1)))]) qaL qaR rfl ⟨rfl,rfl,rfl,⟨rfl,rfl,rfl,⟨rfl,rfl,rfl,⟨rfl,rfl,rfl,trivial⟩⟩⟩⟩ rfl) fun a E=>qae E ok 0 rfl rfl rfl qaZ rfl rfl ⟨rfl,rfl,rfl,rfl,trivial⟩ rfl rfl fun w ok=>wn<|wp_ret ?_
     exact fin hF ⟨m0,[vi 5,vs s78,vi at_1,(vi (IntKind.wrap .i64 (o67 + 1)))],le_m0,ok.drop,E.d,⟨rv_c (cs:=[vi 5,vs s78,vi at_1,(vi (IntKind.wrap .i64 (o67 + 1)))]) E ok rfl qbd rfl (qad.own 0 rfl rfl),trivial⟩,⟨rfl,(ir 5),(Nat.le_trans (qcL e79) ls_0),rat_1,(InR.wrap _ _)⟩⟩
   refine mz E rfl rfl fun a E=>lw E (qaI Tryz.underlying9 rfl) fun a E=>lw E (qaO rfl rfl) fun a E=>pt E rfl rfl fun a E=>mv E rfl fun a E=>bw E 51 hF (fun c81 hF E=>?_) fun c81 hF E=>?_
   ·as_aux_lemma =>
     refine lsz E fun a E=>pf E rfl rfl fun a E=>wn<|c_if E rfl (fun h=>by cases h) (fun _=>?_)
     refine wp_skip<|qaa<|wp_seq<|sg<|mz E rfl rfl fun a E=>bd hF fun c100 e101 hF=>lv E ok (qaH Tryz.underlying9 rfl rfl e101) fun a E=>lw E (qbN rfl rfl) fun a E=>mv E rfl fun a E=>bu E 63 hF (fun c102 hF E=>?_) fun c102 hF E=>?_
     ·refine lsq E fun a E=>ls E fun a E=>pt E rfl rfl fun a E=>mv E rfl fun a E=>lsz E fun a E=>pt E rfl rfl fun a E=>mv E rfl fun a E=>lsz E fun a E=>pt E rfl rfl fun a E=>?_
      refine wn<|c_if E rfl (fun _=>?_) (fun h=>by cases h)
      refine sg<|lw E (qau (ps:=[]) (qs:=[]) (cs:=[vi 0,(vs ([])),vi 0,vi 0]) qaL qaR rfl trivial rfl) fun a E=>qae E ok 0 rfl rfl rfl qaZ rfl rfl ⟨rfl,rfl,rfl,rfl,trivial⟩ rfl rfl fun w ok=>wn<|wp_ret<|qah ?_
      exact fin hF ⟨m0,[vi 0,(vs ([])),vi 0,vi 0],le_m0,ok.drop,E.d,⟨rv_c (cs:=[vi 0,(vs ([])),vi 0,vi 0]) E ok rfl qbd rfl (qad.own 0 rfl rfl),trivial⟩,⟨rfl,(ir 0),(Nat.zero_le _),(ir 0),(ir 0)⟩⟩
     refine mv E rfl fun a E=>bd hF fun r103 e104 hF=>lc E qdQ rfl (qaP N s78 (Nat.le_trans (qcL e79) ls_0) e104 hG ok) fun w ok a E=>lw E (qaT rfl) fun a E=>pf E rfl rfl fun a E=>mv E rfl fun a E=>bu E 68 hF (fun c105 hF E=>?_) fun c105 hF E=>?_
     ·refine lsz E fun a E=>pt E rfl rfl fun a E=>mv E rfl fun a E=>lsz E fun a E=>pt E rfl rfl fun a E=>wn<|c_if E rfl (fun _=>?_) (fun h=>by cases h)
      refine sg<|lw E (qau (ps:=[]) (qs:=[]) (cs:=[vi 0,(vs ([])),vi 0,vi 0]) qaL qaR rfl trivial rfl) fun a E=>qae E ok 0 rfl rfl rfl qaZ rfl rfl ⟨rfl,rfl,rfl,rfl,trivial⟩ rfl rfl fun w ok=>wn<|wp_ret<|qah ?_
      exact fin hF ⟨m0,[vi 0,(vs ([])),vi 0,vi 0],le_m0,ok.drop,E.d,⟨rv_c (cs:=[vi 0,(vs ([])),vi 0,vi 0]) E ok rfl qbd rfl (qad.own 0 rfl rfl),trivial⟩,⟨rfl,(ir 0),(Nat.zero_le _),(ir 0),(ir 0)⟩⟩
     refine mz E rfl rfl fun a E=>lw E (qaI Tryz.underlying9 rfl) fun a E=>lw E (qb2 rfl rfl) fun a E=>pf E rfl rfl fun a E=>mv E rfl fun a E=>bu E 74 hF (fun c106 hF E=>?_) fun c106 hF E=>?_
     ·refine lsz E fun a E=>pt E rfl rfl fun a E=>wn<|c_if E rfl (fun _=>?_) (fun h=>by cases h)
      refine sg<|lw E (qau (ps:=[]) (qs:=[]) (cs:=[vi 0,(vs ([])),vi 0,vi 0]) qaL qaR rfl trivial rfl) fun a E=>qae E ok 0 rfl rfl rfl qaZ rfl rfl ⟨rfl,rfl,rfl,rfl,trivial⟩ rfl rfl fun w ok=>wn<|wp_ret<|qah ?_
      exact fin hF ⟨m0,[vi 0,(vs ([])),vi 0,vi 0],le_m0,ok.drop,E.d,⟨rv_c (cs:=[vi 0,(vs ([])),vi 0,vi 0]) E ok rfl qbd rfl (qad.own 0 rfl rfl),trivial⟩,⟨rfl,(ir 0),(Nat.zero_le _),(ir 0),(ir 0)⟩⟩
     refine mz E rfl rfl fun a E=>bd hF fun c107 e108 hF=>lv E ok (qaH Tryz.underlying9 rfl rfl e108) fun a E=>lw E (qbN rfl rfl) fun a E=>pf E rfl rfl fun a E=>wn<|cf E rfl hF (fun c109 hF=>?_) fun c109 hF=>?_
     ·refine sg<|lw E (qau (ps:=[]) (qs:=[]) (cs:=[vi 0,(vs ([])),vi 0,vi 0]) qaL qaR rfl trivial rfl) fun a E=>qae E ok 0 rfl rfl rfl qaZ rfl rfl ⟨rfl,rfl,rfl,rfl,trivial⟩ rfl rfl fun w ok=>wn<|wp_ret<|qah ?_
      exact fin hF ⟨m0,[vi 0,(vs ([])),vi 0,vi 0],le_m0,ok.drop,E.d,⟨rv_c (cs:=[vi 0,(vs ([])),vi 0,vi 0]) E ok rfl qbd rfl (qad.own 0 rfl rfl),trivial⟩,⟨rfl,(ir 0),(Nat.zero_le _),(ir 0),(ir 0)⟩⟩
     refine wp_skip<|qaa<|sg<|mz E rfl rfl fun a E=>mz E rfl rfl fun a E=>lw E (qaM rfl rfl) fun a E=>lw E (qau (ps:=[(0,.tmp 81),(1,.tmp 82),(2,.tmp 83),(3,.tmp 85)]) (qs:=[(0,[vi 5]),(1,[vs s78]),(2,[vi at_1]),(3,[(vi (IntKind.wrap .i64 (o67 + 1)))])]) (cs:=[vi 5,vs s78,vi at_1,(vi (IntKind.wrap .i64 (o67 + 1)))]) qaL qaR rfl ⟨rfl,rfl,rfl,⟨rfl,rfl,rfl,⟨rfl,rfl,rfl,⟨rfl,rfl,rfl,trivial⟩⟩⟩⟩ rfl) fun a E=>qae E ok 0 rfl rfl rfl qaZ rfl rfl ⟨rfl,rfl,rfl,rfl,trivial⟩ rfl rfl fun w ok=>wn<|wp_ret ?_
     exact fin hF ⟨m0,[vi 5,vs s78,vi at_1,(vi (IntKind.wrap .i64 (o67 + 1)))],le_m0,ok.drop,E.d,⟨rv_c (cs:=[vi 5,vs s78,vi at_1,(vi (IntKind.wrap .i64 (o67 + 1)))]) E ok rfl qbd rfl (qad.own 0 rfl rfl),trivial⟩,⟨rfl,(ir 5),(Nat.le_trans (qcL e79) ls_0),rat_1,(InR.wrap _ _)⟩⟩
   refine mz E rfl rfl fun a E=>bd hF fun c82 e83 hF=>lv E ok (qaH Tryz.underlying9 rfl rfl e83) fun a E=>lw E (qao rfl rfl) fun a E=>pt E rfl rfl fun a E=>wn<|bd hF fun o84 hJ hF=>qaG (Q':=fun e a w=>e = .normal ∧ Ok u m0 ([(b1,oc 137 [vi 0,(vs ([])),vi 0,vi 0])] :: S) w ∧ Env 87 a [(0,vs s_0),(1,vi at_1),(4,vp b1),(5,vi o84.1),(7,vi o84.2),(8,vs s78)] ∧ InR .i64 o84.1 ∧ InR .i64 o84.2) ?_ ?_
   ·have hF:=hJ
    refine cg E rfl hF (fun c87 hF=>?_) fun c87 hF=>?_
    ·refine wp_skip ?_
     cases hF
     exact ⟨rfl,⟨ok,E.keep [0,1,4,5,7,8],(ir 5),r77⟩⟩
    refine qac<|mv E rfl fun a E=>lw E (qaA rfl rfl (InR.inc r77 (InR.len ls_0) c81)) fun a E=>av E rfl fun a E=>av E rfl fun a E=>wpList_nil ?_
    cases hF
    exact ⟨rfl,⟨ok,E.keep [0,1,4,5,7,8],(ir 7),(InR.inc r77 (InR.len ls_0) c81)⟩⟩
   intro e a w hO
   obtain ⟨rfl,ok,E,r88,r89⟩:=hO
   refine qaa<|wp_seq<|sg<|mz E rfl rfl fun a E=>bd hF fun c90 e91 hF=>lv E ok (qaH Tryz.underlying9 rfl rfl e91) fun a E=>lw E (qbN rfl rfl) fun a E=>mv E rfl fun a E=>bu E 63 hF (fun c92 hF E=>?_) fun c92 hF E=>?_
   ·refine lsq E fun a E=>ls E fun a E=>pt E rfl rfl fun a E=>mv E rfl fun a E=>lsz E fun a E=>pt E rfl rfl fun a E=>mv E rfl fun a E=>lsz E fun a E=>pt E rfl rfl fun a E=>?_
    refine wn<|c_if E rfl (fun _=>?_) (fun h=>by cases h)
    refine sg<|lw E (qau (ps:=[]) (qs:=[]) (cs:=[vi 0,(vs ([])),vi 0,vi 0]) qaL qaR rfl trivial rfl) fun a E=>qae E ok 0 rfl rfl rfl qaZ rfl rfl ⟨rfl,rfl,rfl,rfl,trivial⟩ rfl rfl fun w ok=>wn<|wp_ret<|qah ?_
    exact fin hF ⟨m0,[vi 0,(vs ([])),vi 0,vi 0],le_m0,ok.drop,E.d,⟨rv_c (cs:=[vi 0,(vs ([])),vi 0,vi 0]) E ok rfl qbd rfl (qad.own 0 rfl rfl),trivial⟩,⟨rfl,(ir 0),(Nat.zero_le _),(ir 0),(ir 0)⟩⟩
   refine mv E rfl fun a E=>bd hF fun r93 e94 hF=>lc E qdQ rfl (qaP N s78 (Nat.le_trans (qcL e79) ls_0) e94 hG ok) fun w ok a E=>lw E (qaT rfl) fun a E=>pf E rfl rfl fun a E=>mv E rfl fun a E=>bu E 68 hF (fun c95 hF E=>?_) fun c95 hF E=>?_
   ·refine lsz E fun a E=>pt E rfl rfl fun a E=>mv E rfl fun a E=>lsz E fun a E=>pt E rfl rfl fun a E=>wn<|c_if E rfl (fun _=>?_) (fun h=>by cases h)
    refine sg<|lw E (qau (ps:=[]) (qs:=[]) (cs:=[vi 0,(vs ([])),vi 0,vi 0]) qaL qaR rfl trivial rfl) fun a E=>qae E ok 0 rfl rfl rfl qaZ rfl rfl ⟨rfl,rfl,rfl,rfl,trivial⟩ rfl rfl fun w ok=>wn<|wp_ret<|qah ?_
    exact fin hF ⟨m0,[vi 0,(vs ([])),vi 0,vi 0],le_m0,ok.drop,E.d,⟨rv_c (cs:=[vi 0,(vs ([])),vi 0,vi 0]) E ok rfl qbd rfl (qad.own 0 rfl rfl),trivial⟩,⟨rfl,(ir 0),(Nat.zero_le _),(ir 0),(ir 0)⟩⟩
   refine mz E rfl rfl fun a E=>lw E (qaI Tryz.underlying9 rfl) fun a E=>lw E (qb2 rfl rfl) fun a E=>pf E rfl rfl fun a E=>mv E rfl fun a E=>bu E 74 hF (fun c96 hF E=>?_) fun c96 hF E=>?_
   ·refine lsz E fun a E=>pt E rfl rfl fun a E=>wn<|c_if E rfl (fun _=>?_) (fun h=>by cases h)
    refine sg<|lw E (qau (ps:=[]) (qs:=[]) (cs:=[vi 0,(vs ([])),vi 0,vi 0]) qaL qaR rfl trivial rfl) fun a E=>qae E ok 0 rfl rfl rfl qaZ rfl rfl ⟨rfl,rfl,rfl,rfl,trivial⟩ rfl rfl fun w ok=>wn<|wp_ret<|qah ?_
    exact fin hF ⟨m0,[vi 0,(vs ([])),vi 0,vi 0],le_m0,ok.drop,E.d,⟨rv_c (cs:=[vi 0,(vs ([])),vi 0,vi 0]) E ok rfl qbd rfl (qad.own 0 rfl rfl),trivial⟩,⟨rfl,(ir 0),(Nat.zero_le _),(ir 0),(ir 0)⟩⟩
   refine mz E rfl rfl fun a E=>bd hF fun c97 e98 hF=>lv E ok (qaH Tryz.underlying9 rfl rfl e98) fun a E=>lw E (qbN rfl rfl) fun a E=>pf E rfl rfl fun a E=>wn<|cf E rfl hF (fun c99 hF=>?_) fun c99 hF=>?_
   ·refine sg<|lw E (qau (ps:=[]) (qs:=[]) (cs:=[vi 0,(vs ([])),vi 0,vi 0]) qaL qaR rfl trivial rfl) fun a E=>qae E ok 0 rfl rfl rfl qaZ rfl rfl ⟨rfl,rfl,rfl,rfl,trivial⟩ rfl rfl fun w ok=>wn<|wp_ret<|qah ?_
    exact fin hF ⟨m0,[vi 0,(vs ([])),vi 0,vi 0],le_m0,ok.drop,E.d,⟨rv_c (cs:=[vi 0,(vs ([])),vi 0,vi 0]) E ok rfl qbd rfl (qad.own 0 rfl rfl),trivial⟩,⟨rfl,(ir 0),(Nat.zero_le _),(ir 0),(ir 0)⟩⟩
   refine wp_skip<|qaa<|sg<|mz E rfl rfl fun a E=>mz E rfl rfl fun a E=>lw E (qaM rfl rfl) fun a E=>lw E (qau (ps:=[(0,.tmp 81),(1,.tmp 82),(2,.tmp 83),(3,.tmp 85)]) (qs:=[(0,[vi o84.1]),(1,[vs s78]),(2,[vi at_1]),(3,[(vi (IntKind.wrap .i64 (o84.2 + 1)))])]) (cs:=[vi o84.1,vs s78,vi at_1,(vi (IntKind.wrap .i64 (o84.2 + 1)))]) qaL qaR rfl ⟨rfl,rfl,rfl,⟨rfl,rfl,rfl,⟨rfl,rfl,rfl,⟨rfl,rfl,rfl,trivial⟩⟩⟩⟩ rfl) fun a E=>qae E ok 0 rfl rfl rfl qaZ rfl rfl ⟨rfl,rfl,rfl,rfl,trivial⟩ rfl rfl fun w ok=>wn<|wp_ret ?_
   exact fin hF ⟨m0,[vi o84.1,vs s78,vi at_1,(vi (IntKind.wrap .i64 (o84.2 + 1)))],le_m0,ok.drop,E.d,⟨rv_c (cs:=[vi o84.1,vs s78,vi at_1,(vi (IntKind.wrap .i64 (o84.2 + 1)))]) E ok rfl qbd rfl (qad.own 0 rfl rfl),trivial⟩,⟨rfl,r88,(Nat.le_trans (qcL e79) ls_0),rat_1,(InR.wrap _ _)⟩⟩
 refine mz E rfl rfl fun a E=>bd hF fun c3 e4 hF=>lv E ok (qaH Tryz.underlying9 rfl rfl e4) fun a E=>lw E (qao rfl rfl) fun a E=>pt E rfl rfl fun a E=>wn<|bd hF fun o5 hJ hF=>qaG (Q':=fun e a w=>e = .normal ∧ Ok u m0 ([(b1,oc 137 [vi 0,(vs ([])),vi 0,vi 0])] :: S) w ∧ Env 87 a [(0,vs s_0),(1,vi at_1),(4,vp b1),(5,vi o5.1),(6,vi o5.2)] ∧ InR .i64 o5.1 ∧ InR .i64 o5.2) ?_ ?_
 ·have hF:=hJ
  refine cg E rfl hF (fun c8 hF=>?_) fun c8 hF=>?_
  ·refine wp_skip ?_
   cases hF
   exact ⟨rfl,⟨ok,E.keep [0,1,4,5,6],(ir 5),(InR.wrap _ _)⟩⟩
  refine qac<|mv E rfl fun a E=>lw E (qaA rfl rfl (InR.inc (InR.wrap _ _) (InR.len ls_0) c2)) fun a E=>av E rfl fun a E=>av E rfl fun a E=>wpList_nil ?_
  cases hF
  exact ⟨rfl,⟨ok,E.keep [0,1,4,5,6],(ir 6),(InR.inc (InR.wrap _ _) (InR.len ls_0) c2)⟩⟩
 intro e a w hO
 obtain ⟨rfl,ok,E,r9,r10⟩:=hO
 refine qaa<|sg<|mv E rfl fun a E=>aw E rfl fun a E=>wp_seq<|wp_block<|bd hF fun o12 hL hF=>qa9 _ (fun (s:Int) a w=>Ok u m0 ([(b1,oc 137 [vi 0,(vs ([])),vi 0,vi 0])] :: S) w ∧ Env 87 a [(0,vs s_0),(1,vi at_1),(4,vp b1),(5,vi o5.1),(6,vi o5.2),(7,vi s)] ∧ InR .i64 s) (fun (b:Int) e a w=>e = (.exit 0) ∧ Ok u m0 ([(b1,oc 137 [vi 0,(vs ([])),vi 0,vi 0])] :: S) w ∧ Env 87 a [(0,vs s_0),(1,vi at_1),(4,vp b1),(5,vi o5.1),(6,vi o5.2),(7,vi b)] ∧ InR .i64 b) ?_ ?_ N _ a w hL ⟨ok,E.keep [0,1,4,5,6,7],r10⟩
 ·rintro v14 a w r ⟨ok,E,r15⟩ hF
  replace hF:qfL N s_0 v14 = some r:=hF
  unfold qfL at hF
  refine wp_seq<|sg<|mz E rfl rfl fun a E=>lw E (qaI Tryz.underlying9 rfl) fun a E=>lw E (qaO rfl rfl) fun a E=>mv E rfl fun a E=>bw E 28 hF (fun c16 hF E=>?_) fun c16 hF E=>?_
  ·refine lsz E fun a E=>pf E rfl rfl fun a E=>wn<|c_if E rfl (fun h=>by cases h) (fun _=>?_)
   refine wp_exit<|qaU ?_
   cases hF
   exact so (⟨rfl,⟨ok,E.keep [0,1,4,5,6,7],r15⟩⟩)
  refine mz E rfl rfl fun a E=>bd hF fun c17 e18 hF=>lv E ok (qaH Tryz.underlying9 rfl rfl e18) fun a E=>bd hF fun r19 e20 hF=>lc E qmP rfl (qeY N (c17.toNat:Int) (InR.byte c17) e20 hG ok) fun w ok a E=>pt E rfl rfl fun a E=>wn<|cg E rfl hF (fun c21 hF=>?_) fun c21 hF=>?_
  ·refine wp_exit<|qaU ?_
   cases hF
   exact so (⟨rfl,⟨ok,E.keep [0,1,4,5,6,7],r15⟩⟩)
  refine wp_skip<|qaa<|wp_block<|qac<|mv E rfl fun a E=>lw E (qaA rfl rfl (InR.inc r15 (InR.len ls_0) c16)) fun a E=>av E rfl fun a E=>wpList_nil<|qaf ?_
  cases hF
  exact qar ⟨ok,E.keep [0,1,4,5,6,7],(InR.inc r15 (InR.len ls_0) c16)⟩
 intro e a w _ hO
 obtain ⟨rfl,ok,E,r22⟩:=hO
 refine qbm<|qaa<|sg<|mz E rfl rfl fun a E=>mv E rfl fun a E=>lw E (qaI Tryz.underlying9 rfl) fun a E=>lw E (qqo rfl rfl) fun a E=>mv E rfl fun a E=>bd hF fun s23 e24 hF=>lw E (qdZ Tryz.underlying9 e24 rfl ⟨_,rfl⟩ ⟨_,rfl⟩) fun a E=>aw E rfl fun a E=>wp_seq<|sg<|mv E rfl fun a E=>lw E (qao rfl rfl) fun a E=>mv E rfl fun a E=>bw E 45 hF (fun c25 hF E=>?_) fun c25 hF E=>?_
 ·as_aux_lemma =>
   refine lsz E fun a E=>pf E rfl rfl fun a E=>mv E rfl fun a E=>lsz E fun a E=>pf E rfl rfl fun a E=>wn<|c_if E rfl (fun h=>by cases h) (fun _=>?_)
   refine wp_skip<|qaa<|wp_seq<|sg<|mz E rfl rfl fun a E=>bd hF fun c55 e56 hF=>lv E ok (qaH Tryz.underlying9 rfl rfl e56) fun a E=>lw E (qbN rfl rfl) fun a E=>mv E rfl fun a E=>bu E 63 hF (fun c57 hF E=>?_) fun c57 hF E=>?_
   ·refine lsq E fun a E=>ls E fun a E=>pt E rfl rfl fun a E=>mv E rfl fun a E=>lsz E fun a E=>pt E rfl rfl fun a E=>mv E rfl fun a E=>lsz E fun a E=>pt E rfl rfl fun a E=>?_
    refine wn<|c_if E rfl (fun _=>?_) (fun h=>by cases h)
    refine sg<|lw E (qau (ps:=[]) (qs:=[]) (cs:=[vi 0,(vs ([])),vi 0,vi 0]) qaL qaR rfl trivial rfl) fun a E=>qae E ok 0 rfl rfl rfl qaZ rfl rfl ⟨rfl,rfl,rfl,rfl,trivial⟩ rfl rfl fun w ok=>wn<|wp_ret<|qah ?_
    exact fin hF ⟨m0,[vi 0,(vs ([])),vi 0,vi 0],le_m0,ok.drop,E.d,⟨rv_c (cs:=[vi 0,(vs ([])),vi 0,vi 0]) E ok rfl qbd rfl (qad.own 0 rfl rfl),trivial⟩,⟨rfl,(ir 0),(Nat.zero_le _),(ir 0),(ir 0)⟩⟩
   refine mv E rfl fun a E=>bd hF fun r58 e59 hF=>lc E qdQ rfl (qaP N s23 (Nat.le_trans (qcL e24) ls_0) e59 hG ok) fun w ok a E=>lw E (qaT rfl) fun a E=>pf E rfl rfl fun a E=>mv E rfl fun a E=>bu E 68 hF (fun c60 hF E=>?_) fun c60 hF E=>?_
   ·refine lsz E fun a E=>pt E rfl rfl fun a E=>mv E rfl fun a E=>lsz E fun a E=>pt E rfl rfl fun a E=>wn<|c_if E rfl (fun _=>?_) (fun h=>by cases h)
    refine sg<|lw E (qau (ps:=[]) (qs:=[]) (cs:=[vi 0,(vs ([])),vi 0,vi 0]) qaL qaR rfl trivial rfl) fun a E=>qae E ok 0 rfl rfl rfl qaZ rfl rfl ⟨rfl,rfl,rfl,rfl,trivial⟩ rfl rfl fun w ok=>wn<|wp_ret<|qah ?_
    exact fin hF ⟨m0,[vi 0,(vs ([])),vi 0,vi 0],le_m0,ok.drop,E.d,⟨rv_c (cs:=[vi 0,(vs ([])),vi 0,vi 0]) E ok rfl qbd rfl (qad.own 0 rfl rfl),trivial⟩,⟨rfl,(ir 0),(Nat.zero_le _),(ir 0),(ir 0)⟩⟩
   refine mz E rfl rfl fun a E=>lw E (qaI Tryz.underlying9 rfl) fun a E=>lw E (qb2 rfl rfl) fun a E=>pf E rfl rfl fun a E=>mv E rfl fun a E=>bu E 74 hF (fun c61 hF E=>?_) fun c61 hF E=>?_
   ·refine lsz E fun a E=>pt E rfl rfl fun a E=>wn<|c_if E rfl (fun _=>?_) (fun h=>by cases h)
    refine sg<|lw E (qau (ps:=[]) (qs:=[]) (cs:=[vi 0,(vs ([])),vi 0,vi 0]) qaL qaR rfl trivial rfl) fun a E=>qae E ok 0 rfl rfl rfl qaZ rfl rfl ⟨rfl,rfl,rfl,rfl,trivial⟩ rfl rfl fun w ok=>wn<|wp_ret<|qah ?_
    exact fin hF ⟨m0,[vi 0,(vs ([])),vi 0,vi 0],le_m0,ok.drop,E.d,⟨rv_c (cs:=[vi 0,(vs ([])),vi 0,vi 0]) E ok rfl qbd rfl (qad.own 0 rfl rfl),trivial⟩,⟨rfl,(ir 0),(Nat.zero_le _),(ir 0),(ir 0)⟩⟩
   refine mz E rfl rfl fun a E=>bd hF fun c62 e63 hF=>lv E ok (qaH Tryz.underlying9 rfl rfl e63) fun a E=>lw E (qbN rfl rfl) fun a E=>pf E rfl rfl fun a E=>wn<|cf E rfl hF (fun c64 hF=>?_) fun c64 hF=>?_
   ·refine sg<|lw E (qau (ps:=[]) (qs:=[]) (cs:=[vi 0,(vs ([])),vi 0,vi 0]) qaL qaR rfl trivial rfl) fun a E=>qae E ok 0 rfl rfl rfl qaZ rfl rfl ⟨rfl,rfl,rfl,rfl,trivial⟩ rfl rfl fun w ok=>wn<|wp_ret<|qah ?_
    exact fin hF ⟨m0,[vi 0,(vs ([])),vi 0,vi 0],le_m0,ok.drop,E.d,⟨rv_c (cs:=[vi 0,(vs ([])),vi 0,vi 0]) E ok rfl qbd rfl (qad.own 0 rfl rfl),trivial⟩,⟨rfl,(ir 0),(Nat.zero_le _),(ir 0),(ir 0)⟩⟩
   refine wp_skip<|qaa<|sg<|mz E rfl rfl fun a E=>mz E rfl rfl fun a E=>lw E (qaM rfl rfl) fun a E=>lw E (qau (ps:=[(0,.tmp 81),(1,.tmp 82),(2,.tmp 83),(3,.tmp 85)]) (qs:=[(0,[vi o5.1]),(1,[vs s23]),(2,[vi at_1]),(3,[(vi (IntKind.wrap .i64 (o12 + 1)))])]) (cs:=[vi o5.1,vs s23,vi at_1,(vi (IntKind.wrap .i64 (o12 + 1)))]) qaL qaR rfl ⟨rfl,rfl,rfl,⟨rfl,rfl,rfl,⟨rfl,rfl,rfl,⟨rfl,rfl,rfl,trivial⟩⟩⟩⟩ rfl) fun a E=>qae E ok 0 rfl rfl rfl qaZ rfl rfl ⟨rfl,rfl,rfl,rfl,trivial⟩ rfl rfl fun w ok=>wn<|wp_ret ?_
   exact fin hF ⟨m0,[vi o5.1,vs s23,vi at_1,(vi (IntKind.wrap .i64 (o12 + 1)))],le_m0,ok.drop,E.d,⟨rv_c (cs:=[vi o5.1,vs s23,vi at_1,(vi (IntKind.wrap .i64 (o12 + 1)))]) E ok rfl qbd rfl (qad.own 0 rfl rfl),trivial⟩,⟨rfl,r9,(Nat.le_trans (qcL e24) ls_0),rat_1,(InR.wrap _ _)⟩⟩
 refine mz E rfl rfl fun a E=>lw E (qaI Tryz.underlying9 rfl) fun a E=>lw E (qaO rfl rfl) fun a E=>pt E rfl rfl fun a E=>mv E rfl fun a E=>bw E 51 hF (fun c26 hF E=>?_) fun c26 hF E=>?_
 ·as_aux_lemma =>
   refine lsz E fun a E=>pf E rfl rfl fun a E=>wn<|c_if E rfl (fun h=>by cases h) (fun _=>?_)
   refine wp_skip<|qaa<|wp_seq<|sg<|mz E rfl rfl fun a E=>bd hF fun c45 e46 hF=>lv E ok (qaH Tryz.underlying9 rfl rfl e46) fun a E=>lw E (qbN rfl rfl) fun a E=>mv E rfl fun a E=>bu E 63 hF (fun c47 hF E=>?_) fun c47 hF E=>?_
   ·refine lsq E fun a E=>ls E fun a E=>pt E rfl rfl fun a E=>mv E rfl fun a E=>lsz E fun a E=>pt E rfl rfl fun a E=>mv E rfl fun a E=>lsz E fun a E=>pt E rfl rfl fun a E=>?_
    refine wn<|c_if E rfl (fun _=>?_) (fun h=>by cases h)
    refine sg<|lw E (qau (ps:=[]) (qs:=[]) (cs:=[vi 0,(vs ([])),vi 0,vi 0]) qaL qaR rfl trivial rfl) fun a E=>qae E ok 0 rfl rfl rfl qaZ rfl rfl ⟨rfl,rfl,rfl,rfl,trivial⟩ rfl rfl fun w ok=>wn<|wp_ret<|qah ?_
    exact fin hF ⟨m0,[vi 0,(vs ([])),vi 0,vi 0],le_m0,ok.drop,E.d,⟨rv_c (cs:=[vi 0,(vs ([])),vi 0,vi 0]) E ok rfl qbd rfl (qad.own 0 rfl rfl),trivial⟩,⟨rfl,(ir 0),(Nat.zero_le _),(ir 0),(ir 0)⟩⟩
   refine mv E rfl fun a E=>bd hF fun r48 e49 hF=>lc E qdQ rfl (qaP N s23 (Nat.le_trans (qcL e24) ls_0) e49 hG ok) fun w ok a E=>lw E (qaT rfl) fun a E=>pf E rfl rfl fun a E=>mv E rfl fun a E=>bu E 68 hF (fun c50 hF E=>?_) fun c50 hF E=>?_
   ·refine lsz E fun a E=>pt E rfl rfl fun a E=>mv E rfl fun a E=>lsz E fun a E=>pt E rfl rfl fun a E=>wn<|c_if E rfl (fun _=>?_) (fun h=>by cases h)
    refine sg<|lw E (qau (ps:=[]) (qs:=[]) (cs:=[vi 0,(vs ([])),vi 0,vi 0]) qaL qaR rfl trivial rfl) fun a E=>qae E ok 0 rfl rfl rfl qaZ rfl rfl ⟨rfl,rfl,rfl,rfl,trivial⟩ rfl rfl fun w ok=>wn<|wp_ret<|qah ?_
    exact fin hF ⟨m0,[vi 0,(vs ([])),vi 0,vi 0],le_m0,ok.drop,E.d,⟨rv_c (cs:=[vi 0,(vs ([])),vi 0,vi 0]) E ok rfl qbd rfl (qad.own 0 rfl rfl),trivial⟩,⟨rfl,(ir 0),(Nat.zero_le _),(ir 0),(ir 0)⟩⟩
   refine mz E rfl rfl fun a E=>lw E (qaI Tryz.underlying9 rfl) fun a E=>lw E (qb2 rfl rfl) fun a E=>pf E rfl rfl fun a E=>mv E rfl fun a E=>bu E 74 hF (fun c51 hF E=>?_) fun c51 hF E=>?_
   ·refine lsz E fun a E=>pt E rfl rfl fun a E=>wn<|c_if E rfl (fun _=>?_) (fun h=>by cases h)
    refine sg<|lw E (qau (ps:=[]) (qs:=[]) (cs:=[vi 0,(vs ([])),vi 0,vi 0]) qaL qaR rfl trivial rfl) fun a E=>qae E ok 0 rfl rfl rfl qaZ rfl rfl ⟨rfl,rfl,rfl,rfl,trivial⟩ rfl rfl fun w ok=>wn<|wp_ret<|qah ?_
    exact fin hF ⟨m0,[vi 0,(vs ([])),vi 0,vi 0],le_m0,ok.drop,E.d,⟨rv_c (cs:=[vi 0,(vs ([])),vi 0,vi 0]) E ok rfl qbd rfl (qad.own 0 rfl rfl),trivial⟩,⟨rfl,(ir 0),(Nat.zero_le _),(ir 0),(ir 0)⟩⟩
   refine mz E rfl rfl fun a E=>bd hF fun c52 e53 hF=>lv E ok (qaH Tryz.underlying9 rfl rfl e53) fun a E=>lw E (qbN rfl rfl) fun a E=>pf E rfl rfl fun a E=>wn<|cf E rfl hF (fun c54 hF=>?_) fun c54 hF=>?_
   ·refine sg<|lw E (qau (ps:=[]) (qs:=[]) (cs:=[vi 0,(vs ([])),vi 0,vi 0]) qaL qaR rfl trivial rfl) fun a E=>qae E ok 0 rfl rfl rfl qaZ rfl rfl ⟨rfl,rfl,rfl,rfl,trivial⟩ rfl rfl fun w ok=>wn<|wp_ret<|qah ?_
    exact fin hF ⟨m0,[vi 0,(vs ([])),vi 0,vi 0],le_m0,ok.drop,E.d,⟨rv_c (cs:=[vi 0,(vs ([])),vi 0,vi 0]) E ok rfl qbd rfl (qad.own 0 rfl rfl),trivial⟩,⟨rfl,(ir 0),(Nat.zero_le _),(ir 0),(ir 0)⟩⟩
   refine wp_skip<|qaa<|sg<|mz E rfl rfl fun a E=>mz E rfl rfl fun a E=>lw E (qaM rfl rfl) fun a E=>lw E (qau (ps:=[(0,.tmp 81),(1,.tmp 82),(2,.tmp 83),(3,.tmp 85)]) (qs:=[(0,[vi o5.1]),(1,[vs s23]),(2,[vi at_1]),(3,[(vi (IntKind.wrap .i64 (o12 + 1)))])]) (cs:=[vi o5.1,vs s23,vi at_1,(vi (IntKind.wrap .i64 (o12 + 1)))]) qaL qaR rfl ⟨rfl,rfl,rfl,⟨rfl,rfl,rfl,⟨rfl,rfl,rfl,⟨rfl,rfl,rfl,trivial⟩⟩⟩⟩ rfl) fun a E=>qae E ok 0 rfl rfl rfl qaZ rfl rfl ⟨rfl,rfl,rfl,rfl,trivial⟩ rfl rfl fun w ok=>wn<|wp_ret ?_
   exact fin hF ⟨m0,[vi o5.1,vs s23,vi at_1,(vi (IntKind.wrap .i64 (o12 + 1)))],le_m0,ok.drop,E.d,⟨rv_c (cs:=[vi o5.1,vs s23,vi at_1,(vi (IntKind.wrap .i64 (o12 + 1)))]) E ok rfl qbd rfl (qad.own 0 rfl rfl),trivial⟩,⟨rfl,r9,(Nat.le_trans (qcL e24) ls_0),rat_1,(InR.wrap _ _)⟩⟩
 refine mz E rfl rfl fun a E=>bd hF fun c27 e28 hF=>lv E ok (qaH Tryz.underlying9 rfl rfl e28) fun a E=>lw E (qao rfl rfl) fun a E=>pt E rfl rfl fun a E=>wn<|bd hF fun o29 hJ hF=>qaG (Q':=fun e a w=>e = .normal ∧ Ok u m0 ([(b1,oc 137 [vi 0,(vs ([])),vi 0,vi 0])] :: S) w ∧ Env 87 a [(0,vs s_0),(1,vi at_1),(4,vp b1),(5,vi o29.1),(7,vi o29.2),(8,vs s23)] ∧ InR .i64 o29.1 ∧ InR .i64 o29.2) ?_ ?_
 ·have hF:=hJ
  refine cg E rfl hF (fun c32 hF=>?_) fun c32 hF=>?_
  ·refine wp_skip ?_
   cases hF
   exact ⟨rfl,⟨ok,E.keep [0,1,4,5,7,8],r9,r22⟩⟩
  refine qac<|mv E rfl fun a E=>lw E (qaA rfl rfl (InR.inc r22 (InR.len ls_0) c26)) fun a E=>av E rfl fun a E=>av E rfl fun a E=>wpList_nil ?_
  cases hF
  exact ⟨rfl,⟨ok,E.keep [0,1,4,5,7,8],(ir 7),(InR.inc r22 (InR.len ls_0) c26)⟩⟩
 intro e a w hO
 obtain ⟨rfl,ok,E,r33,r34⟩:=hO
 refine qaa<|wp_seq<|sg<|mz E rfl rfl fun a E=>bd hF fun c35 e36 hF=>lv E ok (qaH Tryz.underlying9 rfl rfl e36) fun a E=>lw E (qbN rfl rfl) fun a E=>mv E rfl fun a E=>bu E 63 hF (fun c37 hF E=>?_) fun c37 hF E=>?_
 ·refine lsq E fun a E=>ls E fun a E=>pt E rfl rfl fun a E=>mv E rfl fun a E=>lsz E fun a E=>pt E rfl rfl fun a E=>mv E rfl fun a E=>lsz E fun a E=>pt E rfl rfl fun a E=>?_
  refine wn<|c_if E rfl (fun _=>?_) (fun h=>by cases h)
  refine sg<|lw E (qau (ps:=[]) (qs:=[]) (cs:=[vi 0,(vs ([])),vi 0,vi 0]) qaL qaR rfl trivial rfl) fun a E=>qae E ok 0 rfl rfl rfl qaZ rfl rfl ⟨rfl,rfl,rfl,rfl,trivial⟩ rfl rfl fun w ok=>wn<|wp_ret<|qah ?_
  exact fin hF ⟨m0,[vi 0,(vs ([])),vi 0,vi 0],le_m0,ok.drop,E.d,⟨rv_c (cs:=[vi 0,(vs ([])),vi 0,vi 0]) E ok rfl qbd rfl (qad.own 0 rfl rfl),trivial⟩,⟨rfl,(ir 0),(Nat.zero_le _),(ir 0),(ir 0)⟩⟩
 refine mv E rfl fun a E=>bd hF fun r38 e39 hF=>lc E qdQ rfl (qaP N s23 (Nat.le_trans (qcL e24) ls_0) e39 hG ok) fun w ok a E=>lw E (qaT rfl) fun a E=>pf E rfl rfl fun a E=>mv E rfl fun a E=>bu E 68 hF (fun c40 hF E=>?_) fun c40 hF E=>?_
 ·refine lsz E fun a E=>pt E rfl rfl fun a E=>mv E rfl fun a E=>lsz E fun a E=>pt E rfl rfl fun a E=>wn<|c_if E rfl (fun _=>?_) (fun h=>by cases h)
  refine sg<|lw E (qau (ps:=[]) (qs:=[]) (cs:=[vi 0,(vs ([])),vi 0,vi 0]) qaL qaR rfl trivial rfl) fun a E=>qae E ok 0 rfl rfl rfl qaZ rfl rfl ⟨rfl,rfl,rfl,rfl,trivial⟩ rfl rfl fun w ok=>wn<|wp_ret<|qah ?_
  exact fin hF ⟨m0,[vi 0,(vs ([])),vi 0,vi 0],le_m0,ok.drop,E.d,⟨rv_c (cs:=[vi 0,(vs ([])),vi 0,vi 0]) E ok rfl qbd rfl (qad.own 0 rfl rfl),trivial⟩,⟨rfl,(ir 0),(Nat.zero_le _),(ir 0),(ir 0)⟩⟩
 refine mz E rfl rfl fun a E=>lw E (qaI Tryz.underlying9 rfl) fun a E=>lw E (qb2 rfl rfl) fun a E=>pf E rfl rfl fun a E=>mv E rfl fun a E=>bu E 74 hF (fun c41 hF E=>?_) fun c41 hF E=>?_
 ·refine lsz E fun a E=>pt E rfl rfl fun a E=>wn<|c_if E rfl (fun _=>?_) (fun h=>by cases h)
  refine sg<|lw E (qau (ps:=[]) (qs:=[]) (cs:=[vi 0,(vs ([])),vi 0,vi 0]) qaL qaR rfl trivial rfl) fun a E=>qae E ok 0 rfl rfl rfl qaZ rfl rfl ⟨rfl,rfl,rfl,rfl,trivial⟩ rfl rfl fun w ok=>wn<|wp_ret<|qah ?_
  exact fin hF ⟨m0,[vi 0,(vs ([])),vi 0,vi 0],le_m0,ok.drop,E.d,⟨rv_c (cs:=[vi 0,(vs ([])),vi 0,vi 0]) E ok rfl qbd rfl (qad.own 0 rfl rfl),trivial⟩,⟨rfl,(ir 0),(Nat.zero_le _),(ir 0),(ir 0)⟩⟩
 refine mz E rfl rfl fun a E=>bd hF fun c42 e43 hF=>lv E ok (qaH Tryz.underlying9 rfl rfl e43) fun a E=>lw E (qbN rfl rfl) fun a E=>pf E rfl rfl fun a E=>wn<|cf E rfl hF (fun c44 hF=>?_) fun c44 hF=>?_
 ·refine sg<|lw E (qau (ps:=[]) (qs:=[]) (cs:=[vi 0,(vs ([])),vi 0,vi 0]) qaL qaR rfl trivial rfl) fun a E=>qae E ok 0 rfl rfl rfl qaZ rfl rfl ⟨rfl,rfl,rfl,rfl,trivial⟩ rfl rfl fun w ok=>wn<|wp_ret<|qah ?_
  exact fin hF ⟨m0,[vi 0,(vs ([])),vi 0,vi 0],le_m0,ok.drop,E.d,⟨rv_c (cs:=[vi 0,(vs ([])),vi 0,vi 0]) E ok rfl qbd rfl (qad.own 0 rfl rfl),trivial⟩,⟨rfl,(ir 0),(Nat.zero_le _),(ir 0),(ir 0)⟩⟩
 refine wp_skip<|qaa<|sg<|mz E rfl rfl fun a E=>mz E rfl rfl fun a E=>lw E (qaM rfl rfl) fun a E=>lw E (qau (ps:=[(0,.tmp 81),(1,.tmp 82),(2,.tmp 83),(3,.tmp 85)]) (qs:=[(0,[vi o29.1]),(1,[vs s23]),(2,[vi at_1]),(3,[(vi (IntKind.wrap .i64 (o29.2 + 1)))])]) (cs:=[vi o29.1,vs s23,vi at_1,(vi (IntKind.wrap .i64 (o29.2 + 1)))]) qaL qaR rfl ⟨rfl,rfl,rfl,⟨rfl,rfl,rfl,⟨rfl,rfl,rfl,⟨rfl,rfl,rfl,trivial⟩⟩⟩⟩ rfl) fun a E=>qae E ok 0 rfl rfl rfl qaZ rfl rfl ⟨rfl,rfl,rfl,rfl,trivial⟩ rfl rfl fun w ok=>wn<|wp_ret ?_
 exact fin hF ⟨m0,[vi o29.1,vs s23,vi at_1,(vi (IntKind.wrap .i64 (o29.2 + 1)))],le_m0,ok.drop,E.d,⟨rv_c (cs:=[vi o29.1,vs s23,vi at_1,(vi (IntKind.wrap .i64 (o29.2 + 1)))]) E ok rfl qbd rfl (qad.own 0 rfl rfl),trivial⟩,⟨rfl,r33,(Nat.le_trans (qcL e24) ls_0),rat_1,(InR.wrap _ _)⟩⟩
def qiM (u:World) (m0:Mem) (S:Segs) (r:Token) (a:Act) (w:World):Prop :=
 ∃ m1 v0,m0.le m1 ∧ Ok u m1 S w ∧ a.defers = [] ∧ RVs Tryz.prog a w [.c 6 137 (.agg v0.toArray)] ∧ qaV m1 v0 r
theorem qgi (N:Nat) (s_0:List UInt8) (ls_0:s_0.length ≤ LIMS) (at_1:Int) (rat_1:InR .i64 at_1) (depth_2:Int) (rdepth_2:InR .i64 depth_2) {r:Token} (hF:qez N s_0 at_1 depth_2 = some r) (hG:Glob u) (ok:Ok u m0 S w) :
  Calls Tryz.prog 83 [vs s_0,vi at_1,vi depth_2].toArray w fun e w'=>∃ m1 v0,e = .returned (.agg v0.toArray) ∧ m0.le m1 ∧ Ok u m1 S w' ∧ qaV m1 v0 r:=by
 have le_m0:=Mem.le.refl m0
 unfold qez at hF
 refine en (qiM u m0 S) r Tryz.func83 rfl rfl rfl (by rintro a w ⟨m1,v0,hle,ok,hd,hrv,h0⟩; exact qbO [.c 6 137 (.agg v0.toArray)] hd rfl hrv ⟨m1,v0,rfl,hle,ok,h0⟩) fun fin a E=>sg<|qa4 E ok qaL rfl rfl fun b1 a w E ok=>wn<|wp_seq<|sg<|mz E rfl rfl fun a E=>bd hF fun r2 e3 hF=>qag E qrI rfl (qkP N s_0 ls_0 at_1 rat_1 e3 hG ok) rfl rfl ?_
 rintro _ w ⟨⟨rfl,ok⟩,r4⟩
 refine ⟨_,rfl,fun a E=>?_⟩
 refine aw E rfl fun a E=>sg<|mz E rfl rfl fun a E=>lw E (qbk rfl rfl) fun a E=>wn<|cf E rfl hF (fun c5 hF=>?_) fun c5 hF=>?_
 ·refine sg<|mz E rfl rfl fun a E=>mv E rfl fun a E=>bd hF fun s6 e7 hF=>lw E (qdZ Tryz.underlying9 e7 rfl ⟨_,rfl⟩ ⟨_,rfl⟩) fun a E=>mz E rfl rfl fun a E=>lw E (qau (ps:=[(0,.const (vi 1)),(1,.tmp 17),(2,.tmp 18),(3,.tmp 19)]) (qs:=[(0,[vi 1]),(1,[vs s6]),(2,[vi at_1]),(3,[vi r2])]) (cs:=[vi 1,vs s6,vi at_1,vi r2]) qaL qaR rfl ⟨rfl,rfl,rfl,⟨rfl,rfl,rfl,⟨rfl,rfl,rfl,⟨rfl,rfl,rfl,trivial⟩⟩⟩⟩ rfl) fun a E=>qae E ok 0 rfl rfl rfl qaZ rfl rfl ⟨rfl,rfl,rfl,rfl,trivial⟩ rfl rfl fun w ok=>wn<|wp_ret<|qah ?_
  exact fin hF ⟨m0,[vi 1,vs s6,vi at_1,vi r2],le_m0,ok.drop,E.d,⟨rv_c (cs:=[vi 1,vs s6,vi at_1,vi r2]) E ok rfl qbd rfl (qad.own 0 rfl rfl),trivial⟩,⟨rfl,(ir 1),(Nat.le_trans (qcL e7) ls_0),rat_1,r4⟩⟩
 refine wp_skip<|qaa<|wp_seq<|wp_block<|sg<|mz E rfl rfl fun a E=>bd hF fun c8 e9 hF=>lv E ok (qaH Tryz.underlying9 rfl rfl e9) fun a E=>lw E (qao rfl rfl) fun a E=>aw E rfl fun a E=>cf E rfl hF (fun c10 hF=>?_) fun c10 hF=>?_
 ·refine sg<|mz E rfl rfl fun a E=>lw E (qaM rfl rfl) fun a E=>lw E (qau (ps:=[(0,.const (vi 2)),(1,.const (vs ([123]))),(2,.tmp 26),(3,.tmp 28)]) (qs:=[(0,[vi 2]),(1,[(vs ([123]))]),(2,[vi at_1]),(3,[(vi (IntKind.wrap .i64 (at_1 + 1)))])]) (cs:=[vi 2,(vs ([123])),vi at_1,(vi (IntKind.wrap .i64 (at_1 + 1)))]) qaL qaR rfl ⟨rfl,rfl,rfl,⟨rfl,rfl,rfl,⟨rfl,rfl,rfl,⟨rfl,rfl,rfl,trivial⟩⟩⟩⟩ rfl) fun a E=>qae E ok 0 rfl rfl rfl qaZ rfl rfl ⟨rfl,rfl,rfl,rfl,trivial⟩ rfl rfl fun w ok=>wn<|wp_ret<|qaq<|qah ?_
  exact fin hF ⟨m0,[vi 2,(vs ([123])),vi at_1,(vi (IntKind.wrap .i64 (at_1 + 1)))],le_m0,ok.drop,E.d,⟨rv_c (cs:=[vi 2,(vs ([123])),vi at_1,(vi (IntKind.wrap .i64 (at_1 + 1)))]) E ok rfl qbd rfl (qad.own 0 rfl rfl),trivial⟩,⟨rfl,(ir 2),(show ([123]:List UInt8).length ≤ LIMS by decide),rat_1,(InR.wrap _ _)⟩⟩
 refine sg<|mz E rfl rfl fun a E=>bd hF fun c11 e12 hF=>lv E ok (qaH Tryz.underlying9 rfl rfl e12) fun a E=>lw E (qao rfl rfl) fun a E=>mv E rfl fun a E=>bw E 35 hF (fun c13 hF E=>?_) fun c13 hF E=>?_
 ·refine lsq E fun a E=>pf E rfl rfl fun a E=>aw E rfl fun a E=>c_if E rfl (fun h=>by cases h) (fun _=>?_)
  refine sg<|mz E rfl rfl fun a E=>bd hF fun c27 e28 hF=>lv E ok (qaH Tryz.underlying9 rfl rfl e28) fun a E=>lw E (qao rfl rfl) fun a E=>aw E rfl fun a E=>cf E rfl hF (fun c29 hF=>?_) fun c29 hF=>?_
  ·refine sg<|mz E rfl rfl fun a E=>lw E (qaM rfl rfl) fun a E=>lw E (qau (ps:=[(0,.const (vi 4)),(1,.const (vs ([35]))),(2,.tmp 48),(3,.tmp 50)]) (qs:=[(0,[vi 4]),(1,[(vs ([35]))]),(2,[vi at_1]),(3,[(vi (IntKind.wrap .i64 (at_1 + 1)))])]) (cs:=[vi 4,(vs ([35])),vi at_1,(vi (IntKind.wrap .i64 (at_1 + 1)))]) qaL qaR rfl ⟨rfl,rfl,rfl,⟨rfl,rfl,rfl,⟨rfl,rfl,rfl,⟨rfl,rfl,rfl,trivial⟩⟩⟩⟩ rfl) fun a E=>qae E ok 0 rfl rfl rfl qaZ rfl rfl ⟨rfl,rfl,rfl,rfl,trivial⟩ rfl rfl fun w ok=>wn<|wp_ret<|qaq<|qah ?_
   exact fin hF ⟨m0,[vi 4,(vs ([35])),vi at_1,(vi (IntKind.wrap .i64 (at_1 + 1)))],le_m0,ok.drop,E.d,⟨rv_c (cs:=[vi 4,(vs ([35])),vi at_1,(vi (IntKind.wrap .i64 (at_1 + 1)))]) E ok rfl qbd rfl (qad.own 0 rfl rfl),trivial⟩,⟨rfl,(ir 4),(show ([35]:List UInt8).length ≤ LIMS by decide),rat_1,(InR.wrap _ _)⟩⟩
  refine wp_skip<|qaf<|qaa<|sg<|mz E rfl rfl fun a E=>bd hF fun r30 e31 hF=>qag E qoR rfl (qhG N s_0 ls_0 at_1 rat_1 e31 hG ok) rfl rfl ?_
  rintro _ w ⟨m32,vs33,rfl,hle,ok,h34⟩
  have le_m0:=le_m0.trans hle
  obtain ⟨rfl,r35,l36,r37,r38⟩:=h34
  refine ⟨_,rfl,fun a E=>?_⟩
  refine qae E ok 0 rfl rfl rfl qaZ rfl rfl ⟨rfl,rfl,rfl,rfl,trivial⟩ rfl rfl fun w ok=>wn<|wp_ret ?_
  exact fin hF ⟨m32,[vi r30.Kind,vs r30.Text,vi r30.From,vi r30.To],le_m0,ok.drop,E.d,⟨rv_c (cs:=[vi r30.Kind,vs r30.Text,vi r30.From,vi r30.To]) E ok rfl qbd rfl (qad.own 0 rfl rfl),trivial⟩,⟨rfl,r35,l36,r37,r38⟩⟩
 refine mv E rfl fun a E=>lw E (qbk rfl rfl) fun a E=>pt E rfl rfl fun a E=>aw E rfl fun a E=>cf E rfl hF (fun c14 hF=>?_) fun c14 hF=>?_
 ·refine sg<|mz E rfl rfl fun a E=>lw E (qaM rfl rfl) fun a E=>lw E (qau (ps:=[(0,.const (vi 3)),(1,.const (vs ([125]))),(2,.tmp 39),(3,.tmp 41)]) (qs:=[(0,[vi 3]),(1,[(vs ([125]))]),(2,[vi at_1]),(3,[(vi (IntKind.wrap .i64 (at_1 + 1)))])]) (cs:=[vi 3,(vs ([125])),vi at_1,(vi (IntKind.wrap .i64 (at_1 + 1)))]) qaL qaR rfl ⟨rfl,rfl,rfl,⟨rfl,rfl,rfl,⟨rfl,rfl,rfl,⟨rfl,rfl,rfl,trivial⟩⟩⟩⟩ rfl) fun a E=>qae E ok 0 rfl rfl rfl qaZ rfl rfl ⟨rfl,rfl,rfl,rfl,trivial⟩ rfl rfl fun w ok=>wn<|wp_ret<|qaq<|qah ?_
  exact fin hF ⟨m0,[vi 3,(vs ([125])),vi at_1,(vi (IntKind.wrap .i64 (at_1 + 1)))],le_m0,ok.drop,E.d,⟨rv_c (cs:=[vi 3,(vs ([125])),vi at_1,(vi (IntKind.wrap .i64 (at_1 + 1)))]) E ok rfl qbd rfl (qad.own 0 rfl rfl),trivial⟩,⟨rfl,(ir 3),(show ([125]:List UInt8).length ≤ LIMS by decide),rat_1,(InR.wrap _ _)⟩⟩
 refine sg<|mz E rfl rfl fun a E=>bd hF fun c15 e16 hF=>lv E ok (qaH Tryz.underlying9 rfl rfl e16) fun a E=>lw E (qao rfl rfl) fun a E=>aw E rfl fun a E=>cf E rfl hF (fun c17 hF=>?_) fun c17 hF=>?_
 ·refine sg<|mz E rfl rfl fun a E=>lw E (qaM rfl rfl) fun a E=>lw E (qau (ps:=[(0,.const (vi 4)),(1,.const (vs ([35]))),(2,.tmp 48),(3,.tmp 50)]) (qs:=[(0,[vi 4]),(1,[(vs ([35]))]),(2,[vi at_1]),(3,[(vi (IntKind.wrap .i64 (at_1 + 1)))])]) (cs:=[vi 4,(vs ([35])),vi at_1,(vi (IntKind.wrap .i64 (at_1 + 1)))]) qaL qaR rfl ⟨rfl,rfl,rfl,⟨rfl,rfl,rfl,⟨rfl,rfl,rfl,⟨rfl,rfl,rfl,trivial⟩⟩⟩⟩ rfl) fun a E=>qae E ok 0 rfl rfl rfl qaZ rfl rfl ⟨rfl,rfl,rfl,rfl,trivial⟩ rfl rfl fun w ok=>wn<|wp_ret<|qaq<|qah ?_
  exact fin hF ⟨m0,[vi 4,(vs ([35])),vi at_1,(vi (IntKind.wrap .i64 (at_1 + 1)))],le_m0,ok.drop,E.d,⟨rv_c (cs:=[vi 4,(vs ([35])),vi at_1,(vi (IntKind.wrap .i64 (at_1 + 1)))]) E ok rfl qbd rfl (qad.own 0 rfl rfl),trivial⟩,⟨rfl,(ir 4),(show ([35]:List UInt8).length ≤ LIMS by decide),rat_1,(InR.wrap _ _)⟩⟩
 refine wp_skip<|qaf<|qaa<|sg<|mz E rfl rfl fun a E=>bd hF fun r18 e19 hF=>qag E qoR rfl (qhG N s_0 ls_0 at_1 rat_1 e19 hG ok) rfl rfl ?_
 rintro _ w ⟨m20,vs21,rfl,hle,ok,h22⟩
 have le_m0:=le_m0.trans hle
 obtain ⟨rfl,r23,l24,r25,r26⟩:=h22
 refine ⟨_,rfl,fun a E=>?_⟩
 refine qae E ok 0 rfl rfl rfl qaZ rfl rfl ⟨rfl,rfl,rfl,rfl,trivial⟩ rfl rfl fun w ok=>wn<|wp_ret ?_
 exact fin hF ⟨m20,[vi r18.Kind,vs r18.Text,vi r18.From,vi r18.To],le_m0,ok.drop,E.d,⟨rv_c (cs:=[vi r18.Kind,vs r18.Text,vi r18.From,vi r18.To]) E ok rfl qbd rfl (qad.own 0 rfl rfl),trivial⟩,⟨rfl,r23,l24,r25,r26⟩⟩
def qgZ (u:World) (m0:Mem) (S:Segs) (r:(List (Token)) × Int × Int) (a:Act) (w:World):Prop :=
 ∃ m1 v0,m0.le m1 ∧ Ok u m1 S w ∧ a.defers = [] ∧ RVs Tryz.prog a w [.t 2 v0,.t 3 (.int .i64 r.2.1),.t 4 (.int .i64 r.2.2)] ∧ (pL 4 qaV) m1 [v0] r.1 ∧ InR .i64 r.2.1 ∧ InR .i64 r.2.2
theorem qjM (N:Nat) (s_0:List UInt8) (ls_0:s_0.length ≤ LIMS) {r:(List (Token)) × Int × Int} (hF:qf5 N s_0 = some r) (hG:Glob u) (ok:Ok u m0 S w) :
  Calls Tryz.prog 63 [vs s_0].toArray w fun e w'=>∃ m1 v0,e = .returned (.tuple [v0,(.int .i64 r.2.1),(.int .i64 r.2.2)].toArray) ∧ m0.le m1 ∧ Ok u m1 S w' ∧ (pL 4 qaV) m1 [v0] r.1 ∧ InR .i64 r.2.1 ∧ InR .i64 r.2.2:=by
 have le_m0:=Mem.le.refl m0
 unfold qf5 at hF
 refine en (qgZ u m0 S) r Tryz.func63 rfl rfl rfl (by rintro a w ⟨m1,v0,hle,ok,hd,hrv,h0,h1,h2⟩; exact qbO [.t 2 v0,.t 3 (.int .i64 r.2.1),.t 4 (.int .i64 r.2.2)] hd rfl hrv ⟨m1,v0,rfl,hle,ok,h0,h1,h2⟩) fun fin a E=>sg<|av E rfl fun a E=>av E rfl fun a E=>aw E rfl fun a E=>wp_seq<|sg<|mv E rfl fun a E=>lw E (qaI Tryz.underlying9 rfl) fun a E=>lw E (qbk rfl rfl) fun a E=>wn<|cf E rfl hF (fun c1 hF=>?_) fun c1 hF=>?_
 ·refine sg<|av E rfl fun a E=>av E rfl fun a E=>aw E rfl fun a E=>wp_ret<|qah ?_
  exact fin hF ⟨m0,(.slice none 0 0),le_m0,ok,E.d,⟨rv_t E rfl,rv_t E rfl,rv_t E rfl,trivial⟩,qct,(ir 4000),(ir 6)⟩
 refine wp_skip<|qaa<|sg<|aw E rfl fun a E=>sg<|av E rfl fun a E=>aw E rfl fun a E=>wp_seq<|wp_block ?_
 obtain ⟨M9,ok,h10⟩:=qeq (e:=137) (k:=4) (R:=qaV) ok
 refine bd hF fun o11 hL hF=>qa9 _ (fun (s:(List (Token)) × Int × Int) a w=>∃ m12 c13 M14,m0.le m12 ∧ Ok u m12 (M14 :: S) w ∧ Env 62 a [(0,vs s_0),(5,c13),(6,vi s.2.1),(7,vi s.2.2)] ∧ ORow 137 4 qaV m12 c13 s.1 M14 ∧ InR .i64 s.2.1 ∧ InR .i64 s.2.2) (fun (b:(((List (Token)) × Int) ⊕ ((List (Token)) × Int × Int))) e a w=>(Sum.elim (fun b134=>e = (.exit 0) ∧ ∃ m135 c136 M137,m0.le m135 ∧ Ok u m135 (M137 :: S) w ∧ Env 62 a [(0,vs s_0),(5,c136),(7,vi b134.2)] ∧ ORow 137 4 qaV m135 c136 b134.1 M137 ∧ InR .i64 b134.2) (fun b140=>e = .ret ∧ qgZ u m0 S b140 a w)) b) ?_ ?_ N _ a w hL ⟨m0,(Value.slice none 0 0),M9,Mem.le.refl _,ok,E.keep [0,5,6,7],h10,(ir 0),(ir 0)⟩
 rotate_left
 ·intro e a w _ hO
  rcases o11 with o11 | o11
  rotate_left
  ·obtain ⟨rfl,hret⟩:=hO
   refine qaq<|qah ?_
   exact fin hF hret
  have hF:=qbV hF
  obtain ⟨rfl,m126,c127,M128,hle,ok,E,h129,r130⟩:=hO
  have le_m0:=le_m0.trans hle
  refine qbm<|qaa<|wp_seq<|sg<|mv E rfl fun a E=>lw E (qbk rfl rfl) fun a E=>wn<|cf E rfl hF (fun c131 hF=>?_) fun c131 hF=>?_
  ·refine sg<|mv E rfl fun a E=>lw E (qaI Tryz.underlying9 rfl) fun a E=>av E rfl fun a E=>av E rfl fun a E=>av E rfl fun a E=>wn<|wp_ret<|qah ?_
   exact fin hF ⟨m126,(.slice none 0 0),le_m0,ok.drop,E.d,⟨rv_t E rfl,rv_t E rfl,rv_t E rfl,trivial⟩,qct,(InR.len ls_0),(ir 3)⟩
  refine wp_skip<|qaa<|sg<|mv E rfl fun a E=>av E rfl fun a E=>av E rfl fun a E=>av E rfl fun a E=>wn<|wp_ret ?_
  obtain ⟨m132,hle,ok,hfz⟩:=(ok.frs 0 rfl).freeze
  have h133:=ORow.froz qab h129 hle hfz (by decide)
  have le_m0:=le_m0.trans hle
  exact fin hF ⟨m132,c127,le_m0,ok,E.d,⟨rv_t E rfl,rv_t E rfl,rv_t E rfl,trivial⟩,h133,(ir 0),(ir 0)⟩
 rintro ⟨v18,v19,v20⟩ a w r ⟨m21,c22,M23,hle,ok,E,h24,r25,r26⟩ hF
 replace hF:qft N s_0 v18 v19 v20 = some r:=hF
 unfold qft at hF
 have le_m0:=le_m0.trans hle
 refine wp_seq<|sg<|mz E rfl rfl fun a E=>lw E (qaI Tryz.underlying9 rfl) fun a E=>lw E (qaO rfl rfl) fun a E=>wn<|cg E rfl hF (fun c27 hF=>?_) fun c27 hF=>?_
 ·refine wp_exit<|qaU ?_
  cases hF
  exact so (sl ⟨rfl,⟨m21,c22,M23,le_m0,ok,E.keep [0,5,7],h24,r26⟩⟩)
 refine wp_skip<|qaa<|wp_block<|sg<|mv E rfl fun a E=>bd hF fun q28 e29 hF=>lw E (y_rm rfl rfl e29) fun a E=>lw E (qao rfl rfl) fun a E=>aw E rfl fun a E=>wp_seq<|sg<|mz E rfl rfl fun a E=>bw E 21 hF (fun c30 hF E=>?_) fun c30 hF E=>?_
 ·as_aux_lemma =>
   refine lsz E fun a E=>pf E rfl rfl fun a E=>wn<|c_if E rfl (fun h=>by cases h) (fun _=>?_)
   refine wp_skip<|qaa<|sg<|lw E (qau (ps:=[]) (qs:=[]) (cs:=[vi 0,(vs ([])),vi 0,vi 0]) qaL qaR rfl trivial rfl) fun a E=>qa4 E ok qaL rfl rfl fun b81 a w E ok=>qae E ok 0 rfl rfl rfl qaZ rfl rfl ⟨rfl,rfl,rfl,rfl,trivial⟩ rfl rfl fun w ok=>wn<|wp_seq<|sg<|mv E rfl fun a E=>wn<|bd hF fun o82 hJ hF=>qaG (Q':=fun e a w=>e = .normal ∧ ∃ m83,m21.le m83 ∧ Ok u m83 ([(b81,oc 137 [vi o82.Kind,vs o82.Text,vi o82.From,vi o82.To])] :: M23 :: S) w ∧ Env 62 a [(0,vs s_0),(5,c22),(6,vi v19),(7,vi v20),(9,vp b81)] ∧ InR .i64 o82.Kind ∧ o82.Text.length ≤ LIMS ∧ InR .i64 o82.From ∧ InR .i64 o82.To) ?_ ?_
   ·have hF:=hJ
    have le_m21:=Mem.le.refl m21
    refine cf E rfl hF (fun c88 hF=>?_) fun c88 hF=>?_
    ·refine qac<|mz E rfl rfl fun a E=>bd hF fun r89 e90 hF=>qag E qqr rfl (qgQ N s_0 ls_0 v19 r25 e90 hG ok) rfl rfl ?_
     rintro _ w ⟨m91,vs92,rfl,hle,ok,h93⟩
     have le_m0:=le_m0.trans hle
     have le_m21:=le_m21.trans hle
     have h24:=ORow.up qab hle h24
     obtain ⟨rfl,r94,l95,r96,r97⟩:=h93
     refine ⟨_,rfl,fun a E=>?_⟩
     refine qae E ok 0 rfl rfl rfl qaZ rfl rfl ⟨rfl,rfl,rfl,rfl,trivial⟩ rfl rfl fun w ok=>wpList_nil ?_
     cases hF
     exact ⟨rfl,⟨m91,le_m21,ok,E.keep [0,5,6,7,9],r94,l95,r96,r97⟩⟩
    refine qac<|mz E rfl rfl fun a E=>mv E rfl fun a E=>bd hF fun r98 e99 hF=>qag E qqf rfl (qgi N s_0 ls_0 v19 r25 v20 r26 e99 hG ok) rfl rfl ?_
    rintro _ w ⟨m100,vs101,rfl,hle,ok,h102⟩
    have le_m0:=le_m0.trans hle
    have le_m21:=le_m21.trans hle
    have h24:=ORow.up qab hle h24
    obtain ⟨rfl,r103,l104,r105,r106⟩:=h102
    refine ⟨_,rfl,fun a E=>?_⟩
    refine qae E ok 0 rfl rfl rfl qaZ rfl rfl ⟨rfl,rfl,rfl,rfl,trivial⟩ rfl rfl fun w ok=>wpList_nil ?_
    cases hF
    exact ⟨rfl,⟨m100,le_m21,ok,E.keep [0,5,6,7,9],r103,l104,r105,r106⟩⟩
   intro e a w hO
   obtain ⟨rfl,m107,hle,ok,E,r108,l109,r110,r111⟩:=hO
   have le_m0:=le_m0.trans hle
   have h24:=ORow.up qab hle h24
   refine qaa<|wp_seq<|sg<|fk E ok qcT qap rfl 0 rfl rfl fun a E=>wn<|wp_block<|sg<|lw E (qao rfl rfl) fun a E=>aw E rfl fun a E=>cf E rfl hF (fun c112 hF=>?_) fun c112 hF=>?_
   ·refine sg<|mv E rfl fun a E=>av E rfl fun a E=>av E rfl fun a E=>aw E rfl fun a E=>wp_ret<|qaq<|qah<|qaq ?_
    cases hF
    exact so (sr ⟨rfl,⟨m107,(.slice none 0 0),le_m0,ok.drop.drop,E.d,⟨rv_t E rfl,rv_t E rfl,rv_t E rfl,trivial⟩,qct,r25,(ir 3)⟩⟩)
   refine sg<|lw E (qao rfl rfl) fun a E=>aw E rfl fun a E=>bd hF fun o113 hJ hF=>qaG (Q':=fun e a w=>e = .normal ∧ Ok u m107 ([(b81,oc 137 [vi o82.Kind,vs o82.Text,vi o82.From,vi o82.To])] :: M23 :: S) w ∧ Env 62 a [(0,vs s_0),(5,c22),(7,vi o113),(9,vp b81)] ∧ InR .i64 o113) ?_ ?_
   rotate_left
   ·intro e a w hO
    obtain ⟨rfl,ok,E,r117⟩:=hO
    refine qaf<|qaa<|sg<|mv E rfl fun a E=>lv E ok (qas (cs:=[vi o82.Kind,vs o82.Text,vi o82.From,vi o82.To]) qbd rfl rfl (qad.own 0 rfl rfl)) fun a E=>qbq (R:=qaV) (xo:=[.tmp 52]) (xs:=([o82]:List (Token))) E ok qhC qaL rfl ⟨⟨_,rfl,rfl,⟨rfl,r108,l109,r110,r111⟩⟩,trivial⟩ rfl rfl rfl rfl fun c118 M119 a w E ok h120=>bd hF fun l121 e122 hF=>qbX (R:=qaV) E ok 2 qab qhC Tryz.underlying116 rfl h24 (qbs.ofRow h120 0 rfl ok) e122 ⟨_,qaL,rfl⟩ rfl rfl rfl rfl fun c123 M124 a w E ok h125=>aw E rfl fun a E=>qac<|fk E ok qnh qap rfl 1 rfl rfl fun a E=>av E rfl fun a E=>wpList_nil<|qaf ?_
    cases hF
    exact qar ⟨m107,c123,M124,le_m0,(ok.pk 3 [2] rfl (by decide)),E.keep [0,5,6,7],h125,r111,r117⟩
   have hF:=hJ
   refine cf E rfl hF (fun c115 hF=>?_) fun c115 hF=>?_
   ·refine qac<|mv E rfl fun a E=>lw E (qaM rfl rfl) fun a E=>av E rfl fun a E=>wpList_nil ?_
    cases hF
    exact ⟨rfl,⟨ok,E.keep [0,5,7,9],(InR.wrap _ _)⟩⟩
   refine sg<|lw E (qao rfl rfl) fun a E=>aw E rfl fun a E=>cg E rfl hF (fun c116 hF=>?_) fun c116 hF=>?_
   ·refine wp_skip ?_
    cases hF
    exact ⟨rfl,⟨ok,E.keep [0,5,7,9],r26⟩⟩
   refine qac<|mv E rfl fun a E=>lw E (qes rfl rfl) fun a E=>av E rfl fun a E=>wpList_nil ?_
   cases hF
   exact ⟨rfl,⟨ok,E.keep [0,5,7,9],(InR.wrap _ _)⟩⟩
 refine mz E rfl rfl fun a E=>bd hF fun c31 e32 hF=>lv E ok (qaH Tryz.underlying9 rfl rfl e32) fun a E=>bd hF fun r33 e34 hF=>lc E qsb rfl (qj8 N (c31.toNat:Int) (InR.byte c31) e34 hG ok) fun w ok a E=>pt E rfl rfl fun a E=>wn<|cf E rfl hF (fun c35 hF=>?_) fun c35 hF=>?_
 ·refine sg<|mv E rfl fun a E=>lw E (qaA rfl rfl (InR.inc r25 (InR.len ls_0) c27)) fun a E=>aw E rfl fun a E=>wp_exit<|qaU<|qbm ?_
  cases hF
  exact qar ⟨m21,c22,M23,le_m0,ok,E.keep [0,5,6,7],h24,(InR.inc r25 (InR.len ls_0) c27),r26⟩
 refine wp_skip<|qaa<|sg<|lw E (qau (ps:=[]) (qs:=[]) (cs:=[vi 0,(vs ([])),vi 0,vi 0]) qaL qaR rfl trivial rfl) fun a E=>qa4 E ok qaL rfl rfl fun b36 a w E ok=>qae E ok 0 rfl rfl rfl qaZ rfl rfl ⟨rfl,rfl,rfl,rfl,trivial⟩ rfl rfl fun w ok=>wn<|wp_seq<|sg<|mv E rfl fun a E=>wn<|bd hF fun o37 hJ hF=>qaG (Q':=fun e a w=>e = .normal ∧ ∃ m38,m21.le m38 ∧ Ok u m38 ([(b36,oc 137 [vi o37.Kind,vs o37.Text,vi o37.From,vi o37.To])] :: M23 :: S) w ∧ Env 62 a [(0,vs s_0),(5,c22),(6,vi v19),(7,vi v20),(9,vp b36)] ∧ InR .i64 o37.Kind ∧ o37.Text.length ≤ LIMS ∧ InR .i64 o37.From ∧ InR .i64 o37.To) ?_ ?_
 ·have hF:=hJ
  have le_m21:=Mem.le.refl m21
  refine cf E rfl hF (fun c43 hF=>?_) fun c43 hF=>?_
  ·refine qac<|mz E rfl rfl fun a E=>bd hF fun r44 e45 hF=>qag E qqr rfl (qgQ N s_0 ls_0 v19 r25 e45 hG ok) rfl rfl ?_
   rintro _ w ⟨m46,vs47,rfl,hle,ok,h48⟩
   have le_m0:=le_m0.trans hle
   have le_m21:=le_m21.trans hle
   have h24:=ORow.up qab hle h24
   obtain ⟨rfl,r49,l50,r51,r52⟩:=h48
   refine ⟨_,rfl,fun a E=>?_⟩
   refine qae E ok 0 rfl rfl rfl qaZ rfl rfl ⟨rfl,rfl,rfl,rfl,trivial⟩ rfl rfl fun w ok=>wpList_nil ?_
   cases hF
   exact ⟨rfl,⟨m46,le_m21,ok,E.keep [0,5,6,7,9],r49,l50,r51,r52⟩⟩
  refine qac<|mz E rfl rfl fun a E=>mv E rfl fun a E=>bd hF fun r53 e54 hF=>qag E qqf rfl (qgi N s_0 ls_0 v19 r25 v20 r26 e54 hG ok) rfl rfl ?_
  rintro _ w ⟨m55,vs56,rfl,hle,ok,h57⟩
  have le_m0:=le_m0.trans hle
  have le_m21:=le_m21.trans hle
  have h24:=ORow.up qab hle h24
  obtain ⟨rfl,r58,l59,r60,r61⟩:=h57
  refine ⟨_,rfl,fun a E=>?_⟩
  refine qae E ok 0 rfl rfl rfl qaZ rfl rfl ⟨rfl,rfl,rfl,rfl,trivial⟩ rfl rfl fun w ok=>wpList_nil ?_
  cases hF
  exact ⟨rfl,⟨m55,le_m21,ok,E.keep [0,5,6,7,9],r58,l59,r60,r61⟩⟩
 intro e a w hO
 obtain ⟨rfl,m62,hle,ok,E,r63,l64,r65,r66⟩:=hO
 have le_m0:=le_m0.trans hle
 have h24:=ORow.up qab hle h24
 refine qaa<|wp_seq<|sg<|fk E ok qcT qap rfl 0 rfl rfl fun a E=>wn<|wp_block<|sg<|lw E (qao rfl rfl) fun a E=>aw E rfl fun a E=>cf E rfl hF (fun c67 hF=>?_) fun c67 hF=>?_
 ·refine sg<|mv E rfl fun a E=>av E rfl fun a E=>av E rfl fun a E=>aw E rfl fun a E=>wp_ret<|qaq<|qah<|qaq ?_
  cases hF
  exact so (sr ⟨rfl,⟨m62,(.slice none 0 0),le_m0,ok.drop.drop,E.d,⟨rv_t E rfl,rv_t E rfl,rv_t E rfl,trivial⟩,qct,r25,(ir 3)⟩⟩)
 refine sg<|lw E (qao rfl rfl) fun a E=>aw E rfl fun a E=>bd hF fun o68 hJ hF=>qaG (Q':=fun e a w=>e = .normal ∧ Ok u m62 ([(b36,oc 137 [vi o37.Kind,vs o37.Text,vi o37.From,vi o37.To])] :: M23 :: S) w ∧ Env 62 a [(0,vs s_0),(5,c22),(7,vi o68),(9,vp b36)] ∧ InR .i64 o68) ?_ ?_
 rotate_left
 ·intro e a w hO
  obtain ⟨rfl,ok,E,r72⟩:=hO
  refine qaf<|qaa<|sg<|mv E rfl fun a E=>lv E ok (qas (cs:=[vi o37.Kind,vs o37.Text,vi o37.From,vi o37.To]) qbd rfl rfl (qad.own 0 rfl rfl)) fun a E=>qbq (R:=qaV) (xo:=[.tmp 52]) (xs:=([o37]:List (Token))) E ok qhC qaL rfl ⟨⟨_,rfl,rfl,⟨rfl,r63,l64,r65,r66⟩⟩,trivial⟩ rfl rfl rfl rfl fun c73 M74 a w E ok h75=>bd hF fun l76 e77 hF=>qbX (R:=qaV) E ok 2 qab qhC Tryz.underlying116 rfl h24 (qbs.ofRow h75 0 rfl ok) e77 ⟨_,qaL,rfl⟩ rfl rfl rfl rfl fun c78 M79 a w E ok h80=>aw E rfl fun a E=>qac<|fk E ok qnh qap rfl 1 rfl rfl fun a E=>av E rfl fun a E=>wpList_nil<|qaf ?_
  cases hF
  exact qar ⟨m62,c78,M79,le_m0,(ok.pk 3 [2] rfl (by decide)),E.keep [0,5,6,7],h80,r66,r72⟩
 have hF:=hJ
 refine cf E rfl hF (fun c70 hF=>?_) fun c70 hF=>?_
 ·refine qac<|mv E rfl fun a E=>lw E (qaM rfl rfl) fun a E=>av E rfl fun a E=>wpList_nil ?_
  cases hF
  exact ⟨rfl,⟨ok,E.keep [0,5,7,9],(InR.wrap _ _)⟩⟩
 refine sg<|lw E (qao rfl rfl) fun a E=>aw E rfl fun a E=>cg E rfl hF (fun c71 hF=>?_) fun c71 hF=>?_
 ·refine wp_skip ?_
  cases hF
  exact ⟨rfl,⟨ok,E.keep [0,5,7,9],r26⟩⟩
 refine qac<|mv E rfl fun a E=>lw E (qes rfl rfl) fun a E=>av E rfl fun a E=>wpList_nil ?_
 cases hF
 exact ⟨rfl,⟨ok,E.keep [0,5,7,9],(InR.wrap _ _)⟩⟩
end Go.Proofs.YtllnjbnknjpbjaaGreatDoor
