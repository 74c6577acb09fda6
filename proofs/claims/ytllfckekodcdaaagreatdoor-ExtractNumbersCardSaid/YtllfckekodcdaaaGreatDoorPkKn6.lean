/- Texts of this proof, put together by pack.py: what its declarations name. -/
import Derived.Test.YtllfckekodcdaaaGreatDoorPkKn5
import Derived.Test.YtllfckekodcdaaaGreatDoorCards
import Derived.Test.YtllfckekodcdaaaGreatDoorChecked
import Derived.Test.YtllfckekodcdaaaGreatDoorProg
import Derived.Test.YtllfckekodcdaaaGreatDoorRows
import Derived.Test.YtllfckekodcdaaaGreatDoorTie
set_option linter.unusedVariables false
set_option linter.unusedSimpArgs false
namespace Go.Proofs.YtllfckekodcdaaaGreatDoor
open Go.X
variable {u:World} {m0:Mem} {S:Segs} {w:World}
set_option maxHeartbeats 4000000
set_option maxRecDepth 100000
def qkA:Rp Place:=fun _ cs x=>cs = [.int .i64 x.File,.int .i64 x.Offset] ∧ InR .i64 x.File ∧ InR .i64 x.Offset
def qbm:Ro (Entry):=fun m cs x M=>∃ c3 c4 c6 M3 M6,cs = [.string (bs x.ID),.string (bs x.Source),.string (bs x.Target),c3,c4,.int .i64 x.State,c6] ∧ M = M3 ++ M6 ∧ x.ID.length ≤ LIMS ∧ x.Source.length ≤ LIMS ∧ x.Target.length ≤ LIMS ∧ ORow 9 1 pS m c3 x.Comments M3 ∧ (pL 1 pS) m [c4] x.Flags ∧ InR .i64 x.State ∧ ORow 58 2 qft m c6 x.Fields M6
theorem qpI:MonoO qbm:=⟨fun hm h=>by
 obtain ⟨c3,c4,c6,M3,M6,e,eM,h0,h1,h2,h3,h4,h5,h6⟩:=h
 exact ⟨c3,c4,c6,M3,M6,e,eM,h0,h1,h2,h3.up mS hm,(mL mS).up hm h4,h5,h6.up qky hm⟩⟩
theorem qpZ:FrozO qbm qfB:=⟨fun h hle hf=>by
 obtain ⟨c3,c4,c6,M3,M6,e,eM,h0,h1,h2,h3,h4,h5,h6⟩:=h
 exact ⟨c3,c4,c6,e,h0,h1,h2,h3.froz mS hle (fun p hp=>hf p (by rw [eM]; exact List.mem_append_left _ hp)) (by decide),(mL mS).up hle h4,h5,h6.froz qky hle (fun p hp=>hf p (by rw [eM]; exact List.mem_append_right _ hp)) (by decide)⟩⟩
theorem qrA {m m':Mem} {cs:List Value} {x:Entry} {M:List (Nat × Obj)} (hf:x.Flags = []) (h:qbm m cs x M):qbm m' cs x M:=by
 obtain ⟨c3,c4,c6,M3,M6,e,eM,h0,h1,h2,h3,h4,h5,h6⟩:=h
 refine ⟨c3,c4,c6,M3,M6,e,eM,h0,h1,h2,h3.chg (fun _ _ h=>h),?_,h5,h6.chg (fun _ _ h=>h)⟩
 rw [hf] at h4 ⊢
 exact qrB h4
theorem qp4 {m:Mem} {cs:List Value} {x:Entry} {M:List (Nat × Obj)} (h:qbm m cs x M):∀ q ∈ M,q.2.isCells = true:=by
 obtain ⟨c3,c4,c6,M3,M6,e,eM,h0,h1,h2,h3,h4,h5,h6⟩:=h
 intro q hq
 rw [eM] at hq
 rcases List.mem_append.1 hq with hq | hq
 ·exact h3.isCells q hq
 ·exact h6.isCells q hq
theorem qkE {m:Mem} {v:Value} {xs:List Entry} {M:List (Nat × Obj)} (h:NRow 53 7 qbm m v xs M):∀ q ∈ M,q.2.isCells = true:=by
 obtain ⟨cs,ms,M1,h1,rfl,h3⟩:=h
 intro q hq
 rcases List.mem_append.1 hq with hq | hq
 ·exact h1.isCells q hq
 ·obtain ⟨M2,hM,hq⟩:=List.mem_flatten.1 hq
  obtain ⟨i,hi,rfl⟩:=List.mem_iff_getElem.1 hM
  obtain ⟨c,hc⟩:=qii (l:=cs) (i:=i) (by rw [h3.l1,← h3.l2]; exact hi)
  obtain ⟨x,hx⟩:=qii (l:=xs) (i:=i) (by rw [← h3.l2]; exact hi)
  exact qp4 (h3.el hc hx (List.getElem?_eq_getElem hi)) q hq
theorem qu9 {N:Nat} {i:Int} {f:File} {rs:List Found2} {ix:Mp} {out:List Entry} (h:qfL N i f rs ix out = true) (K:Nat) :
  f.Name.length ≤ 1000000 ∧ f.Text.length ≤ 1000000 ∧ rs.length ≤ 1000000 ∧ rs.length < N ∧ (∀ x ∈ rs,x.offset ≤ (f.Text.length:Int)) ∧ Sb N rs.length K 0 ix out:=by
 unfold qfL at h
 simp only [Bool.and_eq_true,decide_eq_true_eq,List.all_eq_true] at h
 obtain ⟨⟨h1,h2,h3,h4,h5,h6,h7,hN⟩,h8,h9,h10⟩:=h
 refine ⟨h3,h4,h5,hN,h8,by omega,by omega,fun p hp=>⟨(h9 p hp).1,(h9 p hp).2.1⟩,fun e he=>?_,fun e he=>?_,fun e he=>(h10 e he).1.2.2.2.1⟩
 ·obtain ⟨⟨g1,g2,g3,g4,g5⟩,g6⟩:=h10 e he
  match hf:e.Fields,g1 with
  | [g],_=>exact ⟨g,rfl,by have:=g6 g (by rw [hf]; exact List.mem_singleton.2 rfl); omega⟩
 ·obtain ⟨⟨g1,g2,g3,g4,g5⟩,g6⟩:=h10 e he
  omega
def qbG (u:World) (m0:Mem) (S:Segs) (r:(List (Entry)) × Place × Int) (a:Act) (w:World):Prop :=
 ∃ m1 v0 v1,m0.le m1 ∧ Ok u m1 S w ∧ a.defers = [] ∧ RVs Tryz.prog a w [.c 6 44 v0,.c 7 46 (.agg v1.toArray),.c 8 47 (.int .i64 r.2.2)] ∧ (pL 7 qfB) m1 [v0] r.1 ∧ qkA m1 v1 r.2.1 ∧ InR .i64 r.2.2
theorem qiT (N:Nat) (vscript_0:Value) (script_0:List (State)) (hscript_0:(pL 2 qbA) m0 [vscript_0] script_0) (vcalls_1:Value) (calls_1:List (Call)) (hcalls_1:(pL 3 qdd) m0 [vcalls_1] calls_1) (vfiles_2:Value) (files_2:List (File)) (hfiles_2:(pL 2 qef) m0 [vfiles_2] files_2) {r:(List (Entry)) × Place × Int} (hF:qep N script_0 calls_1 files_2 = some r) (hG:Glob u) (hTb:Tab u) (ok:Ok u m0 S w) :
  Calls Tryz.prog 28 [vscript_0,vcalls_1,vfiles_2].toArray w fun e w'=>∃ m1 v0 v1,e = .returned (.tuple [v0,(.agg v1.toArray),(.int .i64 r.2.2)].toArray) ∧ m0.le m1 ∧ Ok u m1 S w' ∧ (pL 7 qfB) m1 [v0] r.1 ∧ qkA m1 v1 r.2.1 ∧ InR .i64 r.2.2:=by
 have le_m0:=Mem.le.refl m0
 unfold qep at hF
 have fin:∀ a w,qbG u m0 S r a w → bodyPostM Fence.wide 3 Tryz.prog Tryz.f28 (fun e w'=>∃ m1 v0 v1,e = .returned (.tuple [v0,(.agg v1.toArray),(.int .i64 r.2.2)].toArray) ∧ m0.le m1 ∧ Ok u m1 S w' ∧ (pL 7 qfB) m1 [v0] r.1 ∧ qkA m1 v1 r.2.1 ∧ InR .i64 r.2.2) .ret a w:=by
  intro a w h
  obtain ⟨m1,v0,v1,hle,ok,hd,hrv,h0,h1,h2⟩:=h
  exact qsg (qbs [.c 6 44 v0,.c 7 46 (.agg v1.toArray),.c 8 47 (.int .i64 r.2.2)] hd rfl hrv ⟨m1,v0,v1,rfl,hle,ok,h0,h1,h2⟩)
 have finD:∀ a w Ds,(∀ D ∈ Ds,w.heap[D]? = some (.deferred (some []))) → Ds.Nodup → qbG u m0 S r a (taken w Ds) → bodyPostM Fence.wide 3 Tryz.prog Tryz.f28 (fun e w'=>∃ m1 v0 v1,e = .returned (.tuple [v0,(.agg v1.toArray),(.int .i64 r.2.2)].toArray) ∧ m0.le m1 ∧ Ok u m1 S w' ∧ (pL 7 qfB) m1 [v0] r.1 ∧ qkA m1 v1 r.2.1 ∧ InR .i64 r.2.2) .ret { a with defers:=qiu Ds } w:=by
  intro a w Ds hK hn h
  obtain ⟨m1,v0,v1,hle,ok,hd,hrv,h0,h1,h2⟩:=h
  exact qtZ Ds hK hn (qbs [.c 6 44 v0,.c 7 46 (.agg v1.toArray),.c 8 47 (.int .i64 r.2.2)] hd rfl hrv ⟨m1,v0,v1,rfl,hle,ok,h0,h1,h2⟩)
 refine qsz Tryz.func28 rfl rfl rfl fun a E=>sg<|qaM E ok qqw rfl rfl fun b1 a w E ok=>qaM E ok qfk rfl rfl fun b2 a w E ok=>qaM E ok quN rfl rfl fun b3 a w E ok=>wn<|wp_seq<|sg<|mv E rfl fun a E=>bd hF fun r4 e5 hF=>lc E qrk rfl (qjo N _ script_0 hscript_0 e5 hG ok) fun w ok a E=>lw E (qbj rfl) fun a E=>mv E rfl fun a E=>bu E 27 hF (fun c6 hF E=>?_) fun c6 hF E=>?_
 ·refine lsq E fun a E=>ls E fun a E=>pt E rfl rfl fun a E=>mv E rfl fun a E=>lsq E fun a E=>ls E fun a E=>pt E rfl rfl fun a E=>wn<|c_if E rfl (fun _=>?_) (fun h=>by cases h)
  refine sg<|lw E (qaR (ps:=[]) (qs:=[]) (cs:=[vi 0,vi 0]) qfk qf5 rfl trivial rfl) fun a E=>qai E ok 2 rfl rfl rfl qhP rfl rfl ⟨rfl,trivial⟩ rfl rfl fun w ok=>qai E ok 1 rfl rfl rfl qgW rfl rfl ⟨rfl,rfl,trivial⟩ rfl rfl fun w ok=>qai E ok 0 rfl rfl rfl qiE rfl rfl ⟨rfl,trivial⟩ rfl rfl fun w ok=>wn<|wp_ret<|qae ?_
  have hret:qbG u m0 S ([],(Place.mk 0 0),1) a w:=⟨m0,(.slice none 0 0),[vi 0,vi 0],le_m0,ok.drop.drop.drop,E.d,⟨qfR E ok rfl qfW (qac.own 2 rfl rfl),rv_c (cs:=[vi 0,vi 0]) E ok rfl qhU rfl (qac.own 1 rfl rfl),qfR E ok rfl qiD (qac.own 0 rfl rfl),trivial⟩,qa9,⟨rfl,(ir 0),(ir 0)⟩,(ir 1)⟩
  cases hF
  exact fin _ _ hret
 refine mv E rfl fun a E=>bd hF fun r7 e8 hF=>lc E qtF rfl (qjI N _ calls_1 hcalls_1 e8 hG ok) fun w ok a E=>lw E (qbj rfl) fun a E=>pf E rfl rfl fun a E=>mv E rfl fun a E=>bu E 32 hF (fun c9 hF E=>?_) fun c9 hF E=>?_
 ·refine lsq E fun a E=>ls E fun a E=>pt E rfl rfl fun a E=>wn<|c_if E rfl (fun _=>?_) (fun h=>by cases h)
  refine sg<|lw E (qaR (ps:=[]) (qs:=[]) (cs:=[vi 0,vi 0]) qfk qf5 rfl trivial rfl) fun a E=>qai E ok 2 rfl rfl rfl qhP rfl rfl ⟨rfl,trivial⟩ rfl rfl fun w ok=>qai E ok 1 rfl rfl rfl qgW rfl rfl ⟨rfl,rfl,trivial⟩ rfl rfl fun w ok=>qai E ok 0 rfl rfl rfl qiE rfl rfl ⟨rfl,trivial⟩ rfl rfl fun w ok=>wn<|wp_ret<|qae ?_
  have hret:qbG u m0 S ([],(Place.mk 0 0),1) a w:=⟨m0,(.slice none 0 0),[vi 0,vi 0],le_m0,ok.drop.drop.drop,E.d,⟨qfR E ok rfl qfW (qac.own 2 rfl rfl),rv_c (cs:=[vi 0,vi 0]) E ok rfl qhU rfl (qac.own 1 rfl rfl),qfR E ok rfl qiD (qac.own 0 rfl rfl),trivial⟩,qa9,⟨rfl,(ir 0),(ir 0)⟩,(ir 1)⟩
  cases hF
  exact fin _ _ hret
 refine mv E rfl fun a E=>bd hF fun r10 e11 hF=>lc E qvT rfl (qm3 N _ files_2 hfiles_2 e11 hG ok) fun w ok a E=>lw E (qbj rfl) fun a E=>pf E rfl rfl fun a E=>wn<|cf E rfl hF (fun c12 hF=>?_) fun c12 hF=>?_
 ·refine sg<|lw E (qaR (ps:=[]) (qs:=[]) (cs:=[vi 0,vi 0]) qfk qf5 rfl trivial rfl) fun a E=>qai E ok 2 rfl rfl rfl qhP rfl rfl ⟨rfl,trivial⟩ rfl rfl fun w ok=>qai E ok 1 rfl rfl rfl qgW rfl rfl ⟨rfl,rfl,trivial⟩ rfl rfl fun w ok=>qai E ok 0 rfl rfl rfl qiE rfl rfl ⟨rfl,trivial⟩ rfl rfl fun w ok=>wn<|wp_ret<|qae ?_
  have hret:qbG u m0 S ([],(Place.mk 0 0),1) a w:=⟨m0,(.slice none 0 0),[vi 0,vi 0],le_m0,ok.drop.drop.drop,E.d,⟨qfR E ok rfl qfW (qac.own 2 rfl rfl),rv_c (cs:=[vi 0,vi 0]) E ok rfl qhU rfl (qac.own 1 rfl rfl),qfR E ok rfl qiD (qac.own 0 rfl rfl),trivial⟩,qa9,⟨rfl,(ir 0),(ir 0)⟩,(ir 1)⟩
  cases hF
  exact fin _ _ hret
 refine wp_skip<|qaa<|wp_seq<|sg<|mv E rfl fun a E=>lv E ok (qau qis hfiles_2 rfl) fun a E=>lw E (qbN rfl rfl) fun a E=>wn<|cf E rfl hF (fun c13 hF=>?_) fun c13 hF=>?_
 ·refine sg<|lw E (qaR (ps:=[]) (qs:=[]) (cs:=[vi 0,vi 0]) qfk qf5 rfl trivial rfl) fun a E=>qai E ok 2 rfl rfl rfl qhP rfl rfl ⟨rfl,trivial⟩ rfl rfl fun w ok=>qai E ok 1 rfl rfl rfl qgW rfl rfl ⟨rfl,rfl,trivial⟩ rfl rfl fun w ok=>qai E ok 0 rfl rfl rfl qiE rfl rfl ⟨rfl,trivial⟩ rfl rfl fun w ok=>wn<|wp_ret<|qae ?_
  have hret:qbG u m0 S ([],(Place.mk 0 0),6) a w:=⟨m0,(.slice none 0 0),[vi 0,vi 0],le_m0,ok.drop.drop.drop,E.d,⟨qfR E ok rfl qfW (qac.own 2 rfl rfl),rv_c (cs:=[vi 0,vi 0]) E ok rfl qhU rfl (qac.own 1 rfl rfl),qfR E ok rfl qiD (qac.own 0 rfl rfl),trivial⟩,qa9,⟨rfl,(ir 0),(ir 0)⟩,(ir 6)⟩
  cases hF
  exact fin _ _ hret
 refine wp_skip<|qaa<|sg<|aw E rfl fun a E=>wp_seq<|sg<|mv E rfl fun a E=>lv E ok (qau qis hfiles_2 rfl) fun a E=>mv E rfl fun a E=>wn<|wp_block ?_
 obtain ⟨M19,ok,h20⟩:=qck (e:=26) (k:=1) (R:=(pL 3 qaE)) ok
 refine bd hF fun o21 hL hF=>qax _ (fun (s:(List (List (Token))) × Int) a w=>∃ m22 c23 M24,m0.le m22 ∧ Ok u m22 (M24 :: [(b3,oc 47 [vi 0])] :: [(b2,oc 46 [vi 0,vi 0])] :: [(b1,oc 44 [(Value.slice none 0 0)])] :: S) w ∧ Env 187 a [(0,vscript_0),(1,vcalls_1),(2,vfiles_2),(6,vp b1),(7,vp b2),(8,vp b3),(9,c23),(42,vfiles_2),(43,(vi (files_2.length:Int))),(44,vi s.2)] ∧ ORow 26 1 (pL 3 qaE) m22 c23 s.1 M24 ∧ InR .i64 s.2) (fun (b:(((List (List (Token)))) ⊕ ((List (Entry)) × Place × Int))) e a w=>(Sum.elim (fun b809=>e = (.exit 0) ∧ ∃ m810 c811 M812,m0.le m810 ∧ Ok u m810 (M812 :: [(b3,oc 47 [vi 0])] :: [(b2,oc 46 [vi 0,vi 0])] :: [(b1,oc 44 [(Value.slice none 0 0)])] :: S) w ∧ Env 187 a [(1,vcalls_1),(2,vfiles_2),(6,vp b1),(7,vp b2),(8,vp b3),(9,c811)] ∧ ORow 26 1 (pL 3 qaE) m810 c811 b809 M812) (fun b814=>e = .ret ∧ qbG u m0 S b814 a w)) b) ?_ ?_ N _ a w hL ⟨m0,(Value.slice none 0 0),M19,Mem.le.refl _,ok,E.keep [0,1,2,6,7,8,9,42,43,44],h20,(ir 0)⟩
 ·as_aux_lemma =>
   rintro ⟨v27,v28⟩ a w r ⟨m29,c30,M31,hle,ok,E,h32,r33⟩ hF
   replace hF:qdr N script_0 files_2 v27 v28 = some r:=hF
   unfold qdr at hF
   have le_m0:=le_m0.trans hle
   have hscript_0:=(mL qaD).up hle hscript_0
   have hcalls_1:=(mL qby).up hle hcalls_1
   have hfiles_2:=(mL qcX).up hle hfiles_2
   refine sg<|lw E (qat rfl rfl) fun a E=>wn<|wp_seq<|cg E rfl hF (fun c34 hF=>?_) fun c34 hF=>?_
   ·refine wp_exit<|qap ?_
    cases hF
    exact so (sl ⟨rfl,⟨m29,c30,M31,le_m0,ok,E.keep [1,2,6,7,8,9],h32⟩⟩)
   refine wp_skip<|qaa<|wp_seq<|wp_block<|sg<|mv E rfl fun a E=>?_
   obtain ⟨x35,e36,hF⟩:=bnd hF
   obtain ⟨b37,o38,es39,hl40,rr41,at42,yy43⟩:=ia E 42 44 qis hfiles_2 e36
   obtain ⟨rfl,l44,l45⟩:=rr41
   refine lv E ok (yy43 _ _) fun a E=>lv E ok (qam (cs:=[vs x35.Name,vs x35.Text]) qpa rfl rfl (qac.ro at42)) fun a E=>qaM E ok qin rfl rfl fun b46 a w E ok=>av E rfl fun a E=>qai E ok 0 rfl rfl rfl qo9 rfl rfl ⟨rfl,rfl,trivial⟩ rfl rfl fun w ok=>wn<|sg<|mv E rfl fun a E=>fk E ok qn4 qal rfl 0 rfl rfl fun a E=>bd hF fun r47 e48 hF=>qas E qtA rfl (qkZ N _ script_0 hscript_0 x35.Text l45 e48 hG ok) rfl rfl ?_
   rintro _ w ⟨m49,c50,rfl,hle,ok,h51,r52,r53⟩
   have le_m0:=le_m0.trans hle
   have hscript_0:=(mL qaD).up hle hscript_0
   have hcalls_1:=(mL qby).up hle hcalls_1
   have hfiles_2:=(mL qcX).up hle hfiles_2
   have h32:=ORow.up (mL qaN) hle h32
   have at42:=At.up hle at42
   refine ⟨_,rfl,fun a E=>?_⟩
   refine mv E rfl fun a E=>lw E (qao rfl rfl) fun a E=>lw E (qao rfl rfl) fun a E=>lw E (qao rfl rfl) fun a E=>av E rfl fun a E=>av E rfl fun a E=>av E rfl fun a E=>wn<|wp_seq<|sg<|mv E rfl fun a E=>lw E (qcn rfl rfl) fun a E=>wn<|cf E rfl hF (fun c54 hF=>?_) fun c54 hF=>?_
   ·refine sg<|mz E rfl rfl fun a E=>lw E (qaR (ps:=[(0,.tmp 59),(1,.tmp 60)]) (qs:=[(0,[vi v28]),(1,[vi r47.2.1])]) (cs:=[vi v28,vi r47.2.1]) qfk qf5 rfl ⟨rfl,rfl,rfl,⟨rfl,rfl,rfl,trivial⟩⟩ rfl) fun a E=>mv E rfl fun a E=>qai E ok 4 rfl rfl rfl qhP rfl rfl ⟨rfl,trivial⟩ rfl rfl fun w ok=>qai E ok 3 rfl rfl rfl qgW rfl rfl ⟨rfl,rfl,trivial⟩ rfl rfl fun w ok=>qai E ok 2 rfl rfl rfl qiE rfl rfl ⟨rfl,trivial⟩ rfl rfl fun w ok=>wn<|wp_ret<|qae<|qag<|qae ?_
    cases hF
    exact so (sr ⟨rfl,⟨m49,(.slice none 0 0),[vi v28,vi r47.2.1],le_m0,ok.drop.drop.drop.drop.drop,E.d,⟨qfR E ok rfl qfW (qac.own 4 rfl rfl),rv_c (cs:=[vi v28,vi r47.2.1]) E ok rfl qhU rfl (qac.own 3 rfl rfl),qfR E ok rfl qiD (qac.own 2 rfl rfl),trivial⟩,qa9,⟨rfl,r33,r52⟩,r53⟩⟩)
   refine wp_skip<|qaa<|qab<|mz E rfl rfl fun a E=>qaT (R:=(pL 3 qaE)) (xo:=[.tmp 64]) (xs:=([r47.1]:List (List (Token)))) E ok qb7 qie rfl ⟨⟨_,(qec h51),rfl,h51⟩,trivial⟩ rfl rfl rfl rfl fun c55 M56 a w E ok h57=>bd hF fun l58 e59 hF=>qbR (R:=(pL 3 qaE)) E ok 2 (mL qaN) qb7 Tryz.underlying129 rfl h32 (qa3.ofRow h57 0 rfl ok) e59 ⟨_,qie,rfl⟩ rfl rfl rfl rfl fun c60 M61 a w E ok h62=>av E rfl fun a E=>wpList_nil<|qaf<|qaa<|qab<|lw E (qar rfl rfl (InR.inc r33 (qaj hfiles_2) c34)) fun a E=>mv E rfl fun a E=>wpList_nil ?_
   cases hF
   exact qan ⟨m49,c60,M61,le_m0,(ok.pk 6 [2,3,4,5] rfl (by decide)),E.keep [0,1,2,6,7,8,9,42,43,44],h62,(InR.inc r33 (qaj hfiles_2) c34)⟩
 intro e a w _ hO
 rcases o21 with o21 | o21
 rotate_left
 ·have hF:=qhk hF
  obtain ⟨rfl,hret⟩:=hO
  refine qag<|qae ?_
  cases hF
  exact fin _ _ hret
 have hF:=qaX hF
 obtain ⟨rfl,m63,c64,M65,hle,ok,E,h66⟩:=hO
 have le_m0:=le_m0.trans hle
 have hscript_0:=(mL qaD).up hle hscript_0
 have hcalls_1:=(mL qby).up hle hcalls_1
 have hfiles_2:=(mL qcX).up hle hfiles_2
 refine qaz<|qaa<|sg<|qaM E ok qqw rfl rfl fun b67 a w E ok=>wn<|sg<|qiJ kS (oneV (pI .i64)) E ok rfl rfl fun c68 M69 a w E ok h70=>qaM E ok qsT rfl rfl fun b71 a w E ok=>qai E ok 0 rfl rfl rfl quJ (OMap.cells h70) rfl ⟨(OMap.one h70),trivial⟩ rfl rfl fun w ok=>wn<|wp_seq<|sg<|mv E rfl fun a E=>lv E ok (qau qis hfiles_2 rfl) fun a E=>mv E rfl fun a E=>wn<|wp_block ?_
 obtain ⟨M80,ok,h81⟩:=qqv (e:=53) (k:=7) (R:=qbm) ok
 refine bd hF fun o82 hL hF=>qax _ (fun (s:Int × (List (List UInt8 × Int)) × (List (Entry))) a w=>∃ Ds ad m83 c85 M86 c88 M89,a = { ad with defers:=qiu Ds } ∧ m63.le m83 ∧ Ok u m83 (M89 :: [(b71,oc 130 [c85])] :: M86 :: [(b67,oc 44 [c88])] :: M65 :: [(b3,oc 47 [vi 0])] :: [(b2,oc 46 [vi 0,vi 0])] :: [(b1,oc 44 [(Value.slice none 0 0)])] :: MkS Ds :: S) w ∧ Env 187 ad [(1,vcalls_1),(6,vp b1),(7,vp b2),(8,vp b3),(9,c64),(15,vp b67),(16,vp b71),(69,vfiles_2),(70,(vi (files_2.length:Int))),(71,vi s.1)] ∧ InR .i64 s.1 ∧ OMap kS (oneV (pI .i64)) m83 c85 s.2.1 M86 ∧ NRow 53 7 qbm m83 c88 s.2.2 M89) (fun (b:(((List (Entry)) × (List (List UInt8 × Int))) ⊕ ((List (Entry)) × Place × Int))) e a w=>(Sum.elim (fun b800=>e = (.exit 2) ∧ ∃ Ds ad m801 c802 M803 c805 M806,a = { ad with defers:=qiu Ds } ∧ m63.le m801 ∧ Ok u m801 (M803 :: [(b71,oc 130 [c805])] :: M806 :: [(b67,oc 44 [c802])] :: M65 :: [(b3,oc 47 [vi 0])] :: [(b2,oc 46 [vi 0,vi 0])] :: [(b1,oc 44 [(Value.slice none 0 0)])] :: MkS Ds :: S) w ∧ Env 187 ad [(6,vp b1),(7,vp b2),(8,vp b3),(15,vp b67)] ∧ NRow 53 7 qbm m801 c802 b800.1 M803 ∧ OMap kS (oneV (pI .i64)) m801 c805 b800.2 M806) (fun b808=>e = .ret ∧ ∃ Ds ad,a = { ad with defers:=qiu Ds } ∧ (∀ D ∈ Ds,w.heap[D]? = some (.deferred (some []))) ∧ Ds.Nodup ∧ qbG u m0 S b808 ad (taken w Ds))) b) ?_ ?_ N _ a w hL ⟨[],a,m63,c68,M69,(Value.slice none 0 0),M80,qup E,Mem.le.refl _,(ok.addnil.pk 9 [1,2,3,4,5,6,7,8,0] rfl (by decide)),E.keep [1,6,7,8,9,15,16,69,70,71],(ir 0),h70,h81⟩
 rotate_left
 ·intro e a w _ hO
  rcases o82 with o82 | o82
  rotate_left
  ·have hF:=qhk hF
   obtain ⟨rfl,Ds,ad,rfl,hK,hnD,hret⟩:=hO
   refine qag<|qae ?_
   cases hF
   exact finD _ _ _ hK hnD hret
  have hF:=qaX hF
  obtain ⟨rfl,Ds,ad,m790,c791,M792,c794,M795,rfl,hle,ok,E,h793,h796⟩:=hO
  have le_m0:=le_m0.trans hle
  have hscript_0:=(mL qaD).up hle hscript_0
  have hcalls_1:=(mL qby).up hle hcalls_1
  have hfiles_2:=(mL qcX).up hle hfiles_2
  refine qaz<|qaa<|wp_seq<|wp_seq<|qkO<|ld E ok qfW 3 rfl rfl rfl fun a E=>lv E ok (qlm qgH h793 rfl) fun a E=>lw E (qbN rfl rfl) fun a E=>wpList_nil ⟨rfl,E.d,?_⟩
  refine qaa<|d_if E rfl (fun c797=>?_) (fun c797=>?_)
  ·have hF:=qbW c797 hF
   refine wp_seq<|qkO<|lw E (qaR (ps:=[]) (qs:=[]) (cs:=[vi 0,vi 0]) qfk qf5 rfl trivial rfl) fun a E=>qai E ok 7 rfl rfl rfl qhP rfl rfl ⟨rfl,trivial⟩ rfl rfl fun w ok=>qai E ok 6 rfl rfl rfl qgW rfl rfl ⟨rfl,rfl,trivial⟩ rfl rfl fun w ok=>qai E ok 5 rfl rfl rfl qiE rfl rfl ⟨rfl,trivial⟩ rfl rfl fun w ok=>wpList_nil ⟨rfl,E.d,?_⟩
   refine qaa<|wp_ret<|qae ?_
   obtain ⟨hK,hnD⟩:=(ok.frs 8 rfl).mkK
   have ok:=(ok.frs 8 rfl).takenM
   have hret:qbG u m0 S ([],(Place.mk 0 0),6) a (taken w Ds):=⟨m790,(.slice none 0 0),[vi 0,vi 0],le_m0,ok.drop.drop.drop.drop.drop.drop.drop.drop,E.d,⟨qfR E ok rfl qfW (qac.own 7 rfl rfl),rv_c (cs:=[vi 0,vi 0]) E ok rfl qhU rfl (qac.own 6 rfl rfl),qfR E ok rfl qiD (qac.own 5 rfl rfl),trivial⟩,qa9,⟨rfl,(ir 0),(ir 0)⟩,(ir 6)⟩
   cases hF
   exact finD _ _ _ hK hnD hret
  have hF:=qbV c797 hF
  refine wp_skip<|qaa<|wp_seq<|qkO<|ld E ok qfW 3 rfl rfl rfl fun a E=>lw E (qaR (ps:=[]) (qs:=[]) (cs:=[vi 0,vi 0]) qfk qf5 rfl trivial rfl) fun a E=>qai E ok 7 rfl rfl rfl qhP (NRow.cells h793) rfl ⟨(NRow.one h793),trivial⟩ rfl rfl fun w ok=>qai E ok 6 rfl rfl rfl qgW rfl rfl ⟨rfl,rfl,trivial⟩ rfl rfl fun w ok=>qai E ok 5 rfl rfl rfl qiE rfl rfl ⟨rfl,trivial⟩ rfl rfl fun w ok=>wpList_nil ⟨rfl,E.d,?_⟩
  refine qaa<|wp_ret ?_
  obtain ⟨m798,hle,ok,hfz⟩:=(ok.frs 0 rfl).freeze
  have h799:=NRow.froz qpZ h793 hle hfz (by decide)
  have le_m0:=le_m0.trans hle
  have hscript_0:=(mL qaD).up hle hscript_0
  have hcalls_1:=(mL qby).up hle hcalls_1
  have hfiles_2:=(mL qcX).up hle hfiles_2
  have h796:=OMap.up (qgt (mI .i64)) hle h796
  obtain ⟨hK,hnD⟩:=(ok.frs 7 rfl).mkK
  have ok:=(ok.frs 7 rfl).takenM
  have hret:qbG u m0 S (o82.1,(Place.mk 0 0),0) a (taken w Ds):=⟨m798,c791,[vi 0,vi 0],le_m0,ok.drop.drop.drop.drop.drop.drop.drop,E.d,⟨qfR E ok rfl qfW (qac.own 6 rfl rfl),rv_c (cs:=[vi 0,vi 0]) E ok rfl qhU rfl (qac.own 5 rfl rfl),qfR E ok rfl qiD (qac.own 4 rfl rfl),trivial⟩,h799,⟨rfl,(ir 0),(ir 0)⟩,(ir 0)⟩
  cases hF
  exact finD _ _ _ hK hnD hret
 rintro ⟨v91,v92,v93⟩ a w r ⟨Ds,ad,m94,c96,M97,c99,M100,rfl,hle,ok,E,r95,h98,h101⟩ hF
 replace hF:qcF N calls_1 files_2 o21 v91 v92 v93 = some r:=hF
 unfold qcF at hF
 have le_m63:=Mem.le.refl m63
 have le_m0:=le_m0.trans hle
 have le_m63:=le_m63.trans hle
 have hscript_0:=(mL qaD).up hle hscript_0
 have hcalls_1:=(mL qby).up hle hcalls_1
 have hfiles_2:=(mL qcX).up hle hfiles_2
 have h66:=ORow.up (mL qaN) hle h66
 refine wp_seq<|qkO<|lw E (qat rfl rfl) fun a E=>wpList_nil ⟨rfl,E.d,?_⟩
 refine qaa<|wp_seq<|d_if E rfl (fun c102=>?_) (fun c102=>?_)
 rotate_left
 ·have hF:=qbV c102 hF
  refine wp_exit<|qap ?_
  cases hF
  exact so (sl ⟨rfl,⟨Ds,_,m94,c99,M100,c96,M97,rfl,le_m63,ok,E.keep [6,7,8,15],h101,h98⟩⟩)
 have hF:=qbW c102 hF
 refine wp_skip<|qaa<|wp_seq<|wp_block<|wp_seq<|qkO<|mv E rfl fun a E=>?_
 obtain ⟨x103,e104,hF⟩:=bnd hF
 obtain ⟨b105,o106,es107,hl108,rr109,at110,yy111⟩:=ia E 69 71 qis hfiles_2 e104
 obtain ⟨rfl,l112,l113⟩:=rr109
 refine lv E ok (yy111 _ _) fun a E=>lv E ok (qam (cs:=[vs x103.Name,vs x103.Text]) qpa rfl rfl (qac.ro at110)) fun a E=>qaM E ok qni rfl rfl fun b114 a w E ok=>qaM E ok qin rfl rfl fun b115 a w E ok=>qai E ok 1 rfl rfl rfl qes rfl rfl ⟨rfl,trivial⟩ rfl rfl fun w ok=>qai E ok 0 rfl rfl rfl qo9 rfl rfl ⟨rfl,rfl,trivial⟩ rfl rfl fun w ok=>wpList_nil ⟨rfl,E.d,?_⟩
 refine qaa<|wp_seq<|qkO<|mv E rfl fun a E=>ld E ok qaJ 1 rfl rfl rfl fun a E=>?_
 obtain ⟨x116,e117,hF⟩:=bnd hF
 obtain ⟨b118,o119,hp120,yy121⟩:=qb4 qb7 h66 e117 (P:=Tryz.prog) (X:=.tmp 76) (I:=.tmp 77) (kd:=.i64) (qaC E rfl) (qaC E rfl)
 refine lv E ok (yy121 _ _) fun a E=>?_
 obtain ⟨es122,hl123,rr124,hh125⟩:=qev h66 e117 hp120 (by decide)
 obtain ⟨c126,rfl,h127⟩:=qkd rr124
 refine lv E ok (qah qfV rfl (hh125 _ _ _ 6 rfl)) fun a E=>mv E rfl fun a E=>?_
 obtain ⟨r128,e129,hF⟩:=bnd hF
 obtain ⟨hfo,hfb⟩:=qoh e129
 refine qas E qtx rfl (qhF (qec h127) (qec hcalls_1) ok) rfl rfl ?_
 rintro _ w ⟨bl,bc,rfl,ok⟩
 refine ⟨_,rfl,fun a E=>?_⟩
 refine wpList_nil ⟨rfl,E.d,?_⟩
 refine qaa<|wp_block ?_
 obtain ⟨o141,hL,hF⟩:=bnd hF
 have hL2:qfL N v91 x103 r128 v92 v93 = true ∧ runF (fun s x=>qdT N v91 x103 x s.1 s.2) r128 (v92,v93) = some o141:=by
  unfold qhu at hL
  cases hb:qfL N v91 x103 r128 v92 v93 with
  | false=>rw [hb] at hL; cases hL
  | true=>rw [hb] at hL; exact ⟨rfl,hL⟩
 obtain ⟨hokb,hrun⟩:=hL2
 obtain ⟨K,hKe⟩:∃ K:Nat,K = 20000000:=⟨_,rfl⟩
 obtain ⟨hn1,hn2,hn3,hnN,hn4,hSb0⟩:=qu9 hokb K
 have ok:Ok u m94 ([(bc,oc 34 [vcalls_1])] :: [(bl,oc 26 [c126])] :: [(b115,oc 75 [vs x103.Name,vs x103.Text])] :: [(b114,oc 3 [vi v91])] :: M100 :: [(b71,oc 130 [c96])] :: M97 :: [(b67,oc 44 [c99])] :: M65 :: [(b3,oc 47 [vi 0])] :: [(b2,oc 46 [vi 0,vi 0])] :: [(b1,oc 44 [(Value.slice none 0 0)])] :: MkS Ds :: S) w:=ok
 have hSlt:∀ q ∈ (MkS Ds :: S).flatten,q.1 < w.heap.size:=fun q hq=>ok.ids_lt (by simp only [List.flatten_cons,List.mem_append] at hq ⊢; rcases hq with hq | hq <;> simp [hq])
 have hM65c:∀ q ∈ M65,q.2.isCells = true:=h66.isCells
 obtain ⟨bm,hbm⟩:=OMap.val h98
 have hbm2:bm < w.heap.size:=by
  obtain ⟨b',es',cl',g1,g2,_⟩:=h98
  rw [g1] at hbm
  simp only [Value.map.injEq,Option.some.injEq] at hbm
  subst hbm
  exact ok.ids_lt (p:=(b',Obj.map es'.toArray cl')) (by simp only [List.flatten_cons,List.mem_append,g2,List.mem_singleton]; simp)
 have hmlt:∀ b o,m94 b = some o → b < w.heap.size:=fun b o h=>ok.m_lt h
 have E0:=E
 have segs:∀ {M Mr:List (Nat × Obj)} {c' v3 v21 v22:Value} {X:Segs},(∀ q ∈ X.flatten,q.1 < w.heap.size ∨ q.2.isCells = true) → (∀ q ∈ M,q.1 = bm) → (∀ q ∈ Mr,q.2.isCells = true) → ∀ q ∈ ([(b115,oc 75 [vs x103.Name,vs x103.Text])] :: [(b114,oc 3 [vi v91])] :: Mr :: [(b71,oc 130 [c96])] :: M :: [(b67,oc 44 [c'])] :: M65 :: [(b3,oc 47 [v3])] :: [(b2,oc 46 [v21,v22])] :: [(b1,oc 44 [(Value.slice none 0 0)])] :: X).flatten,q.1 < w.heap.size ∨ q.2.isCells = true:=by
  intro M Mr c' v3 v21 v22 X hX hM hMr q hq
  simp only [List.flatten_cons,List.mem_append,List.mem_singleton] at hq
  rcases hq with rfl | rfl | hq | rfl | hq | rfl | hq | rfl | rfl | rfl | hq
  ·exact .inr rfl
  ·exact .inr rfl
  ·exact .inr (hMr q hq)
  ·exact .inr rfl
  ·exact .inl (by rw [hM q hq]; exact hbm2)
  ·exact .inr rfl
  ·exact .inr (hM65c q hq)
  ·exact .inr rfl
  ·exact .inr rfl
  ·exact .inr rfl
  ·exact hX q hq
 have hSlt2:∀ q ∈ (MkS Ds :: S).flatten,q.1 < w.heap.size ∨ q.2.isCells = true:=fun q hq=>.inl (hSlt q hq)
 refine (wpIn_wide (n:=3)).1 (qm7 (ds:=qiu Ds) (m:=m94) (vc:=vcalls_1) E rfl rfl rfl (fun _ _=>rfl) (fun _ _=>rfl) ok h127 hcalls_1 hfo hfb hG
  (fun j (s:Mp × List Entry) T=>∃ M c' M',T = [(b115,oc 75 [vs x103.Name,vs x103.Text])] :: [(b114,oc 3 [vi v91])] :: M' :: [(b71,oc 130 [c96])] :: M :: [(b67,oc 44 [c'])] :: M65 :: [(b3,oc 47 [vi 0])] :: [(b2,oc 46 [vi 0,vi 0])] :: [(b1,oc 44 [(Value.slice none 0 0)])] :: MkS Ds :: S ∧ OMap kS (oneV (pI .i64)) m94 c96 s.1 M ∧ NRow 53 7 qbm m94 c' s.2 M' ∧ Sb N r128.length K j s.1 s.2)
  (fun (s:List Entry × Place × Int) T=>∃ M c' M',T = [(b115,oc 75 [vs x103.Name,vs x103.Text])] :: [(b114,oc 3 [vi v91])] :: M' :: [(b71,oc 130 [c96])] :: M :: [(b67,oc 44 [c'])] :: M65 :: [(b3,oc 47 [vi s.2.2])] :: [(b2,oc 46 [vi s.2.1.File,vi s.2.1.Offset])] :: [(b1,oc 44 [(Value.slice none 0 0)])] :: MkS Ds :: S ∧ (∀ q ∈ M,q.1 = bm) ∧ (∀ q ∈ M',q.2.isCells = true) ∧ s.1 = [] ∧ InR .i64 s.2.2 ∧ InR .i64 s.2.1.File ∧ InR .i64 s.2.1.Offset)
  (fun s x=>qdT N v91 x103 x s.1 s.2) (v92,v93) ⟨M97,c99,M100,rfl,h98,h101,hSb0⟩ ?_ ?_ ?_ ?_ ?_)
 ·rintro j s T ⟨M,c',M',rfl,h1,h2,h3⟩
  exact segs hSlt2 (h1.blk hbm) (qkE h2)
 ·rintro s T ⟨M,c',M',rfl,h1,h2,h3⟩
  exact segs hSlt2 h1 h2
 ·rintro k j ⟨x_150,x_151⟩ T x160 b174 m130 a w Q' ⟨M154,c156,M157,rfl,h155,h158,hSb⟩ hj hx hle ok E hn hx2
  obtain ⟨hx0,hx1,hx3,hx4,hx5,hx6,hx7⟩:=hx
  have r169:InR .i64 x160.call:=by
   have:=qcq.1 (qaj hcalls_1)
   rw [qcq]; omega
  have r170:InR .i64 x160.offset:=by rw [qcq]; omega
  have l171:x160.id.length ≤ LIMS:=by unfold LIMS; omega
  have l172:x160.source.length ≤ LIMS:=by unfold LIMS; omega
  have l173:x160.comment.length ≤ LIMS:=by unfold LIMS; omega
  obtain ⟨r,hr⟩:∃ r,r = rnd v91 x103 x160 x_150 x_151:=⟨_,rfl⟩
  have hjK:j * K ≤ 20000000000000:=Nat.le_trans (Nat.mul_le_mul (show j ≤ 1000000 by omega) (Nat.le_of_eq hKe)) (by decide)
  have hRb:Rb N x103 x160 x_150 x_151:=hSb.rb hj hn3 hnN hn1 hn2 hx3 hx4 hjK
  have hF:=qpC (i:=v91) hRb
  rw [← hr] at hF
  have hF2:qdT N v91 x103 x160 (x_150,x_151).1 (x_150,x_151).2 = some r:=hF
  have hrl:(refT x103 x160).length + 1 ≤ K:=by
   have:=(qnI (N:=N) hn1 hn2 hx3 hx4 (fun s:List UInt8=>(some s:Option (List UInt8)))).2
   omega
  have h155:=OMap.up (qgt (mI .i64)) hle h155
  have h158:=NRow.up qpI hle h158
  obtain ⟨S1,hS1⟩:∃ S1:Segs,S1 = [(bc,oc 34 [vcalls_1])] :: [(bl,oc 26 [c126])] :: MkS Ds :: S:=⟨_,rfl⟩
  replace ok:Ok u m130 ([(b174,oc 105 [vi x160.call,vi x160.offset,vs x160.id,vs x160.source,vs x160.comment])] :: [(b115,oc 75 [vs x103.Name,vs x103.Text])] :: [(b114,oc 3 [vi v91])] :: M157 :: [(b71,oc 130 [c96])] :: M154 :: [(b67,oc 44 [c156])] :: M65 :: [(b3,oc 47 [vi 0])] :: [(b2,oc 46 [vi 0,vi 0])] :: [(b1,oc 44 [(Value.slice none 0 0)])] :: S1) w:=by
   rw [hS1]; exact ok.pk 13 [0,3,4,5,6,7,8,9,10,11,12,1,2] rfl (by decide)
  have hnK:∀ {ix':Mp} {out':List Entry} {M cm c' M':_} {a':Act} {w':World},cm = c96 → r = .inl (ix',out') → Ok u m130 ([(b115,oc 75 [vs x103.Name,vs x103.Text])] :: [(b114,oc 3 [vi v91])] :: M' :: [(b71,oc 130 [cm])] :: M :: [(b67,oc 44 [c'])] :: M65 :: [(b3,oc 47 [vi 0])] :: [(b2,oc 46 [vi 0,vi 0])] :: [(b1,oc 44 [(Value.slice none 0 0)])] :: S1) w' → OMap kS (oneV (pI .i64)) m130 cm ix' M → NRow 53 7 qbm m130 c' out' M' → Q' .normal a' w':=by
   intro ix' out' M cm c' M' a' w' hcm hr2 ok' hm' hr'
   rw [hcm] at ok' hm'
   have hSb2:=hSb.step hj hn3 hnN hrl (hr.symm.trans hr2)
   refine hn (ix',out') _ m130 a' w' (hF2.trans (congrArg some hr2)) ⟨M,c',M',rfl,hm'.chg (fun _ _ h=>h),hr'.chg (fun cs x M hx h=>qrA (hSb2.fg x hx) h),hSb2⟩ (Mem.le.refl _) ?_
   rw [hS1] at ok'
   exact ok'.pk 12 [10,11,0,1,2,3,4,5,6,7,8,9] rfl (by decide)
  have hxK:∀ {o:Place × Int} {M cm c' M':_} {ix':Mp} {out':List Entry} {a':Act} {w':World},cm = c96 → r = .inr ([],o.1,o.2) → InR .i64 o.2 → InR .i64 o.1.File → InR .i64 o.1.Offset → Ok u m130 (M' :: [(b174,oc 105 [vi x160.call,vi x160.offset,vs x160.id,vs x160.source,vs x160.comment])] :: [(b115,oc 75 [vs x103.Name,vs x103.Text])] :: [(b114,oc 3 [vi v91])] :: [(b71,oc 130 [cm])] :: M :: [(b67,oc 44 [c'])] :: M65 :: [(b3,oc 47 [vi o.2])] :: [(b2,oc 46 [vi o.1.File,vi o.1.Offset])] :: [(b1,oc 44 [(Value.slice none 0 0)])] :: S1) w' → OMap kS (oneV (pI .i64)) m130 cm ix' M → NRow 53 7 qbm m130 c' out' M' → Q' .ret a' w':=by
   intro o M cm c' M' ix' out' a' w' hcm hr2 r1 r2 r3 ok' hm' hr'
   rw [hcm] at ok' hm'
   refine hx2 ([],o.1,o.2) _ m130 a' w' (hF2.trans (congrArg some hr2)) ⟨M,c',M',rfl,hm'.blk hbm,qkE hr',rfl,r1,r2,r3⟩ (Mem.le.refl _) ?_
   rw [hS1] at ok'
   exact ok'.pk 13 [11,12,2,3,0,4,5,6,7,8,9,10] rfl (by decide)
  unfold qdT at hF
  clear hF2 hRb hSb hr hn hx2 hx0 hx1 hx3 hx4 hx5 hx6 hx7 hrl hjK hS1
  refine wpIn_block<|wpIn_seq<|qn8 (by kernel_rfl) rfl (by kernel_rfl) ok<|qv E (qak qja rfl) fun a E=>qv E (qah qal rfl (qac.own 1 rfl rfl)) fun a E=>bd hF fun s175 e176 hF=>qv E (qaL rfl rfl e176) fun a E=>qv E (qak qn4 rfl) fun a E=>qv E (qah qal rfl (qac.own 1 rfl rfl)) fun a E=>qv E (qak qo2 rfl) fun a E=>qv E (qah qaJ rfl (qac.own 0 rfl rfl)) fun a E=>bd hF fun s177 e178 hF=>qv E (qaF Tryz.underlying9 e178 rfl rfl ⟨_,rfl⟩) fun a E=>?_
  obtain ⟨r179,e180,hF⟩:=bnd hF
  obtain ⟨_,_,⟨_,_⟩,r181⟩:=Go.X.Calls.get (qjE N s177 (Nat.le_trans (qbr e178) l113) ([10]) (show ([10]:List UInt8).length ≤ LIMS by decide) e180 hG ok)
  refine qfZ E qwl rfl (fun w ok=>(qjE N s177 (Nat.le_trans (qbr e178) l113) ([10]) (show ([10]:List UInt8).length ≤ LIMS by decide) e180 hG ok).mono (fun _ _ h=>h.1)) rfl rfl fun a E=>qv E (qav rfl rfl) fun a E=>?_
  obtain ⟨r182,e183,hF⟩:=bnd hF
  obtain ⟨_,_,⟨_,_⟩,l184⟩:=Go.X.Calls.get (qjO N (IntKind.wrap .i64 ((1:Int) + r179)) (InR.wrap _ _) e183 hG hTb ok)
  refine qfZ E qwm rfl (fun w ok=>(qjO N (IntKind.wrap .i64 ((1:Int) + r179)) (InR.wrap _ _) e183 hG hTb ok).mono (fun _ _ h=>h.1)) rfl rfl fun a E=>bd hF fun s185 e186 hF=>qv E (qaL rfl rfl e186) fun a E=>qv E (qaq rfl) fun a E=>wpQuiet_nil ?_
  intro w ok
  refine qaa<|wpIn_seq<|qeq rfl<|ld E ok qme 4 rfl rfl rfl fun a E=>fk E ok qih qal rfl 0 rfl rfl fun a E=>?_
  obtain ⟨xv187,h188,yy189,yy190⟩:=ql7 (P:=Tryz.prog) (mo:=.tmp 96) (ko:=.tmp 98) (zx:=(0:Int)) ok 5 (qeA Tryz.underlying9) Tryz.underlying130 h155 rfl (qaC E rfl) (qaC E rfl) ⟨rfl,l171⟩ qqy (qfI (ir 0))
  obtain ⟨rfl,r191⟩:=qiQ h188
  refine lv E ok (yy190 _) fun a E=>mv E rfl fun a E=>lw E (qao rfl rfl) fun a E=>lw E (qao rfl rfl) fun a E=>av E rfl fun a E=>av E rfl fun a E=>wpList_nil ⟨rfl,?_⟩
  refine qaa<|wpIn_seq<|wpIn_seq<|qeq rfl<|mv E rfl fun a E=>lw E (qbj rfl) fun a E=>wpList_nil ⟨rfl,?_⟩
  refine qaa<|bd hF fun o192 hJ hF=>qp2 (Q':=fun e a w=>e = .normal ∧ ∃ c194 M195 c197 M198,c194 = c96 ∧ Ok u m130 ([(b174,oc 105 [vi x160.call,vi x160.offset,vs x160.id,vs x160.source,vs x160.comment])] :: [(b115,oc 75 [vs x103.Name,vs x103.Text])] :: [(b114,oc 3 [vi v91])] :: M198 :: [(b71,oc 130 [c194])] :: M195 :: [(b67,oc 44 [c197])] :: M65 :: [(b3,oc 47 [vi 0])] :: [(b2,oc 46 [vi 0,vi 0])] :: [(b1,oc 44 [(Value.slice none 0 0)])] :: S1) w ∧ Env 187 a [(1,vcalls_1),(6,vp b1),(7,vp b2),(8,vp b3),(9,c64),(15,vp b67),(16,vp b71),(17,vp b114),(18,vp b115),(19,vp b174),(20,vs s185),(21,vi o192.1),(22,(vb ((mget x_150 x160.id).isSome))),(69,vfiles_2),(70,(vi (files_2.length:Int))),(71,vi v91)] ∧ InR .i64 o192.1 ∧ OMap kS (oneV (pI .i64)) m130 c194 o192.2.1 M195 ∧ NRow 53 7 qbm m130 c197 o192.2.2 M198) ?_ ?_
  ·have hF:=hJ
   refine r_if E rfl (fun c200=>?_) (fun c200=>?_)
   rotate_left
   ·have hF:=qbV c200 hF
    refine wpIn_skip ?_
    cases hF
    exact ⟨rfl,⟨c96,M154,c156,M157,rfl,ok,E.keep [1,6,7,8,9,15,16,17,18,19,20,21,22,69,70,71],r191,h155,h158⟩⟩
   have hF:=qbW c200 hF
   refine wpIn_seq<|qeq rfl<|ld E ok qfW 6 rfl rfl rfl fun a E=>lv E ok (qlm qgH h158 rfl) fun a E=>av E rfl fun a E=>wpList_nil ⟨rfl,?_⟩
   refine qaa<|wpIn_seq<|qeq rfl<|ld E ok qme 4 rfl rfl rfl fun a E=>fk E ok qih qal rfl 0 rfl rfl fun a E=>mv E rfl fun a E=>bd hF fun l201 e202 hF=>qkm (.inl rfl) E ok 5 (qeA Tryz.underlying9) Tryz.underlying130 h155 rfl rfl rfl rfl ⟨rfl,l171⟩ (qfI (NRow.InR h158)) e202 rfl fun M203 w ok h204=>wpList_nil ⟨rfl,?_⟩
   refine qaa<|qeq rfl<|ld E ok qfW 6 rfl rfl rfl fun a E=>fk E ok qih qal rfl 0 rfl rfl fun a E=>fk E ok qjv qal rfl 0 rfl rfl fun a E=>lw E (qaR (ps:=[(0,.const (vs ([114,101,102])))]) (qs:=[(0,[(vs ([114,101,102]))])]) (cs:=[(vs ([114,101,102])),(vs ([]))]) ql4 qok rfl ⟨rfl,rfl,rfl,trivial⟩ rfl) fun a E=>qaT (R:=qft) (xo:=[.tmp 115]) (xs:=([(Field.mk ([114,101,102]) ([]))]:List (Field))) E ok qcQ ql4 rfl ⟨⟨_,rfl,rfl,⟨rfl,(show ([114,101,102]:List UInt8).length ≤ LIMS by decide),(Nat.zero_le _)⟩⟩,trivial⟩ rfl rfl rfl rfl fun c205 M206 a w E ok h207=>lw E (qaR (ps:=[(0,.tmp 112),(1,.tmp 114),(6,.tmp 116)]) (qs:=[(0,[vs x160.id]),(1,[vs x160.source]),(6,[c205])]) (cs:=[vs x160.id,vs x160.source,(vs ([])),(Value.slice none 0 0),(Value.slice none 0 0),vi 0,c205]) qj5 qod rfl ⟨rfl,rfl,rfl,⟨rfl,rfl,rfl,⟨rfl,(ORow.cells h207),rfl,trivial⟩⟩⟩ rfl) fun a E=>qaT (R:=pRaw) (xo:=[.tmp 117]) (xs:=[[vs x160.id,vs x160.source,(vs ([])),(Value.slice none 0 0),(Value.slice none 0 0),vi 0,c205]]) E ok qgH qj5 rfl ⟨⟨_,rfl,rfl,⟨rfl,⟨rfl,rfl,rfl,rfl,rfl,rfl,(ORow.one h207),trivial⟩⟩⟩,trivial⟩ rfl rfl rfl rfl fun c208 M209 a w E ok h210=>?_
   obtain ⟨M211,ok,h212⟩:=qck (e:=9) (k:=1) (R:=pS) ok
   replace ok:Ok u m130 (M157 :: M211 :: M206 :: M209 :: [(b174,oc 105 [vi x160.call,vi x160.offset,vs x160.id,vs x160.source,vs x160.comment])] :: [(b115,oc 75 [vs x103.Name,vs x103.Text])] :: [(b114,oc 3 [vi v91])] :: [(b71,oc 130 [c96])] :: M203 :: [(b67,oc 44 [c156])] :: M65 :: [(b3,oc 47 [vi 0])] :: [(b2,oc 46 [vi 0,vi 0])] :: [(b1,oc 44 [(Value.slice none 0 0)])] :: S1) w:=(ok.pk 14 [6,0,2,1,3,4,5,7,8,9,10,11,12,13] rfl (by decide))
   obtain ⟨l213,e214,hF⟩:=bnd hF
   have hsrc:=(qa3.ofRow h210 3 rfl ok)
   replace ok:=ok.joinM2
   refine qnz (R:=qbm) E ok qgH Tryz.underlying44 h158 hsrc ⟨_,_,_,_,_,rfl,rfl,l171,l172,(Nat.zero_le _),h212,qa9,(ir 0),h207⟩ e214 ⟨_,qj5,rfl⟩ rfl rfl rfl rfl fun c215 M216 a w E ok h217=>?_
   clear hsrc
   refine qai E ok 7 rfl rfl rfl qhP (NRow.cells h217) rfl ⟨(NRow.one h217),trivial⟩ rfl rfl fun w ok=>wpList_nil ⟨rfl,?_⟩
   cases hF
   exact ⟨rfl,⟨c96,M203,c215,M216,rfl,(ok.pk 12 [2,3,4,0,5,6,7,8,9,10,11] rfl (by decide)),E.keep [1,6,7,8,9,15,16,17,18,19,20,21,22,69,70,71],(NRow.InR h158),h204,h217⟩⟩
  intro e a w hO
  obtain ⟨rfl,c219,M220,c222,M223,hcj,ok,E,r218,h221,h224⟩:=hO
  refine qaa<|wpIn_seq<|qeq rfl<|ld E ok qfW 6 rfl rfl rfl fun a E=>mv E rfl fun a E=>?_
  obtain ⟨x225,e226,hF⟩:=bnd hF
  obtain ⟨b227,o228,hp229,yy230⟩:=qu5 qgH h224 e226 (P:=Tryz.prog) (X:=.tmp 120) (I:=.tmp 121) (kd:=.i64) (qaC E rfl) (qaC E rfl)
  refine lv E ok (yy230 _ _) fun a E=>av E rfl fun a E=>wpList_nil ⟨rfl,?_⟩
  refine qaa<|wpIn_seq<|wpIn_seq ?_
  replace ok:Ok u m130 (M223 :: [(b174,oc 105 [vi x160.call,vi x160.offset,vs x160.id,vs x160.source,vs x160.comment])] :: [(b115,oc 75 [vs x103.Name,vs x103.Text])] :: [(b114,oc 3 [vi v91])] :: [(b71,oc 130 [c219])] :: M220 :: [(b67,oc 44 [c222])] :: M65 :: [(b3,oc 47 [vi 0])] :: [(b2,oc 46 [vi 0,vi 0])] :: [(b1,oc 44 [(Value.slice none 0 0)])] :: S1) w:=(ok.pk 11 [3,0,1,2,4,5,6,7,8,9,10] rfl (by decide))
  obtain ⟨cs231,c232,M233,M234,M235,ok,hr236,hx237,he238,hh239⟩:=NRow.open h224 e226 ok
  obtain ⟨c245,c247,c250,M240,M241,rfl,rfl,l242,l243,l244,h246,h248,r249,h251⟩:=he238
  replace ok:=ok.splitM2
  refine qn8 (by kernel_rfl) rfl (by kernel_rfl) ok<|qv E (qad rfl) fun a E=>qv E (qa7 rfl) fun a E=>qv E (qak qnP rfl) fun a E=>?_
  obtain ⟨hl252,hh253⟩:=qdK hr236 hx237 hp229 (by decide)
  refine qv E (qah qal rfl (qac.sub 1 1 (hh253 _ _ _ 0 rfl))) fun a E=>qv E (qak qjv rfl) fun a E=>qv E (qah qal rfl (qac.own 4 rfl rfl)) fun a E=>qv E (qbn rfl rfl) fun a E=>wpQuiet_nil ?_
  intro w ok
  refine qaa ?_
  replace ok:=ok.joinM2
  obtain ⟨M254,ok,h255⟩:=NRow.close0 e226 ok hr236 hx237 (show qbm m130 [vs x225.ID,vs x225.Source,vs x225.Target,c245,c247,vi x225.State,c250] x225 (M240 ++ M241) from ⟨_,_,_,_,_,rfl,rfl,l242,l243,l244,h246,h248,r249,h251⟩) hh239
  refine r_if E rfl (fun c256=>?_) (fun c256=>?_)
  ·have hF:=qbW c256 hF
   refine wpIn_seq<|bd hF fun o257 hJ hF=>qp2 (Q':=fun e a w=>e = .normal ∧ Ok u m130 (M254 :: [(b174,oc 105 [vi x160.call,vi x160.offset,vs x160.id,vs x160.source,vs x160.comment])] :: [(b115,oc 75 [vs x103.Name,vs x103.Text])] :: [(b114,oc 3 [vi v91])] :: [(b71,oc 130 [c219])] :: M220 :: [(b67,oc 44 [c222])] :: M65 :: [(b3,oc 47 [vi o257.1])] :: [(b2,oc 46 [vi o257.2.File,vi o257.2.Offset])] :: [(b1,oc 44 [(Value.slice none 0 0)])] :: S1) w ∧ Env 187 a [(6,vp b1),(7,vp b2),(8,vp b3)] ∧ InR .i64 o257.1 ∧ InR .i64 o257.2.File ∧ InR .i64 o257.2.Offset) ?_ ?_
   rotate_left
   ·intro e a w hO
    obtain ⟨rfl,ok,E,r261,r262,r263⟩:=hO
    refine qaa<|wpIn_ret<|qae<|qag ?_
    cases hF
    exact hxK (o:=(o257.2,o257.1)) hcj rfl r261 r262 r263 ok h221 h255
   have hF:=hJ
   cases hF
   refine qpk [] (Cls u m130 (M254 :: [(b174,oc 105 [vi x160.call,vi x160.offset,vs x160.id,vs x160.source,vs x160.comment])] :: [(b115,oc 75 [vs x103.Name,vs x103.Text])] :: [(b114,oc 3 [vi v91])] :: [(b71,oc 130 [c219])] :: M220 :: [(b67,oc 44 [c222])] :: M65 :: [(b1,oc 44 [(Value.slice none 0 0)])] :: [])) (Cls u m130 (M254 :: [(b174,oc 105 [vi x160.call,vi x160.offset,vs x160.id,vs x160.source,vs x160.comment])] :: [(b115,oc 75 [vs x103.Name,vs x103.Text])] :: [(b114,oc 3 [vi v91])] :: [(b71,oc 130 [c219])] :: M220 :: [(b67,oc 44 [c222])] :: M65 :: [(b1,oc 44 [(Value.slice none 0 0)])] :: [])) (by kernel_rfl) rfl ?_
   intro w hw
   replace ok:=qcB ok hw
   clear hw
   have le_m130:=Mem.le.refl m130
   refine qay (cl1 (cq le_m130 ok [0,1,2,3,4,5,6,7,10] rfl) (cq le_m130 ok [0,1,2,3,4,5,6,7,10] rfl)) fun hT=>kt 0 E rfl hT (qah qaJ rfl (qac.cown 3 rfl rfl)) fun a E=>kt 1 E rfl hT (qak qo2 rfl) fun a E=>kt 2 E rfl hT (qah qaJ rfl (qac.cown 1 rfl rfl)) fun a E=>kt 3 E rfl hT (qaR (ps:=[(0,.tmp 130),(1,.tmp 132)]) (qs:=[(0,[vi v91]),(1,[vi x160.offset])]) (cs:=[vi v91,vi x160.offset]) qfk qf5 rfl ⟨rfl,rfl,rfl,⟨rfl,rfl,rfl,trivial⟩⟩ rfl) fun a E=>qaZ [4] (by kernel_rfl) rfl (qa1 ?_)
   ·refine wo rfl<|qai E ok 10 rfl rfl rfl qhP rfl rfl ⟨rfl,trivial⟩ rfl rfl fun w ok=>wn<|qay (cl1 (cq le_m130 ok [0,1,2,3,4,5,6,7,10] rfl) (cq le_m130 ok [0,1,2,3,4,5,6,7,10] rfl)) fun hT=>qaZ [5] (by kernel_rfl) rfl (qa1 ?_)
    ·refine wo rfl<|qai E ok 9 rfl rfl rfl qgW rfl rfl ⟨rfl,rfl,trivial⟩ rfl rfl fun w ok=>wn<|qay (cl1 (cq le_m130 ok [0,1,2,3,4,5,6,7,10] rfl) (cq le_m130 ok [0,1,2,3,4,5,6,7,10] rfl)) fun hT=>qaZ [6] (by kernel_rfl) rfl (qa1 ?_)
     ·refine wo rfl<|qai E ok 8 rfl rfl rfl qiE rfl rfl ⟨rfl,trivial⟩ rfl rfl fun w ok=>wn<|qay (cl1 (cq le_m130 ok [0,1,2,3,4,5,6,7,10] rfl) (cq le_m130 ok [0,1,2,3,4,5,6,7,10] rfl)) fun hT=>qcl (by kernel_rfl) ⟨rfl,?_⟩
      exact ⟨rfl,⟨ok,E.keep [6,7,8],(ir 14),r95,r170⟩⟩
  have hF:=qbV c256 hF
  refine wpIn_skip<|qaa<|wpIn_seq<|wpIn_seq ?_
  obtain ⟨cs264,c265,M266,M267,M268,ok,hr269,hx270,he271,hh272⟩:=NRow.open h255 e226 ok
  obtain ⟨c278,c280,c283,M273,M274,rfl,rfl,l275,l276,l277,h279,h281,r282,h284⟩:=he271
  replace ok:=ok.splitM2
  refine qn8 (by kernel_rfl) rfl (by kernel_rfl) ok<|qv E (qak qmG rfl) fun a E=>qv E (qah qal rfl (qac.own 4 rfl rfl)) fun a E=>qv E (qbn rfl rfl) fun a E=>qv E (qad rfl) fun a E=>bw E 137 hF (fun c285 hF E=>?_) fun c285 hF E=>?_
  ·as_aux_lemma =>
    refine qs E fun a E=>qs E fun a E=>qs E fun a E=>qs E fun a E=>qs E fun a E=>qs E fun a E=>qs E fun a E=>qs E fun a E=>qv E (qbq rfl rfl) fun a E=>wpQuiet_nil ?_
    intro w ok
    refine qaa ?_
    replace ok:=ok.joinM2
    obtain ⟨M643,ok,h644⟩:=NRow.close0 e226 ok hr269 hx270 (show qbm m130 [vs x225.ID,vs x225.Source,vs x225.Target,c278,c280,vi x225.State,c283] x225 (M273 ++ M274) from ⟨_,_,_,_,_,rfl,rfl,l275,l276,l277,h279,h281,r282,h284⟩) hh272
    refine r_if E rfl (fun h=>by cases h) (fun _=>?_)
    refine wpIn_skip<|qaa<|wpIn_seq<|wpIn_seq<|qeq rfl<|mv E rfl fun a E=>wpList_nil ⟨rfl,?_⟩
    refine qaa<|r_if E rfl (fun c645=>?_) (fun c645=>?_)
    rotate_left
    ·have hF:=qbV c645 hF
     refine wpIn_skip<|qaa<|qeq rfl<|mv E rfl fun a E=>lw E (qa7 rfl) fun a E=>fv E qdS rfl fun a E=>?_
     obtain ⟨cs725,c726,M727,M728,M729,ok,hr730,hx731,he732,hh733⟩:=NRow.open h644 e226 ok
     obtain ⟨c739,c741,c744,M734,M735,rfl,rfl,l736,l737,l738,h740,h742,r743,h745⟩:=he732
     replace ok:=ok.splitM2
     obtain ⟨hl746,hh747⟩:=qdK hr730 hx731 hp229 (by decide)
     refine lv E ok (qah qeG rfl (qac.sub 6 1 (hh747 _ _ _ 0 rfl))) fun a E=>?_
     obtain ⟨x748,e749,hF⟩:=bnd hF
     obtain ⟨b750,o751,hp752,yy753⟩:=qb4 qcQ h745 e749 (P:=Tryz.prog) (X:=.tmp 172) (I:=.const (vi 0)) (kd:=.i64) (qaC E rfl) (qaC E rfl)
     refine lv E ok (yy753 _ _) fun a E=>fv E qcL rfl fun a E=>?_
     obtain ⟨es754,hl755,rr756,hh757⟩:=qev h745 e749 hp752 (by decide)
     obtain ⟨rfl,l758,l759⟩:=rr756
     refine lv E ok (qah qal rfl (qac.sub 1 1 (hh757 _ _ _ 2 rfl))) fun a E=>mv E rfl fun a E=>bd hF fun s760 e761 hF=>lw E (qaL rfl rfl e761) fun a E=>?_
     obtain ⟨x762,e763,hF⟩:=bnd hF
     obtain ⟨b764,o765,hp766,yy767⟩:=qb4 qcQ h745 e763 (P:=Tryz.prog) (X:=.tmp 172) (I:=.const (vi 0)) (kd:=.i64) (qaC E rfl) (qaC E rfl)
     refine lv E ok (yy767 _ _) fun a E=>fv E qcL rfl fun a E=>bd hF fun l770 e771 hF=>qdB (R:=qft) (f:=1) E ok 2 rfl h745 e763 hp766 rfl rfl rfl qgB rfl rfl rfl ⟨rfl,trivial⟩ (fun es _ h=>by obtain ⟨rfl,l768,l769⟩:=h; exact ⟨rfl,l768,(qaH e761)⟩) e771 rfl fun M772 w ok h773=>wpList_nil ⟨rfl,?_⟩
     refine qaf ?_
     replace ok:=ok.joinM2
     obtain ⟨M774,ok,h775⟩:=NRow.close e226 ok hr730 hx731 (show qbm m130 [vs x225.ID,vs x225.Source,vs x225.Target,c739,c741,vi x225.State,c744] (Entry.mk x225.ID x225.Source x225.Target x225.Comments x225.Flags x225.State l770) (M734 ++ M772) from ⟨_,_,_,_,_,rfl,rfl,l736,l737,l738,h740,h742,r743,h773⟩) hh733
     cases hF
     exact hnK hcj rfl (ok.pk 11 [2,3,0,4,5,6,7,8,9,10] rfl (by decide)) h221 h775
    have hF:=qbW c645 hF
    refine qeq rfl<|mv E rfl fun a E=>lw E (qa7 rfl) fun a E=>fv E qdS rfl fun a E=>?_
    obtain ⟨cs646,c647,M648,M649,M650,ok,hr651,hx652,he653,hh654⟩:=NRow.open h644 e226 ok
    obtain ⟨c660,c662,c665,M655,M656,rfl,rfl,l657,l658,l659,h661,h663,r664,h666⟩:=he653
    replace ok:=ok.splitM2
    obtain ⟨hl667,hh668⟩:=qdK hr651 hx652 hp229 (by decide)
    refine lv E ok (qah qeG rfl (qac.sub 6 1 (hh668 _ _ _ 0 rfl))) fun a E=>?_
    obtain ⟨x669,e670,hF⟩:=bnd hF
    obtain ⟨b671,o672,hp673,yy674⟩:=qb4 qcQ h666 e670 (P:=Tryz.prog) (X:=.tmp 162) (I:=.const (vi 0)) (kd:=.i64) (qaC E rfl) (qaC E rfl)
    refine lv E ok (yy674 _ _) fun a E=>fv E qcL rfl fun a E=>?_
    obtain ⟨es675,hl676,rr677,hh678⟩:=qev h666 e670 hp673 (by decide)
    obtain ⟨rfl,l679,l680⟩:=rr677
    refine lv E ok (qah qal rfl (qac.sub 1 1 (hh678 _ _ _ 2 rfl))) fun a E=>bd hF fun s681 e682 hF=>lw E (qaL rfl rfl e682) fun a E=>?_
    obtain ⟨x683,e684,hF⟩:=bnd hF
    obtain ⟨b685,o686,hp687,yy688⟩:=qb4 qcQ h666 e684 (P:=Tryz.prog) (X:=.tmp 162) (I:=.const (vi 0)) (kd:=.i64) (qaC E rfl) (qaC E rfl)
    refine lv E ok (yy688 _ _) fun a E=>fv E qcL rfl fun a E=>bd hF fun l691 e692 hF=>qdB (R:=qft) (f:=1) E ok 2 rfl h666 e684 hp687 rfl rfl rfl qgB rfl rfl rfl ⟨rfl,trivial⟩ (fun es _ h=>by obtain ⟨rfl,l689,l690⟩:=h; exact ⟨rfl,l689,(qaH e682)⟩) e692 rfl fun M693 w ok h694=>wpList_nil ⟨rfl,?_⟩
    refine qaa<|qeq rfl<|mv E rfl fun a E=>lw E (qa7 rfl) fun a E=>fv E qdS rfl fun a E=>?_
    obtain ⟨hl695,hh696⟩:=qdK hr651 hx652 hp229 (by decide)
    refine lv E ok (qah qeG rfl (qac.sub 6 1 (hh696 _ _ _ 0 rfl))) fun a E=>?_
    obtain ⟨x697,e698,hF⟩:=bnd hF
    obtain ⟨b699,o700,hp701,yy702⟩:=qb4 qcQ h694 e698 (P:=Tryz.prog) (X:=.tmp 172) (I:=.const (vi 0)) (kd:=.i64) (qaC E rfl) (qaC E rfl)
    refine lv E ok (yy702 _ _) fun a E=>fv E qcL rfl fun a E=>?_
    obtain ⟨es703,hl704,rr705,hh706⟩:=qev h694 e698 hp701 (by decide)
    obtain ⟨rfl,l707,l708⟩:=rr705
    refine lv E ok (qah qal rfl (qac.sub 1 1 (hh706 _ _ _ 2 rfl))) fun a E=>mv E rfl fun a E=>bd hF fun s709 e710 hF=>lw E (qaL rfl rfl e710) fun a E=>?_
    obtain ⟨x711,e712,hF⟩:=bnd hF
    obtain ⟨b713,o714,hp715,yy716⟩:=qb4 qcQ h694 e712 (P:=Tryz.prog) (X:=.tmp 172) (I:=.const (vi 0)) (kd:=.i64) (qaC E rfl) (qaC E rfl)
    refine lv E ok (yy716 _ _) fun a E=>fv E qcL rfl fun a E=>bd hF fun l719 e720 hF=>qdB (R:=qft) (f:=1) E ok 2 rfl h694 e712 hp715 rfl rfl rfl qgB rfl rfl rfl ⟨rfl,trivial⟩ (fun es _ h=>by obtain ⟨rfl,l717,l718⟩:=h; exact ⟨rfl,l717,(qaH e710)⟩) e720 rfl fun M721 w ok h722=>wpList_nil ⟨rfl,?_⟩
    refine qaf ?_
    replace ok:=ok.joinM2
    obtain ⟨M723,ok,h724⟩:=NRow.close e226 ok hr651 hx652 (show qbm m130 [vs x225.ID,vs x225.Source,vs x225.Target,c660,c662,vi x225.State,c665] (Entry.mk x225.ID x225.Source x225.Target x225.Comments x225.Flags x225.State l719) (M655 ++ M721) from ⟨_,_,_,_,_,rfl,rfl,l657,l658,l659,h661,h663,r664,h722⟩) hh654
    cases hF
    exact hnK hcj rfl (ok.pk 11 [2,3,0,4,5,6,7,8,9,10] rfl (by decide)) h221 h724
  refine qv E (qad rfl) fun a E=>qv E (qa7 rfl) fun a E=>qv E (qak qkt rfl) fun a E=>?_
  obtain ⟨hl286,hh287⟩:=qdK hr269 hx270 hp229 (by decide)
  refine qv E (qah qku rfl (qac.sub 3 1 (hh287 _ _ _ 0 rfl))) fun a E=>qv E (qak qmG rfl) fun a E=>qv E (qah qal rfl (qac.own 4 rfl rfl)) fun a E=>bd hF fun r293 e294 hF=>qfZ E (v:=(vb r293)) qvX rfl (fun w ok=>?_) rfl rfl fun a E=>?_
  ·obtain ⟨m288,hle290,ok289,hfz291⟩:=(ok.frs 1 rfl).freeze
   have h292:=ORow.froz mS h279 hle290 hfz291 (by decide)
   refine Calls.mono (qhN N _ x225.Comments h292 x160.comment l173 e294 hG ok289) fun _ _ hz=>?_
   obtain ⟨hz1,okz⟩:=hz
   exact ⟨hz1,(Ok.thawAt 1 rfl ok hle290 hfz291 okz)⟩
  refine qv E (qbj rfl) fun a E=>qv E (qb5 rfl rfl) fun a E=>wpQuiet_nil ?_
  intro w ok
  refine qaa ?_
  replace ok:=ok.joinM2
  obtain ⟨M295,ok,h296⟩:=NRow.close0 e226 ok hr269 hx270 (show qbm m130 [vs x225.ID,vs x225.Source,vs x225.Target,c278,c280,vi x225.State,c283] x225 (M273 ++ M274) from ⟨_,_,_,_,_,rfl,rfl,l275,l276,l277,h279,h281,r282,h284⟩) hh272
  refine r_if E rfl (fun c297=>?_) (fun c297=>?_)
  rotate_left
  ·as_aux_lemma =>
    have hF:=qbV c297 hF
    refine wpIn_skip<|qaa<|wpIn_seq<|wpIn_seq<|qeq rfl<|mv E rfl fun a E=>wpList_nil ⟨rfl,?_⟩
    refine qaa<|r_if E rfl (fun c512=>?_) (fun c512=>?_)
    rotate_left
    ·have hF:=qbV c512 hF
     refine wpIn_skip<|qaa<|qeq rfl<|mv E rfl fun a E=>lw E (qa7 rfl) fun a E=>fv E qdS rfl fun a E=>?_
     obtain ⟨cs592,c593,M594,M595,M596,ok,hr597,hx598,he599,hh600⟩:=NRow.open h296 e226 ok
     obtain ⟨c606,c608,c611,M601,M602,rfl,rfl,l603,l604,l605,h607,h609,r610,h612⟩:=he599
     replace ok:=ok.splitM2
     obtain ⟨hl613,hh614⟩:=qdK hr597 hx598 hp229 (by decide)
     refine lv E ok (qah qeG rfl (qac.sub 6 1 (hh614 _ _ _ 0 rfl))) fun a E=>?_
     obtain ⟨x615,e616,hF⟩:=bnd hF
     obtain ⟨b617,o618,hp619,yy620⟩:=qb4 qcQ h612 e616 (P:=Tryz.prog) (X:=.tmp 172) (I:=.const (vi 0)) (kd:=.i64) (qaC E rfl) (qaC E rfl)
     refine lv E ok (yy620 _ _) fun a E=>fv E qcL rfl fun a E=>?_
     obtain ⟨es621,hl622,rr623,hh624⟩:=qev h612 e616 hp619 (by decide)
     obtain ⟨rfl,l625,l626⟩:=rr623
     refine lv E ok (qah qal rfl (qac.sub 1 1 (hh624 _ _ _ 2 rfl))) fun a E=>mv E rfl fun a E=>bd hF fun s627 e628 hF=>lw E (qaL rfl rfl e628) fun a E=>?_
     obtain ⟨x629,e630,hF⟩:=bnd hF
     obtain ⟨b631,o632,hp633,yy634⟩:=qb4 qcQ h612 e630 (P:=Tryz.prog) (X:=.tmp 172) (I:=.const (vi 0)) (kd:=.i64) (qaC E rfl) (qaC E rfl)
     refine lv E ok (yy634 _ _) fun a E=>fv E qcL rfl fun a E=>bd hF fun l637 e638 hF=>qdB (R:=qft) (f:=1) E ok 2 rfl h612 e630 hp633 rfl rfl rfl qgB rfl rfl rfl ⟨rfl,trivial⟩ (fun es _ h=>by obtain ⟨rfl,l635,l636⟩:=h; exact ⟨rfl,l635,(qaH e628)⟩) e638 rfl fun M639 w ok h640=>wpList_nil ⟨rfl,?_⟩
     refine qaf ?_
     replace ok:=ok.joinM2
     obtain ⟨M641,ok,h642⟩:=NRow.close e226 ok hr597 hx598 (show qbm m130 [vs x225.ID,vs x225.Source,vs x225.Target,c606,c608,vi x225.State,c611] (Entry.mk x225.ID x225.Source x225.Target x225.Comments x225.Flags x225.State l637) (M601 ++ M639) from ⟨_,_,_,_,_,rfl,rfl,l603,l604,l605,h607,h609,r610,h640⟩) hh600
     cases hF
     exact hnK hcj rfl (ok.pk 11 [2,3,0,4,5,6,7,8,9,10] rfl (by decide)) h221 h642
    have hF:=qbW c512 hF
    refine qeq rfl<|mv E rfl fun a E=>lw E (qa7 rfl) fun a E=>fv E qdS rfl fun a E=>?_
    obtain ⟨cs513,c514,M515,M516,M517,ok,hr518,hx519,he520,hh521⟩:=NRow.open h296 e226 ok
    obtain ⟨c527,c529,c532,M522,M523,rfl,rfl,l524,l525,l526,h528,h530,r531,h533⟩:=he520
    replace ok:=ok.splitM2
    obtain ⟨hl534,hh535⟩:=qdK hr518 hx519 hp229 (by decide)
    refine lv E ok (qah qeG rfl (qac.sub 6 1 (hh535 _ _ _ 0 rfl))) fun a E=>?_
    obtain ⟨x536,e537,hF⟩:=bnd hF
    obtain ⟨b538,o539,hp540,yy541⟩:=qb4 qcQ h533 e537 (P:=Tryz.prog) (X:=.tmp 162) (I:=.const (vi 0)) (kd:=.i64) (qaC E rfl) (qaC E rfl)
    refine lv E ok (yy541 _ _) fun a E=>fv E qcL rfl fun a E=>?_
    obtain ⟨es542,hl543,rr544,hh545⟩:=qev h533 e537 hp540 (by decide)
    obtain ⟨rfl,l546,l547⟩:=rr544
    refine lv E ok (qah qal rfl (qac.sub 1 1 (hh545 _ _ _ 2 rfl))) fun a E=>bd hF fun s548 e549 hF=>lw E (qaL rfl rfl e549) fun a E=>?_
    obtain ⟨x550,e551,hF⟩:=bnd hF
    obtain ⟨b552,o553,hp554,yy555⟩:=qb4 qcQ h533 e551 (P:=Tryz.prog) (X:=.tmp 162) (I:=.const (vi 0)) (kd:=.i64) (qaC E rfl) (qaC E rfl)
    refine lv E ok (yy555 _ _) fun a E=>fv E qcL rfl fun a E=>bd hF fun l558 e559 hF=>qdB (R:=qft) (f:=1) E ok 2 rfl h533 e551 hp554 rfl rfl rfl qgB rfl rfl rfl ⟨rfl,trivial⟩ (fun es _ h=>by obtain ⟨rfl,l556,l557⟩:=h; exact ⟨rfl,l556,(qaH e549)⟩) e559 rfl fun M560 w ok h561=>wpList_nil ⟨rfl,?_⟩
    refine qaa<|qeq rfl<|mv E rfl fun a E=>lw E (qa7 rfl) fun a E=>fv E qdS rfl fun a E=>?_
    obtain ⟨hl562,hh563⟩:=qdK hr518 hx519 hp229 (by decide)
    refine lv E ok (qah qeG rfl (qac.sub 6 1 (hh563 _ _ _ 0 rfl))) fun a E=>?_
    obtain ⟨x564,e565,hF⟩:=bnd hF
    obtain ⟨b566,o567,hp568,yy569⟩:=qb4 qcQ h561 e565 (P:=Tryz.prog) (X:=.tmp 172) (I:=.const (vi 0)) (kd:=.i64) (qaC E rfl) (qaC E rfl)
    refine lv E ok (yy569 _ _) fun a E=>fv E qcL rfl fun a E=>?_
    obtain ⟨es570,hl571,rr572,hh573⟩:=qev h561 e565 hp568 (by decide)
    obtain ⟨rfl,l574,l575⟩:=rr572
    refine lv E ok (qah qal rfl (qac.sub 1 1 (hh573 _ _ _ 2 rfl))) fun a E=>mv E rfl fun a E=>bd hF fun s576 e577 hF=>lw E (qaL rfl rfl e577) fun a E=>?_
    obtain ⟨x578,e579,hF⟩:=bnd hF
    obtain ⟨b580,o581,hp582,yy583⟩:=qb4 qcQ h561 e579 (P:=Tryz.prog) (X:=.tmp 172) (I:=.const (vi 0)) (kd:=.i64) (qaC E rfl) (qaC E rfl)
    refine lv E ok (yy583 _ _) fun a E=>fv E qcL rfl fun a E=>bd hF fun l586 e587 hF=>qdB (R:=qft) (f:=1) E ok 2 rfl h561 e579 hp582 rfl rfl rfl qgB rfl rfl rfl ⟨rfl,trivial⟩ (fun es _ h=>by obtain ⟨rfl,l584,l585⟩:=h; exact ⟨rfl,l584,(qaH e577)⟩) e587 rfl fun M588 w ok h589=>wpList_nil ⟨rfl,?_⟩
    refine qaf ?_
    replace ok:=ok.joinM2
    obtain ⟨M590,ok,h591⟩:=NRow.close e226 ok hr518 hx519 (show qbm m130 [vs x225.ID,vs x225.Source,vs x225.Target,c527,c529,vi x225.State,c532] (Entry.mk x225.ID x225.Source x225.Target x225.Comments x225.Flags x225.State l586) (M522 ++ M588) from ⟨_,_,_,_,_,rfl,rfl,l524,l525,l526,h528,h530,r531,h589⟩) hh521
    cases hF
    exact hnK hcj rfl (ok.pk 11 [2,3,0,4,5,6,7,8,9,10] rfl (by decide)) h221 h591
  have hF:=qbW c297 hF
  refine bd hF fun o298 hJ hF=>qp2 (Q':=fun e a w=>e = .normal ∧ ∃ c299 M300,Ok u m130 (M300 :: [(b174,oc 105 [vi x160.call,vi x160.offset,vs x160.id,vs x160.source,vs x160.comment])] :: [(b115,oc 75 [vs x103.Name,vs x103.Text])] :: [(b114,oc 3 [vi v91])] :: [(b71,oc 130 [c219])] :: M220 :: [(b67,oc 44 [c299])] :: M65 :: [(b3,oc 47 [vi 0])] :: [(b2,oc 46 [vi 0,vi 0])] :: [(b1,oc 44 [(Value.slice none 0 0)])] :: S1) w ∧ Env 187 a [(1,vcalls_1),(6,vp b1),(7,vp b2),(8,vp b3),(9,c64),(15,vp b67),(16,vp b71),(17,vp b114),(18,vp b115),(20,vs s185),(22,(vb ((mget x_150 x160.id).isSome))),(23,(Value.pointer (some ⟨b227,o228,none⟩))),(69,vfiles_2),(70,(vi (files_2.length:Int))),(71,vi v91)] ∧ NRow 53 7 qbm m130 c299 o298.1 M300 ∧ NPtr 7 c299 o192.1 b227 o228) ?_ ?_
  ·have hF:=hJ
   obtain ⟨l329,e330,hF⟩:=bnd hF
   obtain rfl:=sj hF
   obtain ⟨cs340,c341,M342,M343,M344,ok,hr345,hx346,he347,hh348⟩:=NRow.open h296 e226 ok
   obtain ⟨c354,c356,c359,M349,M350,rfl,rfl,l351,l352,l353,h355,h357,r358,h360⟩:=he347
   replace ok:=ok.splitM2
   refine qpk [4,6] (Cls u m130 (M342 :: [(b174,oc 105 [vi x160.call,vi x160.offset,vs x160.id,vs x160.source,vs x160.comment])] :: [(b115,oc 75 [vs x103.Name,vs x103.Text])] :: [(b114,oc 3 [vi v91])] :: [(b71,oc 130 [c219])] :: M220 :: [(b67,oc 44 [c222])] :: M65 :: [(b3,oc 47 [vi 0])] :: [(b2,oc 46 [vi 0,vi 0])] :: [(b1,oc 44 [(Value.slice none 0 0)])] :: [])) (Cls u m130 ([(b174,oc 105 [vi x160.call,vi x160.offset,vs x160.id,vs x160.source,vs x160.comment])] :: [(b115,oc 75 [vs x103.Name,vs x103.Text])] :: [(b114,oc 3 [vi v91])] :: [(b71,oc 130 [c219])] :: M220 :: M65 :: [(b3,oc 47 [vi 0])] :: [(b2,oc 46 [vi 0,vi 0])] :: [(b1,oc 44 [(Value.slice none 0 0)])] :: [])) (by kernel_rfl) rfl ?_
   intro w hw
   replace ok:=qcB ok hw
   clear hw
   have le_m130:=Mem.le.refl m130
   refine qay (cl1 (cq le_m130 ok [0,4,5,6,7,8,9,10,11,12,13] rfl) (cq le_m130 ok [4,5,6,7,8,10,11,12,13] rfl)) fun hT=>kt 0 E rfl hT (qad rfl) fun a E=>kt 1 E rfl hT (qad rfl) fun a E=>kt 2 E rfl hT (qa7 rfl) fun a E=>kt 3 E rfl hT (qak qkt rfl) fun a E=>?_
   obtain ⟨hl361,hh362⟩:=qdK hr345 hx346 hp229 (by decide)
   refine qbk 4 E rfl (by kernel_rfl) nP hT (qah qku rfl (qac.sub 3 1 (qac.crow hh362 0 rfl))) rfl rfl fun a E=>kt 5 E rfl hT (qak qmG rfl) fun a E=>qbk 6 E rfl (by kernel_rfl) nP hT (qah qal rfl (qac.cown 1 rfl rfl)) rfl rfl fun a E=>qaZ [7] (by kernel_rfl) rfl (qa1 ?_)
   ·refine wo rfl<|qaT (R:=pS) (xo:=[.tmp 153]) (xs:=([x160.comment]:List (List UInt8))) E ok qit qo4 rfl ⟨⟨_,rfl,rfl,(qty l173)⟩,trivial⟩ rfl rfl rfl rfl fun c363 M364 a w E ok h365=>wn<|qay (cl1 (cq le_m130 ok [1,5,6,7,8,9,10,11,12,13,14] rfl) (cq le_m130 ok [5,6,7,8,9,11,12,13,14] rfl)) fun hT=>qaZ [8] (by kernel_rfl) rfl (qa1 ?_)
    ·refine wo rfl<|qbR (R:=pS) E ok 2 mS qit Tryz.underlying50 rfl h355 (qa3.ofRow h365 0 rfl ok) e330 ⟨_,qo4,rfl⟩ rfl rfl rfl rfl fun c366 M367 a w E ok h368=>wn<|qay (cl1 (cq le_m130 ok [1,5,6,7,8,9,10,11,12,13,14] rfl) (cq le_m130 ok [5,6,7,8,9,11,12,13,14] rfl)) fun hT=>kt 9 E rfl hT (qa7 rfl) fun a E=>kt 10 E rfl hT (qak qkt rfl) fun a E=>qaZ [11] (by kernel_rfl) rfl (qa1 ?_)
     ·refine wo rfl<|qgR (f:=3) (c':=[vs x225.ID,vs x225.Source,vs x225.Target,c366,c356,vi x225.State,c359]) E ok 1 rfl hr345 hx346 hp229 rfl rfl rfl qvx (ORow.cells h368) rfl rfl ⟨(ORow.one h368),trivial⟩ rfl ⟨rfl,rfl,rfl,(ORow.one h368),(qbi h357),rfl,(ORow.one h360),trivial⟩ rfl fun M369 w ok hr370 hx371=>?_
      have hh372:=qeu.set (c':=[vs x225.ID,vs x225.Source,vs x225.Target,c366,c356,vi x225.State,c359]) hh348
      refine wn<|qay (cl2 (by kernel_rfl) (cq le_m130 ok [5,6,7,8,9,11,12,13,14] rfl)) fun hT=>qcl (by kernel_rfl) ⟨rfl,?_⟩
      replace ok:Ok u m130 (M369 :: M367 :: M350 :: M344 :: M364 :: [(b174,oc 105 [vi x160.call,vi x160.offset,vs x160.id,vs x160.source,vs x160.comment])] :: [(b115,oc 75 [vs x103.Name,vs x103.Text])] :: [(b114,oc 3 [vi v91])] :: [(b71,oc 130 [c219])] :: M220 :: [(b67,oc 44 [c222])] :: M65 :: [(b3,oc 47 [vi 0])] :: [(b2,oc 46 [vi 0,vi 0])] :: [(b1,oc 44 [(Value.slice none 0 0)])] :: S1) w:=(ok.pk 15 [1,2,3,4,0,5,6,7,8,9,10,11,12,13,14] rfl (by decide))
      replace ok:=ok.joinM2
      obtain ⟨M373,ok,h374⟩:=NRow.close e226 ok hr370 hx371 (show qbm m130 [vs x225.ID,vs x225.Source,vs x225.Target,c366,c356,vi x225.State,c359] (Entry.mk x225.ID x225.Source x225.Target l329 x225.Flags x225.State x225.Fields) (M367 ++ M350) from ⟨_,_,_,_,_,rfl,rfl,l351,l352,l353,h368,h357,r358,h360⟩) hh372
      exact ⟨rfl,⟨c222,M373,(ok.pk 12 [0,2,3,4,5,6,7,8,9,10,11] rfl (by decide)),E.keep [1,6,7,8,9,15,16,17,18,20,22,23,69,70,71],h374,hp229⟩⟩
  intro e a w hO
  obtain ⟨rfl,c375,M376,ok,E,h377,hp378⟩:=hO
  refine bd hF fun x379 e380 hF=>qaa<|wpIn_seq<|wpIn_seq<|qeq rfl<|mv E rfl fun a E=>wpList_nil ⟨rfl,?_⟩
  refine qaa<|r_if E rfl (fun c381=>?_) (fun c381=>?_)
  rotate_left
  ·have hF:=qbV c381 hF
   refine wpIn_skip<|qaa<|qeq rfl<|mv E rfl fun a E=>lw E (qa7 rfl) fun a E=>fv E qdS rfl fun a E=>?_
   obtain ⟨cs461,c462,M463,M464,M465,ok,hr466,hx467,he468,hh469⟩:=NRow.open h377 e380 ok
   obtain ⟨c475,c477,c480,M470,M471,rfl,rfl,l472,l473,l474,h476,h478,r479,h481⟩:=he468
   replace ok:=ok.splitM2
   obtain ⟨hl482,hh483⟩:=qdK hr466 hx467 hp378 (by decide)
   refine lv E ok (qah qeG rfl (qac.sub 6 1 (hh483 _ _ _ 0 rfl))) fun a E=>?_
   obtain ⟨x484,e485,hF⟩:=bnd hF
   obtain ⟨b486,o487,hp488,yy489⟩:=qb4 qcQ h481 e485 (P:=Tryz.prog) (X:=.tmp 172) (I:=.const (vi 0)) (kd:=.i64) (qaC E rfl) (qaC E rfl)
   refine lv E ok (yy489 _ _) fun a E=>fv E qcL rfl fun a E=>?_
   obtain ⟨es490,hl491,rr492,hh493⟩:=qev h481 e485 hp488 (by decide)
   obtain ⟨rfl,l494,l495⟩:=rr492
   refine lv E ok (qah qal rfl (qac.sub 1 1 (hh493 _ _ _ 2 rfl))) fun a E=>mv E rfl fun a E=>bd hF fun s496 e497 hF=>lw E (qaL rfl rfl e497) fun a E=>?_
   obtain ⟨x498,e499,hF⟩:=bnd hF
   obtain ⟨b500,o501,hp502,yy503⟩:=qb4 qcQ h481 e499 (P:=Tryz.prog) (X:=.tmp 172) (I:=.const (vi 0)) (kd:=.i64) (qaC E rfl) (qaC E rfl)
   refine lv E ok (yy503 _ _) fun a E=>fv E qcL rfl fun a E=>bd hF fun l506 e507 hF=>qdB (R:=qft) (f:=1) E ok 2 rfl h481 e499 hp502 rfl rfl rfl qgB rfl rfl rfl ⟨rfl,trivial⟩ (fun es _ h=>by obtain ⟨rfl,l504,l505⟩:=h; exact ⟨rfl,l504,(qaH e497)⟩) e507 rfl fun M508 w ok h509=>wpList_nil ⟨rfl,?_⟩
   refine qaf ?_
   replace ok:=ok.joinM2
   obtain ⟨M510,ok,h511⟩:=NRow.close e380 ok hr466 hx467 (show qbm m130 [vs x379.ID,vs x379.Source,vs x379.Target,c475,c477,vi x379.State,c480] (Entry.mk x379.ID x379.Source x379.Target x379.Comments x379.Flags x379.State l506) (M470 ++ M508) from ⟨_,_,_,_,_,rfl,rfl,l472,l473,l474,h476,h478,r479,h509⟩) hh469
   cases hF
   exact hnK hcj rfl (ok.pk 11 [2,3,0,4,5,6,7,8,9,10] rfl (by decide)) h221 h511
  have hF:=qbW c381 hF
  refine qeq rfl<|mv E rfl fun a E=>lw E (qa7 rfl) fun a E=>fv E qdS rfl fun a E=>?_
  obtain ⟨cs382,c383,M384,M385,M386,ok,hr387,hx388,he389,hh390⟩:=NRow.open h377 e380 ok
  obtain ⟨c396,c398,c401,M391,M392,rfl,rfl,l393,l394,l395,h397,h399,r400,h402⟩:=he389
  replace ok:=ok.splitM2
  obtain ⟨hl403,hh404⟩:=qdK hr387 hx388 hp378 (by decide)
  refine lv E ok (qah qeG rfl (qac.sub 6 1 (hh404 _ _ _ 0 rfl))) fun a E=>?_
  obtain ⟨x405,e406,hF⟩:=bnd hF
  obtain ⟨b407,o408,hp409,yy410⟩:=qb4 qcQ h402 e406 (P:=Tryz.prog) (X:=.tmp 162) (I:=.const (vi 0)) (kd:=.i64) (qaC E rfl) (qaC E rfl)
  refine lv E ok (yy410 _ _) fun a E=>fv E qcL rfl fun a E=>?_
  obtain ⟨es411,hl412,rr413,hh414⟩:=qev h402 e406 hp409 (by decide)
  obtain ⟨rfl,l415,l416⟩:=rr413
  refine lv E ok (qah qal rfl (qac.sub 1 1 (hh414 _ _ _ 2 rfl))) fun a E=>bd hF fun s417 e418 hF=>lw E (qaL rfl rfl e418) fun a E=>?_
  obtain ⟨x419,e420,hF⟩:=bnd hF
  obtain ⟨b421,o422,hp423,yy424⟩:=qb4 qcQ h402 e420 (P:=Tryz.prog) (X:=.tmp 162) (I:=.const (vi 0)) (kd:=.i64) (qaC E rfl) (qaC E rfl)
  refine lv E ok (yy424 _ _) fun a E=>fv E qcL rfl fun a E=>bd hF fun l427 e428 hF=>qdB (R:=qft) (f:=1) E ok 2 rfl h402 e420 hp423 rfl rfl rfl qgB rfl rfl rfl ⟨rfl,trivial⟩ (fun es _ h=>by obtain ⟨rfl,l425,l426⟩:=h; exact ⟨rfl,l425,(qaH e418)⟩) e428 rfl fun M429 w ok h430=>wpList_nil ⟨rfl,?_⟩
  refine qaa<|qeq rfl<|mv E rfl fun a E=>lw E (qa7 rfl) fun a E=>fv E qdS rfl fun a E=>?_
  obtain ⟨hl431,hh432⟩:=qdK hr387 hx388 hp378 (by decide)
  refine lv E ok (qah qeG rfl (qac.sub 6 1 (hh432 _ _ _ 0 rfl))) fun a E=>?_
  obtain ⟨x433,e434,hF⟩:=bnd hF
  obtain ⟨b435,o436,hp437,yy438⟩:=qb4 qcQ h430 e434 (P:=Tryz.prog) (X:=.tmp 172) (I:=.const (vi 0)) (kd:=.i64) (qaC E rfl) (qaC E rfl)
  refine lv E ok (yy438 _ _) fun a E=>fv E qcL rfl fun a E=>?_
  obtain ⟨es439,hl440,rr441,hh442⟩:=qev h430 e434 hp437 (by decide)
  obtain ⟨rfl,l443,l444⟩:=rr441
  refine lv E ok (qah qal rfl (qac.sub 1 1 (hh442 _ _ _ 2 rfl))) fun a E=>mv E rfl fun a E=>bd hF fun s445 e446 hF=>lw E (qaL rfl rfl e446) fun a E=>?_
  obtain ⟨x447,e448,hF⟩:=bnd hF
  obtain ⟨b449,o450,hp451,yy452⟩:=qb4 qcQ h430 e448 (P:=Tryz.prog) (X:=.tmp 172) (I:=.const (vi 0)) (kd:=.i64) (qaC E rfl) (qaC E rfl)
  refine lv E ok (yy452 _ _) fun a E=>fv E qcL rfl fun a E=>bd hF fun l455 e456 hF=>qdB (R:=qft) (f:=1) E ok 2 rfl h430 e448 hp451 rfl rfl rfl qgB rfl rfl rfl ⟨rfl,trivial⟩ (fun es _ h=>by obtain ⟨rfl,l453,l454⟩:=h; exact ⟨rfl,l453,(qaH e446)⟩) e456 rfl fun M457 w ok h458=>wpList_nil ⟨rfl,?_⟩
  refine qaf ?_
  replace ok:=ok.joinM2
  obtain ⟨M459,ok,h460⟩:=NRow.close e380 ok hr387 hx388 (show qbm m130 [vs x379.ID,vs x379.Source,vs x379.Target,c396,c398,vi x379.State,c401] (Entry.mk x379.ID x379.Source x379.Target x379.Comments x379.Flags x379.State l455) (M391 ++ M457) from ⟨_,_,_,_,_,rfl,rfl,l393,l394,l395,h397,h399,r400,h458⟩) hh390
  cases hF
  exact hnK hcj rfl (ok.pk 11 [2,3,0,4,5,6,7,8,9,10] rfl (by decide)) h221 h460
 
 ·rintro D ⟨ixD,outD⟩ T W ⟨M,c',M',rfl,h1,h2,h3⟩ hrunD okW hD hDef
  rw [hrun] at hrunD
  obtain rfl:=Option.some.inj hrunD
  have hF:=qaX hF
  have ok2:Ok u m94 (MkS Ds :: M' :: [(b71,oc 130 [c96])] :: M :: [(b67,oc 44 [c'])] :: M65 :: [(b3,oc 47 [vi 0])] :: [(b2,oc 46 [vi 0,vi 0])] :: [(b1,oc 44 [(Value.slice none 0 0)])] :: S) W:=okW.pk 13 [12,4,5,6,7,8,9,10,11] rfl (by decide)
  have hcl:=segs (v3:=vi 0) (v21:=vi 0) (v22:=vi 0) (c':=c') hSlt2 (h1.blk hbm) (qkE h2)
  have ok3:=ok2.addMk hmlt (fun q hq=>hcl q (by simp only [List.flatten_cons,List.mem_append] at hq ⊢; grind)) hD hDef
  replace ok:Ok u m94 (M' :: [(b71,oc 130 [c96])] :: M :: [(b67,oc 44 [c'])] :: M65 :: [(b3,oc 47 [vi 0])] :: [(b2,oc 46 [vi 0,vi 0])] :: [(b1,oc 44 [(Value.slice none 0 0)])] :: MkS (D :: Ds) :: S) W:=ok3.pk 9 [1,2,3,4,5,6,7,8,0] rfl (by decide)
  refine qaf<|qaf<|qaa ?_
  show Code.wp _ _ _ { a with defers:=qiu (D :: Ds) } W
  refine qkO<|qjR E0 ok (qar rfl rfl (InR.inc r95 (qaj hfiles_2) c102)) rfl rfl fun a E=>mv E rfl fun a E=>wpList_nil ⟨rfl,E.d,?_⟩
  cases hF
  exact qan ⟨D :: Ds,_,m94,c96,M,c',M',rfl,le_m63,ok,E.keep [1,6,7,8,9,15,16,69,70,71],(InR.inc r95 (qaj hfiles_2) c102),h1,h2⟩
 ·rintro D ⟨e1,e2,e3⟩ T W ⟨M,c',M',rfl,h1,h2,he1,hr1,hr2,hr3⟩ hrunD okW hD hDef
  rw [hrun] at hrunD
  obtain rfl:=Option.some.inj hrunD
  have hF:=qhk hF
  have ok2:Ok u m94 (MkS Ds :: [(b3,oc 47 [vi e3])] :: [(b2,oc 46 [vi e2.File,vi e2.Offset])] :: [(b1,oc 44 [(Value.slice none 0 0)])] :: S) W:=okW.pk 13 [12,9,10,11] rfl (by decide)
  have hcl:=segs (v3:=vi e3) (v21:=vi e2.File) (v22:=vi e2.Offset) (c':=c') hSlt2 h1 h2
  have ok3:=ok2.addMk hmlt (fun q hq=>hcl q (by simp only [List.flatten_cons,List.mem_append] at hq ⊢; grind)) hD hDef
  obtain ⟨hK,hnD⟩:=ok3.mkK
  have ok4:=ok3.takenM
  refine qag<|qag<|qae ?_
  have hret:qbG u m0 S (e1,e2,e3) a (taken W (D :: Ds)):=⟨m94,(.slice none 0 0),[vi e2.File,vi e2.Offset],le_m0,ok4.drop.drop.drop,E0.d,⟨qfR E0 ok4 rfl qfW (qac.own 2 rfl rfl),rv_c (cs:=[vi e2.File,vi e2.Offset]) E0 ok4 rfl qhU rfl (qac.own 1 rfl rfl),qfR E0 ok4 rfl qiD (qac.own 0 rfl rfl),trivial⟩,he1 ▸ qa9,⟨rfl,hr2,hr3⟩,hr1⟩
  cases hF
  exact so (sr ⟨rfl,D :: Ds,a,rfl,hK,hnD,hret⟩)
end Go.Proofs.YtllfckekodcdaaaGreatDoor
namespace Go.Proofs.YtllfckekodcdaaaGreatDoor
open Go.X
variable {u:World} {m0:Mem} {S:Segs} {w:World}
set_option maxHeartbeats 4000000
set_option maxRecDepth 100000
def qkT:Rp Setting:=fun m cs x=>∃ c0 c1,cs = [c0,c1] ∧ (pL 2 qbA) m [c0] x.Script ∧ (pL 3 qdd) m [c1] x.Calls
theorem qlX:qaw Tryz.prog 41 0 0 = true:=by kernel_rfl
theorem ql1:qaw Tryz.prog 41 1 1 = true:=by kernel_rfl
theorem qtr:goB Tryz.prog 13 = true:=by kernel_rfl
theorem qwf:goB Tryz.prog 21 = true:=by kernel_rfl
theorem qrC:goB Tryz.prog 23 = true:=by kernel_rfl
theorem qv6:goB Tryz.prog 27 = true:=by kernel_rfl
theorem qtJ:goB Tryz.prog 28 = true:=by kernel_rfl
theorem qwb:goB Tryz.prog 32 = true:=by kernel_rfl
theorem qvO:goB Tryz.prog 33 = true:=by kernel_rfl
theorem go_9:goB Tryz.prog 9 = true:=by kernel_rfl
theorem qne:oneB Tryz.prog 22 = true:=by kernel_rfl
theorem qnA:oneB Tryz.prog 39 = true:=by kernel_rfl
theorem qsb:qcN Tryz.prog 75 = some [(0,1),(1,1)]:=by kernel_rfl
theorem qrV:qcN Tryz.prog 83 = some [(0,1),(1,1),(2,1)]:=by kernel_rfl
def qk4 (u:World) (m0:Mem) (S:Segs) (r:Bool) (a:Act) (w:World):Prop :=
 Ok u m0 S w ∧ a.defers = [] ∧ RVs Tryz.prog a w [.t 0 (.bool r)]
theorem qk9 (N:Nat) {r:Bool} (hF:qfP N  = some r) (hG:Glob u) (hTb:Tab u) (ok:Ok u m0 S w) :
  Calls Tryz.prog 8 [].toArray w fun e w'=>(e = .returned (.bool r) ∧ Ok u m0 S w'):=by
 have hb0:=ok.base
 have le_m0:=Mem.le.refl m0
 unfold qfP at hF
 refine en (qk4 u m0 S) r Tryz.func8 rfl rfl rfl (fun _ _ h=>ra h rfl) fun fin a E=>sg<|aw E rfl fun a E=>sg<|bd hF fun r1 e2 hF=>qas E qv6 rfl (qlg N ([115,116,97,116,101,32,109,97,105,110,10,115,107,105,112,32,91,92,120,50,48,92,120,48,97,93,43,10,110,97,109,101,32,91,97,45,122,93,43,10,115,116,114,105,110,103,32,34,92,34,34,32,45,62,32,116,101,120,116,10,111,112,101,110,32,34,40,34,10,99,108,111,115,101,32,34,41,34,10,99,111,109,109,97,32,34,44,34,10,99,111,109,109,101,110,116,32,34,47,47,34,32,91,94,92,120,48,97,93,42,10,115,116,97,116,101,32,116,101,120,116,10,116,101,120,116,32,91,94,34,93,43,10,101,110,100,32,34,92,34,34,32,45,62,32,109,97,105,110,10]) (show ([115,116,97,116,101,32,109,97,105,110,10,115,107,105,112,32,91,92,120,50,48,92,120,48,97,93,43,10,110,97,109,101,32,91,97,45,122,93,43,10,115,116,114,105,110,103,32,34,92,34,34,32,45,62,32,116,101,120,116,10,111,112,101,110,32,34,40,34,10,99,108,111,115,101,32,34,41,34,10,99,111,109,109,97,32,34,44,34,10,99,111,109,109,101,110,116,32,34,47,47,34,32,91,94,92,120,48,97,93,42,10,115,116,97,116,101,32,116,101,120,116,10,116,101,120,116,32,91,94,34,93,43,10,101,110,100,32,34,92,34,34,32,45,62,32,109,97,105,110,10]:List UInt8).length ≤ LIMS by decide) e2 hG ok) rfl rfl ?_
 rintro _ w ⟨m3,c4,rfl,hle,ok,h5,r6,r7⟩
 have le_m0:=le_m0.trans hle
 refine ⟨_,rfl,fun a E=>?_⟩
 refine mv E rfl fun a E=>lw E (qao rfl rfl) fun a E=>lw E (qao rfl rfl) fun a E=>lw E (qao rfl rfl) fun a E=>av E rfl fun a E=>av E rfl fun a E=>av E rfl fun a E=>wn<|sg<|mv E rfl fun a E=>bd hF fun r8 e9 hF=>qas E qrC rfl (qhj N _ r1.1 h5 e9 hG ok) rfl rfl ?_
 rintro _ w ⟨m10,c11,rfl,hle,ok,h12⟩
 have le_m0:=le_m0.trans hle
 have h5:=(mL qaD).up hle h5
 refine ⟨_,rfl,fun a E=>?_⟩
 refine lw E (qaR (ps:=[(0,.const (vs ([116,114]))),(1,.const (vi (-1))),(2,.const (vi 0))]) (qs:=[(0,[(vs ([116,114]))]),(1,[(vi (-1))]),(2,[vi 0])]) (cs:=[(vs ([116,114])),(vi (-1)),vi 0]) qkl qrV rfl ⟨rfl,rfl,rfl,⟨rfl,rfl,rfl,⟨rfl,rfl,rfl,trivial⟩⟩⟩ rfl) fun a E=>qaT (R:=qdd) (xo:=[.tmp 15]) (xs:=([(Call.mk ([116,114]) (-1) 0)]:List (Call))) E ok qgg qkl rfl ⟨⟨_,rfl,rfl,⟨rfl,(show ([116,114]:List UInt8).length ≤ LIMS by decide),(ir (-1)),(ir 0)⟩⟩,trivial⟩ rfl rfl rfl rfl fun c13 M14 a w E ok h15=>lw E (qaR (ps:=[(0,.const (vs ([97,46,120]))),(1,.const (vs ([47,47,32,97,32,103,114,101,101,116,105,110,103,10,116,114,40,34,72,101,108,108,111,44,32,123,110,97,109,101,125,33,34,41])))]) (qs:=[(0,[(vs ([97,46,120]))]),(1,[(vs ([47,47,32,97,32,103,114,101,101,116,105,110,103,10,116,114,40,34,72,101,108,108,111,44,32,123,110,97,109,101,125,33,34,41]))])]) (cs:=[(vs ([97,46,120])),(vs ([47,47,32,97,32,103,114,101,101,116,105,110,103,10,116,114,40,34,72,101,108,108,111,44,32,123,110,97,109,101,125,33,34,41]))]) qin qsb rfl ⟨rfl,rfl,rfl,⟨rfl,rfl,rfl,trivial⟩⟩ rfl) fun a E=>qaT (R:=qef) (xo:=[.tmp 17]) (xs:=([(File.mk ([97,46,120]) ([47,47,32,97,32,103,114,101,101,116,105,110,103,10,116,114,40,34,72,101,108,108,111,44,32,123,110,97,109,101,125,33,34,41]))]:List (File))) E ok qis qin rfl ⟨⟨_,rfl,rfl,⟨rfl,(show ([97,46,120]:List UInt8).length ≤ LIMS by decide),(show ([47,47,32,97,32,103,114,101,101,116,105,110,103,10,116,114,40,34,72,101,108,108,111,44,32,123,110,97,109,101,125,33,34,41]:List UInt8).length ≤ LIMS by decide)⟩⟩,trivial⟩ rfl rfl rfl rfl fun c16 M17 a w E ok h18=>?_
 obtain ⟨m19,hle,ok,hfz⟩:=(ok.frs 1 rfl).freeze
 have h20:=ORow.froz qby h15 hle hfz (by decide)
 have le_m0:=le_m0.trans hle
 have h5:=(mL qaD).up hle h5
 have h12:=(mL qaD).up hle h12
 have h18:=ORow.up qcX hle h18
 obtain ⟨m21,hle,ok,hfz⟩:=(ok.frs 0 rfl).freeze
 have h22:=ORow.froz qcX h18 hle hfz (by decide)
 have le_m0:=le_m0.trans hle
 have h5:=(mL qaD).up hle h5
 have h12:=(mL qaD).up hle h12
 have h20:=(mL qby).up hle h20
 refine bd hF fun r23 e24 hF=>qas E qtJ rfl (qiT N _ r8 h12 _ ([(Call.mk ([116,114]) (-1) 0)]:List (Call)) h20 _ ([(File.mk ([97,46,120]) ([47,47,32,97,32,103,114,101,101,116,105,110,103,10,116,114,40,34,72,101,108,108,111,44,32,123,110,97,109,101,125,33,34,41]))]:List (File)) h22 e24 hG hTb ok) rfl rfl ?_
 rintro _ w ⟨m25,c26,vs28,rfl,hle,ok,h27,h29,r30⟩
 have le_m0:=le_m0.trans hle
 have h5:=(mL qaD).up hle h5
 have h12:=(mL qaD).up hle h12
 have h20:=(mL qby).up hle h20
 have h22:=(mL qcX).up hle h22
 obtain ⟨rfl,r31,r32⟩:=h29
 refine ⟨_,rfl,fun a E=>?_⟩
 refine mv E rfl fun a E=>lw E (qao rfl rfl) fun a E=>lw E (qao rfl rfl) fun a E=>lw E (qao rfl rfl) fun a E=>qaM E ok qfk rfl rfl fun b33 a w E ok=>av E rfl fun a E=>qai E ok 0 rfl rfl rfl qgW rfl rfl ⟨rfl,rfl,trivial⟩ rfl rfl fun w ok=>av E rfl fun a E=>wn<|sg<|mv E rfl fun a E=>lw E (qa0 rfl rfl) fun a E=>mv E rfl fun a E=>bw E 25 hF (fun c34 hF E=>?_) fun c34 hF E=>?_
 ·refine lsz E fun a E=>lsq E fun a E=>ls E fun a E=>pf E rfl rfl fun a E=>aw E rfl fun a E=>wp_ret ?_
  exact fin hF ⟨(ok.drop).down hb0 le_m0,E.d,rz E rfl⟩
 refine mv E rfl fun a E=>qaT (R:=pS) (xo:=[.const (vs ([97,32,103,114,101,101,116,105,110,103]))]) (xs:=([[97,32,103,114,101,101,116,105,110,103]]:List (List UInt8))) E ok qit qo4 rfl ⟨⟨_,rfl,rfl,(qty (show ([97,32,103,114,101,101,116,105,110,103]:List UInt8).length ≤ LIMS by decide))⟩,trivial⟩ rfl rfl rfl rfl fun c35 M36 a w E ok h37=>lw E (qaR (ps:=[(0,.const (vs ([114,101,102]))),(1,.const (vs ([97,46,120,58,50])))]) (qs:=[(0,[(vs ([114,101,102]))]),(1,[(vs ([97,46,120,58,50]))])]) (cs:=[(vs ([114,101,102])),(vs ([97,46,120,58,50]))]) ql4 qok rfl ⟨rfl,rfl,rfl,⟨rfl,rfl,rfl,trivial⟩⟩ rfl) fun a E=>qaT (R:=qft) (xo:=[.tmp 28]) (xs:=([(Field.mk ([114,101,102]) ([97,46,120,58,50]))]:List (Field))) E ok qcQ ql4 rfl ⟨⟨_,rfl,rfl,⟨rfl,(show ([114,101,102]:List UInt8).length ≤ LIMS by decide),(show ([97,46,120,58,50]:List UInt8).length ≤ LIMS by decide)⟩⟩,trivial⟩ rfl rfl rfl rfl fun c38 M39 a w E ok h40=>lw E (qaR (ps:=[(0,.const (vs ([72,101,108,108,111,44,32,123,110,97,109,101,125,33]))),(1,.const (vs ([72,101,108,108,111,44,32,123,110,97,109,101,125,33]))),(3,.tmp 27),(6,.tmp 29)]) (qs:=[(0,[(vs ([72,101,108,108,111,44,32,123,110,97,109,101,125,33]))]),(1,[(vs ([72,101,108,108,111,44,32,123,110,97,109,101,125,33]))]),(3,[c35]),(6,[c38])]) (cs:=[(vs ([72,101,108,108,111,44,32,123,110,97,109,101,125,33])),(vs ([72,101,108,108,111,44,32,123,110,97,109,101,125,33])),(vs ([])),c35,(Value.slice none 0 0),vi 0,c38]) qj5 qod rfl ⟨rfl,rfl,rfl,⟨rfl,rfl,rfl,⟨rfl,(ORow.cells h37),rfl,⟨rfl,(ORow.cells h40),rfl,trivial⟩⟩⟩⟩ rfl) fun a E=>?_
 obtain ⟨m41,hle,ok,hfz⟩:=(ok.frs 1 rfl).freeze
 have h42:=ORow.froz mS h37 hle hfz (by decide)
 have le_m0:=le_m0.trans hle
 have h5:=(mL qaD).up hle h5
 have h12:=(mL qaD).up hle h12
 have h20:=(mL qby).up hle h20
 have h22:=(mL qcX).up hle h22
 have h27:=(mL qnw).up hle h27
 have h40:=ORow.up qky hle h40
 obtain ⟨m43,hle,ok,hfz⟩:=(ok.frs 0 rfl).freeze
 have h44:=ORow.froz qky h40 hle hfz (by decide)
 have le_m0:=le_m0.trans hle
 have h5:=(mL qaD).up hle h5
 have h12:=(mL qaD).up hle h12
 have h20:=(mL qby).up hle h20
 have h22:=(mL qcX).up hle h22
 have h27:=(mL qnw).up hle h27
 have h42:=(mL mS).up hle h42
 refine qaT (R:=qfB) (xo:=[.tmp 30]) (xs:=([(Entry.mk ([72,101,108,108,111,44,32,123,110,97,109,101,125,33]) ([72,101,108,108,111,44,32,123,110,97,109,101,125,33]) ([]) ([[97,32,103,114,101,101,116,105,110,103]]:List (List UInt8)) ([]) 0 ([(Field.mk ([114,101,102]) ([97,46,120,58,50]))]:List (Field)))]:List (Entry))) E ok qgH qj5 rfl ⟨⟨_,rfl,rfl,⟨_,_,_,rfl,(show ([72,101,108,108,111,44,32,123,110,97,109,101,125,33]:List UInt8).length ≤ LIMS by decide),(show ([72,101,108,108,111,44,32,123,110,97,109,101,125,33]:List UInt8).length ≤ LIMS by decide),(Nat.zero_le _),h42,qa9,(ir 0),h44⟩⟩,trivial⟩ rfl rfl rfl rfl fun c45 M46 a w E ok h47=>?_
 obtain ⟨r53,e54,hF⟩:=bnd hF
 obtain ⟨m48,hle50,ok49,hfz51⟩:=(ok.frs 0 rfl).freeze
 have h52:=ORow.froz qnw h47 hle50 hfz51 (by decide)
 have h27':=(mL qnw).up hle50 h27
 refine qas E qwf rfl (qlI N _ r23.1 h27' _ ([(Entry.mk ([72,101,108,108,111,44,32,123,110,97,109,101,125,33]) ([72,101,108,108,111,44,32,123,110,97,109,101,125,33]) ([]) ([[97,32,103,114,101,101,116,105,110,103]]:List (List UInt8)) ([]) 0 ([(Field.mk ([114,101,102]) ([97,46,120,58,50]))]:List (Field)))]:List (Entry)) h52 e54 hG ok49) rfl rfl ?_
 rintro _ w ⟨rfl,okz⟩
 replace ok:=(Ok.thawAt 0 rfl ok hle50 hfz51 okz)
 refine ⟨_,rfl,fun a E=>?_⟩
 refine pt E rfl rfl fun a E=>aw E rfl fun a E=>wp_ret ?_
 exact fin hF ⟨(ok.drop.drop).down hb0 le_m0,E.d,rz E rfl⟩
def qmu (u:World) (m0:Mem) (S:Segs) (r:Bool) (a:Act) (w:World):Prop :=
 Ok u m0 S w ∧ a.defers = [] ∧ RVs Tryz.prog a w [.t 4 (.bool r)]
theorem qmp (N:Nat) (vs_0:List Value) (s_0:Setting) (hs_0:qkT m0 vs_0 s_0) (vl_1:Value) (l_1:List (File)) (hl_1:(pL 2 qef) m0 [vl_1] l_1) {r:Bool} (hF:qfp N s_0 l_1 = some r) (hG:Glob u) (ok:Ok u m0 S w) :
  Calls Tryz.prog 15 [.agg vs_0.toArray,vl_1].toArray w fun e w'=>(e = .returned (.bool r) ∧ Ok u m0 S w'):=by
 obtain ⟨c1,c3,rfl,h2,h4⟩:=hs_0
 unfold qfp at hF
 refine en (qmu u m0 S) r Tryz.func15 rfl rfl rfl (fun _ _ h=>ra h rfl) fun fin a E=>sg<|qcC E ok rfl rfl rfl fun b5 a w E ok=>aw E rfl fun a E=>sg<|fk E ok qlX qnA rfl 0 rfl rfl fun a E=>bd hF fun r6 e7 hF=>lc E qwb rfl (qml N _ s_0.Script h2 e7 hG ok) fun w ok a E=>mv E rfl fun a E=>qc8 r6 (fun c8=>?_) (fun c8=>?_)
 rotate_left
 ·have hF:=qbV c8 hF
  have E:=E.upd 8 c8 rfl
  refine lsz E fun a E=>pf E rfl rfl fun a E=>aw E rfl fun a E=>wp_ret ?_
  exact fin hF ⟨ok.drop,E.d,rz E rfl⟩
 have hF:=qbW c8 hF
 have E:=E.upd 8 c8 rfl
 refine fk E ok ql1 qne rfl 0 rfl rfl fun a E=>mv E rfl fun a E=>bd hF fun r9 e10 hF=>lc E go_9 rfl (qmm N _ s_0.Calls h4 _ l_1 hl_1 e10 hG ok) fun w ok a E=>pt E rfl rfl fun a E=>aw E rfl fun a E=>wp_ret ?_
 exact fin hF ⟨ok.drop,E.d,rz E rfl⟩
def qmr (u:World) (m0:Mem) (S:Segs) (r:(List (Entry)) × Place × Int) (a:Act) (w:World):Prop :=
 ∃ m1 v0 v1,m0.le m1 ∧ Ok u m1 S w ∧ a.defers = [] ∧ RVs Tryz.prog a w [.t 4 v0,.c 5 46 (.agg v1.toArray),.t 6 (.int .i64 r.2.2)] ∧ (pL 7 qfB) m1 [v0] r.1 ∧ qkA m1 v1 r.2.1 ∧ InR .i64 r.2.2
theorem qmt (N:Nat) (vs_0:List Value) (s_0:Setting) (hs_0:qkT m0 vs_0 s_0) (vl_1:Value) (l_1:List (File)) (hl_1:(pL 2 qef) m0 [vl_1] l_1) {r:(List (Entry)) × Place × Int} (hF:qfo N s_0 l_1 = some r) (hG:Glob u) (hTb:Tab u) (ok:Ok u m0 S w) :
  Calls Tryz.prog 16 [.agg vs_0.toArray,vl_1].toArray w fun e w'=>∃ m1 v0 v1,e = .returned (.tuple [v0,(.agg v1.toArray),(.int .i64 r.2.2)].toArray) ∧ m0.le m1 ∧ Ok u m1 S w' ∧ (pL 7 qfB) m1 [v0] r.1 ∧ qkA m1 v1 r.2.1 ∧ InR .i64 r.2.2:=by
 obtain ⟨c1,c3,rfl,h2,h4⟩:=hs_0
 have le_m0:=Mem.le.refl m0
 unfold qfo at hF
 refine en (qmr u m0 S) r Tryz.func16 rfl rfl rfl (by rintro a w ⟨m1,v0,v1,hle,ok,hd,hrv,h0,h1,h2⟩; exact qbs [.t 4 v0,.c 5 46 (.agg v1.toArray),.t 6 (.int .i64 r.2.2)] hd rfl hrv ⟨m1,v0,v1,rfl,hle,ok,h0,h1,h2⟩) fun fin a E=>sg<|qcC E ok rfl rfl rfl fun b5 a w E ok=>av E rfl fun a E=>qaM E ok qfk rfl rfl fun b6 a w E ok=>av E rfl fun a E=>wn<|wp_seq<|bd hF fun o7 hJ hF=>qa6 (Q':=fun e a w=>e = .normal ∧ ∃ m8 c9,m0.le m8 ∧ Ok u m8 ([(b6,oc 46 [vi o7.2.2.File,vi o7.2.2.Offset])] :: [(b5,oc 41 [c1,c3])] :: S) w ∧ Env 19 a [(4,c9),(5,vp b6),(6,vi o7.2.1)] ∧ (pL 7 qfB) m8 [c9] o7.1 ∧ InR .i64 o7.2.1 ∧ InR .i64 o7.2.2.File ∧ InR .i64 o7.2.2.Offset) ?_ ?_
 rotate_left
 ·intro e a w hO
  obtain ⟨rfl,m56,c57,hle,ok,E,h58,r59,r60,r61⟩:=hO
  have le_m0:=le_m0.trans hle
  have h2:=(mL qaD).up hle h2
  have h4:=(mL qby).up hle h4
  have hl_1:=(mL qcX).up hle hl_1
  refine qaa<|wp_ret ?_
  exact fin hF ⟨m56,c57,[vi o7.2.2.File,vi o7.2.2.Offset],le_m0,ok.drop.drop,E.d,⟨rv_t E rfl,rv_c (cs:=[vi o7.2.2.File,vi o7.2.2.Offset]) E ok rfl qhU rfl (qac.own 0 rfl rfl),rv_t E rfl,trivial⟩,h58,⟨rfl,r60,r61⟩,r59⟩
 have hF:=hJ
 obtain ⟨r14,e15,hF⟩:=bnd hF
 obtain ⟨r19,e20,hF⟩:=bnd hF
 obtain ⟨r24,e25,hF⟩:=bnd hF
 obtain ⟨r29,e30,hF⟩:=bnd hF
 obtain rfl:=sj hF
 refine qcb [1,4] (Cls u m0 ([(b6,oc 46 [vi 0,vi 0])] :: [(b5,oc 41 [c1,c3])] :: [])) (Cls u m0 ([(b5,oc 41 [c1,c3])] :: [])) (by kernel_rfl) ?_
 intro w hw
 replace ok:=qcB ok hw
 clear hw
 have h2_o:=h2
 have h4_o:=h4
 have hl_1_o:=hl_1
 refine qay (cl1 (cq le_m0 ok [0,1] rfl) (cq le_m0 ok [1] rfl)) fun hT=>kt 0 E rfl hT (qak qlX rfl) fun a E=>qbk 1 E rfl (by kernel_rfl) nP hT (qah qnA rfl (qac.cown 1 rfl rfl)) rfl rfl fun a E=>kt 3 E rfl hT (qak ql1 rfl) fun a E=>qbk 4 E rfl (by kernel_rfl) nP hT (qah qne rfl (qac.cown 1 rfl rfl)) rfl rfl fun a E=>kt 6 E rfl hT (qad rfl) fun a E=>qaZ [2] (by kernel_rfl) rfl (qa1 ?_)
 ·refine wo rfl<|qas E qrC rfl (qhj N _ s_0.Script h2 e15 hG ok) rfl rfl ?_
  rintro _ w ⟨m39,c40,rfl,hle,ok,h41⟩
  have le_m0:=le_m0.trans hle
  have h2:=(mL qaD).up hle h2
  have h4:=(mL qby).up hle h4
  have hl_1:=(mL qcX).up hle hl_1
  refine ⟨_,rfl,fun a E=>?_⟩
  refine wn<|qay (cl1 (cq le_m0 ok [0,1] rfl) (cq le_m0 ok [1] rfl)) fun hT=>qaZ [5] (by kernel_rfl) rfl (qa1 ?_)
  ·refine wo rfl<|qas E qtr rfl (qiU N _ s_0.Calls h4 e20 hG ok) rfl rfl ?_
   rintro _ w ⟨m42,c43,rfl,hle,ok,h44⟩
   have le_m0:=le_m0.trans hle
   have h2:=(mL qaD).up hle h2
   have h4:=(mL qby).up hle h4
   have hl_1:=(mL qcX).up hle hl_1
   have h41:=(mL qaD).up hle h41
   refine ⟨_,rfl,fun a E=>?_⟩
   refine wn<|qay (cl1 (cq le_m0 ok [0,1] rfl) (cq le_m0 ok [1] rfl)) fun hT=>qaZ [7] (by kernel_rfl) rfl (qa1 ?_)
   ·refine wo rfl<|qas E qvO rfl (qle N _ l_1 hl_1 e25 hG ok) rfl rfl ?_
    rintro _ w ⟨m45,c46,rfl,hle,ok,h47⟩
    have le_m0:=le_m0.trans hle
    have h2:=(mL qaD).up hle h2
    have h4:=(mL qby).up hle h4
    have hl_1:=(mL qcX).up hle hl_1
    have h41:=(mL qaD).up hle h41
    have h44:=(mL qby).up hle h44
    refine ⟨_,rfl,fun a E=>?_⟩
    refine wn<|qay (cl1 (cq le_m0 ok [0,1] rfl) (cq le_m0 ok [1] rfl)) fun hT=>qaZ [8] (by kernel_rfl) rfl (qa1 ?_)
    ·refine wo rfl<|qas E qtJ rfl (qiT N _ r14 h41 _ r19 h44 _ r24 h47 e30 hG hTb ok) rfl rfl ?_
     rintro _ w ⟨m48,c49,vs51,rfl,hle,ok,h50,h52,r53⟩
     have le_m0:=le_m0.trans hle
     have h2:=(mL qaD).up hle h2
     have h4:=(mL qby).up hle h4
     have hl_1:=(mL qcX).up hle hl_1
     have h41:=(mL qaD).up hle h41
     have h44:=(mL qby).up hle h44
     have h47:=(mL qcX).up hle h47
     obtain ⟨rfl,r54,r55⟩:=h52
     refine ⟨_,rfl,fun a E=>?_⟩
     refine wn<|qay (cl1 (cq le_m0 ok [0,1] rfl) (cq le_m0 ok [1] rfl)) fun hT=>kt 9 E rfl hT (qao rfl rfl) fun a E=>kt 10 E rfl hT (qao rfl rfl) fun a E=>kt 11 E rfl hT (qao rfl rfl) fun a E=>kt 12 E rfl hT (qaq rfl) fun a E=>qaZ [13] (by kernel_rfl) rfl (qa1 ?_)
     ·refine wo rfl<|qai E ok 0 rfl rfl rfl qgW rfl rfl ⟨rfl,rfl,trivial⟩ rfl rfl fun w ok=>wn<|qay (cl2 (by kernel_rfl) (cq le_m0 ok [1] rfl)) fun hT=>kt 14 E rfl hT (qaq rfl) fun a E=>qcl (by kernel_rfl) ?_
      exact ⟨rfl,⟨m48,c49,le_m0,ok,E.keep [4,5,6],h50,r53,r54,r55⟩⟩
end Go.Proofs.YtllfckekodcdaaaGreatDoor
namespace Go.Proofs.YtllfckekodcdaaaGreatDoor
open Go.X
variable {u:World} {m0:Mem} {S:Segs} {w:World}
set_option maxHeartbeats 4000000
set_option maxRecDepth 100000
theorem qrQ:aggB Tryz.prog 41 2 = true:=by kernel_rfl
theorem qwP:goB Tryz.prog 15 = true:=by kernel_rfl
theorem qv7:goB Tryz.prog 16 = true:=by kernel_rfl
theorem qvZ:goB Tryz.prog 22 = true:=by kernel_rfl
theorem qvK:goB Tryz.prog 24 = true:=by kernel_rfl
theorem qwM:goB Tryz.prog 25 = true:=by kernel_rfl
theorem qwz:goB Tryz.prog 26 = true:=by kernel_rfl
theorem go_8:goB Tryz.prog 8 = true:=by kernel_rfl
theorem qqG:qbf Tryz.prog 62 = some [(vs ([])),(vs ([]))]:=by kernel_rfl
def qf3 (u:World) (m0:Mem) (S:Segs) (r:Bool) (a:Act) (w:World):Prop :=
 Ok u m0 S w ∧ a.defers = [] ∧ RVs Tryz.prog a w [.t 4 (.bool r)]
theorem qip (N:Nat) (vs_0:List Value) (s_0:Setting) (hs_0:qkT m0 vs_0 s_0) (vfile_1:List Value) (file_1:File) (hfile_1:qef m0 vfile_1 file_1) {r:Bool} (hF:qbF N s_0 file_1 = some r) (hG:Glob u) (hTb:Tab u) (ok:Ok u m0 S w) :
  Calls Tryz.prog 7 [.agg vs_0.toArray,.agg vfile_1.toArray].toArray w fun e w'=>(e = .returned (.bool r) ∧ Ok u m0 S w'):=by
 obtain ⟨c1,c3,rfl,h2,h4⟩:=hs_0
 obtain ⟨rfl,l5,l6⟩:=hfile_1
 have hb0:=ok.base
 have le_m0:=Mem.le.refl m0
 unfold qbF at hF
 refine en (qf3 u m0 S) r Tryz.func7 rfl rfl rfl (fun _ _ h=>ra h rfl) fun fin a E=>sg<|qcC E ok rfl rfl rfl fun b7 a w E ok=>qcC E ok rfl rfl rfl fun b8 a w E ok=>aw E rfl fun a E=>wp_seq<|sg<|bd hF fun r9 e10 hF=>lc E go_8 rfl (qk9 N  e10 hG hTb ok) fun w ok a E=>lw E (qbj rfl) fun a E=>wn<|cf E rfl hF (fun c11 hF=>?_) fun c11 hF=>?_
 ·refine sg<|aw E rfl fun a E=>wp_ret<|qae ?_
  exact fin hF ⟨ok.drop.drop,E.d,rz E rfl⟩
 refine wp_skip<|qaa<|wp_seq<|sg<|lv E ok (qam (cs:=[c1,c3]) qrQ rfl rfl (qac.own 1 rfl rfl)) fun a E=>lv E ok (qam (cs:=[vs file_1.Name,vs file_1.Text]) qlS rfl rfl (qac.own 0 rfl rfl)) fun a E=>qaT (R:=qef) (xo:=[.tmp 18]) (xs:=([file_1]:List (File))) E ok qjW qqG rfl ⟨⟨_,rfl,rfl,⟨rfl,l5,l6⟩⟩,trivial⟩ rfl rfl rfl rfl fun c12 M13 a w E ok h14=>?_
 obtain ⟨r20,e21,hF⟩:=bnd hF
 obtain ⟨m15,hle17,ok16,hfz18⟩:=(ok.frs 0 rfl).freeze
 have h19:=ORow.froz qcX h14 hle17 hfz18 (by decide)
 have h2':=(mL qaD).up hle17 h2
 have h4':=(mL qby).up hle17 h4
 refine qas E qwP rfl (qmp N _ s_0 ⟨_,_,rfl,h2',h4'⟩ _ ([file_1]:List (File)) h19 e21 hG ok16) rfl rfl ?_
 rintro _ w ⟨rfl,okz⟩
 replace ok:=(Ok.thawAt 0 rfl ok hle17 hfz18 okz)
 refine ⟨_,rfl,fun a E=>?_⟩
 refine lw E (qbj rfl) fun a E=>wn<|cf E rfl hF (fun c22 hF=>?_) fun c22 hF=>?_
 ·refine sg<|aw E rfl fun a E=>wp_ret<|qae ?_
  exact fin hF ⟨ok.drop.drop.drop,E.d,rz E rfl⟩
 refine wp_skip<|qaa<|wp_seq<|bd hF fun o23 hJ hF=>qa6 (Q':=fun e a w=>e = .normal ∧ ∃ m24 c25,m0.le m24 ∧ Ok u m24 (M13 :: [(b8,oc 62 [vs file_1.Name,vs file_1.Text])] :: [(b7,oc 41 [c1,c3])] :: S) w ∧ Env 99 a [(2,vp b7),(3,vp b8),(5,c25),(6,vi o23.2)] ∧ (pL 1 (pI .i64)) m24 [c25] o23.1 ∧ InR .i64 o23.2) ?_ ?_
 ·have hF:=hJ
  obtain ⟨r28,e29,hF⟩:=bnd hF
  obtain ⟨r33,e34,hF⟩:=bnd hF
  obtain ⟨r38,e39,hF⟩:=bnd hF
  obtain rfl:=sj hF
  refine qcb [] (Cls u m0 (M13 :: [(b8,oc 62 [vs file_1.Name,vs file_1.Text])] :: [(b7,oc 41 [c1,c3])] :: [])) (Cls u m0 (M13 :: [(b8,oc 62 [vs file_1.Name,vs file_1.Text])] :: [(b7,oc 41 [c1,c3])] :: [])) (by kernel_rfl) ?_
  intro w hw
  replace ok:=qcB ok hw
  clear hw
  have h2_o:=h2
  have h4_o:=h4
  refine qay (cl1 (cq le_m0 ok [0,1,2] rfl) (cq le_m0 ok [0,1,2] rfl)) fun hT=>kt 0 E rfl hT (qak qlX rfl) fun a E=>kt 1 E rfl hT (qah qnA rfl (qac.cown 2 rfl rfl)) fun a E=>kt 3 E rfl hT (qak ql1 rfl) fun a E=>kt 4 E rfl hT (qah qne rfl (qac.cown 2 rfl rfl)) fun a E=>kt 6 E rfl hT (qam (cs:=[vs file_1.Name,vs file_1.Text]) qlS rfl rfl (qac.cown 1 rfl rfl)) fun a E=>qaZ [2] (by kernel_rfl) rfl (qa1 ?_)
  ·refine wo rfl<|qas E qrC rfl (qhj N _ s_0.Script h2 e29 hG ok) rfl rfl ?_
   rintro _ w ⟨m44,c45,rfl,hle,ok,h46⟩
   have le_m0:=le_m0.trans hle
   have h2:=(mL qaD).up hle h2
   have h4:=(mL qby).up hle h4
   have h14:=ORow.up qcX hle h14
   refine ⟨_,rfl,fun a E=>?_⟩
   refine wn<|qay (cl1 (cq le_m0 ok [0,1,2] rfl) (cq le_m0 ok [0,1,2] rfl)) fun hT=>qaZ [5] (by kernel_rfl) rfl (qa1 ?_)
   ·refine wo rfl<|qas E qtr rfl (qiU N _ s_0.Calls h4 e34 hG ok) rfl rfl ?_
    rintro _ w ⟨m47,c48,rfl,hle,ok,h49⟩
    have le_m0:=le_m0.trans hle
    have h2:=(mL qaD).up hle h2
    have h4:=(mL qby).up hle h4
    have h14:=ORow.up qcX hle h14
    have h46:=(mL qaD).up hle h46
    refine ⟨_,rfl,fun a E=>?_⟩
    refine wn<|qay (cl1 (cq le_m0 ok [0,1,2] rfl) (cq le_m0 ok [0,1,2] rfl)) fun hT=>qaZ [7] (by kernel_rfl) rfl (qa1 ?_)
    ·refine wo rfl<|qas E qvZ rfl (qny N _ r28 h46 _ r33 h49 _ file_1 ⟨rfl,l5,l6⟩ e39 hG ok) rfl rfl ?_
     rintro _ w ⟨m50,c51,rfl,hle,ok,h52,r53⟩
     have le_m0:=le_m0.trans hle
     have h2:=(mL qaD).up hle h2
     have h4:=(mL qby).up hle h4
     have h14:=ORow.up qcX hle h14
     have h46:=(mL qaD).up hle h46
     have h49:=(mL qby).up hle h49
     refine ⟨_,rfl,fun a E=>?_⟩
     refine wn<|qay (cl1 (cq le_m0 ok [0,1,2] rfl) (cq le_m0 ok [0,1,2] rfl)) fun hT=>kt 8 E rfl hT (qad rfl) fun a E=>kt 9 E rfl hT (qao rfl rfl) fun a E=>kt 10 E rfl hT (qao rfl rfl) fun a E=>kt 11 E rfl hT (qaq rfl) fun a E=>kt 12 E rfl hT (qaq rfl) fun a E=>qcl (by kernel_rfl) ?_
     exact ⟨rfl,⟨m50,c51,le_m0,ok,E.keep [2,3,5,6],h52,r53⟩⟩
 intro e a w hO
 obtain ⟨rfl,m54,c55,hle,ok,E,h56,r57⟩:=hO
 have le_m0:=le_m0.trans hle
 have h2:=(mL qaD).up hle h2
 have h4:=(mL qby).up hle h4
 refine qaa<|sg<|fk E ok qlX qnA rfl 2 rfl rfl fun a E=>fk E ok ql1 qne rfl 2 rfl rfl fun a E=>lv E ok (qam (cs:=[vs file_1.Name,vs file_1.Text]) qlS rfl rfl (qac.own 1 rfl rfl)) fun a E=>bd hF fun r58 e59 hF=>qas E qvK rfl (qlh N _ s_0.Script h2 _ s_0.Calls h4 _ file_1 ⟨rfl,l5,l6⟩ e59 hG ok) rfl rfl ?_
 rintro _ w ⟨m60,c61,rfl,hle,ok,h62,r63⟩
 have le_m0:=le_m0.trans hle
 have h2:=(mL qaD).up hle h2
 have h4:=(mL qby).up hle h4
 have h56:=(mL (mI .i64)).up hle h56
 refine ⟨_,rfl,fun a E=>?_⟩
 refine mv E rfl fun a E=>lw E (qao rfl rfl) fun a E=>lw E (qao rfl rfl) fun a E=>av E rfl fun a E=>aw E rfl fun a E=>wp_seq<|sg<|mz E rfl rfl fun a E=>lw E (qcn rfl rfl) fun a E=>mv E rfl fun a E=>bu E 45 hF (fun c64 hF E=>?_) fun c64 hF E=>?_
 ·refine lsz E fun a E=>pt E rfl rfl fun a E=>wn<|c_if E rfl (fun _=>?_) (fun h=>by cases h)
  refine sg<|aw E rfl fun a E=>wp_ret<|qae ?_
  exact fin hF ⟨(ok.drop.drop.drop).down hb0 le_m0,E.d,rz E rfl⟩
 refine mz E rfl rfl fun a E=>bd hF fun r65 e66 hF=>lc E qwM rfl (qjZ N _ o23.1 h56 _ r58.1 h62 e66 hG ok) fun w ok a E=>lw E (qbj rfl) fun a E=>pf E rfl rfl fun a E=>wn<|cf E rfl hF (fun c67 hF=>?_) fun c67 hF=>?_
 ·refine sg<|aw E rfl fun a E=>wp_ret<|qae ?_
  exact fin hF ⟨(ok.drop.drop.drop).down hb0 le_m0,E.d,rz E rfl⟩
 refine wp_skip<|qaa<|sg<|lv E ok (qam (cs:=[c1,c3]) qrQ rfl rfl (qac.own 2 rfl rfl)) fun a E=>lv E ok (qam (cs:=[vs file_1.Name,vs file_1.Text]) qlS rfl rfl (qac.own 1 rfl rfl)) fun a E=>qaT (R:=qef) (xo:=[.tmp 53]) (xs:=([file_1]:List (File))) E ok qjW qqG rfl ⟨⟨_,rfl,rfl,⟨rfl,l5,l6⟩⟩,trivial⟩ rfl rfl rfl rfl fun c68 M69 a w E ok h70=>?_
 obtain ⟨m71,hle,ok,hfz⟩:=(ok.frs 0 rfl).freeze
 have h72:=ORow.froz qcX h70 hle hfz (by decide)
 have le_m0:=le_m0.trans hle
 have h2:=(mL qaD).up hle h2
 have h4:=(mL qby).up hle h4
 have h56:=(mL (mI .i64)).up hle h56
 have h62:=(mL (mI .i64)).up hle h62
 refine bd hF fun r73 e74 hF=>qas E qv7 rfl (qmt N _ s_0 ⟨_,_,rfl,h2,h4⟩ _ ([file_1]:List (File)) h72 e74 hG hTb ok) rfl rfl ?_
 rintro _ w ⟨m75,c76,vs78,rfl,hle,ok,h77,h79,r80⟩
 have le_m0:=le_m0.trans hle
 have h2:=(mL qaD).up hle h2
 have h4:=(mL qby).up hle h4
 have h56:=(mL (mI .i64)).up hle h56
 have h62:=(mL (mI .i64)).up hle h62
 have h72:=(mL qcX).up hle h72
 obtain ⟨rfl,r81,r82⟩:=h79
 refine ⟨_,rfl,fun a E=>?_⟩
 refine mv E rfl fun a E=>lw E (qao rfl rfl) fun a E=>lw E (qao rfl rfl) fun a E=>lw E (qao rfl rfl) fun a E=>qaM E ok qfk rfl rfl fun b83 a w E ok=>av E rfl fun a E=>qai E ok 0 rfl rfl rfl qgW rfl rfl ⟨rfl,rfl,trivial⟩ rfl rfl fun w ok=>av E rfl fun a E=>wn<|wp_seq<|sg<|mv E rfl fun a E=>lw E (qcn rfl rfl) fun a E=>wn<|cf E rfl hF (fun c84 hF=>?_) fun c84 hF=>?_
 ·refine sg<|aw E rfl fun a E=>wp_ret<|qae ?_
  exact fin hF ⟨(ok.drop.drop.drop.drop).down hb0 le_m0,E.d,rz E rfl⟩
 refine wp_skip<|qaa<|sg<|aw E rfl fun a E=>wp_seq<|sg<|aw E rfl fun a E=>wp_block<|bd hF fun o87 hL hF=>qax _ (fun (s:Int × Int) a w=>Ok u m75 ([(b83,oc 46 [vi r73.2.1.File,vi r73.2.1.Offset])] :: M13 :: [(b8,oc 62 [vs file_1.Name,vs file_1.Text])] :: [(b7,oc 41 [c1,c3])] :: S) w ∧ Env 99 a [(5,c55),(9,c76),(12,vi s.1),(13,vi s.2)] ∧ InR .i64 s.1 ∧ InR .i64 s.2) (fun (b:Int) e a w=>e = (.exit 0) ∧ Ok u m75 ([(b83,oc 46 [vi r73.2.1.File,vi r73.2.1.Offset])] :: M13 :: [(b8,oc 62 [vs file_1.Name,vs file_1.Text])] :: [(b7,oc 41 [c1,c3])] :: S) w ∧ Env 99 a [(9,c76),(12,vi b)] ∧ InR .i64 b) ?_ ?_ N _ a w hL ⟨ok,E.keep [5,9,12,13],(ir 0),(ir 0)⟩
 ·rintro ⟨v90,v91⟩ a w r ⟨ok,E,r92,r93⟩ hF
  replace hF:qbJ N o23 v90 v91 = some r:=hF
  unfold qbJ at hF
  refine wp_seq<|sg<|mz E rfl rfl fun a E=>lv E ok (qau qg8 h56 rfl) fun a E=>lw E (qat rfl rfl) fun a E=>wn<|cg E rfl hF (fun c94 hF=>?_) fun c94 hF=>?_
  ·refine wp_exit<|qap ?_
   cases hF
   exact so (⟨rfl,⟨ok,E.keep [9,12],r92⟩⟩)
  refine wp_skip<|qaa<|wp_seq<|wp_block<|qab<|mz E rfl rfl fun a E=>mv E rfl fun a E=>?_
  obtain ⟨x95,e96,hF⟩:=bnd hF
  obtain ⟨b97,o98,es99,hl100,rr101,at102,yy103⟩:=ia E 68 69 qg8 h56 e96
  obtain ⟨rfl,r104⟩:=rr101
  refine lv E ok (yy103 _ _) fun a E=>lv E ok (qah qaJ rfl (qac.ro at102)) fun a E=>lw E (qav rfl rfl) fun a E=>av E rfl fun a E=>wpList_nil<|qaf<|qaa<|qab<|mv E rfl fun a E=>lw E (qar rfl rfl (InR.inc r93 (qaj h56) c94)) fun a E=>av E rfl fun a E=>wpList_nil ?_
  cases hF
  exact qan ⟨ok,E.keep [5,9,12,13],(InR.wrap _ _),(InR.inc r93 (qaj h56) c94)⟩
 intro e a w _ hO
 obtain ⟨rfl,ok,E,r105⟩:=hO
 refine qaz<|qaa<|wp_seq<|sg<|aw E rfl fun a E=>wp_block<|bd hF fun o108 hL hF=>qax _ (fun (s:Int × Int) a w=>Ok u m75 ([(b83,oc 46 [vi r73.2.1.File,vi r73.2.1.Offset])] :: M13 :: [(b8,oc 62 [vs file_1.Name,vs file_1.Text])] :: [(b7,oc 41 [c1,c3])] :: S) w ∧ Env 99 a [(9,c76),(12,vi s.1),(14,vi s.2)] ∧ InR .i64 s.1 ∧ InR .i64 s.2) (fun (b:(Int ⊕ Bool)) e a w=>(Sum.elim (fun b170=>e = (.exit 2) ∧ Ok u m75 ([(b83,oc 46 [vi r73.2.1.File,vi r73.2.1.Offset])] :: M13 :: [(b8,oc 62 [vs file_1.Name,vs file_1.Text])] :: [(b7,oc 41 [c1,c3])] :: S) w ∧ Env 99 a [(12,vi b170)] ∧ InR .i64 b170) (fun b172=>e = .ret ∧ qf3 u m0 S b172 a w)) b) ?_ ?_ N _ a w hL ⟨ok,E.keep [9,12,14],r105,(ir 0)⟩
 rotate_left
 ·intro e a w _ hO
  rcases o108 with o108 | o108
  rotate_left
  ·obtain ⟨rfl,hret⟩:=hO
   refine qag<|qae ?_
   exact fin hF hret
  have hF:=qaX hF
  obtain ⟨rfl,ok,E,r169⟩:=hO
  refine qaz<|qaa<|sg<|mv E rfl fun a E=>lw E (qa0 rfl rfl) fun a E=>av E rfl fun a E=>wn<|wp_ret ?_
  exact fin hF ⟨(ok.drop.drop.drop.drop).down hb0 le_m0,E.d,rz E rfl⟩
 rintro ⟨v111,v112⟩ a w r ⟨ok,E,r113,r114⟩ hF
 replace hF:qbI N r73 v111 v112 = some r:=hF
 unfold qbI at hF
 refine wp_seq<|sg<|mz E rfl rfl fun a E=>lv E ok (qau qgH h77 rfl) fun a E=>lw E (qat rfl rfl) fun a E=>wn<|cg E rfl hF (fun c115 hF=>?_) fun c115 hF=>?_
 ·refine wp_exit<|qap ?_
  cases hF
  exact so (sl ⟨rfl,⟨ok,E.keep [12],r113⟩⟩)
 refine wp_skip<|qaa<|wp_seq<|wp_block<|wp_seq<|sg<|mv E rfl fun a E=>mv E rfl fun a E=>?_
 obtain ⟨x116,e117,hF⟩:=bnd hF
 obtain ⟨b118,o119,es120,hl121,rr122,at123,yy124⟩:=ia E 79 80 qgH h77 e117
 obtain ⟨c128,c130,c133,rfl,l125,l126,l127,h129,h131,r132,h134⟩:=rr122
 refine lv E ok (yy124 _ _) fun a E=>fv E qdS rfl fun a E=>lv E ok (qah qeG rfl (qac.ro (At.sub 6 1 at123))) fun a E=>lv E ok (qau qcQ h134 rfl) fun a E=>lw E (qcn rfl rfl) fun a E=>wn<|cf E rfl hF (fun c135 hF=>?_) fun c135 hF=>?_
 ·refine sg<|aw E rfl fun a E=>wp_ret<|qae<|qag<|qae ?_
  cases hF
  exact so (sr ⟨rfl,⟨(ok.drop.drop.drop.drop).down hb0 le_m0,E.d,rz E rfl⟩⟩)
 refine wp_skip<|qaa<|qab<|mz E rfl rfl fun a E=>mv E rfl fun a E=>?_
 obtain ⟨x136,e137,hF⟩:=bnd hF
 obtain ⟨b138,o139,es140,hl141,rr142,at143,yy144⟩:=ia E 87 88 qgH h77 e137
 obtain ⟨c148,c150,c153,rfl,l145,l146,l147,h149,h151,r152,h154⟩:=rr142
 refine lv E ok (yy144 _ _) fun a E=>fv E qdS rfl fun a E=>lv E ok (qah qeG rfl (qac.ro (At.sub 6 1 at143))) fun a E=>?_
 obtain ⟨x155,e156,hF⟩:=bnd hF
 obtain ⟨b157,o158,es159,hl160,rr161,at162,yy163⟩:=qoV qcQ h154 e156 (P:=Tryz.prog) (X:=.tmp 91) (I:=.const (vi 0)) (kd:=.i64) (qaC E rfl) (qaC E rfl)
 obtain ⟨rfl,l164,l165⟩:=rr161
 refine lv E ok (yy163 _ _) fun a E=>fv E qcL rfl fun a E=>lv E ok (qah qal rfl (qac.ro (At.sub 1 1 at162))) fun a E=>bd hF fun r166 e167 hF=>qas E qwz rfl (qk2 N x155.Value l165 e167 hG ok) rfl rfl ?_
 rintro _ w ⟨⟨rfl,ok⟩,r168⟩
 refine ⟨_,rfl,fun a E=>?_⟩
 refine lw E (qbo rfl rfl) fun a E=>av E rfl fun a E=>wpList_nil<|qaf<|qaa<|qab<|mv E rfl fun a E=>lw E (qar rfl rfl (InR.inc r114 (qaj h77) c115)) fun a E=>av E rfl fun a E=>wpList_nil ?_
 cases hF
 exact qan ⟨ok,E.keep [9,12,14],(InR.wrap _ _),(InR.inc r114 (qaj h77) c115)⟩
end Go.Proofs.YtllfckekodcdaaaGreatDoor
namespace Go.X
variable {H:Type} {enc:TypeId × Value → H}
end Go.X
namespace Go.X
open Go.ChangeShapes Go.RowKit
def OpnS {α:Type} (P:Program) (t:TypeId) (R:Rp α) (Q:α → Prop):Prop :=
 ∀ {H:Type} {enc:TypeId × Value → H} {W:World} {base:Nat} {spare:Nat → Bool} {held:Bool} {fuel:Nat} {cs:List Value} {x:DataW H × List MemPlace},
  DataW.trod enc P W base spare held fuel t cs = some x → (∀ n ∈ x.1.weights P t,n ≤ reachBytes) → ∃ a:α,R (hm W) cs a ∧ Q a
section
variable {P:Program} {t:TypeId}
theorem qlZ {k:IntKind} (ht:P.underlying t = some (.int k)):OpnS P t (pI k) (InR k):=fun h _=>by
 obtain ⟨a,ha⟩:=qvS ht h
 exact ⟨a,ha,ha.2⟩
theorem qvl (ht:P.underlying t = some .bool):OpnS P t pB (fun _=>True):=fun h _=>by
 obtain ⟨a,ha⟩:=qvk ht h
 exact ⟨a,ha,trivial⟩
theorem qkH (ht:P.underlying t = some .string):OpnS P t pS (fun s=>s.length ≤ reachBytes):=fun h hz=>by
 obtain ⟨s,rfl,rfl,hs⟩:=DataW.trod_string ht h
 refine ⟨s.data.toList,⟨rfl,hs⟩,hz _ ?_⟩
 simp [DataW.weights]
theorem qkn {H:Type} {e:TypeId}:∀ {l:List (DataW H)} {d:DataW H},d ∈ l → ∀ n ∈ d.weights P e,n ∈ DataW.weightsAll P e l
 | d0 :: l,d,h,n,hn=>by
  simp only [DataW.weightsAll,List.mem_append]
  rcases List.mem_cons.1 h with rfl | h
  ·exact .inl hn
  ·exact .inr (qkn h n hn)
 | [],_,h,_,_=>by cases h
theorem quW {α:Type} {e:TypeId} {n:Nat} {R:Rp α} {Q:α → Prop} (ht:P.underlying t = some (.slice e)) (hc:P.cellsOf e = n) (hn:0 < n) (hb:0 < P.bytesOf e) (he:OpnS P e R Q):OpnS P t (pL n R) (fun xs=>xs.length ≤ reachBytes ∧ ∀ y ∈ xs,Q y):=fun {H enc W base spare held fuel cs x} h hz=>by
 rcases Go.Deep.open_slice ht h with ⟨rfl,_⟩ | ⟨a,len,cap,m,fu,D,Pl,rfl,_,hl,hm',hm2,rfl,hel⟩
 ·exact ⟨[],⟨none,0,rfl,Nat.le_refl _,Nat.zero_le _,Nat.zero_le _,fun h=>absurd rfl h⟩,Nat.zero_le _,fun _ h=>by cases h⟩
 ·rw [hc] at hel
  have hlm:len ≤ m:=by rw [hm2]; split <;> omega
  have hlen:len ≤ reachBytes:=by
   have h1:=hz (((List.range len).map D).length + ((List.range (m - len)).map fun j=>D (len + j)).length |> (· * P.bytesOf e)) (by simp [DataW.weights,ht])
   simp only [List.length_map,List.length_range] at h1
   have h2:len * 1 ≤ (len + (m - len)) * P.bytesOf e:=Nat.mul_le_mul (by omega) hb
   omega
  have key:∀ i,i < len → ∃ y:α,(∃ es:List Value,es.length = n ∧ (∀ j v,es[j]? = some v → W.cell? (a.add (i * n + j)) = some v) ∧ R (hm W) es y) ∧ Q y:=by
   intro i hi
   obtain ⟨cs',h1,h2⟩:=hel i (by omega)
   obtain ⟨y,hy,hq⟩:=he h2 (fun k hk=>hz k (by
    simp only [DataW.weights,ht,List.mem_cons,List.mem_append]
    exact .inr (.inl (qkn (List.mem_map.2 ⟨i,List.mem_range.2 hi,rfl⟩) k hk))))
   obtain ⟨_,hlen,hcell⟩:=World.cells?_some h1
   refine ⟨y,⟨cs',hlen,fun j v hj=>?_,hy⟩,hq⟩
   have hjn:j < n:=by rw [← hlen]; exact (List.getElem?_eq_some_iff.1 hj).1
   have:=hcell j hjn
   rw [hj] at this
   rw [qur]
   exact this
  have pick:∃ f:Fin len → α,∀ i:Fin len,(∃ es:List Value,es.length = n ∧ (∀ j v,es[j]? = some v → W.cell? (a.add (i.1 * n + j)) = some v) ∧ R (hm W) es (f i)) ∧ Q (f i) :=
   ⟨fun i=>(key i.1 i.2).choose,fun i=>(key i.1 i.2).choose_spec⟩
  obtain ⟨f,hf⟩:=pick
  refine ⟨List.ofFn f,⟨some a,cap,by rw [List.length_ofFn],by rw [List.length_ofFn]; exact hl,hm',?_,fun h0=>?_⟩,by rw [List.length_ofFn]; exact hlen,fun y hy=>?_⟩
  ·rw [List.length_ofFn]; unfold maxLen at hm'; unfold LIMS; omega
  ·rw [List.length_ofFn] at h0
   obtain ⟨b,off,spot⟩:=a
   have hs:spot = none:=by
    obtain ⟨⟨es,e1,e2,_⟩,_⟩:=hf ⟨0,by omega⟩
    have hv:es[0]? = some (es[0]'(by omega)):=by simp
    have:=e2 0 _ hv
    simpa [Addr.add] using World.cell?_spot this
   subst hs
   refine ⟨b,off,rfl,fun i y hy=>?_⟩
   obtain ⟨hi,rfl⟩:=List.getElem?_eq_some_iff.1 hy
   have hi':i < len:=by simpa using hi
   obtain ⟨⟨es,e1,e2,e3⟩,_⟩:=hf ⟨i,hi'⟩
   refine ⟨es,e1,fun j v hj=>?_,by simpa using e3⟩
   have:=e2 j v hj
   refine quT ?_
   rw [qs8] at this
   rw [Nat.add_assoc]
   exact this
  ·obtain ⟨i,rfl⟩:=List.mem_ofFn.1 hy
   exact (hf i).2
theorem qhx {fs:Array Field} (ht:P.underlying t = some (.struct fs)) {H:Type} {enc:TypeId × Value → H} {W:World} {base:Nat} {spare:Nat → Bool} {held:Bool} {fuel:Nat} {cs:List Value} {x:DataW H × List MemPlace}
  (h:DataW.trod enc P W base spare held fuel t cs = some x) (hz:∀ n ∈ x.1.weights P t,n ≤ reachBytes) :
  cs.length = P.cellsOf t ∧ ∀ {α:Type} {R:Rp α} {Q:α → Prop} (i:Nat) (f:Field) (n:Nat),fs[i]? = some f → P.cellsOf f.type = n → OpnS P f.type R Q → ∃ a,R (hm W) ((cs.drop f.offset).take n) a ∧ Q a:=by
 obtain ⟨xs,n,_,hx,hl,hlen,hf⟩:=DataW.trod_struct ht h
 refine ⟨hl,fun {α R Q} i f n hi hn ho=>?_⟩
 have hi':i < xs.length:=by rw [hlen]; exact (Array.getElem?_eq_some_iff.1 hi).1
 have:=hf i f hi
 rw [List.getElem?_eq_getElem hi',hn] at this
 refine ho this fun k hk=>hz k ?_
 subst hx
 simp only [DataW.weights,ht]
 refine DataW.weights_mem_each (j:=i) (t:=f.type) (d:=xs[i].1) ?_ ?_ k hk
 ·simp [hi]
 ·simp [hi']
end
end Go.X
namespace Go.X
open Go.ChangeShapes Go.RowKit
section
variable {H:Type} {enc:TypeId × Value → H}
theorem qlO {a:Assume} {C:Checked} {os:Os} {f:FuncId} {fn:Func} {s:ChangeSpec} {conds:List PathCond} {apart fresh handsOn again:Bool} {X:World → Array Value → Prop}
  (hX:∀ (w w':World) (args:Array Value),w.heap = w'.heap → X w args → X w' args)
  (own:ownKnob C.prog.godebug = none) (started:os.Started) (noInit:C.prog.inits.idxOf? f = none) (hfn:C.prog.funcs[f]? = some fn)
  (witness:∃ (w:World) (tape:Tape) (i:Input),w.os = os ∧ (w.forCall tape i).Shaped C.prog ∧ i.vars = [] ∧ Input.okWide C.prog (w.forCall tape i) .any w.heap.size f i ∧
   ((s.pre enc C.prog fn conds apart (w.forCall tape i).memory i.args ∧ X (w.forCall tape i).memory i.args) ∧ sizedMet enc C.prog fn (OpenSpec.ofChange s) apart (w.forCall tape i).memory i.args) ∧ a.holds C.prog (lone (Frame.enter C.prog f i.args .normal) [] (w.forCall tape i)))
  (contract:∀ (W:World) (base:Nat) (args:Array Value) (ds gs:List (DataW H)) (before:List MemPlace),
   (∀ (j:Nat) t v,fn.params[j]? = some t → args[j]? = some v → Value.okWide C.prog W .any base t v) →
   DataW.Whole enc C.prog fn.params.toList s.vars apart W args.toList ds gs before → W.ShapedOpen C.prog →
   X W args → (DataW.weightsEach C.prog (fn.params.toList ++ s.plain.varTypes C.prog) (ds ++ gs)).all (· ≤ reachBytes) = true →
   Calls C.prog f args W fun e W'=>∃ v,e = .returned v ∧ s.post enc C.prog fn apart fresh handsOn again W args v W') :
  ReturnsInHanded a C os f .any (fun w args=>(s.pre enc C.prog fn conds apart w args ∧ X w args) ∧ sizedMet enc C.prog fn (OpenSpec.ofChange s) apart w args) (s.post enc C.prog fn apart fresh handsOn again):=by
 refine returnsInHanded_of_calls own started noInit witness ?_
 intro w tape i _ hsh _ hok hpre _
 obtain ⟨_,_,_,fn',hfn',_,_,_,_,hval⟩:=hok
 have e:fn' = fn:=Option.some.inj (hfn'.symm.trans hfn)
 subst e
 obtain ⟨⟨⟨ds,gs,before,hw,_⟩,hx⟩,hz⟩:=hpre
 have hw':=DataW.Whole.of_heap (w':=w.forCall tape i) (by rfl) hw
 refine (contract (w.forCall tape i) w.heap.size i.args ds gs before hval hw' hsh (hX _ _ _ (by rfl) hx) (hz.weights hw)).mono fun e W' ⟨v,he,hp⟩=>?_
 subst he
 exact ChangeSpec.post_blind hp
end
end Go.X
namespace Go.X
open Go.ChangeShapes Go.RowKit
end Go.X
namespace Go.X
open Go.ChangeShapes Go.RowKit
section
variable {P:Program} {t:TypeId}
theorem qjx {α:Type} {e:TypeId} {n:Nat} {R:Rp α} {Q:α → Prop} (B:Nat) (hB:B ≤ P.bytesOf e) (hB0:0 < B) (ht:P.underlying t = some (.slice e)) (hc:P.cellsOf e = n) (hn:0 < n) (he:OpnS P e R Q):OpnS P t (pL n R) (fun xs=>xs.length * B ≤ reachBytes ∧ ∀ y ∈ xs,Q y):=fun {H enc W base spare held fuel cs x} h hz=>by
 obtain ⟨xs,hp,_,hq⟩:=quW ht hc hn (Nat.lt_of_lt_of_le hB0 hB) he h hz
 refine ⟨xs,hp,?_,hq⟩
 obtain ⟨a0,cap0,hcs,_⟩:=hp
 rcases Go.Deep.open_slice ht h with ⟨rfl,_⟩ | ⟨a,len,cap,m,fu,D,Pl,rfl,_,hl,hm',hm2,rfl,hel⟩
 ·have:=(List.cons.inj hcs).1
  simp only [Value.slice.injEq] at this
  rw [← this.2.1,Nat.zero_mul]; exact Nat.zero_le _
 ·have h0:=(List.cons.inj hcs).1
  simp only [Value.slice.injEq] at h0
  rw [← h0.2.1]
  have hlm:len ≤ m:=by rw [hm2]; split <;> omega
  have h1:=hz (((List.range len).map D).length + ((List.range (m - len)).map fun j=>D (len + j)).length |> (· * P.bytesOf e)) (by simp [DataW.weights,ht])
  simp only [List.length_map,List.length_range] at h1
  have h2:len * B ≤ (len + (m - len)) * P.bytesOf e:=Nat.mul_le_mul (by omega) hB
  omega
end
end Go.X
namespace Go.Proofs.YtllfckekodcdaaaGreatDoor
open Go.ChangeShapes Go.WideShapes Go.ChangeAt Go.RowKit Go.X
theorem own:ownKnob Tryz.prog.godebug = none:=by kernel_rfl
theorem qqC:laidOutB Tryz.prog = true:=by kernel_rfl
theorem qsB {H:Type} {enc:TypeId × Value → H} {W:World} {base:Nat} {sp:Nat → Bool} {held:Bool} (b:Bool):DataW.Trod enc Tryz.prog W base sp held 4 (.bool b) (.lit (.bool b)) [] :=
 ⟨1,by simp [DataW.trod,Value.cells,Tryz.underlying4]⟩
theorem qt4 {W:World} (h:W.ShapedOpen Tryz.prog):Glob W:=cell_of_shapedOpen_int (g:=0) (t:=3) (zero:=#[.int .i64 0]) h (of_decide_eq_true (by kernel_rfl)) (by kernel_rfl) (by kernel_rfl) (by kernel_rfl) (by kernel_rfl) Tryz.underlying3
theorem ce3:Tryz.prog.cellsOf 3 = 1:=by kernel_rfl
theorem ce4:Tryz.prog.cellsOf 4 = 1:=by kernel_rfl
theorem ce5:Tryz.prog.cellsOf 5 = 1:=by kernel_rfl
theorem ce9:Tryz.prog.cellsOf 9 = 1:=by kernel_rfl
theorem ce22:Tryz.prog.cellsOf 22 = 1:=by kernel_rfl
theorem ce39:Tryz.prog.cellsOf 39 = 1:=by kernel_rfl
theorem ce41:Tryz.prog.cellsOf 41 = 2:=by kernel_rfl
theorem ce62:Tryz.prog.cellsOf 62 = 2:=by kernel_rfl
theorem ce66:Tryz.prog.cellsOf 66 = 3:=by kernel_rfl
theorem qwd:Tryz.prog.cellsOf 106 = 1:=by kernel_rfl
theorem qtQ:Tryz.prog.cellsOf 108 = 2:=by kernel_rfl
theorem qwv:Tryz.prog.cellsOf 112 = 1:=by kernel_rfl
theorem qtG:Tryz.prog.cellsOf 114 = 3:=by kernel_rfl
theorem qvN:Tryz.prog.cellsOf 136 = 1:=by kernel_rfl
theorem qtB:Tryz.prog.cellsOf 138 = 5:=by kernel_rfl
theorem qtI:Tryz.prog.cellsOf 157 = 2:=by kernel_rfl
theorem qvQ:OpnS Tryz.prog 157 qbv (fun x=>(InR .u8 x.From ∧ InR .u8 x.To)):=fun h hz=>by
 obtain ⟨hl,hf⟩:=qhx Tryz.underlying157 h hz
 obtain ⟨c0,c1,rfl⟩:=len2 (hl.trans qtI)
 obtain ⟨a0,h0,q0⟩:=hf 0 _ 1 rfl ce5 (qlZ Tryz.underlying5)
 obtain ⟨a1,h1,q1⟩:=hf 1 _ 1 rfl ce5 (qlZ Tryz.underlying5)
 have h0:(pI .u8) _ [c0] a0:=h0
 obtain ⟨rfl,g0⟩:=qiQ h0
 have h1:(pI .u8) _ [c1] a1:=h1
 obtain ⟨rfl,g1⟩:=qiQ h1
 exact ⟨⟨a0,a1⟩,⟨rfl,g0,g1⟩,⟨q0,q1⟩⟩
theorem qwt:OpnS Tryz.prog 138 qbt (fun x=>(x.Text.length ≤ reachBytes ∧ (x.Ranges.length * 2 ≤ reachBytes ∧ ∀ y21 ∈ x.Ranges,(InR .u8 y21.From ∧ InR .u8 y21.To)) ∧ InR .i64 x.Least ∧ InR .i64 x.Most)):=fun h hz=>by
 obtain ⟨hl,hf⟩:=qhx Tryz.underlying138 h hz
 obtain ⟨c0,c1,c2,c3,c4,rfl⟩:=len5 (hl.trans qtB)
 obtain ⟨a0,h0,q0⟩:=hf 0 _ 1 rfl ce9 (qkH Tryz.underlying9)
 obtain ⟨a1,h1,q1⟩:=hf 1 _ 1 rfl qvN (qjx 2 (of_decide_eq_true (by kernel_rfl)) (Nat.succ_pos _) Tryz.underlying136 qtI (Nat.succ_pos _) qvQ)
 obtain ⟨a2,h2,q2⟩:=hf 2 _ 1 rfl ce4 (qvl Tryz.underlying4)
 obtain ⟨a3,h3,q3⟩:=hf 3 _ 1 rfl ce3 (qlZ Tryz.underlying3)
 obtain ⟨a4,h4,q4⟩:=hf 4 _ 1 rfl ce3 (qlZ Tryz.underlying3)
 have h0:pS _ [c0] a0:=h0
 obtain ⟨rfl,g0⟩:=qjt h0
 have h1:(pL 2 qbv) _ [c1] a1:=h1
 have h2:pB _ [c2] a2:=h2
 obtain rfl:=qls h2
 have h3:(pI .i64) _ [c3] a3:=h3
 obtain ⟨rfl,g3⟩:=qiQ h3
 have h4:(pI .i64) _ [c4] a4:=h4
 obtain ⟨rfl,g4⟩:=qiQ h4
 exact ⟨⟨a0,a1,a2,a3,a4⟩,⟨c1,rfl,g0,h1,g3,g4⟩,⟨q0,q1,q3,q4⟩⟩
theorem qwr:OpnS Tryz.prog 114 qdC (fun x=>(x.Kind.length ≤ reachBytes ∧ (x.Items.length * 64 ≤ reachBytes ∧ ∀ y19 ∈ x.Items,(y19.Text.length ≤ reachBytes ∧ (y19.Ranges.length * 2 ≤ reachBytes ∧ ∀ y20 ∈ y19.Ranges,(InR .u8 y20.From ∧ InR .u8 y20.To)) ∧ InR .i64 y19.Least ∧ InR .i64 y19.Most)) ∧ x.Next.length ≤ reachBytes)):=fun h hz=>by
 obtain ⟨hl,hf⟩:=qhx Tryz.underlying114 h hz
 obtain ⟨c0,c1,c2,rfl⟩:=len3 (hl.trans qtG)
 obtain ⟨a0,h0,q0⟩:=hf 0 _ 1 rfl ce9 (qkH Tryz.underlying9)
 obtain ⟨a1,h1,q1⟩:=hf 1 _ 1 rfl qwv (qjx 64 (of_decide_eq_true (by kernel_rfl)) (Nat.succ_pos _) Tryz.underlying112 qtB (Nat.succ_pos _) qwt)
 obtain ⟨a2,h2,q2⟩:=hf 2 _ 1 rfl ce9 (qkH Tryz.underlying9)
 have h0:pS _ [c0] a0:=h0
 obtain ⟨rfl,g0⟩:=qjt h0
 have h1:(pL 5 qbt) _ [c1] a1:=h1
 have h2:pS _ [c2] a2:=h2
 obtain ⟨rfl,g2⟩:=qjt h2
 exact ⟨⟨a0,a1,a2⟩,⟨c1,rfl,g0,h1,g2⟩,⟨q0,q1,q2⟩⟩
theorem qwL:OpnS Tryz.prog 108 qbA (fun x=>(x.Name.length ≤ reachBytes ∧ (x.Rules.length * 56 ≤ reachBytes ∧ ∀ y16 ∈ x.Rules,(y16.Kind.length ≤ reachBytes ∧ (y16.Items.length * 64 ≤ reachBytes ∧ ∀ y17 ∈ y16.Items,(y17.Text.length ≤ reachBytes ∧ (y17.Ranges.length * 2 ≤ reachBytes ∧ ∀ y18 ∈ y17.Ranges,(InR .u8 y18.From ∧ InR .u8 y18.To)) ∧ InR .i64 y17.Least ∧ InR .i64 y17.Most)) ∧ y16.Next.length ≤ reachBytes)))):=fun h hz=>by
 obtain ⟨hl,hf⟩:=qhx Tryz.underlying108 h hz
 obtain ⟨c0,c1,rfl⟩:=len2 (hl.trans qtQ)
 obtain ⟨a0,h0,q0⟩:=hf 0 _ 1 rfl ce9 (qkH Tryz.underlying9)
 obtain ⟨a1,h1,q1⟩:=hf 1 _ 1 rfl qwd (qjx 56 (of_decide_eq_true (by kernel_rfl)) (Nat.succ_pos _) Tryz.underlying106 qtG (Nat.succ_pos _) qwr)
 have h0:pS _ [c0] a0:=h0
 obtain ⟨rfl,g0⟩:=qjt h0
 have h1:(pL 3 qdC) _ [c1] a1:=h1
 exact ⟨⟨a0,a1⟩,⟨c1,rfl,g0,h1⟩,⟨q0,q1⟩⟩
theorem o_66:OpnS Tryz.prog 66 qdd (fun x=>(x.Name.length ≤ reachBytes ∧ InR .i64 x.ID ∧ InR .i64 x.Source)):=fun h hz=>by
 obtain ⟨hl,hf⟩:=qhx Tryz.underlying66 h hz
 obtain ⟨c0,c1,c2,rfl⟩:=len3 (hl.trans ce66)
 obtain ⟨a0,h0,q0⟩:=hf 0 _ 1 rfl ce9 (qkH Tryz.underlying9)
 obtain ⟨a1,h1,q1⟩:=hf 1 _ 1 rfl ce3 (qlZ Tryz.underlying3)
 obtain ⟨a2,h2,q2⟩:=hf 2 _ 1 rfl ce3 (qlZ Tryz.underlying3)
 have h0:pS _ [c0] a0:=h0
 obtain ⟨rfl,g0⟩:=qjt h0
 have h1:(pI .i64) _ [c1] a1:=h1
 obtain ⟨rfl,g1⟩:=qiQ h1
 have h2:(pI .i64) _ [c2] a2:=h2
 obtain ⟨rfl,g2⟩:=qiQ h2
 exact ⟨⟨a0,a1,a2⟩,⟨rfl,g0,g1,g2⟩,⟨q0,q1,q2⟩⟩
theorem o_41:OpnS Tryz.prog 41 qkT (fun x=>((x.Script.length * 40 ≤ reachBytes ∧ ∀ y11 ∈ x.Script,(y11.Name.length ≤ reachBytes ∧ (y11.Rules.length * 56 ≤ reachBytes ∧ ∀ y12 ∈ y11.Rules,(y12.Kind.length ≤ reachBytes ∧ (y12.Items.length * 64 ≤ reachBytes ∧ ∀ y13 ∈ y12.Items,(y13.Text.length ≤ reachBytes ∧ (y13.Ranges.length * 2 ≤ reachBytes ∧ ∀ y14 ∈ y13.Ranges,(InR .u8 y14.From ∧ InR .u8 y14.To)) ∧ InR .i64 y13.Least ∧ InR .i64 y13.Most)) ∧ y12.Next.length ≤ reachBytes)))) ∧ (x.Calls.length * 32 ≤ reachBytes ∧ ∀ y15 ∈ x.Calls,(y15.Name.length ≤ reachBytes ∧ InR .i64 y15.ID ∧ InR .i64 y15.Source)))):=fun h hz=>by
 obtain ⟨hl,hf⟩:=qhx Tryz.underlying41 h hz
 obtain ⟨c0,c1,rfl⟩:=len2 (hl.trans ce41)
 obtain ⟨a0,h0,q0⟩:=hf 0 _ 1 rfl ce39 (qjx 40 (of_decide_eq_true (by kernel_rfl)) (Nat.succ_pos _) Tryz.underlying39 qtQ (Nat.succ_pos _) qwL)
 obtain ⟨a1,h1,q1⟩:=hf 1 _ 1 rfl ce22 (qjx 32 (of_decide_eq_true (by kernel_rfl)) (Nat.succ_pos _) Tryz.underlying22 ce66 (Nat.succ_pos _) o_66)
 have h0:(pL 2 qbA) _ [c0] a0:=h0
 have h1:(pL 3 qdd) _ [c1] a1:=h1
 exact ⟨⟨a0,a1⟩,⟨c0,c1,rfl,h0,h1⟩,⟨q0,q1⟩⟩
theorem o_62:OpnS Tryz.prog 62 qef (fun x=>(x.Name.length ≤ reachBytes ∧ x.Text.length ≤ reachBytes)):=fun h hz=>by
 obtain ⟨hl,hf⟩:=qhx Tryz.underlying62 h hz
 obtain ⟨c0,c1,rfl⟩:=len2 (hl.trans ce62)
 obtain ⟨a0,h0,q0⟩:=hf 0 _ 1 rfl ce9 (qkH Tryz.underlying9)
 obtain ⟨a1,h1,q1⟩:=hf 1 _ 1 rfl ce9 (qkH Tryz.underlying9)
 have h0:pS _ [c0] a0:=h0
 obtain ⟨rfl,g0⟩:=qjt h0
 have h1:pS _ [c1] a1:=h1
 obtain ⟨rfl,g1⟩:=qjt h1
 exact ⟨⟨a0,a1⟩,⟨rfl,g0,g1⟩,⟨q0,q1⟩⟩
theorem qlF {W:World} (h:laidMetH Tryz.prog Rows.extractNumbersRow.laid W):Tab W:=by
 rw [MakeChecks.laidMetH_plain _ _ _ (by kernel_rfl)] at h
 exact Lib.tabIs_of_head (g:=1) (t:=231) (e:=214) (by kernel_rfl) (by kernel_rfl) Tryz.underlying231 (by kernel_rfl) (by kernel_rfl) (by kernel_rfl) (show laidMet Tryz.prog (("internal/strconv.uint64pow10",Lib.tabData .u64 Lib.pow10Tab) :: _) W from laidMet.tail (x:=_) (laidMet.tail (x:=_) h))
set_option maxRecDepth 100000 in
theorem qkg (hp:∀ x0 x1,((x0.Script.length * 40 ≤ reachBytes ∧ ∀ y6 ∈ x0.Script,(y6.Name.length ≤ reachBytes ∧ (y6.Rules.length * 56 ≤ reachBytes ∧ ∀ y7 ∈ y6.Rules,(y7.Kind.length ≤ reachBytes ∧ (y7.Items.length * 64 ≤ reachBytes ∧ ∀ y8 ∈ y7.Items,(y8.Text.length ≤ reachBytes ∧ (y8.Ranges.length * 2 ≤ reachBytes ∧ ∀ y9 ∈ y8.Ranges,(InR .u8 y9.From ∧ InR .u8 y9.To)) ∧ InR .i64 y8.Least ∧ InR .i64 y8.Most)) ∧ y7.Next.length ≤ reachBytes)))) ∧ (x0.Calls.length * 32 ≤ reachBytes ∧ ∀ y10 ∈ x0.Calls,(y10.Name.length ≤ reachBytes ∧ InR .i64 y10.ID ∧ InR .i64 y10.Source))) → (x1.Name.length ≤ reachBytes ∧ x1.Text.length ≤ reachBytes) → ∃ N,qbF N x0 x1 = some true) (os:Os) (started:os.Started) (H:Type) (enc:TypeId × Value → H) :
  ReturnsInHanded {} Tryz.checked os 7 .any (fun w args=>(Rows.extractNumbersSpec.pre enc Tryz.prog Tryz.f7 [] false w args ∧ laidMetH Tryz.prog Rows.extractNumbersRow.laid w) ∧ sizedMet enc Tryz.prog Tryz.f7 (OpenSpec.ofChange Rows.extractNumbersSpec) false w args)
   (Rows.extractNumbersSpec.post enc Tryz.prog Tryz.f7 false true false false):=by
 refine qlO (C:=Tryz.checked) (X:=fun w _=>laidMetH Tryz.prog Rows.extractNumbersRow.laid w) (fun _ _ _ hh h=>laidMetH.of_heap hh h) own started (by kernel_rfl) Tryz.func7
  (ChangeSpec.witness_shaped (enc:=enc) (C:=Tryz.checked) (os:=os) (X:=fun w _=>laidMetH Tryz.prog Rows.extractNumbersRow.laid w) false (World.laidAll Tryz.prog os Rows.extractNumbersRow.laid) #[.agg #[.slice none 0 0,.slice none 0 0],.agg #[.string (bs []),.string (bs [])]] 8 (World.laidAll_os _ _ _)
   (World.shaped_of_ZipB (by kernel_rfl) (by kernel_rfl)) (by kernel_rfl) (by kernel_rfl) (by kernel_rfl)
   (by rw [MakeChecks.laidMetH_plain _ _ _ (by kernel_rfl)]; exact laidMet_laidAll _ (by kernel_rfl) (by kernel_rfl))) ?_
 intro W base args ds gs before hval0 hW hsh hX hz
 have hval:∀ (j:Nat) t v,Tryz.f7.params[j]? = some t → args[j]? = some v → Value.okWide Tryz.prog W .any base t v:=hval0
 have hW':=hW
 obtain ⟨p,q,hA0,hV,rfl,_,_⟩:=hW
 have hA:DataW.TrodAll enc Tryz.prog W 0 (fun _=>true) true Tryz.f7.params.toList args.toList ds p:=hA0
 rw [Tryz.params7] at hA hval
 obtain ⟨v0,v1,d0,d1,p0,p1,rfl,rfl,rfl,k0,k1⟩:=trodAll_two hA
 obtain ⟨rfl,rfl⟩:=trodVars_none hV
 obtain ⟨fu0,hf0⟩:=id k0
 have hz0:∀ n ∈ d0.weights Tryz.prog 41,n ≤ reachBytes:=fun n hn=>by
  have:=List.all_eq_true.1 hz n (DataW.weights_mem_each (j:=0) (t:=41) (d:=d0) (by rw [Tryz.params7]; rfl) rfl n hn)
  simpa using this
 obtain ⟨s0,rfl,_⟩:=okWide_struct Tryz.underlying41 (hval 0 41 v0 rfl rfl)
 obtain ⟨a0,r0,q0⟩:=o_41 hf0 hz0
 obtain ⟨fu1,hf1⟩:=id k1
 have hz1:∀ n ∈ d1.weights Tryz.prog 62,n ≤ reachBytes:=fun n hn=>by
  have:=List.all_eq_true.1 hz n (DataW.weights_mem_each (j:=1) (t:=62) (d:=d1) (by rw [Tryz.params7]; rfl) rfl n hn)
  simpa using this
 obtain ⟨s1,rfl,_⟩:=okWide_struct Tryz.underlying62 (hval 1 62 v1 rfl rfl)
 obtain ⟨a1,r1,q1⟩:=o_62 hf1 hz1
 clear hA0 hval0
 have hlt:∀ x ∈ p0 ++ p1,x.block < W.heap.size:=fun x hx=>by
  refine hW'.lt x ?_
  simpa using hx
 have hlt0:∀ x ∈ p0,x.block < W.heap.size:=fun x hx=>hlt x (by simp [hx])
 have hlt1:∀ x ∈ p1,x.block < W.heap.size:=fun x hx=>hlt x (by simp [hx])
 obtain ⟨N,hN⟩:=hp a0 a1 q0 q1
 have hw:=qip N s0.toList a0 r0 s1.toList a1 r1 hN (qt4 hsh) (qlF hX) (Ok.start W)
 refine hw.mono fun e W' ⟨he,ok⟩=>?_
 subst he
 have hn:=ok.below
 have t0:=Below.trod qqC (by kernel_rfl) (of_decide_eq_true (by kernel_rfl)) k0 hn hlt0
 have t1:=Below.trod qqC (by kernel_rfl) (of_decide_eq_true (by kernel_rfl)) k1 hn hlt1
 refine ⟨_,rfl,_,_,_,[],p0 ++ p1,[],hW',?_,?_,rfl,hn.frame _,fun h=>by cases h⟩
 ·exact trodAll_mk1 (qsB true)
 ·exact trodAll_mk2 t0 t1
theorem qkP (hp:∀ x0 x1,((x0.Script.length * 40 ≤ reachBytes ∧ ∀ y6 ∈ x0.Script,(y6.Name.length ≤ reachBytes ∧ (y6.Rules.length * 56 ≤ reachBytes ∧ ∀ y7 ∈ y6.Rules,(y7.Kind.length ≤ reachBytes ∧ (y7.Items.length * 64 ≤ reachBytes ∧ ∀ y8 ∈ y7.Items,(y8.Text.length ≤ reachBytes ∧ (y8.Ranges.length * 2 ≤ reachBytes ∧ ∀ y9 ∈ y8.Ranges,(InR .u8 y9.From ∧ InR .u8 y9.To)) ∧ InR .i64 y8.Least ∧ InR .i64 y8.Most)) ∧ y7.Next.length ≤ reachBytes)))) ∧ (x0.Calls.length * 32 ≤ reachBytes ∧ ∀ y10 ∈ x0.Calls,(y10.Name.length ≤ reachBytes ∧ InR .i64 y10.ID ∧ InR .i64 y10.Source))) → (x1.Name.length ≤ reachBytes ∧ x1.Text.length ≤ reachBytes) → ∃ N,qbF N x0 x1 = some true):Rows.ExtractNumbersSaid :=
 OpenClaim.holds_of_wide 7 Tryz.f7 rfl rfl rfl rfl rfl rfl rfl ⟨rfl,rfl,rfl,rfl,rfl⟩ rfl rfl rfl rfl rfl (by kernel_rfl) Tryz.func7 (by kernel_rfl)
  (of_decide_eq_true (by kernel_rfl)) (by unfold Func.isWrapper; rw [if_neg (of_decide_eq_false (by kernel_rfl))]; exact ⟨rfl,rfl⟩)
  (fun os started H enc _=>qkg hp os started H enc)
set_option maxRecDepth 100000 in
theorem qll (hp:∀ x0 x1,((x0.Script.length * 40 ≤ reachBytes ∧ ∀ y6 ∈ x0.Script,(y6.Name.length ≤ reachBytes ∧ (y6.Rules.length * 56 ≤ reachBytes ∧ ∀ y7 ∈ y6.Rules,(y7.Kind.length ≤ reachBytes ∧ (y7.Items.length * 64 ≤ reachBytes ∧ ∀ y8 ∈ y7.Items,(y8.Text.length ≤ reachBytes ∧ (y8.Ranges.length * 2 ≤ reachBytes ∧ ∀ y9 ∈ y8.Ranges,(InR .u8 y9.From ∧ InR .u8 y9.To)) ∧ InR .i64 y8.Least ∧ InR .i64 y8.Most)) ∧ y7.Next.length ≤ reachBytes)))) ∧ (x0.Calls.length * 32 ≤ reachBytes ∧ ∀ y10 ∈ x0.Calls,(y10.Name.length ≤ reachBytes ∧ InR .i64 y10.ID ∧ InR .i64 y10.Source))) → (x1.Name.length ≤ reachBytes ∧ x1.Text.length ≤ reachBytes) → ∃ N,qbF N x0 x1 = some true):Rows.ExtractNumbersCardSaid :=
 Claim7.holds_tied_plain_at .later [] [.data,.data,.data,.data,.pinned] true (true, "e41d8787e74db97e4c01b0006a6740286e1baea1c5dbefd0607aae296ef58d28") false (qkP hp) (fun _ h=>by cases h) (by kernel_rfl) (fun _ h=>by cases h) extractNumbers_row_tie rfl ⟨rfl,rfl⟩ (by kernel_rfl) rfl
  (fun f fn hf hfn=>by
   obtain rfl:f = 7:=Option.some.inj ((show Tryz.prog.funcNamed "calque/calquelaw45.ExtractNumbers" = some 7 by kernel_rfl).symm.trans hf) |>.symm
   obtain rfl:fn = Tryz.f7:=(Option.some.inj (Tryz.func7.symm.trans hfn)).symm
   exact ⟨by kernel_rfl,fun j t ht=>by
    rw [Tryz.params7] at ht
    have hm:t ∈ [41,62]:=by simpa using Array.mem_of_getElem? ht
    have hall:([41,62].all fun u=>!Tryz.prog.wantsStandIn u) = true:=by kernel_rfl
    exact (show Tryz.prog.wantsStandIn t = false by simpa using List.all_eq_true.1 hall t hm)⟩)
  (by kernel_rfl)
end Go.Proofs.YtllfckekodcdaaaGreatDoor
namespace Go.X
theorem qik {a b:List UInt8} (h:a.length + b.length ≤ 1000000):cat a b = some (a ++ b):=by
 unfold cat; rw [if_pos (by unfold LIMS; omega)]
end Go.X
namespace Go.X
def run {σ α β:Type} (f:σ → α → σ ⊕ β) (fin:σ → β):σ → List α → β
 | s,[]=>fin s
 | s,x :: xs=>match f s x with
  | .inl s'=>run f fin s' xs
  | .inr b=>b
theorem qrL {σ τ α β:Type} {body:τ → Option (τ ⊕ β)} (mkS:σ → Int → τ) (xs:List α) (f:σ → α → σ ⊕ β) (fin:σ → β) (I:Nat → σ → Prop)
  (h1:∀ s (k:Nat) x,xs[k]? = some x → I k s → body (mkS s k) = some (match f s x with | .inl s'=>.inl (mkS s' ((k:Int) + 1)) | .inr b=>.inr b) ∧ ∀ s',f s x = .inl s' → I (k + 1) s')
  (h2:∀ s,I xs.length s → body (mkS s xs.length) = some (.inr (fin s))) :
  ∀ N s,xs.length < N → I 0 s → iter body N (mkS s 0) = some (run f fin s xs):=by
 have key:∀ j k N s,k + j = xs.length → j < N → I k s → iter body N (mkS s (k:Int)) = some (run f fin s (xs.drop k)):=by
  intro j
  induction j with
  | zero =>
   intro k N s hk hN hI
   obtain ⟨N,rfl⟩:∃ M,N = M + 1:=⟨N - 1,by omega⟩
   have e:xs.drop k = []:=List.drop_eq_nil_of_le (by omega)
   obtain rfl:k = xs.length:=by omega
   rw [iter,h2 s hI,e]; rfl
  | succ j ih =>
   intro k N s hk hN hI
   obtain ⟨N,rfl⟩:∃ M,N = M + 1:=⟨N - 1,by omega⟩
   have hlt:k < xs.length:=by omega
   have e:xs.drop k = xs[k] :: xs.drop (k + 1):=List.drop_eq_getElem_cons hlt
   obtain ⟨h3,h4⟩:=h1 s k _ (List.getElem?_eq_getElem hlt) hI
   rw [iter,h3,e]
   simp only [run]
   cases hf:f s xs[k] with
   | inl s' =>
    simp only
    rw [show ((k:Int) + 1) = ((k + 1:Nat):Int) by omega]
    exact ih (k + 1) N s' (by omega) (by omega) (h4 s' hf)
   | inr b=>rfl
 intro N s hN hI
 have:=key xs.length 0 N s (by omega) hN hI
 simpa using this
theorem qrj {σ τ α β:Type} {body:τ → Option (τ ⊕ β)} (mkS:σ → Int → τ) (xs:List α) (f:σ → α → σ ⊕ β) (fin:σ → β)
  (h1:∀ s (k:Nat) x,xs[k]? = some x → body (mkS s k) = some (match f s x with | .inl s'=>.inl (mkS s' ((k:Int) + 1)) | .inr b=>.inr b))
  (h2:∀ s,body (mkS s xs.length) = some (.inr (fin s))) (N:Nat) (s:σ) (hN:xs.length < N):iter body N (mkS s 0) = some (run f fin s xs) :=
 qrL mkS xs f fin (fun _ _=>True) (fun s k x hx _=>⟨h1 s k x hx,fun _ _=>trivial⟩) (fun s _=>h2 s) N s hN trivial
theorem qsh {α:Type} {body:Int → Option (Int ⊕ (Unit ⊕ Int))} (xs:List α) (p:α → Bool)
  (h1:∀ (k:Nat) x,xs[k]? = some x → body k = some (if p x then .inr (.inr k) else .inl ((k:Int) + 1))) (h2:body xs.length = some (.inr (.inl ()))) (N:Nat) (hN:xs.length < N) :
  iter body N 0 = some (match xs.findIdx? p with | some k=>.inr (k:Int) | none=>.inl ()):=by
 have key:∀ j k N,k + j = xs.length → j < N → iter body N (k:Int) = some (match (xs.drop k).findIdx? p with | some i=>.inr ((k + i:Nat):Int) | none=>.inl ()):=by
  intro j
  induction j with
  | zero =>
   intro k N hk hN
   obtain ⟨N,rfl⟩:∃ M,N = M + 1:=⟨N - 1,by omega⟩
   have e:xs.drop k = []:=List.drop_eq_nil_of_le (by omega)
   obtain rfl:k = xs.length:=by omega
   rw [iter,h2,e]; rfl
  | succ j ih =>
   intro k N hk hN
   obtain ⟨N,rfl⟩:∃ M,N = M + 1:=⟨N - 1,by omega⟩
   have hlt:k < xs.length:=by omega
   have e:xs.drop k = xs[k] :: xs.drop (k + 1):=List.drop_eq_getElem_cons hlt
   rw [iter,h1 k _ (List.getElem?_eq_getElem hlt),e,List.findIdx?_cons]
   cases hp:p xs[k] with
   | true=>simp
   | false =>
    simp only [Bool.false_eq_true,if_false]
    rw [show ((k:Int) + 1) = ((k + 1:Nat):Int) by omega,ih (k + 1) N (by omega) (by omega)]
    cases (xs.drop (k + 1)).findIdx? p with
    | none=>rfl
    | some i=>simp only [Option.map_some]; congr 3; omega
 have:=key xs.length 0 N (by omega) hN
 simpa using this
theorem qs9 {α:Type} (xs:List α) (p:α → Bool):((some (match xs.findIdx? p with | some k=>Sum.inr (k:Int) | none=>Sum.inl ()):Option (Unit ⊕ Int)).bind fun o=>Sum.elim (fun _=>some (-1)) (fun o=>some o) o) = some (match xs.findIdx? p with | some k=>(k:Int) | none=>-1):=by
 cases xs.findIdx? p <;> rfl
theorem qnX {α:Type} (xs:List α) (p:α → Bool):decide ((match xs.findIdx? p with | some k=>(k:Int) | none=>-1) ≥ 0) = xs.any p:=by
 cases h:xs.findIdx? p with
 | none =>
  have:xs.any p = false:=by
   rw [List.any_eq_false]; intro x hx
   have:=List.findIdx?_eq_none_iff.1 h x hx
   simp [this]
  rw [this]; rfl
 | some k =>
  have:xs.any p = true:=by
   obtain ⟨x,hx,hp⟩:=List.findIdx?_eq_some_iff_getElem.1 h
   exact List.any_eq_true.2 ⟨_,List.getElem_mem x,by first | exact hx | exact hp.1 | exact hp⟩
  rw [this]
  simp
theorem qqz {α:Type} (p:α → Bool):∀ xs:List α,run (σ:=Unit) (β:=Unit ⊕ Bool) (fun _ x=>if p x then .inl () else .inr (.inr false)) (fun _=>.inl ()) () xs = if xs.all p then .inl () else .inr false
 | []=>rfl
 | x :: xs=>by
  unfold run
  cases h:p x with
  | true=>simp only [if_true,qqz p xs,List.all_cons,h,Bool.true_and]
  | false=>simp [h]
theorem qjD {α:Type} {body:Int → Option (Int ⊕ (Unit ⊕ Bool))} (p:α → Bool) (xs:List α) (h1:∀ (k:Nat) x,xs[k]? = some x → body k = some (if p x then .inl ((k:Int) + 1) else .inr (.inr false))) (h2:body xs.length = some (.inr (.inl ()))) (N:Nat) (hN:xs.length < N) :
  iter body N 0 = some (if xs.all p then .inl () else .inr false):=by
 rw [← qqz p xs]
 refine qrj (σ:=Unit) (fun _ k=>k) xs _ _ (fun _ k x hx=>?_) (fun _=>h2) N () hN
 rw [h1 k x hx]
 cases p x <;> rfl
theorem qgl {α:Type} {xs:List α} {k:Nat} {x:α} (h:xs[k]? = some x):k < xs.length:=(List.getElem?_eq_some_iff.1 h).1
end Go.X
namespace Go.Proofs.YtllfckekodcdaaaGreatDoor
open Go.X
theorem qmP {σ β:Type} {body:σ → Option (σ ⊕ β)} (I:Nat → σ → Prop) (n:Nat) (Q:β → Prop) (hs:∀ i s,i < n → I i s → ∃ s',body s = some (.inl s') ∧ I (i + 1) s') (hd:∀ s,I n s → ∃ b,body s = some (.inr b) ∧ Q b) :
  ∀ N s,n < N → I 0 s → ∃ b,iter body N s = some b ∧ Q b:=by
 have key:∀ j k N s,k + j = n → j < N → I k s → ∃ b,iter body N s = some b ∧ Q b:=by
  intro j
  induction j with
  | zero =>
   intro k N s hk hN hI
   obtain ⟨N,rfl⟩:∃ M,N = M + 1:=⟨N - 1,by omega⟩
   have:k = n:=by omega
   subst this
   obtain ⟨b,h1,h2⟩:=hd s hI
   exact ⟨b,by simp only [iter,h1],h2⟩
  | succ j ih =>
   intro k N s hk hN hI
   obtain ⟨N,rfl⟩:∃ M,N = M + 1:=⟨N - 1,by omega⟩
   obtain ⟨s',h1,h2⟩:=hs k s (by omega) hI
   simp only [iter,h1]
   exact ih (k + 1) N s' (by omega) (by omega) h2
 exact fun N s hN hI=>key n 0 N s (by omega) hN hI
theorem qhG {σ β:Type} {body:σ → Option (σ ⊕ β)} (f:Nat → σ) (n:Nat) (b:β) {s0:σ} (h0:f 0 = s0) (hs:∀ i,i < n → body (f i) = some (.inl (f (i + 1)))) (hd:body (f n) = some (.inr b)) (N:Nat) (hN:n < N):iter body N s0 = some b:=by
 subst h0
 obtain ⟨b',h1,rfl⟩:=qmP (fun i s=>s = f i) n (fun b'=>b' = b) (fun i s hi h=>by subst h; exact ⟨_,hs i hi,rfl⟩) (fun s h=>by subst h; exact ⟨_,hd,rfl⟩) N (f 0) hN rfl
 exact h1
theorem qcT {σ β γ:Type} {body:σ → Option (σ ⊕ β)} {g:β → Option γ} (f:Nat → σ) (n:Nat) (b:β) {s0:σ} (h0:f 0 = s0) {N:Nat} (hN:n < N) (hs:∀ i,i < n → body (f i) = some (.inl (f (i + 1)))) (hd:body (f n) = some (.inr b)):(iter body N s0).bind g = g b:=by
 rw [qhG f n b h0 hs hd N hN]; rfl
theorem ix {α:Type} (l:List α) (k:Nat):idx l (k:Int) = l[k]?:=by unfold idx; rw [if_pos (by omega)]; simp
theorem ixg {α:Type} {l:List α} {k:Nat} {x:α} (h:l[k]? = some x):idx l (k:Int) = some x:=by rw [ix,h]
theorem qbh {α:Type} {l:List α} {k:Nat} (h:k < l.length):∃ x,l[k]? = some x:=⟨_,List.getElem?_eq_getElem h⟩
theorem dk {k n:Nat} (h:k < n):decide ((k:Int) < (n:Int)) = true:=decide_eq_true (by omega)
theorem dn (n:Nat):decide ((n:Int) < (n:Int)) = false:=decide_eq_false (by omega)
theorem qet {α:Type} {l:List α} {k:Nat} {x:α} (h:l[k]? = some x):l.take k ++ [x] = l.take (k + 1):=by rw [List.take_add_one,h]; rfl
theorem app1 {α:Type} {xs ys:List α} (h:xs.length + ys.length ≤ 4294967296):app xs ys = some (xs ++ ys):=by unfold app; rw [if_pos (by unfold LIM; exact h)]
theorem qoT {α:Type} {B:Nat} {xs ys:List α} (h:(xs.length + ys.length) * B ≤ 140737488355328) (hB:0 < B):appw B xs ys = some (xs ++ ys):=by
 unfold appw
 refine if_pos ⟨h,Nat.le_trans (Nat.le_mul_of_pos_right _ hB) h⟩
def ItOk (x:Item):Prop:=x.Text.length ≤ reachBytes ∧ (x.Ranges.length * 2 ≤ reachBytes ∧ ∀ y ∈ x.Ranges,InR .u8 y.From ∧ InR .u8 y.To) ∧ InR .i64 x.Least ∧ InR .i64 x.Most
def RlOk (r:Rule):Prop:=r.Kind.length ≤ reachBytes ∧ (r.Items.length * 64 ≤ reachBytes ∧ ∀ y ∈ r.Items,ItOk y) ∧ r.Next.length ≤ reachBytes
def StOk (x:State):Prop:=x.Name.length ≤ reachBytes ∧ (x.Rules.length * 56 ≤ reachBytes ∧ ∀ y ∈ x.Rules,RlOk y)
def ScOk (s:List State):Prop:=s.length * 40 ≤ reachBytes ∧ ∀ y ∈ s,StOk y
def szI (x:Item):Nat:=x.Text.length + x.Ranges.length
def szL (l:List Item):Nat:=l.length + (l.map szI).sum
def szR (r:Rule):Nat:=r.Kind.length + r.Next.length + szL r.Items
def szS (x:State):Nat:=x.Name.length + (x.Rules.length + (x.Rules.map szR).sum)
def sz (s:List State):Nat:=s.length + (s.map szS).sum
theorem qmi {α:Type} {f:α → Nat}:∀ {l:List α} {x:α},x ∈ l → f x ≤ (l.map f).sum
 | y :: l,x,h=>by
  simp only [List.map_cons,List.sum_cons]
  rcases List.mem_cons.1 h with rfl | h
  ·omega
  ·have:=qmi (f:=f) h; omega
def SzL (N:Nat) (l:List Item):Prop:=l.length < N ∧ ∀ x ∈ l,x.Text.length < N ∧ x.Ranges.length < N
def SzR (N:Nat) (r:Rule):Prop:=r.Kind.length < N ∧ r.Next.length < N ∧ SzL N r.Items
def SzS (N:Nat) (x:State):Prop:=x.Name.length < N ∧ x.Rules.length < N ∧ ∀ r ∈ x.Rules,SzR N r
def Sz (N:Nat) (s:List State):Prop:=s.length < N ∧ ∀ x ∈ s,SzS N x
theorem SzL.of {N:Nat} {l:List Item} (h:szL l < N):SzL N l:=by
 unfold szL at h
 refine ⟨by omega,fun x hx=>?_⟩
 have:x.Text.length + x.Ranges.length ≤ (l.map szI).sum:=qmi (f:=szI) hx
 omega
theorem SzR.of {N:Nat} {r:Rule} (h:szR r < N):SzR N r:=by
 unfold szR at h
 exact ⟨by omega,by omega,SzL.of (by omega)⟩
theorem SzS.of {N:Nat} {x:State} (h:szS x < N):SzS N x:=by
 unfold szS at h
 refine ⟨by omega,by omega,fun r hr=>SzR.of ?_⟩
 have:=qmi (f:=szR) hr
 omega
theorem Sz.of {N:Nat} {s:List State} (h:sz s < N):Sz N s:=by
 unfold sz at h
 refine ⟨by omega,fun x hx=>SzS.of ?_⟩
 have:=qmi (f:=szS) hx
 omega
theorem qkS {n B:Nat} (h:n * B ≤ reachBytes):n * B ≤ 140737488355328:=by unfold reachBytes at h; omega
theorem qqi {N:Nat} {l:List Item} {i:Nat} {x:Item} (hi:l[i]? = some x) (hB:x.Ranges.length * 2 ≤ reachBytes) (hN:x.Ranges.length < N) :
  iter (fun s=>qcR N l i s.1 s.2) N ((0:Int),(Item.mk x.Text ([]) x.Not x.Least x.Most)) = some x:=by
 refine qhG (fun k:Nat=>((k:Int),Item.mk x.Text (x.Ranges.take k) x.Not x.Least x.Most)) x.Ranges.length x rfl (fun k hk=>?_) ?_ N hN
 ·obtain ⟨g,hg⟩:=qbh hk
  simp only [qcR,ixg hi,oBs,dk hk,cond_true,ixg hg]
  rw [qoT (by
   simp only [List.length_take,List.length_cons,List.length_nil]
   have:=qkS hB
   have:(min k x.Ranges.length + (0 + 1)) * 2 ≤ x.Ranges.length * 2:=Nat.mul_le_mul_right _ (by omega)
   omega) (by decide)]
  simp only [oBs,qet hg]
  rfl
 ·simp only [qcR,ixg hi,oBs,dn,cond_false,List.take_length]
theorem qsO {N:Nat} {l:List Item} (h:l.length * 64 ≤ reachBytes ∧ ∀ x ∈ l,ItOk x) (hs:SzL N l):qeI N l = some l:=by
 unfold qeI
 refine (qcT (fun k:Nat=>(l.take k,(k:Int))) l.length l rfl hs.1 (fun k hk=>?_) ?_).trans rfl
 ·obtain ⟨x,hx⟩:=qbh hk
  have hm:=List.mem_of_getElem? hx
  simp only [qdF,dk hk,cond_true,ixg hx,oBs]
  rw [qqi hx (h.2 x hm).2.1.1 (hs.2 x hm).2]
  simp only [oBs]
  rw [qoT (by
   simp only [List.length_take,List.length_cons,List.length_nil]
   have:=qkS h.1
   have:(min k l.length + (0 + 1)) * 64 ≤ l.length * 64:=Nat.mul_le_mul_right _ (by omega)
   omega) (by decide)]
  simp only [oBs,qet hx]
  rfl
 ·simp only [qdF,dn,cond_false,List.take_length]
theorem qr9 {N:Nat} {s:List State} (h:ScOk s) (hs:Sz N s):qdN N s = some s:=by
 unfold qdN
 refine (qcT (fun k:Nat=>(s.take k,(k:Int))) s.length s rfl hs.1 (fun k hk=>?_) ?_).trans rfl
 ·obtain ⟨x,hx⟩:=qbh hk
  have hm:=List.mem_of_getElem? hx
  obtain ⟨hn,hr,hrl⟩:=h.2 x hm
  obtain ⟨_,gr,grl⟩:=hs.2 x hm
  simp only [qek,dk hk,cond_true,ixg hx,oBs]
  refine (qcT (fun j:Nat=>((j:Int),State.mk x.Name (x.Rules.take j))) x.Rules.length x rfl gr (fun j hj=>?_) ?_).trans ?_
  rotate_left 2
  ·rw [qoT (by
    simp only [List.length_take,List.length_cons,List.length_nil]
    have:=qkS h.1
    have:(min k s.length + (0 + 1)) * 40 ≤ s.length * 40:=Nat.mul_le_mul_right _ (by omega)
    omega) (by decide)]
   simp only [oBs,qet hx]
   rfl
  ·obtain ⟨r,hr'⟩:=qbh hj
   have hrm:=List.mem_of_getElem? hr'
   simp only [qei,dk hj,cond_true,ixg hx,ixg hr',oBs]
   rw [qsO (hrl r hrm).2.1 (grl r hrm).2.2]
   simp only [oBs]
   rw [qoT (by
    simp only [List.length_take,List.length_cons,List.length_nil]
    have:=qkS hr
    have:(min j x.Rules.length + (0 + 1)) * 56 ≤ x.Rules.length * 56:=Nat.mul_le_mul_right _ (by omega)
    omega) (by decide)]
   simp only [oBs,qet hr']
   rfl
  ·simp only [qei,ixg hx,oBs,dn,cond_false,List.take_length]
 ·simp only [qek,dn,cond_false,List.take_length]
theorem qnJ {α:Type} {body:α × Int → Option ((α × Int) ⊕ α)} (n:Nat) (hs:∀ a (i:Nat),i < n → ∃ a',body (a,i) = some (.inl (a',(i:Int) + 1))) (hd:∀ a,∃ b,body (a,n) = some (.inr b)) {N:Nat} (hN:n < N) (a:α):∃ b,iter body N (a,0) = some b:=by
 obtain ⟨b,h,_⟩:=qmP (fun i s=>s.2 = (i:Int)) n (fun _=>True) (fun i s hi h=>by
  obtain ⟨a,c⟩:=s
  simp only at h
  subst h
  obtain ⟨a',h⟩:=hs a i hi
  exact ⟨_,h,rfl⟩) (fun s h=>by
  obtain ⟨a,c⟩:=s
  simp only at h
  subst h
  obtain ⟨b,h⟩:=hd a
  exact ⟨_,h,trivial⟩) N (a,0) hN rfl
 exact ⟨b,h⟩
theorem qtk {N:Nat} {s:List State} (hs:Sz N s):∃ b,qfs N s = some b:=by
 have h3:∀ (r:Rule),SzR N r → ∀ a:Int,∃ b,iter (fun s':Int × Int=>qdl N r s'.1 s'.2) N (a,0) = some b:=fun r hr a=>by
  refine qnJ r.Items.length (fun a m hm=>?_) (fun a=>?_) hr.2.2.1 a
  ·obtain ⟨y,hy⟩:=qbh hm
   simp only [qdl,dk hm,cond_true,ixg hy,oBs]
   exact ⟨_,rfl⟩
  ·simp only [qdl,dn,cond_false]
   exact ⟨_,rfl⟩
 have h2:∀ (i:Nat) (x:State),s[i]? = some x → ∀ a:Int,∃ b,iter (fun s':Int × Int=>qdh N s i s'.1 s'.2) N (a,0) = some b:=fun i x hx a=>by
  obtain ⟨_,gr,grl⟩:=hs.2 x (List.mem_of_getElem? hx)
  refine qnJ x.Rules.length (fun a j hj=>?_) (fun a=>?_) gr a
  ·obtain ⟨r,hr⟩:=qbh hj
   simp only [qdh,ixg hx,oBs,dk hj,cond_true,ixg hr]
   obtain ⟨b,hb⟩:=h3 r (grl r (List.mem_of_getElem? hr)) (IntKind.wrap .i64 (a + (IntKind.wrap .i64 ((IntKind.wrap .i64 ((1:Int) + (IntKind.wrap .i64 ((r.Kind.length:Int).tdiv 20)))) + (IntKind.wrap .i64 ((r.Next.length:Int).tdiv 20))))))
   exact ⟨b,by rw [hb]; rfl⟩
  ·simp only [qdh,ixg hx,oBs,dn,cond_false]
   exact ⟨_,rfl⟩
 obtain ⟨b,hb⟩:=qnJ (body:=fun s':Int × Int=>qdk N s s'.1 s'.2) s.length (fun a i hi=>by
  obtain ⟨x,hx⟩:=qbh hi
  obtain ⟨b,hb⟩:=h2 i x hx a
  simp only [qdk,dk hi,cond_true,hb,oBs,ixg hx]
  exact ⟨_,rfl⟩) (fun a=>by
  simp only [qdk,dn,cond_false]
  exact ⟨_,rfl⟩) hs.1 0
 unfold qfs
 exact ⟨_,by rw [hb]; rfl⟩
abbrev Str:=List UInt8
def hexd (n:Nat):UInt8:=UInt8.ofNat (if n < 10 then 48 + n else 87 + n)
def esc (br:Bool) (c:Nat):Str :=
 if c = 92 ∨ (br = false ∧ c = 34) ∨ (br = true ∧ (c = 91 ∨ c = 93 ∨ c = 94 ∨ c = 45)) then [92,UInt8.ofNat c]
 else if c < 32 ∨ 126 < c ∨ (br = true ∧ c = 32) then [92,120,hexd (c / 16),hexd (c % 16)]
 else [UInt8.ofNat c]
def okQ (N:Nat) (c:Nat):Bool:=qhq N (c:Int) == some (esc false c) && (qeS N (c:Int) == some (esc true c) && (qcZ N (c:Int) false == some (esc false c) && qcZ N (c:Int) true == some (esc true c)))
set_option maxRecDepth 100000 in
theorem qt9 (N:Nat):((List.range 256).all fun c=>okQ N c) = true:=by kernel_rfl
theorem qpb {N c:Nat} (h:c < 256):okQ N c = true:=List.all_eq_true.1 (qt9 N) c (List.mem_range.2 h)
theorem qr4 {N c:Nat} (h:c < 256):qhq N (c:Int) = some (esc false c):=by
 have:=qpb (N:=N) h
 unfold okQ at this
 simp only [Bool.and_eq_true,beq_iff_eq] at this
 exact this.1
theorem qlH {N c:Nat} (h:c < 256):qeS N (c:Int) = some (esc true c):=by
 have:=qpb (N:=N) h
 unfold okQ at this
 simp only [Bool.and_eq_true,beq_iff_eq] at this
 exact this.2.1
theorem qpt {N c:Nat} (h:c < 256) (br:Bool):qcZ N (c:Int) br = some (esc br c):=by
 have:=qpb (N:=N) h
 unfold okQ at this
 simp only [Bool.and_eq_true,beq_iff_eq] at this
 cases br with
 | false=>exact this.2.2.1
 | true=>exact this.2.2.2
theorem qfS (br:Bool) (c:Nat):(esc br c).length ≤ 4:=by
 unfold esc
 split
 ·simp
 ·split <;> simp
def qmg (x:Item):Str :=
 if x.Least = 1 ∧ x.Most = 1 then [] else if x.Least = 0 ∧ x.Most = 1 then [63] else if x.Least = 0 ∧ x.Most = -1 then [42] else if x.Least = 1 ∧ x.Most = -1 then [43] else []
def qjn (x:Item):Prop:=(x.Least = 1 ∨ x.Least = 0) ∧ (x.Most = 1 ∨ x.Most = -1)
instance (x:Item):Decidable (qjn x):=by unfold qjn; infer_instance
def qds (g:Range):Str:=esc true g.From.toNat ++ if g.To = g.From then [] else 45 :: esc true g.To.toNat
def qjM (x:Item):Str :=
 if x.Text = [] then [91] ++ (if x.Not then [94] else []) ++ x.Ranges.flatMap qds ++ [93] else [34] ++ x.Text.flatMap (fun c=>esc false c.toNat) ++ [34]
def qfb (x:Item):Str:=qjM x ++ qmg x
def qgI (r:Rule):Str:=r.Kind ++ r.Items.flatMap (fun x=>32 :: qfb x) ++ if r.Next = [] then [] else [32,45,62,32] ++ r.Next
def qe5 (x:State):Str:=([115,116,97,116,101,32] ++ x.Name ++ [10]) ++ x.Rules.flatMap (fun r=>qgI r ++ [10])
def qmY (s:List State):Str:=s.flatMap qe5
def word (w:Str):Bool:=w.all (fun c=>decide (97 ≤ c.toNat ∧ c.toNat ≤ 122)) && (decide (1 ≤ w.length) && decide (w.length ≤ 16))
def ItP (x:Item):Prop:=qjn x ∧ if x.Text = [] then (1 ≤ x.Ranges.length ∧ x.Ranges.length ≤ 20) ∧ ∀ g ∈ x.Ranges,g.From ≤ g.To else x.Text.length ≤ 40 ∧ x.Ranges = [] ∧ x.Not = false
def InB (x:Item):Prop:=∀ g ∈ x.Ranges,InR .u8 g.From ∧ InR .u8 g.To
def RlP (r:Rule):Prop:=word r.Kind = true ∧ (1 ≤ r.Items.length ∧ r.Items.length ≤ 20) ∧ ∀ x ∈ r.Items,ItP x
theorem inr8 {x:Int} (h:InR .u8 x):∃ n:Nat,x = (n:Int) ∧ n < 256 ∧ x.toNat = n:=by
 have:=qlN.1 h
 exact ⟨x.toNat,by omega,by omega,rfl⟩
theorem u8lt (c:UInt8):c.toNat < 256:=c.toNat_lt
theorem qi7 {α:Type} (f:α → Str) (B:Nat):∀ l:List α,(∀ x ∈ l,(f x).length ≤ B) → (l.flatMap f).length ≤ l.length * B
 | [],_=>by simp
 | x :: l,h=>by
  simp only [List.flatMap_cons,List.length_append,List.length_cons,Nat.add_mul]
  have h1:=h x (by simp)
  have h2:=qi7 f B l (fun y hy=>h y (by simp [hy]))
  omega
theorem qkN (g:Range):(qds g).length ≤ 9:=by
 unfold qds
 have:=qfS true g.From.toNat
 have:=qfS true g.To.toNat
 split <;> simp <;> omega
theorem qoe (x:Item):(qmg x).length ≤ 1:=by
 unfold qmg
 repeat' split
 all_goals decide
theorem qom {x:Item} (h:ItP x):(qjM x).length ≤ 200:=by
 unfold qjM
 obtain ⟨_,h⟩:=h
 split
 ·rename_i h0
  rw [if_pos h0] at h
  have:=qi7 qds 9 x.Ranges (fun g _=>qkN g)
  cases x.Not <;> simp [-List.length_flatMap] <;> omega
 ·rename_i h0
  rw [if_neg h0] at h
  have:=qi7 (fun c:UInt8=>esc false c.toNat) 4 x.Text (fun c _=>qfS _ _)
  simp [-List.length_flatMap]; omega
theorem qjG {x:Item} (h:ItP x):(qfb x).length ≤ 201:=by
 have:=qom h
 have:=qoe x
 unfold qfb
 simp; omega
theorem qhy {w:Str} (h:word w = true):1 ≤ w.length ∧ w.length ≤ 16:=by
 unfold word at h
 simp only [Bool.and_eq_true,decide_eq_true_eq] at h
 exact h.2
theorem qr1 {r:Rule} (h:RlP r):(r.Items.flatMap (fun x=>32 :: qfb x)).length ≤ 4040:=by
 have:=qi7 (fun x=>32 :: qfb x) 202 r.Items (fun x hx=>by have:=qjG (h.2.2 x hx); simp; omega)
 have:=h.2.1
 omega
theorem qiI {r:Rule} (h:RlP r) (hn:r.Next.length ≤ 16):(qgI r).length ≤ 4080:=by
 have:=qr1 h
 have:=qhy h.1
 unfold qgI
 split <;> simp [-List.length_flatMap] <;> omega
def bld (l:Str):Builder:=⟨(),ints l⟩
theorem qpY (a b:Str):ints a ++ ints b = ints (a ++ b):=by simp [ints]
theorem qjQ (l:Str):bytesOf (ints l) = l:=qoH l
theorem wstr {N:Nat} {l t:Str} (h:l.length + t.length ≤ 4294967296):qaB N t (bld l) = some ((t.length:Int),(),bld (l ++ t)):=by
 unfold qaB bld
 rw [app1 (by simpa [ints] using h),qpY]
 rfl
theorem qns {N:Nat} {l:Str} {c:Nat} (hc:c < 256) (h:l.length < 4294967296):qaV N (c:Int) (bld l) = some ((),bld (l ++ [UInt8.ofNat c])):=by
 unfold qaV bld
 have e:([(c:Int)]:List Int) = ints [UInt8.ofNat c]:=by simp [ints]; omega
 rw [app1 (by simp [ints]; omega),e,qpY]
 rfl
theorem qbM (b:Builder):Builder.mk () b.buf = b:=rfl
theorem beqd (a b:Int):(a == b) = decide (a = b):=rfl
theorem qqs (N:Nat) (x:Item):qhL N x = some (qmg x,decide (qjn x)):=by
 unfold qhL qmg qjn
 simp only [beqd]
 by_cases h1:x.Least = 1 <;> by_cases h0:x.Least = 0 <;> by_cases h2:x.Most = 1 <;> by_cases h3:x.Most = -1 <;> simp [h1,h0,h2,h3]
theorem cat1 {a b:Str} (h:a.length + b.length ≤ 1000000000):cat a b = some (a ++ b):=by unfold cat; rw [if_pos (by unfold LIMS; omega)]
theorem qeQ {α:Type} (f:α → Str) {l:List α} {k:Nat} {x:α} (h:l[k]? = some x):(l.take k).flatMap f ++ f x = (l.take (k + 1)).flatMap f:=by
 rw [← qet h]; simp
theorem qgs {α:Type} (f:α → Str) (B:Nat) (l:List α) (k:Nat) (h:∀ x ∈ l,(f x).length ≤ B):((l.take k).flatMap f).length ≤ l.length * B:=by
 have h1:=qi7 f B (l.take k) (fun x hx=>h x (List.mem_of_mem_take hx))
 have h2:(l.take k).length * B ≤ l.length * B:=Nat.mul_le_mul_right _ (by simp; omega)
 omega
theorem qpl {N:Nat} {x:Item} (h:ItP x) (hb:InB x) {l:Str} (hl:l.length ≤ 1000000000) (hN:100 ≤ N):qix N x (bld l) = some (bld (l ++ qfb x)):=by
 unfold qix
 obtain ⟨hm,h⟩:=h
 simp only [qqs,oBs,qbM]
 have hml:=qoe x
 by_cases h0:x.Text = []
 ·rw [if_pos h0] at h
  have e0:(x.Text != ([]:Str)) = false:=by rw [h0]; rfl
  have fl:=fun k=>qgs qds 9 x.Ranges k (fun g _=>qkN g)
  simp only [e0,cond_false]
  rw [show (91:Int) = ((91:Nat):Int) from rfl,qns (by decide) (by omega)]
  simp only [oBs,qbM]
  have hnot:(bif x.Not then (qaV N 94 (bld (l ++ [91]))).bind fun r98=>some r98.2 else some (bld (l ++ [91]))) = some (bld (l ++ [91] ++ if x.Not then [94] else [])):=by
   cases x.Not with
   | false=>simp
   | true =>
    simp only [cond_true,if_true]
    rw [show (94:Int) = ((94:Nat):Int) from rfl,qns (by decide) (by simp [-List.length_flatMap]; omega)]
    rfl
  have hnl:(if x.Not then ([94]:Str) else []).length ≤ 1:=by cases x.Not <;> decide
  rw [show UInt8.ofNat 91 = 91 from rfl] at *
  rw [hnot]
  simp only [oBs,qbM]
  refine (qcT (fun k:Nat=>((k:Int),bld (l ++ [91] ++ (if x.Not then [94] else []) ++ (x.Ranges.take k).flatMap qds))) x.Ranges.length (bld (l ++ [91] ++ (if x.Not then [94] else []) ++ x.Ranges.flatMap qds)) (by simp) (by omega) (fun k hk=>?_) ?_).trans ?_
  ·obtain ⟨g,hg⟩:=qbh hk
   obtain ⟨hf,ht⟩:=hb g (List.mem_of_getElem? hg)
   obtain ⟨f,hf1,hf2,hf3⟩:=inr8 hf
   obtain ⟨t,ht1,ht2,ht3⟩:=inr8 ht
   have:=fl k
   have hef:=qfS true f
   have het:=qfS true t
   simp only [qgV,dk hk,cond_true,ixg hg,oBs,qbM]
   rw [hf1,qlH hf2]
   simp only [oBs]
   rw [wstr (by simp [-List.length_flatMap]; omega)]
   simp only [oBs,qbM]
   rw [← qeQ qds hg]
   by_cases he:g.To = g.From
   ·have hr:qds g = esc true f:=by unfold qds; rw [if_pos he,hf3,List.append_nil]
    have:(g.To != (f:Int)) = false:=by rw [he,hf1]; simp
    rw [this,hr]
    simp
   ·have hr:qds g = esc true f ++ 45 :: esc true t:=by unfold qds; rw [if_neg he,hf3,ht3]
    have:(g.To != (f:Int)) = true:=by rw [← hf1]; simpa using he
    rw [this,hr,ht1,qlH ht2]
    simp only [cond_true,oBs]
    rw [cat1 (by simp [-List.length_flatMap]; omega)]
    simp only [oBs]
    rw [wstr (by simp [-List.length_flatMap]; omega)]
    simp [qbM]
  ·simp only [qgV,dn,cond_false,qbM,List.take_length]
  ·rw [cat1 (by simp [-List.length_flatMap]; omega)]
   simp only [oBs,qbM]
   have:=fl x.Ranges.length
   rw [List.take_length] at this
   rw [wstr (by simp [-List.length_flatMap]; omega)]
   simp only [oBs,qbM,qfb,qjM,if_pos h0]
   simp
 ·rw [if_neg h0] at h
  have e0:(x.Text != ([]:Str)) = true:=by simpa using h0
  have fl:=fun k=>qgs (fun c:UInt8=>esc false c.toNat) 4 x.Text k (fun c _=>qfS _ _)
  simp only [e0,cond_true]
  rw [show (34:Int) = ((34:Nat):Int) from rfl,qns (by decide) (by omega)]
  simp only [oBs,qbM]
  refine (qcT (fun k:Nat=>((k:Int),bld (l ++ [34] ++ (x.Text.take k).flatMap (fun c=>esc false c.toNat)))) x.Text.length (bld (l ++ [34] ++ x.Text.flatMap (fun c=>esc false c.toNat))) (by simp) (by omega) (fun k hk=>?_) ?_).trans ?_
  ·obtain ⟨c,hc⟩:=qbh hk
   have:=fl k
   have hec:=qfS false c.toNat
   simp only [qgJ,dk hk,cond_true,ixg hc,oBs,qbM]
   rw [qr4 (u8lt c)]
   simp only [oBs]
   rw [wstr (by simp [-List.length_flatMap]; omega)]
   simp only [oBs,qbM]
   rw [← qeQ (fun c:UInt8=>esc false c.toNat) hc]
   simp
  ·simp only [qgJ,dn,cond_false,qbM,List.take_length]
  ·rw [cat1 (by simp [-List.length_flatMap]; omega)]
   simp only [oBs,qbM]
   have:=fl x.Text.length
   rw [List.take_length] at this
   rw [wstr (by simp [-List.length_flatMap]; omega)]
   simp only [oBs,qbM,qfb,qjM,if_neg h0]
   simp
theorem qpJ {N:Nat} {r:Rule} (h:RlP r) (hn:r.Next.length ≤ 16) (hb:∀ x ∈ r.Items,InB x) (hN:100 ≤ N):qiz N r = some (qgI r):=by
 unfold qiz
 have hk:=qhy h.1
 have fl:=fun k=>qgs (fun x=>32 :: qfb x) 202 r.Items k (fun x hx=>by have:=qjG (h.2.2 x hx); simp; omega)
 have hI:=h.2.1
 have e:Builder.mk () ([]) = bld []:=rfl
 rw [e,wstr (by simp [-List.length_flatMap]; omega)]
 simp only [oBs,qbM,List.nil_append]
 refine (qcT (fun k:Nat=>((k:Int),bld (r.Kind ++ (r.Items.take k).flatMap (fun x=>32 :: qfb x)))) r.Items.length (bld (r.Kind ++ r.Items.flatMap (fun x=>32 :: qfb x))) (by simp) (by omega) (fun k hk=>?_) ?_).trans ?_
 ·obtain ⟨x,hx⟩:=qbh hk
  have hm:=List.mem_of_getElem? hx
  have:=fl k
  simp only [qg5,dk hk,cond_true,ixg hx,oBs,qbM]
  rw [show (32:Int) = ((32:Nat):Int) from rfl,qns (by decide) (by simp [-List.length_flatMap]; omega)]
  simp only [oBs,qbM]
  rw [qpl (h.2.2 x hm) (hb x hm) (by simp [-List.length_flatMap]; omega) hN]
  simp only [oBs,qbM]
  rw [← qeQ (fun x=>32 :: qfb x) hx]
  simp
 ·simp only [qg5,dn,cond_false,qbM,List.take_length]
 ·have:=fl r.Items.length
  rw [List.take_length] at this
  unfold qgI
  by_cases h0:r.Next = []
  ·have e0:(r.Next != ([]:Str)) = false:=by rw [h0]; rfl
   simp only [e0,cond_false,if_pos h0,bld,qjQ]
   simp
  ·have e0:(r.Next != ([]:Str)) = true:=by simpa using h0
   simp only [e0,cond_true,if_neg h0]
   rw [cat1 (by simp [-List.length_flatMap]; omega)]
   simp only [oBs,qbM]
   rw [wstr (by simp [-List.length_flatMap]; omega)]
   simp only [oBs,bld,qjQ]
theorem qqp {N:Nat} {x:Item} (h:ItP x) (hb:InB x) (hN:100 ≤ N):qeY N x = some (qfb x):=by
 unfold qeY
 obtain ⟨hm,h⟩:=h
 have hbody:(bif (x.Text != ([])) then
   (iter (fun s=>qc7 N x s.1 s.2) N ([34],0)).bind fun o12 =>
   (cat o12 ([34])).bind fun s28 =>
   some s28
  else
   (show Option ((List UInt8)) from
    bif x.Not then
     (cat ([91]) ([94])).bind fun s34 =>
     some s34
    else
     some ([91])).bind fun o31 =>
   (iter (fun s=>qc3 N x s.1 s.2) N (o31,0)).bind fun o39 =>
   (cat o39 ([93])).bind fun s105 =>
   some s105) = some (qjM x):=by
  by_cases h0:x.Text = []
  ·rw [if_pos h0] at h
   have e0:(x.Text != ([]:Str)) = false:=by rw [h0]; rfl
   have fl:=fun k=>qgs qds 9 x.Ranges k (fun g _=>qkN g)
   simp only [e0,cond_false]
   have hnot:(show Option Str from bif x.Not then (cat ([91]) ([94])).bind fun s34=>some s34 else some ([91])) = some ([91] ++ if x.Not then [94] else []):=by
    cases x.Not <;> rfl
   refine (congrArg (fun o:Option Str=>o.bind _) hnot).trans ?_
   have hnl:(if x.Not then ([94]:Str) else []).length ≤ 1:=by cases x.Not <;> decide
   rw [oBs]
   refine (qcT (fun k:Nat=>(([91] ++ (if x.Not then [94] else []) ++ (x.Ranges.take k).flatMap qds),(k:Int))) x.Ranges.length ([91] ++ (if x.Not then [94] else []) ++ x.Ranges.flatMap qds) (by simp) (by omega) (fun k hk=>?_) ?_).trans ?_
   ·obtain ⟨g,hg⟩:=qbh hk
    obtain ⟨hf,ht⟩:=hb g (List.mem_of_getElem? hg)
    obtain ⟨f,hf1,hf2,hf3⟩:=inr8 hf
    obtain ⟨t,ht1,ht2,ht3⟩:=inr8 ht
    have:=fl k
    have hef:=qfS true f
    have het:=qfS true t
    simp only [qc3,dk hk,cond_true,ixg hg,oBs]
    rw [hf1,qpt hf2]
    simp only [oBs]
    rw [cat1 (by simp [-List.length_flatMap]; omega)]
    simp only [oBs]
    rw [← qeQ qds hg]
    by_cases he:g.To = g.From
    ·have hr:qds g = esc true f:=by unfold qds; rw [if_pos he,hf3,List.append_nil]
     have:(g.To != (f:Int)) = false:=by rw [he,hf1]; simp
     rw [this,hr]
     simp
    ·have hr:qds g = esc true f ++ 45 :: esc true t:=by unfold qds; rw [if_neg he,hf3,ht3]
     have:(g.To != (f:Int)) = true:=by rw [← hf1]; simpa using he
     rw [this,hr,ht1,qpt ht2]
     simp only [cond_true,oBs]
     rw [cat1 (by simp; omega)]
     simp only [oBs]
     rw [cat1 (by simp [-List.length_flatMap]; omega)]
     simp
   ·simp only [qc3,dn,cond_false,List.take_length]
   ·have:=fl x.Ranges.length
    rw [List.take_length] at this
    rw [cat1 (by simp [-List.length_flatMap]; omega)]
    simp only [oBs,qjM,if_pos h0]
  ·rw [if_neg h0] at h
   have e0:(x.Text != ([]:Str)) = true:=by simpa using h0
   have fl:=fun k=>qgs (fun c:UInt8=>esc false c.toNat) 4 x.Text k (fun c _=>qfS _ _)
   simp only [e0,cond_true]
   refine (qcT (fun k:Nat=>(([34] ++ (x.Text.take k).flatMap (fun c=>esc false c.toNat)),(k:Int))) x.Text.length ([34] ++ x.Text.flatMap (fun c=>esc false c.toNat)) (by simp) (by omega) (fun k hk=>?_) ?_).trans ?_
   ·obtain ⟨c,hc⟩:=qbh hk
    have:=fl k
    have hec:=qfS false c.toNat
    simp only [qc7,dk hk,cond_true,ixg hc,oBs]
    rw [qpt (u8lt c)]
    simp only [oBs]
    rw [cat1 (by simp [-List.length_flatMap]; omega)]
    simp only [oBs]
    rw [← qeQ (fun c:UInt8=>esc false c.toNat) hc]
    simp
   ·simp only [qc7,dn,cond_false,List.take_length]
   ·have:=fl x.Text.length
    rw [List.take_length] at this
    rw [cat1 (by simp [-List.length_flatMap]; omega)]
    simp only [oBs,qjM,if_neg h0]
 refine (congrArg (fun o:Option Str=>o.bind _) hbody).trans ?_
 rw [oBs]
 have hbl:=qom ⟨hm,h⟩
 unfold qfb qmg
 simp only [beqd]
 obtain ⟨h1,h2⟩:=hm
 rcases h1 with h1 | h1 <;> rcases h2 with h2 | h2 <;> simp [h1,h2,bne,beqd] <;> rw [cat1 (by simp; omega)] <;> rfl
theorem qp8 {N:Nat} {r:Rule} (h:RlP r) (hn:r.Next.length ≤ 16) (hb:∀ x ∈ r.Items,InB x) (hN:100 ≤ N):qd9 N r = some (qgI r):=by
 unfold qd9
 have hk:=qhy h.1
 have fl:=fun k=>qgs (fun x=>32 :: qfb x) 202 r.Items k (fun x hx=>by have:=qjG (h.2.2 x hx); simp; omega)
 have hI:=h.2.1
 refine (qcT (fun k:Nat=>((r.Kind ++ (r.Items.take k).flatMap (fun x=>32 :: qfb x)),(k:Int))) r.Items.length (r.Kind ++ r.Items.flatMap (fun x=>32 :: qfb x)) (by simp) (by omega) (fun k hk=>?_) ?_).trans ?_
 ·obtain ⟨x,hx⟩:=qbh hk
  have hm:=List.mem_of_getElem? hx
  have:=fl k
  have hil:=qjG (h.2.2 x hm)
  simp only [qd2,dk hk,cond_true,ixg hx,oBs]
  rw [qqp (h.2.2 x hm) (hb x hm) hN]
  simp only [oBs]
  rw [cat1 (by simp; omega)]
  simp only [oBs]
  rw [cat1 (by simp [-List.length_flatMap]; omega)]
  simp only [oBs]
  rw [← qeQ (fun x=>32 :: qfb x) hx]
  simp
 ·simp only [qd2,dn,cond_false,List.take_length]
 ·have:=fl r.Items.length
  rw [List.take_length] at this
  unfold qgI
  by_cases h0:r.Next = []
  ·have e0:(r.Next != ([]:Str)) = false:=by rw [h0]; rfl
   simp only [e0,cond_false,if_pos h0,List.append_nil]
  ·have e0:(r.Next != ([]:Str)) = true:=by simpa using h0
   simp only [e0,cond_true,if_neg h0]
   rw [cat1 (by simp; omega)]
   simp only [oBs]
   rw [cat1 (by simp [-List.length_flatMap]; omega)]
   simp only [oBs]
structure Vs (s:List State):Prop where
 len:1 ≤ s.length ∧ s.length ≤ 20
 name:∀ x ∈ s,word x.Name = true
 rules:∀ x ∈ s,1 ≤ x.Rules.length ∧ x.Rules.length ≤ 40
 rl:∀ x ∈ s,∀ r ∈ x.Rules,RlP r ∧ (r.Next = [] ∨ r.Next ∈ s.map State.Name)
 nd:(s.map State.Name).Nodup
theorem Vs.next {s:List State} (h:Vs s) {x:State} (hx:x ∈ s) {r:Rule} (hr:r ∈ x.Rules):r.Next.length ≤ 16:=by
 rcases (h.rl x hx r hr).2 with h1 | h1
 ·rw [h1]; decide
 ·obtain ⟨y,hy,e⟩:=List.mem_map.1 h1
  rw [← e]; exact (qhy (h.name y hy)).2
theorem qnv {s:List State} (h:Vs s) {x:State} (hx:x ∈ s):(qe5 x).length ≤ 170000:=by
 unfold qe5
 have h1:=qhy (h.name x hx)
 have h2:=h.rules x hx
 have h3:=qi7 (fun r=>qgI r ++ [10]) 4081 x.Rules (fun r hr=>by have:=qiI (h.rl x hx r hr).1 (h.next hx hr); simp; omega)
 simp [-List.length_flatMap]; omega
theorem qpc {N:Nat} {s:List State} (h:Vs s) (hb:∀ x ∈ s,∀ r ∈ x.Rules,∀ y ∈ r.Items,InB y) (hN:100 ≤ N):qiA N s = some (qmY s):=by
 unfold qiA
 have hl:=h.len
 have fl:=fun k=>qgs qe5 170000 s k (fun x hx=>qnv h hx)
 have e:Builder.mk () ([]) = bld []:=rfl
 rw [e]
 refine (qcT (fun k:Nat=>((k:Int),bld ((s.take k).flatMap qe5))) s.length (bld (qmY s)) (by simp) (by omega) (fun k hk=>?_) ?_).trans ?_
 ·obtain ⟨x,hx⟩:=qbh hk
  have hm:=List.mem_of_getElem? hx
  have h1:=qhy (h.name x hm)
  have h2:=h.rules x hm
  have:=fl k
  have fl2:=fun j=>qgs (fun r=>qgI r ++ [10]) 4081 x.Rules j (fun r hr=>by have:=qiI (h.rl x hm r hr).1 (h.next hm hr); simp; omega)
  simp only [qgY,dk hk,cond_true,ixg hx,oBs,qbM]
  rw [cat1 (by simp; omega)]
  simp only [oBs]
  rw [cat1 (by simp; omega)]
  simp only [oBs]
  rw [wstr (by simp [-List.length_flatMap]; omega)]
  simp only [oBs,qbM]
  refine (qcT (fun j:Nat=>((j:Int),bld ((s.take k).flatMap qe5 ++ ([115,116,97,116,101,32] ++ x.Name ++ [10]) ++ (x.Rules.take j).flatMap (fun r=>qgI r ++ [10])))) x.Rules.length (bld ((s.take (k + 1)).flatMap qe5)) (by simp) (by omega) (fun j hj=>?_) ?_).trans ?_
  ·obtain ⟨r,hr⟩:=qbh hj
   have hrm:=List.mem_of_getElem? hr
   have hll:=qiI (h.rl x hm r hrm).1 (h.next hm hrm)
   have:=fl2 j
   simp only [qgZ,dk hj,cond_true,ixg hr,oBs,qbM]
   rw [qpJ (h.rl x hm r hrm).1 (h.next hm hrm) (hb x hm r hrm) hN]
   simp only [oBs]
   rw [cat1 (by simp; omega)]
   simp only [oBs]
   rw [wstr (by simp [-List.length_flatMap]; omega)]
   simp only [oBs,qbM]
   rw [← qeQ (fun r=>qgI r ++ [10]) hr]
   simp
  ·simp only [qgZ,dn,cond_false,qbM,List.take_length]
   rw [← qeQ qe5 hx]
   simp [qe5]
  ·rfl
 ·simp only [qgY,dn,cond_false,qbM,List.take_length]
  rfl
 ·simp only [bld,qjQ]
theorem qqm {N:Nat} {s:List State} (h:Vs s) (hb:∀ x ∈ s,∀ r ∈ x.Rules,∀ y ∈ r.Items,InB y) (hN:100 ≤ N):qeU N s = some (qmY s):=by
 unfold qeU
 have hl:=h.len
 have fl:=fun k=>qgs qe5 170000 s k (fun x hx=>qnv h hx)
 refine (qcT (fun k:Nat=>((s.take k).flatMap qe5,(k:Int))) s.length (qmY s) (by simp) (by omega) (fun k hk=>?_) ?_).trans rfl
 ·obtain ⟨x,hx⟩:=qbh hk
  have hm:=List.mem_of_getElem? hx
  have h1:=qhy (h.name x hm)
  have h2:=h.rules x hm
  have:=fl k
  have fl2:=fun j=>qgs (fun r=>qgI r ++ [10]) 4081 x.Rules j (fun r hr=>by have:=qiI (h.rl x hm r hr).1 (h.next hm hr); simp; omega)
  simp only [qd0,dk hk,cond_true,ixg hx,oBs]
  rw [cat1 (by simp; omega)]
  simp only [oBs]
  rw [cat1 (by simp; omega)]
  simp only [oBs]
  rw [cat1 (by simp [-List.length_flatMap]; omega)]
  simp only [oBs]
  refine (qcT (fun j:Nat=>(((s.take k).flatMap qe5 ++ ([115,116,97,116,101,32] ++ x.Name ++ [10]) ++ (x.Rules.take j).flatMap (fun r=>qgI r ++ [10])),(j:Int))) x.Rules.length ((s.take (k + 1)).flatMap qe5) (by simp) (by omega) (fun j hj=>?_) ?_).trans ?_
  ·obtain ⟨r,hr⟩:=qbh hj
   have hrm:=List.mem_of_getElem? hr
   have hll:=qiI (h.rl x hm r hrm).1 (h.next hm hrm)
   have:=fl2 j
   simp only [qd3,dk hj,cond_true,ixg hx,ixg hr,oBs]
   rw [qp8 (h.rl x hm r hrm).1 (h.next hm hrm) (hb x hm r hrm) hN]
   simp only [oBs]
   rw [cat1 (by simp; omega)]
   simp only [oBs]
   rw [cat1 (by simp [-List.length_flatMap]; omega)]
   simp only [oBs]
   rw [← qeQ (fun r=>qgI r ++ [10]) hr]
   simp
  ·simp only [qd3,ixg hx,oBs,dn,cond_false,List.take_length]
   rw [← qeQ qe5 hx]
   simp [qe5]
  ·rfl
 ·simp only [qd0,dn,cond_false,List.take_length]
  rfl
end Go.Proofs.YtllfckekodcdaaaGreatDoor
namespace Go.Proofs.YtllfckekodcdaaaGreatDoor
open Go.X
def qbX (o:Option Bool) (P:Prop):Prop:=∃ b,o = some b ∧ (b = true ↔ P)
theorem qbX.yes {o:Option Bool} {P:Prop} (h:o = some true) (p:P):qbX o P:=⟨true,h,by simp [p]⟩
theorem qbX.no {o:Option Bool} {P:Prop} (h:o = some false) (p:¬P):qbX o P:=⟨false,h,by simp [p]⟩
theorem qbX.iff {o:Option Bool} {P Q:Prop} (h:qbX o P) (e:P ↔ Q):qbX o Q:=by obtain ⟨b,h1,h2⟩:=h; exact ⟨b,h1,h2.trans e⟩
theorem qbX.same {o o':Option Bool} {P:Prop} (h:qbX o P) (h':qbX o' P):o = o':=by
 obtain ⟨b,h1,h2⟩:=h
 obtain ⟨b',h3,h4⟩:=h'
 rw [h1,h3]
 cases b <;> cases b' <;> simp_all
theorem qbX.dec {P:Prop} [Decidable P]:qbX (some (decide P)) P:=⟨_,rfl,by simp⟩
theorem qbX.cases {o:Option Bool} {P:Prop} (h:qbX o P):(o = some true ∧ P) ∨ (o = some false ∧ ¬P):=by
 obtain ⟨b,h1,h2⟩:=h
 cases b with
 | true=>exact .inl ⟨h1,h2.1 rfl⟩
 | false=>exact .inr ⟨h1,fun p=>by simpa using h2.2 p⟩
theorem qf6 {α:Type} {body:Int → Option (Int ⊕ (Unit ⊕ Bool))} (P:α → Prop) (xs:List α) {N:Nat} (hN:xs.length < N)
  (h1:∀ (k:Nat) x,xs[k]? = some x → (P x ∧ body k = some (.inl ((k:Int) + 1))) ∨ (¬P x ∧ body k = some (.inr (.inr false)))) (h2:body xs.length = some (.inr (.inl ()))) :
  (iter body N 0 = some (.inl ()) ∧ ∀ x ∈ xs,P x) ∨ (iter body N 0 = some (.inr false) ∧ ¬∀ x ∈ xs,P x):=by
 classical
 have h:=qjD (body:=body) (fun x=>decide (P x)) xs (fun k x hx=>by
  rcases h1 k x hx with ⟨p,h⟩ | ⟨p,h⟩
  ·rw [h]; simp [p]
  ·rw [h]; simp [p]) h2 N hN
 by_cases hp:∀ x ∈ xs,P x
 ·refine .inl ⟨?_,hp⟩
  rw [h,if_pos (by simpa using hp)]
 ·refine .inr ⟨?_,hp⟩
  rw [h,if_neg (by simpa using hp)]
theorem qlB {σ β:Type} {body:σ → Option (σ ⊕ β)} (I:Nat → σ → Prop) (n:Nat) (Q:β → Prop) (hs:∀ i s,i < n → I i s → (∃ s',body s = some (.inl s') ∧ I (i + 1) s') ∨ ∃ b,body s = some (.inr b) ∧ Q b) (hd:∀ s,I n s → ∃ b,body s = some (.inr b) ∧ Q b) :
  ∀ N s,n < N → I 0 s → ∃ b,iter body N s = some b ∧ Q b:=by
 have key:∀ j k N s,k + j = n → j < N → I k s → ∃ b,iter body N s = some b ∧ Q b:=by
  intro j
  induction j with
  | zero =>
   intro k N s hk hN hI
   obtain ⟨N,rfl⟩:∃ M,N = M + 1:=⟨N - 1,by omega⟩
   have:k = n:=by omega
   subst this
   obtain ⟨b,h1,h2⟩:=hd s hI
   exact ⟨b,by simp only [iter,h1],h2⟩
  | succ j ih =>
   intro k N s hk hN hI
   obtain ⟨N,rfl⟩:∃ M,N = M + 1:=⟨N - 1,by omega⟩
   rcases hs k s (by omega) hI with ⟨s',h1,h2⟩ | ⟨b,h1,h2⟩
   ·simp only [iter,h1]
    exact ih (k + 1) N s' (by omega) (by omega) h2
   ·exact ⟨b,by simp only [iter,h1],h2⟩
 exact fun N s hN hI=>key n 0 N s (by omega) hN hI
theorem idxf {α:Type} {body:Int → Option (Int ⊕ (Unit ⊕ Int))} (xs:List α) (p:α → Bool) {N:Nat} (hN:xs.length < N)
  (h1:∀ (k:Nat) x,xs[k]? = some x → body k = some (if p x then .inr (.inr k) else .inl ((k:Int) + 1))) (h2:body xs.length = some (.inr (.inl ()))) :
  ((iter body N 0).bind fun o=>Sum.elim (fun _=>some (-1:Int)) (fun o=>some o) o) = some (match xs.findIdx? p with | some k=>(k:Int) | none=>-1):=by
 rw [qsh xs p h1 h2 N hN]; exact qs9 xs p
theorem qpo {w:Str}:Sum.elim (fun _:Unit=>bif (decide ((w.length:Int) ≥ 1)) then some (decide ((w.length:Int) ≤ 16)) else some false) (fun o2:Bool=>some o2) (if w.all (fun c=>decide (97 ≤ c.toNat ∧ c.toNat ≤ 122)) then .inl () else .inr false) = some (word w):=by
 unfold word
 by_cases h:w.all (fun c=>decide (97 ≤ c.toNat ∧ c.toNat ≤ 122)) = true
 ·rw [if_pos h,h]
  simp only [Sum.elim_inl,Bool.true_and]
  by_cases h1:1 ≤ w.length
  ·rw [decide_eq_true (show (w.length:Int) ≥ 1 by omega),decide_eq_true h1,cond_true,Bool.true_and]
   congr 1
   exact decide_eq_decide.2 (by omega)
  ·rw [decide_eq_false (show ¬(w.length:Int) ≥ 1 by omega),decide_eq_false h1]; rfl
 ·rw [if_neg h]
  simp only [Bool.not_eq_true] at h
  rw [h]; rfl
theorem qon {w:Str} {k:Nat} {c:UInt8} (hc:w[k]? = some c):(bif (decide ((k:Int) < (w.length:Int))) then
  (idx w k).bind fun c7 =>
  bif (decide ((c7.toNat:Int) < 97)) then
   some (.inr (.inr false))
  else
   (idx w k).bind fun c10 =>
   bif (decide ((c10.toNat:Int) > 122)) then
    some (.inr (.inr false))
   else
    some (.inl ((k:Int) + 1))
 else
  some (.inr (.inl ())):Option (Int ⊕ (Unit ⊕ Bool))) = some (if decide (97 ≤ c.toNat ∧ c.toNat ≤ 122) then .inl ((k:Int) + 1) else .inr (.inr false)):=by
 simp only [dk (qgl hc),cond_true,ixg hc,oBs]
 by_cases h1:c.toNat < 97
 ·rw [decide_eq_true (show (c.toNat:Int) < 97 by omega),if_neg (by simp; omega)]; rfl
 ·rw [decide_eq_false (show ¬(c.toNat:Int) < 97 by omega)]
  by_cases h2:122 < c.toNat
  ·rw [decide_eq_true (show (c.toNat:Int) > 122 by omega),if_neg (by simp; omega)]; rfl
  ·rw [decide_eq_false (show ¬(c.toNat:Int) > 122 by omega),if_pos (by simp; omega)]; rfl
theorem qjd {N:Nat} {w:Str} (hN:w.length < N):qgS N w = some (word w):=by
 unfold qgS
 rw [qjD (fun c:UInt8=>decide (97 ≤ c.toNat ∧ c.toNat ≤ 122)) w (fun k c hc=>qon hc) (by simp only [qh2,dn,cond_false]) N hN]
 exact qpo
theorem qmy {N:Nat} {w:Str} (hN:w.length < N):qcI N w = some (word w):=by
 unfold qcI
 rw [qjD (fun c:UInt8=>decide (97 ≤ c.toNat ∧ c.toNat ≤ 122)) w (fun k c hc=>qon hc) (by simp only [qfd,dn,cond_false]) N hN]
 exact qpo
theorem lenb (n m:Nat):decide ((n:Int) ≤ (m:Int)) = decide (n ≤ m):=decide_eq_decide.2 (by omega)
theorem leng (n m:Nat):decide ((n:Int) ≥ (m:Int)) = decide (m ≤ n):=decide_eq_decide.2 (by omega)
theorem len0 {α:Type} (l:List α):((l.length:Int) == 0) = decide (l = []):=by
 cases l with
 | nil=>rfl
 | cons x l=>simp [beqd]; omega
theorem neN (w:Str):(w != ([]:Str)) = !decide (w = []):=by cases w <;> simp
theorem qnS {N:Nat} {x:Item} (hN:x.Ranges.length < N):qbX (qho N x) (ItP x):=by
 unfold qho
 rw [qqs]
 simp only [oBs]
 by_cases hm:qjn x
 ·rw [decide_eq_true hm]
  simp only [Bool.not_true,cond_false,neN,len0]
  unfold ItP
  by_cases h0:x.Text = []
  ·rw [if_pos h0,decide_eq_true h0]
   simp only [Bool.not_true,cond_false]
   rw [show (1:Int) = ((1:Nat):Int) from rfl,show (20:Int) = ((20:Nat):Int) from rfl,leng,lenb]
   by_cases h1:1 ≤ x.Ranges.length
   ·by_cases h2:x.Ranges.length ≤ 20
    ·rw [decide_eq_true h1,decide_eq_true h2]
     simp only [cond_true]
     have e:qbd N x.Ranges = some (x.Ranges.any fun g=>decide (g.From > g.To)):=by
      unfold qbd qbC
      have st:∀ (k:Nat) g,x.Ranges[k]? = some g → qa4 N x.Ranges k = some (if decide (g.From > g.To) then .inr (.inr (k:Int)) else .inl ((k:Int) + 1)):=fun k g hg=>by
       simp only [qa4,dk (qgl hg),cond_true,ixg hg,oBs,qht]
       by_cases hd:g.From > g.To
       ·rw [decide_eq_true hd]; rfl
       ·rw [decide_eq_false hd]; rfl
      rw [idxf x.Ranges (fun g=>decide (g.From > g.To)) hN st (by simp only [qa4,dn,cond_false])]
      exact congrArg some (qnX _ _)
     rw [e]
     refine ⟨_,rfl,?_⟩
     simp [hm,h1,h2]
    ·rw [decide_eq_true h1,decide_eq_false h2]
     exact .no rfl (fun h=>h2 h.2.1.2)
   ·rw [decide_eq_false h1]
    exact .no rfl (fun h=>h1 h.2.1.1)
  ·rw [if_neg h0,decide_eq_false h0]
   simp only [Bool.not_false,cond_true]
   rw [show (40:Int) = ((40:Nat):Int) from rfl,lenb]
   by_cases h1:x.Text.length ≤ 40
   ·rw [decide_eq_true h1]
    simp only [cond_true]
    by_cases h2:x.Ranges = []
    ·rw [decide_eq_true h2]
     refine ⟨_,rfl,?_⟩
     simp [hm,h1,h2]
    ·rw [decide_eq_false h2]
     exact .no rfl (fun h=>h2 h.2.2.1)
   ·rw [decide_eq_false h1]
    exact .no rfl (fun h=>h1 h.2.1)
 ·rw [decide_eq_false hm]
  exact .no rfl (fun h=>hm h.1)
theorem qpx {N:Nat} {x:Item} (hm:qjn x) (hN:x.Ranges.length < N) (body:Int → Option (Int ⊕ (Unit ⊕ Bool)))
  (h1:∀ (k:Nat) g,x.Ranges[k]? = some g → body k = some (if decide (g.From ≤ g.To) then .inl ((k:Int) + 1) else .inr (.inr false))) (h2:body x.Ranges.length = some (.inr (.inl ()))) :
  qbX (bif (x.Text != ([])) then
      bif (decide ((x.Text.length:Int) ≤ 40)) then
       bif ((x.Ranges.length:Int) == 0) then
        some (!x.Not)
       else
        some false
      else
       some false
     else
      (iter body N 0).bind fun o15 =>
      Sum.elim (fun _o15 =>
       bif (decide ((x.Ranges.length:Int) ≥ 1)) then
        some (decide ((x.Ranges.length:Int) ≤ 20))
       else
        some false)
      (fun o15 =>
       some o15) o15) (ItP x):=by
 simp only [neN,len0]
 unfold ItP
 by_cases h0:x.Text = []
 ·rw [if_pos h0,decide_eq_true h0]
  simp only [Bool.not_true,cond_false]
  rw [qjD (fun g:Range=>decide (g.From ≤ g.To)) x.Ranges h1 h2 N hN]
  simp only [oBs]
  rw [show (1:Int) = ((1:Nat):Int) from rfl,show (20:Int) = ((20:Nat):Int) from rfl,leng,lenb]
  by_cases ha:x.Ranges.all (fun g=>decide (g.From ≤ g.To)) = true
  ·rw [if_pos ha]
   simp only [List.all_eq_true,decide_eq_true_eq] at ha
   by_cases h3:1 ≤ x.Ranges.length
   ·rw [decide_eq_true h3]
    refine ⟨_,rfl,?_⟩
    simp [hm,h3]
    exact fun _=>ha
   ·rw [decide_eq_false h3]
    exact .no rfl (fun h=>h3 h.2.1.1)
  ·rw [if_neg ha]
   refine .no rfl (fun h=>ha ?_)
   simpa using h.2.2
 ·rw [if_neg h0,decide_eq_false h0]
  simp only [Bool.not_false,cond_true]
  rw [show (40:Int) = ((40:Nat):Int) from rfl,lenb]
  by_cases h1:x.Text.length ≤ 40
  ·rw [decide_eq_true h1]
   simp only [cond_true]
   by_cases h2:x.Ranges = []
   ·rw [decide_eq_true h2]
    refine ⟨_,rfl,?_⟩
    simp [hm,h1,h2]
   ·rw [decide_eq_false h2]
    exact .no rfl (fun h=>h2 h.2.2.1)
  ·rw [decide_eq_false h1]
   exact .no rfl (fun h=>h1 h.2.1)
theorem qoK {N:Nat} {x:Item} (hN:x.Ranges.length < N):qbX (qem N x) (ItP x):=by
 unfold qem
 by_cases h1:x.Least < 0
 ·rw [decide_eq_true h1]
  exact .no rfl (fun h=>by have:=h.1.1; omega)
 rw [decide_eq_false h1]
 by_cases h2:x.Least > 1
 ·rw [decide_eq_true h2]
  exact .no rfl (fun h=>by have:=h.1.1; omega)
 rw [decide_eq_false h2]
 simp only [cond_false]
 by_cases h3:x.Most = 1
 ·have e:(x.Most != 1) = false:=by rw [h3]; rfl
  rw [e]
  simp only [cond_false]
  refine qpx ⟨by omega,by omega⟩ hN _ (fun k g hg=>?_) ?_
  ·simp only [qdx,dk (qgl hg),cond_true,ixg hg,oBs]
   by_cases hd:g.From ≤ g.To
   ·rw [decide_eq_false (by omega),decide_eq_true hd]; rfl
   ·rw [decide_eq_true (by omega),decide_eq_false hd]; rfl
  ·simp only [qdx,dn,cond_false]
 ·have e:(x.Most != 1) = true:=by simpa using h3
  rw [e]
  simp only [cond_true]
  by_cases h4:x.Most = -1
  ·have e:(x.Most != (-1)) = false:=by rw [h4]; rfl
   rw [e]
   simp only [cond_false]
   refine qpx ⟨by omega,by omega⟩ hN _ (fun k g hg=>?_) ?_
   ·simp only [qdw,dk (qgl hg),cond_true,ixg hg,oBs]
    by_cases hd:g.From ≤ g.To
    ·rw [decide_eq_false (by omega),decide_eq_true hd]; rfl
    ·rw [decide_eq_true (by omega),decide_eq_false hd]; rfl
   ·simp only [qdw,dn,cond_false]
  ·have e:(x.Most != (-1)) = true:=by simpa using h4
   rw [e]
   exact .no rfl (fun h=>by have:=h.1.2; omega)
theorem qqq {N:Nat} {l:List Item} (hN:SzL N l):qbX ((qaP N l).bind fun r12=>some (!r12)) (∀ x ∈ l,ItP x):=by
 classical
 have e:qaP N l = some (l.any fun x=>decide (¬ItP x)):=by
  unfold qaP qbK
  have st:∀ (k:Nat) x,l[k]? = some x → qa5 N l k = some (if decide (¬ItP x) then .inr (.inr (k:Int)) else .inl ((k:Int) + 1)):=fun k x hx=>by
   simp only [qa5,dk (qgl hx),cond_true,ixg hx,oBs,qhZ]
   rcases (qnS (hN.2 x (List.mem_of_getElem? hx)).2).cases with ⟨h,p⟩ | ⟨h,p⟩
   ·rw [h]; simp [p]
   ·rw [h]; simp [p]
  rw [idxf l (fun x=>decide (¬ItP x)) hN.1 st (by simp only [qa5,dn,cond_false])]
  exact congrArg some (qnX _ _)
 rw [e]
 refine ⟨_,rfl,?_⟩
 simp
theorem qoM {N:Nat} {r:Rule} (hN:SzR N r):qbX (qhO N r) (RlP r ∧ (r.Next = [] ∨ word r.Next = true)):=by
 unfold qhO
 have hi:=qqq hN.2.2
 have e1:(1:Int) = ((1:Nat):Int):=rfl
 have e2:(20:Int) = ((20:Nat):Int):=rfl
 rw [qjd hN.1,qjd hN.2.1]
 simp only [oBs]
 rw [e1,e2,leng,lenb]
 have fin:∀ (P:Prop),P → (P ↔ (r.Next = [] ∨ word r.Next = true)) → word r.Kind = true → qbX (bif decide (1 ≤ r.Items.length) then bif decide (r.Items.length ≤ 20) then (qaP N r.Items).bind fun r12=>some (!r12) else some false else some false) (RlP r ∧ (r.Next = [] ∨ word r.Next = true)):=fun P p hP hk=>by
  by_cases h1:1 ≤ r.Items.length
  ·by_cases h2:r.Items.length ≤ 20
   ·rw [decide_eq_true h1,decide_eq_true h2]
    simp only [cond_true]
    exact hi.iff ⟨fun h=>⟨⟨hk,⟨h1,h2⟩,h⟩,hP.1 p⟩,fun h=>h.1.2.2⟩
   ·rw [decide_eq_true h1,decide_eq_false h2]
    exact .no rfl (fun h=>h2 h.1.2.1.2)
  ·rw [decide_eq_false h1]
   exact .no rfl (fun h=>h1 h.1.2.1.1)
 cases hk:word r.Kind with
 | false=>exact .no rfl (fun h=>by have:=h.1.1; rw [hk] at this; cases this)
 | true =>
  simp only [cond_true]
  by_cases h0:r.Next = []
  ·have e:(r.Next == ([]:Str)) = true:=by simp [h0]
   rw [e]
   exact fin _ h0 ⟨fun h=>.inl h,fun _=>h0⟩ hk
  ·have e:(r.Next == ([]:Str)) = false:=by simpa using h0
   rw [e]
   simp only [cond_false]
   have hw0:word r.Next = true ∨ word r.Next = false:=by cases word r.Next <;> simp
   rcases hw0.symm with hw | hw
   ·rw [hw]; exact .no rfl (fun h=>by rcases h.2 with h | h; exact h0 h; cases h)
   ·have f:=fin (word r.Next = true) hw ⟨fun h=>.inr h,fun h=>h.resolve_left h0⟩ hk
    rw [hw] at f ⊢
    exact f
theorem qoA {N:Nat} {r:Rule} (hN:SzR N r):qbX (qdv N r) (RlP r):=by
 unfold qdv
 have e1:(1:Int) = ((1:Nat):Int):=rfl
 have e2:(20:Int) = ((20:Nat):Int):=rfl
 rcases qf6 (body:=fun s=>qb6 N r s) ItP r.Items hN.2.2.1 (fun k x hx=>by
  rcases (qoK (hN.2.2.2 x (List.mem_of_getElem? hx)).2).cases with ⟨h,p⟩ | ⟨h,p⟩
  ·exact .inl ⟨p,by simp only [qb6,dk (qgl hx),cond_true,ixg hx,oBs,h,Bool.not_true,cond_false]⟩
  ·exact .inr ⟨p,by simp only [qb6,dk (qgl hx),cond_true,ixg hx,oBs,h,Bool.not_false,cond_true]⟩) (by simp only [qb6,dn,cond_false]) with ⟨h,p⟩ | ⟨h,p⟩
 ·rw [h,qmy hN.1]
  simp only [oBs,Sum.elim_inl]
  rw [e1,e2,leng,lenb]
  cases hk:word r.Kind with
  | false=>exact .no rfl (fun h=>by have:=h.1; rw [hk] at this; cases this)
  | true =>
   simp only [cond_true]
   by_cases h1:1 ≤ r.Items.length
   ·rw [decide_eq_true h1]
    refine ⟨_,rfl,?_⟩
    unfold RlP
    simp [hk,h1]
    exact fun _=>p
   ·rw [decide_eq_false h1]
    exact .no rfl (fun h=>h1 h.2.1.1)
 ·rw [h]
  exact .no rfl (fun h=>p h.2.2)
theorem qoZ {s:List State} {n:Str}:mget (s.map fun x=>(x.Name,true)) n = if n ∈ s.map State.Name then some true else none:=by
 induction s with
 | nil=>rfl
 | cons x s ih =>
  simp only [List.map_cons,mget,List.find?_cons,List.mem_cons] at ih ⊢
  by_cases h:n = x.Name
  ·subst h; simp
  ·have:(n == x.Name) = false:=by simpa using h
   simp only [this,h,false_or]
   exact ih
theorem qsX {s:List State} {n:Str} (h:n ∉ s.map State.Name) (hl:s.length ≤ 100):mset (s.map fun x=>(x.Name,true)) n true = some (s.map (fun x=>(x.Name,true)) ++ [(n,true)]):=by
 unfold mset
 rw [if_pos (by unfold LIM; simp; omega),qmO]
 intro p hp e
 obtain ⟨x,hx,rfl⟩:=List.mem_map.1 hp
 exact h (List.mem_map.2 ⟨x,hx,e⟩)
def A1 (s:List State):Prop:=(∀ x ∈ s,word x.Name = true ∧ 1 ≤ x.Rules.length ∧ x.Rules.length ≤ 40) ∧ (s.map State.Name).Nodup
def A2 (s:List State):Prop:=∀ x ∈ s,∀ r ∈ x.Rules,RlP r ∧ (r.Next = [] ∨ r.Next ∈ s.map State.Name)
theorem qkb {s:List State}:Vs s ↔ (1 ≤ s.length ∧ s.length ≤ 20) ∧ A1 s ∧ A2 s :=
 ⟨fun h=>⟨h.len,⟨fun x hx=>⟨h.name x hx,h.rules x hx⟩,h.nd⟩,h.rl⟩,fun ⟨h1,h2,h3⟩=>⟨h1,fun x hx=>(h2.1 x hx).1,fun x hx=>(h2.1 x hx).2,h3,h2.2⟩⟩
theorem A1.take {s:List State} {k:Nat} {x:State} (hx:s[k]? = some x):A1 (s.take (k + 1)) ↔ A1 (s.take k) ∧ (word x.Name = true ∧ 1 ≤ x.Rules.length ∧ x.Rules.length ≤ 40) ∧ x.Name ∉ (s.take k).map State.Name:=by
 unfold A1
 rw [← qet hx]
 simp only [List.mem_append,List.mem_singleton,List.map_append,List.map_cons,List.map_nil,List.nodup_append]
 constructor
 ·rintro ⟨h1,h2,_,h3⟩
  exact ⟨⟨fun y hy=>h1 y (.inl hy),h2⟩,h1 x (.inr rfl),fun h=>h3 _ h _ rfl rfl⟩
 ·rintro ⟨⟨h1,h2⟩,h3,h4⟩
  refine ⟨fun y hy=>?_,h2,by simp,fun a ha b hb e=>?_⟩
  ·rcases hy with hy | rfl
   ·exact h1 y hy
   ·exact h3
  ·subst hb; subst e; exact h4 ha
theorem A1.sub {s:List State} (k:Nat) (h:A1 s):A1 (s.take k) :=
 ⟨fun x hx=>h.1 x (List.mem_of_mem_take hx),h.2.sublist ((List.take_sublist _ _).map _)⟩
theorem qrF {N:Nat} {s:List State} (hs:Sz N s) (hl:s.length ≤ 20) :
  (iter (fun st:Int × List (Str × Bool)=>qdW N s st.1 st.2) N (0,[]) = some (.inl (s.map fun x=>(x.Name,true))) ∧ A1 s) ∨ (iter (fun st:Int × List (Str × Bool)=>qdW N s st.1 st.2) N (0,[]) = some (.inr false) ∧ ¬A1 s):=by
 obtain ⟨b,h1,h2⟩:=qlB (body:=fun st:Int × List (Str × Bool)=>qdW N s st.1 st.2) (fun i st=>st = ((i:Int),(s.take i).map fun x=>(x.Name,true)) ∧ A1 (s.take i)) s.length
  (fun b=>(b = .inl (s.map fun x=>(x.Name,true)) ∧ A1 s) ∨ (b = .inr false ∧ ¬A1 s)) (fun i st hi ⟨hst,hA⟩=>by
  subst hst
  obtain ⟨x,hx⟩:=qbh hi
  have hz:=hs.2 x (List.mem_of_getElem? hx)
  have bad:¬A1 (s.take (i + 1)) → ∃ b:List (Str × Bool) ⊕ Bool,(some (.inr (.inr false)):Option ((Int × List (Str × Bool)) ⊕ (List (Str × Bool) ⊕ Bool))) = some (.inr b) ∧ ((b = .inl (s.map fun x=>(x.Name,true)) ∧ A1 s) ∨ (b = .inr false ∧ ¬A1 s)):=fun h=>⟨_,rfl,.inr ⟨rfl,fun g=>h (g.sub _)⟩⟩
  rw [A1.take hx] at bad
  simp only [qdW,dk hi,cond_true,ixg hx,oBs,qjd hz.1]
  cases hw:word x.Name with
  | false=>exact .inr (bad (fun h=>by have:=h.2.1.1; rw [hw] at this; cases this))
  | true =>
   simp only [Bool.not_true,cond_false,qoZ]
   by_cases hm:x.Name ∈ (s.take i).map State.Name
   ·rw [if_pos hm]
    exact .inr (bad (fun h=>h.2.2 hm))
   ·rw [if_neg hm]
    simp only [Option.getD_none,cond_false]
    rw [show (1:Int) = ((1:Nat):Int) from rfl,show (40:Int) = ((40:Nat):Int) from rfl]
    by_cases h1:x.Rules.length < 1
    ·rw [decide_eq_true (by omega)]
     exact .inr (bad (fun h=>by have:=h.2.1.2.1; omega))
    ·rw [decide_eq_false (by omega)]
     by_cases h2:x.Rules.length > 40
     ·rw [decide_eq_true (by omega)]
      exact .inr (bad (fun h=>by have:=h.2.1.2.2; omega))
     ·rw [decide_eq_false (by omega)]
      simp only [cond_false]
      rw [qsX hm (by simp; omega)]
      refine .inl ⟨_,rfl,?_,?_⟩
      ·rw [← qet hx]; simp
      ·rw [A1.take hx]; exact ⟨hA,⟨hw,by omega,by omega⟩,hm⟩) (fun st ⟨hst,hA⟩=>by
  subst hst
  rw [List.take_length] at hA ⊢
  exact ⟨_,by simp only [qdW,dn,cond_false],.inl ⟨rfl,hA⟩⟩) N (0,[]) hs.1 ⟨by simp,by unfold A1; simp⟩
 rcases h2 with ⟨rfl,h⟩ | ⟨rfl,h⟩
 ·exact .inl ⟨h1,h⟩
 ·exact .inr ⟨h1,h⟩
theorem qrg {N:Nat} {s:List State} (hA:A1 s) {x:State} (hx:SzS N x) :
  (iter (fun st=>qey N (s.map fun x=>(x.Name,true)) x st) N 0 = some (.inl ()) ∧ ∀ r ∈ x.Rules,RlP r ∧ (r.Next = [] ∨ r.Next ∈ s.map State.Name)) ∨ (iter (fun st=>qey N (s.map fun x=>(x.Name,true)) x st) N 0 = some (.inr false) ∧ ¬∀ r ∈ x.Rules,RlP r ∧ (r.Next = [] ∨ r.Next ∈ s.map State.Name)):=by
 have hw:∀ n ∈ s.map State.Name,word n = true:=fun n hn=>by
  obtain ⟨y,hy,rfl⟩:=List.mem_map.1 hn
  exact (hA.1 y hy).1
 refine qf6 (fun r:Rule=>RlP r ∧ (r.Next = [] ∨ r.Next ∈ s.map State.Name)) x.Rules hx.2.1 (fun k r hr=>?_) (by simp only [qey,dn,cond_false])
 simp only [qey,dk (qgl hr),cond_true,ixg hr,oBs,neN]
 rcases (qoM (hx.2.2 r (List.mem_of_getElem? hr))).cases with ⟨h,p⟩ | ⟨h,p⟩
 ·rw [h]
  simp only [oBs,Bool.not_true,cond_false]
  by_cases h0:r.Next = []
  ·rw [decide_eq_true h0]
   exact .inl ⟨⟨p.1,.inl h0⟩,rfl⟩
  ·rw [decide_eq_false h0]
   simp only [Bool.not_false,cond_true,qoZ]
   by_cases hm:r.Next ∈ s.map State.Name
   ·rw [if_pos hm]
    exact .inl ⟨⟨p.1,.inr hm⟩,rfl⟩
   ·rw [if_neg hm]
    exact .inr ⟨fun h=>by rcases h.2 with h | h; exact h0 h; exact hm h,rfl⟩
 ·rw [h]
  refine .inr ⟨fun q=>p ⟨q.1,?_⟩,rfl⟩
  rcases q.2 with h | h
  ·exact .inl h
  ·exact .inr (hw _ h)
theorem qro {N:Nat} {s:List State} (hA:A1 s) (hs:Sz N s) :
  (iter (fun st=>qez N s (s.map fun x=>(x.Name,true)) st) N 0 = some (.inl ()) ∧ A2 s) ∨ (iter (fun st=>qez N s (s.map fun x=>(x.Name,true)) st) N 0 = some (.inr false) ∧ ¬A2 s):=by
 refine qf6 (fun x:State=>∀ r ∈ x.Rules,RlP r ∧ (r.Next = [] ∨ r.Next ∈ s.map State.Name)) s hs.1 (fun k x hx=>?_) (by simp only [qez,dn,cond_false])
 simp only [qez,dk (qgl hx),cond_true,ixg hx,oBs]
 rcases qrg hA (hs.2 x (List.mem_of_getElem? hx)) with ⟨h,p⟩ | ⟨h,p⟩
 ·rw [h]; exact .inl ⟨p,rfl⟩
 ·rw [h]; exact .inr ⟨p,rfl⟩
def Vl (s:List State):Prop:=Vs s ∧ (qmY s).length ≤ 8000
def SbS (s:List State):Prop:=∀ x ∈ s,∀ r ∈ x.Rules,∀ y ∈ r.Items,InB y
theorem ScOk.sb {s:List State} (h:ScOk s):SbS s:=fun x hx r hr y hy=>(((h.2 x hx).2.2 r hr).2.1.2 y hy).2.1.2
theorem qiS {N:Nat} {s:List State} (hs:Sz N s) (hb:SbS s) (hN:100 ≤ N):qbX (qgh N s) (Vl s):=by
 unfold qgh
 by_cases h1:s.length < 1
 ·rw [decide_eq_true (by omega)]
  exact .no rfl (fun h=>by have:=h.1.len; omega)
 rw [decide_eq_false (by omega)]
 by_cases h2:s.length > 20
 ·rw [decide_eq_true (by omega)]
  exact .no rfl (fun h=>by have:=h.1.len; omega)
 rw [decide_eq_false (by omega)]
 simp only [cond_false]
 rcases qrF hs (by omega) with ⟨h,hA⟩ | ⟨h,hA⟩
 ·rw [h]
  simp only [oBs,Sum.elim_inl]
  rcases qro hA hs with ⟨h,hB⟩ | ⟨h,hB⟩
  ·rw [h]
   simp only [oBs,Sum.elim_inl]
   have hv:Vs s:=qkb.2 ⟨by omega,hA,hB⟩
   rw [qpc hv hb hN]
   simp only [oBs]
   rw [show (8000:Int) = ((8000:Nat):Int) from rfl,lenb]
   exact qbX.dec.iff ⟨fun h=>⟨hv,h⟩,fun h=>h.2⟩
  ·rw [h]
   exact .no rfl (fun h=>hB (qkb.1 h.1).2.2)
 ·rw [h]
  exact .no rfl (fun h=>hA (qkb.1 h.1).2.1)
def fst (s:List State) (n:Str):Int:=match s.findIdx? (fun y=>y.Name == n) with | some k=>(k:Int) | none=>-1
theorem qmT {N:Nat} {s:List State} (n:Str) (hN:s.length < N):qcU N s n = some (fst s n):=by
 unfold qcU
 have st:∀ (k:Nat) y,s[k]? = some y → qcK N s n k = some (if y.Name == n then .inr (.inr (k:Int)) else .inl ((k:Int) + 1)):=fun k y hy=>by
  simp only [qcK,dk (qgl hy),cond_true,ixg hy,oBs]
  cases y.Name == n <;> rfl
 rw [idxf s (fun y=>y.Name == n) hN st (by simp only [qcK,dn,cond_false])]
 rfl
theorem qnZ {s:List State} {n:Str}:(fst s n < 0) ↔ n ∉ s.map State.Name:=by
 unfold fst
 cases h:s.findIdx? (fun y=>y.Name == n) with
 | none =>
  have:=List.findIdx?_eq_none_iff.1 h
  refine ⟨fun _ hm=>?_,fun _=>by decide⟩
  obtain ⟨y,hy,e⟩:=List.mem_map.1 hm
  have:=this y hy
  simp [e] at this
 | some k =>
  obtain ⟨hk,h1,_⟩:=List.findIdx?_eq_some_iff_getElem.1 h
  refine ⟨fun h=>by simp only at h; omega,fun hm=>absurd (List.mem_map.2 ⟨s[k],List.getElem_mem hk,by simpa using h1⟩) hm⟩
theorem qoY {s:List State} {k:Nat} {x:State} (hx:s[k]? = some x):fst s x.Name = (k:Int) ↔ x.Name ∉ (s.take k).map State.Name:=by
 have hlt:=qgl hx
 have hxe:s[k] = x:=by rw [List.getElem?_eq_getElem hlt] at hx; exact Option.some.inj hx
 unfold fst
 constructor
 ·intro h hm
  cases hf:s.findIdx? (fun y=>y.Name == x.Name) with
  | none=>rw [hf] at h; simp only at h; omega
  | some j =>
   rw [hf] at h
   simp only at h
   obtain rfl:j = k:=by omega
   obtain ⟨_,_,h2⟩:=List.findIdx?_eq_some_iff_getElem.1 hf
   obtain ⟨y,hy,e⟩:=List.mem_map.1 hm
   obtain ⟨i,hi,rfl⟩:=List.mem_iff_getElem.1 hy
   simp only [List.length_take] at hi
   have:=h2 i (by omega)
   rw [List.getElem_take] at e
   simp [e] at this
 ·intro hm
  have:s.findIdx? (fun y=>y.Name == x.Name) = some k:=by
   refine List.findIdx?_eq_some_iff_getElem.2 ⟨hlt,by rw [hxe]; simp,fun j hj=>?_⟩
   intro he
   refine hm (List.mem_map.2 ⟨s[j],?_,by simpa using he⟩)
   exact List.mem_iff_getElem.2 ⟨j,by simp; omega,by rw [List.getElem_take]⟩
  rw [this]
theorem qrI {N:Nat} {s:List State} (hs:Sz N s) {i:Nat} {x:State} (hx:s[i]? = some x) :
  (iter (fun st=>qcg N s i st) N 0 = some (.inl ()) ∧ ∀ r ∈ x.Rules,RlP r ∧ (r.Next = [] ∨ r.Next ∈ s.map State.Name)) ∨ (iter (fun st=>qcg N s i st) N 0 = some (.inr false) ∧ ¬∀ r ∈ x.Rules,RlP r ∧ (r.Next = [] ∨ r.Next ∈ s.map State.Name)):=by
 have hz:=hs.2 x (List.mem_of_getElem? hx)
 refine qf6 (fun r:Rule=>RlP r ∧ (r.Next = [] ∨ r.Next ∈ s.map State.Name)) x.Rules hz.2.1 (fun k r hr=>?_) (by simp only [qcg,ixg hx,oBs,dn,cond_false])
 simp only [qcg,ixg hx,dk (qgl hr),cond_true,ixg hr,oBs,neN]
 rcases (qoA (hz.2.2 r (List.mem_of_getElem? hr))).cases with ⟨h,p⟩ | ⟨h,p⟩
 ·rw [h]
  simp only [oBs,Bool.not_true,cond_false]
  by_cases h0:r.Next = []
  ·rw [decide_eq_true h0]
   exact .inl ⟨⟨p,.inl h0⟩,rfl⟩
  ·rw [decide_eq_false h0,qmT _ hs.1]
   simp only [Bool.not_false,cond_true,oBs]
   by_cases hm:fst s r.Next < 0
   ·rw [decide_eq_true hm]
    exact .inr ⟨fun h=>by rcases h.2 with h | h; exact h0 h; exact qnZ.1 hm h,rfl⟩
   ·rw [decide_eq_false hm]
    refine .inl ⟨⟨p,.inr ?_⟩,rfl⟩
    exact Classical.byContradiction fun h=>hm (qnZ.2 h)
 ·rw [h]
  exact .inr ⟨fun q=>p q.1,rfl⟩
theorem qs4 {N:Nat} {s:List State} (hs:Sz N s) :
  (iter (fun st=>qbY N s st) N 0 = some (.inl ()) ∧ A1 s ∧ A2 s) ∨ (iter (fun st=>qbY N s st) N 0 = some (.inr false) ∧ ¬(A1 s ∧ A2 s)):=by
 obtain ⟨b,h1,h2⟩:=qlB (body:=fun st=>qbY N s st) (fun i st=>st = (i:Int) ∧ A1 (s.take i) ∧ ∀ x ∈ s.take i,∀ r ∈ x.Rules,RlP r ∧ (r.Next = [] ∨ r.Next ∈ s.map State.Name)) s.length
  (fun b=>(b = .inl () ∧ A1 s ∧ A2 s) ∨ (b = .inr false ∧ ¬(A1 s ∧ A2 s))) (fun i st hi ⟨hst,hA,hB⟩=>by
  subst hst
  obtain ⟨x,hx⟩:=qbh hi
  have hz:=hs.2 x (List.mem_of_getElem? hx)
  have bad:¬A1 (s.take (i + 1)) → ∃ b:Unit ⊕ Bool,(some (.inr (.inr false)):Option (Int ⊕ (Unit ⊕ Bool))) = some (.inr b) ∧ ((b = .inl () ∧ A1 s ∧ A2 s) ∨ (b = .inr false ∧ ¬(A1 s ∧ A2 s))):=fun h=>⟨_,rfl,.inr ⟨rfl,fun g=>h (g.1.sub _)⟩⟩
  rw [A1.take hx] at bad
  simp only [qbY,dk hi,cond_true,ixg hx,oBs,qmy hz.1,qmT _ hs.1]
  cases hw:word x.Name with
  | false=>exact .inr (bad (fun h=>by have:=h.2.1.1; rw [hw] at this; cases this))
  | true =>
   simp only [Bool.not_true,cond_false]
   by_cases hm:fst s x.Name = (i:Int)
   ·have e:(fst s x.Name != (i:Int)) = false:=by rw [hm]; simp
    rw [e]
    simp only [cond_false]
    by_cases h1:x.Rules.length < 1
    ·rw [decide_eq_true (by omega)]
     exact .inr (bad (fun h=>by have:=h.2.1.2.1; omega))
    ·rw [decide_eq_false (by omega)]
     by_cases h2:x.Rules.length > 40
     ·rw [decide_eq_true (by omega)]
      exact .inr (bad (fun h=>by have:=h.2.1.2.2; omega))
     ·rw [decide_eq_false (by omega)]
      simp only [cond_false]
      rcases qrI hs hx with ⟨h,p⟩ | ⟨h,p⟩
      ·rw [h]
       refine .inl ⟨_,rfl,rfl,?_,?_⟩
       ·rw [A1.take hx]; exact ⟨hA,⟨hw,by omega,by omega⟩,(qoY hx).1 hm⟩
       ·rw [← qet hx]
        intro y hy
        rcases List.mem_append.1 hy with hy | hy
        ·exact hB y hy
        ·rw [List.mem_singleton.1 hy]; exact p
      ·rw [h]
       exact .inr ⟨_,rfl,.inr ⟨rfl,fun g=>p (g.2 x (List.mem_of_getElem? hx))⟩⟩
   ·have e:(fst s x.Name != (i:Int)) = true:=by simpa using hm
    rw [e]
    exact .inr (bad (fun h=>hm ((qoY hx).2 h.2.2)))) (fun st ⟨hst,hA,hB⟩=>by
  subst hst
  rw [List.take_length] at hA hB
  exact ⟨_,by simp only [qbY,dn,cond_false],.inl ⟨rfl,hA,hB⟩⟩) N 0 hs.1 ⟨by simp,by unfold A1; simp,by simp⟩
 rcases h2 with ⟨rfl,h⟩ | ⟨rfl,h⟩
 ·exact .inl ⟨h1,h⟩
 ·exact .inr ⟨h1,h⟩
theorem qjg {N:Nat} {s:List State} (hs:Sz N s) (hb:SbS s) (hN:100 ≤ N):qbX (qct N s) (Vl s):=by
 unfold qct
 rcases qs4 hs with ⟨h,hA,hB⟩ | ⟨h,hA⟩
 ·rw [h]
  simp only [oBs,Sum.elim_inl]
  by_cases h1:1 ≤ s.length
  ·rw [decide_eq_true (by omega)]
   by_cases h2:s.length ≤ 20
   ·rw [decide_eq_true (by omega)]
    simp only [cond_true]
    have hv:Vs s:=qkb.2 ⟨by omega,hA,hB⟩
    rw [qqm hv hb hN]
    simp only [oBs]
    rw [show (8000:Int) = ((8000:Nat):Int) from rfl,lenb]
    exact qbX.dec.iff ⟨fun h=>⟨hv,h⟩,fun h=>h.2⟩
   ·rw [decide_eq_false (by omega)]
    exact .no rfl (fun h=>h2 h.1.len.2)
  ·rw [decide_eq_false (by omega)]
   exact .no rfl (fun h=>h1 h.1.len.1)
 ·rw [h]
  exact .no rfl (fun h=>hA (qkb.1 h.1).2)
end Go.Proofs.YtllfckekodcdaaaGreatDoor
namespace Go.Proofs.YtllfckekodcdaaaGreatDoor
open Go.X
def qfQ (x:Item) (c:Nat):Bool:=x.Not != x.Ranges.any (fun g=>decide (g.From ≤ (c:Int)) && decide ((c:Int) ≤ g.To))
def hit (x:Item) (s:Str):Option Nat :=
 if x.Text = [] then (match s with | []=>none | c :: _=>if qfQ x c.toNat then some 1 else none)
 else if x.Text.isPrefixOf s then some x.Text.length else none
def run (x:Item):Nat → Str → Nat → Nat × Nat
 | 0,_,c=>(0,c)
 | f + 1,s,c=>if x.Most < 0 ∨ (c:Int) < x.Most then (match hit x s with | some k=>(k + (run x f (s.drop k) (c + 1)).1,(run x f (s.drop k) (c + 1)).2) | none=>(0,c)) else (0,c)
def runs:List Item → Str → Option Nat
 | [],_=>some 0
 | x :: l,s=>if ((run x (s.length + 1) s 0).2:Int) < x.Least then none else (runs l (s.drop (run x (s.length + 1) s 0).1)).map ((run x (s.length + 1) s 0).1 + ·)
def qcG (x:Item):Option (List Bool):=if x.Text = [] then some ((List.range 256).map (qfQ x)) else none
theorem qm1 {x:Item} {s:Str} {k:Nat} (h:hit x s = some k):1 ≤ k ∧ k ≤ s.length:=by
 unfold hit at h
 split at h
 ·cases s with
  | nil=>cases h
  | cons c s =>
   simp only at h
   split at h
   ·cases h; simp
   ·cases h
 ·rename_i h0
  split at h
  ·rename_i hp
   cases h
   have:=(List.isPrefixOf_iff_prefix.1 hp).length_le
   exact ⟨List.length_pos_iff.2 h0,this⟩
  ·cases h
theorem qpU (x:Item):∀ (f:Nat) (s:Str) (c:Nat),(run x f s c).1 ≤ s.length:=by
 intro f
 induction f with
 | zero=>intro s c; simp [run]
 | succ f ih =>
  intro s c
  unfold run
  split
  ·cases h:hit x s with
   | none=>simp
   | some k =>
    have h1:=qm1 h
    have h2:=ih (s.drop k) (c + 1)
    simp only [List.length_drop] at h2 ⊢
    omega
  ·simp
theorem qnE:∀ (l:List Item) (s:Str) (n:Nat),runs l s = some n → n ≤ s.length:=by
 intro l
 induction l with
 | nil=>intro s n h; simp [runs] at h; omega
 | cons x l ih =>
  intro s n h
  unfold runs at h
  split at h
  ·cases h
  ·cases hr:runs l (s.drop (run x (s.length + 1) s 0).1) with
   | none=>rw [hr] at h; cases h
   | some m =>
    rw [hr] at h
    have h1:=ih _ _ hr
    have h2:=qpU x (s.length + 1) s 0
    simp only [Option.map_some,Option.some.injEq] at h
    simp only [List.length_drop] at h1
    omega
theorem qtl {α β:Type} {body:Int → Option (Int ⊕ (Unit ⊕ β))} (p:α → Bool) (b:β) (xs:List α) {N:Nat} (hN:xs.length < N) (h1:∀ (k:Nat) x,xs[k]? = some x → body k = some (if p x then .inr (.inr b) else .inl ((k:Int) + 1))) (h2:body xs.length = some (.inr (.inl ()))) :
  iter body N 0 = some (if xs.any p then .inr b else .inl ()):=by
 obtain ⟨r,h3,h4⟩:=qlB (body:=body) (fun i s=>s = (i:Int) ∧ (xs.take i).any p = false) xs.length (fun r=>r = if xs.any p then .inr b else .inl ()) (fun i s hi ⟨hs,ha⟩=>by
  subst hs
  obtain ⟨x,hx⟩:=qbh hi
  rw [h1 i x hx]
  cases hp:p x with
  | true=>exact .inr ⟨_,rfl,by rw [if_pos]; exact List.any_eq_true.2 ⟨x,List.mem_of_getElem? hx,hp⟩⟩
  | false=>exact .inl ⟨_,rfl,by simp,by rw [← qet hx,List.any_append,ha]; simp [hp]⟩) (fun s ⟨hs,ha⟩=>by
  subst hs
  rw [List.take_length] at ha
  exact ⟨_,h2,by rw [ha]; rfl⟩) N 0 hN ⟨rfl,by simp⟩
 rw [h3,h4]
theorem qrt {N:Nat} {x:Item} (c:Nat) (hN:x.Ranges.length < N):qfF N x (c:Int) = some (qfQ x c):=by
 unfold qfF qfQ
 rw [qtl (fun g:Range=>decide (g.From ≤ (c:Int)) && decide ((c:Int) ≤ g.To)) (!x.Not) x.Ranges hN (fun k g hg=>by
  simp only [qeh,dk (qgl hg),cond_true,ixg hg,oBs,ge_iff_le]
  cases decide (g.From ≤ (c:Int)) <;> cases decide ((c:Int) ≤ g.To) <;> rfl) (by simp only [qeh,dn,cond_false])]
 cases x.Ranges.any (fun g=>decide (g.From ≤ (c:Int)) && decide ((c:Int) ≤ g.To)) <;> cases x.Not <;> rfl
theorem qul {c:Nat} (h:c < 256):IntKind.wrap .u8 (c:Int) = (c:Int):=qee (qlN.2 ⟨by omega,by omega⟩)
theorem qqg {N:Nat} {x:Item} {c:Nat} (hc:c < 256) (hN:x.Ranges.length < N):qbb N x.Ranges (c:Int) = some (x.Ranges.any (fun g=>decide (g.From ≤ (c:Int)) && decide ((c:Int) ≤ g.To))):=by
 unfold qbb qbz
 rw [idxf x.Ranges (fun g:Range=>decide (g.From ≤ (c:Int)) && decide ((c:Int) ≤ g.To)) hN (fun k g hg=>by
  simp only [qbc,dk (qgl hg),cond_true,ixg hg,oBs,qh3,qul hc,ge_iff_le]
  cases decide (g.From ≤ (c:Int)) <;> cases decide ((c:Int) ≤ g.To) <;> rfl) (by simp only [qbc,dn,cond_false])]
 rw [oBs]
 exact congrArg some (qnX _ _)
theorem qpv {α:Type} {l r:List α} {k:Nat} (h:l.length = k) (y z:α):setI (l ++ y :: r) (k:Int) z = some (l ++ z :: r):=by
 unfold setI
 subst h
 rw [if_pos (by simp)]
 simp
theorem qoi {α:Type} (z:α) {k n:Nat} (h:k < n):List.replicate (n - k) z = z :: List.replicate (n - (k + 1)) z:=by
 rw [show n - k = (n - (k + 1)) + 1 by omega,List.replicate_succ]
theorem qoI {N:Nat} {x:Item} (hN:x.Ranges.length < N) (h2:300 ≤ N):qh0 N x = some (some ((List.range 256).map (qfQ x))):=by
 unfold qh0
 refine (qcT (fun k:Nat=>((k:Int),(List.range k).map (qfQ x) ++ List.replicate (256 - k) false)) 256 ((List.range 256).map (qfQ x)) rfl (by omega) (fun k hk=>?_) ?_).trans rfl
 ·have e:decide ((k:Int) < 256) = true:=decide_eq_true (by omega)
  simp only [qgo,e,cond_true,qqg hk hN,oBs]
  rw [qoi false hk,ix]
  have hl:((List.range k).map (qfQ x)).length = k:=by simp
  rw [List.getElem?_append_right (by omega),hl,Nat.sub_self]
  simp only [List.getElem?_cons_zero,oBs]
  rw [qpv hl]
  simp only [oBs,List.range_succ,List.map_append,List.append_assoc]
  rfl
 ·simp [qgo]
theorem qnn {N:Nat} {l:List Item} (hs:SzL N l) (h2:300 ≤ N) (hl:l.length ≤ 1000000):qgM N l = some (l.map qcG):=by
 unfold qgM
 unfold Go.X.mk
 rw [if_pos (by unfold LIM; omega)]
 simp only [oBs,Int.toNat_natCast]
 refine (qcT (fun k:Nat=>((k:Int),(l.take k).map qcG ++ List.replicate (l.length - k) none)) l.length (l.map qcG) (by simp) hs.1 (fun k hk=>?_) ?_).trans rfl
 ·obtain ⟨x,hx⟩:=qbh hk
  simp only [qfH,dk hk,cond_true,ixg hx,oBs]
  have hl:((l.take k).map qcG).length = k:=by simp; omega
  rw [qoi none hk,← qet hx]
  by_cases h0:x.Text = []
  ·have e:(x.Text == ([]:Str)) = true:=by rw [h0]; rfl
   rw [e]
   simp only [cond_true,qoI (hs.2 x (List.mem_of_getElem? hx)).2 h2,oBs]
   rw [ix,List.getElem?_append_right (by omega),hl,Nat.sub_self]
   simp only [List.getElem?_cons_zero,oBs]
   rw [qpv hl]
   simp [qcG,h0]
  ·have e:(x.Text == ([]:Str)) = false:=by simpa using h0
   rw [e]
   simp [qcG,h0]
 ·simp [qfH]
theorem qgK {α:Type} {s:List α} {n:Nat} (h:n ≤ s.length):slc s (n:Int) (s.length:Int) = some (s.drop n):=by
 unfold slc
 rw [if_pos (by omega)]
 congr 1
 rw [Int.toNat_natCast,List.take_of_length_le]
 simp only [List.length_drop]
 omega
theorem qmj {α:Type} {s:List α} {a b:Nat} (h:a + b ≤ s.length):slc s (a:Int) ((a:Int) + (b:Int)) = some ((s.drop a).take b):=by
 unfold slc
 rw [if_pos (by omega)]
 congr 2
 omega
theorem qe7 {n:Nat} (h:n ≤ 1000000000):IntKind.wrap .i64 (n:Int) = (n:Int):=qee (qcq.2 ⟨by omega,by omega⟩)
theorem qqQ {s:Str} {n:Nat} (h:n < s.length):∃ c,s[n]? = some c ∧ s.drop n = c :: s.drop (n + 1) :=
 ⟨s[n],List.getElem?_eq_getElem h,by rw [List.drop_eq_getElem_cons h]⟩
theorem que (x:Item) (c:UInt8):idx ((List.range 256).map (qfQ x)) (c.toNat:Int) = some (qfQ x c.toNat):=by
 rw [ix]; simp [u8lt c]
theorem qrr {N:Nat} {x:Item} {s:Str} {n c:Nat} (hn:n ≤ s.length) (hl:s.length ≤ 1000000) (hc:c ≤ 1000000) :
  qe1 N x (qcG x) s n c = some (if x.Most < 0 ∨ (c:Int) < x.Most then (match hit x (s.drop n) with | some k=>.inl (((n + k:Nat):Int),((c + 1:Nat):Int)) | none=>.inr (.inr ((n:Int),decide ((c:Int) ≥ x.Least)))) else .inr (.inl ((n:Int),(c:Int)))):=by
 have hw:IntKind.wrap .i64 ((c + 1:Nat):Int) = ((c + 1:Nat):Int):=qe7 (by omega)
 have hw2:((c:Int) + 1) = ((c + 1:Nat):Int):=by omega
 by_cases h0:x.Text = []
 ·have e:(x.Text == ([]:Str)) = true:=by rw [h0]; rfl
  have e2:(x.Text != ([]:Str)) = false:=by rw [h0]; rfl
  have hb:qcG x = some ((List.range 256).map (qfQ x)):=by unfold qcG; rw [if_pos h0]
  have hh:hit x (s.drop n) = (match s.drop n with | []=>none | d :: _=>if qfQ x d.toNat then some 1 else none):=by unfold hit; rw [if_pos h0]; cases s.drop n <;> rfl
  simp only [qe1,e,e2,cond_true,cond_false,hb,oBs,hw,hw2]
  have core:∀ (A:Option ((Int × Int) ⊕ ((Int × Int) ⊕ (Int × Bool)))),A = some (match hit x (s.drop n) with | some k=>.inl (((n + k:Nat):Int),((c + 1:Nat):Int)) | none=>.inr (.inr ((n:Int),decide ((c:Int) ≥ x.Least)))) → (x.Most < 0 ∨ (c:Int) < x.Most) → A = some (if x.Most < 0 ∨ (c:Int) < x.Most then (match hit x (s.drop n) with | some k=>.inl (((n + k:Nat):Int),((c + 1:Nat):Int)) | none=>.inr (.inr ((n:Int),decide ((c:Int) ≥ x.Least)))) else .inr (.inl ((n:Int),(c:Int)))):=fun A h g=>by rw [h,if_pos g]
  have inner:(bif decide ((n:Int) < (s.length:Int)) then
    (idx s n).bind fun c25=>(idx ((List.range 256).map (qfQ x)) (c25.toNat:Int)).bind fun x37 =>
     bif x37 then some (.inl ((n:Int) + 1,((c + 1:Nat):Int))) else some (.inr (.inr ((n:Int),decide ((c:Int) ≥ x.Least))))
    else some (.inr (.inr ((n:Int),decide ((c:Int) ≥ x.Least)))):Option ((Int × Int) ⊕ ((Int × Int) ⊕ (Int × Bool)))) = some (match hit x (s.drop n) with | some k=>.inl (((n + k:Nat):Int),((c + 1:Nat):Int)) | none=>.inr (.inr ((n:Int),decide ((c:Int) ≥ x.Least)))):=by
   by_cases hlt:n < s.length
   ·obtain ⟨d,hd,hdr⟩:=qqQ hlt
    rw [hh,hdr,decide_eq_true (by omega)]
    simp only [cond_true,ixg hd,oBs,que]
    cases qfQ x d.toNat <;> rfl
   ·rw [hh,List.drop_of_length_le (by omega),decide_eq_false (by omega)]
    rfl
  by_cases hm:x.Most < 0
  ·rw [decide_eq_true hm]
   exact core _ inner (.inl hm)
  ·rw [decide_eq_false hm]
   by_cases hm2:(c:Int) < x.Most
   ·rw [decide_eq_true hm2]
    exact core _ inner (.inr hm2)
   ·rw [decide_eq_false hm2,if_neg (by omega)]
    rfl
 ·have e:(x.Text == ([]:Str)) = false:=by simpa using h0
  have e2:(x.Text != ([]:Str)) = true:=by simpa using h0
  have hh:hit x (s.drop n) = (if x.Text.isPrefixOf (s.drop n) then some x.Text.length else none):=by unfold hit; rw [if_neg h0]
  simp only [qe1,e,e2,cond_true,cond_false,qgK hn,oBs,hw,hw2,strings_HasPrefix,Lib.hasPrefix]
  have inner:(bif x.Text.isPrefixOf (s.drop n) then some (.inl (IntKind.wrap .i64 ((n:Int) + (x.Text.length:Int)),((c + 1:Nat):Int))) else some (.inr (.inr ((n:Int),decide ((c:Int) ≥ x.Least)))):Option ((Int × Int) ⊕ ((Int × Int) ⊕ (Int × Bool)))) = some (match hit x (s.drop n) with | some k=>.inl (((n + k:Nat):Int),((c + 1:Nat):Int)) | none=>.inr (.inr ((n:Int),decide ((c:Int) ≥ x.Least)))):=by
   rw [hh]
   cases hp:x.Text.isPrefixOf (s.drop n) with
   | true =>
    have:=(List.isPrefixOf_iff_prefix.1 hp).length_le
    simp only [List.length_drop] at this
    simp only [cond_true,if_true]
    rw [show (n:Int) + (x.Text.length:Int) = ((n + x.Text.length:Nat):Int) by omega,qe7 (by omega)]
   | false=>simp
  by_cases hm:x.Most < 0
  ·rw [decide_eq_true hm,if_pos (.inl hm)]
   exact inner
  ·rw [decide_eq_false hm]
   by_cases hm2:(c:Int) < x.Most
   ·rw [decide_eq_true hm2,if_pos (.inr hm2)]
    exact inner
   ·rw [decide_eq_false hm2,if_neg (by omega)]
    rfl
theorem qpX {N:Nat} {x:Item} {s:Str} (hl:s.length ≤ 1000000) (hN:s.length + 1 ≤ N) :
  qiM N x (qcG x) s = some (((run x (s.length + 1) s 0).1:Int),decide (((run x (s.length + 1) s 0).2:Int) ≥ x.Least)):=by
 unfold qiM
 have key:∀ (f M n c:Nat),s.length - n < f → f ≤ M → n ≤ s.length → c ≤ n → ((iter (fun st:Int × Int=>qe1 N x (qcG x) s st.1 st.2) M ((n:Int),(c:Int))).bind fun o9 =>
   Sum.elim (fun o9:Int × Int=>some (o9.1,(decide (o9.2 ≥ x.Least)))) (fun o9:Int × Bool=>some o9) o9) = some (((n + (run x f (s.drop n) c).1:Nat):Int),decide (((run x f (s.drop n) c).2:Int) ≥ x.Least)):=by
  intro f
  induction f with
  | zero=>intro M n c h; omega
  | succ f ih =>
   intro M n c hf hM hn hc
   obtain ⟨M,rfl⟩:∃ M',M = M' + 1:=⟨M - 1,by omega⟩
   have hb:=qrr (N:=N) (x:=x) (c:=c) hn hl (by omega)
   unfold run
   by_cases hm:x.Most < 0 ∨ (c:Int) < x.Most
   ·rw [if_pos hm] at hb ⊢
    cases hh:hit x (s.drop n) with
    | none =>
     rw [hh] at hb
     simp only [iter,hb,oBs,Sum.elim_inr]
     rfl
    | some k =>
     rw [hh] at hb
     have hk:=qm1 hh
     simp only [List.length_drop] at hk
     simp only [iter,hb]
     have:=ih M (n + k) (c + 1) (by omega) (by omega) (by omega) (by omega)
     rw [this]
     simp only [List.drop_drop,Nat.add_assoc]
   ·rw [if_neg hm] at hb ⊢
    simp only [iter,hb,oBs,Sum.elim_inl]
    rfl
 have:=key (s.length + 1) N 0 0 (by omega) hN (by omega) (by omega)
 simpa using this
theorem qoJ {N:Nat} {l:List Item} {s:Str} (hs:l.length < N) (hl:s.length ≤ 1000000) (hN:s.length + 1 ≤ N) :
  qhX N l (l.map qcG) s = some (match runs l s with | some n=>((n:Int),true) | none=>(0,false)):=by
 unfold qhX
 have key:∀ (j k M n:Nat),k + j = l.length → j < M → n ≤ s.length → ((iter (fun st:Int × Int=>qdb N l (l.map qcG) s st.1 st.2) M ((n:Int),(k:Int))).bind fun o3 =>
   Sum.elim (fun o3:Int=>some (o3,true)) (fun o3:Int × Bool=>some o3) o3) = some (match runs (l.drop k) (s.drop n) with | some m=>(((n + m:Nat):Int),true) | none=>(0,false)):=by
  intro j
  induction j with
  | zero =>
   intro k M n hk hM hn
   obtain ⟨M,rfl⟩:∃ M',M = M' + 1:=⟨M - 1,by omega⟩
   obtain rfl:k = l.length:=by omega
   simp only [iter,qdb,dn,cond_false,oBs,Sum.elim_inl,List.drop_length,runs]
   rfl
  | succ j ih =>
   intro k M n hk hM hn
   obtain ⟨M,rfl⟩:∃ M',M = M' + 1:=⟨M - 1,by omega⟩
   have hkl:k < l.length:=by omega
   obtain ⟨x,hx⟩:=qbh hkl
   have hxe:l[k] = x:=by rw [List.getElem?_eq_getElem hkl] at hx; exact Option.some.inj hx
   have hb:idx (l.map qcG) (k:Int) = some (qcG x):=by rw [ix,List.getElem?_map,hx]; rfl
   have ht:=qpX (N:=N) (x:=x) (s:=s.drop n) (by simp; omega) (by simp; omega)
   have hr:=qpU x ((s.drop n).length + 1) (s.drop n) 0
   rw [List.drop_eq_getElem_cons hkl,hxe]
   simp only [runs]
   generalize hg:run x ((s.drop n).length + 1) (s.drop n) 0 = g at ht hr ⊢
   simp only [List.length_drop] at hr
   by_cases hc:(g.2:Int) < x.Least
   ·have hbd:qdb N l (l.map qcG) s n k = some (.inr (.inr (0,false))):=by
     simp only [qdb,dk hkl,cond_true,ixg hx,hb,oBs,qgK hn,ht]
     rw [decide_eq_false (by omega)]
     rfl
    simp only [iter,hbd,if_pos hc]
    rfl
   ·have hbd:qdb N l (l.map qcG) s n k = some (.inl (((n + g.1:Nat):Int),((k + 1:Nat):Int))):=by
     simp only [qdb,dk hkl,cond_true,ixg hx,hb,oBs,qgK hn,ht]
     rw [decide_eq_true (by omega)]
     simp only [Bool.not_true,cond_false]
     rw [show (n:Int) + (g.1:Int) = ((n + g.1:Nat):Int) by omega,qe7 (by omega),show (k:Int) + 1 = ((k + 1:Nat):Int) by omega]
    simp only [iter,hbd,if_neg hc]
    have:=ih (k + 1) M (n + g.1) (by omega) (by omega) (by omega)
    rw [this,List.drop_drop]
    cases runs (l.drop (k + 1)) (s.drop (n + g.1)) with
    | none=>rfl
    | some m=>simp only [Option.map_some,Nat.add_assoc]
 have:=key l.length 0 N 0 (by omega) hs (by omega)
 simpa using this
theorem qpL {N:Nat} {x:Item} {s:Str} {n:Nat} (hn:n ≤ s.length) (hl:s.length ≤ 1000000) (hx:x.Text.length ≤ 200000000000000) (hN:x.Ranges.length < N) :
  qcu N x s n = some (match hit x (s.drop n) with | some k=>(k:Int) | none=>-1):=by
 unfold qcu
 by_cases h0:x.Text = []
 ·have e:(x.Text == ([]:Str)) = true:=by rw [h0]; rfl
  have e2:(x.Text != ([]:Str)) = false:=by rw [h0]; rfl
  have hh:hit x (s.drop n) = (match s.drop n with | []=>none | d :: _=>if qfQ x d.toNat then some 1 else none):=by unfold hit; rw [if_pos h0]; cases s.drop n <;> rfl
  simp only [e,e2,cond_true,cond_false]
  by_cases hlt:n < s.length
  ·obtain ⟨d,hd,hdr⟩:=qqQ hlt
   rw [hh,hdr,decide_eq_true (by omega)]
   simp only [cond_true,ixg hd,oBs,qrt _ hN]
   cases qfQ x d.toNat <;> rfl
  ·rw [hh,List.drop_of_length_le (by omega),decide_eq_false (by omega)]
   rfl
 ·have e:(x.Text == ([]:Str)) = false:=by simpa using h0
  have e2:(x.Text != ([]:Str)) = true:=by simpa using h0
  have hh:hit x (s.drop n) = (if x.Text.isPrefixOf (s.drop n) then some x.Text.length else none):=by unfold hit; rw [if_neg h0]
  simp only [e,e2,cond_true,cond_false]
  have hw:IntKind.wrap .i64 ((n:Int) + (x.Text.length:Int)) = (n:Int) + (x.Text.length:Int):=qee (qcq.2 ⟨by omega,by omega⟩)
  rw [hw,hh]
  by_cases hle:n + x.Text.length ≤ s.length
  ·rw [decide_eq_true (by omega),qmj hle]
   simp only [cond_true,oBs]
   cases hp:x.Text.isPrefixOf (s.drop n) with
   | true =>
    have:=List.prefix_iff_eq_take.1 (List.isPrefixOf_iff_prefix.1 hp)
    rw [← this]
    simp
   | false =>
    have:((s.drop n).take x.Text.length == x.Text) = false:=by
     rw [beq_eq_false_iff_ne]
     intro h
     have:=List.isPrefixOf_iff_prefix.2 (List.prefix_iff_eq_take.2 h.symm)
     rw [this] at hp
     cases hp
    rw [this]
    rfl
  ·rw [decide_eq_false (by omega)]
   cases hp:x.Text.isPrefixOf (s.drop n) with
   | true =>
    have:=(List.isPrefixOf_iff_prefix.1 hp).length_le
    simp only [List.length_drop] at this
    omega
   | false=>rfl
theorem qq5 {N:Nat} {x:Item} {s:Str} (hl:s.length ≤ 1000000) (hx:x.Text.length ≤ 200000000000000) (hR:x.Ranges.length < N) {n:Nat} (hn:n ≤ s.length) (hN:s.length + 1 ≤ N) :
  iter (fun st:Int × Int=>qch N s x st.1 st.2) N ((n:Int),0) = some (((n + (run x ((s.drop n).length + 1) (s.drop n) 0).1:Nat):Int),((run x ((s.drop n).length + 1) (s.drop n) 0).2:Int)):=by
 have key:∀ (f M n c:Nat),s.length - n < f → f ≤ M → n ≤ s.length → c ≤ n → (iter (fun st:Int × Int=>qch N s x st.1 st.2) M ((n:Int),(c:Int))) = some (((n + (run x f (s.drop n) c).1:Nat):Int),((run x f (s.drop n) c).2:Int)):=by
  intro f
  induction f with
  | zero=>intro M n c h; omega
  | succ f ih =>
   intro M n c hf hM hn hc
   obtain ⟨M,rfl⟩:∃ M',M = M' + 1:=⟨M - 1,by omega⟩
   have ht:=qpL (N:=N) hn hl hx hR
   have hb:qch N s x n c = some (if x.Most < 0 ∨ (c:Int) < x.Most then (match hit x (s.drop n) with | some k=>.inl (((n + k:Nat):Int),((c + 1:Nat):Int)) | none=>.inr ((n:Int),(c:Int))) else .inr ((n:Int),(c:Int))):=by
    have hw:IntKind.wrap .i64 ((c + 1:Nat):Int) = ((c + 1:Nat):Int):=qe7 (by omega)
    have hw2:((c:Int) + 1) = ((c + 1:Nat):Int):=by omega
    simp only [qch,ht,oBs,hw,hw2]
    cases hh:hit x (s.drop n) with
    | none =>
     by_cases hm:x.Most < 0
     ·rw [decide_eq_true hm,if_pos (.inl hm)]; rfl
     ·rw [decide_eq_false hm]
      by_cases hm2:(c:Int) < x.Most
      ·rw [decide_eq_true hm2,if_pos (.inr hm2)]; rfl
      ·rw [decide_eq_false hm2,if_neg (by omega)]; rfl
    | some k =>
     have hk:=qm1 hh
     simp only [List.length_drop] at hk
     simp only
     rw [show (n:Int) + (k:Int) = ((n + k:Nat):Int) by omega,qe7 (by omega),decide_eq_true (show (k:Int) ≥ 0 by omega)]
     by_cases hm:x.Most < 0
     ·rw [decide_eq_true hm,if_pos (.inl hm)]; rfl
     ·rw [decide_eq_false hm]
      by_cases hm2:(c:Int) < x.Most
      ·rw [decide_eq_true hm2,if_pos (.inr hm2)]; rfl
      ·rw [decide_eq_false hm2,if_neg (by omega)]; rfl
   unfold run
   by_cases hm:x.Most < 0 ∨ (c:Int) < x.Most
   ·rw [if_pos hm] at hb ⊢
    cases hh:hit x (s.drop n) with
    | none =>
     rw [hh] at hb
     simp only [iter,hb]
     rfl
    | some k =>
     rw [hh] at hb
     have hk:=qm1 hh
     simp only [List.length_drop] at hk
     simp only [iter,hb]
     have:=ih M (n + k) (c + 1) (by omega) (by omega) (by omega) (by omega)
     rw [this]
     simp only [List.drop_drop,Nat.add_assoc]
   ·rw [if_neg hm] at hb ⊢
    simp only [iter,hb]
    rfl
 refine key _ N n 0 ?_ ?_ hn (by omega)
 all_goals simp only [List.length_drop]; omega
theorem qpu {N:Nat} {l:List Item} {s:Str} {n:Nat} (hs:SzL N l) (hx:∀ x ∈ l,x.Text.length ≤ 200000000000000) (hn:n ≤ s.length) (hl:s.length ≤ 1000000) (hN:s.length + 1 ≤ N) :
  qeE N l s n = some (match runs l (s.drop n) with | some m=>((m:Int),true) | none=>(0,false)):=by
 unfold qeE
 rw [decide_eq_false (by omega),decide_eq_false (by omega)]
 simp only [cond_false]
 have key:∀ (j k M n0:Nat),k + j = l.length → j < M → n ≤ n0 → n0 ≤ s.length → ((iter (fun st:Int × Int=>qbL N l s st.1 st.2) M ((n0:Int),(k:Int))).bind fun o5 =>
   Sum.elim (fun o5:Int=>some ((IntKind.wrap .i64 (o5 - (n:Int))),true)) (fun o5:Int × Bool=>some o5) o5) = some (match runs (l.drop k) (s.drop n0) with | some m=>(((n0 - n + m:Nat):Int),true) | none=>(0,false)):=by
  intro j
  induction j with
  | zero =>
   intro k M n0 hk hM h1 h2
   obtain ⟨M,rfl⟩:∃ M',M = M' + 1:=⟨M - 1,by omega⟩
   obtain rfl:k = l.length:=by omega
   simp only [iter,qbL,dn,cond_false,oBs,Sum.elim_inl,List.drop_length,runs]
   rw [show (n0:Int) - (n:Int) = ((n0 - n + 0:Nat):Int) by omega,qe7 (by omega)]
  | succ j ih =>
   intro k M n0 hk hM h1 h2
   obtain ⟨M,rfl⟩:∃ M',M = M' + 1:=⟨M - 1,by omega⟩
   have hkl:k < l.length:=by omega
   obtain ⟨x,hx'⟩:=qbh hkl
   have hxe:l[k] = x:=by rw [List.getElem?_eq_getElem hkl] at hx'; exact Option.some.inj hx'
   have hm:=List.mem_of_getElem? hx'
   have ht:=qq5 (N:=N) (x:=x) hl (hx x hm) (hs.2 x hm).2 h2 hN
   have hr:=qpU x ((s.drop n0).length + 1) (s.drop n0) 0
   rw [List.drop_eq_getElem_cons hkl,hxe]
   simp only [runs]
   generalize hg:run x ((s.drop n0).length + 1) (s.drop n0) 0 = g at ht hr ⊢
   simp only [List.length_drop] at hr
   by_cases hc:(g.2:Int) < x.Least
   ·have hbd:qbL N l s n0 k = some (.inr (.inr (0,false))):=by
     simp only [qbL,dk hkl,cond_true,ixg hx',oBs,ht]
     rw [decide_eq_true hc]
     rfl
    simp only [iter,hbd,if_pos hc]
    rfl
   ·have hbd:qbL N l s n0 k = some (.inl (((n0 + g.1:Nat):Int),((k + 1:Nat):Int))):=by
     simp only [qbL,dk hkl,cond_true,ixg hx',oBs,ht]
     rw [decide_eq_false hc]
     simp only [cond_false]
     rw [show (k:Int) + 1 = ((k + 1:Nat):Int) by omega]
    simp only [iter,hbd,if_neg hc]
    have:=ih (k + 1) M (n0 + g.1) (by omega) (by omega) (by omega) (by omega)
    rw [this,List.drop_drop]
    cases runs (l.drop (k + 1)) (s.drop (n0 + g.1)) with
    | none=>rfl
    | some m =>
     simp only [Option.map_some]
     rw [show n0 + g.1 - n + m = n0 - n + (g.1 + m) by omega]
 have:=key l.length 0 N n (by omega) hs.1 (Nat.le_refl n) hn
 simpa using this
def qcY:List Rule → Str → Option (Rule × Nat)
 | [],_=>none
 | r :: rs,t=>match runs r.Items t with | some n=>if n = 0 then qcY rs t else some (r,n) | none=>qcY rs t
theorem qpD:∀ {rs:List Rule} {t:Str} {r:Rule} {n:Nat},qcY rs t = some (r,n) → r ∈ rs ∧ 1 ≤ n ∧ n ≤ t.length:=by
 intro rs
 induction rs with
 | nil=>intro t r n h; cases h
 | cons q rs ih =>
  intro t r n h
  unfold qcY at h
  cases hr:runs q.Items t with
  | none =>
   rw [hr] at h
   obtain ⟨h1,h2⟩:=ih h
   exact ⟨List.mem_cons_of_mem _ h1,h2⟩
  | some m =>
   rw [hr] at h
   simp only at h
   split at h
   ·obtain ⟨h1,h2⟩:=ih h
    exact ⟨List.mem_cons_of_mem _ h1,h2⟩
   ·cases h
    exact ⟨List.mem_cons_self ..,by omega,qnE _ _ _ hr⟩
def qiF (s:List State) (st:Int) (r:Rule):Int:=if r.Next = [] then st else fst s r.Next
def prs:Nat → List State → List (Str × Int)
 | _,[]=>[]
 | k,x :: s=>(x.Name,(k:Int)) :: prs (k + 1) s
theorem quv:∀ (k:Nat) (s:List State) (x:State),prs k (s ++ [x]) = prs k s ++ [(x.Name,((k + s.length:Nat):Int))]:=by
 intro k s
 induction s generalizing k with
 | nil=>intro x; simp [prs]
 | cons y s ih =>
  intro x
  simp only [List.cons_append,prs,ih,List.length_cons]
  rw [show k + 1 + s.length = k + (s.length + 1) by omega]
theorem quC:∀ (k:Nat) (s:List State) (n:Str),mget (prs k s) n = (s.findIdx? (fun y=>y.Name == n)).map (fun i=>((k + i:Nat):Int)):=by
 intro k s
 induction s generalizing k with
 | nil=>intro n; rfl
 | cons y s ih =>
  intro n
  unfold mget at ih ⊢
  simp only [prs,List.find?_cons,List.findIdx?_cons]
  by_cases h:y.Name = n
  ·subst h; simp
  ·have e:(n == y.Name) = false:=by simpa using fun h'=>h h'.symm
   have e2:(y.Name == n) = false:=by simpa using h
   rw [e,e2]
   simp only [Bool.false_eq_true,if_false,ih,Option.map_map]
   congr 1
   funext i
   simp only [Function.comp]
   omega
theorem quS {k:Nat} {s:List State} {n:Str} (h:n ∉ s.map State.Name):∀ p ∈ prs k s,p.1 ≠ n:=by
 induction s generalizing k with
 | nil=>intro p hp; cases hp
 | cons y s ih =>
  intro p hp
  simp only [List.map_cons,List.mem_cons,not_or] at h
  rcases List.mem_cons.1 hp with rfl | hp
  ·exact fun e=>h.1 e.symm
  ·exact ih h.2 p hp
theorem quh:∀ (k:Nat) (s:List State),(prs k s).length = s.length:=by
 intro k s
 induction s generalizing k with
 | nil=>rfl
 | cons y s ih=>simp [prs,ih]
def ltab (s:List State):List (List (List (Option (List Bool)))):=s.map fun x=>x.Rules.map fun r=>r.Items.map qcG
theorem qsm {l:List (Str × Int)} {n:Str} {v:Int} (h:∀ p ∈ l,p.1 ≠ n):mput l n v = l ++ [(n,v)]:=by
 induction l with
 | nil=>rfl
 | cons p l ih =>
  obtain ⟨a,b⟩:=p
  have e:(n == a) = false:=by simpa using fun h'=>h (a,b) (List.mem_cons_self ..) h'.symm
  unfold mput
  rw [e,ih fun q hq=>h q (List.mem_cons_of_mem _ hq)]
  rfl
theorem qq4 {N:Nat} {s:List State} (hs:Sz N s) (hv:Vs s) (hN:300 ≤ N):qgQ N s = some (Lexer.mk s (ltab s) (prs 0 s)):=by
 unfold qgQ
 refine (qcT (fun k:Nat=>((k:Int),Lexer.mk s (ltab (s.take k)) (prs 0 (s.take k)))) s.length (Lexer.mk s (ltab s) (prs 0 s)) rfl hs.1 (fun k hk=>?_) ?_).trans rfl
 ·obtain ⟨x,hx⟩:=qbh hk
  have hm:=List.mem_of_getElem? hx
  have hxe:s[k] = x:=by rw [List.getElem?_eq_getElem hk] at hx; exact Option.some.inj hx
  have hl:=hv.len
  have hr:=hv.rules x hm
  have hnot:x.Name ∉ (s.take k).map State.Name:=((A1.take hx).1 ((qkb.1 hv).2.1.sub (k + 1))).2.2
  simp only [qfr,dk hk,cond_true,ixg hx,oBs]
  have hset:mset (prs 0 (s.take k)) x.Name (k:Int) = some (prs 0 (s.take (k + 1))):=by
   unfold mset
   rw [if_pos (by rw [quh]; unfold LIM; simp; omega),qsm (quS hnot),← qet hx,quv]
   rw [show 0 + (s.take k).length = k by simp; omega]
  rw [hset]
  simp only [oBs]
  have hrow:iter (fun st:List (List (Option (List Bool))) × Int=>qer N x st.1 st.2) N ([],0) = some (x.Rules.map fun r=>r.Items.map qcG):=by
   refine qhG (fun j:Nat=>((x.Rules.take j).map (fun r=>r.Items.map qcG),(j:Int))) x.Rules.length _ rfl (fun j hj=>?_) ?_ N (hs.2 x hm).2.1
   ·obtain ⟨r,hr'⟩:=qbh hj
    have hrm:=List.mem_of_getElem? hr'
    have hi:=(hv.rl x hm r hrm).1.2.1
    simp only [qer,dk hj,cond_true,ixg hr',oBs]
    rw [qnn ((hs.2 x hm).2.2 r hrm).2.2 hN (by omega)]
    simp only [oBs]
    rw [app1 (by simp; omega),← qet hr']
    simp
   ·simp [qer]
  rw [hrow]
  simp only [oBs]
  rw [app1 (by simp [ltab]; omega),← qet hx]
  simp [ltab]
 ·simp [qfr]
theorem qre {s:List State} {n:Str} (h:n ∈ s.map State.Name):(mget (prs 0 s) n).getD 0 = fst s n:=by
 rw [quC]
 unfold fst
 cases hf:s.findIdx? (fun y=>y.Name == n) with
 | none =>
  obtain ⟨y,hy,e⟩:=List.mem_map.1 h
  have:=List.findIdx?_eq_none_iff.1 hf y hy
  simp [e] at this
 | some i=>simp
def qgE (s:List State) (st:Nat) (t:Str) (at':Nat):Option (Token × Int) :=
 match s[st]? with
 | none=>none
 | some x=>match qcY x.Rules (t.drop at') with
  | some (r,n)=>some (Token.mk r.Kind ((t.drop at').take n) at',qiF s st r)
  | none=>none
theorem qub {s:List State} {st:Nat} {x:State} (h:s[st]? = some x):idx (ltab s) (st:Int) = some (x.Rules.map fun r=>r.Items.map qcG):=by
 rw [ix]; unfold ltab; rw [List.getElem?_map,h]; rfl
theorem neE (w:Str):(w != ([]:Str)) = !decide (w = []):=by by_cases h:w = [] <;> simp [h]
theorem qou {N:Nat} {s:List State} {t:Str} {st p:Nat} (hs:Sz N s) (hv:Vs s) (hst:st < s.length) (hp:p ≤ t.length) (ht:t.length ≤ 1000000) (hN:300 ≤ N) (hN2:t.length + 1 ≤ N) :
  qfD N st t p (Lexer.mk s (ltab s) (prs 0 s)) = some (match qgE s st t p with | some (k,n)=>(k,n,true) | none=>(Token.mk [] [] 0,0,false)):=by
 obtain ⟨x,hx⟩:=qbh hst
 have hm:=List.mem_of_getElem? hx
 unfold qfD
 simp only [ixg hx,oBs]
 have key:∀ (j k M:Nat),k + j = x.Rules.length → j < M → ((iter (fun a:Int × Int=>qb8 N t p (Lexer.mk s (ltab s) (prs 0 s)) x a.1 a.2) M ((st:Int),(k:Int))).bind fun o24 =>
   Sum.elim (fun _o24:Unit=>some ((Token.mk ([]) ([]) 0),(0:Int),false)) (fun o24:Token × Int × Bool=>some o24) o24) = some (match qcY (x.Rules.drop k) (t.drop p) with | some (r,n)=>(Token.mk r.Kind ((t.drop p).take n) p,qiF s st r,true) | none=>(Token.mk [] [] 0,0,false)):=by
  intro j
  induction j with
  | zero =>
   intro k M hk hM
   obtain ⟨M,rfl⟩:∃ M',M = M' + 1:=⟨M - 1,by omega⟩
   obtain rfl:k = x.Rules.length:=by omega
   have hb:qb8 N t p (Lexer.mk s (ltab s) (prs 0 s)) x st x.Rules.length = some (.inr (.inl ())):=by simp only [qb8,dn,cond_false]
   simp only [iter,hb,List.drop_length,qcY]
   rfl
  | succ j ih =>
   intro k M hk hM
   obtain ⟨M,rfl⟩:∃ M',M = M' + 1:=⟨M - 1,by omega⟩
   have hkl:k < x.Rules.length:=by omega
   obtain ⟨r,hr⟩:=qbh hkl
   have hre:x.Rules[k] = r:=by rw [List.getElem?_eq_getElem hkl] at hr; exact Option.some.inj hr
   have hrm:=List.mem_of_getElem? hr
   have hz:=((hs.2 x hm).2.2 r hrm).2.2
   have hrow:idx (x.Rules.map fun r=>r.Items.map qcG) (k:Int) = some (r.Items.map qcG):=by rw [ix,List.getElem?_map,hr]; rfl
   have hmt:=qoJ (N:=N) (l:=r.Items) (s:=t.drop p) hz.1 (by simp; omega) (by simp; omega)
   have hnx:=(hv.rl x hm r hrm).2
   rw [List.drop_eq_getElem_cons hkl,hre]
   unfold qcY
   have hgo:qb8 N t p (Lexer.mk s (ltab s) (prs 0 s)) x st k = some (match runs r.Items (t.drop p) with | some n=>if n = 0 then .inl ((st:Int),((k + 1:Nat):Int)) else .inr (.inr (Token.mk r.Kind ((t.drop p).take n) p,qiF s st r,true)) | none=>.inl ((st:Int),((k + 1:Nat):Int))):=by
    simp only [qb8,dk hkl,cond_true,ixg hr,oBs,qub hx,hrow,qgK hp,hmt]
    cases hru:runs r.Items (t.drop p) with
    | none=>rfl
    | some n =>
     have hle:=qnE _ _ _ hru
     simp only [List.length_drop] at hle
     simp only [Bool.not_true,cond_false]
     by_cases h0:n = 0
     ·subst h0; rfl
     ·have e:(((n:Int)) == 0) = false:=by rw [beq_eq_false_iff_ne]; omega
      rw [e,if_neg h0,neE]
      simp only [cond_false]
      rw [show (p:Int) + (n:Int) = ((p + n:Nat):Int) by omega,qe7 (by omega),show ((p + n:Nat):Int) = (p:Int) + (n:Int) by omega,qmj (by omega)]
      unfold qiF
      by_cases h1:r.Next = []
      ·simp [h1]
      ·have:=qre (hnx.resolve_left h1)
       simp [h1,this]
   cases hru:runs r.Items (t.drop p) with
   | none =>
    rw [hru] at hgo
    simp only [iter,hgo]
    exact ih (k + 1) M (by omega) (by omega)
   | some n =>
    rw [hru] at hgo
    by_cases h0:n = 0
    ·simp only [if_pos h0] at hgo ⊢
     simp only [iter,hgo]
     exact ih (k + 1) M (by omega) (by omega)
    ·simp only [if_neg h0] at hgo ⊢
     simp only [iter,hgo]
     rfl
 have:=key x.Rules.length 0 N (by omega) (hs.2 x hm).2.1
 refine this.trans ?_
 unfold qgE
 rw [hx,List.drop_zero]
 simp only
 cases qcY x.Rules (t.drop p) with
 | none=>rfl
 | some q=>rfl
def TLe (s:List State):Prop:=∀ x ∈ s,∀ r ∈ x.Rules,∀ y ∈ r.Items,y.Text.length ≤ 200000000000000
theorem ScOk.tle {s:List State} (h:ScOk s):TLe s:=fun x hx r hr y hy=>by
 have:=(((h.2 x hx).2.2 r hr).2.1.2 y hy).1
 unfold reachBytes at this
 omega
theorem qpK {N:Nat} {s:List State} {t:Str} {st p:Nat} (hs:Sz N s) (hx':TLe s) (hst:st < s.length) (hp:p ≤ t.length) (ht:t.length ≤ 1000000) (hN2:t.length + 1 ≤ N) :
  ((iter (fun a:Int × Int=>qbQ N s t p a.1 a.2) N ((st:Int),0)).bind fun o12 =>
       Sum.elim (fun _o12:Unit=>some ((Token.mk ([]) ([]) 0),(0:Int),(3:Int))) (fun o12:Token × Int × Int=>some o12) o12) = some (match qgE s st t p with | some (k,n)=>(k,n,0) | none=>(Token.mk [] [] 0,0,3)):=by
 obtain ⟨x,hx⟩:=qbh hst
 have hm:=List.mem_of_getElem? hx
 have key:∀ (j k M:Nat),k + j = x.Rules.length → j < M → ((iter (fun a:Int × Int=>qbQ N s t p a.1 a.2) M ((st:Int),(k:Int))).bind fun o12 =>
   Sum.elim (fun _o12:Unit=>some ((Token.mk ([]) ([]) 0),(0:Int),(3:Int))) (fun o12:Token × Int × Int=>some o12) o12) = some (match qcY (x.Rules.drop k) (t.drop p) with | some (r,n)=>(Token.mk r.Kind ((t.drop p).take n) p,qiF s st r,0) | none=>(Token.mk [] [] 0,0,3)):=by
  intro j
  induction j with
  | zero =>
   intro k M hk hM
   obtain ⟨M,rfl⟩:∃ M',M = M' + 1:=⟨M - 1,by omega⟩
   obtain rfl:k = x.Rules.length:=by omega
   have hb:qbQ N s t p st x.Rules.length = some (.inr (.inl ())):=by simp only [qbQ,ixg hx,oBs,dn,cond_false]
   simp only [iter,hb,List.drop_length,qcY]
   rfl
  | succ j ih =>
   intro k M hk hM
   obtain ⟨M,rfl⟩:∃ M',M = M' + 1:=⟨M - 1,by omega⟩
   have hkl:k < x.Rules.length:=by omega
   obtain ⟨r,hr⟩:=qbh hkl
   have hre:x.Rules[k] = r:=by rw [List.getElem?_eq_getElem hkl] at hr; exact Option.some.inj hr
   have hrm:=List.mem_of_getElem? hr
   have hz:=((hs.2 x hm).2.2 r hrm).2.2
   have hmt:=qpu (N:=N) hz (hx' x hm r hrm) hp ht hN2
   rw [List.drop_eq_getElem_cons hkl,hre]
   unfold qcY
   have hgo:qbQ N s t p st k = some (match runs r.Items (t.drop p) with | some n=>if n = 0 then .inl ((st:Int),((k + 1:Nat):Int)) else .inr (.inr (Token.mk r.Kind ((t.drop p).take n) p,qiF s st r,0)) | none=>.inl ((st:Int),((k + 1:Nat):Int))):=by
    simp only [qbQ,ixg hx,oBs,dk hkl,cond_true,ixg hr,hmt,qmT _ hs.1]
    cases hru:runs r.Items (t.drop p) with
    | none=>rfl
    | some n =>
     have hle:=qnE _ _ _ hru
     simp only [List.length_drop] at hle
     simp only [cond_true]
     by_cases h0:n = 0
     ·subst h0; rfl
     ·rw [decide_eq_true (show (n:Int) > 0 by omega),if_neg h0,neE]
      simp only [cond_true]
      rw [show (p:Int) + (n:Int) = ((p + n:Nat):Int) by omega,qe7 (by omega),show ((p + n:Nat):Int) = (p:Int) + (n:Int) by omega,qmj (by omega)]
      unfold qiF
      by_cases h1:r.Next = []
      ·simp [h1]
      ·simp [h1]
   cases hru:runs r.Items (t.drop p) with
   | none =>
    rw [hru] at hgo
    simp only [iter,hgo]
    exact ih (k + 1) M (by omega) (by omega)
   | some n =>
    rw [hru] at hgo
    by_cases h0:n = 0
    ·simp only [if_pos h0] at hgo ⊢
     simp only [iter,hgo]
     exact ih (k + 1) M (by omega) (by omega)
    ·simp only [if_neg h0] at hgo ⊢
     simp only [iter,hgo]
     rfl
 have:=key x.Rules.length 0 N (by omega) (hs.2 x hm).2.1
 refine this.trans ?_
 unfold qgE
 rw [hx,List.drop_zero]
 simp only
 cases qcY x.Rules (t.drop p) with
 | none=>rfl
 | some q=>rfl
def qjF (s:List State) (st:Int) (t:Str) (p:Int):Token × Int × Int :=
 if st < 0 ∨ st ≥ (s.length:Int) ∨ p < 0 ∨ p > (t.length:Int) then (Token.mk [] [] 0,0,2) else if p = (t.length:Int) then (Token.mk [] [] 0,0,8) else match qgE s st.toNat t p.toNat with | some (k,n)=>(k,n,0) | none=>(Token.mk [] [] 0,0,3)
theorem qp9 {N:Nat} {s:List State} {t:Str} {st p:Int} (hs:Sz N s) (hb:SbS s) (hx:TLe s) (hv:Vl s) (ht:t.length ≤ 1000000) (hN:300 ≤ N) (hN2:t.length + 1 ≤ N) :
  qe6 N s st t p = some (qjF s st t p):=by
 unfold qe6
 rcases (qjg hs hb (by omega)).cases with ⟨h,_⟩ | ⟨_,h⟩
 rotate_left
 ·exact absurd hv h
 rw [h]
 simp only [oBs,Bool.not_true,cond_false]
 by_cases g1:st < 0
 ·rw [decide_eq_true g1]; unfold qjF; rw [if_pos (.inl g1)]; rfl
 rw [decide_eq_false g1]
 by_cases g2:st ≥ (s.length:Int)
 ·rw [decide_eq_true g2]; unfold qjF; rw [if_pos (.inr (.inl g2))]; rfl
 rw [decide_eq_false g2]
 by_cases g3:p < 0
 ·rw [decide_eq_true g3]; unfold qjF; rw [if_pos (.inr (.inr (.inl g3)))]; rfl
 rw [decide_eq_false g3]
 by_cases g4:p > (t.length:Int)
 ·rw [decide_eq_true g4]; unfold qjF; rw [if_pos (.inr (.inr (.inr g4)))]; rfl
 rw [decide_eq_false g4]
 unfold qjF
 rw [if_neg (by omega),beqd]
 by_cases g5:p = (t.length:Int)
 ·rw [if_pos g5,decide_eq_true g5]; rfl
 rw [if_neg g5,decide_eq_false g5]
 obtain ⟨a,rfl⟩:∃ a:Nat,st = (a:Int):=⟨st.toNat,by omega⟩
 obtain ⟨b,rfl⟩:∃ b:Nat,p = (b:Int):=⟨p.toNat,by omega⟩
 simp only [cond_false,Int.toNat_natCast]
 exact qpK hs hx (by omega) (by omega) ht hN2
def tks (s:List State) (t:Str):Nat → Nat → Nat → (Nat ⊕ List Token)
 | 0,_,_=>.inr []
 | f + 1,p,st=>if t.length ≤ p then .inr [] else match qgE s st t p with
  | some (k,n)=>(match tks s t f (p + k.Text.length) n.toNat with | .inr l=>.inr (k :: l) | .inl e=>.inl e)
  | none=>.inl p
theorem qrW {s:List State} {n:Str} (h:n ∈ s.map State.Name):0 ≤ fst s n ∧ fst s n < (s.length:Int):=by
 have h1:¬fst s n < 0:=fun g=>qnZ.1 g h
 refine ⟨by omega,?_⟩
 unfold fst at h1 ⊢
 cases hf:s.findIdx? (fun y=>y.Name == n) with
 | none=>rw [hf] at h1; simp only at h1 ⊢; omega
 | some k =>
  obtain ⟨hk,_⟩:=List.findIdx?_eq_some_iff_getElem.1 hf
  simp only; omega
theorem qkB {s:List State} (hv:Vs s) {st:Nat} {t:Str} {p:Nat} {k:Token} {n:Int} (h:qgE s st t p = some (k,n)) :
  k.From = (p:Int) ∧ 1 ≤ k.Text.length ∧ p + k.Text.length ≤ t.length ∧ k.Text = (t.drop p).take k.Text.length ∧ 0 ≤ n ∧ n < (s.length:Int):=by
 unfold qgE at h
 cases hx:s[st]? with
 | none=>rw [hx] at h; cases h
 | some x =>
  rw [hx] at h
  simp only at h
  cases hf:qcY x.Rules (t.drop p) with
  | none=>rw [hf] at h; cases h
  | some q =>
   obtain ⟨r,m⟩:=q
   rw [hf] at h
   simp only [Option.some.injEq,Prod.mk.injEq] at h
   obtain ⟨rfl,rfl⟩:=h
   obtain ⟨h1,h2,h3⟩:=qpD hf
   simp only [List.length_drop] at h3
   have hl:((t.drop p).take m).length = m:=by simp; omega
   have hm:=List.mem_of_getElem? hx
   simp only [hl]
   refine ⟨trivial,h2,by omega,trivial,?_⟩
   unfold qiF
   split
   ·have:=qgl hx; omega
   ·rename_i h0
    exact qrW ((hv.rl x hm r h1).2.resolve_left h0)
theorem qrP {s:List State} {t:Str} {N:Nat} (hv:Vs s) (ht:t.length ≤ 1000000) (body:List Token × Int × Int → Option ((List Token × Int × Int) ⊕ (List Token ⊕ (List Token × Int × Int))))
  (h1:∀ (l:List Token) (p st:Nat),p < t.length → st < s.length → l.length ≤ p → body (l,(p:Int),(st:Int)) = some (match qgE s st t p with | some (k,n)=>.inl (l ++ [k],((p + k.Text.length:Nat):Int),n) | none=>.inr (.inr ([],(p:Int),3))))
  (h2:∀ (l:List Token) (st:Int),body (l,(t.length:Int),st) = some (.inr (.inl l))) (h0:0 < s.length) (hN:t.length + 1 ≤ N) :
  ((iter body N ([],0,0)).bind fun o:List Token ⊕ (List Token × Int × Int)=>Sum.elim (fun o=>some (o,(0:Int),(0:Int))) (fun o=>some o) o) = some (match tks s t (t.length + 1) 0 0 with | .inr l=>(l,0,0) | .inl e=>([],(e:Int),3)):=by
 have key:∀ (f M p st:Nat) (l:List Token),t.length - p < f → f ≤ M → p ≤ t.length → st < s.length → l.length ≤ p → ((iter body M (l,(p:Int),(st:Int))).bind fun o:List Token ⊕ (List Token × Int × Int)=>Sum.elim (fun o=>some (o,(0:Int),(0:Int))) (fun o=>some o) o) = some (match tks s t f p st with | .inr l'=>(l ++ l',0,0) | .inl e=>([],(e:Int),3)):=by
  intro f
  induction f with
  | zero=>intro M p st l h; omega
  | succ f ih =>
   intro M p st l hf hM hp hst hl
   obtain ⟨M,rfl⟩:∃ M',M = M' + 1:=⟨M - 1,by omega⟩
   unfold tks
   by_cases he:t.length ≤ p
   ·obtain rfl:p = t.length:=by omega
    rw [if_pos he]
    simp only [iter,h2,List.append_nil]
    rfl
   ·rw [if_neg he]
    have hb:=h1 l p st (by omega) hst hl
    cases hq:qgE s st t p with
    | none =>
     rw [hq] at hb
     simp only [iter,hb]
     rfl
    | some q =>
     obtain ⟨k,n⟩:=q
     rw [hq] at hb
     obtain ⟨_,g2,g3,_,g5,g6⟩:=qkB hv hq
     obtain ⟨n,rfl⟩:∃ m:Nat,n = (m:Int):=⟨n.toNat,by omega⟩
     simp only at hb ⊢
     simp only [iter,hb,Int.toNat_natCast]
     have:=ih M (p + k.Text.length) n (l ++ [k]) (by omega) (by omega) (by omega) (by omega) (by simp; omega)
     rw [this]
     cases tks s t f (p + k.Text.length) n with
     | inl e=>rfl
     | inr l'=>simp
 have:=key (t.length + 1) N 0 0 [] (by omega) hN (by omega) h0 (by simp)
 simpa using this
def tokR (s:List State) (t:Str):List Token × Int × Int:=match tks s t (t.length + 1) 0 0 with | .inr l=>(l,0,0) | .inl e=>([],(e:Int),3)
theorem qkp {N:Nat} {s:List State} {t:Str} (hs:Sz N s) (hb:SbS s) (hv:Vl s) (ht:t.length ≤ 10000) (hN:300 ≤ N) (hN2:t.length + 1 ≤ N) :
  qfO N s t = some (tokR s t):=by
 unfold qfO
 rcases (qiS hs hb (by omega)).cases with ⟨h,_⟩ | ⟨_,h⟩
 rotate_left
 ·exact absurd hv h
 rw [h]
 simp only [oBs,Bool.not_true,cond_false]
 rw [decide_eq_false (by omega)]
 simp only [cond_false,qq4 hs hv.1 hN,oBs]
 refine qrP hv.1 (by omega) _ (fun l p st hp hst hl=>?_) (fun l st=>?_) (by have:=hv.1.len; omega) hN2
 ·simp only [qfU,dk hp,cond_true,qou hs hv.1 hst (by omega:p ≤ t.length) (by omega:t.length ≤ 1000000) hN hN2,oBs]
  cases hq:qgE s st t p with
  | none=>rfl
  | some q =>
   obtain ⟨k,n⟩:=q
   obtain ⟨_,g2,g3,_⟩:=qkB hv.1 hq
   simp only [Bool.not_true,cond_false]
   rw [app1 (by simp; omega),show (p:Int) + (k.Text.length:Int) = ((p + k.Text.length:Nat):Int) by omega,qe7 (by omega)]
   rfl
 ·simp only [qfU,dn,cond_false]
theorem qoO {N:Nat} {s:List State} {t:Str} (hs:Sz N s) (hb:SbS s) (hx:TLe s) (hv:Vl s) (ht:t.length ≤ 10000) (hN:300 ≤ N) (hN2:t.length + 1 ≤ N) :
  qej N s t = some (tokR s t):=by
 unfold qej
 rcases (qjg hs hb (by omega)).cases with ⟨h,_⟩ | ⟨_,h⟩
 rotate_left
 ·exact absurd hv h
 rw [h]
 simp only [oBs,Bool.not_true,cond_false]
 rw [decide_eq_false (by omega)]
 simp only [cond_false]
 refine qrP hv.1 (by omega) _ (fun l p st hp hst hl=>?_) (fun l st=>?_) (by have:=hv.1.len; omega) hN2
 ·simp only [qdq,dk hp,cond_true,qp9 hs hb hx hv (by omega:t.length ≤ 1000000) hN hN2,oBs]
  have e:qjF s (st:Int) t (p:Int) = match qgE s st t p with | some (k,n)=>(k,n,0) | none=>(Token.mk [] [] 0,0,3):=by
   unfold qjF
   rw [if_neg (by omega),if_neg (by omega)]
   simp
  rw [e]
  cases hq:qgE s st t p with
  | none=>rfl
  | some q =>
   obtain ⟨k,n⟩:=q
   obtain ⟨_,g2,g3,_⟩:=qkB hv.1 hq
   simp only
   rw [app1 (by simp; omega),show (p:Int) + (k.Text.length:Int) = ((p + k.Text.length:Nat):Int) by omega,qe7 (by omega)]
   rfl
 ·simp only [qdq,dn,cond_false]
end Go.Proofs.YtllfckekodcdaaaGreatDoor
namespace Go.Proofs.YtllfckekodcdaaaGreatDoor
open Go.X
def qaS {α σ ρ:Type} (g:σ → α → σ ⊕ ρ):List α → σ → σ ⊕ ρ
 | [],s=>.inl s
 | x :: xs,s=>match g s x with | .inl s'=>qaS g xs s' | .inr r=>.inr r
theorem qdV {α σ ρ τ β:Type} (xs:List α) (g:σ → α → σ ⊕ ρ) (body:τ → Option (τ ⊕ β)) (mk:σ → Nat → τ) (L:σ → β) (R:ρ → β) (Inv:Nat → σ → Prop) {N:Nat} (hN:xs.length < N) {s0:σ} (h0:Inv 0 s0)
  (h1:∀ (k:Nat) (x:α) (s:σ),xs[k]? = some x → Inv k s → body (mk s k) = some (match g s x with | .inl s'=>.inl (mk s' (k + 1)) | .inr r=>.inr (R r)))
  (hI:∀ (k:Nat) (x:α) (s s':σ),xs[k]? = some x → Inv k s → g s x = .inl s' → Inv (k + 1) s')
  (h2:∀ s,Inv xs.length s → body (mk s xs.length) = some (.inr (L s))) {t0:τ} (ht:mk s0 0 = t0):iter body N t0 = some (match qaS g xs s0 with | .inl s=>L s | .inr r=>R r):=by
 have key:∀ (j k M:Nat) (s:σ),k + j = xs.length → j < M → Inv k s → iter body M (mk s k) = some (match qaS g (xs.drop k) s with | .inl s=>L s | .inr r=>R r):=by
  intro j
  induction j with
  | zero =>
   intro k M s hk hM hi
   obtain ⟨M,rfl⟩:∃ M',M = M' + 1:=⟨M - 1,by omega⟩
   obtain rfl:k = xs.length:=by omega
   rw [List.drop_eq_nil_of_le (Nat.le_refl _)]
   simp only [iter,h2 s hi,qaS]
  | succ j ih =>
   intro k M s hk hM hi
   obtain ⟨M,rfl⟩:∃ M',M = M' + 1:=⟨M - 1,by omega⟩
   have hlt:k < xs.length:=by omega
   have hx:xs[k]? = some xs[k]:=List.getElem?_eq_getElem hlt
   have hb:=h1 k _ s hx hi
   rw [List.drop_eq_getElem_cons hlt,qaS]
   cases hg:g s xs[k] with
   | inl s' =>
    rw [hg] at hb
    simp only [iter,hb]
    exact ih (k + 1) M s' (by omega) (by omega) (hI k _ s s' hx hi hg)
   | inr r =>
    rw [hg] at hb
    simp only [iter,hb]
 rw [← ht]
 have:=key xs.length 0 N s0 (by omega) hN h0
 simpa using this
def qrf:Str:=[116,101,120,116]
def kEsc:Str:=[101,115,99,97,112,101]
def kStr:Str:=[115,116,114,105,110,103]
def kEnd:Str:=[101,110,100]
def litP (t:Token):Option Str :=
 if t.Kind = qrf then some t.Text else if t.Kind = kEsc then (if t.Text = [92,110] then some [10] else if t.Text = [92,116] then some [9] else if t.Text = [] then none else some (t.Text.drop 1)) else none
def litG (acc:Str) (t:Token):Str ⊕ Unit:=match litP t with | some w=>.inl (acc ++ w) | none=>.inr ()
def lit (l:List Token):Str × Bool :=
 if 2 ≤ l.length ∧ (l[0]?.map Token.Kind) = some kStr ∧ (l[l.length - 1]?.map Token.Kind) = some kEnd then (match qaS litG ((l.drop 1).take (l.length - 2)) [] with | .inl s=>(s,true) | .inr _=>([],false)) else ([],false)
theorem qpm {t:Token} {w:Str} (h:litP t = some w):w.length ≤ t.Text.length:=by
 unfold litP at h
 split at h
 ·cases h; exact Nat.le_refl _
 ·split at h
  ·split at h
   ·rename_i e; cases h; rw [e]; decide
   ·split at h
    ·rename_i e; cases h; rw [e]; decide
    ·split at h
     ·cases h
     ·cases h; simp
  ·cases h
def tsum (l:List Token):Nat:=(l.map fun t=>t.Text.length).sum
theorem qlo:∀ (l:List Token) (acc s:Str),qaS litG l acc = .inl s → s.length ≤ acc.length + tsum l
 | [],acc,s,h=>by cases h; simp [tsum]
 | t :: l,acc,s,h=>by
  rw [qaS] at h
  unfold litG at h
  cases hp:litP t with
  | none=>rw [hp] at h; cases h
  | some w =>
   rw [hp] at h
   have:=qlo l (acc ++ w) s h
   have hw:=qpm hp
   simp only [tsum,List.map_cons,List.sum_cons,List.length_append] at this ⊢
   omega
theorem qhA {l:List Token} (a b:Nat):tsum ((l.drop a).take b) ≤ tsum l:=by
 unfold tsum
 have h1:∀ (m:List Nat) (a:Nat),(m.drop a).sum ≤ m.sum:=fun m a=>by
  have:=congrArg List.sum (List.take_append_drop a m)
  rw [List.sum_append] at this; omega
 have h2:∀ (m:List Nat) (a:Nat),(m.take a).sum ≤ m.sum:=fun m a=>by
  have:=congrArg List.sum (List.take_append_drop a m)
  rw [List.sum_append] at this; omega
 rw [List.map_take,List.map_drop]
 exact Nat.le_trans (h2 _ _) (h1 _ _)
theorem quE (l:List Token):(lit l).1.length ≤ tsum l:=by
 unfold lit
 split
 ·cases h:qaS litG ((l.drop 1).take (l.length - 2)) [] with
  | inl s =>
   have:=qlo _ _ _ h
   have:=qhA (l:=l) 1 (l.length - 2)
   simp only [List.length_nil] at *
   omega
  | inr r=>simp
 ·simp
theorem qgT {l:List Token} {k:Nat} {x:Token} (h:l[k]? = some x):tsum (l.take (k + 1)) = tsum (l.take k) + x.Text.length:=by
 rw [← qet h]
 simp [tsum]
theorem qgN (l:List Token) (k:Nat):tsum (l.take k) ≤ tsum l:=by
 have:=qhA (l:=l) 0 k
 simpa using this
theorem beqS {a b:Str}:(a == b) = decide (a = b):=by by_cases h:a = b <;> simp [h]
theorem bneS {a b:Str}:(a != b) = !decide (a = b):=by by_cases h:a = b <;> simp [h]
theorem qto {N:Nat} {l t:Str} (h:l.length + t.length ≤ 4294967296):qaB N t (Builder.mk () (bld l).buf) = some ((t.length:Int),(),bld (l ++ t)):=wstr h
theorem qsf {N:Nat} {l:Str} {c:Nat} (hc:c < 256) (h:l.length < 4294967296):qaV N (c:Int) (Builder.mk () (bld l).buf) = some ((),bld (l ++ [UInt8.ofNat c])):=qns hc h
theorem slc1 {t:Str} (h:t ≠ []):slc t 1 (t.length:Int) = some (t.drop 1):=by
 have:1 ≤ t.length:=by cases t; exact absurd rfl h; simp
 exact qgK (n:=1) this
theorem qtd {N:Nat} {l:List Token} {k:Nat} {x:Token} {acc:Str} (hx:l[k]? = some x) (hb:acc.length + x.Text.length ≤ 4000000000) :
  qcD N l (k:Int) (bld acc) = some (match litG acc x with | .inl s'=>.inl (((k + 1:Nat):Int),bld s') | .inr _=>.inr (.inr ([],false))):=by
 have hlt:=(List.getElem?_eq_some_iff.1 hx).1
 unfold qcD litG litP
 rw [dk hlt,cond_true,ixg hx,oBs]
 simp only [beqS,bneS]
 by_cases h1:x.Kind = qrf
 ·rw [if_pos h1,show decide (x.Kind = ([116,101,120,116]:Str)) = true from decide_eq_true h1,cond_true,qto (by omega)]
  rfl
 ·have h1':decide (x.Kind = ([116,101,120,116]:Str)) = false:=decide_eq_false h1
  rw [if_neg h1,h1',cond_false]
  by_cases h2:x.Kind = kEsc
  ·have h2':decide (x.Kind = ([101,115,99,97,112,101]:Str)) = true:=decide_eq_true h2
   rw [if_pos h2]
   simp only [h2',cond_true]
   by_cases h3:x.Text = [92,110]
   ·rw [if_pos h3,decide_eq_true h3,cond_true,show (10:Int) = ((10:Nat):Int) from rfl,qsf (by decide) (by omega)]
    rfl
   ·rw [if_neg h3,decide_eq_false h3,cond_false]
    by_cases h4:x.Text = [92,116]
    ·rw [if_pos h4,decide_eq_true h4,cond_true,show (9:Int) = ((9:Nat):Int) from rfl,qsf (by decide) (by omega)]
     rfl
    ·rw [if_neg h4,decide_eq_false h4,cond_false]
     by_cases h5:x.Text = []
     ·rw [if_pos h5,decide_eq_true h5]
      rfl
     ·rw [if_neg h5,decide_eq_false h5,Bool.not_false,cond_true,slc1 h5,oBs,qto (by simp; omega)]
      rfl
  ·have h2':decide (x.Kind = ([101,115,99,97,112,101]:Str)) = false:=decide_eq_false h2
   rw [if_neg h2]
   simp only [h2',cond_false]
theorem qpr {acc s':Str} {x:Token} (h:litG acc x = .inl s'):s'.length ≤ acc.length + x.Text.length:=by
 unfold litG at h
 cases hp:litP x with
 | none=>rw [hp] at h; cases h
 | some w=>rw [hp] at h; cases h; have:=qpm hp; simp; omega
theorem idx0 {α:Type} (l:List α):idx l 0 = l[0]?:=ix l 0
theorem qoQ {n:Nat} (h:1 ≤ n) (h2:n ≤ 1000000000):IntKind.wrap .i64 ((n:Int) - 1) = ((n - 1:Nat):Int):=by
 rw [show (n:Int) - 1 = ((n - 1:Nat):Int) by omega]
 exact qe7 (by omega)
theorem qri {N:Nat} {l:List Token} (hN:l.length < N) (hl:l.length ≤ 1000000000) (ht:tsum l ≤ 1000000000):qfu N l = some (lit l):=by
 unfold qfu lit
 by_cases h2:2 ≤ l.length
 ·rw [decide_eq_false (by omega),cond_false]
  obtain ⟨a,ha⟩:=qbh (l:=l) (k:=0) (by omega)
  obtain ⟨z,hz⟩:=qbh (l:=l) (k:=l.length - 1) (by omega)
  rw [idx0,ha,oBs,Option.map_some,qoQ (by omega) hl,ix,hz,oBs,Option.map_some]
  simp only [bneS]
  by_cases h3:a.Kind = kStr
  ·rw [show decide (a.Kind = ([115,116,114,105,110,103]:Str)) = true from decide_eq_true h3,Bool.not_true,cond_false]
   by_cases h4:z.Kind = kEnd
   ·rw [show decide (z.Kind = ([101,110,100]:Str)) = true from decide_eq_true h4,Bool.not_true,cond_false,if_pos ⟨h2,congrArg some h3,congrArg some h4⟩]
    rw [show ((l.length - 1:Nat):Int) = ((1:Nat):Int) + ((l.length - 2:Nat):Int) by omega,show (1:Int) = ((1:Nat):Int) from rfl,qmj (by omega),oBs]
    generalize hm:(l.drop 1).take (l.length - 2) = m
    have hml:m.length ≤ l.length:=by rw [← hm]; simp; omega
    have hmt:tsum m ≤ tsum l:=by rw [← hm]; exact qhA 1 _
    rw [qdV m litG (fun s=>qcD N m s.1 s.2) (fun s k=>((k:Int),bld s)) (fun s=>.inl (bld s)) (fun _=>.inr ([],false)) (fun k s=>s.length ≤ tsum (m.take k)) (by omega) (s0:=([]:Str)) (by simp)
     (fun k x s hx hi=>by
      have h6:=qgT hx
      have h7:=qgN m (k + 1)
      rw [qtd hx (by omega)]
      cases litG s x <;> rfl)
     (fun k x s s' hx hi hg=>by rw [qgT hx]; have:=qpr hg; omega)
     (fun s hi=>by
      unfold qcD
      rw [dn,cond_false]) (t0:=(0,Builder.mk () [])) rfl,oBs]
    cases qaS litG m [] with
    | inl s=>exact congrArg (fun x=>some (x,true)) (qjQ s)
    | inr r=>rfl
   ·rw [show decide (z.Kind = ([101,110,100]:Str)) = false from decide_eq_false h4,Bool.not_false,cond_true,if_neg (fun h=>h4 (Option.some.inj h.2.2))]
  ·rw [show decide (a.Kind = ([115,116,114,105,110,103]:Str)) = false from decide_eq_false h3,Bool.not_false,cond_true,if_neg (fun h=>h3 (Option.some.inj h.2.1))]
 ·rw [decide_eq_true (by omega),cond_true,if_neg (fun h=>h2 h.1)]
structure TOk (t:Str) (l:List Token):Prop where
 len:l.length ≤ t.length
 sum:tsum l ≤ t.length
 fr:∀ k ∈ l,0 ≤ k.From ∧ k.From ≤ (t.length:Int)
 txt:∀ k ∈ l,∃ p n,k.Text = (t.drop p).take n ∧ p + n ≤ t.length ∧ k.Text.length = n
theorem qu7 {s:List State} {t:Str} (hv:Vs s):∀ (f p st:Nat) (l:List Token),tks s t f p st = .inr l → p ≤ t.length → l.length + p ≤ t.length ∧ tsum l + p ≤ t.length ∧ (∀ k ∈ l,0 ≤ k.From ∧ k.From ≤ (t.length:Int)) ∧ ∀ k ∈ l,∃ p n,k.Text = (t.drop p).take n ∧ p + n ≤ t.length ∧ k.Text.length = n:=by
 intro f
 induction f with
 | zero=>intro p st l h hp; cases h; simp [tsum]; exact hp
 | succ f ih =>
  intro p st l h hp
  unfold tks at h
  split at h
  ·cases h; simp [tsum]; exact hp
  ·cases hq:qgE s st t p with
   | none=>rw [hq] at h; cases h
   | some q =>
    obtain ⟨k,n⟩:=q
    rw [hq] at h
    simp only at h
    obtain ⟨g1,g2,g3,g4,g5,g6⟩:=qkB hv hq
    cases hr:tks s t f (p + k.Text.length) n.toNat with
    | inl e=>rw [hr] at h; cases h
    | inr l' =>
     rw [hr] at h
     cases h
     obtain ⟨i1,i2,i3,i4⟩:=ih _ _ l' hr g3
     refine ⟨by simp; omega,by simp only [tsum,List.map_cons,List.sum_cons] at i2 ⊢; omega,fun x hx=>?_,fun x hx=>?_⟩
     ·rcases List.mem_cons.1 hx with rfl | hx
      ·omega
      ·exact i3 x hx
     ·rcases List.mem_cons.1 hx with rfl | hx
      ·exact ⟨p,x.Text.length,g4,g3,rfl⟩
      ·exact i4 x hx
theorem qij {s:List State} {t:Str} (hv:Vs s):TOk t (tokR s t).1:=by
 unfold tokR
 cases h:tks s t (t.length + 1) 0 0 with
 | inl e=>exact ⟨by simp,by simp [tsum],fun k hk=>by simp at hk,fun k hk=>by simp at hk⟩
 | inr l =>
  obtain ⟨h1,h2,h3,h4⟩:=qu7 hv _ _ _ _ h (Nat.zero_le _)
  exact ⟨h1,h2,h3,h4⟩
end Go.Proofs.YtllfckekodcdaaaGreatDoor
namespace Go.Proofs.YtllfckekodcdaaaGreatDoor
open Go.X
end Go.Proofs.YtllfckekodcdaaaGreatDoor
namespace Go.Proofs.YtllfckekodcdaaaGreatDoor
open Go.X
def okC (c:Call):Prop:=c.Name ≠ [] ∧ -1 ≤ c.ID ∧ c.ID ≤ 9 ∧ -1 ≤ c.Source ∧ c.Source ≤ 9 ∧ ¬(c.ID = -1 ∧ c.Source = -1)
instance (c:Call):Decidable (okC c):=by unfold okC; infer_instance
def vcG (seen:List Str) (c:Call):List Str ⊕ Unit:=if okC c ∧ c.Name ∉ seen then .inl (seen ++ [c.Name]) else .inr ()
def VC (l:List Call):Prop:=(∀ c ∈ l,okC c) ∧ (l.map Call.Name).Nodup ∧ l.length ≤ 40
theorem qqu:∀ (l:List Call) (seen:List Str),(qaS vcG l seen = .inl (seen ++ l.map Call.Name) ∧ (∀ c ∈ l,okC c) ∧ (l.map Call.Name).Nodup ∧ ∀ c ∈ l,c.Name ∉ seen) ∨ (qaS vcG l seen = .inr () ∧ ¬((∀ c ∈ l,okC c) ∧ (l.map Call.Name).Nodup ∧ ∀ c ∈ l,c.Name ∉ seen))
 | [],seen=>.inl ⟨by simp [qaS],by simp,by simp,by simp⟩
 | c :: l,seen=>by
  rw [qaS]
  unfold vcG
  by_cases h:okC c ∧ c.Name ∉ seen
  ·rw [if_pos h]
   rcases qqu l (seen ++ [c.Name]) with ⟨h1,h2,h3,h4⟩ | ⟨h1,h2⟩
   ·refine .inl ⟨by rw [show qaS (fun seen c=>if okC c ∧ c.Name ∉ seen then (Sum.inl (seen ++ [c.Name]):List Str ⊕ Unit) else .inr ()) = qaS vcG from rfl]; simpa using h1,?_,?_,?_⟩
    ·intro x hx
     rcases List.mem_cons.1 hx with rfl | hx
     ·exact h.1
     ·exact h2 x hx
    ·rw [List.map_cons,List.nodup_cons]
     refine ⟨fun hm=>?_,h3⟩
     obtain ⟨x,hx,he⟩:=List.mem_map.1 hm
     exact h4 x hx (by rw [he]; simp)
    ·intro x hx
     rcases List.mem_cons.1 hx with rfl | hx
     ·exact h.2
     ·exact fun hs=>h4 x hx (List.mem_append_left _ hs)
   ·refine .inr ⟨h1,fun ⟨g1,g2,g3⟩=>h2 ⟨fun x hx=>g1 x (List.mem_cons_of_mem _ hx),?_,?_⟩⟩
    ·rw [List.map_cons,List.nodup_cons] at g2; exact g2.2
    ·intro x hx hs
     rw [List.map_cons,List.nodup_cons] at g2
     rcases List.mem_append.1 hs with hs | hs
     ·exact g3 x (List.mem_cons_of_mem _ hx) hs
     ·exact g2.1 (List.mem_map.2 ⟨x,hx,List.mem_singleton.1 hs⟩)
  ·rw [if_neg h]
   exact .inr ⟨rfl,fun ⟨g1,g2,g3⟩=>h ⟨g1 c (List.mem_cons_self ..),g3 c (List.mem_cons_self ..)⟩⟩
theorem qpT {l:List Call} {b:Bool} (h:b = (match qaS vcG l [] with | .inl _=>decide (l.length ≤ 40) | .inr _=>false)):(b = true ↔ VC l):=by
 rw [h]
 unfold VC
 rcases qqu l [] with ⟨h1,h2,h3,h4⟩ | ⟨h1,h2⟩
 ·rw [h1]
  exact Iff.intro (fun h=>⟨h2,h3,of_decide_eq_true h⟩) (fun h=>decide_eq_true h.2.2)
 ·rw [h1]
  exact Iff.intro (fun h=>by cases h) (fun g=>(h2 ⟨g.1,g.2.1,fun _ _=>by simp⟩).elim)
theorem qoo {s:List Str} {n:Str}:mget (s.map fun x=>(x,true)) n = if n ∈ s then some true else none:=by
 unfold mget
 induction s with
 | nil=>simp
 | cons x s ih =>
  rw [List.map_cons,List.find?_cons]
  by_cases h:n = x
  ·subst h; simp
  ·have:(n == (x,true).1) = false:=by simpa using h
   rw [this]
   simp only [List.mem_cons,h,false_or]
   exact ih
theorem qrM {s:List Str} {n:Str} (h:¬n ∈ s):mput (s.map fun x=>(x,true)) n true = (s ++ [n]).map fun x=>(x,true):=by
 induction s with
 | nil=>rfl
 | cons x s ih =>
  simp only [List.mem_cons,not_or] at h
  rw [List.map_cons,mput,if_neg (by simpa using h.1),ih h.2]
  simp
theorem qoq {s:List Str} {n:Str} (h:n ∉ s) (hl:s.length ≤ 1000000):mset (s.map fun x=>(x,true)) n true = some ((s ++ [n]).map fun x=>(x,true)):=by
 unfold mset
 rw [if_pos (by simp; unfold LIM; omega),qrM h]
theorem qqY {α:Type} (c:Call) (F A:α):(bif c.Name == ([]:Str) then F else bif decide (c.ID < -1) then F else bif decide (c.ID > 9) then F else bif decide (c.Source < -1) then F else bif decide (c.Source > 9) then F else bif c.ID == -1 then (bif c.Source == -1 then F else A) else A) = if okC c then A else F:=by
 by_cases h1:c.Name = []
 ·rw [if_neg (fun h:okC c=>h.1 h1),h1]; rfl
 ·simp only [beqS,decide_eq_false h1,cond_false]
  by_cases h2:c.ID < -1
  ·rw [decide_eq_true h2,if_neg (fun h:okC c=>by have:=h.2.1; omega),cond_true]
  ·rw [decide_eq_false h2,cond_false]
   by_cases h3:c.ID > 9
   ·rw [decide_eq_true h3,if_neg (fun h:okC c=>by have:=h.2.2.1; omega),cond_true]
   ·rw [decide_eq_false h3,cond_false]
    by_cases h4:c.Source < -1
    ·rw [decide_eq_true h4,if_neg (fun h:okC c=>by have:=h.2.2.2.1; omega),cond_true]
    ·rw [decide_eq_false h4,cond_false]
     by_cases h5:c.Source > 9
     ·rw [decide_eq_true h5,if_neg (fun h:okC c=>by have:=h.2.2.2.2.1; omega),cond_true]
     ·rw [decide_eq_false h5,cond_false]
      by_cases h8:c.ID = -1 ∧ c.Source = -1
      ·rw [beq_iff_eq.2 h8.1,cond_true,beq_iff_eq.2 h8.2,if_neg (fun h:okC c=>h.2.2.2.2.2 h8),cond_true]
      ·rw [if_pos (show okC c from ⟨h1,by omega,by omega,by omega,by omega,h8⟩)]
       by_cases g1:c.ID = -1
       ·have g2:c.Source ≠ -1:=fun g=>h8 ⟨g1,g⟩
        rw [beq_iff_eq.2 g1,beq_eq_false_iff_ne.2 g2]; rfl
       ·rw [beq_eq_false_iff_ne.2 g1]; rfl
theorem qrD {N:Nat} {l:List Call} {k:Nat} {c:Call} {seen:List Str} (hc:l[k]? = some c) (hs:seen.length ≤ 100000) :
  qdf N l (k:Int) (seen.map fun x=>(x,true)) = some (match vcG seen c with | .inl s'=>.inl (((k + 1:Nat):Int),s'.map fun x=>(x,true)) | .inr _=>.inr (.inr false)):=by
 have hlt:=(List.getElem?_eq_some_iff.1 hc).1
 unfold qdf vcG
 rw [dk hlt,cond_true,ixg hc,oBs,qoo]
 by_cases h7:c.Name ∈ seen
 ·rw [if_pos h7,if_neg (fun h:okC c ∧ ¬c.Name ∈ seen=>h.2 h7)]
  cases (c.Name == ([]:Str)) <;> rfl
 ·rw [if_neg h7,qoq h7 (by omega)]
  refine (qqY c _ _).trans ?_
  by_cases h:okC c
  ·rw [if_pos h,if_pos (show okC c ∧ ¬c.Name ∈ seen from ⟨h,h7⟩)]; rfl
  ·rw [if_neg h,if_neg (fun g:okC c ∧ ¬c.Name ∈ seen=>h g.1)]
theorem quq {seen s':List Str} {c:Call} (h:vcG seen c = .inl s'):s'.length = seen.length + 1:=by
 unfold vcG at h
 split at h
 ·cases h; simp
 ·cases h
theorem qph {N:Nat} {l:List Call} (hN:l.length < N) (hl:l.length ≤ 100000):qbX (qfl N l) (VC l):=by
 refine ⟨_,?_,qpT (l:=l) rfl⟩
 unfold qfl
 rw [qdV l vcG (fun s=>qdf N l s.1 s.2) (fun s k=>((k:Int),s.map fun x=>(x,true))) (fun _=>.inl ()) (fun _=>.inr false) (fun k s=>s.length ≤ k) hN (s0:=([]:List Str)) (by simp)
  (fun k x s hx hi=>by
   have:=(List.getElem?_eq_some_iff.1 hx).1
   rw [qrD hx (by omega)]
   cases vcG s x <;> rfl)
  (fun k x s s' hx hi hg=>by have:=quq hg; omega)
  (fun s hi=>by unfold qdf; rw [dn,cond_false]) (t0:=(0,([]:List (Str × Bool)))) rfl,oBs]
 cases qaS vcG l [] with
 | inl s=>exact congrArg some (lenb l.length 40)
 | inr r=>rfl
theorem qpV {N:Nat} {l:List Call} {i:Nat} {n:Str} {body:Int → Option (Int ⊕ (Unit ⊕ Bool))} (hi:i ≤ l.length) (hN:i < N)
  (hb:∀ k:Int,body k = bif decide (k < (i:Int)) then (idx l k).bind fun x33=>bif (x33.Name == n) then some (.inr (.inr false)) else some (.inl (k + 1)) else some (.inr (.inl ()))) :
  iter body N 0 = some (if n ∈ (l.take i).map Call.Name then .inr false else .inl ()):=by
 rcases qf6 (body:=body) (fun c:Call=>¬c.Name = n) (l.take i) (N:=N) (by simp; omega) (fun k x hx=>by
  have hk:=(List.getElem?_eq_some_iff.1 hx).1
  simp only [List.length_take] at hk
  have hx2:l[k]? = some x:=by rw [List.getElem?_take_of_lt (by omega)] at hx; exact hx
  rw [hb,dk (show k < i by omega),cond_true,ixg hx2,oBs,beqS]
  by_cases h:x.Name = n
  ·rw [decide_eq_true h]; exact .inr ⟨fun g=>g h,rfl⟩
  ·rw [decide_eq_false h]; exact .inl ⟨h,rfl⟩) (by rw [hb,List.length_take,Nat.min_eq_left hi,dn,cond_false]) with ⟨h1,h2⟩ | ⟨h1,h2⟩
 ·rw [h1,if_neg]
  intro hm
  obtain ⟨x,hx,he⟩:=List.mem_map.1 hm
  exact h2 x hx he
 ·rw [h1,if_pos]
  apply Classical.byContradiction
  intro hm
  exact h2 fun x hx he=>hm (List.mem_map.2 ⟨x,hx,he⟩)
theorem qn5 {N:Nat} {l:List Call} {k:Nat} {c:Call} (hc:l[k]? = some c) (hN:l.length < N) :
  qci N l (k:Int) = some (match vcG ((l.take k).map Call.Name) c with | .inl s'=>.inl ((k + 1:Nat):Int) | .inr _=>.inr (.inr false)):=by
 have hlt:=(List.getElem?_eq_some_iff.1 hc).1
 unfold qci vcG
 rw [dk hlt,cond_true,ixg hc,oBs]
 rw [qpV (l:=l) (i:=k) (n:=c.Name) (body:=fun s=>qeM N l (k:Int) c s) (by omega) (by omega) (fun _=>rfl),qpV (l:=l) (i:=k) (n:=c.Name) (body:=fun s=>qeN N l (k:Int) c s) (by omega) (by omega) (fun _=>rfl)]
 simp only [oBs]
 refine (qqY c _ _).trans ?_
 by_cases h:okC c
 ·rw [if_pos h]
  by_cases h7:c.Name ∈ (l.take k).map Call.Name
  ·rw [if_pos h7,if_neg (fun g:okC c ∧ ¬c.Name ∈ (l.take k).map Call.Name=>g.2 h7)]; rfl
  ·rw [if_neg h7,if_pos (show okC c ∧ ¬c.Name ∈ (l.take k).map Call.Name from ⟨h,h7⟩)]; rfl
 ·rw [if_neg h,if_neg (fun g:okC c ∧ ¬c.Name ∈ (l.take k).map Call.Name=>h g.1)]
theorem qss {N:Nat} {l:List Call} (hN:l.length < N):qbX (qeH N l) (VC l):=by
 refine ⟨_,?_,qpT (l:=l) rfl⟩
 unfold qeH
 rw [qdV l vcG (fun s=>qci N l s) (fun s k=>(k:Int)) (fun _=>.inl ()) (fun _=>.inr false) (fun k s=>s = (l.take k).map Call.Name) hN (s0:=([]:List Str)) (by simp)
  (fun k x s hx hi=>by
   rw [hi,qn5 hx hN]
   cases vcG ((l.take k).map Call.Name) x <;> rfl)
  (fun k x s s' hx hi hg=>by
   unfold vcG at hg
   split at hg
   ·cases hg; rw [hi,← qet hx]; simp
   ·cases hg)
  (fun s hi=>by unfold qci; rw [dn,cond_false]) (t0:=0) rfl,oBs]
 cases qaS vcG l [] with
 | inl s=>exact congrArg some (lenb l.length 40)
 | inr r=>rfl
theorem qrZ {N:Nat} {l:List Token} {k:Nat} {x:Token} {acc:Str} (hx:l[k]? = some x) (hk:k < l.length - 1) (hl:l.length ≤ 1000000000) (hb:acc.length + x.Text.length ≤ 1000000000) :
  qb0 N l acc (k:Int) = some (match litG acc x with | .inl s'=>.inl (s',((k + 1:Nat):Int)) | .inr _=>.inr (.inr ([],false))):=by
 unfold qb0 litG litP
 rw [qoQ (by omega) hl,dk hk,cond_true,ixg hx]
 simp only [beqS,bneS,oBs]
 by_cases h1:x.Kind = qrf
 ·rw [if_pos h1,show decide (x.Kind = ([116,101,120,116]:Str)) = true from decide_eq_true h1,cond_true,cat1 hb]
  rfl
 ·have h1':decide (x.Kind = ([116,101,120,116]:Str)) = false:=decide_eq_false h1
  rw [if_neg h1,h1',cond_false]
  by_cases h2:x.Kind = kEsc
  ·have h2':decide (x.Kind = ([101,115,99,97,112,101]:Str)) = true:=decide_eq_true h2
   rw [if_pos h2]
   simp only [h2',cond_true]
   by_cases h3:x.Text = [92,110]
   ·rw [h3] at hb
    rw [if_pos h3,decide_eq_true h3,cond_true,cat1 (by simp at hb ⊢; omega)]
    rfl
   ·rw [if_neg h3,decide_eq_false h3,cond_false]
    by_cases h4:x.Text = [92,116]
    ·rw [h4] at hb
     rw [if_pos h4,decide_eq_true h4,cond_true,cat1 (by simp at hb ⊢; omega)]
     rfl
    ·rw [if_neg h4,decide_eq_false h4,cond_false]
     by_cases h5:x.Text = []
     ·rw [if_pos h5,decide_eq_true h5]
      rfl
     ·rw [if_neg h5,decide_eq_false h5,Bool.not_false,cond_true,slc1 h5,oBs,cat1 (by simp; omega)]
      rfl
  ·have h2':decide (x.Kind = ([101,115,99,97,112,101]:Str)) = false:=decide_eq_false h2
   rw [if_neg h2]
   simp only [h2',cond_false]
theorem qp7 {N:Nat} {l:List Token} (hN:l.length < N) (hl:l.length ≤ 1000000000) (ht:tsum l ≤ 1000000000):qd4 N l = some (lit l):=by
 unfold qd4 lit
 by_cases h2:2 ≤ l.length
 ·rw [decide_eq_false (by omega),cond_false]
  obtain ⟨a,ha⟩:=qbh (l:=l) (k:=0) (by omega)
  obtain ⟨z,hz⟩:=qbh (l:=l) (k:=l.length - 1) (by omega)
  rw [idx0,ha,oBs,Option.map_some,qoQ (by omega) hl,ix,hz,oBs,Option.map_some]
  simp only [bneS]
  by_cases h3:a.Kind = kStr
  ·rw [show decide (a.Kind = ([115,116,114,105,110,103]:Str)) = true from decide_eq_true h3,Bool.not_true,cond_false]
   by_cases h4:z.Kind = kEnd
   ·rw [show decide (z.Kind = ([101,110,100]:Str)) = true from decide_eq_true h4,Bool.not_true,cond_false,if_pos ⟨h2,congrArg some h3,congrArg some h4⟩]
    generalize hm:(l.drop 1).take (l.length - 2) = m
    have hml:m.length = l.length - 2:=by rw [← hm]; simp; omega
    have hmt:tsum m ≤ tsum l:=by rw [← hm]; exact qhA 1 _
    have hmx:∀ k x,m[k]? = some x → l[k + 1]? = some x ∧ k < l.length - 2:=fun k x hx=>by
     have hk:=(List.getElem?_eq_some_iff.1 hx).1
     rw [← hm,List.getElem?_take_of_lt (by omega),List.getElem?_drop] at hx
     rw [Nat.add_comm] at hx
     exact ⟨hx,by omega⟩
    rw [qdV m litG (fun s=>qb0 N l s.1 s.2) (fun s k=>(s,((k + 1:Nat):Int))) (fun s=>.inl s) (fun _=>.inr ([],false)) (fun k s=>s.length ≤ tsum (m.take k)) (by omega) (s0:=([]:Str)) (by simp)
     (fun k x s hx hi=>by
      obtain ⟨g1,g2⟩:=hmx k x hx
      have h6:=qgT hx
      have h7:=qgN m (k + 1)
      rw [qrZ (acc:=s) g1 (by omega) hl (by omega)]
      cases litG s x <;> rfl)
     (fun k x s s' hx hi hg=>by rw [qgT hx]; have:=qpr hg; omega)
     (fun s hi=>by
      unfold qb0
      rw [qoQ (by omega) hl,decide_eq_false (by omega),cond_false]) (t0:=(([]:Str),1)) rfl,oBs]
    cases qaS litG m [] <;> rfl
   ·rw [show decide (z.Kind = ([101,110,100]:Str)) = false from decide_eq_false h4,Bool.not_false,cond_true,if_neg (fun h=>h4 (Option.some.inj h.2.2))]
  ·rw [show decide (a.Kind = ([115,116,114,105,110,103]:Str)) = false from decide_eq_false h3,Bool.not_false,cond_true,if_neg (fun h=>h3 (Option.some.inj h.2.1))]
 ·rw [decide_eq_true (by omega),cond_true,if_neg (fun h=>h2 h.1)]
def FewP (calls:List Call) (files:List File):Prop:=(∀ f ∈ files,f.Text.length ≤ 400 ∧ f.Name.length ≤ 200) ∧ (∀ c ∈ calls,c.Name.length ≤ 100) ∧ calls.length ≤ 45 ∧ files.length ≤ 6
theorem qvB {N:Nat} {calls:List Call} {files:List File} (h1:calls.length < N) (h2:files.length < N):qbX (qfJ N calls files) (FewP calls files):=by
 unfold qfJ FewP
 rcases qf6 (body:=fun s=>qdp N files s) (fun f:File=>f.Text.length ≤ 400 ∧ f.Name.length ≤ 200) files h2 (fun k x hx=>by
  simp only [qdp]
  rw [dk (List.getElem?_eq_some_iff.1 hx).1,cond_true,ixg hx]
  simp only [oBs]
  by_cases g1:x.Text.length ≤ 400
  ·rw [decide_eq_false (show ¬((x.Text.length:Int) > 400) by omega),cond_false]
   by_cases g2:x.Name.length ≤ 200
   ·rw [decide_eq_false (show ¬((x.Name.length:Int) > 200) by omega)]; exact .inl ⟨⟨g1,g2⟩,rfl⟩
   ·rw [decide_eq_true (show ((x.Name.length:Int) > 200) by omega)]; exact .inr ⟨fun h=>g2 h.2,rfl⟩
  ·rw [decide_eq_true (show ((x.Text.length:Int) > 400) by omega)]; exact .inr ⟨fun h=>g1 h.1,rfl⟩) (by simp only [qdp]; rw [dn,cond_false]) with ⟨e1,p1⟩ | ⟨e1,p1⟩
 rotate_left
 ·rw [e1]; exact qbX.no rfl fun h=>p1 h.1
 rw [e1,oBs,Sum.elim_inl]
 rcases qf6 (body:=fun s=>qdi N calls s) (fun f:Call=>f.Name.length ≤ 100) calls h1 (fun k x hx=>by
  simp only [qdi]
  rw [dk (List.getElem?_eq_some_iff.1 hx).1,cond_true,ixg hx]
  simp only [oBs]
  by_cases g1:x.Name.length ≤ 100
  ·rw [decide_eq_false (show ¬((x.Name.length:Int) > 100) by omega)]; exact .inl ⟨g1,rfl⟩
  ·rw [decide_eq_true (show ((x.Name.length:Int) > 100) by omega)]; exact .inr ⟨g1,rfl⟩) (by simp only [qdi]; rw [dn,cond_false]) with ⟨e2,p2⟩ | ⟨e2,p2⟩
 rotate_left
 ·rw [e2]; exact qbX.no rfl fun h=>p2 h.2.1
 rw [e2,oBs,Sum.elim_inl]
 by_cases h3:calls.length ≤ 45
 ·rw [decide_eq_true (show (calls.length:Int) ≤ 45 by omega),cond_true]
  by_cases h4:files.length ≤ 6
  ·rw [decide_eq_true (show (files.length:Int) ≤ 6 by omega)]; exact qbX.yes rfl ⟨p1,p2,h3,h4⟩
  ·rw [decide_eq_false (show ¬(files.length:Int) ≤ 6 by omega)]; exact qbX.no rfl fun h=>h4 h.2.2.2
 ·rw [decide_eq_false (show ¬(calls.length:Int) ≤ 45 by omega)]; exact qbX.no rfl fun h=>h3 h.2.2.1
theorem qrG {N:Nat} {l:List Call} (hN:l.length < N) (hl:l.length ≤ 1000000):qeo N l = some l:=by
 unfold qeo
 rw [qhG (fun k=>(l.take k,(k:Int))) l.length l (s0:=(([]:List Call),(0:Int))) rfl (fun i hi=>by
  simp only [qen]
  obtain ⟨x,hx⟩:=qbh hi
  rw [dk hi,cond_true,ixg hx,oBs,app1 (by simp; omega),oBs,qet hx]
  rfl) (by simp only [qen]; rw [dn,cond_false,List.take_length]) N hN]
 rfl
theorem qsU {N:Nat} {l:List File} (hN:l.length < N) (hl:l.length ≤ 1000000):qeL N l = some l:=by
 unfold qeL
 rw [qhG (fun k=>(l.take k,(k:Int))) l.length l (s0:=(([]:List File),(0:Int))) rfl (fun i hi=>by
  simp only [qdD]
  obtain ⟨x,hx⟩:=qbh hi
  rw [dk hi,cond_true,ixg hx,oBs,app1 (by simp; omega),oBs,qet hx]
  rfl) (by simp only [qdD]; rw [dn,cond_false,List.take_length]) N hN]
 rfl
set_option maxRecDepth 1000000 in
theorem qrb (n:Nat):qfP (n + 300) = some true:=by kernel_rfl
end Go.Proofs.YtllfckekodcdaaaGreatDoor
