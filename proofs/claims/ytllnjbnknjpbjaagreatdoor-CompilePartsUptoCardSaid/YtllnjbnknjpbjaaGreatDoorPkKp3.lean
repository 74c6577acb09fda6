/- Texts of this proof, put together by pack.py: what its declarations name. -/
import Derived.Test.YtllnjbnknjpbjaaGreatDoorPkKp2
import Derived.Test.YtllnjbnknjpbjaaGreatDoorCards
import Derived.Test.YtllnjbnknjpbjaaGreatDoorChecked
import Derived.Test.YtllnjbnknjpbjaaGreatDoorProg
import Derived.Test.YtllnjbnknjpbjaaGreatDoorRows
import Derived.Test.YtllnjbnknjpbjaaGreatDoorTie
set_option linter.unusedVariables false
set_option linter.unusedSimpArgs false
namespace Go.Proofs.YtllnjbnknjpbjaaGreatDoor
open Go.X
variable {u:World} {m0:Mem} {S:Segs} {w:World}
set_option maxHeartbeats 4000000
set_option maxRecDepth 100000
def qeN:List MapEntry:=[⟨.string (bs [110,117,109,98,101,114]),.int .i64 3,0⟩,⟨.string (bs [117,110,105,116]),.int .i64 4,1⟩,⟨.string (bs [100,97,116,101]),.int .i64 5,2⟩,⟨.string (bs [108,105,115,116]),.int .i64 6,3⟩,⟨.string (bs [112,108,117,114,97,108]),.int .i64 7,4⟩,⟨.string (bs [111,114,100,105,110,97,108]),.int .i64 8,5⟩,⟨.string (bs [115,101,108,101,99,116]),.int .i64 9,6⟩]
def ust (k n:Int) (seen:Array Nat) (q:Int):Prop:=q = match uhit k with | some (b,l)=>bif seen.contains b then IntKind.wrap .i64 (n + IntKind.wrap .i64 ((2:Int) + (l:Int))) else n | none=>n
theorem qr4 {k n:Int}:ust k n #[] n:=by
 unfold ust
 cases uhit k with
 | none=>rfl
 | some p=>obtain ⟨b,l⟩:=p; simp
theorem qpP {k:Int} {b l:Nat} (h:uhit k = some (b,l)):∃ e ∈ qeN,e.born = b ∧ e.val = .int .i64 k ∧ ∃ s,e.key = .string (bs s) ∧ s.length = l:=by
 unfold uhit at h
 split at h
 ·rename_i hk
  cases h
  exact ⟨⟨.string (bs [110,117,109,98,101,114]),.int .i64 3,0⟩,by simp [qeN],rfl,by rw [hk],[110,117,109,98,101,114],rfl,rfl⟩
 split at h
 ·rename_i hk
  cases h
  exact ⟨⟨.string (bs [117,110,105,116]),.int .i64 4,1⟩,by simp [qeN],rfl,by rw [hk],[117,110,105,116],rfl,rfl⟩
 split at h
 ·rename_i hk
  cases h
  exact ⟨⟨.string (bs [100,97,116,101]),.int .i64 5,2⟩,by simp [qeN],rfl,by rw [hk],[100,97,116,101],rfl,rfl⟩
 split at h
 ·rename_i hk
  cases h
  exact ⟨⟨.string (bs [108,105,115,116]),.int .i64 6,3⟩,by simp [qeN],rfl,by rw [hk],[108,105,115,116],rfl,rfl⟩
 split at h
 ·rename_i hk
  cases h
  exact ⟨⟨.string (bs [112,108,117,114,97,108]),.int .i64 7,4⟩,by simp [qeN],rfl,by rw [hk],[112,108,117,114,97,108],rfl,rfl⟩
 split at h
 ·rename_i hk
  cases h
  exact ⟨⟨.string (bs [111,114,100,105,110,97,108]),.int .i64 8,5⟩,by simp [qeN],rfl,by rw [hk],[111,114,100,105,110,97,108],rfl,rfl⟩
 split at h
 ·rename_i hk
  cases h
  exact ⟨⟨.string (bs [115,101,108,101,99,116]),.int .i64 9,6⟩,by simp [qeN],rfl,by rw [hk],[115,101,108,101,99,116],rfl,rfl⟩
 cases h
theorem qq0 {k n q:Int} {seen:Array Nat} (h:ust k n seen q) (hall:∀ e ∈ qeN,seen.contains e.born = true):q = qf0 k n:=by
 unfold ust at h
 unfold qf0
 cases hk:uhit k with
 | none=>rw [hk] at h; exact h
 | some p =>
  obtain ⟨b,l⟩:=p
  rw [hk] at h
  obtain ⟨e,he,hb,_⟩:=qpP hk
  have:=hall e he
  rw [hb] at this
  simp only [this,cond_true] at h
  exact h
theorem qnG:(qeN.map (·.born)).Nodup:=by decide
theorem qpR {e:MapEntry} (he:e ∈ qeN):∃ s v,e.key = .string (bs s) ∧ e.val = .int .i64 v ∧ s.length ≤ LIMS ∧ InR .i64 v ∧ uhit v = some (e.born,s.length) ∧ ∀ k l,uhit k = some (e.born,l) → k = v:=by
 simp only [qeN,List.mem_cons,List.not_mem_nil,or_false] at he
 rcases he with rfl | rfl | rfl | rfl | rfl | rfl | rfl
 ·refine ⟨[110,117,109,98,101,114],3,rfl,rfl,by decide,by decide,by decide,fun k l h=>?_⟩
  unfold uhit at h
  repeat (split at h; · rename_i hk; first | exact hk | (simp at h))
  cases h
 ·refine ⟨[117,110,105,116],4,rfl,rfl,by decide,by decide,by decide,fun k l h=>?_⟩
  unfold uhit at h
  repeat (split at h; · rename_i hk; first | exact hk | (simp at h))
  cases h
 ·refine ⟨[100,97,116,101],5,rfl,rfl,by decide,by decide,by decide,fun k l h=>?_⟩
  unfold uhit at h
  repeat (split at h; · rename_i hk; first | exact hk | (simp at h))
  cases h
 ·refine ⟨[108,105,115,116],6,rfl,rfl,by decide,by decide,by decide,fun k l h=>?_⟩
  unfold uhit at h
  repeat (split at h; · rename_i hk; first | exact hk | (simp at h))
  cases h
 ·refine ⟨[112,108,117,114,97,108],7,rfl,rfl,by decide,by decide,by decide,fun k l h=>?_⟩
  unfold uhit at h
  repeat (split at h; · rename_i hk; first | exact hk | (simp at h))
  cases h
 ·refine ⟨[111,114,100,105,110,97,108],8,rfl,rfl,by decide,by decide,by decide,fun k l h=>?_⟩
  unfold uhit at h
  repeat (split at h; · rename_i hk; first | exact hk | (simp at h))
  cases h
 ·refine ⟨[115,101,108,101,99,116],9,rfl,rfl,by decide,by decide,by decide,fun k l h=>?_⟩
  unfold uhit at h
  repeat (split at h; · rename_i hk; first | exact hk | (simp at h))
  cases h
theorem qqx {k n q v:Int} {seen:Array Nat} {e:MapEntry} {s:List UInt8} (h:ust k n seen q) (hne:seen.contains e.born = false) (hu:uhit v = some (e.born,s.length)) (hk:v = k):ust k n (seen.push e.born) (IntKind.wrap .i64 (q + IntKind.wrap .i64 ((2:Int) + (s.length:Int)))):=by
 subst hk
 unfold ust at h ⊢
 rw [hu] at h ⊢
 simp only [hne,cond_false] at h
 subst h
 simp
theorem qpW {k n q v:Int} {seen:Array Nat} {e:MapEntry} (h:ust k n seen q) (hu:∀ k l,uhit k = some (e.born,l) → k = v) (hk:v ≠ k):ust k n (seen.push e.born) q:=by
 unfold ust at h ⊢
 cases hh:uhit k with
 | none=>rw [hh] at h; exact h
 | some p =>
  obtain ⟨b,l⟩:=p
  rw [hh] at h
  have hb:b ≠ e.born:=fun e0=>hk (hu k l (by rw [hh,e0])).symm
  simp only [Array.contains_push]
  rw [show (b == e.born) = false by simpa using hb,Bool.or_false]
  exact h
theorem qoC {k n:Int} (h:InR .i64 n):InR .i64 (qf0 k n):=by
 unfold qf0
 cases uhit k with
 | none=>exact h
 | some p=>exact InR.wrap _ _
theorem qmL (ok:Ok u m0 S w):Calls Tryz.prog 93 [].toArray w fun e w'=>∃ b,e = .returned (.map (some b)) ∧ Ok u m0 ([(b,Obj.map qeN.toArray 7)] :: S) w':=by
 refine enter Tryz.func93 rfl rfl rfl fun a E=>sg<|aw E rfl fun a E=>sg<|qoy E ok rfl rfl fun b a w E ok=>qjF (KR:=kS) (R:=fun _ _ (_:Unit)=>True) (k:=[110,117,109,98,101,114]) (x:=()) (l0:=[]) E ok 0 (qdV Tryz.underlying9) Tryz.underlying149 rfl trivial (by decide) rfl rfl rfl ⟨rfl,by decide⟩ (by decide) rfl fun w ok=>qjF (KR:=kS) (R:=fun _ _ (_:Unit)=>True) (k:=[117,110,105,116]) (x:=()) (l0:=[([110,117,109,98,101,114],())]) E ok 0 (qdV Tryz.underlying9) Tryz.underlying149 rfl ⟨⟨rfl,by decide⟩,trivial,trivial⟩ (by decide) rfl rfl rfl ⟨rfl,by decide⟩ (by decide) rfl fun w ok=>qjF (KR:=kS) (R:=fun _ _ (_:Unit)=>True) (k:=[100,97,116,101]) (x:=()) (l0:=[([110,117,109,98,101,114],()),([117,110,105,116],())]) E ok 0 (qdV Tryz.underlying9) Tryz.underlying149 rfl ⟨⟨rfl,by decide⟩,trivial,⟨rfl,by decide⟩,trivial,trivial⟩ (by decide) rfl rfl rfl ⟨rfl,by decide⟩ (by decide) rfl fun w ok=>qjF (KR:=kS) (R:=fun _ _ (_:Unit)=>True) (k:=[108,105,115,116]) (x:=()) (l0:=[([110,117,109,98,101,114],()),([117,110,105,116],()),([100,97,116,101],())]) E ok 0 (qdV Tryz.underlying9) Tryz.underlying149 rfl ⟨⟨rfl,by decide⟩,trivial,⟨rfl,by decide⟩,trivial,⟨rfl,by decide⟩,trivial,trivial⟩ (by decide) rfl rfl rfl ⟨rfl,by decide⟩ (by decide) rfl fun w ok=>qjF (KR:=kS) (R:=fun _ _ (_:Unit)=>True) (k:=[112,108,117,114,97,108]) (x:=()) (l0:=[([110,117,109,98,101,114],()),([117,110,105,116],()),([100,97,116,101],()),([108,105,115,116],())]) E ok 0 (qdV Tryz.underlying9) Tryz.underlying149 rfl ⟨⟨rfl,by decide⟩,trivial,⟨rfl,by decide⟩,trivial,⟨rfl,by decide⟩,trivial,⟨rfl,by decide⟩,trivial,trivial⟩ (by decide) rfl rfl rfl ⟨rfl,by decide⟩ (by decide) rfl fun w ok=>qjF (KR:=kS) (R:=fun _ _ (_:Unit)=>True) (k:=[111,114,100,105,110,97,108]) (x:=()) (l0:=[([110,117,109,98,101,114],()),([117,110,105,116],()),([100,97,116,101],()),([108,105,115,116],()),([112,108,117,114,97,108],())]) E ok 0 (qdV Tryz.underlying9) Tryz.underlying149 rfl ⟨⟨rfl,by decide⟩,trivial,⟨rfl,by decide⟩,trivial,⟨rfl,by decide⟩,trivial,⟨rfl,by decide⟩,trivial,⟨rfl,by decide⟩,trivial,trivial⟩ (by decide) rfl rfl rfl ⟨rfl,by decide⟩ (by decide) rfl fun w ok=>qjF (KR:=kS) (R:=fun _ _ (_:Unit)=>True) (k:=[115,101,108,101,99,116]) (x:=()) (l0:=[([110,117,109,98,101,114],()),([117,110,105,116],()),([100,97,116,101],()),([108,105,115,116],()),([112,108,117,114,97,108],()),([111,114,100,105,110,97,108],())]) E ok 0 (qdV Tryz.underlying9) Tryz.underlying149 rfl ⟨⟨rfl,by decide⟩,trivial,⟨rfl,by decide⟩,trivial,⟨rfl,by decide⟩,trivial,⟨rfl,by decide⟩,trivial,⟨rfl,by decide⟩,trivial,⟨rfl,by decide⟩,trivial,trivial⟩ (by decide) rfl rfl rfl ⟨rfl,by decide⟩ (by decide) rfl fun w ok=>mv E rfl fun a E=>aw E rfl fun a E=>wp_ret ?_
 exact qbO [.t 0 (.map (some b))] E.d rfl (rz E rfl) ⟨b,rfl,ok⟩
def qlE (u:World) (m0:Mem) (S:Segs) (r:Int) (a:Act) (w:World):Prop :=
 Ok u m0 S w ∧ a.defers = [] ∧ RVs Tryz.prog a w [.t 2 (.int .i64 r)] ∧ InR .i64 r
def qfX (N:Nat):Prop:=∀ {u:World} {m0:Mem} {S:Segs} {w:World} (vparts_0:Value) (parts_0:List (Part)) (hparts_0:(pL 6 qa0) m0 [vparts_0] parts_0) {r:Int} (hF:qdh N parts_0 = some r) (hG:Glob u) (ok:Ok u m0 S w),Calls Tryz.prog 68 [vparts_0].toArray w fun e w'=>(e = .returned (.int .i64 r) ∧ Ok u m0 S w') ∧ InR .i64 r
theorem qky (N:Nat) (ih_syntax_length:qfX N):qfX (N + 1):=by
 intro u m0 S w vparts_0 parts_0 hparts_0 r hF hG ok
 have hF0:qer (qdh N) N parts_0 = some r:=hF
 have hF:=hF0
 clear hF0
 unfold qer at hF
 refine en (qlE u m0 S) r Tryz.func68 rfl rfl rfl (fun _ _ h=>rb h rfl) fun fin a E=>sg<|aw E rfl fun a E=>sg<|aw E rfl fun a E=>wp_seq<|sg<|mv E rfl fun a E=>lv E ok (qaQ qbc hparts_0 rfl) fun a E=>mv E rfl fun a E=>wn<|wp_block<|bd hF fun o3 hL hF=>qa9 _ (fun (s:Int × Int) a w=>Ok u m0 (S) w ∧ Env 108 a [(3,vi s.1),(10,vparts_0),(11,(vi (parts_0.length:Int))),(12,vi s.2)] ∧ InR .i64 s.1 ∧ InR .i64 s.2) (fun (b:Int) e a w=>e = (.exit 0) ∧ Ok u m0 (S) w ∧ Env 108 a [(3,vi b)] ∧ InR .i64 b) ?_ ?_ N _ a w hL ⟨ok,E.keep [3,10,11,12],(ir 0),(ir 0)⟩
 rotate_left
 ·intro e a w _ hO
  obtain ⟨rfl,ok,E,r79⟩:=hO
  refine qbm<|qaa<|sg<|mv E rfl fun a E=>aw E rfl fun a E=>wp_ret ?_
  exact fin hF ⟨ok,E.d,rz E rfl,r79⟩
 rintro ⟨v6,v7⟩ a w r ⟨ok,E,r8,r9⟩ hF
 replace hF:qed (qdh N) N parts_0 v6 v7 = some r:=hF
 unfold qed at hF
 refine sg<|lw E (qaO rfl rfl) fun a E=>wn<|wp_seq<|cg E rfl hF (fun c10 hF=>?_) fun c10 hF=>?_
 ·refine wp_exit<|qaU ?_
  cases hF
  exact so (⟨rfl,⟨ok,E.keep [3],r8⟩⟩)
 refine wp_skip<|qaa<|wp_seq<|wp_block<|sg ?_
 obtain ⟨x11,e12,hF⟩:=bnd hF
 obtain ⟨b13,o14,es15,hl16,rr17,at18,yy19⟩:=ia E 10 12 qbc hparts_0 e12
 obtain ⟨c24,c26,rfl,r20,l21,l22,l23,h25,h27⟩:=(qaK.1 rr17)
 refine lv E ok (yy19 _ _) fun a E=>lv E ok (qas (cs:=[vi x11.Kind,vs x11.Text,vs x11.Name,vs x11.Style,c24,c26]) qdr rfl rfl (qad.ro at18)) fun a E=>qa4 E ok qbv rfl rfl fun b28 a w E ok=>qae E ok 0 rfl rfl rfl qfd rfl rfl ⟨rfl,rfl,rfl,rfl,(qcD h25),(qcD h27),trivial⟩ rfl rfl fun w ok=>wn<|sg<|fk E ok qay qap rfl 0 rfl rfl fun a E=>wn<|wp_block<|sg<|lw E (qao rfl rfl) fun a E=>aw E rfl fun a E=>cf E rfl hF (fun c29 hF=>?_) fun c29 hF=>?_
 ·refine qac<|mv E rfl fun a E=>fk E ok qcz qak rfl 0 rfl rfl fun a E=>bd hF fun r30 e31 hF=>qag E qr9 rfl (qmq N x11.Text l21 e31 hG ok) rfl rfl ?_
  rintro _ w ⟨⟨rfl,ok⟩,l32⟩
  refine ⟨_,rfl,fun a E=>?_⟩
  refine lw E (qaI Tryz.underlying9 rfl) fun a E=>lw E (qaM rfl rfl) fun a E=>av E rfl fun a E=>wpList_nil<|qaf<|qaf<|qaa<|qac<|lw E (qaA rfl rfl (InR.inc r9 (qal hparts_0) c10)) fun a E=>mv E rfl fun a E=>wpList_nil ?_
  cases hF
  exact qar ⟨(ok.pk 1 [] rfl (by decide)),E.keep [3,10,11,12],(InR.wrap _ _),(InR.inc r9 (qal hparts_0) c10)⟩
 refine sg<|lw E (qao rfl rfl) fun a E=>aw E rfl fun a E=>cf E rfl hF (fun c33 hF=>?_) fun c33 hF=>?_
 ·refine qac<|mv E rfl fun a E=>lw E (qaM rfl rfl) fun a E=>av E rfl fun a E=>wpList_nil<|qaf<|qaf<|qaa<|qac<|lw E (qaA rfl rfl (InR.inc r9 (qal hparts_0) c10)) fun a E=>mv E rfl fun a E=>wpList_nil ?_
  cases hF
  exact qar ⟨(ok.pk 1 [] rfl (by decide)),E.keep [3,10,11,12],(InR.wrap _ _),(InR.inc r9 (qal hparts_0) c10)⟩
 refine sg<|lw E (qao rfl rfl) fun a E=>aw E rfl fun a E=>cf E rfl hF (fun c34 hF=>?_) fun c34 hF=>?_
 ·refine sg<|mv E rfl fun a E=>fk E ok qaN qak rfl 0 rfl rfl fun a E=>lw E (qaI Tryz.underlying9 rfl) fun a E=>lw E (qaM rfl rfl) fun a E=>lw E (qaM rfl rfl) fun a E=>aw E rfl fun a E=>sg<|fk E ok qbR qbu rfl 0 rfl rfl fun a E=>lv E ok (qaQ qbc h27 rfl) fun a E=>lw E (qbk rfl rfl) fun a E=>wn<|cg E rfl hF (fun c35 hF=>?_) fun c35 hF=>?_
  ·refine wp_skip<|qaf<|qaf<|qaa<|qac<|lw E (qaA rfl rfl (InR.inc r9 (qal hparts_0) c10)) fun a E=>mv E rfl fun a E=>wpList_nil ?_
   cases hF
   exact qar ⟨(ok.pk 1 [] rfl (by decide)),E.keep [3,10,11,12],(InR.wrap _ _),(InR.inc r9 (qal hparts_0) c10)⟩
  refine qdH (by kernel_rfl) (by kernel_rfl) ok<|qv E (qan rfl) fun a E=>qv E (qaj qaN rfl) fun a E=>qv E (qat qak rfl (qad.own 0 rfl rfl)) fun a E=>qv E (qaI Tryz.underlying9 rfl) fun a E=>qv E (qaM rfl rfl) fun a E=>qv E (qaj qbR rfl) fun a E=>qv E (qat qbu rfl (qad.own 0 rfl rfl)) fun a E=>?_
  obtain ⟨r36,e37,hF⟩:=bnd hF
  obtain ⟨_,_,⟨_,_⟩,r38⟩:=Go.X.Calls.get (ih_syntax_length _ x11.Parts h27 e37 hG ok)
  refine qcn E qol rfl (fun w ok=>(ih_syntax_length _ x11.Parts h27 e37 hG ok).mono (fun _ _ h=>h.1)) rfl rfl fun a E=>qv E (qaM rfl rfl) fun a E=>qv E (qaM rfl rfl) fun a E=>qv E (qbx rfl) fun a E=>wpQuiet_nil ?_
  intro w ok
  refine qaf<|qaf<|qaa<|qac<|lw E (qaA rfl rfl (InR.inc r9 (qal hparts_0) c10)) fun a E=>mv E rfl fun a E=>wpList_nil ?_
  cases hF
  exact qar ⟨(ok.pk 1 [] rfl (by decide)),E.keep [3,10,11,12],(InR.wrap _ _),(InR.inc r9 (qal hparts_0) c10)⟩
 refine sg<|mv E rfl fun a E=>fk E ok qaN qak rfl 0 rfl rfl fun a E=>lw E (qaI Tryz.underlying9 rfl) fun a E=>lw E (qaM rfl rfl) fun a E=>lw E (qaM rfl rfl) fun a E=>aw E rfl fun a E=>wp_seq<|sg<|qag E qrV rfl (qmL ok) rfl rfl ?_
 rintro _ w ⟨b39,rfl,ok⟩
 refine ⟨_,rfl,fun a E=>?_⟩
 refine qpV (clock:=7) (es:=qeN) E ok 0 rfl Tryz.underlying149 rfl rfl rfl fun b40 a w E ok=>wn<|qaG (Q':=fun e a w=>e = .normal ∧ Ok u m0 ([(b28,oc 82 [vi x11.Kind,vs x11.Text,vs x11.Name,vs x11.Style,c24,c26])] :: S) w ∧ Env 108 a [(5,vp b28),(10,vparts_0),(11,(vi (parts_0.length:Int))),(12,vi v7),(3,(vi (qf0 x11.Kind (IntKind.wrap .i64 (v6 + (IntKind.wrap .i64 ((2:Int) + (x11.Name.length:Int))))))))]) ?_ ?_
 ·refine wp_block<|qqD (fun kk a w=>∃ (seen:Array Nat) (q:Int),kk = (qeN.filter fun e=>!seen.contains e.born).length ∧ ust x11.Kind (IntKind.wrap .i64 (v6 + (IntKind.wrap .i64 ((2:Int) + (x11.Name.length:Int))))) seen q ∧ Ok u m0 ([(b40,Obj.mapIter (some b39) 7 seen 7)] :: [(b39,Obj.map qeN.toArray 7)] :: [(b28,oc 82 [vi x11.Kind,vs x11.Text,vs x11.Name,vs x11.Style,c24,c26])] :: S) w ∧ Env 108 a [(25,vp b40),(5,vp b28),(10,vparts_0),(11,(vi (parts_0.length:Int))),(12,vi v7),(3,vi q)]) ?_ _ a w ⟨#[],_,rfl,qr4,ok,E.keep [25,5,10,11,12,3]⟩
  rintro kk a w ⟨seen,q,rfl,hu,ok,E⟩
  refine sg<|qqK (es:=qeN) E ok 0 rfl (by decide) rfl rfl rfl (fun hall a E=>?_) (fun e he hne a w E ok=>?_)
  ·refine lw E (qa6 rfl rfl) fun a E=>wn<|wp_seq<|c_if E rfl (fun hc=>by cases hc) (fun _=>?_)
   refine wp_exit<|qaU ?_
   obtain rfl:=qq0 hu hall
   exact .inr ⟨by nofun,qbm ⟨rfl,ok.drop.drop,E.keep [5,10,11,12,3]⟩⟩
  refine lw E (qa6 rfl rfl) fun a E=>wn<|wp_seq<|c_if E rfl (fun _=>?_) (fun hc=>by cases hc)
  refine wp_skip<|qaa<|wp_block<|sg ?_
  obtain ⟨s_,v_,hk_,hv_,hl_,hr_,hu1,hu2⟩:=qpR he
  have hy:=fun ty=>qpK (P:=Tryz.prog) (u:=u) (m:=m0) (ty:=ty) (S:=[(b40,Obj.mapIter (some b39) 7 (seen.push e.born) 7)] :: [(b39,Obj.map qeN.toArray 7)] :: [(b28,oc 82 [vi x11.Kind,vs x11.Text,vs x11.Name,vs x11.Style,c24,c26])] :: S) (es:=qeN) (x:=.tmp 25) 1 0 rfl rfl he qnG (qcy E rfl) hk_ hv_
  refine lv E ok (hy _) fun a E=>lw E (qa6 rfl rfl) fun a E=>lw E (qa6 rfl rfl) fun a E=>av E rfl fun a E=>aw E rfl fun a E=>sg<|mv E rfl fun a E=>fk E ok qay qap rfl 2 rfl rfl fun a E=>lw E (qao rfl rfl) fun a E=>wn<|c_if E rfl (fun hc=>?_) (fun hc=>?_)
  ·refine qac<|mz E rfl rfl fun a E=>lw E (qaI Tryz.underlying9 rfl) fun a E=>lw E (qaM rfl rfl) fun a E=>lw E (qaM rfl rfl) fun a E=>av E rfl fun a E=>wpList_nil<|qaf ?_
   exact .inl ⟨rfl,_,qnT he hne,seen.push e.born,_,rfl,qqx hu hne hu1 (by simpa using hc),ok,E.keep [25,5,10,11,12,3]⟩
  refine wp_skip<|qaf ?_
  exact .inl ⟨rfl,_,qnT he hne,seen.push e.born,_,rfl,qpW hu hu2 (by simpa using hc),ok,E.keep [25,5,10,11,12,3]⟩
 rintro e a w ⟨rfl,ok,E⟩
 refine qaa<|wp_seq<|sg<|fk E ok qaW qak rfl 0 rfl rfl fun a E=>lw E (qce rfl rfl) fun a E=>wn<|bd hF fun o41 hJ hF=>qaG (Q':=fun e a w=>e = .normal ∧ Ok u m0 ([(b28,oc 82 [vi x11.Kind,vs x11.Text,vs x11.Name,vs x11.Style,c24,c26])] :: S) w ∧ Env 108 a [(3,vi o41),(5,vp b28),(10,vparts_0),(11,(vi (parts_0.length:Int))),(12,vi v7)] ∧ InR .i64 o41) ?_ ?_
 ·have hF:=hJ
  refine cg E rfl hF (fun c43 hF=>?_) fun c43 hF=>?_
  ·refine wp_skip ?_
   cases hF
   exact ⟨rfl,⟨ok,E.keep [3,5,10,11,12],(qoC (InR.wrap _ _))⟩⟩
  refine qac<|mv E rfl fun a E=>fk E ok qaW qak rfl 0 rfl rfl fun a E=>lw E (qaI Tryz.underlying9 rfl) fun a E=>lw E (qaM rfl rfl) fun a E=>lw E (qaM rfl rfl) fun a E=>av E rfl fun a E=>wpList_nil ?_
  cases hF
  exact ⟨rfl,⟨ok,E.keep [3,5,10,11,12],(InR.wrap _ _)⟩⟩
 intro e a w hO
 obtain ⟨rfl,ok,E,r44⟩:=hO
 refine qaa<|wp_seq<|sg<|fk E ok qay qap rfl 0 rfl rfl fun a E=>bd hF fun r45 e46 hF=>lc E qiQ rfl (qcO N x11.Kind r20 e46 hG ok) fun w ok a E=>wn<|bd hF fun o47 hJ hF=>qaG (Q':=fun e a w=>e = .normal ∧ Ok u m0 ([(b28,oc 82 [vi x11.Kind,vs x11.Text,vs x11.Name,vs x11.Style,c24,c26])] :: S) w ∧ Env 108 a [(3,vi o47),(5,vp b28),(10,vparts_0),(11,(vi (parts_0.length:Int))),(12,vi v7)] ∧ InR .i64 o47) ?_ ?_
 ·have hF:=hJ
  refine cg E rfl hF (fun c49 hF=>?_) fun c49 hF=>?_
  ·refine wp_skip ?_
   cases hF
   exact ⟨rfl,⟨ok,E.keep [3,5,10,11,12],r44⟩⟩
  refine qac<|mv E rfl fun a E=>lw E (qaM rfl rfl) fun a E=>av E rfl fun a E=>wpList_nil ?_
  cases hF
  exact ⟨rfl,⟨ok,E.keep [3,5,10,11,12],(InR.wrap _ _)⟩⟩
 intro e a w hO
 obtain ⟨rfl,ok,E,r50⟩:=hO
 refine qaa<|sg<|fk E ok qa2 qbo rfl 0 rfl rfl fun a E=>lv E ok (qaQ qbr h25 rfl) fun a E=>mv E rfl fun a E=>wn<|wp_block<|bd hF fun o53 hL hF=>qa9 _ (fun (s:Int × Int) a w=>Ok u m0 ([(b28,oc 82 [vi x11.Kind,vs x11.Text,vs x11.Name,vs x11.Style,c24,c26])] :: S) w ∧ Env 108 a [(3,vi s.1),(10,vparts_0),(11,(vi (parts_0.length:Int))),(12,vi v7),(55,c24),(56,(vi (x11.Cases.length:Int))),(57,vi s.2)] ∧ InR .i64 s.1 ∧ InR .i64 s.2) (fun (b:Int) e a w=>e = (.exit 5) ∧ Ok u m0 ([(b28,oc 82 [vi x11.Kind,vs x11.Text,vs x11.Name,vs x11.Style,c24,c26])] :: S) w ∧ Env 108 a [(3,vi b),(10,vparts_0),(11,(vi (parts_0.length:Int))),(12,vi v7)] ∧ InR .i64 b) ?_ ?_ N _ a w hL ⟨ok,E.keep [3,10,11,12,55,56,57],r50,(ir 0)⟩
 rotate_left
 ·intro e a w _ hO
  obtain ⟨rfl,ok,E,r77⟩:=hO
  refine qbm<|qaf<|qaf<|qaa<|qac<|lw E (qaA rfl rfl (InR.inc r9 (qal hparts_0) c10)) fun a E=>mv E rfl fun a E=>wpList_nil ?_
  cases hF
  exact qar ⟨(ok.pk 1 [] rfl (by decide)),E.keep [3,10,11,12],r77,(InR.inc r9 (qal hparts_0) c10)⟩
 rintro ⟨v56,v57⟩ a w r ⟨ok,E,r58,r59⟩ hF
 replace hF:qef (qdh N) N x11 v56 v57 = some r:=hF
 unfold qef at hF
 refine sg<|lw E (qaO rfl rfl) fun a E=>wn<|wp_seq<|cg E rfl hF (fun c60 hF=>?_) fun c60 hF=>?_
 ·refine wp_exit<|qaU ?_
  cases hF
  exact so (⟨rfl,⟨ok,E.keep [3,10,11,12],r58⟩⟩)
 refine wp_skip<|qaa<|wp_seq<|wp_block<|sg ?_
 obtain ⟨x61,e62,hF⟩:=bnd hF
 obtain ⟨b63,o64,es65,hl66,rr67,at68,yy69⟩:=ia E 55 57 qbr h25 e62
 obtain ⟨c71,rfl,l70,h72⟩:=rr67
 refine lv E ok (yy69 _ _) fun a E=>lv E ok (qas (cs:=[vs x61.Key,c71]) qiF rfl rfl (qad.ro at68)) fun a E=>qa4 E ok qdq rfl rfl fun b73 a w E ok=>qae E ok 0 rfl rfl rfl qiu rfl rfl ⟨rfl,(qcD h72),trivial⟩ rfl rfl fun w ok=>wn<|qdH (by kernel_rfl) (by kernel_rfl) ok<|qv E (qan rfl) fun a E=>qv E (qaj qda rfl) fun a E=>qv E (qat qak rfl (qad.own 0 rfl rfl)) fun a E=>qv E (qaI Tryz.underlying9 rfl) fun a E=>qv E (qaM rfl rfl) fun a E=>qv E (qaj qeh rfl) fun a E=>qv E (qat qbu rfl (qad.own 0 rfl rfl)) fun a E=>?_
 obtain ⟨r74,e75,hF⟩:=bnd hF
 obtain ⟨_,_,⟨_,_⟩,r76⟩:=Go.X.Calls.get (ih_syntax_length _ x61.Parts h72 e75 hG ok)
 refine qcn E qol rfl (fun w ok=>(ih_syntax_length _ x61.Parts h72 e75 hG ok).mono (fun _ _ h=>h.1)) rfl rfl fun a E=>qv E (qaM rfl rfl) fun a E=>qv E (qaM rfl rfl) fun a E=>qv E (qbx rfl) fun a E=>wpQuiet_nil ?_
 intro w ok
 refine qaf<|qaa<|qac<|lw E (qaA rfl rfl (InR.inc r59 (qal h25) c60)) fun a E=>mv E rfl fun a E=>wpList_nil ?_
 cases hF
 exact qar ⟨(ok.pk 2 [1] rfl (by decide)),E.keep [3,10,11,12,55,56,57],(InR.wrap _ _),(InR.inc r59 (qal h25) c60)⟩
theorem qkF:qfX 0:=by
 intro u m0 S w vparts_0 parts_0 hparts_0 r hF hG ok
 replace hF:none = some r:=hF
 cases hF
theorem qjc (N:Nat):qfX N:=by
 induction N with
 | zero=>exact qkF
 | succ N h=>exact qky N h
theorem qlW {u:World} {m0:Mem} {S:Segs} {w:World} (N:Nat) (vparts_0:Value) (parts_0:List (Part)) (hparts_0:(pL 6 qa0) m0 [vparts_0] parts_0) {r:Int} (hF:qdh N parts_0 = some r) (hG:Glob u) (ok:Ok u m0 S w) :
 Calls Tryz.prog 68 [vparts_0].toArray w fun e w'=>(e = .returned (.int .i64 r) ∧ Ok u m0 S w') ∧ InR .i64 r:=(qjc N) vparts_0 parts_0 hparts_0 hF hG ok
def qmt (u:World) (m0:Mem) (S:Segs) (r:Bool) (a:Act) (w:World):Prop :=
 Ok u m0 S w ∧ a.defers = [] ∧ RVs Tryz.prog a w [.t 4 (.bool r)]
theorem qms (N:Nat) (vparts_0:Value) (parts_0:List (Part)) (hparts_0:(pL 6 qa0) m0 [vparts_0] parts_0) (counting_1:Bool) {r:Bool} (hF:qgV N parts_0 counting_1 = some r) (hG:Glob u) (ok:Ok u m0 S w) :
  Calls Tryz.prog 49 [vparts_0,vb counting_1].toArray w fun e w'=>(e = .returned (.bool r) ∧ Ok u m0 S w'):=by
 have hb0:=ok.base
 have le_m0:=Mem.le.refl m0
 unfold qgV at hF
 refine en (qmt u m0 S) r Tryz.func49 rfl rfl rfl (fun _ _ h=>ra h rfl) fun fin a E=>sg<|aw E rfl fun a E=>sg<|qmI kS (oneV pB) E ok rfl rfl fun c1 M2 a w E ok h3=>lw E (qau (ps:=[(0,.tmp 6)]) (qs:=[(0,[c1])]) (cs:=[c1]) qnp qoc rfl ⟨rfl,(OMap.cells h3),rfl,trivial⟩ rfl) fun a E=>qa4 E ok qnp rfl rfl fun b4 a w E ok=>qae E ok 0 rfl rfl rfl qqG rfl rfl ⟨(OMap.one h3),trivial⟩ rfl rfl fun w ok=>wn<|sg<|lv E ok (qas (cs:=[c1]) qjd rfl rfl (qad.own 0 rfl rfl)) fun a E=>mz E rfl rfl fun a E=>?_
 replace ok:=ok.addnil
 obtain ⟨r6,e7,hF⟩:=bnd hF
 replace ok:Ok u m0 ([] :: M2 :: [(b4,oc 128 [c1])] :: S) w:=(ok.pk 3 [0,2,1] rfl (by decide))
 refine qag E qmU rfl (qi3 N _ parts_0 hparts_0 0 (ir 0) counting_1 ([]:List (List UInt8 × Bool)) h3 e7 hG ok) rfl rfl ?_
 rintro _ w ⟨m8,M9,rfl,hle,ok,h10⟩
 have le_m0:=le_m0.trans hle
 have hparts_0:=(mL qai).up hle hparts_0
 refine ⟨_,rfl,fun a E=>?_⟩
 refine mv E rfl fun a E=>qbj r6.1 (fun c11=>?_) (fun c11=>?_)
 rotate_left
 ·have hF:=qbg c11 hF
  have E:=E.upd 12 c11 rfl
  refine lsz E fun a E=>pf E rfl rfl fun a E=>mv E rfl fun a E=>lsq E fun a E=>ls E fun a E=>pf E rfl rfl fun a E=>aw E rfl fun a E=>wp_ret ?_
  exact fin hF ⟨(ok.drop.drop.drop).down hb0 le_m0,E.d,rz E rfl⟩
 have hF:=qbh c11 hF
 have E:=E.upd 12 c11 rfl
 refine fk E ok qig qje rfl 2 rfl rfl fun a E=>lv E ok (qpO 1 rfl Tryz.underlying126 h10 rfl) fun a E=>lw E (qc4 rfl rfl) fun a E=>pt E rfl rfl fun a E=>mv E rfl fun a E=>bw E 18 hF (fun c12 hF E=>?_) fun c12 hF E=>?_
 ·refine lsq E fun a E=>ls E fun a E=>pf E rfl rfl fun a E=>aw E rfl fun a E=>wp_ret ?_
  exact fin hF ⟨(ok.drop.drop.drop).down hb0 le_m0,E.d,rz E rfl⟩
 refine mv E rfl fun a E=>bd hF fun r13 e14 hF=>qag E qol rfl (qlW N _ parts_0 hparts_0 e14 hG ok) rfl rfl ?_
 rintro _ w ⟨⟨rfl,ok⟩,r15⟩
 refine ⟨_,rfl,fun a E=>?_⟩
 refine lw E (qc4 rfl rfl) fun a E=>pt E rfl rfl fun a E=>aw E rfl fun a E=>wp_ret ?_
 exact fin hF ⟨(ok.drop.drop.drop).down hb0 le_m0,E.d,rz E rfl⟩
def ql4 (u:World) (m0:Mem) (S:Segs) (r:Bool) (a:Act) (w:World):Prop :=
 Ok u m0 S w ∧ a.defers = [] ∧ RVs Tryz.prog a w [.t 2 (.bool r)]
theorem qmd (N:Nat) (vparts_0:Value) (parts_0:List (Part)) (hparts_0:(pL 6 qa0) m0 [vparts_0] parts_0) {r:Bool} (hF:qf1 N parts_0 = some r) (hG:Glob u) (ok:Ok u m0 S w) :
  Calls Tryz.prog 30 [vparts_0].toArray w fun e w'=>(e = .returned (.bool r) ∧ Ok u m0 S w'):=by
 unfold qf1 at hF
 refine en (ql4 u m0 S) r Tryz.func30 rfl rfl rfl (fun _ _ h=>ra h rfl) fun fin a E=>sg<|aw E rfl fun a E=>sg<|mv E rfl fun a E=>bd hF fun r1 e2 hF=>lc E qr3 rfl (qms N _ parts_0 hparts_0 false e2 hG ok) fun w ok a E=>aw E rfl fun a E=>wp_ret ?_
 exact fin hF ⟨ok,E.d,rz E rfl⟩
end Go.Proofs.YtllnjbnknjpbjaaGreatDoor
namespace Go.Proofs.YtllnjbnknjpbjaaGreatDoor
open Go.X
variable {u:World} {m0:Mem} {S:Segs} {w:World}
set_option maxHeartbeats 4000000
set_option maxRecDepth 100000
def Tab (u:World):Prop:=Lib.TabIs Tryz.prog u "internal/strconv.uint64pow10" .u64 Lib.pow10Tab
def pIns:Rp Ins:=fun _ cs x=>cs = [.int .i64 x.Op,.int .i64 x.A,.int .i64 x.B,.string (bs x.S)] ∧ InR .i64 x.Op ∧ InR .i64 x.A ∧ InR .i64 x.B ∧ x.S.length ≤ LIMS
theorem mIns:Mono pIns:=⟨fun _ h=>by
 obtain ⟨e,h0,h1,h2,h3⟩:=h
 exact ⟨e,h0,h1,h2,h3⟩,fun h=>by
 obtain ⟨rfl,h0,h1,h2,h3⟩:=h
 exact ⟨rfl,rfl,rfl,rfl,trivial⟩⟩
def qlY:Rp Code:=fun m cs x=>∃ c0 c1,cs = [c0,c1] ∧ (pL 1 pS) m [c0] x.Names ∧ (pL 4 pIns) m [c1] x.Ins
theorem qku:aggB Tryz.prog 28 2 = true:=by kernel_rfl
theorem qih:aggB Tryz.prog 47 4 = true:=by kernel_rfl
theorem qqS:ArT Tryz.prog 129 3 7 1:=ArT.of (by kernel_rfl)
theorem qm7:ArT Tryz.prog 62 9 14 1:=ArT.of (by kernel_rfl)
theorem qnd:Tryz.prog.eqGuardType Tryz.prog.depth 47 = false:=by kernel_rfl
theorem qid:qbb Tryz.prog 28 0 0 = true:=by kernel_rfl
theorem qcQ:qbb Tryz.prog 28 1 1 = true:=by kernel_rfl
theorem qkX:qbb Tryz.prog 47 0 0 = true:=by kernel_rfl
theorem qh9:qbb Tryz.prog 47 1 1 = true:=by kernel_rfl
theorem qn4:qbb Tryz.prog 47 2 2 = true:=by kernel_rfl
theorem qnZ:qbb Tryz.prog 47 3 3 = true:=by kernel_rfl
theorem qeS:qbb Tryz.prog 57 0 0 = true:=by kernel_rfl
theorem qsg:goB Tryz.prog 30 = true:=by kernel_rfl
theorem qmR:goB Tryz.prog 31 = true:=by kernel_rfl
theorem qgf:goB Tryz.prog 32 = true:=by kernel_rfl
theorem qrO:goB Tryz.prog 34 = true:=by kernel_rfl
theorem qlH:goB Tryz.prog 35 = true:=by kernel_rfl
theorem qlx:goB Tryz.prog 36 = true:=by kernel_rfl
theorem qrU:goB Tryz.prog 41 = true:=by kernel_rfl
theorem qrT:goB Tryz.prog 42 = true:=by kernel_rfl
theorem qmS:goB Tryz.prog 50 = true:=by kernel_rfl
theorem qqv:goB Tryz.prog 52 = true:=by kernel_rfl
theorem qqs:goB Tryz.prog 53 = true:=by kernel_rfl
theorem qr1:goB Tryz.prog 69 = true:=by kernel_rfl
theorem qpA:∃ i,Tryz.prog.info? 25 = some i ∧ i.size = 1:=⟨_,rfl,by kernel_rfl⟩
theorem qq4:∃ i,Tryz.prog.info? 26 = some i ∧ i.size = 1:=⟨_,rfl,by kernel_rfl⟩
theorem qkp:∃ i,Tryz.prog.info? 28 = some i ∧ i.size = 2:=⟨_,rfl,by kernel_rfl⟩
theorem qgU:∃ i,Tryz.prog.info? 3 = some i ∧ i.size = 1:=⟨_,rfl,by kernel_rfl⟩
theorem qq5:∃ i,Tryz.prog.info? 47 = some i ∧ i.size = 4:=⟨_,rfl,by kernel_rfl⟩
theorem qrh:∃ i,Tryz.prog.info? 62 = some i ∧ i.size = 14:=⟨_,rfl,by kernel_rfl⟩
theorem qhE:oneB Tryz.prog 25 = true:=by kernel_rfl
theorem qcX:oneB Tryz.prog 26 = true:=by kernel_rfl
theorem qoH:qey Tryz.prog 110 = some [(0,3),(3,1),(4,1)]:=by kernel_rfl
theorem qmG:qey Tryz.prog 28 = some [(0,1),(1,1)]:=by kernel_rfl
theorem qdv:qey Tryz.prog 47 = some [(0,1),(1,1),(2,1),(3,1)]:=by kernel_rfl
theorem qo0:qey Tryz.prog 57 = some [(0,2)]:=by kernel_rfl
theorem qbn:SlT Tryz.prog 25 9 1:=SlT.of (by kernel_rfl)
theorem qcZ:SlT Tryz.prog 26 47 4:=SlT.of (by kernel_rfl)
theorem qhq:SlT Tryz.prog 74 3 1:=SlT.of (by kernel_rfl)
theorem qle:Tryz.prog.stoodInHeld 47 = false:=by kernel_rfl
theorem qp4:qcY Tryz.prog 110 = some [(Value.int .u32 0),(Value.int .i32 0),(Value.int .u32 0),Value.nilIface,(Value.slice none 0 0)]:=by kernel_rfl
theorem qp8:qcY Tryz.prog 129 = some [vi 0,vi 0,vi 0,vi 0,vi 0,vi 0,vi 0]:=by kernel_rfl
theorem qic:qcY Tryz.prog 28 = some [(Value.slice none 0 0),(Value.slice none 0 0)]:=by kernel_rfl
theorem qly:qcY Tryz.prog 3 = some [vi 0]:=by kernel_rfl
theorem qdK:qcY Tryz.prog 47 = some [vi 0,vi 0,vi 0,(vs ([]))]:=by kernel_rfl
theorem qqF:qcY Tryz.prog 57 = some [(Value.slice none 0 0),(Value.slice none 0 0)]:=by kernel_rfl
theorem qnY:qcY Tryz.prog 62 = some [(vs ([])),(vs ([])),(vs ([])),(vs ([])),(vs ([])),(vs ([])),(vs ([])),(vs ([])),(vs ([])),(vs ([])),(vs ([])),(vs ([])),(vs ([])),(vs ([]))]:=by kernel_rfl
theorem qbH:qcY Tryz.prog 9 = some [(vs ([]))]:=by kernel_rfl
def qi0 (u:World) (m0:Mem) (S:Segs) (pb0:Nat) (x0:Compiler) (c5:Value) (M6:List (Nat × Obj)) (c8:Value) (M9:List (Nat × Obj)) (r:Int × Compiler) (a:Act) (w:World):Prop :=
 ∃ m1 c11 M12 c14 M15,m0.le m1 ∧ Ok u m1 ([(pb0,oc 57 [c11,c14])] :: M12 :: M15 :: S) w ∧ a.defers = [] ∧ RVs Tryz.prog a w [.t 4 (.int .i64 r.1)] ∧ InR .i64 r.1 ∧ ORow 9 1 pS m1 c11 r.2.Code.Names M12 ∧ ORow 47 4 pIns m1 c14 r.2.Code.Ins M15
theorem qbl (N:Nat) (vx_1:List Value) (x_1:Ins) (hx_1:pIns m0 vx_1 x_1) {pb0:Nat} {c5:Value} {M6:List (Nat × Obj)} {c8:Value} {M9:List (Nat × Obj)} (x0:Compiler) (h7:ORow 9 1 pS m0 c5 x0.Code.Names M6) (h10:ORow 47 4 pIns m0 c8 x0.Code.Ins M9) {r:Int × Compiler} (hF:qa7 N x_1 x0 = some r) (hG:Glob u) (ok:Ok u m0 ([(pb0,oc 57 [c5,c8])] :: M6 :: M9 :: S) w) :
  Calls Tryz.prog 32 [vp pb0,.agg vx_1.toArray].toArray w fun e w'=>∃ m1 c11 M12 c14 M15,e = .returned (.int .i64 r.1) ∧ m0.le m1 ∧ Ok u m1 ([(pb0,oc 57 [c11,c14])] :: M12 :: M15 :: S) w' ∧ InR .i64 r.1 ∧ ORow 9 1 pS m1 c11 r.2.Code.Names M12 ∧ ORow 47 4 pIns m1 c14 r.2.Code.Ins M15:=by
 obtain ⟨rfl,r1,r2,r3,l4⟩:=hx_1
 have le_m0:=Mem.le.refl m0
 unfold qa7 at hF
 refine en (qi0 u m0 S pb0 x0 c5 M6 c8 M9) r Tryz.func32 rfl rfl rfl (by rintro a w ⟨m1,c11,M12,c14,M15,hle,ok,hd,hrv,h0,h1,h2⟩; exact qbO [.t 4 (.int .i64 r.1)] hd rfl hrv ⟨m1,c11,M12,c14,M15,rfl,hle,ok,h0,h1,h2⟩) fun fin a E=>sg<|qfY E ok rfl rfl rfl fun b17 a w E ok=>aw E rfl fun a E=>wp_seq<|bd hF fun o18 hJ hF=>qaG (Q':=fun e a w=>e = .normal ∧ ∃ c19 M20 c22 M23,Ok u m0 ([(b17,oc 47 [vi x_1.Op,vi x_1.A,vi x_1.B,vs x_1.S])] :: [(pb0,oc 57 [c19,c22])] :: M20 :: M23 :: S) w ∧ Env 24 a [(0,vp pb0)] ∧ ORow 9 1 pS m0 c19 o18.Code.Names M20 ∧ ORow 47 4 pIns m0 c22 o18.Code.Ins M23) ?_ ?_
 rotate_left
 ·intro e a w hO
  obtain ⟨rfl,c39,M40,c42,M43,ok,E,h41,h44⟩:=hO
  refine qaa<|sg<|mv E rfl fun a E=>lw E (qam rfl) fun a E=>fv E qeS rfl fun a E=>fk E ok qcQ qcX rfl 1 rfl rfl fun a E=>lv E ok (qeV qcZ h44 rfl) fun a E=>lw E (qes rfl rfl) fun a E=>aw E rfl fun a E=>wp_ret ?_
  exact fin hF ⟨m0,c39,M40,c42,M43,le_m0,ok.drop,E.d,rz E rfl,(InR.wrap _ _),h41,h44⟩
 have hF:=hJ
 obtain ⟨l28,e29,hF⟩:=bnd hF
 obtain rfl:=sj hF
 refine qbI [5,6] (Cls u m0 ([(b17,oc 47 [vi x_1.Op,vi x_1.A,vi x_1.B,vs x_1.S])] :: [(pb0,oc 57 [c5,c8])] :: M6 :: [])) (Cls u m0 ([(b17,oc 47 [vi x_1.Op,vi x_1.A,vi x_1.B,vs x_1.S])] :: M6 :: [])) (by kernel_rfl) ?_
 intro w hw
 replace ok:=qb3 ok hw
 clear hw
 refine qaw (cl1 (cq le_m0 ok [0,1,2] rfl) (cq le_m0 ok [0,2] rfl)) fun hT=>kt 0 E rfl hT (qan rfl) fun a E=>kt 1 E rfl hT (qan rfl) fun a E=>kt 2 E rfl hT (qam rfl) fun a E=>kt 3 E rfl hT (qaj qeS rfl) fun a E=>kt 4 E rfl hT (qaj qcQ rfl) fun a E=>qdy 5 E rfl (by kernel_rfl) nP hT (qat qcX rfl (qad.cown 1 rfl rfl)) rfl rfl fun a E=>qdy 6 E rfl (by kernel_rfl) nP hT (qas (cs:=[vi x_1.Op,vi x_1.A,vi x_1.B,vs x_1.S]) qih rfl rfl (qad.cown 0 rfl rfl)) rfl rfl fun a E=>qa1 [7] (by kernel_rfl) rfl (qa8 ?_)
 ·refine wo rfl<|qbq (R:=pIns) (xo:=[.tmp 11]) (xs:=([x_1]:List (Ins))) E ok qcZ qdK rfl ⟨⟨_,rfl,rfl,⟨rfl,r1,r2,r3,l4⟩⟩,trivial⟩ rfl rfl rfl rfl fun c33 M34 a w E ok h35=>wn<|qaw (cl1 (cq le_m0 ok [1,2,3] rfl) (cq le_m0 ok [1,3] rfl)) fun hT=>qa1 [8] (by kernel_rfl) rfl (qa8 ?_)
  ·refine wo rfl<|qbX (R:=pIns) E ok 4 mIns qcZ Tryz.underlying26 rfl h10 (qbs.ofRow h35 0 rfl ok) e29 ⟨_,qdK,rfl⟩ rfl rfl rfl rfl fun c36 M37 a w E ok h38=>wn<|qaw (cl1 (cq le_m0 ok [1,2,3] rfl) (cq le_m0 ok [1,3] rfl)) fun hT=>kt 9 E rfl hT (qam rfl) fun a E=>kt 10 E rfl hT (qaj qeS rfl) fun a E=>kt 11 E rfl hT (qaj qcQ rfl) fun a E=>qa1 [12] (by kernel_rfl) rfl (qa8 ?_)
   ·refine wo rfl<|qae E ok 2 rfl rfl rfl qq4 (ORow.cells h38) rfl ⟨(ORow.one h38),trivial⟩ rfl rfl fun w ok=>wn<|qaw (cl2 (by kernel_rfl) (cq le_m0 ok [1,3] rfl)) fun hT=>qbK (by kernel_rfl) ?_
    exact ⟨rfl,⟨c5,M6,c36,M37,(ok.pk 5 [1,2,3,4] rfl (by decide)),E.keep [0],h7,h38⟩⟩
def qfq (u:World) (m0:Mem) (S:Segs) (r:Int) (a:Act) (w:World):Prop :=
 Ok u m0 S w ∧ a.defers = [] ∧ RVs Tryz.prog a w [.t 4 (.int .i64 r)] ∧ InR .i64 r
theorem qhe (N:Nat) (vs_0:Value) (s_0:List (List UInt8)) (hs_0:(pL 1 pS) m0 [vs_0] s_0) (v_1:List UInt8) (lv_1:v_1.length ≤ LIMS) {r:Int} (hF:qcU N s_0 v_1 = some r) (hG:Glob u) (ok:Ok u m0 S w) :
  Calls Tryz.prog 69 [vs_0,vs v_1].toArray w fun e w'=>(e = .returned (.int .i64 r) ∧ Ok u m0 S w') ∧ InR .i64 r:=by
 unfold qcU at hF
 refine en (qfq u m0 S) r Tryz.func69 rfl rfl rfl (fun _ _ h=>rb h rfl) fun fin a E=>sg<|aw E rfl fun a E=>wp_seq<|sg<|mv E rfl fun a E=>lv E ok (qaQ qbn hs_0 rfl) fun a E=>mv E rfl fun a E=>wn<|wp_block<|bd hF fun o2 hL hF=>qa9 _ (fun (s:Int) a w=>Ok u m0 (S) w ∧ Env 19 a [(0,vs_0),(1,vs v_1),(7,(vi (s_0.length:Int))),(8,vi s)] ∧ InR .i64 s) (fun (b:(Unit ⊕ Int)) e a w=>(Sum.elim (fun b18=>e = (.exit 0) ∧ Ok u m0 (S) w ∧ Env 19 a []) (fun b19=>e = .ret ∧ qfq u m0 S b19 a w)) b) ?_ ?_ N _ a w hL ⟨ok,E.keep [0,1,7,8],(ir 0)⟩
 rotate_left
 ·intro e a w _ hO
  rcases o2 with o2 | o2
  rotate_left
  ·obtain ⟨rfl,hret⟩:=hO
   refine qaq<|qah ?_
   exact fin hF hret
  have hF:=qbV hF
  obtain ⟨rfl,ok,E⟩:=hO
  refine qbm<|qaa<|sg<|aw E rfl fun a E=>wp_ret ?_
  exact fin hF ⟨ok,E.d,rz E rfl,(ir (-1))⟩
 rintro v4 a w r ⟨ok,E,r5⟩ hF
 replace hF:qb5 N s_0 v_1 v4 = some r:=hF
 unfold qb5 at hF
 refine sg<|lw E (qaO rfl rfl) fun a E=>wn<|wp_seq<|cg E rfl hF (fun c6 hF=>?_) fun c6 hF=>?_
 ·refine wp_exit<|qaU ?_
  cases hF
  exact so (sl ⟨rfl,⟨ok,E.keep []⟩⟩)
 refine wp_skip<|qaa<|wp_seq<|wp_block<|sg<|mv E rfl fun a E=>av E rfl fun a E=>wn<|sg<|mz E rfl rfl fun a E=>mv E rfl fun a E=>?_
 obtain ⟨x7,e8,hF⟩:=bnd hF
 obtain ⟨b9,o10,es11,hl12,rr13,at14,yy15⟩:=ia E 12 13 qbn hs_0 e8
 obtain ⟨rfl,l16⟩:=rr13
 refine lv E ok (yy15 _ _) fun a E=>lv E ok (qat qak rfl (qad.ro at14)) fun a E=>lw E (qbt rfl rfl) fun a E=>wn<|cg E rfl hF (fun c17 hF=>?_) fun c17 hF=>?_
 ·refine wp_skip<|qaf<|qaa<|qac<|lw E (qaA rfl rfl (InR.inc r5 (qal hs_0) c6)) fun a E=>mv E rfl fun a E=>wpList_nil ?_
  cases hF
  exact qar ⟨ok,E.keep [0,1,7,8],(InR.inc r5 (qal hs_0) c6)⟩
 refine sg<|mv E rfl fun a E=>aw E rfl fun a E=>wp_ret<|qaq<|qah ?_
 cases hF
 exact so (sr ⟨rfl,⟨ok,E.d,rz E rfl,r5⟩⟩)
def qiI (u:World) (m0:Mem) (S:Segs) (pb0:Nat) (x0:Compiler) (c1:Value) (M2:List (Nat × Obj)) (c4:Value) (M5:List (Nat × Obj)) (r:Int × Compiler) (a:Act) (w:World):Prop :=
 ∃ m1 c7 M8 c10 M11,m0.le m1 ∧ Ok u m1 ([(pb0,oc 57 [c7,c10])] :: M8 :: M11 :: S) w ∧ a.defers = [] ∧ RVs Tryz.prog a w [.t 4 (.int .i64 r.1)] ∧ InR .i64 r.1 ∧ ORow 9 1 pS m1 c7 r.2.Code.Names M8 ∧ ORow 47 4 pIns m1 c10 r.2.Code.Ins M11
theorem qd7 (N:Nat) (s_1:List UInt8) (ls_1:s_1.length ≤ LIMS) {pb0:Nat} {c1:Value} {M2:List (Nat × Obj)} {c4:Value} {M5:List (Nat × Obj)} (x0:Compiler) (h3:ORow 9 1 pS m0 c1 x0.Code.Names M2) (h6:ORow 47 4 pIns m0 c4 x0.Code.Ins M5) {r:Int × Compiler} (hF:qci N s_1 x0 = some r) (hG:Glob u) (ok:Ok u m0 ([(pb0,oc 57 [c1,c4])] :: M2 :: M5 :: S) w) :
  Calls Tryz.prog 50 [vp pb0,vs s_1].toArray w fun e w'=>∃ m1 c7 M8 c10 M11,e = .returned (.int .i64 r.1) ∧ m0.le m1 ∧ Ok u m1 ([(pb0,oc 57 [c7,c10])] :: M8 :: M11 :: S) w' ∧ InR .i64 r.1 ∧ ORow 9 1 pS m1 c7 r.2.Code.Names M8 ∧ ORow 47 4 pIns m1 c10 r.2.Code.Ins M11:=by
 have le_m0:=Mem.le.refl m0
 unfold qci at hF
 refine en (qiI u m0 S pb0 x0 c1 M2 c4 M5) r Tryz.func50 rfl rfl rfl (by rintro a w ⟨m1,c7,M8,c10,M11,hle,ok,hd,hrv,h0,h1,h2⟩; exact qbO [.t 4 (.int .i64 r.1)] hd rfl hrv ⟨m1,c7,M8,c10,M11,rfl,hle,ok,h0,h1,h2⟩) fun fin a E=>sg<|aw E rfl fun a E=>sg<|mv E rfl fun a E=>lw E (qam rfl) fun a E=>fv E qeS rfl fun a E=>fk E ok qid qhE rfl 0 rfl rfl fun a E=>mv E rfl fun a E=>?_
 obtain ⟨r18,e19,hF⟩:=bnd hF
 obtain ⟨m13,hle15,ok14,hfz16⟩:=(ok.frs 1 rfl).freeze
 have h17:=ORow.froz mS h3 hle15 hfz16 (by decide)
 refine qag E qr1 rfl (qhe N _ x0.Code.Names h17 s_1 ls_1 e19 hG ok14) rfl rfl ?_
 rintro _ w ⟨⟨rfl,okz⟩,r20⟩
 replace ok:=(Ok.thawAt 1 rfl ok hle15 hfz16 okz)
 refine ⟨_,rfl,fun a E=>?_⟩
 refine aw E rfl fun a E=>wp_seq<|sg<|mv E rfl fun a E=>lw E (qaO rfl rfl) fun a E=>wn<|cg E rfl hF (fun c21 hF=>?_) fun c21 hF=>?_
 ·refine wp_skip<|qaa<|sg<|mv E rfl fun a E=>aw E rfl fun a E=>wp_ret ?_
  exact fin hF ⟨m0,c1,M2,c4,M5,le_m0,ok,E.d,rz E rfl,r20,h3,h6⟩
 refine sg<|mv E rfl fun a E=>lw E (qam rfl) fun a E=>fv E qeS rfl fun a E=>fk E ok qid qhE rfl 0 rfl rfl fun a E=>lv E ok (qeV qbn h3 rfl) fun a E=>aw E rfl fun a E=>qac<|mz E rfl rfl fun a E=>lw E (qam rfl) fun a E=>fv E qeS rfl fun a E=>fk E ok qid qhE rfl 0 rfl rfl fun a E=>mv E rfl fun a E=>qbq (R:=pS) (xo:=[.tmp 27]) (xs:=([s_1]:List (List UInt8))) E ok qbn qbH rfl ⟨⟨_,rfl,rfl,(qcs ls_1)⟩,trivial⟩ rfl rfl rfl rfl fun c22 M23 a w E ok h24=>?_
 refine bd hF fun l25 e26 hF=>qbX (R:=pS) E ok 2 mS qbn Tryz.underlying25 rfl h3 (qbs.ofRow h24 0 rfl ok) e26 ⟨_,qbH,rfl⟩ rfl rfl rfl rfl fun c27 M28 a w E ok h29=>lw E (qam rfl) fun a E=>fv E qeS rfl fun a E=>fv E qid rfl fun a E=>qae E ok 1 rfl rfl rfl qpA (ORow.cells h29) rfl ⟨(ORow.one h29),trivial⟩ rfl rfl fun w ok=>wn<|sg<|mv E rfl fun a E=>aw E rfl fun a E=>wp_ret ?_
 exact fin hF ⟨m0,c27,M28,c4,M5,le_m0,ok.drop,E.d,rz E rfl,(ORow.InR h3),h29,h6⟩
def qkk (u:World) (m0:Mem) (S:Segs) (r:Int) (a:Act) (w:World):Prop :=
 Ok u m0 S w ∧ a.defers = [] ∧ RVs Tryz.prog a w [.t 2 (.int .i64 r)] ∧ InR .i64 r
theorem qha (N:Nat) (kind_0:Int) (rkind_0:InR .i64 kind_0) {r:Int} (hF:qd1 N kind_0 = some r) (hG:Glob u) (ok:Ok u m0 S w) :
  Calls Tryz.prog 53 [vi kind_0].toArray w fun e w'=>(e = .returned (.int .i64 r) ∧ Ok u m0 S w') ∧ InR .i64 r:=by
 unfold qd1 at hF
 refine en (qkk u m0 S) r Tryz.func53 rfl rfl rfl (fun _ _ h=>rb h rfl) fun fin a E=>sg<|aw E rfl fun a E=>sg<|lv E ok (qm5 (ps:=[(2,.const (vi 5)),(3,.const (vi 6)),(4,.const (vi 7)),(5,.const (vi 8)),(6,.const (vi 9))]) (qs:=[(2,[vi 5]),(3,[vi 6]),(4,[vi 7]),(5,[vi 8]),(6,[vi 9])]) (cs:=[vi 0,vi 0,vi 5,vi 6,vi 7,vi 8,vi 9]) qp8 qqS rfl ⟨rfl,rfl,rfl,⟨rfl,rfl,rfl,⟨rfl,rfl,rfl,⟨rfl,rfl,rfl,⟨rfl,rfl,rfl,trivial⟩⟩⟩⟩⟩ rfl) fun a E=>mv E rfl fun a E=>bd hF fun z1 e2 hF=>lv E ok (qq8 (f:=Value.int .i64) (xs:=[(0:Int),(0:Int),(5:Int),(6:Int),(7:Int),(8:Int),(9:Int)]) Tryz.underlying129 qgU qap rfl rfl rfl rfl e2) fun a E=>aw E rfl fun a E=>wp_ret ?_
 exact fin hF ⟨ok,E.d,rz E rfl,(qok (q:=InR .i64) (xs:=[(0:Int),(0:Int),(5:Int),(6:Int),(7:Int),(8:Int),(9:Int)]) (by decide) e2)⟩
def qiG (u:World) (m0:Mem) (S:Segs) (pb0:Nat) (x0:Compiler) (c1:Value) (M2:List (Nat × Obj)) (c4:Value) (M5:List (Nat × Obj)) (r:Compiler) (a:Act) (w:World):Prop :=
 ∃ m1 c7 M8 c10 M11,m0.le m1 ∧ Ok u m1 ([(pb0,oc 57 [c7,c10])] :: M8 :: M11 :: S) w ∧ a.defers = [] ∧ RVs Tryz.prog a w [] ∧ ORow 9 1 pS m1 c7 r.Code.Names M8 ∧ ORow 47 4 pIns m1 c10 r.Code.Ins M11
def qhg (u:World) (m0:Mem) (S:Segs) (pb0:Nat) (x0:Compiler) (c9:Value) (M10:List (Nat × Obj)) (c12:Value) (M13:List (Nat × Obj)) (r:Compiler) (a:Act) (w:World):Prop :=
 ∃ m1 c15 M16 c18 M19,m0.le m1 ∧ Ok u m1 ([(pb0,oc 57 [c15,c18])] :: M16 :: M19 :: S) w ∧ a.defers = [] ∧ RVs Tryz.prog a w [] ∧ ORow 9 1 pS m1 c15 r.Code.Names M16 ∧ ORow 47 4 pIns m1 c18 r.Code.Ins M19
def qdg (N:Nat):Prop:=∀ {u:World} {m0:Mem} {S:Segs} {w:World} (vl_1:Value) (l_1:List (Part)) (hl_1:(pL 6 qa0) m0 [vl_1] l_1) (count_2:List UInt8) (lcount_2:count_2.length ≤ LIMS) {pb0:Nat} {c1:Value} {M2:List (Nat × Obj)} {c4:Value} {M5:List (Nat × Obj)} (x0:Compiler) (h3:ORow 9 1 pS m0 c1 x0.Code.Names M2) (h6:ORow 47 4 pIns m0 c4 x0.Code.Ins M5) {r:Compiler} (hF:qaX N l_1 count_2 x0 = some r) (hG:Glob u) (ok:Ok u m0 ([(pb0,oc 57 [c1,c4])] :: M2 :: M5 :: S) w),Calls Tryz.prog 31 [vp pb0,vl_1,vs count_2].toArray w fun e w'=>∃ m1 c7 M8 c10 M11,e = .returned (.tuple [].toArray) ∧ m0.le m1 ∧ Ok u m1 ([(pb0,oc 57 [c7,c10])] :: M8 :: M11 :: S) w' ∧ ORow 9 1 pS m1 c7 r.Code.Names M8 ∧ ORow 47 4 pIns m1 c10 r.Code.Ins M11
def qcJ (N:Nat):Prop:=∀ {u:World} {m0:Mem} {S:Segs} {w:World} (vx_1:List Value) (x_1:Part) (hx_1:qa0 m0 vx_1 x_1) (count_2:List UInt8) (lcount_2:count_2.length ≤ LIMS) {pb0:Nat} {c9:Value} {M10:List (Nat × Obj)} {c12:Value} {M13:List (Nat × Obj)} (x0:Compiler) (h11:ORow 9 1 pS m0 c9 x0.Code.Names M10) (h14:ORow 47 4 pIns m0 c12 x0.Code.Ins M13) {r:Compiler} (hF:qaY N x_1 count_2 x0 = some r) (hG:Glob u) (ok:Ok u m0 ([(pb0,oc 57 [c9,c12])] :: M10 :: M13 :: S) w),Calls Tryz.prog 52 [vp pb0,.agg vx_1.toArray,vs count_2].toArray w fun e w'=>∃ m1 c15 M16 c18 M19,e = .returned (.tuple [].toArray) ∧ m0.le m1 ∧ Ok u m1 ([(pb0,oc 57 [c15,c18])] :: M16 :: M19 :: S) w' ∧ ORow 9 1 pS m1 c15 r.Code.Names M16 ∧ ORow 47 4 pIns m1 c18 r.Code.Ins M19
theorem qht (N:Nat) (ih_compile_compiler_parts:qdg N) (ih_compile_compiler_selection:qcJ N):qdg (N + 1):=by
 intro u m0 S w vl_1 l_1 hl_1 count_2 lcount_2 pb0 c1 M2 c4 M5 x0 h3 h6 r hF hG ok
 have le_m0:=Mem.le.refl m0
 have hF0:qcP (qaX N) (qaY N) N l_1 count_2 x0 = some r:=hF
 have hF:=hF0
 clear hF0
 unfold qcP at hF
 refine en (qiG u m0 S pb0 x0 c1 M2 c4 M5) r Tryz.func31 rfl rfl rfl (by rintro a w ⟨m1,c7,M8,c10,M11,hle,ok,hd,hrv,h0,h1⟩; exact qbO [] hd rfl hrv ⟨m1,c7,M8,c10,M11,rfl,hle,ok,h0,h1⟩) fun fin a E=>sg<|mv E rfl fun a E=>lv E ok (qaQ qbc hl_1 rfl) fun a E=>mv E rfl fun a E=>wn<|wp_block<|bd hF fun o21 hL hF=>qa9 _ (fun (s:Int × Compiler) a w=>∃ m22 c24 M25 c27 M28,m0.le m22 ∧ Ok u m22 ([(pb0,oc 57 [c24,c27])] :: M25 :: M28 :: S) w ∧ Env 88 a [(0,vp pb0),(2,vs count_2),(8,vl_1),(9,(vi (l_1.length:Int))),(10,vi s.1)] ∧ InR .i64 s.1 ∧ ORow 9 1 pS m22 c24 s.2.Code.Names M25 ∧ ORow 47 4 pIns m22 c27 s.2.Code.Ins M28) (fun (b:Compiler) e a w=>e = (.exit 0) ∧ ∃ m304 c305 M306 c308 M309,m0.le m304 ∧ Ok u m304 ([(pb0,oc 57 [c305,c308])] :: M306 :: M309 :: S) w ∧ Env 88 a [] ∧ ORow 9 1 pS m304 c305 b.Code.Names M306 ∧ ORow 47 4 pIns m304 c308 b.Code.Ins M309) ?_ ?_ N _ a w hL ⟨m0,c1,M2,c4,M5,Mem.le.refl _,ok,E.keep [0,2,8,9,10],(ir 0),h3,h6⟩
 rotate_left
 ·intro e a w _ hO
  obtain ⟨rfl,m297,c298,M299,c301,M302,hle,ok,E,h300,h303⟩:=hO
  have le_m0:=le_m0.trans hle
  have hl_1:=(mL qai).up hle hl_1
  refine qbm ?_
  exact fin hF ⟨m297,c298,M299,c301,M302,le_m0,ok,E.d,trivial,h300,h303⟩
 rintro ⟨v30,v31⟩ a w r ⟨m32,c34,M35,c37,M38,hle,ok,E,r33,h36,h39⟩ hF
 replace hF:qcA (qaX N) (qaY N) N l_1 count_2 v30 v31 = some r:=hF
 unfold qcA at hF
 have le_m0:=le_m0.trans hle
 have hl_1:=(mL qai).up hle hl_1
 refine sg<|lw E (qaO rfl rfl) fun a E=>wn<|wp_seq<|cg E rfl hF (fun c40 hF=>?_) fun c40 hF=>?_
 ·refine wp_exit<|qaU ?_
  cases hF
  exact so (⟨rfl,⟨m32,c34,M35,c37,M38,le_m0,ok,E.keep [],h36,h39⟩⟩)
 refine wp_skip<|qaa<|wp_seq<|wp_block<|sg ?_
 obtain ⟨x41,e42,hF⟩:=bnd hF
 obtain ⟨b43,o44,es45,hl46,rr47,at48,yy49⟩:=ia E 8 10 qbc hl_1 e42
 obtain ⟨c54,c56,rfl,r50,l51,l52,l53,h55,h57⟩:=(qaK.1 rr47)
 refine lv E ok (yy49 _ _) fun a E=>lv E ok (qas (cs:=[vi x41.Kind,vs x41.Text,vs x41.Name,vs x41.Style,c54,c56]) qdr rfl rfl (qad.ro at48)) fun a E=>qa4 E ok qbv rfl rfl fun b58 a w E ok=>qae E ok 0 rfl rfl rfl qfd rfl rfl ⟨rfl,rfl,rfl,rfl,(qcD h55),(qcD h57),trivial⟩ rfl rfl fun w ok=>wn<|wp_block<|sg<|fk E ok qay qap rfl 0 rfl rfl fun a E=>lw E (qao rfl rfl) fun a E=>aw E rfl fun a E=>cf E rfl hF (fun c59 hF=>?_) fun c59 hF=>?_
 ·refine qac<|mv E rfl fun a E=>fk E ok qcz qak rfl 0 rfl rfl fun a E=>lw E (qau (ps:=[(0,.const (vi 1)),(3,.tmp 32)]) (qs:=[(0,[vi 1]),(3,[vs x41.Text])]) (cs:=[vi 1,vi 0,vi 0,vs x41.Text]) qdK qdv rfl ⟨rfl,rfl,rfl,⟨rfl,rfl,rfl,trivial⟩⟩ rfl) fun a E=>?_
  obtain ⟨r60,e61,hF⟩:=bnd hF
  replace ok:Ok u m32 ([(pb0,oc 57 [c34,c37])] :: M35 :: M38 :: [(b58,oc 82 [vi x41.Kind,vs x41.Text,vs x41.Name,vs x41.Style,c54,c56])] :: S) w:=(ok.pk 4 [1,2,3,0] rfl (by decide))
  refine qag E qgf rfl (qbl N _ (Ins.mk 1 0 0 x41.Text) ⟨rfl,(ir 1),(ir 0),(ir 0),l51⟩ v31 h36 h39 e61 hG ok) rfl rfl ?_
  rintro _ w ⟨m62,c64,M65,c67,M68,rfl,hle,ok,r63,h66,h69⟩
  have le_m0:=le_m0.trans hle
  have hl_1:=(mL qai).up hle hl_1
  have h55:=(mL qaC).up hle h55
  have h57:=(mL qai).up hle h57
  have at48:=At.up hle at48
  refine ⟨_,rfl,fun a E=>?_⟩
  refine wpList_nil<|qaf<|qaf<|qaa<|qac<|lw E (qaA rfl rfl (InR.inc r33 (qal hl_1) c40)) fun a E=>mv E rfl fun a E=>wpList_nil ?_
  cases hF
  exact qar ⟨m62,c64,M65,c67,M68,le_m0,(ok.pk 4 [0,1,2] rfl (by decide)),E.keep [0,2,8,9,10],(InR.inc r33 (qal hl_1) c40),h66,h69⟩
 refine sg<|fk E ok qay qap rfl 0 rfl rfl fun a E=>lw E (qao rfl rfl) fun a E=>aw E rfl fun a E=>cf E rfl hF (fun c70 hF=>?_) fun c70 hF=>?_
 ·refine qac<|mz E rfl rfl fun a E=>mv E rfl fun a E=>?_
  obtain ⟨r71,e72,hF⟩:=bnd hF
  replace ok:Ok u m32 ([(pb0,oc 57 [c34,c37])] :: M35 :: M38 :: [(b58,oc 82 [vi x41.Kind,vs x41.Text,vs x41.Name,vs x41.Style,c54,c56])] :: S) w:=(ok.pk 4 [1,2,3,0] rfl (by decide))
  refine qag E qmS rfl (qd7 N count_2 lcount_2 v31 h36 h39 e72 hG ok) rfl rfl ?_
  rintro _ w ⟨m73,c75,M76,c78,M79,rfl,hle,ok,r74,h77,h80⟩
  have le_m0:=le_m0.trans hle
  have hl_1:=(mL qai).up hle hl_1
  have h55:=(mL qaC).up hle h55
  have h57:=(mL qai).up hle h57
  have at48:=At.up hle at48
  refine ⟨_,rfl,fun a E=>?_⟩
  refine lw E (qau (ps:=[(0,.const (vi 6)),(1,.tmp 42)]) (qs:=[(0,[vi 6]),(1,[vi r71.1])]) (cs:=[vi 6,vi r71.1,vi 0,(vs ([]))]) qdK qdv rfl ⟨rfl,rfl,rfl,⟨rfl,rfl,rfl,trivial⟩⟩ rfl) fun a E=>bd hF fun r81 e82 hF=>qag E qgf rfl (qbl N _ (Ins.mk 6 r71.1 0 ([])) ⟨rfl,(ir 6),r74,(ir 0),(Nat.zero_le _)⟩ r71.2 h77 h80 e82 hG ok) rfl rfl ?_
  rintro _ w ⟨m83,c85,M86,c88,M89,rfl,hle,ok,r84,h87,h90⟩
  have le_m0:=le_m0.trans hle
  have hl_1:=(mL qai).up hle hl_1
  have h55:=(mL qaC).up hle h55
  have h57:=(mL qai).up hle h57
  have at48:=At.up hle at48
  refine ⟨_,rfl,fun a E=>?_⟩
  refine wpList_nil<|qaf<|qaf<|qaa<|qac<|lw E (qaA rfl rfl (InR.inc r33 (qal hl_1) c40)) fun a E=>mv E rfl fun a E=>wpList_nil ?_
  cases hF
  exact qar ⟨m83,c85,M86,c88,M89,le_m0,(ok.pk 4 [0,1,2] rfl (by decide)),E.keep [0,2,8,9,10],(InR.inc r33 (qal hl_1) c40),h87,h90⟩
 refine sg<|fk E ok qay qap rfl 0 rfl rfl fun a E=>lw E (qao rfl rfl) fun a E=>mv E rfl fun a E=>bw E 49 hF (fun c91 hF E=>?_) fun c91 hF E=>?_
 ·as_aux_lemma =>
   refine lsz E fun a E=>pf E rfl rfl fun a E=>aw E rfl fun a E=>c_if E rfl (fun h=>by cases h) (fun _=>?_)
   refine sg<|fk E ok qay qap rfl 0 rfl rfl fun a E=>lw E (qao rfl rfl) fun a E=>aw E rfl fun a E=>cf E rfl hF (fun c200 hF=>?_) fun c200 hF=>?_
   ·refine sg<|mv E rfl fun a E=>fk E ok qaN qak rfl 0 rfl rfl fun a E=>lw E (qau (ps:=[(0,.const (vi 2)),(3,.tmp 66)]) (qs:=[(0,[vi 2]),(3,[vs x41.Name])]) (cs:=[vi 2,vi 0,vi 0,vs x41.Name]) qdK qdv rfl ⟨rfl,rfl,rfl,⟨rfl,rfl,rfl,trivial⟩⟩ rfl) fun a E=>?_
    obtain ⟨r201,e202,hF⟩:=bnd hF
    replace ok:Ok u m32 ([(pb0,oc 57 [c34,c37])] :: M35 :: M38 :: [(b58,oc 82 [vi x41.Kind,vs x41.Text,vs x41.Name,vs x41.Style,c54,c56])] :: S) w:=(ok.pk 4 [1,2,3,0] rfl (by decide))
    refine qag E qgf rfl (qbl N _ (Ins.mk 2 0 0 x41.Name) ⟨rfl,(ir 2),(ir 0),(ir 0),l52⟩ v31 h36 h39 e202 hG ok) rfl rfl ?_
    rintro _ w ⟨m203,c205,M206,c208,M209,rfl,hle,ok,r204,h207,h210⟩
    have le_m0:=le_m0.trans hle
    have hl_1:=(mL qai).up hle hl_1
    have h55:=(mL qaC).up hle h55
    have h57:=(mL qai).up hle h57
    have at48:=At.up hle at48
    refine ⟨_,rfl,fun a E=>?_⟩
    refine wn<|sg<|mv E rfl fun a E=>fk E ok qbR qbu rfl 3 rfl rfl fun a E=>mv E rfl fun a E=>bd hF fun r211 e212 hF=>qag E qmR rfl (ih_compile_compiler_parts _ x41.Parts h57 count_2 lcount_2 r201.2 h207 h210 e212 hG ok) rfl rfl ?_
    rintro _ w ⟨m213,c214,M215,c217,M218,rfl,hle,ok,h216,h219⟩
    have le_m0:=le_m0.trans hle
    have hl_1:=(mL qai).up hle hl_1
    have h55:=(mL qaC).up hle h55
    have h57:=(mL qai).up hle h57
    have at48:=At.up hle at48
    refine ⟨_,rfl,fun a E=>?_⟩
    refine wn<|qac<|mv E rfl fun a E=>fk E ok qaN qak rfl 3 rfl rfl fun a E=>lw E (qau (ps:=[(0,.const (vi 3)),(3,.tmp 76)]) (qs:=[(0,[vi 3]),(3,[vs x41.Name])]) (cs:=[vi 3,vi 0,vi 0,vs x41.Name]) qdK qdv rfl ⟨rfl,rfl,rfl,⟨rfl,rfl,rfl,trivial⟩⟩ rfl) fun a E=>bd hF fun r220 e221 hF=>qag E qgf rfl (qbl N _ (Ins.mk 3 0 0 x41.Name) ⟨rfl,(ir 3),(ir 0),(ir 0),l52⟩ r211 h216 h219 e221 hG ok) rfl rfl ?_
    rintro _ w ⟨m222,c224,M225,c227,M228,rfl,hle,ok,r223,h226,h229⟩
    have le_m0:=le_m0.trans hle
    have hl_1:=(mL qai).up hle hl_1
    have h55:=(mL qaC).up hle h55
    have h57:=(mL qai).up hle h57
    have at48:=At.up hle at48
    refine ⟨_,rfl,fun a E=>?_⟩
    refine wpList_nil<|qaf<|qaf<|qaa<|qac<|lw E (qaA rfl rfl (InR.inc r33 (qal hl_1) c40)) fun a E=>mv E rfl fun a E=>wpList_nil ?_
    cases hF
    exact qar ⟨m222,c224,M225,c227,M228,le_m0,(ok.pk 4 [0,1,2] rfl (by decide)),E.keep [0,2,8,9,10],(InR.inc r33 (qal hl_1) c40),h226,h229⟩
   refine sg<|fk E ok qay qap rfl 0 rfl rfl fun a E=>bd hF fun r230 e231 hF=>lc E qiQ rfl (qcO N x41.Kind r50 e231 hG ok) fun w ok a E=>aw E rfl fun a E=>cf E rfl hF (fun c232 hF=>?_) fun c232 hF=>?_
   ·refine qac<|mv E rfl fun a E=>lv E ok (qas (cs:=[vi x41.Kind,vs x41.Text,vs x41.Name,vs x41.Style,c54,c56]) qdr rfl rfl (qad.own 0 rfl rfl)) fun a E=>mv E rfl fun a E=>?_
    obtain ⟨r233,e234,hF⟩:=bnd hF
    replace ok:Ok u m32 ([(pb0,oc 57 [c34,c37])] :: M35 :: M38 :: [(b58,oc 82 [vi x41.Kind,vs x41.Text,vs x41.Name,vs x41.Style,c54,c56])] :: S) w:=(ok.pk 4 [1,2,3,0] rfl (by decide))
    refine qag E qqv rfl (ih_compile_compiler_selection _ x41 (qaK.2 ⟨_,_,rfl,r50,l51,l52,l53,h55,h57⟩) count_2 lcount_2 v31 h36 h39 e234 hG ok) rfl rfl ?_
    rintro _ w ⟨m235,c236,M237,c239,M240,rfl,hle,ok,h238,h241⟩
    have le_m0:=le_m0.trans hle
    have hl_1:=(mL qai).up hle hl_1
    have h55:=(mL qaC).up hle h55
    have h57:=(mL qai).up hle h57
    have at48:=At.up hle at48
    refine ⟨_,rfl,fun a E=>?_⟩
    refine wpList_nil<|qaf<|qaf<|qaa<|qac<|lw E (qaA rfl rfl (InR.inc r33 (qal hl_1) c40)) fun a E=>mv E rfl fun a E=>wpList_nil ?_
    cases hF
    exact qar ⟨m235,c236,M237,c239,M240,le_m0,(ok.pk 4 [0,1,2] rfl (by decide)),E.keep [0,2,8,9,10],(InR.inc r33 (qal hl_1) c40),h238,h241⟩
   refine bd hF fun o242 hJ hF=>qaG (Q':=fun e a w=>e = .normal ∧ ∃ m243 c244 M245 c247 M248,m32.le m243 ∧ Ok u m243 ([(b58,oc 82 [vi x41.Kind,vs x41.Text,vs x41.Name,vs x41.Style,c54,c56])] :: [(pb0,oc 57 [c244,c247])] :: M245 :: M248 :: S) w ∧ Env 88 a [(0,vp pb0),(2,vs count_2),(8,vl_1),(9,(vi (l_1.length:Int))),(10,vi v30)] ∧ ORow 9 1 pS m243 c244 o242.Code.Names M245 ∧ ORow 47 4 pIns m243 c247 o242.Code.Ins M248) ?_ ?_
   rotate_left
   ·intro e a w hO
    obtain ⟨rfl,m290,c291,M292,c294,M295,hle,ok,E,h293,h296⟩:=hO
    have le_m0:=le_m0.trans hle
    have hl_1:=(mL qai).up hle hl_1
    have h55:=(mL qaC).up hle h55
    have h57:=(mL qai).up hle h57
    have at48:=At.up hle at48
    refine qaf<|qaf<|qaa<|qac<|lw E (qaA rfl rfl (InR.inc r33 (qal hl_1) c40)) fun a E=>mv E rfl fun a E=>wpList_nil ?_
    cases hF
    exact qar ⟨m290,c291,M292,c294,M295,le_m0,(ok.pk 4 [1,2,3] rfl (by decide)),E.keep [0,2,8,9,10],(InR.inc r33 (qal hl_1) c40),h293,h296⟩
   have hF:=hJ
   have le_m32:=Mem.le.refl m32
   obtain ⟨r250,e251,hF⟩:=bnd hF
   obtain ⟨r253,e254,hF⟩:=bnd hF
   obtain ⟨r263,e264,hF⟩:=bnd hF
   obtain rfl:=sj hF
   refine qbI [] (Cls u m32 ([(b58,oc 82 [vi x41.Kind,vs x41.Text,vs x41.Name,vs x41.Style,c54,c56])] :: [])) (Cls u m32 ([(b58,oc 82 [vi x41.Kind,vs x41.Text,vs x41.Name,vs x41.Style,c54,c56])] :: [])) (by kernel_rfl) ?_
   intro w hw
   replace ok:=qb3 ok hw
   clear hw
   have h55_o:=h55
   have h57_o:=h57
   refine qaw (cl1 (cq le_m32 ok [0] rfl) (cq le_m32 ok [0] rfl)) fun hT=>kt 0 E rfl hT (qan rfl) fun a E=>kt 1 E rfl hT (qaj qay rfl) fun a E=>kt 2 E rfl hT (qat qap rfl (qad.cown 0 rfl rfl)) fun a E=>kt 4 E rfl hT (qan rfl) fun a E=>kt 5 E rfl hT (qaj qaN rfl) fun a E=>kt 6 E rfl hT (qat qak rfl (qad.cown 0 rfl rfl)) fun a E=>kt 8 E rfl hT (qaj qaW rfl) fun a E=>kt 9 E rfl hT (qat qak rfl (qad.cown 0 rfl rfl)) fun a E=>qa1 [3] (by kernel_rfl) rfl (qa8 ?_)
   ·refine wo rfl<|qag E qqs rfl (qha N x41.Kind r50 e251 hG ok) rfl rfl ?_
    rintro _ w ⟨⟨rfl,ok⟩,r273⟩
    refine ⟨_,rfl,fun a E=>?_⟩
    refine wn<|qaw (cl1 (cq le_m32 ok [0] rfl) (cq le_m32 ok [0] rfl)) fun hT=>qa1 [7] (by kernel_rfl) rfl (qa8 ?_)
    ·refine qdd (o:=_) rfl ?_
     replace ok:Ok u m32 ([(pb0,oc 57 [c34,c37])] :: M35 :: M38 :: [(b58,oc 82 [vi x41.Kind,vs x41.Text,vs x41.Name,vs x41.Style,c54,c56])] :: S) w:=(ok.pk 4 [1,2,3,0] rfl (by decide))
     refine qag E qmS rfl (qd7 N x41.Name l52 v31 h36 h39 e254 hG ok) rfl rfl ?_
     rintro _ w ⟨m274,c276,M277,c279,M280,rfl,hle,ok,r275,h278,h281⟩
     have le_m0:=le_m0.trans hle
     have le_m32:=le_m32.trans hle
     have hl_1:=(mL qai).up hle hl_1
     have h55:=(mL qaC).up hle h55
     have h57:=(mL qai).up hle h57
     have at48:=At.up hle at48
     refine ⟨_,rfl,fun a E=>?_⟩
     refine wn<|qaw (cl1 (cq le_m32 ok [3] rfl) (cq le_m32 ok [3] rfl)) fun hT=>kt 10 E rfl hT (qau (ps:=[(0,.tmp 17),(1,.tmp 21),(3,.tmp 23)]) (qs:=[(0,[vi r250]),(1,[vi r253.1]),(3,[vs x41.Style])]) (cs:=[vi r250,vi r253.1,vi 0,vs x41.Style]) qdK qdv rfl ⟨rfl,rfl,rfl,⟨rfl,rfl,rfl,⟨rfl,rfl,rfl,trivial⟩⟩⟩ rfl) fun a E=>qa1 [11] (by kernel_rfl) rfl (qa8 ?_)
     ·refine wo rfl<|qag E qgf rfl (qbl N _ (Ins.mk r250 r253.1 0 x41.Style) ⟨rfl,r273,r275,(ir 0),l53⟩ r253.2 h278 h281 e264 hG ok) rfl rfl ?_
      rintro _ w ⟨m282,c284,M285,c287,M288,rfl,hle,ok,r283,h286,h289⟩
      have le_m0:=le_m0.trans hle
      have le_m32:=le_m32.trans hle
      have hl_1:=(mL qai).up hle hl_1
      have h55:=(mL qaC).up hle h55
      have h57:=(mL qai).up hle h57
      have at48:=At.up hle at48
      refine ⟨_,rfl,fun a E=>?_⟩
      refine wn<|qaw (cl1 (cq le_m32 ok [3] rfl) (cq le_m32 ok [3] rfl)) fun hT=>qbK (by kernel_rfl) ?_
      exact ⟨rfl,⟨m282,c284,M285,c287,M288,le_m32,(ok.pk 4 [3,0,1,2] rfl (by decide)),E.keep [0,2,8,9,10],h286,h289⟩⟩
 refine fk E ok qbR qbu rfl 0 rfl rfl fun a E=>lv E ok (qaQ qbc h57 rfl) fun a E=>lw E (qao rfl rfl) fun a E=>pt E rfl rfl fun a E=>aw E rfl fun a E=>cf E rfl hF (fun c92 hF=>?_) fun c92 hF=>?_
 ·refine qac<|mv E rfl fun a E=>fk E ok qaN qak rfl 0 rfl rfl fun a E=>lw E (qau (ps:=[(0,.const (vi 4)),(3,.tmp 57)]) (qs:=[(0,[vi 4]),(3,[vs x41.Name])]) (cs:=[vi 4,vi 0,vi 0,vs x41.Name]) qdK qdv rfl ⟨rfl,rfl,rfl,⟨rfl,rfl,rfl,trivial⟩⟩ rfl) fun a E=>?_
  obtain ⟨r93,e94,hF⟩:=bnd hF
  replace ok:Ok u m32 ([(pb0,oc 57 [c34,c37])] :: M35 :: M38 :: [(b58,oc 82 [vi x41.Kind,vs x41.Text,vs x41.Name,vs x41.Style,c54,c56])] :: S) w:=(ok.pk 4 [1,2,3,0] rfl (by decide))
  refine qag E qgf rfl (qbl N _ (Ins.mk 4 0 0 x41.Name) ⟨rfl,(ir 4),(ir 0),(ir 0),l52⟩ v31 h36 h39 e94 hG ok) rfl rfl ?_
  rintro _ w ⟨m95,c97,M98,c100,M101,rfl,hle,ok,r96,h99,h102⟩
  have le_m0:=le_m0.trans hle
  have hl_1:=(mL qai).up hle hl_1
  have h55:=(mL qaC).up hle h55
  have h57:=(mL qai).up hle h57
  have at48:=At.up hle at48
  refine ⟨_,rfl,fun a E=>?_⟩
  refine wpList_nil<|qaf<|qaf<|qaa<|qac<|lw E (qaA rfl rfl (InR.inc r33 (qal hl_1) c40)) fun a E=>mv E rfl fun a E=>wpList_nil ?_
  cases hF
  exact qar ⟨m95,c97,M98,c100,M101,le_m0,(ok.pk 4 [0,1,2] rfl (by decide)),E.keep [0,2,8,9,10],(InR.inc r33 (qal hl_1) c40),h99,h102⟩
 refine sg<|fk E ok qay qap rfl 0 rfl rfl fun a E=>lw E (qao rfl rfl) fun a E=>aw E rfl fun a E=>cf E rfl hF (fun c103 hF=>?_) fun c103 hF=>?_
 ·refine sg<|mv E rfl fun a E=>fk E ok qaN qak rfl 0 rfl rfl fun a E=>lw E (qau (ps:=[(0,.const (vi 2)),(3,.tmp 66)]) (qs:=[(0,[vi 2]),(3,[vs x41.Name])]) (cs:=[vi 2,vi 0,vi 0,vs x41.Name]) qdK qdv rfl ⟨rfl,rfl,rfl,⟨rfl,rfl,rfl,trivial⟩⟩ rfl) fun a E=>?_
  obtain ⟨r104,e105,hF⟩:=bnd hF
  replace ok:Ok u m32 ([(pb0,oc 57 [c34,c37])] :: M35 :: M38 :: [(b58,oc 82 [vi x41.Kind,vs x41.Text,vs x41.Name,vs x41.Style,c54,c56])] :: S) w:=(ok.pk 4 [1,2,3,0] rfl (by decide))
  refine qag E qgf rfl (qbl N _ (Ins.mk 2 0 0 x41.Name) ⟨rfl,(ir 2),(ir 0),(ir 0),l52⟩ v31 h36 h39 e105 hG ok) rfl rfl ?_
  rintro _ w ⟨m106,c108,M109,c111,M112,rfl,hle,ok,r107,h110,h113⟩
  have le_m0:=le_m0.trans hle
  have hl_1:=(mL qai).up hle hl_1
  have h55:=(mL qaC).up hle h55
  have h57:=(mL qai).up hle h57
  have at48:=At.up hle at48
  refine ⟨_,rfl,fun a E=>?_⟩
  refine wn<|sg<|mv E rfl fun a E=>fk E ok qbR qbu rfl 3 rfl rfl fun a E=>mv E rfl fun a E=>bd hF fun r114 e115 hF=>qag E qmR rfl (ih_compile_compiler_parts _ x41.Parts h57 count_2 lcount_2 r104.2 h110 h113 e115 hG ok) rfl rfl ?_
  rintro _ w ⟨m116,c117,M118,c120,M121,rfl,hle,ok,h119,h122⟩
  have le_m0:=le_m0.trans hle
  have hl_1:=(mL qai).up hle hl_1
  have h55:=(mL qaC).up hle h55
  have h57:=(mL qai).up hle h57
  have at48:=At.up hle at48
  refine ⟨_,rfl,fun a E=>?_⟩
  refine wn<|qac<|mv E rfl fun a E=>fk E ok qaN qak rfl 3 rfl rfl fun a E=>lw E (qau (ps:=[(0,.const (vi 3)),(3,.tmp 76)]) (qs:=[(0,[vi 3]),(3,[vs x41.Name])]) (cs:=[vi 3,vi 0,vi 0,vs x41.Name]) qdK qdv rfl ⟨rfl,rfl,rfl,⟨rfl,rfl,rfl,trivial⟩⟩ rfl) fun a E=>bd hF fun r123 e124 hF=>qag E qgf rfl (qbl N _ (Ins.mk 3 0 0 x41.Name) ⟨rfl,(ir 3),(ir 0),(ir 0),l52⟩ r114 h119 h122 e124 hG ok) rfl rfl ?_
  rintro _ w ⟨m125,c127,M128,c130,M131,rfl,hle,ok,r126,h129,h132⟩
  have le_m0:=le_m0.trans hle
  have hl_1:=(mL qai).up hle hl_1
  have h55:=(mL qaC).up hle h55
  have h57:=(mL qai).up hle h57
  have at48:=At.up hle at48
  refine ⟨_,rfl,fun a E=>?_⟩
  refine wpList_nil<|qaf<|qaf<|qaa<|qac<|lw E (qaA rfl rfl (InR.inc r33 (qal hl_1) c40)) fun a E=>mv E rfl fun a E=>wpList_nil ?_
  cases hF
  exact qar ⟨m125,c127,M128,c130,M131,le_m0,(ok.pk 4 [0,1,2] rfl (by decide)),E.keep [0,2,8,9,10],(InR.inc r33 (qal hl_1) c40),h129,h132⟩
 refine sg<|fk E ok qay qap rfl 0 rfl rfl fun a E=>bd hF fun r133 e134 hF=>lc E qiQ rfl (qcO N x41.Kind r50 e134 hG ok) fun w ok a E=>aw E rfl fun a E=>cf E rfl hF (fun c135 hF=>?_) fun c135 hF=>?_
 ·refine qac<|mv E rfl fun a E=>lv E ok (qas (cs:=[vi x41.Kind,vs x41.Text,vs x41.Name,vs x41.Style,c54,c56]) qdr rfl rfl (qad.own 0 rfl rfl)) fun a E=>mv E rfl fun a E=>?_
  obtain ⟨r136,e137,hF⟩:=bnd hF
  replace ok:Ok u m32 ([(pb0,oc 57 [c34,c37])] :: M35 :: M38 :: [(b58,oc 82 [vi x41.Kind,vs x41.Text,vs x41.Name,vs x41.Style,c54,c56])] :: S) w:=(ok.pk 4 [1,2,3,0] rfl (by decide))
  refine qag E qqv rfl (ih_compile_compiler_selection _ x41 (qaK.2 ⟨_,_,rfl,r50,l51,l52,l53,h55,h57⟩) count_2 lcount_2 v31 h36 h39 e137 hG ok) rfl rfl ?_
  rintro _ w ⟨m138,c139,M140,c142,M143,rfl,hle,ok,h141,h144⟩
  have le_m0:=le_m0.trans hle
  have hl_1:=(mL qai).up hle hl_1
  have h55:=(mL qaC).up hle h55
  have h57:=(mL qai).up hle h57
  have at48:=At.up hle at48
  refine ⟨_,rfl,fun a E=>?_⟩
  refine wpList_nil<|qaf<|qaf<|qaa<|qac<|lw E (qaA rfl rfl (InR.inc r33 (qal hl_1) c40)) fun a E=>mv E rfl fun a E=>wpList_nil ?_
  cases hF
  exact qar ⟨m138,c139,M140,c142,M143,le_m0,(ok.pk 4 [0,1,2] rfl (by decide)),E.keep [0,2,8,9,10],(InR.inc r33 (qal hl_1) c40),h141,h144⟩
 refine bd hF fun o145 hJ hF=>qaG (Q':=fun e a w=>e = .normal ∧ ∃ m146 c147 M148 c150 M151,m32.le m146 ∧ Ok u m146 ([(b58,oc 82 [vi x41.Kind,vs x41.Text,vs x41.Name,vs x41.Style,c54,c56])] :: [(pb0,oc 57 [c147,c150])] :: M148 :: M151 :: S) w ∧ Env 88 a [(0,vp pb0),(2,vs count_2),(8,vl_1),(9,(vi (l_1.length:Int))),(10,vi v30)] ∧ ORow 9 1 pS m146 c147 o145.Code.Names M148 ∧ ORow 47 4 pIns m146 c150 o145.Code.Ins M151) ?_ ?_
 rotate_left
 ·intro e a w hO
  obtain ⟨rfl,m193,c194,M195,c197,M198,hle,ok,E,h196,h199⟩:=hO
  have le_m0:=le_m0.trans hle
  have hl_1:=(mL qai).up hle hl_1
  have h55:=(mL qaC).up hle h55
  have h57:=(mL qai).up hle h57
  have at48:=At.up hle at48
  refine qaf<|qaf<|qaa<|qac<|lw E (qaA rfl rfl (InR.inc r33 (qal hl_1) c40)) fun a E=>mv E rfl fun a E=>wpList_nil ?_
  cases hF
  exact qar ⟨m193,c194,M195,c197,M198,le_m0,(ok.pk 4 [1,2,3] rfl (by decide)),E.keep [0,2,8,9,10],(InR.inc r33 (qal hl_1) c40),h196,h199⟩
 have hF:=hJ
 have le_m32:=Mem.le.refl m32
 obtain ⟨r153,e154,hF⟩:=bnd hF
 obtain ⟨r156,e157,hF⟩:=bnd hF
 obtain ⟨r166,e167,hF⟩:=bnd hF
 obtain rfl:=sj hF
 refine qbI [] (Cls u m32 ([(b58,oc 82 [vi x41.Kind,vs x41.Text,vs x41.Name,vs x41.Style,c54,c56])] :: [])) (Cls u m32 ([(b58,oc 82 [vi x41.Kind,vs x41.Text,vs x41.Name,vs x41.Style,c54,c56])] :: [])) (by kernel_rfl) ?_
 intro w hw
 replace ok:=qb3 ok hw
 clear hw
 have h55_o:=h55
 have h57_o:=h57
 refine qaw (cl1 (cq le_m32 ok [0] rfl) (cq le_m32 ok [0] rfl)) fun hT=>kt 0 E rfl hT (qan rfl) fun a E=>kt 1 E rfl hT (qaj qay rfl) fun a E=>kt 2 E rfl hT (qat qap rfl (qad.cown 0 rfl rfl)) fun a E=>kt 4 E rfl hT (qan rfl) fun a E=>kt 5 E rfl hT (qaj qaN rfl) fun a E=>kt 6 E rfl hT (qat qak rfl (qad.cown 0 rfl rfl)) fun a E=>kt 8 E rfl hT (qaj qaW rfl) fun a E=>kt 9 E rfl hT (qat qak rfl (qad.cown 0 rfl rfl)) fun a E=>qa1 [3] (by kernel_rfl) rfl (qa8 ?_)
 ·refine wo rfl<|qag E qqs rfl (qha N x41.Kind r50 e154 hG ok) rfl rfl ?_
  rintro _ w ⟨⟨rfl,ok⟩,r176⟩
  refine ⟨_,rfl,fun a E=>?_⟩
  refine wn<|qaw (cl1 (cq le_m32 ok [0] rfl) (cq le_m32 ok [0] rfl)) fun hT=>qa1 [7] (by kernel_rfl) rfl (qa8 ?_)
  ·refine qdd (o:=_) rfl ?_
   replace ok:Ok u m32 ([(pb0,oc 57 [c34,c37])] :: M35 :: M38 :: [(b58,oc 82 [vi x41.Kind,vs x41.Text,vs x41.Name,vs x41.Style,c54,c56])] :: S) w:=(ok.pk 4 [1,2,3,0] rfl (by decide))
   refine qag E qmS rfl (qd7 N x41.Name l52 v31 h36 h39 e157 hG ok) rfl rfl ?_
   rintro _ w ⟨m177,c179,M180,c182,M183,rfl,hle,ok,r178,h181,h184⟩
   have le_m0:=le_m0.trans hle
   have le_m32:=le_m32.trans hle
   have hl_1:=(mL qai).up hle hl_1
   have h55:=(mL qaC).up hle h55
   have h57:=(mL qai).up hle h57
   have at48:=At.up hle at48
   refine ⟨_,rfl,fun a E=>?_⟩
   refine wn<|qaw (cl1 (cq le_m32 ok [3] rfl) (cq le_m32 ok [3] rfl)) fun hT=>kt 10 E rfl hT (qau (ps:=[(0,.tmp 17),(1,.tmp 21),(3,.tmp 23)]) (qs:=[(0,[vi r153]),(1,[vi r156.1]),(3,[vs x41.Style])]) (cs:=[vi r153,vi r156.1,vi 0,vs x41.Style]) qdK qdv rfl ⟨rfl,rfl,rfl,⟨rfl,rfl,rfl,⟨rfl,rfl,rfl,trivial⟩⟩⟩ rfl) fun a E=>qa1 [11] (by kernel_rfl) rfl (qa8 ?_)
   ·refine wo rfl<|qag E qgf rfl (qbl N _ (Ins.mk r153 r156.1 0 x41.Style) ⟨rfl,r176,r178,(ir 0),l53⟩ r156.2 h181 h184 e167 hG ok) rfl rfl ?_
    rintro _ w ⟨m185,c187,M188,c190,M191,rfl,hle,ok,r186,h189,h192⟩
    have le_m0:=le_m0.trans hle
    have le_m32:=le_m32.trans hle
    have hl_1:=(mL qai).up hle hl_1
    have h55:=(mL qaC).up hle h55
    have h57:=(mL qai).up hle h57
    have at48:=At.up hle at48
    refine ⟨_,rfl,fun a E=>?_⟩
    refine wn<|qaw (cl1 (cq le_m32 ok [3] rfl) (cq le_m32 ok [3] rfl)) fun hT=>qbK (by kernel_rfl) ?_
    exact ⟨rfl,⟨m185,c187,M188,c190,M191,le_m32,(ok.pk 4 [3,0,1,2] rfl (by decide)),E.keep [0,2,8,9,10],h189,h192⟩⟩
theorem qgK (N:Nat) (ih_compile_compiler_parts:qdg N) (ih_compile_compiler_selection:qcJ N):qcJ (N + 1):=by
 intro u m0 S w vx_1 x_1 hx_1 count_2 lcount_2 pb0 c9 M10 c12 M13 x0 h11 h14 r hF hG ok
 obtain ⟨c5,c7,rfl,r1,l2,l3,l4,h6,h8⟩:=(qaK.1 hx_1)
 have le_m0:=Mem.le.refl m0
 have hF0:qcm (qaX N) (qaY N) N x_1 count_2 x0 = some r:=hF
 have hF:=hF0
 clear hF0
 unfold qcm at hF
 refine en (qhg u m0 S pb0 x0 c9 M10 c12 M13) r Tryz.func52 rfl rfl rfl (by rintro a w ⟨m1,c15,M16,c18,M19,hle,ok,hd,hrv,h0,h1⟩; exact qbO [] hd rfl hrv ⟨m1,c15,M16,c18,M19,rfl,hle,ok,h0,h1⟩) fun fin a E=>sg<|qfY E ok rfl rfl rfl fun b21 a w E ok=>wn<|wp_seq<|sg<|fk E ok qay qap rfl 0 rfl rfl fun a E=>lw E (qbN rfl rfl) fun a E=>wn<|bd hF fun o22 hJ hF=>qaG (Q':=fun e a w=>e = .normal ∧ Ok u m0 ([(b21,oc 82 [vi x_1.Kind,vs x_1.Text,vs x_1.Name,vs x_1.Style,c5,c7])] :: [(pb0,oc 57 [c9,c12])] :: M10 :: M13 :: S) w ∧ Env 104 a [(0,vp pb0),(2,vs o22),(4,vp b21)] ∧ o22.length ≤ LIMS) ?_ ?_
 ·have hF:=hJ
  refine cg E rfl hF (fun c24 hF=>?_) fun c24 hF=>?_
  ·refine wp_skip ?_
   cases hF
   exact ⟨rfl,⟨ok,E.keep [0,2,4],lcount_2⟩⟩
  refine qac<|fk E ok qaN qak rfl 0 rfl rfl fun a E=>av E rfl fun a E=>wpList_nil ?_
  cases hF
  exact ⟨rfl,⟨ok,E.keep [0,2,4],l3⟩⟩
 intro e a w hO
 obtain ⟨rfl,ok,E,l25⟩:=hO
 refine qaa<|wp_seq<|bd hF fun o26 hJ hF=>qaG (Q':=fun e a w=>e = .normal ∧ ∃ m27 c28 M29 c31 M32,m0.le m27 ∧ Ok u m27 ([(b21,oc 82 [vi x_1.Kind,vs x_1.Text,vs x_1.Name,vs x_1.Style,c5,c7])] :: [(pb0,oc 57 [c28,c31])] :: M29 :: M32 :: S) w ∧ Env 104 a [(0,vp pb0),(2,vs o22),(4,vp b21)] ∧ ORow 9 1 pS m27 c28 o26.Code.Names M29 ∧ ORow 47 4 pIns m27 c31 o26.Code.Ins M32) ?_ ?_
 ·have hF:=hJ
  obtain ⟨r34,e35,hF⟩:=bnd hF
  obtain ⟨r44,e45,hF⟩:=bnd hF
  obtain rfl:=sj hF
  refine qbI [] (Cls u m0 ([(b21,oc 82 [vi x_1.Kind,vs x_1.Text,vs x_1.Name,vs x_1.Style,c5,c7])] :: [])) (Cls u m0 ([(b21,oc 82 [vi x_1.Kind,vs x_1.Text,vs x_1.Name,vs x_1.Style,c5,c7])] :: [])) (by kernel_rfl) ?_
  intro w hw
  replace ok:=qb3 ok hw
  clear hw
  have h6_o:=h6
  have h8_o:=h8
  refine qaw (cl1 (cq le_m0 ok [0] rfl) (cq le_m0 ok [0] rfl)) fun hT=>kt 0 E rfl hT (qan rfl) fun a E=>kt 1 E rfl hT (qan rfl) fun a E=>kt 2 E rfl hT (qaj qaN rfl) fun a E=>kt 3 E rfl hT (qat qak rfl (qad.cown 0 rfl rfl)) fun a E=>kt 5 E rfl hT (qaj qay rfl) fun a E=>kt 6 E rfl hT (qat qap rfl (qad.cown 0 rfl rfl)) fun a E=>qa1 [4] (by kernel_rfl) rfl (qa8 ?_)
  ·refine qdd (o:=_) rfl ?_
   replace ok:Ok u m0 ([(pb0,oc 57 [c9,c12])] :: M10 :: M13 :: [(b21,oc 82 [vi x_1.Kind,vs x_1.Text,vs x_1.Name,vs x_1.Style,c5,c7])] :: S) w:=(ok.pk 4 [1,2,3,0] rfl (by decide))
   refine qag E qmS rfl (qd7 N x_1.Name l3 x0 h11 h14 e35 hG ok) rfl rfl ?_
   rintro _ w ⟨m54,c56,M57,c59,M60,rfl,hle,ok,r55,h58,h61⟩
   have le_m0:=le_m0.trans hle
   have h6:=(mL qaC).up hle h6
   have h8:=(mL qai).up hle h8
   refine ⟨_,rfl,fun a E=>?_⟩
   refine wn<|qaw (cl1 (cq le_m0 ok [3] rfl) (cq le_m0 ok [3] rfl)) fun hT=>kt 7 E rfl hT (qau (ps:=[(0,.const (vi 10)),(1,.tmp 23),(2,.tmp 25)]) (qs:=[(0,[vi 10]),(1,[vi r34.1]),(2,[vi x_1.Kind])]) (cs:=[vi 10,vi r34.1,vi x_1.Kind,(vs ([]))]) qdK qdv rfl ⟨rfl,rfl,rfl,⟨rfl,rfl,rfl,⟨rfl,rfl,rfl,trivial⟩⟩⟩ rfl) fun a E=>qa1 [8] (by kernel_rfl) rfl (qa8 ?_)
   ·refine wo rfl<|qag E qgf rfl (qbl N _ (Ins.mk 10 r34.1 x_1.Kind ([])) ⟨rfl,(ir 10),r55,r1,(Nat.zero_le _)⟩ r34.2 h58 h61 e45 hG ok) rfl rfl ?_
    rintro _ w ⟨m62,c64,M65,c67,M68,rfl,hle,ok,r63,h66,h69⟩
    have le_m0:=le_m0.trans hle
    have h6:=(mL qaC).up hle h6
    have h8:=(mL qai).up hle h8
    refine ⟨_,rfl,fun a E=>?_⟩
    refine wn<|qaw (cl1 (cq le_m0 ok [3] rfl) (cq le_m0 ok [3] rfl)) fun hT=>qbK (by kernel_rfl) ?_
    exact ⟨rfl,⟨m62,c64,M65,c67,M68,le_m0,(ok.pk 4 [3,0,1,2] rfl (by decide)),E.keep [0,2,4],h66,h69⟩⟩
 intro e a w hO
 obtain ⟨rfl,m70,c71,M72,c74,M75,hle,ok,E,h73,h76⟩:=hO
 have le_m0:=le_m0.trans hle
 have h6:=(mL qaC).up hle h6
 have h8:=(mL qai).up hle h8
 refine qaa<|sg<|mv E rfl fun a E=>lw E (qam rfl) fun a E=>fv E qeS rfl fun a E=>fk E ok qcQ qcX rfl 1 rfl rfl fun a E=>lv E ok (qeV qcZ h76 rfl) fun a E=>aw E rfl fun a E=>wp_seq<|sg<|fv E qa2 rfl fun a E=>ld E ok qbo 0 rfl rfl rfl fun a E=>lv E ok (qaQ qbr h6 rfl) fun a E=>mv E rfl fun a E=>wn<|wp_block<|bd hF fun o85 hL hF=>qa9 _ (fun (s:Int × Compiler) a w=>∃ m86 c88 M89 c91 M92,m70.le m86 ∧ Ok u m86 ([(b21,oc 82 [vi x_1.Kind,vs x_1.Text,vs x_1.Name,vs x_1.Style,c5,c7])] :: [(pb0,oc 57 [c88,c91])] :: M89 :: M92 :: S) w ∧ Env 104 a [(0,vp pb0),(2,vs o22),(4,vp b21),(6,(vi (o26.Code.Ins.length:Int))),(35,c5),(36,(vi (x_1.Cases.length:Int))),(37,vi s.1)] ∧ InR .i64 s.1 ∧ ORow 9 1 pS m86 c88 s.2.Code.Names M89 ∧ ORow 47 4 pIns m86 c91 s.2.Code.Ins M92) (fun (b:Compiler) e a w=>e = (.exit 0) ∧ ∃ m378 c379 M380 c382 M383,m70.le m378 ∧ Ok u m378 ([(b21,oc 82 [vi x_1.Kind,vs x_1.Text,vs x_1.Name,vs x_1.Style,c5,c7])] :: [(pb0,oc 57 [c379,c382])] :: M380 :: M383 :: S) w ∧ Env 104 a [(0,vp pb0),(2,vs o22),(4,vp b21),(6,(vi (o26.Code.Ins.length:Int)))] ∧ ORow 9 1 pS m378 c379 b.Code.Names M380 ∧ ORow 47 4 pIns m378 c382 b.Code.Ins M383) ?_ ?_ N _ a w hL ⟨m70,c71,M72,c74,M75,Mem.le.refl _,ok,E.keep [0,2,4,6,35,36,37],(ir 0),h73,h76⟩
 ·rintro ⟨v94,v95⟩ a w r ⟨m96,c98,M99,c101,M102,hle,ok,E,r97,h100,h103⟩ hF
  replace hF:qb8 (qaX N) (qaY N) N x_1 v94 v95 = some r:=hF
  unfold qb8 at hF
  have le_m70:=Mem.le.refl m70
  have le_m0:=le_m0.trans hle
  have le_m70:=le_m70.trans hle
  have h6:=(mL qaC).up hle h6
  have h8:=(mL qai).up hle h8
  refine sg<|lw E (qaO rfl rfl) fun a E=>wn<|wp_seq<|cg E rfl hF (fun c104 hF=>?_) fun c104 hF=>?_
  ·refine wp_exit<|qaU ?_
   cases hF
   exact so (⟨rfl,⟨m96,c98,M99,c101,M102,le_m70,ok,E.keep [0,2,4,6],h100,h103⟩⟩)
  refine wp_skip<|qaa<|wp_seq<|wp_block<|sg ?_
  obtain ⟨x105,e106,hF⟩:=bnd hF
  obtain ⟨b107,o108,es109,hl110,rr111,at112,yy113⟩:=ia E 35 37 qbr h6 e106
  obtain ⟨c115,rfl,l114,h116⟩:=rr111
  refine lv E ok (yy113 _ _) fun a E=>lv E ok (qas (cs:=[vs x105.Key,c115]) qiF rfl rfl (qad.ro at112)) fun a E=>qa4 E ok qdq rfl rfl fun b117 a w E ok=>qae E ok 0 rfl rfl rfl qiu rfl rfl ⟨rfl,(qcD h116),trivial⟩ rfl rfl fun w ok=>wn<|qac<|mv E rfl fun a E=>fk E ok qda qak rfl 0 rfl rfl fun a E=>lw E (qau (ps:=[(0,.const (vi 11)),(3,.tmp 43)]) (qs:=[(0,[vi 11]),(3,[vs x105.Key])]) (cs:=[vi 11,vi 0,vi 0,vs x105.Key]) qdK qdv rfl ⟨rfl,rfl,rfl,⟨rfl,rfl,rfl,trivial⟩⟩ rfl) fun a E=>?_
  obtain ⟨r118,e119,hF⟩:=bnd hF
  replace ok:Ok u m96 ([(pb0,oc 57 [c98,c101])] :: M99 :: M102 :: [(b117,oc 85 [vs x105.Key,c115])] :: [(b21,oc 82 [vi x_1.Kind,vs x_1.Text,vs x_1.Name,vs x_1.Style,c5,c7])] :: S) w:=(ok.pk 5 [2,3,4,0,1] rfl (by decide))
  refine qag E qgf rfl (qbl N _ (Ins.mk 11 0 0 x105.Key) ⟨rfl,(ir 11),(ir 0),(ir 0),l114⟩ v95 h100 h103 e119 hG ok) rfl rfl ?_
  rintro _ w ⟨m120,c122,M123,c125,M126,rfl,hle,ok,r121,h124,h127⟩
  have le_m0:=le_m0.trans hle
  have le_m70:=le_m70.trans hle
  have h6:=(mL qaC).up hle h6
  have h8:=(mL qai).up hle h8
  have h116:=(mL qai).up hle h116
  have at112:=At.up hle at112
  refine ⟨_,rfl,fun a E=>?_⟩
  refine wpList_nil<|qaf<|qaa<|qac<|lw E (qaA rfl rfl (InR.inc r97 (qal h6) c104)) fun a E=>mv E rfl fun a E=>wpList_nil ?_
  cases hF
  exact qar ⟨m120,c122,M123,c125,M126,le_m70,(ok.pk 5 [4,0,1,2] rfl (by decide)),E.keep [0,2,4,6,35,36,37],(InR.inc r97 (qal h6) c104),h124,h127⟩
 intro e a w _ hO
 obtain ⟨rfl,m128,c129,M130,c132,M133,hle,ok,E,h131,h134⟩:=hO
 have le_m0:=le_m0.trans hle
 have h6:=(mL qaC).up hle h6
 have h8:=(mL qai).up hle h8
 refine qbm<|qaa<|sg<|aw E rfl fun a E=>wp_seq<|sg<|fk E ok qa2 qbo rfl 0 rfl rfl fun a E=>lv E ok (qaQ qbr h6 rfl) fun a E=>mv E rfl fun a E=>wn<|wp_block ?_
 obtain ⟨M146,ok,h147⟩:=qeq (e:=3) (k:=1) (R:=(pI .i64)) ok
 refine bd hF fun o148 hL hF=>qa9 _ (fun (s:(List (Int)) × Int × Compiler) a w=>∃ m149 c150 M151 c154 M155 c157 M158,m128.le m149 ∧ Ok u m149 (M151 :: [(b21,oc 82 [vi x_1.Kind,vs x_1.Text,vs x_1.Name,vs x_1.Style,c5,c7])] :: [(pb0,oc 57 [c154,c157])] :: M155 :: M158 :: S) w ∧ Env 104 a [(0,vp pb0),(2,vs o22),(6,(vi (o26.Code.Ins.length:Int))),(9,c150),(48,c5),(49,(vi (x_1.Cases.length:Int))),(50,vi s.2.1)] ∧ ORow 3 1 (pI .i64) m149 c150 s.1 M151 ∧ InR .i64 s.2.1 ∧ ORow 9 1 pS m149 c154 s.2.2.Code.Names M155 ∧ ORow 47 4 pIns m149 c157 s.2.2.Code.Ins M158) (fun (b:(Compiler × (List (Int)))) e a w=>e = (.exit 2) ∧ ∃ m368 c369 M370 c372 M373 c375 M376,m128.le m368 ∧ Ok u m368 (M376 :: [(b21,oc 82 [vi x_1.Kind,vs x_1.Text,vs x_1.Name,vs x_1.Style,c5,c7])] :: [(pb0,oc 57 [c369,c372])] :: M370 :: M373 :: S) w ∧ Env 104 a [(0,vp pb0),(9,c375)] ∧ ORow 9 1 pS m368 c369 b.1.Code.Names M370 ∧ ORow 47 4 pIns m368 c372 b.1.Code.Ins M373 ∧ ORow 3 1 (pI .i64) m368 c375 b.2 M376) ?_ ?_ N _ a w hL ⟨m128,(Value.slice none 0 0),M146,c129,M130,c132,M133,Mem.le.refl _,ok,E.keep [0,2,6,9,48,49,50],h147,(ir 0),h131,h134⟩
 rotate_left
 ·as_aux_lemma =>
   intro e a w _ hO
   obtain ⟨rfl,m262,c263,M264,c266,M267,c269,M270,hle,ok,E,h265,h268,h271⟩:=hO
   have le_m0:=le_m0.trans hle
   have h6:=(mL qaC).up hle h6
   have h8:=(mL qai).up hle h8
   refine qbm<|qaa<|sg<|mv E rfl fun a E=>lv E ok (qeV qhq h271 rfl) fun a E=>mv E rfl fun a E=>wn<|wp_block<|bd hF fun o280 hL hF=>qa9 _ (fun (s:Int × Compiler) a w=>∃ c282 M283 c285 M286,Ok u m262 (M270 :: [(b21,oc 82 [vi x_1.Kind,vs x_1.Text,vs x_1.Name,vs x_1.Style,c5,c7])] :: [(pb0,oc 57 [c282,c285])] :: M283 :: M286 :: S) w ∧ Env 104 a [(0,vp pb0),(83,c269),(84,(vi (o148.2.length:Int))),(85,vi s.1)] ∧ InR .i64 s.1 ∧ ORow 9 1 pS m262 c282 s.2.Code.Names M283 ∧ ORow 47 4 pIns m262 c285 s.2.Code.Ins M286) (fun (b:Compiler) e a w=>e = (.exit 4) ∧ ∃ c362 M363 c365 M366,Ok u m262 (M270 :: [(b21,oc 82 [vi x_1.Kind,vs x_1.Text,vs x_1.Name,vs x_1.Style,c5,c7])] :: [(pb0,oc 57 [c362,c365])] :: M363 :: M366 :: S) w ∧ Env 104 a [] ∧ ORow 9 1 pS m262 c362 b.Code.Names M363 ∧ ORow 47 4 pIns m262 c365 b.Code.Ins M366) ?_ ?_ N _ a w hL ⟨c263,M264,c266,M267,ok,E.keep [0,83,84,85],(ir 0),h265,h268⟩
   rotate_left
   ·intro e a w _ hO
    obtain ⟨rfl,c356,M357,c359,M360,ok,E,h358,h361⟩:=hO
    refine qbm ?_
    exact fin hF ⟨m262,c356,M357,c359,M360,le_m0,ok.drop.drop,E.d,trivial,h358,h361⟩
   rintro ⟨v288,v289⟩ a w r ⟨c291,M292,c294,M295,ok,E,r290,h293,h296⟩ hF
   replace hF:qb4 (qaX N) (qaY N) N o148 v288 v289 = some r:=hF
   unfold qb4 at hF
   refine sg<|lw E (qaO rfl rfl) fun a E=>wn<|wp_seq<|cg E rfl hF (fun c297 hF=>?_) fun c297 hF=>?_
   ·refine wp_exit<|qaU ?_
    cases hF
    exact so (⟨rfl,⟨c291,M292,c294,M295,ok,E.keep [],h293,h296⟩⟩)
   refine wp_skip<|qaa<|wp_seq<|wp_block<|sg ?_
   obtain ⟨x298,e299,hF⟩:=bnd hF
   obtain ⟨b300,o301,hp302,yy303⟩:=qgp qhq h271 e299 (P:=Tryz.prog) (X:=.tmp 83) (I:=.tmp 85) (kd:=.i64) (qcy E rfl) (qcy E rfl)
   refine lv E ok (yy303 _ _) fun a E=>?_
   obtain ⟨es304,hl305,rr306,hh307⟩:=qia h271 e299 hp302 (by decide)
   obtain ⟨rfl,r308⟩:=rr306
   refine lv E ok (qat qap rfl (hh307 _ _ _ 0 rfl)) fun a E=>aw E rfl fun a E=>bd hF fun o309 hJ hF=>qaG (Q':=fun e a w=>e = .normal ∧ ∃ c310 M311 c313 M314,Ok u m262 (M270 :: [(b21,oc 82 [vi x_1.Kind,vs x_1.Text,vs x_1.Name,vs x_1.Style,c5,c7])] :: [(pb0,oc 57 [c310,c313])] :: M311 :: M314 :: S) w ∧ Env 104 a [(0,vp pb0),(83,c269),(84,(vi (o148.2.length:Int))),(85,vi v288)] ∧ ORow 9 1 pS m262 c310 o309.Code.Names M311 ∧ ORow 47 4 pIns m262 c313 o309.Code.Ins M314) ?_ ?_
   rotate_left
   ·intro e a w hO
    obtain ⟨rfl,c350,M351,c353,M354,ok,E,h352,h355⟩:=hO
    refine qaf<|qaa<|qac<|lw E (qaA rfl rfl (InR.inc r290 (ORow.InR h271) c297)) fun a E=>mv E rfl fun a E=>wpList_nil ?_
    cases hF
    exact qar ⟨c350,M351,c353,M354,ok,E.keep [0,83,84,85],(InR.inc r290 (ORow.InR h271) c297),h352,h355⟩
   have hF:=hJ
   obtain ⟨x316,e317,hF⟩:=bnd hF
   obtain ⟨l326,e327,hF⟩:=bnd hF
   obtain rfl:=sj hF
   refine qbI [] (Cls u m262 (M270 :: [(b21,oc 82 [vi x_1.Kind,vs x_1.Text,vs x_1.Name,vs x_1.Style,c5,c7])] :: M292 :: [])) (Cls u m262 (M270 :: [(b21,oc 82 [vi x_1.Kind,vs x_1.Text,vs x_1.Name,vs x_1.Style,c5,c7])] :: M292 :: [])) (by kernel_rfl) ?_
   intro w hw
   replace ok:=qb3 ok hw
   clear hw
   have le_m262:=Mem.le.refl m262
   refine qaw (cl1 (cq le_m262 ok [0,1,3] rfl) (cq le_m262 ok [0,1,3] rfl)) fun hT=>kt 0 E rfl hT (qan rfl) fun a E=>kt 1 E rfl hT (qam rfl) fun a E=>kt 2 E rfl hT (qaj qeS rfl) fun a E=>kt 3 E rfl hT (qaj qcQ rfl) fun a E=>kt 5 E rfl hT (qan rfl) fun a E=>kt 6 E rfl hT (qan rfl) fun a E=>kt 7 E rfl hT (qam rfl) fun a E=>kt 8 E rfl hT (qaj qeS rfl) fun a E=>kt 9 E rfl hT (qaj qcQ rfl) fun a E=>qa1 [4,10] (by kernel_rfl) rfl (qgY ?_ (qgY ?_ (qkQ)))
   ·refine wo rfl<|ld E ok qcX 2 rfl rfl rfl fun a E=>wn<|qaw (cl1 (cq le_m262 ok [0,1,3] rfl) (cq le_m262 ok [0,1,3] rfl)) fun hT=>qa1 [10] (by kernel_rfl) rfl (qa8 ?_)
    ·refine wo rfl<|ld E ok qcX 2 rfl rfl rfl fun a E=>wn<|qaw (cl1 (cq le_m262 ok [0,1,3] rfl) (cq le_m262 ok [0,1,3] rfl)) fun hT=>kt 11 E rfl hT (qeV qcZ h296 rfl) fun a E=>?_
     obtain ⟨b330,o331,hp332,yy333⟩:=qgp qcZ h296 e317 (P:=Tryz.prog) (X:=.tmp 93) (I:=.tmp 94) (kd:=.i64) (qcy E rfl) (qcy E rfl)
     refine kt 12 E rfl hT (yy333 _ _) fun a E=>kt 13 E rfl hT (qaj qh9 rfl) fun a E=>qa1 [14] (by kernel_rfl) rfl (qa8 ?_)
     ·refine wo rfl<|qhr (R:=pIns) (f:=1) E ok 4 rfl h296 e317 hp332 rfl rfl rfl qgU rfl rfl rfl ⟨rfl,trivial⟩ (fun es _ h=>by obtain ⟨rfl,r334,r335,r336,l337⟩:=h; exact ⟨rfl,r334,(ORow.InR h296),r336,l337⟩) e327 rfl fun M338 w ok h339=>wn<|qaw (cl1 (cq le_m262 ok [0,1,3] rfl) (cq le_m262 ok [0,1,3] rfl)) fun hT=>qbK (by kernel_rfl) ?_
      exact ⟨rfl,⟨c291,M292,c294,M338,ok,E.keep [0,83,84,85],h293,h339⟩⟩
   refine wo rfl<|ld E ok qcX 2 rfl rfl rfl fun a E=>wn<|qaw (cl1 (cq le_m262 ok [0,1,3] rfl) (cq le_m262 ok [0,1,3] rfl)) fun hT=>kt 11 E rfl hT (qeV qcZ h296 rfl) fun a E=>qa1 [4] (by kernel_rfl) rfl (qa8 ?_)
   ·refine wo rfl<|ld E ok qcX 2 rfl rfl rfl fun a E=>wn<|qaw (cl1 (cq le_m262 ok [0,1,3] rfl) (cq le_m262 ok [0,1,3] rfl)) fun hT=>?_
    obtain ⟨b340,o341,hp342,yy343⟩:=qgp qcZ h296 e317 (P:=Tryz.prog) (X:=.tmp 93) (I:=.tmp 94) (kd:=.i64) (qcy E rfl) (qcy E rfl)
    refine kt 12 E rfl hT (yy343 _ _) fun a E=>kt 13 E rfl hT (qaj qh9 rfl) fun a E=>qa1 [14] (by kernel_rfl) rfl (qa8 ?_)
    ·refine wo rfl<|qhr (R:=pIns) (f:=1) E ok 4 rfl h296 e317 hp342 rfl rfl rfl qgU rfl rfl rfl ⟨rfl,trivial⟩ (fun es _ h=>by obtain ⟨rfl,r344,r345,r346,l347⟩:=h; exact ⟨rfl,r344,(ORow.InR h296),r346,l347⟩) e327 rfl fun M348 w ok h349=>wn<|qaw (cl1 (cq le_m262 ok [0,1,3] rfl) (cq le_m262 ok [0,1,3] rfl)) fun hT=>qbK (by kernel_rfl) ?_
     exact ⟨rfl,⟨c291,M292,c294,M348,ok,E.keep [0,83,84,85],h293,h349⟩⟩
 rintro ⟨v160,v161,v162⟩ a w r ⟨m163,c164,M165,c168,M169,c171,M172,hle,ok,E,h166,r167,h170,h173⟩ hF
 replace hF:qb7 (qaX N) (qaY N) N x_1 o22 o26 v160 v161 v162 = some r:=hF
 unfold qb7 at hF
 have le_m128:=Mem.le.refl m128
 have le_m0:=le_m0.trans hle
 have le_m128:=le_m128.trans hle
 have h6:=(mL qaC).up hle h6
 have h8:=(mL qai).up hle h8
 refine sg<|lw E (qaO rfl rfl) fun a E=>wn<|wp_seq<|cg E rfl hF (fun c174 hF=>?_) fun c174 hF=>?_
 ·refine wp_exit<|qaU ?_
  cases hF
  exact so (⟨rfl,⟨m163,c168,M169,c171,M172,c164,M165,le_m128,ok,E.keep [0,9],h170,h173,h166⟩⟩)
 refine wp_skip<|qaa<|wp_seq<|wp_block<|sg<|mv E rfl fun a E=>?_
 obtain ⟨x175,e176,hF⟩:=bnd hF
 obtain ⟨b177,o178,es179,hl180,rr181,at182,yy183⟩:=ia E 48 50 qbr h6 e176
 obtain ⟨c185,rfl,l184,h186⟩:=rr181
 refine lv E ok (yy183 _ _) fun a E=>lv E ok (qas (cs:=[vs x175.Key,c185]) qiF rfl rfl (qad.ro at182)) fun a E=>qa4 E ok qdq rfl rfl fun b187 a w E ok=>av E rfl fun a E=>qae E ok 0 rfl rfl rfl qiu rfl rfl ⟨rfl,(qcD h186),trivial⟩ rfl rfl fun w ok=>wn<|wp_seq<|bd hF fun o188 hJ hF=>qaG (Q':=fun e a w=>e = .normal ∧ ∃ c189 M190 c192 M193,Ok u m163 ([(b187,oc 85 [vs x175.Key,c185])] :: M165 :: [(b21,oc 82 [vi x_1.Kind,vs x_1.Text,vs x_1.Name,vs x_1.Style,c5,c7])] :: [(pb0,oc 57 [c189,c192])] :: M190 :: M193 :: S) w ∧ Env 104 a [(0,vp pb0),(2,vs o22),(6,(vi (o26.Code.Ins.length:Int))),(9,c164),(11,vp b187),(48,c5),(49,(vi (x_1.Cases.length:Int))),(50,vi v161)] ∧ ORow 9 1 pS m163 c189 o188.Code.Names M190 ∧ ORow 47 4 pIns m163 c192 o188.Code.Ins M193) ?_ ?_
 rotate_left
 ·intro e a w hO
  obtain ⟨rfl,c229,M230,c232,M233,ok,E,h231,h234⟩:=hO
  refine qaa<|sg<|mv E rfl fun a E=>fk E ok qeh qbu rfl 0 rfl rfl fun a E=>mv E rfl fun a E=>?_
  obtain ⟨r235,e236,hF⟩:=bnd hF
  replace ok:Ok u m163 ([(pb0,oc 57 [c229,c232])] :: M230 :: M233 :: [(b187,oc 85 [vs x175.Key,c185])] :: M165 :: [(b21,oc 82 [vi x_1.Kind,vs x_1.Text,vs x_1.Name,vs x_1.Style,c5,c7])] :: S) w:=(ok.pk 6 [3,4,5,0,1,2] rfl (by decide))
  refine qag E qmR rfl (ih_compile_compiler_parts _ x175.Parts h186 o22 l25 o188 h231 h234 e236 hG ok) rfl rfl ?_
  rintro _ w ⟨m237,c238,M239,c241,M242,rfl,hle,ok,h240,h243⟩
  have le_m0:=le_m0.trans hle
  have le_m128:=le_m128.trans hle
  have h6:=(mL qaC).up hle h6
  have h8:=(mL qai).up hle h8
  have h166:=ORow.up (mI .i64) hle h166
  have h186:=(mL qai).up hle h186
  have at182:=At.up hle at182
  refine ⟨_,rfl,fun a E=>?_⟩
  refine wn<|qac<|mz E rfl rfl fun a E=>lw E (qau (ps:=[(0,.const (vi 12))]) (qs:=[(0,[vi 12])]) (cs:=[vi 12,vi 0,vi 0,(vs ([]))]) qdK qdv rfl ⟨rfl,rfl,rfl,trivial⟩ rfl) fun a E=>bd hF fun r244 e245 hF=>qag E qgf rfl (qbl N _ (Ins.mk 12 0 0 ([])) ⟨rfl,(ir 12),(ir 0),(ir 0),(Nat.zero_le _)⟩ r235 h240 h243 e245 hG ok) rfl rfl ?_
  rintro _ w ⟨m246,c248,M249,c251,M252,rfl,hle,ok,r247,h250,h253⟩
  have le_m0:=le_m0.trans hle
  have le_m128:=le_m128.trans hle
  have h6:=(mL qaC).up hle h6
  have h8:=(mL qai).up hle h8
  have h166:=ORow.up (mI .i64) hle h166
  have h186:=(mL qai).up hle h186
  have at182:=At.up hle at182
  refine ⟨_,rfl,fun a E=>?_⟩
  refine qbq (R:=(pI .i64)) (xo:=[.tmp 79]) (xs:=([r244.1]:List (Int))) E ok qhq qly rfl ⟨⟨_,rfl,rfl,(qej r247)⟩,trivial⟩ rfl rfl rfl rfl fun c254 M255 a w E ok h256=>bd hF fun l257 e258 hF=>qbX (R:=(pI .i64)) E ok 5 (mI .i64) qhq Tryz.underlying74 rfl h166 (qbs.ofRow h256 0 rfl ok) e258 ⟨_,qly,rfl⟩ rfl rfl rfl rfl fun c259 M260 a w E ok h261=>av E rfl fun a E=>wpList_nil<|qaf<|qaa<|qac<|lw E (qaA rfl rfl (InR.inc r167 (qal h6) c174)) fun a E=>mv E rfl fun a E=>wpList_nil ?_
  cases hF
  exact qar ⟨m246,c259,M260,c248,M249,c251,M252,le_m128,(ok.pk 7 [5,6,1,2,3] rfl (by decide)),E.keep [0,2,6,9,48,49,50],h261,(InR.inc r167 (qal h6) c174),h250,h253⟩
 have hF:=hJ
 obtain ⟨x195,e196,hF⟩:=bnd hF
 obtain ⟨l205,e206,hF⟩:=bnd hF
 obtain rfl:=sj hF
 refine qbI [] (Cls u m163 ([(b187,oc 85 [vs x175.Key,c185])] :: M165 :: [(b21,oc 82 [vi x_1.Kind,vs x_1.Text,vs x_1.Name,vs x_1.Style,c5,c7])] :: M169 :: [])) (Cls u m163 ([(b187,oc 85 [vs x175.Key,c185])] :: M165 :: [(b21,oc 82 [vi x_1.Kind,vs x_1.Text,vs x_1.Name,vs x_1.Style,c5,c7])] :: M169 :: [])) (by kernel_rfl) ?_
 intro w hw
 replace ok:=qb3 ok hw
 clear hw
 have le_m163:=Mem.le.refl m163
 refine qaw (cl1 (cq le_m163 ok [0,1,2,4] rfl) (cq le_m163 ok [0,1,2,4] rfl)) fun hT=>kt 0 E rfl hT (qan rfl) fun a E=>kt 1 E rfl hT (qam rfl) fun a E=>kt 2 E rfl hT (qaj qeS rfl) fun a E=>kt 3 E rfl hT (qaj qcQ rfl) fun a E=>kt 5 E rfl hT (qan rfl) fun a E=>kt 6 E rfl hT (qan rfl) fun a E=>kt 7 E rfl hT (qaM rfl rfl) fun a E=>kt 8 E rfl hT (qan rfl) fun a E=>kt 9 E rfl hT (qam rfl) fun a E=>kt 10 E rfl hT (qaj qeS rfl) fun a E=>kt 11 E rfl hT (qaj qcQ rfl) fun a E=>qa1 [4,12] (by kernel_rfl) rfl (qgY ?_ (qgY ?_ (qkQ)))
 ·refine wo rfl<|ld E ok qcX 3 rfl rfl rfl fun a E=>wn<|qaw (cl1 (cq le_m163 ok [0,1,2,4] rfl) (cq le_m163 ok [0,1,2,4] rfl)) fun hT=>qa1 [12] (by kernel_rfl) rfl (qa8 ?_)
  ·refine wo rfl<|ld E ok qcX 3 rfl rfl rfl fun a E=>wn<|qaw (cl1 (cq le_m163 ok [0,1,2,4] rfl) (cq le_m163 ok [0,1,2,4] rfl)) fun hT=>kt 13 E rfl hT (qeV qcZ h173 rfl) fun a E=>?_
   obtain ⟨b209,o210,hp211,yy212⟩:=qgp qcZ h173 e196 (P:=Tryz.prog) (X:=.tmp 59) (I:=.tmp 62) (kd:=.i64) (qcy E rfl) (qcy E rfl)
   refine kt 14 E rfl hT (yy212 _ _) fun a E=>kt 15 E rfl hT (qaj qh9 rfl) fun a E=>qa1 [16] (by kernel_rfl) rfl (qa8 ?_)
   ·refine wo rfl<|qhr (R:=pIns) (f:=1) E ok 5 rfl h173 e196 hp211 rfl rfl rfl qgU rfl rfl rfl ⟨rfl,trivial⟩ (fun es _ h=>by obtain ⟨rfl,r213,r214,r215,l216⟩:=h; exact ⟨rfl,r213,(ORow.InR h173),r215,l216⟩) e206 rfl fun M217 w ok h218=>wn<|qaw (cl1 (cq le_m163 ok [0,1,2,4] rfl) (cq le_m163 ok [0,1,2,4] rfl)) fun hT=>qbK (by kernel_rfl) ?_
    exact ⟨rfl,⟨c168,M169,c171,M217,ok,E.keep [0,2,6,9,11,48,49,50],h170,h218⟩⟩
 refine wo rfl<|ld E ok qcX 3 rfl rfl rfl fun a E=>wn<|qaw (cl1 (cq le_m163 ok [0,1,2,4] rfl) (cq le_m163 ok [0,1,2,4] rfl)) fun hT=>kt 13 E rfl hT (qeV qcZ h173 rfl) fun a E=>qa1 [4] (by kernel_rfl) rfl (qa8 ?_)
 ·refine wo rfl<|ld E ok qcX 3 rfl rfl rfl fun a E=>wn<|qaw (cl1 (cq le_m163 ok [0,1,2,4] rfl) (cq le_m163 ok [0,1,2,4] rfl)) fun hT=>?_
  obtain ⟨b219,o220,hp221,yy222⟩:=qgp qcZ h173 e196 (P:=Tryz.prog) (X:=.tmp 59) (I:=.tmp 62) (kd:=.i64) (qcy E rfl) (qcy E rfl)
  refine kt 14 E rfl hT (yy222 _ _) fun a E=>kt 15 E rfl hT (qaj qh9 rfl) fun a E=>qa1 [16] (by kernel_rfl) rfl (qa8 ?_)
  ·refine wo rfl<|qhr (R:=pIns) (f:=1) E ok 5 rfl h173 e196 hp221 rfl rfl rfl qgU rfl rfl rfl ⟨rfl,trivial⟩ (fun es _ h=>by obtain ⟨rfl,r223,r224,r225,l226⟩:=h; exact ⟨rfl,r223,(ORow.InR h173),r225,l226⟩) e206 rfl fun M227 w ok h228=>wn<|qaw (cl1 (cq le_m163 ok [0,1,2,4] rfl) (cq le_m163 ok [0,1,2,4] rfl)) fun hT=>qbK (by kernel_rfl) ?_
   exact ⟨rfl,⟨c168,M169,c171,M227,ok,E.keep [0,2,6,9,11,48,49,50],h170,h228⟩⟩
theorem qhu:qdg 0:=by
 intro u m0 S w vl_1 l_1 hl_1 count_2 lcount_2 pb0 c1 M2 c4 M5 x0 h3 h6 r hF hG ok
 replace hF:none = some r:=hF
 cases hF
theorem qgL:qcJ 0:=by
 intro u m0 S w vx_1 x_1 hx_1 count_2 lcount_2 pb0 c9 M10 c12 M13 x0 h11 h14 r hF hG ok
 replace hF:none = some r:=hF
 cases hF
theorem qg3 (N:Nat):qdg N ∧ qcJ N:=by
 induction N with
 | zero=>exact ⟨qhu,qgL⟩
 | succ N h=>exact ⟨qht N h.1 h.2,qgK N h.1 h.2⟩
theorem qio {u:World} {m0:Mem} {S:Segs} {w:World} (N:Nat) (vl_1:Value) (l_1:List (Part)) (hl_1:(pL 6 qa0) m0 [vl_1] l_1) (count_2:List UInt8) (lcount_2:count_2.length ≤ LIMS) {pb0:Nat} {c1:Value} {M2:List (Nat × Obj)} {c4:Value} {M5:List (Nat × Obj)} (x0:Compiler) (h3:ORow 9 1 pS m0 c1 x0.Code.Names M2) (h6:ORow 47 4 pIns m0 c4 x0.Code.Ins M5) {r:Compiler} (hF:qaX N l_1 count_2 x0 = some r) (hG:Glob u) (ok:Ok u m0 ([(pb0,oc 57 [c1,c4])] :: M2 :: M5 :: S) w) :
 Calls Tryz.prog 31 [vp pb0,vl_1,vs count_2].toArray w fun e w'=>∃ m1 c7 M8 c10 M11,e = .returned (.tuple [].toArray) ∧ m0.le m1 ∧ Ok u m1 ([(pb0,oc 57 [c7,c10])] :: M8 :: M11 :: S) w' ∧ ORow 9 1 pS m1 c7 r.Code.Names M8 ∧ ORow 47 4 pIns m1 c10 r.Code.Ins M11:=(qg3 N).1 vl_1 l_1 hl_1 count_2 lcount_2 x0 h3 h6 hF hG ok
def qk6 (u:World) (m0:Mem) (S:Segs) (r:Code × Int) (a:Act) (w:World):Prop :=
 ∃ m1 v0,m0.le m1 ∧ Ok u m1 S w ∧ a.defers = [] ∧ RVs Tryz.prog a w [.c 2 28 (.agg v0.toArray),.t 3 (.int .i64 r.2)] ∧ qlY m1 v0 r.1 ∧ InR .i64 r.2
theorem qgl (N:Nat) (vparts_0:Value) (parts_0:List (Part)) (hparts_0:(pL 6 qa0) m0 [vparts_0] parts_0) {r:Code × Int} (hF:qdT N parts_0 = some r) (hG:Glob u) (ok:Ok u m0 S w) :
  Calls Tryz.prog 11 [vparts_0].toArray w fun e w'=>∃ m1 v0,e = .returned (.tuple [(.agg v0.toArray),(.int .i64 r.2)].toArray) ∧ m0.le m1 ∧ Ok u m1 S w' ∧ qlY m1 v0 r.1 ∧ InR .i64 r.2:=by
 have le_m0:=Mem.le.refl m0
 unfold qdT at hF
 refine en (qk6 u m0 S) r Tryz.func11 rfl rfl rfl (by rintro a w ⟨m1,v0,hle,ok,hd,hrv,h0,h1⟩; exact qbO [.c 2 28 (.agg v0.toArray),.t 3 (.int .i64 r.2)] hd rfl hrv ⟨m1,v0,rfl,hle,ok,h0,h1⟩) fun fin a E=>sg<|qa4 E ok qic rfl rfl fun b1 a w E ok=>aw E rfl fun a E=>wp_seq<|sg<|mv E rfl fun a E=>bd hF fun r2 e3 hF=>lc E qsg rfl (qmd N _ parts_0 hparts_0 e3 hG ok) fun w ok a E=>lw E (qaT rfl) fun a E=>wn<|cf E rfl hF (fun c4 hF=>?_) fun c4 hF=>?_
 ·refine sg<|lw E (qau (ps:=[]) (qs:=[]) (cs:=[(Value.slice none 0 0),(Value.slice none 0 0)]) qic qmG rfl trivial rfl) fun a E=>qae E ok 0 rfl rfl rfl qkp rfl rfl ⟨rfl,rfl,trivial⟩ rfl rfl fun w ok=>aw E rfl fun a E=>wp_ret<|qah ?_
  exact fin hF ⟨m0,[(Value.slice none 0 0),(Value.slice none 0 0)],le_m0,ok.drop,E.d,⟨rv_c (cs:=[(Value.slice none 0 0),(Value.slice none 0 0)]) E ok rfl qku rfl (qad.own 0 rfl rfl),rv_t E rfl,trivial⟩,⟨_,_,rfl,qct,qct⟩,(ir 1)⟩
 refine wp_skip<|qaa<|sg<|lw E (qau (ps:=[]) (qs:=[]) (cs:=[(Value.slice none 0 0),(Value.slice none 0 0)]) qqF qo0 rfl trivial rfl) fun a E=>qfY E ok rfl rfl rfl fun b5 a w E ok=>av E rfl fun a E=>wn<|sg<|mz E rfl rfl fun a E=>?_
 obtain ⟨M6,ok,h7⟩:=qeq (e:=9) (k:=1) (R:=pS) ok
 obtain ⟨M8,ok,h9⟩:=qeq (e:=47) (k:=4) (R:=pIns) ok
 obtain ⟨r10,e11,hF⟩:=bnd hF
 replace ok:Ok u m0 ([(b5,oc 57 [(Value.slice none 0 0),(Value.slice none 0 0)])] :: M6 :: M8 :: [(b1,oc 28 [(Value.slice none 0 0),(Value.slice none 0 0)])] :: S) w:=(ok.pk 4 [2,1,0,3] rfl (by decide))
 refine qag E qmR rfl (qio N _ parts_0 hparts_0 ([]) (show ([]:List UInt8).length ≤ LIMS by decide) (Compiler.mk (Code.mk ([]) ([]))) h7 h9 e11 hG ok) rfl rfl ?_
 rintro _ w ⟨m12,c13,M14,c16,M17,rfl,hle,ok,h15,h18⟩
 have le_m0:=le_m0.trans hle
 have hparts_0:=(mL qai).up hle hparts_0
 refine ⟨_,rfl,fun a E=>?_⟩
 refine wn<|sg<|mv E rfl fun a E=>lw E (qau (ps:=[(0,.const (vi 13))]) (qs:=[(0,[vi 13])]) (cs:=[vi 13,vi 0,vi 0,(vs ([]))]) qdK qdv rfl ⟨rfl,rfl,rfl,trivial⟩ rfl) fun a E=>bd hF fun r19 e20 hF=>qag E qgf rfl (qbl N _ (Ins.mk 13 0 0 ([])) ⟨rfl,(ir 13),(ir 0),(ir 0),(Nat.zero_le _)⟩ r10 h15 h18 e20 hG ok) rfl rfl ?_
 rintro _ w ⟨m21,c23,M24,c26,M27,rfl,hle,ok,r22,h25,h28⟩
 have le_m0:=le_m0.trans hle
 have hparts_0:=(mL qai).up hle hparts_0
 refine ⟨_,rfl,fun a E=>?_⟩
 refine wn<|sg<|mv E rfl fun a E=>lw E (qam rfl) fun a E=>fv E qeS rfl fun a E=>lv E ok (qas (cs:=[c23,c26]) qku rfl rfl (qad.own 0 rfl rfl)) fun a E=>qae E ok 3 rfl rfl rfl qkp rfl rfl ⟨(ORow.one h25),(ORow.one h28),trivial⟩ rfl rfl fun w ok=>aw E rfl fun a E=>wp_ret ?_
 obtain ⟨m29,hle,ok,hfz⟩:=(ok.frs 1 rfl).freeze
 have h30:=ORow.froz mS h25 hle hfz (by decide)
 have le_m0:=le_m0.trans hle
 have hparts_0:=(mL qai).up hle hparts_0
 have h28:=ORow.up mIns hle h28
 obtain ⟨m31,hle,ok,hfz⟩:=(ok.frs 1 rfl).freeze
 have h32:=ORow.froz mIns h28 hle hfz (by decide)
 have le_m0:=le_m0.trans hle
 have hparts_0:=(mL qai).up hle hparts_0
 have h30:=(mL mS).up hle h30
 exact fin hF ⟨m31,[c23,c26],le_m0,ok.drop.drop,E.d,⟨rv_c (cs:=[c23,c26]) E ok rfl qku rfl (qad.own 1 rfl rfl),rv_t E rfl,trivial⟩,⟨_,_,rfl,h30,h32⟩,(ir 0)⟩
def qfx (u:World) (m0:Mem) (S:Segs) (r:Bool) (a:Act) (w:World):Prop :=
 Ok u m0 S w ∧ a.defers = [] ∧ RVs Tryz.prog a w [.t 4 (.bool r)]
theorem qhj (N:Nat) (vs1_0:Value) (s1_0:List (List UInt8)) (hs1_0:(pL 1 pS) m0 [vs1_0] s1_0) (vs2_1:Value) (s2_1:List (List UInt8)) (hs2_1:(pL 1 pS) m0 [vs2_1] s2_1) {r:Bool} (hF:qeE N s1_0 s2_1 = some r) (hG:Glob u) (ok:Ok u m0 S w) :
  Calls Tryz.prog 41 [vs1_0,vs2_1].toArray w fun e w'=>(e = .returned (.bool r) ∧ Ok u m0 S w'):=by
 unfold qeE at hF
 refine en (qfx u m0 S) r Tryz.func41 rfl rfl rfl (fun _ _ h=>ra h rfl) fun fin a E=>sg<|aw E rfl fun a E=>wp_seq<|sg<|mv E rfl fun a E=>lv E ok (qaQ qbn hs1_0 rfl) fun a E=>mv E rfl fun a E=>lv E ok (qaQ qbn hs2_1 rfl) fun a E=>lw E (qbN rfl rfl) fun a E=>wn<|cf E rfl hF (fun c1 hF=>?_) fun c1 hF=>?_
 ·refine sg<|aw E rfl fun a E=>wp_ret<|qah ?_
  exact fin hF ⟨ok,E.d,rz E rfl⟩
 refine wp_skip<|qaa<|wp_seq<|sg<|mv E rfl fun a E=>lv E ok (qaQ qbn hs1_0 rfl) fun a E=>mv E rfl fun a E=>wn<|wp_block<|bd hF fun o3 hL hF=>qa9 _ (fun (s:Int) a w=>Ok u m0 (S) w ∧ Env 26 a [(0,vs1_0),(1,vs2_1),(12,(vi (s1_0.length:Int))),(13,vi s)] ∧ InR .i64 s) (fun (b:(Unit ⊕ Bool)) e a w=>(Sum.elim (fun b29=>e = (.exit 0) ∧ Ok u m0 (S) w ∧ Env 26 a []) (fun b30=>e = .ret ∧ qfx u m0 S b30 a w)) b) ?_ ?_ N _ a w hL ⟨ok,E.keep [0,1,12,13],(ir 0)⟩
 rotate_left
 ·intro e a w _ hO
  rcases o3 with o3 | o3
  rotate_left
  ·obtain ⟨rfl,hret⟩:=hO
   refine qaq<|qah ?_
   exact fin hF hret
  have hF:=qbV hF
  obtain ⟨rfl,ok,E⟩:=hO
  refine qbm<|qaa<|sg<|aw E rfl fun a E=>wp_ret ?_
  exact fin hF ⟨ok,E.d,rz E rfl⟩
 rintro v5 a w r ⟨ok,E,r6⟩ hF
 replace hF:qd5 N s1_0 s2_1 v5 = some r:=hF
 unfold qd5 at hF
 refine sg<|lw E (qaO rfl rfl) fun a E=>wn<|wp_seq<|cg E rfl hF (fun c7 hF=>?_) fun c7 hF=>?_
 ·refine wp_exit<|qaU ?_
  cases hF
  exact so (sl ⟨rfl,⟨ok,E.keep []⟩⟩)
 refine wp_skip<|qaa<|wp_seq<|wp_block<|sg<|mv E rfl fun a E=>av E rfl fun a E=>wn<|wp_seq<|qdH (by kernel_rfl) (by kernel_rfl) ok<|qv E (qan rfl) fun a E=>qv E (qan rfl) fun a E=>?_
 obtain ⟨x8,e9,hF⟩:=bnd hF
 obtain ⟨b10,o11,es12,hl13,rr14,at15,yy16⟩:=ia E 16 17 qbn hs1_0 e9
 obtain ⟨rfl,l17⟩:=rr14
 refine qv E (yy16 _ _) fun a E=>qv E (qat qak rfl (qad.ro at15)) fun a E=>qv E (qan rfl) fun a E=>qv E (qan rfl) fun a E=>?_
 obtain ⟨x18,e19,hF⟩:=bnd hF
 obtain ⟨b20,o21,es22,hl23,rr24,at25,yy26⟩:=ia E 20 21 qbn hs2_1 e19
 obtain ⟨rfl,l27⟩:=rr24
 refine qv E (yy26 _ _) fun a E=>qv E (qat qak rfl (qad.ro at25)) fun a E=>qv E (qce rfl rfl) fun a E=>wpQuiet_nil ?_
 intro w ok
 refine qaa<|cg E rfl hF (fun c28 hF=>?_) fun c28 hF=>?_
 ·refine wp_skip<|qaf<|qaa<|qac<|lw E (qaA rfl rfl (InR.inc r6 (qal hs1_0) c7)) fun a E=>mv E rfl fun a E=>wpList_nil ?_
  cases hF
  exact qar ⟨ok,E.keep [0,1,12,13],(InR.inc r6 (qal hs1_0) c7)⟩
 refine sg<|aw E rfl fun a E=>wp_ret<|qaq<|qah ?_
 cases hF
 exact so (sr ⟨rfl,⟨ok,E.d,rz E rfl⟩⟩)
def qd9 (u:World) (m0:Mem) (S:Segs) (r:Bool) (a:Act) (w:World):Prop :=
 Ok u m0 S w ∧ a.defers = [] ∧ RVs Tryz.prog a w [.t 4 (.bool r)]
theorem qfV (N:Nat) (vs1_0:Value) (s1_0:List (Ins)) (hs1_0:(pL 4 pIns) m0 [vs1_0] s1_0) (vs2_1:Value) (s2_1:List (Ins)) (hs2_1:(pL 4 pIns) m0 [vs2_1] s2_1) {r:Bool} (hF:qde N s1_0 s2_1 = some r) (hG:Glob u) (ok:Ok u m0 S w) :
  Calls Tryz.prog 42 [vs1_0,vs2_1].toArray w fun e w'=>(e = .returned (.bool r) ∧ Ok u m0 S w'):=by
 unfold qde at hF
 refine en (qd9 u m0 S) r Tryz.func42 rfl rfl rfl (fun _ _ h=>ra h rfl) fun fin a E=>sg<|aw E rfl fun a E=>wp_seq<|sg<|mv E rfl fun a E=>lv E ok (qaQ qcZ hs1_0 rfl) fun a E=>mv E rfl fun a E=>lv E ok (qaQ qcZ hs2_1 rfl) fun a E=>lw E (qbN rfl rfl) fun a E=>wn<|cf E rfl hF (fun c1 hF=>?_) fun c1 hF=>?_
 ·refine sg<|aw E rfl fun a E=>wp_ret<|qah ?_
  exact fin hF ⟨ok,E.d,rz E rfl⟩
 refine wp_skip<|qaa<|wp_seq<|sg<|mv E rfl fun a E=>lv E ok (qaQ qcZ hs1_0 rfl) fun a E=>mv E rfl fun a E=>wn<|wp_block<|bd hF fun o3 hL hF=>qa9 _ (fun (s:Int) a w=>Ok u m0 (S) w ∧ Env 26 a [(0,vs1_0),(1,vs2_1),(12,(vi (s1_0.length:Int))),(13,vi s)] ∧ InR .i64 s) (fun (b:(Unit ⊕ Bool)) e a w=>(Sum.elim (fun b35=>e = (.exit 0) ∧ Ok u m0 (S) w ∧ Env 26 a []) (fun b36=>e = .ret ∧ qd9 u m0 S b36 a w)) b) ?_ ?_ N _ a w hL ⟨ok,E.keep [0,1,12,13],(ir 0)⟩
 rotate_left
 ·intro e a w _ hO
  rcases o3 with o3 | o3
  rotate_left
  ·obtain ⟨rfl,hret⟩:=hO
   refine qaq<|qah ?_
   exact fin hF hret
  have hF:=qbV hF
  obtain ⟨rfl,ok,E⟩:=hO
  refine qbm<|qaa<|sg<|aw E rfl fun a E=>wp_ret ?_
  exact fin hF ⟨ok,E.d,rz E rfl⟩
 rintro v5 a w r ⟨ok,E,r6⟩ hF
 replace hF:qcW N s1_0 s2_1 v5 = some r:=hF
 unfold qcW at hF
 refine sg<|lw E (qaO rfl rfl) fun a E=>wn<|wp_seq<|cg E rfl hF (fun c7 hF=>?_) fun c7 hF=>?_
 ·refine wp_exit<|qaU ?_
  cases hF
  exact so (sl ⟨rfl,⟨ok,E.keep []⟩⟩)
 refine wp_skip<|qaa<|wp_seq<|wp_block<|sg<|mv E rfl fun a E=>av E rfl fun a E=>wn<|wp_seq<|qdH (by kernel_rfl) (by kernel_rfl) ok<|qv E (qan rfl) fun a E=>qv E (qan rfl) fun a E=>?_
 obtain ⟨x8,e9,hF⟩:=bnd hF
 obtain ⟨b10,o11,es12,hl13,rr14,at15,yy16⟩:=ia E 16 17 qcZ hs1_0 e9
 obtain ⟨rfl,r17,r18,r19,l20⟩:=rr14
 refine qv E (yy16 _ _) fun a E=>qv E (qas (cs:=[vi x8.Op,vi x8.A,vi x8.B,vs x8.S]) qih rfl rfl (qad.ro at15)) fun a E=>qv E (qan rfl) fun a E=>qv E (qan rfl) fun a E=>?_
 obtain ⟨x21,e22,hF⟩:=bnd hF
 obtain ⟨b23,o24,es25,hl26,rr27,at28,yy29⟩:=ia E 20 21 qcZ hs2_1 e22
 obtain ⟨rfl,r30,r31,r32,l33⟩:=rr27
 refine qv E (yy29 _ _) fun a E=>qv E (qas (cs:=[vi x21.Op,vi x21.A,vi x21.B,vs x21.S]) qih rfl rfl (qad.ro at28)) fun a E=>qv E (qoU qnd (qjD Tryz.underlying47 qle (qeR (by decide) (qa3 qap rfl) (qa3 qap rfl) (qgb Tryz.underlying3) (qeR (by decide) (qa3 qap rfl) (qa3 qap rfl) (qgb Tryz.underlying3) (qeR (by decide) (qa3 qap rfl) (qa3 qap rfl) (qgb Tryz.underlying3) (qkx (by decide) (qa3 qak rfl) (qa3 qak rfl) (ql3 Tryz.underlying9)))))) rfl rfl) fun a E=>wpQuiet_nil ?_
 intro w ok
 refine qaa<|cg E rfl hF (fun c34 hF=>?_) fun c34 hF=>?_
 ·refine wp_skip<|qaf<|qaa<|qac<|lw E (qaA rfl rfl (InR.inc r6 (qal hs1_0) c7)) fun a E=>mv E rfl fun a E=>wpList_nil ?_
  cases hF
  exact qar ⟨ok,E.keep [0,1,12,13],(InR.inc r6 (qal hs1_0) c7)⟩
 refine sg<|aw E rfl fun a E=>wp_ret<|qaq<|qah ?_
 cases hF
 exact so (sr ⟨rfl,⟨ok,E.d,rz E rfl⟩⟩)
def qlt (u:World) (m0:Mem) (S:Segs) (r:Bool) (a:Act) (w:World):Prop :=
 Ok u m0 S w ∧ a.defers = [] ∧ RVs Tryz.prog a w [.t 4 (.bool r)]
theorem qlR (N:Nat) (va_0:List Value) (a_0:Code) (ha_0:qlY m0 va_0 a_0) (vb_1:List Value) (b_1:Code) (hb_1:qlY m0 vb_1 b_1) {r:Bool} (hF:qhQ N a_0 b_1 = some r) (hG:Glob u) (ok:Ok u m0 S w) :
  Calls Tryz.prog 19 [.agg va_0.toArray,.agg vb_1.toArray].toArray w fun e w'=>(e = .returned (.bool r) ∧ Ok u m0 S w'):=by
 obtain ⟨c1,c3,rfl,h2,h4⟩:=ha_0
 obtain ⟨c5,c7,rfl,h6,h8⟩:=hb_1
 unfold qhQ at hF
 refine en (qlt u m0 S) r Tryz.func19 rfl rfl rfl (fun _ _ h=>ra h rfl) fun fin a E=>sg<|qfY E ok rfl rfl rfl fun b9 a w E ok=>qfY E ok rfl rfl rfl fun b10 a w E ok=>aw E rfl fun a E=>sg<|fk E ok qid qhE rfl 1 rfl rfl fun a E=>fk E ok qid qhE rfl 0 rfl rfl fun a E=>bd hF fun r11 e12 hF=>lc E qrU rfl (qhj N _ a_0.Names h2 _ b_1.Names h6 e12 hG ok) fun w ok a E=>mv E rfl fun a E=>qbj r11 (fun c13=>?_) (fun c13=>?_)
 rotate_left
 ·have hF:=qbg c13 hF
  have E:=E.upd 10 c13 rfl
  refine lsz E fun a E=>ls E fun a E=>pf E rfl rfl fun a E=>av E rfl fun a E=>wn<|wp_ret ?_
  exact fin hF ⟨ok.drop.drop,E.d,rz E rfl⟩
 have hF:=qbh c13 hF
 have E:=E.upd 10 c13 rfl
 refine fk E ok qcQ qcX rfl 1 rfl rfl fun a E=>fk E ok qcQ qcX rfl 0 rfl rfl fun a E=>bd hF fun r14 e15 hF=>lc E qrT rfl (qfV N _ a_0.Ins h4 _ b_1.Ins h8 e15 hG ok) fun w ok a E=>pt E rfl rfl fun a E=>aw E rfl fun a E=>wp_ret ?_
 exact fin hF ⟨ok.drop.drop,E.d,rz E rfl⟩
def qjb (u:World) (m0:Mem) (S:Segs) (r:Replacer) (a:Act) (w:World):Prop :=
 ∃ m1 b0 c4 M5,m0.le m1 ∧ Ok u m1 ([(b0,oc 110 [(Value.int .u32 r.once.done.v),(Value.int .i32 r.once.m.mu.state),(Value.int .u32 r.once.m.mu.sema),Value.nilIface,c4])] :: M5 :: S) w ∧ a.defers = [] ∧ RVs Tryz.prog a w [.t 2 (.pointer (some ⟨b0,0,none⟩))] ∧ InR .u32 r.once.done.v ∧ InR .i32 r.once.m.mu.state ∧ InR .u32 r.once.m.mu.sema ∧ ORow 9 1 pS m1 c4 r.oldnew M5
theorem qi6 (N:Nat) (voldnew_0:Value) (oldnew_0:List (List UInt8)) (holdnew_0:(pL 1 pS) m0 [voldnew_0] oldnew_0) {r:Replacer} (hF:qfM N oldnew_0 = some r) (hG:Glob u) (ok:Ok u m0 (S) w) :
  Calls Tryz.prog 34 [voldnew_0].toArray w fun e w'=>∃ m1 b0 c4 M5,e = .returned (.pointer (some ⟨b0,0,none⟩)) ∧ m0.le m1 ∧ Ok u m1 ([(b0,oc 110 [(Value.int .u32 r.once.done.v),(Value.int .i32 r.once.m.mu.state),(Value.int .u32 r.once.m.mu.sema),Value.nilIface,c4])] :: M5 :: S) w' ∧ InR .u32 r.once.done.v ∧ InR .i32 r.once.m.mu.state ∧ InR .u32 r.once.m.mu.sema ∧ ORow 9 1 pS m1 c4 r.oldnew M5:=by
 have le_m0:=Mem.le.refl m0
 unfold qfM at hF
 refine en (qjb u m0 S) r Tryz.func34 rfl rfl rfl (by rintro a w ⟨m1,b0,c4,M5,hle,ok,hd,hrv,h0,h1,h2,h3⟩; exact qbO [.t 2 (.pointer (some ⟨b0,0,none⟩))] hd rfl hrv ⟨m1,b0,c4,M5,rfl,hle,ok,h0,h1,h2,h3⟩) fun fin a E=>sg<|aw E rfl fun a E=>wp_seq<|sg<|mv E rfl fun a E=>lv E ok (qaQ qbn holdnew_0 rfl) fun a E=>bd hF fun q7 e8 hF=>lw E (y_rm rfl rfl e8) fun a E=>lw E (qao rfl rfl) fun a E=>wn<|bd hF fun o9 hJ hF=>qaG (Q':=fun e a w=>e = .normal ∧ Ok u m0 (S) w ∧ Env 12 a [(0,voldnew_0)]) ?_ ?_
 ·have hF:=hJ
  refine cf E rfl hF (fun c10 hF=>?_) fun c10 hF=>?_
  ·cases hF
  refine wp_skip ?_
  cases hF
  exact ⟨rfl,⟨ok,E.keep [0]⟩⟩
 intro e a w hO
 obtain ⟨rfl,ok,E⟩:=hO
 refine qaa<|sg<|mv E rfl fun a E=>?_
 obtain ⟨M11,ok,h12⟩:=qeq (e:=9) (k:=1) (R:=pS) ok
 refine bd hF fun l13 e14 hF=>qbX (R:=pS) E ok 0 mS qbn Tryz.underlying25 rfl h12 (qbs.ofL holdnew_0 ok) e14 ⟨_,qbH,rfl⟩ rfl rfl rfl rfl fun c15 M16 a w E ok h17=>lw E (qau (ps:=[(2,.tmp 9)]) (qs:=[(4,[c15])]) (cs:=[(Value.int .u32 0),(Value.int .i32 0),(Value.int .u32 0),Value.nilIface,c15]) qp4 qoH rfl ⟨rfl,(ORow.cells h17),rfl,trivial⟩ rfl) fun a E=>qfY E ok rfl rfl rfl fun b18 a w E ok=>aw E rfl fun a E=>wp_ret ?_
 exact fin hF ⟨m0,b18,c15,M16,le_m0,ok,E.d,rz E rfl,(show InR .u32 0 by decide),(show InR .i32 0 by decide),(show InR .u32 0 by decide),h17⟩
def qg9 (u:World) (m0:Mem) (S:Segs) (pb0:Nat) (x0:Builder) (c1:Value) (c3:Value) (M4:List (Nat × Obj)) (r:Int × Unit × Builder) (a:Act) (w:World):Prop :=
 ∃ c6 c8 M9,Ok u m0 ([(pb0,oc 68 [c6,c8])] :: M9 :: S) w ∧ a.defers = [] ∧ RVs Tryz.prog a w [.t 4 (.int .i64 r.1),.t 5 .nilIface] ∧ InR .i64 r.1 ∧ BAd pb0 c6 ∧ ORow 5 1 (pI .u8) m0 c8 r.2.2.buf M9
theorem qcC (N:Nat) (s_1:List UInt8) (ls_1:s_1.length ≤ LIMS) {pb0:Nat} {c1:Value} {c3:Value} {M4:List (Nat × Obj)} (x0:Builder) (h2:BAd pb0 c1) (h5:ORow 5 1 (pI .u8) m0 c3 x0.buf M4) {r:Int × Unit × Builder} (hF:qcg N s_1 x0 = some r) (hG:Glob u) (ok:Ok u m0 ([(pb0,oc 68 [c1,c3])] :: M4 :: S) w) :
  Calls Tryz.prog 35 [vp pb0,vs s_1].toArray w fun e w'=>∃ c6 c8 M9,(e = .returned (.tuple [(.int .i64 r.1),.nilIface].toArray) ∧ Ok u m0 ([(pb0,oc 68 [c6,c8])] :: M9 :: S) w') ∧ InR .i64 r.1 ∧ BAd pb0 c6 ∧ ORow 5 1 (pI .u8) m0 c8 r.2.2.buf M9:=by
 unfold qcg at hF
 refine en (qg9 u m0 S pb0 x0 c1 c3 M4) r Tryz.func35 rfl rfl rfl (by rintro a w ⟨c6,c8,M9,ok,hd,hrv,h0,h1,h2⟩; exact qbO [.t 4 (.int .i64 r.1),.t 5 .nilIface] hd rfl hrv ⟨c6,c8,M9,⟨rfl,ok⟩,h0,h1,h2⟩) fun fin a E=>sg<|av E rfl fun a E=>aw E rfl fun a E=>sg<|mv E rfl fun a E=>lc E qqp rfl (qhd h2 ok) fun w ok a E=>wn<|sg<|mz E rfl rfl fun a E=>lw E (qam rfl) fun a E=>fv E qkW rfl fun a E=>ld E ok qpB 0 rfl rfl rfl fun a E=>mv E rfl fun a E=>?_
 refine bd hF fun l11 e12 hF=>qrD E ok 1 qff Tryz.underlying9 rfl h5 e12 ⟨_,qen,rfl⟩ rfl rfl rfl rfl fun c13 M14 a w E ok h15=>lw E (qam rfl) fun a E=>fv E qkW rfl fun a E=>qae E ok 0 rfl rfl rfl qo5 (ORow.cells h15) rfl ⟨(ORow.one h15),trivial⟩ rfl rfl fun w ok=>wn<|sg<|mv E rfl fun a E=>lw E (qaI Tryz.underlying9 rfl) fun a E=>av E rfl fun a E=>aw E rfl fun a E=>wp_ret ?_
 exact fin hF ⟨(vp pb0),c13,M14,ok,E.d,⟨rv_t E rfl,rv_t E rfl,trivial⟩,(InR.len ls_1),(.inr rfl),h15⟩
theorem qe8 {u:World} {m0:Mem} {S:Segs} {w:World} (N:Nat) (p0_0:Int) (rp0_0:InR .i64 p0_0) {r:(List UInt8)} (hF:qeB N p0_0 = some r) (hG:Glob u) (hTb:Tab u) (ok:Ok u m0 S w) :
 Calls Tryz.prog 36 [vi p0_0].toArray w fun e w'=>(e = .returned (.string (bs r)) ∧ Ok u m0 S w') ∧ r.length ≤ LIMS:=qpq Tryz.laysM171 hTb p0_0 rp0_0 hF ok
end Go.Proofs.YtllnjbnknjpbjaaGreatDoor
namespace Go.Proofs.YtllnjbnknjpbjaaGreatDoor
open Go.X
variable {u:World} {m0:Mem} {S:Segs} {w:World}
set_option maxHeartbeats 4000000
set_option maxRecDepth 100000
def qmr (u:World) (m0:Mem) (S:Segs) (r:(List UInt8)) (a:Act) (w:World):Prop :=
 Ok u m0 S w ∧ a.defers = [] ∧ RVs Tryz.prog a w [.t 2 (.string (bs r))] ∧ r.length ≤ LIMS
theorem qmi (N:Nat) (vc_0:List Value) (c_0:Code) (hc_0:qlY m0 vc_0 c_0) {r:(List UInt8)} (hF:qif N c_0 = some r) (hG:Glob u) (hTb:Tab u) (ok:Ok u m0 S w) :
  Calls Tryz.prog 16 [.agg vc_0.toArray].toArray w fun e w'=>(e = .returned (.string (bs r)) ∧ Ok u m0 S w') ∧ r.length ≤ LIMS:=by
 obtain ⟨c1,c3,rfl,h2,h4⟩:=hc_0
 have hb0:=ok.base
 have le_m0:=Mem.le.refl m0
 unfold qif at hF
 refine en (qmr u m0 S) r Tryz.func16 rfl rfl rfl (fun _ _ h=>rb h rfl) fun fin a E=>sg<|qfY E ok rfl rfl rfl fun b5 a w E ok=>aw E rfl fun a E=>sg<|lv E ok (qm5 (ps:=[(0,.const (vs ([63]))),(1,.const (vs ([101,109,105,116]))),(2,.const (vs ([111,112,101,110]))),(3,.const (vs ([99,108,111,115,101]))),(4,.const (vs ([118,111,105,100]))),(5,.const (vs ([97,114,103]))),(6,.const (vs ([110,117,109,98,101,114]))),(7,.const (vs ([117,110,105,116]))),(8,.const (vs ([100,97,116,101]))),(9,.const (vs ([108,105,115,116]))),(10,.const (vs ([115,119,105,116,99,104]))),(11,.const (vs ([99,97,115,101]))),(12,.const (vs ([106,117,109,112]))),(13,.const (vs ([115,116,111,112])))]) (qs:=[(0,[(vs ([63]))]),(1,[(vs ([101,109,105,116]))]),(2,[(vs ([111,112,101,110]))]),(3,[(vs ([99,108,111,115,101]))]),(4,[(vs ([118,111,105,100]))]),(5,[(vs ([97,114,103]))]),(6,[(vs ([110,117,109,98,101,114]))]),(7,[(vs ([117,110,105,116]))]),(8,[(vs ([100,97,116,101]))]),(9,[(vs ([108,105,115,116]))]),(10,[(vs ([115,119,105,116,99,104]))]),(11,[(vs ([99,97,115,101]))]),(12,[(vs ([106,117,109,112]))]),(13,[(vs ([115,116,111,112]))])]) (cs:=[(vs ([63])),(vs ([101,109,105,116])),(vs ([111,112,101,110])),(vs ([99,108,111,115,101])),(vs ([118,111,105,100])),(vs ([97,114,103])),(vs ([110,117,109,98,101,114])),(vs ([117,110,105,116])),(vs ([100,97,116,101])),(vs ([108,105,115,116])),(vs ([115,119,105,116,99,104])),(vs ([99,97,115,101])),(vs ([106,117,109,112])),(vs ([115,116,111,112]))]) qnY qm7 rfl ⟨rfl,rfl,rfl,⟨rfl,rfl,rfl,⟨rfl,rfl,rfl,⟨rfl,rfl,rfl,⟨rfl,rfl,rfl,⟨rfl,rfl,rfl,⟨rfl,rfl,rfl,⟨rfl,rfl,rfl,⟨rfl,rfl,rfl,⟨rfl,rfl,rfl,⟨rfl,rfl,rfl,⟨rfl,rfl,rfl,⟨rfl,rfl,rfl,⟨rfl,rfl,rfl,trivial⟩⟩⟩⟩⟩⟩⟩⟩⟩⟩⟩⟩⟩⟩ rfl) fun a E=>qa4 E ok qnY rfl rfl fun b6 a w E ok=>qae E ok 0 rfl rfl rfl qrh rfl rfl ⟨rfl,rfl,rfl,rfl,rfl,rfl,rfl,rfl,rfl,rfl,rfl,rfl,rfl,rfl,trivial⟩ rfl rfl fun w ok=>wn<|sg<|qbq (R:=pS) (xo:=[.const (vs ([34])),.const (vs ([92,34])),.const (vs ([92])),.const (vs ([92,92])),.const (vs ([10])),.const (vs ([92,110]))]) (xs:=([[34],[92,34],[92],[92,92],[10],[92,110]]:List (List UInt8))) E ok qbn qbH rfl ⟨⟨_,rfl,rfl,(qcs (show ([34]:List UInt8).length ≤ LIMS by decide))⟩,⟨_,rfl,rfl,(qcs (show ([92,34]:List UInt8).length ≤ LIMS by decide))⟩,⟨_,rfl,rfl,(qcs (show ([92]:List UInt8).length ≤ LIMS by decide))⟩,⟨_,rfl,rfl,(qcs (show ([92,92]:List UInt8).length ≤ LIMS by decide))⟩,⟨_,rfl,rfl,(qcs (show ([10]:List UInt8).length ≤ LIMS by decide))⟩,⟨_,rfl,rfl,(qcs (show ([92,110]:List UInt8).length ≤ LIMS by decide))⟩,trivial⟩ rfl rfl rfl rfl fun c7 M8 a w E ok h9=>?_
 obtain ⟨m10,hle,ok,hfz⟩:=(ok.frs 0 rfl).freeze
 have h11:=ORow.froz mS h9 hle hfz (by decide)
 have le_m0:=le_m0.trans hle
 have h2:=(mL mS).up hle h2
 have h4:=(mL mIns).up hle h4
 refine bd hF fun r12 e13 hF=>qag E qrO rfl (qi6 N _ ([[34],[92,34],[92],[92,92],[10],[92,110]]:List (List UInt8)) h11 e13 hG ok) rfl rfl ?_
 rintro _ w ⟨m14,b15,c19,M20,rfl,hle,ok,r16,r17,r18,h21⟩
 have le_m0:=le_m0.trans hle
 have h2:=(mL mS).up hle h2
 have h4:=(mL mIns).up hle h4
 have h11:=(mL mS).up hle h11
 refine ⟨_,rfl,fun a E=>?_⟩
 refine aw E rfl fun a E=>sg<|qa4 E ok qnS rfl rfl fun b22 a w E ok=>wn<|wp_seq<|sg<|fk E ok qcQ qcX rfl 4 rfl rfl fun a E=>lv E ok (qaQ qcZ h4 rfl) fun a E=>mv E rfl fun a E=>wn<|wp_block ?_
 obtain ⟨M30,ok,h31⟩:=qeq (e:=5) (k:=1) (R:=(pI .u8)) ok
 refine bd hF fun o32 hL hF=>qa9 _ (fun (s:Int × Builder) a w=>∃ c34 c36 M37,Ok u m14 (M37 :: [(b22,oc 68 [c34,c36])] :: [(b15,oc 110 [(Value.int .u32 r12.once.done.v),(Value.int .i32 r12.once.m.mu.state),(Value.int .u32 r12.once.m.mu.sema),Value.nilIface,c19])] :: M20 :: [(b6,oc 62 [(vs ([63])),(vs ([101,109,105,116])),(vs ([111,112,101,110])),(vs ([99,108,111,115,101])),(vs ([118,111,105,100])),(vs ([97,114,103])),(vs ([110,117,109,98,101,114])),(vs ([117,110,105,116])),(vs ([100,97,116,101])),(vs ([108,105,115,116])),(vs ([115,119,105,116,99,104])),(vs ([99,97,115,101])),(vs ([106,117,109,112])),(vs ([115,116,111,112]))])] :: [(b5,oc 28 [c1,c3])] :: S) w ∧ Env 70 a [(3,vp b6),(4,vp b15),(5,vp b22),(15,c3),(16,(vi (c_0.Ins.length:Int))),(17,vi s.1)] ∧ InR .i64 s.1 ∧ BAd b22 c34 ∧ ORow 5 1 (pI .u8) m14 c36 s.2.buf M37) (fun (b:Builder) e a w=>e = (.exit 0) ∧ ∃ c286 c288 M289,Ok u m14 (M289 :: [(b22,oc 68 [c286,c288])] :: [(b15,oc 110 [(Value.int .u32 r12.once.done.v),(Value.int .i32 r12.once.m.mu.state),(Value.int .u32 r12.once.m.mu.sema),Value.nilIface,c19])] :: M20 :: [(b6,oc 62 [(vs ([63])),(vs ([101,109,105,116])),(vs ([111,112,101,110])),(vs ([99,108,111,115,101])),(vs ([118,111,105,100])),(vs ([97,114,103])),(vs ([110,117,109,98,101,114])),(vs ([117,110,105,116])),(vs ([100,97,116,101])),(vs ([108,105,115,116])),(vs ([115,119,105,116,99,104])),(vs ([99,97,115,101])),(vs ([106,117,109,112])),(vs ([115,116,111,112]))])] :: [(b5,oc 28 [c1,c3])] :: S) w ∧ Env 70 a [(5,vp b22)] ∧ BAd b22 c286 ∧ ORow 5 1 (pI .u8) m14 c288 b.buf M289) ?_ ?_ N _ a w hL ⟨(Value.pointer none),(Value.slice none 0 0),M30,ok,E.keep [3,4,5,15,16,17],(ir 0),(.inl rfl),h31⟩
 rotate_left
 ·intro e a w _ hO
  obtain ⟨rfl,c280,c282,M283,ok,E,h281,h284⟩:=hO
  refine qbm<|qaa<|sg ?_
  replace ok:Ok u m14 ([(b22,oc 68 [c280,c282])] :: M283 :: [(b15,oc 110 [(Value.int .u32 r12.once.done.v),(Value.int .i32 r12.once.m.mu.state),(Value.int .u32 r12.once.m.mu.sema),Value.nilIface,c19])] :: M20 :: [(b6,oc 62 [(vs ([63])),(vs ([101,109,105,116])),(vs ([111,112,101,110])),(vs ([99,108,111,115,101])),(vs ([118,111,105,100])),(vs ([97,114,103])),(vs ([110,117,109,98,101,114])),(vs ([117,110,105,116])),(vs ([100,97,116,101])),(vs ([108,105,115,116])),(vs ([115,119,105,116,99,104])),(vs ([99,97,115,101])),(vs ([106,117,109,112])),(vs ([115,116,111,112]))])] :: [(b5,oc 28 [c1,c3])] :: S) w:=(ok.pk 6 [1,0,2,3,4,5] rfl (by decide))
  refine qag E qqj rfl (qlZ Tryz.lays169 Tryz.Builder_Extra_169 h284 ok) rfl rfl ?_
  rintro _ w ⟨⟨rfl,ok⟩,l285⟩
  refine ⟨_,rfl,fun a E=>?_⟩
  refine aw E rfl fun a E=>wp_ret ?_
  exact fin hF ⟨(ok.drop.drop.drop.drop).down hb0 le_m0,E.d,rz E rfl,l285⟩
 rintro ⟨v39,v40⟩ a w r ⟨c42,c44,M45,ok,E,r41,h43,h46⟩ hF
 replace hF:qg7 N c_0 v39 v40 = some r:=hF
 unfold qg7 at hF
 refine sg<|lw E (qaO rfl rfl) fun a E=>wn<|wp_seq<|cg E rfl hF (fun c47 hF=>?_) fun c47 hF=>?_
 ·refine wp_exit<|qaU ?_
  cases hF
  exact so (⟨rfl,⟨c42,c44,M45,ok,E.keep [5],h43,h46⟩⟩)
 refine wp_skip<|qaa<|wp_seq<|wp_block<|sg<|mv E rfl fun a E=>?_
 obtain ⟨x48,e49,hF⟩:=bnd hF
 obtain ⟨b50,o51,es52,hl53,rr54,at55,yy56⟩:=ia E 15 17 qcZ h4 e49
 obtain ⟨rfl,r57,r58,r59,l60⟩:=rr54
 refine lv E ok (yy56 _ _) fun a E=>lv E ok (qas (cs:=[vi x48.Op,vi x48.A,vi x48.B,vs x48.S]) qih rfl rfl (qad.ro at55)) fun a E=>qa4 E ok qdK rfl rfl fun b61 a w E ok=>av E rfl fun a E=>qae E ok 0 rfl rfl rfl qq5 rfl rfl ⟨rfl,rfl,rfl,rfl,trivial⟩ rfl rfl fun w ok=>wn<|sg<|aw E rfl fun a E=>wp_seq<|sg<|fv E qkX rfl fun a E=>ld E ok qap 0 rfl rfl rfl fun a E=>lw E (qb2 rfl rfl) fun a E=>mv E rfl fun a E=>bw E 25 hF (fun c62 hF E=>?_) fun c62 hF E=>?_
 ·as_aux_lemma =>
   refine lsq E fun a E=>ls E fun a E=>pf E rfl rfl fun a E=>wn<|c_if E rfl (fun h=>by cases h) (fun _=>?_)
   refine wp_skip<|qaa<|wp_seq<|bd hF fun o178 hJ hF=>qaG (Q':=fun e a w=>e = .normal ∧ ∃ c179 c181 M182,Ok u m14 ([(b61,oc 47 [vi x48.Op,vi x48.A,vi x48.B,vs x48.S])] :: M182 :: [(b22,oc 68 [c179,c181])] :: [(b15,oc 110 [(Value.int .u32 r12.once.done.v),(Value.int .i32 r12.once.m.mu.state),(Value.int .u32 r12.once.m.mu.sema),Value.nilIface,c19])] :: M20 :: [(b6,oc 62 [(vs ([63])),(vs ([101,109,105,116])),(vs ([111,112,101,110])),(vs ([99,108,111,115,101])),(vs ([118,111,105,100])),(vs ([97,114,103])),(vs ([110,117,109,98,101,114])),(vs ([117,110,105,116])),(vs ([100,97,116,101])),(vs ([108,105,115,116])),(vs ([115,119,105,116,99,104])),(vs ([99,97,115,101])),(vs ([106,117,109,112])),(vs ([115,116,111,112]))])] :: [(b5,oc 28 [c1,c3])] :: S) w ∧ Env 70 a [(3,vp b6),(4,vp b15),(5,vp b22),(7,vp b61),(15,c3),(16,(vi (c_0.Ins.length:Int))),(17,vi v39)] ∧ BAd b22 c179 ∧ ORow 5 1 (pI .u8) m14 c181 o178.buf M182) ?_ ?_
   ·have hF:=hJ
    obtain ⟨r184,e185,hF⟩:=bnd hF
    obtain ⟨s187,e188,hF⟩:=bnd hF
    obtain ⟨s189,e190,hF⟩:=bnd hF
    obtain ⟨r191,e192,hF⟩:=bnd hF
    obtain rfl:=sj hF
    refine qbI [] (Cls u m14 ([(b61,oc 47 [vi x48.Op,vi x48.A,vi x48.B,vs x48.S])] :: [(b15,oc 110 [(Value.int .u32 r12.once.done.v),(Value.int .i32 r12.once.m.mu.state),(Value.int .u32 r12.once.m.mu.sema),Value.nilIface,c19])] :: M20 :: [(b6,oc 62 [(vs ([63])),(vs ([101,109,105,116])),(vs ([111,112,101,110])),(vs ([99,108,111,115,101])),(vs ([118,111,105,100])),(vs ([97,114,103])),(vs ([110,117,109,98,101,114])),(vs ([117,110,105,116])),(vs ([100,97,116,101])),(vs ([108,105,115,116])),(vs ([115,119,105,116,99,104])),(vs ([99,97,115,101])),(vs ([106,117,109,112])),(vs ([115,116,111,112]))])] :: [(b5,oc 28 [c1,c3])] :: [])) (Cls u m14 ([(b61,oc 47 [vi x48.Op,vi x48.A,vi x48.B,vs x48.S])] :: [(b15,oc 110 [(Value.int .u32 r12.once.done.v),(Value.int .i32 r12.once.m.mu.state),(Value.int .u32 r12.once.m.mu.sema),Value.nilIface,c19])] :: M20 :: [(b6,oc 62 [(vs ([63])),(vs ([101,109,105,116])),(vs ([111,112,101,110])),(vs ([99,108,111,115,101])),(vs ([118,111,105,100])),(vs ([97,114,103])),(vs ([110,117,109,98,101,114])),(vs ([117,110,105,116])),(vs ([100,97,116,101])),(vs ([108,105,115,116])),(vs ([115,119,105,116,99,104])),(vs ([99,97,115,101])),(vs ([106,117,109,112])),(vs ([115,116,111,112]))])] :: [(b5,oc 28 [c1,c3])] :: [])) (by kernel_rfl) ?_
    intro w hw
    replace ok:=qb3 ok hw
    clear hw
    have le_m14:=Mem.le.refl m14
    refine qaw (cl1 (cq le_m14 ok [0,3,4,5,6] rfl) (cq le_m14 ok [0,3,4,5,6] rfl)) fun hT=>kt 0 E rfl hT (qan rfl) fun a E=>kt 3 E rfl hT (qan rfl) fun a E=>kt 4 E rfl hT (qo7 qm7 rfl rfl (by decide) (by decide)) fun a E=>kt 5 E rfl hT (qat qak rfl (qad.cown 3 rfl rfl)) fun a E=>qa1 [1] (by kernel_rfl) rfl (qa8 ?_)
    ·refine wo rfl<|qag E qlx rfl (qe8 N v39 r41 e185 hG hTb ok) rfl rfl ?_
     rintro _ w ⟨⟨rfl,ok⟩,l199⟩
     refine ⟨_,rfl,fun a E=>?_⟩
     refine wn<|qaw (cl1 (cq le_m14 ok [0,3,4,5,6] rfl) (cq le_m14 ok [0,3,4,5,6] rfl)) fun hT=>kt 2 E rfl hT (qa5 rfl rfl e188) fun a E=>kt 6 E rfl hT (qa5 rfl rfl e190) fun a E=>qa1 [7] (by kernel_rfl) rfl (qa8 ?_)
     ·refine qdd (o:=_) rfl ?_
      replace ok:Ok u m14 ([(b22,oc 68 [c42,c44])] :: M45 :: [(b61,oc 47 [vi x48.Op,vi x48.A,vi x48.B,vs x48.S])] :: [(b15,oc 110 [(Value.int .u32 r12.once.done.v),(Value.int .i32 r12.once.m.mu.state),(Value.int .u32 r12.once.m.mu.sema),Value.nilIface,c19])] :: M20 :: [(b6,oc 62 [(vs ([63])),(vs ([101,109,105,116])),(vs ([111,112,101,110])),(vs ([99,108,111,115,101])),(vs ([118,111,105,100])),(vs ([97,114,103])),(vs ([110,117,109,98,101,114])),(vs ([117,110,105,116])),(vs ([100,97,116,101])),(vs ([108,105,115,116])),(vs ([115,119,105,116,99,104])),(vs ([99,97,115,101])),(vs ([106,117,109,112])),(vs ([115,116,111,112]))])] :: [(b5,oc 28 [c1,c3])] :: S) w:=(ok.pk 7 [2,1,0,3,4,5,6] rfl (by decide))
      refine qag E qlH rfl (qcC N s189 (qb6 e190) (Builder.mk () v40.buf) h43 h46 e192 hG ok) rfl rfl ?_
      rintro _ w ⟨c201,c203,M204,⟨rfl,ok⟩,r200,h202,h205⟩
      refine ⟨_,rfl,fun a E=>?_⟩
      refine wn<|qaw (cl1 (cq le_m14 ok [2,3,4,5,6] rfl) (cq le_m14 ok [2,3,4,5,6] rfl)) fun hT=>qbK (by kernel_rfl) ?_
      exact ⟨rfl,⟨c201,c203,M204,(ok.pk 7 [2,1,0,3,4,5,6] rfl (by decide)),E.keep [3,4,5,7,15,16,17],h202,h205⟩⟩
   intro e a w hO
   obtain ⟨rfl,c206,c208,M209,ok,E,h207,h210⟩:=hO
   refine qaa<|wp_seq<|sg<|fk E ok qh9 qap rfl 0 rfl rfl fun a E=>fk E ok qn4 qap rfl 0 rfl rfl fun a E=>qbq (R:=(pI .i64)) (xo:=[.tmp 41,.tmp 43]) (xs:=([x48.A,x48.B]:List (Int))) E ok qhq qly rfl ⟨⟨_,rfl,rfl,(qej r58)⟩,⟨_,rfl,rfl,(qej r59)⟩,trivial⟩ rfl rfl rfl rfl fun c211 M212 a w E ok h213=>lv E ok (qeV qhq h213 rfl) fun a E=>mv E rfl fun a E=>wn<|wp_block<|bd hF fun o221 hL hF=>qa9 _ (fun (s:Int × Builder) a w=>∃ c223 c225 M226,Ok u m14 (M212 :: [(b61,oc 47 [vi x48.Op,vi x48.A,vi x48.B,vs x48.S])] :: M226 :: [(b22,oc 68 [c223,c225])] :: [(b15,oc 110 [(Value.int .u32 r12.once.done.v),(Value.int .i32 r12.once.m.mu.state),(Value.int .u32 r12.once.m.mu.sema),Value.nilIface,c19])] :: M20 :: [(b6,oc 62 [(vs ([63])),(vs ([101,109,105,116])),(vs ([111,112,101,110])),(vs ([99,108,111,115,101])),(vs ([118,111,105,100])),(vs ([97,114,103])),(vs ([110,117,109,98,101,114])),(vs ([117,110,105,116])),(vs ([100,97,116,101])),(vs ([108,105,115,116])),(vs ([115,119,105,116,99,104])),(vs ([99,97,115,101])),(vs ([106,117,109,112])),(vs ([115,116,111,112]))])] :: [(b5,oc 28 [c1,c3])] :: S) w ∧ Env 70 a [(3,vp b6),(4,vp b15),(5,vp b22),(7,vp b61),(15,c3),(16,(vi (c_0.Ins.length:Int))),(17,vi v39),(44,c211),(45,(vi (([x48.A,x48.B]:List (Int)).length:Int))),(46,vi s.1)] ∧ InR .i64 s.1 ∧ BAd b22 c223 ∧ ORow 5 1 (pI .u8) m14 c225 s.2.buf M226) (fun (b:Builder) e a w=>e = (.exit 2) ∧ ∃ c275 c277 M278,Ok u m14 (M212 :: [(b61,oc 47 [vi x48.Op,vi x48.A,vi x48.B,vs x48.S])] :: M278 :: [(b22,oc 68 [c275,c277])] :: [(b15,oc 110 [(Value.int .u32 r12.once.done.v),(Value.int .i32 r12.once.m.mu.state),(Value.int .u32 r12.once.m.mu.sema),Value.nilIface,c19])] :: M20 :: [(b6,oc 62 [(vs ([63])),(vs ([101,109,105,116])),(vs ([111,112,101,110])),(vs ([99,108,111,115,101])),(vs ([118,111,105,100])),(vs ([97,114,103])),(vs ([110,117,109,98,101,114])),(vs ([117,110,105,116])),(vs ([100,97,116,101])),(vs ([108,105,115,116])),(vs ([115,119,105,116,99,104])),(vs ([99,97,115,101])),(vs ([106,117,109,112])),(vs ([115,116,111,112]))])] :: [(b5,oc 28 [c1,c3])] :: S) w ∧ Env 70 a [(3,vp b6),(4,vp b15),(5,vp b22),(7,vp b61),(15,c3),(16,(vi (c_0.Ins.length:Int))),(17,vi v39)] ∧ BAd b22 c275 ∧ ORow 5 1 (pI .u8) m14 c277 b.buf M278) ?_ ?_ N _ a w hL ⟨c206,c208,M209,ok,E.keep [3,4,5,7,15,16,17,44,45,46],(ir 0),h207,h210⟩
   rotate_left
   ·intro e a w _ hO
    obtain ⟨rfl,c262,c264,M265,ok,E,h263,h266⟩:=hO
    refine qbm<|qaa<|wp_seq<|sg<|fk E ok qnZ qak rfl 1 rfl rfl fun a E=>lw E (qce rfl rfl) fun a E=>wn<|cf E rfl hF (fun c267 hF=>?_) fun c267 hF=>?_
    ·cases hF
    refine wp_skip<|qaa<|qac ?_
    obtain ⟨r268,e269,hF⟩:=bnd hF
    replace ok:Ok u m14 ([(b22,oc 68 [c262,c264])] :: M265 :: M212 :: [(b61,oc 47 [vi x48.Op,vi x48.A,vi x48.B,vs x48.S])] :: [(b15,oc 110 [(Value.int .u32 r12.once.done.v),(Value.int .i32 r12.once.m.mu.state),(Value.int .u32 r12.once.m.mu.sema),Value.nilIface,c19])] :: M20 :: [(b6,oc 62 [(vs ([63])),(vs ([101,109,105,116])),(vs ([111,112,101,110])),(vs ([99,108,111,115,101])),(vs ([118,111,105,100])),(vs ([97,114,103])),(vs ([110,117,109,98,101,114])),(vs ([117,110,105,116])),(vs ([100,97,116,101])),(vs ([108,105,115,116])),(vs ([115,119,105,116,99,104])),(vs ([99,97,115,101])),(vs ([106,117,109,112])),(vs ([115,116,111,112]))])] :: [(b5,oc 28 [c1,c3])] :: S) w:=(ok.pk 8 [3,2,0,1,4,5,6,7] rfl (by decide))
    refine qag E qlz rfl (qcN N 10 (show InR .u8 (10) by decide) (Builder.mk () o221.buf) h263 h266 e269 hG ok) rfl rfl ?_
    rintro _ w ⟨c270,c272,M273,⟨rfl,ok⟩,h271,h274⟩
    refine ⟨_,rfl,fun a E=>?_⟩
    refine wpList_nil<|qaf<|qaa<|qac<|lw E (qaA rfl rfl (InR.inc r41 (qal h4) c47)) fun a E=>mv E rfl fun a E=>wpList_nil ?_
    cases hF
    exact qar ⟨c270,c272,M273,(ok.pk 8 [1,0,4,5,6,7] rfl (by decide)),E.keep [3,4,5,15,16,17],(InR.inc r41 (qal h4) c47),h271,h274⟩
   rintro ⟨v228,v229⟩ a w r ⟨c231,c233,M234,ok,E,r230,h232,h235⟩ hF
   replace hF:qg6 N x48 v228 v229 = some r:=hF
   unfold qg6 at hF
   refine sg<|lw E (qaO rfl rfl) fun a E=>wn<|wp_seq<|cg E rfl hF (fun c236 hF=>?_) fun c236 hF=>?_
   ·refine wp_exit<|qaU ?_
    cases hF
    exact so (⟨rfl,⟨c231,c233,M234,ok,E.keep [3,4,5,7,15,16,17],h232,h235⟩⟩)
   refine wp_skip<|qaa<|wp_seq<|wp_block<|sg ?_
   obtain ⟨x237,e238,hF⟩:=bnd hF
   obtain ⟨b239,o240,hp241,yy242⟩:=qgp qhq h213 e238 (P:=Tryz.prog) (X:=.tmp 44) (I:=.tmp 46) (kd:=.i64) (qcy E rfl) (qcy E rfl)
   refine lv E ok (yy242 _ _) fun a E=>?_
   obtain ⟨es243,hl244,rr245,hh246⟩:=qia h213 e238 hp241 (by decide)
   obtain ⟨rfl,r247⟩:=rr245
   refine lv E ok (qat qap rfl (hh246 _ _ _ 0 rfl)) fun a E=>aw E rfl fun a E=>sg<|mv E rfl fun a E=>lw E (qbN rfl rfl) fun a E=>wn<|cg E rfl hF (fun c248 hF=>?_) fun c248 hF=>?_
   ·refine wp_skip<|qaf<|qaa<|qac<|lw E (qaA rfl rfl (InR.inc r230 (ORow.InR h213) c236)) fun a E=>mv E rfl fun a E=>wpList_nil ?_
    cases hF
    exact qar ⟨c231,c233,M234,ok,E.keep [3,4,5,7,15,16,17,44,45,46],(InR.inc r230 (ORow.InR h213) c236),h232,h235⟩
   refine qac<|mv E rfl fun a E=>bd hF fun r249 e250 hF=>qag E qlx rfl (qe8 N x237 r247 e250 hG hTb ok) rfl rfl ?_
   rintro _ w ⟨⟨rfl,ok⟩,l251⟩
   refine ⟨_,rfl,fun a E=>?_⟩
   refine bd hF fun s252 e253 hF=>lw E (qa5 rfl rfl e253) fun a E=>?_
   obtain ⟨r254,e255,hF⟩:=bnd hF
   replace ok:Ok u m14 ([(b22,oc 68 [c231,c233])] :: M234 :: M212 :: [(b61,oc 47 [vi x48.Op,vi x48.A,vi x48.B,vs x48.S])] :: [(b15,oc 110 [(Value.int .u32 r12.once.done.v),(Value.int .i32 r12.once.m.mu.state),(Value.int .u32 r12.once.m.mu.sema),Value.nilIface,c19])] :: M20 :: [(b6,oc 62 [(vs ([63])),(vs ([101,109,105,116])),(vs ([111,112,101,110])),(vs ([99,108,111,115,101])),(vs ([118,111,105,100])),(vs ([97,114,103])),(vs ([110,117,109,98,101,114])),(vs ([117,110,105,116])),(vs ([100,97,116,101])),(vs ([108,105,115,116])),(vs ([115,119,105,116,99,104])),(vs ([99,97,115,101])),(vs ([106,117,109,112])),(vs ([115,116,111,112]))])] :: [(b5,oc 28 [c1,c3])] :: S) w:=(ok.pk 8 [3,2,0,1,4,5,6,7] rfl (by decide))
   refine qag E qlH rfl (qcC N s252 (qb6 e253) (Builder.mk () v229.buf) h232 h235 e255 hG ok) rfl rfl ?_
   rintro _ w ⟨c257,c259,M260,⟨rfl,ok⟩,r256,h258,h261⟩
   refine ⟨_,rfl,fun a E=>?_⟩
   refine wpList_nil<|qaf<|qaa<|qac<|lw E (qaA rfl rfl (InR.inc r230 (ORow.InR h213) c236)) fun a E=>mv E rfl fun a E=>wpList_nil ?_
   cases hF
   exact qar ⟨c257,c259,M260,(ok.pk 8 [2,3,1,0,4,5,6,7] rfl (by decide)),E.keep [3,4,5,7,15,16,17,44,45,46],(InR.inc r230 (ORow.InR h213) c236),h258,h261⟩
 refine fk E ok qkX qap rfl 0 rfl rfl fun a E=>lw E (qc4 rfl rfl) fun a E=>pt E rfl rfl fun a E=>wn<|bd hF fun o63 hJ hF=>qaG (Q':=fun e a w=>e = .normal ∧ Ok u m14 ([(b61,oc 47 [vi x48.Op,vi x48.A,vi x48.B,vs x48.S])] :: M45 :: [(b22,oc 68 [c42,c44])] :: [(b15,oc 110 [(Value.int .u32 r12.once.done.v),(Value.int .i32 r12.once.m.mu.state),(Value.int .u32 r12.once.m.mu.sema),Value.nilIface,c19])] :: M20 :: [(b6,oc 62 [(vs ([63])),(vs ([101,109,105,116])),(vs ([111,112,101,110])),(vs ([99,108,111,115,101])),(vs ([118,111,105,100])),(vs ([97,114,103])),(vs ([110,117,109,98,101,114])),(vs ([117,110,105,116])),(vs ([100,97,116,101])),(vs ([108,105,115,116])),(vs ([115,119,105,116,99,104])),(vs ([99,97,115,101])),(vs ([106,117,109,112])),(vs ([115,116,111,112]))])] :: [(b5,oc 28 [c1,c3])] :: S) w ∧ Env 70 a [(3,vp b6),(4,vp b15),(5,vp b22),(6,vi v39),(7,vp b61),(8,vi o63),(15,c3),(16,(vi (c_0.Ins.length:Int))),(17,vi v39)] ∧ InR .i64 o63) ?_ ?_
 ·have hF:=hJ
  refine cg E rfl hF (fun c65 hF=>?_) fun c65 hF=>?_
  ·refine wp_skip ?_
   cases hF
   exact ⟨rfl,⟨ok,E.keep [3,4,5,6,7,8,15,16,17],(ir 0)⟩⟩
  refine qac<|fk E ok qkX qap rfl 0 rfl rfl fun a E=>av E rfl fun a E=>wpList_nil ?_
  cases hF
  exact ⟨rfl,⟨ok,E.keep [3,4,5,6,7,8,15,16,17],r57⟩⟩
 intro e a w hO
 obtain ⟨rfl,ok,E,r66⟩:=hO
 refine qaa<|wp_seq<|bd hF fun o67 hJ hF=>qaG (Q':=fun e a w=>e = .normal ∧ ∃ c68 c70 M71,Ok u m14 ([(b61,oc 47 [vi x48.Op,vi x48.A,vi x48.B,vs x48.S])] :: M71 :: [(b22,oc 68 [c68,c70])] :: [(b15,oc 110 [(Value.int .u32 r12.once.done.v),(Value.int .i32 r12.once.m.mu.state),(Value.int .u32 r12.once.m.mu.sema),Value.nilIface,c19])] :: M20 :: [(b6,oc 62 [(vs ([63])),(vs ([101,109,105,116])),(vs ([111,112,101,110])),(vs ([99,108,111,115,101])),(vs ([118,111,105,100])),(vs ([97,114,103])),(vs ([110,117,109,98,101,114])),(vs ([117,110,105,116])),(vs ([100,97,116,101])),(vs ([108,105,115,116])),(vs ([115,119,105,116,99,104])),(vs ([99,97,115,101])),(vs ([106,117,109,112])),(vs ([115,116,111,112]))])] :: [(b5,oc 28 [c1,c3])] :: S) w ∧ Env 70 a [(3,vp b6),(4,vp b15),(5,vp b22),(7,vp b61),(15,c3),(16,(vi (c_0.Ins.length:Int))),(17,vi v39)] ∧ BAd b22 c68 ∧ ORow 5 1 (pI .u8) m14 c70 o67.buf M71) ?_ ?_
 ·have hF:=hJ
  obtain ⟨r73,e74,hF⟩:=bnd hF
  obtain ⟨s76,e77,hF⟩:=bnd hF
  obtain ⟨x78,e79,hF⟩:=bnd hF
  obtain ⟨s80,e81,hF⟩:=bnd hF
  obtain ⟨r82,e83,hF⟩:=bnd hF
  obtain rfl:=sj hF
  refine qbI [] (Cls u m14 ([(b61,oc 47 [vi x48.Op,vi x48.A,vi x48.B,vs x48.S])] :: [(b15,oc 110 [(Value.int .u32 r12.once.done.v),(Value.int .i32 r12.once.m.mu.state),(Value.int .u32 r12.once.m.mu.sema),Value.nilIface,c19])] :: M20 :: [(b6,oc 62 [(vs ([63])),(vs ([101,109,105,116])),(vs ([111,112,101,110])),(vs ([99,108,111,115,101])),(vs ([118,111,105,100])),(vs ([97,114,103])),(vs ([110,117,109,98,101,114])),(vs ([117,110,105,116])),(vs ([100,97,116,101])),(vs ([108,105,115,116])),(vs ([115,119,105,116,99,104])),(vs ([99,97,115,101])),(vs ([106,117,109,112])),(vs ([115,116,111,112]))])] :: [(b5,oc 28 [c1,c3])] :: [])) (Cls u m14 ([(b61,oc 47 [vi x48.Op,vi x48.A,vi x48.B,vs x48.S])] :: [(b15,oc 110 [(Value.int .u32 r12.once.done.v),(Value.int .i32 r12.once.m.mu.state),(Value.int .u32 r12.once.m.mu.sema),Value.nilIface,c19])] :: M20 :: [(b6,oc 62 [(vs ([63])),(vs ([101,109,105,116])),(vs ([111,112,101,110])),(vs ([99,108,111,115,101])),(vs ([118,111,105,100])),(vs ([97,114,103])),(vs ([110,117,109,98,101,114])),(vs ([117,110,105,116])),(vs ([100,97,116,101])),(vs ([108,105,115,116])),(vs ([115,119,105,116,99,104])),(vs ([99,97,115,101])),(vs ([106,117,109,112])),(vs ([115,116,111,112]))])] :: [(b5,oc 28 [c1,c3])] :: [])) (by kernel_rfl) ?_
  intro w hw
  replace ok:=qb3 ok hw
  clear hw
  have le_m14:=Mem.le.refl m14
  refine qaw (cl1 (cq le_m14 ok [0,3,4,5,6] rfl) (cq le_m14 ok [0,3,4,5,6] rfl)) fun hT=>kt 0 E rfl hT (qan rfl) fun a E=>kt 3 E rfl hT (qan rfl) fun a E=>?_
  replace e79:idx (Arr14_List_UInt8.list (Arr14_List_UInt8.mk ([63]) ([101,109,105,116]) ([111,112,101,110]) ([99,108,111,115,101]) ([118,111,105,100]) ([97,114,103]) ([110,117,109,98,101,114]) ([117,110,105,116]) ([100,97,116,101]) ([108,105,115,116]) ([115,119,105,116,99,104]) ([99,97,115,101]) ([106,117,109,112]) ([115,116,111,112]))) o63 = some x78:=e79
  refine kt 4 E rfl hT (qo7 qm7 rfl rfl (qmx e79).1 (qmx e79).2) fun a E=>qa1 [1,5] (by kernel_rfl) rfl (qgY ?_ (qgY ?_ (qkQ)))
  ·refine wo rfl<|qag E qlx rfl (qe8 N v39 r41 e74 hG hTb ok) rfl rfl ?_
   rintro _ w ⟨⟨rfl,ok⟩,l90⟩
   refine ⟨_,rfl,fun a E=>?_⟩
   refine wn<|qaw (cl1 (cq le_m14 ok [0,3,4,5,6] rfl) (cq le_m14 ok [0,3,4,5,6] rfl)) fun hT=>kt 2 E rfl hT (qa5 rfl rfl e77) fun a E=>qa1 [5] (by kernel_rfl) rfl (qa8 ?_)
   ·refine wo rfl<|lv E ok (qat qak rfl (qad.idx (xs:=Arr14_List_UInt8.list (Arr14_List_UInt8.mk ([63]) ([101,109,105,116]) ([111,112,101,110]) ([99,108,111,115,101]) ([118,111,105,100]) ([97,114,103]) ([110,117,109,98,101,114]) ([117,110,105,116]) ([100,97,116,101]) ([108,105,115,116]) ([115,119,105,116,99,104]) ([99,97,115,101]) ([106,117,109,112]) ([115,116,111,112]))) (f:=(fun x=>vs x)) (qad.own 5 rfl rfl) e79)) fun a E=>wn<|qaw (cl1 (cq le_m14 ok [0,3,4,5,6] rfl) (cq le_m14 ok [0,3,4,5,6] rfl)) fun hT=>kt 6 E rfl hT (qa5 rfl rfl e81) fun a E=>qa1 [7] (by kernel_rfl) rfl (qa8 ?_)
    ·refine qdd (o:=_) rfl ?_
     replace ok:Ok u m14 ([(b22,oc 68 [c42,c44])] :: M45 :: [(b61,oc 47 [vi x48.Op,vi x48.A,vi x48.B,vs x48.S])] :: [(b15,oc 110 [(Value.int .u32 r12.once.done.v),(Value.int .i32 r12.once.m.mu.state),(Value.int .u32 r12.once.m.mu.sema),Value.nilIface,c19])] :: M20 :: [(b6,oc 62 [(vs ([63])),(vs ([101,109,105,116])),(vs ([111,112,101,110])),(vs ([99,108,111,115,101])),(vs ([118,111,105,100])),(vs ([97,114,103])),(vs ([110,117,109,98,101,114])),(vs ([117,110,105,116])),(vs ([100,97,116,101])),(vs ([108,105,115,116])),(vs ([115,119,105,116,99,104])),(vs ([99,97,115,101])),(vs ([106,117,109,112])),(vs ([115,116,111,112]))])] :: [(b5,oc 28 [c1,c3])] :: S) w:=(ok.pk 7 [2,1,0,3,4,5,6] rfl (by decide))
     refine qag E qlH rfl (qcC N s80 (qb6 e81) (Builder.mk () v40.buf) h43 h46 e83 hG ok) rfl rfl ?_
     rintro _ w ⟨c92,c94,M95,⟨rfl,ok⟩,r91,h93,h96⟩
     refine ⟨_,rfl,fun a E=>?_⟩
     refine wn<|qaw (cl1 (cq le_m14 ok [2,3,4,5,6] rfl) (cq le_m14 ok [2,3,4,5,6] rfl)) fun hT=>qbK (by kernel_rfl) ?_
     exact ⟨rfl,⟨c92,c94,M95,(ok.pk 7 [2,1,0,3,4,5,6] rfl (by decide)),E.keep [3,4,5,7,15,16,17],h93,h96⟩⟩
  refine wo rfl<|lv E ok (qat qak rfl (qad.idx (xs:=Arr14_List_UInt8.list (Arr14_List_UInt8.mk ([63]) ([101,109,105,116]) ([111,112,101,110]) ([99,108,111,115,101]) ([118,111,105,100]) ([97,114,103]) ([110,117,109,98,101,114]) ([117,110,105,116]) ([100,97,116,101]) ([108,105,115,116]) ([115,119,105,116,99,104]) ([99,97,115,101]) ([106,117,109,112]) ([115,116,111,112]))) (f:=(fun x=>vs x)) (qad.own 5 rfl rfl) e79)) fun a E=>wn<|qaw (cl1 (cq le_m14 ok [0,3,4,5,6] rfl) (cq le_m14 ok [0,3,4,5,6] rfl)) fun hT=>qa1 [1] (by kernel_rfl) rfl (qa8 ?_)
  ·refine wo rfl<|qag E qlx rfl (qe8 N v39 r41 e74 hG hTb ok) rfl rfl ?_
   rintro _ w ⟨⟨rfl,ok⟩,l97⟩
   refine ⟨_,rfl,fun a E=>?_⟩
   refine wn<|qaw (cl1 (cq le_m14 ok [0,3,4,5,6] rfl) (cq le_m14 ok [0,3,4,5,6] rfl)) fun hT=>kt 2 E rfl hT (qa5 rfl rfl e77) fun a E=>kt 6 E rfl hT (qa5 rfl rfl e81) fun a E=>qa1 [7] (by kernel_rfl) rfl (qa8 ?_)
   ·refine qdd (o:=_) rfl ?_
    replace ok:Ok u m14 ([(b22,oc 68 [c42,c44])] :: M45 :: [(b61,oc 47 [vi x48.Op,vi x48.A,vi x48.B,vs x48.S])] :: [(b15,oc 110 [(Value.int .u32 r12.once.done.v),(Value.int .i32 r12.once.m.mu.state),(Value.int .u32 r12.once.m.mu.sema),Value.nilIface,c19])] :: M20 :: [(b6,oc 62 [(vs ([63])),(vs ([101,109,105,116])),(vs ([111,112,101,110])),(vs ([99,108,111,115,101])),(vs ([118,111,105,100])),(vs ([97,114,103])),(vs ([110,117,109,98,101,114])),(vs ([117,110,105,116])),(vs ([100,97,116,101])),(vs ([108,105,115,116])),(vs ([115,119,105,116,99,104])),(vs ([99,97,115,101])),(vs ([106,117,109,112])),(vs ([115,116,111,112]))])] :: [(b5,oc 28 [c1,c3])] :: S) w:=(ok.pk 7 [2,1,0,3,4,5,6] rfl (by decide))
    refine qag E qlH rfl (qcC N s80 (qb6 e81) (Builder.mk () v40.buf) h43 h46 e83 hG ok) rfl rfl ?_
    rintro _ w ⟨c99,c101,M102,⟨rfl,ok⟩,r98,h100,h103⟩
    refine ⟨_,rfl,fun a E=>?_⟩
    refine wn<|qaw (cl1 (cq le_m14 ok [2,3,4,5,6] rfl) (cq le_m14 ok [2,3,4,5,6] rfl)) fun hT=>qbK (by kernel_rfl) ?_
    exact ⟨rfl,⟨c99,c101,M102,(ok.pk 7 [2,1,0,3,4,5,6] rfl (by decide)),E.keep [3,4,5,7,15,16,17],h100,h103⟩⟩
 intro e a w hO
 obtain ⟨rfl,c104,c106,M107,ok,E,h105,h108⟩:=hO
 refine qaa<|wp_seq<|sg<|fk E ok qh9 qap rfl 0 rfl rfl fun a E=>fk E ok qn4 qap rfl 0 rfl rfl fun a E=>qbq (R:=(pI .i64)) (xo:=[.tmp 41,.tmp 43]) (xs:=([x48.A,x48.B]:List (Int))) E ok qhq qly rfl ⟨⟨_,rfl,rfl,(qej r58)⟩,⟨_,rfl,rfl,(qej r59)⟩,trivial⟩ rfl rfl rfl rfl fun c109 M110 a w E ok h111=>lv E ok (qeV qhq h111 rfl) fun a E=>mv E rfl fun a E=>wn<|wp_block<|bd hF fun o119 hL hF=>qa9 _ (fun (s:Int × Builder) a w=>∃ c121 c123 M124,Ok u m14 (M110 :: [(b61,oc 47 [vi x48.Op,vi x48.A,vi x48.B,vs x48.S])] :: M124 :: [(b22,oc 68 [c121,c123])] :: [(b15,oc 110 [(Value.int .u32 r12.once.done.v),(Value.int .i32 r12.once.m.mu.state),(Value.int .u32 r12.once.m.mu.sema),Value.nilIface,c19])] :: M20 :: [(b6,oc 62 [(vs ([63])),(vs ([101,109,105,116])),(vs ([111,112,101,110])),(vs ([99,108,111,115,101])),(vs ([118,111,105,100])),(vs ([97,114,103])),(vs ([110,117,109,98,101,114])),(vs ([117,110,105,116])),(vs ([100,97,116,101])),(vs ([108,105,115,116])),(vs ([115,119,105,116,99,104])),(vs ([99,97,115,101])),(vs ([106,117,109,112])),(vs ([115,116,111,112]))])] :: [(b5,oc 28 [c1,c3])] :: S) w ∧ Env 70 a [(3,vp b6),(4,vp b15),(5,vp b22),(7,vp b61),(15,c3),(16,(vi (c_0.Ins.length:Int))),(17,vi v39),(44,c109),(45,(vi (([x48.A,x48.B]:List (Int)).length:Int))),(46,vi s.1)] ∧ InR .i64 s.1 ∧ BAd b22 c121 ∧ ORow 5 1 (pI .u8) m14 c123 s.2.buf M124) (fun (b:Builder) e a w=>e = (.exit 2) ∧ ∃ c173 c175 M176,Ok u m14 (M110 :: [(b61,oc 47 [vi x48.Op,vi x48.A,vi x48.B,vs x48.S])] :: M176 :: [(b22,oc 68 [c173,c175])] :: [(b15,oc 110 [(Value.int .u32 r12.once.done.v),(Value.int .i32 r12.once.m.mu.state),(Value.int .u32 r12.once.m.mu.sema),Value.nilIface,c19])] :: M20 :: [(b6,oc 62 [(vs ([63])),(vs ([101,109,105,116])),(vs ([111,112,101,110])),(vs ([99,108,111,115,101])),(vs ([118,111,105,100])),(vs ([97,114,103])),(vs ([110,117,109,98,101,114])),(vs ([117,110,105,116])),(vs ([100,97,116,101])),(vs ([108,105,115,116])),(vs ([115,119,105,116,99,104])),(vs ([99,97,115,101])),(vs ([106,117,109,112])),(vs ([115,116,111,112]))])] :: [(b5,oc 28 [c1,c3])] :: S) w ∧ Env 70 a [(3,vp b6),(4,vp b15),(5,vp b22),(7,vp b61),(15,c3),(16,(vi (c_0.Ins.length:Int))),(17,vi v39)] ∧ BAd b22 c173 ∧ ORow 5 1 (pI .u8) m14 c175 b.buf M176) ?_ ?_ N _ a w hL ⟨c104,c106,M107,ok,E.keep [3,4,5,7,15,16,17,44,45,46],(ir 0),h105,h108⟩
 rotate_left
 ·intro e a w _ hO
  obtain ⟨rfl,c160,c162,M163,ok,E,h161,h164⟩:=hO
  refine qbm<|qaa<|wp_seq<|sg<|fk E ok qnZ qak rfl 1 rfl rfl fun a E=>lw E (qce rfl rfl) fun a E=>wn<|cf E rfl hF (fun c165 hF=>?_) fun c165 hF=>?_
  ·cases hF
  refine wp_skip<|qaa<|qac ?_
  obtain ⟨r166,e167,hF⟩:=bnd hF
  replace ok:Ok u m14 ([(b22,oc 68 [c160,c162])] :: M163 :: M110 :: [(b61,oc 47 [vi x48.Op,vi x48.A,vi x48.B,vs x48.S])] :: [(b15,oc 110 [(Value.int .u32 r12.once.done.v),(Value.int .i32 r12.once.m.mu.state),(Value.int .u32 r12.once.m.mu.sema),Value.nilIface,c19])] :: M20 :: [(b6,oc 62 [(vs ([63])),(vs ([101,109,105,116])),(vs ([111,112,101,110])),(vs ([99,108,111,115,101])),(vs ([118,111,105,100])),(vs ([97,114,103])),(vs ([110,117,109,98,101,114])),(vs ([117,110,105,116])),(vs ([100,97,116,101])),(vs ([108,105,115,116])),(vs ([115,119,105,116,99,104])),(vs ([99,97,115,101])),(vs ([106,117,109,112])),(vs ([115,116,111,112]))])] :: [(b5,oc 28 [c1,c3])] :: S) w:=(ok.pk 8 [3,2,0,1,4,5,6,7] rfl (by decide))
  refine qag E qlz rfl (qcN N 10 (show InR .u8 (10) by decide) (Builder.mk () o119.buf) h161 h164 e167 hG ok) rfl rfl ?_
  rintro _ w ⟨c168,c170,M171,⟨rfl,ok⟩,h169,h172⟩
  refine ⟨_,rfl,fun a E=>?_⟩
  refine wpList_nil<|qaf<|qaa<|qac<|lw E (qaA rfl rfl (InR.inc r41 (qal h4) c47)) fun a E=>mv E rfl fun a E=>wpList_nil ?_
  cases hF
  exact qar ⟨c168,c170,M171,(ok.pk 8 [1,0,4,5,6,7] rfl (by decide)),E.keep [3,4,5,15,16,17],(InR.inc r41 (qal h4) c47),h169,h172⟩
 rintro ⟨v126,v127⟩ a w r ⟨c129,c131,M132,ok,E,r128,h130,h133⟩ hF
 replace hF:qgP N x48 v126 v127 = some r:=hF
 unfold qgP at hF
 refine sg<|lw E (qaO rfl rfl) fun a E=>wn<|wp_seq<|cg E rfl hF (fun c134 hF=>?_) fun c134 hF=>?_
 ·refine wp_exit<|qaU ?_
  cases hF
  exact so (⟨rfl,⟨c129,c131,M132,ok,E.keep [3,4,5,7,15,16,17],h130,h133⟩⟩)
 refine wp_skip<|qaa<|wp_seq<|wp_block<|sg ?_
 obtain ⟨x135,e136,hF⟩:=bnd hF
 obtain ⟨b137,o138,hp139,yy140⟩:=qgp qhq h111 e136 (P:=Tryz.prog) (X:=.tmp 44) (I:=.tmp 46) (kd:=.i64) (qcy E rfl) (qcy E rfl)
 refine lv E ok (yy140 _ _) fun a E=>?_
 obtain ⟨es141,hl142,rr143,hh144⟩:=qia h111 e136 hp139 (by decide)
 obtain ⟨rfl,r145⟩:=rr143
 refine lv E ok (qat qap rfl (hh144 _ _ _ 0 rfl)) fun a E=>aw E rfl fun a E=>sg<|mv E rfl fun a E=>lw E (qbN rfl rfl) fun a E=>wn<|cg E rfl hF (fun c146 hF=>?_) fun c146 hF=>?_
 ·refine wp_skip<|qaf<|qaa<|qac<|lw E (qaA rfl rfl (InR.inc r128 (ORow.InR h111) c134)) fun a E=>mv E rfl fun a E=>wpList_nil ?_
  cases hF
  exact qar ⟨c129,c131,M132,ok,E.keep [3,4,5,7,15,16,17,44,45,46],(InR.inc r128 (ORow.InR h111) c134),h130,h133⟩
 refine qac<|mv E rfl fun a E=>bd hF fun r147 e148 hF=>qag E qlx rfl (qe8 N x135 r145 e148 hG hTb ok) rfl rfl ?_
 rintro _ w ⟨⟨rfl,ok⟩,l149⟩
 refine ⟨_,rfl,fun a E=>?_⟩
 refine bd hF fun s150 e151 hF=>lw E (qa5 rfl rfl e151) fun a E=>?_
 obtain ⟨r152,e153,hF⟩:=bnd hF
 replace ok:Ok u m14 ([(b22,oc 68 [c129,c131])] :: M132 :: M110 :: [(b61,oc 47 [vi x48.Op,vi x48.A,vi x48.B,vs x48.S])] :: [(b15,oc 110 [(Value.int .u32 r12.once.done.v),(Value.int .i32 r12.once.m.mu.state),(Value.int .u32 r12.once.m.mu.sema),Value.nilIface,c19])] :: M20 :: [(b6,oc 62 [(vs ([63])),(vs ([101,109,105,116])),(vs ([111,112,101,110])),(vs ([99,108,111,115,101])),(vs ([118,111,105,100])),(vs ([97,114,103])),(vs ([110,117,109,98,101,114])),(vs ([117,110,105,116])),(vs ([100,97,116,101])),(vs ([108,105,115,116])),(vs ([115,119,105,116,99,104])),(vs ([99,97,115,101])),(vs ([106,117,109,112])),(vs ([115,116,111,112]))])] :: [(b5,oc 28 [c1,c3])] :: S) w:=(ok.pk 8 [3,2,0,1,4,5,6,7] rfl (by decide))
 refine qag E qlH rfl (qcC N s150 (qb6 e151) (Builder.mk () v127.buf) h130 h133 e153 hG ok) rfl rfl ?_
 rintro _ w ⟨c155,c157,M158,⟨rfl,ok⟩,r154,h156,h159⟩
 refine ⟨_,rfl,fun a E=>?_⟩
 refine wpList_nil<|qaf<|qaa<|qac<|lw E (qaA rfl rfl (InR.inc r128 (ORow.InR h111) c134)) fun a E=>mv E rfl fun a E=>wpList_nil ?_
 cases hF
 exact qar ⟨c155,c157,M158,(ok.pk 8 [2,3,1,0,4,5,6,7] rfl (by decide)),E.keep [3,4,5,7,15,16,17,44,45,46],(InR.inc r128 (ORow.InR h111) c134),h156,h159⟩
end Go.Proofs.YtllnjbnknjpbjaaGreatDoor
namespace Go.Proofs.YtllnjbnknjpbjaaGreatDoor
open Go.X
variable {u:World} {m0:Mem} {S:Segs} {w:World}
set_option maxHeartbeats 4000000
set_option maxRecDepth 100000
def qnk:Rp Number2:=fun _ cs x=>cs = [.bool x.Neg,.string (bs x.Whole),.string (bs x.Frac)] ∧ x.Whole.length ≤ LIMS ∧ x.Frac.length ≤ LIMS
theorem qbE:aggB Tryz.prog 173 3 = true:=by kernel_rfl
theorem qik:qbb Tryz.prog 173 0 0 = true:=by kernel_rfl
theorem qdu:qbb Tryz.prog 173 1 1 = true:=by kernel_rfl
theorem qdY:qbb Tryz.prog 173 2 2 = true:=by kernel_rfl
theorem qre:goB Tryz.prog 104 = true:=by kernel_rfl
theorem qq3:goB Tryz.prog 105 = true:=by kernel_rfl
theorem qo4:goB Tryz.prog 128 = true:=by kernel_rfl
theorem qlv:goB Tryz.prog 129 = true:=by kernel_rfl
theorem qjH:goB Tryz.prog 21 = true:=by kernel_rfl
theorem qoE:goB Tryz.prog 25 = true:=by kernel_rfl
theorem qoA:goB Tryz.prog 27 = true:=by kernel_rfl
theorem qn8:goB Tryz.prog 28 = true:=by kernel_rfl
theorem qoB:goB Tryz.prog 29 = true:=by kernel_rfl
theorem qju:goB Tryz.prog 43 = true:=by kernel_rfl
theorem qgR:goB Tryz.prog 44 = true:=by kernel_rfl
theorem qjy:goB Tryz.prog 45 = true:=by kernel_rfl
theorem qhp:goB Tryz.prog 46 = true:=by kernel_rfl
theorem qjv:goB Tryz.prog 47 = true:=by kernel_rfl
theorem qdQ:goB Tryz.prog 59 = true:=by kernel_rfl
theorem qh5:goB Tryz.prog 60 = true:=by kernel_rfl
theorem qoi:goB Tryz.prog 61 = true:=by kernel_rfl
theorem qrQ:goB Tryz.prog 62 = true:=by kernel_rfl
theorem qmP:goB Tryz.prog 75 = true:=by kernel_rfl
theorem qqn:goB Tryz.prog 76 = true:=by kernel_rfl
theorem qrZ:goB Tryz.prog 77 = true:=by kernel_rfl
theorem qrW:goB Tryz.prog 78 = true:=by kernel_rfl
theorem qlG:goB Tryz.prog 79 = true:=by kernel_rfl
theorem qh7:goB Tryz.prog 80 = true:=by kernel_rfl
theorem qcc:∃ i,Tryz.prog.info? 173 = some i ∧ i.size = 3:=⟨_,rfl,by kernel_rfl⟩
theorem qsc:∃ i,Tryz.prog.info? 4 = some i ∧ i.size = 1:=⟨_,rfl,by kernel_rfl⟩
theorem qmQ:oneB Tryz.prog 4 = true:=by kernel_rfl
theorem qcf:qey Tryz.prog 173 = some [(0,1),(1,1),(2,1)]:=by kernel_rfl
theorem qcw:qcY Tryz.prog 173 = some [vb false,(vs ([])),(vs ([]))]:=by kernel_rfl
def qkj (u:World) (m0:Mem) (S:Segs) (r:Int) (a:Act) (w:World):Prop :=
 Ok u m0 S w ∧ a.defers = [] ∧ RVs Tryz.prog a w [.t 2 (.int .i64 r)] ∧ InR .i64 r
def qe2 (N:Nat):Prop:=∀ {u:World} {m0:Mem} {S:Segs} {w:World} (vparts_0:Value) (parts_0:List (Part)) (hparts_0:(pL 6 qa0) m0 [vparts_0] parts_0) {r:Int} (hF:qck N parts_0 = some r) (hG:Glob u) (ok:Ok u m0 S w),Calls Tryz.prog 27 [vparts_0].toArray w fun e w'=>(e = .returned (.int .i64 r) ∧ Ok u m0 S w') ∧ InR .i64 r
theorem qiY (N:Nat) (ih_calqueref26_Depth:qe2 N):qe2 (N + 1):=by
 intro u m0 S w vparts_0 parts_0 hparts_0 r hF hG ok
 have hF0:qdE (qck N) N parts_0 = some r:=hF
 have hF:=hF0
 clear hF0
 unfold qdE at hF
 refine en (qkj u m0 S) r Tryz.func27 rfl rfl rfl (fun _ _ h=>rb h rfl) fun fin a E=>sg<|aw E rfl fun a E=>sg<|aw E rfl fun a E=>wp_seq<|sg<|av E rfl fun a E=>wn<|wp_block<|bd hF fun o3 hL hF=>qa9 _ (fun (s:Int × Int) a w=>Ok u m0 (S) w ∧ Env 45 a [(0,vparts_0),(3,vi s.1),(4,vi s.2)] ∧ InR .i64 s.1 ∧ InR .i64 s.2) (fun (b:Int) e a w=>e = (.exit 0) ∧ Ok u m0 (S) w ∧ Env 45 a [(3,vi b)] ∧ InR .i64 b) ?_ ?_ N _ a w hL ⟨ok,E.keep [0,3,4],(ir 0),(ir 0)⟩
 rotate_left
 ·intro e a w _ hO
  obtain ⟨rfl,ok,E,r92⟩:=hO
  refine qbm<|qaa<|sg<|mv E rfl fun a E=>aw E rfl fun a E=>wp_ret ?_
  exact fin hF ⟨ok,E.d,rz E rfl,r92⟩
 rintro ⟨v6,v7⟩ a w r ⟨ok,E,r8,r9⟩ hF
 replace hF:qdj (qck N) N parts_0 v6 v7 = some r:=hF
 unfold qdj at hF
 refine wp_seq<|sg<|mz E rfl rfl fun a E=>lv E ok (qaQ qbc hparts_0 rfl) fun a E=>lw E (qaO rfl rfl) fun a E=>wn<|cg E rfl hF (fun c10 hF=>?_) fun c10 hF=>?_
 ·refine wp_exit<|qaU ?_
  cases hF
  exact so (⟨rfl,⟨ok,E.keep [3],r8⟩⟩)
 refine wp_skip<|qaa<|wp_seq<|wp_block<|sg<|mz E rfl rfl fun a E=>mv E rfl fun a E=>?_
 obtain ⟨x11,e12,hF⟩:=bnd hF
 obtain ⟨b13,o14,es15,hl16,rr17,at18,yy19⟩:=ia E 13 14 qbc hparts_0 e12
 obtain ⟨c24,c26,rfl,r20,l21,l22,l23,h25,h27⟩:=(qaK.1 rr17)
 refine lv E ok (yy19 _ _) fun a E=>fv E qbR rfl fun a E=>lv E ok (qat qbu rfl (qad.ro (At.sub 5 1 at18))) fun a E=>bd hF fun r28 e29 hF=>qag E qoA rfl (ih_calqueref26_Depth _ x11.Parts h27 e29 hG ok) rfl rfl ?_
 rintro _ w ⟨⟨rfl,ok⟩,r30⟩
 refine ⟨_,rfl,fun a E=>?_⟩
 refine lw E (qaM rfl rfl) fun a E=>lv E ok (qrj rfl rfl rfl) fun a E=>aw E rfl fun a E=>sg<|av E rfl fun a E=>wn<|wp_block<|bd hF fun o33 hL hF=>qa9 _ (fun (s:Int × Int) a w=>Ok u m0 (S) w ∧ Env 45 a [(0,vparts_0),(3,vi s.1),(4,vi v7),(5,vi s.2)] ∧ InR .i64 s.1 ∧ InR .i64 s.2) (fun (b:Int) e a w=>e = (.exit 2) ∧ Ok u m0 (S) w ∧ Env 45 a [(0,vparts_0),(3,vi b),(4,vi v7)] ∧ InR .i64 b) ?_ ?_ N _ a w hL ⟨ok,E.keep [0,3,4,5],(InR.max (InR.max r8 (ir 1)) (InR.wrap _ _)),(ir 0)⟩
 rotate_left
 ·intro e a w _ hO
  obtain ⟨rfl,ok,E,r90⟩:=hO
  refine qbm<|qaf<|qaa<|qac<|mv E rfl fun a E=>lw E (qaA rfl rfl (InR.inc r9 (qal hparts_0) c10)) fun a E=>av E rfl fun a E=>wpList_nil ?_
  cases hF
  exact qar ⟨ok,E.keep [0,3,4],r90,(InR.inc r9 (qal hparts_0) c10)⟩
 rintro ⟨v36,v37⟩ a w r ⟨ok,E,r38,r39⟩ hF
 replace hF:qdi (qck N) N parts_0 v7 v36 v37 = some r:=hF
 unfold qdi at hF
 refine wp_seq<|sg<|mz E rfl rfl fun a E=>mv E rfl fun a E=>?_
 obtain ⟨x40,e41,hF⟩:=bnd hF
 obtain ⟨b42,o43,es44,hl45,rr46,at47,yy48⟩:=ia E 22 23 qbc hparts_0 e41
 obtain ⟨c53,c55,rfl,r49,l50,l51,l52,h54,h56⟩:=(qaK.1 rr46)
 refine lv E ok (yy48 _ _) fun a E=>fv E qa2 rfl fun a E=>lv E ok (qat qbo rfl (qad.ro (At.sub 4 1 at47))) fun a E=>lv E ok (qaQ qbr h54 rfl) fun a E=>lw E (qaO rfl rfl) fun a E=>wn<|cg E rfl hF (fun c57 hF=>?_) fun c57 hF=>?_
 ·refine wp_exit<|qaU ?_
  cases hF
  exact so (⟨rfl,⟨ok,E.keep [0,3,4],r38⟩⟩)
 refine wp_skip<|qaa<|wp_seq<|wp_block<|qac<|mz E rfl rfl fun a E=>mv E rfl fun a E=>?_
 obtain ⟨x58,e59,hF⟩:=bnd hF
 obtain ⟨b60,o61,es62,hl63,rr64,at65,yy66⟩:=ia E 32 33 qbc hparts_0 e59
 obtain ⟨c71,c73,rfl,r67,l68,l69,l70,h72,h74⟩:=(qaK.1 rr64)
 refine lv E ok (yy66 _ _) fun a E=>fv E qa2 rfl fun a E=>lv E ok (qat qbo rfl (qad.ro (At.sub 4 1 at65))) fun a E=>mv E rfl fun a E=>?_
 obtain ⟨x75,e76,hF⟩:=bnd hF
 obtain ⟨b77,o78,es79,hl80,rr81,at82,yy83⟩:=ia E 36 37 qbr h72 e76
 obtain ⟨c85,rfl,l84,h86⟩:=rr81
 refine lv E ok (yy83 _ _) fun a E=>fv E qeh rfl fun a E=>lv E ok (qat qbu rfl (qad.ro (At.sub 1 1 at82))) fun a E=>bd hF fun r87 e88 hF=>qag E qoA rfl (ih_calqueref26_Depth _ x75.Parts h86 e88 hG ok) rfl rfl ?_
 rintro _ w ⟨⟨rfl,ok⟩,r89⟩
 refine ⟨_,rfl,fun a E=>?_⟩
 refine lw E (qaM rfl rfl) fun a E=>lw E (qsd rfl rfl) fun a E=>av E rfl fun a E=>wpList_nil<|qaf<|qaa<|qac<|mv E rfl fun a E=>lw E (qaA rfl rfl (InR.inc r39 (qal h54) c57)) fun a E=>av E rfl fun a E=>wpList_nil ?_
 cases hF
 exact qar ⟨ok,E.keep [0,3,4,5],(InR.max r38 (InR.wrap _ _)),(InR.inc r39 (qal h54) c57)⟩
theorem qiS:qe2 0:=by
 intro u m0 S w vparts_0 parts_0 hparts_0 r hF hG ok
 replace hF:none = some r:=hF
 cases hF
theorem qh2 (N:Nat):qe2 N:=by
 induction N with
 | zero=>exact qiS
 | succ N h=>exact qiY N h
theorem qkc {u:World} {m0:Mem} {S:Segs} {w:World} (N:Nat) (vparts_0:Value) (parts_0:List (Part)) (hparts_0:(pL 6 qa0) m0 [vparts_0] parts_0) {r:Int} (hF:qck N parts_0 = some r) (hG:Glob u) (ok:Ok u m0 S w) :
 Calls Tryz.prog 27 [vparts_0].toArray w fun e w'=>(e = .returned (.int .i64 r) ∧ Ok u m0 S w') ∧ InR .i64 r:=(qh2 N) vparts_0 parts_0 hparts_0 hF hG ok
def qkv (u:World) (m0:Mem) (S:Segs) (r:Int) (a:Act) (w:World):Prop :=
 Ok u m0 S w ∧ a.defers = [] ∧ RVs Tryz.prog a w [.t 2 (.int .i64 r)] ∧ InR .i64 r
def qfb (N:Nat):Prop:=∀ {u:World} {m0:Mem} {S:Segs} {w:World} (vparts_0:Value) (parts_0:List (Part)) (hparts_0:(pL 6 qa0) m0 [vparts_0] parts_0) {r:Int} (hF:qcx N parts_0 = some r) (hG:Glob u) (ok:Ok u m0 S w),Calls Tryz.prog 28 [vparts_0].toArray w fun e w'=>(e = .returned (.int .i64 r) ∧ Ok u m0 S w') ∧ InR .i64 r
theorem qja (N:Nat) (ih_calqueref26_Size:qfb N):qfb (N + 1):=by
 intro u m0 S w vparts_0 parts_0 hparts_0 r hF hG ok
 have hF0:qdJ (qcx N) N parts_0 = some r:=hF
 have hF:=hF0
 clear hF0
 unfold qdJ at hF
 refine en (qkv u m0 S) r Tryz.func28 rfl rfl rfl (fun _ _ h=>rb h rfl) fun fin a E=>sg<|aw E rfl fun a E=>sg<|aw E rfl fun a E=>wp_seq<|sg<|av E rfl fun a E=>wn<|wp_block<|bd hF fun o3 hL hF=>qa9 _ (fun (s:Int × Int) a w=>Ok u m0 (S) w ∧ Env 53 a [(0,vparts_0),(3,vi s.1),(4,vi s.2)] ∧ InR .i64 s.1 ∧ InR .i64 s.2) (fun (b:Int) e a w=>e = (.exit 0) ∧ Ok u m0 (S) w ∧ Env 53 a [(3,vi b)] ∧ InR .i64 b) ?_ ?_ N _ a w hL ⟨ok,E.keep [0,3,4],(ir 0),(ir 0)⟩
 rotate_left
 ·intro e a w _ hO
  obtain ⟨rfl,ok,E,r109⟩:=hO
  refine qbm<|qaa<|sg<|mv E rfl fun a E=>aw E rfl fun a E=>wp_ret ?_
  exact fin hF ⟨ok,E.d,rz E rfl,r109⟩
 rintro ⟨v6,v7⟩ a w r ⟨ok,E,r8,r9⟩ hF
 replace hF:qdx (qcx N) N parts_0 v6 v7 = some r:=hF
 unfold qdx at hF
 refine wp_seq<|sg<|mz E rfl rfl fun a E=>lv E ok (qaQ qbc hparts_0 rfl) fun a E=>lw E (qaO rfl rfl) fun a E=>wn<|cg E rfl hF (fun c10 hF=>?_) fun c10 hF=>?_
 ·refine wp_exit<|qaU ?_
  cases hF
  exact so (⟨rfl,⟨ok,E.keep [3],r8⟩⟩)
 refine wp_skip<|qaa<|wp_seq<|wp_block<|wp_seq<|qdH (by kernel_rfl) (by kernel_rfl) ok<|qv E (qan rfl) fun a E=>qv E (qan rfl) fun a E=>qv E (qan rfl) fun a E=>?_
 obtain ⟨x11,e12,hF⟩:=bnd hF
 obtain ⟨b13,o14,es15,hl16,rr17,at18,yy19⟩:=ia E 13 14 qbc hparts_0 e12
 obtain ⟨c24,c26,rfl,r20,l21,l22,l23,h25,h27⟩:=(qaK.1 rr17)
 refine qv E (yy19 _ _) fun a E=>qv E (qaj qbR rfl) fun a E=>qv E (qat qbu rfl (qad.ro (At.sub 5 1 at18))) fun a E=>?_
 obtain ⟨r28,e29,hF⟩:=bnd hF
 obtain ⟨_,_,⟨_,_⟩,r30⟩:=Go.X.Calls.get (ih_calqueref26_Size _ x11.Parts h27 e29 hG ok)
 refine qcn E qn8 rfl (fun w ok=>(ih_calqueref26_Size _ x11.Parts h27 e29 hG ok).mono (fun _ _ h=>h.1)) rfl rfl fun a E=>qv E (qaM rfl rfl) fun a E=>qv E (qan rfl) fun a E=>qv E (qan rfl) fun a E=>?_
 obtain ⟨x31,e32,hF⟩:=bnd hF
 obtain ⟨b33,o34,es35,hl36,rr37,at38,yy39⟩:=ia E 20 21 qbc hparts_0 e32
 obtain ⟨c44,c46,rfl,r40,l41,l42,l43,h45,h47⟩:=(qaK.1 rr37)
 refine qv E (yy39 _ _) fun a E=>qv E (qaj qcz rfl) fun a E=>qv E (qat qak rfl (qad.ro (At.sub 1 1 at38))) fun a E=>qv E (qaI Tryz.underlying9 rfl) fun a E=>qv E (qjE rfl rfl (by decide)) fun a E=>qv E (qaM rfl rfl) fun a E=>qv E (qaM rfl rfl) fun a E=>qv E (qbx rfl) fun a E=>wpQuiet_nil ?_
 intro w ok
 refine qaa<|sg<|aw E rfl fun a E=>wp_block<|bd hF fun o50 hL hF=>qa9 _ (fun (s:Int × Int) a w=>Ok u m0 (S) w ∧ Env 53 a [(0,vparts_0),(3,vi s.1),(4,vi v7),(5,vi s.2)] ∧ InR .i64 s.1 ∧ InR .i64 s.2) (fun (b:Int) e a w=>e = (.exit 2) ∧ Ok u m0 (S) w ∧ Env 53 a [(0,vparts_0),(3,vi b),(4,vi v7)] ∧ InR .i64 b) ?_ ?_ N _ a w hL ⟨ok,E.keep [0,3,4,5],(InR.wrap _ _),(ir 0)⟩
 rotate_left
 ·intro e a w _ hO
  obtain ⟨rfl,ok,E,r107⟩:=hO
  refine qbm<|qaf<|qaa<|qac<|mv E rfl fun a E=>lw E (qaA rfl rfl (InR.inc r9 (qal hparts_0) c10)) fun a E=>av E rfl fun a E=>wpList_nil ?_
  cases hF
  exact qar ⟨ok,E.keep [0,3,4],r107,(InR.inc r9 (qal hparts_0) c10)⟩
 rintro ⟨v53,v54⟩ a w r ⟨ok,E,r55,r56⟩ hF
 replace hF:qdw (qcx N) N parts_0 v7 v53 v54 = some r:=hF
 unfold qdw at hF
 refine wp_seq<|sg<|mz E rfl rfl fun a E=>mv E rfl fun a E=>?_
 obtain ⟨x57,e58,hF⟩:=bnd hF
 obtain ⟨b59,o60,es61,hl62,rr63,at64,yy65⟩:=ia E 30 31 qbc hparts_0 e58
 obtain ⟨c70,c72,rfl,r66,l67,l68,l69,h71,h73⟩:=(qaK.1 rr63)
 refine lv E ok (yy65 _ _) fun a E=>fv E qa2 rfl fun a E=>lv E ok (qat qbo rfl (qad.ro (At.sub 4 1 at64))) fun a E=>lv E ok (qaQ qbr h71 rfl) fun a E=>lw E (qaO rfl rfl) fun a E=>wn<|cg E rfl hF (fun c74 hF=>?_) fun c74 hF=>?_
 ·refine wp_exit<|qaU ?_
  cases hF
  exact so (⟨rfl,⟨ok,E.keep [0,3,4],r55⟩⟩)
 refine wp_skip<|qaa<|wp_seq<|wp_block<|qac<|mz E rfl rfl fun a E=>mv E rfl fun a E=>?_
 obtain ⟨x75,e76,hF⟩:=bnd hF
 obtain ⟨b77,o78,es79,hl80,rr81,at82,yy83⟩:=ia E 40 41 qbc hparts_0 e76
 obtain ⟨c88,c90,rfl,r84,l85,l86,l87,h89,h91⟩:=(qaK.1 rr81)
 refine lv E ok (yy83 _ _) fun a E=>fv E qa2 rfl fun a E=>lv E ok (qat qbo rfl (qad.ro (At.sub 4 1 at82))) fun a E=>mv E rfl fun a E=>?_
 obtain ⟨x92,e93,hF⟩:=bnd hF
 obtain ⟨b94,o95,es96,hl97,rr98,at99,yy100⟩:=ia E 44 45 qbr h89 e93
 obtain ⟨c102,rfl,l101,h103⟩:=rr98
 refine lv E ok (yy100 _ _) fun a E=>fv E qeh rfl fun a E=>lv E ok (qat qbu rfl (qad.ro (At.sub 1 1 at99))) fun a E=>bd hF fun r104 e105 hF=>qag E qn8 rfl (ih_calqueref26_Size _ x92.Parts h103 e105 hG ok) rfl rfl ?_
 rintro _ w ⟨⟨rfl,ok⟩,r106⟩
 refine ⟨_,rfl,fun a E=>?_⟩
 refine lw E (qaM rfl rfl) fun a E=>lw E (qaM rfl rfl) fun a E=>av E rfl fun a E=>wpList_nil<|qaf<|qaa<|qac<|mv E rfl fun a E=>lw E (qaA rfl rfl (InR.inc r56 (qal h71) c74)) fun a E=>av E rfl fun a E=>wpList_nil ?_
 cases hF
 exact qar ⟨ok,E.keep [0,3,4,5],(InR.wrap _ _),(InR.inc r56 (qal h71) c74)⟩
theorem qjh:qfb 0:=by
 intro u m0 S w vparts_0 parts_0 hparts_0 r hF hG ok
 replace hF:none = some r:=hF
 cases hF
theorem qin (N:Nat):qfb N:=by
 induction N with
 | zero=>exact qjh
 | succ N h=>exact qja N h
theorem qkH {u:World} {m0:Mem} {S:Segs} {w:World} (N:Nat) (vparts_0:Value) (parts_0:List (Part)) (hparts_0:(pL 6 qa0) m0 [vparts_0] parts_0) {r:Int} (hF:qcx N parts_0 = some r) (hG:Glob u) (ok:Ok u m0 S w) :
 Calls Tryz.prog 28 [vparts_0].toArray w fun e w'=>(e = .returned (.int .i64 r) ∧ Ok u m0 S w') ∧ InR .i64 r:=(qin N) vparts_0 parts_0 hparts_0 hF hG ok
def qfR (u:World) (m0:Mem) (S:Segs) (r:Bool) (a:Act) (w:World):Prop :=
 Ok u m0 S w ∧ a.defers = [] ∧ RVs Tryz.prog a w [.t 2 (.bool r)]
def qeZ (N:Nat):Prop:=∀ {u:World} {m0:Mem} {S:Segs} {w:World} (vparts_0:Value) (parts_0:List (Part)) (hparts_0:(pL 6 qa0) m0 [vparts_0] parts_0) {r:Bool} (hF:qcl N parts_0 = some r) (hG:Glob u) (ok:Ok u m0 S w),Calls Tryz.prog 29 [vparts_0].toArray w fun e w'=>(e = .returned (.bool r) ∧ Ok u m0 S w')
theorem qiR (N:Nat) (ih_calqueref26_short:qeZ N):qeZ (N + 1):=by
 intro u m0 S w vparts_0 parts_0 hparts_0 r hF hG ok
 have hF0:qdB (qcl N) N parts_0 = some r:=hF
 have hF:=hF0
 clear hF0
 unfold qdB at hF
 refine en (qfR u m0 S) r Tryz.func29 rfl rfl rfl (fun _ _ h=>ra h rfl) fun fin a E=>sg<|aw E rfl fun a E=>wp_seq<|sg<|aw E rfl fun a E=>wp_block<|bd hF fun o2 hL hF=>qa9 _ (fun (s:Int) a w=>Ok u m0 (S) w ∧ Env 70 a [(0,vparts_0),(3,vi s)] ∧ InR .i64 s) (fun (b:(Unit ⊕ Bool)) e a w=>(Sum.elim (fun b150=>e = (.exit 0) ∧ Ok u m0 (S) w ∧ Env 70 a []) (fun b151=>e = .ret ∧ qfR u m0 S b151 a w)) b) ?_ ?_ N _ a w hL ⟨ok,E.keep [0,3],(ir 0)⟩
 rotate_left
 ·intro e a w _ hO
  rcases o2 with o2 | o2
  rotate_left
  ·obtain ⟨rfl,hret⟩:=hO
   refine qaq<|qah ?_
   exact fin hF hret
  have hF:=qbV hF
  obtain ⟨rfl,ok,E⟩:=hO
  refine qbm<|qaa<|sg<|aw E rfl fun a E=>wp_ret ?_
  exact fin hF ⟨ok,E.d,rz E rfl⟩
 rintro v4 a w r ⟨ok,E,r5⟩ hF
 replace hF:qdo (qcl N) N parts_0 v4 = some r:=hF
 unfold qdo at hF
 refine wp_seq<|sg<|mz E rfl rfl fun a E=>lv E ok (qaQ qbc hparts_0 rfl) fun a E=>lw E (qaO rfl rfl) fun a E=>wn<|cg E rfl hF (fun c6 hF=>?_) fun c6 hF=>?_
 ·refine wp_exit<|qaU ?_
  cases hF
  exact so (sl ⟨rfl,⟨ok,E.keep []⟩⟩)
 refine wp_skip<|qaa<|wp_seq<|wp_block<|wp_seq<|sg<|mv E rfl fun a E=>mv E rfl fun a E=>?_
 obtain ⟨x7,e8,hF⟩:=bnd hF
 obtain ⟨b9,o10,es11,hl12,rr13,at14,yy15⟩:=ia E 11 12 qbc hparts_0 e8
 obtain ⟨c20,c22,rfl,r16,l17,l18,l19,h21,h23⟩:=(qaK.1 rr13)
 refine lv E ok (yy15 _ _) fun a E=>fv E qaN rfl fun a E=>lv E ok (qat qak rfl (qad.ro (At.sub 2 1 at14))) fun a E=>lw E (qaI Tryz.underlying9 rfl) fun a E=>lw E (qbk rfl rfl) fun a E=>mv E rfl fun a E=>bu E 18 hF (fun c24 hF E=>?_) fun c24 hF E=>?_
 ·refine lsz E fun a E=>lsq E fun a E=>ls E fun a E=>pt E rfl rfl fun a E=>mv E rfl fun a E=>lsz E fun a E=>lsq E fun a E=>ls E fun a E=>?_
  refine pt E rfl rfl fun a E=>wn<|c_if E rfl (fun _=>?_) (fun h=>by cases h)
  refine sg<|aw E rfl fun a E=>wp_ret<|qah<|qaq<|qah ?_
  cases hF
  exact so (sr ⟨rfl,⟨ok,E.d,rz E rfl⟩⟩)
 refine mz E rfl rfl fun a E=>?_
 obtain ⟨x25,e26,hF⟩:=bnd hF
 obtain ⟨b27,o28,es29,hl30,rr31,at32,yy33⟩:=ia E 19 20 qbc hparts_0 e26
 obtain ⟨c38,c40,rfl,r34,l35,l36,l37,h39,h41⟩:=(qaK.1 rr31)
 refine lv E ok (yy33 _ _) fun a E=>fv E qaW rfl fun a E=>lv E ok (qat qak rfl (qad.ro (At.sub 3 1 at32))) fun a E=>lw E (qaI Tryz.underlying9 rfl) fun a E=>lw E (qbk rfl rfl) fun a E=>pf E rfl rfl fun a E=>mv E rfl fun a E=>bu E 27 hF (fun c42 hF E=>?_) fun c42 hF E=>?_
 ·refine lsz E fun a E=>lsq E fun a E=>ls E fun a E=>pt E rfl rfl fun a E=>wn<|c_if E rfl (fun _=>?_) (fun h=>by cases h)
  refine sg<|aw E rfl fun a E=>wp_ret<|qah<|qaq<|qah ?_
  cases hF
  exact so (sr ⟨rfl,⟨ok,E.d,rz E rfl⟩⟩)
 refine mz E rfl rfl fun a E=>?_
 obtain ⟨x43,e44,hF⟩:=bnd hF
 obtain ⟨b45,o46,es47,hl48,rr49,at50,yy51⟩:=ia E 28 29 qbc hparts_0 e44
 obtain ⟨c56,c58,rfl,r52,l53,l54,l55,h57,h59⟩:=(qaK.1 rr49)
 refine lv E ok (yy51 _ _) fun a E=>fv E qbR rfl fun a E=>lv E ok (qat qbu rfl (qad.ro (At.sub 5 1 at50))) fun a E=>bd hF fun r60 e61 hF=>lc E qoB rfl (ih_calqueref26_short _ x43.Parts h59 e61 hG ok) fun w ok a E=>lw E (qaT rfl) fun a E=>pf E rfl rfl fun a E=>wn<|cf E rfl hF (fun c62 hF=>?_) fun c62 hF=>?_
 ·refine sg<|aw E rfl fun a E=>wp_ret<|qah<|qaq<|qah ?_
  cases hF
  exact so (sr ⟨rfl,⟨ok,E.d,rz E rfl⟩⟩)
 refine wp_skip<|qaa<|sg<|aw E rfl fun a E=>wp_block<|bd hF fun o64 hL hF=>qa9 _ (fun (s:Int) a w=>Ok u m0 (S) w ∧ Env 70 a [(0,vparts_0),(3,vi v4),(4,vi s)] ∧ InR .i64 s) (fun (b:(Unit ⊕ Bool)) e a w=>(Sum.elim (fun b148=>e = (.exit 2) ∧ Ok u m0 (S) w ∧ Env 70 a [(0,vparts_0),(3,vi v4)]) (fun b149=>e = .ret ∧ qfR u m0 S b149 a w)) b) ?_ ?_ N _ a w hL ⟨ok,E.keep [0,3,4],(ir 0)⟩
 rotate_left
 ·intro e a w _ hO
  rcases o64 with o64 | o64
  rotate_left
  ·have hF:=qjq hF
   obtain ⟨rfl,hret⟩:=hO
   refine qaq<|qaq<|qah ?_
   cases hF
   exact so (sr ⟨rfl,hret⟩)
  have hF:=qbV hF
  obtain ⟨rfl,ok,E⟩:=hO
  refine qbm<|qaf<|qaa<|qac<|mv E rfl fun a E=>lw E (qaA rfl rfl (InR.inc r5 (qal hparts_0) c6)) fun a E=>av E rfl fun a E=>wpList_nil ?_
  cases hF
  exact qar ⟨ok,E.keep [0,3],(InR.inc r5 (qal hparts_0) c6)⟩
 rintro v66 a w r ⟨ok,E,r67⟩ hF
 replace hF:qdn (qcl N) N parts_0 v4 v66 = some r:=hF
 unfold qdn at hF
 refine wp_seq<|sg<|mz E rfl rfl fun a E=>mv E rfl fun a E=>?_
 obtain ⟨x68,e69,hF⟩:=bnd hF
 obtain ⟨b70,o71,es72,hl73,rr74,at75,yy76⟩:=ia E 37 38 qbc hparts_0 e69
 obtain ⟨c81,c83,rfl,r77,l78,l79,l80,h82,h84⟩:=(qaK.1 rr74)
 refine lv E ok (yy76 _ _) fun a E=>fv E qa2 rfl fun a E=>lv E ok (qat qbo rfl (qad.ro (At.sub 4 1 at75))) fun a E=>lv E ok (qaQ qbr h82 rfl) fun a E=>lw E (qaO rfl rfl) fun a E=>wn<|cg E rfl hF (fun c85 hF=>?_) fun c85 hF=>?_
 ·refine wp_exit<|qaU ?_
  cases hF
  exact so (sl ⟨rfl,⟨ok,E.keep [0,3]⟩⟩)
 refine wp_skip<|qaa<|wp_seq<|wp_block<|sg<|mz E rfl rfl fun a E=>?_
 obtain ⟨x86,e87,hF⟩:=bnd hF
 obtain ⟨b88,o89,es90,hl91,rr92,at93,yy94⟩:=ia E 46 47 qbc hparts_0 e87
 obtain ⟨c99,c101,rfl,r95,l96,l97,l98,h100,h102⟩:=(qaK.1 rr92)
 refine lv E ok (yy94 _ _) fun a E=>fv E qa2 rfl fun a E=>lv E ok (qat qbo rfl (qad.ro (At.sub 4 1 at93))) fun a E=>mv E rfl fun a E=>?_
 obtain ⟨x103,e104,hF⟩:=bnd hF
 obtain ⟨b105,o106,es107,hl108,rr109,at110,yy111⟩:=ia E 50 51 qbr h100 e104
 obtain ⟨c113,rfl,l112,h114⟩:=rr109
 refine lv E ok (yy111 _ _) fun a E=>fv E qda rfl fun a E=>lv E ok (qat qak rfl (qad.ro (At.sub 0 1 at110))) fun a E=>lw E (qaI Tryz.underlying9 rfl) fun a E=>lw E (qbk rfl rfl) fun a E=>mv E rfl fun a E=>bu E 57 hF (fun c115 hF E=>?_) fun c115 hF E=>?_
 ·refine lsz E fun a E=>lsz E fun a E=>lsq E fun a E=>ls E fun a E=>pt E rfl rfl fun a E=>wn<|c_if E rfl (fun _=>?_) (fun h=>by cases h)
  refine sg<|aw E rfl fun a E=>wp_ret<|qaq<|qah ?_
  cases hF
  exact so (sr ⟨rfl,⟨ok,E.d,rz E rfl⟩⟩)
 refine mz E rfl rfl fun a E=>?_
 obtain ⟨x116,e117,hF⟩:=bnd hF
 obtain ⟨b118,o119,es120,hl121,rr122,at123,yy124⟩:=ia E 58 59 qbc hparts_0 e117
 obtain ⟨c129,c131,rfl,r125,l126,l127,l128,h130,h132⟩:=(qaK.1 rr122)
 refine lv E ok (yy124 _ _) fun a E=>fv E qa2 rfl fun a E=>lv E ok (qat qbo rfl (qad.ro (At.sub 4 1 at123))) fun a E=>mv E rfl fun a E=>?_
 obtain ⟨x133,e134,hF⟩:=bnd hF
 obtain ⟨b135,o136,es137,hl138,rr139,at140,yy141⟩:=ia E 62 63 qbr h130 e134
 obtain ⟨c143,rfl,l142,h144⟩:=rr139
 refine lv E ok (yy141 _ _) fun a E=>fv E qeh rfl fun a E=>lv E ok (qat qbu rfl (qad.ro (At.sub 1 1 at140))) fun a E=>bd hF fun r145 e146 hF=>lc E qoB rfl (ih_calqueref26_short _ x133.Parts h144 e146 hG ok) fun w ok a E=>lw E (qaT rfl) fun a E=>pf E rfl rfl fun a E=>wn<|cg E rfl hF (fun c147 hF=>?_) fun c147 hF=>?_
 ·refine wp_skip<|qaf<|qaa<|qac<|mv E rfl fun a E=>lw E (qaA rfl rfl (InR.inc r67 (qal h82) c85)) fun a E=>av E rfl fun a E=>wpList_nil ?_
  cases hF
  exact qar ⟨ok,E.keep [0,3,4],(InR.inc r67 (qal h82) c85)⟩
 refine sg<|aw E rfl fun a E=>wp_ret<|qaq<|qah ?_
 cases hF
 exact so (sr ⟨rfl,⟨ok,E.d,rz E rfl⟩⟩)
theorem qiX:qeZ 0:=by
 intro u m0 S w vparts_0 parts_0 hparts_0 r hF hG ok
 replace hF:none = some r:=hF
 cases hF
theorem qh3 (N:Nat):qeZ N:=by
 induction N with
 | zero=>exact qiX
 | succ N h=>exact qiR N h
theorem qj1 {u:World} {m0:Mem} {S:Segs} {w:World} (N:Nat) (vparts_0:Value) (parts_0:List (Part)) (hparts_0:(pL 6 qa0) m0 [vparts_0] parts_0) {r:Bool} (hF:qcl N parts_0 = some r) (hG:Glob u) (ok:Ok u m0 S w) :
 Calls Tryz.prog 29 [vparts_0].toArray w fun e w'=>(e = .returned (.bool r) ∧ Ok u m0 S w'):=(qh3 N) vparts_0 parts_0 hparts_0 hF hG ok
def qk4 (u:World) (m0:Mem) (S:Segs) (r:Bool) (a:Act) (w:World):Prop :=
 Ok u m0 S w ∧ a.defers = [] ∧ RVs Tryz.prog a w [.t 2 (.bool r)]
theorem qlb (N:Nat) (vparts_0:Value) (parts_0:List (Part)) (hparts_0:(pL 6 qa0) m0 [vparts_0] parts_0) {r:Bool} (hF:qfa N parts_0 = some r) (hG:Glob u) (ok:Ok u m0 S w) :
  Calls Tryz.prog 10 [vparts_0].toArray w fun e w'=>(e = .returned (.bool r) ∧ Ok u m0 S w'):=by
 unfold qfa at hF
 refine en (qk4 u m0 S) r Tryz.func10 rfl rfl rfl (fun _ _ h=>ra h rfl) fun fin a E=>sg<|aw E rfl fun a E=>sg<|mv E rfl fun a E=>bd hF fun r1 e2 hF=>qag E qoA rfl (qkc N _ parts_0 hparts_0 e2 hG ok) rfl rfl ?_
 rintro _ w ⟨⟨rfl,ok⟩,r3⟩
 refine ⟨_,rfl,fun a E=>?_⟩
 refine lw E (qc4 rfl rfl) fun a E=>mv E rfl fun a E=>bw E 6 hF (fun c4 hF E=>?_) fun c4 hF E=>?_
 ·refine lsq E fun a E=>ls E fun a E=>pf E rfl rfl fun a E=>mv E rfl fun a E=>lsq E fun a E=>pf E rfl rfl fun a E=>aw E rfl fun a E=>wp_ret ?_
  exact fin hF ⟨ok,E.d,rz E rfl⟩
 refine mv E rfl fun a E=>bd hF fun r5 e6 hF=>qag E qn8 rfl (qkH N _ parts_0 hparts_0 e6 hG ok) rfl rfl ?_
 rintro _ w ⟨⟨rfl,ok⟩,r7⟩
 refine ⟨_,rfl,fun a E=>?_⟩
 refine lw E (qc4 rfl rfl) fun a E=>pt E rfl rfl fun a E=>mv E rfl fun a E=>bw E 11 hF (fun c8 hF E=>?_) fun c8 hF E=>?_
 ·refine lsq E fun a E=>pf E rfl rfl fun a E=>aw E rfl fun a E=>wp_ret ?_
  exact fin hF ⟨ok,E.d,rz E rfl⟩
 refine mv E rfl fun a E=>bd hF fun r9 e10 hF=>lc E qoB rfl (qj1 N _ parts_0 hparts_0 e10 hG ok) fun w ok a E=>pt E rfl rfl fun a E=>aw E rfl fun a E=>wp_ret ?_
 exact fin hF ⟨ok,E.d,rz E rfl⟩
def qij (u:World) (m0:Mem) (S:Segs) (r:Bool) (a:Act) (w:World):Prop :=
 Ok u m0 S w ∧ a.defers = [] ∧ RVs Tryz.prog a w [.t 4 (.bool r)]
theorem qcd (N:Nat) (vl_0:Value) (l_0:List (List UInt8)) (hl_0:(pL 1 pS) m0 [vl_0] l_0) (s_1:List UInt8) (ls_1:s_1.length ≤ LIMS) {r:Bool} (hF:qbJ N l_0 s_1 = some r) (hG:Glob u) (ok:Ok u m0 S w) :
  Calls Tryz.prog 44 [vl_0,vs s_1].toArray w fun e w'=>(e = .returned (.bool r) ∧ Ok u m0 S w'):=by
 unfold qbJ at hF
 refine en (qij u m0 S) r Tryz.func44 rfl rfl rfl (fun _ _ h=>ra h rfl) fun fin a E=>sg<|aw E rfl fun a E=>wp_seq<|sg<|aw E rfl fun a E=>wp_block<|bd hF fun o2 hL hF=>qa9 _ (fun (s:Int) a w=>Ok u m0 (S) w ∧ Env 18 a [(0,vl_0),(1,vs s_1),(5,vi s)] ∧ InR .i64 s) (fun (b:(Unit ⊕ Bool)) e a w=>(Sum.elim (fun b18=>e = (.exit 0) ∧ Ok u m0 (S) w ∧ Env 18 a []) (fun b19=>e = .ret ∧ qij u m0 S b19 a w)) b) ?_ ?_ N _ a w hL ⟨ok,E.keep [0,1,5],(ir 0)⟩
 rotate_left
 ·intro e a w _ hO
  rcases o2 with o2 | o2
  rotate_left
  ·obtain ⟨rfl,hret⟩:=hO
   refine qaq<|qah ?_
   exact fin hF hret
  have hF:=qbV hF
  obtain ⟨rfl,ok,E⟩:=hO
  refine qbm<|qaa<|sg<|aw E rfl fun a E=>wp_ret ?_
  exact fin hF ⟨ok,E.d,rz E rfl⟩
 rintro v4 a w r ⟨ok,E,r5⟩ hF
 replace hF:qeJ N l_0 s_1 v4 = some r:=hF
 unfold qeJ at hF
 refine wp_seq<|sg<|mz E rfl rfl fun a E=>lv E ok (qaQ qbn hl_0 rfl) fun a E=>lw E (qaO rfl rfl) fun a E=>wn<|cg E rfl hF (fun c6 hF=>?_) fun c6 hF=>?_
 ·refine wp_exit<|qaU ?_
  cases hF
  exact so (sl ⟨rfl,⟨ok,E.keep []⟩⟩)
 refine wp_skip<|qaa<|wp_seq<|wp_block<|sg<|mz E rfl rfl fun a E=>?_
 obtain ⟨x7,e8,hF⟩:=bnd hF
 obtain ⟨b9,o10,es11,hl12,rr13,at14,yy15⟩:=ia E 12 13 qbn hl_0 e8
 obtain ⟨rfl,l16⟩:=rr13
 refine lv E ok (yy15 _ _) fun a E=>lv E ok (qat qak rfl (qad.ro at14)) fun a E=>mv E rfl fun a E=>lw E (qbt rfl rfl) fun a E=>wn<|cg E rfl hF (fun c17 hF=>?_) fun c17 hF=>?_
 ·refine wp_skip<|qaf<|qaa<|qac<|mv E rfl fun a E=>lw E (qaA rfl rfl (InR.inc r5 (qal hl_0) c6)) fun a E=>av E rfl fun a E=>wpList_nil ?_
  cases hF
  exact qar ⟨ok,E.keep [0,1,5],(InR.inc r5 (qal hl_0) c6)⟩
 refine sg<|aw E rfl fun a E=>wp_ret<|qaq<|qah ?_
 cases hF
 exact so (sr ⟨rfl,⟨ok,E.d,rz E rfl⟩⟩)
def qj9 (u:World) (m0:Mem) (S:Segs) (r:(List (List UInt8))) (a:Act) (w:World):Prop :=
 ∃ m1 v0,m0.le m1 ∧ Ok u m1 S w ∧ a.defers = [] ∧ RVs Tryz.prog a w [.t 4 v0] ∧ (pL 1 pS) m1 [v0] r
def qe0 (N:Nat):Prop:=∀ {u:World} {m0:Mem} {S:Segs} {w:World} (vparts_0:Value) (parts_0:List (Part)) (hparts_0:(pL 6 qa0) m0 [vparts_0] parts_0) (vnames_1:Value) (names_1:List (List UInt8)) (hnames_1:(pL 1 pS) m0 [vnames_1] names_1) {r:(List (List UInt8))} (hF:qby N parts_0 names_1 = some r) (hG:Glob u) (ok:Ok u m0 S w),Calls Tryz.prog 21 [vparts_0,vnames_1].toArray w fun e w'=>∃ m1 v0,e = .returned v0 ∧ m0.le m1 ∧ Ok u m1 S w' ∧ (pL 1 pS) m1 [v0] r
theorem qi2 (N:Nat) (ih_calqueref26_Names:qe0 N):qe0 (N + 1):=by
 intro u m0 S w vparts_0 parts_0 hparts_0 vnames_1 names_1 hnames_1 r hF hG ok
 have le_m0:=Mem.le.refl m0
 have hF0:qdA (qby N) N parts_0 names_1 = some r:=hF
 have hF:=hF0
 clear hF0
 unfold qdA at hF
 refine en (qj9 u m0 S) r Tryz.func21 rfl rfl rfl (fun _ _ h=>rc h fun _=>rfl) fun fin a E=>sg<|aw E rfl fun a E=>wp_seq<|sg<|aw E rfl fun a E=>wp_block<|bd hF fun o4 hL hF=>qa9 _ (fun (s:(List (List UInt8)) × Int) a w=>∃ m5 c6,m0.le m5 ∧ Ok u m5 (S) w ∧ Env 60 a [(0,vparts_0),(1,c6),(5,vi s.2)] ∧ (pL 1 pS) m5 [c6] s.1 ∧ InR .i64 s.2) (fun (b:((List (List UInt8)))) e a w=>e = (.exit 0) ∧ ∃ m236 c237,m0.le m236 ∧ Ok u m236 (S) w ∧ Env 60 a [(1,c237)] ∧ (pL 1 pS) m236 [c237] b) ?_ ?_ N _ a w hL ⟨m0,vnames_1,Mem.le.refl _,ok,E.keep [0,1,5],hnames_1,(ir 0)⟩
 rotate_left
 ·intro e a w _ hO
  obtain ⟨rfl,m233,c234,hle,ok,E,h235⟩:=hO
  have le_m0:=le_m0.trans hle
  have hparts_0:=(mL qai).up hle hparts_0
  have hnames_1:=(mL mS).up hle hnames_1
  refine qbm<|qaa<|sg<|mv E rfl fun a E=>aw E rfl fun a E=>wp_ret ?_
  exact fin hF ⟨m233,c234,le_m0,ok,E.d,rz E rfl,h235⟩
 rintro ⟨v9,v10⟩ a w r ⟨m11,c12,hle,ok,E,h13,r14⟩ hF
 replace hF:qdm (qby N) N parts_0 v9 v10 = some r:=hF
 unfold qdm at hF
 have le_m0:=le_m0.trans hle
 have hparts_0:=(mL qai).up hle hparts_0
 have hnames_1:=(mL mS).up hle hnames_1
 refine wp_seq<|sg<|mz E rfl rfl fun a E=>lv E ok (qaQ qbc hparts_0 rfl) fun a E=>lw E (qaO rfl rfl) fun a E=>wn<|cg E rfl hF (fun c15 hF=>?_) fun c15 hF=>?_
 ·refine wp_exit<|qaU ?_
  cases hF
  exact so (⟨rfl,⟨m11,c12,le_m0,ok,E.keep [1],h13⟩⟩)
 refine wp_skip<|qaa<|wp_seq<|wp_block<|sg<|mz E rfl rfl fun a E=>?_
 obtain ⟨x16,e17,hF⟩:=bnd hF
 obtain ⟨b18,o19,es20,hl21,rr22,at23,yy24⟩:=ia E 14 15 qbc hparts_0 e17
 obtain ⟨c29,c31,rfl,r25,l26,l27,l28,h30,h32⟩:=(qaK.1 rr22)
 refine lv E ok (yy24 _ _) fun a E=>lv E ok (qas (cs:=[vi x16.Kind,vs x16.Text,vs x16.Name,vs x16.Style,c29,c31]) qdr rfl rfl (qad.ro at23)) fun a E=>qa4 E ok qbv rfl rfl fun b33 a w E ok=>qae E ok 0 rfl rfl rfl qfd rfl rfl ⟨rfl,rfl,rfl,rfl,(qcD h30),(qcD h32),trivial⟩ rfl rfl fun w ok=>wn<|wp_seq<|sg<|fk E ok qay qap rfl 0 rfl rfl fun a E=>lw E (qb2 rfl rfl) fun a E=>mv E rfl fun a E=>bw E 21 hF (fun c34 hF E=>?_) fun c34 hF E=>?_
 ·as_aux_lemma =>
   refine lsq E fun a E=>ls E fun a E=>pf E rfl rfl fun a E=>mv E rfl fun a E=>lsz E fun a E=>ls E fun a E=>pf E rfl rfl fun a E=>wn<|c_if E rfl (fun h=>by cases h) (fun _=>?_)
   refine wp_skip<|qaa<|sg<|fk E ok qbR qbu rfl 0 rfl rfl fun a E=>mv E rfl fun a E=>bd hF fun r190 e191 hF=>qag E qjH rfl (ih_calqueref26_Names _ x16.Parts h32 _ v9 h13 e191 hG ok) rfl rfl ?_
   rintro _ w ⟨m192,c193,rfl,hle,ok,h194⟩
   have le_m0:=le_m0.trans hle
   have hparts_0:=(mL qai).up hle hparts_0
   have hnames_1:=(mL mS).up hle hnames_1
   have h13:=(mL mS).up hle h13
   have h30:=(mL qaC).up hle h30
   have h32:=(mL qai).up hle h32
   have at23:=At.up hle at23
   refine ⟨_,rfl,fun a E=>?_⟩
   refine aw E rfl fun a E=>sg<|aw E rfl fun a E=>wp_block<|bd hF fun o198 hL hF=>qa9 _ (fun (s:(List (List UInt8)) × Int) a w=>∃ m199 c200,m192.le m199 ∧ Ok u m199 ([(b33,oc 82 [vi x16.Kind,vs x16.Text,vs x16.Name,vs x16.Style,c29,c31])] :: S) w ∧ Env 60 a [(0,vparts_0),(1,c200),(5,vi v10),(6,vp b33),(7,vi s.2)] ∧ (pL 1 pS) m199 [c200] s.1 ∧ InR .i64 s.2) (fun (b:((List (List UInt8)))) e a w=>e = (.exit 2) ∧ ∃ m230 c231,m192.le m230 ∧ Ok u m230 ([(b33,oc 82 [vi x16.Kind,vs x16.Text,vs x16.Name,vs x16.Style,c29,c31])] :: S) w ∧ Env 60 a [(0,vparts_0),(1,c231),(5,vi v10)] ∧ (pL 1 pS) m230 [c231] b) ?_ ?_ N _ a w hL ⟨m192,c193,Mem.le.refl _,ok,E.keep [0,1,5,6,7],h194,(ir 0)⟩
   rotate_left
   ·intro e a w _ hO
    obtain ⟨rfl,m227,c228,hle,ok,E,h229⟩:=hO
    have le_m0:=le_m0.trans hle
    have hparts_0:=(mL qai).up hle hparts_0
    have hnames_1:=(mL mS).up hle hnames_1
    have h13:=(mL mS).up hle h13
    have h30:=(mL qaC).up hle h30
    have h32:=(mL qai).up hle h32
    have at23:=At.up hle at23
    have h194:=(mL mS).up hle h194
    refine qbm<|qaf<|qaa<|qac<|mv E rfl fun a E=>lw E (qaA rfl rfl (InR.inc r14 (qal hparts_0) c15)) fun a E=>av E rfl fun a E=>wpList_nil ?_
    cases hF
    exact qar ⟨m227,c228,le_m0,(ok.pk 1 [] rfl (by decide)),E.keep [0,1,5],h229,(InR.inc r14 (qal hparts_0) c15)⟩
   rintro ⟨v203,v204⟩ a w r ⟨m205,c206,hle,ok,E,h207,r208⟩ hF
   replace hF:qeQ (qby N) N x16 v203 v204 = some r:=hF
   unfold qeQ at hF
   have le_m192:=Mem.le.refl m192
   have le_m0:=le_m0.trans hle
   have le_m192:=le_m192.trans hle
   have hparts_0:=(mL qai).up hle hparts_0
   have hnames_1:=(mL mS).up hle hnames_1
   have h13:=(mL mS).up hle h13
   have h30:=(mL qaC).up hle h30
   have h32:=(mL qai).up hle h32
   have at23:=At.up hle at23
   have h194:=(mL mS).up hle h194
   refine wp_seq<|sg<|mv E rfl fun a E=>fk E ok qa2 qbo rfl 0 rfl rfl fun a E=>lv E ok (qaQ qbr h30 rfl) fun a E=>lw E (qaO rfl rfl) fun a E=>wn<|cg E rfl hF (fun c209 hF=>?_) fun c209 hF=>?_
   ·refine wp_exit<|qaU ?_
    cases hF
    exact so (⟨rfl,⟨m205,c206,le_m192,ok,E.keep [0,1,5],h207⟩⟩)
   refine wp_skip<|qaa<|wp_seq<|wp_block<|qac<|fk E ok qa2 qbo rfl 0 rfl rfl fun a E=>mv E rfl fun a E=>?_
   obtain ⟨x210,e211,hF⟩:=bnd hF
   obtain ⟨b212,o213,es214,hl215,rr216,at217,yy218⟩:=ia E 52 53 qbr h30 e211
   obtain ⟨c220,rfl,l219,h221⟩:=rr216
   refine lv E ok (yy218 _ _) fun a E=>fv E qeh rfl fun a E=>lv E ok (qat qbu rfl (qad.ro (At.sub 1 1 at217))) fun a E=>mv E rfl fun a E=>bd hF fun r222 e223 hF=>qag E qjH rfl (ih_calqueref26_Names _ x210.Parts h221 _ v203 h207 e223 hG ok) rfl rfl ?_
   rintro _ w ⟨m224,c225,rfl,hle,ok,h226⟩
   have le_m0:=le_m0.trans hle
   have le_m192:=le_m192.trans hle
   have hparts_0:=(mL qai).up hle hparts_0
   have hnames_1:=(mL mS).up hle hnames_1
   have h13:=(mL mS).up hle h13
   have h30:=(mL qaC).up hle h30
   have h32:=(mL qai).up hle h32
   have at23:=At.up hle at23
   have h194:=(mL mS).up hle h194
   have h207:=(mL mS).up hle h207
   have h221:=(mL qai).up hle h221
   have at217:=At.up hle at217
   refine ⟨_,rfl,fun a E=>?_⟩
   refine av E rfl fun a E=>wpList_nil<|qaf<|qaa<|qac<|mv E rfl fun a E=>lw E (qaA rfl rfl (InR.inc r208 (qal h30) c209)) fun a E=>av E rfl fun a E=>wpList_nil ?_
   cases hF
   exact qar ⟨m224,c225,le_m192,ok,E.keep [0,1,5,6,7],h226,(InR.inc r208 (qal h30) c209)⟩
 refine fk E ok qay qap rfl 0 rfl rfl fun a E=>lw E (qc4 rfl rfl) fun a E=>pt E rfl rfl fun a E=>mv E rfl fun a E=>bw E 26 hF (fun c35 hF E=>?_) fun c35 hF E=>?_
 ·as_aux_lemma =>
   refine lsz E fun a E=>ls E fun a E=>pf E rfl rfl fun a E=>wn<|c_if E rfl (fun h=>by cases h) (fun _=>?_)
   refine wp_skip<|qaa<|sg<|fk E ok qbR qbu rfl 0 rfl rfl fun a E=>mv E rfl fun a E=>bd hF fun r147 e148 hF=>qag E qjH rfl (ih_calqueref26_Names _ x16.Parts h32 _ v9 h13 e148 hG ok) rfl rfl ?_
   rintro _ w ⟨m149,c150,rfl,hle,ok,h151⟩
   have le_m0:=le_m0.trans hle
   have hparts_0:=(mL qai).up hle hparts_0
   have hnames_1:=(mL mS).up hle hnames_1
   have h13:=(mL mS).up hle h13
   have h30:=(mL qaC).up hle h30
   have h32:=(mL qai).up hle h32
   have at23:=At.up hle at23
   refine ⟨_,rfl,fun a E=>?_⟩
   refine aw E rfl fun a E=>sg<|aw E rfl fun a E=>wp_block<|bd hF fun o155 hL hF=>qa9 _ (fun (s:(List (List UInt8)) × Int) a w=>∃ m156 c157,m149.le m156 ∧ Ok u m156 ([(b33,oc 82 [vi x16.Kind,vs x16.Text,vs x16.Name,vs x16.Style,c29,c31])] :: S) w ∧ Env 60 a [(0,vparts_0),(1,c157),(5,vi v10),(6,vp b33),(7,vi s.2)] ∧ (pL 1 pS) m156 [c157] s.1 ∧ InR .i64 s.2) (fun (b:((List (List UInt8)))) e a w=>e = (.exit 2) ∧ ∃ m187 c188,m149.le m187 ∧ Ok u m187 ([(b33,oc 82 [vi x16.Kind,vs x16.Text,vs x16.Name,vs x16.Style,c29,c31])] :: S) w ∧ Env 60 a [(0,vparts_0),(1,c188),(5,vi v10)] ∧ (pL 1 pS) m187 [c188] b) ?_ ?_ N _ a w hL ⟨m149,c150,Mem.le.refl _,ok,E.keep [0,1,5,6,7],h151,(ir 0)⟩
   rotate_left
   ·intro e a w _ hO
    obtain ⟨rfl,m184,c185,hle,ok,E,h186⟩:=hO
    have le_m0:=le_m0.trans hle
    have hparts_0:=(mL qai).up hle hparts_0
    have hnames_1:=(mL mS).up hle hnames_1
    have h13:=(mL mS).up hle h13
    have h30:=(mL qaC).up hle h30
    have h32:=(mL qai).up hle h32
    have at23:=At.up hle at23
    have h151:=(mL mS).up hle h151
    refine qbm<|qaf<|qaa<|qac<|mv E rfl fun a E=>lw E (qaA rfl rfl (InR.inc r14 (qal hparts_0) c15)) fun a E=>av E rfl fun a E=>wpList_nil ?_
    cases hF
    exact qar ⟨m184,c185,le_m0,(ok.pk 1 [] rfl (by decide)),E.keep [0,1,5],h186,(InR.inc r14 (qal hparts_0) c15)⟩
   rintro ⟨v160,v161⟩ a w r ⟨m162,c163,hle,ok,E,h164,r165⟩ hF
   replace hF:qeP (qby N) N x16 v160 v161 = some r:=hF
   unfold qeP at hF
   have le_m149:=Mem.le.refl m149
   have le_m0:=le_m0.trans hle
   have le_m149:=le_m149.trans hle
   have hparts_0:=(mL qai).up hle hparts_0
   have hnames_1:=(mL mS).up hle hnames_1
   have h13:=(mL mS).up hle h13
   have h30:=(mL qaC).up hle h30
   have h32:=(mL qai).up hle h32
   have at23:=At.up hle at23
   have h151:=(mL mS).up hle h151
   refine wp_seq<|sg<|mv E rfl fun a E=>fk E ok qa2 qbo rfl 0 rfl rfl fun a E=>lv E ok (qaQ qbr h30 rfl) fun a E=>lw E (qaO rfl rfl) fun a E=>wn<|cg E rfl hF (fun c166 hF=>?_) fun c166 hF=>?_
   ·refine wp_exit<|qaU ?_
    cases hF
    exact so (⟨rfl,⟨m162,c163,le_m149,ok,E.keep [0,1,5],h164⟩⟩)
   refine wp_skip<|qaa<|wp_seq<|wp_block<|qac<|fk E ok qa2 qbo rfl 0 rfl rfl fun a E=>mv E rfl fun a E=>?_
   obtain ⟨x167,e168,hF⟩:=bnd hF
   obtain ⟨b169,o170,es171,hl172,rr173,at174,yy175⟩:=ia E 52 53 qbr h30 e168
   obtain ⟨c177,rfl,l176,h178⟩:=rr173
   refine lv E ok (yy175 _ _) fun a E=>fv E qeh rfl fun a E=>lv E ok (qat qbu rfl (qad.ro (At.sub 1 1 at174))) fun a E=>mv E rfl fun a E=>bd hF fun r179 e180 hF=>qag E qjH rfl (ih_calqueref26_Names _ x167.Parts h178 _ v160 h164 e180 hG ok) rfl rfl ?_
   rintro _ w ⟨m181,c182,rfl,hle,ok,h183⟩
   have le_m0:=le_m0.trans hle
   have le_m149:=le_m149.trans hle
   have hparts_0:=(mL qai).up hle hparts_0
   have hnames_1:=(mL mS).up hle hnames_1
   have h13:=(mL mS).up hle h13
   have h30:=(mL qaC).up hle h30
   have h32:=(mL qai).up hle h32
   have at23:=At.up hle at23
   have h151:=(mL mS).up hle h151
   have h164:=(mL mS).up hle h164
   have h178:=(mL qai).up hle h178
   have at174:=At.up hle at174
   refine ⟨_,rfl,fun a E=>?_⟩
   refine av E rfl fun a E=>wpList_nil<|qaf<|qaa<|qac<|mv E rfl fun a E=>lw E (qaA rfl rfl (InR.inc r165 (qal h30) c166)) fun a E=>av E rfl fun a E=>wpList_nil ?_
   cases hF
   exact qar ⟨m181,c182,le_m149,ok,E.keep [0,1,5,6,7],h183,(InR.inc r165 (qal h30) c166)⟩
 refine mv E rfl fun a E=>fk E ok qaN qak rfl 0 rfl rfl fun a E=>bd hF fun r36 e37 hF=>lc E qgR rfl (qcd N _ v9 h13 x16.Name l27 e37 hG ok) fun w ok a E=>lw E (qaT rfl) fun a E=>pt E rfl rfl fun a E=>wn<|bd hF fun o38 hJ hF=>qaG (Q':=fun e a w=>e = .normal ∧ ∃ m39 c40,m11.le m39 ∧ Ok u m39 ([(b33,oc 82 [vi x16.Kind,vs x16.Text,vs x16.Name,vs x16.Style,c29,c31])] :: S) w ∧ Env 60 a [(0,vparts_0),(1,c40),(5,vi v10),(6,vp b33)] ∧ (pL 1 pS) m39 [c40] o38) ?_ ?_
 ·as_aux_lemma =>
   have hF:=hJ
   have le_m11:=Mem.le.refl m11
   refine cg E rfl hF (fun c42 hF=>?_) fun c42 hF=>?_
   ·refine wp_skip ?_
    cases hF
    exact ⟨rfl,⟨m11,c12,le_m11,ok,E.keep [0,1,5,6],h13⟩⟩
   refine bd hF fun o43 hJ hF=>qaG (Q':=fun e a w=>e = .normal ∧ ∃ c44 M45,Ok u m11 (M45 :: [(b33,oc 82 [vi x16.Kind,vs x16.Text,vs x16.Name,vs x16.Style,c29,c31])] :: S) w ∧ Env 60 a [(0,vparts_0),(1,c44),(5,vi v10),(6,vp b33)] ∧ ORow 9 1 pS m11 c44 o43 M45) ?_ ?_
   rotate_left
   ·intro e a w hO
    obtain ⟨rfl,c96,M97,ok,E,h98⟩:=hO
    obtain ⟨m99,hle,ok,hfz⟩:=(ok.frs 0 rfl).freeze
    have h100:=ORow.froz mS h98 hle hfz (by decide)
    have le_m0:=le_m0.trans hle
    have le_m11:=le_m11.trans hle
    have hparts_0:=(mL qai).up hle hparts_0
    have hnames_1:=(mL mS).up hle hnames_1
    have h13:=(mL mS).up hle h13
    have h30:=(mL qaC).up hle h30
    have h32:=(mL qai).up hle h32
    have at23:=At.up hle at23
    cases hF
    exact ⟨rfl,⟨m99,c96,le_m11,ok,E.keep [0,1,5,6],h100⟩⟩
   have hF:=hJ
   obtain ⟨l50,e51,hF⟩:=bnd hF
   obtain ⟨l58,e59,hF⟩:=bnd hF
   obtain rfl:=sj hF
   refine qbI [] (Cls u m11 ([(b33,oc 82 [vi x16.Kind,vs x16.Text,vs x16.Name,vs x16.Style,c29,c31])] :: [])) (Cls u m11 ([(b33,oc 82 [vi x16.Kind,vs x16.Text,vs x16.Name,vs x16.Style,c29,c31])] :: [])) (by kernel_rfl) ?_
   intro w hw
   replace ok:=qb3 ok hw
   clear hw
   refine qaw (cl1 (cq le_m11 ok [0] rfl) (cq le_m11 ok [0] rfl)) fun hT=>kt 1 E rfl hT (qan rfl) fun a E=>kt 3 E rfl hT (qaj qaN rfl) fun a E=>kt 4 E rfl hT (qat qak rfl (qad.cown 0 rfl rfl)) fun a E=>qa1 [0,5] (by kernel_rfl) rfl (qgY ?_ (qgY ?_ (qkQ)))
   rotate_left
   ·refine wo rfl<|qbq (R:=pS) (xo:=[.tmp 37]) (xs:=([x16.Name]:List (List UInt8))) E ok qbn qbH rfl ⟨⟨_,rfl,rfl,(qcs l27)⟩,trivial⟩ rfl rfl rfl rfl fun c84 M85 a w E ok h86=>wn<|qaw (cl1 (cq le_m11 ok [1] rfl) (cq le_m11 ok [1] rfl)) fun hT=>qa1 [0] (by kernel_rfl) rfl (qa8 ?_)
    ·refine wo rfl<|qbq (R:=pS) (xo:=[]) (xs:=([]:List (List UInt8))) E ok qbn qbH rfl trivial rfl rfl rfl rfl fun c87 M88 a w E ok h89=>wn<|qaw (cl1 (cq le_m11 ok [2] rfl) (cq le_m11 ok [2] rfl)) fun hT=>qa1 [2] (by kernel_rfl) rfl (qa8 ?_)
     ·refine wo rfl<|qbX (R:=pS) E ok 0 mS qbn Tryz.underlying25 rfl h89 (qbs.ofL h13 ok) e51 ⟨_,qbH,rfl⟩ rfl rfl rfl rfl fun c90 M91 a w E ok h92=>wn<|qaw (cl1 (cq le_m11 ok [2] rfl) (cq le_m11 ok [2] rfl)) fun hT=>qa1 [6] (by kernel_rfl) rfl (qa8 ?_)
      ·refine wo rfl<|qbX (R:=pS) E ok 0 mS qbn Tryz.underlying25 rfl h92 (qbs.ofRow h86 1 rfl ok) e59 ⟨_,qbH,rfl⟩ rfl rfl rfl rfl fun c93 M94 a w E ok h95=>wn<|qaw (cl1 (cq le_m11 ok [2] rfl) (cq le_m11 ok [2] rfl)) fun hT=>kt 7 E rfl hT (qbx rfl) fun a E=>qbK (by kernel_rfl) ?_
       exact ⟨rfl,⟨c93,M94,(ok.pk 3 [0,2] rfl (by decide)),E.keep [0,1,5,6],h95⟩⟩
   refine wo rfl<|qbq (R:=pS) (xo:=[]) (xs:=([]:List (List UInt8))) E ok qbn qbH rfl trivial rfl rfl rfl rfl fun c63 M64 a w E ok h65=>wn<|qaw (cl1 (cq le_m11 ok [1] rfl) (cq le_m11 ok [1] rfl)) fun hT=>qa1 [2,5] (by kernel_rfl) rfl (qgY ?_ (qgY ?_ (qkQ)))
   ·refine wo rfl<|qbX (R:=pS) E ok 0 mS qbn Tryz.underlying25 rfl h65 (qbs.ofL h13 ok) e51 ⟨_,qbH,rfl⟩ rfl rfl rfl rfl fun c66 M67 a w E ok h68=>wn<|qaw (cl1 (cq le_m11 ok [1] rfl) (cq le_m11 ok [1] rfl)) fun hT=>qa1 [5] (by kernel_rfl) rfl (qa8 ?_)
    ·refine wo rfl<|qbq (R:=pS) (xo:=[.tmp 37]) (xs:=([x16.Name]:List (List UInt8))) E ok qbn qbH rfl ⟨⟨_,rfl,rfl,(qcs l27)⟩,trivial⟩ rfl rfl rfl rfl fun c69 M70 a w E ok h71=>wn<|qaw (cl1 (cq le_m11 ok [2] rfl) (cq le_m11 ok [2] rfl)) fun hT=>qa1 [6] (by kernel_rfl) rfl (qa8 ?_)
     ·refine wo rfl<|qbX (R:=pS) E ok 1 mS qbn Tryz.underlying25 rfl h68 (qbs.ofRow h71 0 rfl ok) e59 ⟨_,qbH,rfl⟩ rfl rfl rfl rfl fun c72 M73 a w E ok h74=>wn<|qaw (cl1 (cq le_m11 ok [2] rfl) (cq le_m11 ok [2] rfl)) fun hT=>kt 7 E rfl hT (qbx rfl) fun a E=>qbK (by kernel_rfl) ?_
      exact ⟨rfl,⟨c72,M73,(ok.pk 3 [1,2] rfl (by decide)),E.keep [0,1,5,6],h74⟩⟩
   refine wo rfl<|qbq (R:=pS) (xo:=[.tmp 37]) (xs:=([x16.Name]:List (List UInt8))) E ok qbn qbH rfl ⟨⟨_,rfl,rfl,(qcs l27)⟩,trivial⟩ rfl rfl rfl rfl fun c75 M76 a w E ok h77=>wn<|qaw (cl1 (cq le_m11 ok [2] rfl) (cq le_m11 ok [2] rfl)) fun hT=>qa1 [2] (by kernel_rfl) rfl (qa8 ?_)
   ·refine wo rfl<|qbX (R:=pS) E ok 1 mS qbn Tryz.underlying25 rfl h65 (qbs.ofL h13 ok) e51 ⟨_,qbH,rfl⟩ rfl rfl rfl rfl fun c78 M79 a w E ok h80=>wn<|qaw (cl1 (cq le_m11 ok [2] rfl) (cq le_m11 ok [2] rfl)) fun hT=>qa1 [6] (by kernel_rfl) rfl (qa8 ?_)
    ·refine wo rfl<|qbX (R:=pS) E ok 1 mS qbn Tryz.underlying25 rfl h80 (qbs.ofRow h77 0 rfl ok) e59 ⟨_,qbH,rfl⟩ rfl rfl rfl rfl fun c81 M82 a w E ok h83=>wn<|qaw (cl1 (cq le_m11 ok [2] rfl) (cq le_m11 ok [2] rfl)) fun hT=>kt 7 E rfl hT (qbx rfl) fun a E=>qbK (by kernel_rfl) ?_
     exact ⟨rfl,⟨c81,M82,(ok.pk 3 [1,2] rfl (by decide)),E.keep [0,1,5,6],h83⟩⟩
 intro e a w hO
 obtain ⟨rfl,m101,c102,hle,ok,E,h103⟩:=hO
 have le_m0:=le_m0.trans hle
 have hparts_0:=(mL qai).up hle hparts_0
 have hnames_1:=(mL mS).up hle hnames_1
 have h13:=(mL mS).up hle h13
 have h30:=(mL qaC).up hle h30
 have h32:=(mL qai).up hle h32
 have at23:=At.up hle at23
 refine qaa<|sg<|fk E ok qbR qbu rfl 0 rfl rfl fun a E=>mv E rfl fun a E=>bd hF fun r104 e105 hF=>qag E qjH rfl (ih_calqueref26_Names _ x16.Parts h32 _ o38 h103 e105 hG ok) rfl rfl ?_
 rintro _ w ⟨m106,c107,rfl,hle,ok,h108⟩
 have le_m0:=le_m0.trans hle
 have hparts_0:=(mL qai).up hle hparts_0
 have hnames_1:=(mL mS).up hle hnames_1
 have h13:=(mL mS).up hle h13
 have h30:=(mL qaC).up hle h30
 have h32:=(mL qai).up hle h32
 have at23:=At.up hle at23
 have h103:=(mL mS).up hle h103
 refine ⟨_,rfl,fun a E=>?_⟩
 refine aw E rfl fun a E=>sg<|aw E rfl fun a E=>wp_block<|bd hF fun o112 hL hF=>qa9 _ (fun (s:(List (List UInt8)) × Int) a w=>∃ m113 c114,m106.le m113 ∧ Ok u m113 ([(b33,oc 82 [vi x16.Kind,vs x16.Text,vs x16.Name,vs x16.Style,c29,c31])] :: S) w ∧ Env 60 a [(0,vparts_0),(1,c114),(5,vi v10),(6,vp b33),(7,vi s.2)] ∧ (pL 1 pS) m113 [c114] s.1 ∧ InR .i64 s.2) (fun (b:((List (List UInt8)))) e a w=>e = (.exit 2) ∧ ∃ m144 c145,m106.le m144 ∧ Ok u m144 ([(b33,oc 82 [vi x16.Kind,vs x16.Text,vs x16.Name,vs x16.Style,c29,c31])] :: S) w ∧ Env 60 a [(0,vparts_0),(1,c145),(5,vi v10)] ∧ (pL 1 pS) m144 [c145] b) ?_ ?_ N _ a w hL ⟨m106,c107,Mem.le.refl _,ok,E.keep [0,1,5,6,7],h108,(ir 0)⟩
 rotate_left
 ·intro e a w _ hO
  obtain ⟨rfl,m141,c142,hle,ok,E,h143⟩:=hO
  have le_m0:=le_m0.trans hle
  have hparts_0:=(mL qai).up hle hparts_0
  have hnames_1:=(mL mS).up hle hnames_1
  have h13:=(mL mS).up hle h13
  have h30:=(mL qaC).up hle h30
  have h32:=(mL qai).up hle h32
  have at23:=At.up hle at23
  have h103:=(mL mS).up hle h103
  have h108:=(mL mS).up hle h108
  refine qbm<|qaf<|qaa<|qac<|mv E rfl fun a E=>lw E (qaA rfl rfl (InR.inc r14 (qal hparts_0) c15)) fun a E=>av E rfl fun a E=>wpList_nil ?_
  cases hF
  exact qar ⟨m141,c142,le_m0,(ok.pk 1 [] rfl (by decide)),E.keep [0,1,5],h143,(InR.inc r14 (qal hparts_0) c15)⟩
 rintro ⟨v117,v118⟩ a w r ⟨m119,c120,hle,ok,E,h121,r122⟩ hF
 replace hF:qca (qby N) N x16 v117 v118 = some r:=hF
 unfold qca at hF
 have le_m106:=Mem.le.refl m106
 have le_m0:=le_m0.trans hle
 have le_m106:=le_m106.trans hle
 have hparts_0:=(mL qai).up hle hparts_0
 have hnames_1:=(mL mS).up hle hnames_1
 have h13:=(mL mS).up hle h13
 have h30:=(mL qaC).up hle h30
 have h32:=(mL qai).up hle h32
 have at23:=At.up hle at23
 have h103:=(mL mS).up hle h103
 have h108:=(mL mS).up hle h108
 refine wp_seq<|sg<|mv E rfl fun a E=>fk E ok qa2 qbo rfl 0 rfl rfl fun a E=>lv E ok (qaQ qbr h30 rfl) fun a E=>lw E (qaO rfl rfl) fun a E=>wn<|cg E rfl hF (fun c123 hF=>?_) fun c123 hF=>?_
 ·refine wp_exit<|qaU ?_
  cases hF
  exact so (⟨rfl,⟨m119,c120,le_m106,ok,E.keep [0,1,5],h121⟩⟩)
 refine wp_skip<|qaa<|wp_seq<|wp_block<|qac<|fk E ok qa2 qbo rfl 0 rfl rfl fun a E=>mv E rfl fun a E=>?_
 obtain ⟨x124,e125,hF⟩:=bnd hF
 obtain ⟨b126,o127,es128,hl129,rr130,at131,yy132⟩:=ia E 52 53 qbr h30 e125
 obtain ⟨c134,rfl,l133,h135⟩:=rr130
 refine lv E ok (yy132 _ _) fun a E=>fv E qeh rfl fun a E=>lv E ok (qat qbu rfl (qad.ro (At.sub 1 1 at131))) fun a E=>mv E rfl fun a E=>bd hF fun r136 e137 hF=>qag E qjH rfl (ih_calqueref26_Names _ x124.Parts h135 _ v117 h121 e137 hG ok) rfl rfl ?_
 rintro _ w ⟨m138,c139,rfl,hle,ok,h140⟩
 have le_m0:=le_m0.trans hle
 have le_m106:=le_m106.trans hle
 have hparts_0:=(mL qai).up hle hparts_0
 have hnames_1:=(mL mS).up hle hnames_1
 have h13:=(mL mS).up hle h13
 have h30:=(mL qaC).up hle h30
 have h32:=(mL qai).up hle h32
 have at23:=At.up hle at23
 have h103:=(mL mS).up hle h103
 have h108:=(mL mS).up hle h108
 have h121:=(mL mS).up hle h121
 have h135:=(mL qai).up hle h135
 have at131:=At.up hle at131
 refine ⟨_,rfl,fun a E=>?_⟩
 refine av E rfl fun a E=>wpList_nil<|qaf<|qaa<|qac<|mv E rfl fun a E=>lw E (qaA rfl rfl (InR.inc r122 (qal h30) c123)) fun a E=>av E rfl fun a E=>wpList_nil ?_
 cases hF
 exact qar ⟨m138,c139,le_m106,ok,E.keep [0,1,5,6,7],h140,(InR.inc r122 (qal h30) c123)⟩
theorem qiV:qe0 0:=by
 intro u m0 S w vparts_0 parts_0 hparts_0 vnames_1 names_1 hnames_1 r hF hG ok
 replace hF:none = some r:=hF
 cases hF
theorem qhX (N:Nat):qe0 N:=by
 induction N with
 | zero=>exact qiV
 | succ N h=>exact qi2 N h
theorem qjW {u:World} {m0:Mem} {S:Segs} {w:World} (N:Nat) (vparts_0:Value) (parts_0:List (Part)) (hparts_0:(pL 6 qa0) m0 [vparts_0] parts_0) (vnames_1:Value) (names_1:List (List UInt8)) (hnames_1:(pL 1 pS) m0 [vnames_1] names_1) {r:(List (List UInt8))} (hF:qby N parts_0 names_1 = some r) (hG:Glob u) (ok:Ok u m0 S w) :
 Calls Tryz.prog 21 [vparts_0,vnames_1].toArray w fun e w'=>∃ m1 v0,e = .returned v0 ∧ m0.le m1 ∧ Ok u m1 S w' ∧ (pL 1 pS) m1 [v0] r:=(qhX N) vparts_0 parts_0 hparts_0 vnames_1 names_1 hnames_1 hF hG ok
def qiJ (u:World) (m0:Mem) (S:Segs) (r:Bool) (a:Act) (w:World):Prop :=
 Ok u m0 S w ∧ a.defers = [] ∧ RVs Tryz.prog a w [.t 2 (.bool r)]
theorem qcq (N:Nat) (kind_0:Int) (rkind_0:InR .i64 kind_0) {r:Bool} (hF:qbp N kind_0 = some r) (hG:Glob u) (ok:Ok u m0 S w) :
  Calls Tryz.prog 43 [vi kind_0].toArray w fun e w'=>(e = .returned (.bool r) ∧ Ok u m0 S w'):=by
 unfold qbp at hF
 refine en (qiJ u m0 S) r Tryz.func43 rfl rfl rfl (fun _ _ h=>ra h rfl) fun fin a E=>sg<|aw E rfl fun a E=>sg<|mv E rfl fun a E=>lw E (qao rfl rfl) fun a E=>mv E rfl fun a E=>bu E 5 hF (fun c1 hF E=>?_) fun c1 hF E=>?_
 ·refine lsq E fun a E=>pt E rfl rfl fun a E=>mv E rfl fun a E=>lsq E fun a E=>pt E rfl rfl fun a E=>av E rfl fun a E=>wn<|wp_ret ?_
  exact fin hF ⟨ok,E.d,rz E rfl⟩
 refine mv E rfl fun a E=>lw E (qao rfl rfl) fun a E=>pf E rfl rfl fun a E=>mv E rfl fun a E=>bu E 9 hF (fun c2 hF E=>?_) fun c2 hF E=>?_
 ·refine lsq E fun a E=>pt E rfl rfl fun a E=>aw E rfl fun a E=>wp_ret ?_
  exact fin hF ⟨ok,E.d,rz E rfl⟩
 refine mv E rfl fun a E=>lw E (qao rfl rfl) fun a E=>pf E rfl rfl fun a E=>aw E rfl fun a E=>wp_ret ?_
 exact fin hF ⟨ok,E.d,rz E rfl⟩
def qjj (u:World) (m0:Mem) (S:Segs) (r:Bool) (a:Act) (w:World):Prop :=
 Ok u m0 S w ∧ a.defers = [] ∧ RVs Tryz.prog a w [.t 2 (.bool r)]
theorem qcK (N:Nat) (kind_0:Int) (rkind_0:InR .i64 kind_0) {r:Bool} (hF:qbD N kind_0 = some r) (hG:Glob u) (ok:Ok u m0 S w) :
  Calls Tryz.prog 45 [vi kind_0].toArray w fun e w'=>(e = .returned (.bool r) ∧ Ok u m0 S w'):=by
 unfold qbD at hF
 refine en (qjj u m0 S) r Tryz.func45 rfl rfl rfl (fun _ _ h=>ra h rfl) fun fin a E=>sg<|aw E rfl fun a E=>sg<|mv E rfl fun a E=>lw E (qao rfl rfl) fun a E=>mv E rfl fun a E=>bu E 5 hF (fun c1 hF E=>?_) fun c1 hF E=>?_
 ·refine lsq E fun a E=>pt E rfl rfl fun a E=>aw E rfl fun a E=>wp_ret ?_
  exact fin hF ⟨ok,E.d,rz E rfl⟩
 refine mv E rfl fun a E=>lw E (qao rfl rfl) fun a E=>pf E rfl rfl fun a E=>aw E rfl fun a E=>wp_ret ?_
 exact fin hF ⟨ok,E.d,rz E rfl⟩
def qkh (u:World) (m0:Mem) (S:Segs) (r:Bool) (a:Act) (w:World):Prop :=
 Ok u m0 S w ∧ a.defers = [] ∧ RVs Tryz.prog a w [.t 2 (.bool r)]
theorem qhb (N:Nat) (c_0:Int) (rc_0:InR .u8 c_0) {r:Bool} (hF:qd4 N c_0 = some r) (hG:Glob u) (ok:Ok u m0 S w) :
  Calls Tryz.prog 76 [Value.int .u8 c_0].toArray w fun e w'=>(e = .returned (.bool r) ∧ Ok u m0 S w'):=by
 unfold qd4 at hF
 refine en (qkh u m0 S) r Tryz.func76 rfl rfl rfl (fun _ _ h=>ra h rfl) fun fin a E=>sg<|aw E rfl fun a E=>sg<|mv E rfl fun a E=>lw E (qb2 rfl rfl) fun a E=>mv E rfl fun a E=>bu E 5 hF (fun c1 hF E=>?_) fun c1 hF E=>?_
 ·refine mv E rfl fun a E=>lw E (qc4 rfl rfl) fun a E=>pt E rfl rfl fun a E=>aw E rfl fun a E=>wp_ret ?_
  exact fin hF ⟨ok,E.d,rz E rfl⟩
 refine lsq E fun a E=>pf E rfl rfl fun a E=>aw E rfl fun a E=>wp_ret ?_
 exact fin hF ⟨ok,E.d,rz E rfl⟩
def qjI (u:World) (m0:Mem) (S:Segs) (r:Bool) (a:Act) (w:World):Prop :=
 Ok u m0 S w ∧ a.defers = [] ∧ RVs Tryz.prog a w [.t 2 (.bool r)]
theorem qjz (N:Nat) (c_0:Int) (rc_0:InR .u8 c_0) {r:Bool} (hF:qf3 N c_0 = some r) (hG:Glob u) (ok:Ok u m0 S w) :
  Calls Tryz.prog 104 [Value.int .u8 c_0].toArray w fun e w'=>(e = .returned (.bool r) ∧ Ok u m0 S w'):=by
 unfold qf3 at hF
 refine en (qjI u m0 S) r Tryz.func104 rfl rfl rfl (fun _ _ h=>ra h rfl) fun fin a E=>sg<|aw E rfl fun a E=>sg<|mv E rfl fun a E=>bd hF fun r1 e2 hF=>lc E qqn rfl (qhb N c_0 rc_0 e2 hG ok) fun w ok a E=>mv E rfl fun a E=>qbj r1 (fun c3=>?_) (fun c3=>?_)
 ·have hF:=qbh c3 hF
  have E:=E.upd 5 c3 rfl
  refine lsz E fun a E=>lsq E fun a E=>pt E rfl rfl fun a E=>av E rfl fun a E=>wn<|wp_ret ?_
  exact fin hF ⟨ok,E.d,rz E rfl⟩
 have hF:=qbg c3 hF
 have E:=E.upd 5 c3 rfl
 refine mv E rfl fun a E=>lw E (qb2 rfl rfl) fun a E=>mv E rfl fun a E=>bu E 8 hF (fun c4 hF E=>?_) fun c4 hF E=>?_
 ·refine mv E rfl fun a E=>lw E (qc4 rfl rfl) fun a E=>pt E rfl rfl fun a E=>pf E rfl rfl fun a E=>aw E rfl fun a E=>wp_ret ?_
  exact fin hF ⟨ok,E.d,rz E rfl⟩
 refine lsq E fun a E=>pf E rfl rfl fun a E=>pf E rfl rfl fun a E=>aw E rfl fun a E=>wp_ret ?_
 exact fin hF ⟨ok,E.d,rz E rfl⟩
def qkm (u:World) (m0:Mem) (S:Segs) (r:Bool) (a:Act) (w:World):Prop :=
 Ok u m0 S w ∧ a.defers = [] ∧ RVs Tryz.prog a w [.t 2 (.bool r)]
theorem qeY (N:Nat) (c_0:Int) (rc_0:InR .u8 c_0) {r:Bool} (hF:qc1 N c_0 = some r) (hG:Glob u) (ok:Ok u m0 S w) :
  Calls Tryz.prog 75 [Value.int .u8 c_0].toArray w fun e w'=>(e = .returned (.bool r) ∧ Ok u m0 S w'):=by
 unfold qc1 at hF
 refine en (qkm u m0 S) r Tryz.func75 rfl rfl rfl (fun _ _ h=>ra h rfl) fun fin a E=>sg<|aw E rfl fun a E=>sg<|mv E rfl fun a E=>bd hF fun r1 e2 hF=>lc E qre rfl (qjz N c_0 rc_0 e2 hG ok) fun w ok a E=>mv E rfl fun a E=>qbj r1 (fun c3=>?_) (fun c3=>?_)
 ·have hF:=qbh c3 hF
  have E:=E.upd 5 c3 rfl
  refine lsz E fun a E=>lsq E fun a E=>pt E rfl rfl fun a E=>mv E rfl fun a E=>lsq E fun a E=>pt E rfl rfl fun a E=>mv E rfl fun a E=>lsq E fun a E=>pt E rfl rfl fun a E=>av E rfl fun a E=>?_
  refine wn<|wp_ret ?_
  exact fin hF ⟨ok,E.d,rz E rfl⟩
 have hF:=qbg c3 hF
 have E:=E.upd 5 c3 rfl
 refine mv E rfl fun a E=>lw E (qb2 rfl rfl) fun a E=>mv E rfl fun a E=>bw E 8 hF (fun c4 hF E=>?_) fun c4 hF E=>?_
 ·refine lsq E fun a E=>pf E rfl rfl fun a E=>pf E rfl rfl fun a E=>mz E rfl rfl fun a E=>lw E (qao rfl rfl) fun a E=>pf E rfl rfl fun a E=>mv E rfl fun a E=>bu E 17 hF (fun c7 hF E=>?_) fun c7 hF E=>?_
  ·refine lsq E fun a E=>pt E rfl rfl fun a E=>aw E rfl fun a E=>wp_ret ?_
   exact fin hF ⟨ok,E.d,rz E rfl⟩
  refine mv E rfl fun a E=>lw E (qao rfl rfl) fun a E=>pf E rfl rfl fun a E=>aw E rfl fun a E=>wp_ret ?_
  exact fin hF ⟨ok,E.d,rz E rfl⟩
 refine mv E rfl fun a E=>lw E (qc4 rfl rfl) fun a E=>pt E rfl rfl fun a E=>pf E rfl rfl fun a E=>mv E rfl fun a E=>bu E 13 hF (fun c5 hF E=>?_) fun c5 hF E=>?_
 ·refine lsq E fun a E=>pt E rfl rfl fun a E=>mv E rfl fun a E=>lsq E fun a E=>pt E rfl rfl fun a E=>av E rfl fun a E=>wn<|wp_ret ?_
  exact fin hF ⟨ok,E.d,rz E rfl⟩
 refine mv E rfl fun a E=>lw E (qao rfl rfl) fun a E=>pf E rfl rfl fun a E=>mv E rfl fun a E=>bu E 17 hF (fun c6 hF E=>?_) fun c6 hF E=>?_
 ·refine lsq E fun a E=>pt E rfl rfl fun a E=>aw E rfl fun a E=>wp_ret ?_
  exact fin hF ⟨ok,E.d,rz E rfl⟩
 refine mv E rfl fun a E=>lw E (qao rfl rfl) fun a E=>pf E rfl rfl fun a E=>aw E rfl fun a E=>wp_ret ?_
 exact fin hF ⟨ok,E.d,rz E rfl⟩
def qhF (u:World) (m0:Mem) (S:Segs) (r:Bool) (a:Act) (w:World):Prop :=
 Ok u m0 S w ∧ a.defers = [] ∧ RVs Tryz.prog a w [.t 2 (.bool r)]
theorem qaP (N:Nat) (s_0:List UInt8) (ls_0:s_0.length ≤ LIMS) {r:Bool} (hF:qaJ N s_0 = some r) (hG:Glob u) (ok:Ok u m0 S w) :
  Calls Tryz.prog 59 [vs s_0].toArray w fun e w'=>(e = .returned (.bool r) ∧ Ok u m0 S w'):=by
 unfold qaJ at hF
 refine en (qhF u m0 S) r Tryz.func59 rfl rfl rfl (fun _ _ h=>ra h rfl) fun fin a E=>sg<|aw E rfl fun a E=>wp_seq<|sg<|aw E rfl fun a E=>wp_block<|bd hF fun o2 hL hF=>qa9 _ (fun (s:Int) a w=>Ok u m0 (S) w ∧ Env 28 a [(0,vs s_0),(3,vi s)] ∧ InR .i64 s) (fun (b:(Unit ⊕ Bool)) e a w=>(Sum.elim (fun b18=>e = (.exit 0) ∧ Ok u m0 (S) w ∧ Env 28 a [(0,vs s_0)]) (fun b19=>e = .ret ∧ qhF u m0 S b19 a w)) b) ?_ ?_ N _ a w hL ⟨ok,E.keep [0,3],(ir 0)⟩
 ·rintro v4 a w r ⟨ok,E,r5⟩ hF
  replace hF:qd8 N s_0 v4 = some r:=hF
  unfold qd8 at hF
  refine wp_seq<|sg<|mz E rfl rfl fun a E=>lw E (qaI Tryz.underlying9 rfl) fun a E=>lw E (qaO rfl rfl) fun a E=>wn<|cg E rfl hF (fun c6 hF=>?_) fun c6 hF=>?_
  ·refine wp_exit<|qaU ?_
   cases hF
   exact so (sl ⟨rfl,⟨ok,E.keep [0]⟩⟩)
  refine wp_skip<|qaa<|wp_seq<|wp_block<|sg<|mz E rfl rfl fun a E=>bd hF fun c7 e8 hF=>lv E ok (qaH Tryz.underlying9 rfl rfl e8) fun a E=>bd hF fun r9 e10 hF=>lc E qmP rfl (qeY N (c7.toNat:Int) (InR.byte c7) e10 hG ok) fun w ok a E=>lw E (qaT rfl) fun a E=>wn<|cg E rfl hF (fun c11 hF=>?_) fun c11 hF=>?_
  ·refine wp_skip<|qaf<|qaa<|qac<|mv E rfl fun a E=>lw E (qaA rfl rfl (InR.inc r5 (InR.len ls_0) c6)) fun a E=>av E rfl fun a E=>wpList_nil ?_
   cases hF
   exact qar ⟨ok,E.keep [0,3],(InR.inc r5 (InR.len ls_0) c6)⟩
  refine sg<|aw E rfl fun a E=>wp_ret<|qaq<|qah ?_
  cases hF
  exact so (sr ⟨rfl,⟨ok,E.d,rz E rfl⟩⟩)
 intro e a w _ hO
 rcases o2 with o2 | o2
 rotate_left
 ·obtain ⟨rfl,hret⟩:=hO
  refine qaq<|qah ?_
  exact fin hF hret
 have hF:=qbV hF
 obtain ⟨rfl,ok,E⟩:=hO
 refine qbm<|qaa<|sg<|mv E rfl fun a E=>lw E (qaI Tryz.underlying9 rfl) fun a E=>lw E (qb2 rfl rfl) fun a E=>mv E rfl fun a E=>bw E 18 hF (fun c12 hF E=>?_) fun c12 hF E=>?_
 ·refine lsq E fun a E=>ls E fun a E=>pf E rfl rfl fun a E=>mv E rfl fun a E=>lsq E fun a E=>ls E fun a E=>pf E rfl rfl fun a E=>aw E rfl fun a E=>wp_ret ?_
  exact fin hF ⟨ok,E.d,rz E rfl⟩
 refine mv E rfl fun a E=>lw E (qaI Tryz.underlying9 rfl) fun a E=>lw E (qc4 rfl rfl) fun a E=>pt E rfl rfl fun a E=>mv E rfl fun a E=>bw E 23 hF (fun c13 hF E=>?_) fun c13 hF E=>?_
 ·refine lsq E fun a E=>ls E fun a E=>pf E rfl rfl fun a E=>aw E rfl fun a E=>wp_ret ?_
  exact fin hF ⟨ok,E.d,rz E rfl⟩
 refine mv E rfl fun a E=>bd hF fun c14 e15 hF=>lv E ok (qaH Tryz.underlying9 rfl rfl e15) fun a E=>bd hF fun r16 e17 hF=>lc E qqn rfl (qhb N (c14.toNat:Int) (InR.byte c14) e17 hG ok) fun w ok a E=>pt E rfl rfl fun a E=>aw E rfl fun a E=>wp_ret ?_
 exact fin hF ⟨ok,E.d,rz E rfl⟩
def qj0 (u:World) (m0:Mem) (S:Segs) (r:Bool) (a:Act) (w:World):Prop :=
 Ok u m0 S w ∧ a.defers = [] ∧ RVs Tryz.prog a w [.t 2 (.bool r)]
theorem qjV (N:Nat) (s_0:List UInt8) (ls_0:s_0.length ≤ LIMS) {r:Bool} (hF:qeH N s_0 = some r) (hG:Glob u) (ok:Ok u m0 S w) :
  Calls Tryz.prog 77 [vs s_0].toArray w fun e w'=>(e = .returned (.bool r) ∧ Ok u m0 S w'):=by
 unfold qeH at hF
 refine en (qj0 u m0 S) r Tryz.func77 rfl rfl rfl (fun _ _ h=>ra h rfl) fun fin a E=>sg<|aw E rfl fun a E=>sg<|mv E rfl fun a E=>lw E (qbt rfl rfl) fun a E=>mv E rfl fun a E=>bu E 5 hF (fun c1 hF E=>?_) fun c1 hF E=>?_
 ·refine lsq E fun a E=>pt E rfl rfl fun a E=>mv E rfl fun a E=>lsq E fun a E=>pt E rfl rfl fun a E=>mv E rfl fun a E=>lsq E fun a E=>pt E rfl rfl fun a E=>mv E rfl fun a E=>lsq E fun a E=>pt E rfl rfl fun a E=>mv E rfl fun a E=>?_
  refine lsq E fun a E=>pt E rfl rfl fun a E=>aw E rfl fun a E=>wp_ret ?_
  exact fin hF ⟨ok,E.d,rz E rfl⟩
 refine mv E rfl fun a E=>lw E (qbt rfl rfl) fun a E=>pf E rfl rfl fun a E=>mv E rfl fun a E=>bu E 9 hF (fun c2 hF E=>?_) fun c2 hF E=>?_
 ·refine lsq E fun a E=>pt E rfl rfl fun a E=>mv E rfl fun a E=>lsq E fun a E=>pt E rfl rfl fun a E=>mv E rfl fun a E=>lsq E fun a E=>pt E rfl rfl fun a E=>mv E rfl fun a E=>lsq E fun a E=>pt E rfl rfl fun a E=>av E rfl fun a E=>?_
  refine wn<|wp_ret ?_
  exact fin hF ⟨ok,E.d,rz E rfl⟩
 refine mv E rfl fun a E=>lw E (qbt rfl rfl) fun a E=>pf E rfl rfl fun a E=>mv E rfl fun a E=>bu E 13 hF (fun c3 hF E=>?_) fun c3 hF E=>?_
 ·refine lsq E fun a E=>pt E rfl rfl fun a E=>mv E rfl fun a E=>lsq E fun a E=>pt E rfl rfl fun a E=>mv E rfl fun a E=>lsq E fun a E=>pt E rfl rfl fun a E=>aw E rfl fun a E=>wp_ret ?_
  exact fin hF ⟨ok,E.d,rz E rfl⟩
 refine mv E rfl fun a E=>lw E (qbt rfl rfl) fun a E=>pf E rfl rfl fun a E=>mv E rfl fun a E=>bu E 17 hF (fun c4 hF E=>?_) fun c4 hF E=>?_
 ·refine lsq E fun a E=>pt E rfl rfl fun a E=>mv E rfl fun a E=>lsq E fun a E=>pt E rfl rfl fun a E=>av E rfl fun a E=>wn<|wp_ret ?_
  exact fin hF ⟨ok,E.d,rz E rfl⟩
 refine mv E rfl fun a E=>lw E (qbt rfl rfl) fun a E=>pf E rfl rfl fun a E=>mv E rfl fun a E=>bu E 21 hF (fun c5 hF E=>?_) fun c5 hF E=>?_
 ·refine lsq E fun a E=>pt E rfl rfl fun a E=>aw E rfl fun a E=>wp_ret ?_
  exact fin hF ⟨ok,E.d,rz E rfl⟩
 refine mv E rfl fun a E=>lw E (qbt rfl rfl) fun a E=>pf E rfl rfl fun a E=>aw E rfl fun a E=>wp_ret ?_
 exact fin hF ⟨ok,E.d,rz E rfl⟩
def qg2 (u:World) (m0:Mem) (S:Segs) (r:Bool) (a:Act) (w:World):Prop :=
 Ok u m0 S w ∧ a.defers = [] ∧ RVs Tryz.prog a w [.t 2 (.bool r)]
theorem qg4 (N:Nat) (s_0:List UInt8) (ls_0:s_0.length ≤ LIMS) {r:Bool} (hF:qdP N s_0 = some r) (hG:Glob u) (ok:Ok u m0 S w) :
  Calls Tryz.prog 128 [vs s_0].toArray w fun e w'=>(e = .returned (.bool r) ∧ Ok u m0 S w'):=by
 unfold qdP at hF
 refine en (qg2 u m0 S) r Tryz.func128 rfl rfl rfl (fun _ _ h=>ra h rfl) fun fin a E=>sg<|aw E rfl fun a E=>wp_seq<|sg<|aw E rfl fun a E=>wp_block<|bd hF fun o2 hL hF=>qa9 _ (fun (s:Int) a w=>Ok u m0 (S) w ∧ Env 20 a [(0,vs s_0),(3,vi s)] ∧ InR .i64 s) (fun (b:(Unit ⊕ Bool)) e a w=>(Sum.elim (fun b13=>e = (.exit 0) ∧ Ok u m0 (S) w ∧ Env 20 a []) (fun b14=>e = .ret ∧ qg2 u m0 S b14 a w)) b) ?_ ?_ N _ a w hL ⟨ok,E.keep [0,3],(ir 0)⟩
 rotate_left
 ·intro e a w _ hO
  rcases o2 with o2 | o2
  rotate_left
  ·obtain ⟨rfl,hret⟩:=hO
   refine qaq<|qah ?_
   exact fin hF hret
  have hF:=qbV hF
  obtain ⟨rfl,ok,E⟩:=hO
  refine qbm<|qaa<|sg<|aw E rfl fun a E=>wp_ret ?_
  exact fin hF ⟨ok,E.d,rz E rfl⟩
 rintro v4 a w r ⟨ok,E,r5⟩ hF
 replace hF:qdO N s_0 v4 = some r:=hF
 unfold qdO at hF
 refine wp_seq<|sg<|mz E rfl rfl fun a E=>lw E (qaI Tryz.underlying9 rfl) fun a E=>lw E (qaO rfl rfl) fun a E=>wn<|cg E rfl hF (fun c6 hF=>?_) fun c6 hF=>?_
 ·refine wp_exit<|qaU ?_
  cases hF
  exact so (sl ⟨rfl,⟨ok,E.keep []⟩⟩)
 refine wp_skip<|qaa<|wp_seq<|wp_block<|sg<|mz E rfl rfl fun a E=>bd hF fun c7 e8 hF=>lv E ok (qaH Tryz.underlying9 rfl rfl e8) fun a E=>lw E (qaO rfl rfl) fun a E=>mv E rfl fun a E=>bu E 14 hF (fun c9 hF E=>?_) fun c9 hF E=>?_
 ·refine lsz E fun a E=>pt E rfl rfl fun a E=>wn<|c_if E rfl (fun _=>?_) (fun h=>by cases h)
  refine sg<|aw E rfl fun a E=>wp_ret<|qaq<|qah ?_
  cases hF
  exact so (sr ⟨rfl,⟨ok,E.d,rz E rfl⟩⟩)
 refine mz E rfl rfl fun a E=>bd hF fun c10 e11 hF=>lv E ok (qaH Tryz.underlying9 rfl rfl e11) fun a E=>lw E (qbk rfl rfl) fun a E=>pf E rfl rfl fun a E=>wn<|cg E rfl hF (fun c12 hF=>?_) fun c12 hF=>?_
 ·refine wp_skip<|qaf<|qaa<|qac<|mv E rfl fun a E=>lw E (qaA rfl rfl (InR.inc r5 (InR.len ls_0) c6)) fun a E=>av E rfl fun a E=>wpList_nil ?_
  cases hF
  exact qar ⟨ok,E.keep [0,3],(InR.inc r5 (InR.len ls_0) c6)⟩
 refine sg<|aw E rfl fun a E=>wp_ret<|qaq<|qah ?_
 cases hF
 exact so (sr ⟨rfl,⟨ok,E.d,rz E rfl⟩⟩)
def qhH (u:World) (m0:Mem) (S:Segs) (r:Bool) (a:Act) (w:World):Prop :=
 Ok u m0 S w ∧ a.defers = [] ∧ RVs Tryz.prog a w [.t 2 (.bool r)]
theorem qfj (N:Nat) (s_0:List UInt8) (ls_0:s_0.length ≤ LIMS) {r:Bool} (hF:qdc N s_0 = some r) (hG:Glob u) (ok:Ok u m0 S w) :
  Calls Tryz.prog 129 [vs s_0].toArray w fun e w'=>(e = .returned (.bool r) ∧ Ok u m0 S w'):=by
 unfold qdc at hF
 refine en (qhH u m0 S) r Tryz.func129 rfl rfl rfl (fun _ _ h=>ra h rfl) fun fin a E=>sg<|aw E rfl fun a E=>wp_seq<|sg<|aw E rfl fun a E=>wp_block<|bd hF fun o2 hL hF=>qa9 _ (fun (s:Int) a w=>Ok u m0 (S) w ∧ Env 14 a [(0,vs s_0),(3,vi s)] ∧ InR .i64 s) (fun (b:(Unit ⊕ Bool)) e a w=>(Sum.elim (fun b10=>e = (.exit 0) ∧ Ok u m0 (S) w ∧ Env 14 a []) (fun b11=>e = .ret ∧ qhH u m0 S b11 a w)) b) ?_ ?_ N _ a w hL ⟨ok,E.keep [0,3],(ir 0)⟩
 rotate_left
 ·intro e a w _ hO
  rcases o2 with o2 | o2
  rotate_left
  ·obtain ⟨rfl,hret⟩:=hO
   refine qaq<|qah ?_
   exact fin hF hret
  have hF:=qbV hF
  obtain ⟨rfl,ok,E⟩:=hO
  refine qbm<|qaa<|sg<|aw E rfl fun a E=>wp_ret ?_
  exact fin hF ⟨ok,E.d,rz E rfl⟩
 rintro v4 a w r ⟨ok,E,r5⟩ hF
 replace hF:qea N s_0 v4 = some r:=hF
 unfold qea at hF
 refine wp_seq<|sg<|mz E rfl rfl fun a E=>lw E (qaI Tryz.underlying9 rfl) fun a E=>lw E (qaO rfl rfl) fun a E=>wn<|cg E rfl hF (fun c6 hF=>?_) fun c6 hF=>?_
 ·refine wp_exit<|qaU ?_
  cases hF
  exact so (sl ⟨rfl,⟨ok,E.keep []⟩⟩)
 refine wp_skip<|qaa<|wp_seq<|wp_block<|sg<|mz E rfl rfl fun a E=>bd hF fun c7 e8 hF=>lv E ok (qaH Tryz.underlying9 rfl rfl e8) fun a E=>lw E (qbN rfl rfl) fun a E=>wn<|cg E rfl hF (fun c9 hF=>?_) fun c9 hF=>?_
 ·refine wp_skip<|qaf<|qaa<|qac<|mv E rfl fun a E=>lw E (qaA rfl rfl (InR.inc r5 (InR.len ls_0) c6)) fun a E=>av E rfl fun a E=>wpList_nil ?_
  cases hF
  exact qar ⟨ok,E.keep [0,3],(InR.inc r5 (InR.len ls_0) c6)⟩
 refine sg<|aw E rfl fun a E=>wp_ret<|qaq<|qah ?_
 cases hF
 exact so (sr ⟨rfl,⟨ok,E.d,rz E rfl⟩⟩)
end Go.Proofs.YtllnjbnknjpbjaaGreatDoor
