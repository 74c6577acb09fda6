/- Texts of this proof, put together by pack.py: what its declarations name. -/
import Derived.Test.YtllfckekodcdaaaGreatDoorPkKp4
import Derived.Test.YtllfckekodcdaaaGreatDoorCards
import Derived.Test.YtllfckekodcdaaaGreatDoorChecked
import Derived.Test.YtllfckekodcdaaaGreatDoorProg
import Derived.Test.YtllfckekodcdaaaGreatDoorRows
import Derived.Test.YtllfckekodcdaaaGreatDoorTie
set_option linter.unusedVariables false
set_option linter.unusedSimpArgs false
namespace Go.Proofs.YtllfckekodcdaaaGreatDoor
open Go.X
variable {u:World} {m0:Mem} {S:Segs} {w:World}
set_option maxHeartbeats 4000000
set_option maxRecDepth 100000
theorem qsj:aggB Tryz.prog 105 5 = true:=by kernel_rfl
theorem qhk:qay Tryz.prog 105 2 2 = true:=by kernel_rfl
theorem qis:qay Tryz.prog 105 3 3 = true:=by kernel_rfl
theorem qsu:qay Tryz.prog 29 2 2 = true:=by kernel_rfl
theorem qtI:goB Tryz.prog 54 = true:=by kernel_rfl
theorem qtK:goB Tryz.prog 55 = true:=by kernel_rfl
theorem qtB:goB Tryz.prog 57 = true:=by kernel_rfl
theorem qrn:goB Tryz.prog 58 = true:=by kernel_rfl
theorem qrH:goB Tryz.prog 59 = true:=by kernel_rfl
theorem qma:∃ i,Tryz.prog.info? 105 = some i ∧ i.size = 5:=⟨_,rfl,by kernel_rfl⟩
theorem qit:oneB Tryz.prog 34 = true:=by kernel_rfl
theorem qlJ:qcZ Tryz.prog 105 = some [(0,1),(1,1),(2,1),(3,1),(4,1)]:=by kernel_rfl
theorem qik:qbj Tryz.prog 105 = some [vi 0,vi 0,(vs ([])),(vs ([])),(vs ([]))]:=by kernel_rfl
def qh4 (u:World) (m0:Mem) (S:Segs) (pb0:Nat) (x0:Token) (r:Bool) (a:Act) (w:World):Prop :=
 Ok u m0 ([(pb0,oc 29 [vs x0.Kind,vs x0.Text,vi x0.From])] :: S) w ∧ a.defers = [] ∧ RVs Tryz.prog a w [.t 3 (.bool r)]
theorem qh1 (N:Nat) (vc_0:List Value) (c_0:Call) (hc_0:qdI m0 vc_0 c_0) {pb0:Nat} (x0:Token) (l4:x0.Kind.length ≤ LIMS) (l5:x0.Text.length ≤ LIMS) (r6:InR .i64 x0.From) {r:Bool} (hF:qdp N c_0 x0 = some r) (hG:Glob u) (ok:Ok u m0 ([(pb0,oc 29 [vs x0.Kind,vs x0.Text,vi x0.From])] :: S) w) :
  Calls Tryz.prog 55 [.agg vc_0.toArray,vp pb0].toArray w fun e w'=>(e = .returned (.bool r) ∧ Ok u m0 ([(pb0,oc 29 [vs x0.Kind,vs x0.Text,vi x0.From])] :: S) w'):=by
 obtain ⟨rfl,l1,r2,r3⟩:=hc_0
 unfold qdp at hF
 refine en (qh4 u m0 S pb0 x0) r Tryz.func55 rfl rfl rfl (fun _ _ h=>ra h rfl) fun fin a E=>sg<|qdi E ok rfl rfl rfl fun b7 a w E ok=>aw E rfl fun a E=>sg<|fk E ok qbL qam rfl 1 rfl rfl fun a E=>lw E (qbb rfl rfl) fun a E=>mv E rfl fun a E=>bu E 7 hF (fun c8 hF E=>?_) fun c8 hF E=>?_
 ·refine fk E ok qdw qam rfl 1 rfl rfl fun a E=>fk E ok qji qam rfl 0 rfl rfl fun a E=>lw E (qbb rfl rfl) fun a E=>pt E rfl rfl fun a E=>av E rfl fun a E=>wn<|wp_ret ?_
  exact fin hF ⟨ok.drop,E.d,rz E rfl⟩
 refine lsz E fun a E=>ls E fun a E=>pf E rfl rfl fun a E=>av E rfl fun a E=>wn<|wp_ret ?_
 exact fin hF ⟨ok.drop,E.d,rz E rfl⟩
def qcn (u:World) (m0:Mem) (S:Segs) (pb0:Nat) (x0:Token) (r:Int) (a:Act) (w:World):Prop :=
 Ok u m0 ([(pb0,oc 29 [vs x0.Kind,vs x0.Text,vi x0.From])] :: S) w ∧ a.defers = [] ∧ RVs Tryz.prog a w [.t 4 (.int .i64 r)] ∧ InR .i64 r
theorem qd5 (N:Nat) (vs_0:Value) (s_0:List (Call)) (hs_0:(pL 3 qdI) m0 [vs_0] s_0) {pb0:Nat} (x0:Token) (l1:x0.Kind.length ≤ LIMS) (l2:x0.Text.length ≤ LIMS) (r3:InR .i64 x0.From) {r:Int} (hF:qa9 N s_0 x0 = some r) (hG:Glob u) (ok:Ok u m0 ([(pb0,oc 29 [vs x0.Kind,vs x0.Text,vi x0.From])] :: S) w) :
  Calls Tryz.prog 54 [vs_0,Value.func (.func 55) #[] #[.pointer (some ⟨pb0,0,none⟩)]].toArray w fun e w'=>(e = .returned (.int .i64 r) ∧ Ok u m0 ([(pb0,oc 29 [vs x0.Kind,vs x0.Text,vi x0.From])] :: S) w') ∧ InR .i64 r:=by
 unfold qa9 at hF
 refine en (qcn u m0 S pb0 x0) r Tryz.func54 rfl rfl rfl (fun _ _ h=>rb h rfl) fun fin a E=>sg<|aw E rfl fun a E=>wp_seq<|sg<|mv E rfl fun a E=>lv E ok (qao qfJ hs_0 rfl) fun a E=>mv E rfl fun a E=>wn<|wp_block<|bd hF fun o5 hL hF=>qaC _ (fun (s:Int) a w=>Ok u m0 ([(pb0,oc 29 [vs x0.Kind,vs x0.Text,vi x0.From])] :: S) w ∧ Env 19 a [(0,vs_0),(1,(Value.func (.func 55) #[] #[.pointer (some ⟨pb0,0,none⟩)])),(7,(vi (s_0.length:Int))),(8,vi s)] ∧ InR .i64 s) (fun (b:(Unit ⊕ Int)) e a w=>(Sum.elim (fun b25=>e = (.exit 0) ∧ Ok u m0 ([(pb0,oc 29 [vs x0.Kind,vs x0.Text,vi x0.From])] :: S) w ∧ Env 19 a []) (fun b26=>e = .ret ∧ qcn u m0 S pb0 x0 b26 a w)) b) ?_ ?_ N _ a w hL ⟨ok,E.keep [0,1,7,8],(ir 0)⟩
 rotate_left
 ·intro e a w _ hO
  rcases o5 with o5 | o5
  rotate_left
  ·obtain ⟨rfl,hret⟩:=hO
   refine qah<|qae ?_
   exact fin hF hret
  have hF:=qa1 hF
  obtain ⟨rfl,ok,E⟩:=hO
  refine qaE<|qaa<|sg<|aw E rfl fun a E=>wp_ret ?_
  exact fin hF ⟨ok,E.d,rz E rfl,(ir (-1))⟩
 rintro v7 a w r ⟨ok,E,r8⟩ hF
 replace hF:qaP N s_0 x0 v7 = some r:=hF
 unfold qaP at hF
 refine sg<|lw E (qat rfl rfl) fun a E=>wn<|wp_seq<|cg E rfl hF (fun c9 hF=>?_) fun c9 hF=>?_
 ·refine wp_exit<|qau ?_
  cases hF
  exact so (sl ⟨rfl,⟨ok,E.keep []⟩⟩)
 refine wp_skip<|qaa<|wp_seq<|wp_block<|sg<|mv E rfl fun a E=>av E rfl fun a E=>wn<|sg<|mz E rfl rfl fun a E=>mv E rfl fun a E=>?_
 obtain ⟨x10,e11,hF⟩:=bnd hF
 obtain ⟨b12,o13,es14,hl15,rr16,at17,yy18⟩:=ia E 12 13 qfJ hs_0 e11
 obtain ⟨rfl,l19,r20,r21⟩:=rr16
 refine lv E ok (yy18 _ _) fun a E=>lv E ok (qal (cs:=[vs x10.Name,vi x10.ID,vi x10.Source]) qqs rfl rfl (qac.ro at17)) fun a E=>bd hF fun r22 e23 hF=>qoY E rfl qtK rfl (qh1 N _ x10 ⟨rfl,l19,r20,r21⟩ x0 l1 l2 r3 e23 hG ok) rfl rfl ?_
 rintro _ w ⟨rfl,ok⟩
 refine ⟨_,rfl,fun a E=>?_⟩
 refine wn<|cg E rfl hF (fun c24 hF=>?_) fun c24 hF=>?_
 ·refine wp_skip<|qaj<|qaa<|qad<|lw E (qav rfl rfl (InR.inc r8 (qak hs_0) c9)) fun a E=>mv E rfl fun a E=>wpList_nil ?_
  cases hF
  exact qaq ⟨ok,E.keep [0,1,7,8],(InR.inc r8 (qak hs_0) c9)⟩
 refine sg<|mv E rfl fun a E=>aw E rfl fun a E=>wp_ret<|qah<|qae ?_
 cases hF
 exact so (sr ⟨rfl,⟨ok,E.d,rz E rfl,r8⟩⟩)
theorem qi8 {vl vc:Value} (hl:vl.cells.toList = [vl]) (hc:vc.cells.toList = [vc]) (ok:Ok u m0 S w) :
  Calls Tryz.prog 36 [vl,vc].toArray w fun e w'=>∃ b1 b2,e = .returned (.func (.func 53) #[] #[.pointer (some ⟨b1,0,none⟩),.pointer (some ⟨b2,0,none⟩)]) ∧ Ok u m0 ([(b2,oc 34 [vc])] :: [(b1,oc 26 [vl])] :: S) w':=by
 refine enter Tryz.func36 rfl rfl rfl fun a E=>sg<|qpT (cs:=[vl]) E ok rfl hl rfl rfl fun b1 a w E ok=>qpT (cs:=[vc]) E ok rfl hc rfl rfl fun b2 a w E ok=>aw E rfl fun a E=>sg<|lv E ok (qjp (caps:=[.tmp 2,.tmp 3]) rfl) fun a E=>aw E rfl fun a E=>wp_ret ?_
 exact qbT [.t 4 (.func (.func 53) #[] #[.pointer (some ⟨b1,0,none⟩),.pointer (some ⟨b2,0,none⟩)])] E.d rfl (rz E rfl) ⟨b1,b2,rfl,ok⟩
def KpO (u:World) (m:Mem) (T:Segs) (A B:World):Prop:=Ok u m T A → Ok u m T B
def FOk (nc B:Nat) (x:Found2):Prop:=0 ≤ x.call ∧ x.call < nc ∧ 0 ≤ x.offset ∧ x.offset ≤ B ∧ x.id.length ≤ B + 1000000 ∧ x.source.length ≤ B + 1000000 ∧ x.comment.length ≤ B + 1000000
abbrev Fo (nc B:Nat):={ x:Found2 // FOk nc B x }
def fcs (x:Found2):List Value:=[vi x.call,vi x.offset,vs x.id,vs x.source,vs x.comment]
theorem qpH {u:World} {m0:Mem} {N nc B b1 b2:Nat} {vl_0 vcalls_1:Value} {l_0:List Token} {calls_1:List Call} {rs:List Found2} (hl_0:(pL 3 qbs) m0 [vl_0] l_0) (hcalls_1:(pL 3 qdI) m0 [vcalls_1] calls_1)
  (hF0:qdN N l_0 calls_1 = some rs) (hB:∀ x ∈ rs,FOk nc B x) (hG:Glob u) {w:World} (ok:Ok u m0 [[(b2,oc 34 [vcalls_1])],[(b1,oc 26 [vl_0])]] w) :
  SeqStopsK Fence.wide 2 Tryz.prog 53 #[.pointer (some ⟨b1,0,none⟩),.pointer (some ⟨b2,0,none⟩)] (fun x:Fo nc B=>#[Value.agg (fcs x.1).toArray]) (KpO u m0 [[(b2,oc 34 [vcalls_1])],[(b1,oc 26 [vl_0])]]) (fun ys=>ys.map (·.1) = rs) (fun ys=>∃ zs,ys.map (·.1) ++ zs = rs) rs.length w:=by
 intro ln J Jx W hW hJ hJx hY h0
 have okW:Ok u m0 [[(b2,oc 34 [vcalls_1])],[(b1,oc 26 [vl_0])]] W:=ok.below' hW
 clear hW ok
 refine callsIn_wide.2 ?_
 rw [show (#[Value.func (.yield ln) #[] #[]] ++ #[vp b1,vp b2]:Array Value) = [Value.func (.yield ln) #[] #[],vp b1,vp b2].toArray from by simp]
 have grow:∀ {A C:World} {ys:List (Fo nc B)},J ys A → Go.RowKit.Below A.heap.size A C → J ys C:=fun hA hb=>hJ _ _ _ none hA ⟨hb.os,hb.tape,hb.output,hb.size,fun k hk _=>hb.block k hk⟩ (fun r e=>by cases e)
 refine enter Tryz.func53 rfl rfl rfl fun a E=>sg<|qiN E okW (qai qeV rfl (qac.own 1 rfl rfl)) rfl rfl fun a E=>qiN E okW (qao qcf hl_0 rfl) rfl rfl fun a E=>qiN E okW (qab rfl) rfl rfl fun a E=>wn ?_
 have hlen:=qc1.1 (qak hl_0)
 have E0:Env 126 a [(12,vl_0),(13,(vi (l_0.length:Int))),(14,(vi ((0:Nat):Int))),(0,(Value.func (.yield ln) #[] #[])),(1,vp b1),(2,vp b2)]:=E.keep [12,13,14,0,1,2]
 refine wp_block ?_
 unfold qdN at hF0
 refine qsg (fun n a w=>∃ (i:Nat) (acc:List (Fo nc B)),n = l_0.length - i ∧ i ≤ l_0.length ∧ Env 126 a [(12,vl_0),(13,(vi (l_0.length:Int))),(14,(vi (i:Int))),(0,(Value.func (.yield ln) #[] #[])),(1,vp b1),(2,vp b2)] ∧ Ok u m0 [[(b2,oc 34 [vcalls_1])],[(b1,oc 26 [vl_0])]] w ∧ J acc w ∧ ∃ rest,qgc N l_0 calls_1 (l_0.length - i) i = some rest ∧ acc.map (·.1) ++ rest = rs) ?_ l_0.length _ _ ⟨0,[],rfl,by omega,E0,okW,h0,rs,hF0,rfl⟩
 clear E0 E okW h0 hF0
 rintro n a w ⟨i,acc,rfl,hi,E,okW,hJw,rest,hfo,hrs⟩
 refine sg<|qiN E okW (qat rfl rfl) rfl rfl fun a E=>wn<|wp_seq<|c_if E rfl (fun hc=>?_) (fun hc=>?_)
 rotate_left
 ·refine wp_exit<|qau<|.inr ⟨by nofun,?_⟩
  refine qaE ?_
  have hk6:i = l_0.length:=by have:=of_decide_eq_false hc; omega
  subst hk6
  rw [Nat.sub_self] at hfo
  obtain rfl:=Option.some.inj hfo
  exact qbT (R:=fun e W'=>(∃ v,e = Ending.returned v) ∧ ((∃ xs:List (Fo nc B),xs.map (·.1) = rs ∧ J xs W') ∨ (∃ pre:List (Fo nc B),(∃ zs,pre.map (·.1) ++ zs = rs) ∧ Jx pre W'))) (fn:=Tryz.f53) (P:=Tryz.prog) [] E.d rfl trivial ⟨⟨_,rfl⟩,.inl ⟨acc,by simpa using hrs,hJw⟩⟩
 have hi6:i < l_0.length:=by have:=of_decide_eq_true hc; omega
 rw [show l_0.length - i = (l_0.length - (i + 1)) + 1 by omega,qgc] at hfo
 obtain ⟨r,hF,hfo⟩:=bnd hfo
 obtain ⟨rest',hfo',hrest⟩:=bnd hfo
 obtain rfl:=Option.some.inj hrest
 have E:=E.keep [12,13,14,0,1,2]
 obtain ⟨i_2,hi2⟩:∃ i_2:Int,i_2 = (i:Int):=⟨_,rfl⟩
 rw [← hi2] at hF E
 have ri_2:InR .i64 i_2:=by rw [hi2,qc1]; omega
 refine wp_skip<|qaa<|wp_seq ?_
 obtain ⟨Q',hQ'⟩:∃ Q':Exit → Act → World → Prop,Q' = fun e a w=>(e = .normal ∧ ∃ acc':List (Fo nc B),Env 126 a [(12,vl_0),(13,(vi (l_0.length:Int))),(14,vi i_2),(0,(Value.func (.yield ln) #[] #[])),(1,vp b1),(2,vp b2)] ∧ Ok u m0 [[(b2,oc 34 [vcalls_1])],[(b1,oc 26 [vl_0])]] w ∧ J acc' w ∧ acc'.map (·.1) ++ rest' = rs) ∨ (e = .ret ∧ a.defers = [] ∧ ∃ pre:List (Fo nc B),(∃ zs,pre.map (·.1) ++ zs = rs) ∧ Jx pre w):=⟨_,rfl⟩
 refine qba (Q':=Q') ?_ ?_
 rotate_left
 ·rw [hQ']
  rintro e a w (⟨rfl,acc',E,okW,hJ2,hrs2⟩ | ⟨rfl,hd,hpre⟩)
  ·refine qaa<|qad<|lv E okW (qaw rfl rfl) fun a E=>lv E okW (qab rfl) fun a E=>wpList_nil (.inl ⟨rfl,l_0.length - (i + 1),by omega,i + 1,acc',rfl,by omega,?_,okW,hJ2,rest',hfo',hrs2⟩)
   have hw:IntKind.wrap .i64 (i_2 + 1) = ((i + 1:Nat):Int):=by rw [hi2,qe0 (qc1.2 ⟨by omega,by omega⟩)]; omega
   rw [hw] at E
   exact E.keep [12,13,14,0,1,2]
  ·refine qae<|.inr ⟨by nofun,?_⟩
   refine qah ?_
   exact qbT (R:=fun e W'=>(∃ v,e = Ending.returned v) ∧ ((∃ xs:List (Fo nc B),xs.map (·.1) = rs ∧ J xs W') ∨ (∃ pre:List (Fo nc B),(∃ zs,pre.map (·.1) ++ zs = rs) ∧ Jx pre W'))) (fn:=Tryz.f53) (P:=Tryz.prog) [] hd rfl trivial ⟨⟨_,rfl⟩,.inr hpre⟩
 have belo:=fun {m4:Mem} {w':World} (hle:(hmx w [[(b2,oc 34 [vcalls_1])],[(b1,oc 26 [vl_0])]]).le m4) (ok4:Ok u m4 [[(b2,oc 34 [vcalls_1])],[(b1,oc 26 [vl_0])]] w')=>okW.belowX hle ok4
 have okF:=okW.full
 have hskip:∀ {m4:Mem} {a:Act} {w':World},(hmx w [[(b2,oc 34 [vcalls_1])],[(b1,oc 26 [vl_0])]]).le m4 → Ok u m4 [[(b2,oc 34 [vcalls_1])],[(b1,oc 26 [vl_0])]] w' → Env 126 a [(12,vl_0),(13,(vi (l_0.length:Int))),(14,vi i_2),(0,(Value.func (.yield ln) #[] #[])),(1,vp b1),(2,vp b2)] → r = none → Q' .normal a w':=by
  intro m4 a w' hle ok4 E hr
  rw [hQ']
  exact .inl ⟨rfl,acc,E,okW.below' (belo hle ok4),grow hJw (belo hle ok4),by rw [← hrs,hr]; rfl⟩
 have hyd:∀ {m4:Mem} {X:List (List (Nat × Obj))} {w':World} {x:Found2},(hmx w [[(b2,oc 34 [vcalls_1])],[(b1,oc 26 [vl_0])]]).le m4 → Ok u m4 [[(b2,oc 34 [vcalls_1])],[(b1,oc 26 [vl_0])]] w' → r = some x →
   Ok u m0 [[(b2,oc 34 [vcalls_1])],[(b1,oc 26 [vl_0])]] w' ∧ ∃ y:Fo nc B,y.1 = x ∧ (acc ++ [y]).map (·.1) ++ rest' = rs ∧ YieldAt Fence.wide 1 Tryz.prog ln #[Value.agg (fcs x).toArray] w' fun e W' =>
    (e = .returned (.bool true) ∧ J (acc ++ [y]) W' ∧ KpO u m0 [[(b2,oc 34 [vcalls_1])],[(b1,oc 26 [vl_0])]] w' W') ∨ (e = .returned (.bool false) ∧ Jx (acc ++ [y]) W'):=by
  intro m4 X w' x hle ok4 hr
  rw [hr] at hrs
  have hx:x ∈ rs:=by rw [← hrs]; simp
  have hn:acc.length < rs.length:=by rw [← hrs]; simp
  refine ⟨okW.below' (belo hle ok4),⟨x,hB x hx⟩,rfl,?_,hY acc ⟨x,hB x hx⟩ w' (grow hJw (belo hle ok4)) hn⟩
  rw [← hrs]; simp
 replace hl_0:=(mL qd9).up okW.hmx_le hl_0
 replace hcalls_1:=(mL qbI).up okW.hmx_le hcalls_1
 clear belo grow hJw okW
 obtain ⟨mo,hmo⟩:∃ mo:Mem,mo = m0:=⟨_,rfl⟩
 rw [← hmo] at hyd hQ'
 clear hmo hY hJ hJx
 obtain ⟨S,hS⟩:∃ S:Segs,S = []:=⟨_,rfl⟩
 rw [← hS] at hQ' hskip hyd okF hl_0 hcalls_1
 clear hS m0
 generalize hmx w _ = m0 at *
 have ok:=okF
 clear okF
 have le_m0:=Mem.le.refl m0
 unfold qeA at hF
 refine wp_block<|sg<|mv E rfl fun a E=>?_
 obtain ⟨x12,e13,hF⟩:=bnd hF
 obtain ⟨b14,o15,es16,hl17,rr18,at19,yy20⟩:=ia E 12 14 qcf hl_0 e13
 obtain ⟨rfl,l21,l22,r23⟩:=rr18
 refine lv E ok (yy20 _ _) fun a E=>lv E ok (qal (cs:=[vs x12.Kind,vs x12.Text,vi x12.From]) qe2 rfl rfl (qac.ro at19)) fun a E=>qaB E ok qcP rfl rfl fun b24 a w E ok=>av E rfl fun a E=>qaf E ok 0 rfl rfl rfl qjn rfl rfl ⟨rfl,rfl,rfl,trivial⟩ rfl rfl fun w ok=>wn<|sg<|ld E ok qit 1 rfl rfl rfl fun a E=>lv E ok (qjp (caps:=[.tmp 5]) rfl) fun a E=>bd hF fun r25 e26 hF=>qas E qtI rfl (qd5 N _ calls_1 hcalls_1 x12 l21 l22 r23 e26 hG ok) rfl rfl ?_
 rintro _ w ⟨⟨rfl,ok⟩,r27⟩
 refine ⟨_,rfl,fun a E=>?_⟩
 refine aw E rfl fun a E=>sg<|mv E rfl fun a E=>lw E (qaw rfl rfl) fun a E=>av E rfl fun a E=>wn<|wp_seq<|wp_block<|bd hF fun o29 hL hF=>qaC _ (fun (s:Int) a w=>Ok u m0 ([(b24,oc 29 [vs x12.Kind,vs x12.Text,vi x12.From])] :: [(b2,oc 34 [vcalls_1])] :: [(b1,oc 26 [vl_0])] :: S) w ∧ Env 126 a [(4,vi i_2),(5,vp b24),(6,vi r25),(7,vi s),(12,vl_0),(13,(vi (l_0.length:Int))),(14,vi i_2),(0,(Value.func (.yield ln) #[] #[])),(1,vp b1),(2,vp b2)] ∧ InR .i64 s) (fun (b:Int) e a w=>e = (.exit 2) ∧ Ok u m0 ([(b24,oc 29 [vs x12.Kind,vs x12.Text,vi x12.From])] :: [(b2,oc 34 [vcalls_1])] :: [(b1,oc 26 [vl_0])] :: S) w ∧ Env 126 a [(4,vi i_2),(5,vp b24),(6,vi r25),(7,vi b),(12,vl_0),(13,(vi (l_0.length:Int))),(14,vi i_2),(0,(Value.func (.yield ln) #[] #[])),(1,vp b1),(2,vp b2)] ∧ InR .i64 b) ?_ ?_ N _ a w hL ⟨ok,E.keep [4,5,6,7,12,13,14,0,1,2],(InR.wrap _ _)⟩
 ·rintro v31 a w r ⟨ok,E,r32⟩ hF
  replace hF:qcT N l_0 v31 = some r:=hF
  unfold qcT at hF
  refine wp_seq<|sg<|mv E rfl fun a E=>ld E ok qeV 2 rfl rfl rfl fun a E=>lv E ok (qao qcf hl_0 rfl) fun a E=>lw E (qat rfl rfl) fun a E=>mv E rfl fun a E=>bw E 28 hF (fun c33 hF E=>?_) fun c33 hF E=>?_
  ·refine lsz E fun a E=>ls E fun a E=>pf E rfl rfl fun a E=>wn<|c_if E rfl (fun h=>by cases h) (fun _=>?_)
   refine wp_exit<|qau ?_
   cases hF
   exact so (⟨rfl,⟨ok,E.keep [4,5,6,7,12,13,14,0,1,2],r32⟩⟩)
  refine ld E ok qeV 2 rfl rfl rfl fun a E=>mv E rfl fun a E=>?_
  obtain ⟨x34,e35,hF⟩:=bnd hF
  obtain ⟨b36,o37,es38,hl39,rr40,at41,yy42⟩:=ia E 29 30 qcf hl_0 e35
  obtain ⟨rfl,l43,l44,r45⟩:=rr40
  refine lv E ok (yy42 _ _) fun a E=>lv E ok (qal (cs:=[vs x34.Kind,vs x34.Text,vi x34.From]) qe2 rfl rfl (qac.ro at41)) fun a E=>bd hF fun r46 e47 hF=>lc E qpo rfl (qg8 N _ x34 ⟨rfl,l43,l44,r45⟩ e47 hG ok) fun w ok a E=>pt E rfl rfl fun a E=>wn<|cg E rfl hF (fun c48 hF=>?_) fun c48 hF=>?_
  ·refine wp_exit<|qau ?_
   cases hF
   exact so (⟨rfl,⟨ok,E.keep [4,5,6,7,12,13,14,0,1,2],r32⟩⟩)
  refine wp_skip<|qaa<|wp_block<|qad<|mv E rfl fun a E=>lw E (qav rfl rfl (InR.inc r32 (qak hl_0) c33)) fun a E=>av E rfl fun a E=>wpList_nil<|qaj ?_
  cases hF
  exact qaq ⟨ok,E.keep [4,5,6,7,12,13,14,0,1,2],(InR.inc r32 (qak hl_0) c33)⟩
 intro e a w _ hO
 obtain ⟨rfl,ok,E,r49⟩:=hO
 refine qaE<|qaa<|wp_seq<|sg<|mv E rfl fun a E=>lw E (qat rfl rfl) fun a E=>mv E rfl fun a E=>bu E 39 hF (fun c50 hF E=>?_) fun c50 hF E=>?_
 ·refine lsz E fun a E=>pt E rfl rfl fun a E=>mv E rfl fun a E=>lsz E fun a E=>lsq E fun a E=>pt E rfl rfl fun a E=>wn<|c_if E rfl (fun _=>?_) (fun h=>by cases h)
  refine wp_exit<|qau<|qaE ?_
  exact hskip le_m0 (ok.pk 3 [1,2] rfl (by decide)) (E.keep [12,13,14,0,1,2]) (sj hF).symm
 refine mv E rfl fun a E=>ld E ok qeV 2 rfl rfl rfl fun a E=>lv E ok (qao qcf hl_0 rfl) fun a E=>lw E (qa3 rfl rfl) fun a E=>pf E rfl rfl fun a E=>mv E rfl fun a E=>bu E 45 hF (fun c51 hF E=>?_) fun c51 hF E=>?_
 ·refine lsz E fun a E=>lsq E fun a E=>pt E rfl rfl fun a E=>wn<|c_if E rfl (fun _=>?_) (fun h=>by cases h)
  refine wp_exit<|qau<|qaE ?_
  exact hskip le_m0 (ok.pk 3 [1,2] rfl (by decide)) (E.keep [12,13,14,0,1,2]) (sj hF).symm
 refine ld E ok qeV 2 rfl rfl rfl fun a E=>mv E rfl fun a E=>?_
 obtain ⟨x52,e53,hF⟩:=bnd hF
 obtain ⟨b54,o55,es56,hl57,rr58,at59,yy60⟩:=ia E 46 47 qcf hl_0 e53
 obtain ⟨rfl,l61,l62,r63⟩:=rr58
 refine lv E ok (yy60 _ _) fun a E=>fv E qbL rfl fun a E=>lv E ok (qai qam rfl (qac.ro (At.sub 0 1 at59))) fun a E=>lw E (qbZ rfl rfl) fun a E=>pf E rfl rfl fun a E=>wn<|cf E rfl hF (fun c64 hF=>?_) fun c64 hF=>?_
 ·refine wp_exit<|qau<|qaE ?_
  exact hskip le_m0 (ok.pk 3 [1,2] rfl (by decide)) (E.keep [12,13,14,0,1,2]) (sj hF).symm
 refine wp_skip<|qaa<|sg<|ld E ok qeV 2 rfl rfl rfl fun a E=>mv E rfl fun a E=>bd hF fun r65 e66 hF=>qas E qtB rfl (qjR N _ l_0 hl_0 o29 r49 e66 hG ok) rfl rfl ?_
 rintro _ w ⟨m67,c68,rfl,hle,ok,h69⟩
 have le_m0:=le_m0.trans hle
 have hl_0:=(mL qd9).up hle hl_0
 have hcalls_1:=(mL qbI).up hle hcalls_1
 have at19:=At.up hle at19
 have at59:=At.up hle at59
 refine ⟨_,rfl,fun a E=>?_⟩
 refine aw E rfl fun a E=>wp_seq<|bd hF fun o70 hJ hF=>qba (Q':=fun e a w=>e = .normal ∧ ∃ b76,Ok u m67 ([(b76,oc 105 [vi o70.call,vi o70.offset,vs o70.id,vs o70.source,vs o70.comment])] :: [(b24,oc 29 [vs x12.Kind,vs x12.Text,vi x12.From])] :: [(b2,oc 34 [vcalls_1])] :: [(b1,oc 26 [vl_0])] :: S) w ∧ Env 126 a [(6,vi r25),(8,c68),(9,vp b76),(12,vl_0),(13,(vi (l_0.length:Int))),(14,vi i_2),(0,(Value.func (.yield ln) #[] #[])),(1,vp b1),(2,vp b2)] ∧ InR .i64 o70.call ∧ InR .i64 o70.offset ∧ o70.id.length ≤ LIMS ∧ o70.source.length ≤ LIMS ∧ o70.comment.length ≤ LIMS) ?_ ?_
 ·have hF:=hJ
  obtain ⟨r77,e78,hF⟩:=bnd hF
  obtain rfl:=sj hF
  refine qbY [] (Cls u m67 ([(b24,oc 29 [vs x12.Kind,vs x12.Text,vi x12.From])] :: [(b2,oc 34 [vcalls_1])] :: [(b1,oc 26 [vl_0])] :: [])) (Cls u m67 ([(b24,oc 29 [vs x12.Kind,vs x12.Text,vi x12.From])] :: [(b2,oc 34 [vcalls_1])] :: [(b1,oc 26 [vl_0])] :: [])) (by kernel_rfl) ?_
  intro w hw
  replace ok:=qb9 ok hw
  clear hw
  have le_m67:=Mem.le.refl m67
  refine qar (cl1 (cq le_m67 ok [0,1,2] rfl) (cq le_m67 ok [0,1,2] rfl)) fun hT=>kt 0 E rfl hT (qab rfl) fun a E=>kt 1 E rfl hT (qag qsu rfl) fun a E=>kt 2 E rfl hT (qai qaQ rfl (qac.cown 0 rfl rfl)) fun a E=>kt 3 E rfl hT (qai qeV rfl (qac.cown 2 rfl rfl)) fun a E=>kt 4 E rfl hT (qab rfl) fun a E=>qaL [5,7] (by kernel_rfl) rfl (qjL ?_ (qjL ?_ (qnd)))
  ·refine wo rfl<|qas E qrn rfl (qhX N _ l_0 hl_0 i_2 ri_2 e78 hG ok) rfl rfl ?_
   rintro _ w ⟨⟨rfl,ok⟩,l81⟩
   refine ⟨_,rfl,fun a E=>?_⟩
   refine wn<|qar (cl1 (cq le_m67 ok [0,1,2] rfl) (cq le_m67 ok [0,1,2] rfl)) fun hT=>kt 6 E rfl hT (qaT (ps:=[(0,.tmp 56),(1,.tmp 58),(4,.tmp 61)]) (qs:=[(0,[vi r25]),(1,[vi x12.From]),(4,[vs r77])]) (cs:=[vi r25,vi x12.From,(vs ([])),(vs ([])),vs r77]) qik qlJ rfl ⟨rfl,rfl,rfl,⟨rfl,rfl,rfl,⟨rfl,rfl,rfl,trivial⟩⟩⟩ rfl) fun a E=>qaL [7] (by kernel_rfl) rfl (qaM ?_)
   ·refine wo rfl<|qaB E ok qik rfl rfl fun b82 a w E ok=>wn<|qar (cl1 (cq le_m67 ok [1,2,3] rfl) (cq le_m67 ok [1,2,3] rfl)) fun hT=>qaL [8] (by kernel_rfl) rfl (qaM ?_)
    ·refine wo rfl<|qaf E ok 0 rfl rfl rfl qma rfl rfl ⟨rfl,rfl,rfl,rfl,rfl,trivial⟩ rfl rfl fun w ok=>wn<|qar (cl1 (cq le_m67 ok [1,2,3] rfl) (cq le_m67 ok [1,2,3] rfl)) fun hT=>qbU (by kernel_rfl) ?_
     exact ⟨rfl,⟨b82,ok,E.keep [6,8,9,12,13,14,0,1,2],r27,r23,(Nat.zero_le _),(Nat.zero_le _),l81⟩⟩
  refine wo rfl<|qaB E ok qik rfl rfl fun b83 a w E ok=>wn<|qar (cl1 (cq le_m67 ok [1,2,3] rfl) (cq le_m67 ok [1,2,3] rfl)) fun hT=>qaL [5] (by kernel_rfl) rfl (qaM ?_)
  ·refine wo rfl<|qas E qrn rfl (qhX N _ l_0 hl_0 i_2 ri_2 e78 hG ok) rfl rfl ?_
   rintro _ w ⟨⟨rfl,ok⟩,l84⟩
   refine ⟨_,rfl,fun a E=>?_⟩
   refine wn<|qar (cl1 (cq le_m67 ok [1,2,3] rfl) (cq le_m67 ok [1,2,3] rfl)) fun hT=>kt 6 E rfl hT (qaT (ps:=[(0,.tmp 56),(1,.tmp 58),(4,.tmp 61)]) (qs:=[(0,[vi r25]),(1,[vi x12.From]),(4,[vs r77])]) (cs:=[vi r25,vi x12.From,(vs ([])),(vs ([])),vs r77]) qik qlJ rfl ⟨rfl,rfl,rfl,⟨rfl,rfl,rfl,⟨rfl,rfl,rfl,trivial⟩⟩⟩ rfl) fun a E=>qaL [8] (by kernel_rfl) rfl (qaM ?_)
   ·refine wo rfl<|qaf E ok 0 rfl rfl rfl qma rfl rfl ⟨rfl,rfl,rfl,rfl,rfl,trivial⟩ rfl rfl fun w ok=>wn<|qar (cl1 (cq le_m67 ok [1,2,3] rfl) (cq le_m67 ok [1,2,3] rfl)) fun hT=>qbU (by kernel_rfl) ?_
    exact ⟨rfl,⟨b83,ok,E.keep [6,8,9,12,13,14,0,1,2],r27,r23,(Nat.zero_le _),(Nat.zero_le _),l84⟩⟩
 intro e a w hO
 obtain ⟨rfl,b90,ok,E,r85,r86,l87,l88,l89⟩:=hO
 refine qaa<|sg<|av E rfl fun a E=>aw E rfl fun a E=>wp_seq<|sg<|ld E ok qit 2 rfl rfl rfl fun a E=>mv E rfl fun a E=>?_
 obtain ⟨x91,e92,hF⟩:=bnd hF
 obtain ⟨b93,o94,es95,hl96,rr97,at98,yy99⟩:=ia E 63 64 qfJ hcalls_1 e92
 obtain ⟨rfl,l100,r101,r102⟩:=rr97
 refine lv E ok (yy99 _ _) fun a E=>fv E qh7 rfl fun a E=>lv E ok (qai qaQ rfl (qac.ro (At.sub 1 1 at98))) fun a E=>lw E (qaZ rfl rfl) fun a E=>wn<|bd hF fun o103 hJ hF=>qba (Q':=fun e a w=>e = .normal ∧ Ok u m67 ([(b90,oc 105 [vi o103.2.call,vi o103.2.offset,vs o103.2.id,vs o103.2.source,vs o103.2.comment])] :: [(b24,oc 29 [vs x12.Kind,vs x12.Text,vi x12.From])] :: [(b2,oc 34 [vcalls_1])] :: [(b1,oc 26 [vl_0])] :: S) w ∧ Env 126 a [(6,vi r25),(8,c68),(9,vp b90),(10,vb o103.1),(11,vb true),(12,vl_0),(13,(vi (l_0.length:Int))),(14,vi i_2),(0,(Value.func (.yield ln) #[] #[])),(1,vp b1),(2,vp b2)] ∧ InR .i64 o103.2.call ∧ InR .i64 o103.2.offset ∧ o103.2.id.length ≤ LIMS ∧ o103.2.source.length ≤ LIMS ∧ o103.2.comment.length ≤ LIMS) ?_ ?_
 ·have hF:=hJ
  refine cg E rfl hF (fun c109 hF=>?_) fun c109 hF=>?_
  ·refine wp_skip ?_
   cases hF
   exact ⟨rfl,⟨ok,E.keep [6,8,9,10,11,12,13,14,0,1,2],r85,r86,l87,l88,l89⟩⟩
  refine qad<|mv E rfl fun a E=>ld E ok qit 2 rfl rfl rfl fun a E=>mv E rfl fun a E=>?_
  obtain ⟨x110,e111,hF⟩:=bnd hF
  obtain ⟨b112,o113,es114,hl115,rr116,at117,yy118⟩:=ia E 71 72 qfJ hcalls_1 e111
  obtain ⟨rfl,l119,r120,r121⟩:=rr116
  refine lv E ok (yy118 _ _) fun a E=>fv E qh7 rfl fun a E=>lv E ok (qai qaQ rfl (qac.ro (At.sub 1 1 at117))) fun a E=>bd hF fun r122 e123 hF=>qas E qrH rfl (qiB N _ r65 h69 x110.ID r120 e123 hG ok) rfl rfl ?_
  rintro _ w ⟨⟨rfl,ok⟩,l124⟩
  refine ⟨_,rfl,fun a E=>?_⟩
  refine mv E rfl fun a E=>lw E (qan rfl rfl) fun a E=>lw E (qan rfl rfl) fun a E=>fv E qhk rfl fun a E=>qaf E ok 0 rfl rfl rfl qfI rfl rfl ⟨rfl,trivial⟩ rfl rfl fun w ok=>av E rfl fun a E=>wpList_nil ?_
  cases hF
  exact ⟨rfl,⟨ok,E.keep [6,8,9,10,11,12,13,14,0,1,2],r85,r86,l124,l88,l89⟩⟩
 intro e a w hO
 obtain ⟨rfl,ok,E,r125,r126,l127,l128,l129⟩:=hO
 refine qaa<|wp_seq<|sg<|ld E ok qit 2 rfl rfl rfl fun a E=>mv E rfl fun a E=>?_
 obtain ⟨x130,e131,hF⟩:=bnd hF
 obtain ⟨b132,o133,es134,hl135,rr136,at137,yy138⟩:=ia E 80 81 qfJ hcalls_1 e131
 obtain ⟨rfl,l139,r140,r141⟩:=rr136
 refine lv E ok (yy138 _ _) fun a E=>fv E qia rfl fun a E=>lv E ok (qai qaQ rfl (qac.ro (At.sub 2 1 at137))) fun a E=>lw E (qaZ rfl rfl) fun a E=>wn<|bd hF fun o142 hJ hF=>qba (Q':=fun e a w=>e = .normal ∧ Ok u m67 ([(b90,oc 105 [vi o142.2.call,vi o142.2.offset,vs o142.2.id,vs o142.2.source,vs o142.2.comment])] :: [(b24,oc 29 [vs x12.Kind,vs x12.Text,vi x12.From])] :: [(b2,oc 34 [vcalls_1])] :: [(b1,oc 26 [vl_0])] :: S) w ∧ Env 126 a [(6,vi r25),(9,vp b90),(10,vb o103.1),(11,vb o142.1),(12,vl_0),(13,(vi (l_0.length:Int))),(14,vi i_2),(0,(Value.func (.yield ln) #[] #[])),(1,vp b1),(2,vp b2)] ∧ InR .i64 o142.2.call ∧ InR .i64 o142.2.offset ∧ o142.2.id.length ≤ LIMS ∧ o142.2.source.length ≤ LIMS ∧ o142.2.comment.length ≤ LIMS) ?_ ?_
 ·have hF:=hJ
  refine cg E rfl hF (fun c148 hF=>?_) fun c148 hF=>?_
  ·refine wp_skip ?_
   cases hF
   exact ⟨rfl,⟨ok,E.keep [6,9,10,11,12,13,14,0,1,2],r125,r126,l127,l128,l129⟩⟩
  refine qad<|mv E rfl fun a E=>ld E ok qit 2 rfl rfl rfl fun a E=>mv E rfl fun a E=>?_
  obtain ⟨x149,e150,hF⟩:=bnd hF
  obtain ⟨b151,o152,es153,hl154,rr155,at156,yy157⟩:=ia E 88 89 qfJ hcalls_1 e150
  obtain ⟨rfl,l158,r159,r160⟩:=rr155
  refine lv E ok (yy157 _ _) fun a E=>fv E qia rfl fun a E=>lv E ok (qai qaQ rfl (qac.ro (At.sub 2 1 at156))) fun a E=>bd hF fun r161 e162 hF=>qas E qrH rfl (qiB N _ r65 h69 x149.Source r160 e162 hG ok) rfl rfl ?_
  rintro _ w ⟨⟨rfl,ok⟩,l163⟩
  refine ⟨_,rfl,fun a E=>?_⟩
  refine mv E rfl fun a E=>lw E (qan rfl rfl) fun a E=>lw E (qan rfl rfl) fun a E=>fv E qis rfl fun a E=>qaf E ok 0 rfl rfl rfl qfI rfl rfl ⟨rfl,trivial⟩ rfl rfl fun w ok=>av E rfl fun a E=>wpList_nil ?_
  cases hF
  exact ⟨rfl,⟨ok,E.keep [6,9,10,11,12,13,14,0,1,2],r125,r126,l127,l163,l129⟩⟩
 intro e a w hO
 obtain ⟨rfl,ok,E,r164,r165,l166,l167,l168⟩:=hO
 refine qaa<|wp_seq<|sg<|mv E rfl fun a E=>lw E (qbl rfl) fun a E=>mv E rfl fun a E=>bu E 99 hF (fun c169 hF E=>?_) fun c169 hF E=>?_
 ·refine lsq E fun a E=>pt E rfl rfl fun a E=>wn<|c_if E rfl (fun _=>?_) (fun h=>by cases h)
  refine wp_exit<|qau<|qaE ?_
  exact hskip le_m0 (ok.pk 4 [2,3] rfl (by decide)) (E.keep [12,13,14,0,1,2]) (sj hF).symm
 refine mv E rfl fun a E=>lw E (qbl rfl) fun a E=>pf E rfl rfl fun a E=>wn<|cf E rfl hF (fun c170 hF=>?_) fun c170 hF=>?_
 ·refine wp_exit<|qau<|qaE ?_
  exact hskip le_m0 (ok.pk 4 [2,3] rfl (by decide)) (E.keep [12,13,14,0,1,2]) (sj hF).symm
 refine wp_skip<|qaa<|wp_seq<|sg<|ld E ok qit 2 rfl rfl rfl fun a E=>mv E rfl fun a E=>?_
 obtain ⟨x171,e172,hF⟩:=bnd hF
 obtain ⟨b173,o174,es175,hl176,rr177,at178,yy179⟩:=ia E 103 104 qfJ hcalls_1 e172
 obtain ⟨rfl,l180,r181,r182⟩:=rr177
 refine lv E ok (yy179 _ _) fun a E=>fv E qh7 rfl fun a E=>lv E ok (qai qaQ rfl (qac.ro (At.sub 1 1 at178))) fun a E=>lw E (qat rfl rfl) fun a E=>wn<|bd hF fun o183 hJ hF=>qba (Q':=fun e a w=>e = .normal ∧ Ok u m67 ([(b90,oc 105 [vi o183.call,vi o183.offset,vs o183.id,vs o183.source,vs o183.comment])] :: [(b24,oc 29 [vs x12.Kind,vs x12.Text,vi x12.From])] :: [(b2,oc 34 [vcalls_1])] :: [(b1,oc 26 [vl_0])] :: S) w ∧ Env 126 a [(6,vi r25),(9,vp b90),(12,vl_0),(13,(vi (l_0.length:Int))),(14,vi i_2),(0,(Value.func (.yield ln) #[] #[])),(1,vp b1),(2,vp b2)] ∧ InR .i64 o183.call ∧ InR .i64 o183.offset ∧ o183.id.length ≤ LIMS ∧ o183.source.length ≤ LIMS ∧ o183.comment.length ≤ LIMS) ?_ ?_
 ·have hF:=hJ
  refine cg E rfl hF (fun c189 hF=>?_) fun c189 hF=>?_
  ·refine wp_skip ?_
   cases hF
   exact ⟨rfl,⟨ok,E.keep [6,9,12,13,14,0,1,2],r164,r165,l166,l167,l168⟩⟩
  refine qad<|fk E ok qis qam rfl 0 rfl rfl fun a E=>fv E qhk rfl fun a E=>qaf E ok 0 rfl rfl rfl qfI rfl rfl ⟨rfl,trivial⟩ rfl rfl fun w ok=>wpList_nil ?_
  cases hF
  exact ⟨rfl,⟨ok,E.keep [6,9,12,13,14,0,1,2],r164,r165,l167,l167,l168⟩⟩
 intro e a w hO
 obtain ⟨rfl,ok,E,r190,r191,l192,l193,l194⟩:=hO
 refine qaa<|wp_seq<|sg<|ld E ok qit 2 rfl rfl rfl fun a E=>mv E rfl fun a E=>?_
 obtain ⟨x195,e196,hF⟩:=bnd hF
 obtain ⟨b197,o198,es199,hl200,rr201,at202,yy203⟩:=ia E 112 113 qfJ hcalls_1 e196
 obtain ⟨rfl,l204,r205,r206⟩:=rr201
 refine lv E ok (yy203 _ _) fun a E=>fv E qia rfl fun a E=>lv E ok (qai qaQ rfl (qac.ro (At.sub 2 1 at202))) fun a E=>lw E (qat rfl rfl) fun a E=>wn<|bd hF fun o207 hJ hF=>qba (Q':=fun e a w=>e = .normal ∧ Ok u m67 ([(b90,oc 105 [vi o207.call,vi o207.offset,vs o207.id,vs o207.source,vs o207.comment])] :: [(b24,oc 29 [vs x12.Kind,vs x12.Text,vi x12.From])] :: [(b2,oc 34 [vcalls_1])] :: [(b1,oc 26 [vl_0])] :: S) w ∧ Env 126 a [(9,vp b90),(12,vl_0),(13,(vi (l_0.length:Int))),(14,vi i_2),(0,(Value.func (.yield ln) #[] #[])),(1,vp b1),(2,vp b2)] ∧ InR .i64 o207.call ∧ InR .i64 o207.offset ∧ o207.id.length ≤ LIMS ∧ o207.source.length ≤ LIMS ∧ o207.comment.length ≤ LIMS) ?_ ?_
 ·have hF:=hJ
  refine cg E rfl hF (fun c213 hF=>?_) fun c213 hF=>?_
  ·refine wp_skip ?_
   cases hF
   exact ⟨rfl,⟨ok,E.keep [9,12,13,14,0,1,2],r190,r191,l192,l193,l194⟩⟩
  refine qad<|fk E ok qhk qam rfl 0 rfl rfl fun a E=>fv E qis rfl fun a E=>qaf E ok 0 rfl rfl rfl qfI rfl rfl ⟨rfl,trivial⟩ rfl rfl fun w ok=>wpList_nil ?_
  cases hF
  exact ⟨rfl,⟨ok,E.keep [9,12,13,14,0,1,2],r190,r191,l192,l192,l194⟩⟩
 intro e a w hO
 obtain ⟨rfl,ok,E,r214,r215,l216,l217,l218⟩:=hO
 refine qaa<|wp_seq ?_
 cases hF
 obtain ⟨okW,y,hyv,hrs2,hy⟩:=hyd (X:=[]) le_m0 (ok.pk 4 [2,3] rfl (by decide)) rfl
 refine (wpIn_wide (n:=2)).1 (wpIn_region_lit ?_)
 refine ql2 (by intro c h; cases h) fun K hK=>mv E rfl fun a E=>wn_ hK<|ql2 (by intro c h; cases h) fun K hK=>lv E ok (qal (cs:=fcs o207) qsj rfl rfl (qac.own 0 rfl rfl)) fun a E=>wn_ hK<|qsm E rfl rfl hy rfl rfl ?_
 rintro e w3 (⟨rfl,hJ3,hK3⟩ | ⟨rfl,hJ3⟩)
 ·refine ⟨_,rfl,fun a E=>?_⟩
  have ok3:=hK3 okW
  refine ql2 (by intro c h; cases h) fun K hK=>lv E ok3 (qbl rfl) fun a E=>wn_ hK<|wpListIn_nil (qaa ?_)
  refine c_if E rfl (fun h=>by cases h) (fun _=>?_)
  refine wp_skip<|qaj ?_
  rw [hQ']
  exact .inl ⟨rfl,acc ++ [y],E.keep [12,13,14,0,1,2],ok3,hJ3,hrs2⟩
 ·refine ⟨_,rfl,fun a E=>?_⟩
  refine ql2 (by intro c h; cases h) fun K hK=>lw E (qbl rfl) fun a E=>wn_ hK<|wpListIn_nil (qaa ?_)
  refine c_if E rfl (fun _=>?_) (fun h=>by cases h)
  refine wp_ret<|qah ?_
  rw [hQ']
  exact .inr ⟨rfl,E.d,acc ++ [y],⟨rest',hrs2⟩,hJ3⟩
theorem qj4 {σ ρ:Type} (f:σ → Found2 → Option (σ ⊕ ρ)):∀ (xs:List Found2) (x:Found2) (s s':σ),runF f xs s = some (.inl s') → runF f (xs ++ [x]) s = (f s' x).bind fun o=>Sum.elim (fun s'=>some (.inl s')) (fun r=>some (.inr r)) o
 | [],x,s,s',h=>by
  obtain rfl:=Sum.inl.inj (Option.some.inj h)
  rfl
 | y :: xs,x,s,s',h=>by
  rw [List.cons_append,runF]
  rw [runF] at h
  cases hf:f s y with
  | none=>rw [hf] at h; cases h
  | some o =>
   rw [hf] at h
   cases o with
   | inl s1=>exact qj4 f xs x s1 s' h
   | inr r=>cases h
theorem qnq {σ ρ:Type} (f:σ → Found2 → Option (σ ⊕ ρ)):∀ (xs ys:List Found2) (s:σ) (r:ρ),runF f xs s = some (.inr r) → runF f (xs ++ ys) s = some (.inr r)
 | [],ys,s,r,h=>by cases h
 | y :: xs,ys,s,r,h=>by
  rw [List.cons_append,runF]
  rw [runF] at h
  cases hf:f s y with
  | none=>rw [hf] at h; cases h
  | some o =>
   rw [hf] at h
   cases o with
   | inl s1=>exact qnq f xs ys s1 r h
   | inr r1=>exact h
theorem qpF {ds:List Deferred} {u:World} {m:Mem} {S0:Segs} {w:World} {a:Act} {L:List (Nat × Value)} {nt N nc B bl bc:Nat} {vl vc:Value} {l:List Token} {calls:List Call} {rs:List Found2} {σ ρ:Type} {Q:Exit → Act → World → Prop}
  {g:Operand} {p t id:Nat} {body:Code} {ty1 ty2:TypeId} {pos1 pos2:String} {af1 af2:Array Edge} (E:Env nt a L) (hX:ev L g = some (.func (.func 53) #[] #[.pointer (some ⟨bl,0,none⟩),.pointer (some ⟨bc,0,none⟩)])) (hp:Nat.blt p nt = true) (ht:Nat.blt t nt = true) (hlt:∀ v v':Value,ev ((t,v) :: (p,v') :: L) (.tmp t) = some v) (hlp:∀ v v':Value,ev ((t,v) :: (p,v') :: L) (.tmp p) = some v')
  (ok:Ok u m ([(bc,oc 34 [vc])] :: [(bl,oc 26 [vl])] :: S0) w) (hl:(pL 3 qbs) m [vl] l) (hc:(pL 3 qdI) m [vc] calls) (hF:qdN N l calls = some rs) (hB:∀ x ∈ rs,FOk nc B x) (hG:Glob u)
  (Rep:Nat → σ → Segs → Prop) (RepX:ρ → Segs → Prop) (f:σ → Found2 → Option (σ ⊕ ρ)) (s0:σ) (h0:Rep 0 s0 S0)
  (hcl:∀ j s T,Rep j s T → ∀ q ∈ T.flatten,q.1 < w.heap.size ∨ q.2.isCells = true) (hclx:∀ r T,RepX r T → ∀ q ∈ T.flatten,q.1 < w.heap.size ∨ q.2.isCells = true)
  (hround:∀ (k j:Nat) (s:σ) (T:Segs) (x:Found2) (bx:Nat) (m':Mem) (a':Act) (W:World) (Q':Exit → Act → World → Prop),Rep j s T → j < rs.length → FOk nc B x → m.le m' →
   Ok u m' ([(bx,Obj.cells (fcs x).toArray 105 (0,0))] :: [(bc,oc 34 [vc])] :: [(bl,oc 26 [vl])] :: T) W → Env nt a' ((t,.pointer (some ⟨bx,0,none⟩)) :: (p,.agg (fcs x).toArray) :: L) →
   (∀ s' T' m'' a'' W',f s x = some (.inl s') → Rep (j + 1) s' T' → m'.le m'' → Ok u m'' ([(bc,oc 34 [vc])] :: [(bl,oc 26 [vl])] :: T') W' → Q' .normal a'' W') →
   (∀ r T' m'' a'' W',f s x = some (.inr r) → RepX r T' → m'.le m'' → Ok u m'' ([(bc,oc 34 [vc])] :: [(bl,oc 26 [vl])] :: T') W' → Q' .ret a'' W') →
   body.wpIn (rf_ k) 1 Tryz.prog Q' a' W)
  (hdone:∀ D s T W,Rep rs.length s T → runF f rs s0 = some (.inl s) → Ok u m ([(bc,oc 34 [vc])] :: [(bl,oc 26 [vl])] :: T) W → w.heap.size ≤ D → W.heap[D]? = some (.deferred (some [])) → Q .normal { a with defers:={ target:=.collected D,args:=#[] } :: ds } W)
  (hstop:∀ D r T W,RepX r T → runF f rs s0 = some (.inr r) → Ok u m ([(bc,oc 34 [vc])] :: [(bl,oc 26 [vl])] :: T) W → w.heap.size ≤ D → W.heap[D]? = some (.deferred (some [])) → Q .ret { a with defers:={ target:=.collected D,args:=#[] } :: ds } W) :
  (Code.rangeFunc g #[p] (Code.region id [⟨some t,.alloc 105,ty1,pos1,af1,none⟩,⟨none,.store 105 (.tmp t) (.tmp p),ty2,pos2,af2,none⟩].toArray false) body).wpIn Fence.wide 3 Tryz.prog Q { a with defers:=ds } w:=by
 have hmlt:∀ b o,m b = some o → b < w.heap.size:=fun b o h=>ok.m_lt h
 have T0lt:∀ q ∈ ([(bc,oc 34 [vc])] ++ [(bl,oc 26 [vl])]:List (Nat × Obj)),q.2.isCells = true:=fun q hq=>by
  rcases List.mem_append.1 hq with hq | hq <;> obtain rfl:=List.mem_singleton.1 hq <;> rfl
 have own:∀ {T:Segs} {X:List (Nat × Obj)},(∀ q ∈ X,q.2.isCells = true) → (∀ q ∈ T.flatten,q.1 < w.heap.size ∨ q.2.isCells = true) → ∀ q ∈ (X :: [(bc,oc 34 [vc])] :: [(bl,oc 26 [vl])] :: T).flatten,q.1 < w.heap.size ∨ q.2.isCells = true:=fun hX hT q hq=>by
  simp only [List.flatten_cons,List.mem_append] at hq
  rcases hq with hq | hq | hq | hq
  ·exact .inr (hX q hq)
  ·exact .inr (T0lt q (List.mem_append_left _ hq))
  ·exact .inr (T0lt q (List.mem_append_right _ hq))
  ·exact hT q hq
 have own0:∀ {T:Segs},(∀ q ∈ T.flatten,q.1 < w.heap.size ∨ q.2.isCells = true) → ∀ q ∈ ([(bc,oc 34 [vc])] :: [(bl,oc 26 [vl])] :: T).flatten,q.1 < w.heap.size ∨ q.2.isCells = true:=fun hT q hq=>by
  have:=own (X:=[]) (by simp) hT
  exact this q (by simpa using hq)
 have okT:Ok u m [[(bc,oc 34 [vc])],[(bl,oc 26 [vl])]] w:=Ok.init (A:=[[(bc,oc 34 [vc])],[(bl,oc 26 [vl])]]) ok
 refine qpY (α:=Fo nc B) (N:=rs.length) (encs:=fun x=>#[Value.agg (fcs x.1).toArray]) (Kp:=KpO u m [[(bc,oc 34 [vc])],[(bl,oc 26 [vl])]]) ((show ({ a with defers:=ds }:Act).eval g = a.eval g from by cases g <;> rfl).trans (E.ev hX)) (fun args w=>rfl) (qpH hl hc hF hB hG okT)
  (fun h k o=>k (h o)) (fun W l o o' hl h1 h2 h3 hok=>?_) (fun _=>rfl)
  (fun pre W=>∃ s T,Rep pre.length s T ∧ runF f (pre.map (·.1)) s0 = some (.inl s) ∧ Ok u m ([(bc,oc 34 [vc])] :: [(bl,oc 26 [vl])] :: T) W)
  (fun c pre W=>c = .ret ∧ ∃ r T,RepX r T ∧ runF f (pre.map (·.1)) s0 = some (.inr r) ∧ Ok u m ([(bc,oc 34 [vc])] :: [(bl,oc 26 [vl])] :: T) W)
  ?_ ?_ ⟨s0,S0,h0,rfl,ok⟩
  (fun pre x a' W=>∃ s T bx,Rep pre.length s T ∧ runF f (pre.map (·.1)) s0 = some (.inl s) ∧ Ok u m ([(bx,Obj.cells (fcs x.1).toArray 105 (0,0))] :: [(bc,oc 34 [vc])] :: [(bl,oc 26 [vl])] :: T) W ∧ Env nt a' ((t,.pointer (some ⟨bx,0,none⟩)) :: (p,.agg (fcs x.1).toArray) :: L))
  ?_ ?_ ?_ ?_ ?_
 ·refine hok.grownC (B:=w.heap.size) (grownBy_putObj' W l o') (fun r e=>by cases e; exact ⟨hl,o,h1,h2⟩) hmlt (fun q hq=>.inr (T0lt q (by simpa using hq)))
 ·rintro pre X Y row ⟨s,T,h1,h2,h3⟩ hg hr
  exact ⟨s,T,h1,h2,h3.grownC (B:=w.heap.size) hg hr hmlt (own0 (hcl _ _ _ h1))⟩
 ·rintro c pre X Y row ⟨rfl,r,T,h1,h2,h3⟩ hg hr
  exact ⟨rfl,r,T,h1,h2,h3.grownC (B:=w.heap.size) hg hr hmlt (own0 (hclx _ _ h1))⟩
 ·rintro pre x a' W l o o' ⟨s,T,bx,h1,h2,h3,h4⟩ hl hlo
  exact ⟨s,T,bx,h1,h2,h3.grownC (B:=w.heap.size) (grownBy_putObj' W l (.loop o')) (fun r e=>by cases e; exact ⟨hl,_,hlo,rfl⟩) hmlt (own (fun q hq=>by obtain rfl:=List.mem_singleton.1 hq; rfl) (hcl _ _ _ h1)),h4⟩
 ·-- the loop's variable
  rintro k pre x W K ⟨s,T,h1,h2,h3⟩ hlen hK
  have E1:=E.put p (Value.agg (fcs x.1).toArray) hp
  replace E1:=qo7 E1 (t:=((#[p]:Array Nat).zip #[Value.agg (fcs x.1).toArray]).foldl (fun t (p:Nat × Value)=>t.setIfInBounds p.1 p.2) a.tmps) (by simp [Act.put])
  have okF:=h3.full
  refine qdX rfl<|qaB E1 okF qik rfl ht fun bx a1 W1 E1 ok1=>qaf (v:=.agg (fcs x.1).toArray) E1 ok1 0 rfl (hlt _ _) (hlp _ _) qma rfl rfl ⟨rfl,rfl,rfl,rfl,rfl,trivial⟩ rfl rfl fun W2 ok2=>wpList_nil ⟨rfl,qaa ?_⟩
  have ok3:Ok u m ([(bx,Obj.cells (fcs x.1).toArray 105 (0,0))] :: [(bc,oc 34 [vc])] :: [(bl,oc 26 [vl])] :: T) W2:=ok2.down ok.base h3.hmx_le
  refine hK _ _ (h3.keepsS _ (own0 (hcl _ _ _ h1)) (Mem.le.refl _) ok2) (fun _=>Ok.init (A:=[[(bc,oc 34 [vc])],[(bl,oc 26 [vl])]]) ok3.drop) ⟨s,T,bx,h1,h2,ok3,E1⟩
 ·-- the body
  rintro k pre x a' W hk ⟨s,T,bx,h1,h2,h3,E1⟩ hlen
  have hx:=x.2
  have okF:=h3.full
  refine hround k pre.length s T x.1 bx _ a' W _ h1 hlen hx h3.hmx_le okF E1 (fun s' T' m'' a'' W' hf hr hle ok'=>?_) (fun r T' m'' a'' W' hf hr hle ok'=>?_)
  ·have okm:Ok u m _ W':=ok'.down ok.base (h3.hmx_le.trans hle)
   refine ⟨h3.keepsS _ (own (fun q hq=>by obtain rfl:=List.mem_singleton.1 hq; rfl) (hcl _ _ _ h1)) hle ok',fun _=>Ok.init (A:=[[(bc,oc 34 [vc])],[(bl,oc 26 [vl])]]) okm,s',T',by simpa using hr,?_,okm⟩
   rw [List.map_append,List.map_cons,List.map_nil,qj4 f _ _ _ _ h2,hf]
   rfl
  ·have okm:Ok u m _ W':=ok'.down ok.base (h3.hmx_le.trans hle)
   refine ⟨h3.keepsS _ (own (fun q hq=>by obtain rfl:=List.mem_singleton.1 hq; rfl) (hcl _ _ _ h1)) hle ok',rfl,r,T',hr,?_,okm⟩
   rw [List.map_append,List.map_cons,List.map_nil,qj4 f _ _ _ _ h2,hf]
   rfl
 ·rintro D xs W hD hxs ⟨s,T,h1,h2,h3⟩ hdef
  rw [hxs] at h2
  refine hdone D s T W ?_ h2 h3 hD hdef
  rw [← hxs,List.length_map]
  exact h1
 ·rintro D c pre W hD ⟨zs,hzs⟩ ⟨rfl,r,T,h1,h2,h3⟩ hdef
  refine wpIn_ret (hstop D r T W h1 ?_ h3 hD hdef)
  rw [← hzs]
  exact qnq f _ _ _ _ h2
end Go.Proofs.YtllfckekodcdaaaGreatDoor
namespace Go.Proofs.YtllfckekodcdaaaGreatDoor
open Go.X
variable {u:World} {m0:Mem} {S:Segs} {w:World}
set_option maxHeartbeats 4000000
set_option maxRecDepth 100000
theorem qg5:aggB Tryz.prog 46 2 = true:=by kernel_rfl
theorem qn1:qay Tryz.prog 105 1 1 = true:=by kernel_rfl
theorem qld:qay Tryz.prog 105 4 4 = true:=by kernel_rfl
theorem qci:qay Tryz.prog 58 1 1 = true:=by kernel_rfl
theorem qoD:qay Tryz.prog 75 1 1 = true:=by kernel_rfl
theorem qul:goB Tryz.prog 12 = true:=by kernel_rfl
theorem qtR:goB Tryz.prog 35 = true:=by kernel_rfl
theorem quw:goB Tryz.prog 43 = true:=by kernel_rfl
theorem quj:goB Tryz.prog 44 = true:=by kernel_rfl
theorem qtT:goB Tryz.prog 45 = true:=by kernel_rfl
theorem qtL:goB Tryz.prog 46 = true:=by kernel_rfl
theorem qsK:∃ i,Tryz.prog.info? 130 = some i ∧ i.size = 1:=⟨_,rfl,by kernel_rfl⟩
theorem qgY:∃ i,Tryz.prog.info? 44 = some i ∧ i.size = 1:=⟨_,rfl,by kernel_rfl⟩
theorem qd8:∃ i,Tryz.prog.info? 46 = some i ∧ i.size = 2:=⟨_,rfl,by kernel_rfl⟩
theorem qhN:∃ i,Tryz.prog.info? 47 = some i ∧ i.size = 1:=⟨_,rfl,by kernel_rfl⟩
theorem qnP:∃ i,Tryz.prog.info? 50 = some i ∧ i.size = 1:=⟨_,rfl,by kernel_rfl⟩
theorem qeX:oneB Tryz.prog 44 = true:=by kernel_rfl
theorem qhA:oneB Tryz.prog 47 = true:=by kernel_rfl
theorem qe7:qcZ Tryz.prog 46 = some [(0,1),(1,1)]:=by kernel_rfl
theorem qkw:qcZ Tryz.prog 58 = some [(0,1),(1,1)]:=by kernel_rfl
theorem qq5:qbj Tryz.prog 130 = some [(Value.map none)]:=by kernel_rfl
theorem qoF:qbj Tryz.prog 44 = some [(Value.slice none 0 0)]:=by kernel_rfl
theorem qdm:qbj Tryz.prog 46 = some [vi 0,vi 0]:=by kernel_rfl
theorem qsw:qbj Tryz.prog 47 = some [vi 0]:=by kernel_rfl
theorem qid:qbj Tryz.prog 58 = some [(vs ([])),(vs ([]))]:=by kernel_rfl
theorem qin:qbj Tryz.prog 9 = some [(vs ([]))]:=by kernel_rfl
theorem qsM {nc B:Nat} {x:Found2} (h:fokb nc B x = true):FOk nc B x:=by
 unfold fokb at h
 have h1:=of_decide_eq_true h
 exact h1
theorem qqa {N nc B:Nat} {l:List Token} {calls:List Call} {rs:List Found2} (h:qeT N nc B l calls = some rs):qdN N l calls = some rs ∧ ∀ x ∈ rs,FOk nc B x:=by
 unfold qeT at h
 obtain ⟨r,h1,h⟩:=bnd h
 cases hb:r.all (fokb nc B) with
 | false=>rw [hb] at h; cases h
 | true =>
  rw [hb] at h
  obtain rfl:=Option.some.inj h
  rw [List.all_eq_true] at hb
  exact ⟨h1,fun x hx=>qsM (hb x hx)⟩
theorem qug:goB Tryz.prog 36 = true:=by kernel_rfl
end Go.Proofs.YtllfckekodcdaaaGreatDoor
namespace Go.Proofs.YtllfckekodcdaaaGreatDoor
open Go.X
abbrev Mp:=List (List UInt8 × Int)
def E0 (id src:List UInt8):Entry:=Entry.mk id src [] [] [] 0 [Field.mk [114,101,102] []]
def refT (f:File) (x:Found2):List UInt8:=f.Name ++ [58] ++ Lib.itoa (1 + (Lib.count (f.Text.take x.offset.toNat) [10]:Int))
def cms (e:Entry) (c:List UInt8):List (List UInt8):=if c = [] ∨ e.Comments.contains c = true then e.Comments else e.Comments ++ [c]
def fld (l:List Field) (kn:Bool) (r:List UInt8):List Field:=match l with | g :: gs=>Field.mk g.Name (g.Value ++ (bif kn then [32] else []) ++ r) :: gs | []=>[]
def ent (e:Entry) (x:Found2) (kn:Bool) (r:List UInt8):Entry:=Entry.mk e.ID e.Source e.Target (cms e x.comment) e.Flags e.State (fld e.Fields kn r)
def rnd (i:Int) (f:File) (x:Found2) (ix:Mp) (out:List Entry):(Mp × List Entry) ⊕ (List Entry × Place × Int) :=
 bif (mget ix x.id).isSome then
  match out[((mget ix x.id).getD 0).toNat]? with
  | none=>.inr ([],Place.mk 0 0,0)
  | some e=>if e.Source = x.source then .inl (ix,out.set ((mget ix x.id).getD 0).toNat (ent e x true (refT f x))) else .inr ([],Place.mk i x.offset,14)
 else .inl (mput ix x.id (out.length:Int),out ++ [ent (E0 x.id x.source) x false (refT f x)])
structure Rb (N:Nat) (f:File) (x:Found2) (ix:Mp) (out:List Entry):Prop where
 nm:f.Name.length ≤ 1000000
 tx:f.Text.length ≤ 1000000
 of0:0 ≤ x.offset
 of1:x.offset ≤ (f.Text.length:Int)
 ol:out.length ≤ 10000000
 il:ix.length ≤ 10000000
 iv:∀ p ∈ ix,0 ≤ p.2 ∧ p.2 < (out.length:Int)
 fl:∀ e ∈ out,∃ g,e.Fields = [g] ∧ g.Value.length ≤ 100000000000000
 cl:∀ e ∈ out,e.Comments.length < N ∧ e.Comments.length ≤ 10000000
 n0:0 < N
theorem qrc {ix:Mp} {k:List UInt8} {v:Int} (h:mget ix k = some v):∃ p ∈ ix,p.2 = v:=by
 unfold mget at h
 cases hf:ix.find? (fun p=>k == p.1) with
 | none=>rw [hf] at h; cases h
 | some p =>
  rw [hf] at h
  exact ⟨p,List.mem_of_find?_eq_some hf,Option.some.inj h⟩
theorem qom {N:Nat} (l:List (List UInt8)) (c:List UInt8) (hN:l.length < N):qbx N l c = some (l.contains c):=by
 unfold qbx qcL
 have key:∀ (j:Nat) (M:Nat),j ≤ l.length → l.length - j < M → (∀ i,i < j → l[i]? ≠ some c) → ((iter (fun s=>qbe N l c s) M (j:Int)).bind fun o=>Sum.elim (fun _=>some (-1:Int)) (fun o=>some o) o).bind (fun r=>some (decide (r ≥ 0))) = some ((l.drop j).contains c):=by
  intro j M
  induction M generalizing j with
  | zero=>intro _ h; omega
  | succ M ih =>
   intro hj hM hn
   rw [iter]
   by_cases h:j < l.length
   ·have hb:qbe N l c (j:Int) = if c = l[j] then some (.inr (.inr (j:Int))) else some (.inl ((j:Int) + 1)):=by
     unfold qbe
     rw [decide_eq_true (by omega),cond_true,idx,if_pos (by omega),Int.toNat_natCast,List.getElem?_eq_getElem h,Option.bind_some]
     by_cases hc:c = l[j]
     ·rw [if_pos hc,beq_iff_eq.2 hc,cond_true]
     ·rw [if_neg hc,beq_eq_false_iff_ne.2 hc,cond_false]
    rw [hb,List.drop_eq_getElem_cons h,List.contains_cons]
    by_cases hc:c = l[j]
    ·rw [if_pos hc]
     simp [← hc]
    ·rw [if_neg hc,beq_eq_false_iff_ne.2 hc,Bool.false_or]
     exact ih (j + 1) (by omega) (by omega) (fun i hi=>by
      by_cases hij:i < j
      ·exact hn i hij
      ·obtain rfl:i = j:=by omega
       rw [List.getElem?_eq_getElem h]
       intro e; exact hc (Option.some.inj e).symm)
   ·have hb:qbe N l c (j:Int) = some (.inr (.inl ())):=by
     unfold qbe
     rw [decide_eq_false (by omega),cond_false]
    rw [hb,List.drop_eq_nil_of_le (by omega)]
    rfl
 have:=key 0 N (by omega) (by omega) (fun i hi=>by omega)
 simpa using this
theorem qqj:∀ u:Nat,(Lib.decDigits u).length ≤ u + 1:=by
 intro u
 induction u using Nat.strongRecOn with
 | _ u ih =>
  rw [Lib.decDigits]
  by_cases h:u < 10
  ·rw [dif_pos h]; simp
  ·rw [dif_neg h,List.length_append]
   have:=ih (u / 10) (by omega)
   simp; omega
theorem qgC {a b:List UInt8} (h:a.length + b.length ≤ 9000000000000000000):cat a b = some (a ++ b):=by unfold cat; rw [if_pos (by unfold LIMS; omega)]
theorem qnx {α:Type} {a b:List α} (h:a.length + b.length ≤ 4000000000):app a b = some (a ++ b):=by unfold app; rw [if_pos (by unfold LIM; omega)]
theorem qmo {N:Nat} {f:File} {x:Found2} (h1:f.Name.length ≤ 1000000) (h2:f.Text.length ≤ 1000000) (h3:0 ≤ x.offset) (h4:x.offset ≤ (f.Text.length:Int)) {β:Type} (K:List UInt8 → Option β) :
  ((cat f.Name ([58])).bind fun s175=>(slc f.Text 0 x.offset).bind fun s177=>(qeo N s177 ([10])).bind fun r179=>(qen N (IntKind.wrap .i64 ((1:Int) + r179))).bind fun r182=>(cat s175 r182).bind K) = K (refT f x) ∧ (refT f x).length ≤ 10000000:=by
 have hc:Lib.count (f.Text.take x.offset.toNat) [10] ≤ (f.Text.take x.offset.toNat).length + 1:=Lib.count_le _ _
 have ht:(f.Text.take x.offset.toNat).length ≤ 1000000:=by rw [List.length_take]; omega
 have hi:Lib.itoa (1 + (Lib.count (f.Text.take x.offset.toNat) [10]:Int)) = Lib.decDigits (1 + Lib.count (f.Text.take x.offset.toNat) [10]):=by
  unfold Lib.itoa
  rw [if_neg (by omega)]
  congr 1 <;> omega
 have hl:=qqj (1 + Lib.count (f.Text.take x.offset.toNat) [10])
 constructor
 ·rw [qgC (by simp; omega),Option.bind_some,slc,if_pos ⟨by omega,h3,h4⟩,Option.bind_some]
  rw [show (f.Text.drop (0:Int).toNat).take (x.offset - 0).toNat = f.Text.take x.offset.toNat by simp]
  rw [qeo,if_pos ⟨by decide,by omega⟩,Option.bind_some,qe0 (qc1.2 ⟨by omega,by omega⟩),qen,hi,if_pos (by unfold LIMS; omega),Option.bind_some,qgC (by simp; omega),Option.bind_some]
  unfold refT
  rw [hi]
 ·unfold refT
  rw [hi]
  simp only [List.length_append,List.length_cons,List.length_nil]
  omega
end Go.Proofs.YtllfckekodcdaaaGreatDoor
namespace Go.Proofs.YtllfckekodcdaaaGreatDoor
open Go.X
theorem qjm {α:Type} {l:List α} {k:Nat} {x:α} (h:l[k]? = some x):idx l (k:Int) = some x:=by unfold idx; rw [if_pos (by omega),Int.toNat_natCast]; exact h
theorem fldK {β:Type} {g:Field} {r:List UInt8} (h:g.Value.length + r.length ≤ 1000000000000000) (K:List Field → Option β) :
  ((idx [g] 0).bind fun x405=>(cat x405.Value ([32])).bind fun s417=>(idx [g] 0).bind fun x419=>(setI [g] 0 (Field.mk x419.Name s417)).bind fun l427=>(idx l427 0).bind fun x433=>(cat x433.Value r).bind fun s445=>(idx l427 0).bind fun x447=>(setI l427 0 (Field.mk x447.Name s445)).bind K) = K (fld [g] true r):=by
 show (cat g.Value [32]).bind (fun s417=>(cat s417 r).bind fun s445=>K [Field.mk g.Name s445]) = _
 rw [qgC (by simp; omega),Option.bind_some,qgC (by simp; omega),Option.bind_some]
 rfl
theorem fldU {β:Type} {g:Field} {r:List UInt8} (h:g.Value.length + r.length ≤ 1000000000000000) (K:List Field → Option β) :
  ((idx [g] 0).bind fun x484=>(cat x484.Value r).bind fun s496=>(idx [g] 0).bind fun x498=>(setI [g] 0 (Field.mk x498.Name s496)).bind K) = K (fld [g] false r):=by
 show (cat g.Value r).bind (fun s496=>K [Field.mk g.Name s496]) = _
 rw [qgC (by omega),Option.bind_some]
 unfold fld
 simp only [cond_false,List.append_nil]
theorem qsV {e:Entry} {c:List UInt8} (h:c = []):cms e c = e.Comments:=by unfold cms; rw [if_pos (.inl h)]
theorem qsG {e:Entry} {c:List UInt8} (h:e.Comments.contains c = true):cms e c = e.Comments:=by unfold cms; rw [if_pos (.inr h)]
theorem qrV {e:Entry} {c:List UInt8} (h0:c ≠ []) (h:e.Comments.contains c = false):cms e c = e.Comments ++ [c]:=by unfold cms; rw [if_neg (by rw [h]; simp [h0])]
theorem qoT {N:Nat} {x:Found2} {ρ:Type} {r:List UInt8} {out:List Entry} {k:Nat} {e:Entry} {g:Field} {M:Mp} (kn:Bool) (hk:out[k]? = some e) (hf:e.Fields = [g]) (hg:g.Value.length + r.length ≤ 1000000000000000) (hc:e.Comments.length < N) (hc2:e.Comments.length ≤ 10000000)
    (F:Entry → List Entry → Option ((Mp × List Entry) ⊕ ρ)) (hF:∀ e out,e.Fields = [g] → F e out = some (.inl (M,out.set k (Entry.mk e.ID e.Source e.Target e.Comments e.Flags e.State (fld [g] kn r))))) :
    (bif x.comment != [] then
      (qbx N e.Comments x.comment).bind fun r293 =>
        bif !r293 then
          ((app e.Comments [x.comment]).bind fun l329=>some (out.set (k:Int).toNat (Entry.mk e.ID e.Source e.Target l329 e.Flags e.State e.Fields),())).bind fun o298=>(idx o298.1 (k:Int)).bind fun x379=>F x379 o298.1
        else F e out
     else F e out) = some (.inl (M,out.set k (ent e x kn r))):=by
  have hlt:=(List.getElem?_eq_some_iff.1 hk).1
  by_cases h0:x.comment = []
  · rw [h0,bne_self_eq_false,cond_false,hF _ _ hf]
    unfold ent
    rw [qsV h0,hf]
  · rw [bne_iff_ne.2 h0,cond_true,qom _ _ hc,Option.bind_some]
    cases hh:e.Comments.contains x.comment with
    | true =>
      rw [Bool.not_true,cond_false,hF _ _ hf]
      unfold ent
      rw [qsG hh,hf]
    | false =>
      rw [Bool.not_false,cond_true,qnx (by simp; omega),Option.bind_some,Option.bind_some,Int.toNat_natCast]
      simp only
      rw [qjm (List.getElem?_set_self hlt),Option.bind_some,hF _ _ (show (Entry.mk e.ID e.Source e.Target (e.Comments ++ [x.comment]) e.Flags e.State e.Fields).Fields = [g] from hf),List.set_set]
      unfold ent
      rw [qrV h0 hh,hf]
theorem qnZ {N:Nat} {i:Int} {f:File} {x:Found2} {ix:Mp} {out:List Entry} (b:Rb N f x ix out):qdo N i f x ix out = some (rnd i f x ix out):=by
 unfold qdo
 obtain ⟨hr,hrl⟩:=qmo (N:=N) b.nm b.tx b.of0 b.of1 (fun s:List UInt8=>(some s:Option (List UInt8)))
 refine ((qmo (N:=N) b.nm b.tx b.of0 b.of1 _).1).trans ?_
 unfold rnd
 generalize refT f x = r at hrl ⊢
 cases hm:mget ix x.id with
 | none =>
  simp only [Option.isSome_none,Bool.not_false,cond_true,cond_false]
  rw [mset,if_pos (by have:=b.il; unfold LIM; omega),Option.bind_some,qnx (by have:=b.ol; simp; omega),Option.bind_some]
  simp only [Option.bind_some]
  rw [qjm (k:=out.length) (x:=E0 x.id x.source) (by rw [List.getElem?_append_right (Nat.le_refl _),Nat.sub_self]; rfl),Option.bind_some]
  have hs:∀ e:Entry,(out ++ [E0 x.id x.source]).set out.length e = out ++ [e]:=fun e=>by rw [List.set_append_right _ _ (Nat.le_refl _),Nat.sub_self]; rfl
  have hsrc:((E0 x.id x.source).Source != x.source) = false:=bne_self_eq_false _
  rw [hsrc,cond_false,← hs (ent (E0 x.id x.source) x false r)]
  exact qoT (N:=N) (x:=x) (r:=r) (M:=mput ix x.id (out.length:Int)) (k:=out.length) (e:=E0 x.id x.source) (g:=Field.mk [114,101,102] []) (out:=out ++ [E0 x.id x.source]) false (by rw [List.getElem?_append_right (Nat.le_refl _),Nat.sub_self]; rfl) rfl (by simp; omega) b.n0 (Nat.zero_le _)
   (fun e o=>(idx e.Fields 0).bind fun x484=>(cat x484.Value r).bind fun s496=>(idx e.Fields 0).bind fun x498=>(setI e.Fields 0 (Field.mk x498.Name s496)).bind fun l=>some (.inl (mput ix x.id (out.length:Int),o.set ((out.length:Nat):Int).toNat (Entry.mk e.ID e.Source e.Target e.Comments e.Flags e.State l))))
   (fun e o hf=>by
    simp only [hf]
    rw [fldU (by simp; omega),Int.toNat_natCast])
 | some v =>
  obtain ⟨p,hp,hpv⟩:=qrc hm
  obtain ⟨hv0,hv1⟩:=b.iv p hp
  rw [hpv] at hv0 hv1
  obtain ⟨k,rfl⟩:∃ k:Nat,v = (k:Int):=⟨v.toNat,by omega⟩
  have hlt:k < out.length:=by omega
  obtain ⟨g,hf,hg⟩:=b.fl out[k] (List.getElem_mem hlt)
  obtain ⟨hc1,hc2⟩:=b.cl out[k] (List.getElem_mem hlt)
  have hk:out[k]? = some out[k]:=List.getElem?_eq_getElem hlt
  generalize out[k] = e at *
  simp only [Option.isSome_some,Bool.not_true,cond_true,cond_false,Option.bind_some,Option.getD_some,Int.toNat_natCast]
  rw [hk,qjm hk,Option.bind_some]
  simp only
  by_cases hs:e.Source = x.source
  ·rw [if_pos hs,show (e.Source != x.source) = false from by rw [hs]; exact bne_self_eq_false _,cond_false]
   exact qoT (N:=N) (x:=x) (r:=r) (M:=ix) (k:=k) (e:=e) (g:=g) (out:=out) true hk hf (by omega) hc1 hc2
    (fun e o=>(idx e.Fields 0).bind fun x405=>(cat x405.Value ([32])).bind fun s417=>(idx e.Fields 0).bind fun x419=>(setI e.Fields 0 (Field.mk x419.Name s417)).bind fun l427=>(idx l427 0).bind fun x433=>(cat x433.Value r).bind fun s445=>(idx l427 0).bind fun x447=>(setI l427 0 (Field.mk x447.Name s445)).bind fun l=>some (.inl (ix,o.set k (Entry.mk e.ID e.Source e.Target e.Comments e.Flags e.State l))))
    (fun e o hf=>by
     simp only [hf]
     rw [fldK (by omega)])
  ·rw [if_neg hs,bne_iff_ne.2 hs,cond_true]
structure Sb (N n K j:Nat) (ix:Mp) (out:List Entry):Prop where
 ol:out.length ≤ 1000000 + j
 il:ix.length ≤ 1000000 + j
 iv:∀ p ∈ ix,0 ≤ p.2 ∧ p.2 < (out.length:Int)
 fl:∀ e ∈ out,∃ g,e.Fields = [g] ∧ g.Value.length ≤ 1000000000000 + j * K
 cl:∀ e ∈ out,e.Comments.length + n < N + j ∧ e.Comments.length ≤ 1000000 + j
 fg:∀ e ∈ out,e.Flags = []
theorem qnB (ix:Mp) (k:List UInt8) (v:Int):(mput ix k v).length ≤ ix.length + 1:=by
 induction ix with
 | nil=>simp [mput]
 | cons p ix ih =>
  rw [mput]
  split
  ·simp
  ·simp only [List.length_cons]; omega
theorem qnu {ix:Mp} {k:List UInt8} {v:Int} {p:List UInt8 × Int} (h:p ∈ mput ix k v):p ∈ ix ∨ p = (k,v):=by
 induction ix with
 | nil=>simpa [mput] using h
 | cons q ix ih =>
  rw [mput] at h
  split at h
  ·rcases List.mem_cons.1 h with h | h
   ·exact .inr h
   ·exact .inl (List.mem_cons_of_mem _ h)
  ·rcases List.mem_cons.1 h with h | h
   ·exact .inl (h ▸ List.mem_cons_self ..)
   ·rcases ih h with h | h
    ·exact .inl (List.mem_cons_of_mem _ h)
    ·exact .inr h
theorem qkM (e:Entry) (c:List UInt8):(cms e c).length ≤ e.Comments.length + 1:=by
 unfold cms
 split
 ·omega
 ·simp
theorem Sb.rb {N n K j:Nat} {ix:Mp} {out:List Entry} {f:File} {x:Found2} (b:Sb N n K j ix out) (hj:j < n) (hn:n ≤ 1000000) (hN:n < N) (h1:f.Name.length ≤ 1000000) (h2:f.Text.length ≤ 1000000) (h3:0 ≤ x.offset) (h4:x.offset ≤ (f.Text.length:Int)) (hK:j * K ≤ 20000000000000):Rb N f x ix out where
 nm:=h1
 tx:=h2
 of0:=h3
 of1:=h4
 ol:=by have:=b.ol; omega
 il:=by have:=b.il; omega
 iv:=b.iv
 fl:=fun e he=>by obtain ⟨g,h,h5⟩:=b.fl e he; exact ⟨g,h,by omega⟩
 cl:=fun e he=>by obtain ⟨h,h5⟩:=b.cl e he; omega
 n0:=by omega
set_option maxRecDepth 100000 in
theorem Sb.step {N n K j:Nat} {ix ix':Mp} {out out':List Entry} {i:Int} {f:File} {x:Found2} (b:Sb N n K j ix out) (hj:j < n) (hn:n ≤ 1000000) (hN:n < N) (hr:(refT f x).length + 1 ≤ K) (h:rnd i f x ix out = .inl (ix',out')):Sb N n K (j + 1) ix' out':=by
 have hz:(j + 1) * K = j * K + K:=Nat.succ_mul j K
 unfold rnd at h
 generalize refT f x = r at hr h
 cases hm:mget ix x.id with
 | none =>
  rw [hm] at h
  simp only [Option.isSome_none,cond_false,Sum.inl.injEq,Prod.mk.injEq] at h
  obtain ⟨rfl,rfl⟩:=h
  have hc:=qkM (E0 x.id x.source) x.comment
  have hE:(E0 x.id x.source).Comments.length = 0:=rfl
  refine ⟨by have:=b.ol; simp; omega,by have:=b.il; have:=qnB ix x.id (out.length:Int); omega,fun p hp=>?_,fun e he=>?_,fun e he=>?_,fun e he=>?_⟩
  ·rw [List.length_append,List.length_singleton]
   rcases qnu hp with hp | rfl
   ·have:=b.iv p hp; omega
   ·simp only; omega
  ·rcases List.mem_append.1 he with he | he
   ·obtain ⟨g,h1,h2⟩:=b.fl e he; exact ⟨g,h1,by rw [hz]; omega⟩
   ·obtain rfl:=List.mem_singleton.1 he
    exact ⟨Field.mk [114,101,102] ([] ++ [] ++ r),rfl,by show ([] ++ [] ++ r:List UInt8).length ≤ _; rw [List.nil_append,List.nil_append,hz]; omega⟩
  ·rcases List.mem_append.1 he with he | he
   ·have:=b.cl e he; omega
   ·obtain rfl:=List.mem_singleton.1 he
    show (cms (E0 x.id x.source) x.comment).length + n < N + (j + 1) ∧ (cms (E0 x.id x.source) x.comment).length ≤ _
    omega
  ·rcases List.mem_append.1 he with he | he
   ·exact b.fg e he
   ·obtain rfl:=List.mem_singleton.1 he; rfl
 | some v =>
  rw [hm] at h
  simp only [Option.isSome_some,cond_true,Option.getD_some] at h
  cases hk:out[v.toNat]? with
  | none=>rw [hk] at h; simp at h
  | some e0 =>
   rw [hk] at h
   simp only at h
   split at h
   case isFalse=>simp at h
   simp only [Sum.inl.injEq,Prod.mk.injEq] at h
   obtain ⟨rfl,rfl⟩:=h
   have he0:=List.mem_of_getElem? hk
   have hc:=qkM e0 x.comment
   obtain ⟨g,hg1,hg2⟩:=b.fl e0 he0
   refine ⟨by have:=b.ol; rw [List.length_set]; omega,by have:=b.il; omega,fun p hp=>by rw [List.length_set]; exact b.iv p hp,fun e he=>?_,fun e he=>?_,fun e he=>?_⟩
   ·rcases List.mem_or_eq_of_mem_set he with he | rfl
    ·obtain ⟨g,h1,h2⟩:=b.fl e he; exact ⟨g,h1,by rw [hz]; omega⟩
    ·refine ⟨Field.mk g.Name (g.Value ++ [32] ++ r),?_,by show (g.Value ++ [32] ++ r).length ≤ _; rw [List.length_append,List.length_append,List.length_singleton,hz]; omega⟩
     show fld e0.Fields true r = _
     rw [hg1]; rfl
   ·rcases List.mem_or_eq_of_mem_set he with he | rfl
    ·have:=b.cl e he; omega
    ·have:=b.cl e0 he0
     show (cms e0 x.comment).length + n < N + (j + 1) ∧ (cms e0 x.comment).length ≤ _
     omega
   ·rcases List.mem_or_eq_of_mem_set he with he | rfl
    ·exact b.fg e he
    ·exact b.fg e0 he0
end Go.Proofs.YtllfckekodcdaaaGreatDoor
namespace Go.X
open Go.RowKit
section
variable {P:Program} {Q:Exit → Act → World → Prop} {n:Nat} {L:List (Nat × Value)} {a:Act} {u w:World} {m:Mem} {S:Segs} {ds:List Deferred}
theorem qrM (E:Env n a L):a = { a with defers:=qhv [] }:=by
 cases a with
 | mk t d =>
  have:=E.d
  simp only at this
  subst this
  rfl
theorem d_if {t:Bool} {c:Operand} {x y:Code} (E:Env n a L) (hc:ev L c = some (.bool t)) (h1:t = true → x.wp P Q { a with defers:=ds } w) (h2:t = false → y.wp P Q { a with defers:=ds } w):(Code.cond c x y).wp P Q { a with defers:=ds } w:=by
 refine wp_cond (t:=t) ((show ({ a with defers:=ds }:Act).eval c = a.eval c from by cases c <;> rfl).trans (E.ev hc)) ?_
 cases t
 ·exact h2 rfl
 ·exact h1 rfl
def MkS (Ds:List Nat):List (Nat × Obj):=Ds.map fun D=>(D,Obj.deferred (some []))
theorem Ok.mkK {Ds:List Nat} (ok:Ok u m (MkS Ds :: S) w):(∀ D ∈ Ds,w.heap[D]? = some (.deferred (some []))) ∧ Ds.Nodup:=by
 refine ⟨fun D hD=>(ok.own (D,.deferred (some [])) (by simp only [List.flatten_cons,List.mem_append]; exact .inl (List.mem_map.2 ⟨D,hD,rfl⟩))).1,?_⟩
 have:=ok.nd
 simp only [List.flatten_cons] at this
 have:=(List.pairwise_append.1 this).1
 exact (List.pairwise_map.1 this).imp fun h=>h
theorem Ok.takenM:∀ {Ds:List Nat} {w:World},Ok u m (MkS Ds :: S) w → Ok u m S (Go.X.taken w Ds)
 | [],_,ok=>ok.drop
 | D :: Ds,w,ok=>by
  have ok1:Ok u m ([(D,.deferred (some []))] :: MkS Ds :: S) w:=ok.perm (by simp [MkS])
  have hlt:=ok1.ids_lt (p:=(D,.deferred (some []))) (by simp)
  have ok2:Ok u m ([(D,.deferred none)] :: MkS Ds :: S) (w.putObj D (.deferred none)):=ok1.setObj rfl rfl rfl (World.putObj_heap_same hlt) fun k hk=>World.putObj_heap_other hk
  have ok3:=ok2.drop
  show Ok u m S (Go.X.taken (w.putObj D (.deferred none)) Ds)
  exact Ok.takenM ok3
theorem Ok.addMk {Ds:List Nat} {B D:Nat} (ok:Ok u m (MkS Ds :: S) w) (hm:∀ b o,m b = some o → b < B) (hS:∀ q ∈ (MkS Ds :: S).flatten,q.1 < B ∨ q.2.isCells = true) (hD:B ≤ D) (hd:w.heap[D]? = some (.deferred (some []))):Ok u m (MkS (D :: Ds) :: S) w:=by
 have hn:∀ q ∈ (MkS Ds :: S).flatten,D ≠ q.1:=fun q hq e=>by
  rcases hS q hq with h | h
  ·omega
  ·have:=(ok.own q hq).1
   rw [← e,hd] at this
   rw [← Option.some.inj this] at h
   cases h
 have ok1:Ok u m ([(D,.deferred (some []))] :: MkS Ds :: S) w:=by
  refine ⟨ok.os,ok.out,ok.tape,ok.ro,fun p hp=>?_,?_,ok.base⟩
  ·simp only [List.flatten_cons,List.cons_append,List.nil_append,List.mem_cons] at hp
   rcases hp with rfl | hp
   ·refine ⟨hd,?_⟩
    cases hb:m D with
    | none=>rfl
    | some o=>have:=hm D o hb; omega
   ·exact ok.own p (by simpa only [List.flatten_cons] using hp)
  ·rw [List.flatten_cons]
   exact List.pairwise_cons.2 ⟨fun q hq=>hn q hq,ok.nd⟩
 exact ok1.perm (by simp [MkS])
end
end Go.X
namespace Go.Proofs.YtllfckekodcdaaaGreatDoor
open Go.X
variable {u:World} {m0:Mem} {S:Segs} {w:World}
set_option maxHeartbeats 4000000
set_option maxRecDepth 100000
def qja:Rp Place:=fun _ cs x=>cs = [.int .i64 x.File,.int .i64 x.Offset] ∧ InR .i64 x.File ∧ InR .i64 x.Offset
def qbi:Ro (Entry):=fun m cs x M=>∃ c3 c4 c6 M3 M6,cs = [.string (bs x.ID),.string (bs x.Source),.string (bs x.Target),c3,c4,.int .i64 x.State,c6] ∧ M = M3 ++ M6 ∧ x.ID.length ≤ LIMS ∧ x.Source.length ≤ LIMS ∧ x.Target.length ≤ LIMS ∧ ORow 9 1 pS m c3 x.Comments M3 ∧ (pL 1 pS) m [c4] x.Flags ∧ InR .i64 x.State ∧ ORow 58 2 qc0 m c6 x.Fields M6
theorem qn5:MonoO qbi:=⟨fun hm h=>by
 obtain ⟨c3,c4,c6,M3,M6,e,eM,h0,h1,h2,h3,h4,h5,h6⟩:=h
 exact ⟨c3,c4,c6,M3,M6,e,eM,h0,h1,h2,h3.up mS hm,(mL mS).up hm h4,h5,h6.up qcA hm⟩⟩
theorem qnW:FrozO qbi qc7:=⟨fun h hle hf=>by
 obtain ⟨c3,c4,c6,M3,M6,e,eM,h0,h1,h2,h3,h4,h5,h6⟩:=h
 exact ⟨c3,c4,c6,e,h0,h1,h2,h3.froz mS hle (fun p hp=>hf p (by rw [eM]; exact List.mem_append_left _ hp)) (by decide),(mL mS).up hle h4,h5,h6.froz qcA hle (fun p hp=>hf p (by rw [eM]; exact List.mem_append_right _ hp)) (by decide)⟩⟩
theorem qpD {m m':Mem} {cs:List Value} {x:Entry} {M:List (Nat × Obj)} (hf:x.Flags = []) (h:qbi m cs x M):qbi m' cs x M:=by
 obtain ⟨c3,c4,c6,M3,M6,e,eM,h0,h1,h2,h3,h4,h5,h6⟩:=h
 refine ⟨c3,c4,c6,M3,M6,e,eM,h0,h1,h2,h3.chg (fun _ _ h=>h),?_,h5,h6.chg (fun _ _ h=>h)⟩
 rw [hf] at h4 ⊢
 exact qpt h4
theorem qnj {m:Mem} {cs:List Value} {x:Entry} {M:List (Nat × Obj)} (h:qbi m cs x M):∀ q ∈ M,q.2.isCells = true:=by
 obtain ⟨c3,c4,c6,M3,M6,e,eM,h0,h1,h2,h3,h4,h5,h6⟩:=h
 intro q hq
 rw [eM] at hq
 rcases List.mem_append.1 hq with hq | hq
 ·exact h3.isCells q hq
 ·exact h6.isCells q hq
theorem qjJ {m:Mem} {v:Value} {xs:List Entry} {M:List (Nat × Obj)} (h:NRow 53 7 qbi m v xs M):∀ q ∈ M,q.2.isCells = true:=by
 obtain ⟨cs,ms,M1,h1,rfl,h3⟩:=h
 intro q hq
 rcases List.mem_append.1 hq with hq | hq
 ·exact h1.isCells q hq
 ·obtain ⟨M2,hM,hq⟩:=List.mem_flatten.1 hq
  obtain ⟨i,hi,rfl⟩:=List.mem_iff_getElem.1 hM
  obtain ⟨c,hc⟩:=qhj (l:=cs) (i:=i) (by rw [h3.l1,← h3.l2]; exact hi)
  obtain ⟨x,hx⟩:=qhj (l:=xs) (i:=i) (by rw [← h3.l2]; exact hi)
  exact qnj (h3.el hc hx (List.getElem?_eq_getElem hi)) q hq
theorem qtz {N:Nat} {i:Int} {f:File} {rs:List Found2} {ix:Mp} {out:List Entry} (h:qeM N i f rs ix out = true) (K:Nat) :
  f.Name.length ≤ 1000000 ∧ f.Text.length ≤ 1000000 ∧ rs.length ≤ 1000000 ∧ rs.length < N ∧ (∀ x ∈ rs,x.offset ≤ (f.Text.length:Int)) ∧ Sb N rs.length K 0 ix out:=by
 unfold qeM at h
 simp only [Bool.and_eq_true,decide_eq_true_eq,List.all_eq_true] at h
 obtain ⟨⟨h1,h2,h3,h4,h5,h6,h7,hN⟩,h8,h9,h10⟩:=h
 refine ⟨h3,h4,h5,hN,h8,by omega,by omega,fun p hp=>⟨(h9 p hp).1,(h9 p hp).2.1⟩,fun e he=>?_,fun e he=>?_,fun e he=>(h10 e he).1.2.2.2.1⟩
 ·obtain ⟨⟨g1,g2,g3,g4,g5⟩,g6⟩:=h10 e he
  match hf:e.Fields,g1 with
  | [g],_=>exact ⟨g,rfl,by have:=g6 g (by rw [hf]; exact List.mem_singleton.2 rfl); omega⟩
 ·obtain ⟨⟨g1,g2,g3,g4,g5⟩,g6⟩:=h10 e he
  omega
def qbw (u:World) (m0:Mem) (S:Segs) (r:(List (Entry)) × Place × Int) (a:Act) (w:World):Prop :=
 ∃ m1 v0 v1,m0.le m1 ∧ Ok u m1 S w ∧ a.defers = [] ∧ RVs Tryz.prog a w [.c 6 44 v0,.c 7 46 (.agg v1.toArray),.c 8 47 (.int .i64 r.2.2)] ∧ (pL 7 qc7) m1 [v0] r.1 ∧ qja m1 v1 r.2.1 ∧ InR .i64 r.2.2
theorem qhU (N:Nat) (vscript_0:Value) (script_0:List (State)) (hscript_0:(pL 2 qbP) m0 [vscript_0] script_0) (vcalls_1:Value) (calls_1:List (Call)) (hcalls_1:(pL 3 qdI) m0 [vcalls_1] calls_1) (vfiles_2:Value) (files_2:List (File)) (hfiles_2:(pL 2 qeG) m0 [vfiles_2] files_2) {r:(List (Entry)) × Place × Int} (hF:qdH N script_0 calls_1 files_2 = some r) (hG:Glob u) (hTb:Tab u) (ok:Ok u m0 S w) :
  Calls Tryz.prog 28 [vscript_0,vcalls_1,vfiles_2].toArray w fun e w'=>∃ m1 v0 v1,e = .returned (.tuple [v0,(.agg v1.toArray),(.int .i64 r.2.2)].toArray) ∧ m0.le m1 ∧ Ok u m1 S w' ∧ (pL 7 qc7) m1 [v0] r.1 ∧ qja m1 v1 r.2.1 ∧ InR .i64 r.2.2:=by
 have le_m0:=Mem.le.refl m0
 unfold qdH at hF
 have fin:∀ a w,qbw u m0 S r a w → bodyPostM Fence.wide 3 Tryz.prog Tryz.f28 (fun e w'=>∃ m1 v0 v1,e = .returned (.tuple [v0,(.agg v1.toArray),(.int .i64 r.2.2)].toArray) ∧ m0.le m1 ∧ Ok u m1 S w' ∧ (pL 7 qc7) m1 [v0] r.1 ∧ qja m1 v1 r.2.1 ∧ InR .i64 r.2.2) .ret a w:=by
  intro a w h
  obtain ⟨m1,v0,v1,hle,ok,hd,hrv,h0,h1,h2⟩:=h
  exact qsS (qbT [.c 6 44 v0,.c 7 46 (.agg v1.toArray),.c 8 47 (.int .i64 r.2.2)] hd rfl hrv ⟨m1,v0,v1,rfl,hle,ok,h0,h1,h2⟩)
 have finD:∀ a w Ds,(∀ D ∈ Ds,w.heap[D]? = some (.deferred (some []))) → Ds.Nodup → qbw u m0 S r a (taken w Ds) → bodyPostM Fence.wide 3 Tryz.prog Tryz.f28 (fun e w'=>∃ m1 v0 v1,e = .returned (.tuple [v0,(.agg v1.toArray),(.int .i64 r.2.2)].toArray) ∧ m0.le m1 ∧ Ok u m1 S w' ∧ (pL 7 qc7) m1 [v0] r.1 ∧ qja m1 v1 r.2.1 ∧ InR .i64 r.2.2) .ret { a with defers:=qhv Ds } w:=by
  intro a w Ds hK hn h
  obtain ⟨m1,v0,v1,hle,ok,hd,hrv,h0,h1,h2⟩:=h
  exact qsc Ds hK hn (qbT [.c 6 44 v0,.c 7 46 (.agg v1.toArray),.c 8 47 (.int .i64 r.2.2)] hd rfl hrv ⟨m1,v0,v1,rfl,hle,ok,h0,h1,h2⟩)
 refine qsN Tryz.func28 rfl rfl rfl fun a E=>sg<|qaB E ok qoF rfl rfl fun b1 a w E ok=>qaB E ok qdm rfl rfl fun b2 a w E ok=>qaB E ok qsw rfl rfl fun b3 a w E ok=>wn<|wp_seq<|sg<|mv E rfl fun a E=>bd hF fun r4 e5 hF=>lc E qrF rfl (qkv N _ script_0 hscript_0 e5 hG ok) fun w ok a E=>lw E (qbl rfl) fun a E=>mv E rfl fun a E=>bu E 27 hF (fun c6 hF E=>?_) fun c6 hF E=>?_
 ·refine lsq E fun a E=>ls E fun a E=>pt E rfl rfl fun a E=>mv E rfl fun a E=>lsq E fun a E=>ls E fun a E=>pt E rfl rfl fun a E=>wn<|c_if E rfl (fun _=>?_) (fun h=>by cases h)
  refine sg<|lw E (qaT (ps:=[]) (qs:=[]) (cs:=[vi 0,vi 0]) qdm qe7 rfl trivial rfl) fun a E=>qaf E ok 2 rfl rfl rfl qgY rfl rfl ⟨rfl,trivial⟩ rfl rfl fun w ok=>qaf E ok 1 rfl rfl rfl qd8 rfl rfl ⟨rfl,rfl,trivial⟩ rfl rfl fun w ok=>qaf E ok 0 rfl rfl rfl qhN rfl rfl ⟨rfl,trivial⟩ rfl rfl fun w ok=>wn<|wp_ret<|qae ?_
  have hret:qbw u m0 S ([],(Place.mk 0 0),1) a w:=⟨m0,(.slice none 0 0),[vi 0,vi 0],le_m0,ok.drop.drop.drop,E.d,⟨qeQ E ok rfl qeX (qac.own 2 rfl rfl),rv_c (cs:=[vi 0,vi 0]) E ok rfl qg5 rfl (qac.own 1 rfl rfl),qeQ E ok rfl qhA (qac.own 0 rfl rfl),trivial⟩,qbh,⟨rfl,(ir 0),(ir 0)⟩,(ir 1)⟩
  cases hF
  exact fin _ _ hret
 refine mv E rfl fun a E=>bd hF fun r7 e8 hF=>lc E qul rfl (qlT N _ calls_1 hcalls_1 e8 hG ok) fun w ok a E=>lw E (qbl rfl) fun a E=>pf E rfl rfl fun a E=>mv E rfl fun a E=>bu E 32 hF (fun c9 hF E=>?_) fun c9 hF E=>?_
 ·refine lsq E fun a E=>ls E fun a E=>pt E rfl rfl fun a E=>wn<|c_if E rfl (fun _=>?_) (fun h=>by cases h)
  refine sg<|lw E (qaT (ps:=[]) (qs:=[]) (cs:=[vi 0,vi 0]) qdm qe7 rfl trivial rfl) fun a E=>qaf E ok 2 rfl rfl rfl qgY rfl rfl ⟨rfl,trivial⟩ rfl rfl fun w ok=>qaf E ok 1 rfl rfl rfl qd8 rfl rfl ⟨rfl,rfl,trivial⟩ rfl rfl fun w ok=>qaf E ok 0 rfl rfl rfl qhN rfl rfl ⟨rfl,trivial⟩ rfl rfl fun w ok=>wn<|wp_ret<|qae ?_
  have hret:qbw u m0 S ([],(Place.mk 0 0),1) a w:=⟨m0,(.slice none 0 0),[vi 0,vi 0],le_m0,ok.drop.drop.drop,E.d,⟨qeQ E ok rfl qeX (qac.own 2 rfl rfl),rv_c (cs:=[vi 0,vi 0]) E ok rfl qg5 rfl (qac.own 1 rfl rfl),qeQ E ok rfl qhA (qac.own 0 rfl rfl),trivial⟩,qbh,⟨rfl,(ir 0),(ir 0)⟩,(ir 1)⟩
  cases hF
  exact fin _ _ hret
 refine mv E rfl fun a E=>bd hF fun r10 e11 hF=>lc E quw rfl (qlr N _ files_2 hfiles_2 e11 hG ok) fun w ok a E=>lw E (qbl rfl) fun a E=>pf E rfl rfl fun a E=>wn<|cf E rfl hF (fun c12 hF=>?_) fun c12 hF=>?_
 ·refine sg<|lw E (qaT (ps:=[]) (qs:=[]) (cs:=[vi 0,vi 0]) qdm qe7 rfl trivial rfl) fun a E=>qaf E ok 2 rfl rfl rfl qgY rfl rfl ⟨rfl,trivial⟩ rfl rfl fun w ok=>qaf E ok 1 rfl rfl rfl qd8 rfl rfl ⟨rfl,rfl,trivial⟩ rfl rfl fun w ok=>qaf E ok 0 rfl rfl rfl qhN rfl rfl ⟨rfl,trivial⟩ rfl rfl fun w ok=>wn<|wp_ret<|qae ?_
  have hret:qbw u m0 S ([],(Place.mk 0 0),1) a w:=⟨m0,(.slice none 0 0),[vi 0,vi 0],le_m0,ok.drop.drop.drop,E.d,⟨qeQ E ok rfl qeX (qac.own 2 rfl rfl),rv_c (cs:=[vi 0,vi 0]) E ok rfl qg5 rfl (qac.own 1 rfl rfl),qeQ E ok rfl qhA (qac.own 0 rfl rfl),trivial⟩,qbh,⟨rfl,(ir 0),(ir 0)⟩,(ir 1)⟩
  cases hF
  exact fin _ _ hret
 refine wp_skip<|qaa<|wp_seq<|sg<|mv E rfl fun a E=>lv E ok (qao qhw hfiles_2 rfl) fun a E=>lw E (qca rfl rfl) fun a E=>wn<|cf E rfl hF (fun c13 hF=>?_) fun c13 hF=>?_
 ·refine sg<|lw E (qaT (ps:=[]) (qs:=[]) (cs:=[vi 0,vi 0]) qdm qe7 rfl trivial rfl) fun a E=>qaf E ok 2 rfl rfl rfl qgY rfl rfl ⟨rfl,trivial⟩ rfl rfl fun w ok=>qaf E ok 1 rfl rfl rfl qd8 rfl rfl ⟨rfl,rfl,trivial⟩ rfl rfl fun w ok=>qaf E ok 0 rfl rfl rfl qhN rfl rfl ⟨rfl,trivial⟩ rfl rfl fun w ok=>wn<|wp_ret<|qae ?_
  have hret:qbw u m0 S ([],(Place.mk 0 0),6) a w:=⟨m0,(.slice none 0 0),[vi 0,vi 0],le_m0,ok.drop.drop.drop,E.d,⟨qeQ E ok rfl qeX (qac.own 2 rfl rfl),rv_c (cs:=[vi 0,vi 0]) E ok rfl qg5 rfl (qac.own 1 rfl rfl),qeQ E ok rfl qhA (qac.own 0 rfl rfl),trivial⟩,qbh,⟨rfl,(ir 0),(ir 0)⟩,(ir 6)⟩
  cases hF
  exact fin _ _ hret
 refine wp_skip<|qaa<|sg<|aw E rfl fun a E=>wp_seq<|sg<|mv E rfl fun a E=>lv E ok (qao qhw hfiles_2 rfl) fun a E=>mv E rfl fun a E=>wn<|wp_block ?_
 obtain ⟨M19,ok,h20⟩:=qdq (e:=26) (k:=1) (R:=(pL 3 qbs)) ok
 refine bd hF fun o21 hL hF=>qaC _ (fun (s:(List (List (Token))) × Int) a w=>∃ m22 c23 M24,m0.le m22 ∧ Ok u m22 (M24 :: [(b3,oc 47 [vi 0])] :: [(b2,oc 46 [vi 0,vi 0])] :: [(b1,oc 44 [(Value.slice none 0 0)])] :: S) w ∧ Env 187 a [(0,vscript_0),(1,vcalls_1),(2,vfiles_2),(6,vp b1),(7,vp b2),(8,vp b3),(9,c23),(42,vfiles_2),(43,(vi (files_2.length:Int))),(44,vi s.2)] ∧ ORow 26 1 (pL 3 qbs) m22 c23 s.1 M24 ∧ InR .i64 s.2) (fun (b:(((List (List (Token)))) ⊕ ((List (Entry)) × Place × Int))) e a w=>(Sum.elim (fun b809=>e = (.exit 0) ∧ ∃ m810 c811 M812,m0.le m810 ∧ Ok u m810 (M812 :: [(b3,oc 47 [vi 0])] :: [(b2,oc 46 [vi 0,vi 0])] :: [(b1,oc 44 [(Value.slice none 0 0)])] :: S) w ∧ Env 187 a [(1,vcalls_1),(2,vfiles_2),(6,vp b1),(7,vp b2),(8,vp b3),(9,c811)] ∧ ORow 26 1 (pL 3 qbs) m810 c811 b809 M812) (fun b814=>e = .ret ∧ qbw u m0 S b814 a w)) b) ?_ ?_ N _ a w hL ⟨m0,(Value.slice none 0 0),M19,Mem.le.refl _,ok,E.keep [0,1,2,6,7,8,9,42,43,44],h20,(ir 0)⟩
 ·as_aux_lemma =>
   rintro ⟨v27,v28⟩ a w r ⟨m29,c30,M31,hle,ok,E,h32,r33⟩ hF
   replace hF:qcU N script_0 files_2 v27 v28 = some r:=hF
   unfold qcU at hF
   have le_m0:=le_m0.trans hle
   have hscript_0:=(mL qaA).up hle hscript_0
   have hcalls_1:=(mL qbI).up hle hcalls_1
   have hfiles_2:=(mL qbF).up hle hfiles_2
   refine sg<|lw E (qat rfl rfl) fun a E=>wn<|wp_seq<|cg E rfl hF (fun c34 hF=>?_) fun c34 hF=>?_
   ·refine wp_exit<|qau ?_
    cases hF
    exact so (sl ⟨rfl,⟨m29,c30,M31,le_m0,ok,E.keep [1,2,6,7,8,9],h32⟩⟩)
   refine wp_skip<|qaa<|wp_seq<|wp_block<|sg<|mv E rfl fun a E=>?_
   obtain ⟨x35,e36,hF⟩:=bnd hF
   obtain ⟨b37,o38,es39,hl40,rr41,at42,yy43⟩:=ia E 42 44 qhw hfiles_2 e36
   obtain ⟨rfl,l44,l45⟩:=rr41
   refine lv E ok (yy43 _ _) fun a E=>lv E ok (qal (cs:=[vs x35.Name,vs x35.Text]) qn2 rfl rfl (qac.ro at42)) fun a E=>qaB E ok qhs rfl rfl fun b46 a w E ok=>av E rfl fun a E=>qaf E ok 0 rfl rfl rfl qob rfl rfl ⟨rfl,rfl,trivial⟩ rfl rfl fun w ok=>wn<|sg<|mv E rfl fun a E=>fk E ok qoD qam rfl 0 rfl rfl fun a E=>bd hF fun r47 e48 hF=>qas E qtR rfl (qmT N _ script_0 hscript_0 x35.Text l45 e48 hG ok) rfl rfl ?_
   rintro _ w ⟨m49,c50,rfl,hle,ok,h51,r52,r53⟩
   have le_m0:=le_m0.trans hle
   have hscript_0:=(mL qaA).up hle hscript_0
   have hcalls_1:=(mL qbI).up hle hcalls_1
   have hfiles_2:=(mL qbF).up hle hfiles_2
   have h32:=ORow.up (mL qd9) hle h32
   have at42:=At.up hle at42
   refine ⟨_,rfl,fun a E=>?_⟩
   refine mv E rfl fun a E=>lw E (qan rfl rfl) fun a E=>lw E (qan rfl rfl) fun a E=>lw E (qan rfl rfl) fun a E=>av E rfl fun a E=>av E rfl fun a E=>av E rfl fun a E=>wn<|wp_seq<|sg<|mv E rfl fun a E=>lw E (qbS rfl rfl) fun a E=>wn<|cf E rfl hF (fun c54 hF=>?_) fun c54 hF=>?_
   ·refine sg<|mz E rfl rfl fun a E=>lw E (qaT (ps:=[(0,.tmp 59),(1,.tmp 60)]) (qs:=[(0,[vi v28]),(1,[vi r47.2.1])]) (cs:=[vi v28,vi r47.2.1]) qdm qe7 rfl ⟨rfl,rfl,rfl,⟨rfl,rfl,rfl,trivial⟩⟩ rfl) fun a E=>mv E rfl fun a E=>qaf E ok 4 rfl rfl rfl qgY rfl rfl ⟨rfl,trivial⟩ rfl rfl fun w ok=>qaf E ok 3 rfl rfl rfl qd8 rfl rfl ⟨rfl,rfl,trivial⟩ rfl rfl fun w ok=>qaf E ok 2 rfl rfl rfl qhN rfl rfl ⟨rfl,trivial⟩ rfl rfl fun w ok=>wn<|wp_ret<|qae<|qah<|qae ?_
    cases hF
    exact so (sr ⟨rfl,⟨m49,(.slice none 0 0),[vi v28,vi r47.2.1],le_m0,ok.drop.drop.drop.drop.drop,E.d,⟨qeQ E ok rfl qeX (qac.own 4 rfl rfl),rv_c (cs:=[vi v28,vi r47.2.1]) E ok rfl qg5 rfl (qac.own 3 rfl rfl),qeQ E ok rfl qhA (qac.own 2 rfl rfl),trivial⟩,qbh,⟨rfl,r33,r52⟩,r53⟩⟩)
   refine wp_skip<|qaa<|qad<|mz E rfl rfl fun a E=>qa2 (R:=(pL 3 qbs)) (xo:=[.tmp 64]) (xs:=([r47.1]:List (List (Token)))) E ok qb2 qhn rfl ⟨⟨_,(qgJ h51),rfl,h51⟩,trivial⟩ rfl rfl rfl rfl fun c55 M56 a w E ok h57=>bd hF fun l58 e59 hF=>qcj (R:=(pL 3 qbs)) E ok 2 (mL qd9) qb2 Tryz.underlying129 rfl h32 (qa5.ofRow h57 0 rfl ok) e59 ⟨_,qhn,rfl⟩ rfl rfl rfl rfl fun c60 M61 a w E ok h62=>av E rfl fun a E=>wpList_nil<|qaj<|qaa<|qad<|lw E (qav rfl rfl (InR.inc r33 (qak hfiles_2) c34)) fun a E=>mv E rfl fun a E=>wpList_nil ?_
   cases hF
   exact qaq ⟨m49,c60,M61,le_m0,(ok.pk 6 [2,3,4,5] rfl (by decide)),E.keep [0,1,2,6,7,8,9,42,43,44],h62,(InR.inc r33 (qak hfiles_2) c34)⟩
 intro e a w _ hO
 rcases o21 with o21 | o21
 rotate_left
 ·have hF:=qgT hF
  obtain ⟨rfl,hret⟩:=hO
  refine qah<|qae ?_
  cases hF
  exact fin _ _ hret
 have hF:=qa1 hF
 obtain ⟨rfl,m63,c64,M65,hle,ok,E,h66⟩:=hO
 have le_m0:=le_m0.trans hle
 have hscript_0:=(mL qaA).up hle hscript_0
 have hcalls_1:=(mL qbI).up hle hcalls_1
 have hfiles_2:=(mL qbF).up hle hfiles_2
 refine qaE<|qaa<|sg<|qaB E ok qoF rfl rfl fun b67 a w E ok=>wn<|sg<|qhH kS (oneV (pI .i64)) E ok rfl rfl fun c68 M69 a w E ok h70=>qaB E ok qq5 rfl rfl fun b71 a w E ok=>qaf E ok 0 rfl rfl rfl qsK (OMap.cells h70) rfl ⟨(OMap.one h70),trivial⟩ rfl rfl fun w ok=>wn<|wp_seq<|sg<|mv E rfl fun a E=>lv E ok (qao qhw hfiles_2 rfl) fun a E=>mv E rfl fun a E=>wn<|wp_block ?_
 obtain ⟨M80,ok,h81⟩:=qoC (e:=53) (k:=7) (R:=qbi) ok
 refine bd hF fun o82 hL hF=>qaC _ (fun (s:Int × (List (List UInt8 × Int)) × (List (Entry))) a w=>∃ Ds ad m83 c85 M86 c88 M89,a = { ad with defers:=qhv Ds } ∧ m63.le m83 ∧ Ok u m83 (M89 :: [(b71,oc 130 [c85])] :: M86 :: [(b67,oc 44 [c88])] :: M65 :: [(b3,oc 47 [vi 0])] :: [(b2,oc 46 [vi 0,vi 0])] :: [(b1,oc 44 [(Value.slice none 0 0)])] :: MkS Ds :: S) w ∧ Env 187 ad [(1,vcalls_1),(6,vp b1),(7,vp b2),(8,vp b3),(9,c64),(15,vp b67),(16,vp b71),(69,vfiles_2),(70,(vi (files_2.length:Int))),(71,vi s.1)] ∧ InR .i64 s.1 ∧ OMap kS (oneV (pI .i64)) m83 c85 s.2.1 M86 ∧ NRow 53 7 qbi m83 c88 s.2.2 M89) (fun (b:(((List (Entry)) × (List (List UInt8 × Int))) ⊕ ((List (Entry)) × Place × Int))) e a w=>(Sum.elim (fun b800=>e = (.exit 2) ∧ ∃ Ds ad m801 c802 M803 c805 M806,a = { ad with defers:=qhv Ds } ∧ m63.le m801 ∧ Ok u m801 (M803 :: [(b71,oc 130 [c805])] :: M806 :: [(b67,oc 44 [c802])] :: M65 :: [(b3,oc 47 [vi 0])] :: [(b2,oc 46 [vi 0,vi 0])] :: [(b1,oc 44 [(Value.slice none 0 0)])] :: MkS Ds :: S) w ∧ Env 187 ad [(6,vp b1),(7,vp b2),(8,vp b3),(15,vp b67)] ∧ NRow 53 7 qbi m801 c802 b800.1 M803 ∧ OMap kS (oneV (pI .i64)) m801 c805 b800.2 M806) (fun b808=>e = .ret ∧ ∃ Ds ad,a = { ad with defers:=qhv Ds } ∧ (∀ D ∈ Ds,w.heap[D]? = some (.deferred (some []))) ∧ Ds.Nodup ∧ qbw u m0 S b808 ad (taken w Ds))) b) ?_ ?_ N _ a w hL ⟨[],a,m63,c68,M69,(Value.slice none 0 0),M80,qrM E,Mem.le.refl _,(ok.addnil.pk 9 [1,2,3,4,5,6,7,8,0] rfl (by decide)),E.keep [1,6,7,8,9,15,16,69,70,71],(ir 0),h70,h81⟩
 rotate_left
 ·intro e a w _ hO
  rcases o82 with o82 | o82
  rotate_left
  ·have hF:=qgT hF
   obtain ⟨rfl,Ds,ad,rfl,hK,hnD,hret⟩:=hO
   refine qah<|qae ?_
   cases hF
   exact finD _ _ _ hK hnD hret
  have hF:=qa1 hF
  obtain ⟨rfl,Ds,ad,m790,c791,M792,c794,M795,rfl,hle,ok,E,h793,h796⟩:=hO
  have le_m0:=le_m0.trans hle
  have hscript_0:=(mL qaA).up hle hscript_0
  have hcalls_1:=(mL qbI).up hle hcalls_1
  have hfiles_2:=(mL qbF).up hle hfiles_2
  refine qaE<|qaa<|wp_seq<|wp_seq<|qjt<|ld E ok qeX 3 rfl rfl rfl fun a E=>lv E ok (qku qb0 h793 rfl) fun a E=>lw E (qca rfl rfl) fun a E=>wpList_nil ⟨rfl,E.d,?_⟩
  refine qaa<|d_if E rfl (fun c797=>?_) (fun c797=>?_)
  ·have hF:=qbA c797 hF
   refine wp_seq<|qjt<|lw E (qaT (ps:=[]) (qs:=[]) (cs:=[vi 0,vi 0]) qdm qe7 rfl trivial rfl) fun a E=>qaf E ok 7 rfl rfl rfl qgY rfl rfl ⟨rfl,trivial⟩ rfl rfl fun w ok=>qaf E ok 6 rfl rfl rfl qd8 rfl rfl ⟨rfl,rfl,trivial⟩ rfl rfl fun w ok=>qaf E ok 5 rfl rfl rfl qhN rfl rfl ⟨rfl,trivial⟩ rfl rfl fun w ok=>wpList_nil ⟨rfl,E.d,?_⟩
   refine qaa<|wp_ret<|qae ?_
   obtain ⟨hK,hnD⟩:=(ok.frs 8 rfl).mkK
   have ok:=(ok.frs 8 rfl).takenM
   have hret:qbw u m0 S ([],(Place.mk 0 0),6) a (taken w Ds):=⟨m790,(.slice none 0 0),[vi 0,vi 0],le_m0,ok.drop.drop.drop.drop.drop.drop.drop.drop,E.d,⟨qeQ E ok rfl qeX (qac.own 7 rfl rfl),rv_c (cs:=[vi 0,vi 0]) E ok rfl qg5 rfl (qac.own 6 rfl rfl),qeQ E ok rfl qhA (qac.own 5 rfl rfl),trivial⟩,qbh,⟨rfl,(ir 0),(ir 0)⟩,(ir 6)⟩
   cases hF
   exact finD _ _ _ hK hnD hret
  have hF:=qbB c797 hF
  refine wp_skip<|qaa<|wp_seq<|qjt<|ld E ok qeX 3 rfl rfl rfl fun a E=>lw E (qaT (ps:=[]) (qs:=[]) (cs:=[vi 0,vi 0]) qdm qe7 rfl trivial rfl) fun a E=>qaf E ok 7 rfl rfl rfl qgY (NRow.cells h793) rfl ⟨(NRow.one h793),trivial⟩ rfl rfl fun w ok=>qaf E ok 6 rfl rfl rfl qd8 rfl rfl ⟨rfl,rfl,trivial⟩ rfl rfl fun w ok=>qaf E ok 5 rfl rfl rfl qhN rfl rfl ⟨rfl,trivial⟩ rfl rfl fun w ok=>wpList_nil ⟨rfl,E.d,?_⟩
  refine qaa<|wp_ret ?_
  obtain ⟨m798,hle,ok,hfz⟩:=(ok.frs 0 rfl).freeze
  have h799:=NRow.froz qnW h793 hle hfz (by decide)
  have le_m0:=le_m0.trans hle
  have hscript_0:=(mL qaA).up hle hscript_0
  have hcalls_1:=(mL qbI).up hle hcalls_1
  have hfiles_2:=(mL qbF).up hle hfiles_2
  have h796:=OMap.up (qfy (mI .i64)) hle h796
  obtain ⟨hK,hnD⟩:=(ok.frs 7 rfl).mkK
  have ok:=(ok.frs 7 rfl).takenM
  have hret:qbw u m0 S (o82.1,(Place.mk 0 0),0) a (taken w Ds):=⟨m798,c791,[vi 0,vi 0],le_m0,ok.drop.drop.drop.drop.drop.drop.drop,E.d,⟨qeQ E ok rfl qeX (qac.own 6 rfl rfl),rv_c (cs:=[vi 0,vi 0]) E ok rfl qg5 rfl (qac.own 5 rfl rfl),qeQ E ok rfl qhA (qac.own 4 rfl rfl),trivial⟩,h799,⟨rfl,(ir 0),(ir 0)⟩,(ir 0)⟩
  cases hF
  exact finD _ _ _ hK hnD hret
 rintro ⟨v91,v92,v93⟩ a w r ⟨Ds,ad,m94,c96,M97,c99,M100,rfl,hle,ok,E,r95,h98,h101⟩ hF
 replace hF:qcp N calls_1 files_2 o21 v91 v92 v93 = some r:=hF
 unfold qcp at hF
 have le_m63:=Mem.le.refl m63
 have le_m0:=le_m0.trans hle
 have le_m63:=le_m63.trans hle
 have hscript_0:=(mL qaA).up hle hscript_0
 have hcalls_1:=(mL qbI).up hle hcalls_1
 have hfiles_2:=(mL qbF).up hle hfiles_2
 have h66:=ORow.up (mL qd9) hle h66
 refine wp_seq<|qjt<|lw E (qat rfl rfl) fun a E=>wpList_nil ⟨rfl,E.d,?_⟩
 refine qaa<|wp_seq<|d_if E rfl (fun c102=>?_) (fun c102=>?_)
 rotate_left
 ·have hF:=qbB c102 hF
  refine wp_exit<|qau ?_
  cases hF
  exact so (sl ⟨rfl,⟨Ds,_,m94,c99,M100,c96,M97,rfl,le_m63,ok,E.keep [6,7,8,15],h101,h98⟩⟩)
 have hF:=qbA c102 hF
 refine wp_skip<|qaa<|wp_seq<|wp_block<|wp_seq<|qjt<|mv E rfl fun a E=>?_
 obtain ⟨x103,e104,hF⟩:=bnd hF
 obtain ⟨b105,o106,es107,hl108,rr109,at110,yy111⟩:=ia E 69 71 qhw hfiles_2 e104
 obtain ⟨rfl,l112,l113⟩:=rr109
 refine lv E ok (yy111 _ _) fun a E=>lv E ok (qal (cs:=[vs x103.Name,vs x103.Text]) qn2 rfl rfl (qac.ro at110)) fun a E=>qaB E ok qpP rfl rfl fun b114 a w E ok=>qaB E ok qhs rfl rfl fun b115 a w E ok=>qaf E ok 1 rfl rfl rfl qeg rfl rfl ⟨rfl,trivial⟩ rfl rfl fun w ok=>qaf E ok 0 rfl rfl rfl qob rfl rfl ⟨rfl,rfl,trivial⟩ rfl rfl fun w ok=>wpList_nil ⟨rfl,E.d,?_⟩
 refine qaa<|wp_seq<|qjt<|mv E rfl fun a E=>ld E ok qaQ 1 rfl rfl rfl fun a E=>?_
 obtain ⟨x116,e117,hF⟩:=bnd hF
 obtain ⟨b118,o119,hp120,yy121⟩:=qco qb2 h66 e117 (P:=Tryz.prog) (X:=.tmp 76) (I:=.tmp 77) (kd:=.i64) (qaz E rfl) (qaz E rfl)
 refine lv E ok (yy121 _ _) fun a E=>?_
 obtain ⟨es122,hl123,rr124,hh125⟩:=qep h66 e117 hp120 (by decide)
 obtain ⟨c126,rfl,h127⟩:=qkK rr124
 refine lv E ok (qai qeV rfl (hh125 _ _ _ 6 rfl)) fun a E=>mv E rfl fun a E=>?_
 obtain ⟨r128,e129,hF⟩:=bnd hF
 obtain ⟨hfo,hfb⟩:=qqa e129
 refine qas E qug rfl (qi8 (qgJ h127) (qgJ hcalls_1) ok) rfl rfl ?_
 rintro _ w ⟨bl,bc,rfl,ok⟩
 refine ⟨_,rfl,fun a E=>?_⟩
 refine wpList_nil ⟨rfl,E.d,?_⟩
 refine qaa<|wp_block ?_
 obtain ⟨o141,hL,hF⟩:=bnd hF
 have hL2:qeM N v91 x103 r128 v92 v93 = true ∧ runF (fun s x=>qdo N v91 x103 x s.1 s.2) r128 (v92,v93) = some o141:=by
  unfold qgx at hL
  cases hb:qeM N v91 x103 r128 v92 v93 with
  | false=>rw [hb] at hL; cases hL
  | true=>rw [hb] at hL; exact ⟨rfl,hL⟩
 obtain ⟨hokb,hrun⟩:=hL2
 obtain ⟨K,hKe⟩:∃ K:Nat,K = 20000000:=⟨_,rfl⟩
 obtain ⟨hn1,hn2,hn3,hnN,hn4,hSb0⟩:=qtz hokb K
 have ok:Ok u m94 ([(bc,oc 34 [vcalls_1])] :: [(bl,oc 26 [c126])] :: [(b115,oc 75 [vs x103.Name,vs x103.Text])] :: [(b114,oc 3 [vi v91])] :: M100 :: [(b71,oc 130 [c96])] :: M97 :: [(b67,oc 44 [c99])] :: M65 :: [(b3,oc 47 [vi 0])] :: [(b2,oc 46 [vi 0,vi 0])] :: [(b1,oc 44 [(Value.slice none 0 0)])] :: MkS Ds :: S) w:=ok
 have hSlt:∀ q ∈ (MkS Ds :: S).flatten,q.1 < w.heap.size:=fun q hq=>ok.ids_lt (by simp only [List.flatten_cons,List.mem_append] at hq ⊢; rcases hq with hq | hq <;> simp [hq])
 have hM65c:∀ q ∈ M65,q.2.isCells = true:=h66.isCells
 obtain ⟨bm,hbm⟩:=OMap.val h98
 have hbm2:bm < w.heap.size:=by
  obtain ⟨b',es',cl',g1,g2,_⟩:=h98
  rw [g1] at hbm
  simp only [Value.map.injEq,Option.some.injEq] at hbm
  subst hbm
  exact ok.ids_lt (p:=(b',Obj.map es'.toArray cl')) (by simp only [List.flatten_cons,List.mem_append,g2,List.mem_singleton]; simp)
 have hmlt:∀ b o,m94 b = some o → b < w.heap.size:=fun b o h=>ok.m_lt h
 have E0:=E
 have segs:∀ {M Mr:List (Nat × Obj)} {c' v3 v21 v22:Value} {X:Segs},(∀ q ∈ X.flatten,q.1 < w.heap.size ∨ q.2.isCells = true) → (∀ q ∈ M,q.1 = bm) → (∀ q ∈ Mr,q.2.isCells = true) → ∀ q ∈ ([(b115,oc 75 [vs x103.Name,vs x103.Text])] :: [(b114,oc 3 [vi v91])] :: Mr :: [(b71,oc 130 [c96])] :: M :: [(b67,oc 44 [c'])] :: M65 :: [(b3,oc 47 [v3])] :: [(b2,oc 46 [v21,v22])] :: [(b1,oc 44 [(Value.slice none 0 0)])] :: X).flatten,q.1 < w.heap.size ∨ q.2.isCells = true:=by
  intro M Mr c' v3 v21 v22 X hX hM hMr q hq
  simp only [List.flatten_cons,List.mem_append,List.mem_singleton] at hq
  rcases hq with rfl | rfl | hq | rfl | hq | rfl | hq | rfl | rfl | rfl | hq
  ·exact .inr rfl
  ·exact .inr rfl
  ·exact .inr (hMr q hq)
  ·exact .inr rfl
  ·exact .inl (by rw [hM q hq]; exact hbm2)
  ·exact .inr rfl
  ·exact .inr (hM65c q hq)
  ·exact .inr rfl
  ·exact .inr rfl
  ·exact .inr rfl
  ·exact hX q hq
 have hSlt2:∀ q ∈ (MkS Ds :: S).flatten,q.1 < w.heap.size ∨ q.2.isCells = true:=fun q hq=>.inl (hSlt q hq)
 refine (wpIn_wide (n:=3)).1 (qpF (ds:=qhv Ds) (m:=m94) (vc:=vcalls_1) E rfl rfl rfl (fun _ _=>rfl) (fun _ _=>rfl) ok h127 hcalls_1 hfo hfb hG
  (fun j (s:Mp × List Entry) T=>∃ M c' M',T = [(b115,oc 75 [vs x103.Name,vs x103.Text])] :: [(b114,oc 3 [vi v91])] :: M' :: [(b71,oc 130 [c96])] :: M :: [(b67,oc 44 [c'])] :: M65 :: [(b3,oc 47 [vi 0])] :: [(b2,oc 46 [vi 0,vi 0])] :: [(b1,oc 44 [(Value.slice none 0 0)])] :: MkS Ds :: S ∧ OMap kS (oneV (pI .i64)) m94 c96 s.1 M ∧ NRow 53 7 qbi m94 c' s.2 M' ∧ Sb N r128.length K j s.1 s.2)
  (fun (s:List Entry × Place × Int) T=>∃ M c' M',T = [(b115,oc 75 [vs x103.Name,vs x103.Text])] :: [(b114,oc 3 [vi v91])] :: M' :: [(b71,oc 130 [c96])] :: M :: [(b67,oc 44 [c'])] :: M65 :: [(b3,oc 47 [vi s.2.2])] :: [(b2,oc 46 [vi s.2.1.File,vi s.2.1.Offset])] :: [(b1,oc 44 [(Value.slice none 0 0)])] :: MkS Ds :: S ∧ (∀ q ∈ M,q.1 = bm) ∧ (∀ q ∈ M',q.2.isCells = true) ∧ s.1 = [] ∧ InR .i64 s.2.2 ∧ InR .i64 s.2.1.File ∧ InR .i64 s.2.1.Offset)
  (fun s x=>qdo N v91 x103 x s.1 s.2) (v92,v93) ⟨M97,c99,M100,rfl,h98,h101,hSb0⟩ ?_ ?_ ?_ ?_ ?_)
 ·rintro j s T ⟨M,c',M',rfl,h1,h2,h3⟩
  exact segs hSlt2 (h1.blk hbm) (qjJ h2)
 ·rintro s T ⟨M,c',M',rfl,h1,h2,h3⟩
  exact segs hSlt2 h1 h2
 ·rintro k j ⟨x_150,x_151⟩ T x160 b174 m130 a w Q' ⟨M154,c156,M157,rfl,h155,h158,hSb⟩ hj hx hle ok E hn hx2
  obtain ⟨hx0,hx1,hx3,hx4,hx5,hx6,hx7⟩:=hx
  have r169:InR .i64 x160.call:=by
   have:=qc1.1 (qak hcalls_1)
   rw [qc1]; omega
  have r170:InR .i64 x160.offset:=by rw [qc1]; omega
  have l171:x160.id.length ≤ LIMS:=by unfold LIMS; omega
  have l172:x160.source.length ≤ LIMS:=by unfold LIMS; omega
  have l173:x160.comment.length ≤ LIMS:=by unfold LIMS; omega
  obtain ⟨r,hr⟩:∃ r,r = rnd v91 x103 x160 x_150 x_151:=⟨_,rfl⟩
  have hjK:j * K ≤ 20000000000000:=Nat.le_trans (Nat.mul_le_mul (show j ≤ 1000000 by omega) (Nat.le_of_eq hKe)) (by decide)
  have hRb:Rb N x103 x160 x_150 x_151:=hSb.rb hj hn3 hnN hn1 hn2 hx3 hx4 hjK
  have hF:=qnZ (i:=v91) hRb
  rw [← hr] at hF
  have hF2:qdo N v91 x103 x160 (x_150,x_151).1 (x_150,x_151).2 = some r:=hF
  have hrl:(refT x103 x160).length + 1 ≤ K:=by
   have:=(qmo (N:=N) hn1 hn2 hx3 hx4 (fun s:List UInt8=>(some s:Option (List UInt8)))).2
   omega
  have h155:=OMap.up (qfy (mI .i64)) hle h155
  have h158:=NRow.up qn5 hle h158
  obtain ⟨S1,hS1⟩:∃ S1:Segs,S1 = [(bc,oc 34 [vcalls_1])] :: [(bl,oc 26 [c126])] :: MkS Ds :: S:=⟨_,rfl⟩
  replace ok:Ok u m130 ([(b174,oc 105 [vi x160.call,vi x160.offset,vs x160.id,vs x160.source,vs x160.comment])] :: [(b115,oc 75 [vs x103.Name,vs x103.Text])] :: [(b114,oc 3 [vi v91])] :: M157 :: [(b71,oc 130 [c96])] :: M154 :: [(b67,oc 44 [c156])] :: M65 :: [(b3,oc 47 [vi 0])] :: [(b2,oc 46 [vi 0,vi 0])] :: [(b1,oc 44 [(Value.slice none 0 0)])] :: S1) w:=by
   rw [hS1]; exact ok.pk 13 [0,3,4,5,6,7,8,9,10,11,12,1,2] rfl (by decide)
  have hnK:∀ {ix':Mp} {out':List Entry} {M cm c' M':_} {a':Act} {w':World},cm = c96 → r = .inl (ix',out') → Ok u m130 ([(b115,oc 75 [vs x103.Name,vs x103.Text])] :: [(b114,oc 3 [vi v91])] :: M' :: [(b71,oc 130 [cm])] :: M :: [(b67,oc 44 [c'])] :: M65 :: [(b3,oc 47 [vi 0])] :: [(b2,oc 46 [vi 0,vi 0])] :: [(b1,oc 44 [(Value.slice none 0 0)])] :: S1) w' → OMap kS (oneV (pI .i64)) m130 cm ix' M → NRow 53 7 qbi m130 c' out' M' → Q' .normal a' w':=by
   intro ix' out' M cm c' M' a' w' hcm hr2 ok' hm' hr'
   rw [hcm] at ok' hm'
   have hSb2:=hSb.step hj hn3 hnN hrl (hr.symm.trans hr2)
   refine hn (ix',out') _ m130 a' w' (hF2.trans (congrArg some hr2)) ⟨M,c',M',rfl,hm'.chg (fun _ _ h=>h),hr'.chg (fun cs x M hx h=>qpD (hSb2.fg x hx) h),hSb2⟩ (Mem.le.refl _) ?_
   rw [hS1] at ok'
   exact ok'.pk 12 [10,11,0,1,2,3,4,5,6,7,8,9] rfl (by decide)
  have hxK:∀ {o:Place × Int} {M cm c' M':_} {ix':Mp} {out':List Entry} {a':Act} {w':World},cm = c96 → r = .inr ([],o.1,o.2) → InR .i64 o.2 → InR .i64 o.1.File → InR .i64 o.1.Offset → Ok u m130 (M' :: [(b174,oc 105 [vi x160.call,vi x160.offset,vs x160.id,vs x160.source,vs x160.comment])] :: [(b115,oc 75 [vs x103.Name,vs x103.Text])] :: [(b114,oc 3 [vi v91])] :: [(b71,oc 130 [cm])] :: M :: [(b67,oc 44 [c'])] :: M65 :: [(b3,oc 47 [vi o.2])] :: [(b2,oc 46 [vi o.1.File,vi o.1.Offset])] :: [(b1,oc 44 [(Value.slice none 0 0)])] :: S1) w' → OMap kS (oneV (pI .i64)) m130 cm ix' M → NRow 53 7 qbi m130 c' out' M' → Q' .ret a' w':=by
   intro o M cm c' M' ix' out' a' w' hcm hr2 r1 r2 r3 ok' hm' hr'
   rw [hcm] at ok' hm'
   refine hx2 ([],o.1,o.2) _ m130 a' w' (hF2.trans (congrArg some hr2)) ⟨M,c',M',rfl,hm'.blk hbm,qjJ hr',rfl,r1,r2,r3⟩ (Mem.le.refl _) ?_
   rw [hS1] at ok'
   exact ok'.pk 13 [11,12,2,3,0,4,5,6,7,8,9,10] rfl (by decide)
  unfold qdo at hF
  clear hF2 hRb hSb hr hn hx2 hx0 hx1 hx3 hx4 hx5 hx6 hx7 hrl hjK hS1
  refine wpIn_block<|wpIn_seq<|qmg (by kernel_rfl) rfl (by kernel_rfl) ok<|qv E (qag qib rfl) fun a E=>qv E (qai qam rfl (qac.own 1 rfl rfl)) fun a E=>bd hF fun s175 e176 hF=>qv E (qaI rfl rfl e176) fun a E=>qv E (qag qoD rfl) fun a E=>qv E (qai qam rfl (qac.own 1 rfl rfl)) fun a E=>qv E (qag qn1 rfl) fun a E=>qv E (qai qaQ rfl (qac.own 0 rfl rfl)) fun a E=>bd hF fun s177 e178 hF=>qv E (qaN Tryz.underlying9 e178 rfl rfl ⟨_,rfl⟩) fun a E=>?_
  obtain ⟨r179,e180,hF⟩:=bnd hF
  obtain ⟨_,_,⟨_,_⟩,r181⟩:=Go.X.Calls.get (qiI N s177 (Nat.le_trans (qbR e178) l113) ([10]) (show ([10]:List UInt8).length ≤ LIMS by decide) e180 hG ok)
  refine qe6 E qtT rfl (fun w ok=>(qiI N s177 (Nat.le_trans (qbR e178) l113) ([10]) (show ([10]:List UInt8).length ≤ LIMS by decide) e180 hG ok).mono (fun _ _ h=>h.1)) rfl rfl fun a E=>qv E (qaw rfl rfl) fun a E=>?_
  obtain ⟨r182,e183,hF⟩:=bnd hF
  obtain ⟨_,_,⟨_,_⟩,l184⟩:=Go.X.Calls.get (qiF N (IntKind.wrap .i64 ((1:Int) + r179)) (InR.wrap _ _) e183 hG hTb ok)
  refine qe6 E quj rfl (fun w ok=>(qiF N (IntKind.wrap .i64 ((1:Int) + r179)) (InR.wrap _ _) e183 hG hTb ok).mono (fun _ _ h=>h.1)) rfl rfl fun a E=>bd hF fun s185 e186 hF=>qv E (qaI rfl rfl e186) fun a E=>qv E (qap rfl) fun a E=>wpQuiet_nil ?_
  intro w ok
  refine qaa<|wpIn_seq<|qdX rfl<|ld E ok qkQ 4 rfl rfl rfl fun a E=>fk E ok qhk qam rfl 0 rfl rfl fun a E=>?_
  obtain ⟨xv187,h188,yy189,yy190⟩:=qkB (P:=Tryz.prog) (mo:=.tmp 96) (ko:=.tmp 98) (zx:=(0:Int)) ok 5 (qdQ Tryz.underlying9) Tryz.underlying130 h155 rfl (qaz E rfl) (qaz E rfl) ⟨rfl,l171⟩ qoU (qga (ir 0))
  obtain ⟨rfl,r191⟩:=qg3 h188
  refine lv E ok (yy190 _) fun a E=>mv E rfl fun a E=>lw E (qan rfl rfl) fun a E=>lw E (qan rfl rfl) fun a E=>av E rfl fun a E=>av E rfl fun a E=>wpList_nil ⟨rfl,?_⟩
  refine qaa<|wpIn_seq<|wpIn_seq<|qdX rfl<|mv E rfl fun a E=>lw E (qbl rfl) fun a E=>wpList_nil ⟨rfl,?_⟩
  refine qaa<|bd hF fun o192 hJ hF=>qnY (Q':=fun e a w=>e = .normal ∧ ∃ c194 M195 c197 M198,c194 = c96 ∧ Ok u m130 ([(b174,oc 105 [vi x160.call,vi x160.offset,vs x160.id,vs x160.source,vs x160.comment])] :: [(b115,oc 75 [vs x103.Name,vs x103.Text])] :: [(b114,oc 3 [vi v91])] :: M198 :: [(b71,oc 130 [c194])] :: M195 :: [(b67,oc 44 [c197])] :: M65 :: [(b3,oc 47 [vi 0])] :: [(b2,oc 46 [vi 0,vi 0])] :: [(b1,oc 44 [(Value.slice none 0 0)])] :: S1) w ∧ Env 187 a [(1,vcalls_1),(6,vp b1),(7,vp b2),(8,vp b3),(9,c64),(15,vp b67),(16,vp b71),(17,vp b114),(18,vp b115),(19,vp b174),(20,vs s185),(21,vi o192.1),(22,(vb ((mget x_150 x160.id).isSome))),(69,vfiles_2),(70,(vi (files_2.length:Int))),(71,vi v91)] ∧ InR .i64 o192.1 ∧ OMap kS (oneV (pI .i64)) m130 c194 o192.2.1 M195 ∧ NRow 53 7 qbi m130 c197 o192.2.2 M198) ?_ ?_
  ·have hF:=hJ
   refine r_if E rfl (fun c200=>?_) (fun c200=>?_)
   rotate_left
   ·have hF:=qbB c200 hF
    refine wpIn_skip ?_
    cases hF
    exact ⟨rfl,⟨c96,M154,c156,M157,rfl,ok,E.keep [1,6,7,8,9,15,16,17,18,19,20,21,22,69,70,71],r191,h155,h158⟩⟩
   have hF:=qbA c200 hF
   refine wpIn_seq<|qdX rfl<|ld E ok qeX 6 rfl rfl rfl fun a E=>lv E ok (qku qb0 h158 rfl) fun a E=>av E rfl fun a E=>wpList_nil ⟨rfl,?_⟩
   refine qaa<|wpIn_seq<|qdX rfl<|ld E ok qkQ 4 rfl rfl rfl fun a E=>fk E ok qhk qam rfl 0 rfl rfl fun a E=>mv E rfl fun a E=>bd hF fun l201 e202 hF=>qje (.inl rfl) E ok 5 (qdQ Tryz.underlying9) Tryz.underlying130 h155 rfl rfl rfl rfl ⟨rfl,l171⟩ (qga (NRow.InR h158)) e202 rfl fun M203 w ok h204=>wpList_nil ⟨rfl,?_⟩
   refine qaa<|qdX rfl<|ld E ok qeX 6 rfl rfl rfl fun a E=>fk E ok qhk qam rfl 0 rfl rfl fun a E=>fk E ok qis qam rfl 0 rfl rfl fun a E=>lw E (qaT (ps:=[(0,.const (vs ([114,101,102])))]) (qs:=[(0,[(vs ([114,101,102]))])]) (cs:=[(vs ([114,101,102])),(vs ([]))]) qid qkw rfl ⟨rfl,rfl,rfl,trivial⟩ rfl) fun a E=>qa2 (R:=qc0) (xo:=[.tmp 115]) (xs:=([(Field.mk ([114,101,102]) ([]))]:List (Field))) E ok qbG qid rfl ⟨⟨_,rfl,rfl,⟨rfl,(show ([114,101,102]:List UInt8).length ≤ LIMS by decide),(Nat.zero_le _)⟩⟩,trivial⟩ rfl rfl rfl rfl fun c205 M206 a w E ok h207=>lw E (qaT (ps:=[(0,.tmp 112),(1,.tmp 114),(6,.tmp 116)]) (qs:=[(0,[vs x160.id]),(1,[vs x160.source]),(6,[c205])]) (cs:=[vs x160.id,vs x160.source,(vs ([])),(Value.slice none 0 0),(Value.slice none 0 0),vi 0,c205]) qeU qj9 rfl ⟨rfl,rfl,rfl,⟨rfl,rfl,rfl,⟨rfl,(ORow.cells h207),rfl,trivial⟩⟩⟩ rfl) fun a E=>qa2 (R:=pRaw) (xo:=[.tmp 117]) (xs:=[[vs x160.id,vs x160.source,(vs ([])),(Value.slice none 0 0),(Value.slice none 0 0),vi 0,c205]]) E ok qb0 qeU rfl ⟨⟨_,rfl,rfl,⟨rfl,⟨rfl,rfl,rfl,rfl,rfl,rfl,(ORow.one h207),trivial⟩⟩⟩,trivial⟩ rfl rfl rfl rfl fun c208 M209 a w E ok h210=>?_
   obtain ⟨M211,ok,h212⟩:=qdq (e:=9) (k:=1) (R:=pS) ok
   replace ok:Ok u m130 (M157 :: M211 :: M206 :: M209 :: [(b174,oc 105 [vi x160.call,vi x160.offset,vs x160.id,vs x160.source,vs x160.comment])] :: [(b115,oc 75 [vs x103.Name,vs x103.Text])] :: [(b114,oc 3 [vi v91])] :: [(b71,oc 130 [c96])] :: M203 :: [(b67,oc 44 [c156])] :: M65 :: [(b3,oc 47 [vi 0])] :: [(b2,oc 46 [vi 0,vi 0])] :: [(b1,oc 44 [(Value.slice none 0 0)])] :: S1) w:=(ok.pk 14 [6,0,2,1,3,4,5,7,8,9,10,11,12,13] rfl (by decide))
   obtain ⟨l213,e214,hF⟩:=bnd hF
   have hsrc:=(qa5.ofRow h210 3 rfl ok)
   replace ok:=ok.joinM2
   refine qlE (R:=qbi) E ok qb0 Tryz.underlying44 h158 hsrc ⟨_,_,_,_,_,rfl,rfl,l171,l172,(Nat.zero_le _),h212,qbh,(ir 0),h207⟩ e214 ⟨_,qeU,rfl⟩ rfl rfl rfl rfl fun c215 M216 a w E ok h217=>?_
   clear hsrc
   refine qaf E ok 7 rfl rfl rfl qgY (NRow.cells h217) rfl ⟨(NRow.one h217),trivial⟩ rfl rfl fun w ok=>wpList_nil ⟨rfl,?_⟩
   cases hF
   exact ⟨rfl,⟨c96,M203,c215,M216,rfl,(ok.pk 12 [2,3,4,0,5,6,7,8,9,10,11] rfl (by decide)),E.keep [1,6,7,8,9,15,16,17,18,19,20,21,22,69,70,71],(NRow.InR h158),h204,h217⟩⟩
  intro e a w hO
  obtain ⟨rfl,c219,M220,c222,M223,hcj,ok,E,r218,h221,h224⟩:=hO
  refine qaa<|wpIn_seq<|qdX rfl<|ld E ok qeX 6 rfl rfl rfl fun a E=>mv E rfl fun a E=>?_
  obtain ⟨x225,e226,hF⟩:=bnd hF
  obtain ⟨b227,o228,hp229,yy230⟩:=qs0 qb0 h224 e226 (P:=Tryz.prog) (X:=.tmp 120) (I:=.tmp 121) (kd:=.i64) (qaz E rfl) (qaz E rfl)
  refine lv E ok (yy230 _ _) fun a E=>av E rfl fun a E=>wpList_nil ⟨rfl,?_⟩
  refine qaa<|wpIn_seq<|wpIn_seq ?_
  replace ok:Ok u m130 (M223 :: [(b174,oc 105 [vi x160.call,vi x160.offset,vs x160.id,vs x160.source,vs x160.comment])] :: [(b115,oc 75 [vs x103.Name,vs x103.Text])] :: [(b114,oc 3 [vi v91])] :: [(b71,oc 130 [c219])] :: M220 :: [(b67,oc 44 [c222])] :: M65 :: [(b3,oc 47 [vi 0])] :: [(b2,oc 46 [vi 0,vi 0])] :: [(b1,oc 44 [(Value.slice none 0 0)])] :: S1) w:=(ok.pk 11 [3,0,1,2,4,5,6,7,8,9,10] rfl (by decide))
  obtain ⟨cs231,c232,M233,M234,M235,ok,hr236,hx237,he238,hh239⟩:=NRow.open h224 e226 ok
  obtain ⟨c245,c247,c250,M240,M241,rfl,rfl,l242,l243,l244,h246,h248,r249,h251⟩:=he238
  replace ok:=ok.splitM2
  refine qmg (by kernel_rfl) rfl (by kernel_rfl) ok<|qv E (qab rfl) fun a E=>qv E (qa4 rfl) fun a E=>qv E (qag qmz rfl) fun a E=>?_
  obtain ⟨hl252,hh253⟩:=qdg hr236 hx237 hp229 (by decide)
  refine qv E (qai qam rfl (qac.sub 1 1 (hh253 _ _ _ 0 rfl))) fun a E=>qv E (qag qis rfl) fun a E=>qv E (qai qam rfl (qac.own 4 rfl rfl)) fun a E=>qv E (qbZ rfl rfl) fun a E=>wpQuiet_nil ?_
  intro w ok
  refine qaa ?_
  replace ok:=ok.joinM2
  obtain ⟨M254,ok,h255⟩:=NRow.close0 e226 ok hr236 hx237 (show qbi m130 [vs x225.ID,vs x225.Source,vs x225.Target,c245,c247,vi x225.State,c250] x225 (M240 ++ M241) from ⟨_,_,_,_,_,rfl,rfl,l242,l243,l244,h246,h248,r249,h251⟩) hh239
  refine r_if E rfl (fun c256=>?_) (fun c256=>?_)
  ·have hF:=qbA c256 hF
   refine wpIn_seq<|bd hF fun o257 hJ hF=>qnY (Q':=fun e a w=>e = .normal ∧ Ok u m130 (M254 :: [(b174,oc 105 [vi x160.call,vi x160.offset,vs x160.id,vs x160.source,vs x160.comment])] :: [(b115,oc 75 [vs x103.Name,vs x103.Text])] :: [(b114,oc 3 [vi v91])] :: [(b71,oc 130 [c219])] :: M220 :: [(b67,oc 44 [c222])] :: M65 :: [(b3,oc 47 [vi o257.1])] :: [(b2,oc 46 [vi o257.2.File,vi o257.2.Offset])] :: [(b1,oc 44 [(Value.slice none 0 0)])] :: S1) w ∧ Env 187 a [(6,vp b1),(7,vp b2),(8,vp b3)] ∧ InR .i64 o257.1 ∧ InR .i64 o257.2.File ∧ InR .i64 o257.2.Offset) ?_ ?_
   rotate_left
   ·intro e a w hO
    obtain ⟨rfl,ok,E,r261,r262,r263⟩:=hO
    refine qaa<|wpIn_ret<|qae<|qah ?_
    cases hF
    exact hxK (o:=(o257.2,o257.1)) hcj rfl r261 r262 r263 ok h221 h255
   have hF:=hJ
   cases hF
   refine qno [] (Cls u m130 (M254 :: [(b174,oc 105 [vi x160.call,vi x160.offset,vs x160.id,vs x160.source,vs x160.comment])] :: [(b115,oc 75 [vs x103.Name,vs x103.Text])] :: [(b114,oc 3 [vi v91])] :: [(b71,oc 130 [c219])] :: M220 :: [(b67,oc 44 [c222])] :: M65 :: [(b1,oc 44 [(Value.slice none 0 0)])] :: [])) (Cls u m130 (M254 :: [(b174,oc 105 [vi x160.call,vi x160.offset,vs x160.id,vs x160.source,vs x160.comment])] :: [(b115,oc 75 [vs x103.Name,vs x103.Text])] :: [(b114,oc 3 [vi v91])] :: [(b71,oc 130 [c219])] :: M220 :: [(b67,oc 44 [c222])] :: M65 :: [(b1,oc 44 [(Value.slice none 0 0)])] :: [])) (by kernel_rfl) rfl ?_
   intro w hw
   replace ok:=qb9 ok hw
   clear hw
   have le_m130:=Mem.le.refl m130
   refine qar (cl1 (cq le_m130 ok [0,1,2,3,4,5,6,7,10] rfl) (cq le_m130 ok [0,1,2,3,4,5,6,7,10] rfl)) fun hT=>kt 0 E rfl hT (qai qaQ rfl (qac.cown 3 rfl rfl)) fun a E=>kt 1 E rfl hT (qag qn1 rfl) fun a E=>kt 2 E rfl hT (qai qaQ rfl (qac.cown 1 rfl rfl)) fun a E=>kt 3 E rfl hT (qaT (ps:=[(0,.tmp 130),(1,.tmp 132)]) (qs:=[(0,[vi v91]),(1,[vi x160.offset])]) (cs:=[vi v91,vi x160.offset]) qdm qe7 rfl ⟨rfl,rfl,rfl,⟨rfl,rfl,rfl,trivial⟩⟩ rfl) fun a E=>qaL [4] (by kernel_rfl) rfl (qaM ?_)
   ·refine wo rfl<|qaf E ok 10 rfl rfl rfl qgY rfl rfl ⟨rfl,trivial⟩ rfl rfl fun w ok=>wn<|qar (cl1 (cq le_m130 ok [0,1,2,3,4,5,6,7,10] rfl) (cq le_m130 ok [0,1,2,3,4,5,6,7,10] rfl)) fun hT=>qaL [5] (by kernel_rfl) rfl (qaM ?_)
    ·refine wo rfl<|qaf E ok 9 rfl rfl rfl qd8 rfl rfl ⟨rfl,rfl,trivial⟩ rfl rfl fun w ok=>wn<|qar (cl1 (cq le_m130 ok [0,1,2,3,4,5,6,7,10] rfl) (cq le_m130 ok [0,1,2,3,4,5,6,7,10] rfl)) fun hT=>qaL [6] (by kernel_rfl) rfl (qaM ?_)
     ·refine wo rfl<|qaf E ok 8 rfl rfl rfl qhN rfl rfl ⟨rfl,trivial⟩ rfl rfl fun w ok=>wn<|qar (cl1 (cq le_m130 ok [0,1,2,3,4,5,6,7,10] rfl) (cq le_m130 ok [0,1,2,3,4,5,6,7,10] rfl)) fun hT=>qbU (by kernel_rfl) ⟨rfl,?_⟩
      exact ⟨rfl,⟨ok,E.keep [6,7,8],(ir 14),r95,r170⟩⟩
  have hF:=qbB c256 hF
  refine wpIn_skip<|qaa<|wpIn_seq<|wpIn_seq ?_
  obtain ⟨cs264,c265,M266,M267,M268,ok,hr269,hx270,he271,hh272⟩:=NRow.open h255 e226 ok
  obtain ⟨c278,c280,c283,M273,M274,rfl,rfl,l275,l276,l277,h279,h281,r282,h284⟩:=he271
  replace ok:=ok.splitM2
  refine qmg (by kernel_rfl) rfl (by kernel_rfl) ok<|qv E (qag qld rfl) fun a E=>qv E (qai qam rfl (qac.own 4 rfl rfl)) fun a E=>qv E (qbZ rfl rfl) fun a E=>qv E (qab rfl) fun a E=>bw E 137 hF (fun c285 hF E=>?_) fun c285 hF E=>?_
  ·as_aux_lemma =>
    refine qs E fun a E=>qs E fun a E=>qs E fun a E=>qs E fun a E=>qs E fun a E=>qs E fun a E=>qs E fun a E=>qs E fun a E=>qv E (qaU rfl rfl) fun a E=>wpQuiet_nil ?_
    intro w ok
    refine qaa ?_
    replace ok:=ok.joinM2
    obtain ⟨M643,ok,h644⟩:=NRow.close0 e226 ok hr269 hx270 (show qbi m130 [vs x225.ID,vs x225.Source,vs x225.Target,c278,c280,vi x225.State,c283] x225 (M273 ++ M274) from ⟨_,_,_,_,_,rfl,rfl,l275,l276,l277,h279,h281,r282,h284⟩) hh272
    refine r_if E rfl (fun h=>by cases h) (fun _=>?_)
    refine wpIn_skip<|qaa<|wpIn_seq<|wpIn_seq<|qdX rfl<|mv E rfl fun a E=>wpList_nil ⟨rfl,?_⟩
    refine qaa<|r_if E rfl (fun c645=>?_) (fun c645=>?_)
    rotate_left
    ·have hF:=qbB c645 hF
     refine wpIn_skip<|qaa<|qdX rfl<|mv E rfl fun a E=>lw E (qa4 rfl) fun a E=>fv E qbD rfl fun a E=>?_
     obtain ⟨cs725,c726,M727,M728,M729,ok,hr730,hx731,he732,hh733⟩:=NRow.open h644 e226 ok
     obtain ⟨c739,c741,c744,M734,M735,rfl,rfl,l736,l737,l738,h740,h742,r743,h745⟩:=he732
     replace ok:=ok.splitM2
     obtain ⟨hl746,hh747⟩:=qdg hr730 hx731 hp229 (by decide)
     refine lv E ok (qai qb3 rfl (qac.sub 6 1 (hh747 _ _ _ 0 rfl))) fun a E=>?_
     obtain ⟨x748,e749,hF⟩:=bnd hF
     obtain ⟨b750,o751,hp752,yy753⟩:=qco qbG h745 e749 (P:=Tryz.prog) (X:=.tmp 172) (I:=.const (vi 0)) (kd:=.i64) (qaz E rfl) (qaz E rfl)
     refine lv E ok (yy753 _ _) fun a E=>fv E qci rfl fun a E=>?_
     obtain ⟨es754,hl755,rr756,hh757⟩:=qep h745 e749 hp752 (by decide)
     obtain ⟨rfl,l758,l759⟩:=rr756
     refine lv E ok (qai qam rfl (qac.sub 1 1 (hh757 _ _ _ 2 rfl))) fun a E=>mv E rfl fun a E=>bd hF fun s760 e761 hF=>lw E (qaI rfl rfl e761) fun a E=>?_
     obtain ⟨x762,e763,hF⟩:=bnd hF
     obtain ⟨b764,o765,hp766,yy767⟩:=qco qbG h745 e763 (P:=Tryz.prog) (X:=.tmp 172) (I:=.const (vi 0)) (kd:=.i64) (qaz E rfl) (qaz E rfl)
     refine lv E ok (yy767 _ _) fun a E=>fv E qci rfl fun a E=>bd hF fun l770 e771 hF=>qc5 (R:=qc0) (f:=1) E ok 2 rfl h745 e763 hp766 rfl rfl rfl qfI rfl rfl rfl ⟨rfl,trivial⟩ (fun es _ h=>by obtain ⟨rfl,l768,l769⟩:=h; exact ⟨rfl,l768,(qaH e761)⟩) e771 rfl fun M772 w ok h773=>wpList_nil ⟨rfl,?_⟩
     refine qaj ?_
     replace ok:=ok.joinM2
     obtain ⟨M774,ok,h775⟩:=NRow.close e226 ok hr730 hx731 (show qbi m130 [vs x225.ID,vs x225.Source,vs x225.Target,c739,c741,vi x225.State,c744] (Entry.mk x225.ID x225.Source x225.Target x225.Comments x225.Flags x225.State l770) (M734 ++ M772) from ⟨_,_,_,_,_,rfl,rfl,l736,l737,l738,h740,h742,r743,h773⟩) hh733
     cases hF
     exact hnK hcj rfl (ok.pk 11 [2,3,0,4,5,6,7,8,9,10] rfl (by decide)) h221 h775
    have hF:=qbA c645 hF
    refine qdX rfl<|mv E rfl fun a E=>lw E (qa4 rfl) fun a E=>fv E qbD rfl fun a E=>?_
    obtain ⟨cs646,c647,M648,M649,M650,ok,hr651,hx652,he653,hh654⟩:=NRow.open h644 e226 ok
    obtain ⟨c660,c662,c665,M655,M656,rfl,rfl,l657,l658,l659,h661,h663,r664,h666⟩:=he653
    replace ok:=ok.splitM2
    obtain ⟨hl667,hh668⟩:=qdg hr651 hx652 hp229 (by decide)
    refine lv E ok (qai qb3 rfl (qac.sub 6 1 (hh668 _ _ _ 0 rfl))) fun a E=>?_
    obtain ⟨x669,e670,hF⟩:=bnd hF
    obtain ⟨b671,o672,hp673,yy674⟩:=qco qbG h666 e670 (P:=Tryz.prog) (X:=.tmp 162) (I:=.const (vi 0)) (kd:=.i64) (qaz E rfl) (qaz E rfl)
    refine lv E ok (yy674 _ _) fun a E=>fv E qci rfl fun a E=>?_
    obtain ⟨es675,hl676,rr677,hh678⟩:=qep h666 e670 hp673 (by decide)
    obtain ⟨rfl,l679,l680⟩:=rr677
    refine lv E ok (qai qam rfl (qac.sub 1 1 (hh678 _ _ _ 2 rfl))) fun a E=>bd hF fun s681 e682 hF=>lw E (qaI rfl rfl e682) fun a E=>?_
    obtain ⟨x683,e684,hF⟩:=bnd hF
    obtain ⟨b685,o686,hp687,yy688⟩:=qco qbG h666 e684 (P:=Tryz.prog) (X:=.tmp 162) (I:=.const (vi 0)) (kd:=.i64) (qaz E rfl) (qaz E rfl)
    refine lv E ok (yy688 _ _) fun a E=>fv E qci rfl fun a E=>bd hF fun l691 e692 hF=>qc5 (R:=qc0) (f:=1) E ok 2 rfl h666 e684 hp687 rfl rfl rfl qfI rfl rfl rfl ⟨rfl,trivial⟩ (fun es _ h=>by obtain ⟨rfl,l689,l690⟩:=h; exact ⟨rfl,l689,(qaH e682)⟩) e692 rfl fun M693 w ok h694=>wpList_nil ⟨rfl,?_⟩
    refine qaa<|qdX rfl<|mv E rfl fun a E=>lw E (qa4 rfl) fun a E=>fv E qbD rfl fun a E=>?_
    obtain ⟨hl695,hh696⟩:=qdg hr651 hx652 hp229 (by decide)
    refine lv E ok (qai qb3 rfl (qac.sub 6 1 (hh696 _ _ _ 0 rfl))) fun a E=>?_
    obtain ⟨x697,e698,hF⟩:=bnd hF
    obtain ⟨b699,o700,hp701,yy702⟩:=qco qbG h694 e698 (P:=Tryz.prog) (X:=.tmp 172) (I:=.const (vi 0)) (kd:=.i64) (qaz E rfl) (qaz E rfl)
    refine lv E ok (yy702 _ _) fun a E=>fv E qci rfl fun a E=>?_
    obtain ⟨es703,hl704,rr705,hh706⟩:=qep h694 e698 hp701 (by decide)
    obtain ⟨rfl,l707,l708⟩:=rr705
    refine lv E ok (qai qam rfl (qac.sub 1 1 (hh706 _ _ _ 2 rfl))) fun a E=>mv E rfl fun a E=>bd hF fun s709 e710 hF=>lw E (qaI rfl rfl e710) fun a E=>?_
    obtain ⟨x711,e712,hF⟩:=bnd hF
    obtain ⟨b713,o714,hp715,yy716⟩:=qco qbG h694 e712 (P:=Tryz.prog) (X:=.tmp 172) (I:=.const (vi 0)) (kd:=.i64) (qaz E rfl) (qaz E rfl)
    refine lv E ok (yy716 _ _) fun a E=>fv E qci rfl fun a E=>bd hF fun l719 e720 hF=>qc5 (R:=qc0) (f:=1) E ok 2 rfl h694 e712 hp715 rfl rfl rfl qfI rfl rfl rfl ⟨rfl,trivial⟩ (fun es _ h=>by obtain ⟨rfl,l717,l718⟩:=h; exact ⟨rfl,l717,(qaH e710)⟩) e720 rfl fun M721 w ok h722=>wpList_nil ⟨rfl,?_⟩
    refine qaj ?_
    replace ok:=ok.joinM2
    obtain ⟨M723,ok,h724⟩:=NRow.close e226 ok hr651 hx652 (show qbi m130 [vs x225.ID,vs x225.Source,vs x225.Target,c660,c662,vi x225.State,c665] (Entry.mk x225.ID x225.Source x225.Target x225.Comments x225.Flags x225.State l719) (M655 ++ M721) from ⟨_,_,_,_,_,rfl,rfl,l657,l658,l659,h661,h663,r664,h722⟩) hh654
    cases hF
    exact hnK hcj rfl (ok.pk 11 [2,3,0,4,5,6,7,8,9,10] rfl (by decide)) h221 h724
  refine qv E (qab rfl) fun a E=>qv E (qa4 rfl) fun a E=>qv E (qag qd3 rfl) fun a E=>?_
  obtain ⟨hl286,hh287⟩:=qdg hr269 hx270 hp229 (by decide)
  refine qv E (qai qfr rfl (qac.sub 3 1 (hh287 _ _ _ 0 rfl))) fun a E=>qv E (qag qld rfl) fun a E=>qv E (qai qam rfl (qac.own 4 rfl rfl)) fun a E=>bd hF fun r293 e294 hF=>qe6 E (v:=(vb r293)) qtL rfl (fun w ok=>?_) rfl rfl fun a E=>?_
  ·obtain ⟨m288,hle290,ok289,hfz291⟩:=(ok.frs 1 rfl).freeze
   have h292:=ORow.froz mS h279 hle290 hfz291 (by decide)
   refine Calls.mono (qgS N _ x225.Comments h292 x160.comment l173 e294 hG ok289) fun _ _ hz=>?_
   obtain ⟨hz1,okz⟩:=hz
   exact ⟨hz1,(Ok.thawAt 1 rfl ok hle290 hfz291 okz)⟩
  refine qv E (qbl rfl) fun a E=>qv E (qbf rfl rfl) fun a E=>wpQuiet_nil ?_
  intro w ok
  refine qaa ?_
  replace ok:=ok.joinM2
  obtain ⟨M295,ok,h296⟩:=NRow.close0 e226 ok hr269 hx270 (show qbi m130 [vs x225.ID,vs x225.Source,vs x225.Target,c278,c280,vi x225.State,c283] x225 (M273 ++ M274) from ⟨_,_,_,_,_,rfl,rfl,l275,l276,l277,h279,h281,r282,h284⟩) hh272
  refine r_if E rfl (fun c297=>?_) (fun c297=>?_)
  rotate_left
  ·as_aux_lemma =>
    have hF:=qbB c297 hF
    refine wpIn_skip<|qaa<|wpIn_seq<|wpIn_seq<|qdX rfl<|mv E rfl fun a E=>wpList_nil ⟨rfl,?_⟩
    refine qaa<|r_if E rfl (fun c512=>?_) (fun c512=>?_)
    rotate_left
    ·have hF:=qbB c512 hF
     refine wpIn_skip<|qaa<|qdX rfl<|mv E rfl fun a E=>lw E (qa4 rfl) fun a E=>fv E qbD rfl fun a E=>?_
     obtain ⟨cs592,c593,M594,M595,M596,ok,hr597,hx598,he599,hh600⟩:=NRow.open h296 e226 ok
     obtain ⟨c606,c608,c611,M601,M602,rfl,rfl,l603,l604,l605,h607,h609,r610,h612⟩:=he599
     replace ok:=ok.splitM2
     obtain ⟨hl613,hh614⟩:=qdg hr597 hx598 hp229 (by decide)
     refine lv E ok (qai qb3 rfl (qac.sub 6 1 (hh614 _ _ _ 0 rfl))) fun a E=>?_
     obtain ⟨x615,e616,hF⟩:=bnd hF
     obtain ⟨b617,o618,hp619,yy620⟩:=qco qbG h612 e616 (P:=Tryz.prog) (X:=.tmp 172) (I:=.const (vi 0)) (kd:=.i64) (qaz E rfl) (qaz E rfl)
     refine lv E ok (yy620 _ _) fun a E=>fv E qci rfl fun a E=>?_
     obtain ⟨es621,hl622,rr623,hh624⟩:=qep h612 e616 hp619 (by decide)
     obtain ⟨rfl,l625,l626⟩:=rr623
     refine lv E ok (qai qam rfl (qac.sub 1 1 (hh624 _ _ _ 2 rfl))) fun a E=>mv E rfl fun a E=>bd hF fun s627 e628 hF=>lw E (qaI rfl rfl e628) fun a E=>?_
     obtain ⟨x629,e630,hF⟩:=bnd hF
     obtain ⟨b631,o632,hp633,yy634⟩:=qco qbG h612 e630 (P:=Tryz.prog) (X:=.tmp 172) (I:=.const (vi 0)) (kd:=.i64) (qaz E rfl) (qaz E rfl)
     refine lv E ok (yy634 _ _) fun a E=>fv E qci rfl fun a E=>bd hF fun l637 e638 hF=>qc5 (R:=qc0) (f:=1) E ok 2 rfl h612 e630 hp633 rfl rfl rfl qfI rfl rfl rfl ⟨rfl,trivial⟩ (fun es _ h=>by obtain ⟨rfl,l635,l636⟩:=h; exact ⟨rfl,l635,(qaH e628)⟩) e638 rfl fun M639 w ok h640=>wpList_nil ⟨rfl,?_⟩
     refine qaj ?_
     replace ok:=ok.joinM2
     obtain ⟨M641,ok,h642⟩:=NRow.close e226 ok hr597 hx598 (show qbi m130 [vs x225.ID,vs x225.Source,vs x225.Target,c606,c608,vi x225.State,c611] (Entry.mk x225.ID x225.Source x225.Target x225.Comments x225.Flags x225.State l637) (M601 ++ M639) from ⟨_,_,_,_,_,rfl,rfl,l603,l604,l605,h607,h609,r610,h640⟩) hh600
     cases hF
     exact hnK hcj rfl (ok.pk 11 [2,3,0,4,5,6,7,8,9,10] rfl (by decide)) h221 h642
    have hF:=qbA c512 hF
    refine qdX rfl<|mv E rfl fun a E=>lw E (qa4 rfl) fun a E=>fv E qbD rfl fun a E=>?_
    obtain ⟨cs513,c514,M515,M516,M517,ok,hr518,hx519,he520,hh521⟩:=NRow.open h296 e226 ok
    obtain ⟨c527,c529,c532,M522,M523,rfl,rfl,l524,l525,l526,h528,h530,r531,h533⟩:=he520
    replace ok:=ok.splitM2
    obtain ⟨hl534,hh535⟩:=qdg hr518 hx519 hp229 (by decide)
    refine lv E ok (qai qb3 rfl (qac.sub 6 1 (hh535 _ _ _ 0 rfl))) fun a E=>?_
    obtain ⟨x536,e537,hF⟩:=bnd hF
    obtain ⟨b538,o539,hp540,yy541⟩:=qco qbG h533 e537 (P:=Tryz.prog) (X:=.tmp 162) (I:=.const (vi 0)) (kd:=.i64) (qaz E rfl) (qaz E rfl)
    refine lv E ok (yy541 _ _) fun a E=>fv E qci rfl fun a E=>?_
    obtain ⟨es542,hl543,rr544,hh545⟩:=qep h533 e537 hp540 (by decide)
    obtain ⟨rfl,l546,l547⟩:=rr544
    refine lv E ok (qai qam rfl (qac.sub 1 1 (hh545 _ _ _ 2 rfl))) fun a E=>bd hF fun s548 e549 hF=>lw E (qaI rfl rfl e549) fun a E=>?_
    obtain ⟨x550,e551,hF⟩:=bnd hF
    obtain ⟨b552,o553,hp554,yy555⟩:=qco qbG h533 e551 (P:=Tryz.prog) (X:=.tmp 162) (I:=.const (vi 0)) (kd:=.i64) (qaz E rfl) (qaz E rfl)
    refine lv E ok (yy555 _ _) fun a E=>fv E qci rfl fun a E=>bd hF fun l558 e559 hF=>qc5 (R:=qc0) (f:=1) E ok 2 rfl h533 e551 hp554 rfl rfl rfl qfI rfl rfl rfl ⟨rfl,trivial⟩ (fun es _ h=>by obtain ⟨rfl,l556,l557⟩:=h; exact ⟨rfl,l556,(qaH e549)⟩) e559 rfl fun M560 w ok h561=>wpList_nil ⟨rfl,?_⟩
    refine qaa<|qdX rfl<|mv E rfl fun a E=>lw E (qa4 rfl) fun a E=>fv E qbD rfl fun a E=>?_
    obtain ⟨hl562,hh563⟩:=qdg hr518 hx519 hp229 (by decide)
    refine lv E ok (qai qb3 rfl (qac.sub 6 1 (hh563 _ _ _ 0 rfl))) fun a E=>?_
    obtain ⟨x564,e565,hF⟩:=bnd hF
    obtain ⟨b566,o567,hp568,yy569⟩:=qco qbG h561 e565 (P:=Tryz.prog) (X:=.tmp 172) (I:=.const (vi 0)) (kd:=.i64) (qaz E rfl) (qaz E rfl)
    refine lv E ok (yy569 _ _) fun a E=>fv E qci rfl fun a E=>?_
    obtain ⟨es570,hl571,rr572,hh573⟩:=qep h561 e565 hp568 (by decide)
    obtain ⟨rfl,l574,l575⟩:=rr572
    refine lv E ok (qai qam rfl (qac.sub 1 1 (hh573 _ _ _ 2 rfl))) fun a E=>mv E rfl fun a E=>bd hF fun s576 e577 hF=>lw E (qaI rfl rfl e577) fun a E=>?_
    obtain ⟨x578,e579,hF⟩:=bnd hF
    obtain ⟨b580,o581,hp582,yy583⟩:=qco qbG h561 e579 (P:=Tryz.prog) (X:=.tmp 172) (I:=.const (vi 0)) (kd:=.i64) (qaz E rfl) (qaz E rfl)
    refine lv E ok (yy583 _ _) fun a E=>fv E qci rfl fun a E=>bd hF fun l586 e587 hF=>qc5 (R:=qc0) (f:=1) E ok 2 rfl h561 e579 hp582 rfl rfl rfl qfI rfl rfl rfl ⟨rfl,trivial⟩ (fun es _ h=>by obtain ⟨rfl,l584,l585⟩:=h; exact ⟨rfl,l584,(qaH e577)⟩) e587 rfl fun M588 w ok h589=>wpList_nil ⟨rfl,?_⟩
    refine qaj ?_
    replace ok:=ok.joinM2
    obtain ⟨M590,ok,h591⟩:=NRow.close e226 ok hr518 hx519 (show qbi m130 [vs x225.ID,vs x225.Source,vs x225.Target,c527,c529,vi x225.State,c532] (Entry.mk x225.ID x225.Source x225.Target x225.Comments x225.Flags x225.State l586) (M522 ++ M588) from ⟨_,_,_,_,_,rfl,rfl,l524,l525,l526,h528,h530,r531,h589⟩) hh521
    cases hF
    exact hnK hcj rfl (ok.pk 11 [2,3,0,4,5,6,7,8,9,10] rfl (by decide)) h221 h591
  have hF:=qbA c297 hF
  refine bd hF fun o298 hJ hF=>qnY (Q':=fun e a w=>e = .normal ∧ ∃ c299 M300,Ok u m130 (M300 :: [(b174,oc 105 [vi x160.call,vi x160.offset,vs x160.id,vs x160.source,vs x160.comment])] :: [(b115,oc 75 [vs x103.Name,vs x103.Text])] :: [(b114,oc 3 [vi v91])] :: [(b71,oc 130 [c219])] :: M220 :: [(b67,oc 44 [c299])] :: M65 :: [(b3,oc 47 [vi 0])] :: [(b2,oc 46 [vi 0,vi 0])] :: [(b1,oc 44 [(Value.slice none 0 0)])] :: S1) w ∧ Env 187 a [(1,vcalls_1),(6,vp b1),(7,vp b2),(8,vp b3),(9,c64),(15,vp b67),(16,vp b71),(17,vp b114),(18,vp b115),(20,vs s185),(22,(vb ((mget x_150 x160.id).isSome))),(23,(Value.pointer (some ⟨b227,o228,none⟩))),(69,vfiles_2),(70,(vi (files_2.length:Int))),(71,vi v91)] ∧ NRow 53 7 qbi m130 c299 o298.1 M300 ∧ NPtr 7 c299 o192.1 b227 o228) ?_ ?_
  ·have hF:=hJ
   obtain ⟨l329,e330,hF⟩:=bnd hF
   obtain rfl:=sj hF
   obtain ⟨cs340,c341,M342,M343,M344,ok,hr345,hx346,he347,hh348⟩:=NRow.open h296 e226 ok
   obtain ⟨c354,c356,c359,M349,M350,rfl,rfl,l351,l352,l353,h355,h357,r358,h360⟩:=he347
   replace ok:=ok.splitM2
   refine qno [4,6] (Cls u m130 (M342 :: [(b174,oc 105 [vi x160.call,vi x160.offset,vs x160.id,vs x160.source,vs x160.comment])] :: [(b115,oc 75 [vs x103.Name,vs x103.Text])] :: [(b114,oc 3 [vi v91])] :: [(b71,oc 130 [c219])] :: M220 :: [(b67,oc 44 [c222])] :: M65 :: [(b3,oc 47 [vi 0])] :: [(b2,oc 46 [vi 0,vi 0])] :: [(b1,oc 44 [(Value.slice none 0 0)])] :: [])) (Cls u m130 ([(b174,oc 105 [vi x160.call,vi x160.offset,vs x160.id,vs x160.source,vs x160.comment])] :: [(b115,oc 75 [vs x103.Name,vs x103.Text])] :: [(b114,oc 3 [vi v91])] :: [(b71,oc 130 [c219])] :: M220 :: M65 :: [(b3,oc 47 [vi 0])] :: [(b2,oc 46 [vi 0,vi 0])] :: [(b1,oc 44 [(Value.slice none 0 0)])] :: [])) (by kernel_rfl) rfl ?_
   intro w hw
   replace ok:=qb9 ok hw
   clear hw
   have le_m130:=Mem.le.refl m130
   refine qar (cl1 (cq le_m130 ok [0,4,5,6,7,8,9,10,11,12,13] rfl) (cq le_m130 ok [4,5,6,7,8,10,11,12,13] rfl)) fun hT=>kt 0 E rfl hT (qab rfl) fun a E=>kt 1 E rfl hT (qab rfl) fun a E=>kt 2 E rfl hT (qa4 rfl) fun a E=>kt 3 E rfl hT (qag qd3 rfl) fun a E=>?_
   obtain ⟨hl361,hh362⟩:=qdg hr345 hx346 hp229 (by decide)
   refine qa6 4 E rfl (by kernel_rfl) nP hT (qai qfr rfl (qac.sub 3 1 (qac.crow hh362 0 rfl))) rfl rfl fun a E=>kt 5 E rfl hT (qag qld rfl) fun a E=>qa6 6 E rfl (by kernel_rfl) nP hT (qai qam rfl (qac.cown 1 rfl rfl)) rfl rfl fun a E=>qaL [7] (by kernel_rfl) rfl (qaM ?_)
   ·refine wo rfl<|qa2 (R:=pS) (xo:=[.tmp 153]) (xs:=([x160.comment]:List (List UInt8))) E ok qdY qin rfl ⟨⟨_,rfl,rfl,(qpr l173)⟩,trivial⟩ rfl rfl rfl rfl fun c363 M364 a w E ok h365=>wn<|qar (cl1 (cq le_m130 ok [1,5,6,7,8,9,10,11,12,13,14] rfl) (cq le_m130 ok [5,6,7,8,9,11,12,13,14] rfl)) fun hT=>qaL [8] (by kernel_rfl) rfl (qaM ?_)
    ·refine wo rfl<|qcj (R:=pS) E ok 2 mS qdY Tryz.underlying50 rfl h355 (qa5.ofRow h365 0 rfl ok) e330 ⟨_,qin,rfl⟩ rfl rfl rfl rfl fun c366 M367 a w E ok h368=>wn<|qar (cl1 (cq le_m130 ok [1,5,6,7,8,9,10,11,12,13,14] rfl) (cq le_m130 ok [5,6,7,8,9,11,12,13,14] rfl)) fun hT=>kt 9 E rfl hT (qa4 rfl) fun a E=>kt 10 E rfl hT (qag qd3 rfl) fun a E=>qaL [11] (by kernel_rfl) rfl (qaM ?_)
     ·refine wo rfl<|qf5 (f:=3) (c':=[vs x225.ID,vs x225.Source,vs x225.Target,c366,c356,vi x225.State,c359]) E ok 1 rfl hr345 hx346 hp229 rfl rfl rfl qnP (ORow.cells h368) rfl rfl ⟨(ORow.one h368),trivial⟩ rfl ⟨rfl,rfl,rfl,(ORow.one h368),(qaS h357),rfl,(ORow.one h360),trivial⟩ rfl fun M369 w ok hr370 hx371=>?_
      have hh372:=qdE.set (c':=[vs x225.ID,vs x225.Source,vs x225.Target,c366,c356,vi x225.State,c359]) hh348
      refine wn<|qar (cl2 (by kernel_rfl) (cq le_m130 ok [5,6,7,8,9,11,12,13,14] rfl)) fun hT=>qbU (by kernel_rfl) ⟨rfl,?_⟩
      replace ok:Ok u m130 (M369 :: M367 :: M350 :: M344 :: M364 :: [(b174,oc 105 [vi x160.call,vi x160.offset,vs x160.id,vs x160.source,vs x160.comment])] :: [(b115,oc 75 [vs x103.Name,vs x103.Text])] :: [(b114,oc 3 [vi v91])] :: [(b71,oc 130 [c219])] :: M220 :: [(b67,oc 44 [c222])] :: M65 :: [(b3,oc 47 [vi 0])] :: [(b2,oc 46 [vi 0,vi 0])] :: [(b1,oc 44 [(Value.slice none 0 0)])] :: S1) w:=(ok.pk 15 [1,2,3,4,0,5,6,7,8,9,10,11,12,13,14] rfl (by decide))
      replace ok:=ok.joinM2
      obtain ⟨M373,ok,h374⟩:=NRow.close e226 ok hr370 hx371 (show qbi m130 [vs x225.ID,vs x225.Source,vs x225.Target,c366,c356,vi x225.State,c359] (Entry.mk x225.ID x225.Source x225.Target l329 x225.Flags x225.State x225.Fields) (M367 ++ M350) from ⟨_,_,_,_,_,rfl,rfl,l351,l352,l353,h368,h357,r358,h360⟩) hh372
      exact ⟨rfl,⟨c222,M373,(ok.pk 12 [0,2,3,4,5,6,7,8,9,10,11] rfl (by decide)),E.keep [1,6,7,8,9,15,16,17,18,20,22,23,69,70,71],h374,hp229⟩⟩
  intro e a w hO
  obtain ⟨rfl,c375,M376,ok,E,h377,hp378⟩:=hO
  refine bd hF fun x379 e380 hF=>qaa<|wpIn_seq<|wpIn_seq<|qdX rfl<|mv E rfl fun a E=>wpList_nil ⟨rfl,?_⟩
  refine qaa<|r_if E rfl (fun c381=>?_) (fun c381=>?_)
  rotate_left
  ·have hF:=qbB c381 hF
   refine wpIn_skip<|qaa<|qdX rfl<|mv E rfl fun a E=>lw E (qa4 rfl) fun a E=>fv E qbD rfl fun a E=>?_
   obtain ⟨cs461,c462,M463,M464,M465,ok,hr466,hx467,he468,hh469⟩:=NRow.open h377 e380 ok
   obtain ⟨c475,c477,c480,M470,M471,rfl,rfl,l472,l473,l474,h476,h478,r479,h481⟩:=he468
   replace ok:=ok.splitM2
   obtain ⟨hl482,hh483⟩:=qdg hr466 hx467 hp378 (by decide)
   refine lv E ok (qai qb3 rfl (qac.sub 6 1 (hh483 _ _ _ 0 rfl))) fun a E=>?_
   obtain ⟨x484,e485,hF⟩:=bnd hF
   obtain ⟨b486,o487,hp488,yy489⟩:=qco qbG h481 e485 (P:=Tryz.prog) (X:=.tmp 172) (I:=.const (vi 0)) (kd:=.i64) (qaz E rfl) (qaz E rfl)
   refine lv E ok (yy489 _ _) fun a E=>fv E qci rfl fun a E=>?_
   obtain ⟨es490,hl491,rr492,hh493⟩:=qep h481 e485 hp488 (by decide)
   obtain ⟨rfl,l494,l495⟩:=rr492
   refine lv E ok (qai qam rfl (qac.sub 1 1 (hh493 _ _ _ 2 rfl))) fun a E=>mv E rfl fun a E=>bd hF fun s496 e497 hF=>lw E (qaI rfl rfl e497) fun a E=>?_
   obtain ⟨x498,e499,hF⟩:=bnd hF
   obtain ⟨b500,o501,hp502,yy503⟩:=qco qbG h481 e499 (P:=Tryz.prog) (X:=.tmp 172) (I:=.const (vi 0)) (kd:=.i64) (qaz E rfl) (qaz E rfl)
   refine lv E ok (yy503 _ _) fun a E=>fv E qci rfl fun a E=>bd hF fun l506 e507 hF=>qc5 (R:=qc0) (f:=1) E ok 2 rfl h481 e499 hp502 rfl rfl rfl qfI rfl rfl rfl ⟨rfl,trivial⟩ (fun es _ h=>by obtain ⟨rfl,l504,l505⟩:=h; exact ⟨rfl,l504,(qaH e497)⟩) e507 rfl fun M508 w ok h509=>wpList_nil ⟨rfl,?_⟩
   refine qaj ?_
   replace ok:=ok.joinM2
   obtain ⟨M510,ok,h511⟩:=NRow.close e380 ok hr466 hx467 (show qbi m130 [vs x379.ID,vs x379.Source,vs x379.Target,c475,c477,vi x379.State,c480] (Entry.mk x379.ID x379.Source x379.Target x379.Comments x379.Flags x379.State l506) (M470 ++ M508) from ⟨_,_,_,_,_,rfl,rfl,l472,l473,l474,h476,h478,r479,h509⟩) hh469
   cases hF
   exact hnK hcj rfl (ok.pk 11 [2,3,0,4,5,6,7,8,9,10] rfl (by decide)) h221 h511
  have hF:=qbA c381 hF
  refine qdX rfl<|mv E rfl fun a E=>lw E (qa4 rfl) fun a E=>fv E qbD rfl fun a E=>?_
  obtain ⟨cs382,c383,M384,M385,M386,ok,hr387,hx388,he389,hh390⟩:=NRow.open h377 e380 ok
  obtain ⟨c396,c398,c401,M391,M392,rfl,rfl,l393,l394,l395,h397,h399,r400,h402⟩:=he389
  replace ok:=ok.splitM2
  obtain ⟨hl403,hh404⟩:=qdg hr387 hx388 hp378 (by decide)
  refine lv E ok (qai qb3 rfl (qac.sub 6 1 (hh404 _ _ _ 0 rfl))) fun a E=>?_
  obtain ⟨x405,e406,hF⟩:=bnd hF
  obtain ⟨b407,o408,hp409,yy410⟩:=qco qbG h402 e406 (P:=Tryz.prog) (X:=.tmp 162) (I:=.const (vi 0)) (kd:=.i64) (qaz E rfl) (qaz E rfl)
  refine lv E ok (yy410 _ _) fun a E=>fv E qci rfl fun a E=>?_
  obtain ⟨es411,hl412,rr413,hh414⟩:=qep h402 e406 hp409 (by decide)
  obtain ⟨rfl,l415,l416⟩:=rr413
  refine lv E ok (qai qam rfl (qac.sub 1 1 (hh414 _ _ _ 2 rfl))) fun a E=>bd hF fun s417 e418 hF=>lw E (qaI rfl rfl e418) fun a E=>?_
  obtain ⟨x419,e420,hF⟩:=bnd hF
  obtain ⟨b421,o422,hp423,yy424⟩:=qco qbG h402 e420 (P:=Tryz.prog) (X:=.tmp 162) (I:=.const (vi 0)) (kd:=.i64) (qaz E rfl) (qaz E rfl)
  refine lv E ok (yy424 _ _) fun a E=>fv E qci rfl fun a E=>bd hF fun l427 e428 hF=>qc5 (R:=qc0) (f:=1) E ok 2 rfl h402 e420 hp423 rfl rfl rfl qfI rfl rfl rfl ⟨rfl,trivial⟩ (fun es _ h=>by obtain ⟨rfl,l425,l426⟩:=h; exact ⟨rfl,l425,(qaH e418)⟩) e428 rfl fun M429 w ok h430=>wpList_nil ⟨rfl,?_⟩
  refine qaa<|qdX rfl<|mv E rfl fun a E=>lw E (qa4 rfl) fun a E=>fv E qbD rfl fun a E=>?_
  obtain ⟨hl431,hh432⟩:=qdg hr387 hx388 hp378 (by decide)
  refine lv E ok (qai qb3 rfl (qac.sub 6 1 (hh432 _ _ _ 0 rfl))) fun a E=>?_
  obtain ⟨x433,e434,hF⟩:=bnd hF
  obtain ⟨b435,o436,hp437,yy438⟩:=qco qbG h430 e434 (P:=Tryz.prog) (X:=.tmp 172) (I:=.const (vi 0)) (kd:=.i64) (qaz E rfl) (qaz E rfl)
  refine lv E ok (yy438 _ _) fun a E=>fv E qci rfl fun a E=>?_
  obtain ⟨es439,hl440,rr441,hh442⟩:=qep h430 e434 hp437 (by decide)
  obtain ⟨rfl,l443,l444⟩:=rr441
  refine lv E ok (qai qam rfl (qac.sub 1 1 (hh442 _ _ _ 2 rfl))) fun a E=>mv E rfl fun a E=>bd hF fun s445 e446 hF=>lw E (qaI rfl rfl e446) fun a E=>?_
  obtain ⟨x447,e448,hF⟩:=bnd hF
  obtain ⟨b449,o450,hp451,yy452⟩:=qco qbG h430 e448 (P:=Tryz.prog) (X:=.tmp 172) (I:=.const (vi 0)) (kd:=.i64) (qaz E rfl) (qaz E rfl)
  refine lv E ok (yy452 _ _) fun a E=>fv E qci rfl fun a E=>bd hF fun l455 e456 hF=>qc5 (R:=qc0) (f:=1) E ok 2 rfl h430 e448 hp451 rfl rfl rfl qfI rfl rfl rfl ⟨rfl,trivial⟩ (fun es _ h=>by obtain ⟨rfl,l453,l454⟩:=h; exact ⟨rfl,l453,(qaH e446)⟩) e456 rfl fun M457 w ok h458=>wpList_nil ⟨rfl,?_⟩
  refine qaj ?_
  replace ok:=ok.joinM2
  obtain ⟨M459,ok,h460⟩:=NRow.close e380 ok hr387 hx388 (show qbi m130 [vs x379.ID,vs x379.Source,vs x379.Target,c396,c398,vi x379.State,c401] (Entry.mk x379.ID x379.Source x379.Target x379.Comments x379.Flags x379.State l455) (M391 ++ M457) from ⟨_,_,_,_,_,rfl,rfl,l393,l394,l395,h397,h399,r400,h458⟩) hh390
  cases hF
  exact hnK hcj rfl (ok.pk 11 [2,3,0,4,5,6,7,8,9,10] rfl (by decide)) h221 h460
 
 ·rintro D ⟨ixD,outD⟩ T W ⟨M,c',M',rfl,h1,h2,h3⟩ hrunD okW hD hDef
  rw [hrun] at hrunD
  obtain rfl:=Option.some.inj hrunD
  have hF:=qa1 hF
  have ok2:Ok u m94 (MkS Ds :: M' :: [(b71,oc 130 [c96])] :: M :: [(b67,oc 44 [c'])] :: M65 :: [(b3,oc 47 [vi 0])] :: [(b2,oc 46 [vi 0,vi 0])] :: [(b1,oc 44 [(Value.slice none 0 0)])] :: S) W:=okW.pk 13 [12,4,5,6,7,8,9,10,11] rfl (by decide)
  have hcl:=segs (v3:=vi 0) (v21:=vi 0) (v22:=vi 0) (c':=c') hSlt2 (h1.blk hbm) (qjJ h2)
  have ok3:=ok2.addMk hmlt (fun q hq=>hcl q (by simp only [List.flatten_cons,List.mem_append] at hq ⊢; grind)) hD hDef
  replace ok:Ok u m94 (M' :: [(b71,oc 130 [c96])] :: M :: [(b67,oc 44 [c'])] :: M65 :: [(b3,oc 47 [vi 0])] :: [(b2,oc 46 [vi 0,vi 0])] :: [(b1,oc 44 [(Value.slice none 0 0)])] :: MkS (D :: Ds) :: S) W:=ok3.pk 9 [1,2,3,4,5,6,7,8,0] rfl (by decide)
  refine qaj<|qaj<|qaa ?_
  show Code.wp _ _ _ { a with defers:=qhv (D :: Ds) } W
  refine qjt<|qiN E0 ok (qav rfl rfl (InR.inc r95 (qak hfiles_2) c102)) rfl rfl fun a E=>mv E rfl fun a E=>wpList_nil ⟨rfl,E.d,?_⟩
  cases hF
  exact qaq ⟨D :: Ds,_,m94,c96,M,c',M',rfl,le_m63,ok,E.keep [1,6,7,8,9,15,16,69,70,71],(InR.inc r95 (qak hfiles_2) c102),h1,h2⟩
 ·rintro D ⟨e1,e2,e3⟩ T W ⟨M,c',M',rfl,h1,h2,he1,hr1,hr2,hr3⟩ hrunD okW hD hDef
  rw [hrun] at hrunD
  obtain rfl:=Option.some.inj hrunD
  have hF:=qgT hF
  have ok2:Ok u m94 (MkS Ds :: [(b3,oc 47 [vi e3])] :: [(b2,oc 46 [vi e2.File,vi e2.Offset])] :: [(b1,oc 44 [(Value.slice none 0 0)])] :: S) W:=okW.pk 13 [12,9,10,11] rfl (by decide)
  have hcl:=segs (v3:=vi e3) (v21:=vi e2.File) (v22:=vi e2.Offset) (c':=c') hSlt2 h1 h2
  have ok3:=ok2.addMk hmlt (fun q hq=>hcl q (by simp only [List.flatten_cons,List.mem_append] at hq ⊢; grind)) hD hDef
  obtain ⟨hK,hnD⟩:=ok3.mkK
  have ok4:=ok3.takenM
  refine qah<|qah<|qae ?_
  have hret:qbw u m0 S (e1,e2,e3) a (taken W (D :: Ds)):=⟨m94,(.slice none 0 0),[vi e2.File,vi e2.Offset],le_m0,ok4.drop.drop.drop,E0.d,⟨qeQ E0 ok4 rfl qeX (qac.own 2 rfl rfl),rv_c (cs:=[vi e2.File,vi e2.Offset]) E0 ok4 rfl qg5 rfl (qac.own 1 rfl rfl),qeQ E0 ok4 rfl qhA (qac.own 0 rfl rfl),trivial⟩,he1 ▸ qbh,⟨rfl,hr2,hr3⟩,hr1⟩
  cases hF
  exact so (sr ⟨rfl,D :: Ds,a,rfl,hK,hnD,hret⟩)
end Go.Proofs.YtllfckekodcdaaaGreatDoor
namespace Go.Proofs.YtllfckekodcdaaaGreatDoor
open Go.X
variable {u:World} {m0:Mem} {S:Segs} {w:World}
set_option maxHeartbeats 4000000
set_option maxRecDepth 100000
def qjI:Rp Setting:=fun m cs x=>∃ c0 c1,cs = [c0,c1] ∧ (pL 2 qbP) m [c0] x.Script ∧ (pL 3 qdI) m [c1] x.Calls
theorem qoB:qay Tryz.prog 41 0 0 = true:=by kernel_rfl
theorem qoI:qay Tryz.prog 41 1 1 = true:=by kernel_rfl
theorem quf:goB Tryz.prog 13 = true:=by kernel_rfl
theorem qup:goB Tryz.prog 21 = true:=by kernel_rfl
theorem qrr:goB Tryz.prog 23 = true:=by kernel_rfl
theorem qtM:goB Tryz.prog 27 = true:=by kernel_rfl
theorem qrA:goB Tryz.prog 28 = true:=by kernel_rfl
theorem quy:goB Tryz.prog 32 = true:=by kernel_rfl
theorem qtW:goB Tryz.prog 33 = true:=by kernel_rfl
theorem go_9:goB Tryz.prog 9 = true:=by kernel_rfl
theorem qqf:oneB Tryz.prog 22 = true:=by kernel_rfl
theorem qp3:oneB Tryz.prog 39 = true:=by kernel_rfl
theorem qqh:qcZ Tryz.prog 75 = some [(0,1),(1,1)]:=by kernel_rfl
theorem qqq:qcZ Tryz.prog 83 = some [(0,1),(1,1),(2,1)]:=by kernel_rfl
def qjP (u:World) (m0:Mem) (S:Segs) (r:Bool) (a:Act) (w:World):Prop :=
 Ok u m0 S w ∧ a.defers = [] ∧ RVs Tryz.prog a w [.t 0 (.bool r)]
theorem qjU (N:Nat) {r:Bool} (hF:qeN N  = some r) (hG:Glob u) (hTb:Tab u) (ok:Ok u m0 S w) :
  Calls Tryz.prog 8 [].toArray w fun e w'=>(e = .returned (.bool r) ∧ Ok u m0 S w'):=by
 have hb0:=ok.base
 have le_m0:=Mem.le.refl m0
 unfold qeN at hF
 refine en (qjP u m0 S) r Tryz.func8 rfl rfl rfl (fun _ _ h=>ra h rfl) fun fin a E=>sg<|aw E rfl fun a E=>sg<|bd hF fun r1 e2 hF=>qas E qtM rfl (qjV N ([115,116,97,116,101,32,109,97,105,110,10,115,107,105,112,32,91,92,120,50,48,92,120,48,97,93,43,10,110,97,109,101,32,91,97,45,122,93,43,10,115,116,114,105,110,103,32,34,92,34,34,32,45,62,32,116,101,120,116,10,111,112,101,110,32,34,40,34,10,99,108,111,115,101,32,34,41,34,10,99,111,109,109,97,32,34,44,34,10,99,111,109,109,101,110,116,32,34,47,47,34,32,91,94,92,120,48,97,93,42,10,115,116,97,116,101,32,116,101,120,116,10,116,101,120,116,32,91,94,34,93,43,10,101,110,100,32,34,92,34,34,32,45,62,32,109,97,105,110,10]) (show ([115,116,97,116,101,32,109,97,105,110,10,115,107,105,112,32,91,92,120,50,48,92,120,48,97,93,43,10,110,97,109,101,32,91,97,45,122,93,43,10,115,116,114,105,110,103,32,34,92,34,34,32,45,62,32,116,101,120,116,10,111,112,101,110,32,34,40,34,10,99,108,111,115,101,32,34,41,34,10,99,111,109,109,97,32,34,44,34,10,99,111,109,109,101,110,116,32,34,47,47,34,32,91,94,92,120,48,97,93,42,10,115,116,97,116,101,32,116,101,120,116,10,116,101,120,116,32,91,94,34,93,43,10,101,110,100,32,34,92,34,34,32,45,62,32,109,97,105,110,10]:List UInt8).length ≤ LIMS by decide) e2 hG ok) rfl rfl ?_
 rintro _ w ⟨m3,c4,rfl,hle,ok,h5,r6,r7⟩
 have le_m0:=le_m0.trans hle
 refine ⟨_,rfl,fun a E=>?_⟩
 refine mv E rfl fun a E=>lw E (qan rfl rfl) fun a E=>lw E (qan rfl rfl) fun a E=>lw E (qan rfl rfl) fun a E=>av E rfl fun a E=>av E rfl fun a E=>av E rfl fun a E=>wn<|sg<|mv E rfl fun a E=>bd hF fun r8 e9 hF=>qas E qrr rfl (qhT N _ r1.1 h5 e9 hG ok) rfl rfl ?_
 rintro _ w ⟨m10,c11,rfl,hle,ok,h12⟩
 have le_m0:=le_m0.trans hle
 have h5:=(mL qaA).up hle h5
 refine ⟨_,rfl,fun a E=>?_⟩
 refine lw E (qaT (ps:=[(0,.const (vs ([116,114]))),(1,.const (vi (-1))),(2,.const (vi 0))]) (qs:=[(0,[(vs ([116,114]))]),(1,[(vi (-1))]),(2,[vi 0])]) (cs:=[(vs ([116,114])),(vi (-1)),vi 0]) qjo qqq rfl ⟨rfl,rfl,rfl,⟨rfl,rfl,rfl,⟨rfl,rfl,rfl,trivial⟩⟩⟩ rfl) fun a E=>qa2 (R:=qdI) (xo:=[.tmp 15]) (xs:=([(Call.mk ([116,114]) (-1) 0)]:List (Call))) E ok qfJ qjo rfl ⟨⟨_,rfl,rfl,⟨rfl,(show ([116,114]:List UInt8).length ≤ LIMS by decide),(ir (-1)),(ir 0)⟩⟩,trivial⟩ rfl rfl rfl rfl fun c13 M14 a w E ok h15=>lw E (qaT (ps:=[(0,.const (vs ([97,46,120]))),(1,.const (vs ([47,47,32,97,32,103,114,101,101,116,105,110,103,10,116,114,40,34,72,101,108,108,111,44,32,123,110,97,109,101,125,33,34,41])))]) (qs:=[(0,[(vs ([97,46,120]))]),(1,[(vs ([47,47,32,97,32,103,114,101,101,116,105,110,103,10,116,114,40,34,72,101,108,108,111,44,32,123,110,97,109,101,125,33,34,41]))])]) (cs:=[(vs ([97,46,120])),(vs ([47,47,32,97,32,103,114,101,101,116,105,110,103,10,116,114,40,34,72,101,108,108,111,44,32,123,110,97,109,101,125,33,34,41]))]) qhs qqh rfl ⟨rfl,rfl,rfl,⟨rfl,rfl,rfl,trivial⟩⟩ rfl) fun a E=>qa2 (R:=qeG) (xo:=[.tmp 17]) (xs:=([(File.mk ([97,46,120]) ([47,47,32,97,32,103,114,101,101,116,105,110,103,10,116,114,40,34,72,101,108,108,111,44,32,123,110,97,109,101,125,33,34,41]))]:List (File))) E ok qhw qhs rfl ⟨⟨_,rfl,rfl,⟨rfl,(show ([97,46,120]:List UInt8).length ≤ LIMS by decide),(show ([47,47,32,97,32,103,114,101,101,116,105,110,103,10,116,114,40,34,72,101,108,108,111,44,32,123,110,97,109,101,125,33,34,41]:List UInt8).length ≤ LIMS by decide)⟩⟩,trivial⟩ rfl rfl rfl rfl fun c16 M17 a w E ok h18=>?_
 obtain ⟨m19,hle,ok,hfz⟩:=(ok.frs 1 rfl).freeze
 have h20:=ORow.froz qbI h15 hle hfz (by decide)
 have le_m0:=le_m0.trans hle
 have h5:=(mL qaA).up hle h5
 have h12:=(mL qaA).up hle h12
 have h18:=ORow.up qbF hle h18
 obtain ⟨m21,hle,ok,hfz⟩:=(ok.frs 0 rfl).freeze
 have h22:=ORow.froz qbF h18 hle hfz (by decide)
 have le_m0:=le_m0.trans hle
 have h5:=(mL qaA).up hle h5
 have h12:=(mL qaA).up hle h12
 have h20:=(mL qbI).up hle h20
 refine bd hF fun r23 e24 hF=>qas E qrA rfl (qhU N _ r8 h12 _ ([(Call.mk ([116,114]) (-1) 0)]:List (Call)) h20 _ ([(File.mk ([97,46,120]) ([47,47,32,97,32,103,114,101,101,116,105,110,103,10,116,114,40,34,72,101,108,108,111,44,32,123,110,97,109,101,125,33,34,41]))]:List (File)) h22 e24 hG hTb ok) rfl rfl ?_
 rintro _ w ⟨m25,c26,vs28,rfl,hle,ok,h27,h29,r30⟩
 have le_m0:=le_m0.trans hle
 have h5:=(mL qaA).up hle h5
 have h12:=(mL qaA).up hle h12
 have h20:=(mL qbI).up hle h20
 have h22:=(mL qbF).up hle h22
 obtain ⟨rfl,r31,r32⟩:=h29
 refine ⟨_,rfl,fun a E=>?_⟩
 refine mv E rfl fun a E=>lw E (qan rfl rfl) fun a E=>lw E (qan rfl rfl) fun a E=>lw E (qan rfl rfl) fun a E=>qaB E ok qdm rfl rfl fun b33 a w E ok=>av E rfl fun a E=>qaf E ok 0 rfl rfl rfl qd8 rfl rfl ⟨rfl,rfl,trivial⟩ rfl rfl fun w ok=>av E rfl fun a E=>wn<|sg<|mv E rfl fun a E=>lw E (qa3 rfl rfl) fun a E=>mv E rfl fun a E=>bw E 25 hF (fun c34 hF E=>?_) fun c34 hF E=>?_
 ·refine lsz E fun a E=>lsq E fun a E=>ls E fun a E=>pf E rfl rfl fun a E=>aw E rfl fun a E=>wp_ret ?_
  exact fin hF ⟨(ok.drop).down hb0 le_m0,E.d,rz E rfl⟩
 refine mv E rfl fun a E=>qa2 (R:=pS) (xo:=[.const (vs ([97,32,103,114,101,101,116,105,110,103]))]) (xs:=([[97,32,103,114,101,101,116,105,110,103]]:List (List UInt8))) E ok qdY qin rfl ⟨⟨_,rfl,rfl,(qpr (show ([97,32,103,114,101,101,116,105,110,103]:List UInt8).length ≤ LIMS by decide))⟩,trivial⟩ rfl rfl rfl rfl fun c35 M36 a w E ok h37=>lw E (qaT (ps:=[(0,.const (vs ([114,101,102]))),(1,.const (vs ([97,46,120,58,50])))]) (qs:=[(0,[(vs ([114,101,102]))]),(1,[(vs ([97,46,120,58,50]))])]) (cs:=[(vs ([114,101,102])),(vs ([97,46,120,58,50]))]) qid qkw rfl ⟨rfl,rfl,rfl,⟨rfl,rfl,rfl,trivial⟩⟩ rfl) fun a E=>qa2 (R:=qc0) (xo:=[.tmp 28]) (xs:=([(Field.mk ([114,101,102]) ([97,46,120,58,50]))]:List (Field))) E ok qbG qid rfl ⟨⟨_,rfl,rfl,⟨rfl,(show ([114,101,102]:List UInt8).length ≤ LIMS by decide),(show ([97,46,120,58,50]:List UInt8).length ≤ LIMS by decide)⟩⟩,trivial⟩ rfl rfl rfl rfl fun c38 M39 a w E ok h40=>lw E (qaT (ps:=[(0,.const (vs ([72,101,108,108,111,44,32,123,110,97,109,101,125,33]))),(1,.const (vs ([72,101,108,108,111,44,32,123,110,97,109,101,125,33]))),(3,.tmp 27),(6,.tmp 29)]) (qs:=[(0,[(vs ([72,101,108,108,111,44,32,123,110,97,109,101,125,33]))]),(1,[(vs ([72,101,108,108,111,44,32,123,110,97,109,101,125,33]))]),(3,[c35]),(6,[c38])]) (cs:=[(vs ([72,101,108,108,111,44,32,123,110,97,109,101,125,33])),(vs ([72,101,108,108,111,44,32,123,110,97,109,101,125,33])),(vs ([])),c35,(Value.slice none 0 0),vi 0,c38]) qeU qj9 rfl ⟨rfl,rfl,rfl,⟨rfl,rfl,rfl,⟨rfl,(ORow.cells h37),rfl,⟨rfl,(ORow.cells h40),rfl,trivial⟩⟩⟩⟩ rfl) fun a E=>?_
 obtain ⟨m41,hle,ok,hfz⟩:=(ok.frs 1 rfl).freeze
 have h42:=ORow.froz mS h37 hle hfz (by decide)
 have le_m0:=le_m0.trans hle
 have h5:=(mL qaA).up hle h5
 have h12:=(mL qaA).up hle h12
 have h20:=(mL qbI).up hle h20
 have h22:=(mL qbF).up hle h22
 have h27:=(mL qbr).up hle h27
 have h40:=ORow.up qcA hle h40
 obtain ⟨m43,hle,ok,hfz⟩:=(ok.frs 0 rfl).freeze
 have h44:=ORow.froz qcA h40 hle hfz (by decide)
 have le_m0:=le_m0.trans hle
 have h5:=(mL qaA).up hle h5
 have h12:=(mL qaA).up hle h12
 have h20:=(mL qbI).up hle h20
 have h22:=(mL qbF).up hle h22
 have h27:=(mL qbr).up hle h27
 have h42:=(mL mS).up hle h42
 refine qa2 (R:=qc7) (xo:=[.tmp 30]) (xs:=([(Entry.mk ([72,101,108,108,111,44,32,123,110,97,109,101,125,33]) ([72,101,108,108,111,44,32,123,110,97,109,101,125,33]) ([]) ([[97,32,103,114,101,101,116,105,110,103]]:List (List UInt8)) ([]) 0 ([(Field.mk ([114,101,102]) ([97,46,120,58,50]))]:List (Field)))]:List (Entry))) E ok qb0 qeU rfl ⟨⟨_,rfl,rfl,⟨_,_,_,rfl,(show ([72,101,108,108,111,44,32,123,110,97,109,101,125,33]:List UInt8).length ≤ LIMS by decide),(show ([72,101,108,108,111,44,32,123,110,97,109,101,125,33]:List UInt8).length ≤ LIMS by decide),(Nat.zero_le _),h42,qbh,(ir 0),h44⟩⟩,trivial⟩ rfl rfl rfl rfl fun c45 M46 a w E ok h47=>?_
 obtain ⟨r53,e54,hF⟩:=bnd hF
 obtain ⟨m48,hle50,ok49,hfz51⟩:=(ok.frs 0 rfl).freeze
 have h52:=ORow.froz qbr h47 hle50 hfz51 (by decide)
 have h27':=(mL qbr).up hle50 h27
 refine qas E qup rfl (qkg N _ r23.1 h27' _ ([(Entry.mk ([72,101,108,108,111,44,32,123,110,97,109,101,125,33]) ([72,101,108,108,111,44,32,123,110,97,109,101,125,33]) ([]) ([[97,32,103,114,101,101,116,105,110,103]]:List (List UInt8)) ([]) 0 ([(Field.mk ([114,101,102]) ([97,46,120,58,50]))]:List (Field)))]:List (Entry)) h52 e54 hG ok49) rfl rfl ?_
 rintro _ w ⟨rfl,okz⟩
 replace ok:=(Ok.thawAt 0 rfl ok hle50 hfz51 okz)
 refine ⟨_,rfl,fun a E=>?_⟩
 refine pt E rfl rfl fun a E=>aw E rfl fun a E=>wp_ret ?_
 exact fin hF ⟨(ok.drop.drop).down hb0 le_m0,E.d,rz E rfl⟩
def qk2 (u:World) (m0:Mem) (S:Segs) (r:Bool) (a:Act) (w:World):Prop :=
 Ok u m0 S w ∧ a.defers = [] ∧ RVs Tryz.prog a w [.t 4 (.bool r)]
theorem qkZ (N:Nat) (vs_0:List Value) (s_0:Setting) (hs_0:qjI m0 vs_0 s_0) (vl_1:Value) (l_1:List (File)) (hl_1:(pL 2 qeG) m0 [vl_1] l_1) {r:Bool} (hF:qes N s_0 l_1 = some r) (hG:Glob u) (ok:Ok u m0 S w) :
  Calls Tryz.prog 15 [.agg vs_0.toArray,vl_1].toArray w fun e w'=>(e = .returned (.bool r) ∧ Ok u m0 S w'):=by
 obtain ⟨c1,c3,rfl,h2,h4⟩:=hs_0
 unfold qes at hF
 refine en (qk2 u m0 S) r Tryz.func15 rfl rfl rfl (fun _ _ h=>ra h rfl) fun fin a E=>sg<|qdi E ok rfl rfl rfl fun b5 a w E ok=>aw E rfl fun a E=>sg<|fk E ok qoB qp3 rfl 0 rfl rfl fun a E=>bd hF fun r6 e7 hF=>lc E quy rfl (qkW N _ s_0.Script h2 e7 hG ok) fun w ok a E=>mv E rfl fun a E=>qcr r6 (fun c8=>?_) (fun c8=>?_)
 rotate_left
 ·have hF:=qbB c8 hF
  have E:=E.upd 8 c8 rfl
  refine lsz E fun a E=>pf E rfl rfl fun a E=>aw E rfl fun a E=>wp_ret ?_
  exact fin hF ⟨ok.drop,E.d,rz E rfl⟩
 have hF:=qbA c8 hF
 have E:=E.upd 8 c8 rfl
 refine fk E ok qoI qqf rfl 0 rfl rfl fun a E=>mv E rfl fun a E=>bd hF fun r9 e10 hF=>lc E go_9 rfl (qk4 N _ s_0.Calls h4 _ l_1 hl_1 e10 hG ok) fun w ok a E=>pt E rfl rfl fun a E=>aw E rfl fun a E=>wp_ret ?_
 exact fin hF ⟨ok.drop,E.d,rz E rfl⟩
def qkV (u:World) (m0:Mem) (S:Segs) (r:(List (Entry)) × Place × Int) (a:Act) (w:World):Prop :=
 ∃ m1 v0 v1,m0.le m1 ∧ Ok u m1 S w ∧ a.defers = [] ∧ RVs Tryz.prog a w [.t 4 v0,.c 5 46 (.agg v1.toArray),.t 6 (.int .i64 r.2.2)] ∧ (pL 7 qc7) m1 [v0] r.1 ∧ qja m1 v1 r.2.1 ∧ InR .i64 r.2.2
theorem qdW (N:Nat) (vs_0:List Value) (s_0:Setting) (hs_0:qjI m0 vs_0 s_0) (vl_1:Value) (l_1:List (File)) (hl_1:(pL 2 qeG) m0 [vl_1] l_1) {r:(List (Entry)) × Place × Int} (hF:qc8 N s_0 l_1 = some r) (hG:Glob u) (hTb:Tab u) (ok:Ok u m0 S w) :
  Calls Tryz.prog 16 [.agg vs_0.toArray,vl_1].toArray w fun e w'=>∃ m1 v0 v1,e = .returned (.tuple [v0,(.agg v1.toArray),(.int .i64 r.2.2)].toArray) ∧ m0.le m1 ∧ Ok u m1 S w' ∧ (pL 7 qc7) m1 [v0] r.1 ∧ qja m1 v1 r.2.1 ∧ InR .i64 r.2.2:=by
 obtain ⟨c1,c3,rfl,h2,h4⟩:=hs_0
 have le_m0:=Mem.le.refl m0
 unfold qc8 at hF
 refine en (qkV u m0 S) r Tryz.func16 rfl rfl rfl (by rintro a w ⟨m1,v0,v1,hle,ok,hd,hrv,h0,h1,h2⟩; exact qbT [.t 4 v0,.c 5 46 (.agg v1.toArray),.t 6 (.int .i64 r.2.2)] hd rfl hrv ⟨m1,v0,v1,rfl,hle,ok,h0,h1,h2⟩) fun fin a E=>sg<|qdi E ok rfl rfl rfl fun b5 a w E ok=>av E rfl fun a E=>qaB E ok qdm rfl rfl fun b6 a w E ok=>av E rfl fun a E=>wn<|wp_seq<|bd hF fun o7 hJ hF=>qba (Q':=fun e a w=>e = .normal ∧ ∃ m8 c9,m0.le m8 ∧ Ok u m8 ([(b6,oc 46 [vi o7.2.2.File,vi o7.2.2.Offset])] :: [(b5,oc 41 [c1,c3])] :: S) w ∧ Env 19 a [(4,c9),(5,vp b6),(6,vi o7.2.1)] ∧ (pL 7 qc7) m8 [c9] o7.1 ∧ InR .i64 o7.2.1 ∧ InR .i64 o7.2.2.File ∧ InR .i64 o7.2.2.Offset) ?_ ?_
 rotate_left
 ·intro e a w hO
  obtain ⟨rfl,m56,c57,hle,ok,E,h58,r59,r60,r61⟩:=hO
  have le_m0:=le_m0.trans hle
  have h2:=(mL qaA).up hle h2
  have h4:=(mL qbI).up hle h4
  have hl_1:=(mL qbF).up hle hl_1
  refine qaa<|wp_ret ?_
  exact fin hF ⟨m56,c57,[vi o7.2.2.File,vi o7.2.2.Offset],le_m0,ok.drop.drop,E.d,⟨rv_t E rfl,rv_c (cs:=[vi o7.2.2.File,vi o7.2.2.Offset]) E ok rfl qg5 rfl (qac.own 0 rfl rfl),rv_t E rfl,trivial⟩,h58,⟨rfl,r60,r61⟩,r59⟩
 have hF:=hJ
 obtain ⟨r14,e15,hF⟩:=bnd hF
 obtain ⟨r19,e20,hF⟩:=bnd hF
 obtain ⟨r24,e25,hF⟩:=bnd hF
 obtain ⟨r29,e30,hF⟩:=bnd hF
 obtain rfl:=sj hF
 refine qbY [1,4] (Cls u m0 ([(b6,oc 46 [vi 0,vi 0])] :: [(b5,oc 41 [c1,c3])] :: [])) (Cls u m0 ([(b5,oc 41 [c1,c3])] :: [])) (by kernel_rfl) ?_
 intro w hw
 replace ok:=qb9 ok hw
 clear hw
 have h2_o:=h2
 have h4_o:=h4
 have hl_1_o:=hl_1
 refine qar (cl1 (cq le_m0 ok [0,1] rfl) (cq le_m0 ok [1] rfl)) fun hT=>kt 0 E rfl hT (qag qoB rfl) fun a E=>qa6 1 E rfl (by kernel_rfl) nP hT (qai qp3 rfl (qac.cown 1 rfl rfl)) rfl rfl fun a E=>kt 3 E rfl hT (qag qoI rfl) fun a E=>qa6 4 E rfl (by kernel_rfl) nP hT (qai qqf rfl (qac.cown 1 rfl rfl)) rfl rfl fun a E=>kt 6 E rfl hT (qab rfl) fun a E=>qaL [2] (by kernel_rfl) rfl (qaM ?_)
 ·refine wo rfl<|qas E qrr rfl (qhT N _ s_0.Script h2 e15 hG ok) rfl rfl ?_
  rintro _ w ⟨m39,c40,rfl,hle,ok,h41⟩
  have le_m0:=le_m0.trans hle
  have h2:=(mL qaA).up hle h2
  have h4:=(mL qbI).up hle h4
  have hl_1:=(mL qbF).up hle hl_1
  refine ⟨_,rfl,fun a E=>?_⟩
  refine wn<|qar (cl1 (cq le_m0 ok [0,1] rfl) (cq le_m0 ok [1] rfl)) fun hT=>qaL [5] (by kernel_rfl) rfl (qaM ?_)
  ·refine wo rfl<|qas E quf rfl (qkY N _ s_0.Calls h4 e20 hG ok) rfl rfl ?_
   rintro _ w ⟨m42,c43,rfl,hle,ok,h44⟩
   have le_m0:=le_m0.trans hle
   have h2:=(mL qaA).up hle h2
   have h4:=(mL qbI).up hle h4
   have hl_1:=(mL qbF).up hle hl_1
   have h41:=(mL qaA).up hle h41
   refine ⟨_,rfl,fun a E=>?_⟩
   refine wn<|qar (cl1 (cq le_m0 ok [0,1] rfl) (cq le_m0 ok [1] rfl)) fun hT=>qaL [7] (by kernel_rfl) rfl (qaM ?_)
   ·refine wo rfl<|qas E qtW rfl (qjW N _ l_1 hl_1 e25 hG ok) rfl rfl ?_
    rintro _ w ⟨m45,c46,rfl,hle,ok,h47⟩
    have le_m0:=le_m0.trans hle
    have h2:=(mL qaA).up hle h2
    have h4:=(mL qbI).up hle h4
    have hl_1:=(mL qbF).up hle hl_1
    have h41:=(mL qaA).up hle h41
    have h44:=(mL qbI).up hle h44
    refine ⟨_,rfl,fun a E=>?_⟩
    refine wn<|qar (cl1 (cq le_m0 ok [0,1] rfl) (cq le_m0 ok [1] rfl)) fun hT=>qaL [8] (by kernel_rfl) rfl (qaM ?_)
    ·refine wo rfl<|qas E qrA rfl (qhU N _ r14 h41 _ r19 h44 _ r24 h47 e30 hG hTb ok) rfl rfl ?_
     rintro _ w ⟨m48,c49,vs51,rfl,hle,ok,h50,h52,r53⟩
     have le_m0:=le_m0.trans hle
     have h2:=(mL qaA).up hle h2
     have h4:=(mL qbI).up hle h4
     have hl_1:=(mL qbF).up hle hl_1
     have h41:=(mL qaA).up hle h41
     have h44:=(mL qbI).up hle h44
     have h47:=(mL qbF).up hle h47
     obtain ⟨rfl,r54,r55⟩:=h52
     refine ⟨_,rfl,fun a E=>?_⟩
     refine wn<|qar (cl1 (cq le_m0 ok [0,1] rfl) (cq le_m0 ok [1] rfl)) fun hT=>kt 9 E rfl hT (qan rfl rfl) fun a E=>kt 10 E rfl hT (qan rfl rfl) fun a E=>kt 11 E rfl hT (qan rfl rfl) fun a E=>kt 12 E rfl hT (qap rfl) fun a E=>qaL [13] (by kernel_rfl) rfl (qaM ?_)
     ·refine wo rfl<|qaf E ok 0 rfl rfl rfl qd8 rfl rfl ⟨rfl,rfl,trivial⟩ rfl rfl fun w ok=>wn<|qar (cl2 (by kernel_rfl) (cq le_m0 ok [1] rfl)) fun hT=>kt 14 E rfl hT (qap rfl) fun a E=>qbU (by kernel_rfl) ?_
      exact ⟨rfl,⟨m48,c49,le_m0,ok,E.keep [4,5,6],h50,r53,r54,r55⟩⟩
end Go.Proofs.YtllfckekodcdaaaGreatDoor
namespace Go.Proofs.YtllfckekodcdaaaGreatDoor
open Go.X
variable {u:World} {m0:Mem} {S:Segs} {w:World}
set_option maxHeartbeats 4000000
set_option maxRecDepth 100000
theorem qlW:aggB Tryz.prog 41 2 = true:=by kernel_rfl
theorem qtS:goB Tryz.prog 15 = true:=by kernel_rfl
theorem qls:goB Tryz.prog 16 = true:=by kernel_rfl
theorem qrC:goB Tryz.prog 17 = true:=by kernel_rfl
theorem quk:goB Tryz.prog 18 = true:=by kernel_rfl
theorem go_8:goB Tryz.prog 8 = true:=by kernel_rfl
theorem qtn:∃ i,Tryz.prog.info? 51 = some i ∧ i.size = 1:=⟨_,rfl,by kernel_rfl⟩
def qb8 (u:World) (m0:Mem) (S:Segs) (r:Bool) (a:Act) (w:World):Prop :=
 Ok u m0 S w ∧ a.defers = [] ∧ RVs Tryz.prog a w [.t 6 (.bool r)]
theorem qhQ (N:Nat) (vs_0:List Value) (s_0:Setting) (hs_0:qjI m0 vs_0 s_0) (vl_1:Value) (l_1:List (File)) (hl_1:(pL 2 qeG) m0 [vl_1] l_1) (at_2:Int) (rat_2:InR .u8 at_2) {r:Bool} (hF:qbH N s_0 l_1 at_2 = some r) (hG:Glob u) (hTb:Tab u) (ok:Ok u m0 S w) :
  Calls Tryz.prog 4 [.agg vs_0.toArray,vl_1,Value.int .u8 at_2].toArray w fun e w'=>(e = .returned (.bool r) ∧ Ok u m0 S w'):=by
 obtain ⟨c1,c3,rfl,h2,h4⟩:=hs_0
 have hb0:=ok.base
 have le_m0:=Mem.le.refl m0
 unfold qbH at hF
 refine en (qb8 u m0 S) r Tryz.func4 rfl rfl rfl (fun _ _ h=>ra h rfl) fun fin a E=>sg<|qdi E ok rfl rfl rfl fun b5 a w E ok=>aw E rfl fun a E=>wp_seq<|sg<|bd hF fun r6 e7 hF=>lc E go_8 rfl (qjU N  e7 hG hTb ok) fun w ok a E=>lw E (qbl rfl) fun a E=>wn<|cf E rfl hF (fun c8 hF=>?_) fun c8 hF=>?_
 ·refine sg<|aw E rfl fun a E=>wp_ret<|qae ?_
  exact fin hF ⟨ok.drop,E.d,rz E rfl⟩
 refine wp_skip<|qaa<|wp_seq<|sg<|lv E ok (qal (cs:=[c1,c3]) qlW rfl rfl (qac.own 0 rfl rfl)) fun a E=>mv E rfl fun a E=>bd hF fun r9 e10 hF=>lc E qtS rfl (qkZ N _ s_0 ⟨_,_,rfl,h2,h4⟩ _ l_1 hl_1 e10 hG ok) fun w ok a E=>lw E (qbl rfl) fun a E=>wn<|cf E rfl hF (fun c11 hF=>?_) fun c11 hF=>?_
 ·refine sg<|aw E rfl fun a E=>wp_ret<|qae ?_
  exact fin hF ⟨ok.drop,E.d,rz E rfl⟩
 refine wp_skip<|qaa<|sg<|mv E rfl fun a E=>lw E (qjf Tryz.underlying5 Tryz.underlying3 rfl rat_2 (by decide)) fun a E=>mv E rfl fun a E=>lv E ok (qao qh6 hl_1 rfl) fun a E=>lw E (qaw rfl rfl) fun a E=>bd hF fun q12 e13 hF=>lw E (y_rm rfl rfl e13) fun a E=>aw E rfl fun a E=>sg<|lv E ok (qal (cs:=[c1,c3]) qlW rfl rfl (qac.own 0 rfl rfl)) fun a E=>mv E rfl fun a E=>bd hF fun r14 e15 hF=>qas E qls rfl (qdW N _ s_0 ⟨_,_,rfl,h2,h4⟩ _ l_1 hl_1 e15 hG hTb ok) rfl rfl ?_
 rintro _ w ⟨m16,c17,vs19,rfl,hle,ok,h18,h20,r21⟩
 have le_m0:=le_m0.trans hle
 have h2:=(mL qaA).up hle h2
 have h4:=(mL qbI).up hle h4
 have hl_1:=(mL qbF).up hle hl_1
 obtain ⟨rfl,r22,r23⟩:=h20
 refine ⟨_,rfl,fun a E=>?_⟩
 refine mv E rfl fun a E=>lw E (qan rfl rfl) fun a E=>lw E (qan rfl rfl) fun a E=>lw E (qan rfl rfl) fun a E=>qaB E ok qdm rfl rfl fun b24 a w E ok=>av E rfl fun a E=>qaf E ok 0 rfl rfl rfl qd8 rfl rfl ⟨rfl,rfl,trivial⟩ rfl rfl fun w ok=>av E rfl fun a E=>wn<|wp_seq<|bd hF fun o25 hJ hF=>qba (Q':=fun e a w=>e = .normal ∧ ∃ m26 c27,m16.le m26 ∧ Ok u m26 ([(b24,oc 46 [vi r14.2.1.File,vi r14.2.1.Offset])] :: [(b5,oc 41 [c1,c3])] :: S) w ∧ Env 226 a [(1,vl_1),(3,vp b5),(7,vi q12),(8,c17),(10,vi r14.2.2),(11,c27),(13,vi o25.2)] ∧ (pL 7 qc7) m26 [c27] o25.1 ∧ InR .i64 o25.2) ?_ ?_
 ·as_aux_lemma =>
   have hF:=hJ
   have le_m16:=Mem.le.refl m16
   obtain ⟨l30,e31,hF⟩:=bnd hF
   obtain ⟨r35,e36,hF⟩:=bnd hF
   obtain rfl:=sj hF
   refine qbY [] (Cls u m16 ([(b24,oc 46 [vi r14.2.1.File,vi r14.2.1.Offset])] :: [(b5,oc 41 [c1,c3])] :: [])) (Cls u m16 ([(b24,oc 46 [vi r14.2.1.File,vi r14.2.1.Offset])] :: [(b5,oc 41 [c1,c3])] :: [])) (by kernel_rfl) ?_
   intro w hw
   replace ok:=qb9 ok hw
   clear hw
   have h2_o:=h2
   have h4_o:=h4
   have hl_1_o:=hl_1
   refine qar (cl1 (cq le_m16 ok [0,1] rfl) (cq le_m16 ok [0,1] rfl)) fun hT=>kt 0 E rfl hT (qal (cs:=[c1,c3]) qlW rfl rfl (qac.cown 1 rfl rfl)) fun a E=>kt 1 E rfl hT (qab rfl) fun a E=>kt 2 E rfl hT (qab rfl) fun a E=>?_
   obtain ⟨c46,h47,yy48⟩:=qjr qh6 hl_1 e31 (P:=Tryz.prog) (X:=.tmp 46) (lov:=none) (hiv:=(some (.tmp 47))) (qaz E rfl) (qiM E rfl) (qiM E ⟨_,rfl⟩)
   refine kt 3 E rfl hT (yy48 _ _) fun a E=>qaL [4,9] (by kernel_rfl) rfl (qjL ?_ (qjL ?_ (qnd)))
   ·refine wo rfl<|qas E qls rfl (qdW N _ s_0 ⟨_,_,rfl,h2,h4⟩ _ l30 h47 e36 hG hTb ok) rfl rfl ?_
    rintro _ w ⟨m49,c50,vs52,rfl,hle,ok,h51,h53,r54⟩
    have le_m0:=le_m0.trans hle
    have le_m16:=le_m16.trans hle
    have h2:=(mL qaA).up hle h2
    have h4:=(mL qbI).up hle h4
    have hl_1:=(mL qbF).up hle hl_1
    have h18:=(mL qbr).up hle h18
    have h47:=(mL qbF).up hle h47
    obtain ⟨rfl,r55,r56⟩:=h53
    refine ⟨_,rfl,fun a E=>?_⟩
    refine wn<|qar (cl1 (cq le_m16 ok [0,1] rfl) (cq le_m16 ok [0,1] rfl)) fun hT=>kt 5 E rfl hT (qab rfl) fun a E=>kt 6 E rfl hT (qan rfl rfl) fun a E=>kt 7 E rfl hT (qan rfl rfl) fun a E=>kt 8 E rfl hT (qan rfl rfl) fun a E=>qaL [9] (by kernel_rfl) rfl (qaM ?_)
    ·refine wo rfl<|qaB E ok qdm rfl rfl fun b57 a w E ok=>wn<|qar (cl1 (cq le_m16 ok [1,2] rfl) (cq le_m16 ok [1,2] rfl)) fun hT=>kt 10 E rfl hT (qap rfl) fun a E=>qaL [11] (by kernel_rfl) rfl (qaM ?_)
     ·refine wo rfl<|qaf E ok 0 rfl rfl rfl qd8 rfl rfl ⟨rfl,rfl,trivial⟩ rfl rfl fun w ok=>wn<|qar (cl1 (cq le_m16 ok [1,2] rfl) (cq le_m16 ok [1,2] rfl)) fun hT=>kt 12 E rfl hT (qap rfl) fun a E=>qbU (by kernel_rfl) ?_
      exact ⟨rfl,⟨m49,c50,le_m16,(ok.pk 3 [1,2] rfl (by decide)),E.keep [1,3,7,8,10,11,13],h51,r54⟩⟩
   refine wo rfl<|qaB E ok qdm rfl rfl fun b58 a w E ok=>wn<|qar (cl1 (cq le_m16 ok [1,2] rfl) (cq le_m16 ok [1,2] rfl)) fun hT=>qaL [4] (by kernel_rfl) rfl (qaM ?_)
   ·refine wo rfl<|qas E qls rfl (qdW N _ s_0 ⟨_,_,rfl,h2,h4⟩ _ l30 h47 e36 hG hTb ok) rfl rfl ?_
    rintro _ w ⟨m59,c60,vs62,rfl,hle,ok,h61,h63,r64⟩
    have le_m0:=le_m0.trans hle
    have le_m16:=le_m16.trans hle
    have h2:=(mL qaA).up hle h2
    have h4:=(mL qbI).up hle h4
    have hl_1:=(mL qbF).up hle hl_1
    have h18:=(mL qbr).up hle h18
    have h47:=(mL qbF).up hle h47
    obtain ⟨rfl,r65,r66⟩:=h63
    refine ⟨_,rfl,fun a E=>?_⟩
    refine wn<|qar (cl1 (cq le_m16 ok [1,2] rfl) (cq le_m16 ok [1,2] rfl)) fun hT=>kt 5 E rfl hT (qab rfl) fun a E=>kt 6 E rfl hT (qan rfl rfl) fun a E=>kt 7 E rfl hT (qan rfl rfl) fun a E=>kt 8 E rfl hT (qan rfl rfl) fun a E=>kt 10 E rfl hT (qap rfl) fun a E=>qaL [11] (by kernel_rfl) rfl (qaM ?_)
    ·refine wo rfl<|qaf E ok 0 rfl rfl rfl qd8 rfl rfl ⟨rfl,rfl,trivial⟩ rfl rfl fun w ok=>wn<|qar (cl1 (cq le_m16 ok [1,2] rfl) (cq le_m16 ok [1,2] rfl)) fun hT=>kt 12 E rfl hT (qap rfl) fun a E=>qbU (by kernel_rfl) ?_
     exact ⟨rfl,⟨m59,c60,le_m16,(ok.pk 3 [1,2] rfl (by decide)),E.keep [1,3,7,8,10,11,13],h61,r64⟩⟩
 intro e a w hO
 obtain ⟨rfl,m67,c68,hle,ok,E,h69,r70⟩:=hO
 have le_m0:=le_m0.trans hle
 have h2:=(mL qaA).up hle h2
 have h4:=(mL qbI).up hle h4
 have hl_1:=(mL qbF).up hle hl_1
 have h18:=(mL qbr).up hle h18
 refine qaa<|wp_seq<|bd hF fun o71 hJ hF=>qba (Q':=fun e a w=>e = .normal ∧ ∃ m72 c73,m67.le m72 ∧ Ok u m72 ([(b24,oc 46 [vi r14.2.1.File,vi r14.2.1.Offset])] :: [(b5,oc 41 [c1,c3])] :: S) w ∧ Env 226 a [(8,c17),(10,vi r14.2.2),(11,c68),(13,vi o25.2),(14,c73),(16,vi o71.2)] ∧ (pL 7 qc7) m72 [c73] o71.1 ∧ InR .i64 o71.2) ?_ ?_
 ·as_aux_lemma =>
   have hF:=hJ
   have le_m67:=Mem.le.refl m67
   obtain ⟨l76,e77,hF⟩:=bnd hF
   obtain ⟨r81,e82,hF⟩:=bnd hF
   obtain rfl:=sj hF
   refine qbY [] (Cls u m67 ([(b24,oc 46 [vi r14.2.1.File,vi r14.2.1.Offset])] :: [(b5,oc 41 [c1,c3])] :: [])) (Cls u m67 ([(b24,oc 46 [vi r14.2.1.File,vi r14.2.1.Offset])] :: [(b5,oc 41 [c1,c3])] :: [])) (by kernel_rfl) ?_
   intro w hw
   replace ok:=qb9 ok hw
   clear hw
   have h2_o:=h2
   have h4_o:=h4
   have hl_1_o:=hl_1
   refine qar (cl1 (cq le_m67 ok [0,1] rfl) (cq le_m67 ok [0,1] rfl)) fun hT=>kt 0 E rfl hT (qal (cs:=[c1,c3]) qlW rfl rfl (qac.cown 1 rfl rfl)) fun a E=>kt 1 E rfl hT (qab rfl) fun a E=>kt 2 E rfl hT (qab rfl) fun a E=>?_
   obtain ⟨c92,h93,yy94⟩:=qjr qh6 hl_1 e77 (P:=Tryz.prog) (X:=.tmp 55) (lov:=(some (.tmp 56))) (hiv:=none) (qaz E rfl) (qiM E ⟨_,rfl⟩) (qiM E rfl)
   refine kt 3 E rfl hT (yy94 _ _) fun a E=>qaL [4,9] (by kernel_rfl) rfl (qjL ?_ (qjL ?_ (qnd)))
   ·refine wo rfl<|qas E qls rfl (qdW N _ s_0 ⟨_,_,rfl,h2,h4⟩ _ l76 h93 e82 hG hTb ok) rfl rfl ?_
    rintro _ w ⟨m95,c96,vs98,rfl,hle,ok,h97,h99,r100⟩
    have le_m0:=le_m0.trans hle
    have le_m67:=le_m67.trans hle
    have h2:=(mL qaA).up hle h2
    have h4:=(mL qbI).up hle h4
    have hl_1:=(mL qbF).up hle hl_1
    have h18:=(mL qbr).up hle h18
    have h69:=(mL qbr).up hle h69
    have h93:=(mL qbF).up hle h93
    obtain ⟨rfl,r101,r102⟩:=h99
    refine ⟨_,rfl,fun a E=>?_⟩
    refine wn<|qar (cl1 (cq le_m67 ok [0,1] rfl) (cq le_m67 ok [0,1] rfl)) fun hT=>kt 5 E rfl hT (qab rfl) fun a E=>kt 6 E rfl hT (qan rfl rfl) fun a E=>kt 7 E rfl hT (qan rfl rfl) fun a E=>kt 8 E rfl hT (qan rfl rfl) fun a E=>qaL [9] (by kernel_rfl) rfl (qaM ?_)
    ·refine wo rfl<|qaB E ok qdm rfl rfl fun b103 a w E ok=>wn<|qar (cl1 (cq le_m67 ok [1,2] rfl) (cq le_m67 ok [1,2] rfl)) fun hT=>kt 10 E rfl hT (qap rfl) fun a E=>qaL [11] (by kernel_rfl) rfl (qaM ?_)
     ·refine wo rfl<|qaf E ok 0 rfl rfl rfl qd8 rfl rfl ⟨rfl,rfl,trivial⟩ rfl rfl fun w ok=>wn<|qar (cl1 (cq le_m67 ok [1,2] rfl) (cq le_m67 ok [1,2] rfl)) fun hT=>kt 12 E rfl hT (qap rfl) fun a E=>qbU (by kernel_rfl) ?_
      exact ⟨rfl,⟨m95,c96,le_m67,(ok.pk 3 [1,2] rfl (by decide)),E.keep [8,10,11,13,14,16],h97,r100⟩⟩
   refine wo rfl<|qaB E ok qdm rfl rfl fun b104 a w E ok=>wn<|qar (cl1 (cq le_m67 ok [1,2] rfl) (cq le_m67 ok [1,2] rfl)) fun hT=>qaL [4] (by kernel_rfl) rfl (qaM ?_)
   ·refine wo rfl<|qas E qls rfl (qdW N _ s_0 ⟨_,_,rfl,h2,h4⟩ _ l76 h93 e82 hG hTb ok) rfl rfl ?_
    rintro _ w ⟨m105,c106,vs108,rfl,hle,ok,h107,h109,r110⟩
    have le_m0:=le_m0.trans hle
    have le_m67:=le_m67.trans hle
    have h2:=(mL qaA).up hle h2
    have h4:=(mL qbI).up hle h4
    have hl_1:=(mL qbF).up hle hl_1
    have h18:=(mL qbr).up hle h18
    have h69:=(mL qbr).up hle h69
    have h93:=(mL qbF).up hle h93
    obtain ⟨rfl,r111,r112⟩:=h109
    refine ⟨_,rfl,fun a E=>?_⟩
    refine wn<|qar (cl1 (cq le_m67 ok [1,2] rfl) (cq le_m67 ok [1,2] rfl)) fun hT=>kt 5 E rfl hT (qab rfl) fun a E=>kt 6 E rfl hT (qan rfl rfl) fun a E=>kt 7 E rfl hT (qan rfl rfl) fun a E=>kt 8 E rfl hT (qan rfl rfl) fun a E=>kt 10 E rfl hT (qap rfl) fun a E=>qaL [11] (by kernel_rfl) rfl (qaM ?_)
    ·refine wo rfl<|qaf E ok 0 rfl rfl rfl qd8 rfl rfl ⟨rfl,rfl,trivial⟩ rfl rfl fun w ok=>wn<|qar (cl1 (cq le_m67 ok [1,2] rfl) (cq le_m67 ok [1,2] rfl)) fun hT=>kt 12 E rfl hT (qap rfl) fun a E=>qbU (by kernel_rfl) ?_
     exact ⟨rfl,⟨m105,c106,le_m67,(ok.pk 3 [1,2] rfl (by decide)),E.keep [8,10,11,13,14,16],h107,r110⟩⟩
 intro e a w hO
 obtain ⟨rfl,m113,c114,hle,ok,E,h115,r116⟩:=hO
 have le_m0:=le_m0.trans hle
 have h2:=(mL qaA).up hle h2
 have h4:=(mL qbI).up hle h4
 have hl_1:=(mL qbF).up hle hl_1
 have h18:=(mL qbr).up hle h18
 have h69:=(mL qbr).up hle h69
 refine qaa<|wp_seq<|sg<|mv E rfl fun a E=>lw E (qbS rfl rfl) fun a E=>mv E rfl fun a E=>bu E 64 hF (fun c117 hF E=>?_) fun c117 hF E=>?_
 ·refine lsq E fun a E=>pt E rfl rfl fun a E=>mv E rfl fun a E=>lsq E fun a E=>pt E rfl rfl fun a E=>wn<|c_if E rfl (fun _=>?_) (fun h=>by cases h)
  refine sg<|mv E rfl fun a E=>lv E ok (qao qb0 h18 rfl) fun a E=>lw E (qa3 rfl rfl) fun a E=>mv E rfl fun a E=>bu E 75 hF (fun c118 hF E=>?_) fun c118 hF E=>?_
  ·refine lsz E fun a E=>lsq E fun a E=>pt E rfl rfl fun a E=>av E rfl fun a E=>wn<|wp_ret<|qae ?_
   exact fin hF ⟨(ok.drop.drop).down hb0 le_m0,E.d,rz E rfl⟩
  refine mv E rfl fun a E=>lw E (qa3 rfl rfl) fun a E=>mv E rfl fun a E=>bu E 78 hF (fun c119 hF E=>?_) fun c119 hF E=>?_
  ·refine mv E rfl fun a E=>lw E (qa3 rfl rfl) fun a E=>pt E rfl rfl fun a E=>pf E rfl rfl fun a E=>aw E rfl fun a E=>wp_ret<|qae ?_
   exact fin hF ⟨(ok.drop.drop).down hb0 le_m0,E.d,rz E rfl⟩
  refine lsq E fun a E=>pf E rfl rfl fun a E=>pf E rfl rfl fun a E=>aw E rfl fun a E=>wp_ret<|qae ?_
  exact fin hF ⟨(ok.drop.drop).down hb0 le_m0,E.d,rz E rfl⟩
 refine mv E rfl fun a E=>lw E (qbS rfl rfl) fun a E=>pf E rfl rfl fun a E=>mv E rfl fun a E=>bu E 68 hF (fun c120 hF E=>?_) fun c120 hF E=>?_
 ·refine lsq E fun a E=>pt E rfl rfl fun a E=>wn<|c_if E rfl (fun _=>?_) (fun h=>by cases h)
  refine sg<|mv E rfl fun a E=>lv E ok (qao qb0 h18 rfl) fun a E=>lw E (qa3 rfl rfl) fun a E=>mv E rfl fun a E=>bu E 75 hF (fun c121 hF E=>?_) fun c121 hF E=>?_
  ·refine lsz E fun a E=>lsq E fun a E=>pt E rfl rfl fun a E=>av E rfl fun a E=>wn<|wp_ret<|qae ?_
   exact fin hF ⟨(ok.drop.drop).down hb0 le_m0,E.d,rz E rfl⟩
  refine mv E rfl fun a E=>lw E (qa3 rfl rfl) fun a E=>mv E rfl fun a E=>bu E 78 hF (fun c122 hF E=>?_) fun c122 hF E=>?_
  ·refine mv E rfl fun a E=>lw E (qa3 rfl rfl) fun a E=>pt E rfl rfl fun a E=>pf E rfl rfl fun a E=>aw E rfl fun a E=>wp_ret<|qae ?_
   exact fin hF ⟨(ok.drop.drop).down hb0 le_m0,E.d,rz E rfl⟩
  refine lsq E fun a E=>pf E rfl rfl fun a E=>pf E rfl rfl fun a E=>aw E rfl fun a E=>wp_ret<|qae ?_
  exact fin hF ⟨(ok.drop.drop).down hb0 le_m0,E.d,rz E rfl⟩
 refine mv E rfl fun a E=>lw E (qbS rfl rfl) fun a E=>pf E rfl rfl fun a E=>wn<|cf E rfl hF (fun c123 hF=>?_) fun c123 hF=>?_
 ·refine sg<|mv E rfl fun a E=>lv E ok (qao qb0 h18 rfl) fun a E=>lw E (qa3 rfl rfl) fun a E=>mv E rfl fun a E=>bu E 75 hF (fun c124 hF E=>?_) fun c124 hF E=>?_
  ·refine lsz E fun a E=>lsq E fun a E=>pt E rfl rfl fun a E=>av E rfl fun a E=>wn<|wp_ret<|qae ?_
   exact fin hF ⟨(ok.drop.drop).down hb0 le_m0,E.d,rz E rfl⟩
  refine mv E rfl fun a E=>lw E (qa3 rfl rfl) fun a E=>mv E rfl fun a E=>bu E 78 hF (fun c125 hF E=>?_) fun c125 hF E=>?_
  ·refine mv E rfl fun a E=>lw E (qa3 rfl rfl) fun a E=>pt E rfl rfl fun a E=>pf E rfl rfl fun a E=>aw E rfl fun a E=>wp_ret<|qae ?_
   exact fin hF ⟨(ok.drop.drop).down hb0 le_m0,E.d,rz E rfl⟩
  refine lsq E fun a E=>pf E rfl rfl fun a E=>pf E rfl rfl fun a E=>aw E rfl fun a E=>wp_ret<|qae ?_
  exact fin hF ⟨(ok.drop.drop).down hb0 le_m0,E.d,rz E rfl⟩
 refine wp_skip<|qaa<|wp_seq<|sg<|aw E rfl fun a E=>wp_block<|bd hF fun o127 hL hF=>qaC _ (fun (s:Int) a w=>∃ m128,m113.le m128 ∧ Ok u m128 ([(b24,oc 46 [vi r14.2.1.File,vi r14.2.1.Offset])] :: [(b5,oc 41 [c1,c3])] :: S) w ∧ Env 226 a [(8,c17),(11,c68),(14,c114),(17,vi s)] ∧ InR .i64 s) (fun (b:(Unit ⊕ Bool)) e a w=>(Sum.elim (fun b498=>e = (.exit 0) ∧ ∃ m499,m113.le m499 ∧ Ok u m499 ([(b24,oc 46 [vi r14.2.1.File,vi r14.2.1.Offset])] :: [(b5,oc 41 [c1,c3])] :: S) w ∧ Env 226 a [(8,c17),(11,c68),(14,c114)]) (fun b500=>e = .ret ∧ qb8 u m0 S b500 a w)) b) ?_ ?_ N _ a w hL ⟨m113,Mem.le.refl _,ok,E.keep [8,11,14,17],(ir 0)⟩
 rotate_left
 ·intro e a w _ hO
  rcases o127 with o127 | o127
  rotate_left
  ·obtain ⟨rfl,hret⟩:=hO
   refine qah<|qae ?_
   exact fin hF hret
  have hF:=qa1 hF
  obtain ⟨rfl,m496,hle,ok,E⟩:=hO
  have le_m0:=le_m0.trans hle
  have h2:=(mL qaA).up hle h2
  have h4:=(mL qbI).up hle h4
  have hl_1:=(mL qbF).up hle hl_1
  have h18:=(mL qbr).up hle h18
  have h69:=(mL qbr).up hle h69
  have h115:=(mL qbr).up hle h115
  refine qaE<|qaa<|sg<|mv E rfl fun a E=>lv E ok (qao qb0 h18 rfl) fun a E=>mv E rfl fun a E=>lv E ok (qao qb0 h69 rfl) fun a E=>lw E (qaZ rfl rfl) fun a E=>mv E rfl fun a E=>bu E 216 hF (fun c497 hF E=>?_) fun c497 hF E=>?_
  ·refine mv E rfl fun a E=>lv E ok (qao qb0 h18 rfl) fun a E=>mv E rfl fun a E=>lv E ok (qao qb0 h69 rfl) fun a E=>mv E rfl fun a E=>lv E ok (qao qb0 h115 rfl) fun a E=>lw E (qaw rfl rfl) fun a E=>lw E (qch rfl rfl) fun a E=>pt E rfl rfl fun a E=>aw E rfl fun a E=>wp_ret ?_
   exact fin hF ⟨(ok.drop.drop).down hb0 le_m0,E.d,rz E rfl⟩
  refine lsz E fun a E=>lsz E fun a E=>pf E rfl rfl fun a E=>aw E rfl fun a E=>wp_ret ?_
  exact fin hF ⟨(ok.drop.drop).down hb0 le_m0,E.d,rz E rfl⟩
 rintro v130 a w r ⟨m131,hle,ok,E,r132⟩ hF
 replace hF:qbm N r14 o25 o71 v130 = some r:=hF
 unfold qbm at hF
 have le_m113:=Mem.le.refl m113
 have le_m0:=le_m0.trans hle
 have le_m113:=le_m113.trans hle
 have h2:=(mL qaA).up hle h2
 have h4:=(mL qbI).up hle h4
 have hl_1:=(mL qbF).up hle hl_1
 have h18:=(mL qbr).up hle h18
 have h69:=(mL qbr).up hle h69
 have h115:=(mL qbr).up hle h115
 refine wp_seq<|sg<|mz E rfl rfl fun a E=>lv E ok (qao qb0 h18 rfl) fun a E=>lw E (qat rfl rfl) fun a E=>wn<|cg E rfl hF (fun c133 hF=>?_) fun c133 hF=>?_
 ·refine wp_exit<|qau ?_
  cases hF
  exact so (sl ⟨rfl,⟨m131,le_m113,ok,E.keep [8,11,14]⟩⟩)
 refine wp_skip<|qaa<|wp_seq<|wp_block<|sg<|mz E rfl rfl fun a E=>?_
 obtain ⟨x134,e135,hF⟩:=bnd hF
 obtain ⟨b136,o137,es138,hl139,rr140,at141,yy142⟩:=ia E 89 90 qb0 h18 e135
 obtain ⟨c146,c148,c151,rfl,l143,l144,l145,h147,h149,r150,h152⟩:=rr140
 refine lv E ok (yy142 _ _) fun a E=>lv E ok (qal (cs:=[vs x134.ID,vs x134.Source,vs x134.Target,c146,c148,vi x134.State,c151]) qgv rfl rfl (qac.ro at141)) fun a E=>qaB E ok qeU rfl rfl fun b153 a w E ok=>qaf E ok 0 rfl rfl rfl qir rfl rfl ⟨rfl,rfl,rfl,(qaS h147),(qaS h149),rfl,(qaS h152),trivial⟩ rfl rfl fun w ok=>wn<|sg<|mv E rfl fun a E=>fk E ok qgg qam rfl 0 rfl rfl fun a E=>bd hF fun r154 e155 hF=>qas E qrC rfl (qhz N _ o25.1 h69 x134.ID l143 e155 hG ok) rfl rfl ?_
 rintro _ w ⟨m156,vs157,rfl,hle,ok,h158⟩
 have le_m0:=le_m0.trans hle
 have le_m113:=le_m113.trans hle
 have h2:=(mL qaA).up hle h2
 have h4:=(mL qbI).up hle h4
 have hl_1:=(mL qbF).up hle hl_1
 have h18:=(mL qbr).up hle h18
 have h69:=(mL qbr).up hle h69
 have h115:=(mL qbr).up hle h115
 have h147:=(mL mS).up hle h147
 have h149:=(mL mS).up hle h149
 have h152:=(mL qcA).up hle h152
 have at141:=At.up hle at141
 obtain ⟨c162,c164,c167,rfl,l159,l160,l161,h163,h165,r166,h168⟩:=h158
 refine ⟨_,rfl,fun a E=>?_⟩
 refine mv E rfl fun a E=>lw E (qan rfl rfl) fun a E=>lw E (qan rfl rfl) fun a E=>qaB E ok qeU rfl rfl fun b169 a w E ok=>qaf E ok 0 rfl rfl rfl qir rfl rfl ⟨rfl,rfl,rfl,(qaS h163),(qaS h165),rfl,(qaS h168),trivial⟩ rfl rfl fun w ok=>aw E rfl fun a E=>sg<|mv E rfl fun a E=>fk E ok qgg qam rfl 1 rfl rfl fun a E=>bd hF fun r170 e171 hF=>qas E qrC rfl (qhz N _ o71.1 h115 x134.ID l143 e171 hG ok) rfl rfl ?_
 rintro _ w ⟨m172,vs173,rfl,hle,ok,h174⟩
 have le_m0:=le_m0.trans hle
 have le_m113:=le_m113.trans hle
 have h2:=(mL qaA).up hle h2
 have h4:=(mL qbI).up hle h4
 have hl_1:=(mL qbF).up hle hl_1
 have h18:=(mL qbr).up hle h18
 have h69:=(mL qbr).up hle h69
 have h115:=(mL qbr).up hle h115
 have h147:=(mL mS).up hle h147
 have h149:=(mL mS).up hle h149
 have h152:=(mL qcA).up hle h152
 have at141:=At.up hle at141
 have h163:=(mL mS).up hle h163
 have h165:=(mL mS).up hle h165
 have h168:=(mL qcA).up hle h168
 obtain ⟨c178,c180,c183,rfl,l175,l176,l177,h179,h181,r182,h184⟩:=h174
 refine ⟨_,rfl,fun a E=>?_⟩
 refine mv E rfl fun a E=>lw E (qan rfl rfl) fun a E=>lw E (qan rfl rfl) fun a E=>qaB E ok qeU rfl rfl fun b185 a w E ok=>qaf E ok 0 rfl rfl rfl qir rfl rfl ⟨rfl,rfl,rfl,(qaS h179),(qaS h181),rfl,(qaS h184),trivial⟩ rfl rfl fun w ok=>aw E rfl fun a E=>wp_seq<|wp_seq<|bd hF fun o186 hJ hF=>qba (Q':=fun e a w=>e = .normal ∧ Ok u m172 ([(b185,oc 53 [vs r170.1.ID,vs r170.1.Source,vs r170.1.Target,c178,c180,vi r170.1.State,c183])] :: [(b169,oc 53 [vs r154.1.ID,vs r154.1.Source,vs r154.1.Target,c162,c164,vi r154.1.State,c167])] :: [(b153,oc 53 [vs x134.ID,vs x134.Source,vs x134.Target,c146,c148,vi x134.State,c151])] :: [(b24,oc 46 [vi r14.2.1.File,vi r14.2.1.Offset])] :: [(b5,oc 41 [c1,c3])] :: S) w ∧ Env 226 a [(8,c17),(11,c68),(14,c114),(17,vi v130),(18,vp b153),(19,vp b169),(20,vb r154.2),(21,vp b185),(22,vb r170.2),(143,vb o186)]) ?_ ?_
 ·as_aux_lemma =>
   have hF:=hJ
   refine qaY (by kernel_rfl) (by kernel_rfl) ok<|qv E (qab rfl) fun a E=>qv E (qbl rfl) fun a E=>qv E (qab rfl) fun a E=>bw E 109 hF (fun c187 hF E=>?_) fun c187 hF E=>?_
   ·as_aux_lemma =>
     refine qs E fun a E=>qs E fun a E=>qv E (qaU rfl rfl) fun a E=>qv E (qab rfl) fun a E=>qv E (qab rfl) fun a E=>qv E (qab rfl) fun a E=>qv E (qao qb0 h69 rfl) fun a E=>qv E (qat rfl rfl) fun a E=>qv E (qab rfl) fun a E=>bw E 118 hF (fun c214 hF E=>?_) fun c214 hF E=>?_
     ·refine qs E fun a E=>qs E fun a E=>qs E fun a E=>qs E fun a E=>qs E fun a E=>qs E fun a E=>qs E fun a E=>qs E fun a E=>qv E (qaU rfl rfl) fun a E=>qv E (qaU rfl rfl) fun a E=>qv E (qab rfl) fun a E=>qv E (qab rfl) fun a E=>qv E (qab rfl) fun a E=>qv E (qao qb0 h69 rfl) fun a E=>qv E (qaZ rfl rfl) fun a E=>qv E (qab rfl) fun a E=>bw E 134 hF (fun c237 hF E=>?_) fun c237 hF E=>?_
      ·refine qs E fun a E=>qv E (qaU rfl rfl) fun a E=>qv E (qaU rfl rfl) fun a E=>qv E (qab rfl) fun a E=>qv E (qag qbD rfl) fun a E=>qv E (qai qb3 rfl (qac.own 2 rfl rfl)) fun a E=>qv E (qao qbG h152 rfl) fun a E=>qv E (qbS rfl rfl) fun a E=>qv E (qaU rfl rfl) fun a E=>wpQuiet_nil ?_
       intro w ok
       cases hF
       exact ⟨rfl,⟨ok,E.keep [8,11,14,17,18,19,20,21,22,143]⟩⟩
      refine qv E (qab rfl) fun a E=>qv E (qbf rfl rfl) fun a E=>qv E (qaU rfl rfl) fun a E=>qv E (qab rfl) fun a E=>qcr r154.2 (fun c238=>?_) (fun c238=>?_)
      ·have hF:=qbA c238 hF
       have E:=E.upd 138 c238 rfl
       refine qs E fun a E=>qs E fun a E=>qs E fun a E=>qs E fun a E=>qv E (qbf rfl rfl) fun a E=>wpQuiet_nil ?_
       intro w ok
       cases hF
       exact ⟨rfl,⟨ok,E.keep [8,11,14,17,18,19,20,21,22,143]⟩⟩
      have hF:=qbB c238 hF
      have E:=E.upd 138 c238 rfl
      refine qv E (qag qbD rfl) fun a E=>qv E (qai qb3 rfl (qac.own 2 rfl rfl)) fun a E=>qv E (qao qbG h152 rfl) fun a E=>qv E (qbS rfl rfl) fun a E=>qv E (qaU rfl rfl) fun a E=>wpQuiet_nil ?_
      intro w ok
      cases hF
      exact ⟨rfl,⟨ok,E.keep [8,11,14,17,18,19,20,21,22,143]⟩⟩
     refine qv E (qab rfl) fun a E=>qv E (qab rfl) fun a E=>?_
     obtain ⟨x215,e216,hF⟩:=bnd hF
     obtain ⟨b217,o218,es219,hl220,rr221,at222,yy223⟩:=ia E 119 120 qb0 h69 e216
     obtain ⟨c227,c229,c232,rfl,l224,l225,l226,h228,h230,r231,h233⟩:=rr221
     refine qv E (yy223 _ _) fun a E=>qv E (qag qgg rfl) fun a E=>qv E (qai qam rfl (qac.ro (At.sub 0 1 at222))) fun a E=>qv E (qag qgg rfl) fun a E=>qv E (qai qam rfl (qac.own 2 rfl rfl)) fun a E=>qv E (qbZ rfl rfl) fun a E=>qv E (qbf rfl rfl) fun a E=>qv E (qaU rfl rfl) fun a E=>qv E (qab rfl) fun a E=>bu E 129 hF (fun c234 hF E=>?_) fun c234 hF E=>?_
     ·refine qs E fun a E=>qs E fun a E=>qs E fun a E=>qs E fun a E=>qs E fun a E=>qs E fun a E=>qs E fun a E=>qv E (qbf rfl rfl) fun a E=>qv E (qab rfl) fun a E=>qs E fun a E=>qs E fun a E=>qs E fun a E=>qs E fun a E=>qv E (qbf rfl rfl) fun a E=>wpQuiet_nil ?_
      intro w ok
      cases hF
      exact ⟨rfl,⟨ok,E.keep [8,11,14,17,18,19,20,21,22,143]⟩⟩
     refine qv E (qab rfl) fun a E=>qv E (qab rfl) fun a E=>qv E (qao qb0 h69 rfl) fun a E=>qv E (qaZ rfl rfl) fun a E=>qv E (qab rfl) fun a E=>bw E 134 hF (fun c235 hF E=>?_) fun c235 hF E=>?_
     ·refine qs E fun a E=>qv E (qaU rfl rfl) fun a E=>qv E (qaU rfl rfl) fun a E=>qv E (qab rfl) fun a E=>qv E (qag qbD rfl) fun a E=>qv E (qai qb3 rfl (qac.own 2 rfl rfl)) fun a E=>qv E (qao qbG h152 rfl) fun a E=>qv E (qbS rfl rfl) fun a E=>qv E (qaU rfl rfl) fun a E=>wpQuiet_nil ?_
      intro w ok
      cases hF
      exact ⟨rfl,⟨ok,E.keep [8,11,14,17,18,19,20,21,22,143]⟩⟩
     refine qv E (qab rfl) fun a E=>qv E (qbf rfl rfl) fun a E=>qv E (qaU rfl rfl) fun a E=>qv E (qab rfl) fun a E=>qcr r154.2 (fun c236=>?_) (fun c236=>?_)
     ·have hF:=qbA c236 hF
      have E:=E.upd 138 c236 rfl
      refine qs E fun a E=>qs E fun a E=>qs E fun a E=>qs E fun a E=>qv E (qbf rfl rfl) fun a E=>wpQuiet_nil ?_
      intro w ok
      cases hF
      exact ⟨rfl,⟨ok,E.keep [8,11,14,17,18,19,20,21,22,143]⟩⟩
     have hF:=qbB c236 hF
     have E:=E.upd 138 c236 rfl
     refine qv E (qag qbD rfl) fun a E=>qv E (qai qb3 rfl (qac.own 2 rfl rfl)) fun a E=>qv E (qao qbG h152 rfl) fun a E=>qv E (qbS rfl rfl) fun a E=>qv E (qaU rfl rfl) fun a E=>wpQuiet_nil ?_
     intro w ok
     cases hF
     exact ⟨rfl,⟨ok,E.keep [8,11,14,17,18,19,20,21,22,143]⟩⟩
   refine qv E (qab rfl) fun a E=>qv E (qbl rfl) fun a E=>qv E (qbf rfl rfl) fun a E=>qv E (qab rfl) fun a E=>bu E 113 hF (fun c188 hF E=>?_) fun c188 hF E=>?_
   ·refine qs E fun a E=>qs E fun a E=>qs E fun a E=>qs E fun a E=>qs E fun a E=>qs E fun a E=>qs E fun a E=>qs E fun a E=>qs E fun a E=>qs E fun a E=>qs E fun a E=>qs E fun a E=>qs E fun a E=>qs E fun a E=>qv E (qbf rfl rfl) fun a E=>qv E (qab rfl) fun a E=>?_
    refine qs E fun a E=>qs E fun a E=>qs E fun a E=>qs E fun a E=>qs E fun a E=>qs E fun a E=>qs E fun a E=>qv E (qbf rfl rfl) fun a E=>qv E (qab rfl) fun a E=>qs E fun a E=>qs E fun a E=>qs E fun a E=>qs E fun a E=>qv E (qbf rfl rfl) fun a E=>wpQuiet_nil ?_
    intro w ok
    cases hF
    exact ⟨rfl,⟨ok,E.keep [8,11,14,17,18,19,20,21,22,143]⟩⟩
   refine qv E (qab rfl) fun a E=>qv E (qab rfl) fun a E=>qv E (qao qb0 h69 rfl) fun a E=>qv E (qat rfl rfl) fun a E=>qv E (qab rfl) fun a E=>bw E 118 hF (fun c189 hF E=>?_) fun c189 hF E=>?_
   ·refine qs E fun a E=>qs E fun a E=>qs E fun a E=>qs E fun a E=>qs E fun a E=>qs E fun a E=>qs E fun a E=>qs E fun a E=>qv E (qaU rfl rfl) fun a E=>qv E (qaU rfl rfl) fun a E=>qv E (qab rfl) fun a E=>qv E (qab rfl) fun a E=>qv E (qab rfl) fun a E=>qv E (qao qb0 h69 rfl) fun a E=>qv E (qaZ rfl rfl) fun a E=>qv E (qab rfl) fun a E=>bw E 134 hF (fun c212 hF E=>?_) fun c212 hF E=>?_
    ·refine qs E fun a E=>qv E (qaU rfl rfl) fun a E=>qv E (qaU rfl rfl) fun a E=>qv E (qab rfl) fun a E=>qv E (qag qbD rfl) fun a E=>qv E (qai qb3 rfl (qac.own 2 rfl rfl)) fun a E=>qv E (qao qbG h152 rfl) fun a E=>qv E (qbS rfl rfl) fun a E=>qv E (qaU rfl rfl) fun a E=>wpQuiet_nil ?_
     intro w ok
     cases hF
     exact ⟨rfl,⟨ok,E.keep [8,11,14,17,18,19,20,21,22,143]⟩⟩
    refine qv E (qab rfl) fun a E=>qv E (qbf rfl rfl) fun a E=>qv E (qaU rfl rfl) fun a E=>qv E (qab rfl) fun a E=>qcr r154.2 (fun c213=>?_) (fun c213=>?_)
    ·have hF:=qbA c213 hF
     have E:=E.upd 138 c213 rfl
     refine qs E fun a E=>qs E fun a E=>qs E fun a E=>qs E fun a E=>qv E (qbf rfl rfl) fun a E=>wpQuiet_nil ?_
     intro w ok
     cases hF
     exact ⟨rfl,⟨ok,E.keep [8,11,14,17,18,19,20,21,22,143]⟩⟩
    have hF:=qbB c213 hF
    have E:=E.upd 138 c213 rfl
    refine qv E (qag qbD rfl) fun a E=>qv E (qai qb3 rfl (qac.own 2 rfl rfl)) fun a E=>qv E (qao qbG h152 rfl) fun a E=>qv E (qbS rfl rfl) fun a E=>qv E (qaU rfl rfl) fun a E=>wpQuiet_nil ?_
    intro w ok
    cases hF
    exact ⟨rfl,⟨ok,E.keep [8,11,14,17,18,19,20,21,22,143]⟩⟩
   refine qv E (qab rfl) fun a E=>qv E (qab rfl) fun a E=>?_
   obtain ⟨x190,e191,hF⟩:=bnd hF
   obtain ⟨b192,o193,es194,hl195,rr196,at197,yy198⟩:=ia E 119 120 qb0 h69 e191
   obtain ⟨c202,c204,c207,rfl,l199,l200,l201,h203,h205,r206,h208⟩:=rr196
   refine qv E (yy198 _ _) fun a E=>qv E (qag qgg rfl) fun a E=>qv E (qai qam rfl (qac.ro (At.sub 0 1 at197))) fun a E=>qv E (qag qgg rfl) fun a E=>qv E (qai qam rfl (qac.own 2 rfl rfl)) fun a E=>qv E (qbZ rfl rfl) fun a E=>qv E (qbf rfl rfl) fun a E=>qv E (qaU rfl rfl) fun a E=>qv E (qab rfl) fun a E=>bu E 129 hF (fun c209 hF E=>?_) fun c209 hF E=>?_
   ·refine qs E fun a E=>qs E fun a E=>qs E fun a E=>qs E fun a E=>qs E fun a E=>qs E fun a E=>qs E fun a E=>qv E (qbf rfl rfl) fun a E=>qv E (qab rfl) fun a E=>qs E fun a E=>qs E fun a E=>qs E fun a E=>qs E fun a E=>qv E (qbf rfl rfl) fun a E=>wpQuiet_nil ?_
    intro w ok
    cases hF
    exact ⟨rfl,⟨ok,E.keep [8,11,14,17,18,19,20,21,22,143]⟩⟩
   refine qv E (qab rfl) fun a E=>qv E (qab rfl) fun a E=>qv E (qao qb0 h69 rfl) fun a E=>qv E (qaZ rfl rfl) fun a E=>qv E (qab rfl) fun a E=>bw E 134 hF (fun c210 hF E=>?_) fun c210 hF E=>?_
   ·refine qs E fun a E=>qv E (qaU rfl rfl) fun a E=>qv E (qaU rfl rfl) fun a E=>qv E (qab rfl) fun a E=>qv E (qag qbD rfl) fun a E=>qv E (qai qb3 rfl (qac.own 2 rfl rfl)) fun a E=>qv E (qao qbG h152 rfl) fun a E=>qv E (qbS rfl rfl) fun a E=>qv E (qaU rfl rfl) fun a E=>wpQuiet_nil ?_
    intro w ok
    cases hF
    exact ⟨rfl,⟨ok,E.keep [8,11,14,17,18,19,20,21,22,143]⟩⟩
   refine qv E (qab rfl) fun a E=>qv E (qbf rfl rfl) fun a E=>qv E (qaU rfl rfl) fun a E=>qv E (qab rfl) fun a E=>qcr r154.2 (fun c211=>?_) (fun c211=>?_)
   ·have hF:=qbA c211 hF
    have E:=E.upd 138 c211 rfl
    refine qs E fun a E=>qs E fun a E=>qs E fun a E=>qs E fun a E=>qv E (qbf rfl rfl) fun a E=>wpQuiet_nil ?_
    intro w ok
    cases hF
    exact ⟨rfl,⟨ok,E.keep [8,11,14,17,18,19,20,21,22,143]⟩⟩
   have hF:=qbB c211 hF
   have E:=E.upd 138 c211 rfl
   refine qv E (qag qbD rfl) fun a E=>qv E (qai qb3 rfl (qac.own 2 rfl rfl)) fun a E=>qv E (qao qbG h152 rfl) fun a E=>qv E (qbS rfl rfl) fun a E=>qv E (qaU rfl rfl) fun a E=>wpQuiet_nil ?_
   intro w ok
   cases hF
   exact ⟨rfl,⟨ok,E.keep [8,11,14,17,18,19,20,21,22,143]⟩⟩
 intro e a w hO
 obtain ⟨rfl,ok,E⟩:=hO
 refine qaa<|cf E rfl hF (fun c239 hF=>?_) fun c239 hF=>?_
 ·refine sg<|aw E rfl fun a E=>wp_ret<|qae<|qah<|qae ?_
  cases hF
  exact so (sr ⟨rfl,⟨(ok.drop.drop.drop.drop.drop).down hb0 le_m0,E.d,rz E rfl⟩⟩)
 refine wp_skip<|qaa<|sg<|lv E ok (qal (cs:=[vs r154.1.ID,vs r154.1.Source,vs r154.1.Target,c162,c164,vi r154.1.State,c167]) qgv rfl rfl (qac.own 1 rfl rfl)) fun a E=>qaB E ok qeU rfl rfl fun b240 a w E ok=>qaf E ok 0 rfl rfl rfl qir rfl rfl ⟨rfl,rfl,rfl,(qaS h163),(qaS h165),rfl,(qaS h168),trivial⟩ rfl rfl fun w ok=>wn<|wp_seq<|wp_block<|sg<|mv E rfl fun a E=>lw E (qbl rfl) fun a E=>av E rfl fun a E=>wn<|bd hF fun o241 hJ hF=>qba (Q':=fun e a w=>(Sum.elim (fun b242=>e = .normal ∧ ∃ m243 c247 c249 c252,m172.le m243 ∧ Ok u m243 ([(b240,oc 53 [vs b242.ID,vs b242.Source,vs b242.Target,c247,c249,vi b242.State,c252])] :: [(b185,oc 53 [vs r170.1.ID,vs r170.1.Source,vs r170.1.Target,c178,c180,vi r170.1.State,c183])] :: [(b169,oc 53 [vs r154.1.ID,vs r154.1.Source,vs r154.1.Target,c162,c164,vi r154.1.State,c167])] :: [(b153,oc 53 [vs x134.ID,vs x134.Source,vs x134.Target,c146,c148,vi x134.State,c151])] :: [(b24,oc 46 [vi r14.2.1.File,vi r14.2.1.Offset])] :: [(b5,oc 41 [c1,c3])] :: S) w ∧ Env 226 a [(8,c17),(11,c68),(14,c114),(17,vi v130),(18,vp b153),(23,vp b240)] ∧ b242.ID.length ≤ LIMS ∧ b242.Source.length ≤ LIMS ∧ b242.Target.length ≤ LIMS ∧ (pL 1 pS) m243 [c247] b242.Comments ∧ (pL 1 pS) m243 [c249] b242.Flags ∧ InR .i64 b242.State ∧ (pL 2 qc0) m243 [c252] b242.Fields) (fun b254=>e = .ret ∧ qb8 u m0 S b254 a w)) o241) ?_ ?_
 rotate_left
 ·intro e a w hO
  rcases o241 with o241 | o241
  rotate_left
  ·have hF:=qgT hF
   obtain ⟨rfl,hret⟩:=hO
   refine qah<|qae<|qah<|qae ?_
   cases hF
   exact so (sr ⟨rfl,hret⟩)
  have hF:=qa1 hF
  obtain ⟨rfl,m482,c486,c488,c491,hle,ok,E,l483,l484,l485,h487,h489,r490,h492⟩:=hO
  have le_m0:=le_m0.trans hle
  have le_m113:=le_m113.trans hle
  have h2:=(mL qaA).up hle h2
  have h4:=(mL qbI).up hle h4
  have hl_1:=(mL qbF).up hle hl_1
  have h18:=(mL qbr).up hle h18
  have h69:=(mL qbr).up hle h69
  have h115:=(mL qbr).up hle h115
  have h147:=(mL mS).up hle h147
  have h149:=(mL mS).up hle h149
  have h152:=(mL qcA).up hle h152
  have at141:=At.up hle at141
  have h163:=(mL mS).up hle h163
  have h165:=(mL mS).up hle h165
  have h168:=(mL qcA).up hle h168
  have h179:=(mL mS).up hle h179
  have h181:=(mL mS).up hle h181
  have h184:=(mL qcA).up hle h184
  refine qaj<|qaa<|sg<|lv E ok (qal (cs:=[vs x134.ID,vs x134.Source,vs x134.Target,c146,c148,vi x134.State,c151]) qgv rfl rfl (qac.own 3 rfl rfl)) fun a E=>lv E ok (qal (cs:=[vs o241.ID,vs o241.Source,vs o241.Target,c486,c488,vi o241.State,c491]) qgv rfl rfl (qac.own 0 rfl rfl)) fun a E=>bd hF fun r493 e494 hF=>lc E qrx rfl (qgk N _ x134 ⟨_,_,_,rfl,l143,l144,l145,h147,h149,r150,h152⟩ _ o241 ⟨_,_,_,rfl,l483,l484,l485,h487,h489,r490,h492⟩ e494 hG ok) fun w ok a E=>lw E (qbl rfl) fun a E=>wn<|cg E rfl hF (fun c495 hF=>?_) fun c495 hF=>?_
  ·refine wp_skip<|qaj<|qaa<|qad<|mv E rfl fun a E=>lw E (qav rfl rfl (InR.inc r132 (qak h18) c133)) fun a E=>av E rfl fun a E=>wpList_nil ?_
   cases hF
   exact qaq ⟨m482,le_m113,(ok.pk 6 [4,5] rfl (by decide)),E.keep [8,11,14,17],(InR.inc r132 (qak h18) c133)⟩
  refine sg<|aw E rfl fun a E=>wp_ret<|qah<|qae ?_
  cases hF
  exact so (sr ⟨rfl,⟨(ok.drop.drop.drop.drop.drop.drop).down hb0 le_m0,E.d,rz E rfl⟩⟩)
 have hF:=hJ
 have le_m172:=Mem.le.refl m172
 refine cf E rfl hF (fun c255 hF=>?_) fun c255 hF=>?_
 ·refine qad<|lv E ok (qal (cs:=[vs r170.1.ID,vs r170.1.Source,vs r170.1.Target,c178,c180,vi r170.1.State,c183]) qgv rfl rfl (qac.own 1 rfl rfl)) fun a E=>qaf E ok 0 rfl rfl rfl qir rfl rfl ⟨rfl,rfl,rfl,(qaS h179),(qaS h181),rfl,(qaS h184),trivial⟩ rfl rfl fun w ok=>wpList_nil ?_
  cases hF
  exact (sl ⟨rfl,⟨m172,c178,c180,c183,le_m172,ok,E.keep [8,11,14,17,18,23],l175,l176,l177,h179,h181,r182,h184⟩⟩)
 refine sg<|mv E rfl fun a E=>aw E rfl fun a E=>cg E rfl hF (fun c256 hF=>?_) fun c256 hF=>?_
 ·refine wp_skip ?_
  cases hF
  exact (sl ⟨rfl,⟨m172,c162,c164,c167,le_m172,ok,E.keep [8,11,14,17,18,23],l159,l160,l161,h163,h165,r166,h168⟩⟩)
 refine sg<|qa2 (R:=pS) (xo:=[]) (xs:=([]:List (List UInt8))) E ok qdY qin rfl trivial rfl rfl rfl rfl fun c257 M258 a w E ok h259=>fk E ok qd3 qfr rfl 3 rfl rfl fun a E=>bd hF fun l260 e261 hF=>qcj (R:=pS) E ok 0 mS qdY Tryz.underlying50 rfl h259 (qa5.ofL h163 ok) e261 ⟨_,qin,rfl⟩ rfl rfl rfl rfl fun c262 M263 a w E ok h264=>fv E qd3 rfl fun a E=>qaf E ok 1 rfl rfl rfl qnP (ORow.cells h264) rfl ⟨(ORow.one h264),trivial⟩ rfl rfl fun w ok=>wn<|wp_seq<|sg<|aw E rfl fun a E=>wp_block<|bd hF fun o278 hL hF=>qaC _ (fun (s:Int × Entry) a w=>∃ c283 M284 c286 c289,Ok u m172 (M284 :: [(b240,oc 53 [vs s.2.ID,vs s.2.Source,vs s.2.Target,c283,c286,vi s.2.State,c289])] :: [(b185,oc 53 [vs r170.1.ID,vs r170.1.Source,vs r170.1.Target,c178,c180,vi r170.1.State,c183])] :: [(b169,oc 53 [vs r154.1.ID,vs r154.1.Source,vs r154.1.Target,c162,c164,vi r154.1.State,c167])] :: [(b153,oc 53 [vs x134.ID,vs x134.Source,vs x134.Target,c146,c148,vi x134.State,c151])] :: [(b24,oc 46 [vi r14.2.1.File,vi r14.2.1.Offset])] :: [(b5,oc 41 [c1,c3])] :: S) w ∧ Env 226 a [(8,c17),(11,c68),(14,c114),(17,vi v130),(18,vp b153),(19,vp b169),(21,vp b185),(23,vp b240),(24,vi s.1)] ∧ InR .i64 s.1 ∧ s.2.ID.length ≤ LIMS ∧ s.2.Source.length ≤ LIMS ∧ s.2.Target.length ≤ LIMS ∧ ORow 9 1 pS m172 c283 s.2.Comments M284 ∧ (pL 1 pS) m172 [c286] s.2.Flags ∧ InR .i64 s.2.State ∧ (pL 2 qc0) m172 [c289] s.2.Fields) (fun (b:Entry) e a w=>e = (.exit 3) ∧ ∃ c474 M475 c477 c480,Ok u m172 (M475 :: [(b240,oc 53 [vs b.ID,vs b.Source,vs b.Target,c474,c477,vi b.State,c480])] :: [(b185,oc 53 [vs r170.1.ID,vs r170.1.Source,vs r170.1.Target,c178,c180,vi r170.1.State,c183])] :: [(b169,oc 53 [vs r154.1.ID,vs r154.1.Source,vs r154.1.Target,c162,c164,vi r154.1.State,c167])] :: [(b153,oc 53 [vs x134.ID,vs x134.Source,vs x134.Target,c146,c148,vi x134.State,c151])] :: [(b24,oc 46 [vi r14.2.1.File,vi r14.2.1.Offset])] :: [(b5,oc 41 [c1,c3])] :: S) w ∧ Env 226 a [(8,c17),(11,c68),(14,c114),(17,vi v130),(18,vp b153),(19,vp b169),(21,vp b185),(23,vp b240)] ∧ b.ID.length ≤ LIMS ∧ b.Source.length ≤ LIMS ∧ b.Target.length ≤ LIMS ∧ ORow 9 1 pS m172 c474 b.Comments M475 ∧ (pL 1 pS) m172 [c477] b.Flags ∧ InR .i64 b.State ∧ (pL 2 qc0) m172 [c480] b.Fields) ?_ ?_ N _ a w hL ⟨c262,M263,c164,c167,ok,E.keep [8,11,14,17,18,19,21,23,24],(ir 0),l159,l160,l161,h264,h165,r166,h168⟩
 ·as_aux_lemma =>
   rintro ⟨v291,v292⟩ a w r ⟨c297,M298,c300,c303,ok,E,r293,l294,l295,l296,h299,h301,r302,h304⟩ hF
   replace hF:qbn N r170 v291 v292 = some r:=hF
   unfold qbn at hF
   refine wp_seq<|sg<|mv E rfl fun a E=>fk E ok qd3 qfr rfl 2 rfl rfl fun a E=>lv E ok (qao qdY h179 rfl) fun a E=>lw E (qat rfl rfl) fun a E=>wn<|cg E rfl hF (fun c305 hF=>?_) fun c305 hF=>?_
   ·refine wp_exit<|qau ?_
    cases hF
    exact so (⟨rfl,⟨c297,M298,c300,c303,ok,E.keep [8,11,14,17,18,19,21,23],l294,l295,l296,h299,h301,r302,h304⟩⟩)
   refine wp_skip<|qaa<|wp_seq<|wp_block<|wp_seq<|qaY (by kernel_rfl) (by kernel_rfl) ok<|qv E (qag qd3 rfl) fun a E=>qv E (qai qfr rfl (qac.own 1 rfl rfl)) fun a E=>qv E (qag qd3 rfl) fun a E=>qv E (qai qfr rfl (qac.own 2 rfl rfl)) fun a E=>qv E (qab rfl) fun a E=>?_
   obtain ⟨x306,e307,hF⟩:=bnd hF
   obtain ⟨b308,o309,es310,hl311,rr312,at313,yy314⟩:=ia E 166 167 qdY h179 e307
   obtain ⟨rfl,l315⟩:=rr312
   refine qv E (yy314 _ _) fun a E=>qv E (qai qam rfl (qac.ro at313)) fun a E=>bd hF fun r321 e322 hF=>qe6 E (v:=(vb r321)) quk rfl (fun w ok=>?_) rfl rfl fun a E=>?_
   ·obtain ⟨m316,hle318,ok317,hfz319⟩:=(ok.frs 0 rfl).freeze
    have h320:=ORow.froz mS h299 hle318 hfz319 (by decide)
    refine Calls.mono (qk1 N _ v292.Comments h320 x306 l315 e322 hG ok317) fun _ _ hz=>?_
    obtain ⟨hz1,okz⟩:=hz
    exact ⟨hz1,(Ok.thawAt 0 rfl ok hle318 hfz319 okz)⟩
   refine qv E (qbl rfl) fun a E=>wpQuiet_nil ?_
   intro w ok
   refine qaa<|cg E rfl hF (fun c323 hF=>?_) fun c323 hF=>?_
   ·refine wp_skip<|qaj<|qaa<|qad<|mv E rfl fun a E=>lw E (qav rfl rfl (InR.inc r293 (qak h179) c305)) fun a E=>av E rfl fun a E=>wpList_nil ?_
    cases hF
    exact qaq ⟨c297,M298,c300,c303,ok,E.keep [8,11,14,17,18,19,21,23,24],(InR.inc r293 (qak h179) c305),l294,l295,l296,h299,h301,r302,h304⟩
   refine bd hF fun o324 hJ hF=>qba (Q':=fun e a w=>e = .normal ∧ ∃ c328 M329 c331 c334,Ok u m172 (M329 :: [(b240,oc 53 [vs o324.ID,vs o324.Source,vs o324.Target,c328,c331,vi o324.State,c334])] :: [(b185,oc 53 [vs r170.1.ID,vs r170.1.Source,vs r170.1.Target,c178,c180,vi r170.1.State,c183])] :: [(b169,oc 53 [vs r154.1.ID,vs r154.1.Source,vs r154.1.Target,c162,c164,vi r154.1.State,c167])] :: [(b153,oc 53 [vs x134.ID,vs x134.Source,vs x134.Target,c146,c148,vi x134.State,c151])] :: [(b24,oc 46 [vi r14.2.1.File,vi r14.2.1.Offset])] :: [(b5,oc 41 [c1,c3])] :: S) w ∧ Env 226 a [(8,c17),(11,c68),(14,c114),(17,vi v130),(18,vp b153),(19,vp b169),(21,vp b185),(23,vp b240),(24,vi v291)] ∧ o324.ID.length ≤ LIMS ∧ o324.Source.length ≤ LIMS ∧ o324.Target.length ≤ LIMS ∧ ORow 9 1 pS m172 c328 o324.Comments M329 ∧ (pL 1 pS) m172 [c331] o324.Flags ∧ InR .i64 o324.State ∧ (pL 2 qc0) m172 [c334] o324.Fields) ?_ ?_
   rotate_left
   ·intro e a w hO
    obtain ⟨rfl,c371,M372,c374,c377,ok,E,l368,l369,l370,h373,h375,r376,h378⟩:=hO
    refine qaj<|qaa<|qad<|mv E rfl fun a E=>lw E (qav rfl rfl (InR.inc r293 (qak h179) c305)) fun a E=>av E rfl fun a E=>wpList_nil ?_
    cases hF
    exact qaq ⟨c371,M372,c374,c377,ok,E.keep [8,11,14,17,18,19,21,23,24],(InR.inc r293 (qak h179) c305),l368,l369,l370,h373,h375,r376,h378⟩
   have hF:=hJ
   obtain ⟨x336,e337,hF⟩:=bnd hF
   obtain ⟨l349,e350,hF⟩:=bnd hF
   obtain rfl:=sj hF
   refine qbY [1,3,6] (Cls u m172 ([(b240,oc 53 [vs v292.ID,vs v292.Source,vs v292.Target,c297,c300,vi v292.State,c303])] :: [(b185,oc 53 [vs r170.1.ID,vs r170.1.Source,vs r170.1.Target,c178,c180,vi r170.1.State,c183])] :: [(b169,oc 53 [vs r154.1.ID,vs r154.1.Source,vs r154.1.Target,c162,c164,vi r154.1.State,c167])] :: [(b153,oc 53 [vs x134.ID,vs x134.Source,vs x134.Target,c146,c148,vi x134.State,c151])] :: [(b24,oc 46 [vi r14.2.1.File,vi r14.2.1.Offset])] :: [(b5,oc 41 [c1,c3])] :: [])) (Cls u m172 ([(b185,oc 53 [vs r170.1.ID,vs r170.1.Source,vs r170.1.Target,c178,c180,vi r170.1.State,c183])] :: [(b169,oc 53 [vs r154.1.ID,vs r154.1.Source,vs r154.1.Target,c162,c164,vi r154.1.State,c167])] :: [(b153,oc 53 [vs x134.ID,vs x134.Source,vs x134.Target,c146,c148,vi x134.State,c151])] :: [(b24,oc 46 [vi r14.2.1.File,vi r14.2.1.Offset])] :: [(b5,oc 41 [c1,c3])] :: [])) (by kernel_rfl) ?_
   intro w hw
   replace ok:=qb9 ok hw
   clear hw
   refine qar (cl1 (cq le_m172 ok [1,2,3,4,5,6] rfl) (cq le_m172 ok [2,3,4,5,6] rfl)) fun hT=>kt 0 E rfl hT (qag qd3 rfl) fun a E=>qa6 1 E rfl (by kernel_rfl) nP hT (qai qfr rfl (qac.cown 0 rfl rfl)) rfl rfl fun a E=>kt 2 E rfl hT (qag qd3 rfl) fun a E=>qa6 3 E rfl (by kernel_rfl) nP hT (qai qfr rfl (qac.cown 1 rfl rfl)) rfl rfl fun a E=>kt 4 E rfl hT (qab rfl) fun a E=>?_
   obtain ⟨b354,o355,es356,hl357,rr358,at359,yy360⟩:=ia E 175 176 qdY h179 e337
   obtain ⟨rfl,l361⟩:=rr358
   refine kt 5 E rfl hT (yy360 _ _) fun a E=>qa6 6 E rfl (by kernel_rfl) nP hT (qai qam rfl (qac.cro at359)) rfl rfl fun a E=>qaL [7] (by kernel_rfl) rfl (qaM ?_)
   ·refine wo rfl<|qa2 (R:=pS) (xo:=[.tmp 178]) (xs:=([x336]:List (List UInt8))) E ok qdY qin rfl ⟨⟨_,rfl,rfl,(qpr l361)⟩,trivial⟩ rfl rfl rfl rfl fun c362 M363 a w E ok h364=>wn<|qar (cl1 (cq le_m172 ok [2,3,4,5,6,7] rfl) (cq le_m172 ok [3,4,5,6,7] rfl)) fun hT=>qaL [8] (by kernel_rfl) rfl (qaM ?_)
    ·refine wo rfl<|qcj (R:=pS) E ok 1 mS qdY Tryz.underlying50 rfl h299 (qa5.ofRow h364 0 rfl ok) e350 ⟨_,qin,rfl⟩ rfl rfl rfl rfl fun c365 M366 a w E ok h367=>wn<|qar (cl1 (cq le_m172 ok [2,3,4,5,6,7] rfl) (cq le_m172 ok [3,4,5,6,7] rfl)) fun hT=>kt 9 E rfl hT (qag qd3 rfl) fun a E=>qaL [10] (by kernel_rfl) rfl (qaM ?_)
     ·refine wo rfl<|qaf E ok 2 rfl rfl rfl qnP (ORow.cells h367) rfl ⟨(ORow.one h367),trivial⟩ rfl rfl fun w ok=>wn<|qar (cl2 (by kernel_rfl) (cq le_m172 ok [3,4,5,6,7] rfl)) fun hT=>qbU (by kernel_rfl) ?_
      exact ⟨rfl,⟨c365,M366,c300,c303,(ok.pk 8 [1,2,3,4,5,6,7] rfl (by decide)),E.keep [8,11,14,17,18,19,21,23,24],l294,l295,l296,h367,h301,r302,h304⟩⟩
 intro e a w _ hO
 obtain ⟨rfl,c382,M383,c385,c388,ok,E,l379,l380,l381,h384,h386,r387,h389⟩:=hO
 refine qaE<|qaa<|wp_seq<|sg<|fk E ok qbD qb3 rfl 3 rfl rfl fun a E=>lv E ok (qao qbG h168 rfl) fun a E=>lw E (qbS rfl rfl) fun a E=>mv E rfl fun a E=>bu E 186 hF (fun c390 hF E=>?_) fun c390 hF E=>?_
 ·refine lsz E fun a E=>pt E rfl rfl fun a E=>wn<|c_if E rfl (fun _=>?_) (fun h=>by cases h)
  refine sg<|aw E rfl fun a E=>wp_ret<|qae ?_
  have hret:qb8 u m0 S false a w:=⟨(ok.drop.drop.drop.drop.drop.drop.drop).down hb0 le_m0,E.d,rz E rfl⟩
  cases hF
  exact (sr ⟨rfl,hret⟩)
 refine fk E ok qbD qb3 rfl 2 rfl rfl fun a E=>lv E ok (qao qbG h184 rfl) fun a E=>lw E (qbS rfl rfl) fun a E=>pf E rfl rfl fun a E=>wn<|cf E rfl hF (fun c391 hF=>?_) fun c391 hF=>?_
 ·refine sg<|aw E rfl fun a E=>wp_ret<|qae ?_
  have hret:qb8 u m0 S false a w:=⟨(ok.drop.drop.drop.drop.drop.drop.drop).down hb0 le_m0,E.d,rz E rfl⟩
  cases hF
  exact (sr ⟨rfl,hret⟩)
 refine wp_skip<|qaa<|bd hF fun o392 hJ hF=>qba (Q':=fun e a w=>e = .normal ∧ ∃ c396 M397 c399 c402 M403,Ok u m172 (M403 :: M397 :: [(b240,oc 53 [vs o392.ID,vs o392.Source,vs o392.Target,c396,c399,vi o392.State,c402])] :: [(b185,oc 53 [vs r170.1.ID,vs r170.1.Source,vs r170.1.Target,c178,c180,vi r170.1.State,c183])] :: [(b169,oc 53 [vs r154.1.ID,vs r154.1.Source,vs r154.1.Target,c162,c164,vi r154.1.State,c167])] :: [(b153,oc 53 [vs x134.ID,vs x134.Source,vs x134.Target,c146,c148,vi x134.State,c151])] :: [(b24,oc 46 [vi r14.2.1.File,vi r14.2.1.Offset])] :: [(b5,oc 41 [c1,c3])] :: S) w ∧ Env 226 a [(8,c17),(11,c68),(14,c114),(17,vi v130),(18,vp b153),(23,vp b240)] ∧ o392.ID.length ≤ LIMS ∧ o392.Source.length ≤ LIMS ∧ o392.Target.length ≤ LIMS ∧ ORow 9 1 pS m172 c396 o392.Comments M397 ∧ (pL 1 pS) m172 [c399] o392.Flags ∧ InR .i64 o392.State ∧ ORow 58 2 qc0 m172 c402 o392.Fields M403) ?_ ?_
 ·have hF:=hJ
  obtain ⟨x405,e406,hF⟩:=bnd hF
  obtain ⟨s416,e417,hF⟩:=bnd hF
  obtain ⟨x418,e419,hF⟩:=bnd hF
  obtain ⟨s429,e430,hF⟩:=bnd hF
  obtain rfl:=sj hF
  refine qbY [1,4,7,10] (Cls u m172 (M383 :: [(b240,oc 53 [vs o278.ID,vs o278.Source,vs o278.Target,c382,c385,vi o278.State,c388])] :: [(b185,oc 53 [vs r170.1.ID,vs r170.1.Source,vs r170.1.Target,c178,c180,vi r170.1.State,c183])] :: [(b169,oc 53 [vs r154.1.ID,vs r154.1.Source,vs r154.1.Target,c162,c164,vi r154.1.State,c167])] :: [(b153,oc 53 [vs x134.ID,vs x134.Source,vs x134.Target,c146,c148,vi x134.State,c151])] :: [(b24,oc 46 [vi r14.2.1.File,vi r14.2.1.Offset])] :: [(b5,oc 41 [c1,c3])] :: [])) (Cls u m172 (M383 :: [(b185,oc 53 [vs r170.1.ID,vs r170.1.Source,vs r170.1.Target,c178,c180,vi r170.1.State,c183])] :: [(b169,oc 53 [vs r154.1.ID,vs r154.1.Source,vs r154.1.Target,c162,c164,vi r154.1.State,c167])] :: [(b153,oc 53 [vs x134.ID,vs x134.Source,vs x134.Target,c146,c148,vi x134.State,c151])] :: [(b24,oc 46 [vi r14.2.1.File,vi r14.2.1.Offset])] :: [(b5,oc 41 [c1,c3])] :: [])) (by kernel_rfl) ?_
  intro w hw
  replace ok:=qb9 ok hw
  clear hw
  refine qar (cl1 (cq le_m172 ok [0,1,2,3,4,5,6] rfl) (cq le_m172 ok [0,2,3,4,5,6] rfl)) fun hT=>kt 0 E rfl hT (qag qbD rfl) fun a E=>qa6 1 E rfl (by kernel_rfl) nP hT (qai qb3 rfl (qac.cown 3 rfl rfl)) rfl rfl fun a E=>?_
  obtain ⟨b434,o435,es436,hl437,rr438,at439,yy440⟩:=qnf qbG h168 e406 (P:=Tryz.prog) (X:=.tmp 193) (I:=.const (vi 0)) (kd:=.i64) (qaz E rfl) (qaz E rfl)
  obtain ⟨rfl,l441,l442⟩:=rr438
  refine kt 2 E rfl hT (yy440 _ _) fun a E=>kt 3 E rfl hT (qag qci rfl) fun a E=>qa6 4 E rfl (by kernel_rfl) nP hT (qai qam rfl (qac.cro (At.sub 1 1 at439))) rfl rfl fun a E=>kt 5 E rfl hT (qaI rfl rfl e417) fun a E=>kt 6 E rfl hT (qag qbD rfl) fun a E=>qa6 7 E rfl (by kernel_rfl) nP hT (qai qb3 rfl (qac.cown 2 rfl rfl)) rfl rfl fun a E=>?_
  obtain ⟨b443,o444,es445,hl446,rr447,at448,yy449⟩:=qnf qbG h184 e419 (P:=Tryz.prog) (X:=.tmp 199) (I:=.const (vi 0)) (kd:=.i64) (qaz E rfl) (qaz E rfl)
  obtain ⟨rfl,l450,l451⟩:=rr447
  refine kt 8 E rfl hT (yy449 _ _) fun a E=>kt 9 E rfl hT (qag qci rfl) fun a E=>qa6 10 E rfl (by kernel_rfl) nP hT (qai qam rfl (qac.cro (At.sub 1 1 at448))) rfl rfl fun a E=>kt 11 E rfl hT (qaI rfl rfl e430) fun a E=>kt 12 E rfl hT (qaT (ps:=[(0,.const (vs ([114,101,102]))),(1,.tmp 203)]) (qs:=[(0,[(vs ([114,101,102]))]),(1,[vs s429])]) (cs:=[(vs ([114,101,102])),vs s429]) qid qkw rfl ⟨rfl,rfl,rfl,⟨rfl,rfl,rfl,trivial⟩⟩ rfl) fun a E=>qaL [13] (by kernel_rfl) rfl (qaM ?_)
  ·refine wo rfl<|qa2 (R:=qc0) (xo:=[.tmp 204]) (xs:=([(Field.mk ([114,101,102]) s429)]:List (Field))) E ok qbG qid rfl ⟨⟨_,rfl,rfl,⟨rfl,(show ([114,101,102]:List UInt8).length ≤ LIMS by decide),(qaH e430)⟩⟩,trivial⟩ rfl rfl rfl rfl fun c452 M453 a w E ok h454=>wn<|qar (cl1 (cq le_m172 ok [1,2,3,4,5,6,7] rfl) (cq le_m172 ok [1,3,4,5,6,7] rfl)) fun hT=>kt 14 E rfl hT (qag qbD rfl) fun a E=>qaL [15] (by kernel_rfl) rfl (qaM ?_)
   ·refine wo rfl<|qaf E ok 2 rfl rfl rfl qtn (ORow.cells h454) rfl ⟨(ORow.one h454),trivial⟩ rfl rfl fun w ok=>wn<|qar (cl2 (by kernel_rfl) (cq le_m172 ok [1,3,4,5,6,7] rfl)) fun hT=>qbU (by kernel_rfl) ?_
    exact ⟨rfl,⟨c382,M383,c385,c452,M453,ok,E.keep [8,11,14,17,18,23],l379,l380,l381,h384,h386,r387,h454⟩⟩
 intro e a w hO
 obtain ⟨rfl,c458,M459,c461,c464,M465,ok,E,l455,l456,l457,h460,h462,r463,h466⟩:=hO
 obtain ⟨m467,hle,ok,hfz⟩:=(ok.frs 1 rfl).freeze
 have h468:=ORow.froz mS h460 hle hfz (by decide)
 have le_m0:=le_m0.trans hle
 have le_m113:=le_m113.trans hle
 have le_m172:=le_m172.trans hle
 have h2:=(mL qaA).up hle h2
 have h4:=(mL qbI).up hle h4
 have hl_1:=(mL qbF).up hle hl_1
 have h18:=(mL qbr).up hle h18
 have h69:=(mL qbr).up hle h69
 have h115:=(mL qbr).up hle h115
 have h147:=(mL mS).up hle h147
 have h149:=(mL mS).up hle h149
 have h152:=(mL qcA).up hle h152
 have at141:=At.up hle at141
 have h163:=(mL mS).up hle h163
 have h165:=(mL mS).up hle h165
 have h168:=(mL qcA).up hle h168
 have h179:=(mL mS).up hle h179
 have h181:=(mL mS).up hle h181
 have h184:=(mL qcA).up hle h184
 have h386:=(mL mS).up hle h386
 have h389:=(mL qcA).up hle h389
 have h462:=(mL mS).up hle h462
 have h466:=ORow.up qcA hle h466
 obtain ⟨m469,hle,ok,hfz⟩:=(ok.frs 0 rfl).freeze
 have h470:=ORow.froz qcA h466 hle hfz (by decide)
 have le_m0:=le_m0.trans hle
 have le_m113:=le_m113.trans hle
 have le_m172:=le_m172.trans hle
 have h2:=(mL qaA).up hle h2
 have h4:=(mL qbI).up hle h4
 have hl_1:=(mL qbF).up hle hl_1
 have h18:=(mL qbr).up hle h18
 have h69:=(mL qbr).up hle h69
 have h115:=(mL qbr).up hle h115
 have h147:=(mL mS).up hle h147
 have h149:=(mL mS).up hle h149
 have h152:=(mL qcA).up hle h152
 have at141:=At.up hle at141
 have h163:=(mL mS).up hle h163
 have h165:=(mL mS).up hle h165
 have h168:=(mL qcA).up hle h168
 have h179:=(mL mS).up hle h179
 have h181:=(mL mS).up hle h181
 have h184:=(mL qcA).up hle h184
 have h386:=(mL mS).up hle h386
 have h389:=(mL qcA).up hle h389
 have h462:=(mL mS).up hle h462
 have h468:=(mL mS).up hle h468
 cases hF
 exact (sl ⟨rfl,⟨m469,c458,c461,c464,le_m172,ok,E.keep [8,11,14,17,18,23],l455,l456,l457,h468,h462,r463,h470⟩⟩)
end Go.Proofs.YtllfckekodcdaaaGreatDoor
namespace Go.X
variable {H:Type} {enc:TypeId × Value → H}
end Go.X
namespace Go.X
open Go.ChangeShapes Go.RowKit
def OpnS {α:Type} (P:Program) (t:TypeId) (R:Rp α) (Q:α → Prop):Prop :=
 ∀ {H:Type} {enc:TypeId × Value → H} {W:World} {base:Nat} {spare:Nat → Bool} {held:Bool} {fuel:Nat} {cs:List Value} {x:DataW H × List MemPlace},
  DataW.trod enc P W base spare held fuel t cs = some x → (∀ n ∈ x.1.weights P t,n ≤ reachBytes) → ∃ a:α,R (hm W) cs a ∧ Q a
section
variable {P:Program} {t:TypeId}
theorem qjq {k:IntKind} (ht:P.underlying t = some (.int k)):OpnS P t (pI k) (InR k):=fun h _=>by
 obtain ⟨a,ha⟩:=qtC ht h
 exact ⟨a,ha,ha.2⟩
theorem qsY (ht:P.underlying t = some .bool):OpnS P t pB (fun _=>True):=fun h _=>by
 obtain ⟨a,ha⟩:=qsO ht h
 exact ⟨a,ha,trivial⟩
theorem qjs (ht:P.underlying t = some .string):OpnS P t pS (fun s=>s.length ≤ reachBytes):=fun h hz=>by
 obtain ⟨s,rfl,rfl,hs⟩:=DataW.trod_string ht h
 refine ⟨s.data.toList,⟨rfl,hs⟩,hz _ ?_⟩
 simp [DataW.weights]
theorem qjl {H:Type} {e:TypeId}:∀ {l:List (DataW H)} {d:DataW H},d ∈ l → ∀ n ∈ d.weights P e,n ∈ DataW.weightsAll P e l
 | d0 :: l,d,h,n,hn=>by
  simp only [DataW.weightsAll,List.mem_append]
  rcases List.mem_cons.1 h with rfl | h
  ·exact .inl hn
  ·exact .inr (qjl h n hn)
 | [],_,h,_,_=>by cases h
theorem qso {α:Type} {e:TypeId} {n:Nat} {R:Rp α} {Q:α → Prop} (ht:P.underlying t = some (.slice e)) (hc:P.cellsOf e = n) (hn:0 < n) (hb:0 < P.bytesOf e) (he:OpnS P e R Q):OpnS P t (pL n R) (fun xs=>xs.length ≤ reachBytes ∧ ∀ y ∈ xs,Q y):=fun {H enc W base spare held fuel cs x} h hz=>by
 rcases Go.Deep.open_slice ht h with ⟨rfl,_⟩ | ⟨a,len,cap,m,fu,D,Pl,rfl,_,hl,hm',hm2,rfl,hel⟩
 ·exact ⟨[],⟨none,0,rfl,Nat.le_refl _,Nat.zero_le _,Nat.zero_le _,fun h=>absurd rfl h⟩,Nat.zero_le _,fun _ h=>by cases h⟩
 ·rw [hc] at hel
  have hlm:len ≤ m:=by rw [hm2]; split <;> omega
  have hlen:len ≤ reachBytes:=by
   have h1:=hz (((List.range len).map D).length + ((List.range (m - len)).map fun j=>D (len + j)).length |> (· * P.bytesOf e)) (by simp [DataW.weights,ht])
   simp only [List.length_map,List.length_range] at h1
   have h2:len * 1 ≤ (len + (m - len)) * P.bytesOf e:=Nat.mul_le_mul (by omega) hb
   omega
  have key:∀ i,i < len → ∃ y:α,(∃ es:List Value,es.length = n ∧ (∀ j v,es[j]? = some v → W.cell? (a.add (i * n + j)) = some v) ∧ R (hm W) es y) ∧ Q y:=by
   intro i hi
   obtain ⟨cs',h1,h2⟩:=hel i (by omega)
   obtain ⟨y,hy,hq⟩:=he h2 (fun k hk=>hz k (by
    simp only [DataW.weights,ht,List.mem_cons,List.mem_append]
    exact .inr (.inl (qjl (List.mem_map.2 ⟨i,List.mem_range.2 hi,rfl⟩) k hk))))
   obtain ⟨_,hlen,hcell⟩:=World.cells?_some h1
   refine ⟨y,⟨cs',hlen,fun j v hj=>?_,hy⟩,hq⟩
   have hjn:j < n:=by rw [← hlen]; exact (List.getElem?_eq_some_iff.1 hj).1
   have:=hcell j hjn
   rw [hj] at this
   rw [qsC]
   exact this
  have pick:∃ f:Fin len → α,∀ i:Fin len,(∃ es:List Value,es.length = n ∧ (∀ j v,es[j]? = some v → W.cell? (a.add (i.1 * n + j)) = some v) ∧ R (hm W) es (f i)) ∧ Q (f i) :=
   ⟨fun i=>(key i.1 i.2).choose,fun i=>(key i.1 i.2).choose_spec⟩
  obtain ⟨f,hf⟩:=pick
  refine ⟨List.ofFn f,⟨some a,cap,by rw [List.length_ofFn],by rw [List.length_ofFn]; exact hl,hm',?_,fun h0=>?_⟩,by rw [List.length_ofFn]; exact hlen,fun y hy=>?_⟩
  ·rw [List.length_ofFn]; unfold maxLen at hm'; unfold LIMS; omega
  ·rw [List.length_ofFn] at h0
   obtain ⟨b,off,spot⟩:=a
   have hs:spot = none:=by
    obtain ⟨⟨es,e1,e2,_⟩,_⟩:=hf ⟨0,by omega⟩
    have hv:es[0]? = some (es[0]'(by omega)):=by simp
    have:=e2 0 _ hv
    simpa [Addr.add] using World.cell?_spot this
   subst hs
   refine ⟨b,off,rfl,fun i y hy=>?_⟩
   obtain ⟨hi,rfl⟩:=List.getElem?_eq_some_iff.1 hy
   have hi':i < len:=by simpa using hi
   obtain ⟨⟨es,e1,e2,e3⟩,_⟩:=hf ⟨i,hi'⟩
   refine ⟨es,e1,fun j v hj=>?_,by simpa using e3⟩
   have:=e2 j v hj
   refine qsf ?_
   rw [qrd] at this
   rw [Nat.add_assoc]
   exact this
  ·obtain ⟨i,rfl⟩:=List.mem_ofFn.1 hy
   exact (hf i).2
theorem qgK {fs:Array Field} (ht:P.underlying t = some (.struct fs)) {H:Type} {enc:TypeId × Value → H} {W:World} {base:Nat} {spare:Nat → Bool} {held:Bool} {fuel:Nat} {cs:List Value} {x:DataW H × List MemPlace}
  (h:DataW.trod enc P W base spare held fuel t cs = some x) (hz:∀ n ∈ x.1.weights P t,n ≤ reachBytes) :
  cs.length = P.cellsOf t ∧ ∀ {α:Type} {R:Rp α} {Q:α → Prop} (i:Nat) (f:Field) (n:Nat),fs[i]? = some f → P.cellsOf f.type = n → OpnS P f.type R Q → ∃ a,R (hm W) ((cs.drop f.offset).take n) a ∧ Q a:=by
 obtain ⟨xs,n,_,hx,hl,hlen,hf⟩:=DataW.trod_struct ht h
 refine ⟨hl,fun {α R Q} i f n hi hn ho=>?_⟩
 have hi':i < xs.length:=by rw [hlen]; exact (Array.getElem?_eq_some_iff.1 hi).1
 have:=hf i f hi
 rw [List.getElem?_eq_getElem hi',hn] at this
 refine ho this fun k hk=>hz k ?_
 subst hx
 simp only [DataW.weights,ht]
 refine DataW.weights_mem_each (j:=i) (t:=f.type) (d:=xs[i].1) ?_ ?_ k hk
 ·simp [hi]
 ·simp [hi']
end
end Go.X
namespace Go.X
open Go.ChangeShapes Go.RowKit
section
variable {H:Type} {enc:TypeId × Value → H}
theorem qkt {a:Assume} {C:Checked} {os:Os} {f:FuncId} {fn:Func} {s:ChangeSpec} {conds:List PathCond} {apart fresh handsOn again:Bool} {X:World → Array Value → Prop}
  (hX:∀ (w w':World) (args:Array Value),w.heap = w'.heap → X w args → X w' args)
  (own:ownKnob C.prog.godebug = none) (started:os.Started) (noInit:C.prog.inits.idxOf? f = none) (hfn:C.prog.funcs[f]? = some fn)
  (witness:∃ (w:World) (tape:Tape) (i:Input),w.os = os ∧ (w.forCall tape i).Shaped C.prog ∧ i.vars = [] ∧ Input.okWide C.prog (w.forCall tape i) .any w.heap.size f i ∧
   ((s.pre enc C.prog fn conds apart (w.forCall tape i).memory i.args ∧ X (w.forCall tape i).memory i.args) ∧ sizedMet enc C.prog fn (OpenSpec.ofChange s) apart (w.forCall tape i).memory i.args) ∧ a.holds C.prog (lone (Frame.enter C.prog f i.args .normal) [] (w.forCall tape i)))
  (contract:∀ (W:World) (base:Nat) (args:Array Value) (ds gs:List (DataW H)) (before:List MemPlace),
   (∀ (j:Nat) t v,fn.params[j]? = some t → args[j]? = some v → Value.okWide C.prog W .any base t v) →
   DataW.Whole enc C.prog fn.params.toList s.vars apart W args.toList ds gs before → W.ShapedOpen C.prog →
   X W args → (DataW.weightsEach C.prog (fn.params.toList ++ s.plain.varTypes C.prog) (ds ++ gs)).all (· ≤ reachBytes) = true →
   Calls C.prog f args W fun e W'=>∃ v,e = .returned v ∧ s.post enc C.prog fn apart fresh handsOn again W args v W') :
  ReturnsInHanded a C os f .any (fun w args=>(s.pre enc C.prog fn conds apart w args ∧ X w args) ∧ sizedMet enc C.prog fn (OpenSpec.ofChange s) apart w args) (s.post enc C.prog fn apart fresh handsOn again):=by
 refine returnsInHanded_of_calls own started noInit witness ?_
 intro w tape i _ hsh _ hok hpre _
 obtain ⟨_,_,_,fn',hfn',_,_,_,_,hval⟩:=hok
 have e:fn' = fn:=Option.some.inj (hfn'.symm.trans hfn)
 subst e
 obtain ⟨⟨⟨ds,gs,before,hw,_⟩,hx⟩,hz⟩:=hpre
 have hw':=DataW.Whole.of_heap (w':=w.forCall tape i) (by rfl) hw
 refine (contract (w.forCall tape i) w.heap.size i.args ds gs before hval hw' hsh (hX _ _ _ (by rfl) hx) (hz.weights hw)).mono fun e W' ⟨v,he,hp⟩=>?_
 subst he
 exact ChangeSpec.post_blind hp
end
end Go.X
namespace Go.X
open Go.ChangeShapes Go.RowKit
end Go.X
namespace Go.X
open Go.ChangeShapes Go.RowKit
section
variable {P:Program} {t:TypeId}
theorem qhi {α:Type} {e:TypeId} {n:Nat} {R:Rp α} {Q:α → Prop} (B:Nat) (hB:B ≤ P.bytesOf e) (hB0:0 < B) (ht:P.underlying t = some (.slice e)) (hc:P.cellsOf e = n) (hn:0 < n) (he:OpnS P e R Q):OpnS P t (pL n R) (fun xs=>xs.length * B ≤ reachBytes ∧ ∀ y ∈ xs,Q y):=fun {H enc W base spare held fuel cs x} h hz=>by
 obtain ⟨xs,hp,_,hq⟩:=qso ht hc hn (Nat.lt_of_lt_of_le hB0 hB) he h hz
 refine ⟨xs,hp,?_,hq⟩
 obtain ⟨a0,cap0,hcs,_⟩:=hp
 rcases Go.Deep.open_slice ht h with ⟨rfl,_⟩ | ⟨a,len,cap,m,fu,D,Pl,rfl,_,hl,hm',hm2,rfl,hel⟩
 ·have:=(List.cons.inj hcs).1
  simp only [Value.slice.injEq] at this
  rw [← this.2.1,Nat.zero_mul]; exact Nat.zero_le _
 ·have h0:=(List.cons.inj hcs).1
  simp only [Value.slice.injEq] at h0
  rw [← h0.2.1]
  have hlm:len ≤ m:=by rw [hm2]; split <;> omega
  have h1:=hz (((List.range len).map D).length + ((List.range (m - len)).map fun j=>D (len + j)).length |> (· * P.bytesOf e)) (by simp [DataW.weights,ht])
  simp only [List.length_map,List.length_range] at h1
  have h2:len * B ≤ (len + (m - len)) * P.bytesOf e:=Nat.mul_le_mul (by omega) hB
  omega
end
end Go.X
namespace Go.Proofs.YtllfckekodcdaaaGreatDoor
open Go.ChangeShapes Go.WideShapes Go.ChangeAt Go.RowKit Go.X
theorem own:ownKnob Tryz.prog.godebug = none:=by kernel_rfl
theorem qmc:laidOutB Tryz.prog = true:=by kernel_rfl
theorem qqu {H:Type} {enc:TypeId × Value → H} {W:World} {base:Nat} {sp:Nat → Bool} {held:Bool} (b:Bool):DataW.Trod enc Tryz.prog W base sp held 4 (.bool b) (.lit (.bool b)) [] :=
 ⟨1,by simp [DataW.trod,Value.cells,Tryz.underlying4]⟩
theorem qsH {W:World} (h:W.ShapedOpen Tryz.prog):Glob W:=cell_of_shapedOpen_int (g:=0) (t:=3) (zero:=#[.int .i64 0]) h (of_decide_eq_true (by kernel_rfl)) (by kernel_rfl) (by kernel_rfl) (by kernel_rfl) (by kernel_rfl) Tryz.underlying3
theorem ce3:Tryz.prog.cellsOf 3 = 1:=by kernel_rfl
theorem ce4:Tryz.prog.cellsOf 4 = 1:=by kernel_rfl
theorem ce5:Tryz.prog.cellsOf 5 = 1:=by kernel_rfl
theorem ce9:Tryz.prog.cellsOf 9 = 1:=by kernel_rfl
theorem ce22:Tryz.prog.cellsOf 22 = 1:=by kernel_rfl
theorem ce39:Tryz.prog.cellsOf 39 = 1:=by kernel_rfl
theorem ce41:Tryz.prog.cellsOf 41 = 2:=by kernel_rfl
theorem ce62:Tryz.prog.cellsOf 62 = 2:=by kernel_rfl
theorem ce66:Tryz.prog.cellsOf 66 = 3:=by kernel_rfl
theorem qtZ:Tryz.prog.cellsOf 106 = 1:=by kernel_rfl
theorem qrq:Tryz.prog.cellsOf 108 = 2:=by kernel_rfl
theorem quq:Tryz.prog.cellsOf 112 = 1:=by kernel_rfl
theorem qrD:Tryz.prog.cellsOf 114 = 3:=by kernel_rfl
theorem qux:Tryz.prog.cellsOf 136 = 1:=by kernel_rfl
theorem qrv:Tryz.prog.cellsOf 138 = 5:=by kernel_rfl
theorem qro:Tryz.prog.cellsOf 157 = 2:=by kernel_rfl
theorem qtF:OpnS Tryz.prog 157 qbp (fun x=>(InR .u8 x.From ∧ InR .u8 x.To)):=fun h hz=>by
 obtain ⟨hl,hf⟩:=qgK Tryz.underlying157 h hz
 obtain ⟨c0,c1,rfl⟩:=len2 (hl.trans qro)
 obtain ⟨a0,h0,q0⟩:=hf 0 _ 1 rfl ce5 (qjq Tryz.underlying5)
 obtain ⟨a1,h1,q1⟩:=hf 1 _ 1 rfl ce5 (qjq Tryz.underlying5)
 have h0:(pI .u8) _ [c0] a0:=h0
 obtain ⟨rfl,g0⟩:=qg3 h0
 have h1:(pI .u8) _ [c1] a1:=h1
 obtain ⟨rfl,g1⟩:=qg3 h1
 exact ⟨⟨a0,a1⟩,⟨rfl,g0,g1⟩,⟨q0,q1⟩⟩
theorem qtD:OpnS Tryz.prog 138 qbu (fun x=>(x.Text.length ≤ reachBytes ∧ (x.Ranges.length * 2 ≤ reachBytes ∧ ∀ y23 ∈ x.Ranges,(InR .u8 y23.From ∧ InR .u8 y23.To)) ∧ InR .i64 x.Least ∧ InR .i64 x.Most)):=fun h hz=>by
 obtain ⟨hl,hf⟩:=qgK Tryz.underlying138 h hz
 obtain ⟨c0,c1,c2,c3,c4,rfl⟩:=len5 (hl.trans qrv)
 obtain ⟨a0,h0,q0⟩:=hf 0 _ 1 rfl ce9 (qjs Tryz.underlying9)
 obtain ⟨a1,h1,q1⟩:=hf 1 _ 1 rfl qux (qhi 2 (of_decide_eq_true (by kernel_rfl)) (Nat.succ_pos _) Tryz.underlying136 qro (Nat.succ_pos _) qtF)
 obtain ⟨a2,h2,q2⟩:=hf 2 _ 1 rfl ce4 (qsY Tryz.underlying4)
 obtain ⟨a3,h3,q3⟩:=hf 3 _ 1 rfl ce3 (qjq Tryz.underlying3)
 obtain ⟨a4,h4,q4⟩:=hf 4 _ 1 rfl ce3 (qjq Tryz.underlying3)
 have h0:pS _ [c0] a0:=h0
 obtain ⟨rfl,g0⟩:=qif h0
 have h1:(pL 2 qbp) _ [c1] a1:=h1
 have h2:pB _ [c2] a2:=h2
 obtain rfl:=qkz h2
 have h3:(pI .i64) _ [c3] a3:=h3
 obtain ⟨rfl,g3⟩:=qg3 h3
 have h4:(pI .i64) _ [c4] a4:=h4
 obtain ⟨rfl,g4⟩:=qg3 h4
 exact ⟨⟨a0,a1,a2,a3,a4⟩,⟨c1,rfl,g0,h1,g3,g4⟩,⟨q0,q1,q3,q4⟩⟩
theorem qtY:OpnS Tryz.prog 114 qdh (fun x=>(x.Kind.length ≤ reachBytes ∧ (x.Items.length * 64 ≤ reachBytes ∧ ∀ y21 ∈ x.Items,(y21.Text.length ≤ reachBytes ∧ (y21.Ranges.length * 2 ≤ reachBytes ∧ ∀ y22 ∈ y21.Ranges,(InR .u8 y22.From ∧ InR .u8 y22.To)) ∧ InR .i64 y21.Least ∧ InR .i64 y21.Most)) ∧ x.Next.length ≤ reachBytes)):=fun h hz=>by
 obtain ⟨hl,hf⟩:=qgK Tryz.underlying114 h hz
 obtain ⟨c0,c1,c2,rfl⟩:=len3 (hl.trans qrD)
 obtain ⟨a0,h0,q0⟩:=hf 0 _ 1 rfl ce9 (qjs Tryz.underlying9)
 obtain ⟨a1,h1,q1⟩:=hf 1 _ 1 rfl quq (qhi 64 (of_decide_eq_true (by kernel_rfl)) (Nat.succ_pos _) Tryz.underlying112 qrv (Nat.succ_pos _) qtD)
 obtain ⟨a2,h2,q2⟩:=hf 2 _ 1 rfl ce9 (qjs Tryz.underlying9)
 have h0:pS _ [c0] a0:=h0
 obtain ⟨rfl,g0⟩:=qif h0
 have h1:(pL 5 qbu) _ [c1] a1:=h1
 have h2:pS _ [c2] a2:=h2
 obtain ⟨rfl,g2⟩:=qif h2
 exact ⟨⟨a0,a1,a2⟩,⟨c1,rfl,g0,h1,g2⟩,⟨q0,q1,q2⟩⟩
theorem qua:OpnS Tryz.prog 108 qbP (fun x=>(x.Name.length ≤ reachBytes ∧ (x.Rules.length * 56 ≤ reachBytes ∧ ∀ y18 ∈ x.Rules,(y18.Kind.length ≤ reachBytes ∧ (y18.Items.length * 64 ≤ reachBytes ∧ ∀ y19 ∈ y18.Items,(y19.Text.length ≤ reachBytes ∧ (y19.Ranges.length * 2 ≤ reachBytes ∧ ∀ y20 ∈ y19.Ranges,(InR .u8 y20.From ∧ InR .u8 y20.To)) ∧ InR .i64 y19.Least ∧ InR .i64 y19.Most)) ∧ y18.Next.length ≤ reachBytes)))):=fun h hz=>by
 obtain ⟨hl,hf⟩:=qgK Tryz.underlying108 h hz
 obtain ⟨c0,c1,rfl⟩:=len2 (hl.trans qrq)
 obtain ⟨a0,h0,q0⟩:=hf 0 _ 1 rfl ce9 (qjs Tryz.underlying9)
 obtain ⟨a1,h1,q1⟩:=hf 1 _ 1 rfl qtZ (qhi 56 (of_decide_eq_true (by kernel_rfl)) (Nat.succ_pos _) Tryz.underlying106 qrD (Nat.succ_pos _) qtY)
 have h0:pS _ [c0] a0:=h0
 obtain ⟨rfl,g0⟩:=qif h0
 have h1:(pL 3 qdh) _ [c1] a1:=h1
 exact ⟨⟨a0,a1⟩,⟨c1,rfl,g0,h1⟩,⟨q0,q1⟩⟩
theorem o_66:OpnS Tryz.prog 66 qdI (fun x=>(x.Name.length ≤ reachBytes ∧ InR .i64 x.ID ∧ InR .i64 x.Source)):=fun h hz=>by
 obtain ⟨hl,hf⟩:=qgK Tryz.underlying66 h hz
 obtain ⟨c0,c1,c2,rfl⟩:=len3 (hl.trans ce66)
 obtain ⟨a0,h0,q0⟩:=hf 0 _ 1 rfl ce9 (qjs Tryz.underlying9)
 obtain ⟨a1,h1,q1⟩:=hf 1 _ 1 rfl ce3 (qjq Tryz.underlying3)
 obtain ⟨a2,h2,q2⟩:=hf 2 _ 1 rfl ce3 (qjq Tryz.underlying3)
 have h0:pS _ [c0] a0:=h0
 obtain ⟨rfl,g0⟩:=qif h0
 have h1:(pI .i64) _ [c1] a1:=h1
 obtain ⟨rfl,g1⟩:=qg3 h1
 have h2:(pI .i64) _ [c2] a2:=h2
 obtain ⟨rfl,g2⟩:=qg3 h2
 exact ⟨⟨a0,a1,a2⟩,⟨rfl,g0,g1,g2⟩,⟨q0,q1,q2⟩⟩
theorem o_41:OpnS Tryz.prog 41 qjI (fun x=>((x.Script.length * 40 ≤ reachBytes ∧ ∀ y13 ∈ x.Script,(y13.Name.length ≤ reachBytes ∧ (y13.Rules.length * 56 ≤ reachBytes ∧ ∀ y14 ∈ y13.Rules,(y14.Kind.length ≤ reachBytes ∧ (y14.Items.length * 64 ≤ reachBytes ∧ ∀ y15 ∈ y14.Items,(y15.Text.length ≤ reachBytes ∧ (y15.Ranges.length * 2 ≤ reachBytes ∧ ∀ y16 ∈ y15.Ranges,(InR .u8 y16.From ∧ InR .u8 y16.To)) ∧ InR .i64 y15.Least ∧ InR .i64 y15.Most)) ∧ y14.Next.length ≤ reachBytes)))) ∧ (x.Calls.length * 32 ≤ reachBytes ∧ ∀ y17 ∈ x.Calls,(y17.Name.length ≤ reachBytes ∧ InR .i64 y17.ID ∧ InR .i64 y17.Source)))):=fun h hz=>by
 obtain ⟨hl,hf⟩:=qgK Tryz.underlying41 h hz
 obtain ⟨c0,c1,rfl⟩:=len2 (hl.trans ce41)
 obtain ⟨a0,h0,q0⟩:=hf 0 _ 1 rfl ce39 (qhi 40 (of_decide_eq_true (by kernel_rfl)) (Nat.succ_pos _) Tryz.underlying39 qrq (Nat.succ_pos _) qua)
 obtain ⟨a1,h1,q1⟩:=hf 1 _ 1 rfl ce22 (qhi 32 (of_decide_eq_true (by kernel_rfl)) (Nat.succ_pos _) Tryz.underlying22 ce66 (Nat.succ_pos _) o_66)
 have h0:(pL 2 qbP) _ [c0] a0:=h0
 have h1:(pL 3 qdI) _ [c1] a1:=h1
 exact ⟨⟨a0,a1⟩,⟨c0,c1,rfl,h0,h1⟩,⟨q0,q1⟩⟩
theorem o_62:OpnS Tryz.prog 62 qeG (fun x=>(x.Name.length ≤ reachBytes ∧ x.Text.length ≤ reachBytes)):=fun h hz=>by
 obtain ⟨hl,hf⟩:=qgK Tryz.underlying62 h hz
 obtain ⟨c0,c1,rfl⟩:=len2 (hl.trans ce62)
 obtain ⟨a0,h0,q0⟩:=hf 0 _ 1 rfl ce9 (qjs Tryz.underlying9)
 obtain ⟨a1,h1,q1⟩:=hf 1 _ 1 rfl ce9 (qjs Tryz.underlying9)
 have h0:pS _ [c0] a0:=h0
 obtain ⟨rfl,g0⟩:=qif h0
 have h1:pS _ [c1] a1:=h1
 obtain ⟨rfl,g1⟩:=qif h1
 exact ⟨⟨a0,a1⟩,⟨rfl,g0,g1⟩,⟨q0,q1⟩⟩
theorem qlq {W:World} (h:laidMetH Tryz.prog Rows.extractPartsRow.laid W):Tab W:=by
 rw [MakeChecks.laidMetH_plain _ _ _ (by kernel_rfl)] at h
 exact Lib.tabIs_of_head (g:=1) (t:=231) (e:=214) (by kernel_rfl) (by kernel_rfl) Tryz.underlying231 (by kernel_rfl) (by kernel_rfl) (by kernel_rfl) (show laidMet Tryz.prog (("internal/strconv.uint64pow10",Lib.tabData .u64 Lib.pow10Tab) :: _) W from laidMet.tail (x:=_) (laidMet.tail (x:=_) h))
set_option maxRecDepth 100000 in
theorem qj0 (hp:∀ x0 x1 x2,((x0.Script.length * 40 ≤ reachBytes ∧ ∀ y6 ∈ x0.Script,(y6.Name.length ≤ reachBytes ∧ (y6.Rules.length * 56 ≤ reachBytes ∧ ∀ y7 ∈ y6.Rules,(y7.Kind.length ≤ reachBytes ∧ (y7.Items.length * 64 ≤ reachBytes ∧ ∀ y8 ∈ y7.Items,(y8.Text.length ≤ reachBytes ∧ (y8.Ranges.length * 2 ≤ reachBytes ∧ ∀ y9 ∈ y8.Ranges,(InR .u8 y9.From ∧ InR .u8 y9.To)) ∧ InR .i64 y8.Least ∧ InR .i64 y8.Most)) ∧ y7.Next.length ≤ reachBytes)))) ∧ (x0.Calls.length * 32 ≤ reachBytes ∧ ∀ y10 ∈ x0.Calls,(y10.Name.length ≤ reachBytes ∧ InR .i64 y10.ID ∧ InR .i64 y10.Source))) → (x1.length * 32 ≤ reachBytes ∧ ∀ y12 ∈ x1,(y12.Name.length ≤ reachBytes ∧ y12.Text.length ≤ reachBytes)) → (InR .u8 x2) → ∃ N,qbH N x0 x1 x2 = some true) (os:Os) (started:os.Started) (H:Type) (enc:TypeId × Value → H) :
  ReturnsInHanded {} Tryz.checked os 4 .any (fun w args=>(Rows.extractPartsSpec.pre enc Tryz.prog Tryz.f4 [] false w args ∧ laidMetH Tryz.prog Rows.extractPartsRow.laid w) ∧ sizedMet enc Tryz.prog Tryz.f4 (OpenSpec.ofChange Rows.extractPartsSpec) false w args)
   (Rows.extractPartsSpec.post enc Tryz.prog Tryz.f4 false true false false):=by
 refine qkt (C:=Tryz.checked) (X:=fun w _=>laidMetH Tryz.prog Rows.extractPartsRow.laid w) (fun _ _ _ hh h=>laidMetH.of_heap hh h) own started (by kernel_rfl) Tryz.func4
  (ChangeSpec.witness_shaped (enc:=enc) (C:=Tryz.checked) (os:=os) (X:=fun w _=>laidMetH Tryz.prog Rows.extractPartsRow.laid w) false (World.laidAll Tryz.prog os Rows.extractPartsRow.laid) #[.agg #[.slice none 0 0,.slice none 0 0],.slice none 0 0,.int .u8 0] 8 (World.laidAll_os _ _ _)
   (World.shaped_of_ZipB (by kernel_rfl) (by kernel_rfl)) (by kernel_rfl) (by kernel_rfl) (by kernel_rfl)
   (by rw [MakeChecks.laidMetH_plain _ _ _ (by kernel_rfl)]; exact laidMet_laidAll _ (by kernel_rfl) (by kernel_rfl))) ?_
 intro W base args ds gs before hval0 hW hsh hX hz
 have hval:∀ (j:Nat) t v,Tryz.f4.params[j]? = some t → args[j]? = some v → Value.okWide Tryz.prog W .any base t v:=hval0
 have hW':=hW
 obtain ⟨p,q,hA0,hV,rfl,_,_⟩:=hW
 have hA:DataW.TrodAll enc Tryz.prog W 0 (fun _=>true) true Tryz.f4.params.toList args.toList ds p:=hA0
 rw [Tryz.params4] at hA hval
 obtain ⟨v0,v1,v2,d0,d1,d2,p0,p1,p2,rfl,rfl,rfl,k0,k1,k2⟩:=trodAll_three hA
 obtain ⟨rfl,rfl⟩:=trodVars_none hV
 obtain ⟨fu0,hf0⟩:=id k0
 have hz0:∀ n ∈ d0.weights Tryz.prog 41,n ≤ reachBytes:=fun n hn=>by
  have:=List.all_eq_true.1 hz n (DataW.weights_mem_each (j:=0) (t:=41) (d:=d0) (by rw [Tryz.params4]; rfl) rfl n hn)
  simpa using this
 obtain ⟨s0,rfl,_⟩:=okWide_struct Tryz.underlying41 (hval 0 41 v0 rfl rfl)
 obtain ⟨a0,r0,q0⟩:=o_41 hf0 hz0
 obtain ⟨fu1,hf1⟩:=id k1
 have hz1:∀ n ∈ d1.weights Tryz.prog 42,n ≤ reachBytes:=fun n hn=>by
  have:=List.all_eq_true.1 hz n (DataW.weights_mem_each (j:=1) (t:=42) (d:=d1) (by rw [Tryz.params4]; rfl) rfl n hn)
  simpa using this
 obtain ⟨s1,u1,w1,rfl⟩:=okWide_slice Tryz.underlying42 (hval 1 42 v1 rfl rfl)
 obtain ⟨a1,r1,q1⟩:=(qhi 32 (of_decide_eq_true (by kernel_rfl)) (Nat.succ_pos _) Tryz.underlying42 ce62 (Nat.succ_pos _) o_62) hf1 hz1
 obtain ⟨fu2,hf2⟩:=id k2
 have hz2:∀ n ∈ d2.weights Tryz.prog 5,n ≤ reachBytes:=fun n hn=>by
  have:=List.all_eq_true.1 hz n (DataW.weights_mem_each (j:=2) (t:=5) (d:=d2) (by rw [Tryz.params4]; rfl) rfl n hn)
  simpa using this
 obtain ⟨s2,rfl⟩:=okWide_int Tryz.underlying5 (hval 2 5 v2 rfl rfl)
 obtain ⟨a2,r2,q2⟩:=(qjq Tryz.underlying5) hf2 hz2
 obtain ⟨e2,l2⟩:=qg3 (show pI .u8 (hm W) [.int .u8 s2] a2 from r2)
 clear hA0 hval0
 have hlt:∀ x ∈ p0 ++ p1 ++ p2,x.block < W.heap.size:=fun x hx=>by
  refine hW'.lt x ?_
  simpa using hx
 have hlt0:∀ x ∈ p0,x.block < W.heap.size:=fun x hx=>hlt x (by simp [hx])
 have hlt1:∀ x ∈ p1,x.block < W.heap.size:=fun x hx=>hlt x (by simp [hx])
 have hlt2:∀ x ∈ p2,x.block < W.heap.size:=fun x hx=>hlt x (by simp [hx])
 obtain ⟨N,hN⟩:=hp a0 a1 a2 q0 q1 q2
 have hw:=qhQ N s0.toList a0 r0 _ a1 r1 a2 l2 hN (qsH hsh) (qlq hX) (Ok.start W)
 rw [← e2] at hw
 refine hw.mono fun e W' ⟨he,ok⟩=>?_
 subst he
 have hn:=ok.below
 have t0:=Below.trod qmc (by kernel_rfl) (of_decide_eq_true (by kernel_rfl)) k0 hn hlt0
 have t1:=Below.trod qmc (by kernel_rfl) (of_decide_eq_true (by kernel_rfl)) k1 hn hlt1
 have t2:=Below.trod qmc (by kernel_rfl) (of_decide_eq_true (by kernel_rfl)) k2 hn hlt2
 refine ⟨_,rfl,_,_,_,[],p0 ++ (p1 ++ p2),[],hW',?_,?_,rfl,hn.frame _,fun h=>by cases h⟩
 ·exact trodAll_mk1 (qqu true)
 ·exact trodAll_mk3 t0 t1 t2
theorem qke (hp:∀ x0 x1 x2,((x0.Script.length * 40 ≤ reachBytes ∧ ∀ y6 ∈ x0.Script,(y6.Name.length ≤ reachBytes ∧ (y6.Rules.length * 56 ≤ reachBytes ∧ ∀ y7 ∈ y6.Rules,(y7.Kind.length ≤ reachBytes ∧ (y7.Items.length * 64 ≤ reachBytes ∧ ∀ y8 ∈ y7.Items,(y8.Text.length ≤ reachBytes ∧ (y8.Ranges.length * 2 ≤ reachBytes ∧ ∀ y9 ∈ y8.Ranges,(InR .u8 y9.From ∧ InR .u8 y9.To)) ∧ InR .i64 y8.Least ∧ InR .i64 y8.Most)) ∧ y7.Next.length ≤ reachBytes)))) ∧ (x0.Calls.length * 32 ≤ reachBytes ∧ ∀ y10 ∈ x0.Calls,(y10.Name.length ≤ reachBytes ∧ InR .i64 y10.ID ∧ InR .i64 y10.Source))) → (x1.length * 32 ≤ reachBytes ∧ ∀ y12 ∈ x1,(y12.Name.length ≤ reachBytes ∧ y12.Text.length ≤ reachBytes)) → (InR .u8 x2) → ∃ N,qbH N x0 x1 x2 = some true):Rows.ExtractPartsSaid :=
 OpenClaim.holds_of_wide 4 Tryz.f4 rfl rfl rfl rfl rfl rfl rfl ⟨rfl,rfl,rfl,rfl,rfl⟩ rfl rfl rfl rfl rfl (by kernel_rfl) Tryz.func4 (by kernel_rfl)
  (of_decide_eq_true (by kernel_rfl)) (by unfold Func.isWrapper; rw [if_neg (of_decide_eq_false (by kernel_rfl))]; exact ⟨rfl,rfl⟩)
  (fun os started H enc _=>qj0 hp os started H enc)
set_option maxRecDepth 100000 in
theorem qkX (hp:∀ x0 x1 x2,((x0.Script.length * 40 ≤ reachBytes ∧ ∀ y6 ∈ x0.Script,(y6.Name.length ≤ reachBytes ∧ (y6.Rules.length * 56 ≤ reachBytes ∧ ∀ y7 ∈ y6.Rules,(y7.Kind.length ≤ reachBytes ∧ (y7.Items.length * 64 ≤ reachBytes ∧ ∀ y8 ∈ y7.Items,(y8.Text.length ≤ reachBytes ∧ (y8.Ranges.length * 2 ≤ reachBytes ∧ ∀ y9 ∈ y8.Ranges,(InR .u8 y9.From ∧ InR .u8 y9.To)) ∧ InR .i64 y8.Least ∧ InR .i64 y8.Most)) ∧ y7.Next.length ≤ reachBytes)))) ∧ (x0.Calls.length * 32 ≤ reachBytes ∧ ∀ y10 ∈ x0.Calls,(y10.Name.length ≤ reachBytes ∧ InR .i64 y10.ID ∧ InR .i64 y10.Source))) → (x1.length * 32 ≤ reachBytes ∧ ∀ y12 ∈ x1,(y12.Name.length ≤ reachBytes ∧ y12.Text.length ≤ reachBytes)) → (InR .u8 x2) → ∃ N,qbH N x0 x1 x2 = some true):Rows.ExtractPartsCardSaid :=
 Claim7.holds_tied_plain_at .later [] [.data,.data,.data,.data,.pinned] true (true, "e41d8787e74db97e4c01b0006a6740286e1baea1c5dbefd0607aae296ef58d28") false (qke hp) (fun _ h=>by cases h) (by kernel_rfl) (fun _ h=>by cases h) extractParts_row_tie rfl ⟨rfl,rfl⟩ (by kernel_rfl) rfl
  (fun f fn hf hfn=>by
   obtain rfl:f = 4:=Option.some.inj ((show Tryz.prog.funcNamed "calque/calquelaw45.ExtractParts" = some 4 by kernel_rfl).symm.trans hf) |>.symm
   obtain rfl:fn = Tryz.f4:=(Option.some.inj (Tryz.func4.symm.trans hfn)).symm
   exact ⟨by kernel_rfl,fun j t ht=>by
    rw [Tryz.params4] at ht
    have hm:t ∈ [41,42,5]:=by simpa using Array.mem_of_getElem? ht
    have hall:([41,42,5].all fun u=>!Tryz.prog.wantsStandIn u) = true:=by kernel_rfl
    exact (show Tryz.prog.wantsStandIn t = false by simpa using List.all_eq_true.1 hall t hm)⟩)
  (by kernel_rfl)
end Go.Proofs.YtllfckekodcdaaaGreatDoor
namespace Go.X
theorem qgC {a b:List UInt8} (h:a.length + b.length ≤ 1000000):cat a b = some (a ++ b):=by
 unfold cat; rw [if_pos (by unfold LIMS; omega)]
end Go.X
namespace Go.X
def run {σ α β:Type} (f:σ → α → σ ⊕ β) (fin:σ → β):σ → List α → β
 | s,[]=>fin s
 | s,x :: xs=>match f s x with
  | .inl s'=>run f fin s' xs
  | .inr b=>b
theorem qqt {σ τ α β:Type} {body:τ → Option (τ ⊕ β)} (mkS:σ → Int → τ) (xs:List α) (f:σ → α → σ ⊕ β) (fin:σ → β) (I:Nat → σ → Prop)
  (h1:∀ s (k:Nat) x,xs[k]? = some x → I k s → body (mkS s k) = some (match f s x with | .inl s'=>.inl (mkS s' ((k:Int) + 1)) | .inr b=>.inr b) ∧ ∀ s',f s x = .inl s' → I (k + 1) s')
  (h2:∀ s,I xs.length s → body (mkS s xs.length) = some (.inr (fin s))) :
  ∀ N s,xs.length < N → I 0 s → iter body N (mkS s 0) = some (run f fin s xs):=by
 have key:∀ j k N s,k + j = xs.length → j < N → I k s → iter body N (mkS s (k:Int)) = some (run f fin s (xs.drop k)):=by
  intro j
  induction j with
  | zero =>
   intro k N s hk hN hI
   obtain ⟨N,rfl⟩:∃ M,N = M + 1:=⟨N - 1,by omega⟩
   have e:xs.drop k = []:=List.drop_eq_nil_of_le (by omega)
   obtain rfl:k = xs.length:=by omega
   rw [iter,h2 s hI,e]; rfl
  | succ j ih =>
   intro k N s hk hN hI
   obtain ⟨N,rfl⟩:∃ M,N = M + 1:=⟨N - 1,by omega⟩
   have hlt:k < xs.length:=by omega
   have e:xs.drop k = xs[k] :: xs.drop (k + 1):=List.drop_eq_getElem_cons hlt
   obtain ⟨h3,h4⟩:=h1 s k _ (List.getElem?_eq_getElem hlt) hI
   rw [iter,h3,e]
   simp only [run]
   cases hf:f s xs[k] with
   | inl s' =>
    simp only
    rw [show ((k:Int) + 1) = ((k + 1:Nat):Int) by omega]
    exact ih (k + 1) N s' (by omega) (by omega) (h4 s' hf)
   | inr b=>rfl
 intro N s hN hI
 have:=key xs.length 0 N s (by omega) hN hI
 simpa using this
theorem qpa {σ τ α β:Type} {body:τ → Option (τ ⊕ β)} (mkS:σ → Int → τ) (xs:List α) (f:σ → α → σ ⊕ β) (fin:σ → β)
  (h1:∀ s (k:Nat) x,xs[k]? = some x → body (mkS s k) = some (match f s x with | .inl s'=>.inl (mkS s' ((k:Int) + 1)) | .inr b=>.inr b))
  (h2:∀ s,body (mkS s xs.length) = some (.inr (fin s))) (N:Nat) (s:σ) (hN:xs.length < N):iter body N (mkS s 0) = some (run f fin s xs) :=
 qqt mkS xs f fin (fun _ _=>True) (fun s k x hx _=>⟨h1 s k x hx,fun _ _=>trivial⟩) (fun s _=>h2 s) N s hN trivial
theorem qpR {α:Type} {body:Int → Option (Int ⊕ (Unit ⊕ Int))} (xs:List α) (p:α → Bool)
  (h1:∀ (k:Nat) x,xs[k]? = some x → body k = some (if p x then .inr (.inr k) else .inl ((k:Int) + 1))) (h2:body xs.length = some (.inr (.inl ()))) (N:Nat) (hN:xs.length < N) :
  iter body N 0 = some (match xs.findIdx? p with | some k=>.inr (k:Int) | none=>.inl ()):=by
 have key:∀ j k N,k + j = xs.length → j < N → iter body N (k:Int) = some (match (xs.drop k).findIdx? p with | some i=>.inr ((k + i:Nat):Int) | none=>.inl ()):=by
  intro j
  induction j with
  | zero =>
   intro k N hk hN
   obtain ⟨N,rfl⟩:∃ M,N = M + 1:=⟨N - 1,by omega⟩
   have e:xs.drop k = []:=List.drop_eq_nil_of_le (by omega)
   obtain rfl:k = xs.length:=by omega
   rw [iter,h2,e]; rfl
  | succ j ih =>
   intro k N hk hN
   obtain ⟨N,rfl⟩:∃ M,N = M + 1:=⟨N - 1,by omega⟩
   have hlt:k < xs.length:=by omega
   have e:xs.drop k = xs[k] :: xs.drop (k + 1):=List.drop_eq_getElem_cons hlt
   rw [iter,h1 k _ (List.getElem?_eq_getElem hlt),e,List.findIdx?_cons]
   cases hp:p xs[k] with
   | true=>simp
   | false =>
    simp only [Bool.false_eq_true,if_false]
    rw [show ((k:Int) + 1) = ((k + 1:Nat):Int) by omega,ih (k + 1) N (by omega) (by omega)]
    cases (xs.drop (k + 1)).findIdx? p with
    | none=>rfl
    | some i=>simp only [Option.map_some]; congr 3; omega
 have:=key xs.length 0 N (by omega) hN
 simpa using this
theorem qq2 {α:Type} (xs:List α) (p:α → Bool):((some (match xs.findIdx? p with | some k=>Sum.inr (k:Int) | none=>Sum.inl ()):Option (Unit ⊕ Int)).bind fun o=>Sum.elim (fun _=>some (-1)) (fun o=>some o) o) = some (match xs.findIdx? p with | some k=>(k:Int) | none=>-1):=by
 cases xs.findIdx? p <;> rfl
theorem qmh {α:Type} (xs:List α) (p:α → Bool):decide ((match xs.findIdx? p with | some k=>(k:Int) | none=>-1) ≥ 0) = xs.any p:=by
 cases h:xs.findIdx? p with
 | none =>
  have:xs.any p = false:=by
   rw [List.any_eq_false]; intro x hx
   have:=List.findIdx?_eq_none_iff.1 h x hx
   simp [this]
  rw [this]; rfl
 | some k =>
  have:xs.any p = true:=by
   obtain ⟨x,hx,hp⟩:=List.findIdx?_eq_some_iff_getElem.1 h
   exact List.any_eq_true.2 ⟨_,List.getElem_mem x,by first | exact hx | exact hp.1 | exact hp⟩
  rw [this]
  simp
theorem qo1 {α:Type} (p:α → Bool):∀ xs:List α,run (σ:=Unit) (β:=Unit ⊕ Bool) (fun _ x=>if p x then .inl () else .inr (.inr false)) (fun _=>.inl ()) () xs = if xs.all p then .inl () else .inr false
 | []=>rfl
 | x :: xs=>by
  unfold run
  cases h:p x with
  | true=>simp only [if_true,qo1 p xs,List.all_cons,h,Bool.true_and]
  | false=>simp [h]
theorem qmD {α:Type} {body:Int → Option (Int ⊕ (Unit ⊕ Bool))} (p:α → Bool) (xs:List α) (h1:∀ (k:Nat) x,xs[k]? = some x → body k = some (if p x then .inl ((k:Int) + 1) else .inr (.inr false))) (h2:body xs.length = some (.inr (.inl ()))) (N:Nat) (hN:xs.length < N) :
  iter body N 0 = some (if xs.all p then .inl () else .inr false):=by
 rw [← qo1 p xs]
 refine qpa (σ:=Unit) (fun _ k=>k) xs _ _ (fun _ k x hx=>?_) (fun _=>h2) N () hN
 rw [h1 k x hx]
 cases p x <;> rfl
theorem qjC {α:Type} {xs:List α} {k:Nat} {x:α} (h:xs[k]? = some x):k < xs.length:=(List.getElem?_eq_some_iff.1 h).1
end Go.X
namespace Go.Proofs.YtllfckekodcdaaaGreatDoor
open Go.X
theorem qnE {σ β:Type} {body:σ → Option (σ ⊕ β)} (I:Nat → σ → Prop) (n:Nat) (Q:β → Prop) (hs:∀ i s,i < n → I i s → ∃ s',body s = some (.inl s') ∧ I (i + 1) s') (hd:∀ s,I n s → ∃ b,body s = some (.inr b) ∧ Q b) :
  ∀ N s,n < N → I 0 s → ∃ b,iter body N s = some b ∧ Q b:=by
 have key:∀ j k N s,k + j = n → j < N → I k s → ∃ b,iter body N s = some b ∧ Q b:=by
  intro j
  induction j with
  | zero =>
   intro k N s hk hN hI
   obtain ⟨N,rfl⟩:∃ M,N = M + 1:=⟨N - 1,by omega⟩
   have:k = n:=by omega
   subst this
   obtain ⟨b,h1,h2⟩:=hd s hI
   exact ⟨b,by simp only [iter,h1],h2⟩
  | succ j ih =>
   intro k N s hk hN hI
   obtain ⟨N,rfl⟩:∃ M,N = M + 1:=⟨N - 1,by omega⟩
   obtain ⟨s',h1,h2⟩:=hs k s (by omega) hI
   simp only [iter,h1]
   exact ih (k + 1) N s' (by omega) (by omega) h2
 exact fun N s hN hI=>key n 0 N s (by omega) hN hI
theorem qjb {σ β:Type} {body:σ → Option (σ ⊕ β)} (f:Nat → σ) (n:Nat) (b:β) {s0:σ} (h0:f 0 = s0) (hs:∀ i,i < n → body (f i) = some (.inl (f (i + 1)))) (hd:body (f n) = some (.inr b)) (N:Nat) (hN:n < N):iter body N s0 = some b:=by
 subst h0
 obtain ⟨b',h1,rfl⟩:=qnE (fun i s=>s = f i) n (fun b'=>b' = b) (fun i s hi h=>by subst h; exact ⟨_,hs i hi,rfl⟩) (fun s h=>by subst h; exact ⟨_,hd,rfl⟩) N (f 0) hN rfl
 exact h1
theorem qd6 {σ β γ:Type} {body:σ → Option (σ ⊕ β)} {g:β → Option γ} (f:Nat → σ) (n:Nat) (b:β) {s0:σ} (h0:f 0 = s0) {N:Nat} (hN:n < N) (hs:∀ i,i < n → body (f i) = some (.inl (f (i + 1)))) (hd:body (f n) = some (.inr b)):(iter body N s0).bind g = g b:=by
 rw [qjb f n b h0 hs hd N hN]; rfl
theorem ix {α:Type} (l:List α) (k:Nat):idx l (k:Int) = l[k]?:=by unfold idx; rw [if_pos (by omega)]; simp
theorem ixg {α:Type} {l:List α} {k:Nat} {x:α} (h:l[k]? = some x):idx l (k:Int) = some x:=by rw [ix,h]
theorem qcu {α:Type} {l:List α} {k:Nat} (h:k < l.length):∃ x,l[k]? = some x:=⟨_,List.getElem?_eq_getElem h⟩
theorem dk {k n:Nat} (h:k < n):decide ((k:Int) < (n:Int)) = true:=decide_eq_true (by omega)
theorem dn (n:Nat):decide ((n:Int) < (n:Int)) = false:=decide_eq_false (by omega)
theorem qfL {α:Type} {l:List α} {k:Nat} {x:α} (h:l[k]? = some x):l.take k ++ [x] = l.take (k + 1):=by rw [List.take_add_one,h]; rfl
theorem app1 {α:Type} {xs ys:List α} (h:xs.length + ys.length ≤ 4294967296):app xs ys = some (xs ++ ys):=by unfold app; rw [if_pos (by unfold LIM; exact h)]
theorem qne {α:Type} {B:Nat} {xs ys:List α} (h:(xs.length + ys.length) * B ≤ 140737488355328) (hB:0 < B):appw B xs ys = some (xs ++ ys):=by
 unfold appw
 refine if_pos ⟨h,Nat.le_trans (Nat.le_mul_of_pos_right _ hB) h⟩
def ItOk (x:Item):Prop:=x.Text.length ≤ reachBytes ∧ (x.Ranges.length * 2 ≤ reachBytes ∧ ∀ y ∈ x.Ranges,InR .u8 y.From ∧ InR .u8 y.To) ∧ InR .i64 x.Least ∧ InR .i64 x.Most
def RlOk (r:Rule):Prop:=r.Kind.length ≤ reachBytes ∧ (r.Items.length * 64 ≤ reachBytes ∧ ∀ y ∈ r.Items,ItOk y) ∧ r.Next.length ≤ reachBytes
def StOk (x:State):Prop:=x.Name.length ≤ reachBytes ∧ (x.Rules.length * 56 ≤ reachBytes ∧ ∀ y ∈ x.Rules,RlOk y)
def ScOk (s:List State):Prop:=s.length * 40 ≤ reachBytes ∧ ∀ y ∈ s,StOk y
def szI (x:Item):Nat:=x.Text.length + x.Ranges.length
def szL (l:List Item):Nat:=l.length + (l.map szI).sum
def szR (r:Rule):Nat:=r.Kind.length + r.Next.length + szL r.Items
def szS (x:State):Nat:=x.Name.length + (x.Rules.length + (x.Rules.map szR).sum)
def sz (s:List State):Nat:=s.length + (s.map szS).sum
theorem qkJ {α:Type} {f:α → Nat}:∀ {l:List α} {x:α},x ∈ l → f x ≤ (l.map f).sum
 | y :: l,x,h=>by
  simp only [List.map_cons,List.sum_cons]
  rcases List.mem_cons.1 h with rfl | h
  ·omega
  ·have:=qkJ (f:=f) h; omega
def SzL (N:Nat) (l:List Item):Prop:=l.length < N ∧ ∀ x ∈ l,x.Text.length < N ∧ x.Ranges.length < N
def SzR (N:Nat) (r:Rule):Prop:=r.Kind.length < N ∧ r.Next.length < N ∧ SzL N r.Items
def SzS (N:Nat) (x:State):Prop:=x.Name.length < N ∧ x.Rules.length < N ∧ ∀ r ∈ x.Rules,SzR N r
def Sz (N:Nat) (s:List State):Prop:=s.length < N ∧ ∀ x ∈ s,SzS N x
theorem SzL.of {N:Nat} {l:List Item} (h:szL l < N):SzL N l:=by
 unfold szL at h
 refine ⟨by omega,fun x hx=>?_⟩
 have:x.Text.length + x.Ranges.length ≤ (l.map szI).sum:=qkJ (f:=szI) hx
 omega
theorem SzR.of {N:Nat} {r:Rule} (h:szR r < N):SzR N r:=by
 unfold szR at h
 exact ⟨by omega,by omega,SzL.of (by omega)⟩
theorem SzS.of {N:Nat} {x:State} (h:szS x < N):SzS N x:=by
 unfold szS at h
 refine ⟨by omega,by omega,fun r hr=>SzR.of ?_⟩
 have:=qkJ (f:=szR) hr
 omega
theorem Sz.of {N:Nat} {s:List State} (h:sz s < N):Sz N s:=by
 unfold sz at h
 refine ⟨by omega,fun x hx=>SzS.of ?_⟩
 have:=qkJ (f:=szS) hx
 omega
theorem qjD {n B:Nat} (h:n * B ≤ reachBytes):n * B ≤ 140737488355328:=by unfold reachBytes at h; omega
theorem qoj {N:Nat} {l:List Item} {i:Nat} {x:Item} (hi:l[i]? = some x) (hB:x.Ranges.length * 2 ≤ reachBytes) (hN:x.Ranges.length < N) :
  iter (fun s=>qcw N l i s.1 s.2) N ((0:Int),(Item.mk x.Text ([]) x.Not x.Least x.Most)) = some x:=by
 refine qjb (fun k:Nat=>((k:Int),Item.mk x.Text (x.Ranges.take k) x.Not x.Least x.Most)) x.Ranges.length x rfl (fun k hk=>?_) ?_ N hN
 ·obtain ⟨g,hg⟩:=qcu hk
  simp only [qcw,ixg hi,Option.bind_some,dk hk,cond_true,ixg hg]
  rw [qne (by
   simp only [List.length_take,List.length_cons,List.length_nil]
   have:=qjD hB
   have:(min k x.Ranges.length + (0 + 1)) * 2 ≤ x.Ranges.length * 2:=Nat.mul_le_mul_right _ (by omega)
   omega) (by decide)]
  simp only [Option.bind_some,qfL hg]
  rfl
 ·simp only [qcw,ixg hi,Option.bind_some,dn,cond_false,List.take_length]
theorem qrm {N:Nat} {l:List Item} (h:l.length * 64 ≤ reachBytes ∧ ∀ x ∈ l,ItOk x) (hs:SzL N l):qdV N l = some l:=by
 unfold qdV
 refine (qd6 (fun k:Nat=>(l.take k,(k:Int))) l.length l rfl hs.1 (fun k hk=>?_) ?_).trans rfl
 ·obtain ⟨x,hx⟩:=qcu hk
  have hm:=List.mem_of_getElem? hx
  simp only [qc9,dk hk,cond_true,ixg hx,Option.bind_some]
  rw [qoj hx (h.2 x hm).2.1.1 (hs.2 x hm).2]
  simp only [Option.bind_some]
  rw [qne (by
   simp only [List.length_take,List.length_cons,List.length_nil]
   have:=qjD h.1
   have:(min k l.length + (0 + 1)) * 64 ≤ l.length * 64:=Nat.mul_le_mul_right _ (by omega)
   omega) (by decide)]
  simp only [Option.bind_some,qfL hx]
  rfl
 ·simp only [qc9,dn,cond_false,List.take_length]
theorem qtj {N:Nat} {s:List State} (h:ScOk s) (hs:Sz N s):qdC N s = some s:=by
 unfold qdC
 refine (qd6 (fun k:Nat=>(s.take k,(k:Int))) s.length s rfl hs.1 (fun k hk=>?_) ?_).trans rfl
 ·obtain ⟨x,hx⟩:=qcu hk
  have hm:=List.mem_of_getElem? hx
  obtain ⟨hn,hr,hrl⟩:=h.2 x hm
  obtain ⟨_,gr,grl⟩:=hs.2 x hm
  simp only [qdy,dk hk,cond_true,ixg hx,Option.bind_some]
  refine (qd6 (fun j:Nat=>((j:Int),State.mk x.Name (x.Rules.take j))) x.Rules.length x rfl gr (fun j hj=>?_) ?_).trans ?_
  rotate_left 2
  ·rw [qne (by
    simp only [List.length_take,List.length_cons,List.length_nil]
    have:=qjD h.1
    have:(min k s.length + (0 + 1)) * 40 ≤ s.length * 40:=Nat.mul_le_mul_right _ (by omega)
    omega) (by decide)]
   simp only [Option.bind_some,qfL hx]
   rfl
  ·obtain ⟨r,hr'⟩:=qcu hj
   have hrm:=List.mem_of_getElem? hr'
   simp only [qdB,dk hj,cond_true,ixg hx,ixg hr',Option.bind_some]
   rw [qrm (hrl r hrm).2.1 (grl r hrm).2.2]
   simp only [Option.bind_some]
   rw [qne (by
    simp only [List.length_take,List.length_cons,List.length_nil]
    have:=qjD hr
    have:(min j x.Rules.length + (0 + 1)) * 56 ≤ x.Rules.length * 56:=Nat.mul_le_mul_right _ (by omega)
    omega) (by decide)]
   simp only [Option.bind_some,qfL hr']
   rfl
  ·simp only [qdB,ixg hx,Option.bind_some,dn,cond_false,List.take_length]
 ·simp only [qdy,dn,cond_false,List.take_length]
theorem ql5 {α:Type} {body:α × Int → Option ((α × Int) ⊕ α)} (n:Nat) (hs:∀ a (i:Nat),i < n → ∃ a',body (a,i) = some (.inl (a',(i:Int) + 1))) (hd:∀ a,∃ b,body (a,n) = some (.inr b)) {N:Nat} (hN:n < N) (a:α):∃ b,iter body N (a,0) = some b:=by
 obtain ⟨b,h,_⟩:=qnE (fun i s=>s.2 = (i:Int)) n (fun _=>True) (fun i s hi h=>by
  obtain ⟨a,c⟩:=s
  simp only at h
  subst h
  obtain ⟨a',h⟩:=hs a i hi
  exact ⟨_,h,rfl⟩) (fun s h=>by
  obtain ⟨a,c⟩:=s
  simp only at h
  subst h
  obtain ⟨b,h⟩:=hd a
  exact ⟨_,h,trivial⟩) N (a,0) hN rfl
 exact ⟨b,h⟩
theorem qqI {N:Nat} {s:List State} (hs:Sz N s):∃ b,qeC N s = some b:=by
 have h3:∀ (r:Rule),SzR N r → ∀ a:Int,∃ b,iter (fun s':Int × Int=>qcV N r s'.1 s'.2) N (a,0) = some b:=fun r hr a=>by
  refine ql5 r.Items.length (fun a m hm=>?_) (fun a=>?_) hr.2.2.1 a
  ·obtain ⟨y,hy⟩:=qcu hm
   simp only [qcV,dk hm,cond_true,ixg hy,Option.bind_some]
   exact ⟨_,rfl⟩
  ·simp only [qcV,dn,cond_false]
   exact ⟨_,rfl⟩
 have h2:∀ (i:Nat) (x:State),s[i]? = some x → ∀ a:Int,∃ b,iter (fun s':Int × Int=>qcW N s i s'.1 s'.2) N (a,0) = some b:=fun i x hx a=>by
  obtain ⟨_,gr,grl⟩:=hs.2 x (List.mem_of_getElem? hx)
  refine ql5 x.Rules.length (fun a j hj=>?_) (fun a=>?_) gr a
  ·obtain ⟨r,hr⟩:=qcu hj
   simp only [qcW,ixg hx,Option.bind_some,dk hj,cond_true,ixg hr]
   obtain ⟨b,hb⟩:=h3 r (grl r (List.mem_of_getElem? hr)) (IntKind.wrap .i64 (a + (IntKind.wrap .i64 ((IntKind.wrap .i64 ((1:Int) + (IntKind.wrap .i64 ((r.Kind.length:Int).tdiv 20)))) + (IntKind.wrap .i64 ((r.Next.length:Int).tdiv 20))))))
   exact ⟨b,by rw [hb]; rfl⟩
  ·simp only [qcW,ixg hx,Option.bind_some,dn,cond_false]
   exact ⟨_,rfl⟩
 obtain ⟨b,hb⟩:=ql5 (body:=fun s':Int × Int=>qcX N s s'.1 s'.2) s.length (fun a i hi=>by
  obtain ⟨x,hx⟩:=qcu hi
  obtain ⟨b,hb⟩:=h2 i x hx a
  simp only [qcX,dk hi,cond_true,hb,Option.bind_some,ixg hx]
  exact ⟨_,rfl⟩) (fun a=>by
  simp only [qcX,dn,cond_false]
  exact ⟨_,rfl⟩) hs.1 0
 unfold qeC
 exact ⟨_,by rw [hb]; rfl⟩
abbrev Str:=List UInt8
def hexd (n:Nat):UInt8:=UInt8.ofNat (if n < 10 then 48 + n else 87 + n)
def esc (br:Bool) (c:Nat):Str :=
 if c = 92 ∨ (br = false ∧ c = 34) ∨ (br = true ∧ (c = 91 ∨ c = 93 ∨ c = 94 ∨ c = 45)) then [92,UInt8.ofNat c]
 else if c < 32 ∨ 126 < c ∨ (br = true ∧ c = 32) then [92,120,hexd (c / 16),hexd (c % 16)]
 else [UInt8.ofNat c]
def okQ (N:Nat) (c:Nat):Bool:=qgw N (c:Int) == some (esc false c) && (qd4 N (c:Int) == some (esc true c) && (qdf N (c:Int) false == some (esc false c) && qdf N (c:Int) true == some (esc true c)))
set_option maxRecDepth 100000 in
theorem qrQ (N:Nat):((List.range 256).all fun c=>okQ N c) = true:=by kernel_rfl
theorem qpW {N c:Nat} (h:c < 256):okQ N c = true:=List.all_eq_true.1 (qrQ N) c (List.mem_range.2 h)
theorem qqC {N c:Nat} (h:c < 256):qgw N (c:Int) = some (esc false c):=by
 have:=qpW (N:=N) h
 unfold okQ at this
 simp only [Bool.and_eq_true,beq_iff_eq] at this
 exact this.1
theorem qkq {N c:Nat} (h:c < 256):qd4 N (c:Int) = some (esc true c):=by
 have:=qpW (N:=N) h
 unfold okQ at this
 simp only [Bool.and_eq_true,beq_iff_eq] at this
 exact this.2.1
theorem qhr (br:Bool) (c:Nat):(esc br c).length ≤ 4:=by
 unfold esc
 split
 ·simp
 ·split <;> simp
def qlS (x:Item):Str :=
 if x.Least = 1 ∧ x.Most = 1 then [] else if x.Least = 0 ∧ x.Most = 1 then [63] else if x.Least = 0 ∧ x.Most = -1 then [42] else if x.Least = 1 ∧ x.Most = -1 then [43] else []
def qjh (x:Item):Prop:=(x.Least = 1 ∨ x.Least = 0) ∧ (x.Most = 1 ∨ x.Most = -1)
instance (x:Item):Decidable (qjh x):=by unfold qjh; infer_instance
def qfq (g:Range):Str:=esc true g.From.toNat ++ if g.To = g.From then [] else 45 :: esc true g.To.toNat
def qlI (x:Item):Str :=
 if x.Text = [] then [91] ++ (if x.Not then [94] else []) ++ x.Ranges.flatMap qfq ++ [93] else [34] ++ x.Text.flatMap (fun c=>esc false c.toNat) ++ [34]
def qgz (x:Item):Str:=qlI x ++ qlS x
def qh5 (r:Rule):Str:=r.Kind ++ r.Items.flatMap (fun x=>32 :: qgz x) ++ if r.Next = [] then [] else [32,45,62,32] ++ r.Next
def qg1 (x:State):Str:=([115,116,97,116,101,32] ++ x.Name ++ [10]) ++ x.Rules.flatMap (fun r=>qh5 r ++ [10])
def qpC (s:List State):Str:=s.flatMap qg1
def word (w:Str):Bool:=w.all (fun c=>decide (97 ≤ c.toNat ∧ c.toNat ≤ 122)) && (decide (1 ≤ w.length) && decide (w.length ≤ 16))
def ItP (x:Item):Prop:=qjh x ∧ if x.Text = [] then (1 ≤ x.Ranges.length ∧ x.Ranges.length ≤ 20) ∧ ∀ g ∈ x.Ranges,g.From ≤ g.To else x.Text.length ≤ 40 ∧ x.Ranges = [] ∧ x.Not = false
def InB (x:Item):Prop:=∀ g ∈ x.Ranges,InR .u8 g.From ∧ InR .u8 g.To
def RlP (r:Rule):Prop:=word r.Kind = true ∧ (1 ≤ r.Items.length ∧ r.Items.length ≤ 20) ∧ ∀ x ∈ r.Items,ItP x
theorem inr8 {x:Int} (h:InR .u8 x):∃ n:Nat,x = (n:Int) ∧ n < 256 ∧ x.toNat = n:=by
 have:=qi6.1 h
 exact ⟨x.toNat,by omega,by omega,rfl⟩
theorem u8lt (c:UInt8):c.toNat < 256:=c.toNat_lt
theorem qh9 {α:Type} (f:α → Str) (B:Nat):∀ l:List α,(∀ x ∈ l,(f x).length ≤ B) → (l.flatMap f).length ≤ l.length * B
 | [],_=>by simp
 | x :: l,h=>by
  simp only [List.flatMap_cons,List.length_append,List.length_cons,Nat.add_mul]
  have h1:=h x (by simp)
  have h2:=qh9 f B l (fun y hy=>h y (by simp [hy]))
  omega
theorem qlL (g:Range):(qfq g).length ≤ 9:=by
 unfold qfq
 have:=qhr true g.From.toNat
 have:=qhr true g.To.toNat
 split <;> simp <;> omega
theorem qmL (x:Item):(qlS x).length ≤ 1:=by
 unfold qlS
 repeat' split
 all_goals decide
theorem qqw {x:Item} (h:ItP x):(qlI x).length ≤ 200:=by
 unfold qlI
 obtain ⟨_,h⟩:=h
 split
 ·rename_i h0
  rw [if_pos h0] at h
  have:=qh9 qfq 9 x.Ranges (fun g _=>qlL g)
  cases x.Not <;> simp [-List.length_flatMap] <;> omega
 ·rename_i h0
  rw [if_neg h0] at h
  have:=qh9 (fun c:UInt8=>esc false c.toNat) 4 x.Text (fun c _=>qhr _ _)
  simp [-List.length_flatMap]; omega
theorem qmJ {x:Item} (h:ItP x):(qgz x).length ≤ 201:=by
 have:=qqw h
 have:=qmL x
 unfold qgz
 simp; omega
theorem qiq {w:Str} (h:word w = true):1 ≤ w.length ∧ w.length ≤ 16:=by
 unfold word at h
 simp only [Bool.and_eq_true,decide_eq_true_eq] at h
 exact h.2
theorem qqb {r:Rule} (h:RlP r):(r.Items.flatMap (fun x=>32 :: qgz x)).length ≤ 4040:=by
 have:=qh9 (fun x=>32 :: qgz x) 202 r.Items (fun x hx=>by have:=qmJ (h.2.2 x hx); simp; omega)
 have:=h.2.1
 omega
theorem qj8 {r:Rule} (h:RlP r) (hn:r.Next.length ≤ 16):(qh5 r).length ≤ 4080:=by
 have:=qqb h
 have:=qiq h.1
 unfold qh5
 split <;> simp [-List.length_flatMap] <;> omega
def bld (l:Str):Builder:=⟨(),ints l⟩
theorem qn6 (a b:Str):ints a ++ ints b = ints (a ++ b):=by simp [ints]
theorem qiL (l:Str):bytesOf (ints l) = l:=qm1 l
theorem wstr {N:Nat} {l t:Str} (h:l.length + t.length ≤ 4294967296):qax N t (bld l) = some ((t.length:Int),(),bld (l ++ t)):=by
 unfold qax bld
 rw [app1 (by simpa [ints] using h),qn6]
 rfl
theorem qlt {N:Nat} {l:Str} {c:Nat} (hc:c < 256) (h:l.length < 4294967296):qaO N (c:Int) (bld l) = some ((),bld (l ++ [UInt8.ofNat c])):=by
 unfold qaO bld
 have e:([(c:Int)]:List Int) = ints [UInt8.ofNat c]:=by simp [ints]; omega
 rw [app1 (by simp [ints]; omega),e,qn6]
 rfl
theorem qbE (b:Builder):Builder.mk () b.buf = b:=rfl
theorem beqd (a b:Int):(a == b) = decide (a = b):=rfl
theorem qoJ (N:Nat) (x:Item):qgO N x = some (qlS x,decide (qjh x)):=by
 unfold qgO qlS qjh
 simp only [beqd]
 by_cases h1:x.Least = 1 <;> by_cases h0:x.Least = 0 <;> by_cases h2:x.Most = 1 <;> by_cases h3:x.Most = -1 <;> simp [h1,h0,h2,h3]
theorem cat1 {a b:Str} (h:a.length + b.length ≤ 1000000000):cat a b = some (a ++ b):=by unfold cat; rw [if_pos (by unfold LIMS; omega)]
theorem qhE {α:Type} (f:α → Str) {l:List α} {k:Nat} {x:α} (h:l[k]? = some x):(l.take k).flatMap f ++ f x = (l.take (k + 1)).flatMap f:=by
 rw [← qfL h]; simp
theorem qi5 {α:Type} (f:α → Str) (B:Nat) (l:List α) (k:Nat) (h:∀ x ∈ l,(f x).length ≤ B):((l.take k).flatMap f).length ≤ l.length * B:=by
 have h1:=qh9 f B (l.take k) (fun x hx=>h x (List.mem_of_mem_take hx))
 have h2:(l.take k).length * B ≤ l.length * B:=Nat.mul_le_mul_right _ (by simp; omega)
 omega
theorem qnR {N:Nat} {x:Item} (h:ItP x) (hb:InB x) {l:Str} (hl:l.length ≤ 1000000000) (hN:100 ≤ N):qhI N x (bld l) = some (bld (l ++ qgz x)):=by
 unfold qhI
 obtain ⟨hm,h⟩:=h
 simp only [qoJ,Option.bind_some,qbE]
 have hml:=qmL x
 by_cases h0:x.Text = []
 ·rw [if_pos h0] at h
  have e0:(x.Text != ([]:Str)) = false:=by rw [h0]; rfl
  have fl:=fun k=>qi5 qfq 9 x.Ranges k (fun g _=>qlL g)
  simp only [e0,cond_false]
  rw [show (91:Int) = ((91:Nat):Int) from rfl,qlt (by decide) (by omega)]
  simp only [Option.bind_some,qbE]
  have hnot:(bif x.Not then (qaO N 94 (bld (l ++ [91]))).bind fun r98=>some r98.2 else some (bld (l ++ [91]))) = some (bld (l ++ [91] ++ if x.Not then [94] else [])):=by
   cases x.Not with
   | false=>simp
   | true =>
    simp only [cond_true,if_true]
    rw [show (94:Int) = ((94:Nat):Int) from rfl,qlt (by decide) (by simp [-List.length_flatMap]; omega)]
    rfl
  have hnl:(if x.Not then ([94]:Str) else []).length ≤ 1:=by cases x.Not <;> decide
  rw [show UInt8.ofNat 91 = 91 from rfl] at *
  rw [hnot]
  simp only [Option.bind_some,qbE]
  refine (qd6 (fun k:Nat=>((k:Int),bld (l ++ [91] ++ (if x.Not then [94] else []) ++ (x.Ranges.take k).flatMap qfq))) x.Ranges.length (bld (l ++ [91] ++ (if x.Not then [94] else []) ++ x.Ranges.flatMap qfq)) (by simp) (by omega) (fun k hk=>?_) ?_).trans ?_
  ·obtain ⟨g,hg⟩:=qcu hk
   obtain ⟨hf,ht⟩:=hb g (List.mem_of_getElem? hg)
   obtain ⟨f,hf1,hf2,hf3⟩:=inr8 hf
   obtain ⟨t,ht1,ht2,ht3⟩:=inr8 ht
   have:=fl k
   have hef:=qhr true f
   have het:=qhr true t
   simp only [qfW,dk hk,cond_true,ixg hg,Option.bind_some,qbE]
   rw [hf1,qkq hf2]
   simp only [Option.bind_some]
   rw [wstr (by simp [-List.length_flatMap]; omega)]
   simp only [Option.bind_some,qbE]
   rw [← qhE qfq hg]
   by_cases he:g.To = g.From
   ·have hr:qfq g = esc true f:=by unfold qfq; rw [if_pos he,hf3,List.append_nil]
    have:(g.To != (f:Int)) = false:=by rw [he,hf1]; simp
    rw [this,hr]
    simp
   ·have hr:qfq g = esc true f ++ 45 :: esc true t:=by unfold qfq; rw [if_neg he,hf3,ht3]
    have:(g.To != (f:Int)) = true:=by rw [← hf1]; simpa using he
    rw [this,hr,ht1,qkq ht2]
    simp only [cond_true,Option.bind_some]
    rw [cat1 (by simp [-List.length_flatMap]; omega)]
    simp only [Option.bind_some]
    rw [wstr (by simp [-List.length_flatMap]; omega)]
    simp [qbE]
  ·simp only [qfW,dn,cond_false,qbE,List.take_length]
  ·rw [cat1 (by simp [-List.length_flatMap]; omega)]
   simp only [Option.bind_some,qbE]
   have:=fl x.Ranges.length
   rw [List.take_length] at this
   rw [wstr (by simp [-List.length_flatMap]; omega)]
   simp only [Option.bind_some,qbE,qgz,qlI,if_pos h0]
   simp
 ·rw [if_neg h0] at h
  have e0:(x.Text != ([]:Str)) = true:=by simpa using h0
  have fl:=fun k=>qi5 (fun c:UInt8=>esc false c.toNat) 4 x.Text k (fun c _=>qhr _ _)
  simp only [e0,cond_true]
  rw [show (34:Int) = ((34:Nat):Int) from rfl,qlt (by decide) (by omega)]
  simp only [Option.bind_some,qbE]
  refine (qd6 (fun k:Nat=>((k:Int),bld (l ++ [34] ++ (x.Text.take k).flatMap (fun c=>esc false c.toNat)))) x.Text.length (bld (l ++ [34] ++ x.Text.flatMap (fun c=>esc false c.toNat))) (by simp) (by omega) (fun k hk=>?_) ?_).trans ?_
  ·obtain ⟨c,hc⟩:=qcu hk
   have:=fl k
   have hec:=qhr false c.toNat
   simp only [qfQ,dk hk,cond_true,ixg hc,Option.bind_some,qbE]
   rw [qqC (u8lt c)]
   simp only [Option.bind_some]
   rw [wstr (by simp [-List.length_flatMap]; omega)]
   simp only [Option.bind_some,qbE]
   rw [← qhE (fun c:UInt8=>esc false c.toNat) hc]
   simp
  ·simp only [qfQ,dn,cond_false,qbE,List.take_length]
  ·rw [cat1 (by simp [-List.length_flatMap]; omega)]
   simp only [Option.bind_some,qbE]
   have:=fl x.Text.length
   rw [List.take_length] at this
   rw [wstr (by simp [-List.length_flatMap]; omega)]
   simp only [Option.bind_some,qbE,qgz,qlI,if_neg h0]
   simp
theorem qnU {N:Nat} {r:Rule} (h:RlP r) (hn:r.Next.length ≤ 16) (hb:∀ x ∈ r.Items,InB x) (hN:100 ≤ N):qhB N r = some (qh5 r):=by
 unfold qhB
 have hk:=qiq h.1
 have fl:=fun k=>qi5 (fun x=>32 :: qgz x) 202 r.Items k (fun x hx=>by have:=qmJ (h.2.2 x hx); simp; omega)
 have hI:=h.2.1
 have e:Builder.mk () ([]) = bld []:=rfl
 rw [e,wstr (by simp [-List.length_flatMap]; omega)]
 simp only [Option.bind_some,qbE,List.nil_append]
 refine (qd6 (fun k:Nat=>((k:Int),bld (r.Kind ++ (r.Items.take k).flatMap (fun x=>32 :: qgz x)))) r.Items.length (bld (r.Kind ++ r.Items.flatMap (fun x=>32 :: qgz x))) (by simp) (by omega) (fun k hk=>?_) ?_).trans ?_
 ·obtain ⟨x,hx⟩:=qcu hk
  have hm:=List.mem_of_getElem? hx
  have:=fl k
  simp only [qfP,dk hk,cond_true,ixg hx,Option.bind_some,qbE]
  rw [show (32:Int) = ((32:Nat):Int) from rfl,qlt (by decide) (by simp [-List.length_flatMap]; omega)]
  simp only [Option.bind_some,qbE]
  rw [qnR (h.2.2 x hm) (hb x hm) (by simp [-List.length_flatMap]; omega) hN]
  simp only [Option.bind_some,qbE]
  rw [← qhE (fun x=>32 :: qgz x) hx]
  simp
 ·simp only [qfP,dn,cond_false,qbE,List.take_length]
 ·have:=fl r.Items.length
  rw [List.take_length] at this
  unfold qh5
  by_cases h0:r.Next = []
  ·have e0:(r.Next != ([]:Str)) = false:=by rw [h0]; rfl
   simp only [e0,cond_false,if_pos h0,bld,qiL]
   simp
  ·have e0:(r.Next != ([]:Str)) = true:=by simpa using h0
   simp only [e0,cond_true,if_neg h0]
   rw [cat1 (by simp [-List.length_flatMap]; omega)]
   simp only [Option.bind_some,qbE]
   rw [wstr (by simp [-List.length_flatMap]; omega)]
   simp only [Option.bind_some,bld,qiL]
structure Vs (s:List State):Prop where
 len:1 ≤ s.length ∧ s.length ≤ 20
 name:∀ x ∈ s,word x.Name = true
 rules:∀ x ∈ s,1 ≤ x.Rules.length ∧ x.Rules.length ≤ 40
 rl:∀ x ∈ s,∀ r ∈ x.Rules,RlP r ∧ (r.Next = [] ∨ r.Next ∈ s.map State.Name)
 nd:(s.map State.Name).Nodup
theorem Vs.next {s:List State} (h:Vs s) {x:State} (hx:x ∈ s) {r:Rule} (hr:r ∈ x.Rules):r.Next.length ≤ 16:=by
 rcases (h.rl x hx r hr).2 with h1 | h1
 ·rw [h1]; decide
 ·obtain ⟨y,hy,e⟩:=List.mem_map.1 h1
  rw [← e]; exact (qiq (h.name y hy)).2
theorem qo5 {s:List State} (h:Vs s) {x:State} (hx:x ∈ s):(qg1 x).length ≤ 170000:=by
 unfold qg1
 have h1:=qiq (h.name x hx)
 have h2:=h.rules x hx
 have h3:=qh9 (fun r=>qh5 r ++ [10]) 4081 x.Rules (fun r hr=>by have:=qj8 (h.rl x hx r hr).1 (h.next hx hr); simp; omega)
 simp [-List.length_flatMap]; omega
theorem qnG {N:Nat} {s:List State} (h:Vs s) (hb:∀ x ∈ s,∀ r ∈ x.Rules,∀ y ∈ r.Items,InB y) (hN:100 ≤ N):qhJ N s = some (qpC s):=by
 unfold qhJ
 have hl:=h.len
 have fl:=fun k=>qi5 qg1 170000 s k (fun x hx=>qo5 h hx)
 have e:Builder.mk () ([]) = bld []:=rfl
 rw [e]
 refine (qd6 (fun k:Nat=>((k:Int),bld ((s.take k).flatMap qg1))) s.length (bld (qpC s)) (by simp) (by omega) (fun k hk=>?_) ?_).trans ?_
 ·obtain ⟨x,hx⟩:=qcu hk
  have hm:=List.mem_of_getElem? hx
  have h1:=qiq (h.name x hm)
  have h2:=h.rules x hm
  have:=fl k
  have fl2:=fun j=>qi5 (fun r=>qh5 r ++ [10]) 4081 x.Rules j (fun r hr=>by have:=qj8 (h.rl x hm r hr).1 (h.next hm hr); simp; omega)
  simp only [qf6,dk hk,cond_true,ixg hx,Option.bind_some,qbE]
  rw [cat1 (by simp; omega)]
  simp only [Option.bind_some]
  rw [cat1 (by simp; omega)]
  simp only [Option.bind_some]
  rw [wstr (by simp [-List.length_flatMap]; omega)]
  simp only [Option.bind_some,qbE]
  refine (qd6 (fun j:Nat=>((j:Int),bld ((s.take k).flatMap qg1 ++ ([115,116,97,116,101,32] ++ x.Name ++ [10]) ++ (x.Rules.take j).flatMap (fun r=>qh5 r ++ [10])))) x.Rules.length (bld ((s.take (k + 1)).flatMap qg1)) (by simp) (by omega) (fun j hj=>?_) ?_).trans ?_
  ·obtain ⟨r,hr⟩:=qcu hj
   have hrm:=List.mem_of_getElem? hr
   have hll:=qj8 (h.rl x hm r hrm).1 (h.next hm hrm)
   have:=fl2 j
   simp only [qf8,dk hj,cond_true,ixg hr,Option.bind_some,qbE]
   rw [qnU (h.rl x hm r hrm).1 (h.next hm hrm) (hb x hm r hrm) hN]
   simp only [Option.bind_some]
   rw [cat1 (by simp; omega)]
   simp only [Option.bind_some]
   rw [wstr (by simp [-List.length_flatMap]; omega)]
   simp only [Option.bind_some,qbE]
   rw [← qhE (fun r=>qh5 r ++ [10]) hr]
   simp
  ·simp only [qf8,dn,cond_false,qbE,List.take_length]
   rw [← qhE qg1 hx]
   simp [qg1]
  ·rfl
 ·simp only [qf6,dn,cond_false,qbE,List.take_length]
  rfl
 ·simp only [bld,qiL]
end Go.Proofs.YtllfckekodcdaaaGreatDoor
