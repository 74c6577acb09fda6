/- Texts of this proof, joined by pack.py. -/
import Derived.Test.YtkhjeeakflefjaaGreatDoorPkKw6
import Derived.Test.YtkhjeeakflefjaaGreatDoorCards
import Derived.Test.YtkhjeeakflefjaaGreatDoorChecked
import Derived.Test.YtkhjeeakflefjaaGreatDoorProg
import Derived.Test.YtkhjeeakflefjaaGreatDoorRows
import Derived.Test.YtkhjeeakflefjaaGreatDoorTie
set_option linter.unusedVariables false
set_option linter.unusedSimpArgs false
namespace Go.Proofs.YtkhjeeakflefjaaGreatDoor
open Go.X
def qtr(rest:List (Int×Str)):Prop:=rest=[]∨(∃ w r,rest=(3,w)::r)∨∃ w r,rest=(6,w)::r
theorem qop{x:Part}(h:fld x=true)(hk:x.Kind=1):x=Part.mk 1 x.Text [] [] [] []:=by
 obtain⟨k,t,n,st,cs,ps⟩:=x
 simp only at hk
 subst hk
 unfold fld noN noS noC noP at h
 simp only[Int.reduceBEq,cond_true,Bool.and_eq_true] at h
 rw[beq_iff_eq.1 h.2.1,beq_iff_eq.1 h.2.2.1,len0 h.2.2.2.1,len0 h.2.2.2.2]
theorem qny{x:Part}(h:fld x=true)(hk:x.Kind=10):x=Part.mk 10 [] [] [] [] []:=by
 obtain⟨k,t,n,st,cs,ps⟩:=x
 simp only at hk
 subst hk
 unfold fld noT noN noS noC noP at h
 simp only[Int.reduceBEq,cond_true,cond_false,Bool.and_eq_true] at h
 rw[beq_iff_eq.1 h.1,beq_iff_eq.1 h.2.1,beq_iff_eq.1 h.2.2.1,len0 h.2.2.2.1,len0 h.2.2.2.2]
theorem qoj{x:Part}(h:fld x=true)(hk:x.Kind=11):nam x.Name=true∧x=Part.mk 11 [] x.Name [] [] x.Parts:=by
 obtain⟨k,t,n,st,cs,ps⟩:=x
 simp only at hk
 subst hk
 rw[qpM rfl] at h
 unfold noT noS noC at h
 simp only[Bool.and_eq_true] at h
 refine⟨h.1,?_⟩
 rw[beq_iff_eq.1 h.2.1,beq_iff_eq.1 h.2.2.1,len0 h.2.2.2]
theorem qps{x:Part}(h:fld x=true)(h1:x.Kind≠1)(h10:x.Kind≠10)(h11:x.Kind≠11):nam x.Name=true∧x=Part.mk x.Kind [] x.Name x.Style x.Cases []:=by
 have hn:=qjc h h1 h10
 refine⟨hn,?_⟩
 have hp:x.Parts=[]:=by
  cases qhB h with
  | flat _ _ _ h=>exact h
  | arg _ _ _ _ h=>exact h
  | sel _ _ h=>exact h
  | elem hk _=>exact absurd hk h11
 have ht:x.Text=[]:=by
  have hf:=qg0 h
  unfold fld noT at h
  rcases hf with hk | hk | hk | hk | hk | hk | hk | hk | hk | hk | hk
  ·exact absurd hk h1
  ·exact absurd hk h10
  ·exact absurd hk h11
  ·simp only[hk,Int.reduceBEq,cond_true,cond_false,Bool.and_eq_true,beq_iff_eq] at h;exact h.2.1
  ·simp only[hk,Int.reduceBEq,cond_true,cond_false,Bool.and_eq_true,beq_iff_eq] at h;exact h.2.2.1
  ·simp only[hk,Int.reduceBEq,Bool.true_or,cond_true,cond_false,Bool.and_eq_true,beq_iff_eq] at h;exact h.2.2.1
  ·simp only[hk,Int.reduceBEq,Bool.or_self,cond_true,cond_false,Bool.and_eq_true,beq_iff_eq] at h;exact h.2.2.1
  ·simp only[hk,Int.reduceBEq,Bool.or_true,cond_true,cond_false,Bool.and_eq_true,beq_iff_eq] at h;exact h.2.2.1
  all_goals
   simp only[hk,Int.reduceBEq,Bool.or_self,sel,Bool.true_or,Bool.or_true,cond_true,cond_false,Bool.and_eq_true,beq_iff_eq] at h
   exact h.2.1
 obtain⟨k,t,n,st,cs,ps⟩:=x
 simp only at hp ht ⊢
 rw[hp,ht]
theorem quG{k:Int}(h:k=3∨k=4∨k=5∨k=6∨k=7∨k=8∨k=9):(mget qgE (qfO k)).getD 0=k:=by
 rcases h with rfl | rfl | rfl | rfl | rfl | rfl | rfl <;> rfl
theorem qgR:∀ (l:List Str) (M:List Str),M.length≤(l.foldl addS M).length
 | [],M=>Nat.le_refl _
 | x::l,M=>by
  have h1:=qgR l (addS M x)
  have h2:M.length≤(addS M x).length:=by unfold addS;split <;> simp
  rw[List.foldl_cons];omega
def DoM(s:Str)(l:List Token)(N:Nat):Prop:=∀ (ps:List Part) (d:Nat) (c pt:Bool) (j:Nat) (ns:List Str) (a:Int) (rest:List (Int×Str)),okL pt ps d c=true→d≤8→blkPs ps+2003100≤N→blkPs ps≤1000000→Toks l j (tkL ps++rest)→qtr rest→((argL ps).foldl addS ns).length≤20 →
 qam N (d:Int) c (PS s l ⟨j,ns,a,0⟩)=some (ps,PS s l ⟨j+(tkL ps).length,(argL ps).foldl addS ns,a,0⟩)
def DoE(s:Str)(l:List Token)(N:Nat):Prop:=∀ (x:Part) (d:Nat) (c:Bool) (j:Nat) (ns:List Str) (a:Int) (rest:List (Int×Str)),okP x d c=true→x.Kind=11→x.Parts≠[]→x.blk+2003095≤N→x.blk≤1000000→Toks l j (tkP x++rest)→((argP x).foldl addS ns).length≤20 →
 qav N (((d+1:Nat):Int)) c (PS s l ⟨j,ns,a,0⟩)=some (x,PS s l ⟨j+(tkP x).length,(argP x).foldl addS ns,a,0⟩)
def DoA(s:Str)(l:List Token)(N:Nat):Prop:=∀ (x:Part) (d:Nat) (c:Bool) (j:Nat) (ns:List Str) (a:Int) (rest:List (Int×Str)),okP x d c=true→x.Kind≠1→x.Kind≠10→x.Kind≠11→d≤8→x.blk+2003095≤N→x.blk≤1000000→Toks l j (tkP x++rest)→((argP x).foldl addS ns).length≤20 →
 qat N (d:Int) c (PS s l ⟨j,ns,a,0⟩)=some (x,PS s l ⟨j+(tkP x).length,(argP x).foldl addS ns,a,0⟩)
def DoC(s:Str)(l:List Token)(N:Nat):Prop:=∀ (cs:List (CaseP Part)) (k:Int) (d:Nat) (c:Bool) (j:Nat) (ns:List Str) (a:Int) (w:Str) (rest:List (Int×Str)),sel k=true→okCs k [] cs d (c||cnt k)=true→cs.length≤20→(cs.map (·.Key)).contains qiU=true→d≤8→blkCs cs+2003101≤N→blkCs cs≤1000000→Toks l j (tkCs cs++(3,w)::rest)→((argCs cs).foldl addS ns).length≤20 →
 qay N k (d:Int) c (PS s l ⟨j,ns,a,0⟩)=some (cs,PS s l ⟨j+(tkCs cs).length,(argCs cs).foldl addS ns,a,0⟩)
theorem qoA{x:Part}(h:x.Kind=11)(hc:x.Cases=[]):argP x=argL x.Parts:=by
 rw[qfs,h,hc,argCs]
 simp
section
variable {N:Nat} {s:Str} {l:List Token} {j:Nat} {ns:List Str} {a:Int} {k:Int} {w:Str} {ts:List (Int×Str)}
theorem qeI(h:Toks l j ((k,w)::ts)):qaJ N (PS s l ⟨j,ns,a,0⟩)=some k:=by rw[qdB,qhG h]
theorem qdM(hw:WT l)(h:Toks l j ((k,w)::ts))(hk:k≠0):qar N k (PS s l ⟨j,ns,a,0⟩)=some (w,PS s l ⟨j+1,ns,a,0⟩):=by rw[qcc hw hk,qn4 h]
theorem qp8(hw:WT l)(h:Toks l j ((9,w)::ts))(hN:4010≤N)(hf:nam w=true)(hn:(addS ns w).length≤20):qd7 N (PS s l ⟨j,ns,a,0⟩)=some (w,PS s l ⟨j+1,addS ns w,a,0⟩):=by
 have h1:ns.length≤(addS ns w).length:=by unfold addS;split <;> simp
 obtain⟨t,h2,_⟩:=h.head
 have:=qdK h2
 rw[qnk hw ⟨by show j≤_;omega,by show ns.length≤_;omega⟩ hN,qt9 h hf hn]
theorem qu1(hw:WT l)(h:Toks l j ((9,w)::ts))(hf:qgS w=true):qdS N (PS s l ⟨j,ns,a,0⟩)=some (w,PS s l ⟨j+1,ns,a,0⟩):=by rw[qog hw,qj6 h hf]
theorem quZ(hw:WT l)(h:Toks l j ((9,w)::ts))(hf:qjC w=true):qdR N (PS s l ⟨j,ns,a,0⟩)=some (w,PS s l ⟨j+1,ns,a,0⟩):=by rw[qol hw,qj6 h hf]
theorem qug(hw:WT l)(hN:4010≤N)(h:Toks l j ((9,w)::ts))(hf:skel w=true):qdV N (PS s l ⟨j,ns,a,0⟩)=some (w,PS s l ⟨j+1,ns,a,0⟩):=by rw[qni hw hN,qj6 h hf]
theorem qsW(hw:WT l)(hN:4010≤N)(h:Toks l j ((9,w)::ts))(hf:nam w=true):qcL N (PS s l ⟨j,ns,a,0⟩)=some (w,PS s l ⟨j+1,ns,a,0⟩):=by rw[qkJ hw hN,qj6 h hf]
theorem qrX(hw:WT l)(hN:2003000≤N){q:Int}(h:Toks l j ((9,w)::ts))(hf:key q w=true):qcb N (PS s l ⟨j,ns,a,0⟩) q=some (w,PS s l ⟨j+1,ns,a,0⟩):=by rw[qof hw hN,qj6 h hf]
end
theorem do_E{s:Str}{l:List Token}(hw:WT l){N:Nat}(hM:DoM s l N):DoE s l (N+1):=by
 intro x d c j ns a rest hok hk hp hN hb ht hn
 have hf:=qfr hok
 obtain⟨hnm,hx⟩:=qoj hf hk
 have h2:=qhI hok (by rw[hk];rfl)
 have hbe:=qe6 x
 have hpl:((x.Parts.length:Int)==0)=false:=by rw[beq_eq_false_iff_ne];intro e;exact hp (List.length_eq_zero_iff.1 (by omega))
 have hca:x.Cases=[]:=by rw[hx]
 rw[qoA hk hca] at hn ⊢
 have htk:tkP x=[(5,x.Name)]++tkL x.Parts++[(6,x.Name)]:=by rw[qhj,hk,hpl];rfl
 rw[htk] at ht ⊢
 have ht0:Toks l j ((5,x.Name)::(tkL x.Parts++(6,x.Name)::rest)):=by simpa using ht
 have ht1:=ht0.tail
 have ht2:=ht1.app
 show qb9 (qam N) (qav N) (qat N) (qay N) N ((d+1:Nat):Int) c (PS s l ⟨j,ns,a,0⟩)=_
 unfold qb9
 rw[qg3,qn2 (by omega),Option.bind_some,qcc hw (by decide),qn4 ht0,Option.bind_some]
 rw[hM x.Parts (d+1) c false (j+1) ns a ((6,x.Name)::rest) h2.2 (by omega) (by omega) (by omega) ht1 (.inr (.inr ⟨_,_,rfl⟩)) hn,Option.bind_some]
 obtain⟨t,i1,i2,i3⟩:=qpE ht2
 simp only[qdB,qhG ht2,Option.bind_some,i1,i3,qcc hw (show(6:Int)≠0 by decide),qn4 ht2,bne,beq_self_eq_true,Bool.not_true,cond_false]
 rw[← hx]
 congr 3
 simp[St.mk.injEq]
 omega
theorem qtd{x:Part}(h:fld x=true)(h1:x.Kind≠1)(h10:x.Kind≠10)(h11:x.Kind≠11):argP x=x.Name::argCs x.Cases:=by
 obtain⟨hn,hx⟩:=qps h h1 h10 h11
 have hp:x.Parts=[]:=by rw[hx]
 have hk:(decide (2≤x.Kind)&&decide (x.Kind≤9))=true:=by
  rcases qg0 h with e | e | e | e | e | e | e | e | e | e | e
  ·exact absurd e h1
  ·exact absurd e h10
  ·exact absurd e h11
  all_goals rw[e];rfl
 rw[qfs,hk,hp,argL];rfl
theorem do_A{s:Str}{l:List Token}(hw:WT l){N:Nat}(hC:DoC s l N):DoA s l (N+1):=by
 intro x d c j ns a rest hok h1 h10 h11 hd hN hb ht hn
 have hf:=qfr hok
 obtain⟨hnm,hx⟩:=qps hf h1 h10 h11
 have hbe:=qe6 x
 rw[qtd hf h1 h10 h11,List.foldl_cons] at hn ⊢
 have hn1:(addS ns x.Name).length≤20:=Nat.le_trans (qgR _ _) hn
 show qb7 (qam N) (qav N) (qat N) (qay N) N (d:Int) c (PS s l ⟨j,ns,a,0⟩)=_
 unfold qb7
 have hN4:4010≤N:=by omega
 by_cases h2:x.Kind=2
 ·have htk:tkP x=[(2,[123])]++[(9,x.Name)]++[(3,[125])]:=by rw[qhj,h2];rfl
  rw[htk] at ht ⊢
  have ht0:Toks l j ((2,[123])::(9,x.Name)::(3,[125])::rest):=by simpa using ht
  have hcs:x.Cases=[]:=qfA hf (by rw[h2];rfl)
  have hst:x.Style=[]:=qoh hf h2
  have hx2:x=Part.mk 2 [] x.Name [] [] []:=by rw[h2,hcs,hst] at hx;exact hx
  simp only[qdM hw ht0 (by decide),qp8 hw ht0.tail hN4 hnm hn1,qeI ht0.tail.tail,qdM hw ht0.tail.tail (show(3:Int)≠0 by decide),Option.bind_some,beq_self_eq_true,cond_true]
  rw[← hx2,hcs,argCs];rfl
 ·have hk:x.Kind=3∨x.Kind=4∨x.Kind=5∨x.Kind=6∨x.Kind=7∨x.Kind=8∨x.Kind=9:=by
   rcases qg0 hf with h | h | h | h | h
   ·exact absurd h h1
   ·exact absurd h h10
   ·exact absurd h h11
   ·exact absurd h h2
   ·exact h
  have htk:tkP x=[(2,[123])]++[(9,x.Name)]++[(8,[44])]++[(9,qfO x.Kind)]++(bif x.Style==([]:Str) then [] else [(8,[44])]++[(9,x.Style)])++(bif sel x.Kind then [(8,[44])] else [])++tkCs x.Cases++[(3,[125])]:=by
   rw[qhj,beq_eq_false_iff_ne.2 h1,beq_eq_false_iff_ne.2 h10,beq_eq_false_iff_ne.2 h11,beq_eq_false_iff_ne.2 h2];rfl
  rw[htk] at ht ⊢
  have ht0:Toks l j ((2,[123])::(9,x.Name)::(8,[44])::(9,qfO x.Kind)::((bif x.Style==([]:Str) then [] else [(8,[44])]++[(9,x.Style)])++((bif sel x.Kind then [(8,[44])] else [])++(tkCs x.Cases++((3,[125])::rest))))):=by simpa using ht
  have ht1:=ht0.tail
  have ht2:=ht1.tail
  have ht3:=ht2.tail
  have ht4:=ht3.tail
  have huk:=quG hk
  have huo:qgS (qfO x.Kind)=true:=by unfold qgS;rw[huk];rcases hk with e | e | e | e | e | e | e <;> rw[e] <;> rfl
  have h83:((8:Int)==3)=false:=rfl
  have e1:sel x.Kind=true→d<8:=λhsl=>by
   have h11b:(x.Kind==11)=false:=beq_eq_false_iff_ne.2 h11
   rw[qhV,h11b,hsl] at hok
   simp only[cond_false,cond_true,Bool.and_eq_true,decide_eq_true_eq] at hok
   exact hok.2.2.1
  obtain⟨t,i1,i2,i3⟩:=qpE ht3
  simp only[qdM hw ht0 (by decide),qp8 hw ht1 hN4 hnm hn1,qeI ht2,qdM hw ht2 (show(8:Int)≠0 by decide),qeI ht3,Option.bind_some,h83,beq_self_eq_true,cond_true,cond_false,i1,i3,huk,qgx]
  have e2:(bif sel x.Kind then (qcG N (IntKind.wrap .i64 ((d:Int)+1)) (PS s l ⟨j+1+1+1,addS ns x.Name,a,0⟩)).bind λr134=>some r134 else some (PS s l ⟨j+1+1+1,addS ns x.Name,a,0⟩))=some (PS s l ⟨j+1+1+1,addS ns x.Name,a,0⟩):=by
   cases hsl:sel x.Kind with
   | false=>rfl
   | true=>
    have hd8:=e1 hsl
    rw[wN (by omega) (by omega),qg3,qn2 (by omega)];rfl
  rw[e2]
  simp only[Option.bind_some,qu1 hw ht3 huo,huk]
  have h00:((0:Int)!=0)=false:=rfl
  simp only[h00,cond_false]
  cases hsl:sel x.Kind with
  | true=>
   have hst0:x.Style=[]:=by
    have h3:=hf
    rw[quH hsl] at h3
    unfold noS at h3
    simp only[Bool.and_eq_true,beq_iff_eq] at h3
    exact h3.2.2.1
   have h3f:(x.Kind==3)=false:=by rcases qeZ hsl with e | e | e <;> rw[e] <;> rfl
   have hd8:=e1 hsl
   have h11b:(x.Kind==11)=false:=beq_eq_false_iff_ne.2 h11
   rw[hst0,hsl] at ht4
   have ht5:Toks l (j+1+1+1+1) ((8,[44])::(tkCs x.Cases++(3,[125])::rest)):=ht4
   have hcs:=qls hok hsl
   have hcl:x.Cases.length≤20∧(x.Cases.map (·.Key)).contains qiU=true:=by
    rw[qhV,h11b,hsl] at hok
    simp only[cond_false,cond_true,Bool.and_eq_true,decide_eq_true_eq] at hok
    exact hok.2.2.2.2
   have hrec:=hC x.Cases x.Kind (d+1) c (j+1+1+1+1+1) (addS ns x.Name) a [125] rest hsl hcs hcl.1 hcl.2 (by omega) (by omega) (by omega) ht5.tail hn
   rw[show((d+1:Nat):Int)=(d:Int)+1 by omega] at hrec
   simp only[h3f,cond_false,cond_true,qdM hw ht5 (show(8:Int)≠0 by decide),Option.bind_some]
   rw[wN (by omega) (by omega)]
   simp only[hrec,Option.bind_some,qdM hw ht5.tail.app (show(3:Int)≠0 by decide)]
   have hx2:Part.mk x.Kind [] x.Name [] x.Cases []=x:=by rw[hst0] at hx;exact hx.symm
   rw[hx2,hst0]
   congr 3
   simp[St.mk.injEq]
   omega
  | false=>
   have hcs:x.Cases=[]:=qfA hf hsl
   rw[hsl,hcs] at ht4
   rw[hcs] at hx ⊢
   simp only[argCs,List.foldl_nil]
   by_cases hk3:x.Kind=3
   ·simp only[hk3,beq_self_eq_true,cond_true]
    cases hs0:(x.Style==([]:Str)) with
    | true=>
     rw[hs0] at ht4
     have ht5:Toks l (j+1+1+1+1) ((3,[125])::rest):=by simpa [tkCs] using ht4
     simp only[qeI ht5,Option.bind_some,show((3:Int)==8)=false from rfl,cond_false,qdM hw ht5 (show(3:Int)≠0 by decide)]
     have hx2:Part.mk 3 [] x.Name [] [] []=x:=by rw[beq_iff_eq.1 hs0,hk3] at hx;exact hx.symm
     rw[hx2]
     congr 3
    | false=>
     rw[hs0] at ht4
     have ht5:Toks l (j+1+1+1+1) ((8,[44])::(9,x.Style)::(3,[125])::rest):=by simpa [tkCs] using ht4
     have hsty:qjC x.Style=true:=by
      have h3:=hf
      unfold fld noS at h3
      simp only[hk3,hs0,Int.reduceBEq,cond_true,cond_false,Bool.and_eq_true,Bool.false_or] at h3
      exact h3.2.1
     simp only[qeI ht5,Option.bind_some,beq_self_eq_true,cond_true,qdM hw ht5 (show(8:Int)≠0 by decide),quZ hw ht5.tail hsty,qdM hw ht5.tail.tail (show(3:Int)≠0 by decide)]
     have hx2:Part.mk 3 [] x.Name x.Style [] []=x:=by rw[hk3] at hx;exact hx.symm
     rw[hx2]
     congr 3
   ·have hs0:(x.Style==([]:Str))=false:=by
     rw[beq_eq_false_iff_ne]
     intro e
     have h3:=hf
     unfold fld at h3
     rw[e] at h3
     rcases hk with e | e | e | e | e | e | e
     ·exact hk3 e
     ·simp only[e,qqv,Int.reduceBEq,Bool.true_or,cond_true,cond_false,Bool.and_eq_true] at h3;exact absurd h3.2.1 (by decide)
     ·simp only[e,Int.reduceBEq,Bool.or_self,cond_true,cond_false,Bool.and_eq_true] at h3;exact absurd h3.2.1 (by decide)
     ·simp only[e,qqv,Int.reduceBEq,Bool.or_true,cond_true,cond_false,Bool.and_eq_true] at h3;exact absurd h3.2.1 (by decide)
     all_goals (rw[e] at hsl;cases hsl)
    rw[hs0] at ht4
    have ht5:Toks l (j+1+1+1+1) ((8,[44])::(9,x.Style)::(3,[125])::rest):=by simpa [tkCs] using ht4
    have hk3b:(x.Kind==3)=false:=beq_eq_false_iff_ne.2 hk3
    simp only[hk3b,cond_false,qdM hw ht5 (show(8:Int)≠0 by decide),Option.bind_some]
    by_cases hk5:x.Kind=5
    ·have hsk:skel x.Style=true:=by
      have h3:=hf
      unfold fld at h3
      simp only[hk5,Int.reduceBEq,Bool.or_self,cond_true,cond_false,Bool.and_eq_true] at h3
      exact h3.2.1
     simp only[hk5,beq_self_eq_true,cond_true,qug hw hN4 ht5.tail hsk,Option.bind_some,qdM hw ht5.tail.tail (show(3:Int)≠0 by decide),hs0]
     have hx2:Part.mk 5 [] x.Name x.Style [] []=x:=by rw[hk5] at hx;exact hx.symm
     rw[hx2]
     congr 3
    ·have hnk:nam x.Style=true:=by
      have h3:=hf
      unfold fld at h3
      rcases hk with e | e | e | e | e | e | e
      ·exact absurd e hk3
      ·simp only[e,Int.reduceBEq,Bool.true_or,cond_true,cond_false,Bool.and_eq_true] at h3;exact h3.2.1
      ·exact absurd e hk5
      ·simp only[e,Int.reduceBEq,Bool.or_true,cond_true,cond_false,Bool.and_eq_true] at h3;exact h3.2.1
      all_goals (rw[e] at hsl;cases hsl)
     have hk5b:(x.Kind==5)=false:=beq_eq_false_iff_ne.2 hk5
     simp only[hk5b,cond_false,qsW hw hN4 ht5.tail hnk,Option.bind_some,qdM hw ht5.tail.tail (show(3:Int)≠0 by decide),hs0]
     rw[← hx]
     congr 3
end Go.Proofs.YtkhjeeakflefjaaGreatDoor
namespace Go.Proofs.YtkhjeeakflefjaaGreatDoor
open Go.X
theorem quS{k:Int}(h:sel k=true):(k != 9)=cnt k:=by rcases qeZ h with e | e | e <;> rw[e] <;> rfl
theorem qrt:∀ {cs:List (CaseP Part)} {k:Int} {ks:List Str} {d:Nat} {c:Bool} {y:CaseP Part},okCs k ks (y::cs) d c=true→key k y.Key=true∧ks.contains y.Key=false∧okL false y.Parts d c=true∧okCs k (ks++[y.Key]) cs d c=true:=by
 intro cs k ks d c y h
 rw[okCs,Bool.and_eq_true,qlM] at h
 simp only[Bool.and_eq_true] at h
 exact⟨h.1.1,by simpa using h.1.2.1,h.1.2.2,h.2⟩
section
variable {s:Str} {l:List Token} {N:Nat}
theorem qqY(hw:WT l)(hM:DoM s l N){k:Int}{d:Nat}{c:Bool}{out:List (CaseP Part)}{first:Bool}{y:CaseP Part}{j:Nat}{ns:List Str}{a:Int}{ks:List Str}{rest:List (Int×Str)}
  (hk:sel k=true) (ht:Toks l j (tkC y++rest)) (hkey:key k y.Key=true) (hnew:ks.contains y.Key=false) (hok:okL false y.Parts d (c||cnt k)=true) (hd:d≤8) (hout:out.length<20) (hks:ks.length≤20)
  (hN:blkC y+2003100≤N) (hb:blkC y≤1000000) (hn:((argC y).foldl addS ns).length≤20) :
  qa6 (qam N) (qav N) (qat N) (qay N) N k (d:Int) c out first (PS s l ⟨j,ns,a,0⟩) (tt ks)=some (.inl (out++[y],false,PS s l ⟨j+(tkC y).length,(argC y).foldl addS ns,a,0⟩,tt (ks++[y.Key]))):=by
 obtain⟨Key,Parts⟩:=y
 simp only at hkey hnew hok
 rw[qr9] at ht ⊢
 rw[qkc] at hn ⊢
 have hbe:=qfU ⟨Key,Parts⟩
 simp only at ht hn hbe ⊢
 have ht0:Toks l j ((9,Key)::(2,[123])::(tkL Parts++(3,[125])::rest)):=by simpa using ht
 have ht1:=ht0.tail
 have ht2:=ht1.tail
 have ht3:=ht2.app
 obtain⟨t,i1,i2,i3⟩:=qpE ht0
 have hkl:Key.length≤2000000:=by omega
 have hmg:(mget (tt ks) Key).getD false=false:=by rw[qkd];exact hnew
 have hms:mset (tt ks) Key true=some (tt (ks++[Key])):=qpN hnew (by omega)
 have hrec:=hM Parts d (c||cnt k) false (j+1+1) ns a ((3,[125])::rest) hok hd (by omega) (by omega) ht2 (.inr (.inl ⟨_,_,rfl⟩)) hn
 have happ:app out [Case.mk Key Parts]=some (out++[Case.mk Key Parts]):=appS (by simp;omega)
 have h20:decide ((out.length:Int)≥20)=false:=decide_eq_false (by omega)
 have hlen:j+1+1+(tkL Parts).length+1=j+([((9:Int),Key)]++[(2,[123])]++tkL Parts++[(3,[125])]).length:=by simp;omega
 have hround:((qam N (d:Int) (c||cnt k) (PS s l ⟨j+1+1,ns,a,0⟩)).bind λr229=>
   (qar N 3 r229.2).bind λr243=>
   (app out ([(Case.mk Key r229.1)]:List (Case))).bind λl259=>
   some (Sum.inl (β:=Parser×List Case×List (Str×Bool)) (l259,false,r243.2,tt (ks++[Key]))))=some (.inl (out++[Case.mk Key Parts],false,PS s l ⟨j+([((9:Int),Key)]++[(2,[123])]++tkL Parts++[(3,[125])]).length,(argL Parts).foldl addS ns,a,0⟩,tt (ks++[Key]))):=by
  rw[hrec]
  simp only[Option.bind_some,qdM hw ht3 (show(3:Int)≠0 by decide),happ,hlen]
 have h2:(bif c then ((qam N (d:Int) true (PS s l ⟨j+1+1,ns,a,0⟩)).bind λr229=>
   (qar N 3 r229.2).bind λr243=>
   (app out ([(Case.mk Key r229.1)]:List (Case))).bind λl259=>
   some (Sum.inl (β:=Parser×List Case×List (Str×Bool)) (l259,false,r243.2,tt (ks++[Key])))) else ((qam N (d:Int) (k != 9) (PS s l ⟨j+1+1,ns,a,0⟩)).bind λr229=>
   (qar N 3 r229.2).bind λr243=>
   (app out ([(Case.mk Key r229.1)]:List (Case))).bind λl259=>
   some (Sum.inl (β:=Parser×List Case×List (Str×Bool)) (l259,false,r243.2,tt (ks++[Key])))))=some (.inl (out++[Case.mk Key Parts],false,PS s l ⟨j+([((9:Int),Key)]++[(2,[123])]++tkL Parts++[(3,[125])]).length,(argL Parts).foldl addS ns,a,0⟩,tt (ks++[Key]))):=by
  rw[quS hk]
  revert hround
  cases c <;> exact id
 unfold qa6
 have hN2:2003000≤N:=by omega
 cases first with
 | true=>
  simp only[cond_true,qeI ht0,Option.bind_some,beq_self_eq_true,i1,i3,qja hkl hN2,hkey,h20,cond_false,hmg,qrX hw hN2 ht0 hkey,hms,qdM hw ht1 (show(2:Int)≠0 by decide)]
  exact h2
 | false=>
  simp only[cond_true,qeI ht0,Option.bind_some,beq_self_eq_true,i1,i3,qja hkl hN2,hkey,h20,cond_false,hmg,qrX hw hN2 ht0 hkey,hms,qdM hw ht1 (show(2:Int)≠0 by decide)]
  exact h2
theorem qrn(hw:WT l)(hM:DoM s l N){k:Int}{d:Nat}{c:Bool}(hk:sel k=true)(hd:d≤8){w:Str}{rest:List (Int×Str)}{a:Int}:∀ (cs:List (CaseP Part)) (n:Nat) (out:List (CaseP Part)) (first:Bool) (j:Nat) (ns:List Str) (ks:List Str),okCs k ks cs d (c||cnt k)=true→(first=true→cs≠[])→out.length+cs.length≤20→ks.length+cs.length≤20→cs.length<n→blkCs cs+2003100≤N→blkCs cs≤1000000→Toks l j (tkCs cs++(3,w)::rest)→((argCs cs).foldl addS ns).length≤20 →
  iter (λst=>qa6 (qam N) (qav N) (qat N) (qay N) N k (d:Int) c st.1 st.2.1 st.2.2.1 st.2.2.2) n (out,first,PS s l ⟨j,ns,a,0⟩,tt ks)=some (PS s l ⟨j+(tkCs cs).length,(argCs cs).foldl addS ns,a,0⟩,out++cs,tt (ks++cs.map (·.Key))):=by
 intro cs
 induction cs with
 | nil=>
  intro n out first j ns ks hok hf ho hks hn hN hb ht hns
  obtain⟨n,rfl⟩:∃ m,n=m+1:=⟨n-1,by simp at hn;omega⟩
  have hf':first=false:=by cases first with | false=>rfl | true=>exact absurd rfl (hf rfl)
  subst hf'
  have ht':Toks l j ((3,w)::rest):=by simpa [tkCs] using ht
  rw[iter]
  have e:qa6 (qam N) (qav N) (qat N) (qay N) N k (d:Int) c out false (PS s l ⟨j,ns,a,0⟩) (tt ks)=some (.inr (PS s l ⟨j,ns,a,0⟩,out,tt ks)):=by
   unfold qa6
   simp only[cond_false,qeI ht',Option.bind_some]
   rfl
  simp only[e]
  simp[tkCs,argCs]
 | cons y r ih=>
  intro n out first j ns ks hok hf ho hks hn hN hb ht hns
  obtain⟨n,rfl⟩:∃ m,n=m+1:=⟨n-1,by simp at hn;omega⟩
  obtain⟨h1,h2,h3,h4⟩:=qrt hok
  rw[blkCs] at hN hb
  simp only[List.length_cons] at ho hks hn
  rw[tkCs,List.append_assoc] at ht
  rw[argCs,List.foldl_append] at hns ⊢
  have hns1:=Nat.le_trans (qgR _ _) hns
  rw[iter]
  simp only[qqY hw hM hk ht h1 h2 h3 hd (show out.length<20 by omega) (show ks.length≤20 by omega) (by omega) (by omega) hns1]
  rw[ih n (out++[y]) false _ _ (ks++[y.Key]) h4 (λe=>by cases e) (by simp;omega) (by simp;omega) (by omega) (by omega) (by omega) ht.app hns]
  rw[tkCs,List.length_append]
  simp[Nat.add_assoc]
theorem do_C(hw:WT l)(hM:DoM s l N):DoC s l (N+1):=by
 intro cs k d c j ns a w rest hk hok hlen hoth hd hN hb ht hn
 show qcs (qam N) (qav N) (qat N) (qay N) N k (d:Int) c (PS s l ⟨j,ns,a,0⟩)=_
 unfold qcs
 have hne:cs≠[]:=by rintro rfl;simp at hoth
 have hcl:=qgv cs
 have hloop:=qrn hw hM (d:=d) (c:=c) (w:=w) (rest:=rest) (a:=a) hk hd cs N [] true j ns [] hok (λ_=>hne) (by simpa using hlen) (by simpa using hlen) (by omega) (by omega) hb ht hn
 rw[List.nil_append,List.nil_append] at hloop
 have hloop':iter (λst=>qa6 (qam N) (qav N) (qat N) (qay N) N k (d:Int) c st.1 st.2.1 st.2.2.1 st.2.2.2) N (([]:List Case),true,PS s l ⟨j,ns,a,0⟩,([]:List (Str×Bool)))=some (PS s l ⟨j+(tkCs cs).length,(argCs cs).foldl addS ns,a,0⟩,cs,tt (cs.map (·.Key))):=hloop
 rw[hloop']
 have hmg:(mget (tt (cs.map (·.Key))) ([111,116,104,101,114]:Str)).getD false=true:=by rw[qkd];exact hoth
 simp only[Option.bind_some,qeI ht.app,beq_self_eq_true,cond_true,hmg,Bool.not_true,cond_false]
theorem qom{x:Part}(h:fld x=true)(hk:x.Kind=1∨x.Kind=10):argP x=[]:=by
 obtain⟨k,t,n,st,cs,ps⟩:=x
 rcases hk with hk | hk
 ·rw[qop h hk,qfs];simp[argL,argCs]
 ·rw[qny h hk,qfs];simp[argL,argCs]
theorem qq4(hw:WT l)(hE:DoE s l N)(hA:DoA s l N){x:Part}{d:Nat}{c:Bool}{out:List Part}{j:Nat}{ns:List Str}{a:Int}{rest:List (Int×Str)}
  (hok:okP x d c=true) (ht:Toks l j (tkP x++rest)) (hd:d≤8) (hout:out.length≤1000000) (hN:x.blk+2003095≤N) (hb:x.blk≤1000000) (hn:((argP x).foldl addS ns).length≤20) :
  qbo (qam N) (qav N) (qat N) (qay N) N (d:Int) c out (PS s l ⟨j,ns,a,0⟩)=some (.inl (out++[x],PS s l ⟨j+(tkP x).length,(argP x).foldl addS ns,a,0⟩)):=by
 have hf:=qfr hok
 have happ:∀ y:Part,app out [y]=some (out++[y]):=λy=>appS (by simp;omega)
 have h00:((0:Int)==0)=true:=rfl
 have hN4:4010≤N:=by omega
 unfold qbo
 by_cases h1:x.Kind=1
 ·have htk:tkP x=[(1,esc x.Text)]:=by rw[qhj,h1];rfl
  rw[htk] at ht ⊢
  have ht0:Toks l j ((1,esc x.Text)::rest):=ht
  obtain⟨t,q1,q2,q3⟩:=ht0.head
  have hlen:=hw.txt t (qbQ q1)
  rw[q3] at hlen
  simp only[h00,cond_true,qeI ht0,Option.bind_some,beq_self_eq_true,qdM hw ht0 (show(1:Int)≠0 by decide),qk7 hlen hN4,quq,happ]
  rw[qom hf (.inl h1),← qop hf h1];rfl
 by_cases h10:x.Kind=10
 ·have htk:tkP x=[(4,[35])]:=by rw[qhj,h10];rfl
  rw[htk] at ht ⊢
  have ht0:Toks l j ((4,[35])::rest):=ht
  have hc:c=true:=by
   rw[qhV,h10] at hok
   simp only[Bool.and_eq_true] at hok
   simpa using hok.2.1
  simp only[h00,cond_true,qeI ht0,Option.bind_some,beq_self_eq_true,show((4:Int)==1)=false from rfl,cond_false,hc,Bool.not_true,qdM hw ht0 (show(4:Int)≠0 by decide),happ]
  rw[qom hf (.inr h10),← qny hf h10];rfl
 by_cases h11:x.Kind=11
 ·obtain⟨hnm,hx⟩:=qoj hf h11
  have h2:=qhI hok (by rw[h11];rfl)
  cases hp0:((x.Parts.length:Int)==0) with
  | true=>
   have htk:tkP x=[(7,x.Name)]:=by rw[qhj,h11,hp0];rfl
   rw[htk] at ht ⊢
   have ht0:Toks l j ((7,x.Name)::rest):=ht
   have hp:=len0 hp0
   have hx2:Part.mk 11 [] x.Name [] [] []=x:=by rw[hp] at hx;exact hx.symm
   simp only[h00,cond_true,qeI ht0,Option.bind_some,show((7:Int)==1)=false from rfl,show((7:Int)==4)=false from rfl,beq_self_eq_true,cond_false]
   rw[wN (by omega) (by omega),qg3,qn2 (by omega)]
   simp only[Option.bind_some,qdM hw ht0 (show(7:Int)≠0 by decide),happ]
   have hca:x.Cases=[]:=by rw[← hx2]
   rw[hx2,qoA h11 hca,hp,argL];rfl
  | false=>
   have htk:tkP x=[(5,x.Name)]++tkL x.Parts++[(6,x.Name)]:=by rw[qhj,h11,hp0];rfl
   have ht0:Toks l j ((5,x.Name)::(tkL x.Parts++(6,x.Name)::rest)):=by rw[htk] at ht;simpa using ht
   have hp:x.Parts≠[]:=by intro e;rw[e] at hp0;cases hp0
   have hrec:=hE x d c j ns a rest hok h11 hp hN hb ht hn
   simp only[h00,cond_true,qeI ht0,Option.bind_some,show((5:Int)==1)=false from rfl,show((5:Int)==4)=false from rfl,show((5:Int)==7)=false from rfl,beq_self_eq_true,cond_false]
   rw[wN (by omega) (by omega),show(d:Int)+1=((d+1:Nat):Int) by omega,hrec]
   simp only[Option.bind_some,happ]
 ·obtain⟨r,hr⟩:∃ r,tkP x=(2,[123])::r:=by
   rw[qhj,beq_eq_false_iff_ne.2 h1,beq_eq_false_iff_ne.2 h10,beq_eq_false_iff_ne.2 h11]
   simp only[cond_false]
   cases(x.Kind==2) with
   | true=>exact⟨_,rfl⟩
   | false=>simp only[cond_false,List.append_assoc,List.singleton_append];exact⟨_,rfl⟩
  have ht0:Toks l j ((2,[123])::(r++rest)):=by rw[hr] at ht;exact ht
  have hrec:=hA x d c j ns a rest hok h1 h10 h11 hd hN hb ht hn
  simp only[h00,cond_true,qeI ht0,Option.bind_some,show((2:Int)==1)=false from rfl,show((2:Int)==4)=false from rfl,show((2:Int)==7)=false from rfl,show((2:Int)==5)=false from rfl,beq_self_eq_true,cond_false,hrec,happ]
theorem qrY(hw:WT l)(hE:DoE s l N)(hA:DoA s l N){d:Nat}{c:Bool}(hd:d≤8){rest:List (Int×Str)}{a:Int}(hs:qtr rest):∀ (ps:List Part) (pt:Bool) (n:Nat) (out:List Part) (j:Nat) (ns:List Str),okL pt ps d c=true→out.length+ps.length≤1000000→ps.length<n→blkPs ps+2003095≤N→blkPs ps≤1000000→Toks l j (tkL ps++rest)→((argL ps).foldl addS ns).length≤20 →
  iter (λst=>qbo (qam N) (qav N) (qat N) (qay N) N (d:Int) c st.1 st.2) n (out,PS s l ⟨j,ns,a,0⟩)=some (.inr (out++ps,PS s l ⟨j+(tkL ps).length,(argL ps).foldl addS ns,a,0⟩)):=by
 intro ps
 induction ps with
 | nil=>
  intro pt n out j ns hok ho hn hN hb ht hns
  obtain⟨n,rfl⟩:∃ m,n=m+1:=⟨n-1,by simp at hn;omega⟩
  have ht':Toks l j rest:=by simpa [tkL] using ht
  have hk:qbW l ⟨j,ns,a,0⟩=0∨qbW l ⟨j,ns,a,0⟩=3∨qbW l ⟨j,ns,a,0⟩=6:=by
   rcases hs with rfl | ⟨w,r,rfl⟩ | ⟨w,r,rfl⟩
   ·exact .inl (qsP ht')
   ·exact .inr (.inl (qhG ht'))
   ·exact .inr (.inr (qhG ht'))
  have e:qbo (qam N) (qav N) (qat N) (qay N) N (d:Int) c out (PS s l ⟨j,ns,a,0⟩)=some (.inr (.inr (out,PS s l ⟨j,ns,a,0⟩))):=by
   unfold qbo
   simp only[show((0:Int)==0)=true from rfl,cond_true,qdB,Option.bind_some]
   rcases hk with h | h | h <;> rw[h] <;> rfl
  rw[iter]
  simp only[e]
  simp[tkL,argL]
 | cons x r ih=>
  intro pt n out j ns hok ho hn hN hb ht hns
  obtain⟨n,rfl⟩:∃ m,n=m+1:=⟨n-1,by simp at hn;omega⟩
  rw[okL] at hok
  simp only[Bool.and_eq_true] at hok
  rw[blkPs] at hN hb
  simp only[List.length_cons] at ho hn
  rw[tkL,List.append_assoc] at ht
  rw[argL,List.foldl_append] at hns ⊢
  have hns1:=Nat.le_trans (qgR _ _) hns
  rw[iter]
  simp only[qq4 hw hE hA hok.1.1 ht hd (show out.length≤1000000 by omega) (by omega) (by omega) hns1]
  rw[ih (isT x) n (out++[x]) _ _ hok.2 (by simp;omega) (by omega) (by omega) (by omega) ht.app hns]
  rw[tkL,List.length_append]
  simp[Nat.add_assoc]
theorem do_M(hw:WT l)(hE:DoE s l N)(hA:DoA s l N):DoM s l (N+1):=by
 intro ps d c pt j ns a rest hok hd hN hb ht hs hn
 show qca (qam N) (qav N) (qat N) (qay N) N (d:Int) c (PS s l ⟨j,ns,a,0⟩)=_
 unfold qca
 have hcl:=qg6 ps
 have hloop:=qrY hw hE hA (c:=c) (a:=a) hd hs ps pt N [] j ns hok (by simp;omega) (by omega) (by omega) hb ht hn
 rw[List.nil_append] at hloop
 rw[hloop];rfl
theorem qve(hw:WT l):∀ N,DoM s l N∧DoE s l N∧DoA s l N∧DoC s l N:=by
 intro N
 induction N with
 | zero=>exact⟨λ_ _ _ _ _ _ _ _ _ _ h=>by omega,λ_ _ _ _ _ _ _ _ _ _ h=>by omega,λ_ _ _ _ _ _ _ _ _ _ _ _ h=>by omega,λ_ _ _ _ _ _ _ _ _ _ _ _ _ _ h=>by omega⟩
 | succ N ih=>exact⟨do_M hw ih.2.1 ih.2.2.1,do_E hw ih.1,do_A hw ih.2.2.2,do_C hw ih.1⟩
end
theorem qpF:∀ {l:List Nat} {x:Nat},x∈l→x≤l.sum
 | y::r,x,h=>by
  rw[List.sum_cons]
  rcases List.mem_cons.1 h with rfl | h
  ·omega
  ·have:=qpF h;omega
theorem qpJ{N:Nat}{ps:List Part}(hv:vldM ps=true)(hN:blkPs ps+2003110≤N)(hb:blkPs ps≤1000000):qbN N (prL ps)=some (ps,Position.mk 0 0 0,0):=by
 have hv':=hv
 unfold vldM nms at hv'
 simp only[Bool.and_eq_true,decide_eq_true_eq] at hv'
 obtain⟨hok,hn,htl⟩:=hv'
 have hlen:=prL_len ps 0 false false hok
 obtain⟨tl,h1,h2,h3⟩:=qoH (N:=N) hok (by omega) (by omega)
 have hw:WT tl:=by
  refine⟨by omega,λt ht=>?_⟩
  obtain⟨r,e1,e2⟩:=qmq (N:=N) (s:=prL ps) (by omega) (by omega)
  rw[h1] at e1
  cases e1
  rcases e2 with e2 | e2
  ·cases e2
  ·have h4:(tl.map (·.Text.length)).sum≤(prL ps).length:=e2.2.2.2
   have hm:t.Text.length∈tl.map (·.Text.length):=List.mem_map.2 ⟨t,ht,rfl⟩
   have:=qpF hm
   omega
 have hm:=(qve (s:=prL ps) hw N).1 ps 0 false false 0 [] 0 [] hok (by omega) (by omega) hb (by unfold Toks;rw[List.drop_zero,h2,List.append_nil]) (.inl rfl) hn
 have hend:(tkL ps).length=tl.length:=by rw[← h2,List.length_map]
 rw[Nat.zero_add,hend] at hm
 unfold qbN qgt
 rw[h1]
 have hm':qam N 0 false (Parser.mk (prL ps) tl 0 ([]:List (Str×Bool)) 0 0)=some (ps,PS (prL ps) tl ⟨tl.length,(argL ps).foldl addS [],0,0⟩):=hm
 simp only[Option.bind_some,show((0:Int)==6)=false from rfl,cond_false,show((0:Int)==0)=true from rfl,cond_true,hm',dn,show((0:Int)!=0)=false from rfl]
 rw[qjO N ps (by omega) (by omega)]
 simp only[Option.bind_some]
 rw[decide_eq_false (by omega)];rfl
end Go.Proofs.YtkhjeeakflefjaaGreatDoor
namespace Go.Proofs.YtkhjeeakflefjaaGreatDoor
open Go.X
def phi(l:List Token)(σ:St):Nat:=bif σ.e==0 then l.length-σ.j+1 else 0
structure TW (l:List Token) (σ:St):Prop where
 j:σ.j≤l.length
 ns:σ.ns.length+phi l σ≤5000
structure Adv (l:List Token) (σ σ':St) (k:Nat):Prop where
 tw:TW l σ'
 le:phi l σ'≤phi l σ-k
section
variable {s:Str} {l:List Token} {σ σ' σ2:St}
theorem TW.ws(h:TW l σ):WS l σ:=⟨h.j,by have:=h.ns;omega⟩
theorem Adv.refl(h:TW l σ):Adv l σ σ 0:=⟨h,Nat.le_refl _⟩
theorem qlE{q:Int}(hq:q≠0):phi l (qgm s l q σ)=0:=by
 unfold qgm phi
 cases h:(σ.e==0) with
 | true=>simp only[cond_true];rw[beq_eq_false_iff_ne.2 hq];rfl
 | false=>simp only[cond_false,h]
theorem qqd(q:Int):(qgm s l q σ).j=σ.j:=by unfold qgm;cases(σ.e==0) <;> rfl
theorem qeS{q:Int}(hq:q≠0)(h:TW l σ)(k:Nat):Adv l σ (qgm s l q σ) k:=by
 refine⟨⟨by rw[qqd];exact h.j,?_⟩,?_⟩
 ·rw[qlE hq,qmM];have:=h.ns;omega
 ·rw[qlE hq];exact Nat.zero_le _
theorem qo9{k:Int}(h:TW l σ)(hk:qbW l σ=k)(h0:k≠0):Adv l σ (qlY σ) 1:=by
 obtain⟨t,h1,h2,h3,_⟩:=qeW hk h0
 have:=qdK h1
 have hp:phi l (qlY σ)=phi l σ-1∧1≤phi l σ:=by
  unfold phi qlY
  simp only[h3]
  simp
  omega
 have:=h.ns
 exact⟨⟨by show σ.j+1≤_;omega,by show σ.ns.length+_≤_;omega⟩,by omega⟩
theorem qcW{k:Int}(h0:k≠0)(h:TW l σ):Adv l σ (qdp s l k σ).2 1:=by
 unfold qdp
 cases hk:(qbW l σ==k) with
 | true=>exact qo9 h (beq_iff_eq.1 hk) h0
 | false=>exact qeS (by decide) h 1
theorem qgZ{f:Str→Bool}(h:TW l σ):Adv l σ (qbV s l f σ).2 1:=by
 unfold qbV
 cases hk:(qbW l σ==9&&f (txtT l σ)) with
 | true=>
  rw[Bool.and_eq_true] at hk
  exact qo9 h (beq_iff_eq.1 hk.1) (by decide)
 | false=>exact qeS (by decide) h 1
theorem qtm(h:TW l σ):Adv l σ (qeN s l σ) 0:=by
 unfold qeN
 cases(qbW l σ==9&&(nam (txtT l σ)&&(!σ.ns.contains (txtT l σ)&&decide (20≤σ.ns.length)))) with
 | true=>exact qeS (by decide) h 0
 | false=>exact .refl h
theorem qi3{d:Int}(h:TW l σ):Adv l σ (qhL s l d σ) 0∧(d≤8∨phi l (qhL s l d σ)=0):=by
 unfold qhL
 by_cases hd:d>8
 ·rw[decide_eq_true hd]
  exact⟨qeS (by decide) h 0,.inr (qlE (by decide))⟩
 ·rw[decide_eq_false hd]
  exact⟨.refl h,.inl (by omega)⟩
theorem Adv.trans{k1 k2:Nat}(h1:Adv l σ σ' k1)(h2:Adv l σ' σ2 k2):Adv l σ σ2 (k1+k2):=⟨h2.tw,by have:=h1.le;have:=h2.le;omega⟩
theorem Adv.weak{k1 k2:Nat}(h:Adv l σ σ' k1)(hk:k2≤k1):Adv l σ σ' k2:=⟨h.tw,by have:=h.le;omega⟩
theorem qrQ{f:Str→Bool}(h:TW l σ)(hne:(qbV s l f σ).1≠[]):phi l (qbV s l f σ).2+1≤phi l σ:=by
 unfold qbV at hne ⊢
 cases hk:(qbW l σ==9&&f (txtT l σ)) with
 | true=>
  rw[Bool.and_eq_true] at hk
  obtain⟨t,h1,h2,h3,_⟩:=qeW (beq_iff_eq.1 hk.1) (by decide)
  have:=qdK h1
  simp only[cond_true]
  unfold phi qlY
  simp only[h3]
  simp
  omega
 | false=>rw[hk] at hne;exact absurd rfl hne
theorem qs9(h:TW l σ):Adv l σ (qhO s l σ).2 1:=by
 have h1:=qtm (s:=s) h
 have h2:=qgZ (s:=s) (f:=nam) h1.tw
 have h12:=h1.trans h2
 unfold qhO
 simp only
 have hph:phi l (addT (qbV s l nam (qeN s l σ)).1 (qbV s l nam (qeN s l σ)).2)=phi l (qbV s l nam (qeN s l σ)).2:=rfl
 refine⟨⟨h2.tw.j,?_⟩,?_⟩
 ·rw[hph]
  unfold addT
  simp only
  cases hw:((qbV s l nam (qeN s l σ)).1 != ([]:Str)) with
  | false=>exact h2.tw.ns
  | true=>
   have hne:(qbV s l nam (qeN s l σ)).1≠[]:=by intro e;rw[e] at hw;cases hw
   have h3:=qrQ h1.tw hne
   have h4:=h1.tw.ns
   have h5:=qjb (M:=(qbV s l nam (qeN s l σ)).2.ns) (n:=(qbV s l nam (qeN s l σ)).1)
   rw[qmv] at h5
   simp only[cond_true]
   rw[qmv]
   omega
 ·rw[hph]
  have:=h12.le
  omega
structure WW (l:List Token) (W:Nat):Prop where
 len:l.length≤4000
 big:W≤4000
 txt:∀ t∈l,t.Text.length≤W
theorem WW.wt{W:Nat}(h:WW l W):WT l:=⟨h.len,λt ht=>by have:=h.txt t ht;have:=h.big;omega⟩
theorem qqq{W:Nat}(h:WW l W):(txtT l σ).length≤W:=by
 unfold txtT
 split
 ·rename_i t ht;exact h.txt t (qbQ ht)
 ·exact Nat.zero_le _
theorem qmK{W:Nat}(h:WW l W){k:Int}:(qdp s l k σ).1.length≤W:=by
 unfold qdp
 cases(qbW l σ==k) with
 | true=>exact qqq h
 | false=>exact Nat.zero_le _
theorem qiQ{W:Nat}(h:WW l W){f:Str→Bool}:(qbV s l f σ).1.length≤W:=by
 unfold qbV
 cases(qbW l σ==9&&f (txtT l σ)) with
 | true=>exact qqq h
 | false=>exact Nat.zero_le _
theorem qsQ{W:Nat}(h:WW l W):(qhO s l σ).1.length≤W:=qiQ h
theorem qtC{h:TW l σ}(he:σ.e=0):1≤phi l σ:=by unfold phi;rw[he];simp
theorem qs6{k:Int}(h:qbW l σ=k)(h0:k≠0):1≤phi l σ:=by
 obtain⟨t,_,_,h3,_⟩:=qeW h h0
 unfold phi;rw[h3];simp
end
def KW(W:Nat):Nat:=3*W+10
def TM(s:Str)(l:List Token)(W N:Nat):Prop:=∀ (d:Int) (c:Bool) (σ:St),TW l σ→0≤d→d≤9→(d≤8∨phi l σ=0)→4*phi l σ+2003100≤N →
 ∃ ps σ',qam N d c (PS s l σ)=some (ps,PS s l σ')∧Adv l σ σ' 0∧blkPs ps+KW W*phi l σ'≤KW W*phi l σ
def TE(s:Str)(l:List Token)(W N:Nat):Prop:=∀ (d:Int) (c:Bool) (σ:St),TW l σ→0≤d→d≤9→1≤phi l σ→4*phi l σ+2003097≤N →
 ∃ x σ',qav N d c (PS s l σ)=some (x,PS s l σ')∧Adv l σ σ' 1∧Part.blk x+KW W*phi l σ'≤KW W*phi l σ
def TA(s:Str)(l:List Token)(W N:Nat):Prop:=∀ (d:Int) (c:Bool) (σ:St),TW l σ→0≤d→d≤8→1≤phi l σ→4*phi l σ+2003098≤N →
 ∃ x σ',qat N d c (PS s l σ)=some (x,PS s l σ')∧Adv l σ σ' 1∧Part.blk x+KW W*phi l σ'≤KW W*phi l σ
def TC(s:Str)(l:List Token)(W N:Nat):Prop:=∀ (k d:Int) (c:Bool) (σ:St),TW l σ→0≤d→d≤9→(d≤8∨phi l σ=0)→4*phi l σ+2003101≤N →
 ∃ cs σ',qay N k d c (PS s l σ)=some (cs,PS s l σ')∧Adv l σ σ' 0∧blkCs cs+KW W*phi l σ'≤KW W*phi l σ+(3+W)
theorem qi5{K a b:Nat}(h:a≤b-1)(hb:1≤b):K*a+K≤K*b:=by
 have:K*(a+1)≤K*b:=Nat.mul_le_mul_left K (by omega)
 rw[Nat.mul_succ] at this
 exact this
theorem qki{K a b:Nat}(h:a≤b):K*a≤K*b:=Nat.mul_le_mul_left K h
theorem qwf{s:Str}{l:List Token}{W N:Nat}(hw:WW l W)(hM:TM s l W N):TE s l W (N+1):=by
 intro d c σ h hd0 hd hph hN
 show ∃ x σ',qb9 (qam N) (qav N) (qat N) (qay N) N d c (PS s l σ)=_∧_
 unfold qb9
 obtain⟨h1,h1d⟩:=qi3 (s:=s) (d:=d) h
 have h2:=qcW (s:=s) (k:=5) (by decide) h1.tw
 have h2w:=qmK (s:=s) (σ:=qhL s l d σ) (k:=5) hw
 simp only[qg3,Option.bind_some,qcc hw.wt (show(5:Int)≠0 by decide)]
 generalize hσ2:qdp s l 5 (qhL s l d σ)=p2 at h2 h2w ⊢
 have h1l:=h1.le
 have h2l:=h2.le
 obtain⟨ps,σ3,e3,a3,b3⟩:=hM d c p2.2 h2.tw hd0 hd (by rcases h1d with h | h;exact .inl h;right;omega) (by omega)
 simp only[e3,Option.bind_some,qdB,qe0,qcc hw.wt (show(6:Int)≠0 by decide)]
 have hcost:∀ σ4:St,phi l σ4≤phi l σ3→Part.blk (Part.mk 11 [] p2.1 [] [] ps)+KW W*phi l σ4≤KW W*phi l σ:=by
  intro σ4 h4
  rw[qe6]
  simp only[blkCs,List.length_nil]
  have m1:=qki (K:=KW W) h4
  have m2:=qi5 (K:=KW W) (show phi l p2.2≤phi l σ-1 by omega) hph
  have:W+7≤KW W:=by unfold KW;omega
  omega
 have a3l:=a3.le
 have hadv:∀ σ4:St,Adv l σ3 σ4 0→Adv l σ σ4 1:=λσ4 h4=>⟨h4.tw,by have:=h4.le;omega⟩
 by_cases hk:qbW l σ3=6
 ·obtain⟨t,t1,_⟩:=qeW hk (by decide)
  rw[hk]
  simp only[bne,beq_self_eq_true,Bool.not_true,cond_false,ix t1,Option.bind_some]
  cases(t.Text==p2.1) with
  | false=>
   have h4:=(qeS (s:=s) (q:=3) (by decide) a3.tw 0).trans (qcW (s:=s) (k:=6) (by decide) (qeS (s:=s) (q:=3) (by decide) a3.tw 0).tw)
   exact⟨_,_,rfl,hadv _ (h4.weak (by omega)),hcost _ (by have:=h4.le;omega)⟩
  | true=>
   have h4:=qcW (s:=s) (k:=6) (by decide) a3.tw
   exact⟨_,_,rfl,hadv _ (h4.weak (by omega)),hcost _ (by have:=h4.le;omega)⟩
 ·have hkb:(qbW l σ3==6)=false:=beq_eq_false_iff_ne.2 hk
  simp only[bne,hkb,Bool.not_false,cond_true,Option.bind_some]
  have h4:=(qeS (s:=s) (q:=3) (by decide) a3.tw 0).trans (qcW (s:=s) (k:=6) (by decide) (qeS (s:=s) (q:=3) (by decide) a3.tw 0).tw)
  exact⟨_,_,rfl,hadv _ (h4.weak (by omega)),hcost _ (by have:=h4.le;omega)⟩
theorem qf3(k:Int)(t n st:Str):Part.blk (Part.mk k t n st [] [])=t.length+n.length+st.length+7:=by
 rw[qe6];simp[blkCs,blkPs]
theorem qwj{s:Str}{l:List Token}{W N:Nat}(hw:WW l W)(hC:TC s l W N):TA s l W (N+1):=by
 intro d c σ h hd0 hd hph hN
 show ∃ x σ',qb7 (qam N) (qav N) (qat N) (qay N) N d c (PS s l σ)=_∧_
 unfold qb7
 have hN4:4010≤N:=by omega
 have p2:(2:Int)≠0:=by decide
 have p3:(3:Int)≠0:=by decide
 have p8:(8:Int)≠0:=by decide
 have h1:=qcW (s:=s) p2 h
 simp only[qcc hw.wt p2,Option.bind_some]
 generalize (qdp s l 2 σ).2=σ1 at h1 ⊢
 have h2:=qs9 (s:=s) h1.tw
 have hnW:=qsQ (s:=s) (σ:=σ1) hw
 simp only[qnk hw.wt h1.tw.ws hN4,Option.bind_some]
 generalize (qhO s l σ1).1=nm at hnW ⊢
 generalize (qhO s l σ1).2=σ2 at h2 ⊢
 have h12:=h1.trans h2
 have hK:3*W+10=KW W:=rfl
 have fin:∀ (x:Part) (σ':St),Adv l σ2 σ' 0→Part.blk x≤3*W+10→Adv l σ σ' 1∧Part.blk x+KW W*phi l σ'≤KW W*phi l σ:=by
  intro x σ' ha hx
  have hal:=ha.le
  have h12l:=h12.le
  have m:=qi5 (K:=KW W) (show phi l σ'≤phi l σ-1 by omega) hph
  exact⟨⟨ha.tw,by omega⟩,by omega⟩
 rw[qdB,Option.bind_some]
 cases hk3:(qbW l σ2==3) with
 | true=>
  simp only[cond_true,qcc hw.wt p3,Option.bind_some]
  have ⟨f1,f2⟩:=fin (Part.mk 2 [] nm [] [] []) _ ((qcW (s:=s) p3 h2.tw).weak (by omega)) (by rw[qf3];simp;omega)
  exact⟨_,_,rfl,f1,f2⟩
 | false=>
  simp only[cond_false,qcc hw.wt p8,Option.bind_some]
  have h3:=(qcW (s:=s) p8 h2.tw).weak (k2:=0) (by omega)
  generalize (qdp s l 8 σ2).2=σ3 at h3 ⊢
  have hb9:((qaJ N (PS s l σ3)).bind λr80=>bif (r80==9) then (idx (PS s l σ3).l (PS s l σ3).next).bind λx84=>(qbS N ((mget qgE x84.Text).getD 0)).bind λr102=>some r102 else some false)=some (qbW l σ3==9&&sel ((mget qgE (txtT l σ3)).getD 0)):=by
   rw[qdB,Option.bind_some]
   cases hk:(qbW l σ3==9) with
   | false=>rfl
   | true=>
    obtain⟨t,t1,_,_,t4⟩:=qeW (beq_iff_eq.1 hk) (by decide)
    simp only[cond_true,ix t1,Option.bind_some,qgx,t4,Bool.true_and]
  simp only[hb9,Option.bind_some]
  obtain⟨σ4,hσ4,h4,h47⟩:∃ σ4,(bif (qbW l σ3==9&&sel ((mget qgE (txtT l σ3)).getD 0)) then (qcG N (IntKind.wrap .i64 (d+1)) (PS s l σ3)).bind λr134=>some r134 else some (PS s l σ3))=some (PS s l σ4)∧Adv l σ3 σ4 0∧((qbV s l qgS σ4).2.e=0→sel ((mget qgE (qbV s l qgS σ4).1).getD 0)=true→d≤7):=by
   cases hb:(qbW l σ3==9&&sel ((mget qgE (txtT l σ3)).getD 0)) with
   | false=>
    refine⟨_,rfl,.refl h3.tw,?_⟩
    unfold qbV
    cases hk:(qbW l σ3==9) with
    | false=>
     simp only[Bool.false_and,cond_false]
     intro _ e;cases e
    | true=>
     rw[hk,Bool.true_and] at hb
     cases qgS (txtT l σ3) with
     | false=>intro _ e;cases e
     | true=>
      simp only[Bool.and_self,cond_true]
      intro _ e;rw[hb] at e;cases e
   | true=>
    simp only[cond_true,qg3,Option.bind_some]
    rw[wN (by omega) (by omega)]
    refine⟨_,rfl,(qi3 h3.tw).1,?_⟩
    intro he _
    rcases (qi3 (s:=s) (d:=d+1) h3.tw).2 with h | h
    ·omega
    ·exfalso
     have h5:=(qgZ (s:=s) (f:=qgS) (qi3 (s:=s) (d:=d+1) h3.tw).1.tw)
     have h5l:=h5.le
     have:=qtC (h:=h5.tw) he
     omega
  simp only[hσ4,Option.bind_some,qog hw.wt]
  have h5:=qgZ (s:=s) (f:=qgS) h4.tw
  have h25:=((h3.trans h4).trans h5).weak (k2:=0) (by omega)
  generalize (mget qgE (qbV s l qgS σ4).1).getD 0=K at h47 ⊢
  generalize (qbV s l qgS σ4).2=σ5 at h5 h25 h47 ⊢
  by_cases he:σ5.e=0
  ·simp only[he,show((0:Int)!=0)=false from rfl,cond_false]
   cases hKk3:(K==3) with
   | true=>
    simp only[cond_true,qdB,Option.bind_some]
    cases hk8:(qbW l σ5==8) with
    | true=>
     simp only[cond_true,qcc hw.wt p8,qol hw.wt,qcc hw.wt p3,Option.bind_some]
     have h6:=qcW (s:=s) p8 h25.tw
     have h7:=qgZ (s:=s) (f:=qjC) h6.tw
     have h8:=qcW (s:=s) p3 h7.tw
     have hsW:=qiQ (s:=s) (f:=qjC) (σ:=(qdp s l 8 σ5).2) hw
     have ⟨f1,f2⟩:=fin (Part.mk K [] nm (qbV s l qjC (qdp s l 8 σ5).2).1 [] []) _ ((((h25.trans h6).trans h7).trans h8).weak (by omega)) (by rw[qf3];simp;omega)
     exact⟨_,_,rfl,f1,f2⟩
    | false=>
     simp only[cond_false,qcc hw.wt p3,Option.bind_some]
     have h8:=qcW (s:=s) p3 h25.tw
     have ⟨f1,f2⟩:=fin (Part.mk K [] nm [] [] []) _ ((h25.trans h8).weak (by omega)) (by rw[qf3];simp;omega)
     exact⟨_,_,rfl,f1,f2⟩
   | false=>
    simp only[cond_false,qgx,Option.bind_some,qcc hw.wt p8]
    have h6:=qcW (s:=s) p8 h25.tw
    have h26:=(h25.trans h6).weak (k2:=0) (by omega)
    cases hsl:sel K with
    | true=>
     simp only[cond_true]
     rw[wN (by omega) (by omega)]
     have h12l:=h12.le
     have h6l:=h6.le
     have h25l:=h25.le
     have hd7:=h47 he hsl
     obtain⟨cs,σ7,e7,a7,b7⟩:=hC K (d+1) c _ h6.tw (by omega) (by omega) (.inl (by omega)) (by omega)
     simp only[e7,Option.bind_some,qcc hw.wt p3]
     have h8:=qcW (s:=s) p3 a7.tw
     have h8l:=h8.le
     have a7l:=a7.le
     have m1:=qki (K:=KW W) (show phi l (qdp s l 3 σ7).2≤phi l σ7 by omega)
     have m2:=qi5 (K:=KW W) (show phi l (qdp s l 8 σ5).2≤phi l σ-1 by omega) hph
     refine⟨_,_,rfl,⟨h8.tw,by omega⟩,?_⟩
     rw[qe6]
     simp only[blkPs,List.length_nil]
     omega
    | false=>
     simp only[cond_false]
     cases(K==5) with
     | true=>
      simp only[cond_true,qni hw.wt hN4,qcc hw.wt p3,Option.bind_some]
      have h7:=qgZ (s:=s) (f:=skel) h6.tw
      have h8:=qcW (s:=s) p3 h7.tw
      have hsW:=qiQ (s:=s) (f:=skel) (σ:=(qdp s l 8 σ5).2) hw
      have ⟨f1,f2⟩:=fin (Part.mk K [] nm (qbV s l skel (qdp s l 8 σ5).2).1 [] []) _ (((h26.trans h7).trans h8).weak (by omega)) (by rw[qf3];simp;omega)
      exact⟨_,_,rfl,f1,f2⟩
     | false=>
      simp only[cond_false,qkJ hw.wt hN4,qcc hw.wt p3,Option.bind_some]
      have h7:=qgZ (s:=s) (f:=nam) h6.tw
      have h8:=qcW (s:=s) p3 h7.tw
      have hsW:=qiQ (s:=s) (f:=nam) (σ:=(qdp s l 8 σ5).2) hw
      have ⟨f1,f2⟩:=fin (Part.mk K [] nm (qbV s l nam (qdp s l 8 σ5).2).1 [] []) _ (((h26.trans h7).trans h8).weak (by omega)) (by rw[qf3];simp;omega)
      exact⟨_,_,rfl,f1,f2⟩
  ·have heb:(σ5.e != 0)=true:=by simpa [bne] using he
   simp only[heb,cond_true,qcc hw.wt p3,Option.bind_some]
   have h8:=qcW (s:=s) p3 h25.tw
   have ⟨f1,f2⟩:=fin (Part.mk K [] nm [] [] []) _ ((h25.trans h8).weak (by omega)) (by rw[qf3];simp;omega)
   exact⟨_,_,rfl,f1,f2⟩
end Go.Proofs.YtkhjeeakflefjaaGreatDoor
namespace Go.Proofs.YtkhjeeakflefjaaGreatDoor
open Go.X
section
variable {s:Str} {l:List Token} {W N:Nat}
theorem qon(hw:WW l W)(hM:TM s l W N){k d:Int}{c first:Bool}{out:List (CaseP Part)}{ks:List Str}{σ:St}(h:TW l σ)(hd0:0≤d)(hd:d≤9)(hph:d≤8∨phi l σ=0)(hN:4*phi l σ+2003100≤N)(ho:out.length≤10000)(hks:ks.length≤10000)(hf:first=true∨qbW l σ=9) :
  ∃ y σ' ky,qa6 (qam N) (qav N) (qat N) (qay N) N k d c out first (PS s l σ) (tt ks)=some (.inl (out++[y],false,PS s l σ',tt (addS ks ky)))∧Adv l σ σ' 1∧blkC y+KW W*phi l σ'≤KW W*(phi l σ-1)+(3+W):=by
 have p2:(2:Int)≠0:=by decide
 have p3:(3:Int)≠0:=by decide
 have hN2:2003000≤N:=by omega
 have happ:∀ y:CaseP Part,app out [y]=some (out++[y]):=λy=>appS (by simp;omega)
 -- the checks ahead
 have hpre:∃ σ1,(((qaJ N (PS s l σ)).bind λr79=>
   bif (r79==9) then
    (idx (PS s l σ).l (PS s l σ).next).bind λx83=>
    (qeu N k x83.Text).bind λr96=>
    some r96
   else
    some false).bind λo78=>
   (bif o78 then
    (bif (decide ((out.length:Int)≥20)) then
      (qaI N 6 (PS s l σ)).bind λr135=>
      some r135
     else
      some (PS s l σ)).bind λo123=>
    (idx o123.l o123.next).bind λx157=>
    bif ((mget (tt ks) x157.Text).getD false) then
     (qaI N 9 o123).bind λr175=>
     some r175
    else
     some o123
   else
    some (PS s l σ)))=some (PS s l σ1)∧Adv l σ σ1 0:=by
  rw[qdB,Option.bind_some]
  cases hk:(qbW l σ==9) with
  | false=>exact⟨_,rfl,.refl h⟩
  | true=>
   obtain⟨t,t1,_,_,t4⟩:=qeW (beq_iff_eq.1 hk) (by decide)
   have htl:=hw.txt t (qbQ t1)
   have hbig:=hw.big
   simp only[cond_true,ix t1,Option.bind_some]
   rw[qja (by omega) hN2]
   simp only[Option.bind_some]
   cases key k t.Text with
   | false=>exact⟨_,rfl,.refl h⟩
   | true=>
    simp only[cond_true,qe0,Option.bind_some]
    obtain⟨σ0,e0,j0,a0⟩:∃ σ0,(bif (decide ((out.length:Int)≥20)) then some (PS s l (qgm s l 6 σ)) else some (PS s l σ))=some (PS s l σ0)∧σ0.j=σ.j∧Adv l σ σ0 0:=by
     cases decide ((out.length:Int)≥20) with
     | true=>exact⟨_,rfl,qqd 6,qeS (by decide) h 0⟩
     | false=>exact⟨_,rfl,rfl,.refl h⟩
    rw[e0,Option.bind_some]
    have e1:idx (PS s l σ0).l (PS s l σ0).next=some t:=by
     show idx l (σ0.j:Int)=_
     rw[j0];exact ix t1
    simp only[e1,Option.bind_some]
    cases(mget (tt ks) t.Text).getD false with
    | false=>exact⟨_,rfl,a0⟩
    | true=>
     simp only[cond_true,qe0,Option.bind_some]
     exact⟨_,rfl,(a0.trans (qeS (by decide) a0.tw 0)).weak (by omega)⟩
 obtain⟨σ1,e1,a1⟩:=hpre
 have h2:=qgZ (s:=s) (f:=key k) a1.tw
 have hkW:=qiQ (s:=s) (f:=key k) (σ:=σ1) hw
 have e2:qcb N (PS s l σ1) k=some ((qbV s l (key k) σ1).1,PS s l (qbV s l (key k) σ1).2):=qof hw.wt hN2 k
 have e2s:∀ z:Str,mset (tt ks) z true=some (tt (addS ks z)):=λz=>qpI (by omega)
 generalize hp2:qbV s l (key k) σ1=q2 at h2 hkW e2
 have h3:=qcW (s:=s) p2 h2.tw
 have e3:qar N 2 (PS s l q2.2)=some ((qdp s l 2 q2.2).1,PS s l (qdp s l 2 q2.2).2):=qcc hw.wt p2
 generalize hp3:qdp s l 2 q2.2=q3 at h3 e3
 have a1l:=a1.le
 have h2l:=h2.le
 have h3l:=h3.le
 have hrec:∀ c',∃ ps σ4,qam N d c' (PS s l q3.2)=some (ps,PS s l σ4)∧Adv l q3.2 σ4 0∧blkPs ps+KW W*phi l σ4≤KW W*phi l q3.2:=by
  intro c'
  exact hM d c' q3.2 h3.tw hd0 hd (by rcases hph with h | h;exact .inl h;right;omega) (by omega)
 have hcost:∀ (ps:List Part) (σ4:St),Adv l q3.2 σ4 0→blkPs ps+KW W*phi l σ4≤KW W*phi l q3.2→Adv l σ (qdp s l 3 σ4).2 1∧blkC (Case.mk q2.1 ps)+KW W*phi l (qdp s l 3 σ4).2≤KW W*(phi l σ-1)+(3+W):=by
  intro ps σ4 a4 b4
  have h5:=qcW (s:=s) p3 a4.tw
  have a4l:=a4.le
  have h5l:=h5.le
  have m1:=qki (K:=KW W) (show phi l (qdp s l 3 σ4).2≤phi l σ4 by omega)
  have m2:=qki (K:=KW W) (show phi l q3.2≤phi l σ-1 by omega)
  refine⟨⟨h5.tw,by omega⟩,?_⟩
  rw[qfU]
  show q2.1.length+blkPs ps+3+_≤_
  omega
 have hround:∀ c',∃ ps σ',((qam N d c' (PS s l q3.2)).bind λr229=>
   (qar N 3 r229.2).bind λr243=>
   (app out ([(Case.mk q2.1 r229.1)]:List (Case))).bind λl259=>
   some (Sum.inl (β:=Parser×List Case×List (Str×Bool)) (l259,false,r243.2,tt (addS ks q2.1))))=some (.inl (out++[Case.mk q2.1 ps],false,PS s l σ',tt (addS ks q2.1)))∧Adv l σ σ' 1∧blkC (Case.mk q2.1 ps)+KW W*phi l σ'≤KW W*(phi l σ-1)+(3+W):=by
  intro c'
  obtain⟨ps,σ4,e4,a4,b4⟩:=hrec c'
  have ⟨f1,f2⟩:=hcost ps σ4 a4 b4
  refine⟨ps,(qdp s l 3 σ4).2,?_,f1,f2⟩
  rw[e4]
  simp only[Option.bind_some,qcc hw.wt p3,happ]
 have bindA:∀ {α β γ:Type} (o:Option α) (F:α→Option β) (G:β→Option γ),(o.bind λx=>(F x).bind G)=(o.bind F).bind G:=λo F G=>by cases o <;> rfl
 have hall:∃ ps σ',((qcb N (PS s l σ1) k).bind λr197=>
  (mset (tt ks) r197.1 true).bind λl211=>
  (qar N 2 r197.2).bind λr215=>
  bif c then
   (qam N d true r215.2).bind λr229=>
   (qar N 3 r229.2).bind λr243=>
   (app out ([(Case.mk r197.1 r229.1)]:List (Case))).bind λl259=>
   some (Sum.inl (β:=Parser×List Case×List (Str×Bool)) (l259,false,r243.2,l211))
  else
   (qam N d (k != 9) r215.2).bind λr264=>
   (qar N 3 r264.2).bind λr278=>
   (app out ([(Case.mk r197.1 r264.1)]:List (Case))).bind λl294=>
   some (Sum.inl (l294,false,r278.2,l211)))=some (.inl (out++[Case.mk q2.1 ps],false,PS s l σ',tt (addS ks q2.1)))∧Adv l σ σ' 1∧blkC (Case.mk q2.1 ps)+KW W*phi l σ'≤KW W*(phi l σ-1)+(3+W):=by
  simp only[e2,Option.bind_some,e2s,e3]
  cases c with
  | true=>exact hround true
  | false=>exact hround (k != 9)
 obtain⟨ps,σ',e9,f1,f2⟩:=hall
 refine⟨Case.mk q2.1 ps,σ',q2.1,?_,f1,f2⟩
 unfold qa6
 cases first with
 | true=>
  simp only[cond_true]
  refine(bindA _ _ _).trans ?_
  refine(congrArg (λz=>Option.bind z _) e1).trans ?_
  exact e9
 | false=>
  have hk9:qbW l σ=9:=by
   rcases hf with h | h
   ·cases h
   ·exact h
  have ek:qaJ N (PS s l σ)=some 9:=by rw[qdB,hk9]
  simp only[cond_false]
  refine(congrArg (λz=>Option.bind z _) ek).trans ?_
  simp only[Option.bind_some,beq_self_eq_true,cond_true]
  refine(bindA _ _ _).trans ?_
  refine(congrArg (λz=>Option.bind z _) e1).trans ?_
  exact e9
theorem qs8(hw:WW l W)(hM:TM s l W N){k d:Int}{c:Bool}(hd0:0≤d)(hd:d≤9):∀ (n:Nat) (out:List (CaseP Part)) (ks:List Str) (σ:St),TW l σ→(d≤8∨phi l σ=0)→4*phi l σ+2003100≤N→phi l σ<n→out.length+phi l σ≤10000→ks.length+phi l σ≤10000 →
  ∃ cs σ' ks',iter (λst=>qa6 (qam N) (qav N) (qat N) (qay N) N k d c st.1 st.2.1 st.2.2.1 st.2.2.2) n (out,false,PS s l σ,tt ks)=some (PS s l σ',cs,tt ks')∧Adv l σ σ' 0∧blkCs cs+KW W*phi l σ'≤blkCs out+KW W*phi l σ:=by
 intro n
 induction n with
 | zero=>intro out ks σ h h1 h2 h3;omega
 | succ n ih=>
  intro out ks σ h hph hN hn ho hks
  rw[iter]
  by_cases hk:qbW l σ=9
  ·have h1:=qs6 hk (by decide)
   obtain⟨y,σ1,ky,e1,a1,b1⟩:=qon hw hM (k:=k) (c:=c) (first:=false) (out:=out) (ks:=ks) h hd0 hd hph hN (by omega) (by omega) (.inr hk)
   have a1l:=a1.le
   have hks1:=qjb (M:=ks) (n:=ky)
   simp only[e1]
   obtain⟨cs,σ',ks',e2,a2,b2⟩:=ih (out++[y]) (addS ks ky) σ1 a1.tw (by rcases hph with h | h;exact .inl h;right;omega) (by omega) (by omega) (by simp;omega) (by omega)
   have a2l:=a2.le
   refine⟨cs,σ',ks',e2,⟨a2.tw,by omega⟩,?_⟩
   have m:=qi5 (K:=KW W) (Nat.le_refl (phi l σ-1)) h1
   have hbo:blkCs (out++[y])=blkCs out+blkC y:=by rw[qfz,qfz,List.map_append,List.sum_append];simp
   have:3+W≤KW W:=by unfold KW;omega
   omega
  ·have e:qa6 (qam N) (qav N) (qat N) (qay N) N k d c out false (PS s l σ) (tt ks)=some (.inr (PS s l σ,out,tt ks)):=by
    unfold qa6
    simp only[cond_false,qdB,Option.bind_some,beq_eq_false_iff_ne.2 hk]
   simp only[e]
   exact⟨out,σ,ks,rfl,.refl h,Nat.le_refl _⟩
theorem qv1(hw:WW l W)(hM:TM s l W N):TC s l W (N+1):=by
 intro k d c σ h hd0 hd hph hN
 show ∃ cs σ',qcs (qam N) (qav N) (qat N) (qay N) N k d c (PS s l σ)=_∧_
 unfold qcs
 have hns:=h.ns
 obtain⟨M,hM1⟩:∃ M,N=M+1:=⟨N-1,by omega⟩
 obtain⟨y,σ1,ky,e1,a1,b1⟩:=qon hw hM (k:=k) (c:=c) (first:=true) (out:=[]) (ks:=[]) h hd0 hd hph (by omega) (by simp) (by simp) (.inl rfl)
 have a1l:=a1.le
 have hks1:=qjb (M:=([]:List Str)) (n:=ky)
 simp only[List.length_nil] at hks1
 obtain⟨cs,σ',ks',e2,a2,b2⟩:=qs8 hw hM (k:=k) (c:=c) hd0 hd M ([]++[y]) (addS [] ky) σ1 a1.tw (by rcases hph with h | h;exact .inl h;right;omega) (by omega) (by omega) (by simp;omega) (by omega)
 have a2l:=a2.le
 have e3:iter (λst=>qa6 (qam N) (qav N) (qat N) (qay N) N k d c st.1 st.2.1 st.2.2.1 st.2.2.2) N (([]:List Case),true,PS s l σ,([]:List (Str×Bool)))=some (PS s l σ',cs,tt ks'):=by
  have e1':qa6 (qam N) (qav N) (qat N) (qay N) N k d c [] true (PS s l σ) ([]:List (Str×Bool))=some (.inl ([]++[y],false,PS s l σ1,tt (addS [] ky))):=e1
  have:∀ n,n=M+1→iter (λst=>qa6 (qam N) (qav N) (qat N) (qay N) N k d c st.1 st.2.1 st.2.2.1 st.2.2.2) n (([]:List Case),true,PS s l σ,([]:List (Str×Bool)))=some (PS s l σ',cs,tt ks'):=by
   intro n hn
   rw[hn,iter]
   simp only[e1']
   exact e2
  exact this N hM1
 have hcost:∀ σ2:St,Adv l σ' σ2 0→Adv l σ σ2 0∧blkCs cs+KW W*phi l σ2≤KW W*phi l σ+(3+W):=by
  intro σ2 h2
  have h2l:=h2.le
  have m1:=qki (K:=KW W) (show phi l σ2≤phi l σ' by omega)
  have m2:=qki (K:=KW W) (show phi l σ-1≤phi l σ by omega)
  have hbo:blkCs ([]++[y])=blkC y:=by rw[qfz];simp
  exact⟨⟨h2.tw,by omega⟩,by omega⟩
 rw[e3]
 simp only[Option.bind_some,qdB,qe0]
 cases(qbW l σ'==3) with
 | false=>exact⟨_,_,rfl,hcost _ (.refl a2.tw)⟩
 | true=>
  simp only[cond_true]
  cases(mget (tt ks') ([111,116,104,101,114]:Str)).getD false with
  | true=>exact⟨_,_,rfl,hcost _ (.refl a2.tw)⟩
  | false=>exact⟨_,_,rfl,hcost _ (qeS (by decide) a2.tw 0)⟩
theorem qsu(hw:WW l W)(hE:TE s l W N)(hA:TA s l W N){d:Int}{c:Bool}{out:List Part}{σ:St}(h:TW l σ)(hd0:0≤d)(hd:d≤9)(hph:d≤8∨phi l σ=0)(hN:4*phi l σ+2003099≤N)(ho:out.length≤10000) :
  (∃ x σ',qbo (qam N) (qav N) (qat N) (qay N) N d c out (PS s l σ)=some (.inl (out++[x],PS s l σ'))∧1≤phi l σ∧Adv l σ σ' 1∧Part.blk x+KW W*phi l σ'≤KW W*phi l σ) ∨
  qbo (qam N) (qav N) (qat N) (qay N) N d c out (PS s l σ)=some (.inr (.inl (PS s l σ,out))) ∨
  qbo (qam N) (qav N) (qat N) (qay N) N d c out (PS s l σ)=some (.inr (.inr (out,PS s l σ))):=by
 have happ:∀ y:Part,app out [y]=some (out++[y]):=λy=>appS (by simp;omega)
 have hN4:4010≤N:=by omega
 have hK:3*W+10=KW W:=rfl
 unfold qbo
 by_cases he:σ.e=0
 ·have hph1:=qtC (h:=h) he
  have hd8:d≤8:=by rcases hph with h | h;exact h;omega
  have fin:∀ (x:Part) (σ':St),Adv l σ σ' 1→Part.blk x≤3*W+10→1≤phi l σ∧Adv l σ σ' 1∧Part.blk x+KW W*phi l σ'≤KW W*phi l σ:=by
   intro x σ' ha hx
   have hal:=ha.le
   have m:=qi5 (K:=KW W) (show phi l σ'≤phi l σ-1 by omega) hph1
   exact⟨hph1,ha,by omega⟩
  simp only[he,show((0:Int)==0)=true from rfl,cond_true,qdB,Option.bind_some]
  cases k1:(qbW l σ==1) with
  | true=>
   have htl:=qmK (s:=s) (σ:=σ) (k:=1) hw
   have hbig:=hw.big
   have hun:=quD (qdp s l 1 σ).1
   simp only[cond_true,qcc hw.wt (show(1:Int)≠0 by decide),Option.bind_some]
   rw[qk7 (by omega) hN4]
   simp only[Option.bind_some,happ]
   exact .inl ⟨_,_,rfl,fin _ _ (qcW (by decide) h) (by rw[qf3];simp;omega)⟩
  | false=>
   simp only[cond_false]
   cases k4:(qbW l σ==4) with
   | true=>
    simp only[cond_true]
    obtain⟨σ1,e1,a1⟩:∃ σ1,(bif (!c) then (qaI N 3 (PS s l σ)).bind λr106=>some r106 else some (PS s l σ))=some (PS s l σ1)∧Adv l σ σ1 0:=by
     cases c with
     | true=>exact⟨_,rfl,.refl h⟩
     | false=>
      simp only[Bool.not_false,cond_true,qe0,Option.bind_some]
      exact⟨_,rfl,qeS (by decide) h 0⟩
    simp only[e1,Option.bind_some,qcc hw.wt (show(4:Int)≠0 by decide),happ]
    exact .inl ⟨_,_,rfl,fin _ _ ((a1.trans (qcW (by decide) a1.tw)).weak (by omega)) (by rw[qf3];simp)⟩
   | false=>
    simp only[cond_false]
    cases k7:(qbW l σ==7) with
    | true=>
     simp only[cond_true,qg3,Option.bind_some,qcc hw.wt (show(7:Int)≠0 by decide),happ]
     have a1:=(qi3 (s:=s) (d:=IntKind.wrap .i64 (d+1)) h).1
     have htl:=qmK (s:=s) (σ:=qhL s l (IntKind.wrap .i64 (d+1)) σ) (k:=7) hw
     exact .inl ⟨_,_,rfl,fin _ _ ((a1.trans (qcW (by decide) a1.tw)).weak (by omega)) (by rw[qf3];simp;omega)⟩
    | false=>
     simp only[cond_false]
     cases k5:(qbW l σ==5) with
     | true=>
      simp only[cond_true]
      rw[wN (by omega) (by omega)]
      obtain⟨x,σ',e1,a1,b1⟩:=hE (d+1) c σ h (by omega) (by omega) hph1 (by omega)
      simp only[e1,Option.bind_some,happ]
      exact .inl ⟨_,_,rfl,hph1,a1,b1⟩
     | false=>
      simp only[cond_false]
      cases k2:(qbW l σ==2) with
      | true=>
       simp only[cond_true]
       obtain⟨x,σ',e1,a1,b1⟩:=hA d c σ h hd0 hd8 hph1 (by omega)
       simp only[e1,Option.bind_some,happ]
       exact .inl ⟨_,_,rfl,hph1,a1,b1⟩
      | false=>exact .inr (.inr rfl)
 ·simp only[beq_eq_false_iff_ne.2 he,cond_false]
  exact .inr (.inl trivial)
theorem qrw(hw:WW l W)(hE:TE s l W N)(hA:TA s l W N){d:Int}{c:Bool}(hd0:0≤d)(hd:d≤9):∀ (n:Nat) (out:List Part) (σ:St),TW l σ→(d≤8∨phi l σ=0)→4*phi l σ+2003099≤N→phi l σ<n→out.length+phi l σ≤10000 →
  ∃ o ps σ',iter (λst=>qbo (qam N) (qav N) (qat N) (qay N) N d c st.1 st.2) n (out,PS s l σ)=some o∧(o=.inl (PS s l σ',ps)∨o=.inr (ps,PS s l σ'))∧Adv l σ σ' 0∧blkPs ps+KW W*phi l σ'≤blkPs out+KW W*phi l σ:=by
 intro n
 induction n with
 | zero=>intro out σ h h1 h2 h3;omega
 | succ n ih=>
  intro out σ h hph hN hn ho
  rw[iter]
  rcases qsu hw hE hA (c:=c) (out:=out) h hd0 hd hph hN (by omega) with⟨x,σ1,e1,h1,a1,b1⟩ | e | e
  ·have a1l:=a1.le
   simp only[e1]
   obtain⟨o,ps,σ',e2,o2,a2,b2⟩:=ih (out++[x]) σ1 a1.tw (by rcases hph with h | h;exact .inl h;right;omega) (by omega) (by omega) (by simp;omega)
   have a2l:=a2.le
   refine⟨o,ps,σ',e2,o2,⟨a2.tw,by omega⟩,?_⟩
   have hbo:blkPs (out++[x])=blkPs out+Part.blk x:=by rw[qnI];simp[blkPs]
   omega
  ·simp only[e]
   exact⟨_,out,σ,rfl,.inl rfl,.refl h,Nat.le_refl _⟩
  ·simp only[e]
   exact⟨_,out,σ,rfl,.inr rfl,.refl h,Nat.le_refl _⟩
theorem qvB(hw:WW l W)(hE:TE s l W N)(hA:TA s l W N):TM s l W (N+1):=by
 intro d c σ h hd0 hd hph hN
 show ∃ ps σ',qca (qam N) (qav N) (qat N) (qay N) N d c (PS s l σ)=_∧_
 unfold qca
 have hns:=h.ns
 obtain⟨o,ps,σ',e1,o1,a1,b1⟩:=qrw hw hE hA (c:=c) hd0 hd N [] σ h hph (by omega) (by omega) (by simp;omega)
 rw[blkPs,Nat.zero_add] at b1
 rw[e1]
 rcases o1 with rfl | rfl
 ·exact⟨ps,σ',rfl,a1,b1⟩
 ·exact⟨ps,σ',rfl,a1,b1⟩
theorem quJ(hw:WW l W):∀ N,TM s l W N∧TE s l W N∧TA s l W N∧TC s l W N:=by
 intro N
 induction N with
 | zero=>exact⟨λ_ _ _ _ _ _ _ h=>by omega,λ_ _ _ _ _ _ _ h=>by omega,λ_ _ _ _ _ _ _ h=>by omega,λ_ _ _ _ _ _ _ _ h=>by omega⟩
 | succ N ih=>exact⟨qvB hw ih.2.1 ih.2.2.1,qwf hw ih.1,qwj hw ih.2.2.2,qv1 hw ih.1⟩
end
theorem qkK{N:Nat}{s:Str}(hs:s.length≤400)(hN:4000000≤N):∃ ps p e,qbN N s=some (ps,p,e)∧blkPs ps≤(3*s.length+10)*(s.length+1):=by
 obtain⟨r,h1,h2⟩:=qmq (N:=N) (s:=s) (by omega) (by omega)
 unfold qbN qgt
 rw[h1]
 simp only[Option.bind_some]
 have hat:∀ (z:Int),qmc N s z=some ((match (posL s).find? (λp=>p.Offset==z) with | some p=>(p,0) | none=>(Position.mk 0 0 0,2))):=λz=>rfl
 rcases h2 with h3 | ⟨h3,h4,h5,h6⟩
 ·rw[h3]
  simp only[show((3:Int)==6)=false from rfl,show((3:Int)==0)=false from rfl,cond_false,Option.bind_some,show((3:Int)!=0)=true from rfl,cond_true,hat]
  exact⟨_,_,_,rfl,Nat.zero_le _⟩
 ·have hw:WW r.1 s.length:=⟨by omega,by omega,λt ht=>by
   have hm:t.Text.length∈r.1.map (·.Text.length):=List.mem_map.2 ⟨t,ht,rfl⟩
   have:=qpF hm
   omega⟩
  have hphi:phi r.1 ⟨0,[],0,0⟩=r.1.length+1:=rfl
  obtain⟨ps,σ',e1,a1,b1⟩:=(quJ (s:=s) hw N).1 0 false ⟨0,[],0,0⟩ ⟨Nat.zero_le _,by rw[hphi];simp;omega⟩ (by omega) (by omega) (.inl (by omega)) (by rw[hphi];omega)
  have e1':qam N 0 false (Parser.mk s r.1 0 ([]:List (Str×Bool)) 0 0)=some (ps,PS s r.1 σ'):=e1
  rw[h4]
  simp only[show((0:Int)==6)=false from rfl,cond_false,show((0:Int)==0)=true from rfl,cond_true,e1',Option.bind_some]
  obtain⟨σ2,e2⟩:∃ σ2:St,(bif (decide ((σ'.j:Int)<(r.1.length:Int))) then (qaI N 3 (PS s r.1 σ')).bind λr47=>some r47 else some (PS s r.1 σ'))=some (PS s r.1 σ2):=by
   cases decide ((σ'.j:Int)<(r.1.length:Int)) with
   | false=>exact⟨_,rfl⟩
   | true=>simp only[cond_true,qe0,Option.bind_some];exact⟨_,rfl⟩
  simp only[e2,Option.bind_some,hat]
  have hb:blkPs ps≤(3*s.length+10)*(s.length+1):=by
   have m:KW s.length*phi r.1 ⟨0,[],0,0⟩≤KW s.length*(s.length+1):=Nat.mul_le_mul_left _ (by rw[hphi];omega)
   unfold KW at b1 m
   omega
  have hbb:(3*s.length+10)*(s.length+1)≤(3*400+10)*(400+1):=Nat.mul_le_mul (by omega) (by omega)
  rw[qjO N ps (by omega) (by omega)]
  cases(σ2.e != 0) with
  | true=>exact⟨_,_,_,rfl,Nat.zero_le _⟩
  | false=>
   simp only[cond_false,Option.bind_some]
   cases decide (((tlL ps:Nat):Int)>4000) with
   | true=>exact⟨_,_,_,rfl,Nat.zero_le _⟩
   | false=>exact⟨_,_,_,rfl,hb⟩
end Go.Proofs.YtkhjeeakflefjaaGreatDoor
namespace Go.Proofs.YtkhjeeakflefjaaGreatDoor
open Go.X
theorem qpO(N:Nat)(c:UInt8):∃ b,qfv N (c.toNat:Int)=some b:=by
 have h:∀ c:UInt8,(qfv 0 (c.toNat:Int)).isSome=true:=λc=>by
  revert c
  exact qeg (by decide +kernel)
 exact Option.isSome_iff_exists.1 (h c)
theorem qt8{N:Nat}{s:Str}:∀ n i,i≤s.length→s.length-i<n→∃ e,iter (λst=>qcR N s st) n (i:Int)=some ((e:Nat):Int)∧i≤e∧e≤s.length:=by
 intro n
 induction n with
 | zero=>intro i h1 h2;omega
 | succ n ih=>
  intro i h1 h2
  rw[iter]
  by_cases hi:i<s.length
  ·obtain⟨c,hc⟩:∃ c,s[i]? = some c:=⟨_,List.getElem?_eq_getElem hi⟩
   obtain⟨b,hb⟩:=qpO N c
   have e1:qcR N s (i:Int)=some (bif b then .inl ((i+1:Nat):Int) else .inr (i:Int)):=by
    simp only[qcR,dk hc,cond_true,ix hc,Option.bind_some,hb]
    cases b <;> rfl
   simp only[e1]
   cases b with
   | true=>
    obtain⟨e,h3,h4,h5⟩:=ih (i+1) (by omega) (by omega)
    exact⟨e,h3,by omega,h5⟩
   | false=>exact⟨i,rfl,Nat.le_refl _,h1⟩
  ·obtain rfl:i=s.length:=by omega
   simp only[qcR,dn,cond_false]
   exact⟨s.length,rfl,Nat.le_refl _,Nat.le_refl _⟩
theorem quK{N:Nat}{s:Str}(hs:s.length≤4000)(hN:4010≤N):∀ n i (out:List Str),i≤s.length→s.length-i<n→out.length≤i→∃ w,iter (λst=>qdk N s st.1 st.2) n (out,(i:Int))=some w∧w.length≤s.length:=by
 intro n
 induction n with
 | zero=>intro i out h1 h2;omega
 | succ n ih=>
  intro i out h1 h2 ho
  rw[iter]
  by_cases hi:i<s.length
  ·obtain⟨c,hc⟩:∃ c,s[i]? = some c:=⟨_,List.getElem?_eq_getElem hi⟩
   obtain⟨b,hb⟩:=qpO N c
   have hstep:∃ (e:Nat) (out':List Str),qdk N s out (i:Int)=some (.inl (out',(e:Int)))∧i<e∧e≤s.length∧out'.length≤i+1:=by
    simp only[qdk,dk hc,cond_true,ix hc,Option.bind_some,hb]
    cases((c.toNat:Int)==32) with
    | true=>exact⟨i+1,out,rfl,by omega,by omega,by omega⟩
    | false=>
     cases((c.toNat:Int)==9) with
     | true=>exact⟨i+1,out,rfl,by omega,by omega,by omega⟩
     | false=>
      cases((c.toNat:Int)==10) with
      | true=>exact⟨i+1,out,rfl,by omega,by omega,by omega⟩
      | false=>
       simp only[cond_false]
       obtain⟨e,h3,h4,h5⟩:∃ e:Nat,(bif b then (iter (λst=>qcR N s st) N ((i:Int)+1)).bind λo37=>some o37 else some ((i:Int)+1))=some (e:Int)∧i<e∧e≤s.length:=by
        cases b with
        | false=>exact⟨i+1,rfl,by omega,by omega⟩
        | true=>
         obtain⟨e,h3,h4,h5⟩:=qt8 (N:=N) (s:=s) N (i+1) (by omega) (by omega)
         refine⟨e,?_,by omega,h5⟩
         have h3':iter (λst=>qcR N s st) N ((i:Int)+1)=some (e:Int):=h3
         rw[h3'];rfl
       rw[h3]
       simp only[Option.bind_some]
       rw[qi6 (by omega) h5]
       simp only[Option.bind_some]
       rw[appS (by simp;omega)]
       exact⟨e,_,rfl,h4,h5,by simp;omega⟩
   obtain⟨e,out',h3,h4,h5,h6⟩:=hstep
   simp only[h3]
   exact ih e out' h5 (by omega) (by omega)
  ·obtain rfl:i=s.length:=by omega
   simp only[qdk,dn,cond_false]
   exact⟨out,rfl,ho⟩
theorem qml{N:Nat}{s:Str}(hs:s.length≤4000)(hN:4010≤N):∃ w,qep N s=some w∧w.length≤s.length:=by
 obtain⟨w,h1,h2⟩:=quK (N:=N) hs hN N 0 [] (by omega) (by omega) (by simp)
 refine⟨w,?_,h2⟩
 unfold qep
 have h1':iter (λst=>qdk N s st.1 st.2) N (([]:List Str),(0:Int))=some w:=h1
 rw[h1'];rfl
structure Row (n:Nat) (B:Int) (r:List Int):Prop where
 len:r.length=n+1
 bnd:∀ x∈r,0≤x∧x≤B
theorem Row.mono{n:Nat}{B B':Int}{r:List Int}(h:Row n B r)(hb:B≤B'):Row n B' r:=⟨h.len,λx hx=>by have:=h.bnd x hx;omega⟩
theorem Row.at{n:Nat}{B:Int}{r:List Int}(h:Row n B r){k:Nat}(hk:k≤n):∃ x,r[k]? = some x∧0≤x∧x≤B:=by
 have hl:=h.len
 have he:=List.getElem?_eq_getElem (l:=r) (i:=k) (by omega)
 exact⟨_,he,h.bnd _ (qbQ he)⟩
theorem Row.set{n:Nat}{B:Int}{r:List Int}(h:Row n B r){k:Nat}{v:Int}(hv:0≤v∧v≤B):Row n B (r.set k v):=by
 refine⟨by rw[List.length_set];exact h.len,λx hx=>?_⟩
 rcases List.mem_or_eq_of_mem_set hx with h1 | h1
 ·exact h.bnd x h1
 ·rw[h1];exact hv
theorem Row.setI{n:Nat}{B:Int}{r:List Int}(h:Row n B r){k:Nat}(v:Int)(hk:k≤n):Go.X.setI r (k:Int) v=some (r.set k v):=by
 have hl:=h.len
 unfold Go.X.setI
 rw[if_pos ⟨by omega,by simp;omega⟩];rfl
theorem qvP{N n:Nat}(hn:n≤400){r2:List Int}{l0:List Int}(hl0:l0.length=n+1)(hN:4010≤N)(h0:Row n 1000 l0)(hz:l0[0]? = some 0):∃ l1,iter (λst=>qdc N (l0,r2) st.1 st.2) N (0,l0)=some l1∧Row n 1000 l1∧l1[0]? = some 0:=by
 refine qbI (List.replicate (n+1) ()) (λst=>qdc N (l0,r2) st.1 st.2) (λk st=>st.1=(k:Int)∧Row n 1000 st.2∧st.2[0]? = some 0) (λb=>Row n 1000 b∧b[0]? = some 0) N (0,l0) (by simp;omega) ⟨rfl,h0,hz⟩ (λk x st hx hJ=>?_) (λst hJ=>?_) λb h1 h2=>⟨b,h1,h2.1,h2.2⟩
 ·obtain⟨e1,hr,hz⟩:=hJ
  have hk:k<n+1:=by have:=qdK hx;simpa using this
  obtain⟨j,row⟩:=st
  simp only at e1 hr hz
  subst e1
  obtain⟨v,hv,_⟩:=hr.at (k:=k) (by omega)
  have hd:decide ((k:Int)<(((l0,r2):List Int×List Int).1.length:Int))=true:=decide_eq_true (by rw[hl0];omega)
  simp only[qdc,hd,cond_true,ix hv,Option.bind_some,hr.setI (k:Int) (show k≤n by omega)]
  refine⟨_,rfl,?_,λb h=>by cases h⟩
  intro s' h;cases h
  refine⟨by simp,hr.set ⟨by omega,by omega⟩,?_⟩
  rw[List.getElem?_set]
  cases k with
  | zero=>simp[hr.len]
  | succ k=>simp[hz]
 ·obtain⟨e1,hr,hz⟩:=hJ
  obtain⟨j,row⟩:=st
  simp only[List.length_replicate] at e1 hr hz
  subst e1
  have hd:decide (((n+1:Nat):Int)<(((l0,r2):List Int×List Int).1.length:Int))=false:=decide_eq_false (by rw[hl0];omega)
  simp only[qdc,hd,cond_false]
  exact⟨_,rfl,hr,hz⟩
theorem qvA{N:Nat}{b:List Str}{last row:List Int}{x:Str}{B:Int}(hb:b.length≤400)(hN:4010≤N)(hB:0≤B∧B≤100000)(hl:Row b.length B last)(hr:Row b.length (B+1) row)(k:Nat) :
  ∃ row',iter (λst=>qda N b last x st.1 st.2) N (0,row)=some row'∧Row b.length (B+1) row'∧(b[k]? = some x→last[k]? = some 0→row'[k+1]? = some 0):=by
 refine qbI b (λst=>qda N b last x st.1 st.2) (λj st=>st.1=(j:Int)∧Row b.length (B+1) st.2∧(k<j→b[k]? = some x→last[k]? = some 0→st.2[k+1]? = some 0)) (λr=>Row b.length (B+1) r∧(b[k]? = some x→last[k]? = some 0→r[k+1]? = some 0)) N (0,row) (by omega) ⟨rfl,hr,λh=>by omega⟩ (λj y st hy hJ=>?_) (λst hJ=>?_) λb h1 h2=>⟨b,h1,h2.1,h2.2⟩
 ·obtain⟨e1,hr,hz⟩:=hJ
  obtain⟨j',row⟩:=st
  simp only at e1 hr hz
  subst e1
  have hj:=qdK hy
  obtain⟨v1,hv1,b1⟩:=hl.at (k:=j) (by omega)
  obtain⟨v2,hv2,b2⟩:=hl.at (k:=j+1) (by omega)
  obtain⟨v3,hv3,b3⟩:=hr.at (k:=j) (by omega)
  obtain⟨v4,hv4,b4⟩:=hr.at (k:=j+1) (by omega)
  have i2:idx last ((j:Int)+1)=some v2:=ix hv2
  have i4:idx row ((j:Int)+1)=some v4:=ix hv4
  obtain⟨z,hz1,hz2,hz3⟩:∃ z,(bif (x != y) then (idx last ((j:Int)+1)).bind λx155=>(idx row (j:Int)).bind λx166=>some (IntKind.wrap .i64 ((1:Int)+(min (min v1 x155) x166))) else some v1)=some z∧(0≤z∧z≤B+1)∧(y=x→z=v1):=by
   cases hxy:(x != y) with
   | false=>exact⟨v1,rfl,⟨b1.1,by omega⟩,λ_=>rfl⟩
   | true=>
    simp only[cond_true,i2,ix hv3,Option.bind_some]
    rw[wN (by omega) (by omega)]
    refine⟨_,rfl,by omega,λe=>?_⟩
    rw[e] at hxy
    simp[bne] at hxy
  have hs:Go.X.setI row ((j:Int)+1) z=some (row.set (j+1) z):=hr.setI z (show j+1≤b.length by omega)
  simp only[qda,dk hy,cond_true,ix hy,Option.bind_some,ix hv1]
  rw[hz1]
  simp only[Option.bind_some,i4,hs]
  refine⟨_,rfl,?_,λb h=>by cases h⟩
  intro s' h;cases h
  refine⟨by simp,hr.set hz2,λh1 h2 h3=>?_⟩
  rw[List.getElem?_set]
  by_cases hjk:j=k
  ·subst hjk
   rw[hy] at h2
   cases h2
   rw[hv1] at h3
   cases h3
   have:=hz3 rfl
   subst this
   simp[hr.len];omega
  ·rw[if_neg (by omega)]
   exact hz (by omega) h2 h3
 ·obtain⟨e1,hr,hz⟩:=hJ
  obtain⟨j',row⟩:=st
  simp only at e1 hr hz
  subst e1
  simp only[qda,dn,cond_false]
  refine⟨_,rfl,hr,λh1 h2=>hz (qdK h1) h1 h2⟩
theorem qoE{N:Nat}{a b:List Str}(ha:a.length≤400)(hb:b.length≤400)(hN:4010≤N):∃ d,qeT N a b=some d∧0≤d∧d≤100000∧(a=b→d=0):=by
 unfold qeT
 rw[decide_eq_false (by omega),decide_eq_false (by omega),cond_false,cond_false]
 have hmk:mk (IntKind.wrap .i64 ((b.length:Int)+1)) (0:Int)=some (List.replicate (b.length+1) 0):=by
  rw[wN (by omega) (by omega)]
  unfold mk
  rw[if_pos ⟨by omega,by unfold LIM;omega⟩]
  congr 2
 rw[hmk]
 simp only[Option.bind_some]
 have hz0:Row b.length 1000 (List.replicate (b.length+1) (0:Int)):=⟨by simp,λx hx=>by rw[List.eq_of_mem_replicate hx];omega⟩
 obtain⟨l1,e1,r1,z1⟩:=qvP (N:=N) (r2:=List.replicate (b.length+1) 0) hb (by simp) hN hz0 (by simp)
 rw[e1]
 simp only[Option.bind_some]
 refine qbI a (λst=>qdE N a b st.1 st.2.1 st.2.2) (λk st=>st.2.2=(k:Int)∧Row b.length (1000+k) st.1∧Row b.length (1000+k) st.2.1∧(a=b→st.1[k]? = some 0)) (λr=>Row b.length 2000 r∧(a=b→r[b.length]? = some 0)) N (l1,List.replicate (b.length+1) 0,0) (by omega) ⟨rfl,by simpa using r1,by simpa using hz0,λ_=>z1⟩ (λk x st hx hJ=>?_) (λst hJ=>?_) λr h1 h2=>?_
 ·obtain⟨h1,h2,h3,h4⟩:=hJ
  obtain⟨last,row,j⟩:=st
  simp only at h1 h2 h3 h4
  subst h1
  have hk:=qdK hx
  obtain⟨v0,hv0,_⟩:=h3.at (k:=0) (by omega)
  have i0:idx row 0=some v0:=ix hv0
  have s0:Go.X.setI row 0 ((k:Int)+1)=some (row.set 0 ((k:Int)+1)):=h3.setI _ (Nat.zero_le _)
  obtain⟨row',e2,r2,z2⟩:=qvA (N:=N) (x:=x) hb hN (B:=1000+k) (by omega) h2 ((h3.mono (by omega)).set (k:=0) (v:=(k:Int)+1) (by omega)) k
  simp only[qdE,dk hx,cond_true,ix hx,Option.bind_some,i0,s0]
  rw[e2]
  refine⟨_,rfl,?_,λb h=>by cases h⟩
  intro s' h;cases h
  refine⟨by simp,?_,?_,λe=>?_⟩
  ·exact r2.mono (by simp;omega)
  ·exact h2.mono (by simp;omega)
  ·exact z2 (by rw[← e];exact hx) (h4 e)
 ·obtain⟨h1,h2,h3,h4⟩:=hJ
  obtain⟨last,row,j⟩:=st
  simp only at h1 h2 h3 h4
  subst h1
  simp only[qdE,dn,cond_false]
  exact⟨_,rfl,h2.mono (by omega),λe=>by rw[← e];exact h4 e⟩
 ·obtain⟨h3,h4⟩:=h2
  obtain⟨v,hv,b1⟩:=h3.at (k:=b.length) (Nat.le_refl _)
  rw[h1]
  simp only[Option.bind_some,ix hv]
  refine⟨v,rfl,b1.1,by omega,λe=>?_⟩
  have:=h4 e
  rw[hv] at this
  cases this;rfl
theorem qsn{p m:Int}(hm:1≤m)(h1:-100000000≤p)(h2:p≤m*1000):-100000000≤p.tdiv m∧p.tdiv m≤1000∧(p=m*1000→p.tdiv m=1000):=by
 refine⟨?_,?_,?_⟩
 ·by_cases hp:0≤p
  ·have:=Int.tdiv_nonneg hp (show 0≤m by omega);omega
  ·obtain⟨q,rfl⟩:∃ q,p = -q:=⟨-p,by omega⟩
   rw[Int.neg_tdiv,Int.tdiv_eq_ediv_of_nonneg (by omega)]
   have:=Int.ediv_le_self (a:=q) m (by omega)
   omega
 ·by_cases hp:0≤p
  ·rw[Int.tdiv_eq_ediv_of_nonneg hp]
   exact Int.ediv_le_of_le_mul (by omega) (by rw[Int.mul_comm];exact h2)
  ·obtain⟨q,rfl⟩:∃ q,p = -q:=⟨-p,by omega⟩
   rw[Int.neg_tdiv,Int.tdiv_eq_ediv_of_nonneg (by omega)]
   have:=Int.ediv_nonneg (a:=q) (b:=m) (by omega) (by omega)
   omega
 ·rintro rfl
  rw[Int.mul_comm,Int.mul_tdiv_cancel _ (by omega)]
theorem qpr{N:Nat}{a b:List Str}(ha:a.length≤400)(hb:b.length≤400)(hN:4010≤N):∃ d,qe8 N a b=some d ∧ -100000000≤d∧d≤1000∧(a=b→d=1000):=by
 obtain⟨d,e1,h1,h2,h3⟩:=qoE (N:=N) ha hb hN
 unfold qe8
 rw[e1]
 simp only[Option.bind_some]
 rw[decide_eq_false (by omega),cond_false]
 generalize hm:max (a.length:Int) (b.length:Int)=m
 cases hm0:(m==0) with
 | true=>exact⟨1000,rfl,by omega,by omega,λ_=>rfl⟩
 | false=>
  have hm1:=beq_eq_false_iff_ne.1 hm0
  have hmb:1≤m∧m≤400:=by omega
  simp only[cond_false]
  rw[wN (z:=m-d) (by omega) (by omega),wN (by omega) (by omega)]
  obtain⟨b1,b2,b3⟩:=qsn (p:=(m-d)*1000) (m:=m) (by omega) (by omega) (by omega)
  unfold qt
  rw[if_neg hm1,wN (by omega) (by omega)]
  refine⟨_,rfl,b1,b2,λe=>?_⟩
  have:=h3 e
  subst this
  exact b3 (by omega)
end Go.Proofs.YtkhjeeakflefjaaGreatDoor
namespace Go.Proofs.YtkhjeeakflefjaaGreatDoor
open Go.X
def topM(x:List Match)(k:Nat):Prop:=∃ y,x[k]? = some y∧y.Similar=1000
structure OkM (x:List Match):Prop where
 len:x.length≤10000
 bnd:∀ y∈x,-100000000≤y.Similar∧y.Similar≤1000
structure Res (x x':List Match) (lo hi:Nat):Prop where
 len:x'.length=x.length
 out:∀ k,k<lo∨hi≤k→x'[k]? = x[k]?
 inn:∀ k,lo≤k→k<hi→∃ k',lo≤k'∧k'<hi∧x'[k]? = x[k']?
theorem Res.refl{x:List Match}{lo hi:Nat}:Res x x lo hi:=⟨rfl,λ_ _=>rfl,λk h1 h2=>⟨k,h1,h2,rfl⟩⟩
theorem Res.trans{x x1 x2:List Match}{lo hi:Nat}(h1:Res x x1 lo hi)(h2:Res x1 x2 lo hi):Res x x2 lo hi:=by
 refine⟨by rw[h2.len,h1.len],λk hk=>by rw[h2.out k hk,h1.out k hk],λk ha hb=>?_⟩
 obtain⟨k1,a1,b1,e1⟩:=h2.inn k ha hb
 obtain⟨k2,a2,b2,e2⟩:=h1.inn k1 a1 b1
 exact⟨k2,a2,b2,by rw[e1,e2]⟩
theorem Res.mono{x x':List Match}{lo hi lo' hi':Nat}(h:Res x x' lo hi)(h1:lo'≤lo)(h2:hi≤hi'):Res x x' lo' hi':=by
 refine⟨h.len,λk hk=>h.out k (by omega),λk ha hb=>?_⟩
 by_cases hk:lo≤k∧k<hi
 ·obtain⟨k1,a1,b1,e1⟩:=h.inn k hk.1 hk.2
  exact⟨k1,by omega,by omega,e1⟩
 ·exact⟨k,ha,hb,h.out k (by omega)⟩
theorem Res.sub{x x':List Match}{lo hi:Nat}(h:Res x x' lo hi):∀ y∈x',y∈x:=by
 intro y hy
 obtain⟨k,hk⟩:=List.mem_iff_getElem?.1 hy
 by_cases hr:lo≤k∧k<hi
 ·obtain⟨k1,_,_,e1⟩:=h.inn k hr.1 hr.2
  rw[e1] at hk;exact qbQ hk
 ·rw[h.out k (by omega)] at hk;exact qbQ hk
theorem Res.ok{x x':List Match}{lo hi:Nat}(h:Res x x' lo hi)(ho:OkM x):OkM x':=⟨by rw[h.len];exact ho.len,λy hy=>ho.bnd y (h.sub y hy)⟩
theorem Res.topIn{x x':List Match}{lo hi:Nat}(h:Res x x' lo hi){k:Nat}(h1:lo≤k)(h2:k<hi)(ht:topM x' k):∃ k',lo≤k'∧k'<hi∧topM x k':=by
 obtain⟨k',a,b,e⟩:=h.inn k h1 h2
 obtain⟨y,hy,hs⟩:=ht
 exact⟨k',a,b,y,by rw[← e];exact hy,hs⟩
theorem Res.topOut{x x':List Match}{lo hi:Nat}(h:Res x x' lo hi){k:Nat}(hk:k<lo∨hi≤k):topM x' k↔topM x k:=by
 unfold topM;rw[h.out k hk]
def ql4(x:List Match)(p q:Int):Option (List Match):=
 (idx x q).bind λu=>(idx x p).bind λv=>(idx x p).bind λ_=>(setI x p u).bind λl=>(idx l q).bind λ_=>(setI l q v).bind λl'=>some l'
theorem qql{x:List Match}{p:Nat}(h:p<x.length)(v:Match):setI x (p:Int) v=some (x.set p v):=by
 unfold setI
 rw[if_pos ⟨by omega,by simpa using h⟩];rfl
theorem ql0{x:List Match}{p q lo hi:Nat}(hp:p<x.length)(hq:q<x.length)(hpq:p≠q)(h1:lo≤p∧p<hi)(h2:lo≤q∧q<hi) :
  ∃ x',ql4 x (p:Int) (q:Int)=some x'∧Res x x' lo hi∧x'[p]? = x[q]? ∧ x'[q]? = x[p]? ∧ ∀ k,k≠p→k≠q→x'[k]? = x[k]?:=by
 have ep:x[p]? = some x[p]:=List.getElem?_eq_getElem hp
 have eq:x[q]? = some x[q]:=List.getElem?_eq_getElem hq
 have hg:∀ k,((x.set p x[q]).set q x[p])[k]? = if k=q then some x[p] else if k=p then some x[q] else x[k]?:=by
  intro k
  rw[List.getElem?_set,List.getElem?_set]
  by_cases hkq:q=k
  ·subst hkq
   simp[hq]
  ·by_cases hkp:p=k
   ·subst hkp
    simp[hkq,hp,hpq]
   ·rw[if_neg hkq,if_neg hkp,if_neg (λh=>hkq h.symm),if_neg (λh=>hkp h.symm)]
 have el:∃ z,(x.set p x[q])[q]? = some z:=⟨_,List.getElem?_eq_getElem (by rw[List.length_set];exact hq)⟩
 obtain⟨z,hz⟩:=el
 refine⟨(x.set p x[q]).set q x[p],?_,⟨by simp,λk hk=>?_,λk ha hb=>?_⟩,?_,?_,λk h3 h4=>?_⟩
 ·unfold ql4
  simp only[ix ep,ix eq,Option.bind_some,qql hp,ix hz,qql (x:=x.set p x[q]) (show q<(x.set p x[q]).length by rw[List.length_set];exact hq)]
 ·rw[hg,if_neg (by omega),if_neg (by omega)]
 ·by_cases hkq:k=q
  ·exact⟨p,h1.1,h1.2,by rw[hg,if_pos hkq,ep]⟩
  ·by_cases hkp:k=p
   ·exact⟨q,h2.1,h2.2,by rw[hg,if_neg hkq,if_pos hkp,eq]⟩
   ·exact⟨k,ha,hb,by rw[hg,if_neg hkq,if_neg hkp]⟩
 ·rw[hg,if_neg hpq,if_pos rfl,eq]
 ·rw[hg,if_pos rfl,ep]
 ·rw[hg,if_neg h4,if_neg h3]
theorem qkR{N:Nat}{x:List Match}(h:OkM x){p q:Nat}{a b:Match}(ha:x[p]? = some a)(hb:x[q]? = some b):qcu N a b=some (b.Similar-a.Similar):=by
 have h1:=h.bnd a (qbQ ha)
 have h2:=h.bnd b (qbQ hb)
 unfold qcu
 rw[wN (by omega) (by omega)]
theorem ins2{N a:Nat}:∀ n j (x:List Match),OkM x→a≤j→j<x.length→j-a<n →
  ∃ x',iter (λst=>qaV N (a:Int) st.1 st.2) n ((j:Int),x)=some x'∧Res x x' a (j+1)∧(topM x a→topM x' a)∧(topM x j→(∀ k,a≤k→k<j→¬ topM x k)→topM x' a):=by
 intro n
 induction n with
 | zero=>intro j x h1 h2 h3 h4;omega
 | succ n ih=>
  intro j x hok h2 h3 h4
  have hl:=hok.len
  rw[iter]
  by_cases hj:j=a
  ·subst hj
   have e1:qaV N (j:Int) (j:Int) x=some (.inr x):=by
    unfold qaV
    rw[decide_eq_false (by omega)];rfl
   simp only[e1]
   exact⟨x,rfl,.refl,id,λh _=>h⟩
  ·obtain⟨y,hy⟩:∃ y,x[j]? = some y:=⟨_,List.getElem?_eq_getElem h3⟩
   obtain⟨z,hz⟩:∃ z,x[j-1]? = some z:=⟨_,List.getElem?_eq_getElem (by omega)⟩
   have ez:idx x ((j:Int)-1)=some z:=by rw[show((j:Int)-1)=((j-1:Nat):Int) by omega];exact ix hz
   obtain⟨x1,s1,s2,s3,s4,s5⟩:=ql0 (x:=x) (p:=j) (q:=j-1) (lo:=a) (hi:=j+1) h3 (by omega) (by omega) (by omega) (by omega)
   have e1:qaV N (a:Int) (j:Int) x=some (bif decide (z.Similar-y.Similar<0) then .inl (((j-1:Nat):Int),x1) else .inr x):=by
    have ec:(bif (decide ((j:Int)>(a:Int))) then (idx x (j:Int)).bind λx32=>(idx x ((j:Int)-1)).bind λx46=>(qcu N x32 x46).bind λr60=>some (decide (r60<0)) else some false)=some (decide (z.Similar-y.Similar<0)):=by
     rw[decide_eq_true (show(j:Int)>(a:Int) by omega)]
     simp only[cond_true,ix hy,ez,Option.bind_some,qkR hok hy hz]
    unfold qaV
    refine(congrArg (λz=>Option.bind z _) ec).trans ?_
    simp only[Option.bind_some]
    cases decide (z.Similar-y.Similar<0) with
    | false=>rfl
    | true=>
     simp only[cond_true]
     rw[wN (by omega) (by omega),show((j:Int)-1)=((j-1:Nat):Int) by omega]
     show(Option.bind (ql4 x (j:Int) ((j-1:Nat):Int)) _)=_
     rw[s1];rfl
   simp only[e1]
   have hzb:=hok.bnd z (qbQ hz)
   have hyb:=hok.bnd y (qbQ hy)
   by_cases hc:z.Similar-y.Similar<0
   ·rw[decide_eq_true hc]
    simp only[cond_true]
    obtain⟨x',e2,r2,t1,t2⟩:=ih (j-1) x1 (s2.ok hok) (by omega) (by rw[s2.len];omega) (by omega)
    refine⟨x',e2,s2.trans (r2.mono (Nat.le_refl _) (by omega)),λht=>?_,λht hn=>?_⟩
    ·apply t1
     obtain⟨w,w1,w2⟩:=ht
     by_cases hja:j-1=a
     ·rw[← hja,hz] at w1
      cases w1;omega
     ·exact⟨w,by rw[s5 a (by omega) (by omega)];exact w1,w2⟩
    ·apply t2
     ·obtain⟨w,w1,w2⟩:=ht
      exact⟨w,by rw[s4];exact w1,w2⟩
     ·intro k h5 h6 h7
      obtain⟨w,w1,w2⟩:=h7
      rw[s5 k (by omega) (by omega)] at w1
      exact hn k h5 (by omega) ⟨w,w1,w2⟩
   ·rw[decide_eq_false hc]
    refine⟨x,rfl,.refl,id,λht hn=>?_⟩
    exfalso
    obtain⟨w,w1,w2⟩:=ht
    rw[hy] at w1
    cases w1
    exact hn (j-1) (by omega) (by omega) ⟨z,hz,by omega⟩
theorem qmF{N a b:Nat}{x0:List Match}(hok:OkM x0)(ha:a≤10000)(hb:b≤x0.length)(hN:20010≤N) :
  ∃ x',qaK N (a:Int) (b:Int) x0=some x'∧Res x0 x' a b∧(∀ k,a≤k→k<b→topM x0 k→topM x' a)∧(∀ k,a≤k→k<b→topM x' k→topM x' a):=by
 have hl:=hok.len
 by_cases hab:a<b
 ·have key:∀ n i (x:List Match),a<i→i≤b→b-i<n→Res x0 x a i→(∀ k,a≤k→k<i→topM x0 k→topM x a)→(∀ k,a≤k→k<i→topM x k→topM x a) →
    ∃ x',iter (λst=>qaG N (a:Int) (b:Int) st.1 st.2) n ((i:Int),x)=some x'∧Res x0 x' a b∧(∀ k,a≤k→k<b→topM x0 k→topM x' a)∧(∀ k,a≤k→k<b→topM x' k→topM x' a):=by
   intro n
   induction n with
   | zero=>intro i x h1 h2 h3;omega
   | succ n ih=>
    intro i x h1 h2 h3 hr hE hT
    rw[iter]
    by_cases hi:i<b
    ·obtain⟨x1,e1,r1,t1,t2⟩:=ins2 (N:=N) (a:=a) N i x (hr.ok hok) (by omega) (by rw[hr.len];omega) (by omega)
     have e2:qaG N (a:Int) (b:Int) (i:Int) x=some (.inl (((i+1:Nat):Int),x1)):=by
      unfold qaG
      rw[decide_eq_true (by omega),cond_true,e1];rfl
     simp only[e2]
     have hi2:topM x0 i→topM x i:=λh=>(hr.topOut (.inr (Nat.le_refl _))).2 h
     refine ih (i+1) x1 (by omega) (by omega) (by omega) ((hr.mono (Nat.le_refl _) (by omega)).trans r1) (λk h4 h5 h6=>?_) (λk h4 h5 h6=>?_)
     ·by_cases hk:k<i
      ·exact t1 (hE k h4 hk h6)
      ·obtain rfl:k=i:=by omega
       by_cases ha:topM x a
       ·exact t1 ha
       ·exact t2 (hi2 h6) (λq q1 q2 q3=>ha (hT q q1 q2 q3))
     ·obtain⟨k',a1,b1,c1⟩:=r1.topIn h4 h5 h6
      by_cases ha:topM x a
      ·exact t1 ha
      ·by_cases hk:k'<i
       ·exact absurd (hT k' a1 hk c1) ha
       ·obtain rfl:k'=i:=by omega
        exact t2 c1 (λq q1 q2 q3=>ha (hT q q1 q2 q3))
    ·obtain rfl:i=b:=by omega
     have e2:qaG N (a:Int) (i:Int) (i:Int) x=some (.inr x):=by
      unfold qaG
      rw[decide_eq_false (by omega)];rfl
     simp only[e2]
     exact⟨x,rfl,hr,hE,hT⟩
  have one:∀ k,a≤k→k<a+1→topM x0 k→topM x0 a:=by
   intro k h1 h2 h3
   have e:k=a:=by omega
   rw[← e];exact h3
  obtain⟨x',e1,h1⟩:=key N (a+1) x0 (by omega) (by omega) (by omega) .refl one one
  refine⟨x',?_,h1⟩
  unfold qaK
  rw[wN (by omega) (by omega),show(a:Int)+1=((a+1:Nat):Int) by omega,e1];rfl
 ·refine⟨x0,?_,.refl,λk h1 h2=>by omega,λk h1 h2=>by omega⟩
  unfold qaK
  rw[wN (by omega) (by omega)]
  obtain⟨n,rfl⟩:∃ n,N=n+1:=⟨N-1,by omega⟩
  rw[iter]
  have e2:qaG (n+1) (a:Int) (b:Int) ((a:Int)+1) x0=some (.inr x0):=by
   unfold qaG
   rw[decide_eq_false (by omega)];rfl
  simp only[e2];rfl
end Go.Proofs.YtkhjeeakflefjaaGreatDoor
namespace Go.Proofs.YtkhjeeakflefjaaGreatDoor
open Go.X
theorem qkx{N a b n:Nat}{x0:List Match}(hok:OkM x0)(hab:a+n≤b)(hb:b+n≤x0.length)(hN:20010≤N) :
  ∃ x',qbq N (a:Int) (b:Int) (n:Int) x0=some x'∧Res x0 x' a (b+n)∧(1≤n→x'[a]? = x0[b]?)∧(∀ k,(k<a∨a+n≤k)→(k<b∨b+n≤k)→x'[k]? = x0[k]?):=by
 have hl:=hok.len
 unfold qbq
 refine qbI (List.replicate n ()) (λst=>qba N (a:Int) (b:Int) (n:Int) st.1 st.2) (λi st=>st.1=(i:Int)∧Res x0 st.2 a (b+n)∧(1≤i→st.2[a]? = x0[b]?)∧(∀ k,(k<a∨a+i≤k)→(k<b∨b+i≤k)→st.2[k]? = x0[k]?)) (λx=>Res x0 x a (b+n)∧(1≤n→x[a]? = x0[b]?)∧(∀ k,(k<a∨a+n≤k)→(k<b∨b+n≤k)→x[k]? = x0[k]?)) N (0,x0) (by simp;omega) ⟨rfl,.refl,λh=>by omega,λ_ _ _=>rfl⟩ (λi u st hi hJ=>?_) (λst hJ=>?_) λx h1 h2=>?_
 ·obtain⟨j,x⟩:=st
  obtain⟨e1,r,t,o⟩:=hJ
  simp only at e1 r t o
  subst e1
  have hin:i<n:=by have:=qdK hi;simpa using this
  have hxl:=r.len
  obtain⟨x1,s1,s2,s3,s4,s5⟩:=ql0 (x:=x) (p:=a+i) (q:=b+i) (lo:=a) (hi:=b+n) (by omega) (by omega) (by omega) (by omega) (by omega)
  have e2:qba N (a:Int) (b:Int) (n:Int) (i:Int) x=some (.inl ((i:Int)+1,x1)):=by
   unfold qba
   rw[decide_eq_true (by omega),cond_true,wN (z:=(b:Int)+(i:Int)) (by omega) (by omega),wN (z:=(a:Int)+(i:Int)) (by omega) (by omega),show(b:Int)+(i:Int)=((b+i:Nat):Int) by omega,show(a:Int)+(i:Int)=((a+i:Nat):Int) by omega]
   show(Option.bind (ql4 x ((a+i:Nat):Int) ((b+i:Nat):Int)) _)=_
   rw[s1];rfl
  refine⟨_,e2,?_,λb h=>by cases h⟩
  intro s' h;cases h
  refine⟨by simp,r.trans s2,λ_=>?_,λk h1 h2=>?_⟩
  ·cases i with
   | zero=>rw[show a=a+0 from rfl,s3];exact o (b+0) (by omega) (by omega)
   | succ i=>rw[s5 a (by omega) (by omega)];exact t (by omega)
  ·rw[s5 k (by omega) (by omega)]
   exact o k (by omega) (by omega)
 ·obtain⟨j,x⟩:=st
  obtain⟨e1,r,t,o⟩:=hJ
  simp only[List.length_replicate] at e1 r t o
  subst e1
  have e2:qba N (a:Int) (b:Int) (n:Int) (n:Int) x=some (.inr x):=by
   unfold qba
   rw[decide_eq_false (by omega)];rfl
  exact⟨_,e2,r,t,o⟩
 ·rw[h1]
  exact⟨x,rfl,h2⟩
theorem qta{N a m b:Nat}{x0:List Match}(hok:OkM x0)(h1:a<m)(h2:m<b)(hb:b≤x0.length)(hN:20010≤N) :
  ∃ x',qb3 N (a:Int) (m:Int) (b:Int) x0=some x'∧Res x0 x' a b∧x'[a]? = x0[m]?:=by
 have hl:=hok.len
 have key:∀ n (i j:Nat) (x:List Match),1≤i→1≤j→i≤m-a→m+j≤b→i+j<n→Res x0 x a b→(i=m-a→x[m]? = x0[m]?)→(i<m-a→x[a]? = x0[m]?) →
   ∃ (x1:List Match) (i1:Nat),iter (λst=>qaQ N (m:Int) st.1 st.2.1 st.2.2) n ((i:Int),(j:Int),x)=some (x1,(i1:Int))∧1≤i1∧i1≤m-a∧m+i1≤b∧Res x0 x1 a b∧(i1=m-a→x1[m]? = x0[m]?)∧(i1<m-a→x1[a]? = x0[m]?):=by
  intro n
  induction n with
  | zero=>intro i j x h3 h4 h5 h6 h7;omega
  | succ n ih=>
   intro i j x h3 h4 h5 h6 h7 hr hm ha
   have hxl:=hr.len
   rw[iter]
   by_cases hij:i=j
   ·subst hij
    have e:qaQ N (m:Int) (i:Int) (i:Int) x=some (.inr (x,(i:Int))):=by
     unfold qaQ
     rw[bne_self_eq_false];rfl
    simp only[e]
    exact⟨x,i,rfl,h3,h5,h6,hr,hm,ha⟩
   ·have hne:((i:Int)!=(j:Int))=true:=by rw[bne,beq_eq_false_iff_ne.2 (by omega)];rfl
    by_cases hgt:i>j
    ·obtain⟨x1,e1,r1,t1,o1⟩:=qkx (N:=N) (a:=m-i) (b:=m) (n:=j) (hr.ok hok) (by omega) (by omega) hN
     have e:qaQ N (m:Int) (i:Int) (j:Int) x=some (.inl (((i-j:Nat):Int),(j:Int),x1)):=by
      unfold qaQ
      rw[hne,decide_eq_true (by omega),cond_true,cond_true,wN (z:=(m:Int)-i) (by omega) (by omega),show(m:Int)-(i:Int)=((m-i:Nat):Int) by omega,e1,wN (by omega) (by omega),show(i:Int)-(j:Int)=((i-j:Nat):Int) by omega];rfl
     simp only[e]
     refine ih (i-j) j x1 (by omega) h4 (by omega) h6 (by omega) (hr.trans (r1.mono (by omega) (by omega))) (λh=>by omega) (λh=>?_)
     by_cases hi:i=m-a
     ·have:m-i=a:=by omega
      rw[this] at t1
      rw[t1 h4];exact hm hi
     ·rw[o1 a (by omega) (by omega)];exact ha (by omega)
    ·obtain⟨x1,e1,r1,t1,o1⟩:=qkx (N:=N) (a:=m-i) (b:=m+j-i) (n:=i) (hr.ok hok) (by omega) (by omega) hN
     have e:qaQ N (m:Int) (i:Int) (j:Int) x=some (.inl ((i:Int),((j-i:Nat):Int),x1)):=by
      unfold qaQ
      rw[hne,decide_eq_false (by omega),cond_true,cond_false,wN (z:=(m:Int)-i) (by omega) (by omega),wN (z:=(m:Int)+j) (by omega) (by omega),wN (z:=(m:Int)+j-i) (by omega) (by omega),show(m:Int)-(i:Int)=((m-i:Nat):Int) by omega,show(m:Int)+(j:Int)-(i:Int)=((m+j-i:Nat):Int) by omega,e1,wN (by omega) (by omega),show(j:Int)-(i:Int)=((j-i:Nat):Int) by omega];rfl
     simp only[e]
     refine ih i (j-i) x1 h3 (by omega) h5 (by omega) (by omega) (hr.trans (r1.mono (by omega) (by omega))) (λh=>?_) (λh=>?_)
     ·rw[o1 m (by omega) (by omega)];exact hm h
     ·rw[o1 a (by omega) (by omega)];exact ha h
 obtain⟨x1,i1,e1,q1,q2,q3,q4,q5,q6⟩:=key N (m-a) (b-m) x0 (by omega) (by omega) (Nat.le_refl _) (by omega) (by omega) .refl (λ_=>rfl) (λh=>by omega)
 have hxl:=q4.len
 obtain⟨x2,e2,r2,t2,o2⟩:=qkx (N:=N) (a:=m-i1) (b:=m) (n:=i1) (q4.ok hok) (by omega) (by omega) hN
 refine⟨x2,?_,q4.trans (r2.mono (by omega) (by omega)),?_⟩
 ·unfold qb3
  rw[wN (z:=(m:Int)-a) (by omega) (by omega),wN (z:=(b:Int)-m) (by omega) (by omega),show(m:Int)-(a:Int)=((m-a:Nat):Int) by omega,show(b:Int)-(m:Int)=((b-m:Nat):Int) by omega,e1]
  simp only[Option.bind_some]
  rw[wN (by omega) (by omega),show(m:Int)-(i1:Int)=((m-i1:Nat):Int) by omega,e2];rfl
 ·by_cases hi:i1=m-a
  ·have:m-i1=a:=by omega
   rw[this] at t2
   rw[t2 q1];exact q5 hi
  ·rw[o2 a (by omega) (by omega)];exact q6 (by omega)
theorem half{i j:Nat}(h:i+j≤100000):ishr .u64 (IntKind.wrap .u64 (IntKind.wrap .i64 ((i:Int)+(j:Int)))) 1=some (((i+j) / 2:Nat):Int):=by
 rw[wN (by omega) (by omega)]
 have e:IntKind.wrap .u64 ((i:Int)+(j:Int))=(i:Int)+(j:Int):=qkl (by unfold InR;rw[show IntKind.u64.min=0 from rfl,show IntKind.u64.max=18446744073709551615 from rfl];omega)
 rw[e]
 unfold ishr
 rw[if_neg (by decide),Int.fdiv_eq_ediv_of_nonneg _ (by decide)]
 congr 1
def qoa(N:Nat):Prop:=∀ (a m b:Nat) (x:List Match),OkM x→a<m→m<b→b≤x.length→(b-a)+30000≤N →
 ∃ x',qap N (a:Int) (m:Int) (b:Int) x=some x'∧Res x x' a b∧(topM x a→topM x' a)∧(topM x m→(∀ k,a≤k→k<m→¬ topM x k)→topM x' a)
theorem qnL{x:List Match}{k:Nat}{y:Match}(hok:OkM x)(hy:x[k]? = some y)(h:¬ topM x k):y.Similar<1000:=by
 have:=hok.bnd y (qbQ hy)
 by_cases e:y.Similar=1000
 ·exact absurd ⟨y,hy,e⟩ h
 ·omega
theorem qhF{x:List Match}{k:Nat}{y:Match}(hy:x[k]? = some y)(h:topM x k):y.Similar=1000:=by
 obtain⟨z,h1,h2⟩:=h
 rw[hy] at h1;cases h1;exact h2
theorem qva{N a b:Nat}{x:List Match}(hok:OkM x)(hb:a+1<b)(hbl:b≤x.length)(hN:30000≤N)(R:Int→Int→Int→List Match→Option (List Match)) :
  ∃ x',((iter (λst=>qaZ R N (a:Int) x st.1 st.2) N (((a+1:Nat):Int),(b:Int))).bind λo6=>
  (iter (λst=>qa0 R N o6 st.1 st.2) N ((a:Int),x)).bind λo79=>some o79)=some x'∧Res x x' a b∧(topM x a→topM x' a)∧(topM x (a+1)→¬ topM x a→topM x' a):=by
 have hl:=hok.len
 obtain⟨ya,hya⟩:∃ y,x[a]? = some y:=⟨_,List.getElem?_eq_getElem (by omega)⟩
 have key:∀ n (i j:Nat),a+1≤i→i≤j→j≤b→j-i<n→(topM x a→i=a+1)→(topM x (a+1)→¬ topM x a→a+1<j) →
   ∃ r:Nat,iter (λst=>qaZ R N (a:Int) x st.1 st.2) n ((i:Int),(j:Int))=some (r:Int)∧a+1≤r∧r≤b∧(topM x a→r=a+1)∧(topM x (a+1)→¬ topM x a→a+1<r):=by
  intro n
  induction n with
  | zero=>intro i j h1 h2 h3 h4;omega
  | succ n ih=>
   intro i j h1 h2 h3 h4 hA hB
   rw[iter]
   by_cases hij:i<j
   ·obtain⟨yh,hyh⟩:∃ y,x[(i+j) / 2]? = some y:=⟨_,List.getElem?_eq_getElem (by omega)⟩
    have e:qaZ R N (a:Int) x (i:Int) (j:Int)=some (.inl (bif decide (ya.Similar-yh.Similar<0) then ((((i+j) / 2+1:Nat):Int),(j:Int)) else ((i:Int),(((i+j) / 2:Nat):Int)))):=by
     unfold qaZ
     rw[decide_eq_true (by omega),cond_true,half (by omega)]
     simp only[Option.bind_some]
     rw[wN (z:=(((i+j) / 2:Nat):Int)) (by omega) (by omega),wN (by omega) (by omega)]
     simp only[ix hyh,ix hya,Option.bind_some,qkR hok hyh hya]
     cases decide (ya.Similar-yh.Similar<0) <;> rfl
    simp only[e]
    have hyhb:=hok.bnd yh (qbQ hyh)
    by_cases hc:ya.Similar-yh.Similar<0
    ·rw[decide_eq_true hc,cond_true]
     refine ih ((i+j) / 2+1) j (by omega) (by omega) h3 (by omega) (λht=>?_) hB
     have:=qhF hya ht;omega
    ·rw[decide_eq_false hc,cond_false]
     refine ih i ((i+j) / 2) h1 (by omega) (by omega) (by omega) hA (λht hn=>?_)
     have h7:=hB ht hn
     have h8:=qnL hok hya hn
     by_cases he:(i+j) / 2=a+1
     ·rw[he] at hyh
      have:=qhF hyh ht;omega
     ·omega
   ·have e:qaZ R N (a:Int) x (i:Int) (j:Int)=some (.inr (i:Int)):=by
     unfold qaZ
     rw[decide_eq_false (by omega)];rfl
    simp only[e]
    exact⟨i,rfl,h1,by omega,hA,λht hn=>by have:=hB ht hn;omega⟩
 obtain⟨r,e1,r1,r2,hA,hB⟩:=key N (a+1) b (Nat.le_refl _) (by omega) (Nat.le_refl _) (by omega) (λ_=>rfl) (λ_ _=>hb)
 rw[e1]
 simp only[Option.bind_some]
 have mv:∀ n (k:Nat) (y:List Match),a≤k→k+1≤r→r-k<n+1→Res x y a b→(k=a→y=x)→(a<k→y[a]? = x[a+1]?) →
   ∃ x',iter (λst=>qa0 R N (r:Int) st.1 st.2) n ((k:Int),y)=some x'∧Res x x' a b∧(r=a+1→x'=x)∧(a+1<r→x'[a]? = x[a+1]?):=by
  intro n
  induction n with
  | zero=>intro k y h1 h2 h3;omega
  | succ n ih=>
   intro k y h1 h2 h3 hr h4 h5
   have hyl:=hr.len
   rw[iter]
   by_cases hk:k+1<r
   ·obtain⟨x1,s1,s2,s3,s4,s5⟩:=ql0 (x:=y) (p:=k) (q:=k+1) (lo:=a) (hi:=b) (by omega) (by omega) (by omega) (by omega) (by omega)
    have e:qa0 R N (r:Int) (k:Int) y=some (.inl (((k+1:Nat):Int),x1)):=by
     unfold qa0
     rw[wN (by omega) (by omega),decide_eq_true (by omega),cond_true]
     show(Option.bind (ql4 y (k:Int) ((k+1:Nat):Int)) _)=_
     rw[s1];rfl
    simp only[e]
    refine ih (k+1) x1 (by omega) (by omega) (by omega) (hr.trans s2) (λh=>by omega) (λ_=>?_)
    by_cases hka:k=a
    ·have hyx:=h4 hka
     subst hka
     rw[s3,hyx]
    ·rw[s5 a (by omega) (by omega)];exact h5 (by omega)
   ·have e:qa0 R N (r:Int) (k:Int) y=some (.inr y):=by
     unfold qa0
     rw[wN (by omega) (by omega),decide_eq_false (by omega)];rfl
    simp only[e]
    exact⟨y,rfl,hr,λh=>h4 (by omega),λh=>h5 (by omega)⟩
 obtain⟨x',e2,q1,q2,q3⟩:=mv N a x (Nat.le_refl _) (by omega) (by omega) .refl (λ_=>rfl) (λh=>by omega)
 rw[e2]
 refine⟨x',rfl,q1,λht=>?_,λht hn=>?_⟩
 ·rw[q2 (hA ht)];exact ht
 ·obtain⟨y,h1,h2⟩:=ht
  exact⟨y,by rw[q3 (hB ⟨y,h1,h2⟩ hn)];exact h1,h2⟩
theorem qu8{N a m:Nat}{x:List Match}(hok:OkM x)(ham:a<m)(hbl:m<x.length)(hN:30000≤N)(R:Int→Int→Int→List Match→Option (List Match)) :
  ∃ x',((iter (λst=>qaW R N (m:Int) x st.1 st.2) N ((a:Int),(m:Int))).bind λo186=>
  (iter (λst=>qaX R N o186 st.1 st.2) N ((m:Int),x)).bind λo259=>some o259)=some x'∧Res x x' a (m+1)∧(topM x a→topM x' a)∧(topM x m→(∀ k,a≤k→k<m→¬ topM x k)→topM x' a):=by
 have hl:=hok.len
 obtain⟨ym,hym⟩:∃ y,x[m]? = some y:=⟨_,List.getElem?_eq_getElem (by omega)⟩
 have hymb:=hok.bnd ym (qbQ hym)
 have key:∀ n (i j:Nat),a≤i→i≤j→j≤m→j-i<n→(topM x a→a<j)→(topM x m→(∀ k,a≤k→k<m→¬ topM x k)→i=a) →
   ∃ r:Nat,iter (λst=>qaW R N (m:Int) x st.1 st.2) n ((i:Int),(j:Int))=some (r:Int)∧a≤r∧r≤m∧(topM x a→a<r)∧(topM x m→(∀ k,a≤k→k<m→¬ topM x k)→r=a):=by
  intro n
  induction n with
  | zero=>intro i j h1 h2 h3 h4;omega
  | succ n ih=>
   intro i j h1 h2 h3 h4 hA hB
   rw[iter]
   by_cases hij:i<j
   ·obtain⟨yh,hyh⟩:∃ y,x[(i+j) / 2]? = some y:=⟨_,List.getElem?_eq_getElem (by omega)⟩
    have e:qaW R N (m:Int) x (i:Int) (j:Int)=some (.inl (bif !decide (yh.Similar-ym.Similar<0) then ((((i+j) / 2+1:Nat):Int),(j:Int)) else ((i:Int),(((i+j) / 2:Nat):Int)))):=by
     unfold qaW
     rw[decide_eq_true (by omega),cond_true,half (by omega)]
     simp only[Option.bind_some]
     rw[wN (z:=(((i+j) / 2:Nat):Int)) (by omega) (by omega),wN (by omega) (by omega)]
     simp only[ix hyh,ix hym,Option.bind_some,qkR hok hym hyh]
     cases decide (yh.Similar-ym.Similar<0) <;> rfl
    simp only[e]
    have hyhb:=hok.bnd yh (qbQ hyh)
    by_cases hc:yh.Similar-ym.Similar<0
    ·rw[decide_eq_true hc,Bool.not_true,cond_false]
     refine ih i ((i+j) / 2) h1 (by omega) (by omega) (by omega) (λht=>?_) hB
     by_cases he:(i+j) / 2=a
     ·rw[he] at hyh
      have:=qhF hyh ht;omega
     ·omega
    ·rw[decide_eq_false hc,Bool.not_false,cond_true]
     refine ih ((i+j) / 2+1) j (by omega) (by omega) h3 (by omega) hA (λht hn=>?_)
     have h7:=qhF hym ht
     have h8:=qnL hok hyh (hn _ (by omega) (by omega))
     omega
   ·have e:qaW R N (m:Int) x (i:Int) (j:Int)=some (.inr (i:Int)):=by
     unfold qaW
     rw[decide_eq_false (by omega)];rfl
    simp only[e]
    exact⟨i,rfl,h1,by omega,λht=>by have:=hA ht;omega,hB⟩
 obtain⟨r,e1,r1,r2,hA,hB⟩:=key N a m (Nat.le_refl _) (by omega) (Nat.le_refl _) (by omega) (λ_=>ham) (λ_ _=>rfl)
 rw[e1]
 simp only[Option.bind_some]
 have mv:∀ n (k:Nat) (y:List Match),r≤k→k≤m→k-r<n→Res x y a (m+1)→y[k]? = x[m]? → (∀ q,q<k→y[q]? = x[q]?) →
   ∃ x',iter (λst=>qaX R N (r:Int) st.1 st.2) n ((k:Int),y)=some x'∧Res x x' a (m+1)∧x'[r]? = x[m]? ∧ (∀ q,q<r→x'[q]? = x[q]?):=by
  intro n
  induction n with
  | zero=>intro k y h1 h2 h3;omega
  | succ n ih=>
   intro k y h1 h2 h3 hr h4 h5
   have hyl:=hr.len
   rw[iter]
   by_cases hk:r<k
   ·obtain⟨x1,s1,s2,s3,s4,s5⟩:=ql0 (x:=y) (p:=k) (q:=k-1) (lo:=a) (hi:=m+1) (by omega) (by omega) (by omega) (by omega) (by omega)
    have e:qaX R N (r:Int) (k:Int) y=some (.inl (((k-1:Nat):Int),x1)):=by
     unfold qaX
     rw[decide_eq_true (by omega),cond_true,show(k:Int)-1=((k-1:Nat):Int) by omega]
     show(Option.bind (ql4 y (k:Int) ((k-1:Nat):Int)) _)=_
     rw[s1];rfl
    simp only[e]
    exact ih (k-1) x1 (by omega) (by omega) (by omega) (hr.trans s2) (by rw[s4];exact h4) (λq hq=>by rw[s5 q (by omega) (by omega)];exact h5 q (by omega))
   ·obtain rfl:k=r:=by omega
    have e:qaX R N (k:Int) (k:Int) y=some (.inr y):=by
     unfold qaX
     rw[decide_eq_false (by omega)];rfl
    simp only[e]
    exact⟨y,rfl,hr,h4,h5⟩
 obtain⟨x',e2,q1,q2,q3⟩:=mv N m x r2 (Nat.le_refl _) (by omega) .refl rfl (λ_ _=>rfl)
 rw[e2]
 refine⟨x',rfl,q1,λht=>?_,λht hn=>?_⟩
 ·have h7:=hA ht
  obtain⟨y,h1,h2⟩:=ht
  exact⟨y,by rw[q3 a h7];exact h1,h2⟩
 ·have h7:=hB ht hn
  obtain⟨y,h1,h2⟩:=ht
  rw[h7] at q2
  exact⟨y,by rw[q2];exact h1,h2⟩
end Go.Proofs.YtkhjeeakflefjaaGreatDoor
namespace Go.Proofs.YtkhjeeakflefjaaGreatDoor
open Go.X
theorem qlN{q:Nat}(h:q≤100000):IntKind.wrap .i64 ((q:Nat):Int)=(q:Int):=wN (by omega) (by omega)
theorem qpL{N a m b mid s0 r0:Nat}{x:List Match}(hok:OkM x)(h1:a+1<m)(h2:m+1<b)(hb:b≤x.length)(hmid:mid=(a+b) / 2)(hN:30000≤N)(R:Int→Int→Int→List Match→Option (List Match))
  (hs:(mid<m∧s0=mid+m-b∧r0=mid)∨(m≤mid∧s0=a∧r0=m)) :
  ∃ st:Nat,iter (λw=>qaY R N (m:Int) x (mid:Int) w.1 w.2) N ((s0:Int),(r0:Int))=some (st:Int)∧s0≤st∧st≤r0∧(topM x a→a<st)∧(topM x m→(∀ k,a≤k→k<m→¬ topM x k)→st<mid):=by
 have hl:=hok.len
 have key:∀ n (i j:Nat),s0≤i→i≤j→j≤r0→j-i<n→(topM x a→a<j)→(topM x m→(∀ k,a≤k→k<m→¬ topM x k)→i<mid) →
   ∃ st:Nat,iter (λw=>qaY R N (m:Int) x (mid:Int) w.1 w.2) n ((i:Int),(j:Int))=some (st:Int)∧s0≤st∧st≤r0∧(topM x a→a<st)∧(topM x m→(∀ k,a≤k→k<m→¬ topM x k)→st<mid):=by
  intro n
  induction n with
  | zero=>intro i j q1 q2 q3 q4;omega
  | succ n ih=>
   intro i j q1 q2 q3 q4 hA hB
   rw[iter]
   by_cases hij:i<j
   ·obtain⟨yc,hyc⟩:∃ y,x[(i+j) / 2]? = some y:=⟨_,List.getElem?_eq_getElem (by omega)⟩
    obtain⟨yp,hyp⟩:∃ y,x[mid+m-1-(i+j) / 2]? = some y:=⟨_,List.getElem?_eq_getElem (by omega)⟩
    have e:qaY R N (m:Int) x (mid:Int) (i:Int) (j:Int)=some (.inl (bif !decide (yc.Similar-yp.Similar<0) then ((((i+j) / 2+1:Nat):Int),(j:Int)) else ((i:Int),(((i+j) / 2:Nat):Int)))):=by
     unfold qaY
     rw[decide_eq_true (by omega),cond_true,half (by omega)]
     simp only[Option.bind_some]
     rw[qlN (q:=mid) (by omega),qlN (q:=(i+j) / 2) (by omega),wN (z:=(mid:Int)+m) (by omega) (by omega),wN (z:=(mid:Int)+m-1) (by omega) (by omega),wN (z:=(mid:Int)+m-1-(((i+j) / 2:Nat):Int)) (by omega) (by omega),wN (by omega) (by omega),show(mid:Int)+m-1-(((i+j) / 2:Nat):Int)=((mid+m-1-(i+j) / 2:Nat):Int) by omega]
     simp only[ix hyp,ix hyc,Option.bind_some,qkR hok hyp hyc]
     cases decide (yc.Similar-yp.Similar<0) <;> rfl
    simp only[e]
    have hycb:=hok.bnd yc (qbQ hyc)
    have hypb:=hok.bnd yp (qbQ hyp)
    by_cases hc:yc.Similar-yp.Similar<0
    ·rw[decide_eq_true hc,Bool.not_true,cond_false]
     refine ih i ((i+j) / 2) q1 (by omega) (by omega) (by omega) (λht=>?_) hB
     by_cases he:(i+j) / 2=a
     ·rw[he] at hyc
      have:=qhF hyc ht;omega
     ·omega
    ·rw[decide_eq_false hc,Bool.not_false,cond_true]
     refine ih ((i+j) / 2+1) j (by omega) (by omega) q3 (by omega) hA (λht hn=>?_)
     by_cases he:(i+j) / 2+1=mid
     ·exfalso
      rw[show mid+m-1-(i+j) / 2=m by omega] at hyp
      have h7:=qhF hyp ht
      have h8:=qnL hok hyc (hn _ (by omega) (by omega))
      omega
     ·omega
   ·have e:qaY R N (m:Int) x (mid:Int) (i:Int) (j:Int)=some (.inr (i:Int)):=by
     unfold qaY
     rw[decide_eq_false (by omega)];rfl
    simp only[e]
    exact⟨i,rfl,q1,by omega,λht=>by have:=hA ht;omega,hB⟩
 exact key N s0 r0 (Nat.le_refl _) (by omega) (Nat.le_refl _) (by omega) (λ_=>by omega) (λ_ _=>by omega)
theorem qqR{N:Nat}(ih:qoa N):qoa (N+1):=by
 intro a m b x hok h1 h2 hb hN
 have hl:=hok.len
 show ∃ x',qbJ (qap N) N (a:Int) (m:Int) (b:Int) x=some x'∧_
 unfold qbJ
 rw[wN (z:=(m:Int)-a) (by omega) (by omega),wN (z:=(b:Int)-m) (by omega) (by omega)]
 by_cases c1:m=a+1
 ·subst c1
  rw[show((((a+1:Nat):Int)-(a:Int))==1)=true from beq_iff_eq.2 (by omega),cond_true]
  obtain⟨x',e,r,t1,t2⟩:=qva hok h2 hb (N:=N) (by omega) (qap N)
  exact⟨x',e,r,t1,λht hn=>t2 ht (hn a (Nat.le_refl _) (by omega))⟩
 rw[show(((m:Int)-(a:Int))==1)=false from beq_eq_false_iff_ne.2 (by omega),cond_false]
 by_cases c2:b=m+1
 ·subst c2
  rw[show((((m+1:Nat):Int)-(m:Int))==1)=true from beq_iff_eq.2 (by omega),cond_true]
  exact qu8 hok h1 (by omega) (N:=N) (by omega) (qap N)
 rw[show(((b:Int)-(m:Int))==1)=false from beq_eq_false_iff_ne.2 (by omega),cond_false,half (by omega)]
 generalize hmid:(a+b) / 2=mid
 simp only[Option.bind_some]
 rw[qlN (q:=mid) (by omega),wN (z:=(mid:Int)+m) (by omega) (by omega)]
 obtain⟨s0,r0,e0,hs0⟩:∃ s0 r0:Nat,(bif (decide ((m:Int)>(mid:Int))) then some ((IntKind.wrap .i64 ((mid:Int)+m-b)),(mid:Int)) else some ((a:Int),(m:Int)))=some ((s0:Int),(r0:Int))∧((mid<m∧s0=mid+m-b∧r0=mid)∨(m≤mid∧s0=a∧r0=m)):=by
  by_cases hm:mid<m
  ·refine⟨mid+m-b,mid,?_,.inl ⟨hm,rfl,rfl⟩⟩
   rw[decide_eq_true (by omega),cond_true,wN (by omega) (by omega),show(mid:Int)+m-b=((mid+m-b:Nat):Int) by omega]
  ·refine⟨a,m,?_,.inr ⟨by omega,rfl,rfl⟩⟩
   rw[decide_eq_false (by omega),cond_false]
 rw[e0]
 simp only[Option.bind_some]
 obtain⟨st,e1,l1,l2,hA,hB⟩:=qpL (N:=N) (mid:=mid) hok (show a+1<m by omega) (show m+1<b by omega) hb hmid.symm (by omega) (qap N) hs0
 rw[e1]
 simp only[Option.bind_some]
 have hst:a≤st∧st≤mid∧st≤m:=by omega
 obtain⟨en,hen⟩:∃ en:Nat,en=mid+m-st:=⟨_,rfl⟩
 have hen1:IntKind.wrap .i64 ((mid:Int)+m-st)=(en:Int):=by rw[wN (by omega) (by omega)];omega
 rw[hen1]
 have henb:m≤en∧en≤b:=by omega
 -- the right part
 have tail:∀ z:List Match,OkM z→z.length=x.length→∃ w,(bif (decide ((mid:Int)<(en:Int))) then
      bif (decide ((en:Int)<(b:Int))) then
       (qap N (mid:Int) (en:Int) (b:Int) z).bind λr472=>
       some r472
      else
       some z
     else
      some z)=some w∧Res z w mid b:=by
  intro z hz hzl
  by_cases g1:mid<en
  ·rw[decide_eq_true (by omega),cond_true]
   by_cases g2:en<b
   ·rw[decide_eq_true (by omega),cond_true]
    obtain⟨w,e,r,_⟩:=ih mid en b z hz g1 g2 (by omega) (by omega)
    rw[e]
    exact⟨w,rfl,r⟩
   ·rw[decide_eq_false (by omega),cond_false]
    exact⟨z,rfl,.refl⟩
  ·rw[decide_eq_false (by omega),cond_false]
   exact⟨z,rfl,.refl⟩
 have tailTop:∀ z w:List Match,Res z w mid b→topM z a→topM w a:=λz w r h=>(r.topOut (.inl (by omega))).2 h
 -- both parts
 have rest:∀ y:List Match,OkM y→y.length=x.length→∃ w,(bif (decide ((a:Int)<(st:Int))) then
     (bif (decide ((st:Int)<(mid:Int))) then
       (qap N (a:Int) (st:Int) (mid:Int) y).bind λr462=>
       some r462
      else
       some y).bind λo457=>
     bif (decide ((mid:Int)<(en:Int))) then
      bif (decide ((en:Int)<(b:Int))) then
       (qap N (mid:Int) (en:Int) (b:Int) o457).bind λr472=>
       some r472
      else
       some o457
     else
      some o457
    else
     bif (decide ((mid:Int)<(en:Int))) then
      bif (decide ((en:Int)<(b:Int))) then
       (qap N (mid:Int) (en:Int) (b:Int) y).bind λr479=>
       some r479
      else
       some y
     else
      some y)=some w∧Res y w a b∧(topM y a→topM w a)∧(topM y st→(∀ k,a≤k→k<st→¬ topM y k)→st<mid→topM w a):=by
  intro y hy hyl
  by_cases g1:a<st
  ·rw[decide_eq_true (by omega),cond_true]
   obtain⟨z,e2,r2,u1,u2⟩:∃ z,(bif (decide ((st:Int)<(mid:Int))) then (qap N (a:Int) (st:Int) (mid:Int) y).bind λr462=>some r462 else some y)=some z∧Res y z a mid∧(topM y a→topM z a)∧(topM y st→(∀ k,a≤k→k<st→¬ topM y k)→st<mid→topM z a):=by
    by_cases g2:st<mid
    ·rw[decide_eq_true (by omega),cond_true]
     obtain⟨z,e,r,v1,v2⟩:=ih a st mid y hy g1 g2 (by omega) (by omega)
     rw[e]
     exact⟨z,rfl,r,v1,λp q _=>v2 p q⟩
    ·rw[decide_eq_false (by omega),cond_false]
     exact⟨y,rfl,.refl,id,λ_ _ h=>absurd h g2⟩
   rw[e2]
   simp only[Option.bind_some]
   obtain⟨w,e3,r3⟩:=tail z (r2.ok hy) (by rw[r2.len];exact hyl)
   exact⟨w,e3,(r2.mono (Nat.le_refl _) (by omega)).trans (r3.mono (by omega) (Nat.le_refl _)),λh=>tailTop z w r3 (u1 h),λh h' h''=>tailTop z w r3 (u2 h h' h'')⟩
  ·rw[decide_eq_false (by omega),cond_false]
   obtain⟨w,e3,r3⟩:=tail y hy hyl
   have hsa:st=a:=by omega
   refine⟨w,e3,r3.mono (by omega) (Nat.le_refl _),λh=>tailTop y w r3 h,λh _ _=>tailTop y w r3 ?_⟩
   rw[← hsa];exact h
 by_cases g1:st<m
 ·rw[decide_eq_true (by omega),cond_true]
  by_cases g2:m<en
  ·obtain⟨x1,e2,r2,t2⟩:=qta (N:=N) hok g1 g2 (by omega) (by omega)
   rw[decide_eq_true (by omega),cond_true,e2]
   simp only[Option.bind_some]
   obtain⟨w,e3,r3,u1,u2⟩:=rest x1 (r2.ok hok) r2.len
   refine⟨w,e3,(r2.mono (by omega) (by omega)).trans r3,λht=>u1 ((r2.topOut (.inl (hA ht))).2 ht),λht hn=>u2 ?_ (λk k1 k2 k3=>hn k k1 (by omega) ((r2.topOut (.inl k2)).1 k3)) (hB ht hn)⟩
   obtain⟨y,y1,y2⟩:=ht
   exact⟨y,by rw[t2];exact y1,y2⟩
  ·rw[decide_eq_false (by omega),cond_false]
   simp only[Option.bind_some]
   obtain⟨w,e3,r3,u1,u2⟩:=rest x hok rfl
   exact⟨w,e3,r3,u1,λht hn=>absurd (hB ht hn) (by omega)⟩
 ·rw[decide_eq_false (by omega),cond_false]
  obtain⟨w,e3,r3,u1,u2⟩:=rest x hok rfl
  have hsm:st=m:=by omega
  refine⟨w,e3,r3,u1,λht hn=>u2 (by rw[hsm];exact ht) (λk k1 k2=>hn k k1 (by omega)) (hB ht hn)⟩
theorem qrq:∀ N,qoa N:=by
 intro N
 induction N with
 | zero=>intro a m b x _ _ _ _ h;omega
 | succ N ih=>exact qqR ih
theorem qrM{N:Nat}{x:List Match}(hok:OkM x)(hx:x.length≤30)(hN:60000≤N) :
  ∃ x',qbu N x=some x'∧x'.length=x.length∧(∀ y∈x',y∈x)∧((∃ y∈x,y.Similar=1000)→topM x' 0):=by
 obtain⟨M,hM⟩:∃ M,N=M+2:=⟨N-2,by omega⟩
 have two:∀ {σ β:Type} (body:σ→Option (σ⊕β)) (s1 s2:σ) (r:β),body s1=some (.inl s2)→body s2=some (.inr r)→iter body N s1=some r:=by
  intro σ β body s1 s2 r h1 h2
  rw[hM,iter,h1]
  simp only
  rw[iter,h2]
 have one:∀ {σ β:Type} (body:σ→Option (σ⊕β)) (s1:σ) (r:β),body s1=some (.inr r)→iter body N s1=some r:=by
  intro σ β body s1 r h1
  rw[hM,iter,h1]
 unfold qbu qcy
 have htop:(∃ y∈x,y.Similar=1000)→∃ k,k<x.length∧topM x k:=by
  rintro⟨y,hy,hs⟩
  obtain⟨k,hk⟩:=List.mem_iff_getElem?.1 hy
  exact⟨k,qdK hk,y,hk,hs⟩
 by_cases h20:20≤x.length
 ·obtain⟨x1,e1,r1,a1,b1⟩:=qmF (N:=N) (a:=0) (b:=20) hok (by omega) h20 (by omega)
  have hs1:iter (λs=>qbj N (x.length:Int) s.1 s.2.1 s.2.2) N ((0:Int),(20:Int),x)=some (x1,(20:Int)):=by
   refine two _ _ ((20:Int),(40:Int),x1) _ ?_ ?_
   ·unfold qbj
    simp only
    rw[decide_eq_true (by omega),cond_true]
    have e1':qaK N 0 20 x=some x1:=e1
    rw[e1'];rfl
   ·unfold qbj
    simp only
    rw[decide_eq_false (by omega)];rfl
  rw[hs1]
  simp only[Option.bind_some]
  obtain⟨x2,e2,r2,a2,b2⟩:=qmF (N:=N) (a:=20) (b:=x.length) (r1.ok hok) (by omega) (by rw[r1.len];omega) (by omega)
  have e2':qaK N 20 (x.length:Int) x1=some x2:=e2
  rw[e2']
  simp only[Option.bind_some]
  by_cases h21:20<x.length
  ·obtain⟨x3,e3,r3,u1,u2⟩:=qrq N 0 20 x.length x2 (r2.ok (r1.ok hok)) (by omega) h21 (by rw[r2.len,r1.len];omega) (by omega)
   have hin:iter (λs=>qbR N (x.length:Int) 20 s.1 s.2.1 s.2.2) N ((0:Int),(IntKind.wrap .i64 ((2:Int)*20)),x2)=some (x2,(0:Int)):=by
    refine one _ _ _ ?_
    unfold qbR
    simp only
    rw[wN (by omega) (by omega),decide_eq_false (by omega)];rfl
   have hs2:iter (λs=>qaR N (x.length:Int) s.1 s.2) N ((20:Int),x2)=some x3:=by
    refine two _ _ ((40:Int),x3) _ ?_ ?_
    ·unfold qaR
     simp only
     rw[decide_eq_true (by omega),cond_true,hin]
     simp only[Option.bind_some]
     rw[wN (z:=(0:Int)+20) (by omega) (by omega),decide_eq_true (by omega),cond_true]
     have e3':qap N 0 (0+20) (x.length:Int) x2=some x3:=e3
     rw[e3',wN (by omega) (by omega)];rfl
    ·unfold qaR
     simp only
     rw[decide_eq_false (by omega)];rfl
   rw[hs2]
   refine⟨x3,rfl,by rw[r3.len,r2.len,r1.len],λy hy=>r1.sub y (r2.sub y (r3.sub y hy)),λht=>?_⟩
   obtain⟨k,k1,k2⟩:=htop ht
   by_cases hk:k<20
   ·exact u1 ((r2.topOut (.inl (by omega))).2 (a1 k (Nat.zero_le _) hk k2))
   ·have k3:topM x1 k:=(r1.topOut (.inr (by omega))).2 k2
    have k4:topM x2 20:=a2 k (by omega) k1 k3
    by_cases h0:topM x2 0
    ·exact u1 h0
    ·refine u2 k4 (λq q1 q2 q3=>h0 ?_)
     have q4:topM x1 q:=(r2.topOut (.inl q2)).1 q3
     exact(r2.topOut (.inl (by omega))).2 (b1 q q1 q2 q4)
  ·have hs2:iter (λs=>qaR N (x.length:Int) s.1 s.2) N ((20:Int),x2)=some x2:=by
    refine one _ _ _ ?_
    unfold qaR
    simp only
    rw[decide_eq_false (by omega)];rfl
   rw[hs2]
   refine⟨x2,rfl,by rw[r2.len,r1.len],λy hy=>r1.sub y (r2.sub y hy),λht=>?_⟩
   obtain⟨k,k1,k2⟩:=htop ht
   exact(r2.topOut (.inl (by omega))).2 (a1 k (Nat.zero_le _) (by omega) k2)
 ·have hs1:iter (λs=>qbj N (x.length:Int) s.1 s.2.1 s.2.2) N ((0:Int),(20:Int),x)=some (x,(0:Int)):=by
   refine one _ _ _ ?_
   unfold qbj
   simp only
   rw[decide_eq_false (by omega)];rfl
  rw[hs1]
  simp only[Option.bind_some]
  obtain⟨x1,e1,r1,a1,b1⟩:=qmF (N:=N) (a:=0) (b:=x.length) hok (by omega) (Nat.le_refl _) (by omega)
  have e1':qaK N 0 (x.length:Int) x=some x1:=e1
  rw[e1']
  simp only[Option.bind_some]
  have hs2:iter (λs=>qaR N (x.length:Int) s.1 s.2) N ((20:Int),x1)=some x1:=by
   refine one _ _ _ ?_
   unfold qaR
   simp only
   rw[decide_eq_false (by omega)];rfl
  rw[hs2]
  refine⟨x1,rfl,r1.len,r1.sub,λht=>?_⟩
  obtain⟨k,k1,k2⟩:=htop ht
  exact a1 k (Nat.zero_le _) k1 k2
end Go.Proofs.YtkhjeeakflefjaaGreatDoor
namespace Go.Proofs.YtkhjeeakflefjaaGreatDoor
open Go.X
theorem qsK{N:Nat}{l:List Segment}(hN:l.length<N):∃ b,qfw N l=some b∧(b=true→l.length≤30∧∀ x∈l,x.Source.length≤200∧x.Target.length≤200):=by
 unfold qfw
 refine qbI l (λs=>qd5 N l s) (λk s=>s=(k:Int)∧∀ x∈l.take k,x.Source.length≤200∧x.Target.length≤200) (λo=>o=.inr false∨(o=.inl ()∧∀ x∈l,x.Source.length≤200∧x.Target.length≤200)) N 0 hN ⟨rfl,by simp⟩ (λk x s hx hJ=>?_) (λs hJ=>?_) λo h1 h2=>?_
 ·obtain⟨rfl,hJ⟩:=hJ
  simp only[qd5,dk hx,cond_true,ix hx,Option.bind_some]
  by_cases c1:x.Source.length>200
  ·rw[decide_eq_true (by omega),cond_true]
   exact⟨_,rfl,(λs' h=>by cases h),(λb h=>by cases h;exact .inl rfl)⟩
  ·rw[decide_eq_false (by omega),cond_false]
   by_cases c2:x.Target.length>200
   ·rw[decide_eq_true (by omega),cond_true]
    exact⟨_,rfl,(λs' h=>by cases h),(λb h=>by cases h;exact .inl rfl)⟩
   ·rw[decide_eq_false (by omega),cond_false]
    refine⟨_,rfl,?_,λb h=>by cases h⟩
    intro s' h;cases h
    refine⟨by simp,λy hy=>?_⟩
    rw[qbO hx] at hy
    rcases List.mem_append.1 hy with h | h
    ·exact hJ y h
    ·rw[List.mem_singleton.1 h];omega
 ·obtain⟨rfl,hJ⟩:=hJ
  simp only[qd5,dn,cond_false]
  exact⟨_,rfl,.inr ⟨rfl,by rw[List.take_length] at hJ;exact hJ⟩⟩
 ·rw[h1]
  rcases h2 with rfl | ⟨rfl,h2⟩
  ·exact⟨false,rfl,λh=>by cases h⟩
  ·refine⟨_,rfl,λh=>⟨?_,h2⟩⟩
   have:=of_decide_eq_true h
   omega
theorem qmz(N:Nat)(c:UInt8):∃ b,qd1 N (c.toNat:Int)=some b:=by
 have h:∀ c:UInt8,(qd1 0 (c.toNat:Int)).isSome=true:=λc=>by
  revert c
  exact qeg (by decide +kernel)
 exact Option.isSome_iff_exists.1 (h c)
theorem quv{N:Nat}{s:Str}{f:Nat}{c0:UInt8}(h0:s[f]? = some c0):∀ n i,i≤s.length→s.length-i<n→∃ e,iter (λst=>qcJ N s (f:Int) st) n (i:Int)=some ((e:Nat):Int)∧i≤e∧e≤s.length:=by
 intro n
 obtain⟨k0,hk0⟩:=qmz N c0
 induction n with
 | zero=>intro i h1 h2;omega
 | succ n ih=>
  intro i h1 h2
  rw[iter]
  have hstep:qcJ N s (f:Int) (i:Int)=some (.inl ((i:Int)+1))∧i<s.length∨qcJ N s (f:Int) (i:Int)=some (.inr (i:Int)):=by
   simp only[qcJ,ix h0,hk0,Option.bind_some]
   cases(k0==1) with
   | false=>exact .inr rfl
   | true=>
    simp only[cond_true]
    by_cases hi:i<s.length
    ·obtain⟨c,hc⟩:∃ c,s[i]? = some c:=⟨_,List.getElem?_eq_getElem hi⟩
     obtain⟨kc,hkc⟩:=qmz N c
     simp only[dk hc,cond_true,ix hc,hkc,Option.bind_some]
     cases(kc==1) with
     | true=>exact .inl ⟨rfl,hi⟩
     | false=>exact .inr rfl
    ·rw[decide_eq_false (by omega)]
     exact .inr rfl
  rcases hstep with⟨e,hi⟩ | e
  ·simp only[e]
   obtain⟨e,h3,h4,h5⟩:=ih (i+1) (by omega) (by omega)
   exact⟨e,h3,by omega,h5⟩
  ·simp only[e]
   exact⟨i,rfl,Nat.le_refl _,h1⟩
theorem qrN{N:Nat}{s:Str}(hN:4010≤N):∃ b,qfc N s=some b:=by
 unfold qfc
 by_cases hs:s.length>4000
 ·rw[decide_eq_true (by omega)];exact⟨_,rfl⟩
 rw[decide_eq_false (by omega),cond_false]
 have key:∀ n i (out:List Str),i≤s.length→s.length-i<n→out.length≤i→∃ w,iter (λst=>qcH N s st.1 st.2) n (out,(i:Int))=some w:=by
  intro n
  induction n with
  | zero=>intro i out h1 h2;omega
  | succ n ih=>
   intro i out h1 h2 ho
   rw[iter]
   by_cases hi:i<s.length
   ·obtain⟨c,hc⟩:∃ c,s[i]? = some c:=⟨_,List.getElem?_eq_getElem hi⟩
    obtain⟨kc,hkc⟩:=qmz N c
    obtain⟨e,h3,h4,h5⟩:=quv (N:=N) hc N (i+1) (by omega) (by omega)
    have h3':iter (λst=>qcJ N s (i:Int) st) N ((i:Int)+1)=some (e:Int):=h3
    have hstep:∃ out':List Str,qcH N s out (i:Int)=some (.inl (out',(e:Int)))∧out'.length≤i+1:=by
     simp only[qcH,dk hc,cond_true,h3',ix hc,hkc,Option.bind_some]
     cases(kc != 0) with
     | false=>exact⟨out,rfl,by omega⟩
     | true=>
      simp only[cond_true]
      rw[qi6 (by omega) h5]
      simp only[Option.bind_some]
      rw[appS (by simp;omega)]
      exact⟨_,rfl,by simp;omega⟩
    obtain⟨out',h6,h7⟩:=hstep
    simp only[h6]
    exact ih e out' h5 (by omega) (by omega)
   ·obtain rfl:i=s.length:=by omega
    simp only[qcH,dn,cond_false]
    exact⟨out,rfl⟩
 obtain⟨w,hw⟩:=key N 0 [] (by omega) (by omega) (by simp)
 have hw':iter (λst=>qcH N s st.1 st.2) N (([]:List Str),(0:Int))=some w:=hw
 unfold qfK
 rw[hw']
 exact⟨_,rfl⟩
theorem qjz{V:Type}(k k':Str)(x:V):∀ l:List (Str×V),mget (mput l k x) k'=if k'==k then some x else mget l k'
 | []=>by
  unfold mput mget
  rw[List.find?_cons]
  cases h:(k'==k) <;> simp[h]
 | (q,y)::r=>by
  have ih:=qjz k k' x r
  rw[mput]
  cases hk:(k==q) with
  | true=>
   rw[if_pos rfl]
   obtain rfl:=beq_iff_eq.1 hk
   unfold mget
   rw[List.find?_cons,List.find?_cons]
   cases h:(k'==k) <;> simp[h]
  | false=>
   rw[if_neg (by simp)]
   unfold mget at ih ⊢
   rw[List.find?_cons,List.find?_cons]
   cases h:(k'==q) with
   | true=>
    have:(k'==k)=false:=by
     cases h2:(k'==k) with
     | false=>rfl
     | true=>rw[← beq_iff_eq.1 h2,h] at hk;cases hk
    simp[this]
   | false=>exact ih
theorem qgy{V:Type}(k:Str)(x:V):∀ l:List (Str×V),(mput l k x).length≤l.length+1
 | []=>by simp[mput]
 | (q,y)::r=>by
  have ih:=qgy k x r
  rw[mput]
  split <;> simp
  omega
theorem qmn{α:Type}[Inhabited α][DecidableEq α]{xs:List α}{y:α}(h:y∈xs):y∈Lib.compact xs:=by
 obtain⟨j,hj⟩:=List.mem_iff_getElem?.1 h
 induction j using Nat.strongRecOn with
 | _ j ih=>
  have hjl:=qdK hj
  have hget:xs.toArray[j]! = y:=by
   obtain⟨h1,h2⟩:=List.getElem?_eq_some_iff.1 hj
   simp[h1,h2]
  cases hk:Lib.keeps xs.toArray j with
  | true=>
   simp only[Lib.compact,Lib.compactUpTo,List.mem_map,List.mem_filter,List.mem_range]
   exact⟨j,⟨hjl,hk⟩,hget⟩
  | false=>
   unfold Lib.keeps at hk
   rw[decide_eq_false_iff_not,not_or] at hk
   have h2:xs.toArray[j]! = xs.toArray[j-1]!:=Decidable.not_not.1 hk.2
   have hlt:j-1<xs.length:=by omega
   have h3:xs[j-1]? = some y:=by
    rw[List.getElem?_eq_getElem hlt,← hget,h2]
    simp[hlt]
   exact ih (j-1) (by omega) h3
theorem qqI{xs:List Int}(h:xs.Pairwise (·≤·)):(Lib.compact xs).Pairwise (·<·):=by
 unfold Lib.compact Lib.compactUpTo
 rw[List.pairwise_map]
 have hr:((List.range xs.length).filter (Lib.keeps xs.toArray)).Pairwise (·<·):=List.Pairwise.filter _ List.pairwise_lt_range
 refine List.Pairwise.imp_of_mem ?_ hr
 intro i j hi hj hij
 rw[List.mem_filter,List.mem_range] at hi hj
 have hk:=hj.2
 unfold Lib.keeps at hk
 have hk:=of_decide_eq_true hk
 have hne:xs.toArray[j]! ≠ xs.toArray[j-1]!:=by
  rcases hk with h | h
  ·omega
  ·exact h
 have g:∀ q,q<xs.length→xs.toArray[q]! = xs[q]!:=λq hq=>by simp[hq]
 have hle:∀ p q,p≤q→q<xs.length→xs.toArray[p]! ≤ xs.toArray[q]!:=by
  intro p q hpq hq
  have hp:p<xs.length:=by omega
  have e1:xs.toArray[p]! = xs[p]:=by simp[hp]
  have e2:xs.toArray[q]! = xs[q]:=by simp[hq]
  rw[e1,e2]
  rcases Nat.lt_or_ge p q with h1 | h1
  ·exact(List.pairwise_iff_getElem.1 h) p q hp hq h1
  ·obtain rfl:p=q:=by omega
   exact Int.le_refl _
 have h1:=hle i (j-1) (by omega) (by omega)
 have h2:=hle (j-1) j (by omega) hj.1
 omega
theorem qrg:∀ (l:List Int) (lo:Int) (n:Nat),l.Pairwise (·<·)→(∀ x∈l,lo≤x∧x<lo+n)→l.length≤n
 | [],_,_,_,_=>Nat.zero_le _
 | x::r,lo,n,h,hb=>by
  obtain⟨h1,h2⟩:=List.pairwise_cons.1 h
  have hx:=hb x (by simp)
  obtain⟨k,hk⟩:∃ k:Nat,(k:Int)=lo+n-(x+1):=⟨(lo+n-(x+1)).toNat,by omega⟩
  have ih:=qrg r (x+1) k h2 (λy hy=>by have:=h1 y hy;have:=hb y (by simp[hy]);omega)
  rw[List.length_cons]
  omega
def qfR(w:List Str):List Str:=bif (w.length:Int)==0 then [[]] else Lib.compact (qkY w)
theorem qow{N:Nat}{w:List Str}(h:w.length≤4000):qgh N w=some (qfR w):=by
 unfold qgh qfR
 cases((w.length:Int)==0) with
 | true=>rfl
 | false=>
  have e1:qlF w=some w:=by unfold qlF;rw[if_pos (by omega)]
  have e2:qlL w=some (qkY w):=by unfold qlL qkY;rw[if_pos (by omega)]
  simp only[cond_false,e1,e2,Option.bind_some]
theorem qmP(w:List Str):(qfR w).length≤w.length+1:=by
 unfold qfR
 cases((w.length:Int)==0) with
 | true=>simp
 | false=>
  have:=qjJ (qkY w)
  have e:(qkY w).length=w.length:=by unfold qkY;rw[List.length_mergeSort]
  simp only[cond_false];omega
theorem qrS(w:List Str):∃ k,k∈qfR w:=by
 unfold qfR
 cases h:((w.length:Int)==0) with
 | true=>exact⟨[],by simp⟩
 | false=>
  cases w with
  | nil=>cases h
  | cons a r=>exact⟨a,qmn (by unfold qkY;rw[List.mem_mergeSort];simp)⟩
end Go.Proofs.YtkhjeeakflefjaaGreatDoor
namespace Go.Proofs.YtkhjeeakflefjaaGreatDoor
open Go.X
def byW(m:Memory)(w:Str):List Int:=(mget m.byWord w).getD []
structure MI (N k:Nat) (m:Memory):Prop where
 segs:m.segments.length≤k
 seg:∀ g∈m.segments,g.source.length≤200∧g.target.length≤200∧g.words.length≤200∧qep N g.source=some g.words
 bw:m.byWord.length≤300*k
 lst:∀ w,(byW m w).length≤300*k
 idx:∀ w i,i∈byW m w→0≤i∧i<m.segments.length
 key:∀ (i:Nat) g,m.segments[i]? = some g→∀ w∈qfR g.words,(i:Int)∈byW m w
theorem MI.new(N:Nat):MI N 0 (Memory.mk [] []):=⟨Nat.le_refl _,λg hg=>by(cases hg),Nat.le_refl _,λw=>Nat.le_refl _,λw i hi=>by(cases hi),λi g hg=>by simp at hg⟩
section
variable {N k:Nat}
theorem quz{src tgt:Str}{m:Memory}(hk:m.segments.length<N):∃ o,iter (λs=>qc7 N src tgt m s) N 0=some o∧((o=.inr (9,m)∧m.segments≠[])∨o=.inl ()):=by
 refine qbI m.segments (λs=>qc7 N src tgt m s) (λk s=>s=(k:Int)) (λo=>(o=.inr (9,m)∧m.segments≠[])∨o=.inl ()) N 0 hk rfl (λk x s hx hJ=>?_) (λs hJ=>?_) λo h1 h2=>⟨o,h1,h2⟩
 ·subst hJ
  have hne:m.segments≠[]:=by intro e;rw[e] at hx;simp at hx
  simp only[qc7,dk hx,cond_true,ix hx,Option.bind_some]
  cases(x.source==src) with
  | false=>
   simp only[cond_false]
   exact⟨_,rfl,(λs' h=>by cases h;simp),(λb h=>by cases h)⟩
  | true=>
   simp only[cond_true]
   cases(x.target==tgt) with
   | false=>
    simp only[cond_false]
    exact⟨_,rfl,(λs' h=>by cases h;simp),(λb h=>by cases h)⟩
   | true=>
    simp only[cond_true]
    exact⟨_,rfl,(λs' h=>by cases h),(λb h=>by cases h;exact .inl ⟨rfl,hne⟩)⟩
 ·subst hJ
  simp only[qc7,dn,cond_false]
  exact⟨_,rfl,.inr rfl⟩
structure KI (m0 m:Memory) (ks:List Str) (j:Nat):Prop where
 seg:m.segments=m0.segments
 bw:m.byWord.length≤m0.byWord.length+j
 lst:∀ w,(byW m w).length≤(byW m0 w).length+j
 old:∀ w i,i∈byW m0 w→i∈byW m w
 new:∀ w i,i∈byW m w→i∈byW m0 w∨i=(m0.segments.length:Int)
 has:∀ w∈ks.take j,(m0.segments.length:Int)∈byW m w
theorem qsI{ks:List Str}{m0:Memory}(hk:ks.length<N)(hks:ks.length≤4000)(hl:∀ w,(byW m0 w).length≤1000000)(hb:m0.byWord.length≤1000000):∃ m,iter (λs=>qc9 N ks s.1 s.2) N (0,m0)=some m∧KI m0 m ks ks.length:=by
 refine qbI ks (λs=>qc9 N ks s.1 s.2) (λj s=>s.1=(j:Int)∧KI m0 s.2 ks j) (λm=>KI m0 m ks ks.length) N (0,m0) hk ⟨rfl,rfl,Nat.le_refl _,λ_=>Nat.le_refl _,λ_ _ h=>h,λ_ _ h=>.inl h,λw hw=>by simp at hw⟩ (λj x s hx hJ=>?_) (λs hJ=>?_) λm h1 h2=>⟨m,h1,h2⟩
 ·obtain⟨i,m⟩:=s
  obtain⟨e1,hI⟩:=hJ
  simp only at e1 hI
  subst e1
  have hj:=qdK hx
  have hlx:=hl x
  have hl1:=hI.lst x
  have hb1:=hI.bw
  have ha:app ((mget m.byWord x).getD []) ([(m.segments.length:Int)]:List Int)=some (byW m x++[(m.segments.length:Int)]):=appS (by show(byW m x).length+_≤_;simp;omega)
  have hm:∀ z:List Int,mset m.byWord x z=some (mput m.byWord x z):=λz=>by
   unfold mset
   rw[if_pos (by unfold LIM;omega)]
  simp only[qc9,dk hx,cond_true,ix hx,Option.bind_some,ha,hm]
  refine⟨_,rfl,?_,(λb h=>by cases h)⟩
  intro s' h;cases h
  have hg:∀ w,byW (Memory.mk m.segments (mput m.byWord x (byW m x++[(m.segments.length:Int)]))) w=if w==x then byW m x++[(m.segments.length:Int)] else byW m w:=by
   intro w
   unfold byW
   simp only[qjz]
   cases(w==x) <;> rfl
  have hsl:(m.segments.length:Int)=(m0.segments.length:Int):=by rw[hI.seg]
  refine⟨by simp,hI.seg,?_,λw=>?_,λw i hi=>?_,λw i hi=>?_,λw hw=>?_⟩
  ·have:=qgy x (byW m x++[(m.segments.length:Int)]) m.byWord
   show(mput m.byWord x _).length≤_
   omega
  ·rw[hg]
   have:=hI.lst w
   cases hw:(w==x) with
   | false=>simp;omega
   | true=>rw[beq_iff_eq.1 hw];simp;omega
  ·rw[hg]
   have:=hI.old w i hi
   cases hw:(w==x) with
   | false=>simpa using this
   | true=>rw[beq_iff_eq.1 hw] at this;simp[this]
  ·rw[hg] at hi
   cases hw:(w==x) with
   | false=>rw[hw] at hi;exact hI.new w i (by simpa using hi)
   | true=>
    rw[hw,if_pos rfl] at hi
    rcases List.mem_append.1 hi with h | h
    ·rw[beq_iff_eq.1 hw];exact hI.new x i h
    ·rw[List.mem_singleton.1 h];exact .inr hsl
  ·rw[hg]
   rw[qbO hx] at hw
   cases hwx:(w==x) with
   | true=>rw[hsl];simp
   | false=>
    rcases List.mem_append.1 hw with h | h
    ·simpa using hI.has w h
    ·rw[List.mem_singleton.1 h] at hwx;simp at hwx
 ·obtain⟨i,m⟩:=s
  obtain⟨e1,hI⟩:=hJ
  simp only at e1 hI
  subst e1
  simp only[qc9,dn,cond_false]
  exact⟨_,rfl,hI⟩
theorem qpP{src tgt:Str}{m:Memory}(hN:4000000≤N)(hk:k≤40)(hm:MI N k m)(h1:src.length≤200)(h2:tgt.length≤200) :
  ∃ e m',qei N src tgt m=some (e,m')∧MI N (k+1) m'∧(∀ (i:Nat) (g:Segment2),m.segments[i]? = some g→m'.segments[i]? = some g)∧(e=0→∃ (i:Nat) (g:Segment2),m'.segments[i]? = some g∧g.source=src)∧(m.segments=[]→e=0∧m'.segments.length=1):=by
 have hs:=hm.segs
 obtain⟨w,hw,hwl⟩:=qml (N:=N) (s:=src) (by omega) (by omega)
 unfold qei
 rw[hw]
 simp only[Option.bind_some]
 rw[decide_eq_false (show ¬ ((src.length:Int)>4000) by omega),decide_eq_false (show ¬ ((tgt.length:Int)>4000) by omega),decide_eq_false (show ¬ ((w.length:Int)>400) by omega),decide_eq_false (show ¬ ((m.segments.length:Int)≥2000) by omega)]
 simp only[cond_false,Option.bind_some]
 have weak:MI N (k+1) m:=⟨by omega,hm.seg,by have:=hm.bw;omega,λw=>by have:=hm.lst w;omega,hm.idx,hm.key⟩
 obtain⟨o,e1,ho⟩:=quz (N:=N) (src:=src) (tgt:=tgt) (m:=m) (by omega)
 rw[e1]
 simp only[Option.bind_some]
 rcases ho with⟨rfl,hne⟩ | rfl
 ·exact⟨9,m,rfl,weak,(λi g h=>h),(λh=>by cases h),(λh=>absurd h hne)⟩
 ·have hkl:=qmP w
  obtain⟨m1,e2,hI⟩:=qsI (N:=N) (ks:=qfR w) (m0:=m) (by omega) (by omega) (λw=>by have:=hm.lst w;omega) (by have:=hm.bw;omega)
  have hs1:m1.segments=m.segments:=hI.seg
  have ha:app m1.segments ([Segment2.mk src tgt w]:List Segment2)=some (m.segments++[Segment2.mk src tgt w]):=by rw[hs1];exact appS (by simp;omega)
  simp only[Sum.elim_inl,qow (N:=N) (show w.length≤4000 by omega),Option.bind_some,e2,ha]
  have hbw:∀ z,byW (Memory.mk (m.segments++[Segment2.mk src tgt w]) m1.byWord) z=byW m1 z:=λz=>rfl
  refine⟨0,_,rfl,⟨by simp;omega,λg hg=>?_,?_,λz=>?_,λz i hi=>?_,λi g hg z hz=>?_⟩,λi g hg=>?_,λ_=>⟨m.segments.length,Segment2.mk src tgt w,List.getElem?_concat_length ..,rfl⟩,λh=>⟨rfl,by simp[h]⟩⟩
  ·rcases List.mem_append.1 hg with h | h
   ·exact hm.seg g h
   ·rw[List.mem_singleton.1 h];exact⟨h1,h2,by show w.length≤200;omega,hw⟩
  ·have:=hI.bw;have:=hm.bw
   show m1.byWord.length≤_
   omega
  ·rw[hbw]
   have:=hI.lst z;have:=hm.lst z
   omega
  ·rw[hbw] at hi
   rcases hI.new z i hi with h | h
   ·have:=hm.idx z i h;simp;omega
   ·rw[h];simp;omega
  ·rw[hbw]
   rw[List.getElem?_append] at hg
   split at hg
   ·exact hI.old z _ (hm.key i g hg z hz)
   ·rename_i hil
    obtain⟨q1,q2⟩:i=m.segments.length∧g=Segment2.mk src tgt w:=by
     have:=qdK hg
     have hi0:i-m.segments.length=0:=by simpa using this
     rw[hi0] at hg
     simp at hg
     exact⟨by omega,hg.symm⟩
    subst q1
    have:=hI.has z (by rw[List.take_length];rw[q2] at hz;exact hz)
    exact this
  ·rw[List.getElem?_append_left (qdK hg)];exact hg
theorem qr6{words:List Str}{m:Memory}(hN:4000000≤N)(hk:k≤40)(hm:MI N k m)(hw:words.length≤400) :
  ∃ c,qdz N words 1 m=some (c,m)∧c.length≤m.segments.length∧(∀ i∈c,0≤i∧i<m.segments.length)∧(∀ (i:Nat) (g:Segment2),m.segments[i]? = some g→g.words=words→(i:Int)∈c):=by
 have hkl:=qmP words
 unfold qdz
 rw[decide_eq_false (by omega),cond_false,qow (by omega)]
 simp only[Option.bind_some]
 have hmul:∀ j,j≤401→(300*k)*j≤12000*401:=λj hj=>Nat.mul_le_mul (by omega) hj
 refine qbI (qfR words) (λs=>qcw N (qfR words) s.1 s.2.1 s.2.2) (λj s=>s.2.1=(j:Int)∧s.2.2=m∧s.1.length≤(300*k)*j∧(∀ i∈s.1,0≤i∧i<m.segments.length)∧(∀ z∈(qfR words).take j,∀ i∈byW m z,i∈s.1)) (λo=>o.1=m∧o.2.length≤12000*401∧(∀ i∈o.2,0≤i∧i<m.segments.length)∧(∀ z∈qfR words,∀ i∈byW m z,i∈o.2)) N (([]:List Int),0,m) (by omega) ⟨rfl,rfl,by simp,λi hi=>by(cases hi),λz hz=>by simp at hz⟩ (λj x s hx hJ=>?_) (λs hJ=>?_) λo h1 h2=>?_
 ·obtain⟨out,i,m1⟩:=s
  obtain⟨q1,q2,q3,q4,q5⟩:=hJ
  simp only at q1 q2 q3 q4 q5
  subst q1 q2
  have hj:=qdK hx
  have hjm:=hmul j (by omega)
  have hlx:=hm.lst x
  have ha:app out ((mget m1.byWord x).getD [])=some (out++byW m1 x):=appS (by show _+(byW m1 x).length≤_;omega)
  simp only[qcw,dk hx,cond_true,ix hx,Option.bind_some,ha]
  refine⟨_,rfl,?_,(λb h=>by cases h)⟩
  intro s' h;cases h
  refine⟨by simp,rfl,?_,λi hi=>?_,λz hz i hi=>?_⟩
  ·rw[List.length_append,Nat.mul_succ]
   show out.length+(byW m1 x).length≤_
   omega
  ·rcases List.mem_append.1 hi with h | h
   ·exact q4 i h
   ·exact hm.idx x i h
  ·rw[qbO hx] at hz
   rcases List.mem_append.1 hz with h | h
   ·exact List.mem_append.2 (.inl (q5 z h i hi))
   ·rw[List.mem_singleton.1 h] at hi;exact List.mem_append.2 (.inr hi)
 ·obtain⟨out,i,m1⟩:=s
  obtain⟨q1,q2,q3,q4,q5⟩:=hJ
  simp only at q1 q2 q3 q4 q5
  subst q1 q2
  simp only[qcw,dn,cond_false]
  have hjm:=hmul (qfR words).length (by omega)
  exact⟨_,rfl,rfl,by show out.length≤_;omega,q4,by rw[List.take_length] at q5;exact q5⟩
 ·obtain⟨m1,out⟩:=o
  obtain⟨q1,q2,q3,q4⟩:=h2
  simp only at q1 q2 q3 q4
  subst q1
  rw[h1]
  have es:qlw out=some (qkH out):=by unfold qlw qkH;rw[if_pos (by omega)]
  simp only[Option.bind_some,es]
  have hpw:(qkH out).Pairwise (·≤·):=by
   have:=List.pairwise_mergeSort (le:=λx y:Int=>decide (x≤y)) (λa b c h1 h2=>by simp at *;omega) (λa b=>by simp;omega) out
   unfold qkH
   exact this.imp (λh=>by simpa using h)
  have hmem:∀ i,i∈qkH out↔i∈out:=λi=>by unfold qkH;exact List.mem_mergeSort
  have hb:∀ i∈Lib.compact (qkH out),0≤i∧i<(m1.segments.length:Int):=λi hi=>q3 i ((hmem i).1 (qjN hi))
  refine⟨_,rfl,?_,hb,λi g hg hgw=>?_⟩
  ·exact qrg _ 0 m1.segments.length (qqI hpw) (λx hx=>by have:=hb x hx;omega)
  ·obtain⟨z,hz⟩:=qrS words
   exact qmn ((hmem _).2 (q4 z hz _ (hm.key i g hg z (by rw[hgw];exact hz))))
theorem qrF{text:Str}{m:Memory}(hN:4000000≤N)(hk:k≤30)(hm:MI N k m)(ht:text.length≤400) :
  ∃ x f,qez N text 1 m=some (x,f,m)∧(f=true→x.Source.length≤200∧x.Target.length≤200)∧((∃ (i:Nat) (g:Segment2),m.segments[i]? = some g∧g.source=text)→f=true∧x.Similar=1000):=by
 obtain⟨w,hw,hwl⟩:=qml (N:=N) (s:=text) (by omega) (by omega)
 obtain⟨c,e1,c1,c2,c3⟩:=qr6 (N:=N) (words:=w) hN (by omega) hm (by omega)
 have hs:=hm.segs
 unfold qez qfM
 rw[hw]
 simp only[Option.bind_some]
 rw[decide_eq_false (show ¬ ((text.length:Int)>4000) by omega),decide_eq_false (show ¬ ((w.length:Int)>400) by omega)]
 simp only[cond_false,e1,Option.bind_some]
 obtain⟨out,e2,o1,o2,o3⟩:∃ out,iter (λs=>qdb N 1 w (c,m) s.1 s.2) N (([]:List Match),0)=some out∧out.length≤c.length∧(∀ y∈out,(-100000000≤y.Similar∧y.Similar≤1000)∧y.Source.length≤200∧y.Target.length≤200)∧(∀ i g,(i:Nat)<m.segments.length→(i:Int)∈c→m.segments[i]? = some g→g.words=w→∃ y∈out,y.Similar=1000):=by
  refine qbI c (λs=>qdb N 1 w (c,m) s.1 s.2) (λj s=>s.2=(j:Int)∧s.1.length≤j∧(∀ y∈s.1,(-100000000≤y.Similar∧y.Similar≤1000)∧y.Source.length≤200∧y.Target.length≤200)∧(∀ i g,(i:Nat)<m.segments.length→(i:Int)∈c.take j→m.segments[i]? = some g→g.words=w→∃ y∈s.1,y.Similar=1000)) (λout=>out.length≤c.length∧(∀ y∈out,(-100000000≤y.Similar∧y.Similar≤1000)∧y.Source.length≤200∧y.Target.length≤200)∧(∀ i g,(i:Nat)<m.segments.length→(i:Int)∈c→m.segments[i]? = some g→g.words=w→∃ y∈out,y.Similar=1000)) N (([]:List Match),0) (by omega) ⟨rfl,by simp,λy hy=>by(cases hy),λi g _ hi=>by simp at hi⟩ (λj x s hx hJ=>?_) (λs hJ=>?_) λo h1 h2=>⟨o,h1,h2⟩
  ·obtain⟨out,q⟩:=s
   obtain⟨p1,p2,p3,p4⟩:=hJ
   simp only at p1 p2 p3 p4
   subst p1
   have hj:=qdK hx
   have hxb:=c2 x (qbQ hx)
   obtain⟨xn,rfl⟩:∃ n:Nat,x=(n:Int):=⟨x.toNat,by omega⟩
   obtain⟨g,hg⟩:∃ g,m.segments[xn]? = some g:=⟨_,List.getElem?_eq_getElem (by omega)⟩
   obtain⟨hg1,hg2,hg3,hg4⟩:=hm.seg g (qbQ hg)
   obtain⟨d,e3,d1,d2,d3⟩:=qpr (N:=N) (a:=g.words) (b:=w) (by omega) (by omega) (by omega)
   simp only[qdb,dk hx,cond_true,ix hx,Option.bind_some,ix hg,e3]
   have hold:∀ (out':List Match),(∀ y∈out,y∈out')→(g.words=w→∃ y∈out',y.Similar=1000)→∀ i g',(i:Nat)<m.segments.length→(i:Int)∈c.take (j+1)→m.segments[i]? = some g'→g'.words=w→∃ y∈out',y.Similar=1000:=by
    intro out' hsub hnew i g' hi hic hg' hgw
    rw[qbO hx] at hic
    rcases List.mem_append.1 hic with h | h
    ·obtain⟨y,hy,hs⟩:=p4 i g' hi h hg' hgw
     exact⟨y,hsub y hy,hs⟩
    ·have:i=xn:=by have:=List.mem_singleton.1 h;omega
     subst this
     rw[hg] at hg'
     cases hg'
     exact hnew hgw
   by_cases hd:d≥1
   ·rw[decide_eq_true hd,cond_true,appS (by simp;omega)]
    refine⟨_,rfl,?_,(λb h=>by cases h)⟩
    intro s' h;cases h
    refine⟨by simp,by simp;omega,λy hy=>?_,hold _ (λy hy=>by simp[hy]) (λhgw=>⟨_,by simp;exact .inr rfl,d3 hgw⟩)⟩
    rcases List.mem_append.1 hy with h | h
    ·exact p3 y h
    ·rw[List.mem_singleton.1 h];exact⟨⟨d1,d2⟩,hg1,hg2⟩
   ·rw[decide_eq_false hd,cond_false]
    refine⟨_,rfl,?_,(λb h=>by cases h)⟩
    intro s' h;cases h
    exact⟨by simp,by show out.length≤j+1;omega,p3,hold _ (λy hy=>hy) (λhgw=>by have:=d3 hgw;omega)⟩
  ·obtain⟨out,q⟩:=s
   obtain⟨p1,p2,p3,p4⟩:=hJ
   simp only at p1 p2 p3 p4
   subst p1
   simp only[qdb,dn,cond_false]
   exact⟨_,rfl,p2,p3,by rw[List.take_length] at p4;exact p4⟩
 rw[e2]
 simp only[Option.bind_some]
 obtain⟨x',e3,l1,l2,l3⟩:=qrM (N:=N) (x:=out) ⟨by omega,λy hy=>(o2 y hy).1⟩ (by omega) (by omega)
 rw[e3]
 simp only[Option.bind_some]
 have hex:(∃ (i:Nat) (g:Segment2),m.segments[i]? = some g∧g.source=text)→topM x' 0:=by
  rintro⟨i,g,hg,hgs⟩
  have hgw:g.words=w:=by
   have:=(hm.seg g (qbQ hg)).2.2.2
   rw[hgs,hw] at this
   cases this;rfl
  exact l3 (o3 i g (qdK hg) (c3 i g hg hgw) hg hgw)
 cases hx:((x'.length:Int)==0) with
 | true=>
  refine⟨_,false,rfl,λh=>by(cases h),λh=>?_⟩
  obtain⟨y,hy,_⟩:=hex h
  rw[len0 hx] at hy
  cases hy
 | false=>
  obtain⟨y,hy⟩:∃ y,x'[0]? = some y:=by
   cases x' with
   | nil=>cases hx
   | cons a r=>exact⟨a,rfl⟩
  have i0:idx x' 0=some y:=ix hy
  simp only[cond_false,i0,Option.bind_some]
  refine⟨y,true,rfl,λ_=>⟨(o2 y (l2 y (qbQ hy))).2.1,(o2 y (l2 y (qbQ hy))).2.2⟩,λh=>⟨rfl,qhF hy (hex h)⟩⟩
end
end Go.Proofs.YtkhjeeakflefjaaGreatDoor
namespace Go.Proofs.YtkhjeeakflefjaaGreatDoor
open Go.X
def OkD(ps:List Part):Prop:=∃ (pt:Bool) (d:Nat) (c:Bool),okL pt ps d c=true
theorem OkD.nil:OkD []:=⟨false,0,false,by rw[okL]⟩
theorem OkD.sub{ps:List Part}(h:OkD ps){x:Part}(hx:x∈ps):fld x=true∧OkD x.Parts∧∀ y∈x.Cases,OkD y.Parts:=by
 obtain⟨pt,d,c,h⟩:=h
 have hp:=qrZ h x hx
 have hf:=qfr hp
 refine⟨hf,?_,?_⟩
 ·by_cases hk:x.Kind=11
  ·exact⟨false,d+1,c,(qhI hp (by rw[hk];rfl)).2⟩
  ·have:x.Parts=[]:=by
    cases qhB hf with
    | flat _ _ _ h=>exact h
    | arg _ _ _ _ h=>exact h
    | sel _ _ h=>exact h
    | elem h _=>exact absurd h hk
   rw[this];exact .nil
 ·cases hs:sel x.Kind with
  | true=>exact λy hy=>⟨false,d+1,_,(qnN (qls hp hs) y hy).2⟩
  | false=>rw[qfA hf hs];intro y hy;cases hy
theorem qmC{ps:List Part}{x:Part}(hx:x∈ps){n:Str}(h:n∈argP x):n∈argL ps:=by
 induction ps with
 | nil=>cases hx
 | cons y r ih=>
  rw[argL,List.mem_append]
  rcases List.mem_cons.1 hx with rfl | hx
  ·exact .inl h
  ·exact .inr (ih hx)
theorem qok{cs:List (CaseP Part)}{y:CaseP Part}(hy:y∈cs){n:Str}(h:n∈argL y.Parts):n∈argCs cs:=by
 induction cs with
 | nil=>cases hy
 | cons z r ih=>
  rw[argCs,List.mem_append]
  rcases List.mem_cons.1 hy with rfl | hy
  ·exact .inl (by rw[qkc];exact h)
  ·exact .inr (ih hy)
theorem qq5{x:Part}{n:Str}(h:n∈argL x.Parts):n∈argP x:=by
 rw[qfs,List.mem_append,List.mem_append];exact .inr (.inl h)
theorem qqX{x:Part}{n:Str}(h:n∈argCs x.Cases):n∈argP x:=by
 rw[qfs,List.mem_append,List.mem_append];exact .inr (.inr h)
theorem qrp{x:Part}(h1:2≤x.Kind)(h2:x.Kind≤9):x.Name∈argP x:=by
 rw[qfs,decide_eq_true h1,decide_eq_true h2]
 simp
theorem qpD:∀ {ps:List Part} {n:Str},n∈argL ps→∃ x∈ps,n∈argP x
 | y::r,n,h=>by
  rw[argL,List.mem_append] at h
  rcases h with h | h
  ·exact⟨y,by simp,h⟩
  ·obtain⟨x,hx,hn⟩:=qpD h
   exact⟨x,by simp[hx],hn⟩
theorem qox:∀ {cs:List (CaseP Part)} {n:Str},n∈argCs cs→∃ y∈cs,n∈argL y.Parts
 | y::r,n,h=>by
  rw[argCs,List.mem_append] at h
  rcases h with h | h
  ·exact⟨y,by simp,by rw[qkc] at h;exact h⟩
  ·obtain⟨x,hx,hn⟩:=qox h
   exact⟨x,by simp[hx],hn⟩
theorem qpw{x:Part}{n:Str}(h:n∈argP x):(2≤x.Kind∧x.Kind≤9∧n=x.Name)∨n∈argL x.Parts∨∃ y∈x.Cases,n∈argL y.Parts:=by
 rw[qfs,List.mem_append,List.mem_append] at h
 rcases h with h | h | h
 ·cases hk:(decide (2≤x.Kind)&&decide (x.Kind≤9)) with
  | false=>rw[hk] at h;cases h
  | true=>
   rw[hk] at h
   simp only[Bool.and_eq_true,decide_eq_true_eq] at hk
   exact .inl ⟨hk.1,hk.2,by simpa using h⟩
 ·exact .inr (.inl h)
 ·exact .inr (.inr (qox h))
theorem OkD.names:∀ ps:List Part,OkD ps→∀ n∈argL ps,nam n=true:=by
 refine qr2 (P:=λps=>OkD ps→∀ n∈argL ps,nam n=true) ?_
 intro ps ih h n hn
 obtain⟨x,hx,hn⟩:=qpD hn
 obtain⟨hf,hp,hc⟩:=h.sub hx
 rcases qpw hn with⟨h1,h2,rfl⟩ | h1 | ⟨y,hy,h1⟩
 ·exact qjc hf (by omega) (by omega)
 ·exact(ih x hx).1 hp n h1
 ·exact(ih x hx).2 y hy (hc y hy) n h1
theorem qnF{ps:List Part}(h:vldM ps=true):OkD ps:=by
 unfold vldM at h
 rw[Bool.and_eq_true] at h
 exact⟨false,0,false,h.1⟩
def PH(r:List Part→Option (List Part))(N:Nat):Prop:=∀ ps,OkD ps→blkPs ps+10≤N→blkPs ps≤1000000→∃ out,r ps=some out∧out.length≤blkPs ps∧∀ y∈out,y.Name∈argL ps
theorem qsR{N:Nat}{r:List Part→Option (List Part)}(hr:PH r N){x:Part}{out:List Part}(hc:∀ y∈x.Cases,OkD y.Parts)(hN:blkCs x.Cases+10≤N)(hb:blkCs x.Cases≤1000000)(ho:out.length≤1000000) :
  ∃ o,iter (λs=>qcm r N x s.1 s.2) N (out,0)=some o∧o.length≤out.length+blkCs x.Cases∧∀ y∈o,y∈out∨y.Name∈argCs x.Cases:=by
 have hcl:=qgv x.Cases
 refine qbI x.Cases (λs=>qcm r N x s.1 s.2) (λk s=>s.2=(k:Int)∧s.1.length≤out.length+blkCs (x.Cases.take k)∧∀ y∈s.1,y∈out∨y.Name∈argCs x.Cases) (λo=>o.length≤out.length+blkCs x.Cases∧∀ y∈o,y∈out∨y.Name∈argCs x.Cases) N (out,0) (by omega) ⟨rfl,by simp,λy hy=>.inl hy⟩ (λk y s hy hJ=>?_) (λs hJ=>?_) λo h1 h2=>⟨o,h1,h2⟩
 ·obtain⟨o,q⟩:=s
  obtain⟨e,h1,h2⟩:=hJ
  simp only at e h1 h2
  subst e
  have hyb:=qgX (qbQ hy)
  have hye:=qfU y
  have hyt:=qfB hy
  have hyl:=qgY x.Cases (k+1)
  obtain⟨p,e1,l1,n1⟩:=hr y.Parts (hc y (qbQ hy)) (by omega) (by omega)
  simp only[qcm,dk hy,cond_true,ix hy,Option.bind_some,e1]
  rw[appS (by omega)]
  refine⟨_,rfl,?_,(λb h=>by cases h)⟩
  intro s' h;cases h
  refine⟨by simp,by simp;omega,λz hz=>?_⟩
  rcases List.mem_append.1 hz with h | h
  ·exact h2 z h
  ·exact .inr (qok (qbQ hy) (n1 z h))
 ·obtain⟨o,q⟩:=s
  obtain⟨e,h1,h2⟩:=hJ
  simp only at e h1 h2
  subst e
  simp only[qcm,dn,cond_false]
  exact⟨_,rfl,by rw[List.take_length] at h1;exact h1,h2⟩
theorem qrs:∀ N,PH (qbE N) N:=by
 intro N
 induction N with
 | zero=>intro ps _ h;omega
 | succ N ih=>
  intro ps hok hN hb
  show ∃ out,qdC (qbE N) N ps=some out∧_
  have hl:=qg6 ps
  unfold qdC
  refine qbI ps (λs=>qdh (qbE N) N ps s.1 s.2) (λk s=>s.2=(k:Int)∧s.1.length≤blkPs (ps.take k)∧∀ y∈s.1,y.Name∈argL ps) (λo=>o.length≤blkPs ps∧∀ y∈o,y.Name∈argL ps) N (([]:List Part),0) (by omega) ⟨rfl,by simp,λy hy=>by(cases hy)⟩ (λk x s hx hJ=>?_) (λs hJ=>?_) λo h1 h2=>?_
  ·obtain⟨out,q⟩:=s
   obtain⟨e,h1,h2⟩:=hJ
   simp only at e h1 h2
   subst e
   have hm:=qbQ hx
   have hxb:=qha hm
   have hxe:=qe6 x
   have hxt:=qgI hx
   have hxl:=qjf ps (k+1)
   obtain⟨hf,hpo,hco⟩:=hok.sub hm
   have hfk:=qg0 hf
   obtain⟨p2,e2,l2,n2⟩:=ih x.Parts hpo (by omega) (by omega)
   -- the common end
   have fin:∀ o1:List Part,o1.length≤out.length+1→(∀ y∈o1,y.Name∈argL ps)→∃ o,((iter (λs=>qcm (qbE N) N x s.1 s.2) N (o1,0)).bind λo62=>
    (qbE N x.Parts).bind λr103=>
    (app o62 r103).bind λl108=>
    some (Sum.inl (β:=List Part) (l108,((k:Int)+1))))=some o∧(∀ s',o=.inl s'→s'.2=((k+1:Nat):Int)∧s'.1.length≤blkPs (ps.take (k+1))∧∀ y∈s'.1,y.Name∈argL ps)∧∀ b,o=.inr b→b.length≤blkPs ps∧∀ y∈b,y.Name∈argL ps:=by
    intro o1 ho1 hn1
    obtain⟨o3,e3,l3,n3⟩:=qsR ih (x:=x) (out:=o1) hco (by omega) (by omega) (by omega)
    rw[e3]
    simp only[Option.bind_some,e2]
    rw[appS (by omega)]
    refine⟨_,rfl,?_,(λb h=>by cases h)⟩
    intro s' h;cases h
    refine⟨by simp,by simp;omega,λy hy=>?_⟩
    rcases List.mem_append.1 hy with h | h
    ·rcases n3 y h with h | h
     ·exact hn1 y h
     ·exact qmC hm (qqX h)
    ·exact qmC hm (qq5 (n2 y h))
   simp only[qdh,dk hx,cond_true,ix hx,Option.bind_some,bne]
   cases k1:(x.Kind==1) with
   | true=>exact fin out (by omega) h2
   | false=>
    simp only[Bool.not_false,cond_true]
    cases k11:(x.Kind==11) with
    | true=>exact fin out (by omega) h2
    | false=>
     simp only[Bool.not_false,cond_true]
     cases k10:(x.Kind==10) with
     | true=>exact fin out (by omega) h2
     | false=>
      simp only[Bool.not_false,cond_true]
      rw[appS (by simp;omega)]
      refine fin (out++[Part.mk x.Kind [] x.Name x.Style [] []]) (by simp) (λy hy=>?_)
      rcases List.mem_append.1 hy with h | h
      ·exact h2 y h
      ·rw[List.mem_singleton.1 h]
       have a1:=beq_eq_false_iff_ne.1 k1
       have a2:=beq_eq_false_iff_ne.1 k11
       have a3:=beq_eq_false_iff_ne.1 k10
       exact qmC hm (qrp (by omega) (by omega))
  ·obtain⟨out,q⟩:=s
   obtain⟨e,h1,h2⟩:=hJ
   simp only at e h1 h2
   subst e
   simp only[qdh,dn,cond_false]
   exact⟨_,rfl,by rw[List.take_length] at h1;exact h1,h2⟩
  ·rw[h1]
   exact⟨o,rfl,h2⟩
theorem qmR{V:Type}{l:List (Str×V)}(h:l.length≤4000000)(k:Str)(x:V):mset l k x=some (mput l k x):=by
 unfold mset
 rw[if_pos (by unfold LIM;omega)]
theorem qoG{N:Nat}{a b:List Part}(hN:4000000≤N)(ha:blkPs a≤1000000)(hb:blkPs b≤1000000) :
  ∃ prs ok,qfy N a b=some (prs,ok)∧prs.length≤1000000∧(∀ p∈prs,vldM b=true∧p.To∈argL b)∧(ok=true→vldM b=true):=by
 unfold qfy
 rw[qiw (by omega) (by omega),qiw (by omega) (by omega)]
 simp only[Option.bind_some]
 cases hva:vldM a with
 | false=>exact⟨_,_,rfl,by simp,λp hp=>by(cases hp),λh=>by(cases h)⟩
 | true=>
  simp only[Bool.not_true,cond_false]
  cases hvb:vldM b with
  | false=>exact⟨_,_,rfl,by simp,λp hp=>by(cases hp),λh=>by(cases h)⟩
  | true=>
   obtain⟨pa,e1,l1,_⟩:=qrs N a (qnF hva) (by omega) ha
   obtain⟨pb,e2,l2,n2⟩:=qrs N b (qnF hvb) (by omega) hb
   simp only[Bool.not_true,cond_false,e1,e2,Option.bind_some]
   cases hlen:((pa.length:Int)!=(pb.length:Int)) with
   | true=>exact⟨_,_,rfl,by simp,λp hp=>by(cases hp),λh=>by(cases h)⟩
   | false=>
    have hlen':pa.length=pb.length:=by
     rw[bne,Bool.not_eq_false',beq_iff_eq] at hlen;omega
    simp only[cond_false]
    refine qbI pa (λs=>qd3 N pa pb s.1 s.2.1 s.2.2.1 s.2.2.2) (λk s=>s.2.1=(k:Int)∧s.1.length≤k∧s.2.2.1.length≤k∧s.2.2.2.length≤k∧∀ p∈s.1,p.To∈argL b) (λo=>(∃ prs:List Pair,o=.inl prs∧prs.length≤pa.length∧∀ p∈prs,p.To∈argL b)∨o=.inr (([]:List Pair),false)) N (([]:List Pair),0,([]:List (Str×Str)),([]:List (Str×Str))) (by omega) ⟨rfl,by simp,by simp,by simp,λp hp=>by(cases hp)⟩ (λk x s hx hJ=>?_) (λs hJ=>?_) λo h1 h2=>?_
    ·obtain⟨out,q,tm,fr⟩:=s
     obtain⟨e,h1,h2,h3,h4⟩:=hJ
     simp only at e h1 h2 h3 h4
     subst e
     have hk:=qdK hx
     obtain⟨y,hy⟩:∃ y,pb[k]? = some y:=⟨_,List.getElem?_eq_getElem (by omega)⟩
     have hyn:=n2 y (qbQ hy)
     have stop:∃ o:(List Pair×Int×List (Str×Str)×List (Str×Str))⊕(List Pair⊕(List Pair×Bool)),(some (Sum.inr (Sum.inr ([],false))):Option ((List Pair×Int×List (Str×Str)×List (Str×Str))⊕(List Pair⊕(List Pair×Bool))))=some o∧(∀ s',o=.inl s'→s'.2.1=((k+1:Nat):Int)∧s'.1.length≤k+1∧s'.2.2.1.length≤k+1∧s'.2.2.2.length≤k+1∧∀ p∈s'.1,p.To∈argL b)∧∀ o',o=.inr o'→(∃ prs:List Pair,o'=.inl prs∧prs.length≤pa.length∧∀ p∈prs,p.To∈argL b)∨o'=.inr (([]:List Pair),false):=⟨_,rfl,(λs' h=>by cases h),(λo' h=>by cases h;exact .inr rfl)⟩
     have go:∃ o:(List Pair×Int×List (Str×Str)×List (Str×Str))⊕(List Pair⊕(List Pair×Bool)),((bif (!((mget tm x.Name).isSome)) then
       (app out ([(Pair.mk x.Name y.Name)]:List (Pair))).bind λl189=>
       some l189
      else
       some out).bind λo181=>
      (mset tm x.Name y.Name).bind λl197=>
      (mset fr y.Name x.Name).bind λl201=>
      some (Sum.inl (o181,((k:Int)+1),l197,l201)))=some o∧(∀ s',o=.inl s'→s'.2.1=((k+1:Nat):Int)∧s'.1.length≤k+1∧s'.2.2.1.length≤k+1∧s'.2.2.2.length≤k+1∧∀ p∈s'.1,p.To∈argL b)∧∀ o',o=.inr o'→(∃ prs:List Pair,o'=.inl prs∧prs.length≤pa.length∧∀ p∈prs,p.To∈argL b)∨o'=.inr (([]:List Pair),false):=by
      have m1:=qgy x.Name y.Name tm
      have m2:=qgy y.Name x.Name fr
      rw[qmR (by omega),qmR (by omega)]
      cases(!((mget tm x.Name).isSome)) with
      | false=>
       refine⟨_,rfl,?_,(λo' h=>by cases h)⟩
       intro s' h;cases h
       exact⟨by simp,by show out.length≤k+1;omega,by show(mput tm x.Name y.Name).length≤k+1;omega,by show(mput fr y.Name x.Name).length≤k+1;omega,h4⟩
      | true=>
       simp only[cond_true]
       rw[appS (by simp;omega)]
       refine⟨_,rfl,?_,(λo' h=>by cases h)⟩
       intro s' h;cases h
       refine⟨by simp,by simp;omega,by show(mput tm x.Name y.Name).length≤k+1;omega,by show(mput fr y.Name x.Name).length≤k+1;omega,λp hp=>?_⟩
       rcases List.mem_append.1 hp with h | h
       ·exact h4 p h
       ·rw[List.mem_singleton.1 h];exact hyn
     simp only[qd3,dk hx,cond_true,ix hx,ix hy,Option.bind_some]
     cases(x.Kind != y.Kind) with
     | true=>exact stop
     | false=>
      simp only[cond_false]
      cases(x.Style != y.Style) with
      | true=>exact stop
      | false=>
       simp only[cond_false]
       cases hto:(mget tm x.Name).isSome with
       | true=>
        rw[hto] at go
        simp only[cond_true]
        cases(((mget tm x.Name).getD [])!=y.Name) with
        | true=>exact stop
        | false=>
         simp only[cond_false]
         cases(mget fr y.Name).isSome with
         | true=>
          simp only[cond_true]
          cases(((mget fr y.Name).getD [])!=x.Name) with
          | true=>exact stop
          | false=>exact go
         | false=>exact go
       | false=>
        rw[hto] at go
        simp only[cond_false]
        cases(mget fr y.Name).isSome with
        | true=>
         simp only[cond_true]
         cases(((mget fr y.Name).getD [])!=x.Name) with
         | true=>exact stop
         | false=>exact go
        | false=>exact go
    ·obtain⟨out,q,tm,fr⟩:=s
     obtain⟨e,h1,h2,h3,h4⟩:=hJ
     simp only at e h1 h2 h3 h4
     subst e
     simp only[qd3,dn,cond_false]
     exact⟨_,rfl,.inl ⟨out,rfl,h1,h4⟩⟩
    ·rw[h1]
     rcases h2 with⟨prs,rfl,q1,q2⟩ | rfl
     ·exact⟨prs,true,rfl,by omega,λp hp=>⟨trivial,q2 p hp⟩,λ_=>trivial⟩
     ·exact⟨[],false,rfl,by simp,λp hp=>by(cases hp),λh=>by(cases h)⟩
end Go.Proofs.YtkhjeeakflefjaaGreatDoor
namespace Go.Proofs.YtkhjeeakflefjaaGreatDoor
open Go.X
structure NM (V:Str→Prop) (M:List (Str×Str)):Prop where
 val:∀ n v,mget M n=some v→V v∧v.length≤40
def RN(r:List Part→List (Str×Str)→Option (List Part×Bool))(V:Str→Prop)(N:Nat):Prop:=∀ ps M,NM V M→blkPs ps+10≤N→blkPs ps≤140000 →
 ∃ out ok,r ps M=some (out,ok)∧blkPs out≤7*blkPs ps∧(ok=true→∀ n∈argL out,V n)
theorem qss{N:Nat}{r:List Part→List (Str×Str)→Option (List Part×Bool)}{V:Str→Prop}(hr:RN r V N){M:List (Str×Str)}(hM:NM V M){x:Part}(hN:blkCs x.Cases+10≤N)(hb:blkCs x.Cases≤140000) :
  ∃ o,iter (λs=>qdj r N M x s.1 s.2) N (([]:List Case),0)=some o∧((∃ cs,o=.inl cs∧blkCs cs≤7*blkCs x.Cases∧∀ n∈argCs cs,V n)∨o=.inr ([],false)):=by
 have hcl:=qgv x.Cases
 refine qbI x.Cases (λs=>qdj r N M x s.1 s.2) (λk s=>s.2=(k:Int)∧blkCs s.1≤7*blkCs (x.Cases.take k)∧s.1.length=k∧∀ n∈argCs s.1,V n) (λo=>(∃ cs,o=.inl cs∧blkCs cs≤7*blkCs x.Cases∧∀ n∈argCs cs,V n)∨o=.inr ([],false)) N (([]:List Case),0) (by omega) ⟨rfl,by simp[blkCs],rfl,λn hn=>by simp[argCs] at hn⟩ (λk y s hy hJ=>?_) (λs hJ=>?_) λo h1 h2=>⟨o,h1,h2⟩
 ·obtain⟨o,q⟩:=s
  obtain⟨e,h1,h2,h3⟩:=hJ
  simp only at e h1 h2 h3
  subst e
  have hk:=qdK hy
  have hyb:=qgX (qbQ hy)
  have hye:=qfU y
  have hyt:=qfB hy
  obtain⟨p,ok,e1,l1,n1⟩:=hr y.Parts M hM (by omega) (by omega)
  simp only[qdj,dk hy,cond_true,ix hy,Option.bind_some,e1]
  cases ok with
  | false=>exact⟨_,rfl,(λs' h=>by cases h),(λb h=>by cases h;exact .inr rfl)⟩
  | true=>
   simp only[Bool.not_true,cond_false]
   rw[appS (by simp;omega)]
   refine⟨_,rfl,?_,(λb h=>by cases h)⟩
   intro s' h;cases h
   refine⟨by simp,?_,by simp[h2],λn hn=>?_⟩
   ·show blkCs (o++[Case.mk y.Key p])≤_
    have e2:blkCs (o++[Case.mk y.Key p])=blkCs o+blkC (Case.mk y.Key p):=by rw[qfz,qfz,List.map_append,List.sum_append];simp
    have e3:blkC (Case.mk y.Key p)=y.Key.length+blkPs p+3:=qfU _
    omega
   ·rw[qlR,List.mem_append] at hn
    rcases hn with h | h
    ·exact h3 n h
    ·rw[argCs,argCs,List.append_nil,qkc] at h
     exact n1 rfl n h
 ·obtain⟨o,q⟩:=s
  obtain⟨e,h1,h2,h3⟩:=hJ
  simp only at e h1 h2 h3
  subst e
  simp only[qdj,dn,cond_false]
  exact⟨_,rfl,.inl ⟨o,rfl,by rw[List.take_length] at h1;exact h1,h3⟩⟩
theorem qu7{V:Str→Prop}:∀ N,RN (qco N) V N:=by
 intro N
 induction N with
 | zero=>intro ps M _ h;omega
 | succ N ih=>
  intro ps M hM hN hb
  show ∃ out ok,qek (qco N) N ps M=some (out,ok)∧_
  have hl:=qg6 ps
  unfold qek
  refine qbI ps (λs=>qeh (qco N) N ps M s.1 s.2) (λk s=>s.2=(k:Int)∧blkPs s.1≤7*blkPs (ps.take k)∧s.1.length=k∧∀ n∈argL s.1,V n) (λo=>(∃ out,o=.inl out∧blkPs out≤7*blkPs ps∧∀ n∈argL out,V n)∨o=.inr ([],false)) N (([]:List Part),0) (by omega) ⟨rfl,by simp[blkPs],rfl,λn hn=>by simp[argL] at hn⟩ (λk x s hx hJ=>?_) (λs hJ=>?_) λo h1 h2=>?_
  ·obtain⟨out,q⟩:=s
   obtain⟨e,h1,h2,h3⟩:=hJ
   simp only at e h1 h2 h3
   subst e
   have hk:=qdK hx
   have hm:=qbQ hx
   have hxb:=qha hm
   have hxe:=qe6 x
   have hxt:=qgI hx
   have fin:∀ z:Part,z.Kind=x.Kind→z.Text=x.Text→z.Style=x.Style→z.Cases=x.Cases→z.Parts=x.Parts→z.Name.length≤x.Name.length+40→((2≤x.Kind∧x.Kind≤9)→V z.Name)→∃ o,((iter (λs=>qdj (qco N) N M z s.1 s.2) N (([]:List Case),0)).bind λo75=>
     Sum.elim (λo75=>
      (qco N z.Parts M).bind λr120=>
      bif (!r120.2) then
       some (Sum.inr (Sum.inr (([]:List Part),false)))
      else
       (app out ([(Part.mk z.Kind z.Text z.Name z.Style o75 r120.1)]:List (Part))).bind λl131=>
       some (Sum.inl (l131,((k:Int)+1))))
     (λo75=>
      some (Sum.inr (Sum.inr o75))) o75)=some o∧(∀ s',o=.inl s'→s'.2=((k+1:Nat):Int)∧blkPs s'.1≤7*blkPs (ps.take (k+1))∧s'.1.length=k+1∧∀ n∈argL s'.1,V n)∧∀ b,o=.inr b→(∃ out,b=.inl out∧blkPs out≤7*blkPs ps∧∀ n∈argL out,V n)∨b=.inr (([]:List Part),false):=by
    intro z z1 z2 z3 z4 z5 z6 z7
    obtain⟨o,e1,ho⟩:=qss ih hM (x:=z) (by rw[z4];omega) (by rw[z4];omega)
    rw[e1]
    simp only[Option.bind_some]
    rcases ho with⟨cs,rfl,c1,c2⟩ | rfl
    ·obtain⟨p,ok,e2,l2,n2⟩:=ih z.Parts M hM (by rw[z5];omega) (by rw[z5];omega)
     simp only[Sum.elim_inl,e2,Option.bind_some]
     cases ok with
     | false=>exact⟨_,rfl,(λs' h=>by cases h),(λb h=>by cases h;exact .inr rfl)⟩
     | true=>
      simp only[Bool.not_true,cond_false]
      rw[appS (by simp;omega)]
      refine⟨_,rfl,?_,(λb h=>by cases h)⟩
      intro s' h;cases h
      refine⟨by simp,?_,by simp[h2],λn hn=>?_⟩
      ·show blkPs (out++[Part.mk z.Kind z.Text z.Name z.Style cs p])≤_
       rw[qnI]
       have e3:=qe6 (Part.mk z.Kind z.Text z.Name z.Style cs p)
       have e4:blkPs [Part.mk z.Kind z.Text z.Name z.Style cs p]=(Part.mk z.Kind z.Text z.Name z.Style cs p).blk:=by simp[blkPs]
       simp only at e3
       rw[z2,z3] at e3
       rw[z4] at c1
       rw[z5] at l2
       rw[e4,z2,z3]
       omega
      ·rw[qmO,List.mem_append] at hn
       rcases hn with h | h
       ·exact h3 n h
       ·rw[argL,argL,List.append_nil] at h
        rcases qpw h with⟨a1,a2,rfl⟩ | a | ⟨y,hy,a⟩
        ·simp only at a1 a2
         rw[z1] at a1 a2
         exact z7 ⟨a1,a2⟩
        ·exact n2 rfl n a
        ·exact c2 n (qok hy a)
    ·exact⟨_,rfl,(λs' h=>by cases h),(λb h=>by cases h;exact .inr rfl)⟩
   simp only[qeh,dk hx,cond_true,ix hx,Option.bind_some,bne]
   cases k1:(x.Kind==1) with
   | true=>exact fin x rfl rfl rfl rfl rfl (by omega) (λh=>by have:=beq_iff_eq.1 k1;omega)
   | false=>
    simp only[Bool.not_false,cond_true]
    cases k11:(x.Kind==11) with
    | true=>exact fin x rfl rfl rfl rfl rfl (by omega) (λh=>by have:=beq_iff_eq.1 k11;omega)
    | false=>
     simp only[Bool.not_false,cond_true]
     cases k10:(x.Kind==10) with
     | true=>
      simp only[Bool.not_true,cond_false,Option.bind_some,Sum.elim_inl]
      exact fin x rfl rfl rfl rfl rfl (by omega) (λh=>by have:=beq_iff_eq.1 k10;omega)
     | false=>
      simp only[Bool.not_false,cond_true]
      cases hg:mget M x.Name with
      | none=>exact⟨_,rfl,(λs' h=>by cases h),(λb h=>by cases h;exact .inr rfl)⟩
      | some v=>
       obtain⟨v1,v2⟩:=hM.val _ _ hg
       simp only[Option.isSome_some,Bool.not_true,cond_false,Option.getD_some,Option.bind_some,Sum.elim_inl]
       exact fin (Part.mk x.Kind x.Text v x.Style x.Cases x.Parts) rfl rfl rfl rfl rfl (by show v.length≤_;omega) (λ_=>v1)
  ·obtain⟨out,q⟩:=s
   obtain⟨e,h1,h2,h3⟩:=hJ
   simp only at e h1 h2 h3
   subst e
   simp only[qeh,dn,cond_false]
   exact⟨_,rfl,.inl ⟨out,rfl,by rw[List.take_length] at h1;exact h1,h3⟩⟩
  ·rw[h1]
   rcases h2 with⟨out,rfl,q1,q2⟩ | rfl
   ·exact⟨out,true,rfl,q1,λ_=>q2⟩
   ·exact⟨[],false,rfl,by simp[blkPs],λh=>by(cases h)⟩
theorem qs4(N:Nat)(k:Int):∃ t,qgf N k=some (t,decide (2≤k)&&decide (k≤9)):=by
 unfold qgf
 by_cases h1:k<2
 ·rw[decide_eq_true h1,decide_eq_false (show ¬ 2≤k by omega)];exact⟨0,rfl⟩
 ·rw[decide_eq_false h1,cond_false,decide_eq_true (show 2≤k by omega)]
  by_cases h2:k≥10
  ·rw[decide_eq_true h2,decide_eq_false (show ¬ k≤9 by omega)];exact⟨0,rfl⟩
  ·rw[decide_eq_false h2,cond_false,decide_eq_true (show k≤9 by omega)]
   rcases (show k=2∨k=3∨k=4∨k=5∨k=6∨k=7∨k=8∨k=9 by omega) with rfl | rfl | rfl | rfl | rfl | rfl | rfl | rfl <;> exact⟨_,rfl⟩
theorem qp4(N:Nat)(a b:Int):∃ r,qfd N a b=some r:=by
 unfold qfd
 have hk:∀ t,∃ q,qeF N t=some q:=λt=>by
  unfold qeF
  cases decide (t≥0) <;> exact⟨_,rfl⟩
 obtain⟨qa,ha⟩:=hk a
 obtain⟨qb,hb⟩:=hk b
 rw[ha,hb]
 simp only[Option.bind_some]
 cases qa <;> cases qb <;> cases(a==b) <;> cases(a==0) <;> cases(b==0) <;> cases(b != 4) <;> cases(a != 4) <;> exact⟨_,rfl⟩
theorem qsf{N:Nat}{n:Str}{k:Int}{t:Table}(h:t.types.length≤3000000):∃ t',qdL N n k t=some t'∧t'.types.length≤t.types.length+1∧∀ z,(mget t'.types z).isSome=true↔(mget t.types z).isSome=true∨z=n:=by
 have put:∀ v:Int,∀ z,(mget (mput t.types n v) z).isSome=true↔(mget t.types z).isSome=true∨z=n:=by
  intro v z
  rw[qjz]
  cases hz:(z==n) with
  | true=>simp[beq_iff_eq.1 hz]
  | false=>
   have:=beq_eq_false_iff_ne.1 hz
   simp[this]
 unfold qdL
 cases(!((mget t.types n).isSome)) with
 | true=>
  simp only[cond_true]
  rw[qmR (by omega)]
  exact⟨_,rfl,qgy _ _ _,put k⟩
 | false=>
  obtain⟨r,hr⟩:=qp4 N ((mget t.types n).getD 0) k
  simp only[cond_false,hr,Option.bind_some]
  rw[qmR (by omega)]
  cases t.wrong with
  | true=>exact⟨_,rfl,qgy _ _ _,put r.1⟩
  | false=>exact⟨_,rfl,qgy _ _ _,put r.1⟩
def WK(r:List Part→Table→Option Table)(N:Nat):Prop:=∀ ps t,blkPs ps+10≤N→blkPs ps+t.types.length≤2000000→∃ t',r ps t=some t'∧t'.types.length≤t.types.length+blkPs ps∧∀ z,(mget t'.types z).isSome=true↔(mget t.types z).isSome=true∨z∈argL ps
theorem qsZ{N:Nat}{r:List Part→Table→Option Table}(hr:WK r N){x:Part}{t:Table}(hN:blkCs x.Cases+10≤N)(hb:blkCs x.Cases+t.types.length≤2000000) :
  ∃ t',iter (λs=>qcA r N x s.1 s.2) N (0,t)=some t'∧t'.types.length≤t.types.length+blkCs x.Cases∧∀ z,(mget t'.types z).isSome=true↔(mget t.types z).isSome=true∨z∈argCs x.Cases:=by
 have hcl:=qgv x.Cases
 refine qbI x.Cases (λs=>qcA r N x s.1 s.2) (λk s=>s.1=(k:Int)∧s.2.types.length≤t.types.length+blkCs (x.Cases.take k)∧∀ z,(mget s.2.types z).isSome=true↔(mget t.types z).isSome=true∨z∈argCs (x.Cases.take k)) (λt'=>t'.types.length≤t.types.length+blkCs x.Cases∧∀ z,(mget t'.types z).isSome=true↔(mget t.types z).isSome=true∨z∈argCs x.Cases) N (0,t) (by omega) ⟨rfl,by simp,λz=>by simp[argCs]⟩ (λk y s hy hJ=>?_) (λs hJ=>?_) λo h1 h2=>⟨o,h1,h2⟩
 ·obtain⟨q,t1⟩:=s
  obtain⟨e,h1,h2⟩:=hJ
  simp only at e h1 h2
  subst e
  have hye:=qfU y
  have hyt:=qfB hy
  have hyl:=qgY x.Cases (k+1)
  obtain⟨t2,e1,l1,n1⟩:=hr y.Parts t1 (by omega) (by omega)
  simp only[qcA,dk hy,cond_true,ix hy,Option.bind_some,e1]
  refine⟨_,rfl,?_,(λb h=>by cases h)⟩
  intro s' h;cases h
  refine⟨by simp,by show t2.types.length≤_;omega,λz=>?_⟩
  rw[n1,h2,qm4 hy,List.mem_append,or_assoc]
 ·obtain⟨q,t1⟩:=s
  obtain⟨e,h1,h2⟩:=hJ
  simp only at e h1 h2
  subst e
  simp only[qcA,dn,cond_false]
  rw[List.take_length] at h1
  exact⟨_,rfl,h1,λz=>by rw[h2,List.take_length]⟩
theorem qvb:∀ N,WK (qck N) N:=by
 intro N
 induction N with
 | zero=>intro ps t h;omega
 | succ N ih=>
  intro ps t hN hb
  show ∃ t',qdr (qck N) N ps t=some t'∧_
  have hl:=qg6 ps
  unfold qdr
  refine qbI ps (λs=>qc3 (qck N) N ps s.1 s.2) (λk s=>s.1=(k:Int)∧s.2.types.length≤t.types.length+blkPs (ps.take k)∧∀ z,(mget s.2.types z).isSome=true↔(mget t.types z).isSome=true∨z∈argL (ps.take k)) (λt'=>t'.types.length≤t.types.length+blkPs ps∧∀ z,(mget t'.types z).isSome=true↔(mget t.types z).isSome=true∨z∈argL ps) N (0,t) (by omega) ⟨rfl,by simp,λz=>by simp[argL]⟩ (λk x s hx hJ=>?_) (λs hJ=>?_) λo h1 h2=>?_
  ·obtain⟨q,t1⟩:=s
   obtain⟨e,h1,h2⟩:=hJ
   simp only at e h1 h2
   subst e
   have hxe:=qe6 x
   have hxt:=qgI hx
   have hxl:=qjf ps (k+1)
   obtain⟨ty,hty⟩:=qs4 N x.Kind
   obtain⟨t2,e2,l2,n2⟩:∃ t2,(bif (decide (2≤x.Kind)&&decide (x.Kind≤9)) then (qdL N x.Name ty t1).bind λr53=>some r53 else some t1)=some t2∧t2.types.length≤t1.types.length+1∧∀ z,(mget t2.types z).isSome=true↔(mget t1.types z).isSome=true∨z∈(bif decide (2≤x.Kind)&&decide (x.Kind≤9) then [x.Name] else []):=by
    cases(decide (2≤x.Kind)&&decide (x.Kind≤9)) with
    | false=>exact⟨t1,rfl,by omega,λz=>by simp⟩
    | true=>
     obtain⟨t2,e,l,n⟩:=qsf (N:=N) (n:=x.Name) (k:=ty) (t:=t1) (by omega)
     simp only[cond_true,e,Option.bind_some]
     exact⟨t2,rfl,l,λz=>by rw[n];simp⟩
   obtain⟨t3,e3,l3,n3⟩:=qsZ ih (x:=x) (t:=t2) (by omega) (by omega)
   obtain⟨t4,e4,l4,n4⟩:=ih x.Parts t3 (by omega) (by omega)
   simp only[qc3,dk hx,cond_true,ix hx,Option.bind_some,hty,e2,e3,e4]
   refine⟨_,rfl,?_,(λb h=>by cases h)⟩
   intro s' h;cases h
   refine⟨by simp,by show t4.types.length≤_;omega,λz=>?_⟩
   rw[n4,n3,n2,h2,qju hx,qfs,List.mem_append,List.mem_append,List.mem_append]
   constructor
   ·rintro(((h | h) | h) | h)
    ·exact h.elim .inl (λh=>.inr (.inl h))
    ·exact .inr (.inr (.inl h))
    ·exact .inr (.inr (.inr (.inr h)))
    ·exact .inr (.inr (.inr (.inl h)))
   ·rintro(h | h | h | h | h)
    ·exact .inl (.inl (.inl (.inl h)))
    ·exact .inl (.inl (.inl (.inr h)))
    ·exact .inl (.inl (.inr h))
    ·exact .inr h
    ·exact .inl (.inr h)
  ·obtain⟨q,t1⟩:=s
   obtain⟨e,h1,h2⟩:=hJ
   simp only at e h1 h2
   subst e
   simp only[qc3,dn,cond_false]
   rw[List.take_length] at h1
   exact⟨_,rfl,h1,λz=>by rw[h2,List.take_length]⟩
  ·rw[h1]
   exact⟨o,rfl,h2⟩
theorem qk4{V:Type}(n:Str):∀ l:List (Str×V),(mget l n).isSome=true↔n∈l.map (·.1)
 | []=>by simp[mget]
 | (q,y)::r=>by
  have ih:=qk4 n r
  unfold mget at ih ⊢
  rw[List.find?_cons,List.map_cons,List.mem_cons]
  cases h:(n==q) with
  | true=>simp[beq_iff_eq.1 h]
  | false=>
   have:=beq_eq_false_iff_ne.1 h
   simp only[this,false_or]
   exact ih
theorem qng{N:Nat}{ps:List Part}(hN:4000000≤N)(hb:blkPs ps≤1000000):∃ args e,qbZ N ps=some (args,e)∧args.length≤1000000∧(e=0→∀ n,(∃ a∈args,a.Name=n)↔n∈argL ps):=by
 unfold qbZ
 rw[qiw (by omega) (by omega)]
 simp only[Option.bind_some]
 cases vldM ps with
 | false=>exact⟨[],1,rfl,by simp,λh=>by(cases h)⟩
 | true=>
  obtain⟨t,e1,l1,n1⟩:=qvb N ps (Table.mk [] false) (by omega) (by simp;omega)
  have l1':t.types.length≤blkPs ps:=by simpa using l1
  simp only[Bool.not_true,cond_false,e1,Option.bind_some]
  cases t.wrong with
  | true=>exact⟨[],11,rfl,by simp,λh=>by(cases h)⟩
  | false=>
   simp only[cond_false]
   unfold qeX ql6
   rw[if_pos (by omega)]
   simp only[Option.bind_some]
   generalize hks:(t.types.map (·.1)).mergeSort (λx y=>decide (x≤y))=ks
   have hkl:ks.length=t.types.length:=by rw[← hks,List.length_mergeSort,List.length_map]
   have hkm:∀ n,n∈ks↔n∈argL ps:=λn=>by
    rw[← hks,List.mem_mergeSort,← qk4,n1]
    simp[mget]
   obtain⟨out,e2,o1,o2⟩:∃ out,iter (λs=>qcz N t ks s.1 s.2) N (([]:List Arg),0)=some out∧out.length≤ks.length∧∀ n,(∃ a∈out,a.Name=n)↔n∈ks:=by
    refine qbI ks (λs=>qcz N t ks s.1 s.2) (λk s=>s.2=(k:Int)∧s.1.length≤k∧∀ n,(∃ a∈s.1,a.Name=n)↔n∈ks.take k) (λout=>out.length≤ks.length∧∀ n,(∃ a∈out,a.Name=n)↔n∈ks) N (([]:List Arg),0) (by omega) ⟨rfl,by simp,λn=>by simp⟩ (λk x s hx hJ=>?_) (λs hJ=>?_) λo h1 h2=>⟨o,h1,h2⟩
    ·obtain⟨out,q⟩:=s
     obtain⟨e,h1,h2⟩:=hJ
     simp only at e h1 h2
     subst e
     have hk:=qdK hx
     simp only[qcz,dk hx,cond_true,ix hx,Option.bind_some]
     rw[appS (by simp;omega)]
     refine⟨_,rfl,?_,(λb h=>by cases h)⟩
     intro s' h;cases h
     refine⟨by simp,by simp;omega,λn=>?_⟩
     rw[qbO hx,List.mem_append,← h2,List.mem_singleton]
     constructor
     ·rintro⟨a,ha,rfl⟩
      rcases List.mem_append.1 ha with h | h
      ·exact .inl ⟨a,h,rfl⟩
      ·rw[List.mem_singleton.1 h];exact .inr rfl
     ·rintro(⟨a,ha,rfl⟩ | rfl)
      ·exact⟨a,List.mem_append.2 (.inl ha),rfl⟩
      ·exact⟨_,List.mem_append.2 (.inr (List.mem_singleton.2 rfl)),rfl⟩
    ·obtain⟨out,q⟩:=s
     obtain⟨e,h1,h2⟩:=hJ
     simp only at e h1 h2
     subst e
     simp only[qcz,dn,cond_false]
     exact⟨_,rfl,h1,λn=>by rw[h2,List.take_length]⟩
   rw[e2]
   exact⟨out,0,rfl,by omega,λ_ n=>by rw[o2,hkm]⟩
theorem qsr{N:Nat}{src tgt text:Str}(hN:4000000≤N)(h1:src.length≤200)(h2:tgt.length≤200)(h3:text.length≤400) :
  ∃ s e,qeV N src tgt text=some (s,e)∧(e≠0→s=[])∧(e=0→∃ q pt pp,vldM q=true∧s=prL q∧blkPs q≤1000000∧qbN N text=some (pt,pp,0)∧blkPs pt≤1000000∧∀ n∈argL q,n∈argL pt):=by
 obtain⟨pa,qa,ea,a1,a2⟩:=qkK (N:=N) (s:=src) (by omega) hN
 obtain⟨pb,qb,eb,b1,b2⟩:=qkK (N:=N) (s:=tgt) (by omega) hN
 obtain⟨pc,qc,ec,c1,c2⟩:=qkK (N:=N) (s:=text) h3 hN
 have m1:(3*src.length+10)*(src.length+1)≤(3*200+10)*(200+1):=Nat.mul_le_mul (by omega) (by omega)
 have m2:(3*tgt.length+10)*(tgt.length+1)≤(3*200+10)*(200+1):=Nat.mul_le_mul (by omega) (by omega)
 have m3:(3*text.length+10)*(text.length+1)≤(3*400+10)*(400+1):=Nat.mul_le_mul (by omega) (by omega)
 have i0:idx ([src,tgt,text]:List Str) 0=some src:=rfl
 have i1:idx ([src,tgt,text]:List Str) 1=some tgt:=rfl
 have i2:idx ([src,tgt,text]:List Str) 2=some text:=rfl
 unfold qeV
 simp only[i0,i1,i2,Option.bind_some,a1,b1,c1]
 cases(ea != 0) with
 | true=>exact⟨[],3,rfl,λ_=>rfl,λh=>by(cases h)⟩
 | false=>
  simp only[cond_false]
  cases(eb != 0) with
  | true=>exact⟨[],3,rfl,λ_=>rfl,λh=>by(cases h)⟩
  | false=>
   simp only[cond_false]
   cases hec:(ec != 0) with
   | true=>exact⟨[],3,rfl,λ_=>rfl,λh=>by(cases h)⟩
   | false=>
    have hec0:ec=0:=by simpa [bne] using hec
    subst hec0
    obtain⟨prs,ok,e1,l1,p1,p2⟩:=qoG (N:=N) (a:=pa) (b:=pc) hN (by omega) (by omega)
    simp only[cond_false,e1,Option.bind_some]
    have hV:∀ p∈prs,p.To∈argL pc∧p.To.length≤40:=λp hp=>by
     obtain⟨v1,v2⟩:=p1 p hp
     have hn:=OkD.names pc (qnF v1) p.To v2
     unfold nam at hn
     simp only[Bool.and_eq_true,decide_eq_true_eq] at hn
     exact⟨v2,hn.1⟩
    obtain⟨M,e2,hM⟩:∃ M,iter (λs=>qeQ N (prs,ok) s.1 s.2) N (0,([]:List (Str×Str)))=some M∧NM (λv=>v∈argL pc) M:=by
     refine qbI prs (λs=>qeQ N (prs,ok) s.1 s.2) (λk s=>s.1=(k:Int)∧s.2.length≤k∧NM (λv=>v∈argL pc) s.2) (λM=>NM (λv=>v∈argL pc) M) N (0,([]:List (Str×Str))) (by omega) ⟨rfl,by simp,⟨λn v h=>by simp[mget] at h⟩⟩ (λk x s hx hJ=>?_) (λs hJ=>?_) λo q1 q2=>⟨o,q1,q2⟩
     ·obtain⟨q,M⟩:=s
      obtain⟨e,q1,q2⟩:=hJ
      simp only at e q1 q2
      subst e
      have hk:=qdK hx
      simp only[qeQ,dk hx,cond_true,ix hx,Option.bind_some]
      rw[qmR (by omega)]
      refine⟨_,rfl,?_,(λb h=>by cases h)⟩
      intro s' h;cases h
      have m:=qgy x.From x.To M
      refine⟨by simp,by show(mput M x.From x.To).length≤k+1;omega,⟨λn v hv=>?_⟩⟩
      have hv':mget (mput M x.From x.To) n=some v:=hv
      rw[qjz] at hv'
      split at hv'
      ·cases hv';exact hV x (qbQ hx)
      ·exact q2.val n v hv'
     ·obtain⟨q,M⟩:=s
      obtain⟨e,q1,q2⟩:=hJ
      simp only at e q1 q2
      subst e
      simp only[qeQ,dn,cond_false]
      exact⟨_,rfl,q2⟩
    simp only[e2,Option.bind_some]
    obtain⟨q,ok2,e3,l3,n3⟩:=qu7 (V:=λv=>v∈argL pc) N pb M hM (by omega) (by omega)
    simp only[e3,Option.bind_some]
    cases ok with
    | false=>exact⟨[],8,rfl,λ_=>rfl,λh=>by(cases h)⟩
    | true=>
     simp only[Bool.not_true,cond_false]
     cases ok2 with
     | false=>exact⟨[],8,rfl,λ_=>rfl,λh=>by(cases h)⟩
     | true=>
      simp only[Bool.not_true,cond_false]
      rw[qq2 (by omega) (by omega)]
      simp only[Option.bind_some]
      cases hv:vldM q with
      | false=>exact⟨[],6,rfl,λ_=>rfl,λh=>by(cases h)⟩
      | true=>exact⟨prL q,0,rfl,λh=>absurd rfl h,λ_=>⟨q,pc,qc,hv,rfl,by omega,rfl,by omega,n3 rfl⟩⟩
end Go.Proofs.YtkhjeeakflefjaaGreatDoor
namespace Go.Proofs.YtkhjeeakflefjaaGreatDoor
open Go.X
theorem qq3{N:Nat}{r:List Arg×Int}{x:Arg}(h:r.1.length<N)(hx:∃ a∈r.1,a.Name=x.Name):iter (λs=>qcD N r x s.1 s.2) N (false,0)=some true:=by
 refine qbI r.1 (λs=>qcD N r x s.1 s.2) (λk s=>s.2=(k:Int)∧((∃ a∈r.1.take k,a.Name=x.Name)→s.1=true)) (λb=>b=true) N (false,0) h ⟨rfl,λh=>by obtain⟨a,ha,_⟩:=h;simp at ha⟩ (λk y s hy hJ=>?_) (λs hJ=>?_) λb h1 h2=>by rw[h1,h2]
 ·obtain⟨f,q⟩:=s
  obtain⟨e,h1⟩:=hJ
  simp only at e h1
  subst e
  simp only[qcD,dk hy,cond_true,ix hy,Option.bind_some]
  cases f with
  | true=>
   refine⟨_,rfl,?_,(λb h=>by cases h)⟩
   intro s' h;cases h
   exact⟨by simp,λ_=>rfl⟩
  | false=>
   refine⟨_,rfl,?_,(λb h=>by cases h)⟩
   intro s' h;cases h
   refine⟨by simp,λh=>?_⟩
   rw[qbO hy] at h
   obtain⟨a,ha,hn⟩:=h
   rcases List.mem_append.1 ha with h | h
   ·have:=h1 ⟨a,h,hn⟩;cases this
   ·rw[List.mem_singleton.1 h] at hn
    simp[hn]
 ·obtain⟨f,q⟩:=s
  obtain⟨e,h1⟩:=hJ
  simp only at e h1
  subst e
  simp only[qcD,dn,cond_false]
  rw[List.take_length] at h1
  exact⟨_,rfl,h1 hx⟩
theorem qqT{N:Nat}{r1 r2:List Arg×Int}(h1:r1.1.length<N)(h2:r2.1.length<N)(hs:∀ x∈r1.1,∃ a∈r2.1,a.Name=x.Name):iter (λs=>qcd N r1 r2 s) N 0=some (.inl ()):=by
 refine qbI r1.1 (λs=>qcd N r1 r2 s) (λk s=>s=(k:Int)) (λb=>b=.inl ()) N 0 h1 rfl (λk y s hy hJ=>?_) (λs hJ=>?_) λb h1 h2=>by rw[h1,h2]
 ·subst hJ
  simp only[qcd,dk hy,cond_true,ix hy,Option.bind_some,qq3 (x:=y) h2 (hs y (qbQ hy)),Bool.not_true,cond_false]
  refine⟨_,rfl,?_,(λb h=>by cases h)⟩
  intro s' h;cases h;simp
 ·subst hJ
  simp only[qcd,dn,cond_false]
  exact⟨_,rfl,rfl⟩
theorem qoi{N:Nat}{text:Str}{x:Match}(hN:4000000≤N)(h1:x.Source.length≤200)(h2:x.Target.length≤200)(ht:text.length≤400) :
  ((qeV N x.Source x.Target text).bind λr450=>
        bif (r450.2 != 0) then
         some (r450.1==([]))
        else
         (qbN N r450.1).bind λr455=>
         (qbN N text).bind λr467=>
         (qbZ N r455.1).bind λr479=>
         (qbZ N r467.1).bind λr485=>
         bif (r455.2.2 != 0) then
          some false
         else
          bif (r467.2.2 != 0) then
           some false
          else
           bif (r479.2 != 0) then
            some true
           else
            bif (r485.2 != 0) then
             some true
            else
             (iter (λs=>qcd N r479 r485 s) N 0).bind λo496=>
             Sum.elim (λ_o496=>
              some true)
             (λo496=>
              some o496) o496)=some true:=by
 obtain⟨s,e,e1,g1,g2⟩:=qsr (N:=N) hN h1 h2 ht
 rw[e1]
 simp only[Option.bind_some]
 by_cases he:e=0
 ·obtain⟨q,pt,pp,v1,v2,v3,v4,v5,v6⟩:=g2 he
  subst he v2
  obtain⟨a1,x1,i1,l1,n1⟩:=qng (N:=N) (ps:=q) hN v3
  obtain⟨a2,x2,i2,l2,n2⟩:=qng (N:=N) (ps:=pt) hN v5
  simp only[show((0:Int)!=0)=false from rfl,cond_false,qpJ v1 (show blkPs q+2003110≤N by omega) v3,v4,Option.bind_some,i1,i2]
  by_cases hx1:x1=0
  ·by_cases hx2:x2=0
   ·subst hx1 hx2
    simp only[show((0:Int)!=0)=false from rfl,cond_false]
    rw[qqT (r1:=(a1,0)) (r2:=(a2,0)) (by show a1.length<N;omega) (by show a2.length<N;omega) (λy hy=>(n2 rfl _).2 (v6 _ ((n1 rfl _).1 ⟨y,hy,rfl⟩)))]
    rfl
   ·have e1:(x1 != 0)=false:=by rw[hx1];rfl
    have e2:(x2 != 0)=true:=by simpa [bne] using hx2
    rw[e1,e2];rfl
  ·have e1:(x1 != 0)=true:=by simpa [bne] using hx1
   rw[e1];rfl
 ·have e1:(e != 0)=true:=by simpa [bne] using he
  rw[e1,g1 he];rfl
theorem qvt{N:Nat}{l:List Segment}{text:Str}(hN1:l.length<N)(hN:4000000≤N):qcK N l text=some true:=by
 unfold qcK qhf
 obtain⟨e,m',e1,m1,m2,m3,m4⟩:=qpP (N:=N) (k:=0) (src:=[97,32,123,120,125]) (tgt:=[98,32,123,120,125]) (m:=Memory.mk [] []) hN (by omega) (MI.new N) (by decide) (by decide)
 obtain⟨rfl,hlen⟩:=m4 rfl
 simp only[Option.bind_some,e1,show((0:Int)!=0)=false from rfl,cond_false,qfL,hlen,show(((1:Nat):Int)!=1)=false from rfl]
 obtain⟨b,hb,hfew⟩:=qsK (N:=N) (l:=l) (by omega)
 simp only[hb,Option.bind_some]
 cases b with
 | false=>rfl
 | true=>
  obtain⟨hl30,hl200⟩:=hfew rfl
  obtain⟨lg,hlg⟩:=qrN (N:=N) (s:=text) (by omega)
  simp only[Bool.not_true,cond_false,hlg,Option.bind_some]
  cases lg with
  | true=>rfl
  | false=>
   simp only[cond_false]
   by_cases ht:text.length>400
   ·rw[decide_eq_true (by omega)];rfl
   ·rw[decide_eq_false (by omega)]
    simp only[cond_false]
    obtain⟨mem,ex,e2,hm,hex⟩:∃ mem ex,iter (λs=>qcC N l text s.1 s.2.1 s.2.2) N (false,0,(Memory.mk [] []))=some (mem,ex)∧MI N l.length mem∧(ex=true→∃ (i:Nat) (g:Segment2),mem.segments[i]? = some g∧g.source=text):=by
     refine qbI l (λs=>qcC N l text s.1 s.2.1 s.2.2) (λk s=>s.2.1=(k:Int)∧MI N k s.2.2∧(s.1=true→∃ (i:Nat) (g:Segment2),s.2.2.segments[i]? = some g∧g.source=text)) (λo=>MI N l.length o.1∧(o.2=true→∃ (i:Nat) (g:Segment2),o.1.segments[i]? = some g∧g.source=text)) N (false,0,(Memory.mk [] [])) (by omega) ⟨rfl,MI.new N,λh=>by cases h⟩ (λk x s hx hJ=>?_) (λs hJ=>?_) λo h1 h2=>⟨o.1,o.2,h1,h2⟩
     ·obtain⟨ex,q,mem⟩:=s
      obtain⟨e,h1,h2⟩:=hJ
      simp only at e h1 h2
      subst e
      have hk:=qdK hx
      have hxb:=hl200 x (qbQ hx)
      obtain⟨e,m2,a1,a2,a3,a4,_⟩:=qpP (N:=N) (k:=k) (src:=x.Source) (tgt:=x.Target) (m:=mem) hN (by omega) h1 hxb.1 hxb.2
      simp only[qcC,dk hx,cond_true,ix hx,Option.bind_some,a1]
      cases ex with
      | true=>
       refine⟨_,rfl,?_,(λb h=>by cases h)⟩
       intro s' h;cases h
       refine⟨by simp,a2,λ_=>?_⟩
       obtain⟨i,g,g1,g2⟩:=h2 rfl
       exact⟨i,g,a3 i g g1,g2⟩
      | false=>
       simp only[cond_false]
       by_cases he:e=0
       ·subst he
        simp only[show((0:Int)==0)=true from rfl,cond_true]
        refine⟨_,rfl,?_,(λb h=>by cases h)⟩
        intro s' h;cases h
        refine⟨by simp,a2,λh=>?_⟩
        obtain⟨i,g,g1,g2⟩:=a4 rfl
        exact⟨i,g,g1,by rw[g2];exact beq_iff_eq.1 h⟩
       ·simp only[beq_eq_false_iff_ne.2 he,cond_false]
        refine⟨_,rfl,?_,(λb h=>by cases h)⟩
        intro s' h;cases h
        exact⟨by simp,a2,λh=>by cases h⟩
     ·obtain⟨ex,q,mem⟩:=s
      obtain⟨e,h1,h2⟩:=hJ
      simp only at e h1 h2
      subst e
      simp only[qcC,dn,cond_false]
      exact⟨_,rfl,h1,h2⟩
    simp only[e2,Option.bind_some]
    obtain⟨x,f,e3,b1,b2⟩:=qrF (N:=N) (text:=text) hN hl30 hm (by omega)
    simp only[e3,Option.bind_some]
    cases ex with
    | true=>
     obtain⟨rfl,hs⟩:=b2 (hex rfl)
     obtain⟨c1,c2⟩:=b1 rfl
     simp only[cond_true,Bool.not_true,cond_false,hs,show((1000:Int)!=1000)=false from rfl]
     exact qoi hN c1 c2 (by omega)
    | false=>
     simp only[cond_false]
     cases f with
     | false=>rfl
     | true=>
      obtain⟨c1,c2⟩:=b1 rfl
      simp only[Bool.not_true,cond_false]
      exact qoi hN c1 c2 (by omega)
theorem qn8(l:List Segment)(text:Str):∃ N,qcK N l text=some true:=
 ⟨_,qvt (N:=l.length+4000000) (Nat.lt_add_of_pos_right (by decide)) (Nat.le_add_left _ _)⟩
end Go.Proofs.YtkhjeeakflefjaaGreatDoor
