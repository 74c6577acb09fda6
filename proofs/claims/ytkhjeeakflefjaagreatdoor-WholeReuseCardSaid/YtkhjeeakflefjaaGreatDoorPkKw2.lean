/- Texts of this proof, joined by pack.py. -/
import Derived.Test.YtkhjeeakflefjaaGreatDoorPkKw1
import Derived.Test.YtkhjeeakflefjaaGreatDoorCards
import Derived.Test.YtkhjeeakflefjaaGreatDoorChecked
import Derived.Test.YtkhjeeakflefjaaGreatDoorProg
import Derived.Test.YtkhjeeakflefjaaGreatDoorRows
import Derived.Test.YtkhjeeakflefjaaGreatDoorTie
set_option linter.unusedVariables false
set_option linter.unusedSimpArgs false
namespace Go.X
open Go.Proofs Go.Shelf Go.Sort Go.RowKit
section
variable {P:Program} {Q:Exit→Act→World→Prop} {c:Code} {a:Act} {w:World}
theorem qv2(k:Nat)(h:Code.rounds P c Q k a w):(Code.loop c).wp P Q a w:=wp_loop_rounds k h
theorem qoM{k:Nat}(h:c.wp P (λe a w=>(e=.normal∧Code.rounds P c Q k a w)∨(e≠.normal∧Q e a w)) a w):Code.rounds P c Q (k+1) a w:=by
 refine wp_mono h λe a' w' h=>?_
 rcases h with⟨rfl,h⟩ | ⟨hne,hq⟩
 ·exact h
 ·cases e <;> first | exact absurd rfl hne | exact hq
end
theorem Env.updV{n:Nat}{a:Act}{L:List (Nat×Value)}{v v':Value}(E:Env n a L)(d:Nat)(h:v=v')(hl:look L d=some v):Env n a ((d,v')::L):=
 ⟨E.d,E.sz,λi x hi=>by
  simp only[look] at hi
  cases hb:Nat.beq d i with
  | false=>rw[hb] at hi;exact E.get i x hi
  | true=>
   rw[hb] at hi
   have:=Nat.eq_of_beq_eq_true hb
   subst this
   cases hi
   exact E.get _ _ (by rw[hl,h])⟩
section
variable {P:Program} {C:World→Prop} {L:List (Nat×Value)} {ty:TypeId}
theorem qvf{x y z:Operand}{k k' k2:IntKind}{p q r:Int}{ats:Array TypeId}(hx:ev L x=some (.int k p))(hy:ev L y=some (.int k' q))(hz:ev L z=some (.int k2 r)) :
  qa5 P C L (.call { callee:=.builtin .min,args:=#[x,y,z],argTypes:=ats }) ty (.int k (min (min p q) r)):=by
 intro ρ w dst pos after g E ok
 have this:(Builtin.min_ ats ty #[.int k p,.int k' q,.int k2 r]).run P w=.ok (.int k (min (min p q) r)) w:=by
  have e:∀ x y:Int,(if y<x then y else x)=min x y:=λx y=>by
   rw[Int.min_def]
   split <;> split <;> omega
  simp[Builtin.min_,Builtin.min2,e]
 simp[E hx,E hy,E hz,this,go_sem]
end
section
variable {K V:Type} [BEq K] [LawfulBEq K] {KR:Value→K→Prop} {R:Mem→Value→V→Prop} {P:Program} {kt et:TypeId} {m:Mem} {v:Value} {l:List (K×V)} {Mx:List (Nat×Obj)} {L:List (Nat×Value)} {u:World} {B:Segs} {ty:TypeId}
theorem qrh{t:TypeId}{X:Operand}(k:Nat)(hk:B[k]? = some Mx)(ht:P.underlying t=some (.map kt et))(h:OMap KR R m v l Mx)(hX:ev L X=some v) :
  qa5 P (Cls u m B) L (.call { callee:=.builtin .len,args:=#[X],argTypes:=#[t] }) ty (.int .i64 l.length):=by
 intro ρ w dst pos after g E ok
 obtain⟨m',S',hle,ok,hB⟩:=ok
 obtain⟨i,hi⟩:=List.mem_iff_getElem?.1 (hB.mem _ (qnj k hk))
 obtain⟨b,es,clock,rfl,rfl,hE,hlim,hd,_⟩:=h
 have hb:w.heap[b]? = some (.map es.toArray clock):=(ok.own (b,.map es.toArray clock) (qd6 (k:=i) (by simp[qdf,hi]))).1
 have hget:(getObj b).run P w=.ok (.map es.toArray clock) w:=by simp[getObj,Sem.run,hb]
 simp[E hX,Builtin.len_,goInt,run_underlying ht,hget,hE.len,Result.andThen,go_sem]
end
abbrev PKV:=List UInt8×Value
abbrev PKL:=List UInt8×List Int
def rawV:Mem→Value→Value→Prop:=λ_ v x=>v=x
theorem qp6:MonoV rawV:=⟨λ_ h=>h⟩
def NMap(e:Nat)(m:Mem)(v:Value)(l:List PKL)(M:List (Nat×Obj)):Prop:=
 ∃ (raw:List PKV) (ms:List (List (Nat×Obj))) (M1:List (Nat×Obj)),M=M1++ms.flatten∧OMap kS rawV m v raw M1∧raw.map (·.1)=l.map (·.1)∧ms.length=l.length ∧
  ∀ (i:Nat) (k:List UInt8) (c:Value) (xs:List Int) (Mi:List (Nat×Obj)),raw[i]? = some (k,c)→l[i]? = some (k,xs)→ms[i]? = some Mi→ORow e 1 (pI .i64) m c xs Mi
def qkL(e:Nat)(m:Mem)(raw:List PKV)(l:List PKL)(k:List UInt8)(c:Value)(Mr:List (Nat×Obj)):Prop:=
  raw.map (·.1)=l.map (·.1)∧raw.Pairwise (λp q=>p.1≠q.1)∧∃ ms:List (List (Nat×Obj)),Mr=ms.flatten∧ms.length=l.length ∧
    ((∃ i xs,raw[i]? = some (k,c)∧l[i]? = some (k,xs)∧ms[i]? = some [] ∧
      ∀ (j:Nat) (k:List UInt8) (c:Value) (xs:List Int) (Mi:List (Nat×Obj)),j≠i→raw[j]? = some (k,c)→l[j]? = some (k,xs)→ms[j]? = some Mi→ORow e 1 (pI .i64) m c xs Mi) ∨
     (c=.slice none 0 0∧(∀ p∈l,p.1≠k) ∧
      ∀ (j:Nat) (k:List UInt8) (c:Value) (xs:List Int) (Mi:List (Nat×Obj)),raw[j]? = some (k,c)→l[j]? = some (k,xs)→ms[j]? = some Mi→ORow e 1 (pI .i64) m c xs Mi))
section
variable {e:Nat} {m m':Mem} {v c:Value} {l:List PKL} {raw:List PKV} {k:List UInt8} {M M1 Mk Mr:List (Nat×Obj)} {u w:World} {S:Segs}
theorem NMap.up(hm:m.le m')(h:NMap e m v l M):NMap e m' v l M:=by
 obtain⟨raw,ms,M1,h1,h2,h3,h4,h5⟩:=h
 exact⟨raw,ms,M1,h1,h2.up qp6 hm,h3,h4,λi k c xs Mi a b d=>(h5 i k c xs Mi a b d).up (mI .i64) hm⟩
theorem NRaw.up(hm:m.le m')(h:OMap kS rawV m v raw M):OMap kS rawV m' v raw M:=h.up qp6 hm
theorem qkL.up(hm:m.le m')(h:qkL e m raw l k c M):qkL e m' raw l k c M:=by
 obtain⟨h1,h2,ms,h3,h4,h5⟩:=h
 refine⟨h1,h2,ms,h3,h4,?_⟩
 rcases h5 with⟨i,xs,a,b,d,f⟩ | ⟨a,b,f⟩
 ·exact .inl ⟨i,xs,a,b,d,λj k c xs Mi hj x y z=>(f j k c xs Mi hj x y z).up (mI .i64) hm⟩
 ·exact .inr ⟨a,b,λj k c xs Mi x y z=>(f j k c xs Mi x y z).up (mI .i64) hm⟩
theorem NMap.cells(h:NMap e m v l M):v.cells.toList=[v]:=by obtain⟨_,_,_,_,h,_⟩:=h;exact h.cells
theorem NMap.one(h:NMap e m v l M):v.oneCell'=true:=by obtain⟨_,_,_,_,h,_⟩:=h;exact h.one
theorem NMap.made{b:Nat}:NMap e m (.map (some b)) [] [(b,Obj.map #[] 0)]:=⟨[],[],_,by simp,OMap.made,rfl,rfl,λi k c xs Mi a=>by simp at a⟩
theorem NMap.look{P:Program}{t kt et:TypeId}{mo ko:Operand}{L:List (Nat×Value)}(ok:Ok u m (M::S) w)(H:KeyR P kt kS)(ht:P.underlying t=some (.map kt et))(h:NMap e m v l M)(hk:k.length≤LIMS)
  (hm:ev L mo=some v) (hko:ev L ko=some (.string (bs k))) (hz:qjt P et=some (.slice none 0 0)) :
  ∃ raw M1 Mk Mr c,Ok u m (M1::Mk::Mr::S) w∧OMap kS rawV m v raw M1∧ORow e 1 (pI .i64) m c ((mget l k).getD []) Mk∧qkL e m raw l k c Mr ∧
   ∀ ty,qa5 P (Ok u m (M1::Mk::Mr::S)) L (.lookup t mo ko false) ty c:=by
 obtain⟨raw,ms,M1,rfl,h2,h3,h4,h5⟩:=h
 have hd:raw.Pairwise (λp q=>p.1≠q.1):=by obtain⟨_,_,_,_,_,_,_,h,_⟩:=h2;exact h
 have hlen:raw.length=l.length:=by have:=congrArg List.length h3;simpa using this
 have hdl:l.Pairwise (λp q=>p.1≠q.1):=by
  have a:(raw.map (·.1)).Pairwise (λa b=>a≠b):=by rw[List.pairwise_map];exact hd
  rw[h3,List.pairwise_map] at a;exact a
 cases hr:mget raw k with
 | none=>
  have hnk:∀ p∈l,p.1≠k:=by
   intro p hp e
   have:p.1∈raw.map (·.1):=by rw[h3];exact List.mem_map.2 ⟨p,hp,rfl⟩
   obtain⟨q,hq,hqe⟩:=List.mem_map.1 this
   obtain⟨j,hj⟩:=List.mem_iff_getElem?.1 hq
   have:=qiK hd hj
   rw[hqe,e,hr] at this;cases this
  have ok2:Ok u m (M1::[]::ms.flatten::S) w:=ok.perm (by simp)
  obtain⟨xv,hxv,hy,_⟩:=qfC (P:=P) (mo:=mo) (ko:=ko) (L:=L) (zx:=Value.slice none 0 0) ok2 0 H ht h2 rfl hm hko ⟨rfl,hk⟩ hz rfl
  have hx:xv=.slice none 0 0:=by
   have:xv=_:=hxv
   rw[this,hr];rfl
  subst hx
  refine⟨raw,M1,[],ms.flatten,_,ok2,h2,?_,⟨h3,hd,ms,rfl,h4,.inr ⟨rfl,hnk,h5⟩⟩,hy⟩
  rw[qlB hnk];exact ORow.nil
 | some c=>
  obtain⟨j,hj⟩:∃ j,raw[j]? = some (k,c):=by
   unfold mget at hr
   cases hf:raw.find? λp=>k==p.1 with
   | none=>rw[hf] at hr;cases hr
   | some p=>
    rw[hf] at hr
    have h1:=List.find?_some hf
    have h2:=List.mem_of_find?_eq_some hf
    obtain⟨j,hj⟩:=List.mem_iff_getElem?.1 h2
    simp only[beq_iff_eq] at h1
    simp only[Option.map_some,Option.some.injEq] at hr
    exact⟨j,by rw[hj,h1,← hr]⟩
  have hjl:j<raw.length:=(List.getElem?_eq_some_iff.1 hj).1
  have hkey:(l.map (·.1))[j]? = some k:=by rw[← h3,List.getElem?_map,hj];rfl
  rw[List.getElem?_map] at hkey
  cases hlj:l[j]? with
  | none=>rw[hlj] at hkey;cases hkey
  | some p=>
   rw[hlj] at hkey
   obtain⟨k',xs⟩:=p
   simp only[Option.map_some,Option.some.injEq] at hkey
   subst hkey
   obtain⟨Mi,hMi⟩:∃ Mi,ms[j]? = some Mi:=⟨ms[j]'(by omega),List.getElem?_eq_getElem (by omega)⟩
   have hp:=qhe ms j Mi hMi
   have ok2:Ok u m (M1::Mi::(ms.set j []).flatten::S) w:=ok.perm (by
    simp only[List.flatten_cons,List.append_assoc]
    refine List.Perm.append_left _ ?_
    rw[← List.append_assoc]
    exact hp.append_right _)
   obtain⟨xv,hxv,hy,_⟩:=qfC (P:=P) (mo:=mo) (ko:=ko) (L:=L) (zx:=Value.slice none 0 0) ok2 0 H ht h2 rfl hm hko ⟨rfl,hk⟩ hz rfl
   have hx:xv=c:=by
    have:xv=_:=hxv
    rw[this,hr];rfl
   subst hx
   have hg:=qiK hdl hlj
   simp only at hg
   refine⟨raw,M1,Mi,_,_,ok2,h2,?_,⟨h3,hd,ms.set j [],rfl,by simpa using h4,.inl ⟨j,xs,hj,hlj,by rw[List.getElem?_set_self (by omega)],?_⟩⟩,hy⟩
   ·rw[hg];exact h5 j _ _ _ _ hj hlj hMi
   ·intro i k' c' xs' Mi' hij a b d
    rw[List.getElem?_set_ne (Ne.symm hij)] at d
    exact h5 i _ _ _ _ a b d
theorem NMap.close0(ok:Ok u m (M1::Mk::Mr::S) w)(h1:OMap kS rawV m v raw M1)(hr:ORow e 1 (pI .i64) m c ((mget l k).getD []) Mk)(ho:qkL e m raw l k c Mr):∃ M,Ok u m (M::S) w∧NMap e m v l M:=by
 obtain⟨h3,hd,ms,rfl,h4,h5⟩:=ho
 have hlen:raw.length=l.length:=by have:=congrArg List.length h3;simpa using this
 have hdl:l.Pairwise (λp q=>p.1≠q.1):=by
  have a:(raw.map (·.1)).Pairwise (λa b=>a≠b):=by rw[List.pairwise_map];exact hd
  rw[h3,List.pairwise_map] at a;exact a
 rcases h5 with⟨i,xs,a,b,d,f⟩ | ⟨a,b,f⟩
 ·have hg:=qiK hdl b
  simp only at hg
  rw[hg] at hr
  have hil:i<ms.length:=(List.getElem?_eq_some_iff.1 d).1
  have hp:=qhe (ms.set i Mk) i Mk (by rw[List.getElem?_set_self hil])
  have hss:(ms.set i Mk).set i []=ms:=by
   rw[List.set_set]
   apply List.ext_getElem?
   intro j
   by_cases hj:i=j
   ·subst hj;rw[List.getElem?_set_self hil,d]
   ·rw[List.getElem?_set_ne hj]
  rw[hss] at hp
  refine⟨M1++(ms.set i Mk).flatten,ok.perm ?_,raw,ms.set i Mk,M1,rfl,h1,h3,by simpa using h4,?_⟩
  ·simp only[List.flatten_cons,List.append_assoc]
   refine List.Perm.append_left _ ?_
   rw[← List.append_assoc]
   exact hp.symm.append_right _
  ·intro j k' c' xs' Mi x y z
   by_cases hj:i=j
   ·subst hj
    rw[List.getElem?_set_self hil] at z
    rw[a] at x;rw[b] at y
    cases x;cases y;cases z;exact hr
   ·rw[List.getElem?_set_ne hj] at z
    exact f j k' c' xs' Mi (Ne.symm hj) x y z
 ·refine⟨M1++ms.flatten,?_,raw,ms,M1,rfl,h1,h3,h4,f⟩
  have h:=ok.swap.drop
  exact h.perm (by simp)
theorem NMap.put{c':Value}{xs':List Int}{raw':List PKV}{l':List PKL}(ok:Ok u m (M1::Mk::Mr::S) w)(h1:OMap kS rawV m v raw' M1)(hr:ORow e 1 (pI .i64) m c' xs' Mk)(ho:qkL e m raw l k c Mr)(hraw:mput raw k c'=raw')(hl:mput l k xs'=l') :
  ∃ M,Ok u m (M::S) w∧NMap e m v l' M:=by
 obtain⟨h3,hd,ms,rfl,h4,h5⟩:=ho
 have hlen:raw.length=l.length:=by have:=congrArg List.length h3;simpa using this
 have hdl:l.Pairwise (λp q=>p.1≠q.1):=by
  have a:(raw.map (·.1)).Pairwise (λa b=>a≠b):=by rw[List.pairwise_map];exact hd
  rw[h3,List.pairwise_map] at a;exact a
 rcases h5 with⟨i,xs,a,b,d,f⟩ | ⟨a,b,f⟩
 ·have e1:=qkV (x:=c') hd a
  have e2:=qkV (x:=xs') hdl b
  simp only at e1 e2
  rw[e1] at hraw;rw[e2] at hl
  subst hraw;subst hl
  have hil:i<ms.length:=(List.getElem?_eq_some_iff.1 d).1
  have hir:i<raw.length:=(List.getElem?_eq_some_iff.1 a).1
  have hll:i<l.length:=(List.getElem?_eq_some_iff.1 b).1
  have hp:=qhe (ms.set i Mk) i Mk (by rw[List.getElem?_set_self hil])
  have hss:(ms.set i Mk).set i []=ms:=by
   rw[List.set_set]
   apply List.ext_getElem?
   intro j
   by_cases hj:i=j
   ·subst hj;rw[List.getElem?_set_self hil,d]
   ·rw[List.getElem?_set_ne hj]
  rw[hss] at hp
  refine⟨M1++(ms.set i Mk).flatten,ok.perm ?_,_,ms.set i Mk,M1,rfl,h1,?_,by simpa using h4,?_⟩
  ·simp only[List.flatten_cons,List.append_assoc]
   refine List.Perm.append_left _ ?_
   rw[← List.append_assoc]
   exact hp.symm.append_right _
  ·rw[List.map_set,List.map_set,h3]
  ·intro j k' c2 xs2 Mi x y z
   by_cases hj:i=j
   ·subst hj
    rw[List.getElem?_set_self hil] at z
    rw[List.getElem?_set_self hir] at x
    rw[List.getElem?_set_self hll] at y
    cases x;cases y;cases z;exact hr
   ·rw[List.getElem?_set_ne hj] at z
    rw[List.getElem?_set_ne hj] at x
    rw[List.getElem?_set_ne hj] at y
    exact f j k' c2 xs2 Mi (Ne.symm hj) x y z
 ·have hnr:∀ p∈raw,p.1≠k:=by
   intro p hp he
   have:p.1∈l.map (·.1):=by rw[← h3];exact List.mem_map.2 ⟨p,hp,rfl⟩
   obtain⟨q,hq,hqe⟩:=List.mem_map.1 this
   exact b q hq (hqe.trans he)
  rw[qiO hnr] at hraw
  rw[qiO b] at hl
  subst hraw;subst hl
  refine⟨M1++(ms++[Mk]).flatten,ok.perm ?_,_,ms++[Mk],M1,rfl,h1,by simp[h3],by simp[h4],?_⟩
  ·simp only[List.flatten_cons,List.flatten_append,List.flatten_nil,List.append_nil,List.append_assoc]
   refine List.Perm.append_left _ ?_
   rw[← List.append_assoc,← List.append_assoc]
   exact List.perm_append_comm.append_right _
  ·intro j k' c2 xs2 Mi x y z
   by_cases hj:j<raw.length
   ·rw[List.getElem?_append_left hj] at x
    rw[List.getElem?_append_left (by omega)] at y
    rw[List.getElem?_append_left (by omega)] at z
    exact f j k' c2 xs2 Mi x y z
   ·have hj0:j=raw.length:=by
     have:=(List.getElem?_eq_some_iff.1 x).1
     simp at this;omega
    subst hj0
    rw[List.getElem?_append_right (Nat.le_refl _),Nat.sub_self] at x
    rw[hlen,List.getElem?_append_right (Nat.le_refl _),Nat.sub_self] at y
    rw[hlen,← h4,List.getElem?_append_right (Nat.le_refl _),Nat.sub_self] at z
    cases x;cases y;cases z;exact hr
end
section
variable {P:Program} {kt:TypeId} {e:Nat} {m:Mem} {v c:Value} {l:List PKL} {raw:List PKV} {k:List UInt8} {M1 Mk Mr:List (Nat×Obj)}
 {Q:Exit→Act→World→Prop} {n:Nat} {L:List (Nat×Value)} {ol rest:List Oper} {a:Act} {w u:World} {S:Segs} {d:Nat} {ty:TypeId} {pos:String} {after:Array Edge} {g:Option (Nat×Bool)}
theorem qq1{t:TypeId}(e:Nat)(E:Env n a L)(ok:Ok u m S w)(hg:want ol L g=some true)(hd:Nat.blt d n=true)
  (Kk:∀ v Mx a' w',Env n a' ((d,v)::L)→Ok u m (Mx::S) w'→NMap e m v [] Mx→wpList P ol.toArray Q rest a' w') :
  wpList P ol.toArray Q (⟨some d,.makeMap t none,ty,pos,after,g⟩::rest) a w:=by
 refine l_op (v:=.map (some w.heap.size)) (w':=w.alloc (.map #[] 0)) E hg hd ?_ (λa' E'=>Kk _ _ _ _ E' (ok.alloc _) NMap.made)
 simp only[execOp,Instr.makeMap,Option.map_none,Sem.run_bind,Sem.run_pure,qeY,Result.andThen_ok]
theorem qov{t et:TypeId}{mo ko xo:Operand}{c':Value}{xs':List Int}{l':List PKL}{op:Op}(hop:op=.mapUpdate t mo ko xo∨op=.insert t mo ko xo)(E:Env n a L)(ok:Ok u m (M1::Mk::Mr::S) w)(H:KeyR P kt kS)(ht:P.underlying t=some (.map kt et))
  (h1:OMap kS rawV m v raw M1) (hr:ORow e 1 (pI .i64) m c' xs' Mk) (ho:qkL e m raw l k c Mr) (hk:k.length≤LIMS) (hl:mset l k xs'=some l')
  (hm:ev L mo=some v) (hko:ev L ko=some (.string (bs k))) (hxo:ev L xo=some c') (hg:want ol L g=some true)
  (Kk:∀ Mx' w',Ok u m (Mx'::S) w'→NMap e m v l' Mx'→wpList P ol.toArray Q rest a w') :
  wpList P ol.toArray Q (⟨none,op,ty,pos,after,g⟩::rest) a w:=by
 have hlen:raw.length=l.length:=by have:=congrArg List.length ho.1;simpa using this
 unfold mset at hl
 split at hl
 ·rename_i hlt
  have hl2:mput l k xs'=l':=by simpa using hl
  refine qd8 (x:=c') (l':=mput raw k c') hop E ok 0 H ht h1 rfl hm hko hxo ⟨rfl,hk⟩ rfl (by unfold mset;rw[if_pos (by omega)]) hg λMx' w' ok' h'=>?_
  obtain⟨M,ok2,h2⟩:=NMap.put ok' h' hr ho rfl hl2
  exact Kk M w' ok2 h2
 ·cases hl
end
theorem Ok.growN{u w:World}{m:Mem}{S:Segs}(ok:Ok u m S w)(os:Array Obj):Ok u m S (grow w os):=by
 refine ok.below' ⟨rfl,rfl,rfl,?_,λk hk=>?_⟩
 ·simp[grow]
 ·simp only[grow]
  rw[Array.getElem?_append_left hk]
theorem Ok.aheadN{u w:World}{m:Mem}{S:Segs}(ok:Ok u m S w)(n:Nat):Ok u m S (Sort.ahead w n):=⟨ok.os,ok.out,ok.tape,ok.ro,ok.own,ok.nd,ok.base⟩
theorem Ok.putRow{α:Type}[Inhabited α]{enc:α→Value}{d:Array α}{u w:World}{m:Mem}{S:Segs}{b o:Nat}{c:List Value}{T:TypeId}(ok:Ok u m ([(b,Obj.cells c.toArray T (0,0))]::S) w) :
  Ok u m ([(b,Obj.cells (putCells enc o d c.toArray).toList.toArray T (0,0))]::S) (putRow enc w b o d):=by
 have hb:w.heap[b]? = some (.cells c.toArray T (0,0)):=(ok.own (b,_) (by simp)).1
 refine ok.setObj rfl rfl rfl ?_ λk hk=>?_
 ·simp[Sort.putRow,mapBlock,Array.getElem?_modify,hb,onCells]
 ·simp[Sort.putRow,mapBlock,Array.getElem?_modify,Ne.symm hk]
theorem qo1{α:Type}[Inhabited α]{enc:α→Value}{o:Nat}{ys:List α}{c:List Value}{i:Nat}{x:α}(hi:ys[i]? = some x)(hc:o+ys.length≤c.length):(putCells enc o ys.toArray c.toArray).toList[o+i]? = some (enc x):=by
 have hlt:=(List.getElem?_eq_some_iff.1 hi).1
 have hx:ys.toArray[i]! = x:=by simp[hi]
 simp only[putCells,Array.toList_mapIdx]
 rw[List.getElem?_mapIdx,show(c.toArray.toList)[o+i]? = some (c[o+i]'(by omega)) from List.getElem?_eq_getElem (by simp;omega)]
 simp only[Option.map_some]
 rw[if_pos ⟨by omega,by simp;omega⟩,show o+i-o=i by omega,hx]
theorem qpo{α:Type}[Inhabited α]{enc:α→Value}{o:Nat}{d:Array α}{c:List Value}:(putCells enc o d c.toArray).toList.length=c.length:=by simp[putCells]
theorem ORow.put{α:Type}[Inhabited α]{enc:α→Value}{R:Rp α}{e b o cap:Nat}{m:Mem}{c:List Value}{ys zs:List α}(h3:ys.length≤cap)(h4:cap≤maxLen)(h5:o+cap*1≤c.length)(h6:ys.length≤LIMS)(hz:o+(ys++zs).length≤c.length)
  (hR:∀ y∈ys,R m [enc y] y):ORow e 1 R m (.slice (some ⟨b,o,none⟩) ys.length cap) ys [(b,Obj.cells (putCells enc o (ys++zs).toArray c.toArray).toList.toArray e (0,0))]:=by
 refine .inr ⟨b,o,cap,_,rfl,rfl,h3,h4,by rw[qpo];exact h5,h6,λi x hi=>?_⟩
 have hil:=(List.getElem?_eq_some_iff.1 hi).1
 have hi2:(ys++zs)[i]? = some x:=by rw[List.getElem?_append_left hil];exact hi
 have h:=qo1 (enc:=enc) (o:=o) (c:=c) hi2 hz
 have e1:(List.drop (o+i*1) (putCells enc o (ys++zs).toArray c.toArray).toList).take 1=[enc x]:=by
  rw[Nat.mul_one,List.take_one,List.head?_drop,h];rfl
 rw[e1]
 exact hR x (List.mem_of_getElem? hi)
def qlL(xs:List (List UInt8)):Option (List (List UInt8)):=if xs.length<4611686018427387904 then some (xs.mergeSort λx y=>decide (x≤y)) else none
def qkY(xs:List (List UInt8)):List (List UInt8):=xs.mergeSort λx y=>decide (x≤y)
def qlw(xs:List (Int)):Option (List (Int)):=if xs.length<4611686018427387904 then some (xs.mergeSort λx y=>decide (x≤y)) else none
def qkH(xs:List Int):List Int:=xs.mergeSort λx y=>decide (x≤y)
section
variable {P:Program} {ρ:Ren} {u w:World} {m:Mem} {S:Segs} {e:Nat} {v:Value} {Mx:List (Nat×Obj)}
theorem qtz{xs:List (List UInt8)}{c:List Value}{o:Nat}(h7:∀ i x,xs[i]? = some x→pS m ((c.drop (o+i*1)).take 1) x):∀ i x,xs[i]? = some x→c[o+i]? = some (encStr x)∧x.length≤LIMS:=by
 intro i x hi
 obtain⟨e1,e2⟩:=h7 i x hi
 have:=congrArg (λl:List Value=>l[0]?) e1
 exact⟨by simpa [List.getElem?_take,List.getElem?_drop,encStr,bs] using this,e2⟩
theorem qts{xs:List Int}{c:List Value}{o:Nat}(h7:∀ i x,xs[i]? = some x→(pI .i64) m ((c.drop (o+i*1)).take 1) x):∀ i x,xs[i]? = some x→c[o+i]? = some (.int .i64 x)∧InR .i64 x:=by
 intro i x hi
 obtain⟨e1,e2⟩:=h7 i x hi
 have:=congrArg (λl:List Value=>l[0]?) e1
 exact⟨by simpa [List.getElem?_take,List.getElem?_drop] using this,e2⟩
theorem qjG{α:Type}[Inhabited α]{enc:α→Value}{xs:List α}{c:List Value}{b o T:Nat}(ok:Ok u m ([(b,Obj.cells c.toArray T (0,0))]::S) w)(h:∀ i x,xs[i]? = some x→c[o+i]? = some (enc x)):Sort.Holds enc w b o xs.toArray:=by
 intro j hj
 have hj':j<xs.length:=by simpa using hj
 have hx:xs[j]? = some xs[j]:=List.getElem?_eq_getElem hj'
 refine⟨?_,by simp[World.frozen?,ok.ownCell]⟩
 have e2:xs.toArray[j]! = xs[j]:=by simp[hx]
 rw[e2]
 simp[World.cell?,ok.ownCell,h j _ hx]
theorem qtH{b:Nat}{o:Obj}(ok:Ok u m ([(b,o)]::S) w):b<w.heap.size:=(Array.getElem?_eq_some_iff.1 (ok.own (b,o) (by simp)).1).1
theorem qsh(Lc:Lays.n190 P ρ)(k:Nat){xs:List (List UInt8)}(hk:S[k]? = some Mx){ys:List (List UInt8)}(hy:qlL xs=some ys)(h:ORow e 1 pS m v xs Mx)(ok:Ok u m S w) :
  Calls P (ρ.f 190) [v].toArray w λr w'=>r=.returned (.tuple #[])∧∃ M,ORow e 1 pS m v ys M∧Ok u m (M::S.eraseIdx k) w':=by
 have ok1:=ok.frs k hk
 unfold qlL at hy
 split at hy
 rotate_left
 ·cases hy
 rename_i hlt
 obtain rfl:=Option.some.inj hy
 rcases h with⟨rfl,rfl,rfl⟩ | ⟨b,o,cap,c,rfl,rfl,h3,h4,h5,h6,h7⟩
 ·refine(Any.slices_Sort_string_none Lc none 0 w).mono ?_
  rintro r w' ⟨rfl,rfl⟩
  exact⟨rfl,[],.inl ⟨rfl,by simp,rfl⟩,ok1⟩
 ·have hc:=qtz h7
  refine(Any.slices_Sort_string Lc b o cap xs w (qjG ok1 λi x hi=>(hc i x hi).1) (qtH ok1) hlt).mono ?_
  rintro r w' ⟨rfl,n,os,rfl⟩
  have hl:(xs.mergeSort λx y=>decide (x≤y)).length=xs.length:=List.length_mergeSort xs
  refine⟨rfl,_,?_,((ok1.aheadN n).putRow (d:=((xs.mergeSort λx y=>decide (x≤y))++[]).toArray)).growN os |> λh=>by simpa using h⟩
  have:=ORow.put (enc:=encStr) (R:=pS) (e:=e) (b:=b) (o:=o) (cap:=cap) (m:=m) (c:=c) (ys:=(xs.mergeSort λx y=>decide (x≤y))) (zs:=[]) (by omega) h4 h5 (by omega) (by simp;omega) (λy hy=>by
   obtain⟨i,hi⟩:=List.mem_iff_getElem?.1 ((List.mergeSort_perm xs _).mem_iff.1 hy)
   exact⟨rfl,(hc i y hi).2⟩)
  rw[hl] at this
  simpa using this
theorem qrr(Lc:Lays.n189 P ρ)(k:Nat){xs:List Int}(hk:S[k]? = some Mx){ys:List (Int)}(hy:qlw xs=some ys)(h:ORow e 1 (pI .i64) m v xs Mx)(ok:Ok u m S w) :
  Calls P (ρ.f 189) [v].toArray w λr w'=>r=.returned (.tuple #[])∧∃ M,ORow e 1 (pI .i64) m v ys M∧Ok u m (M::S.eraseIdx k) w':=by
 have ok1:=ok.frs k hk
 unfold qlw at hy
 split at hy
 rotate_left
 ·cases hy
 rename_i hlt
 obtain rfl:=Option.some.inj hy
 rcases h with⟨rfl,rfl,rfl⟩ | ⟨b,o,cap,c,rfl,rfl,h3,h4,h5,h6,h7⟩
 ·refine(Any.slices_Sort_int_none Lc none 0 w).mono ?_
  rintro r w' ⟨rfl,rfl⟩
  exact⟨rfl,[],.inl ⟨rfl,by simp,rfl⟩,ok1⟩
 ·have hc:=qts h7
  refine(Any.slices_Sort_int Lc b o cap xs w (qjG ok1 λi x hi=>(hc i x hi).1) (qtH ok1) hlt).mono ?_
  rintro r w' ⟨rfl,n,os,rfl⟩
  have hl:(xs.mergeSort λx y=>decide (x≤y)).length=xs.length:=List.length_mergeSort xs
  refine⟨rfl,_,?_,((ok1.aheadN n).putRow (d:=((xs.mergeSort λx y=>decide (x≤y))++[]).toArray)).growN os |> λh=>by simpa using h⟩
  have:=ORow.put (enc:=Value.int .i64) (R:=pI .i64) (e:=e) (b:=b) (o:=o) (cap:=cap) (m:=m) (c:=c) (ys:=(xs.mergeSort λx y=>decide (x≤y))) (zs:=[]) (by omega) h4 h5 (by omega) (by simp;omega) (λy hy=>by
   obtain⟨i,hi⟩:=List.mem_iff_getElem?.1 ((List.mergeSort_perm xs _).mem_iff.1 hy)
   exact⟨rfl,(hc i y hi).2⟩)
  rw[hl] at this
  simpa using this
theorem qjJ{α:Type}[Inhabited α][DecidableEq α](xs:List α):(Lib.compact xs).length≤xs.length:=by
 simp only[Lib.compact,Lib.compactUpTo,List.length_map]
 exact Nat.le_trans (List.length_filter_le _ _) (by simp)
theorem qjN{α:Type}[Inhabited α][DecidableEq α]{xs:List α}{y:α}(h:y∈Lib.compact xs):y∈xs:=by
 simp only[Lib.compact,Lib.compactUpTo,List.mem_map,List.mem_filter,List.mem_range] at h
 obtain⟨i,⟨hi,_⟩,rfl⟩:=h
 simp[hi]
theorem qpp(Lc:Lays.n194 P ρ)(k:Nat){xs:List (List UInt8)}(hk:S[k]? = some Mx)(h:ORow e 1 pS m v xs Mx)(ok:Ok u m S w) :
  Calls P (ρ.f 194) [v].toArray w λr w'=>∃ v' M,r=.returned v'∧ORow e 1 pS m v' (Lib.compact xs) M∧Ok u m (M::S.eraseIdx k) w':=by
 have ok1:=ok.frs k hk
 rcases h with⟨rfl,rfl,rfl⟩ | ⟨b,o,cap,c,rfl,rfl,h3,h4,h5,h6,h7⟩
 ·refine(Any.slices_Compact_string_empty Lc none 0 w).mono ?_
  rintro r w' ⟨rfl,rfl⟩
  exact⟨_,[],rfl,.inl ⟨rfl,rfl,rfl⟩,ok1⟩
 ·have hc:=qtz h7
  have hl:=qjJ xs
  refine(Any.slices_Compact_string Lc b o cap xs w (qjG ok1 λi x hi=>(hc i x hi).1) (by unfold LIMS at h6;omega) h3).mono ?_
  rintro r w' ⟨rfl,q,rfl⟩
  exact⟨_,_,rfl,ORow.put (enc:=encStr) (R:=pS) (by omega) h4 h5 (by omega) (by simp;omega) (λy hy=>by
   obtain⟨i,hi⟩:=List.mem_iff_getElem?.1 (qjN hy)
   exact⟨rfl,(hc i y hi).2⟩),(ok1.aheadN q).putRow⟩
theorem qpH(Lc:Lays2.n20 P ρ)(k:Nat){xs:List Int}(hk:S[k]? = some Mx)(h:ORow e 1 (pI .i64) m v xs Mx)(ok:Ok u m S w) :
  Calls P (ρ.f 20) [v].toArray w λr w'=>∃ v' M,r=.returned v'∧ORow e 1 (pI .i64) m v' (Lib.compact xs) M∧Ok u m (M::S.eraseIdx k) w':=by
 have ok1:=ok.frs k hk
 rcases h with⟨rfl,rfl,rfl⟩ | ⟨b,o,cap,c,rfl,rfl,h3,h4,h5,h6,h7⟩
 ·refine(Any.slices_Compact_int_empty Lc none 0 w).mono ?_
  rintro r w' ⟨rfl,rfl⟩
  exact⟨_,[],rfl,.inl ⟨rfl,rfl,rfl⟩,ok1⟩
 ·have hc:=qts h7
  have hl:=qjJ xs
  refine(Any.slices_Compact_int Lc b o cap xs w (qjG ok1 λi x hi=>(hc i x hi).1) (by unfold LIMS at h6;omega) h3).mono ?_
  rintro r w' ⟨rfl,q,rfl⟩
  exact⟨_,_,rfl,ORow.put (enc:=Value.int .i64) (R:=pI .i64) (by omega) h4 h5 (by omega) (by simp;omega) (λy hy=>by
   obtain⟨i,hi⟩:=List.mem_iff_getElem?.1 (qjN hy)
   exact⟨rfl,(hc i y hi).2⟩),(ok1.aheadN q).putRow⟩
theorem Ok.ownNew{w':World}{g:Nat}{o:Obj}(ok:Ok u m S w)(h:Below w.heap.size w w')(hg:w'.heap[g]? = some o)(hge:w.heap.size≤g):Ok u m ([(g,o)]::S) w':=by
 have ok':=ok.below' h
 have hlt:∀ p∈S.flatten,p.1<w.heap.size:=λp hp=>(Array.getElem?_eq_some_iff.1 (ok.own p hp).1).1
 refine⟨ok'.os,ok'.out,ok'.tape,ok'.ro,λp hp=>?_,?_,ok'.base⟩
 ·simp only[List.flatten_cons,List.cons_append,List.nil_append,List.mem_cons] at hp
  rcases hp with rfl | hp
  ·refine⟨hg,?_⟩
   cases hm:m g with
   | none=>rfl
   | some x=>
    have:=(Array.getElem?_eq_some_iff.1 (ok.ro g x hm)).1
    omega
  ·exact ok'.own p hp
 ·simp only[List.flatten_cons,List.cons_append,List.nil_append]
  refine List.pairwise_cons.2 ⟨λq hq=>?_,ok'.nd⟩
  have:=hlt q hq
  simp only;omega
theorem ORow.ofOwns{w':World}{xs:List (List UInt8)}(ok:Ok u m S w)(hl:∀ x∈xs,x.length≤LIMS)(hx:xs.length≤LIMS)(h:w'.ownsRow w.heap.size e 1 v xs.length (xs.map encStr))(hb:Below w.heap.size w w') :
  ∃ M,ORow e 1 pS m v xs M∧Ok u m (M::S) w':=by
 obtain⟨_,⟨rfl,h0⟩ | ⟨g,cap,cur,rfl,h1,h2,h3,h4,h5,h6⟩⟩:=h
 ·obtain rfl:=List.eq_nil_of_length_eq_zero h0
  exact⟨[],.inl ⟨rfl,rfl,rfl⟩,(ok.below' hb).addnil⟩
 ·refine⟨[(g,Obj.cells cur.toList.toArray e (0,0))],.inr ⟨g,0,cap,cur.toList,rfl,rfl,h3,h4,by simp;omega,hx,λi x hi=>?_⟩,ok.ownNew hb (by simpa using h2) h1⟩
  have hil:=(List.getElem?_eq_some_iff.1 hi).1
  have e1:(cur.toList)[i]? = some (encStr x):=by
   have h7:=congrArg (λl:List Value=>l[i]?) h6
   simp only[Nat.mul_one,List.getElem?_take_of_lt hil,List.getElem?_map,hi] at h7
   exact h7
  have e2:(List.drop (0+i*1) cur.toList).take 1=[encStr x]:=by
   rw[Nat.mul_one,Nat.zero_add,List.take_one,List.head?_drop,e1];rfl
  rw[e2]
  exact⟨rfl,hl x (List.mem_of_getElem? hi)⟩
def qlF(xs:List (List UInt8)):Option (List (List UInt8)):=if xs.length*16≤140737488355328 then some xs else none
theorem qqZ(Lc:Lays2.n16 P ρ){xs ys:List (List UInt8)}(hy:qlF xs=some ys)(h:pL 1 pS m [v] xs)(ok:Ok u m S w) :
  Calls P (ρ.f 16) [v].toArray w λr w'=>∃ v' M,r=.returned v'∧ORow (ρ.t 9) 1 pS m v' ys M∧Ok u m (M::S) w':=by
 unfold qlF at hy
 split at hy
 rotate_left
 ·cases hy
 rename_i hbig
 obtain rfl:=Option.some.inj hy
 obtain⟨a,cap,hv,h2,h3,h4,h5⟩:=h
 obtain rfl:v=_:=List.singleton_inj.1 hv
 by_cases h0:xs.length=0
 ·obtain rfl:=List.eq_nil_of_length_eq_zero h0
  cases a with
  | none=>
   refine(Any.slices_Clone_string_nil Lc 0 cap w).mono ?_
   rintro r w' ⟨rfl,rfl⟩
   exact⟨_,[],rfl,.inl ⟨rfl,rfl,rfl⟩,ok.addnil⟩
  | some a=>
   refine(Any.slices_Clone_string_zero Lc a cap w).mono ?_
   rintro r w' ⟨v',rfl,ho,_,hb⟩
   obtain⟨M,h,ok'⟩:=ORow.ofOwns (xs:=[]) ok (by simp) (by simp) ho hb
   exact⟨v',M,rfl,h,ok'⟩
 ·obtain⟨b,o,rfl,h6⟩:=h5 h0
  have hc:∀ j,j<(xs.map bs).length→w.cell? ⟨b,o+j,none⟩=some (.string ((xs.map bs).getD j ByteArray.empty)):=by
   intro j hj
   have hj':j<xs.length:=by simpa using hj
   have hx:xs[j]? = some xs[j]:=List.getElem?_eq_getElem hj'
   obtain⟨es,hl,hat,hr⟩:=h6 j _ hx
   obtain⟨rfl,_⟩:=hr
   have:=ok.cell (hat 0 _ rfl)
   simp only[Nat.mul_one,Nat.add_zero] at this
   rw[this]
   simp[List.getD_eq_getElem?_getD,hx]
  refine(Any.slices_Clone_string Lc b o xs.length cap (xs.map bs) w (by simp) hbig hc).mono ?_
  rintro r w' ⟨v',rfl,ho,_,hb⟩
  have e1:((xs.map bs).take xs.length).map Value.string=xs.map encStr:=by
   rw[List.take_of_length_le (by simp),List.map_map];rfl
  rw[e1] at ho
  obtain⟨M,h,ok'⟩:=ORow.ofOwns ok (λx hx=>by
   obtain⟨i,hi⟩:=List.mem_iff_getElem?.1 hx
   obtain⟨es,_,_,hr⟩:=h6 i x hi
   exact hr.2) h4 ho hb
  exact⟨v',M,rfl,h,ok'⟩
end
end Go.X
namespace Go.X
open Go Go.Proofs Go.RowKit Go.Shelf
section
variable {F:Fence} {n:Nat} {P:Program}
def Firm{β:Type}(B:Nat)(J:β→World→Prop):Prop:=∀ s X Y,J s X→Below B X Y→J s Y
def qo4{α:Type}(F:Fence)(n:Nat)(P:Program)(g:Nat)(lb:Array Value)(encs:α→Array Value)(Kp:World→World→Prop)(S Sp:List α→Prop)(N:Nat)(w:World):Prop:=
 ∀ (l:Nat) (J Jx:List α→World→Prop) (W:World),Below w.heap.size w W→w.heap.size+2≤W.heap.size→Firm W.heap.size J→Firm W.heap.size Jx →
  (∀ pre x W1,J pre W1→pre.length<N→YieldAt F (n-1) P l (encs x) W1 λe W'=>
   (e=.returned (.bool true)∧J (pre++[x]) W'∧Kp W1 W')∨(e=.returned (.bool false)∧Jx (pre++[x]) W')) →
  J [] W→CallsIn F n P g (#[.func (.yield l) #[] #[]]++lb) W λe W'=>(∃ v,e=.returned v)∧((∃ xs,S xs∧J xs W')∨(∃ pre,Sp pre∧Jx pre W'))
theorem qlC{W:World}{B l:Nat}(o:Obj)(h:B≤l):Below B W (W.putObj l o):=⟨rfl,rfl,rfl,by rw[World.putObj_size];exact Nat.le_refl _,λk hk=>World.putObj_heap_other (by omega)⟩
theorem Firm.same{β:Type}{B:Nat}{I:β→World→Prop}(h:Firm B I){s:β}{W:World}{l:Nat}(o:Obj)(hs:I s W)(hB:B≤l):I s (W.putObj l o):=h s W _ hs (qlC o hB)
def qrf{α:Type}(B:Nat)(Kp:World→World→Prop)(I:List α→World→Prop)(Ix:List α→World→Prop)(xs:List α)(W:World):Exit→Act→World→Prop:=λe _ W'=>
 KeepsFrom B W W'∧((e=.normal∧Kp W W'∧I xs W')∨(e=.ret∧Ix xs W'))
set_option maxHeartbeats 1000000 in
theorem qpX{α:Type}{g:Operand}{ps:Array Tmp}{assign body:Code}{Q:Exit→Act→World→Prop}{a:Act}{w:World}
  (hro:F.round=none) (h1:1≤n) {gf:Nat} {lb:Array Value} (hg:a.eval g=.func (.func gf) #[] lb) (hFg:F.fn gf) (eg:∀ args w,(callFunc gf args).run P w=.ok (.enter gf args) w)
  {encs:α→Array Value} {Kp:World→World→Prop} {S Sp:List α→Prop} {N:Nat} (hseq:qo4 F (n-1) P gf lb encs Kp S Sp N w)
  (hKt:∀ {A B C:World},Kp A B→Kp B C→Kp A C) (hKb:∀ (W:World) (o:Obj) (l:Nat),w.heap.size≤l→l≤w.heap.size+1→Kp W (W.putObj l o)) (hps:∀ x,(encs x).size=ps.size)
  (I Ix:List α→World→Prop) (hI:Firm w.heap.size I) (hIx:Firm w.heap.size Ix) (h0:I [] w) (Ax:α→Act→World→Prop) (hAx:∀ x a' W o,Ax x a' W→Ax x a' (W.putObj (w.heap.size+1) o))
  (hassign:∀ (l:Nat) (pre:List α) (x:α) (W:World) (K:Act→World→Prop),w.heap.size+1<W.heap.size→I pre W→(∀ a' W',KeepsFrom w.heap.size W W'→Kp W W'→I pre W'→Ax x a' W'→K a' W') →
   assign.wpIn (F.inRound l) (n-1-1) P (Exit.then K (λ_ _ _=>False)) { tmps:=(ps.zip (encs x)).foldl (λt (p,v)=>t.setIfInBounds p v) a.tmps,defers:=[] } W)
  (hbody:∀ (l:Nat) (pre:List α) (x:α) (a':Act) (W:World),w.heap.size+1<W.heap.size→I pre W→Ax x a' W→pre.length<N→body.wpIn (F.inRound l) (n-1-1) P (qrf w.heap.size Kp I Ix (pre++[x]) W) a' W)
  (hdone:∀ (D:Nat) (xs:List α) (W:World),w.heap.size≤D→S xs→I xs W→W.heap[D]? = some (.deferred (some []))→Q .normal { a with defers:={ target:=.collected D,args:=#[] }::a.defers } W)
  (hstop:∀ (D:Nat) (pre:List α) (W:World),w.heap.size≤D→Sp pre→Ix pre W→W.heap[D]? = some (.deferred (some []))→Code.ret.wpIn F n P Q { a with defers:={ target:=.collected D,args:=#[] }::a.defers } W) :
  (Code.rangeFunc g ps assign body).wpIn F n P Q a w:=by
 refine wpIn_rangeFunc ?_
 intro fn hfn
 rw[hro]
 obtain⟨D,hD⟩:∃ D,D=w.heap.size:=⟨_,rfl⟩
 obtain⟨rec,hrec⟩:∃ rec:LoopState→Option Code→Loop,rec=λst pe=>{ state:=st,pending:=pe,fn,tmps:=a.tmps,params:=ps,assign,body,defers:=D }:=⟨_,rfl⟩
 obtain⟨W1,hW1⟩:∃ W1,(w.alloc (.deferred (some []))).alloc (.loop (rec .ready none))=W1:=⟨_,rfl⟩
 have hsz:W1.heap.size=D+2:=by rw[← hW1,hD];simp
 have hb1:Below w.heap.size w W1:=by rw[← hW1];exact((Below.refl _ w).alloc (Nat.le_refl _) _).alloc (by simp) _
 have hL1:W1.heap[D+1]? = some (.loop (rec .ready none)):=by
  rw[← hW1,hD];have:=World.alloc_heap_new (w.alloc (.deferred (some []))) (.loop (rec .ready none));rwa [World.size_alloc] at this
 have hK1:W1.heap[D]? = some (.deferred (some [])):=by rw[← hW1,hD];exact(Below.heap_alloc _ _ _ (by simp)).trans (World.alloc_heap_new w _)
 have hI1:I [] W1:=hI [] w W1 h0 hb1
 refine⟨D+1,[{ target:=.collected D,args:=#[] }],W1,{ target:=.fn (.func gf) lb,args:=#[.func (.yield (D+1)) #[] #[]] },W1,gf,#[.func (.yield (D+1)) #[] #[]]++lb,W1,?_,?_,?_,?_,λ_=>h1,?_⟩
 ·rw[← hW1,hrec,hD];exact run_enterLoop_outer _ _ _ _ _
 ·simp only[resolve,hg];simp[go_sem]
 ·intro f' hf';simp[Target.leads] at hf';subst hf';exact hFg
 ·simp[invoke,go_sem,eg]
 ·have old:∀ {X Y:World} {k:Nat} {o:Obj},Below W1.heap.size X Y→k<D+2→X.heap[k]? = some o→Y.heap[k]? = some o:=λh hk ho=>by rw[h.block _ (by omega)];exact ho
  refine(hseq (D+1)
   (λpre W=>I pre W∧W.heap[D+1]? = some (.loop (rec .ready none))∧W.heap[D]? = some (.deferred (some [])))
   (λpre W=>Ix pre W∧W.heap[D+1]? = some (.loop (rec .done (some .ret)))∧W.heap[D]? = some (.deferred (some [])))
   W1 hb1 (by omega) (λs X Y hs h=>⟨hI s X Y hs.1 (h.mono (by omega)),old h (by omega) hs.2.1,old h (by omega) hs.2.2⟩)
   (λs X Y hs h=>⟨hIx s X Y hs.1 (h.mono (by omega)),old h (by omega) hs.2.1,old h (by omega) hs.2.2⟩) ?_ ⟨hI1,hL1,hK1⟩).mono ?_
  ·rintro pre x W ⟨hi,hl,hk⟩ hlen
   have hlt:D+1<W.heap.size:=(Array.getElem?_eq_some_iff.1 hl).1
   have hy:=run_yield (P:=P) (args:=encs x) hl (by rw[hrec];exact hps x)
   rw[hrec] at hy
   refine⟨fn,_,assign,body,hy,roundIn_of_wpIn hfn (hassign _ pre x W _ (by omega) hi ?_)⟩
   clear hy
   intro a' Wa hkfa hkpa hia hax
   have hl':=hkfa.same _ _ (by omega) hl rfl
   have hk':=hkfa.same _ _ (by omega) hk rfl
   have hlt':D+1<Wa.heap.size:=(Array.getElem?_eq_some_iff.1 hl').1
   refine⟨_,run_beginRound hl' (by rw[hrec]),?_⟩
   have hl2:(Wa.putObj (D+1) (.loop { rec .ready none with state:=.busy })).heap[D+1]? = some (.loop { rec .ready none with state:=.busy }):=World.putObj_heap_same hlt'
   have hk2:(Wa.putObj (D+1) (.loop { rec .ready none with state:=.busy })).heap[D]? = some (.deferred (some [])):=(World.putObj_heap_other (show D≠D+1 by omega)).trans hk'
   have hw2:Kp Wa (Wa.putObj (D+1) (.loop { rec .ready none with state:=.busy })):=hKb _ _ _ (by omega) (by omega)
   have hsz2:w.heap.size+1<(Wa.putObj (D+1) (.loop { rec .ready none with state:=.busy })).heap.size:=by rw[World.putObj_size];omega
   refine wpIn_mono (hbody _ pre x a' _ hsz2 (hI.same _ hia (by omega)) (by have:=hAx x a' Wa (.loop { rec .ready none with state:=.busy }) hax;rw[← hD] at this;exact this) hlen) ?_
   rintro e a3 W3 ⟨hk3,hp⟩
   have hl3:=hk3.same _ _ (by omega) hl2 rfl
   have hk4:=hk3.same _ _ (by omega) hk2 rfl
   have hlt3:=(Array.getElem?_eq_some_iff.1 hl3).1
   rcases hp with⟨rfl,hkp3,hi3⟩ | ⟨rfl,hi3⟩
   ·have hr:=run_endRound (P:=P) none hl3
    rw[hrec] at hr
    exact⟨_,_,hr,.inl ⟨rfl,⟨hI.same _ hi3 (by omega),by rw[World.putObj_heap_same hlt3,hrec];rfl,(World.putObj_heap_other (show D≠D+1 by omega)).trans hk4⟩,hKt hkpa (hKt (hKt hw2 hkp3) (hKb _ _ _ (by omega) (by omega)))⟩⟩
   ·have hr:=run_endRound (P:=P) (some .ret) hl3
    rw[hrec] at hr
    exact⟨_,_,hr,.inr ⟨rfl,hIx.same _ hi3 (by omega),by rw[World.putObj_heap_same hlt3,hrec];rfl,(World.putObj_heap_other (show D≠D+1 by omega)).trans hk4⟩⟩
  ·rintro e W2 ⟨⟨v,rfl⟩,(⟨xs,hS,hi,hl,hk⟩ | ⟨pre,hSp,hi,hl,hk⟩)⟩
   ·have hr:=run_endLoop (P:=P) hl (by rw[hrec];simp)
    rw[hrec] at hr
    exact⟨none,_,hr,hdone _ xs _ (by omega) hS (hI.same _ hi (by omega)) ((World.putObj_heap_other (show D≠D+1 by omega)).trans hk)⟩
   ·have hr:=run_endLoop (P:=P) hl (by rw[hrec];simp)
    rw[hrec] at hr
    exact⟨some .ret,_,hr,hstop _ pre _ (by omega) hSp (hIx.same _ hi (by omega)) ((World.putObj_heap_other (show D≠D+1 by omega)).trans hk)⟩
end
def qdD(X:List Nat)(w:World):Mem:=λk=>if k∈X then none else w.heap[k]?
structure Keep (X:List Nat) (w w2:World):Prop where
 os:w2.os=w.os
 out:w2.output=w.output
 tape:w2.tape=w.tape
 size:w.heap.size≤w2.heap.size
 block:∀ k,k<w.heap.size→k ∉ X→w2.heap[k]? = w.heap[k]?
section
variable {X:List Nat} {w w2:World} {S S2:Segs}
theorem ql8(h:∀ p∈S.flatten,w.heap[p.1]? = some p.2∧p.1∈X)(hd:S.flatten.Pairwise λp q=>p.1≠q.1):Ok { w with heap:=#[] } (qdD X w) S w:=by
 refine⟨rfl,rfl,rfl,λb o hb=>?_,λp hp=>⟨(h p hp).1,?_⟩,hd,λb o hb=>by simp at hb⟩
 ·unfold qdD at hb
  split at hb
  ·cases hb
  ·exact hb
 ·unfold qdD;rw[if_pos (h p hp).2]
theorem qlS(ok:Ok { w with heap:=#[] } (qdD X w) S2 w2)(hX:∀ k∈X,∃ p∈S2.flatten,p.1=k):Keep X w w2:=by
 have key:∀ k,k<w.heap.size→k ∉ X→w2.heap[k]? = w.heap[k]?:=by
  intro k hk hx
  have h1:w.heap[k]? = some w.heap[k]:=Array.getElem?_eq_getElem hk
  rw[h1]
  refine ok.ro k _ ?_
  unfold qdD
  rw[if_neg hx];exact h1
 refine⟨ok.os,ok.out,ok.tape,?_,key⟩
 rcases Nat.eq_zero_or_pos w.heap.size with h0 | h0
 ·omega
 ·have hlt:∃ o,w2.heap[w.heap.size-1]? = some o:=by
   by_cases hx:w.heap.size-1∈X
   ·obtain⟨p,hp,he⟩:=hX _ hx
    exact⟨p.2,by rw[← he];exact(ok.own p hp).1⟩
   ·rw[key _ (by omega) hx]
    exact⟨_,Array.getElem?_eq_getElem (by omega)⟩
  obtain⟨o,ho⟩:=hlt
  have:=(Array.getElem?_eq_some_iff.1 ho).1
  omega
theorem Keep.below(h:Keep X w w2){B:Nat}(hX:∀ k∈X,B≤k)(hB:B≤w.heap.size):Below B w w2:=⟨h.os,h.tape,h.out,h.size,λk hk=>h.block k (by omega) (λhm=>by have:=hX k hm;omega)⟩
theorem Keep.from(h:Keep X w w2){B:Nat}(hX:∀ k∈X,k<B):KeepsFrom B w w2:=⟨h.size,λk o hB hk _=>by
 rw[h.block k (Array.getElem?_eq_some_iff.1 hk).1 (λhm=>by have:=hX k hm;omega)];exact hk⟩
theorem Keep.at(h:Keep X w w2){k:Nat}{o:Obj}(hk:w.heap[k]? = some o)(hx:k ∉ X):w2.heap[k]? = some o:=by rw[h.block k (Array.getElem?_eq_some_iff.1 hk).1 hx];exact hk
theorem Ok.turn2{u:World}{m:Mem}{a b:Nat}{oa ob oa' ob':Obj}{T:Segs}(ok:Ok u m ([(a,oa)]::[(b,ob)]::T) w)(h:Keep [b,a] w w2)(ha:w2.heap[a]? = some oa')(hb:w2.heap[b]? = some ob'):Ok u m ([(a,oa')]::[(b,ob')]::T) w2:=by
 have hnd:=ok.nd
 simp only[List.flatten_cons,List.cons_append,List.nil_append,List.pairwise_cons] at hnd
 have hma:m a=none:=(ok.own (a,oa) (by simp)).2
 have hmb:m b=none:=(ok.own (b,ob) (by simp)).2
 refine⟨h.os.trans ok.os,h.out.trans ok.out,h.tape.trans ok.tape,λk o hk=>?_,λp hp=>?_,?_,ok.base⟩
 ·refine h.at (ok.ro k o hk) λhm=>?_
  simp only[List.mem_cons,List.not_mem_nil,or_false] at hm
  rcases hm with rfl | rfl
  ·rw[hmb] at hk;cases hk
  ·rw[hma] at hk;cases hk
 ·simp only[List.flatten_cons,List.cons_append,List.nil_append,List.mem_cons] at hp
  rcases hp with rfl | rfl | hp
  ·exact⟨ha,hma⟩
  ·exact⟨hb,hmb⟩
  ·obtain⟨h1,h2⟩:=ok.own p (by simp only[List.flatten_cons,List.cons_append,List.nil_append,List.mem_cons];exact .inr (.inr hp))
   refine⟨h.at h1 λhm=>?_,h2⟩
   simp only[List.mem_cons,List.not_mem_nil,or_false] at hm
   rcases hm with he | he
   ·exact hnd.2.1 p hp he.symm
   ·exact hnd.1 p (List.mem_cons_of_mem _ hp) he.symm
 ·simp only[List.flatten_cons,List.cons_append,List.nil_append,List.pairwise_cons]
  exact⟨λq hq=>by
   rcases List.mem_cons.1 hq with rfl | hq
   ·exact hnd.1 (b,ob) (List.mem_cons_self ..)
   ·exact hnd.1 q (List.mem_cons_of_mem _ hq),λq hq=>hnd.2.1 q hq,hnd.2.2⟩
theorem Ok.below2{u:World}{m:Mem}{B:Nat}(ok:Ok u m S w)(h:Below B w w2)(hm:∀ b o,m b=some o→b<B)(hS:∀ p∈S.flatten,p.1<B):Ok u m S w2:=
 ⟨h.os.trans ok.os,h.output.trans ok.out,h.tape.trans ok.tape,λb o hb=>by rw[h.block b (hm b o hb)];exact ok.ro b o hb,λp hp=>⟨by rw[h.block _ (hS p hp)];exact(ok.own p hp).1,(ok.own p hp).2⟩,ok.nd,ok.base⟩
end
theorem qsi{n:Nat}{a:Act}{L:List (Nat×Value)}{t:Array Value}(E:Env n a L)(h:t=a.tmps):Env n { tmps:=t,defers:=[] } L:=by
 subst h
 exact⟨rfl,E.sz,E.get⟩
section
variable {u w w2:World} {m:Mem} {a b:Nat} {oa ob:Obj} {T:Segs} {X:List Nat}
theorem Ok.own0(ok:Ok u m ([(a,oa)]::T) w):w.heap[a]? = some oa∧m a=none:=ok.own (a,oa) (by simp)
theorem Ok.own1(ok:Ok u m ([(a,oa)]::[(b,ob)]::T) w):w.heap[b]? = some ob∧m b=none:=ok.own (b,ob) (by simp)
theorem Ok.ne01(ok:Ok u m ([(a,oa)]::[(b,ob)]::T) w):a≠b:=by
 have h:=ok.nd
 simp only[List.flatten_cons,List.cons_append,List.nil_append,List.pairwise_cons] at h
 exact h.1 _ (List.mem_cons_self ..)
theorem qk0(ha:w.heap[a]? = some oa)(hb:w.heap[b]? = some ob)(hne:a≠b)(h1:a∈X)(h2:b∈X):Ok { w with heap:=#[] } (qdD X w) ([(a,oa)]::[(b,ob)]::[]) w:=by
 refine ql8 (λp hp=>?_) (by simpa using hne)
 simp only[List.flatten_cons,List.cons_append,List.nil_append,List.flatten_nil,List.mem_cons,List.not_mem_nil,or_false] at hp
 rcases hp with rfl | rfl
 ·exact⟨ha,h1⟩
 ·exact⟨hb,h2⟩
theorem qiH(ok:Ok { w with heap:=#[] } (qdD X w) ([(a,oa)]::[(b,ob)]::T) w2)(hX:∀ k∈X,k=a∨k=b):Keep X w w2:=
 qlS ok λk hk=>by
  rcases hX k hk with rfl | rfl
  ·exact⟨(k,oa),by simp,rfl⟩
  ·exact⟨(k,ob),by simp,rfl⟩
end
end Go.X
namespace Go.Proofs.YtkhjeeakflefjaaGreatDoor
open Go.X
structure CaseP (α:Type) where
 Key:List UInt8
 Parts:List (α)
structure Part where
 Kind:Int
 Text:List UInt8
 Name:List UInt8
 Style:List UInt8
 Cases:List (CaseP Part)
 Parts:List (Part)
abbrev Case:=CaseP Part
@[reducible] def Case.mk (Key:List UInt8) (Parts:List (Part)):Case:=CaseP.mk Key Parts
structure Builder where
 addr:Unit
 buf:List (Int)
structure Number where
 negative:Bool
 whole:List UInt8
 fraction:List UInt8
structure Printer where
 Builder:Builder
structure Arr10_List_UInt8 where
 e0:List UInt8
 e1:List UInt8
 e2:List UInt8
 e3:List UInt8
 e4:List UInt8
 e5:List UInt8
 e6:List UInt8
 e7:List UInt8
 e8:List UInt8
 e9:List UInt8
def Arr10_List_UInt8.list(a:Arr10_List_UInt8):List (List UInt8):=[a.e0,a.e1,a.e2,a.e3,a.e4,a.e5,a.e6,a.e7,a.e8,a.e9]
def Arr10_List_UInt8.of:List (List UInt8)→Option Arr10_List_UInt8
 | [x0,x1,x2,x3,x4,x5,x6,x7,x8,x9]=>some ⟨x0,x1,x2,x3,x4,x5,x6,x7,x8,x9⟩
 | _=>none
def Arr10_List_UInt8.get(a:Arr10_List_UInt8)(i:Int):Option (List UInt8):=idx a.list i
def Arr10_List_UInt8.set(a:Arr10_List_UInt8)(i:Int)(x:List UInt8):Option Arr10_List_UInt8:=(setI a.list i x).bind Arr10_List_UInt8.of
def qbP(_N:Nat)(c_1:Int)(x0:Builder):Option (Unit×Builder):=
 (app x0.buf ([c_1]:List (Int))).bind λl14=>
 some ((),(Builder.mk () l14))
def qeP(_N:Nat)(c_0:Int):Option Bool:=
 (show Option Bool from
  bif (c_0==123) then
   some (c_0==123)
  else
   bif (c_0==125) then
    some (c_0==125)
   else
    bif (c_0==60) then
     some (c_0==60)
    else
     bif (c_0==62) then
      some (c_0==62)
     else
      bif (c_0==35) then
       some (c_0==35)
      else
       some (c_0==92)).bind λo1=>
 bif o1 then
  some true
 else
  some false
def qeK(N:Nat)(s_0:List UInt8)(x_18:Int)(x_19:Builder):Option ((Int×Builder)⊕Builder):=
 bif (decide (x_18<(s_0.length:Int))) then
  (idx s_0 x_18).bind λc27=>
  (qeP N (c27.toNat:Int)).bind λr29=>
  bif r29 then
   (qbP N 92 (Builder.mk () x_19.buf)).bind λr32=>
   (idx s_0 x_18).bind λc39=>
   (qbP N (c39.toNat:Int) (Builder.mk () r32.2.buf)).bind λr41=>
   some (.inl ((x_18+1),(Builder.mk () r41.2.buf)))
  else
   (idx s_0 x_18).bind λc48=>
   (qbP N (c48.toNat:Int) (Builder.mk () x_19.buf)).bind λr50=>
   some (.inl ((x_18+1),(Builder.mk () r50.2.buf)))
 else
  some (.inr (Builder.mk () x_19.buf))
def qfV(N:Nat)(s_0:List UInt8):Option (List UInt8):=
 (iter (λs=>qeK N s_0 s.1 s.2) N (0,(Builder.mk () ([])))).bind λo11=>
 some (bytesOf o11.buf)
def uhit(k:Int):Option (Nat×Nat):=
 if k=3 then some (0,6)
 else if k=4 then some (1,4)
 else if k=5 then some (2,4)
 else if k=6 then some (3,4)
 else if k=7 then some (4,6)
 else if k=8 then some (5,7)
 else if k=9 then some (6,6)
 else none
def qgs(k n:Int):Int:=match uhit k with | some (_,l)=>IntKind.wrap .i64 (n+IntKind.wrap .i64 ((2:Int)+(l:Int))) | none=>n
def qgE:List (List UInt8×Int):=[([110,117,109,98,101,114],3),([117,110,105,116],4),([100,97,116,101],5),([108,105,115,116],6),([112,108,117,114,97,108],7),([111,114,100,105,110,97,108],8),([115,101,108,101,99,116],9)]
def qbS(_N:Nat)(kind_0:Int):Option Bool:=
 bif (decide (kind_0≥7)) then
  some (decide (kind_0≤9))
 else
  some false
def qeq(rQ12:List (Part)→Option Int)(N:Nat)(x11:Part)(n_56:Int)(x_57:Int):Option ((Int×Int)⊕Int):=
 bif (decide (x_57<(x11.Cases.length:Int))) then
  (idx x11.Cases x_57).bind λx61=>
  (rQ12 x61.Parts).bind λr74=>
  some (.inl ((IntKind.wrap .i64 (n_56+(IntKind.wrap .i64 ((IntKind.wrap .i64 ((4:Int)+(x61.Key.length:Int)))+r74)))),(x_57+1)))
 else
  some (.inr n_56)
def qer(rQ12:List (Part)→Option Int)(N:Nat)(parts_0:List (Part))(n_6:Int)(x_7:Int):Option ((Int×Int)⊕Int):=
 bif (decide (x_7<(parts_0.length:Int))) then
  (idx parts_0 x_7).bind λx11=>
  bif (x11.Kind==1) then
   (qfV N x11.Text).bind λr30=>
   some (.inl ((IntKind.wrap .i64 (n_6+(r30.length:Int))),(x_7+1)))
  else
   bif (x11.Kind==10) then
    some (.inl ((IntKind.wrap .i64 (n_6+1)),(x_7+1)))
   else
    bif (x11.Kind==11) then
     bif (decide ((x11.Parts.length:Int)>0)) then
      (rQ12 x11.Parts).bind λr36=>
      some (.inl ((IntKind.wrap .i64 ((IntKind.wrap .i64 (n_6+(IntKind.wrap .i64 ((3:Int)+(x11.Name.length:Int)))))+(IntKind.wrap .i64 ((IntKind.wrap .i64 ((2:Int)+(x11.Name.length:Int)))+r36)))),(x_7+1)))
     else
      some (.inl ((IntKind.wrap .i64 (n_6+(IntKind.wrap .i64 ((3:Int)+(x11.Name.length:Int))))),(x_7+1)))
    else
     (show Option Int from
      bif (x11.Style != ([])) then
       some (IntKind.wrap .i64 ((qgs x11.Kind (IntKind.wrap .i64 (n_6+(IntKind.wrap .i64 ((2:Int)+(x11.Name.length:Int))))))+(IntKind.wrap .i64 ((2:Int)+(x11.Style.length:Int)))))
      else
       some (qgs x11.Kind (IntKind.wrap .i64 (n_6+(IntKind.wrap .i64 ((2:Int)+(x11.Name.length:Int))))))).bind λo41=>
     (qbS N x11.Kind).bind λr45=>
     (show Option Int from
      bif r45 then
       some (IntKind.wrap .i64 (o41+1))
      else
       some o41).bind λo47=>
     (iter (λs=>qeq rQ12 N x11 s.1 s.2) N (o47,0)).bind λo53=>
     some (.inl (o53,(x_7+1)))
 else
  some (.inr n_6)
def qeC(rQ12:List (Part)→Option Int)(N:Nat)(parts_0:List (Part)):Option Int:=
 (iter (λs=>qer rQ12 N parts_0 s.1 s.2) N (0,0)).bind λo3=>
 some o3
def qil:Nat→(List (Part)→Option Int)
 | 0=>(λ_=>none)
 | N+1=>(qeC (qil N) N)
def qde(N:Nat):List (Part)→Option Int:=(qil N)
def qeA(_N:Nat)(s_0:List UInt8)(x_4:Int):Option (Int⊕((Unit⊕Bool))):=
 bif (decide (x_4<(s_0.length:Int))) then
  (idx s_0 x_4).bind λc7=>
  (show Option Bool from
   bif (decide ((c7.toNat:Int)<97)) then
    bif (decide ((c7.toNat:Int)<65)) then
     some true
    else
     some (decide ((c7.toNat:Int)>90))
   else
    bif (decide ((c7.toNat:Int)>122)) then
     bif (decide ((c7.toNat:Int)<65)) then
      some true
     else
      some (decide ((c7.toNat:Int)>90))
    else
     some false).bind λo9=>
  bif o9 then
   some (.inr (.inr false))
  else
   some (.inl (x_4+1))
 else
  some (.inr (.inl ()))
def qeJ(N:Nat)(s_0:List UInt8):Option Bool:=
 (iter (λs=>qeA N s_0 s) N 0).bind λo2=>
 Sum.elim (λ_o2=>
  bif (s_0 != ([])) then
   some (decide ((s_0.length:Int)≤40))
  else
   some false)
 (λo2=>
  some o2) o2
def qfW(_N:Nat)(c_0:Int):Option Bool:=
 bif (decide (c_0≥97)) then
  bif (decide (c_0≤122)) then
   some true
  else
   bif (decide (c_0≥65)) then
    bif (decide (c_0≤90)) then
     some true
    else
     bif (decide (c_0≥48)) then
      some (decide (c_0≤57))
     else
      some false
   else
    bif (decide (c_0≥48)) then
     some (decide (c_0≤57))
    else
     some false
 else
  bif (decide (c_0≥65)) then
   bif (decide (c_0≤90)) then
    some true
   else
    bif (decide (c_0≥48)) then
     some (decide (c_0≤57))
    else
     some false
  else
   bif (decide (c_0≥48)) then
    some (decide (c_0≤57))
   else
    some false
def qgd(N:Nat)(s_0:List UInt8)(x_12:Int):Option (Int⊕((Unit⊕Bool))):=
 bif (decide (x_12<(s_0.length:Int))) then
  (idx s_0 x_12).bind λc15=>
  (qfW N (c15.toNat:Int)).bind λr17=>
  bif (!r17) then
   (idx s_0 x_12).bind λc20=>
   bif ((c20.toNat:Int)!=95) then
    (idx s_0 x_12).bind λc23=>
    bif ((c23.toNat:Int)!=45) then
     some (.inr (.inr false))
    else
     some (.inl (x_12+1))
   else
    some (.inl (x_12+1))
  else
   some (.inl (x_12+1))
 else
  some (.inr (.inl ()))
def qdZ(N:Nat)(s_0:List UInt8):Option Bool:=
 bif (s_0==([])) then
  some false
 else
  bif (decide ((s_0.length:Int)>40)) then
   some false
  else
   (idx s_0 0).bind λc3=>
   bif (decide ((c3.toNat:Int)<97)) then
    some false
   else
    (idx s_0 0).bind λc6=>
    bif (decide ((c6.toNat:Int)>122)) then
     some false
    else
     (iter (λs=>qgd N s_0 s) N 0).bind λo10=>
     Sum.elim (λ_o10=>
      some true)
     (λo10=>
      some o10) o10
end Go.Proofs.YtkhjeeakflefjaaGreatDoor
namespace Go.Proofs
open Go.Shelf
def Tryz.lays169_ren:Go.Shelf.Ren:=⟨λ| 169=>52 | n=>n,λ| 70=>121 | 9=>9 | 0=>0 | 72=>124 | 37=>122 | 127=>166 | 3=>3 | 5=>5 | n=>n,λ| n=>n⟩
theorem Tryz.lays169:Go.Proofs.Lays.n169 Tryz.prog Tryz.lays169_ren:={
 mixed:=by kernel_rfl
 f169:=Tryz.func52.trans (congrArg some (by kernel_rfl))
 t0:=Tryz.underlying0
 a0:=Tryz.isAgg0
 z0:=Tryz.sizeOf0
 v0:=Tryz.zeroValue0
 t3:=Tryz.underlying3
 a3:=Tryz.isAgg3
 z3:=Tryz.sizeOf3
 v3:=Tryz.zeroValue3
 t9:=Tryz.underlying9
 a9:=Tryz.isAgg9
 z9:=Tryz.sizeOf9
 v9:=Tryz.zeroValue9
 t37:=Tryz.underlying122
 a37:=Tryz.isAgg122
 z37:=Tryz.sizeOf122
 v37:=Tryz.zeroValue122
 t70:=Tryz.underlying121
 a70:=Tryz.isAgg121
 z70:=Tryz.sizeOf121
 v70:=Tryz.zeroValue121
 t72:=Tryz.underlying124
 a72:=Tryz.isAgg124
 z72:=Tryz.sizeOf124
 v72:=Tryz.zeroValue124
 t127:=Tryz.underlying166
 a127:=Tryz.isAgg166
 z127:=Tryz.sizeOf166
 v127:=Tryz.zeroValue166 }
theorem Tryz.Builder_Extra_169:Builder.Extra Tryz.prog Tryz.lays169_ren:={
 sizeBuilder:=by kernel_rfl
 liesBuilder:=by kernel_rfl
 t5:=Tryz.underlying5
 a5:=Tryz.isAgg5
 z5:=Tryz.sizeOf5
 v5:=Tryz.zeroValue5
 infoByte:=by kernel_rfl
 cellsByte:=by kernel_rfl
 sizeByte:=by kernel_rfl
 neB5:=by decide }
def Tryz.lays160_ren:Go.Shelf.Ren:=⟨λ| 160=>147 | 232=>151 | 231=>150 | 227=>152 | 234=>154 | 233=>153 | 236=>156 | 235=>155 | 228=>160 | 271=>163 | 151=>162 | 197=>161 | 120=>167 | 152=>166 | 260=>165 | 137=>119 | 119=>168 | 224=>158 | 225=>157 | 217=>132 | 266=>139 | n=>n,λ| 9=>9 | 4=>4 | 3=>3 | 5=>5 | 117=>216 | 116=>215 | 0=>0 | 124=>219 | 21=>21 | 105=>221 | 46=>117 | 119=>227 | 139=>230 | 138=>229 | n=>n,λ| 3=>1 | 4=>2 | n=>n⟩
theorem Tryz.lays160:Go.Proofs.Lays.n160 Tryz.prog Tryz.lays160_ren:={
 mixed:=by kernel_rfl
 f119:=Tryz.func168.trans (congrArg some (by kernel_rfl))
 f120:=Tryz.func167.trans (congrArg some (by kernel_rfl))
 f137:=Tryz.func119.trans (congrArg some (by kernel_rfl))
 f151:=Tryz.func162.trans (congrArg some (by kernel_rfl))
 f152:=Tryz.func166.trans (congrArg some (by kernel_rfl))
 f160:=Tryz.func147.trans (congrArg some (by kernel_rfl))
 f197:=Tryz.func161.trans (congrArg some (by kernel_rfl))
 f217:=Tryz.func132.trans (congrArg some (by kernel_rfl))
 f224:=Tryz.func158.trans (congrArg some (by kernel_rfl))
 f225:=Tryz.func157.trans (congrArg some (by kernel_rfl))
 f227:=Tryz.func152.trans (congrArg some (by kernel_rfl))
 f228:=Tryz.func160.trans (congrArg some (by kernel_rfl))
 f231:=Tryz.func150.trans (congrArg some (by kernel_rfl))
 f232:=Tryz.func151.trans (congrArg some (by kernel_rfl))
 f233:=Tryz.func153.trans (congrArg some (by kernel_rfl))
 f234:=Tryz.func154.trans (congrArg some (by kernel_rfl))
 f235:=Tryz.func155.trans (congrArg some (by kernel_rfl))
 f236:=Tryz.func156.trans (congrArg some (by kernel_rfl))
 f260:=Tryz.func165.trans (congrArg some (by kernel_rfl))
 f266:=Tryz.func139.trans (congrArg some (by kernel_rfl))
 f271:=Tryz.func163.trans (congrArg some (by kernel_rfl))
 t0:=Tryz.underlying0
 a0:=Tryz.isAgg0
 z0:=Tryz.sizeOf0
 v0:=Tryz.zeroValue0
 t3:=Tryz.underlying3
 a3:=Tryz.isAgg3
 z3:=Tryz.sizeOf3
 v3:=Tryz.zeroValue3
 t4:=Tryz.underlying4
 a4:=Tryz.isAgg4
 z4:=Tryz.sizeOf4
 v4:=Tryz.zeroValue4
 t5:=Tryz.underlying5
 a5:=Tryz.isAgg5
 z5:=Tryz.sizeOf5
 v5:=Tryz.zeroValue5
 t9:=Tryz.underlying9
 a9:=Tryz.isAgg9
 z9:=Tryz.sizeOf9
 v9:=Tryz.zeroValue9
 t21:=Tryz.underlying21
 a21:=Tryz.isAgg21
 z21:=Tryz.sizeOf21
 v21:=Tryz.zeroValue21
 t46:=Tryz.underlying117
 a46:=Tryz.isAgg117
 z46:=Tryz.sizeOf117
 v46:=Tryz.zeroValue117
 t105:=Tryz.underlying221
 a105:=Tryz.isAgg221
 z105:=Tryz.sizeOf221
 v105:=Tryz.zeroValue221
 t116:=Tryz.underlying215
 a116:=Tryz.isAgg215
 z116:=Tryz.sizeOf215
 t117:=Tryz.underlying216
 a117:=Tryz.isAgg216
 z117:=Tryz.sizeOf216
 v117:=Tryz.zeroValue216
 t119:=Tryz.underlying227
 a119:=Tryz.isAgg227
 z119:=Tryz.sizeOf227
 t124:=Tryz.underlying219
 a124:=Tryz.isAgg219
 z124:=Tryz.sizeOf219
 v124:=Tryz.zeroValue219
 t138:=Tryz.underlying229
 a138:=Tryz.isAgg229
 z138:=Tryz.sizeOf229
 v138:=Tryz.zeroValue229
 t139:=Tryz.underlying230
 a139:=Tryz.isAgg230
 z139:=Tryz.sizeOf230
 v139:=Tryz.zeroValue230
 g3:=by kernel_rfl
 g4:=by kernel_rfl }
def Tryz.lays137_ren:Go.Shelf.Ren:=⟨λ| 137=>119 | 217=>132 | 266=>139 | n=>n,λ| 9=>9 | 5=>5 | 3=>3 | n=>n,λ| n=>n⟩
theorem Tryz.lays137:Go.Proofs.Lays.n137 Tryz.prog Tryz.lays137_ren:={
 mixed:=by kernel_rfl
 f137:=Tryz.func119.trans (congrArg some (by kernel_rfl))
 f217:=Tryz.func132.trans (congrArg some (by kernel_rfl))
 f266:=Tryz.func139.trans (congrArg some (by kernel_rfl))
 t3:=Tryz.underlying3
 a3:=Tryz.isAgg3
 z3:=Tryz.sizeOf3
 v3:=Tryz.zeroValue3
 t5:=Tryz.underlying5
 a5:=Tryz.isAgg5
 z5:=Tryz.sizeOf5
 v5:=Tryz.zeroValue5
 t9:=Tryz.underlying9
 a9:=Tryz.isAgg9
 z9:=Tryz.sizeOf9
 v9:=Tryz.zeroValue9 }
def Tryz.lays103_ren:Go.Shelf.Ren:=⟨λ| 103=>120 | 210=>133 | 206=>140 | n=>n,λ| 9=>9 | 4=>4 | 24=>91 | 3=>3 | n=>n,λ| n=>n⟩
theorem Tryz.lays103:Go.Proofs.Lays.n103 Tryz.prog Tryz.lays103_ren:={
 mixed:=by kernel_rfl
 f103:=Tryz.func120.trans (congrArg some (by kernel_rfl))
 f206:=Tryz.func140.trans (congrArg some (by kernel_rfl))
 f210:=Tryz.func133.trans (congrArg some (by kernel_rfl))
 t3:=Tryz.underlying3
 a3:=Tryz.isAgg3
 z3:=Tryz.sizeOf3
 v3:=Tryz.zeroValue3
 t4:=Tryz.underlying4
 a4:=Tryz.isAgg4
 z4:=Tryz.sizeOf4
 v4:=Tryz.zeroValue4
 t9:=Tryz.underlying9
 a9:=Tryz.isAgg9
 z9:=Tryz.sizeOf9
 v9:=Tryz.zeroValue9
 t24:=Tryz.underlying91
 a24:=Tryz.isAgg91
 z24:=Tryz.sizeOf91
 v24:=Tryz.zeroValue91 }
def Tryz.lays145_ren:Go.Shelf.Ren:=⟨λ| 145=>143 | 220=>146 | 219=>149 | 217=>132 | 225=>157 | 224=>158 | 267=>159 | 266=>139 | 314=>164 | n=>n,λ| 9=>9 | 4=>4 | 59=>208 | 3=>3 | 5=>5 | 46=>117 | 146=>224 | 51=>158 | n=>n,λ| 1=>0 | n=>n⟩
theorem Tryz.lays145:Go.Proofs.Lays.n145 Tryz.prog Tryz.lays145_ren:={
 mixed:=by kernel_rfl
 f145:=Tryz.func143.trans (congrArg some (by kernel_rfl))
 f217:=Tryz.func132.trans (congrArg some (by kernel_rfl))
 f219:=Tryz.func149.trans (congrArg some (by kernel_rfl))
 f220:=Tryz.func146.trans (congrArg some (by kernel_rfl))
 f224:=Tryz.func158.trans (congrArg some (by kernel_rfl))
 f225:=Tryz.func157.trans (congrArg some (by kernel_rfl))
 f266:=Tryz.func139.trans (congrArg some (by kernel_rfl))
 f267:=Tryz.func159.trans (congrArg some (by kernel_rfl))
 f314:=Tryz.func164.trans (congrArg some (by kernel_rfl))
 t3:=Tryz.underlying3
 a3:=Tryz.isAgg3
 z3:=Tryz.sizeOf3
 v3:=Tryz.zeroValue3
 t4:=Tryz.underlying4
 a4:=Tryz.isAgg4
 z4:=Tryz.sizeOf4
 v4:=Tryz.zeroValue4
 t5:=Tryz.underlying5
 a5:=Tryz.isAgg5
 z5:=Tryz.sizeOf5
 v5:=Tryz.zeroValue5
 t9:=Tryz.underlying9
 a9:=Tryz.isAgg9
 z9:=Tryz.sizeOf9
 v9:=Tryz.zeroValue9
 t46:=Tryz.underlying117
 a46:=Tryz.isAgg117
 z46:=Tryz.sizeOf117
 v46:=Tryz.zeroValue117
 t51:=Tryz.underlying158
 a51:=Tryz.isAgg158
 z51:=Tryz.sizeOf158
 v51:=Tryz.zeroValue158
 t59:=Tryz.underlying208
 a59:=Tryz.isAgg208
 z59:=Tryz.sizeOf208
 v59:=Tryz.zeroValue208
 t146:=Tryz.underlying224
 a146:=Tryz.isAgg224
 z146:=Tryz.sizeOf224
 v146:=Tryz.zeroValue224
 g1:=by kernel_rfl }
def Tryz.lays189_ren:Go.Shelf.Ren:=⟨λ| 189=>47 | 125=>46 | 257=>81 | 128=>79 | 129=>80 | 294=>107 | 295=>108 | 296=>109 | 297=>110 | 298=>111 | 299=>112 | 216=>113 | 300=>114 | 301=>115 | 328=>126 | 329=>102 | 330=>103 | 331=>127 | 332=>128 | 215=>129 | 343=>138 | n=>n,λ| 28=>58 | 3=>3 | 46=>117 | 0=>0 | 51=>158 | 53=>160 | 4=>4 | 183=>151 | 182=>150 | 131=>108 | 5=>5 | 9=>9 | 218=>177 | 222=>181 | 228=>194 | 229=>195 | n=>n,λ| n=>n⟩
theorem Tryz.lays189:Go.Proofs.Lays.n189 Tryz.prog Tryz.lays189_ren:={
 mixed:=by kernel_rfl
 f125:=Tryz.func46.trans (congrArg some (by kernel_rfl))
 f128:=Tryz.func79.trans (congrArg some (by kernel_rfl))
 f129:=Tryz.func80.trans (congrArg some (by kernel_rfl))
 f189:=Tryz.func47.trans (congrArg some (by kernel_rfl))
 f215:=Tryz.func129.trans (congrArg some (by kernel_rfl))
 f216:=Tryz.func113.trans (congrArg some (by kernel_rfl))
 f257:=Tryz.func81.trans (congrArg some (by kernel_rfl))
 f294:=Tryz.func107.trans (congrArg some (by kernel_rfl))
 f295:=Tryz.func108.trans (congrArg some (by kernel_rfl))
 f296:=Tryz.func109.trans (congrArg some (by kernel_rfl))
 f297:=Tryz.func110.trans (congrArg some (by kernel_rfl))
 f298:=Tryz.func111.trans (congrArg some (by kernel_rfl))
 f299:=Tryz.func112.trans (congrArg some (by kernel_rfl))
 f300:=Tryz.func114.trans (congrArg some (by kernel_rfl))
 f301:=Tryz.func115.trans (congrArg some (by kernel_rfl))
 f328:=Tryz.func126.trans (congrArg some (by kernel_rfl))
 f329:=Tryz.func102.trans (congrArg some (by kernel_rfl))
 f330:=Tryz.func103.trans (congrArg some (by kernel_rfl))
 f331:=Tryz.func127.trans (congrArg some (by kernel_rfl))
 f332:=Tryz.func128.trans (congrArg some (by kernel_rfl))
 f343:=Tryz.func138.trans (congrArg some (by kernel_rfl))
 t0:=Tryz.underlying0
 a0:=Tryz.isAgg0
 z0:=Tryz.sizeOf0
 v0:=Tryz.zeroValue0
 t3:=Tryz.underlying3
 a3:=Tryz.isAgg3
 z3:=Tryz.sizeOf3
 v3:=Tryz.zeroValue3
 t4:=Tryz.underlying4
 a4:=Tryz.isAgg4
 z4:=Tryz.sizeOf4
 v4:=Tryz.zeroValue4
 t5:=Tryz.underlying5
 a5:=Tryz.isAgg5
 z5:=Tryz.sizeOf5
 v5:=Tryz.zeroValue5
 t9:=Tryz.underlying9
 a9:=Tryz.isAgg9
 z9:=Tryz.sizeOf9
 v9:=Tryz.zeroValue9
 t28:=Tryz.underlying58
 a28:=Tryz.isAgg58
 z28:=Tryz.sizeOf58
 v28:=Tryz.zeroValue58
 t46:=Tryz.underlying117
 a46:=Tryz.isAgg117
 z46:=Tryz.sizeOf117
 v46:=Tryz.zeroValue117
 t51:=Tryz.underlying158
 a51:=Tryz.isAgg158
 z51:=Tryz.sizeOf158
 v51:=Tryz.zeroValue158
 t53:=Tryz.underlying160
 a53:=Tryz.isAgg160
 z53:=Tryz.sizeOf160
 v53:=Tryz.zeroValue160
 t131:=Tryz.underlying108
 a131:=Tryz.isAgg108
 z131:=Tryz.sizeOf108
 v131:=Tryz.zeroValue108
 t182:=Tryz.underlying150
 a182:=Tryz.isAgg150
 z182:=Tryz.sizeOf150
 v182:=Tryz.zeroValue150
 t183:=Tryz.underlying151
 a183:=Tryz.isAgg151
 z183:=Tryz.sizeOf151
 v183:=Tryz.zeroValue151
 t218:=Tryz.underlying177
 a218:=Tryz.isAgg177
 z218:=Tryz.sizeOf177
 v218:=Tryz.zeroValue177
 t222:=Tryz.underlying181
 a222:=Tryz.isAgg181
 z222:=Tryz.sizeOf181
 v222:=Tryz.zeroValue181
 t228:=Tryz.underlying194
 a228:=Tryz.isAgg194
 z228:=Tryz.sizeOf194
 v228:=Tryz.zeroValue194
 t229:=Tryz.underlying195
 a229:=Tryz.isAgg195
 z229:=Tryz.sizeOf195
 v229:=Tryz.zeroValue195 }
def Tryz.lays190_ren:Go.Shelf.Ren:=⟨λ| 190=>26 | 125=>46 | 258=>45 | 128=>79 | 129=>80 | 302=>70 | 303=>71 | 304=>72 | 305=>73 | 306=>74 | 307=>75 | 308=>76 | 309=>77 | 310=>78 | 333=>101 | 329=>102 | 330=>103 | 334=>104 | 335=>105 | 336=>106 | 344=>125 | n=>n,λ| 31=>53 | 9=>9 | 3=>3 | 46=>117 | 0=>0 | 51=>158 | 53=>160 | 4=>4 | 183=>151 | 182=>150 | 131=>108 | 5=>5 | 218=>177 | 222=>181 | 228=>194 | 229=>195 | n=>n,λ| n=>n⟩
theorem Tryz.lays190:Go.Proofs.Lays.n190 Tryz.prog Tryz.lays190_ren:={
 mixed:=by kernel_rfl
 f125:=Tryz.func46.trans (congrArg some (by kernel_rfl))
 f128:=Tryz.func79.trans (congrArg some (by kernel_rfl))
 f129:=Tryz.func80.trans (congrArg some (by kernel_rfl))
 f190:=Tryz.func26.trans (congrArg some (by kernel_rfl))
 f258:=Tryz.func45.trans (congrArg some (by kernel_rfl))
 f302:=Tryz.func70.trans (congrArg some (by kernel_rfl))
 f303:=Tryz.func71.trans (congrArg some (by kernel_rfl))
 f304:=Tryz.func72.trans (congrArg some (by kernel_rfl))
 f305:=Tryz.func73.trans (congrArg some (by kernel_rfl))
 f306:=Tryz.func74.trans (congrArg some (by kernel_rfl))
 f307:=Tryz.func75.trans (congrArg some (by kernel_rfl))
 f308:=Tryz.func76.trans (congrArg some (by kernel_rfl))
 f309:=Tryz.func77.trans (congrArg some (by kernel_rfl))
 f310:=Tryz.func78.trans (congrArg some (by kernel_rfl))
 f329:=Tryz.func102.trans (congrArg some (by kernel_rfl))
 f330:=Tryz.func103.trans (congrArg some (by kernel_rfl))
 f333:=Tryz.func101.trans (congrArg some (by kernel_rfl))
 f334:=Tryz.func104.trans (congrArg some (by kernel_rfl))
 f335:=Tryz.func105.trans (congrArg some (by kernel_rfl))
 f336:=Tryz.func106.trans (congrArg some (by kernel_rfl))
 f344:=Tryz.func125.trans (congrArg some (by kernel_rfl))
 t0:=Tryz.underlying0
 a0:=Tryz.isAgg0
 z0:=Tryz.sizeOf0
 v0:=Tryz.zeroValue0
 t3:=Tryz.underlying3
 a3:=Tryz.isAgg3
 z3:=Tryz.sizeOf3
 v3:=Tryz.zeroValue3
 t4:=Tryz.underlying4
 a4:=Tryz.isAgg4
 z4:=Tryz.sizeOf4
 v4:=Tryz.zeroValue4
 t5:=Tryz.underlying5
 a5:=Tryz.isAgg5
 z5:=Tryz.sizeOf5
 v5:=Tryz.zeroValue5
 t9:=Tryz.underlying9
 a9:=Tryz.isAgg9
 z9:=Tryz.sizeOf9
 v9:=Tryz.zeroValue9
 t31:=Tryz.underlying53
 a31:=Tryz.isAgg53
 z31:=Tryz.sizeOf53
 v31:=Tryz.zeroValue53
 t46:=Tryz.underlying117
 a46:=Tryz.isAgg117
 z46:=Tryz.sizeOf117
 v46:=Tryz.zeroValue117
 t51:=Tryz.underlying158
 a51:=Tryz.isAgg158
 z51:=Tryz.sizeOf158
 v51:=Tryz.zeroValue158
 t53:=Tryz.underlying160
 a53:=Tryz.isAgg160
 z53:=Tryz.sizeOf160
 v53:=Tryz.zeroValue160
 t131:=Tryz.underlying108
 a131:=Tryz.isAgg108
 z131:=Tryz.sizeOf108
 v131:=Tryz.zeroValue108
 t182:=Tryz.underlying150
 a182:=Tryz.isAgg150
 z182:=Tryz.sizeOf150
 v182:=Tryz.zeroValue150
 t183:=Tryz.underlying151
 a183:=Tryz.isAgg151
 z183:=Tryz.sizeOf151
 v183:=Tryz.zeroValue151
 t218:=Tryz.underlying177
 a218:=Tryz.isAgg177
 z218:=Tryz.sizeOf177
 v218:=Tryz.zeroValue177
 t222:=Tryz.underlying181
 a222:=Tryz.isAgg181
 z222:=Tryz.sizeOf181
 v222:=Tryz.zeroValue181
 t228:=Tryz.underlying194
 a228:=Tryz.isAgg194
 z228:=Tryz.sizeOf194
 v228:=Tryz.zeroValue194
 t229:=Tryz.underlying195
 a229:=Tryz.isAgg195
 z229:=Tryz.sizeOf195
 v229:=Tryz.zeroValue195 }
def Tryz.laysNm216_ren:Go.Shelf.Ren:=⟨λ| 16=>25 | n=>n,λ| 24=>53 | 9=>9 | 4=>4 | n=>n,λ| n=>n⟩
theorem Tryz.laysNm216:Go.Proofs.Lays2.n16 Tryz.prog Tryz.laysNm216_ren:={
 mixed:=by kernel_rfl
 f16:=Tryz.func25.trans (congrArg some (by kernel_rfl))
 t4:=Tryz.underlying4
 a4:=Tryz.isAgg4
 z4:=Tryz.sizeOf4
 v4:=Tryz.zeroValue4
 t9:=Tryz.underlying9
 a9:=Tryz.isAgg9
 z9:=Tryz.sizeOf9
 v9:=Tryz.zeroValue9
 t24:=Tryz.underlying53
 a24:=Tryz.isAgg53
 z24:=Tryz.sizeOf53
 v24:=Tryz.zeroValue53
 i9:=by kernel_rfl }
def Tryz.laysNm220_ren:Go.Shelf.Ren:=⟨λ| 20=>48 | n=>n,λ| 22=>58 | 3=>3 | 4=>4 | 0=>0 | n=>n,λ| n=>n⟩
theorem Tryz.laysNm220:Go.Proofs.Lays2.n20 Tryz.prog Tryz.laysNm220_ren:={
 mixed:=by kernel_rfl
 f20:=Tryz.func48.trans (congrArg some (by kernel_rfl))
 t0:=Tryz.underlying0
 a0:=Tryz.isAgg0
 z0:=Tryz.sizeOf0
 v0:=Tryz.zeroValue0
 t3:=Tryz.underlying3
 a3:=Tryz.isAgg3
 z3:=Tryz.sizeOf3
 v3:=Tryz.zeroValue3
 t4:=Tryz.underlying4
 a4:=Tryz.isAgg4
 z4:=Tryz.sizeOf4
 v4:=Tryz.zeroValue4
 t22:=Tryz.underlying58
 a22:=Tryz.isAgg58
 z22:=Tryz.sizeOf58
 v22:=Tryz.zeroValue58
 i3:=by kernel_rfl }
def Tryz.lays194_ren:Go.Shelf.Ren:=⟨λ| 194=>27 | n=>n,λ| 31=>53 | 9=>9 | 3=>3 | 4=>4 | 0=>0 | n=>n,λ| n=>n⟩
theorem Tryz.lays194:Go.Proofs.Lays.n194 Tryz.prog Tryz.lays194_ren:={
 mixed:=by kernel_rfl
 f194:=Tryz.func27.trans (congrArg some (by kernel_rfl))
 t0:=Tryz.underlying0
 a0:=Tryz.isAgg0
 z0:=Tryz.sizeOf0
 v0:=Tryz.zeroValue0
 t3:=Tryz.underlying3
 a3:=Tryz.isAgg3
 z3:=Tryz.sizeOf3
 v3:=Tryz.zeroValue3
 t4:=Tryz.underlying4
 a4:=Tryz.isAgg4
 z4:=Tryz.sizeOf4
 v4:=Tryz.zeroValue4
 t9:=Tryz.underlying9
 a9:=Tryz.isAgg9
 z9:=Tryz.sizeOf9
 v9:=Tryz.zeroValue9
 t31:=Tryz.underlying53
 a31:=Tryz.isAgg53
 z31:=Tryz.sizeOf53
 v31:=Tryz.zeroValue53 }
end Go.Proofs
namespace Go.Proofs.YtkhjeeakflefjaaGreatDoor
open Go.X
variable {u:World} {m0:Mem} {S:Segs} {w:World}
set_option maxHeartbeats 4000000
set_option maxRecDepth 100000
def Glob(u:World):Prop:=∃ mx,u.cell? ⟨0,0,none⟩=some (.int .i64 mx)
def qjZ(R:Rp Part):Rp Case:=λm cs x=>∃ c1,cs=[.string (bs x.Key),c1]∧x.Key.length≤LIMS∧(pL 6 R) m [c1] x.Parts
def qgP:Nat→Rp Part
 | 0=>λ_ _ _=>False
 | d+1=>λm cs x=>∃ c4 c5,cs=[.int .i64 x.Kind,.string (bs x.Text),.string (bs x.Name),.string (bs x.Style),c4,c5]∧InR .i64 x.Kind∧x.Text.length≤LIMS∧x.Name.length≤LIMS∧x.Style.length≤LIMS∧(pL 2 (qjZ (qgP d))) m [c4] x.Cases∧(pL 6 (qgP d)) m [c5] x.Parts
def qaS:Rp Part:=λm cs x=>∃ d,qgP d m cs x
def qcY:Rp Case:=λm cs x=>∃ c1,cs=[.string (bs x.Key),c1]∧x.Key.length≤LIMS∧(pL 6 qaS) m [c1] x.Parts
theorem qiF{R R':Rp Part}{m:Mem}{cs:List Value}{x:Case}(hR:∀ {cs:List Value} {x:Part},R m cs x→R' m cs x)(h:qjZ R m cs x):qjZ R' m cs x:=by
 obtain⟨c1,e,h0,h1⟩:=h
 exact⟨c1,e,h0,qh4 (λ_ _ _ h=>hR h) h1⟩
theorem qjV:∀ (d:Nat) {m:Mem} {cs:List Value} {x:Part},qgP d m cs x→qgP (d+1) m cs x
 | 0,_,_,_,h=>h.elim
 | d+1,_,_,_,h=>by
  obtain⟨c4,c5,e,h0,h1,h2,h3,h4,h5⟩:=h
  exact⟨c4,c5,e,h0,h1,h2,h3,qh4 (λ_ _ _ h=>qiF (λh=>qjV d h) h) h4,qh4 (λ_ _ _ h=>qjV d h) h5⟩
theorem qhW{d d':Nat}(hd:d≤d'){m:Mem}{cs:List Value}{x:Part}(h:qgP d m cs x):qgP d' m cs x:=by
 induction hd with
 | refl=>exact h
 | step _ ih=>exact qjV _ ih
theorem qqN{m:Mem}{cs:List Value}{x:Case}(h:qcY m cs x):∃ d,qjZ (qgP d) m cs x:=by
 obtain⟨c1,e,h0,h1⟩:=h
 obtain⟨d,hd⟩:=qnP (λd d' hd _ _ h=>qhW hd h) h1
 exact⟨d,c1,e,h0,hd⟩
theorem qbd{m:Mem}{cs:List Value}{x:Part}:qaS m cs x↔(∃ c4 c5,cs=[.int .i64 x.Kind,.string (bs x.Text),.string (bs x.Name),.string (bs x.Style),c4,c5]∧InR .i64 x.Kind∧x.Text.length≤LIMS∧x.Name.length≤LIMS∧x.Style.length≤LIMS∧(pL 2 qcY) m [c4] x.Cases∧(pL 6 qaS) m [c5] x.Parts):=by
 constructor
 ·rintro⟨d,h⟩
  cases d with
  | zero=>exact h.elim
  | succ d=>
   obtain⟨c4,c5,e,h0,h1,h2,h3,h4,h5⟩:=h
   exact⟨c4,c5,e,h0,h1,h2,h3,qh4 (λ_ _ _ h=>qiF (R':=qaS) (λh=>⟨d,h⟩) h) h4,qh4 (λ_ _ _ h=>⟨d,h⟩) h5⟩
 ·rintro⟨c4,c5,e,h0,h1,h2,h3,h4,h5⟩
  obtain⟨d4,g4⟩:=qnP (P:=λd=>qjZ (qgP d)) (λd d' hd _ _ h=>qiF (λh=>qhW hd h) h) (qh4 (λ_ _ _ h=>qqN h) h4)
  obtain⟨d5,g5⟩:=qnP (λd d' hd _ _ h=>qhW hd h) h5
  exact⟨d4+d5+1,c4,c5,e,h0,h1,h2,h3,qh4 (λ_ _ _ h=>qiF (λh=>qhW (by omega) h) h) g4,qh4 (λ_ _ _ h=>qhW (by omega) h) g5⟩
theorem qpl{R:Rp Part}(M:Mono R):Mono (qjZ R):=⟨λhm h=>by
 obtain⟨c1,e,h0,h1⟩:=h
 exact⟨c1,e,h0,(mL M).up hm h1⟩,λh=>by
 obtain⟨c1,rfl,h0,h1⟩:=h
 exact⟨rfl,((mL M).one h1).1,trivial⟩⟩
theorem qkh:∀ d,Mono (qgP d)
 | 0=>⟨λ_ h=>h.elim,λh=>h.elim⟩
 | d+1=>⟨λhm h=>by
  obtain⟨c4,c5,e,h0,h1,h2,h3,h4,h5⟩:=h
  exact⟨c4,c5,e,h0,h1,h2,h3,(mL (qpl (qkh d))).up hm h4,(mL (qkh d)).up hm h5⟩,λh=>by
  obtain⟨c4,c5,rfl,h0,h1,h2,h3,h4,h5⟩:=h
  exact⟨rfl,rfl,rfl,rfl,((mL (qpl (qkh d))).one h4).1,((mL (qkh d)).one h5).1,trivial⟩⟩
theorem qah:Mono qaS:=⟨λhm ⟨d,h⟩=>⟨d,(qkh d).up hm h⟩,λ⟨d,h⟩=>(qkh d).one h⟩
theorem qaE:Mono qcY:=qpl qah
def qnO:Rp Number:=λ_ cs x=>cs=[.bool x.negative,.string (bs x.whole),.string (bs x.fraction)]∧x.whole.length≤LIMS∧x.fraction.length≤LIMS
theorem qkw:aggB Tryz.prog 145 1=true:=by kernel_rfl
theorem qbs:aggB Tryz.prog 205 3=true:=by kernel_rfl
theorem qct:aggB Tryz.prog 90 6=true:=by kernel_rfl
theorem qfE:aggB Tryz.prog 93 2=true:=by kernel_rfl
theorem qqm:ArT Tryz.prog 189 9 10 1:=ArT.of (by kernel_rfl)
theorem qgq:qa2 Tryz.prog 124 0 0=true:=by kernel_rfl
theorem qkG:qa2 Tryz.prog 124 1 1=true:=by kernel_rfl
theorem qoX:qa2 Tryz.prog 126 0 0=true:=by kernel_rfl
theorem qjk:qa2 Tryz.prog 145 0 0=true:=by kernel_rfl
theorem qso:qa2 Tryz.prog 205 1 1=true:=by kernel_rfl
theorem qth:qa2 Tryz.prog 205 2 2=true:=by kernel_rfl
theorem qbm:qa2 Tryz.prog 90 0 0=true:=by kernel_rfl
theorem qfY:qa2 Tryz.prog 90 1 1=true:=by kernel_rfl
theorem qbC:qa2 Tryz.prog 90 2 2=true:=by kernel_rfl
theorem qcn:qa2 Tryz.prog 90 3 3=true:=by kernel_rfl
theorem qdN:qa2 Tryz.prog 90 4 4=true:=by kernel_rfl
theorem qc1:qa2 Tryz.prog 90 5 5=true:=by kernel_rfl
theorem qgi:qa2 Tryz.prog 93 0 0=true:=by kernel_rfl
theorem qeL:qa2 Tryz.prog 93 1 1=true:=by kernel_rfl
theorem qf9:goB Tryz.prog 117=true:=by kernel_rfl
theorem qrL:goB Tryz.prog 118=true:=by kernel_rfl
theorem qoV:goB Tryz.prog 120=true:=by kernel_rfl
theorem qre:goB Tryz.prog 122=true:=by kernel_rfl
theorem qnl:goB Tryz.prog 123=true:=by kernel_rfl
theorem quQ:goB Tryz.prog 131=true:=by kernel_rfl
theorem qvn:goB Tryz.prog 136=true:=by kernel_rfl
theorem qu6:goB Tryz.prog 137=true:=by kernel_rfl
theorem quU:goB Tryz.prog 142=true:=by kernel_rfl
theorem qvq:goB Tryz.prog 143=true:=by kernel_rfl
theorem qlU:goB Tryz.prog 144=true:=by kernel_rfl
theorem qmV:goB Tryz.prog 145=true:=by kernel_rfl
theorem qri:goB Tryz.prog 147=true:=by kernel_rfl
theorem qrH:goB Tryz.prog 148=true:=by kernel_rfl
theorem qoR:goB Tryz.prog 21=true:=by kernel_rfl
theorem qv8:goB Tryz.prog 34=true:=by kernel_rfl
theorem qoS:goB Tryz.prog 39=true:=by kernel_rfl
theorem qwi:goB Tryz.prog 40=true:=by kernel_rfl
theorem qqL:goB Tryz.prog 51=true:=by kernel_rfl
theorem qqU:goB Tryz.prog 52=true:=by kernel_rfl
theorem qtA:goB Tryz.prog 63=true:=by kernel_rfl
theorem qtB:goB Tryz.prog 64=true:=by kernel_rfl
theorem qir:goB Tryz.prog 65=true:=by kernel_rfl
theorem qoK:goB Tryz.prog 66=true:=by kernel_rfl
theorem qvI:goB Tryz.prog 84=true:=by kernel_rfl
theorem qm5:goB Tryz.prog 88=true:=by kernel_rfl
theorem qtp:goB Tryz.prog 94=true:=by kernel_rfl
theorem qiE:goB Tryz.prog 95=true:=by kernel_rfl
theorem qqJ:goB Tryz.prog 96=true:=by kernel_rfl
theorem qvw:goB Tryz.prog 97=true:=by kernel_rfl
theorem qtG:goB Tryz.prog 98=true:=by kernel_rfl
theorem qqC:∃ i,Tryz.prog.info? 121=some i∧i.size=1:=⟨_,rfl,by kernel_rfl⟩
theorem qp9:∃ i,Tryz.prog.info? 122=some i∧i.size=1:=⟨_,rfl,by kernel_rfl⟩
theorem qqu:∃ i,Tryz.prog.info? 124=some i∧i.size=2:=⟨_,rfl,by kernel_rfl⟩
theorem quk:∃ i,Tryz.prog.info? 145=some i∧i.size=1:=⟨_,rfl,by kernel_rfl⟩
theorem qux:∃ i,Tryz.prog.info? 189=some i∧i.size=10:=⟨_,rfl,by kernel_rfl⟩
theorem qcN:∃ i,Tryz.prog.info? 205=some i∧i.size=3:=⟨_,rfl,by kernel_rfl⟩
theorem qf2:∃ i,Tryz.prog.info? 9=some i∧i.size=1:=⟨_,rfl,by kernel_rfl⟩
theorem qel:∃ i,Tryz.prog.info? 90=some i∧i.size=6:=⟨_,rfl,by kernel_rfl⟩
theorem qgc:∃ i,Tryz.prog.info? 93=some i∧i.size=2:=⟨_,rfl,by kernel_rfl⟩
theorem qkE:∃ i,Tryz.prog.info? 124=some i:=⟨_,rfl⟩
theorem qtc:liesAt Tryz.prog Tryz.prog.depth 124 (2 / Tryz.prog.cellsOf 124) 0 124 1=true:=by kernel_rfl
theorem qpz:liesAt Tryz.prog Tryz.prog.depth 126 (2 / Tryz.prog.cellsOf 126) 0 124 1=true:=by kernel_rfl
theorem qiJ:oneB Tryz.prog 121=true:=by kernel_rfl
theorem qqD:oneB Tryz.prog 122=true:=by kernel_rfl
theorem qaN:oneB Tryz.prog 3=true:=by kernel_rfl
theorem qcr:oneB Tryz.prog 38=true:=by kernel_rfl
theorem qfx:oneB Tryz.prog 88=true:=by kernel_rfl
theorem qax:oneB Tryz.prog 9=true:=by kernel_rfl
theorem qhn:oneB Tryz.prog 99=true:=by kernel_rfl
theorem qq6:qen Tryz.prog 145=some [(0,1)]:=by kernel_rfl
theorem qq8:qen Tryz.prog 205=some [(0,1),(1,1),(2,1)]:=by kernel_rfl
theorem qgw:qen Tryz.prog 90=some [(0,1),(1,1),(2,1),(3,1),(4,1),(5,1)]:=by kernel_rfl
theorem qpK:SlT Tryz.prog 122 5 1:=SlT.of (by kernel_rfl)
theorem qbG:SlT Tryz.prog 38 90 6:=SlT.of (by kernel_rfl)
theorem qce:SlT Tryz.prog 53 9 1:=SlT.of (by kernel_rfl)
theorem qch:SlT Tryz.prog 88 93 2:=SlT.of (by kernel_rfl)
theorem qhH:qjt Tryz.prog 4=some (vb false):=by kernel_rfl
theorem qo6:qcp Tryz.prog 124=some [(Value.pointer none),(Value.slice none 0 0)]:=by kernel_rfl
theorem qsM:qcp Tryz.prog 126=some [(Value.pointer none),(Value.slice none 0 0)]:=by kernel_rfl
theorem qpi:qcp Tryz.prog 145=some [(Value.map none)]:=by kernel_rfl
theorem qpj:qcp Tryz.prog 189=some [(vs ([])),(vs ([])),(vs ([])),(vs ([])),(vs ([])),(vs ([])),(vs ([])),(vs ([])),(vs ([])),(vs ([]))]:=by kernel_rfl
theorem qkU:qcp Tryz.prog 205=some [vb false,(vs ([])),(vs ([]))]:=by kernel_rfl
theorem qo7:qcp Tryz.prog 5=some [(Value.int .u8 0)]:=by kernel_rfl
theorem qex:qcp Tryz.prog 9=some [(vs ([]))]:=by kernel_rfl
theorem qbw:qcp Tryz.prog 90=some [vi 0,(vs ([])),(vs ([])),(vs ([])),(Value.slice none 0 0),(Value.slice none 0 0)]:=by kernel_rfl
theorem qb0:qcp Tryz.prog 93=some [(vs ([])),(Value.slice none 0 0)]:=by kernel_rfl
theorem qkm{u:World}{m:Mem}{S:Segs}{w:World}{b:Nat}{v:Value}(ok:Ok u m ([(b,oc 124 [(Value.pointer none),v])]::S) w) :
  Calls Tryz.prog 122 [.pointer (some ⟨b,0,none⟩)].toArray w λe w'=>e=.returned (.tuple [].toArray)∧Ok u m ([(b,oc 124 [vp b,v])]::S) w':=by
 have fin:∀ a w,(a.defers=[]∧Ok u m ([(b,oc 124 [vp b,v])]::S) w)→bodyPost Tryz.prog Tryz.f122 (λe w'=>e=.returned (.tuple [].toArray)∧Ok u m ([(b,oc 124 [vp b,v])]::S) w') .ret a w:=λa w h=>qbf [] h.1 rfl trivial ⟨rfl,h.2⟩
 refine enter Tryz.func122 rfl rfl rfl λa E=>sg<|mv E rfl λa E=>lw E (qan rfl) λa E=>fk E ok qgq qiJ rfl 0 rfl rfl λa E=>lv E ok (qhP Tryz.underlying121 rfl rfl) λa E=>wn<|c_if E rfl (λ_=>?_) (λh=>by cases h)
 refine qab<|mz E rfl rfl λa E=>lv E ok (qnD Tryz.underlying121 Tryz.underlying201 qqu (by decide) (qjD (c:=[(Value.pointer none),v]) 0 rfl) (Nat.le_of_ble_eq_true rfl) rfl) λa E=>lv E ok (qnC Tryz.func135 (by kernel_rfl) (by kernel_rfl) (by kernel_rfl) (by kernel_rfl) rfl) λa E=>lv E ok (qlu Tryz.underlying201 Tryz.underlying121 qkE (qjD (c:=[(Value.pointer none),v]) 0 rfl) qtc rfl) λa E=>lw E (qan rfl) λa E=>fv E qgq rfl λa E=>qai E ok 0 rfl rfl rfl qqC rfl rfl ⟨rfl,trivial⟩ rfl rfl λw ok=>wpList_nil ?_
 exact fin _ _ ⟨E.d,ok⟩
theorem qjP{u:World}{m:Mem}{S:Segs}{w:World}{b:Nat}{v:Value}(ok:Ok u m ([(b,oc 124 [vp b,v])]::S) w) :
  Calls Tryz.prog 122 [.pointer (some ⟨b,0,none⟩)].toArray w λe w'=>e=.returned (.tuple [].toArray)∧Ok u m ([(b,oc 124 [vp b,v])]::S) w':=by
 have fin:∀ a w,(a.defers=[]∧Ok u m ([(b,oc 124 [vp b,v])]::S) w)→bodyPost Tryz.prog Tryz.f122 (λe w'=>e=.returned (.tuple [].toArray)∧Ok u m ([(b,oc 124 [vp b,v])]::S) w') .ret a w:=λa w h=>qbf [] h.1 rfl trivial ⟨rfl,h.2⟩
 refine enter Tryz.func122 rfl rfl rfl λa E=>sg<|mv E rfl λa E=>lw E (qan rfl) λa E=>fk E ok qgq qiJ rfl 0 rfl rfl λa E=>lv E ok (qhP Tryz.underlying121 rfl rfl) λa E=>wn<|c_if E rfl (λh=>by cases h) (λ_=>?_)
 refine sg<|mv E rfl λa E=>lw E (qan rfl) λa E=>fk E ok qgq qiJ rfl 0 rfl rfl λa E=>mv E rfl λa E=>lv E ok (qot Tryz.underlying121 qkE rfl rfl) λa E=>wn<|c_if E rfl (λh=>by cases h) (λ_=>?_)
 refine wp_skip ?_
 exact fin _ _ ⟨E.d,ok⟩
theorem qlh{u:World}{m:Mem}{S:Segs}{w:World}{b:Nat}{a v:Value}(ha:BAd b a)(ok:Ok u m ([(b,oc 124 [a,v])]::S) w) :
  Calls Tryz.prog 122 [.pointer (some ⟨b,0,none⟩)].toArray w λe w'=>e=.returned (.tuple [].toArray)∧Ok u m ([(b,oc 124 [vp b,v])]::S) w':=by
 rcases ha with rfl | rfl
 ·exact qkm ok
 ·exact qjP ok
def qh3(u:World)(m0:Mem)(S:Segs)(pb0:Nat)(x0:Builder)(c1:Value)(c3:Value)(M4:List (Nat×Obj))(r:Unit×Builder)(a:Act)(w:World):Prop:=
 ∃ c6 c8 M9,Ok u m0 ([(pb0,oc 124 [c6,c8])]::M9::S) w∧a.defers=[]∧RVs Tryz.prog a w [.t 4 .nilIface]∧BAd pb0 c6∧ORow 5 1 (pI .u8) m0 c8 r.2.buf M9
theorem qc0(N:Nat)(c_1:Int)(rc_1:InR .u8 c_1){pb0:Nat}{c1:Value}{c3:Value}{M4:List (Nat×Obj)}(x0:Builder)(h2:BAd pb0 c1)(h5:ORow 5 1 (pI .u8) m0 c3 x0.buf M4){r:Unit×Builder}(hF:qbP N c_1 x0=some r)(hG:Glob u)(ok:Ok u m0 ([(pb0,oc 124 [c1,c3])]::M4::S) w) :
  Calls Tryz.prog 88 [vp pb0,Value.int .u8 c_1].toArray w λe w'=>∃ c6 c8 M9,(e=.returned .nilIface∧Ok u m0 ([(pb0,oc 124 [c6,c8])]::M9::S) w')∧BAd pb0 c6∧ORow 5 1 (pI .u8) m0 c8 r.2.buf M9:=by
 unfold qbP at hF
 refine en (qh3 u m0 S pb0 x0 c1 c3 M4) r Tryz.func88 rfl rfl rfl (by rintro a w ⟨c6,c8,M9,ok,hd,hrv,h0,h1⟩;exact qbf [.t 4 .nilIface] hd rfl hrv ⟨c6,c8,M9,⟨rfl,ok⟩,h0,h1⟩) λfin a E=>sg<|aw E rfl λa E=>sg<|mv E rfl λa E=>lc E qre rfl (qlh h2 ok) λw ok a E=>wn<|sg<|mz E rfl rfl λa E=>lw E (qan rfl) λa E=>fv E qkG rfl λa E=>ld E ok qqD 0 rfl rfl rfl λa E=>mv E rfl λa E=>qbF (R:=(pI .u8)) (xo:=[.tmp 12]) (xs:=([c_1]:List (Int))) E ok qpK qo7 rfl ⟨⟨_,rfl,rfl,(qdY rc_1)⟩,trivial⟩ rfl rfl rfl rfl λc11 M12 a w E ok h13=>?_
 refine bd hF λl14 e15 hF=>qcf (R:=(pI .u8)) E ok 2 (mI .u8) qpK Tryz.underlying122 rfl h5 (qbD.ofRow h13 0 rfl ok) e15 ⟨_,qo7,rfl⟩ rfl rfl rfl rfl λc16 M17 a w E ok h18=>lw E (qan rfl) λa E=>fv E qkG rfl λa E=>qai E ok 1 rfl rfl rfl qp9 (ORow.cells h18) rfl ⟨(ORow.one h18),trivial⟩ rfl rfl λw ok=>wn<|sg<|aw E rfl λa E=>wp_ret ?_
 exact fin hF ⟨(vp pb0),c16,M17,ok.drop,E.d,rz E rfl,(.inr rfl),h18⟩
def qnq(u:World)(m0:Mem)(S:Segs)(r:Bool)(a:Act)(w:World):Prop:=
 Ok u m0 S w∧a.defers=[]∧RVs Tryz.prog a w [.t 2 (.bool r)]
theorem qhl(N:Nat)(c_0:Int)(rc_0:InR .u8 c_0){r:Bool}(hF:qeP N c_0=some r)(hG:Glob u)(ok:Ok u m0 S w) :
  Calls Tryz.prog 96 [Value.int .u8 c_0].toArray w λe w'=>(e=.returned (.bool r)∧Ok u m0 S w'):=by
 unfold qeP at hF
 refine en (qnq u m0 S) r Tryz.func96 rfl rfl rfl (λ_ _ h=>ra h rfl) λfin a E=>sg<|aw E rfl λa E=>wp_seq<|sg<|mv E rfl λa E=>wn<|wp_block<|wp_seq<|sg<|lw E (qaz rfl rfl) λa E=>aw E rfl λa E=>bd hF λo1 hJ hF=>qaO (Q':=λe a w=>e=.normal∧Ok u m0 (S) w∧Env 11 a [(4,vb o1)]) ?_ ?_
 rotate_left
 ·intro e a w hO
  obtain⟨rfl,ok,E⟩:=hO
  refine qaa<|cf E rfl hF (λc7 hF=>?_) λc7 hF=>?_
  ·refine sg<|aw E rfl λa E=>wp_ret<|qaA<|qak ?_
   exact fin hF ⟨ok,E.d,rz E rfl⟩
  refine wp_skip<|qal<|qaa<|sg<|aw E rfl λa E=>wp_ret ?_
  exact fin hF ⟨ok,E.d,rz E rfl⟩
 have hF:=hJ
 refine cf E rfl hF (λc2 hF=>?_) λc2 hF=>?_
 ·refine wp_skip ?_
  cases hF
  exact⟨rfl,⟨ok,E.keep [4]⟩⟩
 refine sg<|lw E (qaz rfl rfl) λa E=>aw E rfl λa E=>cf E rfl hF (λc3 hF=>?_) λc3 hF=>?_
 ·refine wp_skip ?_
  cases hF
  exact⟨rfl,⟨ok,E.keep [4]⟩⟩
 refine sg<|lw E (qaz rfl rfl) λa E=>aw E rfl λa E=>cf E rfl hF (λc4 hF=>?_) λc4 hF=>?_
 ·refine wp_skip ?_
  cases hF
  exact⟨rfl,⟨ok,E.keep [4]⟩⟩
 refine sg<|lw E (qaz rfl rfl) λa E=>aw E rfl λa E=>cf E rfl hF (λc5 hF=>?_) λc5 hF=>?_
 ·refine wp_skip ?_
  cases hF
  exact⟨rfl,⟨ok,E.keep [4]⟩⟩
 refine sg<|lw E (qaz rfl rfl) λa E=>aw E rfl λa E=>cf E rfl hF (λc6 hF=>?_) λc6 hF=>?_
 ·refine wp_skip ?_
  cases hF
  exact⟨rfl,⟨ok,E.keep [4]⟩⟩
 refine qab<|lw E (qaz rfl rfl) λa E=>av E rfl λa E=>wpList_nil ?_
 cases hF
 exact⟨rfl,⟨ok,E.keep [4]⟩⟩
def qnJ(u:World)(m0:Mem)(S:Segs)(r:(List UInt8))(a:Act)(w:World):Prop:=
 Ok u m0 S w∧a.defers=[]∧RVs Tryz.prog a w [.t 2 (.string (bs r))]∧r.length≤LIMS
theorem qj9(N:Nat)(s_0:List UInt8)(ls_0:s_0.length≤LIMS){r:(List UInt8)}(hF:qfV N s_0=some r)(hG:Glob u)(ok:Ok u m0 S w) :
  Calls Tryz.prog 63 [vs s_0].toArray w λe w'=>(e=.returned (.string (bs r))∧Ok u m0 S w')∧r.length≤LIMS:=by
 unfold qfV at hF
 refine en (qnJ u m0 S) r Tryz.func63 rfl rfl rfl (λ_ _ h=>rb h rfl) λfin a E=>sg<|aw E rfl λa E=>sg<|qaL E ok qo6 rfl rfl λb1 a w E ok=>wn<|wp_seq<|sg<|mv E rfl λa E=>lw E (qbp Tryz.underlying9 rfl) λa E=>mv E rfl λa E=>wn<|wp_block ?_
 obtain⟨M9,ok,h10⟩:=qd9 (e:=5) (k:=1) (R:=(pI .u8)) ok
 refine bd hF λo11 hL hF=>qbb _ (λ(s:Int×Builder) a w=>∃ c13 c15 M16,Ok u m0 (M16::[(b1,oc 124 [c13,c15])]::S) w∧Env 21 a [(0,vs s_0),(3,vp b1),(6,(vi (s_0.length:Int))),(7,vi s.1)]∧InR .i64 s.1∧BAd b1 c13∧ORow 5 1 (pI .u8) m0 c15 s.2.buf M16) (λ(b:Builder) e a w=>e=(.exit 0)∧∃ c63 c65 M66,Ok u m0 (M66::[(b1,oc 124 [c63,c65])]::S) w∧Env 21 a [(3,vp b1)]∧BAd b1 c63∧ORow 5 1 (pI .u8) m0 c65 b.buf M66) ?_ ?_ N _ a w hL ⟨(Value.pointer none),(Value.slice none 0 0),M9,ok,E.keep [0,3,6,7],(ir 0),(.inl rfl),h10⟩
 rotate_left
 ·intro e a w _ hO
  obtain⟨rfl,c57,c59,M60,ok,E,h58,h61⟩:=hO
  refine qbh<|qaa<|sg ?_
  replace ok:Ok u m0 ([(b1,oc 124 [c57,c59])]::M60::S) w:=(ok.pk 2 [1,0] rfl (by decide))
  refine qae E qqU rfl (qnb Tryz.lays169 Tryz.Builder_Extra_169 h61 ok) rfl rfl ?_
  rintro _ w ⟨⟨rfl,ok⟩,l62⟩
  refine⟨_,rfl,λa E=>?_⟩
  refine aw E rfl λa E=>wp_ret ?_
  exact fin hF ⟨ok,E.d,rz E rfl,l62⟩
 rintro⟨v18,v19⟩ a w r ⟨c21,c23,M24,ok,E,r20,h22,h25⟩ hF
 replace hF:qeK N s_0 v18 v19=some r:=hF
 unfold qeK at hF
 refine sg<|lw E (qaP rfl rfl) λa E=>wn<|wp_seq<|cg E rfl hF (λc26 hF=>?_) λc26 hF=>?_
 ·refine wp_exit<|qaM ?_
  cases hF
  exact so (⟨rfl,⟨c21,c23,M24,ok,E.keep [3],h22,h25⟩⟩)
 refine wp_skip<|qaa<|wp_seq<|wp_block<|sg<|mv E rfl λa E=>av E rfl λa E=>wn<|wp_seq<|sg<|mz E rfl rfl λa E=>bd hF λc27 e28 hF=>lv E ok (qbU Tryz.underlying9 rfl rfl e28) λa E=>?_
 refine bd hF λr29 e30 hF=>lc E qqJ rfl (qhl N (c27.toNat:Int) (InR.byte c27) e30 hG ok) λw ok a E=>wn<|cg E rfl hF (λc31 hF=>?_) λc31 hF=>?_
 ·refine wp_skip<|qaa<|qab<|mz E rfl rfl λa E=>bd hF λc48 e49 hF=>lv E ok (qbU Tryz.underlying9 rfl rfl e49) λa E=>?_
  obtain⟨r50,e51,hF⟩:=bnd hF
  replace ok:Ok u m0 ([(b1,oc 124 [c21,c23])]::M24::S) w:=(ok.pk 2 [1,0] rfl (by decide))
  refine qae E qm5 rfl (qc0 N (c48.toNat:Int) (InR.byte c48) (Builder.mk () v19.buf) h22 h25 e51 hG ok) rfl rfl ?_
  rintro _ w ⟨c52,c54,M55,⟨rfl,ok⟩,h53,h56⟩
  refine⟨_,rfl,λa E=>?_⟩
  refine wpList_nil<|qal<|qaa<|qab<|lw E (qaH rfl rfl (InR.inc r20 (InR.len ls_0) c26)) λa E=>mv E rfl λa E=>wpList_nil ?_
  cases hF
  exact qau ⟨c52,c54,M55,(ok.pk 2 [1,0] rfl (by decide)),E.keep [0,3,6,7],(InR.inc r20 (InR.len ls_0) c26),h53,h56⟩
 refine qab ?_
 obtain⟨r32,e33,hF⟩:=bnd hF
 replace ok:Ok u m0 ([(b1,oc 124 [c21,c23])]::M24::S) w:=(ok.pk 2 [1,0] rfl (by decide))
 refine qae E qm5 rfl (qc0 N 92 (show InR .u8 (92) by decide) (Builder.mk () v19.buf) h22 h25 e33 hG ok) rfl rfl ?_
 rintro _ w ⟨c34,c36,M37,⟨rfl,ok⟩,h35,h38⟩
 refine⟨_,rfl,λa E=>?_⟩
 refine wn<|qab<|mz E rfl rfl λa E=>bd hF λc39 e40 hF=>lv E ok (qbU Tryz.underlying9 rfl rfl e40) λa E=>bd hF λr41 e42 hF=>qae E qm5 rfl (qc0 N (c39.toNat:Int) (InR.byte c39) (Builder.mk () r32.2.buf) h35 h38 e42 hG ok) rfl rfl ?_
 rintro _ w ⟨c43,c45,M46,⟨rfl,ok⟩,h44,h47⟩
 refine⟨_,rfl,λa E=>?_⟩
 refine wpList_nil<|qal<|qaa<|qab<|lw E (qaH rfl rfl (InR.inc r20 (InR.len ls_0) c26)) λa E=>mv E rfl λa E=>wpList_nil ?_
 cases hF
 exact qau ⟨c43,c45,M46,(ok.pk 2 [1,0] rfl (by decide)),E.keep [0,3,6,7],(InR.inc r20 (InR.len ls_0) c26),h44,h47⟩
def qbK:List MapEntry:=[⟨.string (bs [110,117,109,98,101,114]),.int .i64 3,0⟩,⟨.string (bs [117,110,105,116]),.int .i64 4,1⟩,⟨.string (bs [100,97,116,101]),.int .i64 5,2⟩,⟨.string (bs [108,105,115,116]),.int .i64 6,3⟩,⟨.string (bs [112,108,117,114,97,108]),.int .i64 7,4⟩,⟨.string (bs [111,114,100,105,110,97,108]),.int .i64 8,5⟩,⟨.string (bs [115,101,108,101,99,116]),.int .i64 9,6⟩]
theorem qkz{m:Mem}{b:Nat}:OMap kS (oneV (pI .i64)) m (.map (some b)) qgE [(b,Obj.map qbK.toArray 7)]:=
 ⟨b,qbK,7,rfl,rfl,⟨⟨rfl,by decide⟩,qdY (by decide),⟨rfl,by decide⟩,qdY (by decide),⟨rfl,by decide⟩,qdY (by decide),⟨rfl,by decide⟩,qdY (by decide),⟨rfl,by decide⟩,qdY (by decide),⟨rfl,by decide⟩,qdY (by decide),⟨rfl,by decide⟩,qdY (by decide),trivial⟩,by decide,by decide,by simp[Brn,qbK]⟩
def ust(k n:Int)(seen:Array Nat)(q:Int):Prop:=q=match uhit k with | some (b,l)=>bif seen.contains b then IntKind.wrap .i64 (n+IntKind.wrap .i64 ((2:Int)+(l:Int))) else n | none=>n
theorem qvE{k n:Int}:ust k n #[] n:=by
 unfold ust
 cases uhit k with
 | none=>rfl
 | some p=>obtain⟨b,l⟩:=p;simp
theorem qsw{k:Int}{b l:Nat}(h:uhit k=some (b,l)):∃ e∈qbK,e.born=b∧e.val=.int .i64 k∧∃ s,e.key=.string (bs s)∧s.length=l:=by
 unfold uhit at h
 split at h
 ·rename_i hk
  cases h
  exact⟨⟨.string (bs [110,117,109,98,101,114]),.int .i64 3,0⟩,by simp[qbK],rfl,by rw[hk],[110,117,109,98,101,114],rfl,rfl⟩
 split at h
 ·rename_i hk
  cases h
  exact⟨⟨.string (bs [117,110,105,116]),.int .i64 4,1⟩,by simp[qbK],rfl,by rw[hk],[117,110,105,116],rfl,rfl⟩
 split at h
 ·rename_i hk
  cases h
  exact⟨⟨.string (bs [100,97,116,101]),.int .i64 5,2⟩,by simp[qbK],rfl,by rw[hk],[100,97,116,101],rfl,rfl⟩
 split at h
 ·rename_i hk
  cases h
  exact⟨⟨.string (bs [108,105,115,116]),.int .i64 6,3⟩,by simp[qbK],rfl,by rw[hk],[108,105,115,116],rfl,rfl⟩
 split at h
 ·rename_i hk
  cases h
  exact⟨⟨.string (bs [112,108,117,114,97,108]),.int .i64 7,4⟩,by simp[qbK],rfl,by rw[hk],[112,108,117,114,97,108],rfl,rfl⟩
 split at h
 ·rename_i hk
  cases h
  exact⟨⟨.string (bs [111,114,100,105,110,97,108]),.int .i64 8,5⟩,by simp[qbK],rfl,by rw[hk],[111,114,100,105,110,97,108],rfl,rfl⟩
 split at h
 ·rename_i hk
  cases h
  exact⟨⟨.string (bs [115,101,108,101,99,116]),.int .i64 9,6⟩,by simp[qbK],rfl,by rw[hk],[115,101,108,101,99,116],rfl,rfl⟩
 cases h
theorem qup{k n q:Int}{seen:Array Nat}(h:ust k n seen q)(hall:∀ e∈qbK,seen.contains e.born=true):q=qgs k n:=by
 unfold ust at h
 unfold qgs
 cases hk:uhit k with
 | none=>rw[hk] at h;exact h
 | some p=>
  obtain⟨b,l⟩:=p
  rw[hk] at h
  obtain⟨e,he,hb,_⟩:=qsw hk
  have:=hall e he
  rw[hb] at this
  simp only[this,cond_true] at h
  exact h
theorem qp0:(qbK.map (·.born)).Nodup:=by decide
theorem qsN{e:MapEntry}(he:e∈qbK):∃ s v,e.key=.string (bs s)∧e.val=.int .i64 v∧s.length≤LIMS∧InR .i64 v∧uhit v=some (e.born,s.length)∧∀ k l,uhit k=some (e.born,l)→k=v:=by
 simp only[qbK,List.mem_cons,List.not_mem_nil,or_false] at he
 rcases he with rfl | rfl | rfl | rfl | rfl | rfl | rfl
 ·refine⟨[110,117,109,98,101,114],3,rfl,rfl,by decide,by decide,by decide,λk l h=>?_⟩
  unfold uhit at h
  repeat (split at h;· rename_i hk;first | exact hk | (simp at h))
  cases h
 ·refine⟨[117,110,105,116],4,rfl,rfl,by decide,by decide,by decide,λk l h=>?_⟩
  unfold uhit at h
  repeat (split at h;· rename_i hk;first | exact hk | (simp at h))
  cases h
 ·refine⟨[100,97,116,101],5,rfl,rfl,by decide,by decide,by decide,λk l h=>?_⟩
  unfold uhit at h
  repeat (split at h;· rename_i hk;first | exact hk | (simp at h))
  cases h
 ·refine⟨[108,105,115,116],6,rfl,rfl,by decide,by decide,by decide,λk l h=>?_⟩
  unfold uhit at h
  repeat (split at h;· rename_i hk;first | exact hk | (simp at h))
  cases h
 ·refine⟨[112,108,117,114,97,108],7,rfl,rfl,by decide,by decide,by decide,λk l h=>?_⟩
  unfold uhit at h
  repeat (split at h;· rename_i hk;first | exact hk | (simp at h))
  cases h
 ·refine⟨[111,114,100,105,110,97,108],8,rfl,rfl,by decide,by decide,by decide,λk l h=>?_⟩
  unfold uhit at h
  repeat (split at h;· rename_i hk;first | exact hk | (simp at h))
  cases h
 ·refine⟨[115,101,108,101,99,116],9,rfl,rfl,by decide,by decide,by decide,λk l h=>?_⟩
  unfold uhit at h
  repeat (split at h;· rename_i hk;first | exact hk | (simp at h))
  cases h
theorem qus{k n q v:Int}{seen:Array Nat}{e:MapEntry}{s:List UInt8}(h:ust k n seen q)(hne:seen.contains e.born=false)(hu:uhit v=some (e.born,s.length))(hk:v=k):ust k n (seen.push e.born) (IntKind.wrap .i64 (q+IntKind.wrap .i64 ((2:Int)+(s.length:Int)))):=by
 subst hk
 unfold ust at h ⊢
 rw[hu] at h ⊢
 simp only[hne,cond_false] at h
 subst h
 simp
theorem qsF{k n q v:Int}{seen:Array Nat}{e:MapEntry}(h:ust k n seen q)(hu:∀ k l,uhit k=some (e.born,l)→k=v)(hk:v≠k):ust k n (seen.push e.born) q:=by
 unfold ust at h ⊢
 cases hh:uhit k with
 | none=>rw[hh] at h;exact h
 | some p=>
  obtain⟨b,l⟩:=p
  rw[hh] at h
  have hb:b≠e.born:=λe0=>hk (hu k l (by rw[hh,e0])).symm
  simp only[Array.contains_push]
  rw[show(b==e.born)=false by simpa using hb,Bool.or_false]
  exact h
theorem qqS{k n:Int}(h:InR .i64 n):InR .i64 (qgs k n):=by
 unfold qgs
 cases uhit k with
 | none=>exact h
 | some p=>exact InR.wrap _ _
theorem qk6(ok:Ok u m0 S w):Calls Tryz.prog 64 [].toArray w λe w'=>∃ b,e=.returned (.map (some b))∧Ok u m0 ([(b,Obj.map qbK.toArray 7)]::S) w':=by
 refine enter Tryz.func64 rfl rfl rfl λa E=>sg<|aw E rfl λa E=>sg<|qqV E ok rfl rfl λb a w E ok=>qk2 (KR:=kS) (R:=λ_ _ (_:Unit)=>True) (k:=[110,117,109,98,101,114]) (x:=()) (l0:=[]) E ok 0 (qbe Tryz.underlying9) Tryz.underlying75 rfl trivial (by decide) rfl rfl rfl ⟨rfl,by decide⟩ (by decide) rfl λw ok=>qk2 (KR:=kS) (R:=λ_ _ (_:Unit)=>True) (k:=[117,110,105,116]) (x:=()) (l0:=[([110,117,109,98,101,114],())]) E ok 0 (qbe Tryz.underlying9) Tryz.underlying75 rfl ⟨⟨rfl,by decide⟩,trivial,trivial⟩ (by decide) rfl rfl rfl ⟨rfl,by decide⟩ (by decide) rfl λw ok=>qk2 (KR:=kS) (R:=λ_ _ (_:Unit)=>True) (k:=[100,97,116,101]) (x:=()) (l0:=[([110,117,109,98,101,114],()),([117,110,105,116],())]) E ok 0 (qbe Tryz.underlying9) Tryz.underlying75 rfl ⟨⟨rfl,by decide⟩,trivial,⟨rfl,by decide⟩,trivial,trivial⟩ (by decide) rfl rfl rfl ⟨rfl,by decide⟩ (by decide) rfl λw ok=>qk2 (KR:=kS) (R:=λ_ _ (_:Unit)=>True) (k:=[108,105,115,116]) (x:=()) (l0:=[([110,117,109,98,101,114],()),([117,110,105,116],()),([100,97,116,101],())]) E ok 0 (qbe Tryz.underlying9) Tryz.underlying75 rfl ⟨⟨rfl,by decide⟩,trivial,⟨rfl,by decide⟩,trivial,⟨rfl,by decide⟩,trivial,trivial⟩ (by decide) rfl rfl rfl ⟨rfl,by decide⟩ (by decide) rfl λw ok=>qk2 (KR:=kS) (R:=λ_ _ (_:Unit)=>True) (k:=[112,108,117,114,97,108]) (x:=()) (l0:=[([110,117,109,98,101,114],()),([117,110,105,116],()),([100,97,116,101],()),([108,105,115,116],())]) E ok 0 (qbe Tryz.underlying9) Tryz.underlying75 rfl ⟨⟨rfl,by decide⟩,trivial,⟨rfl,by decide⟩,trivial,⟨rfl,by decide⟩,trivial,⟨rfl,by decide⟩,trivial,trivial⟩ (by decide) rfl rfl rfl ⟨rfl,by decide⟩ (by decide) rfl λw ok=>qk2 (KR:=kS) (R:=λ_ _ (_:Unit)=>True) (k:=[111,114,100,105,110,97,108]) (x:=()) (l0:=[([110,117,109,98,101,114],()),([117,110,105,116],()),([100,97,116,101],()),([108,105,115,116],()),([112,108,117,114,97,108],())]) E ok 0 (qbe Tryz.underlying9) Tryz.underlying75 rfl ⟨⟨rfl,by decide⟩,trivial,⟨rfl,by decide⟩,trivial,⟨rfl,by decide⟩,trivial,⟨rfl,by decide⟩,trivial,⟨rfl,by decide⟩,trivial,trivial⟩ (by decide) rfl rfl rfl ⟨rfl,by decide⟩ (by decide) rfl λw ok=>qk2 (KR:=kS) (R:=λ_ _ (_:Unit)=>True) (k:=[115,101,108,101,99,116]) (x:=()) (l0:=[([110,117,109,98,101,114],()),([117,110,105,116],()),([100,97,116,101],()),([108,105,115,116],()),([112,108,117,114,97,108],()),([111,114,100,105,110,97,108],())]) E ok 0 (qbe Tryz.underlying9) Tryz.underlying75 rfl ⟨⟨rfl,by decide⟩,trivial,⟨rfl,by decide⟩,trivial,⟨rfl,by decide⟩,trivial,⟨rfl,by decide⟩,trivial,⟨rfl,by decide⟩,trivial,⟨rfl,by decide⟩,trivial,trivial⟩ (by decide) rfl rfl rfl ⟨rfl,by decide⟩ (by decide) rfl λw ok=>mv E rfl λa E=>aw E rfl λa E=>wp_ret ?_
 exact qbf [.t 0 (.map (some b))] E.d rfl (rz E rfl) ⟨b,rfl,ok⟩
def qlI(u:World)(m0:Mem)(S:Segs)(r:Bool)(a:Act)(w:World):Prop:=
 Ok u m0 S w∧a.defers=[]∧RVs Tryz.prog a w [.t 2 (.bool r)]
theorem qcI(N:Nat)(kind_0:Int)(rkind_0:InR .i64 kind_0){r:Bool}(hF:qbS N kind_0=some r)(hG:Glob u)(ok:Ok u m0 S w) :
  Calls Tryz.prog 65 [vi kind_0].toArray w λe w'=>(e=.returned (.bool r)∧Ok u m0 S w'):=by
 unfold qbS at hF
 refine en (qlI u m0 S) r Tryz.func65 rfl rfl rfl (λ_ _ h=>ra h rfl) λfin a E=>sg<|aw E rfl λa E=>sg<|mv E rfl λa E=>lw E (qbL rfl rfl) λa E=>mv E rfl λa E=>bu E 5 hF (λc1 hF E=>?_) λc1 hF E=>?_
 ·refine mv E rfl λa E=>lw E (qc8 rfl rfl) λa E=>pt E rfl rfl λa E=>aw E rfl λa E=>wp_ret ?_
  exact fin hF ⟨ok,E.d,rz E rfl⟩
 refine lsq E λa E=>pf E rfl rfl λa E=>aw E rfl λa E=>wp_ret ?_
 exact fin hF ⟨ok,E.d,rz E rfl⟩
def qmZ(u:World)(m0:Mem)(S:Segs)(r:Int)(a:Act)(w:World):Prop:=
 Ok u m0 S w∧a.defers=[]∧RVs Tryz.prog a w [.t 2 (.int .i64 r)]∧InR .i64 r
def qgn(N:Nat):Prop:=∀ {u:World} {m0:Mem} {S:Segs} {w:World} (vparts_0:Value) (parts_0:List (Part)) (hparts_0:(pL 6 qaS) m0 [vparts_0] parts_0) {r:Int} (hF:qde N parts_0=some r) (hG:Glob u) (ok:Ok u m0 S w),Calls Tryz.prog 39 [vparts_0].toArray w λe w'=>(e=.returned (.int .i64 r)∧Ok u m0 S w')∧InR .i64 r
theorem qlz(N:Nat)(ih_syntax_length:qgn N):qgn (N+1):=by
 intro u m0 S w vparts_0 parts_0 hparts_0 r hF hG ok
 have hF0:qeC (qde N) N parts_0=some r:=hF
 have hF:=hF0
 clear hF0
 unfold qeC at hF
 refine en (qmZ u m0 S) r Tryz.func39 rfl rfl rfl (λ_ _ h=>rb h rfl) λfin a E=>sg<|aw E rfl λa E=>sg<|aw E rfl λa E=>wp_seq<|sg<|mv E rfl λa E=>lv E ok (qa8 qbG hparts_0 rfl) λa E=>mv E rfl λa E=>wn<|wp_block<|bd hF λo3 hL hF=>qbb _ (λ(s:Int×Int) a w=>Ok u m0 (S) w∧Env 108 a [(3,vi s.1),(10,vparts_0),(11,(vi (parts_0.length:Int))),(12,vi s.2)]∧InR .i64 s.1∧InR .i64 s.2) (λ(b:Int) e a w=>e=(.exit 0)∧Ok u m0 (S) w∧Env 108 a [(3,vi b)]∧InR .i64 b) ?_ ?_ N _ a w hL ⟨ok,E.keep [3,10,11,12],(ir 0),(ir 0)⟩
 rotate_left
 ·intro e a w _ hO
  obtain⟨rfl,ok,E,r79⟩:=hO
  refine qbh<|qaa<|sg<|mv E rfl λa E=>aw E rfl λa E=>wp_ret ?_
  exact fin hF ⟨ok,E.d,rz E rfl,r79⟩
 rintro⟨v6,v7⟩ a w r ⟨ok,E,r8,r9⟩ hF
 replace hF:qer (qde N) N parts_0 v6 v7=some r:=hF
 unfold qer at hF
 refine sg<|lw E (qaP rfl rfl) λa E=>wn<|wp_seq<|cg E rfl hF (λc10 hF=>?_) λc10 hF=>?_
 ·refine wp_exit<|qaM ?_
  cases hF
  exact so (⟨rfl,⟨ok,E.keep [3],r8⟩⟩)
 refine wp_skip<|qaa<|wp_seq<|wp_block<|sg ?_
 obtain⟨x11,e12,hF⟩:=bnd hF
 obtain⟨b13,o14,es15,hl16,rr17,at18,yy19⟩:=ia E 10 12 qbG hparts_0 e12
 obtain⟨c24,c26,rfl,r20,l21,l22,l23,h25,h27⟩:=(qbd.1 rr17)
 refine lv E ok (yy19 _ _) λa E=>lv E ok (qao (cs:=[vi x11.Kind,vs x11.Text,vs x11.Name,vs x11.Style,c24,c26]) qct rfl rfl (Holds.ro at18)) λa E=>qaL E ok qbw rfl rfl λb28 a w E ok=>qai E ok 0 rfl rfl rfl qel rfl rfl ⟨rfl,rfl,rfl,rfl,(qbT h25),(qbT h27),trivial⟩ rfl rfl λw ok=>wn<|sg<|fk E ok qbm qaN rfl 0 rfl rfl λa E=>wn<|wp_block<|sg<|lw E (qaz rfl rfl) λa E=>aw E rfl λa E=>cf E rfl hF (λc29 hF=>?_) λc29 hF=>?_
 ·refine qab<|mv E rfl λa E=>fk E ok qfY qax rfl 0 rfl rfl λa E=>bd hF λr30 e31 hF=>qae E qtA rfl (qj9 N x11.Text l21 e31 hG ok) rfl rfl ?_
  rintro _ w ⟨⟨rfl,ok⟩,l32⟩
  refine⟨_,rfl,λa E=>?_⟩
  refine lw E (qbp Tryz.underlying9 rfl) λa E=>lw E (qbk rfl rfl) λa E=>av E rfl λa E=>wpList_nil<|qal<|qal<|qaa<|qab<|lw E (qaH rfl rfl (InR.inc r9 (qas hparts_0) c10)) λa E=>mv E rfl λa E=>wpList_nil ?_
  cases hF
  exact qau ⟨(ok.pk 1 [] rfl (by decide)),E.keep [3,10,11,12],(InR.wrap _ _),(InR.inc r9 (qas hparts_0) c10)⟩
 refine sg<|lw E (qaz rfl rfl) λa E=>aw E rfl λa E=>cf E rfl hF (λc33 hF=>?_) λc33 hF=>?_
 ·refine qab<|mv E rfl λa E=>lw E (qbk rfl rfl) λa E=>av E rfl λa E=>wpList_nil<|qal<|qal<|qaa<|qab<|lw E (qaH rfl rfl (InR.inc r9 (qas hparts_0) c10)) λa E=>mv E rfl λa E=>wpList_nil ?_
  cases hF
  exact qau ⟨(ok.pk 1 [] rfl (by decide)),E.keep [3,10,11,12],(InR.wrap _ _),(InR.inc r9 (qas hparts_0) c10)⟩
 refine sg<|lw E (qaz rfl rfl) λa E=>aw E rfl λa E=>cf E rfl hF (λc34 hF=>?_) λc34 hF=>?_
 ·refine sg<|mv E rfl λa E=>fk E ok qbC qax rfl 0 rfl rfl λa E=>lw E (qbp Tryz.underlying9 rfl) λa E=>lw E (qbk rfl rfl) λa E=>lw E (qbk rfl rfl) λa E=>aw E rfl λa E=>sg<|fk E ok qc1 qcr rfl 0 rfl rfl λa E=>lv E ok (qa8 qbG h27 rfl) λa E=>lw E (qcv rfl rfl) λa E=>wn<|cg E rfl hF (λc35 hF=>?_) λc35 hF=>?_
  ·refine wp_skip<|qal<|qal<|qaa<|qab<|lw E (qaH rfl rfl (InR.inc r9 (qas hparts_0) c10)) λa E=>mv E rfl λa E=>wpList_nil ?_
   cases hF
   exact qau ⟨(ok.pk 1 [] rfl (by decide)),E.keep [3,10,11,12],(InR.wrap _ _),(InR.inc r9 (qas hparts_0) c10)⟩
  refine qdO (by kernel_rfl) (by kernel_rfl) ok<|qv E (qad rfl) λa E=>qv E (qaj qbC rfl) λa E=>qv E (qaw qax rfl (Holds.own 0 rfl rfl)) λa E=>qv E (qbp Tryz.underlying9 rfl) λa E=>qv E (qbk rfl rfl) λa E=>qv E (qaj qc1 rfl) λa E=>qv E (qaw qcr rfl (Holds.own 0 rfl rfl)) λa E=>?_
  obtain⟨r36,e37,hF⟩:=bnd hF
  obtain⟨_,_,⟨_,_⟩,r38⟩:=Go.X.Calls.get (ih_syntax_length _ x11.Parts h27 e37 hG ok)
  refine qr7 E qoS rfl (λw ok=>(ih_syntax_length _ x11.Parts h27 e37 hG ok).mono (λ_ _ h=>h.1)) rfl rfl λa E=>qv E (qbk rfl rfl) λa E=>qv E (qbk rfl rfl) λa E=>qv E (qa3 rfl) λa E=>wpQuiet_nil ?_
  intro w ok
  refine qal<|qal<|qaa<|qab<|lw E (qaH rfl rfl (InR.inc r9 (qas hparts_0) c10)) λa E=>mv E rfl λa E=>wpList_nil ?_
  cases hF
  exact qau ⟨(ok.pk 1 [] rfl (by decide)),E.keep [3,10,11,12],(InR.wrap _ _),(InR.inc r9 (qas hparts_0) c10)⟩
 refine sg<|mv E rfl λa E=>fk E ok qbC qax rfl 0 rfl rfl λa E=>lw E (qbp Tryz.underlying9 rfl) λa E=>lw E (qbk rfl rfl) λa E=>lw E (qbk rfl rfl) λa E=>aw E rfl λa E=>wp_seq<|sg<|qae E qtB rfl (qk6 ok) rfl rfl ?_
 rintro _ w ⟨b39,rfl,ok⟩
 refine⟨_,rfl,λa E=>?_⟩
 refine qtk (clock:=7) (es:=qbK) E ok 0 rfl Tryz.underlying75 rfl rfl rfl λb40 a w E ok=>wn<|qaO (Q':=λe a w=>e=.normal∧Ok u m0 ([(b28,oc 90 [vi x11.Kind,vs x11.Text,vs x11.Name,vs x11.Style,c24,c26])]::S) w∧Env 108 a [(5,vp b28),(10,vparts_0),(11,(vi (parts_0.length:Int))),(12,vi v7),(3,(vi (qgs x11.Kind (IntKind.wrap .i64 (v6+(IntKind.wrap .i64 ((2:Int)+(x11.Name.length:Int))))))))]) ?_ ?_
 ·refine wp_block<|qqw (λkk a w=>∃ (seen:Array Nat) (q:Int),kk=(qbK.filter λe=>!seen.contains e.born).length∧ust x11.Kind (IntKind.wrap .i64 (v6+(IntKind.wrap .i64 ((2:Int)+(x11.Name.length:Int))))) seen q∧Ok u m0 ([(b40,Obj.mapIter (some b39) 7 seen 7)]::[(b39,Obj.map qbK.toArray 7)]::[(b28,oc 90 [vi x11.Kind,vs x11.Text,vs x11.Name,vs x11.Style,c24,c26])]::S) w∧Env 108 a [(25,vp b40),(5,vp b28),(10,vparts_0),(11,(vi (parts_0.length:Int))),(12,vi v7),(3,vi q)]) ?_ _ a w ⟨#[],_,rfl,qvE,ok,E.keep [25,5,10,11,12,3]⟩
  rintro kk a w ⟨seen,q,rfl,hu,ok,E⟩
  refine sg<|qtU (es:=qbK) E ok 0 rfl (by decide) rfl rfl rfl (λhall a E=>?_) (λe he hne a w E ok=>?_)
  ·refine lw E (qag rfl rfl) λa E=>wn<|wp_seq<|c_if E rfl (λhc=>by cases hc) (λ_=>?_)
   refine wp_exit<|qaM ?_
   obtain rfl:=qup hu hall
   exact .inr ⟨by nofun,qbh ⟨rfl,ok.drop.drop,E.keep [5,10,11,12,3]⟩⟩
  refine lw E (qag rfl rfl) λa E=>wn<|wp_seq<|c_if E rfl (λ_=>?_) (λhc=>by cases hc)
  refine wp_skip<|qaa<|wp_block<|sg ?_
  obtain⟨s_,v_,hk_,hv_,hl_,hr_,hu1,hu2⟩:=qsN he
  have hy:=λty=>qs1 (P:=Tryz.prog) (u:=u) (m:=m0) (ty:=ty) (S:=[(b40,Obj.mapIter (some b39) 7 (seen.push e.born) 7)]::[(b39,Obj.map qbK.toArray 7)]::[(b28,oc 90 [vi x11.Kind,vs x11.Text,vs x11.Name,vs x11.Style,c24,c26])]::S) (es:=qbK) (x:=.tmp 25) 1 0 rfl rfl he qp0 (qaD E rfl) hk_ hv_
  refine lv E ok (hy _) λa E=>lw E (qag rfl rfl) λa E=>lw E (qag rfl rfl) λa E=>av E rfl λa E=>aw E rfl λa E=>sg<|mv E rfl λa E=>fk E ok qbm qaN rfl 2 rfl rfl λa E=>lw E (qaz rfl rfl) λa E=>wn<|c_if E rfl (λhc=>?_) (λhc=>?_)
  ·refine qab<|mz E rfl rfl λa E=>lw E (qbp Tryz.underlying9 rfl) λa E=>lw E (qbk rfl rfl) λa E=>lw E (qbk rfl rfl) λa E=>av E rfl λa E=>wpList_nil<|qal ?_
   exact .inl ⟨rfl,_,qqf he hne,seen.push e.born,_,rfl,qus hu hne hu1 (by simpa using hc),ok,E.keep [25,5,10,11,12,3]⟩
  refine wp_skip<|qal ?_
  exact .inl ⟨rfl,_,qqf he hne,seen.push e.born,_,rfl,qsF hu hu2 (by simpa using hc),ok,E.keep [25,5,10,11,12,3]⟩
 rintro e a w ⟨rfl,ok,E⟩
 refine qaa<|wp_seq<|sg<|fk E ok qcn qax rfl 0 rfl rfl λa E=>lw E (qeU rfl rfl) λa E=>wn<|bd hF λo41 hJ hF=>qaO (Q':=λe a w=>e=.normal∧Ok u m0 ([(b28,oc 90 [vi x11.Kind,vs x11.Text,vs x11.Name,vs x11.Style,c24,c26])]::S) w∧Env 108 a [(3,vi o41),(5,vp b28),(10,vparts_0),(11,(vi (parts_0.length:Int))),(12,vi v7)]∧InR .i64 o41) ?_ ?_
 ·have hF:=hJ
  refine cg E rfl hF (λc43 hF=>?_) λc43 hF=>?_
  ·refine wp_skip ?_
   cases hF
   exact⟨rfl,⟨ok,E.keep [3,5,10,11,12],(qqS (InR.wrap _ _))⟩⟩
  refine qab<|mv E rfl λa E=>fk E ok qcn qax rfl 0 rfl rfl λa E=>lw E (qbp Tryz.underlying9 rfl) λa E=>lw E (qbk rfl rfl) λa E=>lw E (qbk rfl rfl) λa E=>av E rfl λa E=>wpList_nil ?_
  cases hF
  exact⟨rfl,⟨ok,E.keep [3,5,10,11,12],(InR.wrap _ _)⟩⟩
 intro e a w hO
 obtain⟨rfl,ok,E,r44⟩:=hO
 refine qaa<|wp_seq<|sg<|fk E ok qbm qaN rfl 0 rfl rfl λa E=>bd hF λr45 e46 hF=>lc E qir rfl (qcI N x11.Kind r20 e46 hG ok) λw ok a E=>wn<|bd hF λo47 hJ hF=>qaO (Q':=λe a w=>e=.normal∧Ok u m0 ([(b28,oc 90 [vi x11.Kind,vs x11.Text,vs x11.Name,vs x11.Style,c24,c26])]::S) w∧Env 108 a [(3,vi o47),(5,vp b28),(10,vparts_0),(11,(vi (parts_0.length:Int))),(12,vi v7)]∧InR .i64 o47) ?_ ?_
 ·have hF:=hJ
  refine cg E rfl hF (λc49 hF=>?_) λc49 hF=>?_
  ·refine wp_skip ?_
   cases hF
   exact⟨rfl,⟨ok,E.keep [3,5,10,11,12],r44⟩⟩
  refine qab<|mv E rfl λa E=>lw E (qbk rfl rfl) λa E=>av E rfl λa E=>wpList_nil ?_
  cases hF
  exact⟨rfl,⟨ok,E.keep [3,5,10,11,12],(InR.wrap _ _)⟩⟩
 intro e a w hO
 obtain⟨rfl,ok,E,r50⟩:=hO
 refine qaa<|sg<|fk E ok qdN qfx rfl 0 rfl rfl λa E=>lv E ok (qa8 qch h25 rfl) λa E=>mv E rfl λa E=>wn<|wp_block<|bd hF λo53 hL hF=>qbb _ (λ(s:Int×Int) a w=>Ok u m0 ([(b28,oc 90 [vi x11.Kind,vs x11.Text,vs x11.Name,vs x11.Style,c24,c26])]::S) w∧Env 108 a [(3,vi s.1),(10,vparts_0),(11,(vi (parts_0.length:Int))),(12,vi v7),(55,c24),(56,(vi (x11.Cases.length:Int))),(57,vi s.2)]∧InR .i64 s.1∧InR .i64 s.2) (λ(b:Int) e a w=>e=(.exit 5)∧Ok u m0 ([(b28,oc 90 [vi x11.Kind,vs x11.Text,vs x11.Name,vs x11.Style,c24,c26])]::S) w∧Env 108 a [(3,vi b),(10,vparts_0),(11,(vi (parts_0.length:Int))),(12,vi v7)]∧InR .i64 b) ?_ ?_ N _ a w hL ⟨ok,E.keep [3,10,11,12,55,56,57],r50,(ir 0)⟩
 rotate_left
 ·intro e a w _ hO
  obtain⟨rfl,ok,E,r77⟩:=hO
  refine qbh<|qal<|qal<|qaa<|qab<|lw E (qaH rfl rfl (InR.inc r9 (qas hparts_0) c10)) λa E=>mv E rfl λa E=>wpList_nil ?_
  cases hF
  exact qau ⟨(ok.pk 1 [] rfl (by decide)),E.keep [3,10,11,12],r77,(InR.inc r9 (qas hparts_0) c10)⟩
 rintro⟨v56,v57⟩ a w r ⟨ok,E,r58,r59⟩ hF
 replace hF:qeq (qde N) N x11 v56 v57=some r:=hF
 unfold qeq at hF
 refine sg<|lw E (qaP rfl rfl) λa E=>wn<|wp_seq<|cg E rfl hF (λc60 hF=>?_) λc60 hF=>?_
 ·refine wp_exit<|qaM ?_
  cases hF
  exact so (⟨rfl,⟨ok,E.keep [3,10,11,12],r58⟩⟩)
 refine wp_skip<|qaa<|wp_seq<|wp_block<|sg ?_
 obtain⟨x61,e62,hF⟩:=bnd hF
 obtain⟨b63,o64,es65,hl66,rr67,at68,yy69⟩:=ia E 55 57 qch h25 e62
 obtain⟨c71,rfl,l70,h72⟩:=rr67
 refine lv E ok (yy69 _ _) λa E=>lv E ok (qao (cs:=[vs x61.Key,c71]) qfE rfl rfl (Holds.ro at68)) λa E=>qaL E ok qb0 rfl rfl λb73 a w E ok=>qai E ok 0 rfl rfl rfl qgc rfl rfl ⟨rfl,(qbT h72),trivial⟩ rfl rfl λw ok=>wn<|qdO (by kernel_rfl) (by kernel_rfl) ok<|qv E (qad rfl) λa E=>qv E (qaj qgi rfl) λa E=>qv E (qaw qax rfl (Holds.own 0 rfl rfl)) λa E=>qv E (qbp Tryz.underlying9 rfl) λa E=>qv E (qbk rfl rfl) λa E=>qv E (qaj qeL rfl) λa E=>qv E (qaw qcr rfl (Holds.own 0 rfl rfl)) λa E=>?_
 obtain⟨r74,e75,hF⟩:=bnd hF
 obtain⟨_,_,⟨_,_⟩,r76⟩:=Go.X.Calls.get (ih_syntax_length _ x61.Parts h72 e75 hG ok)
 refine qr7 E qoS rfl (λw ok=>(ih_syntax_length _ x61.Parts h72 e75 hG ok).mono (λ_ _ h=>h.1)) rfl rfl λa E=>qv E (qbk rfl rfl) λa E=>qv E (qbk rfl rfl) λa E=>qv E (qa3 rfl) λa E=>wpQuiet_nil ?_
 intro w ok
 refine qal<|qaa<|qab<|lw E (qaH rfl rfl (InR.inc r59 (qas h25) c60)) λa E=>mv E rfl λa E=>wpList_nil ?_
 cases hF
 exact qau ⟨(ok.pk 2 [1] rfl (by decide)),E.keep [3,10,11,12,55,56,57],(InR.wrap _ _),(InR.inc r59 (qas h25) c60)⟩
theorem qlO:qgn 0:=by
 intro u m0 S w vparts_0 parts_0 hparts_0 r hF hG ok
 replace hF:none=some r:=hF
 cases hF
theorem qkp(N:Nat):qgn N:=by
 induction N with
 | zero=>exact qlO
 | succ N h=>exact qlz N h
theorem qjH{u:World}{m0:Mem}{S:Segs}{w:World}(N:Nat)(vparts_0:Value)(parts_0:List (Part))(hparts_0:(pL 6 qaS) m0 [vparts_0] parts_0){r:Int}(hF:qde N parts_0=some r)(hG:Glob u)(ok:Ok u m0 S w) :
 Calls Tryz.prog 39 [vparts_0].toArray w λe w'=>(e=.returned (.int .i64 r)∧Ok u m0 S w')∧InR .i64 r:=(qkp N) vparts_0 parts_0 hparts_0 hF hG ok
def qij(u:World)(m0:Mem)(S:Segs)(r:Bool)(a:Act)(w:World):Prop:=
 Ok u m0 S w∧a.defers=[]∧RVs Tryz.prog a w [.t 2 (.bool r)]
theorem qio(N:Nat)(s_0:List UInt8)(ls_0:s_0.length≤LIMS){r:Bool}(hF:qeJ N s_0=some r)(hG:Glob u)(ok:Ok u m0 S w) :
  Calls Tryz.prog 94 [vs s_0].toArray w λe w'=>(e=.returned (.bool r)∧Ok u m0 S w'):=by
 unfold qeJ at hF
 refine en (qij u m0 S) r Tryz.func94 rfl rfl rfl (λ_ _ h=>ra h rfl) λfin a E=>sg<|aw E rfl λa E=>wp_seq<|sg<|mv E rfl λa E=>lw E (qbp Tryz.underlying9 rfl) λa E=>mv E rfl λa E=>wn<|wp_block<|bd hF λo2 hL hF=>qbb _ (λ(s:Int) a w=>Ok u m0 (S) w∧Env 35 a [(0,vs s_0),(6,(vi (s_0.length:Int))),(7,vi s)]∧InR .i64 s) (λ(b:(Unit⊕Bool)) e a w=>(Sum.elim (λb16=>e=(.exit 0)∧Ok u m0 (S) w∧Env 35 a [(0,vs s_0)]) (λb17=>e=.ret∧qij u m0 S b17 a w)) b) ?_ ?_ N _ a w hL ⟨ok,E.keep [0,6,7],(ir 0)⟩
 rotate_left
 ·intro e a w _ hO
  rcases o2 with o2 | o2
  rotate_left
  ·obtain⟨rfl,hret⟩:=hO
   refine qaA<|qak ?_
   exact fin hF hret
  have hF:=qdI hF
  obtain⟨rfl,ok,E⟩:=hO
  refine qbh<|qaa<|sg<|mv E rfl λa E=>lw E (qeU rfl rfl) λa E=>mv E rfl λa E=>bu E 30 hF (λc15 hF E=>?_) λc15 hF E=>?_
  ·refine mv E rfl λa E=>lw E (qbp Tryz.underlying9 rfl) λa E=>lw E (qc8 rfl rfl) λa E=>pt E rfl rfl λa E=>aw E rfl λa E=>wp_ret ?_
   exact fin hF ⟨ok,E.d,rz E rfl⟩
  refine lsq E λa E=>ls E λa E=>pf E rfl rfl λa E=>aw E rfl λa E=>wp_ret ?_
  exact fin hF ⟨ok,E.d,rz E rfl⟩
 rintro v4 a w r ⟨ok,E,r5⟩ hF
 replace hF:qeA N s_0 v4=some r:=hF
 unfold qeA at hF
 refine sg<|lw E (qaP rfl rfl) λa E=>wn<|wp_seq<|cg E rfl hF (λc6 hF=>?_) λc6 hF=>?_
 ·refine wp_exit<|qaM ?_
  cases hF
  exact so (sl ⟨rfl,⟨ok,E.keep [0]⟩⟩)
 refine wp_skip<|qaa<|wp_seq<|wp_block<|sg<|mv E rfl λa E=>av E rfl λa E=>wn<|sg<|mz E rfl rfl λa E=>bd hF λc7 e8 hF=>lv E ok (qbU Tryz.underlying9 rfl rfl e8) λa E=>aw E rfl λa E=>wp_seq<|bd hF λo9 hJ hF=>qaO (Q':=λe a w=>e=.normal∧Ok u m0 (S) w∧Env 35 a [(0,vs s_0),(6,(vi (s_0.length:Int))),(7,vi v4),(26,vb o9)]) ?_ ?_
 rotate_left
 ·intro e a w hO
  obtain⟨rfl,ok,E⟩:=hO
  refine qaa<|cg E rfl hF (λc14 hF=>?_) λc14 hF=>?_
  ·refine wp_skip<|qal<|qaa<|qab<|lw E (qaH rfl rfl (InR.inc r5 (InR.len ls_0) c6)) λa E=>mv E rfl λa E=>wpList_nil ?_
   cases hF
   exact qau ⟨ok,E.keep [0,6,7],(InR.inc r5 (InR.len ls_0) c6)⟩
  refine sg<|aw E rfl λa E=>wp_ret<|qaA<|qak ?_
  cases hF
  exact so (sr ⟨rfl,⟨ok,E.d,rz E rfl⟩⟩)
 have hF:=hJ
 refine qab<|mv E rfl λa E=>lw E (qaP rfl rfl) λa E=>mv E rfl λa E=>bu E 15 hF (λc10 hF E=>?_) λc10 hF E=>?_
 ·refine lsq E λa E=>pt E rfl rfl λa E=>mz E rfl rfl λa E=>lw E (qaP rfl rfl) λa E=>mv E rfl λa E=>bu E 22 hF (λc11 hF E=>?_) λc11 hF E=>?_
  ·refine lsq E λa E=>pt E rfl rfl λa E=>pt E rfl rfl λa E=>wpList_nil ?_
   cases hF
   exact⟨rfl,⟨ok,E.keep [0,6,7,26]⟩⟩
  refine mv E rfl λa E=>lw E (qcv rfl rfl) λa E=>pf E rfl rfl λa E=>pt E rfl rfl λa E=>wpList_nil ?_
  cases hF
  exact⟨rfl,⟨ok,E.keep [0,6,7,26]⟩⟩
 refine mv E rfl λa E=>lw E (qcv rfl rfl) λa E=>pf E rfl rfl λa E=>mv E rfl λa E=>bw E 19 hF (λc12 hF E=>?_) λc12 hF E=>?_
 ·refine lsz E λa E=>lsq E λa E=>pf E rfl rfl λa E=>wpList_nil ?_
  cases hF
  exact⟨rfl,⟨ok,E.keep [0,6,7,26]⟩⟩
 refine mv E rfl λa E=>lw E (qaP rfl rfl) λa E=>mv E rfl λa E=>bu E 22 hF (λc13 hF E=>?_) λc13 hF E=>?_
 ·refine lsq E λa E=>pt E rfl rfl λa E=>pt E rfl rfl λa E=>wpList_nil ?_
  cases hF
  exact⟨rfl,⟨ok,E.keep [0,6,7,26]⟩⟩
 refine mv E rfl λa E=>lw E (qcv rfl rfl) λa E=>pf E rfl rfl λa E=>pt E rfl rfl λa E=>wpList_nil ?_
 cases hF
 exact⟨rfl,⟨ok,E.keep [0,6,7,26]⟩⟩
def qnS(u:World)(m0:Mem)(S:Segs)(r:Bool)(a:Act)(w:World):Prop:=
 Ok u m0 S w∧a.defers=[]∧RVs Tryz.prog a w [.t 2 (.bool r)]
theorem qkk(N:Nat)(c_0:Int)(rc_0:InR .u8 c_0){r:Bool}(hF:qfW N c_0=some r)(hG:Glob u)(ok:Ok u m0 S w) :
  Calls Tryz.prog 118 [Value.int .u8 c_0].toArray w λe w'=>(e=.returned (.bool r)∧Ok u m0 S w'):=by
 unfold qfW at hF
 refine en (qnS u m0 S) r Tryz.func118 rfl rfl rfl (λ_ _ h=>ra h rfl) λfin a E=>sg<|aw E rfl λa E=>sg<|mv E rfl λa E=>lw E (qbL rfl rfl) λa E=>mv E rfl λa E=>bw E 5 hF (λc1 hF E=>?_) λc1 hF E=>?_
 ·as_aux_lemma=>
   refine lsq E λa E=>pf E rfl rfl λa E=>mz E rfl rfl λa E=>lw E (qbL rfl rfl) λa E=>mv E rfl λa E=>bw E 12 hF (λc7 hF E=>?_) λc7 hF E=>?_
   ·refine lsq E λa E=>pf E rfl rfl λa E=>pf E rfl rfl λa E=>mz E rfl rfl λa E=>lw E (qbL rfl rfl) λa E=>mv E rfl λa E=>bu E 20 hF (λc10 hF E=>?_) λc10 hF E=>?_
    ·refine mv E rfl λa E=>lw E (qc8 rfl rfl) λa E=>pt E rfl rfl λa E=>pf E rfl rfl λa E=>aw E rfl λa E=>wp_ret ?_
     exact fin hF ⟨ok,E.d,rz E rfl⟩
    refine lsq E λa E=>pf E rfl rfl λa E=>pf E rfl rfl λa E=>aw E rfl λa E=>wp_ret ?_
    exact fin hF ⟨ok,E.d,rz E rfl⟩
   refine mv E rfl λa E=>lw E (qc8 rfl rfl) λa E=>pt E rfl rfl λa E=>pf E rfl rfl λa E=>mv E rfl λa E=>bu E 17 hF (λc8 hF E=>?_) λc8 hF E=>?_
   ·refine lsz E λa E=>lsq E λa E=>pt E rfl rfl λa E=>av E rfl λa E=>wn<|wp_ret ?_
    exact fin hF ⟨ok,E.d,rz E rfl⟩
   refine mv E rfl λa E=>lw E (qbL rfl rfl) λa E=>mv E rfl λa E=>bu E 20 hF (λc9 hF E=>?_) λc9 hF E=>?_
   ·refine mv E rfl λa E=>lw E (qc8 rfl rfl) λa E=>pt E rfl rfl λa E=>pf E rfl rfl λa E=>aw E rfl λa E=>wp_ret ?_
    exact fin hF ⟨ok,E.d,rz E rfl⟩
   refine lsq E λa E=>pf E rfl rfl λa E=>pf E rfl rfl λa E=>aw E rfl λa E=>wp_ret ?_
   exact fin hF ⟨ok,E.d,rz E rfl⟩
 refine mv E rfl λa E=>lw E (qc8 rfl rfl) λa E=>pt E rfl rfl λa E=>mv E rfl λa E=>bu E 9 hF (λc2 hF E=>?_) λc2 hF E=>?_
 ·refine lsz E λa E=>lsq E λa E=>pt E rfl rfl λa E=>mv E rfl λa E=>lsz E λa E=>lsq E λa E=>pt E rfl rfl λa E=>av E rfl λa E=>?_
  refine wn<|wp_ret ?_
  exact fin hF ⟨ok,E.d,rz E rfl⟩
 refine mv E rfl λa E=>lw E (qbL rfl rfl) λa E=>mv E rfl λa E=>bw E 12 hF (λc3 hF E=>?_) λc3 hF E=>?_
 ·refine lsq E λa E=>pf E rfl rfl λa E=>pf E rfl rfl λa E=>mz E rfl rfl λa E=>lw E (qbL rfl rfl) λa E=>mv E rfl λa E=>bu E 20 hF (λc6 hF E=>?_) λc6 hF E=>?_
  ·refine mv E rfl λa E=>lw E (qc8 rfl rfl) λa E=>pt E rfl rfl λa E=>pf E rfl rfl λa E=>aw E rfl λa E=>wp_ret ?_
   exact fin hF ⟨ok,E.d,rz E rfl⟩
  refine lsq E λa E=>pf E rfl rfl λa E=>pf E rfl rfl λa E=>aw E rfl λa E=>wp_ret ?_
  exact fin hF ⟨ok,E.d,rz E rfl⟩
 refine mv E rfl λa E=>lw E (qc8 rfl rfl) λa E=>pt E rfl rfl λa E=>pf E rfl rfl λa E=>mv E rfl λa E=>bu E 17 hF (λc4 hF E=>?_) λc4 hF E=>?_
 ·refine lsz E λa E=>lsq E λa E=>pt E rfl rfl λa E=>av E rfl λa E=>wn<|wp_ret ?_
  exact fin hF ⟨ok,E.d,rz E rfl⟩
 refine mv E rfl λa E=>lw E (qbL rfl rfl) λa E=>mv E rfl λa E=>bu E 20 hF (λc5 hF E=>?_) λc5 hF E=>?_
 ·refine mv E rfl λa E=>lw E (qc8 rfl rfl) λa E=>pt E rfl rfl λa E=>pf E rfl rfl λa E=>aw E rfl λa E=>wp_ret ?_
  exact fin hF ⟨ok,E.d,rz E rfl⟩
 refine lsq E λa E=>pf E rfl rfl λa E=>pf E rfl rfl λa E=>aw E rfl λa E=>wp_ret ?_
 exact fin hF ⟨ok,E.d,rz E rfl⟩
def qlD(u:World)(m0:Mem)(S:Segs)(r:Bool)(a:Act)(w:World):Prop:=
 Ok u m0 S w∧a.defers=[]∧RVs Tryz.prog a w [.t 2 (.bool r)]
theorem qeb(N:Nat)(s_0:List UInt8)(ls_0:s_0.length≤LIMS){r:Bool}(hF:qdZ N s_0=some r)(hG:Glob u)(ok:Ok u m0 S w) :
  Calls Tryz.prog 95 [vs s_0].toArray w λe w'=>(e=.returned (.bool r)∧Ok u m0 S w'):=by
 unfold qdZ at hF
 refine en (qlD u m0 S) r Tryz.func95 rfl rfl rfl (λ_ _ h=>ra h rfl) λfin a E=>sg<|aw E rfl λa E=>wp_seq<|sg<|mv E rfl λa E=>lw E (qb6 rfl rfl) λa E=>mv E rfl λa E=>bu E 6 hF (λc1 hF E=>?_) λc1 hF E=>?_
 ·refine lsq E λa E=>ls E λa E=>pt E rfl rfl λa E=>mv E rfl λa E=>lsq E λa E=>ls E λa E=>pt E rfl rfl λa E=>mv E rfl λa E=>lsq E λa E=>ls E λa E=>pt E rfl rfl λa E=>wn<|c_if E rfl (λ_=>?_) (λh=>by cases h)
  refine sg<|aw E rfl λa E=>wp_ret<|qak ?_
  exact fin hF ⟨ok,E.d,rz E rfl⟩
 refine mv E rfl λa E=>lw E (qbp Tryz.underlying9 rfl) λa E=>lw E (qcv rfl rfl) λa E=>pf E rfl rfl λa E=>mv E rfl λa E=>bu E 11 hF (λc2 hF E=>?_) λc2 hF E=>?_
 ·refine lsq E λa E=>ls E λa E=>pt E rfl rfl λa E=>mv E rfl λa E=>lsq E λa E=>ls E λa E=>pt E rfl rfl λa E=>wn<|c_if E rfl (λ_=>?_) (λh=>by cases h)
  refine sg<|aw E rfl λa E=>wp_ret<|qak ?_
  exact fin hF ⟨ok,E.d,rz E rfl⟩
 refine mv E rfl λa E=>bd hF λc3 e4 hF=>lv E ok (qbU Tryz.underlying9 rfl rfl e4) λa E=>lw E (qaP rfl rfl) λa E=>pf E rfl rfl λa E=>mv E rfl λa E=>bu E 16 hF (λc5 hF E=>?_) λc5 hF E=>?_
 ·refine lsq E λa E=>ls E λa E=>pt E rfl rfl λa E=>wn<|c_if E rfl (λ_=>?_) (λh=>by cases h)
  refine sg<|aw E rfl λa E=>wp_ret<|qak ?_
  exact fin hF ⟨ok,E.d,rz E rfl⟩
 refine mv E rfl λa E=>bd hF λc6 e7 hF=>lv E ok (qbU Tryz.underlying9 rfl rfl e7) λa E=>lw E (qcv rfl rfl) λa E=>pf E rfl rfl λa E=>wn<|cf E rfl hF (λc8 hF=>?_) λc8 hF=>?_
 ·refine sg<|aw E rfl λa E=>wp_ret<|qak ?_
  exact fin hF ⟨ok,E.d,rz E rfl⟩
 refine wp_skip<|qaa<|wp_seq<|sg<|mv E rfl λa E=>lw E (qbp Tryz.underlying9 rfl) λa E=>mv E rfl λa E=>wn<|wp_block<|bd hF λo10 hL hF=>qbb _ (λ(s:Int) a w=>Ok u m0 (S) w∧Env 44 a [(0,vs s_0),(22,(vi (s_0.length:Int))),(23,vi s)]∧InR .i64 s) (λ(b:(Unit⊕Bool)) e a w=>(Sum.elim (λb26=>e=(.exit 0)∧Ok u m0 (S) w∧Env 44 a []) (λb27=>e=.ret∧qlD u m0 S b27 a w)) b) ?_ ?_ N _ a w hL ⟨ok,E.keep [0,22,23],(ir 0)⟩
 rotate_left
 ·intro e a w _ hO
  rcases o10 with o10 | o10
  rotate_left
  ·obtain⟨rfl,hret⟩:=hO
   refine qaA<|qak ?_
   exact fin hF hret
  have hF:=qdI hF
  obtain⟨rfl,ok,E⟩:=hO
  refine qbh<|qaa<|sg<|aw E rfl λa E=>wp_ret ?_
  exact fin hF ⟨ok,E.d,rz E rfl⟩
 rintro v12 a w r ⟨ok,E,r13⟩ hF
 replace hF:qgd N s_0 v12=some r:=hF
 unfold qgd at hF
 refine sg<|lw E (qaP rfl rfl) λa E=>wn<|wp_seq<|cg E rfl hF (λc14 hF=>?_) λc14 hF=>?_
 ·refine wp_exit<|qaM ?_
  cases hF
  exact so (sl ⟨rfl,⟨ok,E.keep []⟩⟩)
 refine wp_skip<|qaa<|wp_seq<|wp_block<|sg<|mv E rfl λa E=>av E rfl λa E=>wn<|sg<|mz E rfl rfl λa E=>bd hF λc15 e16 hF=>lv E ok (qbU Tryz.underlying9 rfl rfl e16) λa E=>bd hF λr17 e18 hF=>lc E qrL rfl (qkk N (c15.toNat:Int) (InR.byte c15) e18 hG ok) λw ok a E=>lw E (qa9 rfl) λa E=>mv E rfl λa E=>bw E 31 hF (λc19 hF E=>?_) λc19 hF E=>?_
 ·refine lsz E λa E=>pf E rfl rfl λa E=>mv E rfl λa E=>lsz E λa E=>pf E rfl rfl λa E=>wn<|c_if E rfl (λh=>by cases h) (λ_=>?_)
  refine wp_skip<|qal<|qaa<|qab<|lw E (qaH rfl rfl (InR.inc r13 (InR.len ls_0) c14)) λa E=>mv E rfl λa E=>wpList_nil ?_
  cases hF
  exact qau ⟨ok,E.keep [0,22,23],(InR.inc r13 (InR.len ls_0) c14)⟩
 refine mz E rfl rfl λa E=>bd hF λc20 e21 hF=>lv E ok (qbU Tryz.underlying9 rfl rfl e21) λa E=>lw E (qbg rfl rfl) λa E=>pt E rfl rfl λa E=>mv E rfl λa E=>bw E 37 hF (λc22 hF E=>?_) λc22 hF E=>?_
 ·refine lsz E λa E=>pf E rfl rfl λa E=>wn<|c_if E rfl (λh=>by cases h) (λ_=>?_)
  refine wp_skip<|qal<|qaa<|qab<|lw E (qaH rfl rfl (InR.inc r13 (InR.len ls_0) c14)) λa E=>mv E rfl λa E=>wpList_nil ?_
  cases hF
  exact qau ⟨ok,E.keep [0,22,23],(InR.inc r13 (InR.len ls_0) c14)⟩
 refine mz E rfl rfl λa E=>bd hF λc23 e24 hF=>lv E ok (qbU Tryz.underlying9 rfl rfl e24) λa E=>lw E (qbg rfl rfl) λa E=>pt E rfl rfl λa E=>wn<|cg E rfl hF (λc25 hF=>?_) λc25 hF=>?_
 ·refine wp_skip<|qal<|qaa<|qab<|lw E (qaH rfl rfl (InR.inc r13 (InR.len ls_0) c14)) λa E=>mv E rfl λa E=>wpList_nil ?_
  cases hF
  exact qau ⟨ok,E.keep [0,22,23],(InR.inc r13 (InR.len ls_0) c14)⟩
 refine sg<|aw E rfl λa E=>wp_ret<|qaA<|qak ?_
 cases hF
 exact so (sr ⟨rfl,⟨ok,E.d,rz E rfl⟩⟩)
end Go.Proofs.YtkhjeeakflefjaaGreatDoor
namespace Go.Proofs.YtkhjeeakflefjaaGreatDoor
open Go.X
def qft(N:Nat)(x_0:Part):Option Bool:=
 (show Option (Bool×Part) from
  bif (x_0.Kind==1) then
   some ((x_0.Text != ([])),(Part.mk x_0.Kind x_0.Text ([]) ([]) ([]) ([])))
  else
   (show Option Bool from
    bif (x_0.Kind==2) then
     some (x_0.Kind==2)
    else
     bif (x_0.Kind==11) then
      some (x_0.Kind==11)
     else
      bif (x_0.Kind==7) then
       some (x_0.Kind==7)
      else
       bif (x_0.Kind==8) then
        some (x_0.Kind==8)
       else
        some (x_0.Kind==9)).bind λo17=>
   bif o17 then
    some (true,(Part.mk x_0.Kind ([]) x_0.Name ([]) ([]) ([])))
   else
    bif (x_0.Kind==3) then
     (show Option Part from
      some (Part.mk x_0.Kind ([]) x_0.Name x_0.Style ([]) ([]))).bind λo24=>
     bif (x_0.Style==([])) then
      some (true,(Part.mk o24.Kind o24.Text o24.Name o24.Style ([]) ([])))
     else
      bif (x_0.Style==([105,110,116,101,103,101,114])) then
       some (true,(Part.mk o24.Kind o24.Text o24.Name o24.Style ([]) ([])))
      else
       some ((x_0.Style==([112,101,114,99,101,110,116])),(Part.mk o24.Kind o24.Text o24.Name o24.Style ([]) ([])))
    else
     (show Option Bool from
      bif (x_0.Kind==4) then
       some (x_0.Kind==4)
      else
       some (x_0.Kind==6)).bind λo35=>
     bif o35 then
      (show Option Part from
       some (Part.mk x_0.Kind ([]) x_0.Name x_0.Style ([]) ([]))).bind λo38=>
      (qdZ N x_0.Style).bind λr47=>
      some (r47,(Part.mk o38.Kind o38.Text o38.Name o38.Style ([]) ([])))
     else
      bif (x_0.Kind==5) then
       (show Option Part from
        some (Part.mk x_0.Kind ([]) x_0.Name x_0.Style ([]) ([]))).bind λo50=>
       (qeJ N x_0.Style).bind λr59=>
       some (r59,(Part.mk o50.Kind o50.Text o50.Name o50.Style ([]) ([])))
      else
       bif (x_0.Kind==10) then
        some (true,(Part.mk x_0.Kind ([]) ([]) ([]) ([]) ([])))
       else
        some (false,(Part.mk x_0.Kind ([]) ([]) ([]) ([]) ([])))).bind λo11=>
 bif (o11.2.Name != ([])) then
  bif o11.1 then
   (qdZ N x_0.Name).bind λr68=>
   bif r68 then
    bif (x_0.Text==o11.2.Text) then
     bif (x_0.Name==o11.2.Name) then
      bif (x_0.Style==o11.2.Style) then
       bif ((x_0.Cases.length:Int)==0) then
        bif ((x_0.Parts.length:Int)==0) then
         some true
        else
         some (x_0.Kind==11)
       else
        (qbS N x_0.Kind).bind λr76=>
        bif r76 then
         bif ((x_0.Parts.length:Int)==0) then
          some true
         else
          some (x_0.Kind==11)
        else
         some false
      else
       some false
     else
      some false
    else
     some false
   else
    some false
  else
   some false
 else
  bif (x_0.Kind != 1) then
   (show Option Bool from
    bif (x_0.Kind != 10) then
     bif o11.1 then
      (qdZ N x_0.Name).bind λr84=>
      some r84
     else
      some false
    else
     some o11.1).bind λo81=>
   bif o81 then
    bif (x_0.Text==o11.2.Text) then
     bif (x_0.Name==o11.2.Name) then
      bif (x_0.Style==o11.2.Style) then
       bif ((x_0.Cases.length:Int)==0) then
        bif ((x_0.Parts.length:Int)==0) then
         some true
        else
         some (x_0.Kind==11)
       else
        (qbS N x_0.Kind).bind λr92=>
        bif r92 then
         bif ((x_0.Parts.length:Int)==0) then
          some true
         else
          some (x_0.Kind==11)
        else
         some false
      else
       some false
     else
      some false
    else
     some false
   else
    some false
  else
   bif o11.1 then
    bif (x_0.Text==o11.2.Text) then
     bif (x_0.Name==o11.2.Name) then
      bif (x_0.Style==o11.2.Style) then
       bif ((x_0.Cases.length:Int)==0) then
        bif ((x_0.Parts.length:Int)==0) then
         some true
        else
         some (x_0.Kind==11)
       else
        (qbS N x_0.Kind).bind λr102=>
        bif r102 then
         bif ((x_0.Parts.length:Int)==0) then
          some true
         else
          some (x_0.Kind==11)
        else
         some false
      else
       some false
     else
      some false
    else
     some false
   else
    some false
def qgu(_N:Nat)(s_0:List UInt8):Option Bool:=
 (show Option Bool from
  bif (s_0==([122,101,114,111])) then
   some (s_0==([122,101,114,111]))
  else
   bif (s_0==([111,110,101])) then
    some (s_0==([111,110,101]))
   else
    bif (s_0==([116,119,111])) then
     some (s_0==([116,119,111]))
    else
     bif (s_0==([102,101,119])) then
      some (s_0==([102,101,119]))
     else
      bif (s_0==([109,97,110,121])) then
       some (s_0==([109,97,110,121]))
      else
       some (s_0==([111,116,104,101,114]))).bind λo1=>
 bif o1 then
  some true
 else
  some false
def qdF(N:Nat)(s_0:List UInt8):Option Bool:=
 (qe7 N s_0 ([48,49,50,51,52,53,54,55,56,57])).bind λr1=>
 some (r1==([]))
def qfT(N:Nat)(s_0:List UInt8):Option Bool:=
 (qe7 N s_0 ([48])).bind λr1=>
 some (r1==([]))
def qdm(N:Nat)(x_0:Number):Option Bool:=
 (qfT N x_0.whole).bind λr4=>
 bif r4 then
  (qfT N x_0.fraction).bind λr7=>
  some r7
 else
  some false
def qga(N:Nat)(s_0:List UInt8):Option (Number×Bool):=
 (strings_CutPrefix N s_0 ([45])).bind λr2=>
 (strings_Cut N r2.1 ([46])).bind λr5=>
 bif (decide ((r5.1.length:Int)<1)) then
  some ((Number.mk r2.2 r5.1 r5.2.1),false)
 else
  bif (decide ((r5.1.length:Int)>15)) then
   some ((Number.mk r2.2 r5.1 r5.2.1),false)
  else
   (qdF N r5.1).bind λr12=>
   bif (!r12) then
    some ((Number.mk r2.2 r5.1 r5.2.1),false)
   else
    bif (decide ((r5.1.length:Int)>1)) then
     (idx r5.1 0).bind λc16=>
     bif ((c16.toNat:Int)==48) then
      some ((Number.mk r2.2 r5.1 r5.2.1),false)
     else
      bif r5.2.2 then
       bif ((r5.2.1.length:Int)==0) then
        some ((Number.mk r2.2 r5.1 r5.2.1),false)
       else
        bif (decide ((r5.2.1.length:Int)>6)) then
         some ((Number.mk r2.2 r5.1 r5.2.1),false)
        else
         (qdF N r5.2.1).bind λr22=>
         bif (!r22) then
          some ((Number.mk r2.2 r5.1 r5.2.1),false)
         else
          (show Option (Bool×Number) from
           bif (!r2.2) then
            some (true,(Number.mk r2.2 r5.1 r5.2.1))
           else
            (qdm N (Number.mk r2.2 r5.1 r5.2.1)).bind λr29=>
            some ((!r29),(Number.mk r2.2 r5.1 r5.2.1))).bind λo25=>
          some (o25.2,o25.1)
      else
       bif (decide ((r5.2.1.length:Int)>6)) then
        some ((Number.mk r2.2 r5.1 r5.2.1),false)
       else
        (qdF N r5.2.1).bind λr34=>
        bif (!r34) then
         some ((Number.mk r2.2 r5.1 r5.2.1),false)
        else
         (show Option (Bool×Number) from
          bif (!r2.2) then
           some (true,(Number.mk r2.2 r5.1 r5.2.1))
          else
           (qdm N (Number.mk r2.2 r5.1 r5.2.1)).bind λr41=>
           some ((!r41),(Number.mk r2.2 r5.1 r5.2.1))).bind λo37=>
         some (o37.2,o37.1)
    else
     bif r5.2.2 then
      bif ((r5.2.1.length:Int)==0) then
       some ((Number.mk r2.2 r5.1 r5.2.1),false)
      else
       bif (decide ((r5.2.1.length:Int)>6)) then
        some ((Number.mk r2.2 r5.1 r5.2.1),false)
       else
        (qdF N r5.2.1).bind λr48=>
        bif (!r48) then
         some ((Number.mk r2.2 r5.1 r5.2.1),false)
        else
         (show Option (Bool×Number) from
          bif (!r2.2) then
           some (true,(Number.mk r2.2 r5.1 r5.2.1))
          else
           (qdm N (Number.mk r2.2 r5.1 r5.2.1)).bind λr55=>
           some ((!r55),(Number.mk r2.2 r5.1 r5.2.1))).bind λo51=>
         some (o51.2,o51.1)
     else
      bif (decide ((r5.2.1.length:Int)>6)) then
       some ((Number.mk r2.2 r5.1 r5.2.1),false)
      else
       (qdF N r5.2.1).bind λr60=>
       bif (!r60) then
        some ((Number.mk r2.2 r5.1 r5.2.1),false)
       else
        (show Option (Bool×Number) from
         bif (!r2.2) then
          some (true,(Number.mk r2.2 r5.1 r5.2.1))
         else
          (qdm N (Number.mk r2.2 r5.1 r5.2.1)).bind λr67=>
          some ((!r67),(Number.mk r2.2 r5.1 r5.2.1))).bind λo63=>
        some (o63.2,o63.1)
def qfu(N:Nat)(s_0:List UInt8):Option Bool:=
 (qga N s_0).bind λr1=>
 some r1.2
end Go.Proofs.YtkhjeeakflefjaaGreatDoor
namespace Go.Proofs.YtkhjeeakflefjaaGreatDoor
open Go.X
variable {u:World} {m0:Mem} {S:Segs} {w:World}
set_option maxHeartbeats 4000000
set_option maxRecDepth 100000
def qmQ(u:World)(m0:Mem)(S:Segs)(r:Bool)(a:Act)(w:World):Prop:=
 Ok u m0 S w∧a.defers=[]∧RVs Tryz.prog a w [.t 2 (.bool r)]
theorem qmW(N:Nat)(vx_0:List Value)(x_0:Part)(hx_0:qaS m0 vx_0 x_0){r:Bool}(hF:qft N x_0=some r)(hG:Glob u)(ok:Ok u m0 S w) :
  Calls Tryz.prog 97 [.agg vx_0.toArray].toArray w λe w'=>(e=.returned (.bool r)∧Ok u m0 S w'):=by
 obtain⟨c5,c7,rfl,r1,l2,l3,l4,h6,h8⟩:=(qbd.1 hx_0)
 have le_m0:=Mem.le.refl m0
 unfold qft at hF
 refine en (qmQ u m0 S) r Tryz.func97 rfl rfl rfl (λ_ _ h=>ra h rfl) λfin a E=>sg<|qgl E ok rfl rfl rfl λb9 a w E ok=>aw E rfl λa E=>sg<|fk E ok qbm qaN rfl 0 rfl rfl λa E=>lw E (qbY (ps:=[(0,.tmp 6)]) (qs:=[(0,[vi x_0.Kind])]) (cs:=[vi x_0.Kind,(vs ([])),(vs ([])),(vs ([])),(Value.slice none 0 0),(Value.slice none 0 0)]) qbw qgw rfl ⟨rfl,rfl,rfl,trivial⟩ rfl) λa E=>qaL E ok qbw rfl rfl λb10 a w E ok=>qai E ok 0 rfl rfl rfl qel rfl rfl ⟨rfl,rfl,rfl,rfl,rfl,rfl,trivial⟩ rfl rfl λw ok=>wn<|sg<|aw E rfl λa E=>wp_seq<|sg<|fk E ok qbm qaN rfl 1 rfl rfl λa E=>wn<|wp_block<|sg<|lw E (qaz rfl rfl) λa E=>?_
 refine aw E rfl λa E=>bd hF λo11 hJ hF=>qaO (Q':=λe a w=>e=.normal∧Ok u m0 ([(b10,oc 90 [vi o11.2.Kind,vs o11.2.Text,vs o11.2.Name,vs o11.2.Style,(Value.slice none 0 0),(Value.slice none 0 0)])]::[(b9,oc 90 [vi x_0.Kind,vs x_0.Text,vs x_0.Name,vs x_0.Style,c5,c7])]::S) w∧Env 136 a [(1,vp b9),(3,vp b10),(4,vb o11.1)]∧InR .i64 o11.2.Kind∧o11.2.Text.length≤LIMS∧o11.2.Name.length≤LIMS∧o11.2.Style.length≤LIMS) ?_ ?_
 ·as_aux_lemma=>
   have hF:=hJ
   refine cf E rfl hF (λc16 hF=>?_) λc16 hF=>?_
   ·refine sg<|fk E ok qfY qax rfl 1 rfl rfl λa E=>fv E qfY rfl λa E=>qai E ok 0 rfl rfl rfl qf2 rfl rfl ⟨rfl,trivial⟩ rfl rfl λw ok=>wn<|qab<|fk E ok qfY qax rfl 1 rfl rfl λa E=>lw E (qeU rfl rfl) λa E=>av E rfl λa E=>wpList_nil ?_
    cases hF
    exact⟨rfl,⟨ok,E.keep [1,3,4],r1,l2,(Nat.zero_le _),(Nat.zero_le _)⟩⟩
   refine wp_seq<|sg<|lw E (qaz rfl rfl) λa E=>aw E rfl λa E=>bd hF λo17 hJ hF=>qaO (Q':=λe a w=>e=.normal∧Ok u m0 ([(b10,oc 90 [vi x_0.Kind,(vs ([])),(vs ([])),(vs ([])),(Value.slice none 0 0),(Value.slice none 0 0)])]::[(b9,oc 90 [vi x_0.Kind,vs x_0.Text,vs x_0.Name,vs x_0.Style,c5,c7])]::S) w∧Env 136 a [(1,vp b9),(3,vp b10),(4,vb true),(9,vi x_0.Kind),(18,vb o17)]) ?_ ?_
   ·have hF:=hJ
    refine cf E rfl hF (λc18 hF=>?_) λc18 hF=>?_
    ·refine wp_skip ?_
     cases hF
     exact⟨rfl,⟨ok,E.keep [1,3,4,9,18]⟩⟩
    refine sg<|lw E (qaz rfl rfl) λa E=>aw E rfl λa E=>cf E rfl hF (λc19 hF=>?_) λc19 hF=>?_
    ·refine wp_skip ?_
     cases hF
     exact⟨rfl,⟨ok,E.keep [1,3,4,9,18]⟩⟩
    refine sg<|lw E (qaz rfl rfl) λa E=>aw E rfl λa E=>cf E rfl hF (λc20 hF=>?_) λc20 hF=>?_
    ·refine wp_skip ?_
     cases hF
     exact⟨rfl,⟨ok,E.keep [1,3,4,9,18]⟩⟩
    refine sg<|lw E (qaz rfl rfl) λa E=>aw E rfl λa E=>cf E rfl hF (λc21 hF=>?_) λc21 hF=>?_
    ·refine wp_skip ?_
     cases hF
     exact⟨rfl,⟨ok,E.keep [1,3,4,9,18]⟩⟩
    refine qab<|lw E (qaz rfl rfl) λa E=>av E rfl λa E=>wpList_nil ?_
    cases hF
    exact⟨rfl,⟨ok,E.keep [1,3,4,9,18]⟩⟩
   intro e a w hO
   obtain⟨rfl,ok,E⟩:=hO
   refine qaa<|cf E rfl hF (λc22 hF=>?_) λc22 hF=>?_
   ·refine qab<|fk E ok qbC qax rfl 1 rfl rfl λa E=>fv E qbC rfl λa E=>qai E ok 0 rfl rfl rfl qf2 rfl rfl ⟨rfl,trivial⟩ rfl rfl λw ok=>wpList_nil ?_
    cases hF
    exact⟨rfl,⟨ok,E.keep [1,3,4],r1,(Nat.zero_le _),l3,(Nat.zero_le _)⟩⟩
   refine sg<|lw E (qaz rfl rfl) λa E=>aw E rfl λa E=>cf E rfl hF (λc23 hF=>?_) λc23 hF=>?_
   ·as_aux_lemma=>
     refine wp_seq<|bd hF λo24 hJ hF=>qaO (Q':=λe a w=>e=.normal∧Ok u m0 ([(b10,oc 90 [vi o24.Kind,vs o24.Text,vs o24.Name,vs o24.Style,(Value.slice none 0 0),(Value.slice none 0 0)])]::[(b9,oc 90 [vi x_0.Kind,vs x_0.Text,vs x_0.Name,vs x_0.Style,c5,c7])]::S) w∧Env 136 a [(1,vp b9),(3,vp b10)]∧InR .i64 o24.Kind∧o24.Text.length≤LIMS∧o24.Name.length≤LIMS∧o24.Style.length≤LIMS) ?_ ?_
     ·have hF:=hJ
      cases hF
      refine qbl [1] (Cls u m0 ([(b10,oc 90 [vi x_0.Kind,(vs ([])),(vs ([])),(vs ([])),(Value.slice none 0 0),(Value.slice none 0 0)])]::[(b9,oc 90 [vi x_0.Kind,vs x_0.Text,vs x_0.Name,vs x_0.Style,c5,c7])]::[])) (Cls u m0 ([(b9,oc 90 [vi x_0.Kind,vs x_0.Text,vs x_0.Name,vs x_0.Style,c5,c7])]::[])) (by kernel_rfl) ?_
      intro w hw
      replace ok:=qbA ok hw
      clear hw
      refine qaq (cl1 (cq le_m0 ok [0,1] rfl) (cq le_m0 ok [1] rfl)) λhT=>kt 0 E rfl hT (qaj qbC rfl) λa E=>qdg 1 E rfl (by kernel_rfl) nP hT (qaw qax rfl (Holds.cown 1 rfl rfl)) rfl rfl λa E=>kt 2 E rfl hT (qaj qcn rfl) λa E=>kt 3 E rfl hT (qaw qax rfl (Holds.cown 0 rfl rfl)) λa E=>kt 4 E rfl hT (qaj qbC rfl) λa E=>qaU [5] (by kernel_rfl) rfl (qa1 ?_)
      ·refine wo rfl<|qai E ok 0 rfl rfl rfl qf2 rfl rfl ⟨rfl,trivial⟩ rfl rfl λw ok=>wn<|qaq (cl2 (by kernel_rfl) (cq le_m0 ok [1] rfl)) λhT=>kt 6 E rfl hT (qaj qcn rfl) λa E=>qaU [7] (by kernel_rfl) rfl (qa1 ?_)
       ·refine wo rfl<|qai E ok 0 rfl rfl rfl qf2 rfl rfl ⟨rfl,trivial⟩ rfl rfl λw ok=>wn<|qaq (cl2 (by kernel_rfl) (cq le_m0 ok [1] rfl)) λhT=>qbv (by kernel_rfl) ?_
        exact⟨rfl,⟨ok,E.keep [1,3],r1,(Nat.zero_le _),l3,l4⟩⟩
     intro e a w hO
     obtain⟨rfl,ok,E,r29,l30,l31,l32⟩:=hO
     refine qaa<|qab<|fk E ok qcn qax rfl 1 rfl rfl λa E=>lw E (qb6 rfl rfl) λa E=>mv E rfl λa E=>bu E 38 hF (λc33 hF E=>?_) λc33 hF E=>?_
     ·refine lsq E λa E=>ls E λa E=>pt E rfl rfl λa E=>mv E rfl λa E=>lsq E λa E=>ls E λa E=>pt E rfl rfl λa E=>av E rfl λa E=>wpList_nil ?_
      cases hF
      exact⟨rfl,⟨ok,E.keep [1,3,4],r29,l30,l31,l32⟩⟩
     refine fk E ok qcn qax rfl 1 rfl rfl λa E=>lw E (qb6 rfl rfl) λa E=>pf E rfl rfl λa E=>mv E rfl λa E=>bu E 43 hF (λc34 hF E=>?_) λc34 hF E=>?_
     ·refine lsq E λa E=>ls E λa E=>pt E rfl rfl λa E=>av E rfl λa E=>wpList_nil ?_
      cases hF
      exact⟨rfl,⟨ok,E.keep [1,3,4],r29,l30,l31,l32⟩⟩
     refine fk E ok qcn qax rfl 1 rfl rfl λa E=>lw E (qb6 rfl rfl) λa E=>pf E rfl rfl λa E=>av E rfl λa E=>wpList_nil ?_
     cases hF
     exact⟨rfl,⟨ok,E.keep [1,3,4],r29,l30,l31,l32⟩⟩
   refine wp_seq<|sg<|lw E (qaz rfl rfl) λa E=>aw E rfl λa E=>bd hF λo35 hJ hF=>qaO (Q':=λe a w=>e=.normal∧Ok u m0 ([(b10,oc 90 [vi x_0.Kind,(vs ([])),(vs ([])),(vs ([])),(Value.slice none 0 0),(Value.slice none 0 0)])]::[(b9,oc 90 [vi x_0.Kind,vs x_0.Text,vs x_0.Name,vs x_0.Style,c5,c7])]::S) w∧Env 136 a [(1,vp b9),(3,vp b10),(4,vb true),(9,vi x_0.Kind),(48,vb o35)]) ?_ ?_
   ·have hF:=hJ
    refine cf E rfl hF (λc36 hF=>?_) λc36 hF=>?_
    ·refine wp_skip ?_
     cases hF
     exact⟨rfl,⟨ok,E.keep [1,3,4,9,48]⟩⟩
    refine qab<|lw E (qaz rfl rfl) λa E=>av E rfl λa E=>wpList_nil ?_
    cases hF
    exact⟨rfl,⟨ok,E.keep [1,3,4,9,48]⟩⟩
   intro e a w hO
   obtain⟨rfl,ok,E⟩:=hO
   refine qaa<|cf E rfl hF (λc37 hF=>?_) λc37 hF=>?_
   ·refine wp_seq<|bd hF λo38 hJ hF=>qaO (Q':=λe a w=>e=.normal∧Ok u m0 ([(b10,oc 90 [vi o38.Kind,vs o38.Text,vs o38.Name,vs o38.Style,(Value.slice none 0 0),(Value.slice none 0 0)])]::[(b9,oc 90 [vi x_0.Kind,vs x_0.Text,vs x_0.Name,vs x_0.Style,c5,c7])]::S) w∧Env 136 a [(1,vp b9),(3,vp b10)]∧InR .i64 o38.Kind∧o38.Text.length≤LIMS∧o38.Name.length≤LIMS∧o38.Style.length≤LIMS) ?_ ?_
    rotate_left
    ·intro e a w hO
     obtain⟨rfl,ok,E,r43,l44,l45,l46⟩:=hO
     refine qaa<|qab<|fk E ok qcn qax rfl 1 rfl rfl λa E=>bd hF λr47 e48 hF=>lc E qiE rfl (qeb N x_0.Style l4 e48 hG ok) λw ok a E=>av E rfl λa E=>wpList_nil ?_
     cases hF
     exact⟨rfl,⟨ok,E.keep [1,3,4],r43,l44,l45,l46⟩⟩
    have hF:=hJ
    cases hF
    refine qbl [1] (Cls u m0 ([(b10,oc 90 [vi x_0.Kind,(vs ([])),(vs ([])),(vs ([])),(Value.slice none 0 0),(Value.slice none 0 0)])]::[(b9,oc 90 [vi x_0.Kind,vs x_0.Text,vs x_0.Name,vs x_0.Style,c5,c7])]::[])) (Cls u m0 ([(b9,oc 90 [vi x_0.Kind,vs x_0.Text,vs x_0.Name,vs x_0.Style,c5,c7])]::[])) (by kernel_rfl) ?_
    intro w hw
    replace ok:=qbA ok hw
    clear hw
    refine qaq (cl1 (cq le_m0 ok [0,1] rfl) (cq le_m0 ok [1] rfl)) λhT=>kt 0 E rfl hT (qaj qbC rfl) λa E=>qdg 1 E rfl (by kernel_rfl) nP hT (qaw qax rfl (Holds.cown 1 rfl rfl)) rfl rfl λa E=>kt 2 E rfl hT (qaj qcn rfl) λa E=>kt 3 E rfl hT (qaw qax rfl (Holds.cown 0 rfl rfl)) λa E=>kt 4 E rfl hT (qaj qbC rfl) λa E=>qaU [5] (by kernel_rfl) rfl (qa1 ?_)
    ·refine wo rfl<|qai E ok 0 rfl rfl rfl qf2 rfl rfl ⟨rfl,trivial⟩ rfl rfl λw ok=>wn<|qaq (cl2 (by kernel_rfl) (cq le_m0 ok [1] rfl)) λhT=>kt 6 E rfl hT (qaj qcn rfl) λa E=>qaU [7] (by kernel_rfl) rfl (qa1 ?_)
     ·refine wo rfl<|qai E ok 0 rfl rfl rfl qf2 rfl rfl ⟨rfl,trivial⟩ rfl rfl λw ok=>wn<|qaq (cl2 (by kernel_rfl) (cq le_m0 ok [1] rfl)) λhT=>qbv (by kernel_rfl) ?_
      exact⟨rfl,⟨ok,E.keep [1,3],r1,(Nat.zero_le _),l3,l4⟩⟩
   refine sg<|lw E (qaz rfl rfl) λa E=>aw E rfl λa E=>cg E rfl hF (λc49 hF=>?_) λc49 hF=>?_
   ·refine sg<|lw E (qaz rfl rfl) λa E=>aw E rfl λa E=>cf E rfl hF (λc61 hF=>?_) λc61 hF=>?_
    ·refine wp_skip ?_
     cases hF
     exact⟨rfl,⟨ok,E.keep [1,3,4],r1,(Nat.zero_le _),(Nat.zero_le _),(Nat.zero_le _)⟩⟩
    refine qab<|av E rfl λa E=>wpList_nil ?_
    cases hF
    exact⟨rfl,⟨ok,E.keep [1,3,4],r1,(Nat.zero_le _),(Nat.zero_le _),(Nat.zero_le _)⟩⟩
   refine wp_seq<|bd hF λo50 hJ hF=>qaO (Q':=λe a w=>e=.normal∧Ok u m0 ([(b10,oc 90 [vi o50.Kind,vs o50.Text,vs o50.Name,vs o50.Style,(Value.slice none 0 0),(Value.slice none 0 0)])]::[(b9,oc 90 [vi x_0.Kind,vs x_0.Text,vs x_0.Name,vs x_0.Style,c5,c7])]::S) w∧Env 136 a [(1,vp b9),(3,vp b10)]∧InR .i64 o50.Kind∧o50.Text.length≤LIMS∧o50.Name.length≤LIMS∧o50.Style.length≤LIMS) ?_ ?_
   rotate_left
   ·intro e a w hO
    obtain⟨rfl,ok,E,r55,l56,l57,l58⟩:=hO
    refine qaa<|qab<|fk E ok qcn qax rfl 1 rfl rfl λa E=>bd hF λr59 e60 hF=>lc E qtp rfl (qio N x_0.Style l4 e60 hG ok) λw ok a E=>av E rfl λa E=>wpList_nil ?_
    cases hF
    exact⟨rfl,⟨ok,E.keep [1,3,4],r55,l56,l57,l58⟩⟩
   have hF:=hJ
   cases hF
   refine qbl [1] (Cls u m0 ([(b10,oc 90 [vi x_0.Kind,(vs ([])),(vs ([])),(vs ([])),(Value.slice none 0 0),(Value.slice none 0 0)])]::[(b9,oc 90 [vi x_0.Kind,vs x_0.Text,vs x_0.Name,vs x_0.Style,c5,c7])]::[])) (Cls u m0 ([(b9,oc 90 [vi x_0.Kind,vs x_0.Text,vs x_0.Name,vs x_0.Style,c5,c7])]::[])) (by kernel_rfl) ?_
   intro w hw
   replace ok:=qbA ok hw
   clear hw
   refine qaq (cl1 (cq le_m0 ok [0,1] rfl) (cq le_m0 ok [1] rfl)) λhT=>kt 0 E rfl hT (qaj qbC rfl) λa E=>qdg 1 E rfl (by kernel_rfl) nP hT (qaw qax rfl (Holds.cown 1 rfl rfl)) rfl rfl λa E=>kt 2 E rfl hT (qaj qcn rfl) λa E=>kt 3 E rfl hT (qaw qax rfl (Holds.cown 0 rfl rfl)) λa E=>kt 4 E rfl hT (qaj qbC rfl) λa E=>qaU [5] (by kernel_rfl) rfl (qa1 ?_)
   ·refine wo rfl<|qai E ok 0 rfl rfl rfl qf2 rfl rfl ⟨rfl,trivial⟩ rfl rfl λw ok=>wn<|qaq (cl2 (by kernel_rfl) (cq le_m0 ok [1] rfl)) λhT=>kt 6 E rfl hT (qaj qcn rfl) λa E=>qaU [7] (by kernel_rfl) rfl (qa1 ?_)
    ·refine wo rfl<|qai E ok 0 rfl rfl rfl qf2 rfl rfl ⟨rfl,trivial⟩ rfl rfl λw ok=>wn<|qaq (cl2 (by kernel_rfl) (cq le_m0 ok [1] rfl)) λhT=>qbv (by kernel_rfl) ?_
     exact⟨rfl,⟨ok,E.keep [1,3],r1,(Nat.zero_le _),l3,l4⟩⟩
 intro e a w hO
 obtain⟨rfl,ok,E,r62,l63,l64,l65⟩:=hO
 refine qal<|qaa<|wp_seq<|sg<|fk E ok qbC qax rfl 0 rfl rfl λa E=>lw E (qeU rfl rfl) λa E=>mv E rfl λa E=>bu E 76 hF (λc66 hF E=>?_) λc66 hF E=>?_
 ·as_aux_lemma=>
   refine lsz E λa E=>lsz E λa E=>pt E rfl rfl λa E=>wn<|c_if E rfl (λ_=>?_) (λh=>by cases h)
   refine qab<|mz E rfl rfl λa E=>qbx o11.1 (λc67=>?_) (λc67=>?_)
   rotate_left
   ·have hF:=qby c67 hF
    have E:=E.upd 87 c67 rfl
    refine lsq E λa E=>ls E λa E=>pf E rfl rfl λa E=>aw E rfl λa E=>sg<|mz E rfl rfl λa E=>lsz E λa E=>ls E λa E=>?_
    refine pf E rfl rfl λa E=>mv E rfl λa E=>lsz E λa E=>ls E λa E=>pf E rfl rfl λa E=>mv E rfl λa E=>lsz E λa E=>ls E λa E=>pf E rfl rfl λa E=>mv E rfl λa E=>?_
    refine lsz E λa E=>lsz E λa E=>ls E λa E=>pf E rfl rfl λa E=>mv E rfl λa E=>lsz E λa E=>ls E λa E=>?_
    refine lsz E λa E=>pf E rfl rfl λa E=>aw E rfl λa E=>wp_ret ?_
    exact fin hF ⟨ok.drop.drop,E.d,rz E rfl⟩
   have hF:=qbz c67 hF
   have E:=E.upd 87 c67 rfl
   refine fk E ok qbC qax rfl 1 rfl rfl λa E=>bd hF λr68 e69 hF=>lc E qiE rfl (qeb N x_0.Name l3 e69 hG ok) λw ok a E=>pt E rfl rfl λa E=>aw E rfl λa E=>sg<|mz E rfl rfl λa E=>qbx r68 (λc70=>?_) (λc70=>?_)
   rotate_left
   ·have hF:=qby c70 hF
    have E:=E.upd 93 c70 rfl
    refine lsz E λa E=>ls E λa E=>pf E rfl rfl λa E=>mv E rfl λa E=>lsz E λa E=>ls E λa E=>pf E rfl rfl λa E=>mv E rfl λa E=>lsq E λa E=>?_
    refine lsq E λa E=>ls E λa E=>pf E rfl rfl λa E=>mv E rfl λa E=>lsz E λa E=>lsz E λa E=>ls E λa E=>pf E rfl rfl λa E=>mv E rfl λa E=>?_
    refine lsz E λa E=>lsz E λa E=>ls E λa E=>pf E rfl rfl λa E=>aw E rfl λa E=>wp_ret ?_
    exact fin hF ⟨ok.drop.drop,E.d,rz E rfl⟩
   have hF:=qbz c70 hF
   have E:=E.upd 93 c70 rfl
   refine fk E ok qfY qax rfl 1 rfl rfl λa E=>fk E ok qfY qax rfl 0 rfl rfl λa E=>lw E (qb6 rfl rfl) λa E=>pt E rfl rfl λa E=>mv E rfl λa E=>bw E 100 hF (λc71 hF E=>?_) λc71 hF E=>?_
   ·refine lsz E λa E=>ls E λa E=>pf E rfl rfl λa E=>mv E rfl λa E=>lsz E λa E=>ls E λa E=>pf E rfl rfl λa E=>mv E rfl λa E=>lsq E λa E=>?_
    refine lsz E λa E=>lsq E λa E=>ls E λa E=>pf E rfl rfl λa E=>mv E rfl λa E=>lsz E λa E=>lsq E λa E=>ls E λa E=>?_
    refine lsq E λa E=>pf E rfl rfl λa E=>aw E rfl λa E=>wp_ret ?_
    exact fin hF ⟨ok.drop.drop,E.d,rz E rfl⟩
   refine fk E ok qbC qax rfl 1 rfl rfl λa E=>fk E ok qbC qax rfl 0 rfl rfl λa E=>lw E (qb6 rfl rfl) λa E=>pt E rfl rfl λa E=>mv E rfl λa E=>bw E 107 hF (λc72 hF E=>?_) λc72 hF E=>?_
   ·refine lsz E λa E=>ls E λa E=>pf E rfl rfl λa E=>mv E rfl λa E=>lsz E λa E=>lsz E λa E=>ls E λa E=>?_
    refine pf E rfl rfl λa E=>mv E rfl λa E=>lsz E λa E=>lsz E λa E=>ls E λa E=>pf E rfl rfl λa E=>aw E rfl λa E=>wp_ret ?_
    exact fin hF ⟨ok.drop.drop,E.d,rz E rfl⟩
   refine fk E ok qcn qax rfl 1 rfl rfl λa E=>fk E ok qcn qax rfl 0 rfl rfl λa E=>lw E (qb6 rfl rfl) λa E=>pt E rfl rfl λa E=>mv E rfl λa E=>bw E 114 hF (λc73 hF E=>?_) λc73 hF E=>?_
   ·refine lsz E λa E=>lsz E λa E=>ls E λa E=>pf E rfl rfl λa E=>mv E rfl λa E=>lsz E λa E=>ls E λa E=>?_
    refine lsz E λa E=>pf E rfl rfl λa E=>aw E rfl λa E=>wp_ret ?_
    exact fin hF ⟨ok.drop.drop,E.d,rz E rfl⟩
   refine fk E ok qdN qfx rfl 1 rfl rfl λa E=>lv E ok (qa8 qch h6 rfl) λa E=>lw E (qaz rfl rfl) λa E=>mv E rfl λa E=>bu E 119 hF (λc74 hF E=>?_) λc74 hF E=>?_
   ·refine lsq E λa E=>ls E λa E=>pt E rfl rfl λa E=>pt E rfl rfl λa E=>mv E rfl λa E=>fk E ok qc1 qcr rfl 1 rfl rfl λa E=>lv E ok (qa8 qbG h8 rfl) λa E=>lw E (qaz rfl rfl) λa E=>mv E rfl λa E=>bu E 130 hF (λc75 hF E=>?_) λc75 hF E=>?_
    ·refine lsq E λa E=>ls E λa E=>pt E rfl rfl λa E=>pt E rfl rfl λa E=>aw E rfl λa E=>wp_ret ?_
     exact fin hF ⟨ok.drop.drop,E.d,rz E rfl⟩
    refine fk E ok qbm qaN rfl 1 rfl rfl λa E=>lw E (qaz rfl rfl) λa E=>pf E rfl rfl λa E=>pt E rfl rfl λa E=>aw E rfl λa E=>wp_ret ?_
    exact fin hF ⟨ok.drop.drop,E.d,rz E rfl⟩
   refine fk E ok qbm qaN rfl 1 rfl rfl λa E=>bd hF λr76 e77 hF=>lc E qir rfl (qcI N x_0.Kind r1 e77 hG ok) λw ok a E=>pf E rfl rfl λa E=>pt E rfl rfl λa E=>mv E rfl λa E=>qbx r76 (λc78=>?_) (λc78=>?_)
   rotate_left
   ·have hF:=qby c78 hF
    have E:=E.upd 125 c78 rfl
    refine lsz E λa E=>lsz E λa E=>ls E λa E=>pf E rfl rfl λa E=>aw E rfl λa E=>wp_ret ?_
    exact fin hF ⟨ok.drop.drop,E.d,rz E rfl⟩
   have hF:=qbz c78 hF
   have E:=E.upd 125 c78 rfl
   refine fk E ok qc1 qcr rfl 1 rfl rfl λa E=>lv E ok (qa8 qbG h8 rfl) λa E=>lw E (qaz rfl rfl) λa E=>mv E rfl λa E=>bu E 130 hF (λc79 hF E=>?_) λc79 hF E=>?_
   ·refine lsq E λa E=>ls E λa E=>pt E rfl rfl λa E=>pt E rfl rfl λa E=>aw E rfl λa E=>wp_ret ?_
    exact fin hF ⟨ok.drop.drop,E.d,rz E rfl⟩
   refine fk E ok qbm qaN rfl 1 rfl rfl λa E=>lw E (qaz rfl rfl) λa E=>pf E rfl rfl λa E=>pt E rfl rfl λa E=>aw E rfl λa E=>wp_ret ?_
   exact fin hF ⟨ok.drop.drop,E.d,rz E rfl⟩
 refine fk E ok qbm qaN rfl 1 rfl rfl λa E=>lw E (qbg rfl rfl) λa E=>mv E rfl λa E=>bw E 80 hF (λc80 hF E=>?_) λc80 hF E=>?_
 ·as_aux_lemma=>
   refine lsq E λa E=>ls E λa E=>pf E rfl rfl λa E=>pf E rfl rfl λa E=>wn<|c_if E rfl (λh=>by cases h) (λ_=>?_)
   refine wp_skip<|qaa<|sg<|mz E rfl rfl λa E=>qbx o11.1 (λc96=>?_) (λc96=>?_)
   rotate_left
   ·have hF:=qby c96 hF
    have E:=E.upd 93 c96 rfl
    refine lsz E λa E=>ls E λa E=>pf E rfl rfl λa E=>mv E rfl λa E=>lsz E λa E=>ls E λa E=>pf E rfl rfl λa E=>mv E rfl λa E=>lsq E λa E=>?_
    refine lsq E λa E=>ls E λa E=>pf E rfl rfl λa E=>mv E rfl λa E=>lsz E λa E=>lsz E λa E=>ls E λa E=>pf E rfl rfl λa E=>mv E rfl λa E=>?_
    refine lsz E λa E=>lsz E λa E=>ls E λa E=>pf E rfl rfl λa E=>aw E rfl λa E=>wp_ret ?_
    exact fin hF ⟨ok.drop.drop,E.d,rz E rfl⟩
   have hF:=qbz c96 hF
   have E:=E.upd 93 c96 rfl
   refine fk E ok qfY qax rfl 1 rfl rfl λa E=>fk E ok qfY qax rfl 0 rfl rfl λa E=>lw E (qb6 rfl rfl) λa E=>pt E rfl rfl λa E=>mv E rfl λa E=>bw E 100 hF (λc97 hF E=>?_) λc97 hF E=>?_
   ·refine lsz E λa E=>ls E λa E=>pf E rfl rfl λa E=>mv E rfl λa E=>lsz E λa E=>ls E λa E=>pf E rfl rfl λa E=>mv E rfl λa E=>lsq E λa E=>?_
    refine lsz E λa E=>lsq E λa E=>ls E λa E=>pf E rfl rfl λa E=>mv E rfl λa E=>lsz E λa E=>lsq E λa E=>ls E λa E=>?_
    refine lsq E λa E=>pf E rfl rfl λa E=>aw E rfl λa E=>wp_ret ?_
    exact fin hF ⟨ok.drop.drop,E.d,rz E rfl⟩
   refine fk E ok qbC qax rfl 1 rfl rfl λa E=>fk E ok qbC qax rfl 0 rfl rfl λa E=>lw E (qb6 rfl rfl) λa E=>pt E rfl rfl λa E=>mv E rfl λa E=>bw E 107 hF (λc98 hF E=>?_) λc98 hF E=>?_
   ·refine lsz E λa E=>ls E λa E=>pf E rfl rfl λa E=>mv E rfl λa E=>lsz E λa E=>lsz E λa E=>ls E λa E=>?_
    refine pf E rfl rfl λa E=>mv E rfl λa E=>lsz E λa E=>lsz E λa E=>ls E λa E=>pf E rfl rfl λa E=>aw E rfl λa E=>wp_ret ?_
    exact fin hF ⟨ok.drop.drop,E.d,rz E rfl⟩
   refine fk E ok qcn qax rfl 1 rfl rfl λa E=>fk E ok qcn qax rfl 0 rfl rfl λa E=>lw E (qb6 rfl rfl) λa E=>pt E rfl rfl λa E=>mv E rfl λa E=>bw E 114 hF (λc99 hF E=>?_) λc99 hF E=>?_
   ·refine lsz E λa E=>lsz E λa E=>ls E λa E=>pf E rfl rfl λa E=>mv E rfl λa E=>lsz E λa E=>ls E λa E=>?_
    refine lsz E λa E=>pf E rfl rfl λa E=>aw E rfl λa E=>wp_ret ?_
    exact fin hF ⟨ok.drop.drop,E.d,rz E rfl⟩
   refine fk E ok qdN qfx rfl 1 rfl rfl λa E=>lv E ok (qa8 qch h6 rfl) λa E=>lw E (qaz rfl rfl) λa E=>mv E rfl λa E=>bu E 119 hF (λc100 hF E=>?_) λc100 hF E=>?_
   ·refine lsq E λa E=>ls E λa E=>pt E rfl rfl λa E=>pt E rfl rfl λa E=>mv E rfl λa E=>fk E ok qc1 qcr rfl 1 rfl rfl λa E=>lv E ok (qa8 qbG h8 rfl) λa E=>lw E (qaz rfl rfl) λa E=>mv E rfl λa E=>bu E 130 hF (λc101 hF E=>?_) λc101 hF E=>?_
    ·refine lsq E λa E=>ls E λa E=>pt E rfl rfl λa E=>pt E rfl rfl λa E=>aw E rfl λa E=>wp_ret ?_
     exact fin hF ⟨ok.drop.drop,E.d,rz E rfl⟩
    refine fk E ok qbm qaN rfl 1 rfl rfl λa E=>lw E (qaz rfl rfl) λa E=>pf E rfl rfl λa E=>pt E rfl rfl λa E=>aw E rfl λa E=>wp_ret ?_
    exact fin hF ⟨ok.drop.drop,E.d,rz E rfl⟩
   refine fk E ok qbm qaN rfl 1 rfl rfl λa E=>bd hF λr102 e103 hF=>lc E qir rfl (qcI N x_0.Kind r1 e103 hG ok) λw ok a E=>pf E rfl rfl λa E=>pt E rfl rfl λa E=>mv E rfl λa E=>qbx r102 (λc104=>?_) (λc104=>?_)
   rotate_left
   ·have hF:=qby c104 hF
    have E:=E.upd 125 c104 rfl
    refine lsz E λa E=>lsz E λa E=>ls E λa E=>pf E rfl rfl λa E=>aw E rfl λa E=>wp_ret ?_
    exact fin hF ⟨ok.drop.drop,E.d,rz E rfl⟩
   have hF:=qbz c104 hF
   have E:=E.upd 125 c104 rfl
   refine fk E ok qc1 qcr rfl 1 rfl rfl λa E=>lv E ok (qa8 qbG h8 rfl) λa E=>lw E (qaz rfl rfl) λa E=>mv E rfl λa E=>bu E 130 hF (λc105 hF E=>?_) λc105 hF E=>?_
   ·refine lsq E λa E=>ls E λa E=>pt E rfl rfl λa E=>pt E rfl rfl λa E=>aw E rfl λa E=>wp_ret ?_
    exact fin hF ⟨ok.drop.drop,E.d,rz E rfl⟩
   refine fk E ok qbm qaN rfl 1 rfl rfl λa E=>lw E (qaz rfl rfl) λa E=>pf E rfl rfl λa E=>pt E rfl rfl λa E=>aw E rfl λa E=>wp_ret ?_
   exact fin hF ⟨ok.drop.drop,E.d,rz E rfl⟩
 refine fk E ok qbm qaN rfl 1 rfl rfl λa E=>lw E (qbg rfl rfl) λa E=>pt E rfl rfl λa E=>pf E rfl rfl λa E=>wn<|bd hF λo81 hJ hF=>qaO (Q':=λe a w=>e=.normal∧Ok u m0 ([(b10,oc 90 [vi o11.2.Kind,vs o11.2.Text,vs o11.2.Name,vs o11.2.Style,(Value.slice none 0 0),(Value.slice none 0 0)])]::[(b9,oc 90 [vi x_0.Kind,vs x_0.Text,vs x_0.Name,vs x_0.Style,c5,c7])]::S) w∧Env 136 a [(1,vp b9),(3,vp b10),(4,vb o81)]) ?_ ?_
 ·have hF:=hJ
  refine cg E rfl hF (λc82 hF=>?_) λc82 hF=>?_
  ·refine wp_skip ?_
   cases hF
   exact⟨rfl,⟨ok,E.keep [1,3,4]⟩⟩
  refine qab<|mz E rfl rfl λa E=>qbx o11.1 (λc83=>?_) (λc83=>?_)
  rotate_left
  ·have hF:=qby c83 hF
   have E:=E.upd 87 c83 rfl
   refine lsq E λa E=>ls E λa E=>pf E rfl rfl λa E=>av E rfl λa E=>wpList_nil ?_
   cases hF
   exact⟨rfl,⟨ok,E.keep [1,3,4]⟩⟩
  have hF:=qbz c83 hF
  have E:=E.upd 87 c83 rfl
  refine fk E ok qbC qax rfl 1 rfl rfl λa E=>bd hF λr84 e85 hF=>lc E qiE rfl (qeb N x_0.Name l3 e85 hG ok) λw ok a E=>pt E rfl rfl λa E=>av E rfl λa E=>wpList_nil ?_
  cases hF
  exact⟨rfl,⟨ok,E.keep [1,3,4]⟩⟩
 intro e a w hO
 obtain⟨rfl,ok,E⟩:=hO
 refine qaa<|sg<|mz E rfl rfl λa E=>qbx o81 (λc86=>?_) (λc86=>?_)
 rotate_left
 ·have hF:=qby c86 hF
  have E:=E.upd 93 c86 rfl
  refine lsz E λa E=>ls E λa E=>pf E rfl rfl λa E=>mv E rfl λa E=>lsz E λa E=>ls E λa E=>pf E rfl rfl λa E=>mv E rfl λa E=>lsq E λa E=>?_
  refine lsq E λa E=>ls E λa E=>pf E rfl rfl λa E=>mv E rfl λa E=>lsz E λa E=>lsz E λa E=>ls E λa E=>pf E rfl rfl λa E=>mv E rfl λa E=>?_
  refine lsz E λa E=>lsz E λa E=>ls E λa E=>pf E rfl rfl λa E=>aw E rfl λa E=>wp_ret ?_
  exact fin hF ⟨ok.drop.drop,E.d,rz E rfl⟩
 have hF:=qbz c86 hF
 have E:=E.upd 93 c86 rfl
 refine fk E ok qfY qax rfl 1 rfl rfl λa E=>fk E ok qfY qax rfl 0 rfl rfl λa E=>lw E (qb6 rfl rfl) λa E=>pt E rfl rfl λa E=>mv E rfl λa E=>bw E 100 hF (λc87 hF E=>?_) λc87 hF E=>?_
 ·refine lsz E λa E=>ls E λa E=>pf E rfl rfl λa E=>mv E rfl λa E=>lsz E λa E=>ls E λa E=>pf E rfl rfl λa E=>mv E rfl λa E=>lsq E λa E=>?_
  refine lsz E λa E=>lsq E λa E=>ls E λa E=>pf E rfl rfl λa E=>mv E rfl λa E=>lsz E λa E=>lsq E λa E=>ls E λa E=>?_
  refine lsq E λa E=>pf E rfl rfl λa E=>aw E rfl λa E=>wp_ret ?_
  exact fin hF ⟨ok.drop.drop,E.d,rz E rfl⟩
 refine fk E ok qbC qax rfl 1 rfl rfl λa E=>fk E ok qbC qax rfl 0 rfl rfl λa E=>lw E (qb6 rfl rfl) λa E=>pt E rfl rfl λa E=>mv E rfl λa E=>bw E 107 hF (λc88 hF E=>?_) λc88 hF E=>?_
 ·refine lsz E λa E=>ls E λa E=>pf E rfl rfl λa E=>mv E rfl λa E=>lsz E λa E=>lsz E λa E=>ls E λa E=>?_
  refine pf E rfl rfl λa E=>mv E rfl λa E=>lsz E λa E=>lsz E λa E=>ls E λa E=>pf E rfl rfl λa E=>aw E rfl λa E=>wp_ret ?_
  exact fin hF ⟨ok.drop.drop,E.d,rz E rfl⟩
 refine fk E ok qcn qax rfl 1 rfl rfl λa E=>fk E ok qcn qax rfl 0 rfl rfl λa E=>lw E (qb6 rfl rfl) λa E=>pt E rfl rfl λa E=>mv E rfl λa E=>bw E 114 hF (λc89 hF E=>?_) λc89 hF E=>?_
 ·refine lsz E λa E=>lsz E λa E=>ls E λa E=>pf E rfl rfl λa E=>mv E rfl λa E=>lsz E λa E=>ls E λa E=>?_
  refine lsz E λa E=>pf E rfl rfl λa E=>aw E rfl λa E=>wp_ret ?_
  exact fin hF ⟨ok.drop.drop,E.d,rz E rfl⟩
 refine fk E ok qdN qfx rfl 1 rfl rfl λa E=>lv E ok (qa8 qch h6 rfl) λa E=>lw E (qaz rfl rfl) λa E=>mv E rfl λa E=>bu E 119 hF (λc90 hF E=>?_) λc90 hF E=>?_
 ·refine lsq E λa E=>ls E λa E=>pt E rfl rfl λa E=>pt E rfl rfl λa E=>mv E rfl λa E=>fk E ok qc1 qcr rfl 1 rfl rfl λa E=>lv E ok (qa8 qbG h8 rfl) λa E=>lw E (qaz rfl rfl) λa E=>mv E rfl λa E=>bu E 130 hF (λc91 hF E=>?_) λc91 hF E=>?_
  ·refine lsq E λa E=>ls E λa E=>pt E rfl rfl λa E=>pt E rfl rfl λa E=>aw E rfl λa E=>wp_ret ?_
   exact fin hF ⟨ok.drop.drop,E.d,rz E rfl⟩
  refine fk E ok qbm qaN rfl 1 rfl rfl λa E=>lw E (qaz rfl rfl) λa E=>pf E rfl rfl λa E=>pt E rfl rfl λa E=>aw E rfl λa E=>wp_ret ?_
  exact fin hF ⟨ok.drop.drop,E.d,rz E rfl⟩
 refine fk E ok qbm qaN rfl 1 rfl rfl λa E=>bd hF λr92 e93 hF=>lc E qir rfl (qcI N x_0.Kind r1 e93 hG ok) λw ok a E=>pf E rfl rfl λa E=>pt E rfl rfl λa E=>mv E rfl λa E=>qbx r92 (λc94=>?_) (λc94=>?_)
 rotate_left
 ·have hF:=qby c94 hF
  have E:=E.upd 125 c94 rfl
  refine lsz E λa E=>lsz E λa E=>ls E λa E=>pf E rfl rfl λa E=>aw E rfl λa E=>wp_ret ?_
  exact fin hF ⟨ok.drop.drop,E.d,rz E rfl⟩
 have hF:=qbz c94 hF
 have E:=E.upd 125 c94 rfl
 refine fk E ok qc1 qcr rfl 1 rfl rfl λa E=>lv E ok (qa8 qbG h8 rfl) λa E=>lw E (qaz rfl rfl) λa E=>mv E rfl λa E=>bu E 130 hF (λc95 hF E=>?_) λc95 hF E=>?_
 ·refine lsq E λa E=>ls E λa E=>pt E rfl rfl λa E=>pt E rfl rfl λa E=>aw E rfl λa E=>wp_ret ?_
  exact fin hF ⟨ok.drop.drop,E.d,rz E rfl⟩
 refine fk E ok qbm qaN rfl 1 rfl rfl λa E=>lw E (qaz rfl rfl) λa E=>pf E rfl rfl λa E=>pt E rfl rfl λa E=>aw E rfl λa E=>wp_ret ?_
 exact fin hF ⟨ok.drop.drop,E.d,rz E rfl⟩
theorem qgj{u:World}{m0:Mem}{S:Segs}{w:World}(N:Nat)(p0_0:List UInt8)(lp0_0:p0_0.length≤LIMS)(p1_1:List UInt8)(lp1_1:p1_1.length≤LIMS){r:(List UInt8)×Bool}(hF:strings_CutPrefix N p0_0 p1_1=some r)(hG:Glob u)(ok:Ok u m0 S w) :
 Calls Tryz.prog 120 [vs p0_0,vs p1_1].toArray w λe w'=>(e=.returned (.tuple [(.string (bs r.1)),(.bool r.2)].toArray)∧Ok u m0 S w')∧r.1.length≤LIMS:=qoC Tryz.lays103 p0_0 p1_1 hF lp0_0 ok
def qn5(u:World)(m0:Mem)(S:Segs)(r:Bool)(a:Act)(w:World):Prop:=
 Ok u m0 S w∧a.defers=[]∧RVs Tryz.prog a w [.t 2 (.bool r)]
theorem qnZ(N:Nat)(s_0:List UInt8)(ls_0:s_0.length≤LIMS){r:Bool}(hF:qgu N s_0=some r)(hG:Glob u)(ok:Ok u m0 S w) :
  Calls Tryz.prog 136 [vs s_0].toArray w λe w'=>(e=.returned (.bool r)∧Ok u m0 S w'):=by
 unfold qgu at hF
 refine en (qn5 u m0 S) r Tryz.func136 rfl rfl rfl (λ_ _ h=>ra h rfl) λfin a E=>sg<|aw E rfl λa E=>wp_seq<|sg<|mv E rfl λa E=>wn<|wp_block<|wp_seq<|sg<|lw E (qb6 rfl rfl) λa E=>aw E rfl λa E=>bd hF λo1 hJ hF=>qaO (Q':=λe a w=>e=.normal∧Ok u m0 (S) w∧Env 11 a [(4,vb o1)]) ?_ ?_
 rotate_left
 ·intro e a w hO
  obtain⟨rfl,ok,E⟩:=hO
  refine qaa<|cf E rfl hF (λc7 hF=>?_) λc7 hF=>?_
  ·refine sg<|aw E rfl λa E=>wp_ret<|qaA<|qak ?_
   exact fin hF ⟨ok,E.d,rz E rfl⟩
  refine wp_skip<|qal<|qaa<|sg<|aw E rfl λa E=>wp_ret ?_
  exact fin hF ⟨ok,E.d,rz E rfl⟩
 have hF:=hJ
 refine cf E rfl hF (λc2 hF=>?_) λc2 hF=>?_
 ·refine wp_skip ?_
  cases hF
  exact⟨rfl,⟨ok,E.keep [4]⟩⟩
 refine sg<|lw E (qb6 rfl rfl) λa E=>aw E rfl λa E=>cf E rfl hF (λc3 hF=>?_) λc3 hF=>?_
 ·refine wp_skip ?_
  cases hF
  exact⟨rfl,⟨ok,E.keep [4]⟩⟩
 refine sg<|lw E (qb6 rfl rfl) λa E=>aw E rfl λa E=>cf E rfl hF (λc4 hF=>?_) λc4 hF=>?_
 ·refine wp_skip ?_
  cases hF
  exact⟨rfl,⟨ok,E.keep [4]⟩⟩
 refine sg<|lw E (qb6 rfl rfl) λa E=>aw E rfl λa E=>cf E rfl hF (λc5 hF=>?_) λc5 hF=>?_
 ·refine wp_skip ?_
  cases hF
  exact⟨rfl,⟨ok,E.keep [4]⟩⟩
 refine sg<|lw E (qb6 rfl rfl) λa E=>aw E rfl λa E=>cf E rfl hF (λc6 hF=>?_) λc6 hF=>?_
 ·refine wp_skip ?_
  cases hF
  exact⟨rfl,⟨ok,E.keep [4]⟩⟩
 refine qab<|lw E (qb6 rfl rfl) λa E=>av E rfl λa E=>wpList_nil ?_
 cases hF
 exact⟨rfl,⟨ok,E.keep [4]⟩⟩
theorem qoI(N:Nat)(p0_0:List UInt8)(lp0_0:p0_0.length≤LIMS)(p1_1:List UInt8)(lp1_1:p1_1.length≤LIMS){r:(List UInt8)×(List UInt8)×Bool}(hF:strings_Cut N p0_0 p1_1=some r)(hG:Glob u)(ok:Ok u m0 S w) :
  Calls Tryz.prog 143 [vs p0_0,vs p1_1].toArray w λe w'=>(e=.returned (.tuple [(.string (bs r.1)),(.string (bs r.2.1)),(.bool r.2.2)].toArray)∧Ok u m0 S w')∧r.1.length≤LIMS∧r.2.1.length≤LIMS:=by
 obtain⟨mx,hmx⟩:=hG
 exact qur Tryz.lays145 hmx p0_0 p1_1 hF lp0_0 ok
theorem qj0{u:World}{m0:Mem}{S:Segs}{w:World}(N:Nat)(p0_0:List UInt8)(lp0_0:p0_0.length≤LIMS)(p1_1:List UInt8)(lp1_1:p1_1.length≤LIMS){r:(List UInt8)}(hF:qe7 N p0_0 p1_1=some r)(hG:Glob u)(ok:Ok u m0 S w) :
 Calls Tryz.prog 147 [vs p0_0,vs p1_1].toArray w λe w'=>(e=.returned (.string (bs r))∧Ok u m0 S w')∧r.length≤LIMS:=qsD Tryz.lays160 (by kernel_rfl) p0_0 p1_1 hF lp0_0 ok
def qmL(u:World)(m0:Mem)(S:Segs)(r:Bool)(a:Act)(w:World):Prop:=
 Ok u m0 S w∧a.defers=[]∧RVs Tryz.prog a w [.t 2 (.bool r)]
theorem qe2(N:Nat)(s_0:List UInt8)(ls_0:s_0.length≤LIMS){r:Bool}(hF:qdF N s_0=some r)(hG:Glob u)(ok:Ok u m0 S w) :
  Calls Tryz.prog 144 [vs s_0].toArray w λe w'=>(e=.returned (.bool r)∧Ok u m0 S w'):=by
 unfold qdF at hF
 refine en (qmL u m0 S) r Tryz.func144 rfl rfl rfl (λ_ _ h=>ra h rfl) λfin a E=>sg<|aw E rfl λa E=>sg<|mv E rfl λa E=>bd hF λr1 e2 hF=>qae E qri rfl (qj0 N s_0 ls_0 ([48,49,50,51,52,53,54,55,56,57]) (show([48,49,50,51,52,53,54,55,56,57]:List UInt8).length≤LIMS by decide) e2 hG ok) rfl rfl ?_
 rintro _ w ⟨⟨rfl,ok⟩,l3⟩
 refine⟨_,rfl,λa E=>?_⟩
 refine lw E (qb6 rfl rfl) λa E=>aw E rfl λa E=>wp_ret ?_
 exact fin hF ⟨ok,E.d,rz E rfl⟩
def qnR(u:World)(m0:Mem)(S:Segs)(r:Bool)(a:Act)(w:World):Prop:=
 Ok u m0 S w∧a.defers=[]∧RVs Tryz.prog a w [.t 2 (.bool r)]
theorem qkr(N:Nat)(s_0:List UInt8)(ls_0:s_0.length≤LIMS){r:Bool}(hF:qfT N s_0=some r)(hG:Glob u)(ok:Ok u m0 S w) :
  Calls Tryz.prog 148 [vs s_0].toArray w λe w'=>(e=.returned (.bool r)∧Ok u m0 S w'):=by
 unfold qfT at hF
 refine en (qnR u m0 S) r Tryz.func148 rfl rfl rfl (λ_ _ h=>ra h rfl) λfin a E=>sg<|aw E rfl λa E=>sg<|mv E rfl λa E=>bd hF λr1 e2 hF=>qae E qri rfl (qj0 N s_0 ls_0 ([48]) (show([48]:List UInt8).length≤LIMS by decide) e2 hG ok) rfl rfl ?_
 rintro _ w ⟨⟨rfl,ok⟩,l3⟩
 refine⟨_,rfl,λa E=>?_⟩
 refine lw E (qb6 rfl rfl) λa E=>aw E rfl λa E=>wp_ret ?_
 exact fin hF ⟨ok,E.d,rz E rfl⟩
def qku(u:World)(m0:Mem)(S:Segs)(r:Bool)(a:Act)(w:World):Prop:=
 Ok u m0 S w∧a.defers=[]∧RVs Tryz.prog a w [.t 2 (.bool r)]
theorem qeM(N:Nat)(vx_0:List Value)(x_0:Number)(hx_0:qnO m0 vx_0 x_0){r:Bool}(hF:qdm N x_0=some r)(hG:Glob u)(ok:Ok u m0 S w) :
  Calls Tryz.prog 145 [.agg vx_0.toArray].toArray w λe w'=>(e=.returned (.bool r)∧Ok u m0 S w'):=by
 obtain⟨rfl,l1,l2⟩:=hx_0
 unfold qdm at hF
 refine en (qku u m0 S) r Tryz.func145 rfl rfl rfl (λ_ _ h=>ra h rfl) λfin a E=>sg<|qgl E ok rfl rfl rfl λb3 a w E ok=>aw E rfl λa E=>sg<|fk E ok qso qax rfl 0 rfl rfl λa E=>bd hF λr4 e5 hF=>lc E qrH rfl (qkr N x_0.whole l1 e5 hG ok) λw ok a E=>mv E rfl λa E=>qbx r4 (λc6=>?_) (λc6=>?_)
 rotate_left
 ·have hF:=qby c6 hF
  have E:=E.upd 6 c6 rfl
  refine lsq E λa E=>ls E λa E=>pf E rfl rfl λa E=>aw E rfl λa E=>wp_ret ?_
  exact fin hF ⟨ok.drop,E.d,rz E rfl⟩
 have hF:=qbz c6 hF
 have E:=E.upd 6 c6 rfl
 refine fk E ok qth qax rfl 0 rfl rfl λa E=>bd hF λr7 e8 hF=>lc E qrH rfl (qkr N x_0.fraction l2 e8 hG ok) λw ok a E=>pt E rfl rfl λa E=>aw E rfl λa E=>wp_ret ?_
 exact fin hF ⟨ok.drop,E.d,rz E rfl⟩
def qm7(u:World)(m0:Mem)(S:Segs)(r:Number×Bool)(a:Act)(w:World):Prop:=
 ∃ m1 v0,m0.le m1∧Ok u m1 S w∧a.defers=[]∧RVs Tryz.prog a w [.c 2 205 (.agg v0.toArray),.t 3 (.bool r.2)]∧qnO m1 v0 r.1
theorem qnx(N:Nat)(s_0:List UInt8)(ls_0:s_0.length≤LIMS){r:Number×Bool}(hF:qga N s_0=some r)(hG:Glob u)(ok:Ok u m0 S w) :
  Calls Tryz.prog 142 [vs s_0].toArray w λe w'=>∃ m1 v0,e=.returned (.tuple [(.agg v0.toArray),(.bool r.2)].toArray)∧m0.le m1∧Ok u m1 S w'∧qnO m1 v0 r.1:=by
 have le_m0:=Mem.le.refl m0
 unfold qga at hF
 refine en (qm7 u m0 S) r Tryz.func142 rfl rfl rfl (by rintro a w ⟨m1,v0,hle,ok,hd,hrv,h0⟩;exact qbf [.c 2 205 (.agg v0.toArray),.t 3 (.bool r.2)] hd rfl hrv ⟨m1,v0,rfl,hle,ok,h0⟩) λfin a E=>sg<|qaL E ok qkU rfl rfl λb1 a w E ok=>aw E rfl λa E=>sg<|mv E rfl λa E=>bd hF λr2 e3 hF=>qae E qoV rfl (qgj N s_0 ls_0 ([45]) (show([45]:List UInt8).length≤LIMS by decide) e3 hG ok) rfl rfl ?_
 rintro _ w ⟨⟨rfl,ok⟩,l4⟩
 refine⟨_,rfl,λa E=>?_⟩
 refine mv E rfl λa E=>lw E (qag rfl rfl) λa E=>lw E (qag rfl rfl) λa E=>av E rfl λa E=>aw E rfl λa E=>sg<|mv E rfl λa E=>bd hF λr5 e6 hF=>qae E qvq rfl (qoI N r2.1 l4 ([46]) (show([46]:List UInt8).length≤LIMS by decide) e6 hG ok) rfl rfl ?_
 rintro _ w ⟨⟨rfl,ok⟩,l7,l8⟩
 refine⟨_,rfl,λa E=>?_⟩
 refine mv E rfl λa E=>lw E (qag rfl rfl) λa E=>lw E (qag rfl rfl) λa E=>lw E (qag rfl rfl) λa E=>av E rfl λa E=>av E rfl λa E=>av E rfl λa E=>wn<|sg<|mz E rfl rfl λa E=>mv E rfl λa E=>lw E (qbY (ps:=[(0,.tmp 21),(1,.tmp 22),(2,.tmp 23)]) (qs:=[(0,[vb r2.2]),(1,[vs r5.1]),(2,[vs r5.2.1])]) (cs:=[vb r2.2,vs r5.1,vs r5.2.1]) qkU qq8 rfl ⟨rfl,rfl,rfl,⟨rfl,rfl,rfl,⟨rfl,rfl,rfl,trivial⟩⟩⟩ rfl) λa E=>qaL E ok qkU rfl rfl λb9 a w E ok=>?_
 refine qai E ok 0 rfl rfl rfl qcN rfl rfl ⟨rfl,rfl,rfl,trivial⟩ rfl rfl λw ok=>wn<|wp_seq<|wp_block<|sg<|mv E rfl λa E=>lw E (qbp Tryz.underlying9 rfl) λa E=>lw E (qaP rfl rfl) λa E=>mv E rfl λa E=>bu E 29 hF (λc10 hF E=>?_) λc10 hF E=>?_
 ·refine lsq E λa E=>ls E λa E=>pt E rfl rfl λa E=>mv E rfl λa E=>lsq E λa E=>ls E λa E=>pt E rfl rfl λa E=>mv E rfl λa E=>lsz E λa E=>lsq E λa E=>?_
  refine lsq E λa E=>pt E rfl rfl λa E=>aw E rfl λa E=>c_if E rfl (λ_=>?_) (λh=>by cases h)
  refine sg<|lv E ok (qao (cs:=[vb r2.2,vs r5.1,vs r5.2.1]) qbs rfl rfl (Holds.own 0 rfl rfl)) λa E=>qai E ok 1 rfl rfl rfl qcN rfl rfl ⟨rfl,rfl,rfl,trivial⟩ rfl rfl λw ok=>aw E rfl λa E=>wp_ret<|qaA<|qak ?_
  exact fin hF ⟨m0,[vb r2.2,vs r5.1,vs r5.2.1],le_m0,ok.drop.drop,E.d,⟨rv_c (cs:=[vb r2.2,vs r5.1,vs r5.2.1]) E ok rfl qbs rfl (Holds.own 1 rfl rfl),rv_t E rfl,trivial⟩,⟨rfl,l7,l8⟩⟩
 refine mv E rfl λa E=>lw E (qbp Tryz.underlying9 rfl) λa E=>lw E (qcv rfl rfl) λa E=>pf E rfl rfl λa E=>mv E rfl λa E=>bu E 34 hF (λc11 hF E=>?_) λc11 hF E=>?_
 ·refine lsq E λa E=>ls E λa E=>pt E rfl rfl λa E=>mv E rfl λa E=>lsz E λa E=>lsz E λa E=>pt E rfl rfl λa E=>av E rfl λa E=>wn<|c_if E rfl (λ_=>?_) (λh=>by cases h)
  refine sg<|lv E ok (qao (cs:=[vb r2.2,vs r5.1,vs r5.2.1]) qbs rfl rfl (Holds.own 0 rfl rfl)) λa E=>qai E ok 1 rfl rfl rfl qcN rfl rfl ⟨rfl,rfl,rfl,trivial⟩ rfl rfl λw ok=>aw E rfl λa E=>wp_ret<|qaA<|qak ?_
  exact fin hF ⟨m0,[vb r2.2,vs r5.1,vs r5.2.1],le_m0,ok.drop.drop,E.d,⟨rv_c (cs:=[vb r2.2,vs r5.1,vs r5.2.1]) E ok rfl qbs rfl (Holds.own 1 rfl rfl),rv_t E rfl,trivial⟩,⟨rfl,l7,l8⟩⟩
 refine mv E rfl λa E=>bd hF λr12 e13 hF=>lc E qlU rfl (qe2 N r5.1 l7 e13 hG ok) λw ok a E=>lw E (qa9 rfl) λa E=>pf E rfl rfl λa E=>mv E rfl λa E=>bu E 39 hF (λc14 hF E=>?_) λc14 hF E=>?_
 ·refine lsz E λa E=>lsz E λa E=>pt E rfl rfl λa E=>aw E rfl λa E=>c_if E rfl (λ_=>?_) (λh=>by cases h)
  refine sg<|lv E ok (qao (cs:=[vb r2.2,vs r5.1,vs r5.2.1]) qbs rfl rfl (Holds.own 0 rfl rfl)) λa E=>qai E ok 1 rfl rfl rfl qcN rfl rfl ⟨rfl,rfl,rfl,trivial⟩ rfl rfl λw ok=>aw E rfl λa E=>wp_ret<|qaA<|qak ?_
  exact fin hF ⟨m0,[vb r2.2,vs r5.1,vs r5.2.1],le_m0,ok.drop.drop,E.d,⟨rv_c (cs:=[vb r2.2,vs r5.1,vs r5.2.1]) E ok rfl qbs rfl (Holds.own 1 rfl rfl),rv_t E rfl,trivial⟩,⟨rfl,l7,l8⟩⟩
 refine mv E rfl λa E=>lw E (qbp Tryz.underlying9 rfl) λa E=>lw E (qcv rfl rfl) λa E=>mv E rfl λa E=>bw E 43 hF (λc15 hF E=>?_) λc15 hF E=>?_
 ·as_aux_lemma=>
   refine lsq E λa E=>ls E λa E=>pf E rfl rfl λa E=>pf E rfl rfl λa E=>aw E rfl λa E=>c_if E rfl (λh=>by cases h) (λ_=>?_)
   refine sg<|mz E rfl rfl λa E=>qbx r5.2.2 (λc45=>?_) (λc45=>?_)
   rotate_left
   ·as_aux_lemma=>
     have hF:=qby c45 hF
     have E:=E.upd 52 c45 rfl
     refine lsq E λa E=>ls E λa E=>pf E rfl rfl λa E=>mz E rfl rfl λa E=>lw E (qbp Tryz.underlying9 rfl) λa E=>lw E (qcv rfl rfl) λa E=>pf E rfl rfl λa E=>mv E rfl λa E=>bu E 62 hF (λc59 hF E=>?_) λc59 hF E=>?_
     ·refine lsq E λa E=>ls E λa E=>pt E rfl rfl λa E=>aw E rfl λa E=>c_if E rfl (λ_=>?_) (λh=>by cases h)
      refine sg<|lv E ok (qao (cs:=[vb r2.2,vs r5.1,vs r5.2.1]) qbs rfl rfl (Holds.own 0 rfl rfl)) λa E=>qai E ok 1 rfl rfl rfl qcN rfl rfl ⟨rfl,rfl,rfl,trivial⟩ rfl rfl λw ok=>aw E rfl λa E=>wp_ret<|qaA<|qak ?_
      exact fin hF ⟨m0,[vb r2.2,vs r5.1,vs r5.2.1],le_m0,ok.drop.drop,E.d,⟨rv_c (cs:=[vb r2.2,vs r5.1,vs r5.2.1]) E ok rfl qbs rfl (Holds.own 1 rfl rfl),rv_t E rfl,trivial⟩,⟨rfl,l7,l8⟩⟩
     refine mv E rfl λa E=>bd hF λr60 e61 hF=>lc E qlU rfl (qe2 N r5.2.1 l8 e61 hG ok) λw ok a E=>lw E (qa9 rfl) λa E=>pf E rfl rfl λa E=>aw E rfl λa E=>cf E rfl hF (λc62 hF=>?_) λc62 hF=>?_
     ·refine sg<|lv E ok (qao (cs:=[vb r2.2,vs r5.1,vs r5.2.1]) qbs rfl rfl (Holds.own 0 rfl rfl)) λa E=>qai E ok 1 rfl rfl rfl qcN rfl rfl ⟨rfl,rfl,rfl,trivial⟩ rfl rfl λw ok=>aw E rfl λa E=>wp_ret<|qaA<|qak ?_
      exact fin hF ⟨m0,[vb r2.2,vs r5.1,vs r5.2.1],le_m0,ok.drop.drop,E.d,⟨rv_c (cs:=[vb r2.2,vs r5.1,vs r5.2.1]) E ok rfl qbs rfl (Holds.own 1 rfl rfl),rv_t E rfl,trivial⟩,⟨rfl,l7,l8⟩⟩
     refine wp_skip<|qal<|qaa<|wp_seq<|bd hF λo63 hJ hF=>qaO (Q':=λe a w=>e=.normal∧Ok u m0 ([(b9,oc 205 [vb r2.2,vs r5.1,vs r5.2.1])]::[(b1,oc 205 [vb o63.2.negative,vs o63.2.whole,vs o63.2.fraction])]::S) w∧Env 76 a [(2,vp b1),(3,vb o63.1)]∧o63.2.whole.length≤LIMS∧o63.2.fraction.length≤LIMS) ?_ ?_
     rotate_left
     ·intro e a w hO
      obtain⟨rfl,ok,E,l69,l70⟩:=hO
      refine qaa<|wp_ret ?_
      exact fin hF ⟨m0,[vb o63.2.negative,vs o63.2.whole,vs o63.2.fraction],le_m0,ok.drop.drop,E.d,⟨rv_c (cs:=[vb o63.2.negative,vs o63.2.whole,vs o63.2.fraction]) E ok rfl qbs rfl (Holds.own 1 rfl rfl),rv_t E rfl,trivial⟩,⟨rfl,l69,l70⟩⟩
     have hF:=hJ
     refine qbx (!r2.2) (λc66=>?_) (λc66=>?_)
     ·have hF:=qbz c66 hF
      cases hF
      refine qbl [0] (Cls u m0 ([(b9,oc 205 [vb r2.2,vs r5.1,vs r5.2.1])]::[(b1,oc 205 [vb false,(vs ([])),(vs ([]))])]::[])) (Cls u m0 ([(b9,oc 205 [vb r2.2,vs r5.1,vs r5.2.1])]::[])) (by kernel_rfl) ?_
      intro w hw
      replace ok:=qbA ok hw
      clear hw
      refine qaq (cl1 (cq le_m0 ok [0,1] rfl) (cq le_m0 ok [0] rfl)) λhT=>qdg 0 E rfl (by kernel_rfl) nP hT (qao (cs:=[vb r2.2,vs r5.1,vs r5.2.1]) qbs rfl rfl (Holds.cown 0 rfl rfl)) rfl rfl λa E=>kt 1 E rfl hT (qad rfl) λa E=>kt 2 E rfl hT (qa9 rfl) λa E=>kt 3 E rfl hT (qad rfl) λa E=>?_
      have E:=E.upd 71 c66 rfl
      refine qaf 4 false E rfl (by kernel_rfl) nP hT rfl rfl λa E=>qaf 5 false E rfl (by kernel_rfl) nP hT rfl rfl λa E=>qaf 6 false E rfl (by kernel_rfl) nP hT rfl rfl λa E=>kt 7 E rfl hT (qb1 rfl rfl) λa E=>qaU [8] (by kernel_rfl) rfl (qa1 ?_)
      ·refine wo rfl<|qai E ok 1 rfl rfl rfl qcN rfl rfl ⟨rfl,rfl,rfl,trivial⟩ rfl rfl λw ok=>wn<|qaq (cl2 (by kernel_rfl) (cq le_m0 ok [0] rfl)) λhT=>kt 9 E rfl hT (qa3 rfl) λa E=>qbv (by kernel_rfl) ?_
       exact⟨rfl,⟨ok,E.keep [2,3],l7,l8⟩⟩
     have hF:=qby c66 hF
     obtain⟨r67,e68,hF⟩:=bnd hF
     obtain rfl:=sj hF
     refine qbl [0] (Cls u m0 ([(b9,oc 205 [vb r2.2,vs r5.1,vs r5.2.1])]::[(b1,oc 205 [vb false,(vs ([])),(vs ([]))])]::[])) (Cls u m0 ([(b9,oc 205 [vb r2.2,vs r5.1,vs r5.2.1])]::[])) (by kernel_rfl) ?_
     intro w hw
     replace ok:=qbA ok hw
     clear hw
     refine qaq (cl1 (cq le_m0 ok [0,1] rfl) (cq le_m0 ok [0] rfl)) λhT=>qdg 0 E rfl (by kernel_rfl) nP hT (qao (cs:=[vb r2.2,vs r5.1,vs r5.2.1]) qbs rfl rfl (Holds.cown 0 rfl rfl)) rfl rfl λa E=>kt 1 E rfl hT (qad rfl) λa E=>kt 2 E rfl hT (qa9 rfl) λa E=>kt 3 E rfl hT (qad rfl) λa E=>?_
     have E:=E.upd 71 c66 rfl
     refine kt 4 E rfl hT (qao (cs:=[vb r2.2,vs r5.1,vs r5.2.1]) qbs rfl rfl (Holds.cown 0 rfl rfl)) λa E=>qaU [5] (by kernel_rfl) rfl (qa1 ?_)
     ·refine wo rfl<|lc E qmV rfl (qeM N _ (Number.mk r2.2 r5.1 r5.2.1) ⟨rfl,l7,l8⟩ e68 hG ok) λw ok a E=>wn<|qaq (cl1 (cq le_m0 ok [0,1] rfl) (cq le_m0 ok [0] rfl)) λhT=>kt 6 E rfl hT (qa9 rfl) λa E=>kt 7 E rfl hT (qbX rfl rfl) λa E=>qaU [8] (by kernel_rfl) rfl (qa1 ?_)
      ·refine wo rfl<|qai E ok 1 rfl rfl rfl qcN rfl rfl ⟨rfl,rfl,rfl,trivial⟩ rfl rfl λw ok=>wn<|qaq (cl2 (by kernel_rfl) (cq le_m0 ok [0] rfl)) λhT=>kt 9 E rfl hT (qa3 rfl) λa E=>qbv (by kernel_rfl) ?_
       exact⟨rfl,⟨ok,E.keep [2,3],l7,l8⟩⟩
   have hF:=qbz c45 hF
   have E:=E.upd 52 c45 rfl
   refine mv E rfl λa E=>lw E (qbp Tryz.underlying9 rfl) λa E=>lw E (qaz rfl rfl) λa E=>pt E rfl rfl λa E=>mv E rfl λa E=>bu E 57 hF (λc46 hF E=>?_) λc46 hF E=>?_
   ·refine lsq E λa E=>ls E λa E=>pt E rfl rfl λa E=>mv E rfl λa E=>lsq E λa E=>ls E λa E=>pt E rfl rfl λa E=>aw E rfl λa E=>c_if E rfl (λ_=>?_) (λh=>by cases h)
    refine sg<|lv E ok (qao (cs:=[vb r2.2,vs r5.1,vs r5.2.1]) qbs rfl rfl (Holds.own 0 rfl rfl)) λa E=>qai E ok 1 rfl rfl rfl qcN rfl rfl ⟨rfl,rfl,rfl,trivial⟩ rfl rfl λw ok=>aw E rfl λa E=>wp_ret<|qaA<|qak ?_
    exact fin hF ⟨m0,[vb r2.2,vs r5.1,vs r5.2.1],le_m0,ok.drop.drop,E.d,⟨rv_c (cs:=[vb r2.2,vs r5.1,vs r5.2.1]) E ok rfl qbs rfl (Holds.own 1 rfl rfl),rv_t E rfl,trivial⟩,⟨rfl,l7,l8⟩⟩
   refine mv E rfl λa E=>lw E (qbp Tryz.underlying9 rfl) λa E=>lw E (qcv rfl rfl) λa E=>pf E rfl rfl λa E=>mv E rfl λa E=>bu E 62 hF (λc47 hF E=>?_) λc47 hF E=>?_
   ·refine lsq E λa E=>ls E λa E=>pt E rfl rfl λa E=>aw E rfl λa E=>c_if E rfl (λ_=>?_) (λh=>by cases h)
    refine sg<|lv E ok (qao (cs:=[vb r2.2,vs r5.1,vs r5.2.1]) qbs rfl rfl (Holds.own 0 rfl rfl)) λa E=>qai E ok 1 rfl rfl rfl qcN rfl rfl ⟨rfl,rfl,rfl,trivial⟩ rfl rfl λw ok=>aw E rfl λa E=>wp_ret<|qaA<|qak ?_
    exact fin hF ⟨m0,[vb r2.2,vs r5.1,vs r5.2.1],le_m0,ok.drop.drop,E.d,⟨rv_c (cs:=[vb r2.2,vs r5.1,vs r5.2.1]) E ok rfl qbs rfl (Holds.own 1 rfl rfl),rv_t E rfl,trivial⟩,⟨rfl,l7,l8⟩⟩
   refine mv E rfl λa E=>bd hF λr48 e49 hF=>lc E qlU rfl (qe2 N r5.2.1 l8 e49 hG ok) λw ok a E=>lw E (qa9 rfl) λa E=>pf E rfl rfl λa E=>aw E rfl λa E=>cf E rfl hF (λc50 hF=>?_) λc50 hF=>?_
   ·refine sg<|lv E ok (qao (cs:=[vb r2.2,vs r5.1,vs r5.2.1]) qbs rfl rfl (Holds.own 0 rfl rfl)) λa E=>qai E ok 1 rfl rfl rfl qcN rfl rfl ⟨rfl,rfl,rfl,trivial⟩ rfl rfl λw ok=>aw E rfl λa E=>wp_ret<|qaA<|qak ?_
    exact fin hF ⟨m0,[vb r2.2,vs r5.1,vs r5.2.1],le_m0,ok.drop.drop,E.d,⟨rv_c (cs:=[vb r2.2,vs r5.1,vs r5.2.1]) E ok rfl qbs rfl (Holds.own 1 rfl rfl),rv_t E rfl,trivial⟩,⟨rfl,l7,l8⟩⟩
   refine wp_skip<|qal<|qaa<|wp_seq<|bd hF λo51 hJ hF=>qaO (Q':=λe a w=>e=.normal∧Ok u m0 ([(b9,oc 205 [vb r2.2,vs r5.1,vs r5.2.1])]::[(b1,oc 205 [vb o51.2.negative,vs o51.2.whole,vs o51.2.fraction])]::S) w∧Env 76 a [(2,vp b1),(3,vb o51.1)]∧o51.2.whole.length≤LIMS∧o51.2.fraction.length≤LIMS) ?_ ?_
   rotate_left
   ·intro e a w hO
    obtain⟨rfl,ok,E,l57,l58⟩:=hO
    refine qaa<|wp_ret ?_
    exact fin hF ⟨m0,[vb o51.2.negative,vs o51.2.whole,vs o51.2.fraction],le_m0,ok.drop.drop,E.d,⟨rv_c (cs:=[vb o51.2.negative,vs o51.2.whole,vs o51.2.fraction]) E ok rfl qbs rfl (Holds.own 1 rfl rfl),rv_t E rfl,trivial⟩,⟨rfl,l57,l58⟩⟩
   have hF:=hJ
   refine qbx (!r2.2) (λc54=>?_) (λc54=>?_)
   ·have hF:=qbz c54 hF
    cases hF
    refine qbl [0] (Cls u m0 ([(b9,oc 205 [vb r2.2,vs r5.1,vs r5.2.1])]::[(b1,oc 205 [vb false,(vs ([])),(vs ([]))])]::[])) (Cls u m0 ([(b9,oc 205 [vb r2.2,vs r5.1,vs r5.2.1])]::[])) (by kernel_rfl) ?_
    intro w hw
    replace ok:=qbA ok hw
    clear hw
    refine qaq (cl1 (cq le_m0 ok [0,1] rfl) (cq le_m0 ok [0] rfl)) λhT=>qdg 0 E rfl (by kernel_rfl) nP hT (qao (cs:=[vb r2.2,vs r5.1,vs r5.2.1]) qbs rfl rfl (Holds.cown 0 rfl rfl)) rfl rfl λa E=>kt 1 E rfl hT (qad rfl) λa E=>kt 2 E rfl hT (qa9 rfl) λa E=>kt 3 E rfl hT (qad rfl) λa E=>?_
    have E:=E.upd 71 c54 rfl
    refine qaf 4 false E rfl (by kernel_rfl) nP hT rfl rfl λa E=>qaf 5 false E rfl (by kernel_rfl) nP hT rfl rfl λa E=>qaf 6 false E rfl (by kernel_rfl) nP hT rfl rfl λa E=>kt 7 E rfl hT (qb1 rfl rfl) λa E=>qaU [8] (by kernel_rfl) rfl (qa1 ?_)
    ·refine wo rfl<|qai E ok 1 rfl rfl rfl qcN rfl rfl ⟨rfl,rfl,rfl,trivial⟩ rfl rfl λw ok=>wn<|qaq (cl2 (by kernel_rfl) (cq le_m0 ok [0] rfl)) λhT=>kt 9 E rfl hT (qa3 rfl) λa E=>qbv (by kernel_rfl) ?_
     exact⟨rfl,⟨ok,E.keep [2,3],l7,l8⟩⟩
   have hF:=qby c54 hF
   obtain⟨r55,e56,hF⟩:=bnd hF
   obtain rfl:=sj hF
   refine qbl [0] (Cls u m0 ([(b9,oc 205 [vb r2.2,vs r5.1,vs r5.2.1])]::[(b1,oc 205 [vb false,(vs ([])),(vs ([]))])]::[])) (Cls u m0 ([(b9,oc 205 [vb r2.2,vs r5.1,vs r5.2.1])]::[])) (by kernel_rfl) ?_
   intro w hw
   replace ok:=qbA ok hw
   clear hw
   refine qaq (cl1 (cq le_m0 ok [0,1] rfl) (cq le_m0 ok [0] rfl)) λhT=>qdg 0 E rfl (by kernel_rfl) nP hT (qao (cs:=[vb r2.2,vs r5.1,vs r5.2.1]) qbs rfl rfl (Holds.cown 0 rfl rfl)) rfl rfl λa E=>kt 1 E rfl hT (qad rfl) λa E=>kt 2 E rfl hT (qa9 rfl) λa E=>kt 3 E rfl hT (qad rfl) λa E=>?_
   have E:=E.upd 71 c54 rfl
   refine kt 4 E rfl hT (qao (cs:=[vb r2.2,vs r5.1,vs r5.2.1]) qbs rfl rfl (Holds.cown 0 rfl rfl)) λa E=>qaU [5] (by kernel_rfl) rfl (qa1 ?_)
   ·refine wo rfl<|lc E qmV rfl (qeM N _ (Number.mk r2.2 r5.1 r5.2.1) ⟨rfl,l7,l8⟩ e56 hG ok) λw ok a E=>wn<|qaq (cl1 (cq le_m0 ok [0,1] rfl) (cq le_m0 ok [0] rfl)) λhT=>kt 6 E rfl hT (qa9 rfl) λa E=>kt 7 E rfl hT (qbX rfl rfl) λa E=>qaU [8] (by kernel_rfl) rfl (qa1 ?_)
    ·refine wo rfl<|qai E ok 1 rfl rfl rfl qcN rfl rfl ⟨rfl,rfl,rfl,trivial⟩ rfl rfl λw ok=>wn<|qaq (cl2 (by kernel_rfl) (cq le_m0 ok [0] rfl)) λhT=>kt 9 E rfl hT (qa3 rfl) λa E=>qbv (by kernel_rfl) ?_
     exact⟨rfl,⟨ok,E.keep [2,3],l7,l8⟩⟩
 refine mv E rfl λa E=>bd hF λc16 e17 hF=>lv E ok (qbU Tryz.underlying9 rfl rfl e17) λa E=>lw E (qaz rfl rfl) λa E=>pt E rfl rfl λa E=>pf E rfl rfl λa E=>aw E rfl λa E=>cf E rfl hF (λc18 hF=>?_) λc18 hF=>?_
 ·refine sg<|lv E ok (qao (cs:=[vb r2.2,vs r5.1,vs r5.2.1]) qbs rfl rfl (Holds.own 0 rfl rfl)) λa E=>qai E ok 1 rfl rfl rfl qcN rfl rfl ⟨rfl,rfl,rfl,trivial⟩ rfl rfl λw ok=>aw E rfl λa E=>wp_ret<|qaA<|qak ?_
  exact fin hF ⟨m0,[vb r2.2,vs r5.1,vs r5.2.1],le_m0,ok.drop.drop,E.d,⟨rv_c (cs:=[vb r2.2,vs r5.1,vs r5.2.1]) E ok rfl qbs rfl (Holds.own 1 rfl rfl),rv_t E rfl,trivial⟩,⟨rfl,l7,l8⟩⟩
 refine sg<|mz E rfl rfl λa E=>qbx r5.2.2 (λc19=>?_) (λc19=>?_)
 rotate_left
 ·as_aux_lemma=>
   have hF:=qby c19 hF
   have E:=E.upd 52 c19 rfl
   refine lsq E λa E=>ls E λa E=>pf E rfl rfl λa E=>mz E rfl rfl λa E=>lw E (qbp Tryz.underlying9 rfl) λa E=>lw E (qcv rfl rfl) λa E=>pf E rfl rfl λa E=>mv E rfl λa E=>bu E 62 hF (λc33 hF E=>?_) λc33 hF E=>?_
   ·refine lsq E λa E=>ls E λa E=>pt E rfl rfl λa E=>aw E rfl λa E=>c_if E rfl (λ_=>?_) (λh=>by cases h)
    refine sg<|lv E ok (qao (cs:=[vb r2.2,vs r5.1,vs r5.2.1]) qbs rfl rfl (Holds.own 0 rfl rfl)) λa E=>qai E ok 1 rfl rfl rfl qcN rfl rfl ⟨rfl,rfl,rfl,trivial⟩ rfl rfl λw ok=>aw E rfl λa E=>wp_ret<|qaA<|qak ?_
    exact fin hF ⟨m0,[vb r2.2,vs r5.1,vs r5.2.1],le_m0,ok.drop.drop,E.d,⟨rv_c (cs:=[vb r2.2,vs r5.1,vs r5.2.1]) E ok rfl qbs rfl (Holds.own 1 rfl rfl),rv_t E rfl,trivial⟩,⟨rfl,l7,l8⟩⟩
   refine mv E rfl λa E=>bd hF λr34 e35 hF=>lc E qlU rfl (qe2 N r5.2.1 l8 e35 hG ok) λw ok a E=>lw E (qa9 rfl) λa E=>pf E rfl rfl λa E=>aw E rfl λa E=>cf E rfl hF (λc36 hF=>?_) λc36 hF=>?_
   ·refine sg<|lv E ok (qao (cs:=[vb r2.2,vs r5.1,vs r5.2.1]) qbs rfl rfl (Holds.own 0 rfl rfl)) λa E=>qai E ok 1 rfl rfl rfl qcN rfl rfl ⟨rfl,rfl,rfl,trivial⟩ rfl rfl λw ok=>aw E rfl λa E=>wp_ret<|qaA<|qak ?_
    exact fin hF ⟨m0,[vb r2.2,vs r5.1,vs r5.2.1],le_m0,ok.drop.drop,E.d,⟨rv_c (cs:=[vb r2.2,vs r5.1,vs r5.2.1]) E ok rfl qbs rfl (Holds.own 1 rfl rfl),rv_t E rfl,trivial⟩,⟨rfl,l7,l8⟩⟩
   refine wp_skip<|qal<|qaa<|wp_seq<|bd hF λo37 hJ hF=>qaO (Q':=λe a w=>e=.normal∧Ok u m0 ([(b9,oc 205 [vb r2.2,vs r5.1,vs r5.2.1])]::[(b1,oc 205 [vb o37.2.negative,vs o37.2.whole,vs o37.2.fraction])]::S) w∧Env 76 a [(2,vp b1),(3,vb o37.1)]∧o37.2.whole.length≤LIMS∧o37.2.fraction.length≤LIMS) ?_ ?_
   rotate_left
   ·intro e a w hO
    obtain⟨rfl,ok,E,l43,l44⟩:=hO
    refine qaa<|wp_ret ?_
    exact fin hF ⟨m0,[vb o37.2.negative,vs o37.2.whole,vs o37.2.fraction],le_m0,ok.drop.drop,E.d,⟨rv_c (cs:=[vb o37.2.negative,vs o37.2.whole,vs o37.2.fraction]) E ok rfl qbs rfl (Holds.own 1 rfl rfl),rv_t E rfl,trivial⟩,⟨rfl,l43,l44⟩⟩
   have hF:=hJ
   refine qbx (!r2.2) (λc40=>?_) (λc40=>?_)
   ·have hF:=qbz c40 hF
    cases hF
    refine qbl [0] (Cls u m0 ([(b9,oc 205 [vb r2.2,vs r5.1,vs r5.2.1])]::[(b1,oc 205 [vb false,(vs ([])),(vs ([]))])]::[])) (Cls u m0 ([(b9,oc 205 [vb r2.2,vs r5.1,vs r5.2.1])]::[])) (by kernel_rfl) ?_
    intro w hw
    replace ok:=qbA ok hw
    clear hw
    refine qaq (cl1 (cq le_m0 ok [0,1] rfl) (cq le_m0 ok [0] rfl)) λhT=>qdg 0 E rfl (by kernel_rfl) nP hT (qao (cs:=[vb r2.2,vs r5.1,vs r5.2.1]) qbs rfl rfl (Holds.cown 0 rfl rfl)) rfl rfl λa E=>kt 1 E rfl hT (qad rfl) λa E=>kt 2 E rfl hT (qa9 rfl) λa E=>kt 3 E rfl hT (qad rfl) λa E=>?_
    have E:=E.upd 71 c40 rfl
    refine qaf 4 false E rfl (by kernel_rfl) nP hT rfl rfl λa E=>qaf 5 false E rfl (by kernel_rfl) nP hT rfl rfl λa E=>qaf 6 false E rfl (by kernel_rfl) nP hT rfl rfl λa E=>kt 7 E rfl hT (qb1 rfl rfl) λa E=>qaU [8] (by kernel_rfl) rfl (qa1 ?_)
    ·refine wo rfl<|qai E ok 1 rfl rfl rfl qcN rfl rfl ⟨rfl,rfl,rfl,trivial⟩ rfl rfl λw ok=>wn<|qaq (cl2 (by kernel_rfl) (cq le_m0 ok [0] rfl)) λhT=>kt 9 E rfl hT (qa3 rfl) λa E=>qbv (by kernel_rfl) ?_
     exact⟨rfl,⟨ok,E.keep [2,3],l7,l8⟩⟩
   have hF:=qby c40 hF
   obtain⟨r41,e42,hF⟩:=bnd hF
   obtain rfl:=sj hF
   refine qbl [0] (Cls u m0 ([(b9,oc 205 [vb r2.2,vs r5.1,vs r5.2.1])]::[(b1,oc 205 [vb false,(vs ([])),(vs ([]))])]::[])) (Cls u m0 ([(b9,oc 205 [vb r2.2,vs r5.1,vs r5.2.1])]::[])) (by kernel_rfl) ?_
   intro w hw
   replace ok:=qbA ok hw
   clear hw
   refine qaq (cl1 (cq le_m0 ok [0,1] rfl) (cq le_m0 ok [0] rfl)) λhT=>qdg 0 E rfl (by kernel_rfl) nP hT (qao (cs:=[vb r2.2,vs r5.1,vs r5.2.1]) qbs rfl rfl (Holds.cown 0 rfl rfl)) rfl rfl λa E=>kt 1 E rfl hT (qad rfl) λa E=>kt 2 E rfl hT (qa9 rfl) λa E=>kt 3 E rfl hT (qad rfl) λa E=>?_
   have E:=E.upd 71 c40 rfl
   refine kt 4 E rfl hT (qao (cs:=[vb r2.2,vs r5.1,vs r5.2.1]) qbs rfl rfl (Holds.cown 0 rfl rfl)) λa E=>qaU [5] (by kernel_rfl) rfl (qa1 ?_)
   ·refine wo rfl<|lc E qmV rfl (qeM N _ (Number.mk r2.2 r5.1 r5.2.1) ⟨rfl,l7,l8⟩ e42 hG ok) λw ok a E=>wn<|qaq (cl1 (cq le_m0 ok [0,1] rfl) (cq le_m0 ok [0] rfl)) λhT=>kt 6 E rfl hT (qa9 rfl) λa E=>kt 7 E rfl hT (qbX rfl rfl) λa E=>qaU [8] (by kernel_rfl) rfl (qa1 ?_)
    ·refine wo rfl<|qai E ok 1 rfl rfl rfl qcN rfl rfl ⟨rfl,rfl,rfl,trivial⟩ rfl rfl λw ok=>wn<|qaq (cl2 (by kernel_rfl) (cq le_m0 ok [0] rfl)) λhT=>kt 9 E rfl hT (qa3 rfl) λa E=>qbv (by kernel_rfl) ?_
     exact⟨rfl,⟨ok,E.keep [2,3],l7,l8⟩⟩
 have hF:=qbz c19 hF
 have E:=E.upd 52 c19 rfl
 refine mv E rfl λa E=>lw E (qbp Tryz.underlying9 rfl) λa E=>lw E (qaz rfl rfl) λa E=>pt E rfl rfl λa E=>mv E rfl λa E=>bu E 57 hF (λc20 hF E=>?_) λc20 hF E=>?_
 ·refine lsq E λa E=>ls E λa E=>pt E rfl rfl λa E=>mv E rfl λa E=>lsq E λa E=>ls E λa E=>pt E rfl rfl λa E=>aw E rfl λa E=>c_if E rfl (λ_=>?_) (λh=>by cases h)
  refine sg<|lv E ok (qao (cs:=[vb r2.2,vs r5.1,vs r5.2.1]) qbs rfl rfl (Holds.own 0 rfl rfl)) λa E=>qai E ok 1 rfl rfl rfl qcN rfl rfl ⟨rfl,rfl,rfl,trivial⟩ rfl rfl λw ok=>aw E rfl λa E=>wp_ret<|qaA<|qak ?_
  exact fin hF ⟨m0,[vb r2.2,vs r5.1,vs r5.2.1],le_m0,ok.drop.drop,E.d,⟨rv_c (cs:=[vb r2.2,vs r5.1,vs r5.2.1]) E ok rfl qbs rfl (Holds.own 1 rfl rfl),rv_t E rfl,trivial⟩,⟨rfl,l7,l8⟩⟩
 refine mv E rfl λa E=>lw E (qbp Tryz.underlying9 rfl) λa E=>lw E (qcv rfl rfl) λa E=>pf E rfl rfl λa E=>mv E rfl λa E=>bu E 62 hF (λc21 hF E=>?_) λc21 hF E=>?_
 ·refine lsq E λa E=>ls E λa E=>pt E rfl rfl λa E=>aw E rfl λa E=>c_if E rfl (λ_=>?_) (λh=>by cases h)
  refine sg<|lv E ok (qao (cs:=[vb r2.2,vs r5.1,vs r5.2.1]) qbs rfl rfl (Holds.own 0 rfl rfl)) λa E=>qai E ok 1 rfl rfl rfl qcN rfl rfl ⟨rfl,rfl,rfl,trivial⟩ rfl rfl λw ok=>aw E rfl λa E=>wp_ret<|qaA<|qak ?_
  exact fin hF ⟨m0,[vb r2.2,vs r5.1,vs r5.2.1],le_m0,ok.drop.drop,E.d,⟨rv_c (cs:=[vb r2.2,vs r5.1,vs r5.2.1]) E ok rfl qbs rfl (Holds.own 1 rfl rfl),rv_t E rfl,trivial⟩,⟨rfl,l7,l8⟩⟩
 refine mv E rfl λa E=>bd hF λr22 e23 hF=>lc E qlU rfl (qe2 N r5.2.1 l8 e23 hG ok) λw ok a E=>lw E (qa9 rfl) λa E=>pf E rfl rfl λa E=>aw E rfl λa E=>cf E rfl hF (λc24 hF=>?_) λc24 hF=>?_
 ·refine sg<|lv E ok (qao (cs:=[vb r2.2,vs r5.1,vs r5.2.1]) qbs rfl rfl (Holds.own 0 rfl rfl)) λa E=>qai E ok 1 rfl rfl rfl qcN rfl rfl ⟨rfl,rfl,rfl,trivial⟩ rfl rfl λw ok=>aw E rfl λa E=>wp_ret<|qaA<|qak ?_
  exact fin hF ⟨m0,[vb r2.2,vs r5.1,vs r5.2.1],le_m0,ok.drop.drop,E.d,⟨rv_c (cs:=[vb r2.2,vs r5.1,vs r5.2.1]) E ok rfl qbs rfl (Holds.own 1 rfl rfl),rv_t E rfl,trivial⟩,⟨rfl,l7,l8⟩⟩
 refine wp_skip<|qal<|qaa<|wp_seq<|bd hF λo25 hJ hF=>qaO (Q':=λe a w=>e=.normal∧Ok u m0 ([(b9,oc 205 [vb r2.2,vs r5.1,vs r5.2.1])]::[(b1,oc 205 [vb o25.2.negative,vs o25.2.whole,vs o25.2.fraction])]::S) w∧Env 76 a [(2,vp b1),(3,vb o25.1)]∧o25.2.whole.length≤LIMS∧o25.2.fraction.length≤LIMS) ?_ ?_
 rotate_left
 ·intro e a w hO
  obtain⟨rfl,ok,E,l31,l32⟩:=hO
  refine qaa<|wp_ret ?_
  exact fin hF ⟨m0,[vb o25.2.negative,vs o25.2.whole,vs o25.2.fraction],le_m0,ok.drop.drop,E.d,⟨rv_c (cs:=[vb o25.2.negative,vs o25.2.whole,vs o25.2.fraction]) E ok rfl qbs rfl (Holds.own 1 rfl rfl),rv_t E rfl,trivial⟩,⟨rfl,l31,l32⟩⟩
 have hF:=hJ
 refine qbx (!r2.2) (λc28=>?_) (λc28=>?_)
 ·have hF:=qbz c28 hF
  cases hF
  refine qbl [0] (Cls u m0 ([(b9,oc 205 [vb r2.2,vs r5.1,vs r5.2.1])]::[(b1,oc 205 [vb false,(vs ([])),(vs ([]))])]::[])) (Cls u m0 ([(b9,oc 205 [vb r2.2,vs r5.1,vs r5.2.1])]::[])) (by kernel_rfl) ?_
  intro w hw
  replace ok:=qbA ok hw
  clear hw
  refine qaq (cl1 (cq le_m0 ok [0,1] rfl) (cq le_m0 ok [0] rfl)) λhT=>qdg 0 E rfl (by kernel_rfl) nP hT (qao (cs:=[vb r2.2,vs r5.1,vs r5.2.1]) qbs rfl rfl (Holds.cown 0 rfl rfl)) rfl rfl λa E=>kt 1 E rfl hT (qad rfl) λa E=>kt 2 E rfl hT (qa9 rfl) λa E=>kt 3 E rfl hT (qad rfl) λa E=>?_
  have E:=E.upd 71 c28 rfl
  refine qaf 4 false E rfl (by kernel_rfl) nP hT rfl rfl λa E=>qaf 5 false E rfl (by kernel_rfl) nP hT rfl rfl λa E=>qaf 6 false E rfl (by kernel_rfl) nP hT rfl rfl λa E=>kt 7 E rfl hT (qb1 rfl rfl) λa E=>qaU [8] (by kernel_rfl) rfl (qa1 ?_)
  ·refine wo rfl<|qai E ok 1 rfl rfl rfl qcN rfl rfl ⟨rfl,rfl,rfl,trivial⟩ rfl rfl λw ok=>wn<|qaq (cl2 (by kernel_rfl) (cq le_m0 ok [0] rfl)) λhT=>kt 9 E rfl hT (qa3 rfl) λa E=>qbv (by kernel_rfl) ?_
   exact⟨rfl,⟨ok,E.keep [2,3],l7,l8⟩⟩
 have hF:=qby c28 hF
 obtain⟨r29,e30,hF⟩:=bnd hF
 obtain rfl:=sj hF
 refine qbl [0] (Cls u m0 ([(b9,oc 205 [vb r2.2,vs r5.1,vs r5.2.1])]::[(b1,oc 205 [vb false,(vs ([])),(vs ([]))])]::[])) (Cls u m0 ([(b9,oc 205 [vb r2.2,vs r5.1,vs r5.2.1])]::[])) (by kernel_rfl) ?_
 intro w hw
 replace ok:=qbA ok hw
 clear hw
 refine qaq (cl1 (cq le_m0 ok [0,1] rfl) (cq le_m0 ok [0] rfl)) λhT=>qdg 0 E rfl (by kernel_rfl) nP hT (qao (cs:=[vb r2.2,vs r5.1,vs r5.2.1]) qbs rfl rfl (Holds.cown 0 rfl rfl)) rfl rfl λa E=>kt 1 E rfl hT (qad rfl) λa E=>kt 2 E rfl hT (qa9 rfl) λa E=>kt 3 E rfl hT (qad rfl) λa E=>?_
 have E:=E.upd 71 c28 rfl
 refine kt 4 E rfl hT (qao (cs:=[vb r2.2,vs r5.1,vs r5.2.1]) qbs rfl rfl (Holds.cown 0 rfl rfl)) λa E=>qaU [5] (by kernel_rfl) rfl (qa1 ?_)
 ·refine wo rfl<|lc E qmV rfl (qeM N _ (Number.mk r2.2 r5.1 r5.2.1) ⟨rfl,l7,l8⟩ e30 hG ok) λw ok a E=>wn<|qaq (cl1 (cq le_m0 ok [0,1] rfl) (cq le_m0 ok [0] rfl)) λhT=>kt 6 E rfl hT (qa9 rfl) λa E=>kt 7 E rfl hT (qbX rfl rfl) λa E=>qaU [8] (by kernel_rfl) rfl (qa1 ?_)
  ·refine wo rfl<|qai E ok 1 rfl rfl rfl qcN rfl rfl ⟨rfl,rfl,rfl,trivial⟩ rfl rfl λw ok=>wn<|qaq (cl2 (by kernel_rfl) (cq le_m0 ok [0] rfl)) λhT=>kt 9 E rfl hT (qa3 rfl) λa E=>qbv (by kernel_rfl) ?_
   exact⟨rfl,⟨ok,E.keep [2,3],l7,l8⟩⟩
def qm2(u:World)(m0:Mem)(S:Segs)(r:Bool)(a:Act)(w:World):Prop:=
 Ok u m0 S w∧a.defers=[]∧RVs Tryz.prog a w [.t 2 (.bool r)]
theorem qm3(N:Nat)(s_0:List UInt8)(ls_0:s_0.length≤LIMS){r:Bool}(hF:qfu N s_0=some r)(hG:Glob u)(ok:Ok u m0 S w) :
  Calls Tryz.prog 137 [vs s_0].toArray w λe w'=>(e=.returned (.bool r)∧Ok u m0 S w'):=by
 have hb0:=ok.base
 have le_m0:=Mem.le.refl m0
 unfold qfu at hF
 refine en (qm2 u m0 S) r Tryz.func137 rfl rfl rfl (λ_ _ h=>ra h rfl) λfin a E=>sg<|aw E rfl λa E=>sg<|mv E rfl λa E=>bd hF λr1 e2 hF=>qae E quU rfl (qnx N s_0 ls_0 e2 hG ok) rfl rfl ?_
 rintro _ w ⟨m3,vs4,rfl,hle,ok,h5⟩
 have le_m0:=le_m0.trans hle
 obtain⟨rfl,l6,l7⟩:=h5
 refine⟨_,rfl,λa E=>?_⟩
 refine mv E rfl λa E=>lw E (qag rfl rfl) λa E=>lw E (qag rfl rfl) λa E=>qaL E ok qkU rfl rfl λb8 a w E ok=>qai E ok 0 rfl rfl rfl qcN rfl rfl ⟨rfl,rfl,rfl,trivial⟩ rfl rfl λw ok=>aw E rfl λa E=>sg<|mv E rfl λa E=>aw E rfl λa E=>wp_ret ?_
 exact fin hF ⟨(ok.drop).down hb0 le_m0,E.d,rz E rfl⟩
end Go.Proofs.YtkhjeeakflefjaaGreatDoor
namespace Go.Proofs.YtkhjeeakflefjaaGreatDoor
open Go.X
def qeu(N:Nat)(kind_0:Int)(s_1:List UInt8):Option Bool:=
 bif (kind_0==9) then
  (qdZ N s_1).bind λr2=>
  some r2
 else
  (strings_CutPrefix N s_1 ([61])).bind λr4=>
  (qgu N s_1).bind λr7=>
  bif r7 then
   some true
  else
   bif r4.2 then
    (qfu N r4.1).bind λr11=>
    some r11
   else
    some false
def qc4(rQ8:List (Part)→Int→Bool→List (List UInt8×Bool)→Option (Bool×(List (List UInt8×Bool))))(rQ7:Part→Int→Bool→List (List UInt8×Bool)→Option (Bool×(List (List UInt8×Bool))))(N:Nat)(l_1:List (Part))(depth_2:Int)(counting_3:Bool)(x_13:Int)(x_14:List (List UInt8×Bool)):Option ((Int×(List (List UInt8×Bool)))⊕((((List (List UInt8×Bool)))⊕(Bool×(List (List UInt8×Bool)))))):=
 bif (decide (x_13<(l_1.length:Int))) then
  (idx l_1 x_13).bind λx20=>
  (show Option Bool from
   (qft N x20).bind λr39=>
   bif (!r39) then
    some true
   else
    bif (x20.Kind==10) then
     bif (!counting_3) then
      some true
     else
      bif (decide (x_13>0)) then
       bif (x20.Kind==1) then
        (idx l_1 (x_13-1)).bind λx46=>
        some (x46.Kind==1)
       else
        some false
      else
       some false
    else
     bif (decide (x_13>0)) then
      bif (x20.Kind==1) then
       (idx l_1 (x_13-1)).bind λx65=>
       some (x65.Kind==1)
      else
       some false
     else
      some false).bind λo38=>
  bif o38 then
   some (.inr (.inr (false,x_14)))
  else
   bif (x20.Kind==11) then
    bif (decide (depth_2≥8)) then
     some (.inr (.inr (false,x_14)))
    else
     (rQ8 x20.Parts (IntKind.wrap .i64 (depth_2+1)) counting_3 x_14).bind λr85=>
     bif (!r85.1) then
      some (.inr (.inr (false,r85.2)))
     else
      (qbS N x20.Kind).bind λr91=>
      bif r91 then
       bif (decide (depth_2≥8)) then
        some (.inr (.inr (false,r85.2)))
       else
        (rQ7 x20 (IntKind.wrap .i64 (depth_2+1)) counting_3 r85.2).bind λr95=>
        bif (!r95.1) then
         some (.inr (.inr (false,r95.2)))
        else
         bif (x20.Kind != 11) then
          bif (x20.Name != ([])) then
           (mset r95.2 x20.Name true).bind λl103=>
           some (.inl ((x_13+1),l103))
          else
           some (.inl ((x_13+1),r95.2))
         else
          some (.inl ((x_13+1),r95.2))
      else
       bif (x20.Kind != 11) then
        bif (x20.Name != ([])) then
         (mset r85.2 x20.Name true).bind λl109=>
         some (.inl ((x_13+1),l109))
        else
         some (.inl ((x_13+1),r85.2))
       else
        some (.inl ((x_13+1),r85.2))
   else
    (qbS N x20.Kind).bind λr113=>
    bif r113 then
     bif (decide (depth_2≥8)) then
      some (.inr (.inr (false,x_14)))
     else
      (rQ7 x20 (IntKind.wrap .i64 (depth_2+1)) counting_3 x_14).bind λr117=>
      bif (!r117.1) then
       some (.inr (.inr (false,r117.2)))
      else
       bif (x20.Kind != 11) then
        bif (x20.Name != ([])) then
         (mset r117.2 x20.Name true).bind λl125=>
         some (.inl ((x_13+1),l125))
        else
         some (.inl ((x_13+1),r117.2))
       else
        some (.inl ((x_13+1),r117.2))
    else
     bif (x20.Kind != 11) then
      bif (x20.Name != ([])) then
       (mset x_14 x20.Name true).bind λl131=>
       some (.inl ((x_13+1),l131))
      else
       some (.inl ((x_13+1),x_14))
     else
      some (.inl ((x_13+1),x_14))
 else
  some (.inr (.inl x_14))
def qdo(rQ8:List (Part)→Int→Bool→List (List UInt8×Bool)→Option (Bool×(List (List UInt8×Bool))))(rQ7:Part→Int→Bool→List (List UInt8×Bool)→Option (Bool×(List (List UInt8×Bool))))(N:Nat)(l_1:List (Part))(depth_2:Int)(counting_3:Bool)(x0:List (List UInt8×Bool)):Option (Bool×(List (List UInt8×Bool))):=
 (iter (λs=>qc4 rQ8 rQ7 N l_1 depth_2 counting_3 s.1 s.2) N (0,x0)).bind λo8=>
 Sum.elim (λo8=>
  some (true,o8))
 (λo8=>
  some o8) o8
def qc6(rQ8:List (Part)→Int→Bool→List (List UInt8×Bool)→Option (Bool×(List (List UInt8×Bool))))(rQ7:Part→Int→Bool→List (List UInt8×Bool)→Option (Bool×(List (List UInt8×Bool))))(N:Nat)(x_1:Part)(depth_2:Int)(counting_3:Bool)(x_31:Int)(x_32:List (List UInt8×Bool))(seen_33:List (List UInt8×Bool)):Option ((Int×(List (List UInt8×Bool))×(List (List UInt8×Bool)))⊕((((List (List UInt8×Bool))×(List (List UInt8×Bool)))⊕(Bool×(List (List UInt8×Bool)))))):=
 bif (decide (x_31<(x_1.Cases.length:Int))) then
  (idx x_1.Cases x_31).bind λx42=>
  (show Option (Bool×(List (List UInt8×Bool))) from
   (qeu N x_1.Kind x42.Key).bind λr59=>
   bif (!r59) then
    some (true,x_32)
   else
    bif ((mget seen_33 x42.Key).getD false) then
     some (true,x_32)
    else
     bif counting_3 then
      (rQ8 x42.Parts depth_2 true x_32).bind λr68=>
      some ((!r68.1),r68.2)
     else
      (rQ8 x42.Parts depth_2 (x_1.Kind != 9) x_32).bind λr73=>
      some ((!r73.1),r73.2)).bind λo55=>
  bif o55.1 then
   some (.inr (.inr (false,o55.2)))
  else
   (mset seen_33 x42.Key true).bind λl82=>
   some (.inl ((x_31+1),o55.2,l82))
 else
  some (.inr (.inl (x_32,seen_33)))
def qdw(rQ8:List (Part)→Int→Bool→List (List UInt8×Bool)→Option (Bool×(List (List UInt8×Bool))))(rQ7:Part→Int→Bool→List (List UInt8×Bool)→Option (Bool×(List (List UInt8×Bool))))(N:Nat)(x_1:Part)(depth_2:Int)(counting_3:Bool)(x0:List (List UInt8×Bool)):Option (Bool×(List (List UInt8×Bool))):=
 (iter (λs=>qc6 rQ8 rQ7 N x_1 depth_2 counting_3 s.1 s.2.1 s.2.2) N (0,x0,([]:List (List UInt8×Bool)))).bind λo23=>
 Sum.elim (λo23=>
  bif (decide ((x_1.Cases.length:Int)≤20)) then
   some (((mget o23.2 ([111,116,104,101,114])).getD false),o23.1)
  else
   some (false,o23.1))
 (λo23=>
  some o23) o23
def qcS:Nat→(List (Part)→Int→Bool→List (List UInt8×Bool)→Option (Bool×(List (List UInt8×Bool))))×(Part→Int→Bool→List (List UInt8×Bool)→Option (Bool×(List (List UInt8×Bool))))
 | 0=>(λ_ _ _ _=>none,λ_ _ _ _=>none)
 | N+1=>(qdo (qcS N).1 (qcS N).2 N,qdw (qcS N).1 (qcS N).2 N)
def qbr(N:Nat):List (Part)→Int→Bool→List (List UInt8×Bool)→Option (Bool×(List (List UInt8×Bool))):=(qcS N).1
def qb4(N:Nat):Part→Int→Bool→List (List UInt8×Bool)→Option (Bool×(List (List UInt8×Bool))):=(qcS N).2
def qhi(N:Nat)(parts_0:List (Part))(counting_1:Bool):Option Bool:=
 (qbr N parts_0 0 counting_1 ([]:List (List UInt8×Bool))).bind λr6=>
 bif r6.1 then
  bif (decide ((r6.2.length:Int)≤20)) then
   (qde N parts_0).bind λr13=>
   some (decide (r13≤4000))
  else
   some false
 else
  some false
def qev(N:Nat)(parts_0:List (Part)):Option Bool:=
 (qhi N parts_0 false).bind λr1=>
 some r1
def qcZ(_N:Nat)(s_1:List UInt8)(x0:Printer):Option (Int×Unit×Printer):=
 (app x0.Builder.buf (ints s_1)).bind λl11=>
 some ((s_1.length:Int),(),(Printer.mk (Builder.mk () l11)))
def qdi(N:Nat)(l_1:List (List UInt8))(x_25:Int)(x_26:Printer):Option ((Int×Printer)⊕Printer):=
 bif (decide (x_25<(l_1.length:Int))) then
  (idx l_1 x_25).bind λx34=>
  (qcZ N x34 (Printer.mk (Builder.mk () x_26.Builder.buf))).bind λr44=>
  some (.inl ((x_25+1),(Printer.mk (Builder.mk () r44.2.2.Builder.buf))))
 else
  some (.inr (Printer.mk (Builder.mk () x_26.Builder.buf)))
def qbi(N:Nat)(l_1:List (List UInt8))(x0:Printer):Option Printer:=
 (iter (λs=>qdi N l_1 s.1 s.2) N (0,(Printer.mk (Builder.mk () x0.Builder.buf)))).bind λo18=>
 some (Printer.mk (Builder.mk () o18.Builder.buf))
def qcT(rQ2:List (Part)→Printer→Option Printer)(rQ5:Part→Printer→Option Printer)(N:Nat)(l_1:List (Part))(x_25:Int)(x_26:Printer):Option ((Int×Printer)⊕Printer):=
 bif (decide (x_25<(l_1.length:Int))) then
  (idx l_1 x_25).bind λx34=>
  (rQ5 x34 (Printer.mk (Builder.mk () x_26.Builder.buf))).bind λr52=>
  some (.inl ((x_25+1),(Printer.mk (Builder.mk () r52.Builder.buf))))
 else
  some (.inr (Printer.mk (Builder.mk () x_26.Builder.buf)))
def qdd(rQ2:List (Part)→Printer→Option Printer)(rQ5:Part→Printer→Option Printer)(N:Nat)(l_1:List (Part))(x0:Printer):Option Printer:=
 (iter (λs=>qcT rQ2 rQ5 N l_1 s.1 s.2) N (0,(Printer.mk (Builder.mk () x0.Builder.buf)))).bind λo18=>
 some (Printer.mk (Builder.mk () o18.Builder.buf))
def qc5(rQ2:List (Part)→Printer→Option Printer)(rQ5:Part→Printer→Option Printer)(N:Nat)(x_1:Part)(x_214:Int)(x_215:Printer):Option ((Int×Printer)⊕Printer):=
 bif (decide (x_214<(x_1.Cases.length:Int))) then
  (idx x_1.Cases x_214).bind λx224=>
  (qbi N ([[32],x224.Key,[32,123]]:List (List UInt8)) (Printer.mk (Builder.mk () x_215.Builder.buf))).bind λr242=>
  (rQ2 x224.Parts (Printer.mk (Builder.mk () r242.Builder.buf))).bind λr249=>
  (qbi N ([[125]]:List (List UInt8)) (Printer.mk (Builder.mk () r249.Builder.buf))).bind λr261=>
  some (.inl ((x_214+1),(Printer.mk (Builder.mk () r261.Builder.buf))))
 else
  some (.inr (Printer.mk (Builder.mk () x_215.Builder.buf)))
def qdn(rQ2:List (Part)→Printer→Option Printer)(rQ5:Part→Printer→Option Printer)(N:Nat)(x_1:Part)(x0:Printer):Option Printer:=
 bif (x_1.Kind==1) then
  (qfV N x_1.Text).bind λr22=>
  (qbi N ([r22]:List (List UInt8)) (Printer.mk (Builder.mk () x0.Builder.buf))).bind λr30=>
  some (Printer.mk (Builder.mk () r30.Builder.buf))
 else
  bif (x_1.Kind==10) then
   (qbi N ([[35]]:List (List UInt8)) (Printer.mk (Builder.mk () x0.Builder.buf))).bind λr43=>
   some (Printer.mk (Builder.mk () r43.Builder.buf))
  else
   bif (x_1.Kind==11) then
    bif ((x_1.Parts.length:Int)==0) then
     (qbi N ([[60],x_1.Name,[47,62]]:List (List UInt8)) (Printer.mk (Builder.mk () x0.Builder.buf))).bind λr57=>
     some (Printer.mk (Builder.mk () r57.Builder.buf))
    else
     (qbi N ([[60],x_1.Name,[62]]:List (List UInt8)) (Printer.mk (Builder.mk () x0.Builder.buf))).bind λr69=>
     (rQ2 x_1.Parts (Printer.mk (Builder.mk () r69.Builder.buf))).bind λr76=>
     (qbi N ([[60,47],x_1.Name,[62]]:List (List UInt8)) (Printer.mk (Builder.mk () r76.Builder.buf))).bind λr88=>
     some (Printer.mk (Builder.mk () r88.Builder.buf))
   else
    bif (x_1.Kind==2) then
     (qbi N ([[123],x_1.Name,[125]]:List (List UInt8)) (Printer.mk (Builder.mk () x0.Builder.buf))).bind λr101=>
     some (Printer.mk (Builder.mk () r101.Builder.buf))
    else
     (show Option Printer from
      (Arr10_List_UInt8.get (Arr10_List_UInt8.mk ([]) ([]) ([]) ([110,117,109,98,101,114]) ([117,110,105,116]) ([100,97,116,101]) ([108,105,115,116]) ([112,108,117,114,97,108]) ([111,114,100,105,110,97,108]) ([115,101,108,101,99,116])) x_1.Kind).bind λx115=>
      (qbi N ([[123],x_1.Name,[44,32],x115]:List (List UInt8)) (Printer.mk (Builder.mk () x0.Builder.buf))).bind λr122=>
      some (Printer.mk (Builder.mk () r122.Builder.buf))).bind λo108=>
     (show Option Printer from
      bif (x_1.Style != ([])) then
       (qbi N ([[44,32],x_1.Style]:List (List UInt8)) (Printer.mk (Builder.mk () o108.Builder.buf))).bind λr158=>
       some (Printer.mk (Builder.mk () r158.Builder.buf))
      else
       some (Printer.mk (Builder.mk () o108.Builder.buf))).bind λo145=>
     (qbS N x_1.Kind).bind λr171=>
     (show Option Printer from
      bif r171 then
       (qbi N ([[44]]:List (List UInt8)) (Printer.mk (Builder.mk () o145.Builder.buf))).bind λr186=>
       some (Printer.mk (Builder.mk () r186.Builder.buf))
      else
       some (Printer.mk (Builder.mk () o145.Builder.buf))).bind λo173=>
     (iter (λs=>qc5 rQ2 rQ5 N x_1 s.1 s.2) N (0,(Printer.mk (Builder.mk () o173.Builder.buf)))).bind λo206=>
     (qbi N ([[125]]:List (List UInt8)) (Printer.mk (Builder.mk () o206.Builder.buf))).bind λr279=>
     some (Printer.mk (Builder.mk () r279.Builder.buf))
def qcO:Nat→(List (Part)→Printer→Option Printer)×(Part→Printer→Option Printer)
 | 0=>(λ_ _=>none,λ_ _=>none)
 | N+1=>(qdd (qcO N).1 (qcO N).2 N,qdn (qcO N).1 (qcO N).2 N)
def qbB(N:Nat):List (Part)→Printer→Option Printer:=(qcO N).1
def qb5(N:Nat):Part→Printer→Option Printer:=(qcO N).2
def qhr(N:Nat)(parts_0:List (Part)):Option (List UInt8):=
 (qbB N parts_0 (Printer.mk (Builder.mk () ([])))).bind λr4=>
 some (bytesOf r4.Builder.buf)
def qf6(N:Nat)(parts_0:List (Part)):Option ((List UInt8)×Int):=
 (qev N parts_0).bind λr1=>
 bif (!r1) then
  some ([],1)
 else
  (qhr N parts_0).bind λr4=>
  some (r4,0)
end Go.Proofs.YtkhjeeakflefjaaGreatDoor
