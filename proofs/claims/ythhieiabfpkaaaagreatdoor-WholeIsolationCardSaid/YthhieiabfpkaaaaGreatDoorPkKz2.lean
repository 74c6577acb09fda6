/- Texts of this proof, joined by pack.py. -/
import Derived.Test.YthhieiabfpkaaaaGreatDoorPkKz1
import Derived.Test.YthhieiabfpkaaaaGreatDoorCards
import Derived.Test.YthhieiabfpkaaaaGreatDoorChecked
import Derived.Test.YthhieiabfpkaaaaGreatDoorProg
import Derived.Test.YthhieiabfpkaaaaGreatDoorRows
import Derived.Test.YthhieiabfpkaaaaGreatDoorTie
set_option linter.unusedVariables false
set_option linter.unusedSimpArgs false
namespace Go.X
open Go.Proofs Go.Shelf Go.Sort Go.RowKit
section
variable {K V:Type} [BEq K] [LawfulBEq K] {KR:Value → K → Prop} {R:Mem → Value → V → Prop} {P:Program} {kt et:TypeId} {m:Mem} {v:Value} {l:List (K × V)} {Mx:List (Nat × Obj)} {L:List (Nat × Value)} {u:World} {B:Segs} {ty:TypeId}
theorem qqo {t:TypeId} {X:Operand} (k:Nat) (hk:B[k]? = some Mx) (ht:P.underlying t = some (.map kt et)) (h:OMap KR R m v l Mx) (hX:ev L X = some v) :
  qaD P (Cls u m B) L (.call { callee:=.builtin .len,args:=#[X],argTypes:=#[t] }) ty (.int .i64 l.length):=by
 intro ρ w dst pos after g E ok
 obtain ⟨m',S',hle,ok,hB⟩:=ok
 obtain ⟨i,hi⟩:=List.mem_iff_getElem?.1 (hB.mem _ (qlL k hk))
 obtain ⟨b,es,clock,rfl,rfl,hE,hlim,hd,_⟩:=h
 have hb:w.heap[b]? = some (.map es.toArray clock):=(ok.own (b,.map es.toArray clock) (qdh (k:=i) (by simp [qb6,hi]))).1
 have hget:(getObj b).run P w = .ok (.map es.toArray clock) w:=by simp [getObj,Sem.run,hb]
 simp [E hX,Builtin.len_,goInt,run_underlying ht,hget,hE.len,Result.andThen,go_sem]
end
abbrev PKV:=List UInt8 × Value
abbrev PKL:=List UInt8 × List Int
def rawV:Mem → Value → Value → Prop:=fun _ v x=>v = x
theorem qoS:MonoV rawV:=⟨fun _ h=>h⟩
def NMap (e:Nat) (m:Mem) (v:Value) (l:List PKL) (M:List (Nat × Obj)):Prop :=
 ∃ (raw:List PKV) (ms:List (List (Nat × Obj))) (M1:List (Nat × Obj)),M = M1 ++ ms.flatten ∧ OMap kS rawV m v raw M1 ∧ raw.map (·.1) = l.map (·.1) ∧ ms.length = l.length ∧
  ∀ (i:Nat) (k:List UInt8) (c:Value) (xs:List Int) (Mi:List (Nat × Obj)),raw[i]? = some (k,c) → l[i]? = some (k,xs) → ms[i]? = some Mi → ORow e 1 (pI .i64) m c xs Mi
def qlV (e:Nat) (m:Mem) (raw:List PKV) (l:List PKL) (k:List UInt8) (c:Value) (Mr:List (Nat × Obj)):Prop :=
  raw.map (·.1) = l.map (·.1) ∧ raw.Pairwise (fun p q=>p.1 ≠ q.1) ∧ ∃ ms:List (List (Nat × Obj)),Mr = ms.flatten ∧ ms.length = l.length ∧
    ((∃ i xs,raw[i]? = some (k,c) ∧ l[i]? = some (k,xs) ∧ ms[i]? = some [] ∧
      ∀ (j:Nat) (k:List UInt8) (c:Value) (xs:List Int) (Mi:List (Nat × Obj)),j ≠ i → raw[j]? = some (k,c) → l[j]? = some (k,xs) → ms[j]? = some Mi → ORow e 1 (pI .i64) m c xs Mi) ∨
     (c = .slice none 0 0 ∧ (∀ p ∈ l,p.1 ≠ k) ∧
      ∀ (j:Nat) (k:List UInt8) (c:Value) (xs:List Int) (Mi:List (Nat × Obj)),raw[j]? = some (k,c) → l[j]? = some (k,xs) → ms[j]? = some Mi → ORow e 1 (pI .i64) m c xs Mi))
section
variable {e:Nat} {m m':Mem} {v c:Value} {l:List PKL} {raw:List PKV} {k:List UInt8} {M M1 Mk Mr:List (Nat × Obj)} {u w:World} {S:Segs}
theorem NMap.up (hm:m.le m') (h:NMap e m v l M):NMap e m' v l M:=by
 obtain ⟨raw,ms,M1,h1,h2,h3,h4,h5⟩:=h
 exact ⟨raw,ms,M1,h1,h2.up qoS hm,h3,h4,fun i k c xs Mi a b d=>(h5 i k c xs Mi a b d).up (mI .i64) hm⟩
theorem NRaw.up (hm:m.le m') (h:OMap kS rawV m v raw M):OMap kS rawV m' v raw M:=h.up qoS hm
theorem qlV.up (hm:m.le m') (h:qlV e m raw l k c M):qlV e m' raw l k c M:=by
 obtain ⟨h1,h2,ms,h3,h4,h5⟩:=h
 refine ⟨h1,h2,ms,h3,h4,?_⟩
 rcases h5 with ⟨i,xs,a,b,d,f⟩ | ⟨a,b,f⟩
 ·exact .inl ⟨i,xs,a,b,d,fun j k c xs Mi hj x y z=>(f j k c xs Mi hj x y z).up (mI .i64) hm⟩
 ·exact .inr ⟨a,b,fun j k c xs Mi x y z=>(f j k c xs Mi x y z).up (mI .i64) hm⟩
theorem NMap.cells (h:NMap e m v l M):v.cells.toList = [v]:=by obtain ⟨_,_,_,_,h,_⟩:=h; exact h.cells
theorem NMap.one (h:NMap e m v l M):v.oneCell' = true:=by obtain ⟨_,_,_,_,h,_⟩:=h; exact h.one
theorem NMap.made {b:Nat}:NMap e m (.map (some b)) [] [(b,Obj.map #[] 0)]:=⟨[],[],_,by simp,OMap.made,rfl,rfl,fun i k c xs Mi a=>by simp at a⟩
theorem NMap.look {P:Program} {t kt et:TypeId} {mo ko:Operand} {L:List (Nat × Value)} (ok:Ok u m (M :: S) w) (H:KeyR P kt kS) (ht:P.underlying t = some (.map kt et)) (h:NMap e m v l M) (hk:k.length ≤ LIMS)
  (hm:ev L mo = some v) (hko:ev L ko = some (.string (bs k))) (hz:qlR P et = some (.slice none 0 0)) :
  ∃ raw M1 Mk Mr c,Ok u m (M1 :: Mk :: Mr :: S) w ∧ OMap kS rawV m v raw M1 ∧ ORow e 1 (pI .i64) m c ((mget l k).getD []) Mk ∧ qlV e m raw l k c Mr ∧
   ∀ ty,qaD P (Ok u m (M1 :: Mk :: Mr :: S)) L (.lookup t mo ko false) ty c:=by
 obtain ⟨raw,ms,M1,rfl,h2,h3,h4,h5⟩:=h
 have hd:raw.Pairwise (fun p q=>p.1 ≠ q.1):=by obtain ⟨_,_,_,_,_,_,_,h,_⟩:=h2; exact h
 have hlen:raw.length = l.length:=by have:=congrArg List.length h3; simpa using this
 have hdl:l.Pairwise (fun p q=>p.1 ≠ q.1):=by
  have a:(raw.map (·.1)).Pairwise (fun a b=>a ≠ b):=by rw [List.pairwise_map]; exact hd
  rw [h3,List.pairwise_map] at a; exact a
 cases hr:mget raw k with
 | none =>
  have hnk:∀ p ∈ l,p.1 ≠ k:=by
   intro p hp e
   have:p.1 ∈ raw.map (·.1):=by rw [h3]; exact List.mem_map.2 ⟨p,hp,rfl⟩
   obtain ⟨q,hq,hqe⟩:=List.mem_map.1 this
   obtain ⟨j,hj⟩:=List.mem_iff_getElem?.1 hq
   have:=qiU hd hj
   rw [hqe,e,hr] at this; cases this
  have ok2:Ok u m (M1 :: [] :: ms.flatten :: S) w:=ok.perm (by simp)
  obtain ⟨xv,hxv,hy,_⟩:=qlo (P:=P) (mo:=mo) (ko:=ko) (L:=L) (zx:=Value.slice none 0 0) ok2 0 H ht h2 rfl hm hko ⟨rfl,hk⟩ hz rfl
  have hx:xv = .slice none 0 0:=by
   have:xv = _:=hxv
   rw [this,hr]; rfl
  subst hx
  refine ⟨raw,M1,[],ms.flatten,_,ok2,h2,?_,⟨h3,hd,ms,rfl,h4,.inr ⟨rfl,hnk,h5⟩⟩,hy⟩
  rw [qj8 hnk]; exact ORow.nil
 | some c =>
  obtain ⟨j,hj⟩:∃ j,raw[j]? = some (k,c):=by
   unfold mget at hr
   cases hf:raw.find? fun p=>k == p.1 with
   | none=>rw [hf] at hr; cases hr
   | some p =>
    rw [hf] at hr
    have h1:=List.find?_some hf
    have h2:=List.mem_of_find?_eq_some hf
    obtain ⟨j,hj⟩:=List.mem_iff_getElem?.1 h2
    simp only [beq_iff_eq] at h1
    simp only [Option.map_some,Option.some.injEq] at hr
    exact ⟨j,by rw [hj,h1,← hr]⟩
  have hjl:j < raw.length:=(List.getElem?_eq_some_iff.1 hj).1
  have hkey:(l.map (·.1))[j]? = some k:=by rw [← h3,List.getElem?_map,hj]; rfl
  rw [List.getElem?_map] at hkey
  cases hlj:l[j]? with
  | none=>rw [hlj] at hkey; cases hkey
  | some p =>
   rw [hlj] at hkey
   obtain ⟨k',xs⟩:=p
   simp only [Option.map_some,Option.some.injEq] at hkey
   subst hkey
   obtain ⟨Mi,hMi⟩:∃ Mi,ms[j]? = some Mi:=⟨ms[j]'(by omega),List.getElem?_eq_getElem (by omega)⟩
   have hp:=qh5 ms j Mi hMi
   have ok2:Ok u m (M1 :: Mi :: (ms.set j []).flatten :: S) w:=ok.perm (by
    simp only [List.flatten_cons,List.append_assoc]
    refine List.Perm.append_left _ ?_
    rw [← List.append_assoc]
    exact hp.append_right _)
   obtain ⟨xv,hxv,hy,_⟩:=qlo (P:=P) (mo:=mo) (ko:=ko) (L:=L) (zx:=Value.slice none 0 0) ok2 0 H ht h2 rfl hm hko ⟨rfl,hk⟩ hz rfl
   have hx:xv = c:=by
    have:xv = _:=hxv
    rw [this,hr]; rfl
   subst hx
   have hg:=qiU hdl hlj
   simp only at hg
   refine ⟨raw,M1,Mi,_,_,ok2,h2,?_,⟨h3,hd,ms.set j [],rfl,by simpa using h4,.inl ⟨j,xs,hj,hlj,by rw [List.getElem?_set_self (by omega)],?_⟩⟩,hy⟩
   ·rw [hg]; exact h5 j _ _ _ _ hj hlj hMi
   ·intro i k' c' xs' Mi' hij a b d
    rw [List.getElem?_set_ne (Ne.symm hij)] at d
    exact h5 i _ _ _ _ a b d
theorem NMap.put {c':Value} {xs':List Int} {raw':List PKV} {l':List PKL} (ok:Ok u m (M1 :: Mk :: Mr :: S) w) (h1:OMap kS rawV m v raw' M1) (hr:ORow e 1 (pI .i64) m c' xs' Mk) (ho:qlV e m raw l k c Mr) (hraw:mput raw k c' = raw') (hl:mput l k xs' = l') :
  ∃ M,Ok u m (M :: S) w ∧ NMap e m v l' M:=by
 obtain ⟨h3,hd,ms,rfl,h4,h5⟩:=ho
 have hlen:raw.length = l.length:=by have:=congrArg List.length h3; simpa using this
 have hdl:l.Pairwise (fun p q=>p.1 ≠ q.1):=by
  have a:(raw.map (·.1)).Pairwise (fun a b=>a ≠ b):=by rw [List.pairwise_map]; exact hd
  rw [h3,List.pairwise_map] at a; exact a
 rcases h5 with ⟨i,xs,a,b,d,f⟩ | ⟨a,b,f⟩
 ·have e1:=qi3 (x:=c') hd a
  have e2:=qi3 (x:=xs') hdl b
  simp only at e1 e2
  rw [e1] at hraw; rw [e2] at hl
  subst hraw; subst hl
  have hil:i < ms.length:=(List.getElem?_eq_some_iff.1 d).1
  have hir:i < raw.length:=(List.getElem?_eq_some_iff.1 a).1
  have hll:i < l.length:=(List.getElem?_eq_some_iff.1 b).1
  have hp:=qh5 (ms.set i Mk) i Mk (by rw [List.getElem?_set_self hil])
  have hss:(ms.set i Mk).set i [] = ms:=by
   rw [List.set_set]
   apply List.ext_getElem?
   intro j
   by_cases hj:i = j
   ·subst hj; rw [List.getElem?_set_self hil,d]
   ·rw [List.getElem?_set_ne hj]
  rw [hss] at hp
  refine ⟨M1 ++ (ms.set i Mk).flatten,ok.perm ?_,_,ms.set i Mk,M1,rfl,h1,?_,by simpa using h4,?_⟩
  ·simp only [List.flatten_cons,List.append_assoc]
   refine List.Perm.append_left _ ?_
   rw [← List.append_assoc]
   exact hp.symm.append_right _
  ·rw [List.map_set,List.map_set,h3]
  ·intro j k' c2 xs2 Mi x y z
   by_cases hj:i = j
   ·subst hj
    rw [List.getElem?_set_self hil] at z
    rw [List.getElem?_set_self hir] at x
    rw [List.getElem?_set_self hll] at y
    cases x; cases y; cases z; exact hr
   ·rw [List.getElem?_set_ne hj] at z
    rw [List.getElem?_set_ne hj] at x
    rw [List.getElem?_set_ne hj] at y
    exact f j k' c2 xs2 Mi (Ne.symm hj) x y z
 ·have hnr:∀ p ∈ raw,p.1 ≠ k:=by
   intro p hp he
   have:p.1 ∈ l.map (·.1):=by rw [← h3]; exact List.mem_map.2 ⟨p,hp,rfl⟩
   obtain ⟨q,hq,hqe⟩:=List.mem_map.1 this
   exact b q hq (hqe.trans he)
  rw [qi7 hnr] at hraw
  rw [qi7 b] at hl
  subst hraw; subst hl
  refine ⟨M1 ++ (ms ++ [Mk]).flatten,ok.perm ?_,_,ms ++ [Mk],M1,rfl,h1,by simp [h3],by simp [h4],?_⟩
  ·simp only [List.flatten_cons,List.flatten_append,List.flatten_nil,List.append_nil,List.append_assoc]
   refine List.Perm.append_left _ ?_
   rw [← List.append_assoc,← List.append_assoc]
   exact List.perm_append_comm.append_right _
  ·intro j k' c2 xs2 Mi x y z
   by_cases hj:j < raw.length
   ·rw [List.getElem?_append_left hj] at x
    rw [List.getElem?_append_left (by omega)] at y
    rw [List.getElem?_append_left (by omega)] at z
    exact f j k' c2 xs2 Mi x y z
   ·have hj0:j = raw.length:=by
     have:=(List.getElem?_eq_some_iff.1 x).1
     simp at this; omega
    subst hj0
    rw [List.getElem?_append_right (Nat.le_refl _),Nat.sub_self] at x
    rw [hlen,List.getElem?_append_right (Nat.le_refl _),Nat.sub_self] at y
    rw [hlen,← h4,List.getElem?_append_right (Nat.le_refl _),Nat.sub_self] at z
    cases x; cases y; cases z; exact hr
end
section
variable {P:Program} {kt:TypeId} {e:Nat} {m:Mem} {v c:Value} {l:List PKL} {raw:List PKV} {k:List UInt8} {M1 Mk Mr:List (Nat × Obj)}
 {Q:Exit → Act → World → Prop} {n:Nat} {L:List (Nat × Value)} {ol rest:List Oper} {a:Act} {w u:World} {S:Segs} {d:Nat} {ty:TypeId} {pos:String} {after:Array Edge} {g:Option (Nat × Bool)}
end
theorem Ok.aheadN {u w:World} {m:Mem} {S:Segs} (ok:Ok u m S w) (n:Nat):Ok u m S (Sort.ahead w n):=⟨ok.os,ok.out,ok.tape,ok.ro,ok.own,ok.nd,ok.base⟩
theorem Ok.putRow {α:Type} [Inhabited α] {enc:α → Value} {d:Array α} {u w:World} {m:Mem} {S:Segs} {b o:Nat} {c:List Value} {T:TypeId} (ok:Ok u m ([(b,Obj.cells c.toArray T (0,0))] :: S) w) :
  Ok u m ([(b,Obj.cells (putCells enc o d c.toArray).toList.toArray T (0,0))] :: S) (putRow enc w b o d):=by
 have hb:w.heap[b]? = some (.cells c.toArray T (0,0)):=(ok.own (b,_) (by simp)).1
 refine ok.setObj rfl rfl rfl ?_ fun k hk=>?_
 ·simp [Sort.putRow,mapBlock,Array.getElem?_modify,hb,onCells]
 ·simp [Sort.putRow,mapBlock,Array.getElem?_modify,Ne.symm hk]
theorem qkl {α:Type} [Inhabited α] {enc:α → Value} {o:Nat} {ys:List α} {c:List Value} {i:Nat} {x:α} (hi:ys[i]? = some x) (hc:o + ys.length ≤ c.length):(putCells enc o ys.toArray c.toArray).toList[o + i]? = some (enc x):=by
 have hlt:=(List.getElem?_eq_some_iff.1 hi).1
 have hx:ys.toArray[i]! = x:=by simp [hi]
 simp only [putCells,Array.toList_mapIdx]
 rw [List.getElem?_mapIdx,show (c.toArray.toList)[o + i]? = some (c[o + i]'(by omega)) from List.getElem?_eq_getElem (by simp; omega)]
 simp only [Option.map_some]
 rw [if_pos ⟨by omega,by simp; omega⟩,show o + i - o = i by omega,hx]
theorem qkk {α:Type} [Inhabited α] {enc:α → Value} {o:Nat} {d:Array α} {c:List Value}:(putCells enc o d c.toArray).toList.length = c.length:=by simp [putCells]
theorem ORow.put {α:Type} [Inhabited α] {enc:α → Value} {R:Rp α} {e b o cap:Nat} {m:Mem} {c:List Value} {ys zs:List α} (h3:ys.length ≤ cap) (h4:cap ≤ maxLen) (h5:o + cap * 1 ≤ c.length) (h6:ys.length ≤ LIMS) (hz:o + (ys ++ zs).length ≤ c.length)
  (hR:∀ y ∈ ys,R m [enc y] y):ORow e 1 R m (.slice (some ⟨b,o,none⟩) ys.length cap) ys [(b,Obj.cells (putCells enc o (ys ++ zs).toArray c.toArray).toList.toArray e (0,0))]:=by
 refine .inr ⟨b,o,cap,_,rfl,rfl,h3,h4,by rw [qkk]; exact h5,h6,fun i x hi=>?_⟩
 have hil:=(List.getElem?_eq_some_iff.1 hi).1
 have hi2:(ys ++ zs)[i]? = some x:=by rw [List.getElem?_append_left hil]; exact hi
 have h:=qkl (enc:=enc) (o:=o) (c:=c) hi2 hz
 have e1:(List.drop (o + i * 1) (putCells enc o (ys ++ zs).toArray c.toArray).toList).take 1 = [enc x]:=by
  rw [Nat.mul_one,List.take_one,List.head?_drop,h]; rfl
 rw [e1]
 exact hR x (List.mem_of_getElem? hi)
section
variable {P:Program} {ρ:Ren} {u w:World} {m:Mem} {S:Segs} {e:Nat} {v:Value} {Mx:List (Nat × Obj)}
theorem qtM {xs:List Int} {c:List Value} {o:Nat} (h7:∀ i x,xs[i]? = some x → (pI .i64) m ((c.drop (o + i * 1)).take 1) x):∀ i x,xs[i]? = some x → c[o + i]? = some (.int .i64 x) ∧ InR .i64 x:=by
 intro i x hi
 obtain ⟨e1,e2⟩:=h7 i x hi
 have:=congrArg (fun l:List Value=>l[0]?) e1
 exact ⟨by simpa [List.getElem?_take,List.getElem?_drop] using this,e2⟩
theorem qqr {α:Type} [Inhabited α] {enc:α → Value} {xs:List α} {c:List Value} {b o T:Nat} (ok:Ok u m ([(b,Obj.cells c.toArray T (0,0))] :: S) w) (h:∀ i x,xs[i]? = some x → c[o + i]? = some (enc x)):Sort.Holds enc w b o xs.toArray:=by
 intro j hj
 have hj':j < xs.length:=by simpa using hj
 have hx:xs[j]? = some xs[j]:=List.getElem?_eq_getElem hj'
 refine ⟨?_,by simp [World.frozen?,ok.ownCell]⟩
 have e2:xs.toArray[j]! = xs[j]:=by simp [hx]
 rw [e2]
 simp [World.cell?,ok.ownCell,h j _ hx]
theorem Ok.ownNew {w':World} {g:Nat} {o:Obj} (ok:Ok u m S w) (h:Below w.heap.size w w') (hg:w'.heap[g]? = some o) (hge:w.heap.size ≤ g):Ok u m ([(g,o)] :: S) w':=by
 have ok':=ok.below' h
 have hlt:∀ p ∈ S.flatten,p.1 < w.heap.size:=fun p hp=>(Array.getElem?_eq_some_iff.1 (ok.own p hp).1).1
 refine ⟨ok'.os,ok'.out,ok'.tape,ok'.ro,fun p hp=>?_,?_,ok'.base⟩
 ·simp only [List.flatten_cons,List.cons_append,List.nil_append,List.mem_cons] at hp
  rcases hp with rfl | hp
  ·refine ⟨hg,?_⟩
   cases hm:m g with
   | none=>rfl
   | some x =>
    have:=(Array.getElem?_eq_some_iff.1 (ok.ro g x hm)).1
    omega
  ·exact ok'.own p hp
 ·simp only [List.flatten_cons,List.cons_append,List.nil_append]
  refine List.pairwise_cons.2 ⟨fun q hq=>?_,ok'.nd⟩
  have:=hlt q hq
  simp only; omega
theorem ORow.ofOwns {w':World} {xs:List (List UInt8)} (ok:Ok u m S w) (hl:∀ x ∈ xs,x.length ≤ LIMS) (hx:xs.length ≤ LIMS) (h:w'.ownsRow w.heap.size e 1 v xs.length (xs.map encStr)) (hb:Below w.heap.size w w') :
  ∃ M,ORow e 1 pS m v xs M ∧ Ok u m (M :: S) w':=by
 obtain ⟨_,⟨rfl,h0⟩ | ⟨g,cap,cur,rfl,h1,h2,h3,h4,h5,h6⟩⟩:=h
 ·obtain rfl:=List.eq_nil_of_length_eq_zero h0
  exact ⟨[],.inl ⟨rfl,rfl,rfl⟩,(ok.below' hb).addnil⟩
 ·refine ⟨[(g,Obj.cells cur.toList.toArray e (0,0))],.inr ⟨g,0,cap,cur.toList,rfl,rfl,h3,h4,by simp; omega,hx,fun i x hi=>?_⟩,ok.ownNew hb (by simpa using h2) h1⟩
  have hil:=(List.getElem?_eq_some_iff.1 hi).1
  have e1:(cur.toList)[i]? = some (encStr x):=by
   have h7:=congrArg (fun l:List Value=>l[i]?) h6
   simp only [Nat.mul_one,List.getElem?_take_of_lt hil,List.getElem?_map,hi] at h7
   exact h7
  have e2:(List.drop (0 + i * 1) cur.toList).take 1 = [encStr x]:=by
   rw [Nat.mul_one,Nat.zero_add,List.take_one,List.head?_drop,e1]; rfl
  rw [e2]
  exact ⟨rfl,hl x (List.mem_of_getElem? hi)⟩
def qn5 (xs:List (List UInt8)):Option (List (List UInt8)):=if xs.length * 16 ≤ 140737488355328 then some xs else none
theorem qpy (Lc:Lays2.n16 P ρ) {xs ys:List (List UInt8)} (hy:qn5 xs = some ys) (h:pL 1 pS m [v] xs) (ok:Ok u m S w) :
  Calls P (ρ.f 16) [v].toArray w fun r w'=>∃ v' M,r = .returned v' ∧ ORow (ρ.t 9) 1 pS m v' ys M ∧ Ok u m (M :: S) w':=by
 unfold qn5 at hy
 split at hy
 rotate_left
 ·cases hy
 rename_i hbig
 obtain rfl:=Option.some.inj hy
 obtain ⟨a,cap,hv,h2,h3,h4,h5⟩:=h
 obtain rfl:v = _:=List.singleton_inj.1 hv
 by_cases h0:xs.length = 0
 ·obtain rfl:=List.eq_nil_of_length_eq_zero h0
  cases a with
  | none =>
   refine (Any.slices_Clone_string_nil Lc 0 cap w).mono ?_
   rintro r w' ⟨rfl,rfl⟩
   exact ⟨_,[],rfl,.inl ⟨rfl,rfl,rfl⟩,ok.addnil⟩
  | some a =>
   refine (Any.slices_Clone_string_zero Lc a cap w).mono ?_
   rintro r w' ⟨v',rfl,ho,_,hb⟩
   obtain ⟨M,h,ok'⟩:=ORow.ofOwns (xs:=[]) ok (by simp) (by simp) ho hb
   exact ⟨v',M,rfl,h,ok'⟩
 ·obtain ⟨b,o,rfl,h6⟩:=h5 h0
  have hc:∀ j,j < (xs.map bs).length → w.cell? ⟨b,o + j,none⟩ = some (.string ((xs.map bs).getD j ByteArray.empty)):=by
   intro j hj
   have hj':j < xs.length:=by simpa using hj
   have hx:xs[j]? = some xs[j]:=List.getElem?_eq_getElem hj'
   obtain ⟨es,hl,hat,hr⟩:=h6 j _ hx
   obtain ⟨rfl,_⟩:=hr
   have:=ok.cell (hat 0 _ rfl)
   simp only [Nat.mul_one,Nat.add_zero] at this
   rw [this]
   simp [List.getD_eq_getElem?_getD,hx]
  refine (Any.slices_Clone_string Lc b o xs.length cap (xs.map bs) w (by simp) hbig hc).mono ?_
  rintro r w' ⟨v',rfl,ho,_,hb⟩
  have e1:((xs.map bs).take xs.length).map Value.string = xs.map encStr:=by
   rw [List.take_of_length_le (by simp),List.map_map]; rfl
  rw [e1] at ho
  obtain ⟨M,h,ok'⟩:=ORow.ofOwns ok (fun x hx=>by
   obtain ⟨i,hi⟩:=List.mem_iff_getElem?.1 hx
   obtain ⟨es,_,_,hr⟩:=h6 i x hi
   exact hr.2) h4 ho hb
  exact ⟨v',M,rfl,h,ok'⟩
end
end Go.X
namespace Go.X
open Go Go.Proofs Go.RowKit Go.Shelf
section
variable {F:Fence} {n:Nat} {P:Program}
def Firm {β:Type} (B:Nat) (J:β → World → Prop):Prop:=∀ s X Y,J s X → Below B X Y → J s Y
theorem qpP {W:World} {B l:Nat} (o:Obj) (h:B ≤ l):Below B W (W.putObj l o):=⟨rfl,rfl,rfl,by rw [World.putObj_size]; exact Nat.le_refl _,fun k hk=>World.putObj_heap_other (by omega)⟩
theorem Firm.same {β:Type} {B:Nat} {I:β → World → Prop} (h:Firm B I) {s:β} {W:World} {l:Nat} (o:Obj) (hs:I s W) (hB:B ≤ l):I s (W.putObj l o):=h s W _ hs (qpP o hB)
end
structure Keep (X:List Nat) (w w2:World):Prop where
 os:w2.os = w.os
 out:w2.output = w.output
 tape:w2.tape = w.tape
 size:w.heap.size ≤ w2.heap.size
 block:∀ k,k < w.heap.size → k ∉ X → w2.heap[k]? = w.heap[k]?
section
variable {X:List Nat} {w w2:World} {S S2:Segs}
theorem Keep.below (h:Keep X w w2) {B:Nat} (hX:∀ k ∈ X,B ≤ k) (hB:B ≤ w.heap.size):Below B w w2:=⟨h.os,h.tape,h.out,h.size,fun k hk=>h.block k (by omega) (fun hm=>by have:=hX k hm; omega)⟩
theorem Keep.from (h:Keep X w w2) {B:Nat} (hX:∀ k ∈ X,k < B):KeepsFrom B w w2:=⟨h.size,fun k o hB hk _=>by
 rw [h.block k (Array.getElem?_eq_some_iff.1 hk).1 (fun hm=>by have:=hX k hm; omega)]; exact hk⟩
theorem Keep.at (h:Keep X w w2) {k:Nat} {o:Obj} (hk:w.heap[k]? = some o) (hx:k ∉ X):w2.heap[k]? = some o:=by rw [h.block k (Array.getElem?_eq_some_iff.1 hk).1 hx]; exact hk
end
end Go.X
namespace Go.X
open Go.Proofs Go.Shelf Go.RowKit Go.Sort
section
variable {P:Program} {α:Type} {e k:Nat} {R:Rp α} {m:Mem} {v:Value} {xs:List α} {Mx:List (Nat × Obj)}
def qop (k:Nat) (v:Value) (n:Nat) (lo hi:Int) (c:Value):Prop :=
 ∃ a cap,v = .slice a n cap ∧ c = .slice (if cap = lo.toNat then a else a.map (·.add (lo.toNat * k))) (hi.toNat - lo.toNat) (cap - lo.toNat)
theorem ORow.part {lo hi:Int} {ys:List α} {L:List (Nat × Value)} {t:TypeId} (ht:SlT P t e k) (h:ORow e k R m v xs Mx) (hs:slc xs lo hi = some ys) {X:Operand} {lov hiv:Option Operand}
  (hX:ev L X = some v) (hl:SB L lov lo 0) (hh:SB L hiv hi xs.length) :
  ∃ c,qop k v xs.length lo hi c ∧ ∀ C ty,qaD P C L (.slice t X lov hiv none) ty c:=by
 have hlo:∀ x,lov = some x → ∃ kd,ev L x = some (.int kd lo):=fun x hx=>by subst hx; exact hl
 have hlo0:lov = none → lo = 0:=fun hx=>by subst hx; exact hl
 have hhi:∀ x,hiv = some x → ∃ kd,ev L x = some (.int kd hi):=fun x hx=>by subst hx; exact hh
 have hhi0:hiv = none → hi = xs.length:=fun hx=>by subst hx; exact hh
 clear hl hh
 unfold slc at hs
 split at hs
 rotate_left
 ·cases hs
 rename_i hb
 obtain ⟨h1,h2,h3⟩:=hb
 obtain ⟨i,hinf,hsz,_,_⟩:=ht.inf
 obtain ⟨a,cap,hv,hc⟩:∃ a cap,v = .slice a xs.length cap ∧ xs.length ≤ cap:=by
  rcases h with ⟨rfl,rfl,rfl⟩ | ⟨b,o,cap,c,rfl,rfl,g3,g4,g5,g6,g7⟩
  ·exact ⟨none,0,rfl,Nat.le_refl _⟩
  ·exact ⟨_,cap,rfl,g3⟩
 refine ⟨_,⟨a,cap,hv,rfl⟩,?_⟩
 intro C ty ρ w dst pos after g E ok
 subst hv
 have hsz':(sizeOf e).run P w = .ok k w:=by simp [sizeOf,typeInfo,hinf,hsz,go_sem]
 have b1:(Instr.sliceBounds true xs.length cap (lov.map ρ) (hiv.map ρ) none).run P w = .ok (lo.toNat,hi.toNat,cap) w:=by
  unfold Instr.sliceBounds
  have hh:hi ≤ (cap:Int):=by omega
  have hh0:0 ≤ hi:=by omega
  cases hiv with
  | none =>
   have:=hhi0 rfl; subst this
   cases lov with
   | none=>have:=hlo0 rfl; subst this; simp [go_sem]
   | some y =>
    obtain ⟨kd,hy⟩:=hlo y rfl
    simp [E hy,Instr.sliceBound,asIntOf,h1,h2,go_sem]
  | some z =>
   obtain ⟨kd',hz⟩:=hhi z rfl
   cases lov with
   | none=>have:=hlo0 rfl; subst this; simp [E hz,Instr.sliceBound,asIntOf,hh,hh0,go_sem]
   | some y =>
    obtain ⟨kd,hy⟩:=hlo y rfl
    simp [E hz,E hy,Instr.sliceBound,asIntOf,hh,hh0,h1,go_sem]
    intro h; omega
 simp only [execOp,Instr.sliceAt,E hX,Sem.run_bind,run_underlying ht.und,Result.andThen_ok,Instr.slice,Option.map_none,b1,hsz',Sem.run_pure]
end
def revp (xs:List Int) (lo hi:Int):Option (List Int):=(slc xs lo hi).map fun ys=>xs.take lo.toNat ++ (ys.reverse ++ xs.drop hi.toNat)
theorem ORow.partR {P:Program} {e:Nat} {m:Mem} {v:Value} {xs zs:List Int} {Mx:List (Nat × Obj)} {lo hi:Int} {L:List (Nat × Value)} {t:TypeId} (ht:SlT P t e 1) (h:ORow e 1 (pI .i64) m v xs Mx) (hs:revp xs lo hi = some zs) {X:Operand} {lov hiv:Option Operand}
  (hX:ev L X = some v) (hl:SB L lov lo 0) (hh:SB L hiv hi xs.length) :
  ∃ c,qop 1 v xs.length lo hi c ∧ ∀ C ty,qaD P C L (.slice t X lov hiv none) ty c:=by
 unfold revp at hs
 cases hq:slc xs lo hi with
 | none=>rw [hq] at hs; cases hs
 | some ys=>exact h.part ht hq hX hl hh
theorem qjN {enc:Int → Value} {o:Nat} {ys:List Int} {c:List Value} {j:Nat} (h:j < o ∨ o + ys.length ≤ j):(putCells enc o ys.toArray c.toArray).toList[j]? = c[j]?:=by
 simp only [putCells,Array.toList_mapIdx]
 rw [List.getElem?_mapIdx]
 cases hc:c[j]? with
 | none=>simp
 | some x =>
  simp only [Option.map_some]
  rw [if_neg]
  simp
  omega
theorem qoI {P:Program} {ρ:Ren} {u w:World} {m:Mem} {S:Segs} {e:Nat} {v c:Value} {Mx:List (Nat × Obj)} {xs zs:List Int} {lo hi:Int} (Lc:Lays.n112 P ρ) (i:Nat) (hi':S[i]? = some Mx) (h:ORow e 1 (pI .i64) m v xs Mx)
  (hs:revp xs lo hi = some zs) (hp:qop 1 v xs.length lo hi c) (ok:Ok u m S w) :
  Calls P (ρ.f 112) [c].toArray w fun r w'=>r = .returned (.tuple #[]) ∧ ∃ M,ORow e 1 (pI .i64) m v zs M ∧ Ok u m (M :: S.eraseIdx i) w':=by
 have ok1:=ok.frs i hi'
 simp only [revp,slc] at hs
 split at hs
 rotate_left
 ·cases hs
 rename_i hb
 obtain ⟨h1,h2,h3⟩:=hb
 simp only [Option.map_some,Option.some.injEq] at hs
 subst hs
 rcases h with ⟨rfl,rfl,rfl⟩ | ⟨b,o,cap,cc,rfl,rfl,g3,g4,g5,g6,g7⟩
 ·obtain ⟨a,cap,e1,rfl⟩:=hp
  simp only [Value.slice.injEq] at e1
  obtain ⟨rfl,-,rfl⟩:=e1
  simp only [List.length_nil] at h3
  have hl0:lo = 0:=by omega
  have hh0:hi = 0:=by omega
  subst hl0; subst hh0
  refine (Any.slices_Reverse_int_empty Lc none 0 w).mono ?_
  rintro r w' ⟨rfl,rfl⟩
  exact ⟨rfl,[],.inl ⟨rfl,by simp,rfl⟩,ok1⟩
 ·obtain ⟨a,cap',e1,rfl⟩:=hp
  simp only [Value.slice.injEq,true_and] at e1
  obtain ⟨rfl,rfl⟩:=e1
  have hc:=qtM g7
  by_cases hcl:cap = lo.toNat
  ·have hx:hi.toNat = lo.toNat:=by omega
   have e2:xs.take lo.toNat ++ (((xs.drop lo.toNat).take (hi - lo).toNat).reverse ++ xs.drop hi.toNat) = xs:=by
    rw [show (hi - lo).toNat = 0 by omega,hx]
    simp
   rw [e2,hx,Nat.sub_self,if_pos hcl]
   refine (Any.slices_Reverse_int_empty Lc _ _ w).mono ?_
   rintro r w' ⟨rfl,rfl⟩
   exact ⟨rfl,_,.inr ⟨b,o,cap,cc,rfl,rfl,g3,g4,g5,g6,g7⟩,ok1⟩
  ·rw [if_neg hcl]
   simp only [Option.map_some,qcN,Nat.mul_one]
   generalize hys:(xs.drop lo.toNat).take (hi - lo).toNat = ys
   have hyl:ys.length = hi.toNat - lo.toNat:=by rw [← hys]; simp; omega
   have hyg:∀ j x,ys[j]? = some x → xs[lo.toNat + j]? = some x:=by
    intro j x hj
    rw [← hys] at hj
    have:=(List.getElem?_eq_some_iff.1 hj).1
    rw [List.getElem?_take_of_lt (by simp at this; omega),List.getElem?_drop] at hj
    exact hj
   have H:Sort.Holds (Value.int .i64) w b (o + lo.toNat) ys.toArray:=qqr ok1 fun j x hj=>by
    rw [Nat.add_assoc]
    exact (hc _ x (hyg j x hj)).1
   have hR:=Any.slices_Reverse_int Lc b (o + lo.toNat) (cap - lo.toNat) ys w H (by unfold LIMS at g6; omega)
   rw [hyl] at hR
   refine hR.mono ?_
   rintro r w' ⟨rfl,n,rfl⟩
   have hyl2:ys.reverse.length = hi.toNat - lo.toNat:=by simpa using hyl
   have hzl:(xs.take lo.toNat ++ (ys.reverse ++ xs.drop hi.toNat)).length = xs.length:=by simp [hyl]; omega
   refine ⟨rfl,_,.inr ⟨b,o,cap,(putCells (Value.int .i64) (o + lo.toNat) ys.reverse.toArray cc.toArray).toList,by rw [hzl],rfl,by omega,g4,by rw [qkk]; exact g5,by omega,?_⟩,(ok1.aheadN n).putRow⟩
   intro j x hj
   suffices ((putCells (Value.int .i64) (o + lo.toNat) ys.reverse.toArray cc.toArray).toList)[o + j]? = some (.int .i64 x) ∧ InR .i64 x by
    refine (show (pI .i64) m ((List.drop (o + j * 1) (putCells (Value.int .i64) (o + lo.toNat) ys.reverse.toArray cc.toArray).toList).take 1) x from ?_)
    have e1:(List.drop (o + j * 1) (putCells (Value.int .i64) (o + lo.toNat) ys.reverse.toArray cc.toArray).toList).take 1 = [.int .i64 x]:=by
     rw [Nat.mul_one,List.take_one,List.head?_drop,this.1]; rfl
    rw [e1]
    exact ⟨rfl,this.2⟩
   have hjl:=(List.getElem?_eq_some_iff.1 hj).1
   rw [hzl] at hjl
   by_cases c1:j < lo.toNat
   ·rw [qjN (by omega)]
    rw [List.getElem?_append_left (by simp; omega),List.getElem?_take_of_lt c1] at hj
    exact hc j x hj
   ·rw [List.getElem?_append_right (by simp; omega)] at hj
    have el:(List.take lo.toNat xs).length = lo.toNat:=by simp; omega
    rw [el] at hj
    by_cases c2:j < hi.toNat
    ·rw [List.getElem?_append_left (by omega)] at hj
     have hx:x ∈ ys:=by simpa using List.mem_of_getElem? hj
     obtain ⟨q,hq⟩:=List.mem_iff_getElem?.1 hx
     have:=qkl (enc:=Value.int .i64) (o:=o + lo.toNat) (c:=cc) hj (by
      have:(o + cap * 1) ≤ cc.length:=g5
      omega)
     rw [show o + lo.toNat + (j - lo.toNat) = o + j by omega] at this
     exact ⟨this,(hc _ x (hyg q x hq)).2⟩
    ·rw [qjN (by omega)]
     rw [List.getElem?_append_right (by omega),List.getElem?_drop] at hj
     rw [show hi.toNat + (j - lo.toNat - ys.reverse.length) = j by omega] at hj
     exact hc j x hj
end Go.X
namespace Go.X
open Go.Proofs Go.Shelf Go.RowKit
def BAdo (k b:Nat) (v:Value):Prop:=v = .pointer none ∨ v = .pointer (some ⟨b,k,none⟩)
theorem BAdo.cells {k b:Nat} {v:Value} (h:BAdo k b v):v.cells.toList = [v]:=by rcases h with rfl | rfl <;> rfl
theorem BAdo.one {k b:Nat} {v:Value} (h:BAdo k b v):v.oneCell' = true:=by rcases h with rfl | rfl <;> rfl
section
theorem qlO {pre rr:List Value} {p s:Value}:(pre ++ p :: s :: rr).toArray[pre.length + 1]? = some s:=by
 rw [List.getElem?_toArray,List.getElem?_append_right (by omega),show pre.length + 1 - pre.length = 1 by omega]
 rfl
variable {P:Program} {ρ:Ren} {u w:World} {m:Mem} {S:Segs}
set_option maxHeartbeats 1000000 in
set_option maxRecDepth 100000 in
theorem ql5 (T:TypeId) (pre rr:List Value) (L:Lays.n169 P ρ) (X:Builder.Extra P ρ) (b g o cap:Nat) (p:Value) (cs:List Value) (l:List UInt8) (h0:l ≠ []) (hn:l.length ≤ cap) (hlen:o + cap ≤ cs.length) (hcm:cap ≤ maxLen) (hcell:∀ j x,l[j]? = some x → cs[o + j]? = some (.int .u8 x.toNat))
  (ok:Ok u m ([(b,Obj.cells (pre ++ p :: .slice (some ⟨g,o,none⟩) l.length cap :: rr).toArray T (0,0))] :: [(g,Obj.cells cs.toArray (ρ.t 5) (0,0))] :: S) w) :
  Calls P (ρ.f 169) #[.pointer (some ⟨b,pre.length,none⟩)] w fun e w'=>e = .returned (.string (bs l)) ∧ Ok u m S w':=by
 have hbk:w.heap[b]? = some (.cells (pre ++ p :: .slice (some ⟨g,o,none⟩) l.length cap :: rr).toArray T (0,0)):=(ok.own (b,_) (by simp)).1
 have hg:w.heap[g]? = some (.cells cs.toArray (ρ.t 5) (0,0)):=(ok.own (g,_) (by simp)).1
 have hl0:l.length ≠ 0:=by simpa using h0
 have c1:w.drew.cell? ⟨b,pre.length + 1,none⟩ = some (.slice (some ⟨g,o,none⟩) l.length cap):=by
  have:w.drew.heap[b]? = some (.cells (pre ++ p :: .slice (some ⟨g,o,none⟩) l.length cap :: rr).toArray T (0,0)):=hbk
  rw [Lib.cell_of_heap this]; exact qlO
 have hSD:(Builtin.unsafeSliceData_ #[(ρ.t 37)] (ρ.t 127) #[.slice (some ⟨g,o,none⟩) l.length cap]).run P w.drew = .ok (.pointer (some ⟨g,o,none⟩)) w.drew :=
  Lib.run_unsafeSliceData_row _ _ _ _ _ _ (by omega)
 have hUS:(Builtin.unsafeString_ #[(ρ.t 127),(ρ.t 3)] (ρ.t 9) #[.pointer (some ⟨g,o,none⟩),.int .i64 l.length]).run P w.drew = .ok (.string ⟨l.toArray⟩) (w.drew.freeze ⟨g,o,none⟩ l.length):=by
  refine qe0 w.drew (ρ.t 127) (ρ.t 3) (ρ.t 9) (ρ.t 5) L.t127 X.cellsByte g o cs.length (by have hg':w.drew.heap[g]? = some (.cells cs.toArray (ρ.t 5) (0,0)):=hg; simp [World.shape?,hg']) l h0 (by omega) (by unfold maxLen at hcm; omega) ?_
  intro j x hx
  have hg':w.drew.heap[g]? = some (.cells cs.toArray (ρ.t 5) (0,0)):=hg
  rw [qcN]
  have:=hcell j x hx
  simp [World.cell?,hg',this]
 have done:Ok u m S (w.drew.freeze ⟨g,o,none⟩ l.length):=by
  have ok2:=(ok.drop.draw (w.drawn + 1))
  refine Ok.rest (o:=Obj.cells cs.toArray (ρ.t 5) (0,0)) ok2 (b:=g) ⟨_,List.mem_singleton.2 rfl,rfl⟩ ?_ ?_ ?_ ?_
  ·unfold World.freeze; split <;> rfl
  ·unfold World.freeze; split <;> rfl
  ·unfold World.freeze; split <;> rfl
  ·intro k hk
   unfold World.freeze
   split
   ·rfl
   ·simp only [Array.getElem?_modify]; rw [if_neg (fun h=>hk h.symm)]; rfl
 clear ok hcell hlen
 have mixed:=L.mixed
 have t72:=L.t72; have a72:=L.a72; have z72:=L.z72; have v72:=L.v72; have u72:=run_underlying L.t72
 have t70:=L.t70; have a70:=L.a70; have z70:=L.z70; have v70:=L.v70; have u70:=run_underlying L.t70
 have t37:=L.t37; have a37:=L.a37; have z37:=L.z37; have v37:=L.v37; have u37:=run_underlying L.t37
 have t127:=L.t127; have a127:=L.a127; have z127:=L.z127; have v127:=L.v127; have u127:=run_underlying L.t127
 have t3:=L.t3; have a3:=L.a3; have z3:=L.z3; have v3:=L.v3; have u3:=run_underlying L.t3
 have t9:=L.t9; have a9:=L.a9; have z9:=L.z9; have v9:=L.v9; have u9:=run_underlying L.t9
 have t5:=X.t5; have a5:=X.a5; have z5:=X.z5; have v5:=X.v5; have u5:=run_underlying X.t5
 go_enter L.f169,Body.n169_ntmps ρ
 go_wp2
 go_region_o
 all_goals (go_wp2; go_ret; exact ⟨rfl,done⟩)
set_option maxHeartbeats 2000000 in
set_option maxRecDepth 100000 in
theorem qlk (T:TypeId) (pre rr:List Value) (L:Lays.n169 P ρ) (X:Builder.Extra P ρ) (b:Nat) (p:Value) {Mx:List (Nat × Obj)}
  (ok:Ok u m ([(b,Obj.cells (pre ++ p :: .slice none 0 0 :: rr).toArray T (0,0))] :: Mx :: S) w) :
  Calls P (ρ.f 169) #[.pointer (some ⟨b,pre.length,none⟩)] w fun e w'=>e = .returned (.string (bs [])) ∧ Ok u m S w':=by
 have hbk:w.heap[b]? = some (.cells (pre ++ p :: .slice none 0 0 :: rr).toArray T (0,0)):=(ok.own (b,_) (by simp)).1
 have done:Ok u m S w.drew:=ok.drop.drop.draw (w.drawn + 1)
 clear ok
 have hUS:=Any.unsafeString_none L X
 have c1:w.drew.cell? ⟨b,pre.length + 1,none⟩ = some (.slice none 0 0):=by
  have:w.drew.heap[b]? = some (.cells (pre ++ p :: .slice none 0 0 :: rr).toArray T (0,0)):=hbk
  rw [Lib.cell_of_heap this]; exact qlO
 have hSD:(Builtin.unsafeSliceData_ #[(ρ.t 37)] (ρ.t 127) #[.slice none 0 0]).run P w.drew = .ok (.pointer none) w.drew:=rfl
 have mixed:=L.mixed
 have t72:=L.t72; have a72:=L.a72; have z72:=L.z72; have v72:=L.v72; have u72:=run_underlying L.t72
 have t70:=L.t70; have a70:=L.a70; have z70:=L.z70; have v70:=L.v70; have u70:=run_underlying L.t70
 have t37:=L.t37; have a37:=L.a37; have z37:=L.z37; have v37:=L.v37; have u37:=run_underlying L.t37
 have t127:=L.t127; have a127:=L.a127; have z127:=L.z127; have v127:=L.v127; have u127:=run_underlying L.t127
 have t3:=L.t3; have a3:=L.a3; have z3:=L.z3; have v3:=L.v3; have u3:=run_underlying L.t3
 have t9:=L.t9; have a9:=L.a9; have z9:=L.z9; have v9:=L.v9; have u9:=run_underlying L.t9
 have t5:=X.t5; have a5:=X.a5; have z5:=X.z5; have v5:=X.v5; have u5:=run_underlying X.t5
 go_enter L.f169,Body.n169_ntmps ρ
 go_wp2
 go_region_o
 all_goals (go_wp2; go_ret; exact ⟨rfl,done⟩)
set_option maxHeartbeats 2000000 in
set_option maxRecDepth 100000 in
theorem qlc (T:TypeId) (pre rr:List Value) (L:Lays.n169 P ρ) (X:Builder.Extra P ρ) (b g o cap:Nat) (p:Value) (cs:List Value)
  (ok:Ok u m ([(b,Obj.cells (pre ++ p :: .slice (some ⟨g,o,none⟩) 0 cap :: rr).toArray T (0,0))] :: [(g,Obj.cells cs.toArray (ρ.t 5) (0,0))] :: S) w) :
  Calls P (ρ.f 169) #[.pointer (some ⟨b,pre.length,none⟩)] w fun e w'=>e = .returned (.string (bs [])) ∧ Ok u m S w':=by
 have hbk:w.heap[b]? = some (.cells (pre ++ p :: .slice (some ⟨g,o,none⟩) 0 cap :: rr).toArray T (0,0)):=(ok.own (b,_) (by simp)).1
 have hg:w.heap[g]? = some (.cells cs.toArray (ρ.t 5) (0,0)):=(ok.own (g,_) (by simp)).1
 have done0:Ok u m S w:=ok.drop.drop
 clear ok
 have hUS:=Any.unsafeString_none L X
 by_cases hc0:cap = 0
 ·subst hc0
  have hlt:b < w.heap.size:=by
   rcases Nat.lt_or_ge b w.heap.size with h' | h'
   ·exact h'
   ·simp [Array.getElem?_eq_none h'] at hbk
  have c1:w.drew.cell? ⟨b,pre.length + 1,none⟩ = some (.slice (some ⟨g,o,none⟩) 0 0):=by
   have:w.drew.heap[b]? = some (.cells (pre ++ p :: .slice (some ⟨g,o,none⟩) 0 0 :: rr).toArray T (0,0)):=hbk
   rw [Lib.cell_of_heap this]; exact qlO
  have hSD:(Builtin.unsafeSliceData_ #[(ρ.t 37)] (ρ.t 127) #[.slice (some ⟨g,o,none⟩) 0 0]).run P w.drew = .ok (.pointer (some ⟨w.drew.heap.size,0,none⟩)) (w.drew.alloc (.view ⟨g,o,none⟩ (ρ.t 5))) :=
   Lib.run_unsafeSliceData_zero w.drew _ _ (ρ.t 5) L.t127 ⟨g,o,none⟩ 0 ((ρ.t 5),cs.length) (by have hg':w.drew.heap[g]? = some (.cells cs.toArray (ρ.t 5) (0,0)):=hg; simp [World.shape?,hg'])
  have c2:(w.drew.alloc (.view ⟨g,o,none⟩ (ρ.t 5))).cell? ⟨b,pre.length + 1,none⟩ = some (.slice (some ⟨g,o,none⟩) 0 0):=by
   have:(w.drew.alloc (.view ⟨g,o,none⟩ (ρ.t 5))).heap[b]? = _:=(Lib.alloc_old w.drew _ b hlt).trans hbk
   rw [Lib.cell_of_heap this]; exact qlO
  have c3:(w.alloc (.view ⟨g,o,none⟩ (ρ.t 5))).drew.cell? ⟨b,pre.length + 1,none⟩ = some (.slice (some ⟨g,o,none⟩) 0 0):=c2
  have c0:w.cell? ⟨b,pre.length + 1,none⟩ = some (.slice (some ⟨g,o,none⟩) 0 0):=c1
  have done:Ok u m S (w.drew.alloc (.view ⟨g,o,none⟩ (ρ.t 5))):=((done0.draw (w.drawn + 1)).alloc _).drop
  clear done0
  have mixed:=L.mixed
  have t72:=L.t72; have a72:=L.a72; have z72:=L.z72; have v72:=L.v72; have u72:=run_underlying L.t72
  have t70:=L.t70; have a70:=L.a70; have z70:=L.z70; have v70:=L.v70; have u70:=run_underlying L.t70
  have t37:=L.t37; have a37:=L.a37; have z37:=L.z37; have v37:=L.v37; have u37:=run_underlying L.t37
  have t127:=L.t127; have a127:=L.a127; have z127:=L.z127; have v127:=L.v127; have u127:=run_underlying L.t127
  have t3:=L.t3; have a3:=L.a3; have z3:=L.z3; have v3:=L.v3; have u3:=run_underlying L.t3
  have t9:=L.t9; have a9:=L.a9; have z9:=L.z9; have v9:=L.v9; have u9:=run_underlying L.t9
  have t5:=X.t5; have a5:=X.a5; have z5:=X.z5; have v5:=X.v5; have u5:=run_underlying X.t5
  go_enter L.f169,Body.n169_ntmps ρ
  go_wp2
  go_region_o
  all_goals (go_wp2; go_ret; exact ⟨rfl,done⟩)
 ·have c1:w.drew.cell? ⟨b,pre.length + 1,none⟩ = some (.slice (some ⟨g,o,none⟩) 0 cap):=by
   have:w.drew.heap[b]? = some (.cells (pre ++ p :: .slice (some ⟨g,o,none⟩) 0 cap :: rr).toArray T (0,0)):=hbk
   rw [Lib.cell_of_heap this]; exact qlO
  have hSD:(Builtin.unsafeSliceData_ #[(ρ.t 37)] (ρ.t 127) #[.slice (some ⟨g,o,none⟩) 0 cap]).run P w.drew = .ok (.pointer (some ⟨g,o,none⟩)) w.drew :=
   Lib.run_unsafeSliceData_row _ _ _ _ _ _ hc0
  have done:Ok u m S w.drew:=done0.draw (w.drawn + 1)
  clear hc0 done0
  have mixed:=L.mixed
  have t72:=L.t72; have a72:=L.a72; have z72:=L.z72; have v72:=L.v72; have u72:=run_underlying L.t72
  have t70:=L.t70; have a70:=L.a70; have z70:=L.z70; have v70:=L.v70; have u70:=run_underlying L.t70
  have t37:=L.t37; have a37:=L.a37; have z37:=L.z37; have v37:=L.v37; have u37:=run_underlying L.t37
  have t127:=L.t127; have a127:=L.a127; have z127:=L.z127; have v127:=L.v127; have u127:=run_underlying L.t127
  have t3:=L.t3; have a3:=L.a3; have z3:=L.z3; have v3:=L.v3; have u3:=run_underlying L.t3
  have t9:=L.t9; have a9:=L.a9; have z9:=L.z9; have v9:=L.v9; have u9:=run_underlying L.t9
  have t5:=X.t5; have a5:=X.a5; have z5:=X.z5; have v5:=X.v5; have u5:=run_underlying X.t5
  go_enter L.f169,Body.n169_ntmps ρ
  go_wp2
  go_region_o
  all_goals (go_wp2; go_ret; exact ⟨rfl,done⟩)
theorem qoB {T:TypeId} (pre:List Value) {rr:List Value} (L:Lays.n169 P ρ) (X:Builder.Extra P ρ) {b:Nat} {a v:Value} {xs:List Int} {Mx:List (Nat × Obj)} (h:ORow (ρ.t 5) 1 (pI .u8) m v xs Mx) (ok:Ok u m ([(b,.cells (pre ++ a :: v :: rr).toArray T (0,0))] :: Mx :: S) w) :
  Calls P (ρ.f 169) [.pointer (some ⟨b,pre.length,none⟩)].toArray w fun e w'=>(e = .returned (.string (bs (qaQ xs))) ∧ Ok u m S w') ∧ (qaQ xs).length ≤ LIMS:=by
 have hlen:(qaQ xs).length ≤ LIMS:=by rw [qbQ]; exact h.form.2
 suffices Calls P (ρ.f 169) #[.pointer (some ⟨b,pre.length,none⟩)] w fun e w'=>e = .returned (.string (bs (qaQ xs))) ∧ Ok u m S w' from this.mono fun e w' h=>⟨h,hlen⟩
 rcases h with ⟨rfl,rfl,rfl⟩ | ⟨g,o,cap,c,rfl,rfl,h3,h4,h5,h6,h7⟩
 ·exact qlk T pre rr L X b a ok
 ·by_cases h0:xs = []
  ·subst h0
   exact qlc T pre rr L X b g o cap a c ok
  ·have e1:xs.length = (qaQ xs).length:=qbQ.symm
   rw [e1] at ok
   refine ql5 T pre rr L X b g o cap a c (qaQ xs) (by intro h; apply h0; exact List.eq_nil_of_length_eq_zero (by rw [e1,h]; rfl)) (by rw [qbQ]; exact h3) (by omega) h4 (fun j x hj=>?_) ok
   simp only [qaQ,List.getElem?_map,Option.map_eq_some_iff] at hj
   obtain ⟨y,hy,rfl⟩:=hj
   have:=h7 j y hy
   obtain ⟨e2,hr⟩:=this
   rw [qly] at hr
   have h8:((c.drop (o + j * 1)).take 1)[0]? = some (.int .u8 y):=by rw [e2]; rfl
   rw [List.getElem?_take_of_lt (by omega),List.getElem?_drop] at h8
   simp only [Nat.mul_one,Nat.add_zero] at h8
   rw [h8]
   congr 2
   simp only [UInt8.toNat_ofNat']
   omega
end
end Go.X
namespace Go.Proofs.YthhieiabfpkaaaaGreatDoor
open Go.X
structure CaseP (α:Type) where
 Key:List UInt8
 Parts:List (α)
structure Part where
 Kind:Int
 Text:List UInt8
 Name:List UInt8
 Style:List UInt8
 Cases:List (CaseP Part)
 Parts:List (Part)
abbrev Case:=CaseP Part
@[reducible] def Case.mk (Key:List UInt8) (Parts:List (Part)):Case:=CaseP.mk Key Parts
structure Builder where
 addr:Unit
 buf:List (Int)
def qbz (_N:Nat) (kind_0:Int):Option Bool :=
 bif (decide (kind_0 ≥ 7)) then
  some (decide (kind_0 ≤ 9))
 else
  some false
def qgc (_N:Nat) (c_0:Int):Option Bool :=
 bif (decide (c_0 ≥ 97)) then
  bif (decide (c_0 ≤ 122)) then
   some true
  else
   bif (decide (c_0 ≥ 65)) then
    bif (decide (c_0 ≤ 90)) then
     some true
    else
     bif (decide (c_0 ≥ 48)) then
      some (decide (c_0 ≤ 57))
     else
      some false
   else
    bif (decide (c_0 ≥ 48)) then
     some (decide (c_0 ≤ 57))
    else
     some false
 else
  bif (decide (c_0 ≥ 65)) then
   bif (decide (c_0 ≤ 90)) then
    some true
   else
    bif (decide (c_0 ≥ 48)) then
     some (decide (c_0 ≤ 57))
    else
     some false
  else
   bif (decide (c_0 ≥ 48)) then
    some (decide (c_0 ≤ 57))
   else
    some false
def qgX (N:Nat) (s_0:List UInt8) (x_12:Int):Option (Int ⊕ ((Unit ⊕ Bool))) :=
 bif (decide (x_12 < (s_0.length:Int))) then
  (idx s_0 x_12).bind fun c15 =>
  (qgc N (c15.toNat:Int)).bind fun r17 =>
  bif (!r17) then
   (idx s_0 x_12).bind fun c20 =>
   bif ((c20.toNat:Int) != 95) then
    (idx s_0 x_12).bind fun c23 =>
    bif ((c23.toNat:Int) != 45) then
     some (.inr (.inr false))
    else
     some (.inl (x_12 + 1))
   else
    some (.inl (x_12 + 1))
  else
   some (.inl (x_12 + 1))
 else
  some (.inr (.inl ()))
def qc1 (N:Nat) (s_0:List UInt8):Option Bool :=
 bif (s_0 == ([])) then
  some false
 else
  bif (decide ((s_0.length:Int) > 40)) then
   some false
  else
   (idx s_0 0).bind fun c3 =>
   bif (decide ((c3.toNat:Int) < 97)) then
    some false
   else
    (idx s_0 0).bind fun c6 =>
    bif (decide ((c6.toNat:Int) > 122)) then
     some false
    else
     (iter (fun s=>qgX N s_0 s) N 0).bind fun o10 =>
     Sum.elim (fun _o10 =>
      some true)
     (fun o10 =>
      some o10) o10
def qfc (_N:Nat) (s_0:List UInt8) (x_4:Int):Option (Int ⊕ ((Unit ⊕ Bool))) :=
 bif (decide (x_4 < (s_0.length:Int))) then
  (idx s_0 x_4).bind fun c7 =>
  (show Option Bool from
   bif (decide ((c7.toNat:Int) < 97)) then
    bif (decide ((c7.toNat:Int) < 65)) then
     some true
    else
     some (decide ((c7.toNat:Int) > 90))
   else
    bif (decide ((c7.toNat:Int) > 122)) then
     bif (decide ((c7.toNat:Int) < 65)) then
      some true
     else
      some (decide ((c7.toNat:Int) > 90))
    else
     some false).bind fun o9 =>
  bif o9 then
   some (.inr (.inr false))
  else
   some (.inl (x_4 + 1))
 else
  some (.inr (.inl ()))
def qf4 (N:Nat) (s_0:List UInt8):Option Bool :=
 (iter (fun s=>qfc N s_0 s) N 0).bind fun o2 =>
 Sum.elim (fun _o2 =>
  bif (s_0 != ([])) then
   some (decide ((s_0.length:Int) ≤ 40))
  else
   some false)
 (fun o2 =>
  some o2) o2
def qdH (N:Nat) (x_0:Part):Option Bool :=
 (show Option (Bool × Part) from
  bif (x_0.Kind == 1) then
   some ((x_0.Text != ([])),(Part.mk x_0.Kind x_0.Text ([]) ([]) ([]) ([])))
  else
   (show Option Bool from
    bif (x_0.Kind == 2) then
     some (x_0.Kind == 2)
    else
     bif (x_0.Kind == 11) then
      some (x_0.Kind == 11)
     else
      bif (x_0.Kind == 7) then
       some (x_0.Kind == 7)
      else
       bif (x_0.Kind == 8) then
        some (x_0.Kind == 8)
       else
        some (x_0.Kind == 9)).bind fun o17 =>
   bif o17 then
    some (true,(Part.mk x_0.Kind ([]) x_0.Name ([]) ([]) ([])))
   else
    bif (x_0.Kind == 3) then
     (show Option Part from
      some (Part.mk x_0.Kind ([]) x_0.Name x_0.Style ([]) ([]))).bind fun o24 =>
     bif (x_0.Style == ([])) then
      some (true,(Part.mk o24.Kind o24.Text o24.Name o24.Style ([]) ([])))
     else
      bif (x_0.Style == ([105,110,116,101,103,101,114])) then
       some (true,(Part.mk o24.Kind o24.Text o24.Name o24.Style ([]) ([])))
      else
       some ((x_0.Style == ([112,101,114,99,101,110,116])),(Part.mk o24.Kind o24.Text o24.Name o24.Style ([]) ([])))
    else
     (show Option Bool from
      bif (x_0.Kind == 4) then
       some (x_0.Kind == 4)
      else
       some (x_0.Kind == 6)).bind fun o35 =>
     bif o35 then
      (show Option Part from
       some (Part.mk x_0.Kind ([]) x_0.Name x_0.Style ([]) ([]))).bind fun o38 =>
      (qc1 N x_0.Style).bind fun r47 =>
      some (r47,(Part.mk o38.Kind o38.Text o38.Name o38.Style ([]) ([])))
     else
      bif (x_0.Kind == 5) then
       (show Option Part from
        some (Part.mk x_0.Kind ([]) x_0.Name x_0.Style ([]) ([]))).bind fun o50 =>
       (qf4 N x_0.Style).bind fun r59 =>
       some (r59,(Part.mk o50.Kind o50.Text o50.Name o50.Style ([]) ([])))
      else
       bif (x_0.Kind == 10) then
        some (true,(Part.mk x_0.Kind ([]) ([]) ([]) ([]) ([])))
       else
        some (false,(Part.mk x_0.Kind ([]) ([]) ([]) ([]) ([])))).bind fun o11 =>
 bif (o11.2.Name != ([])) then
  bif o11.1 then
   (qc1 N x_0.Name).bind fun r68 =>
   bif r68 then
    bif (x_0.Text == o11.2.Text) then
     bif (x_0.Name == o11.2.Name) then
      bif (x_0.Style == o11.2.Style) then
       bif ((x_0.Cases.length:Int) == 0) then
        bif ((x_0.Parts.length:Int) == 0) then
         some true
        else
         some (x_0.Kind == 11)
       else
        (qbz N x_0.Kind).bind fun r76 =>
        bif r76 then
         bif ((x_0.Parts.length:Int) == 0) then
          some true
         else
          some (x_0.Kind == 11)
        else
         some false
      else
       some false
     else
      some false
    else
     some false
   else
    some false
  else
   some false
 else
  bif (x_0.Kind != 1) then
   (show Option Bool from
    bif (x_0.Kind != 10) then
     bif o11.1 then
      (qc1 N x_0.Name).bind fun r84 =>
      some r84
     else
      some false
    else
     some o11.1).bind fun o81 =>
   bif o81 then
    bif (x_0.Text == o11.2.Text) then
     bif (x_0.Name == o11.2.Name) then
      bif (x_0.Style == o11.2.Style) then
       bif ((x_0.Cases.length:Int) == 0) then
        bif ((x_0.Parts.length:Int) == 0) then
         some true
        else
         some (x_0.Kind == 11)
       else
        (qbz N x_0.Kind).bind fun r92 =>
        bif r92 then
         bif ((x_0.Parts.length:Int) == 0) then
          some true
         else
          some (x_0.Kind == 11)
        else
         some false
      else
       some false
     else
      some false
    else
     some false
   else
    some false
  else
   bif o11.1 then
    bif (x_0.Text == o11.2.Text) then
     bif (x_0.Name == o11.2.Name) then
      bif (x_0.Style == o11.2.Style) then
       bif ((x_0.Cases.length:Int) == 0) then
        bif ((x_0.Parts.length:Int) == 0) then
         some true
        else
         some (x_0.Kind == 11)
       else
        (qbz N x_0.Kind).bind fun r102 =>
        bif r102 then
         bif ((x_0.Parts.length:Int) == 0) then
          some true
         else
          some (x_0.Kind == 11)
        else
         some false
      else
       some false
     else
      some false
    else
     some false
   else
    some false
def qa1 (r_syntax_checker_parts:List (Part) → Int → Bool → List (List UInt8 × Bool) → Option (Bool × (List (List UInt8 × Bool)))) (N:Nat) (l_1:List (Part)) (depth_2:Int) (counting_3:Bool) (x_13:Int) (x_14:List (List UInt8 × Bool)):Option ((Int × (List (List UInt8 × Bool))) ⊕ ((((List (List UInt8 × Bool))) ⊕ (Bool × (List (List UInt8 × Bool)))))) :=
 bif (decide (x_13 < (l_1.length:Int))) then
  (idx l_1 x_13).bind fun x20 =>
  (show Option Bool from
   (qdH N x20).bind fun r39 =>
   bif (!r39) then
    some true
   else
    bif (x20.Kind == 10) then
     bif (!counting_3) then
      some true
     else
      bif (decide (x_13 > 0)) then
       bif (x20.Kind == 1) then
        (idx l_1 (x_13 - 1)).bind fun x46 =>
        some (x46.Kind == 1)
       else
        some false
      else
       some false
    else
     bif (decide (x_13 > 0)) then
      bif (x20.Kind == 1) then
       (idx l_1 (x_13 - 1)).bind fun x65 =>
       some (x65.Kind == 1)
      else
       some false
     else
      some false).bind fun o38 =>
  bif o38 then
   some (.inr (.inr (false,x_14)))
  else
   bif (x20.Kind == 11) then
    bif (decide (depth_2 ≥ 8)) then
     some (.inr (.inr (false,x_14)))
    else
     (r_syntax_checker_parts x20.Parts (IntKind.wrap .i64 (depth_2 + 1)) counting_3 x_14).bind fun r85 =>
     bif (!r85.1) then
      some (.inr (.inr (false,r85.2)))
     else
      (qbz N x20.Kind).bind fun r91 =>
      bif r91 then
       bif (decide (depth_2 ≥ 8)) then
        some (.inr (.inr (false,r85.2)))
       else
        none
      else
       bif (x20.Kind != 11) then
        bif (x20.Name != ([])) then
         (mset r85.2 x20.Name true).bind fun l97 =>
         some (.inl ((x_13 + 1),l97))
        else
         some (.inl ((x_13 + 1),r85.2))
       else
        some (.inl ((x_13 + 1),r85.2))
   else
    (qbz N x20.Kind).bind fun r101 =>
    bif r101 then
     bif (decide (depth_2 ≥ 8)) then
      some (.inr (.inr (false,x_14)))
     else
      none
    else
     bif (x20.Kind != 11) then
      bif (x20.Name != ([])) then
       (mset x_14 x20.Name true).bind fun l107 =>
       some (.inl ((x_13 + 1),l107))
      else
       some (.inl ((x_13 + 1),x_14))
     else
      some (.inl ((x_13 + 1),x_14))
 else
  some (.inr (.inl x_14))
def qb5 (r_syntax_checker_parts:List (Part) → Int → Bool → List (List UInt8 × Bool) → Option (Bool × (List (List UInt8 × Bool)))) (N:Nat) (l_1:List (Part)) (depth_2:Int) (counting_3:Bool) (x0:List (List UInt8 × Bool)):Option (Bool × (List (List UInt8 × Bool))) :=
 (iter (fun s=>qa1 r_syntax_checker_parts N l_1 depth_2 counting_3 s.1 s.2) N (0,x0)).bind fun o8 =>
 Sum.elim (fun o8 =>
  some (true,o8))
 (fun o8 =>
  some o8) o8
def qcg:Nat → (List (Part) → Int → Bool → List (List UInt8 × Bool) → Option (Bool × (List (List UInt8 × Bool))))
 | 0=>(fun _ _ _ _=>none)
 | N + 1=>(qb5 (qcg N) N)
def qcl (N:Nat):List (Part) → Int → Bool → List (List UInt8 × Bool) → Option (Bool × (List (List UInt8 × Bool))):=(qcg N)
end Go.Proofs.YthhieiabfpkaaaaGreatDoor
namespace Go.Proofs
open Go.Shelf
def Tryz.lays169_ren:Go.Shelf.Ren:=⟨fun | 169=>21 | n=>n,fun | 70=>65 | 9=>9 | 0=>0 | 72=>68 | 37=>66 | 127=>104 | 3=>3 | 5=>5 | n=>n,fun | n=>n⟩
theorem Tryz.lays169:Go.Proofs.Lays.n169 Tryz.prog Tryz.lays169_ren:={
 mixed:=by kernel_rfl
 f169:=Tryz.func21.trans (congrArg some (by kernel_rfl))
 t0:=Tryz.underlying0
 a0:=Tryz.isAgg0
 z0:=Tryz.sizeOf0
 v0:=Tryz.zeroValue0
 t3:=Tryz.underlying3
 a3:=Tryz.isAgg3
 z3:=Tryz.sizeOf3
 v3:=Tryz.zeroValue3
 t9:=Tryz.underlying9
 a9:=Tryz.isAgg9
 z9:=Tryz.sizeOf9
 v9:=Tryz.zeroValue9
 t37:=Tryz.underlying66
 a37:=Tryz.isAgg66
 z37:=Tryz.sizeOf66
 v37:=Tryz.zeroValue66
 t70:=Tryz.underlying65
 a70:=Tryz.isAgg65
 z70:=Tryz.sizeOf65
 v70:=Tryz.zeroValue65
 t72:=Tryz.underlying68
 a72:=Tryz.isAgg68
 z72:=Tryz.sizeOf68
 v72:=Tryz.zeroValue68
 t127:=Tryz.underlying104
 a127:=Tryz.isAgg104
 z127:=Tryz.sizeOf104
 v127:=Tryz.zeroValue104 }
theorem Tryz.Builder_Extra_169:Builder.Extra Tryz.prog Tryz.lays169_ren:={
 sizeBuilder:=by kernel_rfl
 liesBuilder:=by kernel_rfl
 t5:=Tryz.underlying5
 a5:=Tryz.isAgg5
 z5:=Tryz.sizeOf5
 v5:=Tryz.zeroValue5
 infoByte:=by kernel_rfl
 cellsByte:=by kernel_rfl
 sizeByte:=by kernel_rfl
 neB5:=by decide }
def Tryz.lays112_ren:Go.Shelf.Ren:=⟨fun | 112=>37 | n=>n,fun | 28=>26 | 3=>3 | 4=>4 | 0=>0 | n=>n,fun | n=>n⟩
theorem Tryz.lays112:Go.Proofs.Lays.n112 Tryz.prog Tryz.lays112_ren:={
 mixed:=by kernel_rfl
 f112:=Tryz.func37.trans (congrArg some (by kernel_rfl))
 t0:=Tryz.underlying0
 a0:=Tryz.isAgg0
 z0:=Tryz.sizeOf0
 v0:=Tryz.zeroValue0
 t3:=Tryz.underlying3
 a3:=Tryz.isAgg3
 z3:=Tryz.sizeOf3
 v3:=Tryz.zeroValue3
 t4:=Tryz.underlying4
 a4:=Tryz.isAgg4
 z4:=Tryz.sizeOf4
 v4:=Tryz.zeroValue4
 t28:=Tryz.underlying26
 a28:=Tryz.isAgg26
 z28:=Tryz.sizeOf26
 v28:=Tryz.zeroValue26 }
def Tryz.laysNm216_ren:Go.Shelf.Ren:=⟨fun | 16=>94 | n=>n,fun | 24=>44 | 9=>9 | 4=>4 | n=>n,fun | n=>n⟩
theorem Tryz.laysNm216:Go.Proofs.Lays2.n16 Tryz.prog Tryz.laysNm216_ren:={
 mixed:=by kernel_rfl
 f16:=Tryz.func94.trans (congrArg some (by kernel_rfl))
 t4:=Tryz.underlying4
 a4:=Tryz.isAgg4
 z4:=Tryz.sizeOf4
 v4:=Tryz.zeroValue4
 t9:=Tryz.underlying9
 a9:=Tryz.isAgg9
 z9:=Tryz.sizeOf9
 v9:=Tryz.zeroValue9
 t24:=Tryz.underlying44
 a24:=Tryz.isAgg44
 z24:=Tryz.sizeOf44
 v24:=Tryz.zeroValue44
 i9:=by kernel_rfl }
end Go.Proofs
namespace Go.Proofs.YthhieiabfpkaaaaGreatDoor
open Go.X
variable {u:World} {m0:Mem} {S:Segs} {w:World}
set_option maxHeartbeats 4000000
set_option maxRecDepth 100000
def Glob (u:World):Prop:=∃ mx,u.cell? ⟨0,0,none⟩ = some (.int .i64 mx)
def qiG (R:Rp Part):Rp Case:=fun m cs x=>∃ c1,cs = [.string (bs x.Key),c1] ∧ x.Key.length ≤ LIMS ∧ (pL 6 R) m [c1] x.Parts
def qfs:Nat → Rp Part
 | 0=>fun _ _ _=>False
 | d + 1=>fun m cs x=>∃ c4 c5,cs = [.int .i64 x.Kind,.string (bs x.Text),.string (bs x.Name),.string (bs x.Style),c4,c5] ∧ InR .i64 x.Kind ∧ x.Text.length ≤ LIMS ∧ x.Name.length ≤ LIMS ∧ x.Style.length ≤ LIMS ∧ (pL 2 (qiG (qfs d))) m [c4] x.Cases ∧ (pL 6 (qfs d)) m [c5] x.Parts
def qbp:Rp Part:=fun m cs x=>∃ d,qfs d m cs x
def qpA:Rp Case:=fun m cs x=>∃ c1,cs = [.string (bs x.Key),c1] ∧ x.Key.length ≤ LIMS ∧ (pL 6 qbp) m [c1] x.Parts
theorem qhl {R R':Rp Part} {m:Mem} {cs:List Value} {x:Case} (hR:∀ {cs:List Value} {x:Part},R m cs x → R' m cs x) (h:qiG R m cs x):qiG R' m cs x:=by
 obtain ⟨c1,e,h0,h1⟩:=h
 exact ⟨c1,e,h0,qgR (fun _ _ _ h=>hR h) h1⟩
theorem qit:∀ (d:Nat) {m:Mem} {cs:List Value} {x:Part},qfs d m cs x → qfs (d + 1) m cs x
 | 0,_,_,_,h=>h.elim
 | d + 1,_,_,_,h=>by
  obtain ⟨c4,c5,e,h0,h1,h2,h3,h4,h5⟩:=h
  exact ⟨c4,c5,e,h0,h1,h2,h3,qgR (fun _ _ _ h=>qhl (fun h=>qit d h) h) h4,qgR (fun _ _ _ h=>qit d h) h5⟩
theorem qgT {d d':Nat} (hd:d ≤ d') {m:Mem} {cs:List Value} {x:Part} (h:qfs d m cs x):qfs d' m cs x:=by
 induction hd with
 | refl=>exact h
 | step _ ih=>exact qit _ ih
theorem qpx {m:Mem} {cs:List Value} {x:Case} (h:qpA m cs x):∃ d,qiG (qfs d) m cs x:=by
 obtain ⟨c1,e,h0,h1⟩:=h
 obtain ⟨d,hd⟩:=qmm (fun d d' hd _ _ h=>qgT hd h) h1
 exact ⟨d,c1,e,h0,hd⟩
theorem qbK {m:Mem} {cs:List Value} {x:Part}:qbp m cs x ↔ (∃ c4 c5,cs = [.int .i64 x.Kind,.string (bs x.Text),.string (bs x.Name),.string (bs x.Style),c4,c5] ∧ InR .i64 x.Kind ∧ x.Text.length ≤ LIMS ∧ x.Name.length ≤ LIMS ∧ x.Style.length ≤ LIMS ∧ (pL 2 qpA) m [c4] x.Cases ∧ (pL 6 qbp) m [c5] x.Parts):=by
 constructor
 ·rintro ⟨d,h⟩
  cases d with
  | zero=>exact h.elim
  | succ d =>
   obtain ⟨c4,c5,e,h0,h1,h2,h3,h4,h5⟩:=h
   exact ⟨c4,c5,e,h0,h1,h2,h3,qgR (fun _ _ _ h=>qhl (R':=qbp) (fun h=>⟨d,h⟩) h) h4,qgR (fun _ _ _ h=>⟨d,h⟩) h5⟩
 ·rintro ⟨c4,c5,e,h0,h1,h2,h3,h4,h5⟩
  obtain ⟨d4,g4⟩:=qmm (P:=fun d=>qiG (qfs d)) (fun d d' hd _ _ h=>qhl (fun h=>qgT hd h) h) (qgR (fun _ _ _ h=>qpx h) h4)
  obtain ⟨d5,g5⟩:=qmm (fun d d' hd _ _ h=>qgT hd h) h5
  exact ⟨d4 + d5 + 1,c4,c5,e,h0,h1,h2,h3,qgR (fun _ _ _ h=>qhl (fun h=>qgT (by omega) h) h) g4,qgR (fun _ _ _ h=>qgT (by omega) h) g5⟩
theorem qn3 {R:Rp Part} (M:Mono R):Mono (qiG R):=⟨fun hm h=>by
 obtain ⟨c1,e,h0,h1⟩:=h
 exact ⟨c1,e,h0,(mL M).up hm h1⟩,fun h=>by
 obtain ⟨c1,rfl,h0,h1⟩:=h
 exact ⟨rfl,((mL M).one h1).1,trivial⟩⟩
theorem qiT:∀ d,Mono (qfs d)
 | 0=>⟨fun _ h=>h.elim,fun h=>h.elim⟩
 | d + 1=>⟨fun hm h=>by
  obtain ⟨c4,c5,e,h0,h1,h2,h3,h4,h5⟩:=h
  exact ⟨c4,c5,e,h0,h1,h2,h3,(mL (qn3 (qiT d))).up hm h4,(mL (qiT d)).up hm h5⟩,fun h=>by
  obtain ⟨c4,c5,rfl,h0,h1,h2,h3,h4,h5⟩:=h
  exact ⟨rfl,rfl,rfl,rfl,((mL (qn3 (qiT d))).one h4).1,((mL (qiT d)).one h5).1,trivial⟩⟩
theorem qa8:Mono qbp:=⟨fun hm ⟨d,h⟩=>⟨d,(qiT d).up hm h⟩,fun ⟨d,h⟩=>(qiT d).one h⟩
theorem qex:Mono qpA:=qn3 qa8
theorem qkC:aggB Tryz.prog 122 1 = true:=by kernel_rfl
theorem qrT:aggB Tryz.prog 132 2 = true:=by kernel_rfl
theorem qd5:aggB Tryz.prog 34 6 = true:=by kernel_rfl
theorem qla:qar Tryz.prog 122 0 0 = true:=by kernel_rfl
theorem qq6:qar Tryz.prog 132 0 0 = true:=by kernel_rfl
theorem qq1:qar Tryz.prog 132 1 1 = true:=by kernel_rfl
theorem qa2:qar Tryz.prog 34 0 0 = true:=by kernel_rfl
theorem qed:qar Tryz.prog 34 1 1 = true:=by kernel_rfl
theorem qbj:qar Tryz.prog 34 2 2 = true:=by kernel_rfl
theorem qbM:qar Tryz.prog 34 3 3 = true:=by kernel_rfl
theorem qkM:qar Tryz.prog 34 4 4 = true:=by kernel_rfl
theorem qec:qar Tryz.prog 34 5 5 = true:=by kernel_rfl
theorem qef:qar Tryz.prog 68 0 0 = true:=by kernel_rfl
theorem qdA:qar Tryz.prog 68 1 1 = true:=by kernel_rfl
theorem qf6:goB Tryz.prog 117 = true:=by kernel_rfl
theorem qsD:goB Tryz.prog 118 = true:=by kernel_rfl
theorem qkL:goB Tryz.prog 14 = true:=by kernel_rfl
theorem qp8:goB Tryz.prog 160 = true:=by kernel_rfl
theorem qkD:goB Tryz.prog 21 = true:=by kernel_rfl
theorem qpH:goB Tryz.prog 29 = true:=by kernel_rfl
theorem qlr:goB Tryz.prog 30 = true:=by kernel_rfl
theorem qtf:goB Tryz.prog 38 = true:=by kernel_rfl
theorem qh7:goB Tryz.prog 41 = true:=by kernel_rfl
theorem qlm:goB Tryz.prog 49 = true:=by kernel_rfl
theorem qrn:goB Tryz.prog 57 = true:=by kernel_rfl
theorem qnu:goB Tryz.prog 58 = true:=by kernel_rfl
theorem qtI:goB Tryz.prog 80 = true:=by kernel_rfl
theorem qrx:goB Tryz.prog 82 = true:=by kernel_rfl
theorem qrW:∃ i,Tryz.prog.info? 122 = some i ∧ i.size = 1:=⟨_,rfl,by kernel_rfl⟩
theorem qrY:∃ i,Tryz.prog.info? 132 = some i ∧ i.size = 2:=⟨_,rfl,by kernel_rfl⟩
theorem qhH:∃ i,Tryz.prog.info? 34 = some i ∧ i.size = 6:=⟨_,rfl,by kernel_rfl⟩
theorem qnU:∃ i,Tryz.prog.info? 65 = some i ∧ i.size = 1:=⟨_,rfl,by kernel_rfl⟩
theorem qjZ:∃ i,Tryz.prog.info? 66 = some i ∧ i.size = 1:=⟨_,rfl,by kernel_rfl⟩
theorem qog:∃ i,Tryz.prog.info? 68 = some i ∧ i.size = 2:=⟨_,rfl,by kernel_rfl⟩
theorem qid:∃ i,Tryz.prog.info? 9 = some i ∧ i.size = 1:=⟨_,rfl,by kernel_rfl⟩
theorem qhv:∃ i,Tryz.prog.info? 68 = some i:=⟨_,rfl⟩
theorem qss:liesAt Tryz.prog Tryz.prog.depth 68 (2 / Tryz.prog.cellsOf 68) 0 68 1 = true:=by kernel_rfl
theorem qgC:oneB Tryz.prog 120 = true:=by kernel_rfl
theorem qam:oneB Tryz.prog 3 = true:=by kernel_rfl
theorem qlG:oneB Tryz.prog 31 = true:=by kernel_rfl
theorem qeD:oneB Tryz.prog 32 = true:=by kernel_rfl
theorem qga:oneB Tryz.prog 65 = true:=by kernel_rfl
theorem qf2:oneB Tryz.prog 66 = true:=by kernel_rfl
theorem qay:oneB Tryz.prog 9 = true:=by kernel_rfl
theorem qpO:qcq Tryz.prog 122 = some [(0,1)]:=by kernel_rfl
theorem qgG:qcq Tryz.prog 34 = some [(0,1),(1,1),(2,1),(3,1),(4,1),(5,1)]:=by kernel_rfl
theorem ql4:SlT Tryz.prog 31 132 2:=SlT.of (by kernel_rfl)
theorem qcM:SlT Tryz.prog 32 34 6:=SlT.of (by kernel_rfl)
theorem qcK:SlT Tryz.prog 66 5 1:=SlT.of (by kernel_rfl)
theorem qoj:qbq Tryz.prog 122 = some [(Value.map none)]:=by kernel_rfl
theorem qq3:qbq Tryz.prog 132 = some [(vs ([])),(Value.slice none 0 0)]:=by kernel_rfl
theorem qcn:qbq Tryz.prog 34 = some [vi 0,(vs ([])),(vs ([])),(vs ([])),(Value.slice none 0 0),(Value.slice none 0 0)]:=by kernel_rfl
theorem qcF:qbq Tryz.prog 5 = some [(Value.int .u8 0)]:=by kernel_rfl
theorem qkA:qbq Tryz.prog 68 = some [(Value.pointer none),(Value.slice none 0 0)]:=by kernel_rfl
def qjM (u:World) (m0:Mem) (S:Segs) (r:Bool) (a:Act) (w:World):Prop :=
 Ok u m0 S w ∧ a.defers = [] ∧ RVs Tryz.prog a w [.t 2 (.bool r)]
theorem qbS (N:Nat) (kind_0:Int) (rkind_0:InR .i64 kind_0) {r:Bool} (hF:qbz N kind_0 = some r) (hG:Glob u) (ok:Ok u m0 S w) :
  Calls Tryz.prog 41 [vi kind_0].toArray w fun e w'=>(e = .returned (.bool r) ∧ Ok u m0 S w'):=by
 unfold qbz at hF
 refine en (qjM u m0 S) r Tryz.func41 rfl rfl rfl (fun _ _ h=>ra h rfl) fun fin a E=>sg<|aw E rfl fun a E=>sg<|mv E rfl fun a E=>lw E (qaq rfl rfl) fun a E=>mv E rfl fun a E=>bu E 5 hF (fun c1 hF E=>?_) fun c1 hF E=>?_
 ·refine mv E rfl fun a E=>lw E (qaR rfl rfl) fun a E=>pt E rfl rfl fun a E=>aw E rfl fun a E=>wp_ret ?_
  exact fin hF ⟨ok,E.d,rz E rfl⟩
 refine lsq E fun a E=>pf E rfl rfl fun a E=>aw E rfl fun a E=>wp_ret ?_
 exact fin hF ⟨ok,E.d,rz E rfl⟩
def qmi (u:World) (m0:Mem) (S:Segs) (r:Bool) (a:Act) (w:World):Prop :=
 Ok u m0 S w ∧ a.defers = [] ∧ RVs Tryz.prog a w [.t 2 (.bool r)]
theorem qiz (N:Nat) (c_0:Int) (rc_0:InR .u8 c_0) {r:Bool} (hF:qgc N c_0 = some r) (hG:Glob u) (ok:Ok u m0 S w) :
  Calls Tryz.prog 160 [Value.int .u8 c_0].toArray w fun e w'=>(e = .returned (.bool r) ∧ Ok u m0 S w'):=by
 unfold qgc at hF
 refine en (qmi u m0 S) r Tryz.func160 rfl rfl rfl (fun _ _ h=>ra h rfl) fun fin a E=>sg<|aw E rfl fun a E=>sg<|mv E rfl fun a E=>lw E (qaq rfl rfl) fun a E=>mv E rfl fun a E=>bw E 5 hF (fun c1 hF E=>?_) fun c1 hF E=>?_
 ·as_aux_lemma =>
   refine lsq E fun a E=>pf E rfl rfl fun a E=>mz E rfl rfl fun a E=>lw E (qaq rfl rfl) fun a E=>mv E rfl fun a E=>bw E 12 hF (fun c7 hF E=>?_) fun c7 hF E=>?_
   ·refine lsq E fun a E=>pf E rfl rfl fun a E=>pf E rfl rfl fun a E=>mz E rfl rfl fun a E=>lw E (qaq rfl rfl) fun a E=>mv E rfl fun a E=>bu E 20 hF (fun c10 hF E=>?_) fun c10 hF E=>?_
    ·refine mv E rfl fun a E=>lw E (qaR rfl rfl) fun a E=>pt E rfl rfl fun a E=>pf E rfl rfl fun a E=>aw E rfl fun a E=>wp_ret ?_
     exact fin hF ⟨ok,E.d,rz E rfl⟩
    refine lsq E fun a E=>pf E rfl rfl fun a E=>pf E rfl rfl fun a E=>aw E rfl fun a E=>wp_ret ?_
    exact fin hF ⟨ok,E.d,rz E rfl⟩
   refine mv E rfl fun a E=>lw E (qaR rfl rfl) fun a E=>pt E rfl rfl fun a E=>pf E rfl rfl fun a E=>mv E rfl fun a E=>bu E 17 hF (fun c8 hF E=>?_) fun c8 hF E=>?_
   ·refine lsz E fun a E=>lsq E fun a E=>pt E rfl rfl fun a E=>av E rfl fun a E=>wn<|wp_ret ?_
    exact fin hF ⟨ok,E.d,rz E rfl⟩
   refine mv E rfl fun a E=>lw E (qaq rfl rfl) fun a E=>mv E rfl fun a E=>bu E 20 hF (fun c9 hF E=>?_) fun c9 hF E=>?_
   ·refine mv E rfl fun a E=>lw E (qaR rfl rfl) fun a E=>pt E rfl rfl fun a E=>pf E rfl rfl fun a E=>aw E rfl fun a E=>wp_ret ?_
    exact fin hF ⟨ok,E.d,rz E rfl⟩
   refine lsq E fun a E=>pf E rfl rfl fun a E=>pf E rfl rfl fun a E=>aw E rfl fun a E=>wp_ret ?_
   exact fin hF ⟨ok,E.d,rz E rfl⟩
 refine mv E rfl fun a E=>lw E (qaR rfl rfl) fun a E=>pt E rfl rfl fun a E=>mv E rfl fun a E=>bu E 9 hF (fun c2 hF E=>?_) fun c2 hF E=>?_
 ·refine lsz E fun a E=>lsq E fun a E=>pt E rfl rfl fun a E=>mv E rfl fun a E=>lsz E fun a E=>lsq E fun a E=>pt E rfl rfl fun a E=>av E rfl fun a E=>?_
  refine wn<|wp_ret ?_
  exact fin hF ⟨ok,E.d,rz E rfl⟩
 refine mv E rfl fun a E=>lw E (qaq rfl rfl) fun a E=>mv E rfl fun a E=>bw E 12 hF (fun c3 hF E=>?_) fun c3 hF E=>?_
 ·refine lsq E fun a E=>pf E rfl rfl fun a E=>pf E rfl rfl fun a E=>mz E rfl rfl fun a E=>lw E (qaq rfl rfl) fun a E=>mv E rfl fun a E=>bu E 20 hF (fun c6 hF E=>?_) fun c6 hF E=>?_
  ·refine mv E rfl fun a E=>lw E (qaR rfl rfl) fun a E=>pt E rfl rfl fun a E=>pf E rfl rfl fun a E=>aw E rfl fun a E=>wp_ret ?_
   exact fin hF ⟨ok,E.d,rz E rfl⟩
  refine lsq E fun a E=>pf E rfl rfl fun a E=>pf E rfl rfl fun a E=>aw E rfl fun a E=>wp_ret ?_
  exact fin hF ⟨ok,E.d,rz E rfl⟩
 refine mv E rfl fun a E=>lw E (qaR rfl rfl) fun a E=>pt E rfl rfl fun a E=>pf E rfl rfl fun a E=>mv E rfl fun a E=>bu E 17 hF (fun c4 hF E=>?_) fun c4 hF E=>?_
 ·refine lsz E fun a E=>lsq E fun a E=>pt E rfl rfl fun a E=>av E rfl fun a E=>wn<|wp_ret ?_
  exact fin hF ⟨ok,E.d,rz E rfl⟩
 refine mv E rfl fun a E=>lw E (qaq rfl rfl) fun a E=>mv E rfl fun a E=>bu E 20 hF (fun c5 hF E=>?_) fun c5 hF E=>?_
 ·refine mv E rfl fun a E=>lw E (qaR rfl rfl) fun a E=>pt E rfl rfl fun a E=>pf E rfl rfl fun a E=>aw E rfl fun a E=>wp_ret ?_
  exact fin hF ⟨ok,E.d,rz E rfl⟩
 refine lsq E fun a E=>pf E rfl rfl fun a E=>pf E rfl rfl fun a E=>aw E rfl fun a E=>wp_ret ?_
 exact fin hF ⟨ok,E.d,rz E rfl⟩
def qj0 (u:World) (m0:Mem) (S:Segs) (r:Bool) (a:Act) (w:World):Prop :=
 Ok u m0 S w ∧ a.defers = [] ∧ RVs Tryz.prog a w [.t 2 (.bool r)]
theorem qc7 (N:Nat) (s_0:List UInt8) (ls_0:s_0.length ≤ LIMS) {r:Bool} (hF:qc1 N s_0 = some r) (hG:Glob u) (ok:Ok u m0 S w) :
  Calls Tryz.prog 117 [vs s_0].toArray w fun e w'=>(e = .returned (.bool r) ∧ Ok u m0 S w'):=by
 unfold qc1 at hF
 refine en (qj0 u m0 S) r Tryz.func117 rfl rfl rfl (fun _ _ h=>ra h rfl) fun fin a E=>sg<|aw E rfl fun a E=>wp_seq<|sg<|mv E rfl fun a E=>lw E (qcH rfl rfl) fun a E=>mv E rfl fun a E=>bu E 6 hF (fun c1 hF E=>?_) fun c1 hF E=>?_
 ·refine lsq E fun a E=>ls E fun a E=>pt E rfl rfl fun a E=>mv E rfl fun a E=>lsq E fun a E=>ls E fun a E=>pt E rfl rfl fun a E=>mv E rfl fun a E=>lsq E fun a E=>ls E fun a E=>pt E rfl rfl fun a E=>wn<|c_if E rfl (fun _=>?_) (fun h=>by cases h)
  refine sg<|aw E rfl fun a E=>wp_ret<|qad ?_
  exact fin hF ⟨ok,E.d,rz E rfl⟩
 refine mv E rfl fun a E=>lw E (qbs Tryz.underlying9 rfl) fun a E=>lw E (qaK rfl rfl) fun a E=>pf E rfl rfl fun a E=>mv E rfl fun a E=>bu E 11 hF (fun c2 hF E=>?_) fun c2 hF E=>?_
 ·refine lsq E fun a E=>ls E fun a E=>pt E rfl rfl fun a E=>mv E rfl fun a E=>lsq E fun a E=>ls E fun a E=>pt E rfl rfl fun a E=>wn<|c_if E rfl (fun _=>?_) (fun h=>by cases h)
  refine sg<|aw E rfl fun a E=>wp_ret<|qad ?_
  exact fin hF ⟨ok,E.d,rz E rfl⟩
 refine mv E rfl fun a E=>bd hF fun c3 e4 hF=>lv E ok (qbb Tryz.underlying9 rfl rfl e4) fun a E=>lw E (qap rfl rfl) fun a E=>pf E rfl rfl fun a E=>mv E rfl fun a E=>bu E 16 hF (fun c5 hF E=>?_) fun c5 hF E=>?_
 ·refine lsq E fun a E=>ls E fun a E=>pt E rfl rfl fun a E=>wn<|c_if E rfl (fun _=>?_) (fun h=>by cases h)
  refine sg<|aw E rfl fun a E=>wp_ret<|qad ?_
  exact fin hF ⟨ok,E.d,rz E rfl⟩
 refine mv E rfl fun a E=>bd hF fun c6 e7 hF=>lv E ok (qbb Tryz.underlying9 rfl rfl e7) fun a E=>lw E (qaK rfl rfl) fun a E=>pf E rfl rfl fun a E=>wn<|cf E rfl hF (fun c8 hF=>?_) fun c8 hF=>?_
 ·refine sg<|aw E rfl fun a E=>wp_ret<|qad ?_
  exact fin hF ⟨ok,E.d,rz E rfl⟩
 refine wp_skip<|qaa<|wp_seq<|sg<|mv E rfl fun a E=>lw E (qbs Tryz.underlying9 rfl) fun a E=>mv E rfl fun a E=>wn<|wp_block<|bd hF fun o10 hL hF=>qa7 _ (fun (s:Int) a w=>Ok u m0 (S) w ∧ Env 44 a [(0,vs s_0),(22,(vi (s_0.length:Int))),(23,vi s)] ∧ InR .i64 s) (fun (b:(Unit ⊕ Bool)) e a w=>(Sum.elim (fun b26=>e = (.exit 0) ∧ Ok u m0 (S) w ∧ Env 44 a []) (fun b27=>e = .ret ∧ qj0 u m0 S b27 a w)) b) ?_ ?_ N _ a w hL ⟨ok,E.keep [0,22,23],(ir 0)⟩
 rotate_left
 ·intro e a w _ hO
  rcases o10 with o10 | o10
  rotate_left
  ·obtain ⟨rfl,hret⟩:=hO
   refine qak<|qad ?_
   exact fin hF hret
  have hF:=qcj hF
  obtain ⟨rfl,ok,E⟩:=hO
  refine qa0<|qaa<|sg<|aw E rfl fun a E=>wp_ret ?_
  exact fin hF ⟨ok,E.d,rz E rfl⟩
 rintro v12 a w r ⟨ok,E,r13⟩ hF
 replace hF:qgX N s_0 v12 = some r:=hF
 unfold qgX at hF
 refine sg<|lw E (qap rfl rfl) fun a E=>wn<|wp_seq<|cg E rfl hF (fun c14 hF=>?_) fun c14 hF=>?_
 ·refine wp_exit<|qaM ?_
  cases hF
  exact so (sl ⟨rfl,⟨ok,E.keep []⟩⟩)
 refine wp_skip<|qaa<|wp_seq<|wp_block<|sg<|mv E rfl fun a E=>av E rfl fun a E=>wn<|sg<|mz E rfl rfl fun a E=>bd hF fun c15 e16 hF=>lv E ok (qbb Tryz.underlying9 rfl rfl e16) fun a E=>bd hF fun r17 e18 hF=>lc E qp8 rfl (qiz N (c15.toNat:Int) (InR.byte c15) e18 hG ok) fun w ok a E=>lw E (qbx rfl) fun a E=>mv E rfl fun a E=>bw E 31 hF (fun c19 hF E=>?_) fun c19 hF E=>?_
 ·refine lsz E fun a E=>pf E rfl rfl fun a E=>mv E rfl fun a E=>lsz E fun a E=>pf E rfl rfl fun a E=>wn<|c_if E rfl (fun h=>by cases h) (fun _=>?_)
  refine wp_skip<|qac<|qaa<|qab<|lw E (qaE rfl rfl (InR.inc r13 (InR.len ls_0) c14)) fun a E=>mv E rfl fun a E=>wpList_nil ?_
  cases hF
  exact qao ⟨ok,E.keep [0,22,23],(InR.inc r13 (InR.len ls_0) c14)⟩
 refine mz E rfl rfl fun a E=>bd hF fun c20 e21 hF=>lv E ok (qbb Tryz.underlying9 rfl rfl e21) fun a E=>lw E (qbD rfl rfl) fun a E=>pt E rfl rfl fun a E=>mv E rfl fun a E=>bw E 37 hF (fun c22 hF E=>?_) fun c22 hF E=>?_
 ·refine lsz E fun a E=>pf E rfl rfl fun a E=>wn<|c_if E rfl (fun h=>by cases h) (fun _=>?_)
  refine wp_skip<|qac<|qaa<|qab<|lw E (qaE rfl rfl (InR.inc r13 (InR.len ls_0) c14)) fun a E=>mv E rfl fun a E=>wpList_nil ?_
  cases hF
  exact qao ⟨ok,E.keep [0,22,23],(InR.inc r13 (InR.len ls_0) c14)⟩
 refine mz E rfl rfl fun a E=>bd hF fun c23 e24 hF=>lv E ok (qbb Tryz.underlying9 rfl rfl e24) fun a E=>lw E (qbD rfl rfl) fun a E=>pt E rfl rfl fun a E=>wn<|cg E rfl hF (fun c25 hF=>?_) fun c25 hF=>?_
 ·refine wp_skip<|qac<|qaa<|qab<|lw E (qaE rfl rfl (InR.inc r13 (InR.len ls_0) c14)) fun a E=>mv E rfl fun a E=>wpList_nil ?_
  cases hF
  exact qao ⟨ok,E.keep [0,22,23],(InR.inc r13 (InR.len ls_0) c14)⟩
 refine sg<|aw E rfl fun a E=>wp_ret<|qak<|qad ?_
 cases hF
 exact so (sr ⟨rfl,⟨ok,E.d,rz E rfl⟩⟩)
def qha (u:World) (m0:Mem) (S:Segs) (r:Bool) (a:Act) (w:World):Prop :=
 Ok u m0 S w ∧ a.defers = [] ∧ RVs Tryz.prog a w [.t 2 (.bool r)]
theorem qk0 (N:Nat) (s_0:List UInt8) (ls_0:s_0.length ≤ LIMS) {r:Bool} (hF:qf4 N s_0 = some r) (hG:Glob u) (ok:Ok u m0 S w) :
  Calls Tryz.prog 118 [vs s_0].toArray w fun e w'=>(e = .returned (.bool r) ∧ Ok u m0 S w'):=by
 unfold qf4 at hF
 refine en (qha u m0 S) r Tryz.func118 rfl rfl rfl (fun _ _ h=>ra h rfl) fun fin a E=>sg<|aw E rfl fun a E=>wp_seq<|sg<|mv E rfl fun a E=>lw E (qbs Tryz.underlying9 rfl) fun a E=>mv E rfl fun a E=>wn<|wp_block<|bd hF fun o2 hL hF=>qa7 _ (fun (s:Int) a w=>Ok u m0 (S) w ∧ Env 35 a [(0,vs s_0),(6,(vi (s_0.length:Int))),(7,vi s)] ∧ InR .i64 s) (fun (b:(Unit ⊕ Bool)) e a w=>(Sum.elim (fun b16=>e = (.exit 0) ∧ Ok u m0 (S) w ∧ Env 35 a [(0,vs s_0)]) (fun b17=>e = .ret ∧ qha u m0 S b17 a w)) b) ?_ ?_ N _ a w hL ⟨ok,E.keep [0,6,7],(ir 0)⟩
 rotate_left
 ·intro e a w _ hO
  rcases o2 with o2 | o2
  rotate_left
  ·obtain ⟨rfl,hret⟩:=hO
   refine qak<|qad ?_
   exact fin hF hret
  have hF:=qcj hF
  obtain ⟨rfl,ok,E⟩:=hO
  refine qa0<|qaa<|sg<|mv E rfl fun a E=>lw E (qdj rfl rfl) fun a E=>mv E rfl fun a E=>bu E 30 hF (fun c15 hF E=>?_) fun c15 hF E=>?_
  ·refine mv E rfl fun a E=>lw E (qbs Tryz.underlying9 rfl) fun a E=>lw E (qaR rfl rfl) fun a E=>pt E rfl rfl fun a E=>aw E rfl fun a E=>wp_ret ?_
   exact fin hF ⟨ok,E.d,rz E rfl⟩
  refine lsq E fun a E=>ls E fun a E=>pf E rfl rfl fun a E=>aw E rfl fun a E=>wp_ret ?_
  exact fin hF ⟨ok,E.d,rz E rfl⟩
 rintro v4 a w r ⟨ok,E,r5⟩ hF
 replace hF:qfc N s_0 v4 = some r:=hF
 unfold qfc at hF
 refine sg<|lw E (qap rfl rfl) fun a E=>wn<|wp_seq<|cg E rfl hF (fun c6 hF=>?_) fun c6 hF=>?_
 ·refine wp_exit<|qaM ?_
  cases hF
  exact so (sl ⟨rfl,⟨ok,E.keep [0]⟩⟩)
 refine wp_skip<|qaa<|wp_seq<|wp_block<|sg<|mv E rfl fun a E=>av E rfl fun a E=>wn<|sg<|mz E rfl rfl fun a E=>bd hF fun c7 e8 hF=>lv E ok (qbb Tryz.underlying9 rfl rfl e8) fun a E=>aw E rfl fun a E=>wp_seq<|bd hF fun o9 hJ hF=>qaH (Q':=fun e a w=>e = .normal ∧ Ok u m0 (S) w ∧ Env 35 a [(0,vs s_0),(6,(vi (s_0.length:Int))),(7,vi v4),(26,vb o9)]) ?_ ?_
 rotate_left
 ·intro e a w hO
  obtain ⟨rfl,ok,E⟩:=hO
  refine qaa<|cg E rfl hF (fun c14 hF=>?_) fun c14 hF=>?_
  ·refine wp_skip<|qac<|qaa<|qab<|lw E (qaE rfl rfl (InR.inc r5 (InR.len ls_0) c6)) fun a E=>mv E rfl fun a E=>wpList_nil ?_
   cases hF
   exact qao ⟨ok,E.keep [0,6,7],(InR.inc r5 (InR.len ls_0) c6)⟩
  refine sg<|aw E rfl fun a E=>wp_ret<|qak<|qad ?_
  cases hF
  exact so (sr ⟨rfl,⟨ok,E.d,rz E rfl⟩⟩)
 have hF:=hJ
 refine qab<|mv E rfl fun a E=>lw E (qap rfl rfl) fun a E=>mv E rfl fun a E=>bu E 15 hF (fun c10 hF E=>?_) fun c10 hF E=>?_
 ·refine lsq E fun a E=>pt E rfl rfl fun a E=>mz E rfl rfl fun a E=>lw E (qap rfl rfl) fun a E=>mv E rfl fun a E=>bu E 22 hF (fun c11 hF E=>?_) fun c11 hF E=>?_
  ·refine lsq E fun a E=>pt E rfl rfl fun a E=>pt E rfl rfl fun a E=>wpList_nil ?_
   cases hF
   exact ⟨rfl,⟨ok,E.keep [0,6,7,26]⟩⟩
  refine mv E rfl fun a E=>lw E (qaK rfl rfl) fun a E=>pf E rfl rfl fun a E=>pt E rfl rfl fun a E=>wpList_nil ?_
  cases hF
  exact ⟨rfl,⟨ok,E.keep [0,6,7,26]⟩⟩
 refine mv E rfl fun a E=>lw E (qaK rfl rfl) fun a E=>pf E rfl rfl fun a E=>mv E rfl fun a E=>bw E 19 hF (fun c12 hF E=>?_) fun c12 hF E=>?_
 ·refine lsz E fun a E=>lsq E fun a E=>pf E rfl rfl fun a E=>wpList_nil ?_
  cases hF
  exact ⟨rfl,⟨ok,E.keep [0,6,7,26]⟩⟩
 refine mv E rfl fun a E=>lw E (qap rfl rfl) fun a E=>mv E rfl fun a E=>bu E 22 hF (fun c13 hF E=>?_) fun c13 hF E=>?_
 ·refine lsq E fun a E=>pt E rfl rfl fun a E=>pt E rfl rfl fun a E=>wpList_nil ?_
  cases hF
  exact ⟨rfl,⟨ok,E.keep [0,6,7,26]⟩⟩
 refine mv E rfl fun a E=>lw E (qaK rfl rfl) fun a E=>pf E rfl rfl fun a E=>pt E rfl rfl fun a E=>wpList_nil ?_
 cases hF
 exact ⟨rfl,⟨ok,E.keep [0,6,7,26]⟩⟩
def qlv (u:World) (m0:Mem) (S:Segs) (r:Bool) (a:Act) (w:World):Prop :=
 Ok u m0 S w ∧ a.defers = [] ∧ RVs Tryz.prog a w [.t 2 (.bool r)]
theorem qlQ (N:Nat) (vx_0:List Value) (x_0:Part) (hx_0:qbp m0 vx_0 x_0) {r:Bool} (hF:qdH N x_0 = some r) (hG:Glob u) (ok:Ok u m0 S w) :
  Calls Tryz.prog 80 [.agg vx_0.toArray].toArray w fun e w'=>(e = .returned (.bool r) ∧ Ok u m0 S w'):=by
 obtain ⟨c5,c7,rfl,r1,l2,l3,l4,h6,h8⟩:=(qbK.1 hx_0)
 have le_m0:=Mem.le.refl m0
 unfold qdH at hF
 refine en (qlv u m0 S) r Tryz.func80 rfl rfl rfl (fun _ _ h=>ra h rfl) fun fin a E=>sg<|qbF E ok rfl rfl rfl fun b9 a w E ok=>aw E rfl fun a E=>sg<|fk E ok qa2 qam rfl 0 rfl rfl fun a E=>lw E (qaL (ps:=[(0,.tmp 6)]) (qs:=[(0,[vi x_0.Kind])]) (cs:=[vi x_0.Kind,(vs ([])),(vs ([])),(vs ([])),(Value.slice none 0 0),(Value.slice none 0 0)]) qcn qgG rfl ⟨rfl,rfl,rfl,trivial⟩ rfl) fun a E=>qa4 E ok qcn rfl rfl fun b10 a w E ok=>qax E ok 0 rfl rfl rfl qhH rfl rfl ⟨rfl,rfl,rfl,rfl,rfl,rfl,trivial⟩ rfl rfl fun w ok=>wn<|sg<|aw E rfl fun a E=>wp_seq<|sg<|fk E ok qa2 qam rfl 1 rfl rfl fun a E=>wn<|wp_block<|sg<|lw E (qah rfl rfl) fun a E=>?_
 refine aw E rfl fun a E=>bd hF fun o11 hJ hF=>qaH (Q':=fun e a w=>e = .normal ∧ Ok u m0 ([(b10,oc 34 [vi o11.2.Kind,vs o11.2.Text,vs o11.2.Name,vs o11.2.Style,(Value.slice none 0 0),(Value.slice none 0 0)])] :: [(b9,oc 34 [vi x_0.Kind,vs x_0.Text,vs x_0.Name,vs x_0.Style,c5,c7])] :: S) w ∧ Env 136 a [(1,vp b9),(3,vp b10),(4,vb o11.1)] ∧ InR .i64 o11.2.Kind ∧ o11.2.Text.length ≤ LIMS ∧ o11.2.Name.length ≤ LIMS ∧ o11.2.Style.length ≤ LIMS) ?_ ?_
 ·as_aux_lemma =>
   have hF:=hJ
   refine cf E rfl hF (fun c16 hF=>?_) fun c16 hF=>?_
   ·refine sg<|fk E ok qed qay rfl 1 rfl rfl fun a E=>fv E qed rfl fun a E=>qax E ok 0 rfl rfl rfl qid rfl rfl ⟨rfl,trivial⟩ rfl rfl fun w ok=>wn<|qab<|fk E ok qed qay rfl 1 rfl rfl fun a E=>lw E (qdj rfl rfl) fun a E=>av E rfl fun a E=>wpList_nil ?_
    cases hF
    exact ⟨rfl,⟨ok,E.keep [1,3,4],r1,l2,(Nat.zero_le _),(Nat.zero_le _)⟩⟩
   refine wp_seq<|sg<|lw E (qah rfl rfl) fun a E=>aw E rfl fun a E=>bd hF fun o17 hJ hF=>qaH (Q':=fun e a w=>e = .normal ∧ Ok u m0 ([(b10,oc 34 [vi x_0.Kind,(vs ([])),(vs ([])),(vs ([])),(Value.slice none 0 0),(Value.slice none 0 0)])] :: [(b9,oc 34 [vi x_0.Kind,vs x_0.Text,vs x_0.Name,vs x_0.Style,c5,c7])] :: S) w ∧ Env 136 a [(1,vp b9),(3,vp b10),(4,vb true),(9,vi x_0.Kind),(18,vb o17)]) ?_ ?_
   ·have hF:=hJ
    refine cf E rfl hF (fun c18 hF=>?_) fun c18 hF=>?_
    ·refine wp_skip ?_
     cases hF
     exact ⟨rfl,⟨ok,E.keep [1,3,4,9,18]⟩⟩
    refine sg<|lw E (qah rfl rfl) fun a E=>aw E rfl fun a E=>cf E rfl hF (fun c19 hF=>?_) fun c19 hF=>?_
    ·refine wp_skip ?_
     cases hF
     exact ⟨rfl,⟨ok,E.keep [1,3,4,9,18]⟩⟩
    refine sg<|lw E (qah rfl rfl) fun a E=>aw E rfl fun a E=>cf E rfl hF (fun c20 hF=>?_) fun c20 hF=>?_
    ·refine wp_skip ?_
     cases hF
     exact ⟨rfl,⟨ok,E.keep [1,3,4,9,18]⟩⟩
    refine sg<|lw E (qah rfl rfl) fun a E=>aw E rfl fun a E=>cf E rfl hF (fun c21 hF=>?_) fun c21 hF=>?_
    ·refine wp_skip ?_
     cases hF
     exact ⟨rfl,⟨ok,E.keep [1,3,4,9,18]⟩⟩
    refine qab<|lw E (qah rfl rfl) fun a E=>av E rfl fun a E=>wpList_nil ?_
    cases hF
    exact ⟨rfl,⟨ok,E.keep [1,3,4,9,18]⟩⟩
   intro e a w hO
   obtain ⟨rfl,ok,E⟩:=hO
   refine qaa<|cf E rfl hF (fun c22 hF=>?_) fun c22 hF=>?_
   ·refine qab<|fk E ok qbj qay rfl 1 rfl rfl fun a E=>fv E qbj rfl fun a E=>qax E ok 0 rfl rfl rfl qid rfl rfl ⟨rfl,trivial⟩ rfl rfl fun w ok=>wpList_nil ?_
    cases hF
    exact ⟨rfl,⟨ok,E.keep [1,3,4],r1,(Nat.zero_le _),l3,(Nat.zero_le _)⟩⟩
   refine sg<|lw E (qah rfl rfl) fun a E=>aw E rfl fun a E=>cf E rfl hF (fun c23 hF=>?_) fun c23 hF=>?_
   ·as_aux_lemma =>
     refine wp_seq<|bd hF fun o24 hJ hF=>qaH (Q':=fun e a w=>e = .normal ∧ Ok u m0 ([(b10,oc 34 [vi o24.Kind,vs o24.Text,vs o24.Name,vs o24.Style,(Value.slice none 0 0),(Value.slice none 0 0)])] :: [(b9,oc 34 [vi x_0.Kind,vs x_0.Text,vs x_0.Name,vs x_0.Style,c5,c7])] :: S) w ∧ Env 136 a [(1,vp b9),(3,vp b10)] ∧ InR .i64 o24.Kind ∧ o24.Text.length ≤ LIMS ∧ o24.Name.length ≤ LIMS ∧ o24.Style.length ≤ LIMS) ?_ ?_
     ·have hF:=hJ
      cases hF
      refine qco [1] (Cls u m0 ([(b10,oc 34 [vi x_0.Kind,(vs ([])),(vs ([])),(vs ([])),(Value.slice none 0 0),(Value.slice none 0 0)])] :: [(b9,oc 34 [vi x_0.Kind,vs x_0.Text,vs x_0.Name,vs x_0.Style,c5,c7])] :: [])) (Cls u m0 ([(b9,oc 34 [vi x_0.Kind,vs x_0.Text,vs x_0.Name,vs x_0.Style,c5,c7])] :: [])) (by kernel_rfl) ?_
      intro w hw
      replace ok:=qc8 ok hw
      clear hw
      refine qas (cl1 (cq le_m0 ok [0,1] rfl) (cq le_m0 ok [1] rfl)) fun hT=>kt 0 E rfl hT (qag qbj rfl) fun a E=>qeI 1 E rfl (by kernel_rfl) nP hT (qal qay rfl (Holds.cown 1 rfl rfl)) rfl rfl fun a E=>kt 2 E rfl hT (qag qbM rfl) fun a E=>kt 3 E rfl hT (qal qay rfl (Holds.cown 0 rfl rfl)) fun a E=>kt 4 E rfl hT (qag qbj rfl) fun a E=>qaS [5] (by kernel_rfl) rfl (qaZ ?_)
      ·refine wo rfl<|qax E ok 0 rfl rfl rfl qid rfl rfl ⟨rfl,trivial⟩ rfl rfl fun w ok=>wn<|qas (cl2 (by kernel_rfl) (cq le_m0 ok [1] rfl)) fun hT=>kt 6 E rfl hT (qag qbM rfl) fun a E=>qaS [7] (by kernel_rfl) rfl (qaZ ?_)
       ·refine wo rfl<|qax E ok 0 rfl rfl rfl qid rfl rfl ⟨rfl,trivial⟩ rfl rfl fun w ok=>wn<|qas (cl2 (by kernel_rfl) (cq le_m0 ok [1] rfl)) fun hT=>qbJ (by kernel_rfl) ?_
        exact ⟨rfl,⟨ok,E.keep [1,3],r1,(Nat.zero_le _),l3,l4⟩⟩
     intro e a w hO
     obtain ⟨rfl,ok,E,r29,l30,l31,l32⟩:=hO
     refine qaa<|qab<|fk E ok qbM qay rfl 1 rfl rfl fun a E=>lw E (qcH rfl rfl) fun a E=>mv E rfl fun a E=>bu E 38 hF (fun c33 hF E=>?_) fun c33 hF E=>?_
     ·refine lsq E fun a E=>ls E fun a E=>pt E rfl rfl fun a E=>mv E rfl fun a E=>lsq E fun a E=>ls E fun a E=>pt E rfl rfl fun a E=>av E rfl fun a E=>wpList_nil ?_
      cases hF
      exact ⟨rfl,⟨ok,E.keep [1,3,4],r29,l30,l31,l32⟩⟩
     refine fk E ok qbM qay rfl 1 rfl rfl fun a E=>lw E (qcH rfl rfl) fun a E=>pf E rfl rfl fun a E=>mv E rfl fun a E=>bu E 43 hF (fun c34 hF E=>?_) fun c34 hF E=>?_
     ·refine lsq E fun a E=>ls E fun a E=>pt E rfl rfl fun a E=>av E rfl fun a E=>wpList_nil ?_
      cases hF
      exact ⟨rfl,⟨ok,E.keep [1,3,4],r29,l30,l31,l32⟩⟩
     refine fk E ok qbM qay rfl 1 rfl rfl fun a E=>lw E (qcH rfl rfl) fun a E=>pf E rfl rfl fun a E=>av E rfl fun a E=>wpList_nil ?_
     cases hF
     exact ⟨rfl,⟨ok,E.keep [1,3,4],r29,l30,l31,l32⟩⟩
   refine wp_seq<|sg<|lw E (qah rfl rfl) fun a E=>aw E rfl fun a E=>bd hF fun o35 hJ hF=>qaH (Q':=fun e a w=>e = .normal ∧ Ok u m0 ([(b10,oc 34 [vi x_0.Kind,(vs ([])),(vs ([])),(vs ([])),(Value.slice none 0 0),(Value.slice none 0 0)])] :: [(b9,oc 34 [vi x_0.Kind,vs x_0.Text,vs x_0.Name,vs x_0.Style,c5,c7])] :: S) w ∧ Env 136 a [(1,vp b9),(3,vp b10),(4,vb true),(9,vi x_0.Kind),(48,vb o35)]) ?_ ?_
   ·have hF:=hJ
    refine cf E rfl hF (fun c36 hF=>?_) fun c36 hF=>?_
    ·refine wp_skip ?_
     cases hF
     exact ⟨rfl,⟨ok,E.keep [1,3,4,9,48]⟩⟩
    refine qab<|lw E (qah rfl rfl) fun a E=>av E rfl fun a E=>wpList_nil ?_
    cases hF
    exact ⟨rfl,⟨ok,E.keep [1,3,4,9,48]⟩⟩
   intro e a w hO
   obtain ⟨rfl,ok,E⟩:=hO
   refine qaa<|cf E rfl hF (fun c37 hF=>?_) fun c37 hF=>?_
   ·refine wp_seq<|bd hF fun o38 hJ hF=>qaH (Q':=fun e a w=>e = .normal ∧ Ok u m0 ([(b10,oc 34 [vi o38.Kind,vs o38.Text,vs o38.Name,vs o38.Style,(Value.slice none 0 0),(Value.slice none 0 0)])] :: [(b9,oc 34 [vi x_0.Kind,vs x_0.Text,vs x_0.Name,vs x_0.Style,c5,c7])] :: S) w ∧ Env 136 a [(1,vp b9),(3,vp b10)] ∧ InR .i64 o38.Kind ∧ o38.Text.length ≤ LIMS ∧ o38.Name.length ≤ LIMS ∧ o38.Style.length ≤ LIMS) ?_ ?_
    rotate_left
    ·intro e a w hO
     obtain ⟨rfl,ok,E,r43,l44,l45,l46⟩:=hO
     refine qaa<|qab<|fk E ok qbM qay rfl 1 rfl rfl fun a E=>bd hF fun r47 e48 hF=>lc E qf6 rfl (qc7 N x_0.Style l4 e48 hG ok) fun w ok a E=>av E rfl fun a E=>wpList_nil ?_
     cases hF
     exact ⟨rfl,⟨ok,E.keep [1,3,4],r43,l44,l45,l46⟩⟩
    have hF:=hJ
    cases hF
    refine qco [1] (Cls u m0 ([(b10,oc 34 [vi x_0.Kind,(vs ([])),(vs ([])),(vs ([])),(Value.slice none 0 0),(Value.slice none 0 0)])] :: [(b9,oc 34 [vi x_0.Kind,vs x_0.Text,vs x_0.Name,vs x_0.Style,c5,c7])] :: [])) (Cls u m0 ([(b9,oc 34 [vi x_0.Kind,vs x_0.Text,vs x_0.Name,vs x_0.Style,c5,c7])] :: [])) (by kernel_rfl) ?_
    intro w hw
    replace ok:=qc8 ok hw
    clear hw
    refine qas (cl1 (cq le_m0 ok [0,1] rfl) (cq le_m0 ok [1] rfl)) fun hT=>kt 0 E rfl hT (qag qbj rfl) fun a E=>qeI 1 E rfl (by kernel_rfl) nP hT (qal qay rfl (Holds.cown 1 rfl rfl)) rfl rfl fun a E=>kt 2 E rfl hT (qag qbM rfl) fun a E=>kt 3 E rfl hT (qal qay rfl (Holds.cown 0 rfl rfl)) fun a E=>kt 4 E rfl hT (qag qbj rfl) fun a E=>qaS [5] (by kernel_rfl) rfl (qaZ ?_)
    ·refine wo rfl<|qax E ok 0 rfl rfl rfl qid rfl rfl ⟨rfl,trivial⟩ rfl rfl fun w ok=>wn<|qas (cl2 (by kernel_rfl) (cq le_m0 ok [1] rfl)) fun hT=>kt 6 E rfl hT (qag qbM rfl) fun a E=>qaS [7] (by kernel_rfl) rfl (qaZ ?_)
     ·refine wo rfl<|qax E ok 0 rfl rfl rfl qid rfl rfl ⟨rfl,trivial⟩ rfl rfl fun w ok=>wn<|qas (cl2 (by kernel_rfl) (cq le_m0 ok [1] rfl)) fun hT=>qbJ (by kernel_rfl) ?_
      exact ⟨rfl,⟨ok,E.keep [1,3],r1,(Nat.zero_le _),l3,l4⟩⟩
   refine sg<|lw E (qah rfl rfl) fun a E=>aw E rfl fun a E=>cg E rfl hF (fun c49 hF=>?_) fun c49 hF=>?_
   ·refine sg<|lw E (qah rfl rfl) fun a E=>aw E rfl fun a E=>cf E rfl hF (fun c61 hF=>?_) fun c61 hF=>?_
    ·refine wp_skip ?_
     cases hF
     exact ⟨rfl,⟨ok,E.keep [1,3,4],r1,(Nat.zero_le _),(Nat.zero_le _),(Nat.zero_le _)⟩⟩
    refine qab<|av E rfl fun a E=>wpList_nil ?_
    cases hF
    exact ⟨rfl,⟨ok,E.keep [1,3,4],r1,(Nat.zero_le _),(Nat.zero_le _),(Nat.zero_le _)⟩⟩
   refine wp_seq<|bd hF fun o50 hJ hF=>qaH (Q':=fun e a w=>e = .normal ∧ Ok u m0 ([(b10,oc 34 [vi o50.Kind,vs o50.Text,vs o50.Name,vs o50.Style,(Value.slice none 0 0),(Value.slice none 0 0)])] :: [(b9,oc 34 [vi x_0.Kind,vs x_0.Text,vs x_0.Name,vs x_0.Style,c5,c7])] :: S) w ∧ Env 136 a [(1,vp b9),(3,vp b10)] ∧ InR .i64 o50.Kind ∧ o50.Text.length ≤ LIMS ∧ o50.Name.length ≤ LIMS ∧ o50.Style.length ≤ LIMS) ?_ ?_
   rotate_left
   ·intro e a w hO
    obtain ⟨rfl,ok,E,r55,l56,l57,l58⟩:=hO
    refine qaa<|qab<|fk E ok qbM qay rfl 1 rfl rfl fun a E=>bd hF fun r59 e60 hF=>lc E qsD rfl (qk0 N x_0.Style l4 e60 hG ok) fun w ok a E=>av E rfl fun a E=>wpList_nil ?_
    cases hF
    exact ⟨rfl,⟨ok,E.keep [1,3,4],r55,l56,l57,l58⟩⟩
   have hF:=hJ
   cases hF
   refine qco [1] (Cls u m0 ([(b10,oc 34 [vi x_0.Kind,(vs ([])),(vs ([])),(vs ([])),(Value.slice none 0 0),(Value.slice none 0 0)])] :: [(b9,oc 34 [vi x_0.Kind,vs x_0.Text,vs x_0.Name,vs x_0.Style,c5,c7])] :: [])) (Cls u m0 ([(b9,oc 34 [vi x_0.Kind,vs x_0.Text,vs x_0.Name,vs x_0.Style,c5,c7])] :: [])) (by kernel_rfl) ?_
   intro w hw
   replace ok:=qc8 ok hw
   clear hw
   refine qas (cl1 (cq le_m0 ok [0,1] rfl) (cq le_m0 ok [1] rfl)) fun hT=>kt 0 E rfl hT (qag qbj rfl) fun a E=>qeI 1 E rfl (by kernel_rfl) nP hT (qal qay rfl (Holds.cown 1 rfl rfl)) rfl rfl fun a E=>kt 2 E rfl hT (qag qbM rfl) fun a E=>kt 3 E rfl hT (qal qay rfl (Holds.cown 0 rfl rfl)) fun a E=>kt 4 E rfl hT (qag qbj rfl) fun a E=>qaS [5] (by kernel_rfl) rfl (qaZ ?_)
   ·refine wo rfl<|qax E ok 0 rfl rfl rfl qid rfl rfl ⟨rfl,trivial⟩ rfl rfl fun w ok=>wn<|qas (cl2 (by kernel_rfl) (cq le_m0 ok [1] rfl)) fun hT=>kt 6 E rfl hT (qag qbM rfl) fun a E=>qaS [7] (by kernel_rfl) rfl (qaZ ?_)
    ·refine wo rfl<|qax E ok 0 rfl rfl rfl qid rfl rfl ⟨rfl,trivial⟩ rfl rfl fun w ok=>wn<|qas (cl2 (by kernel_rfl) (cq le_m0 ok [1] rfl)) fun hT=>qbJ (by kernel_rfl) ?_
     exact ⟨rfl,⟨ok,E.keep [1,3],r1,(Nat.zero_le _),l3,l4⟩⟩
 intro e a w hO
 obtain ⟨rfl,ok,E,r62,l63,l64,l65⟩:=hO
 refine qac<|qaa<|wp_seq<|sg<|fk E ok qbj qay rfl 0 rfl rfl fun a E=>lw E (qdj rfl rfl) fun a E=>mv E rfl fun a E=>bu E 76 hF (fun c66 hF E=>?_) fun c66 hF E=>?_
 ·as_aux_lemma =>
   refine lsz E fun a E=>lsz E fun a E=>pt E rfl rfl fun a E=>wn<|c_if E rfl (fun _=>?_) (fun h=>by cases h)
   refine qab<|mz E rfl rfl fun a E=>qcu o11.1 (fun c67=>?_) (fun c67=>?_)
   rotate_left
   ·have hF:=qcc c67 hF
    have E:=E.upd 87 c67 rfl
    refine lsq E fun a E=>ls E fun a E=>pf E rfl rfl fun a E=>aw E rfl fun a E=>sg<|mz E rfl rfl fun a E=>lsz E fun a E=>ls E fun a E=>?_
    refine pf E rfl rfl fun a E=>mv E rfl fun a E=>lsz E fun a E=>ls E fun a E=>pf E rfl rfl fun a E=>mv E rfl fun a E=>lsz E fun a E=>ls E fun a E=>pf E rfl rfl fun a E=>mv E rfl fun a E=>?_
    refine lsz E fun a E=>lsz E fun a E=>ls E fun a E=>pf E rfl rfl fun a E=>mv E rfl fun a E=>lsz E fun a E=>ls E fun a E=>?_
    refine lsz E fun a E=>pf E rfl rfl fun a E=>aw E rfl fun a E=>wp_ret ?_
    exact fin hF ⟨ok.drop.drop,E.d,rz E rfl⟩
   have hF:=qci c67 hF
   have E:=E.upd 87 c67 rfl
   refine fk E ok qbj qay rfl 1 rfl rfl fun a E=>bd hF fun r68 e69 hF=>lc E qf6 rfl (qc7 N x_0.Name l3 e69 hG ok) fun w ok a E=>pt E rfl rfl fun a E=>aw E rfl fun a E=>sg<|mz E rfl rfl fun a E=>qcu r68 (fun c70=>?_) (fun c70=>?_)
   rotate_left
   ·have hF:=qcc c70 hF
    have E:=E.upd 93 c70 rfl
    refine lsz E fun a E=>ls E fun a E=>pf E rfl rfl fun a E=>mv E rfl fun a E=>lsz E fun a E=>ls E fun a E=>pf E rfl rfl fun a E=>mv E rfl fun a E=>lsq E fun a E=>?_
    refine lsq E fun a E=>ls E fun a E=>pf E rfl rfl fun a E=>mv E rfl fun a E=>lsz E fun a E=>lsz E fun a E=>ls E fun a E=>pf E rfl rfl fun a E=>mv E rfl fun a E=>?_
    refine lsz E fun a E=>lsz E fun a E=>ls E fun a E=>pf E rfl rfl fun a E=>aw E rfl fun a E=>wp_ret ?_
    exact fin hF ⟨ok.drop.drop,E.d,rz E rfl⟩
   have hF:=qci c70 hF
   have E:=E.upd 93 c70 rfl
   refine fk E ok qed qay rfl 1 rfl rfl fun a E=>fk E ok qed qay rfl 0 rfl rfl fun a E=>lw E (qcH rfl rfl) fun a E=>pt E rfl rfl fun a E=>mv E rfl fun a E=>bw E 100 hF (fun c71 hF E=>?_) fun c71 hF E=>?_
   ·refine lsz E fun a E=>ls E fun a E=>pf E rfl rfl fun a E=>mv E rfl fun a E=>lsz E fun a E=>ls E fun a E=>pf E rfl rfl fun a E=>mv E rfl fun a E=>lsq E fun a E=>?_
    refine lsz E fun a E=>lsq E fun a E=>ls E fun a E=>pf E rfl rfl fun a E=>mv E rfl fun a E=>lsz E fun a E=>lsq E fun a E=>ls E fun a E=>?_
    refine lsq E fun a E=>pf E rfl rfl fun a E=>aw E rfl fun a E=>wp_ret ?_
    exact fin hF ⟨ok.drop.drop,E.d,rz E rfl⟩
   refine fk E ok qbj qay rfl 1 rfl rfl fun a E=>fk E ok qbj qay rfl 0 rfl rfl fun a E=>lw E (qcH rfl rfl) fun a E=>pt E rfl rfl fun a E=>mv E rfl fun a E=>bw E 107 hF (fun c72 hF E=>?_) fun c72 hF E=>?_
   ·refine lsz E fun a E=>ls E fun a E=>pf E rfl rfl fun a E=>mv E rfl fun a E=>lsz E fun a E=>lsz E fun a E=>ls E fun a E=>?_
    refine pf E rfl rfl fun a E=>mv E rfl fun a E=>lsz E fun a E=>lsz E fun a E=>ls E fun a E=>pf E rfl rfl fun a E=>aw E rfl fun a E=>wp_ret ?_
    exact fin hF ⟨ok.drop.drop,E.d,rz E rfl⟩
   refine fk E ok qbM qay rfl 1 rfl rfl fun a E=>fk E ok qbM qay rfl 0 rfl rfl fun a E=>lw E (qcH rfl rfl) fun a E=>pt E rfl rfl fun a E=>mv E rfl fun a E=>bw E 114 hF (fun c73 hF E=>?_) fun c73 hF E=>?_
   ·refine lsz E fun a E=>lsz E fun a E=>ls E fun a E=>pf E rfl rfl fun a E=>mv E rfl fun a E=>lsz E fun a E=>ls E fun a E=>?_
    refine lsz E fun a E=>pf E rfl rfl fun a E=>aw E rfl fun a E=>wp_ret ?_
    exact fin hF ⟨ok.drop.drop,E.d,rz E rfl⟩
   refine fk E ok qkM qlG rfl 1 rfl rfl fun a E=>lv E ok (qaP ql4 h6 rfl) fun a E=>lw E (qah rfl rfl) fun a E=>mv E rfl fun a E=>bu E 119 hF (fun c74 hF E=>?_) fun c74 hF E=>?_
   ·refine lsq E fun a E=>ls E fun a E=>pt E rfl rfl fun a E=>pt E rfl rfl fun a E=>mv E rfl fun a E=>fk E ok qec qeD rfl 1 rfl rfl fun a E=>lv E ok (qaP qcM h8 rfl) fun a E=>lw E (qah rfl rfl) fun a E=>mv E rfl fun a E=>bu E 130 hF (fun c75 hF E=>?_) fun c75 hF E=>?_
    ·refine lsq E fun a E=>ls E fun a E=>pt E rfl rfl fun a E=>pt E rfl rfl fun a E=>aw E rfl fun a E=>wp_ret ?_
     exact fin hF ⟨ok.drop.drop,E.d,rz E rfl⟩
    refine fk E ok qa2 qam rfl 1 rfl rfl fun a E=>lw E (qah rfl rfl) fun a E=>pf E rfl rfl fun a E=>pt E rfl rfl fun a E=>aw E rfl fun a E=>wp_ret ?_
    exact fin hF ⟨ok.drop.drop,E.d,rz E rfl⟩
   refine fk E ok qa2 qam rfl 1 rfl rfl fun a E=>bd hF fun r76 e77 hF=>lc E qh7 rfl (qbS N x_0.Kind r1 e77 hG ok) fun w ok a E=>pf E rfl rfl fun a E=>pt E rfl rfl fun a E=>mv E rfl fun a E=>qcu r76 (fun c78=>?_) (fun c78=>?_)
   rotate_left
   ·have hF:=qcc c78 hF
    have E:=E.upd 125 c78 rfl
    refine lsz E fun a E=>lsz E fun a E=>ls E fun a E=>pf E rfl rfl fun a E=>aw E rfl fun a E=>wp_ret ?_
    exact fin hF ⟨ok.drop.drop,E.d,rz E rfl⟩
   have hF:=qci c78 hF
   have E:=E.upd 125 c78 rfl
   refine fk E ok qec qeD rfl 1 rfl rfl fun a E=>lv E ok (qaP qcM h8 rfl) fun a E=>lw E (qah rfl rfl) fun a E=>mv E rfl fun a E=>bu E 130 hF (fun c79 hF E=>?_) fun c79 hF E=>?_
   ·refine lsq E fun a E=>ls E fun a E=>pt E rfl rfl fun a E=>pt E rfl rfl fun a E=>aw E rfl fun a E=>wp_ret ?_
    exact fin hF ⟨ok.drop.drop,E.d,rz E rfl⟩
   refine fk E ok qa2 qam rfl 1 rfl rfl fun a E=>lw E (qah rfl rfl) fun a E=>pf E rfl rfl fun a E=>pt E rfl rfl fun a E=>aw E rfl fun a E=>wp_ret ?_
   exact fin hF ⟨ok.drop.drop,E.d,rz E rfl⟩
 refine fk E ok qa2 qam rfl 1 rfl rfl fun a E=>lw E (qbD rfl rfl) fun a E=>mv E rfl fun a E=>bw E 80 hF (fun c80 hF E=>?_) fun c80 hF E=>?_
 ·as_aux_lemma =>
   refine lsq E fun a E=>ls E fun a E=>pf E rfl rfl fun a E=>pf E rfl rfl fun a E=>wn<|c_if E rfl (fun h=>by cases h) (fun _=>?_)
   refine wp_skip<|qaa<|sg<|mz E rfl rfl fun a E=>qcu o11.1 (fun c96=>?_) (fun c96=>?_)
   rotate_left
   ·have hF:=qcc c96 hF
    have E:=E.upd 93 c96 rfl
    refine lsz E fun a E=>ls E fun a E=>pf E rfl rfl fun a E=>mv E rfl fun a E=>lsz E fun a E=>ls E fun a E=>pf E rfl rfl fun a E=>mv E rfl fun a E=>lsq E fun a E=>?_
    refine lsq E fun a E=>ls E fun a E=>pf E rfl rfl fun a E=>mv E rfl fun a E=>lsz E fun a E=>lsz E fun a E=>ls E fun a E=>pf E rfl rfl fun a E=>mv E rfl fun a E=>?_
    refine lsz E fun a E=>lsz E fun a E=>ls E fun a E=>pf E rfl rfl fun a E=>aw E rfl fun a E=>wp_ret ?_
    exact fin hF ⟨ok.drop.drop,E.d,rz E rfl⟩
   have hF:=qci c96 hF
   have E:=E.upd 93 c96 rfl
   refine fk E ok qed qay rfl 1 rfl rfl fun a E=>fk E ok qed qay rfl 0 rfl rfl fun a E=>lw E (qcH rfl rfl) fun a E=>pt E rfl rfl fun a E=>mv E rfl fun a E=>bw E 100 hF (fun c97 hF E=>?_) fun c97 hF E=>?_
   ·refine lsz E fun a E=>ls E fun a E=>pf E rfl rfl fun a E=>mv E rfl fun a E=>lsz E fun a E=>ls E fun a E=>pf E rfl rfl fun a E=>mv E rfl fun a E=>lsq E fun a E=>?_
    refine lsz E fun a E=>lsq E fun a E=>ls E fun a E=>pf E rfl rfl fun a E=>mv E rfl fun a E=>lsz E fun a E=>lsq E fun a E=>ls E fun a E=>?_
    refine lsq E fun a E=>pf E rfl rfl fun a E=>aw E rfl fun a E=>wp_ret ?_
    exact fin hF ⟨ok.drop.drop,E.d,rz E rfl⟩
   refine fk E ok qbj qay rfl 1 rfl rfl fun a E=>fk E ok qbj qay rfl 0 rfl rfl fun a E=>lw E (qcH rfl rfl) fun a E=>pt E rfl rfl fun a E=>mv E rfl fun a E=>bw E 107 hF (fun c98 hF E=>?_) fun c98 hF E=>?_
   ·refine lsz E fun a E=>ls E fun a E=>pf E rfl rfl fun a E=>mv E rfl fun a E=>lsz E fun a E=>lsz E fun a E=>ls E fun a E=>?_
    refine pf E rfl rfl fun a E=>mv E rfl fun a E=>lsz E fun a E=>lsz E fun a E=>ls E fun a E=>pf E rfl rfl fun a E=>aw E rfl fun a E=>wp_ret ?_
    exact fin hF ⟨ok.drop.drop,E.d,rz E rfl⟩
   refine fk E ok qbM qay rfl 1 rfl rfl fun a E=>fk E ok qbM qay rfl 0 rfl rfl fun a E=>lw E (qcH rfl rfl) fun a E=>pt E rfl rfl fun a E=>mv E rfl fun a E=>bw E 114 hF (fun c99 hF E=>?_) fun c99 hF E=>?_
   ·refine lsz E fun a E=>lsz E fun a E=>ls E fun a E=>pf E rfl rfl fun a E=>mv E rfl fun a E=>lsz E fun a E=>ls E fun a E=>?_
    refine lsz E fun a E=>pf E rfl rfl fun a E=>aw E rfl fun a E=>wp_ret ?_
    exact fin hF ⟨ok.drop.drop,E.d,rz E rfl⟩
   refine fk E ok qkM qlG rfl 1 rfl rfl fun a E=>lv E ok (qaP ql4 h6 rfl) fun a E=>lw E (qah rfl rfl) fun a E=>mv E rfl fun a E=>bu E 119 hF (fun c100 hF E=>?_) fun c100 hF E=>?_
   ·refine lsq E fun a E=>ls E fun a E=>pt E rfl rfl fun a E=>pt E rfl rfl fun a E=>mv E rfl fun a E=>fk E ok qec qeD rfl 1 rfl rfl fun a E=>lv E ok (qaP qcM h8 rfl) fun a E=>lw E (qah rfl rfl) fun a E=>mv E rfl fun a E=>bu E 130 hF (fun c101 hF E=>?_) fun c101 hF E=>?_
    ·refine lsq E fun a E=>ls E fun a E=>pt E rfl rfl fun a E=>pt E rfl rfl fun a E=>aw E rfl fun a E=>wp_ret ?_
     exact fin hF ⟨ok.drop.drop,E.d,rz E rfl⟩
    refine fk E ok qa2 qam rfl 1 rfl rfl fun a E=>lw E (qah rfl rfl) fun a E=>pf E rfl rfl fun a E=>pt E rfl rfl fun a E=>aw E rfl fun a E=>wp_ret ?_
    exact fin hF ⟨ok.drop.drop,E.d,rz E rfl⟩
   refine fk E ok qa2 qam rfl 1 rfl rfl fun a E=>bd hF fun r102 e103 hF=>lc E qh7 rfl (qbS N x_0.Kind r1 e103 hG ok) fun w ok a E=>pf E rfl rfl fun a E=>pt E rfl rfl fun a E=>mv E rfl fun a E=>qcu r102 (fun c104=>?_) (fun c104=>?_)
   rotate_left
   ·have hF:=qcc c104 hF
    have E:=E.upd 125 c104 rfl
    refine lsz E fun a E=>lsz E fun a E=>ls E fun a E=>pf E rfl rfl fun a E=>aw E rfl fun a E=>wp_ret ?_
    exact fin hF ⟨ok.drop.drop,E.d,rz E rfl⟩
   have hF:=qci c104 hF
   have E:=E.upd 125 c104 rfl
   refine fk E ok qec qeD rfl 1 rfl rfl fun a E=>lv E ok (qaP qcM h8 rfl) fun a E=>lw E (qah rfl rfl) fun a E=>mv E rfl fun a E=>bu E 130 hF (fun c105 hF E=>?_) fun c105 hF E=>?_
   ·refine lsq E fun a E=>ls E fun a E=>pt E rfl rfl fun a E=>pt E rfl rfl fun a E=>aw E rfl fun a E=>wp_ret ?_
    exact fin hF ⟨ok.drop.drop,E.d,rz E rfl⟩
   refine fk E ok qa2 qam rfl 1 rfl rfl fun a E=>lw E (qah rfl rfl) fun a E=>pf E rfl rfl fun a E=>pt E rfl rfl fun a E=>aw E rfl fun a E=>wp_ret ?_
   exact fin hF ⟨ok.drop.drop,E.d,rz E rfl⟩
 refine fk E ok qa2 qam rfl 1 rfl rfl fun a E=>lw E (qbD rfl rfl) fun a E=>pt E rfl rfl fun a E=>pf E rfl rfl fun a E=>wn<|bd hF fun o81 hJ hF=>qaH (Q':=fun e a w=>e = .normal ∧ Ok u m0 ([(b10,oc 34 [vi o11.2.Kind,vs o11.2.Text,vs o11.2.Name,vs o11.2.Style,(Value.slice none 0 0),(Value.slice none 0 0)])] :: [(b9,oc 34 [vi x_0.Kind,vs x_0.Text,vs x_0.Name,vs x_0.Style,c5,c7])] :: S) w ∧ Env 136 a [(1,vp b9),(3,vp b10),(4,vb o81)]) ?_ ?_
 ·have hF:=hJ
  refine cg E rfl hF (fun c82 hF=>?_) fun c82 hF=>?_
  ·refine wp_skip ?_
   cases hF
   exact ⟨rfl,⟨ok,E.keep [1,3,4]⟩⟩
  refine qab<|mz E rfl rfl fun a E=>qcu o11.1 (fun c83=>?_) (fun c83=>?_)
  rotate_left
  ·have hF:=qcc c83 hF
   have E:=E.upd 87 c83 rfl
   refine lsq E fun a E=>ls E fun a E=>pf E rfl rfl fun a E=>av E rfl fun a E=>wpList_nil ?_
   cases hF
   exact ⟨rfl,⟨ok,E.keep [1,3,4]⟩⟩
  have hF:=qci c83 hF
  have E:=E.upd 87 c83 rfl
  refine fk E ok qbj qay rfl 1 rfl rfl fun a E=>bd hF fun r84 e85 hF=>lc E qf6 rfl (qc7 N x_0.Name l3 e85 hG ok) fun w ok a E=>pt E rfl rfl fun a E=>av E rfl fun a E=>wpList_nil ?_
  cases hF
  exact ⟨rfl,⟨ok,E.keep [1,3,4]⟩⟩
 intro e a w hO
 obtain ⟨rfl,ok,E⟩:=hO
 refine qaa<|sg<|mz E rfl rfl fun a E=>qcu o81 (fun c86=>?_) (fun c86=>?_)
 rotate_left
 ·have hF:=qcc c86 hF
  have E:=E.upd 93 c86 rfl
  refine lsz E fun a E=>ls E fun a E=>pf E rfl rfl fun a E=>mv E rfl fun a E=>lsz E fun a E=>ls E fun a E=>pf E rfl rfl fun a E=>mv E rfl fun a E=>lsq E fun a E=>?_
  refine lsq E fun a E=>ls E fun a E=>pf E rfl rfl fun a E=>mv E rfl fun a E=>lsz E fun a E=>lsz E fun a E=>ls E fun a E=>pf E rfl rfl fun a E=>mv E rfl fun a E=>?_
  refine lsz E fun a E=>lsz E fun a E=>ls E fun a E=>pf E rfl rfl fun a E=>aw E rfl fun a E=>wp_ret ?_
  exact fin hF ⟨ok.drop.drop,E.d,rz E rfl⟩
 have hF:=qci c86 hF
 have E:=E.upd 93 c86 rfl
 refine fk E ok qed qay rfl 1 rfl rfl fun a E=>fk E ok qed qay rfl 0 rfl rfl fun a E=>lw E (qcH rfl rfl) fun a E=>pt E rfl rfl fun a E=>mv E rfl fun a E=>bw E 100 hF (fun c87 hF E=>?_) fun c87 hF E=>?_
 ·refine lsz E fun a E=>ls E fun a E=>pf E rfl rfl fun a E=>mv E rfl fun a E=>lsz E fun a E=>ls E fun a E=>pf E rfl rfl fun a E=>mv E rfl fun a E=>lsq E fun a E=>?_
  refine lsz E fun a E=>lsq E fun a E=>ls E fun a E=>pf E rfl rfl fun a E=>mv E rfl fun a E=>lsz E fun a E=>lsq E fun a E=>ls E fun a E=>?_
  refine lsq E fun a E=>pf E rfl rfl fun a E=>aw E rfl fun a E=>wp_ret ?_
  exact fin hF ⟨ok.drop.drop,E.d,rz E rfl⟩
 refine fk E ok qbj qay rfl 1 rfl rfl fun a E=>fk E ok qbj qay rfl 0 rfl rfl fun a E=>lw E (qcH rfl rfl) fun a E=>pt E rfl rfl fun a E=>mv E rfl fun a E=>bw E 107 hF (fun c88 hF E=>?_) fun c88 hF E=>?_
 ·refine lsz E fun a E=>ls E fun a E=>pf E rfl rfl fun a E=>mv E rfl fun a E=>lsz E fun a E=>lsz E fun a E=>ls E fun a E=>?_
  refine pf E rfl rfl fun a E=>mv E rfl fun a E=>lsz E fun a E=>lsz E fun a E=>ls E fun a E=>pf E rfl rfl fun a E=>aw E rfl fun a E=>wp_ret ?_
  exact fin hF ⟨ok.drop.drop,E.d,rz E rfl⟩
 refine fk E ok qbM qay rfl 1 rfl rfl fun a E=>fk E ok qbM qay rfl 0 rfl rfl fun a E=>lw E (qcH rfl rfl) fun a E=>pt E rfl rfl fun a E=>mv E rfl fun a E=>bw E 114 hF (fun c89 hF E=>?_) fun c89 hF E=>?_
 ·refine lsz E fun a E=>lsz E fun a E=>ls E fun a E=>pf E rfl rfl fun a E=>mv E rfl fun a E=>lsz E fun a E=>ls E fun a E=>?_
  refine lsz E fun a E=>pf E rfl rfl fun a E=>aw E rfl fun a E=>wp_ret ?_
  exact fin hF ⟨ok.drop.drop,E.d,rz E rfl⟩
 refine fk E ok qkM qlG rfl 1 rfl rfl fun a E=>lv E ok (qaP ql4 h6 rfl) fun a E=>lw E (qah rfl rfl) fun a E=>mv E rfl fun a E=>bu E 119 hF (fun c90 hF E=>?_) fun c90 hF E=>?_
 ·refine lsq E fun a E=>ls E fun a E=>pt E rfl rfl fun a E=>pt E rfl rfl fun a E=>mv E rfl fun a E=>fk E ok qec qeD rfl 1 rfl rfl fun a E=>lv E ok (qaP qcM h8 rfl) fun a E=>lw E (qah rfl rfl) fun a E=>mv E rfl fun a E=>bu E 130 hF (fun c91 hF E=>?_) fun c91 hF E=>?_
  ·refine lsq E fun a E=>ls E fun a E=>pt E rfl rfl fun a E=>pt E rfl rfl fun a E=>aw E rfl fun a E=>wp_ret ?_
   exact fin hF ⟨ok.drop.drop,E.d,rz E rfl⟩
  refine fk E ok qa2 qam rfl 1 rfl rfl fun a E=>lw E (qah rfl rfl) fun a E=>pf E rfl rfl fun a E=>pt E rfl rfl fun a E=>aw E rfl fun a E=>wp_ret ?_
  exact fin hF ⟨ok.drop.drop,E.d,rz E rfl⟩
 refine fk E ok qa2 qam rfl 1 rfl rfl fun a E=>bd hF fun r92 e93 hF=>lc E qh7 rfl (qbS N x_0.Kind r1 e93 hG ok) fun w ok a E=>pf E rfl rfl fun a E=>pt E rfl rfl fun a E=>mv E rfl fun a E=>qcu r92 (fun c94=>?_) (fun c94=>?_)
 rotate_left
 ·have hF:=qcc c94 hF
  have E:=E.upd 125 c94 rfl
  refine lsz E fun a E=>lsz E fun a E=>ls E fun a E=>pf E rfl rfl fun a E=>aw E rfl fun a E=>wp_ret ?_
  exact fin hF ⟨ok.drop.drop,E.d,rz E rfl⟩
 have hF:=qci c94 hF
 have E:=E.upd 125 c94 rfl
 refine fk E ok qec qeD rfl 1 rfl rfl fun a E=>lv E ok (qaP qcM h8 rfl) fun a E=>lw E (qah rfl rfl) fun a E=>mv E rfl fun a E=>bu E 130 hF (fun c95 hF E=>?_) fun c95 hF E=>?_
 ·refine lsq E fun a E=>ls E fun a E=>pt E rfl rfl fun a E=>pt E rfl rfl fun a E=>aw E rfl fun a E=>wp_ret ?_
  exact fin hF ⟨ok.drop.drop,E.d,rz E rfl⟩
 refine fk E ok qa2 qam rfl 1 rfl rfl fun a E=>lw E (qah rfl rfl) fun a E=>pf E rfl rfl fun a E=>pt E rfl rfl fun a E=>aw E rfl fun a E=>wp_ret ?_
 exact fin hF ⟨ok.drop.drop,E.d,rz E rfl⟩
def qfw (u:World) (m0:Mem) (S:Segs) (x0:List (List UInt8 × Bool)) (vm0:Value) (Mm0:List (Nat × Obj)) (r:Bool × (List (List UInt8 × Bool))) (a:Act) (w:World):Prop :=
 ∃ m1 M1,m0.le m1 ∧ Ok u m1 ([] :: M1 :: S) w ∧ a.defers = [] ∧ RVs Tryz.prog a w [.t 8 (.bool r.1)] ∧ OMap kS (oneV pB) m1 vm0 r.2 M1
def qdu (N:Nat):Prop:=∀ {u:World} {m0:Mem} {S:Segs} {w:World} (vl_1:Value) (l_1:List (Part)) (hl_1:(pL 6 qbp) m0 [vl_1] l_1) (depth_2:Int) (rdepth_2:InR .i64 depth_2) (counting_3:Bool) {vm0:Value} {Mm0:List (Nat × Obj)} (x0:List (List UInt8 × Bool)) (hm0:OMap kS (oneV pB) m0 vm0 x0 Mm0) {r:Bool × (List (List UInt8 × Bool))} (hF:qcl N l_1 depth_2 counting_3 x0 = some r) (hG:Glob u) (ok:Ok u m0 ([] :: Mm0 :: S) w),Calls Tryz.prog 57 [Value.agg [vm0].toArray,vl_1,vi depth_2,vb counting_3].toArray w fun e w'=>∃ m1 M1,e = .returned (.bool r.1) ∧ m0.le m1 ∧ Ok u m1 ([] :: M1 :: S) w' ∧ OMap kS (oneV pB) m1 vm0 r.2 M1
theorem qhm (N:Nat) (ih_syntax_checker_parts:qdu N):qdu (N + 1):=by
 intro u m0 S w vl_1 l_1 hl_1 depth_2 rdepth_2 counting_3 vm0 Mm0 x0 hm0 r hF hG ok
 have le_m0:=Mem.le.refl m0
 have hF0:qb5 (qcl N) N l_1 depth_2 counting_3 x0 = some r:=hF
 have hF:=hF0
 clear hF0
 unfold qb5 at hF
 refine en (qfw u m0 S x0 vm0 Mm0) r Tryz.func57 rfl rfl rfl (by rintro a w ⟨m1,M1,hle,ok,hd,hrv,h0⟩; exact qaT [.t 8 (.bool r.1)] hd rfl hrv ⟨m1,M1,rfl,hle,ok,h0⟩) fun fin a E=>sg<|qbF E ok rfl rfl rfl fun b3 a w E ok=>aw E rfl fun a E=>wp_seq<|sg<|mv E rfl fun a E=>lv E ok (qaP qcM hl_1 rfl) fun a E=>mv E rfl fun a E=>wn<|wp_block<|bd hF fun o8 hL hF=>qa7 _ (fun (s:Int × (List (List UInt8 × Bool))) a w=>∃ m9 M11,m0.le m9 ∧ Ok u m9 ([(b3,oc 122 [vm0])] :: [] :: M11 :: S) w ∧ Env 94 a [(1,vl_1),(2,vi depth_2),(3,vb counting_3),(4,vp b3),(11,vl_1),(12,(vi (l_1.length:Int))),(13,vi s.1)] ∧ InR .i64 s.1 ∧ OMap kS (oneV pB) m9 vm0 s.2 M11) (fun (b:(((List (List UInt8 × Bool))) ⊕ (Bool × (List (List UInt8 × Bool))))) e a w=>(Sum.elim (fun b114=>e = (.exit 0) ∧ ∃ m115 M116,m0.le m115 ∧ Ok u m115 ([(b3,oc 122 [vm0])] :: [] :: M116 :: S) w ∧ Env 94 a [] ∧ OMap kS (oneV pB) m115 vm0 b114 M116) (fun b118=>e = .ret ∧ qfw u m0 S x0 vm0 Mm0 b118 a w)) b) ?_ ?_ N _ a w hL ⟨m0,Mm0,Mem.le.refl _,ok,E.keep [1,2,3,4,11,12,13],(ir 0),hm0⟩
 rotate_left
 ·intro e a w _ hO
  rcases o8 with o8 | o8
  rotate_left
  ·obtain ⟨rfl,hret⟩:=hO
   refine qak<|qad ?_
   exact fin hF hret
  have hF:=qcj hF
  obtain ⟨rfl,m111,M112,hle,ok,E,h113⟩:=hO
  have le_m0:=le_m0.trans hle
  have hl_1:=(mL qa8).up hle hl_1
  refine qa0<|qaa<|sg<|aw E rfl fun a E=>wp_ret ?_
  exact fin hF ⟨m111,M112,le_m0,ok.drop,E.d,rz E rfl,h113⟩
 rintro ⟨v13,v14⟩ a w r ⟨m15,M17,hle,ok,E,r16,h18⟩ hF
 replace hF:qa1 (qcl N) N l_1 depth_2 counting_3 v13 v14 = some r:=hF
 unfold qa1 at hF
 have le_m0:=le_m0.trans hle
 have hl_1:=(mL qa8).up hle hl_1
 refine sg<|lw E (qap rfl rfl) fun a E=>wn<|wp_seq<|cg E rfl hF (fun c19 hF=>?_) fun c19 hF=>?_
 ·refine wp_exit<|qaM ?_
  cases hF
  exact so (sl ⟨rfl,⟨m15,M17,le_m0,ok,E.keep [],h18⟩⟩)
 refine wp_skip<|qaa<|wp_seq<|wp_block<|sg<|mv E rfl fun a E=>?_
 obtain ⟨x20,e21,hF⟩:=bnd hF
 obtain ⟨b22,o23,es24,hl25,rr26,at27,yy28⟩:=ia E 11 13 qcM hl_1 e21
 obtain ⟨c33,c35,rfl,r29,l30,l31,l32,h34,h36⟩:=(qbK.1 rr26)
 refine lv E ok (yy28 _ _) fun a E=>lv E ok (qan (cs:=[vi x20.Kind,vs x20.Text,vs x20.Name,vs x20.Style,c33,c35]) qd5 rfl rfl (Holds.ro at27)) fun a E=>qa4 E ok qcn rfl rfl fun b37 a w E ok=>av E rfl fun a E=>qax E ok 0 rfl rfl rfl qhH rfl rfl ⟨rfl,rfl,rfl,rfl,(qdk h34),(qdk h36),trivial⟩ rfl rfl fun w ok=>wn<|wp_seq<|wp_seq<|bd hF fun o38 hJ hF=>qaH (Q':=fun e a w=>e = .normal ∧ Ok u m15 ([(b37,oc 34 [vi x20.Kind,vs x20.Text,vs x20.Name,vs x20.Style,c33,c35])] :: [(b3,oc 122 [vm0])] :: [] :: M17 :: S) w ∧ Env 94 a [(1,vl_1),(2,vi depth_2),(3,vb counting_3),(4,vp b3),(10,vp b37),(11,vl_1),(12,(vi (l_1.length:Int))),(13,vi v13),(47,vb o38)]) ?_ ?_
 ·as_aux_lemma =>
   have hF:=hJ
   refine qab<|lv E ok (qan (cs:=[vi x20.Kind,vs x20.Text,vs x20.Name,vs x20.Style,c33,c35]) qd5 rfl rfl (Holds.own 0 rfl rfl)) fun a E=>bd hF fun r39 e40 hF=>lc E qtI rfl (qlQ N _ x20 (qbK.2 ⟨_,_,rfl,r29,l30,l31,l32,h34,h36⟩) e40 hG ok) fun w ok a E=>lw E (qbx rfl) fun a E=>mv E rfl fun a E=>bu E 21 hF (fun c41 hF E=>?_) fun c41 hF E=>?_
   ·refine lsz E fun a E=>lsq E fun a E=>ls E fun a E=>pt E rfl rfl fun a E=>mv E rfl fun a E=>lsz E fun a E=>lsq E fun a E=>ls E fun a E=>?_
    refine lsz E fun a E=>lsz E fun a E=>ls E fun a E=>pt E rfl rfl fun a E=>wpList_nil ?_
    cases hF
    exact ⟨rfl,⟨ok,E.keep [1,2,3,4,10,11,12,13,47]⟩⟩
   refine fk E ok qa2 qam rfl 0 rfl rfl fun a E=>lw E (qah rfl rfl) fun a E=>mv E rfl fun a E=>bw E 25 hF (fun c42 hF E=>?_) fun c42 hF E=>?_
   ·refine lsq E fun a E=>pf E rfl rfl fun a E=>pf E rfl rfl fun a E=>mz E rfl rfl fun a E=>lw E (qaK rfl rfl) fun a E=>mv E rfl fun a E=>bw E 33 hF (fun c63 hF E=>?_) fun c63 hF E=>?_
    ·refine lsq E fun a E=>ls E fun a E=>pf E rfl rfl fun a E=>mv E rfl fun a E=>lsz E fun a E=>lsq E fun a E=>ls E fun a E=>pf E rfl rfl fun a E=>pf E rfl rfl fun a E=>wpList_nil ?_
     cases hF
     exact ⟨rfl,⟨ok,E.keep [1,2,3,4,10,11,12,13,47]⟩⟩
    refine fk E ok qa2 qam rfl 0 rfl rfl fun a E=>lw E (qah rfl rfl) fun a E=>pt E rfl rfl fun a E=>mv E rfl fun a E=>bw E 38 hF (fun c64 hF E=>?_) fun c64 hF E=>?_
    ·refine lsz E fun a E=>lsq E fun a E=>ls E fun a E=>pf E rfl rfl fun a E=>pf E rfl rfl fun a E=>wpList_nil ?_
     cases hF
     exact ⟨rfl,⟨ok,E.keep [1,2,3,4,10,11,12,13,47]⟩⟩
    refine mz E rfl rfl fun a E=>lw E (qhq rfl rfl (InR.dec r16 (ir 0) c63)) fun a E=>?_
    obtain ⟨x65,e66,hF⟩:=bnd hF
    obtain ⟨b67,o68,es69,hl70,rr71,at72,yy73⟩:=ia E 39 41 qcM hl_1 e66
    obtain ⟨c78,c80,rfl,r74,l75,l76,l77,h79,h81⟩:=(qbK.1 rr71)
    refine lv E ok (yy73 _ _) fun a E=>fv E qa2 rfl fun a E=>lv E ok (qal qam rfl (Holds.ro (At.sub 0 1 at72))) fun a E=>lw E (qah rfl rfl) fun a E=>pt E rfl rfl fun a E=>pf E rfl rfl fun a E=>wpList_nil ?_
    cases hF
    exact ⟨rfl,⟨ok,E.keep [1,2,3,4,10,11,12,13,47]⟩⟩
   refine mv E rfl fun a E=>lw E (qbx rfl) fun a E=>pt E rfl rfl fun a E=>pf E rfl rfl fun a E=>mv E rfl fun a E=>bu E 30 hF (fun c43 hF E=>?_) fun c43 hF E=>?_
   ·refine lsz E fun a E=>lsz E fun a E=>lsz E fun a E=>lsz E fun a E=>?_
    refine pt E rfl rfl fun a E=>wpList_nil ?_
    cases hF
    exact ⟨rfl,⟨ok,E.keep [1,2,3,4,10,11,12,13,47]⟩⟩
   refine mv E rfl fun a E=>lw E (qaK rfl rfl) fun a E=>mv E rfl fun a E=>bw E 33 hF (fun c44 hF E=>?_) fun c44 hF E=>?_
   ·refine lsq E fun a E=>ls E fun a E=>pf E rfl rfl fun a E=>mv E rfl fun a E=>lsz E fun a E=>lsq E fun a E=>ls E fun a E=>pf E rfl rfl fun a E=>pf E rfl rfl fun a E=>wpList_nil ?_
    cases hF
    exact ⟨rfl,⟨ok,E.keep [1,2,3,4,10,11,12,13,47]⟩⟩
   refine fk E ok qa2 qam rfl 0 rfl rfl fun a E=>lw E (qah rfl rfl) fun a E=>pt E rfl rfl fun a E=>mv E rfl fun a E=>bw E 38 hF (fun c45 hF E=>?_) fun c45 hF E=>?_
   ·refine lsz E fun a E=>lsq E fun a E=>ls E fun a E=>pf E rfl rfl fun a E=>pf E rfl rfl fun a E=>wpList_nil ?_
    cases hF
    exact ⟨rfl,⟨ok,E.keep [1,2,3,4,10,11,12,13,47]⟩⟩
   refine mz E rfl rfl fun a E=>lw E (qhq rfl rfl (InR.dec r16 (ir 0) c44)) fun a E=>?_
   obtain ⟨x46,e47,hF⟩:=bnd hF
   obtain ⟨b48,o49,es50,hl51,rr52,at53,yy54⟩:=ia E 39 41 qcM hl_1 e47
   obtain ⟨c59,c61,rfl,r55,l56,l57,l58,h60,h62⟩:=(qbK.1 rr52)
   refine lv E ok (yy54 _ _) fun a E=>fv E qa2 rfl fun a E=>lv E ok (qal qam rfl (Holds.ro (At.sub 0 1 at53))) fun a E=>lw E (qah rfl rfl) fun a E=>pt E rfl rfl fun a E=>pf E rfl rfl fun a E=>wpList_nil ?_
   cases hF
   exact ⟨rfl,⟨ok,E.keep [1,2,3,4,10,11,12,13,47]⟩⟩
 intro e a w hO
 obtain ⟨rfl,ok,E⟩:=hO
 refine qaa<|cf E rfl hF (fun c82 hF=>?_) fun c82 hF=>?_
 ·refine sg<|aw E rfl fun a E=>wp_ret<|qad<|qak<|qad ?_
  cases hF
  exact so (sr ⟨rfl,⟨m15,M17,le_m0,ok.drop.drop,E.d,rz E rfl,h18⟩⟩)
 refine wp_skip<|qaa<|wp_seq<|sg<|fk E ok qa2 qam rfl 0 rfl rfl fun a E=>lw E (qah rfl rfl) fun a E=>mv E rfl fun a E=>bw E 51 hF (fun c83 hF E=>?_) fun c83 hF E=>?_
 ·as_aux_lemma =>
   refine lsz E fun a E=>lsz E fun a E=>lsz E fun a E=>pf E rfl rfl fun a E=>wn<|c_if E rfl (fun h=>by cases h) (fun _=>?_)
   refine wp_skip<|qaa<|wp_seq<|sg<|fk E ok qa2 qam rfl 0 rfl rfl fun a E=>bd hF fun r101 e102 hF=>lc E qh7 rfl (qbS N x20.Kind r29 e102 hG ok) fun w ok a E=>mv E rfl fun a E=>qcu r101 (fun c103=>?_) (fun c103=>?_)
   ·have hF:=qci c103 hF
    have E:=E.upd 68 c103 rfl
    refine mv E rfl fun a E=>lw E (qaq rfl rfl) fun a E=>mv E rfl fun a E=>bw E 71 hF (fun c104 hF E=>?_) fun c104 hF E=>?_
    ·refine lv E ok (qan (cs:=[vm0]) qkC rfl rfl (Holds.own 1 rfl rfl)) fun a E=>lv E ok (qan (cs:=[vi x20.Kind,vs x20.Text,vs x20.Name,vs x20.Style,c33,c35]) qd5 rfl rfl (Holds.own 0 rfl rfl)) fun a E=>mv E rfl fun a E=>lw E (qaF rfl rfl) fun a E=>mv E rfl fun a E=>?_
     cases hF
    refine lsz E fun a E=>lsq E fun a E=>ls E fun a E=>pt E rfl rfl fun a E=>pt E rfl rfl fun a E=>wn<|c_if E rfl (fun _=>?_) (fun h=>by cases h)
    refine sg<|aw E rfl fun a E=>wp_ret<|qad<|qak<|qad ?_
    cases hF
    exact so (sr ⟨rfl,⟨m15,M17,le_m0,ok.drop.drop,E.d,rz E rfl,h18⟩⟩)
   have hF:=qcc c103 hF
   have E:=E.upd 68 c103 rfl
   refine lsz E fun a E=>lsz E fun a E=>lsq E fun a E=>ls E fun a E=>pf E rfl rfl fun a E=>wn<|c_if E rfl (fun h=>by cases h) (fun _=>?_)
   refine wp_skip<|qaa<|sg<|fk E ok qa2 qam rfl 0 rfl rfl fun a E=>lw E (qbD rfl rfl) fun a E=>mv E rfl fun a E=>bw E 84 hF (fun c105 hF E=>?_) fun c105 hF E=>?_
   ·refine lsq E fun a E=>ls E fun a E=>pf E rfl rfl fun a E=>wn<|c_if E rfl (fun h=>by cases h) (fun _=>?_)
    refine wp_skip<|qac<|qaa<|qab<|lw E (qaE rfl rfl (InR.inc r16 (qaj hl_1) c19)) fun a E=>mv E rfl fun a E=>wpList_nil ?_
    cases hF
    exact qao ⟨m15,M17,le_m0,(ok.pk 4 [1,2,3] rfl (by decide)),E.keep [1,2,3,4,11,12,13],(InR.inc r16 (qaj hl_1) c19),h18⟩
   refine fk E ok qbj qay rfl 0 rfl rfl fun a E=>lw E (qdj rfl rfl) fun a E=>pt E rfl rfl fun a E=>wn<|cg E rfl hF (fun c106 hF=>?_) fun c106 hF=>?_
   ·refine wp_skip<|qac<|qaa<|qab<|lw E (qaE rfl rfl (InR.inc r16 (qaj hl_1) c19)) fun a E=>mv E rfl fun a E=>wpList_nil ?_
    cases hF
    exact qao ⟨m15,M17,le_m0,(ok.pk 4 [1,2,3] rfl (by decide)),E.keep [1,2,3,4,11,12,13],(InR.inc r16 (qaj hl_1) c19),h18⟩
   refine qab<|fk E ok qla qgC rfl 1 rfl rfl fun a E=>fk E ok qbj qay rfl 0 rfl rfl fun a E=>bd hF fun l107 e108 hF=>qmb (.inl rfl) E ok 3 (qc6 Tryz.underlying9) Tryz.underlying120 h18 rfl rfl rfl rfl ⟨rfl,l31⟩ qdi e108 rfl fun M109 w ok h110=>wpList_nil<|qac<|qaa<|qab<|lw E (qaE rfl rfl (InR.inc r16 (qaj hl_1) c19)) fun a E=>mv E rfl fun a E=>wpList_nil ?_
   cases hF
   exact qao ⟨m15,M109,le_m0,(ok.pk 4 [1,2,3] rfl (by decide)),E.keep [1,2,3,4,11,12,13],(InR.inc r16 (qaj hl_1) c19),h110⟩
 refine mv E rfl fun a E=>lw E (qaq rfl rfl) fun a E=>mv E rfl fun a E=>bu E 54 hF (fun c84 hF E=>?_) fun c84 hF E=>?_
 ·refine lsz E fun a E=>lsz E fun a E=>pt E rfl rfl fun a E=>pt E rfl rfl fun a E=>wn<|c_if E rfl (fun _=>?_) (fun h=>by cases h)
  refine sg<|aw E rfl fun a E=>wp_ret<|qad<|qak<|qad ?_
  cases hF
  exact so (sr ⟨rfl,⟨m15,M17,le_m0,ok.drop.drop,E.d,rz E rfl,h18⟩⟩)
 refine lv E ok (qan (cs:=[vm0]) qkC rfl rfl (Holds.own 1 rfl rfl)) fun a E=>fk E ok qec qeD rfl 0 rfl rfl fun a E=>mv E rfl fun a E=>lw E (qaF rfl rfl) fun a E=>mv E rfl fun a E=>?_
 obtain ⟨r85,e86,hF⟩:=bnd hF
 replace ok:Ok u m15 ([] :: M17 :: [(b37,oc 34 [vi x20.Kind,vs x20.Text,vs x20.Name,vs x20.Style,c33,c35])] :: [(b3,oc 122 [vm0])] :: S) w:=(ok.pk 4 [2,3,0,1] rfl (by decide))
 refine qaf E qrn rfl (ih_syntax_checker_parts _ x20.Parts h36 (IntKind.wrap .i64 (depth_2 + 1)) (InR.wrap _ _) counting_3 v14 h18 e86 hG ok) rfl rfl ?_
 rintro _ w ⟨m87,M88,rfl,hle,ok,h89⟩
 have le_m0:=le_m0.trans hle
 have hl_1:=(mL qa8).up hle hl_1
 have h34:=(mL qex).up hle h34
 have h36:=(mL qa8).up hle h36
 have at27:=At.up hle at27
 refine ⟨_,rfl,fun a E=>?_⟩
 refine lw E (qbx rfl) fun a E=>pf E rfl rfl fun a E=>pt E rfl rfl fun a E=>wn<|cf E rfl hF (fun c90 hF=>?_) fun c90 hF=>?_
 ·refine sg<|aw E rfl fun a E=>wp_ret<|qad<|qak<|qad ?_
  cases hF
  exact so (sr ⟨rfl,⟨m87,M88,le_m0,(ok.pk 4 [0,1] rfl (by decide)),E.d,rz E rfl,h89⟩⟩)
 refine wp_skip<|qaa<|wp_seq<|sg<|fk E ok qa2 qam rfl 2 rfl rfl fun a E=>bd hF fun r91 e92 hF=>lc E qh7 rfl (qbS N x20.Kind r29 e92 hG ok) fun w ok a E=>mv E rfl fun a E=>qcu r91 (fun c93=>?_) (fun c93=>?_)
 ·have hF:=qci c93 hF
  have E:=E.upd 68 c93 rfl
  refine mv E rfl fun a E=>lw E (qaq rfl rfl) fun a E=>mv E rfl fun a E=>bw E 71 hF (fun c94 hF E=>?_) fun c94 hF E=>?_
  ·refine lv E ok (qan (cs:=[vm0]) qkC rfl rfl (Holds.own 3 rfl rfl)) fun a E=>lv E ok (qan (cs:=[vi x20.Kind,vs x20.Text,vs x20.Name,vs x20.Style,c33,c35]) qd5 rfl rfl (Holds.own 2 rfl rfl)) fun a E=>mv E rfl fun a E=>lw E (qaF rfl rfl) fun a E=>mv E rfl fun a E=>?_
   cases hF
  refine lsz E fun a E=>lsq E fun a E=>ls E fun a E=>pt E rfl rfl fun a E=>pt E rfl rfl fun a E=>wn<|c_if E rfl (fun _=>?_) (fun h=>by cases h)
  refine sg<|aw E rfl fun a E=>wp_ret<|qad<|qak<|qad ?_
  cases hF
  exact so (sr ⟨rfl,⟨m87,M88,le_m0,(ok.pk 4 [0,1] rfl (by decide)),E.d,rz E rfl,h89⟩⟩)
 have hF:=qcc c93 hF
 have E:=E.upd 68 c93 rfl
 refine lsz E fun a E=>lsz E fun a E=>lsq E fun a E=>ls E fun a E=>pf E rfl rfl fun a E=>wn<|c_if E rfl (fun h=>by cases h) (fun _=>?_)
 refine wp_skip<|qaa<|sg<|fk E ok qa2 qam rfl 2 rfl rfl fun a E=>lw E (qbD rfl rfl) fun a E=>mv E rfl fun a E=>bw E 84 hF (fun c95 hF E=>?_) fun c95 hF E=>?_
 ·refine lsq E fun a E=>ls E fun a E=>pf E rfl rfl fun a E=>wn<|c_if E rfl (fun h=>by cases h) (fun _=>?_)
  refine wp_skip<|qac<|qaa<|qab<|lw E (qaE rfl rfl (InR.inc r16 (qaj hl_1) c19)) fun a E=>mv E rfl fun a E=>wpList_nil ?_
  cases hF
  exact qao ⟨m87,M88,le_m0,(ok.pk 4 [3,0,1] rfl (by decide)),E.keep [1,2,3,4,11,12,13],(InR.inc r16 (qaj hl_1) c19),h89⟩
 refine fk E ok qbj qay rfl 2 rfl rfl fun a E=>lw E (qdj rfl rfl) fun a E=>pt E rfl rfl fun a E=>wn<|cg E rfl hF (fun c96 hF=>?_) fun c96 hF=>?_
 ·refine wp_skip<|qac<|qaa<|qab<|lw E (qaE rfl rfl (InR.inc r16 (qaj hl_1) c19)) fun a E=>mv E rfl fun a E=>wpList_nil ?_
  cases hF
  exact qao ⟨m87,M88,le_m0,(ok.pk 4 [3,0,1] rfl (by decide)),E.keep [1,2,3,4,11,12,13],(InR.inc r16 (qaj hl_1) c19),h89⟩
 refine qab<|fk E ok qla qgC rfl 3 rfl rfl fun a E=>fk E ok qbj qay rfl 2 rfl rfl fun a E=>bd hF fun l97 e98 hF=>qmb (.inl rfl) E ok 1 (qc6 Tryz.underlying9) Tryz.underlying120 h89 rfl rfl rfl rfl ⟨rfl,l31⟩ qdi e98 rfl fun M99 w ok h100=>wpList_nil<|qac<|qaa<|qab<|lw E (qaE rfl rfl (InR.inc r16 (qaj hl_1) c19)) fun a E=>mv E rfl fun a E=>wpList_nil ?_
 cases hF
 exact qao ⟨m87,M99,le_m0,(ok.pk 4 [3,0,1] rfl (by decide)),E.keep [1,2,3,4,11,12,13],(InR.inc r16 (qaj hl_1) c19),h100⟩
theorem qhf:qdu 0:=by
 intro u m0 S w vl_1 l_1 hl_1 depth_2 rdepth_2 counting_3 vm0 Mm0 x0 hm0 r hF hG ok
 replace hF:none = some r:=hF
 cases hF
theorem qgx (N:Nat):qdu N:=by
 induction N with
 | zero=>exact qhf
 | succ N h=>exact qhm N h
theorem qii {u:World} {m0:Mem} {S:Segs} {w:World} (N:Nat) (vl_1:Value) (l_1:List (Part)) (hl_1:(pL 6 qbp) m0 [vl_1] l_1) (depth_2:Int) (rdepth_2:InR .i64 depth_2) (counting_3:Bool) {vm0:Value} {Mm0:List (Nat × Obj)} (x0:List (List UInt8 × Bool)) (hm0:OMap kS (oneV pB) m0 vm0 x0 Mm0) {r:Bool × (List (List UInt8 × Bool))} (hF:qcl N l_1 depth_2 counting_3 x0 = some r) (hG:Glob u) (ok:Ok u m0 ([] :: Mm0 :: S) w) :
 Calls Tryz.prog 57 [Value.agg [vm0].toArray,vl_1,vi depth_2,vb counting_3].toArray w fun e w'=>∃ m1 M1,e = .returned (.bool r.1) ∧ m0.le m1 ∧ Ok u m1 ([] :: M1 :: S) w' ∧ OMap kS (oneV pB) m1 vm0 r.2 M1:=(qgx N) vl_1 l_1 hl_1 depth_2 rdepth_2 counting_3 x0 hm0 hF hG ok
end Go.Proofs.YthhieiabfpkaaaaGreatDoor
namespace Go.Proofs.YthhieiabfpkaaaaGreatDoor
open Go.X
def qdG (_N:Nat) (c_0:Int):Option Bool :=
 (show Option Bool from
  bif (c_0 == 123) then
   some (c_0 == 123)
  else
   bif (c_0 == 125) then
    some (c_0 == 125)
   else
    bif (c_0 == 60) then
     some (c_0 == 60)
    else
     bif (c_0 == 62) then
      some (c_0 == 62)
     else
      bif (c_0 == 35) then
       some (c_0 == 35)
      else
       some (c_0 == 92)).bind fun o1 =>
 bif o1 then
  some true
 else
  some false
def qba (_N:Nat) (c_1:Int) (x0:Builder):Option (Unit × Builder) :=
 (app x0.buf ([c_1]:List (Int))).bind fun l14 =>
 some ((),(Builder.mk () l14))
def qdB (N:Nat) (s_0:List UInt8) (x_18:Int) (x_19:Builder):Option ((Int × Builder) ⊕ Builder) :=
 bif (decide (x_18 < (s_0.length:Int))) then
  (idx s_0 x_18).bind fun c27 =>
  (qdG N (c27.toNat:Int)).bind fun r29 =>
  bif r29 then
   (qba N 92 (Builder.mk () x_19.buf)).bind fun r32 =>
   (idx s_0 x_18).bind fun c39 =>
   (qba N (c39.toNat:Int) (Builder.mk () r32.2.buf)).bind fun r41 =>
   some (.inl ((x_18 + 1),(Builder.mk () r41.2.buf)))
  else
   (idx s_0 x_18).bind fun c48 =>
   (qba N (c48.toNat:Int) (Builder.mk () x_19.buf)).bind fun r50 =>
   some (.inl ((x_18 + 1),(Builder.mk () r50.2.buf)))
 else
  some (.inr (Builder.mk () x_19.buf))
def qdZ (N:Nat) (s_0:List UInt8):Option (List UInt8) :=
 (iter (fun s=>qdB N s_0 s.1 s.2) N (0,(Builder.mk () ([])))).bind fun o11 =>
 some (qaQ o11.buf)
def uhit (k:Int):Option (Nat × Nat) :=
 if k = 3 then some (0,6)
 else if k = 4 then some (1,4)
 else if k = 5 then some (2,4)
 else if k = 6 then some (3,4)
 else if k = 7 then some (4,6)
 else if k = 8 then some (5,7)
 else if k = 9 then some (6,6)
 else none
def qgM (k n:Int):Int:=match uhit k with | some (_,l)=>IntKind.wrap .i64 (n + IntKind.wrap .i64 ((2:Int) + (l:Int))) | none=>n
def qeS (r_syntax_length:List (Part) → Option Int) (N:Nat) (x11:Part) (n_56:Int) (x_57:Int):Option ((Int × Int) ⊕ Int) :=
 bif (decide (x_57 < (x11.Cases.length:Int))) then
  (idx x11.Cases x_57).bind fun x61 =>
  (r_syntax_length x61.Parts).bind fun r74 =>
  some (.inl ((IntKind.wrap .i64 (n_56 + (IntKind.wrap .i64 ((IntKind.wrap .i64 ((4:Int) + (x61.Key.length:Int))) + r74)))),(x_57 + 1)))
 else
  some (.inr n_56)
def qby (r_syntax_length:List (Part) → Option Int) (N:Nat) (parts_0:List (Part)) (n_6:Int) (x_7:Int):Option ((Int × Int) ⊕ Int) :=
 bif (decide (x_7 < (parts_0.length:Int))) then
  (idx parts_0 x_7).bind fun x11 =>
  bif (x11.Kind == 1) then
   (qdZ N x11.Text).bind fun r30 =>
   some (.inl ((IntKind.wrap .i64 (n_6 + (r30.length:Int))),(x_7 + 1)))
  else
   bif (x11.Kind == 10) then
    some (.inl ((IntKind.wrap .i64 (n_6 + 1)),(x_7 + 1)))
   else
    bif (x11.Kind == 11) then
     bif (decide ((x11.Parts.length:Int) > 0)) then
      (r_syntax_length x11.Parts).bind fun r36 =>
      some (.inl ((IntKind.wrap .i64 ((IntKind.wrap .i64 (n_6 + (IntKind.wrap .i64 ((3:Int) + (x11.Name.length:Int))))) + (IntKind.wrap .i64 ((IntKind.wrap .i64 ((2:Int) + (x11.Name.length:Int))) + r36)))),(x_7 + 1)))
     else
      some (.inl ((IntKind.wrap .i64 (n_6 + (IntKind.wrap .i64 ((3:Int) + (x11.Name.length:Int))))),(x_7 + 1)))
    else
     (show Option Int from
      bif (x11.Style != ([])) then
       some (IntKind.wrap .i64 ((qgM x11.Kind (IntKind.wrap .i64 (n_6 + (IntKind.wrap .i64 ((2:Int) + (x11.Name.length:Int)))))) + (IntKind.wrap .i64 ((2:Int) + (x11.Style.length:Int)))))
      else
       some (qgM x11.Kind (IntKind.wrap .i64 (n_6 + (IntKind.wrap .i64 ((2:Int) + (x11.Name.length:Int))))))).bind fun o41 =>
     (qbz N x11.Kind).bind fun r45 =>
     (show Option Int from
      bif r45 then
       some (IntKind.wrap .i64 (o41 + 1))
      else
       some o41).bind fun o47 =>
     (iter (fun s=>qeS r_syntax_length N x11 s.1 s.2) N (o47,0)).bind fun o53 =>
     some (.inl (o53,(x_7 + 1)))
 else
  some (.inr n_6)
def qdy (r_syntax_length:List (Part) → Option Int) (N:Nat) (parts_0:List (Part)):Option Int :=
 (iter (fun s=>qby r_syntax_length N parts_0 s.1 s.2) N (0,0)).bind fun o3 =>
 some o3
def qda:Nat → (List (Part) → Option Int)
 | 0=>(fun _=>none)
 | N + 1=>(qdy (qda N) N)
def qdg (N:Nat):List (Part) → Option Int:=(qda N)
def qgi (N:Nat) (parts_0:List (Part)) (counting_1:Bool):Option Bool :=
 (qcl N parts_0 0 counting_1 ([]:List (List UInt8 × Bool))).bind fun r6 =>
 bif r6.1 then
  bif (decide ((r6.2.length:Int) ≤ 20)) then
   (qdg N parts_0).bind fun r13 =>
   some (decide (r13 ≤ 4000))
  else
   some false
 else
  some false
def qeG (N:Nat) (parts_0:List (Part)):Option Bool :=
 (qgi N parts_0 false).bind fun r1 =>
 some r1
end Go.Proofs.YthhieiabfpkaaaaGreatDoor
namespace Go.Proofs.YthhieiabfpkaaaaGreatDoor
open Go.X
variable {u:World} {m0:Mem} {S:Segs} {w:World}
set_option maxHeartbeats 4000000
set_option maxRecDepth 100000
def qmh (u:World) (m0:Mem) (S:Segs) (r:Bool) (a:Act) (w:World):Prop :=
 Ok u m0 S w ∧ a.defers = [] ∧ RVs Tryz.prog a w [.t 2 (.bool r)]
theorem qf1 (N:Nat) (c_0:Int) (rc_0:InR .u8 c_0) {r:Bool} (hF:qdG N c_0 = some r) (hG:Glob u) (ok:Ok u m0 S w) :
  Calls Tryz.prog 29 [Value.int .u8 c_0].toArray w fun e w'=>(e = .returned (.bool r) ∧ Ok u m0 S w'):=by
 unfold qdG at hF
 refine en (qmh u m0 S) r Tryz.func29 rfl rfl rfl (fun _ _ h=>ra h rfl) fun fin a E=>sg<|aw E rfl fun a E=>wp_seq<|sg<|mv E rfl fun a E=>wn<|wp_block<|wp_seq<|sg<|lw E (qah rfl rfl) fun a E=>aw E rfl fun a E=>bd hF fun o1 hJ hF=>qaH (Q':=fun e a w=>e = .normal ∧ Ok u m0 (S) w ∧ Env 11 a [(4,vb o1)]) ?_ ?_
 rotate_left
 ·intro e a w hO
  obtain ⟨rfl,ok,E⟩:=hO
  refine qaa<|cf E rfl hF (fun c7 hF=>?_) fun c7 hF=>?_
  ·refine sg<|aw E rfl fun a E=>wp_ret<|qak<|qad ?_
   exact fin hF ⟨ok,E.d,rz E rfl⟩
  refine wp_skip<|qac<|qaa<|sg<|aw E rfl fun a E=>wp_ret ?_
  exact fin hF ⟨ok,E.d,rz E rfl⟩
 have hF:=hJ
 refine cf E rfl hF (fun c2 hF=>?_) fun c2 hF=>?_
 ·refine wp_skip ?_
  cases hF
  exact ⟨rfl,⟨ok,E.keep [4]⟩⟩
 refine sg<|lw E (qah rfl rfl) fun a E=>aw E rfl fun a E=>cf E rfl hF (fun c3 hF=>?_) fun c3 hF=>?_
 ·refine wp_skip ?_
  cases hF
  exact ⟨rfl,⟨ok,E.keep [4]⟩⟩
 refine sg<|lw E (qah rfl rfl) fun a E=>aw E rfl fun a E=>cf E rfl hF (fun c4 hF=>?_) fun c4 hF=>?_
 ·refine wp_skip ?_
  cases hF
  exact ⟨rfl,⟨ok,E.keep [4]⟩⟩
 refine sg<|lw E (qah rfl rfl) fun a E=>aw E rfl fun a E=>cf E rfl hF (fun c5 hF=>?_) fun c5 hF=>?_
 ·refine wp_skip ?_
  cases hF
  exact ⟨rfl,⟨ok,E.keep [4]⟩⟩
 refine sg<|lw E (qah rfl rfl) fun a E=>aw E rfl fun a E=>cf E rfl hF (fun c6 hF=>?_) fun c6 hF=>?_
 ·refine wp_skip ?_
  cases hF
  exact ⟨rfl,⟨ok,E.keep [4]⟩⟩
 refine qab<|lw E (qah rfl rfl) fun a E=>av E rfl fun a E=>wpList_nil ?_
 cases hF
 exact ⟨rfl,⟨ok,E.keep [4]⟩⟩
theorem qiD {u:World} {m:Mem} {S:Segs} {w:World} {b:Nat} {v:Value} (ok:Ok u m ([(b,oc 68 [(Value.pointer none),v])] :: S) w) :
  Calls Tryz.prog 49 [.pointer (some ⟨b,0,none⟩)].toArray w fun e w'=>e = .returned (.tuple [].toArray) ∧ Ok u m ([(b,oc 68 [vp b,v])] :: S) w':=by
 have fin:∀ a w,(a.defers = [] ∧ Ok u m ([(b,oc 68 [vp b,v])] :: S) w) → bodyPost Tryz.prog Tryz.f49 (fun e w'=>e = .returned (.tuple [].toArray) ∧ Ok u m ([(b,oc 68 [vp b,v])] :: S) w') .ret a w:=fun a w h=>qaT [] h.1 rfl trivial ⟨rfl,h.2⟩
 refine enter Tryz.func49 rfl rfl rfl fun a E=>sg<|mv E rfl fun a E=>lw E (qae rfl) fun a E=>fk E ok qef qga rfl 0 rfl rfl fun a E=>lv E ok (qhU Tryz.underlying65 rfl rfl) fun a E=>wn<|c_if E rfl (fun _=>?_) (fun h=>by cases h)
 refine qab<|mz E rfl rfl fun a E=>lv E ok (qjo Tryz.underlying65 Tryz.underlying150 qog (by decide) (qfV (c:=[(Value.pointer none),v]) 0 rfl) (Nat.le_of_ble_eq_true rfl) rfl) fun a E=>lv E ok (qjn Tryz.func75 (by kernel_rfl) (by kernel_rfl) (by kernel_rfl) (by kernel_rfl) rfl) fun a E=>lv E ok (qhK Tryz.underlying150 Tryz.underlying65 qhv (qfV (c:=[(Value.pointer none),v]) 0 rfl) qss rfl) fun a E=>lw E (qae rfl) fun a E=>fv E qef rfl fun a E=>qax E ok 0 rfl rfl rfl qnU rfl rfl ⟨rfl,trivial⟩ rfl rfl fun w ok=>wpList_nil ?_
 exact fin _ _ ⟨E.d,ok⟩
theorem qis {u:World} {m:Mem} {S:Segs} {w:World} {b:Nat} {v:Value} (ok:Ok u m ([(b,oc 68 [vp b,v])] :: S) w) :
  Calls Tryz.prog 49 [.pointer (some ⟨b,0,none⟩)].toArray w fun e w'=>e = .returned (.tuple [].toArray) ∧ Ok u m ([(b,oc 68 [vp b,v])] :: S) w':=by
 have fin:∀ a w,(a.defers = [] ∧ Ok u m ([(b,oc 68 [vp b,v])] :: S) w) → bodyPost Tryz.prog Tryz.f49 (fun e w'=>e = .returned (.tuple [].toArray) ∧ Ok u m ([(b,oc 68 [vp b,v])] :: S) w') .ret a w:=fun a w h=>qaT [] h.1 rfl trivial ⟨rfl,h.2⟩
 refine enter Tryz.func49 rfl rfl rfl fun a E=>sg<|mv E rfl fun a E=>lw E (qae rfl) fun a E=>fk E ok qef qga rfl 0 rfl rfl fun a E=>lv E ok (qhU Tryz.underlying65 rfl rfl) fun a E=>wn<|c_if E rfl (fun h=>by cases h) (fun _=>?_)
 refine sg<|mv E rfl fun a E=>lw E (qae rfl) fun a E=>fk E ok qef qga rfl 0 rfl rfl fun a E=>mv E rfl fun a E=>lv E ok (qkf Tryz.underlying65 qhv rfl rfl) fun a E=>wn<|c_if E rfl (fun h=>by cases h) (fun _=>?_)
 refine wp_skip ?_
 exact fin _ _ ⟨E.d,ok⟩
theorem qe3 {u:World} {m:Mem} {S:Segs} {w:World} {b:Nat} {a v:Value} (ha:BAd b a) (ok:Ok u m ([(b,oc 68 [a,v])] :: S) w) :
  Calls Tryz.prog 49 [.pointer (some ⟨b,0,none⟩)].toArray w fun e w'=>e = .returned (.tuple [].toArray) ∧ Ok u m ([(b,oc 68 [vp b,v])] :: S) w':=by
 rcases ha with rfl | rfl
 ·exact qiD ok
 ·exact qis ok
def qgQ (u:World) (m0:Mem) (S:Segs) (pb0:Nat) (x0:Builder) (c1:Value) (c3:Value) (M4:List (Nat × Obj)) (r:Unit × Builder) (a:Act) (w:World):Prop :=
 ∃ c6 c8 M9,Ok u m0 ([(pb0,oc 68 [c6,c8])] :: M9 :: S) w ∧ a.defers = [] ∧ RVs Tryz.prog a w [.t 4 .nilIface] ∧ BAd pb0 c6 ∧ ORow 5 1 (pI .u8) m0 c8 r.2.buf M9
theorem qbR (N:Nat) (c_1:Int) (rc_1:InR .u8 c_1) {pb0:Nat} {c1:Value} {c3:Value} {M4:List (Nat × Obj)} (x0:Builder) (h2:BAd pb0 c1) (h5:ORow 5 1 (pI .u8) m0 c3 x0.buf M4) {r:Unit × Builder} (hF:qba N c_1 x0 = some r) (hG:Glob u) (ok:Ok u m0 ([(pb0,oc 68 [c1,c3])] :: M4 :: S) w) :
  Calls Tryz.prog 30 [vp pb0,Value.int .u8 c_1].toArray w fun e w'=>∃ c6 c8 M9,(e = .returned .nilIface ∧ Ok u m0 ([(pb0,oc 68 [c6,c8])] :: M9 :: S) w') ∧ BAd pb0 c6 ∧ ORow 5 1 (pI .u8) m0 c8 r.2.buf M9:=by
 unfold qba at hF
 refine en (qgQ u m0 S pb0 x0 c1 c3 M4) r Tryz.func30 rfl rfl rfl (by rintro a w ⟨c6,c8,M9,ok,hd,hrv,h0,h1⟩; exact qaT [.t 4 .nilIface] hd rfl hrv ⟨c6,c8,M9,⟨rfl,ok⟩,h0,h1⟩) fun fin a E=>sg<|aw E rfl fun a E=>sg<|mv E rfl fun a E=>lc E qlm rfl (qe3 h2 ok) fun w ok a E=>wn<|sg<|mz E rfl rfl fun a E=>lw E (qae rfl) fun a E=>fv E qdA rfl fun a E=>ld E ok qf2 0 rfl rfl rfl fun a E=>mv E rfl fun a E=>qa6 (R:=(pI .u8)) (xo:=[.tmp 12]) (xs:=([c_1]:List (Int))) E ok qcK qcF rfl ⟨⟨_,rfl,rfl,(qaX rc_1)⟩,trivial⟩ rfl rfl rfl rfl fun c11 M12 a w E ok h13=>?_
 refine bd hF fun l14 e15 hF=>qb0 (R:=(pI .u8)) E ok 2 (mI .u8) qcK Tryz.underlying66 rfl h5 (qbf.ofRow h13 0 rfl ok) e15 ⟨_,qcF,rfl⟩ rfl rfl rfl rfl fun c16 M17 a w E ok h18=>lw E (qae rfl) fun a E=>fv E qdA rfl fun a E=>qax E ok 1 rfl rfl rfl qjZ (ORow.cells h18) rfl ⟨(ORow.one h18),trivial⟩ rfl rfl fun w ok=>wn<|sg<|aw E rfl fun a E=>wp_ret ?_
 exact fin hF ⟨(vp pb0),c16,M17,ok.drop,E.d,rz E rfl,(.inr rfl),h18⟩
def qms (u:World) (m0:Mem) (S:Segs) (r:(List UInt8)) (a:Act) (w:World):Prop :=
 Ok u m0 S w ∧ a.defers = [] ∧ RVs Tryz.prog a w [.t 2 (.string (bs r))] ∧ r.length ≤ LIMS
theorem qdV (N:Nat) (s_0:List UInt8) (ls_0:s_0.length ≤ LIMS) {r:(List UInt8)} (hF:qdZ N s_0 = some r) (hG:Glob u) (ok:Ok u m0 S w) :
  Calls Tryz.prog 14 [vs s_0].toArray w fun e w'=>(e = .returned (.string (bs r)) ∧ Ok u m0 S w') ∧ r.length ≤ LIMS:=by
 unfold qdZ at hF
 refine en (qms u m0 S) r Tryz.func14 rfl rfl rfl (fun _ _ h=>rb h rfl) fun fin a E=>sg<|aw E rfl fun a E=>sg<|qa4 E ok qkA rfl rfl fun b1 a w E ok=>wn<|wp_seq<|sg<|mv E rfl fun a E=>lw E (qbs Tryz.underlying9 rfl) fun a E=>mv E rfl fun a E=>wn<|wp_block ?_
 obtain ⟨M9,ok,h10⟩:=qcY (e:=5) (k:=1) (R:=(pI .u8)) ok
 refine bd hF fun o11 hL hF=>qa7 _ (fun (s:Int × Builder) a w=>∃ c13 c15 M16,Ok u m0 (M16 :: [(b1,oc 68 [c13,c15])] :: S) w ∧ Env 21 a [(0,vs s_0),(3,vp b1),(6,(vi (s_0.length:Int))),(7,vi s.1)] ∧ InR .i64 s.1 ∧ BAd b1 c13 ∧ ORow 5 1 (pI .u8) m0 c15 s.2.buf M16) (fun (b:Builder) e a w=>e = (.exit 0) ∧ ∃ c63 c65 M66,Ok u m0 (M66 :: [(b1,oc 68 [c63,c65])] :: S) w ∧ Env 21 a [(3,vp b1)] ∧ BAd b1 c63 ∧ ORow 5 1 (pI .u8) m0 c65 b.buf M66) ?_ ?_ N _ a w hL ⟨(Value.pointer none),(Value.slice none 0 0),M9,ok,E.keep [0,3,6,7],(ir 0),(.inl rfl),h10⟩
 rotate_left
 ·intro e a w _ hO
  obtain ⟨rfl,c57,c59,M60,ok,E,h58,h61⟩:=hO
  refine qa0<|qaa<|sg ?_
  replace ok:Ok u m0 ([(b1,oc 68 [c57,c59])] :: M60 :: S) w:=(ok.pk 2 [1,0] rfl (by decide))
  refine qaf E qkD rfl (qho Tryz.lays169 Tryz.Builder_Extra_169 h61 ok) rfl rfl ?_
  rintro _ w ⟨⟨rfl,ok⟩,l62⟩
  refine ⟨_,rfl,fun a E=>?_⟩
  refine aw E rfl fun a E=>wp_ret ?_
  exact fin hF ⟨ok,E.d,rz E rfl,l62⟩
 rintro ⟨v18,v19⟩ a w r ⟨c21,c23,M24,ok,E,r20,h22,h25⟩ hF
 replace hF:qdB N s_0 v18 v19 = some r:=hF
 unfold qdB at hF
 refine sg<|lw E (qap rfl rfl) fun a E=>wn<|wp_seq<|cg E rfl hF (fun c26 hF=>?_) fun c26 hF=>?_
 ·refine wp_exit<|qaM ?_
  cases hF
  exact so (⟨rfl,⟨c21,c23,M24,ok,E.keep [3],h22,h25⟩⟩)
 refine wp_skip<|qaa<|wp_seq<|wp_block<|sg<|mv E rfl fun a E=>av E rfl fun a E=>wn<|wp_seq<|sg<|mz E rfl rfl fun a E=>bd hF fun c27 e28 hF=>lv E ok (qbb Tryz.underlying9 rfl rfl e28) fun a E=>?_
 refine bd hF fun r29 e30 hF=>lc E qpH rfl (qf1 N (c27.toNat:Int) (InR.byte c27) e30 hG ok) fun w ok a E=>wn<|cg E rfl hF (fun c31 hF=>?_) fun c31 hF=>?_
 ·refine wp_skip<|qaa<|qab<|mz E rfl rfl fun a E=>bd hF fun c48 e49 hF=>lv E ok (qbb Tryz.underlying9 rfl rfl e49) fun a E=>?_
  obtain ⟨r50,e51,hF⟩:=bnd hF
  replace ok:Ok u m0 ([(b1,oc 68 [c21,c23])] :: M24 :: S) w:=(ok.pk 2 [1,0] rfl (by decide))
  refine qaf E qlr rfl (qbR N (c48.toNat:Int) (InR.byte c48) (Builder.mk () v19.buf) h22 h25 e51 hG ok) rfl rfl ?_
  rintro _ w ⟨c52,c54,M55,⟨rfl,ok⟩,h53,h56⟩
  refine ⟨_,rfl,fun a E=>?_⟩
  refine wpList_nil<|qac<|qaa<|qab<|lw E (qaE rfl rfl (InR.inc r20 (InR.len ls_0) c26)) fun a E=>mv E rfl fun a E=>wpList_nil ?_
  cases hF
  exact qao ⟨c52,c54,M55,(ok.pk 2 [1,0] rfl (by decide)),E.keep [0,3,6,7],(InR.inc r20 (InR.len ls_0) c26),h53,h56⟩
 refine qab ?_
 obtain ⟨r32,e33,hF⟩:=bnd hF
 replace ok:Ok u m0 ([(b1,oc 68 [c21,c23])] :: M24 :: S) w:=(ok.pk 2 [1,0] rfl (by decide))
 refine qaf E qlr rfl (qbR N 92 (show InR .u8 (92) by decide) (Builder.mk () v19.buf) h22 h25 e33 hG ok) rfl rfl ?_
 rintro _ w ⟨c34,c36,M37,⟨rfl,ok⟩,h35,h38⟩
 refine ⟨_,rfl,fun a E=>?_⟩
 refine wn<|qab<|mz E rfl rfl fun a E=>bd hF fun c39 e40 hF=>lv E ok (qbb Tryz.underlying9 rfl rfl e40) fun a E=>bd hF fun r41 e42 hF=>qaf E qlr rfl (qbR N (c39.toNat:Int) (InR.byte c39) (Builder.mk () r32.2.buf) h35 h38 e42 hG ok) rfl rfl ?_
 rintro _ w ⟨c43,c45,M46,⟨rfl,ok⟩,h44,h47⟩
 refine ⟨_,rfl,fun a E=>?_⟩
 refine wpList_nil<|qac<|qaa<|qab<|lw E (qaE rfl rfl (InR.inc r20 (InR.len ls_0) c26)) fun a E=>mv E rfl fun a E=>wpList_nil ?_
 cases hF
 exact qao ⟨c43,c45,M46,(ok.pk 2 [1,0] rfl (by decide)),E.keep [0,3,6,7],(InR.inc r20 (InR.len ls_0) c26),h44,h47⟩
def qdO:List MapEntry:=[⟨.string (bs [110,117,109,98,101,114]),.int .i64 3,0⟩,⟨.string (bs [117,110,105,116]),.int .i64 4,1⟩,⟨.string (bs [100,97,116,101]),.int .i64 5,2⟩,⟨.string (bs [108,105,115,116]),.int .i64 6,3⟩,⟨.string (bs [112,108,117,114,97,108]),.int .i64 7,4⟩,⟨.string (bs [111,114,100,105,110,97,108]),.int .i64 8,5⟩,⟨.string (bs [115,101,108,101,99,116]),.int .i64 9,6⟩]
def ust (k n:Int) (seen:Array Nat) (q:Int):Prop:=q = match uhit k with | some (b,l)=>bif seen.contains b then IntKind.wrap .i64 (n + IntKind.wrap .i64 ((2:Int) + (l:Int))) else n | none=>n
theorem qto {k n:Int}:ust k n #[] n:=by
 unfold ust
 cases uhit k with
 | none=>rfl
 | some p=>obtain ⟨b,l⟩:=p; simp
theorem qrj {k:Int} {b l:Nat} (h:uhit k = some (b,l)):∃ e ∈ qdO,e.born = b ∧ e.val = .int .i64 k ∧ ∃ s,e.key = .string (bs s) ∧ s.length = l:=by
 unfold uhit at h
 split at h
 ·rename_i hk
  cases h
  exact ⟨⟨.string (bs [110,117,109,98,101,114]),.int .i64 3,0⟩,by simp [qdO],rfl,by rw [hk],[110,117,109,98,101,114],rfl,rfl⟩
 split at h
 ·rename_i hk
  cases h
  exact ⟨⟨.string (bs [117,110,105,116]),.int .i64 4,1⟩,by simp [qdO],rfl,by rw [hk],[117,110,105,116],rfl,rfl⟩
 split at h
 ·rename_i hk
  cases h
  exact ⟨⟨.string (bs [100,97,116,101]),.int .i64 5,2⟩,by simp [qdO],rfl,by rw [hk],[100,97,116,101],rfl,rfl⟩
 split at h
 ·rename_i hk
  cases h
  exact ⟨⟨.string (bs [108,105,115,116]),.int .i64 6,3⟩,by simp [qdO],rfl,by rw [hk],[108,105,115,116],rfl,rfl⟩
 split at h
 ·rename_i hk
  cases h
  exact ⟨⟨.string (bs [112,108,117,114,97,108]),.int .i64 7,4⟩,by simp [qdO],rfl,by rw [hk],[112,108,117,114,97,108],rfl,rfl⟩
 split at h
 ·rename_i hk
  cases h
  exact ⟨⟨.string (bs [111,114,100,105,110,97,108]),.int .i64 8,5⟩,by simp [qdO],rfl,by rw [hk],[111,114,100,105,110,97,108],rfl,rfl⟩
 split at h
 ·rename_i hk
  cases h
  exact ⟨⟨.string (bs [115,101,108,101,99,116]),.int .i64 9,6⟩,by simp [qdO],rfl,by rw [hk],[115,101,108,101,99,116],rfl,rfl⟩
 cases h
theorem qr3 {k n q:Int} {seen:Array Nat} (h:ust k n seen q) (hall:∀ e ∈ qdO,seen.contains e.born = true):q = qgM k n:=by
 unfold ust at h
 unfold qgM
 cases hk:uhit k with
 | none=>rw [hk] at h; exact h
 | some p =>
  obtain ⟨b,l⟩:=p
  rw [hk] at h
  obtain ⟨e,he,hb,_⟩:=qrj hk
  have:=hall e he
  rw [hb] at this
  simp only [this,cond_true] at h
  exact h
theorem qov:(qdO.map (·.born)).Nodup:=by decide
theorem qqJ {e:MapEntry} (he:e ∈ qdO):∃ s v,e.key = .string (bs s) ∧ e.val = .int .i64 v ∧ s.length ≤ LIMS ∧ InR .i64 v ∧ uhit v = some (e.born,s.length) ∧ ∀ k l,uhit k = some (e.born,l) → k = v:=by
 simp only [qdO,List.mem_cons,List.not_mem_nil,or_false] at he
 rcases he with rfl | rfl | rfl | rfl | rfl | rfl | rfl
 ·refine ⟨[110,117,109,98,101,114],3,rfl,rfl,by decide,by decide,by decide,fun k l h=>?_⟩
  unfold uhit at h
  repeat (split at h; · rename_i hk; first | exact hk | (simp at h))
  cases h
 ·refine ⟨[117,110,105,116],4,rfl,rfl,by decide,by decide,by decide,fun k l h=>?_⟩
  unfold uhit at h
  repeat (split at h; · rename_i hk; first | exact hk | (simp at h))
  cases h
 ·refine ⟨[100,97,116,101],5,rfl,rfl,by decide,by decide,by decide,fun k l h=>?_⟩
  unfold uhit at h
  repeat (split at h; · rename_i hk; first | exact hk | (simp at h))
  cases h
 ·refine ⟨[108,105,115,116],6,rfl,rfl,by decide,by decide,by decide,fun k l h=>?_⟩
  unfold uhit at h
  repeat (split at h; · rename_i hk; first | exact hk | (simp at h))
  cases h
 ·refine ⟨[112,108,117,114,97,108],7,rfl,rfl,by decide,by decide,by decide,fun k l h=>?_⟩
  unfold uhit at h
  repeat (split at h; · rename_i hk; first | exact hk | (simp at h))
  cases h
 ·refine ⟨[111,114,100,105,110,97,108],8,rfl,rfl,by decide,by decide,by decide,fun k l h=>?_⟩
  unfold uhit at h
  repeat (split at h; · rename_i hk; first | exact hk | (simp at h))
  cases h
 ·refine ⟨[115,101,108,101,99,116],9,rfl,rfl,by decide,by decide,by decide,fun k l h=>?_⟩
  unfold uhit at h
  repeat (split at h; · rename_i hk; first | exact hk | (simp at h))
  cases h
theorem qrP {k n q v:Int} {seen:Array Nat} {e:MapEntry} {s:List UInt8} (h:ust k n seen q) (hne:seen.contains e.born = false) (hu:uhit v = some (e.born,s.length)) (hk:v = k):ust k n (seen.push e.born) (IntKind.wrap .i64 (q + IntKind.wrap .i64 ((2:Int) + (s.length:Int)))):=by
 subst hk
 unfold ust at h ⊢
 rw [hu] at h ⊢
 simp only [hne,cond_false] at h
 subst h
 simp
theorem qqS {k n q v:Int} {seen:Array Nat} {e:MapEntry} (h:ust k n seen q) (hu:∀ k l,uhit k = some (e.born,l) → k = v) (hk:v ≠ k):ust k n (seen.push e.born) q:=by
 unfold ust at h ⊢
 cases hh:uhit k with
 | none=>rw [hh] at h; exact h
 | some p =>
  obtain ⟨b,l⟩:=p
  rw [hh] at h
  have hb:b ≠ e.born:=fun e0=>hk (hu k l (by rw [hh,e0])).symm
  simp only [Array.contains_push]
  rw [show (b == e.born) = false by simpa using hb,Bool.or_false]
  exact h
theorem qpF {k n:Int} (h:InR .i64 n):InR .i64 (qgM k n):=by
 unfold qgM
 cases uhit k with
 | none=>exact h
 | some p=>exact InR.wrap _ _
theorem qjy (ok:Ok u m0 S w):Calls Tryz.prog 82 [].toArray w fun e w'=>∃ b,e = .returned (.map (some b)) ∧ Ok u m0 ([(b,Obj.map qdO.toArray 7)] :: S) w':=by
 refine enter Tryz.func82 rfl rfl rfl fun a E=>sg<|aw E rfl fun a E=>sg<|qo6 E ok rfl rfl fun b a w E ok=>qjs (KR:=kS) (R:=fun _ _ (_:Unit)=>True) (k:=[110,117,109,98,101,114]) (x:=()) (l0:=[]) E ok 0 (qc6 Tryz.underlying9) Tryz.underlying156 rfl trivial (by decide) rfl rfl rfl ⟨rfl,by decide⟩ (by decide) rfl fun w ok=>qjs (KR:=kS) (R:=fun _ _ (_:Unit)=>True) (k:=[117,110,105,116]) (x:=()) (l0:=[([110,117,109,98,101,114],())]) E ok 0 (qc6 Tryz.underlying9) Tryz.underlying156 rfl ⟨⟨rfl,by decide⟩,trivial,trivial⟩ (by decide) rfl rfl rfl ⟨rfl,by decide⟩ (by decide) rfl fun w ok=>qjs (KR:=kS) (R:=fun _ _ (_:Unit)=>True) (k:=[100,97,116,101]) (x:=()) (l0:=[([110,117,109,98,101,114],()),([117,110,105,116],())]) E ok 0 (qc6 Tryz.underlying9) Tryz.underlying156 rfl ⟨⟨rfl,by decide⟩,trivial,⟨rfl,by decide⟩,trivial,trivial⟩ (by decide) rfl rfl rfl ⟨rfl,by decide⟩ (by decide) rfl fun w ok=>qjs (KR:=kS) (R:=fun _ _ (_:Unit)=>True) (k:=[108,105,115,116]) (x:=()) (l0:=[([110,117,109,98,101,114],()),([117,110,105,116],()),([100,97,116,101],())]) E ok 0 (qc6 Tryz.underlying9) Tryz.underlying156 rfl ⟨⟨rfl,by decide⟩,trivial,⟨rfl,by decide⟩,trivial,⟨rfl,by decide⟩,trivial,trivial⟩ (by decide) rfl rfl rfl ⟨rfl,by decide⟩ (by decide) rfl fun w ok=>qjs (KR:=kS) (R:=fun _ _ (_:Unit)=>True) (k:=[112,108,117,114,97,108]) (x:=()) (l0:=[([110,117,109,98,101,114],()),([117,110,105,116],()),([100,97,116,101],()),([108,105,115,116],())]) E ok 0 (qc6 Tryz.underlying9) Tryz.underlying156 rfl ⟨⟨rfl,by decide⟩,trivial,⟨rfl,by decide⟩,trivial,⟨rfl,by decide⟩,trivial,⟨rfl,by decide⟩,trivial,trivial⟩ (by decide) rfl rfl rfl ⟨rfl,by decide⟩ (by decide) rfl fun w ok=>qjs (KR:=kS) (R:=fun _ _ (_:Unit)=>True) (k:=[111,114,100,105,110,97,108]) (x:=()) (l0:=[([110,117,109,98,101,114],()),([117,110,105,116],()),([100,97,116,101],()),([108,105,115,116],()),([112,108,117,114,97,108],())]) E ok 0 (qc6 Tryz.underlying9) Tryz.underlying156 rfl ⟨⟨rfl,by decide⟩,trivial,⟨rfl,by decide⟩,trivial,⟨rfl,by decide⟩,trivial,⟨rfl,by decide⟩,trivial,⟨rfl,by decide⟩,trivial,trivial⟩ (by decide) rfl rfl rfl ⟨rfl,by decide⟩ (by decide) rfl fun w ok=>qjs (KR:=kS) (R:=fun _ _ (_:Unit)=>True) (k:=[115,101,108,101,99,116]) (x:=()) (l0:=[([110,117,109,98,101,114],()),([117,110,105,116],()),([100,97,116,101],()),([108,105,115,116],()),([112,108,117,114,97,108],()),([111,114,100,105,110,97,108],())]) E ok 0 (qc6 Tryz.underlying9) Tryz.underlying156 rfl ⟨⟨rfl,by decide⟩,trivial,⟨rfl,by decide⟩,trivial,⟨rfl,by decide⟩,trivial,⟨rfl,by decide⟩,trivial,⟨rfl,by decide⟩,trivial,⟨rfl,by decide⟩,trivial,trivial⟩ (by decide) rfl rfl rfl ⟨rfl,by decide⟩ (by decide) rfl fun w ok=>mv E rfl fun a E=>aw E rfl fun a E=>wp_ret ?_
 exact qaT [.t 0 (.map (some b))] E.d rfl (rz E rfl) ⟨b,rfl,ok⟩
def qlE (u:World) (m0:Mem) (S:Segs) (r:Int) (a:Act) (w:World):Prop :=
 Ok u m0 S w ∧ a.defers = [] ∧ RVs Tryz.prog a w [.t 2 (.int .i64 r)] ∧ InR .i64 r
def qe6 (N:Nat):Prop:=∀ {u:World} {m0:Mem} {S:Segs} {w:World} (vparts_0:Value) (parts_0:List (Part)) (hparts_0:(pL 6 qbp) m0 [vparts_0] parts_0) {r:Int} (hF:qdg N parts_0 = some r) (hG:Glob u) (ok:Ok u m0 S w),Calls Tryz.prog 58 [vparts_0].toArray w fun e w'=>(e = .returned (.int .i64 r) ∧ Ok u m0 S w') ∧ InR .i64 r
theorem qj9 (N:Nat) (ih_syntax_length:qe6 N):qe6 (N + 1):=by
 intro u m0 S w vparts_0 parts_0 hparts_0 r hF hG ok
 have hF0:qdy (qdg N) N parts_0 = some r:=hF
 have hF:=hF0
 clear hF0
 unfold qdy at hF
 refine en (qlE u m0 S) r Tryz.func58 rfl rfl rfl (fun _ _ h=>rb h rfl) fun fin a E=>sg<|aw E rfl fun a E=>sg<|aw E rfl fun a E=>wp_seq<|sg<|mv E rfl fun a E=>lv E ok (qaP qcM hparts_0 rfl) fun a E=>mv E rfl fun a E=>wn<|wp_block<|bd hF fun o3 hL hF=>qa7 _ (fun (s:Int × Int) a w=>Ok u m0 (S) w ∧ Env 108 a [(3,vi s.1),(10,vparts_0),(11,(vi (parts_0.length:Int))),(12,vi s.2)] ∧ InR .i64 s.1 ∧ InR .i64 s.2) (fun (b:Int) e a w=>e = (.exit 0) ∧ Ok u m0 (S) w ∧ Env 108 a [(3,vi b)] ∧ InR .i64 b) ?_ ?_ N _ a w hL ⟨ok,E.keep [3,10,11,12],(ir 0),(ir 0)⟩
 rotate_left
 ·intro e a w _ hO
  obtain ⟨rfl,ok,E,r79⟩:=hO
  refine qa0<|qaa<|sg<|mv E rfl fun a E=>aw E rfl fun a E=>wp_ret ?_
  exact fin hF ⟨ok,E.d,rz E rfl,r79⟩
 rintro ⟨v6,v7⟩ a w r ⟨ok,E,r8,r9⟩ hF
 replace hF:qby (qdg N) N parts_0 v6 v7 = some r:=hF
 unfold qby at hF
 refine sg<|lw E (qap rfl rfl) fun a E=>wn<|wp_seq<|cg E rfl hF (fun c10 hF=>?_) fun c10 hF=>?_
 ·refine wp_exit<|qaM ?_
  cases hF
  exact so (⟨rfl,⟨ok,E.keep [3],r8⟩⟩)
 refine wp_skip<|qaa<|wp_seq<|wp_block<|sg ?_
 obtain ⟨x11,e12,hF⟩:=bnd hF
 obtain ⟨b13,o14,es15,hl16,rr17,at18,yy19⟩:=ia E 10 12 qcM hparts_0 e12
 obtain ⟨c24,c26,rfl,r20,l21,l22,l23,h25,h27⟩:=(qbK.1 rr17)
 refine lv E ok (yy19 _ _) fun a E=>lv E ok (qan (cs:=[vi x11.Kind,vs x11.Text,vs x11.Name,vs x11.Style,c24,c26]) qd5 rfl rfl (Holds.ro at18)) fun a E=>qa4 E ok qcn rfl rfl fun b28 a w E ok=>qax E ok 0 rfl rfl rfl qhH rfl rfl ⟨rfl,rfl,rfl,rfl,(qdk h25),(qdk h27),trivial⟩ rfl rfl fun w ok=>wn<|sg<|fk E ok qa2 qam rfl 0 rfl rfl fun a E=>wn<|wp_block<|sg<|lw E (qah rfl rfl) fun a E=>aw E rfl fun a E=>cf E rfl hF (fun c29 hF=>?_) fun c29 hF=>?_
 ·refine qab<|mv E rfl fun a E=>fk E ok qed qay rfl 0 rfl rfl fun a E=>bd hF fun r30 e31 hF=>qaf E qkL rfl (qdV N x11.Text l21 e31 hG ok) rfl rfl ?_
  rintro _ w ⟨⟨rfl,ok⟩,l32⟩
  refine ⟨_,rfl,fun a E=>?_⟩
  refine lw E (qbs Tryz.underlying9 rfl) fun a E=>lw E (qaF rfl rfl) fun a E=>av E rfl fun a E=>wpList_nil<|qac<|qac<|qaa<|qab<|lw E (qaE rfl rfl (InR.inc r9 (qaj hparts_0) c10)) fun a E=>mv E rfl fun a E=>wpList_nil ?_
  cases hF
  exact qao ⟨(ok.pk 1 [] rfl (by decide)),E.keep [3,10,11,12],(InR.wrap _ _),(InR.inc r9 (qaj hparts_0) c10)⟩
 refine sg<|lw E (qah rfl rfl) fun a E=>aw E rfl fun a E=>cf E rfl hF (fun c33 hF=>?_) fun c33 hF=>?_
 ·refine qab<|mv E rfl fun a E=>lw E (qaF rfl rfl) fun a E=>av E rfl fun a E=>wpList_nil<|qac<|qac<|qaa<|qab<|lw E (qaE rfl rfl (InR.inc r9 (qaj hparts_0) c10)) fun a E=>mv E rfl fun a E=>wpList_nil ?_
  cases hF
  exact qao ⟨(ok.pk 1 [] rfl (by decide)),E.keep [3,10,11,12],(InR.wrap _ _),(InR.inc r9 (qaj hparts_0) c10)⟩
 refine sg<|lw E (qah rfl rfl) fun a E=>aw E rfl fun a E=>cf E rfl hF (fun c34 hF=>?_) fun c34 hF=>?_
 ·refine sg<|mv E rfl fun a E=>fk E ok qbj qay rfl 0 rfl rfl fun a E=>lw E (qbs Tryz.underlying9 rfl) fun a E=>lw E (qaF rfl rfl) fun a E=>lw E (qaF rfl rfl) fun a E=>aw E rfl fun a E=>sg<|fk E ok qec qeD rfl 0 rfl rfl fun a E=>lv E ok (qaP qcM h27 rfl) fun a E=>lw E (qaK rfl rfl) fun a E=>wn<|cg E rfl hF (fun c35 hF=>?_) fun c35 hF=>?_
  ·refine wp_skip<|qac<|qac<|qaa<|qab<|lw E (qaE rfl rfl (InR.inc r9 (qaj hparts_0) c10)) fun a E=>mv E rfl fun a E=>wpList_nil ?_
   cases hF
   exact qao ⟨(ok.pk 1 [] rfl (by decide)),E.keep [3,10,11,12],(InR.wrap _ _),(InR.inc r9 (qaj hparts_0) c10)⟩
  refine qce (by kernel_rfl) (by kernel_rfl) ok<|qv E (qai rfl) fun a E=>qv E (qag qbj rfl) fun a E=>qv E (qal qay rfl (Holds.own 0 rfl rfl)) fun a E=>qv E (qbs Tryz.underlying9 rfl) fun a E=>qv E (qaF rfl rfl) fun a E=>qv E (qag qec rfl) fun a E=>qv E (qal qeD rfl (Holds.own 0 rfl rfl)) fun a E=>?_
  obtain ⟨r36,e37,hF⟩:=bnd hF
  obtain ⟨_,_,⟨_,_⟩,r38⟩:=Go.X.Calls.get (ih_syntax_length _ x11.Parts h27 e37 hG ok)
  refine qd0 E qnu rfl (fun w ok=>(ih_syntax_length _ x11.Parts h27 e37 hG ok).mono (fun _ _ h=>h.1)) rfl rfl fun a E=>qv E (qaF rfl rfl) fun a E=>qv E (qaF rfl rfl) fun a E=>qv E (qaG rfl) fun a E=>wpQuiet_nil ?_
  intro w ok
  refine qac<|qac<|qaa<|qab<|lw E (qaE rfl rfl (InR.inc r9 (qaj hparts_0) c10)) fun a E=>mv E rfl fun a E=>wpList_nil ?_
  cases hF
  exact qao ⟨(ok.pk 1 [] rfl (by decide)),E.keep [3,10,11,12],(InR.wrap _ _),(InR.inc r9 (qaj hparts_0) c10)⟩
 refine sg<|mv E rfl fun a E=>fk E ok qbj qay rfl 0 rfl rfl fun a E=>lw E (qbs Tryz.underlying9 rfl) fun a E=>lw E (qaF rfl rfl) fun a E=>lw E (qaF rfl rfl) fun a E=>aw E rfl fun a E=>wp_seq<|sg<|qaf E qrx rfl (qjy ok) rfl rfl ?_
 rintro _ w ⟨b39,rfl,ok⟩
 refine ⟨_,rfl,fun a E=>?_⟩
 refine qrb (clock:=7) (es:=qdO) E ok 0 rfl Tryz.underlying156 rfl rfl rfl fun b40 a w E ok=>wn<|qaH (Q':=fun e a w=>e = .normal ∧ Ok u m0 ([(b28,oc 34 [vi x11.Kind,vs x11.Text,vs x11.Name,vs x11.Style,c24,c26])] :: S) w ∧ Env 108 a [(5,vp b28),(10,vparts_0),(11,(vi (parts_0.length:Int))),(12,vi v7),(3,(vi (qgM x11.Kind (IntKind.wrap .i64 (v6 + (IntKind.wrap .i64 ((2:Int) + (x11.Name.length:Int))))))))]) ?_ ?_
 ·refine wp_block<|qr0 (fun kk a w=>∃ (seen:Array Nat) (q:Int),kk = (qdO.filter fun e=>!seen.contains e.born).length ∧ ust x11.Kind (IntKind.wrap .i64 (v6 + (IntKind.wrap .i64 ((2:Int) + (x11.Name.length:Int))))) seen q ∧ Ok u m0 ([(b40,Obj.mapIter (some b39) 7 seen 7)] :: [(b39,Obj.map qdO.toArray 7)] :: [(b28,oc 34 [vi x11.Kind,vs x11.Text,vs x11.Name,vs x11.Style,c24,c26])] :: S) w ∧ Env 108 a [(25,vp b40),(5,vp b28),(10,vparts_0),(11,(vi (parts_0.length:Int))),(12,vi v7),(3,vi q)]) ?_ _ a w ⟨#[],_,rfl,qto,ok,E.keep [25,5,10,11,12,3]⟩
  rintro kk a w ⟨seen,q,rfl,hu,ok,E⟩
  refine sg<|qsf (es:=qdO) E ok 0 rfl (by decide) rfl rfl rfl (fun hall a E=>?_) (fun e he hne a w E ok=>?_)
  ·refine lw E (qav rfl rfl) fun a E=>wn<|wp_seq<|c_if E rfl (fun hc=>by cases hc) (fun _=>?_)
   refine wp_exit<|qaM ?_
   obtain rfl:=qr3 hu hall
   exact .inr ⟨by nofun,qa0 ⟨rfl,ok.drop.drop,E.keep [5,10,11,12,3]⟩⟩
  refine lw E (qav rfl rfl) fun a E=>wn<|wp_seq<|c_if E rfl (fun _=>?_) (fun hc=>by cases hc)
  refine wp_skip<|qaa<|wp_block<|sg ?_
  obtain ⟨s_,v_,hk_,hv_,hl_,hr_,hu1,hu2⟩:=qqJ he
  have hy:=fun ty=>qqU (P:=Tryz.prog) (u:=u) (m:=m0) (ty:=ty) (S:=[(b40,Obj.mapIter (some b39) 7 (seen.push e.born) 7)] :: [(b39,Obj.map qdO.toArray 7)] :: [(b28,oc 34 [vi x11.Kind,vs x11.Text,vs x11.Name,vs x11.Style,c24,c26])] :: S) (es:=qdO) (x:=.tmp 25) 1 0 rfl rfl he qov (qaJ E rfl) hk_ hv_
  refine lv E ok (hy _) fun a E=>lw E (qav rfl rfl) fun a E=>lw E (qav rfl rfl) fun a E=>av E rfl fun a E=>aw E rfl fun a E=>sg<|mv E rfl fun a E=>fk E ok qa2 qam rfl 2 rfl rfl fun a E=>lw E (qah rfl rfl) fun a E=>wn<|c_if E rfl (fun hc=>?_) (fun hc=>?_)
  ·refine qab<|mz E rfl rfl fun a E=>lw E (qbs Tryz.underlying9 rfl) fun a E=>lw E (qaF rfl rfl) fun a E=>lw E (qaF rfl rfl) fun a E=>av E rfl fun a E=>wpList_nil<|qac ?_
   exact .inl ⟨rfl,_,qoX he hne,seen.push e.born,_,rfl,qrP hu hne hu1 (by simpa using hc),ok,E.keep [25,5,10,11,12,3]⟩
  refine wp_skip<|qac ?_
  exact .inl ⟨rfl,_,qoX he hne,seen.push e.born,_,rfl,qqS hu hu2 (by simpa using hc),ok,E.keep [25,5,10,11,12,3]⟩
 rintro e a w ⟨rfl,ok,E⟩
 refine qaa<|wp_seq<|sg<|fk E ok qbM qay rfl 0 rfl rfl fun a E=>lw E (qdj rfl rfl) fun a E=>wn<|bd hF fun o41 hJ hF=>qaH (Q':=fun e a w=>e = .normal ∧ Ok u m0 ([(b28,oc 34 [vi x11.Kind,vs x11.Text,vs x11.Name,vs x11.Style,c24,c26])] :: S) w ∧ Env 108 a [(3,vi o41),(5,vp b28),(10,vparts_0),(11,(vi (parts_0.length:Int))),(12,vi v7)] ∧ InR .i64 o41) ?_ ?_
 ·have hF:=hJ
  refine cg E rfl hF (fun c43 hF=>?_) fun c43 hF=>?_
  ·refine wp_skip ?_
   cases hF
   exact ⟨rfl,⟨ok,E.keep [3,5,10,11,12],(qpF (InR.wrap _ _))⟩⟩
  refine qab<|mv E rfl fun a E=>fk E ok qbM qay rfl 0 rfl rfl fun a E=>lw E (qbs Tryz.underlying9 rfl) fun a E=>lw E (qaF rfl rfl) fun a E=>lw E (qaF rfl rfl) fun a E=>av E rfl fun a E=>wpList_nil ?_
  cases hF
  exact ⟨rfl,⟨ok,E.keep [3,5,10,11,12],(InR.wrap _ _)⟩⟩
 intro e a w hO
 obtain ⟨rfl,ok,E,r44⟩:=hO
 refine qaa<|wp_seq<|sg<|fk E ok qa2 qam rfl 0 rfl rfl fun a E=>bd hF fun r45 e46 hF=>lc E qh7 rfl (qbS N x11.Kind r20 e46 hG ok) fun w ok a E=>wn<|bd hF fun o47 hJ hF=>qaH (Q':=fun e a w=>e = .normal ∧ Ok u m0 ([(b28,oc 34 [vi x11.Kind,vs x11.Text,vs x11.Name,vs x11.Style,c24,c26])] :: S) w ∧ Env 108 a [(3,vi o47),(5,vp b28),(10,vparts_0),(11,(vi (parts_0.length:Int))),(12,vi v7)] ∧ InR .i64 o47) ?_ ?_
 ·have hF:=hJ
  refine cg E rfl hF (fun c49 hF=>?_) fun c49 hF=>?_
  ·refine wp_skip ?_
   cases hF
   exact ⟨rfl,⟨ok,E.keep [3,5,10,11,12],r44⟩⟩
  refine qab<|mv E rfl fun a E=>lw E (qaF rfl rfl) fun a E=>av E rfl fun a E=>wpList_nil ?_
  cases hF
  exact ⟨rfl,⟨ok,E.keep [3,5,10,11,12],(InR.wrap _ _)⟩⟩
 intro e a w hO
 obtain ⟨rfl,ok,E,r50⟩:=hO
 refine qaa<|sg<|fk E ok qkM qlG rfl 0 rfl rfl fun a E=>lv E ok (qaP ql4 h25 rfl) fun a E=>mv E rfl fun a E=>wn<|wp_block<|bd hF fun o53 hL hF=>qa7 _ (fun (s:Int × Int) a w=>Ok u m0 ([(b28,oc 34 [vi x11.Kind,vs x11.Text,vs x11.Name,vs x11.Style,c24,c26])] :: S) w ∧ Env 108 a [(3,vi s.1),(10,vparts_0),(11,(vi (parts_0.length:Int))),(12,vi v7),(55,c24),(56,(vi (x11.Cases.length:Int))),(57,vi s.2)] ∧ InR .i64 s.1 ∧ InR .i64 s.2) (fun (b:Int) e a w=>e = (.exit 5) ∧ Ok u m0 ([(b28,oc 34 [vi x11.Kind,vs x11.Text,vs x11.Name,vs x11.Style,c24,c26])] :: S) w ∧ Env 108 a [(3,vi b),(10,vparts_0),(11,(vi (parts_0.length:Int))),(12,vi v7)] ∧ InR .i64 b) ?_ ?_ N _ a w hL ⟨ok,E.keep [3,10,11,12,55,56,57],r50,(ir 0)⟩
 rotate_left
 ·intro e a w _ hO
  obtain ⟨rfl,ok,E,r77⟩:=hO
  refine qa0<|qac<|qac<|qaa<|qab<|lw E (qaE rfl rfl (InR.inc r9 (qaj hparts_0) c10)) fun a E=>mv E rfl fun a E=>wpList_nil ?_
  cases hF
  exact qao ⟨(ok.pk 1 [] rfl (by decide)),E.keep [3,10,11,12],r77,(InR.inc r9 (qaj hparts_0) c10)⟩
 rintro ⟨v56,v57⟩ a w r ⟨ok,E,r58,r59⟩ hF
 replace hF:qeS (qdg N) N x11 v56 v57 = some r:=hF
 unfold qeS at hF
 refine sg<|lw E (qap rfl rfl) fun a E=>wn<|wp_seq<|cg E rfl hF (fun c60 hF=>?_) fun c60 hF=>?_
 ·refine wp_exit<|qaM ?_
  cases hF
  exact so (⟨rfl,⟨ok,E.keep [3,10,11,12],r58⟩⟩)
 refine wp_skip<|qaa<|wp_seq<|wp_block<|sg ?_
 obtain ⟨x61,e62,hF⟩:=bnd hF
 obtain ⟨b63,o64,es65,hl66,rr67,at68,yy69⟩:=ia E 55 57 ql4 h25 e62
 obtain ⟨c71,rfl,l70,h72⟩:=rr67
 refine lv E ok (yy69 _ _) fun a E=>lv E ok (qan (cs:=[vs x61.Key,c71]) qrT rfl rfl (Holds.ro at68)) fun a E=>qa4 E ok qq3 rfl rfl fun b73 a w E ok=>qax E ok 0 rfl rfl rfl qrY rfl rfl ⟨rfl,(qdk h72),trivial⟩ rfl rfl fun w ok=>wn<|qce (by kernel_rfl) (by kernel_rfl) ok<|qv E (qai rfl) fun a E=>qv E (qag qq6 rfl) fun a E=>qv E (qal qay rfl (Holds.own 0 rfl rfl)) fun a E=>qv E (qbs Tryz.underlying9 rfl) fun a E=>qv E (qaF rfl rfl) fun a E=>qv E (qag qq1 rfl) fun a E=>qv E (qal qeD rfl (Holds.own 0 rfl rfl)) fun a E=>?_
 obtain ⟨r74,e75,hF⟩:=bnd hF
 obtain ⟨_,_,⟨_,_⟩,r76⟩:=Go.X.Calls.get (ih_syntax_length _ x61.Parts h72 e75 hG ok)
 refine qd0 E qnu rfl (fun w ok=>(ih_syntax_length _ x61.Parts h72 e75 hG ok).mono (fun _ _ h=>h.1)) rfl rfl fun a E=>qv E (qaF rfl rfl) fun a E=>qv E (qaF rfl rfl) fun a E=>qv E (qaG rfl) fun a E=>wpQuiet_nil ?_
 intro w ok
 refine qac<|qaa<|qab<|lw E (qaE rfl rfl (InR.inc r59 (qaj h25) c60)) fun a E=>mv E rfl fun a E=>wpList_nil ?_
 cases hF
 exact qao ⟨(ok.pk 2 [1] rfl (by decide)),E.keep [3,10,11,12,55,56,57],(InR.wrap _ _),(InR.inc r59 (qaj h25) c60)⟩
theorem qjX:qe6 0:=by
 intro u m0 S w vparts_0 parts_0 hparts_0 r hF hG ok
 replace hF:none = some r:=hF
 cases hF
theorem qiI (N:Nat):qe6 N:=by
 induction N with
 | zero=>exact qjX
 | succ N h=>exact qj9 N h
theorem qh6 {u:World} {m0:Mem} {S:Segs} {w:World} (N:Nat) (vparts_0:Value) (parts_0:List (Part)) (hparts_0:(pL 6 qbp) m0 [vparts_0] parts_0) {r:Int} (hF:qdg N parts_0 = some r) (hG:Glob u) (ok:Ok u m0 S w) :
 Calls Tryz.prog 58 [vparts_0].toArray w fun e w'=>(e = .returned (.int .i64 r) ∧ Ok u m0 S w') ∧ InR .i64 r:=(qiI N) vparts_0 parts_0 hparts_0 hF hG ok
def qmv (u:World) (m0:Mem) (S:Segs) (r:Bool) (a:Act) (w:World):Prop :=
 Ok u m0 S w ∧ a.defers = [] ∧ RVs Tryz.prog a w [.t 4 (.bool r)]
theorem qmy (N:Nat) (vparts_0:Value) (parts_0:List (Part)) (hparts_0:(pL 6 qbp) m0 [vparts_0] parts_0) (counting_1:Bool) {r:Bool} (hF:qgi N parts_0 counting_1 = some r) (hG:Glob u) (ok:Ok u m0 S w) :
  Calls Tryz.prog 38 [vparts_0,vb counting_1].toArray w fun e w'=>(e = .returned (.bool r) ∧ Ok u m0 S w'):=by
 have hb0:=ok.base
 have le_m0:=Mem.le.refl m0
 unfold qgi at hF
 refine en (qmv u m0 S) r Tryz.func38 rfl rfl rfl (fun _ _ h=>ra h rfl) fun fin a E=>sg<|aw E rfl fun a E=>sg<|qjW kS (oneV pB) E ok rfl rfl fun c1 M2 a w E ok h3=>lw E (qaL (ps:=[(0,.tmp 6)]) (qs:=[(0,[c1])]) (cs:=[c1]) qoj qpO rfl ⟨rfl,(OMap.cells h3),rfl,trivial⟩ rfl) fun a E=>qa4 E ok qoj rfl rfl fun b4 a w E ok=>qax E ok 0 rfl rfl rfl qrW rfl rfl ⟨(OMap.one h3),trivial⟩ rfl rfl fun w ok=>wn<|sg<|lv E ok (qan (cs:=[c1]) qkC rfl rfl (Holds.own 0 rfl rfl)) fun a E=>mz E rfl rfl fun a E=>?_
 replace ok:=ok.addnil
 obtain ⟨r6,e7,hF⟩:=bnd hF
 replace ok:Ok u m0 ([] :: M2 :: [(b4,oc 122 [c1])] :: S) w:=(ok.pk 3 [0,2,1] rfl (by decide))
 refine qaf E qrn rfl (qii N _ parts_0 hparts_0 0 (ir 0) counting_1 ([]:List (List UInt8 × Bool)) h3 e7 hG ok) rfl rfl ?_
 rintro _ w ⟨m8,M9,rfl,hle,ok,h10⟩
 have le_m0:=le_m0.trans hle
 have hparts_0:=(mL qa8).up hle hparts_0
 refine ⟨_,rfl,fun a E=>?_⟩
 refine mv E rfl fun a E=>qcu r6.1 (fun c11=>?_) (fun c11=>?_)
 rotate_left
 ·have hF:=qcc c11 hF
  have E:=E.upd 12 c11 rfl
  refine lsz E fun a E=>pf E rfl rfl fun a E=>mv E rfl fun a E=>lsq E fun a E=>ls E fun a E=>pf E rfl rfl fun a E=>aw E rfl fun a E=>wp_ret ?_
  exact fin hF ⟨(ok.drop.drop.drop).down hb0 le_m0,E.d,rz E rfl⟩
 have hF:=qci c11 hF
 have E:=E.upd 12 c11 rfl
 refine fk E ok qla qgC rfl 2 rfl rfl fun a E=>lv E ok (qqK 1 rfl Tryz.underlying120 h10 rfl) fun a E=>lw E (qaR rfl rfl) fun a E=>pt E rfl rfl fun a E=>mv E rfl fun a E=>bw E 18 hF (fun c12 hF E=>?_) fun c12 hF E=>?_
 ·refine lsq E fun a E=>ls E fun a E=>pf E rfl rfl fun a E=>aw E rfl fun a E=>wp_ret ?_
  exact fin hF ⟨(ok.drop.drop.drop).down hb0 le_m0,E.d,rz E rfl⟩
 refine mv E rfl fun a E=>bd hF fun r13 e14 hF=>qaf E qnu rfl (qh6 N _ parts_0 hparts_0 e14 hG ok) rfl rfl ?_
 rintro _ w ⟨⟨rfl,ok⟩,r15⟩
 refine ⟨_,rfl,fun a E=>?_⟩
 refine lw E (qaR rfl rfl) fun a E=>pt E rfl rfl fun a E=>aw E rfl fun a E=>wp_ret ?_
 exact fin hF ⟨(ok.drop.drop.drop).down hb0 le_m0,E.d,rz E rfl⟩
def qmH (u:World) (m0:Mem) (S:Segs) (r:Bool) (a:Act) (w:World):Prop :=
 Ok u m0 S w ∧ a.defers = [] ∧ RVs Tryz.prog a w [.t 2 (.bool r)]
theorem qiL (N:Nat) (vparts_0:Value) (parts_0:List (Part)) (hparts_0:(pL 6 qbp) m0 [vparts_0] parts_0) {r:Bool} (hF:qeG N parts_0 = some r) (hG:Glob u) (ok:Ok u m0 S w) :
  Calls Tryz.prog 19 [vparts_0].toArray w fun e w'=>(e = .returned (.bool r) ∧ Ok u m0 S w'):=by
 unfold qeG at hF
 refine en (qmH u m0 S) r Tryz.func19 rfl rfl rfl (fun _ _ h=>ra h rfl) fun fin a E=>sg<|aw E rfl fun a E=>sg<|mv E rfl fun a E=>bd hF fun r1 e2 hF=>lc E qtf rfl (qmy N _ parts_0 hparts_0 false e2 hG ok) fun w ok a E=>aw E rfl fun a E=>wp_ret ?_
 exact fin hF ⟨ok,E.d,rz E rfl⟩
end Go.Proofs.YthhieiabfpkaaaaGreatDoor
namespace Go.Proofs.YthhieiabfpkaaaaGreatDoor
open Go.X
structure Token where
 Kind:Int
 Text:List UInt8
 From:Int
 To:Int
def qdJ (N:Nat) (s_0:List UInt8) (x_4:Int):Option (Int ⊕ ((Unit ⊕ Int))) :=
 bif (decide (x_4 < (s_0.length:Int))) then
  (idx s_0 x_4).bind fun c7 =>
  (qgc N (c7.toNat:Int)).bind fun r9 =>
  bif (!r9) then
   (idx s_0 x_4).bind fun c12 =>
   bif ((c12.toNat:Int) != 95) then
    (idx s_0 x_4).bind fun c15 =>
    bif ((c15.toNat:Int) != 45) then
     (idx s_0 x_4).bind fun c18 =>
     bif ((c18.toNat:Int) != 46) then
      (idx s_0 x_4).bind fun c21 =>
      bif ((c21.toNat:Int) != 61) then
       some (.inr (.inr x_4))
      else
       some (.inl (x_4 + 1))
     else
      some (.inl (x_4 + 1))
    else
     some (.inl (x_4 + 1))
   else
    some (.inl (x_4 + 1))
  else
   some (.inl (x_4 + 1))
 else
  some (.inr (.inl ()))
def qfl (N:Nat) (s_0:List UInt8):Option Int :=
 (iter (fun s=>qdJ N s_0 s) N 0).bind fun o2 =>
 Sum.elim (fun _o2 =>
  some (s_0.length:Int))
 (fun o2 =>
  some o2) o2
def qcW (N:Nat) (s_0:List UInt8) (i_4:Int):Option (Int ⊕ ((Unit ⊕ Int))) :=
 bif (decide (i_4 < (s_0.length:Int))) then
  (idx s_0 i_4).bind fun c7 =>
  (qdG N (c7.toNat:Int)).bind fun r9 =>
  bif (!r9) then
   some (.inl (i_4 + 1))
  else
   (idx s_0 i_4).bind fun c12 =>
   bif ((c12.toNat:Int) != 92) then
    some (.inr (.inr i_4))
   else
    bif ((i_4 + 1) == (s_0.length:Int)) then
     some (.inr (.inr i_4))
    else
     (idx s_0 (i_4 + 1)).bind fun c16 =>
     (qdG N (c16.toNat:Int)).bind fun r18 =>
     bif (!r18) then
      some (.inr (.inr i_4))
     else
      some (.inl (IntKind.wrap .i64 ((i_4 + 1) + 1)))
 else
  some (.inr (.inl ()))
def qew (N:Nat) (s_0:List UInt8):Option Int :=
 (iter (fun s=>qcW N s_0 s) N 0).bind fun o2 =>
 Sum.elim (fun _o2 =>
  some (s_0.length:Int))
 (fun o2 =>
  some o2) o2
def qcJ (N:Nat) (s_0:List UInt8) (brace_1:Bool):Option (Int × (List UInt8) × Int) :=
 (idx s_0 0).bind fun c1 =>
 bif ((c1.toNat:Int) == 123) then
  (slc s_0 0 1).bind fun s4 =>
  some (2,s4,1)
 else
  bif ((c1.toNat:Int) == 125) then
   (slc s_0 0 1).bind fun s7 =>
   some (3,s7,1)
  else
   bif brace_1 then
    bif ((c1.toNat:Int) == 44) then
     (slc s_0 0 1).bind fun s11 =>
     some (8,s11,1)
    else
     (show Option ((Int × Int) ⊕ (Int × (List UInt8) × Int)) from
      bif brace_1 then
       (qfl N s_0).bind fun r19 =>
       some (.inl (9,r19))
      else
       bif ((c1.toNat:Int) == 35) then
        (slc s_0 0 1).bind fun s23 =>
        some (.inr (4,s23,1))
       else
        bif ((c1.toNat:Int) == 60) then
         none
        else
         (qew N s_0).bind fun r26 =>
         some (.inl (1,r26))).bind fun o13 =>
     Sum.elim (fun o13 =>
      bif (o13.2 == 0) then
       some (0,[],0)
      else
       (slc s_0 0 o13.2).bind fun s32 =>
       some (o13.1,s32,o13.2))
     (fun o13 =>
      some o13) o13
   else
    (show Option ((Int × Int) ⊕ (Int × (List UInt8) × Int)) from
     bif brace_1 then
      (qfl N s_0).bind fun r40 =>
      some (.inl (9,r40))
     else
      bif ((c1.toNat:Int) == 35) then
       (slc s_0 0 1).bind fun s44 =>
       some (.inr (4,s44,1))
      else
       bif ((c1.toNat:Int) == 60) then
        none
       else
        (qew N s_0).bind fun r47 =>
        some (.inl (1,r47))).bind fun o34 =>
    Sum.elim (fun o34 =>
     bif (o34.2 == 0) then
      some (0,[],0)
     else
      (slc s_0 0 o34.2).bind fun s53 =>
      some (o34.1,s53,o34.2))
    (fun o34 =>
     some o34) o34
def qbd (N:Nat) (s_0:List UInt8) (l_22:List (Token)) (at_23:Int) (modes_24:List (Bool)) (brace_25:Bool):Option (((List (Token)) × Int × (List (Bool)) × Bool) ⊕ ((((List (Token)) × (List (Bool))) ⊕ ((List (Token)) × Int × Int)))) :=
 bif (decide (at_23 < (s_0.length:Int))) then
  bif brace_25 then
   (idx s_0 at_23).bind fun c35 =>
   bif ((c35.toNat:Int) == 32) then
    some (.inl (l_22,(at_23 + 1),modes_24,brace_25))
   else
    (idx s_0 at_23).bind fun c38 =>
    bif ((c38.toNat:Int) == 9) then
     some (.inl (l_22,(at_23 + 1),modes_24,brace_25))
    else
     (idx s_0 at_23).bind fun c41 =>
     bif ((c41.toNat:Int) == 10) then
      some (.inl (l_22,(at_23 + 1),modes_24,brace_25))
     else
      (slc s_0 at_23 (s_0.length:Int)).bind fun s44 =>
      (qcJ N s44 brace_25).bind fun r46 =>
      (show Option Bool from
       bif (r46.1 == 0) then
        some (r46.1 == 0)
       else
        bif (r46.1 == 3) then
         some ((modes_24.length:Int) == 0)
        else
         some false).bind fun o51 =>
      bif o51 then
       some (.inr (.inr ([],at_23,3)))
      else
       (show Option ((List (Bool)) × Bool) from
        bif (r46.1 == 2) then
         (app modes_24 ([brace_25]:List (Bool))).bind fun l63 =>
         some (l63,(!brace_25))
        else
         bif (r46.1 == 3) then
          (idx modes_24 (IntKind.wrap .i64 ((modes_24.length:Int) - 1))).bind fun x69 =>
          (slc modes_24 0 (IntKind.wrap .i64 ((modes_24.length:Int) - 1))).bind fun l79 =>
          some (l79,x69)
         else
          some (modes_24,brace_25)).bind fun o55 =>
       (app l_22 ([(Token.mk r46.1 r46.2.1 at_23 (IntKind.wrap .i64 (at_23 + r46.2.2)))]:List (Token))).bind fun l90 =>
       some (.inl (l90,(IntKind.wrap .i64 (at_23 + r46.2.2)),o55.1,o55.2))
  else
   (slc s_0 at_23 (s_0.length:Int)).bind fun s95 =>
   (qcJ N s95 brace_25).bind fun r97 =>
   (show Option Bool from
    bif (r97.1 == 0) then
     some (r97.1 == 0)
    else
     bif (r97.1 == 3) then
      some ((modes_24.length:Int) == 0)
     else
      some false).bind fun o102 =>
   bif o102 then
    some (.inr (.inr ([],at_23,3)))
   else
    (show Option ((List (Bool)) × Bool) from
     bif (r97.1 == 2) then
      (app modes_24 ([brace_25]:List (Bool))).bind fun l114 =>
      some (l114,(!brace_25))
     else
      bif (r97.1 == 3) then
       (idx modes_24 (IntKind.wrap .i64 ((modes_24.length:Int) - 1))).bind fun x120 =>
       (slc modes_24 0 (IntKind.wrap .i64 ((modes_24.length:Int) - 1))).bind fun l130 =>
       some (l130,x120)
      else
       some (modes_24,brace_25)).bind fun o106 =>
    (app l_22 ([(Token.mk r97.1 r97.2.1 at_23 (IntKind.wrap .i64 (at_23 + r97.2.2)))]:List (Token))).bind fun l141 =>
    some (.inl (l141,(IntKind.wrap .i64 (at_23 + r97.2.2)),o106.1,o106.2))
 else
  some (.inr (.inl (l_22,modes_24)))
def qfa (N:Nat) (s_0:List UInt8):Option ((List (Token)) × Int × Int) :=
 bif (decide ((s_0.length:Int) > 4000)) then
  some ([],4000,6)
 else
  (iter (fun s=>qbd N s_0 s.1 s.2.1 s.2.2.1 s.2.2.2) N ([],0,[],false)).bind fun o14 =>
  Sum.elim (fun o14 =>
   bif (decide ((o14.2.length:Int) > 0)) then
    some ([],(s_0.length:Int),3)
   else
    some (o14.1,0,0))
  (fun o14 =>
   some o14) o14
def qbA (N:Nat) (s_0:List UInt8) (i_22:Int) (x_23:Builder):Option ((Int × Builder) ⊕ Builder) :=
 bif (decide (i_22 < (s_0.length:Int))) then
  (idx s_0 i_22).bind fun c31 =>
  bif ((c31.toNat:Int) == 92) then
   (idx s_0 (i_22 + 1)).bind fun c34 =>
   (qba N (c34.toNat:Int) (Builder.mk () x_23.buf)).bind fun r36 =>
   some (.inl ((IntKind.wrap .i64 ((i_22 + 1) + 1)),(Builder.mk () r36.2.buf)))
  else
   (idx s_0 i_22).bind fun c43 =>
   (qba N (c43.toNat:Int) (Builder.mk () x_23.buf)).bind fun r45 =>
   some (.inl ((i_22 + 1),(Builder.mk () r45.2.buf)))
 else
  some (.inr (Builder.mk () x_23.buf))
def qeH (N:Nat) (s_0:List UInt8):Option ((List UInt8) × Int × Int) :=
 (qew N s_0).bind fun r1 =>
 bif (decide (r1 < (s_0.length:Int))) then
  some ([],r1,3)
 else
  (iter (fun s=>qbA N s_0 s.1 s.2) N (0,(Builder.mk () ([])))).bind fun o15 =>
  some ((qaQ o15.buf),0,0)
end Go.Proofs.YthhieiabfpkaaaaGreatDoor
namespace Go.Proofs.YthhieiabfpkaaaaGreatDoor
open Go.X
variable {u:World} {m0:Mem} {S:Segs} {w:World}
set_option maxHeartbeats 4000000
set_option maxRecDepth 100000
def qbB:Rp Token:=fun _ cs x=>cs = [.int .i64 x.Kind,.string (bs x.Text),.int .i64 x.From,.int .i64 x.To] ∧ InR .i64 x.Kind ∧ x.Text.length ≤ LIMS ∧ InR .i64 x.From ∧ InR .i64 x.To
theorem qbH:Mono qbB:=⟨fun _ h=>by
 obtain ⟨e,h0,h1,h2,h3⟩:=h
 exact ⟨e,h0,h1,h2,h3⟩,fun h=>by
 obtain ⟨rfl,h0,h1,h2,h3⟩:=h
 exact ⟨rfl,rfl,rfl,rfl,trivial⟩⟩
theorem qql:goB Tryz.prog 106 = true:=by kernel_rfl
theorem qqv:goB Tryz.prog 152 = true:=by kernel_rfl
theorem qoe:goB Tryz.prog 154 = true:=by kernel_rfl
theorem qeP:oneB Tryz.prog 4 = true:=by kernel_rfl
theorem qlw:qcq Tryz.prog 180 = some [(0,1),(1,1),(2,1),(3,1)]:=by kernel_rfl
theorem qbh:SlT Tryz.prog 111 4 1:=SlT.of (by kernel_rfl)
theorem qeo:SlT Tryz.prog 140 180 4:=SlT.of (by kernel_rfl)
theorem qgB:qbq Tryz.prog 180 = some [vi 0,(vs ([])),vi 0,vi 0]:=by kernel_rfl
theorem qdM:qbq Tryz.prog 4 = some [vb false]:=by kernel_rfl
def qjO (u:World) (m0:Mem) (S:Segs) (r:Int) (a:Act) (w:World):Prop :=
 Ok u m0 S w ∧ a.defers = [] ∧ RVs Tryz.prog a w [.t 2 (.int .i64 r)] ∧ InR .i64 r
theorem qkt (N:Nat) (s_0:List UInt8) (ls_0:s_0.length ≤ LIMS) {r:Int} (hF:qfl N s_0 = some r) (hG:Glob u) (ok:Ok u m0 S w) :
  Calls Tryz.prog 152 [vs s_0].toArray w fun e w'=>(e = .returned (.int .i64 r) ∧ Ok u m0 S w') ∧ InR .i64 r:=by
 unfold qfl at hF
 refine en (qjO u m0 S) r Tryz.func152 rfl rfl rfl (fun _ _ h=>rb h rfl) fun fin a E=>sg<|aw E rfl fun a E=>wp_seq<|sg<|mv E rfl fun a E=>lw E (qbs Tryz.underlying9 rfl) fun a E=>mv E rfl fun a E=>wn<|wp_block<|bd hF fun o2 hL hF=>qa7 _ (fun (s:Int) a w=>Ok u m0 (S) w ∧ Env 42 a [(0,vs s_0),(5,(vi (s_0.length:Int))),(6,vi s)] ∧ InR .i64 s) (fun (b:(Unit ⊕ Int)) e a w=>(Sum.elim (fun b24=>e = (.exit 0) ∧ Ok u m0 (S) w ∧ Env 42 a [(0,vs s_0)]) (fun b25=>e = .ret ∧ qjO u m0 S b25 a w)) b) ?_ ?_ N _ a w hL ⟨ok,E.keep [0,5,6],(ir 0)⟩
 rotate_left
 ·intro e a w _ hO
  rcases o2 with o2 | o2
  rotate_left
  ·obtain ⟨rfl,hret⟩:=hO
   refine qak<|qad ?_
   exact fin hF hret
  have hF:=qcj hF
  obtain ⟨rfl,ok,E⟩:=hO
  refine qa0<|qaa<|sg<|mv E rfl fun a E=>lw E (qbs Tryz.underlying9 rfl) fun a E=>av E rfl fun a E=>wn<|wp_ret ?_
  exact fin hF ⟨ok,E.d,rz E rfl,(InR.len ls_0)⟩
 rintro v4 a w r ⟨ok,E,r5⟩ hF
 replace hF:qdJ N s_0 v4 = some r:=hF
 unfold qdJ at hF
 refine sg<|lw E (qap rfl rfl) fun a E=>wn<|wp_seq<|cg E rfl hF (fun c6 hF=>?_) fun c6 hF=>?_
 ·refine wp_exit<|qaM ?_
  cases hF
  exact so (sl ⟨rfl,⟨ok,E.keep [0]⟩⟩)
 refine wp_skip<|qaa<|wp_seq<|wp_block<|sg<|mv E rfl fun a E=>av E rfl fun a E=>wn<|sg<|mz E rfl rfl fun a E=>bd hF fun c7 e8 hF=>lv E ok (qbb Tryz.underlying9 rfl rfl e8) fun a E=>bd hF fun r9 e10 hF=>lc E qp8 rfl (qiz N (c7.toNat:Int) (InR.byte c7) e10 hG ok) fun w ok a E=>lw E (qbx rfl) fun a E=>mv E rfl fun a E=>bw E 14 hF (fun c11 hF E=>?_) fun c11 hF E=>?_
 ·refine lsz E fun a E=>pf E rfl rfl fun a E=>mv E rfl fun a E=>lsz E fun a E=>pf E rfl rfl fun a E=>mv E rfl fun a E=>lsz E fun a E=>?_
  refine pf E rfl rfl fun a E=>mv E rfl fun a E=>lsz E fun a E=>pf E rfl rfl fun a E=>wn<|c_if E rfl (fun h=>by cases h) (fun _=>?_)
  refine wp_skip<|qac<|qaa<|qab<|lw E (qaE rfl rfl (InR.inc r5 (InR.len ls_0) c6)) fun a E=>mv E rfl fun a E=>wpList_nil ?_
  cases hF
  exact qao ⟨ok,E.keep [0,5,6],(InR.inc r5 (InR.len ls_0) c6)⟩
 refine mz E rfl rfl fun a E=>bd hF fun c12 e13 hF=>lv E ok (qbb Tryz.underlying9 rfl rfl e13) fun a E=>lw E (qbD rfl rfl) fun a E=>pt E rfl rfl fun a E=>mv E rfl fun a E=>bw E 20 hF (fun c14 hF E=>?_) fun c14 hF E=>?_
 ·refine lsz E fun a E=>pf E rfl rfl fun a E=>mv E rfl fun a E=>lsz E fun a E=>pf E rfl rfl fun a E=>mv E rfl fun a E=>lsz E fun a E=>?_
  refine pf E rfl rfl fun a E=>wn<|c_if E rfl (fun h=>by cases h) (fun _=>?_)
  refine wp_skip<|qac<|qaa<|qab<|lw E (qaE rfl rfl (InR.inc r5 (InR.len ls_0) c6)) fun a E=>mv E rfl fun a E=>wpList_nil ?_
  cases hF
  exact qao ⟨ok,E.keep [0,5,6],(InR.inc r5 (InR.len ls_0) c6)⟩
 refine mz E rfl rfl fun a E=>bd hF fun c15 e16 hF=>lv E ok (qbb Tryz.underlying9 rfl rfl e16) fun a E=>lw E (qbD rfl rfl) fun a E=>pt E rfl rfl fun a E=>mv E rfl fun a E=>bw E 26 hF (fun c17 hF E=>?_) fun c17 hF E=>?_
 ·refine lsz E fun a E=>pf E rfl rfl fun a E=>mv E rfl fun a E=>lsz E fun a E=>pf E rfl rfl fun a E=>wn<|c_if E rfl (fun h=>by cases h) (fun _=>?_)
  refine wp_skip<|qac<|qaa<|qab<|lw E (qaE rfl rfl (InR.inc r5 (InR.len ls_0) c6)) fun a E=>mv E rfl fun a E=>wpList_nil ?_
  cases hF
  exact qao ⟨ok,E.keep [0,5,6],(InR.inc r5 (InR.len ls_0) c6)⟩
 refine mz E rfl rfl fun a E=>bd hF fun c18 e19 hF=>lv E ok (qbb Tryz.underlying9 rfl rfl e19) fun a E=>lw E (qbD rfl rfl) fun a E=>pt E rfl rfl fun a E=>mv E rfl fun a E=>bw E 32 hF (fun c20 hF E=>?_) fun c20 hF E=>?_
 ·refine lsz E fun a E=>pf E rfl rfl fun a E=>wn<|c_if E rfl (fun h=>by cases h) (fun _=>?_)
  refine wp_skip<|qac<|qaa<|qab<|lw E (qaE rfl rfl (InR.inc r5 (InR.len ls_0) c6)) fun a E=>mv E rfl fun a E=>wpList_nil ?_
  cases hF
  exact qao ⟨ok,E.keep [0,5,6],(InR.inc r5 (InR.len ls_0) c6)⟩
 refine mz E rfl rfl fun a E=>bd hF fun c21 e22 hF=>lv E ok (qbb Tryz.underlying9 rfl rfl e22) fun a E=>lw E (qbD rfl rfl) fun a E=>pt E rfl rfl fun a E=>wn<|cg E rfl hF (fun c23 hF=>?_) fun c23 hF=>?_
 ·refine wp_skip<|qac<|qaa<|qab<|lw E (qaE rfl rfl (InR.inc r5 (InR.len ls_0) c6)) fun a E=>mv E rfl fun a E=>wpList_nil ?_
  cases hF
  exact qao ⟨ok,E.keep [0,5,6],(InR.inc r5 (InR.len ls_0) c6)⟩
 refine sg<|mv E rfl fun a E=>aw E rfl fun a E=>wp_ret<|qak<|qad ?_
 cases hF
 exact so (sr ⟨rfl,⟨ok,E.d,rz E rfl,r5⟩⟩)
def qjx (u:World) (m0:Mem) (S:Segs) (r:Int) (a:Act) (w:World):Prop :=
 Ok u m0 S w ∧ a.defers = [] ∧ RVs Tryz.prog a w [.t 2 (.int .i64 r)] ∧ InR .i64 r
theorem qg2 (N:Nat) (s_0:List UInt8) (ls_0:s_0.length ≤ LIMS) {r:Int} (hF:qew N s_0 = some r) (hG:Glob u) (ok:Ok u m0 S w) :
  Calls Tryz.prog 154 [vs s_0].toArray w fun e w'=>(e = .returned (.int .i64 r) ∧ Ok u m0 S w') ∧ InR .i64 r:=by
 unfold qew at hF
 refine en (qjx u m0 S) r Tryz.func154 rfl rfl rfl (fun _ _ h=>rb h rfl) fun fin a E=>sg<|aw E rfl fun a E=>wp_seq<|sg<|aw E rfl fun a E=>wp_block<|bd hF fun o2 hL hF=>qa7 _ (fun (s:Int) a w=>Ok u m0 (S) w ∧ Env 39 a [(0,vs s_0),(3,vi s)] ∧ InR .i64 s) (fun (b:(Unit ⊕ Int)) e a w=>(Sum.elim (fun b21=>e = (.exit 0) ∧ Ok u m0 (S) w ∧ Env 39 a [(0,vs s_0)]) (fun b22=>e = .ret ∧ qjx u m0 S b22 a w)) b) ?_ ?_ N _ a w hL ⟨ok,E.keep [0,3],(ir 0)⟩
 rotate_left
 ·intro e a w _ hO
  rcases o2 with o2 | o2
  rotate_left
  ·obtain ⟨rfl,hret⟩:=hO
   refine qak<|qad ?_
   exact fin hF hret
  have hF:=qcj hF
  obtain ⟨rfl,ok,E⟩:=hO
  refine qa0<|qaa<|sg<|mv E rfl fun a E=>lw E (qbs Tryz.underlying9 rfl) fun a E=>av E rfl fun a E=>wn<|wp_ret ?_
  exact fin hF ⟨ok,E.d,rz E rfl,(InR.len ls_0)⟩
 rintro v4 a w r ⟨ok,E,r5⟩ hF
 replace hF:qcW N s_0 v4 = some r:=hF
 unfold qcW at hF
 refine wp_seq<|sg<|mz E rfl rfl fun a E=>lw E (qbs Tryz.underlying9 rfl) fun a E=>lw E (qap rfl rfl) fun a E=>wn<|cg E rfl hF (fun c6 hF=>?_) fun c6 hF=>?_
 ·refine wp_exit<|qaM ?_
  cases hF
  exact so (sl ⟨rfl,⟨ok,E.keep [0]⟩⟩)
 refine wp_skip<|qaa<|wp_seq<|wp_block<|wp_seq<|sg<|mv E rfl fun a E=>mv E rfl fun a E=>bd hF fun c7 e8 hF=>lv E ok (qbb Tryz.underlying9 rfl rfl e8) fun a E=>bd hF fun r9 e10 hF=>lc E qpH rfl (qf1 N (c7.toNat:Int) (InR.byte c7) e10 hG ok) fun w ok a E=>lw E (qbx rfl) fun a E=>wn<|cf E rfl hF (fun c11 hF=>?_) fun c11 hF=>?_
 ·refine wp_exit<|qaM<|qa0<|qaa<|qab<|mv E rfl fun a E=>lw E (qaE rfl rfl (InR.inc r5 (InR.len ls_0) c6)) fun a E=>av E rfl fun a E=>wpList_nil ?_
  cases hF
  exact qao ⟨ok,E.keep [0,3],(InR.inc r5 (InR.len ls_0) c6)⟩
 refine wp_skip<|qaa<|wp_seq<|sg<|mz E rfl rfl fun a E=>bd hF fun c12 e13 hF=>lv E ok (qbb Tryz.underlying9 rfl rfl e13) fun a E=>lw E (qbD rfl rfl) fun a E=>mv E rfl fun a E=>bu E 19 hF (fun c14 hF E=>?_) fun c14 hF E=>?_
 ·refine lsz E fun a E=>ls E fun a E=>pt E rfl rfl fun a E=>mv E rfl fun a E=>lsz E fun a E=>lsq E fun a E=>pt E rfl rfl fun a E=>wn<|c_if E rfl (fun _=>?_) (fun h=>by cases h)
  refine sg<|mv E rfl fun a E=>aw E rfl fun a E=>wp_ret<|qad<|qak<|qad ?_
  cases hF
  exact so (sr ⟨rfl,⟨ok,E.d,rz E rfl,r5⟩⟩)
 refine mv E rfl fun a E=>lw E (qaE rfl rfl (InR.inc r5 (InR.len ls_0) c6)) fun a E=>mv E rfl fun a E=>lw E (qbs Tryz.underlying9 rfl) fun a E=>lw E (qah rfl rfl) fun a E=>pf E rfl rfl fun a E=>mv E rfl fun a E=>bu E 26 hF (fun c15 hF E=>?_) fun c15 hF E=>?_
 ·refine lsz E fun a E=>lsq E fun a E=>pt E rfl rfl fun a E=>wn<|c_if E rfl (fun _=>?_) (fun h=>by cases h)
  refine sg<|mv E rfl fun a E=>aw E rfl fun a E=>wp_ret<|qad<|qak<|qad ?_
  cases hF
  exact so (sr ⟨rfl,⟨ok,E.d,rz E rfl,r5⟩⟩)
 refine mz E rfl rfl fun a E=>lw E (qaE rfl rfl (InR.inc r5 (InR.len ls_0) c6)) fun a E=>bd hF fun c16 e17 hF=>lv E ok (qbb Tryz.underlying9 rfl rfl e17) fun a E=>bd hF fun r18 e19 hF=>lc E qpH rfl (qf1 N (c16.toNat:Int) (InR.byte c16) e19 hG ok) fun w ok a E=>lw E (qbx rfl) fun a E=>pf E rfl rfl fun a E=>wn<|cf E rfl hF (fun c20 hF=>?_) fun c20 hF=>?_
 ·refine sg<|mv E rfl fun a E=>aw E rfl fun a E=>wp_ret<|qad<|qak<|qad ?_
  cases hF
  exact so (sr ⟨rfl,⟨ok,E.d,rz E rfl,r5⟩⟩)
 refine wp_skip<|qaa<|qab<|mv E rfl fun a E=>lw E (qaE rfl rfl (InR.inc r5 (InR.len ls_0) c6)) fun a E=>av E rfl fun a E=>wpList_nil<|qac<|qaa<|qab<|mv E rfl fun a E=>lw E (qaF rfl rfl) fun a E=>av E rfl fun a E=>wpList_nil ?_
 cases hF
 exact qao ⟨ok,E.keep [0,3],(InR.wrap _ _)⟩
def qff (u:World) (m0:Mem) (S:Segs) (r:Int × (List UInt8) × Int) (a:Act) (w:World):Prop :=
 Ok u m0 S w ∧ a.defers = [] ∧ RVs Tryz.prog a w [.t 4 (.int .i64 r.1),.t 5 (.string (bs r.2.1)),.t 6 (.int .i64 r.2.2)] ∧ InR .i64 r.1 ∧ r.2.1.length ≤ LIMS ∧ InR .i64 r.2.2
theorem qkp (N:Nat) (s_0:List UInt8) (ls_0:s_0.length ≤ LIMS) (brace_1:Bool) {r:Int × (List UInt8) × Int} (hF:qcJ N s_0 brace_1 = some r) (hG:Glob u) (ok:Ok u m0 S w) :
  Calls Tryz.prog 106 [vs s_0,vb brace_1].toArray w fun e w'=>(e = .returned (.tuple [(.int .i64 r.1),(.string (bs r.2.1)),(.int .i64 r.2.2)].toArray) ∧ Ok u m0 S w') ∧ InR .i64 r.1 ∧ r.2.1.length ≤ LIMS ∧ InR .i64 r.2.2:=by
 unfold qcJ at hF
 refine en (qff u m0 S) r Tryz.func106 rfl rfl rfl (by rintro a w ⟨ok,hd,hrv,h0,h1,h2⟩; exact qaT [.t 4 (.int .i64 r.1),.t 5 (.string (bs r.2.1)),.t 6 (.int .i64 r.2.2)] hd rfl hrv ⟨⟨rfl,ok⟩,h0,h1,h2⟩) fun fin a E=>sg<|av E rfl fun a E=>av E rfl fun a E=>aw E rfl fun a E=>wp_seq<|sg<|mv E rfl fun a E=>bd hF fun c1 e2 hF=>lv E ok (qbb Tryz.underlying9 rfl rfl e2) fun a E=>aw E rfl fun a E=>wp_block<|sg<|mv E rfl fun a E=>?_
 refine lw E (qah rfl rfl) fun a E=>aw E rfl fun a E=>cf E rfl hF (fun c3 hF=>?_) fun c3 hF=>?_
 ·refine wp_seq<|qce (by kernel_rfl) (by kernel_rfl) ok<|qv E (qai rfl) fun a E=>bd hF fun s4 e5 hF=>qv E (qdq Tryz.underlying9 e5 rfl rfl ⟨_,rfl⟩) fun a E=>qv E (qaG rfl) fun a E=>qv E (qaG rfl) fun a E=>qv E (qaG rfl) fun a E=>wpQuiet_nil ?_
  intro w ok
  refine qaa<|wp_ret<|qak<|qad ?_
  exact fin hF ⟨ok,E.d,⟨rv_t E rfl,rv_t E rfl,rv_t E rfl,trivial⟩,(ir 2),(Nat.le_trans (qeW e5) ls_0),(ir 1)⟩
 refine sg<|mv E rfl fun a E=>lw E (qah rfl rfl) fun a E=>aw E rfl fun a E=>cf E rfl hF (fun c6 hF=>?_) fun c6 hF=>?_
 ·refine wp_seq<|qce (by kernel_rfl) (by kernel_rfl) ok<|qv E (qai rfl) fun a E=>bd hF fun s7 e8 hF=>qv E (qdq Tryz.underlying9 e8 rfl rfl ⟨_,rfl⟩) fun a E=>qv E (qaG rfl) fun a E=>qv E (qaG rfl) fun a E=>qv E (qaG rfl) fun a E=>wpQuiet_nil ?_
  intro w ok
  refine qaa<|wp_ret<|qak<|qad ?_
  exact fin hF ⟨ok,E.d,⟨rv_t E rfl,rv_t E rfl,rv_t E rfl,trivial⟩,(ir 3),(Nat.le_trans (qeW e8) ls_0),(ir 1)⟩
 refine sg<|mz E rfl rfl fun a E=>qcu brace_1 (fun c9=>?_) (fun c9=>?_)
 rotate_left
 ·as_aux_lemma =>
   have hF:=qcc c9 hF
   have E:=E.upd 24 c9 rfl
   refine lsq E fun a E=>pf E rfl rfl fun a E=>aw E rfl fun a E=>c_if E rfl (fun h=>by cases h) (fun _=>?_)
   refine sg<|mv E rfl fun a E=>aw E rfl fun a E=>bd hF fun o34 hJ hF=>qaH (Q':=fun e a w=>(Sum.elim (fun b35=>e = .normal ∧ Ok u m0 (S) w ∧ Env 54 a [(0,vs s_0),(4,vi b35.1),(6,vi b35.2)] ∧ InR .i64 b35.1 ∧ InR .i64 b35.2) (fun b38=>e = .ret ∧ qff u m0 S b38 a w)) o34) ?_ ?_
   rotate_left
   ·intro e a w hO
    rcases o34 with o34 | o34
    rotate_left
    ·obtain ⟨rfl,hret⟩:=hO
     refine qak<|qad ?_
     exact fin hF hret
    have hF:=qcj hF
    obtain ⟨rfl,ok,E,r50,r51⟩:=hO
    refine qac<|qaa<|wp_seq<|sg<|mv E rfl fun a E=>lw E (qah rfl rfl) fun a E=>wn<|cf E rfl hF (fun c52 hF=>?_) fun c52 hF=>?_
    ·refine sg<|av E rfl fun a E=>av E rfl fun a E=>aw E rfl fun a E=>wp_ret<|qad ?_
     exact fin hF ⟨ok,E.d,⟨rv_t E rfl,rv_t E rfl,rv_t E rfl,trivial⟩,(ir 0),(show ([]:List UInt8).length ≤ LIMS by decide),(ir 0)⟩
    refine wp_skip<|qaa<|wp_seq<|qce (by kernel_rfl) (by kernel_rfl) ok<|qv E (qai rfl) fun a E=>qv E (qai rfl) fun a E=>qv E (qai rfl) fun a E=>bd hF fun s53 e54 hF=>qv E (qdq Tryz.underlying9 e54 rfl rfl ⟨_,rfl⟩) fun a E=>qv E (qai rfl) fun a E=>qv E (qaG rfl) fun a E=>qv E (qaG rfl) fun a E=>qv E (qaG rfl) fun a E=>wpQuiet_nil ?_
    intro w ok
    refine qaa<|wp_ret ?_
    exact fin hF ⟨ok,E.d,⟨rv_t E rfl,rv_t E rfl,rv_t E rfl,trivial⟩,r50,(Nat.le_trans (qeW e54) ls_0),r51⟩
   have hF:=hJ
   refine cf E rfl hF (fun c39 hF=>?_) fun c39 hF=>?_
   ·refine qab<|mv E rfl fun a E=>bd hF fun r40 e41 hF=>qaf E qqv rfl (qkt N s_0 ls_0 e41 hG ok) rfl rfl ?_
    rintro _ w ⟨⟨rfl,ok⟩,r42⟩
    refine ⟨_,rfl,fun a E=>?_⟩
    refine av E rfl fun a E=>av E rfl fun a E=>wpList_nil ?_
    cases hF
    exact (sl ⟨rfl,⟨ok,E.keep [0,4,6],(ir 9),r42⟩⟩)
   refine sg<|mv E rfl fun a E=>lw E (qah rfl rfl) fun a E=>aw E rfl fun a E=>cf E rfl hF (fun c43 hF=>?_) fun c43 hF=>?_
   ·refine wp_seq<|qce (by kernel_rfl) (by kernel_rfl) ok<|qv E (qai rfl) fun a E=>bd hF fun s44 e45 hF=>qv E (qdq Tryz.underlying9 e45 rfl rfl ⟨_,rfl⟩) fun a E=>qv E (qaG rfl) fun a E=>qv E (qaG rfl) fun a E=>qv E (qaG rfl) fun a E=>wpQuiet_nil ?_
    intro w ok
    refine qaa<|wp_ret ?_
    have hret:qff u m0 S (4,s44,1) a w:=⟨ok,E.d,⟨rv_t E rfl,rv_t E rfl,rv_t E rfl,trivial⟩,(ir 4),(Nat.le_trans (qeW e45) ls_0),(ir 1)⟩
    cases hF
    exact (sr ⟨rfl,hret⟩)
   refine sg<|mv E rfl fun a E=>lw E (qah rfl rfl) fun a E=>aw E rfl fun a E=>cf E rfl hF (fun c46 hF=>?_) fun c46 hF=>?_
   ·refine sg<|mv E rfl fun a E=>?_
    cases hF
   refine qab<|mv E rfl fun a E=>bd hF fun r47 e48 hF=>qaf E qoe rfl (qg2 N s_0 ls_0 e48 hG ok) rfl rfl ?_
   rintro _ w ⟨⟨rfl,ok⟩,r49⟩
   refine ⟨_,rfl,fun a E=>?_⟩
   refine av E rfl fun a E=>av E rfl fun a E=>wpList_nil ?_
   cases hF
   exact (sl ⟨rfl,⟨ok,E.keep [0,4,6],(ir 1),r49⟩⟩)
 have hF:=qci c9 hF
 have E:=E.upd 24 c9 rfl
 refine mv E rfl fun a E=>lw E (qah rfl rfl) fun a E=>pt E rfl rfl fun a E=>aw E rfl fun a E=>cf E rfl hF (fun c10 hF=>?_) fun c10 hF=>?_
 ·refine wp_seq<|qce (by kernel_rfl) (by kernel_rfl) ok<|qv E (qai rfl) fun a E=>bd hF fun s11 e12 hF=>qv E (qdq Tryz.underlying9 e12 rfl rfl ⟨_,rfl⟩) fun a E=>qv E (qaG rfl) fun a E=>qv E (qaG rfl) fun a E=>qv E (qaG rfl) fun a E=>wpQuiet_nil ?_
  intro w ok
  refine qaa<|wp_ret<|qak<|qad ?_
  exact fin hF ⟨ok,E.d,⟨rv_t E rfl,rv_t E rfl,rv_t E rfl,trivial⟩,(ir 8),(Nat.le_trans (qeW e12) ls_0),(ir 1)⟩
 refine sg<|mv E rfl fun a E=>aw E rfl fun a E=>bd hF fun o13 hJ hF=>qaH (Q':=fun e a w=>(Sum.elim (fun b14=>e = .normal ∧ Ok u m0 (S) w ∧ Env 54 a [(0,vs s_0),(4,vi b14.1),(6,vi b14.2)] ∧ InR .i64 b14.1 ∧ InR .i64 b14.2) (fun b17=>e = .ret ∧ qff u m0 S b17 a w)) o13) ?_ ?_
 rotate_left
 ·intro e a w hO
  rcases o13 with o13 | o13
  rotate_left
  ·obtain ⟨rfl,hret⟩:=hO
   refine qak<|qad ?_
   exact fin hF hret
  have hF:=qcj hF
  obtain ⟨rfl,ok,E,r29,r30⟩:=hO
  refine qac<|qaa<|wp_seq<|sg<|mv E rfl fun a E=>lw E (qah rfl rfl) fun a E=>wn<|cf E rfl hF (fun c31 hF=>?_) fun c31 hF=>?_
  ·refine sg<|av E rfl fun a E=>av E rfl fun a E=>aw E rfl fun a E=>wp_ret<|qad ?_
   exact fin hF ⟨ok,E.d,⟨rv_t E rfl,rv_t E rfl,rv_t E rfl,trivial⟩,(ir 0),(show ([]:List UInt8).length ≤ LIMS by decide),(ir 0)⟩
  refine wp_skip<|qaa<|wp_seq<|qce (by kernel_rfl) (by kernel_rfl) ok<|qv E (qai rfl) fun a E=>qv E (qai rfl) fun a E=>qv E (qai rfl) fun a E=>bd hF fun s32 e33 hF=>qv E (qdq Tryz.underlying9 e33 rfl rfl ⟨_,rfl⟩) fun a E=>qv E (qai rfl) fun a E=>qv E (qaG rfl) fun a E=>qv E (qaG rfl) fun a E=>qv E (qaG rfl) fun a E=>wpQuiet_nil ?_
  intro w ok
  refine qaa<|wp_ret ?_
  exact fin hF ⟨ok,E.d,⟨rv_t E rfl,rv_t E rfl,rv_t E rfl,trivial⟩,r29,(Nat.le_trans (qeW e33) ls_0),r30⟩
 have hF:=hJ
 refine cf E rfl hF (fun c18 hF=>?_) fun c18 hF=>?_
 ·refine qab<|mv E rfl fun a E=>bd hF fun r19 e20 hF=>qaf E qqv rfl (qkt N s_0 ls_0 e20 hG ok) rfl rfl ?_
  rintro _ w ⟨⟨rfl,ok⟩,r21⟩
  refine ⟨_,rfl,fun a E=>?_⟩
  refine av E rfl fun a E=>av E rfl fun a E=>wpList_nil ?_
  cases hF
  exact (sl ⟨rfl,⟨ok,E.keep [0,4,6],(ir 9),r21⟩⟩)
 refine sg<|mv E rfl fun a E=>lw E (qah rfl rfl) fun a E=>aw E rfl fun a E=>cf E rfl hF (fun c22 hF=>?_) fun c22 hF=>?_
 ·refine wp_seq<|qce (by kernel_rfl) (by kernel_rfl) ok<|qv E (qai rfl) fun a E=>bd hF fun s23 e24 hF=>qv E (qdq Tryz.underlying9 e24 rfl rfl ⟨_,rfl⟩) fun a E=>qv E (qaG rfl) fun a E=>qv E (qaG rfl) fun a E=>qv E (qaG rfl) fun a E=>wpQuiet_nil ?_
  intro w ok
  refine qaa<|wp_ret ?_
  have hret:qff u m0 S (4,s23,1) a w:=⟨ok,E.d,⟨rv_t E rfl,rv_t E rfl,rv_t E rfl,trivial⟩,(ir 4),(Nat.le_trans (qeW e24) ls_0),(ir 1)⟩
  cases hF
  exact (sr ⟨rfl,hret⟩)
 refine sg<|mv E rfl fun a E=>lw E (qah rfl rfl) fun a E=>aw E rfl fun a E=>cf E rfl hF (fun c25 hF=>?_) fun c25 hF=>?_
 ·refine sg<|mv E rfl fun a E=>?_
  cases hF
 refine qab<|mv E rfl fun a E=>bd hF fun r26 e27 hF=>qaf E qoe rfl (qg2 N s_0 ls_0 e27 hG ok) rfl rfl ?_
 rintro _ w ⟨⟨rfl,ok⟩,r28⟩
 refine ⟨_,rfl,fun a E=>?_⟩
 refine av E rfl fun a E=>av E rfl fun a E=>wpList_nil ?_
 cases hF
 exact (sl ⟨rfl,⟨ok,E.keep [0,4,6],(ir 1),r28⟩⟩)
def qiN (u:World) (m0:Mem) (S:Segs) (r:(List (Token)) × Int × Int) (a:Act) (w:World):Prop :=
 ∃ m1 v0,m0.le m1 ∧ Ok u m1 S w ∧ a.defers = [] ∧ RVs Tryz.prog a w [.t 2 v0,.t 3 (.int .i64 r.2.1),.t 4 (.int .i64 r.2.2)] ∧ (pL 4 qbB) m1 [v0] r.1 ∧ InR .i64 r.2.1 ∧ InR .i64 r.2.2
theorem qmO (N:Nat) (s_0:List UInt8) (ls_0:s_0.length ≤ LIMS) {r:(List (Token)) × Int × Int} (hF:qfa N s_0 = some r) (hG:Glob u) (ok:Ok u m0 S w) :
  Calls Tryz.prog 71 [vs s_0].toArray w fun e w'=>∃ m1 v0,e = .returned (.tuple [v0,(.int .i64 r.2.1),(.int .i64 r.2.2)].toArray) ∧ m0.le m1 ∧ Ok u m1 S w' ∧ (pL 4 qbB) m1 [v0] r.1 ∧ InR .i64 r.2.1 ∧ InR .i64 r.2.2:=by
 have le_m0:=Mem.le.refl m0
 unfold qfa at hF
 refine en (qiN u m0 S) r Tryz.func71 rfl rfl rfl (by rintro a w ⟨m1,v0,hle,ok,hd,hrv,h0,h1,h2⟩; exact qaT [.t 2 v0,.t 3 (.int .i64 r.2.1),.t 4 (.int .i64 r.2.2)] hd rfl hrv ⟨m1,v0,rfl,hle,ok,h0,h1,h2⟩) fun fin a E=>sg<|av E rfl fun a E=>av E rfl fun a E=>aw E rfl fun a E=>wp_seq<|sg<|mv E rfl fun a E=>lw E (qbs Tryz.underlying9 rfl) fun a E=>lw E (qaK rfl rfl) fun a E=>wn<|cf E rfl hF (fun c1 hF=>?_) fun c1 hF=>?_
 ·refine sg<|av E rfl fun a E=>av E rfl fun a E=>aw E rfl fun a E=>wp_ret<|qad ?_
  exact fin hF ⟨m0,(.slice none 0 0),le_m0,ok,E.d,⟨rv_t E rfl,rv_t E rfl,rv_t E rfl,trivial⟩,qaI,(ir 4000),(ir 6)⟩
 refine wp_skip<|qaa<|sg<|aw E rfl fun a E=>sg<|aw E rfl fun a E=>wp_seq<|wp_block ?_
 obtain ⟨M10,ok,h11⟩:=qcY (e:=180) (k:=4) (R:=qbB) ok
 obtain ⟨M12,ok,h13⟩:=qcY (e:=4) (k:=1) (R:=pB) ok
 refine bd hF fun o14 hL hF=>qa7 _ (fun (s:(List (Token)) × Int × (List (Bool)) × Bool) a w=>∃ c15 M16 c19 M20,Ok u m0 (M20 :: M16 :: S) w ∧ Env 100 a [(0,vs s_0),(2,c15),(3,vi s.2.1),(5,c19),(6,vb s.2.2.2)] ∧ ORow 180 4 qbB m0 c15 s.1 M16 ∧ InR .i64 s.2.1 ∧ ORow 4 1 pB m0 c19 s.2.2.1 M20) (fun (b:(((List (Token)) × (List (Bool))) ⊕ ((List (Token)) × Int × Int))) e a w=>(Sum.elim (fun b155=>e = (.exit 0) ∧ ∃ c156 M157 c159 M160,Ok u m0 (M160 :: M157 :: S) w ∧ Env 100 a [(0,vs s_0),(2,c156),(5,c159)] ∧ ORow 180 4 qbB m0 c156 b155.1 M157 ∧ ORow 4 1 pB m0 c159 b155.2 M160) (fun b162=>e = .ret ∧ qiN u m0 S b162 a w)) b) ?_ ?_ N _ a w hL ⟨(Value.slice none 0 0),M10,(Value.slice none 0 0),M12,ok,E.keep [0,2,3,5,6],h11,(ir 0),h13⟩
 rotate_left
 ·intro e a w _ hO
  rcases o14 with o14 | o14
  rotate_left
  ·obtain ⟨rfl,hret⟩:=hO
   refine qak<|qad ?_
   exact fin hF hret
  have hF:=qcj hF
  obtain ⟨rfl,c146,M147,c149,M150,ok,E,h148,h151⟩:=hO
  refine qa0<|qaa<|wp_seq<|sg<|mv E rfl fun a E=>lv E ok (qb7 qbh h151 rfl) fun a E=>lw E (qaK rfl rfl) fun a E=>wn<|cf E rfl hF (fun c152 hF=>?_) fun c152 hF=>?_
  ·refine sg<|mv E rfl fun a E=>lw E (qbs Tryz.underlying9 rfl) fun a E=>av E rfl fun a E=>av E rfl fun a E=>av E rfl fun a E=>wn<|wp_ret<|qad ?_
   exact fin hF ⟨m0,(.slice none 0 0),le_m0,ok.drop.drop,E.d,⟨rv_t E rfl,rv_t E rfl,rv_t E rfl,trivial⟩,qaI,(InR.len ls_0),(ir 3)⟩
  refine wp_skip<|qaa<|sg<|mv E rfl fun a E=>av E rfl fun a E=>av E rfl fun a E=>av E rfl fun a E=>wn<|wp_ret ?_
  obtain ⟨m153,hle,ok,hfz⟩:=(ok.frs 1 rfl).freeze
  have h154:=ORow.froz qbH h148 hle hfz (by decide)
  have le_m0:=le_m0.trans hle
  have h151:=ORow.up mB hle h151
  exact fin hF ⟨m153,c146,le_m0,ok.drop,E.d,⟨rv_t E rfl,rv_t E rfl,rv_t E rfl,trivial⟩,h154,(ir 0),(ir 0)⟩
 rintro ⟨v22,v23,v24,v25⟩ a w r ⟨c26,M27,c30,M31,ok,E,h28,r29,h32⟩ hF
 replace hF:qbd N s_0 v22 v23 v24 v25 = some r:=hF
 unfold qbd at hF
 refine wp_seq<|sg<|mz E rfl rfl fun a E=>lw E (qbs Tryz.underlying9 rfl) fun a E=>lw E (qap rfl rfl) fun a E=>wn<|cg E rfl hF (fun c33 hF=>?_) fun c33 hF=>?_
 ·refine wp_exit<|qaM ?_
  cases hF
  exact so (sl ⟨rfl,⟨c26,M27,c30,M31,ok,E.keep [0,2,5],h28,h32⟩⟩)
 refine wp_skip<|qaa<|wp_block<|wp_seq<|sg<|mz E rfl rfl fun a E=>qcu v25 (fun c34=>?_) (fun c34=>?_)
 rotate_left
 ·as_aux_lemma =>
   have hF:=qcc c34 hF
   have E:=E.upd 18 c34 rfl
   refine lsz E fun a E=>lsz E fun a E=>lsz E fun a E=>lsz E fun a E=>?_
   refine pf E rfl rfl fun a E=>wn<|c_if E rfl (fun h=>by cases h) (fun _=>?_)
   refine wp_skip<|qaa<|sg<|mz E rfl rfl fun a E=>bd hF fun s95 e96 hF=>lw E (qdq Tryz.underlying9 e96 rfl ⟨_,rfl⟩ rfl) fun a E=>mv E rfl fun a E=>bd hF fun r97 e98 hF=>qaf E qql rfl (qkp N s95 (Nat.le_trans (qeW e96) ls_0) v25 e98 hG ok) rfl rfl ?_
   rintro _ w ⟨⟨rfl,ok⟩,r99,l100,r101⟩
   refine ⟨_,rfl,fun a E=>?_⟩
   refine mv E rfl fun a E=>lw E (qav rfl rfl) fun a E=>lw E (qav rfl rfl) fun a E=>lw E (qav rfl rfl) fun a E=>av E rfl fun a E=>av E rfl fun a E=>av E rfl fun a E=>wn<|wp_seq<|wp_block<|wp_seq<|sg<|mv E rfl fun a E=>lw E (qah rfl rfl) fun a E=>aw E rfl fun a E=>?_
   refine bd hF fun o102 hJ hF=>qaH (Q':=fun e a w=>e = .normal ∧ Ok u m0 (M31 :: M27 :: S) w ∧ Env 100 a [(0,vs s_0),(2,c26),(3,vi v23),(5,c30),(6,vb v25),(7,vi r97.1),(8,vs r97.2.1),(9,vi r97.2.2),(47,vb o102)]) ?_ ?_
   ·have hF:=hJ
    refine cf E rfl hF (fun c103 hF=>?_) fun c103 hF=>?_
    ·refine wp_skip ?_
     cases hF
     exact ⟨rfl,⟨ok,E.keep [0,2,3,5,6,7,8,9,47]⟩⟩
    refine qab<|mv E rfl fun a E=>lw E (qah rfl rfl) fun a E=>mv E rfl fun a E=>bu E 52 hF (fun c104 hF E=>?_) fun c104 hF E=>?_
    ·refine mv E rfl fun a E=>lv E ok (qb7 qbh h32 rfl) fun a E=>lw E (qah rfl rfl) fun a E=>pt E rfl rfl fun a E=>av E rfl fun a E=>wpList_nil ?_
     cases hF
     exact ⟨rfl,⟨ok,E.keep [0,2,3,5,6,7,8,9,47]⟩⟩
    refine lsq E fun a E=>ls E fun a E=>pf E rfl rfl fun a E=>av E rfl fun a E=>wpList_nil ?_
    cases hF
    exact ⟨rfl,⟨ok,E.keep [0,2,3,5,6,7,8,9,47]⟩⟩
   intro e a w hO
   obtain ⟨rfl,ok,E⟩:=hO
   refine qaa<|cf E rfl hF (fun c105 hF=>?_) fun c105 hF=>?_
   ·refine sg<|mv E rfl fun a E=>av E rfl fun a E=>av E rfl fun a E=>aw E rfl fun a E=>wp_ret<|qak<|qad<|qak ?_
    cases hF
    exact so (sr ⟨rfl,⟨m0,(.slice none 0 0),le_m0,ok.drop.drop,E.d,⟨rv_t E rfl,rv_t E rfl,rv_t E rfl,trivial⟩,qaI,r29,(ir 3)⟩⟩)
   refine sg<|mv E rfl fun a E=>lw E (qah rfl rfl) fun a E=>aw E rfl fun a E=>bd hF fun o106 hJ hF=>qaH (Q':=fun e a w=>e = .normal ∧ ∃ c107 M108,Ok u m0 (M108 :: M27 :: S) w ∧ Env 100 a [(0,vs s_0),(2,c26),(3,vi v23),(5,c107),(6,vb o106.2),(7,vi r97.1),(8,vs r97.2.1),(9,vi r97.2.2)] ∧ ORow 4 1 pB m0 c107 o106.1 M108) ?_ ?_
   rotate_left
   ·intro e a w hO
    obtain ⟨rfl,c135,M136,ok,E,h137⟩:=hO
    refine qac<|qaa<|sg<|mz E rfl rfl fun a E=>mz E rfl rfl fun a E=>mz E rfl rfl fun a E=>lw E (qaF rfl rfl) fun a E=>lw E (qaL (ps:=[(0,.tmp 82),(1,.tmp 83),(2,.tmp 84),(3,.tmp 87)]) (qs:=[(0,[vi r97.1]),(1,[vs r97.2.1]),(2,[vi v23]),(3,[(vi (IntKind.wrap .i64 (v23 + r97.2.2)))])]) (cs:=[vi r97.1,vs r97.2.1,vi v23,(vi (IntKind.wrap .i64 (v23 + r97.2.2)))]) qgB qlw rfl ⟨rfl,rfl,rfl,⟨rfl,rfl,rfl,⟨rfl,rfl,rfl,⟨rfl,rfl,rfl,trivial⟩⟩⟩⟩ rfl) fun a E=>qa6 (R:=qbB) (xo:=[.tmp 88]) (xs:=([(Token.mk r97.1 r97.2.1 v23 (IntKind.wrap .i64 (v23 + r97.2.2)))]:List (Token))) E ok qeo qgB rfl ⟨⟨_,rfl,rfl,⟨rfl,r99,l100,r29,(InR.wrap _ _)⟩⟩,trivial⟩ rfl rfl rfl rfl fun c138 M139 a w E ok h140=>bd hF fun l141 e142 hF=>qb0 (R:=qbB) E ok 2 qbH qeo Tryz.underlying140 rfl h28 (qbf.ofRow h140 0 rfl ok) e142 ⟨_,qgB,rfl⟩ rfl rfl rfl rfl fun c143 M144 a w E ok h145=>aw E rfl fun a E=>qab<|mz E rfl rfl fun a E=>lw E (qaF rfl rfl) fun a E=>av E rfl fun a E=>wpList_nil<|qac ?_
    cases hF
    exact qao ⟨c143,M144,c135,M136,(ok.pk 3 [1,2] rfl (by decide)),E.keep [0,2,3,5,6],h145,(InR.wrap _ _),h137⟩
   have hF:=hJ
   refine cf E rfl hF (fun c110 hF=>?_) fun c110 hF=>?_
   ·refine sg<|mz E rfl rfl fun a E=>qa6 (R:=pB) (xo:=[.tmp 62]) (xs:=([v25]:List (Bool))) E ok qbh qdM rfl ⟨⟨_,rfl,rfl,qdi⟩,trivial⟩ rfl rfl rfl rfl fun c111 M112 a w E ok h113=>bd hF fun l114 e115 hF=>qb0 (R:=pB) E ok 1 mB qbh Tryz.underlying111 rfl h32 (qbf.ofRow h113 0 rfl ok) e115 ⟨_,qdM,rfl⟩ rfl rfl rfl rfl fun c116 M117 a w E ok h118=>aw E rfl fun a E=>qab<|mv E rfl fun a E=>lw E (qbx rfl) fun a E=>av E rfl fun a E=>wpList_nil ?_
    cases hF
    exact ⟨rfl,⟨c116,M117,(ok.pk 3 [1,2] rfl (by decide)),E.keep [0,2,3,5,6,7,8,9],h118⟩⟩
   refine sg<|mv E rfl fun a E=>lw E (qah rfl rfl) fun a E=>aw E rfl fun a E=>cg E rfl hF (fun c119 hF=>?_) fun c119 hF=>?_
   ·refine wp_skip ?_
    cases hF
    exact ⟨rfl,⟨c30,M31,ok,E.keep [0,2,3,5,6,7,8,9],h32⟩⟩
   refine sg<|mz E rfl rfl fun a E=>lv E ok (qb7 qbh h32 rfl) fun a E=>lw E (qbI rfl rfl) fun a E=>?_
   obtain ⟨x120,e121,hF⟩:=bnd hF
   obtain ⟨b122,o123,hp124,yy125⟩:=qbC qbh h32 e121 (P:=Tryz.prog) (X:=.tmp 70) (I:=.tmp 73) (kd:=.i64) (qaJ E rfl) (qaJ E rfl)
   refine lv E ok (yy125 _ _) fun a E=>?_
   obtain ⟨es126,hl127,rr128,hh129⟩:=qds h32 e121 hp124 (by decide)
   obtain rfl:=rr128
   refine lv E ok (qal qeP rfl (hh129 _ _ _ 0 rfl)) fun a E=>aw E rfl fun a E=>qab<|mz E rfl rfl fun a E=>lv E ok (qb7 qbh h32 rfl) fun a E=>lw E (qbI rfl rfl) fun a E=>?_
   obtain ⟨l130,e131,hF⟩:=bnd hF
   obtain ⟨c132,h133,yy134⟩:=ORow.slice qbh h32 e131 (P:=Tryz.prog) (X:=.tmp 76) (lov:=none) (hiv:=(some (.tmp 79))) (qaJ E rfl) (qey E rfl) (qey E ⟨_,rfl⟩)
   refine lv E ok (yy134 _ _) fun a E=>av E rfl fun a E=>wpList_nil ?_
   cases hF
   exact ⟨rfl,⟨c132,M31,ok,E.keep [0,2,3,5,6,7,8,9],h133⟩⟩
 have hF:=qci c34 hF
 have E:=E.upd 18 c34 rfl
 refine mz E rfl rfl fun a E=>bd hF fun c35 e36 hF=>lv E ok (qbb Tryz.underlying9 rfl rfl e36) fun a E=>lw E (qah rfl rfl) fun a E=>mv E rfl fun a E=>bu E 23 hF (fun c37 hF E=>?_) fun c37 hF E=>?_
 ·refine lsz E fun a E=>pt E rfl rfl fun a E=>mv E rfl fun a E=>lsz E fun a E=>pt E rfl rfl fun a E=>pt E rfl rfl fun a E=>wn<|c_if E rfl (fun _=>?_) (fun h=>by cases h)
  refine sg<|mv E rfl fun a E=>lw E (qaE rfl rfl (InR.inc r29 (InR.len ls_0) c33)) fun a E=>aw E rfl fun a E=>wp_exit<|qaM<|qa0 ?_
  cases hF
  exact qao ⟨c26,M27,c30,M31,ok,E.keep [0,2,3,5,6],h28,(InR.inc r29 (InR.len ls_0) c33),h32⟩
 refine mz E rfl rfl fun a E=>bd hF fun c38 e39 hF=>lv E ok (qbb Tryz.underlying9 rfl rfl e39) fun a E=>lw E (qah rfl rfl) fun a E=>pf E rfl rfl fun a E=>mv E rfl fun a E=>bu E 29 hF (fun c40 hF E=>?_) fun c40 hF E=>?_
 ·refine lsz E fun a E=>pt E rfl rfl fun a E=>pt E rfl rfl fun a E=>wn<|c_if E rfl (fun _=>?_) (fun h=>by cases h)
  refine sg<|mv E rfl fun a E=>lw E (qaE rfl rfl (InR.inc r29 (InR.len ls_0) c33)) fun a E=>aw E rfl fun a E=>wp_exit<|qaM<|qa0 ?_
  cases hF
  exact qao ⟨c26,M27,c30,M31,ok,E.keep [0,2,3,5,6],h28,(InR.inc r29 (InR.len ls_0) c33),h32⟩
 refine mz E rfl rfl fun a E=>bd hF fun c41 e42 hF=>lv E ok (qbb Tryz.underlying9 rfl rfl e42) fun a E=>lw E (qah rfl rfl) fun a E=>pf E rfl rfl fun a E=>pt E rfl rfl fun a E=>wn<|cf E rfl hF (fun c43 hF=>?_) fun c43 hF=>?_
 ·refine sg<|mv E rfl fun a E=>lw E (qaE rfl rfl (InR.inc r29 (InR.len ls_0) c33)) fun a E=>aw E rfl fun a E=>wp_exit<|qaM<|qa0 ?_
  cases hF
  exact qao ⟨c26,M27,c30,M31,ok,E.keep [0,2,3,5,6],h28,(InR.inc r29 (InR.len ls_0) c33),h32⟩
 refine wp_skip<|qaa<|sg<|mz E rfl rfl fun a E=>bd hF fun s44 e45 hF=>lw E (qdq Tryz.underlying9 e45 rfl ⟨_,rfl⟩ rfl) fun a E=>mv E rfl fun a E=>bd hF fun r46 e47 hF=>qaf E qql rfl (qkp N s44 (Nat.le_trans (qeW e45) ls_0) v25 e47 hG ok) rfl rfl ?_
 rintro _ w ⟨⟨rfl,ok⟩,r48,l49,r50⟩
 refine ⟨_,rfl,fun a E=>?_⟩
 refine mv E rfl fun a E=>lw E (qav rfl rfl) fun a E=>lw E (qav rfl rfl) fun a E=>lw E (qav rfl rfl) fun a E=>av E rfl fun a E=>av E rfl fun a E=>av E rfl fun a E=>wn<|wp_seq<|wp_block<|wp_seq<|sg<|mv E rfl fun a E=>lw E (qah rfl rfl) fun a E=>aw E rfl fun a E=>?_
 refine bd hF fun o51 hJ hF=>qaH (Q':=fun e a w=>e = .normal ∧ Ok u m0 (M31 :: M27 :: S) w ∧ Env 100 a [(0,vs s_0),(2,c26),(3,vi v23),(5,c30),(6,vb v25),(7,vi r46.1),(8,vs r46.2.1),(9,vi r46.2.2),(47,vb o51)]) ?_ ?_
 ·have hF:=hJ
  refine cf E rfl hF (fun c52 hF=>?_) fun c52 hF=>?_
  ·refine wp_skip ?_
   cases hF
   exact ⟨rfl,⟨ok,E.keep [0,2,3,5,6,7,8,9,47]⟩⟩
  refine qab<|mv E rfl fun a E=>lw E (qah rfl rfl) fun a E=>mv E rfl fun a E=>bu E 52 hF (fun c53 hF E=>?_) fun c53 hF E=>?_
  ·refine mv E rfl fun a E=>lv E ok (qb7 qbh h32 rfl) fun a E=>lw E (qah rfl rfl) fun a E=>pt E rfl rfl fun a E=>av E rfl fun a E=>wpList_nil ?_
   cases hF
   exact ⟨rfl,⟨ok,E.keep [0,2,3,5,6,7,8,9,47]⟩⟩
  refine lsq E fun a E=>ls E fun a E=>pf E rfl rfl fun a E=>av E rfl fun a E=>wpList_nil ?_
  cases hF
  exact ⟨rfl,⟨ok,E.keep [0,2,3,5,6,7,8,9,47]⟩⟩
 intro e a w hO
 obtain ⟨rfl,ok,E⟩:=hO
 refine qaa<|cf E rfl hF (fun c54 hF=>?_) fun c54 hF=>?_
 ·refine sg<|mv E rfl fun a E=>av E rfl fun a E=>av E rfl fun a E=>aw E rfl fun a E=>wp_ret<|qak<|qad<|qak ?_
  cases hF
  exact so (sr ⟨rfl,⟨m0,(.slice none 0 0),le_m0,ok.drop.drop,E.d,⟨rv_t E rfl,rv_t E rfl,rv_t E rfl,trivial⟩,qaI,r29,(ir 3)⟩⟩)
 refine sg<|mv E rfl fun a E=>lw E (qah rfl rfl) fun a E=>aw E rfl fun a E=>bd hF fun o55 hJ hF=>qaH (Q':=fun e a w=>e = .normal ∧ ∃ c56 M57,Ok u m0 (M57 :: M27 :: S) w ∧ Env 100 a [(0,vs s_0),(2,c26),(3,vi v23),(5,c56),(6,vb o55.2),(7,vi r46.1),(8,vs r46.2.1),(9,vi r46.2.2)] ∧ ORow 4 1 pB m0 c56 o55.1 M57) ?_ ?_
 rotate_left
 ·intro e a w hO
  obtain ⟨rfl,c84,M85,ok,E,h86⟩:=hO
  refine qac<|qaa<|sg<|mz E rfl rfl fun a E=>mz E rfl rfl fun a E=>mz E rfl rfl fun a E=>lw E (qaF rfl rfl) fun a E=>lw E (qaL (ps:=[(0,.tmp 82),(1,.tmp 83),(2,.tmp 84),(3,.tmp 87)]) (qs:=[(0,[vi r46.1]),(1,[vs r46.2.1]),(2,[vi v23]),(3,[(vi (IntKind.wrap .i64 (v23 + r46.2.2)))])]) (cs:=[vi r46.1,vs r46.2.1,vi v23,(vi (IntKind.wrap .i64 (v23 + r46.2.2)))]) qgB qlw rfl ⟨rfl,rfl,rfl,⟨rfl,rfl,rfl,⟨rfl,rfl,rfl,⟨rfl,rfl,rfl,trivial⟩⟩⟩⟩ rfl) fun a E=>qa6 (R:=qbB) (xo:=[.tmp 88]) (xs:=([(Token.mk r46.1 r46.2.1 v23 (IntKind.wrap .i64 (v23 + r46.2.2)))]:List (Token))) E ok qeo qgB rfl ⟨⟨_,rfl,rfl,⟨rfl,r48,l49,r29,(InR.wrap _ _)⟩⟩,trivial⟩ rfl rfl rfl rfl fun c87 M88 a w E ok h89=>bd hF fun l90 e91 hF=>qb0 (R:=qbB) E ok 2 qbH qeo Tryz.underlying140 rfl h28 (qbf.ofRow h89 0 rfl ok) e91 ⟨_,qgB,rfl⟩ rfl rfl rfl rfl fun c92 M93 a w E ok h94=>aw E rfl fun a E=>qab<|mz E rfl rfl fun a E=>lw E (qaF rfl rfl) fun a E=>av E rfl fun a E=>wpList_nil<|qac ?_
  cases hF
  exact qao ⟨c92,M93,c84,M85,(ok.pk 3 [1,2] rfl (by decide)),E.keep [0,2,3,5,6],h94,(InR.wrap _ _),h86⟩
 have hF:=hJ
 refine cf E rfl hF (fun c59 hF=>?_) fun c59 hF=>?_
 ·refine sg<|mz E rfl rfl fun a E=>qa6 (R:=pB) (xo:=[.tmp 62]) (xs:=([v25]:List (Bool))) E ok qbh qdM rfl ⟨⟨_,rfl,rfl,qdi⟩,trivial⟩ rfl rfl rfl rfl fun c60 M61 a w E ok h62=>bd hF fun l63 e64 hF=>qb0 (R:=pB) E ok 1 mB qbh Tryz.underlying111 rfl h32 (qbf.ofRow h62 0 rfl ok) e64 ⟨_,qdM,rfl⟩ rfl rfl rfl rfl fun c65 M66 a w E ok h67=>aw E rfl fun a E=>qab<|mv E rfl fun a E=>lw E (qbx rfl) fun a E=>av E rfl fun a E=>wpList_nil ?_
  cases hF
  exact ⟨rfl,⟨c65,M66,(ok.pk 3 [1,2] rfl (by decide)),E.keep [0,2,3,5,6,7,8,9],h67⟩⟩
 refine sg<|mv E rfl fun a E=>lw E (qah rfl rfl) fun a E=>aw E rfl fun a E=>cg E rfl hF (fun c68 hF=>?_) fun c68 hF=>?_
 ·refine wp_skip ?_
  cases hF
  exact ⟨rfl,⟨c30,M31,ok,E.keep [0,2,3,5,6,7,8,9],h32⟩⟩
 refine sg<|mz E rfl rfl fun a E=>lv E ok (qb7 qbh h32 rfl) fun a E=>lw E (qbI rfl rfl) fun a E=>?_
 obtain ⟨x69,e70,hF⟩:=bnd hF
 obtain ⟨b71,o72,hp73,yy74⟩:=qbC qbh h32 e70 (P:=Tryz.prog) (X:=.tmp 70) (I:=.tmp 73) (kd:=.i64) (qaJ E rfl) (qaJ E rfl)
 refine lv E ok (yy74 _ _) fun a E=>?_
 obtain ⟨es75,hl76,rr77,hh78⟩:=qds h32 e70 hp73 (by decide)
 obtain rfl:=rr77
 refine lv E ok (qal qeP rfl (hh78 _ _ _ 0 rfl)) fun a E=>aw E rfl fun a E=>qab<|mz E rfl rfl fun a E=>lv E ok (qb7 qbh h32 rfl) fun a E=>lw E (qbI rfl rfl) fun a E=>?_
 obtain ⟨l79,e80,hF⟩:=bnd hF
 obtain ⟨c81,h82,yy83⟩:=ORow.slice qbh h32 e80 (P:=Tryz.prog) (X:=.tmp 76) (lov:=none) (hiv:=(some (.tmp 79))) (qaJ E rfl) (qey E rfl) (qey E ⟨_,rfl⟩)
 refine lv E ok (yy83 _ _) fun a E=>av E rfl fun a E=>wpList_nil ?_
 cases hF
 exact ⟨rfl,⟨c81,M31,ok,E.keep [0,2,3,5,6,7,8,9],h82⟩⟩
def qle (u:World) (m0:Mem) (S:Segs) (r:(List UInt8) × Int × Int) (a:Act) (w:World):Prop :=
 Ok u m0 S w ∧ a.defers = [] ∧ RVs Tryz.prog a w [.t 2 (.string (bs r.1)),.t 3 (.int .i64 r.2.1),.t 4 (.int .i64 r.2.2)] ∧ r.1.length ≤ LIMS ∧ InR .i64 r.2.1 ∧ InR .i64 r.2.2
theorem qk9 (N:Nat) (s_0:List UInt8) (ls_0:s_0.length ≤ LIMS) {r:(List UInt8) × Int × Int} (hF:qeH N s_0 = some r) (hG:Glob u) (ok:Ok u m0 S w) :
  Calls Tryz.prog 108 [vs s_0].toArray w fun e w'=>(e = .returned (.tuple [(.string (bs r.1)),(.int .i64 r.2.1),(.int .i64 r.2.2)].toArray) ∧ Ok u m0 S w') ∧ r.1.length ≤ LIMS ∧ InR .i64 r.2.1 ∧ InR .i64 r.2.2:=by
 unfold qeH at hF
 refine en (qle u m0 S) r Tryz.func108 rfl rfl rfl (by rintro a w ⟨ok,hd,hrv,h0,h1,h2⟩; exact qaT [.t 2 (.string (bs r.1)),.t 3 (.int .i64 r.2.1),.t 4 (.int .i64 r.2.2)] hd rfl hrv ⟨⟨rfl,ok⟩,h0,h1,h2⟩) fun fin a E=>sg<|av E rfl fun a E=>av E rfl fun a E=>aw E rfl fun a E=>wp_seq<|sg<|mv E rfl fun a E=>bd hF fun r1 e2 hF=>qaf E qoe rfl (qg2 N s_0 ls_0 e2 hG ok) rfl rfl ?_
 rintro _ w ⟨⟨rfl,ok⟩,r3⟩
 refine ⟨_,rfl,fun a E=>?_⟩
 refine aw E rfl fun a E=>sg<|mz E rfl rfl fun a E=>lw E (qbs Tryz.underlying9 rfl) fun a E=>lw E (qap rfl rfl) fun a E=>wn<|cf E rfl hF (fun c4 hF=>?_) fun c4 hF=>?_
 ·refine sg<|mv E rfl fun a E=>av E rfl fun a E=>av E rfl fun a E=>aw E rfl fun a E=>wp_ret<|qad ?_
  exact fin hF ⟨ok,E.d,⟨rv_t E rfl,rv_t E rfl,rv_t E rfl,trivial⟩,(show ([]:List UInt8).length ≤ LIMS by decide),r3,(ir 3)⟩
 refine wp_skip<|qaa<|sg<|qa4 E ok qkA rfl rfl fun b5 a w E ok=>wn<|wp_seq<|sg<|aw E rfl fun a E=>wp_block ?_
 obtain ⟨M13,ok,h14⟩:=qcY (e:=5) (k:=1) (R:=(pI .u8)) ok
 refine bd hF fun o15 hL hF=>qa7 _ (fun (s:Int × Builder) a w=>∃ c17 c19 M20,Ok u m0 (M20 :: [(b5,oc 68 [c17,c19])] :: S) w ∧ Env 32 a [(0,vs s_0),(6,vp b5),(7,vi s.1)] ∧ InR .i64 s.1 ∧ BAd b5 c17 ∧ ORow 5 1 (pI .u8) m0 c19 s.2.buf M20) (fun (b:Builder) e a w=>e = (.exit 0) ∧ ∃ c58 c60 M61,Ok u m0 (M61 :: [(b5,oc 68 [c58,c60])] :: S) w ∧ Env 32 a [(6,vp b5)] ∧ BAd b5 c58 ∧ ORow 5 1 (pI .u8) m0 c60 b.buf M61) ?_ ?_ N _ a w hL ⟨(Value.pointer none),(Value.slice none 0 0),M13,ok,E.keep [0,6,7],(ir 0),(.inl rfl),h14⟩
 rotate_left
 ·intro e a w _ hO
  obtain ⟨rfl,c52,c54,M55,ok,E,h53,h56⟩:=hO
  refine qa0<|qaa<|sg ?_
  replace ok:Ok u m0 ([(b5,oc 68 [c52,c54])] :: M55 :: S) w:=(ok.pk 2 [1,0] rfl (by decide))
  refine qaf E qkD rfl (qho Tryz.lays169 Tryz.Builder_Extra_169 h56 ok) rfl rfl ?_
  rintro _ w ⟨⟨rfl,ok⟩,l57⟩
  refine ⟨_,rfl,fun a E=>?_⟩
  refine av E rfl fun a E=>av E rfl fun a E=>aw E rfl fun a E=>wp_ret ?_
  exact fin hF ⟨ok,E.d,⟨rv_t E rfl,rv_t E rfl,rv_t E rfl,trivial⟩,l57,(ir 0),(ir 0)⟩
 rintro ⟨v22,v23⟩ a w r ⟨c25,c27,M28,ok,E,r24,h26,h29⟩ hF
 replace hF:qbA N s_0 v22 v23 = some r:=hF
 unfold qbA at hF
 refine wp_seq<|sg<|mz E rfl rfl fun a E=>lw E (qbs Tryz.underlying9 rfl) fun a E=>lw E (qap rfl rfl) fun a E=>wn<|cg E rfl hF (fun c30 hF=>?_) fun c30 hF=>?_
 ·refine wp_exit<|qaM ?_
  cases hF
  exact so (⟨rfl,⟨c25,c27,M28,ok,E.keep [6],h26,h29⟩⟩)
 refine wp_skip<|qaa<|wp_seq<|wp_block<|wp_seq<|sg<|mv E rfl fun a E=>mv E rfl fun a E=>bd hF fun c31 e32 hF=>lv E ok (qbb Tryz.underlying9 rfl rfl e32) fun a E=>lw E (qah rfl rfl) fun a E=>wn<|cg E rfl hF (fun c33 hF=>?_) fun c33 hF=>?_
 ·refine wp_skip<|qaa<|qab<|mz E rfl rfl fun a E=>bd hF fun c43 e44 hF=>lv E ok (qbb Tryz.underlying9 rfl rfl e44) fun a E=>?_
  obtain ⟨r45,e46,hF⟩:=bnd hF
  replace ok:Ok u m0 ([(b5,oc 68 [c25,c27])] :: M28 :: S) w:=(ok.pk 2 [1,0] rfl (by decide))
  refine qaf E qlr rfl (qbR N (c43.toNat:Int) (InR.byte c43) (Builder.mk () v23.buf) h26 h29 e46 hG ok) rfl rfl ?_
  rintro _ w ⟨c47,c49,M50,⟨rfl,ok⟩,h48,h51⟩
  refine ⟨_,rfl,fun a E=>?_⟩
  refine wpList_nil<|qac<|qaa<|qab<|mv E rfl fun a E=>lw E (qaE rfl rfl (InR.inc r24 (InR.len ls_0) c30)) fun a E=>av E rfl fun a E=>wpList_nil ?_
  cases hF
  exact qao ⟨c47,c49,M50,(ok.pk 2 [1,0] rfl (by decide)),E.keep [0,6,7],(InR.inc r24 (InR.len ls_0) c30),h48,h51⟩
 refine qab<|mv E rfl fun a E=>lw E (qaE rfl rfl (InR.inc r24 (InR.len ls_0) c30)) fun a E=>aw E rfl fun a E=>qab<|mv E rfl fun a E=>mv E rfl fun a E=>bd hF fun c34 e35 hF=>lv E ok (qbb Tryz.underlying9 rfl rfl e35) fun a E=>?_
 obtain ⟨r36,e37,hF⟩:=bnd hF
 replace ok:Ok u m0 ([(b5,oc 68 [c25,c27])] :: M28 :: S) w:=(ok.pk 2 [1,0] rfl (by decide))
 refine qaf E qlr rfl (qbR N (c34.toNat:Int) (InR.byte c34) (Builder.mk () v23.buf) h26 h29 e37 hG ok) rfl rfl ?_
 rintro _ w ⟨c38,c40,M41,⟨rfl,ok⟩,h39,h42⟩
 refine ⟨_,rfl,fun a E=>?_⟩
 refine wpList_nil<|qac<|qaa<|qab<|mv E rfl fun a E=>lw E (qaF rfl rfl) fun a E=>av E rfl fun a E=>wpList_nil ?_
 cases hF
 exact qao ⟨c38,c40,M41,(ok.pk 2 [1,0] rfl (by decide)),E.keep [0,6,7],(InR.wrap _ _),h39,h42⟩
end Go.Proofs.YthhieiabfpkaaaaGreatDoor
namespace Go.Proofs.YthhieiabfpkaaaaGreatDoor
open Go.X
structure Position where
 Offset:Int
 Line:Int
 Column:Int
structure Parser where
 s:List UInt8
 l:List (Token)
 next:Int
 names:List (List UInt8 × Bool)
 at_:Int
 e:Int
def qbl (_N:Nat) (x0:Parser):Option Int :=
 bif (x0.e != 0) then
  some 0
 else
  bif (decide (x0.next ≥ (x0.l.length:Int))) then
   some 0
  else
   (idx x0.l x0.next).bind fun x12 =>
   some x12.Kind
def qbw (N:Nat) (kind_1:Int) (x0:Parser):Option ((List UInt8) × Parser) :=
 (qbl N x0).bind fun r19 =>
 bif (r19 != kind_1) then
  none
 else
  (idx x0.l (IntKind.wrap .i64 ((IntKind.wrap .i64 (x0.next + 1)) - 1))).bind fun x23 =>
  some (x23.Text,(Parser.mk x0.s x0.l (IntKind.wrap .i64 (x0.next + 1)) x0.names x0.at_ x0.e))
def qcs (N:Nat) (x0:Parser):Option ((List UInt8) × Parser) :=
 (show Option Bool from
  (qbl N x0).bind fun r20 =>
  bif (r20 != 9) then
   some true
  else
   (idx x0.l x0.next).bind fun x25 =>
   (qc1 N x25.Text).bind fun r38 =>
   some (!r38)).bind fun o19 =>
 bif o19 then
  none
 else
  (qbw N 9 x0).bind fun r53 =>
  some (r53.1,r53.2)
def qdz (N:Nat) (x0:Parser):Option ((List UInt8) × Parser) :=
 (show Option Bool from
  (qbl N x0).bind fun r20 =>
  bif (r20 == 9) then
   (idx x0.l x0.next).bind fun x24 =>
   (qc1 N x24.Text).bind fun r37 =>
   bif r37 then
    (idx x0.l x0.next).bind fun x40 =>
    bif (!((mget x0.names x40.Text).getD false)) then
     some (decide ((x0.names.length:Int) ≥ 20))
    else
     some false
   else
    some false
  else
   some false).bind fun o19 =>
 (show Option Unit from
  bif o19 then
   none
  else
   some ()).bind fun _o125 =>
 (qcs N x0).bind fun r127 =>
 bif (r127.1 != ([])) then
  (mset r127.2.names r127.1 true).bind fun l141 =>
  some (r127.1,(Parser.mk r127.2.s r127.2.l r127.2.next l141 r127.2.at_ r127.2.e))
 else
  some (r127.1,r127.2)
def qaY (r_syntax_parser_message:Int → Bool → Parser → Option ((List (Part)) × Parser)) (r_syntax_parser_argument:Int → Bool → Parser → Option (Part × Parser)) (N:Nat) (depth_1:Int) (counting_2:Bool) (out_47:List (Part)) (x_48:Parser):Option (((List (Part)) × Parser) ⊕ (((Parser × (List (Part))) ⊕ ((List (Part)) × Parser)))) :=
 bif (x_48.e == 0) then
  (qbl N x_48).bind fun r63 =>
  bif (r63 == 1) then
   (qbw N 1 x_48).bind fun r67 =>
   (qeH N r67.1).bind fun r80 =>
   (app out_47 ([(Part.mk 1 r80.1 ([]) ([]) ([]) ([]))]:List (Part))).bind fun l88 =>
   some (.inl (l88,r67.2))
  else
   bif (r63 == 4) then
    (show Option Unit from
     bif (!counting_2) then
      none
     else
      some ()).bind fun _o94 =>
    (qbw N 4 x_48).bind fun r96 =>
    (app out_47 ([(Part.mk 10 ([]) ([]) ([]) ([]) ([]))]:List (Part))).bind fun l112 =>
    some (.inl (l112,r96.2))
   else
    bif (r63 == 7) then
     none
    else
     bif (r63 == 5) then
      none
     else
      bif (r63 == 2) then
       (r_syntax_parser_argument depth_1 counting_2 x_48).bind fun r120 =>
       (app out_47 ([r120.1]:List (Part))).bind fun l145 =>
       some (.inl (l145,r120.2))
      else
       some (.inr (.inr (out_47,x_48)))
 else
  some (.inr (.inl (x_48,out_47)))
def qbY (r_syntax_parser_message:Int → Bool → Parser → Option ((List (Part)) × Parser)) (r_syntax_parser_argument:Int → Bool → Parser → Option (Part × Parser)) (N:Nat) (depth_1:Int) (counting_2:Bool) (x0:Parser):Option ((List (Part)) × Parser) :=
 (iter (fun s=>qaY r_syntax_parser_message r_syntax_parser_argument N depth_1 counting_2 s.1 s.2) N ([],x0)).bind fun o33 =>
 Sum.elim (fun o33 =>
  some (o33.2,o33.1))
 (fun o33 =>
  some o33) o33
def qbT (r_syntax_parser_message:Int → Bool → Parser → Option ((List (Part)) × Parser)) (r_syntax_parser_argument:Int → Bool → Parser → Option (Part × Parser)) (N:Nat) (depth_1:Int) (counting_2:Bool) (x0:Parser):Option (Part × Parser) :=
 (qbw N 2 x0).bind fun r20 =>
 (qdz N r20.2).bind fun r33 =>
 (qbl N r33.2).bind fun r47 =>
 bif (r47 == 3) then
  (qbw N 3 r33.2).bind fun r51 =>
  some ((Part.mk 2 ([]) r33.1 ([]) ([]) ([])),r51.2)
 else
  (qbw N 8 r33.2).bind fun _r64 =>
  none
def qau:Nat → (Int → Bool → Parser → Option ((List (Part)) × Parser)) × (Int → Bool → Parser → Option (Part × Parser))
 | 0=>(fun _ _ _=>none,fun _ _ _=>none)
 | N + 1=>(qbY (qau N).1 (qau N).2 N,qbT (qau N).1 (qau N).2 N)
def qbN (N:Nat):Int → Bool → Parser → Option ((List (Part)) × Parser):=(qau N).1
def qdt (N:Nat):Int → Bool → Parser → Option (Part × Parser):=(qau N).2
def qgk (N:Nat) (s_0:List UInt8) (counting_1:Bool):Option ((List (Part)) × Position × Int) :=
 (qfa N s_0).bind fun r2 =>
 bif (r2.2.2 == 6) then
  some ([],(Position.mk 4000 0 0),r2.2.2)
 else
  (show Option (Int × Int × (List (Part))) from
   bif (r2.2.2 == 0) then
    (qbN N 0 counting_1 (Parser.mk s_0 r2.1 0 ([]:List (List UInt8 × Bool)) 0 0)).bind fun r21 =>
    (show Option Unit from
     bif (decide (r21.2.next < (r2.1.length:Int))) then
      none
     else
      some ()).bind fun _o35 =>
    some (r21.2.at_,r21.2.e,r21.1)
   else
    some (r2.2.1,r2.2.2,([]:List (Part)))).bind fun o10 =>
  bif (o10.2.1 != 0) then
   none
  else
   (qdg N o10.2.2).bind fun r43 =>
   bif (decide (r43 > 4000)) then
    some ([],(Position.mk 0 0 0),6)
   else
    some (o10.2.2,(Position.mk 0 0 0),0)
def qfb (N:Nat) (s_0:List UInt8):Option ((List (Part)) × Position × Int) :=
 (qgk N s_0 false).bind fun r2 =>
 some (r2.1,r2.2.1,r2.2.2)
end Go.Proofs.YthhieiabfpkaaaaGreatDoor
