/- Texts of this proof, put together by pack.py: what its declarations name. -/
import Derived.Test.YtllfckekodcdaaaGreatDoorPkKl6
import Derived.Test.YtllfckekodcdaaaGreatDoorCards
import Derived.Test.YtllfckekodcdaaaGreatDoorChecked
import Derived.Test.YtllfckekodcdaaaGreatDoorProg
import Derived.Test.YtllfckekodcdaaaGreatDoorRows
import Derived.Test.YtllfckekodcdaaaGreatDoorTie
set_option linter.unusedVariables false
namespace Go.Proofs.YtllfckekodcdaaaGreatDoor
open Go.X
abbrev Mp:=List (List UInt8 × Int)
def E0 (id src:List UInt8):Entry:=Entry.mk id src [] [] [] 0 [Field.mk [114,101,102] []]
def refT (f:File) (x:Found2):List UInt8:=f.Name ++ [58] ++ Lib.itoa (1 + (Lib.count (f.Text.take x.offset.toNat) [10]:Int))
def cms (e:Entry) (c:List UInt8):List (List UInt8):=if c = [] ∨ e.Comments.contains c = true then e.Comments else e.Comments ++ [c]
def fld (l:List Field) (kn:Bool) (r:List UInt8):List Field:=match l with | g :: gs=>Field.mk g.Name (g.Value ++ (bif kn then [32] else []) ++ r) :: gs | []=>[]
def ent (e:Entry) (x:Found2) (kn:Bool) (r:List UInt8):Entry:=Entry.mk e.ID e.Source e.Target (cms e x.comment) e.Flags e.State (fld e.Fields kn r)
def rnd (i:Int) (f:File) (x:Found2) (ix:Mp) (out:List Entry):(Mp × List Entry) ⊕ (List Entry × Place × Int) :=
 bif (mget ix x.id).isSome then
  match out[((mget ix x.id).getD 0).toNat]? with
  | none=>.inr ([],Place.mk 0 0,0)
  | some e=>if e.Source = x.source then .inl (ix,out.set ((mget ix x.id).getD 0).toNat (ent e x true (refT f x))) else .inr ([],Place.mk i x.offset,14)
 else .inl (mput ix x.id (out.length:Int),out ++ [ent (E0 x.id x.source) x false (refT f x)])
structure Rb (N:Nat) (f:File) (x:Found2) (ix:Mp) (out:List Entry):Prop where
 nm:f.Name.length ≤ 1000000
 tx:f.Text.length ≤ 1000000
 of0:0 ≤ x.offset
 of1:x.offset ≤ (f.Text.length:Int)
 ol:out.length ≤ 10000000
 il:ix.length ≤ 10000000
 iv:∀ p ∈ ix,0 ≤ p.2 ∧ p.2 < (out.length:Int)
 fl:∀ e ∈ out,∃ g,e.Fields = [g] ∧ g.Value.length ≤ 100000000000000
 cl:∀ e ∈ out,e.Comments.length < N ∧ e.Comments.length ≤ 10000000
 n0:0 < N
theorem qoh {ix:Mp} {k:List UInt8} {v:Int} (h:mget ix k = some v):∃ p ∈ ix,p.2 = v:=by
 unfold mget at h
 cases hf:ix.find? (fun p=>k == p.1) with
 | none=>rw [hf] at h; cases h
 | some p =>
  rw [hf] at h
  exact ⟨p,List.mem_of_find?_eq_some hf,Option.some.inj h⟩
theorem qmm {N:Nat} (l:List (List UInt8)) (c:List UInt8) (hN:l.length < N):qbN N l c = some (l.contains c):=by
 unfold qbN qcR
 have key:∀ (j:Nat) (M:Nat),j ≤ l.length → l.length - j < M → (∀ i,i < j → l[i]? ≠ some c) → ((iter (fun s=>qbm N l c s) M (j:Int)).bind fun o=>Sum.elim (fun _=>some (-1:Int)) (fun o=>some o) o).bind (fun r=>some (decide (r ≥ 0))) = some ((l.drop j).contains c):=by
  intro j M
  induction M generalizing j with
  | zero=>intro _ h; omega
  | succ M ih =>
   intro hj hM hn
   rw [iter]
   by_cases h:j < l.length
   ·have hb:qbm N l c (j:Int) = if c = l[j] then some (.inr (.inr (j:Int))) else some (.inl ((j:Int) + 1)):=by
     unfold qbm
     rw [decide_eq_true (by omega),cond_true,idx,if_pos (by omega),Int.toNat_natCast,List.getElem?_eq_getElem h,Option.bind_some]
     by_cases hc:c = l[j]
     ·rw [if_pos hc,beq_iff_eq.2 hc,cond_true]
     ·rw [if_neg hc,beq_eq_false_iff_ne.2 hc,cond_false]
    rw [hb,List.drop_eq_getElem_cons h,List.contains_cons]
    by_cases hc:c = l[j]
    ·rw [if_pos hc]
     simp [← hc]
    ·rw [if_neg hc,beq_eq_false_iff_ne.2 hc,Bool.false_or]
     exact ih (j + 1) (by omega) (by omega) (fun i hi=>by
      by_cases hij:i < j
      ·exact hn i hij
      ·obtain rfl:i = j:=by omega
       rw [List.getElem?_eq_getElem h]
       intro e; exact hc (Option.some.inj e).symm)
   ·have hb:qbm N l c (j:Int) = some (.inr (.inl ())):=by
     unfold qbm
     rw [decide_eq_false (by omega),cond_false]
    rw [hb,List.drop_eq_nil_of_le (by omega)]
    rfl
 have:=key 0 N (by omega) (by omega) (fun i hi=>by omega)
 simpa using this
theorem qpS:∀ u:Nat,(Lib.decDigits u).length ≤ u + 1:=by
 intro u
 induction u using Nat.strongRecOn with
 | _ u ih =>
  rw [Lib.decDigits]
  by_cases h:u < 10
  ·rw [dif_pos h]; simp
  ·rw [dif_neg h,List.length_append]
   have:=ih (u / 10) (by omega)
   simp; omega
theorem qgT {a b:List UInt8} (h:a.length + b.length ≤ 9000000000000000000):cat a b = some (a ++ b):=by unfold cat; rw [if_pos (by unfold LIMS; omega)]
theorem ql1 {α:Type} {a b:List α} (h:a.length + b.length ≤ 4000000000):app a b = some (a ++ b):=by unfold app; rw [if_pos (by unfold LIM; omega)]
theorem qk4 {N:Nat} {f:File} {x:Found2} (h1:f.Name.length ≤ 1000000) (h2:f.Text.length ≤ 1000000) (h3:0 ≤ x.offset) (h4:x.offset ≤ (f.Text.length:Int)) {β:Type} (K:List UInt8 → Option β) :
  ((cat f.Name ([58])).bind fun s175=>(slc f.Text 0 x.offset).bind fun s177=>(qef N s177 ([10])).bind fun r179=>(qed N (IntKind.wrap .i64 ((1:Int) + r179))).bind fun r182=>(cat s175 r182).bind K) = K (refT f x) ∧ (refT f x).length ≤ 10000000:=by
 have hc:Lib.count (f.Text.take x.offset.toNat) [10] ≤ (f.Text.take x.offset.toNat).length + 1:=Lib.count_le _ _
 have ht:(f.Text.take x.offset.toNat).length ≤ 1000000:=by rw [List.length_take]; omega
 have hi:Lib.itoa (1 + (Lib.count (f.Text.take x.offset.toNat) [10]:Int)) = Lib.decDigits (1 + Lib.count (f.Text.take x.offset.toNat) [10]):=by
  unfold Lib.itoa
  rw [if_neg (by omega)]
  congr 1 <;> omega
 have hl:=qpS (1 + Lib.count (f.Text.take x.offset.toNat) [10])
 constructor
 ·rw [qgT (by simp; omega),Option.bind_some,slc,if_pos ⟨by omega,h3,h4⟩,Option.bind_some]
  rw [show (f.Text.drop (0:Int).toNat).take (x.offset - 0).toNat = f.Text.take x.offset.toNat by simp]
  rw [qef,if_pos ⟨by decide,by omega⟩,Option.bind_some,qfW (qdi.2 ⟨by omega,by omega⟩),qed,hi,if_pos (by unfold LIMS; omega),Option.bind_some,qgT (by simp; omega),Option.bind_some]
  unfold refT
  rw [hi]
 ·unfold refT
  rw [hi]
  simp only [List.length_append,List.length_cons,List.length_nil]
  omega
end Go.Proofs.YtllfckekodcdaaaGreatDoor
namespace Go.Proofs.YtllfckekodcdaaaGreatDoor
open Go.X
theorem qiM {α:Type} {l:List α} {k:Nat} {x:α} (h:l[k]? = some x):idx l (k:Int) = some x:=by unfold idx; rw [if_pos (by omega),Int.toNat_natCast]; exact h
theorem fldK {β:Type} {g:Field} {r:List UInt8} (h:g.Value.length + r.length ≤ 1000000000000000) (K:List Field → Option β) :
  ((idx [g] 0).bind fun x405=>(cat x405.Value ([32])).bind fun s417=>(idx [g] 0).bind fun x419=>(setI [g] 0 (Field.mk x419.Name s417)).bind fun l427=>(idx l427 0).bind fun x433=>(cat x433.Value r).bind fun s445=>(idx l427 0).bind fun x447=>(setI l427 0 (Field.mk x447.Name s445)).bind K) = K (fld [g] true r):=by
 show (cat g.Value [32]).bind (fun s417=>(cat s417 r).bind fun s445=>K [Field.mk g.Name s445]) = _
 rw [qgT (by simp; omega),Option.bind_some,qgT (by simp; omega),Option.bind_some]
 rfl
theorem fldU {β:Type} {g:Field} {r:List UInt8} (h:g.Value.length + r.length ≤ 1000000000000000) (K:List Field → Option β) :
  ((idx [g] 0).bind fun x484=>(cat x484.Value r).bind fun s496=>(idx [g] 0).bind fun x498=>(setI [g] 0 (Field.mk x498.Name s496)).bind K) = K (fld [g] false r):=by
 show (cat g.Value r).bind (fun s496=>K [Field.mk g.Name s496]) = _
 rw [qgT (by omega),Option.bind_some]
 unfold fld
 simp only [cond_false,List.append_nil]
theorem qpQ {e:Entry} {c:List UInt8} (h:c = []):cms e c = e.Comments:=by unfold cms; rw [if_pos (.inl h)]
theorem qpa {e:Entry} {c:List UInt8} (h:e.Comments.contains c = true):cms e c = e.Comments:=by unfold cms; rw [if_pos (.inr h)]
theorem qo1 {e:Entry} {c:List UInt8} (h0:c ≠ []) (h:e.Comments.contains c = false):cms e c = e.Comments ++ [c]:=by unfold cms; rw [if_neg (by rw [h]; simp [h0])]
theorem qmL {N:Nat} {x:Found2} {ρ:Type} {r:List UInt8} {out:List Entry} {k:Nat} {e:Entry} {g:Field} {M:Mp} (kn:Bool) (hk:out[k]? = some e) (hf:e.Fields = [g]) (hg:g.Value.length + r.length ≤ 1000000000000000) (hc:e.Comments.length < N) (hc2:e.Comments.length ≤ 10000000)
    (F:Entry → List Entry → Option ((Mp × List Entry) ⊕ ρ)) (hF:∀ e out,e.Fields = [g] → F e out = some (.inl (M,out.set k (Entry.mk e.ID e.Source e.Target e.Comments e.Flags e.State (fld [g] kn r))))) :
    (bif x.comment != [] then
      (qbN N e.Comments x.comment).bind fun r293 =>
        bif !r293 then
          ((app e.Comments [x.comment]).bind fun l329=>some (out.set (k:Int).toNat (Entry.mk e.ID e.Source e.Target l329 e.Flags e.State e.Fields),())).bind fun o298=>(idx o298.1 (k:Int)).bind fun x379=>F x379 o298.1
        else F e out
     else F e out) = some (.inl (M,out.set k (ent e x kn r))):=by
  have hlt:=(List.getElem?_eq_some_iff.1 hk).1
  by_cases h0:x.comment = []
  · rw [h0,bne_self_eq_false,cond_false,hF _ _ hf]
    unfold ent
    rw [qpQ h0,hf]
  · rw [bne_iff_ne.2 h0,cond_true,qmm _ _ hc,Option.bind_some]
    cases hh:e.Comments.contains x.comment with
    | true =>
      rw [Bool.not_true,cond_false,hF _ _ hf]
      unfold ent
      rw [qpa hh,hf]
    | false =>
      rw [Bool.not_false,cond_true,ql1 (by simp; omega),Option.bind_some,Option.bind_some,Int.toNat_natCast]
      simp only
      rw [qiM (List.getElem?_set_self hlt),Option.bind_some,hF _ _ (show (Entry.mk e.ID e.Source e.Target (e.Comments ++ [x.comment]) e.Flags e.State e.Fields).Fields = [g] from hf),List.set_set]
      unfold ent
      rw [qo1 h0 hh,hf]
theorem qoj {N:Nat} {i:Int} {f:File} {x:Found2} {ix:Mp} {out:List Entry} (b:Rb N f x ix out):qdL N i f x ix out = some (rnd i f x ix out):=by
 unfold qdL
 obtain ⟨hr,hrl⟩:=qk4 (N:=N) b.nm b.tx b.of0 b.of1 (fun s:List UInt8=>(some s:Option (List UInt8)))
 refine ((qk4 (N:=N) b.nm b.tx b.of0 b.of1 _).1).trans ?_
 unfold rnd
 generalize refT f x = r at hrl ⊢
 cases hm:mget ix x.id with
 | none =>
  simp only [Option.isSome_none,Bool.not_false,cond_true,cond_false]
  rw [mset,if_pos (by have:=b.il; unfold LIM; omega),Option.bind_some,ql1 (by have:=b.ol; simp; omega),Option.bind_some]
  simp only [Option.bind_some]
  rw [qiM (k:=out.length) (x:=E0 x.id x.source) (by rw [List.getElem?_append_right (Nat.le_refl _),Nat.sub_self]; rfl),Option.bind_some]
  have hs:∀ e:Entry,(out ++ [E0 x.id x.source]).set out.length e = out ++ [e]:=fun e=>by rw [List.set_append_right _ _ (Nat.le_refl _),Nat.sub_self]; rfl
  have hsrc:((E0 x.id x.source).Source != x.source) = false:=bne_self_eq_false _
  rw [hsrc,cond_false,← hs (ent (E0 x.id x.source) x false r)]
  exact qmL (N:=N) (x:=x) (r:=r) (M:=mput ix x.id (out.length:Int)) (k:=out.length) (e:=E0 x.id x.source) (g:=Field.mk [114,101,102] []) (out:=out ++ [E0 x.id x.source]) false (by rw [List.getElem?_append_right (Nat.le_refl _),Nat.sub_self]; rfl) rfl (by simp; omega) b.n0 (Nat.zero_le _)
   (fun e o=>(idx e.Fields 0).bind fun x484=>(cat x484.Value r).bind fun s496=>(idx e.Fields 0).bind fun x498=>(setI e.Fields 0 (Field.mk x498.Name s496)).bind fun l=>some (.inl (mput ix x.id (out.length:Int),o.set ((out.length:Nat):Int).toNat (Entry.mk e.ID e.Source e.Target e.Comments e.Flags e.State l))))
   (fun e o hf=>by
    simp only [hf]
    rw [fldU (by simp; omega),Int.toNat_natCast])
 | some v =>
  obtain ⟨p,hp,hpv⟩:=qoh hm
  obtain ⟨hv0,hv1⟩:=b.iv p hp
  rw [hpv] at hv0 hv1
  obtain ⟨k,rfl⟩:∃ k:Nat,v = (k:Int):=⟨v.toNat,by omega⟩
  have hlt:k < out.length:=by omega
  obtain ⟨g,hf,hg⟩:=b.fl out[k] (List.getElem_mem hlt)
  obtain ⟨hc1,hc2⟩:=b.cl out[k] (List.getElem_mem hlt)
  have hk:out[k]? = some out[k]:=List.getElem?_eq_getElem hlt
  generalize out[k] = e at *
  simp only [Option.isSome_some,Bool.not_true,cond_true,cond_false,Option.bind_some,Option.getD_some,Int.toNat_natCast]
  rw [hk,qiM hk,Option.bind_some]
  simp only
  by_cases hs:e.Source = x.source
  ·rw [if_pos hs,show (e.Source != x.source) = false from by rw [hs]; exact bne_self_eq_false _,cond_false]
   exact qmL (N:=N) (x:=x) (r:=r) (M:=ix) (k:=k) (e:=e) (g:=g) (out:=out) true hk hf (by omega) hc1 hc2
    (fun e o=>(idx e.Fields 0).bind fun x405=>(cat x405.Value ([32])).bind fun s417=>(idx e.Fields 0).bind fun x419=>(setI e.Fields 0 (Field.mk x419.Name s417)).bind fun l427=>(idx l427 0).bind fun x433=>(cat x433.Value r).bind fun s445=>(idx l427 0).bind fun x447=>(setI l427 0 (Field.mk x447.Name s445)).bind fun l=>some (.inl (ix,o.set k (Entry.mk e.ID e.Source e.Target e.Comments e.Flags e.State l))))
    (fun e o hf=>by
     simp only [hf]
     rw [fldK (by omega)])
  ·rw [if_neg hs,bne_iff_ne.2 hs,cond_true]
structure Sb (N n K j:Nat) (ix:Mp) (out:List Entry):Prop where
 ol:out.length ≤ 1000000 + j
 il:ix.length ≤ 1000000 + j
 iv:∀ p ∈ ix,0 ≤ p.2 ∧ p.2 < (out.length:Int)
 fl:∀ e ∈ out,∃ g,e.Fields = [g] ∧ g.Value.length ≤ 1000000000000 + j * K
 cl:∀ e ∈ out,e.Comments.length + n < N + j ∧ e.Comments.length ≤ 1000000 + j
 fg:∀ e ∈ out,e.Flags = []
theorem qn1 (ix:Mp) (k:List UInt8) (v:Int):(mput ix k v).length ≤ ix.length + 1:=by
 induction ix with
 | nil=>simp [mput]
 | cons p ix ih =>
  rw [mput]
  split
  ·simp
  ·simp only [List.length_cons]; omega
theorem qom {ix:Mp} {k:List UInt8} {v:Int} {p:List UInt8 × Int} (h:p ∈ mput ix k v):p ∈ ix ∨ p = (k,v):=by
 induction ix with
 | nil=>simpa [mput] using h
 | cons q ix ih =>
  rw [mput] at h
  split at h
  ·rcases List.mem_cons.1 h with h | h
   ·exact .inr h
   ·exact .inl (List.mem_cons_of_mem _ h)
  ·rcases List.mem_cons.1 h with h | h
   ·exact .inl (h ▸ List.mem_cons_self ..)
   ·rcases ih h with h | h
    ·exact .inl (List.mem_cons_of_mem _ h)
    ·exact .inr h
theorem qmy (e:Entry) (c:List UInt8):(cms e c).length ≤ e.Comments.length + 1:=by
 unfold cms
 split
 ·omega
 ·simp
theorem Sb.rb {N n K j:Nat} {ix:Mp} {out:List Entry} {f:File} {x:Found2} (b:Sb N n K j ix out) (hj:j < n) (hn:n ≤ 1000000) (hN:n < N) (h1:f.Name.length ≤ 1000000) (h2:f.Text.length ≤ 1000000) (h3:0 ≤ x.offset) (h4:x.offset ≤ (f.Text.length:Int)) (hK:j * K ≤ 20000000000000):Rb N f x ix out where
 nm:=h1
 tx:=h2
 of0:=h3
 of1:=h4
 ol:=by have:=b.ol; omega
 il:=by have:=b.il; omega
 iv:=b.iv
 fl:=fun e he=>by obtain ⟨g,h,h5⟩:=b.fl e he; exact ⟨g,h,by omega⟩
 cl:=fun e he=>by obtain ⟨h,h5⟩:=b.cl e he; omega
 n0:=by omega
set_option maxRecDepth 100000 in
theorem Sb.step {N n K j:Nat} {ix ix':Mp} {out out':List Entry} {i:Int} {f:File} {x:Found2} (b:Sb N n K j ix out) (hj:j < n) (hn:n ≤ 1000000) (hN:n < N) (hr:(refT f x).length + 1 ≤ K) (h:rnd i f x ix out = .inl (ix',out')):Sb N n K (j + 1) ix' out':=by
 have hz:(j + 1) * K = j * K + K:=Nat.succ_mul j K
 unfold rnd at h
 generalize refT f x = r at hr h
 cases hm:mget ix x.id with
 | none =>
  rw [hm] at h
  simp only [Option.isSome_none,cond_false,Sum.inl.injEq,Prod.mk.injEq] at h
  obtain ⟨rfl,rfl⟩:=h
  have hc:=qmy (E0 x.id x.source) x.comment
  have hE:(E0 x.id x.source).Comments.length = 0:=rfl
  refine ⟨by have:=b.ol; simp; omega,by have:=b.il; have:=qn1 ix x.id (out.length:Int); omega,fun p hp=>?_,fun e he=>?_,fun e he=>?_,fun e he=>?_⟩
  ·rw [List.length_append,List.length_singleton]
   rcases qom hp with hp | rfl
   ·have:=b.iv p hp; omega
   ·simp only; omega
  ·rcases List.mem_append.1 he with he | he
   ·obtain ⟨g,h1,h2⟩:=b.fl e he; exact ⟨g,h1,by rw [hz]; omega⟩
   ·obtain rfl:=List.mem_singleton.1 he
    exact ⟨Field.mk [114,101,102] ([] ++ [] ++ r),rfl,by show ([] ++ [] ++ r:List UInt8).length ≤ _; rw [List.nil_append,List.nil_append,hz]; omega⟩
  ·rcases List.mem_append.1 he with he | he
   ·have:=b.cl e he; omega
   ·obtain rfl:=List.mem_singleton.1 he
    show (cms (E0 x.id x.source) x.comment).length + n < N + (j + 1) ∧ (cms (E0 x.id x.source) x.comment).length ≤ _
    omega
  ·rcases List.mem_append.1 he with he | he
   ·exact b.fg e he
   ·obtain rfl:=List.mem_singleton.1 he; rfl
 | some v =>
  rw [hm] at h
  simp only [Option.isSome_some,cond_true,Option.getD_some] at h
  cases hk:out[v.toNat]? with
  | none=>rw [hk] at h; simp at h
  | some e0 =>
   rw [hk] at h
   simp only at h
   split at h
   case isFalse=>simp at h
   simp only [Sum.inl.injEq,Prod.mk.injEq] at h
   obtain ⟨rfl,rfl⟩:=h
   have he0:=List.mem_of_getElem? hk
   have hc:=qmy e0 x.comment
   obtain ⟨g,hg1,hg2⟩:=b.fl e0 he0
   refine ⟨by have:=b.ol; rw [List.length_set]; omega,by have:=b.il; omega,fun p hp=>by rw [List.length_set]; exact b.iv p hp,fun e he=>?_,fun e he=>?_,fun e he=>?_⟩
   ·rcases List.mem_or_eq_of_mem_set he with he | rfl
    ·obtain ⟨g,h1,h2⟩:=b.fl e he; exact ⟨g,h1,by rw [hz]; omega⟩
    ·refine ⟨Field.mk g.Name (g.Value ++ [32] ++ r),?_,by show (g.Value ++ [32] ++ r).length ≤ _; rw [List.length_append,List.length_append,List.length_singleton,hz]; omega⟩
     show fld e0.Fields true r = _
     rw [hg1]; rfl
   ·rcases List.mem_or_eq_of_mem_set he with he | rfl
    ·have:=b.cl e he; omega
    ·have:=b.cl e0 he0
     show (cms e0 x.comment).length + n < N + (j + 1) ∧ (cms e0 x.comment).length ≤ _
     omega
   ·rcases List.mem_or_eq_of_mem_set he with he | rfl
    ·exact b.fg e he
    ·exact b.fg e0 he0
end Go.Proofs.YtllfckekodcdaaaGreatDoor
namespace Go.X
open Go.RowKit
section
variable {P:Program} {Q:Exit → Act → World → Prop} {n:Nat} {L:List (Nat × Value)} {a:Act} {u w:World} {m:Mem} {S:Segs} {ds:List Deferred}
theorem qo8 (E:Env n a L):a = { a with defers:=qg4 [] }:=by
 cases a with
 | mk t d =>
  have:=E.d
  simp only at this
  subst this
  rfl
theorem d_if {t:Bool} {c:Operand} {x y:Code} (E:Env n a L) (hc:ev L c = some (.bool t)) (h1:t = true → x.wp P Q { a with defers:=ds } w) (h2:t = false → y.wp P Q { a with defers:=ds } w):(Code.cond c x y).wp P Q { a with defers:=ds } w:=by
 refine wp_cond (t:=t) ((show ({ a with defers:=ds }:Act).eval c = a.eval c from by cases c <;> rfl).trans (E.ev hc)) ?_
 cases t
 ·exact h2 rfl
 ·exact h1 rfl
def MkS (Ds:List Nat):List (Nat × Obj):=Ds.map fun D=>(D,Obj.deferred (some []))
theorem Ok.mkK {Ds:List Nat} (ok:Ok u m (MkS Ds :: S) w):(∀ D ∈ Ds,w.heap[D]? = some (.deferred (some []))) ∧ Ds.Nodup:=by
 refine ⟨fun D hD=>(ok.own (D,.deferred (some [])) (by simp only [List.flatten_cons,List.mem_append]; exact .inl (List.mem_map.2 ⟨D,hD,rfl⟩))).1,?_⟩
 have:=ok.nd
 simp only [List.flatten_cons] at this
 have:=(List.pairwise_append.1 this).1
 exact (List.pairwise_map.1 this).imp fun h=>h
theorem Ok.takenM:∀ {Ds:List Nat} {w:World},Ok u m (MkS Ds :: S) w → Ok u m S (Go.X.taken w Ds)
 | [],_,ok=>ok.drop
 | D :: Ds,w,ok=>by
  have ok1:Ok u m ([(D,.deferred (some []))] :: MkS Ds :: S) w:=ok.perm (by simp [MkS])
  have hlt:=ok1.ids_lt (p:=(D,.deferred (some []))) (by simp)
  have ok2:Ok u m ([(D,.deferred none)] :: MkS Ds :: S) (w.putObj D (.deferred none)):=ok1.setObj rfl rfl rfl (World.putObj_heap_same hlt) fun k hk=>World.putObj_heap_other hk
  have ok3:=ok2.drop
  show Ok u m S (Go.X.taken (w.putObj D (.deferred none)) Ds)
  exact Ok.takenM ok3
theorem Ok.addMk {Ds:List Nat} {B D:Nat} (ok:Ok u m (MkS Ds :: S) w) (hm:∀ b o,m b = some o → b < B) (hS:∀ q ∈ (MkS Ds :: S).flatten,q.1 < B ∨ q.2.isCells = true) (hD:B ≤ D) (hd:w.heap[D]? = some (.deferred (some []))):Ok u m (MkS (D :: Ds) :: S) w:=by
 have hn:∀ q ∈ (MkS Ds :: S).flatten,D ≠ q.1:=fun q hq e=>by
  rcases hS q hq with h | h
  ·omega
  ·have:=(ok.own q hq).1
   rw [← e,hd] at this
   rw [← Option.some.inj this] at h
   cases h
 have ok1:Ok u m ([(D,.deferred (some []))] :: MkS Ds :: S) w:=by
  refine ⟨ok.os,ok.out,ok.tape,ok.ro,fun p hp=>?_,?_,ok.base⟩
  ·simp only [List.flatten_cons,List.cons_append,List.nil_append,List.mem_cons] at hp
   rcases hp with rfl | hp
   ·refine ⟨hd,?_⟩
    cases hb:m D with
    | none=>rfl
    | some o=>have:=hm D o hb; omega
   ·exact ok.own p (by simpa only [List.flatten_cons] using hp)
  ·rw [List.flatten_cons]
   exact List.pairwise_cons.2 ⟨fun q hq=>hn q hq,ok.nd⟩
 exact ok1.perm (by simp [MkS])
end
end Go.X
namespace Go.Proofs.YtllfckekodcdaaaGreatDoor
open Go.X
def qks:Rp Place:=fun _ cs x=>cs = [.int .i64 x.File,.int .i64 x.Offset] ∧ InR .i64 x.File ∧ InR .i64 x.Offset
def qbw:Ro (Entry):=fun m cs x M=>∃ c3 c4 c6 M3 M6,cs = [.string (bs x.ID),.string (bs x.Source),.string (bs x.Target),c3,c4,.int .i64 x.State,c6] ∧ M = M3 ++ M6 ∧ x.ID.length ≤ LIMS ∧ x.Source.length ≤ LIMS ∧ x.Target.length ≤ LIMS ∧ ORow 9 1 pS m c3 x.Comments M3 ∧ (pL 1 pS) m [c4] x.Flags ∧ InR .i64 x.State ∧ ORow 58 2 qet m c6 x.Fields M6
theorem ql9:MonoO qbw:=⟨fun hm h=>by
 obtain ⟨c3,c4,c6,M3,M6,e,eM,h0,h1,h2,h3,h4,h5,h6⟩:=h
 exact ⟨c3,c4,c6,M3,M6,e,eM,h0,h1,h2,h3.up mS hm,(mL mS).up hm h4,h5,h6.up qiF hm⟩⟩
theorem qlS:FrozO qbw qfD:=⟨fun h hle hf=>by
 obtain ⟨c3,c4,c6,M3,M6,e,eM,h0,h1,h2,h3,h4,h5,h6⟩:=h
 exact ⟨c3,c4,c6,e,h0,h1,h2,h3.froz mS hle (fun p hp=>hf p (by rw [eM]; exact List.mem_append_left _ hp)) (by decide),(mL mS).up hle h4,h5,h6.froz qiF hle (fun p hp=>hf p (by rw [eM]; exact List.mem_append_right _ hp)) (by decide)⟩⟩
theorem qmR {m m':Mem} {cs:List Value} {x:Entry} {M:List (Nat × Obj)} (hf:x.Flags = []) (h:qbw m cs x M):qbw m' cs x M:=by
 obtain ⟨c3,c4,c6,M3,M6,e,eM,h0,h1,h2,h3,h4,h5,h6⟩:=h
 refine ⟨c3,c4,c6,M3,M6,e,eM,h0,h1,h2,h3.chg (fun _ _ h=>h),?_,h5,h6.chg (fun _ _ h=>h)⟩
 rw [hf] at h4 ⊢
 exact qmV h4
theorem qlR {m:Mem} {cs:List Value} {x:Entry} {M:List (Nat × Obj)} (h:qbw m cs x M):∀ q ∈ M,q.2.isCells = true:=by
 obtain ⟨c3,c4,c6,M3,M6,e,eM,h0,h1,h2,h3,h4,h5,h6⟩:=h
 intro q hq
 rw [eM] at hq
 rcases List.mem_append.1 hq with hq | hq
 ·exact h3.isCells q hq
 ·exact h6.isCells q hq
theorem qjb {m:Mem} {v:Value} {xs:List Entry} {M:List (Nat × Obj)} (h:NRow 53 7 qbw m v xs M):∀ q ∈ M,q.2.isCells = true:=by
 obtain ⟨cs,ms,M1,h1,rfl,h3⟩:=h
 intro q hq
 rcases List.mem_append.1 hq with hq | hq
 ·exact h1.isCells q hq
 ·obtain ⟨M2,hM,hq⟩:=List.mem_flatten.1 hq
  obtain ⟨i,hi,rfl⟩:=List.mem_iff_getElem.1 hM
  obtain ⟨c,hc⟩:=qgW (l:=cs) (i:=i) (by rw [h3.l1,← h3.l2]; exact hi)
  obtain ⟨x,hx⟩:=qgW (l:=xs) (i:=i) (by rw [← h3.l2]; exact hi)
  exact qlR (h3.el hc hx (List.getElem?_eq_getElem hi)) q hq
theorem qpT {N:Nat} {i:Int} {f:File} {rs:List Found2} {ix:Mp} {out:List Entry} (h:qf9 N i f rs ix out = true) (K:Nat) :
  f.Name.length ≤ 1000000 ∧ f.Text.length ≤ 1000000 ∧ rs.length ≤ 1000000 ∧ rs.length < N ∧ (∀ x ∈ rs,x.offset ≤ (f.Text.length:Int)) ∧ Sb N rs.length K 0 ix out:=by
 unfold qf9 at h
 simp only [Bool.and_eq_true,decide_eq_true_eq,List.all_eq_true] at h
 obtain ⟨⟨h1,h2,h3,h4,h5,h6,h7,hN⟩,h8,h9,h10⟩:=h
 refine ⟨h3,h4,h5,hN,h8,by omega,by omega,fun p hp=>⟨(h9 p hp).1,(h9 p hp).2.1⟩,fun e he=>?_,fun e he=>?_,fun e he=>(h10 e he).1.2.2.2.1⟩
 ·obtain ⟨⟨g1,g2,g3,g4,g5⟩,g6⟩:=h10 e he
  match hf:e.Fields,g1 with
  | [g],_=>exact ⟨g,rfl,by have:=g6 g (by rw [hf]; exact List.mem_singleton.2 rfl); omega⟩
 ·obtain ⟨⟨g1,g2,g3,g4,g5⟩,g6⟩:=h10 e he
  omega
def qbC (u:World) (m0:Mem) (S:Segs) (r:(List (Entry)) × Place × Int) (a:Act) (w:World):Prop :=
 ∃ m1 v0 v1,m0.le m1 ∧ Ok u m1 S w ∧ a.defers = [] ∧ RVs Tryz.prog a w [.c 6 44 v0,.c 7 46 (.agg v1.toArray),.c 8 47 (.int .i64 r.2.2)] ∧ (pL 7 qfD) m1 [v0] r.1 ∧ qks m1 v1 r.2.1 ∧ InR .i64 r.2.2
set_option maxHeartbeats 4000000 in
set_option maxRecDepth 100000 in
theorem qj4 {u:World} {m0:Mem} {S:Segs} {w:World} (N:Nat) (vscript_0:Value) (script_0:List (State)) (hscript_0:(pL 2 qb3) m0 [vscript_0] script_0) (vcalls_1:Value) (calls_1:List (Call)) (hcalls_1:(pL 3 qdy) m0 [vcalls_1] calls_1) (vfiles_2:Value) (files_2:List (File)) (hfiles_2:(pL 2 qkp) m0 [vfiles_2] files_2) {r:(List (Entry)) × Place × Int} (hF:qgs N script_0 calls_1 files_2 = some r) (hG:Glob u) (hTb:Tab u) (ok:Ok u m0 S w) :
  Calls Tryz.prog 28 [vscript_0,vcalls_1,vfiles_2].toArray w fun e w'=>∃ m1 v0 v1,e = .returned (.tuple [v0,(.agg v1.toArray),(.int .i64 r.2.2)].toArray) ∧ m0.le m1 ∧ Ok u m1 S w' ∧ (pL 7 qfD) m1 [v0] r.1 ∧ qks m1 v1 r.2.1 ∧ InR .i64 r.2.2:=by
 have le_m0:=Mem.le.refl m0
 unfold qgs at hF
 have fin:∀ a w,qbC u m0 S r a w → bodyPostM Fence.wide 3 Tryz.prog Tryz.f28 (fun e w'=>∃ m1 v0 v1,e = .returned (.tuple [v0,(.agg v1.toArray),(.int .i64 r.2.2)].toArray) ∧ m0.le m1 ∧ Ok u m1 S w' ∧ (pL 7 qfD) m1 [v0] r.1 ∧ qks m1 v1 r.2.1 ∧ InR .i64 r.2.2) .ret a w:=by
  intro a w h
  obtain ⟨m1,v0,v1,hle,ok,hd,hrv,h0,h1,h2⟩:=h
  exact qpO (qaK [.c 6 44 v0,.c 7 46 (.agg v1.toArray),.c 8 47 (.int .i64 r.2.2)] hd rfl hrv ⟨m1,v0,v1,rfl,hle,ok,h0,h1,h2⟩)
 have finD:∀ a w Ds,(∀ D ∈ Ds,w.heap[D]? = some (.deferred (some []))) → Ds.Nodup → qbC u m0 S r a (taken w Ds) → bodyPostM Fence.wide 3 Tryz.prog Tryz.f28 (fun e w'=>∃ m1 v0 v1,e = .returned (.tuple [v0,(.agg v1.toArray),(.int .i64 r.2.2)].toArray) ∧ m0.le m1 ∧ Ok u m1 S w' ∧ (pL 7 qfD) m1 [v0] r.1 ∧ qks m1 v1 r.2.1 ∧ InR .i64 r.2.2) .ret { a with defers:=qg4 Ds } w:=by
  intro a w Ds hK hn h
  obtain ⟨m1,v0,v1,hle,ok,hd,hrv,h0,h1,h2⟩:=h
  exact qpd Ds hK hn (qaK [.c 6 44 v0,.c 7 46 (.agg v1.toArray),.c 8 47 (.int .i64 r.2.2)] hd rfl hrv ⟨m1,v0,v1,rfl,hle,ok,h0,h1,h2⟩)
 refine qpP Tryz.func28 rfl rfl rfl fun a E=>?_
 refine wp_seq ?_
 refine qae ?_
 refine qaZ E ok qmM rfl rfl fun b1 a w E ok=>?_
 refine qaZ E ok qfi rfl rfl fun b2 a w E ok=>?_
 refine qaZ E ok qoV rfl rfl fun b3 a w E ok=>?_
 refine wpList_nil ?_
 refine qad ?_
 refine wp_seq ?_
 refine wp_seq ?_
 refine qae ?_
 refine qag E ok (qaa rfl) rfl rfl fun a E=>?_
 obtain ⟨r4,e5,hF⟩:=bnd hF
 refine qaw E qoA rfl (qjM N _ script_0 hscript_0 e5 hG ok) rfl rfl ?_
 rintro _ w ⟨rfl,ok⟩
 refine ⟨_,rfl,fun a E=>?_⟩
 refine qag E ok (qbP rfl) rfl rfl fun a E=>?_
 refine qag E ok (qaa rfl) rfl rfl fun a E=>?_
 refine qas (!r4) (fun hc6=>?_) (fun hc6=>?_)
 ·replace hF:=qai hc6 hF
  replace E:=E.upd 27 hc6 rfl
  refine qbe E rfl rfl fun a E=>?_
  refine qbe E rfl rfl fun a E=>?_
  refine qbe E rfl rfl fun a E=>?_
  refine qag E ok (qak rfl rfl) rfl rfl fun a E=>?_
  refine qag E ok (qaa rfl) rfl rfl fun a E=>?_
  refine qbe E rfl rfl fun a E=>?_
  refine qbe E rfl rfl fun a E=>?_
  refine qbe E rfl rfl fun a E=>?_
  refine qag E ok (qak rfl rfl) rfl rfl fun a E=>?_
  refine wpList_nil ?_
  refine qad ?_
  refine c_if E rfl (fun _=>?_) (fun h=>by cases h)
  refine wp_seq ?_
  refine qae ?_
  refine qag E ok (qa6 (ps:=[]) (qs:=[]) (cs:=[(Value.int .i64 0),(Value.int .i64 0)]) qfi qeT rfl trivial rfl) rfl rfl fun a E=>?_
  refine qat E ok 2 rfl rfl rfl qgF rfl rfl ⟨rfl,trivial⟩ rfl rfl fun w ok=>?_
  refine qat E ok 1 rfl rfl rfl qgD rfl rfl ⟨rfl,rfl,trivial⟩ rfl rfl fun w ok=>?_
  refine qat E ok 0 rfl rfl rfl qg7 rfl rfl ⟨rfl,trivial⟩ rfl rfl fun w ok=>?_
  refine wpList_nil ?_
  refine qad ?_
  refine wp_ret ?_
  refine qan ?_
  have hret:qbC u m0 S ([],(Place.mk 0 0),1) a w:=⟨m0,(.slice none 0 0),[(Value.int .i64 0),(Value.int .i64 0)],le_m0,ok.drop.drop.drop,E.d,⟨qey E ok rfl qeJ (qaf.own 2 rfl rfl),rv_c (cs:=[(Value.int .i64 0),(Value.int .i64 0)]) E ok rfl qhc rfl (qaf.own 1 rfl rfl),qey E ok rfl qhh (qaf.own 0 rfl rfl),trivial⟩,qbA,⟨rfl,(show InR .i64 0 by decide),(show InR .i64 0 by decide)⟩,(show InR .i64 (1) by decide)⟩
  obtain rfl:=Option.some.inj hF
  exact fin _ _ hret
 replace hF:=qah hc6 hF
 replace E:=E.upd 27 hc6 rfl
 refine qag E ok (qaa rfl) rfl rfl fun a E=>?_
 obtain ⟨r7,e8,hF⟩:=bnd hF
 refine qaw E qoz rfl (qh7 N _ calls_1 hcalls_1 e8 hG ok) rfl rfl ?_
 rintro _ w ⟨rfl,ok⟩
 refine ⟨_,rfl,fun a E=>?_⟩
 refine qag E ok (qbP rfl) rfl rfl fun a E=>?_
 refine qag E ok (qam rfl rfl) rfl rfl fun a E=>?_
 refine qag E ok (qaa rfl) rfl rfl fun a E=>?_
 refine qas (!r7) (fun hc9=>?_) (fun hc9=>?_)
 ·replace hF:=qai hc9 hF
  replace E:=E.upd 32 hc9 rfl
  refine qbe E rfl rfl fun a E=>?_
  refine qbe E rfl rfl fun a E=>?_
  refine qbe E rfl rfl fun a E=>?_
  refine qag E ok (qak rfl rfl) rfl rfl fun a E=>?_
  refine wpList_nil ?_
  refine qad ?_
  refine c_if E rfl (fun _=>?_) (fun h=>by cases h)
  refine wp_seq ?_
  refine qae ?_
  refine qag E ok (qa6 (ps:=[]) (qs:=[]) (cs:=[(Value.int .i64 0),(Value.int .i64 0)]) qfi qeT rfl trivial rfl) rfl rfl fun a E=>?_
  refine qat E ok 2 rfl rfl rfl qgF rfl rfl ⟨rfl,trivial⟩ rfl rfl fun w ok=>?_
  refine qat E ok 1 rfl rfl rfl qgD rfl rfl ⟨rfl,rfl,trivial⟩ rfl rfl fun w ok=>?_
  refine qat E ok 0 rfl rfl rfl qg7 rfl rfl ⟨rfl,trivial⟩ rfl rfl fun w ok=>?_
  refine wpList_nil ?_
  refine qad ?_
  refine wp_ret ?_
  refine qan ?_
  have hret:qbC u m0 S ([],(Place.mk 0 0),1) a w:=⟨m0,(.slice none 0 0),[(Value.int .i64 0),(Value.int .i64 0)],le_m0,ok.drop.drop.drop,E.d,⟨qey E ok rfl qeJ (qaf.own 2 rfl rfl),rv_c (cs:=[(Value.int .i64 0),(Value.int .i64 0)]) E ok rfl qhc rfl (qaf.own 1 rfl rfl),qey E ok rfl qhh (qaf.own 0 rfl rfl),trivial⟩,qbA,⟨rfl,(show InR .i64 0 by decide),(show InR .i64 0 by decide)⟩,(show InR .i64 (1) by decide)⟩
  obtain rfl:=Option.some.inj hF
  exact fin _ _ hret
 replace hF:=qah hc9 hF
 replace E:=E.upd 32 hc9 rfl
 refine qag E ok (qaa rfl) rfl rfl fun a E=>?_
 obtain ⟨r10,e11,hF⟩:=bnd hF
 refine qaw E qqe rfl (qkN N _ files_2 hfiles_2 e11 hG ok) rfl rfl ?_
 rintro _ w ⟨rfl,ok⟩
 refine ⟨_,rfl,fun a E=>?_⟩
 refine qag E ok (qbP rfl) rfl rfl fun a E=>?_
 refine qag E ok (qam rfl rfl) rfl rfl fun a E=>?_
 refine wpList_nil ?_
 refine qad ?_
 refine c_if E rfl (fun hc12=>?_) (fun hc12=>?_)
 ·replace hF:=qai hc12 hF
  refine wp_seq ?_
  refine qae ?_
  refine qag E ok (qa6 (ps:=[]) (qs:=[]) (cs:=[(Value.int .i64 0),(Value.int .i64 0)]) qfi qeT rfl trivial rfl) rfl rfl fun a E=>?_
  refine qat E ok 2 rfl rfl rfl qgF rfl rfl ⟨rfl,trivial⟩ rfl rfl fun w ok=>?_
  refine qat E ok 1 rfl rfl rfl qgD rfl rfl ⟨rfl,rfl,trivial⟩ rfl rfl fun w ok=>?_
  refine qat E ok 0 rfl rfl rfl qg7 rfl rfl ⟨rfl,trivial⟩ rfl rfl fun w ok=>?_
  refine wpList_nil ?_
  refine qad ?_
  refine wp_ret ?_
  refine qan ?_
  have hret:qbC u m0 S ([],(Place.mk 0 0),1) a w:=⟨m0,(.slice none 0 0),[(Value.int .i64 0),(Value.int .i64 0)],le_m0,ok.drop.drop.drop,E.d,⟨qey E ok rfl qeJ (qaf.own 2 rfl rfl),rv_c (cs:=[(Value.int .i64 0),(Value.int .i64 0)]) E ok rfl qhc rfl (qaf.own 1 rfl rfl),qey E ok rfl qhh (qaf.own 0 rfl rfl),trivial⟩,qbA,⟨rfl,(show InR .i64 0 by decide),(show InR .i64 0 by decide)⟩,(show InR .i64 (1) by decide)⟩
  obtain rfl:=Option.some.inj hF
  exact fin _ _ hret
 replace hF:=qah hc12 hF
 refine wp_skip ?_
 refine qad ?_
 refine wp_seq ?_
 refine wp_seq ?_
 refine qae ?_
 refine qag E ok (qaa rfl) rfl rfl fun a E=>?_
 refine qag E ok (qaG qig hfiles_2 rfl) rfl rfl fun a E=>?_
 refine qag E ok (qb4 rfl rfl) rfl rfl fun a E=>?_
 refine wpList_nil ?_
 refine qad ?_
 refine c_if E rfl (fun hc13=>?_) (fun hc13=>?_)
 ·replace hF:=qai hc13 hF
  refine wp_seq ?_
  refine qae ?_
  refine qag E ok (qa6 (ps:=[]) (qs:=[]) (cs:=[(Value.int .i64 0),(Value.int .i64 0)]) qfi qeT rfl trivial rfl) rfl rfl fun a E=>?_
  refine qat E ok 2 rfl rfl rfl qgF rfl rfl ⟨rfl,trivial⟩ rfl rfl fun w ok=>?_
  refine qat E ok 1 rfl rfl rfl qgD rfl rfl ⟨rfl,rfl,trivial⟩ rfl rfl fun w ok=>?_
  refine qat E ok 0 rfl rfl rfl qg7 rfl rfl ⟨rfl,trivial⟩ rfl rfl fun w ok=>?_
  refine wpList_nil ?_
  refine qad ?_
  refine wp_ret ?_
  refine qan ?_
  have hret:qbC u m0 S ([],(Place.mk 0 0),6) a w:=⟨m0,(.slice none 0 0),[(Value.int .i64 0),(Value.int .i64 0)],le_m0,ok.drop.drop.drop,E.d,⟨qey E ok rfl qeJ (qaf.own 2 rfl rfl),rv_c (cs:=[(Value.int .i64 0),(Value.int .i64 0)]) E ok rfl qhc rfl (qaf.own 1 rfl rfl),qey E ok rfl qhh (qaf.own 0 rfl rfl),trivial⟩,qbA,⟨rfl,(show InR .i64 0 by decide),(show InR .i64 0 by decide)⟩,(show InR .i64 (6) by decide)⟩
  obtain rfl:=Option.some.inj hF
  exact fin _ _ hret
 replace hF:=qah hc13 hF
 refine wp_skip ?_
 refine qad ?_
 refine wp_seq ?_
 refine qae ?_
 refine qag E ok (qab rfl) rfl rfl fun a E=>?_
 refine wpList_nil ?_
 refine qad ?_
 refine wp_seq ?_
 refine wp_seq ?_
 refine qae ?_
 refine qag E ok (qaa rfl) rfl rfl fun a E=>?_
 refine qag E ok (qaG qig hfiles_2 rfl) rfl rfl fun a E=>?_
 refine qag E ok (qaa rfl) rfl rfl fun a E=>?_
 refine wpList_nil ?_
 refine qad ?_
 refine wp_block ?_
 obtain ⟨M19,ok,h20⟩:=qdp (e:=26) (k:=1) (R:=(pL 3 qbi)) ok
 obtain ⟨o21,hL,hF⟩:=bnd hF
 refine qaR _ (fun (s:(List (List (Token))) × Int) a w=>∃ m22 c23 M24,m0.le m22 ∧ Ok u m22 (M24 :: [(b3,Obj.cells [(Value.int .i64 0)].toArray 47 (0,0))] :: [(b2,Obj.cells [(Value.int .i64 0),(Value.int .i64 0)].toArray 46 (0,0))] :: [(b1,Obj.cells [(Value.slice none 0 0)].toArray 44 (0,0))] :: S) w ∧ Env 187 a [(0,vscript_0),(1,vcalls_1),(2,vfiles_2),(6,(Value.pointer (some ⟨b1,0,none⟩))),(7,(Value.pointer (some ⟨b2,0,none⟩))),(8,(Value.pointer (some ⟨b3,0,none⟩))),(9,c23),(42,vfiles_2),(43,(Value.int .i64 (files_2.length:Int))),(44,(Value.int .i64 s.2))] ∧ ORow 26 1 (pL 3 qbi) m22 c23 s.1 M24 ∧ InR .i64 s.2) (fun (b:(((List (List (Token)))) ⊕ ((List (Entry)) × Place × Int))) e a w=>(Sum.elim (fun b809=>e = (.exit 0) ∧ ∃ m810 c811 M812,m0.le m810 ∧ Ok u m810 (M812 :: [(b3,Obj.cells [(Value.int .i64 0)].toArray 47 (0,0))] :: [(b2,Obj.cells [(Value.int .i64 0),(Value.int .i64 0)].toArray 46 (0,0))] :: [(b1,Obj.cells [(Value.slice none 0 0)].toArray 44 (0,0))] :: S) w ∧ Env 187 a [(1,vcalls_1),(2,vfiles_2),(6,(Value.pointer (some ⟨b1,0,none⟩))),(7,(Value.pointer (some ⟨b2,0,none⟩))),(8,(Value.pointer (some ⟨b3,0,none⟩))),(9,c811)] ∧ ORow 26 1 (pL 3 qbi) m810 c811 b809 M812) (fun b814=>e = .ret ∧ qbC u m0 S b814 a w)) b) ?_ ?_ N _ a w hL ⟨m0,(Value.slice none 0 0),M19,Mem.le.refl _,ok,E.keep [0,1,2,6,7,8,9,42,43,44],h20,(show InR .i64 (0) by decide)⟩
 ·as_aux_lemma =>
   rintro ⟨all_27,x_28⟩ a w r ⟨m29,c30,M31,hle,ok,E,h32,r33⟩ hF
   replace hF:qfO N script_0 files_2 all_27 x_28 = some r:=hF
   unfold qfO at hF
   have le_m0:=le_m0.trans hle
   have hscript_0:=(mL qa2).up hle hscript_0
   have hcalls_1:=(mL qep).up hle hcalls_1
   have hfiles_2:=(mL qgC).up hle hfiles_2
   refine wp_seq ?_
   refine qae ?_
   refine qag E ok (qaB rfl rfl) rfl rfl fun a E=>?_
   refine wpList_nil ?_
   refine qad ?_
   refine wp_seq ?_
   refine c_if E rfl (fun hc34=>?_) (fun hc34=>?_)
   rotate_left
   ·replace hF:=qah hc34 hF
    refine wp_exit ?_
    refine qaD ?_
    obtain rfl:=Option.some.inj hF
    exact qaq (by nofun) (sl ⟨rfl,⟨m29,c30,M31,le_m0,ok,E.keep [1,2,6,7,8,9],h32⟩⟩)
   replace hF:=qai hc34 hF
   refine wp_skip ?_
   refine qad ?_
   refine wp_seq ?_
   refine wp_block ?_
   refine wp_seq ?_
   refine qae ?_
   refine qag E ok (qaa rfl) rfl rfl fun a E=>?_
   obtain ⟨x35,e36,hF⟩:=bnd hF
   obtain ⟨b37,o38,es39,hl40,rr41,at42,yy43⟩:=qaI qig hfiles_2 e36 (P:=Tryz.prog) (X:=.tmp 42) (I:=.tmp 44) (kd:=.i64) (qao E rfl) (qao E rfl)
   obtain ⟨rfl,l44,l45⟩:=rr41
   refine qag E ok (yy43 _ _) rfl rfl fun a E=>?_
   refine qag E ok (qax (cs:=[(Value.string (bs x35.Name)),(Value.string (bs x35.Text))]) qlD rfl rfl (qaf.ro at42)) rfl rfl fun a E=>?_
   refine qaZ E ok qiI rfl rfl fun b46 a w E ok=>?_
   refine qag E ok (qab rfl) rfl rfl fun a E=>?_
   refine qat E ok 0 rfl rfl rfl qlX rfl rfl ⟨rfl,rfl,trivial⟩ rfl rfl fun w ok=>?_
   refine wpList_nil ?_
   refine qad ?_
   refine wp_seq ?_
   refine qae ?_
   refine qag E ok (qaa rfl) rfl rfl fun a E=>?_
   refine qag E ok (qac qmJ rfl) rfl rfl fun a E=>?_
   refine qag E ok (qaj qav rfl (qaf.own 0 rfl rfl)) rfl rfl fun a E=>?_
   obtain ⟨r47,e48,hF⟩:=bnd hF
   refine qaw E qqy rfl (qlu N _ script_0 hscript_0 x35.Text l45 e48 hG ok) rfl rfl ?_
   rintro _ w ⟨m49,c50,rfl,hle,ok,h51,r52,r53⟩
   have le_m0:=le_m0.trans hle
   have hscript_0:=(mL qa2).up hle hscript_0
   have hcalls_1:=(mL qep).up hle hcalls_1
   have hfiles_2:=(mL qgC).up hle hfiles_2
   have h32:=ORow.up (mL qde) hle h32
   have at42:=At.up hle at42
   refine ⟨_,rfl,fun a E=>?_⟩
   refine qag E ok (qaa rfl) rfl rfl fun a E=>?_
   refine qag E ok (qaA rfl rfl) rfl rfl fun a E=>?_
   refine qag E ok (qaA rfl rfl) rfl rfl fun a E=>?_
   refine qag E ok (qaA rfl rfl) rfl rfl fun a E=>?_
   refine qag E ok (qab rfl) rfl rfl fun a E=>?_
   refine qag E ok (qab rfl) rfl rfl fun a E=>?_
   refine qag E ok (qab rfl) rfl rfl fun a E=>?_
   refine wpList_nil ?_
   refine qad ?_
   refine wp_seq ?_
   refine wp_seq ?_
   refine qae ?_
   refine qag E ok (qaa rfl) rfl rfl fun a E=>?_
   refine qag E ok (qdm rfl rfl) rfl rfl fun a E=>?_
   refine wpList_nil ?_
   refine qad ?_
   refine c_if E rfl (fun hc54=>?_) (fun hc54=>?_)
   ·replace hF:=qai hc54 hF
    refine wp_seq ?_
    refine qae ?_
    refine qag E ok (qaa rfl) rfl rfl fun a E=>?_
    refine qag E ok (qaa rfl) rfl rfl fun a E=>?_
    refine qag E ok (qa6 (ps:=[(0,.tmp 59),(1,.tmp 60)]) (qs:=[(0,[(Value.int .i64 x_28)]),(1,[(Value.int .i64 r47.2.1)])]) (cs:=[(Value.int .i64 x_28),(Value.int .i64 r47.2.1)]) qfi qeT rfl ⟨rfl,rfl,rfl,⟨rfl,rfl,rfl,trivial⟩⟩ rfl) rfl rfl fun a E=>?_
    refine qag E ok (qaa rfl) rfl rfl fun a E=>?_
    refine qat E ok 4 rfl rfl rfl qgF rfl rfl ⟨rfl,trivial⟩ rfl rfl fun w ok=>?_
    refine qat E ok 3 rfl rfl rfl qgD rfl rfl ⟨rfl,rfl,trivial⟩ rfl rfl fun w ok=>?_
    refine qat E ok 2 rfl rfl rfl qg7 rfl rfl ⟨rfl,trivial⟩ rfl rfl fun w ok=>?_
    refine wpList_nil ?_
    refine qad ?_
    refine wp_ret ?_
    refine qan ?_
    refine qap ?_
    refine qan ?_
    have hret:qbC u m0 S ([],(Place.mk x_28 r47.2.1),r47.2.2) a w:=⟨m49,(.slice none 0 0),[(Value.int .i64 x_28),(Value.int .i64 r47.2.1)],le_m0,ok.drop.drop.drop.drop.drop,E.d,⟨qey E ok rfl qeJ (qaf.own 4 rfl rfl),rv_c (cs:=[(Value.int .i64 x_28),(Value.int .i64 r47.2.1)]) E ok rfl qhc rfl (qaf.own 3 rfl rfl),qey E ok rfl qhh (qaf.own 2 rfl rfl),trivial⟩,qbA,⟨rfl,r33,r52⟩,r53⟩
    obtain rfl:=Option.some.inj hF
    exact qaq (by nofun) (sr ⟨rfl,hret⟩)
   replace hF:=qah hc54 hF
   refine wp_skip ?_
   refine qad ?_
   refine qae ?_
   refine qag E ok (qaa rfl) rfl rfl fun a E=>?_
   refine qag E ok (qaa rfl) rfl rfl fun a E=>?_
   refine qbf (R:=(pL 3 qbi)) (xo:=[.tmp 64]) (xs:=([r47.1]:List (List (Token)))) E ok qcg qg0 rfl ⟨⟨_,(qgg h51),rfl,h51⟩,trivial⟩ rfl rfl rfl rfl fun c55 M56 a w E ok h57=>?_
   obtain ⟨l58,e59,hF⟩:=bnd hF
   refine qcI (R:=(pL 3 qbi)) E ok 2 (mL qde) qcg Tryz.underlying129 rfl h32 (qbo.ofRow h57 0 rfl ok) e59 ⟨_,qg0,rfl⟩ rfl rfl rfl rfl fun c60 M61 a w E ok h62=>?_
   refine qag E ok (qab rfl) rfl rfl fun a E=>?_
   refine wpList_nil ?_
   refine qar ?_
   refine qad ?_
   refine qae ?_
   refine qag E ok (qaC rfl rfl (InR.inc r33 (qau hfiles_2) hc34)) rfl rfl fun a E=>?_
   refine qag E ok (qaa rfl) rfl rfl fun a E=>?_
   refine wpList_nil ?_
   obtain rfl:=Option.some.inj hF
   exact qay ⟨m49,c60,M61,le_m0,(ok.pk 6 [2,3,4,5] rfl (by decide)),E.keep [0,1,2,6,7,8,9,42,43,44],h62,(InR.inc r33 (qau hfiles_2) hc34)⟩
 intro e a w _ hO
 rcases o21 with o21 | o21
 rotate_left
 ·replace hF:=qba hF
  obtain ⟨rfl,hret⟩:=hO
  refine qap ?_
  refine qan ?_
  obtain rfl:=Option.some.inj hF
  exact fin _ _ hret
 replace hF:=qa9 hF
 obtain ⟨rfl,m63,c64,M65,hle,ok,E,h66⟩:=hO
 have le_m0:=le_m0.trans hle
 have hscript_0:=(mL qa2).up hle hscript_0
 have hcalls_1:=(mL qep).up hle hcalls_1
 have hfiles_2:=(mL qgC).up hle hfiles_2
 refine qaT ?_
 refine qad ?_
 refine wp_seq ?_
 refine qae ?_
 refine qaZ E ok qmM rfl rfl fun b67 a w E ok=>?_
 refine wpList_nil ?_
 refine qad ?_
 refine wp_seq ?_
 refine qae ?_
 refine qg8 kS (oneV (pI .i64)) E ok rfl rfl fun c68 M69 a w E ok h70=>?_
 refine qaZ E ok qnY rfl rfl fun b71 a w E ok=>?_
 refine qat E ok 0 rfl rfl rfl qo9 (OMap.cells h70) rfl ⟨(OMap.one h70),trivial⟩ rfl rfl fun w ok=>?_
 refine wpList_nil ?_
 refine qad ?_
 refine wp_seq ?_
 refine wp_seq ?_
 refine qae ?_
 refine qag E ok (qaa rfl) rfl rfl fun a E=>?_
 refine qag E ok (qaG qig hfiles_2 rfl) rfl rfl fun a E=>?_
 refine qag E ok (qaa rfl) rfl rfl fun a E=>?_
 refine wpList_nil ?_
 refine qad ?_
 refine wp_block ?_
 obtain ⟨M80,ok,h81⟩:=qmP (e:=53) (k:=7) (R:=qbw) ok
 obtain ⟨o82,hL,hF⟩:=bnd hF
 refine qaR _ (fun (s:Int × (List (List UInt8 × Int)) × (List (Entry))) a w=>∃ Ds ad m83 c85 M86 c88 M89,a = { ad with defers:=qg4 Ds } ∧ m63.le m83 ∧ Ok u m83 (M89 :: [(b71,Obj.cells [c85].toArray 130 (0,0))] :: M86 :: [(b67,Obj.cells [c88].toArray 44 (0,0))] :: M65 :: [(b3,Obj.cells [(Value.int .i64 0)].toArray 47 (0,0))] :: [(b2,Obj.cells [(Value.int .i64 0),(Value.int .i64 0)].toArray 46 (0,0))] :: [(b1,Obj.cells [(Value.slice none 0 0)].toArray 44 (0,0))] :: MkS Ds :: S) w ∧ Env 187 ad [(1,vcalls_1),(6,(Value.pointer (some ⟨b1,0,none⟩))),(7,(Value.pointer (some ⟨b2,0,none⟩))),(8,(Value.pointer (some ⟨b3,0,none⟩))),(9,c64),(15,(Value.pointer (some ⟨b67,0,none⟩))),(16,(Value.pointer (some ⟨b71,0,none⟩))),(69,vfiles_2),(70,(Value.int .i64 (files_2.length:Int))),(71,(Value.int .i64 s.1))] ∧ InR .i64 s.1 ∧ OMap kS (oneV (pI .i64)) m83 c85 s.2.1 M86 ∧ NRow 53 7 qbw m83 c88 s.2.2 M89) (fun (b:(((List (Entry)) × (List (List UInt8 × Int))) ⊕ ((List (Entry)) × Place × Int))) e a w=>(Sum.elim (fun b800=>e = (.exit 2) ∧ ∃ Ds ad m801 c802 M803 c805 M806,a = { ad with defers:=qg4 Ds } ∧ m63.le m801 ∧ Ok u m801 (M803 :: [(b71,Obj.cells [c805].toArray 130 (0,0))] :: M806 :: [(b67,Obj.cells [c802].toArray 44 (0,0))] :: M65 :: [(b3,Obj.cells [(Value.int .i64 0)].toArray 47 (0,0))] :: [(b2,Obj.cells [(Value.int .i64 0),(Value.int .i64 0)].toArray 46 (0,0))] :: [(b1,Obj.cells [(Value.slice none 0 0)].toArray 44 (0,0))] :: MkS Ds :: S) w ∧ Env 187 ad [(6,(Value.pointer (some ⟨b1,0,none⟩))),(7,(Value.pointer (some ⟨b2,0,none⟩))),(8,(Value.pointer (some ⟨b3,0,none⟩))),(15,(Value.pointer (some ⟨b67,0,none⟩)))] ∧ NRow 53 7 qbw m801 c802 b800.1 M803 ∧ OMap kS (oneV (pI .i64)) m801 c805 b800.2 M806) (fun b808=>e = .ret ∧ ∃ Ds ad,a = { ad with defers:=qg4 Ds } ∧ (∀ D ∈ Ds,w.heap[D]? = some (.deferred (some []))) ∧ Ds.Nodup ∧ qbC u m0 S b808 ad (taken w Ds))) b) ?_ ?_ N _ a w hL ⟨[],a,m63,c68,M69,(Value.slice none 0 0),M80,qo8 E,Mem.le.refl _,(ok.addnil.pk 9 [1,2,3,4,5,6,7,8,0] rfl (by decide)),E.keep [1,6,7,8,9,15,16,69,70,71],(show InR .i64 (0) by decide),h70,h81⟩
 rotate_left
 ·intro e a w _ hO
  rcases o82 with o82 | o82
  rotate_left
  ·replace hF:=qba hF
   obtain ⟨rfl,Ds,ad,rfl,hK,hnD,hret⟩:=hO
   refine qap ?_
   refine qan ?_
   obtain rfl:=Option.some.inj hF
   exact finD _ _ _ hK hnD hret
  replace hF:=qa9 hF
  obtain ⟨rfl,Ds,ad,m790,c791,M792,c794,M795,rfl,hle,ok,E,h793,h796⟩:=hO
  have le_m0:=le_m0.trans hle
  have hscript_0:=(mL qa2).up hle hscript_0
  have hcalls_1:=(mL qep).up hle hcalls_1
  have hfiles_2:=(mL qgC).up hle hfiles_2
  refine qaT ?_
  refine qad ?_
  refine wp_seq ?_
  refine wp_seq ?_
  refine qiZ ?_
  refine qag E ok (qaj qeJ rfl (qaf.own 3 rfl rfl)) rfl rfl fun a E=>?_
  refine qag E ok (qjz qgy h793 rfl) rfl rfl fun a E=>?_
  refine qag E ok (qb4 rfl rfl) rfl rfl fun a E=>?_
  refine wpList_nil ⟨rfl,E.d,?_⟩
  refine qad ?_
  refine d_if E rfl (fun hc797=>?_) (fun hc797=>?_)
  ·replace hF:=qai hc797 hF
   refine wp_seq ?_
   refine qiZ ?_
   refine qag E ok (qa6 (ps:=[]) (qs:=[]) (cs:=[(Value.int .i64 0),(Value.int .i64 0)]) qfi qeT rfl trivial rfl) rfl rfl fun a E=>?_
   refine qat E ok 7 rfl rfl rfl qgF rfl rfl ⟨rfl,trivial⟩ rfl rfl fun w ok=>?_
   refine qat E ok 6 rfl rfl rfl qgD rfl rfl ⟨rfl,rfl,trivial⟩ rfl rfl fun w ok=>?_
   refine qat E ok 5 rfl rfl rfl qg7 rfl rfl ⟨rfl,trivial⟩ rfl rfl fun w ok=>?_
   refine wpList_nil ⟨rfl,E.d,?_⟩
   refine qad ?_
   refine wp_ret ?_
   refine qan ?_
   obtain ⟨hK,hnD⟩:=(ok.frs 8 rfl).mkK
   have ok:=(ok.frs 8 rfl).takenM
   have hret:qbC u m0 S ([],(Place.mk 0 0),6) a (taken w Ds):=⟨m790,(.slice none 0 0),[(Value.int .i64 0),(Value.int .i64 0)],le_m0,ok.drop.drop.drop.drop.drop.drop.drop.drop,E.d,⟨qey E ok rfl qeJ (qaf.own 7 rfl rfl),rv_c (cs:=[(Value.int .i64 0),(Value.int .i64 0)]) E ok rfl qhc rfl (qaf.own 6 rfl rfl),qey E ok rfl qhh (qaf.own 5 rfl rfl),trivial⟩,qbA,⟨rfl,(show InR .i64 0 by decide),(show InR .i64 0 by decide)⟩,(show InR .i64 (6) by decide)⟩
   obtain rfl:=Option.some.inj hF
   exact finD _ _ _ hK hnD hret
  replace hF:=qah hc797 hF
  refine wp_skip ?_
  refine qad ?_
  refine wp_seq ?_
  refine qiZ ?_
  refine qag E ok (qaj qeJ rfl (qaf.own 3 rfl rfl)) rfl rfl fun a E=>?_
  refine qag E ok (qa6 (ps:=[]) (qs:=[]) (cs:=[(Value.int .i64 0),(Value.int .i64 0)]) qfi qeT rfl trivial rfl) rfl rfl fun a E=>?_
  refine qat E ok 7 rfl rfl rfl qgF (NRow.cells h793) rfl ⟨(NRow.one h793),trivial⟩ rfl rfl fun w ok=>?_
  refine qat E ok 6 rfl rfl rfl qgD rfl rfl ⟨rfl,rfl,trivial⟩ rfl rfl fun w ok=>?_
  refine qat E ok 5 rfl rfl rfl qg7 rfl rfl ⟨rfl,trivial⟩ rfl rfl fun w ok=>?_
  refine wpList_nil ⟨rfl,E.d,?_⟩
  refine qad ?_
  refine wp_ret ?_
  obtain ⟨m798,hle,ok,hfz⟩:=(ok.frs 0 rfl).freeze
  have h799:=NRow.froz qlS h793 hle hfz (by decide)
  have le_m0:=le_m0.trans hle
  have hscript_0:=(mL qa2).up hle hscript_0
  have hcalls_1:=(mL qep).up hle hcalls_1
  have hfiles_2:=(mL qgC).up hle hfiles_2
  have h796:=OMap.up (qfm (mI .i64)) hle h796
  obtain ⟨hK,hnD⟩:=(ok.frs 7 rfl).mkK
  have ok:=(ok.frs 7 rfl).takenM
  have hret:qbC u m0 S (o82.1,(Place.mk 0 0),0) a (taken w Ds):=⟨m798,c791,[(Value.int .i64 0),(Value.int .i64 0)],le_m0,ok.drop.drop.drop.drop.drop.drop.drop,E.d,⟨qey E ok rfl qeJ (qaf.own 6 rfl rfl),rv_c (cs:=[(Value.int .i64 0),(Value.int .i64 0)]) E ok rfl qhc rfl (qaf.own 5 rfl rfl),qey E ok rfl qhh (qaf.own 4 rfl rfl),trivial⟩,h799,⟨rfl,(show InR .i64 0 by decide),(show InR .i64 0 by decide)⟩,(show InR .i64 (0) by decide)⟩
  obtain rfl:=Option.some.inj hF
  exact finD _ _ _ hK hnD hret
 rintro ⟨x_91,x_92,x_93⟩ a w r ⟨Ds,ad,m94,c96,M97,c99,M100,rfl,hle,ok,E,r95,h98,h101⟩ hF
 replace hF:qfS N calls_1 files_2 o21 x_91 x_92 x_93 = some r:=hF
 unfold qfS at hF
 have le_m63:=Mem.le.refl m63
 have le_m0:=le_m0.trans hle
 have le_m63:=le_m63.trans hle
 have hscript_0:=(mL qa2).up hle hscript_0
 have hcalls_1:=(mL qep).up hle hcalls_1
 have hfiles_2:=(mL qgC).up hle hfiles_2
 have h66:=ORow.up (mL qde) hle h66
 refine wp_seq ?_
 refine qiZ ?_
 refine qag E ok (qaB rfl rfl) rfl rfl fun a E=>?_
 refine wpList_nil ⟨rfl,E.d,?_⟩
 refine qad ?_
 refine wp_seq ?_
 refine d_if E rfl (fun hc102=>?_) (fun hc102=>?_)
 rotate_left
 ·replace hF:=qah hc102 hF
  refine wp_exit ?_
  refine qaD ?_
  obtain rfl:=Option.some.inj hF
  exact qaq (by nofun) (sl ⟨rfl,⟨Ds,_,m94,c99,M100,c96,M97,rfl,le_m63,ok,E.keep [6,7,8,15],h101,h98⟩⟩)
 replace hF:=qai hc102 hF
 refine wp_skip ?_
 refine qad ?_
 refine wp_seq ?_
 refine wp_block ?_
 refine wp_seq ?_
 refine qiZ ?_
 refine qag E ok (qaa rfl) rfl rfl fun a E=>?_
 obtain ⟨x103,e104,hF⟩:=bnd hF
 obtain ⟨b105,o106,es107,hl108,rr109,at110,yy111⟩:=qaI qig hfiles_2 e104 (P:=Tryz.prog) (X:=.tmp 69) (I:=.tmp 71) (kd:=.i64) (qao E rfl) (qao E rfl)
 obtain ⟨rfl,l112,l113⟩:=rr109
 refine qag E ok (yy111 _ _) rfl rfl fun a E=>?_
 refine qag E ok (qax (cs:=[(Value.string (bs x103.Name)),(Value.string (bs x103.Text))]) qlD rfl rfl (qaf.ro at110)) rfl rfl fun a E=>?_
 refine qaZ E ok qnt rfl rfl fun b114 a w E ok=>?_
 refine qaZ E ok qiI rfl rfl fun b115 a w E ok=>?_
 refine qat E ok 1 rfl rfl rfl qd2 rfl rfl ⟨rfl,trivial⟩ rfl rfl fun w ok=>?_
 refine qat E ok 0 rfl rfl rfl qlX rfl rfl ⟨rfl,rfl,trivial⟩ rfl rfl fun w ok=>?_
 refine wpList_nil ⟨rfl,E.d,?_⟩
 refine qad ?_
 refine wp_seq ?_
 refine qiZ ?_
 refine qag E ok (qaa rfl) rfl rfl fun a E=>?_
 refine qag E ok (qaj qa0 rfl (qaf.own 1 rfl rfl)) rfl rfl fun a E=>?_
 obtain ⟨x116,e117,hF⟩:=bnd hF
 obtain ⟨b118,o119,hp120,yy121⟩:=qcv qcg h66 e117 (P:=Tryz.prog) (X:=.tmp 76) (I:=.tmp 77) (kd:=.i64) (qao E rfl) (qao E rfl)
 refine qag E ok (yy121 _ _) rfl rfl fun a E=>?_
 obtain ⟨es122,hl123,rr124,hh125⟩:=qeb h66 e117 hp120 (by decide)
 obtain ⟨c126,rfl,h127⟩:=qjO rr124
 refine qag E ok (qaj qeO rfl (hh125 _ _ _ 6 rfl)) rfl rfl fun a E=>?_
 refine qag E ok (qaa rfl) rfl rfl fun a E=>?_
 obtain ⟨r128,e129,hF⟩:=bnd hF
 obtain ⟨hfo,hfb⟩:=qny e129
 refine qaw E qp2 rfl (qiR (qgg h127) (qgg hcalls_1) ok) rfl rfl ?_
 rintro _ w ⟨bl,bc,rfl,ok⟩
 refine ⟨_,rfl,fun a E=>?_⟩
 refine wpList_nil ⟨rfl,E.d,?_⟩
 refine qad ?_
 refine wp_block ?_
 obtain ⟨o141,hL,hF⟩:=bnd hF
 have hL2:qf9 N x_91 x103 r128 x_92 x_93 = true ∧ runF (fun s x=>qdL N x_91 x103 x s.1 s.2) r128 (x_92,x_93) = some o141:=by
  unfold qjd at hL
  cases hb:qf9 N x_91 x103 r128 x_92 x_93 with
  | false=>rw [hb] at hL; cases hL
  | true=>rw [hb] at hL; exact ⟨rfl,hL⟩
 obtain ⟨hokb,hrun⟩:=hL2
 obtain ⟨K,hKe⟩:∃ K:Nat,K = 20000000:=⟨_,rfl⟩
 obtain ⟨hn1,hn2,hn3,hnN,hn4,hSb0⟩:=qpT hokb K
 have ok:Ok u m94 ([(bc,Obj.cells [vcalls_1].toArray 34 (0,0))] :: [(bl,Obj.cells [c126].toArray 26 (0,0))] :: [(b115,Obj.cells [(Value.string (bs x103.Name)),(Value.string (bs x103.Text))].toArray 75 (0,0))] :: [(b114,Obj.cells [(Value.int .i64 x_91)].toArray 3 (0,0))] :: M100 :: [(b71,Obj.cells [c96].toArray 130 (0,0))] :: M97 :: [(b67,Obj.cells [c99].toArray 44 (0,0))] :: M65 :: [(b3,Obj.cells [(Value.int .i64 0)].toArray 47 (0,0))] :: [(b2,Obj.cells [(Value.int .i64 0),(Value.int .i64 0)].toArray 46 (0,0))] :: [(b1,Obj.cells [(Value.slice none 0 0)].toArray 44 (0,0))] :: MkS Ds :: S) w:=ok
 have hSlt:∀ q ∈ (MkS Ds :: S).flatten,q.1 < w.heap.size:=fun q hq=>ok.ids_lt (by simp only [List.flatten_cons,List.mem_append] at hq ⊢; rcases hq with hq | hq <;> simp [hq])
 have hM65c:∀ q ∈ M65,q.2.isCells = true:=h66.isCells
 obtain ⟨bm,hbm⟩:=OMap.val h98
 have hbm2:bm < w.heap.size:=by
  obtain ⟨b',es',cl',g1,g2,_⟩:=h98
  rw [g1] at hbm
  simp only [Value.map.injEq,Option.some.injEq] at hbm
  subst hbm
  exact ok.ids_lt (p:=(b',Obj.map es'.toArray cl')) (by simp only [List.flatten_cons,List.mem_append,g2,List.mem_singleton]; simp)
 have hmlt:∀ b o,m94 b = some o → b < w.heap.size:=fun b o h=>ok.m_lt h
 have E0:=E
 have segs:∀ {M Mr:List (Nat × Obj)} {c' v3 v21 v22:Value} {X:Segs},(∀ q ∈ X.flatten,q.1 < w.heap.size ∨ q.2.isCells = true) → (∀ q ∈ M,q.1 = bm) → (∀ q ∈ Mr,q.2.isCells = true) → ∀ q ∈ ([(b115,Obj.cells [(Value.string (bs x103.Name)),(Value.string (bs x103.Text))].toArray 75 (0,0))] :: [(b114,Obj.cells [(Value.int .i64 x_91)].toArray 3 (0,0))] :: Mr :: [(b71,Obj.cells [c96].toArray 130 (0,0))] :: M :: [(b67,Obj.cells [c'].toArray 44 (0,0))] :: M65 :: [(b3,Obj.cells [v3].toArray 47 (0,0))] :: [(b2,Obj.cells [v21,v22].toArray 46 (0,0))] :: [(b1,Obj.cells [(Value.slice none 0 0)].toArray 44 (0,0))] :: X).flatten,q.1 < w.heap.size ∨ q.2.isCells = true:=by
  intro M Mr c' v3 v21 v22 X hX hM hMr q hq
  simp only [List.flatten_cons,List.mem_append,List.mem_singleton] at hq
  rcases hq with rfl | rfl | hq | rfl | hq | rfl | hq | rfl | rfl | rfl | hq
  ·exact .inr rfl
  ·exact .inr rfl
  ·exact .inr (hMr q hq)
  ·exact .inr rfl
  ·exact .inl (by rw [hM q hq]; exact hbm2)
  ·exact .inr rfl
  ·exact .inr (hM65c q hq)
  ·exact .inr rfl
  ·exact .inr rfl
  ·exact .inr rfl
  ·exact hX q hq
 have hSlt2:∀ q ∈ (MkS Ds :: S).flatten,q.1 < w.heap.size ∨ q.2.isCells = true:=fun q hq=>.inl (hSlt q hq)
 refine (wpIn_wide (n:=3)).1 (qm0 (ds:=qg4 Ds) (m:=m94) (vc:=vcalls_1) E rfl rfl rfl (fun _ _=>rfl) (fun _ _=>rfl) ok h127 hcalls_1 hfo hfb hG
  (fun j (s:Mp × List Entry) T=>∃ M c' M',T = [(b115,Obj.cells [(Value.string (bs x103.Name)),(Value.string (bs x103.Text))].toArray 75 (0,0))] :: [(b114,Obj.cells [(Value.int .i64 x_91)].toArray 3 (0,0))] :: M' :: [(b71,Obj.cells [c96].toArray 130 (0,0))] :: M :: [(b67,Obj.cells [c'].toArray 44 (0,0))] :: M65 :: [(b3,Obj.cells [(Value.int .i64 0)].toArray 47 (0,0))] :: [(b2,Obj.cells [(Value.int .i64 0),(Value.int .i64 0)].toArray 46 (0,0))] :: [(b1,Obj.cells [(Value.slice none 0 0)].toArray 44 (0,0))] :: MkS Ds :: S ∧ OMap kS (oneV (pI .i64)) m94 c96 s.1 M ∧ NRow 53 7 qbw m94 c' s.2 M' ∧ Sb N r128.length K j s.1 s.2)
  (fun (s:List Entry × Place × Int) T=>∃ M c' M',T = [(b115,Obj.cells [(Value.string (bs x103.Name)),(Value.string (bs x103.Text))].toArray 75 (0,0))] :: [(b114,Obj.cells [(Value.int .i64 x_91)].toArray 3 (0,0))] :: M' :: [(b71,Obj.cells [c96].toArray 130 (0,0))] :: M :: [(b67,Obj.cells [c'].toArray 44 (0,0))] :: M65 :: [(b3,Obj.cells [(Value.int .i64 s.2.2)].toArray 47 (0,0))] :: [(b2,Obj.cells [(Value.int .i64 s.2.1.File),(Value.int .i64 s.2.1.Offset)].toArray 46 (0,0))] :: [(b1,Obj.cells [(Value.slice none 0 0)].toArray 44 (0,0))] :: MkS Ds :: S ∧ (∀ q ∈ M,q.1 = bm) ∧ (∀ q ∈ M',q.2.isCells = true) ∧ s.1 = [] ∧ InR .i64 s.2.2 ∧ InR .i64 s.2.1.File ∧ InR .i64 s.2.1.Offset)
  (fun s x=>qdL N x_91 x103 x s.1 s.2) (x_92,x_93) ⟨M97,c99,M100,rfl,h98,h101,hSb0⟩ ?_ ?_ ?_ ?_ ?_)
 ·rintro j s T ⟨M,c',M',rfl,h1,h2,h3⟩
  exact segs hSlt2 (h1.blk hbm) (qjb h2)
 ·rintro s T ⟨M,c',M',rfl,h1,h2,h3⟩
  exact segs hSlt2 h1 h2
 ·rintro k j ⟨x_150,x_151⟩ T x160 b174 m130 a w Q' ⟨M154,c156,M157,rfl,h155,h158,hSb⟩ hj hx hle ok E hn hx2
  obtain ⟨hx0,hx1,hx3,hx4,hx5,hx6,hx7⟩:=hx
  have r169:InR .i64 x160.call:=by
   have:=qdi.1 (qau hcalls_1)
   rw [qdi]; omega
  have r170:InR .i64 x160.offset:=by rw [qdi]; omega
  have l171:x160.id.length ≤ LIMS:=by unfold LIMS; omega
  have l172:x160.source.length ≤ LIMS:=by unfold LIMS; omega
  have l173:x160.comment.length ≤ LIMS:=by unfold LIMS; omega
  obtain ⟨r,hr⟩:∃ r,r = rnd x_91 x103 x160 x_150 x_151:=⟨_,rfl⟩
  have hjK:j * K ≤ 20000000000000:=Nat.le_trans (Nat.mul_le_mul (show j ≤ 1000000 by omega) (Nat.le_of_eq hKe)) (by decide)
  have hRb:Rb N x103 x160 x_150 x_151:=hSb.rb hj hn3 hnN hn1 hn2 hx3 hx4 hjK
  have hF:=qoj (i:=x_91) hRb
  rw [← hr] at hF
  have hF2:qdL N x_91 x103 x160 (x_150,x_151).1 (x_150,x_151).2 = some r:=hF
  have hrl:(refT x103 x160).length + 1 ≤ K:=by
   have:=(qk4 (N:=N) hn1 hn2 hx3 hx4 (fun s:List UInt8=>(some s:Option (List UInt8)))).2
   omega
  have h155:=OMap.up (qfm (mI .i64)) hle h155
  have h158:=NRow.up ql9 hle h158
  obtain ⟨S1,hS1⟩:∃ S1:Segs,S1 = [(bc,Obj.cells [vcalls_1].toArray 34 (0,0))] :: [(bl,Obj.cells [c126].toArray 26 (0,0))] :: MkS Ds :: S:=⟨_,rfl⟩
  replace ok:Ok u m130 ([(b174,Obj.cells [(Value.int .i64 x160.call),(Value.int .i64 x160.offset),(Value.string (bs x160.id)),(Value.string (bs x160.source)),(Value.string (bs x160.comment))].toArray 105 (0,0))] :: [(b115,Obj.cells [(Value.string (bs x103.Name)),(Value.string (bs x103.Text))].toArray 75 (0,0))] :: [(b114,Obj.cells [(Value.int .i64 x_91)].toArray 3 (0,0))] :: M157 :: [(b71,Obj.cells [c96].toArray 130 (0,0))] :: M154 :: [(b67,Obj.cells [c156].toArray 44 (0,0))] :: M65 :: [(b3,Obj.cells [(Value.int .i64 0)].toArray 47 (0,0))] :: [(b2,Obj.cells [(Value.int .i64 0),(Value.int .i64 0)].toArray 46 (0,0))] :: [(b1,Obj.cells [(Value.slice none 0 0)].toArray 44 (0,0))] :: S1) w:=by
   rw [hS1]; exact ok.pk 13 [0,3,4,5,6,7,8,9,10,11,12,1,2] rfl (by decide)
  have hnK:∀ {ix':Mp} {out':List Entry} {M cm c' M':_} {a':Act} {w':World},cm = c96 → r = .inl (ix',out') → Ok u m130 ([(b115,Obj.cells [(Value.string (bs x103.Name)),(Value.string (bs x103.Text))].toArray 75 (0,0))] :: [(b114,Obj.cells [(Value.int .i64 x_91)].toArray 3 (0,0))] :: M' :: [(b71,Obj.cells [cm].toArray 130 (0,0))] :: M :: [(b67,Obj.cells [c'].toArray 44 (0,0))] :: M65 :: [(b3,Obj.cells [(Value.int .i64 0)].toArray 47 (0,0))] :: [(b2,Obj.cells [(Value.int .i64 0),(Value.int .i64 0)].toArray 46 (0,0))] :: [(b1,Obj.cells [(Value.slice none 0 0)].toArray 44 (0,0))] :: S1) w' → OMap kS (oneV (pI .i64)) m130 cm ix' M → NRow 53 7 qbw m130 c' out' M' → Q' .normal a' w':=by
   intro ix' out' M cm c' M' a' w' hcm hr2 ok' hm' hr'
   rw [hcm] at ok' hm'
   have hSb2:=hSb.step hj hn3 hnN hrl (hr.symm.trans hr2)
   refine hn (ix',out') _ m130 a' w' (hF2.trans (congrArg some hr2)) ⟨M,c',M',rfl,hm'.chg (fun _ _ h=>h),hr'.chg (fun cs x M hx h=>qmR (hSb2.fg x hx) h),hSb2⟩ (Mem.le.refl _) ?_
   rw [hS1] at ok'
   exact ok'.pk 12 [10,11,0,1,2,3,4,5,6,7,8,9] rfl (by decide)
  have hxK:∀ {o:Place × Int} {M cm c' M':_} {ix':Mp} {out':List Entry} {a':Act} {w':World},cm = c96 → r = .inr ([],o.1,o.2) → InR .i64 o.2 → InR .i64 o.1.File → InR .i64 o.1.Offset → Ok u m130 (M' :: [(b174,Obj.cells [(Value.int .i64 x160.call),(Value.int .i64 x160.offset),(Value.string (bs x160.id)),(Value.string (bs x160.source)),(Value.string (bs x160.comment))].toArray 105 (0,0))] :: [(b115,Obj.cells [(Value.string (bs x103.Name)),(Value.string (bs x103.Text))].toArray 75 (0,0))] :: [(b114,Obj.cells [(Value.int .i64 x_91)].toArray 3 (0,0))] :: [(b71,Obj.cells [cm].toArray 130 (0,0))] :: M :: [(b67,Obj.cells [c'].toArray 44 (0,0))] :: M65 :: [(b3,Obj.cells [(Value.int .i64 o.2)].toArray 47 (0,0))] :: [(b2,Obj.cells [(Value.int .i64 o.1.File),(Value.int .i64 o.1.Offset)].toArray 46 (0,0))] :: [(b1,Obj.cells [(Value.slice none 0 0)].toArray 44 (0,0))] :: S1) w' → OMap kS (oneV (pI .i64)) m130 cm ix' M → NRow 53 7 qbw m130 c' out' M' → Q' .ret a' w':=by
   intro o M cm c' M' ix' out' a' w' hcm hr2 r1 r2 r3 ok' hm' hr'
   rw [hcm] at ok' hm'
   refine hx2 ([],o.1,o.2) _ m130 a' w' (hF2.trans (congrArg some hr2)) ⟨M,c',M',rfl,hm'.blk hbm,qjb hr',rfl,r1,r2,r3⟩ (Mem.le.refl _) ?_
   rw [hS1] at ok'
   exact ok'.pk 13 [11,12,2,3,0,4,5,6,7,8,9,10] rfl (by decide)
  unfold qdL at hF
  clear hF2 hRb hSb hr hn hx2 hx0 hx1 hx3 hx4 hx5 hx6 hx7 hrl hjK hS1
  refine wpIn_block ?_
  refine wpIn_seq ?_
  refine qk5 (by kernel_rfl) rfl (by kernel_rfl) ok ?_
  refine qaS E (qac qhF rfl) rfl rfl fun a E=>?_
  refine qaS E (qaj qav rfl (qaf.own 1 rfl rfl)) rfl rfl fun a E=>?_
  obtain ⟨s175,e176,hF⟩:=bnd hF
  refine qaS E (qaQ rfl rfl e176) rfl rfl fun a E=>?_
  refine qaS E (qac qmJ rfl) rfl rfl fun a E=>?_
  refine qaS E (qaj qav rfl (qaf.own 1 rfl rfl)) rfl rfl fun a E=>?_
  refine qaS E (qac ql6 rfl) rfl rfl fun a E=>?_
  refine qaS E (qaj qa0 rfl (qaf.own 0 rfl rfl)) rfl rfl fun a E=>?_
  obtain ⟨s177,e178,hF⟩:=bnd hF
  refine qaS E (qaW Tryz.underlying9 e178 rfl rfl ⟨_,rfl⟩) rfl rfl fun a E=>?_
  obtain ⟨r179,e180,hF⟩:=bnd hF
  obtain ⟨_,_,⟨_,_⟩,r181⟩:=Go.X.Calls.get (qie N s177 (Nat.le_trans (qb1 e178) l113) ([10]) (show ([10]:List UInt8).length ≤ LIMS by decide) e180 hG ok)
  refine qfh E qqv rfl (fun w ok=>(qie N s177 (Nat.le_trans (qb1 e178) l113) ([10]) (show ([10]:List UInt8).length ≤ LIMS by decide) e180 hG ok).mono (fun _ _ h=>h.1)) rfl rfl fun a E=>?_
  refine qaS E (qaL rfl rfl) rfl rfl fun a E=>?_
  obtain ⟨r182,e183,hF⟩:=bnd hF
  obtain ⟨_,_,⟨_,_⟩,l184⟩:=Go.X.Calls.get (qh8 N (IntKind.wrap .i64 ((1:Int) + r179)) (InR.wrap _ _) e183 hG hTb ok)
  refine qfh E qp0 rfl (fun w ok=>(qh8 N (IntKind.wrap .i64 ((1:Int) + r179)) (InR.wrap _ _) e183 hG hTb ok).mono (fun _ _ h=>h.1)) rfl rfl fun a E=>?_
  obtain ⟨s185,e186,hF⟩:=bnd hF
  refine qaS E (qaQ rfl rfl e186) rfl rfl fun a E=>?_
  refine qaS E (qab rfl) rfl rfl fun a E=>?_
  refine wpQuiet_nil ?_
  intro w ok
  refine qad ?_
  refine wpIn_seq ?_
  refine qdQ rfl ?_
  refine qag E ok (qaj qj1 rfl (qaf.own 4 rfl rfl)) rfl rfl fun a E=>?_
  refine qag E ok (qac qgS rfl) rfl rfl fun a E=>?_
  refine qag E ok (qaj qav rfl (qaf.own 0 rfl rfl)) rfl rfl fun a E=>?_
  obtain ⟨xv187,h188,yy189,yy190⟩:=qjU (P:=Tryz.prog) (mo:=.tmp 96) (ko:=.tmp 98) (zx:=(0:Int)) ok 5 (qdK Tryz.underlying9) Tryz.underlying130 h155 rfl (qao E rfl) (qao E rfl) ⟨rfl,l171⟩ qmE (qf0 (show InR .i64 0 by decide))
  obtain ⟨rfl,r191⟩:=qjs h188
  refine qag E ok (yy190 _) rfl rfl fun a E=>?_
  refine qag E ok (qaa rfl) rfl rfl fun a E=>?_
  refine qag E ok (qaA rfl rfl) rfl rfl fun a E=>?_
  refine qag E ok (qaA rfl rfl) rfl rfl fun a E=>?_
  refine qag E ok (qab rfl) rfl rfl fun a E=>?_
  refine qag E ok (qab rfl) rfl rfl fun a E=>?_
  refine wpList_nil ⟨rfl,?_⟩
  refine qad ?_
  refine wpIn_seq ?_
  refine wpIn_seq ?_
  refine qdQ rfl ?_
  refine qag E ok (qaa rfl) rfl rfl fun a E=>?_
  refine qag E ok (qbP rfl) rfl rfl fun a E=>?_
  refine wpList_nil ⟨rfl,?_⟩
  refine qad ?_
  obtain ⟨o192,hJ,hF⟩:=bnd hF
  refine qmc (Q':=fun e a w=>e = .normal ∧ ∃ c194 M195 c197 M198,c194 = c96 ∧ Ok u m130 ([(b174,Obj.cells [(Value.int .i64 x160.call),(Value.int .i64 x160.offset),(Value.string (bs x160.id)),(Value.string (bs x160.source)),(Value.string (bs x160.comment))].toArray 105 (0,0))] :: [(b115,Obj.cells [(Value.string (bs x103.Name)),(Value.string (bs x103.Text))].toArray 75 (0,0))] :: [(b114,Obj.cells [(Value.int .i64 x_91)].toArray 3 (0,0))] :: M198 :: [(b71,Obj.cells [c194].toArray 130 (0,0))] :: M195 :: [(b67,Obj.cells [c197].toArray 44 (0,0))] :: M65 :: [(b3,Obj.cells [(Value.int .i64 0)].toArray 47 (0,0))] :: [(b2,Obj.cells [(Value.int .i64 0),(Value.int .i64 0)].toArray 46 (0,0))] :: [(b1,Obj.cells [(Value.slice none 0 0)].toArray 44 (0,0))] :: S1) w ∧ Env 187 a [(1,vcalls_1),(6,(Value.pointer (some ⟨b1,0,none⟩))),(7,(Value.pointer (some ⟨b2,0,none⟩))),(8,(Value.pointer (some ⟨b3,0,none⟩))),(9,c64),(15,(Value.pointer (some ⟨b67,0,none⟩))),(16,(Value.pointer (some ⟨b71,0,none⟩))),(17,(Value.pointer (some ⟨b114,0,none⟩))),(18,(Value.pointer (some ⟨b115,0,none⟩))),(19,(Value.pointer (some ⟨b174,0,none⟩))),(20,(Value.string (bs s185))),(21,(Value.int .i64 o192.1)),(22,(Value.bool ((mget x_150 x160.id).isSome))),(69,vfiles_2),(70,(Value.int .i64 (files_2.length:Int))),(71,(Value.int .i64 x_91))] ∧ InR .i64 o192.1 ∧ OMap kS (oneV (pI .i64)) m130 c194 o192.2.1 M195 ∧ NRow 53 7 qbw m130 c197 o192.2.2 M198) ?_ ?_
  ·replace hF:=hJ
   clear hJ
   refine r_if E rfl (fun hc200=>?_) (fun hc200=>?_)
   rotate_left
   ·replace hF:=qah hc200 hF
    refine wpIn_skip ?_
    obtain rfl:=Option.some.inj hF
    exact ⟨rfl,⟨c96,M154,c156,M157,rfl,ok,E.keep [1,6,7,8,9,15,16,17,18,19,20,21,22,69,70,71],r191,h155,h158⟩⟩
   replace hF:=qai hc200 hF
   refine wpIn_seq ?_
   refine qdQ rfl ?_
   refine qag E ok (qaj qeJ rfl (qaf.own 6 rfl rfl)) rfl rfl fun a E=>?_
   refine qag E ok (qjz qgy h158 rfl) rfl rfl fun a E=>?_
   refine qag E ok (qab rfl) rfl rfl fun a E=>?_
   refine wpList_nil ⟨rfl,?_⟩
   refine qad ?_
   refine wpIn_seq ?_
   refine qdQ rfl ?_
   refine qag E ok (qaj qj1 rfl (qaf.own 4 rfl rfl)) rfl rfl fun a E=>?_
   refine qag E ok (qac qgS rfl) rfl rfl fun a E=>?_
   refine qag E ok (qaj qav rfl (qaf.own 0 rfl rfl)) rfl rfl fun a E=>?_
   refine qag E ok (qaa rfl) rfl rfl fun a E=>?_
   obtain ⟨l201,e202,hF⟩:=bnd hF
   refine qiC (.inl rfl) E ok 5 (qdK Tryz.underlying9) Tryz.underlying130 h155 rfl rfl rfl rfl ⟨rfl,l171⟩ (qf0 (NRow.InR h158)) e202 rfl fun M203 w ok h204=>?_
   refine wpList_nil ⟨rfl,?_⟩
   refine qad ?_
   refine qdQ rfl ?_
   refine qag E ok (qaj qeJ rfl (qaf.own 6 rfl rfl)) rfl rfl fun a E=>?_
   refine qag E ok (qac qgS rfl) rfl rfl fun a E=>?_
   refine qag E ok (qaj qav rfl (qaf.own 0 rfl rfl)) rfl rfl fun a E=>?_
   refine qag E ok (qac qhS rfl) rfl rfl fun a E=>?_
   refine qag E ok (qaj qav rfl (qaf.own 0 rfl rfl)) rfl rfl fun a E=>?_
   refine qag E ok (qa6 (ps:=[(0,.const (Value.string (bs ([114,101,102]))))]) (qs:=[(0,[(Value.string (bs ([114,101,102])))])]) (cs:=[(Value.string (bs ([114,101,102]))),(Value.string (bs ([])))]) qjV qlk rfl ⟨rfl,rfl,rfl,trivial⟩ rfl) rfl rfl fun a E=>?_
   refine qbf (R:=qet) (xo:=[.tmp 115]) (xs:=([(Field.mk ([114,101,102]) ([]))]:List (Field))) E ok qcS qjV rfl ⟨⟨_,rfl,rfl,⟨rfl,(show ([114,101,102]:List UInt8).length ≤ LIMS by decide),(Nat.zero_le _)⟩⟩,trivial⟩ rfl rfl rfl rfl fun c205 M206 a w E ok h207=>?_
   refine qag E ok (qa6 (ps:=[(0,.tmp 112),(1,.tmp 114),(6,.tmp 116)]) (qs:=[(0,[(Value.string (bs x160.id))]),(1,[(Value.string (bs x160.source))]),(6,[c205])]) (cs:=[(Value.string (bs x160.id)),(Value.string (bs x160.source)),(Value.string (bs ([]))),(Value.slice none 0 0),(Value.slice none 0 0),(Value.int .i64 0),c205]) qiS qlg rfl ⟨rfl,rfl,rfl,⟨rfl,rfl,rfl,⟨rfl,(ORow.cells h207),rfl,trivial⟩⟩⟩ rfl) rfl rfl fun a E=>?_
   refine qbf (R:=pRaw) (xo:=[.tmp 117]) (xs:=[[(Value.string (bs x160.id)),(Value.string (bs x160.source)),(Value.string (bs ([]))),(Value.slice none 0 0),(Value.slice none 0 0),(Value.int .i64 0),c205]]) E ok qgy qiS rfl ⟨⟨_,rfl,rfl,⟨rfl,⟨rfl,rfl,rfl,rfl,rfl,rfl,(ORow.one h207),trivial⟩⟩⟩,trivial⟩ rfl rfl rfl rfl fun c208 M209 a w E ok h210=>?_
   obtain ⟨M211,ok,h212⟩:=qdp (e:=9) (k:=1) (R:=pS) ok
   replace ok:Ok u m130 (M157 :: M211 :: M206 :: M209 :: [(b174,Obj.cells [(Value.int .i64 x160.call),(Value.int .i64 x160.offset),(Value.string (bs x160.id)),(Value.string (bs x160.source)),(Value.string (bs x160.comment))].toArray 105 (0,0))] :: [(b115,Obj.cells [(Value.string (bs x103.Name)),(Value.string (bs x103.Text))].toArray 75 (0,0))] :: [(b114,Obj.cells [(Value.int .i64 x_91)].toArray 3 (0,0))] :: [(b71,Obj.cells [c96].toArray 130 (0,0))] :: M203 :: [(b67,Obj.cells [c156].toArray 44 (0,0))] :: M65 :: [(b3,Obj.cells [(Value.int .i64 0)].toArray 47 (0,0))] :: [(b2,Obj.cells [(Value.int .i64 0),(Value.int .i64 0)].toArray 46 (0,0))] :: [(b1,Obj.cells [(Value.slice none 0 0)].toArray 44 (0,0))] :: S1) w:=(ok.pk 14 [6,0,2,1,3,4,5,7,8,9,10,11,12,13] rfl (by decide))
   obtain ⟨l213,e214,hF⟩:=bnd hF
   have hsrc:=(qbo.ofRow h210 3 rfl ok)
   replace ok:=ok.joinM2
   refine qkH (R:=qbw) E ok qgy Tryz.underlying44 h158 hsrc ⟨_,_,_,_,_,rfl,rfl,l171,l172,(Nat.zero_le _),h212,qbA,(show InR .i64 0 by decide),h207⟩ e214 ⟨_,qiS,rfl⟩ rfl rfl rfl rfl fun c215 M216 a w E ok h217=>?_
   clear hsrc
   refine qat E ok 7 rfl rfl rfl qgF (NRow.cells h217) rfl ⟨(NRow.one h217),trivial⟩ rfl rfl fun w ok=>?_
   refine wpList_nil ⟨rfl,?_⟩
   obtain rfl:=Option.some.inj hF
   exact ⟨rfl,⟨c96,M203,c215,M216,rfl,(ok.pk 12 [2,3,4,0,5,6,7,8,9,10,11] rfl (by decide)),E.keep [1,6,7,8,9,15,16,17,18,19,20,21,22,69,70,71],(NRow.InR h158),h204,h217⟩⟩
  clear hJ
  intro e a w hO
  obtain ⟨rfl,c219,M220,c222,M223,hcj,ok,E,r218,h221,h224⟩:=hO
  refine qad ?_
  refine wpIn_seq ?_
  refine qdQ rfl ?_
  refine qag E ok (qaj qeJ rfl (qaf.own 6 rfl rfl)) rfl rfl fun a E=>?_
  refine qag E ok (qaa rfl) rfl rfl fun a E=>?_
  obtain ⟨x225,e226,hF⟩:=bnd hF
  obtain ⟨b227,o228,hp229,yy230⟩:=qpp qgy h224 e226 (P:=Tryz.prog) (X:=.tmp 120) (I:=.tmp 121) (kd:=.i64) (qao E rfl) (qao E rfl)
  refine qag E ok (yy230 _ _) rfl rfl fun a E=>?_
  refine qag E ok (qab rfl) rfl rfl fun a E=>?_
  refine wpList_nil ⟨rfl,?_⟩
  refine qad ?_
  refine wpIn_seq ?_
  refine wpIn_seq ?_
  replace ok:Ok u m130 (M223 :: [(b174,Obj.cells [(Value.int .i64 x160.call),(Value.int .i64 x160.offset),(Value.string (bs x160.id)),(Value.string (bs x160.source)),(Value.string (bs x160.comment))].toArray 105 (0,0))] :: [(b115,Obj.cells [(Value.string (bs x103.Name)),(Value.string (bs x103.Text))].toArray 75 (0,0))] :: [(b114,Obj.cells [(Value.int .i64 x_91)].toArray 3 (0,0))] :: [(b71,Obj.cells [c219].toArray 130 (0,0))] :: M220 :: [(b67,Obj.cells [c222].toArray 44 (0,0))] :: M65 :: [(b3,Obj.cells [(Value.int .i64 0)].toArray 47 (0,0))] :: [(b2,Obj.cells [(Value.int .i64 0),(Value.int .i64 0)].toArray 46 (0,0))] :: [(b1,Obj.cells [(Value.slice none 0 0)].toArray 44 (0,0))] :: S1) w:=(ok.pk 11 [3,0,1,2,4,5,6,7,8,9,10] rfl (by decide))
  obtain ⟨cs231,c232,M233,M234,M235,ok,hr236,hx237,he238,hh239⟩:=NRow.open h224 e226 ok
  obtain ⟨c245,c247,c250,M240,M241,rfl,rfl,l242,l243,l244,h246,h248,r249,h251⟩:=he238
  replace ok:=ok.splitM2
  refine qk5 (by kernel_rfl) rfl (by kernel_rfl) ok ?_
  refine qaS E (qaa rfl) rfl rfl fun a E=>?_
  refine qaS E (qbc rfl) rfl rfl fun a E=>?_
  refine qaS E (qac qkX rfl) rfl rfl fun a E=>?_
  obtain ⟨hl252,hh253⟩:=qda hr236 hx237 hp229 (by decide)
  refine qaS E (qaj qav rfl (qaf.sub 1 1 (hh253 _ _ _ 0 rfl))) rfl rfl fun a E=>?_
  refine qaS E (qac qhS rfl) rfl rfl fun a E=>?_
  refine qaS E (qaj qav rfl (qaf.own 4 rfl rfl)) rfl rfl fun a E=>?_
  refine qaS E (qbQ rfl rfl) rfl rfl fun a E=>?_
  refine wpQuiet_nil ?_
  intro w ok
  refine qad ?_
  replace ok:=ok.joinM2
  obtain ⟨M254,ok,h255⟩:=NRow.close0 e226 ok hr236 hx237 (show qbw m130 [(Value.string (bs x225.ID)),(Value.string (bs x225.Source)),(Value.string (bs x225.Target)),c245,c247,(Value.int .i64 x225.State),c250] x225 (M240 ++ M241) from ⟨_,_,_,_,_,rfl,rfl,l242,l243,l244,h246,h248,r249,h251⟩) hh239
  refine r_if E rfl (fun hc256=>?_) (fun hc256=>?_)
  ·replace hF:=qai hc256 hF
   refine wpIn_seq ?_
   obtain ⟨o257,hJ,hF⟩:=bnd hF
   refine qmc (Q':=fun e a w=>e = .normal ∧ Ok u m130 (M254 :: [(b174,Obj.cells [(Value.int .i64 x160.call),(Value.int .i64 x160.offset),(Value.string (bs x160.id)),(Value.string (bs x160.source)),(Value.string (bs x160.comment))].toArray 105 (0,0))] :: [(b115,Obj.cells [(Value.string (bs x103.Name)),(Value.string (bs x103.Text))].toArray 75 (0,0))] :: [(b114,Obj.cells [(Value.int .i64 x_91)].toArray 3 (0,0))] :: [(b71,Obj.cells [c219].toArray 130 (0,0))] :: M220 :: [(b67,Obj.cells [c222].toArray 44 (0,0))] :: M65 :: [(b3,Obj.cells [(Value.int .i64 o257.1)].toArray 47 (0,0))] :: [(b2,Obj.cells [(Value.int .i64 o257.2.File),(Value.int .i64 o257.2.Offset)].toArray 46 (0,0))] :: [(b1,Obj.cells [(Value.slice none 0 0)].toArray 44 (0,0))] :: S1) w ∧ Env 187 a [(6,(Value.pointer (some ⟨b1,0,none⟩))),(7,(Value.pointer (some ⟨b2,0,none⟩))),(8,(Value.pointer (some ⟨b3,0,none⟩)))] ∧ InR .i64 o257.1 ∧ InR .i64 o257.2.File ∧ InR .i64 o257.2.Offset) ?_ ?_
   rotate_left
   ·clear hJ
    intro e a w hO
    obtain ⟨rfl,ok,E,r261,r262,r263⟩:=hO
    refine qad ?_
    refine wpIn_ret ?_
    refine qan ?_
    refine qap ?_
    obtain rfl:=Option.some.inj hF
    exact hxK (o:=(o257.2,o257.1)) hcj rfl r261 r262 r263 ok h221 h255
   replace hF:=hJ
   clear hJ
   obtain rfl:=Option.some.inj hF
   refine qme [] (Cls u m130 (M254 :: [(b174,Obj.cells [(Value.int .i64 x160.call),(Value.int .i64 x160.offset),(Value.string (bs x160.id)),(Value.string (bs x160.source)),(Value.string (bs x160.comment))].toArray 105 (0,0))] :: [(b115,Obj.cells [(Value.string (bs x103.Name)),(Value.string (bs x103.Text))].toArray 75 (0,0))] :: [(b114,Obj.cells [(Value.int .i64 x_91)].toArray 3 (0,0))] :: [(b71,Obj.cells [c219].toArray 130 (0,0))] :: M220 :: [(b67,Obj.cells [c222].toArray 44 (0,0))] :: M65 :: [(b1,Obj.cells [(Value.slice none 0 0)].toArray 44 (0,0))] :: [])) (Cls u m130 (M254 :: [(b174,Obj.cells [(Value.int .i64 x160.call),(Value.int .i64 x160.offset),(Value.string (bs x160.id)),(Value.string (bs x160.source)),(Value.string (bs x160.comment))].toArray 105 (0,0))] :: [(b115,Obj.cells [(Value.string (bs x103.Name)),(Value.string (bs x103.Text))].toArray 75 (0,0))] :: [(b114,Obj.cells [(Value.int .i64 x_91)].toArray 3 (0,0))] :: [(b71,Obj.cells [c219].toArray 130 (0,0))] :: M220 :: [(b67,Obj.cells [c222].toArray 44 (0,0))] :: M65 :: [(b1,Obj.cells [(Value.slice none 0 0)].toArray 44 (0,0))] :: [])) (by kernel_rfl) rfl ?_
   intro w hw
   replace ok:=qcV ok hw
   clear hw
   have le_m130:=Mem.le.refl m130
   refine qaM (cl1 ⟨m130,_,le_m130,ok,⟨qal 0 rfl,qal 1 rfl,qal 2 rfl,qal 3 rfl,qal 4 rfl,qal 5 rfl,qal 6 rfl,qal 7 rfl,qal 10 rfl,trivial⟩⟩ ⟨m130,_,le_m130,ok,⟨qal 0 rfl,qal 1 rfl,qal 2 rfl,qal 3 rfl,qal 4 rfl,qal 5 rfl,qal 6 rfl,qal 7 rfl,qal 10 rfl,trivial⟩⟩) fun hT=>?_
   refine qc6 0 E rfl (by kernel_rfl) nP hT (qaj qa0 rfl (qaf.cown 3 rfl rfl)) rfl rfl fun a E=>?_
   refine qc6 1 E rfl (by kernel_rfl) nP hT (qac ql6 rfl) rfl rfl fun a E=>?_
   refine qc6 2 E rfl (by kernel_rfl) nP hT (qaj qa0 rfl (qaf.cown 1 rfl rfl)) rfl rfl fun a E=>?_
   refine qc6 3 E rfl (by kernel_rfl) nP hT (qa6 (ps:=[(0,.tmp 130),(1,.tmp 132)]) (qs:=[(0,[(Value.int .i64 x_91)]),(1,[(Value.int .i64 x160.offset)])]) (cs:=[(Value.int .i64 x_91),(Value.int .i64 x160.offset)]) qfi qeT rfl ⟨rfl,rfl,rfl,⟨rfl,rfl,rfl,trivial⟩⟩ rfl) rfl rfl fun a E=>?_
   refine qbj [4] (by kernel_rfl) rfl (qbk ?_)
   ·refine qaz (o:=_) rfl ?_
    refine qat E ok 10 rfl rfl rfl qgF rfl rfl ⟨rfl,trivial⟩ rfl rfl fun w ok=>?_
    refine wpList_nil ?_
    refine qad ?_
    refine qaM (cl1 ⟨m130,_,le_m130,ok,⟨qal 0 rfl,qal 1 rfl,qal 2 rfl,qal 3 rfl,qal 4 rfl,qal 5 rfl,qal 6 rfl,qal 7 rfl,qal 10 rfl,trivial⟩⟩ ⟨m130,_,le_m130,ok,⟨qal 0 rfl,qal 1 rfl,qal 2 rfl,qal 3 rfl,qal 4 rfl,qal 5 rfl,qal 6 rfl,qal 7 rfl,qal 10 rfl,trivial⟩⟩) fun hT=>?_
    refine qbj [5] (by kernel_rfl) rfl (qbk ?_)
    ·refine qaz (o:=_) rfl ?_
     refine qat E ok 9 rfl rfl rfl qgD rfl rfl ⟨rfl,rfl,trivial⟩ rfl rfl fun w ok=>?_
     refine wpList_nil ?_
     refine qad ?_
     refine qaM (cl1 ⟨m130,_,le_m130,ok,⟨qal 0 rfl,qal 1 rfl,qal 2 rfl,qal 3 rfl,qal 4 rfl,qal 5 rfl,qal 6 rfl,qal 7 rfl,qal 10 rfl,trivial⟩⟩ ⟨m130,_,le_m130,ok,⟨qal 0 rfl,qal 1 rfl,qal 2 rfl,qal 3 rfl,qal 4 rfl,qal 5 rfl,qal 6 rfl,qal 7 rfl,qal 10 rfl,trivial⟩⟩) fun hT=>?_
     refine qbj [6] (by kernel_rfl) rfl (qbk ?_)
     ·refine qaz (o:=_) rfl ?_
      refine qat E ok 8 rfl rfl rfl qg7 rfl rfl ⟨rfl,trivial⟩ rfl rfl fun w ok=>?_
      refine wpList_nil ?_
      refine qad ?_
      refine qaM (cl1 ⟨m130,_,le_m130,ok,⟨qal 0 rfl,qal 1 rfl,qal 2 rfl,qal 3 rfl,qal 4 rfl,qal 5 rfl,qal 6 rfl,qal 7 rfl,qal 10 rfl,trivial⟩⟩ ⟨m130,_,le_m130,ok,⟨qal 0 rfl,qal 1 rfl,qal 2 rfl,qal 3 rfl,qal 4 rfl,qal 5 rfl,qal 6 rfl,qal 7 rfl,qal 10 rfl,trivial⟩⟩) fun hT=>?_
      refine qcP (by kernel_rfl) ⟨rfl,?_⟩
      exact ⟨rfl,⟨ok,E.keep [6,7,8],(show InR .i64 (14) by decide),r95,r170⟩⟩
  replace hF:=qah hc256 hF
  refine wpIn_skip ?_
  refine qad ?_
  refine wpIn_seq ?_
  refine wpIn_seq ?_
  obtain ⟨cs264,c265,M266,M267,M268,ok,hr269,hx270,he271,hh272⟩:=NRow.open h255 e226 ok
  obtain ⟨c278,c280,c283,M273,M274,rfl,rfl,l275,l276,l277,h279,h281,r282,h284⟩:=he271
  replace ok:=ok.splitM2
  refine qk5 (by kernel_rfl) rfl (by kernel_rfl) ok ?_
  refine qaS E (qac qkf rfl) rfl rfl fun a E=>?_
  refine qaS E (qaj qav rfl (qaf.own 4 rfl rfl)) rfl rfl fun a E=>?_
  refine qaS E (qbQ rfl rfl) rfl rfl fun a E=>?_
  refine qaS E (qaa rfl) rfl rfl fun a E=>?_
  refine qas (x160.comment != ([])) (fun hc285=>?_) (fun hc285=>?_)
  rotate_left
  ·as_aux_lemma =>
    replace hF:=qah hc285 hF
    replace E:=E.upd 137 hc285 rfl
    refine qgv E rfl rfl fun a E=>?_
    refine qgv E rfl rfl fun a E=>?_
    refine qgv E rfl rfl fun a E=>?_
    refine qgv E rfl rfl fun a E=>?_
    refine qgv E rfl rfl fun a E=>?_
    refine qgv E rfl rfl fun a E=>?_
    refine qgv E rfl rfl fun a E=>?_
    refine qgv E rfl rfl fun a E=>?_
    refine qaS E (qam rfl rfl) rfl rfl fun a E=>?_
    refine wpQuiet_nil ?_
    intro w ok
    refine qad ?_
    replace ok:=ok.joinM2
    obtain ⟨M643,ok,h644⟩:=NRow.close0 e226 ok hr269 hx270 (show qbw m130 [(Value.string (bs x225.ID)),(Value.string (bs x225.Source)),(Value.string (bs x225.Target)),c278,c280,(Value.int .i64 x225.State),c283] x225 (M273 ++ M274) from ⟨_,_,_,_,_,rfl,rfl,l275,l276,l277,h279,h281,r282,h284⟩) hh272
    refine r_if E rfl (fun h=>by cases h) (fun _=>?_)
    refine wpIn_skip ?_
    refine qad ?_
    refine wpIn_seq ?_
    refine wpIn_seq ?_
    refine qdQ rfl ?_
    refine qag E ok (qaa rfl) rfl rfl fun a E=>?_
    refine wpList_nil ⟨rfl,?_⟩
    refine qad ?_
    refine r_if E rfl (fun hc645=>?_) (fun hc645=>?_)
    rotate_left
    ·replace hF:=qah hc645 hF
     refine wpIn_skip ?_
     refine qad ?_
     refine qdQ rfl ?_
     refine qag E ok (qaa rfl) rfl rfl fun a E=>?_
     refine qag E ok (qbc rfl) rfl rfl fun a E=>?_
     refine qag E ok (qac qdE rfl) rfl rfl fun a E=>?_
     obtain ⟨cs725,c726,M727,M728,M729,ok,hr730,hx731,he732,hh733⟩:=NRow.open h644 e226 ok
     obtain ⟨c739,c741,c744,M734,M735,rfl,rfl,l736,l737,l738,h740,h742,r743,h745⟩:=he732
     replace ok:=ok.splitM2
     obtain ⟨hl746,hh747⟩:=qda hr730 hx731 hp229 (by decide)
     refine qag E ok (qaj qej rfl (qaf.sub 6 1 (hh747 _ _ _ 0 rfl))) rfl rfl fun a E=>?_
     obtain ⟨x748,e749,hF⟩:=bnd hF
     obtain ⟨b750,o751,hp752,yy753⟩:=qcv qcS h745 e749 (P:=Tryz.prog) (X:=.tmp 172) (I:=.const (Value.int .i64 0)) (kd:=.i64) (qao E rfl) (qao E rfl)
     refine qag E ok (yy753 _ _) rfl rfl fun a E=>?_
     refine qag E ok (qac qcN rfl) rfl rfl fun a E=>?_
     obtain ⟨es754,hl755,rr756,hh757⟩:=qeb h745 e749 hp752 (by decide)
     obtain ⟨rfl,l758,l759⟩:=rr756
     refine qag E ok (qaj qav rfl (qaf.sub 1 1 (hh757 _ _ _ 2 rfl))) rfl rfl fun a E=>?_
     refine qag E ok (qaa rfl) rfl rfl fun a E=>?_
     obtain ⟨s760,e761,hF⟩:=bnd hF
     refine qag E ok (qaQ rfl rfl e761) rfl rfl fun a E=>?_
     obtain ⟨x762,e763,hF⟩:=bnd hF
     obtain ⟨b764,o765,hp766,yy767⟩:=qcv qcS h745 e763 (P:=Tryz.prog) (X:=.tmp 172) (I:=.const (Value.int .i64 0)) (kd:=.i64) (qao E rfl) (qao E rfl)
     refine qag E ok (yy767 _ _) rfl rfl fun a E=>?_
     refine qag E ok (qac qcN rfl) rfl rfl fun a E=>?_
     obtain ⟨l770,e771,hF⟩:=bnd hF
     refine qc3 (R:=qet) (f:=1) E ok 2 rfl h745 e763 hp766 rfl rfl rfl qfy rfl rfl rfl ⟨rfl,trivial⟩ (fun es _ h=>by obtain ⟨rfl,l768,l769⟩:=h; exact ⟨rfl,l768,(qaN e761)⟩) e771 rfl fun M772 w ok h773=>?_
     refine wpList_nil ⟨rfl,?_⟩
     refine qar ?_
     replace ok:=ok.joinM2
     obtain ⟨M774,ok,h775⟩:=NRow.close e226 ok hr730 hx731 (show qbw m130 [(Value.string (bs x225.ID)),(Value.string (bs x225.Source)),(Value.string (bs x225.Target)),c739,c741,(Value.int .i64 x225.State),c744] (Entry.mk x225.ID x225.Source x225.Target x225.Comments x225.Flags x225.State l770) (M734 ++ M772) from ⟨_,_,_,_,_,rfl,rfl,l736,l737,l738,h740,h742,r743,h773⟩) hh733
     obtain rfl:=Option.some.inj hF
     exact hnK hcj rfl (ok.pk 11 [2,3,0,4,5,6,7,8,9,10] rfl (by decide)) h221 h775
    replace hF:=qai hc645 hF
    refine qdQ rfl ?_
    refine qag E ok (qaa rfl) rfl rfl fun a E=>?_
    refine qag E ok (qbc rfl) rfl rfl fun a E=>?_
    refine qag E ok (qac qdE rfl) rfl rfl fun a E=>?_
    obtain ⟨cs646,c647,M648,M649,M650,ok,hr651,hx652,he653,hh654⟩:=NRow.open h644 e226 ok
    obtain ⟨c660,c662,c665,M655,M656,rfl,rfl,l657,l658,l659,h661,h663,r664,h666⟩:=he653
    replace ok:=ok.splitM2
    obtain ⟨hl667,hh668⟩:=qda hr651 hx652 hp229 (by decide)
    refine qag E ok (qaj qej rfl (qaf.sub 6 1 (hh668 _ _ _ 0 rfl))) rfl rfl fun a E=>?_
    obtain ⟨x669,e670,hF⟩:=bnd hF
    obtain ⟨b671,o672,hp673,yy674⟩:=qcv qcS h666 e670 (P:=Tryz.prog) (X:=.tmp 162) (I:=.const (Value.int .i64 0)) (kd:=.i64) (qao E rfl) (qao E rfl)
    refine qag E ok (yy674 _ _) rfl rfl fun a E=>?_
    refine qag E ok (qac qcN rfl) rfl rfl fun a E=>?_
    obtain ⟨es675,hl676,rr677,hh678⟩:=qeb h666 e670 hp673 (by decide)
    obtain ⟨rfl,l679,l680⟩:=rr677
    refine qag E ok (qaj qav rfl (qaf.sub 1 1 (hh678 _ _ _ 2 rfl))) rfl rfl fun a E=>?_
    obtain ⟨s681,e682,hF⟩:=bnd hF
    refine qag E ok (qaQ rfl rfl e682) rfl rfl fun a E=>?_
    obtain ⟨x683,e684,hF⟩:=bnd hF
    obtain ⟨b685,o686,hp687,yy688⟩:=qcv qcS h666 e684 (P:=Tryz.prog) (X:=.tmp 162) (I:=.const (Value.int .i64 0)) (kd:=.i64) (qao E rfl) (qao E rfl)
    refine qag E ok (yy688 _ _) rfl rfl fun a E=>?_
    refine qag E ok (qac qcN rfl) rfl rfl fun a E=>?_
    obtain ⟨l691,e692,hF⟩:=bnd hF
    refine qc3 (R:=qet) (f:=1) E ok 2 rfl h666 e684 hp687 rfl rfl rfl qfy rfl rfl rfl ⟨rfl,trivial⟩ (fun es _ h=>by obtain ⟨rfl,l689,l690⟩:=h; exact ⟨rfl,l689,(qaN e682)⟩) e692 rfl fun M693 w ok h694=>?_
    refine wpList_nil ⟨rfl,?_⟩
    refine qad ?_
    refine qdQ rfl ?_
    refine qag E ok (qaa rfl) rfl rfl fun a E=>?_
    refine qag E ok (qbc rfl) rfl rfl fun a E=>?_
    refine qag E ok (qac qdE rfl) rfl rfl fun a E=>?_
    obtain ⟨hl695,hh696⟩:=qda hr651 hx652 hp229 (by decide)
    refine qag E ok (qaj qej rfl (qaf.sub 6 1 (hh696 _ _ _ 0 rfl))) rfl rfl fun a E=>?_
    obtain ⟨x697,e698,hF⟩:=bnd hF
    obtain ⟨b699,o700,hp701,yy702⟩:=qcv qcS h694 e698 (P:=Tryz.prog) (X:=.tmp 172) (I:=.const (Value.int .i64 0)) (kd:=.i64) (qao E rfl) (qao E rfl)
    refine qag E ok (yy702 _ _) rfl rfl fun a E=>?_
    refine qag E ok (qac qcN rfl) rfl rfl fun a E=>?_
    obtain ⟨es703,hl704,rr705,hh706⟩:=qeb h694 e698 hp701 (by decide)
    obtain ⟨rfl,l707,l708⟩:=rr705
    refine qag E ok (qaj qav rfl (qaf.sub 1 1 (hh706 _ _ _ 2 rfl))) rfl rfl fun a E=>?_
    refine qag E ok (qaa rfl) rfl rfl fun a E=>?_
    obtain ⟨s709,e710,hF⟩:=bnd hF
    refine qag E ok (qaQ rfl rfl e710) rfl rfl fun a E=>?_
    obtain ⟨x711,e712,hF⟩:=bnd hF
    obtain ⟨b713,o714,hp715,yy716⟩:=qcv qcS h694 e712 (P:=Tryz.prog) (X:=.tmp 172) (I:=.const (Value.int .i64 0)) (kd:=.i64) (qao E rfl) (qao E rfl)
    refine qag E ok (yy716 _ _) rfl rfl fun a E=>?_
    refine qag E ok (qac qcN rfl) rfl rfl fun a E=>?_
    obtain ⟨l719,e720,hF⟩:=bnd hF
    refine qc3 (R:=qet) (f:=1) E ok 2 rfl h694 e712 hp715 rfl rfl rfl qfy rfl rfl rfl ⟨rfl,trivial⟩ (fun es _ h=>by obtain ⟨rfl,l717,l718⟩:=h; exact ⟨rfl,l717,(qaN e710)⟩) e720 rfl fun M721 w ok h722=>?_
    refine wpList_nil ⟨rfl,?_⟩
    refine qar ?_
    replace ok:=ok.joinM2
    obtain ⟨M723,ok,h724⟩:=NRow.close e226 ok hr651 hx652 (show qbw m130 [(Value.string (bs x225.ID)),(Value.string (bs x225.Source)),(Value.string (bs x225.Target)),c660,c662,(Value.int .i64 x225.State),c665] (Entry.mk x225.ID x225.Source x225.Target x225.Comments x225.Flags x225.State l719) (M655 ++ M721) from ⟨_,_,_,_,_,rfl,rfl,l657,l658,l659,h661,h663,r664,h722⟩) hh654
    obtain rfl:=Option.some.inj hF
    exact hnK hcj rfl (ok.pk 11 [2,3,0,4,5,6,7,8,9,10] rfl (by decide)) h221 h724
  replace hF:=qai hc285 hF
  replace E:=E.upd 137 hc285 rfl
  refine qaS E (qaa rfl) rfl rfl fun a E=>?_
  refine qaS E (qbc rfl) rfl rfl fun a E=>?_
  refine qaS E (qac qiA rfl) rfl rfl fun a E=>?_
  obtain ⟨hl286,hh287⟩:=qda hr269 hx270 hp229 (by decide)
  refine qaS E (qaj qit rfl (qaf.sub 3 1 (hh287 _ _ _ 0 rfl))) rfl rfl fun a E=>?_
  refine qaS E (qac qkf rfl) rfl rfl fun a E=>?_
  refine qaS E (qaj qav rfl (qaf.own 4 rfl rfl)) rfl rfl fun a E=>?_
  obtain ⟨r293,e294,hF⟩:=bnd hF
  refine qfh E (v:=(Value.bool r293)) qqi rfl (fun w ok=>?_) rfl rfl fun a E=>?_
  ·obtain ⟨m288,hle290,ok289,hfz291⟩:=(ok.frs 1 rfl).freeze
   have h292:=ORow.froz mS h279 hle290 hfz291 (by decide)
   refine Calls.mono (qgq N _ x225.Comments h292 x160.comment l173 e294 hG ok289) fun _ _ hz=>?_
   obtain ⟨hz1,okz⟩:=hz
   exact ⟨hz1,(Ok.thawAt 1 rfl ok hle290 hfz291 okz)⟩
  refine qaS E (qbP rfl) rfl rfl fun a E=>?_
  refine qaS E (qak rfl rfl) rfl rfl fun a E=>?_
  refine wpQuiet_nil ?_
  intro w ok
  refine qad ?_
  replace ok:=ok.joinM2
  obtain ⟨M295,ok,h296⟩:=NRow.close0 e226 ok hr269 hx270 (show qbw m130 [(Value.string (bs x225.ID)),(Value.string (bs x225.Source)),(Value.string (bs x225.Target)),c278,c280,(Value.int .i64 x225.State),c283] x225 (M273 ++ M274) from ⟨_,_,_,_,_,rfl,rfl,l275,l276,l277,h279,h281,r282,h284⟩) hh272
  refine r_if E rfl (fun hc297=>?_) (fun hc297=>?_)
  rotate_left
  ·as_aux_lemma =>
    replace hF:=qah hc297 hF
    refine wpIn_skip ?_
    refine qad ?_
    refine wpIn_seq ?_
    refine wpIn_seq ?_
    refine qdQ rfl ?_
    refine qag E ok (qaa rfl) rfl rfl fun a E=>?_
    refine wpList_nil ⟨rfl,?_⟩
    refine qad ?_
    refine r_if E rfl (fun hc512=>?_) (fun hc512=>?_)
    rotate_left
    ·replace hF:=qah hc512 hF
     refine wpIn_skip ?_
     refine qad ?_
     refine qdQ rfl ?_
     refine qag E ok (qaa rfl) rfl rfl fun a E=>?_
     refine qag E ok (qbc rfl) rfl rfl fun a E=>?_
     refine qag E ok (qac qdE rfl) rfl rfl fun a E=>?_
     obtain ⟨cs592,c593,M594,M595,M596,ok,hr597,hx598,he599,hh600⟩:=NRow.open h296 e226 ok
     obtain ⟨c606,c608,c611,M601,M602,rfl,rfl,l603,l604,l605,h607,h609,r610,h612⟩:=he599
     replace ok:=ok.splitM2
     obtain ⟨hl613,hh614⟩:=qda hr597 hx598 hp229 (by decide)
     refine qag E ok (qaj qej rfl (qaf.sub 6 1 (hh614 _ _ _ 0 rfl))) rfl rfl fun a E=>?_
     obtain ⟨x615,e616,hF⟩:=bnd hF
     obtain ⟨b617,o618,hp619,yy620⟩:=qcv qcS h612 e616 (P:=Tryz.prog) (X:=.tmp 172) (I:=.const (Value.int .i64 0)) (kd:=.i64) (qao E rfl) (qao E rfl)
     refine qag E ok (yy620 _ _) rfl rfl fun a E=>?_
     refine qag E ok (qac qcN rfl) rfl rfl fun a E=>?_
     obtain ⟨es621,hl622,rr623,hh624⟩:=qeb h612 e616 hp619 (by decide)
     obtain ⟨rfl,l625,l626⟩:=rr623
     refine qag E ok (qaj qav rfl (qaf.sub 1 1 (hh624 _ _ _ 2 rfl))) rfl rfl fun a E=>?_
     refine qag E ok (qaa rfl) rfl rfl fun a E=>?_
     obtain ⟨s627,e628,hF⟩:=bnd hF
     refine qag E ok (qaQ rfl rfl e628) rfl rfl fun a E=>?_
     obtain ⟨x629,e630,hF⟩:=bnd hF
     obtain ⟨b631,o632,hp633,yy634⟩:=qcv qcS h612 e630 (P:=Tryz.prog) (X:=.tmp 172) (I:=.const (Value.int .i64 0)) (kd:=.i64) (qao E rfl) (qao E rfl)
     refine qag E ok (yy634 _ _) rfl rfl fun a E=>?_
     refine qag E ok (qac qcN rfl) rfl rfl fun a E=>?_
     obtain ⟨l637,e638,hF⟩:=bnd hF
     refine qc3 (R:=qet) (f:=1) E ok 2 rfl h612 e630 hp633 rfl rfl rfl qfy rfl rfl rfl ⟨rfl,trivial⟩ (fun es _ h=>by obtain ⟨rfl,l635,l636⟩:=h; exact ⟨rfl,l635,(qaN e628)⟩) e638 rfl fun M639 w ok h640=>?_
     refine wpList_nil ⟨rfl,?_⟩
     refine qar ?_
     replace ok:=ok.joinM2
     obtain ⟨M641,ok,h642⟩:=NRow.close e226 ok hr597 hx598 (show qbw m130 [(Value.string (bs x225.ID)),(Value.string (bs x225.Source)),(Value.string (bs x225.Target)),c606,c608,(Value.int .i64 x225.State),c611] (Entry.mk x225.ID x225.Source x225.Target x225.Comments x225.Flags x225.State l637) (M601 ++ M639) from ⟨_,_,_,_,_,rfl,rfl,l603,l604,l605,h607,h609,r610,h640⟩) hh600
     obtain rfl:=Option.some.inj hF
     exact hnK hcj rfl (ok.pk 11 [2,3,0,4,5,6,7,8,9,10] rfl (by decide)) h221 h642
    replace hF:=qai hc512 hF
    refine qdQ rfl ?_
    refine qag E ok (qaa rfl) rfl rfl fun a E=>?_
    refine qag E ok (qbc rfl) rfl rfl fun a E=>?_
    refine qag E ok (qac qdE rfl) rfl rfl fun a E=>?_
    obtain ⟨cs513,c514,M515,M516,M517,ok,hr518,hx519,he520,hh521⟩:=NRow.open h296 e226 ok
    obtain ⟨c527,c529,c532,M522,M523,rfl,rfl,l524,l525,l526,h528,h530,r531,h533⟩:=he520
    replace ok:=ok.splitM2
    obtain ⟨hl534,hh535⟩:=qda hr518 hx519 hp229 (by decide)
    refine qag E ok (qaj qej rfl (qaf.sub 6 1 (hh535 _ _ _ 0 rfl))) rfl rfl fun a E=>?_
    obtain ⟨x536,e537,hF⟩:=bnd hF
    obtain ⟨b538,o539,hp540,yy541⟩:=qcv qcS h533 e537 (P:=Tryz.prog) (X:=.tmp 162) (I:=.const (Value.int .i64 0)) (kd:=.i64) (qao E rfl) (qao E rfl)
    refine qag E ok (yy541 _ _) rfl rfl fun a E=>?_
    refine qag E ok (qac qcN rfl) rfl rfl fun a E=>?_
    obtain ⟨es542,hl543,rr544,hh545⟩:=qeb h533 e537 hp540 (by decide)
    obtain ⟨rfl,l546,l547⟩:=rr544
    refine qag E ok (qaj qav rfl (qaf.sub 1 1 (hh545 _ _ _ 2 rfl))) rfl rfl fun a E=>?_
    obtain ⟨s548,e549,hF⟩:=bnd hF
    refine qag E ok (qaQ rfl rfl e549) rfl rfl fun a E=>?_
    obtain ⟨x550,e551,hF⟩:=bnd hF
    obtain ⟨b552,o553,hp554,yy555⟩:=qcv qcS h533 e551 (P:=Tryz.prog) (X:=.tmp 162) (I:=.const (Value.int .i64 0)) (kd:=.i64) (qao E rfl) (qao E rfl)
    refine qag E ok (yy555 _ _) rfl rfl fun a E=>?_
    refine qag E ok (qac qcN rfl) rfl rfl fun a E=>?_
    obtain ⟨l558,e559,hF⟩:=bnd hF
    refine qc3 (R:=qet) (f:=1) E ok 2 rfl h533 e551 hp554 rfl rfl rfl qfy rfl rfl rfl ⟨rfl,trivial⟩ (fun es _ h=>by obtain ⟨rfl,l556,l557⟩:=h; exact ⟨rfl,l556,(qaN e549)⟩) e559 rfl fun M560 w ok h561=>?_
    refine wpList_nil ⟨rfl,?_⟩
    refine qad ?_
    refine qdQ rfl ?_
    refine qag E ok (qaa rfl) rfl rfl fun a E=>?_
    refine qag E ok (qbc rfl) rfl rfl fun a E=>?_
    refine qag E ok (qac qdE rfl) rfl rfl fun a E=>?_
    obtain ⟨hl562,hh563⟩:=qda hr518 hx519 hp229 (by decide)
    refine qag E ok (qaj qej rfl (qaf.sub 6 1 (hh563 _ _ _ 0 rfl))) rfl rfl fun a E=>?_
    obtain ⟨x564,e565,hF⟩:=bnd hF
    obtain ⟨b566,o567,hp568,yy569⟩:=qcv qcS h561 e565 (P:=Tryz.prog) (X:=.tmp 172) (I:=.const (Value.int .i64 0)) (kd:=.i64) (qao E rfl) (qao E rfl)
    refine qag E ok (yy569 _ _) rfl rfl fun a E=>?_
    refine qag E ok (qac qcN rfl) rfl rfl fun a E=>?_
    obtain ⟨es570,hl571,rr572,hh573⟩:=qeb h561 e565 hp568 (by decide)
    obtain ⟨rfl,l574,l575⟩:=rr572
    refine qag E ok (qaj qav rfl (qaf.sub 1 1 (hh573 _ _ _ 2 rfl))) rfl rfl fun a E=>?_
    refine qag E ok (qaa rfl) rfl rfl fun a E=>?_
    obtain ⟨s576,e577,hF⟩:=bnd hF
    refine qag E ok (qaQ rfl rfl e577) rfl rfl fun a E=>?_
    obtain ⟨x578,e579,hF⟩:=bnd hF
    obtain ⟨b580,o581,hp582,yy583⟩:=qcv qcS h561 e579 (P:=Tryz.prog) (X:=.tmp 172) (I:=.const (Value.int .i64 0)) (kd:=.i64) (qao E rfl) (qao E rfl)
    refine qag E ok (yy583 _ _) rfl rfl fun a E=>?_
    refine qag E ok (qac qcN rfl) rfl rfl fun a E=>?_
    obtain ⟨l586,e587,hF⟩:=bnd hF
    refine qc3 (R:=qet) (f:=1) E ok 2 rfl h561 e579 hp582 rfl rfl rfl qfy rfl rfl rfl ⟨rfl,trivial⟩ (fun es _ h=>by obtain ⟨rfl,l584,l585⟩:=h; exact ⟨rfl,l584,(qaN e577)⟩) e587 rfl fun M588 w ok h589=>?_
    refine wpList_nil ⟨rfl,?_⟩
    refine qar ?_
    replace ok:=ok.joinM2
    obtain ⟨M590,ok,h591⟩:=NRow.close e226 ok hr518 hx519 (show qbw m130 [(Value.string (bs x225.ID)),(Value.string (bs x225.Source)),(Value.string (bs x225.Target)),c527,c529,(Value.int .i64 x225.State),c532] (Entry.mk x225.ID x225.Source x225.Target x225.Comments x225.Flags x225.State l586) (M522 ++ M588) from ⟨_,_,_,_,_,rfl,rfl,l524,l525,l526,h528,h530,r531,h589⟩) hh521
    obtain rfl:=Option.some.inj hF
    exact hnK hcj rfl (ok.pk 11 [2,3,0,4,5,6,7,8,9,10] rfl (by decide)) h221 h591
  replace hF:=qai hc297 hF
  obtain ⟨o298,hJ,hF⟩:=bnd hF
  refine qmc (Q':=fun e a w=>e = .normal ∧ ∃ c299 M300,Ok u m130 (M300 :: [(b174,Obj.cells [(Value.int .i64 x160.call),(Value.int .i64 x160.offset),(Value.string (bs x160.id)),(Value.string (bs x160.source)),(Value.string (bs x160.comment))].toArray 105 (0,0))] :: [(b115,Obj.cells [(Value.string (bs x103.Name)),(Value.string (bs x103.Text))].toArray 75 (0,0))] :: [(b114,Obj.cells [(Value.int .i64 x_91)].toArray 3 (0,0))] :: [(b71,Obj.cells [c219].toArray 130 (0,0))] :: M220 :: [(b67,Obj.cells [c299].toArray 44 (0,0))] :: M65 :: [(b3,Obj.cells [(Value.int .i64 0)].toArray 47 (0,0))] :: [(b2,Obj.cells [(Value.int .i64 0),(Value.int .i64 0)].toArray 46 (0,0))] :: [(b1,Obj.cells [(Value.slice none 0 0)].toArray 44 (0,0))] :: S1) w ∧ Env 187 a [(1,vcalls_1),(6,(Value.pointer (some ⟨b1,0,none⟩))),(7,(Value.pointer (some ⟨b2,0,none⟩))),(8,(Value.pointer (some ⟨b3,0,none⟩))),(9,c64),(15,(Value.pointer (some ⟨b67,0,none⟩))),(16,(Value.pointer (some ⟨b71,0,none⟩))),(17,(Value.pointer (some ⟨b114,0,none⟩))),(18,(Value.pointer (some ⟨b115,0,none⟩))),(20,(Value.string (bs s185))),(22,(Value.bool ((mget x_150 x160.id).isSome))),(23,(Value.pointer (some ⟨b227,o228,none⟩))),(69,vfiles_2),(70,(Value.int .i64 (files_2.length:Int))),(71,(Value.int .i64 x_91))] ∧ NRow 53 7 qbw m130 c299 o298.1 M300 ∧ NPtr 7 c299 o192.1 b227 o228) ?_ ?_
  ·replace hF:=hJ
   clear hJ
   obtain ⟨l329,e330,hF⟩:=bnd hF
   obtain rfl:=Option.some.inj hF
   obtain ⟨cs340,c341,M342,M343,M344,ok,hr345,hx346,he347,hh348⟩:=NRow.open h296 e226 ok
   obtain ⟨c354,c356,c359,M349,M350,rfl,rfl,l351,l352,l353,h355,h357,r358,h360⟩:=he347
   replace ok:=ok.splitM2
   refine qme [4,6] (Cls u m130 (M342 :: [(b174,Obj.cells [(Value.int .i64 x160.call),(Value.int .i64 x160.offset),(Value.string (bs x160.id)),(Value.string (bs x160.source)),(Value.string (bs x160.comment))].toArray 105 (0,0))] :: [(b115,Obj.cells [(Value.string (bs x103.Name)),(Value.string (bs x103.Text))].toArray 75 (0,0))] :: [(b114,Obj.cells [(Value.int .i64 x_91)].toArray 3 (0,0))] :: [(b71,Obj.cells [c219].toArray 130 (0,0))] :: M220 :: [(b67,Obj.cells [c222].toArray 44 (0,0))] :: M65 :: [(b3,Obj.cells [(Value.int .i64 0)].toArray 47 (0,0))] :: [(b2,Obj.cells [(Value.int .i64 0),(Value.int .i64 0)].toArray 46 (0,0))] :: [(b1,Obj.cells [(Value.slice none 0 0)].toArray 44 (0,0))] :: [])) (Cls u m130 ([(b174,Obj.cells [(Value.int .i64 x160.call),(Value.int .i64 x160.offset),(Value.string (bs x160.id)),(Value.string (bs x160.source)),(Value.string (bs x160.comment))].toArray 105 (0,0))] :: [(b115,Obj.cells [(Value.string (bs x103.Name)),(Value.string (bs x103.Text))].toArray 75 (0,0))] :: [(b114,Obj.cells [(Value.int .i64 x_91)].toArray 3 (0,0))] :: [(b71,Obj.cells [c219].toArray 130 (0,0))] :: M220 :: M65 :: [(b3,Obj.cells [(Value.int .i64 0)].toArray 47 (0,0))] :: [(b2,Obj.cells [(Value.int .i64 0),(Value.int .i64 0)].toArray 46 (0,0))] :: [(b1,Obj.cells [(Value.slice none 0 0)].toArray 44 (0,0))] :: [])) (by kernel_rfl) rfl ?_
   intro w hw
   replace ok:=qcV ok hw
   clear hw
   have le_m130:=Mem.le.refl m130
   refine qaM (cl1 ⟨m130,_,le_m130,ok,⟨qal 0 rfl,qal 4 rfl,qal 5 rfl,qal 6 rfl,qal 7 rfl,qal 8 rfl,qal 9 rfl,qal 10 rfl,qal 11 rfl,qal 12 rfl,qal 13 rfl,trivial⟩⟩ ⟨m130,_,le_m130,ok,⟨qal 4 rfl,qal 5 rfl,qal 6 rfl,qal 7 rfl,qal 8 rfl,qal 10 rfl,qal 11 rfl,qal 12 rfl,qal 13 rfl,trivial⟩⟩) fun hT=>?_
   refine qc6 0 E rfl (by kernel_rfl) nP hT (qaa rfl) rfl rfl fun a E=>?_
   refine qc6 1 E rfl (by kernel_rfl) nP hT (qaa rfl) rfl rfl fun a E=>?_
   refine qc6 2 E rfl (by kernel_rfl) nP hT (qbc rfl) rfl rfl fun a E=>?_
   refine qc6 3 E rfl (by kernel_rfl) nP hT (qac qiA rfl) rfl rfl fun a E=>?_
   obtain ⟨hl361,hh362⟩:=qda hr345 hx346 hp229 (by decide)
   refine qbE 4 E rfl (by kernel_rfl) nP hT (qaj qit rfl (qaf.sub 3 1 (qaf.crow hh362 0 rfl))) rfl rfl fun a E=>?_
   refine qc6 5 E rfl (by kernel_rfl) nP hT (qac qkf rfl) rfl rfl fun a E=>?_
   refine qbE 6 E rfl (by kernel_rfl) nP hT (qaj qav rfl (qaf.cown 1 rfl rfl)) rfl rfl fun a E=>?_
   refine qbj [7] (by kernel_rfl) rfl (qbk ?_)
   ·refine qaz (o:=_) rfl ?_
    refine qbf (R:=pS) (xo:=[.tmp 153]) (xs:=([x160.comment]:List (List UInt8))) E ok qg3 ql7 rfl ⟨⟨_,rfl,rfl,(qoC l173)⟩,trivial⟩ rfl rfl rfl rfl fun c363 M364 a w E ok h365=>?_
    refine wpList_nil ?_
    refine qad ?_
    refine qaM (cl1 ⟨m130,_,le_m130,ok,⟨qal 1 rfl,qal 5 rfl,qal 6 rfl,qal 7 rfl,qal 8 rfl,qal 9 rfl,qal 10 rfl,qal 11 rfl,qal 12 rfl,qal 13 rfl,qal 14 rfl,trivial⟩⟩ ⟨m130,_,le_m130,ok,⟨qal 5 rfl,qal 6 rfl,qal 7 rfl,qal 8 rfl,qal 9 rfl,qal 11 rfl,qal 12 rfl,qal 13 rfl,qal 14 rfl,trivial⟩⟩) fun hT=>?_
    refine qbj [8] (by kernel_rfl) rfl (qbk ?_)
    ·refine qaz (o:=_) rfl ?_
     refine qcI (R:=pS) E ok 2 mS qg3 Tryz.underlying50 rfl h355 (qbo.ofRow h365 0 rfl ok) e330 ⟨_,ql7,rfl⟩ rfl rfl rfl rfl fun c366 M367 a w E ok h368=>?_
     refine wpList_nil ?_
     refine qad ?_
     refine qaM (cl1 ⟨m130,_,le_m130,ok,⟨qal 1 rfl,qal 5 rfl,qal 6 rfl,qal 7 rfl,qal 8 rfl,qal 9 rfl,qal 10 rfl,qal 11 rfl,qal 12 rfl,qal 13 rfl,qal 14 rfl,trivial⟩⟩ ⟨m130,_,le_m130,ok,⟨qal 5 rfl,qal 6 rfl,qal 7 rfl,qal 8 rfl,qal 9 rfl,qal 11 rfl,qal 12 rfl,qal 13 rfl,qal 14 rfl,trivial⟩⟩) fun hT=>?_
     refine qc6 9 E rfl (by kernel_rfl) nP hT (qbc rfl) rfl rfl fun a E=>?_
     refine qc6 10 E rfl (by kernel_rfl) nP hT (qac qiA rfl) rfl rfl fun a E=>?_
     refine qbj [11] (by kernel_rfl) rfl (qbk ?_)
     ·refine qaz (o:=_) rfl ?_
      refine qfN (f:=3) (c':=[(Value.string (bs x225.ID)),(Value.string (bs x225.Source)),(Value.string (bs x225.Target)),c366,c356,(Value.int .i64 x225.State),c359]) E ok 1 rfl hr345 hx346 hp229 rfl rfl rfl qpx (ORow.cells h368) rfl rfl ⟨(ORow.one h368),trivial⟩ rfl ⟨rfl,rfl,rfl,(ORow.one h368),(qbB h357),rfl,(ORow.one h360),trivial⟩ rfl fun M369 w ok hr370 hx371=>?_
      have hh372:=qdH.set (c':=[(Value.string (bs x225.ID)),(Value.string (bs x225.Source)),(Value.string (bs x225.Target)),c366,c356,(Value.int .i64 x225.State),c359]) hh348
      refine wpList_nil ?_
      refine qad ?_
      refine qaM (cl2 (by kernel_rfl) ⟨m130,_,le_m130,ok,⟨qal 5 rfl,qal 6 rfl,qal 7 rfl,qal 8 rfl,qal 9 rfl,qal 11 rfl,qal 12 rfl,qal 13 rfl,qal 14 rfl,trivial⟩⟩) fun hT=>?_
      refine qcP (by kernel_rfl) ⟨rfl,?_⟩
      replace ok:Ok u m130 (M369 :: M367 :: M350 :: M344 :: M364 :: [(b174,Obj.cells [(Value.int .i64 x160.call),(Value.int .i64 x160.offset),(Value.string (bs x160.id)),(Value.string (bs x160.source)),(Value.string (bs x160.comment))].toArray 105 (0,0))] :: [(b115,Obj.cells [(Value.string (bs x103.Name)),(Value.string (bs x103.Text))].toArray 75 (0,0))] :: [(b114,Obj.cells [(Value.int .i64 x_91)].toArray 3 (0,0))] :: [(b71,Obj.cells [c219].toArray 130 (0,0))] :: M220 :: [(b67,Obj.cells [c222].toArray 44 (0,0))] :: M65 :: [(b3,Obj.cells [(Value.int .i64 0)].toArray 47 (0,0))] :: [(b2,Obj.cells [(Value.int .i64 0),(Value.int .i64 0)].toArray 46 (0,0))] :: [(b1,Obj.cells [(Value.slice none 0 0)].toArray 44 (0,0))] :: S1) w:=(ok.pk 15 [1,2,3,4,0,5,6,7,8,9,10,11,12,13,14] rfl (by decide))
      replace ok:=ok.joinM2
      obtain ⟨M373,ok,h374⟩:=NRow.close e226 ok hr370 hx371 (show qbw m130 [(Value.string (bs x225.ID)),(Value.string (bs x225.Source)),(Value.string (bs x225.Target)),c366,c356,(Value.int .i64 x225.State),c359] (Entry.mk x225.ID x225.Source x225.Target l329 x225.Flags x225.State x225.Fields) (M367 ++ M350) from ⟨_,_,_,_,_,rfl,rfl,l351,l352,l353,h368,h357,r358,h360⟩) hh372
      exact ⟨rfl,⟨c222,M373,(ok.pk 12 [0,2,3,4,5,6,7,8,9,10,11] rfl (by decide)),E.keep [1,6,7,8,9,15,16,17,18,20,22,23,69,70,71],h374,hp229⟩⟩
  clear hJ
  intro e a w hO
  obtain ⟨rfl,c375,M376,ok,E,h377,hp378⟩:=hO
  obtain ⟨x379,e380,hF⟩:=bnd hF
  refine qad ?_
  refine wpIn_seq ?_
  refine wpIn_seq ?_
  refine qdQ rfl ?_
  refine qag E ok (qaa rfl) rfl rfl fun a E=>?_
  refine wpList_nil ⟨rfl,?_⟩
  refine qad ?_
  refine r_if E rfl (fun hc381=>?_) (fun hc381=>?_)
  rotate_left
  ·replace hF:=qah hc381 hF
   refine wpIn_skip ?_
   refine qad ?_
   refine qdQ rfl ?_
   refine qag E ok (qaa rfl) rfl rfl fun a E=>?_
   refine qag E ok (qbc rfl) rfl rfl fun a E=>?_
   refine qag E ok (qac qdE rfl) rfl rfl fun a E=>?_
   obtain ⟨cs461,c462,M463,M464,M465,ok,hr466,hx467,he468,hh469⟩:=NRow.open h377 e380 ok
   obtain ⟨c475,c477,c480,M470,M471,rfl,rfl,l472,l473,l474,h476,h478,r479,h481⟩:=he468
   replace ok:=ok.splitM2
   obtain ⟨hl482,hh483⟩:=qda hr466 hx467 hp378 (by decide)
   refine qag E ok (qaj qej rfl (qaf.sub 6 1 (hh483 _ _ _ 0 rfl))) rfl rfl fun a E=>?_
   obtain ⟨x484,e485,hF⟩:=bnd hF
   obtain ⟨b486,o487,hp488,yy489⟩:=qcv qcS h481 e485 (P:=Tryz.prog) (X:=.tmp 172) (I:=.const (Value.int .i64 0)) (kd:=.i64) (qao E rfl) (qao E rfl)
   refine qag E ok (yy489 _ _) rfl rfl fun a E=>?_
   refine qag E ok (qac qcN rfl) rfl rfl fun a E=>?_
   obtain ⟨es490,hl491,rr492,hh493⟩:=qeb h481 e485 hp488 (by decide)
   obtain ⟨rfl,l494,l495⟩:=rr492
   refine qag E ok (qaj qav rfl (qaf.sub 1 1 (hh493 _ _ _ 2 rfl))) rfl rfl fun a E=>?_
   refine qag E ok (qaa rfl) rfl rfl fun a E=>?_
   obtain ⟨s496,e497,hF⟩:=bnd hF
   refine qag E ok (qaQ rfl rfl e497) rfl rfl fun a E=>?_
   obtain ⟨x498,e499,hF⟩:=bnd hF
   obtain ⟨b500,o501,hp502,yy503⟩:=qcv qcS h481 e499 (P:=Tryz.prog) (X:=.tmp 172) (I:=.const (Value.int .i64 0)) (kd:=.i64) (qao E rfl) (qao E rfl)
   refine qag E ok (yy503 _ _) rfl rfl fun a E=>?_
   refine qag E ok (qac qcN rfl) rfl rfl fun a E=>?_
   obtain ⟨l506,e507,hF⟩:=bnd hF
   refine qc3 (R:=qet) (f:=1) E ok 2 rfl h481 e499 hp502 rfl rfl rfl qfy rfl rfl rfl ⟨rfl,trivial⟩ (fun es _ h=>by obtain ⟨rfl,l504,l505⟩:=h; exact ⟨rfl,l504,(qaN e497)⟩) e507 rfl fun M508 w ok h509=>?_
   refine wpList_nil ⟨rfl,?_⟩
   refine qar ?_
   replace ok:=ok.joinM2
   obtain ⟨M510,ok,h511⟩:=NRow.close e380 ok hr466 hx467 (show qbw m130 [(Value.string (bs x379.ID)),(Value.string (bs x379.Source)),(Value.string (bs x379.Target)),c475,c477,(Value.int .i64 x379.State),c480] (Entry.mk x379.ID x379.Source x379.Target x379.Comments x379.Flags x379.State l506) (M470 ++ M508) from ⟨_,_,_,_,_,rfl,rfl,l472,l473,l474,h476,h478,r479,h509⟩) hh469
   obtain rfl:=Option.some.inj hF
   exact hnK hcj rfl (ok.pk 11 [2,3,0,4,5,6,7,8,9,10] rfl (by decide)) h221 h511
  replace hF:=qai hc381 hF
  refine qdQ rfl ?_
  refine qag E ok (qaa rfl) rfl rfl fun a E=>?_
  refine qag E ok (qbc rfl) rfl rfl fun a E=>?_
  refine qag E ok (qac qdE rfl) rfl rfl fun a E=>?_
  obtain ⟨cs382,c383,M384,M385,M386,ok,hr387,hx388,he389,hh390⟩:=NRow.open h377 e380 ok
  obtain ⟨c396,c398,c401,M391,M392,rfl,rfl,l393,l394,l395,h397,h399,r400,h402⟩:=he389
  replace ok:=ok.splitM2
  obtain ⟨hl403,hh404⟩:=qda hr387 hx388 hp378 (by decide)
  refine qag E ok (qaj qej rfl (qaf.sub 6 1 (hh404 _ _ _ 0 rfl))) rfl rfl fun a E=>?_
  obtain ⟨x405,e406,hF⟩:=bnd hF
  obtain ⟨b407,o408,hp409,yy410⟩:=qcv qcS h402 e406 (P:=Tryz.prog) (X:=.tmp 162) (I:=.const (Value.int .i64 0)) (kd:=.i64) (qao E rfl) (qao E rfl)
  refine qag E ok (yy410 _ _) rfl rfl fun a E=>?_
  refine qag E ok (qac qcN rfl) rfl rfl fun a E=>?_
  obtain ⟨es411,hl412,rr413,hh414⟩:=qeb h402 e406 hp409 (by decide)
  obtain ⟨rfl,l415,l416⟩:=rr413
  refine qag E ok (qaj qav rfl (qaf.sub 1 1 (hh414 _ _ _ 2 rfl))) rfl rfl fun a E=>?_
  obtain ⟨s417,e418,hF⟩:=bnd hF
  refine qag E ok (qaQ rfl rfl e418) rfl rfl fun a E=>?_
  obtain ⟨x419,e420,hF⟩:=bnd hF
  obtain ⟨b421,o422,hp423,yy424⟩:=qcv qcS h402 e420 (P:=Tryz.prog) (X:=.tmp 162) (I:=.const (Value.int .i64 0)) (kd:=.i64) (qao E rfl) (qao E rfl)
  refine qag E ok (yy424 _ _) rfl rfl fun a E=>?_
  refine qag E ok (qac qcN rfl) rfl rfl fun a E=>?_
  obtain ⟨l427,e428,hF⟩:=bnd hF
  refine qc3 (R:=qet) (f:=1) E ok 2 rfl h402 e420 hp423 rfl rfl rfl qfy rfl rfl rfl ⟨rfl,trivial⟩ (fun es _ h=>by obtain ⟨rfl,l425,l426⟩:=h; exact ⟨rfl,l425,(qaN e418)⟩) e428 rfl fun M429 w ok h430=>?_
  refine wpList_nil ⟨rfl,?_⟩
  refine qad ?_
  refine qdQ rfl ?_
  refine qag E ok (qaa rfl) rfl rfl fun a E=>?_
  refine qag E ok (qbc rfl) rfl rfl fun a E=>?_
  refine qag E ok (qac qdE rfl) rfl rfl fun a E=>?_
  obtain ⟨hl431,hh432⟩:=qda hr387 hx388 hp378 (by decide)
  refine qag E ok (qaj qej rfl (qaf.sub 6 1 (hh432 _ _ _ 0 rfl))) rfl rfl fun a E=>?_
  obtain ⟨x433,e434,hF⟩:=bnd hF
  obtain ⟨b435,o436,hp437,yy438⟩:=qcv qcS h430 e434 (P:=Tryz.prog) (X:=.tmp 172) (I:=.const (Value.int .i64 0)) (kd:=.i64) (qao E rfl) (qao E rfl)
  refine qag E ok (yy438 _ _) rfl rfl fun a E=>?_
  refine qag E ok (qac qcN rfl) rfl rfl fun a E=>?_
  obtain ⟨es439,hl440,rr441,hh442⟩:=qeb h430 e434 hp437 (by decide)
  obtain ⟨rfl,l443,l444⟩:=rr441
  refine qag E ok (qaj qav rfl (qaf.sub 1 1 (hh442 _ _ _ 2 rfl))) rfl rfl fun a E=>?_
  refine qag E ok (qaa rfl) rfl rfl fun a E=>?_
  obtain ⟨s445,e446,hF⟩:=bnd hF
  refine qag E ok (qaQ rfl rfl e446) rfl rfl fun a E=>?_
  obtain ⟨x447,e448,hF⟩:=bnd hF
  obtain ⟨b449,o450,hp451,yy452⟩:=qcv qcS h430 e448 (P:=Tryz.prog) (X:=.tmp 172) (I:=.const (Value.int .i64 0)) (kd:=.i64) (qao E rfl) (qao E rfl)
  refine qag E ok (yy452 _ _) rfl rfl fun a E=>?_
  refine qag E ok (qac qcN rfl) rfl rfl fun a E=>?_
  obtain ⟨l455,e456,hF⟩:=bnd hF
  refine qc3 (R:=qet) (f:=1) E ok 2 rfl h430 e448 hp451 rfl rfl rfl qfy rfl rfl rfl ⟨rfl,trivial⟩ (fun es _ h=>by obtain ⟨rfl,l453,l454⟩:=h; exact ⟨rfl,l453,(qaN e446)⟩) e456 rfl fun M457 w ok h458=>?_
  refine wpList_nil ⟨rfl,?_⟩
  refine qar ?_
  replace ok:=ok.joinM2
  obtain ⟨M459,ok,h460⟩:=NRow.close e380 ok hr387 hx388 (show qbw m130 [(Value.string (bs x379.ID)),(Value.string (bs x379.Source)),(Value.string (bs x379.Target)),c396,c398,(Value.int .i64 x379.State),c401] (Entry.mk x379.ID x379.Source x379.Target x379.Comments x379.Flags x379.State l455) (M391 ++ M457) from ⟨_,_,_,_,_,rfl,rfl,l393,l394,l395,h397,h399,r400,h458⟩) hh390
  obtain rfl:=Option.some.inj hF
  exact hnK hcj rfl (ok.pk 11 [2,3,0,4,5,6,7,8,9,10] rfl (by decide)) h221 h460
 
 ·rintro D ⟨ixD,outD⟩ T W ⟨M,c',M',rfl,h1,h2,h3⟩ hrunD okW hD hDef
  rw [hrun] at hrunD
  obtain rfl:=Option.some.inj hrunD
  replace hF:=qa9 hF
  have ok2:Ok u m94 (MkS Ds :: M' :: [(b71,Obj.cells [c96].toArray 130 (0,0))] :: M :: [(b67,Obj.cells [c'].toArray 44 (0,0))] :: M65 :: [(b3,Obj.cells [(Value.int .i64 0)].toArray 47 (0,0))] :: [(b2,Obj.cells [(Value.int .i64 0),(Value.int .i64 0)].toArray 46 (0,0))] :: [(b1,Obj.cells [(Value.slice none 0 0)].toArray 44 (0,0))] :: S) W:=okW.pk 13 [12,4,5,6,7,8,9,10,11] rfl (by decide)
  have hcl:=segs (v3:=Value.int .i64 0) (v21:=Value.int .i64 0) (v22:=Value.int .i64 0) (c':=c') hSlt2 (h1.blk hbm) (qjb h2)
  have ok3:=ok2.addMk hmlt (fun q hq=>hcl q (by simp only [List.flatten_cons,List.mem_append] at hq ⊢; grind)) hD hDef
  replace ok:Ok u m94 (M' :: [(b71,Obj.cells [c96].toArray 130 (0,0))] :: M :: [(b67,Obj.cells [c'].toArray 44 (0,0))] :: M65 :: [(b3,Obj.cells [(Value.int .i64 0)].toArray 47 (0,0))] :: [(b2,Obj.cells [(Value.int .i64 0),(Value.int .i64 0)].toArray 46 (0,0))] :: [(b1,Obj.cells [(Value.slice none 0 0)].toArray 44 (0,0))] :: MkS (D :: Ds) :: S) W:=ok3.pk 9 [1,2,3,4,5,6,7,8,0] rfl (by decide)
  refine qar ?_
  refine qar ?_
  refine qad ?_
  show Code.wp _ _ _ { a with defers:=qg4 (D :: Ds) } W
  refine qiZ ?_
  refine qag E0 ok (qaC rfl rfl (InR.inc r95 (qau hfiles_2) hc102)) rfl rfl fun a E=>?_
  refine qag E ok (qaa rfl) rfl rfl fun a E=>?_
  refine wpList_nil ⟨rfl,E.d,?_⟩
  obtain rfl:=Option.some.inj hF
  exact qay ⟨D :: Ds,_,m94,c96,M,c',M',rfl,le_m63,ok,E.keep [1,6,7,8,9,15,16,69,70,71],(InR.inc r95 (qau hfiles_2) hc102),h1,h2⟩
 ·rintro D ⟨e1,e2,e3⟩ T W ⟨M,c',M',rfl,h1,h2,he1,hr1,hr2,hr3⟩ hrunD okW hD hDef
  rw [hrun] at hrunD
  obtain rfl:=Option.some.inj hrunD
  replace hF:=qba hF
  have ok2:Ok u m94 (MkS Ds :: [(b3,Obj.cells [(Value.int .i64 e3)].toArray 47 (0,0))] :: [(b2,Obj.cells [(Value.int .i64 e2.File),(Value.int .i64 e2.Offset)].toArray 46 (0,0))] :: [(b1,Obj.cells [(Value.slice none 0 0)].toArray 44 (0,0))] :: S) W:=okW.pk 13 [12,9,10,11] rfl (by decide)
  have hcl:=segs (v3:=Value.int .i64 e3) (v21:=Value.int .i64 e2.File) (v22:=Value.int .i64 e2.Offset) (c':=c') hSlt2 h1 h2
  have ok3:=ok2.addMk hmlt (fun q hq=>hcl q (by simp only [List.flatten_cons,List.mem_append] at hq ⊢; grind)) hD hDef
  obtain ⟨hK,hnD⟩:=ok3.mkK
  have ok4:=ok3.takenM
  refine qap ?_
  refine qap ?_
  refine qan ?_
  have hret:qbC u m0 S (e1,e2,e3) a (taken W (D :: Ds)):=⟨m94,(.slice none 0 0),[(Value.int .i64 e2.File),(Value.int .i64 e2.Offset)],le_m0,ok4.drop.drop.drop,E0.d,⟨qey E0 ok4 rfl qeJ (qaf.own 2 rfl rfl),rv_c (cs:=[(Value.int .i64 e2.File),(Value.int .i64 e2.Offset)]) E0 ok4 rfl qhc rfl (qaf.own 1 rfl rfl),qey E0 ok4 rfl qhh (qaf.own 0 rfl rfl),trivial⟩,he1 ▸ qbA,⟨rfl,hr2,hr3⟩,hr1⟩
  obtain rfl:=Option.some.inj hF
  exact qaq (by nofun) (sr ⟨rfl,D :: Ds,a,rfl,hK,hnD,hret⟩)
end Go.Proofs.YtllfckekodcdaaaGreatDoor
namespace Go.Proofs.YtllfckekodcdaaaGreatDoor
open Go.X
theorem qqm:goB Tryz.prog 13 = true:=by kernel_rfl
theorem qpY:goB Tryz.prog 21 = true:=by kernel_rfl
theorem qp5:goB Tryz.prog 23 = true:=by kernel_rfl
theorem qqp:goB Tryz.prog 27 = true:=by kernel_rfl
theorem qqB:goB Tryz.prog 28 = true:=by kernel_rfl
theorem go_9:goB Tryz.prog 9 = true:=by kernel_rfl
theorem qns:qcW Tryz.prog 75 = some [(0,1),(1,1)]:=by kernel_rfl
theorem qnS:qcW Tryz.prog 83 = some [(0,1),(1,1),(2,1)]:=by kernel_rfl
def qfn (u:World) (m0:Mem) (S:Segs) (r:Bool) (a:Act) (w:World):Prop :=
 Ok u m0 S w ∧ a.defers = [] ∧ RVs Tryz.prog a w [.t 0 (.bool r)]
set_option maxHeartbeats 4000000 in
set_option maxRecDepth 100000 in
theorem qjf {u:World} {m0:Mem} {S:Segs} {w:World} (N:Nat) {r:Bool} (hF:qez N  = some r) (hG:Glob u) (hTb:Tab u) (ok:Ok u m0 S w) :
  Calls Tryz.prog 8 [].toArray w fun e w'=>(e = .returned (.bool r) ∧ Ok u m0 S w'):=by
 have hb0:=ok.base
 have le_m0:=Mem.le.refl m0
 unfold qez at hF
 have fin:∀ a w,qfn u m0 S r a w → bodyPost Tryz.prog Tryz.f8 (fun e w'=>(e = .returned (.bool r) ∧ Ok u m0 S w')) .ret a w:=by
  intro a w h
  obtain ⟨ok,hd,hrv⟩:=h
  exact qaK [.t 0 (.bool r)] hd rfl hrv ⟨rfl,ok⟩
 refine enter Tryz.func8 rfl rfl rfl fun a E=>sg<|lv E ok (qab rfl) fun a E=>wn<|sg ?_
 obtain ⟨r1,e2,hF⟩:=bnd hF
 refine qaw E qqp rfl (qjj N ([115,116,97,116,101,32,109,97,105,110,10,115,107,105,112,32,91,92,120,50,48,92,120,48,97,93,43,10,110,97,109,101,32,91,97,45,122,93,43,10,115,116,114,105,110,103,32,34,92,34,34,32,45,62,32,116,101,120,116,10,111,112,101,110,32,34,40,34,10,99,108,111,115,101,32,34,41,34,10,99,111,109,109,97,32,34,44,34,10,99,111,109,109,101,110,116,32,34,47,47,34,32,91,94,92,120,48,97,93,42,10,115,116,97,116,101,32,116,101,120,116,10,116,101,120,116,32,91,94,34,93,43,10,101,110,100,32,34,92,34,34,32,45,62,32,109,97,105,110,10]) (show ([115,116,97,116,101,32,109,97,105,110,10,115,107,105,112,32,91,92,120,50,48,92,120,48,97,93,43,10,110,97,109,101,32,91,97,45,122,93,43,10,115,116,114,105,110,103,32,34,92,34,34,32,45,62,32,116,101,120,116,10,111,112,101,110,32,34,40,34,10,99,108,111,115,101,32,34,41,34,10,99,111,109,109,97,32,34,44,34,10,99,111,109,109,101,110,116,32,34,47,47,34,32,91,94,92,120,48,97,93,42,10,115,116,97,116,101,32,116,101,120,116,10,116,101,120,116,32,91,94,34,93,43,10,101,110,100,32,34,92,34,34,32,45,62,32,109,97,105,110,10]:List UInt8).length ≤ LIMS by decide) e2 hG ok) rfl rfl ?_
 rintro _ w ⟨m3,c4,rfl,hle,ok,h5,r6,r7⟩
 have le_m0:=le_m0.trans hle
 refine ⟨_,rfl,fun a E=>?_⟩
 refine lv E ok (qaa rfl) fun a E=>lv E ok (qaA rfl rfl) fun a E=>lv E ok (qaA rfl rfl) fun a E=>lv E ok (qaA rfl rfl) fun a E=>lv E ok (qab rfl) fun a E=>lv E ok (qab rfl) fun a E=>lv E ok (qab rfl) fun a E=>wpList_nil ?_
 refine qad<|sg<|lv E ok (qaa rfl) fun a E=>?_
 obtain ⟨r8,e9,hF⟩:=bnd hF
 refine qaw E qp5 rfl (qj3 N _ r1.1 h5 e9 hG ok) rfl rfl ?_
 rintro _ w ⟨m10,c11,rfl,hle,ok,h12⟩
 have le_m0:=le_m0.trans hle
 have h5:=(mL qa2).up hle h5
 refine ⟨_,rfl,fun a E=>?_⟩
 refine lv E ok (qa6 (ps:=[(0,.const (Value.string (bs ([116,114])))),(1,.const (Value.int .i64 (-1))),(2,.const (Value.int .i64 0))]) (qs:=[(0,[(Value.string (bs ([116,114])))]),(1,[(Value.int .i64 (-1))]),(2,[(Value.int .i64 0)])]) (cs:=[(Value.string (bs ([116,114]))),(Value.int .i64 (-1)),(Value.int .i64 0)]) qiv qnS rfl ⟨rfl,rfl,rfl,⟨rfl,rfl,rfl,⟨rfl,rfl,rfl,trivial⟩⟩⟩ rfl) fun a E=>qbf (R:=qdy) (xo:=[.tmp 15]) (xs:=([(Call.mk ([116,114]) (-1) 0)]:List (Call))) E ok qfz qiv rfl ⟨⟨_,rfl,rfl,⟨rfl,(show ([116,114]:List UInt8).length ≤ LIMS by decide),(show InR .i64 (-1) by decide),(show InR .i64 (0) by decide)⟩⟩,trivial⟩ rfl rfl rfl rfl fun c13 M14 a w E ok h15=>lv E ok (qa6 (ps:=[(0,.const (Value.string (bs ([97,46,120])))),(1,.const (Value.string (bs ([47,47,32,97,32,103,114,101,101,116,105,110,103,10,116,114,40,34,72,101,108,108,111,44,32,123,110,97,109,101,125,33,34,41]))))]) (qs:=[(0,[(Value.string (bs ([97,46,120])))]),(1,[(Value.string (bs ([47,47,32,97,32,103,114,101,101,116,105,110,103,10,116,114,40,34,72,101,108,108,111,44,32,123,110,97,109,101,125,33,34,41])))])]) (cs:=[(Value.string (bs ([97,46,120]))),(Value.string (bs ([47,47,32,97,32,103,114,101,101,116,105,110,103,10,116,114,40,34,72,101,108,108,111,44,32,123,110,97,109,101,125,33,34,41])))]) qiI qns rfl ⟨rfl,rfl,rfl,⟨rfl,rfl,rfl,trivial⟩⟩ rfl) fun a E=>qbf (R:=qkp) (xo:=[.tmp 17]) (xs:=([(File.mk ([97,46,120]) ([47,47,32,97,32,103,114,101,101,116,105,110,103,10,116,114,40,34,72,101,108,108,111,44,32,123,110,97,109,101,125,33,34,41]))]:List (File))) E ok qig qiI rfl ⟨⟨_,rfl,rfl,⟨rfl,(show ([97,46,120]:List UInt8).length ≤ LIMS by decide),(show ([47,47,32,97,32,103,114,101,101,116,105,110,103,10,116,114,40,34,72,101,108,108,111,44,32,123,110,97,109,101,125,33,34,41]:List UInt8).length ≤ LIMS by decide)⟩⟩,trivial⟩ rfl rfl rfl rfl fun c16 M17 a w E ok h18=>?_
 obtain ⟨m19,hle,ok,hfz⟩:=(ok.frs 1 rfl).freeze
 have h20:=ORow.froz qep h15 hle hfz (by decide)
 have le_m0:=le_m0.trans hle
 have h5:=(mL qa2).up hle h5
 have h12:=(mL qa2).up hle h12
 have h18:=ORow.up qgC hle h18
 obtain ⟨m21,hle,ok,hfz⟩:=(ok.frs 0 rfl).freeze
 have h22:=ORow.froz qgC h18 hle hfz (by decide)
 have le_m0:=le_m0.trans hle
 have h5:=(mL qa2).up hle h5
 have h12:=(mL qa2).up hle h12
 have h20:=(mL qep).up hle h20
 obtain ⟨r23,e24,hF⟩:=bnd hF
 refine qaw E qqB rfl (qj4 N _ r8 h12 _ ([(Call.mk ([116,114]) (-1) 0)]:List (Call)) h20 _ ([(File.mk ([97,46,120]) ([47,47,32,97,32,103,114,101,101,116,105,110,103,10,116,114,40,34,72,101,108,108,111,44,32,123,110,97,109,101,125,33,34,41]))]:List (File)) h22 e24 hG hTb ok) rfl rfl ?_
 rintro _ w ⟨m25,c26,vs28,rfl,hle,ok,h27,h29,r30⟩
 have le_m0:=le_m0.trans hle
 have h5:=(mL qa2).up hle h5
 have h12:=(mL qa2).up hle h12
 have h20:=(mL qep).up hle h20
 have h22:=(mL qgC).up hle h22
 obtain ⟨rfl,r31,r32⟩:=h29
 refine ⟨_,rfl,fun a E=>?_⟩
 refine lv E ok (qaa rfl) fun a E=>lv E ok (qaA rfl rfl) fun a E=>lv E ok (qaA rfl rfl) fun a E=>lv E ok (qaA rfl rfl) fun a E=>qaZ E ok qfi rfl rfl fun b33 a w E ok=>lv E ok (qab rfl) fun a E=>qat E ok 0 rfl rfl rfl qgD rfl rfl ⟨rfl,rfl,trivial⟩ rfl rfl fun w ok=>lv E ok (qab rfl) fun a E=>?_
 refine wn<|sg<|lv E ok (qaa rfl) fun a E=>lv E ok (qbn rfl rfl) fun a E=>lv E ok (qaa rfl) fun a E=>qas (r23.2.2 == 0) (fun hc34=>?_) (fun hc34=>?_)
 rotate_left
 ·replace hF:=qah hc34 hF
  replace E:=E.upd 25 hc34 rfl
  refine ls E fun a E=>ls E fun a E=>ls E fun a E=>ls E fun a E=>ls E fun a E=>ls E fun a E=>ls E fun a E=>lv E ok (qam rfl rfl) fun a E=>?_
  refine lv E ok (qab rfl) fun a E=>wn<|wp_ret ?_
  have hret:qfn u m0 S false a w:=⟨(ok.drop).down hb0 le_m0,E.d,⟨rv_t E rfl,trivial⟩⟩
  obtain rfl:=sj hF
  exact fin _ _ hret
 replace hF:=qai hc34 hF
 replace E:=E.upd 25 hc34 rfl
 refine lv E ok (qaa rfl) fun a E=>qbf (R:=pS) (xo:=[.const (Value.string (bs ([97,32,103,114,101,101,116,105,110,103])))]) (xs:=([[97,32,103,114,101,101,116,105,110,103]]:List (List UInt8))) E ok qg3 ql7 rfl ⟨⟨_,rfl,rfl,(qoC (show ([97,32,103,114,101,101,116,105,110,103]:List UInt8).length ≤ LIMS by decide))⟩,trivial⟩ rfl rfl rfl rfl fun c35 M36 a w E ok h37=>lv E ok (qa6 (ps:=[(0,.const (Value.string (bs ([114,101,102])))),(1,.const (Value.string (bs ([97,46,120,58,50]))))]) (qs:=[(0,[(Value.string (bs ([114,101,102])))]),(1,[(Value.string (bs ([97,46,120,58,50])))])]) (cs:=[(Value.string (bs ([114,101,102]))),(Value.string (bs ([97,46,120,58,50])))]) qjV qlk rfl ⟨rfl,rfl,rfl,⟨rfl,rfl,rfl,trivial⟩⟩ rfl) fun a E=>qbf (R:=qet) (xo:=[.tmp 28]) (xs:=([(Field.mk ([114,101,102]) ([97,46,120,58,50]))]:List (Field))) E ok qcS qjV rfl ⟨⟨_,rfl,rfl,⟨rfl,(show ([114,101,102]:List UInt8).length ≤ LIMS by decide),(show ([97,46,120,58,50]:List UInt8).length ≤ LIMS by decide)⟩⟩,trivial⟩ rfl rfl rfl rfl fun c38 M39 a w E ok h40=>lv E ok (qa6 (ps:=[(0,.const (Value.string (bs ([72,101,108,108,111,44,32,123,110,97,109,101,125,33])))),(1,.const (Value.string (bs ([72,101,108,108,111,44,32,123,110,97,109,101,125,33])))),(3,.tmp 27),(6,.tmp 29)]) (qs:=[(0,[(Value.string (bs ([72,101,108,108,111,44,32,123,110,97,109,101,125,33])))]),(1,[(Value.string (bs ([72,101,108,108,111,44,32,123,110,97,109,101,125,33])))]),(3,[c35]),(6,[c38])]) (cs:=[(Value.string (bs ([72,101,108,108,111,44,32,123,110,97,109,101,125,33]))),(Value.string (bs ([72,101,108,108,111,44,32,123,110,97,109,101,125,33]))),(Value.string (bs ([]))),c35,(Value.slice none 0 0),(Value.int .i64 0),c38]) qiS qlg rfl ⟨rfl,rfl,rfl,⟨rfl,rfl,rfl,⟨rfl,(ORow.cells h37),rfl,⟨rfl,(ORow.cells h40),rfl,trivial⟩⟩⟩⟩ rfl) fun a E=>?_
 obtain ⟨m41,hle,ok,hfz⟩:=(ok.frs 1 rfl).freeze
 have h42:=ORow.froz mS h37 hle hfz (by decide)
 have le_m0:=le_m0.trans hle
 have h5:=(mL qa2).up hle h5
 have h12:=(mL qa2).up hle h12
 have h20:=(mL qep).up hle h20
 have h22:=(mL qgC).up hle h22
 have h27:=(mL qkt).up hle h27
 have h40:=ORow.up qiF hle h40
 obtain ⟨m43,hle,ok,hfz⟩:=(ok.frs 0 rfl).freeze
 have h44:=ORow.froz qiF h40 hle hfz (by decide)
 have le_m0:=le_m0.trans hle
 have h5:=(mL qa2).up hle h5
 have h12:=(mL qa2).up hle h12
 have h20:=(mL qep).up hle h20
 have h22:=(mL qgC).up hle h22
 have h27:=(mL qkt).up hle h27
 have h42:=(mL mS).up hle h42
 refine qbf (R:=qfD) (xo:=[.tmp 30]) (xs:=([(Entry.mk ([72,101,108,108,111,44,32,123,110,97,109,101,125,33]) ([72,101,108,108,111,44,32,123,110,97,109,101,125,33]) ([]) ([[97,32,103,114,101,101,116,105,110,103]]:List (List UInt8)) ([]) 0 ([(Field.mk ([114,101,102]) ([97,46,120,58,50]))]:List (Field)))]:List (Entry))) E ok qgy qiS rfl ⟨⟨_,rfl,rfl,⟨_,_,_,rfl,(show ([72,101,108,108,111,44,32,123,110,97,109,101,125,33]:List UInt8).length ≤ LIMS by decide),(show ([72,101,108,108,111,44,32,123,110,97,109,101,125,33]:List UInt8).length ≤ LIMS by decide),(Nat.zero_le _),h42,qbA,(show InR .i64 0 by decide),h44⟩⟩,trivial⟩ rfl rfl rfl rfl fun c45 M46 a w E ok h47=>?_
 obtain ⟨r53,e54,hF⟩:=bnd hF
 obtain ⟨m48,hle50,ok49,hfz51⟩:=(ok.frs 0 rfl).freeze
 have h52:=ORow.froz qkt h47 hle50 hfz51 (by decide)
 have h27':=(mL qkt).up hle50 h27
 refine qaw E qpY rfl (qjB N _ r23.1 h27' _ ([(Entry.mk ([72,101,108,108,111,44,32,123,110,97,109,101,125,33]) ([72,101,108,108,111,44,32,123,110,97,109,101,125,33]) ([]) ([[97,32,103,114,101,101,116,105,110,103]]:List (List UInt8)) ([]) 0 ([(Field.mk ([114,101,102]) ([97,46,120,58,50]))]:List (Field)))]:List (Entry)) h52 e54 hG ok49) rfl rfl ?_
 rintro _ w ⟨rfl,okz⟩
 replace ok:=(Ok.thawAt 0 rfl ok hle50 hfz51 okz)
 refine ⟨_,rfl,fun a E=>?_⟩
 refine lv E ok (qak rfl rfl) fun a E=>lv E ok (qab rfl) fun a E=>wn<|wp_ret ?_
 have hret:qfn u m0 S r53 a w:=⟨(ok.drop.drop).down hb0 le_m0,E.d,⟨rv_t E rfl,trivial⟩⟩
 obtain rfl:=sj hF
 exact fin _ _ hret
end Go.Proofs.YtllfckekodcdaaaGreatDoor
namespace Go.Proofs.YtllfckekodcdaaaGreatDoor
open Go.X
theorem go_8:goB Tryz.prog 8 = true:=by kernel_rfl
def qa5 (u:World) (m0:Mem) (S:Segs) (r:Bool) (a:Act) (w:World):Prop :=
 Ok u m0 S w ∧ a.defers = [] ∧ RVs Tryz.prog a w [.t 4 (.bool r)]
set_option maxHeartbeats 4000000 in
set_option maxRecDepth 100000 in
theorem qgL {u:World} {m0:Mem} {S:Segs} {w:World} (N:Nat) (vcalls_0:Value) (calls_0:List (Call)) (hcalls_0:(pL 3 qdy) m0 [vcalls_0] calls_0) (vl_1:Value) (l_1:List (Token)) (hl_1:(pL 3 qbi) m0 [vl_1] l_1) {r:Bool} (hF:qbG N calls_0 l_1 = some r) (hG:Glob u) (hTb:Tab u) (ok:Ok u m0 S w) :
  Calls Tryz.prog 3 [vcalls_0,vl_1].toArray w fun e w'=>(e = .returned (.bool r) ∧ Ok u m0 S w'):=by
 have hb0:=ok.base
 have le_m0:=Mem.le.refl m0
 unfold qbG at hF
 have fin:∀ a w,qa5 u m0 S r a w → bodyPost Tryz.prog Tryz.f3 (fun e w'=>(e = .returned (.bool r) ∧ Ok u m0 S w')) .ret a w:=by
  intro a w h
  obtain ⟨ok,hd,hrv⟩:=h
  exact qaK [.t 4 (.bool r)] hd rfl hrv ⟨rfl,ok⟩
 refine enter Tryz.func3 rfl rfl rfl fun a E=>sg<|lv E ok (qab rfl) fun a E=>wn<|wp_seq<|wp_seq ?_
 refine qae ?_
 obtain ⟨r1,e2,hF⟩:=bnd hF
 refine qaw E go_8 rfl (qjf N  e2 hG hTb ok) rfl rfl ?_
 rintro _ w ⟨rfl,ok⟩
 refine ⟨_,rfl,fun a E=>?_⟩
 refine lv E ok (qbP rfl) fun a E=>wn<|c_if E rfl (fun hc3=>?_) (fun hc3=>?_)
 ·replace hF:=qai hc3 hF
  refine sg<|lv E ok (qab rfl) fun a E=>wn<|wp_ret<|qan ?_
  have hret:qa5 u m0 S false a w:=⟨ok,E.d,⟨rv_t E rfl,trivial⟩⟩
  obtain rfl:=sj hF
  exact fin _ _ hret
 replace hF:=qah hc3 hF
 refine wp_skip<|qad<|wp_seq<|sg<|lv E ok (qaa rfl) fun a E=>?_
 obtain ⟨r4,e5,hF⟩:=bnd hF
 refine qaw E go_9 rfl (qj7 N _ calls_0 hcalls_0 _ ([]) qbA e5 hG ok) rfl rfl ?_
 rintro _ w ⟨rfl,ok⟩
 refine ⟨_,rfl,fun a E=>?_⟩
 refine lv E ok (qbP rfl) fun a E=>lv E ok (qaa rfl) fun a E=>qas (!r4) (fun hc6=>?_) (fun hc6=>?_)
 ·replace hF:=qai hc6 hF
  replace E:=E.upd 16 hc6 rfl
  refine ls E fun a E=>ls E fun a E=>ls E fun a E=>lv E ok (qak rfl rfl) fun a E=>wn<|c_if E rfl (fun _=>?_) (fun h=>by cases h)
  refine sg<|lv E ok (qab rfl) fun a E=>wn<|wp_ret<|qan ?_
  have hret:qa5 u m0 S true a w:=⟨ok,E.d,⟨rv_t E rfl,trivial⟩⟩
  obtain rfl:=sj hF
  exact fin _ _ hret
 replace hF:=qah hc6 hF
 replace E:=E.upd 16 hc6 rfl
 refine lv E ok (qaa rfl) fun a E=>lv E ok (qaG qel hl_1 rfl) fun a E=>lv E ok (qb4 rfl rfl) fun a E=>lv E ok (qam rfl rfl) fun a E=>wn<|c_if E rfl (fun hc7=>?_) (fun hc7=>?_)
 ·replace hF:=qai hc7 hF
  refine sg<|lv E ok (qab rfl) fun a E=>wn<|wp_ret<|qan ?_
  have hret:qa5 u m0 S true a w:=⟨ok,E.d,⟨rv_t E rfl,trivial⟩⟩
  obtain rfl:=sj hF
  exact fin _ _ hret
 replace hF:=qah hc7 hF
 refine wp_skip<|qad<|sg<|lv E ok (qab rfl) fun a E=>wn<|wp_seq ?_
 refine sg<|lv E ok (qab rfl) fun a E=>wn<|wp_block ?_
 obtain ⟨M13,ok,h14⟩:=qdp (e:=29) (k:=3) (R:=qbi) ok
 obtain ⟨o15,hL,hF⟩:=bnd hF
 refine qaR _ (fun (s:(List (Token)) × Int) a w=>∃ c16 M17,Ok u m0 (M17 :: S) w ∧ Env 76 a [(0,vcalls_0),(1,vl_1),(5,c16),(6,(Value.int .i64 s.2))] ∧ ORow 29 3 qbi m0 c16 s.1 M17 ∧ InR .i64 s.2) (fun (b:(((List (Token))) ⊕ Bool)) e a w=>(Sum.elim (fun b98=>e = (.exit 0) ∧ ∃ c99 M100,Ok u m0 (M100 :: S) w ∧ Env 76 a [(0,vcalls_0),(1,vl_1),(5,c99)] ∧ ORow 29 3 qbi m0 c99 b98 M100) (fun b102=>e = .ret ∧ qa5 u m0 S b102 a w)) b) ?_ ?_ N _ a w hL ⟨(Value.slice none 0 0),M13,ok,E.keep [0,1,5,6],h14,(show InR .i64 (0) by decide)⟩
 ·as_aux_lemma =>
   rintro ⟨tokens_20,i_21⟩ a w r ⟨c22,M23,ok,E,h24,r25⟩ hF
   replace hF:qbL N l_1 tokens_20 i_21 = some r:=hF
   unfold qbL at hF
   refine wp_seq<|sg<|lv E ok (qaa rfl) fun a E=>lv E ok (qaa rfl) fun a E=>lv E ok (qaG qel hl_1 rfl) fun a E=>lv E ok (qaB rfl rfl) fun a E=>wpList_nil ?_
   refine qad<|c_if E rfl (fun hc26=>?_) (fun hc26=>?_)
   rotate_left
   ·replace hF:=qah hc26 hF
    refine wp_exit<|qaD ?_
    obtain rfl:=sj hF
    exact qaq (by nofun) (sl ⟨rfl,⟨c22,M23,ok,E.keep [0,1,5],h24⟩⟩)
   replace hF:=qai hc26 hF
   refine wp_skip<|qad<|wp_seq<|wp_block<|wp_seq<|sg<|lv E ok (qaa rfl) fun a E=>?_
   refine lv E ok (qaa rfl) fun a E=>?_
   obtain ⟨x27,e28,hF⟩:=bnd hF
   obtain ⟨b29,o30,es31,hl32,rr33,at34,yy35⟩:=qaI qel hl_1 e28 (P:=Tryz.prog) (X:=.tmp 27) (I:=.tmp 28) (kd:=.i64) (qao E rfl) (qao E rfl)
   obtain ⟨rfl,l36,l37,r38⟩:=rr33
   refine lv E ok (yy35 _ _) fun a E=>lv E ok (qac qmF rfl) fun a E=>lv E ok (qaj qav rfl (qaf.ro (At.sub 1 1 at34))) fun a E=>lv E ok (qaX Tryz.underlying9 rfl) fun a E=>lv E ok (qb4 rfl rfl) fun a E=>lv E ok (qaa rfl) fun a E=>qas (decide ((x27.Text.length:Int) > 100)) (fun hc39=>?_) (fun hc39=>?_)
   ·replace hF:=qai hc39 hF
    replace E:=E.upd 34 hc39 rfl
    refine ls E fun a E=>ls E fun a E=>ls E fun a E=>ls E fun a E=>ls E fun a E=>ls E fun a E=>ls E fun a E=>lv E ok (qak rfl rfl) fun a E=>?_
    refine wn<|c_if E rfl (fun _=>?_) (fun h=>by cases h)
    refine sg<|lv E ok (qab rfl) fun a E=>wn<|wp_ret<|qan<|qap ?_
    refine qan ?_
    have hret:qa5 u m0 S true a w:=⟨ok.drop,E.d,⟨rv_t E rfl,trivial⟩⟩
    obtain rfl:=sj hF
    exact qaq (by nofun) (sr ⟨rfl,hret⟩)
   replace hF:=qah hc39 hF
   replace E:=E.upd 34 hc39 rfl
   refine lv E ok (qaa rfl) fun a E=>lv E ok (qaa rfl) fun a E=>?_
   obtain ⟨x40,e41,hF⟩:=bnd hF
   obtain ⟨b42,o43,es44,hl45,rr46,at47,yy48⟩:=qaI qel hl_1 e41 (P:=Tryz.prog) (X:=.tmp 35) (I:=.tmp 36) (kd:=.i64) (qao E rfl) (qao E rfl)
   obtain ⟨rfl,l49,l50,r51⟩:=rr46
   refine lv E ok (yy48 _ _) fun a E=>lv E ok (qac qeG rfl) fun a E=>lv E ok (qaj qav rfl (qaf.ro (At.sub 0 1 at47))) fun a E=>lv E ok (qaX Tryz.underlying9 rfl) fun a E=>lv E ok (qb4 rfl rfl) fun a E=>lv E ok (qam rfl rfl) fun a E=>wn ?_
   refine c_if E rfl (fun hc52=>?_) (fun hc52=>?_)
   ·replace hF:=qai hc52 hF
    refine sg<|lv E ok (qab rfl) fun a E=>wn<|wp_ret<|qan<|qap ?_
    refine qan ?_
    have hret:qa5 u m0 S true a w:=⟨ok.drop,E.d,⟨rv_t E rfl,trivial⟩⟩
    obtain rfl:=sj hF
    exact qaq (by nofun) (sr ⟨rfl,hret⟩)
   replace hF:=qah hc52 hF
   refine wp_skip<|qad<|qae<|lv E ok (qaa rfl) fun a E=>lv E ok (qaa rfl) fun a E=>lv E ok (qaa rfl) fun a E=>?_
   obtain ⟨x53,e54,hF⟩:=bnd hF
   obtain ⟨b55,o56,es57,hl58,rr59,at60,yy61⟩:=qaI qel hl_1 e54 (P:=Tryz.prog) (X:=.tmp 44) (I:=.tmp 45) (kd:=.i64) (qao E rfl) (qao E rfl)
   obtain ⟨rfl,l62,l63,r64⟩:=rr59
   refine lv E ok (yy61 _ _) fun a E=>lv E ok (qax (cs:=[(Value.string (bs x53.Kind)),(Value.string (bs x53.Text)),(Value.int .i64 x53.From)]) qpM rfl rfl (qaf.ro at60)) fun a E=>qbf (R:=qbi) (xo:=[.tmp 47]) (xs:=([x53]:List (Token))) E ok qck qcD rfl ⟨⟨_,rfl,rfl,⟨rfl,l62,l63,r64⟩⟩,trivial⟩ rfl rfl rfl rfl fun c65 M66 a w E ok h67=>?_
   obtain ⟨l68,e69,hF⟩:=bnd hF
   refine qcI (R:=qbi) E ok 1 qde qck Tryz.underlying26 rfl h24 (qbo.ofRow h67 0 rfl ok) e69 ⟨_,qcD,rfl⟩ rfl rfl rfl rfl fun c70 M71 a w E ok h72=>lv E ok (qab rfl) fun a E=>wpList_nil<|qar<|qad<|qae<|lv E ok (qaa rfl) fun a E=>lv E ok (qaC rfl rfl (InR.inc r25 (qau hl_1) hc26)) fun a E=>?_
   refine lv E ok (qab rfl) fun a E=>wpList_nil ?_
   obtain rfl:=sj hF
   exact qay ⟨c70,M71,(ok.pk 2 [1] rfl (by decide)),E.keep [0,1,5,6],h72,(InR.inc r25 (qau hl_1) hc26)⟩
 intro e a w _ hO
 rcases o15 with o15 | o15
 rotate_left
 ·replace hF:=qba hF
  obtain ⟨rfl,hret⟩:=hO
  refine qap<|qan ?_
  obtain rfl:=sj hF
  exact fin _ _ hret
 replace hF:=qa9 hF
 obtain ⟨rfl,c73,M74,ok,E,h75⟩:=hO
 refine qaT<|qad<|sg<|lv E ok (qaa rfl) fun a E=>?_
 obtain ⟨r81,e82,hF⟩:=bnd hF
 obtain ⟨m76,hle78,ok77,hfz79⟩:=(ok.frs 0 rfl).freeze
 have h80:=ORow.froz qde h75 hle78 hfz79 (by decide)
 refine qaw E qoq rfl (qhs N _ o15 h80 e82 hG ok77) rfl rfl ?_
 rintro _ w ⟨⟨rfl,okz⟩,l83⟩
 replace ok:=(Ok.thawAt 0 rfl ok hle78 hfz79 okz)
 refine ⟨_,rfl,fun a E=>?_⟩
 refine lv E ok (qaa rfl) fun a E=>lv E ok (qaA rfl rfl) fun a E=>lv E ok (qaA rfl rfl) fun a E=>lv E ok (qab rfl) fun a E=>lv E ok (qab rfl) fun a E=>wn<|wp_seq ?_
 refine qae<|lv E ok (qaa rfl) fun a E=>?_
 obtain ⟨r84,e85,hF⟩:=bnd hF
 refine qaw E qqd rfl (qiu N _ l_1 hl_1 e85 hG ok) rfl rfl ?_
 rintro _ w ⟨⟨rfl,ok⟩,l86⟩
 refine ⟨_,rfl,fun a E=>?_⟩
 refine lv E ok (qaa rfl) fun a E=>lv E ok (qaA rfl rfl) fun a E=>lv E ok (qaA rfl rfl) fun a E=>lv E ok (qab rfl) fun a E=>lv E ok (qab rfl) fun a E=>wn<|wp_seq ?_
 refine qae<|lv E ok (qaa rfl) fun a E=>lv E ok (qaa rfl) fun a E=>lv E ok (qa1 rfl rfl) fun a E=>lv E ok (qaa rfl) fun a E=>qas (r81.1 == r84.1) (fun hc87=>?_) (fun hc87=>?_)
 rotate_left
 ·replace hF:=qah hc87 hF
  replace E:=E.upd 63 hc87 rfl
  refine ls E fun a E=>ls E fun a E=>ls E fun a E=>lv E ok (qam rfl rfl) fun a E=>lv E ok (qaa rfl) fun a E=>ls E fun a E=>ls E fun a E=>ls E fun a E=>?_
  refine ls E fun a E=>ls E fun a E=>ls E fun a E=>lv E ok (qam rfl rfl) fun a E=>lv E ok (qab rfl) fun a E=>wn<|wp_ret ?_
  have hret:qa5 u m0 S false a w:=⟨ok.drop,E.d,⟨rv_t E rfl,trivial⟩⟩
  obtain rfl:=sj hF
  exact fin _ _ hret
 replace hF:=qai hc87 hF
 replace E:=E.upd 63 hc87 rfl
 refine lv E ok (qaa rfl) fun a E=>lv E ok (qaa rfl) fun a E=>lv E ok (qnT Tryz.underlying4 rfl rfl) fun a E=>lv E ok (qak rfl rfl) fun a E=>lv E ok (qaa rfl) fun a E=>qas (r81.2 == r84.2) (fun hc88=>?_) (fun hc88=>?_)
 rotate_left
 ·replace hF:=qah hc88 hF
  replace E:=E.upd 68 hc88 rfl
  refine ls E fun a E=>ls E fun a E=>ls E fun a E=>ls E fun a E=>ls E fun a E=>ls E fun a E=>lv E ok (qam rfl rfl) fun a E=>lv E ok (qab rfl) fun a E=>?_
  refine wn<|wp_ret ?_
  have hret:qa5 u m0 S false a w:=⟨ok.drop,E.d,⟨rv_t E rfl,trivial⟩⟩
  obtain rfl:=sj hF
  exact fin _ _ hret
 replace hF:=qai hc88 hF
 replace E:=E.upd 68 hc88 rfl
 refine lv E ok (qaa rfl) fun a E=>?_
 obtain ⟨r89,e90,hF⟩:=bnd hF
 refine qaw E qqm rfl (qj6 N _ calls_0 hcalls_0 e90 hG ok) rfl rfl ?_
 rintro _ w ⟨m91,c92,rfl,hle,ok,h93⟩
 have le_m0:=le_m0.trans hle
 have hcalls_0:=(mL qep).up hle hcalls_0
 have hl_1:=(mL qde).up hle hl_1
 have h75:=ORow.up qde hle h75
 refine ⟨_,rfl,fun a E=>?_⟩
 obtain ⟨r94,e95,hF⟩:=bnd hF
 refine qaw E qoz rfl (qh7 N _ r89 h93 e95 hG ok) rfl rfl ?_
 rintro _ w ⟨rfl,ok⟩
 refine ⟨_,rfl,fun a E=>?_⟩
 refine lv E ok (qaa rfl) fun a E=>?_
 obtain ⟨r96,e97,hF⟩:=bnd hF
 refine qaw E qp6 rfl (qjm N _ calls_0 hcalls_0 e97 hG ok) rfl rfl ?_
 rintro _ w ⟨rfl,ok⟩
 refine ⟨_,rfl,fun a E=>?_⟩
 refine lv E ok (qnT Tryz.underlying4 rfl rfl) fun a E=>lv E ok (qak rfl rfl) fun a E=>lv E ok (qab rfl) fun a E=>wn<|wp_ret ?_
 have hret:qa5 u m0 S (r94 == r96) a w:=⟨(ok.drop).down hb0 le_m0,E.d,⟨rv_t E rfl,trivial⟩⟩
 obtain rfl:=sj hF
 exact fin _ _ hret
end Go.Proofs.YtllfckekodcdaaaGreatDoor
namespace Go.X
variable {H:Type} {enc:TypeId × Value → H}
end Go.X
namespace Go.X
open Go.ChangeShapes Go.RowKit
def OpnS {α:Type} (P:Program) (t:TypeId) (R:Rp α) (Q:α → Prop):Prop :=
 ∀ {H:Type} {enc:TypeId × Value → H} {W:World} {base:Nat} {spare:Nat → Bool} {held:Bool} {fuel:Nat} {cs:List Value} {x:DataW H × List MemPlace},
  DataW.trod enc P W base spare held fuel t cs = some x → (∀ n ∈ x.1.weights P t,n ≤ reachBytes) → ∃ a:α,R (hm W) cs a ∧ Q a
section
variable {P:Program} {t:TypeId}
theorem qna {k:IntKind} (ht:P.underlying t = some (.int k)):OpnS P t (pI k) (InR k):=fun h _=>by
 obtain ⟨a,ha⟩:=qqw ht h
 exact ⟨a,ha,ha.2⟩
theorem qmX (ht:P.underlying t = some .string):OpnS P t pS (fun s=>s.length ≤ reachBytes):=fun h hz=>by
 obtain ⟨s,rfl,rfl,hs⟩:=DataW.trod_string ht h
 refine ⟨s.data.toList,⟨rfl,hs⟩,hz _ ?_⟩
 simp [DataW.weights]
theorem qiw {H:Type} {e:TypeId}:∀ {l:List (DataW H)} {d:DataW H},d ∈ l → ∀ n ∈ d.weights P e,n ∈ DataW.weightsAll P e l
 | d0 :: l,d,h,n,hn=>by
  simp only [DataW.weightsAll,List.mem_append]
  rcases List.mem_cons.1 h with rfl | h
  ·exact .inl hn
  ·exact .inr (qiw h n hn)
 | [],_,h,_,_=>by cases h
theorem qmz {α:Type} {e:TypeId} {n:Nat} {R:Rp α} {Q:α → Prop} (ht:P.underlying t = some (.slice e)) (hc:P.cellsOf e = n) (hn:0 < n) (hb:0 < P.bytesOf e) (he:OpnS P e R Q):OpnS P t (pL n R) (fun xs=>xs.length ≤ reachBytes ∧ ∀ y ∈ xs,Q y):=fun {H enc W base spare held fuel cs x} h hz=>by
 rcases Go.Deep.open_slice ht h with ⟨rfl,_⟩ | ⟨a,len,cap,m,fu,D,Pl,rfl,_,hl,hm',hm2,rfl,hel⟩
 ·exact ⟨[],⟨none,0,rfl,Nat.le_refl _,Nat.zero_le _,Nat.zero_le _,fun h=>absurd rfl h⟩,Nat.zero_le _,fun _ h=>by cases h⟩
 ·rw [hc] at hel
  have hlm:len ≤ m:=by rw [hm2]; split <;> omega
  have hlen:len ≤ reachBytes:=by
   have h1:=hz (((List.range len).map D).length + ((List.range (m - len)).map fun j=>D (len + j)).length |> (· * P.bytesOf e)) (by simp [DataW.weights,ht])
   simp only [List.length_map,List.length_range] at h1
   have h2:len * 1 ≤ (len + (m - len)) * P.bytesOf e:=Nat.mul_le_mul (by omega) hb
   omega
  have key:∀ i,i < len → ∃ y:α,(∃ es:List Value,es.length = n ∧ (∀ j v,es[j]? = some v → W.cell? (a.add (i * n + j)) = some v) ∧ R (hm W) es y) ∧ Q y:=by
   intro i hi
   obtain ⟨cs',h1,h2⟩:=hel i (by omega)
   obtain ⟨y,hy,hq⟩:=he h2 (fun k hk=>hz k (by
    simp only [DataW.weights,ht,List.mem_cons,List.mem_append]
    exact .inr (.inl (qiw (List.mem_map.2 ⟨i,List.mem_range.2 hi,rfl⟩) k hk))))
   obtain ⟨_,hlen,hcell⟩:=World.cells?_some h1
   refine ⟨y,⟨cs',hlen,fun j v hj=>?_,hy⟩,hq⟩
   have hjn:j < n:=by rw [← hlen]; exact (List.getElem?_eq_some_iff.1 hj).1
   have:=hcell j hjn
   rw [hj] at this
   rw [qoU]
   exact this
  have pick:∃ f:Fin len → α,∀ i:Fin len,(∃ es:List Value,es.length = n ∧ (∀ j v,es[j]? = some v → W.cell? (a.add (i.1 * n + j)) = some v) ∧ R (hm W) es (f i)) ∧ Q (f i) :=
   ⟨fun i=>(key i.1 i.2).choose,fun i=>(key i.1 i.2).choose_spec⟩
  obtain ⟨f,hf⟩:=pick
  refine ⟨List.ofFn f,⟨some a,cap,by rw [List.length_ofFn],by rw [List.length_ofFn]; exact hl,hm',?_,fun h0=>?_⟩,by rw [List.length_ofFn]; exact hlen,fun y hy=>?_⟩
  ·rw [List.length_ofFn]; unfold maxLen at hm'; unfold LIMS; omega
  ·rw [List.length_ofFn] at h0
   obtain ⟨b,off,spot⟩:=a
   have hs:spot = none:=by
    obtain ⟨⟨es,e1,e2,_⟩,_⟩:=hf ⟨0,by omega⟩
    have hv:es[0]? = some (es[0]'(by omega)):=by simp
    have:=e2 0 _ hv
    simpa [Addr.add] using World.cell?_spot this
   subst hs
   refine ⟨b,off,rfl,fun i y hy=>?_⟩
   obtain ⟨hi,rfl⟩:=List.getElem?_eq_some_iff.1 hy
   have hi':i < len:=by simpa using hi
   obtain ⟨⟨es,e1,e2,e3⟩,_⟩:=hf ⟨i,hi'⟩
   refine ⟨es,e1,fun j v hj=>?_,by simpa using e3⟩
   have:=e2 j v hj
   refine qoW ?_
   rw [qnW] at this
   rw [Nat.add_assoc]
   exact this
  ·obtain ⟨i,rfl⟩:=List.mem_ofFn.1 hy
   exact (hf i).2
theorem qlL {fs:Array Field} (ht:P.underlying t = some (.struct fs)) {H:Type} {enc:TypeId × Value → H} {W:World} {base:Nat} {spare:Nat → Bool} {held:Bool} {fuel:Nat} {cs:List Value} {x:DataW H × List MemPlace}
  (h:DataW.trod enc P W base spare held fuel t cs = some x) (hz:∀ n ∈ x.1.weights P t,n ≤ reachBytes) :
  cs.length = P.cellsOf t ∧ ∀ {α:Type} {R:Rp α} {Q:α → Prop} (i:Nat) (f:Field) (n:Nat),fs[i]? = some f → P.cellsOf f.type = n → OpnS P f.type R Q → ∃ a,R (hm W) ((cs.drop f.offset).take n) a ∧ Q a:=by
 obtain ⟨xs,n,_,hx,hl,hlen,hf⟩:=DataW.trod_struct ht h
 refine ⟨hl,fun {α R Q} i f n hi hn ho=>?_⟩
 have hi':i < xs.length:=by rw [hlen]; exact (Array.getElem?_eq_some_iff.1 hi).1
 have:=hf i f hi
 rw [List.getElem?_eq_getElem hi',hn] at this
 refine ho this fun k hk=>hz k ?_
 subst hx
 simp only [DataW.weights,ht]
 refine DataW.weights_mem_each (j:=i) (t:=f.type) (d:=xs[i].1) ?_ ?_ k hk
 ·simp [hi]
 ·simp [hi']
end
end Go.X
namespace Go.X
open Go.ChangeShapes Go.RowKit
section
variable {H:Type} {enc:TypeId × Value → H}
theorem qjy {a:Assume} {C:Checked} {os:Os} {f:FuncId} {fn:Func} {s:ChangeSpec} {conds:List PathCond} {apart fresh handsOn again:Bool} {X:World → Array Value → Prop}
  (hX:∀ (w w':World) (args:Array Value),w.heap = w'.heap → X w args → X w' args)
  (own:ownKnob C.prog.godebug = none) (started:os.Started) (noInit:C.prog.inits.idxOf? f = none) (hfn:C.prog.funcs[f]? = some fn)
  (witness:∃ (w:World) (tape:Tape) (i:Input),w.os = os ∧ (w.forCall tape i).Shaped C.prog ∧ i.vars = [] ∧ Input.okWide C.prog (w.forCall tape i) .any w.heap.size f i ∧
   ((s.pre enc C.prog fn conds apart (w.forCall tape i).memory i.args ∧ X (w.forCall tape i).memory i.args) ∧ sizedMet enc C.prog fn (OpenSpec.ofChange s) apart (w.forCall tape i).memory i.args) ∧ a.holds C.prog (lone (Frame.enter C.prog f i.args .normal) [] (w.forCall tape i)))
  (contract:∀ (W:World) (base:Nat) (args:Array Value) (ds gs:List (DataW H)) (before:List MemPlace),
   (∀ (j:Nat) t v,fn.params[j]? = some t → args[j]? = some v → Value.okWide C.prog W .any base t v) →
   DataW.Whole enc C.prog fn.params.toList s.vars apart W args.toList ds gs before → W.ShapedOpen C.prog →
   X W args → (DataW.weightsEach C.prog (fn.params.toList ++ s.plain.varTypes C.prog) (ds ++ gs)).all (· ≤ reachBytes) = true →
   Calls C.prog f args W fun e W'=>∃ v,e = .returned v ∧ s.post enc C.prog fn apart fresh handsOn again W args v W') :
  ReturnsInHanded a C os f .any (fun w args=>(s.pre enc C.prog fn conds apart w args ∧ X w args) ∧ sizedMet enc C.prog fn (OpenSpec.ofChange s) apart w args) (s.post enc C.prog fn apart fresh handsOn again):=by
 refine returnsInHanded_of_calls own started noInit witness ?_
 intro w tape i _ hsh _ hok hpre _
 obtain ⟨_,_,_,fn',hfn',_,_,_,_,hval⟩:=hok
 have e:fn' = fn:=Option.some.inj (hfn'.symm.trans hfn)
 subst e
 obtain ⟨⟨⟨ds,gs,before,hw,_⟩,hx⟩,hz⟩:=hpre
 have hw':=DataW.Whole.of_heap (w':=w.forCall tape i) (by rfl) hw
 refine (contract (w.forCall tape i) w.heap.size i.args ds gs before hval hw' hsh (hX _ _ _ (by rfl) hx) (hz.weights hw)).mono fun e W' ⟨v,he,hp⟩=>?_
 subst he
 exact ChangeSpec.post_blind hp
end
end Go.X
namespace Go.X
open Go.ChangeShapes Go.RowKit
end Go.X
namespace Go.Proofs.YtllfckekodcdaaaGreatDoor
open Go.ChangeShapes Go.WideShapes Go.ChangeAt Go.RowKit Go.X
theorem own:ownKnob Tryz.prog.godebug = none:=by kernel_rfl
theorem qmu:laidOutB Tryz.prog = true:=by kernel_rfl
theorem qnL {H:Type} {enc:TypeId × Value → H} {W:World} {base:Nat} {sp:Nat → Bool} {held:Bool} (b:Bool):DataW.Trod enc Tryz.prog W base sp held 4 (.bool b) (.lit (.bool b)) [] :=
 ⟨1,by simp [DataW.trod,Value.cells,Tryz.underlying4]⟩
theorem qoN {W:World} (h:W.ShapedOpen Tryz.prog):Glob W:=cell_of_shapedOpen_int (g:=0) (t:=3) (zero:=#[.int .i64 0]) h (of_decide_eq_true (by kernel_rfl)) (by kernel_rfl) (by kernel_rfl) (by kernel_rfl) (by kernel_rfl) Tryz.underlying3
theorem ce3:Tryz.prog.cellsOf 3 = 1:=by kernel_rfl
theorem ce9:Tryz.prog.cellsOf 9 = 1:=by kernel_rfl
theorem ce28:Tryz.prog.cellsOf 28 = 3:=by kernel_rfl
theorem ce66:Tryz.prog.cellsOf 66 = 3:=by kernel_rfl
theorem o_66:OpnS Tryz.prog 66 qdy (fun x=>(x.Name.length ≤ reachBytes ∧ InR .i64 x.ID ∧ InR .i64 x.Source)):=fun h hz=>by
 obtain ⟨hl,hf⟩:=qlL Tryz.underlying66 h hz
 obtain ⟨c0,c1,c2,rfl⟩:=len3 (hl.trans ce66)
 obtain ⟨a0,h0,q0⟩:=hf 0 _ 1 rfl ce9 (qmX Tryz.underlying9)
 obtain ⟨a1,h1,q1⟩:=hf 1 _ 1 rfl ce3 (qna Tryz.underlying3)
 obtain ⟨a2,h2,q2⟩:=hf 2 _ 1 rfl ce3 (qna Tryz.underlying3)
 have h0:pS _ [c0] a0:=h0
 obtain ⟨rfl,g0⟩:=ql8 h0
 have h1:(pI .i64) _ [c1] a1:=h1
 obtain ⟨rfl,g1⟩:=qjs h1
 have h2:(pI .i64) _ [c2] a2:=h2
 obtain ⟨rfl,g2⟩:=qjs h2
 exact ⟨⟨a0,a1,a2⟩,⟨rfl,g0,g1,g2⟩,⟨q0,q1,q2⟩⟩
theorem o_28:OpnS Tryz.prog 28 qbi (fun x=>(x.Kind.length ≤ reachBytes ∧ x.Text.length ≤ reachBytes ∧ InR .i64 x.From)):=fun h hz=>by
 obtain ⟨hl,hf⟩:=qlL Tryz.underlying28 h hz
 obtain ⟨c0,c1,c2,rfl⟩:=len3 (hl.trans ce28)
 obtain ⟨a0,h0,q0⟩:=hf 0 _ 1 rfl ce9 (qmX Tryz.underlying9)
 obtain ⟨a1,h1,q1⟩:=hf 1 _ 1 rfl ce9 (qmX Tryz.underlying9)
 obtain ⟨a2,h2,q2⟩:=hf 2 _ 1 rfl ce3 (qna Tryz.underlying3)
 have h0:pS _ [c0] a0:=h0
 obtain ⟨rfl,g0⟩:=ql8 h0
 have h1:pS _ [c1] a1:=h1
 obtain ⟨rfl,g1⟩:=ql8 h1
 have h2:(pI .i64) _ [c2] a2:=h2
 obtain ⟨rfl,g2⟩:=qjs h2
 exact ⟨⟨a0,a1,a2⟩,⟨rfl,g0,g1,g2⟩,⟨q0,q1,q2⟩⟩
theorem qje {W:World} (h:laidMetH Tryz.prog Rows.extractLiteralsRow.laid W):Tab W:=by
 rw [MakeChecks.laidMetH_plain _ _ _ (by kernel_rfl)] at h
 exact Lib.tabIs_of_head (g:=1) (t:=231) (e:=214) (by kernel_rfl) (by kernel_rfl) Tryz.underlying231 (by kernel_rfl) (by kernel_rfl) (by kernel_rfl) (show laidMet Tryz.prog (("internal/strconv.uint64pow10",Lib.tabData .u64 Lib.pow10Tab) :: _) W from laidMet.tail (x:=_) (laidMet.tail (x:=_) h))
set_option maxRecDepth 100000 in
theorem qio (hp:∀ x0 x1,(x0.length ≤ reachBytes ∧ ∀ y2 ∈ x0,(y2.Name.length ≤ reachBytes ∧ InR .i64 y2.ID ∧ InR .i64 y2.Source)) → (x1.length ≤ reachBytes ∧ ∀ y4 ∈ x1,(y4.Kind.length ≤ reachBytes ∧ y4.Text.length ≤ reachBytes ∧ InR .i64 y4.From)) → ∃ N,qbG N x0 x1 = some true) (os:Os) (started:os.Started) (H:Type) (enc:TypeId × Value → H) :
  ReturnsInHanded {} Tryz.checked os 3 .any (fun w args=>(Rows.extractLiteralsSpec.pre enc Tryz.prog Tryz.f3 [] false w args ∧ laidMetH Tryz.prog Rows.extractLiteralsRow.laid w) ∧ sizedMet enc Tryz.prog Tryz.f3 (OpenSpec.ofChange Rows.extractLiteralsSpec) false w args)
   (Rows.extractLiteralsSpec.post enc Tryz.prog Tryz.f3 false true false false):=by
 refine qjy (C:=Tryz.checked) (X:=fun w _=>laidMetH Tryz.prog Rows.extractLiteralsRow.laid w) (fun _ _ _ hh h=>laidMetH.of_heap hh h) own started (by kernel_rfl) Tryz.func3
  (ChangeSpec.witness_shaped (enc:=enc) (C:=Tryz.checked) (os:=os) (X:=fun w _=>laidMetH Tryz.prog Rows.extractLiteralsRow.laid w) false (World.laidAll Tryz.prog os Rows.extractLiteralsRow.laid) #[.slice none 0 0,.slice none 0 0] 8 (World.laidAll_os _ _ _)
   (World.shaped_of_ZipB (by kernel_rfl) (by kernel_rfl)) (by kernel_rfl) (by kernel_rfl) (by kernel_rfl)
   (by rw [MakeChecks.laidMetH_plain _ _ _ (by kernel_rfl)]; exact laidMet_laidAll _ (by kernel_rfl) (by kernel_rfl))) ?_
 intro W base args ds gs before hval0 hW hsh hX hz
 have hval:∀ (j:Nat) t v,Tryz.f3.params[j]? = some t → args[j]? = some v → Value.okWide Tryz.prog W .any base t v:=hval0
 have hW':=hW
 obtain ⟨p,q,hA0,hV,rfl,_,_⟩:=hW
 have hA:DataW.TrodAll enc Tryz.prog W 0 (fun _=>true) true Tryz.f3.params.toList args.toList ds p:=hA0
 rw [Tryz.params3] at hA hval
 obtain ⟨v0,v1,d0,d1,p0,p1,rfl,rfl,rfl,k0,k1⟩:=trodAll_two hA
 obtain ⟨rfl,rfl⟩:=trodVars_none hV
 obtain ⟨fu0,hf0⟩:=id k0
 have hz0:∀ n ∈ d0.weights Tryz.prog 22,n ≤ reachBytes:=fun n hn=>by
  have:=List.all_eq_true.1 hz n (DataW.weights_mem_each (j:=0) (t:=22) (d:=d0) (by rw [Tryz.params3]; rfl) rfl n hn)
  simpa using this
 obtain ⟨s0,u0,w0,rfl⟩:=okWide_slice Tryz.underlying22 (hval 0 22 v0 rfl rfl)
 obtain ⟨a0,r0,q0⟩:=(qmz Tryz.underlying22 ce66 (Nat.succ_pos _) (of_decide_eq_true (by kernel_rfl)) o_66) hf0 hz0
 obtain ⟨fu1,hf1⟩:=id k1
 have hz1:∀ n ∈ d1.weights Tryz.prog 23,n ≤ reachBytes:=fun n hn=>by
  have:=List.all_eq_true.1 hz n (DataW.weights_mem_each (j:=1) (t:=23) (d:=d1) (by rw [Tryz.params3]; rfl) rfl n hn)
  simpa using this
 obtain ⟨s1,u1,w1,rfl⟩:=okWide_slice Tryz.underlying23 (hval 1 23 v1 rfl rfl)
 obtain ⟨a1,r1,q1⟩:=(qmz Tryz.underlying23 ce28 (Nat.succ_pos _) (of_decide_eq_true (by kernel_rfl)) o_28) hf1 hz1
 clear hA0 hval0
 have hlt:∀ x ∈ p0 ++ p1,x.block < W.heap.size:=fun x hx=>by
  refine hW'.lt x ?_
  simpa using hx
 have hlt0:∀ x ∈ p0,x.block < W.heap.size:=fun x hx=>hlt x (by simp [hx])
 have hlt1:∀ x ∈ p1,x.block < W.heap.size:=fun x hx=>hlt x (by simp [hx])
 obtain ⟨N,hN⟩:=hp a0 a1 q0 q1
 have hw:=qgL N _ a0 r0 _ a1 r1 hN (qoN hsh) (qje hX) (Ok.start W)
 refine hw.mono fun e W' ⟨he,ok⟩=>?_
 subst he
 have hn:=ok.below
 have t0:=Below.trod qmu (by kernel_rfl) (of_decide_eq_true (by kernel_rfl)) k0 hn hlt0
 have t1:=Below.trod qmu (by kernel_rfl) (of_decide_eq_true (by kernel_rfl)) k1 hn hlt1
 refine ⟨_,rfl,_,_,_,[],p0 ++ p1,[],hW',?_,?_,rfl,hn.frame _,fun h=>by cases h⟩
 ·exact trodAll_mk1 (qnL true)
 ·exact trodAll_mk2 t0 t1
theorem qix (hp:∀ x0 x1,(x0.length ≤ reachBytes ∧ ∀ y2 ∈ x0,(y2.Name.length ≤ reachBytes ∧ InR .i64 y2.ID ∧ InR .i64 y2.Source)) → (x1.length ≤ reachBytes ∧ ∀ y4 ∈ x1,(y4.Kind.length ≤ reachBytes ∧ y4.Text.length ≤ reachBytes ∧ InR .i64 y4.From)) → ∃ N,qbG N x0 x1 = some true):Rows.ExtractLiteralsSaid :=
 OpenClaim.holds_of_wide 3 Tryz.f3 rfl rfl rfl rfl rfl rfl rfl ⟨rfl,rfl,rfl,rfl,rfl⟩ rfl rfl rfl rfl rfl (by kernel_rfl) Tryz.func3 (by kernel_rfl)
  (of_decide_eq_true (by kernel_rfl)) (by unfold Func.isWrapper; rw [if_neg (of_decide_eq_false (by kernel_rfl))]; exact ⟨rfl,rfl⟩)
  (fun os started H enc _=>qio hp os started H enc)
set_option maxRecDepth 100000 in
theorem qiW (hp:∀ x0 x1,(x0.length ≤ reachBytes ∧ ∀ y2 ∈ x0,(y2.Name.length ≤ reachBytes ∧ InR .i64 y2.ID ∧ InR .i64 y2.Source)) → (x1.length ≤ reachBytes ∧ ∀ y4 ∈ x1,(y4.Kind.length ≤ reachBytes ∧ y4.Text.length ≤ reachBytes ∧ InR .i64 y4.From)) → ∃ N,qbG N x0 x1 = some true):Rows.ExtractLiteralsCardSaid :=
 Claim7.holds_tied_plain_at .later [] [.data,.data,.data,.data,.pinned] true (true, "e41d8787e74db97e4c01b0006a6740286e1baea1c5dbefd0607aae296ef58d28") false (qix hp) (fun _ h=>by cases h) (by kernel_rfl) (fun _ h=>by cases h) extractLiterals_row_tie rfl ⟨rfl,rfl⟩ (by kernel_rfl) rfl
  (fun f fn hf hfn=>by
   obtain rfl:f = 3:=Option.some.inj ((show Tryz.prog.funcNamed "calque/calquelaw45.ExtractLiterals" = some 3 by kernel_rfl).symm.trans hf) |>.symm
   obtain rfl:fn = Tryz.f3:=(Option.some.inj (Tryz.func3.symm.trans hfn)).symm
   exact ⟨by kernel_rfl,fun j t ht=>by
    rw [Tryz.params3] at ht
    have hm:t ∈ [22,23]:=by simpa using Array.mem_of_getElem? ht
    have hall:([22,23].all fun u=>!Tryz.prog.wantsStandIn u) = true:=by kernel_rfl
    exact (show Tryz.prog.wantsStandIn t = false by simpa using List.all_eq_true.1 hall t hm)⟩)
  (by kernel_rfl)
end Go.Proofs.YtllfckekodcdaaaGreatDoor
namespace Go.X
theorem qgT {a b:List UInt8} (h:a.length + b.length ≤ 1000000):cat a b = some (a ++ b):=by
 unfold cat; rw [if_pos (by unfold LIMS; omega)]
end Go.X
namespace Go.X
def run {σ α β:Type} (f:σ → α → σ ⊕ β) (fin:σ → β):σ → List α → β
 | s,[]=>fin s
 | s,x :: xs=>match f s x with
  | .inl s'=>run f fin s' xs
  | .inr b=>b
theorem qnw {σ τ α β:Type} {body:τ → Option (τ ⊕ β)} (mkS:σ → Int → τ) (xs:List α) (f:σ → α → σ ⊕ β) (fin:σ → β) (I:Nat → σ → Prop)
  (h1:∀ s (k:Nat) x,xs[k]? = some x → I k s → body (mkS s k) = some (match f s x with | .inl s'=>.inl (mkS s' ((k:Int) + 1)) | .inr b=>.inr b) ∧ ∀ s',f s x = .inl s' → I (k + 1) s')
  (h2:∀ s,I xs.length s → body (mkS s xs.length) = some (.inr (fin s))) :
  ∀ N s,xs.length < N → I 0 s → iter body N (mkS s 0) = some (run f fin s xs):=by
 have key:∀ j k N s,k + j = xs.length → j < N → I k s → iter body N (mkS s (k:Int)) = some (run f fin s (xs.drop k)):=by
  intro j
  induction j with
  | zero =>
   intro k N s hk hN hI
   obtain ⟨N,rfl⟩:∃ M,N = M + 1:=⟨N - 1,by omega⟩
   have e:xs.drop k = []:=List.drop_eq_nil_of_le (by omega)
   obtain rfl:k = xs.length:=by omega
   rw [iter,h2 s hI,e]; rfl
  | succ j ih =>
   intro k N s hk hN hI
   obtain ⟨N,rfl⟩:∃ M,N = M + 1:=⟨N - 1,by omega⟩
   have hlt:k < xs.length:=by omega
   have e:xs.drop k = xs[k] :: xs.drop (k + 1):=List.drop_eq_getElem_cons hlt
   obtain ⟨h3,h4⟩:=h1 s k _ (List.getElem?_eq_getElem hlt) hI
   rw [iter,h3,e]
   simp only [run]
   cases hf:f s xs[k] with
   | inl s' =>
    simp only
    rw [show ((k:Int) + 1) = ((k + 1:Nat):Int) by omega]
    exact ih (k + 1) N s' (by omega) (by omega) (h4 s' hf)
   | inr b=>rfl
 intro N s hN hI
 have:=key xs.length 0 N s (by omega) hN hI
 simpa using this
theorem qmS {σ τ α β:Type} {body:τ → Option (τ ⊕ β)} (mkS:σ → Int → τ) (xs:List α) (f:σ → α → σ ⊕ β) (fin:σ → β)
  (h1:∀ s (k:Nat) x,xs[k]? = some x → body (mkS s k) = some (match f s x with | .inl s'=>.inl (mkS s' ((k:Int) + 1)) | .inr b=>.inr b))
  (h2:∀ s,body (mkS s xs.length) = some (.inr (fin s))) (N:Nat) (s:σ) (hN:xs.length < N):iter body N (mkS s 0) = some (run f fin s xs) :=
 qnw mkS xs f fin (fun _ _=>True) (fun s k x hx _=>⟨h1 s k x hx,fun _ _=>trivial⟩) (fun s _=>h2 s) N s hN trivial
theorem qmv {α:Type} (p:α → Bool):∀ xs:List α,run (σ:=Unit) (β:=Unit ⊕ Bool) (fun _ x=>if p x then .inl () else .inr (.inr false)) (fun _=>.inl ()) () xs = if xs.all p then .inl () else .inr false
 | []=>rfl
 | x :: xs=>by
  unfold run
  cases h:p x with
  | true=>simp only [if_true,qmv p xs,List.all_cons,h,Bool.true_and]
  | false=>simp [h]
theorem qnQ {α:Type} {body:Int → Option (Int ⊕ (Unit ⊕ Bool))} (p:α → Bool) (xs:List α) (h1:∀ (k:Nat) x,xs[k]? = some x → body k = some (if p x then .inl ((k:Int) + 1) else .inr (.inr false))) (h2:body xs.length = some (.inr (.inl ()))) (N:Nat) (hN:xs.length < N) :
  iter body N 0 = some (if xs.all p then .inl () else .inr false):=by
 rw [← qmv p xs]
 refine qmS (σ:=Unit) (fun _ k=>k) xs _ _ (fun _ k x hx=>?_) (fun _=>h2) N () hN
 rw [h1 k x hx]
 cases p x <;> rfl
end Go.X
namespace Go.Proofs.YtllfckekodcdaaaGreatDoor
open Go.X
theorem qnZ {σ β:Type} {body:σ → Option (σ ⊕ β)} (I:Nat → σ → Prop) (n:Nat) (Q:β → Prop) (hs:∀ i s,i < n → I i s → ∃ s',body s = some (.inl s') ∧ I (i + 1) s') (hd:∀ s,I n s → ∃ b,body s = some (.inr b) ∧ Q b) :
  ∀ N s,n < N → I 0 s → ∃ b,iter body N s = some b ∧ Q b:=by
 have key:∀ j k N s,k + j = n → j < N → I k s → ∃ b,iter body N s = some b ∧ Q b:=by
  intro j
  induction j with
  | zero =>
   intro k N s hk hN hI
   obtain ⟨N,rfl⟩:∃ M,N = M + 1:=⟨N - 1,by omega⟩
   have:k = n:=by omega
   subst this
   obtain ⟨b,h1,h2⟩:=hd s hI
   exact ⟨b,by simp only [iter,h1],h2⟩
  | succ j ih =>
   intro k N s hk hN hI
   obtain ⟨N,rfl⟩:∃ M,N = M + 1:=⟨N - 1,by omega⟩
   obtain ⟨s',h1,h2⟩:=hs k s (by omega) hI
   simp only [iter,h1]
   exact ih (k + 1) N s' (by omega) (by omega) h2
 exact fun N s hN hI=>key n 0 N s (by omega) hN hI
theorem qoH {σ β:Type} {body:σ → Option (σ ⊕ β)} (f:Nat → σ) (n:Nat) (b:β) {s0:σ} (h0:f 0 = s0) (hs:∀ i,i < n → body (f i) = some (.inl (f (i + 1)))) (hd:body (f n) = some (.inr b)) (N:Nat) (hN:n < N):iter body N s0 = some b:=by
 subst h0
 obtain ⟨b',h1,rfl⟩:=qnZ (fun i s=>s = f i) n (fun b'=>b' = b) (fun i s hi h=>by subst h; exact ⟨_,hs i hi,rfl⟩) (fun s h=>by subst h; exact ⟨_,hd,rfl⟩) N (f 0) hN rfl
 exact h1
theorem ix {α:Type} (l:List α) (k:Nat):idx l (k:Int) = l[k]?:=by unfold idx; rw [if_pos (by omega)]; simp
theorem ixg {α:Type} {l:List α} {k:Nat} {x:α} (h:l[k]? = some x):idx l (k:Int) = some x:=by rw [ix,h]
theorem qkD {α:Type} {l:List α} {k:Nat} (h:k < l.length):∃ x,l[k]? = some x:=⟨_,List.getElem?_eq_getElem h⟩
theorem dk {k n:Nat} (h:k < n):decide ((k:Int) < (n:Int)) = true:=decide_eq_true (by omega)
theorem dn (n:Nat):decide ((n:Int) < (n:Int)) = false:=decide_eq_false (by omega)
theorem qkE {α:Type} {l:List α} {k:Nat} {x:α} (h:l[k]? = some x):l.take k ++ [x] = l.take (k + 1):=by rw [List.take_add_one,h]; rfl
theorem app1 {α:Type} {xs ys:List α} (h:xs.length + ys.length ≤ 4294967296):app xs ys = some (xs ++ ys):=by unfold app; rw [if_pos (by unfold LIM; exact h)]
def szI (x:Item):Nat:=x.Text.length + x.Ranges.length
def szL (l:List Item):Nat:=l.length + (l.map szI).sum
def szR (r:Rule):Nat:=r.Kind.length + r.Next.length + szL r.Items
def szS (x:State):Nat:=x.Name.length + (x.Rules.length + (x.Rules.map szR).sum)
def sz (s:List State):Nat:=s.length + (s.map szS).sum
theorem qj2 {α:Type} {f:α → Nat}:∀ {l:List α} {x:α},x ∈ l → f x ≤ (l.map f).sum
 | y :: l,x,h=>by
  simp only [List.map_cons,List.sum_cons]
  rcases List.mem_cons.1 h with rfl | h
  ·omega
  ·have:=qj2 (f:=f) h; omega
def SzL (N:Nat) (l:List Item):Prop:=l.length < N ∧ ∀ x ∈ l,x.Text.length < N ∧ x.Ranges.length < N
def SzR (N:Nat) (r:Rule):Prop:=r.Kind.length < N ∧ r.Next.length < N ∧ SzL N r.Items
def SzS (N:Nat) (x:State):Prop:=x.Name.length < N ∧ x.Rules.length < N ∧ ∀ r ∈ x.Rules,SzR N r
def Sz (N:Nat) (s:List State):Prop:=s.length < N ∧ ∀ x ∈ s,SzS N x
theorem SzL.of {N:Nat} {l:List Item} (h:szL l < N):SzL N l:=by
 unfold szL at h
 refine ⟨by omega,fun x hx=>?_⟩
 have:x.Text.length + x.Ranges.length ≤ (l.map szI).sum:=qj2 (f:=szI) hx
 omega
theorem SzR.of {N:Nat} {r:Rule} (h:szR r < N):SzR N r:=by
 unfold szR at h
 exact ⟨by omega,by omega,SzL.of (by omega)⟩
theorem SzS.of {N:Nat} {x:State} (h:szS x < N):SzS N x:=by
 unfold szS at h
 refine ⟨by omega,by omega,fun r hr=>SzR.of ?_⟩
 have:=qj2 (f:=szR) hr
 omega
theorem Sz.of {N:Nat} {s:List State} (h:sz s < N):Sz N s:=by
 unfold sz at h
 refine ⟨by omega,fun x hx=>SzS.of ?_⟩
 have:=qj2 (f:=szS) hx
 omega
abbrev Str:=List UInt8
def qlT (x:Item):Prop:=(x.Least = 1 ∨ x.Least = 0) ∧ (x.Most = 1 ∨ x.Most = -1)
instance (x:Item):Decidable (qlT x):=by unfold qlT; infer_instance
def word (w:Str):Bool:=w.all (fun c=>decide (97 ≤ c.toNat ∧ c.toNat ≤ 122)) && (decide (1 ≤ w.length) && decide (w.length ≤ 16))
def ItP (x:Item):Prop:=qlT x ∧ if x.Text = [] then (1 ≤ x.Ranges.length ∧ x.Ranges.length ≤ 20) ∧ ∀ g ∈ x.Ranges,g.From ≤ g.To else x.Text.length ≤ 40 ∧ x.Ranges = [] ∧ x.Not = false
def RlP (r:Rule):Prop:=word r.Kind = true ∧ (1 ≤ r.Items.length ∧ r.Items.length ≤ 20) ∧ ∀ x ∈ r.Items,ItP x
theorem qok {w:Str} (h:word w = true):1 ≤ w.length ∧ w.length ≤ 16:=by
 unfold word at h
 simp only [Bool.and_eq_true,decide_eq_true_eq] at h
 exact h.2
def bld (l:Str):Builder:=⟨(),ints l⟩
theorem qma (a b:Str):ints a ++ ints b = ints (a ++ b):=by simp [ints]
theorem qnN (l:Str):bytesOf (ints l) = l:=qlp l
theorem wstr {N:Nat} {l t:Str} (h:l.length + t.length ≤ 4294967296):qaF N t (bld l) = some ((t.length:Int),(),bld (l ++ t)):=by
 unfold qaF bld
 rw [app1 (by simpa [ints] using h),qma]
 rfl
theorem qqK {N:Nat} {l:Str} {c:Nat} (hc:c < 256) (h:l.length < 4294967296):qa4 N (c:Int) (bld l) = some ((),bld (l ++ [UInt8.ofNat c])):=by
 unfold qa4 bld
 have e:([(c:Int)]:List Int) = ints [UInt8.ofNat c]:=by simp [ints]; omega
 rw [app1 (by simp [ints]; omega),e,qma]
 rfl
theorem cat1 {a b:Str} (h:a.length + b.length ≤ 1000000000):cat a b = some (a ++ b):=by unfold cat; rw [if_pos (by unfold LIMS; omega)]
structure Vs (s:List State):Prop where
 len:1 ≤ s.length ∧ s.length ≤ 20
 name:∀ x ∈ s,word x.Name = true
 rules:∀ x ∈ s,1 ≤ x.Rules.length ∧ x.Rules.length ≤ 40
 rl:∀ x ∈ s,∀ r ∈ x.Rules,RlP r ∧ (r.Next = [] ∨ r.Next ∈ s.map State.Name)
 nd:(s.map State.Name).Nodup
theorem Vs.next {s:List State} (h:Vs s) {x:State} (hx:x ∈ s) {r:Rule} (hr:r ∈ x.Rules):r.Next.length ≤ 16:=by
 rcases (h.rl x hx r hr).2 with h1 | h1
 ·rw [h1]; decide
 ·obtain ⟨y,hy,e⟩:=List.mem_map.1 h1
  rw [← e]; exact (qok (h.name y hy)).2
end Go.Proofs.YtllfckekodcdaaaGreatDoor
namespace Go.Proofs.YtllfckekodcdaaaGreatDoor
open Go.X
def qdS (o:Option Bool) (P:Prop):Prop:=∃ b,o = some b ∧ (b = true ↔ P)
theorem qdS.yes {o:Option Bool} {P:Prop} (h:o = some true) (p:P):qdS o P:=⟨true,h,by simp [p]⟩
theorem qdS.no {o:Option Bool} {P:Prop} (h:o = some false) (p:¬P):qdS o P:=⟨false,h,by simp [p]⟩
theorem qdS.same {o o':Option Bool} {P:Prop} (h:qdS o P) (h':qdS o' P):o = o':=by
 obtain ⟨b,h1,h2⟩:=h
 obtain ⟨b',h3,h4⟩:=h'
 rw [h1,h3]
 cases b <;> cases b' <;> simp_all
theorem qdS.dec {P:Prop} [Decidable P]:qdS (some (decide P)) P:=⟨_,rfl,by simp⟩
theorem qdS.cases {o:Option Bool} {P:Prop} (h:qdS o P):(o = some true ∧ P) ∨ (o = some false ∧ ¬P):=by
 obtain ⟨b,h1,h2⟩:=h
 cases b with
 | true=>exact .inl ⟨h1,h2.1 rfl⟩
 | false=>exact .inr ⟨h1,fun p=>by simpa using h2.2 p⟩
theorem qjr {α:Type} {body:Int → Option (Int ⊕ (Unit ⊕ Bool))} (P:α → Prop) (xs:List α) {N:Nat} (hN:xs.length < N)
  (h1:∀ (k:Nat) x,xs[k]? = some x → (P x ∧ body k = some (.inl ((k:Int) + 1))) ∨ (¬P x ∧ body k = some (.inr (.inr false)))) (h2:body xs.length = some (.inr (.inl ()))) :
  (iter body N 0 = some (.inl ()) ∧ ∀ x ∈ xs,P x) ∨ (iter body N 0 = some (.inr false) ∧ ¬∀ x ∈ xs,P x):=by
 classical
 have h:=qnQ (body:=body) (fun x=>decide (P x)) xs (fun k x hx=>by
  rcases h1 k x hx with ⟨p,h⟩ | ⟨p,h⟩
  ·rw [h]; simp [p]
  ·rw [h]; simp [p]) h2 N hN
 by_cases hp:∀ x ∈ xs,P x
 ·refine .inl ⟨?_,hp⟩
  rw [h,if_pos (by simpa using hp)]
 ·refine .inr ⟨?_,hp⟩
  rw [h,if_neg (by simpa using hp)]
theorem lenb (n m:Nat):decide ((n:Int) ≤ (m:Int)) = decide (n ≤ m):=decide_eq_decide.2 (by omega)
def A1 (s:List State):Prop:=(∀ x ∈ s,word x.Name = true ∧ 1 ≤ x.Rules.length ∧ x.Rules.length ≤ 40) ∧ (s.map State.Name).Nodup
theorem A1.take {s:List State} {k:Nat} {x:State} (hx:s[k]? = some x):A1 (s.take (k + 1)) ↔ A1 (s.take k) ∧ (word x.Name = true ∧ 1 ≤ x.Rules.length ∧ x.Rules.length ≤ 40) ∧ x.Name ∉ (s.take k).map State.Name:=by
 unfold A1
 rw [← qkE hx]
 simp only [List.mem_append,List.mem_singleton,List.map_append,List.map_cons,List.map_nil,List.nodup_append]
 constructor
 ·rintro ⟨h1,h2,_,h3⟩
  exact ⟨⟨fun y hy=>h1 y (.inl hy),h2⟩,h1 x (.inr rfl),fun h=>h3 _ h _ rfl rfl⟩
 ·rintro ⟨⟨h1,h2⟩,h3,h4⟩
  refine ⟨fun y hy=>?_,h2,by simp,fun a ha b hb e=>?_⟩
  ·rcases hy with hy | rfl
   ·exact h1 y hy
   ·exact h3
  ·subst hb; subst e; exact h4 ha
theorem A1.sub {s:List State} (k:Nat) (h:A1 s):A1 (s.take k) :=
 ⟨fun x hx=>h.1 x (List.mem_of_mem_take hx),h.2.sublist ((List.take_sublist _ _).map _)⟩
end Go.Proofs.YtllfckekodcdaaaGreatDoor
namespace Go.Proofs.YtllfckekodcdaaaGreatDoor
open Go.X
def qp9 (x:Item) (c:Nat):Bool:=x.Not != x.Ranges.any (fun g=>decide (g.From ≤ (c:Int)) && decide ((c:Int) ≤ g.To))
def hit (x:Item) (s:Str):Option Nat :=
 if x.Text = [] then (match s with | []=>none | c :: _=>if qp9 x c.toNat then some 1 else none)
 else if x.Text.isPrefixOf s then some x.Text.length else none
def run (x:Item):Nat → Str → Nat → Nat × Nat
 | 0,_,c=>(0,c)
 | f + 1,s,c=>if x.Most < 0 ∨ (c:Int) < x.Most then (match hit x s with | some k=>(k + (run x f (s.drop k) (c + 1)).1,(run x f (s.drop k) (c + 1)).2) | none=>(0,c)) else (0,c)
theorem qn7 {α:Type} {s:List α} {n:Nat} (h:n ≤ s.length):slc s (n:Int) (s.length:Int) = some (s.drop n):=by
 unfold slc
 rw [if_pos (by omega)]
 congr 1
 rw [Int.toNat_natCast,List.take_of_length_le]
 simp only [List.length_drop]
 omega
theorem qo4 {α:Type} {s:List α} {a b:Nat} (h:a + b ≤ s.length):slc s (a:Int) ((a:Int) + (b:Int)) = some ((s.drop a).take b):=by
 unfold slc
 rw [if_pos (by omega)]
 congr 2
 omega
theorem qp1 {n:Nat} (h:n ≤ 1000000000):IntKind.wrap .i64 (n:Int) = (n:Int):=qfW (qdi.2 ⟨by omega,by omega⟩)
end Go.Proofs.YtllfckekodcdaaaGreatDoor
namespace Go.Proofs.YtllfckekodcdaaaGreatDoor
open Go.X
def qdo {α σ ρ:Type} (g:σ → α → σ ⊕ ρ):List α → σ → σ ⊕ ρ
 | [],s=>.inl s
 | x :: xs,s=>match g s x with | .inl s'=>qdo g xs s' | .inr r=>.inr r
theorem qhg {α σ ρ τ β:Type} (xs:List α) (g:σ → α → σ ⊕ ρ) (body:τ → Option (τ ⊕ β)) (mk:σ → Nat → τ) (L:σ → β) (R:ρ → β) (Inv:Nat → σ → Prop) {N:Nat} (hN:xs.length < N) {s0:σ} (h0:Inv 0 s0)
  (h1:∀ (k:Nat) (x:α) (s:σ),xs[k]? = some x → Inv k s → body (mk s k) = some (match g s x with | .inl s'=>.inl (mk s' (k + 1)) | .inr r=>.inr (R r)))
  (hI:∀ (k:Nat) (x:α) (s s':σ),xs[k]? = some x → Inv k s → g s x = .inl s' → Inv (k + 1) s')
  (h2:∀ s,Inv xs.length s → body (mk s xs.length) = some (.inr (L s))) {t0:τ} (ht:mk s0 0 = t0):iter body N t0 = some (match qdo g xs s0 with | .inl s=>L s | .inr r=>R r):=by
 have key:∀ (j k M:Nat) (s:σ),k + j = xs.length → j < M → Inv k s → iter body M (mk s k) = some (match qdo g (xs.drop k) s with | .inl s=>L s | .inr r=>R r):=by
  intro j
  induction j with
  | zero =>
   intro k M s hk hM hi
   obtain ⟨M,rfl⟩:∃ M',M = M' + 1:=⟨M - 1,by omega⟩
   obtain rfl:k = xs.length:=by omega
   rw [List.drop_eq_nil_of_le (Nat.le_refl _)]
   simp only [iter,h2 s hi,qdo]
  | succ j ih =>
   intro k M s hk hM hi
   obtain ⟨M,rfl⟩:∃ M',M = M' + 1:=⟨M - 1,by omega⟩
   have hlt:k < xs.length:=by omega
   have hx:xs[k]? = some xs[k]:=List.getElem?_eq_getElem hlt
   have hb:=h1 k _ s hx hi
   rw [List.drop_eq_getElem_cons hlt,qdo]
   cases hg:g s xs[k] with
   | inl s' =>
    rw [hg] at hb
    simp only [iter,hb]
    exact ih (k + 1) M s' (by omega) (by omega) (hI k _ s s' hx hi hg)
   | inr r =>
    rw [hg] at hb
    simp only [iter,hb]
 rw [← ht]
 have:=key xs.length 0 N s0 (by omega) hN h0
 simpa using this
theorem qlh {α σ ρ:Type} (g:σ → α → σ ⊕ ρ) (P:σ → Prop):∀ (xs:List α) (s s':σ),(∀ x ∈ xs,∀ s s',P s → g s x = .inl s' → P s') → P s → qdo g xs s = .inl s' → P s'
 | [],s,s',_,h,e=>by cases e; exact h
 | x :: xs,s,s',hs,h,e=>by
  rw [qdo] at e
  cases hg:g s x with
  | inl s1 =>
   rw [hg] at e
   exact qlh g P xs s1 s' (fun y hy=>hs y (List.mem_cons_of_mem _ hy)) (hs x (List.mem_cons_self ..) s s1 h hg) e
  | inr r=>rw [hg] at e; cases e
def qm6:Str:=[116,101,120,116]
def kEsc:Str:=[101,115,99,97,112,101]
def kStr:Str:=[115,116,114,105,110,103]
def kEnd:Str:=[101,110,100]
def litP (t:Token):Option Str :=
 if t.Kind = qm6 then some t.Text else if t.Kind = kEsc then (if t.Text = [92,110] then some [10] else if t.Text = [92,116] then some [9] else if t.Text = [] then none else some (t.Text.drop 1)) else none
def litG (acc:Str) (t:Token):Str ⊕ Unit:=match litP t with | some w=>.inl (acc ++ w) | none=>.inr ()
def lit (l:List Token):Str × Bool :=
 if 2 ≤ l.length ∧ (l[0]?.map Token.Kind) = some kStr ∧ (l[l.length - 1]?.map Token.Kind) = some kEnd then (match qdo litG ((l.drop 1).take (l.length - 2)) [] with | .inl s=>(s,true) | .inr _=>([],false)) else ([],false)
theorem qn8 {t:Token} {w:Str} (h:litP t = some w):w.length ≤ t.Text.length:=by
 unfold litP at h
 split at h
 ·cases h; exact Nat.le_refl _
 ·split at h
  ·split at h
   ·rename_i e; cases h; rw [e]; decide
   ·split at h
    ·rename_i e; cases h; rw [e]; decide
    ·split at h
     ·cases h
     ·cases h; simp
  ·cases h
def tsum (l:List Token):Nat:=(l.map fun t=>t.Text.length).sum
theorem qkn {l:List Token} (a b:Nat):tsum ((l.drop a).take b) ≤ tsum l:=by
 unfold tsum
 have h1:∀ (m:List Nat) (a:Nat),(m.drop a).sum ≤ m.sum:=fun m a=>by
  have:=congrArg List.sum (List.take_append_drop a m)
  rw [List.sum_append] at this; omega
 have h2:∀ (m:List Nat) (a:Nat),(m.take a).sum ≤ m.sum:=fun m a=>by
  have:=congrArg List.sum (List.take_append_drop a m)
  rw [List.sum_append] at this; omega
 rw [List.map_take,List.map_drop]
 exact Nat.le_trans (h2 _ _) (h1 _ _)
theorem qh6 {l:List Token} {k:Nat} {x:Token} (h:l[k]? = some x):tsum (l.take (k + 1)) = tsum (l.take k) + x.Text.length:=by
 rw [← qkE h]
 simp [tsum]
theorem qjp (l:List Token) (k:Nat):tsum (l.take k) ≤ tsum l:=by
 have:=qkn (l:=l) 0 k
 simpa using this
theorem beqS {a b:Str}:(a == b) = decide (a = b):=by by_cases h:a = b <;> simp [h]
theorem bneS {a b:Str}:(a != b) = !decide (a = b):=by by_cases h:a = b <;> simp [h]
theorem qow {N:Nat} {l t:Str} (h:l.length + t.length ≤ 4294967296):qaF N t (Builder.mk () (bld l).buf) = some ((t.length:Int),(),bld (l ++ t)):=wstr h
theorem qnj {N:Nat} {l:Str} {c:Nat} (hc:c < 256) (h:l.length < 4294967296):qa4 N (c:Int) (Builder.mk () (bld l).buf) = some ((),bld (l ++ [UInt8.ofNat c])):=qqK hc h
theorem slc1 {t:Str} (h:t ≠ []):slc t 1 (t.length:Int) = some (t.drop 1):=by
 have:1 ≤ t.length:=by cases t; exact absurd rfl h; simp
 exact qn7 (n:=1) this
theorem qoa {N:Nat} {l:List Token} {k:Nat} {x:Token} {acc:Str} (hx:l[k]? = some x) (hb:acc.length + x.Text.length ≤ 4000000000) :
  qcu N l (k:Int) (bld acc) = some (match litG acc x with | .inl s'=>.inl (((k + 1:Nat):Int),bld s') | .inr _=>.inr (.inr ([],false))):=by
 have hlt:=(List.getElem?_eq_some_iff.1 hx).1
 unfold qcu litG litP
 rw [dk hlt,cond_true,ixg hx,Option.bind_some]
 simp only [beqS,bneS]
 by_cases h1:x.Kind = qm6
 ·rw [if_pos h1,show decide (x.Kind = ([116,101,120,116]:Str)) = true from decide_eq_true h1,cond_true,qow (by omega)]
  rfl
 ·have h1':decide (x.Kind = ([116,101,120,116]:Str)) = false:=decide_eq_false h1
  rw [if_neg h1,h1',cond_false]
  by_cases h2:x.Kind = kEsc
  ·have h2':decide (x.Kind = ([101,115,99,97,112,101]:Str)) = true:=decide_eq_true h2
   rw [if_pos h2]
   simp only [h2',cond_true]
   by_cases h3:x.Text = [92,110]
   ·rw [if_pos h3,decide_eq_true h3,cond_true,show (10:Int) = ((10:Nat):Int) from rfl,qnj (by decide) (by omega)]
    rfl
   ·rw [if_neg h3,decide_eq_false h3,cond_false]
    by_cases h4:x.Text = [92,116]
    ·rw [if_pos h4,decide_eq_true h4,cond_true,show (9:Int) = ((9:Nat):Int) from rfl,qnj (by decide) (by omega)]
     rfl
    ·rw [if_neg h4,decide_eq_false h4,cond_false]
     by_cases h5:x.Text = []
     ·rw [if_pos h5,decide_eq_true h5]
      rfl
     ·rw [if_neg h5,decide_eq_false h5,Bool.not_false,cond_true,slc1 h5,Option.bind_some,qow (by simp; omega)]
      rfl
  ·have h2':decide (x.Kind = ([101,115,99,97,112,101]:Str)) = false:=decide_eq_false h2
   rw [if_neg h2]
   simp only [h2',cond_false]
theorem qlZ {acc s':Str} {x:Token} (h:litG acc x = .inl s'):s'.length ≤ acc.length + x.Text.length:=by
 unfold litG at h
 cases hp:litP x with
 | none=>rw [hp] at h; cases h
 | some w=>rw [hp] at h; cases h; have:=qn8 hp; simp; omega
theorem idx0 {α:Type} (l:List α):idx l 0 = l[0]?:=ix l 0
theorem qly {n:Nat} (h:1 ≤ n) (h2:n ≤ 1000000000):IntKind.wrap .i64 ((n:Int) - 1) = ((n - 1:Nat):Int):=by
 rw [show (n:Int) - 1 = ((n - 1:Nat):Int) by omega]
 exact qp1 (by omega)
theorem qm7 {N:Nat} {l:List Token} (hN:l.length < N) (hl:l.length ≤ 1000000000) (ht:tsum l ≤ 1000000000):qc9 N l = some (lit l):=by
 unfold qc9 lit
 by_cases h2:2 ≤ l.length
 ·rw [decide_eq_false (by omega),cond_false]
  obtain ⟨a,ha⟩:=qkD (l:=l) (k:=0) (by omega)
  obtain ⟨z,hz⟩:=qkD (l:=l) (k:=l.length - 1) (by omega)
  rw [idx0,ha,Option.bind_some,Option.map_some,qly (by omega) hl,ix,hz,Option.bind_some,Option.map_some]
  simp only [bneS]
  by_cases h3:a.Kind = kStr
  ·rw [show decide (a.Kind = ([115,116,114,105,110,103]:Str)) = true from decide_eq_true h3,Bool.not_true,cond_false]
   by_cases h4:z.Kind = kEnd
   ·rw [show decide (z.Kind = ([101,110,100]:Str)) = true from decide_eq_true h4,Bool.not_true,cond_false,if_pos ⟨h2,congrArg some h3,congrArg some h4⟩]
    rw [show ((l.length - 1:Nat):Int) = ((1:Nat):Int) + ((l.length - 2:Nat):Int) by omega,show (1:Int) = ((1:Nat):Int) from rfl,qo4 (by omega),Option.bind_some]
    generalize hm:(l.drop 1).take (l.length - 2) = m
    have hml:m.length ≤ l.length:=by rw [← hm]; simp; omega
    have hmt:tsum m ≤ tsum l:=by rw [← hm]; exact qkn 1 _
    rw [qhg m litG (fun s=>qcu N m s.1 s.2) (fun s k=>((k:Int),bld s)) (fun s=>.inl (bld s)) (fun _=>.inr ([],false)) (fun k s=>s.length ≤ tsum (m.take k)) (by omega) (s0:=([]:Str)) (by simp)
     (fun k x s hx hi=>by
      have h6:=qh6 hx
      have h7:=qjp m (k + 1)
      rw [qoa hx (by omega)]
      cases litG s x <;> rfl)
     (fun k x s s' hx hi hg=>by rw [qh6 hx]; have:=qlZ hg; omega)
     (fun s hi=>by
      unfold qcu
      rw [dn,cond_false]) (t0:=(0,Builder.mk () [])) rfl,Option.bind_some]
    cases qdo litG m [] with
    | inl s=>exact congrArg (fun x=>some (x,true)) (qnN s)
    | inr r=>rfl
   ·rw [show decide (z.Kind = ([101,110,100]:Str)) = false from decide_eq_false h4,Bool.not_false,cond_true,if_neg (fun h=>h4 (Option.some.inj h.2.2))]
  ·rw [show decide (a.Kind = ([115,116,114,105,110,103]:Str)) = false from decide_eq_false h3,Bool.not_false,cond_true,if_neg (fun h=>h3 (Option.some.inj h.2.1))]
 ·rw [decide_eq_true (by omega),cond_true,if_neg (fun h=>h2 h.1)]
end Go.Proofs.YtllfckekodcdaaaGreatDoor
namespace Go.Proofs.YtllfckekodcdaaaGreatDoor
open Go.X
def okC (c:Call):Prop:=c.Name ≠ [] ∧ -1 ≤ c.ID ∧ c.ID ≤ 9 ∧ -1 ≤ c.Source ∧ c.Source ≤ 9 ∧ ¬(c.ID = -1 ∧ c.Source = -1)
instance (c:Call):Decidable (okC c):=by unfold okC; infer_instance
def vcG (seen:List Str) (c:Call):List Str ⊕ Unit:=if okC c ∧ c.Name ∉ seen then .inl (seen ++ [c.Name]) else .inr ()
def VC (l:List Call):Prop:=(∀ c ∈ l,okC c) ∧ (l.map Call.Name).Nodup ∧ l.length ≤ 40
theorem qmx:∀ (l:List Call) (seen:List Str),(qdo vcG l seen = .inl (seen ++ l.map Call.Name) ∧ (∀ c ∈ l,okC c) ∧ (l.map Call.Name).Nodup ∧ ∀ c ∈ l,c.Name ∉ seen) ∨ (qdo vcG l seen = .inr () ∧ ¬((∀ c ∈ l,okC c) ∧ (l.map Call.Name).Nodup ∧ ∀ c ∈ l,c.Name ∉ seen))
 | [],seen=>.inl ⟨by simp [qdo],by simp,by simp,by simp⟩
 | c :: l,seen=>by
  rw [qdo]
  unfold vcG
  by_cases h:okC c ∧ c.Name ∉ seen
  ·rw [if_pos h]
   rcases qmx l (seen ++ [c.Name]) with ⟨h1,h2,h3,h4⟩ | ⟨h1,h2⟩
   ·refine .inl ⟨by rw [show qdo (fun seen c=>if okC c ∧ c.Name ∉ seen then (Sum.inl (seen ++ [c.Name]):List Str ⊕ Unit) else .inr ()) = qdo vcG from rfl]; simpa using h1,?_,?_,?_⟩
    ·intro x hx
     rcases List.mem_cons.1 hx with rfl | hx
     ·exact h.1
     ·exact h2 x hx
    ·rw [List.map_cons,List.nodup_cons]
     refine ⟨fun hm=>?_,h3⟩
     obtain ⟨x,hx,he⟩:=List.mem_map.1 hm
     exact h4 x hx (by rw [he]; simp)
    ·intro x hx
     rcases List.mem_cons.1 hx with rfl | hx
     ·exact h.2
     ·exact fun hs=>h4 x hx (List.mem_append_left _ hs)
   ·refine .inr ⟨h1,fun ⟨g1,g2,g3⟩=>h2 ⟨fun x hx=>g1 x (List.mem_cons_of_mem _ hx),?_,?_⟩⟩
    ·rw [List.map_cons,List.nodup_cons] at g2; exact g2.2
    ·intro x hx hs
     rw [List.map_cons,List.nodup_cons] at g2
     rcases List.mem_append.1 hs with hs | hs
     ·exact g3 x (List.mem_cons_of_mem _ hx) hs
     ·exact g2.1 (List.mem_map.2 ⟨x,hx,List.mem_singleton.1 hs⟩)
  ·rw [if_neg h]
   exact .inr ⟨rfl,fun ⟨g1,g2,g3⟩=>h ⟨g1 c (List.mem_cons_self ..),g3 c (List.mem_cons_self ..)⟩⟩
theorem qlG {l:List Call} {b:Bool} (h:b = (match qdo vcG l [] with | .inl _=>decide (l.length ≤ 40) | .inr _=>false)):(b = true ↔ VC l):=by
 rw [h]
 unfold VC
 rcases qmx l [] with ⟨h1,h2,h3,h4⟩ | ⟨h1,h2⟩
 ·rw [h1]
  exact Iff.intro (fun h=>⟨h2,h3,of_decide_eq_true h⟩) (fun h=>decide_eq_true h.2.2)
 ·rw [h1]
  exact Iff.intro (fun h=>by cases h) (fun g=>(h2 ⟨g.1,g.2.1,fun _ _=>by simp⟩).elim)
theorem qnv {s:List Str} {n:Str}:mget (s.map fun x=>(x,true)) n = if n ∈ s then some true else none:=by
 unfold mget
 induction s with
 | nil=>simp
 | cons x s ih =>
  rw [List.map_cons,List.find?_cons]
  by_cases h:n = x
  ·subst h; simp
  ·have:(n == (x,true).1) = false:=by simpa using h
   rw [this]
   simp only [List.mem_cons,h,false_or]
   exact ih
theorem qnI {s:List Str} {n:Str} (h:¬n ∈ s):mput (s.map fun x=>(x,true)) n true = (s ++ [n]).map fun x=>(x,true):=by
 induction s with
 | nil=>rfl
 | cons x s ih =>
  simp only [List.mem_cons,not_or] at h
  rw [List.map_cons,mput,if_neg (by simpa using h.1),ih h.2]
  simp
theorem qng {s:List Str} {n:Str} (h:n ∉ s) (hl:s.length ≤ 1000000):mset (s.map fun x=>(x,true)) n true = some ((s ++ [n]).map fun x=>(x,true)):=by
 unfold mset
 rw [if_pos (by simp; unfold LIM; omega),qnI h]
theorem qmK {α:Type} (c:Call) (F A:α):(bif c.Name == ([]:Str) then F else bif decide (c.ID < -1) then F else bif decide (c.ID > 9) then F else bif decide (c.Source < -1) then F else bif decide (c.Source > 9) then F else bif c.ID == -1 then (bif c.Source == -1 then F else A) else A) = if okC c then A else F:=by
 by_cases h1:c.Name = []
 ·rw [if_neg (fun h:okC c=>h.1 h1),h1]; rfl
 ·simp only [beqS,decide_eq_false h1,cond_false]
  by_cases h2:c.ID < -1
  ·rw [decide_eq_true h2,if_neg (fun h:okC c=>by have:=h.2.1; omega),cond_true]
  ·rw [decide_eq_false h2,cond_false]
   by_cases h3:c.ID > 9
   ·rw [decide_eq_true h3,if_neg (fun h:okC c=>by have:=h.2.2.1; omega),cond_true]
   ·rw [decide_eq_false h3,cond_false]
    by_cases h4:c.Source < -1
    ·rw [decide_eq_true h4,if_neg (fun h:okC c=>by have:=h.2.2.2.1; omega),cond_true]
    ·rw [decide_eq_false h4,cond_false]
     by_cases h5:c.Source > 9
     ·rw [decide_eq_true h5,if_neg (fun h:okC c=>by have:=h.2.2.2.2.1; omega),cond_true]
     ·rw [decide_eq_false h5,cond_false]
      by_cases h8:c.ID = -1 ∧ c.Source = -1
      ·rw [beq_iff_eq.2 h8.1,cond_true,beq_iff_eq.2 h8.2,if_neg (fun h:okC c=>h.2.2.2.2.2 h8),cond_true]
      ·rw [if_pos (show okC c from ⟨h1,by omega,by omega,by omega,by omega,h8⟩)]
       by_cases g1:c.ID = -1
       ·have g2:c.Source ≠ -1:=fun g=>h8 ⟨g1,g⟩
        rw [beq_iff_eq.2 g1,beq_eq_false_iff_ne.2 g2]; rfl
       ·rw [beq_eq_false_iff_ne.2 g1]; rfl
theorem qmQ {N:Nat} {l:List Call} {k:Nat} {c:Call} {seen:List Str} (hc:l[k]? = some c) (hs:seen.length ≤ 100000) :
  qcT N l (k:Int) (seen.map fun x=>(x,true)) = some (match vcG seen c with | .inl s'=>.inl (((k + 1:Nat):Int),s'.map fun x=>(x,true)) | .inr _=>.inr (.inr false)):=by
 have hlt:=(List.getElem?_eq_some_iff.1 hc).1
 unfold qcT vcG
 rw [dk hlt,cond_true,ixg hc,Option.bind_some,qnv]
 by_cases h7:c.Name ∈ seen
 ·rw [if_pos h7,if_neg (fun h:okC c ∧ ¬c.Name ∈ seen=>h.2 h7)]
  cases (c.Name == ([]:Str)) <;> rfl
 ·rw [if_neg h7,qng h7 (by omega)]
  refine (qmK c _ _).trans ?_
  by_cases h:okC c
  ·rw [if_pos h,if_pos (show okC c ∧ ¬c.Name ∈ seen from ⟨h,h7⟩)]; rfl
  ·rw [if_neg h,if_neg (fun g:okC c ∧ ¬c.Name ∈ seen=>h g.1)]
theorem qpg {seen s':List Str} {c:Call} (h:vcG seen c = .inl s'):s'.length = seen.length + 1:=by
 unfold vcG at h
 split at h
 ·cases h; simp
 ·cases h
theorem qnV {N:Nat} {l:List Call} (hN:l.length < N) (hl:l.length ≤ 100000):qdS (qea N l) (VC l):=by
 refine ⟨_,?_,qlG (l:=l) rfl⟩
 unfold qea
 rw [qhg l vcG (fun s=>qcT N l s.1 s.2) (fun s k=>((k:Int),s.map fun x=>(x,true))) (fun _=>.inl ()) (fun _=>.inr false) (fun k s=>s.length ≤ k) hN (s0:=([]:List Str)) (by simp)
  (fun k x s hx hi=>by
   have:=(List.getElem?_eq_some_iff.1 hx).1
   rw [qmQ hx (by omega)]
   cases vcG s x <;> rfl)
  (fun k x s s' hx hi hg=>by have:=qpg hg; omega)
  (fun s hi=>by unfold qcT; rw [dn,cond_false]) (t0:=(0,([]:List (Str × Bool)))) rfl,Option.bind_some]
 cases qdo vcG l [] with
 | inl s=>exact congrArg some (lenb l.length 40)
 | inr r=>rfl
theorem qmj {N:Nat} {l:List Call} {i:Nat} {n:Str} {body:Int → Option (Int ⊕ (Unit ⊕ Bool))} (hi:i ≤ l.length) (hN:i < N)
  (hb:∀ k:Int,body k = bif decide (k < (i:Int)) then (idx l k).bind fun x33=>bif (x33.Name == n) then some (.inr (.inr false)) else some (.inl (k + 1)) else some (.inr (.inl ()))) :
  iter body N 0 = some (if n ∈ (l.take i).map Call.Name then .inr false else .inl ()):=by
 rcases qjr (body:=body) (fun c:Call=>¬c.Name = n) (l.take i) (N:=N) (by simp; omega) (fun k x hx=>by
  have hk:=(List.getElem?_eq_some_iff.1 hx).1
  simp only [List.length_take] at hk
  have hx2:l[k]? = some x:=by rw [List.getElem?_take_of_lt (by omega)] at hx; exact hx
  rw [hb,dk (show k < i by omega),cond_true,ixg hx2,Option.bind_some,beqS]
  by_cases h:x.Name = n
  ·rw [decide_eq_true h]; exact .inr ⟨fun g=>g h,rfl⟩
  ·rw [decide_eq_false h]; exact .inl ⟨h,rfl⟩) (by rw [hb,List.length_take,Nat.min_eq_left hi,dn,cond_false]) with ⟨h1,h2⟩ | ⟨h1,h2⟩
 ·rw [h1,if_neg]
  intro hm
  obtain ⟨x,hx,he⟩:=List.mem_map.1 hm
  exact h2 x hx he
 ·rw [h1,if_pos]
  apply Classical.byContradiction
  intro hm
  exact h2 fun x hx he=>hm (List.mem_map.2 ⟨x,hx,he⟩)
theorem qk0 {N:Nat} {l:List Call} {k:Nat} {c:Call} (hc:l[k]? = some c) (hN:l.length < N) :
  qci N l (k:Int) = some (match vcG ((l.take k).map Call.Name) c with | .inl s'=>.inl ((k + 1:Nat):Int) | .inr _=>.inr (.inr false)):=by
 have hlt:=(List.getElem?_eq_some_iff.1 hc).1
 unfold qci vcG
 rw [dk hlt,cond_true,ixg hc,Option.bind_some]
 rw [qmj (l:=l) (i:=k) (n:=c.Name) (body:=fun s=>qdR N l (k:Int) c s) (by omega) (by omega) (fun _=>rfl),qmj (l:=l) (i:=k) (n:=c.Name) (body:=fun s=>qdP N l (k:Int) c s) (by omega) (by omega) (fun _=>rfl)]
 simp only [Option.bind_some]
 refine (qmK c _ _).trans ?_
 by_cases h:okC c
 ·rw [if_pos h]
  by_cases h7:c.Name ∈ (l.take k).map Call.Name
  ·rw [if_pos h7,if_neg (fun g:okC c ∧ ¬c.Name ∈ (l.take k).map Call.Name=>g.2 h7)]; rfl
  ·rw [if_neg h7,if_pos (show okC c ∧ ¬c.Name ∈ (l.take k).map Call.Name from ⟨h,h7⟩)]; rfl
 ·rw [if_neg h,if_neg (fun g:okC c ∧ ¬c.Name ∈ (l.take k).map Call.Name=>h g.1)]
theorem qle {N:Nat} {l:List Call} (hN:l.length < N):qdS (qdO N l) (VC l):=by
 refine ⟨_,?_,qlG (l:=l) rfl⟩
 unfold qdO
 rw [qhg l vcG (fun s=>qci N l s) (fun s k=>(k:Int)) (fun _=>.inl ()) (fun _=>.inr false) (fun k s=>s = (l.take k).map Call.Name) hN (s0:=([]:List Str)) (by simp)
  (fun k x s hx hi=>by
   rw [hi,qk0 hx hN]
   cases vcG ((l.take k).map Call.Name) x <;> rfl)
  (fun k x s s' hx hi hg=>by
   unfold vcG at hg
   split at hg
   ·cases hg; rw [hi,← qkE hx]; simp
   ·cases hg)
  (fun s hi=>by unfold qci; rw [dn,cond_false]) (t0:=0) rfl,Option.bind_some]
 cases qdo vcG l [] with
 | inl s=>exact congrArg some (lenb l.length 40)
 | inr r=>rfl
theorem qnh {N:Nat} {l:List Token} {k:Nat} {x:Token} {acc:Str} (hx:l[k]? = some x) (hk:k < l.length - 1) (hl:l.length ≤ 1000000000) (hb:acc.length + x.Text.length ≤ 1000000000) :
  qb8 N l acc (k:Int) = some (match litG acc x with | .inl s'=>.inl (s',((k + 1:Nat):Int)) | .inr _=>.inr (.inr ([],false))):=by
 unfold qb8 litG litP
 rw [qly (by omega) hl,dk hk,cond_true,ixg hx]
 simp only [beqS,bneS,Option.bind_some]
 by_cases h1:x.Kind = qm6
 ·rw [if_pos h1,show decide (x.Kind = ([116,101,120,116]:Str)) = true from decide_eq_true h1,cond_true,cat1 hb]
  rfl
 ·have h1':decide (x.Kind = ([116,101,120,116]:Str)) = false:=decide_eq_false h1
  rw [if_neg h1,h1',cond_false]
  by_cases h2:x.Kind = kEsc
  ·have h2':decide (x.Kind = ([101,115,99,97,112,101]:Str)) = true:=decide_eq_true h2
   rw [if_pos h2]
   simp only [h2',cond_true]
   by_cases h3:x.Text = [92,110]
   ·rw [h3] at hb
    rw [if_pos h3,decide_eq_true h3,cond_true,cat1 (by simp at hb ⊢; omega)]
    rfl
   ·rw [if_neg h3,decide_eq_false h3,cond_false]
    by_cases h4:x.Text = [92,116]
    ·rw [h4] at hb
     rw [if_pos h4,decide_eq_true h4,cond_true,cat1 (by simp at hb ⊢; omega)]
     rfl
    ·rw [if_neg h4,decide_eq_false h4,cond_false]
     by_cases h5:x.Text = []
     ·rw [if_pos h5,decide_eq_true h5]
      rfl
     ·rw [if_neg h5,decide_eq_false h5,Bool.not_false,cond_true,slc1 h5,Option.bind_some,cat1 (by simp; omega)]
      rfl
  ·have h2':decide (x.Kind = ([101,115,99,97,112,101]:Str)) = false:=decide_eq_false h2
   rw [if_neg h2]
   simp only [h2',cond_false]
theorem qmn {N:Nat} {l:List Token} (hN:l.length < N) (hl:l.length ≤ 1000000000) (ht:tsum l ≤ 1000000000):qdr N l = some (lit l):=by
 unfold qdr lit
 by_cases h2:2 ≤ l.length
 ·rw [decide_eq_false (by omega),cond_false]
  obtain ⟨a,ha⟩:=qkD (l:=l) (k:=0) (by omega)
  obtain ⟨z,hz⟩:=qkD (l:=l) (k:=l.length - 1) (by omega)
  rw [idx0,ha,Option.bind_some,Option.map_some,qly (by omega) hl,ix,hz,Option.bind_some,Option.map_some]
  simp only [bneS]
  by_cases h3:a.Kind = kStr
  ·rw [show decide (a.Kind = ([115,116,114,105,110,103]:Str)) = true from decide_eq_true h3,Bool.not_true,cond_false]
   by_cases h4:z.Kind = kEnd
   ·rw [show decide (z.Kind = ([101,110,100]:Str)) = true from decide_eq_true h4,Bool.not_true,cond_false,if_pos ⟨h2,congrArg some h3,congrArg some h4⟩]
    generalize hm:(l.drop 1).take (l.length - 2) = m
    have hml:m.length = l.length - 2:=by rw [← hm]; simp; omega
    have hmt:tsum m ≤ tsum l:=by rw [← hm]; exact qkn 1 _
    have hmx:∀ k x,m[k]? = some x → l[k + 1]? = some x ∧ k < l.length - 2:=fun k x hx=>by
     have hk:=(List.getElem?_eq_some_iff.1 hx).1
     rw [← hm,List.getElem?_take_of_lt (by omega),List.getElem?_drop] at hx
     rw [Nat.add_comm] at hx
     exact ⟨hx,by omega⟩
    rw [qhg m litG (fun s=>qb8 N l s.1 s.2) (fun s k=>(s,((k + 1:Nat):Int))) (fun s=>.inl s) (fun _=>.inr ([],false)) (fun k s=>s.length ≤ tsum (m.take k)) (by omega) (s0:=([]:Str)) (by simp)
     (fun k x s hx hi=>by
      obtain ⟨g1,g2⟩:=hmx k x hx
      have h6:=qh6 hx
      have h7:=qjp m (k + 1)
      rw [qnh (acc:=s) g1 (by omega) hl (by omega)]
      cases litG s x <;> rfl)
     (fun k x s s' hx hi hg=>by rw [qh6 hx]; have:=qlZ hg; omega)
     (fun s hi=>by
      unfold qb8
      rw [qly (by omega) hl,decide_eq_false (by omega),cond_false]) (t0:=(([]:Str),1)) rfl,Option.bind_some]
    cases qdo litG m [] <;> rfl
   ·rw [show decide (z.Kind = ([101,110,100]:Str)) = false from decide_eq_false h4,Bool.not_false,cond_true,if_neg (fun h=>h4 (Option.some.inj h.2.2))]
  ·rw [show decide (a.Kind = ([115,116,114,105,110,103]:Str)) = false from decide_eq_false h3,Bool.not_false,cond_true,if_neg (fun h=>h3 (Option.some.inj h.2.1))]
 ·rw [decide_eq_true (by omega),cond_true,if_neg (fun h=>h2 h.1)]
def FewP (calls:List Call) (files:List File):Prop:=(∀ f ∈ files,f.Text.length ≤ 400 ∧ f.Name.length ≤ 200) ∧ (∀ c ∈ calls,c.Name.length ≤ 100) ∧ calls.length ≤ 45 ∧ files.length ≤ 6
theorem qpo {N:Nat} {calls:List Call} {files:List File} (h1:calls.length < N) (h2:files.length < N):qdS (qeq N calls files) (FewP calls files):=by
 unfold qeq FewP
 rcases qjr (body:=fun s=>qcX N files s) (fun f:File=>f.Text.length ≤ 400 ∧ f.Name.length ≤ 200) files h2 (fun k x hx=>by
  simp only [qcX]
  rw [dk (List.getElem?_eq_some_iff.1 hx).1,cond_true,ixg hx]
  simp only [Option.bind_some]
  by_cases g1:x.Text.length ≤ 400
  ·rw [decide_eq_false (show ¬((x.Text.length:Int) > 400) by omega),cond_false]
   by_cases g2:x.Name.length ≤ 200
   ·rw [decide_eq_false (show ¬((x.Name.length:Int) > 200) by omega)]; exact .inl ⟨⟨g1,g2⟩,rfl⟩
   ·rw [decide_eq_true (show ((x.Name.length:Int) > 200) by omega)]; exact .inr ⟨fun h=>g2 h.2,rfl⟩
  ·rw [decide_eq_true (show ((x.Text.length:Int) > 400) by omega)]; exact .inr ⟨fun h=>g1 h.1,rfl⟩) (by simp only [qcX]; rw [dn,cond_false]) with ⟨e1,p1⟩ | ⟨e1,p1⟩
 rotate_left
 ·rw [e1]; exact qdS.no rfl fun h=>p1 h.1
 rw [e1,Option.bind_some,Sum.elim_inl]
 rcases qjr (body:=fun s=>qc0 N calls s) (fun f:Call=>f.Name.length ≤ 100) calls h1 (fun k x hx=>by
  simp only [qc0]
  rw [dk (List.getElem?_eq_some_iff.1 hx).1,cond_true,ixg hx]
  simp only [Option.bind_some]
  by_cases g1:x.Name.length ≤ 100
  ·rw [decide_eq_false (show ¬((x.Name.length:Int) > 100) by omega)]; exact .inl ⟨g1,rfl⟩
  ·rw [decide_eq_true (show ((x.Name.length:Int) > 100) by omega)]; exact .inr ⟨g1,rfl⟩) (by simp only [qc0]; rw [dn,cond_false]) with ⟨e2,p2⟩ | ⟨e2,p2⟩
 rotate_left
 ·rw [e2]; exact qdS.no rfl fun h=>p2 h.2.1
 rw [e2,Option.bind_some,Sum.elim_inl]
 by_cases h3:calls.length ≤ 45
 ·rw [decide_eq_true (show (calls.length:Int) ≤ 45 by omega),cond_true]
  by_cases h4:files.length ≤ 6
  ·rw [decide_eq_true (show (files.length:Int) ≤ 6 by omega)]; exact qdS.yes rfl ⟨p1,p2,h3,h4⟩
  ·rw [decide_eq_false (show ¬(files.length:Int) ≤ 6 by omega)]; exact qdS.no rfl fun h=>h4 h.2.2.2
 ·rw [decide_eq_false (show ¬(calls.length:Int) ≤ 45 by omega)]; exact qdS.no rfl fun h=>h3 h.2.2.1
theorem qpK {N:Nat} {l:List Call} (hN:l.length < N) (hl:l.length ≤ 1000000):qeg N l = some l:=by
 unfold qeg
 rw [qoH (fun k=>(l.take k,(k:Int))) l.length l (s0:=(([]:List Call),(0:Int))) rfl (fun i hi=>by
  simp only [qdC]
  obtain ⟨x,hx⟩:=qkD hi
  rw [dk hi,cond_true,ixg hx,Option.bind_some,app1 (by simp; omega),Option.bind_some,qkE hx]
  rfl) (by simp only [qdC]; rw [dn,cond_false,List.take_length]) N hN]
 rfl
set_option maxRecDepth 1000000 in
theorem qne (n:Nat):qez (n + 300) = some true:=by kernel_rfl
theorem qjn (calls:List Call) (l:List Token):∃ N,qbG N calls l = some true:=by
 refine ⟨calls.length + l.length + 300,?_⟩
 generalize hN:calls.length + l.length + 300 = N
 obtain ⟨n,hn⟩:∃ n,N = n + 300:=⟨calls.length + l.length,hN.symm⟩
 unfold qbG
 rw [hn,qne,← hn,Option.bind_some,Bool.not_true,cond_false]
 rcases (qpo (N:=N) (calls:=calls) (files:=[]) (by omega) (by simp; omega)).cases with ⟨h,hf⟩ | ⟨h,hf⟩
 rotate_left
 ·rw [h]; rfl
 rw [h,Option.bind_some,Bool.not_true,cond_false]
 by_cases hl:l.length ≤ 20
 rotate_left
 ·rw [decide_eq_true (show (l.length:Int) > 20 by omega)]; rfl
 rw [decide_eq_false (show ¬(l.length:Int) > 20 by omega),cond_false]
 rw [qhg l (fun (s:List Token) t=>if t.Text.length ≤ 100 ∧ t.Kind.length ≤ 100 then .inl (s ++ [t]) else Sum.inr ()) (fun s=>qbL N l s.1 s.2) (fun s k=>(s,(k:Int))) (fun s=>.inl s) (fun _=>.inr true) (fun k s=>s = l.take k ∧ ∀ t ∈ s,t.Text.length ≤ 100) (by omega) (s0:=([]:List Token)) ⟨rfl,by simp⟩
  (fun k x s hx hi=>by
   have hlt:=(List.getElem?_eq_some_iff.1 hx).1
   simp only [qbL]
   rw [dk hlt,cond_true,ixg hx,hi.1]
   simp only [Option.bind_some]
   by_cases g1:x.Text.length ≤ 100
   ·rw [decide_eq_false (show ¬((x.Text.length:Int) > 100) by omega),cond_false]
    by_cases g2:x.Kind.length ≤ 100
    ·rw [decide_eq_false (show ¬((x.Kind.length:Int) > 100) by omega),cond_false,app1 (by simp; omega),if_pos ⟨g1,g2⟩]; rfl
    ·rw [decide_eq_true (show ((x.Kind.length:Int) > 100) by omega),if_neg (fun h=>g2 h.2)]; rfl
   ·rw [decide_eq_true (show ((x.Text.length:Int) > 100) by omega),if_neg (fun h=>g1 h.1)]; rfl)
  (fun k x s s' hx hi hg=>by
   by_cases g:x.Text.length ≤ 100 ∧ x.Kind.length ≤ 100
   ·rw [if_pos g] at hg
    cases hg
    refine ⟨by rw [hi.1,qkE hx],fun t ht=>?_⟩
    rcases List.mem_append.1 ht with ht | ht
    ·exact hi.2 t ht
    ·obtain rfl:=List.mem_singleton.1 ht; exact g.1
   ·rw [if_neg g] at hg; cases hg)
  (fun s hi=>by simp only [qbL]; rw [dn,cond_false]) (t0:=(([]:List Token),0)) rfl,Option.bind_some]
 have hinv:=qlh (fun (s:List Token) t=>if t.Text.length ≤ 100 ∧ t.Kind.length ≤ 100 then .inl (s ++ [t]) else Sum.inr ())
 have key:∀ (m s s':List Token),qdo (fun (s:List Token) t=>if t.Text.length ≤ 100 ∧ t.Kind.length ≤ 100 then .inl (s ++ [t]) else Sum.inr ()) m s = .inl s' → s' = s ++ m ∧ ∀ t ∈ m,t.Text.length ≤ 100:=by
  intro m
  induction m with
  | nil=>intro s s' h; cases h; simp
  | cons x m ih =>
   intro s s' h
   rw [qdo] at h
   by_cases g:x.Text.length ≤ 100 ∧ x.Kind.length ≤ 100
   ·rw [if_pos g] at h
    obtain ⟨i1,i2⟩:=ih _ _ h
    refine ⟨by simpa using i1,fun t ht=>?_⟩
    rcases List.mem_cons.1 ht with rfl | ht
    ·exact g.1
    ·exact i2 t ht
   ·rw [if_neg g] at h; cases h
 cases hfo:qdo (fun (s:List Token) t=>if t.Text.length ≤ 100 ∧ t.Kind.length ≤ 100 then .inl (s ++ [t]) else Sum.inr ()) l [] with
 | inr r=>rfl
 | inl s =>
  obtain ⟨hs,hb⟩:=key l [] s hfo
  rw [List.nil_append] at hs
  rw [hs]
  have hts:∀ m:List Token,(∀ t ∈ m,t.Text.length ≤ 100) → tsum m ≤ m.length * 100:=by
   intro m
   induction m with
   | nil=>intro _; simp [tsum]
   | cons x m ih =>
    intro h
    have h1:=h x (List.mem_cons_self ..)
    have h2:=ih fun t ht=>h t (List.mem_cons_of_mem _ ht)
    simp only [tsum,List.map_cons,List.sum_cons,List.length_cons] at h2 ⊢
    omega
  have htl:=hts l hb
  show ((qc9 N l).bind fun r81=>_) = some true
  rw [qm7 (N:=N) (l:=l) (by omega) (by omega) (by omega),Option.bind_some,qmn (N:=N) (l:=l) (by omega) (by omega) (by omega),Option.bind_some,beq_self_eq_true,cond_true,beq_self_eq_true,cond_true]
  rw [qpK (N:=N) (l:=calls) (by omega) (by have:=hf.2.2.1; omega),Option.bind_some,(qnV (N:=N) (l:=calls) (by omega) (by have:=hf.2.2.1; omega)).same (qle (N:=N) (l:=calls) (by omega))]
  obtain ⟨b,hb2,_⟩:=qle (N:=N) (l:=calls) (by omega)
  rw [hb2,Option.bind_some,Option.bind_some,beq_self_eq_true]
end Go.Proofs.YtllfckekodcdaaaGreatDoor
