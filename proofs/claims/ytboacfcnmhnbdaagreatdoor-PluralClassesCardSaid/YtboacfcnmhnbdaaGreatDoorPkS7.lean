/- Texts of this proof, put together by pack.py: what its declarations name. -/
import Derived.Test.YtboacfcnmhnbdaaGreatDoorPkS6
import Derived.Test.YtboacfcnmhnbdaaGreatDoorCards
import Derived.Test.YtboacfcnmhnbdaaGreatDoorChecked
import Derived.Test.YtboacfcnmhnbdaaGreatDoorProg
import Derived.Test.YtboacfcnmhnbdaaGreatDoorRows
import Derived.Test.YtboacfcnmhnbdaaGreatDoorTie
set_option linter.unusedVariables false
namespace Go.Proofs.YtboacfcnmhnbdaaGreatDoor
open Go.X
theorem qq6 {N:Nat} {cs:List Cnd} {l:List Relation} (S:Sl N l) (W F:List Part) (n:Nat) (s:Str) (O:List Int) (hc:cs.length ≤ 1000) (hO:∀ (i:Nat) (c:Cnd),cs[i]? = some c → ∃ off:Nat,idx O (i:Int) = some (off:Int) ∧ (∀ j r,c.flatten[j]? = some r → l[off + j]? = some r) ∧ off + c.flatten.length ≤ 60) (hcN:∀ c ∈ cs,c.length < N) :
  qdg N (some (Classes.mk l W F)) (pw l n) (pf l s) cs O = (qdk N (cs.map fun c=>hdp c (dd n) s)).bind fun r=>some r:=by
 have hn:=S.n
 unfold qdg
 rw [qiM hc]
 simp only [Option.bind_some]
 have hh:=qaT (body:=fun t=>qbw N (some (Classes.mk l W F)) (pw l n) (pf l s) cs O t.1 t.2) (σ:=Nat) (fun i k=>(k,fill (cs.map fun c=>hdp c (dd n) s) false i)) cs (fun i _=>.inl (i + 1)) (fun i=>fill (cs.map fun c=>hdp c (dd n) s) false i) (fun k i=>i = k) (fun i k c hk hi=>?_) (fun i hi=>?_) N 0 (by omega) rfl
 ·rw [qe2,Nat.zero_add,qg8,List.length_map] at hh
  have e:=qhH (cs.map fun c=>hdp c (dd n) s) false
  rw [List.length_map] at e
  rw [e] at hh
  rw [hh]
  rfl
 ·subst hi
  have hx:(cs.map fun c=>hdp c (dd n) s)[i]? = some (hdp c (dd n) s):=by rw [List.getElem?_map,hk]; rfl
  have hlt:=qbv hk
  obtain ⟨off,h1,h2,h3⟩:=hO i c hk
  constructor
  ·show qbw N (some (Classes.mk l W F)) (pw l n) (pf l s) cs O i (fill (cs.map fun c=>hdp c (dd n) s) false i) = _
   unfold qbw
   simp only [dltx hk,cond_true,qaz hk,Option.bind_some]
   rw [qlT S W F n s h1 h2 (hcN c (List.mem_of_getElem? hk)) h3]
   simp only [Option.bind_some]
   rw [qaz (qgw hx),qgu (by rw [qgI _ _ (by rw [List.length_map]; omega),List.length_map]; exact hlt)]
   simp only [Option.bind_some]
   rw [qgH hx]
  ·intro s' h
   cases h; rfl
 ·subst hi
  show qbw N (some (Classes.mk l W F)) (pw l n) (pf l s) cs O cs.length (fill (cs.map fun c=>hdp c (dd n) s) false cs.length) = _
  unfold qbw
  simp only [dnlt,cond_false]
def fnds (b:Option Str):Str:=b.getD []
def isfs (b:Option Str):Bool:=b.isSome
theorem qr8 {N:Nat} {cs:List Cnd} {l:List Relation} (S:Sl N l) (O:List Int) (hc:cs.length ≤ 1000) (hO:∀ (i:Nat) (c:Cnd),cs[i]? = some c → ∃ off:Nat,idx O (i:Int) = some (off:Int) ∧ (∀ j r,c.flatten[j]? = some r → l[off + j]? = some r) ∧ off + c.flatten.length ≤ 60) (hcN:∀ c ∈ cs,c.length < N)
  (ws:List Nat) (fs:List Str) (hws:∀ n ∈ ws,n < 1000) (hfs:∀ s ∈ fs,s.length ≤ 6) (hwl:ws.length ≤ 1000) (hfl:fs.length ≤ 2000000)
  (P:Str → Bool) (hP:∀ n ∈ ws,∀ s ∈ fs,qdk N (cs.map fun c=>hdp c (dd n) s) = some (P (nb (dd n) s))) :
  qcU N (some (Classes.mk l (ws.map (pw l)) (fs.map (pf l)))) cs O = some (fnds (fstW P (ws.flatMap fun n=>fs.map fun f=>nb (dd n) f)),isfs (fstW P (ws.flatMap fun n=>fs.map fun f=>nb (dd n) f))):=by
 have hn:=S.n
 have inner:∀ n ∈ ws,∀ b:Option Str,(∀ x,b = some x → x.length ≤ 100) → iter (fun t=>qbi N (some (Classes.mk l (ws.map (pw l)) (fs.map (pf l)))) cs O (pw l n) (Classes.mk l (ws.map (pw l)) (fs.map (pf l))) t.1 t.2.1 t.2.2) N (fnds b,isfs b,0) = some (fnds ((fs.map fun f=>nb (dd n) f).foldl (fst1 P) b),isfs ((fs.map fun f=>nb (dd n) f).foldl (fst1 P) b)):=by
  intro n hnm b hb
  have hh:=qaT (body:=fun t=>qbi N (some (Classes.mk l (ws.map (pw l)) (fs.map (pf l)))) cs O (pw l n) (Classes.mk l (ws.map (pw l)) (fs.map (pf l))) t.1 t.2.1 t.2.2) (σ:=Option Str) (fun b k=>(fnds b,isfs b,k)) fs (fun b s=>.inl (fst1 P b (nb (dd n) s))) (fun b=>(fnds b,isfs b)) (fun _ b=>∀ x,b = some x → x.length ≤ 100) (fun b k s hk hb=>?_) (fun b _=>?_) N b (by omega) hb
  ·rw [hh,qhG,List.foldl_map]
  ·have hsm:=List.mem_of_getElem? hk
   have hs6:=hfs s hsm
   have hdl:=qfz 2 n (by have:=hws n hnm; omega)
   have hm:(fs.map (pf l))[k]? = some (pf l s):=by rw [List.getElem?_map,hk]; rfl
   have hnbl:=qi4 (hws n hnm) hs6
   constructor
   ·dsimp only
    unfold qbi
    simp only [dltx hm,cond_true,qaz hm,Option.bind_some]
    have htx:(bif ((pf l s).text != []) then (cat [46] (pf l s).text).bind fun s86=>(cat (pw l n).text s86).bind fun s88=>some s88 else some (pw l n).text) = some (nb (dd n) s):=by
     rw [show (pf l s).text = s from rfl,show (pw l n).text = dd n from rfl]
     unfold nb
     cases s with
     | nil=>simp
     | cons c t =>
      rw [show ((c :: t:Str) != []) = true from rfl,cond_true,qc0 (by simp only [List.length_cons,List.length_nil] at *; omega)]
      simp only [Option.bind_some]
      rw [qc0 (by simp only [List.length_append,List.length_cons,List.length_nil] at *; omega)]
      rfl
    rw [htx]
    simp only [Option.bind_some]
    rw [qq6 S _ _ n s O hc hO hcN,hP n hnm s hsm]
    simp only [Option.bind_some]
    cases b with
    | none =>
     rw [qku]
     rw [show isfs none = false from rfl]
     simp only [Bool.not_false,cond_true]
     cases P (nb (dd n) s) <;> rfl
    | some x =>
     rw [qkD]
     rw [show isfs (some x) = true from rfl,show fnds (some x) = x from rfl]
     simp only [Bool.not_true,cond_false]
     rw [qm8 (by omega)]
     simp only [Option.bind_some]
     cases bef (nb (dd n) s) x <;> cases P (nb (dd n) s) <;> rfl
   ·intro b' h x hx
    simp only [Sum.inl.injEq] at h
    subst h
    rcases qio hx with rfl | hx
    ·exact hnbl
    ·exact hb x hx
  ·dsimp only
   unfold qbi
   rw [List.length_map]
   simp only [dnlt,cond_false]
 have small:∀ (n:Nat),n < 1000 → ∀ (ss:List Str),(∀ s ∈ ss,s.length ≤ 6) → ∀ b:Option Str,(∀ x,b = some x → x.length ≤ 100) → ∀ x,(ss.map fun f=>nb (dd n) f).foldl (fst1 P) b = some x → x.length ≤ 100:=by
  intro n hnm ss
  induction ss with
  | nil=>intro _ b hb x hx; exact hb x hx
  | cons s ss ih =>
   intro hs b hb
   refine ih (fun t ht=>hs t (by simp [ht])) (fst1 P b (nb (dd n) s)) (fun x hx=>?_)
   rcases qio hx with rfl | hx
   ·exact qi4 hnm (hs s (by simp))
   ·exact hb x hx
 unfold qcU
 simp only [Option.bind_some]
 have hh:=qaT (body:=fun t=>qbK N (some (Classes.mk l (ws.map (pw l)) (fs.map (pf l)))) cs O (Classes.mk l (ws.map (pw l)) (fs.map (pf l))) t.1 t.2.1 t.2.2) (σ:=Option Str) (fun b k=>(fnds b,isfs b,k)) ws (fun b n=>.inl ((fs.map fun f=>nb (dd n) f).foldl (fst1 P) b)) (fun b=>(fnds b,isfs b)) (fun _ b=>∀ x,b = some x → x.length ≤ 100) (fun b k n hk hb=>?_) (fun b _=>?_) N none (by omega) (fun x h=>by cases h)
 ·have e:∀ (ns:List Nat) (b:Option Str),run (β:=Str × Bool) (fun b n=>.inl ((fs.map fun f=>nb (dd n) f).foldl (fst1 P) b)) (fun b=>(fnds b,isfs b)) b ns = (fnds ((ns.flatMap fun n=>fs.map fun f=>nb (dd n) f).foldl (fst1 P) b),isfs ((ns.flatMap fun n=>fs.map fun f=>nb (dd n) f).foldl (fst1 P) b)):=by
   intro ns
   induction ns with
   | nil=>intro b; rfl
   | cons n ns ih=>intro b; rw [run]; simp only; rw [ih,List.flatMap_cons,List.foldl_append]
  rw [e] at hh
  rw [show (([]:Str),false,(0:Int)) = (fnds none,isfs none,0) from rfl,hh]
  rfl
 ·have hnm:=List.mem_of_getElem? hk
  have hm:(ws.map (pw l))[k]? = some (pw l n):=by rw [List.getElem?_map,hk]; rfl
  constructor
  ·dsimp only
   unfold qbK
   simp only [dltx hm,cond_true,qaz hm,Option.bind_some]
   rw [inner n hnm b hb]
   rfl
  ·intro b' h
   simp only [Sum.inl.injEq] at h
   subst h
   exact small n (hws n hnm) fs hfs b hb
 ·dsimp only
  unfold qbK
  rw [List.length_map]
  simp only [dnlt,cond_false]
theorem qrU {N:Nat} {cs:List Cnd} (S:Sl N (rels cs)) (hc:cs.length ≤ 1000) (hcN:∀ c ∈ cs,c.length < N)
  (P:Str → Bool) (hP:∀ n ∈ qgN (rels cs),∀ s ∈ qgP (rels cs),qdk N (cs.map fun c=>hdp c (dd n) s) = some (P (nb (dd n) s))) :
  qfJ N cs = some (fnds (fstW P (qgO (rels cs))),isfs (fstW P (qgO (rels cs)))):=by
 have hn:=S.n
 have hl:=S.len
 unfold qfJ
 rw [qiM hc]
 simp only [Option.bind_some]
 have hol:(offs cs 0).length = cs.length:=qlJ cs 0
 have hh:=qaT (body:=fun t=>qb3 N cs t.1 t.2.1 t.2.2) (σ:=Nat) (fun i k=>(rels (cs.take i),k,fill ((offs cs 0).map fun k:Nat=>(k:Int)) 0 i)) cs (fun i _=>.inl (i + 1)) (fun i=>(fill ((offs cs 0).map fun k:Nat=>(k:Int)) 0 i,rels (cs.take i))) (fun k i=>i = k) (fun i k c hk hi=>?_) (fun i hi=>?_) N 0 (by omega) rfl
 ·rw [qe2,Nat.zero_add,qg8,List.length_map,hol,List.take_length] at hh
  have e:=qhH ((offs cs 0).map fun k:Nat=>(k:Int)) 0
  rw [List.length_map,hol] at e
  rw [e] at hh
  show (iter (fun t=>qb3 N cs t.1 t.2.1 t.2.2) N (rels (cs.take 0),0,List.replicate cs.length 0)).bind _ = _
  rw [hh]
  simp only [Option.bind_some]
  rw [qjy S,qlE,qnb]
  simp only [Option.bind_some]
  rw [qr8 S _ hc (fun i c hi=>?_) hcN (qgN (rels cs)) (qgP (rels cs)) (fun n hn=>qlx hn) (fun s hs=>(qkt hs).2) (qlI _) (qmE _) P hP]
  ·unfold qgO
   simp only [Option.bind_some]
  ·have ho:=qi8 cs 0 i c hi
   refine ⟨_,qaz (by rw [List.getElem?_map,ho]; rfl),fun j r hj=>?_,?_⟩
   ·rw [Nat.zero_add]
    exact qo6 cs i c hi j r hj
   ·have:=qhM cs i c hi
    omega
 ·subst hi
  have hlt:=qbv hk
  have ho:=qi8 cs 0 i c hk
  have hx:((offs cs 0).map fun k:Nat=>(k:Int))[i]? = some (((0 + (rels (cs.take i)).length:Nat)):Int):=by rw [List.getElem?_map,ho]; rfl
  constructor
  ·show qb3 N cs (rels (cs.take i)) i (fill ((offs cs 0).map fun k:Nat=>(k:Int)) 0 i) = _
   unfold qb3
   simp only [dltx hk,cond_true,qaz hk,Option.bind_some]
   have hroom:=qhM cs i c hk
   rw [qaz (qgw hx),qgu (by rw [qgI _ _ (by rw [List.length_map,hol]; omega),List.length_map,hol]; exact hlt),qj3 (hcN c (List.mem_of_getElem? hk)) (by omega)]
   simp only [Option.bind_some]
   rw [qdJ (by omega)]
   simp only [Option.bind_some]
   rw [Nat.zero_add] at hx
   rw [qgH hx]
   have e:rels (cs.take (i + 1)) = rels (cs.take i) ++ c.flatten:=by
    rw [List.take_add_one,hk]
    unfold rels
    rw [List.flatMap_append]
    simp
   rw [e]
  ·intro s' h
   cases h; rfl
 ·subst hi
  show qb3 N cs (rels (cs.take cs.length)) cs.length (fill ((offs cs 0).map fun k:Nat=>(k:Int)) 0 cs.length) = _
  unfold qb3
  simp only [dnlt,cond_false]
theorem qq1 {N:Nat} {cs:List Cnd} {l:List Relation} (S:Sl N l) (W F:List Part) (n:Nat) (s:Str) (O:List Int) (hc:cs.length ≤ 1000) (hO:∀ (i:Nat) (c:Cnd),cs[i]? = some c → ∃ off:Nat,idx O (i:Int) = some (off:Int) ∧ (∀ j r,c.flatten[j]? = some r → l[off + j]? = some r) ∧ off + c.flatten.length ≤ 60) (hcN:∀ c ∈ cs,c.length < N) :
  qda N (some (Classes.mk l W F)) (pw l n) (pf l s) cs O = (qex N (cs.map fun c=>hdp c (dd n) s)).bind fun r=>some r:=by
 have hn:=S.n
 unfold qda
 rw [qiM hc]
 simp only [Option.bind_some]
 have hh:=qaT (body:=fun t=>qby N (some (Classes.mk l W F)) (pw l n) (pf l s) cs O t.1 t.2) (σ:=Nat) (fun i k=>(k,fill (cs.map fun c=>hdp c (dd n) s) false i)) cs (fun i _=>.inl (i + 1)) (fun i=>fill (cs.map fun c=>hdp c (dd n) s) false i) (fun k i=>i = k) (fun i k c hk hi=>?_) (fun i hi=>?_) N 0 (by omega) rfl
 ·rw [qe2,Nat.zero_add,qg8,List.length_map] at hh
  have e:=qhH (cs.map fun c=>hdp c (dd n) s) false
  rw [List.length_map] at e
  rw [e] at hh
  rw [hh]
  rfl
 ·subst hi
  have hx:(cs.map fun c=>hdp c (dd n) s)[i]? = some (hdp c (dd n) s):=by rw [List.getElem?_map,hk]; rfl
  have hlt:=qbv hk
  obtain ⟨off,h1,h2,h3⟩:=hO i c hk
  constructor
  ·show qby N (some (Classes.mk l W F)) (pw l n) (pf l s) cs O i (fill (cs.map fun c=>hdp c (dd n) s) false i) = _
   unfold qby
   simp only [dltx hk,cond_true,qaz hk,Option.bind_some]
   rw [qlT S W F n s h1 h2 (hcN c (List.mem_of_getElem? hk)) h3]
   simp only [Option.bind_some]
   rw [qaz (qgw hx),qgu (by rw [qgI _ _ (by rw [List.length_map]; omega),List.length_map]; exact hlt)]
   simp only [Option.bind_some]
   rw [qgH hx]
  ·intro s' h
   cases h; rfl
 ·subst hi
  show qby N (some (Classes.mk l W F)) (pw l n) (pf l s) cs O cs.length (fill (cs.map fun c=>hdp c (dd n) s) false cs.length) = _
  unfold qby
  simp only [dnlt,cond_false]
def fndt (b:Option Str):Str:=b.getD []
def isft (b:Option Str):Bool:=b.isSome
theorem qs8 {N:Nat} {cs:List Cnd} {l:List Relation} (S:Sl N l) (O:List Int) (hc:cs.length ≤ 1000) (hO:∀ (i:Nat) (c:Cnd),cs[i]? = some c → ∃ off:Nat,idx O (i:Int) = some (off:Int) ∧ (∀ j r,c.flatten[j]? = some r → l[off + j]? = some r) ∧ off + c.flatten.length ≤ 60) (hcN:∀ c ∈ cs,c.length < N)
  (ws:List Nat) (fs:List Str) (hws:∀ n ∈ ws,n < 1000) (hfs:∀ s ∈ fs,s.length ≤ 6) (hwl:ws.length ≤ 1000) (hfl:fs.length ≤ 2000000)
  (P:Str → Bool) (hP:∀ n ∈ ws,∀ s ∈ fs,qex N (cs.map fun c=>hdp c (dd n) s) = some (P (nb (dd n) s))) :
  qcT N (some (Classes.mk l (ws.map (pw l)) (fs.map (pf l)))) cs O = some (fndt (fstW P (ws.flatMap fun n=>fs.map fun f=>nb (dd n) f)),isft (fstW P (ws.flatMap fun n=>fs.map fun f=>nb (dd n) f))):=by
 have hn:=S.n
 have inner:∀ n ∈ ws,∀ b:Option Str,(∀ x,b = some x → x.length ≤ 100) → iter (fun t=>qbh N (some (Classes.mk l (ws.map (pw l)) (fs.map (pf l)))) cs O (pw l n) (Classes.mk l (ws.map (pw l)) (fs.map (pf l))) t.1 t.2.1 t.2.2) N (fndt b,isft b,0) = some (fndt ((fs.map fun f=>nb (dd n) f).foldl (fst1 P) b),isft ((fs.map fun f=>nb (dd n) f).foldl (fst1 P) b)):=by
  intro n hnm b hb
  have hh:=qaT (body:=fun t=>qbh N (some (Classes.mk l (ws.map (pw l)) (fs.map (pf l)))) cs O (pw l n) (Classes.mk l (ws.map (pw l)) (fs.map (pf l))) t.1 t.2.1 t.2.2) (σ:=Option Str) (fun b k=>(fndt b,isft b,k)) fs (fun b s=>.inl (fst1 P b (nb (dd n) s))) (fun b=>(fndt b,isft b)) (fun _ b=>∀ x,b = some x → x.length ≤ 100) (fun b k s hk hb=>?_) (fun b _=>?_) N b (by omega) hb
  ·rw [hh,qhG,List.foldl_map]
  ·have hsm:=List.mem_of_getElem? hk
   have hs6:=hfs s hsm
   have hdl:=qfz 2 n (by have:=hws n hnm; omega)
   have hm:(fs.map (pf l))[k]? = some (pf l s):=by rw [List.getElem?_map,hk]; rfl
   have hnbl:=qi4 (hws n hnm) hs6
   constructor
   ·dsimp only
    unfold qbh
    simp only [dltx hm,cond_true,qaz hm,Option.bind_some]
    have htx:(bif ((pf l s).text != []) then (cat [46] (pf l s).text).bind fun s86=>(cat (pw l n).text s86).bind fun s88=>some s88 else some (pw l n).text) = some (nb (dd n) s):=by
     rw [show (pf l s).text = s from rfl,show (pw l n).text = dd n from rfl]
     unfold nb
     cases s with
     | nil=>simp
     | cons c t =>
      rw [show ((c :: t:Str) != []) = true from rfl,cond_true,qc0 (by simp only [List.length_cons,List.length_nil] at *; omega)]
      simp only [Option.bind_some]
      rw [qc0 (by simp only [List.length_append,List.length_cons,List.length_nil] at *; omega)]
      rfl
    rw [htx]
    simp only [Option.bind_some]
    rw [qq1 S _ _ n s O hc hO hcN,hP n hnm s hsm]
    simp only [Option.bind_some]
    cases b with
    | none =>
     rw [qku]
     rw [show isft none = false from rfl]
     simp only [Bool.not_false,cond_true]
     cases P (nb (dd n) s) <;> rfl
    | some x =>
     rw [qkD]
     rw [show isft (some x) = true from rfl,show fndt (some x) = x from rfl]
     simp only [Bool.not_true,cond_false]
     rw [qm8 (by omega)]
     simp only [Option.bind_some]
     cases bef (nb (dd n) s) x <;> cases P (nb (dd n) s) <;> rfl
   ·intro b' h x hx
    simp only [Sum.inl.injEq] at h
    subst h
    rcases qio hx with rfl | hx
    ·exact hnbl
    ·exact hb x hx
  ·dsimp only
   unfold qbh
   rw [List.length_map]
   simp only [dnlt,cond_false]
 have small:∀ (n:Nat),n < 1000 → ∀ (ss:List Str),(∀ s ∈ ss,s.length ≤ 6) → ∀ b:Option Str,(∀ x,b = some x → x.length ≤ 100) → ∀ x,(ss.map fun f=>nb (dd n) f).foldl (fst1 P) b = some x → x.length ≤ 100:=by
  intro n hnm ss
  induction ss with
  | nil=>intro _ b hb x hx; exact hb x hx
  | cons s ss ih =>
   intro hs b hb
   refine ih (fun t ht=>hs t (by simp [ht])) (fst1 P b (nb (dd n) s)) (fun x hx=>?_)
   rcases qio hx with rfl | hx
   ·exact qi4 hnm (hs s (by simp))
   ·exact hb x hx
 unfold qcT
 simp only [Option.bind_some]
 have hh:=qaT (body:=fun t=>qbJ N (some (Classes.mk l (ws.map (pw l)) (fs.map (pf l)))) cs O (Classes.mk l (ws.map (pw l)) (fs.map (pf l))) t.1 t.2.1 t.2.2) (σ:=Option Str) (fun b k=>(fndt b,isft b,k)) ws (fun b n=>.inl ((fs.map fun f=>nb (dd n) f).foldl (fst1 P) b)) (fun b=>(fndt b,isft b)) (fun _ b=>∀ x,b = some x → x.length ≤ 100) (fun b k n hk hb=>?_) (fun b _=>?_) N none (by omega) (fun x h=>by cases h)
 ·have e:∀ (ns:List Nat) (b:Option Str),run (β:=Str × Bool) (fun b n=>.inl ((fs.map fun f=>nb (dd n) f).foldl (fst1 P) b)) (fun b=>(fndt b,isft b)) b ns = (fndt ((ns.flatMap fun n=>fs.map fun f=>nb (dd n) f).foldl (fst1 P) b),isft ((ns.flatMap fun n=>fs.map fun f=>nb (dd n) f).foldl (fst1 P) b)):=by
   intro ns
   induction ns with
   | nil=>intro b; rfl
   | cons n ns ih=>intro b; rw [run]; simp only; rw [ih,List.flatMap_cons,List.foldl_append]
  rw [e] at hh
  rw [show (([]:Str),false,(0:Int)) = (fndt none,isft none,0) from rfl,hh]
  rfl
 ·have hnm:=List.mem_of_getElem? hk
  have hm:(ws.map (pw l))[k]? = some (pw l n):=by rw [List.getElem?_map,hk]; rfl
  constructor
  ·dsimp only
   unfold qbJ
   simp only [dltx hm,cond_true,qaz hm,Option.bind_some]
   rw [inner n hnm b hb]
   rfl
  ·intro b' h
   simp only [Sum.inl.injEq] at h
   subst h
   exact small n (hws n hnm) fs hfs b hb
 ·dsimp only
  unfold qbJ
  rw [List.length_map]
  simp only [dnlt,cond_false]
theorem qrT {N:Nat} {cs:List Cnd} (S:Sl N (rels cs)) (hc:cs.length ≤ 1000) (hcN:∀ c ∈ cs,c.length < N)
  (P:Str → Bool) (hP:∀ n ∈ qgN (rels cs),∀ s ∈ qgP (rels cs),qex N (cs.map fun c=>hdp c (dd n) s) = some (P (nb (dd n) s))) :
  qfA N cs = some (fndt (fstW P (qgO (rels cs))),isft (fstW P (qgO (rels cs)))):=by
 have hn:=S.n
 have hl:=S.len
 unfold qfA
 rw [qiM hc]
 simp only [Option.bind_some]
 have hol:(offs cs 0).length = cs.length:=qlJ cs 0
 have hh:=qaT (body:=fun t=>qb5 N cs t.1 t.2.1 t.2.2) (σ:=Nat) (fun i k=>(rels (cs.take i),k,fill ((offs cs 0).map fun k:Nat=>(k:Int)) 0 i)) cs (fun i _=>.inl (i + 1)) (fun i=>(fill ((offs cs 0).map fun k:Nat=>(k:Int)) 0 i,rels (cs.take i))) (fun k i=>i = k) (fun i k c hk hi=>?_) (fun i hi=>?_) N 0 (by omega) rfl
 ·rw [qe2,Nat.zero_add,qg8,List.length_map,hol,List.take_length] at hh
  have e:=qhH ((offs cs 0).map fun k:Nat=>(k:Int)) 0
  rw [List.length_map,hol] at e
  rw [e] at hh
  show (iter (fun t=>qb5 N cs t.1 t.2.1 t.2.2) N (rels (cs.take 0),0,List.replicate cs.length 0)).bind _ = _
  rw [hh]
  simp only [Option.bind_some]
  rw [qjy S,qlE,qnb]
  simp only [Option.bind_some]
  rw [qs8 S _ hc (fun i c hi=>?_) hcN (qgN (rels cs)) (qgP (rels cs)) (fun n hn=>qlx hn) (fun s hs=>(qkt hs).2) (qlI _) (qmE _) P hP]
  ·unfold qgO
   simp only [Option.bind_some]
  ·have ho:=qi8 cs 0 i c hi
   refine ⟨_,qaz (by rw [List.getElem?_map,ho]; rfl),fun j r hj=>?_,?_⟩
   ·rw [Nat.zero_add]
    exact qo6 cs i c hi j r hj
   ·have:=qhM cs i c hi
    omega
 ·subst hi
  have hlt:=qbv hk
  have ho:=qi8 cs 0 i c hk
  have hx:((offs cs 0).map fun k:Nat=>(k:Int))[i]? = some (((0 + (rels (cs.take i)).length:Nat)):Int):=by rw [List.getElem?_map,ho]; rfl
  constructor
  ·show qb5 N cs (rels (cs.take i)) i (fill ((offs cs 0).map fun k:Nat=>(k:Int)) 0 i) = _
   unfold qb5
   simp only [dltx hk,cond_true,qaz hk,Option.bind_some]
   have hroom:=qhM cs i c hk
   rw [qaz (qgw hx),qgu (by rw [qgI _ _ (by rw [List.length_map,hol]; omega),List.length_map,hol]; exact hlt),qj3 (hcN c (List.mem_of_getElem? hk)) (by omega)]
   simp only [Option.bind_some]
   rw [qdJ (by omega)]
   simp only [Option.bind_some]
   rw [Nat.zero_add] at hx
   rw [qgH hx]
   have e:rels (cs.take (i + 1)) = rels (cs.take i) ++ c.flatten:=by
    rw [List.take_add_one,hk]
    unfold rels
    rw [List.flatMap_append]
    simp
   rw [e]
  ·intro s' h
   cases h; rfl
 ·subst hi
  show qb5 N cs (rels (cs.take cs.length)) cs.length (fill ((offs cs 0).map fun k:Nat=>(k:Int)) 0 cs.length) = _
  unfold qb5
  simp only [dnlt,cond_false]
theorem qq4 {N:Nat} {cs:List Cnd} {l:List Relation} (S:Sl N l) (W F:List Part) (n:Nat) (s:Str) (O:List Int) (hc:cs.length ≤ 1000) (hO:∀ (i:Nat) (c:Cnd),cs[i]? = some c → ∃ off:Nat,idx O (i:Int) = some (off:Int) ∧ (∀ j r,c.flatten[j]? = some r → l[off + j]? = some r) ∧ off + c.flatten.length ≤ 60) (hcN:∀ c ∈ cs,c.length < N) :
  qdQ N (some (Classes.mk l W F)) (pw l n) (pf l s) cs O = (qd1 N (cs.map fun c=>hdp c (dd n) s)).bind fun r=>some r:=by
 have hn:=S.n
 unfold qdQ
 rw [qiM hc]
 simp only [Option.bind_some]
 have hh:=qaT (body:=fun t=>qbS N (some (Classes.mk l W F)) (pw l n) (pf l s) cs O t.1 t.2) (σ:=Nat) (fun i k=>(k,fill (cs.map fun c=>hdp c (dd n) s) false i)) cs (fun i _=>.inl (i + 1)) (fun i=>fill (cs.map fun c=>hdp c (dd n) s) false i) (fun k i=>i = k) (fun i k c hk hi=>?_) (fun i hi=>?_) N 0 (by omega) rfl
 ·rw [qe2,Nat.zero_add,qg8,List.length_map] at hh
  have e:=qhH (cs.map fun c=>hdp c (dd n) s) false
  rw [List.length_map] at e
  rw [e] at hh
  rw [hh]
  rfl
 ·subst hi
  have hx:(cs.map fun c=>hdp c (dd n) s)[i]? = some (hdp c (dd n) s):=by rw [List.getElem?_map,hk]; rfl
  have hlt:=qbv hk
  obtain ⟨off,h1,h2,h3⟩:=hO i c hk
  constructor
  ·show qbS N (some (Classes.mk l W F)) (pw l n) (pf l s) cs O i (fill (cs.map fun c=>hdp c (dd n) s) false i) = _
   unfold qbS
   simp only [dltx hk,cond_true,qaz hk,Option.bind_some]
   rw [qlT S W F n s h1 h2 (hcN c (List.mem_of_getElem? hk)) h3]
   simp only [Option.bind_some]
   rw [qaz (qgw hx),qgu (by rw [qgI _ _ (by rw [List.length_map]; omega),List.length_map]; exact hlt)]
   simp only [Option.bind_some]
   rw [qgH hx]
  ·intro s' h
   cases h; rfl
 ·subst hi
  show qbS N (some (Classes.mk l W F)) (pw l n) (pf l s) cs O cs.length (fill (cs.map fun c=>hdp c (dd n) s) false cs.length) = _
  unfold qbS
  simp only [dnlt,cond_false]
def fndd (b:Option Str):Str:=b.getD []
def isfd (b:Option Str):Bool:=b.isSome
theorem qsn {N:Nat} {cs:List Cnd} {l:List Relation} (S:Sl N l) (O:List Int) (hc:cs.length ≤ 1000) (hO:∀ (i:Nat) (c:Cnd),cs[i]? = some c → ∃ off:Nat,idx O (i:Int) = some (off:Int) ∧ (∀ j r,c.flatten[j]? = some r → l[off + j]? = some r) ∧ off + c.flatten.length ≤ 60) (hcN:∀ c ∈ cs,c.length < N)
  (ws:List Nat) (fs:List Str) (hws:∀ n ∈ ws,n < 1000) (hfs:∀ s ∈ fs,s.length ≤ 6) (hwl:ws.length ≤ 1000) (hfl:fs.length ≤ 2000000)
  (P:Str → Bool) (hP:∀ n ∈ ws,∀ s ∈ fs,qd1 N (cs.map fun c=>hdp c (dd n) s) = some (P (nb (dd n) s))) :
  qdx N (some (Classes.mk l (ws.map (pw l)) (fs.map (pf l)))) cs O = some (fndd (fstW P (ws.flatMap fun n=>fs.map fun f=>nb (dd n) f)),isfd (fstW P (ws.flatMap fun n=>fs.map fun f=>nb (dd n) f))):=by
 have hn:=S.n
 have inner:∀ n ∈ ws,∀ b:Option Str,(∀ x,b = some x → x.length ≤ 100) → iter (fun t=>qbF N (some (Classes.mk l (ws.map (pw l)) (fs.map (pf l)))) cs O (pw l n) (Classes.mk l (ws.map (pw l)) (fs.map (pf l))) t.1 t.2.1 t.2.2) N (fndd b,isfd b,0) = some (fndd ((fs.map fun f=>nb (dd n) f).foldl (fst1 P) b),isfd ((fs.map fun f=>nb (dd n) f).foldl (fst1 P) b)):=by
  intro n hnm b hb
  have hh:=qaT (body:=fun t=>qbF N (some (Classes.mk l (ws.map (pw l)) (fs.map (pf l)))) cs O (pw l n) (Classes.mk l (ws.map (pw l)) (fs.map (pf l))) t.1 t.2.1 t.2.2) (σ:=Option Str) (fun b k=>(fndd b,isfd b,k)) fs (fun b s=>.inl (fst1 P b (nb (dd n) s))) (fun b=>(fndd b,isfd b)) (fun _ b=>∀ x,b = some x → x.length ≤ 100) (fun b k s hk hb=>?_) (fun b _=>?_) N b (by omega) hb
  ·rw [hh,qhG,List.foldl_map]
  ·have hsm:=List.mem_of_getElem? hk
   have hs6:=hfs s hsm
   have hdl:=qfz 2 n (by have:=hws n hnm; omega)
   have hm:(fs.map (pf l))[k]? = some (pf l s):=by rw [List.getElem?_map,hk]; rfl
   have hnbl:=qi4 (hws n hnm) hs6
   constructor
   ·dsimp only
    unfold qbF
    simp only [dltx hm,cond_true,qaz hm,Option.bind_some]
    have htx:(bif ((pf l s).text != []) then (cat [46] (pf l s).text).bind fun s86=>(cat (pw l n).text s86).bind fun s88=>some s88 else some (pw l n).text) = some (nb (dd n) s):=by
     rw [show (pf l s).text = s from rfl,show (pw l n).text = dd n from rfl]
     unfold nb
     cases s with
     | nil=>simp
     | cons c t =>
      rw [show ((c :: t:Str) != []) = true from rfl,cond_true,qc0 (by simp only [List.length_cons,List.length_nil] at *; omega)]
      simp only [Option.bind_some]
      rw [qc0 (by simp only [List.length_append,List.length_cons,List.length_nil] at *; omega)]
      rfl
    rw [htx]
    simp only [Option.bind_some]
    rw [qq4 S _ _ n s O hc hO hcN,hP n hnm s hsm]
    simp only [Option.bind_some]
    cases b with
    | none =>
     rw [qku]
     rw [show isfd none = false from rfl]
     simp only [Bool.not_false,cond_true]
     cases P (nb (dd n) s) <;> rfl
    | some x =>
     rw [qkD]
     rw [show isfd (some x) = true from rfl,show fndd (some x) = x from rfl]
     simp only [Bool.not_true,cond_false]
     rw [qm8 (by omega)]
     simp only [Option.bind_some]
     cases bef (nb (dd n) s) x <;> cases P (nb (dd n) s) <;> rfl
   ·intro b' h x hx
    simp only [Sum.inl.injEq] at h
    subst h
    rcases qio hx with rfl | hx
    ·exact hnbl
    ·exact hb x hx
  ·dsimp only
   unfold qbF
   rw [List.length_map]
   simp only [dnlt,cond_false]
 have small:∀ (n:Nat),n < 1000 → ∀ (ss:List Str),(∀ s ∈ ss,s.length ≤ 6) → ∀ b:Option Str,(∀ x,b = some x → x.length ≤ 100) → ∀ x,(ss.map fun f=>nb (dd n) f).foldl (fst1 P) b = some x → x.length ≤ 100:=by
  intro n hnm ss
  induction ss with
  | nil=>intro _ b hb x hx; exact hb x hx
  | cons s ss ih =>
   intro hs b hb
   refine ih (fun t ht=>hs t (by simp [ht])) (fst1 P b (nb (dd n) s)) (fun x hx=>?_)
   rcases qio hx with rfl | hx
   ·exact qi4 hnm (hs s (by simp))
   ·exact hb x hx
 unfold qdx
 simp only [Option.bind_some]
 have hh:=qaT (body:=fun t=>qca N (some (Classes.mk l (ws.map (pw l)) (fs.map (pf l)))) cs O (Classes.mk l (ws.map (pw l)) (fs.map (pf l))) t.1 t.2.1 t.2.2) (σ:=Option Str) (fun b k=>(fndd b,isfd b,k)) ws (fun b n=>.inl ((fs.map fun f=>nb (dd n) f).foldl (fst1 P) b)) (fun b=>(fndd b,isfd b)) (fun _ b=>∀ x,b = some x → x.length ≤ 100) (fun b k n hk hb=>?_) (fun b _=>?_) N none (by omega) (fun x h=>by cases h)
 ·have e:∀ (ns:List Nat) (b:Option Str),run (β:=Str × Bool) (fun b n=>.inl ((fs.map fun f=>nb (dd n) f).foldl (fst1 P) b)) (fun b=>(fndd b,isfd b)) b ns = (fndd ((ns.flatMap fun n=>fs.map fun f=>nb (dd n) f).foldl (fst1 P) b),isfd ((ns.flatMap fun n=>fs.map fun f=>nb (dd n) f).foldl (fst1 P) b)):=by
   intro ns
   induction ns with
   | nil=>intro b; rfl
   | cons n ns ih=>intro b; rw [run]; simp only; rw [ih,List.flatMap_cons,List.foldl_append]
  rw [e] at hh
  rw [show (([]:Str),false,(0:Int)) = (fndd none,isfd none,0) from rfl,hh]
  rfl
 ·have hnm:=List.mem_of_getElem? hk
  have hm:(ws.map (pw l))[k]? = some (pw l n):=by rw [List.getElem?_map,hk]; rfl
  constructor
  ·dsimp only
   unfold qca
   simp only [dltx hm,cond_true,qaz hm,Option.bind_some]
   rw [inner n hnm b hb]
   rfl
  ·intro b' h
   simp only [Sum.inl.injEq] at h
   subst h
   exact small n (hws n hnm) fs hfs b hb
 ·dsimp only
  unfold qca
  rw [List.length_map]
  simp only [dnlt,cond_false]
theorem qrD {N:Nat} {cs:List Cnd} (S:Sl N (rels cs)) (hc:cs.length ≤ 1000) (hcN:∀ c ∈ cs,c.length < N)
  (P:Str → Bool) (hP:∀ n ∈ qgN (rels cs),∀ s ∈ qgP (rels cs),qd1 N (cs.map fun c=>hdp c (dd n) s) = some (P (nb (dd n) s))) :
  qd5 N cs = some (fndd (fstW P (qgO (rels cs))),isfd (fstW P (qgO (rels cs)))):=by
 have hn:=S.n
 have hl:=S.len
 unfold qd5
 rw [qiM hc]
 simp only [Option.bind_some]
 have hol:(offs cs 0).length = cs.length:=qlJ cs 0
 have hh:=qaT (body:=fun t=>qbY N cs t.1 t.2.1 t.2.2) (σ:=Nat) (fun i k=>(rels (cs.take i),k,fill ((offs cs 0).map fun k:Nat=>(k:Int)) 0 i)) cs (fun i _=>.inl (i + 1)) (fun i=>(fill ((offs cs 0).map fun k:Nat=>(k:Int)) 0 i,rels (cs.take i))) (fun k i=>i = k) (fun i k c hk hi=>?_) (fun i hi=>?_) N 0 (by omega) rfl
 ·rw [qe2,Nat.zero_add,qg8,List.length_map,hol,List.take_length] at hh
  have e:=qhH ((offs cs 0).map fun k:Nat=>(k:Int)) 0
  rw [List.length_map,hol] at e
  rw [e] at hh
  show (iter (fun t=>qbY N cs t.1 t.2.1 t.2.2) N (rels (cs.take 0),0,List.replicate cs.length 0)).bind _ = _
  rw [hh]
  simp only [Option.bind_some]
  rw [qjy S,qlE,qnb]
  simp only [Option.bind_some]
  rw [qsn S _ hc (fun i c hi=>?_) hcN (qgN (rels cs)) (qgP (rels cs)) (fun n hn=>qlx hn) (fun s hs=>(qkt hs).2) (qlI _) (qmE _) P hP]
  ·unfold qgO
   simp only [Option.bind_some]
  ·have ho:=qi8 cs 0 i c hi
   refine ⟨_,qaz (by rw [List.getElem?_map,ho]; rfl),fun j r hj=>?_,?_⟩
   ·rw [Nat.zero_add]
    exact qo6 cs i c hi j r hj
   ·have:=qhM cs i c hi
    omega
 ·subst hi
  have hlt:=qbv hk
  have ho:=qi8 cs 0 i c hk
  have hx:((offs cs 0).map fun k:Nat=>(k:Int))[i]? = some (((0 + (rels (cs.take i)).length:Nat)):Int):=by rw [List.getElem?_map,ho]; rfl
  constructor
  ·show qbY N cs (rels (cs.take i)) i (fill ((offs cs 0).map fun k:Nat=>(k:Int)) 0 i) = _
   unfold qbY
   simp only [dltx hk,cond_true,qaz hk,Option.bind_some]
   have hroom:=qhM cs i c hk
   rw [qaz (qgw hx),qgu (by rw [qgI _ _ (by rw [List.length_map,hol]; omega),List.length_map,hol]; exact hlt),qj3 (hcN c (List.mem_of_getElem? hk)) (by omega)]
   simp only [Option.bind_some]
   rw [qdJ (by omega)]
   simp only [Option.bind_some]
   rw [Nat.zero_add] at hx
   rw [qgH hx]
   have e:rels (cs.take (i + 1)) = rels (cs.take i) ++ c.flatten:=by
    rw [List.take_add_one,hk]
    unfold rels
    rw [List.flatMap_append]
    simp
   rw [e]
  ·intro s' h
   cases h; rfl
 ·subst hi
  show qbY N cs (rels (cs.take cs.length)) cs.length (fill ((offs cs 0).map fun k:Nat=>(k:Int)) 0 cs.length) = _
  unfold qbY
  simp only [dnlt,cond_false]
theorem qtz (N:Nat) (r:Relation):qfC N r = some (onW r):=by
 unfold qfC onW
 cases (r.Operand == 1) <;> cases (r.Operand == 2) <;> rfl
def vbit (x:Str) (r:Relation):UInt8:=if hold x r then 49 else 48
def vec (l:List Relation) (x:Str) (first:Bool):Str:=(l.filter fun r=>onW r == first).map (vbit x)
theorem qu5 (l:List Relation) (x:Str) (b:Bool):(vec l x b).length ≤ l.length:=by
 unfold vec
 rw [List.length_map]
 exact List.length_filter_le _ _
theorem qm9 {N:Nat} {l:List Relation} (S:Sl N l) {x:Str} (hx:x.length ≤ 1000) (first:Bool):qdK N l x first = some (vec l x first):=by
 have hn:=S.n
 have hl:=S.len
 unfold qdK
 have hh:=qaT (body:=fun t=>qcl N l x first t.1 t.2) (σ:=Str) (fun s k=>(s,k)) l (fun s r=>.inl (if onW r == first then s ++ [vbit x r] else s)) (fun s=>s) (fun k s=>s.length ≤ k) (fun s k r hk hs=>?_) (fun s hs=>?_) N [] (by omega) (by simp)
 ·rw [hh,qhG]
  have e:∀ (xs:List Relation) (a:Str),xs.foldl (fun s r=>if onW r == first then s ++ [vbit x r] else s) a = a ++ vec xs x first:=by
   intro xs
   induction xs with
   | nil=>intro a; simp [vec]
   | cons y ys ih =>
    intro a
    rw [List.foldl_cons,ih]
    unfold vec
    rw [List.filter_cons]
    cases h:(onW y == first) <;> simp
  rw [e]
  rfl
 ·have hlt:=qbv hk
  constructor
  ·show qcl N l x first s k = _
   unfold qcl
   simp only [dltx hk,cond_true,qaz hk,Option.bind_some,qtz]
   have hr:=S.p r (List.mem_of_getElem? hk)
   have h4:=qoT hr
   rw [qnK hx (by omega) (by omega)]
   simp only [Option.bind_some]
   unfold vbit
   cases ho:onW r <;> cases first <;> first
    | rfl
    | (cases hold x r with
     | true =>
      simp only [bne_self_eq_false,cond_false,cond_true]
      rw [qc0 (by simp; omega)]
      rfl
     | false =>
      simp only [bne_self_eq_false,cond_false]
      rw [qc0 (by simp; omega)]
      rfl)
  ·intro s' h
   simp only [Sum.inl.injEq] at h
   subst h
   split
   ·simp; omega
   ·omega
 ·show qcl N l x first s l.length = _
  unfold qcl
  simp only [dnlt,cond_false]
theorem qqD {l:List Relation} {x y:Str} {b:Bool} (h:vec l x b = vec l y b):∀ r ∈ l,onW r = b → hold x r = hold y r:=by
 induction l with
 | nil=>intro r hr; cases hr
 | cons q l ih =>
  intro r hr ho
  unfold vec at h
  rw [List.filter_cons] at h
  cases hq:(onW q == b) with
  | true =>
   rw [hq] at h
   simp only [if_true,List.map_cons,List.cons.injEq] at h
   rcases List.mem_cons.1 hr with rfl | hr
   ·have h1:=h.1
    unfold vbit at h1
    cases hx:hold x r <;> cases hy:hold y r <;> rw [hx,hy] at h1 <;> first | rfl | (simp at h1)
   ·exact ih h.2 r hr ho
  | false =>
   rw [hq] at h
   simp only [Bool.false_eq_true,if_false] at h
   rcases List.mem_cons.1 hr with rfl | hr
   ·rw [ho] at hq; simp at hq
   ·exact ih h r hr ho
theorem qr0 {l:List Relation} {x y:Str} {b:Bool}:(vec l x b).length = (vec l y b).length:=by
 unfold vec
 rw [List.length_map,List.length_map]
theorem qqg {N:Nat} (l:List Str) (s:Str) (hN:l.length < N):qdq N l s = some (match l.findIdx? (fun x=>x == s) with | some k=>(k:Int) | none=>-1):=by
 unfold qdq
 rw [qjp l (fun x=>x == s) (fun k x hk=>?_) ?_ N hN]
 ·exact qkk l _
 ·unfold qeG
  simp only [dnlt,cond_false]
 ·unfold qeG
  simp only [dltx hk,cond_true,qaz hk,Option.bind_some]
  cases x == s <;> rfl
theorem qsj (l:List Str) (s:Str):decide ((match l.findIdx? (fun x=>x == s) with | some k=>(k:Int) | none=>-1) < 0) = !(l.any fun x=>x == s):=by
 have:=qk3 l (fun x=>x == s)
 rw [← this]
 cases l.findIdx? (fun x=>x == s) with
 | none=>rfl
 | some k =>
  simp only
  rw [decide_eq_false (show ¬ (k:Int) < 0 by omega),decide_eq_true (show (k:Int) ≥ 0 by omega)]
  rfl
def vw (l:List Relation) (n:Nat):Str:=vec l (dd n) true
def qej (l:List Relation) (n:Nat):List Nat:=kp (vw l) (List.range n) []
theorem qr1 {N:Nat} {l:List Relation} (S:Sl N l):qfj N l = some ((qej l 401).map dd):=by
 have hn:=S.n
 have hl:=S.len
 unfold qfj
 have hh:=qaT (body:=fun t=>qcZ N l t.1 t.2.1 t.2.2) (σ:=Nat) (fun i k=>((qej l i).map (vw l),(qej l i).map dd,k)) (List.range 401) (fun i _=>.inl (i + 1)) (fun i=>(qej l i).map dd) (fun k i=>i = k) (fun i k r hk hi=>?_) (fun i hi=>?_) N 0 (by rw [List.length_range]; omega) rfl
 ·rw [qe2,Nat.zero_add,List.length_range] at hh
  have e:(([]:List Str),([]:List Str),(0:Int)) = ((qej l 0).map (vw l),(qej l 0).map dd,0):=rfl
  rw [e,hh]
  rfl
 ·subst hi
  have hlt:=qbv hk
  rw [List.length_range] at hlt
  have hdl:=qfz 2 i (by omega)
  have hrl:(qej l i).length ≤ i:=by
   have:=qiJ (vw l) (List.range i) []
   rw [List.length_range,List.length_nil] at this
   unfold qej; omega
  have hnext:qej l (i + 1) = if (qej l i).any (fun y=>vw l y == vw l i) then qej l i else qej l i ++ [i]:=by
   unfold qej
   rw [List.range_succ,qoq]
   rfl
  have hany:((qej l i).map (vw l)).any (fun x=>x == vec l (dd i) true) = (qej l i).any (fun y=>vw l y == vw l i):=by rw [List.any_map]; rfl
  constructor
  ·show qcZ N l ((qej l i).map (vw l)) ((qej l i).map dd) i = _
   unfold qcZ
   rw [decide_eq_true (show (i:Int) ≤ 400 by omega),cond_true,qno (by omega) (by omega)]
   simp only [Option.bind_some]
   rw [qm9 S (by omega)]
   simp only [Option.bind_some]
   rw [qqg _ _ (by rw [List.length_map]; omega)]
   simp only [Option.bind_some]
   have hw1:IntKind.wrap .i64 ((i:Int) + 1) = (i:Int) + 1:=qfr (by omega) (by omega)
   rw [qsj,hany,hnext,hw1]
   cases (qej l i).any (fun y=>vw l y == vw l i) with
   | true=>rfl
   | false =>
    simp only [Bool.not_false,cond_true,Bool.false_eq_true,if_false]
    rw [qdJ (by rw [List.length_map]; simp; omega)]
    simp only [Option.bind_some]
    rw [qdJ (by rw [List.length_map]; simp; omega)]
    simp only [Option.bind_some,List.map_append,List.map_cons,List.map_nil]
    rfl
  ·intro s' h
   cases h; rfl
 ·rw [List.length_range] at hi ⊢
  generalize hM:((401:Nat):Int) = M
  dsimp only
  unfold qcZ
  rw [decide_eq_false (show ¬ M ≤ 400 by omega),cond_false]
theorem qqR {l:List Relation} {n:Nat} (h:n ∈ qej l 401):n < 401:=by
 unfold qej at h
 exact List.mem_range.1 (qoy _ h)
theorem qq7 {l:List Relation} (hpr:Pr l) (v:Nat):∃ n ∈ qej l 401,n ≤ v ∧ ∀ r ∈ l,onW r = true → hw r n = hw r v:=by
 have h0:∃ n0,n0 < 401 ∧ n0 ≤ v ∧ ∀ r ∈ l,onW r = true → hw r n0 = hw r v:=by
  by_cases h:v < 401
  ·exact ⟨v,h,Nat.le_refl _,fun r _ _=>rfl⟩
  ·exact ⟨101 + (v - 101) % 300,by omega,by omega,fun r hr ho=>qss (hpr r hr) ho (by omega) (by omega) (by omega)⟩
 obtain ⟨n0,h1,h2,h3⟩:=h0
 obtain ⟨l1,l2,e⟩:=List.append_of_mem (List.mem_range.2 h1)
 obtain ⟨y,k1,k2,k3⟩:=qoB (vw l) (List.range 401) [] l1 n0 l2 e
 have hy:y ≤ n0:=by
  rcases k3 with k3 | k3 | k3
  ·cases k3
  ·have hs:(List.range 401).Pairwise (· < ·):=List.pairwise_lt_range
   rw [e] at hs
   have:=(List.pairwise_append.1 hs).2.2 y k3 n0 (by simp)
   omega
  ·omega
 refine ⟨y,k1,by omega,fun r hr ho=>?_⟩
 have:=qqD k2 r hr ho
 have hw0:∀ u:Nat,u < 1000000000 → hold (dd u) r = hw r u:=by
  intro u hu
  have:=qh1 (hpr r hr) (qxc hu)
  rw [qwB] at this
  rw [this]
  unfold hp
  rw [if_neg (by simp),ho,qiu]
  rfl
 rw [hw0 y (by omega),hw0 n0 (by omega)] at this
 rw [this]
 exact h3 r hr ho
def vf (l:List Relation) (s:Str):Str:=vec l (nb [48] s) false ++ if s.all zr then [48] else []
theorem Dp48 {s:Str} (h:s.all dgt = true) (h6:s.length ≤ 6):Dp [48] s:=⟨⟨by decide,.inl rfl⟩,by simp,h,h6⟩
theorem qva {l:List Relation} (hpr:Pr l) {s t:Str} (hs:s.all dgt = true) (hs6:s.length ≤ 6) (ht:t.all dgt = true) (ht6:t.length ≤ 6) (h:vf l s = vf l t):s.all zr = t.all zr ∧ ∀ r ∈ l,onW r = false → hf r s = hf r t:=by
 unfold vf at h
 have hl:=congrArg List.length h
 rw [List.length_append,List.length_append,qr0 (x:=nb [48] s) (y:=nb [48] t)] at hl
 have hz:s.all zr = t.all zr:=by
  cases h1:s.all zr <;> cases h2:t.all zr <;> rw [h1,h2] at hl <;> first | rfl | (simp at hl)
 refine ⟨hz,fun r hr ho=>?_⟩
 rw [hz] at h
 have hv:=List.append_cancel_right h
 have:=qqD hv r hr ho
 rw [qh1 (hpr r hr) (Dp48 hs hs6),qh1 (hpr r hr) (Dp48 ht ht6)] at this
 unfold hp at this
 have h1:r.Operand ≠ 1:=fun e=>by unfold onW at ho; rw [e] at ho; simp at ho
 have e:∀ x:Str,(if r.Operand = 1 ∧ x.all zr = false then r.Not else if onW r = true then hw r (vl 0 [48]) else hf r x) = hf r x:=fun x=>by rw [if_neg (fun h=>h1 h.1),ho]; rfl
 rw [e,e] at this
 exact this
theorem qqp:∀ {s t:Str},s.all dgt = true → t.all dgt = true → s.length = t.length → qnp s t = lx s t
 | [],[],_,_,_=>rfl
 | [],_ :: _,_,_,h=>by simp at h
 | _ :: _,[],_,_,h=>by simp at h
 | a :: s,b :: t,hs,ht,hl=>by
  rw [List.all_cons,Bool.and_eq_true] at hs ht
  have ih:=qqp hs.2 ht.2 (by simpa using hl)
  have ha:=qeO.1 hs.1
  have hb:=qeO.1 ht.1
  show (decide (a < b) || (a == b && Op.bytesLess s t)) = _
  rw [lx]
  have hk:∀ c:UInt8,dgt c = true → ky c = c.toNat:=by
   intro c hc
   unfold ky
   rw [if_neg]
   intro e
   subst e
   exact absurd hc (by decide)
  rw [hk a hs.1,hk b ht.1]
  by_cases e:a = b
  ·subst e
   rw [if_pos rfl,show (a == a) = true by simp,Bool.true_and,decide_eq_false (show ¬ a < a from by rw [UInt8.lt_iff_toNat_lt]; omega),Bool.false_or]
   exact ih
  ·rw [if_neg e,show (a == b) = false by simp [e],Bool.false_and,Bool.or_false]
   exact decide_eq_decide.2 UInt8.lt_iff_toNat_lt
abbrev Tbl:=List (Str × Str)
def qh0 (l:List Relation) (b:Nat) (st:Tbl) (s:Str):Tbl :=
 match st.findIdx? (fun e=>e.1 == vf l s) with
 | none=>st ++ [(vf l s,s)]
 | some k=>if b ≤ k then (match st[k]? with | some e=>if lx s e.2 then st.set k (e.1,s) else st | none=>st) else st
structure Good (l:List Relation) (b n:Nat) (st:Tbl):Prop where
 g:∀ i e,st[i]? = some e → e.1 = vf l e.2 ∧ e.2.all dgt = true ∧ e.2.length ≤ 6 ∧ (i < b → e.2.length < n) ∧ (b ≤ i → e.2.length = n)
def Cov (l:List Relation) (st:Tbl) (s:Str):Prop:=∃ e ∈ st,e.1 = vf l s ∧ (e.2.length < s.length ∨ (e.2.length = s.length ∧ lex e.2 s))
theorem qrl {st:Tbl} {p:Str × Str → Bool} {k:Nat} (h:st.findIdx? p = some k):∃ e,st[k]? = some e ∧ p e = true:=by
 obtain ⟨h1,h2,_⟩:=List.findIdx?_eq_some_iff_getElem.1 h
 exact ⟨_,List.getElem?_eq_getElem h1,h2⟩
theorem qqc {l:List Relation} {b n:Nat} {st:Tbl} (G:Good l b n st) (hb:b ≤ st.length) {s:Str} (hs:s.all dgt = true) (hn:s.length = n) (h6:n ≤ 6) :
  Good l b n (qh0 l b st s) ∧ b ≤ (qh0 l b st s).length ∧ Cov l (qh0 l b st s) s ∧ (∀ x,Cov l st x → Cov l (qh0 l b st s) x) ∧ (qh0 l b st s).length ≤ st.length + 1:=by
 unfold qh0
 cases hf:st.findIdx? (fun e=>e.1 == vf l s) with
 | none =>
  refine ⟨⟨fun i e hi=>?_⟩,by simp only [List.length_append,List.length_singleton]; omega,⟨(vf l s,s),by simp,rfl,.inr ⟨rfl,qhm _⟩⟩,fun x ⟨e,he,h⟩=>⟨e,List.mem_append.2 (.inl he),h⟩,by simp⟩
  simp only at hi
  by_cases hlt:i < st.length
  ·rw [List.getElem?_append_left hlt] at hi
   exact G.g i e hi
  ·rw [List.getElem?_append_right (by omega)] at hi
   have:e = (vf l s,s):=by
    cases hk:i - st.length with
    | zero=>rw [hk] at hi; simpa using hi.symm
    | succ m=>rw [hk] at hi; simp at hi
   subst this
   exact ⟨rfl,hs,by simp only; omega,fun h=>by omega,fun _=>hn⟩
 | some k =>
  obtain ⟨e,he,hp⟩:=qrl hf
  have hp':e.1 = vf l s:=beq_iff_eq.1 hp
  obtain ⟨g1,g2,g3,g4,g5⟩:=G.g k e he
  simp only
  by_cases hbk:b ≤ k
  ·rw [if_pos hbk,he]
   simp only
   have hlen:=g5 hbk
   cases hlx:lx s e.2 with
   | true =>
    simp only [if_true]
    have hkl:=qbv he
    have hmem:(e.1,s) ∈ st.set k (e.1,s):=by
     rw [List.mem_iff_getElem?]
     exact ⟨k,by simp [hkl]⟩
    refine ⟨⟨fun i f hi=>?_⟩,by rw [List.length_set]; exact hb,⟨(e.1,s),hmem,hp',.inr ⟨rfl,qhm _⟩⟩,fun x ⟨f,hf',h1,h2⟩=>?_,by rw [List.length_set]; omega⟩
    ·rw [List.getElem?_set] at hi
     split at hi
     ·next heq =>
      simp only [Option.some.injEq] at hi
      subst hi
      subst heq
      exact ⟨hp',hs,by simp only; omega,fun h=>by omega,fun _=>hn⟩
     ·exact G.g i f hi
    ·obtain ⟨i,hi⟩:=List.mem_iff_getElem?.1 hf'
     by_cases hik:i = k
     ·subst hik
      rw [he] at hi
      simp only [Option.some.injEq] at hi
      subst hi
      refine ⟨(e.1,s),hmem,h1,?_⟩
      rcases h2 with h2 | ⟨h2,h3⟩
      ·exact .inl (by simp only; omega)
      ·exact .inr ⟨by simp only; omega,qol (.inr hlx) h3⟩
     ·refine ⟨f,?_,h1,h2⟩
      rw [List.mem_iff_getElem?]
      exact ⟨i,by rw [List.getElem?_set_ne (Ne.symm hik)]; exact hi⟩
   | false =>
    simp only [Bool.false_eq_true,if_false]
    refine ⟨G,hb,⟨e,List.mem_of_getElem? he,hp',.inr ⟨by omega,?_⟩⟩,fun x h=>h,by omega⟩
    cases hlx2:lx e.2 s with
    | true=>exact .inr hlx2
    | false=>exact .inl (qqi (by omega) hlx2 hlx)
  ·rw [if_neg hbk]
   exact ⟨G,hb,⟨e,List.mem_of_getElem? he,hp',.inl (by have:=g4 (by omega); omega)⟩,fun x h=>h,by omega⟩
def rep (k:Nat):Str:=List.replicate k 48
def txt (n w t:Nat):Str:=if w = 0 then rep n else rep (w - (dd t).length) ++ dd t ++ rep (n - w)
def gen (n w t:Nat):Option Str:=if (t % 10 == 0) != (w == 0) then none else if w = 0 ∧ 0 < t then none else if (dd t).length > max w 1 then none else some (txt n w t)
theorem qkX (k:Nat):(rep k).all dgt = true:=by unfold rep; rw [List.all_eq_true]; intro x hx; rw [(List.mem_replicate.1 hx).2]; decide
theorem qla (k:Nat):(rep k).all zr = true:=by unfold rep; rw [List.all_eq_true]; intro x hx; rw [(List.mem_replicate.1 hx).2]; rfl
theorem qfY (k:Nat):(rep k).length = k:=by unfold rep; simp
theorem qk5 {n w t:Nat} {s:Str} (hw:w ≤ n) (h:gen n w t = some s):s = txt n w t ∧ s.length = n ∧ s.all dgt = true ∧ (w ≠ 0 → t % 10 ≠ 0 ∧ (dd t).length ≤ w) ∧ (w = 0 → t = 0):=by
 unfold gen at h
 split at h
 ·cases h
 ·next h1 =>
  split at h
  ·cases h
  ·next h2 =>
   split at h
   ·cases h
   ·next h3 =>
    simp only [Option.some.injEq] at h
    subst h
    refine ⟨rfl,?_,?_,fun hw0=>?_,fun hw0=>?_⟩
    ·unfold txt
     split
     ·exact qfY n
     ·rw [List.length_append,List.length_append,qfY,qfY]; omega
    ·unfold txt
     split
     ·exact qkX n
     ·rw [List.all_append,List.all_append,qkX,qiE,qkX]; rfl
    ·refine ⟨fun h0=>?_,by omega⟩
     rw [h0,show ((0:Nat) == 0) = true from rfl,show (w == 0) = false by simp [hw0]] at h1
     exact h1 rfl
    ·omega
def qhE (l:List Relation) (b:Nat) (st:Tbl) (o:Option Str):Tbl:=match o with | none=>st | some s=>qh0 l b st s
theorem qnm {l:List Relation} {b n:Nat} (h6:n ≤ 6):∀ (xs:List (Option Str)) (st:Tbl),(∀ s,some s ∈ xs → s.all dgt = true ∧ s.length = n) → Good l b n st → b ≤ st.length →
  Good l b n (xs.foldl (qhE l b) st) ∧ b ≤ (xs.foldl (qhE l b) st).length ∧ (∀ s,some s ∈ xs → Cov l (xs.foldl (qhE l b) st) s) ∧ (∀ x,Cov l st x → Cov l (xs.foldl (qhE l b) st) x) ∧ (xs.foldl (qhE l b) st).length ≤ st.length + xs.length
 | [],st,_,G,hb=>⟨G,hb,fun s hs=>(by cases hs),fun x h=>h,by simp⟩
 | o :: xs,st,hx,G,hb=>by
  rw [List.foldl_cons]
  cases o with
  | none =>
   obtain ⟨a1,a2,a3,a4,a5⟩:=qnm h6 xs st (fun s hs=>hx s (by simp [hs])) G hb
   refine ⟨a1,a2,fun s hs=>?_,a4,by simp only [List.length_cons]; exact Nat.le_succ_of_le a5⟩
   rcases List.mem_cons.1 hs with hs | hs
   ·cases hs
   ·exact a3 s hs
  | some s =>
   obtain ⟨hs1,hs2⟩:=hx s (by simp)
   obtain ⟨b1,b2,b3,b4,b5⟩:=qqc G hb hs1 hs2 h6
   obtain ⟨a1,a2,a3,a4,a5⟩:=qnm h6 xs (qh0 l b st s) (fun s hs=>hx s (by simp [hs])) b1 b2
   refine ⟨a1,a2,fun x hx'=>?_,fun x h=>a4 x (b4 x h),?_⟩
   ·rcases List.mem_cons.1 hx' with hx' | hx'
    ·simp only [Option.some.injEq] at hx'; subst hx'; exact a4 _ b3
    ·exact a3 x hx'
   ·show (xs.foldl (qhE l b) (qh0 l b st s)).length ≤ _
    simp only [List.length_cons]
    omega
def genW (n w:Nat):List (Option Str):=(List.range 300).map (gen n w)
def genN (n m:Nat):List (Option Str):=(List.range m).flatMap (genW n)
def tbl (l:List Relation):Nat → Tbl
 | 0=>[]
 | n + 1=>(genN n (n + 1)).foldl (qhE l (tbl l n).length) (tbl l n)
theorem qqF:∀ n m:Nat,(genN n m).length = 300 * m:=by
 intro n m
 induction m with
 | zero=>rfl
 | succ m ih =>
  unfold genN at ih ⊢
  rw [List.range_succ,List.flatMap_append,List.length_append,ih]
  simp [genW]
  omega
theorem qkY {l:List Relation}:∀ n,n ≤ 7 → (∀ e ∈ tbl l n,e.1 = vf l e.2 ∧ e.2.all dgt = true ∧ e.2.length ≤ 6 ∧ e.2.length < n) ∧ (tbl l n).length ≤ 2100 * n ∧ ∀ k w t s,k < n → w ≤ k → t < 300 → gen k w t = some s → Cov l (tbl l n) s
 | 0,_=>⟨fun e he=>(by cases he),by simp [tbl],fun k w t s h=>by omega⟩
 | n + 1,hn=>by
  obtain ⟨h1,h2,h3⟩:=qkY (l:=l) n (by omega)
  have G:Good l (tbl l n).length n (tbl l n):=⟨fun i e hi=>by
   obtain ⟨a1,a2,a3,a4⟩:=h1 e (List.mem_of_getElem? hi)
   exact ⟨a1,a2,a3,fun _=>a4,fun h=>by have:=qbv hi; omega⟩⟩
  have hx:∀ s,some s ∈ genN n (n + 1) → s.all dgt = true ∧ s.length = n:=by
   intro s hs
   obtain ⟨w,hw,h⟩:=List.mem_flatMap.1 hs
   obtain ⟨t,ht,h⟩:=List.mem_map.1 h
   have:=List.mem_range.1 hw
   obtain ⟨_,k1,k2,_⟩:=qk5 (by omega) h
   exact ⟨k2,k1⟩
  obtain ⟨a1,a2,a3,a4,a5⟩:=qnm (show n ≤ 6 by omega) (genN n (n + 1)) (tbl l n) hx G (Nat.le_refl _)
  refine ⟨fun e he=>?_,?_,fun k w t s hk hw ht hg=>?_⟩
  ·rw [tbl] at he
   obtain ⟨i,hi⟩:=List.mem_iff_getElem?.1 he
   obtain ⟨g1,g2,g3,g4,g5⟩:=a1.g i e hi
   refine ⟨g1,g2,g3,?_⟩
   by_cases h:i < (tbl l n).length
   ·have:=g4 h; omega
   ·have:=g5 (by omega); omega
  ·have hg:=qqF n (n + 1)
   have a6:=Nat.le_trans a5 (Nat.add_le_add_left (Nat.le_of_eq hg) _)
   rw [tbl]
   exact Nat.le_trans a6 (by omega)
  ·rw [tbl]
   by_cases hkn:k = n
   ·subst hkn
    exact a3 s (List.mem_flatMap.2 ⟨w,List.mem_range.2 (by omega),List.mem_map.2 ⟨t,List.mem_range.2 ht,hg⟩⟩)
   ·exact a4 s (h3 k w t s (by omega) hw ht hg)
theorem qte {N:Nat} {w:Nat} (hw:w ≤ 100):∀ (j:Nat) (s:Str) (M:Nat),w ≤ s.length + j → j < M → s.length ≤ 100 → iter (fun x=>qcW N (w:Int) x) M s = some (rep (w - s.length) ++ s):=by
 intro j
 induction j with
 | zero =>
  intro s M h hM hs
  obtain ⟨M,rfl⟩:∃ K,M = K + 1:=⟨M - 1,by omega⟩
  rw [iter]
  unfold qcW
  rw [decide_eq_false (show ¬ (s.length:Int) < (w:Int) by omega),cond_false,show w - s.length = 0 by omega]
  rfl
 | succ j ih =>
  intro s M h hM hs
  obtain ⟨M,rfl⟩:∃ K,M = K + 1:=⟨M - 1,by omega⟩
  have hb:qcW N (w:Int) s = some (if s.length < w then .inl (48 :: s) else .inr s):=by
   unfold qcW
   by_cases hlt:s.length < w
   ·rw [decide_eq_true (show (s.length:Int) < (w:Int) by omega),cond_true,if_pos hlt,qc0 (by simp; omega)]
    rfl
   ·rw [decide_eq_false (show ¬ (s.length:Int) < (w:Int) by omega),cond_false,if_neg hlt]
  rw [iter,hb]
  by_cases hlt:s.length < w
  ·rw [if_pos hlt]
   simp only
   rw [ih (48 :: s) M (by simp only [List.length_cons]; omega) (by omega) (by simp only [List.length_cons]; omega)]
   obtain ⟨k,hk⟩:∃ k,w - s.length = k + 1:=⟨w - s.length - 1,by omega⟩
   rw [hk,show w - (48 :: s).length = k by simp only [List.length_cons]; omega]
   unfold rep
   rw [List.replicate_succ']
   simp
  ·rw [if_neg hlt,show w - s.length = 0 by omega]
   rfl
theorem qsy {N:Nat} {z:Nat} (hz:z ≤ 100) {s:Str} (hs:s.length ≤ 200) (hN:20000000 ≤ N):iter (fun x=>qbR N (z:Int) x.1 x.2) N (s,0) = some (s ++ rep z):=by
 have hh:=qaT (body:=fun x=>qbR N (z:Int) x.1 x.2) (σ:=Str) (fun a k=>(a,k)) (List.range z) (fun a _=>.inl (a ++ [48])) (fun a=>a) (fun k a=>a.length ≤ 200 + k) (fun a k r hk ha=>?_) (fun a ha=>?_) N s (by rw [List.length_range]; omega) (by omega)
 ·have e:∀ (xs:List Nat) (a:Str),run (β:=Str) (fun a _=>.inl (a ++ [48])) (fun a=>a) a xs = a ++ rep xs.length:=by
   intro xs
   induction xs with
   | nil=>intro a; simp [run,rep]
   | cons x xs ih =>
    intro a
    rw [run]
    simp only
    rw [ih]
    unfold rep
    rw [List.length_cons,List.replicate_succ]
    simp
  rw [e,List.length_range] at hh
  exact hh
 ·have hlt:=qbv hk
  rw [List.length_range] at hlt
  constructor
  ·show qbR N (z:Int) a k = _
   unfold qbR
   rw [decide_eq_true (show (k:Int) < (z:Int) by omega),cond_true,qc0 (by simp; omega)]
   rfl
  ·intro s' h
   cases h
   simp
   omega
 ·show qbR N (z:Int) a ((List.range z).length:Int) = _
  rw [List.length_range]
  unfold qbR
  rw [decide_eq_false (by omega),cond_false]
theorem qm3 {N t w z:Nat} (ht:t < 300) (hw:w ≤ 6) (hz:z ≤ 6) (hN:20000000 ≤ N):qcy N (t:Int) (w:Int) (z:Int) = some (rep (w - (dd t).length) ++ dd t ++ rep z):=by
 have hdl:=qfz 2 t (by omega)
 unfold qcy
 rw [qno (by omega) (by omega)]
 simp only [Option.bind_some]
 rw [qte (by omega) w (dd t) N (by omega) (by omega) (by omega)]
 simp only [Option.bind_some]
 rw [qsy (by omega) (by rw [List.length_append,qfY]; omega) hN]
 rfl
theorem qtJ {N n:Nat} (hn:n ≤ 6) (hN:20000000 ≤ N):((qcy N 0 (n:Int) 0).bind fun r=>(slc r 0 (n:Int)).bind fun s=>some s) = some (rep n):=by
 have:=qm3 (t:=0) (w:=n) (z:=0) (by omega) hn (by omega) hN
 rw [show ((0:Nat):Int) = 0 from rfl] at this
 rw [this]
 have hd:dd 0 = [48]:=qem (by omega)
 rw [hd]
 simp only [Option.bind_some]
 have hlen:n ≤ (rep (n - ([48]:Str).length) ++ [48] ++ rep 0).length:=by
  simp only [List.length_append,qfY,List.length_singleton]
  omega
 rw [qlv hlen]
 simp only [Option.bind_some,Option.some.injEq]
 cases n with
 | zero=>rfl
 | succ k =>
  rw [show k + 1 - ([48]:Str).length = k by simp,show rep 0 = [] from rfl,List.append_nil,List.take_of_length_le (by simp [rep])]
  unfold rep
  rw [List.replicate_succ']
theorem sidx {st:Tbl} (v:Str):(st.map (·.1)).findIdx? (fun x=>x == v) = st.findIdx? (fun e=>e.1 == v):=by
 rw [List.findIdx?_map]
 rfl
theorem qrs {N:Nat} {l:List Relation} (S:Sl N l) {st:Tbl} {b:Nat} (hst:st.length ≤ 100000) (hall:∀ e ∈ st,e.2.all dgt = true ∧ e.2.length ≤ 6) {n:Nat} (hlen:∀ i e,st[i]? = some e → b ≤ i → e.2.length = n) {s:Str} (hs:s.all dgt = true) (hn:s.length = n) (h6:n ≤ 6) {x:Int} :
  ((qdq N (st.map (·.1)) (vf l s)).bind fun r=>bif (decide (r < 0)) then ((app (st.map (·.1)) [vf l s]).bind fun a=>(app (st.map (·.2)) [s]).bind fun c=>some (Sum.inl (β:=List Str × List Str) (a,c,x)))
   else bif (decide (r ≥ (b:Int))) then ((idx (st.map (·.2)) r).bind fun y=>bif (qnp s y) then ((idx (st.map (·.2)) r).bind fun _=>(setI (st.map (·.2)) r s).bind fun c=>some (.inl (st.map (·.1),c,x))) else some (.inl (st.map (·.1),st.map (·.2),x))) else some (.inl (st.map (·.1),st.map (·.2),x)))
   = some (.inl ((qh0 l b st s).map (·.1),(qh0 l b st s).map (·.2),x)):=by
 have hn0:=S.n
 rw [qqg _ _ (by rw [List.length_map]; omega),sidx]
 simp only [Option.bind_some]
 unfold qh0
 cases hf:st.findIdx? (fun e=>e.1 == vf l s) with
 | none =>
  simp only
  rw [show decide ((-1:Int) < 0) = true from rfl,cond_true,qdJ (by rw [List.length_map]; simp; omega)]
  simp only [Option.bind_some]
  rw [qdJ (by rw [List.length_map]; simp; omega)]
  simp
 | some k =>
  obtain ⟨e,he,hp⟩:=qrl hf
  simp only
  rw [decide_eq_false (show ¬ (k:Int) < 0 by omega),cond_false]
  by_cases hbk:b ≤ k
  ·rw [decide_eq_true (show (k:Int) ≥ (b:Int) by omega),cond_true,if_pos hbk,he]
   have hx:(st.map (·.2))[k]? = some e.2:=by rw [List.getElem?_map,he]; rfl
   rw [qaz hx]
   simp only [Option.bind_some]
   rw [qqp hs (hall e (List.mem_of_getElem? he)).1 (by rw [hn,hlen k e he hbk])]
   cases lx s e.2 with
   | false=>rfl
   | true =>
    simp only [cond_true,if_true]
    have hkl:=qbv he
    rw [qgu (by rw [List.length_map]; exact hkl)]
    simp only [Option.bind_some]
    have e1:(st.set k (e.1,s)).map (·.1) = st.map (·.1):=by
     rw [List.map_set]
     apply List.ext_getElem?
     intro i
     rw [List.getElem?_set]
     split
     ·next h =>
      subst h
      rw [if_pos (by rw [List.length_map]; exact hkl),List.getElem?_map,he]
      rfl
     ·rfl
    have e2:(st.set k (e.1,s)).map (·.2) = (st.map (·.2)).set k s:=by rw [List.map_set]
    rw [e1,e2]
  ·rw [decide_eq_false (show ¬ (k:Int) ≥ (b:Int) by omega),cond_false,if_neg hbk]
theorem qpW:∀ s:Str,s.all zr = true → vl 0 s = 0
 | [],_=>rfl
 | c :: s,h=>by
  rw [List.all_cons,Bool.and_eq_true] at h
  have hc:c = 48:=by unfold zr at h; exact beq_iff_eq.1 h.1
  subst hc
  have ih:=qpW s h.2
  have e:vl 0 (48 :: s) = vl 0 s:=rfl
  rw [e,ih]
theorem qvr {n w t:Nat} {s:Str} (hw:w ≤ n) (h:gen n w t = some s):s.all zr = (w == 0):=by
 obtain ⟨rfl,_,_,h4,h5⟩:=qk5 hw h
 unfold txt
 by_cases hw0:w = 0
 ·rw [if_pos hw0,qla]; simp [hw0]
 ·rw [if_neg hw0,List.all_append,List.all_append,qla,qla]
  have h6:=(h4 hw0).1
  have:(dd t).all zr = false:=by
   cases hz:(dd t).all zr with
   | false=>rfl
   | true =>
    have:=qpW _ hz
    rw [qiu] at this
    omega
  rw [this]
  simp [hw0]
theorem qwj {N:Nat} {l:List Relation} (S:Sl N l) {st:Tbl} {b n w t:Nat} (seen:List Str) (hb:seen.length = b) (hst:st.length ≤ 100000) (hall:∀ e ∈ st,e.2.all dgt = true ∧ e.2.length ≤ 6) (hlen:∀ i e,st[i]? = some e → b ≤ i → e.2.length = n) (hw:w ≤ n) (h6:n ≤ 6) (ht:t < 300) :
  qbp N l seen n w (st.map (·.1)) (st.map (·.2)) t = some (.inl ((qhE l b st (gen n w t)).map (·.1),(qhE l b st (gen n w t)).map (·.2),(t:Int) + 1)):=by
 have hn0:=S.n
 have hl:=S.len
 unfold qbp
 have hr:rm (t:Int) 10 = some ((t % 10:Nat):Int):=rfl
 rw [decide_eq_true (show (t:Int) < 300 by omega),cond_true,hr]
 simp only [Option.bind_some]
 have hc1:((((t % 10:Nat):Int) == 0) != ((w:Int) == 0)) = ((t % 10 == 0) != (w == 0)):=by
  have a1:(((t % 10:Nat):Int) == 0) = (t % 10 == 0):=by rw [Bool.eq_iff_iff,beq_iff_eq,beq_iff_eq]; omega
  have a2:((w:Int) == 0) = (w == 0):=by rw [Bool.eq_iff_iff,beq_iff_eq,beq_iff_eq]; omega
  rw [a1,a2]
 rw [hc1]
 have hdl:=qfz 2 t (by omega)
 have hvec:∀ s:Str,s.length = n → ((bif decide ((n:Int) > 0) then (cat [48,46] s).bind fun x=>some x else some [48]):Option Str) = some (nb [48] s):=by
  intro s hs
  unfold nb
  by_cases h0:n = 0
  ·have:s = []:=List.eq_nil_of_length_eq_zero (by omega)
   subst this
   rw [decide_eq_false (show ¬ (n:Int) > 0 by omega)]
   rfl
  ·rw [decide_eq_true (show (n:Int) > 0 by omega),cond_true,qc0 (by simp; omega),if_neg (fun e=>by subst e; simp at hs; omega)]
   rfl
 have hnb:∀ s:Str,s.length = n → (nb [48] s).length ≤ 1000:=by
  intro s hs
  have:=qir [48] s
  rw [this]
  split <;> simp <;> omega
 have hgen:gen n w t = if (t % 10 == 0) != (w == 0) then none else if w = 0 ∧ 0 < t then none else if (dd t).length > max w 1 then none else some (txt n w t):=rfl
 cases hq:((t % 10 == 0) != (w == 0)) with
 | true =>
  have:gen n w t = none:=by rw [hgen,hq]; rfl
  rw [this]
  rfl
 | false =>
  rw [cond_false]
  by_cases hw0:w = 0
  ·subst hw0
   rw [show (((0:Nat):Int) == 0) = true from rfl,cond_true]
   by_cases htp:0 < t
   ·have:gen n 0 t = none:=by rw [hgen,hq]; simp [htp]
    rw [this,decide_eq_true (show (t:Int) > 0 by omega)]
    rfl
   ·have ht0:t = 0:=by omega
    subst ht0
    have hg:gen n 0 0 = some (rep n):=by
     rw [hgen,hq]
     have hd:dd 0 = [48]:=qem (by omega)
     simp [hd,txt]
    rw [decide_eq_false (show ¬ ((0:Nat):Int) > 0 by omega),cond_false,qno (by omega) (by omega)]
    simp only [Option.bind_some]
    have hd:dd 0 = [48]:=qem (by omega)
    rw [hd,show decide ((([48]:Str).length:Int) > max ((0:Nat):Int) 1) = false by decide,cond_false]
    have hz:=qtJ (N:=N) h6 (by omega)
    have hp0:=qm3 (N:=N) (t:=0) (w:=0) (z:=n) (by omega) (by omega) h6 (by omega)
    have hwr:IntKind.wrap .i64 ((n:Int) - ((0:Nat):Int)) = (n:Int):=by rw [qfr (by omega) (by omega)]; omega
    rw [hwr,hp0]
    have e1:∀ (X:Option Str → Option (List Str × List Str × Int ⊕ List Str × List Str)) ,True:=fun _=>trivial
    have e2:((bif decide ((n:Int) > 0) then ((some (rep (0 - (dd 0).length) ++ dd 0 ++ rep n)).bind fun r=>some r) else some []):Option Str).isSome = true:=by cases decide ((n:Int) > 0) <;> rfl
    obtain ⟨o,ho⟩:=Option.isSome_iff_exists.1 e2
    simp only [Option.bind_some] at ho ⊢
    rw [ho]
    simp only [Option.bind_some,cond_true]
    rw [show ((0:Nat):Int) = 0 from rfl] at *
    rw [hz]
    simp only [Option.bind_some]
    rw [hvec (rep n) (qfY n)]
    simp only [Option.bind_some]
    rw [qm9 S (hnb _ (qfY n))]
    simp only [Option.bind_some]
    have hvl:=qu5 l (nb [48] (rep n)) false
    rw [qc0 (by simp; omega)]
    simp only [Option.bind_some]
    have hvf:vec l (nb [48] (rep n)) false ++ [48] = vf l (rep n):=by unfold vf; rw [qla]; rfl
    rw [hvf,hg]
    have:=qrs S (b:=b) hst hall hlen (qkX n) (qfY n) h6 (x:=(0:Int) + 1)
    rw [← hb] at this ⊢
    exact this
  ·have hwb:((w:Int) == 0) = false:=by rw [beq_eq_false_iff_ne]; omega
   rw [hwb,cond_false,qno (by omega) (by omega)]
   simp only [Option.bind_some]
   have hmx:decide (((dd t).length:Int) > max (w:Int) 1) = decide ((dd t).length > max w 1):=decide_eq_decide.2 (by omega)
   rw [hmx]
   by_cases hlong:(dd t).length > max w 1
   ·have:gen n w t = none:=by rw [hgen,hq]; simp [hw0,hlong]
    rw [this,decide_eq_true hlong]
    rfl
   ·have hg:gen n w t = some (txt n w t):=by rw [hgen,hq]; simp [hw0,hlong]
    obtain ⟨_,k1,k2,k3,_⟩:=qk5 hw hg
    rw [decide_eq_false hlong,cond_false,decide_eq_true (show (n:Int) > 0 by omega),cond_true]
    have hwr:IntKind.wrap .i64 ((n:Int) - (w:Int)) = ((n - w:Nat):Int):=by rw [qfr (by omega) (by omega)]; omega
    rw [hwr,qm3 ht (by omega) (by omega) (by omega)]
    simp only [Option.bind_some,cond_false]
    have htx:rep (w - (dd t).length) ++ dd t ++ rep (n - w) = txt n w t:=by unfold txt; rw [if_neg hw0]
    rw [htx]
    have hv:=hvec (txt n w t) k1
    rw [decide_eq_true (show (n:Int) > 0 by omega),cond_true] at hv
    rw [cond_true,hv]
    simp only [Option.bind_some]
    rw [qm9 S (hnb _ k1)]
    simp only [Option.bind_some]
    have hvf:vec l (nb [48] (txt n w t)) false = vf l (txt n w t):=by
     unfold vf
     rw [qvr hw hg,show (w == 0) = false by simp [hw0]]
     simp
    rw [hvf,hg]
    have:=qrs S (b:=b) hst hall hlen k2 k1 h6 (x:=(t:Int) + 1)
    rw [← hb] at this ⊢
    exact this
theorem qwv {N:Nat} {l:List Relation} (S:Sl N l) {st:Tbl} {b n w:Nat} (seen:List Str) (hb:seen.length = b) (hbs:b ≤ st.length) (hst:st.length ≤ 50000) (G:Good l b n st) (hw:w ≤ n) (h6:n ≤ 6) :
  iter (fun x=>qbp N l seen n w x.1 x.2.1 x.2.2) N (st.map (·.1),st.map (·.2),0) = some (((genW n w).foldl (qhE l b) st).map (·.1),((genW n w).foldl (qhE l b) st).map (·.2)):=by
 have hn0:=S.n
 have hh:=qaT (body:=fun x=>qbp N l seen n w x.1 x.2.1 x.2.2) (σ:=Tbl) (fun st k=>(st.map (·.1),st.map (·.2),k)) (genW n w) (fun st o=>.inl (qhE l b st o)) (fun st=>(st.map (·.1),st.map (·.2))) (fun k st=>Good l b n st ∧ b ≤ st.length ∧ st.length ≤ 50000 + k) (fun st k o hk hI=>?_) (fun st hI=>?_) N st (by unfold genW; rw [List.length_map,List.length_range]; omega) ⟨G,hbs,by omega⟩
 ·rw [hh,qhG]
 ·obtain ⟨G,hbs,hsl⟩:=hI
  have hlt:=qbv hk
  unfold genW at hk hlt
  rw [List.length_map,List.length_range] at hlt
  rw [List.getElem?_map,List.getElem?_range hlt] at hk
  simp only [Option.map_some,Option.some.injEq] at hk
  subst hk
  constructor
  ·show qbp N l seen n w (st.map (·.1)) (st.map (·.2)) k = _
   rw [qwj S seen hb (by omega) (fun e he=>?_) (fun i e hi hbi=>(G.g i e hi).2.2.2.2 hbi) hw h6 hlt]
   obtain ⟨i,hi⟩:=List.mem_iff_getElem?.1 he
   exact ⟨(G.g i e hi).2.1,(G.g i e hi).2.2.1⟩
  ·intro s' h
   simp only [Sum.inl.injEq] at h
   subst h
   cases hg:gen n w k with
   | none=>exact ⟨G,hbs,by show st.length ≤ _; omega⟩
   | some s =>
    obtain ⟨_,k1,k2,_⟩:=qk5 hw hg
    obtain ⟨b1,b2,_,_,b5⟩:=qqc G hbs k2 k1 h6
    exact ⟨b1,b2,by show (qh0 l b st s).length ≤ _; omega⟩
 ·have e:((genW n w).length:Int) = ((300:Nat):Int):=by unfold genW; rw [List.length_map,List.length_range]
  generalize hM:((genW n w).length:Int) = M at e
  dsimp only
  unfold qbp
  rw [decide_eq_false (show ¬ M < 300 by omega),cond_false]
theorem qr9 (n m:Nat):genN n (m + 1) = genN n m ++ genW n m:=by
 unfold genN
 rw [List.range_succ,List.flatMap_append]
 simp
theorem quw {n m:Nat} (hm:m ≤ n + 1):∀ s,some s ∈ genN n m → s.all dgt = true ∧ s.length = n:=by
 intro s hs
 obtain ⟨w,hw,h⟩:=List.mem_flatMap.1 hs
 obtain ⟨t,ht,h⟩:=List.mem_map.1 h
 have:=List.mem_range.1 hw
 obtain ⟨_,k1,k2,_⟩:=qk5 (by omega) h
 exact ⟨k2,k1⟩
theorem qto {l:List Relation} {n:Nat} (hn:n ≤ 7):Good l (tbl l n).length n (tbl l n):=by
 obtain ⟨h1,_,_⟩:=qkY (l:=l) n hn
 exact ⟨fun i e hi=>by
  obtain ⟨a1,a2,a3,a4⟩:=h1 e (List.mem_of_getElem? hi)
  exact ⟨a1,a2,a3,fun _=>a4,fun h=>by have:=qbv hi; omega⟩⟩
def tbm (l:List Relation) (n m:Nat):Tbl:=(genN n m).foldl (qhE l (tbl l n).length) (tbl l n)
theorem qtq (l:List Relation) (n m:Nat):tbm l n (m + 1) = (genW n m).foldl (qhE l (tbl l n).length) (tbm l n m):=by
 unfold tbm
 rw [qr9,List.foldl_append]
theorem qv9 {l:List Relation} {n m:Nat} (hn:n ≤ 6) (hm:m ≤ n + 1):Good l (tbl l n).length n (tbm l n m) ∧ (tbl l n).length ≤ (tbm l n m).length ∧ (tbm l n m).length ≤ 50000:=by
 obtain ⟨_,h2,_⟩:=qkY (l:=l) n (by omega)
 obtain ⟨a1,a2,_,_,a5⟩:=qnm hn (genN n m) (tbl l n) (quw hm) (qto (by omega)) (Nat.le_refl _)
 have hg:=qqF n m
 have a6:=Nat.le_trans a5 (Nat.add_le_add_left (Nat.le_of_eq hg) _)
 exact ⟨a1,a2,Nat.le_trans a6 (by omega)⟩
theorem qwx {N:Nat} {l:List Relation} (S:Sl N l) {n:Nat} (h6:n ≤ 6) :
  iter (fun x=>qbM N l ((tbl l n).map (·.1)) n x.1 x.2.1 x.2.2) N ((tbl l n).map (·.1),(tbl l n).map (·.2),0) = some ((tbl l (n + 1)).map (·.1),(tbl l (n + 1)).map (·.2)):=by
 have hn0:=S.n
 have hh:=qaT (body:=fun x=>qbM N l ((tbl l n).map (·.1)) n x.1 x.2.1 x.2.2) (σ:=Nat) (fun i k=>((tbm l n i).map (·.1),(tbm l n i).map (·.2),k)) (List.range (n + 1)) (fun i _=>.inl (i + 1)) (fun i=>((tbm l n i).map (·.1),(tbm l n i).map (·.2))) (fun k i=>i = k) (fun i k r hk hi=>?_) (fun i hi=>?_) N 0 (by rw [List.length_range]; omega) rfl
 ·rw [qe2,Nat.zero_add,List.length_range] at hh
  have e0:tbm l n 0 = tbl l n:=rfl
  have e1:tbm l n (n + 1) = tbl l (n + 1):=by rw [tbl]; rfl
  rw [e0,e1] at hh
  exact hh
 ·subst hi
  have hlt:=qbv hk
  rw [List.length_range] at hlt
  obtain ⟨g1,g2,g3⟩:=qv9 (l:=l) (n:=n) (m:=i) h6 (by omega)
  constructor
  ·show qbM N l ((tbl l n).map (·.1)) n ((tbm l n i).map (·.1)) ((tbm l n i).map (·.2)) i = _
   unfold qbM
   rw [decide_eq_true (show (i:Int) ≤ (n:Int) by omega),cond_true]
   rw [qwv S ((tbl l n).map (·.1)) (b:=(tbl l n).length) (by rw [List.length_map]) g2 g3 g1 (by omega) h6]
   simp only [Option.bind_some]
   rw [qtq,qfr (by omega) (by omega)]
  ·intro s' h
   cases h; rfl
 ·rw [List.length_range] at hi ⊢
  dsimp only
  unfold qbM
  rw [decide_eq_false (show ¬ ((n + 1:Nat):Int) ≤ (n:Int) by omega),cond_false]
def qj2 (l:List Relation):List Str:=(tbl l 7).map (·.2)
theorem qpF {N:Nat} {l:List Relation} (S:Sl N l):qeA N l = some (qj2 l):=by
 have hn0:=S.n
 unfold qeA
 have hh:=qaT (body:=fun x=>qcf N l x.1 x.2.1 x.2.2) (σ:=Nat) (fun i k=>((tbl l i).map (·.1),(tbl l i).map (·.2),k)) (List.range 7) (fun i _=>.inl (i + 1)) (fun i=>(tbl l i).map (·.2)) (fun k i=>i = k) (fun i k r hk hi=>?_) (fun i hi=>?_) N 0 (by rw [List.length_range]; omega) rfl
 ·rw [qe2,Nat.zero_add,List.length_range] at hh
  have e:(([]:List Str),([]:List Str),(0:Int)) = ((tbl l 0).map (·.1),(tbl l 0).map (·.2),0):=rfl
  rw [e,hh]
  rfl
 ·subst hi
  have hlt:=qbv hk
  rw [List.length_range] at hlt
  constructor
  ·show qcf N l ((tbl l i).map (·.1)) ((tbl l i).map (·.2)) i = _
   unfold qcf
   rw [decide_eq_true (show (i:Int) ≤ 6 by omega),cond_true,qwx S (by omega)]
   simp only [Option.bind_some]
   rw [qfr (by omega) (by omega)]
  ·intro s' h
   cases h; rfl
 ·rw [List.length_range] at hi ⊢
  generalize hM:((7:Nat):Int) = M
  dsimp only
  unfold qcf
  rw [decide_eq_false (show ¬ M ≤ 6 by omega),cond_false]
theorem qtg (f:Str):∃ k,f = rt f ++ rep k:=by
 induction f using qii with
 | h0=>exact ⟨0,rfl⟩
 | h1 f c ih =>
  rw [qhk]
  split
  ·next h =>
   obtain ⟨k,hk⟩:=ih
   refine ⟨k + 1,?_⟩
   have hc:c = 48:=by unfold zr at h; exact beq_iff_eq.1 h
   subst hc
   conv=>lhs; rw [hk]
   unfold rep
   rw [List.replicate_succ']
   simp
  ·exact ⟨0,by simp [rep]⟩
theorem qu4 (f:Str):rt f = [] ∨ ∃ g c,rt f = g ++ [c] ∧ zr c = false:=by
 induction f using qii with
 | h0=>exact .inl rfl
 | h1 f c ih =>
  rw [qhk]
  split
  ·exact ih
  ·next h=>exact .inr ⟨f,c,rfl,by simpa using h⟩
theorem qsM:∀ (s:Str),s.all dgt = true → s ≠ [] → rep (s.length - (dd (vl 0 s)).length) ++ dd (vl 0 s) = s ∧ (dd (vl 0 s)).length ≤ s.length
 | [],_,h=>absurd rfl h
 | [c],h,_=>by
  rw [List.all_cons,Bool.and_eq_true] at h
  have hc:=qeO.1 h.1
  have e:vl 0 [c] = c.toNat - 48:=by show 10 * 0 + (c.toNat - 48) = _; omega
  rw [e,qem (by omega)]
  have hb:UInt8.ofNat (48 + (c.toNat - 48)) = c:=by
   apply UInt8.toNat_inj.1
   rw [qjb (by omega)]; omega
  rw [hb]
  exact ⟨rfl,Nat.le_refl _⟩
 | c :: d :: t,h,_=>by
  rw [List.all_cons,Bool.and_eq_true] at h
  by_cases hc:c = 48
  ·subst hc
   obtain ⟨h1,h2⟩:=qsM (d :: t) h.2 (by simp)
   have e:vl 0 (48 :: d :: t) = vl 0 (d :: t):=rfl
   rw [e]
   refine ⟨?_,by simp only [List.length_cons] at *; omega⟩
   have e2:(48 :: d :: t).length - (dd (vl 0 (d :: t))).length = ((d :: t).length - (dd (vl 0 (d :: t))).length) + 1:=by simp only [List.length_cons] at *; omega
   rw [e2]
   unfold rep at h1 ⊢
   rw [List.replicate_succ,List.cons_append,h1]
  ·have hw:Wh (c :: d :: t):=⟨by rw [List.all_cons,h.1,h.2]; rfl,.inr ⟨c,d :: t,rfl,hc⟩⟩
   rw [qp7 _ hw,Nat.sub_self]
   exact ⟨rfl,Nat.le_refl _⟩
theorem qsK (s:Str) (k:Nat):vl 0 (s ++ rep k) = vl 0 s * 10 ^ k:=by
 rw [qox,qfY,qpW _ (qla k)]
 omega
theorem qv2 {s:Str} {g:Str} {c:UInt8} (h:s = g ++ [c]) (hc:zr c = false) (k:Nat):rt (s ++ rep k) = s:=by
 induction k with
 | zero=>rw [show rep 0 = [] from rfl,List.append_nil,h,qhk,hc]; rfl
 | succ k ih =>
  have e:s ++ rep (k + 1) = (s ++ rep k) ++ [48]:=by unfold rep; rw [List.replicate_succ']; simp
  rw [e,qhk]
  exact ih
theorem qsU {l:List Relation} (hpr:Pr l) {f:Str} (hf':f.all dgt = true) (h6:f.length ≤ 6):∃ w t s,w ≤ f.length ∧ t < 300 ∧ gen f.length w t = some s ∧ lex s f ∧ s.all zr = f.all zr ∧ ∀ r ∈ l,onW r = false → hf r s = hf r f:=by
 obtain ⟨k,hk⟩:=qtg f
 rcases qu4 f with h0 | ⟨g,c,hgc,hc⟩
 ·have hz:=(qqn f).1 h0
  have hfr:f = rep f.length:=by
   rw [h0] at hk
   have:f = rep k:=by simpa using hk
   rw [this,qfY]
  refine ⟨0,0,rep f.length,Nat.zero_le _,by omega,?_,.inl hfr.symm,by rw [← hfr],fun r _ _=>by rw [← hfr]⟩
  have hd:dd 0 = [48]:=qem (by omega)
  unfold gen txt
  simp [hd]
 ·have hrd:(rt f).all dgt = true:=qs3 f hf'
  have hne:rt f ≠ []:=by rw [hgc]; simp
  have hkl:f.length = (rt f).length + k:=by conv=>lhs; rw [hk]; rw [List.length_append,qfY]
  generalize hT:vl 0 (rt f) = T
  obtain ⟨p1,p2⟩:=qsM (rt f) hrd hne
  rw [hT] at p1 p2
  have hcd:dgt c = true:=by rw [hgc,List.all_append,Bool.and_eq_true] at hrd; simpa using hrd.2
  have hcr:=qeO.1 hcd
  have hc48:c.toNat ≠ 48:=fun e=>by
   have:c = 48:=UInt8.toNat_inj.1 e
   subst this
   cases hc
  have hT10:T % 10 = c.toNat - 48:=by
   rw [← hT,hgc,qox]
   have e:vl 0 [c] = c.toNat - 48:=by show 10 * 0 + (c.toNat - 48) = _; omega
   rw [e]
   simp only [List.length_singleton,Nat.pow_one]
   omega
  have hT0:T % 10 ≠ 0:=by omega
  have hfz:f.all zr = false:=by
   cases hz:f.all zr with
   | false=>rfl
   | true=>exact absurd ((qqn f).2 hz) hne
  have hwl:(rt f).length ≠ 0:=fun e=>hne (List.eq_nil_of_length_eq_zero e)
  have hgen:∀ t,t < 300 → t % 10 ≠ 0 → (dd t).length ≤ (rt f).length → gen f.length (rt f).length t = some (rep ((rt f).length - (dd t).length) ++ dd t ++ rep k):=by
   intro t ht h10 hl
   unfold gen txt
   have hq:((t % 10 == 0) != ((rt f).length == 0)) = false:=by
    rw [beq_eq_false_iff_ne.2 h10,beq_eq_false_iff_ne.2 hwl]; rfl
   rw [hq,if_neg (by decide),if_neg (by omega),if_neg (by omega),if_neg hwl,show f.length - (rt f).length = k by omega]
  by_cases hT3:T < 300
  ·refine ⟨(rt f).length,T,f,by omega,hT3,?_,qhm _,rfl,fun r _ _=>rfl⟩
   rw [hgen T hT3 hT0 p2,p1,← hk]
  ·-- a smaller number of three digits
   have ht':200 + T % 100 < 300:=by omega
   have ht10:(200 + T % 100) % 10 ≠ 0:=by omega
   have hdl:(dd (200 + T % 100)).length ≤ 3:=qfz 2 _ (by omega)
   have hdl2:3 ≤ (dd (200 + T % 100)).length:=qqu 2 _ (by omega)
   have hTl:3 ≤ (dd T).length:=qqu 2 T (by omega)
   have hg:=hgen (200 + T % 100) ht' ht10 (by omega)
   generalize hu:200 + T % 100 = u at *
   generalize hX:rep ((rt f).length - (dd u).length) ++ dd u = X at *
   have hXl:X.length = (rt f).length:=by rw [← hX,List.length_append,qfY]; omega
   have hXd:X.all dgt = true:=by rw [← hX,List.all_append,qkX,qiE]; rfl
   have hXv:vl 0 X = u:=by rw [← hX,qox,qiu,qpW _ (qla _)]; omega
   have hXlast:∃ g c,X = g ++ [c] ∧ zr c = false:=by
    have hne2:X ≠ []:=fun e=>by rw [e] at hXl; simp at hXl; omega
    refine ⟨X.dropLast,X.getLast hne2,(List.dropLast_concat_getLast hne2).symm,?_⟩
    cases hz:zr (X.getLast hne2) with
    | false=>rfl
    | true =>
     exfalso
     have he:X.getLast hne2 = 48:=by unfold zr at hz; exact beq_iff_eq.1 hz
     have e1:=(List.dropLast_concat_getLast hne2).symm
     rw [he] at e1
     rw [e1,qox] at hXv
     have e2:vl 0 ([48]:Str) = 0:=rfl
     rw [e2] at hXv
     simp only [List.length_singleton,Nat.pow_one] at hXv
     omega
   obtain ⟨gX,cX,hX1,hX2⟩:=hXlast
   have hrtX:rt (X ++ rep k) = X:=qv2 hX1 hX2 k
   have hzX:(X ++ rep k).all zr = false:=by
    cases hz:(X ++ rep k).all zr with
    | false=>rfl
    | true =>
     have:=(qqn _).2 hz
     rw [hrtX] at this
     rw [this] at hX1
     simp at hX1
   refine ⟨(rt f).length,u,X ++ rep k,by omega,ht',hg,?_,by rw [hzX,hfz],fun r hr ho=>?_⟩
   ·conv=>rhs; rw [hk]
    exact qkU (qqz hXd hrd hXl (by rw [hXv,hT]; omega)) hXl (qhm _)
   ·have hpr':=hpr r hr
    unfold hf opf
    have hpw:1 ≤ 10 ^ k:=Nat.pow_pos (by decide)
    rcases qmP hpr' with e | e | e | e | e | e
    ·unfold onW at ho; rw [e] at ho; simp at ho
    ·unfold onW at ho; rw [e] at ho; simp at ho
    ·rw [e]; simp only [if_true]; rw [List.length_append,qfY,hXl,← hkl]
    ·rw [e,if_neg (by decide),if_pos rfl,if_neg (by decide),if_pos rfl,hrtX,hXl]
    ·rw [e,if_neg (by decide),if_neg (by decide),if_pos rfl,if_neg (by decide),if_neg (by decide),if_pos rfl,qsK,hXv]
     have e2:vl 0 f = T * 10 ^ k:=by conv=>lhs; rw [hk]; rw [qsK,hT]
     rw [e2]
     refine qre hpr' (.inl e) ?_ ?_ ?_
     ·have:=Nat.mul_le_mul (show 200 ≤ u by omega) hpw; omega
     ·have:=Nat.mul_le_mul (show 300 ≤ T by omega) hpw; omega
     ·have h1:u % 100 = T % 100:=by omega
      rw [Nat.mul_mod,h1,← Nat.mul_mod]
    ·rw [e,if_neg (by decide),if_neg (by decide),if_neg (by decide),if_neg (by decide),if_neg (by decide),if_neg (by decide),hrtX,hXv,hT]
     exact qre hpr' (.inr e) (by omega) (by omega) (by omega)
theorem qrQ {l:List Relation} (hpr:Pr l) {f:Str} (hf':f.all dgt = true) (h6:f.length ≤ 6):∃ g ∈ qj2 l,(g.length < f.length ∨ (g.length = f.length ∧ lex g f)) ∧ g.all zr = f.all zr ∧ ∀ r ∈ l,onW r = false → hf r g = hf r f:=by
 obtain ⟨w,t,s,h1,h2,h3,h4,h5,h7⟩:=qsU hpr hf' h6
 obtain ⟨k1,k2,k3⟩:=qkY (l:=l) 7 (by omega)
 obtain ⟨_,m1,m2,_⟩:=qk5 h1 h3
 obtain ⟨e,he,e1,e2⟩:=k3 f.length w t s (by omega) h1 h2 h3
 obtain ⟨g1,g2,g3,g4⟩:=k1 e he
 have hs:=qva hpr g2 g3 m2 (by omega) (g1.symm.trans e1)
 refine ⟨e.2,List.mem_map.2 ⟨e,he,rfl⟩,?_,hs.1.trans h5,fun r hr ho=>(hs.2 r hr ho).trans (h7 r hr ho)⟩
 rcases e2 with e2 | ⟨e2,e3⟩
 ·exact .inl (by omega)
 ·exact .inr ⟨by omega,qol e3 h4⟩
theorem qoz {l:List Relation} {s:Str} (h:s ∈ qj2 l):s.all dgt = true ∧ s.length ≤ 6:=by
 obtain ⟨e,he,rfl⟩:=List.mem_map.1 h
 obtain ⟨k1,_,_⟩:=qkY (l:=l) 7 (by omega)
 obtain ⟨_,g2,g3,_⟩:=k1 e he
 exact ⟨g2,g3⟩
theorem qvG {w w' f f':Str} (hf:f'.length < f.length ∨ (f'.length = f.length ∧ lex f' f)) (hw:w'.length < w.length ∨ (w'.length = w.length ∧ lex w' w)):bex (nb w' f') (nb w f):=by
 rcases hf with hf | ⟨hf,hl⟩
 ·right
  unfold bef
  have h1:=qir w' f'
  have h2:=qir w f
  have hfne:f ≠ []:=fun e=>by subst e; simp at hf
  rw [if_neg hfne] at h2
  have h3:(if f' = [] then 0 else f'.length + 1) < f.length + 1:=by split <;> omega
  have hw':w'.length ≤ w.length:=by rcases hw with h | ⟨h,_⟩ <;> omega
  rw [if_neg (by omega),decide_eq_true_eq]
  omega
 ·exact quh hf hw hl
def qmO (l:List Relation):List Str:=((qej l 401).map dd).flatMap fun a=>(qj2 l).map fun f=>nb a f
theorem qqk {l:List Relation} (hpr:Pr l):Cover Dn (Eq1 l) (qmO l):=by
 have hDp:∀ {n:Nat} {f:Str},n ∈ qej l 401 → f ∈ qj2 l → Dp (dd n) f:=by
  intro n f hn hf'
  have h1:=qqR hn
  have h2:=qoz hf'
  exact ⟨qp0 n,by have:=qfz 2 n (by omega); omega,h2.1,h2.2⟩
 refine ⟨fun c hc=>?_,fun x hx=>?_⟩
 ·obtain ⟨a,ha,h2⟩:=List.mem_flatMap.1 hc
  obtain ⟨n,hn,rfl⟩:=List.mem_map.1 ha
  obtain ⟨f,hf',rfl⟩:=List.mem_map.1 h2
  exact ⟨dd n,f,rfl,hDp hn hf'⟩
 ·obtain ⟨w,f,rfl,d⟩:=qqM hx
  obtain ⟨n,hn,hle,hW⟩:=qq7 hpr (vl 0 w)
  obtain ⟨g,hg,hgx,hgz,hF⟩:=qrQ hpr d.hf d.fl
  have hd:=hDp hn hg
  refine ⟨nb (dd n) g,List.mem_flatMap.2 ⟨dd n,List.mem_map.2 ⟨n,hn,rfl⟩,List.mem_map.2 ⟨g,hg,rfl⟩⟩,fun r hr=>?_,?_⟩
  ·rw [qh1 (hpr r hr) hd,qh1 (hpr r hr) d]
   exact qro (fun r hr ho=>by rw [qiu]; exact hW r hr ho) hgz hF r hr
  ·have hww:=qp7 w d.hw
   have:=qtU hle
   rw [hww] at this
   exact qvG hgx this
def nchr (c:UInt8):Bool:=dgt c || c == 46
theorem qpq {N:Nat} {c:UInt8} (h:nchr c = true):qey N (c.toNat:Int) = some (if c = 46 then 10 else (c.toNat:Int) - 48):=by
 unfold qey
 by_cases hc:c = 46
 ·subst hc; rfl
 ·have hd:dgt c = true:=by
   unfold nchr at h
   rw [show (c == 46) = false by simp [hc],Bool.or_false] at h
   exact h
  have hr:=qeO.1 hd
  rw [if_neg hc,beq_eq_false_iff_ne.2 (show (c.toNat:Int) ≠ 46 by omega),cond_false,decide_eq_false (show ¬ (c.toNat:Int) < 48 by omega),cond_false,decide_eq_false (show ¬ (c.toNat:Int) > 57 by omega),cond_false]
  rw [qeM (qoe.2 ⟨by omega,by omega⟩)]
theorem qs5 {N:Nat} {s t:Str} (hs:s.all nchr = true) (ht:t.all nchr = true) (hN:s.length < N):qfe N s t = some (bef s t):=by
 unfold qfe bef
 by_cases hl:s.length = t.length
 ·rw [if_pos hl,show ((s.length:Int) != (t.length:Int)) = false by simp [hl],cond_false]
  have key:∀ (j k:Nat) (M:Nat),k + j = s.length → j < M → iter (fun x=>qcS N s t x) M (k:Int) = some (if s.drop k = t.drop k then .inl () else .inr (lx (s.drop k) (t.drop k))):=by
   intro j
   induction j with
   | zero =>
    intro k M hk hM
    obtain ⟨M,rfl⟩:∃ K,M = K + 1:=⟨M - 1,by omega⟩
    have e1:s.drop k = []:=List.drop_eq_nil_of_le (by omega)
    have e2:t.drop k = []:=List.drop_eq_nil_of_le (by omega)
    obtain rfl:k = s.length:=by omega
    rw [iter,e1,e2]
    unfold qcS
    simp only [dnlt,cond_false,if_true]
   | succ j ih =>
    intro k M hk hM
    obtain ⟨M,rfl⟩:∃ K,M = K + 1:=⟨M - 1,by omega⟩
    have h1:k < s.length:=by omega
    have h2:k < t.length:=by omega
    have i1:=qaz (List.getElem?_eq_getElem h1)
    have i2:=qaz (List.getElem?_eq_getElem h2)
    have n1:=List.all_eq_true.1 hs _ (List.getElem_mem h1)
    have n2:=List.all_eq_true.1 ht _ (List.getElem_mem h2)
    have hb:qcS N s t (k:Int) = some (if s[k] = t[k] then .inl ((k:Int) + 1) else .inr (.inr (decide (ky s[k] < ky t[k])))):=by
     unfold qcS
     simp only [dlt h1,cond_true,i1,i2,Option.bind_some]
     by_cases e:s[k] = t[k]
     ·rw [show (((s[k].toNat:Int)) != (t[k].toNat:Int)) = false by simp [e],cond_false,if_pos e]
     ·have hne:s[k].toNat ≠ t[k].toNat:=fun h=>e (UInt8.toNat_inj.1 h)
      rw [show (((s[k].toNat:Int)) != (t[k].toNat:Int)) = true by rw [bne_iff_ne]; omega,cond_true]
      rw [if_neg e,qpq n1,qpq n2]
      simp only [Option.bind_some]
      have dd1:s[k] ≠ 46 → 48 ≤ s[k].toNat ∧ s[k].toNat ≤ 57:=by
       intro h
       unfold nchr at n1
       rw [show (s[k] == 46) = false by simp [h],Bool.or_false] at n1
       exact qeO.1 n1
      have dd2:t[k] ≠ 46 → 48 ≤ t[k].toNat ∧ t[k].toNat ≤ 57:=by
       intro h
       unfold nchr at n2
       rw [show (t[k] == 46) = false by simp [h],Bool.or_false] at n2
       exact qeO.1 n2
      congr 3
      unfold ky
      by_cases ha:s[k] = 46
      ·have hb:t[k] ≠ 46:=fun h=>e (by rw [ha,h])
       have:=dd2 hb
       rw [if_pos ha,if_neg hb,if_pos ha,if_neg hb]
       exact decide_eq_decide.2 (by omega)
      ·have:=dd1 ha
       by_cases hb:t[k] = 46
       ·rw [if_neg ha,if_pos hb,if_neg ha,if_pos hb]
        exact decide_eq_decide.2 (by omega)
       ·have:=dd2 hb
        rw [if_neg ha,if_neg hb,if_neg ha,if_neg hb]
        exact decide_eq_decide.2 (by omega)
    rw [iter,List.drop_eq_getElem_cons h1,List.drop_eq_getElem_cons h2]
    rw [hb]
    by_cases e:s[k] = t[k]
    ·rw [if_pos e]
     simp only
     rw [show ((k:Int) + 1) = ((k + 1:Nat):Int) by omega,ih (k + 1) M (by omega) (by omega),lx,if_pos e,e]
     simp only [List.cons.injEq,true_and]
    ·rw [if_neg e,if_neg (show ¬ (s[k] :: s.drop (k + 1) = t[k] :: t.drop (k + 1)) from fun h=>e (List.cons.inj h).1),lx,if_neg e]
  have:=key s.length 0 N (by omega) hN
  rw [show ((0:Nat):Int) = 0 from rfl,List.drop_zero,List.drop_zero] at this
  rw [this]
  by_cases e:s = t
  ·subst e; simp [qmY]
  ·rw [if_neg e]; rfl
 ·rw [if_neg hl,show ((s.length:Int) != (t.length:Int)) = true by rw [bne_iff_ne]; omega,cond_true]
  congr 1
  exact decide_eq_decide.2 (by omega)
theorem qvi {w f:Str} (d:Dp w f):(nb w f).all nchr = true:=by
 have hd:∀ {x:Str},x.all dgt = true → x.all nchr = true:=by
  intro x hx
  rw [List.all_eq_true] at hx ⊢
  intro c hc
  unfold nchr
  rw [hx c hc]
  rfl
 unfold nb
 rw [List.all_append,hd d.hw.1,Bool.true_and]
 split
 ·rfl
 ·rw [List.all_cons,hd d.hf]; rfl
theorem qsZ {x:Str} (h:Dn x):x.all nchr = true ∧ x.length ≤ 30 ∧ vld x = true:=by
 obtain ⟨w,f,rfl,d⟩:=h
 have h1:=qir w f
 have:=d.wl
 have:=d.fl
 exact ⟨qvi d,by split at h1 <;> omega,(qqm d).1⟩
def cnt (bs:List Bool):Nat:=(bs.filter id).length
def gp (p:Int) (bs:List Bool):Bool:=if p = 0 then decide (0 < cnt bs) else if p = 1 then cnt bs == 0 else if p = 2 then cnt bs == 2 else cnt bs == 1
def PP (p:Int) (cs:List Cnd) (x:Str):Bool:=gp p (cs.map fun c=>hd x c)
theorem qth {cs:List Cnd} {c:Cnd} {l:List Relation} {r:Relation} (hc:c ∈ cs) (hl:l ∈ c) (hr:r ∈ l):r ∈ rels cs :=
 List.mem_flatMap.2 ⟨c,hc,List.mem_flatten.2 ⟨l,hl,hr⟩⟩
theorem qrt {p:Int} {cs:List Cnd} {x y:Str} (h:Eq1 (rels cs) x y):PP p cs x = PP p cs y:=by
 unfold PP
 congr 1
 refine List.map_congr_left fun c hc=>?_
 exact qtM fun l hl r hr=>(h r (qth hc hl hr))
theorem qvX {c:Cnd} (hp0:∀ l ∈ c,∀ r ∈ l,prp r = true) {w f:Str} (d:Dp w f):hdp c w f = hd (nb w f) c:=by
 unfold hdp hd
 have e:∀ l ∈ c,(l.all fun r=>hp r w f) = l.all (hold (nb w f)):=by
  intro l hl
  rw [Bool.eq_iff_iff,List.all_eq_true,List.all_eq_true]
  exact ⟨fun k r hr=>by rw [qh1 (hp0 l hl r hr) d]; exact k r hr,fun k r hr=>by have:=k r hr; rw [qh1 (hp0 l hl r hr) d] at this; exact this⟩
 rw [Bool.eq_iff_iff,List.any_eq_true,List.any_eq_true]
 exact ⟨fun ⟨l,hl,k⟩=>⟨l,hl,by rw [← e l hl]; exact k⟩,fun ⟨l,hl,k⟩=>⟨l,hl,by rw [e l hl]; exact k⟩⟩
theorem qls {p:Int} {cs:List Cnd} (hpr:Pr (rels cs)) (hl:(rels cs).length ≤ 60):fstW (PP p cs) (qgO (rels cs)) = fstW (PP p cs) (qmO (rels cs)) ∧ First Dn (PP p cs) (fstW (PP p cs) (qgO (rels cs))):=by
 have h1:=(qqV hpr hl).first (P:=PP p cs) (fun s t _ _ h=>qrt h)
 have h2:=(qqk hpr).first (P:=PP p cs) (fun s t _ _ h=>qrt h)
 exact ⟨h1.uniq h2,h1⟩
theorem qtc {N:Nat} {cs:List Cnd} (hv:∀ c ∈ cs,vd c = true) (S:∀ c ∈ cs,Sz N c) (hc:cs.length ≤ 1000) (hN:20000000 ≤ N) {x:Str} (hx:x.length ≤ 1000) (hxv:vld x = true) (p:Int):qfI N cs x p = some (PP p cs x):=by
 unfold qfI
 have hh:=qaT (body:=fun t=>qcB N cs x t.1 t.2) (σ:=Nat) (fun n k=>((n:Int),k)) cs (fun n c=>.inl (if hd x c then n + 1 else n)) (fun n=>(n:Int)) (fun k n=>n ≤ k) (fun n k c hk hI=>?_) (fun n hI=>?_) N 0 (by omega) (Nat.le_refl _)
 ·have e:∀ (xs:List Cnd) (n:Nat),run (σ:=Nat) (β:=Int) (fun n c=>.inl (if hd x c then n + 1 else n)) (fun n=>(n:Int)) n xs = ((n + cnt (xs.map fun c=>hd x c):Nat):Int):=by
   intro xs
   induction xs with
   | nil=>intro n; rfl
   | cons y ys ih =>
    intro n
    rw [run]
    simp only
    rw [ih]
    unfold cnt
    rw [List.map_cons,List.filter_cons]
    cases hd x y <;> simp <;> omega
  rw [e,Nat.zero_add] at hh
  rw [show ((0:Int),(0:Int)) = (((0:Nat):Int),0) from rfl,hh]
  unfold PP gp
  generalize cnt (cs.map fun c=>hd x c) = m
  simp only [Option.bind_some]
  by_cases h0:p = 0
  ·subst h0
   simp only [beq_self_eq_true,cond_true,if_true]
   congr 1
   exact decide_eq_decide.2 (by omega)
  ·rw [beq_eq_false_iff_ne.2 h0,cond_false,if_neg h0]
   have hb:∀ k:Nat,((m:Int) == (k:Int)) = (m == k):=fun k=>by rw [Bool.eq_iff_iff,beq_iff_eq,beq_iff_eq]; omega
   by_cases h1:p = 1
   ·subst h1
    simp only [beq_self_eq_true,cond_true,if_true]
    rw [← hb 0]; rfl
   ·rw [beq_eq_false_iff_ne.2 h1,cond_false,if_neg h1]
    by_cases h2:p = 2
    ·subst h2
     simp only [beq_self_eq_true,cond_true,if_true]
     rw [← hb 2]; rfl
    ·rw [beq_eq_false_iff_ne.2 h2,cond_false,if_neg h2]
     rw [← hb 1]; rfl
 ·have hm:=List.mem_of_getElem? hk
  have hlt:=qbv hk
  constructor
  ·show qcB N cs x (n:Int) k = _
   unfold qcB
   simp only [dltx hk,cond_true,qaz hk,Option.bind_some]
   rw [qp4 (S c hm) hx]
   unfold hr
   rw [hv c hm,hxv]
   simp only [Bool.and_self,if_true,Option.bind_some]
   have hw:IntKind.wrap .i64 ((n:Int) + 1) = ((n + 1:Nat):Int):=by rw [qfr (by omega) (by omega)]; omega
   rw [hw]
   cases hd x c <;> rfl
  ·intro s' h
   simp only [Sum.inl.injEq] at h
   subst h
   split <;> omega
 ·show qcB N cs x (n:Int) cs.length = _
  unfold qcB
  simp only [dnlt,cond_false]
theorem quI {N:Nat} {c:Cnd} (hN:c.length < N) (hl:c.flatten.length ≤ 4000000000):qgt N c = some c.flatten:=by
 unfold qgt
 have hh:=qaT (body:=fun t=>qcz N c t.1 t.2) (σ:=Nat) (fun i k=>((c.take i).flatten,k)) c (fun i _=>.inl (i + 1)) (fun i=>(c.take i).flatten) (fun k i=>i = k) (fun i k x hk hi=>?_) (fun i hi=>?_) N 0 hN rfl
 ·rw [qe2,Nat.zero_add,List.take_length] at hh
  show (iter (fun t=>qcz N c t.1 t.2) N ((c.take 0).flatten,0)).bind _ = _
  rw [hh]
  rfl
 ·subst hi
  have e:(c.take (i + 1)).flatten = (c.take i).flatten ++ x:=by rw [List.take_add_one,hk,List.flatten_append]; simp
  have hle:((c.take i).flatten ++ x).length ≤ c.flatten.length:=by
   rw [← e]
   conv=>rhs; rw [← List.take_append_drop (i + 1) c,List.flatten_append,List.length_append]
   omega
  rw [List.length_append] at hle
  constructor
  ·show qcz N c (c.take i).flatten i = _
   unfold qcz
   simp only [dltx hk,cond_true,qaz hk,Option.bind_some]
   rw [qdJ (by omega),e]
   rfl
  ·intro s' h
   cases h; rfl
 ·subst hi
  show qcz N c (c.take c.length).flatten c.length = _
  unfold qcz
  simp only [dnlt,cond_false]
def fd (b:Option Str):Str:=b.getD []
def isf (b:Option Str):Bool:=b.isSome
theorem qqZ {N:Nat} {cs:List Cnd} (hv:∀ c ∈ cs,vd c = true) (S:∀ c ∈ cs,Sz N c) (hc:cs.length ≤ 1000) (hN:20000000 ≤ N) (p:Int) (ws fs:List Str) (hd':∀ a ∈ ws,∀ f ∈ fs,Dp a f) (hal:ws.length ≤ 100000) (hfl:fs.length ≤ 100000) :
  iter (fun t=>qdl N cs p ws fs t.1 t.2.1 t.2.2) N ([],false,0) = some (fd (fstW (PP p cs) (ws.flatMap fun a=>fs.map fun f=>nb a f)),isf (fstW (PP p cs) (ws.flatMap fun a=>fs.map fun f=>nb a f))):=by
 have inner:∀ (i:Nat) (a:Str),ws[i]? = some a → ∀ b:Option Str,(∀ x,b = some x → Dn x) → iter (fun t=>qdh N cs p ws fs i t.1 t.2.1 t.2.2) N (fd b,isf b,0) = some (fd ((fs.map fun f=>nb a f).foldl (fst1 (PP p cs)) b),isf ((fs.map fun f=>nb a f).foldl (fst1 (PP p cs)) b)):=by
  intro i a ha b hb
  have ham:=List.mem_of_getElem? ha
  have hh:=qaT (body:=fun t=>qdh N cs p ws fs i t.1 t.2.1 t.2.2) (σ:=Option Str) (fun b k=>(fd b,isf b,k)) fs (fun b s=>.inl (fst1 (PP p cs) b (nb a s))) (fun b=>(fd b,isf b)) (fun _ b=>∀ x,b = some x → Dn x) (fun b k s hk hb=>?_) (fun b _=>?_) N b (by omega) hb
  ·rw [hh,qhG,List.foldl_map]
  ·have hsm:=List.mem_of_getElem? hk
   have hD:Dn (nb a s):=⟨a,s,rfl,hd' a ham s hsm⟩
   obtain ⟨c1,c2,c3⟩:=qsZ hD
   have d:=hd' a ham s hsm
   have hwl:=d.wl
   have hsl:=d.fl
   constructor
   ·dsimp only
    unfold qdh
    simp only [dltx hk,cond_true,qaz hk,qaz ha,Option.bind_some]
    have htx:(bif (s != []) then (cat [46] s).bind fun s114=>(cat a s114).bind fun s116=>some s116 else some a) = some (nb a s):=by
     unfold nb
     cases s with
     | nil=>simp
     | cons c t =>
      rw [show ((c :: t:Str) != []) = true from rfl,cond_true,qc0 (by simp only [List.length_cons,List.length_nil] at *; omega)]
      simp only [Option.bind_some]
      rw [qc0 (by simp only [List.length_append,List.length_cons,List.length_nil] at *; omega)]
      rfl
    rw [htx]
    simp only [Option.bind_some]
    rw [qtc hv S hc hN (by omega) c3]
    simp only [Option.bind_some]
    cases b with
    | none =>
     rw [qku,show isf none = false from rfl]
     simp only [Bool.not_false,cond_true]
     cases PP p cs (nb a s) <;> rfl
    | some x =>
     obtain ⟨e1,e2,e3⟩:=qsZ (hb x rfl)
     rw [qkD,show isf (some x) = true from rfl,show fd (some x) = x from rfl]
     simp only [Bool.not_true,cond_false]
     rw [qs5 c1 e1 (by omega)]
     simp only [Option.bind_some]
     cases bef (nb a s) x <;> cases PP p cs (nb a s) <;> rfl
   ·intro b' h x hx
    simp only [Sum.inl.injEq] at h
    subst h
    rcases qio hx with rfl | hx
    ·exact hD
    ·exact hb x hx
  ·dsimp only
   unfold qdh
   simp only [dnlt,cond_false]
 have small:∀ (a:Str),a ∈ ws → ∀ (ss:List Str),(∀ s ∈ ss,s ∈ fs) → ∀ b:Option Str,(∀ x,b = some x → Dn x) → ∀ x,(ss.map fun f=>nb a f).foldl (fst1 (PP p cs)) b = some x → Dn x:=by
  intro a ham ss
  induction ss with
  | nil=>intro _ b hb x hx; exact hb x hx
  | cons s ss ih =>
   intro hs b hb
   refine ih (fun t ht=>hs t (by simp [ht])) (fst1 (PP p cs) b (nb a s)) (fun x hx=>?_)
   rcases qio hx with rfl | hx
   ·exact ⟨a,s,rfl,hd' a ham s (hs s (by simp))⟩
   ·exact hb x hx
 have hh:=qaT (body:=fun t=>qdl N cs p ws fs t.1 t.2.1 t.2.2) (σ:=Option Str) (fun b k=>(fd b,isf b,k)) ws (fun b a=>.inl ((fs.map fun f=>nb a f).foldl (fst1 (PP p cs)) b)) (fun b=>(fd b,isf b)) (fun _ b=>∀ x,b = some x → Dn x) (fun b k a hk hb=>?_) (fun b _=>?_) N none (by omega) (fun x h=>by cases h)
 ·have e:∀ (ns:List Str) (b:Option Str),run (β:=Str × Bool) (fun b a=>.inl ((fs.map fun f=>nb a f).foldl (fst1 (PP p cs)) b)) (fun b=>(fd b,isf b)) b ns = (fd ((ns.flatMap fun a=>fs.map fun f=>nb a f).foldl (fst1 (PP p cs)) b),isf ((ns.flatMap fun a=>fs.map fun f=>nb a f).foldl (fst1 (PP p cs)) b)):=by
   intro ns
   induction ns with
   | nil=>intro b; rfl
   | cons n ns ih=>intro b; rw [run]; simp only; rw [ih,List.flatMap_cons,List.foldl_append]
  rw [e] at hh
  rw [show (([]:Str),false,(0:Int)) = (fd none,isf none,0) from rfl,hh]
  rfl
 ·constructor
  ·dsimp only
   unfold qdl
   simp only [dltx hk,cond_true]
   rw [inner k a hk b hb]
   rfl
  ·intro b' h
   simp only [Sum.inl.injEq] at h
   subst h
   exact small a (List.mem_of_getElem? hk) fs (fun s hs=>hs) b hb
 ·dsimp only
  unfold qdl
  simp only [dnlt,cond_false]
theorem qmZ {N:Nat} {cs:List Cnd} (SL:Sl N (rels cs)) (hv:∀ c ∈ cs,vd c = true) (S:∀ c ∈ cs,Sz N c) (hc:cs.length ≤ 1000) (hcN:∀ c ∈ cs,c.length < N) (p:Int):qcQ N cs p = some (fd (fstW (PP p cs) (qmO (rels cs))),isf (fstW (PP p cs) (qmO (rels cs)))):=by
 have hN:=SL.n
 have hl:=SL.len
 unfold qcQ
 have hh:=qaT (body:=fun t=>qb0 N cs t.1 t.2) (σ:=Nat) (fun i k=>(rels (cs.take i),k)) cs (fun i _=>.inl (i + 1)) (fun i=>rels (cs.take i)) (fun k i=>i = k) (fun i k c hk hi=>?_) (fun i hi=>?_) N 0 (by omega) rfl
 ·rw [qe2,Nat.zero_add,List.take_length] at hh
  show (iter (fun t=>qb0 N cs t.1 t.2) N (rels (cs.take 0),0)).bind _ = _
  rw [hh]
  simp only [Option.bind_some]
  rw [qr1 SL]
  simp only [Option.bind_some]
  rw [qpF SL]
  simp only [Option.bind_some]
  have hal:((qej (rels cs) 401).map dd).length ≤ 100000:=by
   have:=qiJ (vw (rels cs)) (List.range 401) []
   rw [List.length_range,List.length_nil] at this
   rw [List.length_map]
   unfold qej; omega
  have hfl:(qj2 (rels cs)).length ≤ 100000:=by
   obtain ⟨_,k2,_⟩:=qkY (l:=rels cs) 7 (by omega)
   unfold qj2
   rw [List.length_map]
   omega
  rw [qqZ hv S hc hN p _ _ (fun a ha f hf'=>?_) hal hfl]
  ·unfold qmO
   simp only [Option.bind_some]
  ·obtain ⟨n,hn,rfl⟩:=List.mem_map.1 ha
   have h1:=qqR hn
   have h2:=qoz hf'
   exact ⟨qp0 n,by have:=qfz 2 n (by omega); omega,h2.1,h2.2⟩
 ·subst hi
  have hlt:=qbv hk
  constructor
  ·show qb0 N cs (rels (cs.take i)) i = _
   unfold qb0
   simp only [dltx hk,cond_true,qaz hk,Option.bind_some]
   have hroom:=qhM cs i c hk
   rw [quI (hcN c (List.mem_of_getElem? hk)) (by omega)]
   simp only [Option.bind_some]
   rw [qdJ (by omega)]
   simp only [Option.bind_some]
   have e:rels (cs.take (i + 1)) = rels (cs.take i) ++ c.flatten:=by
    rw [List.take_add_one,hk]
    unfold rels
    rw [List.flatMap_append]
    simp
   rw [e]
  ·intro s' h
   cases h; rfl
 ·subst hi
  show qb0 N cs (rels (cs.take cs.length)) cs.length = _
  unfold qb0
  simp only [dnlt,cond_false]
def COk (c:Cnd):Prop:=∀ l ∈ c,l.length ≤ reachBytes
theorem qoG (R:Nat):∀ d:Cnd,(∀ l ∈ d,l.length ≤ R) → d.flatten.length ≤ d.length * R
 | [],_=>by simp
 | l :: d,h=>by
  have h1:=h l (by simp)
  have h2:=qoG R d (fun m hm=>h m (by simp [hm]))
  rw [List.flatten_cons,List.length_append,List.length_cons,Nat.add_mul]
  omega
theorem qvQ {c:Cnd} (hv:vd c = true) (h30:c.length ≤ 30) (hc:COk c):c.flatten.length ≤ 6:=by
 have e:tot c = (c.flatten.length:Int):=by
  unfold tot
  rw [List.length_flatten]
  induction c with
  | nil=>rfl
  | cons l c ih =>
   rw [List.map_cons,List.sum_cons,List.map_cons,List.sum_cons]
   have:(c.map fun l=>(l.length:Int)).sum = (((c.map List.length).sum:Nat):Int):=by
    clear ih hv h30 hc
    induction c with
    | nil=>rfl
    | cons l c ih=>rw [List.map_cons,List.sum_cons,List.map_cons,List.sum_cons,ih]; omega
   rw [this]
   omega
 have hb:c.flatten.length ≤ 10000000000000000:=by
  have h0:=qoG reachBytes c hc
  have h1:=Nat.mul_le_mul_right reachBytes h30
  have h2:reachBytes ≤ 140737488355328:=by unfold reachBytes; omega
  have h3:=Nat.mul_le_mul_left 30 h2
  exact Nat.le_trans h0 (Nat.le_trans h1 (Nat.le_trans h3 (by decide)))
 unfold vd at hv
 simp only [Bool.and_eq_true,decide_eq_true_eq] at hv
 have h6:=hv.2.2
 rw [e,qeM (qf3.2 ⟨by omega,by omega⟩)] at h6
 omega
theorem qoX {cs:List Cnd} (hv:∀ c ∈ cs,vd c = true) (h30:∀ c ∈ cs,c.length ≤ 30) (hc:∀ c ∈ cs,COk c) (h10:cs.length ≤ 10):Pr (rels cs) ∧ (rels cs).length ≤ 60:=by
 constructor
 ·intro r hr
  obtain ⟨c,hc',h⟩:=List.mem_flatMap.1 hr
  obtain ⟨l,hl,h2⟩:=List.mem_flatten.1 h
  exact qsR (hv c hc') l hl r h2
 ·have key:∀ ds:List Cnd,(∀ c ∈ ds,c.flatten.length ≤ 6) → (rels ds).length ≤ 6 * ds.length:=by
   intro ds
   induction ds with
   | nil=>intro _; simp [rels]
   | cons d ds ih =>
    intro h
    have h1:=h d (by simp)
    have h2:=ih (fun c hc=>h c (by simp [hc]))
    have e:rels (d :: ds) = d.flatten ++ rels ds:=by unfold rels; rw [List.flatMap_cons]
    rw [e,List.length_append,List.length_cons]
    omega
  have:=key cs (fun c hc'=>qvQ (hv c hc') (h30 c hc') (hc c hc'))
  omega
theorem qrI {l:List Relation} {n:Nat} {s:Str} (hn:n ∈ qgN l) (hs:s ∈ qgP l):Dp (dd n) s:=qqQ hn hs
theorem qoS {cs:List Cnd} (hv:∀ c ∈ cs,vd c = true) {w f:Str} (d:Dp w f):(cs.map fun c=>hdp c w f) = cs.map fun c=>hd (nb w f) c :=
 List.map_congr_left fun c hc=>qvX (qsR (hv c hc)) d
theorem qkA {N:Nat} {l:List Cnd} (S:Cs N l):qg1 N l = some (l.all vd && decide (l.length ≤ 10)):=by
 unfold qg1
 rw [qhQ (body:=fun s=>qft N l s) vd l (fun k x hk=>?_) ?_ N S.len]
 ·have e:decide ((l.length:Int) ≤ 10) = decide (l.length ≤ 10):=decide_eq_decide.2 (by omega)
  rw [e]
  cases l.all vd <;> rfl
 ·unfold qft
  simp only [dnlt,cond_false]
 ·unfold qft
  simp only [dltx hk,cond_true,qaz hk,Option.bind_some,qnY (S.s x (List.mem_of_getElem? hk))]
  cases vd x <;> rfl
end Go.Proofs.YtboacfcnmhnbdaaGreatDoor
namespace Go.Proofs.YtboacfcnmhnbdaaGreatDoor
open Go.X
theorem qq9 {N:Nat} {l:List Cnd} (S:Cs N l):qcR N l = some (l.all vd && decide (l.length ≤ 10)):=by
 unfold qcR
 rw [qhQ (body:=fun s=>qb4 N l s) vd l (fun k x hk=>?_) ?_ N S.len]
 ·have e:decide ((l.length:Int) ≤ 10) = decide (l.length ≤ 10):=decide_eq_decide.2 (by omega)
  rw [e]
  cases l.all vd <;> rfl
 ·unfold qb4
  simp only [dnlt,cond_false]
 ·unfold qb4
  simp only [dltx hk,cond_true,qaz hk,Option.bind_some,qjh (S.s x (List.mem_of_getElem? hk))]
  cases vd x <;> rfl
theorem qta (N:Nat) (b:Bool):qdk N ([b]:List Bool) = some (gp 0 [b]):=by cases b <;> rfl
theorem qrR {N:Nat} {c:Cnd} (S:Cs N [c]) (hv:vd c = true) (h30:c.length ≤ 30) (hc:COk c) (hN:20000000 ≤ N) (hcN:c.length < N) :
  ∃ r:Option Str,qc7 N c = some (fd r,isf r,0) ∧ qdf N c = some (fd r,isf r,0) ∧ First Dn (PP 0 [c]) r:=by
 have hvs:∀ d ∈ [c],vd d = true:=fun d hd'=>by simp at hd'; subst hd'; exact hv
 obtain ⟨h1,h2⟩:=qoX hvs (fun d hd'=>by simp at hd'; subst hd'; exact h30) (fun d hd'=>by simp at hd'; subst hd'; exact hc) (show [c].length ≤ 10 by simp)
 have SL:Sl N (rels [c]):=⟨h1,h2,hN⟩
 have hcs:∀ d ∈ [c],d.length < N:=fun d hd'=>by simp at hd'; subst hd'; exact hcN
 obtain ⟨b1,b2⟩:=qls (p:=0) h1 h2
 have e1:=qrU SL (by simp) hcs (PP 0 [c]) (fun n hn s hs=>by
  have d:=qrI hn hs
  rw [qoS hvs d]
  exact qta N (hd (nb (dd n) s) c))
 have e2:=qmZ SL hvs (fun d hd'=>S.s d hd') (by simp) hcs 0
 rw [← b1] at e2
 have v1:=qnY (S.s c (by simp))
 have v2:=qq9 S
 revert e1 e2 b2
 generalize fstW (PP 0 [c]) (qgO (rels [c])) = r
 intro b2 e1 e2
 refine ⟨r,?_,?_,b2⟩
 ·unfold qc7
  rw [v1,hv,Option.bind_some,Bool.not_true,cond_false,e1]
  rfl
 ·unfold qdf
  rw [v2,Option.bind_some]
  simp only [List.all_cons,List.all_nil,hv,Bool.and_true,List.length_singleton,show decide (1 ≤ 10) = true from rfl,Bool.not_true,cond_false]
  rw [e2]
  rfl
theorem qpt {N:Nat} {l:List Cnd} (S:Cs N l):qcR N l = some (l.all vd && decide (l.length ≤ 10)):=by
 unfold qcR
 rw [qhQ (body:=fun s=>qb4 N l s) vd l (fun k x hk=>?_) ?_ N S.len]
 ·have e:decide ((l.length:Int) ≤ 10) = decide (l.length ≤ 10):=decide_eq_decide.2 (by omega)
  rw [e]
  cases l.all vd <;> rfl
 ·unfold qb4
  simp only [dnlt,cond_false]
 ·unfold qb4
  simp only [dltx hk,cond_true,qaz hk,Option.bind_some,qjh (S.s x (List.mem_of_getElem? hk))]
  cases vd x <;> rfl
theorem qu6 (bs:List Bool):(bs.all fun b=>!b) = (cnt bs == 0):=by
 induction bs with
 | nil=>rfl
 | cons b bs ih =>
  unfold cnt at ih ⊢
  rw [List.all_cons,ih,List.filter_cons]
  cases b <;> simp
theorem qtI {N:Nat} {bs:List Bool} (h:bs.length < N):qex N bs = some (gp 1 bs):=by
 unfold qex
 rw [qhQ (body:=fun s=>qeN N bs s) (fun b=>!b) bs (fun k x hk=>?_) ?_ N h]
 ·rw [show gp 1 bs = (cnt bs == 0) from rfl,← qu6]
  cases (bs.all fun b=>!b) <;> rfl
 ·unfold qeN
  simp only [dnlt,cond_false]
 ·unfold qeN
  simp only [dltx hk,cond_true,qaz hk,Option.bind_some]
  cases x <;> rfl
theorem qrA {N:Nat} {l:List Cnd} (S:Cs N l) (hv:∀ c ∈ l,vd c = true) (h10:l.length ≤ 10) (SL:Sl N (rels l)) :
  ∃ r:Option Str,qfi N l = some (fd r,!isf r,0) ∧ qeK N l = some (fd r,!isf r,0) ∧ First Dn (PP 1 l) r:=by
 have hN:=SL.n
 obtain ⟨b1,b2⟩:=qls (p:=1) SL.p SL.len
 have hcs:∀ d ∈ l,d.length < N:=fun d hd'=>(S.s d hd').len
 have e1:=qrT SL (by omega) hcs (PP 1 l) (fun n hn s hs=>by
  have d:=qrI hn hs
  rw [qoS hv d]
  exact qtI (by rw [List.length_map]; omega))
 have e2:=qmZ SL hv (fun d hd'=>S.s d hd') (by omega) hcs 1
 rw [← b1] at e2
 have v1:=qkA S
 have v2:=qpt S
 have hal:(l.all vd && decide (l.length ≤ 10)) = true:=by rw [Bool.and_eq_true,List.all_eq_true,decide_eq_true_eq]; exact ⟨hv,h10⟩
 rw [hal] at v1 v2
 revert e1 e2 b2
 generalize fstW (PP 1 l) (qgO (rels l)) = r
 intro b2 e1 e2
 refine ⟨r,?_,?_,b2⟩
 ·unfold qfi
  rw [v1,Option.bind_some,Bool.not_true,cond_false,e1]
  rfl
 ·unfold qeK
  rw [v2,Option.bind_some,Bool.not_true,cond_false,e2]
  rfl
theorem qon {α β:Type} {body:(List β × Int) → Option ((List β × Int) ⊕ List β)} (xs:List α) (g:α → β) (hl:xs.length ≤ 1000)
  (h1:∀ (k:Nat) x (acc:List β),xs[k]? = some x → acc.length ≤ 1000 → body (acc,(k:Int)) = some (.inl (acc ++ [g x],(k:Int) + 1))) (h2:∀ acc,body (acc,(xs.length:Int)) = some (.inr acc)) (N:Nat) (hN:xs.length < N) :
  iter body N ([],0) = some (xs.map g):=by
 have e:∀ (ys:List α) (acc:List β),run (σ:=List β) (β:=List β) (fun acc x=>.inl (acc ++ [g x])) id acc ys = acc ++ ys.map g:=by
  intro ys
  induction ys with
  | nil=>intro acc; simp [run]
  | cons y ys ih=>intro acc; rw [run]; simp only; rw [ih]; simp
 have hh:=qaT (body:=body) (σ:=List β) (fun acc k=>(acc,k)) xs (fun acc x=>.inl (acc ++ [g x])) id (fun k acc=>acc.length = k) (fun acc k x hk hI=>?_) (fun acc _=>h2 acc) N [] hN rfl
 ·rw [hh,e]; rfl
 ·have hlt:=qbv hk
  refine ⟨h1 k x acc hk (by omega),fun s' h=>?_⟩
  simp only [Sum.inl.injEq] at h
  subst h
  simp [hI]
def fo {β:Type}:Option β → Unit ⊕ β | some b=>.inr b | none=>.inl ()
def fi {β:Type}:Option β → Nat → Int ⊕ (Unit ⊕ β) | some b,_=>.inr (.inr b) | none,k=>.inl ((k:Int) + 1)
def up {β:Type} (g:Nat → Option β):Nat → Nat → Option β
 | _,0=>none
 | k,j + 1=>match g k with | some b=>some b | none=>up g (k + 1) j
theorem qpe {β:Type} {g:Nat → Option β}:∀ {j k:Nat} {b:β},up g k j = some b → ∃ m,k ≤ m ∧ m < k + j ∧ g m = some b
 | 0,_,_,h=>by cases h
 | j + 1,k,b,h=>by
  rw [up] at h
  cases hg:g k with
  | some c=>rw [hg] at h; exact ⟨k,Nat.le_refl _,by omega,by rw [hg]; exact h⟩
  | none =>
   rw [hg] at h
   obtain ⟨m,h1,h2,h3⟩:=qpe h
   exact ⟨m,by omega,by omega,h3⟩
theorem qni {β:Type} {body:Int → Option (Int ⊕ (Unit ⊕ β))} (n:Nat) (g:Nat → Option β) (h1:∀ k:Nat,k < n → body (k:Int) = some (fi (g k) k)) (h2:body (n:Int) = some (.inr (.inl ()))) :
  ∀ j k N:Nat,k + j = n → j < N → iter body N (k:Int) = some (fo (up g k j)):=by
 intro j
 induction j with
 | zero =>
  intro k N hk hN
  obtain ⟨M,rfl⟩:∃ M,N = M + 1:=⟨N - 1,by omega⟩
  obtain rfl:k = n:=by omega
  rw [iter,h2,up]
  rfl
 | succ j ih =>
  intro k N hk hN
  obtain ⟨M,rfl⟩:∃ M,N = M + 1:=⟨N - 1,by omega⟩
  rw [iter,h1 k (by omega),up]
  cases g k with
  | some b=>rfl
  | none =>
   simp only [fi]
   rw [show ((k:Int) + 1) = ((k + 1:Nat):Int) by omega,ih (k + 1) M (by omega) (by omega)]
theorem qu3 (N:Nat) (x y:Bool):qd1 N ([x,y]:List Bool) = some (gp 2 [x,y]):=by cases x <;> cases y <;> rfl
def rr (a b:Cnd):Option Str:=fstW (PP 2 [a,b]) (qgO (rels [a,b]))
structure Two (N:Nat) (a b:Cnd):Prop where
 c:Cs N [a,b]
 v:∀ d ∈ [a,b],vd d = true
 s:Sl N (rels [a,b])
theorem Two.of {N:Nat} {l:List Cnd} (S:Cs N l) (hv:∀ c ∈ l,vd c = true) (h30:∀ c ∈ l,c.length ≤ 30) (hc:∀ c ∈ l,COk c) (hN:20000000 ≤ N) {a b:Cnd} (ha:a ∈ l) (hb:b ∈ l):Two N a b:=by
 have k:∀ {p:Cnd → Prop},(∀ c ∈ l,p c) → ∀ d ∈ [a,b],p d:=by
  intro p h d hd'
  simp only [List.mem_cons,List.not_mem_nil,or_false] at hd'
  rcases hd' with rfl | rfl
  ·exact h _ ha
  ·exact h _ hb
 obtain ⟨h1,h2⟩:=qoX (k hv) (k h30) (k hc) (show [a,b].length ≤ 10 by simp)
 exact ⟨⟨S.n,by simp only [List.length_cons,List.length_nil]; omega,k S.s⟩,k hv,⟨h1,h2,hN⟩⟩
theorem Two.first {N:Nat} {a b:Cnd} (T:Two N a b):qd5 N [a,b] = some (fd (rr a b),isf (rr a b)) ∧ qcQ N [a,b] 2 = some (fd (rr a b),isf (rr a b)) ∧ First Dn (PP 2 [a,b]) (rr a b):=by
 obtain ⟨b1,b2⟩:=qls (p:=2) T.s.p T.s.len
 have hcs:∀ d ∈ [a,b],d.length < N:=fun d hd'=>(T.c.s d hd').len
 have e1:=qrD T.s (by simp) hcs (PP 2 [a,b]) (fun n hn s hs=>by
  have d:=qrI hn hs
  rw [qoS T.v d]
  exact qu3 N (hd (nb (dd n) s) a) (hd (nb (dd n) s) b))
 have e2:=qmZ T.s T.v (fun d hd'=>T.c.s d hd') (by simp) hcs 2
 rw [← b1] at e2
 unfold rr
 revert e1 e2 b2
 generalize fstW (PP 2 [a,b]) (qgO (rels [a,b])) = r
 intro b2 e1 e2
 exact ⟨e1,e2,b2⟩
def ci (l:List Cnd) (i:Nat):Cnd:=l[i]?.getD []
theorem qjo {l:List Cnd} {i:Nat} (h:i < l.length):idx l (i:Int) = some (ci l i) ∧ ci l i ∈ l:=by
 have e:ci l i = l[i]:=by unfold ci; rw [List.getElem?_eq_getElem h]; rfl
 exact ⟨by rw [e]; exact qaz (List.getElem?_eq_getElem h),by rw [e]; exact List.getElem_mem h⟩
def g2 (l:List Cnd) (i j:Nat):Option (Int × Int × Str × Int):=if isf (rr (ci l i) (ci l j)) then some ((i:Int),(j:Int),fd (rr (ci l i) (ci l j)),19) else none
def g1 (l:List Cnd) (i:Nat):Option (Int × Int × Str × Int):=up (g2 l i) (i + 1) (l.length - (i + 1))
theorem quM {N:Nat} {l:List Cnd} (rs:List Rule) (hr:rs.length = l.length) {i j:Nat} (hi:i < l.length) (hj:j < l.length) (e:qd5 N [ci l i,ci l j] = some (fd (rr (ci l i) (ci l j)),isf (rr (ci l i) (ci l j)))) :
  qdG N rs l i j = some (fi (g2 l i j) j):=by
 unfold g2
 revert e
 generalize fd (rr (ci l i) (ci l j)) = q
 generalize isf (rr (ci l i) (ci l j)) = b
 intro e
 unfold qdG
 rw [hr,dlt hj,cond_true,(qjo hi).1,(qjo hj).1]
 simp only [Option.bind_some]
 rw [e]
 cases b <;> rfl
theorem qvj {N:Nat} {l:List Cnd} {i j:Nat} (hi:i < l.length) (hj:j < l.length) (e:qcQ N [ci l i,ci l j] 2 = some (fd (rr (ci l i) (ci l j)),isf (rr (ci l i) (ci l j)))) :
  qcr N l i j = some (fi (g2 l i j) j):=by
 unfold g2
 revert e
 generalize fd (rr (ci l i) (ci l j)) = q
 generalize isf (rr (ci l i) (ci l j)) = b
 intro e
 unfold qcr
 rw [dlt hj,cond_true,(qjo hi).1,(qjo hj).1]
 simp only [Option.bind_some]
 rw [e]
 cases b <;> rfl
theorem qrV {N:Nat} {l:List Cnd} (rs:List Rule) (hr:rs.length = l.length) (hl:l.length < N) (hT:∀ a ∈ l,∀ b ∈ l,Two N a b) :
  iter (fun s=>qcw N rs l s) N 0 = some (fo (up (g1 l) 0 l.length)):=by
 show iter (fun s=>qcw N rs l s) N ((0:Nat):Int) = _
 refine qni (body:=fun s=>qcw N rs l s) l.length (g1 l) (fun i hi=>?_) ?_ l.length 0 N (by omega) hl
 ·unfold qcw
  rw [hr,dlt hi,cond_true]
  have inner:=qni (body:=fun s=>qdG N rs l i s) l.length (g2 l i) (fun j hj=>?_) ?_ (l.length - (i + 1)) (i + 1) N (by omega) (by omega)
  ·rw [show ((i:Int) + 1) = ((i + 1:Nat):Int) by omega,inner]
   unfold g1
   generalize up (g2 l i) (i + 1) (l.length - (i + 1)) = q
   cases q <;> rfl
  ·exact quM rs hr hi hj (hT _ (qjo hi).2 _ (qjo hj).2).first.1
  ·unfold qdG
   rw [hr,dnlt,cond_false]
 ·unfold qcw
  rw [hr,dnlt,cond_false]
theorem qsb {N:Nat} {l:List Cnd} (hl:l.length < N) (hT:∀ a ∈ l,∀ b ∈ l,Two N a b) :
  iter (fun s=>qbD N l s) N 0 = some (fo (up (g1 l) 0 l.length)):=by
 show iter (fun s=>qbD N l s) N ((0:Nat):Int) = _
 refine qni (body:=fun s=>qbD N l s) l.length (g1 l) (fun i hi=>?_) ?_ l.length 0 N (by omega) hl
 ·unfold qbD
  rw [dlt hi,cond_true]
  have inner:=qni (body:=fun s=>qcr N l i s) l.length (g2 l i) (fun j hj=>?_) ?_ (l.length - (i + 1)) (i + 1) N (by omega) (by omega)
  ·rw [show ((i:Int) + 1) = ((i + 1:Nat):Int) by omega,inner]
   unfold g1
   generalize up (g2 l i) (i + 1) (l.length - (i + 1)) = q
   cases q <;> rfl
  ·exact qvj  hi hj (hT _ (qjo hi).2 _ (qjo hj).2).first.2.1
  ·unfold qcr
   rw [dnlt,cond_false]
 ·unfold qbD
  rw [dnlt,cond_false]
theorem qq2 {N:Nat} {l:List Cnd} (S:Cs N l) (rs:List Rule) (hr:rs.map (fun r=>r.Cond) = l) (hl:l.length ≤ 1000) :
  qfu N rs = (bif !(l.all vd && decide (l.length ≤ 10)) then some (0,0,[],1) else (iter (fun s=>qcw N rs l s) N 0).bind fun o=>Sum.elim (fun _=>some (0,0,[],0)) (fun o=>some o) o) ∧
  qdO N rs = (bif !(l.all vd && decide (l.length ≤ 10)) then some (0,0,[],1) else (iter (fun s=>qbD N l s) N 0).bind fun o=>Sum.elim (fun _=>some (0,0,[],0)) (fun o=>some o) o):=by
 have hlen:rs.length = l.length:=by rw [← hr,List.length_map]
 have S1:=S.len
 constructor
 ·unfold qfu
  rw [qon (body:=fun s=>qeu N rs s.1 s.2) rs (fun r=>r.Cond) (by omega) (fun k x acc hk ha=>?_) (fun acc=>?_) N (by omega),hr]
  ·simp only [Option.bind_some]
   rw [qkA S]
   rfl
  ·dsimp only
   unfold qeu
   simp only [dltx hk,cond_true,qaz hk,Option.bind_some]
   rw [qdJ (by simp only [List.length_cons,List.length_nil]; omega)]
   rfl
  ·dsimp only
   unfold qeu
   simp only [dnlt,cond_false]
 ·unfold qdO
  rw [qon (body:=fun s=>qc9 N rs s.1 s.2) rs (fun r=>r.Cond) (by omega) (fun k x acc hk ha=>?_) (fun acc=>?_) N (by omega),hr]
  ·simp only [Option.bind_some]
   rw [qpt S]
   rfl
  ·dsimp only
   unfold qc9
   simp only [dltx hk,cond_true,qaz hk,Option.bind_some]
   rw [qdJ (by simp only [List.length_cons,List.length_nil]; omega)]
   rfl
  ·dsimp only
   unfold qc9
   simp only [dnlt,cond_false]
end Go.Proofs.YtboacfcnmhnbdaaGreatDoor
namespace Go.Proofs.YtboacfcnmhnbdaaGreatDoor
open Go.X
def cls5:List (List UInt8):=[[122,101,114,111],[111,110,101],[116,119,111],[102,101,119],[109,97,110,121]]
def oth:List UInt8:=[111,116,104,101,114]
theorem qqL {N:Nat} (l:List (List UInt8)) (m:List UInt8) (hN:l.length < N):qbz N l m = some (l.contains m):=by
 unfold qbz qel
 rw [qjp l (fun x=>m == x) (fun k x hk=>?_) ?_ N hN]
 ·rw [qkk,Option.bind_some,qk3,List.contains_eq_any_beq]
 ·unfold qcJ
  simp only [dnlt,cond_false]
 ·unfold qcJ
  simp only [dltx hk,cond_true,qaz hk,Option.bind_some]
  cases m == x <;> rfl
theorem qtb {N:Nat} (hN:100 ≤ N) (c:List UInt8):qhL N c = some ((cls5 ++ [oth]).contains c):=by
 unfold qhL
 show (qbz N (cls5 ++ [oth]) c).bind (fun r15=>some r15) = _
 rw [qqL _ _ (by simp [cls5]; omega)]
 rfl
theorem qqr {N:Nat} (l:List (List UInt8)) (m:List UInt8) (hN:l.length < N):qfw N l m = some (l.contains m):=by
 unfold qfw
 rw [qmX (fun x=>x == m) l (fun k x hk=>?_) ?_ N hN]
 ·have e:l.any (fun x=>x == m) = l.contains m:=by
   rw [List.contains_eq_any_beq]
   congr 1
   funext x
   exact Bool.eq_iff_iff.2 ⟨fun h=>beq_iff_eq.2 (beq_iff_eq.1 h).symm,fun h=>beq_iff_eq.2 (beq_iff_eq.1 h).symm⟩
  rw [e]
  cases l.contains m <;> rfl
 ·unfold qfl
  simp only [dnlt,cond_false]
 ·unfold qfl
  simp only [dltx hk,cond_true,qaz hk,Option.bind_some]
  cases (x == m) <;> rfl
def tsz (l:List Rule):Nat:=(l.map fun x=>sz x.Cond).sum
structure Tz (N:Nat) (l:List Rule):Prop where
 n:4000 ≤ N
 len:l.length < N
 s:∀ x ∈ l,Sz N x.Cond
theorem Tz.of {N:Nat} {l:List Rule} (h:tsz l + l.length + 4000 ≤ N):Tz N l :=
 ⟨by omega,by omega,fun x hx=>Sz.of (by have:=qjV (f:=fun x:Rule=>sz x.Cond) hx; unfold tsz at h; omega)⟩
def dup (l:List Rule) (k:Nat) (x:Rule):Bool:=(l.take k).any fun y=>y.Class == x.Class
def okr (l:List Rule) (k:Nat) (x:Rule):Bool:=cls5.contains x.Class && (vd x.Cond && !dup l k x)
def fR (l:List Rule) (k:Nat) (x:Rule):Nat ⊕ (Unit ⊕ Bool):=if okr l k x then .inl (k + 1) else .inr (.inr false)
def rv (l:List Rule):Unit ⊕ Bool:=run (fR l) (fun _=>.inl ()) 0 l
def vdl (l:List Rule):Bool:=match rv l with | .inl _=>true | .inr b=>b
theorem quA:cls5.contains oth = false:=by decide
theorem qtC {N:Nat} {l:List Rule} {k:Nat} {x:Rule} (hk:k ≤ l.length) (hN:l.length < N):((slc l 0 (k:Int)).bind fun l27=>qbk N l27 x) = some (dup l k x):=by
 rw [qlv hk,Option.bind_some]
 unfold qbk qch
 rw [qjp (l.take k) (fun y=>y.Class == x.Class) (fun j y hj=>?_) ?_ N (by rw [List.length_take]; omega)]
 ·rw [qkk,Option.bind_some,qk3]; rfl
 ·unfold qbj
  simp only [dnlt,cond_false]
 ·unfold qbj qhY
  simp only [dltx hj,cond_true,qaz hj,Option.bind_some]
  cases (y.Class == x.Class) <;> rfl
theorem qkx {N:Nat} {l:List Rule} (S:Tz N l):qg2 N l = some (vdl l):=by
 have hn:=S.n
 have hlen:=S.len
 have h:=qaT (body:=fun s=>qec N l s) (σ:=Nat) (fun _ i=>i) l (fR l) (fun _=>.inl ()) (fun i k=>k = i) (fun k i x hi hk=>?_) (fun k _=>?_) N 0 S.len rfl
 ·unfold qg2
  rw [h]
  unfold vdl rv
  cases run (fR l) (fun _=>Sum.inl ()) 0 l <;> rfl
 ·subst hk
  constructor
  ·show qec N l k = _
   unfold qec
   simp only [dltx hi,cond_true,qaz hi,Option.bind_some,qtb (N:=N) (by omega),qnY (S.s x (List.mem_of_getElem? hi))]
   have hd:=qtC (N:=N) (l:=l) (k:=k) (x:=x) (by have:=qbv hi; omega) hlen
   unfold fR okr
   have hk5:(cls5 ++ [oth]).contains x.Class = (cls5.contains x.Class || x.Class == oth):=by
    rw [List.contains_eq_any_beq,List.any_append,← List.contains_eq_any_beq]; simp
   rw [hk5]
   cases h1:cls5.contains x.Class with
   | false =>
    simp only [Bool.false_or,Bool.false_and,Bool.false_eq_true,if_false]
    by_cases ho:x.Class = oth
    ·rw [show (x.Class == oth) = true by simp [ho]]
     simp only [Bool.not_true,cond_false]
     rw [show (x.Class == ([111,116,104,101,114]:List UInt8)) = true from (show (x.Class == oth) = true by simp [ho])]
     rfl
    ·rw [show (x.Class == oth) = false by simp [ho]]; rfl
   | true =>
    have ho:x.Class ≠ oth:=fun e=>by rw [e,quA] at h1; cases h1
    simp only [Bool.true_or,Bool.not_true,cond_false,Bool.true_and]
    rw [show (x.Class == ([111,116,104,101,114]:List UInt8)) = false from (show (x.Class == oth) = false by simp [ho])]
    simp only [cond_false]
    cases h2:vd x.Cond with
    | false=>simp
    | true =>
     simp only [Bool.not_true,cond_false,Bool.true_and]
     cases hs:slc l 0 (k:Int) with
     | none=>rw [hs] at hd; cases hd
     | some l27 =>
      rw [hs,Option.bind_some] at hd
      simp only [Option.bind_some,hd]
      cases dup l k x <;> simp
  ·intro s' h
   unfold fR at h
   split at h
   ·cases h; rfl
   ·cases h
 ·show qec N l l.length = _
  unfold qec
  simp only [dnlt,cond_false]
theorem quZ {N:Nat} {l:List Rule} {k:Nat} {x:Rule} (hk:l[k]? = some x) (hN:l.length < N):iter (fun s=>qdi N l (k:Int) s) N 0 = some (if dup l k x then .inr false else .inl ()):=by
 have hlt:=qbv hk
 have hl:(l.take k).length = k:=by rw [List.length_take]; omega
 have h:=qhQ (body:=fun s=>qdi N l (k:Int) s) (fun y:Rule=>!(y.Class == x.Class)) (l.take k) (fun j y hj=>?_) ?_ N (by omega)
 ·rw [h]
  have e:(l.take k).all (fun y=>!(y.Class == x.Class)) = !dup l k x:=by unfold dup; rw [List.all_eq_not_any_not]; simp
  rw [e]
  cases dup l k x <;> rfl
 ·have hj2:=qbv hj
  rw [hl] at hj2
  rw [List.getElem?_take_of_lt hj2] at hj
  unfold qdi
  simp only [decide_eq_true (show (j:Int) < (k:Int) by omega),cond_true,qaz hj,qaz hk,Option.bind_some]
  cases (y.Class == x.Class) <;> rfl
 ·rw [hl]
  unfold qdi
  simp only [decide_eq_false (show ¬ (k:Int) < (k:Int) by omega),cond_false]
theorem qi7 {N:Nat} {l:List Rule} (S:Tz N l):qeL N l = some (vdl l):=by
 have hn:=S.n
 have hlen:=S.len
 have h:=qaT (body:=fun s=>qcu N l s) (σ:=Nat) (fun _ i=>i) l (fR l) (fun _=>.inl ()) (fun i k=>k = i) (fun k i x hi hk=>?_) (fun k _=>?_) N 0 S.len rfl
 ·unfold qeL
  rw [h]
  unfold vdl rv
  cases run (fR l) (fun _=>Sum.inl ()) 0 l <;> rfl
 ·subst hk
  constructor
  ·show qcu N l k = _
   unfold qcu
   simp only [dltx hi,cond_true,qaz hi,Option.bind_some,qjh (S.s x (List.mem_of_getElem? hi)),show qe0 N = some cls5 from rfl,qqr cls5 x.Class (show cls5.length < N by simp [cls5]; omega),quZ hi hlen]
   unfold fR okr
   cases cls5.contains x.Class with
   | false=>rfl
   | true =>
    cases vd x.Cond with
    | false=>rfl
    | true=>cases dup l k x <;> rfl
  ·intro s' h
   unfold fR at h
   split at h
   ·cases h; rfl
   ·cases h
 ·show qcu N l l.length = _
  unfold qcu
  simp only [dnlt,cond_false]
theorem qsC (l:List Rule):∀ (ys:List Rule) (k:Nat),run (fR l) (fun _=>.inl ()) k ys = .inl () → ∀ x ∈ ys,vd x.Cond = true
 | [],_,_,_,h=>by cases h
 | y :: ys,k,h,x,hx=>by
  rw [run] at h
  unfold fR at h
  cases ho:okr l k y with
  | false=>rw [ho] at h; simp at h
  | true =>
   rw [ho] at h
   simp only [if_true] at h
   rcases List.mem_cons.1 hx with rfl | hx
   ·unfold okr at ho
    simp only [Bool.and_eq_true] at ho
    exact ho.2.1
   ·exact qsC l ys (k + 1) h x hx
theorem qo4 (l:List Rule):∀ (ys:List Rule) (k:Nat) (b:Bool),run (fR l) (fun _=>.inl ()) k ys = .inr b → b = false
 | [],_,_,h=>by cases h
 | y :: ys,k,b,h=>by
  rw [run] at h
  unfold fR at h
  cases ho:okr l k y with
  | false=>rw [ho] at h; simp at h; exact h
  | true =>
   rw [ho] at h
   simp only [if_true] at h
   exact qo4 l ys (k + 1) b h
theorem qsd {l:List Rule} (h:vdl l = true):∀ x ∈ l,vd x.Cond = true:=by
 unfold vdl rv at h
 cases hr:run (fR l) (fun _=>Sum.inl ()) 0 l with
 | inl u=>exact qsC l l 0 hr
 | inr b=>rw [hr] at h; have:=qo4 l l 0 b hr; subst this; cases h
theorem qrN (M:Nat):qd3 (M + 3000) = some true:=by kernel_rfl
theorem qrG {N:Nat} {l:List Rule} (S:Tz N l):∃ b,qd8 N l = some b:=by
 unfold qd8
 have h:=qdu (body:=fun i=>qcC N l i) (σ:=Unit) (fun _ i=>i) l (fun _ x=>if (qbE N x.Cond).getD false then .inl () else .inr (.inr false)) (fun _=>.inl ()) (fun _ k x hk=>?_) (fun _=>?_) N () S.len
 ·rw [h]
  cases run _ _ () l with
  | inl _=>exact ⟨_,rfl⟩
  | inr b=>exact ⟨_,rfl⟩
 ·obtain ⟨b,hb⟩:=qqB (S.s x (List.mem_of_getElem? hk))
  unfold qcC
  simp only [dltx hk,cond_true,qaz hk,Option.bind_some,hb]
  cases b <;> rfl
 ·unfold qcC
  simp only [dnlt,cond_false]
end Go.Proofs.YtboacfcnmhnbdaaGreatDoor
namespace Go.Proofs.YtboacfcnmhnbdaaGreatDoor
open Go.X
theorem qti {α β:Type} (p:α → Bool) (F:α → β):∀ xs:List α,run (σ:=Unit) (β:=Unit ⊕ β) (fun _ x=>if p x then .inr (.inr (F x)) else .inl ()) (fun _=>.inl ()) () xs = match xs.find? p with | some x=>.inr (F x) | none=>.inl ():=by
 intro xs
 induction xs with
 | nil=>rfl
 | cons x xs ih =>
  rw [run]
  cases h:p x with
  | true=>simp [h]
  | false=>simp [h,ih]
theorem qpo {α β:Type} {body:Int → Option (Int ⊕ (Unit ⊕ β))} (p:α → Bool) (F:α → β) (xs:List α) (h1:∀ (k:Nat) x,xs[k]? = some x → body k = some (if p x then .inr (.inr (F x)) else .inl ((k:Int) + 1))) (h2:body xs.length = some (.inr (.inl ()))) (N:Nat) (hN:xs.length < N) :
  iter body N 0 = some (match xs.find? p with | some x=>.inr (F x) | none=>.inl ()):=by
 rw [← qti p F xs]
 refine qdu (σ:=Unit) (fun _ k=>k) xs _ _ (fun _ k x hx=>?_) (fun _=>h2) N () hN
 rw [h1 k x hx]
 cases p x <;> rfl
theorem qp9 {α:Type} {p:α → Bool}:∀ {l:List α} {y:α},(l.filter p).length ≤ 1 → y ∈ l → p y = true → l.find? p = some y:=by
 intro l
 induction l with
 | nil=>intro y _ h; cases h
 | cons z l ih =>
  intro y h hy hp
  rw [List.find?_cons]
  cases hz:p z with
  | true =>
   rw [List.filter_cons,hz] at h
   simp only [if_true,List.length_cons] at h
   rcases List.mem_cons.1 hy with rfl | hy
   ·rfl
   ·have:y ∈ l.filter p:=List.mem_filter.2 ⟨hy,hp⟩
    have:=List.length_pos_of_mem this
    omega
  | false =>
   rw [List.filter_cons,hz] at h
   rcases List.mem_cons.1 hy with rfl | hy
   ·rw [hp] at hz; cases hz
   ·exact ih (by simpa using h) hy hp
def cds (l:List Rule):List Cnd:=l.map (fun r=>r.Cond)
theorem qom (l:List Rule):∀ (ys:List Rule) (k:Nat),run (fR l) (fun _=>.inl ()) k ys = .inl () ↔ ∀ j x,ys[j]? = some x → okr l (k + j) x = true
 | [],_=>by simp [run]
 | y :: ys,k=>by
  rw [run]
  unfold fR
  cases ho:okr l k y with
  | false =>
   simp only [Bool.false_eq_true,if_false]
   refine ⟨(fun h=>by cases h),fun h=>?_⟩
   have:=h 0 y rfl
   rw [Nat.add_zero,ho] at this
   cases this
  | true =>
   simp only [if_true]
   refine (qom l ys (k + 1)).trans ⟨fun h j x hx=>?_,fun h j x hx=>?_⟩
   ·cases j with
    | zero=>cases hx; exact ho
    | succ j=>have:=h j x hx; rwa [show k + (j + 1) = k + 1 + j by omega]
   ·have:=h (j + 1) x hx
    rwa [show k + (j + 1) = k + 1 + j by omega] at this
theorem quv (l:List Rule):vdl l = true ↔ ∀ j x,l[j]? = some x → okr l j x = true:=by
 have h:=qom l l 0
 simp only [Nat.zero_add] at h
 rw [← h]
 unfold vdl rv
 cases hr:run (fR l) (fun _=>Sum.inl ()) 0 l with
 | inl u=>exact ⟨fun _=>rfl,fun _=>rfl⟩
 | inr b =>
  have:=qo4 l l 0 b hr
  subst this
  exact ⟨fun h=>(by cases h),fun h=>(by cases h)⟩
theorem quC (l:List Rule):vdl l = true ↔ (∀ x ∈ l,cls5.contains x.Class = true ∧ vd x.Cond = true) ∧ (l.map Rule.Class).Nodup:=by
 rw [quv]
 have hd:(∀ j x,l[j]? = some x → dup l j x = false) ↔ (l.map Rule.Class).Nodup:=by
  unfold List.Nodup
  rw [List.pairwise_iff_getElem]
  simp only [List.length_map,List.getElem_map]
  constructor
  ·intro h i j hi hj hij e
   have:=h j l[j] (List.getElem?_eq_getElem hj)
   unfold dup at this
   rw [List.any_eq_false] at this
   refine this l[i] ?_ (by simpa using e)
   exact List.mem_iff_getElem.2 ⟨i,by simp; omega,by rw [List.getElem_take]⟩
  ·intro h j x hx
   unfold dup
   rw [List.any_eq_false]
   intro y hy e
   obtain ⟨i,hi,rfl⟩:=List.mem_iff_getElem.1 hy
   simp only [List.length_take] at hi
   have hj:=qbv hx
   have hxe:l[j] = x:=by rw [List.getElem?_eq_getElem hj] at hx; exact Option.some.inj hx
   rw [List.getElem_take] at e
   exact h i j (by omega) hj (by omega) (by rw [hxe]; simpa using e)
 unfold okr
 simp only [Bool.and_eq_true,Bool.not_eq_true']
 constructor
 ·intro h
  refine ⟨fun x hx=>?_,hd.1 fun j x hx=>(h j x hx).2.2⟩
  obtain ⟨j,hj⟩:=List.mem_iff_getElem?.1 hx
  exact ⟨(h j x hj).1,(h j x hj).2.1⟩
 ·intro ⟨h1,h2⟩ j x hx
  have:=h1 x (List.mem_of_getElem? hx)
  exact ⟨this.1,this.2,hd.2 h2 j x hx⟩
theorem qpp {l:List Rule} (h:(l.map Rule.Class).Nodup) (c:Str):(l.filter fun x=>x.Class == c).length ≤ 1:=by
 induction l with
 | nil=>simp
 | cons x l ih =>
  simp only [List.map_cons,List.nodup_cons] at h
  rw [List.filter_cons]
  cases hx:(x.Class == c) with
  | false=>exact ih h.2
  | true =>
   have:l.filter (fun x=>x.Class == c) = []:=by
    rw [List.filter_eq_nil_iff]
    intro y hy e
    refine h.1 (List.mem_map.2 ⟨y,hy,?_⟩)
    rw [eq_of_beq e,eq_of_beq hx]
   simp [this]
structure Pz (N:Nat) (l:List Rule):Prop where
 t:Tz N l
 v:vdl l = true
 h30:∀ x ∈ l,x.Cond.length ≤ 30
 ok:∀ x ∈ l,COk x.Cond
 len:l.length ≤ 10
 n:20000000 ≤ N
theorem qjY {l:List Rule} {P:Cnd → Prop} (h:∀ x ∈ l,P x.Cond):∀ c ∈ cds l,P c:=fun c hc=>by
 obtain ⟨x,hx,rfl⟩:=List.mem_map.1 hc
 exact h x hx
theorem Pz.cs {N:Nat} {l:List Rule} (P:Pz N l):Cs N (cds l):=⟨P.t.n,by unfold cds; rw [List.length_map]; exact P.t.len,qjY P.t.s⟩
theorem Pz.vd {N:Nat} {l:List Rule} (P:Pz N l):∀ c ∈ cds l,Go.Proofs.YtboacfcnmhnbdaaGreatDoor.vd c = true:=qjY (qsd P.v)
theorem Pz.clen {N:Nat} {l:List Rule} (P:Pz N l):(cds l).length ≤ 10:=by unfold cds; rw [List.length_map]; exact P.len
theorem Pz.sl {N:Nat} {l:List Rule} (P:Pz N l):Sl N (rels (cds l)):=by
 obtain ⟨h1,h2⟩:=qoX P.vd (qjY P.h30) (qjY P.ok) P.clen
 exact ⟨h1,h2,P.n⟩
theorem Pz.all {N:Nat} {l:List Rule} (P:Pz N l):((cds l).all Go.Proofs.YtboacfcnmhnbdaaGreatDoor.vd && decide ((cds l).length ≤ 10)) = true:=by
 rw [Bool.and_eq_true,List.all_eq_true,decide_eq_true_eq]; exact ⟨P.vd,P.clen⟩
theorem Pz.two {N:Nat} {l:List Rule} (P:Pz N l):∀ a ∈ cds l,∀ b ∈ cds l,Two N a b:=fun a ha b hb=>Two.of P.cs P.vd (qjY P.h30) (qjY P.ok) P.n ha hb
def dis (l:List Rule):Bool:=(up (g1 (cds l)) 0 (cds l).length).isNone
theorem qwg {l:List Cnd} {k j:Nat} {q:Int × Int × Str × Int} (h:up (g1 l) k j = some q):q.2.2.2 = 19:=by
 obtain ⟨i,_,_,hg⟩:=qpe h
 obtain ⟨m,_,_,hg⟩:=qpe hg
 unfold g2 at hg
 split at hg
 ·cases hg; rfl
 ·cases hg
theorem qrk {N:Nat} {l:List Rule} (P:Pz N l):∃ q:Int × Int × Str × Int,qfu N l = some q ∧ qdO N l = some q ∧ q.2.2.2 = if dis l then 0 else 19:=by
 obtain ⟨p1,p2⟩:=qq2 P.cs l rfl (by have:=P.clen; omega)
 rw [P.all,Bool.not_true,cond_false,qrV l (by unfold cds; rw [List.length_map]) P.cs.len P.two] at p1
 rw [P.all,Bool.not_true,cond_false,qsb P.cs.len P.two] at p2
 unfold dis
 cases h:up (g1 (cds l)) 0 (cds l).length with
 | none =>
  rw [h] at p1 p2
  exact ⟨_,p1,p2,rfl⟩
 | some q =>
  rw [h] at p1 p2
  exact ⟨q,p1,p2,qwg h⟩
theorem qtE {N:Nat} {l:List Rule} (P:Pz N l):qhT N l = some (if dis l then 0 else 19):=by
 obtain ⟨q,h1,_,h3⟩:=qrk P
 unfold qhT
 rw [h1,Option.bind_some,h3]
def rS (N:Nat) (c:Cnd):Option Str:=match qc7 N c with | some (s,true,_)=>some s | _=>none
def rT (N:Nat) (cs:List Cnd):Option Str:=match qfi N cs with | some (s,false,_)=>some s | _=>none
theorem qwN {N:Nat} {c:Cnd} {r:Option Str} (h:qc7 N c = some (fd r,isf r,0)):rS N c = r:=by
 unfold rS
 rw [h]
 cases r <;> rfl
theorem qwi {N:Nat} {cs:List Cnd} {r:Option Str} (h:qfi N cs = some (fd r,!isf r,0)):rT N cs = r:=by
 unfold rT
 rw [h]
 cases r <;> rfl
theorem qst {N:Nat} {l:List Rule} (P:Pz N l) {x:Rule} (hx:x ∈ l):qc7 N x.Cond = some (fd (rS N x.Cond),isf (rS N x.Cond),0) ∧ qdf N x.Cond = some (fd (rS N x.Cond),isf (rS N x.Cond),0) ∧ First Dn (PP 0 [x.Cond]) (rS N x.Cond):=by
 have hS:Cs N [x.Cond]:=⟨P.t.n,by have:=P.n; simp; omega,fun c hc=>by rw [List.mem_singleton.1 hc]; exact P.t.s x hx⟩
 obtain ⟨r,h1,h2,h3⟩:=qrR hS (qsd P.v x hx) (P.h30 x hx) (P.ok x hx) P.n (P.t.s x hx).len
 rw [qwN h1]
 exact ⟨h1,h2,h3⟩
theorem qsJ {N:Nat} {l:List Rule} (P:Pz N l):qfi N (cds l) = some (fd (rT N (cds l)),!isf (rT N (cds l)),0) ∧ qeK N (cds l) = some (fd (rT N (cds l)),!isf (rT N (cds l)),0) ∧ First Dn (PP 1 (cds l)) (rT N (cds l)):=by
 obtain ⟨r,h1,h2,h3⟩:=qrA P.cs P.vd P.clen P.sl
 rw [qwi h1]
 exact ⟨h1,h2,h3⟩
def fRn (N:Nat) (l:List Rule) (c:Str):Option Str:=if c = oth then rT N (cds l) else match l.find? (fun x=>x.Class == c) with | some x=>rS N x.Cond | none=>none
theorem qum {N:Nat} {l:List Rule} (P:Pz N l) (c:Str):qic N l c = some (fd (fRn N l c),isf (fRn N l c)):=by
 have hlen:=P.t.len
 have hl10:=P.len
 unfold qic fRn
 by_cases h:c = oth
 ·subst h
  rw [if_pos rfl,show (oth == ([111,116,104,101,114]:Str)) = true from rfl,cond_true]
  rw [qon (body:=fun s=>qf0 N l s.1 s.2) l (fun r=>r.Cond) (by omega) (fun k x acc hk ha=>by
    dsimp only
    unfold qf0
    simp only [dltx hk,cond_true,qaz hk,Option.bind_some]
    rw [qdJ (by simp only [List.length_cons,List.length_nil]; omega)]
    rfl) (fun acc=>by
    dsimp only
    unfold qf0
    simp only [dnlt,cond_false]) N hlen]
  simp only [Option.bind_some]
  rw [show l.map (fun r=>r.Cond) = cds l from rfl,(qsJ P).1]
  simp only [Option.bind_some]
  rw [show ((0:Int) == 0) = true from rfl,cond_true,Bool.not_not]
 ·rw [if_neg h,show (c == ([111,116,104,101,114]:Str)) = false from beq_eq_false_iff_ne.2 h,cond_false]
  rw [qpo (body:=fun s=>qfX N l c s) (fun x=>x.Class == c) (fun x=>(fd (rS N x.Cond),isf (rS N x.Cond))) l (fun k x hk=>by
    unfold qfX
    simp only [dltx hk,cond_true,qaz hk,Option.bind_some,(qst P (List.mem_of_getElem? hk)).1]
    cases (x.Class == c) with
    | true=>rfl
    | false=>rfl) (by
    unfold qfX
    simp only [dnlt,cond_false]) N hlen]
  cases l.find? (fun x=>x.Class == c) with
  | none=>rfl
  | some x=>rfl
theorem First.congr {D:Str → Prop} {P Q:Str → Bool} {r:Option Str} (h:∀ x,D x → P x = Q x) (F:First D P r):First D Q r :=
 ⟨fun e x hx=>by rw [← h x hx]; exact F.n e x hx,fun s e=>by
  obtain ⟨h1,h2,h3⟩:=F.s s e
  exact ⟨h1,by rw [← h s h1]; exact h2,fun x hx hq=>h3 x hx (by rw [h x hx]; exact hq)⟩⟩
def cls6:List Str:=cls5 ++ [oth]
theorem qoj {N:Nat} {l:List Rule} (S:Tz N l) (h:qd8 N l = some true):l.length ≤ 10 ∧ ∀ x ∈ l,x.Cond.length ≤ 30:=by
 unfold qd8 at h
 have hh:=qdu (body:=fun i=>qcC N l i) (σ:=Unit) (fun _ i=>i) l (fun _ x=>if (qbE N x.Cond).getD false then .inl () else .inr (.inr false)) (fun _=>.inl ()) (fun _ k x hk=>?_) (fun _=>?_) N () S.len
 ·rw [hh] at h
  have hr:∀ (xs:List Rule),run (σ:=Unit) (β:=Unit ⊕ Bool) (fun _ x=>if (qbE N x.Cond).getD false then .inl () else .inr (.inr false)) (fun _=>.inl ()) () xs = if xs.all (fun x=>(qbE N x.Cond).getD false) then .inl () else .inr false:=by
   intro xs
   induction xs with
   | nil=>rfl
   | cons x xs ih =>
    rw [run]
    cases hx:(qbE N x.Cond).getD false with
    | true=>simp only [if_true]; rw [ih,List.all_cons,hx,Bool.true_and]
    | false=>simp [hx]
  rw [hr] at h
  cases ha:l.all (fun x=>(qbE N x.Cond).getD false) with
  | false=>rw [ha] at h; simp at h
  | true =>
   rw [ha] at h
   simp only [if_true,Option.bind_some,Sum.elim_inl,Option.some.injEq,decide_eq_true_eq] at h
   refine ⟨by omega,fun x hx=>?_⟩
   have:=List.all_eq_true.1 ha x hx
   cases hf:qbE N x.Cond with
   | none=>rw [hf] at this; cases this
   | some b=>rw [hf] at this; simp only [Option.getD_some] at this; subst this; exact quS (S.s x hx) hf
 ·obtain ⟨b,hb⟩:=qqB (S.s x (List.mem_of_getElem? hk))
  unfold qcC
  simp only [dltx hk,cond_true,qaz hk,Option.bind_some,hb]
  cases b <;> rfl
 ·unfold qcC
  simp only [dnlt,cond_false]
end Go.Proofs.YtboacfcnmhnbdaaGreatDoor
namespace Go.Proofs.YtboacfcnmhnbdaaGreatDoor
open Go.X
end Go.Proofs.YtboacfcnmhnbdaaGreatDoor
namespace Go.Proofs.YtboacfcnmhnbdaaGreatDoor
open Go.X
def exR (N:Nat) (l:List Rule) (c:Str):Str × Int:=if cls6.contains c then (if dis l then (if isf (fRn N l c) then (fd (fRn N l c),0) else ([],8)) else ([],19)) else ([],10)
theorem qlC (N:Nat):qd2 N = some cls6:=rfl
theorem qtD {N:Nat} {l:List Rule} (P:Pz N l) {c:Str} (hc:c ≠ oth):iter (fun s=>qcG N l c s) N 0 = some (if isf (fRn N l c) then .inr (fd (fRn N l c),0) else .inl ()):=by
 have hv:=(quC l).1 P.v
 rw [qpo (body:=fun s=>qcG N l c s) (fun x=>x.Class == c && isf (rS N x.Cond)) (fun x=>(fd (rS N x.Cond),0)) l (fun k x hk=>by
    unfold qcG
    simp only [dltx hk,cond_true,qaz hk,Option.bind_some,(qst P (List.mem_of_getElem? hk)).2.1]
    cases (x.Class == c) with
    | true=>cases isf (rS N x.Cond) <;> rfl
    | false=>rfl) (by
    unfold qcG
    simp only [dnlt,cond_false]) N P.t.len]
 unfold fRn
 rw [if_neg hc]
 cases hf:l.find? (fun x=>x.Class == c) with
 | none =>
  have h0:=List.find?_eq_none.1 hf
  have:l.find? (fun x=>x.Class == c && isf (rS N x.Cond)) = none:=List.find?_eq_none.2 fun x hx=>by
   have:=h0 x hx
   simp only [Bool.not_eq_true] at this
   simp [this]
  rw [this]
  rfl
 | some y =>
  have hy:=List.mem_of_find?_eq_some hf
  have hyc:(y.Class == c) = true:=by have:=List.find?_some hf; simpa using this
  simp only
  cases hs:isf (rS N y.Cond) with
  | true =>
   have hle:(l.filter fun x=>x.Class == c && isf (rS N x.Cond)).length ≤ 1:=by
    refine Nat.le_trans ?_ (qpp hv.2 c)
    have:(l.filter fun x=>x.Class == c && isf (rS N x.Cond)) = (l.filter fun x=>x.Class == c).filter fun x=>isf (rS N x.Cond):=by
     rw [List.filter_filter]
     congr 1
     funext x
     rw [Bool.and_comm]
    rw [this]
    exact List.length_filter_le _ _
   rw [qp9 hle hy (by rw [hyc,hs]; rfl)]
   rfl
  | false =>
   have:l.find? (fun x=>x.Class == c && isf (rS N x.Cond)) = none:=List.find?_eq_none.2 fun x hx=>by
    intro e
    simp only [Bool.and_eq_true] at e
    have:=qp9 (qpp hv.2 c) hx e.1
    rw [hf] at this
    cases this
    rw [hs] at e
    cases e.2
   rw [this]
   rfl
theorem qsB {N:Nat} {l:List Rule} (P:Pz N l) (c:Str):qeZ N l c = some (exR N l c):=by
 have hn:=P.n
 have hlen:=P.t.len
 have hl10:=P.len
 obtain ⟨q,_,h2,h3⟩:=qrk P
 unfold qeZ exR
 rw [qi7 P.t,P.v]
 simp only [Option.bind_some,Bool.not_true,cond_false,qlC]
 rw [qqr cls6 c (show cls6.length < N by simp [cls6,cls5]; omega)]
 simp only [Option.bind_some]
 cases cls6.contains c with
 | false=>rfl
 | true =>
  simp only [Bool.not_true,cond_false,if_true,h2,Option.bind_some,h3]
  cases dis l with
  | false=>rfl
  | true =>
   simp only [if_true,bne_self_eq_false,cond_false]
   by_cases hc:c = oth
   ·subst hc
    rw [show (oth == ([111,116,104,101,114]:Str)) = true from rfl,cond_true]
    rw [qon (body:=fun s=>qdp N l s.1 s.2) l (fun r=>r.Cond) (by omega) (fun k x acc hk ha=>by
      dsimp only
      unfold qdp
      simp only [dltx hk,cond_true,qaz hk,Option.bind_some]
      rw [qdJ (by simp only [List.length_cons,List.length_nil]; omega)]
      rfl) (fun acc=>by
      dsimp only
      unfold qdp
      simp only [dnlt,cond_false]) N hlen]
    simp only [Option.bind_some]
    rw [show l.map (fun r=>r.Cond) = cds l from rfl,(qsJ P).2.1]
    simp only [Option.bind_some]
    unfold fRn
    rw [if_pos rfl]
    cases isf (rT N (cds l)) <;> rfl
   ·rw [show (c == ([111,116,104,101,114]:Str)) = false from beq_eq_false_iff_ne.2 hc,cond_false,qtD P hc]
    simp only [Option.bind_some]
    cases isf (fRn N l c) <;> rfl
def RuOk (l:List Rule):Prop:=∀ x ∈ l,COk x.Cond
theorem qrW {N:Nat} (h:3000 ≤ N):qd3 N = some true:=by rw [show N = (N - 3000) + 3000 by omega]; exact qrN _
theorem Pz.of {N:Nat} {l:List Rule} (S:Tz N l) (hn:20000000 ≤ N) (hf:qd8 N l = some true) (hok:RuOk l) (hv:vdl l = true):Pz N l :=
 ⟨S,hv,(qoj S hf).2,hok,(qoj S hf).1,hn⟩
end Go.Proofs.YtboacfcnmhnbdaaGreatDoor
namespace Go.Proofs.YtboacfcnmhnbdaaGreatDoor
open Go.X
theorem qw4 {N:Nat} {l:List Rule} (P:Pz N l):∀ (cs acc:List Str),qha N l cs acc = some (acc ++ cs.filter fun c=>isf (fRn N l c)):=by
 intro cs
 induction cs with
 | nil=>intro acc; simp [qha]
 | cons c cs ih =>
  intro acc
  unfold qha
  rw [qum P]
  simp only [Option.bind_some,List.filter_cons]
  cases isf (fRn N l c) with
  | true=>simp [ih]
  | false=>simp [ih]
theorem qrM {N:Nat} {l:List Rule} (P:Pz N l):qdV N l = some (if dis l then (cls6.filter (fun c=>isf (fRn N l c)),0) else ([],19)):=by
 unfold qdV
 rw [qkx P.t,P.v]
 simp only [Option.bind_some,Bool.not_true,cond_false,qtE P]
 cases dis l with
 | false=>rfl
 | true =>
  simp only [if_true]
  unfold qgW
  rw [qw4 P,List.nil_append]
  rfl
theorem qrO {N:Nat} {l:List Rule} (S:Tz N l) (h:vdl l = false):qdV N l = some ([],1):=by
 unfold qdV
 rw [qkx S,h]
 rfl
end Go.Proofs.YtboacfcnmhnbdaaGreatDoor
namespace Go.Proofs.YtboacfcnmhnbdaaGreatDoor
open Go.X
theorem quz (p:Str → Bool):∀ (xs acc:List Str),run (σ:=List Str) (β:=List Str ⊕ (List Str × Int)) (fun acc c=>.inl (if p c then acc ++ [c] else acc)) (fun acc=>.inl acc) acc xs = .inl (acc ++ xs.filter p):=by
 intro xs
 induction xs with
 | nil=>intro acc; simp [run]
 | cons x xs ih =>
  intro acc
  rw [run]
  simp only
  rw [ih,List.filter_cons]
  cases p x <;> simp
theorem qqX {N:Nat} {l:List Rule} (P:Pz N l):qci N l = some (if dis l then (cls6.filter (fun c=>isf (fRn N l c)),0) else ([],19)):=by
 have hn:=P.n
 unfold qci
 rw [qi7 P.t,P.v]
 simp only [Option.bind_some,Bool.not_true,cond_false]
 cases hd':dis l with
 | false =>
  have hb:qbo N l [] 0 = some (.inr (.inr ([],19))):=by
   unfold qbo
   simp only [qlC,Option.bind_some]
   have h1:idx cls6 0 = some [122,101,114,111]:=rfl
   rw [h1]
   simp only [Option.bind_some,qsB P]
   unfold exR
   rw [hd']
   rfl
  obtain ⟨M,rfl⟩:∃ M,N = M + 1:=⟨N - 1,by omega⟩
  simp only [iter,hb]
  rfl
 | true =>
  have hh:=qaT (body:=fun t=>qbo N l t.1 t.2) (σ:=List Str) (fun acc k=>(acc,k)) cls6 (fun acc c=>.inl (if isf (fRn N l c) then acc ++ [c] else acc)) (fun acc=>.inl acc) (fun k acc=>acc.length ≤ k) (fun acc k c hk hI=>?_) (fun acc _=>?_) N [] (by simp [cls6,cls5]; omega) (Nat.le_refl _)
  ·rw [show (([]:List Str),(0:Int)) = ([],0) from rfl,hh,quz]
   simp only [Option.bind_some,Sum.elim_inl,List.nil_append,if_true]
  ·have hlt:=qbv hk
   have h6:cls6.length = 6:=rfl
   have hc6:cls6.contains c = true:=by simpa using List.mem_of_getElem? hk
   constructor
   ·show qbo N l acc k = _
    unfold qbo
    simp only [qlC,Option.bind_some,dltx hk,cond_true,qaz hk,qsB P]
    unfold exR
    rw [hc6,hd']
    simp only [if_true]
    cases isf (fRn N l c) with
    | true =>
     simp only [if_true]
     rw [show ((0:Int) == 19) = false from rfl,show ((0:Int) == 0) = true from rfl]
     simp only [cond_false,cond_true]
     rw [qdJ (by simp; omega)]
     rfl
    | false=>rfl
   ·intro s' h
    simp only [Sum.inl.injEq] at h
    subst h
    split
    ·simp; omega
    ·omega
  ·show qbo N l acc cls6.length = _
   unfold qbo
   simp only [qlC,Option.bind_some,dnlt,cond_false]
theorem qpf {N:Nat} {l:List Rule} (S:Tz N l) (h:vdl l = false):qci N l = some ([],1):=by
 unfold qci
 rw [qi7 S,h]
 rfl
theorem qtP {N:Nat} (r:List Str × Int) (hN:r.1.length < N):iter (fun s=>qbf N r r s) N 0 = some (.inl ()):=by
 rw [qhQ (body:=fun s=>qbf N r r s) (fun _:Str=>true) r.1 (fun k x hk=>by
  unfold qbf
  simp only [dltx hk,cond_true,qaz hk,Option.bind_some,bne_self_eq_false,cond_false]
  rfl) (by
  unfold qbf
  simp only [dnlt,cond_false]) N hN]
 simp
theorem qnr (l:List Rule) (hl:RuOk l):∃ N,qbZ N l = some true:=by
 obtain ⟨N,hNN⟩:∃ N,N = tsz l + l.length + 20010000:=⟨_,rfl⟩
 refine ⟨N,?_⟩
 have S:Tz N l:=Tz.of (by omega)
 unfold qbZ
 rw [qrW (by omega)]
 simp only [Option.bind_some,Bool.not_true,cond_false]
 obtain ⟨b,hb⟩:=qrG S
 rw [hb]
 simp only [Option.bind_some]
 cases b with
 | false=>rfl
 | true =>
  simp only [Bool.not_true,cond_false]
  have fin:∀ r:List Str × Int,r.1.length < N → qdV N l = some r → qci N l = some r → ((qdV N l).bind fun r11=>(qci N l).bind fun r17=>bif (r11.2 != r17.2) then some false else bif ((r11.1.length:Int) != (r17.1.length:Int)) then some false else (iter (fun s=>qbf N r11 r17 s) N 0).bind fun o26=>Sum.elim (fun _o26=>some true) (fun o26=>some o26) o26) = some true:=fun r hr h1 h2=>by
   rw [h1,h2]
   simp only [Option.bind_some,bne_self_eq_false,cond_false,qtP r hr,Sum.elim_inl]
  cases hv:vdl l with
  | false=>exact fin _ (by simp; omega) (qrO S hv) (qpf S hv)
  | true =>
   have P:=Pz.of S (by omega) hb hl hv
   refine fin _ ?_ (qrM P) (qqX P)
   split
   ·have:=List.length_filter_le (fun c=>isf (fRn N l c)) cls6
    have:cls6.length = 6:=rfl
    simp only; omega
   ·simp; omega
end Go.Proofs.YtboacfcnmhnbdaaGreatDoor
