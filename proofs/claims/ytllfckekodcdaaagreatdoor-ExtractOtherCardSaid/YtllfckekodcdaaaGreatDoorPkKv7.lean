/- Texts of this proof, put together by pack.py: what its declarations name. -/
import Derived.Test.YtllfckekodcdaaaGreatDoorPkKv6
import Derived.Test.YtllfckekodcdaaaGreatDoorCards
import Derived.Test.YtllfckekodcdaaaGreatDoorChecked
import Derived.Test.YtllfckekodcdaaaGreatDoorProg
import Derived.Test.YtllfckekodcdaaaGreatDoorRows
import Derived.Test.YtllfckekodcdaaaGreatDoorTie
set_option linter.unusedVariables false
set_option linter.unusedSimpArgs false
namespace Go.Proofs.YtllfckekodcdaaaGreatDoor
open Go.X
def flt (ev:List Ev) (id:Str):List Ev:=ev.filter fun e=>decide (e.1.id = id)
def cmsL (acc:List Str) (c:Str):List Str:=if c = [] ∨ acc.contains c = true then acc else acc ++ [c]
def cmD (l:List Ev):List Str:=l.foldl (fun acc e=>cmsL acc e.1.comment) []
def vlD:List Ev → Str
 | []=>[]
 | e :: l=>e.2 ++ l.flatMap (fun e=>32 :: e.2)
def idsG (acc:List Str) (e:Ev):List Str:=if e.1.id ∈ acc then acc else acc ++ [e.1.id]
def ids (ev:List Ev):List Str:=ev.foldl idsG []
def qih (ev:List Ev) (id:Str):Str:=match flt ev id with | e :: _=>e.1.source | []=>[]
def EntE (ev:List Ev) (id:Str):Entry:=Entry.mk id (qih ev id) [] (cmD (flt ev id)) [] 0 [Field.mk [114,101,102] (vlD (flt ev id))]
def qcR (ev:List Ev):List Entry:=(ids ev).map (EntE ev)
def Good (ev:List Ev):Prop:=∀ e ∈ ev,∀ e' ∈ ev,e.1.id = e'.1.id → e.1.source = e'.1.source
theorem qon (ev:List Ev) (e:Ev):ids (ev ++ [e]) = idsG (ids ev) e:=by unfold ids; rw [List.foldl_append]; rfl
theorem qsn (a b:List Ev):ids (a ++ b) = b.foldl idsG (ids a):=by unfold ids; rw [List.foldl_append]
theorem qk3 (a b:List Ev) (id:Str):flt (a ++ b) id = flt a id ++ flt b id:=List.filter_append ..
theorem qnx:∀ (ev:List Ev) (acc:List Str) (id:Str),id ∈ ev.foldl idsG acc ↔ id ∈ acc ∨ ∃ e ∈ ev,e.1.id = id
 | [],acc,id=>by simp
 | e :: ev,acc,id=>by
  rw [List.foldl_cons,qnx ev (idsG acc e) id]
  unfold idsG
  by_cases h:e.1.id ∈ acc
  ·rw [if_pos h]
   refine Iff.intro (fun g=>?_) (fun g=>?_)
   ·rcases g with g | ⟨x,hx,he⟩
    ·exact .inl g
    ·exact .inr ⟨x,List.mem_cons_of_mem _ hx,he⟩
   ·rcases g with g | ⟨x,hx,he⟩
    ·exact .inl g
    ·rcases List.mem_cons.1 hx with rfl | hx
     ·exact .inl (he ▸ h)
     ·exact .inr ⟨x,hx,he⟩
  ·rw [if_neg h]
   refine Iff.intro (fun g=>?_) (fun g=>?_)
   ·rcases g with g | ⟨x,hx,he⟩
    ·rcases List.mem_append.1 g with g | g
     ·exact .inl g
     ·exact .inr ⟨e,List.mem_cons_self ..,(List.mem_singleton.1 g).symm⟩
    ·exact .inr ⟨x,List.mem_cons_of_mem _ hx,he⟩
   ·rcases g with g | ⟨x,hx,he⟩
    ·exact .inl (List.mem_append_left _ g)
    ·rcases List.mem_cons.1 hx with rfl | hx
     ·exact .inl (List.mem_append_right _ (by simp [he]))
     ·exact .inr ⟨x,hx,he⟩
theorem qk2 {ev:List Ev} {id:Str}:id ∈ ids ev ↔ ∃ e ∈ ev,e.1.id = id:=by
 unfold ids
 rw [qnx]
 simp
theorem qpt {acc:List Str} {e:Ev} (h:acc.Nodup):(idsG acc e).Nodup:=by
 unfold idsG
 split
 ·exact h
 ·rename_i g
  rw [List.nodup_append]
  exact ⟨h,by simp,fun a ha b hb=>by obtain rfl:=List.mem_singleton.1 hb; exact fun e=>g (e ▸ ha)⟩
theorem ql9:∀ (ev:List Ev) (acc:List Str),acc.Nodup → (ev.foldl idsG acc).Nodup
 | [],acc,h=>h
 | e :: ev,acc,h=>ql9 ev _ (qpt h)
theorem qqm (ev:List Ev):(ids ev).Nodup:=ql9 ev [] (by simp)
theorem qlC:∀ (ev:List Ev) (acc:List Str),∃ r,ev.foldl idsG acc = acc ++ r ∧ r.length ≤ ev.length
 | [],acc=>⟨[],by simp,by simp⟩
 | e :: ev,acc=>by
  rw [List.foldl_cons]
  unfold idsG
  by_cases h:e.1.id ∈ acc
  ·rw [if_pos h]
   obtain ⟨r,h1,h2⟩:=qlC ev acc
   refine ⟨r,?_,by simp; omega⟩
   exact h1
  ·rw [if_neg h]
   obtain ⟨r,h1,h2⟩:=qlC ev (acc ++ [e.1.id])
   refine ⟨e.1.id :: r,?_,by simp; omega⟩
   rw [show (fun acc (e:Ev)=>if e.1.id ∈ acc then acc else acc ++ [e.1.id]) = idsG from rfl,h1]; simp
theorem qjz {ev:List Ev} {id:Str} {e:Ev}:e ∈ flt ev id ↔ e ∈ ev ∧ e.1.id = id:=by
 unfold flt
 rw [List.mem_filter,decide_eq_true_eq]
theorem qsw {ev:List Ev} {id:Str} (h:id ∉ ids ev):flt ev id = []:=by
 rw [List.eq_nil_iff_forall_not_mem]
 intro e he
 obtain ⟨h1,h2⟩:=qjz.1 he
 exact h (qk2.2 ⟨e,h1,h2⟩)
theorem qqK {ev:List Ev} {id:Str} (h:id ∈ ids ev):∃ e l,flt ev id = e :: l:=by
 obtain ⟨e,he,hi⟩:=qk2.1 h
 have:e ∈ flt ev id:=qjz.2 ⟨he,hi⟩
 cases hf:flt ev id with
 | nil=>rw [hf] at this; cases this
 | cons e l=>exact ⟨e,l,rfl⟩
theorem qp6 {ev:List Ev} {id:Str} (h:id ∈ ids ev):∃ e ∈ ev,e.1.id = id ∧ qih ev id = e.1.source:=by
 obtain ⟨e,l,hf⟩:=qqK h
 have:e ∈ flt ev id:=by rw [hf]; exact List.mem_cons_self ..
 obtain ⟨h1,h2⟩:=qjz.1 this
 exact ⟨e,h1,h2,by unfold qih; rw [hf]⟩
theorem qq2 (l:List Ev) (e:Ev):cmD (l ++ [e]) = cmsL (cmD l) e.1.comment:=by unfold cmD; rw [List.foldl_append]; rfl
theorem qrn {l:List Ev} (e:Ev) (h:l ≠ []):vlD (l ++ [e]) = vlD l ++ [32] ++ e.2:=by
 cases l with
 | nil=>exact absurd rfl h
 | cons x l=>simp [vlD]
def ixF:Nat → List Str → Mp
 | _,[]=>[]
 | k,a :: I=>(a,(k:Int)) :: ixF (k + 1) I
theorem qoR:∀ (k:Nat) (I:List Str) (n:Str),mget (ixF k I) n = (I.findIdx? (fun a=>decide (n = a))).map (fun i=>((k + i:Nat):Int))
 | k,[],n=>rfl
 | k,a :: I,n=>by
  unfold mget
  rw [ixF,List.find?_cons,List.findIdx?_cons]
  by_cases h:n = a
  ·subst h; simp
  ·have:(n == (a,(k:Int)).1) = false:=by simpa using h
   rw [this]
   have ih:=qoR (k + 1) I n
   unfold mget at ih
   simp only at ih ⊢
   rw [ih,decide_eq_false h]
   simp only [Bool.false_eq_true,if_false,Option.map_map]
   congr 1
   funext i
   simp only [Function.comp]
   congr 1; omega
theorem qoW:∀ (k:Nat) (I:List Str) (n:Str),n ∉ I → mput (ixF k I) n ((k + I.length:Nat):Int) = ixF k (I ++ [n])
 | k,[],n,_=>by simp [ixF,mput]
 | k,a :: I,n,h=>by
  simp only [List.mem_cons,not_or] at h
  have ih:=qoW (k + 1) I n h.2
  rw [ixF,mput,if_neg (by simpa using h.1),List.cons_append,ixF]
  rw [← ih,List.length_cons,show k + (I.length + 1) = k + 1 + I.length by omega]
theorem qpZ {α:Type} {l:List α} {i j:Nat} {a:α} (h:l.Nodup) (hi:l[i]? = some a) (hj:l[j]? = some a):i = j:=by
 obtain ⟨h1,h2⟩:=List.getElem?_eq_some_iff.1 hi
 obtain ⟨h3,h4⟩:=List.getElem?_eq_some_iff.1 hj
 have hp:=List.pairwise_iff_getElem.1 h
 apply Classical.byContradiction
 intro hne
 rcases Nat.lt_or_gt_of_ne hne with g | g
 ·exact hp i j h1 h3 g (h2.trans h4.symm)
 ·exact hp j i h3 h1 g (h4.trans h2.symm)
theorem ql3 {ev:List Ev} {e:Ev} {id:Str} (h:e.1.id ≠ id):EntE (ev ++ [e]) id = EntE ev id:=by
 have:flt (ev ++ [e]) id = flt ev id:=by rw [qk3]; unfold flt; simp [h]
 unfold EntE qih
 rw [this]
theorem qqX {ev:List Ev} (hg:Good ev) (i:Int) (f:File) (x:Found2) :
  (Good (ev ++ [(x,refT f x)]) ∧ rnd i f x (ixF 0 (ids ev)) (qcR ev) = .inl (ixF 0 (ids (ev ++ [(x,refT f x)])),qcR (ev ++ [(x,refT f x)]))) ∨
  (¬Good (ev ++ [(x,refT f x)]) ∧ rnd i f x (ixF 0 (ids ev)) (qcR ev) = .inr ([],Place.mk i x.offset,14)):=by
 have hlen:(qcR ev).length = (ids ev).length:=by unfold qcR; simp
 unfold rnd
 rw [qoR]
 generalize hr:refT f x = r
 by_cases hin:x.id ∈ ids ev
 ·obtain ⟨k,hk⟩:∃ k,(ids ev).findIdx? (fun a=>decide (x.id = a)) = some k:=by
   cases h:(ids ev).findIdx? (fun a=>decide (x.id = a)) with
   | some k=>exact ⟨k,rfl⟩
   | none =>
    rw [List.findIdx?_eq_none_iff] at h
    have:=h x.id hin
    simp at this
  obtain ⟨hkl,hkp,_⟩:=List.findIdx?_eq_some_iff_getElem.1 hk
  have hka:(ids ev)[k]? = some x.id:=by rw [List.getElem?_eq_getElem hkl]; congr 1; exact (of_decide_eq_true hkp).symm
  have hout:(qcR ev)[k]? = some (EntE ev x.id):=by unfold qcR; rw [List.getElem?_map,hka]; rfl
  rw [hk]
  simp only [Option.map_some,Option.isSome_some,cond_true,Option.getD_some,Nat.zero_add,Int.toNat_natCast]
  rw [hout]
  simp only
  obtain ⟨e0,he0,hid0,hs0⟩:=qp6 hin
  have hids:ids (ev ++ [(x,r)]) = ids ev:=by rw [qon]; unfold idsG; rw [if_pos hin]
  by_cases hsrc:qih ev x.id = x.source
  ·left
   refine ⟨?_,?_⟩
   ·intro a ha b hb hab
    have hE:∀ c ∈ ev,c.1.id = x.id → c.1.source = x.source:=fun c hc he=>(hg c hc e0 he0 (he.trans hid0.symm)).trans (hs0.symm.trans hsrc)
    rcases List.mem_append.1 ha with ha | ha <;> rcases List.mem_append.1 hb with hb | hb
    ·exact hg a ha b hb hab
    ·obtain rfl:=List.mem_singleton.1 hb; exact hE a ha hab
    ·obtain rfl:=List.mem_singleton.1 ha; exact (hE b hb hab.symm).symm
    ·obtain rfl:=List.mem_singleton.1 ha; obtain rfl:=List.mem_singleton.1 hb; rfl
   ·rw [if_pos (show (EntE ev x.id).Source = x.source from hsrc),hids]
    congr 1
    refine Prod.ext rfl ?_
    simp only
    apply List.ext_getElem?
    intro j
    unfold qcR
    rw [hids,List.getElem?_map]
    by_cases hj:k = j
    ·subst hj
     rw [List.getElem?_set_self (by simp; exact hkl),hka]
     simp only [Option.map_some,Option.some.injEq]
     obtain ⟨e1,l1,hf⟩:=qqK hin
     have hfa:flt (ev ++ [(x,r)]) x.id = flt ev x.id ++ [(x,r)]:=by rw [qk3]; congr 1; unfold flt; simp
     unfold ent EntE
     have hsr:qih (ev ++ [(x,r)]) x.id = qih ev x.id:=by unfold qih; rw [hfa,hf]; rfl
     rw [hsr,hfa,qq2,qrn _ (by rw [hf]; simp)]
     rfl
    ·rw [List.getElem?_set_ne hj,List.getElem?_map]
     cases hjx:(ids ev)[j]? with
     | none=>rfl
     | some a =>
      simp only [Option.map_some,Option.some.injEq]
      refine (ql3 ?_).symm
      intro e
      simp only at e
      exact hj (qpZ (qqm ev) hka (by rw [hjx,e]))
  ·right
   refine ⟨fun hG=>hsrc ?_,by rw [if_neg (show ¬(EntE ev x.id).Source = x.source from hsrc)]⟩
   rw [hs0]
   exact hG e0 (List.mem_append_left _ he0) (x,r) (by simp) hid0
 ·left
  have hn:(ids ev).findIdx? (fun a=>decide (x.id = a)) = none:=by
   rw [List.findIdx?_eq_none_iff]
   intro a ha
   exact decide_eq_false fun e=>hin (e ▸ ha)
  rw [hn]
  simp only [Option.map_none,Option.isSome_none,cond_false]
  have hids:ids (ev ++ [(x,r)]) = ids ev ++ [x.id]:=by rw [qon]; unfold idsG; rw [if_neg hin]
  refine ⟨?_,?_⟩
  ·have hE:∀ c ∈ ev,c.1.id ≠ x.id:=fun c hc he=>hin (qk2.2 ⟨c,hc,he⟩)
   intro a ha b hb hab
   rcases List.mem_append.1 ha with ha | ha <;> rcases List.mem_append.1 hb with hb | hb
   ·exact hg a ha b hb hab
   ·obtain rfl:=List.mem_singleton.1 hb; exact absurd hab (hE a ha)
   ·obtain rfl:=List.mem_singleton.1 ha; exact absurd hab.symm (hE b hb)
   ·obtain rfl:=List.mem_singleton.1 ha; obtain rfl:=List.mem_singleton.1 hb; rfl
  ·rw [hids,hlen]
   have hp:=qoW 0 (ids ev) x.id hin
   rw [Nat.zero_add] at hp
   rw [hp]
   congr 1
   refine Prod.ext rfl ?_
   simp only
   unfold qcR
   rw [hids,List.map_append,List.map_cons,List.map_nil]
   congr 1
   ·apply List.map_congr_left
    intro a ha
    exact (ql3 fun e=>hin (by simp only at e; rw [e]; exact ha)).symm
   ·have hfa:flt (ev ++ [(x,r)]) x.id = [(x,r)]:=by rw [qk3,qsw hin]; unfold flt; simp
    unfold EntE qih
    rw [hfa]
    simp only [ent,E0,fld,cmD,vlD,List.foldl_cons,List.foldl_nil,List.flatMap_nil,List.append_nil,List.nil_append,cond_false]
    rfl
theorem Good.sub {a b:List Ev} (h:Good (a ++ b)):Good a:=fun e he e' he'=>h e (List.mem_append_left _ he) e' (List.mem_append_left _ he')
theorem Good.right {a b:List Ev} (h:Good (a ++ b)):Good b:=fun e he e' he'=>h e (List.mem_append_right _ he) e' (List.mem_append_right _ he')
def evF (f:File) (rs:List Found2):List Ev:=rs.map fun x=>(x,refT f x)
theorem qnK (i:Int) (f:File):∀ (rs:List Found2) (ev:List Ev),Good ev →
  (Good (ev ++ evF f rs) ∧ qbb (gR i f) rs (ixF 0 (ids ev),qcR ev) = .inl (ixF 0 (ids (ev ++ evF f rs)),qcR (ev ++ evF f rs))) ∨ (¬Good (ev ++ evF f rs) ∧ ∃ o,qbb (gR i f) rs (ixF 0 (ids ev),qcR ev) = .inr ([],Place.mk i o,14))
 | [],ev,hg=>.inl ⟨by simpa [evF] using hg,by simp [evF,qbb]⟩
 | x :: rs,ev,hg=>by
  have e:ev ++ evF f (x :: rs) = (ev ++ [(x,refT f x)]) ++ evF f rs:=by simp [evF]
  rw [qbb,e]
  have e2:gR i f (ixF 0 (ids ev),qcR ev) x = rnd i f x (ixF 0 (ids ev)) (qcR ev):=rfl
  rw [e2]
  rcases qqX hg i f x with ⟨h1,h2⟩ | ⟨h1,h2⟩
  ·rw [h2]
   exact qnK i f rs _ h1
  ·rw [h2]
   exact .inr ⟨fun h=>h1 h.sub,x.offset,rfl⟩
def evs (s:List State) (calls:List Call) (files:List File):List Ev:=files.flatMap fun f=>evF f (occs (tokR s f.Text).1 calls)
theorem qmK (s:List State) (calls:List Call):∀ (files:List File) (k:Nat) (ev:List Ev),Good ev →
  (Good (ev ++ evs s calls files) ∧ qbb (gX s calls) files (k,ixF 0 (ids ev),qcR ev) = .inl (k + files.length,ixF 0 (ids (ev ++ evs s calls files)),qcR (ev ++ evs s calls files))) ∨ (¬Good (ev ++ evs s calls files) ∧ ∃ p,qbb (gX s calls) files (k,ixF 0 (ids ev),qcR ev) = .inr ([],p,14))
 | [],k,ev,hg=>.inl ⟨by simpa [evs] using hg,by simp [evs,qbb]⟩
 | f :: files,k,ev,hg=>by
  have e:ev ++ evs s calls (f :: files) = (ev ++ evF f (occs (tokR s f.Text).1 calls)) ++ evs s calls files:=by simp [evs]
  rw [qbb,e]
  unfold gX
  simp only
  rcases qnK (k:Int) f (occs (tokR s f.Text).1 calls) ev hg with ⟨h1,h2⟩ | ⟨h1,o,h2⟩
  ·rw [h2]
   simp only
   have:=qmK s calls files (k + 1) _ h1
   unfold gX at this
   rw [List.length_cons,show k + (files.length + 1) = k + 1 + files.length by omega]
   exact this
  ·rw [h2]
   exact .inr ⟨fun h=>h1 h.sub,_,rfl⟩
theorem Good.nil:Good []:=fun e he=>by cases he
def qtf (s:List State) (files:List File):Prop:=∀ f ∈ files,(tokR s f.Text).2.2 = 0
theorem qqu (s:List State):∀ (l:List File) (all:List (List Token)) (r:List Entry × Place × Int),qbb (gT s) l all = .inr r → r.1 = [] ∧ r.2.2 ≠ 0
 | [],all,r,h=>by cases h
 | f :: l,all,r,h=>by
  rw [qbb] at h
  by_cases h0:(tokR s f.Text).2.2 = 0
  ·have hg:gT s all f = .inl (all ++ [(tokR s f.Text).1]):=by unfold gT; rw [if_neg (by simpa using h0)]
   rw [hg] at h
   exact qqu s l _ r h
  ·have hg:gT s all f = .inr ([],Place.mk (all.length:Int) (tokR s f.Text).2.1,(tokR s f.Text).2.2):=by unfold gT; rw [if_pos h0]
   rw [hg] at h
   cases h
   exact ⟨rfl,h0⟩
structure ExOk (s:List State) (calls:List Call) (files:List File):Prop where
 v:Vl s
 c:VC calls
 n:NM files
 t:qtf s files
 g:Good (evs s calls files)
 l:(ids (evs s calls files)).length ≤ 1000
theorem qpN {s:List State} {calls:List Call} {files:List File} (h:ExOk s calls files):exR s calls files = (qcR (evs s calls files),P0,0):=by
 unfold exR
 rw [if_pos ⟨h.v,h.c,h.n⟩,qry s files [] h.t]
 simp only
 have hs:=qmK s calls files 0 [] Good.nil
 rw [List.nil_append] at hs
 rcases hs with ⟨_,h2⟩ | ⟨h1,_⟩
 ·have e:qbb (gX s calls) files (0,[],[]) = _:=h2
  rw [e]
  simp only
  rw [if_neg (by unfold qcR; rw [List.length_map]; have:=h.l; omega)]
 ·exact absurd h.g h1
theorem qoV {s:List State} {calls:List Call} {files:List File} (h:¬ExOk s calls files):(exR s calls files).1 = [] ∧ (exR s calls files).2.2 ≠ 0:=by
 unfold exR
 by_cases h0:Vl s ∧ VC calls ∧ NM files
 ·rw [if_pos h0]
  cases hT:qbb (gT s) files [] with
  | inr r=>exact qqu s files [] r hT
  | inl all =>
   simp only
   obtain ⟨_,ht⟩:=qn3 s files [] all hT
   have hs:=qmK s calls files 0 [] Good.nil
   rw [List.nil_append] at hs
   rcases hs with ⟨h1,h2⟩ | ⟨h1,p,h2⟩
   ·have e:qbb (gX s calls) files (0,[],[]) = _:=h2
    rw [e]
    simp only
    by_cases hl:(qcR (evs s calls files)).length > 1000
    ·rw [if_pos hl]; exact ⟨rfl,by decide⟩
    ·exact absurd ⟨h0.1,h0.2.1,h0.2.2,ht,h1,by unfold qcR at hl; rw [List.length_map] at hl; omega⟩ h
   ·have e:qbb (gX s calls) files (0,[],[]) = _:=h2
    rw [e]
    exact ⟨rfl,show (14:Int) ≠ 0 by decide⟩
 ·rw [if_neg h0]; exact ⟨rfl,by decide⟩
end Go.Proofs.YtllfckekodcdaaaGreatDoor
namespace Go.Proofs.YtllfckekodcdaaaGreatDoor
open Go.X
end Go.Proofs.YtllfckekodcdaaaGreatDoor
namespace Go.Proofs.YtllfckekodcdaaaGreatDoor
open Go.X
theorem qsY {N:Nat} {st:Setting} {files:List File} (hs:Sz N st.Script) (h1:st.Calls.length < N) (h2:files.length < N):∃ b,qeT N st files = some b ∧ (b = true → FewP st.Calls files):=by
 unfold qeT
 obtain ⟨b,hb⟩:=qq4 (N:=N) hs
 rw [hb,Option.bind_some]
 cases b with
 | false=>exact ⟨false,rfl,fun h=>by cases h⟩
 | true =>
  rw [cond_true]
  obtain ⟨c,hc,hp⟩:=qs1 (N:=N) h1 h2
  rw [hc]
  exact ⟨c,rfl,hp.1⟩
theorem qmq {N:Nat} {s:List State} {calls:List Call} {files:List File} (ho:ScOk s) (hs:Sz N s) (hF:FewQ calls files) (hN:1000000 < N):qb8 N (Setting.mk s calls) files = some (exR s calls files):=by
 unfold qb8
 have hc:=hF.2.1
 have hf:=hF.2.2
 simp only
 rw [qtx ho hs,Option.bind_some,qsZ (by omega) (by omega),Option.bind_some,qq0 (by omega) (by omega),Option.bind_some,extract_eq hs ho.sb hF hN]
 rfl
theorem qjb {N:Nat} {a:List Str} (hN:a.length < N):qcg N a a = some true:=by
 unfold qcg
 rw [bne_self_eq_false,cond_false]
 rcases qfr (body:=fun s=>qb5 N a a s) (fun _:Str=>True) a hN (fun k x hx=>by
  unfold qb5
  rw [dk (List.getElem?_eq_some_iff.1 hx).1,cond_true,ixg hx]
  simp only [Option.bind_some]
  rw [bne_self_eq_false,cond_false]
  exact .inl ⟨trivial,rfl⟩) (by unfold qb5; rw [dn,cond_false]) with ⟨h,_⟩ | ⟨_,h⟩
 ·rw [h]; rfl
 ·exact absurd (fun _ _=>trivial) h
theorem qoH:∀ (l:List Ev) (acc:List Str) (c:Str),(c ∈ acc ∨ ∃ e ∈ l,e.1.comment = c ∧ c ≠ []) → c ∈ l.foldl (fun acc e=>cmsL acc e.1.comment) acc
 | [],acc,c,h=>by
  rcases h with h | ⟨e,he,_⟩
  ·exact h
  ·cases he
 | x :: l,acc,c,h=>by
  rw [List.foldl_cons]
  apply qoH l
  unfold cmsL
  rcases h with h | ⟨e,he,h1,h2⟩
  ·left
   split
   ·exact h
   ·exact List.mem_append_left _ h
  ·rcases List.mem_cons.1 he with rfl | he
   ·left
    split
    ·rename_i g
     rcases g with g | g
     ·exact absurd (h1.symm.trans g) h2
     ·rw [← h1]; simpa using g
    ·exact List.mem_append_right _ (by simp [h1])
   ·exact .inr ⟨e,he,h1,h2⟩
theorem qmT:∀ (l:List Ev) (acc:List Str),(∀ e ∈ l,e.1.comment = [] ∨ e.1.comment ∈ acc) → l.foldl (fun acc e=>cmsL acc e.1.comment) acc = acc
 | [],acc,_=>rfl
 | x :: l,acc,h=>by
  rw [List.foldl_cons]
  have:cmsL acc x.1.comment = acc:=by
   unfold cmsL
   rcases h x (List.mem_cons_self ..) with g | g
   ·rw [if_pos (.inl g)]
   ·rw [if_pos (.inr (by simpa using g))]
  rw [this]
  exact qmT l acc fun e he=>h e (List.mem_cons_of_mem _ he)
def Twin (a b:List Ev):Prop:=a.map Prod.fst = b.map Prod.fst
theorem Twin.mem {a b:List Ev} (h:Twin a b) {e:Ev} (he:e ∈ b):∃ e' ∈ a,e'.1 = e.1:=by
 have:e.1 ∈ a.map Prod.fst:=by rw [h]; exact List.mem_map.2 ⟨e,he,rfl⟩
 obtain ⟨e',h1,h2⟩:=List.mem_map.1 this
 exact ⟨e',h1,h2⟩
theorem qmQ:∀ (l:List Ev) (acc:List Str),(∀ e ∈ l,e.1.id ∈ acc) → l.foldl idsG acc = acc
 | [],acc,_=>rfl
 | x :: l,acc,h=>by
  rw [List.foldl_cons]
  have:idsG acc x = acc:=by unfold idsG; rw [if_pos (h x (List.mem_cons_self ..))]
  rw [this]
  exact qmQ l acc fun e he=>h e (List.mem_cons_of_mem _ he)
theorem Twin.ids {a b:List Ev} (h:Twin a b):ids (a ++ b) = Go.Proofs.YtllfckekodcdaaaGreatDoor.ids a:=by
 rw [qsn]
 exact qmQ b _ fun e he=>by
  obtain ⟨e',h1,h2⟩:=h.mem he
  exact qk2.2 ⟨e',h1,by rw [h2]⟩
theorem Twin.cm {a b:List Ev} (h:Twin a b) (id:Str):cmD (flt (a ++ b) id) = cmD (flt a id):=by
 rw [qk3]
 unfold cmD
 rw [List.foldl_append]
 refine qmT _ _ fun e he=>?_
 obtain ⟨h1,h2⟩:=qjz.1 he
 obtain ⟨e',h3,h4⟩:=h.mem h1
 by_cases hc:e.1.comment = []
 ·exact .inl hc
 ·refine .inr (qoH _ _ _ (.inr ⟨e',qjz.2 ⟨h3,by rw [h4]; exact h2⟩,by rw [h4],hc⟩))
theorem qqn (ev:List Ev):(qcR ev).length = (ids ev).length:=by unfold qcR; simp
theorem qsB (l:List Ev):(cmD l).length ≤ l.length:=by
 have key:∀ (l:List Ev) (acc:List Str),(l.foldl (fun acc e=>cmsL acc e.1.comment) acc).length ≤ acc.length + l.length:=by
  intro l
  induction l with
  | nil=>intro acc; simp
  | cons x l ih =>
   intro acc
   rw [List.foldl_cons]
   have:=ih (cmsL acc x.1.comment)
   have h2:(cmsL acc x.1.comment).length ≤ acc.length + 1:=by unfold cmsL; split <;> simp
   rw [List.length_cons]; omega
 have:=key l []
 unfold cmD
 simpa using this
theorem qss (ev:List Ev) (id:Str):(flt ev id).length ≤ ev.length:=List.length_filter_le _ _
theorem qr0 {s:List State} {calls:List Call} {files:List File} (hv:Vl s) (hF:FewQ calls files):(evs s calls files).length ≤ 2400:=by
 have key:∀ l:List File,(∀ f ∈ l,f.Text.length ≤ 400) → (evs s calls l).length ≤ l.length * 400:=by
  intro l
  induction l with
  | nil=>intro _; simp [evs]
  | cons f l ih =>
   intro h
   have h1:=ih fun g hg=>h g (List.mem_cons_of_mem _ hg)
   have h2:=qnH (tokR s f.Text).1 calls
   have h3:=(qmA (t:=f.Text) hv.1).len
   have h4:=h f (List.mem_cons_self ..)
   simp only [evs,List.flatMap_cons,List.length_append,evF,List.length_map,List.length_cons] at h1 ⊢
   omega
 have:=key files fun f hf=>(hF.1 f hf).1
 have:=hF.2.2
 omega
theorem qr1 (ev:List Ev):(ids ev).length ≤ ev.length:=by
 obtain ⟨r,h1,h2⟩:=qlC ev []
 unfold ids
 rw [h1]; simpa using h2
end Go.Proofs.YtllfckekodcdaaaGreatDoor
namespace Go.Proofs.YtllfckekodcdaaaGreatDoor
open Go.X
theorem qnA {N:Nat} {x:Entry} (h1:x.Comments.length < N) (h2:x.Flags.length < N) (h3:x.Fields.length < N):qde N x x = some true:=by
 unfold qde
 simp only [bne_self_eq_false,cond_false,qjb h1,qjb h2,Option.bind_some,Bool.not_true]
 rcases qfr (body:=fun s=>qcb N x x s) (fun _:Field=>True) x.Fields h3 (fun k y hy=>by
  unfold qcb
  rw [dk (List.getElem?_eq_some_iff.1 hy).1,cond_true,ixg hy]
  simp only [Option.bind_some,beq_self_eq_true,Bool.and_self,Bool.not_true,cond_false]
  exact .inl ⟨trivial,trivial⟩) (by unfold qcb; rw [dn,cond_false]) with ⟨h,_⟩ | ⟨_,h⟩
 ·rw [h]; rfl
 ·exact absurd (fun _ _=>trivial) h
theorem qqh {N:Nat} {l:List Entry} (hN:l.length < N) (h:∀ x ∈ l,x.Comments.length < N ∧ x.Flags.length < N ∧ x.Fields.length < N):qcv N l l = some true:=by
 unfold qcv
 rw [bne_self_eq_false,cond_false]
 rcases qfr (body:=fun s=>qcZ N l l s) (fun _:Entry=>True) l hN (fun k y hy=>by
  unfold qcZ
  obtain ⟨h1,h2,h3⟩:=h y (List.mem_of_getElem? hy)
  rw [dk (List.getElem?_eq_some_iff.1 hy).1,cond_true,ixg hy]
  simp only [Option.bind_some,qnA h1 h2 h3,Bool.not_true,cond_false]
  exact .inl ⟨trivial,trivial⟩) (by unfold qcZ; rw [dn,cond_false]) with ⟨h,_⟩ | ⟨_,h⟩
 ·rw [h]; rfl
 ·exact absurd (fun _ _=>trivial) h
theorem qpU {ev:List Ev} {N:Nat} (hN:ev.length + 2 < N):(qcR ev).length < N ∧ ∀ x ∈ qcR ev,x.Comments.length < N ∧ x.Flags.length < N ∧ x.Fields.length < N:=by
 refine ⟨by rw [qqn]; have:=qr1 ev; omega,fun x hx=>?_⟩
 unfold qcR at hx
 obtain ⟨id,_,rfl⟩:=List.mem_map.1 hx
 have h1:=qsB (flt ev id)
 have h2:=qss ev id
 refine ⟨?_,?_,?_⟩
 ·show (cmD (flt ev id)).length < N; omega
 ·show (0:Nat) < N; omega
 ·show (1:Nat) < N; omega
theorem qsv {N:Nat} {s:List State} {calls:List Call} {files:List File} (hF:FewQ calls files) (hN:3000 < N):(exR s calls files).1.length < N ∧ ∀ x ∈ (exR s calls files).1,x.Comments.length < N ∧ x.Flags.length < N ∧ x.Fields.length < N:=by
 by_cases h:ExOk s calls files
 ·rw [qpN h]
  exact qpU (by have:=qr0 h.v hF; omega)
 ·rw [(qoV h).1]
  exact ⟨by simp; omega,fun x hx=>by cases hx⟩
theorem qpL {calls:List Call} {more:Call} {t:Token} (h:t.Text ≠ more.Name):qgc (calls ++ [more]) t = qgc calls t:=by
 unfold qgc
 by_cases hk:t.Kind = qkS
 ·rw [if_pos hk,if_pos hk,List.findIdx?_append]
  cases calls.findIdx? (fun c=>t.Text == c.Name) with
  | some k=>rfl
  | none =>
   have:(t.Text == more.Name) = false:=beq_eq_false_iff_ne.2 h
   simp [List.findIdx?_cons,this]
 ·rw [if_neg hk,if_neg hk]
theorem qsF {l:List Token} {calls:List Call} {more:Call} (h:∀ t ∈ l,t.Text ≠ more.Name) (i:Nat):occ l (calls ++ [more]) i = occ l calls i:=by
 unfold occ
 cases hi:l[i]? with
 | none=>rfl
 | some t =>
  simp only
  rw [qpL (h t (List.mem_of_getElem? hi))]
  cases hk:qgc calls t with
  | none=>rfl
  | some k =>
   obtain ⟨c,hc,_,_,hlt⟩:=qki hk
   simp only
   rw [List.getElem?_append_left hlt]
theorem qrm {l:List Token} {calls:List Call} {more:Call} (h:∀ t ∈ l,t.Text ≠ more.Name):occs l (calls ++ [more]) = occs l calls:=by
 unfold occs
 congr 1
 funext i
 exact qsF h i
theorem qog {s:List State} {c c':List Call}:∀ (files:List File) (st:Nat × Mp × List Entry),(∀ f ∈ files,occs (tokR s f.Text).1 c = occs (tokR s f.Text).1 c') → qbb (gX s c) files st = qbb (gX s c') files st
 | [],_,_=>rfl
 | f :: files,st,h=>by
  rw [qbb,qbb]
  have:gX s c st f = gX s c' st f:=by unfold gX; rw [h f (List.mem_cons_self ..)]
  rw [this]
  cases gX s c' st f with
  | inl st'=>exact qog files st' fun g hg=>h g (List.mem_cons_of_mem _ hg)
  | inr r=>rfl
theorem qrh {s:List State} {calls:List Call} {more:Call} {files:List File} (hw:VC (calls ++ [more])) (h:∀ f ∈ files,Vl s → ∀ t ∈ (tokR s f.Text).1,t.Text ≠ more.Name):exR s (calls ++ [more]) files = exR s calls files:=by
 have hc:VC calls:=by
  obtain ⟨h1,h2,h3⟩:=hw
  refine ⟨fun c hc=>h1 c (List.mem_append_left _ hc),?_,by simp at h3; omega⟩
  rw [List.map_append,List.nodup_append] at h2
  exact h2.1
 unfold exR
 by_cases h0:Vl s ∧ NM files
 ·rw [if_pos ⟨h0.1,hw,h0.2⟩,if_pos ⟨h0.1,hc,h0.2⟩]
  rw [qog files (0,[],[]) (c:=calls ++ [more]) (c':=calls) fun f hf=>qrm (h f hf h0.1)]
 ·rw [if_neg (fun g=>h0 ⟨g.1,g.2.2⟩),if_neg (fun g=>h0 ⟨g.1,g.2.2⟩)]
theorem qp0 (l:List Token):occs l [] = []:=by
 unfold occs
 rw [List.filterMap_eq_nil_iff]
 intro i _
 unfold occ
 cases l[i]? with
 | none=>rfl
 | some t =>
  have:qgc [] t = none:=by unfold qgc; split <;> rfl
  simp only
  rw [this]
theorem qqU (s:List State) (files:List File):evs s [] files = []:=by
 unfold evs
 rw [List.flatMap_eq_nil_iff]
 intro f _
 rw [qp0]; rfl
theorem qrf (s:List State) (files:List File):(exR s [] files).1 = []:=by
 by_cases h:ExOk s [] files
 ·rw [qpN h,qqU]; rfl
 ·exact (qoV h).1
def qfT (n t:Str):Prop:=∃ k,k + n.length ≤ t.length ∧ (t.drop k).take n.length = n
theorem qpf {n t:Str} {l:List Token} (hT:TOk t l) (h:¬qfT n t):∀ k ∈ l,k.Text ≠ n:=fun k hk e=>by
 obtain ⟨p,m,h1,h2,h3⟩:=hT.txt k hk
 rw [e] at h1 h3
 subst h3
 exact h ⟨p,h2,h1.symm⟩
theorem qoD {N:Nat} {t n:Str} {body:Int → Option (Int ⊕ (Unit ⊕ Bool))} (hN:t.length + 1 < N) (ht:t.length ≤ 1000) (hn:n.length ≤ 1000)
  (hb:∀ k:Nat,body (k:Int) = bif decide ((IntKind.wrap .i64 ((k:Int) + (n.length:Int))) ≤ (t.length:Int)) then (slc t (k:Int) (IntKind.wrap .i64 ((k:Int) + (n.length:Int)))).bind fun s64=>bif (s64 == n) then some (.inr (.inr true)) else some (.inl (IntKind.wrap .i64 ((k:Int) + 1))) else some (.inr (.inl ()))) :
  (iter body N 0 = some (.inr true) ∧ qfT n t) ∨ (iter body N 0 = some (.inl ()) ∧ ¬qfT n t):=by
 have key:∀ (j k M:Nat),k + j = t.length + 1 → j < M → (∀ i,i < k → ¬(i + n.length ≤ t.length ∧ (t.drop i).take n.length = n)) → (iter body M (k:Int) = some (.inr true) ∧ qfT n t) ∨ (iter body M (k:Int) = some (.inl ()) ∧ ¬qfT n t):=by
  intro j
  induction j with
  | zero =>
   intro k M hk hM hno
   obtain ⟨M,rfl⟩:∃ M',M = M' + 1:=⟨M - 1,by omega⟩
   right
   have e:(k:Int) + (n.length:Int) = ((k + n.length:Nat):Int):=by omega
   simp only [iter,hb]
   rw [e,qga (by omega),decide_eq_false (by omega),cond_false]
   exact ⟨rfl,fun ⟨i,h1,h2⟩=>hno i (by omega) ⟨h1,h2⟩⟩
  | succ j ih =>
   intro k M hk hM hno
   obtain ⟨M,rfl⟩:∃ M',M = M' + 1:=⟨M - 1,by omega⟩
   have e:(k:Int) + (n.length:Int) = ((k + n.length:Nat):Int):=by omega
   rw [iter]
   have hbk:=hb k
   rw [e,qga (by omega)] at hbk
   by_cases hle:k + n.length ≤ t.length
   ·rw [decide_eq_true (by omega),cond_true,← e,qmx hle,Option.bind_some] at hbk
    by_cases hq:(t.drop k).take n.length = n
    ·rw [beq_iff_eq.2 hq,cond_true] at hbk
     rw [hbk]
     exact .inl ⟨rfl,k,hle,hq⟩
    ·rw [beq_eq_false_iff_ne.2 hq,cond_false,show (k:Int) + 1 = ((k + 1:Nat):Int) by omega,qga (by omega)] at hbk
     rw [hbk]
     refine ih (k + 1) M (by omega) (by omega) fun i hi=>?_
     by_cases hik:i < k
     ·exact hno i hik
     ·obtain rfl:i = k:=by omega
      exact fun g=>hq g.2
   ·rw [decide_eq_false (by omega),cond_false] at hbk
    rw [hbk]
    refine .inr ⟨rfl,fun ⟨i,h1,h2⟩=>hno i (by omega) ⟨h1,h2⟩⟩
 exact key (t.length + 1) 0 N (by omega) hN (fun i hi=>by omega)
theorem qkI {N:Nat} {l:List File} {n:Str} {inner:Nat → Int → Option (Int ⊕ (Unit ⊕ Bool))} {body:Int → Option (Int ⊕ (Unit ⊕ Bool))} (hN:l.length + 500 < N) (hl:∀ f ∈ l,f.Text.length ≤ 400) (hn:n.length ≤ 1000)
  (hi:∀ (i:Nat) (f:File) (k:Nat),l[i]? = some f → inner i (k:Int) = bif decide ((IntKind.wrap .i64 ((k:Int) + (n.length:Int))) ≤ (f.Text.length:Int)) then (slc f.Text (k:Int) (IntKind.wrap .i64 ((k:Int) + (n.length:Int)))).bind fun s64=>bif (s64 == n) then some (.inr (.inr true)) else some (.inl (IntKind.wrap .i64 ((k:Int) + 1))) else some (.inr (.inl ())))
  (hb:∀ i:Nat,i < l.length → body (i:Int) = (iter (inner i) N 0).bind fun o37=>Sum.elim (fun _=>some (.inl ((i:Int) + 1))) (fun o37=>some (.inr (.inr o37))) o37) (hd:body (l.length:Int) = some (.inr (.inl ()))) :
  iter body N 0 = some (.inr true) ∨ (iter body N 0 = some (.inl ()) ∧ ∀ f ∈ l,¬qfT n f.Text):=by
 classical
 have h:=qfs l (fun (_:Unit) f=>if qfT n f.Text then Sum.inr () else .inl ()) body (fun _ k=>(k:Int)) (fun _=>.inl ()) (fun _=>.inr true) (fun _ _=>True) (N:=N) (by omega) (s0:=()) trivial
  (fun k f s hx _=>by
   have hlt:=(List.getElem?_eq_some_iff.1 hx).1
   have hf:=hl f (List.mem_of_getElem? hx)
   rw [hb k hlt]
   rcases qoD (N:=N) (t:=f.Text) (n:=n) (body:=inner k) (by omega) (by omega) hn (fun j=>hi k f j hx) with ⟨h1,h2⟩ | ⟨h1,h2⟩
   ·rw [h1,if_pos h2]; rfl
   ·rw [h1,if_neg h2]; rfl)
  (fun _ _ _ _ _ _ _=>trivial) (fun s _=>hd) (t0:=0) rfl
 have key:∀ m:List File,(qbb (fun (_:Unit) (f:File)=>if qfT n f.Text then Sum.inr () else .inl ()) m () = .inr ()) ∨ (qbb (fun (_:Unit) (f:File)=>if qfT n f.Text then Sum.inr () else .inl ()) m () = .inl () ∧ ∀ f ∈ m,¬qfT n f.Text):=by
  intro m
  induction m with
  | nil=>exact .inr ⟨rfl,by simp⟩
  | cons x m ih =>
   rw [qbb]
   by_cases g:qfT n x.Text
   ·rw [if_pos g]; exact .inl rfl
   ·rw [if_neg g]
    rcases ih with i1 | ⟨i1,i2⟩
    ·exact .inl i1
    ·refine .inr ⟨i1,fun f hf=>?_⟩
     rcases List.mem_cons.1 hf with rfl | hf
     ·exact g
     ·exact i2 f hf
 rcases key l with h1 | ⟨h1,h2⟩
 ·rw [h1] at h; exact .inl h
 ·rw [h1] at h; exact .inr ⟨h,h2⟩
theorem qpk {N:Nat} {s:List State} {calls:List Call} {more:Call} {files:List File} (ho:ScOk s) (hs:Sz N s) (hF:FewP calls files) (hN:1000000 < N) (hm:more.Name.length ≤ 100) (hno:∀ f ∈ files,¬qfT more.Name f.Text) :
  ((app ([]:List (Call)) calls).bind fun l79=>(app l79 ([more]:List (Call))).bind fun l87=>some (Setting.mk s l87)).bind (fun o69 =>
   (qcM N o69.Calls).bind fun r236 =>
   bif (!r236) then some true else
    (qb8 N (Setting.mk s calls) files).bind fun r239 =>
    (qb8 N o69 files).bind fun r252 =>
    bif (r239.2.2 == r252.2.2) then
     bif ((r239.2.1.File == r252.2.1.File) && (r239.2.1.Offset == r252.2.1.Offset)) then
      (qcv N r239.1 r252.1).bind fun r265=>some r265
     else some false
    else some false) = some true:=by
 have hc:=hF.2.2.1
 rw [app1 (by simp; omega),Option.bind_some,List.nil_append,app1 (by simp; omega),Option.bind_some,Option.bind_some]
 simp only
 rcases (qqf (N:=N) (l:=calls ++ [more]) (by simp; omega)).cases with ⟨h,hv⟩ | ⟨h,_⟩
 rotate_left
 ·rw [h]; rfl
 rw [h,Option.bind_some,Bool.not_true,cond_false]
 have hQ:FewQ (calls ++ [more]) files:=⟨hF.1,by simp; omega,hF.2.2.2⟩
 rw [qmq ho hs hF.q hN,Option.bind_some,qmq ho hs hQ hN,Option.bind_some]
 rw [qrh hv (fun f hf hvl t ht=>qpf (qmA hvl.1) (hno f hf) t ht)]
 rw [beq_self_eq_true,cond_true,beq_self_eq_true,beq_self_eq_true,Bool.and_self,cond_true]
 obtain ⟨h1,h2⟩:=qsv (N:=N) (s:=s) hF.q (by omega)
 rw [qqh h1 h2]
 rfl
set_option maxRecDepth 100000 in
theorem qlu (st:Setting) (files:List File) (more:Call) (ho:ScOk st.Script):∃ N,qbX N st files more = some true:=by
 obtain ⟨s,calls⟩:=st
 refine ⟨sz s + calls.length + files.length + 1000300 + 1,?_⟩
 generalize hN:sz s + calls.length + files.length + 1000300 + 1 = N
 obtain ⟨n,hn⟩:∃ n,N = n + 300:=⟨sz s + calls.length + files.length + 1000001,by omega⟩
 have hs:Sz N s:=Sz.of (by omega)
 unfold qbX
 rw [hn,qpl,← hn,Option.bind_some,Bool.not_true,cond_false]
 obtain ⟨b,hb,hfew⟩:=qsY (N:=N) (st:=Setting.mk s calls) (files:=files) hs (by simp only; omega) (by omega)
 rw [hb,Option.bind_some]
 cases b with
 | false=>rfl
 | true =>
  rw [Bool.not_true,cond_false]
  have hF:=hfew rfl
  by_cases hm:more.Name.length ≤ 100
  rotate_left
  ·rw [decide_eq_true (show (more.Name.length:Int) > 100 by omega)]; rfl
  rw [decide_eq_false (show ¬(more.Name.length:Int) > 100 by omega),cond_false]
  have hQ0:FewQ [] files:=⟨hF.1,by simp,hF.2.2.2⟩
  rw [qmq ho hs hQ0 (by omega),Option.bind_some]
  have hfiles:=hF.2.2.2
  have ht:=qpk (N:=N) ho hs hF (by omega) hm
  have hlen:decide (((exR s [] files).1.length:Int) > 0) = false:=by rw [qrf]; rfl
  simp only [hlen,cond_false]
  have h1:=qkI (N:=N) (l:=files) (n:=more.Name) (inner:=fun i=>fun k=>qce N files more (i:Int) k) (body:=fun i=>qb2 N files more i) (by omega) (fun f hf=>(hF.1 f hf).1) (by omega)
   (fun i f k hx=>by simp only [qce]; rw [ixg hx]; simp only [Option.bind_some])
   (fun i hi=>by simp only [qb2]; rw [dk hi,cond_true]) (by simp only [qb2]; rw [dn,cond_false])
  have h2:=qkI (N:=N) (l:=files) (n:=more.Name) (inner:=fun i=>fun k=>qcf N files more (i:Int) k) (body:=fun i=>qb1 N files more i) (by omega) (fun f hf=>(hF.1 f hf).1) (by omega)
   (fun i f k hx=>by simp only [qcf]; rw [ixg hx]; simp only [Option.bind_some])
   (fun i hi=>by simp only [qb1]; rw [dk hi,cond_true]) (by simp only [qb1]; rw [dn,cond_false])
  cases (exR s [] files).2.2 == 0 with
  | true =>
   rw [cond_true]
   rcases h1 with h1 | ⟨h1,hno⟩
   ·rw [h1]; rfl
   ·rw [h1]
    exact ht hno
  | false =>
   rw [cond_false]
   rcases h2 with h1 | ⟨h1,hno⟩
   ·rw [h1]; rfl
   ·rw [h1]
    exact ht hno
end Go.Proofs.YtllfckekodcdaaaGreatDoor
